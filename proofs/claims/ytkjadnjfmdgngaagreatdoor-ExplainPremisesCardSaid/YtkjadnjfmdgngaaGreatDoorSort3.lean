/- Part of the proof. Conditions: none. -/
import Derived.Test.YtkjadnjfmdgngaaGreatDoorSort2
import Derived.Shelf.SlSortCmp.Whole1
namespace Go.GD
open Go Go.RowKit Go.Shelf Go.Sort Go.Proofs
set_option autoImplicit false
variable {qd : Prop}
theorem zXZ {τ : Type} {e : E τ} (hn : e.n = 1) {Z : List Nat} {w : World} : ∀ {l : List τ} {cs : List Value}, e.rdL Z w cs l → cs.length = l.length ∧ ∀ q ∈ cs.zip l, e.rd Z w [q.1] q.2
 | [], cs, h => by simp only [E.rdL] at h; subst h; simp
 | x :: l, cs, h => by
  obtain ⟨c1, c2, rfl, h1, h2⟩ := h
  have hl := e.len h1
  rw [hn] at hl
  match c1, hl with
  | [v], _ =>
   obtain ⟨k1, k2⟩ := zXZ hn h2
   refine ⟨by simp [k1], fun q hq => ?_⟩
   simp only [List.cons_append, List.nil_append, List.zip_cons_cons, List.mem_cons] at hq
   rcases hq with rfl | hq
   ·exact h1
   ·exact k2 q hq
theorem zQa {τ κ : Type} {e : E τ} {Z : List Nat} {w : World} (f : κ → Value) (g : κ → τ) : ∀ {d : List κ}, (∀ k ∈ d, e.rd Z w [f k] (g k)) → e.rdL Z w (d.map f) (d.map g)
 | [], _ => rfl
 | k :: d, h => ⟨[f k], d.map f, rfl, h k (by simp), zQa f g fun k' hk => h k' (by simp [hk])⟩
theorem zXG {P : Program} {ρ : Ren} (L : SlLaysF.n6 P ρ) {τ : Type} {e : E τ} (h1 : e.n = 1) {te : TypeId}
  (f : τ → τ → Option Int) (g : Nat) (eg : ∀ args w, (callFunc g args).run P w = .ok (.enter g args) w)
  (hg : ∀ (A : List Nat) (w : World) (vx vy : Value) (x y : τ) (n : Int), f x y = some n → wA A w [] → e.rd A w [vx] x → e.rd A w [vy] y → Calls P g #[vx, vy] w (Ret fun v w' => v = vi n ∧ qX True [] w [] w'))
  {A : List Nat} {w : World} {r : zZ} {p : Option Addr} {c : Nat} {l z : List τ} (hO : wA A w [r]) (hA : yB e te (bl [r] ++ A) w r p c l) (hm : zSn f l = some z) :
  Calls P (ρ.f 6) #[.slice p l.length c, .func (.func g) #[] #[]] w (Ret fun v w' => ∃ r', v = .tuple #[] ∧ wA A w' [r'] ∧ qX qd [r] w [r'] w' ∧ yB e te (bl [r'] ++ A) w' r' p c z ∧ List.length z = List.length l) := by
 unfold zSn at hm
 split at hm
 case isFalse => cases hm
 rename_i hc
 obtain ⟨hf, hl⟩ := hc
 obtain rfl := Option.some.inj hm
 have L0 : SlLaysF0.n6 P ρ := { L with }
 by_cases hl0 : l = []
 ·subst hl0
  refine (AnyF.slices_SortFunc_none L0 p c _ w).mono ?_
  rintro e' w' ⟨rfl, rfl⟩
  exact ⟨r, rfl, hO, qX.refl _ _, by rw [List.mergeSort_nil]; exact hA, by simp⟩
 rcases hA with ⟨_, _, _, h⟩ | ⟨b, cells, rfl, rfl, h3, h4, h5, h6⟩
 ·exact absurd h hl0
 have hb := zAY hO (i := 0) rfl (List.mem_singleton.2 rfl)
 have hblk := (Array.getElem?_eq_some_iff.1 hb).1
 rw [h1, Nat.mul_one] at h5 h6
 obtain ⟨hlen, hrd⟩ := zXZ h1 h6
 generalize hcs : cells.toList.take l.length = cs at h6 hlen hrd
 let S := cs.zip l
 have hSl : S.length = l.length := by simp [S, hlen]
 have hS2 : S.map Prod.snd = l := by simp only [S]; rw [List.map_snd_zip]; omega
 have hS1 : S.map Prod.fst = cs := by simp only [S]; rw [List.map_fst_zip]; omega
 have hmem : ∀ q ∈ S, q.2 ∈ l := fun q hq => by rw [← hS2]; exact List.mem_map_of_mem hq
 let K := { q : Value × τ // q ∈ S }
 have hin : Nonempty K := by
  have : 0 < S.length := by rw [hSl]; exact List.length_pos_iff.2 hl0
  exact ⟨⟨S[0], List.getElem_mem this⟩⟩
 haveI : Inhabited K := Classical.inhabited_of_nonempty hin
 let enc : K → Value := fun k => k.1.1
 let cf : K → K → Int := fun x y => (f x.1.2 y.1.2).getD 0
 have hlt : ∀ x y : K, ltOf cf x y = yI f x.1.2 y.1.2 := fun _ _ => rfl
 have hOne : OneCell enc := fun k => e.one (hrd k.1 k.2) _ (by simp [enc])
 have hSWO : SWO (ltOf cf) := ⟨fun x => hf.irrefl _ (hmem _ x.2), fun x y z => hf.trans _ (hmem _ x.2) _ (hmem _ y.2) _ (hmem _ z.2), fun x y z => hf.ntrans _ (hmem _ x.2) _ (hmem _ y.2) _ (hmem _ z.2)⟩
 let d : Array K := S.attach.toArray
 have hds : d.size = l.length := by
  show S.attach.toArray.size = l.length
  rw [List.size_toArray, List.length_attach, hSl]
 have hH : Holds enc w b 0 d := by
  intro j hj
  have hj' : j < l.length := by omega
  rw [cell_of_row w b (0 + j) cells te (0, 0) hb, Nat.zero_add]
  refine ⟨?_, by simp [World.frozen?, hb]⟩
  have k1 : (cells.toList.take l.length)[j]? = cells[j]? := by rw [List.getElem?_take, if_pos hj']; simp
  rw [← k1, hcs, ← hS1, List.getElem?_map, List.getElem?_eq_getElem (by omega), getElem!_pos d j hj]
  show some (S[j]).1 = some (enc (S.attach.toArray[j]))
  rw [List.getElem_toArray, List.getElem_attach]
 have hsame : ∀ (m : Nat) (D : Array K) (os : Array Obj) k, k < w.heap.size → k ≠ b → (sortWorld enc w b 0 m D os).heap[k]? = w.heap[k]? := fun m D os k hk hne => by
  show ((w.heap.modify b (onCells (putCells enc 0 D))) ++ os)[k]? = _
  rw [Array.getElem?_append_left (by simpa using hk), Array.getElem?_modify, if_neg (Ne.symm hne)]
 have hsize : ∀ (m : Nat) (D : Array K) (os : Array Obj), w.heap.size ≤ (sortWorld enc w b 0 m D os).heap.size := fun m D os => by
  show w.heap.size ≤ ((w.heap.modify b _) ++ os).size
  simp
 have hstep : ∀ (m : Nat) (D : Array K) (os : Array Obj), yG (bl [[(b, Obj.cells cells te (0, 0))]] ++ A) w (bl [[(b, Obj.cells cells te (0, 0))]] ++ A) (sortWorld enc w b 0 m D os) := fun m D os =>
  ⟨hsize m D os, fun k hk hn => ⟨hn, hsame m D os k hk (fun e => hn (by simp [bl, e]))⟩⟩
 have hC : CmpLays1 P g #[] enc cf b 0 d.size w := by
  intro m os dk _ x y
  obtain ⟨n, hn⟩ := hf.tot _ (hmem _ x.2) _ (hmem _ y.2)
  have hO' : wA (bl [[(b, Obj.cells cells te (0, 0))]] ++ A) (sortWorld enc w b 0 m dk os) [] := by
   refine ⟨fun k hk => ?_, by simp, by simp [bl], by simp [bl]⟩
   have h := hsize m dk os
   rcases List.mem_append.1 hk with h' | h'
   ·simp [bl] at h'; omega
   ·have := hO.old k h'; omega
  have := hg _ (sortWorld enc w b 0 m dk os) (enc x) (enc y) _ _ n hn hO' (e.step (hstep m dk os) (hrd _ x.2)) (e.step (hstep m dk os) (hrd _ y.2))
  simp only [Array.append_empty]
  refine Calls.mono this ?_
  intro e w' he
  cases e with
  | returned v =>
   obtain ⟨rfl, hE⟩ := he
   exact ⟨by simp only [cf]; rw [hn]; rfl, zUC hE⟩
  | _ => exact he.elim
 have hrun := Any.slices_SortFunc L enc hOne cf hSWO g #[] b 0 c d w eg hC hH hblk (by omega)
 rw [hds] at hrun
 refine hrun.mono ?_
 rintro e' w' ⟨rfl, d', n, os, hp, hs, rfl⟩
 obtain ⟨hp1, _, hp3⟩ := hp
 have hp1' : d'.size = l.length := by omega
 have hperm : d'.toList.Perm S.attach := by
  have h := hp3
  have e1 : (d'.extract 0 l.length).toList = d'.toList := by rw [← hp1']; simp
  have e2 : (d.extract 0 l.length).toList = S.attach := by rw [← hds]; simp [d]
  rw [e1, e2] at h; exact h
 have hzz : d'.toList.map (fun k => k.1.2) = l.mergeSort fun x y => !yI f y x := by
  have hmm : (S.attach.mergeSort fun x y => !ltOf cf y x).map (fun k => k.1.2) = l.mergeSort fun x y => !yI f y x := by
   have h := List.map_mergeSort (f := fun k : K => k.1.2) (r := fun x y => !ltOf cf y x) (s := fun x y => !yI f y x) (l := S.attach) (fun a _ b _ => rfl)
   rw [h]
   congr 1
   have h2 : S.attach.map (fun k : K => k.1.2) = (S.attach.map Subtype.val).map Prod.snd := by rw [List.map_map]; rfl
   rw [h2, List.attach_map_subtype_val, hS2]
  have tr : ∀ a b c : K, (!ltOf cf b a) = true → (!ltOf cf c b) = true → (!ltOf cf c a) = true := fun a b c h1 h2 => by
   simp only [Bool.not_eq_true'] at *
   exact hSWO.ntrans _ _ _ h2 h1
  have to : ∀ a b : K, ((!ltOf cf b a) || (!ltOf cf a b)) = true := fun a b => by
   cases h : ltOf cf b a with
   | false => rfl
   | true =>
    cases h' : ltOf cf a b with
    | false => rfl
    | true => have := hSWO.trans _ _ _ h h'; rw [hSWO.irrefl] at this; cases this
  have hperm2 : (d'.toList.map fun k => k.1.2).Perm (l.mergeSort fun x y => !yI f y x) := by
   rw [← hmm]
   exact (hperm.trans (List.mergeSort_perm _ _).symm).map _
  refine List.Perm.eq_of_pairwise (le := fun x y => (!yI f y x) = true) (fun a b ha hb' h1 h2 => ?_) ?_ ?_ hperm2
  ·have ha' : a ∈ l := (List.mergeSort_perm l _).mem_iff.1 (hperm2.mem_iff.1 ha)
   have hb'' : b ∈ l := (List.mergeSort_perm l _).mem_iff.1 hb'
   exact hf.eq a ha' b hb'' (by simpa using h2) (by simpa using h1)
  ·rw [List.pairwise_map, List.pairwise_iff_getElem]
   intro i j hi hj hij
   have hj' : j < d'.size := by simpa using hj
   have hi' : i < d'.size := by simpa using hi
   have := hs i j (Nat.zero_le _) hij (by omega)
   rw [getElem!_pos d' j hj', getElem!_pos d' i hi', hlt] at this
   simpa using this
  ·rw [← hmm, List.pairwise_map]
   exact List.pairwise_mergeSort (le := fun x y => !ltOf cf y x) tr to S.attach
 have hrow : ∀ W : World, putRow enc W b 0 d' = putRow id W b 0 (d'.map enc) := fun W => by
  show mapBlock W b _ = mapBlock W b _
  congr 1
  funext cs
  exact zOS enc _ cs
 have hw' : sortWorld enc w b 0 n d' os = grow (putRow id (Sort.ahead w n) b 0 (d'.map enc)) os := by unfold sortWorld; rw [hrow]
 have hst := hstep n d' os
 rw [hw'] at hst ⊢
 generalize hD : d'.map enc = D at *
 have hDs : D.size = l.length := by rw [← hD]; simpa using hp1'
 obtain ⟨k1, k2⟩ := zPb (n := n) hb D os
 have hgrow : w.heap.size ≤ (grow (putRow id (Sort.ahead w n) b 0 D) os).heap.size := by
  show w.heap.size ≤ ((w.heap.modify b _) ++ os).size
  simp
 have hoth : ∀ k, k < w.heap.size → k ∉ [(b, Obj.cells cells te (0, 0))].map Prod.fst → (grow (putRow id (Sort.ahead w n) b 0 D) os).heap[k]? = w.heap[k]? := fun k hk hn => k2 k hk (fun e => hn (by simp [e]))
 have hE : qX qd [[(b, Obj.cells cells te (0, 0))]] w [[(b, Obj.cells (putCells id 0 D cells) te (0, 0))]] (grow (putRow id (Sort.ahead w n) b 0 D) os) :=
  qX.set (i := 0) rfl rfl rfl rfl hgrow hoth (fun q hq => .inl (by simp only [List.mem_singleton] at hq; subst hq; simp)) (fun _ => Nat.le_add_right _ _)
 have hlz : (l.mergeSort fun x y => !yI f y x).length = l.length := List.length_mergeSort _
 refine ⟨[(b, .cells (putCells id 0 D cells) te (0, 0))], rfl, ?_, hE, .inr ⟨b, _, rfl, rfl, by rw [hlz]; exact h3, h4, ?_, ?_⟩, hlz⟩
 ·exact hO.set (i := 0) rfl hgrow hoth (fun q hq => by simp only [List.mem_singleton] at hq; subst hq; exact k1) (by simp) (fun q hq => .inl (by simp only [List.mem_singleton] at hq; subst hq; simp))
 ·simp [putCells, h5, h1]
 ·subst hD
  rw [hlz, h1, Nat.mul_one, ← hDs, zK7 _ _ (by rw [hDs, h5]; exact h3), ← hzz]
  have : (d'.map enc).toList = d'.toList.map enc := by simp
  rw [this]
  exact zQa enc (fun k : K => k.1.2) fun k hk => e.step hst (hrd _ k.2)
end Go.GD
