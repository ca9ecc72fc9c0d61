/- A part. Conditions: none. -/
import Derived.Test.YtplpdfimlnppcaaGreatDoorSort
import Derived.Test.YtplpdfimlnppcaaGreatDoorBun
import Derived.Shelf.SortM.Plain
import Derived.Shelf.SortM.SortNone
namespace Go.GD
open Go Go.RowKit Go.Shelf Go.Sort Go.Proofs
set_option autoImplicit false
variable {qd : Prop}
theorem zYC {τ : Type} [Inhabited τ] (enc : τ → Value) (d : Array τ) (cells : Array Value) : putCells enc 0 d cells = putCells id 0 (d.map enc) cells := by
 apply Array.ext
 ·simp [putCells]
 ·intro i h1 h2
  simp only [putCells, Array.getElem_mapIdx, Array.size_map]
  split
  ·rename_i h
   have hlt : i - 0 < d.size := by omega
   rw [getElem!_pos d _ hlt, getElem!_pos (d.map enc) _ (by simpa using hlt)]
   simp
  ·rfl
theorem z4Q {P : Program} {f : Nat} {τ : Type} [Inhabited τ] {e : E τ} (enc : τ → Value) (hn : e.n = 1) (F : ∀ {Z w cs x}, e.rd Z w cs x ↔ cs = [enc x]) (le : τ → τ → Bool)
  (hnone : ∀ p cap w, Calls P f #[.slice p 0 cap] w fun e w' => e = .returned (.tuple #[]) ∧ w' = w)
  (hsome : ∀ blk off cap (zs : List τ) w, Holds enc w blk off zs.toArray → blk < w.heap.size → zs.length < 4611686018427387904 → Calls P f #[.slice (some ⟨blk, off, none⟩) zs.length cap] w fun e w' =>
   e = .returned (.tuple #[]) ∧ ∃ n os, w' = grow (putRow enc (Sort.ahead w n) blk off (zs.mergeSort le).toArray) os)
  {te : TypeId} {A : List Nat} {w : World} {r : zW} {p : Option Addr} {c : Nat} {l z : List τ} (hO : wC A w [r]) (hA : yL e te (bl [r] ++ A) w r p c l) (hm : (if l.length < 4294967296 then some (l.mergeSort le) else none) = some z) :
  Calls P f #[.slice p l.length c] w (Ret fun v w' => ∃ r', v = .tuple #[] ∧ wC A w' [r'] ∧ qT qd [r] w [r'] w' ∧ yL e te (bl [r'] ++ A) w' r' p c z ∧ List.length z = List.length l) := by
 split at hm
 case isFalse => cases hm
 rename_i hl
 obtain rfl := Option.some.inj hm
 have G : uH e := ⟨fun x => [enc x], F⟩
 have hG : ∀ {Z : List Nat} {w : World} {l : List τ} {cs : List Value}, e.rdL Z w cs l ↔ cs = l.map enc := by
  intro Z w l
  induction l with
  | nil => intro cs; simp [E.rdL]
  | cons x l ih =>
   intro cs
   simp only [E.rdL, List.map_cons]
   constructor
   ·rintro ⟨c1, c2, rfl, h1, h2⟩
    rw [F.1 h1, ih.1 h2]; rfl
   ·rintro rfl
    exact ⟨[enc x], _, rfl, F.2 rfl, ih.2 rfl⟩
 rcases hA with ⟨rfl, rfl, rfl, rfl⟩ | ⟨b, cells, rfl, rfl, h3, h4, h5, h6⟩
 ·refine (hnone none 0 w).mono ?_
  rintro e w' ⟨rfl, rfl⟩
  exact ⟨[], rfl, hO, qT.refl _ _, by rw [List.mergeSort_nil]; exact yL.nil, by simp⟩
 ·have hb := tX hO (i := 0) rfl (List.mem_singleton.2 rfl)
  have hblk := (Array.getElem?_eq_some_iff.1 hb).1
  have hcs := hG.1 h6
  rw [hn, Nat.mul_one] at h5 hcs
  have hH : Holds enc w b 0 l.toArray := by
   intro j hj
   have hj' : j < l.length := by simpa using hj
   rw [cell_of_row w b (0 + j) cells te (0, 0) hb, Nat.zero_add]
   refine ⟨?_, by simp [World.frozen?, hb]⟩
   have h1 : (cells.toList.take l.length)[j]? = cells[j]? := by rw [List.getElem?_take, if_pos hj']; simp
   rw [← h1, hcs, List.getElem?_map, List.getElem?_eq_getElem hj', getElem!_pos l.toArray j hj]
   simp
  refine (hsome b 0 c l w hH hblk (by omega)).mono ?_
  rintro e' w' ⟨rfl, n, os, rfl⟩
  have hlen : (l.mergeSort le).length = l.length := List.length_mergeSort _
  have hrow : ∀ W : World, putRow enc W b 0 (l.mergeSort le).toArray = putRow id W b 0 ((l.mergeSort le).toArray.map enc) := fun W => by
   show mapBlock W b _ = mapBlock W b _
   congr 1
   funext cs
   exact zYC enc _ cs
  rw [hrow]
  generalize hD : (l.mergeSort le).toArray.map enc = D
  have hDs : D.size = l.length := by rw [← hD]; simp
  obtain ⟨k1, k2⟩ := zYZ (n := n) hb D os
  have hgrow : w.heap.size ≤ (grow (putRow id (Sort.ahead w n) b 0 D) os).heap.size := by
   show w.heap.size ≤ ((w.heap.modify b _) ++ os).size
   simp
  have hoth : ∀ k, k < w.heap.size → k ∉ [(b, Obj.cells cells te (0, 0))].map Prod.fst → (grow (putRow id (Sort.ahead w n) b 0 D) os).heap[k]? = w.heap[k]? := fun k hk hn => k2 k hk (fun e => hn (by simp [e]))
  have hE : qT qd [[(b, Obj.cells cells te (0, 0))]] w [[(b, Obj.cells (putCells id 0 D cells) te (0, 0))]] (grow (putRow id (Sort.ahead w n) b 0 D) os) :=
   qT.set (i := 0) rfl rfl rfl rfl hgrow hoth (fun q hq => .inl (by simp only [List.mem_singleton] at hq; subst hq; simp)) (fun _ => Nat.le_add_right _ _)
  refine ⟨[(b, .cells (putCells id 0 D cells) te (0, 0))], rfl, ?_, hE, .inr ⟨b, _, rfl, rfl, by rw [hlen]; exact h3, h4, ?_, ?_⟩, hlen⟩
  ·exact hO.set (i := 0) rfl hgrow hoth (fun q hq => by simp only [List.mem_singleton] at hq; subst hq; exact k1) (by simp) (fun q hq => .inl (by simp only [List.mem_singleton] at hq; subst hq; simp))
  ·simp [putCells, h5, hn]
  ·rw [hlen, hn, Nat.mul_one, ← hDs, zRs _ _ (by rw [hDs, h5]; exact h3), ← hD]
   exact hG.2 (by simp)
theorem z4N {P : Program} {ρ : Ren} (L : SlLaysM.n5 P ρ) {te : TypeId} {A : List Nat} {w : World} {r : zW} {p : Option Addr} {c : Nat} {l z : List Int} (hO : wC A w [r]) (hA : yL (zK .i64) te (bl [r] ++ A) w r p c l) (hm : z4q l = some z) :
  Calls P (ρ.f 5) #[.slice p l.length c] w (Ret fun v w' => ∃ r', v = .tuple #[] ∧ wC A w' [r'] ∧ qT qd [r] w [r'] w' ∧ yL (zK .i64) te (bl [r'] ++ A) w' r' p c z ∧ List.length z = List.length l) :=
 z4Q (Value.int .i64) rfl Iff.rfl _ (AnyM.slices_Sort_int_none L) (fun blk off cap zs w h1 h2 h3 => AnyM.slices_Sort_int L blk off cap zs w h1 h2 h3) hO hA hm
end Go.GD
