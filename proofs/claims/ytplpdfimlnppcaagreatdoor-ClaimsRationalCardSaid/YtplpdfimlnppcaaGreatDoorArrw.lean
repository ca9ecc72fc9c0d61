/- A part. Conditions: none. -/
import Derived.Test.YtplpdfimlnppcaaGreatDoorArrl
import Derived.Test.YtplpdfimlnppcaaGreatDoorAeq
namespace Go.GD
open Go Go.RowKit
set_option autoImplicit false
variable {qd : Prop}
set_option linter.unusedVariables false
section
variable {P : Program} {n : Nat} {X : Hd qd} {ρ : Type} {Q : PQ ρ} {S : Sl} {Ls : List zW} {F : List PP} {m : Option ρ} {os : Array Oper} {ol : List Oper} {x y : Operand} {p p' : uZ} {a : Act}
variable {d t : Nat} {ty : TypeId} {pos : String} {af : Array Edge} {g : Option (Nat × Bool)} {kd : IntKind} {B Jj : List Nat} {li : Array Bool} {fuel : Nat}
variable {b o : Nat} {te : TypeId} {fr : Nat × Nat}
theorem z4x {pre post : List Value} {k : Nat} {l : List Int} (ho : pre.length = o) : ((pre ++ (yZ k l ++ post)).drop o).take k = yZ k l := by
 subst ho
 rw [List.drop_left, List.take_append_of_le_length (by rw [zCv]; exact Nat.le_refl _), List.take_of_length_le (by rw [zCv]; exact Nat.le_refl _)]
theorem zXA {pre post : List Value} {k : Nat} {l : List Int} (ho : pre.length = o) (ht : uM P t = some (true, k)) : zO7 P t (pre ++ (yZ k l ++ post)).toArray o = some (.agg (yZ k l).toArray) := by
 unfold zO7
 rw [ht]
 have : Nat.ble (o + k) (pre ++ (yZ k l ++ post)).toArray.size = true := by
  rw [Nat.ble_eq, List.size_toArray, List.length_append, List.length_append, zCv]; omega
 simp only [this, if_true, z16, mkV]
 rw [z4x ho]
theorem jlW (i k : Nat) (l : List Int) (pre post : List Value) (hx : qE S x = some (pt b o)) (hr : Ls[i]? = some [(b, .cells (uC pre k l post).toArray te fr)])
  (h : J P n X Q (.ops os ol) ((d, .agg (yZ k l).toArray) :: S) Ls F m) (ho : pre.length = o := by rfl) (ht : uM P t = some (true, k) := by kernel_rfl) (hd : Nat.blt d n = true := by kernel_rfl) (hg : wB os S g = some true := by kernel_rfl) : J P n X Q (.ops os (⟨some d, .load t x, ty, pos, af, g⟩ :: ol)) S Ls F m :=
 ⟨fun hq r hm' a w' hs => sl (zPx i (.agg (yZ k l).toArray) hs hx hr (fun a h' => h.go hq r hm' a w' h') (zXA ho ht) hd hg)⟩
theorem jdlW (i q k : Nat) (l : List Int) (pre post : List Value) (hi : os[i]? = some ⟨some d, .load t x, ty, pos, af, g⟩) (hx : qE S x = some (pt b o)) (hr : Ls[q]? = some [(b, .cells (uC pre k l post).toArray te fr)])
  (h : J P n X Q (.dr os B Jj fuel (li.setIfInBounds i true)) ((d, .agg (yZ k l).toArray) :: S) Ls F m) (ho : pre.length = o := by rfl)
  (ht : uM P t = some (true, k) := by kernel_rfl) (hb : B.all (fun j => behind os i os.size j) = true := by kernel_rfl) (hJ : Jj.contains q = true := by kernel_rfl)
  (hk : uE os B li i = true := by kernel_rfl) (hd : Nat.blt d n = true := by kernel_rfl) (hg : wB os S g = some true := by kernel_rfl) : J P n X Q (.dr os B Jj (fuel + 1) li) S Ls F m :=
 ⟨fun hq r hm' a w' hs => dlo i q (.agg (yZ k l).toArray) hs hi hx hr (fun a' hs' => h.go hq r hm' a' w' hs') (zXA ho ht) hb hJ (fun c v a w hp => (hq r c _ _ hp).elim) hk hd hg⟩
theorem jsW (l2 : List Int) (at0 : At Ls p os ⟨none, .store t x y, ty, pos, af, g⟩ p') (i k : Nat) (l : List Int) (pre post : List Value) (hx : qE S x = some (pt b o)) (hy : qE S y = some (.agg (yZ k l2).toArray)) (hr : Ls[i]? = some (bx b te (uC pre k l post)))
  (h : zY3 Ls i (bx b te (uC pre k l2 post)) fun Ls' => J P n X Q p' S Ls' F m) (ho : pre.length = o := by rfl) (ht : uM P t = some (true, k) := by kernel_rfl) (hg : wB os S g = some true := by kernel_rfl) : J P n X Q p S Ls F m :=
 ⟨fun hq r hm' a w' hs => at0.run fun K hK => by
  have hput : tH (pre ++ (yZ k l ++ post)).toArray o (Value.agg (yZ k l2).toArray).cells.toList = (pre ++ (yZ k l2 ++ post)).toArray := by
   subst ho
   have h1 : (pre ++ (yZ k l ++ post)).drop (pre.length + (yZ k l2).length) = post := by
    rw [zCv, List.drop_append, List.drop_of_length_le (by omega), List.nil_append, Nat.add_sub_cancel_left, List.drop_append, List.drop_of_length_le (by rw [zCv]; omega), zCv, Nat.sub_self, List.drop_zero, List.nil_append]
   simp only [tH, Value.cells]
   rw [List.take_left, h1, List.append_assoc]
  refine zRB i hs hx hy hr (fun a w2 h' e => hK e ?_) ?_ hg
  ·rw [zJ4] at h
   rw [hput] at h' ⊢
   exact h.go hq r hm' a w2 h'
  ·unfold zNy
   rw [ht]
   have hble : Nat.ble (o + k) (pre ++ (yZ k l ++ post)).toArray.size = true := by
    rw [Nat.ble_eq, List.size_toArray, List.length_append, List.length_append, zCv]; omega
   have hsz : ((Value.agg (yZ k l2).toArray).cells.size == k) = true := by simp [Value.cells, zCv]
   have hone : (Value.agg (yZ k l2).toArray).cells.toList.all (fun x => x.oneCell') = true := by
    simp only [Value.cells, List.all_eq_true]
    intro v hv
    simp only [yZ, List.mem_map] at hv
    obtain ⟨j, _, rfl⟩ := hv
    rfl
   simp only [hble, hsz, hone]
   rfl⟩
theorem zYc {k : Nat} {l u : List Int} {j : Int} (h : z4y k l j = some u) : 0 ≤ j ∧ j ≤ k ∧ u = (List.range j.toNat).map fun i => l.getD i 0 := by
 unfold z4y at h
 split at h
 ·rename_i h0; exact ⟨h0.1, h0.2, (Option.some.inj h).symm⟩
 ·cases h
theorem r_asl {k : Nat} {j : Int} {dd : Option Tmp} (hS : wH a n S) (hx : qE S x = some (pt b o)) (hy : qE S y = some (.int kd j)) (ht : zMq P t = some (k, 1)) (h0 : 0 ≤ j) (hk : j ≤ k) (w : World) :
  (execOp a.eval ⟨dd, .slice t x none (some y) none, ty, pos, af, g⟩).run P w = .ok (.value (.slice (some ⟨b, o, none⟩) j.toNat k)) w := by
 unfold zMq at ht
 split at ht
 ·rename_i k' el hu
  cases hq : P.info? el with
  | none => simp [hq] at ht
  | some info =>
   have hh : k' = k ∧ info.size = 1 := by simpa [hq] using ht
   obtain ⟨rfl, hs⟩ := hh
   have hb : (Instr.sliceBounds false k' k' none (some (.int kd j)) none).run P w = .ok (0, j.toNat, k') w := by
    simp [Instr.sliceBounds, Instr.sliceBound, asIntOf, h0, hk]
   simp [execOp, hS.eval hx, hS.eval hy, Instr.sliceAt, Instr.sureAddr, run_underlying hu, hb, sizeOf, typeInfo, hq, hs, zDm]
 ·cases ht
theorem z0A {k : Nat} {l u : List Int} {j : Int} (h : z4y k l j = some u) : u.length = j.toNat := by
 obtain ⟨_, _, rfl⟩ := zYc h; simp
theorem jdasl {k : Nat} {j : Int} {f : List Int → Option ρ} (i : Nat) (l : List Int) (hi : os[i]? = some ⟨some d, .slice t x none (some y) none, ty, pos, af, g⟩) (hx : qE S x = some (pt b o)) (hy : qE S y = some (.int kd j))
  (h : ∀ u, z4y k l j = some u → J P n X Q (.dr os B Jj fuel (li.setIfInBounds i true)) ((d, sv (some ⟨b, o, none⟩) u k) :: S) Ls F (f u)) (ht : zMq P t = some (k, 1) := by kernel_rfl) (hk : uE os B li i = true := by kernel_rfl) (hd : Nat.blt d n = true := by kernel_rfl) (hg : wB os S g = some true := by kernel_rfl) :
  J P n X Q (.dr os B Jj (fuel + 1) li) S Ls F ((z4y k l j).bind f) :=
 ⟨fun hq r hm a w hs => by
  obtain ⟨u, h1, h2⟩ := bnd hm
  obtain ⟨h3, h4, _⟩ := zYc h1
  refine dv (v := sv (some ⟨b, o, none⟩) u k) i hs hi (fun w' => ?_) (fun a' hs' => (h u h1).go hq r h2 a' w hs') (fun c v a w hp => (hq r c _ _ hp).elim) hk hd hg
  rw [sv, z0A h1]
  exact r_asl hs.s hx hy ht h3 h4 w'⟩
theorem zX5 {Z : List Nat} {w : World} : ∀ (u : List Int), (zK .i64).rdL Z w (u.map vi) u
 | [] => rfl
 | x :: u => ⟨[vi x], u.map vi, rfl, rfl, zX5 u⟩
theorem cA {js ls : List Nat} {u : List Int} {j : Int} (i k : Nat) (l : List Int) (pre post : List Value) (hu : z4y k l j = some u) (hr : Ls[i]? = some [(b, .cells (uC pre k l post).toArray te fr)]) (ho : pre.length = o := by rfl)
  (hk : zZk (js ++ ls) Ls.length = true := by kernel_rfl) (hi : ls.contains i = true := by kernel_rfl) : OKc Ls F js ls (Rl (zK .i64) (some ⟨b, o, none⟩) k u) := fun A w hO hA => by
 obtain ⟨hn, _⟩ := zNR hk
 have hi' : i ∈ ls := by simpa using hi
 have hij : i ∉ js := fun hj => (List.nodup_append.1 hn).2.2 i hj i hi' rfl
 obtain ⟨h0, h1, he⟩ := zYc hu
 have hb := hO.has _ (List.mem_of_getElem? hr) _ (List.mem_singleton.2 rfl)
 have hul := z0A hu
 refine ⟨⟨by rw [hul]; omega, .inr ⟨b, o, u.map vi, rfl, fun hm => ?_, (Array.getElem?_eq_some_iff.1 hb).1, zX5 u, fun q v hv => ?_⟩⟩, rfl⟩
 ·rcases List.mem_append.1 hm with hm | hm
  ·obtain ⟨s, hs, q, hq, he⟩ := zLU.1 hm
   obtain ⟨k, hk, hlk⟩ := zPr hs hq
   exact zEx hO.nodup hr hlk (fun e => hij (e ▸ hk)) _ (List.mem_singleton.2 rfl) q hq he.symm
  ·rcases List.mem_append.1 hm with hm | hm
   ·obtain ⟨k, s, hk, hs, q, hq, he⟩ := zPJ hm
    exact zEx hO.nodup hr hs (fun e => hk (List.mem_append.2 (.inr (e ▸ hi')))) _ (List.mem_singleton.2 rfl) q hq he.symm
   ·exact hO.apart b (zC6 hr (List.mem_singleton.2 rfl)) hm
 ·rw [List.getElem?_map] at hv
  obtain ⟨z, hz, rfl⟩ := Option.map_eq_some_iff.1 hv
  have hqu : q < j.toNat := by rw [← hul]; exact (List.getElem?_eq_some_iff.1 hz).1
  obtain ⟨hlt, hc⟩ := zYt (pre := pre) (post := post) (l := l) (k := k) (j := q) ho (by omega)
  rw [Nat.mul_one] at hc
  have hz' : z = l.getD q 0 := by
   rw [he, List.getElem?_map, List.getElem?_range hqu] at hz
   exact (Option.some.inj hz).symm
  simp only [World.cell?, hb]
  subst hz'
  simpa using hc
theorem zSk {k j : Nat} {l : List Int} (hsh : uM P te = some (false, 1)) (hj : j < k) (w : World) : (part te (yZ k l).toArray (j * 1)).run P w = .ok (vi (l.getD j 0)) w :=
 z24 hsh (by rw [Nat.mul_one, List.getElem?_toArray]; exact zT4 l hj) w
theorem zOs {k : Nat} {l l2 : List Int} (D : Nat) (he : P.underlying te = some (.int .i64)) (hc : P.cellsOf te = 1) (hsh : uM P te = some (false, 1)) (w : World) : ∀ (js : List Nat), (∀ j ∈ js, j < k) →
  (Op.eqItems (D + 1) te (P.cellsOf te) (yZ k l).toArray (yZ k l2).toArray js).run P w = .ok (js.all fun j => l.getD j 0 == l2.getD j 0) w
 | [], _ => by simp [Op.eqItems]
 | j :: js, hj => by
  have ih := zOs (l := l) (l2 := l2) D he hc hsh w js (fun i hi => hj i (List.mem_cons_of_mem _ hi))
  have hjk := hj j (List.mem_cons_self ..)
  unfold Op.eqItems
  rw [hc] at ih ⊢
  simp only [Sem.run_bind, Sem.run_ite]
  rw [zSk hsh hjk, Result.andThen_ok, zSk hsh hjk, Result.andThen_ok, run_equalIn_int w D te .i64 .i64 _ _ he, Result.andThen_ok, ih, List.all_cons]
  cases h1 : (l.getD j 0 == l2.getD j 0) with
  | false => simp
  | true => simp
theorem z5p {k : Nat} {l l2 : List Int} {u : TypeId} {dd : Option Tmp} (hS : wH a n S) (hx : qE S x = some (.agg (yZ k l).toArray)) (hy : qE S y = some (.agg (yZ k l2).toArray)) (hu : P.underlying t = some (.array k te)) (he : P.underlying te = some (.int .i64)) (hi : (P.info? te).isSome = true) (hc : P.cellsOf te = 1)
  (hsh : uM P te = some (false, 1)) (hg : P.eqGuardType P.depth t = false) (w : World) :
  (execOp a.eval ⟨dd, .binOp .eql t x y u, ty, pos, af, g⟩).run P w = .ok (.value (vb (aeq k l l2))) w := by
 obtain ⟨i, hi⟩ := Option.isSome_iff_exists.1 hi
 have hrun : (Op.equalIn 10000 t (.agg (yZ k l).toArray) (.agg (yZ k l2).toArray)).run P w = .ok (aeq k l l2) w := by
  rw [show (10000 : Nat) = 9998 + 1 + 1 from rfl, run_equalIn_array w 9999 _ _ hu hi]
  exact zOs 9998 he hc hsh w (List.range k) (fun j hj => List.mem_range.1 hj)
 simp [execOp, hS.eval hx, hS.eval hy, run_eqGuard_agg, hg, run_eql_struct, hrun]
end
end Go.GD
