/- strconv by the shelf's contracts: numerals at base 10, and Atoi. Conditions: none. -/
import Derived.Test.YtofmfdlkalakaaaGreatDoorIfc
import Derived.Shelf.Strconv.Itoa3
import Derived.Shelf.Strconv.AtoiAll
namespace Go.GD
open Go Go.RowKit Go.Shelf Go.Proofs
set_option autoImplicit false
set_option linter.unusedVariables false
variable {qd : Prop}

theorem ext_grow (w : World) (k : Nat) (os : Array Obj) : Ext qd [] w [] (Go.Sort.grow (w.drewN k) os) :=
  ⟨rfl, rfl, rfl, fun _ => Nat.le_add_right _ _, by simp [Go.Sort.grow], fun i hi _ => (by
    show ((w.drewN k).heap ++ os)[i]? = _
    rw [Array.getElem?_append_left (by show i < w.heap.size; omega)]
    rfl), fun b hb => by simp [bl] at hb⟩

/-- a variable that holds an error, or nil -/
def Gve (g : Nat) : PP :=
  ⟨fun Z w => g ∉ Z ∧ ∃ ev, w.cell? ⟨g, 0, none⟩ = some ev ∧ (ev = .nilIface ∨ ∃ te pe, ev = .iface te pe), by
    rintro Z w Z' w' s ⟨h1, ev, h2, h3⟩
    have hlt := World.block_lt_of_cell? w ⟨g, 0, none⟩ h2
    obtain ⟨k1, k2⟩ := s.same g hlt h1
    exact ⟨k1, ev, by rw [World.cell?_of_block (w := w) k2]; exact h2, h3⟩⟩

section
variable {P : Program} {ρ : Ren}
theorem lib_fmt10 (L : LaysM.n246 P ρ) (hc : ∀ args w, (callFunc (ρ.f 246) args).run P w = .ok (.enter (ρ.f 246) args) w) {n z : Int} :
    Con qd P (ρ.f 246) [vi n, vi z] [] [Tb P "internal/strconv.uint64pow10" .u64 Lib.pow10Tab] (fmt10 n z) fun r K => K (vs r) [] [] := by
  refine con_v hc fun Z w r hm hF => ?_
  unfold fmt10 at hm
  split at hm
  case isFalse => cases hm
  rename_i h
  obtain ⟨rfl, h0, h1⟩ := h
  obtain rfl := Option.some.inj hm
  obtain ⟨⟨_, _, _, _, hT⟩, _⟩ := hF
  refine (Any.internal_strconv_FormatInt_10 L n h0 h1 w hT).mono fun e w' ⟨he, k, os, hw⟩ => ?_
  subst hw
  exact ⟨he, ext_grow w k os⟩

theorem ext_bytes (w : World) (t : TypeId) (s : ByteArray) : Ext qd [] w [] (Lib.bytesWorld w t s) := by
  have hsz := Lib.bytesWorld_size w t s
  refine ⟨?_, ?_, ?_, fun _ => ?_, by omega, fun i hi _ => Lib.bytesWorld_at_old w t s i hi, fun b hb => by simp [bl] at hb⟩
  · unfold Lib.bytesWorld World.freeze; split <;> rfl
  · unfold Lib.bytesWorld World.freeze; split <;> rfl
  · unfold Lib.bytesWorld World.freeze; split <;> rfl
  · unfold Lib.bytesWorld World.freeze; split <;> exact Nat.le_succ _

theorem lib_atoi (L : LaysC.n172 P ρ) (hc : ∀ args w, (callFunc (ρ.f 172) args).run P w = .ok (.enter (ρ.f 172) args) w) {s : Str} :
    Con False P (ρ.f 172) [vs s] [] [Gve (ρ.g 15), Gve (ρ.g 16)] (atoiM s) fun r K => ∀ v, K (.tuple #[vi r.1, v]) [] [Erv v r.2] := by
  refine ⟨hc, fun A w r hm hO hF => ?_⟩
  unfold atoiM at hm
  split at hm
  case isFalse => cases hm
  rename_i hl
  obtain ⟨⟨_, e1, h1, h1'⟩, ⟨_, e2, h2, h2'⟩, _⟩ := hF
  have hd : ∀ {e : Ending} {w' : World} {v : Value}, Ext False [] w [] w' → ErB v r.2 → e = .returned (.tuple #[vi r.1, v]) → _ := fun {e w' v} hE hv he => (⟨he, hO.frame hE, hE, hv, trivial⟩ : _ ∧ _ ∧ _ ∧ _ ∧ True)
  cases ha : Lib.atoiAll s with
  | ok v =>
    rw [ha] at hm
    obtain rfl := Option.some.inj hm
    refine (Any.strconv_Atoi_ok L ⟨⟨s⟩⟩ (by show s.length ≤ _; omega) v ha w).mono fun e w' ⟨he, hw⟩ => ?_
    subst he
    have hE : Ext False [] w [] w' := by
      rcases hw with rfl | ⟨t, rfl⟩
      · exact Ext.refl _ _
      · exact ext_bytes w _ t
    exact fun G k => k .nilIface ⟨rfl, hO.frame hE, hE, .inl ⟨rfl, rfl⟩, trivial⟩
  | «syntax» =>
    rw [ha] at hm
    obtain rfl := Option.some.inj hm
    refine (Any.strconv_Atoi_syntax L ⟨⟨s⟩⟩ (by show s.length ≤ _; omega) ha e1 w h1 h1').mono fun e w' ⟨N, he, _, _, hB⟩ => ?_
    subst he
    have hE := ext_below hB
    exact fun G k => k _ ⟨rfl, hO.frame hE, hE, .inr ⟨⟨_, _, rfl⟩, rfl⟩, trivial⟩
  | range =>
    rw [ha] at hm
    obtain rfl := Option.some.inj hm
    refine (Any.strconv_Atoi_range L ⟨⟨s⟩⟩ (by show s.length ≤ _; omega) ha e2 w h2 h2').mono fun e w' ⟨N, he, _, _, hB⟩ => ?_
    subst he
    have hE := ext_below hB
    exact fun G k => k _ ⟨rfl, hO.frame hE, hE, .inr ⟨⟨_, _, rfl⟩, rfl⟩, trivial⟩
end
end Go.GD
