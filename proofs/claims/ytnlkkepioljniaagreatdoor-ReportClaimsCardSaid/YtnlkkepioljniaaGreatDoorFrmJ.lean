/- Formulas in memory. Conditions: none. -/
import Derived.Test.YtnlkkepioljniaaGreatDoorFrm
import Derived.Test.YtnlkkepioljniaaGreatDoorArrv
namespace Go.GD
open Go Go.RowKit
set_option autoImplicit false
set_option linter.unusedVariables false
variable {qd : Prop}

mutual
def frd (Z : List Nat) (w : World) : T_Formula → List Value → Prop
  | .mk op nm args, cs => ∃ p c, cs = [.int .i64 op, vs nm, .slice p args.length c] ∧ args.length ≤ c ∧ (args = [] ∨ ∃ b off ds, p = some ⟨b, off, none⟩ ∧ b ∉ Z ∧ b < w.heap.size ∧ frdL Z w args ds ∧ ∀ j u, ds[j]? = some u → w.cell? ⟨b, off + j, none⟩ = some u)
def frdL (Z : List Nat) (w : World) : List T_Formula → List Value → Prop
  | [], cs => cs = []
  | x :: l, cs => ∃ c1 c2, cs = c1 ++ c2 ∧ frd Z w x c1 ∧ frdL Z w l c2
end

mutual
theorem frd_step {Z Z' : List Nat} {w w' : World} (s : Step Z w Z' w') : ∀ (x : T_Formula) (cs : List Value), frd Z w x cs → frd Z' w' x cs
  | .mk op nm args, cs, h => by
    simp only [frd] at h ⊢
    obtain ⟨p, c, rfl, hc, h⟩ := h
    refine ⟨p, c, rfl, hc, h.imp id ?_⟩
    rintro ⟨b, off, ds, rfl, hb, hlt, hl, hd⟩
    obtain ⟨h1, h2⟩ := s.same b hlt hb
    exact ⟨b, off, ds, rfl, h1, Nat.lt_of_lt_of_le hlt s.size, frdL_step s args ds hl, fun j u hu => by rw [World.cell?_of_block (w := w) h2]; exact hd j u hu⟩
theorem frdL_step {Z Z' : List Nat} {w w' : World} (s : Step Z w Z' w') : ∀ (l : List T_Formula) (cs : List Value), frdL Z w l cs → frdL Z' w' l cs
  | [], cs, h => by simpa only [frdL] using h
  | x :: l, cs, h => by
    simp only [frdL] at h ⊢
    obtain ⟨c1, c2, rfl, h1, h2⟩ := h
    exact ⟨c1, c2, rfl, frd_step s x c1 h1, frdL_step s l c2 h2⟩
end

def e_Formula : E T_Formula := ⟨3, fun Z w cs x => frd Z w x cs,
  by
    intro Z w cs x h
    cases x
    simp only [frd] at h
    obtain ⟨p, c, rfl, _⟩ := h
    rfl,
  fun s h => frd_step s _ _ h,
  by
    intro Z w cs x h
    cases x
    simp only [frd] at h
    obtain ⟨p, c, rfl, _⟩ := h
    intro v hv
    simp at hv
    rcases hv with rfl | rfl | rfl <;> rfl⟩

theorem frdL_iff {Z : List Nat} {w : World} : ∀ {l : List T_Formula} {cs : List Value}, e_Formula.rdL Z w cs l ↔ frdL Z w l cs
  | [], cs => by simp only [E.rdL, frdL]
  | x :: l, cs => by
    simp only [E.rdL, frdL]
    exact ⟨fun ⟨c1, c2, h0, h1, h2⟩ => ⟨c1, c2, h0, h1, frdL_iff.1 h2⟩, fun ⟨c1, c2, h0, h1, h2⟩ => ⟨c1, c2, h0, h1, frdL_iff.2 h2⟩⟩

abbrev e_FormulaV : E (Int × Str × List T_Formula) := eProd (eInt .i64) (eProd eStr (eSlice e_Formula))
theorem frm_rd {Z : List Nat} {w : World} {cs : List Value} {x : T_Formula} : e_Formula.rd Z w cs x ↔ e_FormulaV.rd Z w cs (fv x) := by
  cases x with
  | mk op nm args =>
    show frd Z w (.mk op nm args) cs ↔ _
    simp only [frd, fv]
    constructor
    · rintro ⟨p, c, rfl, hc, h⟩
      exact ⟨[.int .i64 op], [vs nm, .slice p args.length c], rfl, rfl, [vs nm], [.slice p args.length c], rfl, rfl, p, c, rfl, hc, h.imp id fun ⟨b, off, ds, h1, h2, h3, h4, h5⟩ => ⟨b, off, ds, h1, h2, h3, frdL_iff.2 h4, h5⟩⟩
    · rintro ⟨c1, c2, rfl, h1, c3, c4, rfl, h2, p, c, h3, hc, h⟩
      have h1 : c1 = [.int .i64 op] := h1
      have h2 : c3 = [vs nm] := h2
      subst h1 h2 h3
      exact ⟨p, c, rfl, hc, h.imp id fun ⟨b, off, ds, h1, h2, h3, h4, h5⟩ => ⟨b, off, ds, h1, h2, h3, frdL_iff.1 h4, h5⟩⟩

def o_Formula : Opn e_Formula := ⟨fun x tl fs k => (oP oI (oP oS oL) : Opn e_FormulaV).op (fv x) tl fs k, fun h h1 h2 => (oP oI (oP oS oL) : Opn e_FormulaV).spec (frm_rd.1 h) h1 h2⟩

section
variable {Ls : List Res} {F : List PP}
theorem gV {b o : Nat} {x : T_Formula} (h : OKr Ls F (Pt e_Formula b o x)) : OKr Ls F (Pt e_FormulaV b o (fv x)) := fun A w hO hF => by
  obtain ⟨b', o', ci, he, h1, h2, h3, h4⟩ := h A w hO hF
  exact ⟨b', o', ci, he, h1, h2, frm_rd.1 h3, h4⟩
theorem vF {cs : List Value} {x : T_Formula} (h : RV e_FormulaV Ls F cs (fv x)) : RV e_Formula Ls F cs x := fun A w hO hF => frm_rd.2 (h A w hO hF)
end
end Go.GD
