/- The reader of numbers that the statements share. Conditions: none. -/
import Derived.Test.YtofgcpbdgokpjaaGreatPlain
import Derived.Test.YtofgcpbdgokpjaaGreatModels
namespace Go.GD
set_option autoImplicit false

/-- the reader's state as it is kept -/
structure SrcOk (s : T_keep_Src) : Prop where
  lo : 0 ≤ s.2
  hi : s.2 ≤ s.1.length
  small : s.1.length ≤ 2000

theorem keep_New (l : List Int) : m_keep_New l = some (l.take 2000, 0) := by
  unfold m_keep_New
  by_cases h : 2000 < len l
  · rw [if_pos h, sub_pre (by omega) (by simp [len] at h; omega)]; rfl
  · rw [if_neg h, sub_pre (by simp [len]) (by simp [len])]
    simp only [Option.bind_some]
    rw [List.take_of_length_le (by simp), List.take_of_length_le (by simp [len] at h; omega)]
theorem srcOk_New (l : List Int) : SrcOk (l.take 2000, 0) := ⟨Int.le_refl _, by simp, by simp; omega⟩

theorem keep_Raw {s : T_keep_Src} (h : SrcOk s) : ∃ v k, m_keep_Src_Raw s = some (v, k) ∧ SrcOk (s.1, k) := by
  obtain ⟨h1, h2, h3⟩ := h
  unfold m_keep_Src_Raw
  by_cases hk : len s.1 ≤ s.2
  · exact ⟨0, s.2, by simp [hk], h1, h2, h3⟩
  · have hk' : s.2 < s.1.length := by simpa [len] using hk
    obtain ⟨x, hx, _⟩ := idx_some h1 hk'
    refine ⟨x, s.2 + 1, ?_, by show (0 : Int) ≤ s.2 + 1; omega, by show s.2 + 1 ≤ (s.1.length : Int); omega, h3⟩
    simp only [hk, decide_false, Bool.false_eq_true, if_false]
    rw [w64_id (x := s.2 + 1) (by omega) (by omega), show s.2 + 1 - 1 = s.2 by omega, w64_id (by omega) (by omega), hx]; rfl

theorem keep_Mod {x n : Int} (h0 : 1 ≤ n) (h1 : n ≤ 4611686018427387904) : ∃ v, m_keep_Mod x n = some v ∧ 0 ≤ v ∧ v < n := by
  unfold m_keep_Mod
  have hn : ¬ n < 1 := by omega
  have hn0 : n ≠ 0 := by omega
  simp only [hn, decide_false, Bool.false_eq_true, if_false, remK, hn0, Option.bind_some]
  have ha := Int.tmod_lt_of_pos x (show 0 < n by omega)
  have hb : -n < x.tmod n := by
    have := Int.lt_tmod_of_pos x (show 0 < n by omega)
    exact this
  by_cases hx : x.tmod n < 0
  · exact ⟨x.tmod n + n, by simp [hx, w64_id (x := x.tmod n + n) (by omega) (by omega)], by omega, by omega⟩
  · exact ⟨x.tmod n, by simp [hx], by omega, ha⟩

theorem keep_N {s : T_keep_Src} {n : Int} (h : SrcOk s) (h0 : 1 ≤ n) (h1 : n ≤ 4611686018427387904) : ∃ v k, m_keep_Src_N s n = some (v, k) ∧ 0 ≤ v ∧ v < n ∧ SrcOk (s.1, k) := by
  obtain ⟨v, k, hr, hk⟩ := keep_Raw h
  obtain ⟨u, hu, h2, h3⟩ := keep_Mod (x := v) h0 h1
  exact ⟨u, k, by simp [m_keep_Src_N, hr, hu], h2, h3, hk⟩

theorem keep_Text {s : T_keep_Src} {l : List Str} (h : SrcOk s) (h0 : l ≠ []) (h1 : l.length ≤ 1000) : ∃ x k, m_keep_Src_Text s l = some (x, k) ∧ x ∈ l ∧ SrcOk (s.1, k) := by
  have hp := List.length_pos_iff.2 h0
  obtain ⟨v, k, hr, h2, h3, hk⟩ := keep_N (n := len l) h (by simp [len]; omega) (by simp [len]; omega)
  obtain ⟨x, hx, hx2⟩ := idx_some h2 h3
  exact ⟨x, k, by simp [m_keep_Src_Text, hr, hx], List.mem_of_getElem? hx2, hk⟩

theorem band1 (k : Int) (h0 : 0 ≤ k) (h1 : k < 4611686018427387904) : band .i64 k 1 = k % 2 := by
  obtain ⟨n, rfl⟩ := Int.eq_ofNat_of_zero_le h0
  unfold band
  have h2 : (BitVec.ofInt IntKind.i64.bits (n : Int) &&& BitVec.ofInt IntKind.i64.bits 1).toNat = n % 2 := by
    show (BitVec.ofInt 64 (n : Int) &&& 1#64).toNat = n % 2
    rw [BitVec.toNat_and, BitVec.ofInt_natCast, BitVec.toNat_ofNat]
    show n % 2 ^ 64 &&& 1 = n % 2
    rw [Nat.and_one_is_mod]
    omega
  rw [h2]
  show w64 _ = _
  rw [w64_id (by omega) (by omega)]
  omega

/-- the names of the readers' literals -/
def atomN (k : Nat) : Str := [UInt8.ofNat (97 + k)]

theorem keep_Literal {s : T_keep_Src} {n : Int} (h : SrcOk s) (h0 : 1 ≤ n) (h1 : n ≤ 26) : ∃ (g : Bool) (j : Nat) (k : Int), m_keep_Src_Literal s n = some ((g, atomN j), k) ∧ (j : Int) < n ∧ SrcOk (s.1, k) := by
  obtain ⟨v, k, hr, h2, h3, hk⟩ := keep_N (n := 2 * n) h (by omega) (by omega)
  obtain ⟨m, rfl⟩ := Int.eq_ofNat_of_zero_le h2
  refine ⟨band .i64 m 1 == 1, m / 2, k, ?_, by omega, hk⟩
  unfold m_keep_Src_Literal
  rw [w64_id (x := 2 * n) (by omega) (by omega), hr]
  have hq : quoK .i64 (m : Int) 2 = some ((m / 2 : Nat) : Int) := by
    simp only [quoK]
    rw [if_neg (by omega)]
    show some (w64 _) = _
    have : (m : Int).tdiv 2 = ((m / 2 : Nat) : Int) := by
      rw [Int.tdiv_eq_ediv_of_nonneg (by omega)]; omega
    rw [this, w64_id (by omega) (by omega)]
  simp only [Option.bind_some, hq]
  have hw : IntKind.u8.wrap (w64 (97 + ((m / 2 : Nat) : Int))) = ((97 + m / 2 : Nat) : Int) := by
    rw [w64_id (by omega) (by omega)]
    simp only [IntKind.wrap, IntKind.signed, IntKind.bits]
    simp; omega
  rw [hw]
  rfl

end Go.GD
