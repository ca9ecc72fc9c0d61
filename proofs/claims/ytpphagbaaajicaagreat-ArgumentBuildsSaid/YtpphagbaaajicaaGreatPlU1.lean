/- The plain law: what the models compute, in plain Lean. Conditions: none. -/
import Derived.Test.YtpphagbaaajicaaGreatLib
import Derived.Test.YtpphagbaaajicaaGreatModels
import Derived.Test.YtpphagbaaajicaaGreatJoin
namespace Go.GD
set_option autoImplicit false

section
theorem w64_id {x : Int} (h1 : -9223372036854775808 ≤ x) (h2 : x < 9223372036854775808) : w64 x = x := by
  simp only [w64, IntKind.wrap, IntKind.signed, IntKind.bits]
  simp; omega
theorem w64_succ (n : Nat) (h : n + 1 < 9223372036854775808) : w64 ((n : Int) + 1) = ((n + 1 : Nat) : Int) := by rw [w64_id (by omega) (by omega)]; omega
theorem idx_nat {α : Type} (l : List α) (i : Nat) : idx l (i : Int) = l[i]? := by simp [idx]
theorem sidx_nat (l : Str) (i : Nat) : sidx l (i : Int) = (l[i]?).map (fun b => (b.toNat : Int)) := by simp [sidx]
theorem idx_some {α : Type} {l : List α} {i : Int} (h0 : 0 ≤ i) (h1 : i < l.length) : ∃ x, idx l i = some x ∧ l[i.toNat]? = some x := by
  have : l[i.toNat]? = some l[i.toNat] := List.getElem?_eq_getElem (by omega)
  exact ⟨_, by simp [idx, h0, this], this⟩
theorem app_ok {α : Type} {l m : List α} (h : l.length + m.length < 4294967296) : app l m = some (l ++ m) := by simp [app, h]
theorem sub_pre {α : Type} {l : List α} {j : Int} (h1 : 0 ≤ j) (h2 : j ≤ l.length) : sub l 0 j = some (l.take j.toNat) := by simp [sub, h1, h2]
theorem sub_suf {α : Type} {l : List α} {i : Int} (h1 : 0 ≤ i) (h2 : i ≤ l.length) : sub l i (len l) = some (l.drop i.toNat) := by simp [sub, h1, h2]
/-- a walk along a list -/
def runL {σ ρ α : Type} (step : Nat → σ → α → Option (σ ⊕ ρ)) (fin : σ → Option ρ) : Nat → List α → σ → Option ρ
  | _, [], s => fin s
  | i, x :: l, s => match step i s x with
    | none => none
    | some (.inl s') => runL step fin (i + 1) l s'
    | some (.inr r) => some r
theorem loop_runL {σ ρ α τ : Type} {B : τ → Option (τ ⊕ ρ)} (mk : Nat → σ → τ) (l : List α) (step : Nat → σ → α → Option (σ ⊕ ρ)) (fin : σ → Option ρ)
    (hB : ∀ i x s, l[i]? = some x → B (mk i s) = (step i s x).map fun o => match o with | .inl s' => .inl (mk (i + 1) s') | .inr r => .inr r)
    (he : ∀ s, B (mk l.length s) = (fin s).map .inr) : ∀ (n i : Nat) (s : σ), i + n = l.length → loop B (mk i s) = runL step fin i (l.drop i) s := by
  intro n
  induction n with
  | zero =>
    intro i s h
    rw [Nat.add_zero] at h
    subst h
    rw [loop_eq, he, List.drop_length]
    cases hf : fin s <;> simp [runL, hf]
  | succ n ih =>
    intro i s h
    have hx : l[i]? = some l[i] := List.getElem?_eq_getElem (by omega)
    rw [loop_eq, hB i _ s hx, List.drop_eq_getElem_cons (by omega)]
    cases hs : step i s l[i] with
    | none => simp [runL, hs]
    | some o =>
      cases o with
      | inl s' => simp only [Option.map_some, runL, hs]; exact ih (i + 1) s' (by omega)
      | inr r => simp [runL, hs]
theorem loop_runL0 {σ ρ α τ : Type} {B : τ → Option (τ ⊕ ρ)} (mk : Nat → σ → τ) (l : List α) (step : Nat → σ → α → Option (σ ⊕ ρ)) (fin : σ → Option ρ)
    (hB : ∀ i x s, l[i]? = some x → B (mk i s) = (step i s x).map fun o => match o with | .inl s' => .inl (mk (i + 1) s') | .inr r => .inr r)
    (he : ∀ s, B (mk l.length s) = (fin s).map .inr) (s : σ) : loop B (mk 0 s) = runL step fin 0 l s := by
  have := loop_runL mk l step fin hB he l.length 0 s (by omega)
  simpa using this
/-- a loop that goes through to its end -/
theorem loop_for {ρ α : Type} {B : Int → Option (Int ⊕ ρ)} {l : List α} {r : ρ} (hB : ∀ (i : Nat) (x : α), l[i]? = some x → B (i : Int) = some (.inl ((i + 1 : Nat) : Int)))
    (he : B (l.length : Int) = some (.inr r)) : loop B 0 = some r := by
  have h := loop_runL0 (B := B) (fun i (_ : Unit) => (i : Int)) l (fun _ _ _ => some (.inl ())) (fun _ => some r) (fun i x s hx => by simp [hB i x hx]) (fun s => by simp [he]) ()
  have key : ∀ (l : List α) (i : Nat), runL (fun _ (_ : Unit) (_ : α) => some (.inl ())) (fun _ => some r) i l () = some r := by
    intro l
    induction l with
    | nil => intro i; rfl
    | cons x l ih => intro i; exact ih (i + 1)
  rw [key] at h
  exact h
/-- the same, with a state of which I holds -/
theorem loop_forI {ρ α σ τ : Type} {B : τ → Option (τ ⊕ ρ)} (mk : Nat → σ → τ) (l : List α) (I : Nat → σ → Prop) (Q : ρ → Prop)
    (hB : ∀ i x s, l[i]? = some x → I i s → (∃ s', B (mk i s) = some (.inl (mk (i + 1) s')) ∧ I (i + 1) s') ∨ ∃ r, B (mk i s) = some (.inr r) ∧ Q r)
    (he : ∀ s, I l.length s → ∃ r, B (mk l.length s) = some (.inr r) ∧ Q r) : ∀ s, I 0 s → ∃ r, loop B (mk 0 s) = some r ∧ Q r := by
  have key : ∀ n i s, i + n = l.length → I i s → ∃ r, loop B (mk i s) = some r ∧ Q r := by
    intro n
    induction n with
    | zero =>
      intro i s h hI
      rw [Nat.add_zero] at h
      subst h
      obtain ⟨r, h1, h2⟩ := he s hI
      exact ⟨r, by rw [loop_eq, h1], h2⟩
    | succ n ih =>
      intro i s h hI
      have hx : l[i]? = some l[i] := List.getElem?_eq_getElem (by omega)
      rcases hB i _ s hx hI with ⟨s', h1, h2⟩ | ⟨r, h1, h2⟩
      · obtain ⟨r, h3, h4⟩ := ih (i + 1) s' (by omega) h2
        exact ⟨r, by rw [loop_eq, h1]; exact h3, h4⟩
      · exact ⟨r, by rw [loop_eq, h1], h2⟩
  exact fun s hI => key l.length 0 s (by omega) hI
end
section
/-- the reader's state as it is kept -/
structure SrcOk (s : T_keep_Src) : Prop where
  lo : 0 ≤ s.2
  hi : s.2 ≤ s.1.length
  small : s.1.length ≤ 2000
theorem keep_New (l : List Int) : m_keep_New l = some (l.take 2000, 0) := by
  unfold m_keep_New
  by_cases h : 2000 < len l
  · rw [if_pos h, sub_pre (by omega) (by simp [len] at h; omega)]; rfl
  · rw [if_neg h, sub_pre (by simp [len]) (by simp [len])]
    simp only [Option.bind_some]
    rw [List.take_of_length_le (by simp), List.take_of_length_le (by simp [len] at h; omega)]
theorem srcOk_New (l : List Int) : SrcOk (l.take 2000, 0) := ⟨Int.le_refl _, by simp, by simp; omega⟩
theorem keep_Raw {s : T_keep_Src} (h : SrcOk s) : ∃ v k, m_keep_Src_Raw s = some (v, k) ∧ SrcOk (s.1, k) := by
  obtain ⟨h1, h2, h3⟩ := h
  unfold m_keep_Src_Raw
  by_cases hk : len s.1 ≤ s.2
  · exact ⟨0, s.2, by simp [hk], h1, h2, h3⟩
  · have hk' : s.2 < s.1.length := by simpa [len] using hk
    obtain ⟨x, hx, _⟩ := idx_some h1 hk'
    refine ⟨x, s.2 + 1, ?_, by show (0 : Int) ≤ s.2 + 1; omega, by show s.2 + 1 ≤ (s.1.length : Int); omega, h3⟩
    simp only [hk, decide_false, Bool.false_eq_true, if_false]
    rw [w64_id (x := s.2 + 1) (by omega) (by omega), show s.2 + 1 - 1 = s.2 by omega, w64_id (by omega) (by omega), hx]; rfl
theorem keep_Mod {x n : Int} (h0 : 1 ≤ n) (h1 : n ≤ 4611686018427387904) : ∃ v, m_keep_Mod x n = some v ∧ 0 ≤ v ∧ v < n := by
  unfold m_keep_Mod
  have hn : ¬ n < 1 := by omega
  have hn0 : n ≠ 0 := by omega
  simp only [hn, decide_false, Bool.false_eq_true, if_false, remK, hn0, Option.bind_some]
  have ha := Int.tmod_lt_of_pos x (show 0 < n by omega)
  have hb : -n < x.tmod n := by
    have := Int.lt_tmod_of_pos x (show 0 < n by omega)
    exact this
  by_cases hx : x.tmod n < 0
  · exact ⟨x.tmod n + n, by simp [hx, w64_id (x := x.tmod n + n) (by omega) (by omega)], by omega, by omega⟩
  · exact ⟨x.tmod n, by simp [hx], by omega, ha⟩
theorem keep_N {s : T_keep_Src} {n : Int} (h : SrcOk s) (h0 : 1 ≤ n) (h1 : n ≤ 4611686018427387904) : ∃ v k, m_keep_Src_N s n = some (v, k) ∧ 0 ≤ v ∧ v < n ∧ SrcOk (s.1, k) := by
  obtain ⟨v, k, hr, hk⟩ := keep_Raw h
  obtain ⟨u, hu, h2, h3⟩ := keep_Mod (x := v) h0 h1
  exact ⟨u, k, by simp [m_keep_Src_N, hr, hu], h2, h3, hk⟩
theorem keep_Text {s : T_keep_Src} {l : List Str} (h : SrcOk s) (h0 : l ≠ []) (h1 : l.length ≤ 1000) : ∃ x k, m_keep_Src_Text s l = some (x, k) ∧ x ∈ l ∧ SrcOk (s.1, k) := by
  have hp := List.length_pos_iff.2 h0
  obtain ⟨v, k, hr, h2, h3, hk⟩ := keep_N (n := len l) h (by simp [len]; omega) (by simp [len]; omega)
  obtain ⟨x, hx, hx2⟩ := idx_some h2 h3
  exact ⟨x, k, by simp [m_keep_Src_Text, hr, hx], List.mem_of_getElem? hx2, hk⟩
/-- the names of the readers' literals -/
def atomN (k : Nat) : Str := [UInt8.ofNat (97 + k)]
theorem keep_Literal {s : T_keep_Src} {n : Int} (h : SrcOk s) (h0 : 1 ≤ n) (h1 : n ≤ 26) : ∃ (g : Bool) (j : Nat) (k : Int), m_keep_Src_Literal s n = some ((g, atomN j), k) ∧ (j : Int) < n ∧ SrcOk (s.1, k) := by
  obtain ⟨v, k, hr, h2, h3, hk⟩ := keep_N (n := 2 * n) h (by omega) (by omega)
  obtain ⟨m, rfl⟩ := Int.eq_ofNat_of_zero_le h2
  refine ⟨band .i64 m 1 == 1, m / 2, k, ?_, by omega, hk⟩
  unfold m_keep_Src_Literal
  rw [w64_id (x := 2 * n) (by omega) (by omega), hr]
  have hq : quoK .i64 (m : Int) 2 = some ((m / 2 : Nat) : Int) := by
    simp only [quoK]
    rw [if_neg (by omega)]
    show some (w64 _) = _
    have : (m : Int).tdiv 2 = ((m / 2 : Nat) : Int) := by
      rw [Int.tdiv_eq_ediv_of_nonneg (by omega)]; omega
    rw [this, w64_id (by omega) (by omega)]
  simp only [Option.bind_some, hq]
  have hw : IntKind.u8.wrap (w64 (97 + ((m / 2 : Nat) : Int))) = ((97 + m / 2 : Nat) : Int) := by
    rw [w64_id (by omega) (by omega)]
    simp only [IntKind.wrap, IntKind.signed, IntKind.bits]
    simp; omega
  rw [hw]
  rfl
end
section
theorem idxV_nat {α : Type} (l : List α) (i k : Nat) : idxV l (i : Int) (k : Int) = l[i + k]? := by
  simp only [idxV]
  rw [if_pos (by omega), show ((i : Int) + (k : Int)) = ((i + k : Nat) : Int) by omega, idx_nat]
section
variable {α : Type} [BEq α]
noncomputable def compactL2 (y0 : List α) (s1 : Int) (s3 : (List α) × Int × Int) : Option (((List α) × Int × Int) ⊕ ((List α) × Int)) :=
  if decide (s3.2.2 < ((Int.toNat (((List.length y0 : Nat) : Int) - s1) : Nat) : Int)) then
    (idxV s3.1 s1 s3.2.2).bind fun x3 =>
    (idxV s3.1 s1 (w64 (s3.2.2 - 1))).bind fun x4 =>
    if !(x3 == x4) then
      (idxV s3.1 s1 s3.2.2).bind fun x5 =>
      (idx s3.1 s3.2.1).bind fun _ =>
      some (.inl (List.set s3.1 (Int.toNat s3.2.1) x5, w64 (s3.2.1 + 1), w64 (s3.2.2 + 1)))
    else
      some (.inl (s3.1, s3.2.1, w64 (s3.2.2 + 1)))
  else
    some (.inr (s3.1, s3.2.1))
noncomputable def compactL1 (z : α) (y0 : List α) (s1 : Int) : Option (Int ⊕ (List α)) :=
  if decide (s1 < (len y0)) then
    (idx y0 s1).bind fun x1 =>
    (idx y0 (w64 (s1 - 1))).bind fun x2 =>
    if x1 == x2 then
      (chk (decide (0 ≤ s1) && decide (s1 ≤ len y0))).bind fun _ =>
      (loop (compactL2 y0 s1) (y0, s1, 1) : Option ((List α) × Int)).bind fun s2 =>
      (chk (decide (0 ≤ s2.2) && decide (s2.2 ≤ len s2.1))).bind fun _ =>
      (sub (clearFrom s2.1 s2.2 z) 0 s2.2).bind fun x7 =>
      some (.inr x7)
    else
      some (.inl (w64 (s1 + 1)))
  else
    some (.inr y0)
noncomputable def compactM (z : α) (y0 : List α) : Option (List α) :=
  if decide ((len y0) < 2) then
    some y0
  else
    loop (compactL1 z y0) 1
/-- adjacent repetitions left out -/
def dd (a : α) : List α → List α
  | [] => []
  | b :: r => if a == b then dd b r else b :: dd b r
def dedup : List α → List α
  | [] => []
  | a :: r => a :: dd a r
theorem dd_append : ∀ (r s : List α) (a : α), dd a (r ++ s) = dd a r ++ dd (r.getLastD a) s
  | [], s, a => rfl
  | b :: r, s, a => by
    simp only [List.cons_append, dd, dd_append r s b, List.getLastD_cons]
    split <;> simp
theorem dedup_take {l : List α} {j : Nat} {y x : α} (h1 : l[j]? = some y) (h2 : l[j + 1]? = some x) : dedup (l.take (j + 2)) = dedup (l.take (j + 1)) ++ if y == x then [] else [x] := by
  have e1 : l.take (j + 2) = l.take (j + 1) ++ [x] := by
    rw [List.take_add_one (i := j + 1), h2]; rfl
  have e2 : l.take (j + 1) = l.take j ++ [y] := by rw [List.take_add_one, h1]; rfl
  rw [e1]
  cases hl : l.take (j + 1) with
  | nil => rw [hl] at e2; cases h3 : l.take j <;> simp [h3] at e2
  | cons a r =>
    have hlast : r.getLastD a = y := by
      have : (a :: r).getLast? = some y := by rw [← hl, e2]; simp
      rw [← List.getLastD_cons (a := a) (b := a) (l := r), List.getLastD_eq_getLast?, this]; rfl
    simp only [List.cons_append, dedup, dd_append, hlast, dd]
theorem dd_len : ∀ (r : List α) (a : α), (dd a r).length ≤ r.length
  | [], _ => Nat.le_refl _
  | b :: r, a => by
    simp only [dd]
    have := dd_len r b
    split <;> simp <;> omega
theorem dedup_len (l : List α) : (dedup l).length ≤ l.length := by
  cases l with
  | nil => simp [dedup]
  | cons a r => have := dd_len r a; simp [dedup]; omega
/-- the inner loop -/
theorem compactL2_spec [LawfulBEq α] (l : List α) (i0 : Nat) (h0 : 1 ≤ i0) (hi : i0 < l.length) (hbig : l.length < 9223372036854775807) (hd : dedup (l.take (i0 + 1)) = dedup (l.take i0)) (hk : dedup (l.take i0) = l.take i0) :
    ∃ c k, loop (compactL2 l (i0 : Int)) (l, (i0 : Int), 1) = some (c, ((k : Nat) : Int)) ∧ c.length = l.length ∧ k ≤ l.length ∧ c.take k = dedup l := by
  have key : ∀ n k2 (c : List α) (k : Nat), i0 + k2 + n = l.length → 1 ≤ k2 → c.length = l.length → k + 1 ≤ i0 + k2 → (∀ j, i0 + k2 ≤ j + 1 → c[j]? = l[j]?) → c.take k = dedup (l.take (i0 + k2)) →
      ∃ c' k', loop (compactL2 l (i0 : Int)) (c, (k : Int), (k2 : Int)) = some (c', ((k' : Nat) : Int)) ∧ c'.length = l.length ∧ k' ≤ l.length ∧ c'.take k' = dedup l := by
    intro n
    induction n with
    | zero =>
      intro k2 c k hn h1 hc hk1 hsame htake
      refine ⟨c, k, ?_, hc, by omega, ?_⟩
      · rw [loop_eq]
        unfold compactL2
        have : decide ((k2 : Int) < ((Int.toNat (((List.length l : Nat) : Int) - (i0 : Int)) : Nat) : Int)) = false := by simp; omega
        simp only [this, Bool.false_eq_true, if_false]
      · rw [htake, List.take_of_length_le (by omega)]
    | succ n ih =>
      intro k2 c k hn h1 hc hk1 hsame htake
      have hx : l[i0 + k2]? = some l[i0 + k2] := List.getElem?_eq_getElem (by omega)
      have hy : l[i0 + k2 - 1]? = some l[i0 + k2 - 1] := List.getElem?_eq_getElem (by omega)
      have hcx : c[i0 + k2]? = some l[i0 + k2] := by rw [hsame _ (by omega)]; exact hx
      have hcy : c[i0 + (k2 - 1)]? = some l[i0 + k2 - 1] := by rw [hsame _ (by omega), ← hy]; congr 1; omega
      have hlt : decide ((k2 : Int) < ((Int.toNat (((List.length l : Nat) : Int) - (i0 : Int)) : Nat) : Int)) = true := by simp; omega
      have hw1 : w64 ((k2 : Int) - 1) = ((k2 - 1 : Nat) : Int) := by rw [w64_id (by omega) (by omega)]; omega
      have hdt := dedup_take (l := l) (j := i0 + k2 - 1) (y := l[i0 + k2 - 1]) (x := l[i0 + k2]) hy (by rw [show i0 + k2 - 1 + 1 = i0 + k2 by omega]; exact hx)
      rw [show i0 + k2 - 1 + 2 = i0 + (k2 + 1) by omega, show i0 + k2 - 1 + 1 = i0 + k2 by omega] at hdt
      have hklt : k < c.length := by omega
      rw [loop_eq]
      unfold compactL2
      simp only [hlt, if_true, idxV_nat, hcx, Option.bind_some, hw1, hcy]
      rw [BEq.comm]
      have hklt' : idx c (k : Int) = some c[k] := by rw [idx_nat]; exact List.getElem?_eq_getElem hklt
      cases hb : l[i0 + k2 - 1] == l[i0 + k2] with
      | true =>
        simp only [Bool.not_true, Bool.false_eq_true, if_false]
        rw [w64_succ k2 (by omega)]
        have := ih (k2 + 1) c k (by omega) (by omega) hc (by omega) (fun j hj => hsame j (by omega)) (by rw [hdt, hb]; simpa using htake)
        exact this
      | false =>
        simp only [Bool.not_false, if_true, hklt', Option.bind_some]
        rw [w64_succ k2 (by omega), w64_succ k (by omega), Int.toNat_natCast]
        refine ih (k2 + 1) (c.set k l[i0 + k2]) (k + 1) (by omega) (by omega) (by simp [hc]) (by omega) (fun j hj => ?_) ?_
        · rw [List.getElem?_set_ne (by omega)]; exact hsame j (by omega)
        · rw [hdt, hb, ← htake]
          rw [List.take_add_one, List.getElem?_set_self hklt, List.take_set_of_le (Nat.le_refl _)]
          rfl
  have hsome : l[i0]? = some l[i0] := List.getElem?_eq_getElem hi
  refine key (l.length - (i0 + 1)) 1 l i0 (by omega) (Nat.le_refl _) rfl (by omega) (fun j _ => rfl) ?_
  rw [hd, hk]
theorem compactM_spec [LawfulBEq α] (z : α) (l : List α) (hbig : l.length < 9223372036854775807) : compactM z l = some (dedup l) := by
  unfold compactM
  by_cases h2 : l.length < 2
  · have : decide (len l < 2) = true := by simp [len]; omega
    simp only [this, if_true]
    match l, h2 with
    | [], _ => rfl
    | [a], _ => rfl
  · have : decide (len l < 2) = false := by simp [len]; omega
    simp only [this, Bool.false_eq_true, if_false]
    have key : ∀ n k, k + n = l.length → 1 ≤ k → dedup (l.take k) = l.take k → loop (compactL1 z l) (k : Int) = some (dedup l) := by
      intro n
      induction n with
      | zero =>
        intro k hn h1 hp
        rw [loop_eq]
        unfold compactL1
        have : decide ((k : Int) < len l) = false := by simp [len]; omega
        simp only [this, Bool.false_eq_true, if_false]
        rw [List.take_of_length_le (by omega)] at hp
        rw [hp]
      | succ n ih =>
        intro k hn h1 hp
        have hx : l[k]? = some l[k] := List.getElem?_eq_getElem (by omega)
        have hy : l[k - 1]? = some l[k - 1] := List.getElem?_eq_getElem (by omega)
        have hlt : decide ((k : Int) < len l) = true := by simp [len]; omega
        have hw1 : w64 ((k : Int) - 1) = ((k - 1 : Nat) : Int) := by rw [w64_id (by omega) (by omega)]; omega
        have hdt := dedup_take (l := l) (j := k - 1) (y := l[k - 1]) (x := l[k]) hy (by rw [show k - 1 + 1 = k by omega]; exact hx)
        rw [show k - 1 + 2 = k + 1 by omega, show k - 1 + 1 = k by omega, hp] at hdt
        rw [loop_eq]
        unfold compactL1
        simp only [hlt, if_true, idx_nat, hx, hw1, hy, Option.bind_some]
        rw [BEq.comm]
        cases hb : l[k - 1] == l[k] with
        | true =>
          have hc1 : (decide (0 ≤ (k : Int)) && decide ((k : Int) ≤ len l)) = true := by simp [len]; omega
          obtain ⟨c, q, hl, hcl, hq, htk⟩ := compactL2_spec l k h1 (by omega) hbig (by rw [hdt, hb, hp]; simp) hp
          have hc2 : (decide (0 ≤ ((q : Nat) : Int)) && decide (((q : Nat) : Int) ≤ len c)) = true := by simp [len]; omega
          simp only [if_true, hc1, chk, Option.bind_some, hl, hc2]
          rw [sub_pre (by omega) (by rw [length_clearFrom, hcl]; omega)]
          simp only [Option.bind_some, Int.toNat_natCast, clearFrom, htk]
          have hdl : (dedup l).length = q := by rw [← htk, List.length_take]; omega
          rw [← hdl, List.take_left]
        | false =>
          simp only [Bool.false_eq_true, if_false]
          rw [w64_succ k (by omega)]
          refine ih (k + 1) (by omega) (by omega) ?_
          rw [hdt, hb, List.take_add_one, hx]; rfl
    exact key (l.length - 1) 1 (by omega) (Nat.le_refl _) (by match l, h2 with | a :: r, _ => rfl)
end
section
variable {α : Type} {lt : α → α → Bool}
/-- a strict order in which two that do not differ are one -/
structure Ord1 (lt : α → α → Bool) : Prop where
  irrefl : ∀ x, lt x x = false
  trans : ∀ x y z, lt x y = true → lt y z = true → lt x z = true
  tri : ∀ x y, lt x y = true ∨ x = y ∨ lt y x = true
abbrev Asc (lt : α → α → Bool) (l : List α) : Prop := l.Pairwise fun x y => lt x y = true
theorem Ord1.asymm (O : Ord1 lt) {x y : α} (h : lt x y = true) : lt y x = false := by
  cases hb : lt y x with
  | false => rfl
  | true => have := O.trans _ _ _ h hb; rw [O.irrefl] at this; cases this
/-- two ascending lists with the same elements are one -/
theorem Asc.ext (O : Ord1 lt) : ∀ {l m : List α}, Asc lt l → Asc lt m → (∀ x, x ∈ l ↔ x ∈ m) → l = m
  | [], [], _, _, _ => rfl
  | [], y :: m, _, _, h => by have := (h y).2 (List.mem_cons_self); cases this
  | x :: l, [], _, _, h => by have := (h x).1 (List.mem_cons_self); cases this
  | x :: l, y :: m, hl, hm, h => by
    obtain ⟨h1, h2⟩ := List.pairwise_cons.1 hl
    obtain ⟨h3, h4⟩ := List.pairwise_cons.1 hm
    have hxy : x = y := by
      rcases List.mem_cons.1 ((h x).1 (List.mem_cons_self)) with h5 | h5
      · exact h5
      · rcases List.mem_cons.1 ((h y).2 (List.mem_cons_self)) with h6 | h6
        · exact h6.symm
        · have := O.asymm (h3 x h5); rw [h1 y h6] at this; cases this
    subst hxy
    congr 1
    refine Asc.ext O h2 h4 fun z => ⟨fun hz => ?_, fun hz => ?_⟩
    · rcases List.mem_cons.1 ((h z).1 (List.mem_cons_of_mem _ hz)) with rfl | h5
      · have := h1 z hz; rw [O.irrefl] at this; cases this
      · exact h5
    · rcases List.mem_cons.1 ((h z).2 (List.mem_cons_of_mem _ hz)) with rfl | h5
      · have := h3 z hz; rw [O.irrefl] at this; cases this
      · exact h5
/-- in order, repetitions allowed -/
theorem asc_dedup [BEq α] [LawfulBEq α] (O : Ord1 lt) : ∀ {l : List α}, l.Pairwise (fun x y => lt y x = false) → Asc lt (dedup l) ∧ ∀ x, x ∈ dedup l ↔ x ∈ l := by
  have key : ∀ (r : List α) (a : α), (a :: r).Pairwise (fun x y => lt y x = false) → Asc lt (a :: dd a r) ∧ ∀ x, x ∈ a :: dd a r ↔ x ∈ a :: r := by
    intro r
    induction r with
    | nil => intro a _; simp [dd]
    | cons b r ih =>
      intro a h
      obtain ⟨h1, h2⟩ := List.pairwise_cons.1 h
      obtain ⟨i1, i2⟩ := ih b h2
      by_cases hab : a = b
      · subst hab
        simp only [dd, beq_self_eq_true, if_true]
        refine ⟨i1, fun x => ?_⟩
        rw [i2]; simp
      · have hb : (a == b) = false := beq_eq_false_iff_ne.2 hab
        simp only [dd, hb, Bool.false_eq_true, if_false]
        have hlt : lt a b = true := by
          rcases O.tri a b with h | h | h
          · exact h
          · exact absurd h hab
          · rw [h1 b (List.mem_cons_self)] at h; cases h
        refine ⟨List.pairwise_cons.2 ⟨fun y hy => ?_, i1⟩, fun x => ?_⟩
        · rcases List.mem_cons.1 hy with rfl | hy
          · exact hlt
          · exact O.trans _ _ _ hlt ((List.pairwise_cons.1 i1).1 y hy)
        · rw [List.mem_cons, i2]; simp
  intro l h
  cases l with
  | nil => simp [dedup]
  | cons a r => exact key r a h
theorem sorted_merge (O : Ord1 lt) (l : List α) : (l.mergeSort fun x y => !lt y x).Pairwise (fun x y => lt y x = false) := by
  have h := List.pairwise_mergeSort (le := fun x y => !lt y x) (fun a b c h1 h2 => ?_) (fun a b => ?_) l
  · exact h.imp fun h => by simpa using h
  · simp only [Bool.not_eq_true'] at *
    cases h3 : lt c a with
    | false => rfl
    | true =>
      rcases O.tri a b with h | rfl | h
      · have := O.trans _ _ _ h3 h; rw [this] at h2; cases h2
      · rw [h3] at h2; cases h2
      · rw [h] at h1; cases h1
  · cases h : lt b a with
    | false => simp
    | true => simp [O.asymm h]
/-- sorted, each once -/
def nrm [BEq α] (lt : α → α → Bool) (l : List α) : List α := dedup (l.mergeSort fun x y => !lt y x)
theorem nrm_spec [BEq α] [LawfulBEq α] (O : Ord1 lt) (l : List α) : Asc lt (nrm lt l) ∧ ∀ x, x ∈ nrm lt l ↔ x ∈ l := by
  obtain ⟨h1, h2⟩ := asc_dedup O (sorted_merge O l)
  exact ⟨h1, fun x => by rw [nrm, h2, List.mem_mergeSort]⟩
theorem nrm_eq [BEq α] [LawfulBEq α] (O : Ord1 lt) {l m : List α} (h1 : Asc lt m) (h2 : ∀ x, x ∈ m ↔ x ∈ l) : nrm lt l = m := by
  obtain ⟨h3, h4⟩ := nrm_spec O l
  exact Asc.ext O h3 h1 fun x => by rw [h4, h2]
theorem nrm_len [BEq α] (lt : α → α → Bool) (l : List α) : (nrm lt l).length ≤ l.length := by
  have := dedup_len (l.mergeSort fun x y => !lt y x)
  simpa [nrm] using this
end
section
variable {α : Type} [BEq α]
noncomputable def indexL (y0 : List α) (y1 : α) (s1 : Int) : Option (Int ⊕ Int) :=
  if decide (s1 < (len y0)) then
    (idx y0 s1).bind fun x1 =>
    if y1 == x1 then
      some (.inr s1)
    else
      some (.inl (w64 (s1 + 1)))
  else
    some (.inr (-1))
noncomputable def indexM (y0 : List α) (y1 : α) : Option Int := loop (indexL y0 y1) 0
theorem indexM_spec (l : List α) (x : α) (hb : l.length < 9223372036854775807) : ∃ r, indexM l x = some r ∧ (0 ≤ r ↔ ∃ y ∈ l, x == y) := by
  have h := loop_forI (B := indexL l x) (fun i (_ : Unit) => (i : Int)) l (fun i _ => ∀ j y, j < i → l[j]? = some y → (x == y) = false) (fun r => (0 ≤ r ↔ ∃ y ∈ l, x == y)) ?_ ?_ () (by simp)
  · exact h
  · intro i y s hy hI
    have hi := (List.getElem?_eq_some_iff.1 hy).1
    have hlt : decide ((i : Int) < len l) = true := by simp [len]; omega
    unfold indexL
    simp only [hlt, if_true, idx_nat, hy, Option.bind_some]
    cases hxy : x == y with
    | true => exact .inr ⟨_, rfl, ⟨fun _ => ⟨y, List.mem_of_getElem? hy, hxy⟩, fun _ => by omega⟩⟩
    | false =>
      refine .inl ⟨(), by simp [w64_succ i (by omega)], fun j z hj hz => ?_⟩
      rcases Nat.lt_succ_iff_lt_or_eq.1 hj with h | rfl
      · exact hI j z h hz
      · rw [hy] at hz; cases hz; exact hxy
  · intro s hI
    unfold indexL
    refine ⟨-1, by simp [len], ⟨fun h => by omega, fun ⟨y, hy, hxy⟩ => ?_⟩⟩
    obtain ⟨j, hj⟩ := List.mem_iff_getElem?.1 hy
    rw [hI j y (List.getElem?_eq_some_iff.1 hj).1 hj] at hxy
    cases hxy
end
end
section
/-- whatever the one answers, the other answers -/
structure Le {α : Type} (a b : Option α) : Prop where
  el : ∀ r, a = some r → b = some r
theorem Le.refl {α : Type} (a : Option α) : Le a a := ⟨fun _ h => h⟩
theorem Le.bind {α β : Type} {a b : Option α} {f g : α → Option β} (h : Le a b) (k : ∀ x, Le (f x) (g x)) : Le (a.bind f) (b.bind g) := ⟨fun r hr => by
  cases a with
  | none => cases hr
  | some x => rw [h.el x rfl]; exact (k x).el r hr⟩
theorem Le.ite {α : Type} {c : Prop} [Decidable c] {a b a' b' : Option α} (h : Le a b) (k : Le a' b') : Le (if c then a else a') (if c then b else b') := by
  split
  · exact h
  · exact k
theorem Le.seqE {σ α : Type} {a b : Option (σ ⊕ α)} {f g : σ → Option α} (h : Le a b) (k : ∀ x, Le (f x) (g x)) : Le (seqE a f) (seqE b g) :=
  Le.bind h fun o => by
    cases o with
    | inl s => exact k s
    | inr r => exact Le.refl _
theorem Le.none {α : Type} (b : Option α) : Le none b := ⟨fun _ h => nomatch h⟩
abbrev lp {σ ρ : Type} (n : Nat) (B : σ → Option (σ ⊕ ρ)) (s : σ) : Option ρ := iter B n s
theorem Le.lp {σ ρ : Type} {B C : σ → Option (σ ⊕ ρ)} (h : ∀ s, Le (B s) (C s)) (n : Nat) (s : σ) : Le (lp n B s) (loop C s) := by
  refine ⟨fun r hr => ?_⟩
  refine loop_of_iter (n := n) ?_
  revert s
  induction n with
  | zero => intro s hr; cases hr
  | succ n ih =>
    intro s hr
    simp only [iter] at hr ⊢
    cases hb : B s with
    | none => rw [hb] at hr; cases hr
    | some o =>
      rw [hb] at hr
      rw [(h s).el o hb]
      cases o with
      | inl s' => exact ih s' hr
      | inr r' => exact hr
theorem Le.lim {α : Type} {a : Option α} {f : Nat → Option α} (n : Nat) (h : ∀ m, n ≤ m → Le a (f m)) : Le a (limM f) := ⟨fun r hr => limM_of n fun m hm => (h m hm).el r hr⟩
/-- sorting that can be computed -/
def ins {α : Type} (lt : α → α → Bool) (x : α) : List α → List α
  | [] => [x]
  | y :: r => if lt y x then y :: ins lt x r else x :: y :: r
def isort {α : Type} (lt : α → α → Bool) : List α → List α
  | [] => []
  | x :: r => ins lt x (isort lt r)
end
section
abbrev ltI (x y : Int) : Bool := decide (x < y)
theorem ord_ltI : Ord1 ltI := ⟨fun x => by simp, fun x y z h1 h2 => by simp at *; omega, fun x y => by simp; omega⟩
section
variable {α : Type} {lt : α → α → Bool}
theorem ins_perm (x : α) : ∀ l : List α, (ins lt x l).Perm (x :: l)
  | [] => List.Perm.refl _
  | y :: r => by
    unfold ins
    split
    · exact ((ins_perm x r).cons y).trans (List.Perm.swap x y r)
    · exact List.Perm.refl _
theorem isort_perm : ∀ l : List α, (isort lt l).Perm l
  | [] => List.Perm.refl _
  | x :: r => (ins_perm x _).trans ((isort_perm r).cons x)
theorem ins_sorted (O : Ord1 lt) (x : α) : ∀ l : List α, l.Pairwise (fun x y => lt y x = false) → (ins lt x l).Pairwise (fun x y => lt y x = false)
  | [], _ => by simp [ins]
  | y :: r, h => by
    obtain ⟨h1, h2⟩ := List.pairwise_cons.1 h
    unfold ins
    split
    · rename_i hlt
      refine List.pairwise_cons.2 ⟨fun z hz => ?_, ins_sorted O x r h2⟩
      rcases List.mem_cons.1 ((ins_perm x r).mem_iff.1 hz) with rfl | hz
      · exact O.asymm hlt
      · exact h1 z hz
    · rename_i hlt
      have hyx : lt y x = false := by simpa using hlt
      refine List.pairwise_cons.2 ⟨fun z hz => ?_, h⟩
      rcases List.mem_cons.1 hz with rfl | hz
      · exact hyx
      · cases hzx : lt z x with
        | false => rfl
        | true =>
          have hzy := h1 z hz
          rcases O.tri x y with h3 | rfl | h3
          · rw [O.trans _ _ _ hzx h3] at hzy; cases hzy
          · rw [hzx] at hzy; cases hzy
          · rw [h3] at hyx; cases hyx
theorem isort_sorted (O : Ord1 lt) : ∀ l : List α, (isort lt l).Pairwise (fun x y => lt y x = false)
  | [] => List.Pairwise.nil
  | x :: r => ins_sorted O x _ (isort_sorted O r)
theorem merge_isort (O : Ord1 lt) (l : List α) : (l.mergeSort fun x y => !lt y x) = isort lt l := by
  refine List.Perm.eq_of_pairwise (le := fun x y => lt y x = false) (fun a b _ _ h1 h2 => ?_) (sorted_merge O l) (isort_sorted O l) ((List.mergeSort_perm _ _).trans (isort_perm l).symm)
  rcases O.tri a b with h | h | h
  · rw [h] at h2; cases h2
  · exact h
  · rw [h] at h1; cases h1
end
theorem sortI_isort {l : List Int} (h : l.length < 4294967296) : sortI l = some (isort ltI l) := by
  unfold sortI
  rw [if_pos h, ← merge_isort ord_ltI]
  have : (fun x y : Int => decide (x ≤ y)) = fun x y => !ltI y x := by
    funext x y
    rw [Bool.eq_iff_iff]; simp
  rw [this]
end
section
section
variable {α : Type} {l : List α} {i : Nat} {x : α}
theorem at_lt (h : l[i]? = some x) : i < l.length := (List.getElem?_eq_some_iff.1 h).1
theorem at_dec (h : l[i]? = some x) : decide ((i : Int) < len l) = true := by have := at_lt h; simp [len]; omega
theorem end_dec (l : List α) : decide (((l.length : Nat) : Int) < len l) = false := by simp [len]
theorem at_idx (h : l[i]? = some x) : idx l (i : Int) = some x := by rw [idx_nat]; exact h
theorem at_suc (h : l[i]? = some x) (hl : l.length < 4294967296) : w64 ((i : Int) + 1) = ((i + 1 : Nat) : Int) := w64_succ i (by have := at_lt h; omega)
theorem idx_at {j : Int} (h : idx l j = some x) : ∃ n : Nat, j = (n : Int) ∧ l[n]? = some x := by
  unfold idx at h
  split at h
  · rename_i h0; exact ⟨j.toNat, by omega, h⟩
  · cases h
theorem idx_ok {j : Int} (h0 : 0 ≤ j) (h1 : j < l.length) : ∃ x, idx l j = some x := by obtain ⟨x, h, _⟩ := idx_some h0 h1; exact ⟨x, h⟩
theorem take_suc (h : l[i]? = some x) : l.take (i + 1) = l.take i ++ [x] := by rw [List.take_add_one, h]; rfl
theorem mem_at (h : l[i]? = some x) : x ∈ l := List.mem_of_getElem? h
end
section
variable {α σ ρ : Type}
/-- a walk along a list with a state: (state, place) -/
theorem loop_fold {B : σ × Int → Option ((σ × Int) ⊕ ρ)} (l : List α) (f : σ → α → σ) (fin : σ → ρ) (I : Nat → σ → Prop) (s : σ) (h0 : I 0 s)
    (hB : ∀ (i : Nat) x s, l[i]? = some x → I i s → B (s, (i : Int)) = some (.inl (f s x, ((i + 1 : Nat) : Int))) ∧ I (i + 1) (f s x))
    (he : ∀ s, I l.length s → B (s, (l.length : Int)) = some (.inr (fin s))) : loop B (s, 0) = some (fin (l.foldl f s)) ∧ I l.length (l.foldl f s) := by
  have key : ∀ (n i : Nat) (s : σ), i + n = l.length → I i s → loop B (s, (i : Int)) = some (fin ((l.drop i).foldl f s)) ∧ I l.length ((l.drop i).foldl f s) := by
    intro n
    induction n with
    | zero =>
      intro i s h hI
      rw [Nat.add_zero] at h
      subst h
      rw [loop_eq, he s hI, List.drop_length]
      exact ⟨rfl, hI⟩
    | succ n ih =>
      intro i s h hI
      have hx : l[i]? = some l[i] := List.getElem?_eq_getElem (by omega)
      obtain ⟨h1, h2⟩ := hB i _ s hx hI
      rw [loop_eq, h1, List.drop_eq_getElem_cons (by omega)]
      exact ih (i + 1) _ (by omega) h2
  have := key l.length 0 s (by omega) h0
  simpa using this
/-- (place, state) -/
theorem loop_fold' {B : Int × σ → Option ((Int × σ) ⊕ ρ)} (l : List α) (f : σ → α → σ) (fin : σ → ρ) (I : Nat → σ → Prop) (s : σ) (h0 : I 0 s)
    (hB : ∀ (i : Nat) x s, l[i]? = some x → I i s → B ((i : Int), s) = some (.inl (((i + 1 : Nat) : Int), f s x)) ∧ I (i + 1) (f s x))
    (he : ∀ s, I l.length s → B ((l.length : Int), s) = some (.inr (fin s))) : loop B (0, s) = some (fin (l.foldl f s)) ∧ I l.length (l.foldl f s) := by
  have key : ∀ (n i : Nat) (s : σ), i + n = l.length → I i s → loop B ((i : Int), s) = some (fin ((l.drop i).foldl f s)) ∧ I l.length ((l.drop i).foldl f s) := by
    intro n
    induction n with
    | zero =>
      intro i s h hI
      rw [Nat.add_zero] at h
      subst h
      rw [loop_eq, he s hI, List.drop_length]
      exact ⟨rfl, hI⟩
    | succ n ih =>
      intro i s h hI
      have hx : l[i]? = some l[i] := List.getElem?_eq_getElem (by omega)
      obtain ⟨h1, h2⟩ := hB i _ s hx hI
      rw [loop_eq, h1, List.drop_eq_getElem_cons (by omega)]
      exact ih (i + 1) _ (by omega) h2
  have := key l.length 0 s (by omega) h0
  simpa using this
/-- is there one? the answer at the first -/
theorem loop_find {B : Int → Option (Int ⊕ ρ)} (l : List α) (p : α → Bool) (yes no : ρ)
    (hB : ∀ (i : Nat) x, l[i]? = some x → B (i : Int) = some (if p x then .inr yes else .inl ((i + 1 : Nat) : Int))) (he : B (l.length : Int) = some (.inr no)) :
    loop B 0 = some (if l.any p then yes else no) := by
  have key : ∀ (n i : Nat), i + n = l.length → loop B (i : Int) = some (if (l.drop i).any p then yes else no) := by
    intro n
    induction n with
    | zero =>
      intro i h
      rw [Nat.add_zero] at h
      subst h
      rw [loop_eq, he, List.drop_length]
      rfl
    | succ n ih =>
      intro i h
      have hx : l[i]? = some l[i] := List.getElem?_eq_getElem (by omega)
      rw [loop_eq, hB i _ hx, List.drop_eq_getElem_cons (by omega)]
      cases hp : p l[i] with
      | true => simp only [if_true, List.any_cons, hp, Bool.true_or]
      | false =>
        simp only [Bool.false_eq_true, if_false, List.any_cons, hp, Bool.false_or]
        exact ih (i + 1) (by omega)
  have := key l.length 0 (by omega)
  simpa using this
theorem loop_any {B : Int → Option (Int ⊕ Bool)} (l : List α) (p : α → Bool) (hB : ∀ (i : Nat) x, l[i]? = some x → B (i : Int) = some (if p x then .inr true else .inl ((i + 1 : Nat) : Int))) (he : B (l.length : Int) = some (.inr false)) :
    loop B 0 = some (l.any p) := by
  rw [loop_find l p true false hB he]
  cases l.any p <;> rfl
end
theorem foldl_app_map {α β : Type} (g : α → β) : ∀ (l : List α) (acc : List β), l.foldl (fun s x => s ++ [g x]) acc = acc ++ l.map g
  | [], acc => by simp
  | x :: l, acc => by simp only [List.foldl_cons, foldl_app_map g l]; simp
theorem foldl_app_flat {α β : Type} (g : α → List β) : ∀ (l : List α) (acc : List β), l.foldl (fun s x => s ++ g x) acc = acc ++ l.flatMap g
  | [], acc => by simp
  | x :: l, acc => by simp only [List.foldl_cons, foldl_app_flat g l]; simp
/-- sorted, adjacent repetitions left out -/
theorem sort_dedup {l r : List Int} (h : r.Perm l) (hs : r.Pairwise (fun x y => ltI y x = false)) : dedup r = nrm ltI l := by
  obtain ⟨h1, h2⟩ := asc_dedup ord_ltI hs
  exact (nrm_eq ord_ltI h1 (fun x => by rw [h2]; exact h.mem_iff)).symm
end
section
/-- 0, 1, .. n-1 -/
def rng (n : Nat) : List Int := (List.range n).map Int.ofNat
theorem rng_len (n : Nat) : (rng n).length = n := by simp [rng]
theorem rng_at {n i : Nat} {x : Int} (h : (rng n)[i]? = some x) : x = (i : Int) ∧ i < n := by
  have h1 := at_lt h
  rw [rng_len] at h1
  simp only [rng, List.getElem?_map, List.getElem?_range h1, Option.map_some, Option.some.injEq] at h
  exact ⟨h.symm, h1⟩
theorem rng_mem {n : Nat} {x : Int} : x ∈ rng n ↔ 0 ≤ x ∧ x < n := by
  simp only [rng, List.mem_map, List.mem_range]
  exact ⟨fun ⟨a, h1, h2⟩ => by subst h2; simp; omega, fun h => ⟨x.toNat, by omega, by simp; omega⟩⟩
theorem rng_asc (n : Nat) : Asc ltI (rng n) := by
  rw [rng, Asc, List.pairwise_map]
  exact List.pairwise_lt_range.imp fun {a b} h => by simp; omega
/-- a loop that puts lists together -/
theorem loop_flat {α β ρ : Type} {B : List β × Int → Option ((List β × Int) ⊕ ρ)} (l : List α) (g : α → List β) (fin : List β → ρ) (c : Nat) (hg : ∀ x ∈ l, (g x).length ≤ c) (acc : List β)
    (hB : ∀ (i : Nat) x s, l[i]? = some x → s.length ≤ acc.length + c * i → B (s, (i : Int)) = some (.inl (s ++ g x, ((i + 1 : Nat) : Int))))
    (he : ∀ s, B (s, (l.length : Int)) = some (.inr (fin s))) : loop B (acc, 0) = some (fin (acc ++ l.flatMap g)) := by
  have h := loop_fold (B := B) l (fun s x => s ++ g x) fin (fun i s => s.length ≤ acc.length + c * i) acc (by simp) (fun i x s hx hI => ⟨hB i x s hx hI, by
    have := hg x (mem_at hx)
    rw [List.length_append, Nat.mul_add]; omega⟩) (fun s _ => he s)
  rw [foldl_app_flat] at h
  exact h.1
theorem flat_le {α β : Type} (g : α → List β) (c : Nat) : ∀ (l : List α), (∀ x ∈ l, (g x).length ≤ c) → (l.flatMap g).length ≤ l.length * c
  | [], _ => by simp
  | x :: l, h => by
    have h1 := flat_le g c l fun y hy => h y (List.mem_cons_of_mem _ hy)
    have h2 := h x List.mem_cons_self
    simp only [List.flatMap_cons, List.length_append, List.length_cons, Nat.add_mul, Nat.one_mul]
    omega
theorem flat_filter {α β : Type} (p : α → Bool) (g : α → List β) (l : List α) : (l.filter p).flatMap g = l.flatMap fun x => if p x then g x else [] := by
  induction l with
  | nil => rfl
  | cons x l ih =>
    rw [List.filter_cons, List.flatMap_cons]
    cases hp : p x with
    | true => simp [ih]
    | false => simp [ih]
section
variable {α : Type}
end
end
section
theorem sless_irrefl : ∀ a : Str, sless a a = false
  | [] => rfl
  | a :: x => by simp [sless, sless_irrefl x, UInt8.lt_irrefl]
theorem sless_trans : ∀ {a b c : Str}, sless a b = true → sless b c = true → sless a c = true
  | _, _, [], _, h => by simp [sless] at h
  | _, [], _ :: _, h, _ => by simp [sless] at h
  | [], _ :: _, _ :: _, _, _ => rfl
  | a :: x, b :: y, c :: z, h1, h2 => by
    simp only [sless, Bool.or_eq_true, decide_eq_true_eq, Bool.and_eq_true, beq_iff_eq] at *
    rcases h1 with h1 | ⟨rfl, h1⟩ <;> rcases h2 with h2 | ⟨rfl, h2⟩
    · exact .inl (UInt8.lt_trans h1 h2)
    · exact .inl h1
    · exact .inl h2
    · exact .inr ⟨rfl, sless_trans h1 h2⟩
theorem sless_tri : ∀ a b : Str, sless a b = true ∨ a = b ∨ sless b a = true
  | [], [] => .inr (.inl rfl)
  | [], _ :: _ => .inl rfl
  | _ :: _, [] => .inr (.inr rfl)
  | a :: x, b :: y => by
    simp only [sless, Bool.or_eq_true, decide_eq_true_eq, Bool.and_eq_true, beq_iff_eq, List.cons.injEq]
    rcases UInt8.lt_or_lt_of_ne (a := a) (b := b) |> fun f => (Classical.em (a = b)).imp id f with rfl | h | h
    · rcases sless_tri x y with h | rfl | h
      · exact .inl (.inr ⟨rfl, h⟩)
      · exact .inr (.inl ⟨rfl, rfl⟩)
      · exact .inr (.inr (.inr ⟨rfl, h⟩))
    · exact .inl (.inl h)
    · exact .inr (.inr (.inl h))
theorem cmp_string (a b : Str) : m_cmp_Compare_string a b = some (if sless a b then -1 else if a = b then 0 else 1) := by
  have hn : ∀ x : Str, m_cmp_isNaN_string x = some false := fun x => by simp [m_cmp_isNaN_string]
  simp only [m_cmp_Compare_string, hn, Option.bind_some, Bool.false_eq_true, if_false]
  by_cases h1 : sless a b = true
  · simp [h1]
  · by_cases h2 : a = b
    · simp [h2, sless_irrefl]
    · simp [h1, h2]
def loB (b : UInt8) : Bool := decide (97 ≤ (b.toNat : Int)) && decide ((b.toNat : Int) ≤ 122)
def okB (b : UInt8) : Bool := loB b || (if decide (48 ≤ (b.toNat : Int)) then decide ((b.toNat : Int) ≤ 57) || (b.toNat : Int) == 95 else (b.toNat : Int) == 95)
/-- is it a name? -/
def vName : Str → Bool
  | [] => false
  | c :: r => decide (r.length + 1 ≤ 12) && loB c && r.all okB
theorem validName (s : Str) : m_literal_ValidName s = some (vName s) := by
  unfold m_literal_ValidName
  cases s with
  | nil => rfl
  | cons c r =>
    have h0 : ((len (c :: r)) == 0) = false := by rw [beq_eq_false_iff_ne]; simp [len]; omega
    by_cases hl : r.length + 1 ≤ 12
    · have h1 : decide (12 < len (c :: r)) = false := by simp [len]; omega
      rw [h0, h1]
      simp only [Bool.or_self, Bool.false_eq_true, if_false]
      have h := loop_runL0 (B := m_literal_ValidName_L1 (c :: r)) (fun i (_ : Unit) => (i : Int)) (c :: r)
        (fun i _ b => some (if loB b then .inl () else if decide (0 < (i : Int)) && okB b then .inl () else .inr false)) (fun _ => some true) ?_ ?_ ()
      · rw [show ((0 : Nat) : Int) = 0 from rfl] at h
        rw [h]
        have key : ∀ (l : List UInt8) (i : Nat), 0 < i → runL (fun (i : Nat) (_ : Unit) (b : UInt8) => some (if loB b then .inl () else if decide (0 < (i : Int)) && okB b then .inl () else .inr false)) (fun _ => some true) i l () = some (l.all okB) := by
          intro l
          induction l with
          | nil => intro i _; rfl
          | cons b l ih =>
            intro i hi
            have hd : decide (0 < (i : Int)) = true := by simp; omega
            by_cases hb : okB b = true
            · by_cases hlo : loB b = true
              · simp only [runL, hlo, if_true]; rw [ih (i + 1) (by omega)]; simp [hb]
              · simp only [runL, hlo, if_false, hd, hb, Bool.and_self, if_true, Bool.false_eq_true]; rw [ih (i + 1) (by omega)]; simp [hb]
            · have hlo : ¬ loB b = true := fun h => hb (by simp [okB, h])
              simp [runL, hlo, hb]
        by_cases hlo : loB c = true
        · simp only [runL, hlo, if_true]
          rw [key r 1 (by omega)]
          simp [vName, hlo, hl]
        · simp [runL, hlo, vName]
      · intro i x s hx
        have hi := (List.getElem?_eq_some_iff.1 hx).1
        have hlt : decide ((i : Int) < len (c :: r)) = true := by simp [len] at hi ⊢; omega
        unfold m_literal_ValidName_L1
        rw [sidx_nat, hx, w64_succ i (by simp at hi; omega)]
        simp only [hlt, if_true, Option.map_some, Option.bind_some]
        by_cases hlo : loB x = true
        · have hlo' := hlo
          unfold loB at hlo'
          simp only [hlo', if_true, hlo]
        · have hlo' := hlo
          unfold loB at hlo'
          simp only [hlo', if_false, hlo, Bool.false_eq_true]
          by_cases hc : (decide (0 < (i : Int)) && okB x) = true
          · have hc' := hc
            unfold okB at hc'
            simp only [hlo, Bool.false_or] at hc'
            simp only [hc', if_true, hc]
          · have hc' := hc
            unfold okB at hc'
            simp only [hlo, Bool.false_or] at hc'
            simp only [hc', if_false, hc, Bool.false_eq_true]
      · intro s
        unfold m_literal_ValidName_L1
        simp [len]
    · have h1 : decide (12 < len (c :: r)) = true := by simp [len]; omega
      rw [h1]
      simp [vName, hl]
theorem ref_validName (s : Str) : m_ref01_ValidName s = some (vName s) := by
  unfold m_ref01_ValidName
  cases s with
  | nil => rfl
  | cons c r =>
    have h0 : decide ((len (c :: r)) < 1) = false := by simp [len]; omega
    have hs0 : sidx (c :: r) 0 = some (c.toNat : Int) := rfl
    rw [h0]
    by_cases hl : r.length + 1 ≤ 12
    · have h1 : decide (12 < len (c :: r)) = false := by simp [len]; omega
      rw [h1]
      simp only [Bool.false_eq_true, if_false, hs0, Option.bind_some]
      by_cases hlo : loB c = true
      · have ha : decide ((c.toNat : Int) < 97) = false := by simp [loB] at hlo ⊢; omega
        have hb : decide (122 < (c.toNat : Int)) = false := by simp [loB] at hlo ⊢; omega
        simp only [ha, hb, Bool.false_eq_true, if_false, Option.bind_some]
        have h := loop_runL0 (B := m_ref01_ValidName_L1 (c :: r)) (fun i (_ : Unit) => (i : Int)) (c :: r)
          (fun _ _ b => some (if okB b then .inl () else .inr false)) (fun _ => some true) ?_ ?_ ()
        · rw [show ((0 : Nat) : Int) = 0 from rfl] at h
          rw [h]
          have key : ∀ (l : List UInt8) (i : Nat), runL (fun (_ : Nat) (_ : Unit) (b : UInt8) => some (if okB b then .inl () else .inr false)) (fun _ => some true) i l () = some (l.all okB) := by
            intro l
            induction l with
            | nil => intro i; rfl
            | cons b l ih =>
              intro i
              by_cases hb : okB b = true
              · simp only [runL, hb, if_true]; rw [ih (i + 1)]; simp [hb]
              · simp [runL, hb]
          rw [key]
          simp [vName, hlo, hl, okB]
        · intro i x s hx
          have hi := (List.getElem?_eq_some_iff.1 hx).1
          have hlt : decide ((i : Int) < len (c :: r)) = true := by simp [len] at hi ⊢; omega
          unfold m_ref01_ValidName_L1
          rw [sidx_nat, hx, w64_succ i (by simp at hi; omega)]
          simp only [hlt, if_true, Option.map_some, Option.bind_some]
          have hok : okB x = !(if decide ((x.toNat : Int) < 97) then (if decide ((x.toNat : Int) < 48) then ((x.toNat : Int) != 95) else if decide (57 < (x.toNat : Int)) then ((x.toNat : Int) != 95) else false)
              else if decide (122 < (x.toNat : Int)) then (if decide ((x.toNat : Int) < 48) then ((x.toNat : Int) != 95) else if decide (57 < (x.toNat : Int)) then ((x.toNat : Int) != 95) else false) else false) := by
            unfold okB loB
            generalize (x.toNat : Int) = n
            rw [Bool.eq_iff_iff]
            simp
            constructor
            · intro h
              by_cases h1 : n < 97 <;> by_cases h2 : n < 48 <;> by_cases h3 : 57 < n <;> by_cases h4 : 122 < n <;> simp [h1, h2, h3, h4] <;> (split at h <;> (try simp at h) <;> omega)
            · intro h
              by_cases h1 : n < 97 <;> by_cases h2 : n < 48 <;> by_cases h3 : 57 < n <;> by_cases h4 : 122 < n <;> simp [h1, h2, h3, h4] at h <;> (split <;> (try simp) <;> omega)
          rw [hok]
          cases decide ((x.toNat : Int) < 97) <;> cases decide ((x.toNat : Int) < 48) <;> cases decide (57 < (x.toNat : Int)) <;> cases decide (122 < (x.toNat : Int)) <;> cases ((x.toNat : Int) != 95) <;> rfl
        · intro s
          unfold m_ref01_ValidName_L1
          simp [len]
      · have hor : (decide ((c.toNat : Int) < 97) || decide (122 < (c.toNat : Int))) = true := by simp [loB] at hlo ⊢; omega
        have hv : vName (c :: r) = false := by simp [vName, hlo]
        rw [hv]
        cases h1 : decide ((c.toNat : Int) < 97) with
        | true => rfl
        | false => rw [h1] at hor; simp only [Bool.false_or] at hor; simp only [Bool.false_eq_true, if_false, hor, Option.bind_some, if_true]
    · have h1 : decide (12 < len (c :: r)) = true := by simp [len]; omega
      rw [h1]
      simp [vName, hl]
theorem lit_valid (x : T_Literal) : m_literal_Valid x = some (vName x.2) := by simp [m_literal_Valid, validName]
theorem ref_valid (x : T_Literal) : m_ref01_Valid x = some (vName x.2) := by simp [m_ref01_Valid, ref_validName]
def litLt (a b : T_Literal) : Bool := sless a.2 b.2 || (a.2 == b.2 && (!a.1 && b.1))
/-- the comparison of literals -/
def litCmp (a b : T_Literal) : Int := if litLt a b then -1 else if a = b then 0 else 1
theorem litLt_irrefl (a : T_Literal) : litLt a a = false := by simp [litLt, sless_irrefl]
theorem litLt_trans {a b c : T_Literal} (h1 : litLt a b = true) (h2 : litLt b c = true) : litLt a c = true := by
  obtain ⟨g, a⟩ := a; obtain ⟨g', b⟩ := b; obtain ⟨g'', c⟩ := c
  simp only [litLt, Bool.or_eq_true, Bool.and_eq_true, beq_iff_eq, Bool.not_eq_true'] at *
  rcases h1 with h1 | ⟨rfl, h1, h1'⟩ <;> rcases h2 with h2 | ⟨rfl, h2, h2'⟩
  · exact .inl (sless_trans h1 h2)
  · exact .inl h1
  · exact .inl h2
  · rw [h1'] at h2; cases h2
theorem litLt_tri (a b : T_Literal) : litLt a b = true ∨ a = b ∨ litLt b a = true := by
  obtain ⟨g, a⟩ := a; obtain ⟨g', b⟩ := b
  simp only [litLt, Bool.or_eq_true, Bool.and_eq_true, beq_iff_eq, Bool.not_eq_true', Prod.mk.injEq]
  rcases sless_tri a b with h | rfl | h
  · exact .inl (.inl h)
  · cases g <;> cases g' <;> simp
  · exact .inr (.inr (.inl h))
theorem lit_compare (a b : T_Literal) : m_literal_Compare a b = some (litCmp a b) := by
  obtain ⟨g, a⟩ := a; obtain ⟨g', b⟩ := b
  unfold m_literal_Compare litCmp litLt
  rw [cmp_string]
  by_cases h1 : sless a b = true
  · simp [h1]
  · by_cases h2 : a = b
    · subst h2
      cases g <;> cases g' <;> simp [sless_irrefl]
    · simp [h1, h2]
theorem ref_compare (a b : T_Literal) : m_ref01_Compare a b = some (litCmp a b) := by
  obtain ⟨g, a⟩ := a; obtain ⟨g', b⟩ := b
  unfold m_ref01_Compare litCmp litLt
  by_cases h1 : sless a b = true
  · have h2 : a ≠ b := fun e => by subst e; rw [sless_irrefl] at h1; cases h1
    simp [h1, h2]
  · by_cases h2 : a = b
    · subst h2
      cases g <;> cases g' <;> simp [sless_irrefl]
    · simp [h1, h2]
theorem ordF_lit : OrdF m_literal_Compare := by
  have hlt : ∀ x y, ltF m_literal_Compare x y = litLt x y := fun x y => by
    simp only [ltF, lit_compare, litCmp, Option.getD_some]
    cases h : litLt x y with
    | true => simp
    | false => by_cases he : x = y <;> simp [he]
  refine ⟨fun x y => ⟨_, lit_compare x y⟩, fun x => by rw [hlt, litLt_irrefl], fun x y z h1 h2 => ?_, fun x y z h1 h2 => ?_, fun x y h1 h2 => ?_⟩
  · rw [hlt] at *; exact litLt_trans h1 h2
  · rw [hlt] at *
    cases h3 : litLt x z with
    | false => rfl
    | true =>
      rcases litLt_tri x y with h | rfl | h
      · rw [h] at h1; cases h1
      · rw [h3] at h2; cases h2
      · have := litLt_trans h h3; rw [this] at h2; cases h2
  · rw [hlt] at *
    rcases litLt_tri x y with h | h | h
    · rw [h] at h1; cases h1
    · exact h
    · rw [h] at h2; cases h2
theorem ltF_lit (x y : T_Literal) : ltF m_literal_Compare x y = litLt x y := by
  simp only [ltF, lit_compare, litCmp, Option.getD_some]
  cases h : litLt x y with
  | true => simp
  | false => by_cases he : x = y <;> simp [he]
end
section
theorem ord_lit : Ord1 litLt := ⟨litLt_irrefl, fun _ _ _ => litLt_trans, litLt_tri⟩
theorem sort_lit {l : List T_Literal} (h : l.length < 4294967296) : m_slices_SortFunc_Literal__literal_Compare l = some (l.mergeSort fun x y => !litLt y x) := by
  simp only [m_slices_SortFunc_Literal__literal_Compare, sortF]
  rw [if_pos ⟨ordF_lit, h⟩]
  simp only [ltF_lit]
theorem lit_has {l : List T_Literal} (x : T_Literal) (h : l.length < 9223372036854775807) : m_literal_Has l x = some (decide (x ∈ l)) := by
  obtain ⟨r, hr, hi⟩ := indexM_spec l x h
  have e : m_slices_Index_Literal l x = some r := (show m_slices_Index_Literal l x = indexM l x from rfl).trans hr
  simp only [m_literal_Has, m_slices_Contains_Literal, e, Option.bind_some]
  congr 1
  rw [decide_eq_decide, hi]
  simp
end
section
theorem ref_has {l : List T_Literal} (x : T_Literal) (h : l.length < 9223372036854775807) : m_ref01_Has l x = some (decide (x ∈ l)) := by
  have hh := loop_forI (B := m_ref01_Has_L1 l x) (fun i (_ : Unit) => (i : Int)) l (fun i _ => ∀ j, j < i → l[j]? ≠ some x) (fun r => r = decide (x ∈ l)) ?_ ?_ () (by simp)
  · obtain ⟨r, h1, rfl⟩ := hh; exact h1
  · intro i y s hy hI
    have hi := (List.getElem?_eq_some_iff.1 hy).1
    have hlt : decide ((i : Int) < len l) = true := by simp [len]; omega
    unfold m_ref01_Has_L1
    simp only [hlt, if_true, idx_nat, hy, Option.bind_some]
    by_cases hxy : y = x
    · subst hxy
      refine .inr ⟨true, by simp, ?_⟩
      simp [List.mem_of_getElem? hy]
    · refine .inl ⟨(), by simp [hxy, w64_succ i (by omega)], fun j hj => ?_⟩
      rcases Nat.lt_succ_iff_lt_or_eq.1 hj with h | rfl
      · exact hI j h
      · rw [hy]; simpa using hxy
  · intro s hI
    refine ⟨false, by unfold m_ref01_Has_L1; simp [len], ?_⟩
    symm
    rw [decide_eq_false_iff_not]
    intro hm
    obtain ⟨j, hj⟩ := List.mem_iff_getElem?.1 hm
    exact hI j (List.getElem?_eq_some_iff.1 hj).1 hj
end
section
theorem insert_at (l : List Int) (n : Int) (hl : l.length < 4294967290) : ∃ k : Nat, loop (m_ref07_insert_L1 l n) 0 = some (k : Int) ∧ k ≤ l.length ∧ (∀ j x, j < k → l[j]? = some x → x < n) ∧ ∀ x, l[k]? = some x → n ≤ x := by
  have h := loop_forI (B := m_ref07_insert_L1 l n) (fun i (_ : Unit) => (i : Int)) l (fun i _ => ∀ j x, j < i → l[j]? = some x → x < n)
    (fun r => ∃ k : Nat, r = (k : Int) ∧ k ≤ l.length ∧ (∀ j x, j < k → l[j]? = some x → x < n) ∧ ∀ x, l[k]? = some x → n ≤ x) ?_ ?_ () (by omega)
  · obtain ⟨r, h1, k, rfl, h2⟩ := h; exact ⟨k, h1, h2⟩
  · intro i x s hx hI
    unfold m_ref07_insert_L1
    simp only [at_dec hx, if_true, at_idx hx, Option.bind_some]
    by_cases hlt : x < n
    · refine .inl ⟨(), by simp [hlt, at_suc hx (by omega)], fun j y hj hy => ?_⟩
      rcases Nat.lt_succ_iff_lt_or_eq.1 hj with h | rfl
      · exact hI j y h hy
      · rw [hx] at hy; cases hy; exact hlt
    · exact .inr ⟨i, by simp [hlt], i, rfl, by have := at_lt hx; omega, hI, fun y hy => by rw [hx] at hy; cases hy; omega⟩
  · intro s hI
    unfold m_ref07_insert_L1
    exact ⟨(l.length : Int), by simp [len], l.length, rfl, Nat.le_refl _, hI, fun x hx => by simp at hx⟩
theorem ref_insertI {l : List Int} (n : Int) (hl : l.length < 4294967000) (ha : Asc ltI l) : ∃ r, m_ref07_insert l n = some r ∧ Asc ltI r ∧ (∀ y, y ∈ r ↔ y = n ∨ y ∈ l) ∧ r.length ≤ l.length + 1 := by
  obtain ⟨k, h1, h2, h3, h4⟩ := insert_at l n (by omega)
  have hsplit : l = l.take k ++ l.drop k := (List.take_append_drop k l).symm
  have hlo : ∀ x ∈ l.take k, x < n := fun x hx => by
    obtain ⟨j, hj⟩ := List.mem_iff_getElem?.1 hx
    rw [List.getElem?_take] at hj
    split at hj
    · rename_i hjk; exact h3 j x hjk hj
    · cases hj
  have hhi : ∀ x ∈ l.drop k, n ≤ x := fun x hx => by
    obtain ⟨j, hj⟩ := List.mem_iff_getElem?.1 hx
    rw [List.getElem?_drop] at hj
    cases j with
    | zero => exact h4 x hj
    | succ j =>
      have hk : k < l.length := by have := at_lt hj; omega
      have h5 := h4 l[k] (List.getElem?_eq_getElem hk)
      have h6 := List.pairwise_iff_getElem.1 ha k (k + (j + 1)) hk (at_lt hj) (by omega)
      rw [List.getElem?_eq_getElem (at_lt hj)] at hj
      have hj := Option.some.inj hj
      simp at h6; omega
  unfold m_ref07_insert
  rw [h1]
  simp only [Option.bind_some]
  by_cases he : ∃ x, l[k]? = some x ∧ x = n
  · obtain ⟨x, hx, rfl⟩ := he
    refine ⟨l, by simp only [at_dec hx, if_true, at_idx hx, Option.bind_some, beq_self_eq_true], ha, fun y => ⟨.inr, fun h => by rcases h with rfl | h; exact mem_at hx; exact h⟩, by omega⟩
  · have hc : (if decide ((k : Int) < len l) = true then (idx l (k : Int)).bind fun x2 => some (x2 == n) else some false) = some false := by
      by_cases hk : k < l.length
      · have hx : l[k]? = some l[k] := List.getElem?_eq_getElem hk
        simp only [at_dec hx, if_true, at_idx hx, Option.bind_some]
        congr 1
        rw [beq_eq_false_iff_ne]
        exact fun e => he ⟨_, hx, e⟩
      · have : decide ((k : Int) < len l) = false := by simp [len]; omega
        simp only [this, Bool.false_eq_true, if_false]
    rw [hc]
    simp only [Option.bind_some, Bool.false_eq_true, if_false]
    rw [sub_pre (by omega) (by omega), sub_suf (by omega) (by omega)]
    simp only [Option.bind_some, Int.toNat_natCast]
    have l1 : (l.take k).length = k := by simp; omega
    have l2 : (l.drop k).length = l.length - k := by simp
    rw [app_ok (by simp; omega)]
    simp only [Option.bind_some, List.nil_append]
    rw [app_ok (by simp; omega)]
    simp only [Option.bind_some]
    rw [app_ok (by simp; omega)]
    refine ⟨_, rfl, ?_, fun y => ?_, by simp; omega⟩
    · rw [List.append_assoc]
      refine List.pairwise_append.2 ⟨ha.sublist (List.take_sublist k l), ?_, fun x hx y hy => ?_⟩
      · refine List.pairwise_append.2 ⟨by simp, ha.sublist (List.drop_sublist k l), fun x hx y hy => ?_⟩
        simp only [List.mem_singleton] at hx
        subst hx
        have h5 := hhi y hy
        have h6 : y ≠ x := fun e => by
          subst e
          obtain ⟨j, hj⟩ := List.mem_iff_getElem?.1 hy
          rw [List.getElem?_drop] at hj
          cases j with
          | zero => exact he ⟨_, hj, rfl⟩
          | succ j =>
            have hk : k < l.length := by have := at_lt hj; omega
            have h5 := h4 l[k] (List.getElem?_eq_getElem hk)
            have h6 := List.pairwise_iff_getElem.1 ha k (k + (j + 1)) hk (at_lt hj) (by omega)
            rw [List.getElem?_eq_getElem (at_lt hj)] at hj
            have hj := Option.some.inj hj
            simp at h6; omega
        simp; omega
      · have h5 := hlo x hx
        rcases List.mem_append.1 hy with h | h
        · simp at h; subst h; simpa using h5
        · have := hhi y h; simp; omega
    · have hm : y ∈ l ↔ y ∈ l.take k ∨ y ∈ l.drop k := by rw [← List.mem_append, List.take_append_drop]
      rw [hm]
      simp only [List.mem_append, List.mem_singleton]
      constructor
      · rintro ((h | h) | h)
        · exact .inr (.inl h)
        · exact .inl h
        · exact .inr (.inr h)
      · rintro (h | h | h)
        · exact .inl (.inr h)
        · exact .inl (.inl h)
        · exact .inr h
theorem ref_unionI {l m : List Int} (hl : l.length + m.length < 4294966000) (ha : Asc ltI l) : ∃ r, m_ref07_union l m = some r ∧ Asc ltI r ∧ (∀ y, y ∈ r ↔ y ∈ l ∨ y ∈ m) ∧ r.length ≤ l.length + m.length := by
  have h := loop_forI (B := m_ref07_union_L1 m) (fun i (s : List Int) => (s, (i : Int))) m (fun i s => Asc ltI s ∧ (∀ y, y ∈ s ↔ y ∈ l ∨ y ∈ m.take i) ∧ s.length ≤ l.length + i)
    (fun r => Asc ltI r ∧ (∀ y, y ∈ r ↔ y ∈ l ∨ y ∈ m) ∧ r.length ≤ l.length + m.length) ?_ ?_ l ⟨ha, by simp, by omega⟩
  · exact h
  · rintro i x s hx ⟨h1, h2, h3⟩
    have hi := at_lt hx
    obtain ⟨r, e1, e2, e3, e4⟩ := ref_insertI x (by omega) h1
    refine .inl ⟨r, ?_, e2, fun y => ?_, by omega⟩
    · unfold m_ref07_union_L1
      simp only [at_dec hx, if_true, at_idx hx, Option.bind_some, e1, at_suc hx (by omega)]
    · rw [e3, h2, take_suc hx]
      simp only [List.mem_append, List.mem_singleton]
      constructor
      · rintro (h | h | h)
        · exact .inr (.inr h)
        · exact .inl h
        · exact .inr (.inl h)
      · rintro (h | h | h)
        · exact .inr (.inl h)
        · exact .inr (.inr h)
        · exact .inl h
  · rintro s ⟨h1, h2, h3⟩
    refine ⟨s, by unfold m_ref07_union_L1; simp [len], h1, fun y => by rw [h2, List.take_length], h3⟩
theorem sortI_int {l : List Int} (h : l.length < 4294967296) : m_slices_Sort_int l = some (isort ltI l) := sortI_isort h
theorem compact_int {l : List Int} (h : l.length < 4294967296) : m_slices_Compact_int l = some (dedup l) := compactM_spec 0 l (by omega)
/-- sort and compact -/
theorem sortcomp {β : Type} {l : List Int} (h : l.length < 4294967296) (k : List Int → Option β) : ((m_slices_Sort_int l).bind fun r3 => (m_slices_Compact_int r3).bind fun r4 => k r4) = k (nrm ltI l) := by
  rw [sortI_int h]
  simp only [Option.bind_some]
  rw [compact_int (by rw [(isort_perm l).length_eq]; exact h)]
  simp only [Option.bind_some]
  rw [sort_dedup (isort_perm l) (isort_sorted ord_ltI l)]
theorem nrm_asc (l : List Int) : Asc ltI (nrm ltI l) := (nrm_spec ord_ltI l).1
theorem nrm_mem (l : List Int) (x : Int) : x ∈ nrm ltI l ↔ x ∈ l := (nrm_spec ord_ltI l).2 x
inductive SubOf (l : List T_Argument) : Int → Int → Prop
  | self (i : Int) : SubOf l i i
  | step {i k j : Int} {a : T_Argument} : idx l i = some a → k ∈ a.2.2.1 → SubOf l k j → SubOf l i j
structure FormA (l : List T_Argument) : Prop where
  len : l.length ≤ 100
  nsub : ∀ a ∈ l, a.2.2.1.length ≤ 100
  sub : ∀ (i : Nat) a, l[i]? = some a → ∀ k ∈ a.2.2.1, 0 ≤ k ∧ k < i
theorem FormA.at {l : List T_Argument} (h : FormA l) {i : Int} {a : T_Argument} (hi : idx l i = some a) : a.2.2.1.length ≤ 100 ∧ 0 ≤ i ∧ i < l.length ∧ ∀ k ∈ a.2.2.1, 0 ≤ k ∧ k < i := by
  obtain ⟨n, rfl, hn⟩ := idx_at hi
  exact ⟨h.nsub a (mem_at hn), by omega, by have := at_lt hn; omega, h.sub n a hn⟩
theorem SubOf.le {l : List T_Argument} (h : FormA l) {i j : Int} (hs : SubOf l i j) : 0 ≤ i → 0 ≤ j ∧ j ≤ i := by
  induction hs with
  | self i => intro h0; omega
  | step hi hk _ ih => intro h0; have := (h.at hi).2.2.2 _ hk; have := ih this.1; omega
theorem SubOf.trans {l : List T_Argument} {i j k : Int} (h : SubOf l i j) (h2 : SubOf l j k) : SubOf l i k := by
  induction h with
  | self i => exact h2
  | step hi hk _ ih => exact .step hi hk (ih h2)
theorem SubOf.iff {l : List T_Argument} {i j : Int} {a : T_Argument} (hi : idx l i = some a) : SubOf l i j ↔ j = i ∨ ∃ k ∈ a.2.2.1, SubOf l k j := by
  constructor
  · intro h
    cases h with
    | self => exact .inl rfl
    | step h1 h2 h3 => rw [hi] at h1; cases h1; exact .inr ⟨_, h2, h3⟩
  · rintro (rfl | ⟨k, h1, h2⟩)
    · exact .self _
    · exact .step hi h1 h2
open Classical in
noncomputable def subsS (l : List T_Argument) (i : Int) : List Int := ((List.range l.length).map Int.ofNat).filter fun j => decide (SubOf l i j)
theorem subsS_asc (l : List T_Argument) (i : Int) : Asc ltI (subsS l i) := by
  refine List.Pairwise.filter _ ?_
  rw [List.pairwise_map]
  exact List.pairwise_lt_range.imp fun {a b} h => by simp; omega
theorem subsS_len (l : List T_Argument) (i : Int) : (subsS l i).length ≤ l.length := Nat.le_trans (List.length_filter_le _ _) (by simp)
theorem subsS_mem {l : List T_Argument} (h : FormA l) {i : Int} (h0 : 0 ≤ i) (h1 : i < l.length) (j : Int) : j ∈ subsS l i ↔ SubOf l i j := by
  simp only [subsS, List.mem_filter, List.mem_map, List.mem_range, decide_eq_true_eq]
  constructor
  · exact fun h => h.2
  · intro hs
    have := hs.le h h0
    exact ⟨⟨j.toNat, by omega, by simp; omega⟩, hs⟩
theorem arg_Subs_k {l : List T_Argument} (h : FormA l) : ∀ (n : Nat) (i : Int), 0 ≤ i → i < l.length → i < n → k_argument_Subs n l i = some (subsS l i) := by
  intro n
  induction n with
  | zero => intro i h0 _ h2; omega
  | succ n ih =>
    intro i h0 h1 h2
    obtain ⟨a, ha⟩ := idx_ok h0 h1
    obtain ⟨hn, _, _, hsub⟩ := h.at ha
    show F_argument_Subs (k_argument_Subs n) l i = _
    have hL := loop_fold (B := m_argument_Subs_L1 a (k_argument_Subs n) l) a.2.2.1 (fun s k => s ++ subsS l k) (fun s => s) (fun q s => s.length ≤ 1 + q * 100) [i] (by simp) (fun q k s hk hI => ?_) (fun s hI => ?_)
    · obtain ⟨e1, e2⟩ := hL
      rw [foldl_app_flat] at e1 e2
      unfold F_argument_Subs m_argument_inside
      have hin : (decide (0 ≤ i) && decide (i < len l)) = true := by simp [len]; omega
      simp only [hin, Option.bind_some, Bool.not_true, Bool.false_eq_true, if_false, ha, e1]
      have hlen : ([i] ++ a.2.2.1.flatMap (subsS l)).length < 4294967296 := by omega
      refine (sortcomp hlen some).trans ?_
      congr 1
      refine nrm_eq ord_ltI (subsS_asc l i) fun j => ?_
      rw [subsS_mem h h0 h1, SubOf.iff ha]
      simp only [List.singleton_append, List.mem_cons, List.mem_flatMap]
      refine or_congr Iff.rfl (exists_congr fun k => and_congr_right fun hk => ?_)
      have := hsub k hk
      rw [subsS_mem h this.1 (by omega)]
    · have hks := hsub k (mem_at hk)
      have hq := at_lt hk
      have hsl := subsS_len l k
      have hl := h.len
      unfold m_argument_Subs_L1
      simp only [at_dec hk, if_true, at_idx hk, Option.bind_some]
      rw [ih k hks.1 (by omega) (by omega)]
      simp only [Option.bind_some]
      rw [app_ok (by omega)]
      refine ⟨by simp only [Option.bind_some, at_suc hk (by omega)], by rw [List.length_append]; omega⟩
    · unfold m_argument_Subs_L1
      simp [len]
theorem arg_Subs {l : List T_Argument} (h : FormA l) {i : Int} (h0 : 0 ≤ i) (h1 : i < l.length) : m_argument_Subs l i = some (subsS l i) :=
  limM_of (i.toNat + 1) fun m hm => arg_Subs_k h m i h0 h1 (by omega)
theorem ref_Subs_k {l : List T_Argument} (h : FormA l) : ∀ (n : Nat) (i : Int), 0 ≤ i → i < l.length → i < n → k_ref07_Subs n l i = some (subsS l i) := by
  intro n
  induction n with
  | zero => intro i h0 _ h2; omega
  | succ n ih =>
    intro i h0 h1 h2
    obtain ⟨a, ha⟩ := idx_ok h0 h1
    obtain ⟨hn, _, _, hsub⟩ := h.at ha
    have hl := h.len
    show F_ref07_Subs (k_ref07_Subs n) l i = _
    have hL := loop_forI (B := m_ref07_Subs_L1 l i (k_ref07_Subs n)) (fun q (s : List Int) => (s, (q : Int))) a.2.2.1 (fun q s => Asc ltI s ∧ (∀ y, y ∈ s ↔ y = i ∨ ∃ k ∈ a.2.2.1.take q, SubOf l k y) ∧ s.length ≤ 1 + q * 100)
      (fun r => Asc ltI r ∧ ∀ y, y ∈ r ↔ SubOf l i y) (fun q k s hk hI => ?_) (fun s hI => ?_) [i] ⟨by simp, by simp, by simp⟩
    · obtain ⟨r, e1, e2, e3⟩ := hL
      unfold F_ref07_Subs
      have hin : (decide (i < 0) || decide (len l ≤ i)) = false := by simp [len]; omega
      simp only [hin, Bool.false_eq_true, if_false]
      exact e1.trans (congrArg some (Asc.ext ord_ltI e2 (subsS_asc l i) fun j => by rw [e3, subsS_mem h h0 h1]))
    · obtain ⟨g1, g2, g3⟩ := hI
      have hks := hsub k (mem_at hk)
      have hq := at_lt hk
      have hsl := subsS_len l k
      obtain ⟨r, e1, e2, e3, e4⟩ := ref_unionI (l := s) (m := subsS l k) (by omega) g1
      refine .inl ⟨r, ?_, e2, fun y => ?_, by omega⟩
      · unfold m_ref07_Subs_L1
        simp only [ha, Option.bind_some, at_dec hk, if_true, at_idx hk]
        rw [ih k hks.1 (by omega) (by omega)]
        simp only [Option.bind_some, e1, at_suc hk (by omega)]
      · rw [e3, g2, subsS_mem h hks.1 (by omega), take_suc hk]
        simp only [List.mem_append, List.mem_singleton, or_and_right, exists_or, exists_eq_left, or_assoc]
    · obtain ⟨g1, g2, g3⟩ := hI
      rw [List.take_length] at g2
      refine ⟨s, by unfold m_ref07_Subs_L1; simp [ha, len], g1, fun y => by rw [g2, SubOf.iff ha]⟩
theorem ref_Subs {l : List T_Argument} (h : FormA l) {i : Int} (h0 : 0 ≤ i) (h1 : i < l.length) : m_ref07_Subs l i = some (subsS l i) :=
  limM_of (i.toNat + 1) fun m hm => ref_Subs_k h m i h0 h1 (by omega)
structure FormB (b : T_Base) (l : List T_Argument) : Prop extends FormA l where
  np : b.1.length ≤ 100
  nr : b.2.1.length ≤ 100
  /-- a premise's index, or a rule's -/
  kind : ∀ (i : Nat) a, l[i]? = some a → (a.1 = (i : Int) ∧ i < b.1.length ∧ a.2.1 = -1) ∨ (a.1 = -1 ∧ 0 ≤ a.2.1 ∧ a.2.1 < b.2.1.length)
variable {b : T_Base} {l : List T_Argument}
theorem FormB.prem (h : FormB b l) {j : Int} {a : T_Argument} (hj : idx l j = some a) : (0 ≤ a.1 → a.1 = j ∧ (∃ p, idx b.1 a.1 = some p) ∧ a.2.1 = -1) ∧ (a.1 < 0 → ∃ r, idx b.2.1 a.2.1 = some r) ∧ (0 ≤ a.2.1 ↔ a.1 < 0) := by
  obtain ⟨n, rfl, hn⟩ := idx_at hj
  rcases h.kind n a hn with ⟨h1, h2, h3⟩ | ⟨h1, h2, h3⟩
  · exact ⟨fun _ => ⟨h1, idx_ok (by omega) (by omega), h3⟩, fun h => by omega, by omega⟩
  · exact ⟨fun h => by omega, fun _ => idx_ok h2 h3, by omega⟩
theorem subs_idx (h : FormA l) {i : Int} (h0 : 0 ≤ i) (h1 : i < l.length) {j : Int} (hj : j ∈ subsS l i) : ∃ a, idx l j = some a := by
  have := ((subsS_mem h h0 h1 j).1 hj).le h h0
  exact idx_ok this.1 (by omega)
/-- the defeasible rules of an argument -/
abbrev isDef (b : T_Base) (a : T_Argument) : Bool := match idx b.2.1 a.2.1 with | some r => !r.2.1 | none => false
noncomputable def defsS (b : T_Base) (l : List T_Argument) (i : Int) : List Int := nrm ltI (((subsS l i).filter fun j => match idx l j with | some a => decide (0 ≤ a.2.1) && isDef b a | none => false).map fun j => match idx l j with | some a => a.2.1 | none => 0)
theorem defsS_mem (h : FormB b l) {i : Int} (h0 : 0 ≤ i) (h1 : i < l.length) (y : Int) : y ∈ defsS b l i ↔ ∃ j ∈ subsS l i, ∃ a, idx l j = some a ∧ 0 ≤ a.2.1 ∧ isDef b a = true ∧ y = a.2.1 := by
  rw [defsS, nrm_mem]
  simp only [List.mem_map, List.mem_filter]
  constructor
  · rintro ⟨j, ⟨h2, h3⟩, h4⟩
    obtain ⟨a, ha⟩ := subs_idx h.toFormA h0 h1 h2
    simp only [ha, Bool.and_eq_true, decide_eq_true_eq] at h3 h4
    exact ⟨j, h2, a, ha, h3.1, h3.2, h4.symm⟩
  · rintro ⟨j, h2, a, ha, h3, h4, rfl⟩
    exact ⟨j, ⟨h2, by simp only [ha, Bool.and_eq_true, decide_eq_true_eq]; exact ⟨h3, h4⟩⟩, by simp only [ha]⟩
theorem defsS_len (b : T_Base) (l : List T_Argument) (i : Int) : (defsS b l i).length ≤ l.length := by
  refine Nat.le_trans (nrm_len ltI _) ?_
  rw [List.length_map]
  exact Nat.le_trans (List.length_filter_le _ _) (subsS_len l i)
theorem arg_Defeasible (h : FormB b l) {i : Int} (h0 : 0 ≤ i) (h1 : i < l.length) : m_argument_Defeasible b l i = some (defsS b l i) := by
  have hl := h.len
  have hsl := subsS_len l i
  have hL := loop_forI (B := m_argument_Defeasible_L1 (subsS l i) l b) (fun q (s : List Int) => (s, (q : Int))) (subsS l i) (fun q s => s = (((subsS l i).take q).filter fun j => match idx l j with | some a => decide (0 ≤ a.2.1) && isDef b a | none => false).map (fun j => match idx l j with | some a => a.2.1 | none => 0) ∧ s.length ≤ q)
    (fun r => r = ((subsS l i).filter fun j => match idx l j with | some a => decide (0 ≤ a.2.1) && isDef b a | none => false).map fun j => match idx l j with | some a => a.2.1 | none => 0) (fun q j s hj hI => ?_) (fun s hI => ?_) [] (by simp)
  · obtain ⟨r, e1, rfl⟩ := hL
    unfold m_argument_Defeasible
    rw [arg_Subs h.toFormA h0 h1]
    simp only [Option.bind_some]
    refine (congrArg (fun o => Option.bind o _) e1).trans ?_
    simp only [Option.bind_some]
    refine (sortcomp ?_ some).trans rfl
    rw [List.length_map]
    have := List.length_filter_le (fun j => match idx l j with | some a => decide (0 ≤ a.2.1) && isDef b a | none => false) (subsS l i)
    omega
  · obtain ⟨g1, g3⟩ := hI
    obtain ⟨a, ha⟩ := subs_idx h.toFormA h0 h1 (mem_at hj)
    have hq := at_lt hj
    have hc : (if decide (0 ≤ a.2.1) = true then (idx b.2.1 a.2.1).bind fun x3 => some (!x3.2.1) else some false) = some (decide (0 ≤ a.2.1) && isDef b a) := by
      by_cases hr : 0 ≤ a.2.1
      · obtain ⟨r, hr2⟩ := (h.prem ha).2.1 ((h.prem ha).2.2.1 hr)
        simp [hr, isDef, hr2]
      · simp [hr]
    unfold m_argument_Defeasible_L1
    simp only [at_dec hj, if_true, at_idx hj, Option.bind_some, ha, hc]
    cases hd : (decide (0 ≤ a.2.1) && isDef b a) with
    | true =>
      simp only [if_true]
      rw [app_ok (by simp; omega)]
      refine .inl ⟨s ++ [a.2.1], by simp only [Option.bind_some, at_suc hj (by omega)], ?_, by simp; omega⟩
      rw [take_suc hj, List.filter_append, List.map_append, ← g1]
      simp [ha, hd]
    | false =>
      simp only [Bool.false_eq_true, if_false]
      refine .inl ⟨s, by simp only [at_suc hj (by omega)], ?_, by omega⟩
      rw [take_suc hj, List.filter_append, List.map_append, ← g1]
      simp [ha, hd]
  · obtain ⟨g1, g3⟩ := hI
    rw [List.take_length] at g1
    exact ⟨s, by unfold m_argument_Defeasible_L1; simp [len], g1⟩
theorem ref_Defeasible (h : FormB b l) {i : Int} (h0 : 0 ≤ i) (h1 : i < l.length) : m_ref07_Defeasible b l i = some (defsS b l i) := by
  have hl := h.len
  have hsl := subsS_len l i
  have hL := loop_forI (B := m_ref07_Defeasible_L1 (subsS l i) l b) (fun q (s : List Int) => (s, (q : Int))) (subsS l i) (fun q s => Asc ltI s ∧ (∀ y, y ∈ s ↔ ∃ j ∈ (subsS l i).take q, ∃ a, idx l j = some a ∧ 0 ≤ a.2.1 ∧ isDef b a = true ∧ y = a.2.1) ∧ s.length ≤ q)
    (fun r => r = defsS b l i) (fun q j s hj hI => ?_) (fun s hI => ?_) [] (by simp)
  · obtain ⟨r, e1, rfl⟩ := hL
    unfold m_ref07_Defeasible
    rw [ref_Subs h.toFormA h0 h1]
    exact e1
  · obtain ⟨g1, g2, g3⟩ := hI
    obtain ⟨a, ha⟩ := subs_idx h.toFormA h0 h1 (mem_at hj)
    have hq := at_lt hj
    have hc : (if decide (0 ≤ a.2.1) = true then (idx b.2.1 a.2.1).bind fun x3 => some (!x3.2.1) else some false) = some (decide (0 ≤ a.2.1) && isDef b a) := by
      by_cases hr : 0 ≤ a.2.1
      · obtain ⟨r, hr2⟩ := (h.prem ha).2.1 ((h.prem ha).2.2.1 hr)
        simp [hr, isDef, hr2]
      · simp [hr]
    unfold m_ref07_Defeasible_L1
    simp only [at_dec hj, if_true, at_idx hj, Option.bind_some, ha, hc]
    cases hd : (decide (0 ≤ a.2.1) && isDef b a) with
    | true =>
      obtain ⟨r, e1, e2, e3, e4⟩ := ref_insertI (l := s) a.2.1 (by omega) g1
      simp only [if_true, e1, Option.bind_some]
      simp only [Bool.and_eq_true, decide_eq_true_eq] at hd
      refine .inl ⟨r, by simp only [at_suc hj (by omega)], e2, fun y => ?_, by omega⟩
      rw [e3, g2, take_suc hj]
      simp only [List.mem_append, List.mem_singleton, or_and_right, exists_or, exists_eq_left]
      rw [or_comm]
      refine or_congr Iff.rfl ⟨fun h => ⟨a, ha, hd.1, hd.2, h⟩, fun ⟨a', h1, _, _, h2⟩ => ?_⟩
      rw [ha] at h1; cases h1; exact h2
    | false =>
      simp only [Bool.false_eq_true, if_false]
      refine .inl ⟨s, by simp only [at_suc hj (by omega)], g1, fun y => ?_, by omega⟩
      rw [g2, take_suc hj]
      simp only [List.mem_append, List.mem_singleton, or_and_right, exists_or, exists_eq_left]
      refine ⟨.inl, fun h => h.elim (fun h => h) fun ⟨a', h1, h2, h3, _⟩ => ?_⟩
      rw [ha] at h1; cases h1
      simp [h2, h3] at hd
  · obtain ⟨g1, g2, g3⟩ := hI
    rw [List.take_length] at g2
    refine ⟨s, by unfold m_ref07_Defeasible_L1; simp [len], Asc.ext ord_ltI g1 (nrm_asc _) fun y => ?_⟩
    rw [g2]
    exact (defsS_mem h h0 h1 y).symm
end
section
def e_slices_Sort_int (_ : Nat) (l : List Int) : Option (List Int) := if l.length < 4294967296 then some (isort ltI l) else none
theorem le_slices_Sort_int (n : Nat) (l : List Int) : Le (e_slices_Sort_int n l) (m_slices_Sort_int l) := ⟨fun r h => by
  unfold e_slices_Sort_int at h
  split at h
  · rename_i hl; unfold m_slices_Sort_int; rw [sortI_isort hl]; exact h
  · cases h⟩
def e_slices_SortFunc_Literal__literal_Compare (_ : Nat) (l : List T_Literal) : Option (List T_Literal) := if l.length < 4294967296 then some (isort litLt l) else none
theorem le_slices_SortFunc_Literal__literal_Compare (n : Nat) (l : List T_Literal) : Le (e_slices_SortFunc_Literal__literal_Compare n l) (m_slices_SortFunc_Literal__literal_Compare l) := ⟨fun r h => by
  unfold e_slices_SortFunc_Literal__literal_Compare at h
  split at h
  · rename_i hl; rw [sort_lit hl, merge_isort ord_lit]; exact h
  · cases h⟩
end
section
set_option linter.unusedVariables false
def e_argument_builder_full (n_ : Nat) (y0 : T_argument_builder) : Option Bool :=
  some (decide (40 < (w64 ((len y0.2.1) + (len y0.2.2.1)))))
theorem le_argument_builder_full (n_ : Nat) (y0 : T_argument_builder) : Le (e_argument_builder_full n_ y0) (m_argument_builder_full y0) := by
  unfold e_argument_builder_full m_argument_builder_full
  repeat with_reducible (first | intro _ | exact Le.refl _ | apply Le.ite | apply Le.seqE | apply Le.bind | apply Le.lp | exact Le.none _)
def e_argument_inside (n_ : Nat) (y0 : List T_Argument) (y1 : Int) : Option Bool :=
  some ((decide (0 ≤ y1)) && (decide (y1 < (len y0))))
theorem le_argument_inside (n_ : Nat) (y0 : List T_Argument) (y1 : Int) : Le (e_argument_inside n_ y0 y1) (m_argument_inside y0 y1) := by
  unfold e_argument_inside m_argument_inside
  repeat with_reducible (first | intro _ | exact Le.refl _ | apply Le.ite | apply Le.seqE | apply Le.bind | apply Le.lp | exact Le.none _)
def e_slices_Compact_int_L2 (n_ : Nat) (y0 : List Int) (s1 : Int) (s3 : (List Int) × Int × Int) : Option (((List Int) × Int × Int) ⊕ ((List Int) × Int)) :=
  if decide (s3.2.2 < ((Int.toNat (((List.length y0 : Nat) : Int) - s1) : Nat) : Int)) then
    (idxV s3.1 s1 s3.2.2).bind fun x3 =>
    (idxV s3.1 s1 (w64 (s3.2.2 - 1))).bind fun x4 =>
    if x3 != x4 then
      (idxV s3.1 s1 s3.2.2).bind fun x5 =>
      (idx s3.1 s3.2.1).bind fun _ =>
      some (.inl (List.set s3.1 (Int.toNat s3.2.1) x5, w64 (s3.2.1 + 1), w64 (s3.2.2 + 1)))
    else
      some (.inl (s3.1, s3.2.1, w64 (s3.2.2 + 1)))
  else
    some (.inr (s3.1, s3.2.1))
theorem le_slices_Compact_int_L2 (n_ : Nat) (y0 : List Int) (s1 : Int) (s3 : (List Int) × Int × Int) : Le (e_slices_Compact_int_L2 n_ y0 s1 s3) (m_slices_Compact_int_L2 y0 s1 s3) := by
  unfold e_slices_Compact_int_L2 m_slices_Compact_int_L2
  repeat with_reducible (first | intro _ | exact Le.refl _ | apply Le.ite | apply Le.seqE | apply Le.bind | apply Le.lp | exact Le.none _)
def e_slices_Compact_int_L1 (n_ : Nat) (y0 : List Int) (s1 : Int) : Option (Int ⊕ (List Int)) :=
  if decide (s1 < (len y0)) then
    (idx y0 s1).bind fun x1 =>
    (idx y0 (w64 (s1 - 1))).bind fun x2 =>
    if x1 == x2 then
      (chk (decide (0 ≤ s1) && decide (s1 ≤ len y0))).bind fun _ =>
      ((lp n_) ((e_slices_Compact_int_L2 n_) y0 s1) (y0, s1, 1) : Option ((List Int) × Int)).bind fun s2 =>
      (chk (decide (0 ≤ s2.2) && decide (s2.2 ≤ len s2.1))).bind fun _ =>
      (sub (clearFrom s2.1 s2.2 0) 0 s2.2).bind fun x7 =>
      some (.inr x7)
    else
      some (.inl (w64 (s1 + 1)))
  else
    some (.inr y0)
theorem le_slices_Compact_int_L1 (n_ : Nat) (y0 : List Int) (s1 : Int) : Le (e_slices_Compact_int_L1 n_ y0 s1) (m_slices_Compact_int_L1 y0 s1) := by
  unfold e_slices_Compact_int_L1 m_slices_Compact_int_L1
  repeat with_reducible (first | intro _ | apply le_slices_Compact_int_L2 | exact Le.refl _ | apply Le.ite | apply Le.seqE | apply Le.bind | apply Le.lp | exact Le.none _)
def e_slices_Compact_int (n_ : Nat) (y0 : List Int) : Option (List Int) :=
  if decide ((len y0) < 2) then
    some y0
  else
    (lp n_) ((e_slices_Compact_int_L1 n_) y0) 1
theorem le_slices_Compact_int (n_ : Nat) (y0 : List Int) : Le (e_slices_Compact_int n_ y0) (m_slices_Compact_int y0) := by
  unfold e_slices_Compact_int m_slices_Compact_int
  repeat with_reducible (first | intro _ | apply le_slices_Compact_int_L1 | exact Le.refl _ | apply Le.ite | apply Le.seqE | apply Le.bind | apply Le.lp | exact Le.none _)
def e_argument_Subs_L1 (n_ : Nat) (x1 : T_Argument) (rec_argument_Subs : (List T_Argument) → Int → Option (List Int)) (y0 : List T_Argument) (s2 : (List Int) × Int) : Option (((List Int) × Int) ⊕ (List Int)) :=
  if decide (s2.2 < (len x1.2.2.1)) then
    (idx x1.2.2.1 s2.2).bind fun x2 =>
    (rec_argument_Subs y0 x2).bind fun r2 =>
    (app s2.1 r2).bind fun x3 =>
    some (.inl (x3, w64 (s2.2 + 1)))
  else
    some (.inr s2.1)
theorem le_argument_Subs_L1 (n_ : Nat) (x1 : T_Argument) {rec_argument_Subs rec_argument_Subs' : (List T_Argument) → Int → Option (List Int)} (h_rec_argument_Subs : ∀ u0 u1, Le (rec_argument_Subs u0 u1) (rec_argument_Subs' u0 u1)) (y0 : List T_Argument) (s2 : (List Int) × Int) : Le (e_argument_Subs_L1 n_ x1 rec_argument_Subs y0 s2) (m_argument_Subs_L1 x1 rec_argument_Subs' y0 s2) := by
  unfold e_argument_Subs_L1 m_argument_Subs_L1
  repeat with_reducible (first | intro _ | apply h_rec_argument_Subs | exact Le.refl _ | apply Le.ite | apply Le.seqE | apply Le.bind | apply Le.lp | exact Le.none _)
def fe_argument_Subs (n_ : Nat) (rec_argument_Subs : (List T_Argument) → Int → Option (List Int)) (y0 : List T_Argument) (y1 : Int) : Option (List Int) :=
  ((e_argument_inside n_) y0 y1).bind fun r1 =>
  if !r1 then
    some ([] : List Int)
  else
    (
      (idx y0 y1).bind fun x1 =>
      (lp n_) ((e_argument_Subs_L1 n_) x1 rec_argument_Subs y0) (([y1] : List Int), 0) : Option (List Int)).bind fun s1 =>
    ((e_slices_Sort_int n_) s1).bind fun r3 =>
    ((e_slices_Compact_int n_) r3).bind fun r4 =>
    some r4
theorem lef_argument_Subs (n_ : Nat) {rec_argument_Subs rec_argument_Subs' : (List T_Argument) → Int → Option (List Int)} (h_rec_argument_Subs : ∀ u0 u1, Le (rec_argument_Subs u0 u1) (rec_argument_Subs' u0 u1)) (y0 : List T_Argument) (y1 : Int) : Le (fe_argument_Subs n_ rec_argument_Subs y0 y1) (F_argument_Subs rec_argument_Subs' y0 y1) := by
  unfold fe_argument_Subs F_argument_Subs
  repeat with_reducible (first | intro _ | apply h_rec_argument_Subs | apply le_slices_Compact_int | apply le_slices_Sort_int | apply le_argument_Subs_L1 | apply le_argument_inside | exact Le.refl _ | apply Le.ite | apply Le.seqE | apply Le.bind | apply Le.lp | exact Le.none _)
def ke_argument_Subs (n_ : Nat) : Nat → (List T_Argument) → Int → Option (List Int)
  | 0 => fun _ _ => none
  | k + 1 => fun y0 y1 => (fe_argument_Subs n_) ((ke_argument_Subs n_) k) y0 y1
theorem lek_argument_Subs (n_ : Nat) : ∀ (k m : Nat), k ≤ m → ∀ u0 u1, Le (ke_argument_Subs n_ k u0 u1) (k_argument_Subs m u0 u1)
  | 0, _, _ => fun u0 u1 => Le.none _
  | k + 1, m, h => fun u0 u1 => by
    obtain ⟨m, rfl⟩ : ∃ q, m = q + 1 := ⟨m - 1, by omega⟩
    exact lef_argument_Subs n_ (lek_argument_Subs n_ k m (by omega)) _ _
def e_argument_Subs (n_ : Nat) (y0 : List T_Argument) (y1 : Int) : Option (List Int) :=
  ke_argument_Subs n_ n_ y0 y1
theorem le_argument_Subs (n_ : Nat) (y0 : List T_Argument) (y1 : Int) : Le (e_argument_Subs n_ y0 y1) (m_argument_Subs y0 y1) := Le.lim n_ fun m h => lek_argument_Subs n_ n_ m h _ _
def e_argument_Defeasible_L1 (n_ : Nat) (r1 : (List Int)) (y1 : List T_Argument) (y0 : T_Base) (s2 : (List Int) × Int) : Option (((List Int) × Int) ⊕ (List Int)) :=
  if decide (s2.2 < (len r1)) then
    (idx r1 s2.2).bind fun x1 =>
    (idx y1 x1).bind fun x2 =>
    (
      if decide (0 ≤ x2.2.1) then
        (idx y0.2.1 x2.2.1).bind fun x3 =>
        some (!x3.2.1)
      else
        some false : Option Bool).bind fun s3 =>
    if s3 then
      (app s2.1 ([x2.2.1] : List Int)).bind fun x4 =>
      some (.inl (x4, w64 (s2.2 + 1)))
    else
      some (.inl (s2.1, w64 (s2.2 + 1)))
  else
    some (.inr s2.1)
theorem le_argument_Defeasible_L1 (n_ : Nat) (r1 : (List Int)) (y1 : List T_Argument) (y0 : T_Base) (s2 : (List Int) × Int) : Le (e_argument_Defeasible_L1 n_ r1 y1 y0 s2) (m_argument_Defeasible_L1 r1 y1 y0 s2) := by
  unfold e_argument_Defeasible_L1 m_argument_Defeasible_L1
  repeat with_reducible (first | intro _ | exact Le.refl _ | apply Le.ite | apply Le.seqE | apply Le.bind | apply Le.lp | exact Le.none _)
def e_argument_Defeasible (n_ : Nat) (y0 : T_Base) (y1 : List T_Argument) (y2 : Int) : Option (List Int) :=
  (
    ((e_argument_Subs n_) y1 y2).bind fun r1 =>
    (lp n_) ((e_argument_Defeasible_L1 n_) r1 y1 y0) (([] : List Int), 0) : Option (List Int)).bind fun s1 =>
  ((e_slices_Sort_int n_) s1).bind fun r2 =>
  ((e_slices_Compact_int n_) r2).bind fun r3 =>
  some r3
theorem le_argument_Defeasible (n_ : Nat) (y0 : T_Base) (y1 : List T_Argument) (y2 : Int) : Le (e_argument_Defeasible n_ y0 y1 y2) (m_argument_Defeasible y0 y1 y2) := by
  unfold e_argument_Defeasible m_argument_Defeasible
  repeat with_reducible (first | intro _ | apply le_slices_Compact_int | apply le_slices_Sort_int | apply le_argument_Defeasible_L1 | apply le_argument_Subs | exact Le.refl _ | apply Le.ite | apply Le.seqE | apply Le.bind | apply Le.lp | exact Le.none _)
def e_argument_run_L1 (n_ : Nat) (x4 : T_Argument) (rec_argument_run : T_Base → (List T_Argument) → Int → Option (List T_Literal)) (y0 : T_Base) (y1 : List T_Argument) (s2 : (List T_Literal) × Int) : Option (((List T_Literal) × Int) ⊕ (List T_Literal)) :=
  if decide (s2.2 < (len x4.2.2.1)) then
    (idx x4.2.2.1 s2.2).bind fun x5 =>
    (rec_argument_run y0 y1 x5).bind fun r1 =>
    (app s2.1 r1).bind fun x6 =>
    some (.inl (x6, w64 (s2.2 + 1)))
  else
    some (.inr s2.1)
theorem le_argument_run_L1 (n_ : Nat) (x4 : T_Argument) {rec_argument_run rec_argument_run' : T_Base → (List T_Argument) → Int → Option (List T_Literal)} (h_rec_argument_run : ∀ u0 u1 u2, Le (rec_argument_run u0 u1 u2) (rec_argument_run' u0 u1 u2)) (y0 : T_Base) (y1 : List T_Argument) (s2 : (List T_Literal) × Int) : Le (e_argument_run_L1 n_ x4 rec_argument_run y0 y1 s2) (m_argument_run_L1 x4 rec_argument_run' y0 y1 s2) := by
  unfold e_argument_run_L1 m_argument_run_L1
  repeat with_reducible (first | intro _ | apply h_rec_argument_run | exact Le.refl _ | apply Le.ite | apply Le.seqE | apply Le.bind | apply Le.lp | exact Le.none _)
def fe_argument_run (n_ : Nat) (rec_argument_run : T_Base → (List T_Argument) → Int → Option (List T_Literal)) (y0 : T_Base) (y1 : List T_Argument) (y2 : Int) : Option (List T_Literal) :=
  (idx y1 y2).bind fun x1 =>
  (idx y1 y2).bind fun x2 =>
  (
    if decide (0 ≤ x2.2.1) then
      (idx y0.2.1 x2.2.1).bind fun x3 =>
      some x3.2.1
    else
      some false : Option Bool).bind fun s1 =>
  if s1 then
    (idx y1 y2).bind fun x4 =>
    (lp n_) ((e_argument_run_L1 n_) x4 rec_argument_run y0 y1) (([x1.2.2.2] : List T_Literal), 0)
  else
    some ([x1.2.2.2] : List T_Literal)
theorem lef_argument_run (n_ : Nat) {rec_argument_run rec_argument_run' : T_Base → (List T_Argument) → Int → Option (List T_Literal)} (h_rec_argument_run : ∀ u0 u1 u2, Le (rec_argument_run u0 u1 u2) (rec_argument_run' u0 u1 u2)) (y0 : T_Base) (y1 : List T_Argument) (y2 : Int) : Le (fe_argument_run n_ rec_argument_run y0 y1 y2) (F_argument_run rec_argument_run' y0 y1 y2) := by
  unfold fe_argument_run F_argument_run
  repeat with_reducible (first | intro _ | apply h_rec_argument_run | apply le_argument_run_L1 | exact Le.refl _ | apply Le.ite | apply Le.seqE | apply Le.bind | apply Le.lp | exact Le.none _)
def ke_argument_run (n_ : Nat) : Nat → T_Base → (List T_Argument) → Int → Option (List T_Literal)
  | 0 => fun _ _ _ => none
  | k + 1 => fun y0 y1 y2 => (fe_argument_run n_) ((ke_argument_run n_) k) y0 y1 y2
theorem lek_argument_run (n_ : Nat) : ∀ (k m : Nat), k ≤ m → ∀ u0 u1 u2, Le (ke_argument_run n_ k u0 u1 u2) (k_argument_run m u0 u1 u2)
  | 0, _, _ => fun u0 u1 u2 => Le.none _
  | k + 1, m, h => fun u0 u1 u2 => by
    obtain ⟨m, rfl⟩ : ∃ q, m = q + 1 := ⟨m - 1, by omega⟩
    exact lef_argument_run n_ (lek_argument_run n_ k m (by omega)) _ _ _
def e_argument_run (n_ : Nat) (y0 : T_Base) (y1 : List T_Argument) (y2 : Int) : Option (List T_Literal) :=
  ke_argument_run n_ n_ y0 y1 y2
theorem le_argument_run (n_ : Nat) (y0 : T_Base) (y1 : List T_Argument) (y2 : Int) : Le (e_argument_run n_ y0 y1 y2) (m_argument_run y0 y1 y2) := Le.lim n_ fun m h => lek_argument_run n_ n_ m h _ _ _
def e_slices_Index_Literal_L1 (n_ : Nat) (y0 : List T_Literal) (y1 : T_Literal) (s1 : Int) : Option (Int ⊕ Int) :=
  if decide (s1 < (len y0)) then
    (idx y0 s1).bind fun x1 =>
    if y1 == x1 then
      some (.inr s1)
    else
      some (.inl (w64 (s1 + 1)))
  else
    some (.inr (-1))
theorem le_slices_Index_Literal_L1 (n_ : Nat) (y0 : List T_Literal) (y1 : T_Literal) (s1 : Int) : Le (e_slices_Index_Literal_L1 n_ y0 y1 s1) (m_slices_Index_Literal_L1 y0 y1 s1) := by
  unfold e_slices_Index_Literal_L1 m_slices_Index_Literal_L1
  repeat with_reducible (first | intro _ | exact Le.refl _ | apply Le.ite | apply Le.seqE | apply Le.bind | apply Le.lp | exact Le.none _)
def e_slices_Index_Literal (n_ : Nat) (y0 : List T_Literal) (y1 : T_Literal) : Option Int :=
  (lp n_) ((e_slices_Index_Literal_L1 n_) y0 y1) 0
theorem le_slices_Index_Literal (n_ : Nat) (y0 : List T_Literal) (y1 : T_Literal) : Le (e_slices_Index_Literal n_ y0 y1) (m_slices_Index_Literal y0 y1) := by
  unfold e_slices_Index_Literal m_slices_Index_Literal
  repeat with_reducible (first | intro _ | apply le_slices_Index_Literal_L1 | exact Le.refl _ | apply Le.ite | apply Le.seqE | apply Le.bind | apply Le.lp | exact Le.none _)
def e_slices_Contains_Literal (n_ : Nat) (y0 : List T_Literal) (y1 : T_Literal) : Option Bool :=
  ((e_slices_Index_Literal n_) y0 y1).bind fun r1 =>
  some (decide (0 ≤ r1))
theorem le_slices_Contains_Literal (n_ : Nat) (y0 : List T_Literal) (y1 : T_Literal) : Le (e_slices_Contains_Literal n_ y0 y1) (m_slices_Contains_Literal y0 y1) := by
  unfold e_slices_Contains_Literal m_slices_Contains_Literal
  repeat with_reducible (first | intro _ | apply le_slices_Index_Literal | exact Le.refl _ | apply Le.ite | apply Le.seqE | apply Le.bind | apply Le.lp | exact Le.none _)
def e_literal_Has (n_ : Nat) (y0 : List T_Literal) (y1 : T_Literal) : Option Bool :=
  ((e_slices_Contains_Literal n_) y0 y1).bind fun r1 =>
  some r1
theorem le_literal_Has (n_ : Nat) (y0 : List T_Literal) (y1 : T_Literal) : Le (e_literal_Has n_ y0 y1) (m_literal_Has y0 y1) := by
  unfold e_literal_Has m_literal_Has
  repeat with_reducible (first | intro _ | apply le_slices_Contains_Literal | exact Le.refl _ | apply Le.ite | apply Le.seqE | apply Le.bind | apply Le.lp | exact Le.none _)
def e_slices_Index_int_L1 (n_ : Nat) (y0 : List Int) (y1 : Int) (s1 : Int) : Option (Int ⊕ Int) :=
  if decide (s1 < (len y0)) then
    (idx y0 s1).bind fun x1 =>
    if y1 == x1 then
      some (.inr s1)
    else
      some (.inl (w64 (s1 + 1)))
  else
    some (.inr (-1))
theorem le_slices_Index_int_L1 (n_ : Nat) (y0 : List Int) (y1 : Int) (s1 : Int) : Le (e_slices_Index_int_L1 n_ y0 y1 s1) (m_slices_Index_int_L1 y0 y1 s1) := by
  unfold e_slices_Index_int_L1 m_slices_Index_int_L1
  repeat with_reducible (first | intro _ | exact Le.refl _ | apply Le.ite | apply Le.seqE | apply Le.bind | apply Le.lp | exact Le.none _)
def e_slices_Index_int (n_ : Nat) (y0 : List Int) (y1 : Int) : Option Int :=
  (lp n_) ((e_slices_Index_int_L1 n_) y0 y1) 0
theorem le_slices_Index_int (n_ : Nat) (y0 : List Int) (y1 : Int) : Le (e_slices_Index_int n_ y0 y1) (m_slices_Index_int y0 y1) := by
  unfold e_slices_Index_int m_slices_Index_int
  repeat with_reducible (first | intro _ | apply le_slices_Index_int_L1 | exact Le.refl _ | apply Le.ite | apply Le.seqE | apply Le.bind | apply Le.lp | exact Le.none _)
def e_slices_Contains_int (n_ : Nat) (y0 : List Int) (y1 : Int) : Option Bool :=
  ((e_slices_Index_int n_) y0 y1).bind fun r1 =>
  some (decide (0 ≤ r1))
theorem le_slices_Contains_int (n_ : Nat) (y0 : List Int) (y1 : Int) : Le (e_slices_Contains_int n_ y0 y1) (m_slices_Contains_int y0 y1) := by
  unfold e_slices_Contains_int m_slices_Contains_int
  repeat with_reducible (first | intro _ | apply le_slices_Index_int | exact Le.refl _ | apply Le.ite | apply Le.seqE | apply Le.bind | apply Le.lp | exact Le.none _)
def e_argument_within_L1 (n_ : Nat) (y3 : List Int) (y0 : T_Base) (y2 : Int) (y1 : List T_Argument) (s1 : Int) : Option (Int ⊕ Bool) :=
  if decide (s1 < (len y3)) then
    (idx y3 s1).bind fun x1 =>
    (idx y0.2.1 y2).bind fun x2 =>
    if x2.2.1 then
      (idx y0.2.1 y2).bind fun x3 =>
      ((e_argument_run n_) y0 y1 x1).bind fun r1 =>
      ((e_literal_Has n_) r1 x3.2.2.2.2).bind fun r2 =>
      if r2 then
        some (.inr false)
      else
        some (.inl (w64 (s1 + 1)))
    else
      ((e_argument_Defeasible n_) y0 y1 x1).bind fun r3 =>
      ((e_slices_Contains_int n_) r3 y2).bind fun r4 =>
      if r4 then
        some (.inr false)
      else
        some (.inl (w64 (s1 + 1)))
  else
    some (.inr true)
theorem le_argument_within_L1 (n_ : Nat) (y3 : List Int) (y0 : T_Base) (y2 : Int) (y1 : List T_Argument) (s1 : Int) : Le (e_argument_within_L1 n_ y3 y0 y2 y1 s1) (m_argument_within_L1 y3 y0 y2 y1 s1) := by
  unfold e_argument_within_L1 m_argument_within_L1
  repeat with_reducible (first | intro _ | apply le_slices_Contains_int | apply le_argument_Defeasible | apply le_literal_Has | apply le_argument_run | exact Le.refl _ | apply Le.ite | apply Le.seqE | apply Le.bind | apply Le.lp | exact Le.none _)
def e_argument_within (n_ : Nat) (y0 : T_Base) (y1 : List T_Argument) (y2 : Int) (y3 : List Int) : Option Bool :=
  (lp n_) ((e_argument_within_L1 n_) y3 y0 y2 y1) 0
theorem le_argument_within (n_ : Nat) (y0 : T_Base) (y1 : List T_Argument) (y2 : Int) (y3 : List Int) : Le (e_argument_within n_ y0 y1 y2 y3) (m_argument_within y0 y1 y2 y3) := by
  unfold e_argument_within m_argument_within
  repeat with_reducible (first | intro _ | apply le_argument_within_L1 | exact Le.refl _ | apply Le.ite | apply Le.seqE | apply Le.bind | apply Le.lp | exact Le.none _)
def e_slices_Clone_int (n_ : Nat) (y0 : List Int) : Option (List Int) :=
  (app ([] : List Int) y0).bind fun x1 =>
  some x1
theorem le_slices_Clone_int (n_ : Nat) (y0 : List Int) : Le (e_slices_Clone_int n_ y0) (m_slices_Clone_int y0) := by
  unfold e_slices_Clone_int m_slices_Clone_int
  repeat with_reducible (first | intro _ | exact Le.refl _ | apply Le.ite | apply Le.seqE | apply Le.bind | apply Le.lp | exact Le.none _)
def e_argument_builder_apply_1 (n_ : Nat) (y0 : Int) (y2 : T_argument_builder) : Option Bool :=
  some (decide (y2.2.2.2 ≤ y0))
theorem le_argument_builder_apply_1 (n_ : Nat) (y0 : Int) (y2 : T_argument_builder) : Le (e_argument_builder_apply_1 n_ y0 y2) (m_argument_builder_apply_1 y0 y2) := by
  unfold e_argument_builder_apply_1 m_argument_builder_apply_1
  repeat with_reducible (first | intro _ | exact Le.refl _ | apply Le.ite | apply Le.seqE | apply Le.bind | apply Le.lp | exact Le.none _)
def e_slices_IndexFunc_int__argument_builder_apply_1_L1 (n_ : Nat) (y0 : List Int) (y2 : T_argument_builder) (s1 : Int) : Option (Int ⊕ Int) :=
  if decide (s1 < (len y0)) then
    (idx y0 s1).bind fun x1 =>
    ((e_argument_builder_apply_1 n_) x1 y2).bind fun r1 =>
    if r1 then
      some (.inr s1)
    else
      some (.inl (w64 (s1 + 1)))
  else
    some (.inr (-1))
theorem le_slices_IndexFunc_int__argument_builder_apply_1_L1 (n_ : Nat) (y0 : List Int) (y2 : T_argument_builder) (s1 : Int) : Le (e_slices_IndexFunc_int__argument_builder_apply_1_L1 n_ y0 y2 s1) (m_slices_IndexFunc_int__argument_builder_apply_1_L1 y0 y2 s1) := by
  unfold e_slices_IndexFunc_int__argument_builder_apply_1_L1 m_slices_IndexFunc_int__argument_builder_apply_1_L1
  repeat with_reducible (first | intro _ | apply le_argument_builder_apply_1 | exact Le.refl _ | apply Le.ite | apply Le.seqE | apply Le.bind | apply Le.lp | exact Le.none _)
def e_slices_IndexFunc_int__argument_builder_apply_1 (n_ : Nat) (y0 : List Int) (y2 : T_argument_builder) : Option Int :=
  (lp n_) ((e_slices_IndexFunc_int__argument_builder_apply_1_L1 n_) y0 y2) 0
theorem le_slices_IndexFunc_int__argument_builder_apply_1 (n_ : Nat) (y0 : List Int) (y2 : T_argument_builder) : Le (e_slices_IndexFunc_int__argument_builder_apply_1 n_ y0 y2) (m_slices_IndexFunc_int__argument_builder_apply_1 y0 y2) := by
  unfold e_slices_IndexFunc_int__argument_builder_apply_1 m_slices_IndexFunc_int__argument_builder_apply_1
  repeat with_reducible (first | intro _ | apply le_slices_IndexFunc_int__argument_builder_apply_1_L1 | exact Le.refl _ | apply Le.ite | apply Le.seqE | apply Le.bind | apply Le.lp | exact Le.none _)
def e_slices_ContainsFunc_int__argument_builder_apply_1 (n_ : Nat) (y0 : List Int) (y2 : T_argument_builder) : Option Bool :=
  ((e_slices_IndexFunc_int__argument_builder_apply_1 n_) y0 y2).bind fun r1 =>
  some (decide (0 ≤ r1))
theorem le_slices_ContainsFunc_int__argument_builder_apply_1 (n_ : Nat) (y0 : List Int) (y2 : T_argument_builder) : Le (e_slices_ContainsFunc_int__argument_builder_apply_1 n_ y0 y2) (m_slices_ContainsFunc_int__argument_builder_apply_1 y0 y2) := by
  unfold e_slices_ContainsFunc_int__argument_builder_apply_1 m_slices_ContainsFunc_int__argument_builder_apply_1
  repeat with_reducible (first | intro _ | apply le_slices_IndexFunc_int__argument_builder_apply_1 | exact Le.refl _ | apply Le.ite | apply Le.seqE | apply Le.bind | apply Le.lp | exact Le.none _)
def e_argument_builder_apply_2_L1 (n_ : Nat) (y0 : T_argument_builder) (x1 : T_Rule) (y2 : List Int) (rec_argument_builder_apply_2 : T_argument_builder → Int → (List Int) → Option (List T_Argument)) (y1 : Int) (s2 : Int × (List T_Argument)) : Option ((Int × (List T_Argument)) ⊕ (Unit ⊕ (List T_Argument))) :=
  if decide (s2.1 < (len y0.2.1)) then
    (idx y0.2.1 s2.1).bind fun x2 =>
    (idx x1.2.2.2.1 (len y2)).bind fun x3 =>
    if x2.2.2.2 == x3 then
      (
        ((e_slices_Clone_int n_) y2).bind fun r2 =>
        (app r2 ([s2.1] : List Int)).bind fun x4 =>
        (rec_argument_builder_apply_2 (y0.1, y0.2.1, s2.2, y0.2.2.2) y1 x4).bind fun r3 =>
        some r3 : Option (List T_Argument)).bind fun s3 =>
      some (.inl (w64 (s2.1 + 1), s3))
    else
      some (.inl (w64 (s2.1 + 1), s2.2))
  else
    some (.inr (.inr s2.2))
theorem le_argument_builder_apply_2_L1 (n_ : Nat) (y0 : T_argument_builder) (x1 : T_Rule) (y2 : List Int) {rec_argument_builder_apply_2 rec_argument_builder_apply_2' : T_argument_builder → Int → (List Int) → Option (List T_Argument)} (h_rec_argument_builder_apply_2 : ∀ u0 u1 u2, Le (rec_argument_builder_apply_2 u0 u1 u2) (rec_argument_builder_apply_2' u0 u1 u2)) (y1 : Int) (s2 : Int × (List T_Argument)) : Le (e_argument_builder_apply_2_L1 n_ y0 x1 y2 rec_argument_builder_apply_2 y1 s2) (m_argument_builder_apply_2_L1 y0 x1 y2 rec_argument_builder_apply_2' y1 s2) := by
  unfold e_argument_builder_apply_2_L1 m_argument_builder_apply_2_L1
  repeat with_reducible (first | intro _ | apply h_rec_argument_builder_apply_2 | apply le_slices_Clone_int | exact Le.refl _ | apply Le.ite | apply Le.seqE | apply Le.bind | apply Le.lp | exact Le.none _)
def fe_argument_builder_apply_2 (n_ : Nat) (rec_argument_builder_apply_2 : T_argument_builder → Int → (List Int) → Option (List T_Argument)) (y0 : T_argument_builder) (y1 : Int) (y2 : List Int) : Option (List T_Argument) :=
  (idx y0.1.2.1 y1).bind fun x1 =>
  ((e_argument_builder_full n_) y0).bind fun r1 =>
  if r1 then
    some y0.2.2.1
  else
    seqE (
      if decide ((len y2) < (len x1.2.2.2.1)) then
        (lp n_) ((e_argument_builder_apply_2_L1 n_) y0 x1 y2 rec_argument_builder_apply_2 y1) (0, y0.2.2.1)
      else
        some (.inl ()) : Option (Unit ⊕ (List T_Argument))) fun _ =>
    (
      ((e_slices_ContainsFunc_int__argument_builder_apply_1 n_) y2 y0).bind fun r6 =>
      if r6 then
        ((e_argument_within n_) y0.1 y0.2.1 y1 y2).bind fun r7 =>
        some r7
      else
        some false : Option Bool).bind fun s4 =>
    if s4 then
      (idx y0.1.2.1 y1).bind fun x6 =>
      (app y0.2.2.1 ([((-1), y1, y2, x6.2.2.2.2)] : List T_Argument)).bind fun x7 =>
      some x7
    else
      some y0.2.2.1
theorem lef_argument_builder_apply_2 (n_ : Nat) {rec_argument_builder_apply_2 rec_argument_builder_apply_2' : T_argument_builder → Int → (List Int) → Option (List T_Argument)} (h_rec_argument_builder_apply_2 : ∀ u0 u1 u2, Le (rec_argument_builder_apply_2 u0 u1 u2) (rec_argument_builder_apply_2' u0 u1 u2)) (y0 : T_argument_builder) (y1 : Int) (y2 : List Int) : Le (fe_argument_builder_apply_2 n_ rec_argument_builder_apply_2 y0 y1 y2) (F_argument_builder_apply_2 rec_argument_builder_apply_2' y0 y1 y2) := by
  unfold fe_argument_builder_apply_2 F_argument_builder_apply_2
  repeat with_reducible (first | intro _ | apply h_rec_argument_builder_apply_2 | apply le_argument_within | apply le_slices_ContainsFunc_int__argument_builder_apply_1 | apply le_argument_builder_apply_2_L1 | apply le_argument_builder_full | exact Le.refl _ | apply Le.ite | apply Le.seqE | apply Le.bind | apply Le.lp | exact Le.none _)
def ke_argument_builder_apply_2 (n_ : Nat) : Nat → T_argument_builder → Int → (List Int) → Option (List T_Argument)
  | 0 => fun _ _ _ => none
  | k + 1 => fun y0 y1 y2 => (fe_argument_builder_apply_2 n_) ((ke_argument_builder_apply_2 n_) k) y0 y1 y2
theorem lek_argument_builder_apply_2 (n_ : Nat) : ∀ (k m : Nat), k ≤ m → ∀ u0 u1 u2, Le (ke_argument_builder_apply_2 n_ k u0 u1 u2) (k_argument_builder_apply_2 m u0 u1 u2)
  | 0, _, _ => fun u0 u1 u2 => Le.none _
  | k + 1, m, h => fun u0 u1 u2 => by
    obtain ⟨m, rfl⟩ : ∃ q, m = q + 1 := ⟨m - 1, by omega⟩
    exact lef_argument_builder_apply_2 n_ (lek_argument_builder_apply_2 n_ k m (by omega)) _ _ _
def e_argument_builder_apply_2 (n_ : Nat) (y0 : T_argument_builder) (y1 : Int) (y2 : List Int) : Option (List T_Argument) :=
  ke_argument_builder_apply_2 n_ n_ y0 y1 y2
theorem le_argument_builder_apply_2 (n_ : Nat) (y0 : T_argument_builder) (y1 : Int) (y2 : List Int) : Le (e_argument_builder_apply_2 n_ y0 y1 y2) (m_argument_builder_apply_2 y0 y1 y2) := Le.lim n_ fun m h => lek_argument_builder_apply_2 n_ n_ m h _ _ _
def e_rulebase_Find_1 (n_ : Nat) (y0 : T_Rule) (y1 : Str) : Option Bool :=
  some (y0.1 == y1)
theorem le_rulebase_Find_1 (n_ : Nat) (y0 : T_Rule) (y1 : Str) : Le (e_rulebase_Find_1 n_ y0 y1) (m_rulebase_Find_1 y0 y1) := by
  unfold e_rulebase_Find_1 m_rulebase_Find_1
  repeat with_reducible (first | intro _ | exact Le.refl _ | apply Le.ite | apply Le.seqE | apply Le.bind | apply Le.lp | exact Le.none _)
def e_slices_IndexFunc_Rule__rulebase_Find_1_L1 (n_ : Nat) (y0 : List T_Rule) (y1 : Str) (s1 : Int) : Option (Int ⊕ Int) :=
  if decide (s1 < (len y0)) then
    (idx y0 s1).bind fun x1 =>
    ((e_rulebase_Find_1 n_) x1 y1).bind fun r1 =>
    if r1 then
      some (.inr s1)
    else
      some (.inl (w64 (s1 + 1)))
  else
    some (.inr (-1))
theorem le_slices_IndexFunc_Rule__rulebase_Find_1_L1 (n_ : Nat) (y0 : List T_Rule) (y1 : Str) (s1 : Int) : Le (e_slices_IndexFunc_Rule__rulebase_Find_1_L1 n_ y0 y1 s1) (m_slices_IndexFunc_Rule__rulebase_Find_1_L1 y0 y1 s1) := by
  unfold e_slices_IndexFunc_Rule__rulebase_Find_1_L1 m_slices_IndexFunc_Rule__rulebase_Find_1_L1
  repeat with_reducible (first | intro _ | apply le_rulebase_Find_1 | exact Le.refl _ | apply Le.ite | apply Le.seqE | apply Le.bind | apply Le.lp | exact Le.none _)
def e_slices_IndexFunc_Rule__rulebase_Find_1 (n_ : Nat) (y0 : List T_Rule) (y1 : Str) : Option Int :=
  (lp n_) ((e_slices_IndexFunc_Rule__rulebase_Find_1_L1 n_) y0 y1) 0
theorem le_slices_IndexFunc_Rule__rulebase_Find_1 (n_ : Nat) (y0 : List T_Rule) (y1 : Str) : Le (e_slices_IndexFunc_Rule__rulebase_Find_1 n_ y0 y1) (m_slices_IndexFunc_Rule__rulebase_Find_1 y0 y1) := by
  unfold e_slices_IndexFunc_Rule__rulebase_Find_1 m_slices_IndexFunc_Rule__rulebase_Find_1
  repeat with_reducible (first | intro _ | apply le_slices_IndexFunc_Rule__rulebase_Find_1_L1 | exact Le.refl _ | apply Le.ite | apply Le.seqE | apply Le.bind | apply Le.lp | exact Le.none _)
def e_rulebase_Find (n_ : Nat) (y0 : T_Base) (y1 : Str) : Option Int :=
  ((e_slices_IndexFunc_Rule__rulebase_Find_1 n_) y0.2.1 y1).bind fun r1 =>
  some r1
theorem le_rulebase_Find (n_ : Nat) (y0 : T_Base) (y1 : Str) : Le (e_rulebase_Find n_ y0 y1) (m_rulebase_Find y0 y1) := by
  unfold e_rulebase_Find m_rulebase_Find
  repeat with_reducible (first | intro _ | apply le_slices_IndexFunc_Rule__rulebase_Find_1 | exact Le.refl _ | apply Le.ite | apply Le.seqE | apply Le.bind | apply Le.lp | exact Le.none _)
def e_rulebase_Premise_1 (n_ : Nat) (y0 : T_Premise) (y1 : T_Literal) : Option Bool :=
  some (y0.1 == y1)
theorem le_rulebase_Premise_1 (n_ : Nat) (y0 : T_Premise) (y1 : T_Literal) : Le (e_rulebase_Premise_1 n_ y0 y1) (m_rulebase_Premise_1 y0 y1) := by
  unfold e_rulebase_Premise_1 m_rulebase_Premise_1
  repeat with_reducible (first | intro _ | exact Le.refl _ | apply Le.ite | apply Le.seqE | apply Le.bind | apply Le.lp | exact Le.none _)
def e_slices_IndexFunc_Premise__rulebase_Premise_1_L1 (n_ : Nat) (y0 : List T_Premise) (y1 : T_Literal) (s1 : Int) : Option (Int ⊕ Int) :=
  if decide (s1 < (len y0)) then
    (idx y0 s1).bind fun x1 =>
    ((e_rulebase_Premise_1 n_) x1 y1).bind fun r1 =>
    if r1 then
      some (.inr s1)
    else
      some (.inl (w64 (s1 + 1)))
  else
    some (.inr (-1))
theorem le_slices_IndexFunc_Premise__rulebase_Premise_1_L1 (n_ : Nat) (y0 : List T_Premise) (y1 : T_Literal) (s1 : Int) : Le (e_slices_IndexFunc_Premise__rulebase_Premise_1_L1 n_ y0 y1 s1) (m_slices_IndexFunc_Premise__rulebase_Premise_1_L1 y0 y1 s1) := by
  unfold e_slices_IndexFunc_Premise__rulebase_Premise_1_L1 m_slices_IndexFunc_Premise__rulebase_Premise_1_L1
  repeat with_reducible (first | intro _ | apply le_rulebase_Premise_1 | exact Le.refl _ | apply Le.ite | apply Le.seqE | apply Le.bind | apply Le.lp | exact Le.none _)
def e_slices_IndexFunc_Premise__rulebase_Premise_1 (n_ : Nat) (y0 : List T_Premise) (y1 : T_Literal) : Option Int :=
  (lp n_) ((e_slices_IndexFunc_Premise__rulebase_Premise_1_L1 n_) y0 y1) 0
theorem le_slices_IndexFunc_Premise__rulebase_Premise_1 (n_ : Nat) (y0 : List T_Premise) (y1 : T_Literal) : Le (e_slices_IndexFunc_Premise__rulebase_Premise_1 n_ y0 y1) (m_slices_IndexFunc_Premise__rulebase_Premise_1 y0 y1) := by
  unfold e_slices_IndexFunc_Premise__rulebase_Premise_1 m_slices_IndexFunc_Premise__rulebase_Premise_1
  repeat with_reducible (first | intro _ | apply le_slices_IndexFunc_Premise__rulebase_Premise_1_L1 | exact Le.refl _ | apply Le.ite | apply Le.seqE | apply Le.bind | apply Le.lp | exact Le.none _)
def e_rulebase_Premise (n_ : Nat) (y0 : T_Base) (y1 : T_Literal) : Option Int :=
  ((e_slices_IndexFunc_Premise__rulebase_Premise_1 n_) y0.1 y1).bind fun r1 =>
  some r1
theorem le_rulebase_Premise (n_ : Nat) (y0 : T_Base) (y1 : T_Literal) : Le (e_rulebase_Premise n_ y0 y1) (m_rulebase_Premise y0 y1) := by
  unfold e_rulebase_Premise m_rulebase_Premise
  repeat with_reducible (first | intro _ | apply le_slices_IndexFunc_Premise__rulebase_Premise_1 | exact Le.refl _ | apply Le.ite | apply Le.seqE | apply Le.bind | apply Le.lp | exact Le.none _)
def e_literal_ValidName_L1 (n_ : Nat) (y0 : Str) (s1 : Int) : Option (Int ⊕ Bool) :=
  if decide (s1 < (len y0)) then
    (sidx y0 s1).bind fun x1 =>
    if (decide (97 ≤ x1)) && (decide (x1 ≤ 122)) then
      some (.inl (w64 (s1 + 1)))
    else
      if (decide (0 < s1)) && (if decide (48 ≤ x1) then (decide (x1 ≤ 57)) || (x1 == 95) else x1 == 95) then
        some (.inl (w64 (s1 + 1)))
      else
        some (.inr false)
  else
    some (.inr true)
theorem le_literal_ValidName_L1 (n_ : Nat) (y0 : Str) (s1 : Int) : Le (e_literal_ValidName_L1 n_ y0 s1) (m_literal_ValidName_L1 y0 s1) := by
  unfold e_literal_ValidName_L1 m_literal_ValidName_L1
  repeat with_reducible (first | intro _ | exact Le.refl _ | apply Le.ite | apply Le.seqE | apply Le.bind | apply Le.lp | exact Le.none _)
def e_literal_ValidName (n_ : Nat) (y0 : Str) : Option Bool :=
  if ((len y0) == 0) || (decide (12 < (len y0))) then
    some false
  else
    (lp n_) ((e_literal_ValidName_L1 n_) y0) 0
theorem le_literal_ValidName (n_ : Nat) (y0 : Str) : Le (e_literal_ValidName n_ y0) (m_literal_ValidName y0) := by
  unfold e_literal_ValidName m_literal_ValidName
  repeat with_reducible (first | intro _ | apply le_literal_ValidName_L1 | exact Le.refl _ | apply Le.ite | apply Le.seqE | apply Le.bind | apply Le.lp | exact Le.none _)
def e_literal_Valid (n_ : Nat) (y0 : T_Literal) : Option Bool :=
  ((e_literal_ValidName n_) y0.2).bind fun r1 =>
  some r1
theorem le_literal_Valid (n_ : Nat) (y0 : T_Literal) : Le (e_literal_Valid n_ y0) (m_literal_Valid y0) := by
  unfold e_literal_Valid m_literal_Valid
  repeat with_reducible (first | intro _ | apply le_literal_ValidName | exact Le.refl _ | apply Le.ite | apply Le.seqE | apply Le.bind | apply Le.lp | exact Le.none _)
def e_rulebase_ranked (n_ : Nat) (y0 : Int) : Option Bool :=
  some ((decide (0 ≤ y0)) && (decide (y0 ≤ 9)))
theorem le_rulebase_ranked (n_ : Nat) (y0 : Int) : Le (e_rulebase_ranked n_ y0) (m_rulebase_ranked y0) := by
  unfold e_rulebase_ranked m_rulebase_ranked
  repeat with_reducible (first | intro _ | exact Le.refl _ | apply Le.ite | apply Le.seqE | apply Le.bind | apply Le.lp | exact Le.none _)
def e_rulebase_sourced (n_ : Nat) (y0 : Str) : Option Bool :=
  (
    if y0 == [] then
      some true
    else
      ((e_literal_ValidName n_) y0).bind fun r1 =>
      some r1 : Option Bool).bind fun s1 =>
  some s1
theorem le_rulebase_sourced (n_ : Nat) (y0 : Str) : Le (e_rulebase_sourced n_ y0) (m_rulebase_sourced y0) := by
  unfold e_rulebase_sourced m_rulebase_sourced
  repeat with_reducible (first | intro _ | apply le_literal_ValidName | exact Le.refl _ | apply Le.ite | apply Le.seqE | apply Le.bind | apply Le.lp | exact Le.none _)
def e_rulebase_premise (n_ : Nat) (y0 : T_Premise) : Option Int :=
  seqE (
    (
      if y0.2.1 == 1 then
        some (y0.2.1 == 1)
      else
        some (y0.2.1 == 3) : Option Bool).bind fun s2 =>
    if s2 then
      if y0.2.2.1 != 0 then
        some (.inr 1)
      else
        some (.inl ())
    else
      if y0.2.1 == 2 then
        ((e_rulebase_ranked n_) y0.2.2.1).bind fun r1 =>
        if !r1 then
          some (.inr 1)
        else
          some (.inl ())
      else
        some (.inr 4) : Option (Unit ⊕ Int)) fun _ =>
  (
    ((e_literal_Valid n_) y0.1).bind fun r2 =>
    if !r2 then
      some true
    else
      ((e_rulebase_sourced n_) y0.2.2.2).bind fun r3 =>
      some (!r3) : Option Bool).bind fun s3 =>
  if s3 then
    some 1
  else
    some 0
theorem le_rulebase_premise (n_ : Nat) (y0 : T_Premise) : Le (e_rulebase_premise n_ y0) (m_rulebase_premise y0) := by
  unfold e_rulebase_premise m_rulebase_premise
  repeat with_reducible (first | intro _ | apply le_rulebase_sourced | apply le_literal_Valid | apply le_rulebase_ranked | exact Le.refl _ | apply Le.ite | apply Le.seqE | apply Le.bind | apply Le.lp | exact Le.none _)
def e_rulebase_promotion (n_ : Nat) (y0 : T_Base) (y1 : T_Promotion) : Option Int :=
  (
    ((e_rulebase_ranked n_) y1.2.1).bind fun r1 =>
    if !r1 then
      some true
    else
      ((e_literal_Valid n_) y1.2.2).bind fun r2 =>
      some (!r2) : Option Bool).bind fun s1 =>
  if s1 then
    some 1
  else
    ((e_rulebase_Find n_) y0 y1.1).bind fun r3 =>
    if decide (r3 < 0) then
      some 6
    else
      (idx y0.2.1 r3).bind fun x1 =>
      if x1.2.1 then
        some 4
      else
        some 0
theorem le_rulebase_promotion (n_ : Nat) (y0 : T_Base) (y1 : T_Promotion) : Le (e_rulebase_promotion n_ y0 y1) (m_rulebase_promotion y0 y1) := by
  unfold e_rulebase_promotion m_rulebase_promotion
  repeat with_reducible (first | intro _ | apply le_rulebase_Find | apply le_literal_Valid | apply le_rulebase_ranked | exact Le.refl _ | apply Le.ite | apply Le.seqE | apply Le.bind | apply Le.lp | exact Le.none _)
def e_cmp_isNaN_string (n_ : Nat) (y0 : Str) : Option Bool :=
  some (!(y0 == y0))
theorem le_cmp_isNaN_string (n_ : Nat) (y0 : Str) : Le (e_cmp_isNaN_string n_ y0) (m_cmp_isNaN_string y0) := by
  unfold e_cmp_isNaN_string m_cmp_isNaN_string
  repeat with_reducible (first | intro _ | exact Le.refl _ | apply Le.ite | apply Le.seqE | apply Le.bind | apply Le.lp | exact Le.none _)
def e_cmp_Compare_string (n_ : Nat) (y0 : Str) (y1 : Str) : Option Int :=
  ((e_cmp_isNaN_string n_) y0).bind fun r1 =>
  ((e_cmp_isNaN_string n_) y1).bind fun r2 =>
  if r1 then
    if r2 then
      some 0
    else
      some (-1)
  else
    if r2 then
      some 1
    else
      if sless y0 y1 then
        some (-1)
      else
        if !(sless y0 y1 || y0 == y1) then
          some 1
        else
          some 0
theorem le_cmp_Compare_string (n_ : Nat) (y0 : Str) (y1 : Str) : Le (e_cmp_Compare_string n_ y0 y1) (m_cmp_Compare_string y0 y1) := by
  unfold e_cmp_Compare_string m_cmp_Compare_string
  repeat with_reducible (first | intro _ | apply le_cmp_isNaN_string | exact Le.refl _ | apply Le.ite | apply Le.seqE | apply Le.bind | apply Le.lp | exact Le.none _)
def e_literal_Compare (n_ : Nat) (y0 : T_Literal) (y1 : T_Literal) : Option Int :=
  ((e_cmp_Compare_string n_) y0.2 y1.2).bind fun r1 =>
  if (r1 != 0) || (y0.1 == y1.1) then
    some r1
  else
    if y1.1 then
      some (-1)
    else
      some 1
theorem le_literal_Compare (n_ : Nat) (y0 : T_Literal) (y1 : T_Literal) : Le (e_literal_Compare n_ y0 y1) (m_literal_Compare y0 y1) := by
  unfold e_literal_Compare m_literal_Compare
  repeat with_reducible (first | intro _ | apply le_cmp_Compare_string | exact Le.refl _ | apply Le.ite | apply Le.seqE | apply Le.bind | apply Le.lp | exact Le.none _)
def e_rulebase_rule_L1 (n_ : Nat) (y0 : T_Rule) (s3 : Int) : Option (Int ⊕ (Unit ⊕ Int)) :=
  if decide (s3 < (len y0.2.2.2.1)) then
    (idx y0.2.2.2.1 s3).bind fun x1 =>
    ((e_literal_Valid n_) x1).bind fun r4 =>
    if !r4 then
      some (.inr (.inr 1))
    else
      some (.inl (w64 (s3 + 1)))
  else
    some (.inr (.inl ()))
theorem le_rulebase_rule_L1 (n_ : Nat) (y0 : T_Rule) (s3 : Int) : Le (e_rulebase_rule_L1 n_ y0 s3) (m_rulebase_rule_L1 y0 s3) := by
  unfold e_rulebase_rule_L1 m_rulebase_rule_L1
  repeat with_reducible (first | intro _ | apply le_literal_Valid | exact Le.refl _ | apply Le.ite | apply Le.seqE | apply Le.bind | apply Le.lp | exact Le.none _)
def e_rulebase_rule_L2 (n_ : Nat) (y0 : T_Rule) (s4 : Int) : Option (Int ⊕ Int) :=
  if decide (s4 < (len y0.2.2.2.1)) then
    (idx y0.2.2.2.1 (w64 (s4 - 1))).bind fun x2 =>
    (idx y0.2.2.2.1 s4).bind fun x3 =>
    ((e_literal_Compare n_) x2 x3).bind fun r5 =>
    if decide (0 ≤ r5) then
      some (.inr 8)
    else
      some (.inl (w64 (s4 + 1)))
  else
    some (.inr 0)
theorem le_rulebase_rule_L2 (n_ : Nat) (y0 : T_Rule) (s4 : Int) : Le (e_rulebase_rule_L2 n_ y0 s4) (m_rulebase_rule_L2 y0 s4) := by
  unfold e_rulebase_rule_L2 m_rulebase_rule_L2
  repeat with_reducible (first | intro _ | apply le_literal_Compare | exact Le.refl _ | apply Le.ite | apply Le.seqE | apply Le.bind | apply Le.lp | exact Le.none _)
def e_rulebase_rule (n_ : Nat) (y0 : T_Rule) : Option Int :=
  if decide (4 < (len y0.2.2.2.1)) then
    some 2
  else
    (
      ((e_literal_ValidName n_) y0.1).bind fun r1 =>
      if !r1 then
        some true
      else
        ((e_literal_Valid n_) y0.2.2.2.2).bind fun r2 =>
        if !r2 then
          some true
        else
          ((e_rulebase_ranked n_) y0.2.2.1).bind fun r3 =>
          if !r3 then
            some true
          else
            if y0.2.1 then
              some (y0.2.2.1 != 0)
            else
              some false : Option Bool).bind fun s1 =>
    if s1 then
      some 1
    else
      seqE ((lp n_) ((e_rulebase_rule_L1 n_) y0) 0 : Option (Unit ⊕ Int)) fun _ =>
      (lp n_) ((e_rulebase_rule_L2 n_) y0) 1
theorem le_rulebase_rule (n_ : Nat) (y0 : T_Rule) : Le (e_rulebase_rule n_ y0) (m_rulebase_rule y0) := by
  unfold e_rulebase_rule m_rulebase_rule
  repeat with_reducible (first | intro _ | apply le_rulebase_rule_L2 | apply le_rulebase_rule_L1 | apply le_rulebase_ranked | apply le_literal_Valid | apply le_literal_ValidName | exact Le.refl _ | apply Le.ite | apply Le.seqE | apply Le.bind | apply Le.lp | exact Le.none _)
def e_rulebase_Validate_L1 (n_ : Nat) (y0 : T_Base) (s2 : Int) : Option (Int ⊕ (Unit ⊕ Int)) :=
  if decide (s2 < (len y0.1)) then
    (idx y0.1 s2).bind fun x1 =>
    ((e_rulebase_premise n_) x1).bind fun r1 =>
    if r1 != 0 then
      some (.inr (.inr r1))
    else
      ((e_rulebase_Premise n_) y0 x1.1).bind fun r2 =>
      if decide (r2 < s2) then
        some (.inr (.inr 5))
      else
        some (.inl (w64 (s2 + 1)))
  else
    some (.inr (.inl ()))
theorem le_rulebase_Validate_L1 (n_ : Nat) (y0 : T_Base) (s2 : Int) : Le (e_rulebase_Validate_L1 n_ y0 s2) (m_rulebase_Validate_L1 y0 s2) := by
  unfold e_rulebase_Validate_L1 m_rulebase_Validate_L1
  repeat with_reducible (first | intro _ | apply le_rulebase_Premise | apply le_rulebase_premise | exact Le.refl _ | apply Le.ite | apply Le.seqE | apply Le.bind | apply Le.lp | exact Le.none _)
def e_rulebase_Validate_L2 (n_ : Nat) (y0 : T_Base) (s4 : Int) : Option (Int ⊕ (Unit ⊕ Int)) :=
  if decide (s4 < (len y0.2.1)) then
    (idx y0.2.1 s4).bind fun x2 =>
    ((e_rulebase_rule n_) x2).bind fun r3 =>
    if r3 != 0 then
      some (.inr (.inr r3))
    else
      ((e_rulebase_Find n_) y0 x2.1).bind fun r4 =>
      if decide (r4 < s4) then
        some (.inr (.inr 5))
      else
        some (.inl (w64 (s4 + 1)))
  else
    some (.inr (.inl ()))
theorem le_rulebase_Validate_L2 (n_ : Nat) (y0 : T_Base) (s4 : Int) : Le (e_rulebase_Validate_L2 n_ y0 s4) (m_rulebase_Validate_L2 y0 s4) := by
  unfold e_rulebase_Validate_L2 m_rulebase_Validate_L2
  repeat with_reducible (first | intro _ | apply le_rulebase_Find | apply le_rulebase_rule | exact Le.refl _ | apply Le.ite | apply Le.seqE | apply Le.bind | apply Le.lp | exact Le.none _)
def e_rulebase_Validate_L3 (n_ : Nat) (y0 : T_Base) (s5 : Int) : Option (Int ⊕ Int) :=
  if decide (s5 < (len y0.2.2)) then
    (idx y0.2.2 s5).bind fun x3 =>
    ((e_rulebase_promotion n_) y0 x3).bind fun r5 =>
    if r5 != 0 then
      some (.inr r5)
    else
      some (.inl (w64 (s5 + 1)))
  else
    some (.inr 0)
theorem le_rulebase_Validate_L3 (n_ : Nat) (y0 : T_Base) (s5 : Int) : Le (e_rulebase_Validate_L3 n_ y0 s5) (m_rulebase_Validate_L3 y0 s5) := by
  unfold e_rulebase_Validate_L3 m_rulebase_Validate_L3
  repeat with_reducible (first | intro _ | apply le_rulebase_promotion | exact Le.refl _ | apply Le.ite | apply Le.seqE | apply Le.bind | apply Le.lp | exact Le.none _)
def e_rulebase_Validate (n_ : Nat) (y0 : T_Base) : Option Int :=
  if (decide (16 < (len y0.1))) || ((decide (24 < (len y0.2.1))) || (decide (8 < (len y0.2.2)))) then
    some 2
  else
    seqE ((lp n_) ((e_rulebase_Validate_L1 n_) y0) 0 : Option (Unit ⊕ Int)) fun _ =>
    seqE ((lp n_) ((e_rulebase_Validate_L2 n_) y0) 0 : Option (Unit ⊕ Int)) fun _ =>
    (lp n_) ((e_rulebase_Validate_L3 n_) y0) 0
theorem le_rulebase_Validate (n_ : Nat) (y0 : T_Base) : Le (e_rulebase_Validate n_ y0) (m_rulebase_Validate y0) := by
  unfold e_rulebase_Validate m_rulebase_Validate
  repeat with_reducible (first | intro _ | apply le_rulebase_Validate_L3 | apply le_rulebase_Validate_L2 | apply le_rulebase_Validate_L1 | exact Le.refl _ | apply Le.ite | apply Le.seqE | apply Le.bind | apply Le.lp | exact Le.none _)
def e_argument_Build_L1 (n_ : Nat) (y0 : T_Base) (s2 : Int × (List T_Argument)) : Option ((Int × (List T_Argument)) ⊕ (List T_Argument)) :=
  if decide (s2.1 < (len y0.1)) then
    (idx y0.1 s2.1).bind fun x1 =>
    (app s2.2 ([(s2.1, (-1), ([] : List Int), x1.1)] : List T_Argument)).bind fun x2 =>
    some (.inl (w64 (s2.1 + 1), x2))
  else
    some (.inr s2.2)
theorem le_argument_Build_L1 (n_ : Nat) (y0 : T_Base) (s2 : Int × (List T_Argument)) : Le (e_argument_Build_L1 n_ y0 s2) (m_argument_Build_L1 y0 s2) := by
  unfold e_argument_Build_L1 m_argument_Build_L1
  repeat with_reducible (first | intro _ | exact Le.refl _ | apply Le.ite | apply Le.seqE | apply Le.bind | apply Le.lp | exact Le.none _)
def e_argument_Build_L3 (n_ : Nat) (y0 : T_Base) (s4 : Int × (List T_Argument) × (List T_Argument) × Int) (s6 : Int × (List T_Argument)) : Option ((Int × (List T_Argument)) ⊕ ((List T_Argument) ⊕ ((Int × (List T_Argument) × (List T_Argument) × Int) ⊕ ((List T_Argument) × (List T_Argument) × Int)))) :=
  if decide (s6.1 < (len y0.2.1)) then
    (idx y0.2.1 s6.1).bind fun x3 =>
    (
      if decide (0 < (len x3.2.2.2.1)) then
        ((e_argument_builder_apply_2 n_) (y0, s4.2.1, s6.2, s4.2.2.2) s6.1 ([] : List Int)).bind fun r2 =>
        some r2
      else
        if s4.1 == 1 then
          (app s6.2 ([((-1), s6.1, ([] : List Int), x3.2.2.2.2)] : List T_Argument)).bind fun x4 =>
          some x4
        else
          some s6.2 : Option (List T_Argument)).bind fun s7 =>
    ((e_argument_builder_full n_) (y0, s4.2.1, s7, s4.2.2.2)).bind fun r3 =>
    if r3 then
      some (.inr (.inr (.inr (s4.2.1, s7, s4.2.2.2))))
    else
      some (.inl (w64 (s6.1 + 1), s7))
  else
    some (.inr (.inl s6.2))
theorem le_argument_Build_L3 (n_ : Nat) (y0 : T_Base) (s4 : Int × (List T_Argument) × (List T_Argument) × Int) (s6 : Int × (List T_Argument)) : Le (e_argument_Build_L3 n_ y0 s4 s6) (m_argument_Build_L3 y0 s4 s6) := by
  unfold e_argument_Build_L3 m_argument_Build_L3
  repeat with_reducible (first | intro _ | apply le_argument_builder_full | apply le_argument_builder_apply_2 | exact Le.refl _ | apply Le.ite | apply Le.seqE | apply Le.bind | apply Le.lp | exact Le.none _)
def e_argument_Build_L2 (n_ : Nat) (y0 : T_Base) (s4 : Int × (List T_Argument) × (List T_Argument) × Int) : Option ((Int × (List T_Argument) × (List T_Argument) × Int) ⊕ ((List T_Argument) × (List T_Argument) × Int)) :=
  seqE ((lp n_) ((e_argument_Build_L3 n_) y0 s4) (0, ([] : List T_Argument)) : Option ((List T_Argument) ⊕ ((Int × (List T_Argument) × (List T_Argument) × Int) ⊕ ((List T_Argument) × (List T_Argument) × Int)))) fun s5 =>
  if (len s5) == 0 then
    some (.inr (s4.2.1, s5, s4.2.2.2))
  else
    (app s4.2.1 s5).bind fun x5 =>
    some (.inl (w64 (s4.1 + 1), x5, s5, len s4.2.1))
theorem le_argument_Build_L2 (n_ : Nat) (y0 : T_Base) (s4 : Int × (List T_Argument) × (List T_Argument) × Int) : Le (e_argument_Build_L2 n_ y0 s4) (m_argument_Build_L2 y0 s4) := by
  unfold e_argument_Build_L2 m_argument_Build_L2
  repeat with_reducible (first | intro _ | apply le_argument_Build_L3 | exact Le.refl _ | apply Le.ite | apply Le.seqE | apply Le.bind | apply Le.lp | exact Le.none _)
def e_argument_Build (n_ : Nat) (y0 : T_Base) : Option ((List T_Argument) × Int) :=
  ((e_rulebase_Validate n_) y0).bind fun r1 =>
  if r1 != 0 then
    some (([] : List T_Argument), r1)
  else
    ((lp n_) ((e_argument_Build_L1 n_) y0) (0, ([] : List T_Argument)) : Option (List T_Argument)).bind fun s1 =>
    ((lp n_) ((e_argument_Build_L2 n_) y0) (1, s1, ([] : List T_Argument), 0) : Option ((List T_Argument) × (List T_Argument) × Int)).bind fun s3 =>
    ((e_argument_builder_full n_) (y0, s3.1, s3.2.1, s3.2.2)).bind fun r4 =>
    if r4 then
      some (([] : List T_Argument), 2)
    else
      some (s3.1, 0)
theorem le_argument_Build (n_ : Nat) (y0 : T_Base) : Le (e_argument_Build n_ y0) (m_argument_Build y0) := by
  unfold e_argument_Build m_argument_Build
  repeat with_reducible (first | intro _ | apply le_argument_builder_full | apply le_argument_Build_L2 | apply le_argument_Build_L1 | apply le_rulebase_Validate | exact Le.refl _ | apply Le.ite | apply Le.seqE | apply Le.bind | apply Le.lp | exact Le.none _)
def e_slices_Clone_Literal (n_ : Nat) (y0 : List T_Literal) : Option (List T_Literal) :=
  (app ([] : List T_Literal) y0).bind fun x1 =>
  some x1
theorem le_slices_Clone_Literal (n_ : Nat) (y0 : List T_Literal) : Le (e_slices_Clone_Literal n_ y0) (m_slices_Clone_Literal y0) := by
  unfold e_slices_Clone_Literal m_slices_Clone_Literal
  repeat with_reducible (first | intro _ | exact Le.refl _ | apply Le.ite | apply Le.seqE | apply Le.bind | apply Le.lp | exact Le.none _)
def e_slices_Compact_Literal_L2 (n_ : Nat) (y0 : List T_Literal) (s1 : Int) (s3 : (List T_Literal) × Int × Int) : Option (((List T_Literal) × Int × Int) ⊕ ((List T_Literal) × Int)) :=
  if decide (s3.2.2 < ((Int.toNat (((List.length y0 : Nat) : Int) - s1) : Nat) : Int)) then
    (idxV s3.1 s1 s3.2.2).bind fun x3 =>
    (idxV s3.1 s1 (w64 (s3.2.2 - 1))).bind fun x4 =>
    if !(x3 == x4) then
      (idxV s3.1 s1 s3.2.2).bind fun x5 =>
      (idx s3.1 s3.2.1).bind fun _ =>
      some (.inl (List.set s3.1 (Int.toNat s3.2.1) x5, w64 (s3.2.1 + 1), w64 (s3.2.2 + 1)))
    else
      some (.inl (s3.1, s3.2.1, w64 (s3.2.2 + 1)))
  else
    some (.inr (s3.1, s3.2.1))
theorem le_slices_Compact_Literal_L2 (n_ : Nat) (y0 : List T_Literal) (s1 : Int) (s3 : (List T_Literal) × Int × Int) : Le (e_slices_Compact_Literal_L2 n_ y0 s1 s3) (m_slices_Compact_Literal_L2 y0 s1 s3) := by
  unfold e_slices_Compact_Literal_L2 m_slices_Compact_Literal_L2
  repeat with_reducible (first | intro _ | exact Le.refl _ | apply Le.ite | apply Le.seqE | apply Le.bind | apply Le.lp | exact Le.none _)
def e_slices_Compact_Literal_L1 (n_ : Nat) (y0 : List T_Literal) (s1 : Int) : Option (Int ⊕ (List T_Literal)) :=
  if decide (s1 < (len y0)) then
    (idx y0 s1).bind fun x1 =>
    (idx y0 (w64 (s1 - 1))).bind fun x2 =>
    if x1 == x2 then
      (chk (decide (0 ≤ s1) && decide (s1 ≤ len y0))).bind fun _ =>
      ((lp n_) ((e_slices_Compact_Literal_L2 n_) y0 s1) (y0, s1, 1) : Option ((List T_Literal) × Int)).bind fun s2 =>
      (chk (decide (0 ≤ s2.2) && decide (s2.2 ≤ len s2.1))).bind fun _ =>
      (sub (clearFrom s2.1 s2.2 (false, [])) 0 s2.2).bind fun x7 =>
      some (.inr x7)
    else
      some (.inl (w64 (s1 + 1)))
  else
    some (.inr y0)
theorem le_slices_Compact_Literal_L1 (n_ : Nat) (y0 : List T_Literal) (s1 : Int) : Le (e_slices_Compact_Literal_L1 n_ y0 s1) (m_slices_Compact_Literal_L1 y0 s1) := by
  unfold e_slices_Compact_Literal_L1 m_slices_Compact_Literal_L1
  repeat with_reducible (first | intro _ | apply le_slices_Compact_Literal_L2 | exact Le.refl _ | apply Le.ite | apply Le.seqE | apply Le.bind | apply Le.lp | exact Le.none _)
def e_slices_Compact_Literal (n_ : Nat) (y0 : List T_Literal) : Option (List T_Literal) :=
  if decide ((len y0) < 2) then
    some y0
  else
    (lp n_) ((e_slices_Compact_Literal_L1 n_) y0) 1
theorem le_slices_Compact_Literal (n_ : Nat) (y0 : List T_Literal) : Le (e_slices_Compact_Literal n_ y0) (m_slices_Compact_Literal y0) := by
  unfold e_slices_Compact_Literal m_slices_Compact_Literal
  repeat with_reducible (first | intro _ | apply le_slices_Compact_Literal_L1 | exact Le.refl _ | apply Le.ite | apply Le.seqE | apply Le.bind | apply Le.lp | exact Le.none _)
def e_literal_Normal (n_ : Nat) (y0 : List T_Literal) : Option (List T_Literal) :=
  ((e_slices_Clone_Literal n_) y0).bind fun r1 =>
  ((e_slices_SortFunc_Literal__literal_Compare n_) r1).bind fun r2 =>
  ((e_slices_Compact_Literal n_) r2).bind fun r3 =>
  some r3
theorem le_literal_Normal (n_ : Nat) (y0 : List T_Literal) : Le (e_literal_Normal n_ y0) (m_literal_Normal y0) := by
  unfold e_literal_Normal m_literal_Normal
  repeat with_reducible (first | intro _ | apply le_slices_Compact_Literal | apply le_slices_SortFunc_Literal__literal_Compare | apply le_slices_Clone_Literal | exact Le.refl _ | apply Le.ite | apply Le.seqE | apply Le.bind | apply Le.lp | exact Le.none _)
def e_argument_Conclusions_L1 (n_ : Nat) (y1 : List Int) (y0 : List T_Argument) (s2 : (List T_Literal) × Int) : Option (((List T_Literal) × Int) ⊕ (List T_Literal)) :=
  if decide (s2.2 < (len y1)) then
    (idx y1 s2.2).bind fun x1 =>
    ((e_argument_inside n_) y0 x1).bind fun r1 =>
    if r1 then
      (idx y0 x1).bind fun x2 =>
      (app s2.1 ([x2.2.2.2] : List T_Literal)).bind fun x3 =>
      some (.inl (x3, w64 (s2.2 + 1)))
    else
      some (.inl (s2.1, w64 (s2.2 + 1)))
  else
    some (.inr s2.1)
theorem le_argument_Conclusions_L1 (n_ : Nat) (y1 : List Int) (y0 : List T_Argument) (s2 : (List T_Literal) × Int) : Le (e_argument_Conclusions_L1 n_ y1 y0 s2) (m_argument_Conclusions_L1 y1 y0 s2) := by
  unfold e_argument_Conclusions_L1 m_argument_Conclusions_L1
  repeat with_reducible (first | intro _ | apply le_argument_inside | exact Le.refl _ | apply Le.ite | apply Le.seqE | apply Le.bind | apply Le.lp | exact Le.none _)
def e_argument_Conclusions (n_ : Nat) (y0 : List T_Argument) (y1 : List Int) : Option (List T_Literal) :=
  ((lp n_) ((e_argument_Conclusions_L1 n_) y1 y0) (([] : List T_Literal), 0) : Option (List T_Literal)).bind fun s1 =>
  ((e_literal_Normal n_) s1).bind fun r2 =>
  some r2
theorem le_argument_Conclusions (n_ : Nat) (y0 : List T_Argument) (y1 : List Int) : Le (e_argument_Conclusions n_ y0 y1) (m_argument_Conclusions y0 y1) := by
  unfold e_argument_Conclusions m_argument_Conclusions
  repeat with_reducible (first | intro _ | apply le_literal_Normal | apply le_argument_Conclusions_L1 | exact Le.refl _ | apply Le.ite | apply Le.seqE | apply Le.bind | apply Le.lp | exact Le.none _)
def e_argument_Last_L1 (n_ : Nat) (x5 : T_Argument) (rec_argument_Last : T_Base → (List T_Argument) → Int → Option (List Int)) (y0 : T_Base) (y1 : List T_Argument) (s3 : (List Int) × Int) : Option (((List Int) × Int) ⊕ (List Int)) :=
  if decide (s3.2 < (len x5.2.2.1)) then
    (idx x5.2.2.1 s3.2).bind fun x6 =>
    (rec_argument_Last y0 y1 x6).bind fun r2 =>
    (app s3.1 r2).bind fun x7 =>
    some (.inl (x7, w64 (s3.2 + 1)))
  else
    some (.inr s3.1)
theorem le_argument_Last_L1 (n_ : Nat) (x5 : T_Argument) {rec_argument_Last rec_argument_Last' : T_Base → (List T_Argument) → Int → Option (List Int)} (h_rec_argument_Last : ∀ u0 u1 u2, Le (rec_argument_Last u0 u1 u2) (rec_argument_Last' u0 u1 u2)) (y0 : T_Base) (y1 : List T_Argument) (s3 : (List Int) × Int) : Le (e_argument_Last_L1 n_ x5 rec_argument_Last y0 y1 s3) (m_argument_Last_L1 x5 rec_argument_Last' y0 y1 s3) := by
  unfold e_argument_Last_L1 m_argument_Last_L1
  repeat with_reducible (first | intro _ | apply h_rec_argument_Last | exact Le.refl _ | apply Le.ite | apply Le.seqE | apply Le.bind | apply Le.lp | exact Le.none _)
def fe_argument_Last (n_ : Nat) (rec_argument_Last : T_Base → (List T_Argument) → Int → Option (List Int)) (y0 : T_Base) (y1 : List T_Argument) (y2 : Int) : Option (List Int) :=
  (
    ((e_argument_inside n_) y1 y2).bind fun r1 =>
    if !r1 then
      some true
    else
      (idx y1 y2).bind fun x1 =>
      some (decide (x1.2.1 < 0)) : Option Bool).bind fun s1 =>
  if s1 then
    some ([] : List Int)
  else
    (idx y1 y2).bind fun x2 =>
    (idx y0.2.1 x2.2.1).bind fun x3 =>
    if !x3.2.1 then
      (idx y1 y2).bind fun x4 =>
      some ([x4.2.1] : List Int)
    else
      (
        (idx y1 y2).bind fun x5 =>
        (lp n_) ((e_argument_Last_L1 n_) x5 rec_argument_Last y0 y1) (([] : List Int), 0) : Option (List Int)).bind fun s2 =>
      ((e_slices_Sort_int n_) s2).bind fun r3 =>
      ((e_slices_Compact_int n_) r3).bind fun r4 =>
      some r4
theorem lef_argument_Last (n_ : Nat) {rec_argument_Last rec_argument_Last' : T_Base → (List T_Argument) → Int → Option (List Int)} (h_rec_argument_Last : ∀ u0 u1 u2, Le (rec_argument_Last u0 u1 u2) (rec_argument_Last' u0 u1 u2)) (y0 : T_Base) (y1 : List T_Argument) (y2 : Int) : Le (fe_argument_Last n_ rec_argument_Last y0 y1 y2) (F_argument_Last rec_argument_Last' y0 y1 y2) := by
  unfold fe_argument_Last F_argument_Last
  repeat with_reducible (first | intro _ | apply h_rec_argument_Last | apply le_slices_Compact_int | apply le_slices_Sort_int | apply le_argument_Last_L1 | apply le_argument_inside | exact Le.refl _ | apply Le.ite | apply Le.seqE | apply Le.bind | apply Le.lp | exact Le.none _)
def ke_argument_Last (n_ : Nat) : Nat → T_Base → (List T_Argument) → Int → Option (List Int)
  | 0 => fun _ _ _ => none
  | k + 1 => fun y0 y1 y2 => (fe_argument_Last n_) ((ke_argument_Last n_) k) y0 y1 y2
theorem lek_argument_Last (n_ : Nat) : ∀ (k m : Nat), k ≤ m → ∀ u0 u1 u2, Le (ke_argument_Last n_ k u0 u1 u2) (k_argument_Last m u0 u1 u2)
  | 0, _, _ => fun u0 u1 u2 => Le.none _
  | k + 1, m, h => fun u0 u1 u2 => by
    obtain ⟨m, rfl⟩ : ∃ q, m = q + 1 := ⟨m - 1, by omega⟩
    exact lef_argument_Last n_ (lek_argument_Last n_ k m (by omega)) _ _ _
def e_argument_Last (n_ : Nat) (y0 : T_Base) (y1 : List T_Argument) (y2 : Int) : Option (List Int) :=
  ke_argument_Last n_ n_ y0 y1 y2
theorem le_argument_Last (n_ : Nat) (y0 : T_Base) (y1 : List T_Argument) (y2 : Int) : Le (e_argument_Last n_ y0 y1 y2) (m_argument_Last y0 y1 y2) := Le.lim n_ fun m h => lek_argument_Last n_ n_ m h _ _ _
def e_keep_Ints_L1 (n_ : Nat) (y0 : List Int) (y1 : List Int) (s1 : Int) : Option (Int ⊕ Bool) :=
  if decide (s1 < (len y0)) then
    (idx y0 s1).bind fun x1 =>
    (idx y1 s1).bind fun x2 =>
    if x1 != x2 then
      some (.inr false)
    else
      some (.inl (w64 (s1 + 1)))
  else
    some (.inr true)
theorem le_keep_Ints_L1 (n_ : Nat) (y0 : List Int) (y1 : List Int) (s1 : Int) : Le (e_keep_Ints_L1 n_ y0 y1 s1) (m_keep_Ints_L1 y0 y1 s1) := by
  unfold e_keep_Ints_L1 m_keep_Ints_L1
  repeat with_reducible (first | intro _ | exact Le.refl _ | apply Le.ite | apply Le.seqE | apply Le.bind | apply Le.lp | exact Le.none _)
def e_keep_Ints (n_ : Nat) (y0 : List Int) (y1 : List Int) : Option Bool :=
  if (len y0) != (len y1) then
    some false
  else
    (lp n_) ((e_keep_Ints_L1 n_) y0 y1) 0
theorem le_keep_Ints (n_ : Nat) (y0 : List Int) (y1 : List Int) : Le (e_keep_Ints n_ y0 y1) (m_keep_Ints y0 y1) := by
  unfold e_keep_Ints m_keep_Ints
  repeat with_reducible (first | intro _ | apply le_keep_Ints_L1 | exact Le.refl _ | apply Le.ite | apply Le.seqE | apply Le.bind | apply Le.lp | exact Le.none _)
def e_law07_loop (n_ : Nat) : Option T_Base :=
  some (([((false, [112]), 2, 0, [])] : List T_Premise), ([([100], false, 0, ([(false, [112])] : List T_Literal), (false, [113])), ([115], true, 0, ([(false, [113])] : List T_Literal), (false, [112]))] : List T_Rule), ([] : List T_Promotion))
theorem le_law07_loop (n_ : Nat) : Le (e_law07_loop n_ ) (m_law07_loop ) := by
  unfold e_law07_loop m_law07_loop
  repeat with_reducible (first | intro _ | exact Le.refl _ | apply Le.ite | apply Le.seqE | apply Le.bind | apply Le.lp | exact Le.none _)
def e_law07_awake (n_ : Nat) : Option Bool :=
  (e_law07_loop n_).bind fun r1 =>
  ((e_argument_Build n_) r1).bind fun r2 =>
  (
    if r2.2 == 0 then
      if (len r2.1) == 3 then
        (idx r2.1 2).bind fun x1 =>
        if x1.2.1 == 1 then
          (idx r2.1 2).bind fun x2 =>
          ((e_keep_Ints n_) x2.2.2.1 ([1] : List Int)).bind fun r3 =>
          if r3 then
            ((e_argument_Subs n_) r2.1 2).bind fun r4 =>
            ((e_keep_Ints n_) r4 ([0, 1, 2] : List Int)).bind fun r5 =>
            if r5 then
              ((e_argument_Last n_) r1 r2.1 2).bind fun r6 =>
              ((e_keep_Ints n_) r6 ([0] : List Int)).bind fun r7 =>
              if r7 then
                ((e_argument_Conclusions n_) r2.1 ([0, 1, 2] : List Int)).bind fun r8 =>
                some ((len r8) == 2)
              else
                some false
            else
              some false
          else
            some false
        else
          some false
      else
        some false
    else
      some false : Option Bool).bind fun s1 =>
  some s1
theorem le_law07_awake (n_ : Nat) : Le (e_law07_awake n_ ) (m_law07_awake ) := by
  unfold e_law07_awake m_law07_awake
  repeat with_reducible (first | intro _ | apply le_argument_Conclusions | apply le_argument_Last | apply le_argument_Subs | apply le_keep_Ints | apply le_argument_Build | apply le_law07_loop | exact Le.refl _ | apply Le.ite | apply Le.seqE | apply Le.bind | apply Le.lp | exact Le.none _)
end
section
variable {b : T_Base} {l : List T_Argument}
theorem contains_int (m : List Int) (x : Int) (hb : m.length < 9223372036854775807) : m_slices_Contains_int m x = some (decide (x ∈ m)) := by
  obtain ⟨r, h1, h2⟩ := indexM_spec m x hb
  unfold m_slices_Contains_int m_slices_Index_int
  rw [show loop (m_slices_Index_int_L1 m x) 0 = some r from h1]
  simp only [Option.bind_some]
  congr 1
  rw [decide_eq_decide, h2]
  simp
end
section
section
variable {α ρ : Type}
/-- the place of the first, or -1 -/
def fidx (q : α → Bool) (l : List α) : Int := if l.any q then (l.findIdx q : Int) else -1
theorem fidx_loop {B : Int → Option (Int ⊕ ρ)} (q : α → Bool) (l : List α) (no : ρ) (yes : Int → ρ) (hB : ∀ (i : Nat) x, l[i]? = some x → B (i : Int) = some (if q x then .inr (yes (i : Int)) else .inl ((i + 1 : Nat) : Int))) (he : B (l.length : Int) = some (.inr no)) :
    loop B 0 = some (if l.any q then yes (fidx q l) else no) := by
  have key : ∀ (n i : Nat), i + n = l.length → loop B (i : Int) = some (if (l.drop i).any q then yes ((i + (l.drop i).findIdx q : Nat) : Int) else no) := by
    intro n
    induction n with
    | zero =>
      intro i h
      rw [Nat.add_zero] at h
      subst h
      rw [loop_eq, he, List.drop_length]
      rfl
    | succ n ih =>
      intro i h
      have hx : l[i]? = some l[i] := List.getElem?_eq_getElem (by omega)
      rw [loop_eq, hB i _ hx, List.drop_eq_getElem_cons (by omega)]
      cases hp : q l[i] with
      | true => simp only [if_true, List.any_cons, hp, Bool.true_or, List.findIdx_cons, cond_true, Nat.add_zero]
      | false =>
        simp only [Bool.false_eq_true, if_false, List.any_cons, hp, Bool.false_or, List.findIdx_cons, cond_false]
        rw [ih (i + 1) (by omega)]
        rw [show i + 1 + (l.drop (i + 1)).findIdx q = i + ((l.drop (i + 1)).findIdx q + 1) by omega]
  have h := key l.length 0 (by omega)
  simp only [List.drop_zero, Nat.zero_add] at h
  rw [show loop B 0 = _ from h, fidx]
  cases l.any q <;> rfl
theorem fidx_le {q : α → Bool} {l : List α} {i : Nat} {x : α} (hx : l[i]? = some x) (hq : q x = true) : 0 ≤ fidx q l ∧ fidx q l ≤ i := by
  have ha : l.any q = true := List.any_eq_true.2 ⟨x, mem_at hx, hq⟩
  rw [fidx, if_pos ha]
  refine ⟨by omega, ?_⟩
  have hi := at_lt hx
  rw [List.getElem?_eq_getElem hi] at hx
  have hq' : q l[i] = true := by rw [Option.some.inj hx]; exact hq
  have : l.findIdx q ≤ i := by
    refine Nat.le_of_not_lt fun h => ?_
    have := List.not_of_lt_findIdx h
    rw [hq'] at this; simp at this
  omega
theorem fidx_at {q : α → Bool} {l : List α} (h : 0 ≤ fidx q l) : ∃ (k : Nat) (x : α), fidx q l = (k : Int) ∧ l[k]? = some x ∧ q x = true ∧ ∀ j y, j < k → l[j]? = some y → q y = false := by
  unfold fidx at h ⊢
  split at h
  · rename_i ha
    rw [if_pos ha]
    obtain ⟨x, hx, hq⟩ := List.any_eq_true.1 ha
    have hlt : l.findIdx q < l.length := List.findIdx_lt_length_of_exists ⟨x, hx, hq⟩
    refine ⟨_, l[l.findIdx q], rfl, List.getElem?_eq_getElem hlt, List.findIdx_getElem, fun j y hj hy => ?_⟩
    have hjl := at_lt hy
    rw [List.getElem?_eq_getElem hjl] at hy
    have := List.not_of_lt_findIdx hj
    rw [← Option.some.inj hy]
    simpa using this
  · omega
/-- the first error along a list -/
def ferr (e : Nat → α → Int) : Nat → List α → Int
  | _, [] => 0
  | i, x :: r => if e i x != 0 then e i x else ferr e (i + 1) r
theorem loop_ferr {B : Int → Option (Int ⊕ ρ)} (l : List α) (e : Nat → α → Int) (yes : Int → ρ) (no : ρ) (hB : ∀ (i : Nat) x, l[i]? = some x → B (i : Int) = some (if e i x != 0 then .inr (yes (e i x)) else .inl ((i + 1 : Nat) : Int))) (he : B (l.length : Int) = some (.inr no)) :
    loop B 0 = some (if ferr e 0 l != 0 then yes (ferr e 0 l) else no) := by
  have key : ∀ (n i : Nat), i + n = l.length → loop B (i : Int) = some (if ferr e i (l.drop i) != 0 then yes (ferr e i (l.drop i)) else no) := by
    intro n
    induction n with
    | zero =>
      intro i h
      rw [Nat.add_zero] at h
      subst h
      rw [loop_eq, he, List.drop_length]
      rfl
    | succ n ih =>
      intro i h
      have hx : l[i]? = some l[i] := List.getElem?_eq_getElem (by omega)
      rw [loop_eq, hB i _ hx, List.drop_eq_getElem_cons (by omega)]
      simp only [ferr]
      by_cases hp : e i l[i] = 0
      · simp only [hp, bne_self_eq_false, Bool.false_eq_true, if_false]; exact ih (i + 1) (by omega)
      · have hp' : (e i l[i] != 0) = true := by simpa using hp
        simp only [hp', if_true]
  have h := key l.length 0 (by omega)
  simpa using h
theorem ferr_ok {e : Nat → α → Int} : ∀ {l : List α} {k : Nat}, ferr e k l = 0 ↔ ∀ (i : Nat) x, l[i]? = some x → e (k + i) x = 0
  | [], k => by simp [ferr]
  | x :: r, k => by
    simp only [ferr]
    constructor
    · intro h
      cases hx : e k x != 0 with
      | true => rw [hx] at h; simp only [if_true] at h; rw [h] at hx; simp at hx
      | false =>
        rw [hx] at h
        simp only [Bool.false_eq_true, if_false] at h
        intro i y hy
        cases i with
        | zero => simp at hy; subst hy; simpa using hx
        | succ i => rw [show k + (i + 1) = k + 1 + i by omega]; exact ferr_ok.1 h i y (by simpa using hy)
    · intro h
      have h0 := h 0 x rfl
      rw [Nat.add_zero] at h0
      rw [h0]
      simp only [bne_self_eq_false, Bool.false_eq_true, if_false]
      exact ferr_ok.2 fun i y hy => by rw [show k + 1 + i = k + (i + 1) by omega]; exact h (i + 1) y (by simpa using hy)
end
abbrev ranked (n : Int) : Bool := decide (0 ≤ n) && decide (n ≤ 9)
def premE (p : T_Premise) : Int :=
  if p.2.1 == 1 || p.2.1 == 2 || p.2.1 == 3 then
    if vName p.1.2 && ranked p.2.2.1 && (p.2.1 == 2 || p.2.2.1 == 0) && (p.2.2.2 == [] || vName p.2.2.2) then 0 else 1
  else 4
/-- each literal before the next -/
def ascB : List T_Literal → Bool
  | a :: b :: r => litLt a b && ascB (b :: r)
  | _ => true
def ruleE (r : T_Rule) : Int :=
  if 4 < r.2.2.2.1.length then 2
  else if vName r.1 && vName r.2.2.2.2.2 && ranked r.2.2.1 && (!r.2.1 || r.2.2.1 == 0) && r.2.2.2.1.all (fun x => vName x.2) then (if ascB r.2.2.2.1 then 0 else 8) else 1
def findS (b : T_Base) (nm : Str) : Int := fidx (fun r : T_Rule => r.1 == nm) b.2.1
def premS (b : T_Base) (x : T_Literal) : Int := fidx (fun p : T_Premise => p.1 == x) b.1
def promE (b : T_Base) (p : T_Promotion) : Int :=
  if ranked p.2.1 && vName p.2.2.2 then (if findS b p.1 < 0 then 6 else match idx b.2.1 (findS b p.1) with | some r => if r.2.1 then 4 else 0 | none => 0) else 1
def validS (b : T_Base) : Int :=
  if 16 < b.1.length || 24 < b.2.1.length || 8 < b.2.2.length then 2
  else
    let e1 := ferr (fun i p => if premE p != 0 then premE p else if premS b p.1 < (i : Int) then 5 else 0) 0 b.1
    if e1 != 0 then e1 else
    let e2 := ferr (fun i r => if ruleE r != 0 then ruleE r else if findS b r.1 < (i : Int) then 5 else 0) 0 b.2.1
    if e2 != 0 then e2 else ferr (fun _ p => promE b p) 0 b.2.2
theorem rb_premise (p : T_Premise) : m_rulebase_premise p = some (premE p) := by
  unfold m_rulebase_premise m_rulebase_ranked m_rulebase_sourced premE
  simp only [lit_valid, validName, Option.bind_some]
  by_cases k1 : p.2.1 = 1
  · by_cases h0 : p.2.2.1 = 0
    · cases vName p.1.2 <;> cases p.2.2.2 == [] <;> cases vName p.2.2.2 <;> simp [k1, h0, seqE]
    · simp [k1, h0, seqE]
  · by_cases k3 : p.2.1 = 3
    · by_cases h0 : p.2.2.1 = 0
      · cases vName p.1.2 <;> cases p.2.2.2 == [] <;> cases vName p.2.2.2 <;> simp [k3, h0, seqE]
      · simp [k3, h0, seqE]
    · by_cases k2 : p.2.1 = 2
      · cases hr : ranked p.2.2.1 <;> cases vName p.1.2 <;> cases p.2.2.2 == [] <;> cases vName p.2.2.2 <;> simp [k2, seqE, hr]
      · simp [k1, k2, k3, seqE]
theorem ref_premise (p : T_Premise) : m_ref05_premise p = some (premE p) := by
  unfold m_ref05_premise m_ref05_rank premE
  simp only [ref_valid, ref_validName, Option.bind_some]
  by_cases k1 : p.2.1 = 1
  · by_cases h0 : p.2.2.1 = 0
    · cases vName p.1.2 <;> cases p.2.2.2 == [] <;> cases vName p.2.2.2 <;> simp [k1, h0]
    · cases hr : ranked p.2.2.1 <;> cases hv : vName p.1.2 <;> simp [k1, h0, hr]
  · by_cases k3 : p.2.1 = 3
    · by_cases h0 : p.2.2.1 = 0
      · cases vName p.1.2 <;> cases p.2.2.2 == [] <;> cases vName p.2.2.2 <;> simp [k3, h0]
      · cases hr : ranked p.2.2.1 <;> cases hv : vName p.1.2 <;> simp [k3, h0, hr]
    · by_cases k2 : p.2.1 = 2
      · cases hr : ranked p.2.2.1 <;> cases vName p.1.2 <;> cases p.2.2.2 == [] <;> cases vName p.2.2.2 <;> simp [k2, hr]
      · have : (decide (p.2.1 < 1) || decide (3 < p.2.1)) = true := by simp; omega
        simp [k1, k2, k3, this]
theorem ascB_loop {B : Int → Option (Int ⊕ Int)} (l : List T_Literal) (hl : l.length < 4294967296)
    (hB : ∀ (i : Nat) x y, l[i]? = some x → l[i + 1]? = some y → B ((i + 1 : Nat) : Int) = some (if decide (0 ≤ litCmp x y) then .inr 8 else .inl ((i + 1 + 1 : Nat) : Int))) (he : ∀ k : Nat, l.length ≤ k → B (k : Int) = some (.inr 0)) :
    loop B 1 = some (if ascB l then 0 else 8) := by
  have key : ∀ (n i : Nat), i + 1 + n = l.length → loop B ((i + 1 : Nat) : Int) = some (if ascB (l.drop i) then 0 else 8) := by
    intro n
    induction n with
    | zero =>
      intro i h
      rw [loop_eq, he (i + 1) (by omega), List.drop_eq_getElem_cons (by omega), List.drop_of_length_le (by omega)]
      rfl
    | succ n ih =>
      intro i h
      have hx : l[i]? = some l[i] := List.getElem?_eq_getElem (by omega)
      have hy : l[i + 1]? = some l[i + 1] := List.getElem?_eq_getElem (by omega)
      rw [loop_eq, hB i _ _ hx hy, List.drop_eq_getElem_cons (by omega), List.drop_eq_getElem_cons (by omega)]
      have hc : decide (0 ≤ litCmp l[i] l[i + 1]) = !litLt l[i] l[i + 1] := by
        unfold litCmp
        cases litLt l[i] l[i + 1] with
        | true => simp
        | false =>
          simp only [Bool.false_eq_true, if_false]
          split <;> simp
      rw [hc]
      cases hlt : litLt l[i] l[i + 1] with
      | true =>
        simp only [Bool.not_true, Bool.false_eq_true, if_false]
        rw [ih (i + 1) (by omega), List.drop_eq_getElem_cons (show i + 1 < l.length by omega)]
        simp only [ascB, hlt, Bool.true_and]
      | false => simp only [Bool.not_false, if_true, ascB, hlt, Bool.false_and, Bool.false_eq_true, if_false]
  match l, hl, hB, he, key with
  | [], _, _, he, _ => rw [loop_eq, show (1 : Int) = ((1 : Nat) : Int) from rfl, he 1 (by simp)]; rfl
  | x :: r, _, _, _, key => exact key r.length 0 (by simp; omega)
theorem rb_rule (r : T_Rule) (hr : r.2.2.2.1.length < 4294967296) : m_rulebase_rule r = some (ruleE r) := by
  unfold m_rulebase_rule ruleE
  by_cases h4 : 4 < r.2.2.2.1.length
  · have : decide (4 < len r.2.2.2.1) = true := by simp [len]; omega
    simp only [this, if_true, h4]
  have : decide (4 < len r.2.2.2.1) = false := by simp [len]; omega
  simp only [this, Bool.false_eq_true, if_false, h4, validName, lit_valid, m_rulebase_ranked, Option.bind_some]
  have hc : (if (!vName r.1) = true then some true else if (!vName r.2.2.2.2.2) = true then some true else if (!(decide (0 ≤ r.2.2.1) && decide (r.2.2.1 ≤ 9))) = true then some true else if r.2.1 = true then some (r.2.2.1 != 0) else some false)
      = some (!(vName r.1 && vName r.2.2.2.2.2 && ranked r.2.2.1 && (!r.2.1 || r.2.2.1 == 0))) := by
    cases vName r.1 <;> cases vName r.2.2.2.2.2 <;> cases hk : ranked r.2.2.1 <;> cases r.2.1 <;> simp [hk, bne]
  rw [hc]
  simp only [Option.bind_some]
  cases hg : (vName r.1 && vName r.2.2.2.2.2 && ranked r.2.2.1 && (!r.2.1 || r.2.2.1 == 0)) with
  | false => simp
  | true =>
    simp only [Bool.not_true, Bool.false_eq_true, if_false, Bool.true_and]
    have h1 := loop_find (B := m_rulebase_rule_L1 r) r.2.2.2.1 (fun x => !vName x.2) (.inr 1 : Unit ⊕ Int) (.inl ()) (fun i x hx => by
      unfold m_rulebase_rule_L1
      simp only [at_dec hx, if_true, at_idx hx, Option.bind_some, lit_valid, at_suc hx hr]
      cases vName x.2 <;> rfl) (by unfold m_rulebase_rule_L1; simp only [end_dec, Bool.false_eq_true, if_false])
    rw [h1]
    have hall : r.2.2.2.1.all (fun x => vName x.2) = !r.2.2.2.1.any (fun x => !vName x.2) := by rw [List.all_eq_not_any_not]
    rw [hall]
    cases r.2.2.2.1.any (fun x => !vName x.2) with
    | true => rfl
    | false =>
      simp only [seqE, Option.bind_some, Bool.false_eq_true, if_false, Bool.not_false, if_true]
      refine ascB_loop (B := m_rulebase_rule_L2 r) r.2.2.2.1 hr (fun i x y hx hy => ?_) (fun k hk => ?_)
      · unfold m_rulebase_rule_L2
        have e1 : w64 (((i + 1 : Nat) : Int) - 1) = (i : Int) := by have := at_lt hy; rw [w64_id (by omega) (by omega)]; omega
        simp only [at_dec hy, if_true, at_idx hy, e1, at_idx hx, Option.bind_some, lit_compare, at_suc hy hr]
        split <;> rfl
      · unfold m_rulebase_rule_L2
        have : decide ((k : Int) < len r.2.2.2.1) = false := by simp [len]; omega
        simp only [this, Bool.false_eq_true, if_false]
theorem ref_rule (r : T_Rule) (hr : r.2.2.2.1.length < 4294967296) : m_ref05_rule r = some (ruleE r) := by
  unfold m_ref05_rule ruleE
  by_cases h4 : 4 < r.2.2.2.1.length
  · have : decide (4 < len r.2.2.2.1) = true := by simp [len]; omega
    simp only [this, if_true, h4]
  have : decide (4 < len r.2.2.2.1) = false := by simp [len]; omega
  simp only [this, Bool.false_eq_true, if_false, h4, ref_validName, ref_valid, m_ref05_rank, Option.bind_some]
  have hc : (if vName r.1 = true then if (decide (0 ≤ r.2.2.1) && decide (r.2.2.1 ≤ 9)) = true then if (!r.2.1) = true then some (vName r.2.2.2.2.2) else if (r.2.2.1 == 0) = true then some (vName r.2.2.2.2.2) else some false else some false else some false)
      = some (vName r.1 && vName r.2.2.2.2.2 && ranked r.2.2.1 && (!r.2.1 || r.2.2.1 == 0)) := by
    cases vName r.1 <;> cases vName r.2.2.2.2.2 <;> cases hk : ranked r.2.2.1 <;> cases r.2.1 <;> cases hz : r.2.2.1 == 0 <;> simp [hk]
  rw [hc]
  simp only [Option.bind_some]
  have h1 := loop_fold (B := m_ref05_rule_L1 r) r.2.2.2.1 (fun s x => s && vName x.2) (fun s => s) (fun _ _ => True) (vName r.1 && vName r.2.2.2.2.2 && ranked r.2.2.1 && (!r.2.1 || r.2.2.1 == 0)) trivial (fun i x s hx _ => ⟨by
    unfold m_ref05_rule_L1
    simp only [at_dec hx, if_true, at_idx hx, Option.bind_some, ref_valid]
    cases s <;> simp only [Bool.false_eq_true, if_false, if_true, Option.bind_some, at_suc hx hr, Bool.false_and, Bool.true_and], trivial⟩) (fun s _ => by unfold m_ref05_rule_L1; simp only [end_dec, Bool.false_eq_true, if_false])
  rw [h1.1]
  have hf : ∀ (l : List T_Literal) (g : Bool), l.foldl (fun s x => s && vName x.2) g = (g && l.all (fun x => vName x.2)) := by
    intro l
    induction l with
    | nil => intro g; simp
    | cons x l ih => intro g; rw [List.foldl_cons, ih, List.all_cons, Bool.and_assoc]
  rw [hf]
  simp only [Option.bind_some]
  cases hg : (vName r.1 && vName r.2.2.2.2.2 && ranked r.2.2.1 && (!r.2.1 || r.2.2.1 == 0) && r.2.2.2.1.all (fun x => vName x.2)) with
  | false => rfl
  | true =>
    simp only [Bool.not_true, Bool.false_eq_true, if_false, if_true]
    refine ascB_loop (B := m_ref05_rule_L2 r) r.2.2.2.1 hr (fun i x y hx hy => ?_) (fun k hk => ?_)
    · unfold m_ref05_rule_L2
      have e1 : w64 (((i + 1 : Nat) : Int) - 1) = (i : Int) := by have := at_lt hy; rw [w64_id (by omega) (by omega)]; omega
      simp only [at_dec hy, if_true, at_idx hy, e1, at_idx hx, Option.bind_some, ref_compare, at_suc hy hr]
      split <;> rfl
    · unfold m_ref05_rule_L2
      have : decide ((k : Int) < len r.2.2.2.1) = false := by simp [len]; omega
      simp only [this, Bool.false_eq_true, if_false]
theorem fidx_id {α : Type} (q : α → Bool) (l : List α) : (if l.any q then fidx q l else -1) = fidx q l := by unfold fidx; split <;> rfl
theorem ref_Find (b : T_Base) (nm : Str) (h : b.2.1.length < 4294967296) : m_ref05_Find b nm = some (findS b nm) := by
  have := fidx_loop (B := m_ref05_Find_L1 b nm) (fun r : T_Rule => r.1 == nm) b.2.1 (-1 : Int) (fun i => i) (fun i x hx => by
    unfold m_ref05_Find_L1
    simp only [at_dec hx, if_true, at_idx hx, Option.bind_some, at_suc hx h]
    split <;> rfl) (by unfold m_ref05_Find_L1; simp only [end_dec, Bool.false_eq_true, if_false])
  rw [fidx_id] at this
  exact this
theorem ref_Premise (b : T_Base) (x : T_Literal) (h : b.1.length < 4294967296) : m_ref05_Premise b x = some (premS b x) := by
  have := fidx_loop (B := m_ref05_Premise_L1 b x) (fun r : T_Premise => r.1 == x) b.1 (-1 : Int) (fun i => i) (fun i x hx => by
    unfold m_ref05_Premise_L1
    simp only [at_dec hx, if_true, at_idx hx, Option.bind_some, at_suc hx h]
    split <;> rfl) (by unfold m_ref05_Premise_L1; simp only [end_dec, Bool.false_eq_true, if_false])
  rw [fidx_id] at this
  exact this
theorem rb_Find (b : T_Base) (nm : Str) (h : b.2.1.length < 4294967296) : m_rulebase_Find b nm = some (findS b nm) := by
  have := fidx_loop (B := m_slices_IndexFunc_Rule__rulebase_Find_1_L1 b.2.1 nm) (fun r : T_Rule => r.1 == nm) b.2.1 (-1 : Int) (fun i => i) (fun i x hx => by
    unfold m_slices_IndexFunc_Rule__rulebase_Find_1_L1 m_rulebase_Find_1
    simp only [at_dec hx, if_true, at_idx hx, Option.bind_some, at_suc hx h]
    split <;> rfl) (by unfold m_slices_IndexFunc_Rule__rulebase_Find_1_L1; simp only [end_dec, Bool.false_eq_true, if_false])
  rw [fidx_id] at this
  unfold m_rulebase_Find m_slices_IndexFunc_Rule__rulebase_Find_1
  rw [this]
  rfl
theorem rb_Premise (b : T_Base) (x : T_Literal) (h : b.1.length < 4294967296) : m_rulebase_Premise b x = some (premS b x) := by
  have := fidx_loop (B := m_slices_IndexFunc_Premise__rulebase_Premise_1_L1 b.1 x) (fun r : T_Premise => r.1 == x) b.1 (-1 : Int) (fun i => i) (fun i x hx => by
    unfold m_slices_IndexFunc_Premise__rulebase_Premise_1_L1 m_rulebase_Premise_1
    simp only [at_dec hx, if_true, at_idx hx, Option.bind_some, at_suc hx h]
    split <;> rfl) (by unfold m_slices_IndexFunc_Premise__rulebase_Premise_1_L1; simp only [end_dec, Bool.false_eq_true, if_false])
  rw [fidx_id] at this
  unfold m_rulebase_Premise m_slices_IndexFunc_Premise__rulebase_Premise_1
  rw [this]
  rfl
theorem findS_idx {b : T_Base} {nm : Str} (h : ¬ findS b nm < 0) : ∃ r, idx b.2.1 (findS b nm) = some r := by
  obtain ⟨k, x, h1, h2, _⟩ := fidx_at (q := fun r : T_Rule => r.1 == nm) (l := b.2.1) (by unfold findS at h; omega)
  exact ⟨x, by rw [findS, h1]; exact at_idx h2⟩
theorem rb_promotion (b : T_Base) (p : T_Promotion) (h : b.2.1.length < 4294967296) : m_rulebase_promotion b p = some (promE b p) := by
  unfold m_rulebase_promotion promE m_rulebase_ranked
  simp only [lit_valid, rb_Find b p.1 h, Option.bind_some, ranked]
  by_cases hr : (decide (0 ≤ p.2.1) && decide (p.2.1 ≤ 9)) = true
  · simp only [hr, Bool.true_and, Bool.not_true, Bool.false_eq_true, if_false]
    cases hv : vName p.2.2.2 with
    | false => rfl
    | true =>
      simp only [Bool.not_true, Bool.false_eq_true, if_false, Option.bind_some, if_true]
      by_cases hn : findS b p.1 < 0
      · simp [hn]
      · obtain ⟨r, hr2⟩ := findS_idx hn
        simp only [hn, decide_false, Bool.false_eq_true, if_false, hr2, Option.bind_some]
        split <;> rfl
  · rw [Bool.not_eq_true] at hr
    simp only [hr, Bool.false_and, Bool.not_false, if_true, Option.bind_some, Bool.false_eq_true, if_false]
/-- what a base's lists may be, so that everything can be counted -/
structure Cnt (b : T_Base) : Prop where
  p : b.1.length < 4294967296
  r : b.2.1.length < 4294967296
  m : b.2.2.length < 4294967296
  q : ∀ r ∈ b.2.1, r.2.2.2.1.length < 4294967296
theorem ref_Validate {b : T_Base} (h : Cnt b) : m_ref05_Validate b = some (validS b) := by
  unfold m_ref05_Validate validS
  have h0 : (decide (16 < len b.1) || (decide (24 < len b.2.1) || decide (8 < len b.2.2))) = (decide (16 < b.1.length) || decide (24 < b.2.1.length) || decide (8 < b.2.2.length)) := by
    rw [Bool.eq_iff_iff]; simp [len]; omega
  rw [h0]
  cases hc : (decide (16 < b.1.length) || decide (24 < b.2.1.length) || decide (8 < b.2.2.length)) with
  | true => simp
  | false =>
    simp only [Bool.false_eq_true, if_false]
    rw [loop_ferr (B := m_ref05_Validate_L1 b) b.1 (fun i p => if premE p != 0 then premE p else if premS b p.1 < (i : Int) then 5 else 0) (fun e => (.inr e : Unit ⊕ Int)) (.inl ()) (fun i x hx => by
      unfold m_ref05_Validate_L1
      simp only [at_dec hx, if_true, at_idx hx, Option.bind_some, ref_premise, ref_Premise b x.1 h.p, at_suc hx h.p]
      cases hp : premE x != 0 with
      | true => simp only [if_true, hp]
      | false =>
        by_cases hq : premS b x.1 < (i : Int)
        · simp [hq]
        · simp [hq]) (by unfold m_ref05_Validate_L1; simp only [end_dec, Bool.false_eq_true, if_false])]
    cases he : ferr (fun i p => if premE p != 0 then premE p else if premS b p.1 < (i : Int) then 5 else 0) 0 b.1 != 0 with
    | true => simp [seqE]
    | false =>
      simp only [Bool.false_eq_true, if_false, seqE, Option.bind_some]
      rw [loop_ferr (B := m_ref05_Validate_L2 b) b.2.1 (fun i r => if ruleE r != 0 then ruleE r else if findS b r.1 < (i : Int) then 5 else 0) (fun e => (.inr e : Unit ⊕ Int)) (.inl ()) (fun i x hx => by
        unfold m_ref05_Validate_L2
        simp only [at_dec hx, if_true, at_idx hx, Option.bind_some, ref_rule x (h.q x (mem_at hx)), ref_Find b x.1 h.r, at_suc hx h.r]
        cases hp : ruleE x != 0 with
        | true => simp only [if_true, hp]
        | false =>
          by_cases hq : findS b x.1 < (i : Int)
          · simp [hq]
          · simp [hq]) (by unfold m_ref05_Validate_L2; simp only [end_dec, Bool.false_eq_true, if_false])]
      cases he2 : ferr (fun i r => if ruleE r != 0 then ruleE r else if findS b r.1 < (i : Int) then 5 else 0) 0 b.2.1 != 0 with
      | true => simp
      | false =>
        simp only [Bool.false_eq_true, if_false, Option.bind_some]
        rw [loop_ferr (B := m_ref05_Validate_L3 b) b.2.2 (fun _ p => promE b p) (fun e => e) 0 (fun i x hx => by
          unfold m_ref05_Validate_L3 promE m_ref05_rank
          simp only [at_dec hx, if_true, at_idx hx, Option.bind_some, ref_valid, ref_Find b x.1 h.r, at_suc hx h.m, ranked]
          by_cases hr : (decide (0 ≤ x.2.1) && decide (x.2.1 ≤ 9)) = true
          · simp only [hr, Bool.true_and, Bool.not_true, Bool.false_eq_true, if_false]
            cases hv : vName x.2.2.2 with
            | false => rfl
            | true =>
              simp only [Bool.not_true, Bool.false_eq_true, if_false, Option.bind_some, if_true]
              by_cases hn : findS b x.1 < 0
              · simp [hn]
              · obtain ⟨r, hr2⟩ := findS_idx hn
                simp only [hn, decide_false, Bool.false_eq_true, if_false, hr2, Option.bind_some]
                cases r.2.1 <;> simp
          · rw [Bool.not_eq_true] at hr
            simp only [hr, Bool.false_and, Bool.not_false, if_true, Option.bind_some, Bool.false_eq_true, if_false]
            rfl) (by unfold m_ref05_Validate_L3; simp only [end_dec, Bool.false_eq_true, if_false])]
        cases hz : ferr (fun _ p => promE b p) 0 b.2.2 != 0 with
        | true => simp
        | false => simp only [Bool.false_eq_true, if_false]; congr 1; exact (by simpa using hz : _ = (0 : Int)).symm
theorem rb_Validate {b : T_Base} (h : Cnt b) : m_rulebase_Validate b = some (validS b) := by
  unfold m_rulebase_Validate validS
  have h0 : (decide (16 < len b.1) || (decide (24 < len b.2.1) || decide (8 < len b.2.2))) = (decide (16 < b.1.length) || decide (24 < b.2.1.length) || decide (8 < b.2.2.length)) := by
    rw [Bool.eq_iff_iff]; simp [len]; omega
  rw [h0]
  cases hc : (decide (16 < b.1.length) || decide (24 < b.2.1.length) || decide (8 < b.2.2.length)) with
  | true => simp
  | false =>
    simp only [Bool.false_eq_true, if_false]
    rw [loop_ferr (B := m_rulebase_Validate_L1 b) b.1 (fun i p => if premE p != 0 then premE p else if premS b p.1 < (i : Int) then 5 else 0) (fun e => (.inr e : Unit ⊕ Int)) (.inl ()) (fun i x hx => by
      unfold m_rulebase_Validate_L1
      simp only [at_dec hx, if_true, at_idx hx, Option.bind_some, rb_premise, rb_Premise b x.1 h.p, at_suc hx h.p]
      cases hp : premE x != 0 with
      | true => simp only [if_true, hp]
      | false =>
        by_cases hq : premS b x.1 < (i : Int)
        · simp [hq]
        · simp [hq]) (by unfold m_rulebase_Validate_L1; simp only [end_dec, Bool.false_eq_true, if_false])]
    cases he : ferr (fun i p => if premE p != 0 then premE p else if premS b p.1 < (i : Int) then 5 else 0) 0 b.1 != 0 with
    | true => simp [seqE]
    | false =>
      simp only [Bool.false_eq_true, if_false, seqE, Option.bind_some]
      rw [loop_ferr (B := m_rulebase_Validate_L2 b) b.2.1 (fun i r => if ruleE r != 0 then ruleE r else if findS b r.1 < (i : Int) then 5 else 0) (fun e => (.inr e : Unit ⊕ Int)) (.inl ()) (fun i x hx => by
        unfold m_rulebase_Validate_L2
        simp only [at_dec hx, if_true, at_idx hx, Option.bind_some, rb_rule x (h.q x (mem_at hx)), rb_Find b x.1 h.r, at_suc hx h.r]
        cases hp : ruleE x != 0 with
        | true => simp only [if_true, hp]
        | false =>
          by_cases hq : findS b x.1 < (i : Int)
          · simp [hq]
          · simp [hq]) (by unfold m_rulebase_Validate_L2; simp only [end_dec, Bool.false_eq_true, if_false])]
      cases he2 : ferr (fun i r => if ruleE r != 0 then ruleE r else if findS b r.1 < (i : Int) then 5 else 0) 0 b.2.1 != 0 with
      | true => simp
      | false =>
        simp only [Bool.false_eq_true, if_false, Option.bind_some]
        rw [loop_ferr (B := m_rulebase_Validate_L3 b) b.2.2 (fun _ p => promE b p) (fun e => e) 0 (fun i x hx => by
          unfold m_rulebase_Validate_L3
          simp only [at_dec hx, if_true, at_idx hx, Option.bind_some, rb_promotion b x h.r, at_suc hx h.m]
          split <;> rfl) (by unfold m_rulebase_Validate_L3; simp only [end_dec, Bool.false_eq_true, if_false])]
        cases hz : ferr (fun _ p => promE b p) 0 b.2.2 != 0 with
        | true => simp
        | false => simp only [Bool.false_eq_true, if_false]; congr 1; exact (by simpa using hz : _ = (0 : Int)).symm
/-- what a valid base is -/
structure ValidB (b : T_Base) : Prop where
  np : b.1.length ≤ 16
  nr : b.2.1.length ≤ 24
  nm : b.2.2.length ≤ 8
  prem : ∀ p ∈ b.1, premE p = 0
  rule : ∀ r ∈ b.2.1, ruleE r = 0
  dp : ∀ (i j : Nat) p q, b.1[i]? = some p → b.1[j]? = some q → p.1 = q.1 → i = j
  dr : ∀ (i j : Nat) p q, b.2.1[i]? = some p → b.2.1[j]? = some q → p.1 = q.1 → i = j
  prom : ∀ p ∈ b.2.2, promE b p = 0
theorem fidx_first {α β : Type} [BEq β] [LawfulBEq β] (g : α → β) (l : List α) : (∀ (i : Nat) p, l[i]? = some p → ¬ fidx (fun x => g x == g p) l < (i : Int)) ↔ ∀ (i j : Nat) p q, l[i]? = some p → l[j]? = some q → g p = g q → i = j := by
  constructor
  · intro h i j p q hp hq e
    have h1 := h i p hp
    have h2 := h j q hq
    have h3 := (fidx_le (q := fun x => g x == g p) hq (by simp [e])).2
    have h4 := (fidx_le (q := fun x => g x == g q) hp (by simp [e])).2
    rw [e] at h1 h3
    omega
  · intro h i p hp hlt
    have h1 := fidx_le (q := fun x => g x == g p) hp (by simp)
    obtain ⟨k, x, e1, e2, e3, _⟩ := fidx_at h1.1
    have := h k i x p e2 hp (by simpa using e3)
    omega
theorem validS_iff {b : T_Base} : validS b = 0 ↔ ValidB b := by
  have hcnd : ∀ (a c : Int) (p : Prop) [Decidable p], (if a != 0 then a else if p then 5 else 0) = (0 : Int) ↔ a = 0 ∧ ¬ p := fun a c p _ => by
    by_cases ha : a = 0
    · by_cases hp : p <;> simp [ha, hp]
    · simp [ha]
  have h1 : ferr (fun i p => if premE p != 0 then premE p else if premS b p.1 < (i : Int) then 5 else 0) 0 b.1 = 0 ↔ (∀ p ∈ b.1, premE p = 0) ∧ ∀ (i j : Nat) p q, b.1[i]? = some p → b.1[j]? = some q → p.1 = q.1 → i = j := by
    rw [ferr_ok, ← fidx_first (fun p : T_Premise => p.1)]
    simp only [Nat.zero_add, hcnd _ 0]
    exact ⟨fun h => ⟨fun p hp => by obtain ⟨i, hi⟩ := List.mem_iff_getElem?.1 hp; exact (h i p hi).1, fun i p hp => (h i p hp).2⟩, fun h i p hp => ⟨h.1 p (mem_at hp), h.2 i p hp⟩⟩
  have h2 : ferr (fun i r => if ruleE r != 0 then ruleE r else if findS b r.1 < (i : Int) then 5 else 0) 0 b.2.1 = 0 ↔ (∀ p ∈ b.2.1, ruleE p = 0) ∧ ∀ (i j : Nat) p q, b.2.1[i]? = some p → b.2.1[j]? = some q → p.1 = q.1 → i = j := by
    rw [ferr_ok, ← fidx_first (fun p : T_Rule => p.1)]
    simp only [Nat.zero_add, hcnd _ 0]
    exact ⟨fun h => ⟨fun p hp => by obtain ⟨i, hi⟩ := List.mem_iff_getElem?.1 hp; exact (h i p hi).1, fun i p hp => (h i p hp).2⟩, fun h i p hp => ⟨h.1 p (mem_at hp), h.2 i p hp⟩⟩
  have h3 : ferr (fun _ p => promE b p) 0 b.2.2 = 0 ↔ ∀ p ∈ b.2.2, promE b p = 0 := by
    rw [ferr_ok]
    exact ⟨fun h p hp => by obtain ⟨i, hi⟩ := List.mem_iff_getElem?.1 hp; exact h i p hi, fun h i p hp => h p (mem_at hp)⟩
  unfold validS
  cases hc : (decide (16 < b.1.length) || decide (24 < b.2.1.length) || decide (8 < b.2.2.length)) with
  | true =>
    simp only [if_true]
    refine ⟨fun h => (by cases h), fun h => ?_⟩
    simp at hc
    have := h.np; have := h.nr; have := h.nm
    omega
  | false =>
    simp at hc
    simp only [Bool.false_eq_true, if_false]
    constructor
    · intro h
      have e1 : ferr (fun i p => if premE p != 0 then premE p else if premS b p.1 < (i : Int) then 5 else 0) 0 b.1 = 0 := by
        refine Decidable.byContradiction fun hn => ?_
        rw [if_pos (by simpa using hn)] at h
        exact hn h
      rw [if_neg (by rw [e1]; simp)] at h
      have e2 : ferr (fun i r => if ruleE r != 0 then ruleE r else if findS b r.1 < (i : Int) then 5 else 0) 0 b.2.1 = 0 := by
        refine Decidable.byContradiction fun hn => ?_
        rw [if_pos (by simpa using hn)] at h
        exact hn h
      rw [if_neg (by rw [e2]; simp)] at h
      exact ⟨by omega, by omega, by omega, (h1.1 e1).1, (h2.1 e2).1, (h1.1 e1).2, (h2.1 e2).2, h3.1 h⟩
    · intro h
      rw [if_neg (by rw [h1.2 ⟨h.prem, h.dp⟩]; simp), if_neg (by rw [h2.2 ⟨h.rule, h.dr⟩]; simp)]
      exact h3.2 h.prom
end
section
variable {b : T_Base} {l m : List T_Argument}
structure FormC (b : T_Base) (l : List T_Argument) : Prop extends FormB b l where
  l41 : l.length ≤ 41
  pr : ∀ (i : Nat) a p, l[i]? = some a → 0 ≤ a.1 → idx b.1 a.1 = some p → a.2.2.2 = p.1 ∧ a.2.2.1 = []
  ru : ∀ (i : Nat) a r, l[i]? = some a → 0 ≤ a.2.1 → idx b.2.1 a.2.1 = some r → a.2.2.2 = r.2.2.2.2 ∧ a.2.2.1.length = r.2.2.2.1.length ∧ ∀ (j : Nat) k y, a.2.2.1[j]? = some k → r.2.2.2.1[j]? = some y → ∃ a', idx l k = some a' ∧ a'.2.2.2 = y
/-- an application of a rule to arguments of a list -/
structure Good (b : T_Base) (l : List T_Argument) (a : T_Argument) : Prop where
  p : a.1 = -1
  r : ∃ q, idx b.2.1 a.2.1 = some q ∧ a.2.2.2 = q.2.2.2.2 ∧ a.2.2.1.length = q.2.2.2.1.length ∧ a.2.2.1.length ≤ 100 ∧ ∀ (j : Nat) k y, a.2.2.1[j]? = some k → q.2.2.2.1[j]? = some y → ∃ a', idx l k = some a' ∧ a'.2.2.2 = y
theorem idx_lt {α : Type} {l : List α} {i : Int} {x : α} (h : idx l i = some x) : 0 ≤ i ∧ i < l.length := by
  obtain ⟨n, rfl, hn⟩ := idx_at h
  exact ⟨by omega, by have := at_lt hn; omega⟩
theorem idx_app {α : Type} {l m : List α} {i : Int} {x : α} (h : idx l i = some x) : idx (l ++ m) i = some x := by
  obtain ⟨n, rfl, hn⟩ := idx_at h
  rw [idx_nat, List.getElem?_append_left (at_lt hn)]
  exact hn
theorem idx_app_lt {α : Type} {l m : List α} {i : Int} (h1 : i < l.length) : idx (l ++ m) i = idx l i := by
  unfold idx
  split
  · rw [List.getElem?_append_left (by omega)]
  · rfl
theorem Good.sub {a : T_Argument} (h : Good b l a) : ∀ k ∈ a.2.2.1, 0 ≤ k ∧ k < l.length := by
  intro k hk
  obtain ⟨q, _, _, h3, _, h5⟩ := h.r
  obtain ⟨j, hj⟩ := List.mem_iff_getElem?.1 hk
  have hjl := at_lt hj
  obtain ⟨a', h6, _⟩ := h5 j k _ hj (List.getElem?_eq_getElem (by omega))
  exact idx_lt h6
theorem Good.more {a : T_Argument} (h : Good b l a) : Good b (l ++ m) a := by
  obtain ⟨q, h1, h2, h3, h4, h5⟩ := h.r
  exact ⟨h.p, q, h1, h2, h3, h4, fun j k y hk hy => by obtain ⟨a', h6, h7⟩ := h5 j k y hk hy; exact ⟨a', idx_app h6, h7⟩⟩
theorem FormC.app (h : FormC b l) (hm : ∀ a ∈ m, Good b l a) (hl : l.length + m.length ≤ 41) : FormC b (l ++ m) := by
  have hlen : (l ++ m).length ≤ 41 := by rw [List.length_append]; exact hl
  have key : ∀ (i : Nat) a, (l ++ m)[i]? = some a → (l[i]? = some a ∧ i < l.length) ∨ (l.length ≤ i ∧ a ∈ m) := fun i a ha => by
    by_cases hi : i < l.length
    · rw [List.getElem?_append_left hi] at ha; exact .inl ⟨ha, hi⟩
    · rw [List.getElem?_append_right (by omega)] at ha; exact .inr ⟨by omega, mem_at ha⟩
  refine ⟨⟨⟨by omega, fun a ha => ?_, fun i a ha k hk => ?_⟩, h.np, h.nr, fun i a ha => ?_⟩, hlen, fun i a p ha h0 hp => ?_, fun i a r ha h0 hr => ?_⟩
  · rcases List.mem_append.1 ha with ha | ha
    · exact h.nsub a ha
    · obtain ⟨q, _, _, _, h4, _⟩ := (hm a ha).r; exact h4
  · rcases key i a ha with ⟨h1, _⟩ | ⟨h1, h2⟩
    · exact h.sub i a h1 k hk
    · have := (hm a h2).sub k hk; omega
  · rcases key i a ha with ⟨h1, _⟩ | ⟨h1, h2⟩
    · exact h.kind i a h1
    · obtain ⟨q, h3, _⟩ := (hm a h2).r
      have := idx_lt h3
      exact .inr ⟨(hm a h2).p, this⟩
  · rcases key i a ha with ⟨h1, _⟩ | ⟨h1, h2⟩
    · exact h.pr i a p h1 h0 hp
    · rw [(hm a h2).p] at h0; omega
  · rcases key i a ha with ⟨h1, _⟩ | ⟨h1, h2⟩
    · obtain ⟨g1, g2, g3⟩ := h.ru i a r h1 h0 hr
      exact ⟨g1, g2, fun j k y hk hy => by obtain ⟨a', h6, h7⟩ := g3 j k y hk hy; exact ⟨a', idx_app h6, h7⟩⟩
    · obtain ⟨q, g1, g2, g3, _, g5⟩ := (hm a h2).r
      rw [hr] at g1
      cases g1
      exact ⟨g2, g3, fun j k y hk hy => by obtain ⟨a', h6, h7⟩ := g5 j k y hk hy; exact ⟨a', idx_app h6, h7⟩⟩
theorem sub_app (h : FormA l) {i j : Int} (h0 : 0 ≤ i) (h1 : i < l.length) : SubOf (l ++ m) i j ↔ SubOf l i j := by
  constructor
  · intro hs
    induction hs with
    | self i => exact .self i
    | step hi hk _ ih =>
      rw [idx_app_lt h1] at hi
      have := (h.at hi).2.2.2 _ hk
      exact .step hi hk (ih this.1 (by omega))
  · intro hs
    clear h0 h1
    induction hs with
    | self i => exact .self i
    | step hi hk _ ih => exact .step (idx_app hi) hk ih
theorem subs_app (h : FormA l) (h' : FormA (l ++ m)) {i : Int} (h0 : 0 ≤ i) (h1 : i < l.length) : subsS (l ++ m) i = subsS l i := by
  refine Asc.ext ord_ltI (subsS_asc _ i) (subsS_asc _ i) fun j => ?_
  rw [subsS_mem h h0 h1, subsS_mem h' h0 (by rw [List.length_append]; omega), sub_app h h0 h1]
theorem defs_app (h : FormC b l) (h' : FormC b (l ++ m)) {i : Int} (h0 : 0 ≤ i) (h1 : i < l.length) : defsS b (l ++ m) i = defsS b l i := by
  refine Asc.ext ord_ltI (nrm_asc _) (nrm_asc _) fun y => ?_
  rw [defsS_mem h.toFormB h0 h1, defsS_mem h'.toFormB h0 (by rw [List.length_append]; omega), subs_app h.toFormA h'.toFormA h0 h1]
  refine exists_congr fun j => and_congr_right fun hj => ?_
  have := ((subsS_mem h.toFormA h0 h1 j).1 hj).le h.toFormA h0
  rw [idx_app_lt (by omega)]
inductive RunOf (b : T_Base) (l : List T_Argument) : Int → T_Literal → Prop
  | here {i : Int} {a : T_Argument} : idx l i = some a → RunOf b l i a.2.2.2
  | step {i k : Int} {a : T_Argument} {r : T_Rule} {y : T_Literal} : idx l i = some a → 0 ≤ a.2.1 → idx b.2.1 a.2.1 = some r → r.2.1 = true → k ∈ a.2.2.1 → RunOf b l k y → RunOf b l i y
theorem run_app (h : FormA l) {i : Int} {y : T_Literal} (h0 : 0 ≤ i) (h1 : i < l.length) : RunOf b (l ++ m) i y ↔ RunOf b l i y := by
  constructor
  · intro hs
    induction hs with
    | here hi => rw [idx_app_lt h1] at hi; exact .here hi
    | step hi hr hq hs hk _ ih =>
      rw [idx_app_lt h1] at hi
      have := (h.at hi).2.2.2 _ hk
      exact .step hi hr hq hs hk (ih this.1 (by omega))
  · intro hs
    clear h0 h1
    induction hs with
    | here hi => exact .here (idx_app hi)
    | step hi hr hq hs hk _ ih => exact .step (idx_app hi) hr hq hs hk ih
/-- both texts' runs can be counted -/
structure RunsB (b : T_Base) (l : List T_Argument) : Prop where
  ref : ∀ i : Int, 0 ≤ i → i < l.length → ∃ r, m_ref07_Run b l i = some r ∧ r.length < 4294967296 ∧ ∀ y, y ∈ r ↔ RunOf b l i y
structure RunsA (b : T_Base) (l : List T_Argument) : Prop where
  arg : ∀ i : Int, 0 ≤ i → i < l.length → ∃ r, m_argument_run b l i = some r ∧ r.length < 4294967296 ∧ ∀ y, y ∈ r ↔ RunOf b l i y
/-- a bound on the runs' lengths -/
structure RunSz (b : T_Base) (l : List T_Argument) (sz : Int → Nat) : Prop where
  one : ∀ i, 1 ≤ sz i
  big : ∀ i : Int, 0 ≤ i → i < l.length → sz i < 4294967296
  step : ∀ i a r, idx l i = some a → 0 ≤ a.2.1 → idx b.2.1 a.2.1 = some r → r.2.1 = true → 1 + (a.2.2.1.map sz).sum ≤ sz i
theorem sum_take_le (f : Int → Nat) (l : List Int) (q : Nat) : ((l.take q).map f).sum ≤ (l.map f).sum := by
  have h := congrArg (fun x => (x.map f).sum) (List.take_append_drop q l)
  simp only [List.map_append, List.sum_append] at h
  omega
theorem ref_Run_k {sz : Int → Nat} (h : FormB b l) (hz : RunSz b l sz) : ∀ (n : Nat) (i : Int), 0 ≤ i → i < l.length → i < n → ∃ r, k_ref07_Run n b l i = some r ∧ r.length ≤ sz i ∧ ∀ y, y ∈ r ↔ RunOf b l i y := by
  intro n
  induction n with
  | zero => intro i h0 _ h2; omega
  | succ n ih =>
    intro i h0 h1 h2
    obtain ⟨a, ha⟩ := idx_ok h0 h1
    obtain ⟨hn, _, _, hsub⟩ := h.toFormA.at ha
    have h1z := hz.one i
    show ∃ r, F_ref07_Run (k_ref07_Run n) b l i = some r ∧ _
    unfold F_ref07_Run
    simp only [ha, Option.bind_some]
    have hone : ∀ (hno : ∀ r, 0 ≤ a.2.1 → idx b.2.1 a.2.1 = some r → r.2.1 = false) y, y ∈ [a.2.2.2] ↔ RunOf b l i y := fun hno y => by
      rw [List.mem_singleton]
      constructor
      · rintro rfl; exact .here ha
      · intro hr
        cases hr with
        | here h1 => rw [ha] at h1; cases h1; rfl
        | step h1 h2 h3 h4 _ _ => rw [ha] at h1; cases h1; rw [hno _ h2 h3] at h4; cases h4
    by_cases hr : 0 ≤ a.2.1
    · obtain ⟨r, hr2⟩ := (h.prem ha).2.1 ((h.prem ha).2.2.1 hr)
      simp only [hr, decide_true, if_true, hr2, Option.bind_some]
      cases hs : r.2.1 with
      | false =>
        exact ⟨_, rfl, by simpa using h1z, hone fun r' _ h3 => by rw [hr2] at h3; cases h3; exact hs⟩
      | true =>
        simp only [if_true]
        have hst := hz.step i a r ha hr hr2 hs
        have hbig := hz.big i h0 h1
        refine (loop_forI (B := m_ref07_Run_L1 l i (k_ref07_Run n) b) (fun q (s : List T_Literal) => (s, (q : Int))) a.2.2.1 (fun q s => s.length ≤ 1 + ((a.2.2.1.take q).map sz).sum ∧ ∀ y, y ∈ s ↔ y = a.2.2.2 ∨ ∃ k ∈ a.2.2.1.take q, RunOf b l k y)
          (fun r => r.length ≤ sz i ∧ ∀ y, y ∈ r ↔ RunOf b l i y) (fun q k s hk hI => ?_) (fun s hI => ?_) [a.2.2.2] (by simp))
        · obtain ⟨g1, g2⟩ := hI
          have hks := hsub k (mem_at hk)
          obtain ⟨r1, e1, e2, e3⟩ := ih k hks.1 (by omega) (by omega)
          have hq := sum_take_le sz a.2.2.1 (q + 1)
          rw [take_suc hk, List.map_append, List.sum_append] at hq
          simp only [List.map_cons, List.map_nil, List.sum_cons, List.sum_nil] at hq
          refine .inl ⟨s ++ r1, ?_, ?_, fun y => ?_⟩
          · unfold m_ref07_Run_L1
            simp only [ha, Option.bind_some, at_dec hk, if_true, at_idx hk, e1]
            rw [app_ok (by omega)]
            simp only [Option.bind_some, at_suc hk (show a.2.2.1.length < 4294967296 by omega)]
          · rw [take_suc hk, List.map_append, List.sum_append, List.length_append]
            simp only [List.map_cons, List.map_nil, List.sum_cons, List.sum_nil]
            omega
          · rw [List.mem_append, g2, e3, take_suc hk]
            simp only [List.mem_append, List.mem_singleton, or_and_right, exists_or, exists_eq_left, or_assoc]
        · obtain ⟨g1, g2⟩ := hI
          rw [List.take_length] at g1 g2
          refine ⟨s, by unfold m_ref07_Run_L1; simp only [ha, Option.bind_some, end_dec, Bool.false_eq_true, if_false], by omega, fun y => ?_⟩
          rw [g2]
          constructor
          · rintro (rfl | ⟨k, h1, h2⟩)
            · exact .here ha
            · exact .step ha hr hr2 hs h1 h2
          · intro hrun
            cases hrun with
            | here h1 => rw [ha] at h1; cases h1; exact .inl rfl
            | step h1 _ _ _ h5 h6 => rw [ha] at h1; cases h1; exact .inr ⟨_, h5, h6⟩
    · simp only [hr, decide_false, Bool.false_eq_true, if_false, Option.bind_some]
      exact ⟨_, rfl, by simpa using h1z, hone fun r' h2 _ => absurd h2 hr⟩
theorem k_ref_Run_eq {n n' : Nat} (b : T_Base) (l : List T_Argument) : n ≤ n' → ∀ i r, k_ref07_Run n b l i = some r → k_ref07_Run n' b l i = some r := by
  intro hn i r h
  have key : ∀ n n', n ≤ n' → ∀ i r, k_ref07_Run n b l i = some r → k_ref07_Run n' b l i = some r := by
    intro n
    induction n with
    | zero => intro n' _ i r h; cases h
    | succ n ih =>
      intro n' hn i r h
      obtain ⟨n', rfl⟩ : ∃ q, n' = q + 1 := ⟨n' - 1, by omega⟩
      have hle : Le (F_ref07_Run (k_ref07_Run n) b l i) (F_ref07_Run (k_ref07_Run n') b l i) := by
        have hrec : ∀ x, Le (k_ref07_Run n b l x) (k_ref07_Run n' b l x) := fun x => ⟨fun r hr => ih n' (by omega) x r hr⟩
        unfold F_ref07_Run
        refine Le.bind (Le.refl _) fun x1 => Le.bind (Le.refl _) fun s1 => ?_
        refine Le.ite ?_ (Le.refl _)
        refine ⟨fun r hr => ?_⟩
        obtain ⟨q, hq⟩ := iter_of_loop hr
        refine (Le.lp (B := m_ref07_Run_L1 l i (k_ref07_Run n) b) (fun s => ?_) q _).el r hq
        unfold m_ref07_Run_L1
        refine Le.bind (Le.refl _) fun x5 => ?_
        refine Le.ite ?_ (Le.refl _)
        refine Le.bind (Le.refl _) fun x6 => Le.bind (Le.refl _) fun x7 => Le.bind (hrec _) fun r1 => Le.refl _
      exact hle.el r h
  exact key n n' hn i r h
theorem ref_Run {sz : Int → Nat} (h : FormB b l) (hz : RunSz b l sz) {i : Int} (h0 : 0 ≤ i) (h1 : i < l.length) : ∃ r, m_ref07_Run b l i = some r ∧ r.length < 4294967296 ∧ ∀ y, y ∈ r ↔ RunOf b l i y := by
  obtain ⟨r, e1, e2, e3⟩ := ref_Run_k h hz (i.toNat + 1) i h0 h1 (by omega)
  have := hz.big i h0 h1
  exact ⟨r, limM_of (i.toNat + 1) fun m hm => k_ref_Run_eq b l hm i r e1, by omega, e3⟩
theorem arg_run_same (b : T_Base) (l : List T_Argument) (_h : FormB b l) : ∀ (n : Nat) (i : Int), k_argument_run n b l i = k_ref07_Run n b l i := by
  intro n
  induction n with
  | zero => intro i; rfl
  | succ n ih =>
    intro i
    have hrec : k_argument_run n = k_argument_run n := rfl
    show F_argument_run (k_argument_run n) b l i = F_ref07_Run (k_ref07_Run n) b l i
    unfold F_argument_run F_ref07_Run
    cases ha : idx l i with
    | none => rfl
    | some a =>
      simp only [Option.bind_some]
      congr 1
      funext s1
      split
      · congr 1
        funext s
        unfold m_argument_run_L1 m_ref07_Run_L1
        simp only [ha, Option.bind_some, ih]
      · rfl
theorem arg_run (h : FormB b l) (i : Int) : m_argument_run b l i = m_ref07_Run b l i := by
  unfold m_argument_run m_ref07_Run
  congr 1
  funext k
  exact arg_run_same b l h k i
theorem runsB {sz : Int → Nat} (h : FormB b l) (hz : RunSz b l sz) : RunsB b l :=
  ⟨fun _ h0 h1 => ref_Run h hz h0 h1⟩
theorem runsA {sz : Int → Nat} (h : FormB b l) (hz : RunSz b l sz) : RunsA b l :=
  ⟨fun _ h0 h1 => by rw [arg_run h]; exact ref_Run h hz h0 h1⟩
open Classical in
noncomputable def cutB (b : T_Base) (l : List T_Argument) (q : Int) (r : T_Rule) (k : Int) : Bool := if r.2.1 then decide (RunOf b l k r.2.2.2.2) else decide (q ∈ defsS b l k)
noncomputable def withinS (b : T_Base) (l : List T_Argument) (q : Int) (r : T_Rule) (subs : List Int) : Bool := !subs.any (cutB b l q r)
theorem within_app (h : FormC b l) (h' : FormC b (l ++ m)) {q : Int} {r : T_Rule} {subs : List Int} (hs : ∀ k ∈ subs, 0 ≤ k ∧ k < l.length) : withinS b (l ++ m) q r subs = withinS b l q r subs := by
  unfold withinS
  congr 1
  rw [Bool.eq_iff_iff, List.any_eq_true, List.any_eq_true]
  refine exists_congr fun k => and_congr_right fun hk => ?_
  have := hs k hk
  unfold cutB
  rw [defs_app h h' this.1 this.2]
  split
  · simp only [decide_eq_true_eq]; exact run_app h.toFormA this.1 this.2
  · exact Iff.rfl
theorem ref_in (m : List Int) (x : Int) (hb : m.length < 4294967296) : m_ref07_in m x = some (decide (x ∈ m)) := by
  have h := loop_any (B := m_ref07_in_L1 m x) m (fun y => y == x) (fun i y hy => by
    unfold m_ref07_in_L1
    simp only [at_dec hy, if_true, at_idx hy, Option.bind_some, at_suc hy hb]
    split <;> rfl) (by unfold m_ref07_in_L1; simp only [end_dec, Bool.false_eq_true, if_false])
  refine h.trans ?_
  congr 1
  rw [Bool.eq_iff_iff]
  simp
theorem ref_Within (h : FormC b l) (hr : RunsB b l) {q : Int} {r : T_Rule} {subs : List Int} (hq : idx b.2.1 q = some r) (hs : ∀ k ∈ subs, 0 ≤ k ∧ k < l.length) (hn : subs.length < 4294967296) : m_ref07_Within b l q subs = some (withinS b l q r subs) := by
  have hl := h.len
  unfold m_ref07_Within
  simp only [hq, Option.bind_some]
  have hL := loop_find (B := m_ref07_Within_L1 subs r b l q) subs (cutB b l q r) false true (fun i k hk => ?_) (by unfold m_ref07_Within_L1; simp only [end_dec, Bool.false_eq_true, if_false])
  · rw [hL]
    unfold withinS
    cases subs.any (cutB b l q r) <;> rfl
  · have hks := hs k (mem_at hk)
    unfold m_ref07_Within_L1
    simp only [at_dec hk, if_true, at_idx hk, Option.bind_some, at_suc hk hn]
    unfold cutB
    cases hst : r.2.1 with
    | true =>
      obtain ⟨ru, e1, e2, e3⟩ := hr.ref k hks.1 hks.2
      simp only [if_true, e1, Option.bind_some, ref_has r.2.2.2.2 (show ru.length < 9223372036854775807 by omega), Bool.not_true, Bool.false_eq_true, if_false]
      by_cases hm : RunOf b l k r.2.2.2.2
      · simp [(e3 _).2 hm, hm]
      · have : ¬ r.2.2.2.2 ∈ ru := fun hc => hm ((e3 _).1 hc)
        simp [this, hm]
    | false =>
      have hd := defsS_len b l k
      simp only [Bool.false_eq_true, if_false, Bool.not_false, if_true, ref_Defeasible h.toFormB hks.1 hks.2, Option.bind_some, ref_in (defsS b l k) q (by omega)]
      by_cases hm : q ∈ defsS b l k <;> simp [hm]
theorem arg_within (h : FormC b l) (hr : RunsA b l) {q : Int} {r : T_Rule} {subs : List Int} (hq : idx b.2.1 q = some r) (hs : ∀ k ∈ subs, 0 ≤ k ∧ k < l.length) (hn : subs.length < 4294967296) : m_argument_within b l q subs = some (withinS b l q r subs) := by
  have hl := h.len
  unfold m_argument_within
  have hL := loop_find (B := m_argument_within_L1 subs b q l) subs (cutB b l q r) false true (fun i k hk => ?_) (by unfold m_argument_within_L1; simp only [end_dec, Bool.false_eq_true, if_false])
  · rw [hL]
    unfold withinS
    cases subs.any (cutB b l q r) <;> rfl
  · have hks := hs k (mem_at hk)
    unfold m_argument_within_L1
    simp only [at_dec hk, if_true, at_idx hk, Option.bind_some, at_suc hk hn, hq]
    unfold cutB
    cases hst : r.2.1 with
    | true =>
      obtain ⟨ru, e1, e2, e3⟩ := hr.arg k hks.1 hks.2
      simp only [if_true, e1, Option.bind_some, lit_has r.2.2.2.2 (show ru.length < 9223372036854775807 by omega)]
      by_cases hm : RunOf b l k r.2.2.2.2
      · simp [(e3 _).2 hm, hm]
      · have : ¬ r.2.2.2.2 ∈ ru := fun hc => hm ((e3 _).1 hc)
        simp [this, hm]
    | false =>
      have hd := defsS_len b l k
      simp only [Bool.false_eq_true, if_false, arg_Defeasible h.toFormB hks.1 hks.2, Option.bind_some, contains_int (defsS b l k) q (by omega)]
      by_cases hm : q ∈ defsS b l k <;> simp [hm]
/-- all ways to go on with the literals ys, in the order of the indices -/
def chS (l : List T_Argument) (n : Nat) : List T_Literal → List Int → List (List Int)
  | [], sofar => [sofar]
  | y :: ys, sofar => (rng n).flatMap fun i => match idx l i with
    | some a => if a.2.2.2 == y then chS l n ys (sofar ++ [i]) else []
    | none => []
theorem chS_len (l : List T_Argument) (n : Nat) : ∀ (ys : List T_Literal) (sofar : List Int), (chS l n ys sofar).length ≤ n ^ ys.length
  | [], sofar => by simp [chS]
  | y :: ys, sofar => by
    have := flat_le (fun i => match idx l i with | some a => if a.2.2.2 == y then chS l n ys (sofar ++ [i]) else [] | none => []) (n ^ ys.length) (rng n) (fun i _ => by
      split
      · split
        · exact chS_len l n ys _
        · simp
      · simp)
    rw [rng_len] at this
    simp only [chS, List.length_cons, Nat.pow_succ]
    rw [Nat.mul_comm]; exact this
theorem chS_mem (l : List T_Argument) (n : Nat) : ∀ (ys : List T_Literal) (sofar s : List Int), s ∈ chS l n ys sofar ↔ ∃ t, s = sofar ++ t ∧ t.length = ys.length ∧ ∀ (j : Nat) k y, t[j]? = some k → ys[j]? = some y → 0 ≤ k ∧ k < n ∧ ∃ a, idx l k = some a ∧ a.2.2.2 = y
  | [], sofar, s => by
    simp only [chS, List.mem_singleton]
    constructor
    · rintro rfl; exact ⟨[], by simp, rfl, fun j k y h _ => by simp at h⟩
    · rintro ⟨t, rfl, h2, _⟩; have := List.eq_nil_of_length_eq_zero h2; subst this; simp
  | y :: ys, sofar, s => by
    simp only [chS, List.mem_flatMap, rng_mem]
    constructor
    · rintro ⟨i, hi, hs⟩
      split at hs
      · rename_i a ha
        split at hs
        · rename_i hc
          obtain ⟨t, h1, h2, h3⟩ := (chS_mem l n ys _ s).1 hs
          refine ⟨i :: t, by rw [h1]; simp, by simp [h2], fun j k z hk hz => ?_⟩
          cases j with
          | zero =>
            simp at hk hz
            subst hk hz
            exact ⟨hi.1, hi.2, a, ha, by simpa using hc⟩
          | succ j => exact h3 j k z (by simpa using hk) (by simpa using hz)
        · cases hs
      · cases hs
    · rintro ⟨t, h1, h2, h3⟩
      cases t with
      | nil => simp at h2
      | cons i t =>
        obtain ⟨i0, i1, a, ha, hay⟩ := h3 0 i y rfl rfl
        refine ⟨i, ⟨i0, i1⟩, ?_⟩
        simp only [ha]
        rw [if_pos (by simp [hay])]
        exact (chS_mem l n ys _ s).2 ⟨t, by rw [h1]; simp, by simpa using h2, fun j k z hk hz => h3 (j + 1) k z (by simpa using hk) (by simpa using hz)⟩
theorem ref_choices_k {k : Nat} (hl : l.length ≤ 100) {n : Nat} (hn : n ≤ l.length) (body : List T_Literal) (hb : body.length ≤ 4) : ∀ (ys : List T_Literal) (sofar : List Int), ys = body.drop sofar.length → sofar.length ≤ body.length → ys.length < k → k_ref07_choices_2 k l (n : Int) body sofar = some (chS l n ys sofar) := by
  induction k with
  | zero => intro ys _ _ _ h; omega
  | succ k ih =>
    intro ys sofar hys hle hk
    show F_ref07_choices_2 (k_ref07_choices_2 k) l n body sofar = _
    unfold F_ref07_choices_2
    have hyl : ys.length = body.length - sofar.length := by rw [hys, List.length_drop]
    cases ys with
    | nil =>
      have : (len sofar == len body) = true := by simp [len] at hyl ⊢; omega
      simp only [this, if_true]
      rw [app_ok (by simp; omega)]
      rfl
    | cons y ys =>
      have hlt : sofar.length < body.length := by simp at hyl; omega
      have : (len sofar == len body) = false := by rw [beq_eq_false_iff_ne]; simp [len]; omega
      simp only [this, Bool.false_eq_true, if_false]
      have hy : body[sofar.length]? = some y := by
        have := congrArg (·[0]?) hys
        simp only [List.getElem?_cons_zero, List.getElem?_drop, Nat.add_zero] at this
        exact this.symm
      have hys2 : ys = body.drop (sofar.length + 1) := by
        have := congrArg List.tail hys
        simpa [List.tail_drop] using this
      have hpow : n ^ ys.length ≤ 1000000 := by
        have h1 : ys.length ≤ 3 := by simp at hyl; omega
        calc n ^ ys.length ≤ 100 ^ ys.length := Nat.pow_le_pow_left (by omega) _
          _ ≤ 100 ^ 3 := Nat.pow_le_pow_right (by omega) h1
      refine (loop_flat (B := m_ref07_choices_2_L1 n l body sofar (k_ref07_choices_2 k)) (rng n) (fun i => match idx l i with | some a => if a.2.2.2 == y then chS l n ys (sofar ++ [i]) else [] | none => []) (fun s => s) 1000000 (fun i _ => by
        split
        · split
          · exact Nat.le_trans (chS_len l n ys _) hpow
          · simp
        · simp) [] (fun q i s hi hs => ?_) (fun s => ?_))
      · obtain ⟨rfl, hq⟩ := rng_at hi
        obtain ⟨a, ha⟩ := idx_ok (l := l) (show (0 : Int) ≤ q by omega) (by omega)
        have hd : decide ((q : Int) < (n : Int)) = true := by simp; omega
        have hw : w64 ((q : Int) + 1) = ((q + 1 : Nat) : Int) := w64_succ q (by omega)
        unfold m_ref07_choices_2_L1
        simp only [hd, if_true, ha, Option.bind_some, show idx body (len sofar) = some y from by rw [show len sofar = ((sofar.length : Nat) : Int) from rfl, idx_nat]; exact hy]
        cases hc : a.2.2.2 == y with
        | false => simp only [Bool.false_eq_true, if_false, List.append_nil, hw]
        | true =>
          simp only [if_true]
          rw [sub_pre (by simp [len]) (by simp [len])]
          simp only [Option.bind_some, len, Int.toNat_natCast, List.take_length]
          rw [app_ok (by simp; omega)]
          simp only [Option.bind_some]
          have hcl := Nat.le_trans (chS_len l n ys (sofar ++ [(q : Int)])) hpow
          rw [ih ys (sofar ++ [(q : Int)]) (by simpa using hys2) (by simp; omega) (by simp at hk; omega)]
          simp only [Option.bind_some]
          simp only [List.length_nil] at hs
          rw [app_ok (by omega)]
          simp only [Option.bind_some, hw]
      · unfold m_ref07_choices_2_L1
        have hd : decide (((rng n).length : Int) < (n : Int)) = false := by rw [rng_len]; simp
        simp only [hd, Bool.false_eq_true, if_false]
theorem ref_choices (hl : l.length ≤ 100) {n : Nat} (hn : n ≤ l.length) (body : List T_Literal) (hb : body.length ≤ 4) : m_ref07_choices_2 l (n : Int) body [] = some (chS l n body []) :=
  limM_of 5 fun k hk => ref_choices_k hl hn body hb body [] (by simp) (by simp) (by omega)
theorem chS_app {n : Nat} (hn : n ≤ l.length) : ∀ (ys : List T_Literal) (sofar : List Int), chS (l ++ m) n ys sofar = chS l n ys sofar
  | [], _ => rfl
  | y :: ys, sofar => by
    simp only [chS]
    have key : ∀ is : List Int, (∀ i ∈ is, 0 ≤ i ∧ i < n) → is.flatMap (fun i => match idx (l ++ m) i with | some a => if a.2.2.2 == y then chS (l ++ m) n ys (sofar ++ [i]) else [] | none => []) = is.flatMap (fun i => match idx l i with | some a => if a.2.2.2 == y then chS l n ys (sofar ++ [i]) else [] | none => []) := by
      intro is
      induction is with
      | nil => intro _; rfl
      | cons i is ih =>
        intro h
        have h1 := h i List.mem_cons_self
        rw [List.flatMap_cons, List.flatMap_cons, ih fun j hj => h j (List.mem_cons_of_mem _ hj), idx_app_lt (by omega)]
        congr 1
        split
        · split
          · exact chS_app hn ys _
          · rfl
        · rfl
    exact key _ fun i hi => rng_mem.1 hi
theorem recent_ref (subs : List Int) (f : Int) (h : subs.length < 4294967296) : m_ref07_recent subs f = some (subs.any fun k => decide (f ≤ k)) :=
  loop_any (B := m_ref07_recent_L1 subs f) subs (fun k => decide (f ≤ k)) (fun i k hk => by
    unfold m_ref07_recent_L1
    simp only [at_dec hk, if_true, at_idx hk, Option.bind_some, at_suc hk h]
    split <;> rfl) (by unfold m_ref07_recent_L1; simp only [end_dec, Bool.false_eq_true, if_false])
end
section
variable {b : T_Base} {l m : List T_Argument}
structure FormD (b : T_Base) (l : List T_Argument) : Prop extends FormC b l where
  cut : ∀ (i : Nat) a r, l[i]? = some a → 0 ≤ a.2.1 → idx b.2.1 a.2.1 = some r → withinS b l a.2.1 r a.2.2.1 = true
/-- a valid rule base with literals of a small stock -/
structure Small (b : T_Base) (D : List T_Literal) (c : Nat) : Prop where
  valid : ValidB b
  rule : ∀ r ∈ b.2.1, r.2.2.2.2 ∈ D ∧ r.2.2.2.1.length ≤ c
  sz : (c + 1) ^ D.length < 4294967296
theorem ruleE_len {r : T_Rule} (h : ruleE r = 0) : r.2.2.2.1.length ≤ 4 := by
  unfold ruleE at h
  split at h
  · cases h
  · omega
theorem Small.body {D : List T_Literal} {c : Nat} (h : Small b D c) {q : Int} {r : T_Rule} (hq : idx b.2.1 q = some r) : r.2.2.2.1.length ≤ 4 := by
  obtain ⟨n, rfl, hn⟩ := idx_at hq
  exact ruleE_len (h.valid.rule r (mem_at hn))
theorem FormC.ruI (h : FormC b l) {i : Int} {a : T_Argument} (ha : idx l i = some a) {r : T_Rule} (h0 : 0 ≤ a.2.1) (hr : idx b.2.1 a.2.1 = some r) : a.2.2.2 = r.2.2.2.2 ∧ a.2.2.1.length = r.2.2.2.1.length ∧ ∀ (j : Nat) k y, a.2.2.1[j]? = some k → r.2.2.2.1[j]? = some y → ∃ a', idx l k = some a' ∧ a'.2.2.2 = y := by
  obtain ⟨n, rfl, hn⟩ := idx_at ha
  exact h.ru n a r hn h0 hr
theorem FormD.cutI (h : FormD b l) {i : Int} {a : T_Argument} (ha : idx l i = some a) {r : T_Rule} (h0 : 0 ≤ a.2.1) (hr : idx b.2.1 a.2.1 = some r) : withinS b l a.2.1 r a.2.2.1 = true := by
  obtain ⟨n, rfl, hn⟩ := idx_at ha
  exact h.cut n a r hn h0 hr
theorem count_lt {α : Type} {p q : α → Bool} : ∀ (D : List α), (∀ x, p x = true → q x = true) → ∀ x ∈ D, q x = true → p x = false → (D.filter p).length < (D.filter q).length
  | [], _, x, hx, _, _ => by cases hx
  | d :: D, h, x, hx, h1, h2 => by
    have hle : (D.filter p).length ≤ (D.filter q).length := by
      rw [← List.countP_eq_length_filter, ← List.countP_eq_length_filter]
      exact List.countP_mono_left fun y _ => h y
    rcases List.mem_cons.1 hx with rfl | hx
    · rw [List.filter_cons_of_neg (by simp [h2]), List.filter_cons_of_pos h1, List.length_cons]
      omega
    · have ih := count_lt D h x hx h1 h2
      rw [List.filter_cons, List.filter_cons]
      cases hp : p d with
      | true => simp [h d hp]; omega
      | false => cases hq : q d <;> simp <;> omega
theorem sum_bound (f : Int → Nat) (c : Nat) : ∀ (l : List Int), (∀ k ∈ l, f k ≤ c) → (l.map f).sum ≤ l.length * c
  | [], _ => by simp
  | k :: l, h => by
    have h1 := h k List.mem_cons_self
    have h2 := sum_bound f c l fun j hj => h j (List.mem_cons_of_mem _ hj)
    simp only [List.map_cons, List.sum_cons, List.length_cons, Nat.add_mul, Nat.one_mul]
    omega
open Classical in
noncomputable def runN (b : T_Base) (l : List T_Argument) (D : List T_Literal) (i : Int) : Nat := (D.filter fun y => decide (RunOf b l i y)).length
open Classical in
theorem runSz {D : List T_Literal} {c : Nat} (hs : Small b D c) (h : FormD b l) : RunSz b l fun i => (c + 1) ^ runN b l D i := by
  refine ⟨fun i => Nat.pow_pos (by omega), fun i _ _ => ?_, fun i a r ha h0 hr hst => ?_⟩
  · refine Nat.lt_of_le_of_lt (Nat.pow_le_pow_right (by omega) ?_) hs.sz
    exact List.length_filter_le _ _
  · have hcut := h.cutI ha h0 hr
    obtain ⟨g1, g2, _⟩ := h.toFormC.ruI ha h0 hr
    obtain ⟨n, hn1, hn2⟩ := idx_at hr
    obtain ⟨hD, hc⟩ := hs.rule r (mem_at hn2)
    have hlt : ∀ k ∈ a.2.2.1, runN b l D k < runN b l D i := fun k hk => by
      refine count_lt D (fun y hy => ?_) r.2.2.2.2 hD ?_ ?_
      · exact decide_eq_true (RunOf.step ha h0 hr hst hk (of_decide_eq_true hy))
      · exact decide_eq_true (by have := RunOf.here (b := b) ha; rwa [g1] at this)
      · unfold withinS at hcut
        have hc2 : (a.2.2.1.any (cutB b l a.2.1 r)) = false := by simpa using hcut
        have := List.any_eq_false.1 hc2 k hk
        simpa [cutB, hst] using this
    cases hv : a.2.2.1 with
    | nil =>
      have := Nat.pow_pos (n := runN b l D i) (show 0 < c + 1 by omega)
      simp only [List.map_nil, List.sum_nil]
      omega
    | cons k ks =>
      rw [← hv]
      have hpos : 0 < runN b l D i := by have := hlt k (by rw [hv]; exact List.mem_cons_self); omega
      obtain ⟨u, hu⟩ : ∃ u, runN b l D i = u + 1 := ⟨runN b l D i - 1, by omega⟩
      have hsum := sum_bound (fun k => (c + 1) ^ runN b l D k) ((c + 1) ^ u) a.2.2.1 fun k hk => Nat.pow_le_pow_right (by omega) (by have := hlt k hk; omega)
      have h3 : a.2.2.1.length * (c + 1) ^ u ≤ c * (c + 1) ^ u := Nat.mul_le_mul_right _ (by rw [g2]; exact hc)
      have h4 : 0 < (c + 1) ^ u := Nat.pow_pos (by omega)
      rw [hu, Nat.pow_succ, Nat.mul_add, Nat.mul_one, Nat.mul_comm ((c + 1) ^ u) c]
      omega
theorem FormD.runs {D : List T_Literal} {c : Nat} (h : FormD b l) (hs : Small b D c) : RunsB b l := runsB h.toFormB (runSz hs h)
theorem FormD.app (h : FormD b l) (hm : ∀ a ∈ m, Good b l a ∧ ∀ r, idx b.2.1 a.2.1 = some r → withinS b l a.2.1 r a.2.2.1 = true) (hl : l.length + m.length ≤ 41) : FormD b (l ++ m) := by
  have h' := h.toFormC.app (fun a ha => (hm a ha).1) hl
  refine ⟨h', fun i a r ha h0 hr => ?_⟩
  by_cases hi : i < l.length
  · rw [List.getElem?_append_left hi] at ha
    rw [within_app h.toFormC h' fun k hk => by have := h.sub i a ha k hk; omega]
    exact h.cut i a r ha h0 hr
  · rw [List.getElem?_append_right (by omega)] at ha
    obtain ⟨g1, g2⟩ := hm a (mem_at ha)
    rw [within_app h.toFormC h' g1.sub]
    exact g2 r hr
def freshB (f : Int) (first : Bool) (s : List Int) : Bool := s.any (fun k => decide (f ≤ k)) || (first && s.isEmpty)
noncomputable def roundR (b : T_Base) (l : List T_Argument) (f : Int) (first : Bool) (q : Int) : List T_Argument :=
  match idx b.2.1 q with
  | some r => ((chS l l.length r.2.2.2.1 []).filter fun s => freshB f first s && withinS b l q r s).map fun s => (-1, q, s, r.2.2.2.2)
  | none => []
noncomputable def roundS (b : T_Base) (l : List T_Argument) (f : Int) (first : Bool) : List T_Argument := (rng b.2.1.length).flatMap (roundR b l f first)
/-- the list at the end, or nothing beyond the limit -/
noncomputable def buildF (b : T_Base) : Nat → List T_Argument → Int → Bool → Option (List T_Argument)
  | 0, _, _, _ => none
  | k + 1, l, f, first =>
    if 40 < (l ++ roundS b l f first).length then none
    else if roundS b l f first = [] then some l
    else buildF b k (l ++ roundS b l f first) l.length false
def premA (b : T_Base) : List T_Argument := b.1.mapIdx fun i p => ((i : Int), -1, [], p.1)
theorem roundS_mem {f : Int} {first : Bool} {a : T_Argument} : a ∈ roundS b l f first ↔ a.1 = -1 ∧ ∃ r, idx b.2.1 a.2.1 = some r ∧ a.2.2.2 = r.2.2.2.2 ∧ freshB f first a.2.2.1 = true ∧ withinS b l a.2.1 r a.2.2.1 = true ∧ a.2.2.1.length = r.2.2.2.1.length ∧ ∀ (j : Nat) k y, a.2.2.1[j]? = some k → r.2.2.2.1[j]? = some y → ∃ a', idx l k = some a' ∧ a'.2.2.2 = y := by
  unfold roundS roundR
  simp only [List.mem_flatMap, rng_mem]
  constructor
  · rintro ⟨q, hq, ha⟩
    cases hr : idx b.2.1 q with
    | none => rw [hr] at ha; cases ha
    | some r =>
      rw [hr] at ha
      obtain ⟨s, hs, rfl⟩ := List.mem_map.1 ha
      obtain ⟨hs1, hs2⟩ := List.mem_filter.1 hs
      rw [Bool.and_eq_true] at hs2
      obtain ⟨t, rfl, ht1, ht2⟩ := (chS_mem l l.length r.2.2.2.1 [] s).1 hs1
      exact ⟨rfl, r, hr, rfl, hs2.1, hs2.2, ht1, fun j k y hk hy => (ht2 j k y hk hy).2.2⟩
  · rintro ⟨h1, r, hr, h2, h3, h4, h5, h6⟩
    refine ⟨a.2.1, by have := idx_lt hr; omega, ?_⟩
    rw [hr]
    refine List.mem_map.2 ⟨a.2.2.1, List.mem_filter.2 ⟨(chS_mem l l.length r.2.2.2.1 [] _).2 ⟨a.2.2.1, rfl, h5, fun j k y hk hy => ?_⟩, by rw [h3, h4]; rfl⟩, ?_⟩
    · obtain ⟨a', e1, e2⟩ := h6 j k y hk hy
      have := idx_lt e1
      exact ⟨this.1, this.2, a', e1, e2⟩
    · rw [← h1, ← h2]
theorem round_good {D : List T_Literal} {c : Nat} (hs : Small b D c) {f : Int} {first : Bool} : ∀ a ∈ roundS b l f first, Good b l a ∧ ∀ r, idx b.2.1 a.2.1 = some r → withinS b l a.2.1 r a.2.2.1 = true := fun a ha => by
  obtain ⟨h1, r, hr, h2, h3, h4, h5, h6⟩ := roundS_mem.1 ha
  refine ⟨⟨h1, r, hr, h2, h5, ?_, h6⟩, fun r' hr' => ?_⟩
  · have := hs.body hr; omega
  · rw [hr] at hr'; cases hr'; exact h4
theorem FormD.round {D : List T_Literal} {c : Nat} (h : FormD b l) (hs : Small b D c) {f : Int} {first : Bool} (hl : (l ++ roundS b l f first).length ≤ 41) : FormD b (l ++ roundS b l f first) :=
  h.app (round_good hs) (by rw [List.length_append] at hl; exact hl)
theorem premA_len (b : T_Base) : (premA b).length = b.1.length := by simp [premA]
theorem premA_at {i : Nat} {a : T_Argument} (h : (premA b)[i]? = some a) : ∃ p, b.1[i]? = some p ∧ a = ((i : Int), -1, [], p.1) := by
  unfold premA at h
  rw [List.getElem?_mapIdx] at h
  cases hp : b.1[i]? with
  | none => rw [hp] at h; cases h
  | some p => rw [hp] at h; exact ⟨p, rfl, by cases h; rfl⟩
theorem premA_form (h : ValidB b) : FormD b (premA b) := by
  have hl := premA_len b
  have hn := h.np
  have hr := h.nr
  refine ⟨⟨⟨⟨by omega, fun a ha => ?_, fun i a ha => ?_⟩, by omega, by omega, fun i a ha => ?_⟩, by omega, fun i a p ha h0 hp => ?_, fun i a r ha h0 hr => ?_⟩, fun i a r ha h0 hr => ?_⟩
  · obtain ⟨i, hi⟩ := List.mem_iff_getElem?.1 ha
    obtain ⟨p, _, rfl⟩ := premA_at hi
    simp
  · obtain ⟨p, _, rfl⟩ := premA_at ha
    intro k hk
    cases hk
  · obtain ⟨p, h1, rfl⟩ := premA_at ha
    exact .inl ⟨rfl, at_lt h1, rfl⟩
  · obtain ⟨p', h1, rfl⟩ := premA_at ha
    rw [idx_nat, h1] at hp
    cases hp
    exact ⟨rfl, rfl⟩
  · obtain ⟨p', h1, rfl⟩ := premA_at ha
    exact absurd h0 (by simp)
  · obtain ⟨p', h1, rfl⟩ := premA_at ha
    exact absurd h0 (by simp)
theorem buildF_form {D : List T_Literal} {c : Nat} (hs : Small b D c) : ∀ (k : Nat) (l : List T_Argument) (f : Int) (first : Bool) (x : List T_Argument), FormD b l → l.length ≤ 40 → buildF b k l f first = some x → FormD b x ∧ x.length ≤ 40
  | 0, _, _, _, _, _, _, h => by cases h
  | k + 1, l, f, first, x, h, hl, hx => by
    unfold buildF at hx
    split at hx
    · cases hx
    · rename_i hlim
      split at hx
      · cases hx
        exact ⟨h, hl⟩
      · exact buildF_form hs k _ _ _ x (h.round hs (by omega)) (by omega) hx
theorem loop_lim {α β σ ρ : Type} {B : σ → Option (σ ⊕ ρ)} (xs : List α) (h : α → List β) (st : List β → Int → σ) (e : ρ) (fin : List β → ρ) (N : Nat) (acc : List β) (h0 : acc.length ≤ N)
    (hB : ∀ (q : Nat) x n, xs[q]? = some x → n = (xs.take q).flatMap h → (acc ++ n).length ≤ N → B (st (acc ++ n) q) = some (if N < (acc ++ (n ++ h x)).length then .inr e else .inl (st (acc ++ (n ++ h x)) ((q + 1 : Nat) : Int))))
    (hE : (acc ++ xs.flatMap h).length ≤ N → B (st (acc ++ xs.flatMap h) (xs.length : Int)) = some (.inr (fin (acc ++ xs.flatMap h)))) :
    loop B (st acc 0) = some (if N < (acc ++ xs.flatMap h).length then e else fin (acc ++ xs.flatMap h)) := by
  have key : ∀ (n i : Nat), i + n = xs.length → (acc ++ (xs.take i).flatMap h).length ≤ N → loop B (st (acc ++ (xs.take i).flatMap h) (i : Int)) = some (if N < (acc ++ xs.flatMap h).length then e else fin (acc ++ xs.flatMap h)) := by
    intro n
    induction n with
    | zero =>
      intro i hi hn
      rw [Nat.add_zero] at hi
      subst hi
      rw [List.take_length] at hn ⊢
      rw [loop_eq, hE hn, if_neg (by omega)]
    | succ n ih =>
      intro i hi hn
      have hx : xs[i]? = some xs[i] := List.getElem?_eq_getElem (by omega)
      have ht : (xs.take (i + 1)).flatMap h = (xs.take i).flatMap h ++ h xs[i] := by rw [take_suc hx, List.flatMap_append, List.flatMap_singleton]
      rw [loop_eq, hB i _ _ hx rfl hn, ← ht]
      by_cases hN : N < (acc ++ (xs.take (i + 1)).flatMap h).length
      · rw [if_pos hN]
        have : (acc ++ (xs.take (i + 1)).flatMap h).length ≤ (acc ++ xs.flatMap h).length := by
          conv => rhs; rw [← List.take_append_drop (i + 1) xs, List.flatMap_append]
          simp only [List.length_append]
          omega
        rw [if_pos (by omega)]
      · rw [if_neg hN]
        exact ih (i + 1) (by omega) (by omega)
  have := key xs.length 0 (by omega) (by simpa using h0)
  simpa using this
end
section
variable {b : T_Base} {l : List T_Argument} {D : List T_Literal} {c : Nat}
/-- the answer of Build for what buildF says -/
def ansB : Option (List T_Argument) → List T_Argument × Int
  | some x => (x, 0)
  | none => ([], 2)
theorem ref_Build_L1 (h : ValidB b) : loop (m_ref07_Build_L1 b) (([] : List T_Argument), 0) = some (premA b) := by
  have hn := h.np
  have := loop_flat (B := m_ref07_Build_L1 b) (premA b) (fun a => [a]) (fun s => s) 1 (fun _ _ => by simp) [] (fun i a s hi hs => by
    obtain ⟨p, hp, rfl⟩ := premA_at hi
    have hlt := at_lt hp
    unfold m_ref07_Build_L1
    simp only [at_dec hp, if_true, at_idx hp, Option.bind_some]
    rw [app_ok (by simp at hs ⊢; omega)]
    simp only [Option.bind_some, at_suc hp (by omega)]) (fun s => by
    unfold m_ref07_Build_L1
    rw [premA_len]
    simp only [end_dec, Bool.false_eq_true, if_false])
  rw [this]
  simp
/-- one rule -/
theorem ref_Build_L4 (hs : Small b D c) (h : FormD b l) (hl : l.length ≤ 40) {f : Int} {r : Nat} {q : Nat} (hq : q < b.2.1.length) (n : List T_Argument) (hn : (l ++ n).length ≤ 40) (hf : FormD b (l ++ n))
    {ru : T_Rule} (hr : idx b.2.1 (q : Int) = some ru) :
    loop (m_ref07_Build_L4 (chS l l.length ru.2.2.2.1 []) (l, f, (r : Int)) b (l ++ n, (q : Int))) (l ++ n, 0) =
      some (if 40 < (l ++ (n ++ roundR b l f (decide (r ≤ 1)) q)).length then .inr (.inr (([] : List T_Argument), 2)) else .inl (l ++ (n ++ roundR b l f (decide (r ≤ 1)) q), ((q + 1 : Nat) : Int))) := by
  have hb := hs.body hr
  have hcl : (chS l l.length ru.2.2.2.1 []).length < 4294967296 := by
    have h1 := chS_len l l.length ru.2.2.2.1 []
    have h2 : l.length ^ ru.2.2.2.1.length ≤ 100 ^ 4 := Nat.le_trans (Nat.pow_le_pow_left (by omega) _) (Nat.pow_le_pow_right (by omega) hb)
    have h3 : (100 : Nat) ^ 4 = 100000000 := rfl
    omega
  have hnr := hs.valid.nr
  have key := loop_lim (B := m_ref07_Build_L4 (chS l l.length ru.2.2.2.1 []) (l, f, (r : Int)) b (l ++ n, (q : Int))) (chS l l.length ru.2.2.2.1 [])
    (fun s => if freshB f (decide (r ≤ 1)) s && withinS b l q ru s then [((-1 : Int), (q : Int), s, ru.2.2.2.2)] else []) (fun s i => (s, i))
    (.inr (.inr (([] : List T_Argument), 2))) (fun s => .inl (s, ((q + 1 : Nat) : Int))) 40 (l ++ n) hn (fun i s acc hi hacc hlen => ?_) (fun _ => ?_)
  · rw [key]
    have : (chS l l.length ru.2.2.2.1 []).flatMap (fun s => if freshB f (decide (r ≤ 1)) s && withinS b l q ru s then [((-1 : Int), (q : Int), s, ru.2.2.2.2)] else []) = roundR b l f (decide (r ≤ 1)) q := by
      unfold roundR
      rw [hr]
      rw [← flat_filter]
      rw [← List.map_eq_flatMap]
    rw [this, List.append_assoc]
  · have hs1 := (chS_mem l l.length ru.2.2.2.1 [] s).1 (mem_at hi)
    obtain ⟨t, ht, htl, htm⟩ := hs1
    rw [List.nil_append] at ht
    subst ht
    have hsub : ∀ k ∈ s, 0 ≤ k ∧ k < l.length := fun k hk => by
      obtain ⟨j, hj⟩ := List.mem_iff_getElem?.1 hk
      have := at_lt hj
      have := htm j k _ hj (List.getElem?_eq_getElem (by omega))
      omega
    -- the list of now is a form
    have hnow : FormD b (l ++ n ++ acc) := by
      refine hf.app (fun a ha => ?_) (by rw [List.length_append] at hlen; omega)
      rw [hacc] at ha
      obtain ⟨s', hs', ha⟩ := List.mem_flatMap.1 ha
      split at ha
      · rename_i hc
        rw [Bool.and_eq_true] at hc
        simp only [List.mem_singleton] at ha
        subst ha
        obtain ⟨t, ht, htl, htm⟩ := (chS_mem l l.length ru.2.2.2.1 [] s').1 (List.mem_of_mem_take hs')
        rw [List.nil_append] at ht
        subst ht
        have hg : Good b l ((-1 : Int), (q : Int), s', ru.2.2.2.2) := ⟨rfl, ru, hr, rfl, htl, by simp only; omega, fun j k y hk hy => (htm j k y hk hy).2.2⟩
        refine ⟨hg.more, fun r' hr' => ?_⟩
        rw [hr] at hr'
        cases hr'
        rw [within_app h.toFormC hf.toFormC hg.sub]
        exact hc.2
      · cases ha
    have hw : m_ref07_Within b (l ++ n ++ acc) q s = some (withinS b l q ru s) := by
      rw [ref_Within hnow.toFormC (hnow.runs hs) hr (fun k hk => by have := hsub k hk; simp only [List.length_append]; omega) (by omega)]
      rw [List.append_assoc, within_app h.toFormC (by rw [← List.append_assoc]; exact hnow.toFormC) hsub]
    unfold m_ref07_Build_L4
    simp only [at_dec hi, if_true, at_idx hi, Option.bind_some, at_suc hi hcl]
    rw [recent_ref s f (by omega)]
    simp only [Option.bind_some, hw, hr]
    have hdec : (if (!s.any fun k => decide (f ≤ k)) = true then (if decide (1 < (r : Int)) = true then some true else if decide (0 < len s) = true then some true else some (!withinS b l q ru s)) else some (!withinS b l q ru s)) = some (!(freshB f (decide (r ≤ 1)) s && withinS b l q ru s)) := by
      unfold freshB
      cases ha : s.any fun k => decide (f ≤ k) with
      | true => simp
      | false =>
        by_cases h1 : r ≤ 1
        · have : ¬ (1 < (r : Int)) := by omega
          cases s with
          | nil => simp [this, h1, len]
          | cons k s => simp [this, h1, len]
        · have : 1 < (r : Int) := by omega
          simp [this, h1]
    rw [hdec]
    simp only [Option.bind_some]
    cases hc : freshB f (decide (r ≤ 1)) s && withinS b l q ru s with
    | false =>
      simp only [Bool.not_false, if_true, Bool.false_eq_true, if_false, List.append_nil]
      rw [if_neg (by omega)]
    | true =>
      simp only [Bool.not_true, Bool.false_eq_true, if_false, if_true]
      rw [app_ok (by simp only [List.length_singleton]; omega)]
      simp only [Option.bind_some, List.append_assoc, len]
      by_cases h40 : 40 < (l ++ (n ++ (acc ++ [((-1 : Int), (q : Int), s, ru.2.2.2.2)]))).length
      · rw [if_pos (by simpa using (by omega : (40 : Int) < ((l ++ (n ++ (acc ++ [((-1 : Int), (q : Int), s, ru.2.2.2.2)]))).length : Int))), if_pos h40]
      · rw [if_neg (by simpa using (by omega : ¬ (40 : Int) < ((l ++ (n ++ (acc ++ [((-1 : Int), (q : Int), s, ru.2.2.2.2)]))).length : Int))), if_neg h40]
  · unfold m_ref07_Build_L4
    simp only [end_dec, Bool.false_eq_true, if_false, w64_succ q (by omega)]
/-- one round -/
theorem ref_Build_L3 (hs : Small b D c) (h : FormD b l) (hl : l.length ≤ 40) {f : Int} {r : Nat} (hr : r < 1000) :
    loop (m_ref07_Build_L3 b (l, f, (r : Int))) (l, 0) =
      some (if 40 < (l ++ roundS b l f (decide (r ≤ 1))).length then .inr (([] : List T_Argument), 2) else .inl (l ++ roundS b l f (decide (r ≤ 1)), (l.length : Int), ((r + 1 : Nat) : Int))) := by
  have hnr := hs.valid.nr
  refine loop_lim (B := m_ref07_Build_L3 b (l, f, (r : Int))) (rng b.2.1.length) (roundR b l f (decide (r ≤ 1))) (fun s i => (s, i)) (.inr (([] : List T_Argument), 2)) (fun s => .inl (s, (l.length : Int), ((r + 1 : Nat) : Int))) 40 l hl (fun q x n hq hn hlen => ?_) (fun _ => ?_)
  · obtain ⟨rfl, hqn⟩ := rng_at hq
    obtain ⟨ru, hru⟩ := idx_ok (l := b.2.1) (j := (q : Int)) (by omega) (by omega)
    have hd : decide ((q : Int) < len b.2.1) = true := by simp [len]; omega
    have hf : FormD b (l ++ n) := by
      refine h.app (fun a ha => round_good hs a ?_ (f := f) (first := decide (r ≤ 1))) (by rw [List.length_append] at hlen; omega)
      rw [hn] at ha
      obtain ⟨q', hq', ha⟩ := List.mem_flatMap.1 ha
      exact List.mem_flatMap.2 ⟨q', List.mem_of_mem_take hq', ha⟩
    unfold m_ref07_Build_L3
    simp only [hd, if_true, hru, Option.bind_some]
    have hch := ref_choices (l := l ++ n) (n := l.length) (by omega) (by simp) ru.2.2.2.1 (hs.body hru)
    rw [show len l = ((l.length : Nat) : Int) from rfl, hch]
    simp only [Option.bind_some]
    rw [chS_app (Nat.le_refl _), ref_Build_L4 hs h hl hqn n hlen hf hru]
  · unfold m_ref07_Build_L3
    have hd : decide (((rng b.2.1.length).length : Int) < len b.2.1) = false := by rw [rng_len]; simp [len]
    simp only [hd, Bool.false_eq_true, if_false, w64_succ r (by omega)]
/-- all rounds -/
theorem ref_Build_L2 (hs : Small b D c) : ∀ (k : Nat) (l : List T_Argument) (f : Int) (r : Nat), FormD b l → l.length ≤ 40 → 41 ≤ l.length + k → r + k ≤ 900 → 1 ≤ r → (r = 1 ∨ f < l.length) →
    loop (m_ref07_Build_L2 b) (l, f, (r : Int)) = some (ansB (buildF b k l f (decide (r ≤ 1)))) := by
  intro k
  induction k with
  | zero => intros; omega
  | succ k ih =>
    intro l f r h hl hk hr h1 hgo
    have hc : (((r : Int) == 1) || decide (f < len l)) = true := by
      rw [Bool.or_eq_true]
      rcases hgo with rfl | hgo
      · exact .inl rfl
      · exact .inr (by simpa [len] using hgo)
    have hstep : m_ref07_Build_L2 b (l, f, (r : Int)) = some (if 40 < (l ++ roundS b l f (decide (r ≤ 1))).length then .inr (([] : List T_Argument), 2) else .inl (l ++ roundS b l f (decide (r ≤ 1)), (l.length : Int), ((r + 1 : Nat) : Int))) := by
      unfold m_ref07_Build_L2
      simp only [hc, if_true]
      exact ref_Build_L3 hs h hl (by omega)
    rw [loop_eq, hstep]
    unfold buildF
    by_cases hlim : 40 < (l ++ roundS b l f (decide (r ≤ 1))).length
    · simp only [if_pos hlim]
      rfl
    · simp only [if_neg hlim]
      by_cases hn : roundS b l f (decide (r ≤ 1)) = []
      · rw [if_pos hn, hn, List.append_nil]
        have hstep2 : m_ref07_Build_L2 b (l, (l.length : Int), ((r + 1 : Nat) : Int)) = some (.inr (l, 0)) := by
          unfold m_ref07_Build_L2
          have hc2 : ((((r + 1 : Nat) : Int) == 1) || decide ((l.length : Int) < len l)) = false := by
            rw [Bool.or_eq_false_iff]
            exact ⟨by simp only [beq_eq_false_iff_ne]; omega, by simp [len]⟩
          simp only [hc2, Bool.false_eq_true, if_false]
        rw [loop_eq, hstep2]
        rfl
      · rw [if_neg hn]
        have hpos : 0 < (roundS b l f (decide (r ≤ 1))).length := List.length_pos_iff.2 hn
        have := ih (l ++ roundS b l f (decide (r ≤ 1))) l.length (r + 1) (h.round hs (by omega)) (by omega) (by rw [List.length_append]; omega) (by omega) (by omega) (.inr (by rw [List.length_append]; omega))
        rw [show decide (r + 1 ≤ 1) = false from by simp; omega] at this
        exact this
theorem cnt_of_valid (h : ValidB b) : Cnt b := by
  have h1 := h.np
  have h2 := h.nr
  have h3 := h.nm
  exact ⟨by omega, by omega, by omega, fun r hr => by have := ruleE_len (h.rule r hr); omega⟩
noncomputable def buildS (b : T_Base) : Option (List T_Argument) := buildF b 50 (premA b) 0 true
theorem ref_Build (hs : Small b D c) : m_ref07_Build b = some (ansB (buildS b)) := by
  unfold m_ref07_Build
  rw [ref_Validate (cnt_of_valid hs.valid), validS_iff.2 hs.valid]
  simp only [Option.bind_some, bne_self_eq_false, Bool.false_eq_true, if_false]
  rw [ref_Build_L1 hs.valid]
  have hn := hs.valid.np
  exact ref_Build_L2 hs 50 (premA b) 0 1 (premA_form hs.valid) (by rw [premA_len]; omega) (by omega) (by omega) (by omega) (.inl rfl)
theorem ref_Build_bad (hc : Cnt b) (h : ¬ ValidB b) : m_ref07_Build b = some ([], validS b) := by
  unfold m_ref07_Build
  rw [ref_Validate hc]
  have : (validS b != 0) = true := by
    rw [bne_iff_ne]
    exact fun h' => h (validS_iff.1 h')
  simp only [Option.bind_some, this, if_true]
end
section
theorem keep_Lits {s : T_keep_Src} {m n : Int} (h : SrcOk s) (h0 : 0 ≤ m) (hm : m ≤ 1000000) (h1 : 1 ≤ n) (h2 : n ≤ 26) : ∃ (l : List T_Literal) (k : Int), m_keep_Src_Literals s m n = some (l, k) ∧ (l.length : Int) ≤ m ∧ (∀ x ∈ l, ∃ j : Nat, (j : Int) < n ∧ x.2 = atomN j) ∧ SrcOk (s.1, k) := by
  obtain ⟨v, k, hr, hv0, hv1, hk⟩ := keep_N (n := m + 1) h (by omega) (by omega)
  unfold m_keep_Src_Literals
  rw [w64_id (x := m + 1) (by omega) (by omega), hr]
  simp only [Option.bind_some]
  obtain ⟨r, h3, h4⟩ := loop_spec (B := m_keep_Src_Literals_L1 s n) (fun t => 0 ≤ t.2.1 ∧ (t.1.length : Int) + t.2.1 = v ∧ (∀ x ∈ t.1, ∃ j : Nat, (j : Int) < n ∧ x.2 = atomN j) ∧ SrcOk (s.1, t.2.2)) (fun t => t.2.1.toNat)
    (fun r => (r.1.length : Int) ≤ m ∧ (∀ x ∈ r.1, ∃ j : Nat, (j : Int) < n ∧ x.2 = atomN j) ∧ SrcOk (s.1, r.2)) (fun t ht => by
      obtain ⟨l, q, k⟩ := t
      obtain ⟨t1, t2, t3, t4⟩ := ht
      dsimp only at t1 t2 t3 t4
      unfold m_keep_Src_Literals_L1
      by_cases hq : 0 < q
      · obtain ⟨g, j, k', h5, hj, hk'⟩ := keep_Literal t4 h1 h2
        refine .inl ⟨(l ++ [(g, atomN j)], q - 1, k'), ?_, ⟨by show 0 ≤ q - 1; omega, by simp; omega, fun x hx => ?_, hk'⟩, by show (q - 1).toNat < q.toNat; omega⟩
        · simp only [hq, decide_true, if_true, h5, Option.bind_some]
          rw [app_ok (by simp; omega), w64_id (by omega) (by omega)]
          rfl
        · rcases List.mem_append.1 hx with hx | hx
          · exact t3 x hx
          · simp at hx; subst hx; exact ⟨j, hj, rfl⟩
      · refine .inr ⟨(l, k), by simp [hq], by dsimp only; omega, t3, t4⟩) (([] : List T_Literal), v, k) ⟨hv0, by simp, by simp, hk⟩
  obtain ⟨l, k'⟩ := r
  exact ⟨l, k', h3, h4.1, h4.2.1, h4.2.2⟩
theorem sorted_at (s : List T_Literal) (hs : s.length < 1000000) (x : T_Literal) (n : Int) : ∃ k : Nat, loop (m_keep_sorted_L2 (s, n) x) 0 = some (k : Int) ∧ k ≤ s.length ∧ (∀ j y, j < k → s[j]? = some y → litLt y x = true) ∧ ∀ y, s[k]? = some y → litLt y x = false := by
  obtain ⟨r, h1, k, h2, h3⟩ := loop_forI (B := m_keep_sorted_L2 (s, n) x) (fun i (_ : Unit) => (i : Int)) s (fun i _ => ∀ j y, j < i → s[j]? = some y → litLt y x = true)
    (fun r => ∃ k : Nat, r = (k : Int) ∧ k ≤ s.length ∧ (∀ j y, j < k → s[j]? = some y → litLt y x = true) ∧ ∀ y, s[k]? = some y → litLt y x = false) (fun i y _ hi hI => by
    have hlt := at_lt hi
    unfold m_keep_sorted_L2
    simp only [at_dec hi, if_true, at_idx hi, Option.bind_some, at_suc hi (show s.length < 4294967296 by omega)]
    have hcond : (if sless y.2 x.2 = true then some true else if (y.2 == x.2) = true then if (!y.1) = true then some x.1 else some false else some false) = some (litLt y x) := by
      unfold litLt
      cases sless y.2 x.2 <;> cases y.2 == x.2 <;> cases y.1 <;> cases x.1 <;> rfl
    rw [hcond]
    simp only [Option.bind_some]
    cases hc : litLt y x with
    | true =>
      simp only [if_true]
      exact .inl ⟨(), by trivial, fun j z hj hz => by
        by_cases hji : j = i
        · subst hji; rw [hi] at hz; cases hz; exact hc
        · exact hI j z (by omega) hz⟩
    | false =>
      simp only [Bool.false_eq_true, if_false]
      exact .inr ⟨_, rfl, i, rfl, by omega, hI, fun z hz => by rw [hi] at hz; cases hz; exact hc⟩) (fun _ hI => ⟨_, by
    unfold m_keep_sorted_L2
    simp only [end_dec, Bool.false_eq_true, if_false, Option.bind_some], s.length, rfl, Nat.le_refl _, hI, fun y hy => by have := at_lt hy; omega⟩) () (fun j y hj => by omega)
  rw [show ((0 : Nat) : Int) = 0 from rfl] at h1
  subst h2
  exact ⟨k, h1, h3⟩
/-- x put in at its place -/
theorem ins_asc {s : List T_Literal} (hs : Asc litLt s) {k : Nat} {x : T_Literal} (h1 : ∀ j y, j < k → s[j]? = some y → litLt y x = true) (h2 : ∀ y, s[k]? = some y → litLt x y = true) : Asc litLt (s.take k ++ x :: s.drop k) := by
  have hsplit := List.take_append_drop k s
  rw [← hsplit] at hs
  obtain ⟨p1, p2, p3⟩ := List.pairwise_append.1 hs
  refine List.pairwise_append.2 ⟨p1, List.pairwise_cons.2 ⟨fun y hy => ?_, p2⟩, fun y hy z hz => ?_⟩
  · cases hd : s.drop k with
    | nil => rw [hd] at hy; cases hy
    | cons z r =>
      have hz : s[k]? = some z := by
        have := congrArg (fun l => l[0]?) hd
        simpa using this
      rw [hd] at hy p2
      rcases List.mem_cons.1 hy with rfl | hy
      · exact h2 _ hz
      · exact litLt_trans (h2 _ hz) ((List.pairwise_cons.1 p2).1 y hy)
  · have hyx : litLt y x = true := by
      obtain ⟨j, hj⟩ := List.mem_iff_getElem?.1 hy
      rw [List.getElem?_take] at hj
      split at hj
      · rename_i hjk; exact h1 j y hjk hj
      · cases hj
    rcases List.mem_cons.1 hz with rfl | hz
    · exact hyx
    · exact p3 y hy z hz
theorem copy_ins {α : Type} (s : List α) (z x : α) (k : Nat) (hk : k ≤ s.length) : (copyAt (s ++ [z]) (((k + 1 : Nat)) : Int) ((s ++ [z]).drop k)).set k x = s.take k ++ x :: s.drop k := by
  have h1 : (s ++ [z]).drop k = s.drop k ++ [z] := List.drop_append_of_le_length hk
  unfold copyAt
  rw [h1, Int.toNat_natCast]
  have h2 : (s.drop k ++ [z]).take ((s ++ [z]).length - (k + 1)) = s.drop k := by
    rw [show (s ++ [z]).length - (k + 1) = (s.drop k).length by simp, List.take_left']
    rfl
  have h3 : (s ++ [z]).drop (k + 1 + (s.drop k ++ [z]).length) = [] := List.drop_eq_nil_of_le (by simp; omega)
  rw [h2, h3, List.append_nil]
  cases hd : s.drop k with
  | nil =>
    have : k = s.length := by
      have := congrArg List.length hd
      simp at this
      omega
    subst this
    rw [List.take_of_length_le (l := s ++ [z]) (by simp), List.append_nil, List.set_append_right _ _ (by simp)]
    simp
  | cons y r =>
    have hk2 : k < s.length := by
      have := congrArg List.length hd
      simp at this
      omega
    have h4 : (s ++ [z]).take (k + 1) = s.take k ++ [s[k]] := by
      rw [List.take_append_of_le_length (by omega), List.take_add_one, List.getElem?_eq_getElem hk2]
      rfl
    rw [h4, List.append_assoc, List.set_append_right _ _ (by rw [List.length_take]; omega)]
    simp [Nat.min_eq_left (Nat.le_of_lt hk2)]
theorem keep_sorted_ok (l : List T_Literal) (hl : l.length ≤ 1000) : ∃ r, m_keep_sorted l = some r ∧ r.length ≤ l.length ∧ Asc litLt r ∧ ∀ y ∈ r, y ∈ l := by
  unfold m_keep_sorted
  refine loop_forI (B := m_keep_sorted_L1 l) (fun i s => (s, (i : Int))) l (fun i s => s.length ≤ i ∧ Asc litLt s ∧ ∀ y ∈ s, y ∈ l) (fun r => r.length ≤ l.length ∧ Asc litLt r ∧ ∀ y ∈ r, y ∈ l) (fun i x s hi hs => .inl ?_) (fun s hs => ⟨s, ?_, hs⟩) [] ⟨by simp, List.Pairwise.nil, by simp⟩
  · have hlt := at_lt hi
    obtain ⟨hs1, hs2, hs3⟩ := hs
    unfold m_keep_sorted_L1
    obtain ⟨k, h1, h2, h3, h4⟩ := sorted_at s (by omega) x i
    simp only [at_dec hi, if_true, at_idx hi, Option.bind_some, h1, at_suc hi (show l.length < 4294967296 by omega)]
    by_cases hex : s[k]? = some x
    · simp only [at_dec hex, if_true, at_idx hex, Option.bind_some, beq_self_eq_true]
      exact ⟨s, rfl, by omega, hs2, hs3⟩
    · have hc : (if decide ((k : Int) < len s) = true then (idx s (k : Int)).bind fun x5 => some (x5 == x) else some false) = some false := by
        by_cases hk : k < s.length
        · have hx : s[k]? = some s[k] := List.getElem?_eq_getElem hk
          simp only [at_dec hx, if_true, at_idx hx, Option.bind_some]
          congr 1
          rw [beq_eq_false_iff_ne]
          intro e
          rw [e] at hx
          exact hex hx
        · have : decide ((k : Int) < len s) = false := by simp [len]; omega
          simp only [this, Bool.false_eq_true, if_false]
      rw [hc]
      simp only [Option.bind_some, Bool.false_eq_true, if_false]
      rw [app_ok (by simp; omega)]
      have hr1 : w64 ((k : Int) + 1) = ((k + 1 : Nat) : Int) := w64_succ k (by omega)
      have hc1 : (decide (0 ≤ ((k + 1 : Nat) : Int)) && decide (((k + 1 : Nat) : Int) ≤ len (s ++ [((false, []) : T_Literal)]))) = true := by simp [len]; omega
      have hc2 : (decide (0 ≤ (k : Int)) && decide ((k : Int) ≤ len (s ++ [((false, []) : T_Literal)]))) = true := by simp [len]; omega
      obtain ⟨z, hz⟩ := idx_ok (l := copyAt (s ++ [((false, []) : T_Literal)]) ((k + 1 : Nat) : Int) (List.drop k (s ++ [((false, []) : T_Literal)]))) (j := (k : Int)) (by omega) (by rw [length_copyAt]; simp; omega)
      simp only [Option.bind_some, hr1, chk, hc1, hc2, if_true, Int.toNat_natCast, hz, copy_ins s _ x k h2]
      refine ⟨_, rfl, ?_, ins_asc hs2 h3 fun y hy => ?_, fun y hy => ?_⟩
      · simp; omega
      · rcases litLt_tri y x with h | h | h
        · rw [h4 y hy] at h; cases h
        · subst h; exact absurd hy hex
        · exact h
      · rcases List.mem_append.1 hy with hy | hy
        · exact hs3 y (List.mem_of_mem_take hy)
        · rcases List.mem_cons.1 hy with rfl | hy
          · exact mem_at hi
          · exact hs3 y (List.mem_of_mem_drop hy)
  · unfold m_keep_sorted_L1
    simp only [end_dec, Bool.false_eq_true, if_false]
theorem ascB_of : ∀ {l : List T_Literal}, Asc litLt l → ascB l = true
  | [], _ => rfl
  | [_], _ => rfl
  | x :: y :: r, h => by
    obtain ⟨h1, h2⟩ := List.pairwise_cons.1 h
    unfold ascB
    rw [h1 y List.mem_cons_self, ascB_of h2]
    rfl
theorem keep_PickI {s : T_keep_Src} {l : List Int} (h : SrcOk s) (h0 : l ≠ []) (h1 : l.length ≤ 1000) : ∃ x k, m_keep_Src_Pick s l = some (x, k) ∧ x ∈ l ∧ SrcOk (s.1, k) := by
  have hp := List.length_pos_iff.2 h0
  obtain ⟨v, k, hr, h2, h3, hk⟩ := keep_N (n := len l) h (by simp [len]; omega) (by simp [len]; omega)
  obtain ⟨x, hx, hx2⟩ := idx_some h2 h3
  exact ⟨x, k, by simp [m_keep_Src_Pick, hr, hx], List.mem_of_getElem? hx2, hk⟩
theorem vName_atom {j : Nat} (h : j < 26) : vName (atomN j) = true := by
  have : ∀ j, j < 26 → vName (atomN j) = true := by decide
  exact this j h
def ruleN (n : Nat) : Str := [114, UInt8.ofNat (97 + n)]
theorem ruleN_valid {n : Nat} (h : n < 26) : vName (ruleN n) = true := by
  have : ∀ n, n < 26 → vName (ruleN n) = true := by decide
  exact this n h
theorem ruleN_inj {n m : Nat} (h : n < 26) (h' : m < 26) (he : ruleN n = ruleN m) : n = m := by
  have : ∀ n, n < 26 → ∀ m, m < 26 → ruleN n = ruleN m → n = m := by decide
  exact this n h m h' he
theorem keep_RuleName {n : Nat} (h : n < 26) : m_keep_RuleName (n : Int) = some (ruleN n) := by
  have : ∀ n : Nat, n < 26 → m_keep_RuleName (n : Int) = some (ruleN n) := by decide
  exact this n h
theorem inj_app {α β : Type} (g : α → β) {l : List α} {y : α} (h : ∀ (i j : Nat) p q, l[i]? = some p → l[j]? = some q → g p = g q → i = j) (hy : ∀ x ∈ l, g x ≠ g y) : ∀ (i j : Nat) p q, (l ++ [y])[i]? = some p → (l ++ [y])[j]? = some q → g p = g q → i = j := by
  intro i j p q hp hq he
  have key : ∀ (i : Nat) p, (l ++ [y])[i]? = some p → (l[i]? = some p) ∨ (i = l.length ∧ p = y) := fun i p hp => by
    by_cases hi : i < l.length
    · rw [List.getElem?_append_left hi] at hp; exact .inl hp
    · rw [List.getElem?_append_right (by omega)] at hp
      have hi2 := at_lt hp
      simp at hi2
      have : i = l.length := by omega
      subst this
      simp at hp
      exact .inr ⟨rfl, hp.symm⟩
  rcases key i p hp with h1 | ⟨h1, h2⟩ <;> rcases key j q hq with h3 | ⟨h3, h4⟩
  · exact h i j p q h1 h3 he
  · subst h4; exact absurd he (hy p (mem_at h1))
  · subst h2; exact absurd he.symm (hy q (mem_at h3))
  · omega
/-- the premises that are drawn -/
structure DrawnP (n : Int) (l : List T_Premise) : Prop where
  ok : ∀ p ∈ l, premE p = 0
  at_ : ∀ p ∈ l, ∃ j : Nat, (j : Int) < n ∧ p.1.2 = atomN j
  inj : ∀ (i j : Nat) p q, l[i]? = some p → l[j]? = some q → p.1 = q.1 → i = j
theorem Base_L1 {s : T_keep_Src} {n : Int} (h1 : 1 ≤ n) (h2 : n ≤ 26) {v k : Int} (hv0 : 0 ≤ v) (hv1 : v ≤ 100) (hk : SrcOk (s.1, k)) : ∃ r, loop (m_keep_Src_Base_L1 s n) (v, k, []) = some r ∧ SrcOk (s.1, r.1) ∧ (r.2.length : Int) ≤ v ∧ DrawnP n r.2 := by
  refine loop_spec (B := m_keep_Src_Base_L1 s n) (fun t => 0 ≤ t.1 ∧ (t.2.2.length : Int) + t.1 ≤ v ∧ SrcOk (s.1, t.2.1) ∧ DrawnP n t.2.2) (fun t => t.1.toNat) (fun r => SrcOk (s.1, r.1) ∧ (r.2.length : Int) ≤ v ∧ DrawnP n r.2) (fun t ht => ?_) _ ⟨hv0, by simp, hk, by simp, by simp, by simp⟩
  obtain ⟨q, k, l⟩ := t
  obtain ⟨t1, t2, t3, t4⟩ := ht
  dsimp only at t1 t2 t3 t4
  unfold m_keep_Src_Base_L1
  by_cases hq : 0 < q
  · obtain ⟨g, j, k1, e1, hj, hk1⟩ := keep_Literal t3 h1 h2
    obtain ⟨p, k2, e2, hp, hk2⟩ := keep_PickI (l := [1, 2, 2, 2, 3]) hk1 (by simp) (by simp)
    obtain ⟨x, k3, e3, hx, hk3⟩ := keep_Text (l := [[], [], [97, 110, 110], [98, 111, 98]]) hk2 (by simp) (by simp)
    obtain ⟨u, k4, e4, hu0, hu1, hk4⟩ := keep_N (n := 4) hk3 (by omega) (by omega)
    have hr : loop (m_keep_Src_Base_L2 (q, k, l) ((g, atomN j), k1)) (false, 0) = some (l.any fun p => p.1 == (g, atomN j)) := by
      obtain ⟨r, hr, hr2⟩ := loop_forI (B := m_keep_Src_Base_L2 (q, k, l) ((g, atomN j), k1)) (fun i s => (s, (i : Int))) l (fun i s => s = (l.take i).any fun p => p.1 == (g, atomN j)) (fun r => r = l.any fun p => p.1 == (g, atomN j)) (fun i x s hi hs => .inl (by
        unfold m_keep_Src_Base_L2
        simp only [at_dec hi, if_true, at_idx hi, Option.bind_some, at_suc hi (show l.length < 4294967296 by omega)]
        exact ⟨_, rfl, by rw [take_suc hi, List.any_append, ← hs]; simp⟩)) (fun s hs => by
        unfold m_keep_Src_Base_L2
        simp only [end_dec, Bool.false_eq_true, if_false]
        exact ⟨_, rfl, by rw [hs, List.take_length]⟩) false (by simp)
      rw [← hr2]
      exact hr
    dsimp only at e2 e3 e4 hk2 hk3 hk4
    have hq1 : w64 (q - 1) = q - 1 := w64_id (by omega) (by omega)
    have hmid : ∃ w z, (if (p == 2) = true then (m_keep_Src_N (s.1, k3) 4).bind fun r5 => some (r5.2, r5.1) else some (k3, 0) : Option (Int × Int)) = some (w, z) ∧ SrcOk (s.1, w) ∧ ranked z = true ∧ (p == 2 || z == 0) = true := by
      split
      · rename_i hp2
        exact ⟨k4, u, by rw [e4]; rfl, hk4, by simp; omega, by simp [hp2]⟩
      · exact ⟨k3, 0, rfl, hk3, by simp, by simp⟩
    obtain ⟨w, z, hm, hw, hz1, hz2⟩ := hmid
    simp only [hq, decide_true, if_true, e1, Option.bind_some, e2, e3, hm, hr, hq1]
    cases hany : l.any fun p => p.1 == (g, atomN j) with
    | true => exact .inl ⟨_, rfl, ⟨by show 0 ≤ q - 1; omega, by show (l.length : Int) + (q - 1) ≤ v; omega, hw, t4⟩, by show (q - 1).toNat < q.toNat; omega⟩
    | false =>
      simp only [Bool.not_false, if_true]
      rw [app_ok (by simp; omega)]
      refine .inl ⟨_, rfl, ⟨by show 0 ≤ q - 1; omega, by show ((l ++ [((g, atomN j), p, z, x)]).length : Int) + (q - 1) ≤ v; simp; omega, hw, fun p' hp' => ?_, fun p' hp' => ?_, inj_app _ t4.inj fun p' hp' he => ?_⟩, by show (q - 1).toNat < q.toNat; omega⟩
      · rcases List.mem_append.1 hp' with hp' | hp'
        · exact t4.ok p' hp'
        · simp only [List.mem_singleton] at hp'
          subst hp'
          have hpk : (p == 1 || p == 2 || p == 3) = true := by
            simp only [List.mem_cons, List.not_mem_nil, or_false] at hp
            rcases hp with rfl | rfl | rfl | rfl | rfl <;> rfl
          have hsx : (x == ([] : Str) || vName x) = true := by
            simp only [List.mem_cons, List.not_mem_nil, or_false] at hx
            rcases hx with rfl | rfl | rfl | rfl <;> decide
          unfold premE
          dsimp only
          rw [if_pos hpk, vName_atom (by omega), hz1, hz2, hsx]
          rfl
      · rcases List.mem_append.1 hp' with hp' | hp'
        · exact t4.at_ p' hp'
        · simp only [List.mem_singleton] at hp'
          subst hp'
          exact ⟨j, hj, rfl⟩
      · rw [List.any_eq_false] at hany
        exact hany p' hp' (by rw [beq_iff_eq]; exact he)
  · simp only [hq, decide_false, Bool.false_eq_true, if_false]
    exact .inr ⟨_, rfl, t3, by show (l.length : Int) ≤ v; omega, t4⟩
/-- the rules that are drawn -/
structure DrawnR (l : List T_Rule) : Prop where
  bd : ∀ r ∈ l, r.2.2.2.1.length ≤ 2
  ok : ∀ r ∈ l, ruleE r = 0
  nm : ∀ (i : Nat) r, l[i]? = some r → r.1 = ruleN i
theorem Base_L3 {s : T_keep_Src} {n m : Int} (h1 : 1 ≤ n) (h2 : n ≤ 26) (hm : 1 ≤ m) (hm2 : m ≤ 26) {v k : Int} (hv0 : 0 ≤ v) (hv1 : v ≤ 24) (hk : SrcOk (s.1, k)) : ∃ r, loop (m_keep_Src_Base_L3 s n m) (v, k, []) = some r ∧ SrcOk (s.1, r.1) ∧ (r.2.length : Int) ≤ v ∧ DrawnR r.2 := by
  refine loop_spec (B := m_keep_Src_Base_L3 s n m) (fun t => 0 ≤ t.1 ∧ (t.2.2.length : Int) + t.1 ≤ v ∧ SrcOk (s.1, t.2.1) ∧ DrawnR t.2.2) (fun t => t.1.toNat) (fun r => SrcOk (s.1, r.1) ∧ (r.2.length : Int) ≤ v ∧ DrawnR r.2) (fun t ht => ?_) _ ⟨hv0, by simp, hk, by simp, by simp, by simp⟩
  obtain ⟨q, k, l⟩ := t
  obtain ⟨t1, t2, t3, t4⟩ := ht
  dsimp only at t1 t2 t3 t4
  unfold m_keep_Src_Base_L3
  by_cases hq : 0 < q
  · have e0 := keep_RuleName (n := l.length) (by omega)
    obtain ⟨u, k1, e1, _, _, hk1⟩ := keep_N (n := 3) t3 (by omega) (by omega)
    obtain ⟨bd, k2, e2, hb2, hbn, hk2⟩ := keep_Lits (m := 2) hk1 (by omega) (by omega) h1 h2
    obtain ⟨bs, e3, hb3, hb4, hb5⟩ := keep_sorted_ok bd (by omega)
    obtain ⟨g, j, k3, e4, hj, hk3⟩ := keep_Literal hk2 h1 h2
    obtain ⟨u5, k5, e5, hu5, hu5', hk5⟩ := keep_N (n := 4) hk3 (by omega) (by omega)
    dsimp only at e1 e2 e3 e4 e5 hk1 hk2 hk3 hk5
    have hmid : ∃ w z, (if (!(u == 0)) = true then (m_keep_Src_N (s.1, k3) 4).bind fun r12 => some (r12.2, r12.1) else some (k3, 0) : Option (Int × Int)) = some (w, z) ∧ SrcOk (s.1, w) ∧ ranked z = true ∧ (!(u == 0) || z == 0) = true := by
      split
      · rename_i hu
        exact ⟨k5, u5, by rw [e5]; rfl, hk5, by simp; omega, by rw [hu]; rfl⟩
      · exact ⟨k3, 0, rfl, hk3, by simp, by simp⟩
    obtain ⟨w, z, hmm, hw, hz1, hz2⟩ := hmid
    obtain ⟨u6, k6, e6, _, _, hk6⟩ := keep_N (n := 6) hw (by omega) (by omega)
    obtain ⟨u7, k7, e7, _, _, hk7⟩ := keep_N (n := 4) hk6 (by omega) (by omega)
    obtain ⟨u8, k8, e8, hu8, hu8', hk8⟩ := keep_N (n := m) hk7 (by omega) (by omega)
    obtain ⟨n8, rfl⟩ := Int.eq_ofNat_of_zero_le hu8
    have e9 := keep_RuleName (n := n8) (by omega)
    dsimp only at e6 e7 e8 hk6 hk7 hk8
    have hend : ∃ w2 z2 y2, ((m_keep_Src_N (s.1, w) 6).bind fun r13 => if (r13.1 == 5) = true then (m_keep_Src_N (s.1, r13.2) 4).bind fun r14 => (m_keep_Src_N (s.1, r14.2) m).bind fun r15 => (m_keep_RuleName r15.1).bind fun r16 => some (r15.2, decide (0 < r14.1), r16) else some (r13.2, g, atomN j) : Option (Int × Bool × Str)) = some (w2, z2, y2) ∧ SrcOk (s.1, w2) ∧ vName y2 = true := by
      rw [e6]
      simp only [Option.bind_some]
      split
      · exact ⟨k8, decide (0 < u7), ruleN n8, by rw [e7]; simp only [Option.bind_some, e8, e9], hk8, ruleN_valid (by omega)⟩
      · exact ⟨k6, g, atomN j, rfl, hk6, vName_atom (by omega)⟩
    obtain ⟨w2, z2, y2, he, hw2, hy2⟩ := hend
    have hq1 : w64 (q - 1) = q - 1 := w64_id (by omega) (by omega)
    rw [show len l = ((l.length : Nat) : Int) from rfl]
    simp only [hq, decide_true, if_true, e0, e1, Option.bind_some, e2, e3, e4, hmm, he, hq1]
    rw [app_ok (by simp; omega)]
    refine .inl ⟨_, rfl, ⟨by show 0 ≤ q - 1; omega, by show ((l ++ [_]).length : Int) + (q - 1) ≤ v; simp; omega, hw2, fun r hr => ?_, fun r hr => ?_, fun i r hr => ?_⟩, by show (q - 1).toNat < q.toNat; omega⟩
    · rcases List.mem_append.1 hr with hr | hr
      · exact t4.bd r hr
      · simp only [List.mem_singleton] at hr
        subst hr
        show bs.length ≤ 2
        omega
    · rcases List.mem_append.1 hr with hr | hr
      · exact t4.ok r hr
      · simp only [List.mem_singleton] at hr
        subst hr
        unfold ruleE
        dsimp only
        have hall : (bs.all fun x => vName x.2) = true := List.all_eq_true.2 fun x hx => by
          obtain ⟨j, hj, hx2⟩ := hbn x (hb5 x hx)
          rw [hx2]
          exact vName_atom (by omega)
        rw [if_neg (by omega), ruleN_valid (by omega), hy2, hz1, hz2, hall, ascB_of hb4]
        rfl
    · by_cases hi : i < l.length
      · rw [List.getElem?_append_left hi] at hr
        exact t4.nm i r hr
      · rw [List.getElem?_append_right (by omega)] at hr
        have := at_lt hr
        simp at this
        have hi2 : i = l.length := by omega
        subst hi2
        simp at hr
        rw [← hr]
  · simp only [hq, decide_false, Bool.false_eq_true, if_false]
    exact .inr ⟨_, rfl, t3, by show (l.length : Int) ≤ v; omega, t4⟩
theorem Base_L4 {s : T_keep_Src} {n : Int} (h1 : 1 ≤ n) (h2 : n ≤ 26) (o : Int) (rs : List T_Rule) (hrs : rs.length ≤ 100) {v k : Int} (hv0 : 0 ≤ v) (hv1 : v ≤ 100) (hk : SrcOk (s.1, k)) : ∃ r, loop (m_keep_Src_Base_L4 (o, rs) s n) (v, k, []) = some r ∧ SrcOk (s.1, r.1) ∧ (r.2.length : Int) ≤ v ∧ ∀ p ∈ r.2, ranked p.2.1 = true ∧ vName p.2.2.2 = true ∧ ∃ q ∈ rs, q.1 = p.1 ∧ q.2.1 = false := by
  refine loop_spec (B := m_keep_Src_Base_L4 (o, rs) s n) (fun t => 0 ≤ t.1 ∧ (t.2.2.length : Int) + t.1 ≤ v ∧ SrcOk (s.1, t.2.1) ∧ ∀ p ∈ t.2.2, ranked p.2.1 = true ∧ vName p.2.2.2 = true ∧ ∃ q ∈ rs, q.1 = p.1 ∧ q.2.1 = false) (fun t => t.1.toNat) (fun r => SrcOk (s.1, r.1) ∧ (r.2.length : Int) ≤ v ∧ ∀ p ∈ r.2, ranked p.2.1 = true ∧ vName p.2.2.2 = true ∧ ∃ q ∈ rs, q.1 = p.1 ∧ q.2.1 = false) (fun t ht => ?_) _ ⟨hv0, by simp, hk, by simp⟩
  obtain ⟨q, k, l⟩ := t
  obtain ⟨t1, t2, t3, t4⟩ := ht
  dsimp only at t1 t2 t3 t4
  unfold m_keep_Src_Base_L4
  by_cases hq : 0 < q ∧ 0 < rs.length
  · have hc : (decide (0 < q) && decide (0 < len rs)) = true := by simp [len]; omega
    obtain ⟨u, k1, e1, hu0, hu1, hk1⟩ := keep_N (n := len rs) t3 (by simp [len]; omega) (by simp [len]; omega)
    obtain ⟨r, hr⟩ := idx_ok (l := rs) hu0 hu1
    obtain ⟨u2, k2, e2, hu2, hu2', hk2⟩ := keep_N (n := 10) hk1 (by omega) (by omega)
    obtain ⟨g, j, k3, e3, hj, hk3⟩ := keep_Literal hk2 h1 h2
    dsimp only at e1 e2 e3 hk1 hk2 hk3
    have hq1 : w64 (q - 1) = q - 1 := w64_id (by omega) (by omega)
    simp only [hc, if_true, e1, Option.bind_some, hr, hq1]
    cases hst : r.2.1 with
    | true =>
      simp only [Bool.not_true, Bool.false_eq_true, if_false]
      exact .inl ⟨_, rfl, ⟨by show 0 ≤ q - 1; omega, by show (l.length : Int) + (q - 1) ≤ v; omega, hk1, t4⟩, by show (q - 1).toNat < q.toNat; omega⟩
    | false =>
      simp only [Bool.not_false, if_true, e2, e3, Option.bind_some]
      rw [app_ok (by simp; omega)]
      refine .inl ⟨_, rfl, ⟨by show 0 ≤ q - 1; omega, by show ((l ++ [_]).length : Int) + (q - 1) ≤ v; simp; omega, hk3, fun p hp => ?_⟩, by show (q - 1).toNat < q.toNat; omega⟩
      rcases List.mem_append.1 hp with hp | hp
      · exact t4 p hp
      · simp only [List.mem_singleton] at hp
        subst hp
        obtain ⟨i, _, hi⟩ := idx_at hr
        exact ⟨by simp; omega, vName_atom (by omega), r, mem_at hi, rfl, hst⟩
  · have hc : (decide (0 < q) && decide (0 < len rs)) = false := by
      rw [Bool.and_eq_false_iff]
      by_cases h : 0 < q
      · have h0 : ¬ 0 < rs.length := fun h3 => hq ⟨h, h3⟩
        exact .inr (decide_eq_false (by show ¬ (0 : Int) < (rs.length : Int); omega))
      · exact .inl (by simpa using h)
    simp only [hc, Bool.false_eq_true, if_false]
    exact .inr ⟨_, rfl, t3, by show (l.length : Int) ≤ v; omega, t4⟩
/-- a base that is drawn -/
structure Drawn (b : T_Base) (n p q : Int) : Prop where
  np : (b.1.length : Int) ≤ p
  nr : (b.2.1.length : Int) ≤ q
  nm : b.2.2.length ≤ 2
  bd : ∀ r ∈ b.2.1, r.2.2.2.1.length ≤ 2
  valid : ValidB b
  names : ∀ (i : Nat) r, b.2.1[i]? = some r → r.1 = ruleN i
  at_ : ∀ p ∈ b.1, ∃ j : Nat, (j : Int) < n ∧ p.1.2 = atomN j
theorem keep_Base {s : T_keep_Src} (h : SrcOk s) {n p q : Int} (h1 : 1 ≤ n) (h2 : n ≤ 26) (hp : 0 ≤ p) (hp2 : p ≤ 16) (hq : 1 ≤ q) (hq2 : q ≤ 24) : ∃ b k, m_keep_Src_Base s n p q = some (b, k) ∧ SrcOk (s.1, k) ∧ Drawn b n p q := by
  unfold m_keep_Src_Base
  obtain ⟨u1, k1, e1, a1, b1, hk1⟩ := keep_N (n := p + 1) h (by omega) (by omega)
  obtain ⟨⟨o1, ps⟩, e2, hk2, hl2, hp2'⟩ := Base_L1 (s := s) h1 h2 a1 (by omega) hk1
  obtain ⟨u3, k3, e3, a3, b3, hk3⟩ := keep_N (n := q + 1) hk2 (by omega) (by omega)
  obtain ⟨⟨o4, rs⟩, e4, hk4, hl4, hb4⟩ := Base_L3 (s := s) h1 h2 hq (by omega) a3 (by omega) hk3
  obtain ⟨u5, k5, e5, a5, b5, hk5⟩ := keep_N (n := 3) hk4 (by omega) (by omega)
  dsimp only at hl2 hl4 hb4 hp2'
  obtain ⟨⟨o6, ms⟩, e6, hk6, hl6, hm6⟩ := Base_L4 (s := s) h1 h2 o4 rs (by omega) a5 (by omega) hk5
  dsimp only at e3 e5 hl6 hm6
  rw [w64_id (x := p + 1) (by omega) (by omega), w64_id (x := q + 1) (by omega) (by omega)]
  have hinj : ∀ (i j : Nat) p q, rs[i]? = some p → rs[j]? = some q → p.1 = q.1 → i = j := fun i j p q hp hq he => by
    have := at_lt hp
    have := at_lt hq
    rw [hb4.nm i p hp, hb4.nm j q hq] at he
    exact ruleN_inj (by omega) (by omega) he
  refine ⟨(ps, rs, ms), o6, ?_, hk6, by show (ps.length : Int) ≤ p; omega, by show (rs.length : Int) ≤ q; omega, by show ms.length ≤ 2; omega, hb4.bd, ⟨by show ps.length ≤ 16; omega, by show rs.length ≤ 24; omega, by show ms.length ≤ 8; omega, hp2'.ok, hb4.ok, hp2'.inj, hinj, fun m hm => ?_⟩, hb4.nm, hp2'.at_⟩
  · simp only [e1, Option.bind_some, e2, e3, e4, e5, e6]
  · obtain ⟨g1, g2, r, g3, g4, g5⟩ := hm6 m hm
    obtain ⟨i, hi⟩ := List.mem_iff_getElem?.1 g3
    have hf := fidx_le (q := fun r : T_Rule => r.1 == m.1) hi (by simp [g4])
    obtain ⟨k, r', f1, f2, f3, _⟩ := fidx_at hf.1
    have hki := hinj k i r' r f2 hi (by rw [g4]; simpa using f3)
    subst hki
    rw [f2] at hi
    cases hi
    unfold promE findS
    dsimp only
    rw [g1, g2, f1]
    have : ¬ ((k : Int) < 0) := by omega
    simp [this, idx_nat, f2, g5]
end
section
variable {b : T_Base} {l : List T_Argument} {D : List T_Literal} {c : Nat}
theorem FormD.runsA (h : FormD b l) (hs : Small b D c) : RunsA b l := Go.GD.runsA h.toFormB (runSz hs h)
/-- the applications of the rule q to the choices that begin with s -/
noncomputable def roundH (b : T_Base) (l : List T_Argument) (f : Int) (q : Int) (r : T_Rule) (ys : List T_Literal) (s : List Int) : List T_Argument :=
  ((chS l l.length ys s).filter fun s => s.any (fun k => decide (f ≤ k)) && withinS b l q r s).map fun s => (-1, q, s, r.2.2.2.2)
theorem roundH_nil {f q : Int} {r : T_Rule} {s : List Int} : roundH b l f q r [] s = if s.any (fun k => decide (f ≤ k)) && withinS b l q r s then [(-1, q, s, r.2.2.2.2)] else [] := by
  unfold roundH
  simp only [chS, List.filter_cons, List.filter_nil]
  split <;> rfl
theorem roundH_cons {f q : Int} {r : T_Rule} {y : T_Literal} {ys : List T_Literal} {s : List Int} : roundH b l f q r (y :: ys) s = (rng l.length).flatMap fun i => match idx l i with | some a => if a.2.2.2 == y then roundH b l f q r ys (s ++ [i]) else [] | none => [] := by
  unfold roundH
  simp only [chS, List.filter_flatMap, List.map_flatMap]
  congr 1
  funext i
  cases idx l i with
  | none => rfl
  | some a =>
    dsimp only
    split <;> rfl
/-- the new arguments, up to the limit -/
def Cut (l new h res : List T_Argument) : Prop := res = (new ++ h).take (41 - l.length)
theorem take_take_app {α : Type} (n : Nat) (x y : List α) : (x.take n ++ y).take n = (x ++ y).take n := by
  by_cases h : x.length ≤ n
  · rw [List.take_of_length_le h]
  · rw [List.take_append_of_le_length (by rw [List.length_take]; omega), List.take_append_of_le_length (by omega), List.take_take, Nat.min_self]
theorem Cut.nil {new : List T_Argument} (h : l.length + new.length ≤ 41) : Cut l new [] new := by
  unfold Cut
  rw [List.append_nil, List.take_of_length_le (by omega)]
theorem Cut.trans {new h1 r1 h2 r2 : List T_Argument} (a : Cut l new h1 r1) (b : Cut l r1 h2 r2) : Cut l new (h1 ++ h2) r2 := by
  unfold Cut at a b ⊢
  rw [b, a, take_take_app, List.append_assoc]
theorem Cut.le {new h res : List T_Argument} (hl : l.length ≤ 41) (a : Cut l new h res) : l.length + res.length ≤ 41 := by
  unfold Cut at a
  rw [a, List.length_take]
  omega
theorem Cut.stay {new h : List T_Argument} (hf : l.length + new.length = 41) : Cut l new h new := by
  unfold Cut
  rw [List.take_append_of_le_length (by omega), List.take_of_length_le (by omega)]
theorem Cut.all {new h : List T_Argument} (hf : l.length + new.length + h.length ≤ 41) : Cut l new h (new ++ h) := by
  unfold Cut
  rw [List.take_of_length_le (by rw [List.length_append]; omega)]
theorem full_eq (b : T_Base) (l new : List T_Argument) (f : Int) (h1 : l.length ≤ 100) (h2 : new.length ≤ 100) : m_argument_builder_full (b, l, new, f) = some (decide (40 < l.length + new.length)) := by
  unfold m_argument_builder_full
  simp only [len]
  rw [w64_id (by omega) (by omega)]
  refine congrArg some (decide_eq_decide.2 ?_)
  omega
theorem clone_int {s : List Int} (h : s.length < 4294967296) : m_slices_Clone_int s = some s := by
  simp [m_slices_Clone_int, app_ok (l := ([] : List Int)) (m := s) (by simpa using h)]
theorem contains_new (s : List Int) (b : T_Base) (l new : List T_Argument) (f : Int) (h : s.length < 1000000) : m_slices_ContainsFunc_int__argument_builder_apply_1 s (b, l, new, f) = some (s.any fun k => decide (f ≤ k)) := by
  unfold m_slices_ContainsFunc_int__argument_builder_apply_1 m_slices_IndexFunc_int__argument_builder_apply_1
  obtain ⟨r, h1, h2⟩ := loop_forI (B := m_slices_IndexFunc_int__argument_builder_apply_1_L1 s (b, l, new, f)) (fun i (_ : Unit) => (i : Int)) s (fun i _ => ∀ (j : Nat) k, j < i → s[j]? = some k → ¬ f ≤ k) (fun r => decide (0 ≤ r) = s.any fun k => decide (f ≤ k)) (fun i k _ hi hI => by
    unfold m_slices_IndexFunc_int__argument_builder_apply_1_L1 m_argument_builder_apply_1
    simp only [at_dec hi, if_true, at_idx hi, Option.bind_some, at_suc hi (show s.length < 4294967296 by omega)]
    by_cases hk : f ≤ k
    · simp only [hk, decide_true, if_true]
      refine .inr ⟨(i : Int), rfl, ?_⟩
      have : (s.any fun k => decide (f ≤ k)) = true := List.any_eq_true.2 ⟨k, mem_at hi, by simpa using hk⟩
      rw [this]
      exact decide_eq_true (by omega)
    · simp only [hk, decide_false, Bool.false_eq_true, if_false]
      exact .inl ⟨(), by trivial, fun j x hj hx => by
        by_cases hji : j = i
        · subst hji; rw [hi] at hx; cases hx; exact hk
        · exact hI j x (by omega) hx⟩) (fun _ hI => ⟨-1, by
    unfold m_slices_IndexFunc_int__argument_builder_apply_1_L1
    simp only [end_dec, Bool.false_eq_true, if_false], by
    have : (s.any fun k => decide (f ≤ k)) = false := by
      rw [List.any_eq_false]
      intro k hk
      obtain ⟨j, hj⟩ := List.mem_iff_getElem?.1 hk
      simpa using hI j k (at_lt hj) hj
    rw [this]
    rfl⟩) () (fun j k hj => by omega)
  rw [show ((0 : Nat) : Int) = 0 from rfl] at h1
  rw [h1]
  simp only [Option.bind_some, h2]
/-- a rule's applications that go on from a choice -/
theorem arg_apply_k (hs : Small b D c) (h : FormD b l) (hl : l.length ≤ 40) {f : Int} {q : Int} {r : T_Rule} (hr : idx b.2.1 q = some r) : ∀ (k : Nat) (ys : List T_Literal) (s : List Int) (new : List T_Argument), ys = r.2.2.2.1.drop s.length → s.length ≤ r.2.2.2.1.length → ys.length < k → (∀ k ∈ s, 0 ≤ k ∧ k < l.length) → l.length + new.length ≤ 41 →
    ∃ res, k_argument_builder_apply_2 k (b, l, new, f) q s = some res ∧ Cut l new (roundH b l f q r ys s) res := by
  have hb := hs.body hr
  intro k
  induction k with
  | zero => intro ys _ _ _ _ hk; omega
  | succ k ih =>
    intro ys s new hys hsl hk hsub hnew
    show ∃ res, F_argument_builder_apply_2 (k_argument_builder_apply_2 k) (b, l, new, f) q s = some res ∧ _
    unfold F_argument_builder_apply_2
    simp only [hr, Option.bind_some, full_eq b l new f (by omega) (by omega)]
    by_cases hf : 40 < l.length + new.length
    · simp only [hf, decide_true, if_true]
      exact ⟨new, rfl, Cut.stay (by omega)⟩
    · simp only [hf, decide_false, Bool.false_eq_true, if_false]
      cases ys with
      | nil =>
        have hlen : s.length = r.2.2.2.1.length := by
          have := congrArg List.length hys
          simp at this
          omega
        have hd : decide (len s < len r.2.2.2.1) = false := by simp [len]; omega
        simp only [hd, Bool.false_eq_true, if_false, seqE, Option.bind_some]
        rw [contains_new s b l new f (by omega), roundH_nil]
        simp only [Option.bind_some]
        rw [arg_within h.toFormC (h.runsA hs) hr hsub (by omega)]
        cases h1 : s.any fun k => decide (f ≤ k) with
        | false =>
          simp only [Bool.false_eq_true, if_false, Option.bind_some, Bool.false_and]
          exact ⟨new, rfl, Cut.nil hnew⟩
        | true =>
          simp only [if_true, Option.bind_some, Bool.true_and]
          cases h2 : withinS b l q r s with
          | false =>
            simp only [Bool.false_eq_true, if_false]
            exact ⟨new, rfl, Cut.nil hnew⟩
          | true =>
            simp only [if_true]
            rw [app_ok (by simp; omega)]
            exact ⟨_, rfl, Cut.all (by simp only [List.length_singleton]; omega)⟩
      | cons y ys =>
        have hlen : s.length < r.2.2.2.1.length := by
          have := congrArg List.length hys
          simp at this
          omega
        have hd : decide (len s < len r.2.2.2.1) = true := by simp [len]; omega
        have hy : r.2.2.2.1[s.length]? = some y := by
          have := congrArg (fun l => l[0]?) hys
          simpa using this.symm
        have hys2 : ys = r.2.2.2.1.drop (s.length + 1) := by
          have := congrArg List.tail hys
          simpa using this
        have hix : idx r.2.2.2.1 (len s) = some y := by rw [show len s = ((s.length : Nat) : Int) from rfl, idx_nat]; exact hy
        simp only [hd, if_true]
        have hloop := loop_forI (B := m_argument_builder_apply_2_L1 (b, l, new, f) r s (k_argument_builder_apply_2 k) q) (fun i (t : List T_Argument) => ((i : Int), t)) (rng l.length)
          (fun i t => Cut l new (((rng l.length).take i).flatMap fun i => match idx l i with | some a => if a.2.2.2 == y then roundH b l f q r ys (s ++ [i]) else [] | none => []) t)
          (fun res => ∃ t, res = .inr t ∧ Cut l new (roundH b l f q r (y :: ys) s) t) (fun i x t hi hI => .inl ?_) (fun t hI => ?_) new (Cut.nil hnew)
        · obtain ⟨res, h1, t, h2, h3⟩ := hloop
          rw [show ((0 : Nat) : Int) = 0 from rfl] at h1
          subst h2
          exact ⟨t, by rw [h1]; rfl, h3⟩
        · obtain ⟨rfl, hin⟩ := rng_at hi
          obtain ⟨a, ha⟩ := idx_ok (l := l) (j := (i : Int)) (by omega) (by omega)
          have hdl : decide ((i : Int) < len l) = true := by simp [len]; omega
          have ht := hI.le (by omega)
          unfold m_argument_builder_apply_2_L1
          simp only [hdl, if_true, ha, Option.bind_some, hix, w64_succ i (by omega)]
          rw [take_suc hi, List.flatMap_append, List.flatMap_singleton, ha]
          dsimp only
          cases hc : a.2.2.2 == y with
          | false =>
            simp only [Bool.false_eq_true, if_false, List.append_nil]
            exact ⟨t, rfl, hI⟩
          | true =>
            simp only [if_true]
            rw [clone_int (by omega)]
            simp only [Option.bind_some]
            rw [app_ok (by simp; omega)]
            simp only [Option.bind_some]
            obtain ⟨res, e1, e2⟩ := ih ys (s ++ [(i : Int)]) t (by simpa using hys2) (by simp; omega) (by simp at hk; omega) (fun k hk => by
              rcases List.mem_append.1 hk with hk | hk
              · exact hsub k hk
              · simp only [List.mem_singleton] at hk; subst hk; omega) ht
            rw [e1]
            exact ⟨res, rfl, hI.trans e2⟩
        · refine ⟨_, ?_, t, rfl, ?_⟩
          · unfold m_argument_builder_apply_2_L1
            have hdl : decide (((rng l.length).length : Int) < len l) = false := by rw [rng_len]; simp [len]
            simp only [hdl, Bool.false_eq_true, if_false]
          · rw [roundH_cons]
            rw [List.take_length] at hI
            exact hI
theorem arg_apply (hs : Small b D c) (h : FormD b l) (hl : l.length ≤ 40) {f : Int} {q : Int} {r : T_Rule} (hr : idx b.2.1 q = some r) (new : List T_Argument) (hnew : l.length + new.length ≤ 41) :
    m_argument_builder_apply_2 (b, l, new, f) q [] = some ((new ++ roundH b l f q r r.2.2.2.1 []).take (41 - l.length)) :=
  limM_of 5 fun k hk => by
    obtain ⟨res, h1, h2⟩ := arg_apply_k hs h hl hr k r.2.2.2.1 [] new (f := f) (by simp) (by simp) (by have := hs.body hr; omega) (by simp) hnew
    rw [h1, h2]
theorem roundR_eq {f : Int} {first : Bool} {q : Int} {r : T_Rule} (hr : idx b.2.1 q = some r) : roundR b l f first q = if r.2.2.2.1 = [] then (if first then [(-1, q, [], r.2.2.2.2)] else []) else roundH b l f q r r.2.2.2.1 [] := by
  unfold roundR roundH
  rw [hr]
  dsimp only
  split
  · rename_i hb
    rw [hb]
    simp only [chS, List.filter_cons, List.filter_nil]
    cases first <;> simp [freshB, withinS]
  · rename_i hb
    congr 1
    refine List.filter_congr fun s hs => ?_
    obtain ⟨t, ht, htl, _⟩ := (chS_mem l l.length r.2.2.2.1 [] s).1 hs
    rw [List.nil_append] at ht
    subst ht
    unfold freshB
    have : s.isEmpty = false := by
      cases s with
      | nil => exact absurd (List.eq_nil_of_length_eq_zero htl.symm) hb
      | cons _ _ => rfl
    rw [this, Bool.and_false, Bool.or_false]
theorem arg_Build_L1 (h : ValidB b) : loop (m_argument_Build_L1 b) (0, ([] : List T_Argument)) = some (premA b) := by
  have hn := h.np
  have hl := premA_len b
  have := (loop_fold' (B := m_argument_Build_L1 b) (premA b) (fun s a => s ++ [a]) (fun s => s) (fun i s => s.length ≤ i) [] (by simp) (fun i a s hi hs => by
    obtain ⟨p, hp, rfl⟩ := premA_at hi
    have hlt := at_lt hp
    refine ⟨?_, by simp; omega⟩
    unfold m_argument_Build_L1
    simp only [at_dec hp, if_true, at_idx hp, Option.bind_some]
    rw [app_ok (by simp; omega)]
    simp only [Option.bind_some, at_suc hp (by omega)]) (fun s _ => by
    unfold m_argument_Build_L1
    rw [hl]
    simp only [end_dec, Bool.false_eq_true, if_false])).1
  rw [this]
  have := foldl_app_map (fun a : T_Argument => a) (premA b) []
  simpa using this
/-- one round -/
theorem arg_Build_L3 (hs : Small b D c) (h : FormD b l) (hl : l.length ≤ 40) {f : Int} {r : Nat} (hr0 : 1 ≤ r) (hr : r < 1000) (z : List T_Argument) :
    ∃ res, loop (m_argument_Build_L3 b ((r : Int), l, z, f)) (0, []) = some res ∧
      (if 40 < (l ++ roundS b l f (decide (r ≤ 1))).length then ∃ x, res = .inr (.inr (l, x, f)) ∧ l.length + x.length = 41 else res = .inl (roundS b l f (decide (r ≤ 1)))) := by
  have hnr := hs.valid.nr
  have hone : ((r : Int) == 1) = decide (r ≤ 1) := by
    rw [Bool.eq_iff_iff]
    simp only [beq_iff_eq, decide_eq_true_eq]
    omega
  refine loop_forI (B := m_argument_Build_L3 b ((r : Int), l, z, f)) (fun i (t : List T_Argument) => ((i : Int), t)) (rng b.2.1.length)
    (fun i t => t = ((rng b.2.1.length).take i).flatMap (roundR b l f (decide (r ≤ 1))) ∧ l.length + t.length ≤ 40)
    (fun res => if 40 < (l ++ roundS b l f (decide (r ≤ 1))).length then ∃ x, res = .inr (.inr (l, x, f)) ∧ l.length + x.length = 41 else res = .inl (roundS b l f (decide (r ≤ 1)))) (fun i x t hi hI => ?_) (fun t hI => ?_) [] ⟨by simp, by simpa using hl⟩
  · obtain ⟨rfl, hin⟩ := rng_at hi
    obtain ⟨ru, hru⟩ := idx_ok (l := b.2.1) (j := (i : Int)) (by omega) (by omega)
    have hd : decide ((i : Int) < len b.2.1) = true := by simp [len]; omega
    obtain ⟨hI1, hI2⟩ := hI
    -- the next part of the list
    have hnext : ((rng b.2.1.length).take (i + 1)).flatMap (roundR b l f (decide (r ≤ 1))) = t ++ roundR b l f (decide (r ≤ 1)) i := by
      rw [take_suc hi, List.flatMap_append, List.flatMap_singleton, ← hI1]
    have hpart : (t ++ roundR b l f (decide (r ≤ 1)) i).length ≤ (roundS b l f (decide (r ≤ 1))).length := by
      rw [← hnext]
      unfold roundS
      conv => rhs; rw [← List.take_append_drop (i + 1) (rng b.2.1.length), List.flatMap_append]
      rw [List.length_append]
      omega
    have hs7 : (if decide (0 < len ru.2.2.2.1) = true then (m_argument_builder_apply_2 (b, l, t, f) i []).bind fun r2 => some r2
        else if ((r : Int) == 1) = true then (app t [((-1 : Int), (i : Int), ([] : List Int), ru.2.2.2.2)]).bind fun x4 => some x4 else some t) = some ((t ++ roundR b l f (decide (r ≤ 1)) i).take (41 - l.length)) := by
      rw [roundR_eq hru, hone]
      by_cases hb : ru.2.2.2.1 = []
      · have hd0 : decide (0 < len ru.2.2.2.1) = false := by rw [hb]; rfl
        rw [if_pos hb]
        simp only [hd0, Bool.false_eq_true, if_false]
        cases hr1 : decide (r ≤ 1) with
        | true =>
          simp only [if_true]
          rw [app_ok (by simp; omega)]
          simp only [Option.bind_some]
          rw [List.take_of_length_le (by simp; omega)]
        | false =>
          simp only [Bool.false_eq_true, if_false, List.append_nil]
          rw [List.take_of_length_le (by omega)]
      · have hd0 : decide (0 < len ru.2.2.2.1) = true := by
          have := List.length_pos_iff.2 hb
          simp [len]; omega
        rw [if_neg hb]
        simp only [hd0, if_true]
        rw [arg_apply hs h hl hru t (by omega)]
        rfl
    unfold m_argument_Build_L3
    simp only [hd, if_true, hru, Option.bind_some]
    rw [hs7]
    simp only [Option.bind_some]
    rw [full_eq b l _ f (by omega) (by rw [List.length_take]; omega)]
    simp only [Option.bind_some, w64_succ i (by omega)]
    by_cases hlim : 40 < l.length + (t ++ roundR b l f (decide (r ≤ 1)) i).length
    · have hx : l.length + ((t ++ roundR b l f (decide (r ≤ 1)) i).take (41 - l.length)).length = 41 := by rw [List.length_take]; omega
      have hd4 : decide (40 < l.length + ((t ++ roundR b l f (decide (r ≤ 1)) i).take (41 - l.length)).length) = true := by simp only [decide_eq_true_eq]; omega
      simp only [hd4, if_true]
      refine .inr ⟨_, rfl, ?_⟩
      rw [if_pos (by rw [List.length_append]; omega)]
      exact ⟨_, rfl, hx⟩
    · have hx : (t ++ roundR b l f (decide (r ≤ 1)) i).take (41 - l.length) = t ++ roundR b l f (decide (r ≤ 1)) i := List.take_of_length_le (by omega)
      rw [hx]
      have hd4 : decide (40 < l.length + (t ++ roundR b l f (decide (r ≤ 1)) i).length) = false := by simp only [decide_eq_false_iff_not]; omega
      simp only [hd4, Bool.false_eq_true, if_false]
      exact .inl ⟨_, rfl, hnext.symm, by omega⟩
  · obtain ⟨hI1, hI2⟩ := hI
    rw [List.take_length] at hI1
    have : t = roundS b l f (decide (r ≤ 1)) := hI1
    unfold m_argument_Build_L3
    have hd : decide (((rng b.2.1.length).length : Int) < len b.2.1) = false := by rw [rng_len]; simp [len]
    simp only [hd, Bool.false_eq_true, if_false]
    refine ⟨_, rfl, ?_⟩
    rw [if_neg (by rw [List.length_append, ← this]; omega), this]
/-- all rounds -/
theorem arg_Build_L2 (hs : Small b D c) : ∀ (k : Nat) (l z : List T_Argument) (f : Int) (r : Nat), FormD b l → l.length ≤ 40 → 41 ≤ l.length + k → r + k ≤ 900 → 1 ≤ r →
    ∃ l' x' f', loop (m_argument_Build_L2 b) ((r : Int), l, z, f) = some (l', x', f') ∧ l'.length ≤ 100 ∧ x'.length ≤ 100 ∧
      match buildF b k l f (decide (r ≤ 1)) with | none => 40 < l'.length + x'.length | some y => l' = y ∧ x' = [] ∧ y.length ≤ 40 := by
  intro k
  induction k with
  | zero => intros; omega
  | succ k ih =>
    intro l z f r h hl hk hr h1
    obtain ⟨res, e1, e2⟩ := arg_Build_L3 hs h hl (f := f) h1 (by omega) z
    unfold buildF
    by_cases hlim : 40 < (l ++ roundS b l f (decide (r ≤ 1))).length
    · rw [if_pos hlim] at e2
      obtain ⟨x, rfl, hx⟩ := e2
      refine ⟨l, x, f, ?_, by omega, by omega, ?_⟩
      · have hstep : m_argument_Build_L2 b ((r : Int), l, z, f) = some (.inr (l, x, f)) := by
          unfold m_argument_Build_L2
          rw [e1]
          rfl
        rw [loop_eq, hstep]
      · rw [if_pos hlim]
        dsimp only
        omega
    · rw [if_neg hlim] at e2
      subst e2
      by_cases hn : roundS b l f (decide (r ≤ 1)) = []
      · refine ⟨l, [], f, ?_, by omega, by simp, ?_⟩
        · have hstep : m_argument_Build_L2 b ((r : Int), l, z, f) = some (.inr (l, [], f)) := by
            unfold m_argument_Build_L2
            rw [e1, hn]
            rfl
          rw [loop_eq, hstep]
        · rw [if_neg hlim, if_pos hn]
          exact ⟨rfl, rfl, hl⟩
      · rw [if_neg hlim, if_neg hn]
        have hpos : 0 < (roundS b l f (decide (r ≤ 1))).length := List.length_pos_iff.2 hn
        rw [List.length_append] at hlim
        obtain ⟨l', x', f', g1, g2, g3, g4⟩ := ih (l ++ roundS b l f (decide (r ≤ 1))) (roundS b l f (decide (r ≤ 1))) l.length (r + 1) (h.round hs (by rw [List.length_append]; omega)) (by rw [List.length_append]; omega) (by rw [List.length_append]; omega) (by omega) (by omega)
        rw [show decide (r + 1 ≤ 1) = false from by simp; omega] at g4
        refine ⟨l', x', f', ?_, g2, g3, g4⟩
        have hstep : m_argument_Build_L2 b ((r : Int), l, z, f) = some (.inl (((r + 1 : Nat) : Int), l ++ roundS b l f (decide (r ≤ 1)), roundS b l f (decide (r ≤ 1)), (l.length : Int))) := by
          unfold m_argument_Build_L2
          rw [e1]
          simp only [seqE, Option.bind_some]
          have hl0 : ((len (roundS b l f (decide (r ≤ 1)))) == 0) = false := by simp only [len, beq_eq_false_iff_ne]; omega
          simp only [hl0, Bool.false_eq_true, if_false]
          rw [app_ok (by omega)]
          simp only [Option.bind_some, w64_succ r (by omega)]
        rw [loop_eq, hstep]
        exact g1
theorem arg_Build (hs : Small b D c) : m_argument_Build b = some (ansB (buildS b)) := by
  unfold m_argument_Build
  rw [rb_Validate (cnt_of_valid hs.valid), validS_iff.2 hs.valid]
  simp only [Option.bind_some, bne_self_eq_false, Bool.false_eq_true, if_false]
  rw [arg_Build_L1 hs.valid]
  have hn := hs.valid.np
  obtain ⟨l', x', f', g1, g2, g3, g4⟩ := arg_Build_L2 hs 50 (premA b) [] 0 1 (premA_form hs.valid) (by rw [premA_len]; omega) (by omega) (by omega) (by omega)
  rw [show ((1 : Nat) : Int) = 1 from rfl] at g1
  simp only [Option.bind_some, g1]
  rw [full_eq b l' x' f' g2 g3]
  simp only [Option.bind_some]
  unfold buildS
  rw [show decide (1 ≤ 1) = true from rfl] at g4
  cases hb : buildF b 50 (premA b) 0 true with
  | none =>
    rw [hb] at g4
    dsimp only at g4
    simp only [g4, decide_true, if_true]
    rfl
  | some y =>
    rw [hb] at g4
    obtain ⟨rfl, rfl, g5⟩ := g4
    have hd : decide (40 < l'.length + ([] : List T_Argument).length) = false := by simp; omega
    simp only [hd, Bool.false_eq_true, if_false]
    rfl
theorem arg_Build_bad (hc : Cnt b) (h : ¬ ValidB b) : m_argument_Build b = some ([], validS b) := by
  unfold m_argument_Build
  rw [rb_Validate hc]
  have : (validS b != 0) = true := by
    rw [bne_iff_ne]
    exact fun h' => h (validS_iff.1 h')
  simp only [Option.bind_some, this, if_true]
end
section
variable {b : T_Base} {l m : List T_Argument} {D : List T_Literal} {c : Nat}
theorem FormC.pre (h : FormC b (l ++ m)) : FormC b l := by
  have key : ∀ (i : Nat) a, l[i]? = some a → (l ++ m)[i]? = some a := fun i a ha => by rw [List.getElem?_append_left (at_lt ha)]; exact ha
  have hl := h.len
  have hl41 := h.l41
  rw [List.length_append] at hl hl41
  refine ⟨⟨⟨by omega, fun a ha => h.nsub a (List.mem_append_left _ ha), fun i a ha => h.sub i a (key i a ha)⟩, h.np, h.nr, fun i a ha => h.kind i a (key i a ha)⟩, by omega, fun i a p ha => h.pr i a p (key i a ha), fun i a r ha h0 hr => ?_⟩
  obtain ⟨g1, g2, g3⟩ := h.ru i a r (key i a ha) h0 hr
  refine ⟨g1, g2, fun j k y hk hy => ?_⟩
  obtain ⟨a', e1, e2⟩ := g3 j k y hk hy
  have := h.sub i a (key i a ha) k (mem_at hk)
  have hi := at_lt ha
  rw [idx_app_lt (by omega)] at e1
  exact ⟨a', e1, e2⟩
theorem FormD.pre (h : FormD b (l ++ m)) : FormD b l := by
  refine ⟨h.toFormC.pre, fun i a r ha h0 hr => ?_⟩
  have hi := at_lt ha
  have hk : (l ++ m)[i]? = some a := by rw [List.getElem?_append_left hi]; exact ha
  rw [← within_app h.toFormC.pre h.toFormC fun k hk2 => by have := h.sub i a hk k hk2; omega]
  exact h.cut i a r hk h0 hr
theorem FormD.take (h : FormD b l) (n : Nat) : FormD b (l.take n) := by
  rw [← List.take_append_drop n l] at h
  exact h.pre
theorem buildF_pre : ∀ (k : Nat) (l : List T_Argument) (f : Int) (first : Bool) (x : List T_Argument), buildF b k l f first = some x → ∃ m, x = l ++ m
  | 0, _, _, _, _, h => by cases h
  | k + 1, l, f, first, x, hx => by
    unfold buildF at hx
    split at hx
    · cases hx
    · split at hx
      · cases hx
        exact ⟨[], by simp⟩
      · obtain ⟨m, hm⟩ := buildF_pre k _ _ _ x hx
        exact ⟨roundS b l f first ++ m, by rw [hm, List.append_assoc]⟩
theorem nodup_flat {α β : Type} {g : α → List β} : ∀ {l : List α}, l.Nodup → (∀ x ∈ l, (g x).Nodup) → (∀ x ∈ l, ∀ y ∈ l, ∀ z, z ∈ g x → z ∈ g y → x = y) → (l.flatMap g).Nodup
  | [], _, _, _ => by simp
  | x :: l, h1, h2, h3 => by
    obtain ⟨a1, a2⟩ := List.nodup_cons.1 h1
    rw [List.flatMap_cons]
    refine List.nodup_append.2 ⟨h2 x List.mem_cons_self, nodup_flat a2 (fun y hy => h2 y (List.mem_cons_of_mem _ hy)) (fun y hy z hz => h3 y (List.mem_cons_of_mem _ hy) z (List.mem_cons_of_mem _ hz)), fun z hz w hw e => ?_⟩
    subst e
    obtain ⟨y, hy, hyz⟩ := List.mem_flatMap.1 hw
    have := h3 x List.mem_cons_self y (List.mem_cons_of_mem _ hy) z hz hyz
    subst this
    exact a1 hy
theorem rng_nodup (n : Nat) : (rng n).Nodup := (rng_asc n).imp fun {x y} h => by
  simp at h
  omega
theorem chS_nodup (n : Nat) : ∀ (ys : List T_Literal) (sofar : List Int), (chS l n ys sofar).Nodup
  | [], sofar => by simp [chS]
  | y :: ys, sofar => by
    refine nodup_flat (rng_nodup n) (fun i _ => ?_) (fun i _ j _ s hi hj => ?_)
    · split
      · split
        · exact chS_nodup n ys _
        · exact List.nodup_nil
      · exact List.nodup_nil
    · have key : ∀ i, (s ∈ match idx l i with | some a => if a.2.2.2 == y then chS l n ys (sofar ++ [i]) else [] | none => []) → s[sofar.length]? = some i := fun i hs => by
        cases hx : idx l i with
        | none => rw [hx] at hs; cases hs
        | some a =>
          rw [hx] at hs
          dsimp only at hs
          split at hs
          · obtain ⟨t, rfl, _⟩ := (chS_mem l n ys (sofar ++ [i]) s).1 hs
            rw [List.append_assoc, List.getElem?_append_right (Nat.le_refl _)]
            simp
          · cases hs
      have h1 := key i hi
      have h2 := key j hj
      rw [h1] at h2
      exact Option.some.inj h2
theorem roundS_nodup {f : Int} {first : Bool} : (roundS b l f first).Nodup := by
  refine nodup_flat (rng_nodup _) (fun q _ => ?_) (fun q _ q' _ a h1 h2 => ?_)
  · unfold roundR
    split
    · refine List.Pairwise.map _ (fun s t hst => ?_) (List.Pairwise.filter _ (chS_nodup (l := l) l.length _ []))
      exact fun e => hst (by simpa using congrArg (fun a : T_Argument => a.2.2.1) e)
    · exact List.nodup_nil
  · have key : ∀ q, a ∈ roundR b l f first q → a.2.1 = q := fun q h => by
      unfold roundR at h
      split at h
      · obtain ⟨s, _, rfl⟩ := List.mem_map.1 h
        rfl
      · cases h
    rw [← key q h1, ← key q' h2]
/-- the list of now: no repetition; what is old has old subarguments -/
structure Now (b : T_Base) (l : List T_Argument) (f : Int) (first : Bool) : Prop where
  nd : l.Nodup
  old : ∀ a ∈ l, ∀ k ∈ a.2.2.1, k < f
  fst : first = true → f = 0 ∧ ∀ a ∈ l, a.2.1 < 0
  done : ∀ q r s, idx b.2.1 q = some r → s.length = r.2.2.2.1.length → (∀ (j : Nat) k y, s[j]? = some k → r.2.2.2.1[j]? = some y → ∃ a', idx l k = some a' ∧ a'.2.2.2 = y) → withinS b l q r s = true → freshB f first s = false → ((-1 : Int), q, s, r.2.2.2.2) ∈ l
theorem choice_rng {s : List Int} {bd : List T_Literal} (h1 : s.length = bd.length) (h : ∀ (j : Nat) k y, s[j]? = some k → bd[j]? = some y → ∃ a' : T_Argument, idx l k = some a' ∧ a'.2.2.2 = y) : ∀ k ∈ s, 0 ≤ k ∧ k < l.length := fun k hk => by
  obtain ⟨j, hj⟩ := List.mem_iff_getElem?.1 hk
  have := at_lt hj
  obtain ⟨a', e1, _⟩ := h j k _ hj (List.getElem?_eq_getElem (by omega))
  exact idx_lt e1
theorem Now.nodup {f : Int} {first : Bool} (hn : Now b l f first) : (l ++ roundS b l f first).Nodup := by
  refine List.nodup_append.2 ⟨hn.nd, roundS_nodup, fun a ha a' ha' e => ?_⟩
  subst e
  obtain ⟨_, r, g1, _, g2, _⟩ := roundS_mem.1 ha'
  unfold freshB at g2
  rw [Bool.or_eq_true] at g2
  rcases g2 with g2 | g2
  · obtain ⟨k, hk, hk2⟩ := List.any_eq_true.1 g2
    have := hn.old a ha k hk
    simp at hk2
    omega
  · rw [Bool.and_eq_true] at g2
    have := (hn.fst g2.1).2 a ha
    have := (idx_lt g1).1
    omega
theorem Now.next (hs : Small b D c) (h : FormD b l) {f : Int} {first : Bool} (hn : Now b l f first) (hl : (l ++ roundS b l f first).length ≤ 41) (hf : f ≤ l.length) : Now b (l ++ roundS b l f first) l.length false := by
  have h' := h.round hs hl
  refine ⟨hn.nodup, fun a ha k hk => ?_, (fun h => by cases h), fun q r s hq h1 h2 h3 h4 => ?_⟩
  · rcases List.mem_append.1 ha with ha | ha
    · have := hn.old a ha k hk
      omega
    · exact ((round_good hs a ha).1.sub k hk).2
  · have hk : ∀ k ∈ s, k < l.length := fun k hk => by
      unfold freshB at h4
      simp only [Bool.false_and, Bool.or_false, List.any_eq_false, decide_eq_true_eq] at h4
      have := h4 k hk
      omega
    have hr := choice_rng h1 h2
    have h2' : ∀ (j : Nat) k y, s[j]? = some k → r.2.2.2.1[j]? = some y → ∃ a', idx l k = some a' ∧ a'.2.2.2 = y := fun j k y hj hy => by
      obtain ⟨a', e1, e2⟩ := h2 j k y hj hy
      rw [idx_app_lt (hk k (mem_at hj))] at e1
      exact ⟨a', e1, e2⟩
    rw [within_app h.toFormC h'.toFormC fun k hk2 => ⟨(hr k hk2).1, hk k hk2⟩] at h3
    cases hfr : freshB f first s with
    | true => exact List.mem_append_right _ (roundS_mem.2 ⟨rfl, r, hq, rfl, hfr, h3, h1, h2'⟩)
    | false => exact List.mem_append_left _ (hn.done q r s hq h1 h2' h3 hfr)
theorem Now.first (h : ValidB b) : Now b (premA b) 0 true := by
  refine ⟨?_, fun a ha k hk => ?_, fun _ => ⟨rfl, fun a ha => ?_⟩, fun q r s hq h1 h2 h3 h4 => ?_⟩
  · rw [List.nodup_iff_pairwise_ne, List.pairwise_iff_getElem]
    intro i j hi hj hij e
    obtain ⟨p, _, h1⟩ := premA_at (List.getElem?_eq_getElem hi)
    obtain ⟨p', _, h2⟩ := premA_at (List.getElem?_eq_getElem hj)
    rw [h1, h2] at e
    have := congrArg (fun a : T_Argument => a.1) e
    simp at this
    omega
  · obtain ⟨i, hi⟩ := List.mem_iff_getElem?.1 ha
    obtain ⟨p, _, rfl⟩ := premA_at hi
    cases hk
  · obtain ⟨i, hi⟩ := List.mem_iff_getElem?.1 ha
    obtain ⟨p, _, rfl⟩ := premA_at hi
    show (-1 : Int) < 0
    omega
  · have hr := choice_rng h1 h2
    unfold freshB at h4
    rw [Bool.or_eq_false_iff] at h4
    cases s with
    | nil => simp at h4
    | cons k s =>
      have h5 := List.any_eq_false.1 h4.1 k List.mem_cons_self
      have h6 := hr k List.mem_cons_self
      simp at h5
      omega
/-- what the list at the end is -/
structure Whole (b : T_Base) (x : List T_Argument) : Prop where
  form : FormD b x
  len : x.length ≤ 40
  pre : ∃ m, x = premA b ++ m
  nd : x.Nodup
  all : ∀ q r s, idx b.2.1 q = some r → s.length = r.2.2.2.1.length → (∀ (j : Nat) k y, s[j]? = some k → r.2.2.2.1[j]? = some y → ∃ a', idx x k = some a' ∧ a'.2.2.2 = y) → withinS b x q r s = true → ((-1 : Int), q, s, r.2.2.2.2) ∈ x
theorem buildF_now (hs : Small b D c) : ∀ (k : Nat) (l : List T_Argument) (f : Int) (first : Bool) (x : List T_Argument), FormD b l → l.length ≤ 40 → f ≤ l.length → Now b l f first → buildF b k l f first = some x → x.Nodup ∧ ∀ q r s, idx b.2.1 q = some r → s.length = r.2.2.2.1.length → (∀ (j : Nat) k y, s[j]? = some k → r.2.2.2.1[j]? = some y → ∃ a', idx x k = some a' ∧ a'.2.2.2 = y) → withinS b x q r s = true → ((-1 : Int), q, s, r.2.2.2.2) ∈ x
  | 0, _, _, _, _, _, _, _, _, h => by cases h
  | k + 1, l, f, first, x, h, hl, hf, hn, hx => by
    unfold buildF at hx
    split at hx
    · cases hx
    · rename_i hlim
      split at hx
      · rename_i hr
        cases hx
        refine ⟨hn.nd, fun q r s hq h1 h2 h3 => ?_⟩
        cases hfr : freshB f first s with
        | true =>
          have : ((-1 : Int), q, s, r.2.2.2.2) ∈ roundS b l f first := roundS_mem.2 ⟨rfl, r, hq, rfl, hfr, h3, h1, h2⟩
          rw [hr] at this
          cases this
        | false => exact hn.done q r s hq h1 h2 h3 hfr
      · exact buildF_now hs k _ _ _ x (h.round hs (by omega)) (by omega) (by rw [List.length_append]; omega) (hn.next hs h (by omega) hf) hx
theorem buildS_whole (hs : Small b D c) {x : List T_Argument} (hx : buildS b = some x) : Whole b x := by
  have hp := hs.valid.np
  have hl : (premA b).length ≤ 40 := by rw [premA_len]; omega
  obtain ⟨g1, g2⟩ := buildF_form hs 50 (premA b) 0 true x (premA_form hs.valid) hl hx
  obtain ⟨g3, g4⟩ := buildF_now hs 50 (premA b) 0 true x (premA_form hs.valid) hl (by omega) (Now.first hs.valid) hx
  exact ⟨g1, g2, buildF_pre _ _ _ _ _ hx, g3, g4⟩
end
section
theorem keep_Odd {s : T_keep_Src} (h : SrcOk s) : ∃ (g : Bool) (x : Str) (k : Int), m_keep_Src_Odd s = some ((g, x), k) ∧ x.length ≤ 13 ∧ SrcOk (s.1, k) := by
  obtain ⟨v, k, hr, h2, h3, hk⟩ := keep_N (n := 2) h (by omega) (by omega)
  obtain ⟨x, k2, ht, hx, hk2⟩ := keep_Text (s := (s.1, k)) (l := ([[], [97], [65], [97, 49, 95], [49, 97], [95, 97], [97, 98, 99, 100, 101, 102, 103, 104, 105, 106, 107, 108], [97, 98, 99, 100, 101, 102, 103, 104, 105, 106, 107, 108, 109], [97, 126], [126, 97], [97, 32, 98]] : List Str)) hk (by simp) (by decide)
  refine ⟨v == 1, x, k2, ?_, ?_, hk2⟩
  · unfold m_keep_Src_Odd
    rw [hr]
    simp only [Option.bind_some, ht]
  · have : ∀ y ∈ ([[], [97], [65], [97, 49, 95], [49, 97], [95, 97], [97, 98, 99, 100, 101, 102, 103, 104, 105, 106, 107, 108], [97, 98, 99, 100, 101, 102, 103, 104, 105, 106, 107, 108, 109], [97, 126], [126, 97], [97, 32, 98]] : List Str), y.length ≤ 13 := by decide
    exact this x hx
end

end Go.GD
