/- The plain law: what the models compute, in plain Lean. Conditions: none. -/
import Derived.Test.YtofgcpbdgokpjaaGreatLib
import Derived.Test.YtofgcpbdgokpjaaGreatModels
import Derived.Test.YtofgcpbdgokpjaaGreatJoin
namespace Go.GD
set_option autoImplicit false

section
theorem w64_id {x : Int} (h1 : -9223372036854775808 ≤ x) (h2 : x < 9223372036854775808) : w64 x = x := by
  simp only [w64, IntKind.wrap, IntKind.signed, IntKind.bits]
  simp; omega
theorem w64_succ (n : Nat) (h : n + 1 < 9223372036854775808) : w64 ((n : Int) + 1) = ((n + 1 : Nat) : Int) := by rw [w64_id (by omega) (by omega)]; omega
theorem idx_nat {α : Type} (l : List α) (i : Nat) : idx l (i : Int) = l[i]? := by simp [idx]
theorem sidx_nat (l : Str) (i : Nat) : sidx l (i : Int) = (l[i]?).map (fun b => (b.toNat : Int)) := by simp [sidx]
theorem idx_some {α : Type} {l : List α} {i : Int} (h0 : 0 ≤ i) (h1 : i < l.length) : ∃ x, idx l i = some x ∧ l[i.toNat]? = some x := by
  have : l[i.toNat]? = some l[i.toNat] := List.getElem?_eq_getElem (by omega)
  exact ⟨_, by simp [idx, h0, this], this⟩
theorem app_ok {α : Type} {l m : List α} (h : l.length + m.length < 4294967296) : app l m = some (l ++ m) := by simp [app, h]
theorem cat_ok {l m : Str} (h : l.length + m.length < 4294967296) : cat l m = some (l ++ m) := by simp [cat, h]
theorem sub_pre {α : Type} {l : List α} {j : Int} (h1 : 0 ≤ j) (h2 : j ≤ l.length) : sub l 0 j = some (l.take j.toNat) := by simp [sub, h1, h2]
theorem sub_suf {α : Type} {l : List α} {i : Int} (h1 : 0 ≤ i) (h2 : i ≤ l.length) : sub l i (len l) = some (l.drop i.toNat) := by simp [sub, h1, h2]
/-- a walk along a list -/
def runL {σ ρ α : Type} (step : Nat → σ → α → Option (σ ⊕ ρ)) (fin : σ → Option ρ) : Nat → List α → σ → Option ρ
  | _, [], s => fin s
  | i, x :: l, s => match step i s x with
    | none => none
    | some (.inl s') => runL step fin (i + 1) l s'
    | some (.inr r) => some r
theorem loop_runL {σ ρ α τ : Type} {B : τ → Option (τ ⊕ ρ)} (mk : Nat → σ → τ) (l : List α) (step : Nat → σ → α → Option (σ ⊕ ρ)) (fin : σ → Option ρ)
    (hB : ∀ i x s, l[i]? = some x → B (mk i s) = (step i s x).map fun o => match o with | .inl s' => .inl (mk (i + 1) s') | .inr r => .inr r)
    (he : ∀ s, B (mk l.length s) = (fin s).map .inr) : ∀ (n i : Nat) (s : σ), i + n = l.length → loop B (mk i s) = runL step fin i (l.drop i) s := by
  intro n
  induction n with
  | zero =>
    intro i s h
    rw [Nat.add_zero] at h
    subst h
    rw [loop_eq, he, List.drop_length]
    cases hf : fin s <;> simp [runL, hf]
  | succ n ih =>
    intro i s h
    have hx : l[i]? = some l[i] := List.getElem?_eq_getElem (by omega)
    rw [loop_eq, hB i _ s hx, List.drop_eq_getElem_cons (by omega)]
    cases hs : step i s l[i] with
    | none => simp [runL, hs]
    | some o =>
      cases o with
      | inl s' => simp only [Option.map_some, runL, hs]; exact ih (i + 1) s' (by omega)
      | inr r => simp [runL, hs]
theorem loop_runL0 {σ ρ α τ : Type} {B : τ → Option (τ ⊕ ρ)} (mk : Nat → σ → τ) (l : List α) (step : Nat → σ → α → Option (σ ⊕ ρ)) (fin : σ → Option ρ)
    (hB : ∀ i x s, l[i]? = some x → B (mk i s) = (step i s x).map fun o => match o with | .inl s' => .inl (mk (i + 1) s') | .inr r => .inr r)
    (he : ∀ s, B (mk l.length s) = (fin s).map .inr) (s : σ) : loop B (mk 0 s) = runL step fin 0 l s := by
  have := loop_runL mk l step fin hB he l.length 0 s (by omega)
  simpa using this
/-- a loop that goes through to its end -/
theorem loop_for {ρ α : Type} {B : Int → Option (Int ⊕ ρ)} {l : List α} {r : ρ} (hB : ∀ (i : Nat) (x : α), l[i]? = some x → B (i : Int) = some (.inl ((i + 1 : Nat) : Int)))
    (he : B (l.length : Int) = some (.inr r)) : loop B 0 = some r := by
  have h := loop_runL0 (B := B) (fun i (_ : Unit) => (i : Int)) l (fun _ _ _ => some (.inl ())) (fun _ => some r) (fun i x s hx => by simp [hB i x hx]) (fun s => by simp [he]) ()
  have key : ∀ (l : List α) (i : Nat), runL (fun _ (_ : Unit) (_ : α) => some (.inl ())) (fun _ => some r) i l () = some r := by
    intro l
    induction l with
    | nil => intro i; rfl
    | cons x l ih => intro i; exact ih (i + 1)
  rw [key] at h
  exact h
/-- the same, with a state of which I holds -/
theorem loop_forI {ρ α σ τ : Type} {B : τ → Option (τ ⊕ ρ)} (mk : Nat → σ → τ) (l : List α) (I : Nat → σ → Prop) (Q : ρ → Prop)
    (hB : ∀ i x s, l[i]? = some x → I i s → (∃ s', B (mk i s) = some (.inl (mk (i + 1) s')) ∧ I (i + 1) s') ∨ ∃ r, B (mk i s) = some (.inr r) ∧ Q r)
    (he : ∀ s, I l.length s → ∃ r, B (mk l.length s) = some (.inr r) ∧ Q r) : ∀ s, I 0 s → ∃ r, loop B (mk 0 s) = some r ∧ Q r := by
  have key : ∀ n i s, i + n = l.length → I i s → ∃ r, loop B (mk i s) = some r ∧ Q r := by
    intro n
    induction n with
    | zero =>
      intro i s h hI
      rw [Nat.add_zero] at h
      subst h
      obtain ⟨r, h1, h2⟩ := he s hI
      exact ⟨r, by rw [loop_eq, h1], h2⟩
    | succ n ih =>
      intro i s h hI
      have hx : l[i]? = some l[i] := List.getElem?_eq_getElem (by omega)
      rcases hB i _ s hx hI with ⟨s', h1, h2⟩ | ⟨r, h1, h2⟩
      · obtain ⟨r, h3, h4⟩ := ih (i + 1) s' (by omega) h2
        exact ⟨r, by rw [loop_eq, h1]; exact h3, h4⟩
      · exact ⟨r, by rw [loop_eq, h1], h2⟩
  exact fun s hI => key l.length 0 s (by omega) hI
/-- rounds counted by a number alone -/
theorem loop_nat {ρ τ : Type} {B : τ → Option (τ ⊕ ρ)} (μ : τ → Nat) (I : τ → Prop) (Q : ρ → Prop)
    (step : ∀ s, I s → (∃ s', B s = some (.inl s') ∧ I s' ∧ μ s' < μ s) ∨ (∃ r, B s = some (.inr r) ∧ Q r)) (s : τ) (h : I s) : ∃ r, loop B s = some r ∧ Q r := loop_spec I μ Q step s h
end
section
/-- the reader's state as it is kept -/
structure SrcOk (s : T_keep_Src) : Prop where
  lo : 0 ≤ s.2
  hi : s.2 ≤ s.1.length
  small : s.1.length ≤ 2000
theorem keep_New (l : List Int) : m_keep_New l = some (l.take 2000, 0) := by
  unfold m_keep_New
  by_cases h : 2000 < len l
  · rw [if_pos h, sub_pre (by omega) (by simp [len] at h; omega)]; rfl
  · rw [if_neg h, sub_pre (by simp [len]) (by simp [len])]
    simp only [Option.bind_some]
    rw [List.take_of_length_le (by simp), List.take_of_length_le (by simp [len] at h; omega)]
theorem srcOk_New (l : List Int) : SrcOk (l.take 2000, 0) := ⟨Int.le_refl _, by simp, by simp; omega⟩
theorem keep_Raw {s : T_keep_Src} (h : SrcOk s) : ∃ v k, m_keep_Src_Raw s = some (v, k) ∧ SrcOk (s.1, k) := by
  obtain ⟨h1, h2, h3⟩ := h
  unfold m_keep_Src_Raw
  by_cases hk : len s.1 ≤ s.2
  · exact ⟨0, s.2, by simp [hk], h1, h2, h3⟩
  · have hk' : s.2 < s.1.length := by simpa [len] using hk
    obtain ⟨x, hx, _⟩ := idx_some h1 hk'
    refine ⟨x, s.2 + 1, ?_, by show (0 : Int) ≤ s.2 + 1; omega, by show s.2 + 1 ≤ (s.1.length : Int); omega, h3⟩
    simp only [hk, decide_false, Bool.false_eq_true, if_false]
    rw [w64_id (x := s.2 + 1) (by omega) (by omega), show s.2 + 1 - 1 = s.2 by omega, w64_id (by omega) (by omega), hx]; rfl
theorem keep_Mod {x n : Int} (h0 : 1 ≤ n) (h1 : n ≤ 4611686018427387904) : ∃ v, m_keep_Mod x n = some v ∧ 0 ≤ v ∧ v < n := by
  unfold m_keep_Mod
  have hn : ¬ n < 1 := by omega
  have hn0 : n ≠ 0 := by omega
  simp only [hn, decide_false, Bool.false_eq_true, if_false, remK, hn0, Option.bind_some]
  have ha := Int.tmod_lt_of_pos x (show 0 < n by omega)
  have hb : -n < x.tmod n := by
    have := Int.lt_tmod_of_pos x (show 0 < n by omega)
    exact this
  by_cases hx : x.tmod n < 0
  · exact ⟨x.tmod n + n, by simp [hx, w64_id (x := x.tmod n + n) (by omega) (by omega)], by omega, by omega⟩
  · exact ⟨x.tmod n, by simp [hx], by omega, ha⟩
theorem keep_N {s : T_keep_Src} {n : Int} (h : SrcOk s) (h0 : 1 ≤ n) (h1 : n ≤ 4611686018427387904) : ∃ v k, m_keep_Src_N s n = some (v, k) ∧ 0 ≤ v ∧ v < n ∧ SrcOk (s.1, k) := by
  obtain ⟨v, k, hr, hk⟩ := keep_Raw h
  obtain ⟨u, hu, h2, h3⟩ := keep_Mod (x := v) h0 h1
  exact ⟨u, k, by simp [m_keep_Src_N, hr, hu], h2, h3, hk⟩
theorem keep_Text {s : T_keep_Src} {l : List Str} (h : SrcOk s) (h0 : l ≠ []) (h1 : l.length ≤ 1000) : ∃ x k, m_keep_Src_Text s l = some (x, k) ∧ x ∈ l ∧ SrcOk (s.1, k) := by
  have hp := List.length_pos_iff.2 h0
  obtain ⟨v, k, hr, h2, h3, hk⟩ := keep_N (n := len l) h (by simp [len]; omega) (by simp [len]; omega)
  obtain ⟨x, hx, hx2⟩ := idx_some h2 h3
  exact ⟨x, k, by simp [m_keep_Src_Text, hr, hx], List.mem_of_getElem? hx2, hk⟩
/-- the names of the readers' literals -/
def atomN (k : Nat) : Str := [UInt8.ofNat (97 + k)]
theorem keep_Literal {s : T_keep_Src} {n : Int} (h : SrcOk s) (h0 : 1 ≤ n) (h1 : n ≤ 26) : ∃ (g : Bool) (j : Nat) (k : Int), m_keep_Src_Literal s n = some ((g, atomN j), k) ∧ (j : Int) < n ∧ SrcOk (s.1, k) := by
  obtain ⟨v, k, hr, h2, h3, hk⟩ := keep_N (n := 2 * n) h (by omega) (by omega)
  obtain ⟨m, rfl⟩ := Int.eq_ofNat_of_zero_le h2
  refine ⟨band .i64 m 1 == 1, m / 2, k, ?_, by omega, hk⟩
  unfold m_keep_Src_Literal
  rw [w64_id (x := 2 * n) (by omega) (by omega), hr]
  have hq : quoK .i64 (m : Int) 2 = some ((m / 2 : Nat) : Int) := by
    simp only [quoK]
    rw [if_neg (by omega)]
    show some (w64 _) = _
    have : (m : Int).tdiv 2 = ((m / 2 : Nat) : Int) := by
      rw [Int.tdiv_eq_ediv_of_nonneg (by omega)]; omega
    rw [this, w64_id (by omega) (by omega)]
  simp only [Option.bind_some, hq]
  have hw : IntKind.u8.wrap (w64 (97 + ((m / 2 : Nat) : Int))) = ((97 + m / 2 : Nat) : Int) := by
    rw [w64_id (by omega) (by omega)]
    simp only [IntKind.wrap, IntKind.signed, IntKind.bits]
    simp; omega
  rw [hw]
  rfl
end
section
theorem idxV_nat {α : Type} (l : List α) (i k : Nat) : idxV l (i : Int) (k : Int) = l[i + k]? := by
  simp only [idxV]
  rw [if_pos (by omega), show ((i : Int) + (k : Int)) = ((i + k : Nat) : Int) by omega, idx_nat]
section
variable {α : Type} [BEq α]
noncomputable def compactL2 (y0 : List α) (s1 : Int) (s3 : (List α) × Int × Int) : Option (((List α) × Int × Int) ⊕ ((List α) × Int)) :=
  if decide (s3.2.2 < ((Int.toNat (((List.length y0 : Nat) : Int) - s1) : Nat) : Int)) then
    (idxV s3.1 s1 s3.2.2).bind fun x3 =>
    (idxV s3.1 s1 (w64 (s3.2.2 - 1))).bind fun x4 =>
    if !(x3 == x4) then
      (idxV s3.1 s1 s3.2.2).bind fun x5 =>
      (idx s3.1 s3.2.1).bind fun _ =>
      some (.inl (List.set s3.1 (Int.toNat s3.2.1) x5, w64 (s3.2.1 + 1), w64 (s3.2.2 + 1)))
    else
      some (.inl (s3.1, s3.2.1, w64 (s3.2.2 + 1)))
  else
    some (.inr (s3.1, s3.2.1))
noncomputable def compactL1 (z : α) (y0 : List α) (s1 : Int) : Option (Int ⊕ (List α)) :=
  if decide (s1 < (len y0)) then
    (idx y0 s1).bind fun x1 =>
    (idx y0 (w64 (s1 - 1))).bind fun x2 =>
    if x1 == x2 then
      (chk (decide (0 ≤ s1) && decide (s1 ≤ len y0))).bind fun _ =>
      (loop (compactL2 y0 s1) (y0, s1, 1) : Option ((List α) × Int)).bind fun s2 =>
      (chk (decide (0 ≤ s2.2) && decide (s2.2 ≤ len s2.1))).bind fun _ =>
      (sub (clearFrom s2.1 s2.2 z) 0 s2.2).bind fun x7 =>
      some (.inr x7)
    else
      some (.inl (w64 (s1 + 1)))
  else
    some (.inr y0)
noncomputable def compactM (z : α) (y0 : List α) : Option (List α) :=
  if decide ((len y0) < 2) then
    some y0
  else
    loop (compactL1 z y0) 1
/-- adjacent repetitions left out -/
def dd (a : α) : List α → List α
  | [] => []
  | b :: r => if a == b then dd b r else b :: dd b r
def dedup : List α → List α
  | [] => []
  | a :: r => a :: dd a r
theorem dd_append : ∀ (r s : List α) (a : α), dd a (r ++ s) = dd a r ++ dd (r.getLastD a) s
  | [], s, a => rfl
  | b :: r, s, a => by
    simp only [List.cons_append, dd, dd_append r s b, List.getLastD_cons]
    split <;> simp
theorem dedup_take {l : List α} {j : Nat} {y x : α} (h1 : l[j]? = some y) (h2 : l[j + 1]? = some x) : dedup (l.take (j + 2)) = dedup (l.take (j + 1)) ++ if y == x then [] else [x] := by
  have e1 : l.take (j + 2) = l.take (j + 1) ++ [x] := by
    rw [List.take_add_one (i := j + 1), h2]; rfl
  have e2 : l.take (j + 1) = l.take j ++ [y] := by rw [List.take_add_one, h1]; rfl
  rw [e1]
  cases hl : l.take (j + 1) with
  | nil => rw [hl] at e2; cases h3 : l.take j <;> simp [h3] at e2
  | cons a r =>
    have hlast : r.getLastD a = y := by
      have : (a :: r).getLast? = some y := by rw [← hl, e2]; simp
      rw [← List.getLastD_cons (a := a) (b := a) (l := r), List.getLastD_eq_getLast?, this]; rfl
    simp only [List.cons_append, dedup, dd_append, hlast, dd]
theorem dd_len : ∀ (r : List α) (a : α), (dd a r).length ≤ r.length
  | [], _ => Nat.le_refl _
  | b :: r, a => by
    simp only [dd]
    have := dd_len r b
    split <;> simp <;> omega
theorem dedup_len (l : List α) : (dedup l).length ≤ l.length := by
  cases l with
  | nil => simp [dedup]
  | cons a r => have := dd_len r a; simp [dedup]; omega
/-- the inner loop -/
theorem compactL2_spec [LawfulBEq α] (l : List α) (i0 : Nat) (h0 : 1 ≤ i0) (hi : i0 < l.length) (hbig : l.length < 9223372036854775807) (hd : dedup (l.take (i0 + 1)) = dedup (l.take i0)) (hk : dedup (l.take i0) = l.take i0) :
    ∃ c k, loop (compactL2 l (i0 : Int)) (l, (i0 : Int), 1) = some (c, ((k : Nat) : Int)) ∧ c.length = l.length ∧ k ≤ l.length ∧ c.take k = dedup l := by
  have key : ∀ n k2 (c : List α) (k : Nat), i0 + k2 + n = l.length → 1 ≤ k2 → c.length = l.length → k + 1 ≤ i0 + k2 → (∀ j, i0 + k2 ≤ j + 1 → c[j]? = l[j]?) → c.take k = dedup (l.take (i0 + k2)) →
      ∃ c' k', loop (compactL2 l (i0 : Int)) (c, (k : Int), (k2 : Int)) = some (c', ((k' : Nat) : Int)) ∧ c'.length = l.length ∧ k' ≤ l.length ∧ c'.take k' = dedup l := by
    intro n
    induction n with
    | zero =>
      intro k2 c k hn h1 hc hk1 hsame htake
      refine ⟨c, k, ?_, hc, by omega, ?_⟩
      · rw [loop_eq]
        unfold compactL2
        have : decide ((k2 : Int) < ((Int.toNat (((List.length l : Nat) : Int) - (i0 : Int)) : Nat) : Int)) = false := by simp; omega
        simp only [this, Bool.false_eq_true, if_false]
      · rw [htake, List.take_of_length_le (by omega)]
    | succ n ih =>
      intro k2 c k hn h1 hc hk1 hsame htake
      have hx : l[i0 + k2]? = some l[i0 + k2] := List.getElem?_eq_getElem (by omega)
      have hy : l[i0 + k2 - 1]? = some l[i0 + k2 - 1] := List.getElem?_eq_getElem (by omega)
      have hcx : c[i0 + k2]? = some l[i0 + k2] := by rw [hsame _ (by omega)]; exact hx
      have hcy : c[i0 + (k2 - 1)]? = some l[i0 + k2 - 1] := by rw [hsame _ (by omega), ← hy]; congr 1; omega
      have hlt : decide ((k2 : Int) < ((Int.toNat (((List.length l : Nat) : Int) - (i0 : Int)) : Nat) : Int)) = true := by simp; omega
      have hw1 : w64 ((k2 : Int) - 1) = ((k2 - 1 : Nat) : Int) := by rw [w64_id (by omega) (by omega)]; omega
      have hdt := dedup_take (l := l) (j := i0 + k2 - 1) (y := l[i0 + k2 - 1]) (x := l[i0 + k2]) hy (by rw [show i0 + k2 - 1 + 1 = i0 + k2 by omega]; exact hx)
      rw [show i0 + k2 - 1 + 2 = i0 + (k2 + 1) by omega, show i0 + k2 - 1 + 1 = i0 + k2 by omega] at hdt
      have hklt : k < c.length := by omega
      rw [loop_eq]
      unfold compactL2
      simp only [hlt, if_true, idxV_nat, hcx, Option.bind_some, hw1, hcy]
      rw [BEq.comm]
      have hklt' : idx c (k : Int) = some c[k] := by rw [idx_nat]; exact List.getElem?_eq_getElem hklt
      cases hb : l[i0 + k2 - 1] == l[i0 + k2] with
      | true =>
        simp only [Bool.not_true, Bool.false_eq_true, if_false]
        rw [w64_succ k2 (by omega)]
        have := ih (k2 + 1) c k (by omega) (by omega) hc (by omega) (fun j hj => hsame j (by omega)) (by rw [hdt, hb]; simpa using htake)
        exact this
      | false =>
        simp only [Bool.not_false, if_true, hklt', Option.bind_some]
        rw [w64_succ k2 (by omega), w64_succ k (by omega), Int.toNat_natCast]
        refine ih (k2 + 1) (c.set k l[i0 + k2]) (k + 1) (by omega) (by omega) (by simp [hc]) (by omega) (fun j hj => ?_) ?_
        · rw [List.getElem?_set_ne (by omega)]; exact hsame j (by omega)
        · rw [hdt, hb, ← htake]
          rw [List.take_add_one, List.getElem?_set_self hklt, List.take_set_of_le (Nat.le_refl _)]
          rfl
  have hsome : l[i0]? = some l[i0] := List.getElem?_eq_getElem hi
  refine key (l.length - (i0 + 1)) 1 l i0 (by omega) (Nat.le_refl _) rfl (by omega) (fun j _ => rfl) ?_
  rw [hd, hk]
theorem compactM_spec [LawfulBEq α] (z : α) (l : List α) (hbig : l.length < 9223372036854775807) : compactM z l = some (dedup l) := by
  unfold compactM
  by_cases h2 : l.length < 2
  · have : decide (len l < 2) = true := by simp [len]; omega
    simp only [this, if_true]
    match l, h2 with
    | [], _ => rfl
    | [a], _ => rfl
  · have : decide (len l < 2) = false := by simp [len]; omega
    simp only [this, Bool.false_eq_true, if_false]
    have key : ∀ n k, k + n = l.length → 1 ≤ k → dedup (l.take k) = l.take k → loop (compactL1 z l) (k : Int) = some (dedup l) := by
      intro n
      induction n with
      | zero =>
        intro k hn h1 hp
        rw [loop_eq]
        unfold compactL1
        have : decide ((k : Int) < len l) = false := by simp [len]; omega
        simp only [this, Bool.false_eq_true, if_false]
        rw [List.take_of_length_le (by omega)] at hp
        rw [hp]
      | succ n ih =>
        intro k hn h1 hp
        have hx : l[k]? = some l[k] := List.getElem?_eq_getElem (by omega)
        have hy : l[k - 1]? = some l[k - 1] := List.getElem?_eq_getElem (by omega)
        have hlt : decide ((k : Int) < len l) = true := by simp [len]; omega
        have hw1 : w64 ((k : Int) - 1) = ((k - 1 : Nat) : Int) := by rw [w64_id (by omega) (by omega)]; omega
        have hdt := dedup_take (l := l) (j := k - 1) (y := l[k - 1]) (x := l[k]) hy (by rw [show k - 1 + 1 = k by omega]; exact hx)
        rw [show k - 1 + 2 = k + 1 by omega, show k - 1 + 1 = k by omega, hp] at hdt
        rw [loop_eq]
        unfold compactL1
        simp only [hlt, if_true, idx_nat, hx, hw1, hy, Option.bind_some]
        rw [BEq.comm]
        cases hb : l[k - 1] == l[k] with
        | true =>
          have hc1 : (decide (0 ≤ (k : Int)) && decide ((k : Int) ≤ len l)) = true := by simp [len]; omega
          obtain ⟨c, q, hl, hcl, hq, htk⟩ := compactL2_spec l k h1 (by omega) hbig (by rw [hdt, hb, hp]; simp) hp
          have hc2 : (decide (0 ≤ ((q : Nat) : Int)) && decide (((q : Nat) : Int) ≤ len c)) = true := by simp [len]; omega
          simp only [if_true, hc1, chk, Option.bind_some, hl, hc2]
          rw [sub_pre (by omega) (by rw [length_clearFrom, hcl]; omega)]
          simp only [Option.bind_some, Int.toNat_natCast, clearFrom, htk]
          have hdl : (dedup l).length = q := by rw [← htk, List.length_take]; omega
          rw [← hdl, List.take_left]
        | false =>
          simp only [Bool.false_eq_true, if_false]
          rw [w64_succ k (by omega)]
          refine ih (k + 1) (by omega) (by omega) ?_
          rw [hdt, hb, List.take_add_one, hx]; rfl
    exact key (l.length - 1) 1 (by omega) (Nat.le_refl _) (by match l, h2 with | a :: r, _ => rfl)
end
section
variable {α : Type} {lt : α → α → Bool}
/-- a strict order in which two that do not differ are one -/
structure Ord1 (lt : α → α → Bool) : Prop where
  irrefl : ∀ x, lt x x = false
  trans : ∀ x y z, lt x y = true → lt y z = true → lt x z = true
  tri : ∀ x y, lt x y = true ∨ x = y ∨ lt y x = true
abbrev Asc (lt : α → α → Bool) (l : List α) : Prop := l.Pairwise fun x y => lt x y = true
theorem Ord1.asymm (O : Ord1 lt) {x y : α} (h : lt x y = true) : lt y x = false := by
  cases hb : lt y x with
  | false => rfl
  | true => have := O.trans _ _ _ h hb; rw [O.irrefl] at this; cases this
/-- two ascending lists with the same elements are one -/
theorem Asc.ext (O : Ord1 lt) : ∀ {l m : List α}, Asc lt l → Asc lt m → (∀ x, x ∈ l ↔ x ∈ m) → l = m
  | [], [], _, _, _ => rfl
  | [], y :: m, _, _, h => by have := (h y).2 (List.mem_cons_self); cases this
  | x :: l, [], _, _, h => by have := (h x).1 (List.mem_cons_self); cases this
  | x :: l, y :: m, hl, hm, h => by
    obtain ⟨h1, h2⟩ := List.pairwise_cons.1 hl
    obtain ⟨h3, h4⟩ := List.pairwise_cons.1 hm
    have hxy : x = y := by
      rcases List.mem_cons.1 ((h x).1 (List.mem_cons_self)) with h5 | h5
      · exact h5
      · rcases List.mem_cons.1 ((h y).2 (List.mem_cons_self)) with h6 | h6
        · exact h6.symm
        · have := O.asymm (h3 x h5); rw [h1 y h6] at this; cases this
    subst hxy
    congr 1
    refine Asc.ext O h2 h4 fun z => ⟨fun hz => ?_, fun hz => ?_⟩
    · rcases List.mem_cons.1 ((h z).1 (List.mem_cons_of_mem _ hz)) with rfl | h5
      · have := h1 z hz; rw [O.irrefl] at this; cases this
      · exact h5
    · rcases List.mem_cons.1 ((h z).2 (List.mem_cons_of_mem _ hz)) with rfl | h5
      · have := h3 z hz; rw [O.irrefl] at this; cases this
      · exact h5
/-- in order, repetitions allowed -/
theorem asc_dedup [BEq α] [LawfulBEq α] (O : Ord1 lt) : ∀ {l : List α}, l.Pairwise (fun x y => lt y x = false) → Asc lt (dedup l) ∧ ∀ x, x ∈ dedup l ↔ x ∈ l := by
  have key : ∀ (r : List α) (a : α), (a :: r).Pairwise (fun x y => lt y x = false) → Asc lt (a :: dd a r) ∧ ∀ x, x ∈ a :: dd a r ↔ x ∈ a :: r := by
    intro r
    induction r with
    | nil => intro a _; simp [dd]
    | cons b r ih =>
      intro a h
      obtain ⟨h1, h2⟩ := List.pairwise_cons.1 h
      obtain ⟨i1, i2⟩ := ih b h2
      by_cases hab : a = b
      · subst hab
        simp only [dd, beq_self_eq_true, if_true]
        refine ⟨i1, fun x => ?_⟩
        rw [i2]; simp
      · have hb : (a == b) = false := beq_eq_false_iff_ne.2 hab
        simp only [dd, hb, Bool.false_eq_true, if_false]
        have hlt : lt a b = true := by
          rcases O.tri a b with h | h | h
          · exact h
          · exact absurd h hab
          · rw [h1 b (List.mem_cons_self)] at h; cases h
        refine ⟨List.pairwise_cons.2 ⟨fun y hy => ?_, i1⟩, fun x => ?_⟩
        · rcases List.mem_cons.1 hy with rfl | hy
          · exact hlt
          · exact O.trans _ _ _ hlt ((List.pairwise_cons.1 i1).1 y hy)
        · rw [List.mem_cons, i2]; simp
  intro l h
  cases l with
  | nil => simp [dedup]
  | cons a r => exact key r a h
theorem sorted_merge (O : Ord1 lt) (l : List α) : (l.mergeSort fun x y => !lt y x).Pairwise (fun x y => lt y x = false) := by
  have h := List.pairwise_mergeSort (le := fun x y => !lt y x) (fun a b c h1 h2 => ?_) (fun a b => ?_) l
  · exact h.imp fun h => by simpa using h
  · simp only [Bool.not_eq_true'] at *
    cases h3 : lt c a with
    | false => rfl
    | true =>
      rcases O.tri a b with h | rfl | h
      · have := O.trans _ _ _ h3 h; rw [this] at h2; cases h2
      · rw [h3] at h2; cases h2
      · rw [h] at h1; cases h1
  · cases h : lt b a with
    | false => simp
    | true => simp [O.asymm h]
/-- sorted, each once -/
def nrm [BEq α] (lt : α → α → Bool) (l : List α) : List α := dedup (l.mergeSort fun x y => !lt y x)
theorem nrm_spec [BEq α] [LawfulBEq α] (O : Ord1 lt) (l : List α) : Asc lt (nrm lt l) ∧ ∀ x, x ∈ nrm lt l ↔ x ∈ l := by
  obtain ⟨h1, h2⟩ := asc_dedup O (sorted_merge O l)
  exact ⟨h1, fun x => by rw [nrm, h2, List.mem_mergeSort]⟩
theorem nrm_eq [BEq α] [LawfulBEq α] (O : Ord1 lt) {l m : List α} (h1 : Asc lt m) (h2 : ∀ x, x ∈ m ↔ x ∈ l) : nrm lt l = m := by
  obtain ⟨h3, h4⟩ := nrm_spec O l
  exact Asc.ext O h3 h1 fun x => by rw [h4, h2]
theorem nrm_len [BEq α] (lt : α → α → Bool) (l : List α) : (nrm lt l).length ≤ l.length := by
  have := dedup_len (l.mergeSort fun x y => !lt y x)
  simpa [nrm] using this
end
section
variable {α : Type} [BEq α]
noncomputable def indexL (y0 : List α) (y1 : α) (s1 : Int) : Option (Int ⊕ Int) :=
  if decide (s1 < (len y0)) then
    (idx y0 s1).bind fun x1 =>
    if y1 == x1 then
      some (.inr s1)
    else
      some (.inl (w64 (s1 + 1)))
  else
    some (.inr (-1))
noncomputable def indexM (y0 : List α) (y1 : α) : Option Int := loop (indexL y0 y1) 0
theorem indexM_spec (l : List α) (x : α) (hb : l.length < 9223372036854775807) : ∃ r, indexM l x = some r ∧ (0 ≤ r ↔ ∃ y ∈ l, x == y) := by
  have h := loop_forI (B := indexL l x) (fun i (_ : Unit) => (i : Int)) l (fun i _ => ∀ j y, j < i → l[j]? = some y → (x == y) = false) (fun r => (0 ≤ r ↔ ∃ y ∈ l, x == y)) ?_ ?_ () (by simp)
  · exact h
  · intro i y s hy hI
    have hi := (List.getElem?_eq_some_iff.1 hy).1
    have hlt : decide ((i : Int) < len l) = true := by simp [len]; omega
    unfold indexL
    simp only [hlt, if_true, idx_nat, hy, Option.bind_some]
    cases hxy : x == y with
    | true => exact .inr ⟨_, rfl, ⟨fun _ => ⟨y, List.mem_of_getElem? hy, hxy⟩, fun _ => by omega⟩⟩
    | false =>
      refine .inl ⟨(), by simp [w64_succ i (by omega)], fun j z hj hz => ?_⟩
      rcases Nat.lt_succ_iff_lt_or_eq.1 hj with h | rfl
      · exact hI j z h hz
      · rw [hy] at hz; cases hz; exact hxy
  · intro s hI
    unfold indexL
    refine ⟨-1, by simp [len], ⟨fun h => by omega, fun ⟨y, hy, hxy⟩ => ?_⟩⟩
    obtain ⟨j, hj⟩ := List.mem_iff_getElem?.1 hy
    rw [hI j y (List.getElem?_eq_some_iff.1 hj).1 hj] at hxy
    cases hxy
noncomputable def sameL (y0 : List α) (y1 : List α) (s1 : Int) : Option (Int ⊕ Bool) :=
  if decide (s1 < (len y0)) then
    (idx y0 s1).bind fun x1 =>
    (idx y1 s1).bind fun x2 =>
    if !(x1 == x2) then
      some (.inr false)
    else
      some (.inl (w64 (s1 + 1)))
  else
    some (.inr true)
noncomputable def sameM (y0 : List α) (y1 : List α) : Option Bool :=
  if (len y0) != (len y1) then
    some false
  else
    loop (sameL y0 y1) 0
theorem sameM_spec [DecidableEq α] [LawfulBEq α] (l m : List α) (hb : l.length < 9223372036854775807) : sameM l m = some (decide (l = m)) := by
  unfold sameM
  by_cases hl : l.length = m.length
  · have h0 : (len l != len m) = false := by simp [len, hl]
    simp only [h0, Bool.false_eq_true, if_false]
    have h := loop_forI (B := sameL l m) (fun i (_ : Unit) => (i : Int)) l (fun i _ => ∀ j, j < i → l[j]? = m[j]?) (fun r => r = decide (l = m)) ?_ ?_ () (by simp)
    · obtain ⟨r, h1, rfl⟩ := h; exact h1
    · intro i x s hx hI
      have hi := (List.getElem?_eq_some_iff.1 hx).1
      have hy : m[i]? = some m[i] := List.getElem?_eq_getElem (by omega)
      have hlt : decide ((i : Int) < len l) = true := by simp [len]; omega
      unfold sameL
      simp only [hlt, if_true, idx_nat, hx, hy, Option.bind_some]
      by_cases he : x = m[i]
      · refine .inl ⟨(), by simp [he, w64_succ i (by omega)], fun j hj => ?_⟩
        rcases Nat.lt_succ_iff_lt_or_eq.1 hj with h | rfl
        · exact hI j h
        · rw [hx, hy, he]
      · refine .inr ⟨false, by simp [he], ?_⟩
        symm
        rw [decide_eq_false_iff_not]
        intro h; subst h
        rw [hx] at hy; cases hy; exact he rfl
    · intro s hI
      refine ⟨true, by unfold sameL; simp [len], ?_⟩
      symm
      rw [decide_eq_true_iff]
      apply List.ext_getElem?
      intro j
      by_cases hj : j < l.length
      · exact hI j hj
      · rw [List.getElem?_eq_none (by omega), List.getElem?_eq_none (by omega)]
  · have h0 : (len l != len m) = true := by simp [len]; omega
    simp only [h0, if_true]
    congr 1; symm
    rw [decide_eq_false_iff_not]
    intro h; subst h; exact hl rfl
end
end
section
/-- whatever the one answers, the other answers -/
structure Le {α : Type} (a b : Option α) : Prop where
  el : ∀ r, a = some r → b = some r
theorem Le.refl {α : Type} (a : Option α) : Le a a := ⟨fun _ h => h⟩
theorem Le.bind {α β : Type} {a b : Option α} {f g : α → Option β} (h : Le a b) (k : ∀ x, Le (f x) (g x)) : Le (a.bind f) (b.bind g) := ⟨fun r hr => by
  cases a with
  | none => cases hr
  | some x => rw [h.el x rfl]; exact (k x).el r hr⟩
theorem Le.ite {α : Type} {c : Prop} [Decidable c] {a b a' b' : Option α} (h : Le a b) (k : Le a' b') : Le (if c then a else a') (if c then b else b') := by
  split
  · exact h
  · exact k
theorem Le.seqE {σ α : Type} {a b : Option (σ ⊕ α)} {f g : σ → Option α} (h : Le a b) (k : ∀ x, Le (f x) (g x)) : Le (seqE a f) (seqE b g) :=
  Le.bind h fun o => by
    cases o with
    | inl s => exact k s
    | inr r => exact Le.refl _
theorem Le.none {α : Type} (b : Option α) : Le none b := ⟨fun _ h => nomatch h⟩
abbrev lp {σ ρ : Type} (n : Nat) (B : σ → Option (σ ⊕ ρ)) (s : σ) : Option ρ := iter B n s
theorem Le.lp {σ ρ : Type} {B C : σ → Option (σ ⊕ ρ)} (h : ∀ s, Le (B s) (C s)) (n : Nat) (s : σ) : Le (lp n B s) (loop C s) := by
  refine ⟨fun r hr => ?_⟩
  refine loop_of_iter (n := n) ?_
  revert s
  induction n with
  | zero => intro s hr; cases hr
  | succ n ih =>
    intro s hr
    simp only [iter] at hr ⊢
    cases hb : B s with
    | none => rw [hb] at hr; cases hr
    | some o =>
      rw [hb] at hr
      rw [(h s).el o hb]
      cases o with
      | inl s' => exact ih s' hr
      | inr r' => exact hr
theorem Le.lim {α : Type} {a : Option α} {f : Nat → Option α} (n : Nat) (h : ∀ m, n ≤ m → Le a (f m)) : Le a (limM f) := ⟨fun r hr => limM_of n fun m hm => (h m hm).el r hr⟩
/-- sorting that can be computed -/
def ins {α : Type} (lt : α → α → Bool) (x : α) : List α → List α
  | [] => [x]
  | y :: r => if lt y x then y :: ins lt x r else x :: y :: r
def isort {α : Type} (lt : α → α → Bool) : List α → List α
  | [] => []
  | x :: r => ins lt x (isort lt r)
end
section
abbrev ltI (x y : Int) : Bool := decide (x < y)
abbrev cmpI (x y : Int) : Int := if x < y then -1 else if y < x then 1 else 0
/-- the first number that is not 0 -/
def orF : List Int → Int
  | [] => 0
  | x :: r => if x != 0 then x else orF r
/-- first by the one, then by the other -/
abbrev lexLt {α β : Type} [BEq α] (lt1 : α → α → Bool) (lt2 : β → β → Bool) (x y : α × β) : Bool := lt1 x.1 y.1 || (x.1 == y.1 && lt2 x.2 y.2)
theorem ord_ltI : Ord1 ltI := ⟨fun x => by simp, fun x y z h1 h2 => by simp at *; omega, fun x y => by simp; omega⟩
theorem ord_lex {α β : Type} [BEq α] [LawfulBEq α] {lt1 : α → α → Bool} {lt2 : β → β → Bool} (O1 : Ord1 lt1) (O2 : Ord1 lt2) : Ord1 (lexLt lt1 lt2) := by
  refine ⟨fun x => by simp [O1.irrefl, O2.irrefl], fun x y z h1 h2 => ?_, fun x y => ?_⟩
  · simp only [lexLt, Bool.or_eq_true, Bool.and_eq_true, beq_iff_eq] at *
    rcases h1 with h1 | ⟨h1, h1'⟩ <;> rcases h2 with h2 | ⟨h2, h2'⟩
    · exact .inl (O1.trans _ _ _ h1 h2)
    · exact .inl (h2 ▸ h1)
    · exact .inl (h1 ▸ h2)
    · exact .inr ⟨h1.trans h2, O2.trans _ _ _ h1' h2'⟩
  · obtain ⟨a, b⟩ := x; obtain ⟨c, d⟩ := y
    simp only [lexLt, Bool.or_eq_true, Bool.and_eq_true, beq_iff_eq, Prod.mk.injEq]
    rcases O1.tri a c with h | rfl | h
    · exact .inl (.inl h)
    · rcases O2.tri b d with h | rfl | h
      · exact .inl (.inr ⟨rfl, h⟩)
      · exact .inr (.inl ⟨rfl, rfl⟩)
      · exact .inr (.inr (.inr ⟨rfl, h⟩))
    · exact .inr (.inr (.inl h))
theorem OrdF.of {α : Type} {f : α → α → Option Int} {lt : α → α → Bool} (O : Ord1 lt) (ht : ∀ x y, ∃ n, f x y = some n) (h : ∀ x y, ltF f x y = lt x y) : OrdF f := by
  refine ⟨ht, fun x => by rw [h, O.irrefl], fun x y z h1 h2 => ?_, fun x y z h1 h2 => ?_, fun x y h1 h2 => ?_⟩
  · rw [h] at *; exact O.trans _ _ _ h1 h2
  · rw [h] at *
    cases h3 : lt x z with
    | false => rfl
    | true =>
      rcases O.tri x y with h4 | rfl | h4
      · rw [h4] at h1; cases h1
      · rw [h3] at h2; cases h2
      · have := O.trans _ _ _ h4 h3; rw [this] at h2; cases h2
  · rw [h] at *
    rcases O.tri x y with h4 | h4 | h4
    · rw [h4] at h1; cases h1
    · exact h4
    · rw [h4] at h2; cases h2
theorem sortF_ok {α : Type} {f : α → α → Option Int} {lt : α → α → Bool} (O : Ord1 lt) (ht : ∀ x y, ∃ n, f x y = some n) (h : ∀ x y, ltF f x y = lt x y) {l : List α} (hl : l.length < 4294967296) :
    sortF f l = some (l.mergeSort fun x y => !lt y x) := by
  unfold sortF
  rw [if_pos ⟨OrdF.of O ht h, hl⟩]
  have : (fun x y => !ltF f y x) = fun x y => !lt y x := by funext x y; rw [h]
  rw [this]
noncomputable def orL (y0 : List Int) (s1 : Int) : Option (Int ⊕ Int) :=
  if decide (s1 < (len y0)) then
    (idx y0 s1).bind fun x1 =>
    if x1 != 0 then
      some (.inr x1)
    else
      some (.inl (w64 (s1 + 1)))
  else
    some (.inr 0)
theorem orL_spec (l : List Int) (hb : l.length < 9223372036854775807) : loop (orL l) 0 = some (orF l) := by
  have h := loop_runL0 (B := orL l) (fun i (_ : Unit) => (i : Int)) l (fun _ _ x => if x != 0 then some (.inr x) else some (.inl ())) (fun _ => some 0) (fun i x s hx => ?_) (fun s => by simp [orL, len]) ()
  · have key : ∀ (l : List Int) (i : Nat), runL (fun _ (_ : Unit) (x : Int) => if x != 0 then some (Sum.inr x) else some (.inl ())) (fun _ => some 0) i l () = some (orF l) := by
      intro l
      induction l with
      | nil => intro i; rfl
      | cons x l ih =>
        intro i
        by_cases hx : x = 0
        · subst hx; exact ih (i + 1)
        · simp [runL, orF, hx]
    rw [key] at h
    exact h
  · have hi := (List.getElem?_eq_some_iff.1 hx).1
    unfold orL
    have hlt : decide ((i : Int) < len l) = true := by simp [len]; omega
    simp only [hlt, if_true, idx_nat, hx, Option.bind_some]
    by_cases h0 : x = 0
    · subst h0; simp [w64_succ i (by omega)]
    · simp [h0]
section
variable {α : Type} {lt : α → α → Bool}
theorem ins_perm (x : α) : ∀ l : List α, (ins lt x l).Perm (x :: l)
  | [] => List.Perm.refl _
  | y :: r => by
    unfold ins
    split
    · exact ((ins_perm x r).cons y).trans (List.Perm.swap x y r)
    · exact List.Perm.refl _
theorem isort_perm : ∀ l : List α, (isort lt l).Perm l
  | [] => List.Perm.refl _
  | x :: r => (ins_perm x _).trans ((isort_perm r).cons x)
theorem ins_sorted (O : Ord1 lt) (x : α) : ∀ l : List α, l.Pairwise (fun x y => lt y x = false) → (ins lt x l).Pairwise (fun x y => lt y x = false)
  | [], _ => by simp [ins]
  | y :: r, h => by
    obtain ⟨h1, h2⟩ := List.pairwise_cons.1 h
    unfold ins
    split
    · rename_i hlt
      refine List.pairwise_cons.2 ⟨fun z hz => ?_, ins_sorted O x r h2⟩
      rcases List.mem_cons.1 ((ins_perm x r).mem_iff.1 hz) with rfl | hz
      · exact O.asymm hlt
      · exact h1 z hz
    · rename_i hlt
      have hyx : lt y x = false := by simpa using hlt
      refine List.pairwise_cons.2 ⟨fun z hz => ?_, h⟩
      rcases List.mem_cons.1 hz with rfl | hz
      · exact hyx
      · cases hzx : lt z x with
        | false => rfl
        | true =>
          have hzy := h1 z hz
          rcases O.tri x y with h3 | rfl | h3
          · rw [O.trans _ _ _ hzx h3] at hzy; cases hzy
          · rw [hzx] at hzy; cases hzy
          · rw [h3] at hyx; cases hyx
theorem isort_sorted (O : Ord1 lt) : ∀ l : List α, (isort lt l).Pairwise (fun x y => lt y x = false)
  | [] => List.Pairwise.nil
  | x :: r => ins_sorted O x _ (isort_sorted O r)
theorem merge_isort (O : Ord1 lt) (l : List α) : (l.mergeSort fun x y => !lt y x) = isort lt l := by
  refine List.Perm.eq_of_pairwise (le := fun x y => lt y x = false) (fun a b _ _ h1 h2 => ?_) (sorted_merge O l) (isort_sorted O l) ((List.mergeSort_perm _ _).trans (isort_perm l).symm)
  rcases O.tri a b with h | h | h
  · rw [h] at h2; cases h2
  · exact h
  · rw [h] at h1; cases h1
end
theorem sortI_isort {l : List Int} (h : l.length < 4294967296) : sortI l = some (isort ltI l) := by
  unfold sortI
  rw [if_pos h, ← merge_isort ord_ltI]
  have : (fun x y : Int => decide (x ≤ y)) = fun x y => !ltI y x := by
    funext x y
    rw [Bool.eq_iff_iff]; simp
  rw [this]
end
section
section
variable {α : Type} {l : List α} {i : Nat} {x : α}
theorem at_lt (h : l[i]? = some x) : i < l.length := (List.getElem?_eq_some_iff.1 h).1
theorem at_dec (h : l[i]? = some x) : decide ((i : Int) < len l) = true := by have := at_lt h; simp [len]; omega
theorem end_dec (l : List α) : decide (((l.length : Nat) : Int) < len l) = false := by simp [len]
theorem at_idx (h : l[i]? = some x) : idx l (i : Int) = some x := by rw [idx_nat]; exact h
theorem at_suc (h : l[i]? = some x) (hl : l.length < 4294967296) : w64 ((i : Int) + 1) = ((i + 1 : Nat) : Int) := w64_succ i (by have := at_lt h; omega)
theorem idx_at {j : Int} (h : idx l j = some x) : ∃ n : Nat, j = (n : Int) ∧ l[n]? = some x := by
  unfold idx at h
  split at h
  · rename_i h0; exact ⟨j.toNat, by omega, h⟩
  · cases h
theorem idx_ok {j : Int} (h0 : 0 ≤ j) (h1 : j < l.length) : ∃ x, idx l j = some x := by obtain ⟨x, h, _⟩ := idx_some h0 h1; exact ⟨x, h⟩
theorem take_suc (h : l[i]? = some x) : l.take (i + 1) = l.take i ++ [x] := by rw [List.take_add_one, h]; rfl
theorem mem_at (h : l[i]? = some x) : x ∈ l := List.mem_of_getElem? h
end
section
variable {α σ ρ : Type}
/-- a walk along a list with a state: (state, place) -/
theorem loop_fold {B : σ × Int → Option ((σ × Int) ⊕ ρ)} (l : List α) (f : σ → α → σ) (fin : σ → ρ) (I : Nat → σ → Prop) (s : σ) (h0 : I 0 s)
    (hB : ∀ (i : Nat) x s, l[i]? = some x → I i s → B (s, (i : Int)) = some (.inl (f s x, ((i + 1 : Nat) : Int))) ∧ I (i + 1) (f s x))
    (he : ∀ s, I l.length s → B (s, (l.length : Int)) = some (.inr (fin s))) : loop B (s, 0) = some (fin (l.foldl f s)) ∧ I l.length (l.foldl f s) := by
  have key : ∀ (n i : Nat) (s : σ), i + n = l.length → I i s → loop B (s, (i : Int)) = some (fin ((l.drop i).foldl f s)) ∧ I l.length ((l.drop i).foldl f s) := by
    intro n
    induction n with
    | zero =>
      intro i s h hI
      rw [Nat.add_zero] at h
      subst h
      rw [loop_eq, he s hI, List.drop_length]
      exact ⟨rfl, hI⟩
    | succ n ih =>
      intro i s h hI
      have hx : l[i]? = some l[i] := List.getElem?_eq_getElem (by omega)
      obtain ⟨h1, h2⟩ := hB i _ s hx hI
      rw [loop_eq, h1, List.drop_eq_getElem_cons (by omega)]
      exact ih (i + 1) _ (by omega) h2
  have := key l.length 0 s (by omega) h0
  simpa using this
/-- the same from a place on -/
theorem loop_foldK {B : σ × Int → Option ((σ × Int) ⊕ ρ)} (l : List α) (f : σ → α → σ) (fin : σ → ρ) (k : Nat) (hk : k ≤ l.length) (s : σ)
    (hB : ∀ (i : Nat) x s, l[i]? = some x → B (s, (i : Int)) = some (.inl (f s x, ((i + 1 : Nat) : Int))))
    (he : ∀ s, B (s, (l.length : Int)) = some (.inr (fin s))) : loop B (s, (k : Int)) = some (fin ((l.drop k).foldl f s)) := by
  have key : ∀ (n i : Nat) (s : σ), i + n = l.length → loop B (s, (i : Int)) = some (fin ((l.drop i).foldl f s)) := by
    intro n
    induction n with
    | zero =>
      intro i s h
      rw [Nat.add_zero] at h
      subst h
      rw [loop_eq, he s, List.drop_length]
      rfl
    | succ n ih =>
      intro i s h
      have hx : l[i]? = some l[i] := List.getElem?_eq_getElem (by omega)
      rw [loop_eq, hB i _ s hx, List.drop_eq_getElem_cons (by omega)]
      exact ih (i + 1) _ (by omega)
  exact key (l.length - k) k s (by omega)
/-- (place, state) -/
theorem loop_fold' {B : Int × σ → Option ((Int × σ) ⊕ ρ)} (l : List α) (f : σ → α → σ) (fin : σ → ρ) (I : Nat → σ → Prop) (s : σ) (h0 : I 0 s)
    (hB : ∀ (i : Nat) x s, l[i]? = some x → I i s → B ((i : Int), s) = some (.inl (((i + 1 : Nat) : Int), f s x)) ∧ I (i + 1) (f s x))
    (he : ∀ s, I l.length s → B ((l.length : Int), s) = some (.inr (fin s))) : loop B (0, s) = some (fin (l.foldl f s)) ∧ I l.length (l.foldl f s) := by
  have key : ∀ (n i : Nat) (s : σ), i + n = l.length → I i s → loop B ((i : Int), s) = some (fin ((l.drop i).foldl f s)) ∧ I l.length ((l.drop i).foldl f s) := by
    intro n
    induction n with
    | zero =>
      intro i s h hI
      rw [Nat.add_zero] at h
      subst h
      rw [loop_eq, he s hI, List.drop_length]
      exact ⟨rfl, hI⟩
    | succ n ih =>
      intro i s h hI
      have hx : l[i]? = some l[i] := List.getElem?_eq_getElem (by omega)
      obtain ⟨h1, h2⟩ := hB i _ s hx hI
      rw [loop_eq, h1, List.drop_eq_getElem_cons (by omega)]
      exact ih (i + 1) _ (by omega) h2
  have := key l.length 0 s (by omega) h0
  simpa using this
/-- is there one? the answer at the first -/
theorem loop_find {B : Int → Option (Int ⊕ ρ)} (l : List α) (p : α → Bool) (yes no : ρ)
    (hB : ∀ (i : Nat) x, l[i]? = some x → B (i : Int) = some (if p x then .inr yes else .inl ((i + 1 : Nat) : Int))) (he : B (l.length : Int) = some (.inr no)) :
    loop B 0 = some (if l.any p then yes else no) := by
  have key : ∀ (n i : Nat), i + n = l.length → loop B (i : Int) = some (if (l.drop i).any p then yes else no) := by
    intro n
    induction n with
    | zero =>
      intro i h
      rw [Nat.add_zero] at h
      subst h
      rw [loop_eq, he, List.drop_length]
      rfl
    | succ n ih =>
      intro i h
      have hx : l[i]? = some l[i] := List.getElem?_eq_getElem (by omega)
      rw [loop_eq, hB i _ hx, List.drop_eq_getElem_cons (by omega)]
      cases hp : p l[i] with
      | true => simp only [if_true, List.any_cons, hp, Bool.true_or]
      | false =>
        simp only [Bool.false_eq_true, if_false, List.any_cons, hp, Bool.false_or]
        exact ih (i + 1) (by omega)
  have := key l.length 0 (by omega)
  simpa using this
theorem loop_any {B : Int → Option (Int ⊕ Bool)} (l : List α) (p : α → Bool) (hB : ∀ (i : Nat) x, l[i]? = some x → B (i : Int) = some (if p x then .inr true else .inl ((i + 1 : Nat) : Int))) (he : B (l.length : Int) = some (.inr false)) :
    loop B 0 = some (l.any p) := by
  rw [loop_find l p true false hB he]
  cases l.any p <;> rfl
end
theorem foldl_app_filter {α β : Type} (p : α → Bool) (g : α → β) : ∀ (l : List α) (acc : List β), l.foldl (fun s x => if p x then s ++ [g x] else s) acc = acc ++ (l.filter p).map g
  | [], acc => by simp
  | x :: l, acc => by
    simp only [List.foldl_cons, foldl_app_filter p g l]
    cases hp : p x <;> simp [hp]
theorem foldl_app_map {α β : Type} (g : α → β) : ∀ (l : List α) (acc : List β), l.foldl (fun s x => s ++ [g x]) acc = acc ++ l.map g
  | [], acc => by simp
  | x :: l, acc => by simp only [List.foldl_cons, foldl_app_map g l]; simp
theorem foldl_app_flat {α β : Type} (g : α → List β) : ∀ (l : List α) (acc : List β), l.foldl (fun s x => s ++ g x) acc = acc ++ l.flatMap g
  | [], acc => by simp
  | x :: l, acc => by simp only [List.foldl_cons, foldl_app_flat g l]; simp
/-- sorted, adjacent repetitions left out -/
theorem sort_dedup {l r : List Int} (h : r.Perm l) (hs : r.Pairwise (fun x y => ltI y x = false)) : dedup r = nrm ltI l := by
  obtain ⟨h1, h2⟩ := asc_dedup ord_ltI hs
  exact (nrm_eq ord_ltI h1 (fun x => by rw [h2]; exact h.mem_iff)).symm
end
section
/-- 0, 1, .. n-1 -/
def rng (n : Nat) : List Int := (List.range n).map Int.ofNat
theorem rng_len (n : Nat) : (rng n).length = n := by simp [rng]
theorem rng_at {n i : Nat} {x : Int} (h : (rng n)[i]? = some x) : x = (i : Int) ∧ i < n := by
  have h1 := at_lt h
  rw [rng_len] at h1
  simp only [rng, List.getElem?_map, List.getElem?_range h1, Option.map_some, Option.some.injEq] at h
  exact ⟨h.symm, h1⟩
theorem rng_mem {n : Nat} {x : Int} : x ∈ rng n ↔ 0 ≤ x ∧ x < n := by
  simp only [rng, List.mem_map, List.mem_range]
  exact ⟨fun ⟨a, h1, h2⟩ => by subst h2; simp; omega, fun h => ⟨x.toNat, by omega, by simp; omega⟩⟩
theorem rng_asc (n : Nat) : Asc ltI (rng n) := by
  rw [rng, Asc, List.pairwise_map]
  exact List.pairwise_lt_range.imp fun {a b} h => by simp; omega
/-- a loop that puts lists together -/
theorem loop_flat {α β ρ : Type} {B : List β × Int → Option ((List β × Int) ⊕ ρ)} (l : List α) (g : α → List β) (fin : List β → ρ) (c : Nat) (hg : ∀ x ∈ l, (g x).length ≤ c) (acc : List β)
    (hB : ∀ (i : Nat) x s, l[i]? = some x → s.length ≤ acc.length + c * i → B (s, (i : Int)) = some (.inl (s ++ g x, ((i + 1 : Nat) : Int))))
    (he : ∀ s, B (s, (l.length : Int)) = some (.inr (fin s))) : loop B (acc, 0) = some (fin (acc ++ l.flatMap g)) := by
  have h := loop_fold (B := B) l (fun s x => s ++ g x) fin (fun i s => s.length ≤ acc.length + c * i) acc (by simp) (fun i x s hx hI => ⟨hB i x s hx hI, by
    have := hg x (mem_at hx)
    rw [List.length_append, Nat.mul_add]; omega⟩) (fun s _ => he s)
  rw [foldl_app_flat] at h
  exact h.1
theorem flat_le {α β : Type} (g : α → List β) (c : Nat) : ∀ (l : List α), (∀ x ∈ l, (g x).length ≤ c) → (l.flatMap g).length ≤ l.length * c
  | [], _ => by simp
  | x :: l, h => by
    have h1 := flat_le g c l fun y hy => h y (List.mem_cons_of_mem _ hy)
    have h2 := h x List.mem_cons_self
    simp only [List.flatMap_cons, List.length_append, List.length_cons, Nat.add_mul, Nat.one_mul]
    omega
theorem flat_filter {α β : Type} (p : α → Bool) (g : α → List β) (l : List α) : (l.filter p).flatMap g = l.flatMap fun x => if p x then g x else [] := by
  induction l with
  | nil => rfl
  | cons x l ih =>
    rw [List.filter_cons, List.flatMap_cons]
    cases hp : p x with
    | true => simp [ih]
    | false => simp [ih]
section
variable {α : Type}
noncomputable def indexFL (p : α → Option Bool) (y0 : List α) (s1 : Int) : Option (Int ⊕ Int) :=
  if decide (s1 < (len y0)) then
    (idx y0 s1).bind fun x1 =>
    (p x1).bind fun r1 =>
    if r1 then
      some (.inr s1)
    else
      some (.inl (w64 (s1 + 1)))
  else
    some (.inr (-1))
theorem indexFL_spec (p : α → Option Bool) (q : α → Bool) (l : List α) (hb : l.length < 4294967296) (hp : ∀ x ∈ l, p x = some (q x)) :
    (l.any q = false ∧ loop (indexFL p l) 0 = some (-1)) ∨ ∃ (k : Nat) (x : α), loop (indexFL p l) 0 = some (k : Int) ∧ l[k]? = some x ∧ q x = true ∧ ∀ j y, j < k → l[j]? = some y → q y = false := by
  have h := loop_forI (B := indexFL p l) (fun i (_ : Unit) => (i : Int)) l (fun i _ => ∀ j y, j < i → l[j]? = some y → q y = false)
    (fun r => (l.any q = false ∧ r = -1) ∨ ∃ (k : Nat) (x : α), r = (k : Int) ∧ l[k]? = some x ∧ q x = true ∧ ∀ j y, j < k → l[j]? = some y → q y = false) ?_ ?_ () (by omega)
  · obtain ⟨r, h1, ⟨h2, rfl⟩ | ⟨k, x, rfl, h2⟩⟩ := h
    · exact .inl ⟨h2, h1⟩
    · exact .inr ⟨k, x, h1, h2⟩
  · intro i x s hx hI
    unfold indexFL
    simp only [at_dec hx, if_true, at_idx hx, Option.bind_some, hp x (mem_at hx)]
    cases hq : q x with
    | true => exact .inr ⟨_, by simp only [if_true], .inr ⟨i, x, rfl, hx, hq, hI⟩⟩
    | false =>
      refine .inl ⟨(), by simp only [Bool.false_eq_true, if_false, at_suc hx hb], fun j y hj hy => ?_⟩
      rcases Nat.lt_succ_iff_lt_or_eq.1 hj with h | rfl
      · exact hI j y h hy
      · rw [hx] at hy; cases hy; exact hq
  · intro s hI
    unfold indexFL
    refine ⟨-1, by simp only [end_dec, Bool.false_eq_true, if_false], .inl ⟨?_, rfl⟩⟩
    rw [List.any_eq_false]
    intro x hx
    obtain ⟨j, hj⟩ := List.mem_iff_getElem?.1 hx
    simp [hI j x (at_lt hj) hj]
noncomputable def deleteFL (p : α → Option Bool) (y0 : List α) (s2 : (List α) × Int × Int) : Option (((List α) × Int × Int) ⊕ ((List α) × Int)) :=
  if decide (s2.2.2 < (len y0)) then
    (idx s2.1 s2.2.2).bind fun x1 =>
    (p x1).bind fun r2 =>
    if !r2 then
      (idx s2.1 s2.2.1).bind fun _ =>
      some (.inl (List.set s2.1 (Int.toNat s2.2.1) x1, w64 (s2.2.1 + 1), w64 (s2.2.2 + 1)))
    else
      some (.inl (s2.1, s2.2.1, w64 (s2.2.2 + 1)))
  else
    some (.inr (s2.1, s2.2.1))
noncomputable def deleteFM (p : α → Option Bool) (z : α) (y0 : List α) : Option (List α) :=
  (loop (indexFL p y0) 0).bind fun r1 =>
  if r1 == (-1) then
    some y0
  else
    (loop (deleteFL p y0) (y0, r1, w64 (r1 + 1)) : Option ((List α) × Int)).bind fun s1 =>
    (chk (decide (0 ≤ s1.2) && decide (s1.2 ≤ len s1.1))).bind fun _ =>
    (sub (clearFrom s1.1 s1.2 z) 0 s1.2).bind fun x3 =>
    some x3
theorem deleteFM_spec (p : α → Option Bool) (q : α → Bool) (z : α) (l : List α) (hb : l.length < 4294967296) (hp : ∀ x ∈ l, p x = some (q x)) : deleteFM p z l = some (l.filter fun x => !q x) := by
  unfold deleteFM
  rcases indexFL_spec p q l hb hp with ⟨h1, h2⟩ | ⟨k, x, h1, h2, h3, h4⟩
  · rw [h2]
    simp only [Option.bind_some, beq_self_eq_true, if_true]
    congr 1
    symm
    rw [List.filter_eq_self]
    intro y hy
    have := List.any_eq_false.1 h1 y hy
    simpa using this
  · rw [h1]
    have hne : ((k : Int) == -1) = false := beq_eq_false_iff_ne.2 (by omega)
    have hkl := at_lt h2
    simp only [Option.bind_some, hne, Bool.false_eq_true, if_false, w64_succ k (by omega)]
    -- c: the array now; j: how many are kept; i: the next one
    have key : ∀ n i j (c : List α), i + n = l.length → j < i → c.length = l.length → (∀ u, i ≤ u → c[u]? = l[u]?) → c.take j = (l.take i).filter (fun x => !q x) →
        ∃ c' j', loop (deleteFL p l) (c, (j : Int), (i : Int)) = some (c', ((j' : Nat) : Int)) ∧ c'.length = l.length ∧ j' ≤ l.length ∧ c'.take j' = l.filter fun x => !q x := by
      intro n
      induction n with
      | zero =>
        intro i j c hn hj hc hs ht
        rw [Nat.add_zero] at hn
        subst hn
        rw [List.take_length] at ht
        refine ⟨c, j, ?_, hc, by omega, ht⟩
        rw [loop_eq]
        unfold deleteFL
        simp only [end_dec, Bool.false_eq_true, if_false]
      | succ n ih =>
        intro i j c hn hj hc hs ht
        have hx : l[i]? = some l[i] := List.getElem?_eq_getElem (by omega)
        have hcx : idx c (i : Int) = some l[i] := by rw [idx_nat, hs i (Nat.le_refl _)]; exact hx
        rw [loop_eq]
        unfold deleteFL
        simp only [at_dec hx, if_true, hcx, Option.bind_some, hp _ (mem_at hx)]
        cases hq : q l[i] with
        | true =>
          simp only [Bool.not_true, Bool.false_eq_true, if_false, at_suc hx hb]
          refine ih (i + 1) j c (by omega) (by omega) hc (fun u hu => hs u (by omega)) ?_
          rw [take_suc hx, List.filter_append, ht]
          simp [hq]
        | false =>
          have hcj : idx c (j : Int) = some c[j] := by rw [idx_nat]; exact List.getElem?_eq_getElem (by omega)
          simp only [Bool.not_false, if_true, hcj, Option.bind_some, at_suc hx hb, Int.toNat_natCast]
          rw [w64_succ j (by omega)]
          refine ih (i + 1) (j + 1) (c.set j l[i]) (by omega) (by omega) (by simp [hc]) (fun u hu => ?_) ?_
          · rw [List.getElem?_set_ne (by omega)]; exact hs u (by omega)
          · rw [take_suc hx, List.filter_append, ← ht, List.take_add_one, List.getElem?_set_self (by omega), List.take_set_of_le (Nat.le_refl _)]
            simp [hq]
    obtain ⟨c, j, e1, e2, e3, e4⟩ := key (l.length - (k + 1)) (k + 1) k l (by omega) (by omega) rfl (fun u _ => rfl) (by
      rw [take_suc h2, List.filter_append]
      have : (l.take k).filter (fun x => !q x) = l.take k := by
        rw [List.filter_eq_self]
        intro y hy
        obtain ⟨u, hu⟩ := List.mem_iff_getElem?.1 hy
        rw [List.getElem?_take] at hu
        split at hu
        · rename_i huk; simp [h4 u y huk hu]
        · cases hu
      simp [this, h3])
    rw [e1]
    have hc1 : (decide (0 ≤ ((j : Nat) : Int)) && decide (((j : Nat) : Int) ≤ len c)) = true := by simp [len]; omega
    simp only [Option.bind_some, hc1, chk, if_true]
    rw [sub_pre (by omega) (by rw [length_clearFrom, e2]; omega)]
    simp only [Option.bind_some, Int.toNat_natCast, clearFrom, e4]
    have hdl : (l.filter fun x => !q x).length = j := by rw [← e4, List.length_take]; omega
    rw [← hdl, List.take_left]
end
end
section
theorem cmp_int (x y : Int) : m_cmp_Compare_int x y = some (cmpI x y) := by
  unfold m_cmp_Compare_int cmpI
  by_cases h1 : x < y
  · simp [m_cmp_isNaN_int, h1]
  · by_cases h2 : y < x <;> simp [m_cmp_isNaN_int, h1, h2]
theorem or_int (l : List Int) (hb : l.length < 9223372036854775807) : m_cmp_Or_int l = some (orF l) := orL_spec l hb
abbrev lt2 : T_Pair → T_Pair → Bool := lexLt ltI ltI
abbrev lt4 : T_Attack → T_Attack → Bool := lexLt ltI (lexLt ltI (lexLt ltI ltI))
theorem ord2 : Ord1 lt2 := ord_lex ord_ltI ord_ltI
theorem ord4 : Ord1 lt4 := ord_lex ord_ltI (ord_lex ord_ltI (ord_lex ord_ltI ord_ltI))
theorem graph_1 (x y : T_Pair) : m_attack_Graph_1 x y = some (orF [cmpI x.1 y.1, cmpI x.2 y.2]) := by
  unfold m_attack_Graph_1
  rw [cmp_int, cmp_int]
  simp only [Option.bind_some]
  rw [or_int _ (by simp)]
  rfl
theorem attacks_1 (x y : T_Attack) : m_attack_Attacks_1 x y = some (orF [cmpI x.1 y.1, cmpI x.2.1 y.2.1, cmpI x.2.2.1 y.2.2.1, cmpI x.2.2.2 y.2.2.2]) := by
  unfold m_attack_Attacks_1
  rw [cmp_int, cmp_int, cmp_int, cmp_int]
  simp only [Option.bind_some]
  rw [or_int _ (by simp)]
  rfl
theorem orF_lt {x y : Int} {r : List Int} {b : Bool} (h : decide (orF r < 0) = b) : decide (orF (cmpI x y :: r) < 0) = (ltI x y || (x == y && b)) := by
  unfold orF cmpI
  by_cases h1 : x < y
  · simp [h1]
  · by_cases h2 : y < x
    · have h3 : (x == y) = false := by simp; omega
      simp [h1, h2, h3]
    · have h3 : x = y := by omega
      subst h3
      simp [h]
theorem lt_graph_1 (x y : T_Pair) : ltF m_attack_Graph_1 x y = lt2 x y := by
  simp only [ltF, graph_1, Option.getD_some]
  exact orF_lt (by rw [orF_lt (r := []) (b := false) (by simp [orF])]; simp)
theorem lt_attacks_1 (x y : T_Attack) : ltF m_attack_Attacks_1 x y = lt4 x y := by
  simp only [ltF, attacks_1, Option.getD_some]
  exact orF_lt (orF_lt (orF_lt (by rw [orF_lt (r := []) (b := false) (by simp [orF])]; simp)))
theorem sort_pairs {l : List T_Pair} (hl : l.length < 4294967296) : m_slices_SortFunc_Pair__attack_Graph_1 l = some (l.mergeSort fun x y => !lt2 y x) :=
  sortF_ok ord2 (fun x y => ⟨_, graph_1 x y⟩) lt_graph_1 hl
theorem compact_pairs {l : List T_Pair} (hl : l.length < 9223372036854775807) : m_slices_Compact_Pair l = some (dedup l) := compactM_spec (0, 0) l hl
theorem sort_attacks {l : List T_Attack} (hl : l.length < 4294967296) : m_slices_SortFunc_Attack__attack_Attacks_1 l = some (l.mergeSort fun x y => !lt4 y x) :=
  sortF_ok ord4 (fun x y => ⟨_, attacks_1 x y⟩) lt_attacks_1 hl
/-- an attack that leads out of the n nodes -/
def badA (n : Int) (a : T_Attack) : Bool := decide (a.1 < 0) || decide (n ≤ a.1) || decide (a.2.1 < 0) || decide (n ≤ a.2.1)
def pairsOf (l : List T_Attack) : List T_Pair := l.map fun a => (a.1, a.2.1)
/-- what both functions answer -/
def graphS (n : Int) (l : List T_Attack) : T_Graph × Int :=
  if decide (n < 0) || decide (40 < n) then ((0, []), 1) else if l.any (badA n) then ((0, []), 1) else ((n, nrm lt2 (pairsOf l)), 0)
theorem minmax_bad (n : Int) (x : T_Attack) : (decide ((if x.2.1 < x.1 then x.2.1 else x.1) < 0) || decide (n ≤ (if x.2.1 > x.1 then x.2.1 else x.1))) = badA n x := by
  rw [Bool.eq_iff_iff]
  simp only [badA, Bool.or_eq_true, decide_eq_true_eq]
  split <;> split <;> omega
theorem take_any_succ {α : Type} {l : List α} {i : Nat} {x : α} (p : α → Bool) (hx : l[i]? = some x) : (l.take (i + 1)).any p = ((l.take i).any p || p x) := by
  rw [List.take_add_one, hx]; simp
theorem attGraph_L1 (n : Int) (l : List T_Attack) (hl : l.length < 4294967000) :
    loop (m_attack_Graph_L1 l n) (0, []) = some (if l.any (badA n) then .inr ((0, []), 1) else .inl (pairsOf l)) := by
  have h := loop_forI (B := m_attack_Graph_L1 l n) (fun i (s : List T_Pair) => ((i : Int), s)) l (fun i s => s = pairsOf (l.take i) ∧ (l.take i).any (badA n) = false)
    (fun r => r = if l.any (badA n) then .inr ((0, []), 1) else .inl (pairsOf l)) ?_ ?_ [] (by simp [pairsOf])
  · obtain ⟨r, h1, rfl⟩ := h; exact h1
  · rintro i x s hx ⟨rfl, hI⟩
    have hi := (List.getElem?_eq_some_iff.1 hx).1
    unfold m_attack_Graph_L1
    have hlt : decide ((i : Int) < len l) = true := by simp [len]; omega
    simp only [hlt, if_true, idx_nat, hx, Option.bind_some, minmax_bad]
    cases hb : badA n x with
    | true =>
      refine .inr ⟨_, by simp; rfl, ?_⟩
      have : l.any (badA n) = true := List.any_eq_true.2 ⟨x, List.mem_of_getElem? hx, hb⟩
      simp [this]
    | false =>
      refine .inl ⟨pairsOf (l.take (i + 1)), ?_, rfl, by rw [take_any_succ _ hx, hI, hb]; rfl⟩
      have hp : pairsOf (l.take (i + 1)) = pairsOf (l.take i) ++ [(x.1, x.2.1)] := by unfold pairsOf; rw [List.take_add_one, hx]; simp
      rw [app_ok (by simp [pairsOf]; omega)]
      simp [hp, w64_succ i (by omega)]
  · rintro s ⟨rfl, hI⟩
    unfold m_attack_Graph_L1
    rw [List.take_length] at hI
    simp [hI, len]
theorem attack_Graph (n : Int) (l : List T_Attack) (hl : l.length < 4294967000) : m_attack_Graph n l = some (graphS n l) := by
  unfold m_attack_Graph graphS
  cases h0 : (decide (n < 0) || decide (40 < n)) with
  | true => simp
  | false =>
    simp only [Bool.false_eq_true, if_false]
    rw [attGraph_L1 n l hl]
    cases hb : l.any (badA n) with
    | true => simp [seqE]
    | false =>
      have hlen : (pairsOf l).length < 4294967296 := by simp [pairsOf]; omega
      simp only [Bool.false_eq_true, if_false, seqE, Option.bind_some]
      rw [sort_pairs hlen]
      simp only [Option.bind_some]
      rw [compact_pairs (by simp [pairsOf]; omega)]
      rfl
abbrev hasA (l : List T_Attack) (i j : Int) : Bool := l.any fun a => a.1 == i && a.2.1 == j
abbrev rowA (l : List T_Attack) (N : Nat) (i : Nat) : List T_Pair := ((List.range N).filter fun (j : Nat) => hasA l (i : Int) (j : Int)).map fun (j : Nat) => ((i : Int), (j : Int))
abbrev matA (l : List T_Attack) (N : Nat) (k : Nat) : List T_Pair := (List.range k).flatMap (rowA l N)
theorem matA_spec {n : Int} {l : List T_Attack} (h0 : 0 ≤ n) (hb : l.any (badA n) = false) : nrm lt2 (pairsOf l) = matA l n.toNat n.toNat := by
  apply nrm_eq ord2
  · refine List.pairwise_flatMap.2 ⟨fun i _ => ?_, ?_⟩
    · rw [List.pairwise_map]
      refine (List.pairwise_lt_range.filter _).imp fun {a b} h => ?_
      simp; omega
    · refine List.pairwise_lt_range.imp fun {a b} h x hx y hy => ?_
      obtain ⟨j, _, rfl⟩ := List.mem_map.1 hx
      obtain ⟨k, _, rfl⟩ := List.mem_map.1 hy
      simp; omega
  · rintro ⟨i, j⟩
    constructor
    · intro h
      obtain ⟨a, _, hx⟩ := List.mem_flatMap.1 h
      obtain ⟨b, hb2, he⟩ := List.mem_map.1 hx
      obtain ⟨hb3, hb4⟩ := List.mem_filter.1 hb2
      obtain ⟨z, hz, hz2⟩ := List.any_eq_true.1 hb4
      simp only [Bool.and_eq_true, beq_iff_eq] at hz2
      refine List.mem_map.2 ⟨z, hz, ?_⟩
      rw [hz2.1, hz2.2]; exact he
    · intro h
      obtain ⟨z, hz, he⟩ := List.mem_map.1 h
      have hzb : badA n z = false := by
        cases hq : badA n z with
        | false => rfl
        | true => rw [List.any_eq_true.2 ⟨z, hz, hq⟩] at hb; cases hb
      simp only [badA, Bool.or_eq_false_iff, decide_eq_false_iff_not] at hzb
      obtain ⟨⟨⟨h1, h2⟩, h3⟩, h4⟩ := hzb
      refine List.mem_flatMap.2 ⟨z.1.toNat, List.mem_range.2 (by omega), List.mem_map.2 ⟨z.2.1.toNat, List.mem_filter.2 ⟨List.mem_range.2 (by omega), ?_⟩, ?_⟩⟩
      · refine List.any_eq_true.2 ⟨z, hz, ?_⟩
        simp; omega
      · rw [← he]; simp; omega
theorem refGraph_L1 (n : Int) (l : List T_Attack) (hl : l.length < 4294967000) :
    loop (m_ref09_Graph_L1 l n) 0 = some (if l.any (badA n) then .inr ((0, []), 1) else .inl ()) := by
  have h := loop_forI (B := m_ref09_Graph_L1 l n) (fun i (_ : Unit) => (i : Int)) l (fun i _ => (l.take i).any (badA n) = false)
    (fun r => r = if l.any (badA n) then .inr ((0, []), 1) else .inl ()) ?_ ?_ () (by simp)
  · obtain ⟨r, h1, rfl⟩ := h; exact h1
  · intro i x s hx hI
    have hi := (List.getElem?_eq_some_iff.1 hx).1
    unfold m_ref09_Graph_L1
    have hlt : decide ((i : Int) < len l) = true := by simp [len]; omega
    simp only [hlt, if_true, idx_nat, hx, Option.bind_some]
    have hc : (if decide (x.1 < 0) = true then some true else if decide (n ≤ x.1) = true then some true else if decide (x.2.1 < 0) = true then some true else some (decide (n ≤ x.2.1)) : Option Bool) = some (badA n x) := by
      unfold badA
      cases decide (x.1 < 0) <;> cases decide (n ≤ x.1) <;> cases decide (x.2.1 < 0) <;> simp
    rw [hc]
    simp only [Option.bind_some]
    cases hb : badA n x with
    | true =>
      refine .inr ⟨_, rfl, ?_⟩
      have : l.any (badA n) = true := List.any_eq_true.2 ⟨x, List.mem_of_getElem? hx, hb⟩
      simp [this]
    | false => exact .inl ⟨(), by simp [w64_succ i (by omega)], by rw [take_any_succ _ hx, hI, hb]; rfl⟩
  · intro s hI
    unfold m_ref09_Graph_L1
    rw [List.take_length] at hI
    simp [hI, len]
theorem refGraph_L4 (l : List T_Attack) (s5 s6 : Int × List T_Pair) (hl : l.length < 4294967000) : loop (m_ref09_Graph_L4 l s5 s6) (false, 0) = some (hasA l s5.1 s6.1) := by
  have h := loop_forI (B := m_ref09_Graph_L4 l s5 s6) (fun i (b : Bool) => (b, (i : Int))) l (fun i b => b = (l.take i).any fun a => a.1 == s5.1 && a.2.1 == s6.1) (fun r => r = hasA l s5.1 s6.1) ?_ ?_ false (by simp)
  · obtain ⟨r, h1, rfl⟩ := h; exact h1
  · rintro i x s hx rfl
    have hi := (List.getElem?_eq_some_iff.1 hx).1
    unfold m_ref09_Graph_L4
    have hlt : decide ((i : Int) < len l) = true := by simp [len]; omega
    simp only [hlt, if_true, idx_nat, hx, Option.bind_some]
    refine .inl ⟨_, ?_, rfl⟩
    rw [take_any_succ _ hx, w64_succ i (by omega)]
    cases (l.take i).any fun a => a.1 == s5.1 && a.2.1 == s6.1 <;> cases x.1 == s5.1 <;> simp
  · rintro s rfl
    unfold m_ref09_Graph_L4
    simp [len]
theorem refGraph_L3 (n : Int) (l : List T_Attack) (k : Nat) (acc : List T_Pair) (h0 : 0 ≤ n) (h1 : n ≤ 40) (hl : l.length < 4294967000) (hk : k < 40) (ha : acc.length ≤ 1600) :
    loop (m_ref09_Graph_L3 n l ((k : Int), acc)) (0, acc) = some (.inl (((k + 1 : Nat) : Int), acc ++ rowA l n.toNat k)) := by
  have h := loop_forI (B := m_ref09_Graph_L3 n l ((k : Int), acc)) (fun i (s : List T_Pair) => ((i : Int), s)) (List.range n.toNat) (fun i s => s = acc ++ rowA l i k) (fun r => r = .inl (((k + 1 : Nat) : Int), acc ++ rowA l n.toNat k)) ?_ ?_ acc (by simp)
  · obtain ⟨r, h1, rfl⟩ := h; exact h1
  · rintro i x s hx rfl
    have hi := (List.getElem?_eq_some_iff.1 hx).1
    rw [List.length_range] at hi
    unfold m_ref09_Graph_L3
    have hlt : decide ((i : Int) < n) = true := by simp; omega
    simp only [hlt, if_true, refGraph_L4 l _ _ hl, Option.bind_some]
    have hrow : rowA l (i + 1) k = rowA l i k ++ if hasA l k i then [((k : Int), (i : Int))] else [] := by
      unfold rowA
      rw [List.range_succ, List.filter_append, List.map_append]
      congr 1
      by_cases hh : hasA l k i = true <;> simp [hh]
    have hlen : (rowA l i k).length ≤ i := by
      unfold rowA
      rw [List.length_map]
      exact Nat.le_trans (List.length_filter_le _ _) (by simp)
    refine .inl ⟨_, ?_, rfl⟩
    rw [hrow, w64_succ i (by omega)]
    cases hasA l k i with
    | true => rw [app_ok (by rw [List.length_append, List.length_singleton]; omega)]; simp
    | false => simp
  · rintro s rfl
    unfold m_ref09_Graph_L3
    have hlt : decide (((List.range n.toNat).length : Int) < n) = false := by simp; omega
    rw [List.length_range] at *
    simp only [hlt, Bool.false_eq_true, if_false]
    exact ⟨_, rfl, by rw [w64_succ k (by omega)]⟩
theorem refGraph_L2 (n : Int) (l : List T_Attack) (h0 : 0 ≤ n) (h1 : n ≤ 40) (hl : l.length < 4294967000) : loop (m_ref09_Graph_L2 n l) (0, []) = some (matA l n.toNat n.toNat) := by
  have h := loop_forI (B := m_ref09_Graph_L2 n l) (fun i (s : List T_Pair) => ((i : Int), s)) (List.range n.toNat) (fun i s => s = matA l n.toNat i ∧ s.length ≤ 40 * i) (fun r => r = matA l n.toNat n.toNat) ?_ ?_ [] (by simp)
  · obtain ⟨r, h1, rfl⟩ := h; exact h1
  · rintro i x s hx ⟨rfl, hs⟩
    have hi := (List.getElem?_eq_some_iff.1 hx).1
    rw [List.length_range] at hi
    unfold m_ref09_Graph_L2
    have hlt : decide ((i : Int) < n) = true := by simp; omega
    simp only [hlt, if_true]
    have hlen : (rowA l n.toNat i).length ≤ 40 := by
      unfold rowA
      rw [List.length_map]
      exact Nat.le_trans (List.length_filter_le _ _) (by simp; omega)
    have hm : matA l n.toNat (i + 1) = matA l n.toNat i ++ rowA l n.toNat i := by
      unfold matA
      rw [List.range_succ, List.flatMap_append]; simp
    refine .inl ⟨_, refGraph_L3 n l i _ h0 h1 hl (by omega) (by omega), hm.symm, ?_⟩
    rw [List.length_append]; omega
  · rintro s ⟨rfl, hs⟩
    unfold m_ref09_Graph_L2
    rw [List.length_range]
    have hlt : decide (((n.toNat : Nat) : Int) < n) = false := by simp; omega
    simp only [hlt, Bool.false_eq_true, if_false]
    exact ⟨_, rfl, rfl⟩
theorem ref_Graph (n : Int) (l : List T_Attack) (hl : l.length < 4294967000) : m_ref09_Graph n l = some (graphS n l) := by
  unfold m_ref09_Graph graphS
  cases h0 : (decide (n < 0) || decide (40 < n)) with
  | true => simp
  | false =>
    simp only [Bool.or_eq_false_iff, decide_eq_false_iff_not] at h0
    simp only [Bool.false_eq_true, if_false]
    rw [refGraph_L1 n l hl]
    cases hb : l.any (badA n) with
    | true => simp [seqE]
    | false =>
      simp only [Bool.false_eq_true, if_false, seqE, Option.bind_some]
      rw [refGraph_L2 n l (by omega) (by omega) hl, matA_spec (by omega) hb]
      rfl
theorem ref_SameGraph (g : T_Graph) (hg : g.2.length < 4294967000) : m_ref09_SameGraph g g = some true := by
  have h := sameM_spec g.2 g.2 (by omega)
  unfold sameM at h
  simp only [bne_self_eq_false, Bool.false_eq_true, if_false, decide_true] at h
  unfold m_ref09_SameGraph
  simp only [bne_self_eq_false, Bool.or_self, Bool.false_eq_true, if_false]
  exact h
end
section
def e_slices_SortFunc_Attack__attack_Attacks_1 (_ : Nat) (l : List T_Attack) : Option (List T_Attack) := if l.length < 4294967296 then some (isort lt4 l) else none
def e_slices_SortFunc_Pair__attack_Graph_1 (_ : Nat) (l : List T_Pair) : Option (List T_Pair) := if l.length < 4294967296 then some (isort lt2 l) else none
def e_slices_Sort_int (_ : Nat) (l : List Int) : Option (List Int) := if l.length < 4294967296 then some (isort ltI l) else none
theorem le_slices_SortFunc_Attack__attack_Attacks_1 (n : Nat) (l : List T_Attack) : Le (e_slices_SortFunc_Attack__attack_Attacks_1 n l) (m_slices_SortFunc_Attack__attack_Attacks_1 l) := ⟨fun r h => by
  unfold e_slices_SortFunc_Attack__attack_Attacks_1 at h
  split at h
  · rename_i hl; rw [sort_attacks hl, merge_isort ord4]; exact h
  · cases h⟩
theorem le_slices_SortFunc_Pair__attack_Graph_1 (n : Nat) (l : List T_Pair) : Le (e_slices_SortFunc_Pair__attack_Graph_1 n l) (m_slices_SortFunc_Pair__attack_Graph_1 l) := ⟨fun r h => by
  unfold e_slices_SortFunc_Pair__attack_Graph_1 at h
  split at h
  · rename_i hl; rw [sort_pairs hl, merge_isort ord2]; exact h
  · cases h⟩
theorem le_slices_Sort_int (n : Nat) (l : List Int) : Le (e_slices_Sort_int n l) (m_slices_Sort_int l) := ⟨fun r h => by
  unfold e_slices_Sort_int at h
  split at h
  · rename_i hl; unfold m_slices_Sort_int; rw [sortI_isort hl]; exact h
  · cases h⟩
end
section
set_option linter.unusedVariables false
def e_argument_inside (n_ : Nat) (y0 : List T_Argument) (y1 : Int) : Option Bool :=
  some ((decide (0 ≤ y1)) && (decide (y1 < (len y0))))
theorem le_argument_inside (n_ : Nat) (y0 : List T_Argument) (y1 : Int) : Le (e_argument_inside n_ y0 y1) (m_argument_inside y0 y1) := by
  unfold e_argument_inside m_argument_inside
  repeat with_reducible (first | intro _ | exact Le.refl _ | apply Le.ite | apply Le.seqE | apply Le.bind | apply Le.lp | exact Le.none _)
def e_slices_Compact_int_L2 (n_ : Nat) (y0 : List Int) (s1 : Int) (s3 : (List Int) × Int × Int) : Option (((List Int) × Int × Int) ⊕ ((List Int) × Int)) :=
  if decide (s3.2.2 < ((Int.toNat (((List.length y0 : Nat) : Int) - s1) : Nat) : Int)) then
    (idxV s3.1 s1 s3.2.2).bind fun x3 =>
    (idxV s3.1 s1 (w64 (s3.2.2 - 1))).bind fun x4 =>
    if x3 != x4 then
      (idxV s3.1 s1 s3.2.2).bind fun x5 =>
      (idx s3.1 s3.2.1).bind fun _ =>
      some (.inl (List.set s3.1 (Int.toNat s3.2.1) x5, w64 (s3.2.1 + 1), w64 (s3.2.2 + 1)))
    else
      some (.inl (s3.1, s3.2.1, w64 (s3.2.2 + 1)))
  else
    some (.inr (s3.1, s3.2.1))
theorem le_slices_Compact_int_L2 (n_ : Nat) (y0 : List Int) (s1 : Int) (s3 : (List Int) × Int × Int) : Le (e_slices_Compact_int_L2 n_ y0 s1 s3) (m_slices_Compact_int_L2 y0 s1 s3) := by
  unfold e_slices_Compact_int_L2 m_slices_Compact_int_L2
  repeat with_reducible (first | intro _ | exact Le.refl _ | apply Le.ite | apply Le.seqE | apply Le.bind | apply Le.lp | exact Le.none _)
def e_slices_Compact_int_L1 (n_ : Nat) (y0 : List Int) (s1 : Int) : Option (Int ⊕ (List Int)) :=
  if decide (s1 < (len y0)) then
    (idx y0 s1).bind fun x1 =>
    (idx y0 (w64 (s1 - 1))).bind fun x2 =>
    if x1 == x2 then
      (chk (decide (0 ≤ s1) && decide (s1 ≤ len y0))).bind fun _ =>
      ((lp n_) ((e_slices_Compact_int_L2 n_) y0 s1) (y0, s1, 1) : Option ((List Int) × Int)).bind fun s2 =>
      (chk (decide (0 ≤ s2.2) && decide (s2.2 ≤ len s2.1))).bind fun _ =>
      (sub (clearFrom s2.1 s2.2 0) 0 s2.2).bind fun x7 =>
      some (.inr x7)
    else
      some (.inl (w64 (s1 + 1)))
  else
    some (.inr y0)
theorem le_slices_Compact_int_L1 (n_ : Nat) (y0 : List Int) (s1 : Int) : Le (e_slices_Compact_int_L1 n_ y0 s1) (m_slices_Compact_int_L1 y0 s1) := by
  unfold e_slices_Compact_int_L1 m_slices_Compact_int_L1
  repeat with_reducible (first | intro _ | apply le_slices_Compact_int_L2 | exact Le.refl _ | apply Le.ite | apply Le.seqE | apply Le.bind | apply Le.lp | exact Le.none _)
def e_slices_Compact_int (n_ : Nat) (y0 : List Int) : Option (List Int) :=
  if decide ((len y0) < 2) then
    some y0
  else
    (lp n_) ((e_slices_Compact_int_L1 n_) y0) 1
theorem le_slices_Compact_int (n_ : Nat) (y0 : List Int) : Le (e_slices_Compact_int n_ y0) (m_slices_Compact_int y0) := by
  unfold e_slices_Compact_int m_slices_Compact_int
  repeat with_reducible (first | intro _ | apply le_slices_Compact_int_L1 | exact Le.refl _ | apply Le.ite | apply Le.seqE | apply Le.bind | apply Le.lp | exact Le.none _)
def e_argument_Subs_L1 (n_ : Nat) (x1 : T_Argument) (rec_argument_Subs : (List T_Argument) → Int → Option (List Int)) (y0 : List T_Argument) (s2 : (List Int) × Int) : Option (((List Int) × Int) ⊕ (List Int)) :=
  if decide (s2.2 < (len x1.2.2.1)) then
    (idx x1.2.2.1 s2.2).bind fun x2 =>
    (rec_argument_Subs y0 x2).bind fun r2 =>
    (app s2.1 r2).bind fun x3 =>
    some (.inl (x3, w64 (s2.2 + 1)))
  else
    some (.inr s2.1)
theorem le_argument_Subs_L1 (n_ : Nat) (x1 : T_Argument) {rec_argument_Subs rec_argument_Subs' : (List T_Argument) → Int → Option (List Int)} (h_rec_argument_Subs : ∀ u0 u1, Le (rec_argument_Subs u0 u1) (rec_argument_Subs' u0 u1)) (y0 : List T_Argument) (s2 : (List Int) × Int) : Le (e_argument_Subs_L1 n_ x1 rec_argument_Subs y0 s2) (m_argument_Subs_L1 x1 rec_argument_Subs' y0 s2) := by
  unfold e_argument_Subs_L1 m_argument_Subs_L1
  repeat with_reducible (first | intro _ | apply h_rec_argument_Subs | exact Le.refl _ | apply Le.ite | apply Le.seqE | apply Le.bind | apply Le.lp | exact Le.none _)
def fe_argument_Subs (n_ : Nat) (rec_argument_Subs : (List T_Argument) → Int → Option (List Int)) (y0 : List T_Argument) (y1 : Int) : Option (List Int) :=
  ((e_argument_inside n_) y0 y1).bind fun r1 =>
  if !r1 then
    some ([] : List Int)
  else
    (
      (idx y0 y1).bind fun x1 =>
      (lp n_) ((e_argument_Subs_L1 n_) x1 rec_argument_Subs y0) (([y1] : List Int), 0) : Option (List Int)).bind fun s1 =>
    ((e_slices_Sort_int n_) s1).bind fun r3 =>
    ((e_slices_Compact_int n_) r3).bind fun r4 =>
    some r4
theorem lef_argument_Subs (n_ : Nat) {rec_argument_Subs rec_argument_Subs' : (List T_Argument) → Int → Option (List Int)} (h_rec_argument_Subs : ∀ u0 u1, Le (rec_argument_Subs u0 u1) (rec_argument_Subs' u0 u1)) (y0 : List T_Argument) (y1 : Int) : Le (fe_argument_Subs n_ rec_argument_Subs y0 y1) (F_argument_Subs rec_argument_Subs' y0 y1) := by
  unfold fe_argument_Subs F_argument_Subs
  repeat with_reducible (first | intro _ | apply h_rec_argument_Subs | apply le_slices_Compact_int | apply le_slices_Sort_int | apply le_argument_Subs_L1 | apply le_argument_inside | exact Le.refl _ | apply Le.ite | apply Le.seqE | apply Le.bind | apply Le.lp | exact Le.none _)
def ke_argument_Subs (n_ : Nat) : Nat → (List T_Argument) → Int → Option (List Int)
  | 0 => fun _ _ => none
  | k + 1 => fun y0 y1 => (fe_argument_Subs n_) ((ke_argument_Subs n_) k) y0 y1
theorem lek_argument_Subs (n_ : Nat) : ∀ (k m : Nat), k ≤ m → ∀ u0 u1, Le (ke_argument_Subs n_ k u0 u1) (k_argument_Subs m u0 u1)
  | 0, _, _ => fun u0 u1 => Le.none _
  | k + 1, m, h => fun u0 u1 => by
    obtain ⟨m, rfl⟩ : ∃ q, m = q + 1 := ⟨m - 1, by omega⟩
    exact lef_argument_Subs n_ (lek_argument_Subs n_ k m (by omega)) _ _
def e_argument_Subs (n_ : Nat) (y0 : List T_Argument) (y1 : Int) : Option (List Int) :=
  ke_argument_Subs n_ n_ y0 y1
theorem le_argument_Subs (n_ : Nat) (y0 : List T_Argument) (y1 : Int) : Le (e_argument_Subs n_ y0 y1) (m_argument_Subs y0 y1) := Le.lim n_ fun m h => lek_argument_Subs n_ n_ m h _ _
def e_literal_Complement (n_ : Nat) (y0 : T_Literal) : Option T_Literal :=
  some (!y0.1, y0.2)
theorem le_literal_Complement (n_ : Nat) (y0 : T_Literal) : Le (e_literal_Complement n_ y0) (m_literal_Complement y0) := by
  unfold e_literal_Complement m_literal_Complement
  repeat with_reducible (first | intro _ | exact Le.refl _ | apply Le.ite | apply Le.seqE | apply Le.bind | apply Le.lp | exact Le.none _)
def e_attack_kinds (n_ : Nat) (y0 : T_Base) (y1 : List T_Argument) (y2 : Int) (y3 : Int) : Option (List Int) :=
  (
    (idx y1 y2).bind fun x1 =>
    (idx y1 y3).bind fun x2 =>
    some (x1.2.2.2, x2) : Option (T_Literal × T_Argument)).bind fun s1 =>
  ((e_literal_Complement n_) s1.2.2.2.2).bind fun r1 =>
  if decide (0 ≤ s1.2.1) then
    (
      if s1.1 == r1 then
        (idx y0.1 s1.2.1).bind fun x3 =>
        some (x3.2.1 != 1)
      else
        some false : Option Bool).bind fun s2 =>
    if s2 then
      (app ([] : List Int) ([1] : List Int)).bind fun x4 =>
      some x4
    else
      some ([] : List Int)
  else
    (idx y0.2.1 s1.2.2.1).bind fun x5 =>
    if !x5.2.1 then
      (
        if s1.1 == r1 then
          (app ([] : List Int) ([2] : List Int)).bind fun x6 =>
          some x6
        else
          some ([] : List Int) : Option (List Int)).bind fun s3 =>
      (
        if s1.1.1 then
          (idx y0.2.1 s1.2.2.1).bind fun x7 =>
          some (s1.1.2 == x7.1)
        else
          some false : Option Bool).bind fun s4 =>
      if s4 then
        (app s3 ([3] : List Int)).bind fun x8 =>
        some x8
      else
        some s3
    else
      some ([] : List Int)
theorem le_attack_kinds (n_ : Nat) (y0 : T_Base) (y1 : List T_Argument) (y2 : Int) (y3 : Int) : Le (e_attack_kinds n_ y0 y1 y2 y3) (m_attack_kinds y0 y1 y2 y3) := by
  unfold e_attack_kinds m_attack_kinds
  repeat with_reducible (first | intro _ | apply le_literal_Complement | exact Le.refl _ | apply Le.ite | apply Le.seqE | apply Le.bind | apply Le.lp | exact Le.none _)
def e_slices_Index_int_L1 (n_ : Nat) (y0 : List Int) (y1 : Int) (s1 : Int) : Option (Int ⊕ Int) :=
  if decide (s1 < (len y0)) then
    (idx y0 s1).bind fun x1 =>
    if y1 == x1 then
      some (.inr s1)
    else
      some (.inl (w64 (s1 + 1)))
  else
    some (.inr (-1))
theorem le_slices_Index_int_L1 (n_ : Nat) (y0 : List Int) (y1 : Int) (s1 : Int) : Le (e_slices_Index_int_L1 n_ y0 y1 s1) (m_slices_Index_int_L1 y0 y1 s1) := by
  unfold e_slices_Index_int_L1 m_slices_Index_int_L1
  repeat with_reducible (first | intro _ | exact Le.refl _ | apply Le.ite | apply Le.seqE | apply Le.bind | apply Le.lp | exact Le.none _)
def e_slices_Index_int (n_ : Nat) (y0 : List Int) (y1 : Int) : Option Int :=
  (lp n_) ((e_slices_Index_int_L1 n_) y0 y1) 0
theorem le_slices_Index_int (n_ : Nat) (y0 : List Int) (y1 : Int) : Le (e_slices_Index_int n_ y0 y1) (m_slices_Index_int y0 y1) := by
  unfold e_slices_Index_int m_slices_Index_int
  repeat with_reducible (first | intro _ | apply le_slices_Index_int_L1 | exact Le.refl _ | apply Le.ite | apply Le.seqE | apply Le.bind | apply Le.lp | exact Le.none _)
def e_slices_Contains_int (n_ : Nat) (y0 : List Int) (y1 : Int) : Option Bool :=
  ((e_slices_Index_int n_) y0 y1).bind fun r1 =>
  some (decide (0 ≤ r1))
theorem le_slices_Contains_int (n_ : Nat) (y0 : List Int) (y1 : Int) : Le (e_slices_Contains_int n_ y0 y1) (m_slices_Contains_int y0 y1) := by
  unfold e_slices_Contains_int m_slices_Contains_int
  repeat with_reducible (first | intro _ | apply le_slices_Index_int | exact Le.refl _ | apply Le.ite | apply Le.seqE | apply Le.bind | apply Le.lp | exact Le.none _)
def e_attack_Attacks_L4 (n_ : Nat) (r1 : (List Int)) (s3 : (List T_Attack) × Int) (s4 : (List T_Attack) × Int) (s2 : (List T_Attack) × Int) (s5 : (List T_Attack) × Int) : Option (((List T_Attack) × Int) ⊕ (((List T_Attack) × Int) ⊕ (((List T_Attack) × Int) ⊕ (((List T_Attack) × Int) ⊕ (List T_Attack))))) :=
  if decide (s5.2 < (len r1)) then
    (idx r1 s5.2).bind fun x1 =>
    (app s5.1 ([(s3.2, s4.2, s2.2, x1)] : List T_Attack)).bind fun x2 =>
    some (.inl (x2, w64 (s5.2 + 1)))
  else
    some (.inr (.inl (s5.1, w64 (s4.2 + 1))))
theorem le_attack_Attacks_L4 (n_ : Nat) (r1 : (List Int)) (s3 : (List T_Attack) × Int) (s4 : (List T_Attack) × Int) (s2 : (List T_Attack) × Int) (s5 : (List T_Attack) × Int) : Le (e_attack_Attacks_L4 n_ r1 s3 s4 s2 s5) (m_attack_Attacks_L4 r1 s3 s4 s2 s5) := by
  unfold e_attack_Attacks_L4 m_attack_Attacks_L4
  repeat with_reducible (first | intro _ | exact Le.refl _ | apply Le.ite | apply Le.seqE | apply Le.bind | apply Le.lp | exact Le.none _)
def e_attack_Attacks_L3 (n_ : Nat) (y1 : List T_Argument) (s2 : (List T_Attack) × Int) (r1 : (List Int)) (s3 : (List T_Attack) × Int) (s4 : (List T_Attack) × Int) : Option (((List T_Attack) × Int) ⊕ (((List T_Attack) × Int) ⊕ (((List T_Attack) × Int) ⊕ (List T_Attack)))) :=
  if decide (s4.2 < (len y1)) then
    ((e_argument_Subs n_) y1 s4.2).bind fun r2 =>
    ((e_slices_Contains_int n_) r2 s2.2).bind fun r3 =>
    if !r3 then
      some (.inl (s4.1, w64 (s4.2 + 1)))
    else
      (lp n_) ((e_attack_Attacks_L4 n_) r1 s3 s4 s2) (s4.1, 0)
  else
    some (.inr (.inl (s4.1, w64 (s3.2 + 1))))
theorem le_attack_Attacks_L3 (n_ : Nat) (y1 : List T_Argument) (s2 : (List T_Attack) × Int) (r1 : (List Int)) (s3 : (List T_Attack) × Int) (s4 : (List T_Attack) × Int) : Le (e_attack_Attacks_L3 n_ y1 s2 r1 s3 s4) (m_attack_Attacks_L3 y1 s2 r1 s3 s4) := by
  unfold e_attack_Attacks_L3 m_attack_Attacks_L3
  repeat with_reducible (first | intro _ | apply le_attack_Attacks_L4 | apply le_slices_Contains_int | apply le_argument_Subs | exact Le.refl _ | apply Le.ite | apply Le.seqE | apply Le.bind | apply Le.lp | exact Le.none _)
def e_attack_Attacks_L2 (n_ : Nat) (y1 : List T_Argument) (y0 : T_Base) (s2 : (List T_Attack) × Int) (s3 : (List T_Attack) × Int) : Option (((List T_Attack) × Int) ⊕ (((List T_Attack) × Int) ⊕ (List T_Attack))) :=
  if decide (s3.2 < (len y1)) then
    ((e_attack_kinds n_) y0 y1 s3.2 s2.2).bind fun r1 =>
    if (len r1) == 0 then
      some (.inl (s3.1, w64 (s3.2 + 1)))
    else
      (lp n_) ((e_attack_Attacks_L3 n_) y1 s2 r1 s3) (s3.1, 0)
  else
    some (.inr (.inl (s3.1, w64 (s2.2 + 1))))
theorem le_attack_Attacks_L2 (n_ : Nat) (y1 : List T_Argument) (y0 : T_Base) (s2 : (List T_Attack) × Int) (s3 : (List T_Attack) × Int) : Le (e_attack_Attacks_L2 n_ y1 y0 s2 s3) (m_attack_Attacks_L2 y1 y0 s2 s3) := by
  unfold e_attack_Attacks_L2 m_attack_Attacks_L2
  repeat with_reducible (first | intro _ | apply le_attack_Attacks_L3 | apply le_attack_kinds | exact Le.refl _ | apply Le.ite | apply Le.seqE | apply Le.bind | apply Le.lp | exact Le.none _)
def e_attack_Attacks_L1 (n_ : Nat) (y1 : List T_Argument) (y0 : T_Base) (s2 : (List T_Attack) × Int) : Option (((List T_Attack) × Int) ⊕ (List T_Attack)) :=
  if decide (s2.2 < (len y1)) then
    (lp n_) ((e_attack_Attacks_L2 n_) y1 y0 s2) (s2.1, 0)
  else
    some (.inr s2.1)
theorem le_attack_Attacks_L1 (n_ : Nat) (y1 : List T_Argument) (y0 : T_Base) (s2 : (List T_Attack) × Int) : Le (e_attack_Attacks_L1 n_ y1 y0 s2) (m_attack_Attacks_L1 y1 y0 s2) := by
  unfold e_attack_Attacks_L1 m_attack_Attacks_L1
  repeat with_reducible (first | intro _ | apply le_attack_Attacks_L2 | exact Le.refl _ | apply Le.ite | apply Le.seqE | apply Le.bind | apply Le.lp | exact Le.none _)
def e_attack_Attacks (n_ : Nat) (y0 : T_Base) (y1 : List T_Argument) : Option (List T_Attack) :=
  ((lp n_) ((e_attack_Attacks_L1 n_) y1 y0) (([] : List T_Attack), 0) : Option (List T_Attack)).bind fun s1 =>
  ((e_slices_SortFunc_Attack__attack_Attacks_1 n_) s1).bind fun r4 =>
  some r4
theorem le_attack_Attacks (n_ : Nat) (y0 : T_Base) (y1 : List T_Argument) : Le (e_attack_Attacks n_ y0 y1) (m_attack_Attacks y0 y1) := by
  unfold e_attack_Attacks m_attack_Attacks
  repeat with_reducible (first | intro _ | apply le_slices_SortFunc_Attack__attack_Attacks_1 | apply le_attack_Attacks_L1 | exact Le.refl _ | apply Le.ite | apply Le.seqE | apply Le.bind | apply Le.lp | exact Le.none _)
def e_argument_Premises_L1 (n_ : Nat) (r1 : (List Int)) (y0 : List T_Argument) (s2 : (List Int) × Int) : Option (((List Int) × Int) ⊕ (List Int)) :=
  if decide (s2.2 < (len r1)) then
    (idx r1 s2.2).bind fun x1 =>
    (idx y0 x1).bind fun x2 =>
    if decide (0 ≤ x2.1) then
      (idx y0 x1).bind fun x3 =>
      (app s2.1 ([x3.1] : List Int)).bind fun x4 =>
      some (.inl (x4, w64 (s2.2 + 1)))
    else
      some (.inl (s2.1, w64 (s2.2 + 1)))
  else
    some (.inr s2.1)
theorem le_argument_Premises_L1 (n_ : Nat) (r1 : (List Int)) (y0 : List T_Argument) (s2 : (List Int) × Int) : Le (e_argument_Premises_L1 n_ r1 y0 s2) (m_argument_Premises_L1 r1 y0 s2) := by
  unfold e_argument_Premises_L1 m_argument_Premises_L1
  repeat with_reducible (first | intro _ | exact Le.refl _ | apply Le.ite | apply Le.seqE | apply Le.bind | apply Le.lp | exact Le.none _)
def e_argument_Premises (n_ : Nat) (y0 : List T_Argument) (y1 : Int) : Option (List Int) :=
  (
    ((e_argument_Subs n_) y0 y1).bind fun r1 =>
    (lp n_) ((e_argument_Premises_L1 n_) r1 y0) (([] : List Int), 0) : Option (List Int)).bind fun s1 =>
  ((e_slices_Sort_int n_) s1).bind fun r2 =>
  some r2
theorem le_argument_Premises (n_ : Nat) (y0 : List T_Argument) (y1 : Int) : Le (e_argument_Premises n_ y0 y1) (m_argument_Premises y0 y1) := by
  unfold e_argument_Premises m_argument_Premises
  repeat with_reducible (first | intro _ | apply le_slices_Sort_int | apply le_argument_Premises_L1 | apply le_argument_Subs | exact Le.refl _ | apply Le.ite | apply Le.seqE | apply Le.bind | apply Le.lp | exact Le.none _)
def e_lift_Assumes_1 (n_ : Nat) (y0 : Int) (y1 : T_Base) : Option Bool :=
  (idx y1.1 y0).bind fun x1 =>
  some (x1.2.1 == 3)
theorem le_lift_Assumes_1 (n_ : Nat) (y0 : Int) (y1 : T_Base) : Le (e_lift_Assumes_1 n_ y0 y1) (m_lift_Assumes_1 y0 y1) := by
  unfold e_lift_Assumes_1 m_lift_Assumes_1
  repeat with_reducible (first | intro _ | exact Le.refl _ | apply Le.ite | apply Le.seqE | apply Le.bind | apply Le.lp | exact Le.none _)
def e_slices_IndexFunc_int__lift_Assumes_1_L1 (n_ : Nat) (y0 : List Int) (y1 : T_Base) (s1 : Int) : Option (Int ⊕ Int) :=
  if decide (s1 < (len y0)) then
    (idx y0 s1).bind fun x1 =>
    ((e_lift_Assumes_1 n_) x1 y1).bind fun r1 =>
    if r1 then
      some (.inr s1)
    else
      some (.inl (w64 (s1 + 1)))
  else
    some (.inr (-1))
theorem le_slices_IndexFunc_int__lift_Assumes_1_L1 (n_ : Nat) (y0 : List Int) (y1 : T_Base) (s1 : Int) : Le (e_slices_IndexFunc_int__lift_Assumes_1_L1 n_ y0 y1 s1) (m_slices_IndexFunc_int__lift_Assumes_1_L1 y0 y1 s1) := by
  unfold e_slices_IndexFunc_int__lift_Assumes_1_L1 m_slices_IndexFunc_int__lift_Assumes_1_L1
  repeat with_reducible (first | intro _ | apply le_lift_Assumes_1 | exact Le.refl _ | apply Le.ite | apply Le.seqE | apply Le.bind | apply Le.lp | exact Le.none _)
def e_slices_IndexFunc_int__lift_Assumes_1 (n_ : Nat) (y0 : List Int) (y1 : T_Base) : Option Int :=
  (lp n_) ((e_slices_IndexFunc_int__lift_Assumes_1_L1 n_) y0 y1) 0
theorem le_slices_IndexFunc_int__lift_Assumes_1 (n_ : Nat) (y0 : List Int) (y1 : T_Base) : Le (e_slices_IndexFunc_int__lift_Assumes_1 n_ y0 y1) (m_slices_IndexFunc_int__lift_Assumes_1 y0 y1) := by
  unfold e_slices_IndexFunc_int__lift_Assumes_1 m_slices_IndexFunc_int__lift_Assumes_1
  repeat with_reducible (first | intro _ | apply le_slices_IndexFunc_int__lift_Assumes_1_L1 | exact Le.refl _ | apply Le.ite | apply Le.seqE | apply Le.bind | apply Le.lp | exact Le.none _)
def e_slices_ContainsFunc_int__lift_Assumes_1 (n_ : Nat) (y0 : List Int) (y1 : T_Base) : Option Bool :=
  ((e_slices_IndexFunc_int__lift_Assumes_1 n_) y0 y1).bind fun r1 =>
  some (decide (0 ≤ r1))
theorem le_slices_ContainsFunc_int__lift_Assumes_1 (n_ : Nat) (y0 : List Int) (y1 : T_Base) : Le (e_slices_ContainsFunc_int__lift_Assumes_1 n_ y0 y1) (m_slices_ContainsFunc_int__lift_Assumes_1 y0 y1) := by
  unfold e_slices_ContainsFunc_int__lift_Assumes_1 m_slices_ContainsFunc_int__lift_Assumes_1
  repeat with_reducible (first | intro _ | apply le_slices_IndexFunc_int__lift_Assumes_1 | exact Le.refl _ | apply Le.ite | apply Le.seqE | apply Le.bind | apply Le.lp | exact Le.none _)
def e_lift_Assumes (n_ : Nat) (y0 : T_Base) (y1 : List T_Argument) (y2 : Int) : Option Bool :=
  ((e_argument_Premises n_) y1 y2).bind fun r1 =>
  ((e_slices_ContainsFunc_int__lift_Assumes_1 n_) r1 y0).bind fun r2 =>
  some r2
theorem le_lift_Assumes (n_ : Nat) (y0 : T_Base) (y1 : List T_Argument) (y2 : Int) : Le (e_lift_Assumes n_ y0 y1 y2) (m_lift_Assumes y0 y1 y2) := by
  unfold e_lift_Assumes m_lift_Assumes
  repeat with_reducible (first | intro _ | apply le_slices_ContainsFunc_int__lift_Assumes_1 | apply le_argument_Premises | exact Le.refl _ | apply Le.ite | apply Le.seqE | apply Le.bind | apply Le.lp | exact Le.none _)
def e_argument_Last_L1 (n_ : Nat) (x5 : T_Argument) (rec_argument_Last : T_Base → (List T_Argument) → Int → Option (List Int)) (y0 : T_Base) (y1 : List T_Argument) (s3 : (List Int) × Int) : Option (((List Int) × Int) ⊕ (List Int)) :=
  if decide (s3.2 < (len x5.2.2.1)) then
    (idx x5.2.2.1 s3.2).bind fun x6 =>
    (rec_argument_Last y0 y1 x6).bind fun r2 =>
    (app s3.1 r2).bind fun x7 =>
    some (.inl (x7, w64 (s3.2 + 1)))
  else
    some (.inr s3.1)
theorem le_argument_Last_L1 (n_ : Nat) (x5 : T_Argument) {rec_argument_Last rec_argument_Last' : T_Base → (List T_Argument) → Int → Option (List Int)} (h_rec_argument_Last : ∀ u0 u1 u2, Le (rec_argument_Last u0 u1 u2) (rec_argument_Last' u0 u1 u2)) (y0 : T_Base) (y1 : List T_Argument) (s3 : (List Int) × Int) : Le (e_argument_Last_L1 n_ x5 rec_argument_Last y0 y1 s3) (m_argument_Last_L1 x5 rec_argument_Last' y0 y1 s3) := by
  unfold e_argument_Last_L1 m_argument_Last_L1
  repeat with_reducible (first | intro _ | apply h_rec_argument_Last | exact Le.refl _ | apply Le.ite | apply Le.seqE | apply Le.bind | apply Le.lp | exact Le.none _)
def fe_argument_Last (n_ : Nat) (rec_argument_Last : T_Base → (List T_Argument) → Int → Option (List Int)) (y0 : T_Base) (y1 : List T_Argument) (y2 : Int) : Option (List Int) :=
  (
    ((e_argument_inside n_) y1 y2).bind fun r1 =>
    if !r1 then
      some true
    else
      (idx y1 y2).bind fun x1 =>
      some (decide (x1.2.1 < 0)) : Option Bool).bind fun s1 =>
  if s1 then
    some ([] : List Int)
  else
    (idx y1 y2).bind fun x2 =>
    (idx y0.2.1 x2.2.1).bind fun x3 =>
    if !x3.2.1 then
      (idx y1 y2).bind fun x4 =>
      some ([x4.2.1] : List Int)
    else
      (
        (idx y1 y2).bind fun x5 =>
        (lp n_) ((e_argument_Last_L1 n_) x5 rec_argument_Last y0 y1) (([] : List Int), 0) : Option (List Int)).bind fun s2 =>
      ((e_slices_Sort_int n_) s2).bind fun r3 =>
      ((e_slices_Compact_int n_) r3).bind fun r4 =>
      some r4
theorem lef_argument_Last (n_ : Nat) {rec_argument_Last rec_argument_Last' : T_Base → (List T_Argument) → Int → Option (List Int)} (h_rec_argument_Last : ∀ u0 u1 u2, Le (rec_argument_Last u0 u1 u2) (rec_argument_Last' u0 u1 u2)) (y0 : T_Base) (y1 : List T_Argument) (y2 : Int) : Le (fe_argument_Last n_ rec_argument_Last y0 y1 y2) (F_argument_Last rec_argument_Last' y0 y1 y2) := by
  unfold fe_argument_Last F_argument_Last
  repeat with_reducible (first | intro _ | apply h_rec_argument_Last | apply le_slices_Compact_int | apply le_slices_Sort_int | apply le_argument_Last_L1 | apply le_argument_inside | exact Le.refl _ | apply Le.ite | apply Le.seqE | apply Le.bind | apply Le.lp | exact Le.none _)
def ke_argument_Last (n_ : Nat) : Nat → T_Base → (List T_Argument) → Int → Option (List Int)
  | 0 => fun _ _ _ => none
  | k + 1 => fun y0 y1 y2 => (fe_argument_Last n_) ((ke_argument_Last n_) k) y0 y1 y2
theorem lek_argument_Last (n_ : Nat) : ∀ (k m : Nat), k ≤ m → ∀ u0 u1 u2, Le (ke_argument_Last n_ k u0 u1 u2) (k_argument_Last m u0 u1 u2)
  | 0, _, _ => fun u0 u1 u2 => Le.none _
  | k + 1, m, h => fun u0 u1 u2 => by
    obtain ⟨m, rfl⟩ : ∃ q, m = q + 1 := ⟨m - 1, by omega⟩
    exact lef_argument_Last n_ (lek_argument_Last n_ k m (by omega)) _ _ _
def e_argument_Last (n_ : Nat) (y0 : T_Base) (y1 : List T_Argument) (y2 : Int) : Option (List Int) :=
  ke_argument_Last n_ n_ y0 y1 y2
theorem le_argument_Last (n_ : Nat) (y0 : T_Base) (y1 : List T_Argument) (y2 : Int) : Le (e_argument_Last n_ y0 y1 y2) (m_argument_Last y0 y1 y2) := Le.lim n_ fun m h => lek_argument_Last n_ n_ m h _ _ _
def e_lift_ranks_L1 (n_ : Nat) (y1 : List Int) (y0 : T_Base) (s1 : (List Int) × Int) : Option (((List Int) × Int) ⊕ (List Int)) :=
  if decide (s1.2 < (len y1)) then
    (idx y1 s1.2).bind fun x1 =>
    (idx y0.2.1 x1).bind fun x2 =>
    (app s1.1 ([x2.2.2.1] : List Int)).bind fun x3 =>
    some (.inl (x3, w64 (s1.2 + 1)))
  else
    some (.inr s1.1)
theorem le_lift_ranks_L1 (n_ : Nat) (y1 : List Int) (y0 : T_Base) (s1 : (List Int) × Int) : Le (e_lift_ranks_L1 n_ y1 y0 s1) (m_lift_ranks_L1 y1 y0 s1) := by
  unfold e_lift_ranks_L1 m_lift_ranks_L1
  repeat with_reducible (first | intro _ | exact Le.refl _ | apply Le.ite | apply Le.seqE | apply Le.bind | apply Le.lp | exact Le.none _)
def e_lift_ranks (n_ : Nat) (y0 : T_Base) (y1 : List Int) : Option (List Int) :=
  (lp n_) ((e_lift_ranks_L1 n_) y1 y0) (([] : List Int), 0)
theorem le_lift_ranks (n_ : Nat) (y0 : T_Base) (y1 : List Int) : Le (e_lift_ranks n_ y0 y1) (m_lift_ranks y0 y1) := by
  unfold e_lift_ranks m_lift_ranks
  repeat with_reducible (first | intro _ | apply le_lift_ranks_L1 | exact Le.refl _ | apply Le.ite | apply Le.seqE | apply Le.bind | apply Le.lp | exact Le.none _)
def e_lift_LastRanks (n_ : Nat) (y0 : T_Base) (y1 : List T_Argument) (y2 : Int) : Option (List Int) :=
  ((e_argument_Last n_) y0 y1 y2).bind fun r1 =>
  ((e_lift_ranks n_) y0 r1).bind fun r2 =>
  some r2
theorem le_lift_LastRanks (n_ : Nat) (y0 : T_Base) (y1 : List T_Argument) (y2 : Int) : Le (e_lift_LastRanks n_ y0 y1 y2) (m_lift_LastRanks y0 y1 y2) := by
  unfold e_lift_LastRanks m_lift_LastRanks
  repeat with_reducible (first | intro _ | apply le_lift_ranks | apply le_argument_Last | exact Le.refl _ | apply Le.ite | apply Le.seqE | apply Le.bind | apply Le.lp | exact Le.none _)
def e_slices_Max_int_L1 (n_ : Nat) (y0 : List Int) (s2 : Int × Int) : Option ((Int × Int) ⊕ Int) :=
  if decide (s2.2 < (len y0)) then
    (idx y0 s2.2).bind fun x2 =>
    some (.inl (if x2 > s2.1 then x2 else s2.1, w64 (s2.2 + 1)))
  else
    some (.inr s2.1)
theorem le_slices_Max_int_L1 (n_ : Nat) (y0 : List Int) (s2 : Int × Int) : Le (e_slices_Max_int_L1 n_ y0 s2) (m_slices_Max_int_L1 y0 s2) := by
  unfold e_slices_Max_int_L1 m_slices_Max_int_L1
  repeat with_reducible (first | intro _ | exact Le.refl _ | apply Le.ite | apply Le.seqE | apply Le.bind | apply Le.lp | exact Le.none _)
def e_slices_Max_int (n_ : Nat) (y0 : List Int) : Option Int :=
  (
    if decide ((len y0) < 1) then
      none
    else
      some () : Option Unit).bind fun _ =>
  (idx y0 0).bind fun x1 =>
  (lp n_) ((e_slices_Max_int_L1 n_) y0) (x1, 1)
theorem le_slices_Max_int (n_ : Nat) (y0 : List Int) : Le (e_slices_Max_int n_ y0) (m_slices_Max_int y0) := by
  unfold e_slices_Max_int m_slices_Max_int
  repeat with_reducible (first | intro _ | apply le_slices_Max_int_L1 | exact Le.refl _ | apply Le.ite | apply Le.seqE | apply Le.bind | apply Le.lp | exact Le.none _)
def e_slices_Min_int_L1 (n_ : Nat) (y0 : List Int) (s2 : Int × Int) : Option ((Int × Int) ⊕ Int) :=
  if decide (s2.2 < (len y0)) then
    (idx y0 s2.2).bind fun x2 =>
    some (.inl (if x2 < s2.1 then x2 else s2.1, w64 (s2.2 + 1)))
  else
    some (.inr s2.1)
theorem le_slices_Min_int_L1 (n_ : Nat) (y0 : List Int) (s2 : Int × Int) : Le (e_slices_Min_int_L1 n_ y0 s2) (m_slices_Min_int_L1 y0 s2) := by
  unfold e_slices_Min_int_L1 m_slices_Min_int_L1
  repeat with_reducible (first | intro _ | exact Le.refl _ | apply Le.ite | apply Le.seqE | apply Le.bind | apply Le.lp | exact Le.none _)
def e_slices_Min_int (n_ : Nat) (y0 : List Int) : Option Int :=
  (
    if decide ((len y0) < 1) then
      none
    else
      some () : Option Unit).bind fun _ =>
  (idx y0 0).bind fun x1 =>
  (lp n_) ((e_slices_Min_int_L1 n_) y0) (x1, 1)
theorem le_slices_Min_int (n_ : Nat) (y0 : List Int) : Le (e_slices_Min_int n_ y0) (m_slices_Min_int y0) := by
  unfold e_slices_Min_int m_slices_Min_int
  repeat with_reducible (first | intro _ | apply le_slices_Min_int_L1 | exact Le.refl _ | apply Le.ite | apply Le.seqE | apply Le.bind | apply Le.lp | exact Le.none _)
def e_lift_SetLess (n_ : Nat) (y0 : List Int) (y1 : List Int) (y2 : Int) : Option Bool :=
  if if y2 != 1 then (y2 != 2) || ((len y0) == 0) else (len y0) == 0 then
    some false
  else
    if (len y1) == 0 then
      some true
    else
      if y2 == 1 then
        ((e_slices_Min_int n_) y0).bind fun r1 =>
        ((e_slices_Min_int n_) y1).bind fun r2 =>
        some (decide (r1 < r2))
      else
        ((e_slices_Max_int n_) y0).bind fun r3 =>
        ((e_slices_Max_int n_) y1).bind fun r4 =>
        some (decide (r3 < r4))
theorem le_lift_SetLess (n_ : Nat) (y0 : List Int) (y1 : List Int) (y2 : Int) : Le (e_lift_SetLess n_ y0 y1 y2) (m_lift_SetLess y0 y1 y2) := by
  unfold e_lift_SetLess m_lift_SetLess
  repeat with_reducible (first | intro _ | apply le_slices_Max_int | apply le_slices_Min_int | exact Le.refl _ | apply Le.ite | apply Le.seqE | apply Le.bind | apply Le.lp | exact Le.none _)
def e_lift_Less_1__lift_LastRanks (n_ : Nat) (y0 : T_Base) (y1 : List T_Argument) (y2 : Int) (y3 : Int) (y4 : T_Ordering) : Option Bool :=
  ((e_lift_LastRanks n_) y0 y1 y2).bind fun r1 =>
  ((e_lift_LastRanks n_) y0 y1 y3).bind fun r2 =>
  ((e_lift_SetLess n_) r1 r2 y4.2).bind fun r3 =>
  some r3
theorem le_lift_Less_1__lift_LastRanks (n_ : Nat) (y0 : T_Base) (y1 : List T_Argument) (y2 : Int) (y3 : Int) (y4 : T_Ordering) : Le (e_lift_Less_1__lift_LastRanks n_ y0 y1 y2 y3 y4) (m_lift_Less_1__lift_LastRanks y0 y1 y2 y3 y4) := by
  unfold e_lift_Less_1__lift_LastRanks m_lift_Less_1__lift_LastRanks
  repeat with_reducible (first | intro _ | apply le_lift_SetLess | apply le_lift_LastRanks | exact Le.refl _ | apply Le.ite | apply Le.seqE | apply Le.bind | apply Le.lp | exact Le.none _)
def e_lift_PremiseRanks_L1 (n_ : Nat) (r1 : (List Int)) (y0 : T_Base) (s1 : (List Int) × Int) : Option (((List Int) × Int) ⊕ (List Int)) :=
  if decide (s1.2 < (len r1)) then
    (idx r1 s1.2).bind fun x1 =>
    (idx y0.1 x1).bind fun x2 =>
    if x2.2.1 == 2 then
      (app s1.1 ([x2.2.2.1] : List Int)).bind fun x3 =>
      some (.inl (x3, w64 (s1.2 + 1)))
    else
      if x2.2.1 == 3 then
        (app s1.1 ([(-1)] : List Int)).bind fun x4 =>
        some (.inl (x4, w64 (s1.2 + 1)))
      else
        some (.inl (s1.1, w64 (s1.2 + 1)))
  else
    some (.inr s1.1)
theorem le_lift_PremiseRanks_L1 (n_ : Nat) (r1 : (List Int)) (y0 : T_Base) (s1 : (List Int) × Int) : Le (e_lift_PremiseRanks_L1 n_ r1 y0 s1) (m_lift_PremiseRanks_L1 r1 y0 s1) := by
  unfold e_lift_PremiseRanks_L1 m_lift_PremiseRanks_L1
  repeat with_reducible (first | intro _ | exact Le.refl _ | apply Le.ite | apply Le.seqE | apply Le.bind | apply Le.lp | exact Le.none _)
def e_lift_PremiseRanks (n_ : Nat) (y0 : T_Base) (y1 : List T_Argument) (y2 : Int) : Option (List Int) :=
  ((e_argument_Premises n_) y1 y2).bind fun r1 =>
  (lp n_) ((e_lift_PremiseRanks_L1 n_) r1 y0) (([] : List Int), 0)
theorem le_lift_PremiseRanks (n_ : Nat) (y0 : T_Base) (y1 : List T_Argument) (y2 : Int) : Le (e_lift_PremiseRanks n_ y0 y1 y2) (m_lift_PremiseRanks y0 y1 y2) := by
  unfold e_lift_PremiseRanks m_lift_PremiseRanks
  repeat with_reducible (first | intro _ | apply le_lift_PremiseRanks_L1 | apply le_argument_Premises | exact Le.refl _ | apply Le.ite | apply Le.seqE | apply Le.bind | apply Le.lp | exact Le.none _)
def e_lift_Less_1__lift_PremiseRanks (n_ : Nat) (y0 : T_Base) (y1 : List T_Argument) (y2 : Int) (y3 : Int) (y4 : T_Ordering) : Option Bool :=
  ((e_lift_PremiseRanks n_) y0 y1 y2).bind fun r1 =>
  ((e_lift_PremiseRanks n_) y0 y1 y3).bind fun r2 =>
  ((e_lift_SetLess n_) r1 r2 y4.2).bind fun r3 =>
  some r3
theorem le_lift_Less_1__lift_PremiseRanks (n_ : Nat) (y0 : T_Base) (y1 : List T_Argument) (y2 : Int) (y3 : Int) (y4 : T_Ordering) : Le (e_lift_Less_1__lift_PremiseRanks n_ y0 y1 y2 y3 y4) (m_lift_Less_1__lift_PremiseRanks y0 y1 y2 y3 y4) := by
  unfold e_lift_Less_1__lift_PremiseRanks m_lift_Less_1__lift_PremiseRanks
  repeat with_reducible (first | intro _ | apply le_lift_SetLess | apply le_lift_PremiseRanks | exact Le.refl _ | apply Le.ite | apply Le.seqE | apply Le.bind | apply Le.lp | exact Le.none _)
def e_lift_Less_2__lift_LastRanks (n_ : Nat) (y0 : T_Base) (y1 : List T_Argument) (y2 : Int) (y3 : Int) : Option Bool :=
  (
    ((e_lift_LastRanks n_) y0 y1 y2).bind fun r1 =>
    if (len r1) == 0 then
      ((e_lift_LastRanks n_) y0 y1 y3).bind fun r2 =>
      some ((len r2) == 0)
    else
      some false : Option Bool).bind fun s1 =>
  some s1
theorem le_lift_Less_2__lift_LastRanks (n_ : Nat) (y0 : T_Base) (y1 : List T_Argument) (y2 : Int) (y3 : Int) : Le (e_lift_Less_2__lift_LastRanks n_ y0 y1 y2 y3) (m_lift_Less_2__lift_LastRanks y0 y1 y2 y3) := by
  unfold e_lift_Less_2__lift_LastRanks m_lift_Less_2__lift_LastRanks
  repeat with_reducible (first | intro _ | apply le_lift_LastRanks | exact Le.refl _ | apply Le.ite | apply Le.seqE | apply Le.bind | apply Le.lp | exact Le.none _)
def e_lift_Less_3__lift_Less_1 (n_ : Nat) (y1 : T_Base) (y2 : List T_Argument) (y3 : Int) (y4 : Int) (y5 : T_Ordering) : Option Bool :=
  (
    ((e_lift_Less_1__lift_LastRanks n_) y1 y2 y3 y4 y5).bind fun r1 =>
    if r1 then
      some true
    else
      ((e_lift_Less_2__lift_LastRanks n_) y1 y2 y3 y4).bind fun r2 =>
      if r2 then
        ((e_lift_Less_1__lift_PremiseRanks n_) y1 y2 y3 y4 y5).bind fun r3 =>
        some r3
      else
        some false : Option Bool).bind fun s1 =>
  some s1
theorem le_lift_Less_3__lift_Less_1 (n_ : Nat) (y1 : T_Base) (y2 : List T_Argument) (y3 : Int) (y4 : Int) (y5 : T_Ordering) : Le (e_lift_Less_3__lift_Less_1 n_ y1 y2 y3 y4 y5) (m_lift_Less_3__lift_Less_1 y1 y2 y3 y4 y5) := by
  unfold e_lift_Less_3__lift_Less_1 m_lift_Less_3__lift_Less_1
  repeat with_reducible (first | intro _ | apply le_lift_Less_1__lift_PremiseRanks | apply le_lift_Less_2__lift_LastRanks | apply le_lift_Less_1__lift_LastRanks | exact Le.refl _ | apply Le.ite | apply Le.seqE | apply Le.bind | apply Le.lp | exact Le.none _)
def e_argument_Defeasible_L1 (n_ : Nat) (r1 : (List Int)) (y1 : List T_Argument) (y0 : T_Base) (s2 : (List Int) × Int) : Option (((List Int) × Int) ⊕ (List Int)) :=
  if decide (s2.2 < (len r1)) then
    (idx r1 s2.2).bind fun x1 =>
    (idx y1 x1).bind fun x2 =>
    (
      if decide (0 ≤ x2.2.1) then
        (idx y0.2.1 x2.2.1).bind fun x3 =>
        some (!x3.2.1)
      else
        some false : Option Bool).bind fun s3 =>
    if s3 then
      (app s2.1 ([x2.2.1] : List Int)).bind fun x4 =>
      some (.inl (x4, w64 (s2.2 + 1)))
    else
      some (.inl (s2.1, w64 (s2.2 + 1)))
  else
    some (.inr s2.1)
theorem le_argument_Defeasible_L1 (n_ : Nat) (r1 : (List Int)) (y1 : List T_Argument) (y0 : T_Base) (s2 : (List Int) × Int) : Le (e_argument_Defeasible_L1 n_ r1 y1 y0 s2) (m_argument_Defeasible_L1 r1 y1 y0 s2) := by
  unfold e_argument_Defeasible_L1 m_argument_Defeasible_L1
  repeat with_reducible (first | intro _ | exact Le.refl _ | apply Le.ite | apply Le.seqE | apply Le.bind | apply Le.lp | exact Le.none _)
def e_argument_Defeasible (n_ : Nat) (y0 : T_Base) (y1 : List T_Argument) (y2 : Int) : Option (List Int) :=
  (
    ((e_argument_Subs n_) y1 y2).bind fun r1 =>
    (lp n_) ((e_argument_Defeasible_L1 n_) r1 y1 y0) (([] : List Int), 0) : Option (List Int)).bind fun s1 =>
  ((e_slices_Sort_int n_) s1).bind fun r2 =>
  ((e_slices_Compact_int n_) r2).bind fun r3 =>
  some r3
theorem le_argument_Defeasible (n_ : Nat) (y0 : T_Base) (y1 : List T_Argument) (y2 : Int) : Le (e_argument_Defeasible n_ y0 y1 y2) (m_argument_Defeasible y0 y1 y2) := by
  unfold e_argument_Defeasible m_argument_Defeasible
  repeat with_reducible (first | intro _ | apply le_slices_Compact_int | apply le_slices_Sort_int | apply le_argument_Defeasible_L1 | apply le_argument_Subs | exact Le.refl _ | apply Le.ite | apply Le.seqE | apply Le.bind | apply Le.lp | exact Le.none _)
def e_lift_RuleRanks (n_ : Nat) (y0 : T_Base) (y1 : List T_Argument) (y2 : Int) : Option (List Int) :=
  ((e_argument_Defeasible n_) y0 y1 y2).bind fun r1 =>
  ((e_lift_ranks n_) y0 r1).bind fun r2 =>
  some r2
theorem le_lift_RuleRanks (n_ : Nat) (y0 : T_Base) (y1 : List T_Argument) (y2 : Int) : Le (e_lift_RuleRanks n_ y0 y1 y2) (m_lift_RuleRanks y0 y1 y2) := by
  unfold e_lift_RuleRanks m_lift_RuleRanks
  repeat with_reducible (first | intro _ | apply le_lift_ranks | apply le_argument_Defeasible | exact Le.refl _ | apply Le.ite | apply Le.seqE | apply Le.bind | apply Le.lp | exact Le.none _)
def e_lift_Less_1__lift_RuleRanks (n_ : Nat) (y0 : T_Base) (y1 : List T_Argument) (y2 : Int) (y3 : Int) (y4 : T_Ordering) : Option Bool :=
  ((e_lift_RuleRanks n_) y0 y1 y2).bind fun r1 =>
  ((e_lift_RuleRanks n_) y0 y1 y3).bind fun r2 =>
  ((e_lift_SetLess n_) r1 r2 y4.2).bind fun r3 =>
  some r3
theorem le_lift_Less_1__lift_RuleRanks (n_ : Nat) (y0 : T_Base) (y1 : List T_Argument) (y2 : Int) (y3 : Int) (y4 : T_Ordering) : Le (e_lift_Less_1__lift_RuleRanks n_ y0 y1 y2 y3 y4) (m_lift_Less_1__lift_RuleRanks y0 y1 y2 y3 y4) := by
  unfold e_lift_Less_1__lift_RuleRanks m_lift_Less_1__lift_RuleRanks
  repeat with_reducible (first | intro _ | apply le_lift_SetLess | apply le_lift_RuleRanks | exact Le.refl _ | apply Le.ite | apply Le.seqE | apply Le.bind | apply Le.lp | exact Le.none _)
def e_lift_Less_2__lift_PremiseRanks (n_ : Nat) (y0 : T_Base) (y1 : List T_Argument) (y2 : Int) (y3 : Int) : Option Bool :=
  (
    ((e_lift_PremiseRanks n_) y0 y1 y2).bind fun r1 =>
    if (len r1) == 0 then
      ((e_lift_PremiseRanks n_) y0 y1 y3).bind fun r2 =>
      some ((len r2) == 0)
    else
      some false : Option Bool).bind fun s1 =>
  some s1
theorem le_lift_Less_2__lift_PremiseRanks (n_ : Nat) (y0 : T_Base) (y1 : List T_Argument) (y2 : Int) (y3 : Int) : Le (e_lift_Less_2__lift_PremiseRanks n_ y0 y1 y2 y3) (m_lift_Less_2__lift_PremiseRanks y0 y1 y2 y3) := by
  unfold e_lift_Less_2__lift_PremiseRanks m_lift_Less_2__lift_PremiseRanks
  repeat with_reducible (first | intro _ | apply le_lift_PremiseRanks | exact Le.refl _ | apply Le.ite | apply Le.seqE | apply Le.bind | apply Le.lp | exact Le.none _)
def e_lift_Less_2__lift_RuleRanks (n_ : Nat) (y0 : T_Base) (y1 : List T_Argument) (y2 : Int) (y3 : Int) : Option Bool :=
  (
    ((e_lift_RuleRanks n_) y0 y1 y2).bind fun r1 =>
    if (len r1) == 0 then
      ((e_lift_RuleRanks n_) y0 y1 y3).bind fun r2 =>
      some ((len r2) == 0)
    else
      some false : Option Bool).bind fun s1 =>
  some s1
theorem le_lift_Less_2__lift_RuleRanks (n_ : Nat) (y0 : T_Base) (y1 : List T_Argument) (y2 : Int) (y3 : Int) : Le (e_lift_Less_2__lift_RuleRanks n_ y0 y1 y2 y3) (m_lift_Less_2__lift_RuleRanks y0 y1 y2 y3) := by
  unfold e_lift_Less_2__lift_RuleRanks m_lift_Less_2__lift_RuleRanks
  repeat with_reducible (first | intro _ | apply le_lift_RuleRanks | exact Le.refl _ | apply Le.ite | apply Le.seqE | apply Le.bind | apply Le.lp | exact Le.none _)
def e_lift_Less_4__lift_Less_2 (n_ : Nat) (y1 : T_Base) (y2 : List T_Argument) (y3 : Int) (y4 : Int) (y6 : T_Ordering) : Option Bool :=
  ((e_lift_Less_2__lift_RuleRanks n_) y1 y2 y3 y4).bind fun r1 =>
  if r1 then
    ((e_lift_Less_1__lift_PremiseRanks n_) y1 y2 y3 y4 y6).bind fun r2 =>
    some r2
  else
    ((e_lift_Less_2__lift_PremiseRanks n_) y1 y2 y3 y4).bind fun r3 =>
    if r3 then
      ((e_lift_Less_1__lift_RuleRanks n_) y1 y2 y3 y4 y6).bind fun r4 =>
      some r4
    else
      (
        ((e_lift_Less_1__lift_PremiseRanks n_) y1 y2 y3 y4 y6).bind fun r5 =>
        if r5 then
          ((e_lift_Less_1__lift_RuleRanks n_) y1 y2 y3 y4 y6).bind fun r6 =>
          some r6
        else
          some false : Option Bool).bind fun s1 =>
      some s1
theorem le_lift_Less_4__lift_Less_2 (n_ : Nat) (y1 : T_Base) (y2 : List T_Argument) (y3 : Int) (y4 : Int) (y6 : T_Ordering) : Le (e_lift_Less_4__lift_Less_2 n_ y1 y2 y3 y4 y6) (m_lift_Less_4__lift_Less_2 y1 y2 y3 y4 y6) := by
  unfold e_lift_Less_4__lift_Less_2 m_lift_Less_4__lift_Less_2
  repeat with_reducible (first | intro _ | apply le_lift_Less_1__lift_RuleRanks | apply le_lift_Less_2__lift_PremiseRanks | apply le_lift_Less_1__lift_PremiseRanks | apply le_lift_Less_2__lift_RuleRanks | exact Le.refl _ | apply Le.ite | apply Le.seqE | apply Le.bind | apply Le.lp | exact Le.none _)
def e_lift_Less (n_ : Nat) (y0 : T_Base) (y1 : List T_Argument) (y2 : Int) (y3 : Int) (y4 : T_Ordering) : Option Bool :=
  (
    if decide ((if y3 < y2 then y3 else y2) < 0) then
      some true
    else
      if decide ((len y1) ≤ (if y3 > y2 then y3 else y2)) then
        some true
      else
        ((e_lift_Assumes n_) y0 y1 y3).bind fun r1 =>
        some r1 : Option Bool).bind fun s1 =>
  if s1 then
    some false
  else
    if y4.1 == 1 then
      ((e_lift_Less_3__lift_Less_1 n_) y0 y1 y2 y3 y4).bind fun r2 =>
      some r2
    else
      if y4.1 == 2 then
        ((e_lift_Less_4__lift_Less_2 n_) y0 y1 y2 y3 y4).bind fun r3 =>
        some r3
      else
        some false
theorem le_lift_Less (n_ : Nat) (y0 : T_Base) (y1 : List T_Argument) (y2 : Int) (y3 : Int) (y4 : T_Ordering) : Le (e_lift_Less n_ y0 y1 y2 y3 y4) (m_lift_Less y0 y1 y2 y3 y4) := by
  unfold e_lift_Less m_lift_Less
  repeat with_reducible (first | intro _ | apply le_lift_Less_4__lift_Less_2 | apply le_lift_Less_3__lift_Less_1 | apply le_lift_Assumes | exact Le.refl _ | apply Le.ite | apply Le.seqE | apply Le.bind | apply Le.lp | exact Le.none _)
def e_attack_Defeats_1 (n_ : Nat) (y0 : T_Attack) (y1 : T_Base) (y2 : List T_Argument) (y3 : T_Ordering) : Option Bool :=
  (
    if y0.2.2.2 != 3 then
      ((e_lift_Less n_) y1 y2 y0.1 y0.2.2.1 y3).bind fun r1 =>
      some r1
    else
      some false : Option Bool).bind fun s1 =>
  some s1
theorem le_attack_Defeats_1 (n_ : Nat) (y0 : T_Attack) (y1 : T_Base) (y2 : List T_Argument) (y3 : T_Ordering) : Le (e_attack_Defeats_1 n_ y0 y1 y2 y3) (m_attack_Defeats_1 y0 y1 y2 y3) := by
  unfold e_attack_Defeats_1 m_attack_Defeats_1
  repeat with_reducible (first | intro _ | apply le_lift_Less | exact Le.refl _ | apply Le.ite | apply Le.seqE | apply Le.bind | apply Le.lp | exact Le.none _)
def e_slices_IndexFunc_Attack__attack_Defeats_1_L1 (n_ : Nat) (y0 : List T_Attack) (y1 : T_Base) (y2 : List T_Argument) (y3 : T_Ordering) (s1 : Int) : Option (Int ⊕ Int) :=
  if decide (s1 < (len y0)) then
    (idx y0 s1).bind fun x1 =>
    ((e_attack_Defeats_1 n_) x1 y1 y2 y3).bind fun r1 =>
    if r1 then
      some (.inr s1)
    else
      some (.inl (w64 (s1 + 1)))
  else
    some (.inr (-1))
theorem le_slices_IndexFunc_Attack__attack_Defeats_1_L1 (n_ : Nat) (y0 : List T_Attack) (y1 : T_Base) (y2 : List T_Argument) (y3 : T_Ordering) (s1 : Int) : Le (e_slices_IndexFunc_Attack__attack_Defeats_1_L1 n_ y0 y1 y2 y3 s1) (m_slices_IndexFunc_Attack__attack_Defeats_1_L1 y0 y1 y2 y3 s1) := by
  unfold e_slices_IndexFunc_Attack__attack_Defeats_1_L1 m_slices_IndexFunc_Attack__attack_Defeats_1_L1
  repeat with_reducible (first | intro _ | apply le_attack_Defeats_1 | exact Le.refl _ | apply Le.ite | apply Le.seqE | apply Le.bind | apply Le.lp | exact Le.none _)
def e_slices_IndexFunc_Attack__attack_Defeats_1 (n_ : Nat) (y0 : List T_Attack) (y1 : T_Base) (y2 : List T_Argument) (y3 : T_Ordering) : Option Int :=
  (lp n_) ((e_slices_IndexFunc_Attack__attack_Defeats_1_L1 n_) y0 y1 y2 y3) 0
theorem le_slices_IndexFunc_Attack__attack_Defeats_1 (n_ : Nat) (y0 : List T_Attack) (y1 : T_Base) (y2 : List T_Argument) (y3 : T_Ordering) : Le (e_slices_IndexFunc_Attack__attack_Defeats_1 n_ y0 y1 y2 y3) (m_slices_IndexFunc_Attack__attack_Defeats_1 y0 y1 y2 y3) := by
  unfold e_slices_IndexFunc_Attack__attack_Defeats_1 m_slices_IndexFunc_Attack__attack_Defeats_1
  repeat with_reducible (first | intro _ | apply le_slices_IndexFunc_Attack__attack_Defeats_1_L1 | exact Le.refl _ | apply Le.ite | apply Le.seqE | apply Le.bind | apply Le.lp | exact Le.none _)
def e_slices_DeleteFunc_Attack__attack_Defeats_1_L1 (n_ : Nat) (y0 : List T_Attack) (y1 : T_Base) (y2 : List T_Argument) (y3 : T_Ordering) (s2 : (List T_Attack) × Int × Int) : Option (((List T_Attack) × Int × Int) ⊕ ((List T_Attack) × Int)) :=
  if decide (s2.2.2 < (len y0)) then
    (idx s2.1 s2.2.2).bind fun x1 =>
    ((e_attack_Defeats_1 n_) x1 y1 y2 y3).bind fun r2 =>
    if !r2 then
      (idx s2.1 s2.2.1).bind fun _ =>
      some (.inl (List.set s2.1 (Int.toNat s2.2.1) x1, w64 (s2.2.1 + 1), w64 (s2.2.2 + 1)))
    else
      some (.inl (s2.1, s2.2.1, w64 (s2.2.2 + 1)))
  else
    some (.inr (s2.1, s2.2.1))
theorem le_slices_DeleteFunc_Attack__attack_Defeats_1_L1 (n_ : Nat) (y0 : List T_Attack) (y1 : T_Base) (y2 : List T_Argument) (y3 : T_Ordering) (s2 : (List T_Attack) × Int × Int) : Le (e_slices_DeleteFunc_Attack__attack_Defeats_1_L1 n_ y0 y1 y2 y3 s2) (m_slices_DeleteFunc_Attack__attack_Defeats_1_L1 y0 y1 y2 y3 s2) := by
  unfold e_slices_DeleteFunc_Attack__attack_Defeats_1_L1 m_slices_DeleteFunc_Attack__attack_Defeats_1_L1
  repeat with_reducible (first | intro _ | apply le_attack_Defeats_1 | exact Le.refl _ | apply Le.ite | apply Le.seqE | apply Le.bind | apply Le.lp | exact Le.none _)
def e_slices_DeleteFunc_Attack__attack_Defeats_1 (n_ : Nat) (y0 : List T_Attack) (y1 : T_Base) (y2 : List T_Argument) (y3 : T_Ordering) : Option (List T_Attack) :=
  ((e_slices_IndexFunc_Attack__attack_Defeats_1 n_) y0 y1 y2 y3).bind fun r1 =>
  if r1 == (-1) then
    some y0
  else
    ((lp n_) ((e_slices_DeleteFunc_Attack__attack_Defeats_1_L1 n_) y0 y1 y2 y3) (y0, r1, w64 (r1 + 1)) : Option ((List T_Attack) × Int)).bind fun s1 =>
    (chk (decide (0 ≤ s1.2) && decide (s1.2 ≤ len s1.1))).bind fun _ =>
    (sub (clearFrom s1.1 s1.2 (0, 0, 0, 0)) 0 s1.2).bind fun x3 =>
    some x3
theorem le_slices_DeleteFunc_Attack__attack_Defeats_1 (n_ : Nat) (y0 : List T_Attack) (y1 : T_Base) (y2 : List T_Argument) (y3 : T_Ordering) : Le (e_slices_DeleteFunc_Attack__attack_Defeats_1 n_ y0 y1 y2 y3) (m_slices_DeleteFunc_Attack__attack_Defeats_1 y0 y1 y2 y3) := by
  unfold e_slices_DeleteFunc_Attack__attack_Defeats_1 m_slices_DeleteFunc_Attack__attack_Defeats_1
  repeat with_reducible (first | intro _ | apply le_slices_DeleteFunc_Attack__attack_Defeats_1_L1 | apply le_slices_IndexFunc_Attack__attack_Defeats_1 | exact Le.refl _ | apply Le.ite | apply Le.seqE | apply Le.bind | apply Le.lp | exact Le.none _)
def e_attack_Defeats (n_ : Nat) (y0 : T_Base) (y1 : List T_Argument) (y2 : T_Ordering) : Option (List T_Attack) :=
  ((e_attack_Attacks n_) y0 y1).bind fun r1 =>
  ((e_slices_DeleteFunc_Attack__attack_Defeats_1 n_) r1 y0 y1 y2).bind fun r2 =>
  some r2
theorem le_attack_Defeats (n_ : Nat) (y0 : T_Base) (y1 : List T_Argument) (y2 : T_Ordering) : Le (e_attack_Defeats n_ y0 y1 y2) (m_attack_Defeats y0 y1 y2) := by
  unfold e_attack_Defeats m_attack_Defeats
  repeat with_reducible (first | intro _ | apply le_slices_DeleteFunc_Attack__attack_Defeats_1 | apply le_attack_Attacks | exact Le.refl _ | apply Le.ite | apply Le.seqE | apply Le.bind | apply Le.lp | exact Le.none _)
def e_slices_Compact_Pair_L2 (n_ : Nat) (y0 : List T_Pair) (s1 : Int) (s3 : (List T_Pair) × Int × Int) : Option (((List T_Pair) × Int × Int) ⊕ ((List T_Pair) × Int)) :=
  if decide (s3.2.2 < ((Int.toNat (((List.length y0 : Nat) : Int) - s1) : Nat) : Int)) then
    (idxV s3.1 s1 s3.2.2).bind fun x3 =>
    (idxV s3.1 s1 (w64 (s3.2.2 - 1))).bind fun x4 =>
    if !(x3 == x4) then
      (idxV s3.1 s1 s3.2.2).bind fun x5 =>
      (idx s3.1 s3.2.1).bind fun _ =>
      some (.inl (List.set s3.1 (Int.toNat s3.2.1) x5, w64 (s3.2.1 + 1), w64 (s3.2.2 + 1)))
    else
      some (.inl (s3.1, s3.2.1, w64 (s3.2.2 + 1)))
  else
    some (.inr (s3.1, s3.2.1))
theorem le_slices_Compact_Pair_L2 (n_ : Nat) (y0 : List T_Pair) (s1 : Int) (s3 : (List T_Pair) × Int × Int) : Le (e_slices_Compact_Pair_L2 n_ y0 s1 s3) (m_slices_Compact_Pair_L2 y0 s1 s3) := by
  unfold e_slices_Compact_Pair_L2 m_slices_Compact_Pair_L2
  repeat with_reducible (first | intro _ | exact Le.refl _ | apply Le.ite | apply Le.seqE | apply Le.bind | apply Le.lp | exact Le.none _)
def e_slices_Compact_Pair_L1 (n_ : Nat) (y0 : List T_Pair) (s1 : Int) : Option (Int ⊕ (List T_Pair)) :=
  if decide (s1 < (len y0)) then
    (idx y0 s1).bind fun x1 =>
    (idx y0 (w64 (s1 - 1))).bind fun x2 =>
    if x1 == x2 then
      (chk (decide (0 ≤ s1) && decide (s1 ≤ len y0))).bind fun _ =>
      ((lp n_) ((e_slices_Compact_Pair_L2 n_) y0 s1) (y0, s1, 1) : Option ((List T_Pair) × Int)).bind fun s2 =>
      (chk (decide (0 ≤ s2.2) && decide (s2.2 ≤ len s2.1))).bind fun _ =>
      (sub (clearFrom s2.1 s2.2 (0, 0)) 0 s2.2).bind fun x7 =>
      some (.inr x7)
    else
      some (.inl (w64 (s1 + 1)))
  else
    some (.inr y0)
theorem le_slices_Compact_Pair_L1 (n_ : Nat) (y0 : List T_Pair) (s1 : Int) : Le (e_slices_Compact_Pair_L1 n_ y0 s1) (m_slices_Compact_Pair_L1 y0 s1) := by
  unfold e_slices_Compact_Pair_L1 m_slices_Compact_Pair_L1
  repeat with_reducible (first | intro _ | apply le_slices_Compact_Pair_L2 | exact Le.refl _ | apply Le.ite | apply Le.seqE | apply Le.bind | apply Le.lp | exact Le.none _)
def e_slices_Compact_Pair (n_ : Nat) (y0 : List T_Pair) : Option (List T_Pair) :=
  if decide ((len y0) < 2) then
    some y0
  else
    (lp n_) ((e_slices_Compact_Pair_L1 n_) y0) 1
theorem le_slices_Compact_Pair (n_ : Nat) (y0 : List T_Pair) : Le (e_slices_Compact_Pair n_ y0) (m_slices_Compact_Pair y0) := by
  unfold e_slices_Compact_Pair m_slices_Compact_Pair
  repeat with_reducible (first | intro _ | apply le_slices_Compact_Pair_L1 | exact Le.refl _ | apply Le.ite | apply Le.seqE | apply Le.bind | apply Le.lp | exact Le.none _)
def e_attack_Graph_L1 (n_ : Nat) (y1 : List T_Attack) (y0 : Int) (s2 : Int × (List T_Pair)) : Option ((Int × (List T_Pair)) ⊕ ((List T_Pair) ⊕ (T_Graph × Int))) :=
  if decide (s2.1 < (len y1)) then
    (idx y1 s2.1).bind fun x1 =>
    if (decide ((if x1.2.1 < x1.1 then x1.2.1 else x1.1) < 0)) || (decide (y0 ≤ (if x1.2.1 > x1.1 then x1.2.1 else x1.1))) then
      some (.inr (.inr ((0, ([] : List T_Pair)), 1)))
    else
      (app s2.2 ([(x1.1, x1.2.1)] : List T_Pair)).bind fun x2 =>
      some (.inl (w64 (s2.1 + 1), x2))
  else
    some (.inr (.inl s2.2))
theorem le_attack_Graph_L1 (n_ : Nat) (y1 : List T_Attack) (y0 : Int) (s2 : Int × (List T_Pair)) : Le (e_attack_Graph_L1 n_ y1 y0 s2) (m_attack_Graph_L1 y1 y0 s2) := by
  unfold e_attack_Graph_L1 m_attack_Graph_L1
  repeat with_reducible (first | intro _ | exact Le.refl _ | apply Le.ite | apply Le.seqE | apply Le.bind | apply Le.lp | exact Le.none _)
def e_attack_Graph (n_ : Nat) (y0 : Int) (y1 : List T_Attack) : Option (T_Graph × Int) :=
  if (decide (y0 < 0)) || (decide (40 < y0)) then
    some ((0, ([] : List T_Pair)), 1)
  else
    seqE ((lp n_) ((e_attack_Graph_L1 n_) y1 y0) (0, ([] : List T_Pair)) : Option ((List T_Pair) ⊕ (T_Graph × Int))) fun s1 =>
    ((e_slices_SortFunc_Pair__attack_Graph_1 n_) s1).bind fun r1 =>
    ((e_slices_Compact_Pair n_) r1).bind fun r2 =>
    some ((y0, r2), 0)
theorem le_attack_Graph (n_ : Nat) (y0 : Int) (y1 : List T_Attack) : Le (e_attack_Graph n_ y0 y1) (m_attack_Graph y0 y1) := by
  unfold e_attack_Graph m_attack_Graph
  repeat with_reducible (first | intro _ | apply le_slices_Compact_Pair | apply le_slices_SortFunc_Pair__attack_Graph_1 | apply le_attack_Graph_L1 | exact Le.refl _ | apply Le.ite | apply Le.seqE | apply Le.bind | apply Le.lp | exact Le.none _)
def e_ref01_ValidName_L1 (n_ : Nat) (y0 : Str) (s2 : Int) : Option (Int ⊕ Bool) :=
  if decide (s2 < (len y0)) then
    (
      (sidx y0 s2).bind fun x3 =>
      if decide (x3 < 97) then
        (sidx y0 s2).bind fun x4 =>
        if decide (x4 < 48) then
          (sidx y0 s2).bind fun x5 =>
          some (x5 != 95)
        else
          (sidx y0 s2).bind fun x6 =>
          if decide (57 < x6) then
            (sidx y0 s2).bind fun x7 =>
            some (x7 != 95)
          else
            some false
      else
        (sidx y0 s2).bind fun x8 =>
        if decide (122 < x8) then
          (sidx y0 s2).bind fun x9 =>
          if decide (x9 < 48) then
            (sidx y0 s2).bind fun x10 =>
            some (x10 != 95)
          else
            (sidx y0 s2).bind fun x11 =>
            if decide (57 < x11) then
              (sidx y0 s2).bind fun x12 =>
              some (x12 != 95)
            else
              some false
        else
          some false : Option Bool).bind fun s3 =>
    if s3 then
      some (.inr false)
    else
      some (.inl (w64 (s2 + 1)))
  else
    some (.inr true)
theorem le_ref01_ValidName_L1 (n_ : Nat) (y0 : Str) (s2 : Int) : Le (e_ref01_ValidName_L1 n_ y0 s2) (m_ref01_ValidName_L1 y0 s2) := by
  unfold e_ref01_ValidName_L1 m_ref01_ValidName_L1
  repeat with_reducible (first | intro _ | exact Le.refl _ | apply Le.ite | apply Le.seqE | apply Le.bind | apply Le.lp | exact Le.none _)
def e_ref01_ValidName (n_ : Nat) (y0 : Str) : Option Bool :=
  (
    if decide ((len y0) < 1) then
      some true
    else
      if decide (12 < (len y0)) then
        some true
      else
        (sidx y0 0).bind fun x1 =>
        if decide (x1 < 97) then
          some true
        else
          (sidx y0 0).bind fun x2 =>
          some (decide (122 < x2)) : Option Bool).bind fun s1 =>
  if s1 then
    some false
  else
    (lp n_) ((e_ref01_ValidName_L1 n_) y0) 0
theorem le_ref01_ValidName (n_ : Nat) (y0 : Str) : Le (e_ref01_ValidName n_ y0) (m_ref01_ValidName y0) := by
  unfold e_ref01_ValidName m_ref01_ValidName
  repeat with_reducible (first | intro _ | apply le_ref01_ValidName_L1 | exact Le.refl _ | apply Le.ite | apply Le.seqE | apply Le.bind | apply Le.lp | exact Le.none _)
def e_ref01_Valid (n_ : Nat) (y0 : T_Literal) : Option Bool :=
  ((e_ref01_ValidName n_) y0.2).bind fun r1 =>
  some r1
theorem le_ref01_Valid (n_ : Nat) (y0 : T_Literal) : Le (e_ref01_Valid n_ y0) (m_ref01_Valid y0) := by
  unfold e_ref01_Valid m_ref01_Valid
  repeat with_reducible (first | intro _ | apply le_ref01_ValidName | exact Le.refl _ | apply Le.ite | apply Le.seqE | apply Le.bind | apply Le.lp | exact Le.none _)
def e_ref05_Find_L1 (n_ : Nat) (y0 : T_Base) (y1 : Str) (s1 : Int) : Option (Int ⊕ Int) :=
  if decide (s1 < (len y0.2.1)) then
    (idx y0.2.1 s1).bind fun x1 =>
    if x1.1 == y1 then
      some (.inr s1)
    else
      some (.inl (w64 (s1 + 1)))
  else
    some (.inr (-1))
theorem le_ref05_Find_L1 (n_ : Nat) (y0 : T_Base) (y1 : Str) (s1 : Int) : Le (e_ref05_Find_L1 n_ y0 y1 s1) (m_ref05_Find_L1 y0 y1 s1) := by
  unfold e_ref05_Find_L1 m_ref05_Find_L1
  repeat with_reducible (first | intro _ | exact Le.refl _ | apply Le.ite | apply Le.seqE | apply Le.bind | apply Le.lp | exact Le.none _)
def e_ref05_Find (n_ : Nat) (y0 : T_Base) (y1 : Str) : Option Int :=
  (lp n_) ((e_ref05_Find_L1 n_) y0 y1) 0
theorem le_ref05_Find (n_ : Nat) (y0 : T_Base) (y1 : Str) : Le (e_ref05_Find n_ y0 y1) (m_ref05_Find y0 y1) := by
  unfold e_ref05_Find m_ref05_Find
  repeat with_reducible (first | intro _ | apply le_ref05_Find_L1 | exact Le.refl _ | apply Le.ite | apply Le.seqE | apply Le.bind | apply Le.lp | exact Le.none _)
def e_ref05_Premise_L1 (n_ : Nat) (y0 : T_Base) (y1 : T_Literal) (s1 : Int) : Option (Int ⊕ Int) :=
  if decide (s1 < (len y0.1)) then
    (idx y0.1 s1).bind fun x1 =>
    if x1.1 == y1 then
      some (.inr s1)
    else
      some (.inl (w64 (s1 + 1)))
  else
    some (.inr (-1))
theorem le_ref05_Premise_L1 (n_ : Nat) (y0 : T_Base) (y1 : T_Literal) (s1 : Int) : Le (e_ref05_Premise_L1 n_ y0 y1 s1) (m_ref05_Premise_L1 y0 y1 s1) := by
  unfold e_ref05_Premise_L1 m_ref05_Premise_L1
  repeat with_reducible (first | intro _ | exact Le.refl _ | apply Le.ite | apply Le.seqE | apply Le.bind | apply Le.lp | exact Le.none _)
def e_ref05_Premise (n_ : Nat) (y0 : T_Base) (y1 : T_Literal) : Option Int :=
  (lp n_) ((e_ref05_Premise_L1 n_) y0 y1) 0
theorem le_ref05_Premise (n_ : Nat) (y0 : T_Base) (y1 : T_Literal) : Le (e_ref05_Premise n_ y0 y1) (m_ref05_Premise y0 y1) := by
  unfold e_ref05_Premise m_ref05_Premise
  repeat with_reducible (first | intro _ | apply le_ref05_Premise_L1 | exact Le.refl _ | apply Le.ite | apply Le.seqE | apply Le.bind | apply Le.lp | exact Le.none _)
def e_ref05_rank (n_ : Nat) (y0 : Int) : Option Bool :=
  some ((decide (0 ≤ y0)) && (decide (y0 ≤ 9)))
theorem le_ref05_rank (n_ : Nat) (y0 : Int) : Le (e_ref05_rank n_ y0) (m_ref05_rank y0) := by
  unfold e_ref05_rank m_ref05_rank
  repeat with_reducible (first | intro _ | exact Le.refl _ | apply Le.ite | apply Le.seqE | apply Le.bind | apply Le.lp | exact Le.none _)
def e_ref05_premise (n_ : Nat) (y0 : T_Premise) : Option Int :=
  if (decide (y0.2.1 < 1)) || (decide (3 < y0.2.1)) then
    some 4
  else
    (
      ((e_ref01_Valid n_) y0.1).bind fun r1 =>
      if !r1 then
        some true
      else
        ((e_ref05_rank n_) y0.2.2.1).bind fun r2 =>
        if !r2 then
          some true
        else
          if y0.2.1 != 2 then
            if y0.2.2.1 != 0 then
              some true
            else
              if !(y0.2.2.2 == []) then
                ((e_ref01_ValidName n_) y0.2.2.2).bind fun r3 =>
                some (!r3)
              else
                some false
          else
            if !(y0.2.2.2 == []) then
              ((e_ref01_ValidName n_) y0.2.2.2).bind fun r4 =>
              some (!r4)
            else
              some false : Option Bool).bind fun s1 =>
    if s1 then
      some 1
    else
      some 0
theorem le_ref05_premise (n_ : Nat) (y0 : T_Premise) : Le (e_ref05_premise n_ y0) (m_ref05_premise y0) := by
  unfold e_ref05_premise m_ref05_premise
  repeat with_reducible (first | intro _ | apply le_ref01_ValidName | apply le_ref05_rank | apply le_ref01_Valid | exact Le.refl _ | apply Le.ite | apply Le.seqE | apply Le.bind | apply Le.lp | exact Le.none _)
def e_ref01_Compare (n_ : Nat) (y0 : T_Literal) (y1 : T_Literal) : Option Int :=
  if y0 == y1 then
    some 0
  else
    if (sless y0.2 y1.2) || ((y0.2 == y1.2) && y1.1) then
      some (-1)
    else
      some 1
theorem le_ref01_Compare (n_ : Nat) (y0 : T_Literal) (y1 : T_Literal) : Le (e_ref01_Compare n_ y0 y1) (m_ref01_Compare y0 y1) := by
  unfold e_ref01_Compare m_ref01_Compare
  repeat with_reducible (first | intro _ | exact Le.refl _ | apply Le.ite | apply Le.seqE | apply Le.bind | apply Le.lp | exact Le.none _)
def e_ref05_rule_L1 (n_ : Nat) (y0 : T_Rule) (s3 : Bool × Int) : Option ((Bool × Int) ⊕ Bool) :=
  if decide (s3.2 < (len y0.2.2.2.1)) then
    (
      if s3.1 then
        (idx y0.2.2.2.1 s3.2).bind fun x1 =>
        ((e_ref01_Valid n_) x1).bind fun r5 =>
        some r5
      else
        some false : Option Bool).bind fun s4 =>
    some (.inl (s4, w64 (s3.2 + 1)))
  else
    some (.inr s3.1)
theorem le_ref05_rule_L1 (n_ : Nat) (y0 : T_Rule) (s3 : Bool × Int) : Le (e_ref05_rule_L1 n_ y0 s3) (m_ref05_rule_L1 y0 s3) := by
  unfold e_ref05_rule_L1 m_ref05_rule_L1
  repeat with_reducible (first | intro _ | apply le_ref01_Valid | exact Le.refl _ | apply Le.ite | apply Le.seqE | apply Le.bind | apply Le.lp | exact Le.none _)
def e_ref05_rule_L2 (n_ : Nat) (y0 : T_Rule) (s5 : Int) : Option (Int ⊕ Int) :=
  if decide (s5 < (len y0.2.2.2.1)) then
    (idx y0.2.2.2.1 (w64 (s5 - 1))).bind fun x2 =>
    (idx y0.2.2.2.1 s5).bind fun x3 =>
    ((e_ref01_Compare n_) x2 x3).bind fun r6 =>
    if decide (0 ≤ r6) then
      some (.inr 8)
    else
      some (.inl (w64 (s5 + 1)))
  else
    some (.inr 0)
theorem le_ref05_rule_L2 (n_ : Nat) (y0 : T_Rule) (s5 : Int) : Le (e_ref05_rule_L2 n_ y0 s5) (m_ref05_rule_L2 y0 s5) := by
  unfold e_ref05_rule_L2 m_ref05_rule_L2
  repeat with_reducible (first | intro _ | apply le_ref01_Compare | exact Le.refl _ | apply Le.ite | apply Le.seqE | apply Le.bind | apply Le.lp | exact Le.none _)
def e_ref05_rule (n_ : Nat) (y0 : T_Rule) : Option Int :=
  if decide (4 < (len y0.2.2.2.1)) then
    some 2
  else
    (
      ((e_ref01_ValidName n_) y0.1).bind fun r1 =>
      if r1 then
        ((e_ref05_rank n_) y0.2.2.1).bind fun r2 =>
        if r2 then
          if !y0.2.1 then
            ((e_ref01_Valid n_) y0.2.2.2.2).bind fun r3 =>
            some r3
          else
            if y0.2.2.1 == 0 then
              ((e_ref01_Valid n_) y0.2.2.2.2).bind fun r4 =>
              some r4
            else
              some false
        else
          some false
      else
        some false : Option Bool).bind fun s1 =>
    ((lp n_) ((e_ref05_rule_L1 n_) y0) (s1, 0) : Option Bool).bind fun s2 =>
    if !s2 then
      some 1
    else
      (lp n_) ((e_ref05_rule_L2 n_) y0) 1
theorem le_ref05_rule (n_ : Nat) (y0 : T_Rule) : Le (e_ref05_rule n_ y0) (m_ref05_rule y0) := by
  unfold e_ref05_rule m_ref05_rule
  repeat with_reducible (first | intro _ | apply le_ref05_rule_L2 | apply le_ref05_rule_L1 | apply le_ref01_Valid | apply le_ref05_rank | apply le_ref01_ValidName | exact Le.refl _ | apply Le.ite | apply Le.seqE | apply Le.bind | apply Le.lp | exact Le.none _)
def e_ref05_Validate_L1 (n_ : Nat) (y0 : T_Base) (s2 : Int) : Option (Int ⊕ (Unit ⊕ Int)) :=
  if decide (s2 < (len y0.1)) then
    (idx y0.1 s2).bind fun x1 =>
    ((e_ref05_premise n_) x1).bind fun r1 =>
    if r1 != 0 then
      some (.inr (.inr r1))
    else
      (idx y0.1 s2).bind fun x2 =>
      ((e_ref05_Premise n_) y0 x2.1).bind fun r2 =>
      if decide (r2 < s2) then
        some (.inr (.inr 5))
      else
        some (.inl (w64 (s2 + 1)))
  else
    some (.inr (.inl ()))
theorem le_ref05_Validate_L1 (n_ : Nat) (y0 : T_Base) (s2 : Int) : Le (e_ref05_Validate_L1 n_ y0 s2) (m_ref05_Validate_L1 y0 s2) := by
  unfold e_ref05_Validate_L1 m_ref05_Validate_L1
  repeat with_reducible (first | intro _ | apply le_ref05_Premise | apply le_ref05_premise | exact Le.refl _ | apply Le.ite | apply Le.seqE | apply Le.bind | apply Le.lp | exact Le.none _)
def e_ref05_Validate_L2 (n_ : Nat) (y0 : T_Base) (s4 : Int) : Option (Int ⊕ (Unit ⊕ Int)) :=
  if decide (s4 < (len y0.2.1)) then
    (idx y0.2.1 s4).bind fun x3 =>
    ((e_ref05_rule n_) x3).bind fun r3 =>
    if r3 != 0 then
      some (.inr (.inr r3))
    else
      (idx y0.2.1 s4).bind fun x4 =>
      ((e_ref05_Find n_) y0 x4.1).bind fun r4 =>
      if decide (r4 < s4) then
        some (.inr (.inr 5))
      else
        some (.inl (w64 (s4 + 1)))
  else
    some (.inr (.inl ()))
theorem le_ref05_Validate_L2 (n_ : Nat) (y0 : T_Base) (s4 : Int) : Le (e_ref05_Validate_L2 n_ y0 s4) (m_ref05_Validate_L2 y0 s4) := by
  unfold e_ref05_Validate_L2 m_ref05_Validate_L2
  repeat with_reducible (first | intro _ | apply le_ref05_Find | apply le_ref05_rule | exact Le.refl _ | apply Le.ite | apply Le.seqE | apply Le.bind | apply Le.lp | exact Le.none _)
def e_ref05_Validate_L3 (n_ : Nat) (y0 : T_Base) (s5 : Int) : Option (Int ⊕ Int) :=
  if decide (s5 < (len y0.2.2)) then
    (idx y0.2.2 s5).bind fun x5 =>
    (
      ((e_ref05_rank n_) x5.2.1).bind fun r5 =>
      if !r5 then
        some true
      else
        ((e_ref01_Valid n_) x5.2.2).bind fun r6 =>
        some (!r6) : Option Bool).bind fun s6 =>
    if s6 then
      some (.inr 1)
    else
      ((e_ref05_Find n_) y0 x5.1).bind fun r7 =>
      if decide (r7 < 0) then
        some (.inr 6)
      else
        (idx y0.2.1 r7).bind fun x6 =>
        if x6.2.1 then
          some (.inr 4)
        else
          some (.inl (w64 (s5 + 1)))
  else
    some (.inr 0)
theorem le_ref05_Validate_L3 (n_ : Nat) (y0 : T_Base) (s5 : Int) : Le (e_ref05_Validate_L3 n_ y0 s5) (m_ref05_Validate_L3 y0 s5) := by
  unfold e_ref05_Validate_L3 m_ref05_Validate_L3
  repeat with_reducible (first | intro _ | apply le_ref05_Find | apply le_ref01_Valid | apply le_ref05_rank | exact Le.refl _ | apply Le.ite | apply Le.seqE | apply Le.bind | apply Le.lp | exact Le.none _)
def e_ref05_Validate (n_ : Nat) (y0 : T_Base) : Option Int :=
  if (decide (16 < (len y0.1))) || ((decide (24 < (len y0.2.1))) || (decide (8 < (len y0.2.2)))) then
    some 2
  else
    seqE ((lp n_) ((e_ref05_Validate_L1 n_) y0) 0 : Option (Unit ⊕ Int)) fun _ =>
    seqE ((lp n_) ((e_ref05_Validate_L2 n_) y0) 0 : Option (Unit ⊕ Int)) fun _ =>
    (lp n_) ((e_ref05_Validate_L3 n_) y0) 0
theorem le_ref05_Validate (n_ : Nat) (y0 : T_Base) : Le (e_ref05_Validate n_ y0) (m_ref05_Validate y0) := by
  unfold e_ref05_Validate m_ref05_Validate
  repeat with_reducible (first | intro _ | apply le_ref05_Validate_L3 | apply le_ref05_Validate_L2 | apply le_ref05_Validate_L1 | exact Le.refl _ | apply Le.ite | apply Le.seqE | apply Le.bind | apply Le.lp | exact Le.none _)
def e_ref01_Has_L1 (n_ : Nat) (y0 : List T_Literal) (y1 : T_Literal) (s1 : Int) : Option (Int ⊕ Bool) :=
  if decide (s1 < (len y0)) then
    (idx y0 s1).bind fun x1 =>
    if x1 == y1 then
      some (.inr true)
    else
      some (.inl (w64 (s1 + 1)))
  else
    some (.inr false)
theorem le_ref01_Has_L1 (n_ : Nat) (y0 : List T_Literal) (y1 : T_Literal) (s1 : Int) : Le (e_ref01_Has_L1 n_ y0 y1 s1) (m_ref01_Has_L1 y0 y1 s1) := by
  unfold e_ref01_Has_L1 m_ref01_Has_L1
  repeat with_reducible (first | intro _ | exact Le.refl _ | apply Le.ite | apply Le.seqE | apply Le.bind | apply Le.lp | exact Le.none _)
def e_ref01_Has (n_ : Nat) (y0 : List T_Literal) (y1 : T_Literal) : Option Bool :=
  (lp n_) ((e_ref01_Has_L1 n_) y0 y1) 0
theorem le_ref01_Has (n_ : Nat) (y0 : List T_Literal) (y1 : T_Literal) : Le (e_ref01_Has n_ y0 y1) (m_ref01_Has y0 y1) := by
  unfold e_ref01_Has m_ref01_Has
  repeat with_reducible (first | intro _ | apply le_ref01_Has_L1 | exact Le.refl _ | apply Le.ite | apply Le.seqE | apply Le.bind | apply Le.lp | exact Le.none _)
def e_ref07_insert_L1 (n_ : Nat) (y0 : List Int) (y1 : Int) (s2 : Int) : Option (Int ⊕ Int) :=
  (
    if decide (s2 < (len y0)) then
      (idx y0 s2).bind fun x1 =>
      some (decide (x1 < y1))
    else
      some false : Option Bool).bind fun s3 =>
  if s3 then
    some (.inl (w64 (s2 + 1)))
  else
    some (.inr s2)
theorem le_ref07_insert_L1 (n_ : Nat) (y0 : List Int) (y1 : Int) (s2 : Int) : Le (e_ref07_insert_L1 n_ y0 y1 s2) (m_ref07_insert_L1 y0 y1 s2) := by
  unfold e_ref07_insert_L1 m_ref07_insert_L1
  repeat with_reducible (first | intro _ | exact Le.refl _ | apply Le.ite | apply Le.seqE | apply Le.bind | apply Le.lp | exact Le.none _)
def e_ref07_insert (n_ : Nat) (y0 : List Int) (y1 : Int) : Option (List Int) :=
  ((lp n_) ((e_ref07_insert_L1 n_) y0 y1) 0 : Option Int).bind fun s1 =>
  (
    if decide (s1 < (len y0)) then
      (idx y0 s1).bind fun x2 =>
      some (x2 == y1)
    else
      some false : Option Bool).bind fun s4 =>
  if s4 then
    some y0
  else
    (sub y0 0 s1).bind fun x3 =>
    (app ([] : List Int) x3).bind fun x4 =>
    (sub y0 s1 (len y0)).bind fun x5 =>
    (app x4 ([y1] : List Int)).bind fun x6 =>
    (app x6 x5).bind fun x7 =>
    some x7
theorem le_ref07_insert (n_ : Nat) (y0 : List Int) (y1 : Int) : Le (e_ref07_insert n_ y0 y1) (m_ref07_insert y0 y1) := by
  unfold e_ref07_insert m_ref07_insert
  repeat with_reducible (first | intro _ | apply le_ref07_insert_L1 | exact Le.refl _ | apply Le.ite | apply Le.seqE | apply Le.bind | apply Le.lp | exact Le.none _)
def e_ref07_union_L1 (n_ : Nat) (y1 : List Int) (s1 : (List Int) × Int) : Option (((List Int) × Int) ⊕ (List Int)) :=
  if decide (s1.2 < (len y1)) then
    (idx y1 s1.2).bind fun x1 =>
    ((e_ref07_insert n_) s1.1 x1).bind fun r1 =>
    some (.inl (r1, w64 (s1.2 + 1)))
  else
    some (.inr s1.1)
theorem le_ref07_union_L1 (n_ : Nat) (y1 : List Int) (s1 : (List Int) × Int) : Le (e_ref07_union_L1 n_ y1 s1) (m_ref07_union_L1 y1 s1) := by
  unfold e_ref07_union_L1 m_ref07_union_L1
  repeat with_reducible (first | intro _ | apply le_ref07_insert | exact Le.refl _ | apply Le.ite | apply Le.seqE | apply Le.bind | apply Le.lp | exact Le.none _)
def e_ref07_union (n_ : Nat) (y0 : List Int) (y1 : List Int) : Option (List Int) :=
  (lp n_) ((e_ref07_union_L1 n_) y1) (y0, 0)
theorem le_ref07_union (n_ : Nat) (y0 : List Int) (y1 : List Int) : Le (e_ref07_union n_ y0 y1) (m_ref07_union y0 y1) := by
  unfold e_ref07_union m_ref07_union
  repeat with_reducible (first | intro _ | apply le_ref07_union_L1 | exact Le.refl _ | apply Le.ite | apply Le.seqE | apply Le.bind | apply Le.lp | exact Le.none _)
def e_ref07_Subs_L1 (n_ : Nat) (y0 : List T_Argument) (y1 : Int) (rec_ref07_Subs : (List T_Argument) → Int → Option (List Int)) (s1 : (List Int) × Int) : Option (((List Int) × Int) ⊕ (List Int)) :=
  (idx y0 y1).bind fun x1 =>
  if decide (s1.2 < (len x1.2.2.1)) then
    (idx y0 y1).bind fun x2 =>
    (idx x2.2.2.1 s1.2).bind fun x3 =>
    (rec_ref07_Subs y0 x3).bind fun r1 =>
    ((e_ref07_union n_) s1.1 r1).bind fun r2 =>
    some (.inl (r2, w64 (s1.2 + 1)))
  else
    some (.inr s1.1)
theorem le_ref07_Subs_L1 (n_ : Nat) (y0 : List T_Argument) (y1 : Int) {rec_ref07_Subs rec_ref07_Subs' : (List T_Argument) → Int → Option (List Int)} (h_rec_ref07_Subs : ∀ u0 u1, Le (rec_ref07_Subs u0 u1) (rec_ref07_Subs' u0 u1)) (s1 : (List Int) × Int) : Le (e_ref07_Subs_L1 n_ y0 y1 rec_ref07_Subs s1) (m_ref07_Subs_L1 y0 y1 rec_ref07_Subs' s1) := by
  unfold e_ref07_Subs_L1 m_ref07_Subs_L1
  repeat with_reducible (first | intro _ | apply h_rec_ref07_Subs | apply le_ref07_union | exact Le.refl _ | apply Le.ite | apply Le.seqE | apply Le.bind | apply Le.lp | exact Le.none _)
def fe_ref07_Subs (n_ : Nat) (rec_ref07_Subs : (List T_Argument) → Int → Option (List Int)) (y0 : List T_Argument) (y1 : Int) : Option (List Int) :=
  if (decide (y1 < 0)) || (decide ((len y0) ≤ y1)) then
    some ([] : List Int)
  else
    (lp n_) ((e_ref07_Subs_L1 n_) y0 y1 rec_ref07_Subs) (([y1] : List Int), 0)
theorem lef_ref07_Subs (n_ : Nat) {rec_ref07_Subs rec_ref07_Subs' : (List T_Argument) → Int → Option (List Int)} (h_rec_ref07_Subs : ∀ u0 u1, Le (rec_ref07_Subs u0 u1) (rec_ref07_Subs' u0 u1)) (y0 : List T_Argument) (y1 : Int) : Le (fe_ref07_Subs n_ rec_ref07_Subs y0 y1) (F_ref07_Subs rec_ref07_Subs' y0 y1) := by
  unfold fe_ref07_Subs F_ref07_Subs
  repeat with_reducible (first | intro _ | apply h_rec_ref07_Subs | apply le_ref07_Subs_L1 | exact Le.refl _ | apply Le.ite | apply Le.seqE | apply Le.bind | apply Le.lp | exact Le.none _)
def ke_ref07_Subs (n_ : Nat) : Nat → (List T_Argument) → Int → Option (List Int)
  | 0 => fun _ _ => none
  | k + 1 => fun y0 y1 => (fe_ref07_Subs n_) ((ke_ref07_Subs n_) k) y0 y1
theorem lek_ref07_Subs (n_ : Nat) : ∀ (k m : Nat), k ≤ m → ∀ u0 u1, Le (ke_ref07_Subs n_ k u0 u1) (k_ref07_Subs m u0 u1)
  | 0, _, _ => fun u0 u1 => Le.none _
  | k + 1, m, h => fun u0 u1 => by
    obtain ⟨m, rfl⟩ : ∃ q, m = q + 1 := ⟨m - 1, by omega⟩
    exact lef_ref07_Subs n_ (lek_ref07_Subs n_ k m (by omega)) _ _
def e_ref07_Subs (n_ : Nat) (y0 : List T_Argument) (y1 : Int) : Option (List Int) :=
  ke_ref07_Subs n_ n_ y0 y1
theorem le_ref07_Subs (n_ : Nat) (y0 : List T_Argument) (y1 : Int) : Le (e_ref07_Subs n_ y0 y1) (m_ref07_Subs y0 y1) := Le.lim n_ fun m h => lek_ref07_Subs n_ n_ m h _ _
def e_ref07_Defeasible_L1 (n_ : Nat) (r1 : (List Int)) (y1 : List T_Argument) (y0 : T_Base) (s1 : (List Int) × Int) : Option (((List Int) × Int) ⊕ (List Int)) :=
  if decide (s1.2 < (len r1)) then
    (idx r1 s1.2).bind fun x1 =>
    (
      (idx y1 x1).bind fun x2 =>
      if decide (0 ≤ x2.2.1) then
        (idx y1 x1).bind fun x3 =>
        (idx y0.2.1 x3.2.1).bind fun x4 =>
        some (!x4.2.1)
      else
        some false : Option Bool).bind fun s2 =>
    if s2 then
      (idx y1 x1).bind fun x5 =>
      ((e_ref07_insert n_) s1.1 x5.2.1).bind fun r2 =>
      some (.inl (r2, w64 (s1.2 + 1)))
    else
      some (.inl (s1.1, w64 (s1.2 + 1)))
  else
    some (.inr s1.1)
theorem le_ref07_Defeasible_L1 (n_ : Nat) (r1 : (List Int)) (y1 : List T_Argument) (y0 : T_Base) (s1 : (List Int) × Int) : Le (e_ref07_Defeasible_L1 n_ r1 y1 y0 s1) (m_ref07_Defeasible_L1 r1 y1 y0 s1) := by
  unfold e_ref07_Defeasible_L1 m_ref07_Defeasible_L1
  repeat with_reducible (first | intro _ | apply le_ref07_insert | exact Le.refl _ | apply Le.ite | apply Le.seqE | apply Le.bind | apply Le.lp | exact Le.none _)
def e_ref07_Defeasible (n_ : Nat) (y0 : T_Base) (y1 : List T_Argument) (y2 : Int) : Option (List Int) :=
  ((e_ref07_Subs n_) y1 y2).bind fun r1 =>
  (lp n_) ((e_ref07_Defeasible_L1 n_) r1 y1 y0) (([] : List Int), 0)
theorem le_ref07_Defeasible (n_ : Nat) (y0 : T_Base) (y1 : List T_Argument) (y2 : Int) : Le (e_ref07_Defeasible n_ y0 y1 y2) (m_ref07_Defeasible y0 y1 y2) := by
  unfold e_ref07_Defeasible m_ref07_Defeasible
  repeat with_reducible (first | intro _ | apply le_ref07_Defeasible_L1 | apply le_ref07_Subs | exact Le.refl _ | apply Le.ite | apply Le.seqE | apply Le.bind | apply Le.lp | exact Le.none _)
def e_ref07_Run_L1 (n_ : Nat) (y1 : List T_Argument) (y2 : Int) (rec_ref07_Run : T_Base → (List T_Argument) → Int → Option (List T_Literal)) (y0 : T_Base) (s2 : (List T_Literal) × Int) : Option (((List T_Literal) × Int) ⊕ (List T_Literal)) :=
  (idx y1 y2).bind fun x5 =>
  if decide (s2.2 < (len x5.2.2.1)) then
    (idx y1 y2).bind fun x6 =>
    (idx x6.2.2.1 s2.2).bind fun x7 =>
    (rec_ref07_Run y0 y1 x7).bind fun r1 =>
    (app s2.1 r1).bind fun x8 =>
    some (.inl (x8, w64 (s2.2 + 1)))
  else
    some (.inr s2.1)
theorem le_ref07_Run_L1 (n_ : Nat) (y1 : List T_Argument) (y2 : Int) {rec_ref07_Run rec_ref07_Run' : T_Base → (List T_Argument) → Int → Option (List T_Literal)} (h_rec_ref07_Run : ∀ u0 u1 u2, Le (rec_ref07_Run u0 u1 u2) (rec_ref07_Run' u0 u1 u2)) (y0 : T_Base) (s2 : (List T_Literal) × Int) : Le (e_ref07_Run_L1 n_ y1 y2 rec_ref07_Run y0 s2) (m_ref07_Run_L1 y1 y2 rec_ref07_Run' y0 s2) := by
  unfold e_ref07_Run_L1 m_ref07_Run_L1
  repeat with_reducible (first | intro _ | apply h_rec_ref07_Run | exact Le.refl _ | apply Le.ite | apply Le.seqE | apply Le.bind | apply Le.lp | exact Le.none _)
def fe_ref07_Run (n_ : Nat) (rec_ref07_Run : T_Base → (List T_Argument) → Int → Option (List T_Literal)) (y0 : T_Base) (y1 : List T_Argument) (y2 : Int) : Option (List T_Literal) :=
  (idx y1 y2).bind fun x1 =>
  (
    (idx y1 y2).bind fun x2 =>
    if decide (0 ≤ x2.2.1) then
      (idx y1 y2).bind fun x3 =>
      (idx y0.2.1 x3.2.1).bind fun x4 =>
      some x4.2.1
    else
      some false : Option Bool).bind fun s1 =>
  if s1 then
    (lp n_) ((e_ref07_Run_L1 n_) y1 y2 rec_ref07_Run y0) (([x1.2.2.2] : List T_Literal), 0)
  else
    some ([x1.2.2.2] : List T_Literal)
theorem lef_ref07_Run (n_ : Nat) {rec_ref07_Run rec_ref07_Run' : T_Base → (List T_Argument) → Int → Option (List T_Literal)} (h_rec_ref07_Run : ∀ u0 u1 u2, Le (rec_ref07_Run u0 u1 u2) (rec_ref07_Run' u0 u1 u2)) (y0 : T_Base) (y1 : List T_Argument) (y2 : Int) : Le (fe_ref07_Run n_ rec_ref07_Run y0 y1 y2) (F_ref07_Run rec_ref07_Run' y0 y1 y2) := by
  unfold fe_ref07_Run F_ref07_Run
  repeat with_reducible (first | intro _ | apply h_rec_ref07_Run | apply le_ref07_Run_L1 | exact Le.refl _ | apply Le.ite | apply Le.seqE | apply Le.bind | apply Le.lp | exact Le.none _)
def ke_ref07_Run (n_ : Nat) : Nat → T_Base → (List T_Argument) → Int → Option (List T_Literal)
  | 0 => fun _ _ _ => none
  | k + 1 => fun y0 y1 y2 => (fe_ref07_Run n_) ((ke_ref07_Run n_) k) y0 y1 y2
theorem lek_ref07_Run (n_ : Nat) : ∀ (k m : Nat), k ≤ m → ∀ u0 u1 u2, Le (ke_ref07_Run n_ k u0 u1 u2) (k_ref07_Run m u0 u1 u2)
  | 0, _, _ => fun u0 u1 u2 => Le.none _
  | k + 1, m, h => fun u0 u1 u2 => by
    obtain ⟨m, rfl⟩ : ∃ q, m = q + 1 := ⟨m - 1, by omega⟩
    exact lef_ref07_Run n_ (lek_ref07_Run n_ k m (by omega)) _ _ _
def e_ref07_Run (n_ : Nat) (y0 : T_Base) (y1 : List T_Argument) (y2 : Int) : Option (List T_Literal) :=
  ke_ref07_Run n_ n_ y0 y1 y2
theorem le_ref07_Run (n_ : Nat) (y0 : T_Base) (y1 : List T_Argument) (y2 : Int) : Le (e_ref07_Run n_ y0 y1 y2) (m_ref07_Run y0 y1 y2) := Le.lim n_ fun m h => lek_ref07_Run n_ n_ m h _ _ _
def e_ref07_in_L1 (n_ : Nat) (y0 : List Int) (y1 : Int) (s1 : Int) : Option (Int ⊕ Bool) :=
  if decide (s1 < (len y0)) then
    (idx y0 s1).bind fun x1 =>
    if x1 == y1 then
      some (.inr true)
    else
      some (.inl (w64 (s1 + 1)))
  else
    some (.inr false)
theorem le_ref07_in_L1 (n_ : Nat) (y0 : List Int) (y1 : Int) (s1 : Int) : Le (e_ref07_in_L1 n_ y0 y1 s1) (m_ref07_in_L1 y0 y1 s1) := by
  unfold e_ref07_in_L1 m_ref07_in_L1
  repeat with_reducible (first | intro _ | exact Le.refl _ | apply Le.ite | apply Le.seqE | apply Le.bind | apply Le.lp | exact Le.none _)
def e_ref07_in (n_ : Nat) (y0 : List Int) (y1 : Int) : Option Bool :=
  (lp n_) ((e_ref07_in_L1 n_) y0 y1) 0
theorem le_ref07_in (n_ : Nat) (y0 : List Int) (y1 : Int) : Le (e_ref07_in n_ y0 y1) (m_ref07_in y0 y1) := by
  unfold e_ref07_in m_ref07_in
  repeat with_reducible (first | intro _ | apply le_ref07_in_L1 | exact Le.refl _ | apply Le.ite | apply Le.seqE | apply Le.bind | apply Le.lp | exact Le.none _)
def e_ref07_Within_L1 (n_ : Nat) (y3 : List Int) (x1 : T_Rule) (y0 : T_Base) (y1 : List T_Argument) (y2 : Int) (s1 : Int) : Option (Int ⊕ Bool) :=
  if decide (s1 < (len y3)) then
    (
      if x1.2.1 then
        (idx y3 s1).bind fun x2 =>
        ((e_ref07_Run n_) y0 y1 x2).bind fun r1 =>
        ((e_ref01_Has n_) r1 x1.2.2.2.2).bind fun r2 =>
        if r2 then
          some true
        else
          if !x1.2.1 then
            (idx y3 s1).bind fun x3 =>
            ((e_ref07_Defeasible n_) y0 y1 x3).bind fun r3 =>
            ((e_ref07_in n_) r3 y2).bind fun r4 =>
            some r4
          else
            some false
      else
        if !x1.2.1 then
          (idx y3 s1).bind fun x4 =>
          ((e_ref07_Defeasible n_) y0 y1 x4).bind fun r5 =>
          ((e_ref07_in n_) r5 y2).bind fun r6 =>
          some r6
        else
          some false : Option Bool).bind fun s2 =>
    if s2 then
      some (.inr false)
    else
      some (.inl (w64 (s1 + 1)))
  else
    some (.inr true)
theorem le_ref07_Within_L1 (n_ : Nat) (y3 : List Int) (x1 : T_Rule) (y0 : T_Base) (y1 : List T_Argument) (y2 : Int) (s1 : Int) : Le (e_ref07_Within_L1 n_ y3 x1 y0 y1 y2 s1) (m_ref07_Within_L1 y3 x1 y0 y1 y2 s1) := by
  unfold e_ref07_Within_L1 m_ref07_Within_L1
  repeat with_reducible (first | intro _ | apply le_ref07_in | apply le_ref07_Defeasible | apply le_ref01_Has | apply le_ref07_Run | exact Le.refl _ | apply Le.ite | apply Le.seqE | apply Le.bind | apply Le.lp | exact Le.none _)
def e_ref07_Within (n_ : Nat) (y0 : T_Base) (y1 : List T_Argument) (y2 : Int) (y3 : List Int) : Option Bool :=
  (idx y0.2.1 y2).bind fun x1 =>
  (lp n_) ((e_ref07_Within_L1 n_) y3 x1 y0 y1 y2) 0
theorem le_ref07_Within (n_ : Nat) (y0 : T_Base) (y1 : List T_Argument) (y2 : Int) (y3 : List Int) : Le (e_ref07_Within n_ y0 y1 y2 y3) (m_ref07_Within y0 y1 y2 y3) := by
  unfold e_ref07_Within m_ref07_Within
  repeat with_reducible (first | intro _ | apply le_ref07_Within_L1 | exact Le.refl _ | apply Le.ite | apply Le.seqE | apply Le.bind | apply Le.lp | exact Le.none _)
def e_ref07_choices_2_L1 (n_ : Nat) (y1 : Int) (y0 : List T_Argument) (y2 : List T_Literal) (y3 : List Int) (rec_ref07_choices_2 : (List T_Argument) → Int → (List T_Literal) → (List Int) → Option (List (List Int))) (s1 : (List (List Int)) × Int) : Option (((List (List Int)) × Int) ⊕ (List (List Int))) :=
  if decide (s1.2 < y1) then
    (idx y0 s1.2).bind fun x2 =>
    (idx y2 (len y3)).bind fun x3 =>
    if x2.2.2.2 == x3 then
      (sub y3 0 (len y3)).bind fun x4 =>
      (app x4 ([s1.2] : List Int)).bind fun x5 =>
      (rec_ref07_choices_2 y0 y1 y2 x5).bind fun r1 =>
      (app s1.1 r1).bind fun x6 =>
      some (.inl (x6, w64 (s1.2 + 1)))
    else
      some (.inl (s1.1, w64 (s1.2 + 1)))
  else
    some (.inr s1.1)
theorem le_ref07_choices_2_L1 (n_ : Nat) (y1 : Int) (y0 : List T_Argument) (y2 : List T_Literal) (y3 : List Int) {rec_ref07_choices_2 rec_ref07_choices_2' : (List T_Argument) → Int → (List T_Literal) → (List Int) → Option (List (List Int))} (h_rec_ref07_choices_2 : ∀ u0 u1 u2 u3, Le (rec_ref07_choices_2 u0 u1 u2 u3) (rec_ref07_choices_2' u0 u1 u2 u3)) (s1 : (List (List Int)) × Int) : Le (e_ref07_choices_2_L1 n_ y1 y0 y2 y3 rec_ref07_choices_2 s1) (m_ref07_choices_2_L1 y1 y0 y2 y3 rec_ref07_choices_2' s1) := by
  unfold e_ref07_choices_2_L1 m_ref07_choices_2_L1
  repeat with_reducible (first | intro _ | apply h_rec_ref07_choices_2 | exact Le.refl _ | apply Le.ite | apply Le.seqE | apply Le.bind | apply Le.lp | exact Le.none _)
def fe_ref07_choices_2 (n_ : Nat) (rec_ref07_choices_2 : (List T_Argument) → Int → (List T_Literal) → (List Int) → Option (List (List Int))) (y0 : List T_Argument) (y1 : Int) (y2 : List T_Literal) (y3 : List Int) : Option (List (List Int)) :=
  if (len y3) == (len y2) then
    (app ([] : List Int) y3).bind fun x1 =>
    some ([x1] : List (List Int))
  else
    (lp n_) ((e_ref07_choices_2_L1 n_) y1 y0 y2 y3 rec_ref07_choices_2) (([] : List (List Int)), 0)
theorem lef_ref07_choices_2 (n_ : Nat) {rec_ref07_choices_2 rec_ref07_choices_2' : (List T_Argument) → Int → (List T_Literal) → (List Int) → Option (List (List Int))} (h_rec_ref07_choices_2 : ∀ u0 u1 u2 u3, Le (rec_ref07_choices_2 u0 u1 u2 u3) (rec_ref07_choices_2' u0 u1 u2 u3)) (y0 : List T_Argument) (y1 : Int) (y2 : List T_Literal) (y3 : List Int) : Le (fe_ref07_choices_2 n_ rec_ref07_choices_2 y0 y1 y2 y3) (F_ref07_choices_2 rec_ref07_choices_2' y0 y1 y2 y3) := by
  unfold fe_ref07_choices_2 F_ref07_choices_2
  repeat with_reducible (first | intro _ | apply h_rec_ref07_choices_2 | apply le_ref07_choices_2_L1 | exact Le.refl _ | apply Le.ite | apply Le.seqE | apply Le.bind | apply Le.lp | exact Le.none _)
def ke_ref07_choices_2 (n_ : Nat) : Nat → (List T_Argument) → Int → (List T_Literal) → (List Int) → Option (List (List Int))
  | 0 => fun _ _ _ _ => none
  | k + 1 => fun y0 y1 y2 y3 => (fe_ref07_choices_2 n_) ((ke_ref07_choices_2 n_) k) y0 y1 y2 y3
theorem lek_ref07_choices_2 (n_ : Nat) : ∀ (k m : Nat), k ≤ m → ∀ u0 u1 u2 u3, Le (ke_ref07_choices_2 n_ k u0 u1 u2 u3) (k_ref07_choices_2 m u0 u1 u2 u3)
  | 0, _, _ => fun u0 u1 u2 u3 => Le.none _
  | k + 1, m, h => fun u0 u1 u2 u3 => by
    obtain ⟨m, rfl⟩ : ∃ q, m = q + 1 := ⟨m - 1, by omega⟩
    exact lef_ref07_choices_2 n_ (lek_ref07_choices_2 n_ k m (by omega)) _ _ _ _
def e_ref07_choices_2 (n_ : Nat) (y0 : List T_Argument) (y1 : Int) (y2 : List T_Literal) (y3 : List Int) : Option (List (List Int)) :=
  ke_ref07_choices_2 n_ n_ y0 y1 y2 y3
theorem le_ref07_choices_2 (n_ : Nat) (y0 : List T_Argument) (y1 : Int) (y2 : List T_Literal) (y3 : List Int) : Le (e_ref07_choices_2 n_ y0 y1 y2 y3) (m_ref07_choices_2 y0 y1 y2 y3) := Le.lim n_ fun m h => lek_ref07_choices_2 n_ n_ m h _ _ _ _
def e_ref07_recent_L1 (n_ : Nat) (y0 : List Int) (y1 : Int) (s1 : Int) : Option (Int ⊕ Bool) :=
  if decide (s1 < (len y0)) then
    (idx y0 s1).bind fun x1 =>
    if decide (y1 ≤ x1) then
      some (.inr true)
    else
      some (.inl (w64 (s1 + 1)))
  else
    some (.inr false)
theorem le_ref07_recent_L1 (n_ : Nat) (y0 : List Int) (y1 : Int) (s1 : Int) : Le (e_ref07_recent_L1 n_ y0 y1 s1) (m_ref07_recent_L1 y0 y1 s1) := by
  unfold e_ref07_recent_L1 m_ref07_recent_L1
  repeat with_reducible (first | intro _ | exact Le.refl _ | apply Le.ite | apply Le.seqE | apply Le.bind | apply Le.lp | exact Le.none _)
def e_ref07_recent (n_ : Nat) (y0 : List Int) (y1 : Int) : Option Bool :=
  (lp n_) ((e_ref07_recent_L1 n_) y0 y1) 0
theorem le_ref07_recent (n_ : Nat) (y0 : List Int) (y1 : Int) : Le (e_ref07_recent n_ y0 y1) (m_ref07_recent y0 y1) := by
  unfold e_ref07_recent m_ref07_recent
  repeat with_reducible (first | intro _ | apply le_ref07_recent_L1 | exact Le.refl _ | apply Le.ite | apply Le.seqE | apply Le.bind | apply Le.lp | exact Le.none _)
def e_ref07_Build_L1 (n_ : Nat) (y0 : T_Base) (s2 : (List T_Argument) × Int) : Option (((List T_Argument) × Int) ⊕ (List T_Argument)) :=
  if decide (s2.2 < (len y0.1)) then
    (idx y0.1 s2.2).bind fun x1 =>
    (app s2.1 ([(s2.2, (-1), ([] : List Int), x1.1)] : List T_Argument)).bind fun x2 =>
    some (.inl (x2, w64 (s2.2 + 1)))
  else
    some (.inr s2.1)
theorem le_ref07_Build_L1 (n_ : Nat) (y0 : T_Base) (s2 : (List T_Argument) × Int) : Le (e_ref07_Build_L1 n_ y0 s2) (m_ref07_Build_L1 y0 s2) := by
  unfold e_ref07_Build_L1 m_ref07_Build_L1
  repeat with_reducible (first | intro _ | exact Le.refl _ | apply Le.ite | apply Le.seqE | apply Le.bind | apply Le.lp | exact Le.none _)
def e_ref07_Build_L4 (n_ : Nat) (r2 : (List (List Int))) (s3 : (List T_Argument) × Int × Int) (y0 : T_Base) (s4 : (List T_Argument) × Int) (s5 : (List T_Argument) × Int) : Option (((List T_Argument) × Int) ⊕ (((List T_Argument) × Int) ⊕ (((List T_Argument) × Int × Int) ⊕ ((List T_Argument) × Int)))) :=
  if decide (s5.2 < (len r2)) then
    (idx r2 s5.2).bind fun x4 =>
    (
      ((e_ref07_recent n_) x4 s3.2.1).bind fun r3 =>
      if !r3 then
        if decide (1 < s3.2.2) then
          some true
        else
          if decide (0 < (len x4)) then
            some true
          else
            ((e_ref07_Within n_) y0 s5.1 s4.2 x4).bind fun r4 =>
            some (!r4)
      else
        ((e_ref07_Within n_) y0 s5.1 s4.2 x4).bind fun r5 =>
        some (!r5) : Option Bool).bind fun s6 =>
    if s6 then
      some (.inl (s5.1, w64 (s5.2 + 1)))
    else
      (idx y0.2.1 s4.2).bind fun x5 =>
      (app s5.1 ([((-1), s4.2, x4, x5.2.2.2.2)] : List T_Argument)).bind fun x6 =>
      if decide (40 < (len x6)) then
        some (.inr (.inr (.inr (([] : List T_Argument), 2))))
      else
        some (.inl (x6, w64 (s5.2 + 1)))
  else
    some (.inr (.inl (s5.1, w64 (s4.2 + 1))))
theorem le_ref07_Build_L4 (n_ : Nat) (r2 : (List (List Int))) (s3 : (List T_Argument) × Int × Int) (y0 : T_Base) (s4 : (List T_Argument) × Int) (s5 : (List T_Argument) × Int) : Le (e_ref07_Build_L4 n_ r2 s3 y0 s4 s5) (m_ref07_Build_L4 r2 s3 y0 s4 s5) := by
  unfold e_ref07_Build_L4 m_ref07_Build_L4
  repeat with_reducible (first | intro _ | apply le_ref07_Within | apply le_ref07_recent | exact Le.refl _ | apply Le.ite | apply Le.seqE | apply Le.bind | apply Le.lp | exact Le.none _)
def e_ref07_Build_L3 (n_ : Nat) (y0 : T_Base) (s3 : (List T_Argument) × Int × Int) (s4 : (List T_Argument) × Int) : Option (((List T_Argument) × Int) ⊕ (((List T_Argument) × Int × Int) ⊕ ((List T_Argument) × Int))) :=
  if decide (s4.2 < (len y0.2.1)) then
    (idx y0.2.1 s4.2).bind fun x3 =>
    ((e_ref07_choices_2 n_) s4.1 (len s3.1) x3.2.2.2.1 ([] : List Int)).bind fun r2 =>
    (lp n_) ((e_ref07_Build_L4 n_) r2 s3 y0 s4) (s4.1, 0)
  else
    some (.inr (.inl (s4.1, len s3.1, w64 (s3.2.2 + 1))))
theorem le_ref07_Build_L3 (n_ : Nat) (y0 : T_Base) (s3 : (List T_Argument) × Int × Int) (s4 : (List T_Argument) × Int) : Le (e_ref07_Build_L3 n_ y0 s3 s4) (m_ref07_Build_L3 y0 s3 s4) := by
  unfold e_ref07_Build_L3 m_ref07_Build_L3
  repeat with_reducible (first | intro _ | apply le_ref07_Build_L4 | apply le_ref07_choices_2 | exact Le.refl _ | apply Le.ite | apply Le.seqE | apply Le.bind | apply Le.lp | exact Le.none _)
def e_ref07_Build_L2 (n_ : Nat) (y0 : T_Base) (s3 : (List T_Argument) × Int × Int) : Option (((List T_Argument) × Int × Int) ⊕ ((List T_Argument) × Int)) :=
  if (s3.2.2 == 1) || (decide (s3.2.1 < (len s3.1))) then
    (lp n_) ((e_ref07_Build_L3 n_) y0 s3) (s3.1, 0)
  else
    some (.inr (s3.1, 0))
theorem le_ref07_Build_L2 (n_ : Nat) (y0 : T_Base) (s3 : (List T_Argument) × Int × Int) : Le (e_ref07_Build_L2 n_ y0 s3) (m_ref07_Build_L2 y0 s3) := by
  unfold e_ref07_Build_L2 m_ref07_Build_L2
  repeat with_reducible (first | intro _ | apply le_ref07_Build_L3 | exact Le.refl _ | apply Le.ite | apply Le.seqE | apply Le.bind | apply Le.lp | exact Le.none _)
def e_ref07_Build (n_ : Nat) (y0 : T_Base) : Option ((List T_Argument) × Int) :=
  ((e_ref05_Validate n_) y0).bind fun r1 =>
  if r1 != 0 then
    some (([] : List T_Argument), r1)
  else
    ((lp n_) ((e_ref07_Build_L1 n_) y0) (([] : List T_Argument), 0) : Option (List T_Argument)).bind fun s1 =>
    (lp n_) ((e_ref07_Build_L2 n_) y0) (s1, 0, 1)
theorem le_ref07_Build (n_ : Nat) (y0 : T_Base) : Le (e_ref07_Build n_ y0) (m_ref07_Build y0) := by
  unfold e_ref07_Build m_ref07_Build
  repeat with_reducible (first | intro _ | apply le_ref07_Build_L2 | apply le_ref07_Build_L1 | apply le_ref05_Validate | exact Le.refl _ | apply Le.ite | apply Le.seqE | apply Le.bind | apply Le.lp | exact Le.none _)
def e_law09_awake (n_ : Nat) : Option Bool :=
  ((e_ref07_Build n_) (([((false, [112]), 2, 1, []), ((true, [112]), 2, 2, [])] : List T_Premise), ([] : List T_Rule), ([] : List T_Promotion))).bind fun r1 =>
  ((e_attack_Attacks n_) (([((false, [112]), 2, 1, []), ((true, [112]), 2, 2, [])] : List T_Premise), ([] : List T_Rule), ([] : List T_Promotion)) r1.1).bind fun r2 =>
  ((e_attack_Defeats n_) (([((false, [112]), 2, 1, []), ((true, [112]), 2, 2, [])] : List T_Premise), ([] : List T_Rule), ([] : List T_Promotion)) r1.1 (1, 1)).bind fun r3 =>
  ((e_attack_Graph n_) 2 r3).bind fun r4 =>
  (
    if r1.2 == 0 then
      if (len r2) == 2 then
        if (len r3) == 1 then
          (idx r3 0).bind fun x1 =>
          if x1 == (1, 0, 0, 1) then
            if r4.2 == 0 then
              if r4.1.1 == 2 then
                some ((len r4.1.2) == 1)
              else
                some false
            else
              some false
          else
            some false
        else
          some false
      else
        some false
    else
      some false : Option Bool).bind fun s1 =>
  some s1
theorem le_law09_awake (n_ : Nat) : Le (e_law09_awake n_ ) (m_law09_awake ) := by
  unfold e_law09_awake m_law09_awake
  repeat with_reducible (first | intro _ | apply le_attack_Graph | apply le_attack_Defeats | apply le_attack_Attacks | apply le_ref07_Build | exact Le.refl _ | apply Le.ite | apply Le.seqE | apply Le.bind | apply Le.lp | exact Le.none _)
end
section
theorem sless_irrefl : ∀ a : Str, sless a a = false
  | [] => rfl
  | a :: x => by simp [sless, sless_irrefl x, UInt8.lt_irrefl]
def loB (b : UInt8) : Bool := decide (97 ≤ (b.toNat : Int)) && decide ((b.toNat : Int) ≤ 122)
def okB (b : UInt8) : Bool := loB b || (if decide (48 ≤ (b.toNat : Int)) then decide ((b.toNat : Int) ≤ 57) || (b.toNat : Int) == 95 else (b.toNat : Int) == 95)
/-- is it a name? -/
def vName : Str → Bool
  | [] => false
  | c :: r => decide (r.length + 1 ≤ 12) && loB c && r.all okB
theorem ref_validName (s : Str) : m_ref01_ValidName s = some (vName s) := by
  unfold m_ref01_ValidName
  cases s with
  | nil => rfl
  | cons c r =>
    have h0 : decide ((len (c :: r)) < 1) = false := by simp [len]; omega
    have hs0 : sidx (c :: r) 0 = some (c.toNat : Int) := rfl
    rw [h0]
    by_cases hl : r.length + 1 ≤ 12
    · have h1 : decide (12 < len (c :: r)) = false := by simp [len]; omega
      rw [h1]
      simp only [Bool.false_eq_true, if_false, hs0, Option.bind_some]
      by_cases hlo : loB c = true
      · have ha : decide ((c.toNat : Int) < 97) = false := by simp [loB] at hlo ⊢; omega
        have hb : decide (122 < (c.toNat : Int)) = false := by simp [loB] at hlo ⊢; omega
        simp only [ha, hb, Bool.false_eq_true, if_false, Option.bind_some]
        have h := loop_runL0 (B := m_ref01_ValidName_L1 (c :: r)) (fun i (_ : Unit) => (i : Int)) (c :: r)
          (fun _ _ b => some (if okB b then .inl () else .inr false)) (fun _ => some true) ?_ ?_ ()
        · rw [show ((0 : Nat) : Int) = 0 from rfl] at h
          rw [h]
          have key : ∀ (l : List UInt8) (i : Nat), runL (fun (_ : Nat) (_ : Unit) (b : UInt8) => some (if okB b then .inl () else .inr false)) (fun _ => some true) i l () = some (l.all okB) := by
            intro l
            induction l with
            | nil => intro i; rfl
            | cons b l ih =>
              intro i
              by_cases hb : okB b = true
              · simp only [runL, hb, if_true]; rw [ih (i + 1)]; simp [hb]
              · simp [runL, hb]
          rw [key]
          simp [vName, hlo, hl, okB]
        · intro i x s hx
          have hi := (List.getElem?_eq_some_iff.1 hx).1
          have hlt : decide ((i : Int) < len (c :: r)) = true := by simp [len] at hi ⊢; omega
          unfold m_ref01_ValidName_L1
          rw [sidx_nat, hx, w64_succ i (by simp at hi; omega)]
          simp only [hlt, if_true, Option.map_some, Option.bind_some]
          have hok : okB x = !(if decide ((x.toNat : Int) < 97) then (if decide ((x.toNat : Int) < 48) then ((x.toNat : Int) != 95) else if decide (57 < (x.toNat : Int)) then ((x.toNat : Int) != 95) else false)
              else if decide (122 < (x.toNat : Int)) then (if decide ((x.toNat : Int) < 48) then ((x.toNat : Int) != 95) else if decide (57 < (x.toNat : Int)) then ((x.toNat : Int) != 95) else false) else false) := by
            unfold okB loB
            generalize (x.toNat : Int) = n
            rw [Bool.eq_iff_iff]
            simp
            constructor
            · intro h
              by_cases h1 : n < 97 <;> by_cases h2 : n < 48 <;> by_cases h3 : 57 < n <;> by_cases h4 : 122 < n <;> simp [h1, h2, h3, h4] <;> (split at h <;> (try simp at h) <;> omega)
            · intro h
              by_cases h1 : n < 97 <;> by_cases h2 : n < 48 <;> by_cases h3 : 57 < n <;> by_cases h4 : 122 < n <;> simp [h1, h2, h3, h4] at h <;> (split <;> (try simp) <;> omega)
          rw [hok]
          cases decide ((x.toNat : Int) < 97) <;> cases decide ((x.toNat : Int) < 48) <;> cases decide (57 < (x.toNat : Int)) <;> cases decide (122 < (x.toNat : Int)) <;> cases ((x.toNat : Int) != 95) <;> rfl
        · intro s
          unfold m_ref01_ValidName_L1
          simp [len]
      · have hor : (decide ((c.toNat : Int) < 97) || decide (122 < (c.toNat : Int))) = true := by simp [loB] at hlo ⊢; omega
        have hv : vName (c :: r) = false := by simp [vName, hlo]
        rw [hv]
        cases h1 : decide ((c.toNat : Int) < 97) with
        | true => rfl
        | false => rw [h1] at hor; simp only [Bool.false_or] at hor; simp only [Bool.false_eq_true, if_false, hor, Option.bind_some, if_true]
    · have h1 : decide (12 < len (c :: r)) = true := by simp [len]; omega
      rw [h1]
      simp [vName, hl]
theorem ref_valid (x : T_Literal) : m_ref01_Valid x = some (vName x.2) := by simp [m_ref01_Valid, ref_validName]
def litLt (a b : T_Literal) : Bool := sless a.2 b.2 || (a.2 == b.2 && (!a.1 && b.1))
/-- the comparison of literals -/
def litCmp (a b : T_Literal) : Int := if litLt a b then -1 else if a = b then 0 else 1
theorem ref_compare (a b : T_Literal) : m_ref01_Compare a b = some (litCmp a b) := by
  obtain ⟨g, a⟩ := a; obtain ⟨g', b⟩ := b
  unfold m_ref01_Compare litCmp litLt
  by_cases h1 : sless a b = true
  · have h2 : a ≠ b := fun e => by subst e; rw [sless_irrefl] at h1; cases h1
    simp [h1, h2]
  · by_cases h2 : a = b
    · subst h2
      cases g <;> cases g' <;> simp [sless_irrefl]
    · simp [h1, h2]
end
section
/-- the other one -/
def compl (x : T_Literal) : T_Literal := (!x.1, x.2)
theorem lit_complement (x : T_Literal) : m_literal_Complement x = some (compl x) := rfl
theorem compl_compl (x : T_Literal) : compl (compl x) = x := by simp [compl]
end
section
theorem ref_has {l : List T_Literal} (x : T_Literal) (h : l.length < 9223372036854775807) : m_ref01_Has l x = some (decide (x ∈ l)) := by
  have hh := loop_forI (B := m_ref01_Has_L1 l x) (fun i (_ : Unit) => (i : Int)) l (fun i _ => ∀ j, j < i → l[j]? ≠ some x) (fun r => r = decide (x ∈ l)) ?_ ?_ () (by simp)
  · obtain ⟨r, h1, rfl⟩ := hh; exact h1
  · intro i y s hy hI
    have hi := (List.getElem?_eq_some_iff.1 hy).1
    have hlt : decide ((i : Int) < len l) = true := by simp [len]; omega
    unfold m_ref01_Has_L1
    simp only [hlt, if_true, idx_nat, hy, Option.bind_some]
    by_cases hxy : y = x
    · subst hxy
      refine .inr ⟨true, by simp, ?_⟩
      simp [List.mem_of_getElem? hy]
    · refine .inl ⟨(), by simp [hxy, w64_succ i (by omega)], fun j hj => ?_⟩
      rcases Nat.lt_succ_iff_lt_or_eq.1 hj with h | rfl
      · exact hI j h
      · rw [hy]; simpa using hxy
  · intro s hI
    refine ⟨false, by unfold m_ref01_Has_L1; simp [len], ?_⟩
    symm
    rw [decide_eq_false_iff_not]
    intro hm
    obtain ⟨j, hj⟩ := List.mem_iff_getElem?.1 hm
    exact hI j (List.getElem?_eq_some_iff.1 hj).1 hj
end
section
theorem insert_at (l : List Int) (n : Int) (hl : l.length < 4294967290) : ∃ k : Nat, loop (m_ref07_insert_L1 l n) 0 = some (k : Int) ∧ k ≤ l.length ∧ (∀ j x, j < k → l[j]? = some x → x < n) ∧ ∀ x, l[k]? = some x → n ≤ x := by
  have h := loop_forI (B := m_ref07_insert_L1 l n) (fun i (_ : Unit) => (i : Int)) l (fun i _ => ∀ j x, j < i → l[j]? = some x → x < n)
    (fun r => ∃ k : Nat, r = (k : Int) ∧ k ≤ l.length ∧ (∀ j x, j < k → l[j]? = some x → x < n) ∧ ∀ x, l[k]? = some x → n ≤ x) ?_ ?_ () (by omega)
  · obtain ⟨r, h1, k, rfl, h2⟩ := h; exact ⟨k, h1, h2⟩
  · intro i x s hx hI
    unfold m_ref07_insert_L1
    simp only [at_dec hx, if_true, at_idx hx, Option.bind_some]
    by_cases hlt : x < n
    · refine .inl ⟨(), by simp [hlt, at_suc hx (by omega)], fun j y hj hy => ?_⟩
      rcases Nat.lt_succ_iff_lt_or_eq.1 hj with h | rfl
      · exact hI j y h hy
      · rw [hx] at hy; cases hy; exact hlt
    · exact .inr ⟨i, by simp [hlt], i, rfl, by have := at_lt hx; omega, hI, fun y hy => by rw [hx] at hy; cases hy; omega⟩
  · intro s hI
    unfold m_ref07_insert_L1
    exact ⟨(l.length : Int), by simp [len], l.length, rfl, Nat.le_refl _, hI, fun x hx => by simp at hx⟩
theorem ref_insertI {l : List Int} (n : Int) (hl : l.length < 4294967000) (ha : Asc ltI l) : ∃ r, m_ref07_insert l n = some r ∧ Asc ltI r ∧ (∀ y, y ∈ r ↔ y = n ∨ y ∈ l) ∧ r.length ≤ l.length + 1 := by
  obtain ⟨k, h1, h2, h3, h4⟩ := insert_at l n (by omega)
  have hsplit : l = l.take k ++ l.drop k := (List.take_append_drop k l).symm
  have hlo : ∀ x ∈ l.take k, x < n := fun x hx => by
    obtain ⟨j, hj⟩ := List.mem_iff_getElem?.1 hx
    rw [List.getElem?_take] at hj
    split at hj
    · rename_i hjk; exact h3 j x hjk hj
    · cases hj
  have hhi : ∀ x ∈ l.drop k, n ≤ x := fun x hx => by
    obtain ⟨j, hj⟩ := List.mem_iff_getElem?.1 hx
    rw [List.getElem?_drop] at hj
    cases j with
    | zero => exact h4 x hj
    | succ j =>
      have hk : k < l.length := by have := at_lt hj; omega
      have h5 := h4 l[k] (List.getElem?_eq_getElem hk)
      have h6 := List.pairwise_iff_getElem.1 ha k (k + (j + 1)) hk (at_lt hj) (by omega)
      rw [List.getElem?_eq_getElem (at_lt hj)] at hj
      have hj := Option.some.inj hj
      simp at h6; omega
  unfold m_ref07_insert
  rw [h1]
  simp only [Option.bind_some]
  by_cases he : ∃ x, l[k]? = some x ∧ x = n
  · obtain ⟨x, hx, rfl⟩ := he
    refine ⟨l, by simp only [at_dec hx, if_true, at_idx hx, Option.bind_some, beq_self_eq_true], ha, fun y => ⟨.inr, fun h => by rcases h with rfl | h; exact mem_at hx; exact h⟩, by omega⟩
  · have hc : (if decide ((k : Int) < len l) = true then (idx l (k : Int)).bind fun x2 => some (x2 == n) else some false) = some false := by
      by_cases hk : k < l.length
      · have hx : l[k]? = some l[k] := List.getElem?_eq_getElem hk
        simp only [at_dec hx, if_true, at_idx hx, Option.bind_some]
        congr 1
        rw [beq_eq_false_iff_ne]
        exact fun e => he ⟨_, hx, e⟩
      · have : decide ((k : Int) < len l) = false := by simp [len]; omega
        simp only [this, Bool.false_eq_true, if_false]
    rw [hc]
    simp only [Option.bind_some, Bool.false_eq_true, if_false]
    rw [sub_pre (by omega) (by omega), sub_suf (by omega) (by omega)]
    simp only [Option.bind_some, Int.toNat_natCast]
    have l1 : (l.take k).length = k := by simp; omega
    have l2 : (l.drop k).length = l.length - k := by simp
    rw [app_ok (by simp; omega)]
    simp only [Option.bind_some, List.nil_append]
    rw [app_ok (by simp; omega)]
    simp only [Option.bind_some]
    rw [app_ok (by simp; omega)]
    refine ⟨_, rfl, ?_, fun y => ?_, by simp; omega⟩
    · rw [List.append_assoc]
      refine List.pairwise_append.2 ⟨ha.sublist (List.take_sublist k l), ?_, fun x hx y hy => ?_⟩
      · refine List.pairwise_append.2 ⟨by simp, ha.sublist (List.drop_sublist k l), fun x hx y hy => ?_⟩
        simp only [List.mem_singleton] at hx
        subst hx
        have h5 := hhi y hy
        have h6 : y ≠ x := fun e => by
          subst e
          obtain ⟨j, hj⟩ := List.mem_iff_getElem?.1 hy
          rw [List.getElem?_drop] at hj
          cases j with
          | zero => exact he ⟨_, hj, rfl⟩
          | succ j =>
            have hk : k < l.length := by have := at_lt hj; omega
            have h5 := h4 l[k] (List.getElem?_eq_getElem hk)
            have h6 := List.pairwise_iff_getElem.1 ha k (k + (j + 1)) hk (at_lt hj) (by omega)
            rw [List.getElem?_eq_getElem (at_lt hj)] at hj
            have hj := Option.some.inj hj
            simp at h6; omega
        simp; omega
      · have h5 := hlo x hx
        rcases List.mem_append.1 hy with h | h
        · simp at h; subst h; simpa using h5
        · have := hhi y h; simp; omega
    · have hm : y ∈ l ↔ y ∈ l.take k ∨ y ∈ l.drop k := by rw [← List.mem_append, List.take_append_drop]
      rw [hm]
      simp only [List.mem_append, List.mem_singleton]
      constructor
      · rintro ((h | h) | h)
        · exact .inr (.inl h)
        · exact .inl h
        · exact .inr (.inr h)
      · rintro (h | h | h)
        · exact .inl (.inr h)
        · exact .inl (.inl h)
        · exact .inr h
theorem ref_unionI {l m : List Int} (hl : l.length + m.length < 4294966000) (ha : Asc ltI l) : ∃ r, m_ref07_union l m = some r ∧ Asc ltI r ∧ (∀ y, y ∈ r ↔ y ∈ l ∨ y ∈ m) ∧ r.length ≤ l.length + m.length := by
  have h := loop_forI (B := m_ref07_union_L1 m) (fun i (s : List Int) => (s, (i : Int))) m (fun i s => Asc ltI s ∧ (∀ y, y ∈ s ↔ y ∈ l ∨ y ∈ m.take i) ∧ s.length ≤ l.length + i)
    (fun r => Asc ltI r ∧ (∀ y, y ∈ r ↔ y ∈ l ∨ y ∈ m) ∧ r.length ≤ l.length + m.length) ?_ ?_ l ⟨ha, by simp, by omega⟩
  · exact h
  · rintro i x s hx ⟨h1, h2, h3⟩
    have hi := at_lt hx
    obtain ⟨r, e1, e2, e3, e4⟩ := ref_insertI x (by omega) h1
    refine .inl ⟨r, ?_, e2, fun y => ?_, by omega⟩
    · unfold m_ref07_union_L1
      simp only [at_dec hx, if_true, at_idx hx, Option.bind_some, e1, at_suc hx (by omega)]
    · rw [e3, h2, take_suc hx]
      simp only [List.mem_append, List.mem_singleton]
      constructor
      · rintro (h | h | h)
        · exact .inr (.inr h)
        · exact .inl h
        · exact .inr (.inl h)
      · rintro (h | h | h)
        · exact .inr (.inl h)
        · exact .inr (.inr h)
        · exact .inl h
  · rintro s ⟨h1, h2, h3⟩
    refine ⟨s, by unfold m_ref07_union_L1; simp [len], h1, fun y => by rw [h2, List.take_length], h3⟩
theorem sortI_int {l : List Int} (h : l.length < 4294967296) : m_slices_Sort_int l = some (isort ltI l) := sortI_isort h
theorem compact_int {l : List Int} (h : l.length < 4294967296) : m_slices_Compact_int l = some (dedup l) := compactM_spec 0 l (by omega)
/-- sort and compact -/
theorem sortcomp {β : Type} {l : List Int} (h : l.length < 4294967296) (k : List Int → Option β) : ((m_slices_Sort_int l).bind fun r3 => (m_slices_Compact_int r3).bind fun r4 => k r4) = k (nrm ltI l) := by
  rw [sortI_int h]
  simp only [Option.bind_some]
  rw [compact_int (by rw [(isort_perm l).length_eq]; exact h)]
  simp only [Option.bind_some]
  rw [sort_dedup (isort_perm l) (isort_sorted ord_ltI l)]
theorem nrm_asc (l : List Int) : Asc ltI (nrm ltI l) := (nrm_spec ord_ltI l).1
theorem nrm_mem (l : List Int) (x : Int) : x ∈ nrm ltI l ↔ x ∈ l := (nrm_spec ord_ltI l).2 x
inductive SubOf (l : List T_Argument) : Int → Int → Prop
  | self (i : Int) : SubOf l i i
  | step {i k j : Int} {a : T_Argument} : idx l i = some a → k ∈ a.2.2.1 → SubOf l k j → SubOf l i j
structure FormA (l : List T_Argument) : Prop where
  len : l.length ≤ 100
  nsub : ∀ a ∈ l, a.2.2.1.length ≤ 100
  sub : ∀ (i : Nat) a, l[i]? = some a → ∀ k ∈ a.2.2.1, 0 ≤ k ∧ k < i
theorem FormA.at {l : List T_Argument} (h : FormA l) {i : Int} {a : T_Argument} (hi : idx l i = some a) : a.2.2.1.length ≤ 100 ∧ 0 ≤ i ∧ i < l.length ∧ ∀ k ∈ a.2.2.1, 0 ≤ k ∧ k < i := by
  obtain ⟨n, rfl, hn⟩ := idx_at hi
  exact ⟨h.nsub a (mem_at hn), by omega, by have := at_lt hn; omega, h.sub n a hn⟩
theorem SubOf.le {l : List T_Argument} (h : FormA l) {i j : Int} (hs : SubOf l i j) : 0 ≤ i → 0 ≤ j ∧ j ≤ i := by
  induction hs with
  | self i => intro h0; omega
  | step hi hk _ ih => intro h0; have := (h.at hi).2.2.2 _ hk; have := ih this.1; omega
theorem SubOf.trans {l : List T_Argument} {i j k : Int} (h : SubOf l i j) (h2 : SubOf l j k) : SubOf l i k := by
  induction h with
  | self i => exact h2
  | step hi hk _ ih => exact .step hi hk (ih h2)
theorem SubOf.iff {l : List T_Argument} {i j : Int} {a : T_Argument} (hi : idx l i = some a) : SubOf l i j ↔ j = i ∨ ∃ k ∈ a.2.2.1, SubOf l k j := by
  constructor
  · intro h
    cases h with
    | self => exact .inl rfl
    | step h1 h2 h3 => rw [hi] at h1; cases h1; exact .inr ⟨_, h2, h3⟩
  · rintro (rfl | ⟨k, h1, h2⟩)
    · exact .self _
    · exact .step hi h1 h2
open Classical in
noncomputable def subsS (l : List T_Argument) (i : Int) : List Int := ((List.range l.length).map Int.ofNat).filter fun j => decide (SubOf l i j)
theorem subsS_asc (l : List T_Argument) (i : Int) : Asc ltI (subsS l i) := by
  refine List.Pairwise.filter _ ?_
  rw [List.pairwise_map]
  exact List.pairwise_lt_range.imp fun {a b} h => by simp; omega
theorem subsS_len (l : List T_Argument) (i : Int) : (subsS l i).length ≤ l.length := Nat.le_trans (List.length_filter_le _ _) (by simp)
theorem subsS_mem {l : List T_Argument} (h : FormA l) {i : Int} (h0 : 0 ≤ i) (h1 : i < l.length) (j : Int) : j ∈ subsS l i ↔ SubOf l i j := by
  simp only [subsS, List.mem_filter, List.mem_map, List.mem_range, decide_eq_true_eq]
  constructor
  · exact fun h => h.2
  · intro hs
    have := hs.le h h0
    exact ⟨⟨j.toNat, by omega, by simp; omega⟩, hs⟩
theorem arg_Subs_k {l : List T_Argument} (h : FormA l) : ∀ (n : Nat) (i : Int), 0 ≤ i → i < l.length → i < n → k_argument_Subs n l i = some (subsS l i) := by
  intro n
  induction n with
  | zero => intro i h0 _ h2; omega
  | succ n ih =>
    intro i h0 h1 h2
    obtain ⟨a, ha⟩ := idx_ok h0 h1
    obtain ⟨hn, _, _, hsub⟩ := h.at ha
    show F_argument_Subs (k_argument_Subs n) l i = _
    have hL := loop_fold (B := m_argument_Subs_L1 a (k_argument_Subs n) l) a.2.2.1 (fun s k => s ++ subsS l k) (fun s => s) (fun q s => s.length ≤ 1 + q * 100) [i] (by simp) (fun q k s hk hI => ?_) (fun s hI => ?_)
    · obtain ⟨e1, e2⟩ := hL
      rw [foldl_app_flat] at e1 e2
      unfold F_argument_Subs m_argument_inside
      have hin : (decide (0 ≤ i) && decide (i < len l)) = true := by simp [len]; omega
      simp only [hin, Option.bind_some, Bool.not_true, Bool.false_eq_true, if_false, ha, e1]
      have hlen : ([i] ++ a.2.2.1.flatMap (subsS l)).length < 4294967296 := by omega
      refine (sortcomp hlen some).trans ?_
      congr 1
      refine nrm_eq ord_ltI (subsS_asc l i) fun j => ?_
      rw [subsS_mem h h0 h1, SubOf.iff ha]
      simp only [List.singleton_append, List.mem_cons, List.mem_flatMap]
      refine or_congr Iff.rfl (exists_congr fun k => and_congr_right fun hk => ?_)
      have := hsub k hk
      rw [subsS_mem h this.1 (by omega)]
    · have hks := hsub k (mem_at hk)
      have hq := at_lt hk
      have hsl := subsS_len l k
      have hl := h.len
      unfold m_argument_Subs_L1
      simp only [at_dec hk, if_true, at_idx hk, Option.bind_some]
      rw [ih k hks.1 (by omega) (by omega)]
      simp only [Option.bind_some]
      rw [app_ok (by omega)]
      refine ⟨by simp only [Option.bind_some, at_suc hk (by omega)], by rw [List.length_append]; omega⟩
    · unfold m_argument_Subs_L1
      simp [len]
theorem arg_Subs {l : List T_Argument} (h : FormA l) {i : Int} (h0 : 0 ≤ i) (h1 : i < l.length) : m_argument_Subs l i = some (subsS l i) :=
  limM_of (i.toNat + 1) fun m hm => arg_Subs_k h m i h0 h1 (by omega)
theorem ref_Subs_k {l : List T_Argument} (h : FormA l) : ∀ (n : Nat) (i : Int), 0 ≤ i → i < l.length → i < n → k_ref07_Subs n l i = some (subsS l i) := by
  intro n
  induction n with
  | zero => intro i h0 _ h2; omega
  | succ n ih =>
    intro i h0 h1 h2
    obtain ⟨a, ha⟩ := idx_ok h0 h1
    obtain ⟨hn, _, _, hsub⟩ := h.at ha
    have hl := h.len
    show F_ref07_Subs (k_ref07_Subs n) l i = _
    have hL := loop_forI (B := m_ref07_Subs_L1 l i (k_ref07_Subs n)) (fun q (s : List Int) => (s, (q : Int))) a.2.2.1 (fun q s => Asc ltI s ∧ (∀ y, y ∈ s ↔ y = i ∨ ∃ k ∈ a.2.2.1.take q, SubOf l k y) ∧ s.length ≤ 1 + q * 100)
      (fun r => Asc ltI r ∧ ∀ y, y ∈ r ↔ SubOf l i y) (fun q k s hk hI => ?_) (fun s hI => ?_) [i] ⟨by simp, by simp, by simp⟩
    · obtain ⟨r, e1, e2, e3⟩ := hL
      unfold F_ref07_Subs
      have hin : (decide (i < 0) || decide (len l ≤ i)) = false := by simp [len]; omega
      simp only [hin, Bool.false_eq_true, if_false]
      exact e1.trans (congrArg some (Asc.ext ord_ltI e2 (subsS_asc l i) fun j => by rw [e3, subsS_mem h h0 h1]))
    · obtain ⟨g1, g2, g3⟩ := hI
      have hks := hsub k (mem_at hk)
      have hq := at_lt hk
      have hsl := subsS_len l k
      obtain ⟨r, e1, e2, e3, e4⟩ := ref_unionI (l := s) (m := subsS l k) (by omega) g1
      refine .inl ⟨r, ?_, e2, fun y => ?_, by omega⟩
      · unfold m_ref07_Subs_L1
        simp only [ha, Option.bind_some, at_dec hk, if_true, at_idx hk]
        rw [ih k hks.1 (by omega) (by omega)]
        simp only [Option.bind_some, e1, at_suc hk (by omega)]
      · rw [e3, g2, subsS_mem h hks.1 (by omega), take_suc hk]
        simp only [List.mem_append, List.mem_singleton, or_and_right, exists_or, exists_eq_left, or_assoc]
    · obtain ⟨g1, g2, g3⟩ := hI
      rw [List.take_length] at g2
      refine ⟨s, by unfold m_ref07_Subs_L1; simp [ha, len], g1, fun y => by rw [g2, SubOf.iff ha]⟩
theorem ref_Subs {l : List T_Argument} (h : FormA l) {i : Int} (h0 : 0 ≤ i) (h1 : i < l.length) : m_ref07_Subs l i = some (subsS l i) :=
  limM_of (i.toNat + 1) fun m hm => ref_Subs_k h m i h0 h1 (by omega)
structure FormB (b : T_Base) (l : List T_Argument) : Prop extends FormA l where
  np : b.1.length ≤ 100
  nr : b.2.1.length ≤ 100
  /-- a premise's index, or a rule's -/
  kind : ∀ (i : Nat) a, l[i]? = some a → (a.1 = (i : Int) ∧ i < b.1.length ∧ a.2.1 = -1) ∨ (a.1 = -1 ∧ 0 ≤ a.2.1 ∧ a.2.1 < b.2.1.length)
variable {b : T_Base} {l : List T_Argument}
theorem FormB.prem (h : FormB b l) {j : Int} {a : T_Argument} (hj : idx l j = some a) : (0 ≤ a.1 → a.1 = j ∧ (∃ p, idx b.1 a.1 = some p) ∧ a.2.1 = -1) ∧ (a.1 < 0 → ∃ r, idx b.2.1 a.2.1 = some r) ∧ (0 ≤ a.2.1 ↔ a.1 < 0) := by
  obtain ⟨n, rfl, hn⟩ := idx_at hj
  rcases h.kind n a hn with ⟨h1, h2, h3⟩ | ⟨h1, h2, h3⟩
  · exact ⟨fun _ => ⟨h1, idx_ok (by omega) (by omega), h3⟩, fun h => by omega, by omega⟩
  · exact ⟨fun h => by omega, fun _ => idx_ok h2 h3, by omega⟩
/-- the premises of an argument -/
noncomputable def premsS (l : List T_Argument) (i : Int) : List Int := (subsS l i).filter fun j => match idx l j with | some a => decide (0 ≤ a.1) | none => false
theorem premsS_asc (l : List T_Argument) (i : Int) : Asc ltI (premsS l i) := (subsS_asc l i).filter _
theorem premsS_len (l : List T_Argument) (i : Int) : (premsS l i).length ≤ l.length := Nat.le_trans (List.length_filter_le _ _) (subsS_len l i)
theorem subs_idx (h : FormA l) {i : Int} (h0 : 0 ≤ i) (h1 : i < l.length) {j : Int} (hj : j ∈ subsS l i) : ∃ a, idx l j = some a := by
  have := ((subsS_mem h h0 h1 j).1 hj).le h h0
  exact idx_ok this.1 (by omega)
theorem isort_asc {m : List Int} (h : Asc ltI m) : isort ltI m = m := by
  refine List.Perm.eq_of_pairwise (le := fun x y => ltI y x = false) (fun a c _ _ h1 h2 => ?_) (isort_sorted ord_ltI m) (h.imp fun h => by simp at h ⊢; omega) (isort_perm m)
  simp at h1 h2; omega
theorem prem_fold (h : FormB b l) {i : Int} (h0 : 0 ≤ i) (h1 : i < l.length) : ∀ (m acc : List Int), (∀ j ∈ m, j ∈ subsS l i) →
    m.foldl (fun s j => match idx l j with | some a => if decide (0 ≤ a.1) then s ++ [a.1] else s | none => s) acc = acc ++ m.filter fun j => match idx l j with | some a => decide (0 ≤ a.1) | none => false
  | [], acc, _ => by simp
  | j :: m, acc, hm => by
    obtain ⟨a, ha⟩ := subs_idx h.toFormA h0 h1 (hm j List.mem_cons_self)
    rw [List.foldl_cons, prem_fold h h0 h1 m _ fun q hq => hm q (List.mem_cons_of_mem _ hq), List.filter_cons]
    simp only [ha]
    by_cases hp : 0 ≤ a.1
    · have := (((h.prem ha).1 hp).1)
      rw [if_pos (by simpa using hp), if_pos (by simpa using hp), this]
      simp
    · simp [hp]
theorem arg_Premises (h : FormB b l) {i : Int} (h0 : 0 ≤ i) (h1 : i < l.length) : m_argument_Premises l i = some (premsS l i) := by
  have hl := h.len
  have hsl := subsS_len l i
  have hL := loop_fold (B := m_argument_Premises_L1 (subsS l i) l) (subsS l i) (fun s j => match idx l j with | some a => if decide (0 ≤ a.1) then s ++ [a.1] else s | none => s) (fun s => s) (fun q s => s.length ≤ q) [] (by simp) (fun q j s hj hI => ?_) (fun s hI => ?_)
  · unfold m_argument_Premises
    rw [arg_Subs h.toFormA h0 h1]
    simp only [Option.bind_some]
    rw [hL.1, prem_fold h h0 h1 _ _ fun j hj => hj]
    simp only [Option.bind_some, List.nil_append]
    show (m_slices_Sort_int (premsS l i)).bind _ = _
    have := premsS_len l i
    rw [sortI_int (by omega)]
    rw [isort_asc (premsS_asc l i)]
    rfl
  · obtain ⟨a, ha⟩ := subs_idx h.toFormA h0 h1 (mem_at hj)
    have hq := at_lt hj
    unfold m_argument_Premises_L1
    simp only [at_dec hj, if_true, at_idx hj, Option.bind_some, ha]
    by_cases hp : 0 ≤ a.1
    · simp only [hp, decide_true, if_true]
      rw [app_ok (by simp; omega)]
      exact ⟨by simp only [Option.bind_some, at_suc hj (by omega)], by simp; omega⟩
    · simp only [hp, decide_false, Bool.false_eq_true, if_false]
      exact ⟨by simp only [at_suc hj (by omega)], by omega⟩
  · unfold m_argument_Premises_L1
    simp [len]
theorem ref_Premises (h : FormB b l) {i : Int} (h0 : 0 ≤ i) (h1 : i < l.length) : m_ref07_Premises l i = some (premsS l i) := by
  have hl := h.len
  have hsl := subsS_len l i
  have hL := loop_forI (B := m_ref07_Premises_L1 (subsS l i) l) (fun q (s : List Int) => (s, (q : Int))) (subsS l i) (fun q s => Asc ltI s ∧ (∀ y, y ∈ s ↔ y ∈ (subsS l i).take q ∧ ∃ a, idx l y = some a ∧ 0 ≤ a.1) ∧ s.length ≤ q)
    (fun r => r = premsS l i) (fun q j s hj hI => ?_) (fun s hI => ?_) [] (by simp)
  · obtain ⟨r, e1, rfl⟩ := hL
    unfold m_ref07_Premises
    rw [ref_Subs h.toFormA h0 h1]
    exact e1
  · obtain ⟨g1, g2, g3⟩ := hI
    obtain ⟨a, ha⟩ := subs_idx h.toFormA h0 h1 (mem_at hj)
    have hq := at_lt hj
    unfold m_ref07_Premises_L1
    simp only [at_dec hj, if_true, at_idx hj, Option.bind_some, ha]
    by_cases hp : 0 ≤ a.1
    · have haj := ((h.prem ha).1 hp).1
      obtain ⟨r, e1, e2, e3, e4⟩ := ref_insertI (l := s) a.1 (by omega) g1
      simp only [hp, decide_true, if_true, e1, Option.bind_some]
      refine .inl ⟨r, by simp only [at_suc hj (by omega)], e2, fun y => ?_, by omega⟩
      rw [e3, g2, take_suc hj, haj]
      simp only [List.mem_append, List.mem_singleton]
      constructor
      · rintro (rfl | ⟨h1, h2⟩)
        · exact ⟨.inr rfl, a, ha, hp⟩
        · exact ⟨.inl h1, h2⟩
      · rintro ⟨h1 | rfl, h2⟩
        · exact .inr ⟨h1, h2⟩
        · exact .inl rfl
    · simp only [hp, decide_false, Bool.false_eq_true, if_false]
      refine .inl ⟨s, by simp only [at_suc hj (by omega)], g1, fun y => ?_, by omega⟩
      rw [g2, take_suc hj]
      simp only [List.mem_append, List.mem_singleton]
      constructor
      · rintro ⟨h1, h2⟩; exact ⟨.inl h1, h2⟩
      · rintro ⟨h1 | rfl, a', ha', hp'⟩
        · exact ⟨h1, a', ha', hp'⟩
        · rw [ha] at ha'; cases ha'; exact absurd hp' hp
  · obtain ⟨g1, g2, g3⟩ := hI
    rw [List.take_length] at g2
    refine ⟨s, by unfold m_ref07_Premises_L1; simp [len], Asc.ext ord_ltI g1 (premsS_asc l i) fun y => ?_⟩
    rw [g2]
    simp only [premsS, List.mem_filter]
    refine and_congr_right fun hy => ?_
    obtain ⟨a, ha⟩ := subs_idx h.toFormA h0 h1 hy
    simp [ha]
/-- the defeasible rules of an argument -/
abbrev isDef (b : T_Base) (a : T_Argument) : Bool := match idx b.2.1 a.2.1 with | some r => !r.2.1 | none => false
noncomputable def defsS (b : T_Base) (l : List T_Argument) (i : Int) : List Int := nrm ltI (((subsS l i).filter fun j => match idx l j with | some a => decide (0 ≤ a.2.1) && isDef b a | none => false).map fun j => match idx l j with | some a => a.2.1 | none => 0)
theorem defsS_mem (h : FormB b l) {i : Int} (h0 : 0 ≤ i) (h1 : i < l.length) (y : Int) : y ∈ defsS b l i ↔ ∃ j ∈ subsS l i, ∃ a, idx l j = some a ∧ 0 ≤ a.2.1 ∧ isDef b a = true ∧ y = a.2.1 := by
  rw [defsS, nrm_mem]
  simp only [List.mem_map, List.mem_filter]
  constructor
  · rintro ⟨j, ⟨h2, h3⟩, h4⟩
    obtain ⟨a, ha⟩ := subs_idx h.toFormA h0 h1 h2
    simp only [ha, Bool.and_eq_true, decide_eq_true_eq] at h3 h4
    exact ⟨j, h2, a, ha, h3.1, h3.2, h4.symm⟩
  · rintro ⟨j, h2, a, ha, h3, h4, rfl⟩
    exact ⟨j, ⟨h2, by simp only [ha, Bool.and_eq_true, decide_eq_true_eq]; exact ⟨h3, h4⟩⟩, by simp only [ha]⟩
theorem defsS_len (b : T_Base) (l : List T_Argument) (i : Int) : (defsS b l i).length ≤ l.length := by
  refine Nat.le_trans (nrm_len ltI _) ?_
  rw [List.length_map]
  exact Nat.le_trans (List.length_filter_le _ _) (subsS_len l i)
theorem arg_Defeasible (h : FormB b l) {i : Int} (h0 : 0 ≤ i) (h1 : i < l.length) : m_argument_Defeasible b l i = some (defsS b l i) := by
  have hl := h.len
  have hsl := subsS_len l i
  have hL := loop_forI (B := m_argument_Defeasible_L1 (subsS l i) l b) (fun q (s : List Int) => (s, (q : Int))) (subsS l i) (fun q s => s = (((subsS l i).take q).filter fun j => match idx l j with | some a => decide (0 ≤ a.2.1) && isDef b a | none => false).map (fun j => match idx l j with | some a => a.2.1 | none => 0) ∧ s.length ≤ q)
    (fun r => r = ((subsS l i).filter fun j => match idx l j with | some a => decide (0 ≤ a.2.1) && isDef b a | none => false).map fun j => match idx l j with | some a => a.2.1 | none => 0) (fun q j s hj hI => ?_) (fun s hI => ?_) [] (by simp)
  · obtain ⟨r, e1, rfl⟩ := hL
    unfold m_argument_Defeasible
    rw [arg_Subs h.toFormA h0 h1]
    simp only [Option.bind_some]
    refine (congrArg (fun o => Option.bind o _) e1).trans ?_
    simp only [Option.bind_some]
    refine (sortcomp ?_ some).trans rfl
    rw [List.length_map]
    have := List.length_filter_le (fun j => match idx l j with | some a => decide (0 ≤ a.2.1) && isDef b a | none => false) (subsS l i)
    omega
  · obtain ⟨g1, g3⟩ := hI
    obtain ⟨a, ha⟩ := subs_idx h.toFormA h0 h1 (mem_at hj)
    have hq := at_lt hj
    have hc : (if decide (0 ≤ a.2.1) = true then (idx b.2.1 a.2.1).bind fun x3 => some (!x3.2.1) else some false) = some (decide (0 ≤ a.2.1) && isDef b a) := by
      by_cases hr : 0 ≤ a.2.1
      · obtain ⟨r, hr2⟩ := (h.prem ha).2.1 ((h.prem ha).2.2.1 hr)
        simp [hr, isDef, hr2]
      · simp [hr]
    unfold m_argument_Defeasible_L1
    simp only [at_dec hj, if_true, at_idx hj, Option.bind_some, ha, hc]
    cases hd : (decide (0 ≤ a.2.1) && isDef b a) with
    | true =>
      simp only [if_true]
      rw [app_ok (by simp; omega)]
      refine .inl ⟨s ++ [a.2.1], by simp only [Option.bind_some, at_suc hj (by omega)], ?_, by simp; omega⟩
      rw [take_suc hj, List.filter_append, List.map_append, ← g1]
      simp [ha, hd]
    | false =>
      simp only [Bool.false_eq_true, if_false]
      refine .inl ⟨s, by simp only [at_suc hj (by omega)], ?_, by omega⟩
      rw [take_suc hj, List.filter_append, List.map_append, ← g1]
      simp [ha, hd]
  · obtain ⟨g1, g3⟩ := hI
    rw [List.take_length] at g1
    exact ⟨s, by unfold m_argument_Defeasible_L1; simp [len], g1⟩
theorem ref_Defeasible (h : FormB b l) {i : Int} (h0 : 0 ≤ i) (h1 : i < l.length) : m_ref07_Defeasible b l i = some (defsS b l i) := by
  have hl := h.len
  have hsl := subsS_len l i
  have hL := loop_forI (B := m_ref07_Defeasible_L1 (subsS l i) l b) (fun q (s : List Int) => (s, (q : Int))) (subsS l i) (fun q s => Asc ltI s ∧ (∀ y, y ∈ s ↔ ∃ j ∈ (subsS l i).take q, ∃ a, idx l j = some a ∧ 0 ≤ a.2.1 ∧ isDef b a = true ∧ y = a.2.1) ∧ s.length ≤ q)
    (fun r => r = defsS b l i) (fun q j s hj hI => ?_) (fun s hI => ?_) [] (by simp)
  · obtain ⟨r, e1, rfl⟩ := hL
    unfold m_ref07_Defeasible
    rw [ref_Subs h.toFormA h0 h1]
    exact e1
  · obtain ⟨g1, g2, g3⟩ := hI
    obtain ⟨a, ha⟩ := subs_idx h.toFormA h0 h1 (mem_at hj)
    have hq := at_lt hj
    have hc : (if decide (0 ≤ a.2.1) = true then (idx b.2.1 a.2.1).bind fun x3 => some (!x3.2.1) else some false) = some (decide (0 ≤ a.2.1) && isDef b a) := by
      by_cases hr : 0 ≤ a.2.1
      · obtain ⟨r, hr2⟩ := (h.prem ha).2.1 ((h.prem ha).2.2.1 hr)
        simp [hr, isDef, hr2]
      · simp [hr]
    unfold m_ref07_Defeasible_L1
    simp only [at_dec hj, if_true, at_idx hj, Option.bind_some, ha, hc]
    cases hd : (decide (0 ≤ a.2.1) && isDef b a) with
    | true =>
      obtain ⟨r, e1, e2, e3, e4⟩ := ref_insertI (l := s) a.2.1 (by omega) g1
      simp only [if_true, e1, Option.bind_some]
      simp only [Bool.and_eq_true, decide_eq_true_eq] at hd
      refine .inl ⟨r, by simp only [at_suc hj (by omega)], e2, fun y => ?_, by omega⟩
      rw [e3, g2, take_suc hj]
      simp only [List.mem_append, List.mem_singleton, or_and_right, exists_or, exists_eq_left]
      rw [or_comm]
      refine or_congr Iff.rfl ⟨fun h => ⟨a, ha, hd.1, hd.2, h⟩, fun ⟨a', h1, _, _, h2⟩ => ?_⟩
      rw [ha] at h1; cases h1; exact h2
    | false =>
      simp only [Bool.false_eq_true, if_false]
      refine .inl ⟨s, by simp only [at_suc hj (by omega)], g1, fun y => ?_, by omega⟩
      rw [g2, take_suc hj]
      simp only [List.mem_append, List.mem_singleton, or_and_right, exists_or, exists_eq_left]
      refine ⟨.inl, fun h => h.elim (fun h => h) fun ⟨a', h1, h2, h3, _⟩ => ?_⟩
      rw [ha] at h1; cases h1
      simp [h2, h3] at hd
  · obtain ⟨g1, g2, g3⟩ := hI
    rw [List.take_length] at g2
    refine ⟨s, by unfold m_ref07_Defeasible_L1; simp [len], Asc.ext ord_ltI g1 (nrm_asc _) fun y => ?_⟩
    rw [g2]
    exact (defsS_mem h h0 h1 y).symm
inductive LastOf (b : T_Base) (l : List T_Argument) : Int → Int → Prop
  | here {i : Int} {a : T_Argument} {r : T_Rule} : idx l i = some a → 0 ≤ a.2.1 → idx b.2.1 a.2.1 = some r → r.2.1 = false → LastOf b l i a.2.1
  | step {i k y : Int} {a : T_Argument} {r : T_Rule} : idx l i = some a → 0 ≤ a.2.1 → idx b.2.1 a.2.1 = some r → r.2.1 = true → k ∈ a.2.2.1 → LastOf b l k y → LastOf b l i y
theorem LastOf.rng (h : FormB b l) {i y : Int} (hs : LastOf b l i y) : 0 ≤ y ∧ y < b.2.1.length := by
  induction hs with
  | here h1 h2 h3 h4 => obtain ⟨n, hn, h5⟩ := idx_at h3; have := at_lt h5; omega
  | step _ _ _ _ _ _ ih => exact ih
open Classical in
noncomputable def lastS (b : T_Base) (l : List T_Argument) (i : Int) : List Int := ((List.range b.2.1.length).map Int.ofNat).filter fun y => decide (LastOf b l i y)
theorem lastS_asc (b : T_Base) (l : List T_Argument) (i : Int) : Asc ltI (lastS b l i) := by
  refine List.Pairwise.filter _ ?_
  rw [List.pairwise_map]
  exact List.pairwise_lt_range.imp fun {a b} h => by simp; omega
theorem lastS_len (b : T_Base) (l : List T_Argument) (i : Int) : (lastS b l i).length ≤ b.2.1.length := Nat.le_trans (List.length_filter_le _ _) (by simp)
theorem lastS_mem (h : FormB b l) (i y : Int) : y ∈ lastS b l i ↔ LastOf b l i y := by
  simp only [lastS, List.mem_filter, List.mem_map, List.mem_range, decide_eq_true_eq]
  exact ⟨fun h => h.2, fun hs => by have := hs.rng h; exact ⟨⟨y.toNat, by omega, by simp; omega⟩, hs⟩⟩
theorem last_none {i : Int} {a : T_Argument} (ha : idx l i = some a) (hr : a.2.1 < 0) : lastS b l i = [] := by
  simp only [lastS, List.filter_eq_nil_iff, decide_eq_true_eq]
  intro y _ hy
  cases hy with
  | here h1 h2 _ _ => rw [ha] at h1; cases h1; omega
  | step h1 h2 _ _ _ _ => rw [ha] at h1; cases h1; omega
theorem last_one (h : FormB b l) {i : Int} {a : T_Argument} {r : T_Rule} (ha : idx l i = some a) (h0 : 0 ≤ a.2.1) (hr : idx b.2.1 a.2.1 = some r) (hs : r.2.1 = false) : lastS b l i = [a.2.1] := by
  refine Asc.ext ord_ltI (lastS_asc b l i) (by simp) fun y => ?_
  rw [lastS_mem h, List.mem_singleton]
  constructor
  · intro hy
    cases hy with
    | here h1 _ _ _ => rw [ha] at h1; cases h1; rfl
    | step h1 _ h3 h4 _ _ => rw [ha] at h1; cases h1; rw [hr] at h3; cases h3; rw [hs] at h4; cases h4
  · rintro rfl; exact .here ha h0 hr hs
theorem last_more {i y : Int} {a : T_Argument} {r : T_Rule} (ha : idx l i = some a) (h0 : 0 ≤ a.2.1) (hr : idx b.2.1 a.2.1 = some r) (hs : r.2.1 = true) : LastOf b l i y ↔ ∃ k ∈ a.2.2.1, LastOf b l k y := by
  constructor
  · intro hy
    cases hy with
    | here h1 _ h3 h4 => rw [ha] at h1; cases h1; rw [hr] at h3; cases h3; rw [hs] at h4; cases h4
    | step h1 _ _ _ h5 h6 => rw [ha] at h1; cases h1; exact ⟨_, h5, h6⟩
  · rintro ⟨k, h1, h2⟩; exact .step ha h0 hr hs h1 h2
theorem arg_Last_k (h : FormB b l) : ∀ (n : Nat) (i : Int), 0 ≤ i → i < l.length → i < n → k_argument_Last n b l i = some (lastS b l i) := by
  intro n
  induction n with
  | zero => intro i h0 _ h2; omega
  | succ n ih =>
    intro i h0 h1 h2
    obtain ⟨a, ha⟩ := idx_ok h0 h1
    obtain ⟨hn, _, _, hsub⟩ := h.toFormA.at ha
    have hin : (decide (0 ≤ i) && decide (i < len l)) = true := by simp [len]; omega
    show F_argument_Last (k_argument_Last n) b l i = _
    unfold F_argument_Last m_argument_inside
    simp only [hin, Option.bind_some, Bool.not_true, Bool.false_eq_true, if_false, ha]
    by_cases hr : a.2.1 < 0
    · simp only [hr, decide_true, if_true]
      rw [last_none ha hr]
    · simp only [hr, decide_false, Bool.false_eq_true, if_false]
      obtain ⟨r, hr2⟩ := (h.prem ha).2.1 ((h.prem ha).2.2.1 (by omega))
      simp only [hr2, Option.bind_some]
      cases hs : r.2.1 with
      | false =>
        simp only [Bool.not_false, if_true]
        rw [last_one h ha (by omega) hr2 hs]
      | true =>
        simp only [Bool.not_true, Bool.false_eq_true, if_false]
        have hnr := h.nr
        have hL := loop_fold (B := m_argument_Last_L1 a (k_argument_Last n) b l) a.2.2.1 (fun s k => s ++ lastS b l k) (fun s => s) (fun q s => s.length ≤ q * 100) [] (by simp) (fun q k s hk hI => ?_) (fun s hI => ?_)
        · obtain ⟨e1, e2⟩ := hL
          rw [foldl_app_flat] at e1 e2
          rw [e1]
          simp only [Option.bind_some]
          refine (sortcomp (by omega) some).trans ?_
          congr 1
          refine nrm_eq ord_ltI (lastS_asc b l i) fun y => ?_
          rw [lastS_mem h, last_more ha (by omega) hr2 hs]
          simp only [List.nil_append, List.mem_flatMap, lastS_mem h]
        · have hks := hsub k (mem_at hk)
          have hq := at_lt hk
          have hsl := lastS_len b l k
          unfold m_argument_Last_L1
          simp only [at_dec hk, if_true, at_idx hk, Option.bind_some]
          rw [ih k hks.1 (by omega) (by omega)]
          simp only [Option.bind_some]
          rw [app_ok (by omega)]
          refine ⟨by simp only [Option.bind_some, at_suc hk (by omega)], by rw [List.length_append]; omega⟩
        · unfold m_argument_Last_L1
          simp [len]
theorem arg_Last (h : FormB b l) {i : Int} (h0 : 0 ≤ i) (h1 : i < l.length) : m_argument_Last b l i = some (lastS b l i) :=
  limM_of (i.toNat + 1) fun m hm => arg_Last_k h m i h0 h1 (by omega)
theorem ref_Last_k (h : FormB b l) : ∀ (n : Nat) (i : Int), 0 ≤ i → i < l.length → i < n → k_ref07_Last n b l i = some (lastS b l i) := by
  intro n
  induction n with
  | zero => intro i h0 _ h2; omega
  | succ n ih =>
    intro i h0 h1 h2
    obtain ⟨a, ha⟩ := idx_ok h0 h1
    obtain ⟨hn, _, _, hsub⟩ := h.toFormA.at ha
    have hi0 : ¬ i < 0 := by omega
    have hi1 : ¬ len l ≤ i := by simp [len]; omega
    show F_ref07_Last (k_ref07_Last n) b l i = _
    unfold F_ref07_Last
    simp only [hi0, hi1, decide_false, Option.bind_some, Bool.false_eq_true, if_false, ha]
    by_cases hr : a.2.1 < 0
    · simp only [hr, decide_true, if_true]
      rw [last_none ha hr]
    · simp only [hr, decide_false, Bool.false_eq_true, if_false]
      obtain ⟨r, hr2⟩ := (h.prem ha).2.1 ((h.prem ha).2.2.1 (by omega))
      simp only [hr2, Option.bind_some]
      cases hs : r.2.1 with
      | false =>
        simp only [Bool.not_false, if_true]
        rw [last_one h ha (by omega) hr2 hs]
      | true =>
        simp only [Bool.not_true, Bool.false_eq_true, if_false]
        have hnr := h.nr
        have hL := loop_forI (B := m_ref07_Last_L1 l i (k_ref07_Last n) b) (fun q (s : List Int) => (s, (q : Int))) a.2.2.1 (fun q s => Asc ltI s ∧ (∀ y, y ∈ s ↔ ∃ k ∈ a.2.2.1.take q, LastOf b l k y) ∧ s.length ≤ q * 100)
          (fun r => Asc ltI r ∧ ∀ y, y ∈ r ↔ LastOf b l i y) (fun q k s hk hI => ?_) (fun s hI => ?_) [] (by simp)
        · obtain ⟨r', e1, e2, e3⟩ := hL
          exact e1.trans (congrArg some (Asc.ext ord_ltI e2 (lastS_asc b l i) fun j => by rw [e3, lastS_mem h]))
        · obtain ⟨g1, g2, g3⟩ := hI
          have hks := hsub k (mem_at hk)
          have hq := at_lt hk
          have hsl := lastS_len b l k
          obtain ⟨r', e1, e2, e3, e4⟩ := ref_unionI (l := s) (m := lastS b l k) (by omega) g1
          refine .inl ⟨r', ?_, e2, fun y => ?_, by omega⟩
          · unfold m_ref07_Last_L1
            simp only [ha, Option.bind_some, at_dec hk, if_true, at_idx hk]
            rw [ih k hks.1 (by omega) (by omega)]
            simp only [Option.bind_some, e1, at_suc hk (by omega)]
          · rw [e3, g2, lastS_mem h, take_suc hk]
            simp only [List.mem_append, List.mem_singleton, or_and_right, exists_or, exists_eq_left]
        · obtain ⟨g1, g2, g3⟩ := hI
          rw [List.take_length] at g2
          refine ⟨s, by unfold m_ref07_Last_L1; simp [ha, len], g1, fun y => by rw [g2, last_more ha (by omega) hr2 hs]⟩
theorem ref_Last (h : FormB b l) {i : Int} (h0 : 0 ≤ i) (h1 : i < l.length) : m_ref07_Last b l i = some (lastS b l i) :=
  limM_of (i.toNat + 1) fun m hm => ref_Last_k h m i h0 h1 (by omega)
end
section
def minF : List Int → Int
  | [] => 0
  | x :: r => r.foldl (fun m y => if y < m then y else m) x
def maxF : List Int → Int
  | [] => 0
  | x :: r => r.foldl (fun m y => if y > m then y else m) x
def setLess (x y : List Int) (o : Int) : Bool := (o == 1 || o == 2) && !x.isEmpty && (y.isEmpty || if o == 1 then decide (minF x < minF y) else decide (maxF x < maxF y))
theorem slices_Min {l : List Int} (h : l ≠ []) (hl : l.length < 4294967296) : m_slices_Min_int l = some (minF l) := by
  match l, h with
  | x :: r, _ =>
    have h1 : decide (len (x :: r) < 1) = false := by simp [len]; omega
    unfold m_slices_Min_int
    simp only [h1, Bool.false_eq_true, if_false, Option.bind_some, show idx (x :: r) 0 = some x from rfl]
    refine loop_foldK (B := m_slices_Min_int_L1 (x :: r)) (x :: r) (fun m y => if y < m then y else m) (fun m => m) 1 (by simp) x (fun i y s hy => ?_) (fun s => ?_)
    · unfold m_slices_Min_int_L1
      simp only [at_dec hy, if_true, at_idx hy, Option.bind_some, at_suc hy hl]
    · unfold m_slices_Min_int_L1
      simp only [end_dec, Bool.false_eq_true, if_false]
theorem slices_Max {l : List Int} (h : l ≠ []) (hl : l.length < 4294967296) : m_slices_Max_int l = some (maxF l) := by
  match l, h with
  | x :: r, _ =>
    have h1 : decide (len (x :: r) < 1) = false := by simp [len]; omega
    unfold m_slices_Max_int
    simp only [h1, Bool.false_eq_true, if_false, Option.bind_some, show idx (x :: r) 0 = some x from rfl]
    refine loop_foldK (B := m_slices_Max_int_L1 (x :: r)) (x :: r) (fun m y => if y > m then y else m) (fun m => m) 1 (by simp) x (fun i y s hy => ?_) (fun s => ?_)
    · unfold m_slices_Max_int_L1
      simp only [at_dec hy, if_true, at_idx hy, Option.bind_some, at_suc hy hl]
    · unfold m_slices_Max_int_L1
      simp only [end_dec, Bool.false_eq_true, if_false]
theorem ref_extremes {l : List Int} (h : l ≠ []) (hl : l.length < 4294967296) : m_ref08_extremes l = some (minF l, maxF l) := by
  match l, h with
  | x :: r, _ =>
    unfold m_ref08_extremes
    simp only [Option.bind_some, show idx (x :: r) 0 = some x from rfl]
    have key : ∀ (n i : Nat) (a b : Int), i + n = (x :: r).length → loop (m_ref08_extremes_L1 (x :: r)) (a, b, (i : Int)) = some (((x :: r).drop i).foldl (fun m y => if y < m then y else m) a, ((x :: r).drop i).foldl (fun m y => if y > m then y else m) b) := by
      intro n
      induction n with
      | zero =>
        intro i a b h
        rw [Nat.add_zero] at h
        subst h
        rw [loop_eq]
        unfold m_ref08_extremes_L1
        simp only [end_dec, Bool.false_eq_true, if_false, List.drop_length]
        rfl
      | succ n ih =>
        intro i a b h
        have hx : (x :: r)[i]? = some (x :: r)[i] := List.getElem?_eq_getElem (by omega)
        rw [loop_eq]
        unfold m_ref08_extremes_L1
        simp only [at_dec hx, if_true, at_idx hx, Option.bind_some, at_suc hx hl]
        rw [List.drop_eq_getElem_cons (by omega)]
        exact ih (i + 1) _ _ (by omega)
    exact key r.length 1 x x (by simp; omega)
theorem len0 {α : Type} (l : List α) : ((len l) == 0) = l.isEmpty := by
  cases l with
  | nil => rfl
  | cons x r => rw [beq_eq_false_iff_ne.2 (by simp [len]; omega)]; rfl
theorem isE {α : Type} {l : List α} (h : l.isEmpty = false) : l ≠ [] := fun e => by subst e; cases h
theorem lift_SetLess {x y : List Int} (o : Int) (hx : x.length < 4294967296) (hy : y.length < 4294967296) : m_lift_SetLess x y o = some (setLess x y o) := by
  unfold m_lift_SetLess setLess
  simp only [len0]
  cases hxe : x.isEmpty with
  | true => simp
  | false =>
    by_cases h1 : o = 1
    · subst h1
      cases hye : y.isEmpty with
      | true => simp
      | false => simp [slices_Min (isE hxe) hx, slices_Min (isE hye) hy]
    · by_cases h2 : o = 2
      · subst h2
        cases hye : y.isEmpty with
        | true => simp
        | false => simp [slices_Max (isE hxe) hx, slices_Max (isE hye) hy]
      · simp [h1, h2]
theorem ref_SetLess {x y : List Int} (o : Int) (hx : x.length < 4294967296) (hy : y.length < 4294967296) : m_ref08_SetLess x y o = some (setLess x y o) := by
  unfold m_ref08_SetLess setLess
  simp only [len0]
  cases hxe : x.isEmpty with
  | true => simp
  | false =>
    by_cases h1 : o = 1
    · subst h1
      cases hye : y.isEmpty with
      | true => simp
      | false => simp [ref_extremes (isE hxe) hx, ref_extremes (isE hye) hy]
    · by_cases h2 : o = 2
      · subst h2
        cases hye : y.isEmpty with
        | true => simp
        | false => simp [ref_extremes (isE hxe) hx, ref_extremes (isE hye) hy]
      · simp [h1, h2]
variable {b : T_Base} {l : List T_Argument}
theorem prems_idx (h : FormB b l) {i : Int} (h0 : 0 ≤ i) (h1 : i < l.length) {p : Int} (hp : p ∈ premsS l i) : ∃ q, idx b.1 p = some q := by
  obtain ⟨h2, h3⟩ := List.mem_filter.1 hp
  obtain ⟨a, ha⟩ := subs_idx h.toFormA h0 h1 h2
  simp only [ha, decide_eq_true_eq] at h3
  obtain ⟨e1, ⟨q, e2⟩, _⟩ := (h.prem ha).1 h3
  exact ⟨q, by rw [← e1]; exact e2⟩
theorem defs_idx (h : FormB b l) {i : Int} (h0 : 0 ≤ i) (h1 : i < l.length) {y : Int} (hy : y ∈ defsS b l i) : ∃ q, idx b.2.1 y = some q := by
  obtain ⟨j, _, a, ha, h3, _, rfl⟩ := (defsS_mem h h0 h1 y).1 hy
  exact (h.prem ha).2.1 ((h.prem ha).2.2.1 h3)
theorem last_idx (h : FormB b l) {i y : Int} (hy : y ∈ lastS b l i) : ∃ q, idx b.2.1 y = some q := by
  have := ((lastS_mem h i y).1 hy).rng h
  exact idx_ok this.1 this.2
def kindIs (b : T_Base) (k p : Int) : Bool := match idx b.1 p with | some q => q.2.1 == k | none => false
noncomputable def assumesS (b : T_Base) (l : List T_Argument) (i : Int) : Bool := (premsS l i).any (kindIs b 3)
def premRank (b : T_Base) (p : Int) : List Int := match idx b.1 p with | some q => if q.2.1 == 2 then [q.2.2.1] else if q.2.1 == 3 then [-1] else [] | none => []
noncomputable def premRanksS (b : T_Base) (l : List T_Argument) (i : Int) : List Int := (premsS l i).flatMap (premRank b)
def rankOf (b : T_Base) (y : Int) : Int := match idx b.2.1 y with | some q => q.2.2.1 | none => 0
abbrev ranksS (b : T_Base) (rs : List Int) : List Int := rs.map (rankOf b)
theorem lift_ranks {rs : List Int} (hl : rs.length < 4294967296) (h : ∀ y ∈ rs, ∃ q, idx b.2.1 y = some q) : m_lift_ranks b rs = some (ranksS b rs) := by
  have hL := loop_fold (B := m_lift_ranks_L1 rs b) rs (fun s y => s ++ [rankOf b y]) (fun s => s) (fun q s => s.length = q) [] rfl (fun i y s hy hI => ?_) (fun s hI => ?_)
  · obtain ⟨e1, _⟩ := hL
    rw [foldl_app_map] at e1
    exact e1
  · obtain ⟨q, hq⟩ := h y (mem_at hy)
    have := at_lt hy
    unfold m_lift_ranks_L1
    simp only [at_dec hy, if_true, at_idx hy, Option.bind_some, hq]
    rw [app_ok (by simp; omega)]
    exact ⟨by simp only [Option.bind_some, at_suc hy hl, rankOf, hq], by simp; omega⟩
  · unfold m_lift_ranks_L1
    simp [len]
theorem ref_LastRanks (h : FormB b l) {i : Int} (h0 : 0 ≤ i) (h1 : i < l.length) : m_ref08_LastRanks b l i = some (ranksS b (lastS b l i)) := by
  have hll := lastS_len b l i
  have hnr := h.nr
  unfold m_ref08_LastRanks
  rw [ref_Last h h0 h1]
  exact lift_ranks (by omega) fun y hy => last_idx h hy
theorem lift_LastRanks (h : FormB b l) {i : Int} (h0 : 0 ≤ i) (h1 : i < l.length) : m_lift_LastRanks b l i = some (ranksS b (lastS b l i)) := by
  have hll := lastS_len b l i
  have hnr := h.nr
  unfold m_lift_LastRanks
  rw [arg_Last h h0 h1]
  simp only [Option.bind_some, lift_ranks (show (lastS b l i).length < 4294967296 by omega) fun y hy => last_idx h hy]
theorem ref_RuleRanks (h : FormB b l) {i : Int} (h0 : 0 ≤ i) (h1 : i < l.length) : m_ref08_RuleRanks b l i = some (ranksS b (defsS b l i)) := by
  have hll := defsS_len b l i
  have hnr := h.len
  unfold m_ref08_RuleRanks
  rw [ref_Defeasible h h0 h1]
  exact lift_ranks (by omega) fun y hy => defs_idx h h0 h1 hy
theorem lift_RuleRanks (h : FormB b l) {i : Int} (h0 : 0 ≤ i) (h1 : i < l.length) : m_lift_RuleRanks b l i = some (ranksS b (defsS b l i)) := by
  have hll := defsS_len b l i
  have hnr := h.len
  unfold m_lift_RuleRanks
  rw [arg_Defeasible h h0 h1]
  simp only [Option.bind_some, lift_ranks (show (defsS b l i).length < 4294967296 by omega) fun y hy => defs_idx h h0 h1 hy]
theorem premRank_len (b : T_Base) (p : Int) : (premRank b p).length ≤ 1 := by
  unfold premRank
  split
  · split
    · simp
    · split <;> simp
  · simp
theorem lift_PremiseRanks (h : FormB b l) {i : Int} (h0 : 0 ≤ i) (h1 : i < l.length) : m_lift_PremiseRanks b l i = some (premRanksS b l i) := by
  have hpl := premsS_len l i
  have hl := h.len
  have hL := loop_fold (B := m_lift_PremiseRanks_L1 (premsS l i) b) (premsS l i) (fun s p => s ++ premRank b p) (fun s => s) (fun q s => s.length ≤ q) [] (by simp) (fun j p s hp hI => ?_) (fun s hI => ?_)
  · obtain ⟨e1, _⟩ := hL
    rw [foldl_app_flat] at e1
    unfold m_lift_PremiseRanks
    rw [arg_Premises h h0 h1]
    exact e1
  · obtain ⟨q, hq⟩ := prems_idx h h0 h1 (mem_at hp)
    have := at_lt hp
    have hpr := premRank_len b p
    unfold m_lift_PremiseRanks_L1
    simp only [at_dec hp, if_true, at_idx hp, Option.bind_some, hq]
    refine ⟨?_, by rw [List.length_append]; omega⟩
    unfold premRank
    simp only [hq]
    cases hk2 : q.2.1 == 2 with
    | true =>
      simp only [if_true]
      rw [app_ok (by simp; omega)]
      simp only [Option.bind_some, at_suc hp (by omega)]
    | false =>
      cases hk3 : q.2.1 == 3 with
      | true =>
        simp only [Bool.false_eq_true, if_false, if_true]
        rw [app_ok (by simp; omega)]
        simp only [Option.bind_some, at_suc hp (by omega)]
      | false => simp only [Bool.false_eq_true, if_false, List.append_nil, at_suc hp (by omega)]
  · unfold m_lift_PremiseRanks_L1
    simp [len]
theorem ref_PremiseRanks (h : FormB b l) {i : Int} (h0 : 0 ≤ i) (h1 : i < l.length) : m_ref08_PremiseRanks b l i = some (premRanksS b l i) := by
  have e := lift_PremiseRanks h h0 h1
  unfold m_lift_PremiseRanks at e
  unfold m_ref08_PremiseRanks
  rw [arg_Premises h h0 h1] at e
  rw [ref_Premises h h0 h1]
  simp only [Option.bind_some] at e ⊢
  rw [← e]
  congr 1
  funext s
  unfold m_ref08_PremiseRanks_L1 m_lift_PremiseRanks_L1
  split
  · cases h2 : idx (premsS l i) s.2 with
    | none => rfl
    | some p =>
      simp only [Option.bind_some]
      cases h3 : idx b.1 p with
      | none => rfl
      | some q => rfl
  · rfl
theorem lift_Assumes (h : FormB b l) {i : Int} (h0 : 0 ≤ i) (h1 : i < l.length) : m_lift_Assumes b l i = some (assumesS b l i) := by
  have hpl := premsS_len l i
  have hl := h.len
  have key : ∃ r, loop (m_slices_IndexFunc_int__lift_Assumes_1_L1 (premsS l i) b) 0 = some r ∧ decide (0 ≤ r) = assumesS b l i := by
    have hc : ∀ p ∈ premsS l i, m_lift_Assumes_1 p b = some (kindIs b 3 p) := fun p hp => by
      obtain ⟨q, hq⟩ := prems_idx h h0 h1 hp
      simp [m_lift_Assumes_1, kindIs, hq]
    have hL := loop_forI (B := m_slices_IndexFunc_int__lift_Assumes_1_L1 (premsS l i) b) (fun q (_ : Unit) => (q : Int)) (premsS l i) (fun q _ => ∀ j x, j < q → (premsS l i)[j]? = some x → kindIs b 3 x = false) (fun r => decide (0 ≤ r) = assumesS b l i) ?_ ?_ () (by omega)
    · exact hL
    · intro q p s hp hI
      unfold m_slices_IndexFunc_int__lift_Assumes_1_L1
      simp only [at_dec hp, if_true, at_idx hp, Option.bind_some, hc p (mem_at hp)]
      cases hk : kindIs b 3 p with
      | true =>
        refine .inr ⟨_, by simp only [if_true]; rfl, ?_⟩
        have : assumesS b l i = true := List.any_eq_true.2 ⟨p, mem_at hp, hk⟩
        rw [this]; simp
      | false =>
        refine .inl ⟨(), by simp only [Bool.false_eq_true, if_false, at_suc hp (by omega)], fun j x hj hx => ?_⟩
        rcases Nat.lt_succ_iff_lt_or_eq.1 hj with h | rfl
        · exact hI j x h hx
        · rw [hp] at hx; cases hx; exact hk
    · intro s hI
      unfold m_slices_IndexFunc_int__lift_Assumes_1_L1
      refine ⟨-1, by simp only [end_dec, Bool.false_eq_true, if_false], ?_⟩
      have : assumesS b l i = false := by
        rw [assumesS, List.any_eq_false]
        intro p hp
        obtain ⟨j, hj⟩ := List.mem_iff_getElem?.1 hp
        simp [hI j p (at_lt hj) hj]
      rw [this]; rfl
  obtain ⟨r, h2, h3⟩ := key
  unfold m_lift_Assumes m_slices_ContainsFunc_int__lift_Assumes_1 m_slices_IndexFunc_int__lift_Assumes_1
  rw [arg_Premises h h0 h1]
  simp only [Option.bind_some, h2, h3]
theorem ref_Assumes (h : FormB b l) {i : Int} (h0 : 0 ≤ i) (h1 : i < l.length) : m_ref08_Assumes b l i = some (assumesS b l i) := by
  have hpl := premsS_len l i
  have hl := h.len
  unfold m_ref08_Assumes
  rw [ref_Premises h h0 h1]
  simp only [Option.bind_some]
  refine loop_any (B := m_ref08_Assumes_L1 (premsS l i) b) (premsS l i) (kindIs b 3) (fun q p hp => ?_) ?_
  · obtain ⟨r, hr⟩ := prems_idx h h0 h1 (mem_at hp)
    unfold m_ref08_Assumes_L1
    simp only [at_dec hp, if_true, at_idx hp, Option.bind_some, hr, kindIs, at_suc hp (by omega)]
    split <;> rfl
  · unfold m_ref08_Assumes_L1
    simp only [end_dec, Bool.false_eq_true, if_false]
noncomputable def lessS (b : T_Base) (l : List T_Argument) (i k : Int) (o : T_Ordering) : Bool :=
  decide (0 ≤ i) && decide (i < l.length) && decide (0 ≤ k) && decide (k < l.length) && !assumesS b l k &&
  let pr := setLess (premRanksS b l i) (premRanksS b l k) o.2
  if o.1 == 1 then setLess (ranksS b (lastS b l i)) (ranksS b (lastS b l k)) o.2 || ((lastS b l i).isEmpty && (lastS b l k).isEmpty && pr)
  else if o.1 == 2 then
    if (defsS b l i).isEmpty && (defsS b l k).isEmpty then pr
    else if (premRanksS b l i).isEmpty && (premRanksS b l k).isEmpty then setLess (ranksS b (defsS b l i)) (ranksS b (defsS b l k)) o.2
    else pr && setLess (ranksS b (defsS b l i)) (ranksS b (defsS b l k)) o.2
  else false
theorem premRanks_len (b : T_Base) (l : List T_Argument) (i : Int) : (premRanksS b l i).length ≤ l.length := by
  have key : ∀ m : List Int, (m.flatMap (premRank b)).length ≤ m.length := by
    intro m
    induction m with
    | nil => simp
    | cons x m ih => have := premRank_len b x; simp only [List.flatMap_cons, List.length_append, List.length_cons]; omega
  exact Nat.le_trans (key _) (premsS_len l i)
theorem map_isEmpty {α β : Type} (f : α → β) (l : List α) : (l.map f).isEmpty = l.isEmpty := by cases l <;> rfl
theorem lift_Less (h : FormB b l) (i k : Int) (o : T_Ordering) : m_lift_Less b l i k o = some (lessS b l i k o) := by
  have hl := h.len
  have hnr := h.nr
  unfold m_lift_Less
  by_cases hr : 0 ≤ i ∧ i < l.length ∧ 0 ≤ k ∧ k < l.length
  · obtain ⟨i0, i1, k0, k1⟩ := hr
    have c1 : decide ((if k < i then k else i) < 0) = false := by simp; split <;> omega
    have c2 : decide (len l ≤ (if k > i then k else i)) = false := by simp [len]; split <;> omega
    simp only [c1, c2, Bool.false_eq_true, if_false, lift_Assumes h k0 k1, Option.bind_some]
    have f1 := premRanks_len b l i
    have f2 := premRanks_len b l k
    have f3 := lastS_len b l i
    have f4 := lastS_len b l k
    have f5 := defsS_len b l i
    have f6 := defsS_len b l k
    cases ha : assumesS b l k with
    | true => simp [lessS, ha]
    | false =>
      have sP : m_lift_Less_1__lift_PremiseRanks b l i k o = some (setLess (premRanksS b l i) (premRanksS b l k) o.2) := by
        unfold m_lift_Less_1__lift_PremiseRanks
        simp only [lift_PremiseRanks h i0 i1, lift_PremiseRanks h k0 k1, Option.bind_some, lift_SetLess o.2 (show (premRanksS b l i).length < 4294967296 by omega) (show (premRanksS b l k).length < 4294967296 by omega)]
      have sL : m_lift_Less_1__lift_LastRanks b l i k o = some (setLess (ranksS b (lastS b l i)) (ranksS b (lastS b l k)) o.2) := by
        unfold m_lift_Less_1__lift_LastRanks
        simp only [lift_LastRanks h i0 i1, lift_LastRanks h k0 k1, Option.bind_some, lift_SetLess o.2 (show (ranksS b (lastS b l i)).length < 4294967296 by simp; omega) (show (ranksS b (lastS b l k)).length < 4294967296 by simp; omega)]
      have sR : m_lift_Less_1__lift_RuleRanks b l i k o = some (setLess (ranksS b (defsS b l i)) (ranksS b (defsS b l k)) o.2) := by
        unfold m_lift_Less_1__lift_RuleRanks
        simp only [lift_RuleRanks h i0 i1, lift_RuleRanks h k0 k1, Option.bind_some, lift_SetLess o.2 (show (ranksS b (defsS b l i)).length < 4294967296 by simp; omega) (show (ranksS b (defsS b l k)).length < 4294967296 by simp; omega)]
      have nL : m_lift_Less_2__lift_LastRanks b l i k = some ((lastS b l i).isEmpty && (lastS b l k).isEmpty) := by
        unfold m_lift_Less_2__lift_LastRanks
        simp only [lift_LastRanks h i0 i1, lift_LastRanks h k0 k1, Option.bind_some, len0, map_isEmpty]
        cases (lastS b l i).isEmpty <;> simp
      have nP : m_lift_Less_2__lift_PremiseRanks b l i k = some ((premRanksS b l i).isEmpty && (premRanksS b l k).isEmpty) := by
        unfold m_lift_Less_2__lift_PremiseRanks
        simp only [lift_PremiseRanks h i0 i1, lift_PremiseRanks h k0 k1, Option.bind_some, len0]
        cases (premRanksS b l i).isEmpty <;> simp
      have nR : m_lift_Less_2__lift_RuleRanks b l i k = some ((defsS b l i).isEmpty && (defsS b l k).isEmpty) := by
        unfold m_lift_Less_2__lift_RuleRanks
        simp only [lift_RuleRanks h i0 i1, lift_RuleRanks h k0 k1, Option.bind_some, len0, map_isEmpty]
        cases (defsS b l i).isEmpty <;> simp
      simp only [Bool.false_eq_true, if_false, m_lift_Less_3__lift_Less_1, m_lift_Less_4__lift_Less_2, sP, sL, sR, nL, nP, nR, Option.bind_some, lessS, i0, i1, k0, k1, ha, decide_true, Bool.not_false, Bool.true_and]
      by_cases o1 : o.1 = 1
      · simp only [o1, beq_self_eq_true, if_true]
        cases setLess (ranksS b (lastS b l i)) (ranksS b (lastS b l k)) o.2 <;> cases (lastS b l i).isEmpty <;> cases (lastS b l k).isEmpty <;> simp
      · have o1' : (o.1 == 1) = false := beq_eq_false_iff_ne.2 o1
        simp only [o1', Bool.false_eq_true, if_false]
        cases o.1 == 2
        · simp
        · cases (defsS b l i).isEmpty <;> cases (defsS b l k).isEmpty <;> cases (premRanksS b l i).isEmpty <;> cases (premRanksS b l k).isEmpty <;> cases setLess (premRanksS b l i) (premRanksS b l k) o.2 <;> simp
  · have hf : lessS b l i k o = false := by
      unfold lessS
      by_cases a1 : 0 ≤ i <;> by_cases a2 : i < l.length <;> by_cases a3 : 0 ≤ k <;> by_cases a4 : k < l.length <;> simp [a1, a2, a3, a4]
      exact absurd ⟨a1, a2, a3, a4⟩ hr
    rw [hf]
    by_cases c1 : (if k < i then k else i) < 0
    · simp [c1]
    · have c2 : len l ≤ (if k > i then k else i) := by
        simp only [len]
        split at c1 <;> split <;> omega
      simp only [c1, c2, decide_true, decide_false, Bool.false_eq_true, if_true, if_false, Option.bind_some]
theorem ref_Less (h : FormB b l) (i k : Int) (o : T_Ordering) : m_ref08_Less b l i k o = some (lessS b l i k o) := by
  have hl := h.len
  have hnr := h.nr
  unfold m_ref08_Less
  by_cases hr : 0 ≤ i ∧ i < l.length ∧ 0 ≤ k ∧ k < l.length
  · obtain ⟨i0, i1, k0, k1⟩ := hr
    have c1 : ¬ i < 0 := by omega
    have c2 : ¬ len l ≤ i := by simp [len]; omega
    have c3 : ¬ k < 0 := by omega
    have c4 : ¬ len l ≤ k := by simp [len]; omega
    simp only [c1, c2, c3, c4, decide_false, Bool.false_eq_true, if_false, ref_Assumes h k0 k1, Option.bind_some]
    have f1 := premRanks_len b l i
    have f2 := premRanks_len b l k
    have f3 := lastS_len b l i
    have f4 := lastS_len b l k
    have f5 := defsS_len b l i
    have f6 := defsS_len b l k
    cases ha : assumesS b l k with
    | true => simp [lessS, ha]
    | false =>
      simp only [Bool.false_eq_true, if_false, ref_PremiseRanks h i0 i1, ref_PremiseRanks h k0 k1, ref_LastRanks h i0 i1, ref_LastRanks h k0 k1, ref_RuleRanks h i0 i1, ref_RuleRanks h k0 k1, Option.bind_some, len0, map_isEmpty,
        ref_SetLess o.2 (show (premRanksS b l i).length < 4294967296 by omega) (show (premRanksS b l k).length < 4294967296 by omega),
        ref_SetLess o.2 (show (ranksS b (lastS b l i)).length < 4294967296 by simp; omega) (show (ranksS b (lastS b l k)).length < 4294967296 by simp; omega),
        ref_SetLess o.2 (show (ranksS b (defsS b l i)).length < 4294967296 by simp; omega) (show (ranksS b (defsS b l k)).length < 4294967296 by simp; omega), lessS, i0, i1, k0, k1, ha, decide_true, Bool.not_false, Bool.true_and]
      by_cases o1 : o.1 = 1
      · simp only [o1, beq_self_eq_true, if_true]
        cases setLess (ranksS b (lastS b l i)) (ranksS b (lastS b l k)) o.2 <;> cases (lastS b l i).isEmpty <;> cases (lastS b l k).isEmpty <;> simp
      · have o1' : (o.1 == 1) = false := beq_eq_false_iff_ne.2 o1
        simp only [o1', Bool.false_eq_true, if_false]
        cases o.1 == 2
        · simp
        · cases (defsS b l i).isEmpty <;> cases (defsS b l k).isEmpty <;> cases (premRanksS b l i).isEmpty <;> cases (premRanksS b l k).isEmpty <;> cases setLess (premRanksS b l i) (premRanksS b l k) o.2 <;> simp
  · have hf : lessS b l i k o = false := by
      unfold lessS
      by_cases a1 : 0 ≤ i <;> by_cases a2 : i < l.length <;> by_cases a3 : 0 ≤ k <;> by_cases a4 : k < l.length <;> simp [a1, a2, a3, a4]
      exact absurd ⟨a1, a2, a3, a4⟩ hr
    rw [hf]
    by_cases c1 : i < 0
    · simp [c1]
    · by_cases c2 : len l ≤ i
      · simp [c1, c2]
      · by_cases c3 : k < 0
        · simp [c1, c2, c3]
        · have c4 : len l ≤ k := by simp only [len] at c2 ⊢; omega
          simp [c1, c2, c3, c4]
end
section
variable {b : T_Base} {l : List T_Argument}
/-- does the argument i attack at c, with a kind? -/
def hits (b : T_Base) (l : List T_Argument) (i c kd : Int) : Bool := match idx l i, idx l c with
  | some x, some a =>
    if decide (a.2.1 < 0) then kd == 1 && x.2.2.2 == compl a.2.2.2 && (match idx b.1 a.1 with | some p => p.2.1 != 1 | none => false)
    else match idx b.2.1 a.2.1 with
      | some r => !r.2.1 && ((kd == 2 && x.2.2.2 == compl a.2.2.2) || (kd == 3 && x.2.2.2 == (true, r.1)))
      | none => false
  | _, _ => false
theorem ref_complement (x : T_Literal) : m_ref01_Complement x = some (compl x) := rfl
theorem ref_attacks (h : FormB b l) {i c : Int} (i0 : 0 ≤ i) (i1 : i < l.length) (c0 : 0 ≤ c) (c1 : c < l.length) (kd : Int) : m_ref09_attacks b l i c kd = some (hits b l i c kd) := by
  obtain ⟨x, hx⟩ := idx_ok i0 i1
  obtain ⟨a, ha⟩ := idx_ok c0 c1
  unfold m_ref09_attacks hits
  simp only [hx, ha, Option.bind_some, ref_complement]
  by_cases hr : a.2.1 < 0
  · obtain ⟨_, ⟨p, hp⟩, _⟩ := (h.prem ha).1 (by have := (h.prem ha).2.2; omega)
    simp only [hr, decide_true, if_true, hp, Option.bind_some]
    by_cases k1 : kd = 1
    · simp only [k1, beq_self_eq_true, if_true, Option.bind_some, Bool.true_and]
      cases p.2.1 != 1 <;> simp
    · simp [k1]
  · obtain ⟨r, hr2⟩ := (h.prem ha).2.1 ((h.prem ha).2.2.1 (by omega))
    simp only [hr, decide_false, Bool.false_eq_true, if_false, hr2, Option.bind_some]
    by_cases k2 : kd = 2
    · subst k2; simp
    · by_cases k3 : kd = 3
      · subst k3
        cases hs : r.2.1 <;> simp
      · simp [k2, k3]
abbrev kindsS (b : T_Base) (l : List T_Argument) (i c : Int) : List Int := [1, 2, 3].filter (hits b l i c)
theorem att_kinds (h : FormB b l) {i c : Int} (i0 : 0 ≤ i) (i1 : i < l.length) (c0 : 0 ≤ c) (c1 : c < l.length) : m_attack_kinds b l i c = some (kindsS b l i c) := by
  obtain ⟨x, hx⟩ := idx_ok i0 i1
  obtain ⟨a, ha⟩ := idx_ok c0 c1
  unfold m_attack_kinds kindsS
  simp only [hx, ha, Option.bind_some, lit_complement]
  by_cases hp : 0 ≤ a.1
  · obtain ⟨_, ⟨p, hp2⟩, hr⟩ := (h.prem ha).1 hp
    have hk : ∀ kd, hits b l i c kd = (kd == 1 && x.2.2.2 == compl a.2.2.2 && p.2.1 != 1) := fun kd => by
      simp only [hits, hx, ha, hp2, hr]; rfl
    simp only [hp, decide_true, if_true, hp2, Option.bind_some]
    rw [List.filter_cons, List.filter_cons, List.filter_cons, List.filter_nil, hk, hk, hk]
    cases x.2.2.2 == compl a.2.2.2 <;> cases p.2.1 != 1 <;> simp [app]
  · obtain ⟨r, hr2⟩ := (h.prem ha).2.1 (by omega)
    have hr : ¬ a.2.1 < 0 := by have := (h.prem ha).2.2; omega
    have hk : ∀ kd, hits b l i c kd = (!r.2.1 && ((kd == 2 && x.2.2.2 == compl a.2.2.2) || (kd == 3 && x.2.2.2 == (true, r.1)))) := fun kd => by
      simp only [hits, hx, ha, hr2, hr, decide_false, Bool.false_eq_true, if_false]
    simp only [hp, decide_false, Bool.false_eq_true, if_false, hr2, Option.bind_some]
    rw [List.filter_cons, List.filter_cons, List.filter_cons, List.filter_nil, hk, hk, hk]
    have hlit : (x.2.2.2 == (true, r.1)) = (x.2.2.2.1 && x.2.2.2.2 == r.1) := by
      obtain ⟨_, _, _, g, nm⟩ := x
      show (g == true && nm == r.1) = (g && nm == r.1)
      cases g <;> rfl
    rw [hlit]
    cases hs : r.2.1
    · cases x.2.2.2 == compl a.2.2.2 <;> cases x.2.2.2.1 <;> cases x.2.2.2.2 == r.1 <;> simp [app]
    · simp
/-- the attacks on k at c by i -/
abbrev rowK (b : T_Base) (l : List T_Argument) (i k c : Int) : List T_Attack := (kindsS b l i c).map fun kd => (i, k, c, kd)
noncomputable def attsS (b : T_Base) (l : List T_Argument) : List T_Attack := (rng l.length).flatMap fun i => (rng l.length).flatMap fun k => (subsS l k).flatMap fun c => rowK b l i k c
/-- the same in the order of the other text -/
noncomputable def attsP (b : T_Base) (l : List T_Argument) : List T_Attack := (rng l.length).flatMap fun c => (rng l.length).flatMap fun i => ((rng l.length).filter fun k => decide (c ∈ subsS l k)).flatMap fun k => rowK b l i k c
theorem kinds_asc (b : T_Base) (l : List T_Argument) (i c : Int) : Asc ltI (kindsS b l i c) := List.Pairwise.filter _ (by simp)
theorem kinds_len (b : T_Base) (l : List T_Argument) (i c : Int) : (kindsS b l i c).length ≤ 3 := List.length_filter_le _ _
theorem kinds_mem (b : T_Base) (l : List T_Argument) (i c kd : Int) : kd ∈ kindsS b l i c ↔ (kd = 1 ∨ kd = 2 ∨ kd = 3) ∧ hits b l i c kd = true := by simp [kindsS, List.mem_filter]
theorem attsS_mem (y : T_Attack) : y ∈ attsS b l ↔ (0 ≤ y.1 ∧ y.1 < l.length) ∧ (0 ≤ y.2.1 ∧ y.2.1 < l.length) ∧ y.2.2.1 ∈ subsS l y.2.1 ∧ y.2.2.2 ∈ kindsS b l y.1 y.2.2.1 := by
  obtain ⟨i, k, c, kd⟩ := y
  simp only [attsS, List.mem_flatMap, List.mem_map, rng_mem]
  constructor
  · rintro ⟨i', h1, k', h2, c', h3, kd', h4, e⟩
    cases e
    exact ⟨h1, h2, h3, h4⟩
  · rintro ⟨h1, h2, h3, h4⟩
    exact ⟨i, h1, k, h2, c, h3, kd, h4, rfl⟩
theorem subs_rng {k c : Int} (h : c ∈ subsS l k) : 0 ≤ c ∧ c < l.length := by
  have := (List.mem_filter.1 h).1
  exact rng_mem.1 this
theorem attsP_mem (y : T_Attack) : y ∈ attsP b l ↔ y ∈ attsS b l := by
  rw [attsS_mem]
  obtain ⟨i, k, c, kd⟩ := y
  simp only [attsP, List.mem_flatMap, List.mem_map, rng_mem, List.mem_filter, decide_eq_true_eq]
  constructor
  · rintro ⟨c', _, i', h1, k', ⟨h2, h3⟩, kd', h4, e⟩
    cases e
    exact ⟨h1, h2, h3, h4⟩
  · rintro ⟨h1, h2, h3, h4⟩
    exact ⟨c, subs_rng h3, i, h1, k, ⟨h2, h3⟩, kd, h4, rfl⟩
theorem attsS_asc (b : T_Base) (l : List T_Argument) : Asc lt4 (attsS b l) := by
  refine List.pairwise_flatMap.2 ⟨fun i _ => List.pairwise_flatMap.2 ⟨fun k _ => List.pairwise_flatMap.2 ⟨fun c _ => ?_, ?_⟩, ?_⟩, ?_⟩
  · rw [List.pairwise_map]
    exact (kinds_asc b l i c).imp fun h => by simpa [lt4] using h
  · refine (subsS_asc l k).imp fun {c c'} h x hx y hy => ?_
    obtain ⟨_, _, rfl⟩ := List.mem_map.1 hx
    obtain ⟨_, _, rfl⟩ := List.mem_map.1 hy
    simp at h; simp [lt4]; omega
  · refine (rng_asc _).imp fun {k k'} h x hx y hy => ?_
    obtain ⟨_, _, hx⟩ := List.mem_flatMap.1 hx
    obtain ⟨_, _, hy⟩ := List.mem_flatMap.1 hy
    obtain ⟨_, _, rfl⟩ := List.mem_map.1 hx
    obtain ⟨_, _, rfl⟩ := List.mem_map.1 hy
    simp at h; simp [lt4]; omega
  · refine (rng_asc _).imp fun {i i'} h x hx y hy => ?_
    obtain ⟨_, _, hx⟩ := List.mem_flatMap.1 hx
    obtain ⟨_, _, hy⟩ := List.mem_flatMap.1 hy
    obtain ⟨_, _, hx⟩ := List.mem_flatMap.1 hx
    obtain ⟨_, _, hy⟩ := List.mem_flatMap.1 hy
    obtain ⟨_, _, rfl⟩ := List.mem_map.1 hx
    obtain ⟨_, _, rfl⟩ := List.mem_map.1 hy
    simp at h; simp [lt4]; omega
theorem attsP_nodup (b : T_Base) (l : List T_Argument) : (attsP b l).Nodup := by
  have key : (attsP b l).Pairwise fun x y => x.2.2.1 < y.2.2.1 ∨ (x.2.2.1 = y.2.2.1 ∧ (x.1 < y.1 ∨ (x.1 = y.1 ∧ (x.2.1 < y.2.1 ∨ (x.2.1 = y.2.1 ∧ x.2.2.2 < y.2.2.2))))) := by
    refine List.pairwise_flatMap.2 ⟨fun c _ => List.pairwise_flatMap.2 ⟨fun i _ => List.pairwise_flatMap.2 ⟨fun k _ => ?_, ?_⟩, ?_⟩, ?_⟩
    · rw [List.pairwise_map]
      exact (kinds_asc b l i c).imp fun h => by simpa using h
    · refine ((rng_asc _).filter _).imp fun {k k'} h x hx y hy => ?_
      obtain ⟨_, _, rfl⟩ := List.mem_map.1 hx
      obtain ⟨_, _, rfl⟩ := List.mem_map.1 hy
      simp at h; simp; omega
    · refine (rng_asc _).imp fun {i i'} h x hx y hy => ?_
      obtain ⟨_, _, hx⟩ := List.mem_flatMap.1 hx
      obtain ⟨_, _, hy⟩ := List.mem_flatMap.1 hy
      obtain ⟨_, _, rfl⟩ := List.mem_map.1 hx
      obtain ⟨_, _, rfl⟩ := List.mem_map.1 hy
      simp at h; simp; omega
    · refine (rng_asc _).imp fun {c c'} h x hx y hy => ?_
      obtain ⟨_, _, hx⟩ := List.mem_flatMap.1 hx
      obtain ⟨_, _, hy⟩ := List.mem_flatMap.1 hy
      obtain ⟨_, _, hx⟩ := List.mem_flatMap.1 hx
      obtain ⟨_, _, hy⟩ := List.mem_flatMap.1 hy
      obtain ⟨_, _, rfl⟩ := List.mem_map.1 hx
      obtain ⟨_, _, rfl⟩ := List.mem_map.1 hy
      simp at h; simp; omega
  exact key.imp fun {x y} h e => by subst e; omega
theorem row_len (b : T_Base) (l : List T_Argument) (i k c : Int) : (rowK b l i k c).length ≤ 3 := by rw [List.length_map]; exact kinds_len b l i c
theorem attsS_len (h : l.length ≤ 100) : (attsS b l).length ≤ 3000000 := by
  have h1 : ∀ i k : Int, ((subsS l k).flatMap fun c => rowK b l i k c).length ≤ 300 := fun i k => by
    have := flat_le (fun c => rowK b l i k c) 3 (subsS l k) fun c _ => row_len b l i k c
    have := subsS_len l k
    omega
  have h2 : ∀ i : Int, ((rng l.length).flatMap fun k => (subsS l k).flatMap fun c => rowK b l i k c).length ≤ 30000 := fun i => by
    have := flat_le (fun k => (subsS l k).flatMap fun c => rowK b l i k c) 300 (rng l.length) fun k _ => h1 i k
    rw [rng_len] at this
    omega
  have := flat_le (fun i => (rng l.length).flatMap fun k => (subsS l k).flatMap fun c => rowK b l i k c) 30000 (rng l.length) fun i _ => h2 i
  rw [rng_len] at this
  show ((rng l.length).flatMap _).length ≤ _
  omega
theorem ref_L4 (h : FormB b l) {acc0 : List T_Attack} {i k c : Int} (s3 : (List T_Attack) × Int) (i0 : 0 ≤ i) (i1 : i < l.length) (c0 : 0 ≤ c) (c1 : c < l.length) (acc : List T_Attack) (ha : acc.length < 4294960000) :
    loop (m_ref09_Attacks_L4 b l (acc0, i) c (acc0, k) s3) (acc, 1) = some (.inl (acc ++ rowK b l i k c, w64 (s3.2 + 1))) := by
  have step : ∀ (acc : List T_Attack) (kd : Int), acc.length < 4294967000 → 0 ≤ kd → kd ≤ 3 → m_ref09_Attacks_L4 b l (acc0, i) c (acc0, k) s3 (acc, kd) = some (.inl (acc ++ (if hits b l i c kd then [(i, k, c, kd)] else []), kd + 1)) := fun acc kd h1 h2 h3 => by
    unfold m_ref09_Attacks_L4
    have hd : decide (kd ≤ 3) = true := by simpa using h3
    simp only [hd, if_true, ref_attacks h i0 i1 c0 c1 kd, Option.bind_some]
    rw [w64_id (by omega) (by omega)]
    cases hits b l i c kd with
    | true =>
      simp only [if_true]
      rw [app_ok (by simp; omega)]
      rfl
    | false => simp
  have l1 : ∀ (p : Bool) (x : T_Attack), (if p then [x] else []).length ≤ 1 := fun p x => by cases p <;> simp
  rw [loop_eq, step acc 1 (by omega) (by omega) (by omega)]
  simp only
  rw [loop_eq, step _ (1 + 1) (by have := l1 (hits b l i c 1) (i, k, c, 1); rw [List.length_append]; omega) (by omega) (by omega)]
  simp only
  rw [loop_eq, step _ (1 + 1 + 1) (by have := l1 (hits b l i c 1) (i, k, c, 1); have := l1 (hits b l i c (1 + 1)) (i, k, c, 1 + 1); rw [List.length_append, List.length_append]; omega) (by omega) (by omega)]
  simp only
  rw [loop_eq]
  unfold m_ref09_Attacks_L4
  have hd : decide ((1 + 1 + 1 + 1 : Int) ≤ 3) = false := by simp
  simp only [hd, Bool.false_eq_true, if_false]
  congr 3
  rw [List.append_assoc, List.append_assoc]
  congr 1
  simp only [rowK, kindsS, List.filter_cons, List.filter_nil]
  show _ = List.map _ (if hits b l i c 1 then 1 :: (if hits b l i c 2 then 2 :: (if hits b l i c 3 then [3] else []) else (if hits b l i c 3 then [3] else [])) else (if hits b l i c 2 then 2 :: (if hits b l i c 3 then [3] else []) else (if hits b l i c 3 then [3] else [])))
  rw [show (1 + 1 : Int) = 2 from rfl, show (2 + 1 : Int) = 3 from rfl]
  cases hits b l i c 1 <;> cases hits b l i c 2 <;> cases hits b l i c 3 <;> rfl
theorem ref_Attacks (h : FormB b l) : m_ref09_Attacks b l = some (attsS b l) := by
  have hl := h.len
  have h1 : ∀ i k : Int, ((subsS l k).flatMap fun c => rowK b l i k c).length ≤ 300 := fun i k => by
    have := flat_le (fun c => rowK b l i k c) 3 (subsS l k) fun c _ => row_len b l i k c
    have := subsS_len l k
    omega
  have h2 : ∀ i : Int, ((rng l.length).flatMap fun k => (subsS l k).flatMap fun c => rowK b l i k c).length ≤ 30000 := fun i => by
    have := flat_le (fun k => (subsS l k).flatMap fun c => rowK b l i k c) 300 (rng l.length) fun k _ => h1 i k
    rw [rng_len] at this
    omega
  unfold m_ref09_Attacks
  refine loop_flat (B := m_ref09_Attacks_L1 l b) (rng l.length) (fun i => (rng l.length).flatMap fun k => (subsS l k).flatMap fun c => rowK b l i k c) (fun s => s) 30000 (fun i _ => h2 i) [] (fun q i s hi hs => ?_) (fun s => ?_)
  · obtain ⟨rfl, hq⟩ := rng_at hi
    have hd : decide ((q : Int) < len l) = true := by simp [len]; omega
    unfold m_ref09_Attacks_L1
    simp only [hd, if_true]
    refine (loop_flat (B := m_ref09_Attacks_L2 l b (s, (q : Int))) (rng l.length) (fun k => (subsS l k).flatMap fun c => rowK b l (q : Int) k c) (fun r => .inl (r, w64 ((q : Int) + 1))) 300 (fun k _ => h1 _ k) s (fun u k s' hk hs' => ?_) (fun s' => ?_)).trans ?_
    · obtain ⟨rfl, hu⟩ := rng_at hk
      have hd : decide ((u : Int) < len l) = true := by simp [len]; omega
      unfold m_ref09_Attacks_L2
      simp only [hd, if_true, ref_Subs h.toFormA (show (0 : Int) ≤ u by omega) (by omega), Option.bind_some]
      simp only [List.length_nil] at hs
      refine (loop_flat (B := m_ref09_Attacks_L3 (subsS l u) b l (s, (q : Int)) (s', (u : Int))) (subsS l u) (fun c => rowK b l (q : Int) (u : Int) c) (fun r => .inl (r, w64 ((u : Int) + 1))) 3 (fun c _ => row_len b l _ _ c) s' (fun v c s'' hc hs'' => ?_) (fun s'' => ?_)).trans ?_
      · have hcr := subs_rng (mem_at hc)
        have hv := at_lt hc
        have := subsS_len l u
        unfold m_ref09_Attacks_L3
        simp only [at_dec hc, if_true, at_idx hc, Option.bind_some]
        refine (ref_L4 h (s'', (v : Int)) (by omega) (by omega) hcr.1 hcr.2 s'' (by omega)).trans ?_
        simp only [at_suc hc (by omega)]
      · unfold m_ref09_Attacks_L3
        simp only [end_dec, Bool.false_eq_true, if_false]
      · simp only [w64_succ u (by omega)]
    · unfold m_ref09_Attacks_L2
      have hd : decide (((rng l.length).length : Int) < len l) = false := by rw [rng_len]; exact end_dec l
      simp only [hd, Bool.false_eq_true, if_false]
    · simp only [w64_succ q (by omega)]
  · unfold m_ref09_Attacks_L1
    have hd : decide (((rng l.length).length : Int) < len l) = false := by rw [rng_len]; exact end_dec l
    simp only [hd, Bool.false_eq_true, if_false]
theorem contains_int (m : List Int) (x : Int) (hb : m.length < 9223372036854775807) : m_slices_Contains_int m x = some (decide (x ∈ m)) := by
  obtain ⟨r, h1, h2⟩ := indexM_spec m x hb
  unfold m_slices_Contains_int m_slices_Index_int
  rw [show loop (m_slices_Index_int_L1 m x) 0 = some r from h1]
  simp only [Option.bind_some]
  congr 1
  rw [decide_eq_decide, h2]
  simp
theorem att_Attacks (h : FormB b l) : m_attack_Attacks b l = some (attsS b l) := by
  have hl := h.len
  have h1 : ∀ i c : Int, (((rng l.length).filter fun k => decide (c ∈ subsS l k)).flatMap fun k => rowK b l i k c).length ≤ 300 := fun i c => by
    have := flat_le (fun k => rowK b l i k c) 3 ((rng l.length).filter fun k => decide (c ∈ subsS l k)) fun k _ => row_len b l i k c
    have := List.length_filter_le (fun k => decide (c ∈ subsS l k)) (rng l.length)
    rw [rng_len] at this
    omega
  have h2 : ∀ c : Int, ((rng l.length).flatMap fun i => ((rng l.length).filter fun k => decide (c ∈ subsS l k)).flatMap fun k => rowK b l i k c).length ≤ 30000 := fun c => by
    have := flat_le (fun i => ((rng l.length).filter fun k => decide (c ∈ subsS l k)).flatMap fun k => rowK b l i k c) 300 (rng l.length) fun i _ => h1 i c
    rw [rng_len] at this
    omega
  have hL : loop (m_attack_Attacks_L1 l b) ([], 0) = some (attsP b l) := by
    refine loop_flat (B := m_attack_Attacks_L1 l b) (rng l.length) (fun c => (rng l.length).flatMap fun i => ((rng l.length).filter fun k => decide (c ∈ subsS l k)).flatMap fun k => rowK b l i k c) (fun s => s) 30000 (fun c _ => h2 c) [] (fun q c s hc hs => ?_) (fun s => ?_)
    · obtain ⟨rfl, hq⟩ := rng_at hc
      have hd : decide ((q : Int) < len l) = true := by simp [len]; omega
      simp only [List.length_nil] at hs
      unfold m_attack_Attacks_L1
      simp only [hd, if_true]
      refine (loop_flat (B := m_attack_Attacks_L2 l b (s, (q : Int))) (rng l.length) (fun i => ((rng l.length).filter fun k => decide ((q : Int) ∈ subsS l k)).flatMap fun k => rowK b l i k (q : Int)) (fun r => .inl (r, w64 ((q : Int) + 1))) 300 (fun i _ => h1 i _) s (fun u i s' hi hs' => ?_) (fun s' => ?_)).trans ?_
      · obtain ⟨rfl, hu⟩ := rng_at hi
        have hd : decide ((u : Int) < len l) = true := by simp [len]; omega
        unfold m_attack_Attacks_L2
        simp only [hd, if_true, att_kinds h (show (0 : Int) ≤ u by omega) (by omega) (show (0 : Int) ≤ q by omega) (by omega), Option.bind_some, len0]
        cases hk : (kindsS b l u q).isEmpty with
        | true =>
          have : kindsS b l u q = [] := List.isEmpty_iff.1 hk
          have hz : (((rng l.length).filter fun k => decide ((q : Int) ∈ subsS l k)).flatMap fun k => rowK b l u k (q : Int)) = [] := by
            rw [List.flatMap_eq_nil_iff]
            intro k _
            simp only [rowK, this, List.map_nil]
          simp only [if_true, w64_succ u (by omega), hz, List.append_nil]
        | false =>
          simp only [Bool.false_eq_true, if_false]
          rw [flat_filter]
          refine (loop_flat (B := m_attack_Attacks_L3 l (s, (q : Int)) (kindsS b l u q) (s', (u : Int))) (rng l.length) (fun k => if decide ((q : Int) ∈ subsS l k) then rowK b l u k (q : Int) else []) (fun r => .inl (r, w64 ((u : Int) + 1))) 3 (fun k _ => by
            split
            · exact row_len b l _ _ _
            · simp) s' (fun v k s'' hk2 hs'' => ?_) (fun s'' => ?_)).trans ?_
          · obtain ⟨rfl, hv⟩ := rng_at hk2
            have hd : decide ((v : Int) < len l) = true := by simp [len]; omega
            have hsl := subsS_len l v
            unfold m_attack_Attacks_L3
            simp only [hd, if_true, arg_Subs h.toFormA (show (0 : Int) ≤ v by omega) (by omega), Option.bind_some, contains_int (subsS l v) q (by omega)]
            cases hm : decide ((q : Int) ∈ subsS l v) with
            | false => simp only [Bool.not_false, if_true, w64_succ v (by omega), Bool.false_eq_true, if_false, List.append_nil]
            | true =>
              simp only [Bool.not_true, Bool.false_eq_true, if_false, if_true]
              have hkl := kinds_len b l u q
              refine (loop_flat (B := m_attack_Attacks_L4 (kindsS b l u q) (s', (u : Int)) (s'', (v : Int)) (s, (q : Int))) (kindsS b l u q) (fun kd => [((u : Int), (v : Int), (q : Int), kd)]) (fun r => .inl (r, w64 ((v : Int) + 1))) 1 (fun _ _ => by simp) s'' (fun w kd s3 hw hs3 => ?_) (fun s3 => ?_)).trans ?_
              · have := at_lt hw
                unfold m_attack_Attacks_L4
                simp only [at_dec hw, if_true, at_idx hw, Option.bind_some]
                rw [app_ok (by rw [List.length_singleton]; omega)]
                simp only [Option.bind_some, at_suc hw (by omega)]
              · unfold m_attack_Attacks_L4
                simp only [end_dec, Bool.false_eq_true, if_false]
              · simp only [w64_succ v (by omega), rowK, List.map_eq_flatMap]
          · unfold m_attack_Attacks_L3
            have hd : decide (((rng l.length).length : Int) < len l) = false := by rw [rng_len]; exact end_dec l
            simp only [hd, Bool.false_eq_true, if_false]
          · simp only [w64_succ u (by omega)]
      · unfold m_attack_Attacks_L2
        have hd : decide (((rng l.length).length : Int) < len l) = false := by rw [rng_len]; exact end_dec l
        simp only [hd, Bool.false_eq_true, if_false]
      · simp only [w64_succ q (by omega)]
    · unfold m_attack_Attacks_L1
      have hd : decide (((rng l.length).length : Int) < len l) = false := by rw [rng_len]; exact end_dec l
      simp only [hd, Bool.false_eq_true, if_false]
  have hPS : (attsP b l).Perm (attsS b l) := by
    refine (List.perm_ext_iff_of_nodup (attsP_nodup b l) ?_).2 fun y => attsP_mem y
    exact (attsS_asc b l).imp fun {x y} h e => by subst e; rw [ord4.irrefl] at h; cases h
  unfold m_attack_Attacks
  rw [hL]
  simp only [Option.bind_some]
  have hlen := attsS_len (b := b) hl
  rw [sort_attacks (by rw [hPS.length_eq]; omega)]
  simp only [Option.bind_some]
  congr 1
  refine List.Perm.eq_of_pairwise (le := fun x y => lt4 y x = false) (fun x y _ _ g1 g2 => ?_) (sorted_merge ord4 _) ((attsS_asc b l).imp fun h => ord4.asymm h) ((List.mergeSort_perm _ _).trans hPS)
  rcases ord4.tri x y with h | h | h
  · rw [h] at g2; cases g2
  · exact h
  · rw [h] at g1; cases g1
noncomputable def isDefeat (b : T_Base) (l : List T_Argument) (o : T_Ordering) (y : T_Attack) : Bool := y.2.2.2 == 3 || !lessS b l y.1 y.2.2.1 o
noncomputable def defeatsS (b : T_Base) (l : List T_Argument) (o : T_Ordering) : List T_Attack := (attsS b l).filter (isDefeat b l o)
theorem att_Defeats (h : FormB b l) (o : T_Ordering) : m_attack_Defeats b l o = some (defeatsS b l o) := by
  have hlen := attsS_len (b := b) h.len
  unfold m_attack_Defeats
  rw [att_Attacks h]
  simp only [Option.bind_some]
  have hd := deleteFM_spec (fun x => m_attack_Defeats_1 x b l o) (fun x => x.2.2.2 != 3 && lessS b l x.1 x.2.2.1 o) (0, 0, 0, 0) (attsS b l) (by omega) (fun x _ => by
    simp only [m_attack_Defeats_1]
    cases hx : x.2.2.2 != 3 with
    | true => simp [lift_Less h]
    | false => simp)
  rw [show m_slices_DeleteFunc_Attack__attack_Defeats_1 (attsS b l) b l o = deleteFM (fun x => m_attack_Defeats_1 x b l o) (0, 0, 0, 0) (attsS b l) from rfl, hd]
  simp only [Option.bind_some, defeatsS]
  congr 1
  refine List.filter_congr fun x _ => ?_
  simp only [isDefeat]
  cases hx : x.2.2.2 == 3 <;> simp [bne, hx]
theorem ref_Defeats (h : FormB b l) (o : T_Ordering) : m_ref09_Defeats b l o = some (defeatsS b l o) := by
  have hlen := attsS_len (b := b) h.len
  unfold m_ref09_Defeats
  rw [ref_Attacks h]
  simp only [Option.bind_some]
  have hL := loop_fold (B := m_ref09_Defeats_L1 (attsS b l) b l o) (attsS b l) (fun s x => if isDefeat b l o x then s ++ [x] else s) (fun s => s) (fun q s => s.length ≤ q) [] (by simp) (fun i x s hx hI => ?_) (fun s hI => ?_)
  · have e := foldl_app_filter (isDefeat b l o) (fun x => x) (attsS b l) []
    rw [hL.1, e]
    simp [defeatsS]
  · have hi := at_lt hx
    unfold m_ref09_Defeats_L1
    have hc : (if x.2.2.2 == 3 then some true else (m_ref08_Less b l x.1 x.2.2.1 o).bind fun r2 => some (!r2)) = some (isDefeat b l o x) := by
      simp only [isDefeat, ref_Less h, Option.bind_some]
      cases x.2.2.2 == 3 <;> simp
    simp only [at_dec hx, if_true, at_idx hx, Option.bind_some]
    rw [hc]
    simp only [Option.bind_some]
    cases hd : isDefeat b l o x with
    | true =>
      simp only [if_true]
      rw [app_ok (by simp; omega)]
      exact ⟨by simp only [Option.bind_some, at_suc hx (by omega)], by simp; omega⟩
    | false => exact ⟨by simp only [Bool.false_eq_true, if_false, at_suc hx (by omega)], by simp only [Bool.false_eq_true, if_false]; omega⟩
  · unfold m_ref09_Defeats_L1
    simp [len]
end
section
section
variable {α ρ : Type}
/-- the place of the first, or -1 -/
def fidx (q : α → Bool) (l : List α) : Int := if l.any q then (l.findIdx q : Int) else -1
theorem fidx_loop {B : Int → Option (Int ⊕ ρ)} (q : α → Bool) (l : List α) (no : ρ) (yes : Int → ρ) (hB : ∀ (i : Nat) x, l[i]? = some x → B (i : Int) = some (if q x then .inr (yes (i : Int)) else .inl ((i + 1 : Nat) : Int))) (he : B (l.length : Int) = some (.inr no)) :
    loop B 0 = some (if l.any q then yes (fidx q l) else no) := by
  have key : ∀ (n i : Nat), i + n = l.length → loop B (i : Int) = some (if (l.drop i).any q then yes ((i + (l.drop i).findIdx q : Nat) : Int) else no) := by
    intro n
    induction n with
    | zero =>
      intro i h
      rw [Nat.add_zero] at h
      subst h
      rw [loop_eq, he, List.drop_length]
      rfl
    | succ n ih =>
      intro i h
      have hx : l[i]? = some l[i] := List.getElem?_eq_getElem (by omega)
      rw [loop_eq, hB i _ hx, List.drop_eq_getElem_cons (by omega)]
      cases hp : q l[i] with
      | true => simp only [if_true, List.any_cons, hp, Bool.true_or, List.findIdx_cons, cond_true, Nat.add_zero]
      | false =>
        simp only [Bool.false_eq_true, if_false, List.any_cons, hp, Bool.false_or, List.findIdx_cons, cond_false]
        rw [ih (i + 1) (by omega)]
        rw [show i + 1 + (l.drop (i + 1)).findIdx q = i + ((l.drop (i + 1)).findIdx q + 1) by omega]
  have h := key l.length 0 (by omega)
  simp only [List.drop_zero, Nat.zero_add] at h
  rw [show loop B 0 = _ from h, fidx]
  cases l.any q <;> rfl
theorem fidx_le {q : α → Bool} {l : List α} {i : Nat} {x : α} (hx : l[i]? = some x) (hq : q x = true) : 0 ≤ fidx q l ∧ fidx q l ≤ i := by
  have ha : l.any q = true := List.any_eq_true.2 ⟨x, mem_at hx, hq⟩
  rw [fidx, if_pos ha]
  refine ⟨by omega, ?_⟩
  have hi := at_lt hx
  rw [List.getElem?_eq_getElem hi] at hx
  have hq' : q l[i] = true := by rw [Option.some.inj hx]; exact hq
  have : l.findIdx q ≤ i := by
    refine Nat.le_of_not_lt fun h => ?_
    have := List.not_of_lt_findIdx h
    rw [hq'] at this; simp at this
  omega
theorem fidx_at {q : α → Bool} {l : List α} (h : 0 ≤ fidx q l) : ∃ (k : Nat) (x : α), fidx q l = (k : Int) ∧ l[k]? = some x ∧ q x = true ∧ ∀ j y, j < k → l[j]? = some y → q y = false := by
  unfold fidx at h ⊢
  split at h
  · rename_i ha
    rw [if_pos ha]
    obtain ⟨x, hx, hq⟩ := List.any_eq_true.1 ha
    have hlt : l.findIdx q < l.length := List.findIdx_lt_length_of_exists ⟨x, hx, hq⟩
    refine ⟨_, l[l.findIdx q], rfl, List.getElem?_eq_getElem hlt, List.findIdx_getElem, fun j y hj hy => ?_⟩
    have hjl := at_lt hy
    rw [List.getElem?_eq_getElem hjl] at hy
    have := List.not_of_lt_findIdx hj
    rw [← Option.some.inj hy]
    simpa using this
  · omega
/-- the first error along a list -/
def ferr (e : Nat → α → Int) : Nat → List α → Int
  | _, [] => 0
  | i, x :: r => if e i x != 0 then e i x else ferr e (i + 1) r
theorem loop_ferr {B : Int → Option (Int ⊕ ρ)} (l : List α) (e : Nat → α → Int) (yes : Int → ρ) (no : ρ) (hB : ∀ (i : Nat) x, l[i]? = some x → B (i : Int) = some (if e i x != 0 then .inr (yes (e i x)) else .inl ((i + 1 : Nat) : Int))) (he : B (l.length : Int) = some (.inr no)) :
    loop B 0 = some (if ferr e 0 l != 0 then yes (ferr e 0 l) else no) := by
  have key : ∀ (n i : Nat), i + n = l.length → loop B (i : Int) = some (if ferr e i (l.drop i) != 0 then yes (ferr e i (l.drop i)) else no) := by
    intro n
    induction n with
    | zero =>
      intro i h
      rw [Nat.add_zero] at h
      subst h
      rw [loop_eq, he, List.drop_length]
      rfl
    | succ n ih =>
      intro i h
      have hx : l[i]? = some l[i] := List.getElem?_eq_getElem (by omega)
      rw [loop_eq, hB i _ hx, List.drop_eq_getElem_cons (by omega)]
      simp only [ferr]
      by_cases hp : e i l[i] = 0
      · simp only [hp, bne_self_eq_false, Bool.false_eq_true, if_false]; exact ih (i + 1) (by omega)
      · have hp' : (e i l[i] != 0) = true := by simpa using hp
        simp only [hp', if_true]
  have h := key l.length 0 (by omega)
  simpa using h
theorem ferr_ok {e : Nat → α → Int} : ∀ {l : List α} {k : Nat}, ferr e k l = 0 ↔ ∀ (i : Nat) x, l[i]? = some x → e (k + i) x = 0
  | [], k => by simp [ferr]
  | x :: r, k => by
    simp only [ferr]
    constructor
    · intro h
      cases hx : e k x != 0 with
      | true => rw [hx] at h; simp only [if_true] at h; rw [h] at hx; simp at hx
      | false =>
        rw [hx] at h
        simp only [Bool.false_eq_true, if_false] at h
        intro i y hy
        cases i with
        | zero => simp at hy; subst hy; simpa using hx
        | succ i => rw [show k + (i + 1) = k + 1 + i by omega]; exact ferr_ok.1 h i y (by simpa using hy)
    · intro h
      have h0 := h 0 x rfl
      rw [Nat.add_zero] at h0
      rw [h0]
      simp only [bne_self_eq_false, Bool.false_eq_true, if_false]
      exact ferr_ok.2 fun i y hy => by rw [show k + 1 + i = k + (i + 1) by omega]; exact h (i + 1) y (by simpa using hy)
end
abbrev ranked (n : Int) : Bool := decide (0 ≤ n) && decide (n ≤ 9)
def premE (p : T_Premise) : Int :=
  if p.2.1 == 1 || p.2.1 == 2 || p.2.1 == 3 then
    if vName p.1.2 && ranked p.2.2.1 && (p.2.1 == 2 || p.2.2.1 == 0) && (p.2.2.2 == [] || vName p.2.2.2) then 0 else 1
  else 4
/-- each literal before the next -/
def ascB : List T_Literal → Bool
  | a :: b :: r => litLt a b && ascB (b :: r)
  | _ => true
def ruleE (r : T_Rule) : Int :=
  if 4 < r.2.2.2.1.length then 2
  else if vName r.1 && vName r.2.2.2.2.2 && ranked r.2.2.1 && (!r.2.1 || r.2.2.1 == 0) && r.2.2.2.1.all (fun x => vName x.2) then (if ascB r.2.2.2.1 then 0 else 8) else 1
def findS (b : T_Base) (nm : Str) : Int := fidx (fun r : T_Rule => r.1 == nm) b.2.1
def premS (b : T_Base) (x : T_Literal) : Int := fidx (fun p : T_Premise => p.1 == x) b.1
def promE (b : T_Base) (p : T_Promotion) : Int :=
  if ranked p.2.1 && vName p.2.2.2 then (if findS b p.1 < 0 then 6 else match idx b.2.1 (findS b p.1) with | some r => if r.2.1 then 4 else 0 | none => 0) else 1
def validS (b : T_Base) : Int :=
  if 16 < b.1.length || 24 < b.2.1.length || 8 < b.2.2.length then 2
  else
    let e1 := ferr (fun i p => if premE p != 0 then premE p else if premS b p.1 < (i : Int) then 5 else 0) 0 b.1
    if e1 != 0 then e1 else
    let e2 := ferr (fun i r => if ruleE r != 0 then ruleE r else if findS b r.1 < (i : Int) then 5 else 0) 0 b.2.1
    if e2 != 0 then e2 else ferr (fun _ p => promE b p) 0 b.2.2
theorem ref_premise (p : T_Premise) : m_ref05_premise p = some (premE p) := by
  unfold m_ref05_premise m_ref05_rank premE
  simp only [ref_valid, ref_validName, Option.bind_some]
  by_cases k1 : p.2.1 = 1
  · by_cases h0 : p.2.2.1 = 0
    · cases hv : vName p.1.2 <;> cases hs : p.2.2.2 == [] <;> cases hw : vName p.2.2.2 <;> simp [k1, h0, hs, hw]
    · cases hr : ranked p.2.2.1 <;> cases hv : vName p.1.2 <;> simp [k1, h0, hr]
  · by_cases k3 : p.2.1 = 3
    · by_cases h0 : p.2.2.1 = 0
      · cases hv : vName p.1.2 <;> cases hs : p.2.2.2 == [] <;> cases hw : vName p.2.2.2 <;> simp [k3, h0, hs, hw]
      · cases hr : ranked p.2.2.1 <;> cases hv : vName p.1.2 <;> simp [k3, h0, hr]
    · by_cases k2 : p.2.1 = 2
      · cases hr : ranked p.2.2.1 <;> cases hv : vName p.1.2 <;> cases hs : p.2.2.2 == [] <;> cases hw : vName p.2.2.2 <;> simp [k2, hs, hw, hr]
      · have : (decide (p.2.1 < 1) || decide (3 < p.2.1)) = true := by simp; omega
        simp [k1, k2, k3, this]
theorem ascB_loop {B : Int → Option (Int ⊕ Int)} (l : List T_Literal) (hl : l.length < 4294967296)
    (hB : ∀ (i : Nat) x y, l[i]? = some x → l[i + 1]? = some y → B ((i + 1 : Nat) : Int) = some (if decide (0 ≤ litCmp x y) then .inr 8 else .inl ((i + 1 + 1 : Nat) : Int))) (he : ∀ k : Nat, l.length ≤ k → B (k : Int) = some (.inr 0)) :
    loop B 1 = some (if ascB l then 0 else 8) := by
  have key : ∀ (n i : Nat), i + 1 + n = l.length → loop B ((i + 1 : Nat) : Int) = some (if ascB (l.drop i) then 0 else 8) := by
    intro n
    induction n with
    | zero =>
      intro i h
      rw [loop_eq, he (i + 1) (by omega), List.drop_eq_getElem_cons (by omega), List.drop_of_length_le (by omega)]
      rfl
    | succ n ih =>
      intro i h
      have hx : l[i]? = some l[i] := List.getElem?_eq_getElem (by omega)
      have hy : l[i + 1]? = some l[i + 1] := List.getElem?_eq_getElem (by omega)
      rw [loop_eq, hB i _ _ hx hy, List.drop_eq_getElem_cons (by omega), List.drop_eq_getElem_cons (by omega)]
      have hc : decide (0 ≤ litCmp l[i] l[i + 1]) = !litLt l[i] l[i + 1] := by
        unfold litCmp
        cases litLt l[i] l[i + 1] with
        | true => simp
        | false =>
          simp only [Bool.false_eq_true, if_false]
          split <;> simp
      rw [hc]
      cases hlt : litLt l[i] l[i + 1] with
      | true =>
        simp only [Bool.not_true, Bool.false_eq_true, if_false]
        rw [ih (i + 1) (by omega), List.drop_eq_getElem_cons (show i + 1 < l.length by omega)]
        simp only [ascB, hlt, Bool.true_and]
      | false => simp only [Bool.not_false, if_true, ascB, hlt, Bool.false_and, Bool.false_eq_true, if_false]
  match l, hl, hB, he, key with
  | [], _, _, he, _ => rw [loop_eq, show (1 : Int) = ((1 : Nat) : Int) from rfl, he 1 (by simp)]; rfl
  | x :: r, _, _, _, key => exact key r.length 0 (by simp; omega)
theorem ref_rule (r : T_Rule) (hr : r.2.2.2.1.length < 4294967296) : m_ref05_rule r = some (ruleE r) := by
  unfold m_ref05_rule ruleE
  by_cases h4 : 4 < r.2.2.2.1.length
  · have : decide (4 < len r.2.2.2.1) = true := by simp [len]; omega
    simp only [this, if_true, h4]
  have : decide (4 < len r.2.2.2.1) = false := by simp [len]; omega
  simp only [this, Bool.false_eq_true, if_false, h4, ref_validName, ref_valid, m_ref05_rank, Option.bind_some]
  have hc : (if vName r.1 = true then if (decide (0 ≤ r.2.2.1) && decide (r.2.2.1 ≤ 9)) = true then if (!r.2.1) = true then some (vName r.2.2.2.2.2) else if (r.2.2.1 == 0) = true then some (vName r.2.2.2.2.2) else some false else some false else some false)
      = some (vName r.1 && vName r.2.2.2.2.2 && ranked r.2.2.1 && (!r.2.1 || r.2.2.1 == 0)) := by
    cases vName r.1 <;> cases vName r.2.2.2.2.2 <;> cases hk : ranked r.2.2.1 <;> cases r.2.1 <;> cases hz : r.2.2.1 == 0 <;> simp [hk]
  rw [hc]
  simp only [Option.bind_some]
  have h1 := loop_fold (B := m_ref05_rule_L1 r) r.2.2.2.1 (fun s x => s && vName x.2) (fun s => s) (fun _ _ => True) (vName r.1 && vName r.2.2.2.2.2 && ranked r.2.2.1 && (!r.2.1 || r.2.2.1 == 0)) trivial (fun i x s hx _ => ⟨by
    unfold m_ref05_rule_L1
    simp only [at_dec hx, if_true, at_idx hx, Option.bind_some, ref_valid]
    cases s <;> simp only [Bool.false_eq_true, if_false, if_true, Option.bind_some, at_suc hx hr, Bool.false_and, Bool.true_and], trivial⟩) (fun s _ => by unfold m_ref05_rule_L1; simp only [end_dec, Bool.false_eq_true, if_false])
  rw [h1.1]
  have hf : ∀ (l : List T_Literal) (g : Bool), l.foldl (fun s x => s && vName x.2) g = (g && l.all (fun x => vName x.2)) := by
    intro l
    induction l with
    | nil => intro g; simp
    | cons x l ih => intro g; rw [List.foldl_cons, ih, List.all_cons, Bool.and_assoc]
  rw [hf]
  simp only [Option.bind_some]
  cases hg : (vName r.1 && vName r.2.2.2.2.2 && ranked r.2.2.1 && (!r.2.1 || r.2.2.1 == 0) && r.2.2.2.1.all (fun x => vName x.2)) with
  | false => rfl
  | true =>
    simp only [Bool.not_true, Bool.false_eq_true, if_false, if_true]
    refine ascB_loop (B := m_ref05_rule_L2 r) r.2.2.2.1 hr (fun i x y hx hy => ?_) (fun k hk => ?_)
    · unfold m_ref05_rule_L2
      have e1 : w64 (((i + 1 : Nat) : Int) - 1) = (i : Int) := by have := at_lt hy; rw [w64_id (by omega) (by omega)]; omega
      simp only [at_dec hy, if_true, at_idx hy, e1, at_idx hx, Option.bind_some, ref_compare, at_suc hy hr]
      split <;> rfl
    · unfold m_ref05_rule_L2
      have : decide ((k : Int) < len r.2.2.2.1) = false := by simp [len]; omega
      simp only [this, Bool.false_eq_true, if_false]
theorem fidx_id {α : Type} (q : α → Bool) (l : List α) : (if l.any q then fidx q l else -1) = fidx q l := by unfold fidx; split <;> rfl
theorem ref_Find (b : T_Base) (nm : Str) (h : b.2.1.length < 4294967296) : m_ref05_Find b nm = some (findS b nm) := by
  have := fidx_loop (B := m_ref05_Find_L1 b nm) (fun r : T_Rule => r.1 == nm) b.2.1 (-1 : Int) (fun i => i) (fun i x hx => by
    unfold m_ref05_Find_L1
    simp only [at_dec hx, if_true, at_idx hx, Option.bind_some, at_suc hx h]
    split <;> rfl) (by unfold m_ref05_Find_L1; simp only [end_dec, Bool.false_eq_true, if_false])
  rw [fidx_id] at this
  exact this
theorem ref_Premise (b : T_Base) (x : T_Literal) (h : b.1.length < 4294967296) : m_ref05_Premise b x = some (premS b x) := by
  have := fidx_loop (B := m_ref05_Premise_L1 b x) (fun r : T_Premise => r.1 == x) b.1 (-1 : Int) (fun i => i) (fun i x hx => by
    unfold m_ref05_Premise_L1
    simp only [at_dec hx, if_true, at_idx hx, Option.bind_some, at_suc hx h]
    split <;> rfl) (by unfold m_ref05_Premise_L1; simp only [end_dec, Bool.false_eq_true, if_false])
  rw [fidx_id] at this
  exact this
theorem findS_idx {b : T_Base} {nm : Str} (h : ¬ findS b nm < 0) : ∃ r, idx b.2.1 (findS b nm) = some r := by
  obtain ⟨k, x, h1, h2, _⟩ := fidx_at (q := fun r : T_Rule => r.1 == nm) (l := b.2.1) (by unfold findS at h; omega)
  exact ⟨x, by rw [findS, h1]; exact at_idx h2⟩
/-- what a base's lists may be, so that everything can be counted -/
structure Cnt (b : T_Base) : Prop where
  p : b.1.length < 4294967296
  r : b.2.1.length < 4294967296
  m : b.2.2.length < 4294967296
  q : ∀ r ∈ b.2.1, r.2.2.2.1.length < 4294967296
theorem ref_Validate {b : T_Base} (h : Cnt b) : m_ref05_Validate b = some (validS b) := by
  unfold m_ref05_Validate validS
  have h0 : (decide (16 < len b.1) || (decide (24 < len b.2.1) || decide (8 < len b.2.2))) = (decide (16 < b.1.length) || decide (24 < b.2.1.length) || decide (8 < b.2.2.length)) := by
    rw [Bool.eq_iff_iff]; simp [len]; omega
  rw [h0]
  cases hc : (decide (16 < b.1.length) || decide (24 < b.2.1.length) || decide (8 < b.2.2.length)) with
  | true => simp
  | false =>
    simp only [Bool.false_eq_true, if_false]
    rw [loop_ferr (B := m_ref05_Validate_L1 b) b.1 (fun i p => if premE p != 0 then premE p else if premS b p.1 < (i : Int) then 5 else 0) (fun e => (.inr e : Unit ⊕ Int)) (.inl ()) (fun i x hx => by
      unfold m_ref05_Validate_L1
      simp only [at_dec hx, if_true, at_idx hx, Option.bind_some, ref_premise, ref_Premise b x.1 h.p, at_suc hx h.p]
      cases hp : premE x != 0 with
      | true => simp only [if_true, hp]
      | false =>
        by_cases hq : premS b x.1 < (i : Int)
        · simp [hq]
        · simp [hq]) (by unfold m_ref05_Validate_L1; simp only [end_dec, Bool.false_eq_true, if_false])]
    cases he : ferr (fun i p => if premE p != 0 then premE p else if premS b p.1 < (i : Int) then 5 else 0) 0 b.1 != 0 with
    | true => simp [seqE]
    | false =>
      simp only [Bool.false_eq_true, if_false, seqE, Option.bind_some]
      rw [loop_ferr (B := m_ref05_Validate_L2 b) b.2.1 (fun i r => if ruleE r != 0 then ruleE r else if findS b r.1 < (i : Int) then 5 else 0) (fun e => (.inr e : Unit ⊕ Int)) (.inl ()) (fun i x hx => by
        unfold m_ref05_Validate_L2
        simp only [at_dec hx, if_true, at_idx hx, Option.bind_some, ref_rule x (h.q x (mem_at hx)), ref_Find b x.1 h.r, at_suc hx h.r]
        cases hp : ruleE x != 0 with
        | true => simp only [if_true, hp]
        | false =>
          by_cases hq : findS b x.1 < (i : Int)
          · simp [hq]
          · simp [hq]) (by unfold m_ref05_Validate_L2; simp only [end_dec, Bool.false_eq_true, if_false])]
      cases he2 : ferr (fun i r => if ruleE r != 0 then ruleE r else if findS b r.1 < (i : Int) then 5 else 0) 0 b.2.1 != 0 with
      | true => simp
      | false =>
        simp only [Bool.false_eq_true, if_false, Option.bind_some]
        rw [loop_ferr (B := m_ref05_Validate_L3 b) b.2.2 (fun _ p => promE b p) (fun e => e) 0 (fun i x hx => by
          unfold m_ref05_Validate_L3 promE m_ref05_rank
          simp only [at_dec hx, if_true, at_idx hx, Option.bind_some, ref_valid, ref_Find b x.1 h.r, at_suc hx h.m, ranked]
          by_cases hr : (decide (0 ≤ x.2.1) && decide (x.2.1 ≤ 9)) = true
          · simp only [hr, Bool.true_and, Bool.not_true, Bool.false_eq_true, if_false]
            cases hv : vName x.2.2.2 with
            | false => rfl
            | true =>
              simp only [Bool.not_true, Bool.false_eq_true, if_false, Option.bind_some, if_true]
              by_cases hn : findS b x.1 < 0
              · simp [hn]
              · obtain ⟨r, hr2⟩ := findS_idx hn
                simp only [hn, decide_false, Bool.false_eq_true, if_false, hr2, Option.bind_some]
                cases r.2.1 <;> simp
          · rw [Bool.not_eq_true] at hr
            simp only [hr, Bool.false_and, Bool.not_false, if_true, Option.bind_some, Bool.false_eq_true, if_false]
            rfl) (by unfold m_ref05_Validate_L3; simp only [end_dec, Bool.false_eq_true, if_false])]
        cases hz : ferr (fun _ p => promE b p) 0 b.2.2 != 0 with
        | true => simp
        | false => simp only [Bool.false_eq_true, if_false]; congr 1; exact (by simpa using hz : _ = (0 : Int)).symm
/-- what a valid base is -/
structure ValidB (b : T_Base) : Prop where
  np : b.1.length ≤ 16
  nr : b.2.1.length ≤ 24
  nm : b.2.2.length ≤ 8
  prem : ∀ p ∈ b.1, premE p = 0
  rule : ∀ r ∈ b.2.1, ruleE r = 0
  dp : ∀ (i j : Nat) p q, b.1[i]? = some p → b.1[j]? = some q → p.1 = q.1 → i = j
  dr : ∀ (i j : Nat) p q, b.2.1[i]? = some p → b.2.1[j]? = some q → p.1 = q.1 → i = j
  prom : ∀ p ∈ b.2.2, promE b p = 0
theorem fidx_first {α β : Type} [BEq β] [LawfulBEq β] (g : α → β) (l : List α) : (∀ (i : Nat) p, l[i]? = some p → ¬ fidx (fun x => g x == g p) l < (i : Int)) ↔ ∀ (i j : Nat) p q, l[i]? = some p → l[j]? = some q → g p = g q → i = j := by
  constructor
  · intro h i j p q hp hq e
    have h1 := h i p hp
    have h2 := h j q hq
    have h3 := (fidx_le (q := fun x => g x == g p) hq (by simp [e])).2
    have h4 := (fidx_le (q := fun x => g x == g q) hp (by simp [e])).2
    rw [e] at h1 h3
    omega
  · intro h i p hp hlt
    have h1 := fidx_le (q := fun x => g x == g p) hp (by simp)
    obtain ⟨k, x, e1, e2, e3, _⟩ := fidx_at h1.1
    have := h k i x p e2 hp (by simpa using e3)
    omega
theorem validS_iff {b : T_Base} : validS b = 0 ↔ ValidB b := by
  have hcnd : ∀ (a c : Int) (p : Prop) [Decidable p], (if a != 0 then a else if p then 5 else 0) = (0 : Int) ↔ a = 0 ∧ ¬ p := fun a c p _ => by
    by_cases ha : a = 0
    · by_cases hp : p <;> simp [ha, hp]
    · simp [ha]
  have h1 : ferr (fun i p => if premE p != 0 then premE p else if premS b p.1 < (i : Int) then 5 else 0) 0 b.1 = 0 ↔ (∀ p ∈ b.1, premE p = 0) ∧ ∀ (i j : Nat) p q, b.1[i]? = some p → b.1[j]? = some q → p.1 = q.1 → i = j := by
    rw [ferr_ok, ← fidx_first (fun p : T_Premise => p.1)]
    simp only [Nat.zero_add, hcnd _ 0]
    exact ⟨fun h => ⟨fun p hp => by obtain ⟨i, hi⟩ := List.mem_iff_getElem?.1 hp; exact (h i p hi).1, fun i p hp => (h i p hp).2⟩, fun h i p hp => ⟨h.1 p (mem_at hp), h.2 i p hp⟩⟩
  have h2 : ferr (fun i r => if ruleE r != 0 then ruleE r else if findS b r.1 < (i : Int) then 5 else 0) 0 b.2.1 = 0 ↔ (∀ p ∈ b.2.1, ruleE p = 0) ∧ ∀ (i j : Nat) p q, b.2.1[i]? = some p → b.2.1[j]? = some q → p.1 = q.1 → i = j := by
    rw [ferr_ok, ← fidx_first (fun p : T_Rule => p.1)]
    simp only [Nat.zero_add, hcnd _ 0]
    exact ⟨fun h => ⟨fun p hp => by obtain ⟨i, hi⟩ := List.mem_iff_getElem?.1 hp; exact (h i p hi).1, fun i p hp => (h i p hp).2⟩, fun h i p hp => ⟨h.1 p (mem_at hp), h.2 i p hp⟩⟩
  have h3 : ferr (fun _ p => promE b p) 0 b.2.2 = 0 ↔ ∀ p ∈ b.2.2, promE b p = 0 := by
    rw [ferr_ok]
    exact ⟨fun h p hp => by obtain ⟨i, hi⟩ := List.mem_iff_getElem?.1 hp; exact h i p hi, fun h i p hp => h p (mem_at hp)⟩
  unfold validS
  cases hc : (decide (16 < b.1.length) || decide (24 < b.2.1.length) || decide (8 < b.2.2.length)) with
  | true =>
    simp only [if_true]
    refine ⟨fun h => (by cases h), fun h => ?_⟩
    simp at hc
    have := h.np; have := h.nr; have := h.nm
    omega
  | false =>
    simp at hc
    simp only [Bool.false_eq_true, if_false]
    constructor
    · intro h
      have e1 : ferr (fun i p => if premE p != 0 then premE p else if premS b p.1 < (i : Int) then 5 else 0) 0 b.1 = 0 := by
        refine Decidable.byContradiction fun hn => ?_
        rw [if_pos (by simpa using hn)] at h
        exact hn h
      rw [if_neg (by rw [e1]; simp)] at h
      have e2 : ferr (fun i r => if ruleE r != 0 then ruleE r else if findS b r.1 < (i : Int) then 5 else 0) 0 b.2.1 = 0 := by
        refine Decidable.byContradiction fun hn => ?_
        rw [if_pos (by simpa using hn)] at h
        exact hn h
      rw [if_neg (by rw [e2]; simp)] at h
      exact ⟨by omega, by omega, by omega, (h1.1 e1).1, (h2.1 e2).1, (h1.1 e1).2, (h2.1 e2).2, h3.1 h⟩
    · intro h
      rw [if_neg (by rw [h1.2 ⟨h.prem, h.dp⟩]; simp), if_neg (by rw [h2.2 ⟨h.rule, h.dr⟩]; simp)]
      exact h3.2 h.prom
end

end Go.GD
