/- The plain law: what the models compute, in plain Lean. Conditions: none. -/
import Derived.Test.YtpphagbaaajicaaGreatPlU1
namespace Go.GD
set_option autoImplicit false

section
/-- there is an answer, and it is so -/
def Ok {α : Type} (x : Option α) (Q : α → Prop) : Prop := ∃ a, x = some a ∧ Q a
section
variable {α β : Type}
theorem Ok.ret {a : α} {Q : α → Prop} (h : Q a) : Ok (some a) Q := ⟨a, rfl, h⟩
theorem Ok.bind {x : Option α} {f : α → Option β} {I : α → Prop} {Q : β → Prop} (h : Ok x I) (k : ∀ a, I a → Ok (f a) Q) : Ok (x.bind f) Q := by
  obtain ⟨a, rfl, ha⟩ := h; exact k a ha
theorem Ok.ite {c : Bool} {x y : Option α} {Q : α → Prop} (hx : c = true → Ok x Q) (hy : c = false → Ok y Q) : Ok (if c = true then x else y) Q := by
  cases c with
  | true => exact hx rfl
  | false => exact hy rfl
theorem Ok.imp {x : Option α} {I Q : α → Prop} (h : Ok x I) (k : ∀ a, I a → Q a) : Ok x Q := by
  obtain ⟨a, h1, h2⟩ := h; exact ⟨a, h1, k a h2⟩
theorem Ok.idx {l : List α} {i : Int} (h0 : 0 ≤ i) (h1 : i < l.length) : Ok (idx l i) fun x => x ∈ l ∧ l[i.toNat]? = some x := by
  obtain ⟨x, h2, h3⟩ := idx_some h0 h1
  exact ⟨x, h2, List.mem_of_getElem? h3, h3⟩
theorem Ok.app {l m : List α} (h : l.length + m.length < 4294967296) : Ok (app l m) fun z => z = l ++ m := ⟨_, app_ok h, rfl⟩
end
section
variable {s : T_keep_Src}
theorem Ok.N {n : Int} (h : SrcOk s) (h0 : 0 ≤ n) (h1 : n ≤ 4611686018427387904) : Ok (m_keep_Src_N s n) fun r => 0 ≤ r.1 ∧ (1 ≤ n → r.1 < n) ∧ SrcOk (s.1, r.2) := by
  by_cases hn : 1 ≤ n
  · obtain ⟨v, k, e, a, b, c⟩ := keep_N h hn h1
    exact ⟨_, e, a, fun _ => b, c⟩
  · obtain ⟨v, k, hr, hk⟩ := keep_Raw h
    have hn1 : n < 1 := by omega
    refine ⟨(0, k), ?_, Int.le_refl _, fun h => absurd h hn, hk⟩
    simp [m_keep_Src_N, hr, m_keep_Mod, hn1]
theorem Ok.Text {l : List Str} (h : SrcOk s) (h0 : l ≠ []) (h1 : l.length ≤ 1000) : Ok (m_keep_Src_Text s l) fun r => r.1 ∈ l ∧ SrcOk (s.1, r.2) := by
  obtain ⟨x, k, e, a, b⟩ := keep_Text h h0 h1; exact ⟨_, e, a, b⟩
theorem Ok.Pick {l : List Int} (h : SrcOk s) (h0 : l ≠ []) (h1 : l.length ≤ 1000) : Ok (m_keep_Src_Pick s l) fun r => r.1 ∈ l ∧ SrcOk (s.1, r.2) := by
  obtain ⟨x, k, e, a, b⟩ := keep_PickI h h0 h1; exact ⟨_, e, a, b⟩
theorem Ok.Odd (h : SrcOk s) : Ok (m_keep_Src_Odd s) fun r => r.1.2.length ≤ 13 ∧ SrcOk (s.1, r.2) := by
  obtain ⟨g, x, k, e, a, b⟩ := keep_Odd h; exact ⟨_, e, a, b⟩
theorem Ok.Literal {n : Int} (h : SrcOk s) (h0 : 1 ≤ n) (h1 : n ≤ 26) : Ok (m_keep_Src_Literal s n) fun r => (∃ j : Nat, (j : Int) < n ∧ r.1.2 = atomN j) ∧ SrcOk (s.1, r.2) := by
  obtain ⟨g, j, k, e, a, b⟩ := keep_Literal h h0 h1; exact ⟨_, e, ⟨j, a, rfl⟩, b⟩
theorem Ok.Literals {m n : Int} (h : SrcOk s) (h0 : 0 ≤ m) (hm : m ≤ 1000000) (h1 : 1 ≤ n) (h2 : n ≤ 26) : Ok (m_keep_Src_Literals s m n) fun r => (r.1.length : Int) ≤ m ∧ (∀ x ∈ r.1, ∃ j : Nat, (j : Int) < n ∧ x.2 = atomN j) ∧ SrcOk (s.1, r.2) := by
  obtain ⟨l, k, e, a, b, c⟩ := keep_Lits h h0 hm h1 h2; exact ⟨_, e, a, b, c⟩
end
section
variable {α β σ τ ρ : Type}
/-- one round more, or an end -/
def Nx (mk : Nat → σ → τ) (I : Nat → σ → Prop) (Q : ρ → Prop) (i : Nat) : τ ⊕ ρ → Prop
  | .inl t => ∃ s, t = mk i s ∧ I i s
  | .inr r => Q r
def Fin (Q : ρ → Prop) : τ ⊕ ρ → Prop
  | .inl _ => False
  | .inr r => Q r
theorem Ok.forI {B : τ → Option (τ ⊕ ρ)} (mk : Nat → σ → τ) (l : List α) (I : Nat → σ → Prop) (Q : ρ → Prop) (hB : ∀ i x s, l[i]? = some x → I i s → Ok (B (mk i s)) (Nx mk I Q (i + 1)))
    (he : ∀ s, I l.length s → Ok (B (mk l.length s)) (Fin Q)) (s : σ) (h : I 0 s) : Ok (loop B (mk 0 s)) Q := by
  refine loop_forI mk l I Q (fun i x s hx hI => ?_) (fun s hI => ?_) s h
  · obtain ⟨o, h1, h2⟩ := hB i x s hx hI
    cases o with
    | inl t => obtain ⟨s', rfl, h3⟩ := h2; exact .inl ⟨s', h1, h3⟩
    | inr r => exact .inr ⟨r, h1, h2⟩
  · obtain ⟨o, h1, h2⟩ := he s hI
    cases o with
    | inl t => exact h2.elim
    | inr r => exact ⟨r, h1, h2⟩
theorem Ok.seqE {x : Option (σ ⊕ α)} {f : σ → Option α} {I : σ ⊕ α → Prop} {Q : α → Prop} (h : Ok x I) (k : ∀ a, I (.inl a) → Ok (f a) Q) (k2 : ∀ r, I (.inr r) → Q r) : Ok (seqE x f) Q := by
  obtain ⟨a, rfl, ha⟩ := h
  cases a with
  | inl a => exact k a ha
  | inr r => exact ⟨r, rfl, k2 r ha⟩
end
theorem dec_lt {α : Type} {l : List α} {i : Nat} {x : α} (h : l[i]? = some x) : decide ((i : Int) < len l) = true := decide_eq_true (show (i : Int) < (l.length : Int) by have := (List.getElem?_eq_some_iff.1 h).1; omega)
theorem dec_end {α : Type} {l : List α} : decide ((l.length : Int) < len l) = false := decide_eq_false (show ¬ (l.length : Int) < (l.length : Int) by omega)
structure SmallB (b : T_Base) : Prop where
  np : b.1.length ≤ 30
  nr : b.2.1.length ≤ 30
  nt : b.2.2.length ≤ 20
  bd : ∀ x ∈ b.2.1, x.2.2.2.1.length ≤ 8
  pn : ∀ p ∈ b.1, p.1.2.length ≤ 50 ∧ p.2.2.2.length ≤ 50
  rn : ∀ x ∈ b.2.1, x.1.length ≤ 50 ∧ x.2.2.2.2.2.length ≤ 50 ∧ ∀ y ∈ x.2.2.2.1, y.2.length ≤ 50
  tn : ∀ p ∈ b.2.2, p.1.length ≤ 50 ∧ p.2.2.2.length ≤ 50
theorem Ok.SmallBase (b : T_Base) : Ok (m_keep_SmallBase b) fun r => r = true → SmallB b := by
  unfold m_keep_SmallBase
  refine .ite (fun _ => .ret nofun) fun h0 => ?_
  simp only [Bool.or_eq_false_iff] at h0
  obtain ⟨h1, h2, h3⟩ := h0
  have h1 : ¬ (30 : Int) < (b.1.length : Int) := of_decide_eq_false h1
  have h2 : ¬ (30 : Int) < (b.2.1.length : Int) := of_decide_eq_false h2
  have h3 : ¬ (20 : Int) < (b.2.2.length : Int) := of_decide_eq_false h3
  have hst : ∀ {α : Type} {l : List α} {i : Nat} {x : α} {P : α → Prop}, l[i]? = some x → (∀ y ∈ l.take i, P y) → P x → ∀ y ∈ l.take (i + 1), P y := by
    intro α l i x P hx h hp y hy
    rw [List.take_add_one, hx] at hy
    rcases List.mem_append.1 hy with hy | hy
    · exact h y hy
    · simp at hy; subst hy; exact hp
  have hle : ∀ {s : Str}, decide (50 < len s) = false → s.length ≤ 50 := fun {s} h => by have : ¬ (50 : Int) < (s.length : Int) := of_decide_eq_false h; omega
  refine .seqE (I := fun o => match o with | .inl _ => ∀ p ∈ b.1, p.1.2.length ≤ 50 ∧ p.2.2.2.length ≤ 50 | .inr r => r = false) (Ok.forI (fun i (_ : Unit) => (i : Int)) b.1 (fun i _ => ∀ p ∈ b.1.take i, p.1.2.length ≤ 50 ∧ p.2.2.2.length ≤ 50) _ (fun i x _ hx hI => ?_) (fun _ hI => ?_) () (by simp)) (fun _ hp => ?_) (fun r hr => by dsimp only at hr; subst hr; exact nofun)
  · unfold m_keep_SmallBase_L1
    simp only [dec_lt hx, if_true, idx_nat, hx, Option.bind_some]
    refine .ite (fun _ => .ret rfl) fun hc => .ret ⟨(), w64_succ i (by have := (List.getElem?_eq_some_iff.1 hx).1; omega), ?_⟩
    simp only [Bool.or_eq_false_iff] at hc
    exact hst hx hI ⟨hle hc.1, hle hc.2⟩
  · unfold m_keep_SmallBase_L1
    simp only [dec_end, Bool.false_eq_true, if_false]
    exact .ret (by rw [List.take_of_length_le (Nat.le_refl _)] at hI; exact hI)
  refine .seqE (I := fun o => match o with | .inl _ => ∀ x ∈ b.2.1, x.2.2.2.1.length ≤ 8 ∧ x.1.length ≤ 50 ∧ x.2.2.2.2.2.length ≤ 50 ∧ ∀ y ∈ x.2.2.2.1, y.2.length ≤ 50 | .inr r => r = false)
    (Ok.forI (fun i (_ : Unit) => (i : Int)) b.2.1 (fun i _ => ∀ x ∈ b.2.1.take i, x.2.2.2.1.length ≤ 8 ∧ x.1.length ≤ 50 ∧ x.2.2.2.2.2.length ≤ 50 ∧ ∀ y ∈ x.2.2.2.1, y.2.length ≤ 50) _ (fun i x _ hx hI => ?_) (fun _ hI => ?_) () (by simp)) (fun _ hr => ?_) (fun r hr => by dsimp only at hr; subst hr; exact nofun)
  · unfold m_keep_SmallBase_L2
    simp only [dec_lt hx, if_true, idx_nat, hx, Option.bind_some]
    refine .ite (fun _ => .ret rfl) fun hc => ?_
    simp only [Bool.or_eq_false_iff] at hc
    have h8 : ¬ (8 : Int) < (x.2.2.2.1.length : Int) := of_decide_eq_false hc.1
    refine Ok.forI (fun i (_ : Unit) => (i : Int)) x.2.2.2.1 (fun i _ => ∀ y ∈ x.2.2.2.1.take i, y.2.length ≤ 50) _ (fun k y _ hy hK => ?_) (fun _ hK => ?_) () (by simp)
    · unfold m_keep_SmallBase_L3
      simp only [dec_lt hy, if_true, idx_nat, hy, Option.bind_some]
      exact .ite (fun _ => .ret rfl) fun hd => .ret ⟨(), w64_succ k (by have := (List.getElem?_eq_some_iff.1 hy).1; omega), hst hy hK (hle hd)⟩
    · unfold m_keep_SmallBase_L3
      simp only [dec_end, Bool.false_eq_true, if_false]
      rw [List.take_of_length_le (Nat.le_refl _)] at hK
      exact .ret ⟨(), w64_succ i (by have := (List.getElem?_eq_some_iff.1 hx).1; omega), hst hx hI ⟨by omega, hle hc.2.1, hle hc.2.2, hK⟩⟩
  · unfold m_keep_SmallBase_L2
    simp only [dec_end, Bool.false_eq_true, if_false]
    exact .ret (by rw [List.take_of_length_le (Nat.le_refl _)] at hI; exact hI)
  refine Ok.forI (fun i (_ : Unit) => (i : Int)) b.2.2 (fun i _ => ∀ p ∈ b.2.2.take i, p.1.length ≤ 50 ∧ p.2.2.2.length ≤ 50) _ (fun i x _ hx hI => ?_) (fun _ hI => ?_) () (by simp)
  · unfold m_keep_SmallBase_L4
    simp only [dec_lt hx, if_true, idx_nat, hx, Option.bind_some]
    refine .ite (fun _ => .ret nofun) fun hc => .ret ⟨(), w64_succ i (by have := (List.getElem?_eq_some_iff.1 hx).1; omega), ?_⟩
    simp only [Bool.or_eq_false_iff] at hc
    exact hst hx hI ⟨hle hc.1, hle hc.2⟩
  · unfold m_keep_SmallBase_L4
    simp only [dec_end, Bool.false_eq_true, if_false]
    exact .ret fun _ => ⟨by omega, by omega, by omega, fun x hx => (hr x hx).1, hp, fun x hx => (hr x hx).2, by rw [List.take_of_length_le (Nat.le_refl _)] at hI; exact hI⟩
theorem SmallB.cnt {b : T_Base} (h : SmallB b) : Cnt b := ⟨by have := h.np; omega, by have := h.nr; omega, by have := h.nt; omega, fun r hr => by have := h.bd r hr; omega⟩
/-- how many there are, and what the rules' bodies are like -/
structure Bnd (B : T_Rule → Prop) (b : T_Base) (p r t : Nat) : Prop where
  np : b.1.length ≤ p
  nr : b.2.1.length ≤ r
  nt : b.2.2.length ≤ t
  bd : ∀ x ∈ b.2.1, B x
theorem mem_set_of {α : Type} {l : List α} {i : Nat} {y x : α} (h : x ∈ l.set i y) : x = y ∨ x ∈ l := by
  rcases List.mem_or_eq_of_mem_set h with h | h
  · exact .inr h
  · exact .inl h
theorem app_nil_ok {α : Type} {l : List α} (h : l.length < 4294967296) : app ([] : List α) l = some l := by rw [app_ok (by simpa using h), List.nil_append]
theorem foldl_snoc {α : Type} : ∀ (l m : List α), l.foldl (fun s x => s ++ [x]) m = m ++ l
  | [], m => by simp
  | x :: l, m => by rw [List.foldl_cons, foldl_snoc l]; simp
theorem Spoilt_L1 (b : T_Base) (hr : b.2.1.length ≤ 1000) (hb : ∀ x ∈ b.2.1, x.2.2.2.1.length ≤ 1000) : loop (m_keep_Src_SpoiltBase_L1 b) (0, ([] : List T_Rule)) = some b.2.1 := by
  have h := loop_fold' (B := m_keep_Src_SpoiltBase_L1 b) b.2.1 (fun s x => s ++ [x]) (fun s => s) (fun i s => s.length = i) [] rfl (fun i x s hx hI => ?_) (fun s _ => ?_)
  · rw [h.1, foldl_snoc, List.nil_append]
  · have hlt := (List.getElem?_eq_some_iff.1 hx).1
    have hd : decide ((i : Int) < len b.2.1) = true := decide_eq_true (show (i : Int) < (b.2.1.length : Int) by omega)
    refine ⟨?_, by simp [hI]⟩
    unfold m_keep_Src_SpoiltBase_L1
    simp only [hd, if_true, idx_nat, hx, Option.bind_some]
    rw [app_nil_ok (by have := hb x (List.mem_of_getElem? hx); omega)]
    simp only [Option.bind_some]
    rw [app_ok (by simp; omega), w64_succ i (by omega)]
    rfl
  · unfold m_keep_Src_SpoiltBase_L1
    have hd : decide ((b.2.1.length : Int) < len b.2.1) = false := decide_eq_false (show ¬ (b.2.1.length : Int) < (b.2.1.length : Int) by omega)
    simp only [hd, Bool.false_eq_true, if_false]
/-- what a change may make of a rule -/
structure Chg (B B' : T_Rule → Prop) : Prop where
  up : ∀ x, B x → B' x
  nm : ∀ x n, B x → B' (n, x.2)
  rk : ∀ x k, B x → B' (x.1, x.2.1, k, x.2.2.2)
  st : ∀ x g, B x → B' (x.1, g, x.2.2)
  hd : ∀ x h, B x → B' (x.1, x.2.1, x.2.2.1, x.2.2.2.1, h)
  ap : ∀ x l, B x → B' (x.1, x.2.1, x.2.2.1, x.2.2.2.1 ++ [l], x.2.2.2.2)
  nw : ∀ x (m : List T_Literal), m.length ≤ 6 → B x → B' (x.1, x.2.1, x.2.2.1, m, x.2.2.2.2)
theorem Ok.SpoiltBase {s : T_keep_Src} {b : T_Base} {B B' : T_Rule → Prop} {p r t : Nat} (h : SrcOk s) (hb : Bnd B b p r t) (hB : Chg B B') (hl : ∀ x, B x → x.2.2.2.1.length ≤ 1000) (hp : p ≤ 1000) (hr : r ≤ 1000) (ht : t ≤ 1000) :
    Ok (m_keep_Src_SpoiltBase s b) fun o => SrcOk (s.1, o.2) ∧ Bnd B' o.1 p (r + 1) (t + 1) := by
  have h1 := hb.np
  have h2 := hb.nr
  have h3 := hb.nt
  unfold m_keep_Src_SpoiltBase
  refine Ok.bind (I := fun o => o = (b.1, ([] : List T_Rule), b.2.2)) ?_ fun s1 hs1 => ?_
  · rw [app_nil_ok (by omega), Option.bind_some, app_nil_ok (by omega)]
    exact .ret rfl
  subst hs1
  dsimp only
  rw [Spoilt_L1 b (by omega) fun x hx => hl x (hb.bd x hx), Option.bind_some]
  refine Ok.bind (Ok.N h (show (0 : Int) ≤ (b.1.length : Int) by omega) (show (b.1.length : Int) ≤ _ by omega)) fun r1 hr1 => ?_
  obtain ⟨a1, a2, a3⟩ := hr1
  refine Ok.bind (I := fun o => (o.1 = true → 0 < b.1.length) ∧ SrcOk (s.1, o.2)) (.ite (fun hc => ?_) fun _ => .ret ⟨nofun, a3⟩) fun s4 hs4 => ?_
  · have hc : (0 : Int) < (b.1.length : Int) := of_decide_eq_true hc
    exact .bind (Ok.N a3 (by omega) (by omega)) fun r2 hr2 => .ret ⟨fun _ => by omega, hr2.2.2⟩
  obtain ⟨b1, b2⟩ := hs4
  refine .ite (fun hc => ?_) fun _ => ?_
  · have hpos := b1 hc
    have a4 : r1.1 < (b.1.length : Int) := a2 (show (1 : Int) ≤ (b.1.length : Int) by omega)
    refine .bind (I := fun o => SrcOk (s.1, o.1) ∧ o.2.1.length = b.1.length ∧ o.2.2 = b.2.1) ?_ fun o ho => .ret ⟨ho.1, by show o.2.1.length ≤ p; omega, by show o.2.2.length ≤ r + 1; rw [ho.2.2]; omega, by show b.2.2.length ≤ t + 1; omega, fun x hx => hB.up x (hb.bd x (by rw [← ho.2.2]; exact hx))⟩
    refine .bind (Ok.N b2 (by omega) (by omega)) fun r3 hr3 => ?_
    have hk := hr3.2.2
    refine .ite (fun _ => ?_) fun _ => .ite (fun _ => ?_) fun _ => .ite (fun _ => ?_) fun _ => .ite (fun _ => ?_) fun _ => ?_
    · exact .bind (Ok.N hk (by omega) (by omega)) fun r4 hr4 => .bind (.idx a1 a4) fun x _ => .ret ⟨hr4.2.2, by simp, rfl⟩
    · exact .bind (Ok.Pick hk (by simp) (by simp)) fun r4 hr4 => .bind (.idx a1 a4) fun x _ => .ret ⟨hr4.2, by simp, rfl⟩
    · exact .bind (Ok.Odd hk) fun r4 hr4 => .bind (.idx a1 a4) fun x _ => .ret ⟨hr4.2, by simp, rfl⟩
    · exact .bind (Ok.Text hk (by simp) (by simp)) fun r4 hr4 => .bind (.idx a1 a4) fun x _ => .ret ⟨hr4.2, by simp, rfl⟩
    · exact .bind (.idx (Int.le_refl 0) (by omega)) fun y _ => .bind (.idx a1 a4) fun x _ => .ret ⟨hk, by simp, rfl⟩
  · refine Ok.bind (Ok.N b2 (show (0 : Int) ≤ (b.2.1.length : Int) by omega) (show (b.2.1.length : Int) ≤ _ by omega)) fun r8 hr8 => ?_
    obtain ⟨a1, a2, a3⟩ := hr8
    refine Ok.bind (I := fun o => (o.1 = true → 0 < b.2.1.length) ∧ SrcOk (s.1, o.2)) (.ite (fun hc => ?_) fun _ => .ret ⟨nofun, a3⟩) fun s6 hs6 => ?_
    · have hc : (0 : Int) < (b.2.1.length : Int) := of_decide_eq_true hc
      exact .bind (Ok.N a3 (by omega) (by omega)) fun r2 hr2 => .ret ⟨fun _ => by omega, hr2.2.2⟩
    obtain ⟨b1, b2⟩ := hs6
    refine .ite (fun hc => ?_) fun _ => ?_
    · have hpos := b1 hc
      have a4 : r8.1 < (b.2.1.length : Int) := a2 (show (1 : Int) ≤ (b.2.1.length : Int) by omega)
      refine .bind (I := fun o => SrcOk (s.1, o.1) ∧ o.2.length ≤ r + 1 ∧ ∀ x ∈ o.2, B' x) ?_ fun o ho => .ret ⟨ho.1, by show b.1.length ≤ p; omega, ho.2.1, by show b.2.2.length ≤ t + 1; omega, ho.2.2⟩
      have hset : ∀ y, B' y → (b.2.1.set r8.1.toNat y).length ≤ r + 1 ∧ ∀ x ∈ b.2.1.set r8.1.toNat y, B' x := fun y hy => ⟨by simp; omega, fun x hx => by
        rcases mem_set_of hx with rfl | hx
        · exact hy
        · exact hB.up x (hb.bd x hx)⟩
      refine .bind (Ok.N b2 (by omega) (by omega)) fun r3 hr3 => ?_
      have hk := hr3.2.2
      refine .ite (fun _ => ?_) fun _ => .ite (fun _ => ?_) fun _ => .ite (fun _ => ?_) fun _ => .ite (fun _ => ?_) fun _ => .ite (fun _ => ?_) fun _ => .ite (fun _ => ?_) fun _ => ?_
      · exact .bind (Ok.Text hk (by simp) (by simp)) fun r4 hr4 => .bind (.idx a1 a4) fun x hx => .ret ⟨hr4.2, hset _ (hB.nm x r4.1 (hb.bd x hx.1))⟩
      · exact .bind (Ok.Pick hk (by simp) (by simp)) fun r4 hr4 => .bind (.idx a1 a4) fun x hx => .ret ⟨hr4.2, hset _ (hB.rk x r4.1 (hb.bd x hx.1))⟩
      · exact .bind (.idx a1 a4) fun y _ => .bind (.idx a1 a4) fun x hx => .ret ⟨hk, hset _ (hB.st x _ (hb.bd x hx.1))⟩
      · exact .bind (Ok.Odd hk) fun r4 hr4 => .bind (.idx a1 a4) fun x hx => .ret ⟨hr4.2, hset _ (hB.hd x r4.1 (hb.bd x hx.1))⟩
      · exact .bind (.idx a1 a4) fun y hy => .bind (.idx a1 a4) fun _ _ => .bind (Ok.Literal hk (by omega) (by omega)) fun r4 hr4 => .bind (.app (by have := hl y (hb.bd y hy.1); simp; omega)) fun z hz => .bind (.idx a1 a4) fun _ _ => .ret ⟨hr4.2, by subst hz; exact hset _ (hB.ap y r4.1 (hb.bd y hy.1))⟩
      · exact .bind (Ok.Literals hk (by omega) (by omega) (by omega) (by omega)) fun r4 hr4 => .bind (.idx a1 a4) fun x hx => .ret ⟨hr4.2.2, hset _ (hB.nw x r4.1 (by have := hr4.1; omega) (hb.bd x hx.1))⟩
      · exact .bind (.idx a1 a4) fun x hx => .bind (.app (by simp; omega)) fun z hz => .ret ⟨hk, by subst hz; simp; omega, fun y hy => by
          subst hz
          rcases List.mem_append.1 hy with hy | hy
          · exact hB.up y (hb.bd y hy)
          · simp at hy; subst hy; exact hB.up _ (hb.bd _ hx.1)⟩
    · refine .bind (I := fun o => SrcOk (s.1, o.1) ∧ o.2.length ≤ t + 1) ?_ fun o ho => .ret ⟨ho.1, by show b.1.length ≤ p; omega, by show b.2.1.length ≤ r + 1; omega, ho.2, fun x hx => hB.up x (hb.bd x hx)⟩
      exact .bind (Ok.Text b2 (by simp) (by simp)) fun r16 h16 => .bind (Ok.Pick h16.2 (by simp) (by simp)) fun r17 h17 => .bind (Ok.Literal h17.2 (by omega) (by omega)) fun r18 h18 => .bind (.app (by simp; omega)) fun z hz => .ret ⟨h18.2, by subst hz; simp; omega⟩
theorem chg_len (k : Nat) (hk : 5 ≤ k) : Chg (fun x => x.2.2.2.1.length ≤ k) (fun x => x.2.2.2.1.length ≤ k + 1) :=
  ⟨fun _ h => Nat.le_succ_of_le h, fun _ _ h => Nat.le_succ_of_le h, fun _ _ h => Nat.le_succ_of_le h, fun _ _ h => Nat.le_succ_of_le h, fun _ _ h => Nat.le_succ_of_le h, fun _ _ h => by simpa using h, fun _ m hm _ => by show m.length ≤ k + 1; omega⟩
theorem Bnd.cnt {b : T_Base} {k p r t : Nat} (h : Bnd (fun x => x.2.2.2.1.length ≤ k) b p r t) (hk : k ≤ 1000) (hp : p ≤ 1000) (hr : r ≤ 1000) (ht : t ≤ 1000) : Cnt b :=
  ⟨by have := h.np; omega, by have := h.nr; omega, by have := h.nt; omega, fun r hr => by have := h.bd r hr; omega⟩
theorem Drawn.bnd {b : T_Base} {n p q : Int} (h : Drawn b n p q) : Bnd (fun x => x.2.2.2.1.length ≤ 5) b 16 24 2 := ⟨h.valid.np, h.valid.nr, h.nm, fun r hr => by have := h.bd r hr; omega⟩
end
section
variable {b : T_Base} {l : List T_Argument}
theorem small_of (h : ValidB b) (hr : b.2.1.length ≤ 12) : Small b (b.2.1.map fun r => r.2.2.2.2) 4 := by
  refine ⟨h, fun r hr => ⟨List.mem_map.2 ⟨r, hr, rfl⟩, ruleE_len (h.rule r hr)⟩, ?_⟩
  rw [List.length_map]
  calc (4 + 1) ^ b.2.1.length ≤ 5 ^ 12 := Nat.pow_le_pow_right (by omega) hr
    _ < 4294967296 := by decide
theorem Whole.prem {x : List T_Argument} (h : Whole b x) {i : Nat} {a : T_Argument} (hi : x[i]? = some a) (hn : i < b.1.length) : ∃ p, b.1[i]? = some p ∧ a = ((i : Int), -1, [], p.1) := by
  obtain ⟨m, hm⟩ := h.pre
  rw [hm, List.getElem?_append_left (by rw [premA_len]; exact hn)] at hi
  exact premA_at hi
theorem Whole.np {x : List T_Argument} (h : Whole b x) : b.1.length ≤ x.length := by
  obtain ⟨m, hm⟩ := h.pre
  rw [hm, List.length_append, premA_len]
  omega
theorem Whole.rule {x : List T_Argument} (h : Whole b x) {i : Nat} {a : T_Argument} (hi : x[i]? = some a) (hn : b.1.length ≤ i) : a.1 = -1 ∧ ∃ r, idx b.2.1 a.2.1 = some r ∧ 0 ≤ a.2.1 ∧ a.2.1 < b.2.1.length ∧ a.2.2.2 = r.2.2.2.2 ∧ a.2.2.1.length = r.2.2.2.1.length ∧ ∀ (j : Nat) k y, a.2.2.1[j]? = some k → r.2.2.2.1[j]? = some y → ∃ a', idx x k = some a' ∧ a'.2.2.2 = y := by
  rcases h.form.kind i a hi with ⟨_, g, _⟩ | ⟨g1, g2, g3⟩
  · omega
  · obtain ⟨r, hr⟩ := idx_ok (l := b.2.1) g2 g3
    obtain ⟨e1, e2, e3⟩ := h.form.ru i a r hi g2 hr
    exact ⟨g1, r, hr, g2, g3, e1, e2, e3⟩
end
section
theorem refInts_self (l : List Int) (h : l.length < 4294967296) : m_ref07_Ints l l = some true := by
  unfold m_ref07_Ints
  simp only [bne_self_eq_false, Bool.false_eq_true, if_false]
  exact loop_for (l := l) (fun i x hx => by
    have := (List.getElem?_eq_some_iff.1 hx).1
    unfold m_ref07_Ints_L1
    simp only [dec_lt hx, if_true, idx_nat, hx, Option.bind_some, bne_self_eq_false, Bool.false_eq_true, if_false, w64_succ i (by omega)]) (by
    unfold m_ref07_Ints_L1
    simp only [dec_end, Bool.false_eq_true, if_false])
theorem refSame_self (l : List T_Argument) (h : l.length < 4294967296) (hs : ∀ a ∈ l, a.2.2.1.length < 4294967296) : m_ref07_Same l l = some true := by
  unfold m_ref07_Same
  simp only [bne_self_eq_false, Bool.false_eq_true, if_false]
  exact loop_for (l := l) (fun i x hx => by
    have := (List.getElem?_eq_some_iff.1 hx).1
    unfold m_ref07_Same_L1
    simp only [dec_lt hx, if_true, idx_nat, hx, Option.bind_some, bne_self_eq_false, Bool.false_eq_true, if_false, beq_self_eq_true, Bool.not_true, refInts_self _ (hs x (List.mem_of_getElem? hx)), w64_succ i (by omega)]) (by
    unfold m_ref07_Same_L1
    simp only [dec_end, Bool.false_eq_true, if_false])
/-- both answer the same, and the answer can be compared -/
theorem builds_same {b : T_Base} (hc : Cnt b) (hr : b.2.1.length ≤ 12) : ∃ r, m_argument_Build b = some r ∧ m_ref07_Build b = some r ∧ m_ref07_Same r.1 r.1 = some true := by
  by_cases hv : ValidB b
  · have hs := small_of hv hr
    refine ⟨_, arg_Build hs, ref_Build hs, ?_⟩
    cases hb : buildS b with
    | none => exact refSame_self [] (by simp) (by simp)
    | some x =>
      have hw := buildS_whole hs hb
      exact refSame_self x (by have := hw.len; omega) fun a ha => by
        have h1 := hw.form.toFormC.toFormB.toFormA.nsub a ha
        omega
  · exact ⟨_, arg_Build_bad hc hv, ref_Build_bad hc hv, refSame_self [] (by simp) (by simp)⟩
theorem p_ArgumentBuilds (hw : m_law07_awake = some true) (y0 : T_Base) (y1 : List Int) : m_law07_ArgumentBuilds y0 y1 = some true := by
  suffices h : Ok (m_law07_ArgumentBuilds y0 y1) fun r => r = true by obtain ⟨r, h1, rfl⟩ := h; exact h1
  unfold m_law07_ArgumentBuilds
  refine .bind (I := fun o => o = false → SmallB y0 ∧ y0.2.1.length ≤ 12) (.bind (Ok.SmallBase y0) fun r hr => .ite (fun _ => .ret nofun) fun hc => .ite (fun _ => .ret nofun) fun h2 => .ret fun _ => ⟨hr (by simpa using hc), by have h : ¬ (12 : Int) < (y0.2.1.length : Int) := of_decide_eq_false h2; omega⟩) fun s1 hs1 => .ite (fun _ => .ret rfl) fun hc => ?_
  obtain ⟨hs0, hr0⟩ := hs1 hc
  rw [keep_New]
  simp only [Option.bind_some]
  obtain ⟨b, k, e1, hk, hd⟩ := keep_Base (srcOk_New y1) (n := 4) (p := 5) (q := 7) (by omega) (by omega) (by omega) (by omega) (by omega) (by omega)
  rw [e1]
  simp only [Option.bind_some]
  have hbd : Bnd (fun x => x.2.2.2.1.length ≤ 5) b 5 7 2 := ⟨by have := hd.np; omega, by have := hd.nr; omega, hd.nm, fun r hr => by have := hd.bd r hr; omega⟩
  refine .seqE (I := fun o => o = .inl ()) (.bind (Ok.SpoiltBase hk hbd (chg_len 5 (by omega)) (fun x h => by omega) (by omega) (by omega) (by omega)) fun r4 h4 => ?_) (fun _ _ => by rw [hw]; exact .ret rfl) (fun r hr => by cases hr)
  obtain ⟨b2, k2, e2, hk2, hd2⟩ := keep_Base h4.1 (n := 3) (p := 3) (q := 6) (by omega) (by omega) (by omega) (by omega) (by omega) (by omega)
  have e2' : m_keep_Src_Base ((y1.take 2000, (0 : Int)).1, r4.2) 3 3 6 = some (b2, k2) := e2
  rw [e2']
  simp only [Option.bind_some]
  have hcnt : ∀ x ∈ [y0, b, r4.1, b2], Cnt x ∧ x.2.1.length ≤ 12 := by
    intro x hx
    simp only [List.mem_cons, List.not_mem_nil, or_false] at hx
    rcases hx with rfl | rfl | rfl | rfl
    · exact ⟨hs0.cnt, hr0⟩
    · exact ⟨hbd.cnt (by omega) (by omega) (by omega) (by omega), by have := hbd.nr; omega⟩
    · exact ⟨h4.2.cnt (by omega) (by omega) (by omega) (by omega), by have := h4.2.nr; omega⟩
    · exact ⟨hd2.bnd.cnt (by omega) (by omega) (by omega) (by omega), by have := hd2.nr; omega⟩
  refine Ok.forI (fun i (_ : Unit) => (i : Int)) [y0, b, r4.1, b2] (fun _ _ => True) _ (fun i x _ hx _ => ?_) (fun _ _ => ?_) () trivial
  · have hi : i < 4 := (List.getElem?_eq_some_iff.1 hx).1
    obtain ⟨hc, hr⟩ := hcnt x (List.mem_of_getElem? hx)
    obtain ⟨r, g1, g2, g3⟩ := builds_same hc hr
    unfold m_law07_ArgumentBuilds_L1
    simp only [dec_lt hx, if_true, idx_nat, hx, Option.bind_some, g1, g2, g3, bne_self_eq_false, Bool.false_eq_true, if_false, Bool.not_true]
    exact .ret ⟨(), w64_succ i (by omega), trivial⟩
  · unfold m_law07_ArgumentBuilds_L1
    simp only [dec_end, Bool.false_eq_true, if_false]
    exact .ret rfl
end
section
theorem builds_awake : m_law07_awake = some true := (le_law07_awake 60).el true (by kernel_rfl)
theorem p_law07_ArgumentBuilds (y0 : T_Base) (y1 : List Int) {W0 W1 : Prop} (_w0 : W0) (_w1 : W1) : m_law07_ArgumentBuilds y0 y1 = some true := p_ArgumentBuilds builds_awake y0 y1
end

end Go.GD
