/- The walk of a function in one judgement: the state, the model's term and the place in the code go side by side. Conditions: none. -/
import Derived.Test.YtofmfdlkalakaaaGreatDoorMap
import Derived.Test.YtofmfdlkalakaaaGreatDoorCopy
namespace Go.GD
open Go Go.RowKit
set_option autoImplicit false
variable {qd : Prop}

abbrev sv {τ : Type} (p : Option Addr) (l : List τ) (c : Nat) : Value := .slice p (List.length l) c
abbrev Rl {τ : Type} (e : E τ) (p : Option Addr) (c : Nat) (l : List τ) : PP := R e p c (List.length l) l
abbrev Al {τ : Type} (e : E τ) (te : TypeId) (r : Res) (p : Option Addr) (c : Nat) (l : List τ) : PP := Ar e te r p c (List.length l) l
abbrev pt (b o : Nat) : Value := .pointer (some ⟨b, o, none⟩)

abbrev Sl := List (Nat × Value)
abbrev PQ (ρ : Type) := ρ → Exit → Act → World → Prop
/-- what stays the same within a call -/
structure Hd (qd : Prop) where
  A : List Nat
  L0 : List Res
  w0 : World
/-- no way out by a panic -/
def NP {ρ : Type} (Q : PQ ρ) : Prop := ∀ r c a w, Q r (.panic c) a w → False

/-- a place in the code -/
inductive Pos
  | code (c : Code)
  | ops (os : Array Oper) (l : List Oper)
  | dr (os : Array Oper) (B J : List Nat) (fuel : Nat) (li : Array Bool)
  | fo (i : Nat) (os : Array Oper) (B J : List Nat) (fuel : Nat) (li : Array Bool)
  | af (L0 : List Res) (os : Array Oper) (B J : List Nat) (fuel : Nat) (li : Array Bool)
  | ex (e : Exit)

def Pos.go (qd : Prop) (P : Program) (A : List Nat) (Ls : List Res) (Q : Exit → Act → World → Prop) (a : Act) (w : World) : Pos → Prop
  | .code c => c.wp P Q a w
  | .ops os l => wpList P os Q l a w
  | .dr os B J f li => wpL P os Q (SB B (CC qd A Ls w J)) f li a w
  | .fo i os B J f li => ∃ o, os[i]? = some o ∧ Stp P os Q o (fun a' w' => SB B (CC qd A Ls w J) (li.setIfInBounds i true) w' ∧ wpL P os Q (SB B (CC qd A Ls w J)) f (li.setIfInBounds i true) a' w') a w
  | .af L0 os B J f li => ∀ w0, Ext qd L0 w0 Ls w → SB B (CC qd A L0 w0 J) li w ∧ wpL P os Q (SB B (CC qd A L0 w0 J)) f li a w
  | .ex e => Q e a w

structure J (P : Program) (n : Nat) (X : Hd qd) {ρ : Type} (Q : PQ ρ) (p : Pos) (S : Sl) (Ls : List Res) (F : List PP) (m : Option ρ) : Prop where
  go : NP Q → ∀ r, m = some r → ∀ a w, SS qd X.A X.L0 X.w0 n S Ls F a w → p.go qd P X.A Ls (Q r) a w

/-! ### Lists, so that what comes out is plain -/

def snocC {α : Type} : List α → α → (List α → Prop) → Prop
  | [], r, k => k [r]
  | a :: l, r, k => snocC l r fun l' => k (a :: l')
theorem snocC_eq {α : Type} : ∀ {l : List α} {r : α} {k : List α → Prop}, snocC l r k = k (l ++ [r])
  | [], _, _ => rfl
  | a :: l, r, k => by simp only [snocC, snocC_eq, List.cons_append]
def appC {α : Type} : List α → List α → (List α → Prop) → Prop
  | [], l, k => k l
  | a :: m, l, k => appC m l fun l' => k (a :: l')
theorem appC_eq {α : Type} : ∀ {m l : List α} {k : List α → Prop}, appC m l k = k (m ++ l)
  | [], _, _ => rfl
  | a :: m, l, k => by simp only [appC, appC_eq, List.cons_append]
def setC {α : Type} : List α → Nat → α → (List α → Prop) → Prop
  | [], _, _, k => k []
  | _ :: l, 0, r, k => k (r :: l)
  | a :: l, i + 1, r, k => setC l i r fun l' => k (a :: l')
theorem setC_eq {α : Type} : ∀ {l : List α} {i : Nat} {r : α} {k : List α → Prop}, setC l i r k = k (l.set i r)
  | [], _, _, _ => rfl
  | _ :: _, 0, _, _ => rfl
  | a :: l, i + 1, r, k => by simp only [setC, setC_eq, List.set_cons_succ]
/-- the blocks behind a call -/
def callC : List Nat → List Res → List Res → (List Res → Prop) → Prop
  | [], L1, Ls, k => match L1 with
    | [] => k Ls
    | _ :: _ => appC Ls L1 k
  | _ :: _, [], _, _ => False
  | j :: js, r :: L1, Ls, k => setC Ls j r fun Ls' => callC js L1 Ls' k
theorem callC_spec : ∀ {js : List Nat} {L1 Ls : List Res} {k : List Res → Prop}, callC js L1 Ls k → Nat.ble js.length L1.length = true ∧ k (fill js (L1.take js.length) Ls ++ L1.drop js.length)
  | [], L1, Ls, k, h => by
    refine ⟨by simp, ?_⟩
    cases L1 with
    | nil => simpa [callC, fill] using h
    | cons r L1 => simpa [callC, appC_eq, fill] using h
  | j :: js, [], Ls, k, h => h.elim
  | j :: js, r :: L1, Ls, k, h => by
    simp only [callC, setC_eq] at h
    obtain ⟨h1, h2⟩ := callC_spec h
    refine ⟨by simpa [Nat.ble_eq] using h1, ?_⟩
    simpa [fill] using h2

/-! ### Operations that only compute, run so that their values are plain terms -/

section
variable {β : Type}
def lookC : Sl → Nat → (Value → Option β) → Option β
  | [], _, _ => none
  | (i, v) :: r, j, k => bif Nat.beq i j then k v else lookC r j k
theorem lookC_eq : ∀ {S : Sl} {j : Nat} {k : Value → Option β}, lookC S j k = (look S j).bind k
  | [], _, _ => rfl
  | (i, v) :: r, j, k => by
    simp only [lookC, look]
    cases Nat.beq i j with
    | true => rfl
    | false => exact lookC_eq
def opdC (S : Sl) (x : Operand) (k : Value → Option β) : Option β := match x with
  | .tmp t => lookC S t k
  | .const v => k v
  | .func f => k (.func (.func f) #[] #[])
  | .global g => k (.pointer (some ⟨g, 0, none⟩))
theorem opdC_eq {S : Sl} {x : Operand} {k : Value → Option β} : opdC S x k = (opd S x).bind k := by
  cases x <;> simp [opdC, opd, lookC_eq]
def opdsC (S : Sl) : List Operand → (List Value → Option β) → Option β
  | [], k => k []
  | x :: r, k => opdC S x fun v => opdsC S r fun vs => k (v :: vs)
theorem opdsC_eq {S : Sl} : ∀ {xs : List Operand} {k : List Value → Option β}, opdsC S xs k = (opds S xs).bind k
  | [], _ => rfl
  | x :: r, k => by
    simp only [opdsC, opds, opdC_eq, opdsC_eq]
    cases opd S x with
    | none => rfl
    | some v => cases opds S r <;> rfl
def intC (op : BinOp) (k : IntKind) (a b : Int) (kk : Value → Option β) : Option β :=
  match op with
  | .add => kk (.int k (k.wrap (a + b)))
  | .sub => kk (.int k (k.wrap (a - b)))
  | .mul => kk (.int k (k.wrap (a * b)))
  | .and => kk (.int k (band k a b))
  | .or => kk (.int k (bor k a b))
  | .xor => kk (.int k (bxor k a b))
  | .andNot => kk (.int k (bandNot k a b))
  | .eql => kk (.bool (a == b))
  | .neq => kk (.bool (a != b))
  | .lss => kk (.bool (decide (a < b)))
  | .leq => kk (.bool (decide (a ≤ b)))
  | .gtr => kk (.bool (decide (b < a)))
  | .geq => kk (.bool (decide (b ≤ a)))
  | _ => none
theorem intC_eq {op : BinOp} {k : IntKind} {a b : Int} {kk : Value → Option β} : intC op k a b kk = (intBin op k a b).bind kk := by cases op <;> rfl
def strC (op : BinOp) (a b : Str) (kk : Value → Option β) : Option β :=
  match op with
  | .eql => kk (.bool (a == b))
  | .neq => kk (.bool (!(a == b)))
  | .lss => kk (.bool (sless a b))
  | .leq => kk (.bool (sless a b || a == b))
  | .gtr => kk (.bool (!(sless a b || a == b)))
  | .geq => kk (.bool (!(sless a b)))
  | _ => none
theorem strC_eq {op : BinOp} {a b : Str} {kk : Value → Option β} : strC op a b kk = (strBin op a b).bind kk := by cases op <;> rfl
/-- the same kind? -/
def kindC (k k' : IntKind) (x : Option β) : Option β := match k, k' with
  | .i8, .i8 | .i16, .i16 | .i32, .i32 | .i64, .i64 | .u8, .u8 | .u16, .u16 | .u32, .u32 | .u64, .u64 => x
  | _, _ => none
theorem kindC_spec {k k' : IntKind} {x : Option β} {r : β} (h : kindC k k' x = some r) : k = k' ∧ x = some r := by
  cases k <;> cases k' <;> first | exact ⟨rfl, h⟩ | cases h

def binC (op : BinOp) (u v : Value) (kk : Value → Option β) : Option β := match u, v with
  | .int k a, .int k' b => kindC k k' (intC op k a b kk)
  | .string ⟨⟨a⟩⟩, .string ⟨⟨b⟩⟩ => strC op a b kk
  | _, _ => none

def lenC (u : Value) (kk : Bool → Value → Option β) : Option β := match u with
  | .string ⟨⟨s⟩⟩ => kk true (vi (len s))
  | .slice _ n _ => kk false (vi (n : Int))
  | _ => none
/-- what a type must be -/
abbrev Ob := TypeId × Bool
def obOk (P : Program) : List Ob → Bool
  | [] => true
  | (t, true) :: r => (match P.underlying t with | some .string => true | _ => false) && obOk P r
  | (t, false) :: r => (match P.underlying t with | some (.slice _) => true | _ => false) && obOk P r

/-- pv said in the way of a continuation; what is not covered here has no value. Types are asked for behind -/
def pvC (S : Sl) (op : Op) (ob : List Ob) (kk : List Ob → Value → Option β) : Option β := match op with
  | .move x => opdC S x (kk ob)
  | .assign x => opdC S x (kk ob)
  | .binOp op _ x y _ => opdC S x fun u => opdC S y fun v => binC op u v (kk ob)
  | .unOp .not _ x => opdC S x fun u => match u with
    | .bool b => kk ob (.bool (!b))
    | _ => none
  | .unOp .neg _ x => opdC S x fun u => match u with
    | .int k n => kk ob (.int k (k.wrap (0 - n)))
    | _ => none
  | .extract x i => opdC S x fun u => match u with
    | .tuple ⟨vs⟩ => match vs[i]? with
      | some v => kk ob v
      | none => none
    | _ => none
  | .nilCheck x => opdC S x fun u => match u with
    | .pointer (some a) => kk ob (.pointer (some a))
    | _ => none
  | .makeFunc fn x y => opdsC S x.toList fun us => opdsC S y.toList fun vs => kk ob (.func fn us.toArray vs.toArray)
  | .call c => match c.callee, c.args, c.argTypes with
    | .builtin .len, ⟨[x]⟩, ⟨[t]⟩ => opdC S x fun u => lenC u fun b v => kk ((t, b) :: ob) v
    | .builtin .min, ⟨[x, y]⟩, _ => opdC S x fun u => opdC S y fun v => match u, v with
      | .int k a, .int _ b => kk ob (.int k (if b < a then b else a))
      | _, _ => none
    | .builtin .max, ⟨[x, y]⟩, _ => opdC S x fun u => opdC S y fun v => match u, v with
      | .int k a, .int _ b => kk ob (.int k (if b > a then b else a))
      | _, _ => none
    | _, _, _ => none
  | _ => none

theorem bind_some' {α γ : Type} {o : Option α} {k : α → Option γ} {r : γ} (h : o.bind k = some r) : ∃ x, o = some x ∧ k x = some r := by
  cases o with
  | none => cases h
  | some x => exact ⟨x, rfl, h⟩

theorem binC_spec {P : Program} {op : BinOp} {t ty : TypeId} {x y : Operand} {S : Sl} {u v : Value} {kk : Value → Option β} {r : β} (hx : opd S x = some u) (hy : opd S y = some v) (h : binC op u v kk = some r) :
    ∃ z, pv P S (.binOp op t x y ty) = some z ∧ kk z = some r := by
  unfold binC at h
  split at h
  · rename_i k a k' b
    obtain ⟨hk, h0⟩ := kindC_spec h
    subst hk
    rw [intC_eq] at h0
    obtain ⟨z, h1, h2⟩ := bind_some' h0
    exact ⟨z, by simp [pv, hx, hy, h1], h2⟩
  · rename_i a b
    rw [strC_eq] at h
    obtain ⟨z, h1, h2⟩ := bind_some' h
    exact ⟨z, by simp [pv, hx, hy, h1], h2⟩
  · cases h

theorem pvC_spec {P : Program} {S : Sl} {op : Op} {ob : List Ob} {kk : List Ob → Value → Option β} {r : β} (h : pvC S op ob kk = some r) :
    ∃ ob' v, kk ob' v = some r ∧ (obOk P ob' = true → pv P S op = some v ∧ obOk P ob = true) := by
  cases op with
  | move x => simp only [pvC, opdC_eq] at h; obtain ⟨v, h1, h2⟩ := bind_some' h; exact ⟨ob, v, h2, fun h => ⟨h1, h⟩⟩
  | assign x => simp only [pvC, opdC_eq] at h; obtain ⟨v, h1, h2⟩ := bind_some' h; exact ⟨ob, v, h2, fun h => ⟨h1, h⟩⟩
  | binOp op t x y ty =>
    simp only [pvC, opdC_eq] at h
    obtain ⟨u, hx, h⟩ := bind_some' h
    obtain ⟨v, hy, h⟩ := bind_some' h
    obtain ⟨z, h1, h2⟩ := binC_spec (P := P) (t := t) (ty := ty) hx hy h
    exact ⟨ob, z, h2, fun h => ⟨h1, h⟩⟩
  | unOp op t x =>
    cases op with
    | not =>
      simp only [pvC, opdC_eq] at h
      obtain ⟨u, hx, h⟩ := bind_some' h
      split at h
      · exact ⟨ob, _, h, fun h => ⟨by simp [pv, hx], h⟩⟩
      · cases h
    | neg =>
      simp only [pvC, opdC_eq] at h
      obtain ⟨u, hx, h⟩ := bind_some' h
      split at h
      · exact ⟨ob, _, h, fun h => ⟨by simp [pv, hx], h⟩⟩
      · cases h
    | _ => simp [pvC] at h
  | extract x i =>
    simp only [pvC, opdC_eq] at h
    obtain ⟨u, hx, h⟩ := bind_some' h
    split at h
    · split at h
      · rename_i v hv
        exact ⟨ob, v, h, fun h => ⟨by simp [pv, hx, hv], h⟩⟩
      · cases h
    · cases h
  | nilCheck x =>
    simp only [pvC, opdC_eq] at h
    obtain ⟨u, hx, h⟩ := bind_some' h
    split at h
    · exact ⟨ob, _, h, fun h => ⟨by simp [pv, hx], h⟩⟩
    · cases h
  | makeFunc fn x y =>
    simp only [pvC, opdsC_eq] at h
    obtain ⟨us, hx, h⟩ := bind_some' h
    obtain ⟨vs, hy, h⟩ := bind_some' h
    exact ⟨ob, _, h, fun h => ⟨by simp [pv, hx, hy], h⟩⟩
  | call c =>
    obtain ⟨cal, args, ats⟩ := c
    simp only [pvC] at h
    split at h
    · rename_i x t
      simp only [opdC_eq] at h
      obtain ⟨u, hx, h⟩ := bind_some' h
      unfold lenC at h
      split at h
      · refine ⟨_, _, h, fun h => ?_⟩
        simp only [obOk, Bool.and_eq_true] at h
        obtain ⟨h1, h2⟩ := h
        split at h1
        · rename_i hu
          exact ⟨by simp [pv, hx, hu], h2⟩
        · cases h1
      · refine ⟨_, _, h, fun h => ?_⟩
        simp only [obOk, Bool.and_eq_true] at h
        obtain ⟨h1, h2⟩ := h
        split at h1
        · rename_i e hu
          exact ⟨by simp [pv, hx, hu], h2⟩
        · cases h1
      · cases h
    · simp only [opdC_eq] at h
      obtain ⟨u, hx, h⟩ := bind_some' h
      obtain ⟨v, hy, h⟩ := bind_some' h
      split at h
      · exact ⟨ob, _, h, fun h => ⟨by simp [pv, hx, hy], h⟩⟩
      · cases h
    · simp only [opdC_eq] at h
      obtain ⟨u, hx, h⟩ := bind_some' h
      obtain ⟨v, hy, h⟩ := bind_some' h
      split at h
      · exact ⟨ob, _, h, fun h => ⟨by simp [pv, hx, hy], h⟩⟩
      · cases h
    · cases h
  | _ => simp [pvC] at h

/-- what a guard says -/
def guC (os : Array Oper) (S : Sl) (g : Option (Nat × Bool)) (yes no : Option β) : Option β := match g with
  | none => yes
  | some (j, b) => match os[j]? with
    | none => none
    | some o => match o.dst with
      | none => none
      | some d => lookC S d fun v => match v with
        | .bool true => match b with
          | true => yes
          | false => no
        | .bool false => match b with
          | true => no
          | false => yes
        | .tuple _ => no
        | _ => none
theorem guC_spec {os : Array Oper} {S : Sl} {g : Option (Nat × Bool)} {yes no : Option β} {r : β} (h : guC os S g yes no = some r) :
    (wantedS os S g = some true ∧ yes = some r) ∨ (wantedS os S g = some false ∧ no = some r) := by
  unfold guC at h
  split at h
  · exact .inl ⟨rfl, h⟩
  · rename_i j b
    split at h
    · cases h
    · rename_i o ho
      split at h
      · cases h
      · rename_i d hd
        rw [lookC_eq] at h
        obtain ⟨v, hv, h⟩ := bind_some' h
        split at h
        · split at h
          · exact .inl ⟨by simp [wantedS, ho, hd, hv], h⟩
          · exact .inr ⟨by simp [wantedS, ho, hd, hv], h⟩
        · split at h
          · exact .inr ⟨by simp [wantedS, ho, hd, hv], h⟩
          · exact .inl ⟨by simp [wantedS, ho, hd, hv], h⟩
        · exact .inr ⟨by simp [wantedS, ho, hd, hv], h⟩
        · cases h

/-- k operations that only compute -/
def runC (os : Array Oper) : List Oper → Nat → Sl → List Ob → Option (Sl × List Oper × List Ob)
  | l, 0, S, ob => some (S, l, ob)
  | [], _ + 1, _, _ => none
  | o :: l, k + 1, S, ob => match o.dst with
    | none => none
    | some d => guC os S o.guard (pvC S o.op ob fun ob v => runC os l k ((d, v) :: S) ob) (runC os l k ((d, undef) :: S) ob)
end

theorem runC_sound {P : Program} {os : Array Oper} {n : Nat} {Q : Exit → Act → World → Prop} {w : World} : ∀ (l : List Oper) (k : Nat) (S S' : Sl) (l' : List Oper) (ob ob' : List Ob) (a : Act), Slots a n S → runC os l k S ob = some (S', l', ob') →
    ((dsts (l.take k)).all (fun d => Nat.blt d n) = true) → obOk P ob' = true → (∀ a', Slots a' n S' → wpList P os Q l' a' w) → obOk P ob = true ∧ wpList P os Q l a w
  | l, 0, S, S', l', ob, ob', a, hS, h, _, ho, kk => by
    simp only [runC, Option.some.injEq, Prod.mk.injEq] at h
    obtain ⟨rfl, rfl, rfl⟩ := h
    exact ⟨ho, kk a hS⟩
  | [], k + 1, S, S', l', ob, ob', a, hS, h, _, _, kk => by simp [runC] at h
  | o :: l, k + 1, S, S', l', ob, ob', a, hS, h, hd, ho, kk => by
    simp only [runC] at h
    split at h
    · cases h
    · rename_i d hod
      simp only [List.take_succ_cons, dsts, hod, List.all_cons, Bool.and_eq_true] at hd
      rcases guC_spec h with ⟨hg, h⟩ | ⟨hg, h⟩
      · obtain ⟨ob1, v, h, hv⟩ := pvC_spec (P := P) h
        have key : ∀ a, Slots a n ((d, v) :: S) → obOk P ob1 = true ∧ wpList P os Q l a w := fun a hS => runC_sound l k _ S' l' ob1 ob' a hS h hd.2 ho kk
        have h1 := (runC_sound (P := P) (Q := Q) l k _ S' l' ob1 ob' _ (hS.put hd.1 v) h hd.2 ho kk).1
        obtain ⟨h2, h3⟩ := hv h1
        refine ⟨h3, wpList_op (v := v) (w' := w) hg hS (pv_run hS h2 _ _ _ _ _ w) ?_⟩
        rw [hod]
        exact (key _ (hS.put hd.1 v)).2
      · have h1 := runC_sound (P := P) (Q := Q) l k _ S' l' ob ob' _ (hS.put hd.1 undef) h hd.2 ho kk
        refine ⟨h1.1, wpList_skip hg hS ?_⟩
        rw [hod]
        exact h1.2

end Go.GD
