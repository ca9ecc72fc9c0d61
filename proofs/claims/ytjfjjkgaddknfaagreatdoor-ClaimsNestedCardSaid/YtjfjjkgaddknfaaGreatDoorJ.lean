/- A part. Conditions: none. -/
import Derived.Test.YtjfjjkgaddknfaaGreatDoorMap
import Derived.Test.YtjfjjkgaddknfaaGreatDoorCopy
namespace Go.GD
open Go Go.RowKit
set_option autoImplicit false
theorem u {α : Sort _} {a : α} : a = a := rfl
theorem d : True := ⟨⟩
theorem kk {α : Sort _} {Q : α → Prop} : ∀ K, Q K → Q K := fun _ k => k
variable {qd : Prop}
abbrev sv {τ : Type} (p : Option Addr) (l : List τ) (c : Nat) : Value := .slice p (List.length l) c
abbrev Rl {τ : Type} (e : E τ) (p : Option Addr) (c : Nat) (l : List τ) : PP := R e p c (List.length l) l
abbrev Al {τ : Type} (e : E τ) (te : TypeId) (r : zY) (p : Option Addr) (c : Nat) (l : List τ) : PP := Ar e te r p c (List.length l) l
abbrev pt (b o : Nat) : Value := .pointer (some ⟨b, o, none⟩)
abbrev Sl := List (Nat × Value)
abbrev PQ (ρ : Type) := ρ → Exit → Act → World → Prop
structure Hd (qd : Prop) where
 A : List Nat
 L0 : List zY
 w0 : World
def NP {ρ : Type} (Q : PQ ρ) : Prop := ∀ r c a w, Q r (.panic c) a w → False
inductive uY
 | code (c : Code)
 | ops (os : Array Oper) (l : List Oper)
 | dr (os : Array Oper) (B J : List Nat) (fuel : Nat) (li : Array Bool)
 | fo (i : Nat) (os : Array Oper) (B J : List Nat) (fuel : Nat) (li : Array Bool)
 | af (L0 : List zY) (os : Array Oper) (B J : List Nat) (fuel : Nat) (li : Array Bool)
 | ex (e : Exit)
def uY.go (qd : Prop) (P : Program) (A : List Nat) (Ls : List zY) (Q : Exit → Act → World → Prop) (a : Act) (w : World) : uY → Prop
 | .code c => c.wp P Q a w
 | .ops os l => wpList P os Q l a w
 | .dr os B J f li => vC P os Q (SB B (CC qd A Ls w J)) f li a w
 | .fo i os B J f li => ∃ o, os[i]? = some o ∧ vW P os Q o (fun a' w' => SB B (CC qd A Ls w J) (li.setIfInBounds i true) w' ∧ vC P os Q (SB B (CC qd A Ls w J)) f (li.setIfInBounds i true) a' w') a w
 | .af L0 os B J f li => ∀ w0, qZ qd L0 w0 Ls w → SB B (CC qd A L0 w0 J) li w ∧ vC P os Q (SB B (CC qd A L0 w0 J)) f li a w
 | .ex e => Q e a w
structure J (P : Program) (n : Nat) (X : Hd qd) {ρ : Type} (Q : PQ ρ) (p : uY) (S : Sl) (Ls : List zY) (F : List PP) (m : Option ρ) : Prop where
 go : NP Q → ∀ r, m = some r → ∀ a w, SS qd X.A X.L0 X.w0 n S Ls F a w → p.go qd P X.A Ls (Q r) a w
def zTz {α : Type} : List α → α → (List α → Prop) → Prop
 | [], r, k => k [r]
 | a :: l, r, k => zTz l r fun l' => k (a :: l')
theorem zML {α : Type} : ∀ {l : List α} {r : α} {k : List α → Prop}, zTz l r k = k (l ++ [r])
 | [], _, _ => rfl
 | a :: l, r, k => by simp only [zTz, zML, List.cons_append]
def z5g {α : Type} : List α → List α → (List α → Prop) → Prop
 | [], l, k => k l
 | a :: m, l, k => z5g m l fun l' => k (a :: l')
theorem zYX {α : Type} : ∀ {m l : List α} {k : List α → Prop}, z5g m l k = k (m ++ l)
 | [], _, _ => rfl
 | a :: m, l, k => by simp only [z5g, zYX, List.cons_append]
def zYu {α : Type} : List α → Nat → α → (List α → Prop) → Prop
 | [], _, _, k => k []
 | _ :: l, 0, r, k => k (r :: l)
 | a :: l, i + 1, r, k => zYu l i r fun l' => k (a :: l')
theorem zKC {α : Type} : ∀ {l : List α} {i : Nat} {r : α} {k : List α → Prop}, zYu l i r k = k (l.set i r)
 | [], _, _, _ => rfl
 | _ :: _, 0, _, _ => rfl
 | a :: l, i + 1, r, k => by simp only [zYu, zKC, List.set_cons_succ]
def zY1 : List Nat → List zY → List zY → (List zY → Prop) → Prop
 | [], L1, Ls, k => match L1 with
  | [] => k Ls
  | _ :: _ => z5g Ls L1 k
 | _ :: _, [], _, _ => False
 | j :: js, r :: L1, Ls, k => zYu Ls j r fun Ls' => zY1 js L1 Ls' k
theorem zSJ : ∀ {js : List Nat} {L1 Ls : List zY} {k : List zY → Prop}, zY1 js L1 Ls k → Nat.ble js.length L1.length = true ∧ k (tS js (L1.take js.length) Ls ++ L1.drop js.length)
 | [], L1, Ls, k, h => by
  refine ⟨by simp, ?_⟩
  cases L1 with
  | nil => simpa [zY1, tS] using h
  | cons r L1 => simpa [zY1, zYX, tS] using h
 | j :: js, [], Ls, k, h => h.elim
 | j :: js, r :: L1, Ls, k, h => by
  simp only [zY1, zKC] at h
  obtain ⟨h1, h2⟩ := zSJ h
  refine ⟨by simpa [Nat.ble_eq] using h1, ?_⟩
  simpa [tS] using h2
section
variable {β : Type}
def z2O : Sl → Nat → (Value → Option β) → Option β
 | [], _, _ => none
 | (i, v) :: r, j, k => bif Nat.beq i j then k v else z2O r j k
theorem zVp : ∀ {S : Sl} {j : Nat} {k : Value → Option β}, z2O S j k = (yS S j).bind k
 | [], _, _ => rfl
 | (i, v) :: r, j, k => by
  simp only [z2O, yS]
  cases Nat.beq i j with
  | true => rfl
  | false => exact zVp
def zXt (S : Sl) (x : Operand) (k : Value → Option β) : Option β := match x with
 | .tmp t => z2O S t k
 | .const v => k v
 | .func f => k (.func (.func f) #[] #[])
 | .global g => k (.pointer (some ⟨g, 0, none⟩))
theorem zLX {S : Sl} {x : Operand} {k : Value → Option β} : zXt S x k = (qG S x).bind k := by
 cases x <;> simp [zXt, qG, zVp]
def z2H (S : Sl) : List Operand → (List Value → Option β) → Option β
 | [], k => k []
 | x :: r, k => zXt S x fun v => z2H S r fun vs => k (v :: vs)
theorem zZI {S : Sl} : ∀ {xs : List Operand} {k : List Value → Option β}, z2H S xs k = (z0k S xs).bind k
 | [], _ => rfl
 | x :: r, k => by
  simp only [z2H, z0k, zLX, zZI]
  cases qG S x with
  | none => rfl
  | some v => cases z0k S r <;> rfl
def intC (op : BinOp) (k : IntKind) (a b : Int) (kk : Value → Option β) : Option β :=
 match op with
 | .add => kk (.int k (k.wrap (a + b)))
 | .sub => kk (.int k (k.wrap (a - b)))
 | .mul => kk (.int k (k.wrap (a * b)))
 | .and => kk (.int k (yE k a b))
 | .or => kk (.int k (bor k a b))
 | .xor => kk (.int k (bxor k a b))
 | .andNot => kk (.int k (zMf k a b))
 | .eql => kk (.bool (a == b))
 | .neq => kk (.bool (a != b))
 | .lss => kk (.bool (decide (a < b)))
 | .leq => kk (.bool (decide (a ≤ b)))
 | .gtr => kk (.bool (decide (b < a)))
 | .geq => kk (.bool (decide (b ≤ a)))
 | _ => none
theorem z5V {op : BinOp} {k : IntKind} {a b : Int} {kk : Value → Option β} : intC op k a b kk = (zZ8 op k a b).bind kk := by cases op <;> rfl
def strC (op : BinOp) (a b : qI) (kk : Value → Option β) : Option β :=
 match op with
 | .eql => kk (.bool (a == b))
 | .neq => kk (.bool (!(a == b)))
 | .lss => kk (.bool (uM a b))
 | .leq => kk (.bool (uM a b || a == b))
 | .gtr => kk (.bool (!(uM a b || a == b)))
 | .geq => kk (.bool (!(uM a b)))
 | _ => none
theorem z4n {op : BinOp} {a b : qI} {kk : Value → Option β} : strC op a b kk = (zZb op a b).bind kk := by cases op <;> rfl
def kindC (k k' : IntKind) (x : Option β) : Option β := match k, k' with
 | .i8, .i8 | .i16, .i16 | .i32, .i32 | .i64, .i64 | .u8, .u8 | .u16, .u16 | .u32, .u32 | .u64, .u64 => x
 | _, _ => none
theorem zZv {k k' : IntKind} {x : Option β} {r : β} (h : kindC k k' x = some r) : k = k' ∧ x = some r := by
 cases k <;> cases k' <;> first | exact ⟨rfl, h⟩ | cases h
def binC (op : BinOp) (u v : Value) (kk : Value → Option β) : Option β := match u, v with
 | .int k a, .int k' b => kindC k k' (intC op k a b kk)
 | .string ⟨⟨a⟩⟩, .string ⟨⟨b⟩⟩ => strC op a b kk
 | _, _ => none
def lenC (u : Value) (kk : Bool → Value → Option β) : Option β := match u with
 | .string ⟨⟨s⟩⟩ => kk true (vi (len s))
 | .slice _ n _ => kk false (vi (n : Int))
 | _ => none
abbrev Ob := TypeId × Bool
def zYJ (P : Program) : List Ob → Bool
 | [] => true
 | (t, true) :: r => (match P.underlying t with | some .string => true | _ => false) && zYJ P r
 | (t, false) :: r => (match P.underlying t with | some (.slice _) => true | _ => false) && zYJ P r
def pvC (S : Sl) (op : Op) (ob : List Ob) (kk : List Ob → Value → Option β) : Option β := match op with
 | .move x => zXt S x (kk ob)
 | .assign x => zXt S x (kk ob)
 | .binOp op _ x y _ => zXt S x fun u => zXt S y fun v => binC op u v (kk ob)
 | .unOp .not _ x => zXt S x fun u => match u with
  | .bool b => kk ob (.bool (!b))
  | _ => none
 | .unOp .neg _ x => zXt S x fun u => match u with
  | .int k n => kk ob (.int k (k.wrap (0 - n)))
  | _ => none
 | .extract x i => zXt S x fun u => match u with
  | .tuple ⟨vs⟩ => match vs[i]? with
   | some v => kk ob v
   | none => none
  | _ => none
 | .nilCheck x => zXt S x fun u => match u with
  | .pointer (some a) => kk ob (.pointer (some a))
  | _ => none
 | .makeFunc fn x y => z2H S x.toList fun us => z2H S y.toList fun vs => kk ob (.func fn us.toArray vs.toArray)
 | .call c => match c.callee, c.args, c.argTypes with
  | .builtin .len, ⟨[x]⟩, ⟨[t]⟩ => zXt S x fun u => lenC u fun b v => kk ((t, b) :: ob) v
  | .builtin .min, ⟨[x, y]⟩, _ => zXt S x fun u => zXt S y fun v => match u, v with
   | .int k a, .int _ b => kk ob (.int k (if b < a then b else a))
   | _, _ => none
  | .builtin .max, ⟨[x, y]⟩, _ => zXt S x fun u => zXt S y fun v => match u, v with
   | .int k a, .int _ b => kk ob (.int k (if b > a then b else a))
   | _, _ => none
  | _, _, _ => none
 | _ => none
theorem zCG {α γ : Type} {o : Option α} {k : α → Option γ} {r : γ} (h : o.bind k = some r) : ∃ x, o = some x ∧ k x = some r := by
 cases o with
 | none => cases h
 | some x => exact ⟨x, rfl, h⟩
theorem z2B {P : Program} {op : BinOp} {t ty : TypeId} {x y : Operand} {S : Sl} {u v : Value} {kk : Value → Option β} {r : β} (hx : qG S x = some u) (hy : qG S y = some v) (h : binC op u v kk = some r) :
  ∃ z, pv P S (.binOp op t x y ty) = some z ∧ kk z = some r := by
 unfold binC at h
 split at h
 ·rename_i k a k' b
  obtain ⟨hk, h0⟩ := zZv h
  subst hk
  rw [z5V] at h0
  obtain ⟨z, h1, h2⟩ := zCG h0
  exact ⟨z, by simp [pv, hx, hy, h1], h2⟩
 ·rename_i a b
  rw [z4n] at h
  obtain ⟨z, h1, h2⟩ := zCG h
  exact ⟨z, by simp [pv, hx, hy, h1], h2⟩
 ·cases h
theorem zZg {P : Program} {S : Sl} {op : Op} {ob : List Ob} {kk : List Ob → Value → Option β} {r : β} (h : pvC S op ob kk = some r) :
  ∃ ob' v, kk ob' v = some r ∧ (zYJ P ob' = true → pv P S op = some v ∧ zYJ P ob = true) := by
 cases op with
 | move x => simp only [pvC, zLX] at h; obtain ⟨v, h1, h2⟩ := zCG h; exact ⟨ob, v, h2, fun h => ⟨h1, h⟩⟩
 | assign x => simp only [pvC, zLX] at h; obtain ⟨v, h1, h2⟩ := zCG h; exact ⟨ob, v, h2, fun h => ⟨h1, h⟩⟩
 | binOp op t x y ty =>
  simp only [pvC, zLX] at h
  obtain ⟨u, hx, h⟩ := zCG h
  obtain ⟨v, hy, h⟩ := zCG h
  obtain ⟨z, h1, h2⟩ := z2B (P := P) (t := t) (ty := ty) hx hy h
  exact ⟨ob, z, h2, fun h => ⟨h1, h⟩⟩
 | unOp op t x =>
  cases op with
  | not =>
   simp only [pvC, zLX] at h
   obtain ⟨u, hx, h⟩ := zCG h
   split at h
   ·exact ⟨ob, _, h, fun h => ⟨by simp [pv, hx], h⟩⟩
   ·cases h
  | neg =>
   simp only [pvC, zLX] at h
   obtain ⟨u, hx, h⟩ := zCG h
   split at h
   ·exact ⟨ob, _, h, fun h => ⟨by simp [pv, hx], h⟩⟩
   ·cases h
  | _ => simp [pvC] at h
 | extract x i =>
  simp only [pvC, zLX] at h
  obtain ⟨u, hx, h⟩ := zCG h
  split at h
  ·split at h
   ·rename_i v hv
    exact ⟨ob, v, h, fun h => ⟨by simp [pv, hx, hv], h⟩⟩
   ·cases h
  ·cases h
 | nilCheck x =>
  simp only [pvC, zLX] at h
  obtain ⟨u, hx, h⟩ := zCG h
  split at h
  ·exact ⟨ob, _, h, fun h => ⟨by simp [pv, hx], h⟩⟩
  ·cases h
 | makeFunc fn x y =>
  simp only [pvC, zZI] at h
  obtain ⟨us, hx, h⟩ := zCG h
  obtain ⟨vs, hy, h⟩ := zCG h
  exact ⟨ob, _, h, fun h => ⟨by simp [pv, hx, hy], h⟩⟩
 | call c =>
  obtain ⟨cal, args, ats⟩ := c
  simp only [pvC] at h
  split at h
  ·rename_i x t
   simp only [zLX] at h
   obtain ⟨u, hx, h⟩ := zCG h
   unfold lenC at h
   split at h
   ·refine ⟨_, _, h, fun h => ?_⟩
    simp only [zYJ, Bool.and_eq_true] at h
    obtain ⟨h1, h2⟩ := h
    split at h1
    ·rename_i hu
     exact ⟨by simp [pv, hx, hu], h2⟩
    ·cases h1
   ·refine ⟨_, _, h, fun h => ?_⟩
    simp only [zYJ, Bool.and_eq_true] at h
    obtain ⟨h1, h2⟩ := h
    split at h1
    ·rename_i e hu
     exact ⟨by simp [pv, hx, hu], h2⟩
    ·cases h1
   ·cases h
  ·simp only [zLX] at h
   obtain ⟨u, hx, h⟩ := zCG h
   obtain ⟨v, hy, h⟩ := zCG h
   split at h
   ·exact ⟨ob, _, h, fun h => ⟨by simp [pv, hx, hy], h⟩⟩
   ·cases h
  ·simp only [zLX] at h
   obtain ⟨u, hx, h⟩ := zCG h
   obtain ⟨v, hy, h⟩ := zCG h
   split at h
   ·exact ⟨ob, _, h, fun h => ⟨by simp [pv, hx, hy], h⟩⟩
   ·cases h
  ·cases h
 | _ => simp [pvC] at h
def guC (os : Array Oper) (S : Sl) (g : Option (Nat × Bool)) (yes no : Option β) : Option β := match g with
 | none => yes
 | some (j, b) => match os[j]? with
  | none => none
  | some o => match o.dst with
   | none => none
   | some d => z2O S d fun v => match v with
    | .bool true => match b with
     | true => yes
     | false => no
    | .bool false => match b with
     | true => no
     | false => yes
    | .tuple _ => no
    | _ => none
theorem zZR {os : Array Oper} {S : Sl} {g : Option (Nat × Bool)} {yes no : Option β} {r : β} (h : guC os S g yes no = some r) :
  (wF os S g = some true ∧ yes = some r) ∨ (wF os S g = some false ∧ no = some r) := by
 unfold guC at h
 split at h
 ·exact .inl ⟨rfl, h⟩
 ·rename_i j b
  split at h
  ·cases h
  ·rename_i o ho
   split at h
   ·cases h
   ·rename_i d hd
    rw [zVp] at h
    obtain ⟨v, hv, h⟩ := zCG h
    split at h
    ·split at h
     ·exact .inl ⟨by simp [wF, ho, hd, hv], h⟩
     ·exact .inr ⟨by simp [wF, ho, hd, hv], h⟩
    ·split at h
     ·exact .inr ⟨by simp [wF, ho, hd, hv], h⟩
     ·exact .inl ⟨by simp [wF, ho, hd, hv], h⟩
    ·exact .inr ⟨by simp [wF, ho, hd, hv], h⟩
    ·cases h
def z3C (os : Array Oper) : List Oper → Nat → Sl → List Ob → Option (Sl × List Oper × List Ob)
 | l, 0, S, ob => some (S, l, ob)
 | [], _ + 1, _, _ => none
 | o :: l, k + 1, S, ob => match o.dst with
  | none => none
  | some d => guC os S o.guard (pvC S o.op ob fun ob v => z3C os l k ((d, v) :: S) ob) (z3C os l k ((d, undef) :: S) ob)
end
theorem zP4 {P : Program} {os : Array Oper} {n : Nat} {Q : Exit → Act → World → Prop} {w : World} : ∀ (l : List Oper) (k : Nat) (S S' : Sl) (l' : List Oper) (ob ob' : List Ob) (a : Act), wM a n S → z3C os l k S ob = some (S', l', ob') →
  ((zZk (l.take k)).all (fun d => Nat.blt d n) = true) → zYJ P ob' = true → (∀ a', wM a' n S' → wpList P os Q l' a' w) → zYJ P ob = true ∧ wpList P os Q l a w
 | l, 0, S, S', l', ob, ob', a, hS, h, _, ho, kk => by
  simp only [z3C, Option.some.injEq, Prod.mk.injEq] at h
  obtain ⟨rfl, rfl, rfl⟩ := h
  exact ⟨ho, kk a hS⟩
 | [], k + 1, S, S', l', ob, ob', a, hS, h, _, _, kk => by simp [z3C] at h
 | o :: l, k + 1, S, S', l', ob, ob', a, hS, h, hd, ho, kk => by
  simp only [z3C] at h
  split at h
  ·cases h
  ·rename_i d hod
   simp only [List.take_succ_cons, zZk, hod, List.all_cons, Bool.and_eq_true] at hd
   rcases zZR h with ⟨hg, h⟩ | ⟨hg, h⟩
   ·obtain ⟨ob1, v, h, hv⟩ := zZg (P := P) h
    have key : ∀ a, wM a n ((d, v) :: S) → zYJ P ob1 = true ∧ wpList P os Q l a w := fun a hS => zP4 l k _ S' l' ob1 ob' a hS h hd.2 ho kk
    have h1 := (zP4 (P := P) (Q := Q) l k _ S' l' ob1 ob' _ (hS.put hd.1 v) h hd.2 ho kk).1
    obtain ⟨h2, h3⟩ := hv h1
    refine ⟨h3, zR0 (v := v) (w' := w) hg hS (zXl hS h2 _ _ _ _ _ w) ?_⟩
    rw [hod]
    exact (key _ (hS.put hd.1 v)).2
   ·have h1 := zP4 (P := P) (Q := Q) l k _ S' l' ob ob' _ (hS.put hd.1 undef) h hd.2 ho kk
    refine ⟨h1.1, zT5 hg hS ?_⟩
    rw [hod]
    exact h1.2
end Go.GD
