/- A part. Conditions: none. -/
import Derived.Test.YtplpdfimlnppcaaGreatDoorMap
import Derived.Test.YtplpdfimlnppcaaGreatDoorCopy
namespace Go.GD
open Go Go.RowKit
set_option autoImplicit false
theorem u {α : Sort _} {a : α} : a = a := rfl
theorem d : True := ⟨⟩
theorem kk {α : Sort _} {Q : α → Prop} : ∀ K, Q K → Q K := fun _ k => k
variable {qd : Prop}
abbrev sv {τ : Type} (p : Option Addr) (l : List τ) (c : Nat) : Value := .slice p (List.length l) c
abbrev Rl {τ : Type} (e : E τ) (p : Option Addr) (c : Nat) (l : List τ) : PP := R e p c (List.length l) l
abbrev Al {τ : Type} (e : E τ) (te : TypeId) (r : zW) (p : Option Addr) (c : Nat) (l : List τ) : PP := Ar e te r p c (List.length l) l
abbrev pt (b o : Nat) : Value := .pointer (some ⟨b, o, none⟩)
abbrev Sl := List (Nat × Value)
abbrev PQ (ρ : Type) := ρ → Exit → Act → World → Prop
structure Hd (qd : Prop) where
 A : List Nat
 L0 : List zW
 w0 : World
def NP {ρ : Type} (Q : PQ ρ) : Prop := ∀ r c a w, Q r (.panic c) a w → False
inductive uZ
 | code (c : Code)
 | ops (os : Array Oper) (l : List Oper)
 | dr (os : Array Oper) (B J : List Nat) (fuel : Nat) (li : Array Bool)
 | fo (i : Nat) (os : Array Oper) (B J : List Nat) (fuel : Nat) (li : Array Bool)
 | af (L0 : List zW) (os : Array Oper) (B J : List Nat) (fuel : Nat) (li : Array Bool)
 | ex (e : Exit)
def uZ.go (qd : Prop) (P : Program) (A : List Nat) (Ls : List zW) (Q : Exit → Act → World → Prop) (a : Act) (w : World) : uZ → Prop
 | .code c => c.wp P Q a w
 | .ops os l => wpList P os Q l a w
 | .dr os B J f li => vA P os Q (SB B (CC qd A Ls w J)) f li a w
 | .fo i os B J f li => ∃ o, os[i]? = some o ∧ vW P os Q o (fun a' w' => SB B (CC qd A Ls w J) (li.setIfInBounds i true) w' ∧ vA P os Q (SB B (CC qd A Ls w J)) f (li.setIfInBounds i true) a' w') a w
 | .af L0 os B J f li => ∀ w0, qT qd L0 w0 Ls w → SB B (CC qd A L0 w0 J) li w ∧ vA P os Q (SB B (CC qd A L0 w0 J)) f li a w
 | .ex e => Q e a w
structure J (P : Program) (n : Nat) (X : Hd qd) {ρ : Type} (Q : PQ ρ) (p : uZ) (S : Sl) (Ls : List zW) (F : List PP) (m : Option ρ) : Prop where
 go : NP Q → ∀ r, m = some r → ∀ a w, SS qd X.A X.L0 X.w0 n S Ls F a w → p.go qd P X.A Ls (Q r) a w
def zUK {α : Type} : List α → α → (List α → Prop) → Prop
 | [], r, k => k [r]
 | a :: l, r, k => zUK l r fun l' => k (a :: l')
theorem zMk {α : Type} : ∀ {l : List α} {r : α} {k : List α → Prop}, zUK l r k = k (l ++ [r])
 | [], _, _ => rfl
 | a :: l, r, k => by simp only [zUK, zMk, List.cons_append]
def z6t {α : Type} : List α → List α → (List α → Prop) → Prop
 | [], l, k => k l
 | a :: m, l, k => z6t m l fun l' => k (a :: l')
theorem zZI {α : Type} : ∀ {m l : List α} {k : List α → Prop}, z6t m l k = k (m ++ l)
 | [], _, _ => rfl
 | a :: m, l, k => by simp only [z6t, zZI, List.cons_append]
def zY3 {α : Type} : List α → Nat → α → (List α → Prop) → Prop
 | [], _, _, k => k []
 | _ :: l, 0, r, k => k (r :: l)
 | a :: l, i + 1, r, k => zY3 l i r fun l' => k (a :: l')
theorem zJ4 {α : Type} : ∀ {l : List α} {i : Nat} {r : α} {k : List α → Prop}, zY3 l i r k = k (l.set i r)
 | [], _, _, _ => rfl
 | _ :: _, 0, _, _ => rfl
 | a :: l, i + 1, r, k => by simp only [zY3, zJ4, List.set_cons_succ]
def zZL : List Nat → List zW → List zW → (List zW → Prop) → Prop
 | [], L1, Ls, k => match L1 with
  | [] => k Ls
  | _ :: _ => z6t Ls L1 k
 | _ :: _, [], _, _ => False
 | j :: js, r :: L1, Ls, k => zY3 Ls j r fun Ls' => zZL js L1 Ls' k
theorem zS8 : ∀ {js : List Nat} {L1 Ls : List zW} {k : List zW → Prop}, zZL js L1 Ls k → Nat.ble js.length L1.length = true ∧ k (zVL js (L1.take js.length) Ls ++ L1.drop js.length)
 | [], L1, Ls, k, h => by
  refine ⟨by simp, ?_⟩
  cases L1 with
  | nil => simpa [zZL, zVL] using h
  | cons r L1 => simpa [zZL, zZI, zVL] using h
 | j :: js, [], Ls, k, h => h.elim
 | j :: js, r :: L1, Ls, k, h => by
  simp only [zZL, zJ4] at h
  obtain ⟨h1, h2⟩ := zS8 h
  refine ⟨by simpa [Nat.ble_eq] using h1, ?_⟩
  simpa [zVL] using h2
section
variable {β : Type}
def z38 : Sl → Nat → (Value → Option β) → Option β
 | [], _, _ => none
 | (i, v) :: r, j, k => bif Nat.beq i j then k v else z38 r j k
theorem zWC : ∀ {S : Sl} {j : Nat} {k : Value → Option β}, z38 S j k = (yQ S j).bind k
 | [], _, _ => rfl
 | (i, v) :: r, j, k => by
  simp only [z38, yQ]
  cases Nat.beq i j with
  | true => rfl
  | false => exact zWC
def zY1 (S : Sl) (x : Operand) (k : Value → Option β) : Option β := match x with
 | .tmp t => z38 S t k
 | .const v => k v
 | .func f => k (.func (.func f) #[] #[])
 | .global g => k (.pointer (some ⟨g, 0, none⟩))
theorem zLq {S : Sl} {x : Operand} {k : Value → Option β} : zY1 S x k = (qE S x).bind k := by
 cases x <;> simp [zY1, qE, zWC]
def z26 (S : Sl) : List Operand → (List Value → Option β) → Option β
 | [], k => k []
 | x :: r, k => zY1 S x fun v => z26 S r fun vs => k (v :: vs)
theorem zZg {S : Sl} : ∀ {xs : List Operand} {k : List Value → Option β}, z26 S xs k = (z15 S xs).bind k
 | [], _ => rfl
 | x :: r, k => by
  simp only [z26, z15, zLq, zZg]
  cases qE S x with
  | none => rfl
  | some v => cases z15 S r <;> rfl
def intC (op : BinOp) (k : IntKind) (a b : Int) (kk : Value → Option β) : Option β :=
 match op with
 | .add => kk (.int k (k.wrap (a + b)))
 | .sub => kk (.int k (k.wrap (a - b)))
 | .mul => kk (.int k (k.wrap (a * b)))
 | .and => kk (.int k (yE k a b))
 | .or => kk (.int k (bor k a b))
 | .xor => kk (.int k (bxor k a b))
 | .andNot => kk (.int k (zMy k a b))
 | .eql => kk (.bool (a == b))
 | .neq => kk (.bool (a != b))
 | .lss => kk (.bool (decide (a < b)))
 | .leq => kk (.bool (decide (a ≤ b)))
 | .gtr => kk (.bool (decide (b < a)))
 | .geq => kk (.bool (decide (b ≤ a)))
 | _ => none
theorem z6I {op : BinOp} {k : IntKind} {a b : Int} {kk : Value → Option β} : intC op k a b kk = (z0T op k a b).bind kk := by cases op <;> rfl
def strC (op : BinOp) (a b : qD) (kk : Value → Option β) : Option β :=
 match op with
 | .eql => kk (.bool (a == b))
 | .neq => kk (.bool (!(a == b)))
 | .lss => kk (.bool (uN a b))
 | .leq => kk (.bool (uN a b || a == b))
 | .gtr => kk (.bool (!(uN a b || a == b)))
 | .geq => kk (.bool (!(uN a b)))
 | _ => none
theorem z6f {op : BinOp} {a b : qD} {kk : Value → Option β} : strC op a b kk = (z0F op a b).bind kk := by cases op <;> rfl
def kindC (k k' : IntKind) (x : Option β) : Option β := match k, k' with
 | .i8, .i8 | .i16, .i16 | .i32, .i32 | .i64, .i64 | .u8, .u8 | .u16, .u16 | .u32, .u32 | .u64, .u64 => x
 | _, _ => none
theorem z1Q {k k' : IntKind} {x : Option β} {r : β} (h : kindC k k' x = some r) : k = k' ∧ x = some r := by
 cases k <;> cases k' <;> first | exact ⟨rfl, h⟩ | cases h
def binC (op : BinOp) (u v : Value) (kk : Value → Option β) : Option β := match u, v with
 | .int k a, .int k' b => kindC k k' (intC op k a b kk)
 | .string ⟨⟨a⟩⟩, .string ⟨⟨b⟩⟩ => strC op a b kk
 | _, _ => none
def lenC (u : Value) (kk : Bool → Value → Option β) : Option β := match u with
 | .string ⟨⟨s⟩⟩ => kk true (vi (len s))
 | .slice _ n _ => kk false (vi (n : Int))
 | _ => none
abbrev Ob := TypeId × Bool
def zZ2 (P : Program) : List Ob → Bool
 | [] => true
 | (t, true) :: r => (match P.underlying t with | some .string => true | _ => false) && zZ2 P r
 | (t, false) :: r => (match P.underlying t with | some (.slice _) => true | _ => false) && zZ2 P r
def pvC (S : Sl) (op : Op) (ob : List Ob) (kk : List Ob → Value → Option β) : Option β := match op with
 | .move x => zY1 S x (kk ob)
 | .assign x => zY1 S x (kk ob)
 | .binOp op _ x y _ => zY1 S x fun u => zY1 S y fun v => binC op u v (kk ob)
 | .unOp .not _ x => zY1 S x fun u => match u with
  | .bool b => kk ob (.bool (!b))
  | _ => none
 | .unOp .neg _ x => zY1 S x fun u => match u with
  | .int k n => kk ob (.int k (k.wrap (0 - n)))
  | _ => none
 | .extract x i => zY1 S x fun u => match u with
  | .tuple ⟨vs⟩ => match vs[i]? with
   | some v => kk ob v
   | none => none
  | _ => none
 | .nilCheck x => zY1 S x fun u => match u with
  | .pointer (some a) => kk ob (.pointer (some a))
  | _ => none
 | .makeFunc fn x y => z26 S x.toList fun us => z26 S y.toList fun vs => kk ob (.func fn us.toArray vs.toArray)
 | .call c => match c.callee, c.args, c.argTypes with
  | .builtin .len, ⟨[x]⟩, ⟨[t]⟩ => zY1 S x fun u => lenC u fun b v => kk ((t, b) :: ob) v
  | .builtin .min, ⟨[x, y]⟩, _ => zY1 S x fun u => zY1 S y fun v => match u, v with
   | .int k a, .int _ b => kk ob (.int k (if b < a then b else a))
   | _, _ => none
  | .builtin .max, ⟨[x, y]⟩, _ => zY1 S x fun u => zY1 S y fun v => match u, v with
   | .int k a, .int _ b => kk ob (.int k (if b > a then b else a))
   | _, _ => none
  | _, _, _ => none
 | _ => none
theorem zCY {α γ : Type} {o : Option α} {k : α → Option γ} {r : γ} (h : o.bind k = some r) : ∃ x, o = some x ∧ k x = some r := by
 cases o with
 | none => cases h
 | some x => exact ⟨x, rfl, h⟩
theorem z2p {P : Program} {op : BinOp} {t ty : TypeId} {x y : Operand} {S : Sl} {u v : Value} {kk : Value → Option β} {r : β} (hx : qE S x = some u) (hy : qE S y = some v) (h : binC op u v kk = some r) :
  ∃ z, pv P S (.binOp op t x y ty) = some z ∧ kk z = some r := by
 unfold binC at h
 split at h
 ·rename_i k a k' b
  obtain ⟨hk, h0⟩ := z1Q h
  subst hk
  rw [z6I] at h0
  obtain ⟨z, h1, h2⟩ := zCY h0
  exact ⟨z, by simp [pv, hx, hy, h1], h2⟩
 ·rename_i a b
  rw [z6f] at h
  obtain ⟨z, h1, h2⟩ := zCY h
  exact ⟨z, by simp [pv, hx, hy, h1], h2⟩
 ·cases h
theorem zZv {P : Program} {S : Sl} {op : Op} {ob : List Ob} {kk : List Ob → Value → Option β} {r : β} (h : pvC S op ob kk = some r) :
  ∃ ob' v, kk ob' v = some r ∧ (zZ2 P ob' = true → pv P S op = some v ∧ zZ2 P ob = true) := by
 cases op with
 | move x => simp only [pvC, zLq] at h; obtain ⟨v, h1, h2⟩ := zCY h; exact ⟨ob, v, h2, fun h => ⟨h1, h⟩⟩
 | assign x => simp only [pvC, zLq] at h; obtain ⟨v, h1, h2⟩ := zCY h; exact ⟨ob, v, h2, fun h => ⟨h1, h⟩⟩
 | binOp op t x y ty =>
  simp only [pvC, zLq] at h
  obtain ⟨u, hx, h⟩ := zCY h
  obtain ⟨v, hy, h⟩ := zCY h
  obtain ⟨z, h1, h2⟩ := z2p (P := P) (t := t) (ty := ty) hx hy h
  exact ⟨ob, z, h2, fun h => ⟨h1, h⟩⟩
 | unOp op t x =>
  cases op with
  | not =>
   simp only [pvC, zLq] at h
   obtain ⟨u, hx, h⟩ := zCY h
   split at h
   ·exact ⟨ob, _, h, fun h => ⟨by simp [pv, hx], h⟩⟩
   ·cases h
  | neg =>
   simp only [pvC, zLq] at h
   obtain ⟨u, hx, h⟩ := zCY h
   split at h
   ·exact ⟨ob, _, h, fun h => ⟨by simp [pv, hx], h⟩⟩
   ·cases h
  | _ => simp [pvC] at h
 | extract x i =>
  simp only [pvC, zLq] at h
  obtain ⟨u, hx, h⟩ := zCY h
  split at h
  ·split at h
   ·rename_i v hv
    exact ⟨ob, v, h, fun h => ⟨by simp [pv, hx, hv], h⟩⟩
   ·cases h
  ·cases h
 | nilCheck x =>
  simp only [pvC, zLq] at h
  obtain ⟨u, hx, h⟩ := zCY h
  split at h
  ·exact ⟨ob, _, h, fun h => ⟨by simp [pv, hx], h⟩⟩
  ·cases h
 | makeFunc fn x y =>
  simp only [pvC, zZg] at h
  obtain ⟨us, hx, h⟩ := zCY h
  obtain ⟨vs, hy, h⟩ := zCY h
  exact ⟨ob, _, h, fun h => ⟨by simp [pv, hx, hy], h⟩⟩
 | call c =>
  obtain ⟨cal, args, ats⟩ := c
  simp only [pvC] at h
  split at h
  ·rename_i x t
   simp only [zLq] at h
   obtain ⟨u, hx, h⟩ := zCY h
   unfold lenC at h
   split at h
   ·refine ⟨_, _, h, fun h => ?_⟩
    simp only [zZ2, Bool.and_eq_true] at h
    obtain ⟨h1, h2⟩ := h
    split at h1
    ·rename_i hu
     exact ⟨by simp [pv, hx, hu], h2⟩
    ·cases h1
   ·refine ⟨_, _, h, fun h => ?_⟩
    simp only [zZ2, Bool.and_eq_true] at h
    obtain ⟨h1, h2⟩ := h
    split at h1
    ·rename_i e hu
     exact ⟨by simp [pv, hx, hu], h2⟩
    ·cases h1
   ·cases h
  ·simp only [zLq] at h
   obtain ⟨u, hx, h⟩ := zCY h
   obtain ⟨v, hy, h⟩ := zCY h
   split at h
   ·exact ⟨ob, _, h, fun h => ⟨by simp [pv, hx, hy], h⟩⟩
   ·cases h
  ·simp only [zLq] at h
   obtain ⟨u, hx, h⟩ := zCY h
   obtain ⟨v, hy, h⟩ := zCY h
   split at h
   ·exact ⟨ob, _, h, fun h => ⟨by simp [pv, hx, hy], h⟩⟩
   ·cases h
  ·cases h
 | _ => simp [pvC] at h
def guC (os : Array Oper) (S : Sl) (g : Option (Nat × Bool)) (yes no : Option β) : Option β := match g with
 | none => yes
 | some (j, b) => match os[j]? with
  | none => none
  | some o => match o.dst with
   | none => none
   | some d => z38 S d fun v => match v with
    | .bool true => match b with
     | true => yes
     | false => no
    | .bool false => match b with
     | true => no
     | false => yes
    | .tuple _ => no
    | _ => none
theorem zZd {os : Array Oper} {S : Sl} {g : Option (Nat × Bool)} {yes no : Option β} {r : β} (h : guC os S g yes no = some r) :
  (wB os S g = some true ∧ yes = some r) ∨ (wB os S g = some false ∧ no = some r) := by
 unfold guC at h
 split at h
 ·exact .inl ⟨rfl, h⟩
 ·rename_i j b
  split at h
  ·cases h
  ·rename_i o ho
   split at h
   ·cases h
   ·rename_i d hd
    rw [zWC] at h
    obtain ⟨v, hv, h⟩ := zCY h
    split at h
    ·split at h
     ·exact .inl ⟨by simp [wB, ho, hd, hv], h⟩
     ·exact .inr ⟨by simp [wB, ho, hd, hv], h⟩
    ·split at h
     ·exact .inr ⟨by simp [wB, ho, hd, hv], h⟩
     ·exact .inl ⟨by simp [wB, ho, hd, hv], h⟩
    ·exact .inr ⟨by simp [wB, ho, hd, hv], h⟩
    ·cases h
def z4G (os : Array Oper) : List Oper → Nat → Sl → List Ob → Option (Sl × List Oper × List Ob)
 | l, 0, S, ob => some (S, l, ob)
 | [], _ + 1, _, _ => none
 | o :: l, k + 1, S, ob => match o.dst with
  | none => none
  | some d => guC os S o.guard (pvC S o.op ob fun ob v => z4G os l k ((d, v) :: S) ob) (z4G os l k ((d, undef) :: S) ob)
end
theorem zPp {P : Program} {os : Array Oper} {n : Nat} {Q : Exit → Act → World → Prop} {w : World} : ∀ (l : List Oper) (k : Nat) (S S' : Sl) (l' : List Oper) (ob ob' : List Ob) (a : Act), wH a n S → z4G os l k S ob = some (S', l', ob') →
  ((zZl (l.take k)).all (fun d => Nat.blt d n) = true) → zZ2 P ob' = true → (∀ a', wH a' n S' → wpList P os Q l' a' w) → zZ2 P ob = true ∧ wpList P os Q l a w
 | l, 0, S, S', l', ob, ob', a, hS, h, _, ho, kk => by
  simp only [z4G, Option.some.injEq, Prod.mk.injEq] at h
  obtain ⟨rfl, rfl, rfl⟩ := h
  exact ⟨ho, kk a hS⟩
 | [], k + 1, S, S', l', ob, ob', a, hS, h, _, _, kk => by simp [z4G] at h
 | o :: l, k + 1, S, S', l', ob, ob', a, hS, h, hd, ho, kk => by
  simp only [z4G] at h
  split at h
  ·cases h
  ·rename_i d hod
   simp only [List.take_succ_cons, zZl, hod, List.all_cons, Bool.and_eq_true] at hd
   rcases zZd h with ⟨hg, h⟩ | ⟨hg, h⟩
   ·obtain ⟨ob1, v, h, hv⟩ := zZv (P := P) h
    have key : ∀ a, wH a n ((d, v) :: S) → zZ2 P ob1 = true ∧ wpList P os Q l a w := fun a hS => zPp l k _ S' l' ob1 ob' a hS h hd.2 ho kk
    have h1 := (zPp (P := P) (Q := Q) l k _ S' l' ob1 ob' _ (hS.put hd.1 v) h hd.2 ho kk).1
    obtain ⟨h2, h3⟩ := hv h1
    refine ⟨h3, zRK (v := v) (w' := w) hg hS (zWv hS h2 _ _ _ _ _ w) ?_⟩
    rw [hod]
    exact (key _ (hS.put hd.1 v)).2
   ·have h1 := zPp (P := P) (Q := Q) l k _ S' l' ob ob' _ (hS.put hd.1 undef) h hd.2 ho kk
    refine ⟨h1.1, zUc hg hS ?_⟩
    rw [hod]
    exact h1.2
end Go.GD
