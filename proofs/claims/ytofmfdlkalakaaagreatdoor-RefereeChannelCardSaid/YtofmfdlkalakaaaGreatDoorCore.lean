/- Steps through the model's code: what a frame's slots hold, operations that only compute, control, calls. Conditions: none. -/
import Derived.WalkKit
import Derived.Laws.StructEq
import Derived.Test.YtofmfdlkalakaaaGreatDoorBase
namespace Go.GD
open Go
set_option autoImplicit false

abbrev vi (n : Int) : Value := .int .i64 n
abbrev vb (b : Bool) : Value := .bool b
abbrev vs (s : Str) : Value := .string ⟨s.toArray⟩

/-! ### Slots -/

def look : List (Nat × Value) → Nat → Option Value
  | [], _ => none
  | (i, v) :: r, j => bif Nat.beq i j then some v else look r j

structure Slots (a : Act) (n : Nat) (S : List (Nat × Value)) : Prop where
  defers : a.defers = []
  size : a.tmps.size = n
  has : ∀ i v, look S i = some v → a.tmps[i]? = some v

theorem Slots.put {a : Act} {n : Nat} {S : List (Nat × Value)} (h : Slots a n S) {d : Nat} (hd : Nat.blt d n = true) (v : Value) : Slots (a.put (some d) v) n ((d, v) :: S) := by
  have hd' : d < n := by simpa [Nat.blt_eq] using hd
  refine ⟨h.defers, by simp [Act.put, h.size], fun i u hu => ?_⟩
  simp only [look] at hu
  simp only [Act.put]
  cases hb : Nat.beq d i with
  | true =>
    have : d = i := Nat.eq_of_beq_eq_true hb
    subst this
    simp only [hb, cond_true, Option.some.injEq] at hu
    subst hu
    simp [h.size, hd']
  | false =>
    simp only [hb, cond_false] at hu
    have hne : d ≠ i := fun e => by rw [e, Nat.beq_refl] at hb; cases hb
    rw [Array.getElem?_setIfInBounds_ne hne]
    exact h.has i u hu

theorem Slots.getD {a : Act} {n : Nat} {S : List (Nat × Value)} (h : Slots a n S) {i : Nat} {v : Value} (hl : look S i = some v) : a.tmps.getD i undef = v := by
  have := h.has i v hl
  simp [this]

/-- fewer slots -/
def projS (S : List (Nat × Value)) : List Nat → Option (List (Nat × Value))
  | [] => some []
  | k :: ks => match look S k, projS S ks with
    | some v, some r => some ((k, v) :: r)
    | _, _ => none

theorem projS_look {S : List (Nat × Value)} : ∀ {ks : List Nat} {S2 : List (Nat × Value)}, projS S ks = some S2 → ∀ i v, look S2 i = some v → look S i = some v
  | [], S2, h, i, v, hl => by simp [projS] at h; subst h; simp [look] at hl
  | k :: ks, S2, h, i, v, hl => by
    simp only [projS] at h
    cases hk : look S k with
    | none => simp [hk] at h
    | some u =>
      cases hr : projS S ks with
      | none => simp [hk, hr] at h
      | some r =>
        simp only [hk, hr, Option.some.injEq] at h
        subst h
        simp only [look] at hl
        cases hb : Nat.beq k i with
        | true =>
          have : k = i := Nat.eq_of_beq_eq_true hb
          subst this
          simp only [hb, cond_true] at hl
          rw [hk]; exact hl
        | false =>
          simp only [hb, cond_false] at hl
          exact projS_look hr i v hl

theorem Slots.only {a : Act} {n : Nat} {S : List (Nat × Value)} (h : Slots a n S) (S2 : List (Nat × Value)) (hp : projS S (S2.map Prod.fst) = some S2) : Slots a n S2 :=
  ⟨h.defers, h.size, fun i v hl => h.has i v (projS_look hp i v hl)⟩

theorem look_append {S2 S : List (Nat × Value)} {i : Nat} : look (S2 ++ S) i = match look S2 i with | some v => some v | none => look S i := by
  induction S2 with
  | nil => rfl
  | cons p r ih =>
    obtain ⟨k, v⟩ := p
    simp only [List.cons_append, look]
    cases Nat.beq k i with
    | true => rfl
    | false => simpa using ih

/-! ### Operands and operations that only compute -/

def opd (S : List (Nat × Value)) : Operand → Option Value
  | .tmp t => look S t
  | .const v => some v
  | .func f => some (.func (.func f) #[] #[])
  | .global g => some (.pointer (some ⟨g, 0, none⟩))

theorem Slots.eval {a : Act} {n : Nat} {S : List (Nat × Value)} (h : Slots a n S) {x : Operand} {v : Value} (hx : opd S x = some v) : a.eval x = v := by
  cases x with
  | tmp t => exact h.getD hx
  | const u => simpa [opd, Act.eval] using hx
  | func f => simpa [opd, Act.eval] using hx
  | global g => simpa [opd, Act.eval] using hx

def intBin (op : BinOp) (k : IntKind) (a b : Int) : Option Value :=
  match op with
  | .add => some (.int k (k.wrap (a + b)))
  | .sub => some (.int k (k.wrap (a - b)))
  | .mul => some (.int k (k.wrap (a * b)))
  | .and => some (.int k (band k a b))
  | .or => some (.int k (bor k a b))
  | .xor => some (.int k (bxor k a b))
  | .andNot => some (.int k (bandNot k a b))
  | .eql => some (.bool (a == b))
  | .neq => some (.bool (a != b))
  | .lss => some (.bool (decide (a < b)))
  | .leq => some (.bool (decide (a ≤ b)))
  | .gtr => some (.bool (decide (b < a)))
  | .geq => some (.bool (decide (b ≤ a)))
  | _ => none

def strBin (op : BinOp) (a b : Str) : Option Value :=
  match op with
  | .eql => some (.bool (a == b))
  | .neq => some (.bool (!(a == b)))
  | .lss => some (.bool (sless a b))
  | .leq => some (.bool (sless a b || a == b))
  | .gtr => some (.bool (!(sless a b || a == b)))
  | .geq => some (.bool (!(sless a b)))
  | _ => none

def fldOff (P : Program) (s : TypeId) (f : Nat) : Option Nat :=
  match P.underlying s with
  | some (.struct fs) => match fs[f]? with
    | some fd => match (P.info? fd.type).map (·.size) with
      | some (_ + 1) => some fd.offset
      | _ => none
    | none => none
  | _ => none

def shapeOf (P : Program) (t : TypeId) : Option (Bool × Nat) :=
  match P.underlying t, (P.info? t).map (·.size) with
  | some (.struct _), some n | some (.array _ _), some n => some (true, n)
  | some _, some n => some (false, n)
  | _, _ => none

/-- a part of a row of cells, as a value of type t -/
def partV (P : Program) (t : TypeId) (cs : Array Value) (o : Nat) : Option Value :=
  match shapeOf P t with
  | some (true, n) => some (.agg (cs.extract o (o + n)))
  | some (false, _) => cs[o]?
  | none => none

/-- '==' between two values that are told by their cells; with a list of fields: of the parts of two structs -/
def eqG (P : Program) : Nat → Option (List Field) → TypeId → Value → Value → Option Bool
  | 0, _, _, _, _ => none
  | d + 1, none, t, x, y => match P.underlying t, x, y with
    | some .bool, .bool a, .bool b => some (a == b)
    | some (.int _), .int k a, .int k' b => if k = k' then some (a == b) else none
    | some .string, .string a, .string b => some (a.data.toList == b.data.toList)
    | some (.struct fs), .agg xs, .agg ys => if P.stoodInHeld t then none else eqG P d (some fs.toList) t (.agg xs) (.agg ys)
    | _, _, _ => none
  | _ + 1, some [], _, _, _ => some true
  | d + 1, some (f :: fs), t, x, y => match x, y with
    | .agg xs, .agg ys => if f.name = "_" then none else
      match partV P f.type xs f.offset, partV P f.type ys f.offset with
      | some a, some b => match eqG P d none f.type a b with
        | some r => match fs with
          | [] => some r
          | _ :: _ => match eqG P d (some fs) t (.agg xs) (.agg ys) with
            | some q => some (r && q)
            | none => none
        | none => none
      | _, _ => none
    | _, _ => none

def sizesOf (P : Program) : List Field → Option (List (Nat × Nat))
  | [] => some []
  | f :: fs => match (P.info? f.type).map (·.size), sizesOf P fs with
    | some n, some r => some ((f.offset, n) :: r)
    | _, _ => none

def zeroOf (P : Program) (t : TypeId) : Option Value := (P.info? t).bind (·.zero)

def partsOf (S : List (Nat × Value)) : List (Nat × Operand) → Option (List (Nat × Value))
  | [] => some []
  | (i, x) :: r => match opd S x, partsOf S r with
    | some v, some q => some ((i, v) :: q)
    | _, _ => none

def opds (S : List (Nat × Value)) : List Operand → Option (List Value)
  | [] => some []
  | x :: r => match opd S x, opds S r with
    | some v, some vs => some (v :: vs)
    | _, _ => none

theorem Slots.evals {a : Act} {n : Nat} {S : List (Nat × Value)} (hS : Slots a n S) : ∀ {xs : List Operand} {vs : List Value}, opds S xs = some vs → xs.map a.eval = vs
  | [], vs, h => by simpa [opds] using h
  | x :: r, vs, h => by
    simp only [opds] at h
    split at h
    · rename_i v us hx hr
      simp only [Option.some.injEq] at h
      rw [← h, List.map_cons, hS.eval hx, hS.evals hr]
    · cases h

def shiftV (op : BinOp) (k : IntKind) (a b : Int) : Option Value :=
  match op with
  | .shl => if 0 ≤ b then some (.int k (shl k a b)) else none
  | .shr => if 0 ≤ b then some (.int k (shr k a b)) else none
  | _ => none
theorem run_shiftV {P : Program} {w : World} {op : BinOp} {k k' : IntKind} {a b : Int} {t : TypeId} {v : Value} (h : shiftV op k a b = some v) :
    (binOp op t (.int k a) (.int k' b)).run P w = .ok v w := by
  cases op <;> simp only [shiftV, reduceCtorEq] at h <;> split at h <;> simp at h <;> subst h <;> rename_i h0 <;>
    simp [binOp, Op.shift, shl, shr, show ¬ b < 0 by omega]

/-- the value of an operation that neither reads nor writes memory and cannot panic -/
def pv (P : Program) (S : List (Nat × Value)) : Op → Option Value
  | .move x | .assign x => opd S x
  | .pick c a b => match opd S c with
    | some (.bool true) => opd S a
    | some (.bool false) => opd S b
    | _ => none
  | .binOp op t x y _ => match opd S x, opd S y with
    | some (.int k a), some (.int k' b) => if k = k' then (match intBin op k a b with | some v => some v | none => shiftV op k a b) else shiftV op k a b
    | some (.string a), some (.string b) => strBin op a.data.toList b.data.toList
    | some (.bool a), some (.bool b) => match P.underlying t, op with
      | some .bool, .eql => some (.bool (a == b))
      | some .bool, .neq => some (.bool (!(a == b)))
      | _, _ => none
    | some (.agg xs), some (.agg ys) => if P.eqGuardType P.depth t then none else match op, eqG P 50 none t (.agg xs) (.agg ys) with
      | .eql, some b => some (.bool b)
      | .neq, some b => some (.bool (!b))
      | _, _ => none
    | _, _ => none
  | .build t parts => match P.underlying t with
    | some (.struct fs) => match sizesOf P fs.toList, zeroOf P t, partsOf S parts.toList with
      | some ps, some z, some vs => (Instr.fill (ps[·]?) z.cells vs).map .agg
      | _, _, _ => none
    | _ => none
  | .unOp .not _ x => match opd S x with
    | some (.bool b) => some (.bool (!b))
    | _ => none
  | .unOp .neg _ x => match opd S x with
    | some (.int k n) => some (.int k (k.wrap (0 - n)))
    | _ => none
  | .convert s d x => match P.underlying d, opd S x, P.underlying s with
    | some (.int k), some (.int _ n), some _ => some (.int k (k.wrap n))
    | some .string, some (.string v), some .string => some (.string v)
    | _, _, _ => none
  | .extract x i => match opd S x with
    | some (.tuple vs) => vs[i]?
    | _ => none
  | .nilCheck x => match opd S x with
    | some (.pointer (some a)) => some (.pointer (some a))
    | _ => none
  | .fieldAddr s x f => match opd S x, fldOff P s f with
    | some (.pointer (some ⟨b, o, none⟩)), some off => some (.pointer (some ⟨b, o + off, none⟩))
    | _, _ => none
  | .makeFunc fn x y => match opds S x.toList, opds S y.toList with
    | some us, some vs => some (.func fn us.toArray vs.toArray)
    | _, _ => none
  | .unOp .xor _ x => match opd S x with
    | some (.int k n) => some (.int k (bxor k (if k.signed then -1 else k.max) n))
    | _ => none
  | .call c => match c.callee, c.args.toList, c.argTypes.toList with
    | .builtin .len, [x], [t] => match opd S x, P.underlying t with
      | some (.string s), some .string => some (vi (s.data.toList.length : Int))
      | some (.slice _ n _), some (.slice _) => some (vi (n : Int))
      | _, _ => none
    | .builtin .min, [x, y], _ => match opd S x, opd S y with
      | some (.int k a), some (.int _ b) => some (.int k (if b < a then b else a))
      | _, _ => none
    | .builtin .max, [x, y], _ => match opd S x, opd S y with
      | some (.int k a), some (.int _ b) => some (.int k (if b > a then b else a))
      | _, _ => none
    | _, _, _ => none
  | _ => none

theorem sless_eq : ∀ a b : Str, Op.bytesLess a b = sless a b
  | a, [] => by cases a <;> rfl
  | [], _ :: _ => rfl
  | a :: x, b :: y => by simp only [Op.bytesLess, sless, sless_eq x y]

theorem run_guard_int {P : Program} {w : World} (op : BinOp) (k k' : IntKind) (a b : Int) (t : TypeId) (x y : Operand) : (eqGuard op t x y (.int k a) (.int k' b)).run P w = .ok () w := by
  unfold eqGuard
  split <;> rfl
theorem run_guard_str {P : Program} {w : World} (op : BinOp) (a b : ByteArray) (t : TypeId) (x y : Operand) : (eqGuard op t x y (.string a) (.string b)).run P w = .ok () w := by
  unfold eqGuard
  split <;> rfl
theorem run_guard_bool {P : Program} {w : World} (op : BinOp) (a b : Bool) (t : TypeId) (x y : Operand) : (eqGuard op t x y (.bool a) (.bool b)).run P w = .ok () w := by
  unfold eqGuard
  split <;> rfl

theorem run_intBin {P : Program} {w : World} {op : BinOp} {k : IntKind} {a b : Int} {t : TypeId} {v : Value} (h : intBin op k a b = some v) :
    (binOp op t (.int k a) (.int k b)).run P w = .ok v w := by
  cases op <;> simp [intBin] at h <;> subst h <;> simp [binOp, Op.intArith, Op.intBits, Op.intCmp, band, bor, bxor, bandNot]

theorem ba_toList (a : ByteArray) : a.toList = a.data.toList := ByteArray.toList_eq a

theorem run_strBin {P : Program} {w : World} {op : BinOp} {a b : ByteArray} {t : TypeId} {v : Value} (h : strBin op a.data.toList b.data.toList = some v) :
    (binOp op t (.string a) (.string b)).run P w = .ok v w := by
  cases op <;> simp [strBin] at h <;> subst h <;> simp [binOp, Op.stringOp, sless_eq, ba_toList]

theorem run_underlying' {P : Program} {t : TypeId} {d : TypeDesc} (h : P.underlying t = some d) (w : World) : (underlying t).run P w = .ok d w := run_underlying h w

theorem run_fieldAt {P : Program} {w : World} {s f off b o : Nat} (h : fldOff P s f = some off) :
    (Instr.fieldAt s (.pointer (some ⟨b, o, none⟩)) f).run P w = .ok (.pointer (some ⟨b, o + off, none⟩)) w := by
  unfold fldOff at h
  split at h
  · rename_i fs hu
    split at h
    · rename_i fd hf
      split at h
      · rename_i n hn
        simp only [Option.some.injEq] at h
        subst h
        have hsz : (sizeOf fd.type).run P w = .ok (n + 1) w := by
          cases hq : P.info? fd.type with
          | none => simp [hq] at hn
          | some i =>
            have : i.size = n + 1 := by simpa [hq] using hn
            simp [sizeOf, typeInfo, hq, this]
        have hadd : (⟨b, o, none⟩ : Addr).add fd.offset = ⟨b, o + fd.offset, none⟩ := by unfold Addr.add; split <;> simp_all
        simp [Instr.fieldAt, run_underlying hu, hf, Instr.sureAddr, fieldPlace, hsz, hadd]
      · cases h
    · cases h
  · cases h

theorem run_shape_agg {P : Program} {w : World} {t : TypeId} {b : Bool} {n : Nat} (h : shapeOf P t = some (b, n)) : (isAgg t).run P w = .ok b w ∧ (sizeOf t).run P w = .ok n w := by
  unfold shapeOf at h
  have hsz : ∀ m, (P.info? t).map (·.size) = some m → (sizeOf t).run P w = .ok m w := by
    intro m hm
    cases hq : P.info? t with
    | none => simp [hq] at hm
    | some i =>
      have : i.size = m := by simpa [hq] using hm
      simp [sizeOf, typeInfo, hq, this]
  split at h
  · rename_i fs m hu hm
    simp only [Option.some.injEq, Prod.mk.injEq] at h
    obtain ⟨rfl, rfl⟩ := h
    exact ⟨by simp [isAgg, run_underlying hu], hsz _ hm⟩
  · rename_i x y m hu hm
    simp only [Option.some.injEq, Prod.mk.injEq] at h
    obtain ⟨rfl, rfl⟩ := h
    exact ⟨by simp [isAgg, run_underlying hu], hsz _ hm⟩
  · rename_i d m hn1 hn2 hu hm
    simp only [Option.some.injEq, Prod.mk.injEq] at h
    obtain ⟨rfl, rfl⟩ := h
    refine ⟨?_, hsz _ hm⟩
    simp only [isAgg, Sem.run_bind, run_underlying hu, Result.andThen_ok]
    cases d <;> first | rfl | (rename_i fs; exact (hn1 fs rfl).elim) | (rename_i x y; exact (hn2 x y rfl).elim)
  · cases h

theorem run_zeroOf {P : Program} {t : TypeId} {z : Value} (h : zeroOf P t = some z) (w : World) : (zeroValue t).run P w = .ok z w := by
  unfold zeroOf at h
  cases hq : P.info? t with
  | none => simp [hq] at h
  | some i =>
    simp only [hq, Option.bind_some] at h
    simp [zeroValue, typeInfo, hq, h]


theorem run_partV {P : Program} {w : World} {t : TypeId} {cs : Array Value} {o : Nat} {v : Value} (h : partV P t cs o = some v) : (part t cs o).run P w = .ok v w := by
  unfold partV at h
  split at h
  · rename_i n hs
    obtain ⟨h1, h2⟩ := run_shape_agg (w := w) hs
    simp only [Option.some.injEq] at h
    subst h
    simp [part, h1, h2]
  · rename_i n hs
    obtain ⟨h1, h2⟩ := run_shape_agg (w := w) hs
    simp [part, h1, h]
  · cases h

theorem run_eqG {P : Program} {w : World} : ∀ (d : Nat),
    (∀ (t : TypeId) (x y : Value) (b : Bool), eqG P d none t x y = some b → ∀ D, d ≤ D → (Op.equalIn D t x y).run P w = .ok b w) ∧
    (∀ (fs : List Field) (t : TypeId) (xs ys : Array Value) (b : Bool), eqG P d (some fs) t (.agg xs) (.agg ys) = some b → ∀ D, d ≤ D → (Op.eqFields D xs ys fs).run P w = .ok b w)
  | 0 => ⟨fun t x y b h => by simp [eqG] at h, fun fs t xs ys b h => by simp [eqG] at h⟩
  | d + 1 => by
    obtain ⟨ih1, ih2⟩ := run_eqG (P := P) (w := w) d
    refine ⟨fun t x y b h D hD => ?_, fun fs t xs ys b h D hD => ?_⟩
    · obtain ⟨D', rfl⟩ : ∃ D', D = D' + 1 := ⟨D - 1, by omega⟩
      simp only [eqG] at h
      split at h
      · rename_i p q hu
        simp only [Option.some.injEq] at h
        subst h
        exact run_equalIn_bool' w D' t p q hu
      · rename_i k1 k p k' q hu
        split at h
        · rename_i hk
          subst hk
          simp only [Option.some.injEq] at h
          subst h
          exact run_equalIn_int w D' t _ _ p q hu
        · cases h
      · rename_i p q hu
        simp only [Option.some.injEq] at h
        subst h
        rw [run_equalIn_string w D' t p q hu, ba_toList, ba_toList]
      · rename_i fs xs ys hu
        split at h
        · cases h
        · rename_i hst
          have hf : P.fieldsOf t = fs := by simp [Program.fieldsOf, hu]
          rw [run_equalIn_struct w D' t xs ys (by rw [hf]; exact hu) (by simpa using hst), hf]
          exact ih2 fs.toList t xs ys b h D' (by omega)
      · cases h
    · cases fs with
      | nil =>
        simp only [eqG, Option.some.injEq] at h
        subst h
        simp [Op.eqFields]
      | cons f fs =>
        simp only [eqG] at h
        split at h
        · cases h
        · rename_i hn
          split at h
          · rename_i u v hu hv
            split at h
            · rename_i r hr
              have hrun := ih1 f.type u v r hr D (by omega)
              split at h
              · simp only [Option.some.injEq] at h
                subst h
                simp only [Op.eqFields, ne_eq, hn, not_false_eq_true, if_true, Sem.run_bind, run_partV hu, run_partV hv, Result.andThen_ok, hrun]
                cases r <;> simp
              · split at h
                · rename_i q hq
                  simp only [Option.some.injEq] at h
                  subst h
                  have hrest := ih2 _ t xs ys q hq D (by omega)
                  simp only [Op.eqFields] at hrest
                  simp only [Op.eqFields, ne_eq, hn, not_false_eq_true, if_true, Sem.run_bind, run_partV hu, run_partV hv, Result.andThen_ok, hrun]
                  cases r
                  · simp
                  · simpa using hrest
                · cases h
            · cases h
          · cases h

theorem run_sizes {P : Program} {w : World} : ∀ {fs : List Field} {ps : List (Nat × Nat)}, sizesOf P fs = some ps → (fs.mapM (fun f => do pure (f.offset, ← sizeOf f.type) : Field → Sem (Nat × Nat))).run P w = .ok ps w
  | [], ps, h => by simp only [sizesOf, Option.some.injEq] at h; subst h; simp
  | f :: fs, ps, h => by
    simp only [sizesOf] at h
    split at h
    · rename_i n r hn hr
      simp only [Option.some.injEq] at h
      subst h
      have hsz : (sizeOf f.type).run P w = .ok n w := by
        cases hq : P.info? f.type with
        | none => simp [hq] at hn
        | some i =>
          have : i.size = n := by simpa [hq] using hn
          simp [sizeOf, typeInfo, hq, this]
      have ih := run_sizes (w := w) hr
      simp only [bind_pure_comp] at ih
      simp [List.mapM_cons, hsz, ih]
    · cases h

theorem Slots.parts {a : Act} {n : Nat} {S : List (Nat × Value)} (hS : Slots a n S) : ∀ {ps : List (Nat × Operand)} {vs : List (Nat × Value)}, partsOf S ps = some vs → ps.map (fun (i, x) => (i, a.eval x)) = vs
  | [], vs, h => by simpa [partsOf] using h
  | (i, x) :: r, vs, h => by
    simp only [partsOf] at h
    split at h
    · rename_i v q hx hr
      simp only [Option.some.injEq] at h
      rw [← h, List.map_cons, hS.parts hr]
      show (i, a.eval x) :: q = (i, v) :: q
      rw [hS.eval hx]
    · cases h

theorem pv_run {P : Program} {a : Act} {n : Nat} {S : List (Nat × Value)} (hS : Slots a n S) {op : Op} {v : Value} (h : pv P S op = some v)
    (d : Option Tmp) (ty : TypeId) (pos : String) (af : Array Edge) (g : Option (Nat × Bool)) (w : World) :
    (execOp a.eval ⟨d, op, ty, pos, af, g⟩).run P w = .ok (.value v) w := by
  cases op with
  | move x => simp only [pv] at h; simp [execOp, hS.eval h]
  | assign x => simp only [pv] at h; simp [execOp, hS.eval h]
  | pick c x y =>
    simp only [pv] at h
    split at h
    · rename_i hc; simp [execOp, hS.eval hc, asBool, hS.eval h]
    · rename_i hc; simp [execOp, hS.eval hc, asBool, hS.eval h]
    · cases h
  | binOp op t x y u =>
    simp only [pv] at h
    split at h
    · rename_i k p k' q hx hy
      split at h
      · rename_i hk
        subst hk
        split at h
        · rename_i v' hv
          simp only [Option.some.injEq] at h
          subst h
          simp [execOp, hS.eval hx, hS.eval hy, run_guard_int, run_intBin hv]
        · simp [execOp, hS.eval hx, hS.eval hy, run_guard_int, run_shiftV h]
      · simp [execOp, hS.eval hx, hS.eval hy, run_guard_int, run_shiftV h]
    · rename_i p q hx hy
      simp [execOp, hS.eval hx, hS.eval hy, run_guard_str, run_strBin h]
    · rename_i p q hx hy
      split at h
      · rename_i hu
        simp only [Option.some.injEq] at h
        subst h
        simp [execOp, hS.eval hx, hS.eval hy, run_guard_bool, run_eql_bool w t p q hu]
      · rename_i hu
        simp only [Option.some.injEq] at h
        subst h
        simp [execOp, hS.eval hx, hS.eval hy, run_guard_bool, run_neq_bool w t p q hu]
      · cases h
    · rename_i xs ys hx hy
      split at h
      · cases h
      · rename_i hgd
        have hgd' : P.eqGuardType P.depth t = false := by simpa using hgd
        split at h
        · rename_i r hr
          simp only [Option.some.injEq] at h
          subst h
          have := (run_eqG (P := P) (w := w) 50).1 t _ _ r hr 10000 (by omega)
          simp [execOp, hS.eval hx, hS.eval hy, run_eqGuard_agg w _ t x y xs ys hgd', run_eql_struct, this]
        · rename_i r hr
          simp only [Option.some.injEq] at h
          subst h
          have := (run_eqG (P := P) (w := w) 50).1 t _ _ r hr 10000 (by omega)
          simp [execOp, hS.eval hx, hS.eval hy, run_eqGuard_agg w _ t x y xs ys hgd', run_neq_struct, this]
        · cases h
    · cases h
  | build t parts =>
    simp only [pv] at h
    split at h
    · rename_i fs hu
      split at h
      · rename_i ps z vs hps hz hvs
        simp only [Option.map_eq_some_iff] at h
        obtain ⟨cells, hfill, rfl⟩ := h
        have h1 := run_sizes (w := w) hps
        simp only [bind_pure_comp] at h1
        have h2 := hS.parts hvs
        have h3 := run_zeroOf hz w
        simp only [execOp, Instr.build, Sem.run_bind, h3, Result.andThen_ok, run_underlying hu, Array.mapM_eq_mapM_toList, bind_pure_comp, Sem.run_map, h1]
        simp only [Array.toList_map, h2]
        simp [hfill]
      · cases h
    · cases h
  | unOp op t x =>
    cases op with
    | not =>
      simp only [pv] at h
      split at h
      · rename_i b hx
        simp only [Option.some.injEq] at h
        subst h
        simp [execOp, hS.eval hx, Op.unary]
      · cases h
    | neg =>
      simp only [pv] at h
      split at h
      · rename_i k m hx
        simp only [Option.some.injEq] at h
        subst h
        simp [execOp, hS.eval hx, Op.unary, Op.intArith]
      · cases h
    | xor =>
      simp only [pv] at h
      split at h
      · rename_i k m hx
        simp only [Option.some.injEq] at h
        subst h
        simp [execOp, hS.eval hx, Op.unary, Op.intBits, bxor]
      · cases h
    | _ => simp [pv] at h
  | convert s t x =>
    simp only [pv] at h
    split at h
    · rename_i k k' m ds hu hx hs
      simp only [Option.some.injEq] at h
      subst h
      simp [execOp, convert, hS.eval hx, run_underlying hu, run_underlying hs, Conv.intToInt]
    · rename_i u hu hx hs
      simp only [Option.some.injEq] at h
      subst h
      simp [execOp, convert, hS.eval hx, run_underlying hu, run_underlying hs]
    · cases h
  | extract x i =>
    simp only [pv] at h
    split at h
    · rename_i us hx
      simp [execOp, hS.eval hx, Instr.extract, h]
    · cases h
  | nilCheck x =>
    simp only [pv] at h
    split at h
    · rename_i u hx
      simp only [Option.some.injEq] at h
      subst h
      simp [execOp, hS.eval hx]
    · cases h
  | fieldAddr s x f =>
    simp only [pv] at h
    split at h
    · rename_i b o off hx hf
      simp only [Option.some.injEq] at h
      subst h
      simp [execOp, hS.eval hx, run_fieldAt hf]
    · cases h
  | makeFunc fn x y =>
    simp only [pv] at h
    split at h
    · rename_i us vs hx hy
      simp only [Option.some.injEq] at h
      subst h
      have h1 := hS.evals hx
      have h2 := hS.evals hy
      have e1 : x.map a.eval = us.toArray := by rw [← h1]; exact Array.toList_inj.1 (by simp)
      have e2 : y.map a.eval = vs.toArray := by rw [← h2]; exact Array.toList_inj.1 (by simp)
      simp [execOp, Instr.makeFunc, e1, e2]
    · cases h
  | call c =>
    obtain ⟨cal, args, ats⟩ := c
    simp only [pv] at h
    split at h
    · rename_i x t h2 h3
      obtain ⟨args⟩ := args
      obtain ⟨ats⟩ := ats
      have h2 : args = [x] := h2
      have h3 : ats = [t] := h3
      subst h2 h3
      split at h
      · rename_i s hx hu
        simp only [Option.some.injEq] at h
        subst h
        simp [execOp, resolve, invoke, builtin, Builtin.len_, hS.eval hx, run_underlying hu, goInt]
      · rename_i b m c e hx hu
        simp only [Option.some.injEq] at h
        subst h
        simp [execOp, resolve, invoke, builtin, Builtin.len_, hS.eval hx, run_underlying hu, goInt]
      · cases h
    · rename_i ts x y h2
      obtain ⟨args⟩ := args
      have h2 : args = [x, y] := h2
      subst h2
      split at h
      · rename_i k p k' q hx hy
        simp only [Option.some.injEq] at h
        subst h
        simp [execOp, resolve, invoke, builtin, Builtin.min_, Builtin.min2, hS.eval hx, hS.eval hy]
      · cases h
    · rename_i ts x y h2
      obtain ⟨args⟩ := args
      have h2 : args = [x, y] := h2
      subst h2
      split at h
      · rename_i k p k' q hx hy
        simp only [Option.some.injEq] at h
        subst h
        simp [execOp, resolve, invoke, builtin, Builtin.max_, Builtin.max2, hS.eval hx, hS.eval hy]
      · cases h
    · cases h
  | _ => simp [pv] at h

/-! ### Lists of operations in their order -/

section
variable {P : Program} {ops : Array Oper} {Q : Exit → Act → World → Prop} {a : Act} {n : Nat} {S : List (Nat × Value)} {w : World} {rest : List Oper}

/-- does an operation come to pass, as far as its guard is known? -/
def wantedS (ops : Array Oper) (S : List (Nat × Value)) (g : Option (Nat × Bool)) : Option Bool :=
  match g with
  | none => some true
  | some (j, b) => match ops[j]? with
    | none => none
    | some o => match o.dst with
      | none => none
      | some d => match look S d with
        | some (.bool c) => some (c == b)
        | some (.tuple _) => some false
        | _ => none

theorem wanted_of (hS : Slots a n S) {o : Oper} {b : Bool} (h : wantedS ops S o.guard = some b) : Region.wanted o (yielded ops a.tmps) = b := by
  unfold wantedS at h
  unfold Region.wanted
  split at h
  · rename_i hg; simp only [Option.some.injEq] at h; rw [hg]; exact h
  · rename_i j c hg
    rw [hg]
    split at h
    · cases h
    · rename_i oj hj
      split at h
      · cases h
      · rename_i d hd
        split at h
        · rename_i u hu
          simp only [Option.some.injEq] at h
          have hv := hS.has d _ hu
          simp only [yielded, hj, Option.bind_some, hd, hv]
          rw [← h]
          cases u <;> cases c <;> rfl
        · rename_i u hu
          simp only [Option.some.injEq] at h
          have hv := hS.has d _ hu
          simp only [yielded, hj, Option.bind_some, hd, hv]
          rw [← h]
          rfl
        · cases h

/-- a run of operations that only compute -/
def pureRun (P : Program) (ops : Array Oper) : List Oper → List (Nat × Value) → Option (List (Nat × Value))
  | [], S => some S
  | o :: r, S => match o.dst with
    | none => none
    | some d => match wantedS ops S o.guard with
      | some true => match pv P S o.op with
        | some v => pureRun P ops r ((d, v) :: S)
        | none => none
      | some false => pureRun P ops r ((d, undef) :: S)
      | none => none

def dsts : List Oper → List Nat
  | [] => []
  | o :: r => match o.dst with
    | some d => d :: dsts r
    | none => dsts r

def dstsOk (n : Nat) (S2 S : List (Nat × Value)) : List Nat → Bool
  | [] => true
  | d :: r => Nat.blt d n && ((look S2 d).isSome || (look S d).isNone) && dstsOk n S2 S r

theorem wpList_op {o : Oper} {v : Value} {w' : World} (hg : wantedS ops S o.guard = some true) (hS : Slots a n S) (hr : (execOp a.eval o).run P w = .ok (.value v) w')
    (k : wpList P ops Q rest (a.put o.dst v) w') : wpList P ops Q (o :: rest) a w := by
  unfold wpList
  rw [if_pos (wanted_of hS hg)]
  refine .inl ?_
  unfold Oper.wp
  rw [hr]
  exact k

theorem wpList_skip {o : Oper} (hg : wantedS ops S o.guard = some false) (hS : Slots a n S)
    (k : wpList P ops Q rest (a.put o.dst undef) w) : wpList P ops Q (o :: rest) a w := by
  unfold wpList
  rw [if_neg (by rw [wanted_of hS hg]; simp)]
  exact k

theorem pureRun_sound : ∀ (l : List Oper) (a : Act) (S S' : List (Nat × Value)), Slots a n S → pureRun P ops l S = some S' → (dsts l).all (fun d => Nat.blt d n) = true →
    (∀ a', Slots a' n S' → wpList P ops Q rest a' w) → wpList P ops Q (l ++ rest) a w
  | [], a, S, S', hS, h, _, k => by
    simp only [pureRun, Option.some.injEq] at h
    subst h
    exact k a hS
  | o :: l, a, S, S', hS, h, hd, k => by
    simp only [pureRun] at h
    split at h
    · cases h
    · rename_i d hod
      simp only [dsts, hod, List.all_cons, Bool.and_eq_true] at hd
      split at h
      · rename_i hg
        split at h
        · rename_i v hv
          refine wpList_op (v := v) (w' := w) hg hS (pv_run hS hv _ _ _ _ _ w) ?_
          rw [hod]
          exact pureRun_sound l _ _ S' (hS.put hd.1 v) h hd.2 k
        · cases h
      · rename_i hg
        refine wpList_skip hg hS ?_
        rw [hod]
        exact pureRun_sound l _ _ S' (hS.put hd.1 undef) h hd.2 k
      · cases h

theorem pureRun_old : ∀ {l : List Oper} {S S' : List (Nat × Value)}, pureRun P ops l S = some S' → ∀ i, i ∉ dsts l → look S' i = look S i
  | [], S, S', h, i, _ => by simp only [pureRun, Option.some.injEq] at h; rw [h]
  | o :: l, S, S', h, i, hi => by
    simp only [pureRun] at h
    split at h
    · cases h
    · rename_i d hod
      simp only [dsts, hod, List.mem_cons, not_or] at hi
      have hb : Nat.beq d i = false := by
        cases hb : Nat.beq d i with
        | false => rfl
        | true => exact absurd (Nat.eq_of_beq_eq_true hb).symm hi.1
      split at h
      · split at h
        · rw [pureRun_old h i hi.2]; simp [look, hb]
        · cases h
      · rw [pureRun_old h i hi.2]; simp [look, hb]
      · cases h

theorem dstsOk_spec {S2 S : List (Nat × Value)} : ∀ {ds : List Nat}, dstsOk n S2 S ds = true → (ds.all (fun d => Nat.blt d n) = true) ∧ ∀ d ∈ ds, (look S2 d).isSome ∨ look S d = none
  | [], _ => ⟨rfl, fun _ h => by cases h⟩
  | d :: r, h => by
    simp only [dstsOk, Bool.and_eq_true, Bool.or_eq_true, Option.isNone_iff_eq_none] at h
    obtain ⟨⟨h1, h2⟩, h3⟩ := h
    obtain ⟨i1, i2⟩ := dstsOk_spec h3
    refine ⟨by simp [h1, i1], fun e he => ?_⟩
    rcases List.mem_cons.1 he with rfl | he
    · exact h2
    · exact i2 e he

/-- **a run of m operations that only compute**; S2: what is new and still wanted -/
theorem pure_run (m : Nat) (S2 : List (Nat × Value)) {l : List Oper} (hS : Slots a n S)
    (hr : (pureRun P ops (l.take m) S).bind (fun s => projS s (S2.map Prod.fst)) = some S2) (hd : dstsOk n S2 S (dsts (l.take m)) = true)
    (k : ∀ a', Slots a' n (S2 ++ S) → wpList P ops Q (l.drop m) a' w) : wpList P ops Q l a w := by
  cases hp : pureRun P ops (l.take m) S with
  | none => simp [hp] at hr
  | some S' =>
    simp only [hp, Option.bind_some] at hr
    obtain ⟨hd1, hd2⟩ := dstsOk_spec hd
    rw [← List.take_append_drop m l]
    refine pureRun_sound _ a S S' hS hp hd1 fun a' hS' => k a' ⟨hS'.defers, hS'.size, fun i v hl => ?_⟩
    rw [look_append] at hl
    split at hl
    · rename_i u hu
      simp only [Option.some.injEq] at hl
      subst hl
      exact hS'.has i _ (projS_look hr i _ hu)
    · rename_i hu
      by_cases hi : i ∈ dsts (l.take m)
      · rcases hd2 i hi with h1 | h1
        · rw [hu] at h1; cases h1
        · rw [h1] at hl; cases hl
      · exact hS'.has i v (by rw [pureRun_old hp i hi]; exact hl)

theorem ops_end (h : Q .normal a w) : wpList P ops Q [] a w := h

/-- an operation, whatever goes on behind it -/
def Stp (P : Program) (ops : Array Oper) (Q : Exit → Act → World → Prop) (o : Oper) (K : Act → World → Prop) (a : Act) (w : World) : Prop :=
  if Region.wanted o (yielded ops a.tmps) then o.wp P a w K Q else K (a.put o.dst undef) w

theorem sl {o : Oper} (h : Stp P ops Q o (wpList P ops Q rest) a w) : wpList P ops Q (o :: rest) a w := by
  unfold Stp at h
  unfold wpList
  split
  · rename_i hw; rw [if_pos hw] at h; exact .inl h
  · rename_i hw; rw [if_neg hw] at h; exact h

/-- an operation with its value (the general step) -/
theorem op_val {d : Nat} {op : Op} {ty : TypeId} {pos : String} {af : Array Edge} {g : Option (Nat × Bool)} {v : Value} {w' : World} {K : Act → World → Prop}
    (hS : Slots a n S) (hd : Nat.blt d n = true) (hg : wantedS ops S g = some true) (hr : (execOp a.eval ⟨some d, op, ty, pos, af, g⟩).run P w = .ok (.value v) w')
    (k : ∀ a', Slots a' n ((d, v) :: S) → K a' w') : Stp P ops Q ⟨some d, op, ty, pos, af, g⟩ K a w := by
  unfold Stp
  rw [if_pos (wanted_of (o := ⟨some d, op, ty, pos, af, g⟩) hS hg)]
  unfold Oper.wp
  rw [hr]
  exact k _ (hS.put hd v)

/-- an operation without a value: a store -/
theorem op_unit {op : Op} {ty : TypeId} {pos : String} {af : Array Edge} {g : Option (Nat × Bool)} {w' : World} {K : Act → World → Prop}
    (hS : Slots a n S) (hg : wantedS ops S g = some true) (hr : (execOp a.eval ⟨none, op, ty, pos, af, g⟩).run P w = .ok .skip w')
    (k : ∀ a', Slots a' n S → K a' w') : Stp P ops Q ⟨none, op, ty, pos, af, g⟩ K a w := by
  unfold Stp
  rw [if_pos (wanted_of (o := ⟨none, op, ty, pos, af, g⟩) hS hg)]
  unfold Oper.wp
  rw [hr]
  exact k a hS

theorem op_skip {d : Option Tmp} {op : Op} {ty : TypeId} {pos : String} {af : Array Edge} {g : Option (Nat × Bool)} {K : Act → World → Prop}
    (hS : Slots a n S) (hg : wantedS ops S g = some false) (hd : (match d with | some d => Nat.blt d n | none => true) = true)
    (k : ∀ a', Slots a' n (match d with | some d => (d, undef) :: S | none => S) → K a' w) : Stp P ops Q ⟨d, op, ty, pos, af, g⟩ K a w := by
  unfold Stp
  rw [if_neg (by rw [wanted_of (o := ⟨d, op, ty, pos, af, g⟩) hS hg]; simp)]
  cases d with
  | none => exact k a hS
  | some d => exact k _ (hS.put hd undef)

/-- what a call that comes back leaves -/
def Ret (R : Value → World → Prop) : Ending → World → Prop
  | .returned v, w => R v w
  | _, _ => False

/-- a call of a function known by its number -/
theorem op_call {d : Nat} {f : FuncId} {xs : List Operand} {ats : Array TypeId} {ty : TypeId} {pos : String} {af : Array Edge} {g : Option (Nat × Bool)} {vs : List Value} {R : Value → World → Prop} {K : Act → World → Prop}
    (hS : Slots a n S) (hd : Nat.blt d n = true) (hg : wantedS ops S g = some true)
    (hf : ∀ args w, (callFunc f args).run P w = .ok (.enter f args) w) (hx : opds S xs = some vs)
    (hc : Calls P f vs.toArray w (Ret R))
    (k : ∀ v w', R v w' → ∀ a', Slots a' n ((d, v) :: S) → K a' w') :
    Stp P ops Q ⟨some d, .call { callee := .value (.func f), args := xs.toArray, argTypes := ats }, ty, pos, af, g⟩ K a w := by
  unfold Stp
  rw [if_pos (wanted_of (o := ⟨some d, .call { callee := .value (.func f), args := xs.toArray, argTypes := ats }, ty, pos, af, g⟩) hS hg)]
  have hr : (execOp a.eval ⟨some d, .call { callee := .value (.func f), args := xs.toArray, argTypes := ats }, ty, pos, af, g⟩).run P w = .ok (.enter f vs.toArray) w := by
    simp [execOp, resolve, Deferred.ofValue, invoke, Act.eval, hf, hS.evals hx]
  unfold Oper.wp
  rw [hr]
  refine hc.mono fun e w' h => ?_
  cases e with
  | returned v => exact k v w' h _ (hS.put hd v)
  | panicked ch => exact h.elim
  | outgrown => exact h.elim

/-- a slot's value in other words -/
theorem Slots.upd (hS : Slots a n S) {t : Nat} {v v' : Value} (hl : look S t = some v) (e : v = v') : Slots a n ((t, v') :: S) := by
  subst e
  refine ⟨hS.defers, hS.size, fun i u hu => ?_⟩
  simp only [look] at hu
  cases hb : Nat.beq t i with
  | true =>
    have : t = i := Nat.eq_of_beq_eq_true hb
    subst this
    simp only [hb, cond_true, Option.some.injEq] at hu
    subst hu
    exact hS.has _ _ hl
  | false =>
    simp only [hb, cond_false] at hu
    exact hS.has i u hu

end

/-! ### Control -/

section
variable {P : Program} {Q : Exit → Act → World → Prop} {a : Act} {w : World} {n : Nat} {S : List (Nat × Value)}

theorem then_n {K : Act → World → Prop} (h : K a w) : Exit.then K Q .normal a w := h
theorem then_e {K : Act → World → Prop} {id : Nat} (h : Q (.exit id) a w) : Exit.then K Q (.exit id) a w := h
theorem then_r {K : Act → World → Prop} (h : Q .ret a w) : Exit.then K Q .ret a w := h
theorem inb_n {id : Nat} (h : Q .normal a w) : Exit.inBlock id Q .normal a w := h
theorem inb_hit {id : Nat} (h : Q .normal a w) : Exit.inBlock id Q (.exit id) a w := by simpa [Exit.inBlock] using h
theorem inb_miss {id id' : Nat} (hne : Nat.beq id' id = false) (h : Q (.exit id') a w) : Exit.inBlock id Q (.exit id') a w := by
  have : id' ≠ id := fun e => by rw [e, Nat.beq_refl] at hne; cases hne
  simpa [Exit.inBlock, this] using h
theorem inb_r {id : Nat} (h : Q .ret a w) : Exit.inBlock id Q .ret a w := h

/-- the ways through x meet again at J -/
theorem seq_j {x y : Code} (J : Act → World → Prop) (hx : x.wp P (Exit.then J Q) a w) (hy : ∀ a w, J a w → y.wp P Q a w) : (Code.seq x y).wp P Q a w :=
  wp_seq (wp_mono hx fun e a w h => by cases e <;> first | exact hy a w h | exact h)

theorem cond_b {c : Operand} {x y : Code} {t : Bool} (hS : Slots a n S) (hc : opd S c = some (.bool t))
    (ht : t = true → x.wp P Q a w) (hf : t = false → y.wp P Q a w) : (Code.cond c x y).wp P Q a w :=
  wp_cond_split (hS.eval hc) ht hf

theorem reg {id : Nat} {l : List Oper} (h : wpList P l.toArray Q l a w) : (Code.region id l.toArray false).wp P Q a w := wp_region_lit h

/-- the ways through c meet again at J -/
theorem code_j {c : Code} (J : Act → World → Prop) (h : c.wp P (Exit.then J Q) a w) (hj : ∀ a w, J a w → Q .normal a w) : c.wp P Q a w :=
  wp_mono h fun e a w h => by cases e <;> first | exact hj a w h | exact h

/-- what a round of a loop comes to -/
def LoopPost {σ ρ : Type} (Inv : σ → Act → World → Prop) (Q : Exit → Act → World → Prop) (o : σ ⊕ ρ) : Exit → Act → World → Prop
  | .normal, a, w => ∃ s, o = .inl s ∧ Inv s a w
  | e, a, w => Q e a w

theorem lp_n {σ ρ : Type} {Inv : σ → Act → World → Prop} {o : σ ⊕ ρ} {s : σ} (ho : o = .inl s) (h : Inv s a w) : LoopPost Inv Q o .normal a w := ⟨s, ho, h⟩
theorem lp_e {σ ρ : Type} {Inv : σ → Act → World → Prop} {o : σ ⊕ ρ} {id : Nat} (h : Q (.exit id) a w) : LoopPost Inv Q o (.exit id) a w := h
theorem lp_r {σ ρ : Type} {Inv : σ → Act → World → Prop} {o : σ ⊕ ρ} (h : Q .ret a w) : LoopPost Inv Q o .ret a w := h

/-- **a loop by its model** -/
theorem loop_m {σ ρ : Type} {c : Code} {B : σ → Option (σ ⊕ ρ)} (Inv : σ → Act → World → Prop) {r : ρ} {s : σ} (hm : loop B s = some r) (h0 : Inv s a w)
    (step : ∀ s a w o, Inv s a w → B s = some o → (∀ r', o = .inr r' → r = r') → c.wp P (LoopPost Inv Q o) a w) : (Code.loop c).wp P Q a w := by
  obtain ⟨k, hk⟩ := iter_of_loop hm
  let good : Nat → Act → World → Prop := fun m a w => ∃ s, iter B m s = some r ∧ Inv s a w
  have hgood : good k a w := ⟨s, hk, h0⟩
  intro b kk cs
  have key : ∀ m a w, good m a w → ∃ e a' w', Q e a' w' ∧ Arrives P (lone (b.at a (.code c :: .inLoop c :: kk)) cs w) b kk cs e a' w' := by
    intro m
    induction m with
    | zero => rintro a w ⟨s, hs, _⟩; simp [iter] at hs
    | succ m ih =>
      rintro a w ⟨s, hs, hI⟩
      simp only [iter] at hs
      cases hb : B s with
      | none => simp [hb] at hs
      | some o =>
        have hst := step s a w o hI hb (fun r' he => by subst he; simp [hb] at hs; exact hs.symm)
        obtain ⟨e, a₁, w₁, hq, harr⟩ := hst b (.inLoop c :: kk) cs
        cases e with
        | normal =>
          obtain ⟨s', rfl, hI'⟩ := hq
          simp only [hb] at hs
          obtain ⟨e₂, a₂, w₂, hq₂, harr₂⟩ := ih a₁ w₁ ⟨s', hs, hI'⟩
          exact ⟨e₂, a₂, w₂, hq₂, .of_steps (Steps.trans harr (.one step_inLoop)) harr₂⟩
        | exit id => exact ⟨_, a₁, w₁, hq, .pass (x := .inLoop c) rfl (fun _ _ => .inl (by simp)) harr⟩
        | goto l => exact ⟨_, a₁, w₁, hq, .pass (x := .inLoop c) rfl (fun _ _ => .inl (by simp)) harr⟩
        | ret => exact ⟨_, a₁, w₁, hq, .pass (x := .inLoop c) rfl (fun _ _ => .inl (by simp)) harr⟩
        | panic ch => exact ⟨_, a₁, w₁, hq, .pass (x := .inLoop c) rfl (fun _ _ => .inl (by simp)) harr⟩
        | outgrown => exact ⟨_, a₁, w₁, hq, .pass (x := .inLoop c) rfl (fun _ _ => .inl (by simp)) harr⟩
  obtain ⟨e, a', w', hq, harr⟩ := key k a w hgood
  exact ⟨e, a', w', hq, .of_steps (.one step_loop) harr⟩

theorem loopR {σ ρ : Type} {o : σ ⊕ ρ} {r x : ρ} (hr : ∀ r', o = .inr r' → r = r') (hm : some (.inr x) = some o) : some x = some r := by
  rw [hr x (Option.some.inj hm).symm]

/-- a function with one result in a slot comes to its end -/
theorem ret1 {fn : Func} {t : Nat} {R : Value → World → Prop} {v : Value} (hS : Slots a n S) (hf : fn.results = #[.tmp t]) (hv : look S t = some v) (hR : R v w) :
    bodyPost P fn (Ret R) .ret a w :=
  ⟨hS.defers, v, by rw [results_tmp hf, hS.getD hv], hR⟩

theorem ret2 {fn : Func} {t u : Nat} {R : Value → World → Prop} {v1 v2 : Value} (hS : Slots a n S) (hf : fn.results = #[.tmp t, .tmp u]) (h1 : look S t = some v1) (h2 : look S u = some v2)
    (hR : R (.tuple #[v1, v2]) w) : bodyPost P fn (Ret R) .ret a w :=
  ⟨hS.defers, _, by rw [results_tmp2 hf, hS.getD h1, hS.getD h2], hR⟩

def argSlots : List Value → Nat → List (Nat × Value)
  | [], _ => []
  | v :: r, i => (i, v) :: argSlots r (i + 1)

theorem look_argSlots : ∀ (vs : List Value) (k i : Nat) (v : Value), look (argSlots vs k) i = some v → k ≤ i ∧ vs[i - k]? = some v
  | [], k, i, v, h => by simp [argSlots, look] at h
  | u :: r, k, i, v, h => by
    simp only [argSlots, look] at h
    cases hb : Nat.beq k i with
    | true =>
      have : k = i := Nat.eq_of_beq_eq_true hb
      subst this
      simp only [hb, cond_true, Option.some.injEq] at h
      subst h
      simp
    | false =>
      simp only [hb, cond_false] at h
      obtain ⟨h1, h2⟩ := look_argSlots r (k + 1) i v h
      refine ⟨by omega, ?_⟩
      rw [show i - k = (i - (k + 1)) + 1 by omega]
      simpa using h2

/-- a call enters its function's body -/
theorem enter {f : FuncId} {fn : Func} {c : Code} {vs : List Value} {R : Ending → World → Prop} (hf : P.funcs[f]? = some fn) (hb : fn.body = some c) (hn : Nat.ble vs.length fn.ntmps = true)
    (h : ∀ a, Slots a fn.ntmps (argSlots vs 0) → c.wp P (bodyPost P fn R) a w) : Calls P f vs.toArray w R := by
  refine calls_of_wp hf hb (h _ ⟨rfl, ?_, fun i v hl => ?_⟩)
  · have : vs.length ≤ fn.ntmps := Nat.le_of_ble_eq_true hn
    simp; omega
  · obtain ⟨_, h2⟩ := look_argSlots vs 0 i v hl
    simp only [Nat.sub_zero] at h2
    have hi : i < vs.length := (List.getElem?_eq_some_iff.1 h2).1
    simp only [Array.getElem?_append, List.size_toArray, hi, if_true, List.getElem?_toArray]
    exact h2

end

end Go.GD
