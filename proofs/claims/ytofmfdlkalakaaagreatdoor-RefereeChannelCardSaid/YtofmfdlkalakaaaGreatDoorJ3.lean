/- The steps of a walk, in one judgement: operations in their order, effects, calls, returns. Conditions: none. -/
import Derived.Test.YtofmfdlkalakaaaGreatDoorJ2
namespace Go.GD
open Go Go.RowKit
set_option autoImplicit false
variable {qd : Prop}
set_option linter.unusedVariables false

/-! ### Cells, so that what comes out is plain -/

def cellsC (v : Value) (k : List Value → Prop) : Prop := match v with
  | .agg ⟨cs⟩ => k cs
  | v => k [v]
theorem cellsC_eq {v : Value} {k : List Value → Prop} : cellsC v k = k v.cells.toList := by cases v <;> rfl
def getC {β : Type} : List Value → Nat → (Value → Option β) → Option β
  | [], _, _ => none
  | v :: _, 0, k => k v
  | _ :: l, o + 1, k => getC l o k
theorem getC_eq {β : Type} : ∀ {l : List Value} {o : Nat} {k : Value → Option β}, getC l o k = (l[o]?).bind k
  | [], _, _ => by simp [getC]
  | v :: _, 0, _ => rfl
  | _ :: l, o + 1, k => by simp [getC, getC_eq]
def takeC {β : Type} : Nat → List Value → (List Value → Option β) → Option β
  | 0, _, k => k []
  | _ + 1, [], _ => none
  | j + 1, v :: l, k => takeC j l fun r => k (v :: r)
theorem takeC_eq {β : Type} : ∀ {j : Nat} {l : List Value} {k : List Value → Option β} {r : β}, takeC j l k = some r → k (l.take j) = some r ∧ j ≤ l.length
  | 0, _, _, _, h => ⟨h, Nat.zero_le _⟩
  | _ + 1, [], _, _, h => by cases h
  | j + 1, v :: l, k, r, h => by
    obtain ⟨h1, h2⟩ := takeC_eq (j := j) h
    exact ⟨h1, by simp; omega⟩
def dropC {β : Type} : Nat → List Value → (List Value → Option β) → Option β
  | 0, l, k => k l
  | _ + 1, [], _ => none
  | o + 1, _ :: l, k => dropC o l k
theorem dropC_eq {β : Type} : ∀ {o : Nat} {l : List Value} {k : List Value → Option β} {r : β}, dropC o l k = some r → k (l.drop o) = some r ∧ o ≤ l.length
  | 0, _, _, _, h => ⟨h, Nat.zero_le _⟩
  | _ + 1, [], _, _, h => by cases h
  | o + 1, v :: l, k, r, h => by
    obtain ⟨h1, h2⟩ := dropC_eq (o := o) h
    exact ⟨h1, by simp; omega⟩
def overC : List Value → List Value → (List Value → Prop) → Prop
  | l, [], k => k l
  | [], _ :: _, _ => False
  | _ :: l, v :: vs, k => overC l vs fun l' => k (v :: l')
theorem overC_eq : ∀ {l v : List Value} {k : List Value → Prop}, overC l v k → k (v ++ l.drop v.length)
  | l, [], k, h => by simpa [overC] using h
  | [], _ :: _, _, h => h.elim
  | _ :: l, v :: vs, k, h => by have := overC_eq (l := l) (v := vs) h; simpa using this
def putC : Nat → List Value → List Value → (List Value → Prop) → Prop
  | 0, l, v, k => overC l v k
  | _ + 1, [], _, _ => False
  | o + 1, a :: l, v, k => putC o l v fun l' => k (a :: l')
theorem putC_eq : ∀ {o : Nat} {l v : List Value} {k : List Value → Prop}, putC o l v k → k (l.take o ++ v ++ l.drop (o + v.length))
  | 0, l, v, k, h => by have := overC_eq h; simpa using this
  | _ + 1, [], _, _, h => h.elim
  | o + 1, a :: l, v, k, h => by
    have := putC_eq (o := o) (l := l) h
    simpa [Nat.add_right_comm] using this

/-- a value that is only read, opened: its cells, names for what is not told -/
structure Opn {τ : Type} (e : E τ) where
  op : τ → List Value → List PP → (List Value → List PP → Prop) → Prop
  spec : ∀ {Z : List Nat} {w : World} {cs : List Value} {x : τ} {tl : List Value} {fs : List PP} {k : List Value → List PP → Prop}, e.rd Z w cs x → All fs Z w → op x tl fs k → ∃ F', k (cs ++ tl) F' ∧ All F' Z w
def oI {kd : IntKind} : Opn (eInt kd) := ⟨fun x tl fs k => k (.int kd x :: tl) fs, by rintro _ _ _ _ _ _ _ rfl h1 h2; exact ⟨_, h2, h1⟩⟩
def oB : Opn eBool := ⟨fun x tl fs k => k (.bool x :: tl) fs, by rintro _ _ _ _ _ _ _ rfl h1 h2; exact ⟨_, h2, h1⟩⟩
def oS : Opn eStr := ⟨fun x tl fs k => k (vs x :: tl) fs, by rintro _ _ _ _ _ _ _ rfl h1 h2; exact ⟨_, h2, h1⟩⟩
def oU : Opn eUnit := ⟨fun _ tl fs k => k tl fs, by rintro _ _ _ _ _ _ _ rfl h1 h2; exact ⟨_, h2, h1⟩⟩
def oL {τ : Type} {e : E τ} : Opn (eSlice e) := ⟨fun l tl fs k => ∀ p c, k (sv p l c :: tl) (Rl e p c l :: fs), by
  rintro _ _ _ _ _ _ _ ⟨p, c, rfl, h⟩ h1 h2
  exact ⟨_, h2 p c, R.of h, h1⟩⟩
def oP {α β : Type} {e : E α} {f : E β} (a : Opn e) (b : Opn f) : Opn (eProd e f) := ⟨fun x tl fs k => b.op x.2 tl fs fun tl fs => a.op x.1 tl fs k, by
  rintro _ _ _ _ _ _ _ ⟨c1, c2, rfl, h1, h2⟩ h3 h4
  obtain ⟨F1, h5, h6⟩ := b.spec h2 h3 h4
  obtain ⟨F2, h7, h8⟩ := a.spec h1 h6 h5
  exact ⟨F2, by rw [List.append_assoc]; exact h7, h8⟩⟩

def sI {τ : Type} {e : E τ} : Sub e e := Sub.id e
def mkC (ag : Bool) (cs : List Value) (k : Value → Prop) : Prop := match ag with
  | true => k (.agg cs.toArray)
  | false => match cs with
    | [v] => k v
    | _ => False
theorem mkC_spec {ag : Bool} {cs : List Value} {k : Value → Prop} {v : Value} (h : mkC ag cs k) (hv : mkV ag cs = some v) : k v := by
  cases ag with
  | true => cases hv; exact h
  | false =>
    match cs, h, hv with
    | [u], h, hv => cases hv; exact h

/-- how the cells of what is put together read -/
def RD {τ : Type} (e : E τ) (Ls : List Res) (F : List PP) (cs : List Value) (l : List τ) : Prop := ∀ A w, Own A w Ls → All F (bl Ls ++ A) w → e.rdL (bl Ls ++ A) w cs l
def RV {τ : Type} (e : E τ) (Ls : List Res) (F : List PP) (cs : List Value) (x : τ) : Prop := ∀ A w, Own A w Ls → All F (bl Ls ++ A) w → e.rd (bl Ls ++ A) w cs x

section
variable {P : Program} {n : Nat} {X : Hd qd} {ρ σ : Type} {Q : PQ ρ} {S : Sl} {Ls : List Res} {F : List PP} {m m1 m2 : Option ρ} {os : Array Oper} {l : List Oper} {x y : Operand} {p p' : Pos}
variable {d t : Nat} {ty ty2 : TypeId} {pos pos2 : String} {af af2 : Array Edge} {g g2 : Option (Nat × Bool)} {kd : IntKind}

/-- k operations that only compute -/
theorem jpc {S' : Sl} {l' : List Oper} {ob : List Ob} (k : Nat) (hr : runC os l k S [] = some (S', l', ob)) (h : J P n X Q (.ops os l') S' Ls F m)
    (hd : (dsts (l.take k)).all (fun d => Nat.blt d n) = true := by kernel_rfl) (ho : obOk P ob = true := by kernel_rfl) : J P n X Q (.ops os l) S Ls F m :=
  ⟨fun hq r hm a w hs => (runC_sound l k S S' l' [] ob a hs.s hr hd ho fun a' hS => h.go hq r hm a' w (hs.slot hS)).2⟩
/-- one of them, its value told -/
theorem jpe {op : Op} (v : Value) (h : J P n X Q (.ops os l) ((d, v) :: S) Ls F m) (hv : pv P S op = some v := by kernel_rfl) (hd : Nat.blt d n = true := by kernel_rfl) (hg : wantedS os S g = some true := by kernel_rfl) :
    J P n X Q (.ops os (⟨some d, op, ty, pos, af, g⟩ :: l)) S Ls F m :=
  ⟨fun hq r hm a w hs => wpList_op (v := v) (w' := w) hg hs.s (pv_run hs.s hv _ _ _ _ _ w) (h.go hq r hm _ w (hs.slot (hs.s.put hd v)))⟩
/-- an operation with a value, by what it computes -/
theorem jv {op : Op} {v : Value} (hv : ∀ {a : Act}, Slots a n S → ∀ w', (execOp a.eval ⟨some d, op, ty, pos, af, g⟩).run P w' = .ok (.value v) w') (h : J P n X Q (.ops os l) ((d, v) :: S) Ls F m)
    (hd : Nat.blt d n = true := by kernel_rfl) (hg : wantedS os S g = some true := by kernel_rfl) : J P n X Q (.ops os (⟨some d, op, ty, pos, af, g⟩ :: l)) S Ls F m :=
  ⟨fun hq r hm a w hs => sl (b_val hs (hv hs.s) (fun a h' => h.go hq r hm a w h') hd hg)⟩
/-- a field's address -/
theorem jfa {s f b o : Nat} (off : Nat) (hx : opd S x = some (pt b o)) (h : J P n X Q (.ops os l) ((d, pt b (o + off)) :: S) Ls F m)
    (hf : fldOff P s f = some off := by kernel_rfl) (hd : Nat.blt d n = true := by kernel_rfl) (hg : wantedS os S g = some true := by kernel_rfl) : J P n X Q (.ops os (⟨some d, .fieldAddr s x f, ty, pos, af, g⟩ :: l)) S Ls F m :=
  ⟨fun hq r hm a w hs => wpList_op (w' := w) hg hs.s (pv_run hs.s (v := pt b (o + off)) (by simp [pv, hx, hf]) _ _ _ _ _ w) (h.go hq r hm _ w (hs.slot (hs.s.put hd _)))⟩

/-! own blocks: loads -/

theorem jlo {b o : Nat} {c : List Value} {te : TypeId} {fr : Nat × Nat} {v : Value} (i : Nat) (hx : opd S x = some (pt b o)) (hr : Ls[i]? = some [(b, .cells c.toArray te fr)]) (hv : getC c o some = some v) (h : J P n X Q (.ops os l) ((d, v) :: S) Ls F m)
    (ht : shapeOf P t = some (false, 1) := by kernel_rfl) (hd : Nat.blt d n = true := by kernel_rfl) (hg : wantedS os S g = some true := by kernel_rfl) : J P n X Q (.ops os (⟨some d, .load t x, ty, pos, af, g⟩ :: l)) S Ls F m :=
  ⟨fun hq r hm a w hs => sl (b_load_own i v hs hx hr (fun a h' => h.go hq r hm a w h') (by
    rw [getC_eq] at hv
    have hv' : c[o]? = some v := by cases hc : c[o]? <;> simp_all
    have hlt := (List.getElem?_eq_some_iff.1 hv').1
    unfold loadR
    rw [ht]
    have : Nat.ble (o + 1) c.toArray.size = true := by rw [Nat.ble_eq, List.size_toArray]; exact hlt
    simp only [this, if_true, getL]
    rw [List.drop_eq_getElem_cons hlt]
    have : c[o] = v := by rw [List.getElem?_eq_getElem hlt] at hv'; exact Option.some.inj hv'
    simp [mkV, this]) hd hg)⟩
theorem jla {b o : Nat} {c : List Value} {te : TypeId} {fr : Nat × Nat} {cs : List Value} (i k : Nat) (hx : opd S x = some (pt b o)) (hr : Ls[i]? = some [(b, .cells c.toArray te fr)]) (hv : dropC o c (fun l => takeC k l some) = some cs) (h : J P n X Q (.ops os l) ((d, .agg cs.toArray) :: S) Ls F m)
    (ht : shapeOf P t = some (true, k) := by kernel_rfl) (hd : Nat.blt d n = true := by kernel_rfl) (hg : wantedS os S g = some true := by kernel_rfl) : J P n X Q (.ops os (⟨some d, .load t x, ty, pos, af, g⟩ :: l)) S Ls F m :=
  ⟨fun hq r hm a w hs => sl (b_load_own i (.agg cs.toArray) hs hx hr (fun a h' => h.go hq r hm a w h') (by
    obtain ⟨h1, h2⟩ := dropC_eq hv
    obtain ⟨h3, h4⟩ := takeC_eq h1
    rw [List.length_drop] at h4
    unfold loadR
    rw [ht]
    have : Nat.ble (o + k) c.toArray.size = true := by rw [Nat.ble_eq]; simp; omega
    simp only [this, if_true, getL, mkV]
    rw [Option.some.inj h3]) hd hg)⟩
/-- a field of a block, read at once -/
theorem jfo {s f b o d0 : Nat} {c : List Value} {te : TypeId} {fr : Nat × Nat} {v : Value} (i off : Nat) (hx : opd S x = some (pt b o)) (hr : Ls[i]? = some [(b, .cells c.toArray te fr)]) (hv : getC c (o + off) some = some v) (h : J P n X Q (.ops os l) ((d, v) :: (d0, pt b (o + off)) :: S) Ls F m)
    (hf : fldOff P s f = some off := by kernel_rfl) (ht : shapeOf P t = some (false, 1) := by kernel_rfl) (h0 : Nat.blt d0 n = true := by kernel_rfl) (hd : Nat.blt d n = true := by kernel_rfl) :
    J P n X Q (.ops os (⟨some d0, .fieldAddr s x f, ty, pos, af, none⟩ :: ⟨some d, .load t (.tmp d0), ty2, pos2, af2, none⟩ :: l)) S Ls F m :=
  jfa off hx (jlo i (by simp [opd, look]) hr hv h ht hd rfl) hf h0 rfl
theorem jfla {s f b o d0 : Nat} {c : List Value} {te : TypeId} {fr : Nat × Nat} {cs : List Value} (i off k : Nat) (hx : opd S x = some (pt b o)) (hr : Ls[i]? = some [(b, .cells c.toArray te fr)]) (hv : dropC (o + off) c (fun l => takeC k l some) = some cs) (h : J P n X Q (.ops os l) ((d, .agg cs.toArray) :: (d0, pt b (o + off)) :: S) Ls F m)
    (hf : fldOff P s f = some off := by kernel_rfl) (ht : shapeOf P t = some (true, k) := by kernel_rfl) (h0 : Nat.blt d0 n = true := by kernel_rfl) (hd : Nat.blt d n = true := by kernel_rfl) :
    J P n X Q (.ops os (⟨some d0, .fieldAddr s x f, ty, pos, af, none⟩ :: ⟨some d, .load t (.tmp d0), ty2, pos2, af2, none⟩ :: l)) S Ls F m :=
  jfa off hx (jla i k (by simp [opd, look]) hr hv h ht hd rfl) hf h0 rfl

/-! what is only read -/

section
variable {τ : Type} {e : E τ} {te : TypeId} {r : Res} {p0 : Option Addr} {c k0 : Nat} {z : List τ} {ix : Int}
theorem jix {f : τ → Option ρ} (k : Nat) (hF : nth F k = R e p0 c k0 z) (hx : opd S x = some (.slice p0 k0 c)) (hy : opd S y = some (.int kd ix))
    (h : ∀ u b o, J P n X Q (.ops os l) ((d, pt b o) :: S) Ls (Pt e b o u :: F) (f u))
    (ht : elemSize P t = some e.n := by kernel_rfl) (hd : Nat.blt d n = true := by kernel_rfl) (hg : wantedS os S g = some true := by kernel_rfl) :
    J P n X Q (.ops os (⟨some d, .indexAddr t x y, ty, pos, af, g⟩ :: l)) S Ls F ((idx z ix).bind f) :=
  ⟨fun hq r hm a w hs => by
    obtain ⟨u, h1, h2⟩ := bnd hm
    exact sl (b_index_rd hs (hF ▸ hs.g k) hx hy h1 (fun b o a h' => (h u b o).go hq r h2 a w h') ht hd hg)⟩
theorem jld {b o : Nat} {u : τ} (ag : Bool) (op : Opn e) (hP : OKr Ls F (Pt e b o u)) (hx : opd S x = some (pt b o))
    (h : op.op u [] F fun cs F' => mkC ag cs fun v => J P n X Q (.ops os l) ((d, v) :: S) Ls F' m) (ht : shapeOf P t = some (ag, e.n) := by kernel_rfl) (hag : ag = true ∨ e.n = 1 := by first | exact .inl rfl | exact .inr rfl)
    (hd : Nat.blt d n = true := by kernel_rfl) (hg : wantedS os S g = some true := by kernel_rfl) : J P n X Q (.ops os (⟨some d, .load t x, ty, pos, af, g⟩ :: l)) S Ls F m :=
  ⟨fun hq r hm a w hs => sl (b_load_pt ag hs (hP _ _ hs.o hs.f) hx (fun ci hc v hv a h' => by
    obtain ⟨F', h1, h2⟩ := op.spec hc h'.f h
    rw [List.append_nil] at h1
    exact (mkC_spec h1 hv).go hq r hm a w ⟨h'.s, h'.o, h'.e, h2⟩) ht hag hd hg)⟩
/-- an element, read at once -/
theorem jxl {d0 : Nat} {f : τ → Option ρ} (k : Nat) (ag : Bool) (op : Opn e) (hF : nth F k = R e p0 c k0 z) (hx : opd S x = some (.slice p0 k0 c)) (hy : opd S y = some (.int kd ix))
    (h : ∀ u b o, op.op u [] (Pt e b o u :: F) fun cs F' => mkC ag cs fun v => J P n X Q (.ops os l) ((d, v) :: (d0, pt b o) :: S) Ls F' (f u))
    {t2 : TypeId} (ht : elemSize P t = some e.n := by kernel_rfl) (hd0 : Nat.blt d0 n = true := by kernel_rfl) (ht2 : shapeOf P t2 = some (ag, e.n) := by kernel_rfl) (hag : ag = true ∨ e.n = 1 := by first | exact .inl rfl | exact .inr rfl)
    (hd : Nat.blt d n = true := by kernel_rfl) :
    J P n X Q (.ops os (⟨some d0, .indexAddr t x y, ty, pos, af, none⟩ :: ⟨some d, .load t2 (.tmp d0), ty2, pos2, af2, none⟩ :: l)) S Ls F ((idx z ix).bind f) :=
  jix k hF hx hy (fun u b o => jld ag op (gk 0) (by simp [opd, look]) (h u b o) ht2 hag hd rfl) ht hd0 rfl
end

/-! arrays of one's own -/

section
variable {τ ω : Type} {e : E τ} {ef : E ω} {te : TypeId} {r : Res} {p0 : Option Addr} {c k0 : Nat} {z : List τ} {ix : Int}
theorem jia {f : τ → Option ρ} (k : Nat) (hF : nth F k = Ar e te r p0 c k0 z) (hx : opd S x = some (.slice p0 k0 c)) (hy : opd S y = some (.int kd ix))
    (h : ∀ u, idx z ix = some u → ∀ b o, p0 = some ⟨b, o, none⟩ → J P n X Q (.ops os l) ((d, pt b (o + ix.toNat * e.n)) :: S) Ls F (f u))
    (ht : elemSize P t = some e.n := by kernel_rfl) (hd : Nat.blt d n = true := by kernel_rfl) (hg : wantedS os S g = some true := by kernel_rfl) :
    J P n X Q (.ops os (⟨some d, .indexAddr t x y, ty, pos, af, g⟩ :: l)) S Ls F ((idx z ix).bind f) :=
  ⟨fun hq r hm a w hs => by
    obtain ⟨u, h1, h2⟩ := bnd hm
    exact sl (b_index_arr hs (hF ▸ hs.g k) hx hy h1 (fun b o hp a h' => (h u h1 b o hp).go hq r h2 a w h') ht hd hg)⟩
theorem jlA {b o : Nat} {u : τ} (i k : Nat) (s : Sub e ef) (ag : Bool) (op : Opn ef) (hF : nth F k = Ar e te r p0 c k0 z) (hp : p0 = some ⟨b, o, none⟩) (hm : idx z ix = some u) (hx : opd S x = some (pt b (o + ix.toNat * e.n + s.off)))
    (h : op.op (s.get u) [] F fun cs F' => mkC ag cs fun v => J P n X Q (.ops os l) ((d, v) :: S) Ls F' m) (hr : Ls[i]? = some r := by rfl) (ht : shapeOf P t = some (ag, ef.n) := by kernel_rfl) (hag : ag = true ∨ ef.n = 1 := by first | exact .inl rfl | exact .inr rfl)
    (hd : Nat.blt d n = true := by kernel_rfl) (hg : wantedS os S g = some true := by kernel_rfl) : J P n X Q (.ops os (⟨some d, .load t x, ty, pos, af, g⟩ :: l)) S Ls F m :=
  ⟨fun hq r hm' a w hs => sl (b_load_arr i s ag hs (hF ▸ hs.g k) hp hm hx (fun ci hc v hv a h' => by
    obtain ⟨F', h1, h2⟩ := op.spec hc h'.f h
    rw [List.append_nil] at h1
    exact (mkC_spec h1 hv).go hq r hm' a w ⟨h'.s, h'.o, h'.e, h2⟩) hr ht hag hd hg)⟩
end

/-! slices -/

section
variable {τ : Type} {e : E τ} {te : TypeId} {r : Res} {p0 : Option Addr} {c k0 : Nat} {z : List τ} {i j : Int} {lo hi : Option Operand} {vlo vhi : Option Value}
theorem jsl {f : List τ → Option ρ} (g0 : OKr Ls F (R e p0 c k0 z)) (hx : opd S x = some (.slice p0 k0 c)) (hlo : opdO S lo = some vlo) (hhi : opdO S hi = some vhi) (b1 : Bd vlo i 0) (b2 : Bd vhi j z.length)
    (h : ∀ u p' c', J P n X Q (.ops os l) ((d, sv p' u c') :: S) Ls (Rl e p' c' u :: F) (f u))
    (ht : elemSize P t = some e.n := by kernel_rfl) (hd : Nat.blt d n = true := by kernel_rfl) (hg : wantedS os S g = some true := by kernel_rfl) :
    J P n X Q (.ops os (⟨some d, .slice t x lo hi none, ty, pos, af, g⟩ :: l)) S Ls F ((sub z i j).bind f) :=
  ⟨fun hq r hm a w hs => by
    obtain ⟨u, h1, h2⟩ := bnd hm
    exact sl (b_slice_rd hs (g0 _ _ hs.o hs.f) hx hlo hhi b1 b2 h1 (fun p' c' a h' => (h u p' c').go hq r h2 a w h') ht hd hg)⟩
theorem jsF {f : List τ → Option ρ} {x2 x3 : Operand} {kd2 : IntKind} (g0 : OKr Ls F (R e p0 c k0 z)) (hx : opd S x = some (.slice p0 k0 c)) (hlo : opdO S lo = some vlo) (hhi : opd S x2 = some (.int kd j)) (hmx : opd S x3 = some (.int kd2 j)) (b1 : Bd vlo i 0)
    (h : ∀ u p', J P n X Q (.ops os l) ((d, .slice p' (List.length u) (List.length u)) :: S) Ls (R e p' (List.length u) (List.length u) u :: F) (f u))
    (ht : elemSize P t = some e.n := by kernel_rfl) (hd : Nat.blt d n = true := by kernel_rfl) (hg : wantedS os S g = some true := by kernel_rfl) :
    J P n X Q (.ops os (⟨some d, .slice t x lo (some x2) (some x3), ty, pos, af, g⟩ :: l)) S Ls F ((sub z i j).bind f) :=
  ⟨fun hq r hm a w hs => by
    obtain ⟨u, h1, h2⟩ := bnd hm
    exact sl (b_slice_full hs (g0 _ _ hs.o hs.f) hx hlo hhi hmx b1 h1 (fun p' a h' => (h u p').go hq r h2 a w h') ht hd hg)⟩
theorem jsP {f : List τ → Option ρ} {x2 : Operand} (k : Nat) (hF : nth F k = Ar e te r p0 c k0 z) (hx : opd S x = some (.slice p0 k0 c)) (hhi : opd S x2 = some (.int kd j))
    (h : ∀ u, J P n X Q (.ops os l) ((d, sv p0 u c) :: S) Ls (Al e te r p0 c u :: F) (f u))
    (ht : elemSize P t = some e.n := by kernel_rfl) (hd : Nat.blt d n = true := by kernel_rfl) (hg : wantedS os S g = some true := by kernel_rfl) :
    J P n X Q (.ops os (⟨some d, .slice t x none (some x2) none, ty, pos, af, g⟩ :: l)) S Ls F ((sub z 0 j).bind f) :=
  ⟨fun hq r hm a w hs => by
    obtain ⟨u, h1, h2⟩ := bnd hm
    exact sl (b_slice_pre hs (hF ▸ hs.g k) hx hhi h1 (fun a h' => (h u).go hq r h2 a w h') ht hd hg)⟩
theorem jsE {f : List τ → Option ρ} {x2 : Operand} (k : Nat) (hF : nth F k = Ar e te r p0 c k0 z) (hx : opd S x = some (.slice p0 k0 c)) (hlo : opd S x2 = some (.int kd i))
    (h : ∀ u p' c', J P n X Q (.ops os l) ((d, sv p' u c') :: S) Ls (Al e te r p' c' u :: F) (f u))
    (ht : elemSize P t = some e.n := by kernel_rfl) (hd : Nat.blt d n = true := by kernel_rfl) (hg : wantedS os S g = some true := by kernel_rfl) :
    J P n X Q (.ops os (⟨some d, .slice t x (some x2) none none, ty, pos, af, g⟩ :: l)) S Ls F ((sub z i (z.length : Int)).bind f) :=
  ⟨fun hq r hm a w hs => by
    obtain ⟨u, h1, h2⟩ := bnd hm
    exact sl (b_slice_suf hs (hF ▸ hs.g k) hx hlo h1 (fun p' c' a h' => (h u p' c').go hq r h2 a w h') ht hd hg)⟩
theorem jsV {f : Unit → Option ρ} {x2 : Operand} (k : Nat) (hF : nth F k = Ar e te r p0 c k0 z) (hx : opd S x = some (.slice p0 k0 c)) (hlo : opd S x2 = some (.int kd i))
    (h : ∀ u p' c', Vw e.n p0 c k0 i p' (Int.toNat ((k0 : Int) - i)) → J P n X Q (.ops os l) ((d, .slice p' (Int.toNat ((k0 : Int) - i)) c') :: S) Ls F (f u))
    (ht : elemSize P t = some e.n := by kernel_rfl) (hd : Nat.blt d n = true := by kernel_rfl) (hg : wantedS os S g = some true := by kernel_rfl) :
    J P n X Q (.ops os (⟨some d, .slice t x (some x2) none none, ty, pos, af, g⟩ :: l)) S Ls F ((chk (decide (0 ≤ i) && decide (i ≤ (z.length : Int)))).bind f) :=
  ⟨fun hq r hm a w hs => by
    obtain ⟨u, h1, h2⟩ := bnd hm
    exact sl (b_slice_view hs (hF ▸ hs.g k) hx hlo h1 (fun p' c' hv a h' => (h u p' c' hv).go hq r h2 a w h') ht hd hg)⟩
theorem jiV {f : τ → Option ρ} {p1 : Option Addr} {m' c' : Nat} (k : Nat) (hF : nth F k = Ar e te r p0 c k0 z) (hV : Vw e.n p0 c k0 i p1 m') (hx : opd S x = some (.slice p1 m' c')) (hy : opd S y = some (.int kd j))
    (h : ∀ u b o, p0 = some ⟨b, o, none⟩ → idx z (i + j) = some u → J P n X Q (.ops os l) ((d, pt b (o + (i + j).toNat * e.n)) :: S) Ls F (f u))
    (ht : elemSize P t = some e.n := by kernel_rfl) (hd : Nat.blt d n = true := by kernel_rfl) (hg : wantedS os S g = some true := by kernel_rfl) :
    J P n X Q (.ops os (⟨some d, .indexAddr t x y, ty, pos, af, g⟩ :: l)) S Ls F ((idxV z i j).bind f) :=
  ⟨fun hq r hm a w hs => by
    obtain ⟨u, h1, h2⟩ := bnd hm
    exact sl (b_index_view hs (hF ▸ hs.g k) hV hx hy h1 (fun b o hp hi a h' => (h u b o hp hi).go hq r h2 a w h') ht hd hg)⟩
end

/-! ### Effects: they turn memory, at a place where they are due -/

inductive At (Ls : List Res) : Pos → Array Oper → Oper → Pos → Prop
  | s {os : Array Oper} {o : Oper} {l : List Oper} : At Ls (.ops os (o :: l)) os o (.ops os l)
  | f {os : Array Oper} {o : Oper} {i : Nat} {B J : List Nat} {fuel : Nat} {li : Array Bool} (h : os[i]? = some o) : At Ls (.fo i os B J fuel li) os o (.af Ls os B J fuel (li.setIfInBounds i true))

theorem At.run {o : Oper} (h : At Ls p os o p') {A : List Nat} {Q : Exit → Act → World → Prop} {a : Act} {w : World}
    (hs : ∀ K : Act → World → Prop, (∀ {a' w' Ls'}, Ext qd Ls w Ls' w' → p'.go qd P A Ls' Q a' w' → K a' w') → Stp P os Q o K a w) : p.go qd P A Ls Q a w := by
  cases h with
  | s => exact sl (hs _ fun _ h => h)
  | f hi => exact ⟨o, hi, hs _ fun hE h => h w hE⟩

theorem jbx {v : Value} (at0 : At Ls p os ⟨some d, .box t x, ty, pos, af, g⟩ p') (hx : opd S x = some v) (h : ∀ b, cellsC v fun cs => snocC Ls (bx b t cs) fun Ls' => J P n X Q p' ((d, pt b 0) :: S) Ls' F m)
    (hd : Nat.blt d n = true := by kernel_rfl) (hg : wantedS os S g = some true := by kernel_rfl) : J P n X Q p S Ls F m :=
  ⟨fun hq r hm a w hs => at0.run fun K hK => b_box hs hx (fun b a w' h' e => hK e (by
    have h := h b
    rw [cellsC_eq, snocC_eq] at h
    exact h.go hq r hm a w' (by simpa [bx] using h'))) hd hg⟩
theorem jal (at0 : At Ls p os ⟨some d, .alloc t, ty, pos, af, g⟩ p') (v : Value) (h : ∀ b, cellsC v fun cs => snocC Ls (bx b t cs) fun Ls' => J P n X Q p' ((d, pt b 0) :: S) Ls' F m)
    (hx : zeroOf P t = some v := by kernel_rfl) (hd : Nat.blt d n = true := by kernel_rfl) (hg : wantedS os S g = some true := by kernel_rfl) : J P n X Q p S Ls F m :=
  ⟨fun hq r hm a w hs => at0.run fun K hK => b_alloc hs hx (fun b a w' h' e => hK e (by
    have h := h b
    rw [cellsC_eq, snocC_eq] at h
    exact h.go hq r hm a w' (by simpa [bx] using h'))) hd hg⟩
theorem jso {b o : Nat} {c : List Value} {te : TypeId} {v : Value} (at0 : At Ls p os ⟨none, .store t x y, ty, pos, af, g⟩ p') (i : Nat) (hx : opd S x = some (pt b o)) (hy : opd S y = some v) (hr : Ls[i]? = some (bx b te c))
    (h : cellsC v fun cs => putC o c cs fun c' => setC Ls i (bx b te c') fun Ls' => J P n X Q p' S Ls' F m) (hv : storeOk P t c.toArray o v = true := by kernel_rfl) (hg : wantedS os S g = some true := by kernel_rfl) : J P n X Q p S Ls F m :=
  ⟨fun hq r hm a w hs => at0.run fun K hK => b_store_own i hs hx hy hr (fun a w' h' e => hK e (by
    rw [cellsC_eq] at h
    have h := putC_eq h
    rw [setC_eq] at h
    exact h.go hq r hm a w' (by simpa [bx, putL] using h'))) hv hg⟩

section
variable {τ ω : Type} {e : E τ} {ef : E ω} {te : TypeId} {r : Res} {p0 q : Option Addr} {c k0 c2 k2 : Nat} {z z2 u : List τ} {ix : Int}
theorem jsA {b o : Nat} {v : Value} {v0 : τ} (at0 : At Ls p os ⟨none, .store t x y, ty, pos, af, g⟩ p') (i k : Nat) (s : Sub e ef) (nz : ω) (ag : Bool) (hF : nth F k = Ar e te r p0 c k0 z) (hp : p0 = some ⟨b, o, none⟩) (hm : idx z ix = some v0) (hx : opd S x = some (pt b (o + ix.toNat * e.n + s.off)))
    (hy : opd S y = some v) (hv : RV ef Ls F v.cells.toList nz)
    (h : ∀ r', setC Ls i r' fun Ls' => J P n X Q p' S Ls' (Ar e te r' p0 c k0 (z.set ix.toNat (s.put v0 nz)) :: F) m) (hr : Ls[i]? = some r := by rfl) (ht : shapeOf P t = some (ag, ef.n) := by kernel_rfl) (hg : wantedS os S g = some true := by kernel_rfl) : J P n X Q p S Ls F m :=
  ⟨fun hq r hm' a w hs => at0.run fun K hK => b_store_arr i s nz ag hs (hF ▸ hs.g k) hp hm hx hy (hv _ _ hs.o hs.f) (fun r' a w' h' e => hK e (by
    have h := h r'
    rw [setC_eq] at h
    exact h.go hq r hm' a w' h')) hr ht hg⟩
end
end

section
variable {P : Program} {n : Nat} {X : Hd qd} {ρ : Type} {Q : PQ ρ} {S S' : Sl} {Ls : List Res} {F : List PP} {m : Option ρ} {l : List Oper} {y : Code} {id : Nat} {ob : List Ob}
/-- a region that only computes, in a sequence; alone -/
theorem jA (k : Nat) (hr : runC l.toArray l k S [] = some (S', [], ob)) (h : J P n X Q (.code y) S' Ls F m)
    (hd : (dsts (l.take k)).all (fun d => Nat.blt d n) = true := by kernel_rfl) (ho : obOk P ob = true := by kernel_rfl) : J P n X Q (.code (.seq (.region id l.toArray false) y)) S Ls F m := jsr (jpc k hr (jot h) hd ho)
theorem jB (k : Nat) (hr : runC l.toArray l k S [] = some (S', [], ob)) (h : J P n X Q (.ex .normal) S' Ls F m)
    (hd : (dsts (l.take k)).all (fun d => Nat.blt d n) = true := by kernel_rfl) (ho : obOk P ob = true := by kernel_rfl) : J P n X Q (.code (.region id l.toArray false)) S Ls F m := jrg (jpc k hr (joe h) hd ho)
/-- nothing, and on -/
theorem jC {z : Code} (h : J P n X Q (.code z) S Ls F m) : J P n X (thenQ P z Q) (.code .skip) S Ls F m := jsk (jtn h)
end
end Go.GD
