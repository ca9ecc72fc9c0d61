/- A part. Conditions: none. -/
import Derived.Test.YtplpdfimlnppcaaGreatDoorJ5
import Derived.RangeFuncLeaves
import Derived.RangeFuncRecord
namespace Go.GD
open Go Go.RowKit
set_option autoImplicit false
set_option linter.unusedVariables false
variable {qd : Prop}
section
variable {P : Program} {n : Nat} {X : Hd qd} {ρ σ : Type} {S : Sl} {Ls : List zW} {F : List PP} {m m1 m2 : Option ρ}
def z3M (P : Program) (fn : Func) (X : Hd qd) (post : ρ → (Value → List zW → List PP → Prop) → Prop) : PQ ρ := fun r e a w => match e with
 | .normal | .ret => LeavesInM Fence.wide 0 P fn a.tmps (Ret fun v w => Ex (post r) fun v1 L1 F1 => v = v1 ∧ Bk qd X.A X.L0 X.w0 L1 F1 w) a.defers .returning w
 | _ => False
theorem z3M.np {fn : Func} {post : ρ → (Value → List zW → List PP → Prop) → Prop} : NP (z3M P fn X post) := fun _ _ _ _ h => h
theorem entM {fd : FuncId} {fn : Func} {c : Code} {vs : List Value} {L : List zW} {m1 : Option σ} {post : σ → (Value → List zW → List PP → Prop) → Prop} (hc : ∀ args w, (callFunc fd args).run P w = .ok (.enter fd args) w) (hf : P.funcs[fd]? = some fn) (hb : fn.body = some c)
  (h : ∀ X : Hd qd, J P fn.ntmps X (z3M P fn X post) (.code c) (zL1 vs 0) L F m1) (hn : Nat.ble vs.length fn.ntmps = true := by kernel_rfl) : qC qd P fd vs L F m1 post := by
 refine ⟨hc, fun A w0 r hm hO hF => callsIn_wide.1 (callsIn_of_wp_marks (F := Fence.wide) (n := 0) hf hb trivial (wpIn_wide.2 ?_))⟩
 have hS : wH ({ tmps := vs.toArray ++ Array.replicate (fn.ntmps - vs.toArray.size) undef, defers := [] } : Act) fn.ntmps (zL1 vs 0) := by
  refine ⟨rfl, ?_, fun i v hl => ?_⟩
  ·have : vs.length ≤ fn.ntmps := Nat.le_of_ble_eq_true hn
   simp; omega
  ·obtain ⟨_, h2⟩ := zOJ vs 0 i v hl
   simp only [Nat.sub_zero] at h2
   have hi : i < vs.length := (List.getElem?_eq_some_iff.1 h2).1
   simp only [Array.getElem?_append, List.size_toArray, hi, if_true, List.getElem?_toArray]
   exact h2
 have hw := (h ⟨A, L, w0⟩).go z3M.np r hm _ w0 ⟨hS, hO, qT.refl _ _, hF⟩
 refine wp_mono hw fun e a w hq => ?_
 cases e with
 | normal => exact hq
 | ret => exact hq
 | panic c => exact hq.elim
 | exit id => exact hq.elim
 | goto l => exact hq.elim
 | outgrown => exact hq.elim
theorem SS.putO {A : List Nat} {L0 : List zW} {w0 w : World} {a : Act} (h : SS qd A L0 w0 n S Ls F a w) {i b : Nat} {o o' : Obj} (hr : Ls[i]? = some [(b, o)]) : SS qd A L0 w0 n S (Ls.set i [(b, o')]) F a (w.putObj b o') := by
 have hb : w.heap[b]? = some o := tX h.o hr (List.mem_singleton.2 rfl)
 have hlt := (Array.getElem?_eq_some_iff.1 hb).1
 have hk : ∀ k, k < w.heap.size → k ∉ ([(b, o)] : zW).map Prod.fst → (w.putObj b o').heap[k]? = w.heap[k]? := fun k _ hn => World.putObj_heap_other (fun e => hn (by simp [e]))
 have hsz : w.heap.size ≤ (w.putObj b o').heap.size := by simp [World.putObj]
 have hE : qT qd Ls w (Ls.set i [(b, o')]) (w.putObj b o') := qT.set hr rfl rfl rfl hsz hk (fun p hp => by simp only [List.mem_singleton] at hp; subst hp; exact .inl (by simp)) (fun _ => Nat.le_refl _)
 exact ⟨h.s, h.o.set hr hsz hk (fun p hp => by simp only [List.mem_singleton] at hp; subst hp; exact World.putObj_heap_same hlt) (by simp) (fun p hp => by simp only [List.mem_singleton] at hp; subst hp; exact .inl (by simp)), h.e.trans hE, h.f.mv (hE.step A)⟩
theorem SS.newO {A : List Nat} {L0 : List zW} {w0 w : World} {a : Act} (h : SS qd A L0 w0 n S Ls F a w) (o : Obj) : SS qd A L0 w0 n S (Ls ++ [[(w.heap.size, o)]]) F a (w.alloc o) := by
 have hE : qT qd Ls w (Ls ++ [[(w.heap.size, o)]]) (w.alloc o) := qT.alloc Ls o rfl rfl rfl rfl (fun _ => Nat.le_refl _)
 exact ⟨h.s, h.o.alloc o rfl, h.e.trans hE, h.f.mv (hE.step A)⟩
def ValR : Result Next → Prop
 | .ok (.value _) _ => True
 | .halt _ _ => True
 | _ => False
def zXY (P : Program) (o : Oper) : Prop := ∀ (ev : Operand → Value) w, ValR ((execOp ev o).run P w)
theorem zS9 (a : Act) (ds : List Deferred) (d : Option Tmp) (v : Value) : ({ a with defers := ds } : Act).put d v = { (a.put d v) with defers := ds } := by cases d <;> rfl
theorem zRy {os : Array Oper} {Q Q1 : Exit → Act → World → Prop} {ds : List Deferred} (hQ : ∀ e a w, Q1 e a w → Q e { a with defers := ds } w) : ∀ (l : List Oper), (∀ o ∈ l, zXY P o) → ∀ a w, wpList P os Q1 l a w → wpList P os Q l { a with defers := ds } w
 | [], _, _, _, h => hQ _ _ _ h
 | o :: l, hn, a, w, h => by
  have ih := zRy (os := os) hQ l fun o ho => hn o (List.mem_cons_of_mem _ ho)
  have hno := hn o List.mem_cons_self a.eval w
  unfold wpList at h ⊢
  show if Region.wanted o (yielded os a.tmps) then _ else _
  split
  ·rename_i hw
   rw [if_pos hw] at h
   rcases h with h | ⟨h1, b, w2, h2⟩
   ·refine .inl ?_
    unfold Oper.wp at h ⊢
    show o.upon P { a with defers := ds } _ Q ((execOp a.eval o).run P w)
    generalize hr : (execOp a.eval o).run P w = res at h hno
    cases res with
    | ok ev w2 => cases ev with
     | value v =>
      show wpList P os Q l (({ a with defers := ds } : Act).put o.dst v) w2
      rw [zS9]
      exact ih _ _ h
     | _ => exact hno.elim
    | halt st w2 => cases st <;> first | exact hQ _ _ _ h | exact h.elim
   ·exact .inr ⟨h1, _, _, hQ _ _ _ h2⟩
  ·rename_i hw
   rw [if_neg hw] at h
   show wpList P os Q l (({ a with defers := ds } : Act).put o.dst undef) w
   rw [zS9]
   exact ih _ _ h
def rfQ (P : Program) (fn : Func) (n : Nat) (X : Hd qd) (post : ρ → (Value → List zW → List PP → Prop) → Prop) (i1 i2 : Nat) (r1 : zW) : PQ ρ := fun r e a w => match e with
 | .normal => ∃ S2 Ls2 F2, SS qd X.A X.L0 X.w0 n S2 Ls2 F2 a w ∧ Ls2[i1]? = some r1 ∧ J P n X (zUf P fn X post) (.ex .ret) S2 ((Ls2.set i1 []).set i2 []) F2 (some r)
 | _ => False
theorem rfQ.np {fn : Func} {post : ρ → (Value → List zW → List PP → Prop) → Prop} {i1 i2 : Nat} {r1 : zW} : NP (rfQ P fn n X post i1 i2 r1) := fun _ _ _ _ h => h
theorem jrx {fn : Func} {post : ρ → (Value → List zW → List PP → Prop) → Prop} {i1 i2 : Nat} {r1 : zW} {os : Array Oper} (h : J P n X (zUf P fn X post) (.ex .ret) S ((Ls.set i1 []).set i2 []) F m) (h1 : Ls[i1]? = some r1 := by rfl) : J P n X (rfQ P fn n X post i1 i2 r1) (.ops os []) S Ls F m :=
 ⟨fun _ r hm a w hs => ⟨S, Ls, F, hs, h1, hm ▸ h⟩⟩
theorem jrf {fd : FuncId} {fn : Func} {go : Operand} {ps : Array Tmp} {as bd : Code} {id k : Nat} {os : List Oper} {caps : List Value} {L : List zW} {F1 : List PP} {m1 : Option σ} {post1 : σ → (Value → List zW → List PP → Prop) → Prop} {post : ρ → (Value → List zW → List PP → Prop) → Prop} {f : σ → Option ρ}
  (js : List Nat) (i1 i2 : Nat) (c : ∀ l, qC qd P fd (.func (.yield l) #[] #[] :: caps) L F1 m1 post1) (hcal : qE S go = some (.func (.func fd) #[] caps.toArray))
  (hF : ∀ r1 r2, OKs (OKc (Ls ++ [r1, r2]) F js []) F1)
  (hos : ∀ o ∈ os, zXY P o)
  (h : ∀ r1 r2 r K, (∀ {v L1 F1}, z4U [] js L1 (Ls ++ [r1, r2]) F1 F (fun Ls' F' => Ls'[i2]? = some r2 ∧ ∀ r2', zY3 Ls' i2 r2' fun Ls'' => J P n X (rfQ P fn n X post i1 i2 r1) (.ops os.toArray os) S Ls'' F' (f r)) → K v L1 F1) → post1 r K)
  (hL : ∀ r1 r2, xK (Ls ++ [r1, r2]) js = L := by intros; rfl) (hk : zZk (js ++ []) (Ls.length + 2) = true := by kernel_rfl) :
  J P n X (zSB P (.seq (.region k os.toArray false) .ret) (z3M P fn X post)) (.code (.block id (.rangeFunc go ps as bd))) S Ls F (m1.bind f) :=
 ⟨fun hq r0 hm a w hs => by
  obtain ⟨r, h1, h2⟩ := bnd hm
  refine (wp_block ((wpIn_wide (n := 0)).1 (wpIn_rangeFunc (F := Fence.wide) fun fn' _ => ?_)))
  have hs1 := hs.newO (.deferred (some []))
  obtain ⟨o2, ho2⟩ : ∃ o2, Loop.mk .ready none fn' a.tmps ps as bd w.heap.size = o2 := ⟨_, rfl⟩
  have hs2 := hs1.newO (.loop o2)
  rw [List.append_assoc, World.size_alloc, List.singleton_append] at hs2
  obtain ⟨W1, hW1⟩ : ∃ W1, (w.alloc (.deferred (some []))).alloc (.loop o2) = W1 := ⟨_, rfl⟩
  rw [hW1] at hs2
  have hg := hs.s.eval hcal
  refine ⟨w.heap.size + 1, [{ target := .collected w.heap.size, args := #[] }], W1, { target := .fn (.func fd) caps.toArray, args := #[.func (.yield (w.heap.size + 1)) #[] #[]] }, W1, fd,
   #[.func (.yield (w.heap.size + 1)) #[] #[]] ++ caps.toArray, W1, ?_, ?_, fun f' hf' => trivial, ?_, fun hd => (by cases hd), callsIn_wide.2 ?_⟩
  ·rw [← hW1, ← ho2]; exact run_enterLoop_outer _ _ _ _ _
  ·simp only [resolve, hg]
   simp [go_sem]
  ·simp [invoke, go_sem, (c 0).hf]
  ·have hk2 : zZk (js ++ []) (Ls ++ [[(w.heap.size, Obj.deferred (some []))], [(w.heap.size + 1, Obj.loop o2)]]).length = true := by simpa using hk
   have hcc := (c (w.heap.size + 1)).go _ _ r h1 (by have := hs2.po js [] hk2; rw [hL] at this; exact this) (by
    have := OKs.all (fun _ hf => hf _ _ hs2.o hs2.f) (hF [(w.heap.size, Obj.deferred (some []))] [(w.heap.size + 1, Obj.loop o2)])
    rw [hL] at this
    exact this)
   have e1 : (#[.func (.yield (w.heap.size + 1)) #[] #[]] ++ caps.toArray : Array Value) = (Value.func (.yield (w.heap.size + 1)) #[] #[] :: caps).toArray := by simp
   rw [e1]
   refine hcc.mono fun e w3 hR => ?_
   cases e with
   | panicked ch => exact hR.elim
   | outgrown => exact hR.elim
   | returned v =>
    refine hR _ (h [(w.heap.size, Obj.deferred (some []))] [(w.heap.size + 1, Obj.loop o2)] r _ ?_)
    rintro v1 L1 F2 hj ⟨rfl, q⟩
    have hc : AC qd X.A X.L0 X.w0 n S (Ls ++ [[(w.heap.size, Obj.deferred (some []))], [(w.heap.size + 1, Obj.loop o2)]]) F js [] W1 a w3 := ⟨hs.s, hs2.o, hs2.e, hs2.f⟩
    obtain ⟨Ls', F', ⟨k1, k2⟩, hs3, _⟩ := zZo hj hc (by rw [hL]; exact q) hk2
    have hl : w3.heap[w.heap.size + 1]? = some (.loop o2) := tX hs3.o k1 (List.mem_singleton.2 rfl)
    have hp : o2.pending = none := by rw [← ho2]
    have hst : o2.state ≠ .busy := by rw [← ho2]; exact nofun
    refine ⟨none, w3.putObj (w.heap.size + 1) (.loop { o2 with state := .exhausted }), by rw [← hp]; exact run_endLoop hl hst, ?_⟩
    have hs4 := hs3.putO (o' := .loop { o2 with state := .exhausted }) k1
    have hJ := k2 [(w.heap.size + 1, .loop { o2 with state := .exhausted })]
    rw [zJ4] at hJ
    refine inb_n (z2F (wp_seq (reg (zRy ?_ os hos a _ (hJ.go rfQ.np r0 h2 a _ hs4)))))
    intro e a5 w5 hq5
    cases e with
    | normal =>
     obtain ⟨S2, Ls2, F3, hs5, g1, hJ5⟩ := hq5
     refine z2F (wp_ret ?_)
     have hs6 := ((hs5.putO (o' := .deferred none) g1).drop i1).drop i2
     rw [List.set_set] at hs6
     have hfin := hJ5.go zUf.np r0 rfl a5 _ hs6
     show LeavesInM Fence.wide 0 P fn a5.tmps _ ([{ target := .collected w.heap.size, args := #[] }] ++ a.defers) .returning w5
     rw [hs.s.defers]
     exact ⟨nofun, .inl ⟨w.heap.size, _, rfl, run_takeDeferred (tX hs5.o g1 (List.mem_singleton.2 rfl)), hfin.2⟩⟩
    | ret => exact hq5.elim
    | panic c => exact hq5.elim
    | exit id => exact hq5.elim
    | goto l => exact hq5.elim
    | outgrown => exact hq5.elim⟩
theorem z6b {d : Option Tmp} {t : TypeId} {x : Operand} {ty : TypeId} {pos : String} {af : Array Edge} {g : Option (Nat × Bool)} : zXY P ⟨d, .load t x, ty, pos, af, g⟩ := fun ev w => by
 unfold execOp
 simp only [Sem.run_bind]
 cases hr : (Instr.loadAt t (ev x)).run P w with
 | ok v w' => simp [Result.andThen, ValR]
 | halt s w' => simp [Result.andThen, ValR]
theorem z2z {d : Option Tmp} {x : Operand} {ty : TypeId} {pos : String} {af : Array Edge} {g : Option (Nat × Bool)} : zXY P ⟨d, .assign x, ty, pos, af, g⟩ := fun ev w => by
 unfold execOp
 simp [ValR]
theorem ndN : ∀ o ∈ ([] : List Oper), zXY P o := fun _ h => nomatch h
theorem ndC {o : Oper} {l : List Oper} (h : zXY P o) (k : ∀ o ∈ l, zXY P o) : ∀ o' ∈ o :: l, zXY P o' := fun o' ho => by
 rcases List.mem_cons.1 ho with rfl | ho
 ·exact h
 ·exact k _ ho
end
end Go.GD
