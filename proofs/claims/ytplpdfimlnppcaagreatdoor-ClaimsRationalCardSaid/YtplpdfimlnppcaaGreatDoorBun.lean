/- A part. Conditions: none. -/
import Derived.Test.YtplpdfimlnppcaaGreatDoorView
namespace Go.GD
open Go Go.RowKit
set_option autoImplicit false
variable {qd : Prop}
structure PP where
 h : List Nat → World → Prop
 mv : ∀ {Z w Z' w'}, yK Z w Z' w' → h Z w → h Z' w'
def PP.tr : PP := ⟨fun _ _ => True, fun _ h => h⟩
def R {τ : Type} (e : E τ) (p : Option Addr) (c m : Nat) (l : List τ) : PP := ⟨fun Z w => xF e Z w p c l ∧ m = l.length, fun s h => ⟨h.1.step e s, h.2⟩⟩
def Ar {τ : Type} (e : E τ) (te : TypeId) (r : zW) (p : Option Addr) (c m : Nat) (l : List τ) : PP := ⟨fun Z w => yL e te Z w r p c l ∧ m = l.length, fun s h => ⟨h.1.mv s, h.2⟩⟩
def Pt {τ : Type} (e : E τ) (b o : Nat) (x : τ) : PP := ⟨fun Z w => zWg e Z w ⟨b, o, none⟩ x, fun s h => h.mv s⟩
def uX : List PP → List Nat → World → Prop
 | [], _, _ => True
 | f :: r, Z, w => f.h Z w ∧ uX r Z w
theorem uX.mv {Z Z' : List Nat} {w w' : World} (s : yK Z w Z' w') : ∀ {F : List PP}, uX F Z w → uX F Z' w'
 | [], _ => trivial
 | f :: _, h => ⟨f.mv s h.1, uX.mv s h.2⟩
theorem uX.app {Z : List Nat} {w : World} : ∀ {F G : List PP}, uX F Z w → uX G Z w → uX (F ++ G) Z w
 | [], _, _, k => k
 | _ :: _, _, h, k => ⟨h.1, uX.app h.2 k⟩
def uY : List PP → Nat → PP
 | [], _ => PP.tr
 | f :: _, 0 => f
 | _ :: r, k + 1 => uY r k
theorem uX.at {Z : List Nat} {w : World} : ∀ {F : List PP}, uX F Z w → ∀ k, (uY F k).h Z w
 | [], _, _ => trivial
 | _ :: _, h, 0 => h.1
 | _ :: _, h, k + 1 => uX.at h.2 k
structure SS (qd : Prop) (A : List Nat) (L0 : List zW) (w0 : World) (n : Nat) (S : List (Nat × Value)) (Ls : List zW) (F : List PP) (a : Act) (w : World) : Prop where
 s : wH a n S
 o : wC A w Ls
 e : qT qd L0 w0 Ls w
 f : uX F (bl Ls ++ A) w
structure Bk (qd : Prop) (A : List Nat) (L0 : List zW) (w0 : World) (L1 : List zW) (F : List PP) (w : World) : Prop where
 o : wC A w L1
 e : qT qd L0 w0 L1 w
 f : uX F (bl L1 ++ A) w
abbrev bx (b t : Nat) (l : List Value) : zW := [(b, .cells l.toArray t (0, 0))]
section
variable {A : List Nat} {L0 Ls Ls' : List zW} {w0 w w' : World} {n : Nat} {S S' : List (Nat × Value)} {F F1 : List PP} {a a' : Act}
theorem SS.g (h : SS qd A L0 w0 n S Ls F a w) (k : Nat) : (uY F k).h (bl Ls ++ A) w := h.f.at k
theorem SS.next (h : SS qd A L0 w0 n S Ls F a w) (hO : wC A w' Ls') (e : qT qd Ls w Ls' w') (hS : wH a' n S') (F1 : List PP) (hF : uX F1 (bl Ls' ++ A) w') : SS qd A L0 w0 n S' Ls' (F1 ++ F) a' w' :=
 ⟨hS, hO, h.e.trans e, hF.app (h.f.mv (e.step A))⟩
theorem SS.slot (h : SS qd A L0 w0 n S Ls F a w) (hS : wH a' n S') : SS qd A L0 w0 n S' Ls F a' w := ⟨hS, h.o, h.e, h.f⟩
theorem SS.add (h : SS qd A L0 w0 n S Ls F a w) {f : PP} (hf : f.h (bl Ls ++ A) w) : SS qd A L0 w0 n S Ls (f :: F) a w := ⟨h.s, h.o, h.e, hf, h.f⟩
theorem SS.upd (h : SS qd A L0 w0 n S Ls F a w) {t : Nat} {v : Value} (v' : Value) (hl : yQ S t = some v) (e : v = v') : SS qd A L0 w0 n ((t, v') :: S) Ls F a w := h.slot (h.s.upd hl e)
theorem z5a (h : SS qd A L0 w0 n S Ls F a w) (js : List Nat) (hF : uX F1 (bl Ls ++ A) w) (hk : js.Nodup := by decide) : Bk qd A L0 w0 (xK Ls js) F1 w :=
 ⟨h.o.sel js hk, h.e.sel js, hF.mv (yK.sel js _ _ _)⟩
theorem SS.share {τ : Type} {e : E τ} {te : TypeId} {r : zW} {p : Option Addr} {c m : Nat} {l : List τ} (h : SS qd A L0 w0 n S Ls F a w) (i : Nat) (hA : (Ar e te r p c m l).h (bl Ls ++ A) w) (hr : Ls[i]? = some r := by rfl) :
  SS qd A L0 w0 n S (Ls.set i []) (R e p c m l :: F) a w :=
 ⟨h.s, h.o.dropped i, h.e.dropped i, ⟨hA.1.share h.o hr, hA.2⟩, h.f.mv (yK.dropped i _ _ _)⟩
theorem SS.drop (h : SS qd A L0 w0 n S Ls F a w) (i : Nat) : SS qd A L0 w0 n S (Ls.set i []) F a w := ⟨h.s, h.o.dropped i, h.e.dropped i, h.f.mv (yK.dropped i _ _ _)⟩
theorem SS.room {τ : Type} (h : SS qd A L0 w0 n S Ls F a w) (e : E τ) (te : TypeId) : SS qd A L0 w0 n S (Ls ++ [[]]) (Ar e te [] none 0 0 [] :: F) a w :=
 ⟨h.s, h.o.room, h.e.trans (qT.room Ls w), ⟨yL.nil, rfl⟩, h.f.mv ((qT.room (qd := qd) Ls w).step A)⟩
theorem rnil {τ : Type} (e : E τ) (Z : List Nat) (w : World) (p : Option Addr) (c : Nat) : (R e p c 0 []).h Z w := ⟨xF.nil e Z w p c, rfl⟩
theorem R.cell {τ : Type} {e : E τ} {Z : List Nat} {w : World} {p : Option Addr} {c m : Nat} {l : List τ} (h : (R e p c m l).h Z w) : (qZ e).rd Z w [.slice p m c] l := by
 obtain ⟨h1, rfl⟩ := h; exact ⟨p, c, rfl, h1⟩
theorem R.of {τ : Type} {e : E τ} {Z : List Nat} {w : World} {p : Option Addr} {c : Nat} {l : List τ} (h : xF e Z w p c l) : (R e p c (List.length l) l).h Z w := ⟨h, rfl⟩
theorem wC.lessA {A A' : List Nat} (h : wC A w Ls) (hs : ∀ b ∈ A', b ∈ A) : wC A' w Ls := ⟨fun b hb => h.old b (hs b hb), h.has, h.nodup, fun b hb hA => h.apart b hb (hs b hA)⟩
theorem zSr : ∀ (js ls : List Nat) (L : List zW), xE (js ++ ls) L = xE ls (xE js L)
 | [], _, _ => rfl
 | j :: js, ls, L => by simp only [List.cons_append, xE]; exact zSr js ls _
abbrev Ac (A : List Nat) (Ls : List zW) (js ls : List Nat) : List Nat := bl (xE (js ++ ls) Ls) ++ A
theorem z5M {js ls : List Nat} : ∀ b ∈ Ac A Ls js ls, b ∈ bl (xE js Ls) ++ A := by
 intro b hb
 rcases List.mem_append.1 hb with h | h
 ·rw [zSr] at h
  exact List.mem_append.2 (.inl (zNH h))
 ·exact List.mem_append.2 (.inr h)
theorem SS.po (h : SS qd A L0 w0 n S Ls F a w) (js ls : List Nat) (hk : zZk (js ++ ls) Ls.length = true := by kernel_rfl) : wC (Ac A Ls js ls) w (xK Ls js) :=
 (h.o.picks js (List.nodup_append.1 (zNR hk).1).1).lessA z5M
theorem SS.pstep (js ls : List Nat) : yK (bl Ls ++ A) w (bl (xK Ls js) ++ Ac A Ls js ls) w := yK.less w fun b hb => by
 rcases List.mem_append.1 hb with h | h
 ·exact List.mem_append.2 (.inl (zNr h))
 ·exact zXJ js A b (List.mem_append.2 (.inr (z5M b h)))
theorem SS.pl {τ : Type} {e : E τ} {te : TypeId} {r : zW} {p : Option Addr} {c m : Nat} {l : List τ} (h : SS qd A L0 w0 n S Ls F a w) (js ls : List Nat) (i : Nat) (hA : (Ar e te r p c m l).h (bl Ls ++ A) w) (hr : Ls[i]? = some r := by rfl)
  (hk : zZk (js ++ ls) Ls.length = true := by kernel_rfl) (hi : ls.contains i = true := by kernel_rfl) : (R e p c m l).h (bl (xK Ls js) ++ Ac A Ls js ls) w := by
 refine ⟨?_, hA.2⟩
 obtain ⟨hn, _⟩ := zNR hk
 have hi' : i ∈ ls := by simpa using hi
 have hij : i ∉ js := fun hj => (List.nodup_append.1 hn).2.2 i hj i hi' rfl
 rcases hA.1 with ⟨_, _, _, rfl⟩ | ⟨b, cells, rfl, rfl, h3, h4, h5, h6⟩
 ·exact ⟨Nat.zero_le _, .inl rfl⟩
 ·have hb := tX h.o hr (List.mem_singleton.2 rfl)
  refine ⟨h3, .inr ⟨b, 0, _, rfl, fun hm => ?_, (Array.getElem?_eq_some_iff.1 hb).1, e.rdL_step (SS.pstep js ls) h6, fun j u hu => ?_⟩⟩
  ·rcases List.mem_append.1 hm with hm | hm
   ·obtain ⟨s, hs, q, hq, he⟩ := zLU.1 hm
    obtain ⟨k, hk, hlk⟩ := zPr hs hq
    exact zEx h.o.nodup hr hlk (fun e => hij (e ▸ hk)) _ (List.mem_singleton.2 rfl) q hq he.symm
   ·rcases List.mem_append.1 hm with hm | hm
    ·obtain ⟨k, s, hk, hs, q, hq, he⟩ := zPJ hm
     exact zEx h.o.nodup hr hs (fun e => hk (List.mem_append.2 (.inr (e ▸ hi')))) _ (List.mem_singleton.2 rfl) q hq he.symm
    ·exact h.o.apart b (zC6 hr (List.mem_singleton.2 rfl)) hm
  ·rw [cell_of_row w b (0 + j) cells te (0, 0) hb, Nat.zero_add]
   rw [List.getElem?_take] at hu
   split at hu
   ·simpa using hu
   ·cases hu
structure AC (qd : Prop) (A : List Nat) (L0 : List zW) (w0 : World) (n : Nat) (S : List (Nat × Value)) (Ls : List zW) (F : List PP) (js ls : List Nat) (w : World) (a' : Act) (w' : World) : Prop where
 s : wH a' n S
 o : wC A w Ls
 e : qT qd L0 w0 Ls w
 f : uX F (bl Ls ++ A) w
theorem wC.widen {A' : List Nat} {L1 : List zW} {js : List Nat} (h : wC A w Ls) (hn : js.Nodup) (ho : wC A' w' L1) (e : qT qd (xK Ls js) w L1 w') : wC (bl (xE js Ls) ++ A) w' L1 := by
 have hp := h.picks js hn
 refine ⟨fun b hb => Nat.lt_of_lt_of_le (hp.old b hb) e.size, ho.has, ho.nodup, fun b hb hA => ?_⟩
 rcases e.fresh b hb with h1 | h1
 ·exact hp.apart b h1 hA
 ·have := hp.old b hA; omega
theorem AC.ext {js ls : List Nat} {L1 : List zW} (c : AC qd A L0 w0 n S Ls F js ls w a' w') (q : Bk qd (Ac A Ls js ls) (xK Ls js) w L1 F1 w') (Ls' : List zW)
  (hk : zZk (js ++ ls) Ls.length = true) (hl : Nat.ble js.length L1.length = true) (hLs : zVL js (L1.take js.length) Ls ++ L1.drop js.length = Ls') : wC A w' Ls' ∧ qT qd Ls w Ls' w' := by
 subst hLs
 have hl := Nat.le_of_ble_eq_true hl
 obtain ⟨hn, hlt⟩ := zNR hk
 have hn1 := (List.nodup_append.1 hn).1
 have hlt1 : ∀ j ∈ js, j < Ls.length := fun j hj => hlt j (List.mem_append.2 (.inl hj))
 have hlen : (L1.take js.length).length = js.length := by simp; omega
 have hq := c.o.widen hn1 q.o q.e
 have he := q.e
 rw [← List.take_append_drop js.length L1] at hq he
 exact ⟨c.o.fills hn1 hlt1 hlen hq he, qT.fills hn1 hlt1 hlen he⟩
theorem AC.on {js ls : List Nat} {L1 : List zW} (c : AC qd A L0 w0 n S Ls F js ls w a' w') (q : Bk qd (Ac A Ls js ls) (xK Ls js) w L1 F1 w') (Ls' : List zW)
  (hk : zZk (js ++ ls) Ls.length = true := by kernel_rfl) (hl : Nat.ble js.length L1.length = true := by kernel_rfl) (hLs : zVL js (L1.take js.length) Ls ++ L1.drop js.length = Ls' := by rfl)
  (hf : ls = [] ∨ F1 = [] := by first | exact .inl rfl | exact .inr rfl) : SS qd A L0 w0 n S Ls' (F1 ++ F) a' w' := by
 obtain ⟨hO, hE⟩ := c.ext q Ls' hk hl hLs
 have hl := Nat.le_of_ble_eq_true hl
 refine ⟨c.s, hO, c.e.trans hE, uX.app ?_ (c.f.mv (hE.step A))⟩
 rcases hf with rfl | rfl
 ·obtain ⟨hn, hlt⟩ := zNR hk
  rw [List.append_nil] at hn hlt
  have hlen : (L1.take js.length).length = js.length := by simp; omega
  have hF := q.f
  subst hLs
  refine hF.mv ?_
  have := yK.fills (Ls := Ls) (js := js) (rs := L1.take js.length) (new := L1.drop js.length) hn hlt hlen A w'
  rw [List.take_append_drop] at this
  simpa [Ac] using this
 ·trivial
theorem AC.st {js ls : List Nat} {L1 : List zW} (c : AC qd A L0 w0 n S Ls F js ls w a' w') (q : Bk qd (Ac A Ls js ls) (xK Ls js) w L1 F1 w') (Ls' : List zW)
  (hk : zZk (js ++ ls) Ls.length = true := by kernel_rfl) (hl : Nat.ble js.length L1.length = true := by kernel_rfl) (hLs : zVL js (L1.take js.length) Ls ++ L1.drop js.length = Ls' := by rfl) : qT qd Ls w Ls' w' := (c.ext q Ls' hk hl hLs).2
end
section
variable {P : Program} {ops : Array Oper} {Q : Exit → Act → World → Prop} {K : Act → World → Prop} {rest : List Oper}
variable {A : List Nat} {L0 Ls : List zW} {w0 w : World} {n : Nat} {S : List (Nat × Value)} {F : List PP} {a : Act}
variable {d : Nat} {ty : TypeId} {pos : String} {af : Array Edge} {g : Option (Nat × Bool)}
theorem ent {f : FuncId} {fn : Func} {c : Code} {vs : List Value} {R : Ending → World → Prop} (hf : P.funcs[f]? = some fn) (hb : fn.body = some c) (hO : wC A w0 L0) (hF : uX F (bl L0 ++ A) w0)
  (k : ∀ a, SS qd A L0 w0 fn.ntmps (zL1 vs 0) L0 F a w0 → c.wp P (bodyPost P fn R) a w0) (hn : Nat.ble vs.length fn.ntmps = true := by kernel_rfl) : Calls P f vs.toArray w0 R :=
 enter hf hb hn fun a hS => k a ⟨hS, hO, qT.refl _ _, hF⟩
theorem ss {x y : Code} (h : y.wp P Q a w) (hx : x = .skip := by rfl) : (Code.seq x y).wp P Q a w := by subst hx; exact wp_seq (wp_skip (z2F h))
theorem pr (m : Nat) (S2 : List (Nat × Value)) {l : List Oper} (h : SS qd A L0 w0 n S Ls F a w) (k : ∀ a, SS qd A L0 w0 n (S2 ++ S) Ls F a w → wpList P ops Q (l.drop m) a w)
  (hr : (zLm P ops (l.take m) S).bind (fun s => zVD s (S2.map Prod.fst)) = some S2 := by kernel_rfl) (hd : zYR n S2 S (zZl (l.take m)) = true := by kernel_rfl) : wpList P ops Q l a w :=
 z3w m S2 h.s hr hd fun a hS => k a (h.slot hS)
theorem rt1 {fn : Func} {t : Nat} {R : Value → World → Prop} {v : Value} (h : SS qd A L0 w0 n S Ls F a w) (hf : fn.results = #[.tmp t]) (hv : yQ S t = some v) (hR : R v w) : bodyPost P fn (Ret R) .ret a w := ret1 h.s hf hv hR
theorem rtg {fn : Func} {rs : List ResultVar} {vs : List Value} {R : Value → World → Prop} (h : SS qd A L0 w0 n S Ls F a w) (hf : fn.results = rs.toArray) (hr : zZq P S w rs vs)
  (hR : R (if h : vs.length = 1 then vs[0] else .tuple vs.toArray) w) : bodyPost P fn (Ret R) .ret a w := ret_g h.s hf hr hR
theorem rtc {t ty b : Nat} {v : Value} {c : Array Value} {te : TypeId} {fr : Nat × Nat} {r : List ResultVar} {vs : List Value} (i : Nat) (h : SS qd A L0 w0 n S Ls F a w) (hl : yQ S t = some (.pointer (some ⟨b, 0, none⟩))) (hr : Ls[i]? = some [(b, .cells c te fr)])
  (k : zZq P S w r vs) (hv : zO7 P ty c 0 = some v := by kernel_rfl) : zZq P S w (.cell t ty :: r) (v :: vs) := resC h.o i hl hr hv k
theorem z6G {op : Op} {v : Value} (h : SS qd A L0 w0 n S Ls F a w) (hr : ∀ w', (execOp a.eval ⟨some d, op, ty, pos, af, g⟩).run P w' = .ok (.value v) w') (k : ∀ a, SS qd A L0 w0 n ((d, v) :: S) Ls F a w → K a w)
  (hd : Nat.blt d n = true := by kernel_rfl) (hg : wB ops S g = some true := by kernel_rfl) : vW P ops Q ⟨some d, op, ty, pos, af, g⟩ K a w :=
 tZ h.s hd hg (hr w) fun a hS => k a (h.slot hS)
theorem zPx (i : Nat) {x : Operand} {t b o : Nat} {c : Array Value} {te : TypeId} {fr : Nat × Nat} (v : Value) (h : SS qd A L0 w0 n S Ls F a w) (hx : qE S x = some (.pointer (some ⟨b, o, none⟩))) (hr : Ls[i]? = some [(b, .cells c te fr)])
  (k : ∀ a, SS qd A L0 w0 n ((d, v) :: S) Ls F a w → K a w) (hv : zO7 P t c o = some v := by kernel_rfl) (hd : Nat.blt d n = true := by kernel_rfl) (hg : wB ops S g = some true := by kernel_rfl) :
  vW P ops Q ⟨some d, .load t x, ty, pos, af, g⟩ K a w := zZC i h.s hd hg h.o hx hr hv fun a hS => k a (h.slot hS)
theorem zRB (i : Nat) {x y : Operand} {t b o : Nat} {c : Array Value} {te : TypeId} {v : Value} (h : SS qd A L0 w0 n S Ls F a w) (hx : qE S x = some (.pointer (some ⟨b, o, none⟩))) (hy : qE S y = some v) (hr : Ls[i]? = some [(b, .cells c te (0, 0))])
  (k : ∀ a w', SS qd A L0 w0 n S (Ls.set i [(b, .cells (tH c o v.cells.toList) te (0, 0))]) F a w' → qT qd Ls w (Ls.set i [(b, .cells (tH c o v.cells.toList) te (0, 0))]) w' → K a w')
  (hv : zNy P t c o v = true := by kernel_rfl) (hg : wB ops S g = some true := by kernel_rfl) : vW P ops Q ⟨none, .store t x y, ty, pos, af, g⟩ K a w :=
 zYB i h.s hg h.o hx hy hr hv fun w' hO e a hS => k a w' (h.next hO e hS [] trivial) e
theorem b_box {x : Operand} {t : TypeId} {v : Value} (h : SS qd A L0 w0 n S Ls F a w) (hx : qE S x = some v)
  (k : ∀ b a w', SS qd A L0 w0 n ((d, .pointer (some ⟨b, 0, none⟩)) :: S) (Ls ++ [[(b, .cells v.cells t (0, 0))]]) F a w' → qT qd Ls w (Ls ++ [[(b, .cells v.cells t (0, 0))]]) w' → K a w')
  (hd : Nat.blt d n = true := by kernel_rfl) (hg : wB ops S g = some true := by kernel_rfl) : vW P ops Q ⟨some d, .box t x, ty, pos, af, g⟩ K a w :=
 op_box h.s hd hg h.o hx fun b w' hO e a hS => k b a w' (h.next hO e hS [] trivial) e
theorem z2N {t : TypeId} {z : Value} (h : SS qd A L0 w0 n S Ls F a w) (hz : zKF P t = some z)
  (k : ∀ b a w', SS qd A L0 w0 n ((d, .pointer (some ⟨b, 0, none⟩)) :: S) (Ls ++ [[(b, .cells z.cells t (0, 0))]]) F a w' → qT qd Ls w (Ls ++ [[(b, .cells z.cells t (0, 0))]]) w' → K a w')
  (hd : Nat.blt d n = true := by kernel_rfl) (hg : wB ops S g = some true := by kernel_rfl) : vW P ops Q ⟨some d, .alloc t, ty, pos, af, g⟩ K a w :=
 z4f h.s hd hg h.o hz fun b w' hO e a hS => k b a w' (h.next hO e hS [] trivial) e
section
variable {τ σ : Type} {e : E τ} {f : E σ} {te : TypeId} {r : zW} {p : Option Addr} {c m : Nat} {l : List τ} {ix : Int} {u : τ} {t : TypeId} {x y : Operand} {kd : IntKind}
theorem z0s (h : SS qd A L0 w0 n S Ls F a w) (hR : (R e p c m l).h (bl Ls ++ A) w) (hx : qE S x = some (.slice p m c)) (hy : qE S y = some (.int kd ix)) (hm : zF l ix = some u)
  (k : ∀ b o a, SS qd A L0 w0 n ((d, .pointer (some ⟨b, o, none⟩)) :: S) Ls (Pt e b o u :: F) a w → K a w)
  (ht : yV P t = some e.n := by kernel_rfl) (hd : Nat.blt d n = true := by kernel_rfl) (hg : wB ops S g = some true := by kernel_rfl) : vW P ops Q ⟨some d, .indexAddr t x y, ty, pos, af, g⟩ K a w := by
 obtain ⟨hR, rfl⟩ := hR
 exact zZE h.s hd hg hR hx hy ht hm fun b o hP a hS => k b o a ((h.slot hS).add hP)
theorem zYX {b o : Nat} {y : τ} (ag : Bool) (h : SS qd A L0 w0 n S Ls F a w) (hP : (Pt e b o y).h (bl Ls ++ A) w) (hx : qE S x = some (.pointer (some ⟨b, o, none⟩)))
  (k : ∀ ci, e.rd (bl Ls ++ A) w ci y → ∀ v, mkV ag ci = some v → ∀ a', SS qd A L0 w0 n ((d, v) :: S) Ls F a' w → K a' w) (ht : uM P t = some (ag, e.n) := by kernel_rfl) (hag : ag = true ∨ e.n = 1 := by first | exact .inl rfl | exact .inr rfl)
  (hd : Nat.blt d n = true := by kernel_rfl) (hg : wB ops S g = some true := by kernel_rfl) : vW P ops Q ⟨some d, .load t x, ty, pos, af, g⟩ K a w :=
 z0y ag h.s hd hg hP hx ht (fun ci hc v hv a hS => k ci hc v hv a (h.slot hS)) hag
theorem zZQ (h : SS qd A L0 w0 n S Ls F a w) (hA : (Ar e te r p c m l).h (bl Ls ++ A) w) (hx : qE S x = some (.slice p m c)) (hy : qE S y = some (.int kd ix)) (hm : zF l ix = some u)
  (k : ∀ b, p = some ⟨b, 0, none⟩ → ∀ a, SS qd A L0 w0 n ((d, .pointer (some ⟨b, ix.toNat * e.n, none⟩)) :: S) Ls F a w → K a w)
  (ht : yV P t = some e.n := by kernel_rfl) (hd : Nat.blt d n = true := by kernel_rfl) (hg : wB ops S g = some true := by kernel_rfl) : vW P ops Q ⟨some d, .indexAddr t x y, ty, pos, af, g⟩ K a w := by
 obtain ⟨hA, rfl⟩ := hA
 exact zXG h.s hd hg hA hx hy ht hm fun b hp a hS => k b hp a (h.slot hS)
theorem z0z (i : Nat) (s : xW e f) {b : Nat} (ag : Bool) (h : SS qd A L0 w0 n S Ls F a w) (hA : (Ar e te r p c m l).h (bl Ls ++ A) w) (hp : p = some ⟨b, 0, none⟩) (hm : zF l ix = some u)
  (hx : qE S x = some (.pointer (some ⟨b, ix.toNat * e.n + s.off, none⟩)))
  (k : ∀ ci, f.rd (bl Ls ++ A) w ci (s.get u) → ∀ v, mkV ag ci = some v → ∀ a', SS qd A L0 w0 n ((d, v) :: S) Ls F a' w → K a' w) (hr : Ls[i]? = some r := by rfl) (ht : uM P t = some (ag, f.n) := by kernel_rfl) (hag : ag = true ∨ f.n = 1 := by first | exact .inl rfl | exact .inr rfl)
  (hd : Nat.blt d n = true := by kernel_rfl) (hg : wB ops S g = some true := by kernel_rfl) : vW P ops Q ⟨some d, .load t x, ty, pos, af, g⟩ K a w :=
 zZB i s ag h.s hd hg h.o hr hA.1 hp hm hx ht (fun ci hc v hv a hS => k ci hc v hv a (h.slot hS)) hag
theorem zZX (i : Nat) (s : xW e f) {b : Nat} {v : Value} (z : σ) (ag : Bool) (h : SS qd A L0 w0 n S Ls F a w) (hA : (Ar e te r p c m l).h (bl Ls ++ A) w) (hp : p = some ⟨b, 0, none⟩) (hm : zF l ix = some u)
  (hx : qE S x = some (.pointer (some ⟨b, ix.toNat * e.n + s.off, none⟩))) (hy : qE S y = some v) (hv : f.rd (bl Ls ++ A) w v.cells.toList z)
  (k : ∀ r' a' w', SS qd A L0 w0 n S (Ls.set i r') (Ar e te r' p c m (l.set ix.toNat (s.put u z)) :: F) a' w' → qT qd Ls w (Ls.set i r') w' → K a' w') (hr : Ls[i]? = some r := by rfl) (ht : uM P t = some (ag, f.n) := by kernel_rfl)
  (hg : wB ops S g = some true := by kernel_rfl) : vW P ops Q ⟨none, .store t x y, ty, pos, af, g⟩ K a w :=
 zXl i s ag h.s hg h.o hr hA.1 hp hm hx hy ht hv fun r' w' hO e hA' a hS => k r' a w' (h.next hO e hS [_] ⟨⟨hA', by rw [List.length_set]; exact hA.2⟩, trivial⟩) e
theorem z1M (i : Nat) {q : Option Addr} {c2 m2 : Nat} {l2 z : List τ} (h : SS qd A L0 w0 n S Ls F a w) (hA : (Ar e te r p c m l).h (bl Ls ++ A) w) (hR : (R e q c2 m2 l2).h (bl Ls ++ A) w) (hx : qE S x = some (.slice p m c)) (hy : qE S y = some (.slice q m2 c2)) (hm : wE l l2 = some z)
  (k : ∀ r' p' c' a' w', SS qd A L0 w0 n ((d, .slice p' (List.length z) c') :: S) (Ls.set i r') (Ar e te r' p' c' (List.length z) z :: F) a' w' → qT qd Ls w (Ls.set i r') w' → K a' w') (hr : Ls[i]? = some r := by rfl) (ht : xQ P t te e.n = true := by kernel_rfl)
  (hd : Nat.blt d n = true := by kernel_rfl) (hg : wB ops S g = some true := by kernel_rfl) :
  vW P ops Q ⟨some d, .call { callee := .builtin .append, args := [x, y].toArray, argTypes := [t, t].toArray }, ty, pos, af, g⟩ K a w := by
 obtain ⟨hA, rfl⟩ := hA
 obtain ⟨hR, rfl⟩ := hR
 exact zYI i te h.s hd hg h.o hr hA hR.src hx hy ht hm fun r' p' c' w' hO e hA' a hS => k r' p' c' a w' (h.next hO e hS [_] ⟨⟨hA', rfl⟩, trivial⟩) e
theorem z0x (i j : Nat) {r2 : zW} {q : Option Addr} {c2 m2 : Nat} {l2 z : List τ} (h : SS qd A L0 w0 n S Ls F a w) (hA : (Ar e te r p c m l).h (bl Ls ++ A) w) (hR : (Ar e te r2 q c2 m2 l2).h (bl Ls ++ A) w) (hx : qE S x = some (.slice p m c)) (hy : qE S y = some (.slice q m2 c2)) (hm : wE l l2 = some z)
  (k : ∀ r' p' c' a' w', SS qd A L0 w0 n ((d, .slice p' (List.length z) c') :: S) (Ls.set i r') (Ar e te r' p' c' (List.length z) z :: F) a' w' → qT qd Ls w (Ls.set i r') w' → K a' w') (hr : Ls[i]? = some r := by rfl) (hr2 : Ls[j]? = some r2 := by rfl) (ht : xQ P t te e.n = true := by kernel_rfl)
  (hd : Nat.blt d n = true := by kernel_rfl) (hg : wB ops S g = some true := by kernel_rfl) :
  vW P ops Q ⟨some d, .call { callee := .builtin .append, args := [x, y].toArray, argTypes := [t, t].toArray }, ty, pos, af, g⟩ K a w := by
 obtain ⟨hA, rfl⟩ := hA
 obtain ⟨hR, rfl⟩ := hR
 exact zYI i te h.s hd hg h.o hr hA (hR.src h.o hr2) hx hy ht hm fun r' p' c' w' hO e hA' a hS => k r' p' c' a w' (h.next hO e hS [_] ⟨⟨hA', rfl⟩, trivial⟩) e
theorem z5j {q : Nat} {parts : List (Nat × Operand)} (cs : List Value) (l : List τ) (h : SS qd A L0 w0 n S Ls F a w) (hrd : e.rdL (bl Ls ++ A) w cs l)
  (k : ∀ p c a' w', SS qd A L0 w0 n ((d, .slice p (List.length l) c) :: S) Ls (R e p c (List.length l) l :: F) a' w' → qT qd Ls w Ls w' → K a' w') (te : TypeId) (ht : xQ P t te e.n = true := by kernel_rfl) (hc : zOM P S t q parts = some cs := by kernel_rfl) (hl : l.length = q := by rfl)
  (hd : Nat.blt d n = true := by kernel_rfl) (hg : wB ops S g = some true := by kernel_rfl) : vW P ops Q ⟨some d, .buildSlice t q parts.toArray, ty, pos, af, g⟩ K a w :=
 z4S cs l h.s hd hg h.o ht hc hrd hl fun p c w' hO e hR a hS => k p c a w' (h.next hO e hS [_] ⟨⟨hR, rfl⟩, trivial⟩) e
theorem z4Y {q : Nat} {parts : List (Nat × Operand)} (cs : List Value) (l : List τ) (h : SS qd A L0 w0 n S Ls F a w) (hrd : e.rdL (bl Ls ++ A) w cs l)
  (k : ∀ r p c a' w', SS qd A L0 w0 n ((d, .slice p (List.length l) c) :: S) (Ls ++ [r]) (Ar e te r p c (List.length l) l :: F) a' w' → qT qd Ls w (Ls ++ [r]) w' → K a' w') (ht : xQ P t te e.n = true := by kernel_rfl) (hc : zOM P S t q parts = some cs := by kernel_rfl) (hl : l.length = q := by rfl)
  (hm : Nat.ble q 16777216 = true := by kernel_rfl) (hd : Nat.blt d n = true := by kernel_rfl) (hg : wB ops S g = some true := by kernel_rfl) : vW P ops Q ⟨some d, .buildSlice t q parts.toArray, ty, pos, af, g⟩ K a w :=
 z2i te cs l h.s hd hg h.o ht hc hrd hl hm fun r p c w' hO e hA a hS => k r p c a w' (h.next hO e hS [_] ⟨⟨hA, rfl⟩, trivial⟩) e
theorem z6J {Z : List Nat} {l : List Int} {s t te : TypeId} {w : World} {d : Option Tmp} (hS : wH a n S) (hR : (R (zK .u8) p c m l).h Z w) (hx : qE S x = some (.slice p m c)) (hs : P.underlying s = some (.slice te)) (he : P.underlying te = some (.int .u8)) (ht : P.underlying t = some .string) :
  (execOp a.eval ⟨d, .convert s t x, ty, pos, af, g⟩).run P w = .ok (.value (vs (zTJ l))) w := by
 obtain ⟨hR, rfl⟩ := hR
 have hrun : (Conv.bytesToString (.slice p l.length c)).run P w = .ok (vs (zTJ l)) w := by
  cases p with
  | none =>
   rcases hR.2 with rfl | ⟨b, off, cs, h, _⟩
   ·rfl
   ·cases h
  | some ad =>
   rcases hR.2 with rfl | ⟨b, off, cs, h, hb, hlt, hl, hc⟩
   ·simp [Conv.bytesToString, loadCells, loadCellsFrom, zTJ]
    rfl
   ·cases h
    have hlen : cs.length = l.length := by rw [(zK .u8).rdL_len hl]; simp [zK]
    have hld := run_loadCells_list (P := P) w ⟨b, off, none⟩ cs (fun j u hu => by rw [zDm]; exact hc j u hu)
    rw [hlen] at hld
    simp only [Conv.bytesToString, Sem.run_bind, hld, Result.andThen_ok]
    rw [← Array.forIn_toList]
    rw [zVh _ (fun _ _ => rfl) l _ Z w w _ (by simpa using hl)]
    rfl
 simp [execOp, convert, hS.eval hx, run_underlying hs, run_underlying ht, run_underlying he, hrun]
theorem z6g {l : List Int} {s t te : TypeId} (h : SS qd A L0 w0 n S Ls F a w) (hR : (R (zK .u8) p c m l).h (bl Ls ++ A) w) (hx : qE S x = some (.slice p m c)) (hs : P.underlying s = some (.slice te)) (he : P.underlying te = some (.int .u8)) (ht : P.underlying t = some .string)
  (k : ∀ a, SS qd A L0 w0 n ((d, vs (zTJ l)) :: S) Ls F a w → K a w) (hd : Nat.blt d n = true := by kernel_rfl) (hg : wB ops S g = some true := by kernel_rfl) : vW P ops Q ⟨some d, .convert s t x, ty, pos, af, g⟩ K a w :=
 tZ h.s hd hg (z6J h.s hR hx hs he ht) fun a hS => k a (h.slot hS)
end
theorem b_call {f : FuncId} {cal : Operand} {xs : List Operand} {caps : List Value} {ats : Array TypeId} {vs : List Value} {R : Value → World → Prop} (js ls : List Nat) (h : SS qd A L0 w0 n S Ls F a w)
  (hf : ∀ args w, (callFunc f args).run P w = .ok (.enter f args) w) (hcal : qE S cal = some (.func (.func f) #[] caps.toArray)) (hx : z15 S xs = some vs)
  (hc : Calls P f (vs ++ caps).toArray w (Ret R)) (k : ∀ v a' w', R v w' → AC qd A L0 w0 n ((d, v) :: S) Ls F js ls w a' w' → K a' w')
  (hd : Nat.blt d n = true := by kernel_rfl) (hg : wB ops S g = some true := by kernel_rfl) :
  vW P ops Q ⟨some d, .call { callee := .value cal, args := xs.toArray, argTypes := ats }, ty, pos, af, g⟩ K a w := by
 unfold vW
 rw [if_pos (zFk (o := ⟨some d, .call { callee := .value cal, args := xs.toArray, argTypes := ats }, ty, pos, af, g⟩) h.s hg)]
 have hr : (execOp a.eval ⟨some d, .call { callee := .value cal, args := xs.toArray, argTypes := ats }, ty, pos, af, g⟩).run P w = .ok (.enter f (vs ++ caps).toArray) w := by
  simp [execOp, resolve, Deferred.ofValue, invoke, h.s.eval hcal, hf, h.s.evals hx]
 unfold Oper.wp
 rw [hr]
 refine hc.mono fun e w' hh => ?_
 cases e with
 | returned v => exact k v _ w' hh ⟨h.s.put hd v, h.o, h.e, h.f⟩
 | panicked ch => exact hh.elim
 | outgrown => exact hh.elim
end
end Go.GD
