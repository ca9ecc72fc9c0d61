/- A part. Conditions: none. -/
import Derived.Test.YtmpieaddiaihmaaGreatDoorJ
namespace Go.GD
open Go Go.RowKit
set_option autoImplicit false
variable {qd:Prop}
set_option linter.unusedVariables false
abbrev xL:=Sl->List zJ->List PP->Prop
def Ex{α β γ:Type}(I:(α->β->γ->Prop)->Prop)(K:α->β->γ->Prop): Prop:=∀ G:Prop,I (fun a b c=>K a b c->G)->G
def xE (p:PP->Prop): List PP->Prop
 | []=>True
 | f::r=>p f∧xE p r
theorem xE.all{p:PP->Prop}{Z:List Nat}{w:World}(h:∀ f,p f->f.h Z w): ∀ {F:List PP},xE p F->uM F Z w
 | [],_=>trivial
 | f::_,hp=>⟨h f hp.1,xE.all h hp.2⟩
def wL (Ls:List zJ)(F:List PP)(f:PP): Prop:=∀ A w,zZ A w Ls->uM F (bl Ls++A) w->f.h (bl Ls++A) w
def OKc (Ls:List zJ)(F:List PP)(js ls:List Nat)(f:PP): Prop:=∀ A w,zZ A w Ls->uM F (bl Ls++A) w->f.h (bl (uL Ls js)++Ac A Ls js ls) w
section
variable {Ls:List zJ}{F:List PP}{js ls:List Nat}{τ:Type}{e:E τ}{te:TypeId}{r:zJ}{p:Option Addr}{c m:Nat}{l:List τ}
theorem gk (k:Nat): wL Ls F (yE F k):=fun _ _ _ h=>h.at k
theorem gn:wL Ls F (R e p c 0 []):=fun _ _ _ _=>rnil _ _ _ _ _
theorem gl (h:wL Ls F (R e p c m l)): wL Ls F (R e p c (List.length l) l):=fun A w hO hF=>R.re (h A w hO hF)
theorem gL (h:wL Ls F (Ar e te r p c m l)): wL Ls F (Ar e te r p c (List.length l) l):=fun A w hO hF=>Ar.re (h A w hO hF)
theorem gf{α β:Type}{a:E α}{b:E β}{bl o:Nat}{x:α×β}(h:wL Ls F (Pt (wH a b) bl o x)): wL Ls F (Pt a bl o x.1):=fun A w hO hF=>tJ.fst (h A w hO hF)
theorem gs{α β:Type}{a:E α}{b:E β}{bl o:Nat}{x:α×β}(h:wL Ls F (Pt (wH a b) bl o x)): wL Ls F (Pt b bl (o+a.n) x.2):=fun A w hO hF=>tJ.snd (h A w hO hF)
theorem ck (k:Nat): OKc Ls F js ls (yE F k):=fun A w hO hF=>(yE F k).mv (SS.pstep js ls) (hF.at k)
theorem cn:OKc Ls F js ls (R e p c 0 []):=fun _ _ _ _=>rnil _ _ _ _ _
end
section
variable {P:Program}{n:Nat}{X:Hd qd}{ρ σ:Type}{Q:PQ ρ}{S:Sl}{Ls:List zJ}{F:List PP}{m m1 m2:Option ρ}{os:Array Oper}{l:List Oper}{x y:Code}{id:Nat}
theorem cl{τ:Type}{e:E τ}{te:TypeId}{r:zJ}{p:Option Addr}{c m:Nat}{l:List τ}{js ls:List Nat}(i k:Nat)(hk:z4B (js++ls) Ls.length=true:=by kernel_rfl)(hr:Ls[i]?=some r:=by rfl)
  (hF:yE F k=Ar e te r p c m l:=by rfl) (hi:ls.contains i=true:=by kernel_rfl):OKc Ls F js ls (R e p c m l):=fun A w hO hA=>by
 have h:SS True A Ls w 0 [] Ls F { tmps:=#[],defers:=[] } w:=⟨⟨rfl,rfl,fun _ _ h=>by cases h⟩,hO,zU.refl _ _,hA⟩
 exact h.pl js ls i (by rw[←hF];exact h.g k) hr hk hi
structure Gv (Ls:List zJ)(S:Sl)(F:List PP)(I:xL->Prop): Prop where
 go:∀ {qd A L0 w0 n a w},SS qd A L0 w0 n S Ls F a w->Ex I (fun S2 L2 F2=>SS qd A L0 w0 n S2 L2 F2 a w)
theorem gv{I:xL->Prop}{S2:Sl}{L2:List zJ}{F2:List PP}(hk:∀ K,I K->K S2 L2 F2)(js:List Nat)(hF:xE (wL Ls F) F2)(hL:uL Ls js=L2:=by rfl)(hS:zXi S (S2.map Prod.fst)=some S2:=by kernel_rfl)(hn:js.Nodup:=by decide): Gv Ls S F I :=
 ⟨fun h _ hG=>hk _ hG (hL▸h.tos js (xE.all (fun _ hf=>hf _ _ h.o h.f) hF) hS hn)⟩
def zTA (P:Program)(y:Code)(Q:PQ ρ): PQ ρ:=fun r=>Exit.then (y.wp P (Q r)) (Q r)
def inQ (id:Nat)(Q:PQ ρ): PQ ρ:=fun r=>Exit.inBlock id (Q r)
def scQ (Q:PQ ρ): PQ ρ:=fun r=>Exit.noGoto (Q r)
def jnQ (X:Hd qd)(n:Nat)(I:σ->xL->Prop): PQ σ:=fun s e a w=>match e with
 | .normal=>Ex (I s) fun S L F=>SS qd X.A X.L0 X.w0 n S L F a w
 | _=>False
def lpQ (X:Hd qd)(n:Nat)(I:σ->xL->Prop)(Q:PQ ρ): PQ (σ⊕ρ):=fun o e a w=>match e with
 | .normal=>match o with
  | .inl s=>Ex (I s) fun S L F=>SS qd X.A X.L0 X.w0 n S L F a w
  | .inr _=>False
 | e=>match o with
  | .inl _=>False
  | .inr r=>Q r e a w
def zWW (P:Program)(fn:Func)(X:Hd qd)(post:ρ->(Value->List zJ->List PP->Prop)->Prop): PQ ρ:=fun r=>bodyPost P fn (Ret fun v w=>Ex (post r) fun v1 L1 F1=>v=v1∧Bk qd X.A X.L0 X.w0 L1 F1 w)
theorem zTA.np (h:NP Q): NP (zTA P y Q):=fun r c a w=>h r c a w
theorem inQ.np (h:NP Q): NP (inQ id Q):=fun r c a w=>h r c a w
theorem scQ.np (h:NP Q): NP (scQ Q):=fun r c a w=>h r c a w
theorem jnQ.np{I:σ->xL->Prop}: NP (jnQ X n I):=fun _ _ _ _ h=>h
theorem lpQ.np{I:σ->xL->Prop}(h:NP Q): NP (lpQ X n I Q):=fun o c a w hh=>by
 cases o with
 | inl s=>exact hh
 | inr r=>exact h r c a w hh
theorem zWW.np{fn:Func}{post:ρ->(Value->List zJ->List PP->Prop)->Prop}: NP (zWW P fn X post):=fun _ _ _ _ h=>h.2
theorem J.of{p p':uH}{Q':PQ ρ}(h:J P n X Q' p' S Ls F m)(hn:NP Q->NP Q')(k:∀ r a w,p'.go qd P X.A Ls (Q' r) a w->p.go qd P X.A Ls (Q r) a w): J P n X Q p S Ls F m :=
 ⟨fun hq r hm a w hs=>k r a w (h.go (hn hq) r hm a w hs)⟩
theorem zH (h:J P n X (zTA P y Q) (.ops l.toArray l) S Ls F m): J P n X Q (.code (.seq (.region id l.toArray false) y)) S Ls F m:=h.of zTA.np fun _ _ _ h=>wp_seq (reg h)
theorem vG (h:J P n X Q (.ops l.toArray l) S Ls F m): J P n X Q (.code (.region id l.toArray false)) S Ls F m:=h.of (fun h=>h) fun _ _ _ h=>reg h
theorem zK (h:J P n X Q (.code y) S Ls F m): J P n X (zTA P y Q) (.ops os []) S Ls F m :=
 ⟨fun hq r hm a w hs=>show wpList P os (Exit.then (y.wp P (Q r)) (Q r)) [] a w from z6u (h.go (fun r c a w=>hq r c a w) r hm a w hs)⟩
theorem wK (h:J P n X Q (.ex .normal) S Ls F m): J P n X Q (.ops os []) S Ls F m:=⟨fun hq r hm a w hs=>show wpList P os (Q r) [] a w from z6u (h.go hq r hm a w hs)⟩
theorem qK (h:J P n X Q (.code y) S Ls F m): J P n X (zTA P y Q) (.ex .normal) S Ls F m :=
 ⟨fun hq r hm a w hs=>h.go (fun r c a w=>hq r c a w) r hm a w hs⟩
theorem yR (h:J P n X Q (.ex (.exit id)) S Ls F m): J P n X (zTA P y Q) (.ex (.exit id)) S Ls F m :=
 ⟨fun hq r hm a w hs=>h.go (fun r c a w=>hq r c a w) r hm a w hs⟩
theorem vD (h:J P n X Q (.ex .ret) S Ls F m): J P n X (zTA P y Q) (.ex .ret) S Ls F m :=
 ⟨fun hq r hm a w hs=>h.go (fun r c a w=>hq r c a w) r hm a w hs⟩
theorem zQ (h:J P n X (zTA P y Q) (.code x) S Ls F m): J P n X Q (.code (.seq x y)) S Ls F m:=h.of zTA.np fun _ _ _ h=>wp_seq h
theorem yA (h:J P n X Q (.ex .normal) S Ls F m): J P n X Q (.code .skip) S Ls F m:=h.of (fun h=>h) fun _ _ _ h=>wp_skip h
theorem jss (h:J P n X Q (.code y) S Ls F m): J P n X Q (.code (.seq .skip y)) S Ls F m:=h.of (fun h=>h) fun _ _ _ h=>wp_seq (wp_skip (then_n h))
theorem jst (h:J P n X Q (.code y) S Ls F m): J P n X (zTA P y Q) (.code .skip) S Ls F m:=yA (qK h)
theorem jlb{s:Nat}(h:J P n X Q (.ex .normal) S Ls F m): J P n X Q (.code (.label s)) S Ls F m:=h.of (fun h=>h) fun _ _ _ h=>wp_label h
theorem zX (h:J P n X (inQ id Q) (.code x) S Ls F m): J P n X Q (.code (.block id x)) S Ls F m:=h.of inQ.np fun _ _ _ h=>wp_block h
theorem vM (h:J P n X Q (.ex .normal) S Ls F m): J P n X (inQ id Q) (.ex .normal) S Ls F m:=⟨fun hq r hm a w hs=>h.go (fun r c a w=>hq r c a w) r hm a w hs⟩
theorem yZ (h:J P n X Q (.ex .normal) S Ls F m): J P n X (inQ id Q) (.ex (.exit id)) S Ls F m:=⟨fun hq r hm a w hs=>show Exit.inBlock id (Q r) (.exit id) a w from inb_hit (h.go (fun r c a w=>hq r c a w) r hm a w hs)⟩
theorem jbm{id':Nat}(h:J P n X Q (.ex (.exit id')) S Ls F m)(hne:Nat.beq id' id=false:=by rfl): J P n X (inQ id Q) (.ex (.exit id')) S Ls F m:=⟨fun hq r hm a w hs=>show Exit.inBlock id (Q r) (.exit id') a w from z9A hne (h.go (fun r c a w=>hq r c a w) r hm a w hs)⟩
theorem xK (h:J P n X Q (.ex .ret) S Ls F m): J P n X (inQ id Q) (.ex .ret) S Ls F m:=⟨fun hq r hm a w hs=>h.go (fun r c a w=>hq r c a w) r hm a w hs⟩
theorem jcs (h:J P n X (scQ Q) (.code x) S Ls F m): J P n X Q (.code (.scope x)) S Ls F m:=h.of scQ.np fun _ _ _ h=>wp_scope_straight h
theorem jcn (h:J P n X Q (.ex .normal) S Ls F m): J P n X (scQ Q) (.ex .normal) S Ls F m:=⟨fun hq r hm a w hs=>h.go (fun r c a w=>hq r c a w) r hm a w hs⟩
theorem jce (h:J P n X Q (.ex (.exit id)) S Ls F m): J P n X (scQ Q) (.ex (.exit id)) S Ls F m:=⟨fun hq r hm a w hs=>h.go (fun r c a w=>hq r c a w) r hm a w hs⟩
theorem jcr (h:J P n X Q (.ex .ret) S Ls F m): J P n X (scQ Q) (.ex .ret) S Ls F m:=⟨fun hq r hm a w hs=>h.go (fun r c a w=>hq r c a w) r hm a w hs⟩
theorem uA (h:J P n X Q (.ex (.exit id)) S Ls F m): J P n X Q (.code (.exit id)) S Ls F m:=h.of (fun h=>h) fun _ _ _ h=>wp_exit h
theorem qO (h:J P n X Q (.ex .ret) S Ls F m): J P n X Q (.code .ret) S Ls F m:=h.of (fun h=>h) fun _ _ _ h=>wp_ret h
theorem zS{c:Operand}{b:Bool}(hc:zL S c=some (.bool b))(hx:J P n X Q (.code x) S Ls F m1)(hy:J P n X Q (.code y) S Ls F m2): J P n X Q (.code (.cond c x y)) S Ls F (if b=true then m1 else m2) :=
 ⟨fun hq r hm a w hs=>z1k hs.s hc (fun hb=>hx.go hq r (ifT hb hm) a w hs) (fun hb=>hy.go hq r (ifF hb hm) a w hs)⟩
theorem jct{c:Operand}(hc:zL S c=some (.bool true))(hx:J P n X Q (.code x) S Ls F m): J P n X Q (.code (.cond c x y)) S Ls F m :=
 ⟨fun hq r hm a w hs=>z1k hs.s hc (fun _=>hx.go hq r hm a w hs) (fun hb=>by cases hb)⟩
theorem jcf{c:Operand}(hc:zL S c=some (.bool false))(hy:J P n X Q (.code y) S Ls F m): J P n X Q (.code (.cond c x y)) S Ls F m :=
 ⟨fun hq r hm a w hs=>z1k hs.s hc (fun hb=>by cases hb) (fun _=>hy.go hq r hm a w hs)⟩
theorem jnl{τ:Type}{e:E τ}{p:Option Addr}{c0 k:Nat}{l:List τ}{c:Operand}(hc:zL S c=some (.bool p.isNone))(g:wL Ls F (R e p c0 k l))(hl:l=[]->m1=m)
  (hx:J P n X Q (.code x) S Ls F m1) (hy:J P n X Q (.code y) S Ls F m):J P n X Q (.code (.cond c x y)) S Ls F m :=
 ⟨fun hq r hm a w hs=>z1k hs.s hc (fun hb=>hx.go hq r ((hl (R.isNil (g _ _ hs.o hs.f) hb)).trans hm) a w hs) (fun _=>hy.go hq r hm a w hs)⟩
theorem yH{s:σ}{I:σ->xL->Prop}(g:Gv Ls S F (I s)): J P n X (lpQ X n I Q) (.ex .normal) S Ls F (some (.inl s)) :=
 ⟨fun _ r hm a w hs=>by cases hm;exact g.go hs⟩
theorem yY{r:ρ}{I:σ->xL->Prop}(h:J P n X Q (.ex (.exit id)) S Ls F (some r)): J P n X (lpQ X n I Q) (.ex (.exit id)) S Ls F (some (.inr r)) :=
 ⟨fun hq o hm a w hs=>by cases hm;exact h.go (fun r c a w hh=>hq (.inr r) c a w hh) r rfl a w hs⟩
theorem jlr{r:ρ}{I:σ->xL->Prop}(h:J P n X Q (.ex .ret) S Ls F (some r)): J P n X (lpQ X n I Q) (.ex .ret) S Ls F (some (.inr r)) :=
 ⟨fun hq o hm a w hs=>by cases hm;exact h.go (fun r c a w hh=>hq (.inr r) c a w hh) r rfl a w hs⟩
theorem qI{s:σ}{I:σ->xL->Prop}(g:Gv Ls S F (I s)): J P n X (jnQ X n I) (.ex .normal) S Ls F (some s) :=
 ⟨fun _ r hm a w hs=>by cases hm;exact g.go hs⟩
theorem jlp{ρ σ:Type}{Q:PQ ρ}{B:σ->Option (σ⊕ρ)}{s0:σ}{c:Code}(I:σ->xL->Prop)(g:Gv Ls S F (I s0))
  (hb:∀ s K,(∀ {S L F},J P n X (lpQ X n I Q) (.code c) S L F (B s)->K S L F)->I s K):J P n X Q (.code (.loop c)) S Ls F (zO B s0):=by
 refine⟨fun hq r hm a w hs=>?_⟩
 refine loop_m (fun s a w=>Ex (I s) fun S L F=>SS qd X.A X.L0 X.w0 n S L F a w) hm (g.go hs) fun s a w o hI hB hr=>?_
 refine hI _ (hb s _ fun {S L F} hj hs=>?_)
 refine wp_mono (hj.go (lpQ.np hq) o hB a w hs) fun e a w h=>?_
 cases o with
 | inl s'=>cases e <;> first | exact⟨s',rfl,h⟩ | exact h.elim
 | inr r' =>
  cases hr r' rfl
  cases e <;> first | exact h.elim | exact h
theorem jjn{σ ρ:Type}{Q:PQ ρ}{m1:Option σ}{f:σ->Option ρ}(I:σ->xL->Prop)(hx:J P n X (jnQ X n I) (.code x) S Ls F m1)
  (hy:∀ s K,(∀ {S L F},J P n X Q (.code y) S L F (f s)->K S L F)->I s K):J P n X Q (.code (.seq x y)) S Ls F (m1.bind f):=by
 refine⟨fun hq r hm a w hs=>?_⟩
 obtain⟨s,h1,h2⟩:=uS hm
 refine seq_j (fun a w=>Ex (I s) fun S L F=>SS qd X.A X.L0 X.w0 n S L F a w) (wp_mono (hx.go jnQ.np s h1 a w hs) fun e a w h=>?_) fun a w hI=>hI _ (hy s _ fun {S L F} hj hs=>hj.go hq r h2 a w hs)
 cases e <;> first | exact h | exact h.elim
theorem jjo{σ ρ:Type}{Q:PQ ρ}{m1:Option (σ⊕ρ)}{f:σ->Option ρ}(I:σ->xL->Prop)(hx:J P n X (lpQ X n I Q) (.code x) S Ls F m1)
  (hy:∀ s K,(∀ {S L F},J P n X Q (.code y) S L F (f s)->K S L F)->I s K):J P n X Q (.code (.seq x y)) S Ls F (vK m1 f):=by
 refine⟨fun hq r hm a w hs=>?_⟩
 obtain⟨o,h1,h2⟩:=uS hm
 refine seq_j (fun a w=>∃ s,o=.inl s∧Ex (I s) fun S L F=>SS qd X.A X.L0 X.w0 n S L F a w) (wp_mono (hx.go (lpQ.np hq) o h1 a w hs) fun e a w h=>?_) fun a w hI=>?_
 ·cases o with
  | inl s=>cases e <;> first | exact⟨s,rfl,h⟩ | exact h.elim
  | inr r' =>
   cases h2
   cases e <;> first | exact h.elim | exact h
 ·obtain⟨s,rfl,hI⟩:=hI
  exact hI _ (hy s _ fun {S L F} hj hs=>hj.go hq r h2 a w hs)
theorem jjc{σ ρ:Type}{Q:PQ ρ}{m1:Option σ}{f:σ->Option ρ}(I:σ->xL->Prop)(hx:J P n X (jnQ X n I) (.code x) S Ls F m1)
  (hy:∀ s K,(∀ {S L F},J P n X Q (.ex .normal) S L F (f s)->K S L F)->I s K):J P n X Q (.code x) S Ls F (m1.bind f):=by
 refine⟨fun hq r hm a w hs=>?_⟩
 obtain⟨s,h1,h2⟩:=uS hm
 refine code_j (fun a w=>Ex (I s) fun S L F=>SS qd X.A X.L0 X.w0 n S L F a w) (wp_mono (hx.go jnQ.np s h1 a w hs) fun e a w h=>?_) fun a w hI=>hI _ (hy s _ fun {S L F} hj hs=>hj.go hq r h2 a w hs)
 cases e <;> first | exact h | exact h.elim
theorem jjp (I:xL->Prop)(hx:J P n X (jnQ X n fun _:Unit=>I) (.code x) S Ls F (some ()))
  (hy:∀ K:xL,(∀ {S L F},J P n X Q (.code y) S L F m->K S L F)->I K):J P n X Q (.code (.seq x y)) S Ls F m:=by
 refine⟨fun hq r hm a w hs=>?_⟩
 refine seq_j (fun a w=>Ex I fun S L F=>SS qd X.A X.L0 X.w0 n S L F a w) (wp_mono (hx.go jnQ.np () rfl a w hs) fun e a w h=>?_) fun a w hI=>hI _ (hy _ fun {S L F} hj hs=>hj.go hq r hm a w hs)
 cases e <;> first | exact h | exact h.elim
theorem jjq (I:xL->Prop)(hx:J P n X (jnQ X n fun _:Unit=>I) (.code x) S Ls F (some ()))
  (hy:∀ K:xL,(∀ {S L F},J P n X Q (.ex .normal) S L F m->K S L F)->I K):J P n X Q (.code x) S Ls F m:=by
 refine⟨fun hq r hm a w hs=>?_⟩
 refine code_j (fun a w=>Ex I fun S L F=>SS qd X.A X.L0 X.w0 n S L F a w) (wp_mono (hx.go jnQ.np () rfl a w hs) fun e a w h=>?_) fun a w hI=>hI _ (hy _ fun {S L F} hj hs=>hj.go hq r hm a w hs)
 cases e <;> first | exact h | exact h.elim
theorem tI{p:uH}{b:Bool}(t:Nat)(hl:vE S t=some (.bool b))(h1:J P n X Q p ((t,.bool true)::S) Ls F m1)(h2:J P n X Q p ((t,.bool false)::S) Ls F m2): J P n X Q p S Ls F (if b=true then m1 else m2) :=
 ⟨fun hq r hm a w hs=>by
  cases b with
  | true=>exact h1.go hq r hm a w (hs.upd _ hl rfl)
  | false=>exact h2.go hq r hm a w (hs.upd _ hl rfl)⟩
theorem tO{p:uH}{b:Bool}(t:Nat)(hl:vE S t=some (.bool b))(h1:b=true->J P n X Q p ((t,.bool true)::S) Ls F m)(h2:b=false->J P n X Q p ((t,.bool false)::S) Ls F m): J P n X Q p S Ls F m :=
 ⟨fun hq r hm a w hs=>by
  cases b with
  | true=>exact(h1 rfl).go hq r hm a w (hs.upd _ hl rfl)
  | false=>exact(h2 rfl).go hq r hm a w (hs.upd _ hl rfl)⟩
theorem uD{p:uH}{v:Value}(t:Nat)(v':Value)(hl:vE S t=some v)(e:v=v')(h:J P n X Q p ((t,v')::S) Ls F m): J P n X Q p S Ls F m :=
 ⟨fun hq r hm a w hs=>h.go hq r hm a w (hs.upd v' hl e)⟩
theorem xQ{p:uH}{m1:Option σ}{f:σ->Option ρ}(h:∀ x,m1=some x->J P n X Q p S Ls F (f x)): J P n X Q p S Ls F (m1.bind f) :=
 ⟨fun hq r hm a w hs=>by obtain⟨x,h1,h2⟩:=uS hm;exact(h x h1).go hq r h2 a w hs⟩
theorem jno{p:uH}: J P n X Q p S Ls F (none:Option ρ):=⟨fun _ _ hm=>by cases hm⟩
section
variable {τ:Type}{e:E τ}{te:TypeId}{r:zJ}{p0:Option Addr}{c k:Nat}{z:List τ}{p:uH}
theorem jre (q t:Nat)(hF:yE F q=R e p0 c k z)(hl:vE S t=some (.slice p0 k c))(h:J P n X Q p ((t,sv p0 z c)::S) Ls (Rl e p0 c z::F) m): J P n X Q p S Ls F m :=
 ⟨fun hq r hm a w hs=>by
  have hf:(R e p0 c k z).h (bl Ls++X.A) w:=hF▸hs.g q
  exact h.go hq r hm a w ((hs.upd (sv p0 z c) hl (congrArg (fun q:Nat=>Value.slice p0 q c) (R.ln hf))).add (R.re hf))⟩
theorem jrE (q t:Nat)(hF:yE F q=Ar e te r p0 c k z)(hl:vE S t=some (.slice p0 k c))(h:J P n X Q p ((t,sv p0 z c)::S) Ls (Al e te r p0 c z::F) m): J P n X Q p S Ls F m :=
 ⟨fun hq r0 hm a w hs=>by
  have hf:(Ar e te r p0 c k z).h (bl Ls++X.A) w:=hF▸hs.g q
  exact h.go hq r0 hm a w ((hs.upd (sv p0 z c) hl (congrArg (fun q:Nat=>Value.slice p0 q c) (Ar.ln hf))).add (Ar.re hf))⟩
theorem jbL (L':Nat->List zJ)(g:wL Ls F (Ar e te r p0 c k z))(hL:L' k=Ls)(h:J P n X Q p S (L' z.length) (Al e te r p0 c z::F) m): J P n X Q p S Ls F m:=by
 refine⟨fun hq r0 hm a w hs=>?_⟩
 have hf:=g _ _ hs.o hs.f
 have e1:L' z.length=Ls:=by rw[←hL,Ar.ln hf]
 rw[e1] at h
 exact h.go hq r0 hm a w (hs.add (Ar.re hf))
end
end
def nths (F:List PP): List Nat->List PP
 | []=>[]
 | i::is=>yE F i::nths F is
section
variable {Ls:List zJ}{F:List PP}{js ls:List Nat}
theorem gq:∀(is:List Nat),xE (wL Ls F) (nths F is)
 | []=>trivial
 | i::is=>⟨gk i,gq is⟩
theorem cq:∀(is:List Nat),xE (OKc Ls F js ls) (nths F is)
 | []=>trivial
 | i::is=>⟨ck i,cq is⟩
end
def lookP:Sl->Nat->(Value->Prop)->Prop
 | [],_,_=>False
 | (i,v)::r,j,k=>bif Nat.beq i j then k v else lookP r j k
def selSC (S:Sl): List Nat->Sl->(Sl->Prop)->Prop
 | [],S1,k=>k S1
 | d::ds,S1,k=>lookP S d fun v=>selSC S ds ((d,v)::S1) k
def nthP:List PP->Nat->(PP->Prop)->Prop
 | [],_,_=>False
 | f::_,0,k=>k f
 | _::r,i+1,k=>nthP r i k
def selFC (F:List PP): List Nat->(List PP->Prop)->Prop
 | [],k=>k []
 | i::is,k=>nthP F i fun f=>selFC F is fun F'=>k (f::F')
def putR:List zJ->Nat->zJ->(List zJ->Prop)->Prop
 | [],0,r,k=>k [r]
 | [],i+1,r,k=>putR [] i r fun l=>k ([]::l)
 | _::l,0,r,k=>k (r::l)
 | a::l,i+1,r,k=>putR l i r fun l'=>k (a::l')
def updC:List zJ->List (Nat×zJ)->(List zJ->Prop)->Prop
 | L,[],k=>k L
 | L,(i,r)::us,k=>putR L i r fun L'=>updC L' us k
abbrev KP:=List Nat->List (Nat×zJ)->List Nat->Sl->List PP->Prop
def kp (S:Sl)(L:List zJ)(F:List PP)(K:xL): KP:=fun ks us fs S1 F1=>selSC S ks S1 fun S'=>updC L us fun L'=>selFC F fs fun F'=>appC F1 F' fun F2=>K S' L' F2
section
variable {P:Program}{n:Nat}{X:Hd qd}{ρ σ:Type}{Q:PQ ρ}{S:Sl}{Ls:List zJ}{F:List PP}{m m1 m2:Option ρ}{x y:Code}
theorem wD{B:σ->Option (σ⊕ρ)}{s0:σ}{c:Code}(I:σ->KP->Prop)(g:Gv Ls S F (fun K=>I s0 (kp S Ls F K)))
  (hb:∀ s K,(∀ {S' L' F'},J P n X (lpQ X n (fun s K=>I s (kp S Ls F K)) Q) (.code c) S' L' F' (B s)->K S' L' F')->I s (kp S Ls F K)):J P n X Q (.code (.loop c)) S Ls F (zO B s0):=jlp (fun s K=>I s (kp S Ls F K)) g hb
theorem wC{m1:Option σ}{f:σ->Option ρ}(I:σ->KP->Prop)(hx:J P n X (jnQ X n fun s K=>I s (kp S Ls F K)) (.code x) S Ls F m1)
  (hy:∀ s K,(∀ {S' L' F'},J P n X Q (.code y) S' L' F' (f s)->K S' L' F')->I s (kp S Ls F K)):J P n X Q (.code (.seq x y)) S Ls F (m1.bind f):=jjn (fun s K=>I s (kp S Ls F K)) hx hy
theorem jjoK{m1:Option (σ⊕ρ)}{f:σ->Option ρ}(I:σ->KP->Prop)(hx:J P n X (lpQ X n (fun s K=>I s (kp S Ls F K)) Q) (.code x) S Ls F m1)
  (hy:∀ s K,(∀ {S' L' F'},J P n X Q (.code y) S' L' F' (f s)->K S' L' F')->I s (kp S Ls F K)):J P n X Q (.code (.seq x y)) S Ls F (vK m1 f):=jjo (fun s K=>I s (kp S Ls F K)) hx hy
theorem jjcK{m1:Option σ}{f:σ->Option ρ}(I:σ->KP->Prop)(hx:J P n X (jnQ X n fun s K=>I s (kp S Ls F K)) (.code x) S Ls F m1)
  (hy:∀ s K,(∀ {S' L' F'},J P n X Q (.ex .normal) S' L' F' (f s)->K S' L' F')->I s (kp S Ls F K)):J P n X Q (.code x) S Ls F (m1.bind f):=jjc (fun s K=>I s (kp S Ls F K)) hx hy
theorem z5h (I:KP->Prop)(hx:J P n X (jnQ X n fun(_:Unit) K=>I (kp S Ls F K)) (.code x) S Ls F (some ()))
  (hy:∀ K:xL,(∀ {S' L' F'},J P n X Q (.code y) S' L' F' m->K S' L' F')->I (kp S Ls F K)):J P n X Q (.code (.seq x y)) S Ls F m:=jjp (fun K=>I (kp S Ls F K)) hx hy
theorem jjqK (I:KP->Prop)(hx:J P n X (jnQ X n fun(_:Unit) K=>I (kp S Ls F K)) (.code x) S Ls F (some ()))
  (hy:∀ K:xL,(∀ {S' L' F'},J P n X Q (.ex .normal) S' L' F' m->K S' L' F')->I (kp S Ls F K)):J P n X Q (.code x) S Ls F m:=jjq (fun K=>I (kp S Ls F K)) hx hy
end
end Go.GD
