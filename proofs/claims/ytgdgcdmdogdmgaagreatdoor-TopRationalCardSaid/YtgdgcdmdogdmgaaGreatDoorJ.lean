/- A part. Conditions: none. -/
import Derived.Test.YtgdgcdmdogdmgaaGreatDoorMap
import Derived.Test.YtgdgcdmdogdmgaaGreatDoorCopy
namespace Go.GD
open Go Go.RowKit
set_option autoImplicit false
theorem u{α:Sort _}{a:α}: a=a:=rfl
theorem d:True:=⟨⟩
theorem kk{α:Sort _}{Q:α->Prop}: ∀ K,Q K->Q K:=fun _ k=>k
variable {qd:Prop}
abbrev sv{τ:Type}(p:Option Addr)(l:List τ)(c:Nat): Value:=.slice p (List.length l) c
abbrev Rl{τ:Type}(e:E τ)(p:Option Addr)(c:Nat)(l:List τ): PP:=R e p c (List.length l) l
abbrev Al{τ:Type}(e:E τ)(te:TypeId)(r:zG)(p:Option Addr)(c:Nat)(l:List τ): PP:=Ar e te r p c (List.length l) l
abbrev pt (b o:Nat): Value:=.pointer (some ⟨b,o,none⟩)
abbrev Sl:=List (Nat×Value)
abbrev PQ (ρ:Type):= ρ->Exit->Act->World->Prop
structure Hd (qd:Prop) where
 A:List Nat
 L0:List zG
 w0:World
def NP{ρ:Type}(Q:PQ ρ): Prop:=∀ r c a w,Q r (.panic c) a w->False
inductive yO
 | code (c:Code)
 | ops (os:Array Oper) (l:List Oper)
 | dr (os:Array Oper) (B J:List Nat) (fuel:Nat) (li:Array Bool)
 | fo (i:Nat) (os:Array Oper) (B J:List Nat) (fuel:Nat) (li:Array Bool)
 | af (L0:List zG) (os:Array Oper) (B J:List Nat) (fuel:Nat) (li:Array Bool)
 | ex (e:Exit)
def yO.go (qd:Prop)(P:Program)(A:List Nat)(Ls:List zG)(Q:Exit->Act->World->Prop)(a:Act)(w:World): yO->Prop
 | .code c=>c.wp P Q a w
 | .ops os l=>wpList P os Q l a w
 | .dr os B J f li=>qT P os Q (SB B (CC qd A Ls w J)) f li a w
 | .fo i os B J f li=>∃ o,os[i]?=some o∧wH P os Q o (fun a' w'=>SB B (CC qd A Ls w J) (li.setIfInBounds i true) w'∧qT P os Q (SB B (CC qd A Ls w J)) f (li.setIfInBounds i true) a' w') a w
 | .af L0 os B J f li=>∀ w0,zT qd L0 w0 Ls w->SB B (CC qd A L0 w0 J) li w∧qT P os Q (SB B (CC qd A L0 w0 J)) f li a w
 | .ex e=>Q e a w
structure J (P:Program)(n:Nat)(X:Hd qd){ρ:Type}(Q:PQ ρ)(p:yO)(S:Sl)(Ls:List zG)(F:List PP)(m:Option ρ): Prop where
 go:NP Q->∀ r,m=some r->∀ a w,SS qd X.A X.L0 X.w0 n S Ls F a w->p.go qd P X.A Ls (Q r) a w
def zM5{α:Type}: List α->α->(List α->Prop)->Prop
 | [],r,k=>k [r]
 | a::l,r,k=>zM5 l r fun l'=>k (a::l')
theorem zJS{α:Type}: ∀ {l:List α} {r:α} {k:List α->Prop},zM5 l r k=k (l++[r])
 | [],_,_=>rfl
 | a::l,r,k=>by simp only[zM5,zJS,UP]
def appC{α:Type}: List α->List α->(List α->Prop)->Prop
 | [],l,k=>k l
 | a::m,l,k=>appC m l fun l'=>k (a::l')
theorem z3I{α:Type}: ∀ {m l:List α} {k:List α->Prop},appC m l k=k (m++l)
 | [],_,_=>rfl
 | a::m,l,k=>by simp only[appC,z3I,UP]
def uE{α:Type}: List α->Nat->α->(List α->Prop)->Prop
 | [],_,_,k=>k []
 | _::l,0,r,k=>k (r::l)
 | a::l,i+1,r,k=>uE l i r fun l'=>k (a::l')
theorem zH7{α:Type}: ∀ {l:List α} {i:Nat} {r:α} {k:List α->Prop},uE l i r k=k (l.set i r)
 | [],_,_,_=>rfl
 | _::_,0,_,_=>rfl
 | a::l,i+1,r,k=>by simp only[uE,zH7,List.set_cons_succ]
def z2F:List Nat->List zG->List zG->(List zG->Prop)->Prop
 | [],L1,Ls,k=>match L1 with
  | []=>k Ls
  | _::_=>appC Ls L1 k
 | _::_,[],_,_=>False
 | j::js,r::L1,Ls,k=>uE Ls j r fun Ls'=>z2F js L1 Ls' k
theorem zTx:∀ {js:List Nat} {L1 Ls:List zG} {k:List zG->Prop},z2F js L1 Ls k->Nat.ble js.length L1.length=true∧k (zXf js (L1.take js.length) Ls++L1.drop js.length)
 | [],L1,Ls,k,h=>by
  refine⟨by simp,?_⟩
  cases L1 with
  | nil=>simpa [z2F,zXf] using h
  | cons r L1=>simpa [z2F,z3I,zXf] using h
 | j::js,[],Ls,k,h=>h.elim
 | j::js,r::L1,Ls,k,h=>by
  simp only[z2F,zH7] at h
  obtain⟨h1,h2⟩:=zTx h
  refine⟨by simp_all,?_⟩
  simpa [zXf] using h2
section
variable {β:Type}
def z5w:Sl->Nat->(Value->Option β)->Option β
 | [],_,_=>none
 | (i,v)::r,j,k=>bif Nat.beq i j then k v else z5w r j k
theorem zZ3:∀ {S:Sl} {j:Nat} {k:Value->Option β},z5w S j k=(wT S j).bind k
 | [],_,_=>rfl
 | (i,v)::r,j,k=>by
  simp only[z5w,wT]
  cases Nat.beq i j with
  | true=>rfl
  | false=>exact zZ3
def zYM (S:Sl)(x:Operand)(k:Value->Option β): Option β:=match x with
 | .tmp t=>z5w S t k
 | .const v=>k v
 | .func f=>k (.func (.func f) #[] #[])
 | .global g=>k (.pointer (some ⟨g,0,none⟩))
theorem zKL{S:Sl}{x:Operand}{k:Value->Option β}: zYM S x k=(zK S x).bind k:=by
 cases x <;> simp[zYM,zK,zZ3]
def z6m (S:Sl): List Operand->(List Value->Option β)->Option β
 | [],k=>k []
 | x::r,k=>zYM S x fun v=>z6m S r fun vs=>k (v::vs)
theorem z3o{S:Sl}: ∀ {xs:List Operand} {k:List Value->Option β},z6m S xs k=(z3W S xs).bind k
 | [],_=>rfl
 | x::r,k=>by
  simp only[z6m,z3W,zKL,z3o]
  cases zK S x with
  | none=>rfl
  | some v=>cases z3W S r <;> rfl
def intC (op:BinOp)(k:IntKind)(a b:Int)(kk:Value->Option β): Option β :=
 match op with
 | .add=>kk (.int k (k.wrap (a+b)))
 | .sub=>kk (.int k (k.wrap (a-b)))
 | .mul=>kk (.int k (k.wrap (a*b)))
 | .and=>kk (.int k (vA k a b))
 | .or=>kk (.int k (bor k a b))
 | .xor=>kk (.int k (bxor k a b))
 | .andNot=>kk (.int k (zNV k a b))
 | .eql=>kk (.bool (a==b))
 | .neq=>kk (.bool (a != b))
 | .lss=>kk (.bool (decide (a<b)))
 | .leq=>kk (.bool (decide (a≤b)))
 | .gtr=>kk (.bool (decide (b<a)))
 | .geq=>kk (.bool (decide (b≤a)))
 | _=>none
theorem intC_eq{op:BinOp}{k:IntKind}{a b:Int}{kk:Value->Option β}: intC op k a b kk=(z4H op k a b).bind kk:=by cases op <;> rfl
def strC (op:BinOp)(a b:zD)(kk:Value->Option β): Option β :=
 match op with
 | .eql=>kk (.bool (a==b))
 | .neq=>kk (.bool (!(a==b)))
 | .lss=>kk (.bool (uV a b))
 | .leq=>kk (.bool (uV a b||a==b))
 | .gtr=>kk (.bool (!(uV a b||a==b)))
 | .geq=>kk (.bool (!(uV a b)))
 | _=>none
theorem strC_eq{op:BinOp}{a b:zD}{kk:Value->Option β}: strC op a b kk=(z3i op a b).bind kk:=by cases op <;> rfl
def kindC (k k':IntKind)(x:Option β): Option β:=match k,k' with
 | .i8,.i8 | .i16,.i16 | .i32,.i32 | .i64,.i64 | .u8,.u8 | .u16,.u16 | .u32,.u32 | .u64,.u64=>x
 | _,_=>none
theorem z4z{k k':IntKind}{x:Option β}{r:β}(h:kindC k k' x=some r): k=k'∧x=some r:=by
 cases k <;> cases k' <;> first | exact⟨rfl,h⟩ | cases h
def binC (op:BinOp)(u v:Value)(kk:Value->Option β): Option β:=match u,v with
 | .int k a,.int k' b=>kindC k k' (intC op k a b kk)
 | .string ⟨⟨a⟩⟩,.string ⟨⟨b⟩⟩=>strC op a b kk
 | _,_=>none
def lenC (u:Value)(kk:Bool->Value->Option β): Option β:=match u with
 | .string ⟨⟨s⟩⟩=>kk true (vi (len s))
 | .slice _ n _=>kk false (vi (n:Int))
 | _=>none
abbrev Ob:=TypeId×Bool
def zXg (P:Program): List Ob->Bool
 | []=>true
 | (t,true)::r=>(match P.underlying t with | some .string=>true | _=>false)&&zXg P r
 | (t,false)::r=>(match P.underlying t with | some (.slice _)=>true | _=>false)&&zXg P r
def pvC (S:Sl)(op:Op)(ob:List Ob)(kk:List Ob->Value->Option β): Option β:=match op with
 | .move x=>zYM S x (kk ob)
 | .assign x=>zYM S x (kk ob)
 | .binOp op _ x y _=>zYM S x fun u=>zYM S y fun v=>binC op u v (kk ob)
 | .unOp .not _ x=>zYM S x fun u=>match u with
  | .bool b=>kk ob (.bool (!b))
  | _=>none
 | .unOp .neg _ x=>zYM S x fun u=>match u with
  | .int k n=>kk ob (.int k (k.wrap (0-n)))
  | _=>none
 | .extract x i=>zYM S x fun u=>match u with
  | .tuple ⟨vs⟩=>match vs[i]? with
   | some v=>kk ob v
   | none=>none
  | _=>none
 | .nilCheck x=>zYM S x fun u=>match u with
  | .pointer (some a)=>kk ob (.pointer (some a))
  | _=>none
 | .makeFunc fn x y=>z6m S x.toList fun us=>z6m S y.toList fun vs=>kk ob (.func fn us.toArray vs.toArray)
 | .call c=>match c.callee,c.args,c.argTypes with
  | .builtin .len,⟨[x]⟩,⟨[t]⟩=>zYM S x fun u=>lenC u fun b v=>kk ((t,b)::ob) v
  | .builtin .min,⟨[x,y]⟩,_=>zYM S x fun u=>zYM S y fun v=>match u,v with
   | .int k a,.int _ b=>kk ob (.int k (if b<a then b else a))
   | _,_=>none
  | .builtin .max,⟨[x,y]⟩,_=>zYM S x fun u=>zYM S y fun v=>match u,v with
   | .int k a,.int _ b=>kk ob (.int k (if b > a then b else a))
   | _,_=>none
  | _,_,_=>none
 | _=>none
theorem zCI{α γ:Type}{o:Option α}{k:α->Option γ}{r:γ}(h:o.bind k=some r): ∃ x,o=some x∧k x=some r:=by
 cases o with
 | none=>cases h
 | some x=>grind
theorem z6j{P:Program}{op:BinOp}{t ty:TypeId}{x y:Operand}{S:Sl}{u v:Value}{kk:Value->Option β}{r:β}(hx:zK S x=some u)(hy:zK S y=some v)(h:binC op u v kk=some r):
  ∃ z,pv P S (.binOp op t x y ty)=some z∧kk z=some r:=by
 unfold binC at h
 split at h
 ·grind [z4z,intC_eq,pv]
 ·rename_i a b
  rw[strC_eq] at h
  obtain⟨z,h1,h2⟩:=zCI h
  grind [pv]
 ·cases h
theorem zZa{P:Program}{S:Sl}{op:Op}{ob:List Ob}{kk:List Ob->Value->Option β}{r:β}(h:pvC S op ob kk=some r):
  ∃ ob' v,kk ob' v=some r∧(zXg P ob'=true->pv P S op=some v∧zXg P ob=true):=by
 cases op with
 | move x=>simp only[pvC,zKL] at h;obtain⟨v,h1,h2⟩:=zCI h;exact⟨ob,v,h2,fun h=>⟨h1,h⟩⟩
 | assign x=>simp only[pvC,zKL] at h;obtain⟨v,h1,h2⟩:=zCI h;exact⟨ob,v,h2,fun h=>⟨h1,h⟩⟩
 | binOp op t x y ty =>
  simp only[pvC,zKL] at h
  obtain⟨u,hx,h⟩:=zCI h
  obtain⟨v,hy,h⟩:=zCI h
  obtain⟨z,h1,h2⟩:=z6j (P:=P) (t:=t) (ty:=ty) hx hy h
  grind
 | unOp op t x =>
  cases op with
  | not =>
   simp only[pvC,zKL] at h
   obtain⟨u,hx,h⟩:=zCI h
   split at h
   ·exact⟨ob,_,h,fun h=>⟨by simp[pv,hx],h⟩⟩
   ·cases h
  | neg =>
   simp only[pvC,zKL] at h
   obtain⟨u,hx,h⟩:=zCI h
   split at h
   ·exact⟨ob,_,h,fun h=>⟨by simp[pv,hx],h⟩⟩
   ·cases h
  | _=>simp[pvC] at h
 | extract x i =>
  simp only[pvC,zKL] at h
  obtain⟨u,hx,h⟩:=zCI h
  split at h
  ·split at h
   ·rename_i v hv
    exact⟨ob,v,h,fun h=>⟨by simp[pv,hx,hv],h⟩⟩
   ·cases h
  ·cases h
 | nilCheck x =>
  simp only[pvC,zKL] at h
  obtain⟨u,hx,h⟩:=zCI h
  split at h
  ·exact⟨ob,_,h,fun h=>⟨by simp[pv,hx],h⟩⟩
  ·cases h
 | makeFunc fn x y =>
  simp only[pvC,z3o] at h
  obtain⟨us,hx,h⟩:=zCI h
  obtain⟨vs,hy,h⟩:=zCI h
  exact⟨ob,_,h,fun h=>⟨by simp[pv,hx,hy],h⟩⟩
 | call c =>
  obtain⟨cal,args,ats⟩:=c
  simp only[pvC] at h
  split at h
  ·rename_i x t
   simp only[zKL] at h
   obtain⟨u,hx,h⟩:=zCI h
   unfold lenC at h
   split at h
   ·refine⟨_,_,h,fun h=>?_⟩
    simp only[zXg,Qo] at h
    grind [pv]
   ·refine⟨_,_,h,fun h=>?_⟩
    simp only[zXg,Qo] at h
    grind [pv]
   ·cases h
  ·simp only[zKL] at h
   obtain⟨u,hx,h⟩:=zCI h
   obtain⟨v,hy,h⟩:=zCI h
   split at h
   ·exact⟨ob,_,h,fun h=>⟨by simp[pv,hx,hy],h⟩⟩
   ·cases h
  ·simp only[zKL] at h
   obtain⟨u,hx,h⟩:=zCI h
   obtain⟨v,hy,h⟩:=zCI h
   split at h
   ·exact⟨ob,_,h,fun h=>⟨by simp[pv,hx,hy],h⟩⟩
   ·cases h
  ·cases h
 | _=>simp[pvC] at h
def guC (os:Array Oper)(S:Sl)(g:Option (Nat×Bool))(yes no:Option β): Option β:=match g with
 | none=>yes
 | some (j,b)=>match os[j]? with
  | none=>none
  | some o=>match o.dst with
   | none=>none
   | some d=>z5w S d fun v=>match v with
    | .bool true=>match b with
     | true=>yes
     | false=>no
    | .bool false=>match b with
     | true=>no
     | false=>yes
    | .tuple _=>no
    | _=>none
theorem zZF{os:Array Oper}{S:Sl}{g:Option (Nat×Bool)}{yes no:Option β}{r:β}(h:guC os S g yes no=some r):
  (zQ os S g=some true∧yes=some r)∨(zQ os S g=some false∧no=some r):=by
 unfold guC at h
 split at h
 ·exact .inl ⟨rfl,h⟩
 ·rename_i j b
  split at h
  ·cases h
  ·rename_i o ho
   split at h
   ·cases h
   ·rename_i d hd
    rw[zZ3] at h
    obtain⟨v,hv,h⟩:=zCI h
    grind [zQ]
def z8R (os:Array Oper): List Oper->Nat->Sl->List Ob->Option (Sl×List Oper×List Ob)
 | l,0,S,ob=>some (S,l,ob)
 | [],_+1,_,_=>none
 | o::l,k+1,S,ob=>match o.dst with
  | none=>none
  | some d=>guC os S o.guard (pvC S o.op ob fun ob v=>z8R os l k ((d,v)::S) ob) (z8R os l k ((d,undef)::S) ob)
end
theorem zQq{P:Program}{os:Array Oper}{n:Nat}{Q:Exit->Act->World->Prop}{w:World}: ∀(l:List Oper) (k:Nat) (S S':Sl) (l':List Oper) (ob ob':List Ob) (a:Act),zY a n S->z8R os l k S ob=some (S',l',ob')->
  ((z0j (l.take k)).all (fun d=>Nat.blt d n)=true)->zXg P ob'=true->(∀ a',zY a' n S'->wpList P os Q l' a' w)->zXg P ob=true∧wpList P os Q l a w
 | l,0,S,S',l',ob,ob',a,hS,h,_,ho,kk=>by
  simp only[z8R,Qf,Prod.mk.injEq] at h
  grind
 | [],k+1,S,S',l',ob,ob',a,hS,h,_,_,kk=>by simp[z8R] at h
 | o::l,k+1,S,S',l',ob,ob',a,hS,h,hd,ho,kk=>by
  simp only[z8R] at h
  split at h
  ·cases h
  ·rename_i d hod
   simp only[List.take_succ_cons,z0j,hod,UY,Qo] at hd
   rcases zZF h with⟨hg,h⟩ | ⟨hg,h⟩
   ·obtain⟨ob1,v,h,hv⟩:=zZa (P:=P) h
    have key:∀ a,zY a n ((d,v)::S)->zXg P ob1=true∧wpList P os Q l a w:=fun a hS=>zQq l k _ S' l' ob1 ob' a hS h hd.2 ho kk
    have h1:=(zQq (P:=P) (Q:=Q) l k _ S' l' ob1 ob' _ (hS.put hd.1 v) h hd.2 ho kk).1
    obtain⟨h2,h3⟩:=hv h1
    refine⟨h3,zPq (v:=v) (w':=w) hg hS (zY2 hS h2 _ _ _ _ _ w) ?_⟩
    rw[hod]
    exact(key _ (hS.put hd.1 v)).2
   ·have h1:=zQq (P:=P) (Q:=Q) l k _ S' l' ob ob' _ (hS.put hd.1 undef) h hd.2 ho kk
    grind [zSH]
end Go.GD
