/- A part. Conditions: none. -/
import Derived.Test.YtmpieaddiaihmaaGreatDoorMap
import Derived.Test.YtmpieaddiaihmaaGreatDoorCopy
namespace Go.GD
open Go Go.RowKit
set_option autoImplicit false
theorem u{α:Sort _}{a:α}: a=a:=rfl
theorem d:True:=⟨⟩
theorem kk{α:Sort _}{Q:α->Prop}: ∀ K,Q K->Q K:=fun _ k=>k
variable {qd:Prop}
abbrev sv{τ:Type}(p:Option Addr)(l:List τ)(c:Nat): Value:=.slice p (List.length l) c
abbrev Rl{τ:Type}(e:E τ)(p:Option Addr)(c:Nat)(l:List τ): PP:=R e p c (List.length l) l
abbrev Al{τ:Type}(e:E τ)(te:TypeId)(r:zJ)(p:Option Addr)(c:Nat)(l:List τ): PP:=Ar e te r p c (List.length l) l
abbrev pt (b o:Nat): Value:=.pointer (some ⟨b,o,none⟩)
abbrev Sl:=List (Nat×Value)
abbrev PQ (ρ:Type):= ρ->Exit->Act->World->Prop
structure Hd (qd:Prop) where
 A:List Nat
 L0:List zJ
 w0:World
def NP{ρ:Type}(Q:PQ ρ): Prop:=∀ r c a w,Q r (.panic c) a w->False
inductive uH
 | code (c:Code)
 | ops (os:Array Oper) (l:List Oper)
 | dr (os:Array Oper) (B J:List Nat) (fuel:Nat) (li:Array Bool)
 | fo (i:Nat) (os:Array Oper) (B J:List Nat) (fuel:Nat) (li:Array Bool)
 | af (L0:List zJ) (os:Array Oper) (B J:List Nat) (fuel:Nat) (li:Array Bool)
 | ex (e:Exit)
def uH.go (qd:Prop)(P:Program)(A:List Nat)(Ls:List zJ)(Q:Exit->Act->World->Prop)(a:Act)(w:World): uH->Prop
 | .code c=>c.wp P Q a w
 | .ops os l=>wpList P os Q l a w
 | .dr os B J f li=>qV P os Q (SB B (CC qd A Ls w J)) f li a w
 | .fo i os B J f li=>∃ o,os[i]?=some o∧wU P os Q o (fun a' w'=>SB B (CC qd A Ls w J) (li.setIfInBounds i true) w'∧qV P os Q (SB B (CC qd A Ls w J)) f (li.setIfInBounds i true) a' w') a w
 | .af L0 os B J f li=>∀ w0,zU qd L0 w0 Ls w->SB B (CC qd A L0 w0 J) li w∧qV P os Q (SB B (CC qd A L0 w0 J)) f li a w
 | .ex e=>Q e a w
structure J (P:Program)(n:Nat)(X:Hd qd){ρ:Type}(Q:PQ ρ)(p:uH)(S:Sl)(Ls:List zJ)(F:List PP)(m:Option ρ): Prop where
 go:NP Q->∀ r,m=some r->∀ a w,SS qd X.A X.L0 X.w0 n S Ls F a w->p.go qd P X.A Ls (Q r) a w
def tZ{α:Type}: List α->α->(List α->Prop)->Prop
 | [],r,k=>k [r]
 | a::l,r,k=>tZ l r fun l'=>k (a::l')
theorem zKb{α:Type}: ∀ {l:List α} {r:α} {k:List α->Prop},tZ l r k=k (l++[r])
 | [],_,_=>rfl
 | a::l,r,k=>by simp only[tZ,zKb,UH]
def appC{α:Type}: List α->List α->(List α->Prop)->Prop
 | [],l,k=>k l
 | a::m,l,k=>appC m l fun l'=>k (a::l')
theorem z3c{α:Type}: ∀ {m l:List α} {k:List α->Prop},appC m l k=k (m++l)
 | [],_,_=>rfl
 | a::m,l,k=>by simp only[appC,z3c,UH]
def uT{α:Type}: List α->Nat->α->(List α->Prop)->Prop
 | [],_,_,k=>k []
 | _::l,0,r,k=>k (r::l)
 | a::l,i+1,r,k=>uT l i r fun l'=>k (a::l')
theorem zJL{α:Type}: ∀ {l:List α} {i:Nat} {r:α} {k:List α->Prop},uT l i r k=k (l.set i r)
 | [],_,_,_=>rfl
 | _::_,0,_,_=>rfl
 | a::l,i+1,r,k=>by simp only[uT,zJL,List.set_cons_succ]
def z4D:List Nat->List zJ->List zJ->(List zJ->Prop)->Prop
 | [],L1,Ls,k=>match L1 with
  | []=>k Ls
  | _::_=>appC Ls L1 k
 | _::_,[],_,_=>False
 | j::js,r::L1,Ls,k=>uT Ls j r fun Ls'=>z4D js L1 Ls' k
theorem zVH:∀ {js:List Nat} {L1 Ls:List zJ} {k:List zJ->Prop},z4D js L1 Ls k->Nat.ble js.length L1.length=true∧k (zYq js (L1.take js.length) Ls++L1.drop js.length)
 | [],L1,Ls,k,h=>by
  refine⟨by simp,?_⟩
  cases L1 with
  | nil=>simpa [z4D,zYq] using h
  | cons r L1=>simpa [z4D,z3c,zYq] using h
 | j::js,[],Ls,k,h=>h.elim
 | j::js,r::L1,Ls,k,h=>by
  simp only[z4D,zJL] at h
  obtain⟨h1,h2⟩:=zVH h
  refine⟨by simp_all,?_⟩
  simpa [zYq] using h2
section
variable {β:Type}
def z7S:Sl->Nat->(Value->Option β)->Option β
 | [],_,_=>none
 | (i,v)::r,j,k=>bif Nat.beq i j then k v else z7S r j k
theorem z0U:∀ {S:Sl} {j:Nat} {k:Value->Option β},z7S S j k=(vE S j).bind k
 | [],_,_=>rfl
 | (i,v)::r,j,k=>by
  simp only[z7S,vE]
  cases Nat.beq i j with
  | true=>rfl
  | false=>exact z0U
def zZ6 (S:Sl)(x:Operand)(k:Value->Option β): Option β:=match x with
 | .tmp t=>z7S S t k
 | .const v=>k v
 | .func f=>k (.func (.func f) #[] #[])
 | .global g=>k (.pointer (some ⟨g,0,none⟩))
theorem zK2{S:Sl}{x:Operand}{k:Value->Option β}: zZ6 S x k=(zL S x).bind k:=by
 cases x <;> simp[zZ6,zL,z0U]
def z8I (S:Sl): List Operand->(List Value->Option β)->Option β
 | [],k=>k []
 | x::r,k=>zZ6 S x fun v=>z8I S r fun vs=>k (v::vs)
theorem z4r{S:Sl}: ∀ {xs:List Operand} {k:List Value->Option β},z8I S xs k=(z4b S xs).bind k
 | [],_=>rfl
 | x::r,k=>by
  simp only[z8I,z4b,zK2,z4r]
  cases zL S x with
  | none=>rfl
  | some v=>cases z4b S r <;> rfl
def intC (op:BinOp)(k:IntKind)(a b:Int)(kk:Value->Option β): Option β :=
 match op with
 | .add=>kk (.int k (k.wrap (a+b)))
 | .sub=>kk (.int k (k.wrap (a-b)))
 | .mul=>kk (.int k (k.wrap (a*b)))
 | .and=>kk (.int k (vY k a b))
 | .or=>kk (.int k (bor k a b))
 | .xor=>kk (.int k (bxor k a b))
 | .andNot=>kk (.int k (zQk k a b))
 | .eql=>kk (.bool (a==b))
 | .neq=>kk (.bool (a != b))
 | .lss=>kk (.bool (decide (a<b)))
 | .leq=>kk (.bool (decide (a≤b)))
 | .gtr=>kk (.bool (decide (b<a)))
 | .geq=>kk (.bool (decide (b≤a)))
 | _=>none
theorem intC_eq{op:BinOp}{k:IntKind}{a b:Int}{kk:Value->Option β}: intC op k a b kk=(z4s op k a b).bind kk:=by cases op <;> rfl
def strC (op:BinOp)(a b:zG)(kk:Value->Option β): Option β :=
 match op with
 | .eql=>kk (.bool (a==b))
 | .neq=>kk (.bool (!(a==b)))
 | .lss=>kk (.bool (uF a b))
 | .leq=>kk (.bool (uF a b||a==b))
 | .gtr=>kk (.bool (!(uF a b||a==b)))
 | .geq=>kk (.bool (!(uF a b)))
 | _=>none
theorem strC_eq{op:BinOp}{a b:zG}{kk:Value->Option β}: strC op a b kk=(z42 op a b).bind kk:=by cases op <;> rfl
def kindC (k k':IntKind)(x:Option β): Option β:=match k,k' with
 | .i8,.i8 | .i16,.i16 | .i32,.i32 | .i64,.i64 | .u8,.u8 | .u16,.u16 | .u32,.u32 | .u64,.u64=>x
 | _,_=>none
theorem z6C{k k':IntKind}{x:Option β}{r:β}(h:kindC k k' x=some r): k=k'∧x=some r:=by
 cases k <;> cases k' <;> first | exact⟨rfl,h⟩ | cases h
def binC (op:BinOp)(u v:Value)(kk:Value->Option β): Option β:=match u,v with
 | .int k a,.int k' b=>kindC k k' (intC op k a b kk)
 | .string ⟨⟨a⟩⟩,.string ⟨⟨b⟩⟩=>strC op a b kk
 | _,_=>none
def lenC (u:Value)(kk:Bool->Value->Option β): Option β:=match u with
 | .string ⟨⟨s⟩⟩=>kk true (vi (len s))
 | .slice _ n _=>kk false (vi (n:Int))
 | _=>none
abbrev Ob:=TypeId×Bool
def tY (P:Program): List Ob->Bool
 | []=>true
 | (t,true)::r=>(match P.underlying t with | some .string=>true | _=>false)&&tY P r
 | (t,false)::r=>(match P.underlying t with | some (.slice _)=>true | _=>false)&&tY P r
def pvC (S:Sl)(op:Op)(ob:List Ob)(kk:List Ob->Value->Option β): Option β:=match op with
 | .move x=>zZ6 S x (kk ob)
 | .assign x=>zZ6 S x (kk ob)
 | .binOp op _ x y _=>zZ6 S x fun u=>zZ6 S y fun v=>binC op u v (kk ob)
 | .unOp .not _ x=>zZ6 S x fun u=>match u with
  | .bool b=>kk ob (.bool (!b))
  | _=>none
 | .unOp .neg _ x=>zZ6 S x fun u=>match u with
  | .int k n=>kk ob (.int k (k.wrap (0-n)))
  | _=>none
 | .extract x i=>zZ6 S x fun u=>match u with
  | .tuple ⟨vs⟩=>match vs[i]? with
   | some v=>kk ob v
   | none=>none
  | _=>none
 | .nilCheck x=>zZ6 S x fun u=>match u with
  | .pointer (some a)=>kk ob (.pointer (some a))
  | _=>none
 | .makeFunc fn x y=>z8I S x.toList fun us=>z8I S y.toList fun vs=>kk ob (.func fn us.toArray vs.toArray)
 | .call c=>match c.callee,c.args,c.argTypes with
  | .builtin .len,⟨[x]⟩,⟨[t]⟩=>zZ6 S x fun u=>lenC u fun b v=>kk ((t,b)::ob) v
  | .builtin .min,⟨[x,y]⟩,_=>zZ6 S x fun u=>zZ6 S y fun v=>match u,v with
   | .int k a,.int _ b=>kk ob (.int k (if b<a then b else a))
   | _,_=>none
  | .builtin .max,⟨[x,y]⟩,_=>zZ6 S x fun u=>zZ6 S y fun v=>match u,v with
   | .int k a,.int _ b=>kk ob (.int k (if b > a then b else a))
   | _,_=>none
  | _,_,_=>none
 | _=>none
theorem zBf{α γ:Type}{o:Option α}{k:α->Option γ}{r:γ}(h:o.bind k=some r): ∃ x,o=some x∧k x=some r:=by
 cases o with
 | none=>cases h
 | some x=>grind
theorem z6y{P:Program}{op:BinOp}{t ty:TypeId}{x y:Operand}{S:Sl}{u v:Value}{kk:Value->Option β}{r:β}(hx:zL S x=some u)(hy:zL S y=some v)(h:binC op u v kk=some r):
  ∃ z,pv P S (.binOp op t x y ty)=some z∧kk z=some r:=by
 unfold binC at h
 split at h
 ·grind [z6C,intC_eq,pv]
 ·rename_i a b
  rw[strC_eq] at h
  obtain⟨z,h1,h2⟩:=zBf h
  grind [pv]
 ·cases h
theorem z08{P:Program}{S:Sl}{op:Op}{ob:List Ob}{kk:List Ob->Value->Option β}{r:β}(h:pvC S op ob kk=some r):
  ∃ ob' v,kk ob' v=some r∧(tY P ob'=true->pv P S op=some v∧tY P ob=true):=by
 cases op with
 | move x=>simp only[pvC,zK2] at h;obtain⟨v,h1,h2⟩:=zBf h;exact⟨ob,v,h2,fun h=>⟨h1,h⟩⟩
 | assign x=>simp only[pvC,zK2] at h;obtain⟨v,h1,h2⟩:=zBf h;exact⟨ob,v,h2,fun h=>⟨h1,h⟩⟩
 | binOp op t x y ty =>
  simp only[pvC,zK2] at h
  obtain⟨u,hx,h⟩:=zBf h
  obtain⟨v,hy,h⟩:=zBf h
  obtain⟨z,h1,h2⟩:=z6y (P:=P) (t:=t) (ty:=ty) hx hy h
  grind
 | unOp op t x =>
  cases op with
  | not =>
   simp only[pvC,zK2] at h
   obtain⟨u,hx,h⟩:=zBf h
   split at h
   ·exact⟨ob,_,h,fun h=>⟨by simp[pv,hx],h⟩⟩
   ·cases h
  | neg =>
   simp only[pvC,zK2] at h
   obtain⟨u,hx,h⟩:=zBf h
   split at h
   ·exact⟨ob,_,h,fun h=>⟨by simp[pv,hx],h⟩⟩
   ·cases h
  | _=>simp[pvC] at h
 | extract x i =>
  simp only[pvC,zK2] at h
  obtain⟨u,hx,h⟩:=zBf h
  split at h
  ·split at h
   ·rename_i v hv
    exact⟨ob,v,h,fun h=>⟨by simp[pv,hx,hv],h⟩⟩
   ·cases h
  ·cases h
 | nilCheck x =>
  simp only[pvC,zK2] at h
  obtain⟨u,hx,h⟩:=zBf h
  split at h
  ·exact⟨ob,_,h,fun h=>⟨by simp[pv,hx],h⟩⟩
  ·cases h
 | makeFunc fn x y =>
  simp only[pvC,z4r] at h
  obtain⟨us,hx,h⟩:=zBf h
  obtain⟨vs,hy,h⟩:=zBf h
  exact⟨ob,_,h,fun h=>⟨by simp[pv,hx,hy],h⟩⟩
 | call c =>
  obtain⟨cal,args,ats⟩:=c
  simp only[pvC] at h
  split at h
  ·rename_i x t
   simp only[zK2] at h
   obtain⟨u,hx,h⟩:=zBf h
   unfold lenC at h
   split at h
   ·refine⟨_,_,h,fun h=>?_⟩
    simp only[tY,Qw] at h
    grind [pv]
   ·refine⟨_,_,h,fun h=>?_⟩
    simp only[tY,Qw] at h
    grind [pv]
   ·cases h
  ·simp only[zK2] at h
   obtain⟨u,hx,h⟩:=zBf h
   obtain⟨v,hy,h⟩:=zBf h
   split at h
   ·exact⟨ob,_,h,fun h=>⟨by simp[pv,hx,hy],h⟩⟩
   ·cases h
  ·simp only[zK2] at h
   obtain⟨u,hx,h⟩:=zBf h
   obtain⟨v,hy,h⟩:=zBf h
   split at h
   ·exact⟨ob,_,h,fun h=>⟨by simp[pv,hx,hy],h⟩⟩
   ·cases h
  ·cases h
 | _=>simp[pvC] at h
def guC (os:Array Oper)(S:Sl)(g:Option (Nat×Bool))(yes no:Option β): Option β:=match g with
 | none=>yes
 | some (j,b)=>match os[j]? with
  | none=>none
  | some o=>match o.dst with
   | none=>none
   | some d=>z7S S d fun v=>match v with
    | .bool true=>match b with
     | true=>yes
     | false=>no
    | .bool false=>match b with
     | true=>no
     | false=>yes
    | .tuple _=>no
    | _=>none
theorem z0G{os:Array Oper}{S:Sl}{g:Option (Nat×Bool)}{yes no:Option β}{r:β}(h:guC os S g yes no=some r):
  (zR os S g=some true∧yes=some r)∨(zR os S g=some false∧no=some r):=by
 unfold guC at h
 split at h
 ·exact .inl ⟨rfl,h⟩
 ·rename_i j b
  split at h
  ·cases h
  ·rename_i o ho
   split at h
   ·cases h
   ·rename_i d hd
    rw[z0U] at h
    obtain⟨v,hv,h⟩:=zBf h
    grind [zR]
def z9r (os:Array Oper): List Oper->Nat->Sl->List Ob->Option (Sl×List Oper×List Ob)
 | l,0,S,ob=>some (S,l,ob)
 | [],_+1,_,_=>none
 | o::l,k+1,S,ob=>match o.dst with
  | none=>none
  | some d=>guC os S o.guard (pvC S o.op ob fun ob v=>z9r os l k ((d,v)::S) ob) (z9r os l k ((d,undef)::S) ob)
end
theorem zR7{P:Program}{os:Array Oper}{n:Nat}{Q:Exit->Act->World->Prop}{w:World}: ∀(l:List Oper) (k:Nat) (S S':Sl) (l':List Oper) (ob ob':List Ob) (a:Act),qF a n S->z9r os l k S ob=some (S',l',ob')->
  ((z1f (l.take k)).all (fun d=>Nat.blt d n)=true)->tY P ob'=true->(∀ a',qF a' n S'->wpList P os Q l' a' w)->tY P ob=true∧wpList P os Q l a w
 | l,0,S,S',l',ob,ob',a,hS,h,_,ho,kk=>by
  simp only[z9r,Qd,Prod.mk.injEq] at h
  grind
 | [],k+1,S,S',l',ob,ob',a,hS,h,_,_,kk=>by simp[z9r] at h
 | o::l,k+1,S,S',l',ob,ob',a,hS,h,hd,ho,kk=>by
  simp only[z9r] at h
  split at h
  ·cases h
  ·rename_i d hod
   simp only[List.take_succ_cons,z1f,hod,Wf,Qw] at hd
   rcases z0G h with⟨hg,h⟩ | ⟨hg,h⟩
   ·obtain⟨ob1,v,h,hv⟩:=z08 (P:=P) h
    have key:∀ a,qF a n ((d,v)::S)->tY P ob1=true∧wpList P os Q l a w:=fun a hS=>zR7 l k _ S' l' ob1 ob' a hS h hd.2 ho kk
    have h1:=(zR7 (P:=P) (Q:=Q) l k _ S' l' ob1 ob' _ (hS.put hd.1 v) h hd.2 ho kk).1
    obtain⟨h2,h3⟩:=hv h1
    refine⟨h3,zOm (v:=v) (w':=w) hg hS (zZi hS h2 _ _ _ _ _ w) ?_⟩
    rw[hod]
    exact(key _ (hS.put hd.1 v)).2
   ·have h1:=zR7 (P:=P) (Q:=Q) l k _ S' l' ob ob' _ (hS.put hd.1 undef) h hd.2 ho kk
    grind [zSf]
end Go.GD
