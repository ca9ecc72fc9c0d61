/- A part. Conditions: none. -/
import Derived.Test.YtkmalbjjjappgaaGreatDoorBase
import Derived.Laws.CopyRow
import Derived.Scope
import Derived.Shelf.SlSortCmp.NoneTotal
import Derived.Shelf.SortM.Plain
import Derived.Shelf.SortM.SortNone
import Derived.Shelf.SlSortCmp.Whole1
import Derived.Shelf.Strings.OnBuilder
import Derived.Shelf.Strings.FieldsAny
import Derived.Shelf.Strings.Search3
import Derived.Shelf.Strings.Count
import Derived.Shelf.Strings.Builder1
import Derived.Lib.ConvBytes
import Derived.Laws.IdiomStrings
import Derived.Lib.FrozenHead
import Derived.Shelf.Strconv.Itoa3
import Derived.Shelf.Strconv.AtoiAll
import Derived.ChangeKeysEq
import Derived.Lib.AppendZerosOnto
import Derived.Lib.Overlaps
namespace Go.GD
open Option renaming some->Ah,none->Ai
open Bool renaming true->Aj,false->Ak
open Go renaming Value->Am,World->Ao,TypeId->Ap,Program->Aq,Operand->As,IntKind->Au,execOp->Av,Addr->Ax,Act->Ay
set_option autoImplicit false
section
open Go Go.RowKit
variable {qd:Prop}
section
variable {P:Aq}{ops:Array Oper}{Q:Exit->Ay->Ao->Prop}{K:Ay->Ao->Prop}
variable {A:List Nat}{L0 Ls:List zK}{w0 w:Ao}{n:Nat}{S:List (Nat×Am)}{F:List PP}{a:Ay}{Z:List Nat}
variable {d:Nat}{ty:Ap}{pos:String}{af:Array Edge}{g:Option (Nat×Bool)}{B J:List Nat}{listed:Array Bool}{fuel:Nat}
variable {τ:Type}{e:E τ}{te:Ap}{r:zK}{p q q2:Option Ax}{c m L:Nat}{l z:List τ}{k:Int}{t:Ap}{x y:As}
theorem Vw.src (hV:Vw e.n p c L k q m)(hA:yS e te Z w r p c l)(hL:l.length=L)(hO:qK A w Ls){i:Nat}(hr:Ls[i]?=Ah r): Src e Z w q (l.drop k.toNat)/\(l.drop k.toNat).length=m:=by
 obtain⟨v0,v1,v2,v3⟩:=hV;have hlen:(l.drop k.toNat).length=m:=by rw[QL];omega
 refine⟨?_,hlen⟩;by_cases hm:m=0
 ·exact .inl (Ue (by grind))
 ·rcases hA with⟨_,_,_,rfl⟩ | ⟨b,o,cells,rfl,rfl,h3,h4,h5,h6⟩
  ·grind
  ·refine .inr ⟨b,o+k.toNat*e.n,_,v3 b o rfl hm,e.rdL_drop k.toNat h6,λj u hu=>?_⟩;have hb:=zAj hO hr (Qh.2 rfl);grind [cell_of_row]
theorem z0C{k2 c' i:Nat}(hO:qK A w Ls)(hr:Ls[i]?=Ah r)(hA:yS e te (bl Ls++A) w r p c l)(hV:Vw e.n p c L k q m)(hL:l.length=L)(hR:Src e (bl Ls++A) w q2 z)(ht:xM P t te e.n=Aj)(rty:Ap):
  ∃ r' w',(Builtin.copy_ #[t,t] rty #[.slice q m c',.slice q2 z.length k2]).run P w=.ok (goInt (Nat.min z.length m)) w' /\
   qK A w' (Ls.set i r')/\qE qd Ls w (Ls.set i r') w'/\yS e te (bl (Ls.set i r')++A) w' r' p c (zNC l k z):=by
 obtain⟨hu,info,zv,hi,hz',hsize,hby,hpos,hzs⟩:=zJP ht;obtain⟨v0,v1,v2,v3⟩:=hV;subst hL;have hself:Ls.set i r=Ls:=by
  apply Q8;intro j;by_cases hj:i=j
  ·grind
  ·grind
 by_cases hn0:Nat.min z.length m=0
 ·have hll:zNC l k z=l:=by
   unfold zNC;rcases Nat.min_eq_zero_iff.1 hn0 with h | h
   ·simp_all
   ·simp_all
  refine⟨r,w,?_,by grind,by rw[hself];exact qE.refl _ _,by grind⟩;cases q <;> cases q2 <;> simp[Builtin.copy_,run_underlying hu,Builtin.lenOf,Builtin.firstCells,sizeOf,typeInfo,hi,hn0,loadCells,loadCellsFrom,storeCells]
 ·have hm0:m≠0:=λh=>hn0 (by grind);have hz0:z≠[]:=λh=>hn0 (by grind);rcases hA with⟨rfl,rfl,rfl,rfl⟩ | ⟨b,o,cells,rfl,rfl,h3,h4,h5,h6⟩
  ·grind
  ·have hq:=v3 b o rfl hm0;subst hq;rcases hR with hR | ⟨b2,off,cs,rfl,hcs,hcell⟩
   ·grind
   ·have hb:=zAj hO hr (Qh.2 rfl);obtain⟨nn,hnn⟩:∃ nn,nn=Nat.min z.length m:=⟨_,rfl⟩;have hnz:nn<=z.length:=by rw[hnn];exact Nat.min_le_left _ _
    have hnm:nn<=m:=by rw[hnn];exact Nat.min_le_right _ _
    have hcs2:=e.rdL_take nn hcs;have hlen:(cs.take (nn*e.n)).length=nn*e.n:=by rw[e.rdL_len hcs2,Q5,Ua hnz]
    have hload:=run_loadCells_list (P:=P) w ⟨b2,off,Ai⟩ (cs.take (nn*e.n)) (λj u hj=>by
     grind [zBg])
    have hfit:o+k.toNat*e.n+0+(cs.take (nn*e.n)).length<=cells.size:=by
     rw[hlen,Ul,U0,<-QV];exact Qw (Nat.add_le_add_left (QK _ (by omega)) _) h5
    have hst:=run_storeCells_at P b (o+k.toNat*e.n) te (cs.take (nn*e.n)) 0 cells w hb hfit (e.rdL_one hcs2);simp only[Ul] at hst;have hother:∀ cs:Array Am,∀ k,k<w.heap.size->k∉[(b,Obj.cells cells te (0,0))].map Prod.fst->(w.setRow b cs).heap[k]?=w.heap[k]?:=λcs k _ hk=>setRow_other w b k _ (λe=>hk (by simp[e]));have hE:qE qd Ls w (Ls.set i [(b,.cells (cells.toList.take (o+k.toNat*e.n)++cs.take (nn*e.n)++cells.toList.drop (o+k.toNat*e.n+(cs.take (nn*e.n)).length)).toArray te (0,0))]) (w.setRow b (cells.toList.take (o+k.toNat*e.n)++cs.take (nn*e.n)++cells.toList.drop (o+k.toNat*e.n+(cs.take (nn*e.n)).length)).toArray):=
     qE.set hr rfl rfl rfl (by simp) (hother _) (λq hq=>.inl (by grind))
    refine⟨[(b,.cells (cells.toList.take (o+k.toNat*e.n)++cs.take (nn*e.n)++cells.toList.drop (o+k.toNat*e.n+(cs.take (nn*e.n)).length)).toArray te (0,0))],_,?_,?_,hE,.inr ⟨b,o,_,rfl,rfl,by rw[zIy];exact h3,h4,?_,?_⟩⟩
    ·rw[hlen] at hload;simp[Builtin.copy_,run_underlying hu,Builtin.lenOf,Builtin.firstCells,sizeOf,typeInfo,hi,hsize,<-hnn,hload,hst]
    ·exact hO.set hr (by simp) (hother _) (λq hq=>by simp only[Qh] at hq;subst hq;exact setRow_heap w b cells _ te (0,0) hb) (by simp) (λq hq=>.inl (by grind))
    ·simp only[QX,Qg,Q5,QL,Uq,Ul] at hfit ⊢;omega
    ·have hcp:zNC l k z=l.take k.toNat++z.take nn++l.drop (k.toNat+nn):=by
      unfold zNC;have h1:z.take (l.length-k.toNat)=z.take nn:=by
       apply Q8;intro j;simp only[UM];by_cases hj:j<z.length
       ·grind
       ·grind
      have h2:l.drop (k.toNat+z.length)=l.drop (k.toNat+nn):=by
       by_cases hj:z.length<=m
       ·simp_all
       ·grind [List.drop_of_length_le]
      rw[h1,h2]
     rw[hcp];have e1:=e.rdL_take k.toNat h6;rw[UB,Ua (QK _ (by omega))] at e1;have e2:=e.rdL_drop (k.toNat+nn) h6;have e3:=e.rdL_append (e.rdL_append (e.rdL_step (hE.step A) e1) (e.rdL_step (hE.step A) hcs2)) (e.rdL_step (hE.step A) e2);refine cast ?_ e3;congr 1;have hlen2:(l.take k.toNat++z.take nn++l.drop (k.toNat+nn)).length=l.length:=by
      simp only[Qg,Q5,QL];omega
     rw[hlen2];have hD:c*e.n<=(cells.toList.drop o).length:=by rw[QL,Uq];omega
     show _=List.take _ (List.drop o (cells.toList.take (o+k.toNat*e.n)++cs.take (nn*e.n)++cells.toList.drop (o+k.toNat*e.n+(cs.take (nn*e.n)).length)));have hdp:=z2W (c:=cells.toList) o (k.toNat*e.n) 0 (cs.take (nn*e.n)) (by grind);simp only[Ul] at hdp;rw[hdp];have hA1:((cells.toList.drop o).take (k.toNat*e.n)++cs.take (nn*e.n)).length=(k.toNat+nn)*e.n:=by
      rw[Qg,hlen,Q5,QV,Ua];exact Qw (QK _ (by omega)) hD
     rw[UY,hA1,QQ (l:=(cells.toList.drop o).take (k.toNat*e.n)++cs.take (nn*e.n)) (by rw[hA1];exact QK _ (by omega)),hlen,<-QV,Ud]
theorem z0w (i:Nat){m' c' m2 k2:Nat}(h:SS qd A L0 w0 n S Ls F a w)(hA:(Ar e te r p c m l).h (bl Ls++A) w)(hV:Vw e.n p c m k q m')(hR:Src e (bl Ls++A) w q2 z/\z.length=m2)
  (hx:zV S x=Ah (.slice q m' c')) (hy:zV S y=Ah (.slice q2 m2 k2))
  (kk:∀ r' a' w',SS qd A L0 w0 n ((d,vi ((Nat.min m2 m':Nat):Int))::S) (Ls.set i r') (Ar e te r' p c m (zNC l k z)::F) a' w'->qE qd Ls w (Ls.set i r') w'->K a' w') (hr:Ls[i]?=Ah r:=by rfl)
  (ht:xM P t te e.n=true:=by kernel_rfl) (hd:Nat.blt d n=true:=by kernel_rfl) (hg:qI ops S g=Ah true:=by kernel_rfl):vK P ops Q ⟨Ah d,.call { callee:=.builtin .copy,args:=[x,y].toArray,argTypes:=[t,t].toArray },ty,pos,af,g⟩ K a w:=by
 obtain⟨hA,hm'⟩:=hA;obtain⟨hR,rfl⟩:=hR;obtain⟨r',w',hrun,h1,h2,h3⟩:=z0C (P:=P) (k2:=k2) (c':=c') h.o hr hA hV hm'.symm hR ht ty;refine zEa h.s hd hg (v:=vi ((Nat.min z.length m':Nat):Int)) (w':=w') ?_ λa' hS=>kk r' a' w' (h.next h1 h2 hS [Ar _ _ _ _ _ m _] ⟨⟨h3,by rw[zIy];exact hm'⟩,trivial⟩) h2;simp[Av,resolve,invoke,builtin,h.s.eval hx,h.s.eval hy,hrun,goInt]
theorem SS.eqL{Ls':List zK}(h:SS qd A L0 w0 n S Ls F a w)(e:Ls=Ls'): SS qd A L0 w0 n S Ls' F a w:=e▸h
theorem z1G (q:Nat){lo':As}{k0:Int}{kd:Au}{u:Unit}(h:SS qd A L0 w0 n S Ls F a w)(hi0:ops[q]?=Ah ⟨Ah d,.slice t x (Ah lo') Ai Ai,ty,pos,af,g⟩)(hA:(Ar e te r p c m l).h (bl Ls++A) w)(hx:zV S x=Ah (.slice p m c))(hlo:zV S lo'=Ah (.int kd k0))
  (hm:chk (decide (0<=k0)&&decide (k0<=(l.length:Int)))=Ah u)
  (k:∀ p' c',Vw e.n p c m k0 p' (Int.toNat ((m:Int)-k0))->∀ a,SS qd A L0 w0 n ((d,.slice p' (Int.toNat ((m:Int)-k0)) c')::S) Ls F a w->wV P ops Q (SB B (CC qd A Ls w J)) fuel (listed.setIfInBounds q Aj) a w)
  (ht:uM P t=Ah e.n:=by kernel_rfl) (hQ:∀ c (v:Am) a w,Q (.panic c) (a.put (Ah d) v) w->Q (.panic c) a w:=by exact λ_ _ _ _ h=>h)
  (hk:uG ops B listed q=true:=by kernel_rfl) (hd:Nat.blt d n=true:=by kernel_rfl) (hg:qI ops S g=Ah true:=by kernel_rfl):wV P ops Q (SB B (CC qd A Ls w J)) (fuel+1) listed a w:=by
 obtain⟨hA,rfl⟩:=hA;obtain⟨p',c',hv,hr⟩:=zZg (P:=P) (d:=Ah d) (ty:=ty) (pos:=pos) (af:=af) (g:=g) h.s hA hx ht hlo hm;exact z6g q h.o h.s hi0 hk hd (λc=>hQ c _) hg hr λa hS=>k p' c' hv a (h.slot hS)
end
end
section
open Go Go.RowKit
theorem u{α:Sort _}{a:α}: a=a:=rfl
theorem d:True:=⟨⟩
theorem kk{α:Sort _}{Q:α->Prop}: ∀ K,Q K->Q K:=λ_ k=>k
variable {qd:Prop}
abbrev sv{τ:Type}(p:Option Ax)(l:List τ)(c:Nat): Value:=.slice p (List.length l) c
abbrev Rl{τ:Type}(e:E τ)(p:Option Ax)(c:Nat)(l:List τ): PP:=R e p c (List.length l) l
abbrev Al{τ:Type}(e:E τ)(te:Ap)(r:zK)(p:Option Ax)(c:Nat)(l:List τ): PP:=Ar e te r p c (List.length l) l
abbrev pt (b o:Nat): Value:=.pointer (Ah ⟨b,o,Ai⟩)
abbrev Sl:=List (Nat×Am)
abbrev PQ (ρ:Type):= ρ->Exit->Ay->Ao->Prop
structure Hd (qd:Prop) where
 A:List Nat
 L0:List zK
 w0:Ao
def NP{ρ:Type}(Q:PQ ρ): Prop:=∀ r c a w,Q r (.panic c) a w->False
inductive uJ
 | code (c:Code)
 | ops (os:Array Oper) (l:List Oper)
 | dr (os:Array Oper) (B J:List Nat) (fuel:Nat) (li:Array Bool)
 | fo (i:Nat) (os:Array Oper) (B J:List Nat) (fuel:Nat) (li:Array Bool)
 | af (L0:List zK) (os:Array Oper) (B J:List Nat) (fuel:Nat) (li:Array Bool)
 | ex (e:Exit)
def uJ.go (qd:Prop)(P:Aq)(A:List Nat)(Ls:List zK)(Q:Exit->Ay->Ao->Prop)(a:Ay)(w:Ao): uJ->Prop
 | .code c=>c.wp P Q a w
 | .ops os l=>wpList P os Q l a w
 | .dr os B J f li=>wV P os Q (SB B (CC qd A Ls w J)) f li a w
 | .fo i os B J f li=>∃ o,os[i]?=Ah o/\vK P os Q o (λa' w'=>SB B (CC qd A Ls w J) (li.setIfInBounds i Aj) w'/\wV P os Q (SB B (CC qd A Ls w J)) f (li.setIfInBounds i Aj) a' w') a w
 | .af L0 os B J f li=>∀ w0,qE qd L0 w0 Ls w->SB B (CC qd A L0 w0 J) li w/\wV P os Q (SB B (CC qd A L0 w0 J)) f li a w
 | .ex e=>Q e a w
structure J (P:Aq)(n:Nat)(X:Hd qd){ρ:Type}(Q:PQ ρ)(p:uJ)(S:Sl)(Ls:List zK)(F:List PP)(m:Option ρ): Prop where
 go:NP Q->∀ r,m=Ah r->∀ a w,SS qd X.A X.L0 X.w0 n S Ls F a w->p.go qd P X.A Ls (Q r) a w
def zMw{α:Type}: List α->α->(List α->Prop)->Prop
 | [],r,k=>k [r]
 | a::l,r,k=>zMw l r λl'=>k (a::l')
variable{α:Type}
theorem zHh: ∀ {l:List α} {r:α} {k:List α->Prop},zMw l r k=k (l++[r])
 | [],_,_=>rfl
 | a::l,r,k=>by simp only[zMw,zHh,Q1]
def z8u{α:Type}: List α->List α->(List α->Prop)->Prop
 | [],l,k=>k l
 | a::m,l,k=>z8u m l λl'=>k (a::l')
theorem z0M: ∀ {m l:List α} {k:List α->Prop},z8u m l k=k (m++l)
 | [],_,_=>rfl
 | a::m,l,k=>by simp only[z8u,z0M,Q1]
def xT{α:Type}: List α->Nat->α->(List α->Prop)->Prop
 | [],_,_,k=>k []
 | _::l,0,r,k=>k (r::l)
 | a::l,i+1,r,k=>xT l i r λl'=>k (a::l')
theorem zGH: ∀ {l:List α} {i:Nat} {r:α} {k:List α->Prop},xT l i r k=k (l.set i r)
 | [],_,_,_=>rfl
 | _::_,0,_,_=>rfl
 | a::l,i+1,r,k=>by simp only[xT,zGH,UN]
def z0p:List Nat->List zK->List zK->(List zK->Prop)->Prop
 | [],L1,Ls,k=>match L1 with
  | []=>k Ls
  | _::_=>z8u Ls L1 k
 | _::_,[],_,_=>False
 | j::js,r::L1,Ls,k=>xT Ls j r λLs'=>z0p js L1 Ls' k
theorem zRJ:∀ {js:List Nat} {L1 Ls:List zK} {k:List zK->Prop},z0p js L1 Ls k->Nat.ble js.length L1.length=Aj/\k (zTW js (L1.take js.length) Ls++L1.drop js.length)
 | [],L1,Ls,k,h=>by
  refine⟨by simp,?_⟩;cases L1 with
  | nil=>simpa [z0p,zTW] using h
  | cons r L1=>simpa [z0p,z0M,zTW] using h
 | j::js,[],Ls,k,h=>h.elim
 | j::js,r::L1,Ls,k,h=>by
  simp only[z0p,zGH] at h;obtain⟨h1,h2⟩:=zRJ h;refine⟨by simp_all,?_⟩;simpa [zTW] using h2
section
variable {β:Type}
def z6U:Sl->Nat->(Am->Option β)->Option β
 | [],_,_=>Ai
 | (i,v)::r,j,k=>bif Nat.beq i j then k v else z6U r j k
theorem zWs:∀ {S:Sl} {j:Nat} {k:Am->Option β},z6U S j k=(yF S j).bind k
 | [],_,_=>rfl
 | (i,v)::r,j,k=>by
  simp only[z6U,yF];cases Nat.beq i j with
  | true=>rfl
  | false=>exact zWs
def zVE (S:Sl)(x:As)(k:Am->Option β): Option β:=match x with
 | .tmp t=>z6U S t k
 | .const v=>k v
 | .func f=>k (.func (.func f) #[] #[])
 | .global g=>k (.pointer (Ah ⟨g,0,Ai⟩))
variable{S:Sl}
theorem zGh{x:As}{k:Am->Option β}: zVE S x k=(zV S x).bind k:=by
 cases x <;> simp[zVE,zV,zWs]
def z4g (S:Sl): List As->(List Am->Option β)->Option β
 | [],k=>k []
 | x::r,k=>zVE S x λv=>z4g S r λvs=>k (v::vs)
theorem z18: ∀ {xs:List As} {k:List Am->Option β},z4g S xs k=(z1w S xs).bind k
 | [],_=>rfl
 | x::r,k=>by
  simp only[z4g,z1w,zGh,z18];cases zV S x with
  | none=>rfl
  | some v=>cases z1w S r <;> rfl
def intC (op:BinOp)(k:Au)(a b:Int)(kk:Am->Option β): Option β:=
 match op with
 | .add=>kk (.int k (k.wrap (a+b)))
 | .sub=>kk (.int k (k.wrap (a-b)))
 | .mul=>kk (.int k (k.wrap (a*b)))
 | .and=>kk (.int k (zZy k a b))
 | .or=>kk (.int k (bor k a b))
 | .xor=>kk (.int k (z3H k a b))
 | .andNot=>kk (.int k (zQw k a b))
 | .eql=>kk (.bool (a==b))
 | .neq=>kk (.bool (a != b))
 | .lss=>kk (.bool (decide (a<b)))
 | .leq=>kk (.bool (decide (a<=b)))
 | .gtr=>kk (.bool (decide (b<a)))
 | .geq=>kk (.bool (decide (b<=a)))
 | _=>Ai
variable{op:BinOp}{k:Au}
theorem z9s{a b:Int}{kk:Am->Option β}: intC op k a b kk=(z2H op k a b).bind kk:=by cases op <;> rfl
def strC (op:BinOp)(a b:zA)(kk:Am->Option β): Option β:=
 match op with
 | .eql=>kk (.bool (a==b))
 | .neq=>kk (.bool (!(a==b)))
 | .lss=>kk (.bool (uH a b))
 | .leq=>kk (.bool (uH a b||a==b))
 | .gtr=>kk (.bool (!(uH a b||a==b)))
 | .geq=>kk (.bool (!(uH a b)))
 | _=>Ai
theorem z9q{a b:zA}{kk:Am->Option β}: strC op a b kk=(z2Z op a b).bind kk:=by cases op <;> rfl
def kindC (k k':Au)(x:Option β): Option β:=match k,k' with
 | .i8,.i8 | .i16,.i16 | .i32,.i32 | .i64,.i64 | .u8,.u8 | .u16,.u16 | .u32,.u32 | .u64,.u64=>x
 | _,_=>Ai
variable{r:β}
theorem z29{k':Au}{x:Option β}(h:kindC k k' x=Ah r): k=k'/\x=Ah r:=by
 cases k <;> cases k' <;> first | exact⟨rfl,h⟩ | cases h
def binC (op:BinOp)(u v:Am)(kk:Am->Option β): Option β:=match u,v with
 | .int k a,.int k' b=>kindC k k' (intC op k a b kk)
 | .string ⟨⟨a⟩⟩,.string ⟨⟨b⟩⟩=>strC op a b kk
 | _,_=>Ai
def lenC (u:Am)(kk:Bool->Am->Option β): Option β:=match u with
 | .string ⟨⟨s⟩⟩=>kk Aj (vi (len s))
 | .slice _ n _=>kk Ak (vi (n:Int))
 | _=>Ai
abbrev Ob:=Ap×Bool
def zUn (P:Aq): List Ob->Bool
 | []=>Aj
 | (t,Aj)::r=>(match P.underlying t with | some .string=>Aj | _=>Ak)&&zUn P r
 | (t,Ak)::r=>(match P.underlying t with | some (.slice _)=>Aj | _=>Ak)&&zUn P r
def pvC (S:Sl)(op:Op)(ob:List Ob)(kk:List Ob->Am->Option β): Option β:=match op with
 | .move x=>zVE S x (kk ob)
 | .assign x=>zVE S x (kk ob)
 | .binOp op _ x y _=>zVE S x λu=>zVE S y λv=>binC op u v (kk ob)
 | .unOp .not _ x=>zVE S x λu=>match u with
  | .bool b=>kk ob (.bool (!b))
  | _=>Ai
 | .unOp .neg _ x=>zVE S x λu=>match u with
  | .int k n=>kk ob (.int k (k.wrap (0-n)))
  | _=>Ai
 | .extract x i=>zVE S x λu=>match u with
  | .tuple ⟨vs⟩=>match vs[i]? with
   | some v=>kk ob v
   | none=>Ai
  | _=>Ai
 | .nilCheck x=>zVE S x λu=>match u with
  | .pointer (Ah a)=>kk ob (.pointer (Ah a))
  | _=>Ai
 | .makeFunc fn x y=>z4g S x.toList λus=>z4g S y.toList λvs=>kk ob (.func fn us.toArray vs.toArray)
 | .call c=>match c.callee,c.args,c.argTypes with
  | .builtin .len,⟨[x]⟩,⟨[t]⟩=>zVE S x λu=>lenC u λb v=>kk ((t,b)::ob) v
  | .builtin .min,⟨[x,y]⟩,_=>zVE S x λu=>zVE S y λv=>match u,v with
   | .int k a,.int _ b=>kk ob (.int k (if b<a then b else a))
   | _,_=>Ai
  | .builtin .max,⟨[x,y]⟩,_=>zVE S x λu=>zVE S y λv=>match u,v with
   | .int k a,.int _ b=>kk ob (.int k (if b > a then b else a))
   | _,_=>Ai
  | _,_,_=>Ai
 | _=>Ai
theorem zBO{γ:Type}{o:Option α}{k:α->Option γ}{r:γ}(h:o.bind k=Ah r): ∃ x,o=Ah x/\k x=Ah r:=by
 cases o with
 | none=>cases h
 | some x=>grind
theorem z5y{P:Aq}{op:BinOp}{t ty:Ap}{x y:As}{S:Sl}{u v:Am}{kk:Am->Option β}{r:β}(hx:zV S x=Ah u)(hy:zV S y=Ah v)(h:binC op u v kk=Ah r):
  ∃ z,pv P S (.binOp op t x y ty)=Ah z/\kk z=Ah r:=by
 unfold binC at h;split at h
 ·grind [z29,z9s,pv]
 ·rename_i a b;rw[z9q] at h;obtain⟨z,h1,h2⟩:=zBO h;grind [pv]
 ·cases h
theorem zWl{P:Aq}{S:Sl}{op:Op}{ob:List Ob}{kk:List Ob->Am->Option β}{r:β}(h:pvC S op ob kk=Ah r):
  ∃ ob' v,kk ob' v=Ah r/\(zUn P ob'=Aj->pv P S op=Ah v/\zUn P ob=Aj):=by
 cases op with
 | move x=>simp only[pvC,zGh] at h;obtain⟨v,h1,h2⟩:=zBO h;exact⟨ob,v,h2,λh=>⟨h1,h⟩⟩
 | assign x=>simp only[pvC,zGh] at h;obtain⟨v,h1,h2⟩:=zBO h;exact⟨ob,v,h2,λh=>⟨h1,h⟩⟩
 | binOp op t x y ty=>
  simp only[pvC,zGh] at h;obtain⟨u,hx,h⟩:=zBO h;obtain⟨v,hy,h⟩:=zBO h;obtain⟨z,h1,h2⟩:=z5y (P:=P) (t:=t) (ty:=ty) hx hy h;grind
 | unOp op t x=>
  cases op with
  | not=>
   simp only[pvC,zGh] at h;obtain⟨u,hx,h⟩:=zBO h;split at h
   ·exact⟨ob,_,h,λh=>⟨by simp[pv,hx],h⟩⟩
   ·cases h
  | neg=>
   simp only[pvC,zGh] at h;obtain⟨u,hx,h⟩:=zBO h;split at h
   ·exact⟨ob,_,h,λh=>⟨by simp[pv,hx],h⟩⟩
   ·cases h
  | _=>simp[pvC] at h
 | extract x i=>
  simp only[pvC,zGh] at h;obtain⟨u,hx,h⟩:=zBO h;split at h
  ·split at h
   ·rename_i v hv;exact⟨ob,v,h,λh=>⟨by simp[pv,hx,hv],h⟩⟩
   ·cases h
  ·cases h
 | nilCheck x=>
  simp only[pvC,zGh] at h;obtain⟨u,hx,h⟩:=zBO h;split at h
  ·exact⟨ob,_,h,λh=>⟨by simp[pv,hx],h⟩⟩
  ·cases h
 | makeFunc fn x y=>
  simp only[pvC,z18] at h;obtain⟨us,hx,h⟩:=zBO h;obtain⟨vs,hy,h⟩:=zBO h;exact⟨ob,_,h,λh=>⟨by simp[pv,hx,hy],h⟩⟩
 | call c=>
  obtain⟨cal,args,ats⟩:=c;simp only[pvC] at h;split at h
  ·rename_i x t;simp only[zGh] at h;obtain⟨u,hx,h⟩:=zBO h;unfold lenC at h;split at h
   ·refine⟨_,_,h,λh=>?_⟩;simp only[zUn,Qc] at h;grind [pv]
   ·refine⟨_,_,h,λh=>?_⟩;simp only[zUn,Qc] at h;grind [pv]
   ·cases h
  ·simp only[zGh] at h;obtain⟨u,hx,h⟩:=zBO h;obtain⟨v,hy,h⟩:=zBO h;split at h
   ·exact⟨ob,_,h,λh=>⟨by simp[pv,hx,hy],h⟩⟩
   ·cases h
  ·simp only[zGh] at h;obtain⟨u,hx,h⟩:=zBO h;obtain⟨v,hy,h⟩:=zBO h;split at h
   ·exact⟨ob,_,h,λh=>⟨by simp[pv,hx,hy],h⟩⟩
   ·cases h
  ·cases h
 | _=>simp[pvC] at h
def guC (os:Array Oper)(S:Sl)(g:Option (Nat×Bool))(yes no:Option β): Option β:=match g with
 | none=>yes
 | some (j,b)=>match os[j]? with
  | none=>Ai
  | some o=>match o.dst with
   | none=>Ai
   | some d=>z6U S d λv=>match v with
    | .bool Aj=>match b with
     | true=>yes
     | false=>no
    | .bool Ak=>match b with
     | true=>no
     | false=>yes
    | .tuple _=>no
    | _=>Ai
theorem zW3{os:Array Oper}{g:Option (Nat×Bool)}{yes no:Option β}(h:guC os S g yes no=Ah r):
  (qI os S g=Ah Aj/\yes=Ah r)\/(qI os S g=Ah Ak/\no=Ah r):=by
 unfold guC at h;split at h
 ·exact .inl ⟨rfl,h⟩
 ·rename_i j b;split at h
  ·cases h
  ·rename_i o ho;split at h
   ·cases h
   ·rename_i d hd;rw[zWs] at h;obtain⟨v,hv,h⟩:=zBO h;grind [qI]
def z6e (os:Array Oper): List Oper->Nat->Sl->List Ob->Option (Sl×List Oper×List Ob)
 | l,0,S,ob=>Ah (S,l,ob)
 | [],_+1,_,_=>Ai
 | o::l,k+1,S,ob=>match o.dst with
  | none=>Ai
  | some d=>guC os S o.guard (pvC S o.op ob λob v=>z6e os l k ((d,v)::S) ob) (z6e os l k ((d,undef)::S) ob)
end
theorem zOA{P:Aq}{os:Array Oper}{n:Nat}{Q:Exit->Ay->Ao->Prop}{w:Ao}: ∀(l:List Oper) (k:Nat) (S S':Sl) (l':List Oper) (ob ob':List Ob) (a:Ay),qV a n S->z6e os l k S ob=Ah (S',l',ob')->
  ((zYt (l.take k)).all (λd=>Nat.blt d n)=Aj)->zUn P ob'=Aj->(∀ a',qV a' n S'->wpList P os Q l' a' w)->zUn P ob=Aj/\wpList P os Q l a w
 | l,0,S,S',l',ob,ob',a,hS,h,_,ho,kk=>by
  simp only[z6e,Qf,Prod.mk.injEq] at h;grind
 | [],k+1,S,S',l',ob,ob',a,hS,h,_,_,kk=>by simp[z6e] at h
 | o::l,k+1,S,S',l',ob,ob',a,hS,h,hd,ho,kk=>by
  simp only[z6e] at h;split at h
  ·cases h
  ·rename_i d hod;simp only[List.take_succ_cons,zYt,hod,Uw,Qc] at hd;rcases zW3 h with⟨hg,h⟩ | ⟨hg,h⟩
   ·obtain⟨ob1,v,h,hv⟩:=zWl (P:=P) h;have key:∀ a,qV a n ((d,v)::S)->zUn P ob1=Aj/\wpList P os Q l a w:=λa hS=>zOA l k _ S' l' ob1 ob' a hS h hd.2 ho kk;have h1:=(zOA (P:=P) (Q:=Q) l k _ S' l' ob1 ob' _ (hS.put hd.1 v) h hd.2 ho kk).1;obtain⟨h2,h3⟩:=hv h1;refine⟨h3,zND (v:=v) (w':=w) hg hS (zVv hS h2 _ _ _ _ _ w) ?_⟩;rw[hod];exact(key _ (hS.put hd.1 v)).2
   ·have h1:=zOA (P:=P) (Q:=Q) l k _ S' l' ob ob' _ (hS.put hd.1 undef) h hd.2 ho kk;grind [zPT]
end
section
open Go Go.RowKit
variable {qd:Prop}
set_option linter.unusedVariables false
abbrev SLF:=Sl->List zK->List PP->Prop
def Ex{α β γ:Type}(I:(α->β->γ->Prop)->Prop)(K:α->β->γ->Prop): Prop:=∀ G:Prop,I (λa b c=>K a b c->G)->G
def tG (p:PP->Prop): List PP->Prop
 | []=>True
 | f::r=>p f/\tG p r
theorem tG.all{p:PP->Prop}{Z:List Nat}{w:Ao}(h:∀ f,p f->f.h Z w): ∀ {F:List PP},tG p F->xI F Z w
 | [],_=>trivial
 | f::_,hp=>⟨h f hp.1,tG.all h hp.2⟩
def yD (Ls:List zK)(F:List PP)(f:PP): Prop:=∀ A w,qK A w Ls->xI F (bl Ls++A) w->f.h (bl Ls++A) w
def OKc (Ls:List zK)(F:List PP)(js ls:List Nat)(f:PP): Prop:=∀ A w,qK A w Ls->xI F (bl Ls++A) w->f.h (bl (xC Ls js)++Ac A Ls js ls) w
section
variable {Ls:List zK}{F:List PP}{js ls:List Nat}{τ:Type}{e:E τ}{te:Ap}{r:zK}{p:Option Ax}{c m:Nat}{l:List τ}
theorem gk (k:Nat): yD Ls F (xE F k):=λ_ _ _ h=>h.at k
theorem gn:yD Ls F (R e p c 0 []):=λ_ _ _ _=>rnil _ _ _ _ _
theorem gl (h:yD Ls F (R e p c m l)): yD Ls F (R e p c (List.length l) l):=λA w hO hF=>R.re (h A w hO hF)
theorem gL (h:yD Ls F (Ar e te r p c m l)): yD Ls F (Ar e te r p c (List.length l) l):=λA w hO hF=>Ar.re (h A w hO hF)
variable{α β:Type}{a:E α}{b:E β}{o:Nat}
theorem gf{bl:Nat}{x:α×β}(h:yD Ls F (Pt (qU a b) bl o x)): yD Ls F (Pt a bl o x.1):=λA w hO hF=>zSo.fst (h A w hO hF)
theorem gs{bl:Nat}{x:α×β}(h:yD Ls F (Pt (qU a b) bl o x)): yD Ls F (Pt b bl (o+a.n) x.2):=λA w hO hF=>zSo.snd (h A w hO hF)
theorem ck (k:Nat): OKc Ls F js ls (xE F k):=λA w hO hF=>(xE F k).mv (SS.pstep js ls) (hF.at k)
theorem cn:OKc Ls F js ls (R e p c 0 []):=λ_ _ _ _=>rnil _ _ _ _ _
end
section
variable {P:Aq}{n:Nat}{X:Hd qd}{ρ σ:Type}{Q:PQ ρ}{S:Sl}{Ls:List zK}{F:List PP}{m m1 m2:Option ρ}{os:Array Oper}{l:List Oper}{x y:Code}{id:Nat}
theorem cl{τ:Type}{e:E τ}{te:Ap}{r:zK}{p:Option Ax}{c m:Nat}{l:List τ}{js ls:List Nat}(i k:Nat)(hk:z2U (js++ls) Ls.length=true:=by kernel_rfl)(hr:Ls[i]?=Ah r:=by rfl)
  (hF:xE F k=Ar e te r p c m l:=by rfl) (hi:ls.contains i=true:=by kernel_rfl):OKc Ls F js ls (R e p c m l):=λA w hO hA=>by
 have h:SS True A Ls w 0 [] Ls F { tmps:=#[],defers:=[] } w:=⟨⟨rfl,rfl,λ_ _ h=>by cases h⟩,hO,qE.refl _ _,hA⟩;exact h.pl js ls i (by rw[<-hF];exact h.g k) hr hk hi
structure Gv (Ls:List zK)(S:Sl)(F:List PP)(I:SLF->Prop): Prop where
 go:∀ {qd A L0 w0 n a w},SS qd A L0 w0 n S Ls F a w->Ex I (λS2 L2 F2=>SS qd A L0 w0 n S2 L2 F2 a w)
theorem gv{I:SLF->Prop}{S2:Sl}{L2:List zK}{F2:List PP}(hk:∀ K,I K->K S2 L2 F2)(js:List Nat)(hF:tG (yD Ls F) F2)(hL:xC Ls js=L2:=by rfl)(hS:zUU S (S2.map Prod.fst)=Ah S2:=by kernel_rfl)(hn:js.Nodup:=by decide): Gv Ls S F I:=
 ⟨λh _ hG=>hk _ hG (hL▸h.tos js (tG.all (λ_ hf=>hf _ _ h.o h.f) hF) hS hn)⟩
def zPh (P:Aq)(y:Code)(Q:PQ ρ): PQ ρ:=λr=>Exit.then (y.wp P (Q r)) (Q r)
def inQ (id:Nat)(Q:PQ ρ): PQ ρ:=λr=>Exit.inBlock id (Q r)
def scQ (Q:PQ ρ): PQ ρ:=λr=>Exit.noGoto (Q r)
def jnQ (X:Hd qd)(n:Nat)(I:σ->SLF->Prop): PQ σ:=λs e a w=>match e with
 | .normal=>Ex (I s) λS L F=>SS qd X.A X.L0 X.w0 n S L F a w
 | _=>False
def lpQ (X:Hd qd)(n:Nat)(I:σ->SLF->Prop)(Q:PQ ρ): PQ (σ⊕ρ):=λo e a w=>match e with
 | .normal=>match o with
  | .inl s=>Ex (I s) λS L F=>SS qd X.A X.L0 X.w0 n S L F a w
  | .inr _=>False
 | e=>match o with
  | .inl _=>False
  | .inr r=>Q r e a w
def zSd (P:Aq)(fn:Func)(X:Hd qd)(post:ρ->(Am->List zK->List PP->Prop)->Prop): PQ ρ:=λr=>bodyPost P fn (Ret λv w=>Ex (post r) λv1 L1 F1=>v=v1/\Bk qd X.A X.L0 X.w0 L1 F1 w)
theorem zPh.np (h:NP Q): NP (zPh P y Q):=λr c a w=>h r c a w
theorem inQ.np (h:NP Q): NP (inQ id Q):=λr c a w=>h r c a w
theorem scQ.np (h:NP Q): NP (scQ Q):=λr c a w=>h r c a w
theorem jnQ.np{I:σ->SLF->Prop}: NP (jnQ X n I):=λ_ _ _ _ h=>h
theorem lpQ.np{I:σ->SLF->Prop}(h:NP Q): NP (lpQ X n I Q):=λo c a w hh=>by
 cases o with
 | inl s=>exact hh
 | inr r=>exact h r c a w hh
theorem zSd.np{fn:Func}{post:ρ->(Am->List zK->List PP->Prop)->Prop}: NP (zSd P fn X post):=λ_ _ _ _ h=>h.2
theorem J.of{p p':uJ}{Q':PQ ρ}(h:J P n X Q' p' S Ls F m)(hn:NP Q->NP Q')(k:∀ r a w,p'.go qd P X.A Ls (Q' r) a w->p.go qd P X.A Ls (Q r) a w): J P n X Q p S Ls F m:=
 ⟨λhq r hm a w hs=>k r a w (h.go (hn hq) r hm a w hs)⟩
theorem zF (h:J P n X (zPh P y Q) (.ops l.toArray l) S Ls F m): J P n X Q (.code (.seq (.region id l.toArray Ak) y)) S Ls F m:=h.of zPh.np λ_ _ _ h=>wp_seq (reg h)
theorem wR (h:J P n X Q (.ops l.toArray l) S Ls F m): J P n X Q (.code (.region id l.toArray Ak)) S Ls F m:=h.of (λh=>h) λ_ _ _ h=>reg h
theorem zG (h:J P n X Q (.code y) S Ls F m): J P n X (zPh P y Q) (.ops os []) S Ls F m:=
 ⟨λhq r hm a w hs=>show wpList P os (Exit.then (y.wp P (Q r)) (Q r)) [] a w from z0Q (h.go (λr c a w=>hq r c a w) r hm a w hs)⟩
theorem wH (h:J P n X Q (.ex .normal) S Ls F m): J P n X Q (.ops os []) S Ls F m:=⟨λhq r hm a w hs=>show wpList P os (Q r) [] a w from z0Q (h.go hq r hm a w hs)⟩
theorem wN (h:J P n X Q (.code y) S Ls F m): J P n X (zPh P y Q) (.ex .normal) S Ls F m:=
 ⟨λhq r hm a w hs=>h.go (λr c a w=>hq r c a w) r hm a w hs⟩
theorem uP (h:J P n X Q (.ex (.exit id)) S Ls F m): J P n X (zPh P y Q) (.ex (.exit id)) S Ls F m:=
 ⟨λhq r hm a w hs=>h.go (λr c a w=>hq r c a w) r hm a w hs⟩
theorem yH (h:J P n X Q (.ex .ret) S Ls F m): J P n X (zPh P y Q) (.ex .ret) S Ls F m:=
 ⟨λhq r hm a w hs=>h.go (λr c a w=>hq r c a w) r hm a w hs⟩
theorem zS (h:J P n X (zPh P y Q) (.code x) S Ls F m): J P n X Q (.code (.seq x y)) S Ls F m:=h.of zPh.np λ_ _ _ h=>wp_seq h
theorem yU (h:J P n X Q (.ex .normal) S Ls F m): J P n X Q (.code .skip) S Ls F m:=h.of (λh=>h) λ_ _ _ h=>wp_skip h
theorem jss (h:J P n X Q (.code y) S Ls F m): J P n X Q (.code (.seq .skip y)) S Ls F m:=h.of (λh=>h) λ_ _ _ h=>wp_seq (wp_skip (z6Q h))
theorem jst (h:J P n X Q (.code y) S Ls F m): J P n X (zPh P y Q) (.code .skip) S Ls F m:=yU (wN h)
theorem jlb{s:Nat}(h:J P n X Q (.ex .normal) S Ls F m): J P n X Q (.code (.label s)) S Ls F m:=h.of (λh=>h) λ_ _ _ h=>wp_label h
theorem qJ (h:J P n X (inQ id Q) (.code x) S Ls F m): J P n X Q (.code (.block id x)) S Ls F m:=h.of inQ.np λ_ _ _ h=>wp_block h
theorem vA (h:J P n X Q (.ex .normal) S Ls F m): J P n X (inQ id Q) (.ex .normal) S Ls F m:=⟨λhq r hm a w hs=>h.go (λr c a w=>hq r c a w) r hm a w hs⟩
theorem uU (h:J P n X Q (.ex .normal) S Ls F m): J P n X (inQ id Q) (.ex (.exit id)) S Ls F m:=⟨λhq r hm a w hs=>show Exit.inBlock id (Q r) (.exit id) a w from z9Z (h.go (λr c a w=>hq r c a w) r hm a w hs)⟩
theorem jbm{id':Nat}(h:J P n X Q (.ex (.exit id')) S Ls F m)(hne:Nat.beq id' id=false:=by rfl): J P n X (inQ id Q) (.ex (.exit id')) S Ls F m:=⟨λhq r hm a w hs=>show Exit.inBlock id (Q r) (.exit id') a w from z7k hne (h.go (λr c a w=>hq r c a w) r hm a w hs)⟩
theorem xS (h:J P n X Q (.ex .ret) S Ls F m): J P n X (inQ id Q) (.ex .ret) S Ls F m:=⟨λhq r hm a w hs=>h.go (λr c a w=>hq r c a w) r hm a w hs⟩
theorem jcs (h:J P n X (scQ Q) (.code x) S Ls F m): J P n X Q (.code (.scope x)) S Ls F m:=h.of scQ.np λ_ _ _ h=>wp_scope_straight h
theorem jcn (h:J P n X Q (.ex .normal) S Ls F m): J P n X (scQ Q) (.ex .normal) S Ls F m:=⟨λhq r hm a w hs=>h.go (λr c a w=>hq r c a w) r hm a w hs⟩
theorem jce (h:J P n X Q (.ex (.exit id)) S Ls F m): J P n X (scQ Q) (.ex (.exit id)) S Ls F m:=⟨λhq r hm a w hs=>h.go (λr c a w=>hq r c a w) r hm a w hs⟩
theorem jcr (h:J P n X Q (.ex .ret) S Ls F m): J P n X (scQ Q) (.ex .ret) S Ls F m:=⟨λhq r hm a w hs=>h.go (λr c a w=>hq r c a w) r hm a w hs⟩
theorem uT (h:J P n X Q (.ex (.exit id)) S Ls F m): J P n X Q (.code (.exit id)) S Ls F m:=h.of (λh=>h) λ_ _ _ h=>wp_exit h
theorem wJ (h:J P n X Q (.ex .ret) S Ls F m): J P n X Q (.code .ret) S Ls F m:=h.of (λh=>h) λ_ _ _ h=>wp_ret h
theorem zU{c:As}{b:Bool}(hc:zV S c=Ah (.bool b))(hx:J P n X Q (.code x) S Ls F m1)(hy:J P n X Q (.code y) S Ls F m2): J P n X Q (.code (.cond c x y)) S Ls F (if b=Aj then m1 else m2):=
 ⟨λhq r hm a w hs=>z22 hs.s hc (λhb=>hx.go hq r (ifT hb hm) a w hs) (λhb=>hy.go hq r (ifF hb hm) a w hs)⟩
theorem jct{c:As}(hc:zV S c=Ah (.bool Aj))(hx:J P n X Q (.code x) S Ls F m): J P n X Q (.code (.cond c x y)) S Ls F m:=
 ⟨λhq r hm a w hs=>z22 hs.s hc (λ_=>hx.go hq r hm a w hs) (λhb=>by cases hb)⟩
theorem jcf{c:As}(hc:zV S c=Ah (.bool Ak))(hy:J P n X Q (.code y) S Ls F m): J P n X Q (.code (.cond c x y)) S Ls F m:=
 ⟨λhq r hm a w hs=>z22 hs.s hc (λhb=>by cases hb) (λ_=>hy.go hq r hm a w hs)⟩
theorem jnl{τ:Type}{e:E τ}{p:Option Ax}{c0 k:Nat}{l:List τ}{c:As}(hc:zV S c=Ah (.bool p.isNone))(g:yD Ls F (R e p c0 k l))(hl:l=[]->m1=m)
  (hx:J P n X Q (.code x) S Ls F m1) (hy:J P n X Q (.code y) S Ls F m):J P n X Q (.code (.cond c x y)) S Ls F m:=
 ⟨λhq r hm a w hs=>z22 hs.s hc (λhb=>hx.go hq r ((hl (R.isNil (g _ _ hs.o hs.f) hb)).trans hm) a w hs) (λ_=>hy.go hq r hm a w hs)⟩
theorem yP{s:σ}{I:σ->SLF->Prop}(g:Gv Ls S F (I s)): J P n X (lpQ X n I Q) (.ex .normal) S Ls F (Ah (.inl s)):=
 ⟨λ_ r hm a w hs=>by cases hm;exact g.go hs⟩
theorem xB{r:ρ}{I:σ->SLF->Prop}(h:J P n X Q (.ex (.exit id)) S Ls F (Ah r)): J P n X (lpQ X n I Q) (.ex (.exit id)) S Ls F (Ah (.inr r)):=
 ⟨λhq o hm a w hs=>by cases hm;exact h.go (λr c a w hh=>hq (.inr r) c a w hh) r rfl a w hs⟩
theorem jlr{r:ρ}{I:σ->SLF->Prop}(h:J P n X Q (.ex .ret) S Ls F (Ah r)): J P n X (lpQ X n I Q) (.ex .ret) S Ls F (Ah (.inr r)):=
 ⟨λhq o hm a w hs=>by cases hm;exact h.go (λr c a w hh=>hq (.inr r) c a w hh) r rfl a w hs⟩
theorem zX{s:σ}{I:σ->SLF->Prop}(g:Gv Ls S F (I s)): J P n X (jnQ X n I) (.ex .normal) S Ls F (Ah s):=
 ⟨λ_ r hm a w hs=>by cases hm;exact g.go hs⟩
variable{B:σ->Option (σ⊕ρ)}{s0:σ}
theorem jlp{c:Code}(I:σ->SLF->Prop)(g:Gv Ls S F (I s0))
  (hb:∀ s K,(∀ {S L F},J P n X (lpQ X n I Q) (.code c) S L F (B s)->K S L F)->I s K):J P n X Q (.code (.loop c)) S Ls F (zN B s0):=by
 refine⟨λhq r hm a w hs=>?_⟩;refine loop_m (λs a w=>Ex (I s) λS L F=>SS qd X.A X.L0 X.w0 n S L F a w) hm (g.go hs) λs a w o hI hB hr=>?_;refine hI _ (hb s _ λ{S L F} hj hs=>?_);refine wp_mono (hj.go (lpQ.np hq) o hB a w hs) λe a w h=>?_;cases o with
 | inl s'=>cases e <;> first | exact⟨s',rfl,h⟩ | exact h.elim
 | inr r'=>
  cases hr r' rfl;cases e <;> first | exact h.elim | exact h
variable{f:σ->Option ρ}
theorem jjn{m1:Option σ}(I:σ->SLF->Prop)(hx:J P n X (jnQ X n I) (.code x) S Ls F m1)
  (hy:∀ s K,(∀ {S L F},J P n X Q (.code y) S L F (f s)->K S L F)->I s K):J P n X Q (.code (.seq x y)) S Ls F (m1.bind f):=by
 refine⟨λhq r hm a w hs=>?_⟩;obtain⟨s,h1,h2⟩:=bnd hm;refine z9p (λa w=>Ex (I s) λS L F=>SS qd X.A X.L0 X.w0 n S L F a w) (wp_mono (hx.go jnQ.np s h1 a w hs) λe a w h=>?_) λa w hI=>hI _ (hy s _ λ{S L F} hj hs=>hj.go hq r h2 a w hs);cases e <;> first | exact h | exact h.elim
theorem jjo{m1:Option (σ⊕ρ)}(I:σ->SLF->Prop)(hx:J P n X (lpQ X n I Q) (.code x) S Ls F m1)
  (hy:∀ s K,(∀ {S L F},J P n X Q (.code y) S L F (f s)->K S L F)->I s K):J P n X Q (.code (.seq x y)) S Ls F (yG m1 f):=by
 refine⟨λhq r hm a w hs=>?_⟩;obtain⟨o,h1,h2⟩:=bnd hm;refine z9p (λa w=>∃ s,o=.inl s/\Ex (I s) λS L F=>SS qd X.A X.L0 X.w0 n S L F a w) (wp_mono (hx.go (lpQ.np hq) o h1 a w hs) λe a w h=>?_) λa w hI=>?_
 ·cases o with
  | inl s=>cases e <;> first | exact⟨s,rfl,h⟩ | exact h.elim
  | inr r'=>
   cases h2;cases e <;> first | exact h.elim | exact h
 ·obtain⟨s,rfl,hI⟩:=hI;exact hI _ (hy s _ λ{S L F} hj hs=>hj.go hq r h2 a w hs)
theorem jjc{m1:Option σ}(I:σ->SLF->Prop)(hx:J P n X (jnQ X n I) (.code x) S Ls F m1)
  (hy:∀ s K,(∀ {S L F},J P n X Q (.ex .normal) S L F (f s)->K S L F)->I s K):J P n X Q (.code x) S Ls F (m1.bind f):=by
 refine⟨λhq r hm a w hs=>?_⟩;obtain⟨s,h1,h2⟩:=bnd hm;refine z8k (λa w=>Ex (I s) λS L F=>SS qd X.A X.L0 X.w0 n S L F a w) (wp_mono (hx.go jnQ.np s h1 a w hs) λe a w h=>?_) λa w hI=>hI _ (hy s _ λ{S L F} hj hs=>hj.go hq r h2 a w hs);cases e <;> first | exact h | exact h.elim
theorem jjp (I:SLF->Prop)(hx:J P n X (jnQ X n λ_:Unit=>I) (.code x) S Ls F (Ah ()))
  (hy:∀ K:SLF,(∀ {S L F},J P n X Q (.code y) S L F m->K S L F)->I K):J P n X Q (.code (.seq x y)) S Ls F m:=by
 refine⟨λhq r hm a w hs=>?_⟩;refine z9p (λa w=>Ex I λS L F=>SS qd X.A X.L0 X.w0 n S L F a w) (wp_mono (hx.go jnQ.np () rfl a w hs) λe a w h=>?_) λa w hI=>hI _ (hy _ λ{S L F} hj hs=>hj.go hq r hm a w hs);cases e <;> first | exact h | exact h.elim
theorem jjq (I:SLF->Prop)(hx:J P n X (jnQ X n λ_:Unit=>I) (.code x) S Ls F (Ah ()))
  (hy:∀ K:SLF,(∀ {S L F},J P n X Q (.ex .normal) S L F m->K S L F)->I K):J P n X Q (.code x) S Ls F m:=by
 refine⟨λhq r hm a w hs=>?_⟩;refine z8k (λa w=>Ex I λS L F=>SS qd X.A X.L0 X.w0 n S L F a w) (wp_mono (hx.go jnQ.np () rfl a w hs) λe a w h=>?_) λa w hI=>hI _ (hy _ λ{S L F} hj hs=>hj.go hq r hm a w hs);cases e <;> first | exact h | exact h.elim
theorem wG{p:uJ}{b:Bool}(t:Nat)(hl:yF S t=Ah (.bool b))(h1:J P n X Q p ((t,.bool Aj)::S) Ls F m1)(h2:J P n X Q p ((t,.bool Ak)::S) Ls F m2): J P n X Q p S Ls F (if b=Aj then m1 else m2):=
 ⟨λhq r hm a w hs=>by
  cases b with
  | true=>exact h1.go hq r hm a w (hs.upd _ hl rfl)
  | false=>exact h2.go hq r hm a w (hs.upd _ hl rfl)⟩
theorem jsp{p:uJ}{b:Bool}(t:Nat)(hl:yF S t=Ah (.bool b))(h1:b=Aj->J P n X Q p ((t,.bool Aj)::S) Ls F m)(h2:b=Ak->J P n X Q p ((t,.bool Ak)::S) Ls F m): J P n X Q p S Ls F m:=
 ⟨λhq r hm a w hs=>by
  cases b with
  | true=>exact(h1 rfl).go hq r hm a w (hs.upd _ hl rfl)
  | false=>exact(h2 rfl).go hq r hm a w (hs.upd _ hl rfl)⟩
theorem jup{p:uJ}{v:Am}(t:Nat)(v':Am)(hl:yF S t=Ah v)(e:v=v')(h:J P n X Q p ((t,v')::S) Ls F m): J P n X Q p S Ls F m:=
 ⟨λhq r hm a w hs=>h.go hq r hm a w (hs.upd v' hl e)⟩
theorem yT{p:uJ}{m1:Option σ}{f:σ->Option ρ}(h:∀ x,m1=Ah x->J P n X Q p S Ls F (f x)): J P n X Q p S Ls F (m1.bind f):=
 ⟨λhq r hm a w hs=>by obtain⟨x,h1,h2⟩:=bnd hm;exact(h x h1).go hq r h2 a w hs⟩
theorem jno{p:uJ}: J P n X Q p S Ls F (Ai:Option ρ):=⟨λ_ _ hm=>by cases hm⟩
section
variable {τ:Type}{e:E τ}{te:Ap}{r:zK}{p0:Option Ax}{c k:Nat}{z:List τ}{p:uJ}
theorem jre (q t:Nat)(hF:xE F q=R e p0 c k z)(hl:yF S t=Ah (.slice p0 k c))(h:J P n X Q p ((t,sv p0 z c)::S) Ls (Rl e p0 c z::F) m): J P n X Q p S Ls F m:=
 ⟨λhq r hm a w hs=>by
  have hf:(R e p0 c k z).h (bl Ls++X.A) w:=hF▸hs.g q;exact h.go hq r hm a w ((hs.upd (sv p0 z c) hl (congrArg (λq:Nat=>Am.slice p0 q c) (R.ln hf))).add (R.re hf))⟩
theorem jrE (q t:Nat)(hF:xE F q=Ar e te r p0 c k z)(hl:yF S t=Ah (.slice p0 k c))(h:J P n X Q p ((t,sv p0 z c)::S) Ls (Al e te r p0 c z::F) m): J P n X Q p S Ls F m:=
 ⟨λhq r0 hm a w hs=>by
  have hf:(Ar e te r p0 c k z).h (bl Ls++X.A) w:=hF▸hs.g q;exact h.go hq r0 hm a w ((hs.upd (sv p0 z c) hl (congrArg (λq:Nat=>Am.slice p0 q c) (Ar.ln hf))).add (Ar.re hf))⟩
theorem jbl (L':Nat->List zK)(g:yD Ls F (R e p0 c k z))(hL:L' k=Ls)(h:J P n X Q p S (L' z.length) (Rl e p0 c z::F) m): J P n X Q p S Ls F m:=by
 refine⟨λhq r hm a w hs=>?_⟩;have hf:=g _ _ hs.o hs.f;have e1:L' z.length=Ls:=by rw[<-hL,R.ln hf]
 rw[e1] at h;exact h.go hq r hm a w (hs.add (R.re hf))
theorem jbL (L':Nat->List zK)(g:yD Ls F (Ar e te r p0 c k z))(hL:L' k=Ls)(h:J P n X Q p S (L' z.length) (Al e te r p0 c z::F) m): J P n X Q p S Ls F m:=by
 refine⟨λhq r0 hm a w hs=>?_⟩;have hf:=g _ _ hs.o hs.f;have e1:L' z.length=Ls:=by rw[<-hL,Ar.ln hf]
 rw[e1] at h;exact h.go hq r0 hm a w (hs.add (Ar.re hf))
end
end
def nths (F:List PP): List Nat->List PP
 | []=>[]
 | i::is=>xE F i::nths F is
section
variable {Ls:List zK}{F:List PP}{js ls:List Nat}
theorem gq:∀(is:List Nat),tG (yD Ls F) (nths F is)
 | []=>trivial
 | i::is=>⟨gk i,gq is⟩
theorem cq:∀(is:List Nat),tG (OKc Ls F js ls) (nths F is)
 | []=>trivial
 | i::is=>⟨ck i,cq is⟩
end
def lookP:Sl->Nat->(Am->Prop)->Prop
 | [],_,_=>False
 | (i,v)::r,j,k=>bif Nat.beq i j then k v else lookP r j k
def z9T (S:Sl): List Nat->Sl->(Sl->Prop)->Prop
 | [],S1,k=>k S1
 | d::ds,S1,k=>lookP S d λv=>z9T S ds ((d,v)::S1) k
def nthP:List PP->Nat->(PP->Prop)->Prop
 | [],_,_=>False
 | f::_,0,k=>k f
 | _::r,i+1,k=>nthP r i k
def z9M (F:List PP): List Nat->(List PP->Prop)->Prop
 | [],k=>k []
 | i::is,k=>nthP F i λf=>z9M F is λF'=>k (f::F')
def putR:List zK->Nat->zK->(List zK->Prop)->Prop
 | [],0,r,k=>k [r]
 | [],i+1,r,k=>putR [] i r λl=>k ([]::l)
 | _::l,0,r,k=>k (r::l)
 | a::l,i+1,r,k=>putR l i r λl'=>k (a::l')
def updC:List zK->List (Nat×zK)->(List zK->Prop)->Prop
 | L,[],k=>k L
 | L,(i,r)::us,k=>putR L i r λL'=>updC L' us k
abbrev KP:=List Nat->List (Nat×zK)->List Nat->Sl->List PP->Prop
def kp (S:Sl)(L:List zK)(F:List PP)(K:SLF): KP:=λks us fs S1 F1=>z9T S ks S1 λS'=>updC L us λL'=>z9M F fs λF'=>z8u F1 F' λF2=>K S' L' F2
section
variable {P:Aq}{n:Nat}{X:Hd qd}{ρ σ:Type}{Q:PQ ρ}{S:Sl}{Ls:List zK}{F:List PP}{m m1 m2:Option ρ}{x y:Code}
theorem wY{B:σ->Option (σ⊕ρ)}{s0:σ}{c:Code}(I:σ->KP->Prop)(g:Gv Ls S F (λK=>I s0 (kp S Ls F K)))
  (hb:∀ s K,(∀ {S' L' F'},J P n X (lpQ X n (λs K=>I s (kp S Ls F K)) Q) (.code c) S' L' F' (B s)->K S' L' F')->I s (kp S Ls F K)):J P n X Q (.code (.loop c)) S Ls F (zN B s0):=jlp (λs K=>I s (kp S Ls F K)) g hb
theorem qQ{m1:Option σ}{f:σ->Option ρ}(I:σ->KP->Prop)(hx:J P n X (jnQ X n λs K=>I s (kp S Ls F K)) (.code x) S Ls F m1)
  (hy:∀ s K,(∀ {S' L' F'},J P n X Q (.code y) S' L' F' (f s)->K S' L' F')->I s (kp S Ls F K)):J P n X Q (.code (.seq x y)) S Ls F (m1.bind f):=jjn (λs K=>I s (kp S Ls F K)) hx hy
theorem z3u{m1:Option (σ⊕ρ)}{f:σ->Option ρ}(I:σ->KP->Prop)(hx:J P n X (lpQ X n (λs K=>I s (kp S Ls F K)) Q) (.code x) S Ls F m1)
  (hy:∀ s K,(∀ {S' L' F'},J P n X Q (.code y) S' L' F' (f s)->K S' L' F')->I s (kp S Ls F K)):J P n X Q (.code (.seq x y)) S Ls F (yG m1 f):=jjo (λs K=>I s (kp S Ls F K)) hx hy
theorem jjcK{m1:Option σ}{f:σ->Option ρ}(I:σ->KP->Prop)(hx:J P n X (jnQ X n λs K=>I s (kp S Ls F K)) (.code x) S Ls F m1)
  (hy:∀ s K,(∀ {S' L' F'},J P n X Q (.ex .normal) S' L' F' (f s)->K S' L' F')->I s (kp S Ls F K)):J P n X Q (.code x) S Ls F (m1.bind f):=jjc (λs K=>I s (kp S Ls F K)) hx hy
theorem zYH (I:KP->Prop)(hx:J P n X (jnQ X n λ(_:Unit) K=>I (kp S Ls F K)) (.code x) S Ls F (Ah ()))
  (hy:∀ K:SLF,(∀ {S' L' F'},J P n X Q (.code y) S' L' F' m->K S' L' F')->I (kp S Ls F K)):J P n X Q (.code (.seq x y)) S Ls F m:=jjp (λK=>I (kp S Ls F K)) hx hy
theorem jjqK (I:KP->Prop)(hx:J P n X (jnQ X n λ(_:Unit) K=>I (kp S Ls F K)) (.code x) S Ls F (Ah ()))
  (hy:∀ K:SLF,(∀ {S' L' F'},J P n X Q (.ex .normal) S' L' F' m->K S' L' F')->I (kp S Ls F K)):J P n X Q (.code x) S Ls F m:=jjq (λK=>I (kp S Ls F K)) hx hy
end
end
section
open Go Go.RowKit
variable {qd:Prop}
set_option linter.unusedVariables false
def zQa (v:Am)(k:List Am->Prop): Prop:=match v with
 | .agg ⟨cs⟩=>k cs
 | v=>k [v]
variable{v:Am}
theorem zTT{k:List Am->Prop}: zQa v k=k v.cells.toList:=by cases v <;> rfl
def z6d{β:Type}: List Am->Nat->(Am->Option β)->Option β
 | [],_,_=>Ai
 | v::_,0,k=>k v
 | _::l,o+1,k=>z6d l o k
theorem zXK{β:Type}: ∀ {l:List Am} {o:Nat} {k:Am->Option β},z6d l o k=(l[o]?).bind k
 | [],_,_=>by simp[z6d]
 | v::_,0,_=>rfl
 | _::l,o+1,k=>by simp[z6d,zXK]
def zYn{β:Type}: Nat->List Am->(List Am->Option β)->Option β
 | 0,_,k=>k []
 | _+1,[],_=>Ai
 | j+1,v::l,k=>zYn j l λr=>k (v::r)
theorem zWU{β:Type}: ∀ {j:Nat} {l:List Am} {k:List Am->Option β} {r:β},zYn j l k=Ah r->k (l.take j)=Ah r/\j<=l.length
 | 0,_,_,_,h=>⟨h,QT _⟩
 | _+1,[],_,_,h=>by cases h
 | j+1,v::l,k,r,h=>by
  obtain⟨h1,h2⟩:=zWU (j:=j) h;grind
def z0O{β:Type}: Nat->List Am->(List Am->Option β)->Option β
 | 0,l,k=>k l
 | _+1,[],_=>Ai
 | o+1,_::l,k=>z0O o l k
theorem zWw{β:Type}: ∀ {o:Nat} {l:List Am} {k:List Am->Option β} {r:β},z0O o l k=Ah r->k (l.drop o)=Ah r/\o<=l.length
 | 0,_,_,_,h=>⟨h,QT _⟩
 | _+1,[],_,_,h=>by cases h
 | o+1,v::l,k,r,h=>by
  obtain⟨h1,h2⟩:=zWw (o:=o) h;grind
def z7f:List Am->List Am->(List Am->Prop)->Prop
 | l,[],k=>k l
 | [],_::_,_=>False
 | _::l,v::vs,k=>z7f l vs λl'=>k (v::l')
theorem z1p:∀ {l v:List Am} {k:List Am->Prop},z7f l v k->k (v++l.drop v.length)
 | l,[],k,h=>by simpa [z7f] using h
 | [],_::_,_,h=>h.elim
 | _::l,v::vs,k,h=>by have:=z1p (l:=l) (v:=vs) h;grind
def putC:Nat->List Am->List Am->(List Am->Prop)->Prop
 | 0,l,v,k=>z7f l v k
 | _+1,[],_,_=>False
 | o+1,a::l,v,k=>putC o l v λl'=>k (a::l')
theorem z0i:∀ {o:Nat} {l v:List Am} {k:List Am->Prop},putC o l v k->k (l.take o++v++l.drop (o+v.length))
 | 0,l,v,k,h=>by have:=z1p h;grind
 | _+1,[],_,_,h=>h.elim
 | o+1,a::l,v,k,h=>by
  have:=z0i (o:=o) (l:=l) h;grind
structure yO{τ:Type}(e:E τ) where
 op:τ->List Am->List PP->(List Am->List PP->Prop)->Prop
 spec:∀ {Z:List Nat} {w:Ao} {cs:List Am} {x:τ} {tl:List Am} {fs:List PP} {k:List Am->List PP->Prop},e.rd Z w cs x->xI fs Z w->op x tl fs k->∃ F',k (cs++tl) F'/\xI F' Z w
def oI{kd:Au}: yO (zT kd):=⟨λx tl fs k=>k (.int kd x::tl) fs,by rintro _ _ _ _ _ _ _ rfl h1 h2;grind⟩
def oB:yO tH:=⟨λx tl fs k=>k (.bool x::tl) fs,by rintro _ _ _ _ _ _ _ rfl h1 h2;grind⟩
def oS:yO qP:=⟨λx tl fs k=>k (vs x::tl) fs,by rintro _ _ _ _ _ _ _ rfl h1 h2;grind⟩
def oL{τ:Type}{e:E τ}: yO (wF e):=⟨λl tl fs k=>∀ p c,k (sv p l c::tl) (Rl e p c l::fs),by
 rintro _ _ _ _ _ _ _ ⟨p,c,rfl,h⟩ h1 h2;grind [R.of,xI]⟩
def oP{α β:Type}{e:E α}{f:E β}(a:yO e)(b:yO f): yO (qU e f):=⟨λx tl fs k=>b.op x.2 tl fs λtl fs=>a.op x.1 tl fs k,by
 rintro _ _ _ _ _ _ _ ⟨c1,c2,rfl,h1,h2⟩ h3 h4;obtain⟨F1,h5,h6⟩:=b.spec h2 h3 h4;obtain⟨F2,h7,h8⟩:=a.spec h1 h6 h5;grind⟩
def sI{τ:Type}{e:E τ}: tT e e:=tT.id e
def mkC (ag:Bool)(cs:List Am)(k:Am->Prop): Prop:=match ag with
 | true=>k (.agg cs.toArray)
 | false=>match cs with
  | [v]=>k v
  | _=>False
variable{cs:List Am}
theorem zSx{ag:Bool}{k:Am->Prop}(h:mkC ag cs k)(hv:mkV ag cs=Ah v): k v:=by
 cases ag with
 | true=>cases hv;exact h
 | false=>
  match cs,h,hv with
  | [u],h,hv=>cases hv;exact h
def RD{τ:Type}(e:E τ)(Ls:List zK)(F:List PP)(cs:List Am)(l:List τ): Prop:=∀ A w,qK A w Ls->xI F (bl Ls++A) w->e.rdL (bl Ls++A) w cs l
def RV{τ:Type}(e:E τ)(Ls:List zK)(F:List PP)(cs:List Am)(x:τ): Prop:=∀ A w,qK A w Ls->xI F (bl Ls++A) w->e.rd (bl Ls++A) w cs x
section
variable {P:Aq}{n:Nat}{X:Hd qd}{ρ σ:Type}{Q:PQ ρ}{S:Sl}{Ls:List zK}{F:List PP}{m m1 m2:Option ρ}{os:Array Oper}{l:List Oper}{x y:As}{p p':uJ}
variable {d t:Nat}{ty ty2:Ap}{pos pos2:String}{af af2:Array Edge}{g g2:Option (Nat×Bool)}{kd:Au}
theorem zB{S':Sl}{l':List Oper}{ob:List Ob}(k:Nat)(hr:z6e os l k S []=Ah (S',l',ob))(h:J P n X Q (.ops os l') S' Ls F m)
  (hd:(zYt (l.take k)).all (λd=>Nat.blt d n)=true:=by kernel_rfl) (ho:zUn P ob=true:=by kernel_rfl):J P n X Q (.ops os l) S Ls F m:=
 ⟨λhq r hm a w hs=>(zOA l k S S' l' [] ob a hs.s hr hd ho λa' hS=>h.go hq r hm a' w (hs.slot hS)).2⟩
theorem zI{op:Op}(v:Am)(h:J P n X Q (.ops os l) ((d,v)::S) Ls F m)(hv:pv P S op=Ah v:=by kernel_rfl)(hd:Nat.blt d n=true:=by kernel_rfl)(hg:qI os S g=Ah true:=by kernel_rfl):
  J P n X Q (.ops os (⟨Ah d,op,ty,pos,af,g⟩::l)) S Ls F m:=
 ⟨λhq r hm a w hs=>zND (v:=v) (w':=w) hg hs.s (zVv hs.s hv _ _ _ _ _ w) (h.go hq r hm _ w (hs.slot (hs.s.put hd v)))⟩
theorem jv{op:Op}{v:Am}(hv:∀ {a:Ay},qV a n S->∀ w',(Av a.eval ⟨Ah d,op,ty,pos,af,g⟩).run P w'=.ok (.value v) w')(h:J P n X Q (.ops os l) ((d,v)::S) Ls F m)
  (hd:Nat.blt d n=true:=by kernel_rfl) (hg:qI os S g=Ah true:=by kernel_rfl):J P n X Q (.ops os (⟨Ah d,op,ty,pos,af,g⟩::l)) S Ls F m:=
 ⟨λhq r hm a w hs=>sl (z7X hs (hv hs.s) (λa h'=>h.go hq r hm a w h') hd hg)⟩
variable{b o:Nat}
theorem zL{s f:Nat}(off:Nat)(hx:zV S x=Ah (pt b o))(h:J P n X Q (.ops os l) ((d,pt b (o+off))::S) Ls F m)
  (hf:zUL P s f=Ah off:=by kernel_rfl) (hd:Nat.blt d n=true:=by kernel_rfl) (hg:qI os S g=Ah true:=by kernel_rfl):J P n X Q (.ops os (⟨Ah d,.fieldAddr s x f,ty,pos,af,g⟩::l)) S Ls F m:=
 ⟨λhq r hm a w hs=>zND (w':=w) hg hs.s (zVv hs.s (v:=pt b (o+off)) (by simp[pv,hx,hf]) _ _ _ _ _ w) (h.go hq r hm _ w (hs.slot (hs.s.put hd _)))⟩
variable{fr:Nat×Nat}
theorem zZ{c:List Am}{te:Ap}(i:Nat)(hx:zV S x=Ah (pt b o))(hr:Ls[i]?=Ah [(b,.cells c.toArray te fr)])(hv:z6d c o Ah=Ah v)(h:J P n X Q (.ops os l) ((d,v)::S) Ls F m)
  (ht:uE P t=Ah (Ak,1):=by kernel_rfl) (hd:Nat.blt d n=true:=by kernel_rfl) (hg:qI os S g=Ah true:=by kernel_rfl):J P n X Q (.ops os (⟨Ah d,.load t x,ty,pos,af,g⟩::l)) S Ls F m:=
 ⟨λhq r hm a w hs=>sl (zOF i v hs hx hr (λa h'=>h.go hq r hm a w h') (by
  rw[zXK] at hv;have hv':c[o]?=Ah v:=by cases hc:c[o]? <;> simp_all
  have hlt:=(Qk.1 hv').1;unfold zKu;rw[ht];have:Nat.ble (o+1) c.toArray.size=true:=by rw[UL,QX];exact hlt
  simp only[this,Qx,z0a];grind [List.drop_eq_getElem_cons,mkV]) hd hg)⟩
theorem qO{c:List Am}{te:Ap}(i k:Nat)(hx:zV S x=Ah (pt b o))(hr:Ls[i]?=Ah [(b,.cells c.toArray te fr)])(hv:z0O o c (λl=>zYn k l Ah)=Ah cs)(h:J P n X Q (.ops os l) ((d,.agg cs.toArray)::S) Ls F m)
  (ht:uE P t=Ah (Aj,k):=by kernel_rfl) (hd:Nat.blt d n=true:=by kernel_rfl) (hg:qI os S g=Ah true:=by kernel_rfl):J P n X Q (.ops os (⟨Ah d,.load t x,ty,pos,af,g⟩::l)) S Ls F m:=
 ⟨λhq r hm a w hs=>sl (zOF i (.agg cs.toArray) hs hx hr (λa h'=>h.go hq r hm a w h') (by
  obtain⟨h1,h2⟩:=zWw hv;obtain⟨h3,h4⟩:=zWU h1;rw[QL] at h4;unfold zKu;rw[ht];have:Nat.ble (o+k) c.toArray.size=true:=by rw[UL];simp;omega
  simp only[this,Qx,z0a,mkV];grind) hd hg)⟩
section
variable {τ:Type}{e:E τ}{te:Ap}{r:zK}{p0:Option Ax}{c k0:Nat}{z:List τ}{ix:Int}
theorem yV{f:τ->Option ρ}(k:Nat)(hF:xE F k=R e p0 c k0 z)(hx:zV S x=Ah (.slice p0 k0 c))(hy:zV S y=Ah (.int kd ix))
  (h:∀ u b o,J P n X Q (.ops os l) ((d,pt b o)::S) Ls (Pt e b o u::F) (f u))
  (ht:uM P t=Ah e.n:=by kernel_rfl) (hd:Nat.blt d n=true:=by kernel_rfl) (hg:qI os S g=Ah true:=by kernel_rfl) :
  J P n X Q (.ops os (⟨Ah d,.indexAddr t x y,ty,pos,af,g⟩::l)) S Ls F ((zD z ix).bind f):=
 ⟨λhq r hm a w hs=>by
  obtain⟨u,h1,h2⟩:=bnd hm;exact sl (z3C hs (hF▸hs.g k) hx hy h1 (λb o a h'=>(h u b o).go hq r h2 a w h') ht hd hg)⟩
theorem yX{u:τ}(ag:Bool)(op:yO e)(hP:yD Ls F (Pt e b o u))(hx:zV S x=Ah (pt b o))
  (h:op.op u [] F λcs F'=>mkC ag cs λv=>J P n X Q (.ops os l) ((d,v)::S) Ls F' m) (ht:uE P t=Ah (ag,e.n):=by kernel_rfl) (hag:ag=Aj\/e.n=1:=by first | exact .inl rfl | exact .inr rfl)
  (hd:Nat.blt d n=true:=by kernel_rfl) (hg:qI os S g=Ah true:=by kernel_rfl):J P n X Q (.ops os (⟨Ah d,.load t x,ty,pos,af,g⟩::l)) S Ls F m:=
 ⟨λhq r hm a w hs=>sl (z5s ag hs (hP _ _ hs.o hs.f) hx (λci hc v hv a h'=>by
  obtain⟨F',h1,h2⟩:=op.spec hc h'.f h;rw[QE] at h1;exact(zSx h1 hv).go hq r hm a w ⟨h'.s,h'.o,h'.e,h2⟩) ht hag hd hg)⟩
end
section
variable {τ ω:Type}{e:E τ}{ef:E ω}{te:Ap}{r:zK}{p0:Option Ax}{c k0:Nat}{z:List τ}{ix:Int}
theorem jia{f:τ->Option ρ}(k:Nat)(hF:xE F k=Ar e te r p0 c k0 z)(hx:zV S x=Ah (.slice p0 k0 c))(hy:zV S y=Ah (.int kd ix))
  (h:∀ u,zD z ix=Ah u->∀ b o,p0=Ah ⟨b,o,Ai⟩->J P n X Q (.ops os l) ((d,pt b (o+ix.toNat*e.n))::S) Ls F (f u))
  (ht:uM P t=Ah e.n:=by kernel_rfl) (hd:Nat.blt d n=true:=by kernel_rfl) (hg:qI os S g=Ah true:=by kernel_rfl) :
  J P n X Q (.ops os (⟨Ah d,.indexAddr t x y,ty,pos,af,g⟩::l)) S Ls F ((zD z ix).bind f):=
 ⟨λhq r hm a w hs=>by
  obtain⟨u,h1,h2⟩:=bnd hm;exact sl (z0E hs (hF▸hs.g k) hx hy h1 (λb o hp a h'=>(h u h1 b o hp).go hq r h2 a w h') ht hd hg)⟩
theorem jlA{u:τ}(i k:Nat)(s:tT e ef)(ag:Bool)(op:yO ef)(hF:xE F k=Ar e te r p0 c k0 z)(hp:p0=Ah ⟨b,o,Ai⟩)(hm:zD z ix=Ah u)(hx:zV S x=Ah (pt b (o+ix.toNat*e.n+s.off)))
  (h:op.op (s.get u) [] F λcs F'=>mkC ag cs λv=>J P n X Q (.ops os l) ((d,v)::S) Ls F' m) (hr:Ls[i]?=Ah r:=by rfl) (ht:uE P t=Ah (ag,ef.n):=by kernel_rfl) (hag:ag=Aj\/ef.n=1:=by first | exact .inl rfl | exact .inr rfl)
  (hd:Nat.blt d n=true:=by kernel_rfl) (hg:qI os S g=Ah true:=by kernel_rfl):J P n X Q (.ops os (⟨Ah d,.load t x,ty,pos,af,g⟩::l)) S Ls F m:=
 ⟨λhq r hm' a w hs=>sl (z3S i s ag hs (hF▸hs.g k) hp hm hx (λci hc v hv a h'=>by
  obtain⟨F',h1,h2⟩:=op.spec hc h'.f h;rw[QE] at h1;exact(zSx h1 hv).go hq r hm' a w ⟨h'.s,h'.o,h'.e,h2⟩) hr ht hag hd hg)⟩
end
section
variable {τ:Type}{e:E τ}{te:Ap}{r:zK}{p0:Option Ax}{c k0:Nat}{z:List τ}{i j:Int}{lo hi:Option As}{vlo vhi:Option Am}
variable{f:List τ->Option ρ}
theorem jsl(g0:yD Ls F (R e p0 c k0 z))(hx:zV S x=Ah (.slice p0 k0 c))(hlo:zSW S lo=Ah vlo)(hhi:zSW S hi=Ah vhi)(b1:Bd vlo i 0)(b2:Bd vhi j z.length)
  (h:∀ u p' c',J P n X Q (.ops os l) ((d,sv p' u c')::S) Ls (Rl e p' c' u::F) (f u))
  (ht:uM P t=Ah e.n:=by kernel_rfl) (hd:Nat.blt d n=true:=by kernel_rfl) (hg:qI os S g=Ah true:=by kernel_rfl) :
  J P n X Q (.ops os (⟨Ah d,.slice t x lo hi Ai,ty,pos,af,g⟩::l)) S Ls F ((sub z i j).bind f):=
 ⟨λhq r hm a w hs=>by
  obtain⟨u,h1,h2⟩:=bnd hm;exact sl (z3D hs (g0 _ _ hs.o hs.f) hx hlo hhi b1 b2 h1 (λp' c' a h'=>(h u p' c').go hq r h2 a w h') ht hd hg)⟩
variable{x2:As}
theorem jsF{x3:As}{kd2:Au}(g0:yD Ls F (R e p0 c k0 z))(hx:zV S x=Ah (.slice p0 k0 c))(hlo:zSW S lo=Ah vlo)(hhi:zV S x2=Ah (.int kd j))(hmx:zV S x3=Ah (.int kd2 j))(b1:Bd vlo i 0)
  (h:∀ u p',J P n X Q (.ops os l) ((d,.slice p' (List.length u) (List.length u))::S) Ls (R e p' (List.length u) (List.length u) u::F) (f u))
  (ht:uM P t=Ah e.n:=by kernel_rfl) (hd:Nat.blt d n=true:=by kernel_rfl) (hg:qI os S g=Ah true:=by kernel_rfl) :
  J P n X Q (.ops os (⟨Ah d,.slice t x lo (Ah x2) (Ah x3),ty,pos,af,g⟩::l)) S Ls F ((sub z i j).bind f):=
 ⟨λhq r hm a w hs=>by
  obtain⟨u,h1,h2⟩:=bnd hm;exact sl (zZA hs (g0 _ _ hs.o hs.f) hx hlo hhi hmx b1 h1 (λp' a h'=>(h u p').go hq r h2 a w h') ht hd hg)⟩
theorem jsP(k:Nat)(hF:xE F k=Ar e te r p0 c k0 z)(hx:zV S x=Ah (.slice p0 k0 c))(hhi:zV S x2=Ah (.int kd j))
  (h:∀ u,J P n X Q (.ops os l) ((d,sv p0 u c)::S) Ls (Al e te r p0 c u::F) (f u))
  (ht:uM P t=Ah e.n:=by kernel_rfl) (hd:Nat.blt d n=true:=by kernel_rfl) (hg:qI os S g=Ah true:=by kernel_rfl) :
  J P n X Q (.ops os (⟨Ah d,.slice t x Ai (Ah x2) Ai,ty,pos,af,g⟩::l)) S Ls F ((sub z 0 j).bind f):=
 ⟨λhq r hm a w hs=>by
  obtain⟨u,h1,h2⟩:=bnd hm;exact sl (z0m hs (hF▸hs.g k) hx hhi h1 (λa h'=>(h u).go hq r h2 a w h') ht hd hg)⟩
end
inductive At (Ls:List zK): uJ->Array Oper->Oper->uJ->Prop
 | s {os:Array Oper} {o:Oper} {l:List Oper}:At Ls (.ops os (o::l)) os o (.ops os l)
 | f {os:Array Oper} {o:Oper} {i:Nat} {B J:List Nat} {fuel:Nat} {li:Array Bool} (h:os[i]?=Ah o):At Ls (.fo i os B J fuel li) os o (.af Ls os B J fuel (li.setIfInBounds i Aj))
theorem At.run{o:Oper}(h:At Ls p os o p'){A:List Nat}{Q:Exit->Ay->Ao->Prop}{a:Ay}{w:Ao}
  (hs:∀ K:Ay->Ao->Prop,(∀ {a' w' Ls'},qE qd Ls w Ls' w'->p'.go qd P A Ls' Q a' w'->K a' w')->vK P os Q o K a w):p.go qd P A Ls Q a w:=by
 cases h with
 | s=>exact sl (hs _ λ_ h=>h)
 | f hi=>exact⟨o,hi,hs _ λhE h=>h w hE⟩
theorem wT(at0:At Ls p os ⟨Ah d,.box t x,ty,pos,af,g⟩ p')(hx:zV S x=Ah v)(h:∀ b,zQa v λcs=>zMw Ls (bx b t cs) λLs'=>J P n X Q p' ((d,pt b 0)::S) Ls' F m)
  (hd:Nat.blt d n=true:=by kernel_rfl) (hg:qI os S g=Ah true:=by kernel_rfl):J P n X Q p S Ls F m:=
 ⟨λhq r hm a w hs=>at0.run λK hK=>b_box hs hx (λb a w' h' e=>hK e (by
  have h:=h b;rw[zTT,zHh] at h;exact h.go hq r hm a w' (by simp_all))) hd hg⟩
theorem qM (at0:At Ls p os ⟨Ah d,.alloc t,ty,pos,af,g⟩ p')(v:Am)(h:∀ b,zQa v λcs=>zMw Ls (bx b t cs) λLs'=>J P n X Q p' ((d,pt b 0)::S) Ls' F m)
  (hx:zHO P t=Ah v:=by kernel_rfl) (hd:Nat.blt d n=true:=by kernel_rfl) (hg:qI os S g=Ah true:=by kernel_rfl):J P n X Q p S Ls F m:=
 ⟨λhq r hm a w hs=>at0.run λK hK=>z9a hs hx (λb a w' h' e=>hK e (by
  have h:=h b;rw[zTT,zHh] at h;exact h.go hq r hm a w' (by simp_all))) hd hg⟩
theorem zW{b o:Nat}{c:List Am}{te:Ap}{v:Am}(at0:At Ls p os ⟨Ai,.store t x y,ty,pos,af,g⟩ p')(i:Nat)(hx:zV S x=Ah (pt b o))(hy:zV S y=Ah v)(hr:Ls[i]?=Ah (bx b te c))
  (h:zQa v λcs=>putC o c cs λc'=>xT Ls i (bx b te c') λLs'=>J P n X Q p' S Ls' F m) (hv:zKq P t c.toArray o v=true:=by kernel_rfl) (hg:qI os S g=Ah true:=by kernel_rfl):J P n X Q p S Ls F m:=
 ⟨λhq r hm a w hs=>at0.run λK hK=>zTZ i hs hx hy hr (λa w' h' e=>hK e (by
  rw[zTT] at h;have h:=z0i h;rw[zGH] at h;exact h.go hq r hm a w' (by simpa [bx,zZv] using h'))) hv hg⟩
section
variable {τ ω:Type}{e:E τ}{ef:E ω}{te:Ap}{r:zK}{p0 q:Option Ax}{c k0 c2 k2:Nat}{z z2 u:List τ}{ix:Int}
theorem jsA{v0:τ}(at0:At Ls p os ⟨Ai,.store t x y,ty,pos,af,g⟩ p')(i k:Nat)(s:tT e ef)(nz:ω)(ag:Bool)(hF:xE F k=Ar e te r p0 c k0 z)(hp:p0=Ah ⟨b,o,Ai⟩)(hm:zD z ix=Ah v0)(hx:zV S x=Ah (pt b (o+ix.toNat*e.n+s.off)))
  (hy:zV S y=Ah v) (hv:RV ef Ls F v.cells.toList nz)
  (h:∀ r',xT Ls i r' λLs'=>J P n X Q p' S Ls' (Ar e te r' p0 c k0 (z.set ix.toNat (s.put v0 nz))::F) m) (hr:Ls[i]?=Ah r:=by rfl) (ht:uE P t=Ah (ag,ef.n):=by kernel_rfl) (hg:qI os S g=Ah true:=by kernel_rfl):J P n X Q p S Ls F m:=
 ⟨λhq r hm' a w hs=>at0.run λK hK=>z1T i s nz ag hs (hF▸hs.g k) hp hm hx hy (hv _ _ hs.o hs.f) (λr' a w' h' e=>hK e (by
  have h:=h r';rw[zGH] at h;exact h.go hq r hm' a w' h')) hr ht hg⟩
end
end
section
variable {P:Aq}{n:Nat}{X:Hd qd}{ρ:Type}{Q:PQ ρ}{S S':Sl}{Ls:List zK}{F:List PP}{m:Option ρ}{l:List Oper}{y:Code}{id:Nat}{ob:List Ob}
theorem jA (k:Nat)(hr:z6e l.toArray l k S []=Ah (S',[],ob))(h:J P n X Q (.code y) S' Ls F m)
  (hd:(zYt (l.take k)).all (λd=>Nat.blt d n)=true:=by kernel_rfl) (ho:zUn P ob=true:=by kernel_rfl):J P n X Q (.code (.seq (.region id l.toArray Ak) y)) S Ls F m:=zF (zB k hr (zG h) hd ho)
theorem jB (k:Nat)(hr:z6e l.toArray l k S []=Ah (S',[],ob))(h:J P n X Q (.ex .normal) S' Ls F m)
  (hd:(zYt (l.take k)).all (λd=>Nat.blt d n)=true:=by kernel_rfl) (ho:zUn P ob=true:=by kernel_rfl):J P n X Q (.code (.region id l.toArray Ak)) S Ls F m:=wR (zB k hr (wH h) hd ho)
theorem jC{z:Code}(h:J P n X Q (.code z) S Ls F m): J P n X (zPh P z Q) (.code .skip) S Ls F m:=yU (wN h)
end
end
section
open Go Go.RowKit
variable {qd:Prop}
set_option linter.unusedVariables false
section
variable {P:Aq}{n:Nat}{X:Hd qd}{ρ σ:Type}{Q:PQ ρ}{S:Sl}{Ls:List zK}{F:List PP}{m m1 m2:Option ρ}{os:Array Oper}{l:List Oper}{x y:As}{p p':uJ}
variable {d t:Nat}{ty ty2:Ap}{pos pos2:String}{af af2:Array Edge}{g g2:Option (Nat×Bool)}{kd:Au}
section
variable {τ ω:Type}{e:E τ}{ef:E ω}{te:Ap}{r r2:zK}{p0 q:Option Ax}{c k0 c2 k2:Nat}{z z2 u:List τ}{ix:Int}
variable{f:List τ->Option ρ}
theorem qZ(at0:At Ls p os ⟨Ah d,.call { callee:=.builtin .append,args:=[x,y].toArray,argTypes:=[t,t].toArray },ty,pos,af,g⟩ p')(i k:Nat)(hF:xE F k=Ar e te r p0 c k0 z)(g2:yD Ls F (R e q c2 k2 z2))(hx:zV S x=Ah (.slice p0 k0 c))(hy:zV S y=Ah (.slice q k2 c2))
  (h:∀ u r' p1 c',xT Ls i r' λLs'=>J P n X Q p' ((d,sv p1 u c')::S) Ls' (Al e te r' p1 c' u::F) (f u)) (hr:Ls[i]?=Ah r:=by rfl) (ht:xM P t te e.n=true:=by kernel_rfl) (hd:Nat.blt d n=true:=by kernel_rfl) (hg:qI os S g=Ah true:=by kernel_rfl) :
  J P n X Q p S Ls F ((qG z z2).bind f):=
 ⟨λhq r0 hm a w hs=>by
  obtain⟨u,h1,h2⟩:=bnd hm;exact at0.run λK hK=>z27 i hs (hF▸hs.g k) (g2 _ _ hs.o hs.f) hx hy h1 (λr' p1 c' a w' h' e=>hK e (by
   have h:=h u r' p1 c';rw[zGH] at h;exact h.go hq r0 h2 a w' h')) hr ht hd hg⟩
theorem jao(at0:At Ls p os ⟨Ah d,.call { callee:=.builtin .append,args:=[x,y].toArray,argTypes:=[t,t].toArray },ty,pos,af,g⟩ p')(i j k k':Nat)(hF:xE F k=Ar e te r p0 c k0 z)(hF2:xE F k'=Ar e te r2 q c2 k2 z2)(hx:zV S x=Ah (.slice p0 k0 c))(hy:zV S y=Ah (.slice q k2 c2))
  (h:∀ u r' p1 c',xT Ls i r' λLs'=>J P n X Q p' ((d,sv p1 u c')::S) Ls' (Al e te r' p1 c' u::F) (f u)) (hr:Ls[i]?=Ah r:=by rfl) (hr2:Ls[j]?=Ah r2:=by rfl) (ht:xM P t te e.n=true:=by kernel_rfl) (hd:Nat.blt d n=true:=by kernel_rfl) (hg:qI os S g=Ah true:=by kernel_rfl) :
  J P n X Q p S Ls F ((qG z z2).bind f):=
 ⟨λhq r0 hm a w hs=>by
  obtain⟨u,h1,h2⟩:=bnd hm;exact at0.run λK hK=>z2a i j hs (hF▸hs.g k) (hF2▸hs.g k') hx hy h1 (λr' p1 c' a w' h' e=>hK e (by
   have h:=h u r' p1 c';rw[zGH] at h;exact h.go hq r0 h2 a w' h')) hr hr2 ht hd hg⟩
theorem jaf(at0:At Ls p os ⟨Ah d,.call { callee:=.builtin .append,args:=[x,y].toArray,argTypes:=[t,t].toArray },ty,pos,af,g⟩ p')(te:Ap)(g1:yD Ls F (R e p0 k0 k0 z))(g2:yD Ls F (R e q c2 k2 z2))(hx:zV S x=Ah (.slice p0 k0 k0))(hy:zV S y=Ah (.slice q k2 c2))
  (h:∀ u p1 c',J P n X Q p' ((d,sv p1 u c')::S) Ls (Rl e p1 c' u::F) (f u)) (ht:xM P t te e.n=true:=by kernel_rfl) (hd:Nat.blt d n=true:=by kernel_rfl) (hg:qI os S g=Ah true:=by kernel_rfl) :
  J P n X Q p S Ls F ((qG z z2).bind f):=
 ⟨λhq r0 hm a w hs=>by
  obtain⟨u,h1,h2⟩:=bnd hm;exact at0.run λK hK=>z3Y hs (g1 _ _ hs.o hs.f) (g2 _ _ hs.o hs.f) hx hy h1 (λp1 c' a w' h' e=>hK e ((h u p1 c').go hq r0 h2 a w' h')) te ht hd hg⟩
theorem rN:RD e Ls F [] []:=λ_ _ _ _=>rfl
variable{cs:List Am}
theorem rC{x:τ}{l:List τ}(h:RV e Ls F (cs.take e.n) x)(k:RD e Ls F (cs.drop e.n) l): RD e Ls F cs (x::l):=λA w hO hF=>⟨_,_,(QC e.n cs).symm,h A w hO hF,k A w hO hF⟩
theorem vI{k:Au}{x:Int}: RV (zT k) Ls F [.int k x] x:=λ_ _ _ _=>rfl
theorem vB{x:Bool}: RV tH Ls F [vb x] x:=λ_ _ _ _=>rfl
theorem vS{x:zA}: RV qP Ls F [vs x] x:=λ_ _ _ _=>rfl
theorem vU:RV z9u Ls F [] ():=λ_ _ _ _=>rfl
theorem vP{α β:Type}{a:E α}{b:E β}{x:α×β}(h:RV a Ls F (cs.take a.n) x.1)(k:RV b Ls F (cs.drop a.n) x.2): RV (qU a b) Ls F cs x:=λA w hO hF=>⟨_,_,(QC a.n cs).symm,h A w hO hF,k A w hO hF⟩
variable{c' m':Nat}
theorem vL(h:yD Ls F (R e p0 c' m' z)): RV (wF e) Ls F [.slice p0 m' c'] z:=λA w hO hF=>R.cell (h A w hO hF)
theorem vT{parts:List (Nat×As)}(at0:At Ls p os ⟨Ah d,.buildSlice t k0 parts.toArray,ty,pos,af,g⟩ p')(te:Ap)(cs:List Am)(z:List τ)(hrd:RD e Ls F cs z)
  (h:∀ p1 c',J P n X Q p' ((d,sv p1 z c')::S) Ls (Rl e p1 c' z::F) m) (ht:xM P t te e.n=true:=by kernel_rfl) (hc:zJQ P S t k0 parts=Ah cs:=by kernel_rfl) (hl:z.length=k0:=by rfl)
  (hd:Nat.blt d n=true:=by kernel_rfl) (hg:qI os S g=Ah true:=by kernel_rfl):J P n X Q p S Ls F m:=
 ⟨λhq r0 hm a w hs=>at0.run λK hK=>z9b cs z hs (hrd _ _ hs.o hs.f) (λp1 c' a w' h' e=>hK e ((h p1 c').go hq r0 hm a w' h')) te ht hc hl hd hg⟩
theorem yR{parts:List (Nat×As)}(at0:At Ls p os ⟨Ah d,.buildSlice t k0 parts.toArray,ty,pos,af,g⟩ p')(te:Ap)(cs:List Am)(z:List τ)(hrd:RD e Ls F cs z)
  (h:∀ r' p1 c',zMw Ls r' λLs'=>J P n X Q p' ((d,sv p1 z c')::S) Ls' (Al e te r' p1 c' z::F) m) (ht:xM P t te e.n=true:=by kernel_rfl) (hc:zJQ P S t k0 parts=Ah cs:=by kernel_rfl) (hl:z.length=k0:=by rfl) (hm:Nat.ble k0 16777216=true:=by kernel_rfl)
  (hd:Nat.blt d n=true:=by kernel_rfl) (hg:qI os S g=Ah true:=by kernel_rfl):J P n X Q p S Ls F m:=
 ⟨λhq r0 hm' a w hs=>at0.run λK hK=>z6o cs z hs (hrd _ _ hs.o hs.f) (λr' p1 c' a w' h' e=>hK e (by
  have h:=h r' p1 c';rw[zHh] at h;exact h.go hq r0 hm' a w' h')) ht hc hl hm hd hg⟩
theorem jsb{s t2:Ap}{z:List Int}(at0:At Ls p os ⟨Ah d,.convert s t2 x,ty,pos,af,g⟩ p')(g1:yD Ls F (R (zT .u8) p0 c k0 z))(hx:zV S x=Ah (.slice p0 k0 c))(hs:P.underlying s=Ah (.slice te))(he:P.underlying te=Ah (.int .u8))(ht:P.underlying t2=Ah .string)
  (h:J P n X Q p' ((d,vs (xV z))::S) Ls F m) (hd:Nat.blt d n=true:=by kernel_rfl) (hg:qI os S g=Ah true:=by kernel_rfl):J P n X Q p S Ls F m:=
 ⟨λhq r0 hm a w hS=>at0.run λK hK=>z95 hS (g1 _ _ hS.o hS.f) hx hs he ht (λa h'=>hK (qE.refl _ _) (h.go hq r0 hm a w h')) hd hg⟩
def SR (e:E τ)(Ls:List zK)(F:List PP)(q:Option Ax)(z:List τ)(k:Nat): Prop:=∀ A w,qK A w Ls->xI F (bl Ls++A) w->Src e (bl Ls++A) w q z/\z.length=k
theorem srV (i k:Nat){kk:Int}(hV:Vw e.n p0 c k0 kk q m')(hF:xE F k=Ar e te r p0 c k0 z)(hr:Ls[i]?=Ah r:=by rfl): SR e Ls F q (z.drop kk.toNat) m':=λA w hO hA=>by
 have h:(Ar e te r p0 c k0 z).h (bl Ls++A) w:=by rw[<-hF];exact hA.at k
 exact hV.src h.1 h.2.symm hO hr
def VW (e:E τ)(Ls:List zK)(F:List PP)(p0:Option Ax)(c k0:Nat)(kk:Int)(q:Option Ax)(m':Nat): Prop:=∀ A w,qK A w Ls->xI F (bl Ls++A) w->Vw e.n p0 c k0 kk q m'
theorem vwV{kk:Int}(hV:Vw e.n p0 c k0 kk q m'): VW e Ls F p0 c k0 kk q m':=λ_ _ _ _=>hV
theorem jcp{q2:Option Ax}{kk:Int}(at0:At Ls p os ⟨Ah d,.call { callee:=.builtin .copy,args:=[x,y].toArray,argTypes:=[t,t].toArray },ty,pos,af,g⟩ p')(i k:Nat)(hF:xE F k=Ar e te r p0 c k0 z)(hV:VW e Ls F p0 c k0 kk q m')(hR:SR e Ls F q2 z2 k2)(hx:zV S x=Ah (.slice q m' c'))(hy:zV S y=Ah (.slice q2 k2 c2))
  (h:∀ r',xT Ls i r' λLs'=>J P n X Q p' ((d,vi ((Nat.min k2 m':Nat):Int))::S) Ls' (Ar e te r' p0 c k0 (zNC z kk z2)::F) m) (hr:Ls[i]?=Ah r:=by rfl) (ht:xM P t te e.n=true:=by kernel_rfl) (hd:Nat.blt d n=true:=by kernel_rfl) (hg:qI os S g=Ah true:=by kernel_rfl):J P n X Q p S Ls F m:=
 ⟨λhq r0 hm a w hs=>at0.run λK hK=>z0w i hs (hF▸hs.g k) (hV _ _ hs.o hs.f) (hR _ _ hs.o hs.f) hx hy (λr' a w' h' e=>hK e (by
  have h:=h r';rw[zGH] at h;exact h.go hq r0 hm a w' h')) hr ht hd hg⟩
end
section
variable {κ ν:Type}[BEq κ]{kt vt:Ap}{kv:κ->Am}{vv:ν->Am}{r:zK}{b:Nat}{z:List (κ×ν)}{k:κ}{v:ν}{x3:As}
theorem jmm{rs:Option As}{rv:Option Am}(at0:At Ls p os ⟨Ah d,.makeMap t rs,ty,pos,af,g⟩ p')(kv:κ->Am)(vv:ν->Am)(H:zRE P t kt vt kv)(hr:zSW S rs=Ah rv)(hi:rv=Ai\/∃ kd i,rv=Ah (.int kd i))
  (h:∀ b r',zMw Ls r' λLs'=>J P n X Q p' ((d,.map (Ah b))::S) Ls' (Ma kv vv r' b []::F) m) (hd:Nat.blt d n=true:=by kernel_rfl) (hg:qI os S g=Ah true:=by kernel_rfl):J P n X Q p S Ls F m:=
 ⟨λhq r0 hm a w hs=>at0.run λK hK=>z56 kv vv hs H hr hi (λb r' a w' h' e=>hK e (by
  have h:=h b r';rw[zHh] at h;exact h.go hq r0 hm a w' h')) hd hg⟩
end
def uJ.less (Ls Ls':List zK): uJ->Prop
 | .dr _ _ J _ _=>J.map (Ls'[·]?)=J.map (Ls[·]?)
 | .fo _ _ _ _ _ _=>False
 | .af _ _ _ _ _ _=>False
 | _=>True
theorem uJ.less_go{Ls':List zK}(hl:p.less Ls Ls')(hs:∀ b∈bl Ls',b∈bl Ls){A:List Nat}{Q:Exit->Ay->Ao->Prop}{a:Ay}{w:Ao}{L0:List zK}{w0:Ao}
  (h:SS qd A L0 w0 n S Ls' F a w) (k:p.go qd P A Ls' Q a w):p.go qd P A Ls Q a w:=by
 cases p with
 | dr os B J f li=>exact dless h k hs hl
 | fo _ _ _ _ _ _=>exact hl.elim
 | af _ _ _ _ _ _=>exact hl.elim
 | _=>exact k
section
variable {τ:Type}{e:E τ}{te:Ap}{r:zK}{p0:Option Ax}{c k0:Nat}{z:List τ}
theorem vX (i k:Nat)(hF:xE F k=Ar e te r p0 c k0 z)(hr:Ls[i]?=Ah r)(h:xT Ls i [] λLs'=>J P n X Q p S Ls' (R e p0 c k0 z::F) m)(hl:xT Ls i [] (λLs'=>p.less Ls Ls'):=by first | exact trivial | exact rfl): J P n X Q p S Ls F m:=
 ⟨λhq r0 hm a w hs=>by
  rw[zGH] at h hl;have h1:=hs.share i (hF▸hs.g k:(Ar e te r p0 c k0 z).h (bl Ls++X.A) w) hr;exact uJ.less_go hl z7y h1 (h.go hq r0 hm a w h1)⟩
theorem yN (e:E τ)(te:Ap)(h:zMw Ls [] λLs'=>J P n X Q p S Ls' (Ar e te [] Ai 0 0 []::F) m)(hl:zMw Ls [] (λLs'=>p.less Ls Ls'):=by first | exact trivial | exact rfl): J P n X Q p S Ls F m:=
 ⟨λhq r0 hm a w hs=>by
  rw[zHh] at h hl;have h1:=hs.room e te;exact uJ.less_go hl z5r h1 (h.go hq r0 hm a w h1)⟩
end
structure zJ (qd:Prop)(P:Aq)(f:FuncId)(vs:List Am)(L:List zK)(F:List PP){ρ:Type}(m:Option ρ)(post:ρ->(Am->List zK->List PP->Prop)->Prop): Prop where
 hf:∀ args w,(callFunc f args).run P w=.ok (.enter f args) w
 go:∀ A w0 r,m=Ah r->qK A w0 L->xI F (bl L++A) w0->Calls P f vs.toArray w0 (Ret λv w=>Ex (post r) λv1 L1 F1=>v=v1/\Bk qd A L w0 L1 F1 w)
abbrev CoL (qd:Prop)(P:Aq)(f:FuncId)(vs:List Am)(L:List zK)(F:List PP){ρ:Type}(m:Option ρ)(post:List zK->ρ->(Am->List zK->List PP->Prop)->Prop): Prop:=zJ qd P f vs L F m (post L)
def z45 (ls js:List Nat)(L1 Ls:List zK)(F1 F:List PP)(k:List zK->List PP->Prop): Prop:=match ls with
 | []=>z0p js L1 Ls λLs'=>z8u F1 F λF'=>k Ls' F'
 | _::_=>match F1 with
  | []=>z0p js L1 Ls λLs'=>k Ls' F
  | _::_=>False
variable{L1:List zK}{F1:List PP}
theorem z7F{ls js:List Nat}{A:List Nat}{L0:List zK}{w0 w w':Ao}{a':Ay}{S':Sl}{kk:List zK->List PP->Prop}(h:z45 ls js L1 Ls F1 F kk)
  (c:AC qd A L0 w0 n S' Ls F js ls w a' w') (q:Bk qd (Ac A Ls js ls) (xC Ls js) w L1 F1 w') (hk:z2U (js++ls) Ls.length=Aj):∃ Ls' F',kk Ls' F'/\SS qd A L0 w0 n S' Ls' F' a' w'/\qE qd Ls w Ls' w':=by
 cases ls with
 | nil=>
  obtain⟨hl,h⟩:=zRJ h;rw[z0M] at h;exact⟨_,_,h,c.on q _ hk hl rfl (.inl rfl),c.st q _ hk hl rfl⟩
 | cons a ls=>
  cases F1 with
  | cons f F1=>exact h.elim
  | nil=>
   obtain⟨hl,h⟩:=zRJ h;exact⟨_,_,h,c.on q _ hk hl rfl (.inr rfl),c.st q _ hk hl rfl⟩
theorem zY{fd:FuncId}{cal:As}{xs:List As}{bs0 caps:List Am}{ats:Array Ap}{us vs:List Am}{L:List zK}{F1:List PP}{m1:Option σ}{post:σ->(Am->List zK->List PP->Prop)->Prop}{f:σ->Option ρ}
  (at0:At Ls p os ⟨Ah d,.call { callee:=.value cal,args:=xs.toArray,argTypes:=ats },ty,pos,af,g⟩ p') (js ls:List Nat) (c:zJ qd P fd vs L F1 m1 post) (hcal:zV S cal=Ah (.func (.func fd) bs0.toArray caps.toArray)) (hx:z1w S xs=Ah us) (hv:bs0++us++caps=vs)
  (hF:tG (OKc Ls F js ls) F1) (h:∀ r K,(∀ {v L1 F1},z45 ls js L1 Ls F1 F (λLs' F'=>J P n X Q p' ((d,v)::S) Ls' F' (f r))->K v L1 F1)->post r K)
  (hL:xC Ls js=L:=by rfl) (hk:z2U (js++ls) Ls.length=true:=by kernel_rfl) (hd:Nat.blt d n=true:=by kernel_rfl) (hg:qI os S g=Ah true:=by kernel_rfl):J P n X Q p S Ls F (m1.bind f):=
 ⟨λhq r0 hm a w hs=>by
  obtain⟨r,h1,h2⟩:=bnd hm;subst hL hv;refine at0.run λK hK=>b_call js ls hs c.hf hcal hx (c.go _ _ _ h1 (hs.po js ls hk) (tG.all (λ_ hf=>hf _ _ hs.o hs.f) hF)) (λv a' w' hR hc=>?_) hd hg;refine hR _ (h r _ ?_);rintro v1 L1 F1 hj ⟨rfl,q⟩;obtain⟨Ls',F',k1,k2,k3⟩:=z7F hj hc q hk;exact hK k3 (k1.go hq r0 h2 a' w' k2)⟩
variable{fd:FuncId}{post:σ->(Am->List zK->List PP->Prop)->Prop}
theorem qW{xs:List As}{ats:Array Ap}{vs:List Am}{m1:Option σ}{f:σ->Option ρ}
  (c:zJ qd P fd vs [] F1 m1 post) (hx:z1w S xs=Ah vs)
  (hF:tG (OKc Ls F [] []) F1) (h:∀ r K,(∀ {v L1 F1},z45 [] [] L1 Ls F1 F (λLs' F'=>J P n X Q (.ops os l) ((d,v)::S) Ls' F' (f r))->K v L1 F1)->post r K)
  (hd:Nat.blt d n=true:=by kernel_rfl) (hg:qI os S g=Ah true:=by kernel_rfl):J P n X Q (.ops os (⟨Ah d,.call { callee:=.value (.func fd),args:=xs.toArray,argTypes:=ats },ty,pos,af,g⟩::l)) S Ls F (m1.bind f):=
 zY (bs0:=[]) (caps:=[]) .s [] [] c rfl hx (QE vs) hF h rfl rfl hd hg
theorem zO{fd:FuncId}{fn:Func}{c:Code}{vs:List Am}{L:List zK}{m1:Option σ}{post:σ->(Am->List zK->List PP->Prop)->Prop}(hc:∀ args w,(callFunc fd args).run P w=.ok (.enter fd args) w)(hf:P.funcs[fd]?=Ah fn)(hb:fn.body=Ah c)
  (h:∀ X:Hd qd,J P fn.ntmps X (zSd P fn X post) (.code c) (zLr vs 0) L F m1) (hn:Nat.ble vs.length fn.ntmps=true:=by kernel_rfl):zJ qd P fd vs L F m1 post:=
 ⟨hc,λA w0 r hm hO hF=>ent hf hb hO hF (λa hs=>(h ⟨A,L,w0⟩).go zSd.np r hm a w0 hs) hn⟩
variable{L:List zK}
theorem uY{vs:List Am}{M:Nat->Option σ}(h:∀ k,zJ qd P fd vs L F (M k) post): zJ qd P fd vs L F (uC M) post:=
 ⟨(h 0).hf,λA w0 r hm=>by obtain⟨k,hk⟩:=z4q hm;exact(h k).go A w0 r hk⟩
theorem xA{vs:List Am}(hc:∀ args w,(callFunc fd args).run P w=.ok (.enter fd args) w): zJ qd P fd vs L F Ai post:=⟨hc,λ_ _ _ hm=>nomatch hm⟩
variable{fn:Func}{v1:Am}
theorem uL{post:ρ->(Am->List zK->List PP->Prop)->Prop}{r:ρ}{v:Am}(hf:fn.results=#[.tmp t])(hv:yF S t=Ah v)(hk:∀ K,post r K->K v1 L1 F1)(js:List Nat)(hF:tG (yD Ls F) F1)
  (he:v=v1:=by first | rfl | (simp only[sv,Ug] <;> rfl)) (hL:xC Ls js=L1:=by rfl) (hn:js.Nodup:=by decide):J P n X (zSd P fn X post) (.ex .ret) S Ls F (Ah r):=
 ⟨λ_ r0 hm a w hs=>by
  cases hm;subst hL he;exact rt1 hs hf hv λG hG=>hk _ hG ⟨rfl,z8p hs js (tG.all (λ_ hf=>hf _ _ hs.o hs.f) hF) hn⟩⟩
def RL (P:Aq)(S:Sl)(Ls:List zK)(rs:List ResultVar)(vs:List Am): Prop:=∀ {qd A L0 w0 n F a w},SS qd A L0 w0 n S Ls F a w->z1r P S w rs vs
theorem lN:RL P S Ls [] []:=λ_=>resN
variable{rs:List ResultVar}
theorem lT{v:Am}{vs:List Am}(h:yF S t=Ah v)(k:RL P S Ls rs vs): RL P S Ls (.tmp t::rs) (v::vs):=λhs=>resT h (k hs)
theorem lC{b:Nat}{c:Array Am}{te:Ap}{fr:Nat×Nat}{vs:List Am}(i:Nat)(v:Am)(hl:yF S t=Ah (pt b 0))(hr:Ls[i]?=Ah [(b,.cells c te fr)])(k:RL P S Ls rs vs)(hv:zKu P ty c 0=Ah v:=by kernel_rfl): RL P S Ls (.cell t ty::rs) (v::vs):=
 λhs=>rtc i hs hl hr (k hs) hv
theorem vV{vs:List Am}{post:ρ->(Am->List zK->List PP->Prop)->Prop}{r:ρ}(hf:fn.results=rs.toArray)(hr:RL P S Ls rs vs)(hk:∀ K,post r K->K v1 L1 F1)(js:List Nat)(hF:tG (yD Ls F) F1)
  (he:(if h:vs.length=1 then vs[0] else .tuple vs.toArray)=v1:=by first | rfl | (simp only[sv,Ug] <;> rfl)) (hL:xC Ls js=L1:=by rfl) (hn:js.Nodup:=by decide):J P n X (zSd P fn X post) (.ex .ret) S Ls F (Ah r):=
 ⟨λ_ r0 hm a w hs=>by
  cases hm;subst hL he;exact rtg hs hf (hr hs) λG hG=>hk _ hG ⟨rfl,z8p hs js (tG.all (λ_ hf=>hf _ _ hs.o hs.f) hF) hn⟩⟩
theorem jrn{post:ρ->(Am->List zK->List PP->Prop)->Prop}(h:J P n X (zSd P fn X post) (.ex .ret) S Ls F m): J P n X (zSd P fn X post) (.ex .normal) S Ls F m:=
 ⟨λhq r hm a w hs=>h.go hq r hm a w hs⟩
end
end
section
open Go Go.RowKit
variable {qd:Prop}
set_option linter.unusedVariables false
def runD (os:Array Oper): List Nat->Sl->List Ob->Option (Sl×List Ob)
 | [],S,ob=>Ah (S,ob)
 | i::is,S,ob=>match os[i]? with
  | none=>Ai
  | some o=>match o.dst with
   | none=>Ai
   | some d=>guC os S o.guard (pvC S o.op ob λob v=>runD os is ((d,v)::S) ob) (runD os is ((d,undef)::S) ob)
def z5T:Array Bool->List Nat->Array Bool
 | li,[]=>li
 | li,i::is=>z5T (li.setIfInBounds i Aj) is
def zYD (os:Array Oper)(B:List Nat)(n:Nat): Array Bool->List Nat->Bool
 | _,[]=>Aj
 | li,i::is=>uG os B li i&&(match os[i]? with
  | some o=>match o.dst with
   | some d=>Nat.blt d n
   | none=>Ak
  | none=>Ak)&&zYD os B n (li.setIfInBounds i Aj) is
section
variable {P:Aq}{n:Nat}{X:Hd qd}{ρ σ:Type}{Q:PQ ρ}{S:Sl}{Ls:List zK}{F:List PP}{m m1 m2:Option ρ}{os:Array Oper}{l:List Oper}{x y:As}{p p':uJ}{z0:Code}{id:Nat}
variable {d t:Nat}{ty ty2:Ap}{pos pos2:String}{af af2:Array Edge}{g g2:Option (Nat×Bool)}{kd:Au}{B Jj:List Nat}{li:Array Bool}{fuel:Nat}
theorem xW (B Jj:List Nat)(k:Nat)(h:J P n X (zPh P z0 Q) (.dr l.toArray B Jj k (Array.replicate k Ak)) S Ls F m)(hk:l.length=k:=by rfl)(hm:P.follows .mixedOrders=true:=by kernel_rfl):
  J P n X Q (.code (.seq (.region id l.toArray Aj) z0)) S Ls F m:=
 ⟨λhq r h0 a w hs=>by subst hk;exact ds B Jj hs (λw' hs'=>h.go (zPh.np hq) r h0 a w' hs') hm⟩
theorem yE (B Jj:List Nat)(k:Nat)(h:J P n X Q (.dr l.toArray B Jj k (Array.replicate k Ak)) S Ls F m)(hk:l.length=k:=by rfl)(hm:P.follows .mixedOrders=true:=by kernel_rfl):
  J P n X Q (.code (.region id l.toArray Aj)) S Ls F m:=
 ⟨λhq r h0 a w hs=>by subst hk;exact ds' B Jj hs (λw' hs'=>h.go hq r h0 a w' hs') hm⟩
theorem qD (h:J P n X Q (.ex .normal) S Ls F m)(hr:Region.ready .any os li=[]:=by kernel_rfl): J P n X Q (.dr os B Jj fuel li) S Ls F m:=
 ⟨λhq r h0 a w hs=>de (h.go hq r h0 a w hs) hr⟩
theorem zRO:∀(is:List Nat) (S S':Sl) (ob ob':List Ob) (li:Array Bool) (f:Nat),runD os is S ob=Ah (S',ob')->zYD os B n li is=Aj->zUn P ob'=Aj->
  J P n X Q (.dr os B Jj f (z5T li is)) S' Ls F m->zUn P ob=Aj/\J P n X Q (.dr os B Jj (f+is.length) li) S Ls F m
 | [],S,S',ob,ob',li,f,h,_,ho,k=>by
  simp only[runD,Qf,Prod.mk.injEq] at h;obtain⟨rfl,rfl⟩:=h;exact⟨ho,k⟩
 | i::is,S,S',ob,ob',li,f,h,ht,ho,k=>by
  simp only[runD] at h;simp only[zYD,Qc] at ht;obtain⟨⟨ht1,ht2⟩,ht3⟩:=ht;split at h
  ·cases h
  ·rename_i o hi;obtain⟨od,op,ty,pos,af,g⟩:=o;rw[hi] at ht2;simp only at h ht2;split at h
   ·cases h
   ·rename_i d;simp only at ht2;rcases zW3 h with⟨hg,h⟩ | ⟨hg,h⟩
    ·obtain⟨ob1,v,h,hv⟩:=zWl (P:=P) h;obtain⟨h1,h2⟩:=zRO is _ S' ob1 ob' _ f h ht3 ho k;obtain⟨h3,h4⟩:=hv h1;exact⟨h4,⟨λhq r hm a w hs=>dp i v hs hi (λa' hs'=>h2.go hq r hm a' w hs') (λc v a w hp=>(hq r c _ _ hp).elim) ht1 ht2 hg h3⟩⟩
    ·obtain⟨h1,h2⟩:=zRO is _ S' ob ob' _ f h ht3 ho k;exact⟨h1,⟨λhq r hm a w hs=>dk i hs hi (λa' hs'=>h2.go hq r hm a' w hs') (λc v a w hp=>(hq r c _ _ hp).elim) ht1 ht2 hg⟩⟩
theorem zP{S':Sl}{ob:List Ob}(f:Nat)(is:List Nat)(hr:runD os is S []=Ah (S',ob))(h:J P n X Q (.dr os B Jj f (z5T li is)) S' Ls F m)
  (hf:fuel=f+is.length:=by rfl) (hk:zYD os B n li is=true:=by kernel_rfl) (ho:zUn P ob=true:=by kernel_rfl):J P n X Q (.dr os B Jj fuel li) S Ls F m:=
 hf▸(zRO is S S' [] ob li f hr hk ho h).2
theorem qH{op:Op}(i:Nat)(v:Am)(hi:os[i]?=Ah ⟨Ah d,op,ty,pos,af,g⟩)(h:J P n X Q (.dr os B Jj fuel (li.setIfInBounds i Aj)) ((d,v)::S) Ls F m)
  (hk:uG os B li i=true:=by kernel_rfl) (hd:Nat.blt d n=true:=by kernel_rfl) (hg:qI os S g=Ah true:=by kernel_rfl) (hv:pv P S op=Ah v:=by kernel_rfl):J P n X Q (.dr os B Jj (fuel+1) li) S Ls F m:=
 ⟨λhq r hm a w hs=>dp i v hs hi (λa' hs'=>h.go hq r hm a' w hs') (λc v a w hp=>(hq r c _ _ hp).elim) hk hd hg hv⟩
variable{b o:Nat}
theorem qC{s f:Nat}(i off:Nat)(hi:os[i]?=Ah ⟨Ah d,.fieldAddr s x f,ty,pos,af,g⟩)(hx:zV S x=Ah (pt b o))(h:J P n X Q (.dr os B Jj fuel (li.setIfInBounds i Aj)) ((d,pt b (o+off))::S) Ls F m)
  (hf:zUL P s f=Ah off:=by kernel_rfl) (hk:uG os B li i=true:=by kernel_rfl) (hd:Nat.blt d n=true:=by kernel_rfl) (hg:qI os S g=Ah true:=by kernel_rfl):J P n X Q (.dr os B Jj (fuel+1) li) S Ls F m:=
 ⟨λhq r hm a w hs=>dp i _ hs hi (λa' hs'=>h.go hq r hm a' w hs') (λc v a w hp=>(hq r c _ _ hp).elim) hk hd hg (by simp[pv,hx,hf])⟩
theorem jdv{op:Op}{v:Am}(i:Nat)(hi:os[i]?=Ah ⟨Ah d,op,ty,pos,af,g⟩)(hv:∀ {a:Ay},qV a n S->∀ w',(Av a.eval ⟨Ah d,op,ty,pos,af,g⟩).run P w'=.ok (.value v) w')(h:J P n X Q (.dr os B Jj fuel (li.setIfInBounds i Aj)) ((d,v)::S) Ls F m)
  (hk:uG os B li i=true:=by kernel_rfl) (hd:Nat.blt d n=true:=by kernel_rfl) (hg:qI os S g=Ah true:=by kernel_rfl):J P n X Q (.dr os B Jj (fuel+1) li) S Ls F m:=
 ⟨λhq r hm a w hs=>dv i hs hi (hv hs.s) (λa' hs'=>h.go hq r hm a' w hs') (λc v a w hp=>(hq r c _ _ hp).elim) hk hd hg⟩
variable{fr:Nat×Nat}{v:Am}
theorem wM{c:List Am}{te:Ap}(i q:Nat)(hi:os[i]?=Ah ⟨Ah d,.load t x,ty,pos,af,g⟩)(hx:zV S x=Ah (pt b o))(hr:Ls[q]?=Ah [(b,.cells c.toArray te fr)])(hv:z6d c o Ah=Ah v)(h:J P n X Q (.dr os B Jj fuel (li.setIfInBounds i Aj)) ((d,v)::S) Ls F m)
  (ht:uE P t=Ah (Ak,1):=by kernel_rfl) (hb:B.all (λj=>behind os i os.size j)=true:=by kernel_rfl) (hJ:Jj.contains q=true:=by kernel_rfl)
  (hk:uG os B li i=true:=by kernel_rfl) (hd:Nat.blt d n=true:=by kernel_rfl) (hg:qI os S g=Ah true:=by kernel_rfl):J P n X Q (.dr os B Jj (fuel+1) li) S Ls F m:=
 ⟨λhq r hm a w hs=>dlo i q v hs hi hx hr (λa' hs'=>h.go hq r hm a' w hs') (by
  rw[zXK] at hv;have hv':c[o]?=Ah v:=by cases hc:c[o]? <;> simp_all
  have hlt:=(Qk.1 hv').1;unfold zKu;rw[ht];have:Nat.ble (o+1) c.toArray.size=true:=by rw[UL,QX];exact hlt
  simp only[this,Qx,z0a];grind [List.drop_eq_getElem_cons,mkV]) hb hJ (λc v a w hp=>(hq r c _ _ hp).elim) hk hd hg⟩
theorem vJ{c:List Am}{te:Ap}{cs:List Am}(i q k:Nat)(hi:os[i]?=Ah ⟨Ah d,.load t x,ty,pos,af,g⟩)(hx:zV S x=Ah (pt b o))(hr:Ls[q]?=Ah [(b,.cells c.toArray te fr)])(hv:z0O o c (λl=>zYn k l Ah)=Ah cs)(h:J P n X Q (.dr os B Jj fuel (li.setIfInBounds i Aj)) ((d,.agg cs.toArray)::S) Ls F m)
  (ht:uE P t=Ah (Aj,k):=by kernel_rfl) (hb:B.all (λj=>behind os i os.size j)=true:=by kernel_rfl) (hJ:Jj.contains q=true:=by kernel_rfl)
  (hk:uG os B li i=true:=by kernel_rfl) (hd:Nat.blt d n=true:=by kernel_rfl) (hg:qI os S g=Ah true:=by kernel_rfl):J P n X Q (.dr os B Jj (fuel+1) li) S Ls F m:=
 ⟨λhq r hm a w hs=>dlo i q (.agg cs.toArray) hs hi hx hr (λa' hs'=>h.go hq r hm a' w hs') (by
  obtain⟨h1,h2⟩:=zWw hv;obtain⟨h3,h4⟩:=zWU h1;rw[QL] at h4;unfold zKu;rw[ht];have:Nat.ble (o+k) c.toArray.size=true:=by rw[UL];simp;omega
  simp only[this,Qx,z0a,mkV];grind) hb hJ (λc v a w hp=>(hq r c _ _ hp).elim) hk hd hg⟩
section
variable {τ ω:Type}{e:E τ}{ef:E ω}{te:Ap}{r:zK}{p0:Option Ax}{c k0:Nat}{z:List τ}{ix j:Int}{lo hi:Option As}{vlo vhi:Option Am}
variable{f:τ->Option ρ}
theorem xJ(i k:Nat)(hi:os[i]?=Ah ⟨Ah d,.indexAddr t x y,ty,pos,af,g⟩)(hF:xE F k=R e p0 c k0 z)(hx:zV S x=Ah (.slice p0 k0 c))(hy:zV S y=Ah (.int kd ix))
  (h:∀ u b o,J P n X Q (.dr os B Jj fuel (li.setIfInBounds i Aj)) ((d,pt b o)::S) Ls (Pt e b o u::F) (f u))
  (ht:uM P t=Ah e.n:=by kernel_rfl) (hk:uG os B li i=true:=by kernel_rfl) (hd:Nat.blt d n=true:=by kernel_rfl) (hg:qI os S g=Ah true:=by kernel_rfl) :
  J P n X Q (.dr os B Jj (fuel+1) li) S Ls F ((zD z ix).bind f):=
 ⟨λhq r hm a w hs=>by
  obtain⟨u,h1,h2⟩:=bnd hm;exact dir i hs hi (hF▸hs.g k) hx hy h1 (λb o a h'=>(h u b o).go hq r h2 a w h') ht (λc v a w hp=>(hq r c _ _ hp).elim) hk hd hg⟩
theorem xN{u:τ}(i:Nat)(ag:Bool)(op:yO e)(hi:os[i]?=Ah ⟨Ah d,.load t x,ty,pos,af,g⟩)(hP:yD Ls F (Pt e b o u))(hx:zV S x=Ah (pt b o))
  (h:op.op u [] F λcs F'=>mkC ag cs λv=>J P n X Q (.dr os B Jj fuel (li.setIfInBounds i Aj)) ((d,v)::S) Ls F' m) (ht:uE P t=Ah (ag,e.n):=by kernel_rfl) (hag:ag=Aj\/e.n=1:=by first | exact .inl rfl | exact .inr rfl)
  (hb:B.all (λj=>behind os i os.size j)=true:=by kernel_rfl) (hk:uG os B li i=true:=by kernel_rfl) (hd:Nat.blt d n=true:=by kernel_rfl) (hg:qI os S g=Ah true:=by kernel_rfl):J P n X Q (.dr os B Jj (fuel+1) li) S Ls F m:=
 ⟨λhq r hm a w hs=>dlp i ag hs hi (hP _ _ hs.o hs.f) hx (λci hc v hv a h'=>by
  obtain⟨F',h1,h2⟩:=op.spec hc h'.f h;rw[QE] at h1;exact(zSx h1 hv).go hq r hm a w ⟨h'.s,h'.o,h'.e,h2⟩) ht hag hb (λc v a w hp=>(hq r c _ _ hp).elim) hk hd hg⟩
theorem jdI(i k:Nat)(hi:os[i]?=Ah ⟨Ah d,.indexAddr t x y,ty,pos,af,g⟩)(hF:xE F k=Ar e te r p0 c k0 z)(hx:zV S x=Ah (.slice p0 k0 c))(hy:zV S y=Ah (.int kd ix))
  (h:∀ u,zD z ix=Ah u->∀ b o,p0=Ah ⟨b,o,Ai⟩->J P n X Q (.dr os B Jj fuel (li.setIfInBounds i Aj)) ((d,pt b (o+ix.toNat*e.n))::S) Ls F (f u))
  (ht:uM P t=Ah e.n:=by kernel_rfl) (hk:uG os B li i=true:=by kernel_rfl) (hd:Nat.blt d n=true:=by kernel_rfl) (hg:qI os S g=Ah true:=by kernel_rfl) :
  J P n X Q (.dr os B Jj (fuel+1) li) S Ls F ((zD z ix).bind f):=
 ⟨λhq r hm a w hs=>by
  obtain⟨u,h1,h2⟩:=bnd hm;exact dia i hs hi (hF▸hs.g k) hx hy h1 (λb o hp a h'=>(h u h1 b o hp).go hq r h2 a w h') ht (λc v a w hp=>(hq r c _ _ hp).elim) hk hd hg⟩
theorem jdL{u:τ}(i ri k:Nat)(s:tT e ef)(ag:Bool)(op:yO ef)(hi:os[i]?=Ah ⟨Ah d,.load t x,ty,pos,af,g⟩)(hF:xE F k=Ar e te r p0 c k0 z)(hp:p0=Ah ⟨b,o,Ai⟩)(hm0:zD z ix=Ah u)(hx:zV S x=Ah (pt b (o+ix.toNat*e.n+s.off)))
  (h:op.op (s.get u) [] F λcs F'=>mkC ag cs λv=>J P n X Q (.dr os B Jj fuel (li.setIfInBounds i Aj)) ((d,v)::S) Ls F' m) (hr:Ls[ri]?=Ah r:=by rfl) (ht:uE P t=Ah (ag,ef.n):=by kernel_rfl) (hag:ag=Aj\/ef.n=1:=by first | exact .inl rfl | exact .inr rfl)
  (hb:B.all (λj=>behind os i os.size j)=true:=by kernel_rfl) (hJ:Jj.contains ri=true:=by kernel_rfl) (hk:uG os B li i=true:=by kernel_rfl) (hd:Nat.blt d n=true:=by kernel_rfl) (hg:qI os S g=Ah true:=by kernel_rfl):J P n X Q (.dr os B Jj (fuel+1) li) S Ls F m:=
 ⟨λhq r hm a w hs=>dla i ri s ag hs hi (hF▸hs.g k) hp hm0 hx (λci hc v hv a h'=>by
  obtain⟨F',h1,h2⟩:=op.spec hc h'.f h;rw[QE] at h1;exact(zSx h1 hv).go hq r hm a w ⟨h'.s,h'.o,h'.e,h2⟩) hr ht hag hb hJ (λc v a w hp=>(hq r c _ _ hp).elim) hk hd hg⟩
theorem jdw{f:List τ->Option ρ}{i0:Int}(i:Nat)(hi0:os[i]?=Ah ⟨Ah d,.slice t x lo hi Ai,ty,pos,af,g⟩)(g0:yD Ls F (R e p0 c k0 z))(hx:zV S x=Ah (.slice p0 k0 c))(hlo:zSW S lo=Ah vlo)(hhi:zSW S hi=Ah vhi)(b1:Bd vlo i0 0)(b2:Bd vhi j z.length)
  (h:∀ u p' c',J P n X Q (.dr os B Jj fuel (li.setIfInBounds i Aj)) ((d,sv p' u c')::S) Ls (Rl e p' c' u::F) (f u))
  (ht:uM P t=Ah e.n:=by kernel_rfl) (hk:uG os B li i=true:=by kernel_rfl) (hd:Nat.blt d n=true:=by kernel_rfl) (hg:qI os S g=Ah true:=by kernel_rfl) :
  J P n X Q (.dr os B Jj (fuel+1) li) S Ls F ((sub z i0 j).bind f):=
 ⟨λhq r hm a w hs=>by
  obtain⟨u,h1,h2⟩:=bnd hm;exact z48 i hs hi0 (g0 _ _ hs.o hs.f) hx hlo hhi b1 b2 h1 (λp' c' a h'=>(h u p' c').go hq r h2 a w h') ht (λc v a w hp=>(hq r c _ _ hp).elim) hk hd hg⟩
theorem jdV{f:Unit->Option ρ}{x2:As}(i k:Nat)(hi0:os[i]?=Ah ⟨Ah d,.slice t x (Ah x2) Ai Ai,ty,pos,af,g⟩)(hF:xE F k=Ar e te r p0 c k0 z)(hx:zV S x=Ah (.slice p0 k0 c))(hlo:zV S x2=Ah (.int kd j))
  (h:∀ u p' c',Vw e.n p0 c k0 j p' (Int.toNat ((k0:Int)-j))->J P n X Q (.dr os B Jj fuel (li.setIfInBounds i Aj)) ((d,.slice p' (Int.toNat ((k0:Int)-j)) c')::S) Ls F (f u))
  (ht:uM P t=Ah e.n:=by kernel_rfl) (hk:uG os B li i=true:=by kernel_rfl) (hd:Nat.blt d n=true:=by kernel_rfl) (hg:qI os S g=Ah true:=by kernel_rfl) :
  J P n X Q (.dr os B Jj (fuel+1) li) S Ls F ((chk (decide (0<=j)&&decide (j<=(z.length:Int)))).bind f):=
 ⟨λhq r hm a w hs=>by
  obtain⟨u,h1,h2⟩:=bnd hm;exact z1G i hs hi0 (hF▸hs.g k) hx hlo h1 (λp' c' hv a h'=>(h u p' c' hv).go hq r h2 a w h') ht (λc v a w hp=>(hq r c _ _ hp).elim) hk hd hg⟩
end
theorem zR (i:Nat)(h:J P n X Q (.fo i os B Jj fuel li) S Ls F m)(hr:Region.ready .any os li=[i]:=by kernel_rfl): J P n X Q (.dr os B Jj (fuel+1) li) S Ls F m:=
 ⟨λhq r hm a w hs=>by
  obtain⟨o,h1,h2⟩:=h.go hq r hm a w hs;exact d1 i h1 h2 hr⟩
theorem uS (i j:Nat)(h:J P n X Q (.fo i os B Jj fuel li) S Ls F m)(h':J P n X Q (.fo j os B Jj fuel li) S Ls F m)(hr:Region.ready .any os li=[i,j]:=by kernel_rfl): J P n X Q (.dr os B Jj (fuel+1) li) S Ls F m:=
 ⟨λhq r hm a w hs=>by
  obtain⟨o,h1,h2⟩:=h.go hq r hm a w hs;obtain⟨o',h1',h2'⟩:=h'.go hq r hm a w hs;exact d2 i j h1 h1' h2 h2' hr⟩
theorem jd3 (i j k:Nat)(h:J P n X Q (.fo i os B Jj fuel li) S Ls F m)(h':J P n X Q (.fo j os B Jj fuel li) S Ls F m)(h'':J P n X Q (.fo k os B Jj fuel li) S Ls F m)(hr:Region.ready .any os li=[i,j,k]:=by kernel_rfl): J P n X Q (.dr os B Jj (fuel+1) li) S Ls F m:=
 ⟨λhq r hm a w hs=>by
  obtain⟨o,h1,h2⟩:=h.go hq r hm a w hs;obtain⟨o',h1',h2'⟩:=h'.go hq r hm a w hs;obtain⟨o'',h1'',h2''⟩:=h''.go hq r hm a w hs;exact d3 i j k h1 h1' h1'' h2 h2' h2'' hr⟩
variable{L0:List zK}
theorem zM(h:J P n X Q (.dr os B Jj fuel li) S Ls F m)(hJ:Jj.map (Ls[·]?)=Jj.map (L0[·]?):=by rfl): J P n X Q (.af L0 os B Jj fuel li) S Ls F m:=
 ⟨λhq r hm a w hs w0 hE=>dn hs hE (h.go hq r hm a w hs) hJ⟩
theorem tZ(B' J':List Nat)(h:J P n X Q (.dr os B' J' fuel li) S Ls F m)(hb:B.all (λj=>!li.getD j Ak)=false:=by kernel_rfl): J P n X Q (.af L0 os B Jj fuel li) S Ls F m:=
 ⟨λhq r hm a w hs w0 hE=>db B' J' hs (h.go hq r hm a w hs) hb⟩
end
section
variable {P:Aq}{n:Nat}{X:Hd qd}{ρ:Type}{Q:PQ ρ}{S:Sl}{Ls:List zK}{F:List PP}{m:Option ρ}{os:Array Oper}{x:As}{p p':uJ}{d t:Nat}{ty:Ap}{pos:String}{af:Array Edge}{g:Option (Nat×Bool)}
variable{b o:Nat}{fr:Nat×Nat}{v:Am}
theorem jfl0{c:List Am}{te:Ap}(at0:At Ls p os ⟨Ah d,.load t x,ty,pos,af,g⟩ p')(i:Nat)(hx:zV S x=Ah (pt b o))(hr:Ls[i]?=Ah [(b,.cells c.toArray te fr)])(hv:z6d c o Ah=Ah v)(h:J P n X Q p' ((d,v)::S) Ls F m)
  (ht:uE P t=Ah (Ak,1):=by kernel_rfl) (hd:Nat.blt d n=true:=by kernel_rfl) (hg:qI os S g=Ah true:=by kernel_rfl):J P n X Q p S Ls F m:=
 ⟨λhq r hm a w hs=>at0.run λK hK=>zOF i v hs hx hr (λa h'=>hK (qE.refl _ _) (h.go hq r hm a w h')) (by
  rw[zXK] at hv;have hv':c[o]?=Ah v:=by cases hc:c[o]? <;> simp_all
  have hlt:=(Qk.1 hv').1;unfold zKu;rw[ht];have:Nat.ble (o+1) c.toArray.size=true:=by rw[UL,QX];exact hlt
  simp only[this,Qx,z0a];grind [List.drop_eq_getElem_cons,mkV]) hd hg⟩
end
end
section
open Go Go.RowKit
variable {qd:Prop}
set_option linter.unusedVariables false
section
variable {P:Aq}{ops:Array Oper}{Q:Exit->Ay->Ao->Prop}{K:Ay->Ao->Prop}
variable {A:List Nat}{L0 Ls:List zK}{w0 w:Ao}{n:Nat}{S:List (Nat×Am)}{F:List PP}{a:Ay}{Z:List Nat}
variable {d:Nat}{ty:Ap}{pos:String}{af:Array Edge}{g:Option (Nat×Bool)}
variable {τ:Type}{e:E τ}{te:Ap}{r:zK}{p q:Option Ax}{c:Nat}{l z:List τ}{t:Ap}{x y:As}{i j:Int}{k1 k2:Au}
theorem z8S{α:Type}{n c:Int}{z:α}{l:List α}(h:tI n c z=Ah l): 0<=n/\n<=c/\c<=4294967296/\l=List.replicate n.toNat z:=by grind [tI]
theorem b_make{zd:τ}{zv:Am}(h:SS qd A L0 w0 n S Ls F a w)(hz:zHO P te=Ah zv)(hzr:e.rd (bl Ls++A) w zv.cells.toList zd)(hx:zV S x=Ah (.int k1 i))(hy:zV S y=Ah (.int k2 j))(hm:tI i j zd=Ah l)
  (k:∀ r p c a' w',SS qd A L0 w0 n ((d,.slice p (List.length l) c)::S) (Ls++[r]) (Ar e te r p c (List.length l) l::F) a' w'->qE qd Ls w (Ls++[r]) w'->K a' w')
  (ht:xM P t te e.n=true:=by kernel_rfl) (hd:Nat.blt d n=true:=by kernel_rfl) (hg:qI ops S g=Ah true:=by kernel_rfl):vK P ops Q ⟨Ah d,.makeSlice t x y,ty,pos,af,g⟩ K a w:=by
 obtain⟨h0,hij,hj,rfl⟩:=z8S hm;obtain⟨hu,info,zv',hi,hz',hsize,hby,hpos,hzs⟩:=zJP ht;have hzz:zv'=zv:=by simp[zHO,hi,hz'] at hz;exact hz
 subst hzz;have hjn:j=(j.toNat:Int):=by omega
 have hbytes:(info.bytes:Int)*j<=281474976710656:=by
  have h1:info.bytes*j.toNat<=32768*4294967296:=US hby (by omega);rw[hjn];have h2:((info.bytes*j.toNat:Nat):Int)<=281474976710656:=by omega
  rwa [Int.natCast_mul] at h2
 have hrun:=run_make (P:=P) w t te info zv' hu hi hz' k1 k2 i j h0 hij hbytes (by omega);have hcs:(madeCells zv'.cells (j.toNat*info.size)).toList=(List.replicate j.toNat zv'.cells.toList).flatten:=by
  rw[<-zLD,hsize,<-hzs];rfl
 have hE:=qE.alloc (qd:=qd) (w:=w) (w':=w.alloc (.cells (madeCells zv'.cells (j.toNat*info.size)) te)) Ls (.cells (madeCells zv'.cells (j.toNat*info.size)) te) rfl rfl rfl rfl;have hrd:=e.rdL_take i.toNat (E.rdL_replicate hzr j.toNat);rw[<-hcs,List.take_replicate,Ua (by omega)] at hrd;refine zEa h.s hd hg (v:=.slice (Ah ⟨w.heap.size,0,Ai⟩) (List.replicate i.toNat zd).length j.toNat) (w':=w.alloc (.cells (madeCells zv'.cells (j.toNat*info.size)) te)) ?_ λa hS=>?_
 ·simp[Av,h.s.eval hx,h.s.eval hy,hrun]
 ·refine k _ _ _ a _ (h.next (h.o.alloc _ rfl) hE hS [Ar e te _ _ _ _ _] ⟨⟨yS.mk0 w.heap.size _ rfl rfl (by grind) (by grind [maxLen]) (by rw[size_madeCells,hsize]) ?_,rfl⟩,trivial⟩) hE;rw[List.length_replicate];exact e.rdL_step (hE.step A) hrd
end
section
variable {P:Aq}{n:Nat}{X:Hd qd}{ρ σ:Type}{Q:PQ ρ}{S:Sl}{Ls:List zK}{F:List PP}{m m1 m2:Option ρ}{os:Array Oper}{l:List Oper}{x y:As}{p p':uJ}
variable {d t:Nat}{ty ty2:Ap}{pos pos2:String}{af af2:Array Edge}{g g2:Option (Nat×Bool)}{k1 k2:Au}{i j:Int}
variable {τ:Type}{e:E τ}{te:Ap}
theorem jmk{f:List τ->Option ρ}(at0:At Ls p os ⟨Ah d,.makeSlice t x y,ty,pos,af,g⟩ p')(te:Ap)(zd:τ)(zv:Am)(hzr:RV e Ls F zv.cells.toList zd)(hx:zV S x=Ah (.int k1 i))(hy:zV S y=Ah (.int k2 j))
  (h:∀ z r' p1 c',zMw Ls r' λLs'=>J P n X Q p' ((d,sv p1 z c')::S) Ls' (Al e te r' p1 c' z::F) (f z)) (hz:zHO P te=Ah zv:=by kernel_rfl) (ht:xM P t te e.n=true:=by kernel_rfl)
  (hd:Nat.blt d n=true:=by kernel_rfl) (hg:qI os S g=Ah true:=by kernel_rfl):J P n X Q p S Ls F ((tI i j zd).bind f):=
 ⟨λhq r0 hm a w hs=>by
  obtain⟨z,h1,h2⟩:=bnd hm;exact at0.run λK hK=>b_make hs hz (hzr _ _ hs.o hs.f) hx hy h1 (λr' p1 c' a w' h' e=>hK e (by
   have h:=h z r' p1 c';rw[zHh] at h;exact h.go hq r0 h2 a w' h')) ht hd hg⟩
end
theorem jcm{P:Aq}{n:Nat}{X:Hd qd}{ρ α β:Type}{Q:PQ ρ}{p:uJ}{S:Sl}{Ls:List zK}{F:List PP}{ma:Option α}{mb:Option β}{f:α->β->Option ρ}(h:J P n X Q p S Ls F (mb.bind λy=>ma.bind λx=>f x y)): J P n X Q p S Ls F (ma.bind λx=>mb.bind λy=>f x y):=by
 have e:(ma.bind λx=>mb.bind λy=>f x y)=(mb.bind λy=>ma.bind λx=>f x y):=by cases ma <;> cases mb <;> rfl
 grind
def fldV (P:Aq)(t i:Nat)(cs:Array Am): Option Value:=match P.underlying t with
 | some (.struct fs)=>match fs[i]? with
  | some f=>zKu P f.type cs f.offset
  | none=>Ai
 | _=>Ai
theorem z7R{P:Aq}{w:Ao}{t:Ap}{cs:Array Am}{o:Nat}{v:Am}(h:zKu P t cs o=Ah v): (part t cs o).run P w=.ok v w:=by
 unfold zKu at h;split at h
 ·cases h
 ·rename_i ag n hs;split at h
  ·rename_i hle;have hle':o+n<=cs.size:=QN hle;obtain⟨h1,h2⟩:=zFK (w:=w) hs;cases ag with
   | true=>
    simp only[mkV,Qf] at h;subst h;have he:cs.extract o (o+n)=(List.take n (List.drop o cs.toList)).toArray:=by
     apply Array.ext';simp[List.extract_eq_take_drop]
    simp[part,h1,h2,z0a,he]
   | false=>
    have hg:z0a cs o n=[v]:=by
     cases hc:z0a cs o n with
     | nil=>simp[hc,mkV] at h
     | cons u r=>cases r with
      | nil=>grind [mkV]
      | cons _ _=>simp[hc,mkV] at h
    have:cs[o]?=Ah v:=by
     have:=z7z (c:=cs) (o:=o) (n:=n) (j:=0) (u:=v) (by grind);simpa using this
    simp[part,h1,this]
  ·cases h
theorem z0H{P:Aq}{a:Ay}{n:Nat}{S:Sl}{t i:Nat}{x:As}{cs:Array Am}{v:Am}{d:Option Tmp}{ty:Ap}{pos:String}{af:Array Edge}{g:Option (Nat×Bool)}(hS:qV a n S)(hx:zV S x=Ah (.agg cs))(hf:fldV P t i cs=Ah v)(w:Ao):
  (Av a.eval ⟨d,.field t x i,ty,pos,af,g⟩).run P w=.ok (.value v) w:=by
 unfold fldV at hf;split at hf
 ·rename_i fs hu;split at hf
  ·rename_i f hff;simp[Av,hS.eval hx,Instr.field,run_underlying hu,hff,asAgg,z7R hf]
  ·cases hf
 ·cases hf
end
section
open Go Go.RowKit
variable {qd:Prop}
theorem ba_eqv (x y:zA): ((⟨x.toArray⟩:ByteArray)==⟨y.toArray⟩)=(x==y):=by
 show(x.toArray==y.toArray)=(x==y);simp
theorem zRE.string{P:Aq}{t kt vt:Ap}(hu:P.underlying t=Ah (.map kt vt))(hk:P.underlying kt=Ah .string): zRE P t kt vt (λx:zA=>vs x):=
 ⟨hu,λb x w=>by
   rw[show(10000:Nat)=9999+1 from rfl];unfold Instr.checkKey;simp only[Sem.run_bind,run_underlying hk,Result.andThen_ok];rfl,
  λx y w=>by
   show(Op.equalIn 10000 kt (vs x) (vs y)).run P w=_;rw[show(10000:Nat)=9999+1 from rfl,run_equalIn_string w 9999 kt _ _ hk,zQX,zQX],⟨_,hk,λx y=>.inr (by rw[<-ba_eqv];rfl)⟩,λx=>by simp[Instr.sameBits,ba_beq]⟩
section
variable {P:Aq}{n:Nat}{X:Hd qd}{ρ:Type}{Q:PQ ρ}{S:Sl}{Ls:List zK}{F:List PP}{m:Option ρ}{os:Array Oper}{ol:List Oper}{x y x3:As}{p p':uJ}{d t kt vt:Nat}{ty:Ap}{pos:String}{af:Array Edge}{g:Option (Nat×Bool)}
variable {r:zK}{b:Nat}{z:List (zA×Am)}{k:zA}{v:Am}
theorem jmI (at0:At Ls p os ⟨Ai,.insert t x y x3,ty,pos,af,g⟩ p')(i q:Nat)(H:zRE P t kt vt vs)(hF:xE F q=Ma vs (λv:Am=>v) r b z)(hx:zV S x=Ah (.map (Ah b)))(hy:zV S y=Ah (vs k))(hz:zV S x3=Ah v)
  (h:∀ r',xT Ls i r' λLs'=>J P n X Q p' S Ls' (Ma vs (λv:Am=>v) r' b (z7B z k v)::F) m) (hr:Ls[i]?=Ah r:=by rfl) (hg:qI os S g=Ah true:=by kernel_rfl):J P n X Q p S Ls F m:=
 ⟨λhq r0 hm a w hs=>at0.run λK hK=>by
  have h1:vK P os (Q r0) ⟨Ai,.mapUpdate t x y x3,ty,pos,af,g⟩ K a w:=z0r i hs H (hF▸hs.g q) hx hy hz hr (λr' a w' h' e=>hK e (by
   have h:=h r';rw[zGH] at h;exact h.go hq r0 hm a w' h')) hg
  exact h1⟩
def lkv:Option Am->Am
 | none=>.tuple #[.nilFunc,vb Ak]
 | some v=>.tuple #[v,vb Aj]
def MGm (z:List (zA×Am))(k:zA)(H:Option Am->Option ρ->Prop)(m:Option ρ): Prop:=H (tX z k) m
variable{H:Option Am->Option ρ->Prop}
theorem mg0(h:H Ai m): MGm [] k H m:=h
theorem mgi{x:zA}{m1 m2:Option ρ}(h1:(k==x)=Aj->H (Ah v) m1)(h2:(k==x)=Ak->MGm z k H m2): MGm ((x,v)::z) k H (if(k==x)=Aj then m1 else m2):=by
 unfold MGm;cases hb:k==x with
 | true=>
  have e:tX ((x,v)::z) k=Ah v:=by simp[tX,hb]
  grind
 | false=>
  have e:tX ((x,v)::z) k=tX z k:=by simp[tX,hb]
  rw[e];exact h2 hb
theorem jmL{z2:List (zA×Am)}(i q:Nat)(H:zRE P t kt vt vs)(hF:xE F q=Ma vs (λv:Am=>v) r b z)(hx:zV S x=Ah (.map (Ah b)))(hy:zV S y=Ah (vs k))(hz2:z=z2)
  (h:MGm z2 k (λo m=>J P n X Q (.ops os ol) ((d,lkv o)::S) Ls F m) m) (hr:Ls[i]?=Ah r:=by rfl) (hz:zHO P vt=Ah .nilFunc:=by kernel_rfl) (hd:Nat.blt d n=true:=by kernel_rfl) (hg:qI os S g=Ah true:=by kernel_rfl) :
  J P n X Q (.ops os (⟨Ah d,.lookup t x y Aj,ty,pos,af,g⟩::ol)) S Ls F m:=
 ⟨λhq r0 hm a w hs=>sl (z7i (vv:=λv:Am=>v) (zv:=.nilFunc) Aj hs H (hF▸hs.g q) hx hy hz hr (λa h'=>by
  subst hz2;have e:(if Aj=Aj then Am.tuple #[(tX z k).getD .nilFunc,vb (tX z k).isSome] else(tX z k).getD .nilFunc)=lkv (tX z k):=by
   cases tX z k <;> rfl
  rw[e] at h';exact(show J P n X Q (.ops os ol) ((d,lkv (tX z k))::S) Ls F m from h).go hq r0 hm a w h') hd hg)⟩
end
end
section
open Go Go.RowKit Go.Shelf Go.Sort Go.Proofs
variable {qd:Prop}
structure z19{τ:Type}(e:E τ) where
 enc:τ->List Am
 iff:∀ {Z w cs x},e.rd Z w cs x↔cs=enc x
def z19.int (k:Au): z19 (zT k):=⟨λx=>[.int k x],Iff.rfl⟩
def z19.bool:z19 tH:=⟨λx=>[.bool x],Iff.rfl⟩
def z19.str:z19 qP:=⟨λx=>[vs x],Iff.rfl⟩
section
variable {τ:Type}{e:E τ}
theorem z19.len (F:z19 e)(x:τ): (F.enc x).length=e.n:=e.len (Z:=[]) (w:=default) (F.iff.2 rfl)
theorem z19.one (F:z19 e)(x:τ): ∀ v∈F.enc x,v.oneCell'=true:=e.one (Z:=[]) (w:=default) (F.iff.2 rfl)
theorem z19.rdL (F:z19 e){Z:List Nat}{w:Ao}: ∀ {l:List τ} {cs:List Am},e.rdL Z w cs l↔cs=l.flatMap F.enc
 | [],cs=>by simp[E.rdL]
 | x::l,cs=>by
  simp only[E.rdL,UU];constructor
  ·rintro ⟨c1,c2,rfl,h1,h2⟩;rw[F.iff.1 h1,(z19.rdL F).1 h2]
  ·rintro rfl;exact⟨_,_,rfl,F.iff.2 rfl,(z19.rdL F).2 rfl⟩
end
end
section
open Go Go.RowKit Go.Shelf Go.Sort Go.Proofs
variable {qd:Prop}
end
section
open Go Go.RowKit Go.Shelf Go.Sort Go.Proofs
variable {qd:Prop}
end
section
open Go Go.RowKit
variable {qd:Prop}
set_option linter.unusedVariables false
def zY0{τ:Type}(k:Nat)(e:E τ): E (List τ):=
 ⟨k*e.n,λZ w cs l=>l.length=k/\e.rdL Z w cs l,
  by rintro _ _ _ _ ⟨h1,h2⟩;rw[e.rdL_len h2,h1],
  by rintro _ _ _ _ _ _ s ⟨h1,h2⟩;exact⟨h1,e.rdL_step s h2⟩,
  by rintro _ _ _ _ ⟨h1,h2⟩ c hc;exact e.rdL_one h2 c hc⟩
def zTV (P:Aq)(t:Ap): Option (Nat×Nat):=match P.underlying t with
 | some (.array k el)=>(P.info? el).map λi=>(k,i.size)
 | _=>Ai
theorem zRe{P:Aq}{w:Ao}{t:Ap}{b o k n:Nat}{kd:Au}{i:Int}(h:zTV P t=Ah (k,n))(h0:0<=i)(h1:i.toNat<k):
  (Instr.indexAt t (.pointer (Ah ⟨b,o,Ai⟩)) (.int kd i)).run P w=.ok (.pointer (Ah ⟨b,o+i.toNat*n,Ai⟩)) w:=by
 unfold zTV at h;split at h
 ·rename_i k' el hu;cases hq:P.info? el with
  | none=>grind
  | some info=>
   have hh:k'=k/\info.size=n:=by simpa [hq] using h
   obtain⟨rfl,rfl⟩:=hh;have h2:i<(k':Int):=by omega
   simp[Instr.indexAt,asIntOf,run_underlying hu,Instr.sureAddr,h0,h2,sizeOf,typeInfo,hq,zBg]
 ·cases h
section
variable {P:Aq}{n:Nat}{X:Hd qd}{ρ σ:Type}{Q:PQ ρ}{S:Sl}{Ls:List zK}{F:List PP}{m m1 m2:Option ρ}{os:Array Oper}{l:List Oper}{x y:As}{p p':uJ}
variable {d t:Nat}{ty ty2:Ap}{pos pos2:String}{af af2:Array Edge}{g g2:Option (Nat×Bool)}{kd:Au}{ix:Int}
variable {τ:Type}{e:E τ}{k:Nat}{z:List τ}{b o:Nat}{B Jj:List Nat}{li:Array Bool}{fuel:Nat}
theorem arr_at{Z:List Nat}{w:Ao}{u:τ}(hP:(Pt (zY0 k e) b o z).h Z w)(hm:zD z ix=Ah u): 0<=ix/\ix.toNat<k/\(Pt e b (o+ix.toNat*e.n) u).h Z w:=by
 obtain⟨b',o',cs,he,hb,hlt,⟨hk,hl⟩,hc⟩:=hP;cases he;unfold zD at hm;split at hm
 ·rename_i h0;obtain⟨hlt',hv⟩:=Qk.1 hm;obtain⟨ci,h1,h2⟩:=e.rdL_get hl hm;exact⟨h0,by omega,b,_,ci,rfl,hb,hlt,h1,λj u hu=>by grind⟩
 ·cases hm
theorem jgx{f:τ->Option ρ}(hP:yD Ls F (Pt (zY0 k e) b o z))(hx:zV S x=Ah (pt b o))(hy:zV S y=Ah (.int kd ix))
  (h:∀ u,J P n X Q (.ops os l) ((d,pt b (o+ix.toNat*e.n))::S) Ls (Pt e b (o+ix.toNat*e.n) u::F) (f u))
  (ht:zTV P t=Ah (k,e.n):=by kernel_rfl) (hd:Nat.blt d n=true:=by kernel_rfl) (hg:qI os S g=Ah true:=by kernel_rfl) :
  J P n X Q (.ops os (⟨Ah d,.indexAddr t x y,ty,pos,af,g⟩::l)) S Ls F ((zD z ix).bind f):=
 ⟨λhq r hm a w hs=>by
  obtain⟨u,h1,h2⟩:=bnd hm;obtain⟨h3,h4,h5⟩:=arr_at (hP _ _ hs.o hs.f) h1;exact sl (z7X hs (v:=pt b (o+ix.toNat*e.n)) (λw'=>by simp[Av,hs.s.eval hx,hs.s.eval hy,zRe ht h3 h4]) (λa h'=>(h u).go hq r h2 a w (h'.add h5)) hd hg)⟩
end
end
section
open Go Go.RowKit Go.Shelf Go.Proofs
variable {qd:Prop}
theorem zPl{w w':Ao}(h:Below w.heap.size w w'): qE False [] w [] w':=
 ⟨h.os,h.tape,h.output,λq=>q.elim,h.size,λk hk _=>h.block k hk,λb hb=>by grind⟩
section
variable {P:Aq}{f:FuncId}{vs:List Am}{F:List PP}{σ τ:Type}{m:Option σ}
theorem z8H{val:σ->Am}(hc:∀ args w,(callFunc f args).run P w=.ok (.enter f args) w)
  (h:∀ Z w r,m=Ah r->xI F Z w->Calls P f vs.toArray w λe w'=>e=.returned (val r)/\qE qd [] w [] w'):zJ qd P f vs [] F m λr K=>K (val r) [] []:=
 ⟨hc,λ_ w0 r hm hO hF=>(h _ w0 r hm hF).mono λe w' ⟨he,hE⟩=>by subst he;exact λG k=>k ⟨rfl,hO.frame hE,hE,trivial⟩⟩
end
def Tb (P:Aq)(name:String)(k:Au)(zs:List Int): PP:=
 ⟨λZ w=>∃ g,P.globalNamed name=Ah g/\g∉Z/\g<w.heap.size/\Lib.TabIs P w name k zs,by
  rintro Z w Z' w' s ⟨g,h1,h2,h3,h4⟩;obtain⟨h5,h6⟩:=s.same g h3 h2;grind [Lib.TabIs,Ao.var?]⟩
theorem z11{Z:List Nat}{w:Ao}: ∀ l:List zA,qP.rdL Z w (l.map λx=>Am.string ⟨⟨x⟩⟩) l
 | []=>rfl
 | x::l=>⟨[.string ⟨⟨x⟩⟩],_,rfl,rfl,z11 l⟩
section
variable {P:Aq}{ρ:Ren}
theorem z7a (L:Lays.n156 P ρ)(X:Builder.Extra P ρ)(hc:∀ args w,(callFunc (ρ.f 156) args).run P w=.ok (.enter (ρ.f 156) args) w){p:Option Ax}{c:Nat}{l:List zA}{s:zA}:
  zJ False P (ρ.f 156) [sv p l c,vs s] [] [Rl qP p c l] (z8F l s) λr K=>K (vs r) [] []:=by
 refine z8H hc λZ w r hm hF=>?_;unfold z8F at hm;split at hm;case isFalse=>cases hm
 rename_i hl;obtain rfl:=QA hm;obtain⟨hR,_⟩:=hF.1;rcases hR.2 with h0 | ⟨b,o,cs,hp,hb,hlt,hcs,hcell⟩
 ·subst h0;refine(Any.strings_Join_none L X p c ⟨⟨s⟩⟩ w).mono λe w' ⟨he,hw⟩=>?_;subst hw;exact⟨he,qE.refl _ _⟩
 ·subst hp;have hmap:(l.map λs:zA=>(⟨⟨s⟩⟩:ByteArray)).map (·.data.toList)=l:=by rw[List.map_map];exact(UH λ_ _=>rfl).trans (List.map_id _)
  have hlen:(l.map λs:zA=>(⟨⟨s⟩⟩:ByteArray)).length=l.length:=by simp
  have h:=Any.strings_Join L X b o c (l.map λs:zA=>(⟨⟨s⟩⟩:ByteArray)) ⟨⟨s⟩⟩ w (λj x hx=>by
   rw[Um,Q9] at hx;obtain⟨y,hy,rfl⟩:=hx;obtain⟨ci,h1,h2⟩:=qP.rdL_get hcs hy;obtain rfl:ci=[.string ⟨⟨y⟩⟩]:=h1;have:=hcell (j*1+0) (.string ⟨⟨y⟩⟩) (h2 0 _ rfl);grind) hlt (by grind) (by rw[hlen];exact hR.1) (by rw[hmap];exact hl.2)
  rw[hlen,hmap] at h;exact h.mono λe w' ⟨he,hw⟩=>⟨he,zPl hw⟩
theorem z2o (L:Lays.n219 P ρ)(hc:∀ args w,(callFunc (ρ.f 219) args).run P w=.ok (.enter (ρ.f 219) args) w){s u:zA}:
  zJ qd P (ρ.f 219) [vs s,vs u] [] [] (zYT s u) λr K=>K (vi r) [] []:=by
 refine z8H hc λZ w r hm hF=>?_;unfold zYT at hm;split at hm
 ·rename_i c;obtain rfl:=QA hm;exact(Any.stringslite_Index_one L ⟨⟨s⟩⟩ c w).mono λe w' ⟨he,hw⟩=>by subst hw;exact⟨he,qE.refl _ _⟩
 ·cases hm
end
end
section
open Go Go.RowKit Go.Shelf Go.Proofs
variable {qd:Prop}
def z1F (te:Ap)(r:zK)(p:Option Ax)(c:Nat)(l:zA): Prop:=
 (r=[]/\p=Ai/\c=0/\l=[])\/∃ g cells,r=[(g,.cells cells te (0,0))]/\p=Ah ⟨g,0,Ai⟩/\l≠[]/\l.length<=c/\c<=maxLen/\cells.size=c/\cells.toList.take l.length=Lib.strCells ⟨⟨l⟩⟩
def BdR (T te:Ap)(r:zK)(b:Nat)(l:zA): Prop:=
 ∃ p ad c r2,(p=.pointer Ai\/p=pt b 0)/\r=(b,.cells #[p,.slice ad l.length c] T (0,0))::r2/\z1F te r2 ad c l
def tN (T te:Ap)(r:zK)(b:Nat)(l:zA): PP:=Pu (BdR T te r b l)
theorem zKO (l:zA): (Lib.strCells ⟨⟨l⟩⟩).length=l.length:=by rw[Lib.strCells_length];rfl
theorem zRx (l s:zA): Lib.strCells ⟨⟨l++s⟩⟩=Lib.strCells ⟨⟨l⟩⟩++Lib.strCells ⟨⟨s⟩⟩:=by simp[Lib.strCells]
section
variable {P:Aq}{w:Ao}{A:List Nat}
theorem zWe{t u te:Ap}{i:TypeInfo}(ht:P.underlying t=Ah (.slice te))(hu:P.underlying u=Ah .string)(hi:P.info? te=Ah i)(hz:i.zero=Ah (.int .u8 0))(hsize:i.size=1)(hby:i.bytes=1)
  {r:zK} {p:Option Ax} {c:Nat} {l s:zA} (hO:qK A w [r]) (hA:z1F te r p c l) (hm:l.length+s.length<4294967296) (ty:Ap) :
  ∃ r' p' c' w',(Builtin.append_ #[t,u] ty #[.slice p l.length c,.string ⟨⟨s⟩⟩]).run P w=.ok (.slice p' (l++s).length c') w'/\qK A w' [r']/\qE qd [r] w [r'] w'/\z1F te r' p' c' (l++s)/\w.drawn<=w'.drawn:=by
 have hss:(⟨⟨s⟩⟩:ByteArray).size=s.length:=rfl;have grown:∀(old:Nat) (xs:zA),xs=l->old<xs.length+s.length->xs++s≠[]->
   ∃ r',qK A (w.drew.alloc (.cells ((Lib.strCells ⟨⟨xs⟩⟩).toArray++(Lib.strCells ⟨⟨s⟩⟩).toArray++Builtin.zeroCells (Am.int .u8 0).cells (grownCap w (xs.length+s.length) old te-(xs.length+s.length))) te)) [r'] /\
    qE qd [r] w [r'] (w.drew.alloc (.cells ((Lib.strCells ⟨⟨xs⟩⟩).toArray++(Lib.strCells ⟨⟨s⟩⟩).toArray++Builtin.zeroCells (Am.int .u8 0).cells (grownCap w (xs.length+s.length) old te-(xs.length+s.length))) te)) /\
    z1F te r' (Ah ⟨w.heap.size,0,Ai⟩) (grownCap w (xs.length+s.length) old te) (xs++s):=by
  intro old xs hxs ho hn;have hge:=grownCap_ge w (xs.length+s.length) old te;have hcm:=grownCap_le_maxLen w (xs.length+s.length) old te (by grind [maxLen]);refine⟨[(w.heap.size,.cells ((Lib.strCells ⟨⟨xs⟩⟩).toArray++(Lib.strCells ⟨⟨s⟩⟩).toArray++Builtin.zeroCells (Am.int .u8 0).cells (grownCap w (xs.length+s.length) old te-(xs.length+s.length))) te (0,0))],?_,?_,.inr ⟨w.heap.size,_,rfl,rfl,hn,by grind,hcm,?_,?_⟩⟩
  ·exact hO.set (i:=0) rfl (by simp) (λk hk _=>Below.heap_alloc w.drew _ k hk) (λx hx=>by simp only[Qh] at hx;subst hx;exact heap_alloc_new w.drew _) (by simp) (λx hx=>by grind)
  ·exact qE.set (i:=0) rfl rfl rfl rfl (by simp) (λk hk _=>Below.heap_alloc w.drew _ k hk) (λx hx=>by grind)
  ·have hz1:(Am.int Au.u8 0).cells.size=1:=rfl;grind [size_zeroCells,zKO]
  ·grind [zKO,zRx]
 rcases hA with⟨rfl,rfl,rfl,rfl⟩ | ⟨g,cells,rfl,rfl,hne,h3,h4,h5,h6⟩
 ·by_cases hs:s=[]
  ·subst hs;have hf:=Lib.run_firstCells_string (P:=P) w 1 ⟨⟨[]⟩⟩;have hs0:(⟨⟨[]⟩⟩:ByteArray).size=0:=rfl;rw[hs0] at hf;exact⟨[],Ai,0,w,by simp[Builtin.append_,run_underlying ht,run_underlying hu,sizeOf,typeInfo,hi,hsize,Builtin.lenOf,hs0,hf],hO,qE.refl _ _,.inl ⟨rfl,rfl,rfl,rfl⟩,Qd _⟩
  ·have hpos:0<s.length:=QF.2 hs;have hr:=run_append_nil_string (P:=P) w t u ty te i (.int .u8 0) ht hu hi hz ⟨⟨s⟩⟩ (by grind) (by grind) (by grind);obtain⟨r',h1,h2,h3⟩:=grown 0 [] rfl (by grind) (by grind);have e1:((⟨⟨s⟩⟩:ByteArray).data.map λb=>Am.int .u8 b.toNat)=(Lib.strCells ⟨⟨s⟩⟩).toArray:=by
    apply Array.ext';simp[Lib.strCells]
   have e0:Lib.strCells ⟨⟨[]⟩⟩=[]:=rfl;rw[e1,hss] at hr;simp only[e0,List.length_nil,Uv,Array.empty_append] at h1 h2 h3;exact⟨r',_,_,_,hr,h1,h2,h3,Uu _⟩
 ·have hb:=zAj hO (i:=0) rfl (Qh.2 rfl);by_cases hroom:l.length+s.length<=c
  ·have hr:=Lib.run_append_room_string (P:=P) w t u ty te i ht hu hi hsize g l.length c cells hb ⟨⟨s⟩⟩ (by grind) (by grind);have hk:∀(cs:Array Am) (k:Nat),k<w.heap.size->k∉[(g,Obj.cells cells te (0,0))].map Prod.fst->(w.setRow g cs).heap[k]?=w.heap[k]?:=λcs k _ hk=>setRow_other w g k _ (λe=>hk (by simp[e]));refine⟨[(g,.cells (cells.toList.take l.length++Lib.strCells ⟨⟨s⟩⟩++cells.toList.drop (l.length+s.length)).toArray te (0,0))],_,c,w.setRow g (cells.toList.take l.length++Lib.strCells ⟨⟨s⟩⟩++cells.toList.drop (l.length+s.length)).toArray,by grind,?_,?_,.inr ⟨g,_,rfl,rfl,by simp[hne],by grind,h4,?_,?_⟩,Qd _⟩
   ·exact hO.set (i:=0) rfl (by simp) (hk _) (λx hx=>by grind [setRow_heap]) (by simp) (λx hx=>by grind)
   ·exact qE.set (i:=0) rfl rfl rfl rfl (by simp) (hk _) (λx hx=>by grind)
   ·grind [zKO]
   grind [zKO,zRx]
  ·have holds:∀ j v,(Lib.strCells ⟨⟨l⟩⟩)[j]?=Ah v->w.cell? ((⟨g,0,Ai⟩:Ax).add j)=Ah v:=λj v hv=>by
    rw[zBg,cell_of_row w g (0+j) cells te (0,0) hb,Uv];grind
   have hr:=Lib.run_append_grow_string (P:=P) w t u ty te i (.int .u8 0) ht hu hi hz ⟨g,0,Ai⟩ l.length c (Lib.strCells ⟨⟨l⟩⟩) (by grind) holds ⟨⟨s⟩⟩ (by grind) (by grind) (by rw[hby,hss];exact growslice_fits (by omega) (by omega));obtain⟨r',h1,h2,h3⟩:=grown c l rfl (by omega) (by simp[hne]);exact⟨r',_,_,_,by grind,h1,h2,h3,Uu _⟩
variable{r:zK}{c:Nat}{l s:zA}
theorem zZI{ops:Array Oper}{rest:List Oper}{o:Oper}{a:Ay}{Q:Exit->Ay->Ao->Prop}(hgd:o.guard=Ai)(sl x:As)(t u:Ap)(ho:o.op=.call { callee:=.builtin .append,args:=#[sl,x],argTypes:=#[t,u] })(te:Ap)(i:TypeInfo)
  (ht:P.underlying t=Ah (.slice te)) (hu:P.underlying u=Ah .string) (hi:P.info? te=Ah i) (hz:i.zero=Ah (.int .u8 0)) (hsize:i.size=1) (hby:i.bytes=1)
   {p:Option Ax}   (hs:a.eval sl=.slice p l.length c) (hO:qK A w [r]) (hA:z1F te r p c l) (hx:a.eval x=.string ⟨⟨s⟩⟩) (hm:l.length+s.length<4294967296)
  (h:∀ r' p' c' w',qK A w' [r']->qE qd [r] w [r'] w'->z1F te r' p' c' (l++s)->wpList P ops Q rest (a.put o.dst (.slice p' (l++s).length c')) w'):wpList P ops Q (o::rest) a w:=by
 refine wpList_plain hgd λK hK=>?_;obtain⟨r',p',c',w',hr,h2,h3,h4,_⟩:=zWe (qd:=qd) ht hu hi hz hsize hby hO hA hm o.type;unfold Oper.wp Av;simp only[ho,resolve,invoke,builtin,Sem.run_bind,Sem.run_pure,Result.andThen_ok,List.map_toArray,QU,List.map_nil,hs,hx,hr];exact hK _ _ (h r' p' c' w' h2 h3 h4)
end
section
variable {P:Aq}{ρ:Ren}
theorem BdR.at{T te b:Nat}{r:zK}{l:zA}{A:List Nat}{w:Ao}(h:BdR T te r b l)(hO:qK A w [r]):
  ∃ p ad c r2,(p=.pointer Ai\/p=pt b 0)/\w.heap[b]?=Ah (.cells #[p,.slice ad l.length c] T (0,0))/\z1F te r2 ad c l/\r=(b,.cells #[p,.slice ad l.length c] T (0,0))::r2/\qK (b::A) w [r2]/\b∉A:=by
 obtain⟨p,ad,c,r2,hp,rfl,hA⟩:=h;have hb:=zAj hO (i:=0) rfl (Qt ..);refine⟨p,ad,c,r2,hp,hb,hA,rfl,⟨?_,?_,?_,?_⟩,hO.apart b (by simp[bl])⟩
 ·intro k hk;rcases QO.1 hk with rfl | hk
  ·grind
  ·exact hO.old k hk
 ·intro r hr q hq;simp only[Qh] at hr;subst hr;exact hO.has _ (Qh.2 rfl) q (Qm _ hq)
 ·have:=hO.nodup;grind [bl]
 ·intro k hk hm;have h1:=hO.nodup;have h2:=hO.apart k (by grind [bl]);rcases QO.1 hm with rfl | hm
  ·grind [bl]
  grind
variable{T:Ap}
set_option maxHeartbeats 1000000 in
set_option maxRecDepth 100000 in
theorem z5a (L:Lays.n240 P ρ)(X:Builder.X72 P ρ)(hT:liesAt P P.depth T (2 / P.cellsOf T) 0 (ρ.t 72) 1=Aj)(b:Nat)(w:Ao)(h0:w.cell? ⟨b,0,Ai⟩=Ah (.pointer Ai))(hsh:w.shape? b=Ah (T,2))(hfz:w.frozen? ⟨b,0,Ai⟩=Ak):
  Calls P (ρ.f 240) #[.pointer (Ah ⟨b,0,Ai⟩)] w λe w'=>e=.returned (.tuple #[])/\w'=w.setCell ⟨b,0,Ai⟩ (.pointer (Ah ⟨b,0,Ai⟩)):=by
 obtain⟨j,hj,hjs⟩:=Q9.1 X.sizeBuilder;have mixed:=L.mixed;have t72:=L.t72;have a72:=L.a72;have z72:=L.z72;have v72:=L.v72;have u72:=run_underlying L.t72;have t70:=L.t70;have a70:=L.a70;have z70:=L.z70;have v70:=L.v70;have u70:=run_underlying L.t70;have t9:=L.t9;have a9:=L.a9;have z9:=L.z9;have v9:=L.v9;have u9:=run_underlying L.t9;have t4:=L.t4;have a4:=L.a4;have z4:=L.z4;have v4:=L.v4;have u4:=run_underlying L.t4;have t164:=L.t164;have a164:=L.a164;have z164:=L.z164;have v164:=L.v164;have u164:=run_underlying L.t164;go_enter L.f240,Body.n240_ntmps ρ
 go_wp2
 rw[Lib.run_to_unsafe w ⟨b,0,Ai⟩ L.t70 L.t164 hj (by grind) hsh (Nat.zero_lt_succ 1)];simp only[Result.andThen];rw[Oper.upon_value];go_wp2
 rw[run_callFunc_extern L.f276 (by kernel_rfl) (by kernel_rfl) (by kernel_rfl) (e:=Extern.AbiNoEscape.same) (by kernel_rfl)];rw[Lib.run_noEscape];simp only[Result.andThen];rw[Oper.upon_value];go_wp2
 rw[Lib.run_from_unsafe w ⟨b,0,Ai⟩ L.t164 L.t70 hj hsh hT];simp only[Result.andThen];rw[Oper.upon_value];go_wp2
 go_end0
 grind
variable{b:Nat}{p:Am}
theorem zYj (L:Lays.n240 P ρ)(X:Builder.X72 P ρ)(hT:liesAt P P.depth T (2 / P.cellsOf T) 0 (ρ.t 72) 1=Aj){v:Am}{w:Ao}(hp:p=.pointer Ai\/p=pt b 0)(hb:w.heap[b]?=Ah (.cells #[p,v] T (0,0))):
  Calls P (ρ.f 240) #[.pointer (Ah ⟨b,0,Ai⟩)] w λe w'=>e=.returned (.tuple #[])/\w'.os=w.os/\w'.tape=w.tape/\w'.output=w.output/\w'.drawn=w.drawn/\w'.heap.size=w.heap.size /\
   w'.heap[b]?=Ah (.cells #[pt b 0,v] T (0,0))/\∀ k,k≠b->w'.heap[k]?=w.heap[k]?:=by
 rcases hp with rfl | rfl
 ·refine(z5a L X hT b w (by simp[Ao.cell?,hb]) (by simp[Ao.shape?,hb]) (by simp[Ao.frozen?,hb])).mono ?_;rintro e w' ⟨rfl,rfl⟩;refine⟨rfl,rfl,rfl,rfl,rfl,by simp_all,?_,λk hk=>Below.heap_setCell _ _ _ _ hk⟩;simp[Ao.setCell,UX,hb,pt]
 ·refine(Any.Builder_copyCheck_used L X b w (by simp[Ao.cell?,hb])).mono ?_;grind
theorem z7h{A:List Nat}{b:Nat}{r2 r3:zK}{w w2 w3:Ao}{o1 o2:Obj}(hO:qK (b::A) w [r2])(hb:w.heap[b]?=Ah o1)(hbA2:b∉A)(hO3:qK (b::A) w2 [r3])(h1:w2.os=w.os)(h2:w2.tape=w.tape)(h3:w2.output=w.output)(h4:w.heap.size<=w2.heap.size)
  (hk:∀ k,k<w.heap.size->k≠b->k∉bl [r2]->w2.heap[k]?=w.heap[k]?) (hf:∀ k∈bl [r3],k∈bl [r2]\/w.heap.size<=k)
  (k1:w3.os=w2.os) (k2:w3.tape=w2.tape) (k3:w3.output=w2.output) (k4:w3.heap.size=w2.heap.size) (k5:w3.heap[b]?=Ah o2) (k6:∀ k,k≠b->w3.heap[k]?=w2.heap[k]?) :
  qK A w3 [(b,o2)::r3]/\qE False [(b,o1)::r2] w [(b,o2)::r3] w3:=by
 have e1:∀(o:Obj) (r:zK),bl [(b,o)::r]=b::bl [r]:=λo r=>by simp[bl]
 have hlt:b<w.heap.size:=hO.old b (Qt ..);have hb3:b∉bl [r3]:=λhm=>hO3.apart b hm (Qt ..);refine⟨⟨λq hq=>by rw[k4];exact hO3.old q (Qm _ hq),λr hr p hp=>?_,?_,λq hq=>?_⟩,k1.trans h1,k2.trans h2,k3.trans h3,λq=>q.elim,by omega,λk hk1 hk2=>?_,λq hq=>?_⟩
 ·simp only[Qh] at hr;subst hr;rcases QO.1 hp with rfl | hp
  ·exact k5
  ·have hm:p.1∈bl [r3]:=zIH.2 ⟨r3,Qh.2 rfl,p,hp,rfl⟩;rw[k6 p.1 (λe=>hb3 (e▸hm))];exact hO3.has r3 (Qh.2 rfl) p hp
 ·rw[e1];exact U2.2 ⟨hb3,hO3.nodup⟩
 ·rw[e1] at hq;rcases QO.1 hq with rfl | hq
  ·exact hbA2
  ·exact λhm=>hO3.apart q hq (Qm _ hm)
 ·grind
 grind
variable{r:zK}{l s:zA}
set_option maxHeartbeats 1000000 in
set_option maxRecDepth 100000 in
theorem z7p (L:Lays.n166 P ρ)(X:Builder.Extra P ρ)(hT:liesAt P P.depth T (2 / P.cellsOf T) 0 (ρ.t 72) 1=Aj)(hc:∀ args w,(callFunc (ρ.f 166) args).run P w=.ok (.enter (ρ.f 166) args) w):
  zJ False P (ρ.f 166) [pt b 0,vs s] [r] [tN T (ρ.t 5) r b l] (z7A l s) λx K=>∀ r2,K (.tuple #[vi x.1,.nilIface]) [r2] [tN T (ρ.t 5) r2 b x.2.2]:=by
 refine⟨hc,λA w x hm hO hF=>?_⟩;unfold z7A at hm;split at hm;case isFalse=>cases hm
 rename_i hlen;obtain rfl:=QA hm;obtain⟨p,ad,c,r2,hp,hb,hA,rfl,hO2,hbA2⟩:=BdR.at hF.1 hO;clear hm hF hO;obtain⟨i0,hi,hz0,hz1,hz2⟩:=info_parts X.infoByte;have mixed:=L.mixed;have t72:=L.t72;have a72:=L.a72;have z72:=L.z72;have v72:=L.v72;have u72:=run_underlying L.t72;have t70:=L.t70;have a70:=L.a70;have z70:=L.z70;have v70:=L.v70;have u70:=run_underlying L.t70;have t37:=L.t37;have a37:=L.a37;have z37:=L.z37;have v37:=L.v37;have u37:=run_underlying L.t37;have t3:=L.t3;have a3:=L.a3;have z3:=L.z3;have v3:=L.v3;have u3:=run_underlying L.t3;have t9:=L.t9;have a9:=L.a9;have z9:=L.z9;have v9:=L.v9;have u9:=run_underlying L.t9;have t4:=L.t4;have a4:=L.a4;have z4:=L.z4;have v4:=L.v4;have u4:=run_underlying L.t4;have t164:=L.t164;have a164:=L.a164;have z164:=L.z164;have v164:=L.v164;have u164:=run_underlying L.t164;have t5:=X.t5;have a5:=X.a5;have z5:=X.z5;have v5:=X.v5;have u5:=run_underlying X.t5;have e240:∀ args w,(callFunc (ρ.f 240) args).run P w=.ok (.enter (ρ.f 240) args) w:=enters_of L.f240 (by kernel_rfl) rfl;have H:Hid (qK (b::A) w [r2]/\z1F (ρ.t 5) r2 ad c l/\l.length+s.length<4294967296/\w.heap[b]?=Ah (.cells #[p,.slice ad l.length c] T (0,0))/\(p=.pointer Ai\/p=pt b 0)/\b∉A):=⟨hO2,hA,hlen,hb,hp,hbA2⟩;clear hO2 hA hlen hb hp hbA2;show Calls P (ρ.f 166) #[.pointer (Ah ⟨b,0,Ai⟩),.string ⟨⟨s⟩⟩] w _;go_enter L.f166,Body.n166_ntmps ρ
 go_wp2_with (go_at_fn (ρ.f 240);refine(zYj { L with } X.toX72 hT H.out.2.2.2.2.1 H.out.2.2.2.1).mono ?_)
 rintro e w1 ⟨rfl,k1,k2,k3,k4,k5,k6,k7⟩;have H1:Hid (qK (b::A) w1 [r2]/\qE False [] w [] { w with heap:=w.heap }/\w1.os=w.os/\w1.tape=w.tape/\w1.output=w.output/\w1.heap.size=w.heap.size/\(∀ k,k≠b->w1.heap[k]?=w.heap[k]?)):=by
  refine⟨⟨λq hq=>by rw[k5];exact H.out.1.old q hq,λq hq u hu=>?_,H.out.1.nodup,H.out.1.apart⟩,qE.refl _ _,k1,k2,k3,k5,k7⟩;rw[k7 u.1 (λe=>H.out.1.apart u.1 (zIH.2 ⟨q,hq,u,hu,rfl⟩) (by grind))];exact H.out.1.has q hq u hu
 have H2:Hid (w1.heap[b]?=Ah (.cells #[pt b 0,.slice ad l.length c] T (0,0))):=k6;have c0:w1.cell? ⟨b,0,Ai⟩=Ah (.pointer (Ah ⟨b,0,Ai⟩)):=by simp[Ao.cell?,k6]
 have c1:w1.cell? ⟨b,1,Ai⟩=Ah (.slice ad l.length c):=by simp[Ao.cell?,k6]
 clear k1 k2 k3 k4 k5 k6 k7;go_wp2_with (at_builtin;refine zZI (qd:=False) rfl _ _ (ρ.t 37) (ρ.t 9) rfl (ρ.t 5) i0 L.t37 L.t9 hi hz0 hz1 hz2 rfl H1.out.1 H.out.2.1 rfl H.out.2.2.1 ?_)
 intro r3 p3 c3 w2 hO3 hE3 hA3;have hbA:b∉bl [r2]:=λhm=>H1.out.1.apart b hm (Qt ..);have hlt:b<w1.heap.size:=H1.out.1.old b (Qt ..);have hb2:w2.heap[b]?=Ah (.cells #[pt b 0,.slice ad l.length c] T (0,0)):=by rw[hE3.keep b hlt hbA];exact H2.out
 have H3:Hid (qK (b::A) w2 [r3]/\qE False [r2] w1 [r3] w2/\z1F (ρ.t 5) r3 p3 c3 (l++s)/\w2.heap[b]?=Ah (.cells #[pt b 0,.slice ad l.length c] T (0,0))):=⟨hO3,hE3,hA3,hb2⟩;have d0:w2.cell? ⟨b,0,Ai⟩=Ah (.pointer (Ah ⟨b,0,Ai⟩)):=by simp[Ao.cell?,hb2]
 have d1:w2.cell? ⟨b,1,Ai⟩=Ah (.slice ad l.length c):=by simp[Ao.cell?,hb2]
 have f1:w2.frozen? ⟨b,1,Ai⟩=false:=by simp[Ao.frozen?,hb2]
 clear hO3 hE3 hA3 hb2 hbA hlt;go_wp2
 go_ret2
 obtain⟨q1,q2⟩:=z7h (o2:=.cells #[pt b 0,.slice p3 (l++s).length c3] T (0,0)) H.out.1 H.out.2.2.2.1 H.out.2.2.2.2.2 H3.out.1 (H3.out.2.1.os.trans H1.out.2.2.1) (H3.out.2.1.tape.trans H1.out.2.2.2.1) (H3.out.2.1.output.trans H1.out.2.2.2.2.1)
  (by have h1:=H3.out.2.1.size;have h2:=H1.out.2.2.2.2.2.1;omega)
  (λk hk hkb hkr=>by rw[H3.out.2.1.keep k (by have h2:=H1.out.2.2.2.2.2.1;omega) hkr];exact H1.out.2.2.2.2.2.2 k hkb)
  (λk hk=>(H3.out.2.1.fresh k hk).imp id λh=>by have h2:=H1.out.2.2.2.2.2.1;omega)
  (w3:=w2.setCell ⟨b,1,Ai⟩ (.slice p3 (l.length+s.length) c3)) rfl rfl rfl (by simp_all) (by simp[Ao.setCell,UX,H3.out.2.2.2]) (λk hk=>Below.heap_setCell _ _ _ _ hk)
 exact λG k=>k _ ⟨rfl,q1,q2,⟨_,_,_,_,.inr rfl,rfl,H3.out.2.2.1⟩,trivial⟩
theorem BdR.is{T te b:Nat}{r:zK}{l:zA}{A:List Nat}{w:Ao}(h:BdR T te r b l)(hO:qK A w [r]): Lib.IsBuilder T te 0 b (Lib.strCells ⟨⟨l⟩⟩) w:=by
 obtain⟨p,ad,c,r2,hp,hb,hA,hr,hO2,hbA⟩:=h.at hO;have key:Lib.BuilderAt T te 0 b p (Lib.strCells ⟨⟨l⟩⟩) w:=by
  refine⟨QT _,_,hb,?_,?_⟩
  ·rcases hA with⟨rfl,rfl,rfl,rfl⟩ | ⟨g,cells,rfl,rfl,hne,h3,h4,h5,h6⟩
   ·exact⟨by simp,.inl ⟨rfl,rfl⟩⟩
   ·exact⟨by simp,.inr ⟨g,c,cells,by grind,QT _,zAj hO2 (i:=0) rfl (Qh.2 rfl),by grind,h4,by grind,by grind⟩⟩
  ·rcases hA with⟨rfl,rfl,rfl,rfl⟩ | ⟨g,cells,rfl,rfl,_⟩
   ·simp[Am.ownBlock]
   ·intro e;simp only[Am.ownBlock,Qf] at e;exact hO2.apart g (by simp[bl]) (by grind)
 rcases hp with rfl | rfl
 ·exact .inl key
 ·exact .inr key
variable{c:Nat}
set_option maxHeartbeats 1000000 in
set_option maxRecDepth 100000 in
theorem z9o (L:Lays.n170 P ρ){n:Nat}{ad:Option Ax}{w:Ao}(hbk:w.heap[b]?=Ah (.cells #[p,.slice ad n c] T (0,0))):
  Calls P (ρ.f 170) #[.pointer (Ah ⟨b,0,Ai⟩)] w λe w'=>e=.returned (.int .i64 n)/\w'=w:=by
 have c1:w.cell? ⟨b,1,Ai⟩=Ah (.slice ad n c):=by rw[Lib.cell_of_heap hbk];rfl
 have mixed:=L.mixed;have t72:=L.t72;have a72:=L.a72;have z72:=L.z72;have v72:=L.v72;have u72:=run_underlying L.t72;have t70:=L.t70;have a70:=L.a70;have z70:=L.z70;have v70:=L.v70;have u70:=run_underlying L.t70;have t37:=L.t37;have a37:=L.a37;have z37:=L.z37;have v37:=L.v37;have u37:=run_underlying L.t37;have t3:=L.t3;have a3:=L.a3;have z3:=L.z3;have v3:=L.v3;have u3:=run_underlying L.t3;go_enter L.f170,Body.n170_ntmps ρ
 go_wp2
 go_ret
 simp_all
theorem z6x (L:Lays.n170 P ρ)(hc:∀ args w,(callFunc (ρ.f 170) args).run P w=.ok (.enter (ρ.f 170) args) w):
  zJ qd P (ρ.f 170) [pt b 0] [r] [tN T (ρ.t 5) r b l] (Ah (len l)) λx K=>K (vi x) [r] []:=by
 refine⟨hc,λA w x hm hO hF=>?_⟩;obtain rfl:=QA hm;obtain⟨p,ad,c,r2,hp,hb,hA,rfl,hO2,hbA⟩:=BdR.at hF.1 hO;refine(z9o L hb).mono λe w' ⟨he,hw⟩=>?_;subst he hw;exact λG k=>k ⟨rfl,hO,qE.refl _ _,trivial⟩
set_option maxHeartbeats 1000000 in
set_option maxRecDepth 100000 in
theorem z7u (L:Lays.n169 P ρ)(X:Builder.Extra P ρ){w:Ao}(hbk:w.heap[b]?=Ah (.cells #[p,.slice Ai 0 0] T (0,0))):
  Calls P (ρ.f 169) #[.pointer (Ah ⟨b,0,Ai⟩)] w λe w'=>e=.returned (.string ⟨#[]⟩)/\w'=w.drew:=by
 have hUS:=Any.unsafeString_none L X;have c1:w.drew.cell? ⟨b,1,Ai⟩=Ah (.slice Ai 0 0):=by
  have:w.drew.heap[b]?=Ah (.cells #[p,.slice Ai 0 0] T (0,0)):=hbk;rw[Lib.cell_of_heap this];rfl
 have hSD:(Builtin.unsafeSliceData_ #[(ρ.t 37)] (ρ.t 127) #[.slice Ai 0 0]).run P w.drew=.ok (.pointer Ai) w.drew:=rfl;have mixed:=L.mixed;have t72:=L.t72;have a72:=L.a72;have z72:=L.z72;have v72:=L.v72;have u72:=run_underlying L.t72;have t70:=L.t70;have a70:=L.a70;have z70:=L.z70;have v70:=L.v70;have u70:=run_underlying L.t70;have t37:=L.t37;have a37:=L.a37;have z37:=L.z37;have v37:=L.v37;have u37:=run_underlying L.t37;have t127:=L.t127;have a127:=L.a127;have z127:=L.z127;have v127:=L.v127;have u127:=run_underlying L.t127;have t3:=L.t3;have a3:=L.a3;have z3:=L.z3;have v3:=L.v3;have u3:=run_underlying L.t3;have t9:=L.t9;have a9:=L.a9;have z9:=L.z9;have v9:=L.v9;have u9:=run_underlying L.t9;have t5:=X.t5;have a5:=X.a5;have z5:=X.z5;have v5:=X.v5;have u5:=run_underlying X.t5;go_enter L.f169,Body.n169_ntmps ρ
 go_wp2
 go_region_o
 all_goals (go_wp2;go_ret;exact⟨rfl,rfl⟩)
set_option maxHeartbeats 1000000 in
set_option maxRecDepth 100000 in
theorem z4e (L:Lays.n169 P ρ)(X:Builder.Extra P ρ){g cap:Nat}{cur:Array Am}{w:Ao}(h0:l≠[])(hbk:w.heap[b]?=Ah (.cells #[p,.slice (Ah ⟨g,0,Ai⟩) l.length cap] T (0,0)))
  (hg:w.heap[g]?=Ah (.cells cur (ρ.t 5) (0,0))) (hnc:l.length<=cap) (hcm:cap<=maxLen) (hcs:cur.size=cap) (htake:cur.toList.take l.length=Lib.strCells ⟨⟨l⟩⟩) :
  Calls P (ρ.f 169) #[.pointer (Ah ⟨b,0,Ai⟩)] w λe w'=>e=.returned (.string ⟨⟨l⟩⟩)/\w'=w.drew.freeze ⟨g,0,Ai⟩ l.length:=by
 have hl0:l.length≠0:=by simpa using h0
 have c1:w.drew.cell? ⟨b,1,Ai⟩=Ah (.slice (Ah ⟨g,0,Ai⟩) l.length cap):=by
  have:w.drew.heap[b]?=Ah (.cells #[p,.slice (Ah ⟨g,0,Ai⟩) l.length cap] T (0,0)):=hbk;rw[Lib.cell_of_heap this];rfl
 have hSD:(Builtin.unsafeSliceData_ #[(ρ.t 37)] (ρ.t 127) #[.slice (Ah ⟨g,0,Ai⟩) l.length cap]).run P w.drew=.ok (.pointer (Ah ⟨g,0,Ai⟩)) w.drew:=
  Lib.run_unsafeSliceData_row _ _ _ _ _ _ (by omega)
 have hUS:(Builtin.unsafeString_ #[(ρ.t 127),(ρ.t 3)] (ρ.t 9) #[.pointer (Ah ⟨g,0,Ai⟩),.int .i64 l.length]).run P w.drew=.ok (.string ⟨⟨l⟩⟩) (w.drew.freeze ⟨g,0,Ai⟩ l.length):=by
  refine Lib.run_unsafeString_row w.drew (ρ.t 127) (ρ.t 3) (ρ.t 9) (ρ.t 5) L.t127 X.cellsByte g cur.size (by have hg':w.drew.heap[g]?=Ah (.cells cur (ρ.t 5) (0,0)):=hg;simp[Ao.shape?,hg']) l h0 (by omega) (by grind [maxLen]) ?_;intro j x hx;have hj:j<l.length:=(Qk.1 hx).1;have h1:(cur.toList.take l.length)[j]?=Ah (.int .u8 x.toNat):=by rw[htake];simp[Lib.strCells,hx]
  rw[UM,Qi hj] at h1;have hg':w.drew.heap[g]?=Ah (.cells cur (ρ.t 5) (0,0)):=hg;rw[zBg,cell_of_row w.drew g (0+j) cur (ρ.t 5) (0,0) hg',Uv];simpa using h1
 clear hg htake hcs hcm hnc hbk;have mixed:=L.mixed;have t72:=L.t72;have a72:=L.a72;have z72:=L.z72;have v72:=L.v72;have u72:=run_underlying L.t72;have t70:=L.t70;have a70:=L.a70;have z70:=L.z70;have v70:=L.v70;have u70:=run_underlying L.t70;have t37:=L.t37;have a37:=L.a37;have z37:=L.z37;have v37:=L.v37;have u37:=run_underlying L.t37;have t127:=L.t127;have a127:=L.a127;have z127:=L.z127;have v127:=L.v127;have u127:=run_underlying L.t127;have t3:=L.t3;have a3:=L.a3;have z3:=L.z3;have v3:=L.v3;have u3:=run_underlying L.t3;have t9:=L.t9;have a9:=L.a9;have z9:=L.z9;have v9:=L.v9;have u9:=run_underlying L.t9;have t5:=X.t5;have a5:=X.a5;have z5:=X.z5;have v5:=X.v5;have u5:=run_underlying X.t5;go_enter L.f169,Body.n169_ntmps ρ
 go_wp2
 go_region_o
 all_goals (go_wp2;go_ret;simp_all)
theorem z7V (L:Lays.n169 P ρ)(X:Builder.Extra P ρ)(hc:∀ args w,(callFunc (ρ.f 169) args).run P w=.ok (.enter (ρ.f 169) args) w):
  zJ False P (ρ.f 169) [pt b 0] [r] [tN T (ρ.t 5) r b l] (Ah l) λx K=>K (vs x) [[]] []:=by
 refine⟨hc,λA w x hm hO hF=>?_⟩;obtain rfl:=QA hm;obtain⟨p,ad,c,r2,hp,hb,hA,rfl,hO2,hbA⟩:=BdR.at hF.1 hO;have fin:∀ w':Ao,w'.os=w.os->w'.tape=w.tape->w'.output=w.output->w'.heap.size=w.heap.size->(∀ k,k∉bl [r2]->w'.heap[k]?=w.heap[k]?)->
   qK A w' [[]]/\qE False [(b,.cells #[p,.slice ad l.length c] T (0,0))::r2] w [[]] w':=λw' h1 h2 h3 h4 h5=>
  ⟨⟨λq hq=>by rw[h4];exact hO.old q hq,λr hr q hq=>(by
   grind),by simp[bl],by simp[bl]⟩,
   h1,h2,h3,λq=>q.elim,by omega,λk hk hn=>h5 k (λhm=>hn (by simp[bl] at hm ⊢;grind)),by simp[bl]⟩
 rcases hA with⟨rfl,rfl,rfl,rfl⟩ | ⟨g,cells,rfl,rfl,hne,h3,h4,h5,h6⟩
 ·refine(z7u L X hb).mono λe w' ⟨he,hw⟩=>?_;subst he hw;obtain⟨q1,q2⟩:=fin w.drew rfl rfl rfl rfl (λ_ _=>rfl);exact λG k=>k ⟨rfl,q1,q2,trivial⟩
 ·have hg:=zAj hO2 (i:=0) rfl (Qh.2 rfl);refine(z4e L X hne hb hg h3 h4 h5 h6).mono λe w' ⟨he,hw⟩=>?_;subst he;obtain⟨q1,q2⟩:=fin w' (by subst hw;unfold Ao.freeze;split <;> rfl) (by subst hw;unfold Ao.freeze;split <;> rfl) (by subst hw;unfold Ao.freeze;split <;> rfl) (by subst hw;unfold Ao.freeze;simp_all) (λk hk=>by
   subst hw;have hkg:k≠g:=λe=>hk (by simp[bl,e]);unfold Ao.freeze;split
   ·rfl
   ·simp only[UX];rw[Qa (Ne.symm hkg)];rfl)
  exact λG k=>k ⟨rfl,q1,q2,trivial⟩
end
end
section
open Go Go.RowKit
set_option linter.unusedVariables false
variable {qd:Prop}
section
variable {P:Aq}{a:Ay}{n:Nat}{S:List (Nat×Am)}{ty:Ap}{pos:String}{af:Array Edge}{g:Option (Nat×Bool)}
theorem r_aidx{τ:Type}(f:τ->Am){x y:As}{t el:Ap}{kd:Au}{i:Int}{k:Nat}{d:Option Tmp}{l:List τ}{u:τ}{v:Am}(hS:qV a n S)(hx:zV S x=Ah v)(hy:zV S y=Ah (.int kd i))(hv:v=.agg (l.map f).toArray)
  (hu:P.underlying t=Ah (.array k el)) (hl:l.length=k) (hs:uE P el=Ah (Ak,1)) (hm:zD l i=Ah u) (w:Ao) :
  (Av a.eval ⟨d,.index t x y,ty,pos,af,g⟩).run P w=.ok (.value (f u)) w:=by
 subst hv;unfold zD at hm;split at hm
 ·rename_i h0;have hlt:i.toNat<l.length:=(Qk.1 hm).1;have hlt2:i<(k:Int):=by omega
  obtain⟨h1,h2⟩:=zFK (w:=w) hs;have hc:(l.map f).toArray[i.toNat*1]?=Ah (f u):=by simp[hm]
  simp only[Nat.mul_one] at hc;simp[Av,hS.eval hx,hS.eval hy,Instr.index,asIntOf,run_underlying hu,h0,hlt2,h1,h2,part,hm]
 ·cases hm
end
theorem jbq{P:Aq}{n:Nat}{X:Hd qd}{ρ:Type}{Q:PQ ρ}{S:Sl}{Ls:List zK}{F:List PP}{m:Option ρ}{p:uJ}(T te b:Nat)
  (h:J P n X Q p S Ls (tN T te (bx b T [.pointer Ai,.slice Ai 0 0]) b []::F) m):J P n X Q p S Ls F m:=
 ⟨λhq r hm a w hs=>h.go hq r hm a w (hs.add (f:=tN T te _ b []) ⟨.pointer Ai,Ai,0,[],.inl rfl,rfl,.inl ⟨rfl,rfl,rfl,rfl⟩⟩)⟩
section
variable {P:Aq}{n:Nat}{X:Hd qd}{ρ:Type}{Q:PQ ρ}{S:Sl}{Ls:List zK}{F:List PP}{m:Option ρ}{os:Array Oper}{l:List Oper}{x:As}
variable {d t:Nat}{ty:Ap}{pos:String}{af:Array Edge}{g:Option (Nat×Bool)}{τ:Type}{e:E τ}{k:Nat}{z:List τ}{b o:Nat}{B Jj:List Nat}{li:Array Bool}{fuel:Nat}
end
end
section
open Go Go.RowKit
set_option linter.unusedVariables false
variable {qd:Prop}
def ByR (te:Ap)(r:zK)(p:Option Ax)(m:Nat)(l:zA): Prop:=
 m=l.length/\∃ b cells,r=[(b,.cells cells te (cells.size,cells.size+1))]/\p=Ah ⟨b,0,Ai⟩/\l.length<=cells.size/\cells.toList.take l.length=Lib.strCells ⟨⟨l⟩⟩
def Byr (te:Ap)(r:zK)(p:Option Ax)(m:Nat)(l:zA): PP:=Pu (ByR te r p m l)
section
variable {P:Aq}{n:Nat}{X:Hd qd}{ρ:Type}{Q:PQ ρ}{S:Sl}{Ls:List zK}{F:List PP}{m:Option ρ}{os:Array Oper}{ol:List Oper}{x y:As}{p p':uJ}
variable {d t t2 te ty:Ap}{pos:String}{af:Array Edge}{g:Option (Nat×Bool)}{l:zA}{r:zK}{p0:Option Ax}{c k0:Nat}{kd:Au}{ix:Int}
theorem jby{u:TypeDesc}(at0:At Ls p os ⟨Ah d,.convert t t2 x,ty,pos,af,g⟩ p')(hx:zV S x=Ah (vs l))(hs:P.underlying t=Ah u)(ht:P.underlying t2=Ah (.slice te))(he:P.underlying te=Ah (.int .u8))
  (h:∀ r p1 c',zMw Ls r λLs'=>J P n X Q p' ((d,.slice p1 l.length c')::S) Ls' (Byr te r p1 l.length l::F) m)
  (hd:Nat.blt d n=true:=by kernel_rfl) (hg:qI os S g=Ah true:=by kernel_rfl):J P n X Q p S Ls F m:=
 ⟨λhq r0 hm a w hS=>at0.run λK hK=>by
  have hrun:=Lib.run_convert_string_bytes (P:=P) w t t2 te ⟨⟨l⟩⟩ hs ht he;have hO:=hS.o;have hnew:=Lib.bytesWorld_at_new w te ⟨⟨l⟩⟩;have hsz:=Lib.bytesWorld_size w te ⟨⟨l⟩⟩;have hold:=λj hj=>Lib.bytesWorld_at_old w te ⟨⟨l⟩⟩ j hj;have hE:qE qd Ls w (Ls++[[(w.heap.size,.cells (Lib.bytesCells w te ⟨⟨l⟩⟩) te ((Lib.bytesCells w te ⟨⟨l⟩⟩).size,(Lib.bytesCells w te ⟨⟨l⟩⟩).size+1))]]) (Lib.bytesWorld w te ⟨⟨l⟩⟩):=by
   refine⟨?_,?_,?_,λ_=>?_,by omega,λk hk _=>hold k hk,λb hb=>?_⟩
   ·unfold Lib.bytesWorld Ao.freeze;split <;> rfl
   ·unfold Lib.bytesWorld Ao.freeze;split <;> rfl
   ·unfold Lib.bytesWorld Ao.freeze;split <;> rfl
   ·unfold Lib.bytesWorld Ao.freeze;simp_all
   ·grind [zBv,bl]
  have hO':qK X.A (Lib.bytesWorld w te ⟨⟨l⟩⟩) (Ls++[[(w.heap.size,.cells (Lib.bytesCells w te ⟨⟨l⟩⟩) te ((Lib.bytesCells w te ⟨⟨l⟩⟩).size,(Lib.bytesCells w te ⟨⟨l⟩⟩).size+1))]]):=by
   have hn:w.heap.size∉bl Ls:=λhm=>Uc _ (hO.lt hm);refine⟨λb hb=>by have:=hO.old b hb;omega,λr hr q hq=>?_,?_,λb hb=>?_⟩
   ·rcases Qj.1 hr with h1 | h1
    ·rw[hold q.1 (Qz.1 (hO.has r h1 q hq)).1];exact hO.has r h1 q hq
    grind
   ·rw[zBv];refine QS.2 ⟨hO.nodup,by simp[bl],λx hx y hy=>?_⟩;grind [bl]
   ·rw[zBv] at hb;rcases Qj.1 hb with h1 | h1
    ·exact hO.apart b h1
    ·simp[bl] at h1;subst h1;exact λhA=>Uc _ (hO.old _ hA)
  have hB:ByR te [(w.heap.size,.cells (Lib.bytesCells w te ⟨⟨l⟩⟩) te ((Lib.bytesCells w te ⟨⟨l⟩⟩).size,(Lib.bytesCells w te ⟨⟨l⟩⟩).size+1))] (Ah ⟨w.heap.size,0,Ai⟩) l.length l:=by
   refine⟨rfl,_,_,rfl,rfl,?_,?_⟩
   ·grind [Lib.bytesCells]
   ·grind [Lib.bytesCells,Lib.strCells]
  refine zEa hS.s hd hg (v:=.slice (Ah ⟨w.heap.size,0,Ai⟩) l.length (grownCap w l.length 0 te)) (w':=Lib.bytesWorld w te ⟨⟨l⟩⟩) ?_ λa' hS'=>hK hE ?_
  ·have:(⟨⟨l⟩⟩:ByteArray).size=l.length:=rfl;rw[this] at hrun;simp[Av,hS.s.eval hx,hrun]
  ·have h:=h [(w.heap.size,.cells (Lib.bytesCells w te ⟨⟨l⟩⟩) te ((Lib.bytesCells w te ⟨⟨l⟩⟩).size,(Lib.bytesCells w te ⟨⟨l⟩⟩).size+1))] (Ah ⟨w.heap.size,0,Ai⟩) (grownCap w l.length 0 te);rw[zHh] at h;exact h.go hq r0 hm a' _ (hS.next hO' hE hS' [_] ⟨hB,trivial⟩)⟩
theorem z84{Z:List Nat}{w:Ao}: ∀ l:zA,(zT .u8).rdL Z w (Lib.strCells ⟨⟨l⟩⟩) (zGB l)
 | []=>by simp[Lib.strCells,zGB,E.rdL]
 | b::l=>⟨[.int .u8 ((b.toNat:Nat):Int)],Lib.strCells ⟨⟨l⟩⟩,by simp[Lib.strCells],rfl,z84 l⟩
theorem jbR{u:TypeDesc}(at0:At Ls p os ⟨Ah d,.convert t t2 x,ty,pos,af,g⟩ p')(hx:zV S x=Ah (vs l))(hs:P.underlying t=Ah u)(ht:P.underlying t2=Ah (.slice te))(he:P.underlying te=Ah (.int .u8))
  (h:∀ p1 c',J P n X Q p' ((d,sv p1 (zGB l) c')::S) Ls (Rl (zT .u8) p1 c' (zGB l)::F) m)
  (hd:Nat.blt d n=true:=by kernel_rfl) (hg:qI os S g=Ah true:=by kernel_rfl):J P n X Q p S Ls F m:=
 ⟨λhq r0 hm a w hS=>at0.run λK hK=>by
  have hrun:=Lib.run_convert_string_bytes (P:=P) w t t2 te ⟨⟨l⟩⟩ hs ht he;have hO:=hS.o;have hnew:=Lib.bytesWorld_at_new w te ⟨⟨l⟩⟩;have hsz:=Lib.bytesWorld_size w te ⟨⟨l⟩⟩;have hold:=λj hj=>Lib.bytesWorld_at_old w te ⟨⟨l⟩⟩ j hj;have hE:qE qd Ls w Ls (Lib.bytesWorld w te ⟨⟨l⟩⟩):=by
   refine⟨?_,?_,?_,λ_=>?_,by omega,λk hk _=>hold k hk,λb hb=>.inl hb⟩
   ·unfold Lib.bytesWorld Ao.freeze;split <;> rfl
   ·unfold Lib.bytesWorld Ao.freeze;split <;> rfl
   ·unfold Lib.bytesWorld Ao.freeze;split <;> rfl
   ·unfold Lib.bytesWorld Ao.freeze;split <;> exact Uu _
  have hO':qK X.A (Lib.bytesWorld w te ⟨⟨l⟩⟩) Ls:=
   ⟨λb hb=>by have:=hO.old b hb;omega,λr hr q hq=>by rw[hold q.1 (Qz.1 (hO.has r hr q hq)).1];exact hO.has r hr q hq,hO.nodup,hO.apart⟩
  have hlen:(zGB l).length=l.length:=by simp[zGB]
  have hR:(Rl (zT .u8) (Ah ⟨w.heap.size,0,Ai⟩) (grownCap w l.length 0 te) (zGB l)).h (bl Ls++X.A) (Lib.bytesWorld w te ⟨⟨l⟩⟩):=by
   refine⟨⟨by rw[hlen];exact grownCap_ge _ _ _ _,.inr ⟨w.heap.size,0,Lib.strCells ⟨⟨l⟩⟩,rfl,λhm=>?_,by omega,z84 l,λj v hj=>?_⟩⟩,rfl⟩
   ·rcases Qj.1 hm with h1 | h1
    ·exact Uc _ (hO.lt h1)
    ·exact Uc _ (hO.old _ h1)
   ·have hc:(Lib.bytesCells w te ⟨⟨l⟩⟩)[j]?=Ah v:=by
     have h2:(Lib.bytesCells w te ⟨⟨l⟩⟩).toList.take l.length=Lib.strCells ⟨⟨l⟩⟩:=by unfold Lib.bytesCells Lib.strCells;simp
     rw[<-h2,UM] at hj;split at hj
     ·simpa using hj
     ·cases hj
    simp[Ao.cell?,hnew,hc]
  refine zEa hS.s hd hg (v:=sv (Ah ⟨w.heap.size,0,Ai⟩) (zGB l) (grownCap w l.length 0 te)) (w':=Lib.bytesWorld w te ⟨⟨l⟩⟩) ?_ λa' hS'=>hK hE ?_
  ·have:(⟨⟨l⟩⟩:ByteArray).size=l.length:=rfl;rw[this] at hrun;simp[Av,hS.s.eval hx,hrun,sv,hlen]
  ·exact(h _ _).go hq r0 hm a' _ (hS.next hO' hE hS' [_] ⟨hR,trivial⟩)⟩
end
end
section
open Go Go.RowKit
set_option linter.unusedVariables false
variable {qd:Prop}
section
variable {Ls:List zK}{F:List PP}
end
section
variable {P:Aq}{a:Ay}{n:Nat}{S:List (Nat×Am)}{ty:Ap}{pos:String}{af:Array Edge}{g:Option (Nat×Bool)}{d:Option Tmp}
end
def ErB (v:Am)(b:Bool): Prop:=(v=.nilIface/\b=Ak)\/(∃ t u,v=.iface t u)/\b=Aj
def Erv (v:Am)(b:Bool): PP:=Pu (ErB v b)
section
variable {P:Aq}{a:Ay}{n:Nat}{S:List (Nat×Am)}{ty:Ap}{pos:String}{af:Array Edge}{g:Option (Nat×Bool)}{d:Option Tmp}
theorem z3z (k:Nat){t:Ap}{v:Am}{b:Bool}{ms:Array (String×Ap)}(hv:ErB v b)(hu:P.underlying t=Ah (.interface ms))(w:Ao): (Op.equalIn (k+1) t v .nilIface).run P w=.ok (!b) w:=by
 rcases hv with⟨rfl,rfl⟩ | ⟨⟨t',u',rfl⟩,rfl⟩
 ·simp[Op.equalIn,run_underlying hu]
 ·simp[Op.equalIn,run_underlying hu]
theorem r_erN{x:As}{t u:Ap}{v:Am}{b:Bool}{ms:Array (String×Ap)}(hS:qV a n S)(hx:zV S x=Ah v)(hv:ErB v b)(hu:P.underlying t=Ah (.interface ms))(w:Ao):
  (Av a.eval ⟨d,.binOp .neq t x (.const .nilIface) u,ty,pos,af,g⟩).run P w=.ok (.value (vb b)) w:=by
 have hy:zV S (.const .nilIface)=Ah .nilIface:=rfl;have h1:(eqGuard .neq t x (.const .nilIface) v .nilIface).run P w=.ok () w:=by
  unfold eqGuard;rcases hv with⟨rfl,rfl⟩ | ⟨⟨t',u',rfl⟩,rfl⟩ <;> simp
 have h2:(binOp .neq t v .nilIface).run P w=.ok (vb b) w:=by
  have h3:(Op.equal t v .nilIface).run P w=.ok (!b) w:=z3z 9999 hv hu w;simp[binOp,h3]
 simp[Av,hS.eval hx,hS.eval hy,h1,h2]
end
section
variable {P:Aq}{n:Nat}{X:Hd qd}{ρ:Type}{Q:PQ ρ}{S:Sl}{Ls:List zK}{F:List PP}{m:Option ρ}{os:Array Oper}{l:List Oper}{x:As}
variable {d t u:Nat}{ty:Ap}{pos:String}{af:Array Edge}{g:Option (Nat×Bool)}{v:Am}{b:Bool}{ms:Array (String×Ap)}{B Jj:List Nat}{li:Array Bool}{fuel:Nat}
theorem jen (k:Nat)(hF:xE F k=Erv v b)(hx:zV S x=Ah v)(hu:P.underlying t=Ah (.interface ms))(h:J P n X Q (.ops os l) ((d,vb b)::S) Ls F m)
  (hd:Nat.blt d n=true:=by kernel_rfl) (hg:qI os S g=Ah true:=by kernel_rfl):J P n X Q (.ops os (⟨Ah d,.binOp .neq t x (.const .nilIface) u,ty,pos,af,g⟩::l)) S Ls F m:=
 ⟨λhq r hm a w hs=>sl (z7X hs (r_erN hs.s hx (hF▸hs.g k:(Erv v b).h (bl Ls++X.A) w) hu) (λa h'=>h.go hq r hm a w h') hd hg)⟩
end
section
variable {P:Aq}{n:Nat}{X:Hd qd}{ρ:Type}{Q:PQ ρ}{S:Sl}{Ls:List zK}{F:List PP}{m:Option ρ}{os:Array Oper}{x y:As}{p p':uJ}
variable {d t te:Nat}{ty:Ap}{pos:String}{af:Array Edge}{g:Option (Nat×Bool)}{τ:Type}{e:E τ}{r:zK}{p0:Option Ax}{c k0:Nat}{z z2:List τ}
end
section
variable {P:Aq}{n:Nat}{X:Hd qd}{ρ:Type}{Q:PQ ρ}{S:Sl}{Ls:List zK}{F:List PP}{m:Option ρ}{os:Array Oper}{ol:List Oper}{x y:As}{p p':uJ}
variable {d t t2 te ty:Ap}{pos:String}{af:Array Edge}{g:Option (Nat×Bool)}{l:zA}{r:zK}{p0:Option Ax}{c k0:Nat}{kd:Au}{ix:Int}
end
end
section
open Go Go.RowKit
variable {qd:Prop}
set_option linter.unusedVariables false
theorem zXL:∀(Ls:List zK),bl Ls=Ls.flatten.map Prod.fst
 | []=>rfl
 | r::rs=>by simp[bl,zXL rs]
theorem zSl:∀ {Ls:List zK} {i:Nat} {r:zK} (r':zK),Ls[i]?=Ah r->(r++(Ls.set i r').flatten).Perm (r'++Ls.flatten)
 | [],i,r,r',h=>by simp at h
 | t::ts,0,r,r',h=>by
  simp only[Q6,Qf] at h;subst h;simp only[List.set_cons_zero,Uz];rw[<-Qo,<-Qo];exact Uj.append_right _
 | t::ts,i+1,r,r',h=>by
  simp only[QW] at h;simp only[UN,Uz];have h1:(r++(t++(ts.set i r').flatten)).Perm (t++(r++(ts.set i r').flatten)):=by
   rw[<-Qo,<-Qo];exact Uj.append_right _
  have h2:(t++(r'++ts.flatten)).Perm (r'++(t++ts.flatten)):=by
   rw[<-Qo,<-Qo];exact Uj.append_right _
  exact(h1.trans ((zSl r' h).append_left t)).trans h2
section
variable {A:List Nat}{L0 Ls Ls2:List zK}{w0 w:Ao}{n:Nat}{S:List (Nat×Am)}{F:List PP}{a:Ay}{Y:zK}
theorem zW4 (hp:(Ls2.flatten++Y).Perm Ls.flatten): ∀ b∈bl Ls2,b∈bl Ls:=by
 intro b hb;rw[zXL] at hb ⊢;grind
theorem qK.less (h:qK A w Ls)(hp:(Ls2.flatten++Y).Perm Ls.flatten): qK A w Ls2:=by
 refine⟨h.old,λr hr p hpr=>?_,?_,λb hb=>h.apart b (zW4 hp b hb)⟩
 ·have hm:p∈Ls.flatten:=hp.subset (Qj.2 (.inl (List.mem_flatten.2 ⟨r,hr,hpr⟩)));obtain⟨s,hs,hps⟩:=List.mem_flatten.1 hm;exact h.has s hs p hps
 ·have hn:=h.nodup;rw[zXL] at hn ⊢;grind
theorem SS.less (h:SS qd A L0 w0 n S Ls F a w)(hp:(Ls2.flatten++Y).Perm Ls.flatten): SS qd A L0 w0 n S Ls2 F a w:=
 ⟨h.s,h.o.less hp,h.e.drop (zW4 hp),h.f.mv (yB.less w λb hb=>by
  grind [zW4])⟩
theorem qK.gone (h:qK A w Ls)(hp:(Ls2.flatten++Y).Perm Ls.flatten): ∀ p∈Y,w.heap[p.1]?=Ah p.2/\p.1∉bl Ls2++A:=by
 intro p hpy;have hm:p∈Ls.flatten:=hp.subset (Qj.2 (.inr hpy));obtain⟨s,hs,hps⟩:=List.mem_flatten.1 hm;refine⟨h.has s hs p hps,λhb=>?_⟩;rcases Qj.1 hb with h1 | h1
 ·have hn:=h.nodup;rw[zXL] at hn h1;grind
 ·exact h.apart _ (zIH.2 ⟨s,hs,p,hps,rfl⟩) h1
end
def eRaw (k:Nat): E (List Am):=⟨k,λ_ _ cs x=>cs=x/\x.length=k/\∀ c∈x,c.oneCell'=Aj,by grind,by grind,by grind⟩
section
variable {τ σ:Type}{e:E τ}{f:E σ}
structure Fld (s:tT e (wF f)): Prop where
 pp:∀ x z,s.put (s.put x []) z=s.put x z
 pg:∀ x,s.put x (s.get x)=x
variable (s:tT e (wF f))(tf:Ap)
def hd0 (cs:List Am): List Value:=cs.take s.off++[.slice Ai 0 0]++cs.drop (s.off+1)
def NE (Z:List Nat)(w:Ao)(D:zK)(cs:List Am)(x:τ): Prop:=
 ∃ q cap,cs[s.off]?=Ah (.slice q (s.get x).length cap)/\e.rd Z w (hd0 s cs) (s.put x [])/\yS f tf Z w D q cap (s.get x)
inductive NL (Z:List Nat)(w:Ao): zK->List (List Am)->List τ->Prop
 | nil:NL Z w [] [] []
 | cons {D1 D:zK} {cs:List Am} {x:τ} {raw:List (List Am)} {l:List τ}:NE s tf Z w D1 cs x->NL Z w D raw l->NL Z w (D1++D) (cs::raw) (x::l)
variable {s tf}{Z Z2:List Nat}{w w2:Ao}{D:zK}{cs:List Am}{x:τ}{raw:List (List Am)}{l:List τ}
theorem NE.mv (st:yB Z w Z2 w2)(h:NE s tf Z w D cs x): NE s tf Z2 w2 D cs x:=by
 obtain⟨q,cap,h1,h2,h3⟩:=h;exact⟨q,cap,h1,e.step st h2,h3.mv st⟩
theorem NL.mv (st:yB Z w Z2 w2)(h:NL s tf Z w D raw l): NL s tf Z2 w2 D raw l:=by
 induction h with
 | nil=>exact .nil
 | cons h _ ih=>exact .cons (h.mv st) ih
theorem NL.len (h:NL s tf Z w D raw l): raw.length=l.length:=by
 induction h with
 | nil=>rfl
 | cons h _ ih=>simp[ih]
theorem NL.get (h:NL s tf Z w D raw l): ∀ {k:Nat},l[k]?=Ah x->∃ Da D1 Db cs,D=Da++D1++Db/\raw[k]?=Ah cs/\NE s tf Z w D1 cs x/\∀ j y,j≠k->l[j]?=Ah y->∃ c D',raw[j]?=Ah c/\NE s tf Z w D' c y/\D' ⊆ Da++Db:=by
 induction h with
 | nil=>grind
 | @cons D1 D cs0 x0 raw l h0 hl ih=>
  intro k hk;cases k with
  | zero=>
   simp only[Q6,Qf] at hk;subst hk;refine⟨[],D1,D,cs0,by simp,rfl,h0,λj y hj hy=>?_⟩;cases j with
   | zero=>grind
   | succ j=>
    simp only[QW] at hy;have:∀ {D:zK} {raw:List (List Am)} {l:List τ},NL s tf Z w D raw l->∀ {j:Nat} {y:τ},l[j]?=Ah y->∃ c D',raw[j]?=Ah c/\NE s tf Z w D' c y/\D' ⊆ D:=by
     intro D raw l h;induction h with
     | nil=>grind
     | @cons D1 D cs0 x0 raw l h0 hl ih=>
      grind
    grind
  | succ k=>
   simp only[QW] at hk;obtain⟨Da,D2,Db,cs,rfl,h1,h2,h3⟩:=ih hk;refine⟨D1++Da,D2,Db,cs,by simp,by grind,h2,λj y hj hy=>?_⟩;grind
theorem z3p{v:Am}(hv:cs[s.off]?=Ah v): (hd0 s cs).take s.off++[v]++(hd0 s cs).drop (s.off+(wF f).n)=cs:=by
 have hlt:=(Qk.1 hv).1;have hl:(cs.take s.off).length=s.off:=by simp;omega
 have h1:(hd0 s cs).take s.off=cs.take s.off:=by
  unfold hd0;rw[Qo,List.take_append_of_le_length (by omega),QQ (by omega)]
 have h2:(hd0 s cs).drop (s.off+(wF f).n)=cs.drop (s.off+1):=by
  unfold hd0;show List.drop (s.off+1) _=_;rw[UZ,Q4 (by simp;omega),QI];have:s.off+1-(List.take s.off cs++[Am.slice Ai 0 0]).length=0:=by simp;omega
  rw[this,Uf]
 rw[h1,h2];have h3:cs=cs.take s.off++cs.drop s.off:=(QC _ _).symm;have h4:cs.drop s.off=v::cs.drop (s.off+1):=by
  rw[QB hlt];congr 1;rw[Qs hlt] at hv;exact QA hv
 grind
theorem yS.rdOf{t:Nat}{D:zK}{q:Option Ax}{cap:Nat}{l:List σ}(h:yS f t Z w D q cap l)(st:yB Z w Z2 w)(hD:∀ p∈D,w.heap[p.1]?=Ah p.2/\p.1∉Z2): xL f Z2 w q cap l:=by
 rcases h with⟨_,_,_,rfl⟩ | ⟨b,o,cells,rfl,rfl,h3,h4,h5,h6⟩
 ·exact⟨QT _,.inl rfl⟩
 ·obtain⟨hb,hz⟩:=hD _ (Qh.2 rfl);refine⟨h3,.inr ⟨b,o,_,rfl,hz,(Qz.1 hb).1,f.rdL_step st h6,λj u hu=>?_⟩⟩;grind [cell_of_row]
theorem NE.rd (hs:Fld s)(h:NE s tf Z w D cs x)(st:yB Z w Z2 w)(hD:∀ p∈D,w.heap[p.1]?=Ah p.2/\p.1∉Z2): e.rd Z2 w cs x:=by
 obtain⟨q,cap,h1,h2,h3⟩:=h;have h4:=h3.rdOf st hD;have h5:=s.rdp (e.step st h2) (wF.mk h4);rw[z3p h1,hs.pp,hs.pg] at h5;exact h5
end
section
variable {τ σ:Type}{e:E τ}{f:E σ}(s:tT e (wF f))(te tf:Ap)
end
def tT.cell{k:Nat}(off:Nat)(h:off+1<=k): tT (eRaw k) (eRaw 1):=
 ⟨off,λx=>(x.drop off).take 1,λx y=>x.take off++y++x.drop (off+1),h,
  by
  rintro Z w cs x ⟨rfl,h1,h2⟩;exact⟨rfl,by simp;omega,λc hc=>h2 c (UC (Q7 hc))⟩,
  by
  rintro Z w cs x ds y ⟨rfl,h1,h2⟩ ⟨rfl,h3,h4⟩;refine⟨rfl,by grind,λc hc=>?_⟩;grind⟩
section
variable {P:Aq}{n:Nat}{X:Hd qd}{ρ ς:Type}{Q:PQ ρ}{S:Sl}{Ls:List zK}{F:List PP}{m m1 m2:Option ρ}{os:Array Oper}{ol:List Oper}{x y:As}{p p':uJ}
variable {d t:Nat}{ty ty2:Ap}{pos pos2:String}{af af2:Array Edge}{g g2:Option (Nat×Bool)}{kd:Au}{B Jj:List Nat}{li:Array Bool}{fuel:Nat}
variable {τ σ:Type}{e:E τ}{f:E σ}{s:tT e (wF f)}{te tf:Ap}{r rj:zK}{p0 q q2:Option Ax}{c k0 c2 cap:Nat}{z:List τ}{ix:Int}
end
end
section
open Go Go.RowKit Go.Shelf Go.Proofs
set_option linter.unusedVariables false
variable {qd:Prop}
theorem z9L{P:Aq}{ρ:Ren}(L:Lays.n240 P ρ)(X:Builder.X72 P ρ){T:Ap}(hT:liesAt P P.depth T (2 / P.cellsOf T) 0 (ρ.t 72) 1=Aj)(hc:∀ args w,(callFunc (ρ.f 240) args).run P w=.ok (.enter (ρ.f 240) args) w){te b:Nat}{r:zK}{l:zA}:
  zJ qd P (ρ.f 240) [pt b 0] [r] [tN T te r b l] (Ah ()) λ_ K=>∀ r2,K (.tuple #[]) [r2] [tN T te r2 b l]:=by
 refine⟨hc,λA w x hm hO hF=>?_⟩;obtain⟨p,ad,c,r2,hp,hb,hA,rfl,hO2,hbA2⟩:=BdR.at hF.1 hO;refine(zYj L X hT hp hb).mono λe w1 ⟨he,k1,k2,k3,k4,k5,k6,k7⟩=>?_;subst he;have hn:=hO.nodup;have hnb:b∉r2.map Prod.fst:=by simp[bl] at hn ⊢;exact λx hx=>hn.1 x hx
 refine λG k=>k ((b,.cells #[pt b 0,.slice ad l.length c] T (0,0))::r2) ⟨rfl,⟨λq hq=>by rw[k5];exact hO.old q hq,λs hs q hq=>?_,by simpa [bl] using hn,λq hq=>hO.apart q (by simpa [bl] using hq)⟩,
  ⟨k1,k2,k3,λ_=>by grind,by omega,λk hk hn=>k7 k (λe=>hn (by simp[bl,e])),λq hq=>.inl (by simpa [bl] using hq)⟩,⟨_,_,_,_,.inr rfl,rfl,hA⟩,trivial⟩
 simp only[Qh] at hs;subst hs;rcases QO.1 hq with rfl | hq
 ·exact k6
 ·have h1:=hO.has _ (Qh.2 rfl) q (Qm _ hq);grind
def BA (te:Ap)(r:zK)(p:Option Ax)(c:Nat)(l:zA): PP:=Pu (z1F te r p c l)
variable{Z:List Nat}
theorem z1Z{w:Ao}: ∀ {l:zA},(zT .u8).rdL Z w (Lib.strCells ⟨⟨l⟩⟩) (l.map λx=>(x.toNat:Int))
 | []=>rfl
 | x::l=>⟨[.int .u8 x.toNat],Lib.strCells ⟨⟨l⟩⟩,by simp[Lib.strCells],rfl,z1Z⟩
theorem z2L{w:Ao}: ∀ {l:List Int} {cs:List Am},(zT .u8).rdL Z w cs l->(∀ x∈l,0<=x/\x<256)->cs=Lib.strCells ⟨⟨l.map λx=>UInt8.ofNat x.toNat⟩⟩
 | [],cs,h,_=>by simp only[E.rdL] at h;subst h;rfl
 | x::l,cs,h,hx=>by
  obtain⟨c1,c2,rfl,h1,h2⟩:=h;have h1:c1=[.int .u8 x]:=h1;subst h1;have h3:=z2L h2 λy hy=>hx y (Qm _ hy);have h4:=hx x Qt;grind [UInt8.toNat_ofNat',Lib.strCells]
def z8e{τ:Type}(e:E τ)(t:Ap)(Z:List Nat)(w:Ao)(r:zK)(p:Option Ax)(c:Nat)(l:List τ): Prop:=
 (r=[]/\p=Ai/\c=0/\l=[]) \/
 ∃ b cells,r=[(b,.cells cells t (0,0))]/\p=Ah ⟨b,0,Ai⟩/\l.length<=c/\c<=maxLen/\cells.size=c*e.n/\e.rdL Z w (cells.toList.take (l.length*e.n)) l
section
variable {P:Aq}{ops:Array Oper}{Q:Exit->Ay->Ao->Prop}{a:Ay}{n:Nat}{S:List (Nat×Am)}{w:Ao}{K:Ay->Ao->Prop}
variable {A:List Nat}{Ls:List zK}{d:Nat}{ty:Ap}{pos:String}{af:Array Edge}{g:Option (Nat×Bool)}
theorem zUY{τ:Type}{e:E τ}{t te:Nat}{r:zK}{p q:Option Ax}{c k i:Nat}{l m z:List τ}(hO:qK A w Ls)(hr:Ls[i]?=Ah r)(hA:z8e e te (bl Ls++A) w r p c l)
  (hR:Src e (bl Ls++A) w q m) (ht:xM P t te e.n=Aj) (hm:qG l m=Ah z) (rty:Ap) :
  ∃ r' p' c' w',(Builtin.append_ #[t,t] rty #[.slice p l.length c,.slice q m.length k]).run P w=.ok (.slice p' z.length c') w' /\
   qK A w' (Ls.set i r')/\qE qd Ls w (Ls.set i r') w'/\z8e e te (bl (Ls.set i r')++A) w' r' p' c' z:=by
 obtain⟨hsm,rfl⟩:=z44 hm;obtain⟨hu,info,zv,hi,hz,hsize,hby,hpos,hzs⟩:=zJP ht;have hlc:l.length<=c:=by
  rcases hA with⟨_,_,_,rfl⟩ | ⟨b,cells,_,_,h3,_⟩
  ·grind
  ·exact h3
 by_cases hm0:m=[]
 ·subst hm0;refine⟨r,p,c,w,by grind [zJg],?_,?_,?_⟩
  ·exact hO.set hr (Qd _) (λ_ _ _=>rfl) (λx hx=>zAj hO hr hx) (by simpa [bl] using (hO.pick i hr).nodup) (λx hx=>.inl (QD.2 ⟨x,hx,rfl⟩))
  ·exact qE.set hr rfl rfl rfl (Qd _) (λ_ _ _=>rfl) (λx hx=>.inl (QD.2 ⟨x,hx,rfl⟩))
  ·have hself:Ls.set i r=Ls:=by
    apply Q8;intro j;by_cases hj:i=j
    ·grind
    ·grind
   grind
 ·have hmpos:0<m.length:=QF.2 hm0;rcases hR with hR | ⟨b2,off,cs2,rfl,hcs2,hcell⟩
  ·grind
  ·have hl2:cs2.length=m.length*info.size:=by rw[e.rdL_len hcs2,hsize]
   have hnews:∀ j u,cs2[j]?=Ah u->w.cell? ((⟨b2,off,Ai⟩:Ax).add j)=Ah u:=λj u hu=>by grind [zBg]
   have hone:=e.rdL_one hcs2;have hbytes:(l.length+m.length)*info.bytes<=140737488355328:=by
    have:=US (Nat.le_of_lt hsm) hby;omega
   have h63:((l.length+m.length:Nat):Int)<=9223372036854775807:=by omega
   rcases hA with⟨rfl,rfl,rfl,rfl⟩ | ⟨b,cells,rfl,rfl,h3,h4,h5,h6⟩
   ·
    have hrun:=run_append_nil (P:=P) w t rty te info zv hu hi hz ⟨b2,off,Ai⟩ m.length k cs2 hl2 hnews hmpos (by omega) (by grind);have hge:=grownCap_ge w m.length 0 te;have hcm:=grownCap_le_maxLen w m.length 0 te (by grind [maxLen]);refine⟨[(w.heap.size,.cells (cs2.toArray++Builtin.zeroCells zv.cells (grownCap w m.length 0 te-m.length)) te (0,0))],_,_,_,by rw[QI];exact hrun,?_,?_,?_⟩
    ·exact hO.set hr (by simp) (λk hk _=>Below.heap_alloc w.drew _ k hk) (λx hx=>by simp only[Qh] at hx;subst hx;exact heap_alloc_new w.drew _) (by simp) (λx hx=>by grind)
    ·exact qE.set hr rfl rfl rfl (by simp) (λk hk _=>Below.heap_alloc w.drew _ k hk) (λx hx=>by grind)
    ·have hE:qE qd Ls w (Ls.set i [(w.heap.size,.cells (cs2.toArray++Builtin.zeroCells zv.cells (grownCap w m.length 0 te-m.length)) te (0,0))]) (w.drew.alloc (.cells (cs2.toArray++Builtin.zeroCells zv.cells (grownCap w m.length 0 te-m.length)) te)):=
      qE.set hr rfl rfl rfl (by simp) (λk hk _=>Below.heap_alloc w.drew _ k hk) (λx hx=>by grind)
     refine .inr ⟨w.heap.size,_,rfl,rfl,by grind,hcm,?_,?_⟩
     ·simp only[Uy,QX,size_zeroCells,hzs,hl2,hsize,<-QV];grind
     ·have:(cs2.toArray++Builtin.zeroCells zv.cells (grownCap w m.length 0 te-m.length)).toList.take (([]++m).length*e.n)=cs2:=by
       simp only[Up,QI];rw[<-hsize,<-hl2];simp
      rw[this];exact e.rdL_step (hE.step A) (by grind)
   ·have hb:=zAj hO hr (Qh.2 rfl);have hlo:(cells.toList.take (l.length*e.n)).length=l.length*info.size:=by rw[e.rdL_len h6,hsize]
    by_cases hroom:l.length+m.length<=c
    ·
     have hfit:l.length*info.size+cs2.length<=cells.size:=by rw[hl2,h5,<-QV,hsize];exact QK _ hroom
     have hrun:=run_append_room (P:=P) w t rty te info hu hi b l.length c cells hb ⟨b2,off,Ai⟩ m.length k cs2 hl2 hnews hone hroom hfit;have hk:∀(cs:Array Am) (k:Nat),k<w.heap.size->k∉[(b,Obj.cells cells te (0,0))].map Prod.fst->(w.setRow b cs).heap[k]?=w.heap[k]?:=λcs k _ hk=>setRow_other w b k _ (λe=>hk (by simp[e]));refine⟨[(b,.cells (cells.toList.take (l.length*info.size)++cs2++cells.toList.drop (l.length*info.size+cs2.length)).toArray te (0,0))],_,c,_,by rw[Qg];exact hrun,?_,?_,?_⟩
     ·exact hO.set hr (by simp) (hk _) (λx hx=>by grind [setRow_heap]) (by simp) (λx hx=>by grind)
     ·exact qE.set hr rfl rfl rfl (by simp) (hk _) (λx hx=>by grind)
     ·have hE:qE qd Ls w (Ls.set i [(b,.cells (cells.toList.take (l.length*info.size)++cs2++cells.toList.drop (l.length*info.size+cs2.length)).toArray te (0,0))]) (w.setRow b (cells.toList.take (l.length*info.size)++cs2++cells.toList.drop (l.length*info.size+cs2.length)).toArray):=
       qE.set hr rfl rfl rfl (by simp) (hk _) (λx hx=>by grind)
      refine .inr ⟨b,_,rfl,rfl,by grind,h4,?_,?_⟩
      ·grind
      ·have hsz:(l++m).length*e.n=(cells.toList.take (l.length*info.size)++cs2).length:=by
        rw[Qg,Qg,hsize,hlo,hl2,hsize,QV]
       have:(cells.toList.take (l.length*info.size)++cs2++cells.toList.drop (l.length*info.size+cs2.length)).toArray.toList.take ((l++m).length*e.n)=cells.toList.take (l.length*e.n)++cs2:=by
        rw[hsz];show List.take _ (cells.toList.take (l.length*info.size)++cs2++_)=_;rw[Ur,hsize]
       rw[this];exact e.rdL_append (e.rdL_step (hE.step A) h6) (e.rdL_step (hE.step A) hcs2)
    ·
     have holds:∀ j u,(cells.toList.take (l.length*e.n))[j]?=Ah u->w.cell? ((⟨b,0,Ai⟩:Ax).add j)=Ah u:=λj u hu=>by
      rw[zBg,cell_of_row w b (0+j) cells te (0,0) hb,Uv];grind
     have hrun:=run_append_grow (P:=P) w t rty te info zv hu hi hz ⟨b,0,Ai⟩ l.length c _ hlo holds ⟨b2,off,Ai⟩ m.length k cs2 hl2 hnews (by omega) h63 (growslice_fits (by omega) hbytes);have hge:=grownCap_ge w (l.length+m.length) c te;have hcm:=grownCap_le_maxLen w (l.length+m.length) c te (by grind [maxLen]);refine⟨[(w.heap.size,.cells ((cells.toList.take (l.length*e.n)).toArray++cs2.toArray++Builtin.zeroCells zv.cells (grownCap w (l.length+m.length) c te-(l.length+m.length))) te (0,0))],_,_,_,by rw[Qg];exact hrun,?_,?_,?_⟩
     ·exact hO.set hr (by simp) (λk hk _=>Below.heap_alloc w.drew _ k hk) (λx hx=>by simp only[Qh] at hx;subst hx;exact heap_alloc_new w.drew _) (by simp) (λx hx=>by grind)
     ·exact qE.set hr rfl rfl rfl (by simp) (λk hk _=>Below.heap_alloc w.drew _ k hk) (λx hx=>by grind)
     ·have hE:qE qd Ls w (Ls.set i [(w.heap.size,.cells ((cells.toList.take (l.length*e.n)).toArray++cs2.toArray++Builtin.zeroCells zv.cells (grownCap w (l.length+m.length) c te-(l.length+m.length))) te (0,0))]) (w.drew.alloc (.cells ((cells.toList.take (l.length*e.n)).toArray++cs2.toArray++Builtin.zeroCells zv.cells (grownCap w (l.length+m.length) c te-(l.length+m.length))) te)):=
       qE.set hr rfl rfl rfl (by simp) (λk hk _=>Below.heap_alloc w.drew _ k hk) (λx hx=>by grind)
      refine .inr ⟨w.heap.size,_,rfl,rfl,by grind,hcm,?_,?_⟩
      ·simp only[Uy,QX,size_zeroCells,hzs,hlo,hl2,hsize,<-QV];grind
      ·have hsz:(l++m).length*e.n=(cells.toList.take (l.length*e.n)++cs2).length:=by
        rw[Qg,Qg,hlo,hl2,hsize,QV]
       have:((cells.toList.take (l.length*e.n)).toArray++cs2.toArray++Builtin.zeroCells zv.cells (grownCap w (l.length+m.length) c te-(l.length+m.length))).toList.take ((l++m).length*e.n)=cells.toList.take (l.length*e.n)++cs2:=by
        rw[hsz];simp only[Up];exact Ur
       rw[this];exact e.rdL_append (e.rdL_step (hE.step A) h6) (e.rdL_step (hE.step A) hcs2)
theorem z2x (i:Nat){τ:Type}{e:E τ}{t:Ap}(te:Ap){r:zK}{p q:Option Ax}{c k:Nat}{l m z:List τ}{x y:As}(hS:qV a n S)(hd:Nat.blt d n=Aj)(hg:qI ops S g=Ah Aj)(hO:qK A w Ls)(hr:Ls[i]?=Ah r)
  (hA:z8e e te (bl Ls++A) w r p c l) (hR:Src e (bl Ls++A) w q m) (hx:zV S x=Ah (.slice p l.length c)) (hy:zV S y=Ah (.slice q m.length k)) (ht:xM P t te e.n=Aj) (hm:qG l m=Ah z)
  (kk:∀ r' p' c' w',qK A w' (Ls.set i r')->qE qd Ls w (Ls.set i r') w'->z8e e te (bl (Ls.set i r')++A) w' r' p' c' z->∀ a',qV a' n ((d,.slice p' z.length c')::S)->K a' w') :
  vK P ops Q ⟨Ah d,.call { callee:=.builtin .append,args:=[x,y].toArray,argTypes:=[t,t].toArray },ty,pos,af,g⟩ K a w:=by
 obtain⟨r',p',c',w',hrun,h1,h2,h3⟩:=zUY (P:=P) (k:=k) hO hr hA hR ht hm ty;refine zEa hS hd hg (v:=.slice p' z.length c') (w':=w') ?_ (kk r' p' c' w' h1 h2 h3);simp[Av,resolve,invoke,builtin,hS.eval hx,hS.eval hy,hrun]
end
theorem z1F.arr{te:Ap}{Z:List Nat}{w:Ao}{r:zK}{p:Option Ax}{c:Nat}{l:zA}(h:z1F te r p c l): z8e (zT .u8) te Z w r p c (l.map λx=>(x.toNat:Int)):=by
 rcases h with⟨h1,h2,h3,rfl⟩ | ⟨g,cells,h1,h2,h3,h4,h5,h6,h7⟩
 ·exact .inl ⟨h1,h2,h3,rfl⟩
 ·refine .inr ⟨g,cells,h1,h2,by grind,h5,by rw[h6];simp[zT],?_⟩;grind [zT,z1Z]
theorem z8e.barr{te:Ap}{Z:List Nat}{w:Ao}{r:zK}{p:Option Ax}{c:Nat}{l:List Int}(h:z8e (zT .u8) te Z w r p c l)(hl:l≠[])(hx:∀ x∈l,0<=x/\x<256): z1F te r p c (l.map λx=>UInt8.ofNat x.toNat):=by
 rcases h with⟨_,_,_,rfl⟩ | ⟨g,cells,h1,h2,h3,h4,h5,h6⟩
 ·grind
 ·refine .inr ⟨g,cells,h1,h2,by simpa using hl,by grind,h4,by rw[h5];simp[zT],?_⟩;grind [zT,z2L]
section
variable {P:Aq}{n:Nat}{X:Hd qd}{ρ:Type}{Q:PQ ρ}{S:Sl}{Ls:List zK}{F:List PP}{m:Option ρ}{os:Array Oper}{ol:List Oper}{x y:As}{p p':uJ}
variable {d t T te b:Nat}{ty:Ap}{pos:String}{af:Array Edge}{g:Option (Nat×Bool)}{r r2:zK}{l:zA}{ad q:Option Ax}{c c2:Nat}{z:Int}{pv:Am}
theorem jBo (i k:Nat)(hF:xE F k=tN T te r b l)(h:∀ pv ad c r2,xT Ls i (bx b T [pv,.slice ad l.length c]) λL1=>zMw L1 r2 λLs'=>J P n X Q (.ops os ol) S Ls' (BA te r2 ad c l::Pu (pv=.pointer Ai\/pv=pt b 0)::F) m)
  (hr:Ls[i]?=Ah r:=by rfl):J P n X Q (.ops os ol) S Ls F m:=
 ⟨λhq r0 hm a w hs=>by
  have hB:(tN T te r b l).h (bl Ls++X.A) w:=hF▸hs.g k;obtain⟨pv,ad,c,r2,hp,rfl,hA⟩:=hB;have hp1:((Ls.set i [(b,Obj.cells #[pv,.slice ad l.length c] T (0,0))]++[r2]).flatten++[]).Perm Ls.flatten:=by
   have:=zSl [(b,Obj.cells #[pv,.slice ad l.length c] T (0,0))] hr;rw[Q1] at this;have h2:=List.Perm.cons_inv this;simp only[List.flatten_append,Uz,List.flatten_nil,QE];exact Uj.trans h2
  have h1:=hs.less hp1;have h:=h pv ad c r2;rw[zGH,zHh] at h;exact h.go hq r0 hm a w ⟨h1.s,h1.o,h1.e,hA,hp,h1.f⟩⟩
theorem jBc (i j k k2:Nat)(hF:xE F k=BA te r2 ad c l)(hP:xE F k2=Pu (pv=.pointer Ai\/pv=pt b 0))(hi:Ls[i]?=Ah (bx b T [pv,.slice ad l.length c]))(hj:Ls[j]?=Ah r2)(h:∀ r',xT Ls i r' λL1=>xT L1 j [] λLs'=>J P n X Q p S Ls' (tN T te r' b l::F) m)
  (hij:Nat.beq i j=false:=by rfl) (hl:∀ r',xT Ls i r' (λL1=>xT L1 j [] λLs'=>p.less Ls Ls'):=by intro _;first | exact trivial | exact rfl):J P n X Q p S Ls F m:=
 ⟨λhq r0 hm a w hs=>by
  have hA:z1F te r2 ad c l:=(hF▸hs.g k:(BA te r2 ad c l).h (bl Ls++X.A) w);have hp:pv=.pointer Ai\/pv=pt b 0:=(hP▸hs.g k2:(Pu (pv=.pointer Ai\/pv=pt b 0)).h (bl Ls++X.A) w);have hne:i≠j:=by intro e;subst e;simp[Nat.beq_refl] at hij
  have hp1:((((Ls.set i ((b,Obj.cells #[pv,.slice ad l.length c] T (0,0))::r2)).set j []).flatten)++[]).Perm Ls.flatten:=by
   have e1:=zSl ((b,Obj.cells #[pv,.slice ad l.length c] T (0,0))::r2) hi;have e2:=zSl (Ls:=Ls.set i ((b,Obj.cells #[pv,.slice ad l.length c] T (0,0))::r2)) [] (show _=Ah r2 by rw[List.getElem?_set_ne hne];exact hj);simp only[QE,QI] at e2 ⊢;have e3:((b,Obj.cells #[pv,.slice ad l.length c] T (0,0))::(Ls.set i ((b,Obj.cells #[pv,.slice ad l.length c] T (0,0))::r2)).flatten).Perm ((b,Obj.cells #[pv,.slice ad l.length c] T (0,0))::(r2++Ls.flatten)):=by simpa [bx] using e1
   exact(List.perm_append_left_iff r2).1 (e2.trans (List.Perm.cons_inv e3))
  have h1:=hs.less hp1;have h:=h ((b,.cells #[pv,.slice ad l.length c] T (0,0))::r2);have hl:=hl ((b,.cells #[pv,.slice ad l.length c] T (0,0))::r2);simp only[zGH] at h hl;have hss:SS qd X.A X.L0 X.w0 n S ((Ls.set i ((b,.cells #[pv,.slice ad l.length c] T (0,0))::r2)).set j []) (tN T te ((b,.cells #[pv,.slice ad l.length c] T (0,0))::r2) b l::F) a w:=⟨h1.s,h1.o,h1.e,⟨_,_,_,_,hp,rfl,hA⟩,h1.f⟩;exact uJ.less_go hl (zW4 hp1) hss (h.go hq r0 hm a w hss)⟩
theorem jwb{f:Unit->Option ρ}(at0:At Ls p os ⟨Ah d,.call { callee:=.builtin .append,args:=[x,y].toArray,argTypes:=[t,t].toArray },ty,pos,af,g⟩ p')(i k:Nat)(hF:xE F k=BA te r ad c l)(g2:yD Ls F (R (zT .u8) q c2 1 [z]))(hx:zV S x=Ah (.slice ad l.length c))(hy:zV S y=Ah (.slice q 1 c2))
  (h:∀ r' p1 c',xT Ls i r' λLs'=>J P n X Q p' ((d,.slice p1 (l++[UInt8.ofNat z.toNat]).length c')::S) Ls' (BA te r' p1 c' (l++[UInt8.ofNat z.toNat])::F) (f ())) (hr:Ls[i]?=Ah r:=by rfl) (ht:xM P t te 1=true:=by kernel_rfl) (hd:Nat.blt d n=true:=by kernel_rfl) (hg:qI os S g=Ah true:=by kernel_rfl) :
  J P n X Q p S Ls F ((chk (decide (0<=z)&&decide (z<256)&&decide (len l+1<4294967296))).bind f):=
 ⟨λhq r0 hm a w hs=>by
  obtain⟨u,h1,h2⟩:=bnd hm;have hc:(decide (0<=z)&&decide (z<256)&&decide (len l+1<4294967296))=true:=by
   unfold chk at h1;split at h1
   ·assumption
   ·cases h1
  simp only[Qc,Qb] at hc;obtain⟨⟨hz0,hz1⟩,hlen⟩:=hc;have hlen:(l.length:Int)+1<4294967296:=hlen;have hA:z1F te r ad c l:=(hF▸hs.g k:(BA te r ad c l).h (bl Ls++X.A) w);refine at0.run λK hK=>z2x i (e:=zT .u8) te (l:=l.map λx=>(x.toNat:Int)) (m:=[z]) (k:=c2) hs.s hd hg hs.o hr hA.arr (g2 _ _ hs.o hs.f).1.src (by grind) hy ht (show qG _ _=Ah _ by unfold qG;rw[Qi (by simp;omega)]) λr' p1 c' w' hO' hE' hA' a' hS=>hK hE' ?_;have hne:(l.map λx=>((x.toNat:Nat):Int))++[z]≠[]:=by simp
  have hall:∀ x∈(l.map λx=>((x.toNat:Nat):Int))++[z],0<=x/\x<256:=by
   intro x hx;rcases Qj.1 hx with hx | hx
   ·obtain⟨v,_,rfl⟩:=QD.1 hx;have:=v.toNat_lt;omega
   ·grind
  have e1:(((l.map λx=>((x.toNat:Nat):Int))++[z]).map λx=>UInt8.ofNat x.toNat)=l++[UInt8.ofNat z.toNat]:=by
   rw[Uk,List.map_map];congr 1;rw[UH (g:=id) λx _=>by simp];simp
  have hB:=z8e.barr hA' hne hall;rw[e1] at hB;have h:=h r' p1 c';rw[zGH] at h;cases u;rw[show((l.map λx=>((x.toNat:Nat):Int))++[z]).length=(l++[UInt8.ofNat z.toNat]).length by simp] at hS;exact h.go hq r0 h2 a' w' (hs.next hO' hE' hS [BA te r' p1 c' _] ⟨hB,trivial⟩)⟩
end
end
section
open Go Go.RowKit Go.Shelf Go.Proofs
set_option linter.unusedVariables false
variable {qd:Prop}
theorem z7H (w:Ao)(k:Nat)(os:Array Obj): qE qd [] w [] (Go.Sort.grow (w.drewN k) os):=
 ⟨rfl,rfl,rfl,λ_=>Nat.le_add_right _ _,by simp_all,λi hi _=>(by
  show((w.drewN k).heap++os)[i]?=_;rw[Array.getElem?_append_left (by simp_all)];rfl),λb hb=>by grind⟩
def vO (g:Nat): PP:=
 ⟨λZ w=>g∉Z/\∃ ev,w.cell? ⟨g,0,Ai⟩=Ah ev/\(ev=.nilIface\/∃ te pe,ev=.iface te pe),by
  rintro Z w Z' w' s ⟨h1,ev,h2,h3⟩;have hlt:=Ao.block_lt_of_cell? w ⟨g,0,Ai⟩ h2;obtain⟨k1,k2⟩:=s.same g hlt h1;grind [Ao.cell?_of_block]⟩
section
variable {P:Aq}{ρ:Ren}
theorem z4f (L:LaysM.n246 P ρ)(hc:∀ args w,(callFunc (ρ.f 246) args).run P w=.ok (.enter (ρ.f 246) args) w){n z:Int}:
  zJ qd P (ρ.f 246) [vi n,vi z] [] [Tb P "internal/strconv.uint64pow10" .u64 Lib.pow10Tab] (z78 n z) λr K=>K (vs r) [] []:=by
 refine z8H hc λZ w r hm hF=>?_;unfold z78 at hm;split at hm;case isFalse=>cases hm
 rename_i h;obtain⟨rfl,h0,h1⟩:=h;obtain rfl:=QA hm;obtain⟨⟨_,_,_,_,hT⟩,_⟩:=hF;refine(Any.internal_strconv_FormatInt_10 L n h0 h1 w hT).mono λe w' ⟨he,k,os,hw⟩=>?_;subst hw;exact⟨he,z7H w k os⟩
theorem z5X (w:Ao)(t:Ap)(s:ByteArray): qE qd [] w [] (Lib.bytesWorld w t s):=by
 have hsz:=Lib.bytesWorld_size w t s;refine⟨?_,?_,?_,λ_=>?_,by omega,λi hi _=>Lib.bytesWorld_at_old w t s i hi,λb hb=>by grind⟩
 ·unfold Lib.bytesWorld Ao.freeze;split <;> rfl
 ·unfold Lib.bytesWorld Ao.freeze;split <;> rfl
 ·unfold Lib.bytesWorld Ao.freeze;split <;> rfl
 ·unfold Lib.bytesWorld Ao.freeze;simp_all
theorem z79 (L:LaysC.n172 P ρ)(hc:∀ args w,(callFunc (ρ.f 172) args).run P w=.ok (.enter (ρ.f 172) args) w){s:zA}:
  zJ False P (ρ.f 172) [vs s] [] [vO (ρ.g 15),vO (ρ.g 16)] (z7l s) λr K=>∀ v,K (.tuple #[vi r.1,v]) [] [Erv v r.2]:=by
 refine⟨hc,λA w r hm hO hF=>?_⟩;unfold z7l at hm;split at hm;case isFalse=>cases hm
 rename_i hl;obtain⟨⟨_,e1,h1,h1'⟩,⟨_,e2,h2,h2'⟩,_⟩:=hF;have hd:∀ {e:Ending} {w':Ao} {v:Am},qE False [] w [] w'->ErB v r.2->e=.returned (.tuple #[vi r.1,v])->_:=λ{e w' v} hE hv he=>(⟨he,hO.frame hE,hE,hv,trivial⟩:_/\_/\_/\_/\True);cases ha:Lib.atoiAll s with
 | ok v=>
  rw[ha] at hm;obtain rfl:=QA hm;refine(Any.strconv_Atoi_ok L ⟨⟨s⟩⟩ (by show s.length<=_;omega) v ha w).mono λe w' ⟨he,hw⟩=>?_;subst he;have hE:qE False [] w [] w':=by
   rcases hw with rfl | ⟨t,rfl⟩
   ·exact qE.refl _ _
   ·exact z5X w _ t
  exact λG k=>k .nilIface ⟨rfl,hO.frame hE,hE,.inl ⟨rfl,rfl⟩,trivial⟩
 | «syntax»=>
  rw[ha] at hm;obtain rfl:=QA hm;refine(Any.strconv_Atoi_syntax L ⟨⟨s⟩⟩ (by show s.length<=_;omega) ha e1 w h1 h1').mono λe w' ⟨N,he,_,_,hB⟩=>?_;subst he;have hE:=zPl hB;exact λG k=>k _ ⟨rfl,hO.frame hE,hE,.inr ⟨⟨_,_,rfl⟩,rfl⟩,trivial⟩
 | range=>
  rw[ha] at hm;obtain rfl:=QA hm;refine(Any.strconv_Atoi_range L ⟨⟨s⟩⟩ (by show s.length<=_;omega) ha e2 w h2 h2').mono λe w' ⟨N,he,_,_,hB⟩=>?_;subst he;have hE:=zPl hB;exact λG k=>k _ ⟨rfl,hO.frame hE,hE,.inr ⟨⟨_,_,rfl⟩,rfl⟩,trivial⟩
end
end
section
open Go Go.RowKit
variable {qd:Prop}
set_option linter.unusedVariables false
def pvA (P:Aq)(S:List (Nat×Am))(t:Ap)(parts:List (Nat×As)): Option Value:=match P.underlying t with
 | some (.array _ el)=>match P.info? el,zHO P t,zPa S parts with
  | some i,Ah z,Ah vs=>(Instr.fill (λj=>Ah (j*i.size,i.size)) z.cells vs).map .agg
  | _,_,_=>Ai
 | _=>Ai
def z7Q{α:Type}: List α->Int->Int->α->List α
 | [],_,_,_=>[]
 | a::l,k,i,v=>(if(i==k)=Aj then v else a)::z7Q l (k+1) i v
theorem z1s{α:Type}(v:α): ∀(l:List α) (k i:Int),k<=i->z7Q l k i v=l.set (i-k).toNat v
 | [],_,_,_=>rfl
 | a::l,k,i,h=>by
  unfold z7Q;by_cases e:i=k
  ·subst e;have h0:∀(l:List α) (k:Int),i<k->z7Q l k i v=l:=by
    intro l;induction l with
    | nil=>intro k _;rfl
    | cons b l ih=>
     grind [z7Q]
   grind
  ·have h1:(i==k)=false:=by simpa using e
   rw[h1,z1s v l (k+1) i (by omega)];have:(i-k).toNat=(i-(k+1)).toNat+1:=by omega
   grind
section
variable {P:Aq}{n:Nat}{X:Hd qd}{ρ:Type}{Q:PQ ρ}{S:Sl}{Ls:List zK}{F:List PP}{m:Option ρ}{os:Array Oper}{ol:List Oper}{x y:As}{p p':uJ}{a:Ay}
variable {d t:Nat}{ty:Ap}{pos:String}{af:Array Edge}{g:Option (Nat×Bool)}{kd:Au}{B Jj:List Nat}{li:Array Bool}{fuel:Nat}
theorem zSq{parts:Array (Nat×As)}{v:Am}{d:Option Tmp}(hS:qV a n S)(h:pvA P S t parts.toList=Ah v)(w:Ao):
  (Av a.eval ⟨d,.build t parts,ty,pos,af,g⟩).run P w=.ok (.value v) w:=by
 unfold pvA at h;split at h
 ·rename_i k el hu;split at h
  ·rename_i i z vs hi hz hvs;simp only[Q9] at h;obtain⟨cells,hfill,rfl⟩:=h;have h2:=hS.parts hvs;have h3:=zL0 hz w;have hsr:(sizeOf el).run P w=.ok i.size w:=by simp[sizeOf,typeInfo,hi]
   simp only[Av,Instr.build,Sem.run_bind,h3,Result.andThen_ok,run_underlying hu,hsr];simp_all
  ·cases h
 ·cases h
theorem uQ{b o o' k sz:Nat}{i:Int}{d:Option Tmp}(hS:qV a n S)(hx:zV S x=Ah (pt b o))(hy:zV S y=Ah (.int kd i))(ht:zTV P t=Ah (k,sz))(h0:0<=i/\i<(k:Int))(ho:o+i.toNat*sz=o')(w:Ao):
  (Av a.eval ⟨d,.indexAddr t x y,ty,pos,af,g⟩).run P w=.ok (.value (pt b o')) w:=by
 subst ho;simp[Av,hS.eval hx,hS.eval hy,zRe ht h0.1 (show i.toNat<k by omega)]
section
variable {τ:Type}{l:List τ}{ix:Int}{u:τ}{b o:Nat}{c:List Am}{te:Ap}{fr:Nat×Nat}
theorem idx_bd (h:zD l ix=Ah u): 0<=ix/\ix<(l.length:Int):=by grind [zD]
theorem jiB{f:τ->Option ρ}(hx:zV S x=Ah (pt b o))(hy:zV S y=Ah (.int kd ix))
  (h:∀ u,zD l ix=Ah u->J P n X Q (.ops os ol) ((d,pt b (o+ix.toNat*1))::S) Ls F (f u))
  (ht:zTV P t=Ah (l.length,1):=by kernel_rfl) (hd:Nat.blt d n=true:=by kernel_rfl) (hg:qI os S g=Ah true:=by kernel_rfl) :
  J P n X Q (.ops os (⟨Ah d,.indexAddr t x y,ty,pos,af,g⟩::ol)) S Ls F ((zD l ix).bind f):=
 ⟨λhq r hm a w hs=>by
  obtain⟨u,h1,h2⟩:=bnd hm;exact sl (z7X hs (v:=pt b (o+ix.toNat*1)) (λw'=>uQ hs.s hx hy ht (idx_bd h1) rfl w') (λa h'=>(h u h1).go hq r h2 a w h') hd hg)⟩
theorem z9c (w:τ->Am)(hc:(c.drop o).take l.length=l.map w)(hm:zD l ix=Ah u): ∃ hlt:o+ix.toNat*1<c.length,c[o+ix.toNat*1]=w u:=by
 obtain⟨h1,h2,h3⟩:=zLq hm;have h4:((c.drop o).take l.length)[ix.toNat]?=Ah (w u):=by rw[hc,Um,h2];rfl
 grind
theorem z8w (w:τ->Am)(hc:(c.drop o).take l.length=l.map w)(hm:zD l ix=Ah u)(ht:uE P t=Ah (Ak,1)): zKu P t c.toArray (o+ix.toNat*1)=Ah (w u):=by
 obtain⟨hlt,he⟩:=z9c w hc hm;unfold zKu;rw[ht];have:Nat.ble (o+ix.toNat*1+1) c.toArray.size=true:=by rw[UL,QX];exact hlt
 simp only[this,Qx,z0a];rw[QB hlt,he];rfl
theorem jlI (i:Nat)(w:τ->Am)(hx:zV S x=Ah (pt b (o+ix.toNat*1)))(hr:Ls[i]?=Ah [(b,.cells c.toArray te fr)])(hc:(c.drop o).take l.length=l.map w)(hm:zD l ix=Ah u)
  (h:J P n X Q (.ops os ol) ((d,w u)::S) Ls F m) (ht:uE P t=Ah (Ak,1):=by kernel_rfl) (hd:Nat.blt d n=true:=by kernel_rfl) (hg:qI os S g=Ah true:=by kernel_rfl):J P n X Q (.ops os (⟨Ah d,.load t x,ty,pos,af,g⟩::ol)) S Ls F m:=
 ⟨λhq r hm' a w' hs=>sl (zOF i (w u) hs hx hr (λa h'=>h.go hq r hm' a w' h') (z8w w hc hm ht) hd hg)⟩
theorem jsI{z:τ}(w:τ->Am)(at0:At Ls p os ⟨Ai,.store t x y,ty,pos,af,g⟩ p')(i:Nat)(hx:zV S x=Ah (pt b (o+ix.toNat*1)))(hy:zV S y=Ah (w z))(hr:Ls[i]?=Ah (bx b te c))(hc:(c.drop o).take l.length=l.map w)(hm:zD l ix=Ah u)
  (h:putC o c ((z7Q l 0 ix z).map w) λc'=>xT Ls i (bx b te c') λLs'=>J P n X Q p' S Ls' F m) (ht:uE P t=Ah (Ak,1):=by kernel_rfl) (hz:(w z).oneCell'=true:=by rfl) (hg:qI os S g=Ah true:=by kernel_rfl):J P n X Q p S Ls F m:=
 ⟨λhq r hm' a w' hs=>at0.run λK hK=>zTZ i hs hx hy hr (λa w2 h' e=>hK e (by
  have h:=z0i h;rw[zGH] at h;obtain⟨h1,h2,h3⟩:=zLq hm;have hlen:(z7Q l 0 ix z).map w=(l.map w).set ix.toNat (w z):=by
   rw[z1s z l 0 ix h1,Int.sub_zero,List.map_set]
  have hl2:(l.map w).length=l.length:=UJ w;have hcl:o+l.length<=c.length:=by
   have:=congrArg List.length hc;simp only[Q5,QL,UJ] at this;omega
  have hnew:c.take o++(z7Q l 0 ix z).map w++c.drop (o+((z7Q l 0 ix z).map w).length)=c.set (o+ix.toNat*1) (w z):=by
   rw[hlen,Ug,hl2];have hd1:c=c.take o++(l.map w++c.drop (o+l.length)):=by
    conv=>lhs;rw[<-QC o c,<-QC l.length (c.drop o),hc,Q0]
   conv=>rhs;rw[hd1]
   have ho:(c.take o).length=o:=by rw[Q5];omega
   rw[List.set_append_right _ _ (by omega),ho,show o+ix.toNat*1-o=ix.toNat by omega,List.set_append_left _ _ (by omega),Qo]
  rw[hnew] at h;have hz1:(w z).cells.toList=[w z]:=by
   cases hv:w z <;> first | rfl | (rw[hv] at hz;cases hz)
  have hlt:o+ix.toNat*1<c.length:=by omega
  have hput:zZv c.toArray (o+ix.toNat*1) (w z).cells.toList=(c.set (o+ix.toNat*1) (w z)).toArray:=by
   unfold zZv;rw[hz1,List.set_eq_take_append_cons_drop,Qi hlt];simp
  rw[hput] at h' ⊢;exact h.go hq r hm' a w2 h')) (by
   obtain⟨h1,h2,h3⟩:=zLq hm;have hcl:o+l.length<=c.length:=by
    have:=congrArg List.length hc;simp only[Q5,QL,UJ] at this;omega
   have hz1:(w z).cells.toList=[w z]:=by
    cases hv:w z <;> first | rfl | (rw[hv] at hz;cases hz)
   have hz2:(w z).cells.size=1:=by rw[<-Uq,hz1];rfl
   unfold zKq;rw[ht];have hble:Nat.ble (o+ix.toNat*1+1) c.toArray.size=true:=by rw[UL,QX];omega
   grind) hg⟩
end
end
end
section
open Go Go.RowKit
section
variable {P:Aq}{n:Nat}{S:Sl}{x y:As}{a:Ay}{t te:Nat}{ty u:Ap}{pos:String}{af:Array Edge}{g:Option (Nat×Bool)}{kd:Au}{i1 i2 j1 j2:Int}{d:Option Tmp}
theorem zQM{cs:Array Am}{o:Nat}{v:Am}(hsh:uE P te=Ah (Ak,1))(h:cs[o]?=Ah v)(w:Ao): (part te cs o).run P w=.ok v w:=
 by grind [zNN,z69]
theorem z6f{i:TypeInfo}(hu:P.underlying t=Ah (.array 2 te))(he:P.underlying te=Ah (.int kd))(hi:P.info? te=Ah i)(hc:P.cellsOf te=1)(hsh:uE P te=Ah (Ak,1))(w:Ao):
  (Op.equalIn 10000 t (.agg #[.int kd i1,.int kd i2]) (.agg #[.int kd j1,.int kd j2])).run P w=.ok ((i1,i2)==(j1,j2)) w:=by
 rw[show(10000:Nat)=9998+1+1 from rfl,run_equalIn_array w 9999 _ _ hu hi,hc,show List.range 2=[0,1] from rfl];unfold Op.eqItems;simp only[Sem.run_bind,Sem.run_ite,Nat.zero_mul];rw[zQM hsh (v:=.int kd i1) rfl,Result.andThen_ok,zQM hsh (v:=.int kd j1) rfl,Result.andThen_ok,run_equalIn_int w 9998 te kd kd i1 j1 he,Result.andThen_ok];cases h1:(i1==j1) with
 | false=>
  simp_all
 | true=>
  have:((i1,i2)==(j1,j2))=(i2==j2):=by
   show((i1==j1)&&(i2==j2))=(i2==j2);rw[h1];rfl
  rw[this];unfold Op.eqItems;simp only[Sem.run_bind,Sem.run_ite,U1,QG,zbf,Qy];rw[zQM hsh (v:=.int kd i2) rfl,Result.andThen_ok,zQM hsh (v:=.int kd j2) rfl,Result.andThen_ok,run_equalIn_int w 9998 te kd kd i2 j2 he,Result.andThen_ok];cases h2:(i2==j2) with
  | false=>simp
  | true=>simp[Op.eqItems]
theorem z86 (hS:qV a n S)(hx:zV S x=Ah (.agg #[.int kd i1,.int kd i2]))(hy:zV S y=Ah (.agg #[.int kd j1,.int kd j2]))(hu:P.underlying t=Ah (.array 2 te))(he:P.underlying te=Ah (.int kd))(hi:(P.info? te).isSome=Aj)(hc:P.cellsOf te=1)
  (hsh:uE P te=Ah (Ak,1)) (hg:P.eqGuardType P.depth t=Ak) (w:Ao) :
  (Av a.eval ⟨d,.binOp .eql t x y u,ty,pos,af,g⟩).run P w=.ok (.value (vb ((i1,i2)==(j1,j2)))) w:=by
 obtain⟨i,hi⟩:=Option.isSome_iff_exists.1 hi;simp[Av,hS.eval hx,hS.eval hy,run_eqGuard_agg,hg,run_eql_struct,z6f hu he hi hc hsh]
end
end
section
open Go Go.RowKit
variable {qd:Prop}
set_option linter.unusedVariables false
section
variable {P:Aq}{n:Nat}{X:Hd qd}{ρ:Type}{Q:PQ ρ}{S:Sl}{Ls:List zK}{F:List PP}{m:Option ρ}{os:Array Oper}{ol:List Oper}{x y:As}{p p':uJ}{a:Ay}
variable {d t:Nat}{ty:Ap}{pos:String}{af:Array Edge}{g:Option (Nat×Bool)}{kd:Au}{B Jj:List Nat}{li:Array Bool}{fuel:Nat}
variable {b o:Nat}{te:Ap}{fr:Nat×Nat}{ix K:Int}
end
end
section
open Go Go.RowKit
variable {qd:Prop}
set_option linter.unusedVariables false
section
variable {P:Aq}{n:Nat}{X:Hd qd}{ρ:Type}{Q:PQ ρ}{S:Sl}{Ls:List zK}{F:List PP}{m m1 m2:Option ρ}{os:Array Oper}{ol:List Oper}{x y:As}{p p':uJ}{a:Ay}
variable {d t:Nat}{ty:Ap}{pos:String}{af:Array Edge}{g:Option (Nat×Bool)}{kd:Au}{k0:Nat}
end
end
section
open Go Go.RowKit
variable {qd:Prop}
set_option linter.unusedVariables false
section
variable {P:Aq}{n:Nat}{X:Hd qd}{ρ:Type}{Q:PQ ρ}{S:Sl}{Ls:List zK}{F:List PP}{m:Option ρ}{os:Array Oper}{ol:List Oper}{x y:As}{p p':uJ}{a:Ay}
variable {d t t2:Nat}{ty:Ap}{pos:String}{af:Array Edge}{g:Option (Nat×Bool)}{kd:Au}{j:Int}
variable {τ:Type}{e:E τ}{te:Ap}{r:zK}
theorem r_cap{s:Option Ax}{k c:Nat}{e':Ap}{d:Option Tmp}(hS:qV a n S)(hx:zV S x=Ah (.slice s k c))(hu:P.underlying t=Ah (.slice e'))(w:Ao):
  (Av a.eval ⟨d,.call { callee:=.builtin .cap,args:=[x].toArray,argTypes:=[t].toArray },ty,pos,af,g⟩).run P w=.ok (.value (vi (c:Int))) w:=by
 simp[Av,resolve,invoke,builtin,hS.eval hx,Builtin.cap_,run_underlying hu,goInt]
theorem z9W{d:Option Tmp}(hS:qV a n S)(hx:zV S x=Ah (.slice Ai 0 0)){x2:As}(hy:zV S x2=Ah (.int kd 0))(ht:uM P t=Ah e.n)(w:Ao):
  (Av a.eval ⟨d,.slice t x Ai (Ah x2) Ai,ty,pos,af,g⟩).run P w=.ok (.value (.slice Ai 0 0)) w:=by
 unfold uM at ht;split at ht
 ·rename_i te hu;cases hq:P.info? te with
  | none=>grind
  | some info=>
   have hb:=zL5 (P:=P) (w:=w) (b:=Aj) (m:=0) (c:=0) (i:=0) (j:=0) (lo:=Ai) (hi:=Ah (.int kd 0)) (.inl ⟨rfl,rfl⟩) (.inr ⟨_,rfl⟩) (by omega) (by omega) (by simp);have e1:zSW S (Ah x2)=Ah (Ah (.int kd 0)):=by simp[zSW,hy]
   simp[Av,hS.eval hx,hS.evalO e1,Instr.sliceAt,Instr.slice,run_underlying hu,hb,sizeOf,typeInfo,hq]
 ·cases ht
theorem zSe{w:Ao}{info:TypeInfo}{zv:Am}(hu:P.underlying t=Ah (.slice te))(hi:P.info? te=Ah info)(hz:info.zero=Ah zv)(h2:P.underlying t2=Ah (.int .i64))(hby:info.bytes<=32768)(hs:0<info.size)(h0:0<j)(hj:j<=4294967296):
  (Builtin.append_ #[t,t2] ty #[.slice Ai 0 0,.int .i64 j]).run P w =
   .ok (.slice (Ah ⟨w.heap.size,0,Ai⟩) j.toNat (grownCap w j.toNat 0 te)) (w.drew.alloc (.cells (Builtin.zeroCells zv.cells j.toNat++Builtin.zeroCells zv.cells (grownCap w j.toNat 0 te-j.toNat)) te)):=by
 obtain⟨k,rfl⟩:=Qv (show 0<=j by omega);have hk:0<k:=by omega
 have hwr:Au.i64.wrap (k:Int)=(k:Int):=by simp only[Au.wrap,Au.signed,Au.bits,Bool.true_and];(grind)
 have hmul:info.bytes*k<=32768*4294967296:=US hby (by omega);have hb:¬ (281474976710656:Int)<(k:Int)*(info.bytes:Int):=by
  rw[<-Int.natCast_mul,Nat.mul_comm];omega
 have h48':¬ (281474976710656<Builtin.nextslicecap k 0*info.bytes):=by rw[nextslicecap_zero hk,Nat.mul_comm];omega
 have hkn:¬ k=0:=by omega
 have hsz:¬ info.size=0:=by omega
 have h63':¬ (9223372036854775807<(k:Int)):=by omega
 have hneg:¬ ((k:Int)<0):=by omega
 have hks:¬ (k*info.size=0):=Nat.mul_ne_zero hkn hsz;simp[Builtin.append_,run_underlying hu,run_underlying h2,sizeOf,typeInfo,zeroValue,hi,hz,hwr,hb,h48',hkn,hks,h63',hneg,Question.forced,newRow,grownCap,Builtin.firstCells,asInt,asIntOf]
theorem jaz{f:List τ->Option ρ}(at0:At Ls p os ⟨Ah d,.call { callee:=.builtin .append,args:=[x,y].toArray,argTypes:=[t,t2].toArray },ty,pos,af,g⟩ p')(i k:Nat)(te:Ap)(zd:τ)(zv:Am)(hF:xE F k=Ar e te r Ai 0 0 [])(hzr:RV e Ls F zv.cells.toList zd)
  (hx:zV S x=Ah (.slice Ai 0 0)) (hy:zV S y=Ah (.int .i64 j))
  (h:∀ z r' p1 c',xT Ls i r' λLs'=>J P n X Q p' ((d,sv p1 z c')::S) Ls' (Al e te r' p1 c' z::F) (f z)) (hr:Ls[i]?=Ah r:=by rfl) (hz:zHO P te=Ah zv:=by kernel_rfl) (ht:xM P t te e.n=true:=by kernel_rfl)
  (h2:P.underlying t2=Ah (.int .i64)) (hd:Nat.blt d n=true:=by kernel_rfl) (hg:qI os S g=Ah true:=by kernel_rfl):J P n X Q p S Ls F ((tI j j zd).bind f):=
 ⟨λhq r0 hm a w hs=>by
  obtain⟨z,h1,h3⟩:=bnd hm;obtain⟨h0,_,hj,rfl⟩:=z8S h1;have hfact:(Ar e te r Ai 0 0 ([]:List τ)).h (bl Ls++X.A) w:=hF▸hs.g k;have hre:r=[]:=by
   rcases hfact.1 with⟨hh,_⟩ | ⟨b,o,cells,_,hh,_⟩
   ·exact hh
   ·cases hh
  subst hre;obtain⟨hu,info,zv',hi,hz',hsize,hby,hpos,hzs⟩:=zJP ht;have hzz:zv'=zv:=by simp[zHO,hi,hz'] at hz;exact hz
  subst hzz;refine at0.run λK hK=>?_;by_cases hj0:j=0
  ·subst hj0;have hrun:(Builtin.append_ #[t,t2] ty #[.slice Ai 0 0,.int .i64 0]).run P w=.ok (.slice Ai 0 0) w:=by
    have hwr:Au.i64.wrap (0:Int)=0:=rfl;simp[Builtin.append_,run_underlying hu,run_underlying h2,sizeOf,typeInfo,hi,hwr,asInt,asIntOf]
   refine zEa hs.s hd hg (v:=.slice Ai 0 0) (w':=w) (by simp[Av,resolve,invoke,builtin,hs.s.eval hx,hs.s.eval hy,hrun]) λa hS=>?_;have hself:Ls.set i []=Ls:=by
    apply Q8;intro q;by_cases hq:i=q
    ·grind
    ·grind
   have h:=h [] [] Ai 0;rw[zGH,hself] at h;refine hK (qE.refl _ _) (h.go hq r0 h3 a w ?_);exact(hs.slot hS).add ⟨yS.nil,rfl⟩
  ·have hjp:0<j:=by omega
   have hrun:=zSe (ty:=ty) (w:=w) hu hi hz' h2 hby (by omega) hjp hj;have hge:=grownCap_ge w j.toNat 0 te;have hcm:=grownCap_le_maxLen w j.toNat 0 te (by grind [maxLen]);have hE:qE qd Ls w (Ls.set i [(w.heap.size,.cells (Builtin.zeroCells zv'.cells j.toNat++Builtin.zeroCells zv'.cells (grownCap w j.toNat 0 te-j.toNat)) te (0,0))]) (w.drew.alloc (.cells (Builtin.zeroCells zv'.cells j.toNat++Builtin.zeroCells zv'.cells (grownCap w j.toNat 0 te-j.toNat)) te)):=
    qE.set hr rfl rfl rfl (by simp) (λk hk _=>Below.heap_alloc w.drew _ k hk) (λx hx=>by grind)
   refine zEa hs.s hd hg (v:=.slice (Ah ⟨w.heap.size,0,Ai⟩) j.toNat (grownCap w j.toNat 0 te)) (w':=w.drew.alloc (.cells (Builtin.zeroCells zv'.cells j.toNat++Builtin.zeroCells zv'.cells (grownCap w j.toNat 0 te-j.toNat)) te)) (by simp[Av,resolve,invoke,builtin,hs.s.eval hx,hs.s.eval hy,hrun]) λa hS=>?_;have h:=h (List.replicate j.toNat zd) [(w.heap.size,.cells (Builtin.zeroCells zv'.cells j.toNat++Builtin.zeroCells zv'.cells (grownCap w j.toNat 0 te-j.toNat)) te (0,0))] (Ah ⟨w.heap.size,0,Ai⟩) (grownCap w j.toNat 0 te);rw[zGH] at h;have hO:=hs.o.set hr (w':=w.drew.alloc (.cells (Builtin.zeroCells zv'.cells j.toNat++Builtin.zeroCells zv'.cells (grownCap w j.toNat 0 te-j.toNat)) te)) (r':=[(w.heap.size,.cells (Builtin.zeroCells zv'.cells j.toNat++Builtin.zeroCells zv'.cells (grownCap w j.toNat 0 te-j.toNat)) te (0,0))]) (by simp) (λk hk _=>Below.heap_alloc w.drew _ k hk) (λx hx=>by simp only[Qh] at hx;subst hx;exact heap_alloc_new w.drew _) (by simp) (λx hx=>by grind);have hlen:(List.replicate j.toNat zd).length=j.toNat:=List.length_replicate;refine hK hE (h.go hq r0 h3 a _ (hs.next hO hE (by grind) [Ar e te _ _ _ _ _] ⟨⟨yS.mk0 w.heap.size _ rfl rfl (by grind) hcm ?_ ?_,rfl⟩,trivial⟩))
   ·simp only[Uy,size_zeroCells,hzs,<-QV];grind
   ·have hrd:=E.rdL_replicate (hzr _ _ hs.o hs.f) j.toNat;rw[<-zLD] at hrd;have hl2:(Builtin.zeroCells zv'.cells j.toNat).toList.length=(List.replicate j.toNat zd).length*e.n:=by rw[hlen,Uq,size_zeroCells,hzs]
    rw[Up,<-hl2,Ur];exact e.rdL_step (hE.step X.A) hrd⟩
end
end
section
open Go Go.RowKit
variable {qd:Prop}
set_option linter.unusedVariables false
section
variable {P:Aq}{n:Nat}{X:Hd qd}{ρ:Type}{Q:PQ ρ}{S:Sl}{Ls:List zK}{F:List PP}{m:Option ρ}{os:Array Oper}{ol:List Oper}{x y:As}{p p':uJ}{a:Ay}
variable {d t:Nat}{ty:Ap}{pos:String}{af:Array Edge}{g:Option (Nat×Bool)}{kd:Au}{B Jj:List Nat}{li:Array Bool}{fuel:Nat}
variable {b o:Nat}{te:Ap}{fr:Nat×Nat}
end
end
section
open Go Go.RowKit
variable {qd:Prop}
set_option linter.unusedVariables false
section
variable {P:Aq}{A:List Nat}{Ls:List zK}{w:Ao}{n:Nat}{S:Sl}{a:Ay}
variable {τ:Type}{e:E τ}{te:Ap}{r:zK}{p q:Option Ax}{c:Nat}{l z:List τ}{t:Ap}{x:As}
variable {d:Option Tmp}{ty:Ap}{pos:String}{af:Array Edge}{g:Option (Nat×Bool)}
end
section
variable {P:Aq}{n:Nat}{S:Sl}{a:Ay}{p0:Option Ax}{k0 c:Nat}{t:Ap}{x lo hi mx:As}{d:Option Tmp}{ty:Ap}{pos:String}{af:Array Edge}{g:Option (Nat×Bool)}{i j k:Int}{k1 k2 k3:Au}
end
section
variable {P:Aq}{n:Nat}{X:Hd qd}{ρ:Type}{Q:PQ ρ}{S:Sl}{Ls:List zK}{F:List PP}{m:Option ρ}{os:Array Oper}{ol:List Oper}{x y:As}{p p':uJ}
variable {d t:Nat}{ty:Ap}{pos:String}{af:Array Edge}{g:Option (Nat×Bool)}{kd:Au}
variable {τ:Type}{e:E τ}{te:Ap}{r r2:zK}{p0 q0:Option Ax}{c c2 k0 k2:Nat}{z z2:List τ}
end
section
variable {P:Aq}{n:Nat}{X:Hd qd}{ρ:Type}{Q:PQ ρ}{S:Sl}{Ls:List zK}{F:List PP}{m:Option ρ}{p:uJ}{τ:Type}{e:E τ}{te:Ap}{r:zK}{p0:Option Ax}{c k0:Nat}{z z2:List τ}
end
section
variable {α:Type}{l z:List α}{i j:Int}{c nn:Nat}{p:Option Ax}{zd:α}
abbrev InsH (l z:List α)(i:Int): Prop:=z.length=1/\0<=i/\i<=l.length/\l.length+1<4294967296
variable (hc:InsH l z i)
include hc
end
end
end Go.GD
