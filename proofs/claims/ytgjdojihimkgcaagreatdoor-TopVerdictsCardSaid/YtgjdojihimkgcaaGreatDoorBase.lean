/- A part. Conditions: none. -/
import GoSem.Core.View
import Derived.WalkKit
import Derived.Laws.StructEq
import Derived.Laws.AppendOwn
import Derived.Laws.MakeOwn
import Derived.Below
import Derived.Laws.OwnMore
import Derived.Laws.Concat
import Derived.OrdersHeld
import Derived.Lib.SpaceU
import Derived.Lib.Bytealg
import Derived.Lib.ItoaNum
import Derived.Lib.AtoiAll
namespace Go.GD
set_option autoImplicit false
section
set_option linter.defProp false
abbrev Qa:=@List.mem_singleton
abbrev Qb:=@List.mem_append
abbrev Qc:=@if_false
abbrev Qd:=@List.length_append
abbrev Qe:=@List.getElem?_eq_some_iff
abbrev Qf:=@if_true
abbrev Qg:=@Option.some.injEq
abbrev Qh:=@List.getElem?_eq_getElem
abbrev Qi:=@if_neg
abbrev Qj:=@Int.toNat_natCast
abbrev Qk:=@List.mem_filter
abbrev Ql:=@if_pos
abbrev Qm:=@decide_eq_true_eq
abbrev Qn:=@List.mem_map
abbrev Qo:=@List.mem_cons_of_mem
abbrev Qp:=@List.mem_iff_getElem?
abbrev Qq:=@List.mem_cons_self
abbrev Qr:=@Nat.le_refl
abbrev Qs:=@List.append_assoc
abbrev Qt:=@List.length_singleton
abbrev Qu:=@Array.getElem?_eq_some_iff
abbrev Qv:=@List.drop_eq_getElem_cons
abbrev Qw:=@List.mem_cons
abbrev Qx:=@List.take_of_length_le
abbrev Qy:=@decide_eq_true
abbrev Qz:=@List.length_filter_le
abbrev QA:=@Bool.and_eq_true
abbrev QB:=@List.length_take
abbrev QC:=@List.take_length
abbrev QD:=@Nat.le_trans
abbrev QE:=@Option.some.inj
abbrev QF:=@List.append_nil
abbrev QG:=@List.take_append_drop
abbrev QH:=@Int.eq_ofNat_of_zero_le
abbrev QI:=@List.nil_append
abbrev QJ:=@List.length_map
abbrev QK:=@List.length_cons
abbrev QL:=@List.mem_flatMap
abbrev QM:=@Nat.add_zero
abbrev QN:=@List.ext_getElem?
abbrev QO:=@Bool.not_true
abbrev QP:=@List.pairwise_cons
abbrev QQ:=@Nat.mul_le_mul_right
abbrev QR:=@List.eq_nil_of_length_eq_zero
abbrev QS:=@List.size_toArray
abbrev QT:=@List.nodup_append
abbrev QU:=@beq_eq_false_iff_ne
abbrev QV:=@decide_eq_false_iff_not
abbrev QW:=@List.all_eq_true
abbrev QX:=@List.getElem?_take
abbrev QY:=@List.length_pos_iff
abbrev QZ:=@Bool.eq_iff_iff
abbrev Q1:=@Nat.add_mul
abbrev Q2:=@List.getElem?_cons_succ
abbrev Q3:=@List.filter_cons
abbrev Q4:=@List.getElem?_append_left
abbrev Q5:=@beq_iff_eq
abbrev Q6:=@List.any_eq_true
abbrev Q7:=@List.getElem?_map
abbrev Q8:=@List.pairwise_map
abbrev Q9:=@decide_eq_false
abbrev Ua:=@List.mem_range
abbrev Ub:=@List.getD_eq_getElem?_getD
abbrev Uc:=@List.getElem?_cons_zero
abbrev Ud:=@List.pairwise_iff_getElem
abbrev Ue:=@beq_self_eq_true
abbrev Uf:=@List.drop_of_length_le
abbrev Ug:=@List.map_cons
abbrev Uh:=@Nat.lt_succ_iff_lt_or_eq
abbrev Ui:=@Nat.le_of_ble_eq_true
abbrev Uj:=@List.getElem?_append_right
abbrev Uk:=@List.not_mem_nil
abbrev Ul:=@Bool.not_false
abbrev Um:=@List.take_add_one
abbrev Un:=@Bool.or_eq_false_iff
abbrev Uo:=@List.filter_append
abbrev Uq:=@List.length_nil
abbrev Ur:=@List.cons_append
abbrev Us:=@List.any_eq_false
abbrev Ut:=@List.pairwise_append
abbrev Uu:=@Nat.min_eq_left
abbrev Uv:=@Bool.or_eq_true
abbrev Uw:=@Bool.true_and
abbrev Ux:=@Option.getD_some
abbrev Uy:=@Nat.zero_le
abbrev Uz:=@List.take_append_of_le_length
abbrev UA:=@Bool.false_and
abbrev UB:=@Nat.zero_add
abbrev UC:=@List.getElem?_drop
abbrev UD:=@Nat.add_sub_cancel_left
abbrev UE:=@List.length_drop
abbrev UF:=@List.mem_of_mem_take
abbrev UG:=@Option.map_eq_some_iff
abbrev UH:=@List.filter_eq_self
abbrev UI:=@List.flatMap_append
abbrev UJ:=@List.length_set
abbrev UK:=@Nat.mul_one
abbrev UL:=@List.map_append
abbrev UM:=@List.pairwise_flatMap
abbrev UN:=@Nat.lt_of_lt_of_le
abbrev UO:=@Bool.false_or
abbrev UP:=@List.mem_of_getElem?
abbrev UR:=@List.take_take
abbrev US:=@Nat.pow_le_pow_right
abbrev UT:=@List.foldl_cons
abbrev UU:=@List.mergeSort_perm
abbrev UV:=@List.filter_eq_nil_iff
abbrev UW:=@Nat.testBit_two_pow_mul_add
abbrev UX:=@List.take_left
abbrev UY:=@Nat.ble_eq
abbrev UZ:=@List.getElem?_eq_none
abbrev U0:=@List.length_replicate
abbrev U1:=@List.perm_append_comm
abbrev U2:=@Array.getElem?_modify
abbrev U3:=@List.nodup_cons
abbrev U4:=@beq_false_of_ne
abbrev U5:=@List.filter_congr
abbrev U6:=@Int.zero_sub
abbrev U7:=@Nat.lt_irrefl
abbrev U8:=@List.all_cons
abbrev U9:=@Bool.and_true
abbrev Wa:=@Array.toList_append
abbrev Wb:=@Array.length_toList
abbrev Wc:=@List.map_congr_left
abbrev Wd:=@List.drop_take
abbrev We:=@List.drop_drop
abbrev Wf:=@List.drop_append
abbrev Wg:=@decide_eq_decide
abbrev Wh:=@Nat.mod_eq_of_lt
abbrev Wi:=@List.drop_append_of_le_length
abbrev Wj:=@Nat.le_succ
abbrev Wk:=@List.set_cons_succ
abbrev Wl:=@Nat.not_lt_zero
abbrev Wm:=@List.prefix_rfl
abbrev Wn:=@Nat.add_assoc
abbrev Wo:=@List.length_mergeSort
abbrev Wp:=@Array.size_append
abbrev Wq:=@List.flatten_cons
abbrev Wr:=@List.flatMap_cons
abbrev Ws:=@Nat.mul_le_mul
theorem zob{α β:Type}(a:α)(f:α->Option β): (some a).bind f=f a:=rfl
theorem zbf:(false=true)=False:=Bool.false_eq_true
abbrev zD:=List UInt8
abbrev zH (n:Int): Int:=IntKind.i64.wrap n
abbrev len{α:Type}(l:List α): Int:=(l.length:Int)
def zC{α:Type}(l:List α)(i:Int): Option α:=if 0≤i then l[i.toNat]? else none
def xX (l:zD)(i:Int): Option Int:=if 0≤i then(l[i.toNat]?).map (λb=>(b.toNat:Int)) else none
def sub{α:Type}(l:List α)(i j:Int): Option (List α) :=
 if 0≤i∧i≤j∧j≤l.length then some ((l.take j.toNat).drop i.toNat) else none
def qF{α:Type}(l m:List α): Option (List α):=if l.length+m.length<4294967296 then some (l++m) else none
def upd{α:Type}(l:List α)(i:Int)(x:α): Option (List α):=if 0≤i∧i<l.length then some (l.set i.toNat x) else none
def cat (s t:zD): Option zD:=if s.length+t.length<4294967296 then some (s++t) else none
def zY4 (l:List Int): zD:=l.map (λn=>UInt8.ofNat n.toNat)
def uV:zD->zD->Bool
 | _,[]=>false
 | [],_::_=>true
 | a::x,b::y=>a<b||(a==b&&uV x y)
def quo (x y:Int): Option Int:=if y=0 then none else some (zH (x.tdiv y))
def rem (x y:Int): Option Int:=if y=0 then none else some (x.tmod y)
def yI (k:IntKind)(x y:Int): Int:=k.wrap ((BitVec.ofInt k.bits x &&& BitVec.ofInt k.bits y).toNat:Int)
def bor (k:IntKind)(x y:Int): Int:=k.wrap ((BitVec.ofInt k.bits x ||| BitVec.ofInt k.bits y).toNat:Int)
def bxor (k:IntKind)(x y:Int): Int:=k.wrap ((BitVec.ofInt k.bits x ^^^ BitVec.ofInt k.bits y).toNat:Int)
def zSs (k:IntKind)(x y:Int): Int:=k.wrap ((BitVec.ofInt k.bits x &&& ~~~(BitVec.ofInt k.bits y)).toNat:Int)
def shl (k:IntKind)(x y:Int): Int:=k.wrap (x*2 ^ (min y.toNat k.bits))
def xM (k:IntKind)(x y:Int): Int:=x.fdiv (2 ^ (min y.toNat k.bits))
def quoK (k:IntKind)(x y:Int): Option Int:=if y=0 then none else some (k.wrap (x.tdiv y))
def remK (x y:Int): Option Int:=if y=0 then none else some (x.tmod y)
def shlK (k:IntKind)(x y:Int): Option Int:=if y<0 then none else some (shl k x y)
def shrK (k:IntKind)(x y:Int): Option Int:=if y<0 then none else some (xM k x y)
def xU{κ ν:Type}[BEq κ]: List (κ×ν)->κ->Option ν
 | [],_=>none
 | x::r,k=>if k==x.1 then some x.2 else xU r k
def z8t{κ ν:Type}[BEq κ]: List (κ×ν)->κ->ν->List (κ×ν)
 | [],k,v=>[(k,v)]
 | x::r,k,v=>if k==x.1 then(k,v)::r else x::z8t r k v
def vH{σ α:Type}(m:Option (σ⊕α))(k:σ->Option α): Option α :=
 m.bind λo=>match o with
  | .inl s=>k s
  | .inr r=>some r
def zZK{σ ρ:Type}(B:σ->Option (σ⊕ρ)): Nat->σ->Option ρ
 | 0,_=>none
 | n+1,s=>match B s with
  | none=>none
  | some (.inr r)=>some r
  | some (.inl s')=>zZK B n s'
open Classical in
noncomputable def zN{σ ρ:Type}(B:σ->Option (σ⊕ρ))(s:σ): Option ρ :=
 if h:∃ r,∃ n,zZK B n s=some r then some h.choose else none
theorem z4U{σ ρ:Type}{B:σ->Option (σ⊕ρ)}: ∀ {n:Nat} {s:σ} {r:ρ},zZK B n s=some r->∀ m,n≤m->zZK B m s=some r:=by
 intro n
 induction n with
 | zero=>grind [zZK]
 | succ n ih =>
  intro s r h m hm
  obtain⟨k,rfl⟩:∃ k,m=k+1:=⟨m-1,by omega⟩
  grind [zZK]
theorem zMx{σ ρ:Type}{B:σ->Option (σ⊕ρ)}{n:Nat}{s:σ}{r:ρ}(h:zZK B n s=some r): zN B s=some r:=by
 have hex:∃ r,∃ n,zZK B n s=some r:=⟨r,n,h⟩
 unfold zN
 rw[dif_pos hex]
 obtain⟨m,hm⟩:=hex.choose_spec
 have h1:=z4U h (max n m) (by omega)
 have h2:=z4U hm (max n m) (by omega)
 grind
theorem zPP{σ ρ:Type}{B:σ->Option (σ⊕ρ)}{s:σ}{r:ρ}(h:zN B s=some r): ∃ n,zZK B n s=some r:=by
 unfold zN at h
 split at h
 ·grind
 ·cases h
open Classical in
noncomputable def z6A{α:Type}(f:Nat->Option α): Option α :=
 if h:∃ r,∃ n,∀ m,n≤m->f m=some r then some h.choose else none
theorem limM_some{α:Type}{f:Nat->Option α}{r:α}(h:z6A f=some r): ∃ k,f k=some r:=by
 unfold z6A at h
 split at h
 ·rename_i hex
  obtain⟨n,hn⟩:=hex.choose_spec
  exact⟨n,by grind⟩
 ·cases h
theorem zQf{α:Type}{f:Nat->Option α}{r:α}(n:Nat)(h:∀ m,n≤m->f m=some r): z6A f=some r:=by
 have hex:∃ r,∃ n,∀ m,n≤m->f m=some r:=⟨r,n,h⟩
 unfold z6A
 rw[dif_pos hex]
 obtain⟨k,hk⟩:=hex.choose_spec
 rw[←hk (max n k) (by omega),h (max n k) (by omega)]
theorem yF{σ ρ:Type}(B:σ->Option (σ⊕ρ))(s:σ):
  zN B s=match B s with
   | none=>none
   | some (.inr r)=>some r
   | some (.inl s')=>zN B s':=by
 cases hl:zN B s with
 | some r =>
  obtain⟨n,hn⟩:=zPP hl
  cases n with
  | zero=>simp[zZK] at hn
  | succ n =>
   simp only[zZK] at hn
   split at hn
   ·cases hn
   ·grind
   ·exact(zMx hn).symm
 | none =>
  have no:∀ r n,zZK B n s≠some r:=λr n hn=>by grind [zMx]
  cases hb:B s with
  | none=>rfl
  | some o =>
   cases o with
   | inr r=>exact absurd (show zZK B 1 s=some r by simp[zZK,hb]) (no r 1)
   | inl s' =>
    show none=zN B s'
    cases hl':zN B s' with
    | none=>rfl
    | some r =>
     obtain⟨n,hn⟩:=zPP hl'
     exact absurd (show zZK B (n+1) s=some r by simp[zZK,hb,hn]) (no r (n+1))
theorem zO5{σ ρ:Type}{B:σ->Option (σ⊕ρ)}(I:σ->Prop)(μ:σ->Nat)(Q:ρ->Prop)
  (step:∀ s,I s->(∃ s',B s=some (.inl s')∧I s'∧μ s' < μ s)∨(∃ r,B s=some (.inr r)∧Q r)) :
  ∀ s,I s->∃ r,zN B s=some r∧Q r:=by
 have key:∀ n s,μ s=n->I s->∃ r,zN B s=some r∧Q r:=by
  intro n
  induction n using Nat.strongRecOn with
  | _ n ih =>
   intro s hn hI
   rcases step s hI with⟨s',hb,hI',hlt⟩ | ⟨r,hb,hq⟩
   ·obtain⟨r,hr,hq⟩:=ih (μ s') (hn▸hlt) s' rfl hI'
    grind [yF]
   grind [yF]
 grind
def rounds{σ ρ:Type}(B:Int->σ->Option (σ⊕ρ)): Nat->Int->σ->Option (σ⊕ρ)
 | 0,_,s=>some (.inl s)
 | k+1,i,s=>match B i s with
  | none=>none
  | some (.inr r)=>some (.inr r)
  | some (.inl s')=>rounds B k (i+1) s'
def zTe{σ ρ:Type}(n:Int)(B:Int->σ->Option (σ⊕ρ))(s:σ): Option (σ⊕ρ) :=
 if n<9223372036854775808 then rounds B n.toNat 0 s else none
end
section
open Go
abbrev vi (n:Int): Value:=.int .i64 n
abbrev vb (b:Bool): Value:=.bool b
abbrev vs (s:zD): Value:=.string ⟨s.toArray⟩
def vX:List (Nat×Value)->Nat->Option Value
 | [],_=>none
 | (i,v)::r,j=>bif Nat.beq i j then some v else vX r j
structure qL (a:Act)(n:Nat)(S:List (Nat×Value)): Prop where
 defers:a.defers=[]
 size:a.tmps.size=n
 has:∀ i v,vX S i=some v->a.tmps[i]?=some v
theorem qL.put{a:Act}{n:Nat}{S:List (Nat×Value)}(h:qL a n S){d:Nat}(hd:Nat.blt d n=true)(v:Value): qL (a.put (some d) v) n ((d,v)::S):=by
 have hd':d<n:=by simpa [Nat.blt_eq] using hd
 refine⟨h.defers,by simp[Act.put,h.size],λi u hu=>?_⟩
 simp only[vX] at hu
 simp only[Act.put]
 cases hb:Nat.beq d i with
 | true =>
  have:d=i:=Nat.eq_of_beq_eq_true hb
  subst this
  simp only[hb,cond_true,Qg] at hu
  subst hu
  simp[h.size,hd']
 | false =>
  simp only[hb,cond_false] at hu
  have hne:d≠i:=λe=>by simp_all
  rw[Array.getElem?_setIfInBounds_ne hne]
  exact h.has i u hu
theorem qL.getD{a:Act}{n:Nat}{S:List (Nat×Value)}(h:qL a n S){i:Nat}{v:Value}(hl:vX S i=some v): a.tmps.getD i undef=v:=by
 have:=h.has i v hl
 simp[this]
def zYT (S:List (Nat×Value)): List Nat->Option (List (Nat×Value))
 | []=>some []
 | k::ks=>match vX S k,zYT S ks with
  | some v,some r=>some ((k,v)::r)
  | _,_=>none
theorem zXY{S:List (Nat×Value)}: ∀ {ks:List Nat} {S2:List (Nat×Value)},zYT S ks=some S2->∀ i v,vX S2 i=some v->vX S i=some v
 | [],S2,h,i,v,hl=>by grind [zYT,vX]
 | k::ks,S2,h,i,v,hl=>by
  simp only[zYT] at h
  cases hk:vX S k with
  | none=>grind
  | some u =>
   cases hr:zYT S ks with
   | none=>grind
   | some r =>
    simp only[hk,hr,Qg] at h
    subst h
    simp only[vX] at hl
    cases hb:Nat.beq k i with
    | true =>
     simp_all
    | false =>
     simp only[hb,cond_false] at hl
     exact zXY hr i v hl
theorem qL.only{a:Act}{n:Nat}{S:List (Nat×Value)}(h:qL a n S)(S2:List (Nat×Value))(hp:zYT S (S2.map Prod.fst)=some S2): qL a n S2 :=
 ⟨h.defers,h.size,λi v hl=>h.has i v (zXY hp i v hl)⟩
theorem z6y{S2 S:List (Nat×Value)}{i:Nat}: vX (S2++S) i=match vX S2 i with | some v=>some v | none=>vX S i:=by
 induction S2 with
 | nil=>rfl
 | cons p r ih =>
  grind [vX]
def zL (S:List (Nat×Value)): Operand->Option Value
 | .tmp t=>vX S t
 | .const v=>some v
 | .func f=>some (.func (.func f) #[] #[])
 | .global g=>some (.pointer (some ⟨g,0,none⟩))
theorem qL.eval{a:Act}{n:Nat}{S:List (Nat×Value)}(h:qL a n S){x:Operand}{v:Value}(hx:zL S x=some v): a.eval x=v:=by
 cases x with
 | tmp t=>exact h.getD hx
 | const u=>simpa [zL,Act.eval] using hx
 | func f=>simpa [zL,Act.eval] using hx
 | global g=>simpa [zL,Act.eval] using hx
def z8Q (op:BinOp)(k:IntKind)(a b:Int): Option Value :=
 match op with
 | .add=>some (.int k (k.wrap (a+b)))
 | .sub=>some (.int k (k.wrap (a-b)))
 | .mul=>some (.int k (k.wrap (a*b)))
 | .and=>some (.int k (yI k a b))
 | .or=>some (.int k (bor k a b))
 | .xor=>some (.int k (bxor k a b))
 | .andNot=>some (.int k (zSs k a b))
 | .eql=>some (.bool (a==b))
 | .neq=>some (.bool (a != b))
 | .lss=>some (.bool (decide (a<b)))
 | .leq=>some (.bool (decide (a≤b)))
 | .gtr=>some (.bool (decide (b<a)))
 | .geq=>some (.bool (decide (b≤a)))
 | _=>none
def z7b (op:BinOp)(a b:zD): Option Value :=
 match op with
 | .eql=>some (.bool (a==b))
 | .neq=>some (.bool (!(a==b)))
 | .lss=>some (.bool (uV a b))
 | .leq=>some (.bool (uV a b||a==b))
 | .gtr=>some (.bool (!(uV a b||a==b)))
 | .geq=>some (.bool (!(uV a b)))
 | _=>none
def z0o (P:Program)(s:TypeId)(f:Nat): Option Nat :=
 match P.underlying s with
 | some (.struct fs)=>match fs[f]? with
  | some fd=>match (P.info? fd.type).map (·.size) with
   | some (_+1)=>some fd.offset
   | _=>none
  | none=>none
 | _=>none
def vW (P:Program)(t:TypeId): Option (Bool×Nat) :=
 match P.underlying t,(P.info? t).map (·.size) with
 | some (.struct _),some n | some (.array _ _),some n=>some (true,n)
 | some _,some n=>some (false,n)
 | _,_=>none
def partV (P:Program)(t:TypeId)(cs:Array Value)(o:Nat): Option Value :=
 match vW P t with
 | some (true,n)=>some (.agg (cs.extract o (o+n)))
 | some (false,_)=>cs[o]?
 | none=>none
def eqG (P:Program): Nat->Option (List Field)->TypeId->Value->Value->Option Bool
 | 0,_,_,_,_=>none
 | d+1,none,t,x,y=>match P.underlying t,x,y with
  | some .bool,.bool a,.bool b=>some (a==b)
  | some (.int _),.int k a,.int k' b=>if k=k' then some (a==b) else none
  | some .string,.string a,.string b=>some (a.data.toList==b.data.toList)
  | some (.struct fs),.agg xs,.agg ys=>if P.stoodInHeld t then none else eqG P d (some fs.toList) t (.agg xs) (.agg ys)
  | _,_,_=>none
 | _+1,some [],_,_,_=>some true
 | d+1,some (f::fs),t,x,y=>match x,y with
  | .agg xs,.agg ys=>if f.name= "_" then none else
   match partV P f.type xs f.offset,partV P f.type ys f.offset with
   | some a,some b=>match eqG P d none f.type a b with
    | some r=>match fs with
     | []=>some r
     | _::_=>match eqG P d (some fs) t (.agg xs) (.agg ys) with
      | some q=>some (r&&q)
      | none=>none
    | none=>none
   | _,_=>none
  | _,_=>none
def z0Z (P:Program): List Field->Option (List (Nat×Nat))
 | []=>some []
 | f::fs=>match (P.info? f.type).map (·.size),z0Z P fs with
  | some n,some r=>some ((f.offset,n)::r)
  | _,_=>none
def zJX (P:Program)(t:TypeId): Option Value:=(P.info? t).bind (·.zero)
def zXK (S:List (Nat×Value)): List (Nat×Operand)->Option (List (Nat×Value))
 | []=>some []
 | (i,x)::r=>match zL S x,zXK S r with
  | some v,some q=>some ((i,v)::q)
  | _,_=>none
def z8X (S:List (Nat×Value)): List Operand->Option (List Value)
 | []=>some []
 | x::r=>match zL S x,z8X S r with
  | some v,some vs=>some (v::vs)
  | _,_=>none
theorem qL.evals{a:Act}{n:Nat}{S:List (Nat×Value)}(hS:qL a n S): ∀ {xs:List Operand} {vs:List Value},z8X S xs=some vs->xs.map a.eval=vs
 | [],vs,h=>by simpa [z8X] using h
 | x::r,vs,h=>by
  simp only[z8X] at h
  split at h
  ·rename_i v us hx hr
   simp only[Qg] at h
   rw[←h,Ug,hS.eval hx,hS.evals hr]
  ·cases h
def z2B (op:BinOp)(k:IntKind)(a b:Int): Option Value :=
 match op with
 | .shl=>if 0≤b then some (.int k (shl k a b)) else none
 | .shr=>if 0≤b then some (.int k (xM k a b)) else none
 | _=>none
theorem zT1{P:Program}{w:World}{op:BinOp}{k k':IntKind}{a b:Int}{t:TypeId}{v:Value}(h:z2B op k a b=some v):
  (binOp op t (.int k a) (.int k' b)).run P w=.ok v w:=by
 cases op <;> simp only[z2B,reduceCtorEq] at h <;> split at h <;> simp at h <;> subst h <;> rename_i h0 <;>
  simp[binOp,Op.shift,shl,xM,show ¬ b<0 by omega]
def pv (P:Program)(S:List (Nat×Value)): Op->Option Value
 | .move x | .assign x=>zL S x
 | .pick c a b=>match zL S c with
  | some (.bool true)=>zL S a
  | some (.bool false)=>zL S b
  | _=>none
 | .binOp op t x y _=>match zL S x,zL S y with
  | some (.int k a),some (.int k' b)=>if k=k' then(match z8Q op k a b with | some v=>some v | none=>z2B op k a b) else z2B op k a b
  | some (.string a),some (.string b)=>z7b op a.data.toList b.data.toList
  | some (.bool a),some (.bool b)=>match P.underlying t,op with
   | some .bool,.eql=>some (.bool (a==b))
   | some .bool,.neq=>some (.bool (!(a==b)))
   | _,_=>none
  | some (.agg xs),some (.agg ys)=>if P.eqGuardType P.depth t then none else match op,eqG P 50 none t (.agg xs) (.agg ys) with
   | .eql,some b=>some (.bool b)
   | .neq,some b=>some (.bool (!b))
   | _,_=>none
  | _,_=>none
 | .build t parts=>match P.underlying t with
  | some (.struct fs)=>match z0Z P fs.toList,zJX P t,zXK S parts.toList with
   | some ps,some z,some vs=>(Instr.fill (ps[·]?) z.cells vs).map .agg
   | _,_,_=>none
  | _=>none
 | .unOp .not _ x=>match zL S x with
  | some (.bool b)=>some (.bool (!b))
  | _=>none
 | .unOp .neg _ x=>match zL S x with
  | some (.int k n)=>some (.int k (k.wrap (0-n)))
  | _=>none
 | .convert s d x=>match P.underlying d,zL S x,P.underlying s with
  | some (.int k),some (.int _ n),some _=>some (.int k (k.wrap n))
  | some .string,some (.string v),some .string=>some (.string v)
  | _,_,_=>none
 | .extract x i=>match zL S x with
  | some (.tuple vs)=>vs[i]?
  | _=>none
 | .nilCheck x=>match zL S x with
  | some (.pointer (some a))=>some (.pointer (some a))
  | _=>none
 | .fieldAddr s x f=>match zL S x,z0o P s f with
  | some (.pointer (some ⟨b,o,none⟩)),some off=>some (.pointer (some ⟨b,o+off,none⟩))
  | _,_=>none
 | .makeFunc fn x y=>match z8X S x.toList,z8X S y.toList with
  | some us,some vs=>some (.func fn us.toArray vs.toArray)
  | _,_=>none
 | .unOp .xor _ x=>match zL S x with
  | some (.int k n)=>some (.int k (bxor k (if k.signed then -1 else k.max) n))
  | _=>none
 | .call c=>match c.callee,c.args.toList,c.argTypes.toList with
  | .builtin .len,[x],[t]=>match zL S x,P.underlying t with
   | some (.string s),some .string=>some (vi (s.data.toList.length:Int))
   | some (.slice _ n _),some (.slice _)=>some (vi (n:Int))
   | _,_=>none
  | .builtin .min,[x,y],_=>match zL S x,zL S y with
   | some (.int k a),some (.int _ b)=>some (.int k (if b<a then b else a))
   | _,_=>none
  | .builtin .max,[x,y],_=>match zL S x,zL S y with
   | some (.int k a),some (.int _ b)=>some (.int k (if b > a then b else a))
   | _,_=>none
  | _,_,_=>none
 | _=>none
theorem z7v:∀ a b:zD,Op.bytesLess a b=uV a b
 | a,[]=>by cases a <;> rfl
 | [],_::_=>rfl
 | a::x,b::y=>by simp only[Op.bytesLess,uV,z7v x y]
theorem zHg{P:Program}{w:World}(op:BinOp)(k k':IntKind)(a b:Int)(t:TypeId)(x y:Operand): (eqGuard op t x y (.int k a) (.int k' b)).run P w=.ok () w:=by
 unfold eqGuard
 split <;> rfl
theorem zVq{P:Program}{w:World}(op:BinOp)(a b:ByteArray)(t:TypeId)(x y:Operand): (eqGuard op t x y (.string a) (.string b)).run P w=.ok () w:=by
 unfold eqGuard
 split <;> rfl
theorem zUH{P:Program}{w:World}(op:BinOp)(a b:Bool)(t:TypeId)(x y:Operand): (eqGuard op t x y (.bool a) (.bool b)).run P w=.ok () w:=by
 unfold eqGuard
 split <;> rfl
theorem z9o{P:Program}{w:World}{op:BinOp}{k:IntKind}{a b:Int}{t:TypeId}{v:Value}(h:z8Q op k a b=some v):
  (binOp op t (.int k a) (.int k b)).run P w=.ok v w:=by
 cases op <;> simp[z8Q] at h <;> subst h <;> simp[binOp,Op.intArith,Op.intBits,Op.intCmp,yI,bor,bxor,zSs]
theorem zWG (a:ByteArray): a.toList=a.data.toList:=ByteArray.toList_eq a
theorem z8l{P:Program}{w:World}{op:BinOp}{a b:ByteArray}{t:TypeId}{v:Value}(h:z7b op a.data.toList b.data.toList=some v):
  (binOp op t (.string a) (.string b)).run P w=.ok v w:=by
 cases op <;> simp[z7b] at h <;> subst h <;> simp[binOp,Op.stringOp,z7v,zWG]
theorem z6H{P:Program}{w:World}{s f off b o:Nat}(h:z0o P s f=some off):
  (Instr.fieldAt s (.pointer (some ⟨b,o,none⟩)) f).run P w=.ok (.pointer (some ⟨b,o+off,none⟩)) w:=by
 unfold z0o at h
 split at h
 ·rename_i fs hu
  split at h
  ·rename_i fd hf
   split at h
   ·rename_i n hn
    simp only[Qg] at h
    subst h
    have hsz:(sizeOf fd.type).run P w=.ok (n+1) w:=by
     cases hq:P.info? fd.type with
     | none=>grind
     | some i =>
      have:i.size=n+1:=by simpa [hq] using hn
      simp[sizeOf,typeInfo,hq,this]
    have hadd:(⟨b,o,none⟩:Addr).add fd.offset=⟨b,o+fd.offset,none⟩:=by unfold Addr.add;split <;> simp_all
    simp[Instr.fieldAt,run_underlying hu,hf,Instr.sureAddr,fieldPlace,hsz,hadd]
   ·cases h
  ·cases h
 ·cases h
theorem zJ7{P:Program}{w:World}{t:TypeId}{b:Bool}{n:Nat}(h:vW P t=some (b,n)): (isAgg t).run P w=.ok b w∧(sizeOf t).run P w=.ok n w:=by
 unfold vW at h
 have hsz:∀ m,(P.info? t).map (·.size)=some m->(sizeOf t).run P w=.ok m w:=by
  intro m hm
  cases hq:P.info? t with
  | none=>grind
  | some i =>
   have:i.size=m:=by simpa [hq] using hm
   simp[sizeOf,typeInfo,hq,this]
 split at h
 ·rename_i fs m hu hm
  simp only[Qg,Prod.mk.injEq] at h
  obtain⟨rfl,rfl⟩:=h
  exact⟨by simp[isAgg,run_underlying hu],hsz _ hm⟩
 ·rename_i x y m hu hm
  simp only[Qg,Prod.mk.injEq] at h
  obtain⟨rfl,rfl⟩:=h
  exact⟨by simp[isAgg,run_underlying hu],hsz _ hm⟩
 ·rename_i d m hn1 hn2 hu hm
  simp only[Qg,Prod.mk.injEq] at h
  obtain⟨rfl,rfl⟩:=h
  refine⟨?_,hsz _ hm⟩
  simp only[isAgg,Sem.run_bind,run_underlying hu,Result.andThen_ok]
  simp_all
 ·cases h
theorem zQK{P:Program}{t:TypeId}{z:Value}(h:zJX P t=some z)(w:World): (zeroValue t).run P w=.ok z w:=by
 unfold zJX at h
 cases hq:P.info? t with
 | none=>grind
 | some i =>
  simp only[hq,zob] at h
  simp[zeroValue,typeInfo,hq,h]
theorem zSW{P:Program}{w:World}{t:TypeId}{cs:Array Value}{o:Nat}{v:Value}(h:partV P t cs o=some v): (part t cs o).run P w=.ok v w:=by
 unfold partV at h
 split at h
 ·rename_i n hs
  obtain⟨h1,h2⟩:=zJ7 (w:=w) hs
  simp only[Qg] at h
  subst h
  simp[part,h1,h2]
 ·rename_i n hs
  obtain⟨h1,h2⟩:=zJ7 (w:=w) hs
  simp[part,h1,h]
 ·cases h
theorem z61{P:Program}{w:World}: ∀(d:Nat),
  (∀(t:TypeId) (x y:Value) (b:Bool),eqG P d none t x y=some b->∀ D,d≤D->(Op.equalIn D t x y).run P w=.ok b w) ∧
  (∀(fs:List Field) (t:TypeId) (xs ys:Array Value) (b:Bool),eqG P d (some fs) t (.agg xs) (.agg ys)=some b->∀ D,d≤D->(Op.eqFields D xs ys fs).run P w=.ok b w)
 | 0=>⟨λt x y b h=>by simp[eqG] at h,λfs t xs ys b h=>by simp[eqG] at h⟩
 | d+1=>by
  obtain⟨ih1,ih2⟩:=z61 (P:=P) (w:=w) d
  refine⟨λt x y b h D hD=>?_,λfs t xs ys b h D hD=>?_⟩
  ·obtain⟨D',rfl⟩:∃ D',D=D' + 1:=⟨D-1,by omega⟩
   simp only[eqG] at h
   grind [run_equalIn_bool',run_equalIn_int,run_equalIn_string,zWG,Program.fieldsOf,run_equalIn_struct]
  ·cases fs with
   | nil =>
    simp only[eqG,Qg] at h
    subst h
    simp[Op.eqFields]
   | cons f fs =>
    simp only[eqG] at h
    split at h
    ·cases h
    ·rename_i hn
     split at h
     ·rename_i u v hu hv
      split at h
      ·rename_i r hr
       have hrun:=ih1 f.type u v r hr D (by omega)
       split at h
       ·simp only[Qg] at h
        subst h
        simp only[Op.eqFields,ne_eq,hn,not_false_eq_true,Qf,Sem.run_bind,zSW hu,zSW hv,Result.andThen_ok,hrun]
        cases r <;> simp
       ·split at h
        ·rename_i q hq
         simp only[Qg] at h
         subst h
         have hrest:=ih2 _ t xs ys q hq D (by omega)
         simp only[Op.eqFields] at hrest
         simp only[Op.eqFields,ne_eq,hn,not_false_eq_true,Qf,Sem.run_bind,zSW hu,zSW hv,Result.andThen_ok,hrun]
         cases r
         ·simp
         grind
        ·cases h
      ·cases h
     ·cases h
theorem z4h{P:Program}{w:World}: ∀ {fs:List Field} {ps:List (Nat×Nat)},z0Z P fs=some ps->(fs.mapM (λf=>do pure (f.offset,←sizeOf f.type):Field->Sem (Nat×Nat))).run P w=.ok ps w
 | [],ps,h=>by simp only[z0Z,Qg] at h;subst h;simp
 | f::fs,ps,h=>by
  simp only[z0Z] at h
  split at h
  ·rename_i n r hn hr
   simp only[Qg] at h
   subst h
   have hsz:(sizeOf f.type).run P w=.ok n w:=by
    cases hq:P.info? f.type with
    | none=>grind
    | some i =>
     have:i.size=n:=by simpa [hq] using hn
     simp[sizeOf,typeInfo,hq,this]
   have ih:=z4h (w:=w) hr
   simp_all
  ·cases h
theorem qL.parts{a:Act}{n:Nat}{S:List (Nat×Value)}(hS:qL a n S): ∀ {ps:List (Nat×Operand)} {vs:List (Nat×Value)},zXK S ps=some vs->ps.map (λ(i,x)=>(i,a.eval x))=vs
 | [],vs,h=>by simpa [zXK] using h
 | (i,x)::r,vs,h=>by
  simp only[zXK] at h
  split at h
  ·rename_i v q hx hr
   simp only[Qg] at h
   rw[←h,Ug,hS.parts hr]
   show(i,a.eval x)::q=(i,v)::q
   rw[hS.eval hx]
  ·cases h
theorem z2D{P:Program}{a:Act}{n:Nat}{S:List (Nat×Value)}(hS:qL a n S){op:Op}{v:Value}(h:pv P S op=some v)
  (d:Option Tmp) (ty:TypeId) (pos:String) (af:Array Edge) (g:Option (Nat×Bool)) (w:World) :
  (execOp a.eval ⟨d,op,ty,pos,af,g⟩).run P w=.ok (.value v) w:=by
 cases op with
 | move x=>simp only[pv] at h;simp[execOp,hS.eval h]
 | assign x=>simp only[pv] at h;simp[execOp,hS.eval h]
 | pick c x y =>
  simp only[pv] at h
  split at h
  ·rename_i hc;simp[execOp,hS.eval hc,asBool,hS.eval h]
  ·rename_i hc;simp[execOp,hS.eval hc,asBool,hS.eval h]
  ·cases h
 | binOp op t x y u =>
  simp only[pv] at h
  split at h
  ·rename_i k p k' q hx hy
   split at h
   ·rename_i hk
    subst hk
    split at h
    ·rename_i v' hv
     simp only[Qg] at h
     subst h
     simp[execOp,hS.eval hx,hS.eval hy,zHg,z9o hv]
    ·simp[execOp,hS.eval hx,hS.eval hy,zHg,zT1 h]
   ·simp[execOp,hS.eval hx,hS.eval hy,zHg,zT1 h]
  ·rename_i p q hx hy
   simp[execOp,hS.eval hx,hS.eval hy,zVq,z8l h]
  ·rename_i p q hx hy
   split at h
   ·rename_i hu
    simp only[Qg] at h
    subst h
    simp[execOp,hS.eval hx,hS.eval hy,zUH,run_eql_bool w t p q hu]
   ·rename_i hu
    simp only[Qg] at h
    subst h
    simp[execOp,hS.eval hx,hS.eval hy,zUH,run_neq_bool w t p q hu]
   ·cases h
  ·rename_i xs ys hx hy
   split at h
   ·cases h
   ·rename_i hgd
    have hgd':P.eqGuardType P.depth t=false:=by simpa using hgd
    split at h
    ·rename_i r hr
     simp only[Qg] at h
     subst h
     have:=(z61 (P:=P) (w:=w) 50).1 t _ _ r hr 10000 (by omega)
     simp[execOp,hS.eval hx,hS.eval hy,run_eqGuard_agg w _ t x y xs ys hgd',run_eql_struct,this]
    ·rename_i r hr
     simp only[Qg] at h
     subst h
     have:=(z61 (P:=P) (w:=w) 50).1 t _ _ r hr 10000 (by omega)
     simp[execOp,hS.eval hx,hS.eval hy,run_eqGuard_agg w _ t x y xs ys hgd',run_neq_struct,this]
    ·cases h
  ·cases h
 | build t parts =>
  simp only[pv] at h
  split at h
  ·rename_i fs hu
   split at h
   ·rename_i ps z vs hps hz hvs
    simp only[UG] at h
    obtain⟨cells,hfill,rfl⟩:=h
    have h1:=z4h (w:=w) hps
    simp only[bind_pure_comp] at h1
    have h2:=hS.parts hvs
    have h3:=zQK hz w
    simp only[execOp,Instr.build,Sem.run_bind,h3,Result.andThen_ok,run_underlying hu,Array.mapM_eq_mapM_toList,bind_pure_comp,Sem.run_map,h1]
    simp_all
   ·cases h
  ·cases h
 | unOp op t x =>
  cases op with
  | not =>
   simp only[pv] at h
   split at h
   ·rename_i b hx
    simp only[Qg] at h
    subst h
    simp[execOp,hS.eval hx,Op.unary]
   ·cases h
  | neg =>
   simp only[pv] at h
   split at h
   ·rename_i k m hx
    simp only[Qg] at h
    subst h
    simp[execOp,hS.eval hx,Op.unary,Op.intArith]
   ·cases h
  | xor =>
   simp only[pv] at h
   split at h
   ·rename_i k m hx
    simp only[Qg] at h
    subst h
    simp[execOp,hS.eval hx,Op.unary,Op.intBits,bxor]
   ·cases h
  | _=>simp[pv] at h
 | convert s t x =>
  simp only[pv] at h
  split at h
  ·rename_i k k' m ds hu hx hs
   simp only[Qg] at h
   subst h
   simp[execOp,convert,hS.eval hx,run_underlying hu,run_underlying hs,Conv.intToInt]
  ·rename_i u hu hx hs
   simp only[Qg] at h
   subst h
   simp[execOp,convert,hS.eval hx,run_underlying hu,run_underlying hs]
  ·cases h
 | extract x i =>
  simp only[pv] at h
  split at h
  ·rename_i us hx
   simp[execOp,hS.eval hx,Instr.extract,h]
  ·cases h
 | nilCheck x =>
  simp only[pv] at h
  split at h
  ·rename_i u hx
   simp only[Qg] at h
   subst h
   simp[execOp,hS.eval hx]
  ·cases h
 | fieldAddr s x f =>
  simp only[pv] at h
  split at h
  ·rename_i b o off hx hf
   simp only[Qg] at h
   subst h
   simp[execOp,hS.eval hx,z6H hf]
  ·cases h
 | makeFunc fn x y =>
  simp only[pv] at h
  split at h
  ·rename_i us vs hx hy
   simp only[Qg] at h
   subst h
   have h1:=hS.evals hx
   have h2:=hS.evals hy
   have e1:x.map a.eval=us.toArray:=by rw[←h1];exact Array.toList_inj.1 (by simp)
   have e2:y.map a.eval=vs.toArray:=by rw[←h2];exact Array.toList_inj.1 (by simp)
   simp[execOp,Instr.makeFunc,e1,e2]
  ·cases h
 | call c =>
  obtain⟨cal,args,ats⟩:=c
  simp only[pv] at h
  split at h
  ·rename_i x t h2 h3
   obtain⟨args⟩:=args
   obtain⟨ats⟩:=ats
   have h2:args=[x]:=h2
   have h3:ats=[t]:=h3
   subst h2 h3
   split at h
   ·rename_i s hx hu
    simp only[Qg] at h
    subst h
    simp[execOp,resolve,invoke,builtin,Builtin.len_,hS.eval hx,run_underlying hu,goInt]
   ·rename_i b m c e hx hu
    simp only[Qg] at h
    subst h
    simp[execOp,resolve,invoke,builtin,Builtin.len_,hS.eval hx,run_underlying hu,goInt]
   ·cases h
  ·rename_i ts x y h2
   obtain⟨args⟩:=args
   have h2:args=[x,y]:=h2
   subst h2
   split at h
   ·rename_i k p k' q hx hy
    simp only[Qg] at h
    subst h
    simp[execOp,resolve,invoke,builtin,Builtin.min_,Builtin.min2,hS.eval hx,hS.eval hy]
   ·cases h
  ·rename_i ts x y h2
   obtain⟨args⟩:=args
   have h2:args=[x,y]:=h2
   subst h2
   split at h
   ·rename_i k p k' q hx hy
    simp only[Qg] at h
    subst h
    simp[execOp,resolve,invoke,builtin,Builtin.max_,Builtin.max2,hS.eval hx,hS.eval hy]
   ·cases h
  ·cases h
 | _=>simp[pv] at h
section
variable {P:Program}{ops:Array Oper}{Q:Exit->Act->World->Prop}{a:Act}{n:Nat}{S:List (Nat×Value)}{w:World}{rest:List Oper}
def zS (ops:Array Oper)(S:List (Nat×Value))(g:Option (Nat×Bool)): Option Bool :=
 match g with
 | none=>some true
 | some (j,b)=>match ops[j]? with
  | none=>none
  | some o=>match o.dst with
   | none=>none
   | some d=>match vX S d with
    | some (.bool c)=>some (c==b)
    | some (.tuple _)=>some false
    | _=>none
theorem zGr (hS:qL a n S){o:Oper}{b:Bool}(h:zS ops S o.guard=some b): Region.wanted o (yielded ops a.tmps)=b:=by
 unfold zS at h
 unfold Region.wanted
 split at h
 ·grind
 ·rename_i j c hg
  rw[hg]
  split at h
  ·cases h
  ·rename_i oj hj
   split at h
   ·cases h
   ·rename_i d hd
    split at h
    ·rename_i u hu
     simp only[Qg] at h
     have hv:=hS.has d _ hu
     simp only[yielded,hj,zob,hd,hv]
     simp_all
    ·rename_i u hu
     simp only[Qg] at h
     have hv:=hS.has d _ hu
     grind [yielded]
    ·cases h
def zO1 (P:Program)(ops:Array Oper): List Oper->List (Nat×Value)->Option (List (Nat×Value))
 | [],S=>some S
 | o::r,S=>match o.dst with
  | none=>none
  | some d=>match zS ops S o.guard with
   | some true=>match pv P S o.op with
    | some v=>zO1 P ops r ((d,v)::S)
    | none=>none
   | some false=>zO1 P ops r ((d,undef)::S)
   | none=>none
def z3k:List Oper->List Nat
 | []=>[]
 | o::r=>match o.dst with
  | some d=>d::z3k r
  | none=>z3k r
def z5i (n:Nat)(S2 S:List (Nat×Value)): List Nat->Bool
 | []=>true
 | d::r=>Nat.blt d n&&((vX S2 d).isSome||(vX S d).isNone)&&z5i n S2 S r
theorem zSp{o:Oper}{v:Value}{w':World}(hg:zS ops S o.guard=some true)(hS:qL a n S)(hr:(execOp a.eval o).run P w=.ok (.value v) w')
  (k:wpList P ops Q rest (a.put o.dst v) w'):wpList P ops Q (o::rest) a w:=by
 unfold wpList
 rw[Ql (zGr hS hg)]
 refine .inl ?_
 unfold Oper.wp
 rw[hr]
 exact k
theorem zVM{o:Oper}(hg:zS ops S o.guard=some false)(hS:qL a n S)
  (k:wpList P ops Q rest (a.put o.dst undef) w):wpList P ops Q (o::rest) a w:=by
 unfold wpList
 rw[Qi (by rw[zGr hS hg];simp)]
 exact k
theorem zQh:∀(l:List Oper) (a:Act) (S S':List (Nat×Value)),qL a n S->zO1 P ops l S=some S'->(z3k l).all (λd=>Nat.blt d n)=true->
  (∀ a',qL a' n S'->wpList P ops Q rest a' w)->wpList P ops Q (l++rest) a w
 | [],a,S,S',hS,h,_,k=>by
  grind [zO1]
 | o::l,a,S,S',hS,h,hd,k=>by
  simp only[zO1] at h
  split at h
  ·cases h
  ·rename_i d hod
   simp only[z3k,hod,U8,QA] at hd
   split at h
   ·rename_i hg
    split at h
    ·rename_i v hv
     refine zSp (v:=v) (w':=w) hg hS (z2D hS hv _ _ _ _ _ w) ?_
     rw[hod]
     exact zQh l _ _ S' (hS.put hd.1 v) h hd.2 k
    ·cases h
   ·rename_i hg
    refine zVM hg hS ?_
    rw[hod]
    exact zQh l _ _ S' (hS.put hd.1 undef) h hd.2 k
   ·cases h
theorem zUn:∀ {l:List Oper} {S S':List (Nat×Value)},zO1 P ops l S=some S'->∀ i,i∉z3k l->vX S' i=vX S i
 | [],S,S',h,i,_=>by grind [zO1]
 | o::l,S,S',h,i,hi=>by
  simp only[zO1] at h
  split at h
  ·cases h
  ·rename_i d hod
   simp only[z3k,hod,Qw,not_or] at hi
   have hb:Nat.beq d i=false:=by
    cases hb:Nat.beq d i with
    | false=>rfl
    | true=>simp_all
   split at h
   ·split at h
    ·rw[zUn h i hi.2];simp[vX,hb]
    ·cases h
   ·rw[zUn h i hi.2];simp[vX,hb]
   ·cases h
theorem zZj{S2 S:List (Nat×Value)}: ∀ {ds:List Nat},z5i n S2 S ds=true->(ds.all (λd=>Nat.blt d n)=true)∧∀ d∈ds,(vX S2 d).isSome∨vX S d=none
 | [],_=>⟨rfl,λ_ h=>by cases h⟩
 | d::r,h=>by
  simp only[z5i,QA,Uv,Option.isNone_iff_eq_none] at h
  obtain⟨⟨h1,h2⟩,h3⟩:=h
  obtain⟨i1,i2⟩:=zZj h3
  grind
theorem pure_run (m:Nat)(S2:List (Nat×Value)){l:List Oper}(hS:qL a n S)
  (hr:(zO1 P ops (l.take m) S).bind (λs=>zYT s (S2.map Prod.fst))=some S2) (hd:z5i n S2 S (z3k (l.take m))=true)
  (k:∀ a',qL a' n (S2++S)->wpList P ops Q (l.drop m) a' w):wpList P ops Q l a w:=by
 cases hp:zO1 P ops (l.take m) S with
 | none=>grind
 | some S' =>
  simp only[hp,zob] at hr
  obtain⟨hd1,hd2⟩:=zZj hd
  rw[←QG m l]
  refine zQh _ a S S' hS hp hd1 λa' hS'=>k a' ⟨hS'.defers,hS'.size,λi v hl=>?_⟩
  rw[z6y] at hl
  split at hl
  ·rename_i u hu
   simp only[Qg] at hl
   subst hl
   exact hS'.has i _ (zXY hr i _ hu)
  ·rename_i hu
   by_cases hi:i∈z3k (l.take m)
   ·grind
   ·exact hS'.has i v (by rw[zUn hp i hi];exact hl)
theorem ops_end (h:Q .normal a w): wpList P ops Q [] a w:=h
def vD (P:Program)(ops:Array Oper)(Q:Exit->Act->World->Prop)(o:Oper)(K:Act->World->Prop)(a:Act)(w:World): Prop :=
 if Region.wanted o (yielded ops a.tmps) then o.wp P a w K Q else K (a.put o.dst undef) w
theorem sl{o:Oper}(h:vD P ops Q o (wpList P ops Q rest) a w): wpList P ops Q (o::rest) a w:=by
 unfold vD at h
 unfold wpList
 grind
theorem tE{d:Nat}{op:Op}{ty:TypeId}{pos:String}{af:Array Edge}{g:Option (Nat×Bool)}{v:Value}{w':World}{K:Act->World->Prop}
  (hS:qL a n S) (hd:Nat.blt d n=true) (hg:zS ops S g=some true) (hr:(execOp a.eval ⟨some d,op,ty,pos,af,g⟩).run P w=.ok (.value v) w')
  (k:∀ a',qL a' n ((d,v)::S)->K a' w'):vD P ops Q ⟨some d,op,ty,pos,af,g⟩ K a w:=by
 unfold vD
 rw[Ql (zGr (o:=⟨some d,op,ty,pos,af,g⟩) hS hg)]
 unfold Oper.wp
 rw[hr]
 exact k _ (hS.put hd v)
theorem z2f{op:Op}{ty:TypeId}{pos:String}{af:Array Edge}{g:Option (Nat×Bool)}{w':World}{K:Act->World->Prop}
  (hS:qL a n S) (hg:zS ops S g=some true) (hr:(execOp a.eval ⟨none,op,ty,pos,af,g⟩).run P w=.ok .skip w')
  (k:∀ a',qL a' n S->K a' w'):vD P ops Q ⟨none,op,ty,pos,af,g⟩ K a w:=by
 unfold vD
 rw[Ql (zGr (o:=⟨none,op,ty,pos,af,g⟩) hS hg)]
 unfold Oper.wp
 rw[hr]
 exact k a hS
def Ret (R:Value->World->Prop): Ending->World->Prop
 | .returned v,w=>R v w
 | _,_=>False
theorem qL.upd (hS:qL a n S){t:Nat}{v v':Value}(hl:vX S t=some v)(e:v=v'): qL a n ((t,v')::S):=by
 subst e
 refine⟨hS.defers,hS.size,λi u hu=>?_⟩
 simp only[vX] at hu
 cases hb:Nat.beq t i with
 | true =>
  have:t=i:=Nat.eq_of_beq_eq_true hb
  subst this
  simp only[hb,cond_true,Qg] at hu
  subst hu
  exact hS.has _ _ hl
 | false =>
  simp only[hb,cond_false] at hu
  exact hS.has i u hu
end
section
variable {P:Program}{Q:Exit->Act->World->Prop}{a:Act}{w:World}{n:Nat}{S:List (Nat×Value)}
theorem then_n{K:Act->World->Prop}(h:K a w): Exit.then K Q .normal a w:=h
theorem inb_hit{id:Nat}(h:Q .normal a w): Exit.inBlock id Q (.exit id) a w:=by simpa [Exit.inBlock] using h
theorem inb_miss{id id':Nat}(hne:Nat.beq id' id=false)(h:Q (.exit id') a w): Exit.inBlock id Q (.exit id') a w:=by grind [Nat.beq_refl,Exit.inBlock]
theorem seq_j{x y:Code}(J:Act->World->Prop)(hx:x.wp P (Exit.then J Q) a w)(hy:∀ a w,J a w->y.wp P Q a w): (Code.seq x y).wp P Q a w :=
 wp_seq (wp_mono hx λe a w h=>by cases e <;> first | exact hy a w h | exact h)
theorem z5A{c:Operand}{x y:Code}{t:Bool}(hS:qL a n S)(hc:zL S c=some (.bool t))
  (ht:t=true->x.wp P Q a w) (hf:t=false->y.wp P Q a w):(Code.cond c x y).wp P Q a w :=
 wp_cond_split (hS.eval hc) ht hf
theorem reg{id:Nat}{l:List Oper}(h:wpList P l.toArray Q l a w): (Code.region id l.toArray false).wp P Q a w:=wp_region_lit h
theorem code_j{c:Code}(J:Act->World->Prop)(h:c.wp P (Exit.then J Q) a w)(hj:∀ a w,J a w->Q .normal a w): c.wp P Q a w :=
 wp_mono h λe a w h=>by cases e <;> first | exact hj a w h | exact h
def LoopPost{σ ρ:Type}(Inv:σ->Act->World->Prop)(Q:Exit->Act->World->Prop)(o:σ⊕ρ): Exit->Act->World->Prop
 | .normal,a,w=>∃ s,o=.inl s∧Inv s a w
 | e,a,w=>Q e a w
theorem loop_m{σ ρ:Type}{c:Code}{B:σ->Option (σ⊕ρ)}(Inv:σ->Act->World->Prop){r:ρ}{s:σ}(hm:zN B s=some r)(h0:Inv s a w)
  (step:∀ s a w o,Inv s a w->B s=some o->(∀ r',o=.inr r'->r=r')->c.wp P (LoopPost Inv Q o) a w):(Code.loop c).wp P Q a w:=by
 obtain⟨k,hk⟩:=zPP hm
 let good:Nat->Act->World->Prop:=λm a w=>∃ s,zZK B m s=some r∧Inv s a w
 have hgood:good k a w:=⟨s,hk,h0⟩
 intro b kk cs
 have key:∀ m a w,good m a w->∃ e a' w',Q e a' w'∧Arrives P (lone (b.at a (.code c::.inLoop c::kk)) cs w) b kk cs e a' w':=by
  intro m
  induction m with
  | zero=>grind [zZK]
  | succ m ih =>
   rintro a w ⟨s,hs,hI⟩
   simp only[zZK] at hs
   cases hb:B s with
   | none=>grind
   | some o =>
    have hst:=step s a w o hI hb (λr' he=>by grind)
    obtain⟨e,a₁,w₁,hq,harr⟩:=hst b (.inLoop c::kk) cs
    cases e with
    | normal =>
     obtain⟨s',rfl,hI'⟩:=hq
     simp only[hb] at hs
     obtain⟨e₂,a₂,w₂,hq₂,harr₂⟩:=ih a₁ w₁ ⟨s',hs,hI'⟩
     exact⟨e₂,a₂,w₂,hq₂,.of_steps (Steps.trans harr (.one step_inLoop)) harr₂⟩
    | exit id=>exact⟨_,a₁,w₁,hq,.pass (x:=.inLoop c) rfl (λ_ _=>.inl (by simp)) harr⟩
    | goto l=>exact⟨_,a₁,w₁,hq,.pass (x:=.inLoop c) rfl (λ_ _=>.inl (by simp)) harr⟩
    | ret=>exact⟨_,a₁,w₁,hq,.pass (x:=.inLoop c) rfl (λ_ _=>.inl (by simp)) harr⟩
    | panic ch=>exact⟨_,a₁,w₁,hq,.pass (x:=.inLoop c) rfl (λ_ _=>.inl (by simp)) harr⟩
    | outgrown=>exact⟨_,a₁,w₁,hq,.pass (x:=.inLoop c) rfl (λ_ _=>.inl (by simp)) harr⟩
 obtain⟨e,a',w',hq,harr⟩:=key k a w hgood
 exact⟨e,a',w',hq,.of_steps (.one step_loop) harr⟩
theorem ret1{fn:Func}{t:Nat}{R:Value->World->Prop}{v:Value}(hS:qL a n S)(hf:fn.results=#[.tmp t])(hv:vX S t=some v)(hR:R v w):
  bodyPost P fn (Ret R) .ret a w :=
 ⟨hS.defers,v,by rw[results_tmp hf,hS.getD hv],hR⟩
def zRJ:List Value->Nat->List (Nat×Value)
 | [],_=>[]
 | v::r,i=>(i,v)::zRJ r (i+1)
theorem zVo:∀(vs:List Value) (k i:Nat) (v:Value),vX (zRJ vs k) i=some v->k≤i∧vs[i-k]?=some v
 | [],k,i,v,h=>by simp[zRJ,vX] at h
 | u::r,k,i,v,h=>by
  simp only[zRJ,vX] at h
  cases hb:Nat.beq k i with
  | true =>
   simp_all
  | false =>
   simp only[hb,cond_false] at h
   obtain⟨h1,h2⟩:=zVo r (k+1) i v h
   grind
theorem enter{f:FuncId}{fn:Func}{c:Code}{vs:List Value}{R:Ending->World->Prop}(hf:P.funcs[f]?=some fn)(hb:fn.body=some c)(hn:Nat.ble vs.length fn.ntmps=true)
  (h:∀ a,qL a fn.ntmps (zRJ vs 0)->c.wp P (bodyPost P fn R) a w):Calls P f vs.toArray w R:=by
 refine calls_of_wp hf hb (h _ ⟨rfl,?_,λi v hl=>?_⟩)
 ·simp_all
 ·obtain⟨_,h2⟩:=zVo vs 0 i v hl
  grind
end
end
section
open Go Go.RowKit
variable {qd:Prop}
abbrev zJ:=List (Nat×Obj)
def bl:List zJ->List Nat
 | []=>[]
 | r::rs=>r.map Prod.fst++bl rs
theorem zMM{Ls:List zJ}{b:Nat}: b∈bl Ls↔∃ r∈Ls,∃ p∈r,p.1=b:=by
 induction Ls with
 | nil=>simp[bl]
 | cons r rs ih=>simp[bl,ih]
theorem zDX (L M:List zJ): bl (L++M)=bl L++bl M:=by
 induction L with
 | nil=>rfl
 | cons r rs ih=>simp[bl,ih]
structure zZ (A:List Nat)(w:World)(Ls:List zJ): Prop where
 old:∀ b∈A,b<w.heap.size
 has:∀ r∈Ls,∀ p∈r,w.heap[p.1]?=some p.2
 nodup:(bl Ls).Nodup
 apart:∀ b∈bl Ls,b∉A
structure zU (qd:Prop)(Ls:List zJ)(w:World)(Ls':List zJ)(w':World): Prop where
 os:w'.os=w.os
 tape:w'.tape=w.tape
 output:w'.output=w.output
 drawn:qd->w.drawn≤w'.drawn
 size:w.heap.size≤w'.heap.size
 keep:∀ k,k<w.heap.size->k∉bl Ls->w'.heap[k]?=w.heap[k]?
 fresh:∀ b∈bl Ls',b∈bl Ls∨w.heap.size≤b
theorem zU.refl (Ls:List zJ)(w:World): zU qd Ls w Ls w:=⟨rfl,rfl,rfl,λ_=>Qr _,Qr _,λ_ _ _=>rfl,λ_ h=>.inl h⟩
theorem zU.trans{L L' L'':List zJ}{w w' w'':World}(h:zU qd L w L' w')(k:zU qd L' w' L'' w''): zU qd L w L'' w'':=by
 refine⟨k.os.trans h.os,k.tape.trans h.tape,k.output.trans h.output,λhq=>QD (h.drawn hq) (k.drawn hq),QD h.size k.size,λi hi hn=>?_,λb hb=>?_⟩
 ·rw[k.keep i (UN hi h.size) (λhm=>by rcases h.fresh i hm with h1 | h1;exact hn h1;omega),h.keep i hi hn]
 ·rcases k.fresh b hb with h1 | h1
  ·exact h.fresh b h1
  ·exact .inr (QD h.size h1)
theorem zU.drop{L L' L'':List zJ}{w w':World}(h:zU qd L w L' w')(hs:∀ b∈bl L'',b∈bl L'): zU qd L w L'' w' :=
 ⟨h.os,h.tape,h.output,h.drawn,h.size,h.keep,λb hb=>h.fresh b (hs b hb)⟩
theorem zU.done{L L':List zJ}{w w':World}(h:zU qd L w L' w'): zU qd L w [] w':=h.drop (by simp[bl])
theorem zU.frame{w w':World}(h:zU qd [] w [] w')(Ls:List zJ): zU qd Ls w Ls w' :=
 ⟨h.os,h.tape,h.output,h.drawn,h.size,λk hk _=>h.keep k hk (by simp[bl]),λ_ hb=>.inl hb⟩
theorem zU.on{L Ls:List zJ}{w0 w w':World}(_h:zU qd L w0 Ls w)(e:zU qd [] w [] w'): zU qd Ls w Ls w':=e.frame Ls
theorem zZ.lt{A:List Nat}{w:World}{Ls:List zJ}(h:zZ A w Ls){b:Nat}(hb:b∈bl Ls): b<w.heap.size:=by
 obtain⟨r,hr,p,hp,rfl⟩:=zMM.1 hb
 exact(Qu.1 (h.has r hr p hp)).1
theorem zZ.frame{A:List Nat}{w w':World}{Ls:List zJ}(h:zZ A w Ls)(e:zU qd [] w [] w'): zZ A w' Ls :=
 ⟨λb hb=>UN (h.old b hb) e.size,λr hr p hp=>by
  rw[e.keep p.1 (Qu.1 (h.has r hr p hp)).1 (by simp[bl])];exact h.has r hr p hp,h.nodup,h.apart⟩
theorem zZ.sub{A:List Nat}{w:World}{Ls:List zJ}(h:zZ A w Ls): zZ (bl Ls++A) w [] :=
 ⟨λb hb=>by rcases Qb.1 hb with h1 | h1;exact h.lt h1;exact h.old b h1,by simp,by simp[bl],by simp[bl]⟩
theorem zZ.start{A:List Nat}{w:World}(h:∀ b∈A,b<w.heap.size): zZ A w []:=⟨h,by simp,by simp[bl],by simp[bl]⟩
theorem zZ.alloc{A:List Nat}{w w':World}{Ls:List zJ}(h:zZ A w Ls)(o:Obj)(hw:w'.heap=(w.alloc o).heap): zZ A w' (Ls++[[(w.heap.size,o)]]):=by
 have hn:w.heap.size∉bl Ls:=λhm=>U7 _ (h.lt hm)
 refine⟨λb hb=>?_,λr hr p hp=>?_,?_,λb hb=>?_⟩
 ·rw[hw];have:=h.old b hb;simp;omega
 ·rcases Qb.1 hr with h1 | h1
  ·rw[hw,Below.heap_alloc w o p.1 (Qu.1 (h.has r h1 p hp)).1];exact h.has r h1 p hp
  ·simp only[Qa] at h1
   subst h1
   simp only[Qa] at hp
   subst hp
   rw[hw];show(w.heap.push o)[w.heap.size]?=some o;simp
 ·rw[zDX]
  refine QT.2 ⟨h.nodup,by simp[bl],λx hx y hy=>?_⟩
  grind [bl]
 ·rw[zDX] at hb
  rcases Qb.1 hb with h1 | h1
  ·exact h.apart b h1
  ·simp[bl] at h1
   subst h1
   exact λhA=>U7 _ (h.old _ hA)
theorem zU.alloc{w w':World}(Ls:List zJ)(o:Obj)(hw:w'.heap=(w.alloc o).heap)(ho:w'.os=w.os)(ht:w'.tape=w.tape)(hp:w'.output=w.output)(hd:qd->w.drawn≤w'.drawn:=by first | exact λ_=>Qr _ | exact λ_=>Wj _): zU qd Ls w (Ls++[[(w.heap.size,o)]]) w' :=
 ⟨ho,ht,hp,hd,by rw[hw];simp,λk hk _=>by grind [Below.heap_alloc],λb hb=>by
  grind [zDX,bl]⟩
theorem z6c{α:Type}{l:List α}{i:Nat}{x y:α}(h:y∈l.set i x): y=x∨∃ j,j≠i∧l[j]?=some y:=by grind [List.mem_iff_getElem?]
theorem zCo{Ls:List zJ}{i:Nat}{r:zJ}(hr:Ls[i]?=some r){p:Nat×Obj}(hp:p∈r): p.1∈bl Ls :=
 zMM.2 ⟨r,Qp.2 ⟨i,hr⟩,p,hp,rfl⟩
theorem zGM{Ls:List zJ}(h:(bl Ls).Nodup): ∀ {i j:Nat} {r s:zJ},Ls[i]?=some r->Ls[j]?=some s->i≠j->∀ p∈r,∀ q∈s,p.1≠q.1:=by
 induction Ls with
 | nil=>grind
 | cons t ts ih =>
  simp only[bl] at h
  obtain⟨h1,h2,h3⟩:=QT.1 h
  intro i j r s hi hj hij p hp q hq e
  cases i with
  | zero =>
   cases j with
   | zero=>grind
   | succ j =>
    simp only[Uc,Qg] at hi
    simp only[Q2] at hj
    subst hi
    exact h3 p.1 (Qn.2 ⟨p,hp,rfl⟩) q.1 (zCo hj hq) e
  | succ i =>
   simp only[Q2] at hi
   cases j with
   | zero =>
    simp only[Uc,Qg] at hj
    subst hj
    exact h3 q.1 (Qn.2 ⟨q,hq,rfl⟩) p.1 (zCo hi hp) e.symm
   | succ j =>
    grind
theorem zHA{Ls:List zJ}{i:Nat}{r':zJ}{b:Nat}(h:b∈bl (Ls.set i r')): (∃ p∈r',p.1=b)∨∃ j s,j≠i∧Ls[j]?=some s∧∃ p∈s,p.1=b:=by
 obtain⟨s,hs,p,hp,rfl⟩:=zMM.1 h
 rcases z6c hs with rfl | ⟨j,hj,hl⟩
 ·grind
 grind
theorem z03:∀ {Ls:List zJ} {i:Nat} {r':zJ},(bl Ls).Nodup->(r'.map Prod.fst).Nodup->(∀ j s,j≠i->Ls[j]?=some s->∀ p∈r',∀ q∈s,p.1≠q.1)->(bl (Ls.set i r')).Nodup
 | [],i,r',h,_,_=>by grind
 | t::ts,0,r',h,hr,ha=>by
  simp only[bl] at h
  obtain⟨h1,h2,h3⟩:=QT.1 h
  simp only[List.set_cons_zero,bl]
  refine QT.2 ⟨hr,h2,λx hx y hy e=>?_⟩
  obtain⟨p,hp,rfl⟩:=Qn.1 hx
  obtain⟨s,hs,q,hq,rfl⟩:=zMM.1 hy
  grind [List.mem_iff_getElem?]
 | t::ts,i+1,r',h,hr,ha=>by
  simp only[bl] at h
  obtain⟨h1,h2,h3⟩:=QT.1 h
  simp only[Wk,bl]
  refine QT.2 ⟨h1,z03 h2 hr (λj s hj hs=>ha (j+1) s (by omega) (by grind)),λx hx y hy e=>?_⟩
  obtain⟨p,hp,rfl⟩:=Qn.1 hx
  rcases zHA hy with⟨q,hq,rfl⟩ | ⟨j,s,hj,hs,q,hq,rfl⟩
  ·exact ha 0 t (by omega) rfl q hq p hp e.symm
  ·exact h3 p.1 (Qn.2 ⟨p,hp,rfl⟩) q.1 (zCo hs hq) e
theorem zZ.set{A:List Nat}{w w':World}{Ls:List zJ}(h:zZ A w Ls){i:Nat}{r r':zJ}(hr:Ls[i]?=some r)
  (hsz:w.heap.size≤w'.heap.size) (hk:∀ k,k<w.heap.size->k∉r.map Prod.fst->w'.heap[k]?=w.heap[k]?)
  (hh:∀ p∈r',w'.heap[p.1]?=some p.2) (hn:(r'.map Prod.fst).Nodup) (hf:∀ p∈r',p.1∈r.map Prod.fst∨w.heap.size≤p.1):zZ A w' (Ls.set i r'):=by
 refine⟨λb hb=>UN (h.old b hb) hsz,λs hs p hp=>?_,z03 h.nodup hn λj s hj hs p hp q hq e=>?_,λb hb=>?_⟩
 ·rcases z6c hs with rfl | ⟨j,hj,hl⟩
  ·grind
  ·have hmem:=Qp.2 ⟨j,hl⟩
   have h1:=h.has s hmem p hp
   rw[hk p.1 (Qu.1 h1).1 (λhm=>by
    obtain⟨q,hq,he⟩:=Qn.1 hm
    exact zGM h.nodup hr hl (λe=>hj e.symm) q hq p hp he)]
   exact h1
 ·have h1:=h.has s (Qp.2 ⟨j,hs⟩) q hq
  have hlt:=(Qu.1 h1).1
  rcases hf p hp with h2 | h2
  ·obtain⟨u,hu,he⟩:=Qn.1 h2
   exact zGM h.nodup hr hs (λe=>hj e.symm) u hu q hq (he.trans e)
  ·omega
 ·rcases zHA hb with⟨p,hp,rfl⟩ | ⟨j,s,hj,hs,p,hp,rfl⟩
  ·rcases hf p hp with h2 | h2
   ·obtain⟨u,hu,he⟩:=Qn.1 h2
    rw[←he];exact h.apart _ (zCo hr hu)
   ·intro hA;have:=h.old _ hA;omega
  ·exact h.apart _ (zCo hs hp)
theorem zU.set{w w':World}{Ls:List zJ}{i:Nat}{r r':zJ}(hr:Ls[i]?=some r)(ho:w'.os=w.os)(ht:w'.tape=w.tape)(hp:w'.output=w.output)
  (hsz:w.heap.size≤w'.heap.size) (hk:∀ k,k<w.heap.size->k∉r.map Prod.fst->w'.heap[k]?=w.heap[k]?)
  (hf:∀ p∈r',p.1∈r.map Prod.fst∨w.heap.size≤p.1) (hd:qd->w.drawn≤w'.drawn:=by first | exact λ_=>Qr _ | exact λ_=>Wj _):zU qd Ls w (Ls.set i r') w':=by
 refine⟨ho,ht,hp,hd,hsz,λk hk1 hk2=>hk k hk1 (λhm=>hk2 ?_),λb hb=>?_⟩
 ·obtain⟨p,hp,rfl⟩:=Qn.1 hm
  exact zCo hr hp
 ·rcases zHA hb with⟨p,hp,rfl⟩ | ⟨j,s,hj,hs,p,hp,rfl⟩
  ·rcases hf p hp with h2 | h2
   ·obtain⟨u,hu,he⟩:=Qn.1 h2
    grind [zCo]
   grind
  grind [zCo]
structure vY (Z:List Nat)(w:World)(Z':List Nat)(w':World): Prop where
 size:w.heap.size≤w'.heap.size
 same:∀ k,k<w.heap.size->k∉Z->k∉Z'∧w'.heap[k]?=w.heap[k]?
theorem zU.step{Ls Ls':List zJ}{w w':World}(h:zU qd Ls w Ls' w')(A:List Nat): vY (bl Ls++A) w (bl Ls'++A) w' :=
 ⟨h.size,λk hk hn=>by
  have h1:k∉A:=λhm=>hn (Qb.2 (.inr hm))
  have h2:k∉bl Ls:=λhm=>hn (Qb.2 (.inl hm))
  refine⟨λhm=>?_,h.keep k hk h2⟩
  rcases Qb.1 hm with h3 | h3
  ·rcases h.fresh k h3 with h4 | h4
   ·exact h2 h4
   ·omega
  grind⟩
theorem vY.less{Z Z':List Nat}(w:World)(h:∀ b∈Z',b∈Z): vY Z w Z' w:=⟨Qr _,λk _ hn=>⟨λhm=>hn (h k hm),rfl⟩⟩
structure E (τ:Type) where
 n:Nat
 rd:List Nat->World->List Value->τ->Prop
 len:∀ {Z w cs x},rd Z w cs x->cs.length=n
 step:∀ {Z w Z' w' cs x},vY Z w Z' w'->rd Z w cs x->rd Z' w' cs x
 one:∀ {Z w cs x},rd Z w cs x->∀ c∈cs,c.oneCell'=true
def zB (k:IntKind): E Int:=⟨1,λ_ _ cs x=>cs=[.int k x],by grind,by grind,by rintro _ _ _ _ rfl c hc;simp at hc;subst hc;rfl⟩
def zNu:E Bool:=⟨1,λ_ _ cs x=>cs=[.bool x],by grind,by grind,by rintro _ _ _ _ rfl c hc;simp at hc;subst hc;rfl⟩
def wS:E zD:=⟨1,λ_ _ cs x=>cs=[vs x],by grind,by grind,by rintro _ _ _ _ rfl c hc;simp at hc;subst hc;rfl⟩
def eUnit:E Unit:=⟨0,λ_ _ cs _=>cs=[],by grind,by grind,by grind⟩
def wP{α β:Type}(e:E α)(f:E β): E (α×β) :=
 ⟨e.n+f.n,λZ w cs x=>∃ c1 c2,cs=c1++c2∧e.rd Z w c1 x.1∧f.rd Z w c2 x.2,
  by rintro _ _ _ _ ⟨c1,c2,rfl,h1,h2⟩;simp[e.len h1,f.len h2],
  by rintro _ _ _ _ _ _ s ⟨c1,c2,rfl,h1,h2⟩;exact⟨c1,c2,rfl,e.step s h1,f.step s h2⟩,
  by
  rintro _ _ _ _ ⟨c1,c2,rfl,h1,h2⟩ c hc
  rcases Qb.1 hc with h | h
  ·exact e.one h1 c h
  ·exact f.one h2 c h⟩
section
variable {τ:Type}(e:E τ)
def E.rdL (Z:List Nat)(w:World): List Value->List τ->Prop
 | cs,[]=>cs=[]
 | cs,x::l=>∃ c1 c2,cs=c1++c2∧e.rd Z w c1 x∧E.rdL Z w c2 l
theorem E.rdL_len{Z:List Nat}{w:World}: ∀ {l:List τ} {cs:List Value},e.rdL Z w cs l->cs.length=l.length*e.n
 | [],cs,h=>by simp only[E.rdL] at h;simp[h]
 | x::l,cs,h=>by
  obtain⟨c1,c2,rfl,h1,h2⟩:=h
  simp only[Qd,e.len h1,E.rdL_len h2,QK,Q1,Nat.one_mul]
  omega
theorem E.rdL_step{Z Z':List Nat}{w w':World}(s:vY Z w Z' w'): ∀ {l:List τ} {cs:List Value},e.rdL Z w cs l->e.rdL Z' w' cs l
 | [],cs,h=>h
 | x::l,cs,h=>by obtain⟨c1,c2,rfl,h1,h2⟩:=h;exact⟨c1,c2,rfl,e.step s h1,E.rdL_step s h2⟩
theorem E.rdL_one{Z:List Nat}{w:World}: ∀ {l:List τ} {cs:List Value},e.rdL Z w cs l->∀ c∈cs,c.oneCell'=true
 | [],cs,h=>by grind [E.rdL]
 | x::l,cs,h=>by
  obtain⟨c1,c2,rfl,h1,h2⟩:=h
  intro c hc
  rcases Qb.1 hc with h | h
  ·exact e.one h1 c h
  ·exact E.rdL_one h2 c h
theorem E.rdL_append{Z:List Nat}{w:World}: ∀ {l m:List τ} {cs ds:List Value},e.rdL Z w cs l->e.rdL Z w ds m->e.rdL Z w (cs++ds) (l++m)
 | [],m,cs,ds,h,k=>by simp only[E.rdL] at h;subst h;simpa using k
 | x::l,m,cs,ds,h,k=>by
  obtain⟨c1,c2,rfl,h1,h2⟩:=h
  exact⟨c1,c2++ds,by simp,h1,E.rdL_append h2 k⟩
theorem E.rdL_one_elem{Z:List Nat}{w:World}{x:τ}{cs:List Value}(h:e.rd Z w cs x): e.rdL Z w cs [x]:=⟨cs,[],by simp,h,rfl⟩
theorem E.rdL_get{Z:List Nat}{w:World}: ∀ {l:List τ} {cs:List Value} {i:Nat} {x:τ},e.rdL Z w cs l->l[i]?=some x->∃ ci,e.rd Z w ci x∧∀ j u,ci[j]?=some u->cs[i*e.n+j]?=some u
 | [],cs,i,x,h,hx=>by simp at hx
 | y::l,cs,0,x,h,hx=>by
  obtain⟨c1,c2,rfl,h1,h2⟩:=h
  grind
 | y::l,cs,i+1,x,h,hx=>by
  obtain⟨c1,c2,rfl,h1,h2⟩:=h
  simp only[Q2] at hx
  obtain⟨ci,k1,k2⟩:=E.rdL_get h2 hx
  refine⟨ci,k1,λj u hu=>?_⟩
  have:=k2 j u hu
  have hl:=e.len h1
  grind
theorem E.rdL_take{Z:List Nat}{w:World}: ∀ {l:List τ} {cs:List Value} (k:Nat),e.rdL Z w cs l->e.rdL Z w (cs.take (k*e.n)) (l.take k)
 | [],cs,k,h=>by simp only[E.rdL] at h;simp[h,E.rdL]
 | y::l,cs,0,h=>by simp[E.rdL]
 | y::l,cs,k+1,h=>by
  obtain⟨c1,c2,rfl,h1,h2⟩:=h
  have hl:=e.len h1
  refine⟨c1,c2.take (k*e.n),?_,h1,E.rdL_take k h2⟩
  grind [Nat.add_mul]
theorem E.rdL_drop{Z:List Nat}{w:World}: ∀ {l:List τ} {cs:List Value} (k:Nat),e.rdL Z w cs l->e.rdL Z w (cs.drop (k*e.n)) (l.drop k)
 | [],cs,k,h=>by simp only[E.rdL] at h;simp[h,E.rdL]
 | y::l,cs,0,h=>by grind
 | y::l,cs,k+1,h=>by
  obtain⟨c1,c2,rfl,h1,h2⟩:=h
  have hl:=e.len h1
  have:=E.rdL_drop k h2
  rw[show(k+1)*e.n=c1.length+k*e.n by grind]
  rw[Wf,Uf (by omega)];grind
def xF (Z:List Nat)(w:World)(p:Option Addr)(c:Nat)(l:List τ): Prop :=
 l.length≤c∧(l=[]∨∃ b off cs,p=some ⟨b,off,none⟩∧b∉Z∧b<w.heap.size∧e.rdL Z w cs l∧∀ j u,cs[j]?=some u->w.cell? ⟨b,off+j,none⟩=some u)
theorem xF.step{Z Z':List Nat}{w w':World}{p:Option Addr}{c:Nat}{l:List τ}(s:vY Z w Z' w')(h:xF e Z w p c l): xF e Z' w' p c l:=by
 refine⟨h.1,h.2.imp id ?_⟩
 rintro ⟨b,off,cs,rfl,hb,hlt,hl,hc⟩
 obtain⟨h1,h2⟩:=s.same b hlt hb
 exact⟨b,off,cs,rfl,h1,UN hlt s.size,e.rdL_step s hl,λj u hu=>by grind [World.cell?_of_block]⟩
theorem xF.nil (Z:List Nat)(w:World)(p:Option Addr)(c:Nat): xF e Z w p c []:=⟨Uy _,.inl rfl⟩
def tX (Z:List Nat)(w:World)(ad:Addr)(x:τ): Prop :=
 ∃ b o ci,ad=⟨b,o,none⟩∧b∉Z∧b<w.heap.size∧e.rd Z w ci x∧∀ j u,ci[j]?=some u->w.cell? ⟨b,o+j,none⟩=some u
theorem tX.step{Z Z':List Nat}{w w':World}{ad:Addr}{x:τ}(s:vY Z w Z' w')(h:tX e Z w ad x): tX e Z' w' ad x:=by
 obtain⟨b,o,ci,rfl,hb,hlt,hx,hc⟩:=h
 obtain⟨h1,h2⟩:=s.same b hlt hb
 exact⟨b,o,ci,rfl,h1,UN hlt s.size,e.step s hx,λj u hu=>by grind [World.cell?_of_block]⟩
end
def zT{τ:Type}(e:E τ): E (List τ) :=
 ⟨1,λZ w cs l=>∃ p c,cs=[.slice p l.length c]∧xF e Z w p c l,
  by grind,
  by rintro _ _ _ _ _ _ s ⟨p,c,rfl,h⟩;exact⟨p,c,rfl,h.step e s⟩,
  by rintro _ _ _ _ ⟨p,c,rfl,h⟩ d hd;simp at hd;subst hd;rfl⟩
theorem zB.mk{k:IntKind}{Z:List Nat}{w:World}{x:Int}: (zB k).rd Z w [.int k x] x:=rfl
theorem zNu.mk{Z:List Nat}{w:World}{x:Bool}: zNu.rd Z w [vb x] x:=rfl
theorem wS.mk{Z:List Nat}{w:World}{x:zD}: wS.rd Z w [vs x] x:=rfl
theorem eUnit.mk{Z:List Nat}{w:World}{x:Unit}: eUnit.rd Z w [] x:=rfl
theorem wP.mk{α β:Type}{e:E α}{f:E β}{Z:List Nat}{w:World}{c1 c2:List Value}{x:α}{y:β}(h1:e.rd Z w c1 x)(h2:f.rd Z w c2 y): (wP e f).rd Z w (c1++c2) (x,y):=⟨c1,c2,rfl,h1,h2⟩
theorem zT.mk{τ:Type}{e:E τ}{Z:List Nat}{w:World}{p:Option Addr}{c:Nat}{l:List τ}(h:xF e Z w p c l): (zT e).rd Z w [.slice p l.length c] l:=⟨p,c,rfl,h⟩
theorem tX.fst{α β:Type}{e:E α}{f:E β}{Z:List Nat}{w:World}{b o:Nat}{x:α×β}(h:tX (wP e f) Z w ⟨b,o,none⟩ x): tX e Z w ⟨b,o,none⟩ x.1:=by
 obtain⟨b',o',ci,he,hb,hlt,⟨c1,c2,rfl,h1,h2⟩,hc⟩:=h
 cases he
 exact⟨b,o,c1,rfl,hb,hlt,h1,λj u hu=>hc j u (by grind)⟩
theorem tX.snd{α β:Type}{e:E α}{f:E β}{Z:List Nat}{w:World}{b o:Nat}{x:α×β}(h:tX (wP e f) Z w ⟨b,o,none⟩ x): tX f Z w ⟨b,o+e.n,none⟩ x.2:=by
 obtain⟨b',o',ci,he,hb,hlt,⟨c1,c2,rfl,h1,h2⟩,hc⟩:=h
 cases he
 refine⟨b,o+e.n,c2,rfl,hb,hlt,h2,λj u hu=>?_⟩
 have hl:=e.len h1
 rw[Wn]
 refine hc (e.n+j) u ?_
 grind
theorem xF.mv{τ:Type}{e:E τ}{Z Z':List Nat}{w w':World}{p:Option Addr}{c:Nat}{l:List τ}(h:xF e Z w p c l)(s:vY Z w Z' w'): xF e Z' w' p c l:=h.step e s
theorem tX.mv{τ:Type}{e:E τ}{Z Z':List Nat}{w w':World}{ad:Addr}{x:τ}(h:tX e Z w ad x)(s:vY Z w Z' w'): tX e Z' w' ad x:=h.step e s
theorem z6a{Ls:List zJ}{k b:Nat}(h:b∈bl (Ls.take k)): b∈bl Ls:=by
 obtain⟨r,hr,p,hp,rfl⟩:=zMM.1 h
 exact zMM.2 ⟨r,UF hr,p,hp,rfl⟩
theorem zZ.take{A:List Nat}{w:World}{Ls:List zJ}(h:zZ A w Ls)(k:Nat): zZ A w (Ls.take k):=by
 refine⟨h.old,λr hr=>h.has r (UF hr),?_,λb hb=>h.apart b (z6a hb)⟩
 have:bl Ls=bl (Ls.take k)++bl (Ls.drop k):=by rw[←zDX,QG]
 have hn:=h.nodup
 grind
theorem zU.take{L:List zJ}{w w':World}{Ls:List zJ}(h:zU qd L w Ls w')(k:Nat): zU qd L w (Ls.take k) w':=h.drop λ_ hb=>z6a hb
theorem vY.take (Ls:List zJ)(k:Nat)(A:List Nat)(w:World): vY (bl Ls++A) w (bl (Ls.take k)++A) w:=vY.less w λb hb=>by
 grind [z6a]
theorem pick_mem{Ls:List zJ}{i:Nat}{r:zJ}(hr:Ls[i]?=some r)(A:List Nat): ∀ b∈bl [r]++(bl (Ls.set i [])++A),b∈bl Ls++A:=by
 intro b hb
 rcases Qb.1 hb with h | h
 ·obtain⟨s,hs,p,hp,rfl⟩:=zMM.1 h
  grind [zCo]
 ·rcases Qb.1 h with h | h
  ·rcases zHA h with⟨p,hp,_⟩ | ⟨j,s,_,hs,p,hp,rfl⟩
   ·cases hp
   grind [zCo]
  grind
theorem zZ.pick{A:List Nat}{w:World}{Ls:List zJ}(h:zZ A w Ls)(i:Nat){r:zJ}(hr:Ls[i]?=some r): zZ (bl (Ls.set i [])++A) w [r]:=by
 have hmem:=Qp.2 ⟨i,hr⟩
 refine⟨λb hb=>?_,λs hs p hp=>?_,?_,λb hb hA=>?_⟩
 ·rcases Qb.1 hb with h1 | h1
  ·rcases zHA h1 with⟨p,hp,_⟩ | ⟨j,s,_,hs,p,hp,rfl⟩
   ·cases hp
   ·exact h.lt (zCo hs hp)
  ·exact h.old b h1
 ·simp only[Qa] at hs
  subst hs
  exact h.has _ hmem p hp
 ·have key:∀ {Ls:List zJ} {i:Nat},(bl Ls).Nodup->Ls[i]?=some r->(r.map Prod.fst).Nodup:=by
   intro Ls
   induction Ls with
   | nil=>grind
   | cons t ts ih =>
    grind [bl]
  simpa [bl] using key h.nodup hr
 ·obtain⟨s,hs,p,hp,rfl⟩:=zMM.1 hb
  simp only[Qa] at hs
  subst hs
  rcases Qb.1 hA with h1 | h1
  ·rcases zHA h1 with⟨q,hq,_⟩ | ⟨j,t,hj,ht,q,hq,he⟩
   ·cases hq
   ·exact zGM h.nodup hr ht (λe=>hj e.symm) p hp q hq he.symm
  ·exact h.apart _ (zCo hr hp) h1
theorem vY.pick{Ls:List zJ}{i:Nat}{r:zJ}(hr:Ls[i]?=some r)(A:List Nat)(w:World): vY (bl Ls++A) w (bl [r]++(bl (Ls.set i [])++A)) w:=vY.less w (pick_mem hr A)
theorem zZ9{r:zJ}: bl [r]=r.map Prod.fst:=by simp[bl]
theorem zZ.put{A:List Nat}{w w':World}{Ls:List zJ}(h:zZ A w Ls){i:Nat}{r r':zJ}(hr:Ls[i]?=some r)(ho:zZ (bl (Ls.set i [])++A) w' [r'])(e:zU qd [r] w [r'] w'): zZ A w' (Ls.set i r'):=by
 refine h.set hr e.size (λk hk hn=>e.keep k hk (by rw[zZ9];exact hn)) (ho.has r' (Qa.2 rfl)) (by simpa [bl] using ho.nodup) (λp hp=>?_)
 have:=e.fresh p.1 (by rw[zZ9];grind)
 rwa [zZ9] at this
theorem zU.put{w w':World}{Ls:List zJ}{i:Nat}{r r':zJ}(hr:Ls[i]?=some r)(e:zU qd [r] w [r'] w'): zU qd Ls w (Ls.set i r') w' :=
 zU.set hr e.os e.tape e.output e.size (λk hk hn=>e.keep k hk (by rw[zZ9];exact hn)) (λp hp=>by
  have:=e.fresh p.1 (by rw[zZ9];grind)
  rwa [zZ9] at this) e.drawn
theorem vY.put{Ls:List zJ}{i:Nat}{r':zJ}(A:List Nat)(w:World): vY (bl [r']++(bl (Ls.set i [])++A)) w (bl (Ls.set i r')++A) w:=vY.less w λb hb=>by
 rcases Qb.1 hb with h | h
 ·rcases zHA h with⟨p,hp,rfl⟩ | ⟨j,s,hj,hs,p,hp,rfl⟩
  ·exact Qb.2 (.inl (by rw[zZ9];grind))
  ·refine Qb.2 (.inr (Qb.2 (.inl (zCo (i:=j) ?_ hp))))
   grind
 grind
theorem xG{α β:Type}{m:Option α}{f:α->Option β}{o:β}(h:m.bind f=some o): ∃ x,m=some x∧f x=some o:=by
 cases m with
 | none=>cases h
 | some x=>grind
theorem ifT{α:Type}{b:Bool}{x y o:α}(hb:b=true)(h:(if b=true then x else y)=o): x=o:=by grind
theorem ifF{α:Type}{b:Bool}{x y o:α}(hb:b=false)(h:(if b=true then x else y)=o): y=o:=by grind
end
section
open Go Go.RowKit
variable {qd:Prop}
def mkV:Bool->List Value->Option Value
 | true,cs=>some (.agg cs.toArray)
 | false,[v]=>some v
 | false,_=>none
section
variable {P:Program}{w:World}
theorem zCt (b o j:Nat): (⟨b,o,none⟩:Addr).add j=⟨b,o+j,none⟩:=by grind [Addr.add]
theorem zHB{t:TypeId}{b o:Nat}{ag:Bool}{cs:List Value}{v:Value}(hs:vW P t=some (ag,cs.length))(hc:∀ j u,cs[j]?=some u->w.cell? ⟨b,o+j,none⟩=some u)
  (hv:mkV ag cs=some v):(loadVar t ⟨b,o,none⟩).run P w=.ok v w:=by
 obtain⟨h1,h2⟩:=zJ7 (w:=w) hs
 cases ag with
 | true =>
  simp only[mkV,Qg] at hv
  subst hv
  have:=run_loadCells_list (P:=P) w ⟨b,o,none⟩ cs (λj u hu=>by grind [zCt])
  simp[loadVar,h1,h2,this]
 | false =>
  match cs,hv with
  | [u],hv =>
   simp only[mkV,Qg] at hv
   subst hv
   have:=hc 0 u rfl
   simp only[QM] at this
   simp[loadVar,h1,run_load,this]
def z9V (c:Array Value)(o n:Nat): List Value:=(c.toList.drop o).take n
def tK (c:Array Value)(o:Nat)(v:List Value): Array Value:=(c.toList.take o++v++c.toList.drop (o+v.length)).toArray
def zNt (P:Program)(t:TypeId)(c:Array Value)(o:Nat): Option Value :=
 match vW P t with
 | none=>none
 | some (ag,n)=>if Nat.ble (o+n) c.size then mkV ag (z9V c o n) else none
theorem zTD{t:TypeId}{b o:Nat}{c:Array Value}{te:TypeId}{fr:Nat×Nat}{v:Value}(hg:w.heap[b]?=some (.cells c te fr))(hv:zNt P t c o=some v):
  (loadVar t ⟨b,o,none⟩).run P w=.ok v w:=by
 unfold zNt at hv
 split at hv
 ·cases hv
 ·rename_i ag n hs
  split at hv
  ·rename_i hle
   have hle':o+n≤c.size:=Ui hle
   have hlen:(z9V c o n).length=n:=by simp[z9V];omega
   grind [zHB,z9V,cell_of_row]
  ·cases hv
def zN4 (P:Program)(t:TypeId)(c:Array Value)(o:Nat)(v:Value): Bool :=
 match vW P t with
 | none=>false
 | some (_,n)=>v.cells.size==n&&Nat.ble (o+n) c.size&&v.cells.toList.all (λx=>x.oneCell')
theorem zWe{t:TypeId}{b o:Nat}{c:Array Value}{te:TypeId}{v:Value}(hg:w.heap[b]?=some (.cells c te (0,0)))(hv:zN4 P t c o v=true):
  (storeVar t ⟨b,o,none⟩ v).run P w=.ok () (w.setRow b (tK c o v.cells.toList)):=by
 unfold zN4 at hv
 split at hv
 ·cases hv
 ·rename_i ag n hs
  simp only[QA,Q5,QW] at hv
  obtain⟨⟨h1,h2⟩,h3⟩:=hv
  have h2':o+n≤c.size:=Ui h2
  obtain⟨k1,k2⟩:=zJ7 (w:=w) hs
  have hst:=run_storeCells_at P b o te v.cells.toList 0 c w hg (by simp;omega) h3
  simp only[QM] at hst
  simp[storeVar,k2,h1,hst,tK]
end
section
variable {P:Program}{ops:Array Oper}{Q:Exit->Act->World->Prop}{a:Act}{n:Nat}{S:List (Nat×Value)}{w:World}{K:Act->World->Prop}
variable {A:List Nat}{Ls:List zJ}{d:Nat}{ty:TypeId}{pos:String}{af:Array Edge}{g:Option (Nat×Bool)}
theorem xK (hO:zZ A w Ls){i:Nat}{r:zJ}(hr:Ls[i]?=some r){p:Nat×Obj}(hp:p∈r): w.heap[p.1]?=some p.2 :=
 hO.has r (Qp.2 ⟨i,hr⟩) p hp
theorem z6q (i:Nat){x:Operand}{t b o:Nat}{c:Array Value}{te:TypeId}{fr:Nat×Nat}{v:Value}(hS:qL a n S)(hd:Nat.blt d n=true)(hg:zS ops S g=some true)(hO:zZ A w Ls)
  (hx:zL S x=some (.pointer (some ⟨b,o,none⟩))) (hr:Ls[i]?=some [(b,.cells c te fr)]) (hv:zNt P t c o=some v)
  (k:∀ a',qL a' n ((d,v)::S)->K a' w):vD P ops Q ⟨some d,.load t x,ty,pos,af,g⟩ K a w :=
 tE hS hd hg (by simp[execOp,hS.eval hx,Instr.loadAt,Instr.sureAddr,zTD (xK hO hr (Qa.2 rfl)) hv]) k
theorem z5x (i:Nat){x y:Operand}{t b o:Nat}{c:Array Value}{te:TypeId}{v:Value}(hS:qL a n S)(hg:zS ops S g=some true)(hO:zZ A w Ls)
  (hx:zL S x=some (.pointer (some ⟨b,o,none⟩))) (hy:zL S y=some v) (hr:Ls[i]?=some [(b,.cells c te (0,0))]) (hv:zN4 P t c o v=true)
  (k:∀ w',zZ A w' (Ls.set i [(b,.cells (tK c o v.cells.toList) te (0,0))])->zU qd Ls w (Ls.set i [(b,.cells (tK c o v.cells.toList) te (0,0))]) w'->∀ a',qL a' n S->K a' w') :
  vD P ops Q ⟨none,.store t x y,ty,pos,af,g⟩ K a w:=by
 have hb:=xK hO hr (Qa.2 rfl)
 refine z2f hS hg (w':=w.setRow b (tK c o v.cells.toList)) (by simp[execOp,hS.eval hx,hS.eval hy,Instr.storeAt,Instr.sureAddr,zWe hb hv]) (k _ ?_ ?_)
 ·refine hO.set hr (by simp) (λk _ hk=>setRow_other w b k _ (λe=>hk (by simp[e]))) (λp hp=>?_) (by simp) (λp hp=>.inl ?_)
  ·grind [setRow_heap]
  grind
 ·refine zU.set hr rfl rfl rfl (by simp) (λk _ hk=>setRow_other w b k _ (λe=>hk (by simp[e]))) (λp hp=>.inl ?_)
  grind
theorem op_new{op:Op}{v:Nat->Value}{o:Obj}(hS:qL a n S)(hd:Nat.blt d n=true)(hg:zS ops S g=some true)(hO:zZ A w Ls)
  (hr:(execOp a.eval ⟨some d,op,ty,pos,af,g⟩).run P w=.ok (.value (v w.heap.size)) (w.alloc o))
  (k:∀ b w',zZ A w' (Ls++[[(b,o)]])->zU qd Ls w (Ls++[[(b,o)]]) w'->∀ a',qL a' n ((d,v b)::S)->K a' w') :
  vD P ops Q ⟨some d,op,ty,pos,af,g⟩ K a w :=
 tE hS hd hg hr (k _ _ (hO.alloc o rfl) (zU.alloc Ls o rfl rfl rfl rfl))
theorem op_box{x:Operand}{t:TypeId}{v:Value}(hS:qL a n S)(hd:Nat.blt d n=true)(hg:zS ops S g=some true)(hO:zZ A w Ls)(hx:zL S x=some v)
  (k:∀ b w',zZ A w' (Ls++[[(b,.cells v.cells t (0,0))]])->zU qd Ls w (Ls++[[(b,.cells v.cells t (0,0))]]) w'->∀ a',qL a' n ((d,.pointer (some ⟨b,0,none⟩))::S)->K a' w') :
  vD P ops Q ⟨some d,.box t x,ty,pos,af,g⟩ K a w :=
 op_new (v:=λb=>.pointer (some ⟨b,0,none⟩)) hS hd hg hO (by simp[execOp,hS.eval hx,Instr.box,newVar,newRow]) k
theorem op_alloc{t:TypeId}{z:Value}(hS:qL a n S)(hd:Nat.blt d n=true)(hg:zS ops S g=some true)(hO:zZ A w Ls)(hz:zJX P t=some z)
  (k:∀ b w',zZ A w' (Ls++[[(b,.cells z.cells t (0,0))]])->zU qd Ls w (Ls++[[(b,.cells z.cells t (0,0))]]) w'->∀ a',qL a' n ((d,.pointer (some ⟨b,0,none⟩))::S)->K a' w') :
  vD P ops Q ⟨some d,.alloc t,ty,pos,af,g⟩ K a w :=
 op_new (v:=λb=>.pointer (some ⟨b,0,none⟩)) hS hd hg hO (by simp[execOp,Instr.alloc,zQK hz,newVar,newRow]) k
def z7r (P:Program)(S:List (Nat×Value))(w:World): List ResultVar->List Value->Prop
 | [],vs=>vs=[]
 | .tmp t::r,vs=>∃ v us,vs=v::us∧vX S t=some v∧z7r P S w r us
 | .cell t ty::r,vs=>∃ v us b c te fr,vs=v::us∧vX S t=some (.pointer (some ⟨b,0,none⟩))∧w.heap[b]?=some (.cells c te fr)∧zNt P ty c 0=some v∧z7r P S w r us
theorem resN:z7r P S w [] []:=rfl
theorem resT{t:Nat}{v:Value}{r:List ResultVar}{vs:List Value}(h:vX S t=some v)(k:z7r P S w r vs): z7r P S w (.tmp t::r) (v::vs):=⟨v,vs,rfl,h,k⟩
theorem resC{t ty b:Nat}{v:Value}{c:Array Value}{te:TypeId}{fr:Nat×Nat}{r:List ResultVar}{vs:List Value}(hO:zZ A w Ls)(i:Nat)(h:vX S t=some (.pointer (some ⟨b,0,none⟩)))(hr:Ls[i]?=some [(b,.cells c te fr)])
  (hl:zNt P ty c 0=some v) (k:z7r P S w r vs):z7r P S w (.cell t ty::r) (v::vs):=⟨v,vs,b,c,te,fr,rfl,h,xK hO hr (Qa.2 rfl),hl,k⟩
theorem z3D (F:ResultVar->Sem Value)(f1:∀ t,F (.tmp t)=pure (a.tmps.getD t undef))(f2:∀ x t,F (.cell x t)=(asAddr (a.tmps.getD x undef) >>= λp=>loadVar t p))(hS:qL a n S):
  ∀ {rs:List ResultVar} {vs:List Value},z7r P S w rs vs->(rs.mapM F).run P w=.ok vs w
 | [],vs,h=>by simp only[z7r] at h;subst h;simp
 | .tmp t::r,vs,h=>by
  obtain⟨v,us,rfl,h1,h2⟩:=h
  have ih:=z3D F f1 f2 hS h2
  rw[List.mapM_cons,f1]
  simp only[Sem.run_bind,Sem.run_pure,Result.andThen_ok,hS.getD h1]
  rw[ih]
  rfl
 | .cell t ty::r,vs,h=>by
  obtain⟨v,us,b,c,te,fr,rfl,h1,h2,h3,h4⟩:=h
  have ih:=z3D F f1 f2 hS h4
  have ha:(asAddr (a.tmps.getD t undef)).run P w=.ok ⟨b,0,none⟩ w:=by rw[hS.getD h1];rfl
  rw[List.mapM_cons,f2]
  simp only[Sem.run_bind,Sem.run_pure,ha,Result.andThen_ok,zTD h2 h3]
  rw[ih]
  rfl
theorem ret_g{fn:Func}{rs:List ResultVar}{vs:List Value}{R:Value->World->Prop}(hS:qL a n S)(hf:fn.results=rs.toArray)(h:z7r P S w rs vs)
  (hR:R (if h:vs.length=1 then vs[0] else .tuple vs.toArray) w):bodyPost P fn (Ret R) .ret a w:=by
 refine⟨hS.defers,_,?_,hR⟩
 simp only[results,hf,Sem.run_bind,List.mapM_toArray,Sem.run_map]
 rw[z3D _ (λ_=>rfl) (λ_ _=>rfl) hS h]
 simp_all
def yE (P:Program)(t:TypeId): Option Nat :=
 match P.underlying t with
 | some (.slice e)=>(P.info? e).map (·.size)
 | _=>none
theorem zMR{t k:Nat}{b off m c:Nat}{i:Int}(h:yE P t=some k)(h0:0≤i)(h1:i<m)(kd:IntKind):
  (Instr.indexAt t (.slice (some ⟨b,off,none⟩) m c) (.int kd i)).run P w=.ok (.pointer (some ⟨b,off+i.toNat*k,none⟩)) w:=by
 unfold yE at h
 split at h
 ·rename_i e hu
  cases hq:P.info? e with
  | none=>grind
  | some inf =>
   have hs:inf.size=k:=by simpa [hq] using h
   simp[Instr.indexAt,asIntOf,run_underlying hu,h0,h1,sizeOf,typeInfo,hq,hs,zCt]
 ·cases h
theorem z6S{τ:Type}{e:E τ}{Z:List Nat}{p:Option Addr}{c:Nat}{l:List τ}{i:Int}{v:τ}{t:TypeId}{x y:Operand}{kd:IntKind}
  (hS:qL a n S) (hd:Nat.blt d n=true) (hg:zS ops S g=some true) (hR:xF e Z w p c l) (hx:zL S x=some (.slice p l.length c)) (hy:zL S y=some (.int kd i)) (ht:yE P t=some e.n) (hm:zC l i=some v)
  (k:∀ b o,tX e Z w ⟨b,o,none⟩ v->∀ a',qL a' n ((d,.pointer (some ⟨b,o,none⟩))::S)->K a' w) :
  vD P ops Q ⟨some d,.indexAddr t x y,ty,pos,af,g⟩ K a w:=by
 unfold zC at hm
 split at hm
 ·rename_i h0
  obtain⟨hlt,hv⟩:=Qe.1 hm
  rcases hR.2 with rfl | ⟨b,off,cs,rfl,hb,hbl,hl,hc⟩
  ·simp at hlt
  ·obtain⟨ci,h1,h2⟩:=e.rdL_get hl hm
   refine tE hS hd hg (v:=.pointer (some ⟨b,off+i.toNat*e.n,none⟩)) (w':=w) ?_ (k b _ ⟨b,_,ci,rfl,hb,hbl,h1,λj u hu=>?_⟩)
   ·simp[execOp,hS.eval hx,hS.eval hy,zMR (m:=l.length) ht h0 (by omega)]
   grind
 ·cases hm
theorem z9I{τ:Type}{e:E τ}{Z:List Nat}{b o:Nat}{y:τ}{t:TypeId}{x:Operand}(ag:Bool)
  (hS:qL a n S) (hd:Nat.blt d n=true) (hg:zS ops S g=some true) (hP:tX e Z w ⟨b,o,none⟩ y) (hx:zL S x=some (.pointer (some ⟨b,o,none⟩))) (ht:vW P t=some (ag,e.n))
  (k:∀ ci,e.rd Z w ci y->∀ v,mkV ag ci=some v->∀ a',qL a' n ((d,v)::S)->K a' w) (hag:ag=true∨e.n=1) :
  vD P ops Q ⟨some d,.load t x,ty,pos,af,g⟩ K a w:=by
 obtain⟨b',o',ci,he,hb,hbl,h1,h2⟩:=hP
 cases he
 have hl:=e.len h1
 have hv:∃ v,mkV ag ci=some v:=by
  rcases hag with rfl | hn
  ·exact⟨_,rfl⟩
  ·cases ag with
   | true=>exact⟨_,rfl⟩
   | false=>match ci,hl.trans hn with | [u],_=>exact⟨u,rfl⟩
 obtain⟨v,hv⟩:=hv
 refine tE hS hd hg (v:=v) (w':=w) ?_ (k ci h1 v hv)
 simp[execOp,hS.eval hx,Instr.loadAt,Instr.sureAddr,zHB (cs:=ci) (by rw[hl];exact ht) h2 hv]
theorem ba_get{s:zD}{k:Nat}{u:UInt8}(h:s[k]?=some u): (ByteArray.mk s.toArray)[k]?=some u:=by
 obtain⟨hlt,hv⟩:=Qe.1 h
 have hsz:k<(ByteArray.mk s.toArray).size:=by simpa [ByteArray.size] using hlt
 rw[getElem?_pos (ByteArray.mk s.toArray) k hsz]
 show some ((s.toArray)[k]'(by grind))=some u
 simp[hv]
theorem r_sidx{x y:Operand}{t:TypeId}{s:zD}{i b:Int}{kd:IntKind}{d:Option Tmp}(hS:qL a n S)(hx:zL S x=some (vs s))(hy:zL S y=some (.int kd i))(hu:P.underlying t=some .string)(hm:xX s i=some b)(w:World):
  (execOp a.eval ⟨d,.index t x y,ty,pos,af,g⟩).run P w=.ok (.value (.int .u8 b)) w:=by
 unfold xX at hm
 split at hm
 ·rename_i h0
  cases hs:s[i.toNat]? with
  | none=>grind
  | some u =>
   simp only[hs,Option.map_some,Qg] at hm
   subst hm
   have hb:(ByteArray.mk s.toArray)[i.toNat]?=some u:=ba_get hs
   simp[execOp,hS.eval hx,hS.eval hy,Instr.index,asIntOf,run_underlying hu,h0,hb]
 ·cases hm
theorem z1d{x y:Operand}{t u:TypeId}{p q r:zD}{d:Option Tmp}(hS:qL a n S)(hx:zL S x=some (vs p))(hy:zL S y=some (vs q))(hm:cat p q=some r)(w:World):
  (execOp a.eval ⟨d,.binOp .add t x y u,ty,pos,af,g⟩).run P w=.ok (.value (vs r)) w:=by
 unfold cat at hm
 split at hm
 ·rename_i h0
  simp only[Qg] at hm
  subst hm
  have hsz:¬ (IntKind.i64.max<(((ByteArray.mk p.toArray).size+(ByteArray.mk q.toArray).size:Nat):Int)):=by
   have:IntKind.i64.max=9223372036854775807:=rfl
   simp only[this,ByteArray.size,QS]
   omega
  have happ:(ByteArray.mk p.toArray)++(ByteArray.mk q.toArray)=ByteArray.mk (p++q).toArray:=by
   apply ByteArray.ext
   simp[ByteArray.data_append]
  have hrun:(binOp .add t (vs p) (vs q)).run P w=.ok (vs (p++q)) w:=by
   simp only[binOp,Op.stringOp,vs]
   rw[Qi hsz,happ]
   rfl
  simp[execOp,hS.eval hx,hS.eval hy,zVq,hrun]
 ·cases hm
def Bd (v:Option Value)(i dflt:Int): Prop:=(v=none∧i=dflt)∨∃ k,v=some (.int k i)
theorem zPk{b:Bool}{m c:Nat}{lo hi:Option Value}{i j:Int}(h1:Bd lo i 0)(h2:Bd hi j m)(h0:0≤i)(hij:i≤j)(hj:j≤c):
  (Instr.sliceBounds b m c lo hi none).run P w=.ok (i.toNat,j.toNat,c) w:=by
 have h0j:0≤j:=by omega
 rcases h1 with⟨rfl,rfl⟩ | ⟨k1,rfl⟩ <;> rcases h2 with⟨rfl,rfl⟩ | ⟨k2,rfl⟩ <;>
  simp[Instr.sliceBounds,Instr.sliceBound,asIntOf,h0,hj,h0j]
 ·omega
 ·omega
def tI (S:List (Nat×Value)): Option Operand->Option (Option Value)
 | none=>some none
 | some x=>(zL S x).map some
theorem qL.evalO{a:Act}{n:Nat}{S:List (Nat×Value)}(h:qL a n S){x:Option Operand}{v:Option Value}(hx:tI S x=some v): x.map a.eval=v:=by
 cases x with
 | none=>simpa [tI] using hx
 | some x =>
  simp only[tI,UG] at hx
  obtain⟨u,hu,rfl⟩:=hx
  simp[h.eval hu]
theorem z9f (s:zD)(i j:Nat): (ByteArray.mk s.toArray).extract i j=ByteArray.mk ((s.take j).drop i).toArray:=by
 apply ByteArray.ext
 simp[Wd]
theorem z7n{x:Operand}{lo hi:Option Operand}{vlo vhi:Option Value}{t:TypeId}{s r:zD}{i j:Int}{d:Option Tmp}(hS:qL a n S)(hx:zL S x=some (vs s))(hu:P.underlying t=some .string)
  (hlo:tI S lo=some vlo) (hhi:tI S hi=some vhi) (bl:Bd vlo i 0) (bh:Bd vhi j s.length) (hm:sub s i j=some r) (w:World) :
  (execOp a.eval ⟨d,.slice t x lo hi none,ty,pos,af,g⟩).run P w=.ok (.value (vs r)) w:=by
 unfold sub at hm
 split at hm
 ·rename_i h0
  simp only[Qg] at hm
  obtain⟨h1,h2,h3⟩:=h0
  subst hm
  have hsz:(ByteArray.mk s.toArray).size=s.length:=by simp[ByteArray.size]
  have hb:=zPk (P:=P) (w:=w) (b:=false) (m:=s.length) (c:=s.length) bl bh h1 h2 h3
  simp[execOp,hS.eval hx,hS.evalO hlo,hS.evalO hhi,Instr.sliceAt,Instr.slice,run_underlying hu,hsz,hb,z9f]
 ·cases hm
end
end
section
open Go Go.RowKit
variable {qd:Prop}
section
variable {P:Program}{ops:Array Oper}{Q:Exit->Act->World->Prop}
def closedB (ops:Array Oper)(listed:Array Bool): Bool :=
 (List.range ops.size).all λj=>!listed.getD j false||match ops[j]? with
  | some oj=>oj.after.all λe=>!Region.binds .any e||listed.getD e.on false
  | none=>true
structure zWP (ops:Array Oper)(listed:Array Bool): Prop where
 size:listed.size=ops.size
 deps:∀ j oj,ops[j]?=some oj->listed.getD j false=true->∀ e∈oj.after,Region.binds .any e=true->listed.getD e.on false=true
theorem closed_of{listed:Array Bool}(hs:listed.size=ops.size)(h:closedB ops listed=true): zWP ops listed:=by
 refine⟨hs,λj oj hj hl e he hb=>?_⟩
 have hlt:j<ops.size:=(Qu.1 hj).1
 have h1:=QW.1 h j (Ua.2 hlt)
 simp only[hl,QO,UO,hj] at h1
 grind [Array.all_eq_true']
theorem zWP.set{listed:Array Bool}{i:Nat}(h:zWP ops listed)(hr:i∈Region.ready .any ops listed): zWP ops (listed.setIfInBounds i true):=by
 obtain⟨_,oi,hoi,hall⟩:=mem_ready.1 hr
 refine⟨by simp[h.size],λj oj hj hl e he hb=>?_⟩
 by_cases hij:i=j
 ·grind [getD_set_true]
 ·rw[getD_set_ne false hij] at hl
  exact getD_set_true (h.deps j oj hj hl e he hb)
def behind (ops:Array Oper)(i:Nat): Nat->Nat->Bool
 | 0,_=>false
 | f+1,j=>match ops[j]? with
  | some oj=>oj.after.any λe=>Region.binds .any e&&(e.on==i||behind ops i f e.on)
  | none=>false
theorem zVc{listed:Array Bool}(hc:zWP ops listed){i:Nat}: ∀(f j:Nat),behind ops i f j=true->listed.getD j false=true->listed.getD i false=true
 | 0,j,h,_=>by simp[behind] at h
 | f+1,j,h,hl=>by
  simp only[behind] at h
  split at h
  ·rename_i oj hj
   obtain⟨e,he,hb⟩:=Array.any_eq_true'.1 h
   simp only[QA,Uv,Q5] at hb
   have h1:=hc.deps j oj hj hl e he hb.1
   rcases hb.2 with h2 | h2
   ·grind
   ·exact zVc hc f e.on h2 h1
  ·cases h
variable {S:Array Bool->World->Prop}
def wK (P:Program)(ops:Array Oper)(Q:Exit->Act->World->Prop)(S:Array Bool->World->Prop): Nat->Array Bool->Act->World->Prop
 | 0,listed,a,w=>Region.ready .any ops listed=[]∧Q .normal a w
 | fuel+1,listed,a,w =>
  (Region.ready .any ops listed=[]->Q .normal a w) ∧
  ∀ i∈Region.ready .any ops listed,wpOp P ops Q i (λa' w'=>S (listed.setIfInBounds i true) w'∧wK P ops Q S fuel (listed.setIfInBounds i true) a' w') a w
theorem z1s:∀(fuel:Nat) (listed:Array Bool) (a:Act) (w:World),wK P ops Q S fuel listed a w->wpAny P .any ops Q fuel listed a w
 | 0,_,_,_,h=>h
 | fuel+1,_,_,_,h=>⟨h.1,λi hi=>wpOp_mono (λa' w' h'=>z1s fuel _ a' w' h'.2) (h.2 i hi)⟩
theorem zZP{S':Array Bool->World->Prop}: ∀(fuel:Nat) (listed:Array Bool) (a:Act) (w:World),
  (∀ l w,(∀ k,listed.getD k false=true->l.getD k false=true)->S' l w->S l w)->wK P ops Q S' fuel listed a w->wK P ops Q S fuel listed a w
 | 0,_,_,_,_,h=>h
 | fuel+1,_,_,_,hs,h=>⟨h.1,λi hi=>wpOp_mono (λa' w' h'=>⟨hs _ _ (λ_ hk=>getD_set_true hk) h'.1,
   zZP fuel _ a' w' (λl w hl=>hs l w λk hk=>hl k (getD_set_true hk)) h'.2⟩) (h.2 i hi)⟩
def zMT (P:Program)(ops:Array Oper)(S:Array Bool->World->Prop)(i:Nat)(o:Oper)(v:Value)(a:Act): Prop :=
 (Region.wanted o (yielded ops a.tmps)=true∧∀ listed w,zWP ops listed->listed.getD i true=false->S listed w->(execOp a.eval o).run P w=.ok (.value v) w) ∨
 (Region.wanted o (yielded ops a.tmps)=false∧v=undef)
theorem zMT.wpOp{i:Nat}{o:Oper}{v:Value}{a:Act}(hi:ops[i]?=some o)(hy:zMT P ops S i o v a){listed:Array Bool}(hc:zWP ops listed)(hun:listed.getD i true=false)
  {K:Act->World->Prop} {w:World} (hS:S listed w) (h:K (a.put o.dst v) w):wpOp P ops Q i K a w:=by
 unfold Go.wpOp
 simp only[hi]
 rcases hy with⟨hw,hv⟩ | ⟨hw,rfl⟩
 ·simp only[hw,Qf,Oper.wp,hv listed w hc hun hS,Oper.upon];grind
 grind
theorem zMT.of_same{i:Nat}{o:Oper}{v:Value}{a a':Act}(hy:zMT P ops S i o v a)(he:execOp a'.eval o=execOp a.eval o)
  (hw:Region.wanted o (yielded ops a'.tmps)=Region.wanted o (yielded ops a.tmps)):zMT P ops S i o v a':=by grind [zMT]
theorem wpOp_putL{i j:Nat}{oi oj:Oper}{v:Value}(hj:ops[j]?=some oj)(hap:oi.apart ops oj=true)
  (hsi:∀ cs b,oi.op≠.select cs b) (hsj:∀ cs b,oj.op≠.select cs b)
  (hQ:∀ c a w,Q (.panic c) (a.put oi.dst v) w->Q (.panic c) a w) {K:Act->World->Prop} {a:Act} {w:World}
  (hy:zMT P ops S i oi v a) (h:wpOp P ops Q j K (a.put oi.dst v) w) :
  wpOp P ops Q j (λa' w'=>zMT P ops S i oi v a'∧K (a'.put oi.dst v) w') a w:=by
 obtain⟨h1,h2,h3⟩:=Oper.apart_spec hap
 have keep:∀(a:Act),zMT P ops S i oi v a->∀ u,zMT P ops S i oi v (a.put oj.dst u):=λa hy u =>
  hy.of_same (execOp_put oi hsi a oj.dst u h3) (wanted_put oi a oj.dst u h3)
 have keepD:∀ d,zMT P ops S i oi v { a with defers:=d::a.defers }:=λd=>hy.of_same rfl rfl
 unfold wpOp at *
 simp only[hj] at *
 rw[wanted_put oj a oi.dst v h1] at h
 split
 ·rename_i hw
  simp only[hw,Qf] at h
  rcases h with h | ⟨hasks,hlets⟩
  case inr=>exact .inr ⟨by unfold Oper.asks at *;rw[execOp_put oj hsj a oi.dst v h1] at hasks;exact hasks,hlets⟩
  refine .inl ?_
  unfold Oper.wp at *
  rw[execOp_put oj hsj a oi.dst v h1] at h
  generalize (execOp a.eval oj).run P w=r at *
  cases r with
  | ok n w' =>
   cases n <;> simp only[Oper.upon] at h ⊢
   case value u=>grind [Act.put_comm]
   case skip=>grind [Act.put_comm]
   case defer d =>
    grind [Act.put_comm,Act.put_defers]
   case enter f args =>
    refine Calls.mono h λe w'' he=>?_
    grind [Act.put_comm]
   grind [Act.put_comm]
  | halt x w' =>
   cases x <;> simp only[Oper.upon] at h ⊢
   grind
 grind [Act.put_comm]
theorem wpL_first{i:Nat}{oi:Oper}{v:Value}(hi:ops[i]?=some oi)(hsel:∀(j:Nat) (o:Oper) cs b,ops[j]?=some o->o.op≠.select cs b)
  (hQ:∀ c a w,Q (.panic c) (a.put oi.dst v) w->Q (.panic c) a w) (hSi:∀ l w,S (l.setIfInBounds i true) w↔S l w) :
  ∀(fuel:Nat) (listed:Array Bool) (a:Act) (w:World),
   (∀ j oj,ops[j]?=some oj->j≠i->listed.getD j true=false->(∀ e∈oj.after,Region.binds .any e=true->e.on≠i)->oi.apart ops oj=true)->
   zWP ops listed->i∈Region.ready .any ops listed->zMT P ops S i oi v a->S listed w->
   wK P ops Q S fuel (listed.setIfInBounds i true) (a.put oi.dst v) w->wK P ops Q S (fuel+1) listed a w:=by
 intro fuel
 induction fuel with
 | zero =>
  intro listed a w _ hc hr hy hS H
  have hun:=(mem_ready.1 hr).1
  refine⟨λh=>(by grind),λj hj=>?_⟩
  by_cases hji:j=i
  ·subst hji;exact hy.wpOp hi hc hun hS ⟨(hSi _ _).2 hS,H⟩
  ·have:=ready_mono hj hji
   grind [wK]
 | succ fuel ih =>
  intro listed a w hfree hc hr hy hS H
  have hun:=(mem_ready.1 hr).1
  refine⟨λh=>(by grind),λj hj=>?_⟩
  by_cases hji:j=i
  ·subst hji;exact hy.wpOp hi hc hun hS ⟨(hSi _ _).2 hS,H⟩
  ·have h1:=H.2 j (ready_mono hj hji)
   obtain⟨hjun,oj,hoj,hall⟩:=mem_ready.1 hj
   have hnot:∀ e∈oj.after,Region.binds .any e=true->e.on≠i:=λe he hb heq=>by
    have h1:=hall e he hb
    grind
   have h2:=wpOp_putL hoj (hfree j oj hoj hji hjun hnot) (λcs b=>hsel i oi cs b hi) (λcs b=>hsel j oj cs b hoj) hQ hy h1
   have hfree':∀ k ok,ops[k]?=some ok->k≠i->(listed.setIfInBounds j true).getD k true=false->
     (∀ e∈ok.after,Region.binds .any e=true->e.on≠i)->oi.apart ops ok=true:=λk ok hk hki hun hno=>by
    refine hfree k ok hk hki ?_ hno
    by_cases hjk:j=k
    ·grind
    ·rw[getD_set_ne true hjk] at hun;exact hun
   have hcomm:(listed.setIfInBounds i true).setIfInBounds j true=(listed.setIfInBounds j true).setIfInBounds i true:=Array.setIfInBounds_comm _ _ (Ne.symm hji)
   refine wpOp_mono (λa' w' h3=>?_) h2
   have hSj:S (listed.setIfInBounds j true) w':=(hSi _ _).1 (hcomm▸h3.2.1)
   exact⟨hSj,ih (listed.setIfInBounds j true) a' w' hfree' (hc.set hj) (ready_mono hr (Ne.symm hji)) h3.1 hSj (hcomm▸h3.2.2)⟩
def SB (B:List Nat)(C:World->Prop)(listed:Array Bool)(w:World): Prop:=B.all (λj=>!listed.getD j false)=true->C w
def CC (qd:Prop)(A:List Nat)(Ls:List zJ)(w0:World)(J:List Nat): World->Prop:=λw=>∃ Ls',zZ A w Ls'∧zU qd Ls w0 Ls' w∧J.map (Ls'[·]?)=J.map (Ls[·]?)
theorem CC.here{A:List Nat}{Ls:List zJ}{w:World}(hO:zZ A w Ls)(J:List Nat): CC qd A Ls w J w:=⟨Ls,hO,zU.refl _ _,rfl⟩
theorem SB_insens{B:List Nat}{C:World->Prop}{i:Nat}(hi:B.contains i=false)(l:Array Bool)(w:World): SB B C (l.setIfInBounds i true) w↔SB B C l w:=by
 have:B.all (λj=>!(l.setIfInBounds i true).getD j false)=B.all (λj=>!l.getD j false):=by
  rw[QZ,QW,QW]
  refine⟨λh j hj=>?_,λh j hj=>?_⟩
  ·have hne:i≠j:=λe=>by grind
   have:=h j hj;simp_all
  ·have hne:i≠j:=λe=>by grind
   simp_all
 grind [SB]
def vZ (ops:Array Oper)(B:List Nat)(listed:Array Bool)(i:Nat): Bool :=
 Region.noSelect ops&&Region.free .any ops listed i&&(Region.ready .any ops listed).contains i&&closedB ops listed&&listed.size==ops.size&&!B.contains i
variable {a:Act}{n:Nat}{St:List (Nat×Value)}{w:World}{A:List Nat}{Ls:List zJ}{B J:List Nat}{listed:Array Bool}{fuel:Nat}
theorem d_start{id:Nat}{l:List Oper}(hm:P.follows .mixedOrders=true)(B J:List Nat)(hO:zZ A w Ls)
  (h:∀ w',zZ A w' Ls->zU qd Ls w Ls w'->wK P l.toArray Q (SB B (CC qd A Ls w' J)) l.length (Array.replicate l.length false) a w'):(Code.region id l.toArray true).wp P Q a w:=by
 refine wp_region_any hm (z1s (S:=SB B (CC qd A Ls { w with drawn:=w.drawn+1 } J)) _ _ _ _ ?_)
 have hh:=h { w with drawn:=w.drawn+1 } ⟨hO.old,hO.has,hO.nodup,hO.apart⟩ ⟨rfl,rfl,rfl,λ_=>Wj _,Qr _,λ_ _ _=>rfl,λ_ hb=>.inl hb⟩
 grind
theorem d_end (hr:Region.ready .any ops listed=[])(h:Q .normal a w): ∀ fuel,wK P ops Q (SB B (CC qd A Ls w J)) fuel listed a w
 | 0=>⟨hr,h⟩
 | _+1=>⟨λ_=>h,by grind⟩
theorem z0a{i d:Nat}{op:Op}{ty:TypeId}{pos:String}{af:Array Edge}{g:Option (Nat×Bool)}{v:Value}(hO:zZ A w Ls)(hS:qL a n St)
  (hi:ops[i]?=some ⟨some d,op,ty,pos,af,g⟩) (hk:vZ ops B listed i=true) (hd:Nat.blt d n=true) (hQ:∀ c a w,Q (.panic c) (a.put (some d) v) w->Q (.panic c) a w)
  (hy:zMT P ops (SB B (CC qd A Ls w J)) i ⟨some d,op,ty,pos,af,g⟩ v a)
  (k:∀ a',qL a' n ((d,v)::St)->wK P ops Q (SB B (CC qd A Ls w J)) fuel (listed.setIfInBounds i true) a' w):wK P ops Q (SB B (CC qd A Ls w J)) (fuel+1) listed a w:=by
 simp only[vZ,QA,Q5,Bool.not_eq_true'] at hk
 obtain⟨⟨⟨⟨⟨h1,h2⟩,h3⟩,h4⟩,h5⟩,h6⟩:=hk
 exact wpL_first hi (Region.noSelect_spec h1) hQ (SB_insens h6) fuel listed a w (Region.free_spec hi h2) (closed_of h5 h4) (by grind) hy
  (λ_=>CC.here hO J) (k _ (hS.put hd v))
theorem d_pure (i:Nat){d:Nat}{op:Op}{ty:TypeId}{pos:String}{af:Array Edge}{g:Option (Nat×Bool)}(v:Value)(hO:zZ A w Ls)(hS:qL a n St)
  (hi:ops[i]?=some ⟨some d,op,ty,pos,af,g⟩) (hk:vZ ops B listed i=true) (hd:Nat.blt d n=true) (hQ:∀ c a w,Q (.panic c) (a.put (some d) v) w->Q (.panic c) a w)
  (hg:zS ops St g=some true) (hv:pv P St op=some v)
  (k:∀ a',qL a' n ((d,v)::St)->wK P ops Q (SB B (CC qd A Ls w J)) fuel (listed.setIfInBounds i true) a' w):wK P ops Q (SB B (CC qd A Ls w J)) (fuel+1) listed a w :=
 z0a hO hS hi hk hd hQ (.inl ⟨zGr (o:=⟨some d,op,ty,pos,af,g⟩) hS hg,λ_ w' _ _ _=>z2D hS hv _ _ _ _ _ w'⟩) k
theorem z9C (i:Nat){d:Nat}{op:Op}{ty:TypeId}{pos:String}{af:Array Edge}{g:Option (Nat×Bool)}{v:Value}(hO:zZ A w Ls)(hS:qL a n St)
  (hi:ops[i]?=some ⟨some d,op,ty,pos,af,g⟩) (hk:vZ ops B listed i=true) (hd:Nat.blt d n=true) (hQ:∀ c a w,Q (.panic c) (a.put (some d) v) w->Q (.panic c) a w)
  (hg:zS ops St g=some true) (hv:∀ w',(execOp a.eval ⟨some d,op,ty,pos,af,g⟩).run P w'=.ok (.value v) w')
  (k:∀ a',qL a' n ((d,v)::St)->wK P ops Q (SB B (CC qd A Ls w J)) fuel (listed.setIfInBounds i true) a' w):wK P ops Q (SB B (CC qd A Ls w J)) (fuel+1) listed a w :=
 z0a hO hS hi hk hd hQ (.inl ⟨zGr (o:=⟨some d,op,ty,pos,af,g⟩) hS hg,λ_ w' _ _ _=>hv w'⟩) k
theorem d_skip (i:Nat){d:Nat}{op:Op}{ty:TypeId}{pos:String}{af:Array Edge}{g:Option (Nat×Bool)}(hO:zZ A w Ls)(hS:qL a n St)
  (hi:ops[i]?=some ⟨some d,op,ty,pos,af,g⟩) (hk:vZ ops B listed i=true) (hd:Nat.blt d n=true) (hQ:∀ c a w,Q (.panic c) (a.put (some d) undef) w->Q (.panic c) a w)
  (hg:zS ops St g=some false)
  (k:∀ a',qL a' n ((d,undef)::St)->wK P ops Q (SB B (CC qd A Ls w J)) fuel (listed.setIfInBounds i true) a' w):wK P ops Q (SB B (CC qd A Ls w J)) (fuel+1) listed a w :=
 z0a hO hS hi hk hd hQ (.inr ⟨zGr (o:=⟨some d,op,ty,pos,af,g⟩) hS hg,rfl⟩) k
theorem z2i{B:List Nat}{i:Nat}(hb:B.all (λj=>behind ops i ops.size j)=true){l:Array Bool}(hc:zWP ops l)(hun:l.getD i true=false): B.all (λj=>!l.getD j false)=true:=by grind [zVc]
theorem map_get{J:List Nat}{L L':List zJ}(h:J.map (L'[·]?)=J.map (L[·]?)){j:Nat}(hj:J.contains j=true): L'[j]?=L[j]?:=by simp_all
theorem z9R (i r:Nat){d:Nat}{x:Operand}{t b o:Nat}{c:Array Value}{te:TypeId}{fr:Nat×Nat}{v:Value}{ty:TypeId}{pos:String}{af:Array Edge}{g:Option (Nat×Bool)}(hO:zZ A w Ls)(hS:qL a n St)
  (hi:ops[i]?=some ⟨some d,.load t x,ty,pos,af,g⟩) (hk:vZ ops B listed i=true) (hd:Nat.blt d n=true) (hQ:∀ c a w,Q (.panic c) (a.put (some d) v) w->Q (.panic c) a w)
  (hg:zS ops St g=some true) (hb:B.all (λj=>behind ops i ops.size j)=true) (hJ:J.contains r=true)
  (hx:zL St x=some (.pointer (some ⟨b,o,none⟩))) (hr:Ls[r]?=some [(b,.cells c te fr)]) (hv:zNt P t c o=some v)
  (k:∀ a',qL a' n ((d,v)::St)->wK P ops Q (SB B (CC qd A Ls w J)) fuel (listed.setIfInBounds i true) a' w):wK P ops Q (SB B (CC qd A Ls w J)) (fuel+1) listed a w:=by
 refine z0a hO hS hi hk hd hQ (.inl ⟨zGr (o:=⟨some d,.load t x,ty,pos,af,g⟩) hS hg,λl w' hc hun hSw=>?_⟩) k
 obtain⟨Ls',hO',_,hJ'⟩:=hSw (z2i hb hc hun)
 have hr':Ls'[r]?=some [(b,.cells c te fr)]:=by rw[map_get hJ' hJ];exact hr
 simp[execOp,hS.eval hx,Instr.loadAt,Instr.sureAddr,zTD (xK hO' hr' (Qa.2 rfl)) hv]
theorem z9u (i:Nat){τ:Type}{e:E τ}{Z:List Nat}{p:Option Addr}{c:Nat}{l:List τ}{ix:Int}{u:τ}{t:TypeId}{x y:Operand}{kd:IntKind}{d:Nat}{ty:TypeId}{pos:String}{af:Array Edge}{g:Option (Nat×Bool)}
  (hO:zZ A w Ls) (hS:qL a n St) (hi:ops[i]?=some ⟨some d,.indexAddr t x y,ty,pos,af,g⟩) (hk:vZ ops B listed i=true) (hd:Nat.blt d n=true) (hQ:∀ c (v:Value) a w,Q (.panic c) (a.put (some d) v) w->Q (.panic c) a w)
  (hg:zS ops St g=some true) (hR:xF e Z w p c l) (hx:zL St x=some (.slice p l.length c)) (hy:zL St y=some (.int kd ix)) (ht:yE P t=some e.n) (hm:zC l ix=some u)
  (k:∀ b o,tX e Z w ⟨b,o,none⟩ u->∀ a',qL a' n ((d,.pointer (some ⟨b,o,none⟩))::St)->wK P ops Q (SB B (CC qd A Ls w J)) fuel (listed.setIfInBounds i true) a' w):wK P ops Q (SB B (CC qd A Ls w J)) (fuel+1) listed a w:=by
 unfold zC at hm
 split at hm
 ·rename_i h0
  obtain⟨hlt,hv⟩:=Qe.1 hm
  rcases hR.2 with rfl | ⟨b,off,cs,rfl,hb,hbl,hl,hc⟩
  ·simp at hlt
  ·obtain⟨ci,h1,h2⟩:=e.rdL_get hl hm
   refine z0a hO hS hi hk hd (λc=>hQ c _) (.inl ⟨zGr (o:=⟨some d,.indexAddr t x y,ty,pos,af,g⟩) hS hg,λl' w' _ _ _=>?_⟩) (k b (off+ix.toNat*e.n) ⟨b,_,ci,rfl,hb,hbl,h1,λj u hu=>?_⟩)
   ·simp[execOp,hS.eval hx,hS.eval hy,zMR (m:=l.length) ht h0 (by omega)]
   grind
 ·cases hm
theorem d_load_pt (i:Nat){τ:Type}{e:E τ}{b o:Nat}{y:τ}{t:TypeId}{x:Operand}(ag:Bool){d:Nat}{ty:TypeId}{pos:String}{af:Array Edge}{g:Option (Nat×Bool)}
  (hO:zZ A w Ls) (hS:qL a n St) (hi:ops[i]?=some ⟨some d,.load t x,ty,pos,af,g⟩) (hk:vZ ops B listed i=true) (hd:Nat.blt d n=true) (hQ:∀ c (v:Value) a w,Q (.panic c) (a.put (some d) v) w->Q (.panic c) a w)
  (hg:zS ops St g=some true) (hb:B.all (λj=>behind ops i ops.size j)=true) (hP:tX e (bl Ls++A) w ⟨b,o,none⟩ y) (hx:zL St x=some (.pointer (some ⟨b,o,none⟩))) (ht:vW P t=some (ag,e.n))
  (k:∀ ci,e.rd (bl Ls++A) w ci y->∀ v,mkV ag ci=some v->∀ a',qL a' n ((d,v)::St)->wK P ops Q (SB B (CC qd A Ls w J)) fuel (listed.setIfInBounds i true) a' w) (hag:ag=true∨e.n=1) :
  wK P ops Q (SB B (CC qd A Ls w J)) (fuel+1) listed a w:=by
 obtain⟨b',o',ci,he,hbn,hbl,h1,h2⟩:=hP
 cases he
 have hl:=e.len h1
 have hv:∃ v,mkV ag ci=some v:=by
  rcases hag with rfl | hn
  ·exact⟨_,rfl⟩
  ·cases ag with
   | true=>exact⟨_,rfl⟩
   | false=>match ci,hl.trans hn with | [u],_=>exact⟨u,rfl⟩
 obtain⟨v,hv⟩:=hv
 refine z0a hO hS hi hk hd (λc=>hQ c _) (.inl ⟨zGr (o:=⟨some d,.load t x,ty,pos,af,g⟩) hS hg,λl w' hc hun hSw=>?_⟩) (k ci h1 v hv)
 obtain⟨Ls',_,hE',_⟩:=hSw (z2i hb hc hun)
 have hkeep:=hE'.keep b hbl (λhm=>hbn (Qb.2 (.inl hm)))
 simp[execOp,hS.eval hx,Instr.loadAt,Instr.sureAddr,zHB (cs:=ci) (by rw[hl];exact ht) (λj u hu=>by rw[World.cell?_of_block (w:=w) hkeep];exact h2 j u hu) hv]
theorem d_one (i:Nat){oi:Oper}(hr:Region.ready .any ops listed=[i])(hi:ops[i]?=some oi)
  (h:vD P ops Q oi (λa' w'=>SB B (CC qd A Ls w J) (listed.setIfInBounds i true) w'∧wK P ops Q (SB B (CC qd A Ls w J)) fuel (listed.setIfInBounds i true) a' w') a w):wK P ops Q (SB B (CC qd A Ls w J)) (fuel+1) listed a w:=by
 refine⟨λh0=>(by grind),λj hj=>?_⟩
 rw[hr] at hj
 simp only[Qa] at hj
 subst hj
 unfold wpOp
 simp only[hi]
 unfold vD at h
 grind
theorem d_next{Ls':List zJ}{w':World}{l:Array Bool}(hO:zZ A w' Ls')(hE:zU qd Ls w Ls' w')(hJ:J.map (Ls'[·]?)=J.map (Ls[·]?))
  (h:wK P ops Q (SB B (CC qd A Ls' w' J)) fuel l a w'):SB B (CC qd A Ls w J) l w'∧wK P ops Q (SB B (CC qd A Ls w J)) fuel l a w':=by
 refine And.intro (λ_=>⟨Ls',hO,hE,hJ⟩) (zZP fuel l a w' ?_ h)
 intro l2 w2 _ hs hb
 obtain⟨L2,h1,h2,h3⟩:=hs hb
 exact⟨L2,h1,hE.trans h2,h3.trans hJ⟩
theorem d_broke{Ls':List zJ}{w':World}{l:Array Bool}(B' J':List Nat)(hb:B.all (λj=>!l.getD j false)=false)
  (h:wK P ops Q (SB B' (CC qd A Ls' w' J')) fuel l a w'):SB B (CC qd A Ls w J) l w'∧wK P ops Q (SB B (CC qd A Ls w J)) fuel l a w':=by
 grind [zZP,SB]
end
end
section
open Go Go.RowKit
variable {qd:Prop}
def vO{τ:Type}(e:E τ)(t:TypeId)(Z:List Nat)(w:World)(r:zJ)(p:Option Addr)(c:Nat)(l:List τ): Prop :=
 (r=[]∧p=none∧c=0∧l=[]) ∨
 ∃ b o cells,r=[(b,.cells cells t (0,0))]∧p=some ⟨b,o,none⟩∧l.length≤c∧c≤maxLen∧o+c*e.n≤cells.size∧e.rdL Z w ((cells.toList.drop o).take (l.length*e.n)) l
def Src{τ:Type}(e:E τ)(Z:List Nat)(w:World)(p:Option Addr)(l:List τ): Prop :=
 l=[]∨∃ b off cs,p=some ⟨b,off,none⟩∧e.rdL Z w cs l∧∀ j u,cs[j]?=some u->w.cell? ⟨b,off+j,none⟩=some u
section
variable {τ:Type}{e:E τ}{t:TypeId}{Z Z':List Nat}{w w':World}{r:zJ}{p:Option Addr}{c:Nat}{l:List τ}{A:List Nat}{Ls:List zJ}
theorem vO.mv (h:vO e t Z w r p c l)(s:vY Z w Z' w'): vO e t Z' w' r p c l:=by
 rcases h with h | ⟨b,o,cells,h1,h2,h3,h4,h5,h6⟩
 ·exact .inl h
 ·exact .inr ⟨b,o,cells,h1,h2,h3,h4,h5,e.rdL_step s h6⟩
theorem vO.mk0 (b:Nat)(cells:Array Value)(h1:r=[(b,.cells cells t (0,0))])(h2:p=some ⟨b,0,none⟩)(h3:l.length≤c)(h4:c≤maxLen)(h5:cells.size=c*e.n)(h6:e.rdL Z w (cells.toList.take (l.length*e.n)) l): vO e t Z w r p c l :=
 .inr ⟨b,0,cells,h1,h2,h3,h4,by grind,h6⟩
theorem vO.nil:vO e t Z w [] none 0 []:=.inl ⟨rfl,rfl,rfl,rfl⟩
theorem xF.src (h:xF e Z w p c l): Src e Z w p l:=by grind [xF,Src]
theorem vO.src (h:vO e t Z w r p c l)(hO:zZ A w Ls){i:Nat}(hr:Ls[i]?=some r): Src e Z w p l:=by
 rcases h with⟨_,_,_,h⟩ | ⟨b,o,cells,rfl,rfl,h3,h4,h5,h6⟩
 ·exact .inl h
 ·refine .inr ⟨b,o,_,rfl,h6,λj u hu=>?_⟩
  have hb:=xK hO hr (Qa.2 rfl)
  grind [cell_of_row]
theorem sub_drop{i:Nat}: ∀ b∈bl (Ls.set i [])++A,b∈bl Ls++A:=by
 intro b hb
 rcases Qb.1 hb with h | h
 ·rcases zHA h with⟨p,hp,_⟩ | ⟨j,s,_,hs,p,hp,rfl⟩
  ·cases hp
  grind [zCo]
 grind
theorem vY.dropped (i:Nat)(Ls:List zJ)(A:List Nat)(w:World): vY (bl Ls++A) w (bl (Ls.set i [])++A) w:=vY.less w sub_drop
theorem zZ.dropped (hO:zZ A w Ls)(i:Nat): zZ A w (Ls.set i []):=by
 cases hr:Ls[i]? with
 | none =>
  grind [List.set_eq_of_length_le]
 | some r=>exact hO.set hr (Qr _) (λ_ _ _=>rfl) (by simp) (by simp) (by simp)
theorem zU.dropped{L:List zJ}{w0:World}(h:zU qd L w0 Ls w)(i:Nat): zU qd L w0 (Ls.set i []) w:=h.drop λb hb=>by
 rcases zHA hb with⟨p,hp,_⟩ | ⟨j,s,_,hs,p,hp,rfl⟩
 ·cases hp
 ·exact zCo hs hp
theorem vO.share (h:vO e t (bl Ls++A) w r p c l)(hO:zZ A w Ls){i:Nat}(hr:Ls[i]?=some r): xF e (bl (Ls.set i [])++A) w p c l:=by
 rcases h with⟨_,_,_,rfl⟩ | ⟨b,o,cells,rfl,rfl,h3,h4,h5,h6⟩
 ·exact⟨Uy _,.inl rfl⟩
 ·have hb:=xK hO hr (Qa.2 rfl)
  refine⟨h3,.inr ⟨b,o,_,rfl,λhm=>?_,(Qu.1 hb).1,e.rdL_step (vY.dropped i Ls A w) h6,λj u hu=>?_⟩⟩
  ·rcases Qb.1 hm with hm | hm
   ·rcases zHA hm with⟨q,hq,_⟩ | ⟨j,s,hj,hs,q,hq,he⟩
    ·cases hq
    ·exact zGM hO.nodup hr hs (λe=>hj e.symm) _ (Qa.2 rfl) q hq he.symm
   ·exact hO.apart b (zCo hr (Qa.2 rfl)) hm
  grind [cell_of_row]
theorem zZ.room (hO:zZ A w Ls): zZ A w (Ls++[[]]) :=
 ⟨hO.old,λs hs p hp=>(by rcases Qb.1 hs with h | h;exact hO.has s h p hp;grind),(by rw[zDX];simpa [bl] using hO.nodup),λb hb=>(by
  rw[zDX] at hb;simp[bl] at hb;exact hO.apart b hb)⟩
theorem zU.room (Ls:List zJ)(w:World): zU qd Ls w (Ls++[[]]) w :=
 ⟨rfl,rfl,rfl,λ_=>Qr _,Qr _,λ_ _ _=>rfl,λb hb=>by grind [zDX,bl]⟩
end
def uT (P:Program)(t te n:Nat): Bool :=
 match P.underlying t with
 | some (.slice e')=>e'==te&&match P.info? te with
  | some i=>i.size==n&&Nat.ble i.bytes 32768&&Nat.ble 1 n&&match i.zero with
   | some z=>z.cells.size==n
   | none=>false
  | none=>false
 | _=>false
theorem zMz{P:Program}{t te n:Nat}(h:uT P t te n=true):
  P.underlying t=some (.slice te)∧∃ i z,P.info? te=some i∧i.zero=some z∧i.size=n∧i.bytes≤32768∧0<n∧z.cells.size=n:=by
 unfold uT at h
 split at h
 ·rename_i e' hu
  simp only[QA,Q5] at h
  obtain⟨rfl,h⟩:=h
  split at h
  ·rename_i i hi
   simp only[QA,Q5] at h
   obtain⟨⟨⟨h1,h2⟩,h3⟩,h4⟩:=h
   split at h4
   ·rename_i z hz
    exact⟨hu,i,z,hi,hz,h1,Ui h2,Ui h3,by grind⟩
   ·cases h4
  ·cases h
 ·cases h
section
variable {P:Program}{ops:Array Oper}{Q:Exit->Act->World->Prop}{a:Act}{n:Nat}{S:List (Nat×Value)}{w:World}{K:Act->World->Prop}
variable {A:List Nat}{Ls:List zJ}{d:Nat}{ty:TypeId}{pos:String}{af:Array Edge}{g:Option (Nat×Bool)}
theorem zO3{t te:Nat}{s:Option Addr}{m c k:Nat}{q:Option Addr}{rty:TypeId}(hu:P.underlying t=some (.slice te)){i:TypeInfo}(hi:P.info? te=some i)(hm:m≤c):
  (Builtin.append_ #[t,t] rty #[.slice s m c,.slice q 0 k]).run P w=.ok (.slice s m c) w:=by
 have hf:(Builtin.firstCells i.size 0 (.slice q 0 k)).run P w=.ok #[] w:=by
  cases q with
  | none=>rfl
  | some b=>simp[Builtin.firstCells,loadCells,loadCellsFrom]
 cases s <;> simp[Builtin.append_,run_underlying hu,sizeOf,typeInfo,hi,Builtin.lenOf,hm,hf,storeCells]
theorem zV9 (w:World)(t ty e:TypeId)(i:TypeInfo)(ht:P.underlying t=some (.slice e))(hi:P.info? e=some i)
  (g o sLen sCap:Nat) (cur:Array Value) (hg:w.heap[g]?=some (.cells cur e (0,0)))
  (a:Addr) (m c:Nat) (news:List Value) (hl:news.length=m*i.size) (hnews:∀ j u,news[j]?=some u->w.cell? (a.add j)=some u) (h1:∀ u∈news,u.oneCell'=true)
  (hroom:sLen+m≤sCap) (hfit:o+sLen*i.size+news.length≤cur.size) :
  (Builtin.append_ #[t,t] ty #[.slice (some ⟨g,o,none⟩) sLen sCap,.slice (some a) m c]).run P w =
   .ok (.slice (some ⟨g,o,none⟩) (sLen+m) sCap) (w.setRow g (cur.toList.take (o+sLen*i.size)++news++cur.toList.drop (o+sLen*i.size+news.length)).toArray):=by
 have hf:=run_firstCells_some (P:=P) w i.size m a m c news hl hnews
 have hst:=run_storeCells_at P g (o+sLen*i.size) e news 0 cur w hg (by grind) h1
 simp only[QM] at hst
 simp[Builtin.append_,run_underlying ht,sizeOf,typeInfo,hi,Builtin.lenOf,hroom,hf,Addr.add_lit,hst]
theorem zVp{α:Type}(c:List α)(o m:Nat)(v:List α)(h:o+m≤c.length): ((c.take (o+m)++v++c.drop (o+m+v.length)).drop o).take (m+v.length)=(c.drop o).take m++v:=by
 rw[Qs,Wi (by grind),Wd,UD,←Qs]
 grind
theorem app_lt{α:Type}{l m z:List α}(h:qF l m=some z): l.length+m.length<4294967296∧z=l++m:=by grind [qF]
theorem z1V{τ:Type}{e:E τ}{t te:Nat}{r:zJ}{p q:Option Addr}{c k i:Nat}{l m z:List τ}(hO:zZ A w Ls)(hr:Ls[i]?=some r)(hA:vO e te (bl Ls++A) w r p c l)
  (hR:Src e (bl Ls++A) w q m) (ht:uT P t te e.n=true) (hm:qF l m=some z) (rty:TypeId) :
  ∃ r' p' c' w',(Builtin.append_ #[t,t] rty #[.slice p l.length c,.slice q m.length k]).run P w=.ok (.slice p' z.length c') w' ∧
   zZ A w' (Ls.set i r')∧zU qd Ls w (Ls.set i r') w'∧vO e te (bl (Ls.set i r')++A) w' r' p' c' z:=by
 obtain⟨hsm,rfl⟩:=app_lt hm
 obtain⟨hu,info,zv,hi,hz,hsize,hby,hpos,hzs⟩:=zMz ht
 have hlc:l.length≤c:=by
  rcases hA with⟨_,_,_,rfl⟩ | ⟨b,o,cells,_,_,h3,_⟩
  ·grind
  ·exact h3
 by_cases hm0:m=[]
 ·subst hm0
  refine⟨r,p,c,w,by grind [zO3],?_,?_,?_⟩
  ·exact hO.set hr (Qr _) (λ_ _ _=>rfl) (λx hx=>xK hO hr hx) (by simpa [bl] using (hO.pick i hr).nodup) (λx hx=>.inl (Qn.2 ⟨x,hx,rfl⟩))
  ·exact zU.set hr rfl rfl rfl (Qr _) (λ_ _ _=>rfl) (λx hx=>.inl (Qn.2 ⟨x,hx,rfl⟩))
  ·have hself:Ls.set i r=Ls:=by
    apply QN;intro j
    by_cases hj:i=j
    ·grind
    ·grind
   grind
 ·have hmpos:0<m.length:=QY.2 hm0
  rcases hR with hR | ⟨b2,off,cs2,rfl,hcs2,hcell⟩
  ·grind
  ·have hl2:cs2.length=m.length*info.size:=by rw[e.rdL_len hcs2,hsize]
   have hnews:∀ j u,cs2[j]?=some u->w.cell? ((⟨b2,off,none⟩:Addr).add j)=some u:=λj u hu=>by grind [zCt]
   have hone:=e.rdL_one hcs2
   have hbytes:(l.length+m.length)*info.bytes≤140737488355328:=by
    have:=Ws (Nat.le_of_lt hsm) hby
    omega
   have h63:((l.length+m.length:Nat):Int)≤9223372036854775807:=by omega
   rcases hA with⟨rfl,rfl,rfl,rfl⟩ | ⟨b,o,cells,rfl,rfl,h3,h4,h5,h6⟩
   ·
    have hrun:=run_append_nil (P:=P) w t rty te info zv hu hi hz ⟨b2,off,none⟩ m.length k cs2 hl2 hnews hmpos (by omega) (by grind)
    have hge:=grownCap_ge w m.length 0 te
    have hcm:=grownCap_le_maxLen w m.length 0 te (by grind [maxLen])
    refine⟨[(w.heap.size,.cells (cs2.toArray++Builtin.zeroCells zv.cells (grownCap w m.length 0 te-m.length)) te (0,0))],_,_,_,by rw[QI];exact hrun,?_,?_,?_⟩
    ·exact hO.set hr (by simp) (λk hk _=>Below.heap_alloc w.drew _ k hk) (λx hx=>by simp only[Qa] at hx;subst hx;exact heap_alloc_new w.drew _) (by simp) (λx hx=>by grind)
    ·exact zU.set hr rfl rfl rfl (by simp) (λk hk _=>Below.heap_alloc w.drew _ k hk) (λx hx=>by grind)
    ·have hE:zU qd Ls w (Ls.set i [(w.heap.size,.cells (cs2.toArray++Builtin.zeroCells zv.cells (grownCap w m.length 0 te-m.length)) te (0,0))]) (w.drew.alloc (.cells (cs2.toArray++Builtin.zeroCells zv.cells (grownCap w m.length 0 te-m.length)) te)) :=
      zU.set hr rfl rfl rfl (by simp) (λk hk _=>Below.heap_alloc w.drew _ k hk) (λx hx=>by grind)
     refine vO.mk0 w.heap.size _ rfl rfl (by grind) hcm ?_ ?_
     ·simp only[Wp,QS,size_zeroCells,hzs,hl2,hsize,←Q1]
      grind
     ·have:(cs2.toArray++Builtin.zeroCells zv.cells (grownCap w m.length 0 te-m.length)).toList.take (([]++m).length*e.n)=cs2:=by
       simp only[Wa,QI]
       rw[←hsize,←hl2];simp
      rw[this]
      exact e.rdL_step (hE.step A) (by grind)
   ·have hb:=xK hO hr (Qa.2 rfl)
    have hlo:((cells.toList.drop o).take (l.length*e.n)).length=l.length*info.size:=by rw[e.rdL_len h6,hsize]
    by_cases hroom:l.length+m.length≤c
    ·
     have hfit0:l.length*info.size+cs2.length≤c*e.n:=by rw[hl2,←Q1,hsize];exact QQ _ hroom
     have hfit:o+l.length*info.size+cs2.length≤cells.size:=by omega
     have hfit1:o+l.length*info.size≤cells.toList.length:=by have:=Wb (xs:=cells);omega
     have hrun:=zV9 (P:=P) w t rty te info hu hi b o l.length c cells hb ⟨b2,off,none⟩ m.length k cs2 hl2 hnews hone hroom hfit
     have hk:∀(cs:Array Value) (k:Nat),k<w.heap.size->k∉[(b,Obj.cells cells te (0,0))].map Prod.fst->(w.setRow b cs).heap[k]?=w.heap[k]?:=λcs k _ hk=>setRow_other w b k _ (λe=>hk (by simp[e]))
     refine⟨[(b,.cells (cells.toList.take (o+l.length*info.size)++cs2++cells.toList.drop (o+l.length*info.size+cs2.length)).toArray te (0,0))],_,c,_,by rw[Qd];exact hrun,?_,?_,?_⟩
     ·exact hO.set hr (by simp) (hk _) (λx hx=>by grind [setRow_heap]) (by simp) (λx hx=>by grind)
     ·exact zU.set hr rfl rfl rfl (by simp) (hk _) (λx hx=>by grind)
     ·have hE:zU qd Ls w (Ls.set i [(b,.cells (cells.toList.take (o+l.length*info.size)++cs2++cells.toList.drop (o+l.length*info.size+cs2.length)).toArray te (0,0))]) (w.setRow b (cells.toList.take (o+l.length*info.size)++cs2++cells.toList.drop (o+l.length*info.size+cs2.length)).toArray) :=
       zU.set hr rfl rfl rfl (by simp) (hk _) (λx hx=>by grind)
      refine .inr ⟨b,o,_,rfl,rfl,by grind,h4,?_,?_⟩
      ·grind
      ·have hsz:(l++m).length*e.n=l.length*info.size+cs2.length:=by
        rw[Qd,hl2,hsize,Q1]
       have:((cells.toList.take (o+l.length*info.size)++cs2++cells.toList.drop (o+l.length*info.size+cs2.length)).toArray.toList.drop o).take ((l++m).length*e.n)=(cells.toList.drop o).take (l.length*e.n)++cs2:=by
        rw[hsz,zVp _ _ _ _ hfit1,hsize]
       rw[this]
       exact e.rdL_append (e.rdL_step (hE.step A) h6) (e.rdL_step (hE.step A) hcs2)
    ·
     have holds:∀ j u,((cells.toList.drop o).take (l.length*e.n))[j]?=some u->w.cell? ((⟨b,o,none⟩:Addr).add j)=some u:=λj u hu=>by
      grind [zCt,cell_of_row]
     have hrun:=run_append_grow (P:=P) w t rty te info zv hu hi hz ⟨b,o,none⟩ l.length c _ hlo holds ⟨b2,off,none⟩ m.length k cs2 hl2 hnews (by omega) h63 (growslice_fits (by omega) hbytes)
     have hge:=grownCap_ge w (l.length+m.length) c te
     have hcm:=grownCap_le_maxLen w (l.length+m.length) c te (by grind [maxLen])
     refine⟨[(w.heap.size,.cells (((cells.toList.drop o).take (l.length*e.n)).toArray++cs2.toArray++Builtin.zeroCells zv.cells (grownCap w (l.length+m.length) c te-(l.length+m.length))) te (0,0))],_,_,_,by rw[Qd];exact hrun,?_,?_,?_⟩
     ·exact hO.set hr (by simp) (λk hk _=>Below.heap_alloc w.drew _ k hk) (λx hx=>by simp only[Qa] at hx;subst hx;exact heap_alloc_new w.drew _) (by simp) (λx hx=>by grind)
     ·exact zU.set hr rfl rfl rfl (by simp) (λk hk _=>Below.heap_alloc w.drew _ k hk) (λx hx=>by grind)
     ·have hE:zU qd Ls w (Ls.set i [(w.heap.size,.cells (((cells.toList.drop o).take (l.length*e.n)).toArray++cs2.toArray++Builtin.zeroCells zv.cells (grownCap w (l.length+m.length) c te-(l.length+m.length))) te (0,0))]) (w.drew.alloc (.cells (((cells.toList.drop o).take (l.length*e.n)).toArray++cs2.toArray++Builtin.zeroCells zv.cells (grownCap w (l.length+m.length) c te-(l.length+m.length))) te)) :=
       zU.set hr rfl rfl rfl (by simp) (λk hk _=>Below.heap_alloc w.drew _ k hk) (λx hx=>by grind)
      refine vO.mk0 w.heap.size _ rfl rfl (by grind) hcm ?_ ?_
      ·simp only[Wp,QS,size_zeroCells,hzs,hlo,hl2,hsize,←Q1]
       grind
      ·have hsz:(l++m).length*e.n=((cells.toList.drop o).take (l.length*e.n)++cs2).length:=by
        rw[Qd,Qd,hlo,hl2,hsize,Q1]
       have:(((cells.toList.drop o).take (l.length*e.n)).toArray++cs2.toArray++Builtin.zeroCells zv.cells (grownCap w (l.length+m.length) c te-(l.length+m.length))).toList.take ((l++m).length*e.n)=(cells.toList.drop o).take (l.length*e.n)++cs2:=by
        rw[hsz];simp only[Wa];exact UX
       rw[this]
       exact e.rdL_append (e.rdL_step (hE.step A) h6) (e.rdL_step (hE.step A) hcs2)
theorem z4e (i:Nat){τ:Type}{e:E τ}{t:TypeId}(te:TypeId){r:zJ}{p q:Option Addr}{c k:Nat}{l m z:List τ}{x y:Operand}(hS:qL a n S)(hd:Nat.blt d n=true)(hg:zS ops S g=some true)(hO:zZ A w Ls)(hr:Ls[i]?=some r)
  (hA:vO e te (bl Ls++A) w r p c l) (hR:Src e (bl Ls++A) w q m) (hx:zL S x=some (.slice p l.length c)) (hy:zL S y=some (.slice q m.length k)) (ht:uT P t te e.n=true) (hm:qF l m=some z)
  (kk:∀ r' p' c' w',zZ A w' (Ls.set i r')->zU qd Ls w (Ls.set i r') w'->vO e te (bl (Ls.set i r')++A) w' r' p' c' z->∀ a',qL a' n ((d,.slice p' z.length c')::S)->K a' w') :
  vD P ops Q ⟨some d,.call { callee:=.builtin .append,args:=[x,y].toArray,argTypes:=[t,t].toArray },ty,pos,af,g⟩ K a w:=by
 obtain⟨r',p',c',w',hrun,h1,h2,h3⟩:=z1V (P:=P) (k:=k) hO hr hA hR ht hm ty
 refine tE hS hd hg (v:=.slice p' z.length c') (w':=w') ?_ (kk r' p' c' w' h1 h2 h3)
 simp[execOp,resolve,invoke,builtin,hS.eval hx,hS.eval hy,hrun]
def zMP (P:Program)(S:List (Nat×Value))(t m:Nat)(parts:List (Nat×Operand)): Option (List Value) :=
 match P.underlying t with
 | some (.slice e)=>match P.info? e with
  | some i=>match i.zero,zXK S parts with
   | some z,some vs=>if Nat.ble (m*i.size) 16777216 then(Instr.fill (λj=>some (j*i.size,i.size)) (if m*i.size=0 then #[] else(Array.range (m*i.size)).map (z.cells[· % z.cells.size]!)) vs).map Array.toList else none
   | _,_=>none
  | none=>none
 | _=>none
theorem zP3{t m te nn:Nat}{parts:Array (Nat×Operand)}{cs:List Value}{w:World}(hS:qL a n S)(ht:uT P t te nn=true)(h:zMP P S t m parts.toList=some cs){d:Option Tmp}:
  (execOp a.eval ⟨d,.buildSlice t m parts,ty,pos,af,g⟩).run P w=.ok (.value (.slice (some ⟨w.heap.size,0,none⟩) m m)) (w.alloc (.cells cs.toArray te)):=by
 obtain⟨hu,info,zv,hi,hz,hsize,hby,hpos,hzs⟩:=zMz ht
 unfold zMP at h
 simp only[hu,hi,hz] at h
 split at h
 ·rename_i z' vs hz' hvs
  simp only[Qg] at hz'
  subst hz'
  split at h
  ·rename_i hle
   have hle':m*info.size≤16777216:=Ui hle
   simp only[UG] at h
   obtain⟨cells,hf,rfl⟩:=h
   have h2:=hS.parts hvs
   have hnle:¬ (m*info.size > 2 ^ 24):=by omega
   have hzr:(zeroValue te).run P w=.ok zv w:=zQK (by simp[zJX,hi,hz]) w
   have hsr:(sizeOf te).run P w=.ok info.size w:=by simp[sizeOf,typeInfo,hi]
   have hr0:Array.range 0=#[]:=rfl
   simp only[execOp,Instr.buildSlice,Array.toList_map,h2]
   by_cases h0:m*info.size=0
   ·simp only[h0,Qf] at hf
    simp[run_underlying hu,hsr,h0,hr0,hf,newRow]
   ·rw[Qi h0] at hf
    have h0':¬ (m=0∨info.size=0):=λh=>h0 (by grind)
    simp only[Sem.run_bind,run_underlying hu,Result.andThen_ok,hsr,Qi hnle,Qi h0,Sem.run_pure,hzr]
    rw[hf]
    simp[newRow]
  ·cases h
 ·cases h
theorem rd_new{τ:Type}{e:E τ}{cs:List Value}{l:List τ}{te:TypeId}(hO:zZ A w Ls)(hrd:e.rdL (bl Ls++A) w cs l): xF e (bl Ls++A) (w.alloc (.cells cs.toArray te)) (some ⟨w.heap.size,0,none⟩) l.length l:=by
 refine⟨Qr _,.inr ⟨w.heap.size,0,cs,rfl,λhm=>?_,by simp,?_,λj u hu=>?_⟩⟩
 ·rcases Qb.1 hm with h | h
  ·exact U7 _ (hO.lt h)
  ·exact U7 _ (hO.old _ h)
 ·exact e.rdL_step ⟨by simp,λk hk hn=>⟨hn,Below.heap_alloc w _ k hk⟩⟩ hrd
 simp_all
theorem op_bs_rd{τ:Type}{e:E τ}{t m te:Nat}{parts:List (Nat×Operand)}(cs:List Value)(l:List τ)(hS:qL a n S)(hd:Nat.blt d n=true)(hg:zS ops S g=some true)(hO:zZ A w Ls)
  (ht:uT P t te e.n=true) (hc:zMP P S t m parts=some cs) (hrd:e.rdL (bl Ls++A) w cs l) (hl:l.length=m)
  (k:∀ p c w',zZ A w' Ls->zU qd Ls w Ls w'->xF e (bl Ls++A) w' p c l->∀ a',qL a' n ((d,.slice p l.length c)::S)->K a' w') :
  vD P ops Q ⟨some d,.buildSlice t m parts.toArray,ty,pos,af,g⟩ K a w:=by
 subst hl
 refine tE hS hd hg (zP3 hS ht (by grind)) (k _ _ _ ?_ ?_ (rd_new hO hrd))
 ·exact⟨λb hb=>by have:=hO.old b hb;simp;omega,λr hr p hp=>by rw[Below.heap_alloc w _ p.1 (Qu.1 (hO.has r hr p hp)).1];exact hO.has r hr p hp,hO.nodup,hO.apart⟩
 ·exact⟨rfl,rfl,rfl,λ_=>Qr _,by simp,λk hk _=>Below.heap_alloc w _ k hk,λb hb=>.inl hb⟩
theorem op_bs_own{τ:Type}{e:E τ}{t m:Nat}(te:Nat){parts:List (Nat×Operand)}(cs:List Value)(l:List τ)(hS:qL a n S)(hd:Nat.blt d n=true)(hg:zS ops S g=some true)(hO:zZ A w Ls)
  (ht:uT P t te e.n=true) (hc:zMP P S t m parts=some cs) (hrd:e.rdL (bl Ls++A) w cs l) (hl:l.length=m) (hm:Nat.ble m 16777216=true)
  (k:∀ r p c w',zZ A w' (Ls++[r])->zU qd Ls w (Ls++[r]) w'->vO e te (bl (Ls++[r])++A) w' r p c l->∀ a',qL a' n ((d,.slice p l.length c)::S)->K a' w') :
  vD P ops Q ⟨some d,.buildSlice t m parts.toArray,ty,pos,af,g⟩ K a w:=by
 subst hl
 have hle:l.length≤16777216:=Ui hm
 have hE:=zU.alloc (qd:=qd) (w:=w) (w':=w.alloc (.cells cs.toArray te)) Ls (.cells cs.toArray te) rfl rfl rfl rfl
 refine tE hS hd hg (zP3 hS ht (by grind)) (k _ _ _ _ (hO.alloc _ rfl) hE (vO.mk0 w.heap.size cs.toArray rfl rfl (Qr _) (by grind [maxLen]) (by simp[e.rdL_len hrd]) ?_))
 have:cs.toArray.toList.take (l.length*e.n)=cs:=by rw[←e.rdL_len hrd];simp
 rw[this]
 exact e.rdL_step (hE.step A) hrd
theorem r_slice{τ:Type}{e:E τ}{Z:List Nat}{p:Option Addr}{c:Nat}{l z:List τ}{i j:Int}{x:Operand}{lo hi:Option Operand}{vlo vhi:Option Value}{t:TypeId}{d:Option Tmp}(hS:qL a n S)(hR:xF e Z w p c l)
  (hx:zL S x=some (.slice p l.length c)) (ht:yE P t=some e.n) (hlo:tI S lo=some vlo) (hhi:tI S hi=some vhi) (b1:Bd vlo i 0) (b2:Bd vhi j l.length) (hm:sub l i j=some z) :
  ∃ p' c',(∀ w',(execOp a.eval ⟨d,.slice t x lo hi none,ty,pos,af,g⟩).run P w'=.ok (.value (.slice p' z.length c')) w')∧xF e Z w p' c' z:=by
 unfold sub at hm
 split at hm
 ·rename_i h0
  simp only[Qg] at hm
  obtain⟨h1,h2,h3⟩:=h0
  subst hm
  have hzl:((l.take j.toNat).drop i.toNat).length=j.toNat-i.toNat:=by simp;omega
  unfold yE at ht
  split at ht
  ·rename_i te hu
   cases hq:P.info? te with
   | none=>grind
   | some info =>
    have hs:info.size=e.n:=by simpa [hq] using ht
    refine⟨if c=i.toNat then p else p.map (·.add (i.toNat*e.n)),c-i.toNat,λw'=>?_,?_⟩
    ·have hb:=zPk (P:=P) (w:=w') (b:=true) (m:=l.length) (c:=c) b1 b2 h1 h2 (by have:=hR.1;omega)
     simp[execOp,hS.eval hx,hS.evalO hlo,hS.evalO hhi,Instr.sliceAt,Instr.slice,run_underlying hu,hb,sizeOf,typeInfo,hq,hs,hzl]
    ·refine⟨by rw[hzl];have:=hR.1;omega,?_⟩
     by_cases he:(l.take j.toNat).drop i.toNat=[]
     ·grind
     ·rcases hR.2 with rfl | ⟨b,off,cs,rfl,hb,hlt,hl,hcell⟩
      ·grind
      ·have hne:¬ c=i.toNat:=λhci=>he (QR (by rw[hzl];have:=hR.1;omega))
       refine .inr ⟨b,off+i.toNat*e.n,(cs.take (j.toNat*e.n)).drop (i.toNat*e.n),by simp[hne,zCt],hb,hlt,e.rdL_drop _ (e.rdL_take _ hl),λk u hu=>?_⟩
       grind
  ·cases ht
 ·cases hm
theorem z1w (F:Value->ByteArray->Sem (ForInStep ByteArray))(hF:∀ n s,F (.int .u8 n) s=pure (.yield (s.push (UInt8.ofNat n.toNat)))): ∀(l:List Int) (cs:List Value) (Z:List Nat) (w w':World) (s:ByteArray),(zB .u8).rdL Z w cs l->
  (forIn cs s F:Sem ByteArray).run P w'=.ok ⟨(s.data.toList++zY4 l).toArray⟩ w'
 | [],cs,Z,w,w',s,h=>by
  simp only[E.rdL] at h
  subst h
  simp[zY4]
 | x::l,cs,Z,w,w',s,h=>by
  obtain⟨c1,c2,rfl,h1,h2⟩:=h
  simp only[zB] at h1
  subst h1
  have ih:=z1w F hF l c2 Z w w' (s.push (UInt8.ofNat x.toNat)) h2
  simp only[Ur,QI,List.forIn_cons,hF,Sem.run_bind,Sem.run_pure,Result.andThen_ok]
  rw[ih]
  simp[zY4,ByteArray.push]
end
end
section
open Go Go.RowKit
variable {qd:Prop}
def uY (Ls:List zJ)(js:List Nat): List zJ:=js.map λj=>Ls.getD j []
section
variable {A:List Nat}{w w':World}{Ls L:List zJ}
theorem zTW{js:List Nat}{r:zJ}(h:r∈uY Ls js){p:Nat×Obj}(hp:p∈r): ∃ j∈js,Ls[j]?=some r:=by
 obtain⟨j,hj,rfl⟩:=Qn.1 h
 grind
theorem zSe{js:List Nat}{b:Nat}(h:b∈bl (uY Ls js)): b∈bl Ls:=by
 obtain⟨r,hr,p,hp,rfl⟩:=zMM.1 h
 grind [zTW,zCo]
theorem nodup_res{Ls:List zJ}(h:(bl Ls).Nodup){r:zJ}(hr:r∈Ls): (r.map Prod.fst).Nodup:=by
 induction Ls with
 | nil=>cases hr
 | cons t ts ih =>
  simp only[bl] at h
  grind
theorem zWy (h:(bl Ls).Nodup): ∀ {js:List Nat},js.Nodup->(bl (uY Ls js)).Nodup
 | [],_=>by simp[uY,bl]
 | j::js,hn=>by
  obtain⟨h1,h2⟩:=U3.1 hn
  show((Ls.getD j []).map Prod.fst++bl (uY Ls js)).Nodup
  refine QT.2 ⟨?_,zWy h h2,λx hx y hy e=>?_⟩
  ·grind [nodup_res]
  ·obtain⟨p,hp,rfl⟩:=Qn.1 hx
   obtain⟨r,hr,q,hq,rfl⟩:=zMM.1 hy
   grind [zTW,zGM]
theorem zZ.sel (h:zZ A w Ls)(js:List Nat)(hn:js.Nodup): zZ A w (uY Ls js) :=
 ⟨h.old,λr hr p hp=>(by grind [zTW,xK]),zWy h.nodup hn,λb hb=>h.apart b (zSe hb)⟩
theorem zU.sel{w0:World}(h:zU qd L w0 Ls w)(js:List Nat): zU qd L w0 (uY Ls js) w:=h.drop λ_ hb=>zSe hb
theorem vY.sel (js:List Nat)(Ls:List zJ)(A:List Nat)(w:World): vY (bl Ls++A) w (bl (uY Ls js)++A) w:=vY.less w λb hb=>by
 grind [zSe]
def xI:List Nat->List zJ->List zJ
 | [],L=>L
 | j::js,L=>xI js (L.set j [])
def z1C:List Nat->List zJ->List zJ->List zJ
 | j::js,r::rs,L=>z1C js rs (L.set j r)
 | _,_,L=>L
theorem zTL{js:List Nat}: ∀ {L:List zJ} {b:Nat},b∈bl (xI js L)->∃ j r,j∉js∧L[j]?=some r∧∃ p∈r,p.1=b:=by
 induction js with
 | nil =>
  intro L b h
  obtain⟨r,hr,p,hp,rfl⟩:=zMM.1 h
  obtain⟨j,hj⟩:=Qp.1 hr
  exact⟨j,r,by simp,hj,p,hp,rfl⟩
 | cons k js ih =>
  intro L b h
  obtain⟨j,r,hj,hr,p,hp,rfl⟩:=ih (L:=L.set k []) h
  grind
theorem zPz{js:List Nat}{b:Nat}(h:b∈bl (xI js Ls)): b∈bl Ls:=by
 obtain⟨j,r,_,hr,p,hp,rfl⟩:=zTL h
 exact zCo hr hp
theorem z4n (js:List Nat)(A:List Nat): ∀ b∈bl (uY Ls js)++(bl (xI js Ls)++A),b∈bl Ls++A:=by
 grind [zSe,zPz]
theorem zZ.picks (h:zZ A w Ls)(js:List Nat)(hn:js.Nodup): zZ (bl (xI js Ls)++A) w (uY Ls js):=by
 refine⟨λb hb=>?_,(h.sel js hn).has,zWy h.nodup hn,λb hb hA=>?_⟩
 ·rcases Qb.1 hb with h1 | h1
  ·exact h.lt (zPz h1)
  ·exact h.old b h1
 ·rcases Qb.1 hA with h1 | h1
  ·obtain⟨j,r,hj,hr,p,hp,rfl⟩:=zTL h1
   obtain⟨s,hs,q,hq,he⟩:=zMM.1 hb
   obtain⟨k,hk,hlk⟩:=zTW hs hq
   exact zGM h.nodup hr hlk (λe=>hj (e▸hk)) p hp q hq he.symm
  ·exact h.apart b (zSe hb) h1
theorem vY.picks (js:List Nat)(Ls:List zJ)(A:List Nat)(w:World): vY (bl Ls++A) w (bl (uY Ls js)++(bl (xI js Ls)++A)) w:=vY.less w (z4n js A)
theorem z0P:∀ {L:List zJ} {j:Nat} {r:zJ},j<L.length->(bl (L.set j r)).Perm (r.map Prod.fst++bl (L.set j []))
 | [],_,_,h=>by simp at h
 | t::ts,0,r,_=>by simp[bl]
 | t::ts,j+1,r,h=>by
  simp only[Wk,bl]
  refine(List.Perm.append_left _ (z0P (L:=ts) (by grind))).trans ?_
  grind
theorem z0b{js:List Nat}: ∀ {L:List zJ} {k:Nat} {r:zJ},k∉js->xI js (L.set k r)=(xI js L).set k r:=by
 induction js with
 | nil=>intros;rfl
 | cons j js ih =>
  intro L k r hk
  simp only[Qw,not_or] at hk
  simp only[xI]
  rw[List.set_comm _ _ hk.1,ih hk.2]
theorem z5n{js:List Nat}: ∀ {L:List zJ},(xI js L).length=L.length:=by
 induction js with
 | nil=>intros;rfl
 | cons j js ih=>grind [xI]
theorem zV0:∀ {js:List Nat} {rs L:List zJ},js.Nodup->(∀ j∈js,j<L.length)->rs.length=js.length->(bl (z1C js rs L)).Perm (bl rs++bl (xI js L))
 | [],[],L,_,_,_=>by simp[z1C,xI,bl]
 | [],_::_,_,_,_,h=>by simp at h
 | _::_,[],_,_,_,h=>by simp at h
 | j::js,r::rs,L,hn,hl,hlen=>by
  obtain⟨h1,h2⟩:=U3.1 hn
  have ih:=zV0 (js:=js) (rs:=rs) (L:=L.set j r) h2 (λk hk=>by grind) (by grind)
  simp only[z1C,xI]
  grind [z0b,z0P,z5n,bl]
theorem mem_fill{js:List Nat}: ∀ {rs L:List zJ} {r:zJ},r∈z1C js rs L->r∈rs∨r∈L:=by
 induction js with
 | nil=>intro rs L r h;cases rs <;> exact .inr h
 | cons j js ih =>
  intro rs L r h
  cases rs with
  | nil=>exact .inr h
  | cons s rs =>
   rcases ih h with h1 | h1
   ·grind
   grind
theorem z9Y{js:List Nat}: ∀ {rs L:List zJ},js.Nodup->rs.length=js.length->z1C js rs (xI js L)=z1C js rs L:=by
 induction js with
 | nil=>intros;rfl
 | cons j js ih =>
  intro rs L hn h
  cases rs with
  | nil=>simp at h
  | cons r rs =>
   obtain⟨hj,h2⟩:=U3.1 hn
   simp only[z1C,xI]
   rw[z0b hj,List.set_set,←z0b hj]
   grind
theorem zZ.fills (h:zZ A w Ls){js:List Nat}{rs new:List zJ}(hn:js.Nodup)(hl:∀ j∈js,j<Ls.length)(hlen:rs.length=js.length)
  (ho:zZ (bl (xI js Ls)++A) w' (rs++new)) (e:zU qd (uY Ls js) w (rs++new) w'):zZ A w' (z1C js rs Ls++new):=by
 have hperm:(bl (z1C js rs Ls++new)).Perm (bl (rs++new)++bl (xI js Ls)):=by
  rw[zDX,zDX]
  refine(List.Perm.append_right _ (zV0 hn hl hlen)).trans ?_
  rw[Qs,Qs]
  exact List.Perm.append_left _ U1
 have hb:∀ b∈bl (xI js Ls),b∉bl (uY Ls js):=λb h1 h2=>(h.picks js hn).apart b h2 (Qb.2 (.inl h1))
 refine⟨λb hb=>ho.old b (Qb.2 (.inr hb)),λr hr p hp=>?_,hperm.nodup_iff.2 (QT.2 ⟨ho.nodup,?_,λx hx y hy exy=>?_⟩),λb hb=>?_⟩
 ·rcases Qb.1 hr with h1 | h1
  ·rw[←z9Y hn hlen] at h1
   rcases mem_fill h1 with h2 | h2
   ·exact ho.has r (Qb.2 (.inl h2)) p hp
   ·have hbl:p.1∈bl (xI js Ls):=zMM.2 ⟨r,h2,p,hp,rfl⟩
    obtain⟨j,s,hj,hs,q,hq,he⟩:=zTL hbl
    have hlt:=h.lt (zPz hbl)
    rw[e.keep p.1 hlt (hb _ hbl)]
    have:∀ {js:List Nat} {L:List zJ} {r:zJ},r∈xI js L->p∈r->r∈L:=by
     intro js
     induction js with
     | nil=>intro L r h _;exact h
     | cons k ks ih =>
      intro L r h hp
      rcases z6c (ih h hp) with rfl | ⟨m,_,hm⟩
      ·cases hp
      grind
    exact h.has r (this h2 hp) p hp
  ·exact ho.has r (Qb.2 (.inr h1)) p hp
 ·have h1:∀ {js:List Nat} {L:List zJ},(bl L).Nodup->(bl (xI js L)).Nodup:=by
   intro js
   induction js with
   | nil=>intro L h;exact h
   | cons k ks ih=>intro L h;exact ih (z03 h (by simp) (by simp))
  exact h1 h.nodup
 ·subst exy
  exact ho.apart x hx (Qb.2 (.inl hy))
 ·rcases Qb.1 (hperm.mem_iff.1 hb) with h1 | h1
  ·exact λhA=>ho.apart b h1 (Qb.2 (.inr hA))
  ·exact h.apart b (zPz h1)
theorem zU.fills{js:List Nat}{rs new:List zJ}(hn:js.Nodup)(hl:∀ j∈js,j<Ls.length)(hlen:rs.length=js.length)(e:zU qd (uY Ls js) w (rs++new) w'):
  zU qd Ls w (z1C js rs Ls++new) w':=by
 refine⟨e.os,e.tape,e.output,e.drawn,e.size,λk hk hnb=>e.keep k hk (λhm=>hnb (zSe hm)),λb hb=>?_⟩
 rw[zDX] at hb
 rcases Qb.1 hb with h1 | h1
 ·rcases Qb.1 ((zV0 hn hl hlen).mem_iff.1 h1) with h2 | h2
  ·exact(e.fresh b (by grind [zDX])).imp zSe id
  grind [zPz]
 ·exact(e.fresh b (by grind [zDX])).imp zSe id
theorem vY.fills{js:List Nat}{rs new:List zJ}(hn:js.Nodup)(hl:∀ j∈js,j<Ls.length)(hlen:rs.length=js.length)(A:List Nat)(w:World):
  vY (bl (rs++new)++(bl (xI js Ls)++A)) w (bl (z1C js rs Ls++new)++A) w:=vY.less w λb hb=>by
 grind [zDX,zV0]
theorem zZ.news (h:zZ A w Ls){new:List zJ}(ho:zZ (bl Ls++A) w' new)(e:zU qd [] w new w'): zZ A w' (Ls++new):=by
 have:=h.fills (js:=[]) (rs:=[]) (new:=new) (by simp) (by simp) rfl (by simpa [xI] using ho) (by simpa [uY] using e)
 grind [z1C]
theorem zU.news{new:List zJ}(Ls:List zJ)(e:zU qd [] w new w'): zU qd Ls w (Ls++new) w' :=
 ⟨e.os,e.tape,e.output,e.drawn,e.size,λk hk _=>e.keep k hk (by simp[bl]),λb hb=>by
  rw[zDX] at hb
  rcases Qb.1 hb with h1 | h1
  ·grind
  ·exact(e.fresh b h1).imp (λh=>by simp[bl] at h) id⟩
end
structure xS{τ σ:Type}(e:E τ)(f:E σ) where
 off:Nat
 get:τ->σ
 put:τ->σ->τ
 le:off+f.n≤e.n
 rdg:∀ {Z w cs x},e.rd Z w cs x->f.rd Z w ((cs.drop off).take f.n) (get x)
 rdp:∀ {Z w cs x ds y},e.rd Z w cs x->f.rd Z w ds y->e.rd Z w (cs.take off++ds++cs.drop (off+f.n)) (put x y)
def xS.id{τ:Type}(e:E τ): xS e e :=
 ⟨0,λx=>x,λ_ y=>y,by simp,λh=>by rw[List.drop_zero,Qx (by rw[e.len h];grind)];exact h,
  λh k=>by rw[List.take_zero,QI,UB,Uf (by rw[e.len h];grind),QF];exact k⟩
theorem zTZ{α β:Type}{f:E α}{g:E β}{Z:List Nat}{w:World}{cs:List Value}{x:α×β}(h:(wP f g).rd Z w cs x):
  f.rd Z w (cs.take f.n) x.1∧g.rd Z w (cs.drop f.n) x.2:=by
 obtain⟨c1,c2,rfl,h1,h2⟩:=h
 have:=f.len h1
 grind
def xS.fst{τ α β:Type}{e:E τ}{f:E α}{g:E β}(s:xS e (wP f g)): xS e f :=
 ⟨s.off,λx=>(s.get x).1,λx y=>s.put x (y,(s.get x).2),by have:=s.le;simp only[wP] at this;omega,
  λ{Z w cs x} h=>by
  have h1:=(zTZ (s.rdg h)).1
  rw[UR,Uu (by grind [wP])] at h1
  exact h1,
  λ{Z w cs x ds y} h k=>by
  have h2:=(zTZ (s.rdg h)).2
  have h3:=s.rdp h (show(wP f g).rd Z w _ (y,(s.get x).2) from⟨ds,_,rfl,k,h2⟩)
  have he:cs.take s.off++(ds++((cs.drop s.off).take (wP f g).n).drop f.n)++cs.drop (s.off+(wP f g).n)=cs.take s.off++ds++cs.drop (s.off+f.n):=by
   rw[←Qs,Qs]
   congr 1
   rw[Wd,We]
   have:cs.drop (s.off+(wP f g).n)=(cs.drop (s.off+f.n)).drop ((wP f g).n-f.n):=by
    rw[We];congr 1;simp only[wP];omega
   rw[this,QG]
  grind⟩
def xS.snd{τ α β:Type}{e:E τ}{f:E α}{g:E β}(s:xS e (wP f g)): xS e g :=
 ⟨s.off+f.n,λx=>(s.get x).2,λx y=>s.put x ((s.get x).1,y),by have:=s.le;simp only[wP] at this;omega,
  λ{Z w cs x} h=>by
  have h1:=(zTZ (s.rdg h)).2
  rw[Wd,We] at h1
  have:(wP f g).n-f.n=g.n:=by simp only[wP];omega
  grind,
  λ{Z w cs x ds y} h k=>by
  have h2:=(zTZ (s.rdg h)).1
  have h3:=s.rdp h (show(wP f g).rd Z w _ ((s.get x).1,y) from⟨_,ds,rfl,h2,k⟩)
  have he:cs.take s.off++(((cs.drop s.off).take (wP f g).n).take f.n++ds)++cs.drop (s.off+(wP f g).n)=cs.take (s.off+f.n)++ds++cs.drop (s.off+f.n+g.n):=by
   rw[UR,Uu (by grind [wP]),←Qs,←List.take_add]
   congr 2
   simp only[wP];omega
  grind⟩
section
variable {τ:Type}(e:E τ){Z:List Nat}{w:World}
theorem E.rdL_at:∀ {l:List τ} {cs:List Value} {k:Nat} {x:τ},e.rdL Z w cs l->l[k]?=some x->e.rd Z w ((cs.drop (k*e.n)).take e.n) x
 | [],cs,k,x,h,hx=>by simp at hx
 | y::l,cs,0,x,h,hx=>by
  obtain⟨c1,c2,rfl,h1,h2⟩:=h
  simp only[Uc,Qg] at hx
  subst hx
  rw[Nat.zero_mul,List.drop_zero,←e.len h1,UX];exact h1
 | y::l,cs,k+1,x,h,hx=>by
  obtain⟨c1,c2,rfl,h1,h2⟩:=h
  simp only[Q2] at hx
  have:=E.rdL_at h2 hx
  have hl:=e.len h1
  rw[show(k+1)*e.n=c1.length+k*e.n by grind,Wf,Uf (by omega),QI,UD]
  exact this
theorem E.rdL_set:∀ {l:List τ} {cs:List Value} {k:Nat} {x y:τ} {ds:List Value} {off:Nat},e.rdL Z w cs l->l[k]?=some x->off+ds.length≤e.n->
  (∀ ci,e.rd Z w ci x->e.rd Z w (ci.take off++ds++ci.drop (off+ds.length)) y)->e.rdL Z w (cs.take (k*e.n+off)++ds++cs.drop (k*e.n+off+ds.length)) (l.set k y)
 | [],cs,k,x,y,ds,off,h,hx,_,_=>by simp at hx
 | z::l,cs,0,x,y,ds,off,h,hx,hle,hp=>by
  obtain⟨c1,c2,rfl,h1,h2⟩:=h
  simp only[Uc,Qg] at hx
  subst hx
  have hl:=e.len h1
  refine⟨_,c2,?_,hp c1 h1,h2⟩
  grind
 | z::l,cs,k+1,x,y,ds,off,h,hx,hle,hp=>by
  obtain⟨c1,c2,rfl,h1,h2⟩:=h
  simp only[Q2] at hx
  have ih:=E.rdL_set h2 hx hle hp
  have hl:=e.len h1
  refine⟨c1,_,?_,h1,ih⟩
  rw[show(k+1)*e.n+off=c1.length+(k*e.n+off) by grind]
  rw[List.take_append,Qx (by omega),UD,Wn c1.length,Wf,Uf (by omega),UD]
  simp
end
theorem zNo{α:Type}{l:List α}{i:Int}{u:α}(h:zC l i=some u): 0≤i∧l[i.toNat]?=some u∧i<(l.length:Int):=by grind [zC]
section
variable {P:Program}{ops:Array Oper}{Q:Exit->Act->World->Prop}{a:Act}{n:Nat}{S:List (Nat×Value)}{w:World}{K:Act->World->Prop}
variable {A:List Nat}{Ls:List zJ}{d:Nat}{ty:TypeId}{pos:String}{af:Array Edge}{g:Option (Nat×Bool)}
variable {τ σ:Type}{e:E τ}{f:E σ}{te:TypeId}{Z:List Nat}{r:zJ}{p:Option Addr}{c:Nat}{l:List τ}{ix:Int}{u:τ}{t:TypeId}{x y:Operand}{kd:IntKind}
theorem vO.at (hA:vO e te Z w r p c l)(hm:zC l ix=some u): ∃ b o cells,r=[(b,.cells cells te (0,0))]∧p=some ⟨b,o,none⟩∧l.length≤c∧c≤maxLen∧o+c*e.n≤cells.size∧e.rdL Z w ((cells.toList.drop o).take (l.length*e.n)) l:=by
 rcases hA with⟨_,_,_,rfl⟩ | h
 ·have:=(zNo hm).2.1;grind
 ·exact h
theorem z0V (hS:qL a n S)(hA:vO e te Z w r p c l)(hx:zL S x=some (.slice p l.length c))(hy:zL S y=some (.int kd ix))(ht:yE P t=some e.n)(hm:zC l ix=some u){d:Option Tmp}:
  ∃ b o,p=some ⟨b,o,none⟩∧∀ w',(execOp a.eval ⟨d,.indexAddr t x y,ty,pos,af,g⟩).run P w'=.ok (.value (.pointer (some ⟨b,o+ix.toNat*e.n,none⟩))) w':=by
 obtain⟨b,o,cells,rfl,rfl,_⟩:=hA.at hm
 obtain⟨h0,h1,h2⟩:=zNo hm
 refine⟨b,o,rfl,λw'=>?_⟩
 simp[execOp,hS.eval hx,hS.eval hy,zMR (m:=l.length) ht h0 h2]
theorem z52 (hS:qL a n S)(hd:Nat.blt d n=true)(hg:zS ops S g=some true)(hA:vO e te Z w r p c l)(hx:zL S x=some (.slice p l.length c))(hy:zL S y=some (.int kd ix))(ht:yE P t=some e.n)(hm:zC l ix=some u)
  (k:∀ b o,p=some ⟨b,o,none⟩->∀ a',qL a' n ((d,.pointer (some ⟨b,o+ix.toNat*e.n,none⟩))::S)->K a' w):vD P ops Q ⟨some d,.indexAddr t x y,ty,pos,af,g⟩ K a w:=by
 obtain⟨b,o,hp,hrun⟩:=z0V (P:=P) (ty:=ty) (pos:=pos) (af:=af) (g:=g) (d:=some d) hS hA hx hy ht hm
 exact tE hS hd hg (hrun w) (k b o hp)
theorem z5r (s:xS e f){b o:Nat}(hO:zZ A w Ls){i:Nat}(hr:Ls[i]?=some r)(hA:vO e te (bl Ls++A) w r p c l)(hp:p=some ⟨b,o,none⟩)(hm:zC l ix=some u):
  ∃ ci,f.rd (bl Ls++A) w ci (s.get u)∧∀ w':World,w'.heap[b]?=w.heap[b]?->∀ j v,ci[j]?=some v->w'.cell? ⟨b,o+ix.toNat*e.n+s.off+j,none⟩=some v:=by
 obtain⟨b',o',cells,rfl,hp',h3,_,h5,h6⟩:=hA.at hm
 rw[hp] at hp'
 cases hp'
 obtain⟨h0,h1,h2⟩:=zNo hm
 have hb:=xK hO hr (Qa.2 rfl)
 refine⟨_,s.rdg (e.rdL_at h6 h1),λw' hw j v hv=>?_⟩
 rw[cell_of_row w' b _ cells te (0,0) (hw.trans hb)]
 grind
theorem mkV_of{ag:Bool}{ci:List Value}{k:Nat}(hl:ci.length=k)(hag:ag=true∨k=1): ∃ v,mkV ag ci=some v:=by
 rcases hag with rfl | hn
 ·exact⟨_,rfl⟩
 ·cases ag with
  | true=>exact⟨_,rfl⟩
  | false=>match ci,hl.trans hn with | [u],_=>exact⟨u,rfl⟩
theorem z6f (i:Nat)(s:xS e f){b o:Nat}(ag:Bool)(hS:qL a n S)(hd:Nat.blt d n=true)(hg:zS ops S g=some true)(hO:zZ A w Ls)(hr:Ls[i]?=some r)(hA:vO e te (bl Ls++A) w r p c l)
  (hp:p=some ⟨b,o,none⟩) (hm:zC l ix=some u) (hx:zL S x=some (.pointer (some ⟨b,o+ix.toNat*e.n+s.off,none⟩))) (ht:vW P t=some (ag,f.n))
  (k:∀ ci,f.rd (bl Ls++A) w ci (s.get u)->∀ v,mkV ag ci=some v->∀ a',qL a' n ((d,v)::S)->K a' w) (hag:ag=true∨f.n=1):vD P ops Q ⟨some d,.load t x,ty,pos,af,g⟩ K a w:=by
 obtain⟨ci,h1,h2⟩:=z5r s hO hr hA hp hm
 obtain⟨v,hv⟩:=mkV_of (f.len h1) hag
 refine tE hS hd hg (v:=v) (w':=w) ?_ (k ci h1 v hv)
 simp[execOp,hS.eval hx,Instr.loadAt,Instr.sureAddr,zHB (cs:=ci) (by rw[f.len h1];exact ht) (h2 w rfl) hv]
theorem z8V{c:List Value}(o m k:Nat)(v:List Value)(h:o+m+k≤c.length): (c.take (o+m+k)++v++c.drop (o+m+k+v.length)).drop o=(c.drop o).take (m+k)++v++(c.drop o).drop (m+k+v.length):=by
 rw[Qs,Wi (by grind),Wd,Wn o,UD,We,←Qs,Wn o]
theorem take_put (c:List Value)(o m:Nat)(v:List Value)(h:o+v.length≤m): (c.take o++v++c.drop (o+v.length)).take m=if o≤c.length then(c.take m).take o++v++(c.take m).drop (o+v.length) else(c.take o++v++c.drop (o+v.length)).take m:=by
 split
 ·rename_i hle
  rw[Qs,List.take_append,List.take_append,UR,UR,Nat.min_eq_right (by omega),Uu (by omega),QB,Uu hle,
   Qx (l:=v) (by omega),←Qs,Wd]
  grind
 ·rfl
theorem z3y (i:Nat)(s:xS e f){b o:Nat}{v:Value}{z:σ}(ag:Bool)(hS:qL a n S)(hg:zS ops S g=some true)(hO:zZ A w Ls)(hr:Ls[i]?=some r)(hA:vO e te (bl Ls++A) w r p c l)
  (hp:p=some ⟨b,o,none⟩) (hm:zC l ix=some u) (hx:zL S x=some (.pointer (some ⟨b,o+ix.toNat*e.n+s.off,none⟩))) (hy:zL S y=some v) (ht:vW P t=some (ag,f.n)) (hv:f.rd (bl Ls++A) w v.cells.toList z)
  (k:∀ r' w',zZ A w' (Ls.set i r')->zU qd Ls w (Ls.set i r') w'->vO e te (bl (Ls.set i r')++A) w' r' p c (l.set ix.toNat (s.put u z))->∀ a',qL a' n S->K a' w') :
  vD P ops Q ⟨none,.store t x y,ty,pos,af,g⟩ K a w:=by
 obtain⟨b',o',cells,rfl,hp',h3,h4,h5,h6⟩:=hA.at hm
 rw[hp] at hp'
 cases hp'
 obtain⟨h0,h1,h2⟩:=zNo hm
 have hb:=xK hO hr (Qa.2 rfl)
 have hlen:=f.len hv
 have hsle:=s.le
 have hlt:ix.toNat+1≤l.length:=(Qe.1 h1).1
 have hmul:ix.toNat*e.n+e.n≤l.length*e.n:=by
  have:=QQ e.n hlt
  rw[Q1,Nat.one_mul] at this;exact this
 have hmul2:o+l.length*e.n≤cells.size:=QD (Nat.add_le_add_left (QQ _ h3) _) h5
 have hst:zN4 P t cells (o+ix.toNat*e.n+s.off) v=true:=by
  unfold zN4
  simp only[ht,QA,Q5,QW]
  exact⟨⟨by grind,Nat.ble_eq_true_of_le (by omega)⟩,f.one hv⟩
 have hother:∀ k,k<w.heap.size->k∉[(b,Obj.cells cells te (0,0))].map Prod.fst->(w.setRow b (tK cells (o+ix.toNat*e.n+s.off) v.cells.toList)).heap[k]?=w.heap[k]? :=
  λk _ hk=>setRow_other w b k _ (λe=>hk (by simp[e]))
 have hE:zU qd Ls w (Ls.set i [(b,.cells (tK cells (o+ix.toNat*e.n+s.off) v.cells.toList) te (0,0))]) (w.setRow b (tK cells (o+ix.toNat*e.n+s.off) v.cells.toList)) :=
  zU.set hr rfl rfl rfl (by simp) hother (λq hq=>.inl (by grind))
 refine z2f hS hg (w':=w.setRow b (tK cells (o+ix.toNat*e.n+s.off) v.cells.toList)) (by simp[execOp,hS.eval hx,hS.eval hy,Instr.storeAt,Instr.sureAddr,zWe hb hst])
  (k [(b,.cells (tK cells (o+ix.toNat*e.n+s.off) v.cells.toList) te (0,0))] _ ?_ hE (.inr ⟨b,o,_,rfl,hp,by grind,h4,?_,?_⟩))
 ·exact hO.set hr (by simp) hother (λq hq=>by simp only[Qa] at hq;subst hq;exact setRow_heap w b cells _ te (0,0) hb) (by simp) (λq hq=>.inl (by grind))
 ·grind [tK]
 ·have:=e.rdL_set (e.rdL_step (hE.step A) h6) h1 (by grind) (ds:=v.cells.toList) (off:=s.off) (y:=s.put u z) (λci hci=>by rw[hlen];exact s.rdp hci (f.step (hE.step A) hv))
  rw[UJ]
  show e.rdL _ _ (List.take _ (List.drop o (cells.toList.take (o+ix.toNat*e.n+s.off)++v.cells.toList++cells.toList.drop (o+ix.toNat*e.n+s.off+v.cells.toList.length)))) _
  rw[z8V o (ix.toNat*e.n) s.off v.cells.toList (by grind),take_put _ _ _ _ (by omega),Ql (by simp;omega)]
  exact this
variable {listed:Array Bool}{fuel:Nat}{B J:List Nat}
theorem z7J (i:Nat)(hO:zZ A w Ls)(hS:qL a n S)(hi:ops[i]?=some ⟨some d,.indexAddr t x y,ty,pos,af,g⟩)(hk:vZ ops B listed i=true)(hd:Nat.blt d n=true)(hQ:∀ c (v:Value) a w,Q (.panic c) (a.put (some d) v) w->Q (.panic c) a w)
  (hg:zS ops S g=some true) (hA:vO e te Z w r p c l) (hx:zL S x=some (.slice p l.length c)) (hy:zL S y=some (.int kd ix)) (ht:yE P t=some e.n) (hm:zC l ix=some u)
  (k:∀ b o,p=some ⟨b,o,none⟩->∀ a',qL a' n ((d,.pointer (some ⟨b,o+ix.toNat*e.n,none⟩))::S)->wK P ops Q (SB B (CC qd A Ls w J)) fuel (listed.setIfInBounds i true) a' w):wK P ops Q (SB B (CC qd A Ls w J)) (fuel+1) listed a w:=by
 obtain⟨b,o,hp,hrun⟩:=z0V (P:=P) (ty:=ty) (pos:=pos) (af:=af) (g:=g) (d:=some d) hS hA hx hy ht hm
 exact z9C i hO hS hi hk hd (λc=>hQ c _) hg hrun (k b o hp)
theorem z9J (i ri:Nat)(s:xS e f){b o:Nat}(ag:Bool)(hO:zZ A w Ls)(hS:qL a n S)(hi:ops[i]?=some ⟨some d,.load t x,ty,pos,af,g⟩)(hk:vZ ops B listed i=true)(hd:Nat.blt d n=true)(hQ:∀ c (v:Value) a w,Q (.panic c) (a.put (some d) v) w->Q (.panic c) a w)
  (hg:zS ops S g=some true) (hb:B.all (λj=>behind ops i ops.size j)=true) (hJ:J.contains ri=true) (hr:Ls[ri]?=some r) (hA:vO e te (bl Ls++A) w r p c l)
  (hp:p=some ⟨b,o,none⟩) (hm:zC l ix=some u) (hx:zL S x=some (.pointer (some ⟨b,o+ix.toNat*e.n+s.off,none⟩))) (ht:vW P t=some (ag,f.n))
  (k:∀ ci,f.rd (bl Ls++A) w ci (s.get u)->∀ v,mkV ag ci=some v->∀ a',qL a' n ((d,v)::S)->wK P ops Q (SB B (CC qd A Ls w J)) fuel (listed.setIfInBounds i true) a' w) (hag:ag=true∨f.n=1) :
  wK P ops Q (SB B (CC qd A Ls w J)) (fuel+1) listed a w:=by
 obtain⟨ci,h1,h2⟩:=z5r s hO hr hA hp hm
 obtain⟨b',o',cells,hrr,hp',_⟩:=hA.at hm
 rw[hp] at hp'
 cases hp'
 subst hrr
 obtain⟨v,hv⟩:=mkV_of (f.len h1) hag
 refine z0a hO hS hi hk hd (λc=>hQ c _) (.inl ⟨zGr (o:=⟨some d,.load t x,ty,pos,af,g⟩) hS hg,λl' w' hc hun hSw=>?_⟩) (k ci h1 v hv)
 obtain⟨Ls',hO',_,hJ'⟩:=hSw (z2i hb hc hun)
 have hr':=hr
 rw[←map_get hJ' hJ] at hr'
 have hh:w'.heap[b]?=w.heap[b]?:=(xK hO' hr' (Qa.2 rfl)).trans (xK hO hr (Qa.2 rfl)).symm
 simp[execOp,hS.eval hx,Instr.loadAt,Instr.sureAddr,zHB (cs:=ci) (by rw[f.len h1];exact ht) (h2 w' hh) hv]
end
def z6n (js:List Nat)(n:Nat): Bool:=match js with
 | []=>true
 | j::r=>Nat.blt j n&&!r.contains j&&z6n r n
theorem zQI:∀ {js:List Nat} {n:Nat},z6n js n=true->js.Nodup∧∀ j∈js,j<n
 | [],_,_=>by simp
 | j::r,n,h=>by
  simp only[z6n,QA,Nat.blt_eq,Bool.not_eq_true'] at h
  obtain⟨⟨h1,h2⟩,h3⟩:=h
  obtain⟨k1,k2⟩:=zQI h3
  grind
section
variable {A:List Nat}{w w':World}{Ls:List zJ}
theorem vY.news{new:List zJ}(Ls:List zJ)(A:List Nat)(w:World): vY (bl new++(bl Ls++A)) w (bl (Ls++new)++A) w:=vY.less w λb hb=>by
 grind [zDX]
theorem vY.sub (Ls:List zJ)(A:List Nat)(w:World): vY (bl Ls++A) w (bl []++(bl Ls++A)) w:=vY.less w λ_ h=>h
end
section
variable {P:Program}{a:Act}{n:Nat}{S:List (Nat×Value)}{ty:TypeId}{pos:String}{af:Array Edge}{g:Option (Nat×Bool)}
theorem run_eqnil (d:Nat){t te:TypeId}{p:Option Addr}{m c:Nat}(hu:P.underlying t=some (.slice te))(w:World): (Op.equalIn (d+1) t (.slice p m c) (.slice none 0 0)).run P w=.ok p.isNone w:=by
 cases p <;> simp[Op.equalIn,run_underlying hu]
theorem r_eqnil{t u te:TypeId}{x:Operand}{p:Option Addr}{m c:Nat}{d:Option Tmp}(hS:qL a n S)(hx:zL S x=some (.slice p m c))(hu:P.underlying t=some (.slice te))(w:World):
  (execOp a.eval ⟨d,.binOp .eql t x (.const (.slice none 0 0)) u,ty,pos,af,g⟩).run P w=.ok (.value (vb p.isNone)) w:=by
 have hy:zL S (.const (.slice none 0 0))=some (.slice none 0 0):=rfl
 have h1:(eqGuard .eql t x (.const (.slice none 0 0)) (.slice p m c) (.slice none 0 0)).run P w=.ok () w:=by
  unfold eqGuard
  simp
 have h2:(binOp .eql t (.slice p m c) (.slice none 0 0)).run P w=.ok (vb p.isNone) w:=by
  have h3:(Op.equal t (.slice p m c) (.slice none 0 0)).run P w=.ok p.isNone w:=run_eqnil 9999 hu w
  show(do pure (.bool (←Op.equal t (.slice p m c) (.slice none 0 0))):Sem Value).run P w=_
  simp[h3]
 simp[execOp,hS.eval hx,hS.eval hy,h1,h2]
end
theorem xF.isNil{τ:Type}{e:E τ}{Z:List Nat}{w:World}{p:Option Addr}{c:Nat}{l:List τ}(h:xF e Z w p c l)(hp:p.isNone=true): l=[]:=by
 rcases h.2 with h | ⟨b,off,cs,rfl,_⟩
 ·exact h
 ·cases hp
end
section
def yL{α:Type}(f:α->α->Option Int)(x y:α): Bool:=decide ((f x y).getD 0<0)
structure OrdF{α:Type}(f:α->α->Option Int): Prop where
 tot:∀ x y,∃ n,f x y=some n
 irrefl:∀ x,yL f x x=false
 trans:∀ x y z,yL f x y=true->yL f y z=true->yL f x z=true
 ntrans:∀ x y z,yL f x y=false->yL f y z=false->yL f x z=false
 eq:∀ x y,yL f x y=false->yL f y x=false->x=y
open Classical in
noncomputable def z3A{α:Type}(f:α->α->Option Int)(l:List α): Option (List α) :=
 if OrdF f∧l.length<4294967296 then some (l.mergeSort λx y=>!yL f y x) else none
structure OrdOn{α:Type}(f:α->α->Option Int)(l:List α): Prop where
 tot:∀ x∈l,∀ y∈l,∃ n,f x y=some n
 irrefl:∀ x∈l,yL f x x=false
 trans:∀ x∈l,∀ y∈l,∀ z∈l,yL f x y=true->yL f y z=true->yL f x z=true
 ntrans:∀ x∈l,∀ y∈l,∀ z∈l,yL f x y=false->yL f y z=false->yL f x z=false
 eq:∀ x∈l,∀ y∈l,yL f x y=false->yL f y x=false->x=y
open Classical in
noncomputable def sortO{α:Type}(f:α->α->Option Int)(l:List α): Option (List α) :=
 if OrdOn f l∧l.length<4294967296 then some (l.mergeSort λx y=>!yL f y x) else none
def vT (b:Bool): Option Unit:=if b then some () else none
def z1W{α:Type}(l:List α)(k j:Int): Option α:=if 0≤j then zC l (k+j) else none
def zEQ{α:Type}(l:List α)(k:Int)(z:α): List α:=l.take k.toNat++List.replicate (l.length-k.toNat) z
theorem zNX{α:Type}(l:List α)(k:Int)(z:α): (zEQ l k z).length=l.length:=by
 simp[zEQ];omega
def zLB{α:Type}(l:List α)(k:Int)(z:List α): List α:=l.take k.toNat++z.take (l.length-k.toNat)++l.drop (k.toNat+z.length)
theorem zQy{α:Type}(l:List α)(k:Int)(z:List α): (zLB l k z).length=l.length:=by
 simp[zLB];omega
def sortI (l:List Int): Option (List Int):=if l.length<4294967296 then some (l.mergeSort λx y=>decide (x≤y)) else none
def mkS{α:Type}(n c:Int)(z:α): Option (List α):=if 0≤n∧n≤c∧c≤4294967296 then some (List.replicate n.toNat z) else none
def joinM (l:List zD)(s:zD): Option zD:=if l.length≤140737488355328∧(s.intercalate l).length≤140737488355328 then some (s.intercalate l) else none
def z2r (s:zD): Option (List zD):=if s.length<4294967281 then some (Lib.fieldsD s) else none
def z7j (s u:zD): Option Int:=match u with
 | [c]=>some (Lib.indexByte s c)
 | _=>none
def wstrM (l s:zD): Option (Int×Unit×zD):=if l.length+s.length<4294967296 then some (len s,(),l++s) else none
def bset (l:zD)(i v:Int): Option zD:=if(0≤i∧i.toNat<l.length)∧0≤v∧v<256 then some (l.set i.toNat (UInt8.ofNat v.toNat)) else none
def yS (l:List Int)(i:Int): Int:=l.getD i.toNat 0
def tD (k:Nat)(l:List Int)(i v:Int): List Int:=(List.range k).map λj=>if j=i.toNat then v else l.getD j 0
def asub (k:Nat)(l:List Int)(j:Int): Option (List Int):=if 0≤j∧j≤k then some ((List.range j.toNat).map λi=>l.getD i 0) else none
def aeq (k:Nat)(l m:List Int): Bool:=(List.range k).all λj=>l.getD j 0==m.getD j 0
inductive An
 | i (n:Int)
 | s (x:zD)
def An.int:An->Int
 | .i n=>n
 | .s _=>0
def An.str:An->zD
 | .s x=>x
 | .i _=>[]
def fmt10 (n z:Int): Option zD:=if z=10∧-9223372036854775808≤n∧n≤9223372036854775807 then some (Lib.itoa n) else none
end
section
open Go Go.RowKit
variable {qd:Prop}
def Vw (n:Nat)(p:Option Addr)(c L:Nat)(k:Int)(p':Option Addr)(m:Nat): Prop :=
 0≤k∧k.toNat+m=L∧L≤c∧∀ b o,p=some ⟨b,o,none⟩->m≠0->p'=some ⟨b,o+k.toNat*n,none⟩
section
variable {P:Program}{ops:Array Oper}{Q:Exit->Act->World->Prop}{a:Act}{n:Nat}{S:List (Nat×Value)}{w:World}{K:Act->World->Prop}
variable {A:List Nat}{Ls:List zJ}{d:Nat}{ty:TypeId}{pos:String}{af:Array Edge}{g:Option (Nat×Bool)}
variable {τ:Type}{e:E τ}{te:TypeId}{Z:List Nat}{r:zJ}{p p':Option Addr}{c c' m L:Nat}{l z:List τ}{k j:Int}{u:τ}{t:TypeId}{x y lo hi:Operand}{kd:IntKind}
theorem vO.le (hA:vO e te Z w r p c l): l.length≤c:=by
 rcases hA with⟨_,_,rfl,rfl⟩ | ⟨_,_,_,_,_,h,_⟩
 ·grind
 ·exact h
theorem zYB{d:Option Tmp}{q:Unit}(hS:qL a n S)(hA:vO e te Z w r p c l)(hx:zL S x=some (.slice p l.length c))(ht:yE P t=some e.n)(hlo:zL S lo=some (.int kd k))
  (hm:vT (decide (0≤k)&&decide (k≤(l.length:Int)))=some q) :
  ∃ p' c',Vw e.n p c l.length k p' (Int.toNat ((l.length:Int)-k))∧∀ w',(execOp a.eval ⟨d,.slice t x (some lo) none none,ty,pos,af,g⟩).run P w'=.ok (.value (.slice p' (Int.toNat ((l.length:Int)-k)) c')) w':=by
 have h0:0≤k∧k≤(l.length:Int):=by
  unfold vT at hm
  split at hm
  ·grind
  ·cases hm
 have hle:=hA.le
 unfold yE at ht
 split at ht
 ·rename_i te' hu
  cases hq:P.info? te' with
  | none=>grind
  | some info =>
   have hs:info.size=e.n:=by simpa [hq] using ht
   refine⟨if c=k.toNat then p else p.map (·.add (k.toNat*e.n)),c-k.toNat,⟨h0.1,by omega,hle,λb o hp hne=>?_⟩,λw'=>?_⟩
   ·subst hp
    rw[Qi (by omega)]
    simp[zCt]
   ·have hb:=zPk (P:=P) (w:=w') (b:=true) (m:=l.length) (c:=c) (lo:=some (.int kd k)) (hi:=none) (i:=k) (j:=l.length) (.inr ⟨_,rfl⟩) (.inl ⟨rfl,rfl⟩) h0.1 h0.2 (by omega)
    have hsub:l.length-k.toNat=((l.length:Int)-k).toNat:=by omega
    simp[execOp,hS.eval hx,hS.eval hlo,Instr.sliceAt,Instr.slice,run_underlying hu,hb,sizeOf,typeInfo,hq,hs,hsub]
 ·cases ht
theorem z0v{d:Option Tmp}(hS:qL a n S)(hA:vO e te Z w r p c l)(hx:zL S x=some (.slice p l.length c))(ht:yE P t=some e.n)(hhi:zL S hi=some (.int kd k))(hm:sub l 0 k=some z):
  vO e te Z w r p c z∧∀ w',(execOp a.eval ⟨d,.slice t x none (some hi) none,ty,pos,af,g⟩).run P w'=.ok (.value (.slice p z.length c)) w':=by
 unfold sub at hm
 split at hm
 case isFalse=>cases hm
 rename_i h0
 obtain⟨_,h1,h2⟩:=h0
 simp only[Qg] at hm
 have hz:z=l.take k.toNat:=by rw[←hm];simp
 have hzl:z.length=k.toNat:=by rw[hz];simp;omega
 have hle:=hA.le
 refine⟨?_,λw'=>?_⟩
 ·rcases hA with⟨rfl,rfl,rfl,rfl⟩ | ⟨b,o,cells,rfl,rfl,h3,h4,h5,h6⟩
  ·rw[hz];simpa using vO.nil
  ·refine .inr ⟨b,o,cells,rfl,rfl,by omega,h4,h5,?_⟩
   have:=e.rdL_take k.toNat h6
   rw[UR,Uu (QQ _ (by omega))] at this
   grind
 ·unfold yE at ht
  split at ht
  ·rename_i te' hu
   cases hq:P.info? te' with
   | none=>grind
   | some info =>
    have hb:=zPk (P:=P) (w:=w') (b:=true) (m:=l.length) (c:=c) (lo:=none) (hi:=some (.int kd k)) (i:=0) (j:=k) (.inl ⟨rfl,rfl⟩) (.inr ⟨_,rfl⟩) (Int.le_refl _) h1 (by omega)
    have hp:p.map (λa:Addr=>a.add 0)=p:=by
     rcases hA with⟨_,rfl,_,_⟩ | ⟨b,o,cells,_,rfl,_⟩
     ·rfl
     ·simp[zCt]
    simp[execOp,hS.eval hx,hS.eval hhi,Instr.sliceAt,Instr.slice,run_underlying hu,hb,sizeOf,typeInfo,hq,hzl,hp]
  ·cases ht
theorem idxV_spec (h:z1W l k j=some u): 0≤j∧zC l (k+j)=some u:=by grind [z1W]
theorem zYF{d:Option Tmp}(hS:qL a n S)(hA:vO e te Z w r p c l)(hV:Vw e.n p c L k p' m)(hL:List.length l=L)(hx:zL S x=some (.slice p' m c'))(hy:zL S y=some (.int kd j))(ht:yE P t=some e.n)(hm:z1W l k j=some u):
  zC l (k+j)=some u∧∃ b o,p=some ⟨b,o,none⟩∧∀ w',(execOp a.eval ⟨d,.indexAddr t x y,ty,pos,af,g⟩).run P w'=.ok (.value (.pointer (some ⟨b,o+(k+j).toNat*e.n,none⟩))) w':=by
 obtain⟨hj,hi⟩:=idxV_spec hm
 obtain⟨b,o,cells,rfl,rfl,_⟩:=hA.at hi
 obtain⟨h0,_,h2⟩:=zNo hi
 obtain⟨v0,v1,v2,v3⟩:=hV
 have hp':=v3 b o rfl (by omega)
 subst hp'
 refine⟨hi,b,o,rfl,λw'=>?_⟩
 have:=zMR (P:=P) (w:=w') (t:=t) (k:=e.n) (b:=b) (off:=o+k.toNat*e.n) (m:=m) (c:=c') (i:=j) ht hj (by omega) kd
 have hadd:o+k.toNat*e.n+j.toNat*e.n=o+(k+j).toNat*e.n:=by rw[Wn,←Q1];congr 2;omega
 rw[hadd] at this
 simp[execOp,hS.eval hx,hS.eval hy,this]
theorem op_void{op:Op}{v:Value}{w':World}(hS:qL a n S)(hg:zS ops S g=some true)(hr:(execOp a.eval ⟨none,op,ty,pos,af,g⟩).run P w=.ok (.value v) w')
  (k:∀ a',qL a' n S->K a' w'):vD P ops Q ⟨none,op,ty,pos,af,g⟩ K a w:=by
 unfold vD
 rw[Ql (zGr (o:=⟨none,op,ty,pos,af,g⟩) hS hg)]
 unfold Oper.wp
 rw[hr]
 exact k a hS
theorem zM1 (z:Array Value): ∀ m,(Builtin.zeroCells z m).toList=(List.replicate m z.toList).flatten
 | 0=>by simp[Builtin.zeroCells]
 | m+1=>by
  rw[List.replicate_succ',List.flatten_append,←zM1 z m]
  apply QN
  intro i
  simp only[Builtin.zeroCells,Array.toList_map,Array.toList_range,Q7,List.flatten_singleton]
  by_cases h1:i<m*z.size
  ·grind
  ·rw[Uj (by grind)]
   simp only[QJ,List.length_range]
   by_cases h2:i<(m+1)*z.size
   ·rw[List.getElem?_range h2]
    rw[Q1,Nat.one_mul] at h2
    have hm:i % z.size=i-m*z.size:=by
     have:i=(i-m*z.size)+m*z.size:=by omega
     rw[this,Nat.add_mul_mod_self_right,Wh (by omega)];omega
    grind
   grind
theorem E.rdL_replicate{w:World}{zc:List Value}{zd:τ}(h:e.rd Z w zc zd): ∀ m,e.rdL Z w (List.replicate m zc).flatten (List.replicate m zd)
 | 0=>rfl
 | m+1=>by
  rw[List.replicate_succ,List.replicate_succ,Wq]
  exact⟨_,_,rfl,h,E.rdL_replicate h m⟩
theorem z2V (i:Nat){zd:τ}{zv:Value}{q:Option Addr}(hS:qL a n S)(hg:zS ops S g=some true)(hO:zZ A w Ls)(hr:Ls[i]?=some r)(hA:vO e te (bl Ls++A) w r p c l)
  (hV:Vw e.n p c L k q m) (hL:List.length l=L) (hx:zL S x=some (.slice q m c')) (ht:uT P t te e.n=true) (hz:zJX P te=some zv) (hzr:e.rd (bl Ls++A) w zv.cells.toList zd)
  (kk:∀ r' w',zZ A w' (Ls.set i r')->zU qd Ls w (Ls.set i r') w'->vO e te (bl (Ls.set i r')++A) w' r' p c (zEQ l k zd)->∀ a',qL a' n S->K a' w') :
  vD P ops Q ⟨none,.call { callee:=.builtin .clear,args:=[x].toArray,argTypes:=[t].toArray },ty,pos,af,g⟩ K a w:=by
 obtain⟨hu,info,zv',hi,hz',hsize,hby,hpos,hzs⟩:=zMz ht
 obtain⟨v0,v1,v2,v3⟩:=hV
 subst hL
 have hcl:zEQ l k zd=l.take k.toNat++List.replicate m zd:=by unfold zEQ;congr 2;omega
 by_cases hm0:m=0
 ·subst hm0
  have hll:zEQ l k zd=l:=by rw[hcl,Qx (by omega)];simp
  have hself:Ls.set i r=Ls:=by
   apply QN;intro j
   by_cases hj:i=j
   ·grind
   ·grind
  refine op_void hS hg (v:=.tuple #[]) (w':=w) ?_ (kk r w (by grind) (by rw[hself];exact zU.refl _ _) (by grind))
  cases q <;> simp[execOp,resolve,invoke,builtin,hS.eval hx,Builtin.clear_,run_underlying hu]
 ·rcases hA with⟨rfl,rfl,rfl,rfl⟩ | ⟨b,o,cells,rfl,rfl,h3,h4,h5,h6⟩
  ·grind
  ·have hq:=v3 b o rfl hm0
   subst hq
   have hb:=xK hO hr (Qa.2 rfl)
   have hzl:(zJX P te)=info.zero:=by simp[zJX,hi]
   have hzz:zv'=zv:=by rw[hz] at hzl;rw[hz'] at hzl;exact(QE hzl).symm
   subst hzz
   have hvl:(Builtin.zeroCells zv'.cells m).toList.length=m*e.n:=by simp[size_zeroCells,hzs]
   have hfit:o+k.toNat*e.n+0+(Builtin.zeroCells zv'.cells m).toList.length≤cells.size:=by
    rw[hvl,QM,Wn,←Q1,v1];exact QD (Nat.add_le_add_left (QQ _ h3) _) h5
   have hvs:(Builtin.zeroCells zv'.cells m).size=m*e.n:=by rw[size_zeroCells,hzs]
   have hvr:=E.rdL_replicate hzr m
   rw[←zM1] at hvr
   have hst:=run_storeCells_at P b (o+k.toNat*e.n) te (Builtin.zeroCells zv'.cells m).toList 0 cells w hb hfit (e.rdL_one hvr)
   simp only[QM] at hst
   have hzv:∀ w',(zeroValue te).run P w'=.ok zv' w':=λw'=>zQK hz w'
   have hother:∀ cs:Array Value,∀ k,k<w.heap.size->k∉[(b,Obj.cells cells te (0,0))].map Prod.fst->(w.setRow b cs).heap[k]?=w.heap[k]?:=λcs k _ hk=>setRow_other w b k _ (λe=>hk (by simp[e]))
   have hE:zU qd Ls w (Ls.set i [(b,.cells (tK cells (o+k.toNat*e.n) (Builtin.zeroCells zv'.cells m).toList) te (0,0))]) (w.setRow b (tK cells (o+k.toNat*e.n) (Builtin.zeroCells zv'.cells m).toList)) :=
    zU.set hr rfl rfl rfl (by simp) (hother _) (λq hq=>.inl (by grind))
   refine op_void hS hg (v:=.tuple #[]) (w':=w.setRow b (tK cells (o+k.toNat*e.n) (Builtin.zeroCells zv'.cells m).toList)) ?_
    (kk [(b,.cells (tK cells (o+k.toNat*e.n) (Builtin.zeroCells zv'.cells m).toList) te (0,0))] _ ?_ hE (.inr ⟨b,o,_,rfl,rfl,by grind,h4,?_,?_⟩))
   ·have hmm:∃ m',m=m' + 1:=⟨m-1,by omega⟩
    obtain⟨m',rfl⟩:=hmm
    simp[execOp,resolve,invoke,builtin,hS.eval hx,Builtin.clear_,run_underlying hu,hzv,hst,tK]
   ·exact hO.set hr (by simp) (hother _) (λq hq=>by simp only[Qa] at hq;subst hq;exact setRow_heap w b cells _ te (0,0) hb) (by simp) (λq hq=>.inl (by grind))
   ·grind [tK]
   ·rw[hcl]
    have hlen:(l.take k.toNat++List.replicate m zd).length*e.n=k.toNat*e.n+m*e.n:=by
     rw[Qd,QB,U0,Uu (by omega),Q1]
    have h7:=e.rdL_take k.toNat h6
    rw[UR,Uu (QQ _ (by omega))] at h7
    have:((tK cells (o+k.toNat*e.n) (Builtin.zeroCells zv'.cells m).toList).toList.drop o).take (k.toNat*e.n+m*e.n)=(cells.toList.drop o).take (k.toNat*e.n)++(Builtin.zeroCells zv'.cells m).toList:=by
     show((cells.toList.take (o+k.toNat*e.n)++(Builtin.zeroCells zv'.cells m).toList++cells.toList.drop (o+k.toNat*e.n+(Builtin.zeroCells zv'.cells m).toList.length)).drop o).take _=_
     rw[←hvl]
     exact zVp _ _ _ _ (by grind)
    rw[hlen,this]
    exact e.rdL_append (e.rdL_step (hE.step A) h7) (e.rdL_step (hE.step A) hvr)
end
end
section
open Go Go.RowKit
variable {qd:Prop}
structure PP where
 h:List Nat->World->Prop
 mv:∀ {Z w Z' w'},vY Z w Z' w'->h Z w->h Z' w'
def PP.tr:PP:=⟨λ_ _=>True,λ_ h=>h⟩
def R{τ:Type}(e:E τ)(p:Option Addr)(c m:Nat)(l:List τ): PP:=⟨λZ w=>xF e Z w p c l∧m=l.length,λs h=>⟨h.1.step e s,h.2⟩⟩
def Ar{τ:Type}(e:E τ)(te:TypeId)(r:zJ)(p:Option Addr)(c m:Nat)(l:List τ): PP:=⟨λZ w=>vO e te Z w r p c l∧m=l.length,λs h=>⟨h.1.mv s,h.2⟩⟩
def Pt{τ:Type}(e:E τ)(b o:Nat)(x:τ): PP:=⟨λZ w=>tX e Z w ⟨b,o,none⟩ x,λs h=>h.mv s⟩
def Pu (q:Prop): PP:=⟨λ_ _=>q,λ_ h=>h⟩
def uW:List PP->List Nat->World->Prop
 | [],_,_=>True
 | f::r,Z,w=>f.h Z w∧uW r Z w
theorem uW.mv{Z Z':List Nat}{w w':World}(s:vY Z w Z' w'): ∀ {F:List PP},uW F Z w->uW F Z' w'
 | [],_=>trivial
 | f::_,h=>⟨f.mv s h.1,uW.mv s h.2⟩
theorem uW.app{Z:List Nat}{w:World}: ∀ {F G:List PP},uW F Z w->uW G Z w->uW (F++G) Z w
 | [],_,_,k=>k
 | _::_,_,h,k=>⟨h.1,uW.app h.2 k⟩
def uA:List PP->Nat->PP
 | [],_=>PP.tr
 | f::_,0=>f
 | _::r,k+1=>uA r k
theorem uW.at{Z:List Nat}{w:World}: ∀ {F:List PP},uW F Z w->∀ k,(uA F k).h Z w
 | [],_,_=>trivial
 | _::_,h,0=>h.1
 | _::_,h,k+1=>uW.at h.2 k
structure SS (qd:Prop)(A:List Nat)(L0:List zJ)(w0:World)(n:Nat)(S:List (Nat×Value))(Ls:List zJ)(F:List PP)(a:Act)(w:World): Prop where
 s:qL a n S
 o:zZ A w Ls
 e:zU qd L0 w0 Ls w
 f:uW F (bl Ls++A) w
structure Bk (qd:Prop)(A:List Nat)(L0:List zJ)(w0:World)(L1:List zJ)(F:List PP)(w:World): Prop where
 o:zZ A w L1
 e:zU qd L0 w0 L1 w
 f:uW F (bl L1++A) w
abbrev bx (b t:Nat)(l:List Value): zJ:=[(b,.cells l.toArray t (0,0))]
section
variable {A:List Nat}{L0 Ls Ls':List zJ}{w0 w w':World}{n:Nat}{S S':List (Nat×Value)}{F F1:List PP}{a a':Act}
theorem SS.g (h:SS qd A L0 w0 n S Ls F a w)(k:Nat): (uA F k).h (bl Ls++A) w:=h.f.at k
theorem SS.next (h:SS qd A L0 w0 n S Ls F a w)(hO:zZ A w' Ls')(e:zU qd Ls w Ls' w')(hS:qL a' n S')(F1:List PP)(hF:uW F1 (bl Ls'++A) w'): SS qd A L0 w0 n S' Ls' (F1++F) a' w' :=
 ⟨hS,hO,h.e.trans e,hF.app (h.f.mv (e.step A))⟩
theorem SS.slot (h:SS qd A L0 w0 n S Ls F a w)(hS:qL a' n S'): SS qd A L0 w0 n S' Ls F a' w:=⟨hS,h.o,h.e,h.f⟩
theorem SS.add (h:SS qd A L0 w0 n S Ls F a w){f:PP}(hf:f.h (bl Ls++A) w): SS qd A L0 w0 n S Ls (f::F) a w:=⟨h.s,h.o,h.e,hf,h.f⟩
theorem SS.to{S2:List (Nat×Value)}{F2:List PP}(h:SS qd A L0 w0 n S Ls F a w)(k:Nat)(hF:uW F2 (bl Ls++A) w)(hS:zYT S (S2.map Prod.fst)=some S2:=by kernel_rfl): SS qd A L0 w0 n S2 (Ls.take k) F2 a w :=
 ⟨h.s.only _ hS,h.o.take k,h.e.take k,hF.mv (vY.take _ k _ _)⟩
theorem SS.upd (h:SS qd A L0 w0 n S Ls F a w){t:Nat}{v:Value}(v':Value)(hl:vX S t=some v)(e:v=v'): SS qd A L0 w0 n ((t,v')::S) Ls F a w:=h.slot (h.s.upd hl e)
theorem bk_sel (h:SS qd A L0 w0 n S Ls F a w)(js:List Nat)(hF:uW F1 (bl Ls++A) w)(hk:js.Nodup:=by decide): Bk qd A L0 w0 (uY Ls js) F1 w :=
 ⟨h.o.sel js hk,h.e.sel js,hF.mv (vY.sel js _ _ _)⟩
theorem SS.share{τ:Type}{e:E τ}{te:TypeId}{r:zJ}{p:Option Addr}{c m:Nat}{l:List τ}(h:SS qd A L0 w0 n S Ls F a w)(i:Nat)(hA:(Ar e te r p c m l).h (bl Ls++A) w)(hr:Ls[i]?=some r:=by rfl):
  SS qd A L0 w0 n S (Ls.set i []) (R e p c m l::F) a w :=
 ⟨h.s,h.o.dropped i,h.e.dropped i,⟨hA.1.share h.o hr,hA.2⟩,h.f.mv (vY.dropped i _ _ _)⟩
theorem SS.drop (h:SS qd A L0 w0 n S Ls F a w)(i:Nat): SS qd A L0 w0 n S (Ls.set i []) F a w:=⟨h.s,h.o.dropped i,h.e.dropped i,h.f.mv (vY.dropped i _ _ _)⟩
theorem SS.room{τ:Type}(h:SS qd A L0 w0 n S Ls F a w)(e:E τ)(te:TypeId): SS qd A L0 w0 n S (Ls++[[]]) (Ar e te [] none 0 0 []::F) a w :=
 ⟨h.s,h.o.room,h.e.trans (zU.room Ls w),⟨vO.nil,rfl⟩,h.f.mv ((zU.room (qd:=qd) Ls w).step A)⟩
theorem rnil{τ:Type}(e:E τ)(Z:List Nat)(w:World)(p:Option Addr)(c:Nat): (R e p c 0 []).h Z w:=⟨xF.nil e Z w p c,rfl⟩
theorem R.cell{τ:Type}{e:E τ}{Z:List Nat}{w:World}{p:Option Addr}{c m:Nat}{l:List τ}(h:(R e p c m l).h Z w): (zT e).rd Z w [.slice p m c] l:=by
 obtain⟨h1,rfl⟩:=h;exact⟨p,c,rfl,h1⟩
theorem R.of{τ:Type}{e:E τ}{Z:List Nat}{w:World}{p:Option Addr}{c:Nat}{l:List τ}(h:xF e Z w p c l): (R e p c (List.length l) l).h Z w:=⟨h,rfl⟩
theorem zZ.lessA{A A':List Nat}(h:zZ A w Ls)(hs:∀ b∈A',b∈A): zZ A' w Ls:=⟨λb hb=>h.old b (hs b hb),h.has,h.nodup,λb hb hA=>h.apart b hb (hs b hA)⟩
theorem zYC:∀(js ls:List Nat) (L:List zJ),xI (js++ls) L=xI ls (xI js L)
 | [],_,_=>rfl
 | j::js,ls,L=>by simp only[Ur,xI];exact zYC js ls _
abbrev Ac (A:List Nat)(Ls:List zJ)(js ls:List Nat): List Nat:=bl (xI (js++ls) Ls)++A
theorem Ac_sub{js ls:List Nat}: ∀ b∈Ac A Ls js ls,b∈bl (xI js Ls)++A:=by
 intro b hb
 grind [zYC,zPz]
theorem SS.po (h:SS qd A L0 w0 n S Ls F a w)(js ls:List Nat)(hk:z6n (js++ls) Ls.length=true:=by kernel_rfl): zZ (Ac A Ls js ls) w (uY Ls js) :=
 (h.o.picks js (QT.1 (zQI hk).1).1).lessA Ac_sub
theorem SS.pstep (js ls:List Nat): vY (bl Ls++A) w (bl (uY Ls js)++Ac A Ls js ls) w:=vY.less w λb hb=>by
 grind [z4n,Ac_sub]
theorem SS.pl{τ:Type}{e:E τ}{te:TypeId}{r:zJ}{p:Option Addr}{c m:Nat}{l:List τ}(h:SS qd A L0 w0 n S Ls F a w)(js ls:List Nat)(i:Nat)(hA:(Ar e te r p c m l).h (bl Ls++A) w)(hr:Ls[i]?=some r:=by rfl)
  (hk:z6n (js++ls) Ls.length=true:=by kernel_rfl) (hi:ls.contains i=true:=by kernel_rfl):(R e p c m l).h (bl (uY Ls js)++Ac A Ls js ls) w:=by
 refine⟨?_,hA.2⟩
 obtain⟨hn,_⟩:=zQI hk
 have hi':i∈ls:=by simpa using hi
 have hij:i∉js:=λhj=>(QT.1 hn).2.2 i hj i hi' rfl
 rcases hA.1 with⟨_,_,_,rfl⟩ | ⟨b,o,cells,rfl,rfl,h3,h4,h5,h6⟩
 ·exact⟨Uy _,.inl rfl⟩
 ·have hb:=xK h.o hr (Qa.2 rfl)
  refine⟨h3,.inr ⟨b,o,_,rfl,λhm=>?_,(Qu.1 hb).1,e.rdL_step (SS.pstep js ls) h6,λj u hu=>?_⟩⟩
  ·rcases Qb.1 hm with hm | hm
   ·obtain⟨s,hs,q,hq,he⟩:=zMM.1 hm
    obtain⟨k,hk,hlk⟩:=zTW hs hq
    exact zGM h.o.nodup hr hlk (λe=>hij (e▸hk)) _ (Qa.2 rfl) q hq he.symm
   ·rcases Qb.1 hm with hm | hm
    ·obtain⟨k,s,hk,hs,q,hq,he⟩:=zTL hm
     exact zGM h.o.nodup hr hs (λe=>hk (Qb.2 (.inr (e▸hi')))) _ (Qa.2 rfl) q hq he.symm
    ·exact h.o.apart b (zCo hr (Qa.2 rfl)) hm
  grind [cell_of_row]
structure AC (qd:Prop)(A:List Nat)(L0:List zJ)(w0:World)(n:Nat)(S:List (Nat×Value))(Ls:List zJ)(F:List PP)(js ls:List Nat)(w:World)(a':Act)(w':World): Prop where
 s:qL a' n S
 o:zZ A w Ls
 e:zU qd L0 w0 Ls w
 f:uW F (bl Ls++A) w
theorem zZ.widen{A':List Nat}{L1:List zJ}{js:List Nat}(h:zZ A w Ls)(hn:js.Nodup)(ho:zZ A' w' L1)(e:zU qd (uY Ls js) w L1 w'): zZ (bl (xI js Ls)++A) w' L1:=by
 have hp:=h.picks js hn
 refine⟨λb hb=>UN (hp.old b hb) e.size,ho.has,ho.nodup,λb hb hA=>?_⟩
 rcases e.fresh b hb with h1 | h1
 ·exact hp.apart b h1 hA
 ·have:=hp.old b hA;omega
theorem AC.ext{js ls:List Nat}{L1:List zJ}(c:AC qd A L0 w0 n S Ls F js ls w a' w')(q:Bk qd (Ac A Ls js ls) (uY Ls js) w L1 F1 w')(Ls':List zJ)
  (hk:z6n (js++ls) Ls.length=true) (hl:Nat.ble js.length L1.length=true) (hLs:z1C js (L1.take js.length) Ls++L1.drop js.length=Ls'):zZ A w' Ls'∧zU qd Ls w Ls' w':=by
 subst hLs
 have hl:=Ui hl
 obtain⟨hn,hlt⟩:=zQI hk
 have hn1:=(QT.1 hn).1
 have hlt1:∀ j∈js,j<Ls.length:=λj hj=>hlt j (Qb.2 (.inl hj))
 have hlen:(L1.take js.length).length=js.length:=by simp;omega
 have hq:=c.o.widen hn1 q.o q.e
 have he:=q.e
 rw[←QG js.length L1] at hq he
 exact⟨c.o.fills hn1 hlt1 hlen hq he,zU.fills hn1 hlt1 hlen he⟩
theorem AC.on{js ls:List Nat}{L1:List zJ}(c:AC qd A L0 w0 n S Ls F js ls w a' w')(q:Bk qd (Ac A Ls js ls) (uY Ls js) w L1 F1 w')(Ls':List zJ)
  (hk:z6n (js++ls) Ls.length=true:=by kernel_rfl) (hl:Nat.ble js.length L1.length=true:=by kernel_rfl) (hLs:z1C js (L1.take js.length) Ls++L1.drop js.length=Ls':=by rfl)
  (hf:ls=[]∨F1=[]:=by first | exact .inl rfl | exact .inr rfl):SS qd A L0 w0 n S Ls' (F1++F) a' w':=by
 obtain⟨hO,hE⟩:=c.ext q Ls' hk hl hLs
 have hl:=Ui hl
 refine⟨c.s,hO,c.e.trans hE,uW.app ?_ (c.f.mv (hE.step A))⟩
 rcases hf with rfl | rfl
 ·obtain⟨hn,hlt⟩:=zQI hk
  rw[QF] at hn hlt
  have hlen:(L1.take js.length).length=js.length:=by simp;omega
  have hF:=q.f
  subst hLs
  refine hF.mv ?_
  have:=vY.fills (Ls:=Ls) (js:=js) (rs:=L1.take js.length) (new:=L1.drop js.length) hn hlt hlen A w'
  rw[QG] at this
  grind
 ·trivial
theorem AC.st{js ls:List Nat}{L1:List zJ}(c:AC qd A L0 w0 n S Ls F js ls w a' w')(q:Bk qd (Ac A Ls js ls) (uY Ls js) w L1 F1 w')(Ls':List zJ)
  (hk:z6n (js++ls) Ls.length=true:=by kernel_rfl) (hl:Nat.ble js.length L1.length=true:=by kernel_rfl) (hLs:z1C js (L1.take js.length) Ls++L1.drop js.length=Ls':=by rfl):zU qd Ls w Ls' w':=(c.ext q Ls' hk hl hLs).2
end
section
variable {P:Program}{ops:Array Oper}{Q:Exit->Act->World->Prop}{K:Act->World->Prop}{rest:List Oper}
variable {A:List Nat}{L0 Ls:List zJ}{w0 w:World}{n:Nat}{S:List (Nat×Value)}{F:List PP}{a:Act}
variable {d:Nat}{ty:TypeId}{pos:String}{af:Array Edge}{g:Option (Nat×Bool)}
theorem ent{f:FuncId}{fn:Func}{c:Code}{vs:List Value}{R:Ending->World->Prop}(hf:P.funcs[f]?=some fn)(hb:fn.body=some c)(hO:zZ A w0 L0)(hF:uW F (bl L0++A) w0)
  (k:∀ a,SS qd A L0 w0 fn.ntmps (zRJ vs 0) L0 F a w0->c.wp P (bodyPost P fn R) a w0) (hn:Nat.ble vs.length fn.ntmps=true:=by kernel_rfl):Calls P f vs.toArray w0 R :=
 enter hf hb hn λa hS=>k a ⟨hS,hO,zU.refl _ _,hF⟩
theorem sr{id:Nat}{l:List Oper}{y:Code}(h:wpList P l.toArray (Exit.then (λa w=>y.wp P Q a w) Q) l a w): (Code.seq (.region id l.toArray false) y).wp P Q a w:=wp_seq (reg h)
theorem ss{x y:Code}(h:y.wp P Q a w)(hx:x=.skip:=by rfl): (Code.seq x y).wp P Q a w:=by grind [wp_seq,wp_skip,then_n]
theorem pr (m:Nat)(S2:List (Nat×Value)){l:List Oper}(h:SS qd A L0 w0 n S Ls F a w)(k:∀ a,SS qd A L0 w0 n (S2++S) Ls F a w->wpList P ops Q (l.drop m) a w)
  (hr:(zO1 P ops (l.take m) S).bind (λs=>zYT s (S2.map Prod.fst))=some S2:=by kernel_rfl) (hd:z5i n S2 S (z3k (l.take m))=true:=by kernel_rfl):wpList P ops Q l a w :=
 pure_run m S2 h.s hr hd λa hS=>k a (h.slot hS)
theorem cb{c:Operand}{x y:Code}{t:Bool}(h:SS qd A L0 w0 n S Ls F a w)(hc:zL S c=some (.bool t))(ht:t=true->x.wp P Q a w)(hf:t=false->y.wp P Q a w): (Code.cond c x y).wp P Q a w:=z5A h.s hc ht hf
theorem rt1{fn:Func}{t:Nat}{R:Value->World->Prop}{v:Value}(h:SS qd A L0 w0 n S Ls F a w)(hf:fn.results=#[.tmp t])(hv:vX S t=some v)(hR:R v w): bodyPost P fn (Ret R) .ret a w:=ret1 h.s hf hv hR
theorem rtg{fn:Func}{rs:List ResultVar}{vs:List Value}{R:Value->World->Prop}(h:SS qd A L0 w0 n S Ls F a w)(hf:fn.results=rs.toArray)(hr:z7r P S w rs vs)
  (hR:R (if h:vs.length=1 then vs[0] else .tuple vs.toArray) w):bodyPost P fn (Ret R) .ret a w:=ret_g h.s hf hr hR
theorem rtc{t ty b:Nat}{v:Value}{c:Array Value}{te:TypeId}{fr:Nat×Nat}{r:List ResultVar}{vs:List Value}(i:Nat)(h:SS qd A L0 w0 n S Ls F a w)(hl:vX S t=some (.pointer (some ⟨b,0,none⟩)))(hr:Ls[i]?=some [(b,.cells c te fr)])
  (k:z7r P S w r vs) (hv:zNt P ty c 0=some v:=by kernel_rfl):z7r P S w (.cell t ty::r) (v::vs):=resC h.o i hl hr hv k
theorem b_val{op:Op}{v:Value}(h:SS qd A L0 w0 n S Ls F a w)(hr:∀ w',(execOp a.eval ⟨some d,op,ty,pos,af,g⟩).run P w'=.ok (.value v) w')(k:∀ a,SS qd A L0 w0 n ((d,v)::S) Ls F a w->K a w)
  (hd:Nat.blt d n=true:=by kernel_rfl) (hg:zS ops S g=some true:=by kernel_rfl):vD P ops Q ⟨some d,op,ty,pos,af,g⟩ K a w :=
 tE h.s hd hg (hr w) λa hS=>k a (h.slot hS)
theorem zMX (i:Nat){x:Operand}{t b o:Nat}{c:Array Value}{te:TypeId}{fr:Nat×Nat}(v:Value)(h:SS qd A L0 w0 n S Ls F a w)(hx:zL S x=some (.pointer (some ⟨b,o,none⟩)))(hr:Ls[i]?=some [(b,.cells c te fr)])
  (k:∀ a,SS qd A L0 w0 n ((d,v)::S) Ls F a w->K a w) (hv:zNt P t c o=some v:=by kernel_rfl) (hd:Nat.blt d n=true:=by kernel_rfl) (hg:zS ops S g=some true:=by kernel_rfl) :
  vD P ops Q ⟨some d,.load t x,ty,pos,af,g⟩ K a w:=z6q i h.s hd hg h.o hx hr hv λa hS=>k a (h.slot hS)
theorem zQx (i:Nat){x y:Operand}{t b o:Nat}{c:Array Value}{te:TypeId}{v:Value}(h:SS qd A L0 w0 n S Ls F a w)(hx:zL S x=some (.pointer (some ⟨b,o,none⟩)))(hy:zL S y=some v)(hr:Ls[i]?=some [(b,.cells c te (0,0))])
  (k:∀ a w',SS qd A L0 w0 n S (Ls.set i [(b,.cells (tK c o v.cells.toList) te (0,0))]) F a w'->zU qd Ls w (Ls.set i [(b,.cells (tK c o v.cells.toList) te (0,0))]) w'->K a w')
  (hv:zN4 P t c o v=true:=by kernel_rfl) (hg:zS ops S g=some true:=by kernel_rfl):vD P ops Q ⟨none,.store t x y,ty,pos,af,g⟩ K a w :=
 z5x i h.s hg h.o hx hy hr hv λw' hO e a hS=>k a w' (h.next hO e hS [] trivial) e
theorem b_box{x:Operand}{t:TypeId}{v:Value}(h:SS qd A L0 w0 n S Ls F a w)(hx:zL S x=some v)
  (k:∀ b a w',SS qd A L0 w0 n ((d,.pointer (some ⟨b,0,none⟩))::S) (Ls++[[(b,.cells v.cells t (0,0))]]) F a w'->zU qd Ls w (Ls++[[(b,.cells v.cells t (0,0))]]) w'->K a w')
  (hd:Nat.blt d n=true:=by kernel_rfl) (hg:zS ops S g=some true:=by kernel_rfl):vD P ops Q ⟨some d,.box t x,ty,pos,af,g⟩ K a w :=
 op_box h.s hd hg h.o hx λb w' hO e a hS=>k b a w' (h.next hO e hS [] trivial) e
theorem b_alloc{t:TypeId}{z:Value}(h:SS qd A L0 w0 n S Ls F a w)(hz:zJX P t=some z)
  (k:∀ b a w',SS qd A L0 w0 n ((d,.pointer (some ⟨b,0,none⟩))::S) (Ls++[[(b,.cells z.cells t (0,0))]]) F a w'->zU qd Ls w (Ls++[[(b,.cells z.cells t (0,0))]]) w'->K a w')
  (hd:Nat.blt d n=true:=by kernel_rfl) (hg:zS ops S g=some true:=by kernel_rfl):vD P ops Q ⟨some d,.alloc t,ty,pos,af,g⟩ K a w :=
 op_alloc h.s hd hg h.o hz λb w' hO e a hS=>k b a w' (h.next hO e hS [] trivial) e
section
variable {τ σ:Type}{e:E τ}{f:E σ}{te:TypeId}{r:zJ}{p:Option Addr}{c m:Nat}{l:List τ}{ix:Int}{u:τ}{t:TypeId}{x y:Operand}{kd:IntKind}
theorem z9q (h:SS qd A L0 w0 n S Ls F a w)(hR:(R e p c m l).h (bl Ls++A) w)(hx:zL S x=some (.slice p m c))(hy:zL S y=some (.int kd ix))(hm:zC l ix=some u)
  (k:∀ b o a,SS qd A L0 w0 n ((d,.pointer (some ⟨b,o,none⟩))::S) Ls (Pt e b o u::F) a w->K a w)
  (ht:yE P t=some e.n:=by kernel_rfl) (hd:Nat.blt d n=true:=by kernel_rfl) (hg:zS ops S g=some true:=by kernel_rfl):vD P ops Q ⟨some d,.indexAddr t x y,ty,pos,af,g⟩ K a w:=by
 obtain⟨hR,rfl⟩:=hR
 exact z6S h.s hd hg hR hx hy ht hm λb o hP a hS=>k b o a ((h.slot hS).add hP)
theorem z5L{b o:Nat}{y:τ}(ag:Bool)(h:SS qd A L0 w0 n S Ls F a w)(hP:(Pt e b o y).h (bl Ls++A) w)(hx:zL S x=some (.pointer (some ⟨b,o,none⟩)))
  (k:∀ ci,e.rd (bl Ls++A) w ci y->∀ v,mkV ag ci=some v->∀ a',SS qd A L0 w0 n ((d,v)::S) Ls F a' w->K a' w) (ht:vW P t=some (ag,e.n):=by kernel_rfl) (hag:ag=true∨e.n=1:=by first | exact .inl rfl | exact .inr rfl)
  (hd:Nat.blt d n=true:=by kernel_rfl) (hg:zS ops S g=some true:=by kernel_rfl):vD P ops Q ⟨some d,.load t x,ty,pos,af,g⟩ K a w :=
 z9I ag h.s hd hg hP hx ht (λci hc v hv a hS=>k ci hc v hv a (h.slot hS)) hag
theorem z7D (h:SS qd A L0 w0 n S Ls F a w)(hA:(Ar e te r p c m l).h (bl Ls++A) w)(hx:zL S x=some (.slice p m c))(hy:zL S y=some (.int kd ix))(hm:zC l ix=some u)
  (k:∀ b o,p=some ⟨b,o,none⟩->∀ a,SS qd A L0 w0 n ((d,.pointer (some ⟨b,o+ix.toNat*e.n,none⟩))::S) Ls F a w->K a w)
  (ht:yE P t=some e.n:=by kernel_rfl) (hd:Nat.blt d n=true:=by kernel_rfl) (hg:zS ops S g=some true:=by kernel_rfl):vD P ops Q ⟨some d,.indexAddr t x y,ty,pos,af,g⟩ K a w:=by
 obtain⟨hA,rfl⟩:=hA
 exact z52 h.s hd hg hA hx hy ht hm λb o hp a hS=>k b o hp a (h.slot hS)
theorem z8w (i:Nat)(s:xS e f){b o:Nat}(ag:Bool)(h:SS qd A L0 w0 n S Ls F a w)(hA:(Ar e te r p c m l).h (bl Ls++A) w)(hp:p=some ⟨b,o,none⟩)(hm:zC l ix=some u)
  (hx:zL S x=some (.pointer (some ⟨b,o+ix.toNat*e.n+s.off,none⟩)))
  (k:∀ ci,f.rd (bl Ls++A) w ci (s.get u)->∀ v,mkV ag ci=some v->∀ a',SS qd A L0 w0 n ((d,v)::S) Ls F a' w->K a' w) (hr:Ls[i]?=some r:=by rfl) (ht:vW P t=some (ag,f.n):=by kernel_rfl) (hag:ag=true∨f.n=1:=by first | exact .inl rfl | exact .inr rfl)
  (hd:Nat.blt d n=true:=by kernel_rfl) (hg:zS ops S g=some true:=by kernel_rfl):vD P ops Q ⟨some d,.load t x,ty,pos,af,g⟩ K a w :=
 z6f i s ag h.s hd hg h.o hr hA.1 hp hm hx ht (λci hc v hv a hS=>k ci hc v hv a (h.slot hS)) hag
theorem z7E (i:Nat)(s:xS e f){b o:Nat}{v:Value}(z:σ)(ag:Bool)(h:SS qd A L0 w0 n S Ls F a w)(hA:(Ar e te r p c m l).h (bl Ls++A) w)(hp:p=some ⟨b,o,none⟩)(hm:zC l ix=some u)
  (hx:zL S x=some (.pointer (some ⟨b,o+ix.toNat*e.n+s.off,none⟩))) (hy:zL S y=some v) (hv:f.rd (bl Ls++A) w v.cells.toList z)
  (k:∀ r' a' w',SS qd A L0 w0 n S (Ls.set i r') (Ar e te r' p c m (l.set ix.toNat (s.put u z))::F) a' w'->zU qd Ls w (Ls.set i r') w'->K a' w') (hr:Ls[i]?=some r:=by rfl) (ht:vW P t=some (ag,f.n):=by kernel_rfl)
  (hg:zS ops S g=some true:=by kernel_rfl):vD P ops Q ⟨none,.store t x y,ty,pos,af,g⟩ K a w :=
 z3y i s ag h.s hg h.o hr hA.1 hp hm hx hy ht hv λr' w' hO e hA' a hS=>k r' a w' (h.next hO e hS [_] ⟨⟨hA',by rw[UJ];exact hA.2⟩,trivial⟩) e
theorem z9F (i:Nat){q:Option Addr}{c2 m2:Nat}{l2 z:List τ}(h:SS qd A L0 w0 n S Ls F a w)(hA:(Ar e te r p c m l).h (bl Ls++A) w)(hR:(R e q c2 m2 l2).h (bl Ls++A) w)(hx:zL S x=some (.slice p m c))(hy:zL S y=some (.slice q m2 c2))(hm:qF l l2=some z)
  (k:∀ r' p' c' a' w',SS qd A L0 w0 n ((d,.slice p' (List.length z) c')::S) (Ls.set i r') (Ar e te r' p' c' (List.length z) z::F) a' w'->zU qd Ls w (Ls.set i r') w'->K a' w') (hr:Ls[i]?=some r:=by rfl) (ht:uT P t te e.n=true:=by kernel_rfl)
  (hd:Nat.blt d n=true:=by kernel_rfl) (hg:zS ops S g=some true:=by kernel_rfl) :
  vD P ops Q ⟨some d,.call { callee:=.builtin .append,args:=[x,y].toArray,argTypes:=[t,t].toArray },ty,pos,af,g⟩ K a w:=by
 obtain⟨hA,rfl⟩:=hA
 obtain⟨hR,rfl⟩:=hR
 exact z4e i te h.s hd hg h.o hr hA hR.src hx hy ht hm λr' p' c' w' hO e hA' a hS=>k r' p' c' a w' (h.next hO e hS [_] ⟨⟨hA',rfl⟩,trivial⟩) e
theorem z9r (i j:Nat){r2:zJ}{q:Option Addr}{c2 m2:Nat}{l2 z:List τ}(h:SS qd A L0 w0 n S Ls F a w)(hA:(Ar e te r p c m l).h (bl Ls++A) w)(hR:(Ar e te r2 q c2 m2 l2).h (bl Ls++A) w)(hx:zL S x=some (.slice p m c))(hy:zL S y=some (.slice q m2 c2))(hm:qF l l2=some z)
  (k:∀ r' p' c' a' w',SS qd A L0 w0 n ((d,.slice p' (List.length z) c')::S) (Ls.set i r') (Ar e te r' p' c' (List.length z) z::F) a' w'->zU qd Ls w (Ls.set i r') w'->K a' w') (hr:Ls[i]?=some r:=by rfl) (hr2:Ls[j]?=some r2:=by rfl) (ht:uT P t te e.n=true:=by kernel_rfl)
  (hd:Nat.blt d n=true:=by kernel_rfl) (hg:zS ops S g=some true:=by kernel_rfl) :
  vD P ops Q ⟨some d,.call { callee:=.builtin .append,args:=[x,y].toArray,argTypes:=[t,t].toArray },ty,pos,af,g⟩ K a w:=by
 obtain⟨hA,rfl⟩:=hA
 obtain⟨hR,rfl⟩:=hR
 exact z4e i te h.s hd hg h.o hr hA (hR.src h.o hr2) hx hy ht hm λr' p' c' w' hO e hA' a hS=>k r' p' c' a w' (h.next hO e hS [_] ⟨⟨hA',rfl⟩,trivial⟩) e
theorem b_bs_rd{q:Nat}{parts:List (Nat×Operand)}(cs:List Value)(l:List τ)(h:SS qd A L0 w0 n S Ls F a w)(hrd:e.rdL (bl Ls++A) w cs l)
  (k:∀ p c a' w',SS qd A L0 w0 n ((d,.slice p (List.length l) c)::S) Ls (R e p c (List.length l) l::F) a' w'->zU qd Ls w Ls w'->K a' w') (te:TypeId) (ht:uT P t te e.n=true:=by kernel_rfl) (hc:zMP P S t q parts=some cs:=by kernel_rfl) (hl:l.length=q:=by rfl)
  (hd:Nat.blt d n=true:=by kernel_rfl) (hg:zS ops S g=some true:=by kernel_rfl):vD P ops Q ⟨some d,.buildSlice t q parts.toArray,ty,pos,af,g⟩ K a w :=
 op_bs_rd cs l h.s hd hg h.o ht hc hrd hl λp c w' hO e hR a hS=>k p c a w' (h.next hO e hS [_] ⟨⟨hR,rfl⟩,trivial⟩) e
theorem b_bs_own{q:Nat}{parts:List (Nat×Operand)}(cs:List Value)(l:List τ)(h:SS qd A L0 w0 n S Ls F a w)(hrd:e.rdL (bl Ls++A) w cs l)
  (k:∀ r p c a' w',SS qd A L0 w0 n ((d,.slice p (List.length l) c)::S) (Ls++[r]) (Ar e te r p c (List.length l) l::F) a' w'->zU qd Ls w (Ls++[r]) w'->K a' w') (ht:uT P t te e.n=true:=by kernel_rfl) (hc:zMP P S t q parts=some cs:=by kernel_rfl) (hl:l.length=q:=by rfl)
  (hm:Nat.ble q 16777216=true:=by kernel_rfl) (hd:Nat.blt d n=true:=by kernel_rfl) (hg:zS ops S g=some true:=by kernel_rfl):vD P ops Q ⟨some d,.buildSlice t q parts.toArray,ty,pos,af,g⟩ K a w :=
 op_bs_own te cs l h.s hd hg h.o ht hc hrd hl hm λr p c w' hO e hA a hS=>k r p c a w' (h.next hO e hS [_] ⟨⟨hA,rfl⟩,trivial⟩) e
theorem r_strOf{Z:List Nat}{l:List Int}{s t te:TypeId}{w:World}{d:Option Tmp}(hS:qL a n S)(hR:(R (zB .u8) p c m l).h Z w)(hx:zL S x=some (.slice p m c))(hs:P.underlying s=some (.slice te))(he:P.underlying te=some (.int .u8))(ht:P.underlying t=some .string):
  (execOp a.eval ⟨d,.convert s t x,ty,pos,af,g⟩).run P w=.ok (.value (vs (zY4 l))) w:=by
 obtain⟨hR,rfl⟩:=hR
 have hrun:(Conv.bytesToString (.slice p l.length c)).run P w=.ok (vs (zY4 l)) w:=by
  cases p with
  | none =>
   rcases hR.2 with rfl | ⟨b,off,cs,h,_⟩
   ·rfl
   ·cases h
  | some ad =>
   rcases hR.2 with rfl | ⟨b,off,cs,h,hb,hlt,hl,hc⟩
   ·simp[Conv.bytesToString,loadCells,loadCellsFrom,zY4]
    rfl
   ·cases h
    have hlen:cs.length=l.length:=by rw[(zB .u8).rdL_len hl];simp[zB]
    have hld:=run_loadCells_list (P:=P) w ⟨b,off,none⟩ cs (λj u hu=>by grind [zCt])
    rw[hlen] at hld
    simp only[Conv.bytesToString,Sem.run_bind,hld,Result.andThen_ok]
    rw[←Array.forIn_toList]
    rw[z1w _ (λ_ _=>rfl) l _ Z w w _ (by grind)]
    rfl
 simp[execOp,convert,hS.eval hx,run_underlying hs,run_underlying ht,run_underlying he,hrun]
theorem b_strOf{l:List Int}{s t te:TypeId}(h:SS qd A L0 w0 n S Ls F a w)(hR:(R (zB .u8) p c m l).h (bl Ls++A) w)(hx:zL S x=some (.slice p m c))(hs:P.underlying s=some (.slice te))(he:P.underlying te=some (.int .u8))(ht:P.underlying t=some .string)
  (k:∀ a,SS qd A L0 w0 n ((d,vs (zY4 l))::S) Ls F a w->K a w) (hd:Nat.blt d n=true:=by kernel_rfl) (hg:zS ops S g=some true:=by kernel_rfl):vD P ops Q ⟨some d,.convert s t x,ty,pos,af,g⟩ K a w :=
 tE h.s hd hg (r_strOf h.s hR hx hs he ht) λa hS=>k a (h.slot hS)
end
theorem b_call{f:FuncId}{cal:Operand}{xs:List Operand}{bs0 caps:List Value}{ats:Array TypeId}{vs:List Value}{R:Value->World->Prop}(js ls:List Nat)(h:SS qd A L0 w0 n S Ls F a w)
  (hf:∀ args w,(callFunc f args).run P w=.ok (.enter f args) w) (hcal:zL S cal=some (.func (.func f) bs0.toArray caps.toArray)) (hx:z8X S xs=some vs)
  (hc:Calls P f (bs0++vs++caps).toArray w (Ret R)) (k:∀ v a' w',R v w'->AC qd A L0 w0 n ((d,v)::S) Ls F js ls w a' w'->K a' w')
  (hd:Nat.blt d n=true:=by kernel_rfl) (hg:zS ops S g=some true:=by kernel_rfl) :
  vD P ops Q ⟨some d,.call { callee:=.value cal,args:=xs.toArray,argTypes:=ats },ty,pos,af,g⟩ K a w:=by
 unfold vD
 rw[Ql (zGr (o:=⟨some d,.call { callee:=.value cal,args:=xs.toArray,argTypes:=ats },ty,pos,af,g⟩) h.s hg)]
 have hr:(execOp a.eval ⟨some d,.call { callee:=.value cal,args:=xs.toArray,argTypes:=ats },ty,pos,af,g⟩).run P w=.ok (.enter f (bs0++vs++caps).toArray) w:=by
  simp[execOp,resolve,Deferred.ofValue,invoke,h.s.eval hcal,hf,h.s.evals hx]
 unfold Oper.wp
 rw[hr]
 refine hc.mono λe w' hh=>?_
 cases e with
 | returned v=>exact k v _ w' hh ⟨h.s.put hd v,h.o,h.e,h.f⟩
 | panicked ch=>exact hh.elim
 | outgrown=>exact hh.elim
end
end
section
open Go Go.RowKit
variable {qd:Prop}
section
variable {P:Program}{ops:Array Oper}{Q:Exit->Act->World->Prop}
variable {A:List Nat}{L0 Ls:List zJ}{w0 w:World}{n:Nat}{S:List (Nat×Value)}{F:List PP}{a:Act}
variable {d:Nat}{ty:TypeId}{pos:String}{af:Array Edge}{g:Option (Nat×Bool)}{B J:List Nat}{listed:Array Bool}{fuel:Nat}
theorem ds{id:Nat}{l:List Oper}{y:Code}(B J:List Nat)(h:SS qd A L0 w0 n S Ls F a w)
  (k:∀ w',SS qd A L0 w0 n S Ls F a w'->wK P l.toArray (Exit.then (λa w=>y.wp P Q a w) Q) (SB B (CC qd A Ls w' J)) l.length (Array.replicate l.length false) a w') (hm:P.follows .mixedOrders=true:=by kernel_rfl) :
  (Code.seq (.region id l.toArray true) y).wp P Q a w :=
 wp_seq (d_start hm B J h.o λw' hO e=>k w' (h.next hO e h.s [] trivial))
theorem ds'{id:Nat}{l:List Oper}(B J:List Nat)(h:SS qd A L0 w0 n S Ls F a w)
  (k:∀ w',SS qd A L0 w0 n S Ls F a w'->wK P l.toArray Q (SB B (CC qd A Ls w' J)) l.length (Array.replicate l.length false) a w') (hm:P.follows .mixedOrders=true:=by kernel_rfl) :
  (Code.region id l.toArray true).wp P Q a w :=
 d_start hm B J h.o λw' hO e=>k w' (h.next hO e h.s [] trivial)
theorem de (h:Q .normal a w)(hr:Region.ready .any ops listed=[]:=by kernel_rfl): wK P ops Q (SB B (CC qd A Ls w J)) fuel listed a w:=d_end hr h fuel
theorem dp (i:Nat){op:Op}(v:Value)(h:SS qd A L0 w0 n S Ls F a w)(hi:ops[i]?=some ⟨some d,op,ty,pos,af,g⟩)
  (k:∀ a,SS qd A L0 w0 n ((d,v)::S) Ls F a w->wK P ops Q (SB B (CC qd A Ls w J)) fuel (listed.setIfInBounds i true) a w)
  (hQ:∀ c (v:Value) a w,Q (.panic c) (a.put (some d) v) w->Q (.panic c) a w:=by exact λ_ _ _ _ h=>h)
  (hk:vZ ops B listed i=true:=by kernel_rfl) (hd:Nat.blt d n=true:=by kernel_rfl) (hg:zS ops S g=some true:=by kernel_rfl) (hv:pv P S op=some v:=by kernel_rfl) :
  wK P ops Q (SB B (CC qd A Ls w J)) (fuel+1) listed a w:=d_pure i v h.o h.s hi hk hd (λc=>hQ c v) hg hv λa hS=>k a (h.slot hS)
theorem dv (i:Nat){op:Op}{v:Value}(h:SS qd A L0 w0 n S Ls F a w)(hi:ops[i]?=some ⟨some d,op,ty,pos,af,g⟩)(hv:∀ w',(execOp a.eval ⟨some d,op,ty,pos,af,g⟩).run P w'=.ok (.value v) w')
  (k:∀ a,SS qd A L0 w0 n ((d,v)::S) Ls F a w->wK P ops Q (SB B (CC qd A Ls w J)) fuel (listed.setIfInBounds i true) a w)
  (hQ:∀ c (v:Value) a w,Q (.panic c) (a.put (some d) v) w->Q (.panic c) a w:=by exact λ_ _ _ _ h=>h)
  (hk:vZ ops B listed i=true:=by kernel_rfl) (hd:Nat.blt d n=true:=by kernel_rfl) (hg:zS ops S g=some true:=by kernel_rfl) :
  wK P ops Q (SB B (CC qd A Ls w J)) (fuel+1) listed a w:=z9C i h.o h.s hi hk hd (λc=>hQ c v) hg hv λa hS=>k a (h.slot hS)
theorem dk (i:Nat){op:Op}(h:SS qd A L0 w0 n S Ls F a w)(hi:ops[i]?=some ⟨some d,op,ty,pos,af,g⟩)
  (k:∀ a,SS qd A L0 w0 n ((d,undef)::S) Ls F a w->wK P ops Q (SB B (CC qd A Ls w J)) fuel (listed.setIfInBounds i true) a w)
  (hQ:∀ c (v:Value) a w,Q (.panic c) (a.put (some d) v) w->Q (.panic c) a w:=by exact λ_ _ _ _ h=>h)
  (hk:vZ ops B listed i=true:=by kernel_rfl) (hd:Nat.blt d n=true:=by kernel_rfl) (hg:zS ops S g=some false:=by kernel_rfl) :
  wK P ops Q (SB B (CC qd A Ls w J)) (fuel+1) listed a w:=d_skip i h.o h.s hi hk hd (λc=>hQ c undef) hg λa hS=>k a (h.slot hS)
theorem dlo (i r:Nat){x:Operand}{t b o:Nat}{c:Array Value}{te:TypeId}{fr:Nat×Nat}(v:Value)(h:SS qd A L0 w0 n S Ls F a w)(hi:ops[i]?=some ⟨some d,.load t x,ty,pos,af,g⟩)
  (hx:zL S x=some (.pointer (some ⟨b,o,none⟩))) (hr:Ls[r]?=some [(b,.cells c te fr)])
  (k:∀ a,SS qd A L0 w0 n ((d,v)::S) Ls F a w->wK P ops Q (SB B (CC qd A Ls w J)) fuel (listed.setIfInBounds i true) a w)
  (hv:zNt P t c o=some v:=by kernel_rfl) (hb:B.all (λj=>behind ops i ops.size j)=true:=by kernel_rfl) (hJ:J.contains r=true:=by kernel_rfl)
  (hQ:∀ c (v:Value) a w,Q (.panic c) (a.put (some d) v) w->Q (.panic c) a w:=by exact λ_ _ _ _ h=>h)
  (hk:vZ ops B listed i=true:=by kernel_rfl) (hd:Nat.blt d n=true:=by kernel_rfl) (hg:zS ops S g=some true:=by kernel_rfl) :
  wK P ops Q (SB B (CC qd A Ls w J)) (fuel+1) listed a w:=z9R i r h.o h.s hi hk hd (λc=>hQ c v) hg hb hJ hx hr hv λa hS=>k a (h.slot hS)
section
variable {τ σ:Type}{e:E τ}{f:E σ}{te:TypeId}{r:zJ}{p:Option Addr}{c m:Nat}{l:List τ}{ix:Int}{u:τ}{t:TypeId}{x y:Operand}{kd:IntKind}
theorem dir (i:Nat)(h:SS qd A L0 w0 n S Ls F a w)(hi:ops[i]?=some ⟨some d,.indexAddr t x y,ty,pos,af,g⟩)(hR:(R e p c m l).h (bl Ls++A) w)(hx:zL S x=some (.slice p m c))(hy:zL S y=some (.int kd ix))(hm:zC l ix=some u)
  (k:∀ b o a,SS qd A L0 w0 n ((d,.pointer (some ⟨b,o,none⟩))::S) Ls (Pt e b o u::F) a w->wK P ops Q (SB B (CC qd A Ls w J)) fuel (listed.setIfInBounds i true) a w)
  (ht:yE P t=some e.n:=by kernel_rfl) (hQ:∀ c (v:Value) a w,Q (.panic c) (a.put (some d) v) w->Q (.panic c) a w:=by exact λ_ _ _ _ h=>h)
  (hk:vZ ops B listed i=true:=by kernel_rfl) (hd:Nat.blt d n=true:=by kernel_rfl) (hg:zS ops S g=some true:=by kernel_rfl) :
  wK P ops Q (SB B (CC qd A Ls w J)) (fuel+1) listed a w:=by
 obtain⟨hR,rfl⟩:=hR
 exact z9u i h.o h.s hi hk hd hQ hg hR hx hy ht hm λb o hP a hS=>k b o a ((h.slot hS).add hP)
theorem dlp (i:Nat){b o:Nat}{y:τ}(ag:Bool)(h:SS qd A L0 w0 n S Ls F a w)(hi:ops[i]?=some ⟨some d,.load t x,ty,pos,af,g⟩)(hP:(Pt e b o y).h (bl Ls++A) w)(hx:zL S x=some (.pointer (some ⟨b,o,none⟩)))
  (k:∀ ci,e.rd (bl Ls++A) w ci y->∀ v,mkV ag ci=some v->∀ a',SS qd A L0 w0 n ((d,v)::S) Ls F a' w->wK P ops Q (SB B (CC qd A Ls w J)) fuel (listed.setIfInBounds i true) a' w)
  (ht:vW P t=some (ag,e.n):=by kernel_rfl) (hag:ag=true∨e.n=1:=by first | exact .inl rfl | exact .inr rfl) (hb:B.all (λj=>behind ops i ops.size j)=true:=by kernel_rfl)
  (hQ:∀ c (v:Value) a w,Q (.panic c) (a.put (some d) v) w->Q (.panic c) a w:=by exact λ_ _ _ _ h=>h)
  (hk:vZ ops B listed i=true:=by kernel_rfl) (hd:Nat.blt d n=true:=by kernel_rfl) (hg:zS ops S g=some true:=by kernel_rfl) :
  wK P ops Q (SB B (CC qd A Ls w J)) (fuel+1) listed a w :=
 d_load_pt i ag h.o h.s hi hk hd hQ hg hb hP hx ht (λci hc v hv a hS=>k ci hc v hv a (h.slot hS)) hag
theorem dia (i:Nat)(h:SS qd A L0 w0 n S Ls F a w)(hi:ops[i]?=some ⟨some d,.indexAddr t x y,ty,pos,af,g⟩)(hA:(Ar e te r p c m l).h (bl Ls++A) w)(hx:zL S x=some (.slice p m c))(hy:zL S y=some (.int kd ix))(hm:zC l ix=some u)
  (k:∀ b o,p=some ⟨b,o,none⟩->∀ a,SS qd A L0 w0 n ((d,.pointer (some ⟨b,o+ix.toNat*e.n,none⟩))::S) Ls F a w->wK P ops Q (SB B (CC qd A Ls w J)) fuel (listed.setIfInBounds i true) a w)
  (ht:yE P t=some e.n:=by kernel_rfl) (hQ:∀ c (v:Value) a w,Q (.panic c) (a.put (some d) v) w->Q (.panic c) a w:=by exact λ_ _ _ _ h=>h)
  (hk:vZ ops B listed i=true:=by kernel_rfl) (hd:Nat.blt d n=true:=by kernel_rfl) (hg:zS ops S g=some true:=by kernel_rfl) :
  wK P ops Q (SB B (CC qd A Ls w J)) (fuel+1) listed a w:=by
 obtain⟨hA,rfl⟩:=hA
 exact z7J i h.o h.s hi hk hd hQ hg hA hx hy ht hm λb o hp a hS=>k b o hp a (h.slot hS)
theorem dla (i ri:Nat)(s:xS e f){b o:Nat}(ag:Bool)(h:SS qd A L0 w0 n S Ls F a w)(hi:ops[i]?=some ⟨some d,.load t x,ty,pos,af,g⟩)(hA:(Ar e te r p c m l).h (bl Ls++A) w)(hp:p=some ⟨b,o,none⟩)(hm:zC l ix=some u)
  (hx:zL S x=some (.pointer (some ⟨b,o+ix.toNat*e.n+s.off,none⟩)))
  (k:∀ ci,f.rd (bl Ls++A) w ci (s.get u)->∀ v,mkV ag ci=some v->∀ a',SS qd A L0 w0 n ((d,v)::S) Ls F a' w->wK P ops Q (SB B (CC qd A Ls w J)) fuel (listed.setIfInBounds i true) a' w)
  (hr:Ls[ri]?=some r:=by rfl) (ht:vW P t=some (ag,f.n):=by kernel_rfl) (hag:ag=true∨f.n=1:=by first | exact .inl rfl | exact .inr rfl)
  (hb:B.all (λj=>behind ops i ops.size j)=true:=by kernel_rfl) (hJ:J.contains ri=true:=by kernel_rfl)
  (hQ:∀ c (v:Value) a w,Q (.panic c) (a.put (some d) v) w->Q (.panic c) a w:=by exact λ_ _ _ _ h=>h)
  (hk:vZ ops B listed i=true:=by kernel_rfl) (hd:Nat.blt d n=true:=by kernel_rfl) (hg:zS ops S g=some true:=by kernel_rfl) :
  wK P ops Q (SB B (CC qd A Ls w J)) (fuel+1) listed a w :=
 z9J i ri s ag h.o h.s hi hk hd hQ hg hb hJ hr hA.1 hp hm hx ht (λci hc v hv a hS=>k ci hc v hv a (h.slot hS)) hag
end
theorem d1 (i:Nat){oi:Oper}(hi:ops[i]?=some oi)
  (h:vD P ops Q oi (λa' w'=>SB B (CC qd A Ls w J) (listed.setIfInBounds i true) w'∧wK P ops Q (SB B (CC qd A Ls w J)) fuel (listed.setIfInBounds i true) a' w') a w) (hr:Region.ready .any ops listed=[i]:=by kernel_rfl) :
  wK P ops Q (SB B (CC qd A Ls w J)) (fuel+1) listed a w:=d_one i hr hi h
theorem z5K{i:Nat}{oi:Oper}(hi:ops[i]?=some oi){K:Act->World->Prop}(h:vD P ops Q oi K a w): wpOp P ops Q i K a w:=by
 unfold wpOp
 simp only[hi]
 unfold vD at h
 grind
theorem d2 (i j:Nat){oi oj:Oper}(hi:ops[i]?=some oi)(hj:ops[j]?=some oj)
  (h:vD P ops Q oi (λa' w'=>SB B (CC qd A Ls w J) (listed.setIfInBounds i true) w'∧wK P ops Q (SB B (CC qd A Ls w J)) fuel (listed.setIfInBounds i true) a' w') a w)
  (h':vD P ops Q oj (λa' w'=>SB B (CC qd A Ls w J) (listed.setIfInBounds j true) w'∧wK P ops Q (SB B (CC qd A Ls w J)) fuel (listed.setIfInBounds j true) a' w') a w) (hr:Region.ready .any ops listed=[i,j]:=by kernel_rfl) :
  wK P ops Q (SB B (CC qd A Ls w J)) (fuel+1) listed a w:=by
 refine⟨λh0=>(by grind),λq hq=>?_⟩
 rw[hr] at hq
 simp only[Qw,Uk,or_false] at hq
 rcases hq with rfl | rfl
 ·exact z5K hi h
 ·exact z5K hj h'
theorem d3 (i j k:Nat){oi oj ok:Oper}(hi:ops[i]?=some oi)(hj:ops[j]?=some oj)(hk:ops[k]?=some ok)
  (h:vD P ops Q oi (λa' w'=>SB B (CC qd A Ls w J) (listed.setIfInBounds i true) w'∧wK P ops Q (SB B (CC qd A Ls w J)) fuel (listed.setIfInBounds i true) a' w') a w)
  (h':vD P ops Q oj (λa' w'=>SB B (CC qd A Ls w J) (listed.setIfInBounds j true) w'∧wK P ops Q (SB B (CC qd A Ls w J)) fuel (listed.setIfInBounds j true) a' w') a w)
  (h'':vD P ops Q ok (λa' w'=>SB B (CC qd A Ls w J) (listed.setIfInBounds k true) w'∧wK P ops Q (SB B (CC qd A Ls w J)) fuel (listed.setIfInBounds k true) a' w') a w) (hr:Region.ready .any ops listed=[i,j,k]:=by kernel_rfl) :
  wK P ops Q (SB B (CC qd A Ls w J)) (fuel+1) listed a w:=by
 refine⟨λh0=>(by grind),λq hq=>?_⟩
 rw[hr] at hq
 simp only[Qw,Uk,or_false] at hq
 rcases hq with rfl | rfl | rfl
 ·exact z5K hi h
 ·exact z5K hj h'
 ·exact z5K hk h''
theorem dn{Ls':List zJ}{w':World}{S':List (Nat×Value)}{F':List PP}{l:Array Bool}{a':Act}(h:SS qd A L0 w0 n S' Ls' F' a' w')(hE:zU qd Ls w Ls' w')
  (k:wK P ops Q (SB B (CC qd A Ls' w' J)) fuel l a' w') (hJ:J.map (Ls'[·]?)=J.map (Ls[·]?):=by rfl):SB B (CC qd A Ls w J) l w'∧wK P ops Q (SB B (CC qd A Ls w J)) fuel l a' w':=d_next h.o hE hJ k
theorem db{Ls':List zJ}{w':World}{S':List (Nat×Value)}{F':List PP}{l:Array Bool}{a':Act}(B' J':List Nat)(_h:SS qd A L0 w0 n S' Ls' F' a' w')(h:wK P ops Q (SB B' (CC qd A Ls' w' J')) fuel l a' w')(hb:B.all (λj=>!l.getD j false)=false:=by kernel_rfl):
  SB B (CC qd A Ls w J) l w'∧wK P ops Q (SB B (CC qd A Ls w J)) fuel l a' w':=d_broke B' J' hb h
theorem dless{Ls':List zJ}{S':List (Nat×Value)}{F':List PP}(_h:SS qd A L0 w0 n S' Ls' F' a w)(k:wK P ops Q (SB B (CC qd A Ls' w J)) fuel listed a w)(hs:∀ b∈bl Ls',b∈bl Ls)(hJ:J.map (Ls'[·]?)=J.map (Ls[·]?):=by rfl):
  wK P ops Q (SB B (CC qd A Ls w J)) fuel listed a w:=by
 refine zZP fuel listed a w (λl2 w2 _ hs2 hb=>?_) k
 obtain⟨L2,h1,h2,h3⟩:=hs2 hb
 exact⟨L2,h1,⟨h2.os,h2.tape,h2.output,h2.drawn,h2.size,λk hk hn=>h2.keep k hk (λhm=>hn (hs k hm)),λb hb=>(h2.fresh b hb).imp (hs b) id⟩,h3.trans hJ⟩
theorem set_less{i:Nat}: ∀ b∈bl (Ls.set i []),b∈bl Ls:=λb hb=>by
 rcases zHA hb with⟨p,hp,_⟩ | ⟨j,s,_,hs,p,hp,rfl⟩
 ·cases hp
 ·exact zCo hs hp
theorem room_less:∀ b∈bl (Ls++[[]]),b∈bl Ls:=λb hb=>by grind [zDX,bl]
end
end
section
open Go Go.RowKit
variable {qd:Prop}
theorem SS.tos{A:List Nat}{L0 Ls:List zJ}{w0 w:World}{n:Nat}{S S2:List (Nat×Value)}{F F2:List PP}{a:Act}(h:SS qd A L0 w0 n S Ls F a w)(js:List Nat)(hF:uW F2 (bl Ls++A) w)(hS:zYT S (S2.map Prod.fst)=some S2:=by kernel_rfl)(hk:js.Nodup:=by decide): SS qd A L0 w0 n S2 (uY Ls js) F2 a w :=
 ⟨h.s.only _ hS,h.o.sel js hk,h.e.sel js,hF.mv (vY.sel js _ _ _)⟩
section
variable {P:Program}{ops:Array Oper}{Q:Exit->Act->World->Prop}{K:Act->World->Prop}{rest:List Oper}
variable {A:List Nat}{L0 Ls:List zJ}{w0 w:World}{n:Nat}{S:List (Nat×Value)}{F:List PP}{a:Act}
variable {d:Nat}{ty:TypeId}{pos:String}{af:Array Edge}{g:Option (Nat×Bool)}{B J:List Nat}{listed:Array Bool}{fuel:Nat}
theorem r_quoK{x y:Operand}{t u:TypeId}{k:IntKind}{p q r:Int}{d:Option Tmp}(hS:qL a n S)(hx:zL S x=some (.int k p))(hy:zL S y=some (.int k q))(hm:quoK k p q=some r)(w:World):
  (execOp a.eval ⟨d,.binOp .quo t x y u,ty,pos,af,g⟩).run P w=.ok (.value (.int k r)) w:=by
 unfold quoK at hm
 split at hm
 ·cases hm
 ·rename_i h0
  simp only[Qg] at hm
  subst hm
  simp[execOp,hS.eval hx,hS.eval hy,zHg,binOp,Op.intDiv,h0]
theorem r_remK{x y:Operand}{t u:TypeId}{k:IntKind}{p q r:Int}{d:Option Tmp}(hS:qL a n S)(hx:zL S x=some (.int k p))(hy:zL S y=some (.int k q))(hm:remK p q=some r)(w:World):
  (execOp a.eval ⟨d,.binOp .rem t x y u,ty,pos,af,g⟩).run P w=.ok (.value (.int k r)) w:=by
 unfold remK at hm
 split at hm
 ·cases hm
 ·rename_i h0
  simp only[Qg] at hm
  subst hm
  simp[execOp,hS.eval hx,hS.eval hy,zHg,binOp,Op.intDiv,h0]
theorem z81{x y:Operand}{t u:TypeId}{k k':IntKind}{p q r:Int}{d:Option Tmp}(hS:qL a n S)(hx:zL S x=some (.int k p))(hy:zL S y=some (.int k' q))(hm:shlK k p q=some r)(w:World):
  (execOp a.eval ⟨d,.binOp .shl t x y u,ty,pos,af,g⟩).run P w=.ok (.value (.int k r)) w:=by
 unfold shlK at hm
 split at hm
 ·cases hm
 ·rename_i h0
  simp only[Qg] at hm
  subst hm
  simp[execOp,hS.eval hx,hS.eval hy,zHg,zT1 (op:=.shl) (k:=k) (a:=p) (b:=q) (v:=.int k (shl k p q)) (by simp[z2B];omega)]
theorem r_shrK{x y:Operand}{t u:TypeId}{k k':IntKind}{p q r:Int}{d:Option Tmp}(hS:qL a n S)(hx:zL S x=some (.int k p))(hy:zL S y=some (.int k' q))(hm:shrK k p q=some r)(w:World):
  (execOp a.eval ⟨d,.binOp .shr t x y u,ty,pos,af,g⟩).run P w=.ok (.value (.int k r)) w:=by
 unfold shrK at hm
 split at hm
 ·cases hm
 ·rename_i h0
  simp only[Qg] at hm
  subst hm
  simp[execOp,hS.eval hx,hS.eval hy,zHg,zT1 (op:=.shr) (k:=k) (a:=p) (b:=q) (v:=.int k (xM k p q)) (by simp[z2B];omega)]
section
variable {τ:Type}{e:E τ}{te:TypeId}{r:zJ}{p:Option Addr}{c m:Nat}{l z:List τ}{i j:Int}{t:TypeId}{x hi':Operand}{lo hi:Option Operand}{vlo vhi:Option Value}{kd:IntKind}{k0:Int}
theorem z9A (h:SS qd A L0 w0 n S Ls F a w)(hR:(R e p c m l).h (bl Ls++A) w)(hx:zL S x=some (.slice p m c))(hlo:tI S lo=some vlo)(hhi:tI S hi=some vhi)(b1:Bd vlo i 0)(b2:Bd vhi j l.length)(hm:sub l i j=some z)
  (k:∀ p' c' a,SS qd A L0 w0 n ((d,.slice p' (List.length z) c')::S) Ls (R e p' c' (List.length z) z::F) a w->K a w)
  (ht:yE P t=some e.n:=by kernel_rfl) (hd:Nat.blt d n=true:=by kernel_rfl) (hg:zS ops S g=some true:=by kernel_rfl):vD P ops Q ⟨some d,.slice t x lo hi none,ty,pos,af,g⟩ K a w:=by
 obtain⟨hR,rfl⟩:=hR
 obtain⟨p',c',hr,hf⟩:=r_slice (P:=P) (d:=some d) (ty:=ty) (pos:=pos) (af:=af) (g:=g) h.s hR hx ht hlo hhi b1 b2 hm
 exact tE h.s hd hg (hr w) λa hS=>k p' c' a ((h.slot hS).add (f:=R e p' c' (List.length z) z) ⟨hf,rfl⟩)
theorem dslice_rd (q:Nat)(h:SS qd A L0 w0 n S Ls F a w)(hi0:ops[q]?=some ⟨some d,.slice t x lo hi none,ty,pos,af,g⟩)(hR:(R e p c m l).h (bl Ls++A) w)(hx:zL S x=some (.slice p m c))(hlo:tI S lo=some vlo)(hhi:tI S hi=some vhi)(b1:Bd vlo i 0)(b2:Bd vhi j l.length)(hm:sub l i j=some z)
  (k:∀ p' c' a,SS qd A L0 w0 n ((d,.slice p' (List.length z) c')::S) Ls (R e p' c' (List.length z) z::F) a w->wK P ops Q (SB B (CC qd A Ls w J)) fuel (listed.setIfInBounds q true) a w)
  (ht:yE P t=some e.n:=by kernel_rfl) (hQ:∀ c (v:Value) a w,Q (.panic c) (a.put (some d) v) w->Q (.panic c) a w:=by exact λ_ _ _ _ h=>h)
  (hk:vZ ops B listed q=true:=by kernel_rfl) (hd:Nat.blt d n=true:=by kernel_rfl) (hg:zS ops S g=some true:=by kernel_rfl):wK P ops Q (SB B (CC qd A Ls w J)) (fuel+1) listed a w:=by
 obtain⟨hR,rfl⟩:=hR
 obtain⟨p',c',hr,hf⟩:=r_slice (P:=P) (d:=some d) (ty:=ty) (pos:=pos) (af:=af) (g:=g) h.s hR hx ht hlo hhi b1 b2 hm
 exact z9C q h.o h.s hi0 hk hd (λc=>hQ c _) hg hr λa hS=>k p' c' a ((h.slot hS).add (f:=R e p' c' (List.length z) z) ⟨hf,rfl⟩)
theorem z6u (h:SS qd A L0 w0 n S Ls F a w)(hA:(Ar e te r p c m l).h (bl Ls++A) w)(hx:zL S x=some (.slice p m c))(hhi:zL S hi'=some (.int kd k0))(hm:sub l 0 k0=some z)
  (k:∀ a,SS qd A L0 w0 n ((d,.slice p (List.length z) c)::S) Ls (Ar e te r p c (List.length z) z::F) a w->K a w)
  (ht:yE P t=some e.n:=by kernel_rfl) (hd:Nat.blt d n=true:=by kernel_rfl) (hg:zS ops S g=some true:=by kernel_rfl):vD P ops Q ⟨some d,.slice t x none (some hi') none,ty,pos,af,g⟩ K a w:=by
 obtain⟨hA,rfl⟩:=hA
 obtain⟨hf,hr⟩:=z0v (P:=P) (d:=some d) (ty:=ty) (pos:=pos) (af:=af) (g:=g) h.s hA hx ht hhi hm
 exact tE h.s hd hg (hr w) λa hS=>k a ((h.slot hS).add (f:=Ar e te r p c (List.length z) z) ⟨hf,rfl⟩)
theorem z5S{lo':Operand}{q:Unit}(h:SS qd A L0 w0 n S Ls F a w)(hA:(Ar e te r p c m l).h (bl Ls++A) w)(hx:zL S x=some (.slice p m c))(hlo:zL S lo'=some (.int kd k0))
  (hm:vT (decide (0≤k0)&&decide (k0≤(l.length:Int)))=some q)
  (k:∀ p' c',Vw e.n p c m k0 p' (Int.toNat ((m:Int)-k0))->∀ a,SS qd A L0 w0 n ((d,.slice p' (Int.toNat ((m:Int)-k0)) c')::S) Ls F a w->K a w)
  (ht:yE P t=some e.n:=by kernel_rfl) (hd:Nat.blt d n=true:=by kernel_rfl) (hg:zS ops S g=some true:=by kernel_rfl):vD P ops Q ⟨some d,.slice t x (some lo') none none,ty,pos,af,g⟩ K a w:=by
 obtain⟨hA,rfl⟩:=hA
 obtain⟨p',c',hv,hr⟩:=zYB (P:=P) (d:=some d) (ty:=ty) (pos:=pos) (af:=af) (g:=g) h.s hA hx ht hlo hm
 exact tE h.s hd hg (hr w) λa hS=>k p' c' hv a (h.slot hS)
theorem z5D{p':Option Addr}{m' c':Nat}{k j:Int}{u:τ}{y:Operand}(h:SS qd A L0 w0 n S Ls F a w)(hA:(Ar e te r p c m l).h (bl Ls++A) w)(hV:Vw e.n p c m k p' m')(hx:zL S x=some (.slice p' m' c'))(hy:zL S y=some (.int kd j))(hm:z1W l k j=some u)
  (kk:∀ b o,p=some ⟨b,o,none⟩->zC l (k+j)=some u->∀ a,SS qd A L0 w0 n ((d,.pointer (some ⟨b,o+(k+j).toNat*e.n,none⟩))::S) Ls F a w->K a w)
  (ht:yE P t=some e.n:=by kernel_rfl) (hd:Nat.blt d n=true:=by kernel_rfl) (hg:zS ops S g=some true:=by kernel_rfl):vD P ops Q ⟨some d,.indexAddr t x y,ty,pos,af,g⟩ K a w:=by
 obtain⟨hA,hm'⟩:=hA
 obtain⟨h2,b,o,hp,hr⟩:=zYF (P:=P) (d:=some d) (ty:=ty) (pos:=pos) (af:=af) (g:=g) h.s hA hV hm'.symm hx hy ht hm
 exact tE h.s hd hg (hr w) λa hS=>kk b o hp h2 a (h.slot hS)
theorem z6h (q:Nat){p':Option Addr}{m' c':Nat}{k j:Int}{u:τ}{y:Operand}(h:SS qd A L0 w0 n S Ls F a w)(hi0:ops[q]?=some ⟨some d,.indexAddr t x y,ty,pos,af,g⟩)(hA:(Ar e te r p c m l).h (bl Ls++A) w)(hV:Vw e.n p c m k p' m')(hx:zL S x=some (.slice p' m' c'))(hy:zL S y=some (.int kd j))(hm:z1W l k j=some u)
  (kk:∀ b o,p=some ⟨b,o,none⟩->zC l (k+j)=some u->∀ a,SS qd A L0 w0 n ((d,.pointer (some ⟨b,o+(k+j).toNat*e.n,none⟩))::S) Ls F a w->wK P ops Q (SB B (CC qd A Ls w J)) fuel (listed.setIfInBounds q true) a w)
  (ht:yE P t=some e.n:=by kernel_rfl) (hQ:∀ c (v:Value) a w,Q (.panic c) (a.put (some d) v) w->Q (.panic c) a w:=by exact λ_ _ _ _ h=>h)
  (hk:vZ ops B listed q=true:=by kernel_rfl) (hd:Nat.blt d n=true:=by kernel_rfl) (hg:zS ops S g=some true:=by kernel_rfl):wK P ops Q (SB B (CC qd A Ls w J)) (fuel+1) listed a w:=by
 obtain⟨hA,hm'⟩:=hA
 obtain⟨h2,b,o,hp,hr⟩:=zYF (P:=P) (d:=some d) (ty:=ty) (pos:=pos) (af:=af) (g:=g) h.s hA hV hm'.symm hx hy ht hm
 exact z9C q h.o h.s hi0 hk hd (λc=>hQ c _) hg hr λa hS=>kk b o hp h2 a (h.slot hS)
theorem z5e (q:Nat){zd:τ}{zv:Value}{p':Option Addr}{m' c':Nat}{k:Int}(h:SS qd A L0 w0 n S Ls F a w)(hA:(Ar e te r p c m l).h (bl Ls++A) w)(hV:Vw e.n p c m k p' m')(hx:zL S x=some (.slice p' m' c'))(hz:zJX P te=some zv)(hzr:e.rd (bl Ls++A) w zv.cells.toList zd)
  (kk:∀ r' a' w',SS qd A L0 w0 n S (Ls.set q r') (Ar e te r' p c m (zEQ l k zd)::F) a' w'->zU qd Ls w (Ls.set q r') w'->K a' w') (hr:Ls[q]?=some r:=by rfl)
  (ht:uT P t te e.n=true:=by kernel_rfl) (hg:zS ops S g=some true:=by kernel_rfl):vD P ops Q ⟨none,.call { callee:=.builtin .clear,args:=[x].toArray,argTypes:=[t].toArray },ty,pos,af,g⟩ K a w:=by
 obtain⟨hA,hm'⟩:=hA
 exact z2V q h.s hg h.o hr hA hV hm'.symm hx ht hz hzr λr' w' hO e hA' a hS=>kk r' a w' (h.next hO e hS [Ar _ _ _ _ _ m _] ⟨⟨hA',by rw[zNX];exact hm'⟩,trivial⟩) e
theorem z9l{u:TypeId}{d:Option Tmp}(hS:qL a n S)(hx:zL S x=some (.slice p m c))(hu:P.underlying t=some (.slice te))(w:World):
  (execOp a.eval ⟨d,.binOp .eql t x (.const (.slice none 0 0)) u,ty,pos,af,g⟩).run P w=.ok (.value (vb p.isNone)) w:=r_eqnil hS hx hu w
theorem R.ln{Z:List Nat}{w:World}(h:(R e p c m l).h Z w): m=l.length:=h.2
theorem Ar.ln{Z:List Nat}{w:World}(h:(Ar e te r p c m l).h Z w): m=l.length:=h.2
theorem R.re{Z:List Nat}{w:World}(h:(R e p c m l).h Z w): (R e p c (List.length l) l).h Z w:=⟨h.1,rfl⟩
theorem Ar.re{Z:List Nat}{w:World}(h:(Ar e te r p c m l).h Z w): (Ar e te r p c (List.length l) l).h Z w:=⟨h.1,rfl⟩
theorem R.isNil{Z:List Nat}{w:World}(h:(R e p c m l).h Z w)(hp:p.isNone=true): l=[]:=xF.isNil h.1 hp
end
end
end
section
open Go Go.RowKit
variable {qd:Prop}
section
variable {P:Program}{ops:Array Oper}{Q:Exit->Act->World->Prop}{K:Act->World->Prop}
variable {A:List Nat}{L0 Ls:List zJ}{w0 w:World}{n:Nat}{S:List (Nat×Value)}{F:List PP}{a:Act}
variable {d:Nat}{ty:TypeId}{pos:String}{af:Array Edge}{g:Option (Nat×Bool)}{B J:List Nat}{listed:Array Bool}{fuel:Nat}
variable {τ:Type}{e:E τ}{te:TypeId}{r:zJ}{p:Option Addr}{c m:Nat}{l z:List τ}{i j:Int}{t:TypeId}{x:Operand}
theorem zZ.allocated{w':World}(hO:zZ A w Ls)(o:Obj)(hw:w'.heap=(w.alloc o).heap): zZ A w' Ls :=
 ⟨λb hb=>by rw[hw];have:=hO.old b hb;simp;omega,λr hr p hp=>by rw[hw,Below.heap_alloc w _ p.1 (Qu.1 (hO.has r hr p hp)).1];exact hO.has r hr p hp,hO.nodup,hO.apart⟩
theorem zU.allocated{w':World}(Ls:List zJ)(o:Obj)(hw:w'.heap=(w.alloc o).heap)(ho:w'.os=w.os)(ht:w'.tape=w.tape)(hp:w'.output=w.output)(hd:qd->w.drawn≤w'.drawn): zU qd Ls w Ls w' :=
 ⟨ho,ht,hp,hd,by rw[hw];simp,λk hk _=>by grind [Below.heap_alloc],λb hb=>.inl hb⟩
theorem z0H{q:Option Addr}{l2:List τ}{k:Nat}(hO:zZ A w Ls)(hR:xF e (bl Ls++A) w p l.length l)(hY:Src e (bl Ls++A) w q l2)(ht:uT P t te e.n=true)(hm:qF l l2=some z)(rty:TypeId):
  ∃ p' c' w',(Builtin.append_ #[t,t] rty #[.slice p l.length l.length,.slice q l2.length k]).run P w=.ok (.slice p' z.length c') w'∧zZ A w' Ls∧zU qd Ls w Ls w'∧xF e (bl Ls++A) w' p' c' z:=by
 obtain⟨hsm,rfl⟩:=app_lt hm
 obtain⟨hu,info,zv,hi,hz,hsize,hby,hpos,hzs⟩:=zMz ht
 by_cases hm0:l2=[]
 ·subst hm0
  exact⟨p,l.length,w,by simpa using zO3 (k:=k) (q:=q) hu hi (Qr _),hO,zU.refl _ _,by grind⟩
 ·have hmpos:0<l2.length:=QY.2 hm0
  rcases hY with hY | ⟨b2,off,cs2,rfl,hcs2,hcell⟩
  ·grind
  ·have hl2:cs2.length=l2.length*info.size:=by rw[e.rdL_len hcs2,hsize]
   have hnews:∀ j u,cs2[j]?=some u->w.cell? ((⟨b2,off,none⟩:Addr).add j)=some u:=λj u hu=>by grind [zCt]
   have hbytes:(l.length+l2.length)*info.bytes≤140737488355328:=by
    have:=Ws (Nat.le_of_lt hsm) hby
    omega
   have h63:((l.length+l2.length:Nat):Int)≤9223372036854775807:=by omega
   have hold:∃ olds,olds.length=l.length*info.size∧e.rdL (bl Ls++A) w olds l∧(∀ ad,p=some ad->∀ j u,olds[j]?=some u->w.cell? (ad.add j)=some u):=by
    rcases hR.2 with rfl | ⟨b,o,cs,rfl,_,_,h1,h2⟩
    ·exact⟨[],by simp,rfl,by simp⟩
    ·exact⟨cs,by rw[e.rdL_len h1,hsize],h1,λad had j u hu=>by grind [zCt]⟩
   obtain⟨olds,ho1,ho2,ho3⟩:=hold
   have key:∀(zs:Array Value) (c':Nat),l.length+l2.length≤c'->xF e (bl Ls++A) (w.drew.alloc (.cells (olds.toArray++cs2.toArray++zs) te)) (some ⟨w.heap.size,0,none⟩) c' (l++l2):=by
    intro zs c' hc'
    have hE:zU qd Ls w Ls (w.drew.alloc (.cells (olds.toArray++cs2.toArray++zs) te)):=zU.allocated Ls _ rfl rfl rfl rfl (λ_=>Wj _)
    refine⟨by grind,.inr ⟨w.heap.size,0,olds++cs2,rfl,λhmem=>?_,by simp,e.rdL_append (e.rdL_step (hE.step A) ho2) (e.rdL_step (hE.step A) hcs2),λj u hu=>?_⟩⟩
    ·rcases Qb.1 hmem with h | h
     ·exact U7 _ (hO.lt h)
     ·exact U7 _ (hO.old _ h)
    ·rw[cell_of_row _ w.heap.size (0+j) (olds.toArray++cs2.toArray++zs) te (0,0) (heap_alloc_new w.drew _),UB]
     grind
   cases p with
   | none =>
    have hl0:l=[]:=by
     rcases hR.2 with h | ⟨_,_,_,h,_⟩
     ·exact h
     ·cases h
    subst hl0
    have ho0:olds=[]:=QR (by grind)
    subst ho0
    have hrun:=run_append_nil (P:=P) w t rty te info zv hu hi hz ⟨b2,off,none⟩ l2.length k cs2 hl2 hnews hmpos (by omega) (by grind)
    have hge:=grownCap_ge w l2.length 0 te
    rw[QI]
    refine⟨_,_,_,hrun,hO.allocated _ rfl,zU.allocated Ls _ rfl rfl rfl rfl (λ_=>Wj _),?_⟩
    grind
   | some ad =>
    have hrun:=run_append_grow (P:=P) w t rty te info zv hu hi hz ad l.length l.length olds ho1 (ho3 ad rfl) ⟨b2,off,none⟩ l2.length k cs2 hl2 hnews (by omega) h63 (growslice_fits (by omega) hbytes)
    have hge:=grownCap_ge w (l.length+l2.length) l.length te
    rw[←Qd] at hrun
    refine⟨_,_,_,hrun,hO.allocated _ rfl,zU.allocated Ls _ rfl rfl rfl rfl (λ_=>Wj _),key _ _ (by grind)⟩
theorem z9a{q:Option Addr}{c2 m2:Nat}{l2:List τ}{y:Operand}(h:SS qd A L0 w0 n S Ls F a w)(hA:(R e p m m l).h (bl Ls++A) w)(hR:(R e q c2 m2 l2).h (bl Ls++A) w)(hx:zL S x=some (.slice p m m))(hy:zL S y=some (.slice q m2 c2))(hm:qF l l2=some z)
  (k:∀ p' c' a' w',SS qd A L0 w0 n ((d,.slice p' (List.length z) c')::S) Ls (R e p' c' (List.length z) z::F) a' w'->zU qd Ls w Ls w'->K a' w') (te:TypeId) (ht:uT P t te e.n=true:=by kernel_rfl)
  (hd:Nat.blt d n=true:=by kernel_rfl) (hg:zS ops S g=some true:=by kernel_rfl) :
  vD P ops Q ⟨some d,.call { callee:=.builtin .append,args:=[x,y].toArray,argTypes:=[t,t].toArray },ty,pos,af,g⟩ K a w:=by
 obtain⟨hA,rfl⟩:=hA
 obtain⟨hR,rfl⟩:=hR
 obtain⟨p',c',w',hrun,h1,h2,h3⟩:=z0H (P:=P) (k:=c2) h.o hA hR.src ht hm ty
 refine tE h.s hd hg (v:=.slice p' z.length c') (w':=w') ?_ λa hS=>k p' c' a w' (h.next h1 h2 hS [R e p' c' (List.length z) z] ⟨⟨h3,rfl⟩,trivial⟩) h2
 simp[execOp,resolve,invoke,builtin,h.s.eval hx,h.s.eval hy,hrun]
theorem z4Y{lo:Option Operand}{hi mx:Operand}{vlo:Option Value}{k1 k2:IntKind}(h:SS qd A L0 w0 n S Ls F a w)(hR:(R e p c m l).h (bl Ls++A) w)(hx:zL S x=some (.slice p m c))(hlo:tI S lo=some vlo)(hhi:zL S hi=some (.int k1 j))(hmx:zL S mx=some (.int k2 j))(b1:Bd vlo i 0)(hm:sub l i j=some z)
  (k:∀ p' a,SS qd A L0 w0 n ((d,.slice p' (List.length z) (List.length z))::S) Ls (R e p' (List.length z) (List.length z) z::F) a w->K a w)
  (ht:yE P t=some e.n:=by kernel_rfl) (hd:Nat.blt d n=true:=by kernel_rfl) (hg:zS ops S g=some true:=by kernel_rfl):vD P ops Q ⟨some d,.slice t x lo (some hi) (some mx),ty,pos,af,g⟩ K a w:=by
 obtain⟨hR,rfl⟩:=hR
 unfold sub at hm
 split at hm
 case isFalse=>cases hm
 rename_i h0
 simp only[Qg] at hm
 obtain⟨h1,h2,h3⟩:=h0
 subst hm
 have hzl:((l.take j.toNat).drop i.toNat).length=j.toNat-i.toNat:=by simp;omega
 have hlc:=hR.1
 unfold yE at ht
 split at ht
 case h_2=>cases ht
 rename_i te hu
 cases hq:P.info? te with
 | none=>grind
 | some info =>
  have hs:info.size=e.n:=by simpa [hq] using ht
  have hb:(Instr.sliceBounds true l.length c vlo (some (.int k1 j)) (some (.int k2 j))).run P w=.ok (i.toNat,j.toNat,j.toNat) w:=by
   have h0j:0≤j:=by omega
   have hmax:max j 0=j:=by omega
   rcases b1 with⟨rfl,rfl⟩ | ⟨k3,rfl⟩
   ·simp[Instr.sliceBounds,Instr.sliceBound,asIntOf,h0j,show j≤(c:Int) by omega,hmax]
   ·simp[Instr.sliceBounds,Instr.sliceBound,asIntOf,h0j,h1,h2,show j≤(c:Int) by omega,hmax]
  refine tE h.s hd hg (v:=.slice (if j.toNat=i.toNat then p else p.map (·.add (i.toNat*e.n))) (List.length ((l.take j.toNat).drop i.toNat)) (List.length ((l.take j.toNat).drop i.toNat))) (w':=w) ?_ λa hS =>
   k _ a ((h.slot hS).add (f:=R e _ _ _ _) ⟨⟨Qr _,?_⟩,rfl⟩)
  ·simp[execOp,h.s.eval hx,h.s.evalO hlo,h.s.eval hhi,h.s.eval hmx,Instr.sliceAt,Instr.slice,run_underlying hu,hb,sizeOf,typeInfo,hq,hs,hzl]
  ·by_cases he:(l.take j.toNat).drop i.toNat=[]
   ·grind
   ·rcases hR.2 with rfl | ⟨b,off,cs,rfl,hb,hlt,hl,hcell⟩
    ·grind
    ·have hne:¬ j.toNat=i.toNat:=λhci=>he (QR (by grind))
     refine .inr ⟨b,off+i.toNat*e.n,(cs.take (j.toNat*e.n)).drop (i.toNat*e.n),by simp[hne,zCt],hb,hlt,e.rdL_drop _ (e.rdL_take _ hl),λk u hu=>?_⟩
     grind
end
end
end Go.GD
