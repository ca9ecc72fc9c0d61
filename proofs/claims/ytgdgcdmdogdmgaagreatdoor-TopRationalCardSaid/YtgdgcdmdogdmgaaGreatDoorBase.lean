/- A part. Conditions: none. -/
import GoSem.Core.View
namespace Go.GD
set_option autoImplicit false
set_option linter.defProp false
abbrev Qa:=@List.mem_singleton
abbrev Qb:=@if_false
abbrev Qc:=@if_true
abbrev Qd:=@List.mem_append
abbrev Qe:=@List.getElem?_eq_getElem
abbrev Qf:=@Option.some.injEq
abbrev Qg:=@List.getElem?_eq_some_iff
abbrev Qh:=@List.length_append
abbrev Qi:=@List.mem_cons_of_mem
abbrev Qj:=@List.mem_map
abbrev Qk:=@List.mem_filter
abbrev Ql:=@Int.toNat_natCast
abbrev Qm:=@List.mem_cons_self
abbrev Qn:=@List.mem_iff_getElem?
abbrev Qo:=@Bool.and_eq_true
abbrev Qp:=@decide_eq_true_eq
abbrev Qq:=@if_neg
abbrev Qr:=@Nat.le_refl
abbrev Qs:=@List.take_of_length_le
abbrev Qt:=@Array.getElem?_eq_some_iff
abbrev Qu:=@if_pos
abbrev Qv:=@List.mem_cons
abbrev Qw:=@Int.eq_ofNat_of_zero_le
abbrev Qx:=@List.drop_eq_getElem_cons
abbrev Qy:=@Nat.lt_succ_iff_lt_or_eq
abbrev Qz:=@List.mem_flatMap
abbrev QA:=@List.append_assoc
abbrev QB:=@List.append_nil
abbrev QC:=@Option.some.inj
abbrev QD:=@Nat.le_trans
abbrev QE:=@List.all_eq_true
abbrev QF:=@Nat.mul_le_mul_right
abbrev QG:=@List.ext_getElem?
abbrev QH:=@List.length_filter_le
abbrev QI:=@List.length_cons
abbrev QJ:=@List.pairwise_cons
abbrev QK:=@List.nodup_append
abbrev QL:=@List.length_take
abbrev QM:=@List.nil_append
abbrev QN:=@Bool.not_true
abbrev QO:=@decide_eq_true
abbrev QP:=@Nat.add_mul
abbrev QQ:=@beq_eq_false_iff_ne
abbrev QR:=@List.mem_of_getElem?
abbrev QS:=@decide_eq_false_iff_not
abbrev QT:=@List.take_append_drop
abbrev QU:=@List.take_length
abbrev QV:=@Bool.eq_iff_iff
abbrev QW:=@List.take_add_one
abbrev QX:=@List.any_eq_true
abbrev QY:=@List.getElem?_append_left
abbrev QZ:=@List.drop_of_length_le
abbrev Q1:=@List.size_toArray
abbrev Q2:=@List.getElem?_map
abbrev Q3:=@Nat.le_of_ble_eq_true
abbrev Q4:=@Nat.add_zero
abbrev Q5:=@List.length_pos_iff
abbrev Q6:=@Bool.or_eq_true
abbrev Q7:=@List.filter_cons
abbrev Q8:=@Bool.not_false
abbrev Q9:=@List.any_eq_false
abbrev Ua:=@List.map_cons
abbrev Ub:=@List.getElem?_take
abbrev Uc:=@Nat.min_eq_left
abbrev Ud:=@List.length_nil
abbrev Ue:=@beq_iff_eq
abbrev Uf:=@List.getElem?_append_right
abbrev Ug:=@List.mem_range
abbrev Uh:=@List.getElem?_cons_succ
abbrev Ui:=@Bool.false_and
abbrev Uj:=@List.length_drop
abbrev Uk:=@Nat.lt_of_lt_of_le
abbrev Ul:=@List.foldl_cons
abbrev Um:=@List.length_map
abbrev Un:=@decide_eq_false
abbrev Uo:=@Option.map_eq_some_iff
abbrev Uq:=@List.take_append_of_le_length
abbrev Ur:=@List.length_singleton
abbrev Us:=@List.filter_append
abbrev Ut:=@Nat.zero_le
abbrev Uu:=@Nat.add_sub_cancel_left
abbrev Uv:=@beq_self_eq_true
abbrev Uw:=@Bool.or_eq_false_iff
abbrev Ux:=@Bool.true_and
abbrev Uy:=@List.take_take
abbrev Uz:=@List.filter_congr
abbrev UA:=@List.pairwise_map
abbrev UB:=@List.length_set
abbrev UC:=@List.nodup_cons
abbrev UD:=@List.getElem?_eq_none
abbrev UE:=@List.pairwise_flatMap
abbrev UF:=@Nat.zero_add
abbrev UG:=@List.eq_nil_of_length_eq_zero
abbrev UH:=@List.mem_of_mem_take
abbrev UI:=@List.getElem?_cons_zero
abbrev UJ:=@List.flatMap_cons
abbrev UK:=@Array.length_toList
abbrev UL:=@Nat.testBit_two_pow_mul_add
abbrev UM:=@Nat.testBit_two_pow_sub_one
abbrev UN:=@Nat.mul_one
abbrev UO:=@Bool.false_or
abbrev UP:=@List.cons_append
abbrev UR:=@decide_eq_decide
abbrev US:=@List.drop_take
abbrev UT:=@Array.getElem?_modify
abbrev UU:=@List.pairwise_iff_getElem
abbrev UV:=@List.exists_mem_of_ne_nil
abbrev UW:=@Nat.not_lt_zero
abbrev UX:=@beq_false_of_ne
abbrev UY:=@List.all_cons
abbrev UZ:=@Nat.add_assoc
abbrev U0:=@Bool.or_false
abbrev U1:=@Array.toList_append
abbrev U2:=@Nat.add_le_add_left
abbrev U3:=@List.flatMap_append
abbrev U4:=@List.take_left
abbrev U5:=@List.drop_append
abbrev U6:=@List.not_mem_nil
abbrev U7:=@Nat.mod_eq_of_lt
abbrev U8:=@Nat.zero_testBit
abbrev U9:=@Bool.and_false
abbrev Wa:=@List.nodup_nil
abbrev Wb:=@List.drop_append_of_le_length
abbrev Wc:=@Int.le_refl
abbrev Wd:=@Nat.ble_eq
abbrev We:=@List.map_append
abbrev Wf:=@Nat.testBit_and
abbrev Wg:=@Array.size_append
abbrev Wh:=@List.drop_drop
abbrev Wi:=@Nat.eq_of_testBit_eq
abbrev Wj:=@List.take_append
abbrev Wk:=@Nat.lt_succ_self
abbrev Wl:=@Option.getD_some
abbrev Wm:=@Bool.not_eq_true
abbrev Wn:=@List.filter_eq_self
abbrev Wo:=@List.map_congr_left
abbrev Wp:=@Nat.lt_irrefl
abbrev Wq:=@List.getElem?_drop
abbrev Wr:=@List.filter_cons_of_neg
abbrev Ws:=@List.all_eq_not_any_not
theorem zob{α β:Type}(a:α)(f:α->Option β): (some a).bind f=f a:=rfl
theorem zbf:(false=true)=False:=Bool.false_eq_true
abbrev zD:=List UInt8
abbrev zM (n:Int): Int:=IntKind.i64.wrap n
abbrev len{α:Type}(l:List α): Int:=(l.length:Int)
def zB{α:Type}(l:List α)(i:Int): Option α:=if 0≤i then l[i.toNat]? else none
def z2G (l:zD)(i:Int): Option Int:=if 0≤i then(l[i.toNat]?).map (fun b=>(b.toNat:Int)) else none
def sub{α:Type}(l:List α)(i j:Int): Option (List α) :=
 if 0≤i∧i≤j∧j≤l.length then some ((l.take j.toNat).drop i.toNat) else none
def qG{α:Type}(l m:List α): Option (List α):=if l.length+m.length<4294967296 then some (l++m) else none
def upd{α:Type}(l:List α)(i:Int)(x:α): Option (List α):=if 0≤i∧i<l.length then some (l.set i.toNat x) else none
def cat (s t:zD): Option zD:=if s.length+t.length<4294967296 then some (s++t) else none
def zV2 (l:List Int): zD:=l.map (fun n=>UInt8.ofNat n.toNat)
def uV:zD->zD->Bool
 | _,[]=>false
 | [],_::_=>true
 | a::x,b::y=>a<b||(a==b&&uV x y)
def quo (x y:Int): Option Int:=if y=0 then none else some (zM (x.tdiv y))
def rem (x y:Int): Option Int:=if y=0 then none else some (x.tmod y)
def vA (k:IntKind)(x y:Int): Int:=k.wrap ((BitVec.ofInt k.bits x &&& BitVec.ofInt k.bits y).toNat:Int)
def bor (k:IntKind)(x y:Int): Int:=k.wrap ((BitVec.ofInt k.bits x ||| BitVec.ofInt k.bits y).toNat:Int)
def bxor (k:IntKind)(x y:Int): Int:=k.wrap ((BitVec.ofInt k.bits x ^^^ BitVec.ofInt k.bits y).toNat:Int)
def zNV (k:IntKind)(x y:Int): Int:=k.wrap ((BitVec.ofInt k.bits x &&& ~~~(BitVec.ofInt k.bits y)).toNat:Int)
def shl (k:IntKind)(x y:Int): Int:=k.wrap (x*2 ^ (min y.toNat k.bits))
def uT (k:IntKind)(x y:Int): Int:=x.fdiv (2 ^ (min y.toNat k.bits))
def quoK (k:IntKind)(x y:Int): Option Int:=if y=0 then none else some (k.wrap (x.tdiv y))
def remK (x y:Int): Option Int:=if y=0 then none else some (x.tmod y)
def z6f (k:IntKind)(x y:Int): Option Int:=if y<0 then none else some (shl k x y)
def shrK (k:IntKind)(x y:Int): Option Int:=if y<0 then none else some (uT k x y)
def uW{κ ν:Type}[BEq κ]: List (κ×ν)->κ->Option ν
 | [],_=>none
 | x::r,k=>if k==x.1 then some x.2 else uW r k
def uQ{κ ν:Type}[BEq κ]: List (κ×ν)->κ->ν->List (κ×ν)
 | [],k,v=>[(k,v)]
 | x::r,k,v=>if k==x.1 then(k,v)::r else x::uQ r k v
def wZ{σ α:Type}(m:Option (σ⊕α))(k:σ->Option α): Option α :=
 m.bind fun o=>match o with
  | .inl s=>k s
  | .inr r=>some r
def tK{σ ρ:Type}(B:σ->Option (σ⊕ρ)): Nat->σ->Option ρ
 | 0,_=>none
 | n+1,s=>match B s with
  | none=>none
  | some (.inr r)=>some r
  | some (.inl s')=>tK B n s'
open Classical in
noncomputable def zN{σ ρ:Type}(B:σ->Option (σ⊕ρ))(s:σ): Option ρ :=
 if h:∃ r,∃ n,tK B n s=some r then some h.choose else none
theorem z0R{σ ρ:Type}{B:σ->Option (σ⊕ρ)}: ∀ {n:Nat} {s:σ} {r:ρ},tK B n s=some r->∀ m,n≤m->tK B m s=some r:=by
 intro n
 induction n with
 | zero=>grind [tK]
 | succ n ih =>
  intro s r h m hm
  obtain⟨k,rfl⟩:∃ k,m=k+1:=⟨m-1,by omega⟩
  grind [tK]
theorem zLQ{σ ρ:Type}{B:σ->Option (σ⊕ρ)}{n:Nat}{s:σ}{r:ρ}(h:tK B n s=some r): zN B s=some r:=by
 have hex:∃ r,∃ n,tK B n s=some r:=⟨r,n,h⟩
 unfold zN
 rw[dif_pos hex]
 obtain⟨m,hm⟩:=hex.choose_spec
 have h1:=z0R h (max n m) (by omega)
 have h2:=z0R hm (max n m) (by omega)
 grind
theorem zNK{σ ρ:Type}{B:σ->Option (σ⊕ρ)}{s:σ}{r:ρ}(h:zN B s=some r): ∃ n,tK B n s=some r:=by
 unfold zN at h
 split at h
 ·grind
 ·cases h
open Classical in
noncomputable def z6b{α:Type}(f:Nat->Option α): Option α :=
 if h:∃ r,∃ n,∀ m,n≤m->f m=some r then some h.choose else none
theorem z5e{α:Type}{f:Nat->Option α}{r:α}(h:z6b f=some r): ∃ k,f k=some r:=by
 unfold z6b at h
 split at h
 ·rename_i hex
  obtain⟨n,hn⟩:=hex.choose_spec
  exact⟨n,by grind⟩
 ·cases h
theorem zUN{α:Type}{f:Nat->Option α}{r:α}(n:Nat)(h:∀ m,n≤m->f m=some r): z6b f=some r:=by
 have hex:∃ r,∃ n,∀ m,n≤m->f m=some r:=⟨r,n,h⟩
 unfold z6b
 rw[dif_pos hex]
 obtain⟨k,hk⟩:=hex.choose_spec
 rw[←hk (max n k) (by omega),h (max n k) (by omega)]
theorem vR{σ ρ:Type}(B:σ->Option (σ⊕ρ))(s:σ):
  zN B s=match B s with
   | none=>none
   | some (.inr r)=>some r
   | some (.inl s')=>zN B s':=by
 cases hl:zN B s with
 | some r =>
  obtain⟨n,hn⟩:=zNK hl
  cases n with
  | zero=>simp[tK] at hn
  | succ n =>
   simp only[tK] at hn
   split at hn
   ·cases hn
   ·grind
   ·exact(zLQ hn).symm
 | none =>
  have no:∀ r n,tK B n s≠some r:=fun r n hn=>by grind [zLQ]
  cases hb:B s with
  | none=>rfl
  | some o =>
   cases o with
   | inr r=>exact absurd (show tK B 1 s=some r by simp[tK,hb]) (no r 1)
   | inl s' =>
    show none=zN B s'
    cases hl':zN B s' with
    | none=>rfl
    | some r =>
     obtain⟨n,hn⟩:=zNK hl'
     exact absurd (show tK B (n+1) s=some r by simp[tK,hb,hn]) (no r (n+1))
theorem zNx{σ ρ:Type}{B:σ->Option (σ⊕ρ)}(I:σ->Prop)(μ:σ->Nat)(Q:ρ->Prop)
  (step:∀ s,I s->(∃ s',B s=some (.inl s')∧I s'∧μ s' < μ s)∨(∃ r,B s=some (.inr r)∧Q r)) :
  ∀ s,I s->∃ r,zN B s=some r∧Q r:=by
 have key:∀ n s,μ s=n->I s->∃ r,zN B s=some r∧Q r:=by
  intro n
  induction n using Nat.strongRecOn with
  | _ n ih =>
   intro s hn hI
   rcases step s hI with⟨s',hb,hI',hlt⟩ | ⟨r,hb,hq⟩
   ·obtain⟨r,hr,hq⟩:=ih (μ s') (hn▸hlt) s' rfl hI'
    grind [vR]
   grind [vR]
 grind
def rounds{σ ρ:Type}(B:Int->σ->Option (σ⊕ρ)): Nat->Int->σ->Option (σ⊕ρ)
 | 0,_,s=>some (.inl s)
 | k+1,i,s=>match B i s with
  | none=>none
  | some (.inr r)=>some (.inr r)
  | some (.inl s')=>rounds B k (i+1) s'
def zPV{σ ρ:Type}(n:Int)(B:Int->σ->Option (σ⊕ρ))(s:σ): Option (σ⊕ρ) :=
 if n<9223372036854775808 then rounds B n.toNat 0 s else none
end Go.GD
