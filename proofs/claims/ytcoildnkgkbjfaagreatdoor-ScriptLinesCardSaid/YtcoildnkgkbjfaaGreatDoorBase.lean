/- A part. Conditions: none. -/
import GoSem.Core.View
namespace Go.GD
set_option autoImplicit false
set_option linter.defProp false
abbrev Qa:=@if_neg
abbrev Qb:=@Bool.and_eq_true
abbrev Qc:=@List.length_append
abbrev Qd:=@List.getD_cons_succ
abbrev Qe:=@if_true
abbrev Qf:=@List.mem_singleton
abbrev Qg:=@Option.some.injEq
abbrev Qh:=@if_false
abbrev Qi:=@List.getElem?_eq_getElem
abbrev Qj:=@List.getElem?_eq_some_iff
abbrev Qk:=@List.mem_append
abbrev Ql:=@decide_eq_true_eq
abbrev Qm:=@if_pos
abbrev Qn:=@List.length_cons
abbrev Qo:=@List.append_assoc
abbrev Qp:=@List.getD_cons_zero
abbrev Qq:=@List.mem_cons_of_mem
abbrev Qr:=@beq_eq_false_iff_ne
abbrev Qs:=@decide_eq_true
abbrev Qt:=@Nat.le_refl
abbrev Qu:=@List.drop_eq_getElem_cons
abbrev Qv:=@List.mem_iff_getElem?
abbrev Qw:=@Int.toNat_natCast
abbrev Qx:=@Bool.not_true
abbrev Qy:=@Nat.le_trans
abbrev Qz:=@List.mem_cons_self
abbrev QA:=@List.nil_append
abbrev QB:=@List.mem_map
abbrev QC:=@List.take_append_drop
abbrev QD:=@Array.getElem?_eq_some_iff
abbrev QE:=@Option.some.inj
abbrev QF:=@decide_eq_false
abbrev QG:=@List.mem_cons
abbrev QH:=@beq_iff_eq
abbrev QI:=@Bool.or_eq_true
abbrev QJ:=@List.append_nil
abbrev QK:=@List.all_eq_true
abbrev QL:=@List.length_pos_iff
abbrev QM:=@Bool.not_false
abbrev QN:=@decide_eq_false_iff_not
abbrev QO:=@List.length_drop
abbrev QP:=@List.pairwise_cons
abbrev QQ:=@beq_self_eq_true
abbrev QR:=@List.mem_filter
abbrev QS:=@Nat.mul_le_mul_right
abbrev QT:=@Bool.or_eq_false_iff
abbrev QU:=@Nat.add_zero
abbrev QV:=@Nat.le_of_ble_eq_true
abbrev QW:=@Option.map_some
abbrev QX:=@List.take_of_length_le
abbrev QY:=@List.map_cons
abbrev QZ:=@Nat.add_sub_cancel_left
abbrev Q0:=@Nat.add_mul
abbrev Q1:=@Int.eq_ofNat_of_zero_le
abbrev Q2:=@List.nodup_append
abbrev Q3:=@Nat.pow_le_pow_right
abbrev Q4:=@List.length_filter_le
abbrev Q5:=@List.cons_append
abbrev Q6:=@List.getElem?_cons_succ
abbrev Q7:=@List.take_length
abbrev Q8:=@List.drop_of_length_le
abbrev Q9:=@Nat.zero_le
abbrev Ua:=@List.size_toArray
abbrev Ub:=@List.getElem?_cons_zero
abbrev Uc:=@List.mem_of_getElem?
abbrev Ud:=@Nat.zero_add
abbrev Ue:=@List.take_add_one
abbrev Uf:=@List.drop_take
abbrev Ug:=@List.drop_zero
abbrev Uh:=@Nat.lt_of_lt_of_le
abbrev Ui:=@List.mem_flatMap
abbrev Uj:=@List.pairwise_append
abbrev Uk:=@List.ext_getElem?
abbrev Ul:=@Option.map_eq_some_iff
abbrev Um:=@List.flatMap_cons
abbrev Un:=@Nat.min_eq_left
abbrev Uo:=@List.length_take
abbrev Up:=@List.drop_append_of_le_length
abbrev Uq:=@List.eq_nil_of_length_eq_zero
abbrev Ur:=@List.mem_of_mem_take
abbrev Us:=@List.drop_drop
abbrev Ut:=@List.pairwise_lt_range
abbrev Uu:=@Bool.not_and
abbrev Uv:=@List.perm_append_comm
abbrev Uw:=@List.pairwise_iff_getElem
abbrev Ux:=@List.getElem?_append_left
abbrev Uy:=@List.length_set
abbrev Uz:=@List.foldl_cons
abbrev UA:=@List.length_nil
abbrev UB:=@List.length_range
abbrev UC:=@Nat.lt_irrefl
abbrev UD:=@List.all_cons
abbrev UE:=@Bool.or_assoc
abbrev UF:=@List.flatMap_append
abbrev UG:=@List.mem_range
abbrev UH:=@List.not_mem_nil
abbrev UI:=@List.getElem?_take
abbrev UJ:=@Bool.eq_iff_iff
abbrev UK:=@Bool.true_and
abbrev UL:=@Array.getElem?_modify
abbrev UM:=@Nat.one_mul
abbrev UN:=@Nat.mul_le_mul
abbrev UO:=@List.take_left
abbrev UP:=@List.take_take
abbrev UR:=@Nat.le_succ
abbrev US:=@List.any_eq_true
abbrev UT:=@Array.toList_append
abbrev UU:=@List.nodup_cons
abbrev UV:=@List.length_map
abbrev UW:=@List.set_cons_succ
abbrev UX:=@List.getElem?_drop
abbrev UY:=@Option.bind_eq_some_iff
abbrev UZ:=@List.prefix_iff_eq_take
abbrev U0:=@Array.size_append
abbrev U1:=@List.getElem?_map
abbrev U2:=@List.flatten_cons
abbrev U3:=@List.pairwise_map
abbrev U4:=@List.tail_drop
abbrev U5:=@List.append_eq_nil_iff
abbrev U6:=@Nat.ble_eq
abbrev U7:=@List.drop_length
abbrev U8:=@List.take_append
abbrev U9:=@List.drop_append
abbrev Wa:=@Nat.add_assoc
abbrev Wb:=@Bool.or_false
abbrev Wc:=@List.map_append
theorem zob{α β:Type}(a:α)(f:α->Option β): (some a).bind f=f a:=rfl
theorem zbf:(false=true)=False:=Bool.false_eq_true
abbrev zA:=List UInt8
abbrev zF (n:Int): Int:=IntKind.i64.wrap n
abbrev len{α:Type}(l:List α): Int:=(l.length:Int)
def zD{α:Type}(l:List α)(i:Int): Option α:=if 0≤i then l[i.toNat]? else none
def vR (l:zA)(i:Int): Option Int:=if 0≤i then(l[i.toNat]?).map (fun b=>(b.toNat:Int)) else none
def sub{α:Type}(l:List α)(i j:Int): Option (List α) :=
 if 0≤i∧i≤j∧j≤l.length then some ((l.take j.toNat).drop i.toNat) else none
def qT{α:Type}(l m:List α): Option (List α):=if l.length+m.length<4294967296 then some (l++m) else none
def upd{α:Type}(l:List α)(i:Int)(x:α): Option (List α):=if 0≤i∧i<l.length then some (l.set i.toNat x) else none
def qE (s t:zA): Option zA:=if s.length+t.length<4294967296 then some (s++t) else none
def z14 (l:zA): List Int:=l.map fun b=>((b.toNat:Nat):Int)
def zKH (l:List Int): zA:=l.map (fun n=>UInt8.ofNat n.toNat)
def yX:zA->zA->Bool
 | _,[]=>false
 | [],_::_=>true
 | a::x,b::y=>a<b||(a==b&&yX x y)
def quo (x y:Int): Option Int:=if y=0 then none else some (zF (x.tdiv y))
def rem (x y:Int): Option Int:=if y=0 then none else some (x.tmod y)
def z7n (k:IntKind)(x y:Int): Int:=k.wrap ((BitVec.ofInt k.bits x &&& BitVec.ofInt k.bits y).toNat:Int)
def bor (k:IntKind)(x y:Int): Int:=k.wrap ((BitVec.ofInt k.bits x ||| BitVec.ofInt k.bits y).toNat:Int)
def z5u (k:IntKind)(x y:Int): Int:=k.wrap ((BitVec.ofInt k.bits x ^^^ BitVec.ofInt k.bits y).toNat:Int)
def zYI (k:IntKind)(x y:Int): Int:=k.wrap ((BitVec.ofInt k.bits x &&& ~~~(BitVec.ofInt k.bits y)).toNat:Int)
def shl (k:IntKind)(x y:Int): Int:=k.wrap (x*2 ^ (min y.toNat k.bits))
def shr (k:IntKind)(x y:Int): Int:=x.fdiv (2 ^ (min y.toNat k.bits))
def z3i (k:IntKind)(x y:Int): Option Int:=if y=0 then none else some (k.wrap (x.tdiv y))
def z4q (x y:Int): Option Int:=if y=0 then none else some (x.tmod y)
def shlK (k:IntKind)(x y:Int): Option Int:=if y<0 then none else some (shl k x y)
def shrK (k:IntKind)(x y:Int): Option Int:=if y<0 then none else some (shr k x y)
def tL{κ ν:Type}[BEq κ]: List (κ×ν)->κ->Option ν
 | [],_=>none
 | x::r,k=>if k==x.1 then some x.2 else tL r k
def z4A{κ ν:Type}[BEq κ]: List (κ×ν)->κ->ν->List (κ×ν)
 | [],k,v=>[(k,v)]
 | x::r,k,v=>if k==x.1 then(k,v)::r else x::z4A r k v
def uQ{σ α:Type}(m:Option (σ⊕α))(k:σ->Option α): Option α :=
 m.bind fun o=>match o with
  | .inl s=>k s
  | .inr r=>some r
def tY{σ ρ:Type}(B:σ->Option (σ⊕ρ)): Nat->σ->Option ρ
 | 0,_=>none
 | n+1,s=>match B s with
  | none=>none
  | some (.inr r)=>some r
  | some (.inl s')=>tY B n s'
open Classical in
noncomputable def zJ{σ ρ:Type}(B:σ->Option (σ⊕ρ))(s:σ): Option ρ :=
 if h:∃ r,∃ n,tY B n s=some r then some h.choose else none
theorem zWn{σ ρ:Type}{B:σ->Option (σ⊕ρ)}: ∀ {n:Nat} {s:σ} {r:ρ},tY B n s=some r->∀ m,n≤m->tY B m s=some r:=by
 intro n
 induction n with
 | zero=>grind [tY]
 | succ n ih =>
  intro s r h m hm
  obtain⟨k,rfl⟩:∃ k,m=k+1:=⟨m-1,by omega⟩
  grind [tY]
theorem zIp{σ ρ:Type}{B:σ->Option (σ⊕ρ)}{n:Nat}{s:σ}{r:ρ}(h:tY B n s=some r): zJ B s=some r:=by
 have hex:∃ r,∃ n,tY B n s=some r:=⟨r,n,h⟩
 unfold zJ
 rw[dif_pos hex]
 obtain⟨m,hm⟩:=hex.choose_spec
 have h1:=zWn h (max n m) (by omega)
 have h2:=zWn hm (max n m) (by omega)
 grind
theorem zHR{σ ρ:Type}{B:σ->Option (σ⊕ρ)}{s:σ}{r:ρ}(h:zJ B s=some r): ∃ n,tY B n s=some r:=by
 unfold zJ at h
 split at h
 ·grind
 ·cases h
open Classical in
noncomputable def yH{α:Type}(f:Nat->Option α): Option α :=
 if h:∃ r,∃ n,∀ m,n≤m->f m=some r then some h.choose else none
theorem z2H{α:Type}{f:Nat->Option α}{r:α}(h:yH f=some r): ∃ k,f k=some r:=by
 unfold yH at h
 split at h
 ·rename_i hex
  obtain⟨n,hn⟩:=hex.choose_spec
  exact⟨n,by grind⟩
 ·cases h
theorem zKO{α:Type}{f:Nat->Option α}{r:α}(n:Nat)(h:∀ m,n≤m->f m=some r): yH f=some r:=by
 have hex:∃ r,∃ n,∀ m,n≤m->f m=some r:=⟨r,n,h⟩
 unfold yH
 rw[dif_pos hex]
 obtain⟨k,hk⟩:=hex.choose_spec
 rw[←hk (max n k) (by omega),h (max n k) (by omega)]
theorem yS{σ ρ:Type}(B:σ->Option (σ⊕ρ))(s:σ):
  zJ B s=match B s with
   | none=>none
   | some (.inr r)=>some r
   | some (.inl s')=>zJ B s':=by
 cases hl:zJ B s with
 | some r =>
  obtain⟨n,hn⟩:=zHR hl
  cases n with
  | zero=>simp[tY] at hn
  | succ n =>
   simp only[tY] at hn
   split at hn
   ·cases hn
   ·grind
   ·exact(zIp hn).symm
 | none =>
  have no:∀ r n,tY B n s≠some r:=fun r n hn=>by grind [zIp]
  cases hb:B s with
  | none=>rfl
  | some o =>
   cases o with
   | inr r=>exact absurd (show tY B 1 s=some r by simp[tY,hb]) (no r 1)
   | inl s' =>
    show none=zJ B s'
    cases hl':zJ B s' with
    | none=>rfl
    | some r =>
     obtain⟨n,hn⟩:=zHR hl'
     exact absurd (show tY B (n+1) s=some r by simp[tY,hb,hn]) (no r (n+1))
theorem zOg{σ ρ:Type}{B:σ->Option (σ⊕ρ)}(I:σ->Prop)(μ:σ->Nat)(Q:ρ->Prop)
  (step:∀ s,I s->(∃ s',B s=some (.inl s')∧I s'∧μ s' < μ s)∨(∃ r,B s=some (.inr r)∧Q r)) :
  ∀ s,I s->∃ r,zJ B s=some r∧Q r:=by
 have key:∀ n s,μ s=n->I s->∃ r,zJ B s=some r∧Q r:=by
  intro n
  induction n using Nat.strongRecOn with
  | _ n ih =>
   intro s hn hI
   rcases step s hI with⟨s',hb,hI',hlt⟩ | ⟨r,hb,hq⟩
   ·obtain⟨r,hr,hq⟩:=ih (μ s') (hn▸hlt) s' rfl hI'
    grind [yS]
   grind [yS]
 grind
def z58{σ ρ:Type}(B:Int->σ->Option (σ⊕ρ)): Nat->Int->σ->Option (σ⊕ρ)
 | 0,_,s=>some (.inl s)
 | k+1,i,s=>match B i s with
  | none=>none
  | some (.inr r)=>some (.inr r)
  | some (.inl s')=>z58 B k (i+1) s'
def range{σ ρ:Type}(n:Int)(B:Int->σ->Option (σ⊕ρ))(s:σ): Option (σ⊕ρ) :=
 if n<9223372036854775808 then z58 B n.toNat 0 s else none
end Go.GD
