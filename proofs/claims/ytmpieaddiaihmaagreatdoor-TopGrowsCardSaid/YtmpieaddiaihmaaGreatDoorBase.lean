/- A part. Conditions: none. -/
import GoSem.Core.View
namespace Go.GD
set_option autoImplicit false
set_option linter.defProp false
abbrev Qa:=@List.mem_singleton
abbrev Qb:=@List.mem_append
abbrev Qc:=@if_false
abbrev Qd:=@Option.some.injEq
abbrev Qe:=@if_true
abbrev Qf:=@List.getElem?_eq_some_iff
abbrev Qg:=@List.getElem?_eq_getElem
abbrev Qh:=@List.length_append
abbrev Qi:=@Int.toNat_natCast
abbrev Qj:=@List.mem_iff_getElem?
abbrev Qk:=@List.take_of_length_le
abbrev Ql:=@List.mem_cons_of_mem
abbrev Qm:=@List.mem_map
abbrev Qn:=@List.drop_eq_getElem_cons
abbrev Qo:=@if_neg
abbrev Qp:=@if_pos
abbrev Qq:=@Array.getElem?_eq_some_iff
abbrev Qr:=@List.mem_filter
abbrev Qs:=@Nat.le_refl
abbrev Qt:=@List.length_take
abbrev Qu:=@List.take_append_drop
abbrev Qv:=@Nat.le_trans
abbrev Qw:=@Bool.and_eq_true
abbrev Qx:=@List.mem_cons_self
abbrev Qy:=@decide_eq_true_eq
abbrev Qz:=@Int.eq_ofNat_of_zero_le
abbrev QA:=@List.append_nil
abbrev QB:=@List.mem_cons
abbrev QC:=@List.take_length
abbrev QD:=@Nat.mul_le_mul_right
abbrev QE:=@List.append_assoc
abbrev QF:=@List.length_filter_le
abbrev QG:=@List.mem_flatMap
abbrev QH:=@Option.some.inj
abbrev QI:=@List.nil_append
abbrev QJ:=@decide_eq_true
abbrev QK:=@List.eq_nil_of_length_eq_zero
abbrev QL:=@Nat.add_mul
abbrev QM:=@Nat.add_zero
abbrev QN:=@List.ext_getElem?
abbrev QO:=@List.pairwise_cons
abbrev QP:=@Nat.min_eq_left
abbrev QQ:=@List.drop_of_length_le
abbrev QR:=@List.take_append_of_le_length
abbrev QS:=@List.size_toArray
abbrev QT:=@List.nodup_append
abbrev QU:=@Bool.eq_iff_iff
abbrev QV:=@Bool.not_true
abbrev QW:=@Nat.le_of_ble_eq_true
abbrev QX:=@decide_eq_false_iff_not
abbrev QY:=@List.length_drop
abbrev QZ:=@List.length_cons
abbrev Q1:=@List.getElem?_take
abbrev Q2:=@List.length_pos_iff
abbrev Q3:=@decide_eq_false
abbrev Q4:=@List.getElem?_cons_succ
abbrev Q5:=@List.mem_of_mem_take
abbrev Q6:=@Bool.or_eq_false_iff
abbrev Q7:=@beq_self_eq_true
abbrev Q8:=@List.take_add_one
abbrev Q9:=@beq_iff_eq
abbrev Ua:=@List.take_take
abbrev Ub:=@Bool.not_false
abbrev Uc:=@List.filter_append
abbrev Ud:=@List.length_map
abbrev Ue:=@Bool.or_eq_true
abbrev Uf:=@List.all_eq_true
abbrev Ug:=@Bool.true_and
abbrev Uh:=@List.getElem?_drop
abbrev Ui:=@Nat.add_sub_cancel_left
abbrev Uj:=@List.getElem?_cons_zero
abbrev Uk:=@List.any_eq_true
abbrev Ul:=@List.filter_cons
abbrev Um:=@List.map_cons
abbrev Un:=@List.any_eq_false
abbrev Uo:=@Bool.false_and
abbrev Uq:=@beq_eq_false_iff_ne
abbrev Ur:=@Nat.zero_le
abbrev Us:=@List.foldl_cons
abbrev Ut:=@List.getElem?_append_left
abbrev Uu:=@List.pairwise_flatMap
abbrev Uv:=@Nat.lt_of_lt_of_le
abbrev Uw:=@List.drop_take
abbrev Ux:=@List.mem_of_getElem?
abbrev Uy:=@List.pairwise_append
abbrev Uz:=@List.getElem?_map
abbrev UA:=@List.pairwise_map
abbrev UB:=@List.length_set
abbrev UC:=@Array.length_toList
abbrev UD:=@List.flatMap_append
abbrev UE:=@Option.map_eq_some_iff
abbrev UF:=@Nat.testBit_two_pow_mul_add
abbrev UG:=@Nat.mul_one
abbrev UH:=@List.cons_append
abbrev UI:=@List.drop_append
abbrev UJ:=@List.not_mem_nil
abbrev UK:=@List.getElem?_append_right
abbrev UL:=@Nat.ble_eq
abbrev UM:=@List.drop_drop
abbrev UN:=@List.getElem?_eq_none
abbrev UO:=@List.pairwise_iff_getElem
abbrev UP:=@beq_false_of_ne
abbrev UR:=@Nat.le_succ
abbrev US:=@Nat.zero_add
abbrev UT:=@List.filter_congr
abbrev UU:=@Nat.lt_irrefl
abbrev UV:=@Nat.add_assoc
abbrev UW:=@Nat.lt_succ_iff_lt_or_eq
abbrev UX:=@Nat.add_le_add_left
abbrev UY:=@List.filter_eq_self
abbrev UZ:=@List.flatten_append
abbrev U0:=@Nat.mul_le_mul
abbrev U1:=@List.mem_range
abbrev U2:=@Nat.mod_eq_of_lt
abbrev U3:=@List.drop_append_of_le_length
abbrev U4:=@List.filter_eq_nil_iff
abbrev U5:=@List.nodup_cons
abbrev U6:=@Bool.false_or
abbrev U7:=@List.length_replicate
abbrev U8:=@List.flatMap_cons
abbrev U9:=@List.take_left
abbrev Wa:=@List.mem_of_mem_drop
abbrev Wb:=@Nat.pow_lt_pow_right
abbrev Wc:=@List.take_append
abbrev Wd:=@Option.getD_some
abbrev We:=@Nat.zero_testBit
abbrev Wf:=@List.all_cons
abbrev Wg:=@Bool.and_true
abbrev Wh:=@List.map_append
abbrev Wi:=@Nat.lt_of_le_of_lt
abbrev Wj:=@Array.size_append
abbrev Wk:=@List.getElem?_set_self
abbrev Wl:=@List.pairwise_lt_range
abbrev Wm:=@List.flatMap_singleton
abbrev Wn:=@List.set_append_right
abbrev Wo:=@List.length_singleton
abbrev Wp:=@List.drop_length
abbrev Wq:=@Int.le_refl
abbrev Wr:=@List.filter_nil
theorem zob{α β:Type}(a:α)(f:α->Option β): (some a).bind f=f a:=rfl
theorem zbf:(false=true)=False:=Bool.false_eq_true
abbrev zG:=List UInt8
abbrev zF (n:Int): Int:=IntKind.i64.wrap n
abbrev len{α:Type}(l:List α): Int:=(l.length:Int)
def zB{α:Type}(l:List α)(i:Int): Option α:=if 0≤i then l[i.toNat]? else none
def xM (l:zG)(i:Int): Option Int:=if 0≤i then(l[i.toNat]?).map (fun b=>(b.toNat:Int)) else none
def sub{α:Type}(l:List α)(i j:Int): Option (List α) :=
 if 0≤i∧i≤j∧j≤l.length then some ((l.take j.toNat).drop i.toNat) else none
def qD{α:Type}(l m:List α): Option (List α):=if l.length+m.length<4294967296 then some (l++m) else none
def upd{α:Type}(l:List α)(i:Int)(x:α): Option (List α):=if 0≤i∧i<l.length then some (l.set i.toNat x) else none
def cat (s t:zG): Option zG:=if s.length+t.length<4294967296 then some (s++t) else none
def zWJ (l:List Int): zG:=l.map (fun n=>UInt8.ofNat n.toNat)
def uF:zG->zG->Bool
 | _,[]=>false
 | [],_::_=>true
 | a::x,b::y=>a<b||(a==b&&uF x y)
def quo (x y:Int): Option Int:=if y=0 then none else some (zF (x.tdiv y))
def rem (x y:Int): Option Int:=if y=0 then none else some (x.tmod y)
def vY (k:IntKind)(x y:Int): Int:=k.wrap ((BitVec.ofInt k.bits x &&& BitVec.ofInt k.bits y).toNat:Int)
def bor (k:IntKind)(x y:Int): Int:=k.wrap ((BitVec.ofInt k.bits x ||| BitVec.ofInt k.bits y).toNat:Int)
def bxor (k:IntKind)(x y:Int): Int:=k.wrap ((BitVec.ofInt k.bits x ^^^ BitVec.ofInt k.bits y).toNat:Int)
def zQk (k:IntKind)(x y:Int): Int:=k.wrap ((BitVec.ofInt k.bits x &&& ~~~(BitVec.ofInt k.bits y)).toNat:Int)
def shl (k:IntKind)(x y:Int): Int:=k.wrap (x*2 ^ (min y.toNat k.bits))
def yW (k:IntKind)(x y:Int): Int:=x.fdiv (2 ^ (min y.toNat k.bits))
def quoK (k:IntKind)(x y:Int): Option Int:=if y=0 then none else some (k.wrap (x.tdiv y))
def remK (x y:Int): Option Int:=if y=0 then none else some (x.tmod y)
def z80 (k:IntKind)(x y:Int): Option Int:=if y<0 then none else some (shl k x y)
def shrK (k:IntKind)(x y:Int): Option Int:=if y<0 then none else some (yW k x y)
def vK{σ α:Type}(m:Option (σ⊕α))(k:σ->Option α): Option α :=
 m.bind fun o=>match o with
  | .inl s=>k s
  | .inr r=>some r
def tH{σ ρ:Type}(B:σ->Option (σ⊕ρ)): Nat->σ->Option ρ
 | 0,_=>none
 | n+1,s=>match B s with
  | none=>none
  | some (.inr r)=>some r
  | some (.inl s')=>tH B n s'
open Classical in
noncomputable def zO{σ ρ:Type}(B:σ->Option (σ⊕ρ))(s:σ): Option ρ :=
 if h:∃ r,∃ n,tH B n s=some r then some h.choose else none
theorem z1T{σ ρ:Type}{B:σ->Option (σ⊕ρ)}: ∀ {n:Nat} {s:σ} {r:ρ},tH B n s=some r->∀ m,n≤m->tH B m s=some r:=by
 intro n
 induction n with
 | zero=>grind [tH]
 | succ n ih =>
  intro s r h m hm
  obtain⟨k,rfl⟩:∃ k,m=k+1:=⟨m-1,by omega⟩
  grind [tH]
theorem zLg{σ ρ:Type}{B:σ->Option (σ⊕ρ)}{n:Nat}{s:σ}{r:ρ}(h:tH B n s=some r): zO B s=some r:=by
 have hex:∃ r,∃ n,tH B n s=some r:=⟨r,n,h⟩
 unfold zO
 rw[dif_pos hex]
 obtain⟨m,hm⟩:=hex.choose_spec
 have h1:=z1T h (max n m) (by omega)
 have h2:=z1T hm (max n m) (by omega)
 grind
theorem zNu{σ ρ:Type}{B:σ->Option (σ⊕ρ)}{s:σ}{r:ρ}(h:zO B s=some r): ∃ n,tH B n s=some r:=by
 unfold zO at h
 split at h
 ·grind
 ·cases h
open Classical in
noncomputable def z4n{α:Type}(f:Nat->Option α): Option α :=
 if h:∃ r,∃ n,∀ m,n≤m->f m=some r then some h.choose else none
theorem z73{α:Type}{f:Nat->Option α}{r:α}(h:z4n f=some r): ∃ k,f k=some r:=by
 unfold z4n at h
 split at h
 ·rename_i hex
  obtain⟨n,hn⟩:=hex.choose_spec
  exact⟨n,by grind⟩
 ·cases h
theorem zS9{α:Type}{f:Nat->Option α}{r:α}(n:Nat)(h:∀ m,n≤m->f m=some r): z4n f=some r:=by
 have hex:∃ r,∃ n,∀ m,n≤m->f m=some r:=⟨r,n,h⟩
 unfold z4n
 rw[dif_pos hex]
 obtain⟨k,hk⟩:=hex.choose_spec
 rw[←hk (max n k) (by omega),h (max n k) (by omega)]
theorem yP{σ ρ:Type}(B:σ->Option (σ⊕ρ))(s:σ):
  zO B s=match B s with
   | none=>none
   | some (.inr r)=>some r
   | some (.inl s')=>zO B s':=by
 cases hl:zO B s with
 | some r =>
  obtain⟨n,hn⟩:=zNu hl
  cases n with
  | zero=>simp[tH] at hn
  | succ n =>
   simp only[tH] at hn
   split at hn
   ·cases hn
   ·grind
   ·exact(zLg hn).symm
 | none =>
  have no:∀ r n,tH B n s≠some r:=fun r n hn=>by grind [zLg]
  cases hb:B s with
  | none=>rfl
  | some o =>
   cases o with
   | inr r=>exact absurd (show tH B 1 s=some r by simp[tH,hb]) (no r 1)
   | inl s' =>
    show none=zO B s'
    cases hl':zO B s' with
    | none=>rfl
    | some r =>
     obtain⟨n,hn⟩:=zNu hl'
     exact absurd (show tH B (n+1) s=some r by simp[tH,hb,hn]) (no r (n+1))
theorem zO8{σ ρ:Type}{B:σ->Option (σ⊕ρ)}(I:σ->Prop)(μ:σ->Nat)(Q:ρ->Prop)
  (step:∀ s,I s->(∃ s',B s=some (.inl s')∧I s'∧μ s' < μ s)∨(∃ r,B s=some (.inr r)∧Q r)) :
  ∀ s,I s->∃ r,zO B s=some r∧Q r:=by
 have key:∀ n s,μ s=n->I s->∃ r,zO B s=some r∧Q r:=by
  intro n
  induction n using Nat.strongRecOn with
  | _ n ih =>
   intro s hn hI
   rcases step s hI with⟨s',hb,hI',hlt⟩ | ⟨r,hb,hq⟩
   ·obtain⟨r,hr,hq⟩:=ih (μ s') (hn▸hlt) s' rfl hI'
    grind [yP]
   grind [yP]
 grind
def rounds{σ ρ:Type}(B:Int->σ->Option (σ⊕ρ)): Nat->Int->σ->Option (σ⊕ρ)
 | 0,_,s=>some (.inl s)
 | k+1,i,s=>match B i s with
  | none=>none
  | some (.inr r)=>some (.inr r)
  | some (.inl s')=>rounds B k (i+1) s'
def zRi{σ ρ:Type}(n:Int)(B:Int->σ->Option (σ⊕ρ))(s:σ): Option (σ⊕ρ) :=
 if n<9223372036854775808 then rounds B n.toNat 0 s else none
end Go.GD
