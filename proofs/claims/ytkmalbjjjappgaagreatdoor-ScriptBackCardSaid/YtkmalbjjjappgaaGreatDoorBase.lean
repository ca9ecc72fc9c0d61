/- A part. Conditions: none. -/
import GoSem.Core.View
import Derived.WalkKit
import Derived.Laws.StructEq
import Derived.Laws.AppendOwn
import Derived.Laws.MakeOwn
import Derived.Below
import Derived.Laws.OwnMore
import Derived.Laws.Concat
import Derived.OrdersHeld
import Derived.Lib.SpaceU
import Derived.Lib.Bytealg
import Derived.Lib.ItoaNum
import Derived.Lib.AtoiAll
namespace Go.GD
open Option renaming some->Ah,none->Ai
open Bool renaming true->Aj,false->Ak
open Go renaming Value->Am,World->Ao,TypeId->Ap,Program->Aq,Operand->As,IntKind->Au,execOp->Av,Addr->Ax,Act->Ay
set_option autoImplicit false
abbrev _root_.Prod.xa{a0 a1 a2 a3:Type}(y:a0×a1×a2×a3):=y.2.2.2
abbrev _root_.Prod.xb{a0 a1 a2 a3 a4:Type}(y:a0×a1×a2×a3×a4):=y.2.2.2.2
abbrev _root_.Prod.xc{a0 a1 a2 a3 a4 a5:Type}(y:a0×a1×a2×a3×a4×a5):=y.2.2.2.2.2
abbrev _root_.Prod.xd{a0 a1 a2 a3 a4 a5 a6:Type}(y:a0×a1×a2×a3×a4×a5×a6):=y.2.2.2.2.2.2
abbrev _root_.Prod.xe{a0 a1 a2 a3 a4 a5 a6 a7:Type}(y:a0×a1×a2×a3×a4×a5×a6×a7):=y.2.2.2.2.2.2.2
abbrev _root_.Prod.xf{a0 a1 a2 a3 a4 a5 a6 a7 a8:Type}(y:a0×a1×a2×a3×a4×a5×a6×a7×a8):=y.2.2.2.2.2.2.2.2
abbrev _root_.Prod.xg{a0 a1 a2 a3 a4 a5 a6 a7 a8 a9:Type}(y:a0×a1×a2×a3×a4×a5×a6×a7×a8×a9):=y.2.2.2.2.2.2.2.2.2
abbrev _root_.Prod.xh{a0 a1 a2 a3 a4 a5 a6 a7 a8 a9 a10 a11:Type}(y:a0×a1×a2×a3×a4×a5×a6×a7×a8×a9×a10×a11):=y.2.2.2.2.2.2.2.2.2.2.2
abbrev _root_.Prod.xi{a0 a1 a2 a3 a4 a5 a6 a7 a8 a9 a10 a11 a12:Type}(y:a0×a1×a2×a3×a4×a5×a6×a7×a8×a9×a10×a11×a12):=y.2.2.2.2.2.2.2.2.2.2.2.2
section
set_option linter.defProp false
abbrev Qa:=@if_neg
abbrev Qb:=@decide_eq_true_eq
abbrev Qc:=@Bool.and_eq_true
abbrev Qd:=@Nat.le_refl
abbrev Qe:=@List.getD_cons_succ
abbrev Qf:=@Option.some.injEq
abbrev Qg:=@List.length_append
abbrev Qh:=@List.mem_singleton
abbrev Qi:=@if_pos
abbrev Qj:=@List.mem_append
abbrev Qk:=@List.getElem?_eq_some_iff
abbrev Ql:=@Int.le_refl
abbrev Qm:=@List.mem_cons_of_mem
abbrev Qn:=@List.getD_cons_zero
abbrev Qo:=@List.append_assoc
abbrev Qp:=@decide_eq_false
abbrev Qq:=@decide_eq_true
abbrev Qr:=@List.length_cons
abbrev Qs:=@List.getElem?_eq_getElem
abbrev Qt:=@List.mem_cons_self
abbrev Qu:=@beq_eq_false_iff_ne
abbrev Qv:=@Int.eq_ofNat_of_zero_le
abbrev Qw:=@Nat.le_trans
abbrev Qx:=@if_true
abbrev Qy:=@if_false
abbrev Qz:=@Array.getElem?_eq_some_iff
abbrev QA:=@Option.some.inj
abbrev QB:=@List.drop_eq_getElem_cons
abbrev QC:=@List.take_append_drop
abbrev QD:=@List.mem_map
abbrev QE:=@List.append_nil
abbrev QF:=@List.length_pos_iff
abbrev QG:=@Bool.not_true
abbrev QH:=@List.mem_iff_getElem?
abbrev QI:=@List.nil_append
abbrev QJ:=@beq_iff_eq
abbrev QK:=@Nat.mul_le_mul_right
abbrev QL:=@List.length_drop
abbrev QM:=@decide_eq_false_iff_not
abbrev QN:=@Nat.le_of_ble_eq_true
abbrev QO:=@List.mem_cons
abbrev QP:=@Nat.lt_of_lt_of_le
abbrev QQ:=@List.take_of_length_le
abbrev QR:=@List.all_eq_true
abbrev QS:=@List.nodup_append
abbrev QT:=@Nat.zero_le
abbrev QU:=@List.map_cons
abbrev QV:=@Nat.add_mul
abbrev QW:=@List.getElem?_cons_succ
abbrev QX:=@List.size_toArray
abbrev QY:=@Int.toNat_natCast
abbrev QZ:=@Nat.pow_le_pow_right
abbrev Q0:=@List.drop_drop
abbrev Q1:=@List.cons_append
abbrev Q2:=@Nat.add_sub_cancel_left
abbrev Q3:=@Bool.not_false
abbrev Q4:=@List.drop_of_length_le
abbrev Q5:=@List.length_take
abbrev Q6:=@List.getElem?_cons_zero
abbrev Q7:=@List.mem_of_mem_take
abbrev Q8:=@List.ext_getElem?
abbrev Q9:=@Option.map_eq_some_iff
abbrev Ua:=@Nat.min_eq_left
abbrev Ub:=@Bool.or_eq_true
abbrev Uc:=@Nat.lt_irrefl
abbrev Ud:=@List.drop_take
abbrev Ue:=@List.eq_nil_of_length_eq_zero
abbrev Uf:=@List.drop_zero
abbrev Ug:=@List.length_set
abbrev Uh:=@Option.map_some
abbrev Ui:=@Nat.mod_eq_of_lt
abbrev Uj:=@List.perm_append_comm
abbrev Uk:=@List.map_append
abbrev Ul:=@Nat.add_zero
abbrev Um:=@List.getElem?_map
abbrev Un:=@List.take_add_one
abbrev Uo:=@Bool.or_eq_false_iff
abbrev Up:=@Array.toList_append
abbrev Uq:=@Array.length_toList
abbrev Ur:=@List.take_left
abbrev Us:=@List.take_length
abbrev Ut:=@List.drop_append_of_le_length
abbrev Uu:=@Nat.le_succ
abbrev Uv:=@Nat.zero_add
abbrev Uw:=@List.all_cons
abbrev Ux:=@Bool.or_assoc
abbrev Uy:=@Array.size_append
abbrev Uz:=@List.flatten_cons
abbrev UA:=@List.length_range
abbrev UB:=@List.take_take
abbrev UC:=@List.mem_of_mem_drop
abbrev UD:=@List.mem_of_getElem?
abbrev UE:=@List.drop_length
abbrev UF:=@beq_self_eq_true
abbrev UG:=@Bool.not_and
abbrev UH:=@List.map_congr_left
abbrev UI:=@Bool.or_false
abbrev UJ:=@List.length_map
abbrev UK:=@Bool.eq_iff_iff
abbrev UL:=@Nat.ble_eq
abbrev UM:=@List.getElem?_take
abbrev UN:=@List.set_cons_succ
abbrev UO:=@Option.toList_some
abbrev UP:=@Option.bind_eq_some_iff
abbrev UR:=@List.prefix_iff_eq_take
abbrev US:=@Nat.mul_le_mul
abbrev UT:=@List.append_eq_nil_iff
abbrev UU:=@List.flatMap_cons
abbrev UV:=@List.drop_sublist
abbrev UW:=@List.take_sublist
abbrev UX:=@Array.getElem?_modify
abbrev UY:=@List.take_append
abbrev UZ:=@List.drop_append
abbrev U0:=@Nat.add_assoc
abbrev U1:=@Nat.one_mul
abbrev U2:=@List.nodup_cons
abbrev U3:=@Nat.two_pow_pos
variable{α:Type}
theorem zob{β:Type}(a:α)(f:α->Option β): (Ah a).bind f=f a:=rfl
theorem zbf:(Ak=Aj)=False:=Bool.false_eq_true
abbrev zA:=List UInt8
abbrev zE (n:Int): Int:=Au.i64.wrap n
abbrev len{α:Type}(l:List α): Int:=(l.length:Int)
def zD{α:Type}(l:List α)(i:Int): Option α:=if 0<=i then l[i.toNat]? else Ai
def vR (l:zA)(i:Int): Option Int:=if 0<=i then(l[i.toNat]?).map (λb=>(b.toNat:Int)) else Ai
def sub{α:Type}(l:List α)(i j:Int): Option (List α):=
 if 0<=i/\i<=j/\j<=l.length then Ah ((l.take j.toNat).drop i.toNat) else Ai
def qG{α:Type}(l m:List α): Option (List α):=if l.length+m.length<4294967296 then Ah (l++m) else Ai
def upd{α:Type}(l:List α)(i:Int)(x:α): Option (List α):=if 0<=i/\i<l.length then Ah (l.set i.toNat x) else Ai
def qA (s t:zA): Option zA:=if s.length+t.length<4294967296 then Ah (s++t) else Ai
def zGB (l:zA): List Int:=l.map λb=>((b.toNat:Nat):Int)
def xV (l:List Int): zA:=l.map (λn=>UInt8.ofNat n.toNat)
def uH:zA->zA->Bool
 | _,[]=>Ak
 | [],_::_=>Aj
 | a::x,b::y=>a<b||(a==b&&uH x y)
def quo (x y:Int): Option Int:=if y=0 then Ai else Ah (zE (x.tdiv y))
def rem (x y:Int): Option Int:=if y=0 then Ai else Ah (x.tmod y)
def zZy (k:Au)(x y:Int): Int:=k.wrap ((BitVec.ofInt k.bits x &&& BitVec.ofInt k.bits y).toNat:Int)
def bor (k:Au)(x y:Int): Int:=k.wrap ((BitVec.ofInt k.bits x ||| BitVec.ofInt k.bits y).toNat:Int)
def z3H (k:Au)(x y:Int): Int:=k.wrap ((BitVec.ofInt k.bits x ^^^ BitVec.ofInt k.bits y).toNat:Int)
def zQw (k:Au)(x y:Int): Int:=k.wrap ((BitVec.ofInt k.bits x &&& ~~~(BitVec.ofInt k.bits y)).toNat:Int)
def shl (k:Au)(x y:Int): Int:=k.wrap (x*2 ^ (min y.toNat k.bits))
def shr (k:Au)(x y:Int): Int:=x.fdiv (2 ^ (min y.toNat k.bits))
def z6u (k:Au)(x y:Int): Option Int:=if y=0 then Ai else Ah (k.wrap (x.tdiv y))
def z08 (x y:Int): Option Int:=if y=0 then Ai else Ah (x.tmod y)
def z04 (k:Au)(x y:Int): Option Int:=if y<0 then Ai else Ah (shl k x y)
def zZw (k:Au)(x y:Int): Option Int:=if y<0 then Ai else Ah (shr k x y)
def tX{κ ν:Type}[BEq κ]: List (κ×ν)->κ->Option ν
 | [],_=>Ai
 | x::r,k=>if k==x.1 then Ah x.2 else tX r k
def z7B{κ ν:Type}[BEq κ]: List (κ×ν)->κ->ν->List (κ×ν)
 | [],k,v=>[(k,v)]
 | x::r,k,v=>if k==x.1 then(k,v)::r else x::z7B r k v
def yG{σ α:Type}(m:Option (σ⊕α))(k:σ->Option α): Option α:=
 m.bind λo=>match o with
  | .inl s=>k s
  | .inr r=>Ah r
def zVg{σ ρ:Type}(B:σ->Option (σ⊕ρ)): Nat->σ->Option ρ
 | 0,_=>Ai
 | n+1,s=>match B s with
  | none=>Ai
  | some (.inr r)=>Ah r
  | some (.inl s')=>zVg B n s'
open Classical in
noncomputable def zN{σ ρ:Type}(B:σ->Option (σ⊕ρ))(s:σ): Option ρ:=
 if h:∃ r,∃ n,zVg B n s=Ah r then Ah h.choose else Ai
variable{σ ρ:Type}{B:σ->Option (σ⊕ρ)}
theorem zYS: ∀ {n:Nat} {s:σ} {r:ρ},zVg B n s=Ah r->∀ m,n<=m->zVg B m s=Ah r:=by
 intro n;induction n with
 | zero=>grind [zVg]
 | succ n ih=>
  intro s r h m hm;obtain⟨k,rfl⟩:∃ k,m=k+1:=⟨m-1,by omega⟩;grind [zVg]
variable{s:σ}{r:ρ}
theorem zRy{n:Nat}(h:zVg B n s=Ah r): zN B s=Ah r:=by
 have hex:∃ r,∃ n,zVg B n s=Ah r:=⟨r,n,h⟩;unfold zN;rw[dif_pos hex];obtain⟨m,hm⟩:=hex.choose_spec;have h1:=zYS h (max n m) (by omega);have h2:=zYS hm (max n m) (by omega);grind
theorem zK2(h:zN B s=Ah r): ∃ n,zVg B n s=Ah r:=by
 unfold zN at h;split at h
 ·grind
 ·cases h
open Classical in
noncomputable def uC{α:Type}(f:Nat->Option α): Option α:=
 if h:∃ r,∃ n,∀ m,n<=m->f m=Ah r then Ah h.choose else Ai
variable{f:Nat->Option α}
theorem z4q{r:α}(h:uC f=Ah r): ∃ k,f k=Ah r:=by
 unfold uC at h;split at h
 ·rename_i hex;obtain⟨n,hn⟩:=hex.choose_spec;exact⟨n,by grind⟩
 ·cases h
theorem z0U{r:α}(n:Nat)(h:∀ m,n<=m->f m=Ah r): uC f=Ah r:=by
 have hex:∃ r,∃ n,∀ m,n<=m->f m=Ah r:=⟨r,n,h⟩;unfold uC;rw[dif_pos hex];obtain⟨k,hk⟩:=hex.choose_spec;rw[<-hk (max n k) (by omega),h (max n k) (by omega)]
theorem zDp(B:σ->Option (σ⊕ρ))(s:σ):
  zN B s=match B s with
   | none=>Ai
   | some (.inr r)=>Ah r
   | some (.inl s')=>zN B s':=by
 cases hl:zN B s with
 | some r=>
  obtain⟨n,hn⟩:=zK2 hl;cases n with
  | zero=>simp[zVg] at hn
  | succ n=>
   simp only[zVg] at hn;split at hn
   ·cases hn
   ·grind
   ·exact(zRy hn).symm
 | none=>
  have no:∀ r n,zVg B n s≠Ah r:=λr n hn=>by grind [zRy]
  cases hb:B s with
  | none=>rfl
  | some o=>
   cases o with
   | inr r=>exact absurd (show zVg B 1 s=Ah r by simp[zVg,hb]) (no r 1)
   | inl s'=>
    show Ai=zN B s';cases hl':zN B s' with
    | none=>rfl
    | some r=>
     obtain⟨n,hn⟩:=zK2 hl';exact absurd (show zVg B (n+1) s=Ah r by simp[zVg,hb,hn]) (no r (n+1))
theorem z5B{σ ρ:Type}{B:σ->Option (σ⊕ρ)}(I:σ->Prop)(μ:σ->Nat)(Q:ρ->Prop)
  (step:∀ s,I s->(∃ s',B s=Ah (.inl s')/\I s'/\μ s' < μ s)\/(∃ r,B s=Ah (.inr r)/\Q r)) :
  ∀ s,I s->∃ r,zN B s=Ah r/\Q r:=by
 have key:∀ n s,μ s=n->I s->∃ r,zN B s=Ah r/\Q r:=by
  intro n;induction n using Nat.strongRecOn with
  | _ n ih=>
   intro s hn hI;rcases step s hI with⟨s',hb,hI',hlt⟩ | ⟨r,hb,hq⟩
   ·obtain⟨r,hr,hq⟩:=ih (μ s') (hn▸hlt) s' rfl hI';grind [zDp]
   grind [zDp]
 grind
def z87{σ ρ:Type}(B:Int->σ->Option (σ⊕ρ)): Nat->Int->σ->Option (σ⊕ρ)
 | 0,_,s=>Ah (.inl s)
 | k+1,i,s=>match B i s with
  | none=>Ai
  | some (.inr r)=>Ah (.inr r)
  | some (.inl s')=>z87 B k (i+1) s'
def range{σ ρ:Type}(n:Int)(B:Int->σ->Option (σ⊕ρ))(s:σ): Option (σ⊕ρ):=
 if n<9223372036854775808 then z87 B n.toNat 0 s else Ai
end
section
open Go
abbrev vi (n:Int): Value:=.int .i64 n
abbrev vb (b:Bool): Value:=.bool b
abbrev vs (s:zA): Value:=.string ⟨s.toArray⟩
def yF:List (Nat×Am)->Nat->Option Am
 | [],_=>Ai
 | (i,v)::r,j=>bif Nat.beq i j then Ah v else yF r j
structure qV (a:Ay)(n:Nat)(S:List (Nat×Am)): Prop where
 defers:a.defers=[]
 size:a.tmps.size=n
 has:∀ i v,yF S i=Ah v->a.tmps[i]?=Ah v
theorem qV.put{a:Ay}{n:Nat}{S:List (Nat×Am)}(h:qV a n S){d:Nat}(hd:Nat.blt d n=Aj)(v:Am): qV (a.put (Ah d) v) n ((d,v)::S):=by
 have hd':d<n:=by simpa [Nat.blt_eq] using hd
 refine⟨h.defers,by simp[Ay.put,h.size],λi u hu=>?_⟩;simp only[yF] at hu;simp only[Ay.put];cases hb:Nat.beq d i with
 | true=>
  have:d=i:=Nat.eq_of_beq_eq_true hb;subst this;simp only[hb,cond_true,Qf] at hu;subst hu;simp[h.size,hd']
 | false=>
  simp only[hb,cond_false] at hu;have hne:d≠i:=λe=>by simp_all
  rw[Array.getElem?_setIfInBounds_ne hne];exact h.has i u hu
theorem qV.getD{a:Ay}{n:Nat}{S:List (Nat×Am)}(h:qV a n S){i:Nat}{v:Am}(hl:yF S i=Ah v): a.tmps.getD i undef=v:=by
 have:=h.has i v hl;simp[this]
def zUU (S:List (Nat×Am)): List Nat->Option (List (Nat×Am))
 | []=>Ah []
 | k::ks=>match yF S k,zUU S ks with
  | some v,Ah r=>Ah ((k,v)::r)
  | _,_=>Ai
theorem zQt{S:List (Nat×Am)}: ∀ {ks:List Nat} {S2:List (Nat×Am)},zUU S ks=Ah S2->∀ i v,yF S2 i=Ah v->yF S i=Ah v
 | [],S2,h,i,v,hl=>by grind [zUU,yF]
 | k::ks,S2,h,i,v,hl=>by
  simp only[zUU] at h;cases hk:yF S k with
  | none=>grind
  | some u=>
   cases hr:zUU S ks with
   | none=>grind
   | some r=>
    simp only[hk,hr,Qf] at h;subst h;simp only[yF] at hl;cases hb:Nat.beq k i with
    | true=>
     simp_all
    | false=>
     simp only[hb,cond_false] at hl;exact zQt hr i v hl
theorem qV.only{a:Ay}{n:Nat}{S:List (Nat×Am)}(h:qV a n S)(S2:List (Nat×Am))(hp:zUU S (S2.map Prod.fst)=Ah S2): qV a n S2:=
 ⟨h.defers,h.size,λi v hl=>h.has i v (zQt hp i v hl)⟩
variable{S2:List (Nat×Am)}
theorem z0F{S:List (Nat×Am)}{i:Nat}: yF (S2++S) i=match yF S2 i with | some v=>Ah v | none=>yF S i:=by
 induction S2 with
 | nil=>rfl
 | cons p r ih=>
  grind [yF]
def zV (S:List (Nat×Am)): As->Option Am
 | .tmp t=>yF S t
 | .const v=>Ah v
 | .func f=>Ah (.func (.func f) #[] #[])
 | .global g=>Ah (.pointer (Ah ⟨g,0,Ai⟩))
theorem qV.eval{a:Ay}{n:Nat}{S:List (Nat×Am)}(h:qV a n S){x:As}{v:Am}(hx:zV S x=Ah v): a.eval x=v:=by
 cases x with
 | tmp t=>exact h.getD hx
 | const u=>simpa [zV,Ay.eval] using hx
 | func f=>simpa [zV,Ay.eval] using hx
 | global g=>simpa [zV,Ay.eval] using hx
def z2H (op:BinOp)(k:Au)(a b:Int): Option Value:=
 match op with
 | .add=>Ah (.int k (k.wrap (a+b)))
 | .sub=>Ah (.int k (k.wrap (a-b)))
 | .mul=>Ah (.int k (k.wrap (a*b)))
 | .and=>Ah (.int k (zZy k a b))
 | .or=>Ah (.int k (bor k a b))
 | .xor=>Ah (.int k (z3H k a b))
 | .andNot=>Ah (.int k (zQw k a b))
 | .eql=>Ah (.bool (a==b))
 | .neq=>Ah (.bool (a != b))
 | .lss=>Ah (.bool (decide (a<b)))
 | .leq=>Ah (.bool (decide (a<=b)))
 | .gtr=>Ah (.bool (decide (b<a)))
 | .geq=>Ah (.bool (decide (b<=a)))
 | _=>Ai
def z2Z (op:BinOp)(a b:zA): Option Value:=
 match op with
 | .eql=>Ah (.bool (a==b))
 | .neq=>Ah (.bool (!(a==b)))
 | .lss=>Ah (.bool (uH a b))
 | .leq=>Ah (.bool (uH a b||a==b))
 | .gtr=>Ah (.bool (!(uH a b||a==b)))
 | .geq=>Ah (.bool (!(uH a b)))
 | _=>Ai
def zUL (P:Aq)(s:Ap)(f:Nat): Option Nat:=
 match P.underlying s with
 | some (.struct fs)=>match fs[f]? with
  | some fd=>match (P.info? fd.type).map (·.size) with
   | some (_+1)=>Ah fd.offset
   | _=>Ai
  | none=>Ai
 | _=>Ai
def uE (P:Aq)(t:Ap): Option (Bool×Nat):=
 match P.underlying t,(P.info? t).map (·.size) with
 | some (.struct _),Ah n | some (.array _ _),Ah n=>Ah (Aj,n)
 | some _,Ah n=>Ah (Ak,n)
 | _,_=>Ai
def z69 (P:Aq)(t:Ap)(cs:Array Am)(o:Nat): Option Value:=
 match uE P t with
 | some (Aj,n)=>Ah (.agg (cs.extract o (o+n)))
 | some (Ak,_)=>cs[o]?
 | none=>Ai
def eqG (P:Aq): Nat->Option (List Field)->Ap->Am->Am->Option Bool
 | 0,_,_,_,_=>Ai
 | d+1,Ai,t,x,y=>match P.underlying t,x,y with
  | some .bool,.bool a,.bool b=>Ah (a==b)
  | some (.int _),.int k a,.int k' b=>if k=k' then Ah (a==b) else Ai
  | some .string,.string a,.string b=>Ah (a.data.toList==b.data.toList)
  | some (.struct fs),.agg xs,.agg ys=>if P.stoodInHeld t then Ai else eqG P d (Ah fs.toList) t (.agg xs) (.agg ys)
  | _,_,_=>Ai
 | _+1,Ah [],_,_,_=>Ah Aj
 | d+1,Ah (f::fs),t,x,y=>match x,y with
  | .agg xs,.agg ys=>if f.name= "_" then Ai else
   match z69 P f.type xs f.offset,z69 P f.type ys f.offset with
   | some a,Ah b=>match eqG P d Ai f.type a b with
    | some r=>match fs with
     | []=>Ah r
     | _::_=>match eqG P d (Ah fs) t (.agg xs) (.agg ys) with
      | some q=>Ah (r&&q)
      | none=>Ai
    | none=>Ai
   | _,_=>Ai
  | _,_=>Ai
def zTE (P:Aq): List Field->Option (List (Nat×Nat))
 | []=>Ah []
 | f::fs=>match (P.info? f.type).map (·.size),zTE P fs with
  | some n,Ah r=>Ah ((f.offset,n)::r)
  | _,_=>Ai
def zHO (P:Aq)(t:Ap): Option Value:=(P.info? t).bind (·.zero)
def zPa (S:List (Nat×Am)): List (Nat×As)->Option (List (Nat×Am))
 | []=>Ah []
 | (i,x)::r=>match zV S x,zPa S r with
  | some v,Ah q=>Ah ((i,v)::q)
  | _,_=>Ai
def z1w (S:List (Nat×Am)): List As->Option (List Am)
 | []=>Ah []
 | x::r=>match zV S x,z1w S r with
  | some v,Ah vs=>Ah (v::vs)
  | _,_=>Ai
theorem qV.evals{a:Ay}{n:Nat}{S:List (Nat×Am)}(hS:qV a n S): ∀ {xs:List As} {vs:List Am},z1w S xs=Ah vs->xs.map a.eval=vs
 | [],vs,h=>by simpa [z1w] using h
 | x::r,vs,h=>by
  simp only[z1w] at h;split at h
  ·rename_i v us hx hr;simp only[Qf] at h;rw[<-h,QU,hS.eval hx,hS.evals hr]
  ·cases h
def zWQ (op:BinOp)(k:Au)(a b:Int): Option Value:=
 match op with
 | .shl=>if 0<=b then Ah (.int k (shl k a b)) else Ai
 | .shr=>if 0<=b then Ah (.int k (shr k a b)) else Ai
 | _=>Ai
theorem zOM{P:Aq}{w:Ao}{op:BinOp}{k k':Au}{a b:Int}{t:Ap}{v:Am}(h:zWQ op k a b=Ah v):
  (binOp op t (.int k a) (.int k' b)).run P w=.ok v w:=by
 cases op <;> simp only[zWQ,reduceCtorEq] at h <;> split at h <;> simp at h <;> subst h <;> rename_i h0 <;>
  simp[binOp,Op.shift,shl,shr,show ¬ b<0 by omega]
def pv (P:Aq)(S:List (Nat×Am)): Op->Option Am
 | .move x | .assign x=>zV S x
 | .pick c a b=>match zV S c with
  | some (.bool Aj)=>zV S a
  | some (.bool Ak)=>zV S b
  | _=>Ai
 | .binOp op t x y _=>match zV S x,zV S y with
  | some (.int k a),Ah (.int k' b)=>if k=k' then(match z2H op k a b with | some v=>Ah v | none=>zWQ op k a b) else zWQ op k a b
  | some (.string a),Ah (.string b)=>z2Z op a.data.toList b.data.toList
  | some (.bool a),Ah (.bool b)=>match P.underlying t,op with
   | some .bool,.eql=>Ah (.bool (a==b))
   | some .bool,.neq=>Ah (.bool (!(a==b)))
   | _,_=>Ai
  | some (.agg xs),Ah (.agg ys)=>if P.eqGuardType P.depth t then Ai else match op,eqG P 50 Ai t (.agg xs) (.agg ys) with
   | .eql,Ah b=>Ah (.bool b)
   | .neq,Ah b=>Ah (.bool (!b))
   | _,_=>Ai
  | _,_=>Ai
 | .build t parts=>match P.underlying t with
  | some (.struct fs)=>match zTE P fs.toList,zHO P t,zPa S parts.toList with
   | some ps,Ah z,Ah vs=>(Instr.fill (ps[·]?) z.cells vs).map .agg
   | _,_,_=>Ai
  | _=>Ai
 | .unOp .not _ x=>match zV S x with
  | some (.bool b)=>Ah (.bool (!b))
  | _=>Ai
 | .unOp .neg _ x=>match zV S x with
  | some (.int k n)=>Ah (.int k (k.wrap (0-n)))
  | _=>Ai
 | .convert s d x=>match P.underlying d,zV S x,P.underlying s with
  | some (.int k),Ah (.int _ n),Ah _=>Ah (.int k (k.wrap n))
  | some .string,Ah (.string v),Ah .string=>Ah (.string v)
  | _,_,_=>Ai
 | .extract x i=>match zV S x with
  | some (.tuple vs)=>vs[i]?
  | _=>Ai
 | .nilCheck x=>match zV S x with
  | some (.pointer (Ah a))=>Ah (.pointer (Ah a))
  | _=>Ai
 | .fieldAddr s x f=>match zV S x,zUL P s f with
  | some (.pointer (Ah ⟨b,o,Ai⟩)),Ah off=>Ah (.pointer (Ah ⟨b,o+off,Ai⟩))
  | _,_=>Ai
 | .makeFunc fn x y=>match z1w S x.toList,z1w S y.toList with
  | some us,Ah vs=>Ah (.func fn us.toArray vs.toArray)
  | _,_=>Ai
 | .unOp .xor _ x=>match zV S x with
  | some (.int k n)=>Ah (.int k (z3H k (if k.signed then -1 else k.max) n))
  | _=>Ai
 | .call c=>match c.callee,c.args.toList,c.argTypes.toList with
  | .builtin .len,[x],[t]=>match zV S x,P.underlying t with
   | some (.string s),Ah .string=>Ah (vi (s.data.toList.length:Int))
   | some (.slice _ n _),Ah (.slice _)=>Ah (vi (n:Int))
   | _,_=>Ai
  | .builtin .min,[x,y],_=>match zV S x,zV S y with
   | some (.int k a),Ah (.int _ b)=>Ah (.int k (if b<a then b else a))
   | _,_=>Ai
  | .builtin .max,[x,y],_=>match zV S x,zV S y with
   | some (.int k a),Ah (.int _ b)=>Ah (.int k (if b > a then b else a))
   | _,_=>Ai
  | _,_,_=>Ai
 | _=>Ai
theorem z2M:∀ a b:zA,Op.bytesLess a b=uH a b
 | a,[]=>by cases a <;> rfl
 | [],_::_=>rfl
 | a::x,b::y=>by simp only[Op.bytesLess,uH,z2M x y]
theorem zDu{P:Aq}{w:Ao}(op:BinOp)(k k':Au)(a b:Int)(t:Ap)(x y:As): (eqGuard op t x y (.int k a) (.int k' b)).run P w=.ok () w:=by
 unfold eqGuard;split <;> rfl
theorem zQV{P:Aq}{w:Ao}(op:BinOp)(a b:ByteArray)(t:Ap)(x y:As): (eqGuard op t x y (.string a) (.string b)).run P w=.ok () w:=by
 unfold eqGuard;split <;> rfl
theorem zOh{P:Aq}{w:Ao}(op:BinOp)(a b:Bool)(t:Ap)(x y:As): (eqGuard op t x y (.bool a) (.bool b)).run P w=.ok () w:=by
 unfold eqGuard;split <;> rfl
variable{op:BinOp}{t:Ap}{v:Am}
theorem z2q{P:Aq}{w:Ao}{k:Au}{a b:Int}(h:z2H op k a b=Ah v):
  (binOp op t (.int k a) (.int k b)).run P w=.ok v w:=by
 cases op <;> simp[z2H] at h <;> subst h <;> simp[binOp,Op.intArith,Op.intBits,Op.intCmp,zZy,bor,z3H,zQw]
theorem zQX (a:ByteArray): a.toList=a.data.toList:=ByteArray.toList_eq a
theorem z3L{P:Aq}{w:Ao}{a b:ByteArray}(h:z2Z op a.data.toList b.data.toList=Ah v):
  (binOp op t (.string a) (.string b)).run P w=.ok v w:=by
 cases op <;> simp[z2Z] at h <;> subst h <;> simp[binOp,Op.stringOp,z2M,zQX]
variable{o:Nat}
theorem z0c{P:Aq}{w:Ao}{s f off b:Nat}(h:zUL P s f=Ah off):
  (Instr.fieldAt s (.pointer (Ah ⟨b,o,Ai⟩)) f).run P w=.ok (.pointer (Ah ⟨b,o+off,Ai⟩)) w:=by
 unfold zUL at h;split at h
 ·rename_i fs hu;split at h
  ·rename_i fd hf;split at h
   ·rename_i n hn;simp only[Qf] at h;subst h;have hsz:(sizeOf fd.type).run P w=.ok (n+1) w:=by
     cases hq:P.info? fd.type with
     | none=>grind
     | some i=>
      have:i.size=n+1:=by simpa [hq] using hn
      simp[sizeOf,typeInfo,hq,this]
    have hadd:(⟨b,o,Ai⟩:Ax).add fd.offset=⟨b,o+fd.offset,Ai⟩:=by unfold Ax.add;split <;> simp_all
    simp[Instr.fieldAt,run_underlying hu,hf,Instr.sureAddr,fieldPlace,hsz,hadd]
   ·cases h
  ·cases h
 ·cases h
theorem zFK{P:Aq}{w:Ao}{t:Ap}{b:Bool}{n:Nat}(h:uE P t=Ah (b,n)): (isAgg t).run P w=.ok b w/\(sizeOf t).run P w=.ok n w:=by
 unfold uE at h;have hsz:∀ m,(P.info? t).map (·.size)=Ah m->(sizeOf t).run P w=.ok m w:=by
  intro m hm;cases hq:P.info? t with
  | none=>grind
  | some i=>
   have:i.size=m:=by simpa [hq] using hm
   simp[sizeOf,typeInfo,hq,this]
 split at h
 ·rename_i fs m hu hm;simp only[Qf,Prod.mk.injEq] at h;obtain⟨rfl,rfl⟩:=h;exact⟨by simp[isAgg,run_underlying hu],hsz _ hm⟩
 ·rename_i x y m hu hm;simp only[Qf,Prod.mk.injEq] at h;obtain⟨rfl,rfl⟩:=h;exact⟨by simp[isAgg,run_underlying hu],hsz _ hm⟩
 ·rename_i d m hn1 hn2 hu hm;simp only[Qf,Prod.mk.injEq] at h;obtain⟨rfl,rfl⟩:=h;refine⟨?_,hsz _ hm⟩;simp only[isAgg,Sem.run_bind,run_underlying hu,Result.andThen_ok];simp_all
 ·cases h
theorem zL0{P:Aq}{z:Am}(h:zHO P t=Ah z)(w:Ao): (zeroValue t).run P w=.ok z w:=by
 unfold zHO at h;cases hq:P.info? t with
 | none=>grind
 | some i=>
  simp only[hq,zob] at h;simp[zeroValue,typeInfo,hq,h]
theorem zNN{P:Aq}{w:Ao}{cs:Array Am}(h:z69 P t cs o=Ah v): (part t cs o).run P w=.ok v w:=by
 unfold z69 at h;split at h
 ·rename_i n hs;obtain⟨h1,h2⟩:=zFK (w:=w) hs;simp only[Qf] at h;subst h;simp[part,h1,h2]
 ·rename_i n hs;obtain⟨h1,h2⟩:=zFK (w:=w) hs;simp[part,h1,h]
 ·cases h
theorem z0N{P:Aq}{w:Ao}: ∀(d:Nat),
  (∀(t:Ap) (x y:Am) (b:Bool),eqG P d Ai t x y=Ah b->∀ D,d<=D->(Op.equalIn D t x y).run P w=.ok b w) /\
  (∀(fs:List Field) (t:Ap) (xs ys:Array Am) (b:Bool),eqG P d (Ah fs) t (.agg xs) (.agg ys)=Ah b->∀ D,d<=D->(Op.eqFields D xs ys fs).run P w=.ok b w)
 | 0=>⟨λt x y b h=>by simp[eqG] at h,λfs t xs ys b h=>by simp[eqG] at h⟩
 | d+1=>by
  obtain⟨ih1,ih2⟩:=z0N (P:=P) (w:=w) d;refine⟨λt x y b h D hD=>?_,λfs t xs ys b h D hD=>?_⟩
  ·obtain⟨D',rfl⟩:∃ D',D=D' + 1:=⟨D-1,by omega⟩;simp only[eqG] at h;grind [run_equalIn_bool',run_equalIn_int,run_equalIn_string,zQX,Aq.fieldsOf,run_equalIn_struct]
  ·cases fs with
   | nil=>
    simp only[eqG,Qf] at h;subst h;simp[Op.eqFields]
   | cons f fs=>
    simp only[eqG] at h;split at h
    ·cases h
    ·rename_i hn;split at h
     ·rename_i u v hu hv;split at h
      ·rename_i r hr;have hrun:=ih1 f.type u v r hr D (by omega);split at h
       ·simp only[Qf] at h;subst h;simp only[Op.eqFields,ne_eq,hn,not_false_eq_true,Qx,Sem.run_bind,zNN hu,zNN hv,Result.andThen_ok,hrun];cases r <;> simp
       ·split at h
        ·rename_i q hq;simp only[Qf] at h;subst h;have hrest:=ih2 _ t xs ys q hq D (by omega);simp only[Op.eqFields] at hrest;simp only[Op.eqFields,ne_eq,hn,not_false_eq_true,Qx,Sem.run_bind,zNN hu,zNN hv,Result.andThen_ok,hrun];cases r
         ·simp
         grind
        ·cases h
      ·cases h
     ·cases h
theorem zYW{P:Aq}{w:Ao}: ∀ {fs:List Field} {ps:List (Nat×Nat)},zTE P fs=Ah ps->(fs.mapM (λf=>do pure (f.offset,<-sizeOf f.type):Field->Sem (Nat×Nat))).run P w=.ok ps w
 | [],ps,h=>by simp only[zTE,Qf] at h;subst h;simp
 | f::fs,ps,h=>by
  simp only[zTE] at h;split at h
  ·rename_i n r hn hr;simp only[Qf] at h;subst h;have hsz:(sizeOf f.type).run P w=.ok n w:=by
    cases hq:P.info? f.type with
    | none=>grind
    | some i=>
     have:i.size=n:=by simpa [hq] using hn
     simp[sizeOf,typeInfo,hq,this]
   have ih:=zYW (w:=w) hr;simp_all
  ·cases h
theorem qV.parts{a:Ay}{n:Nat}{S:List (Nat×Am)}(hS:qV a n S): ∀ {ps:List (Nat×As)} {vs:List (Nat×Am)},zPa S ps=Ah vs->ps.map (λ(i,x)=>(i,a.eval x))=vs
 | [],vs,h=>by simpa [zPa] using h
 | (i,x)::r,vs,h=>by
  simp only[zPa] at h;split at h
  ·rename_i v q hx hr;simp only[Qf] at h;rw[<-h,QU,hS.parts hr];show(i,a.eval x)::q=(i,v)::q;rw[hS.eval hx]
  ·cases h
theorem zVv{P:Aq}{a:Ay}{n:Nat}{S:List (Nat×Am)}(hS:qV a n S){op:Op}{v:Am}(h:pv P S op=Ah v)
  (d:Option Tmp) (ty:Ap) (pos:String) (af:Array Edge) (g:Option (Nat×Bool)) (w:Ao) :
  (Av a.eval ⟨d,op,ty,pos,af,g⟩).run P w=.ok (.value v) w:=by
 cases op with
 | move x=>simp only[pv] at h;simp[Av,hS.eval h]
 | assign x=>simp only[pv] at h;simp[Av,hS.eval h]
 | pick c x y=>
  simp only[pv] at h;split at h
  ·rename_i hc;simp[Av,hS.eval hc,asBool,hS.eval h]
  ·rename_i hc;simp[Av,hS.eval hc,asBool,hS.eval h]
  ·cases h
 | binOp op t x y u=>
  simp only[pv] at h;split at h
  ·rename_i k p k' q hx hy;split at h
   ·rename_i hk;subst hk;split at h
    ·rename_i v' hv;simp only[Qf] at h;subst h;simp[Av,hS.eval hx,hS.eval hy,zDu,z2q hv]
    ·simp[Av,hS.eval hx,hS.eval hy,zDu,zOM h]
   ·simp[Av,hS.eval hx,hS.eval hy,zDu,zOM h]
  ·rename_i p q hx hy;simp[Av,hS.eval hx,hS.eval hy,zQV,z3L h]
  ·rename_i p q hx hy;split at h
   ·rename_i hu;simp only[Qf] at h;subst h;simp[Av,hS.eval hx,hS.eval hy,zOh,run_eql_bool w t p q hu]
   ·rename_i hu;simp only[Qf] at h;subst h;simp[Av,hS.eval hx,hS.eval hy,zOh,run_neq_bool w t p q hu]
   ·cases h
  ·rename_i xs ys hx hy;split at h
   ·cases h
   ·rename_i hgd;have hgd':P.eqGuardType P.depth t=false:=by simpa using hgd
    split at h
    ·rename_i r hr;simp only[Qf] at h;subst h;have:=(z0N (P:=P) (w:=w) 50).1 t _ _ r hr 10000 (by omega);simp[Av,hS.eval hx,hS.eval hy,run_eqGuard_agg w _ t x y xs ys hgd',run_eql_struct,this]
    ·rename_i r hr;simp only[Qf] at h;subst h;have:=(z0N (P:=P) (w:=w) 50).1 t _ _ r hr 10000 (by omega);simp[Av,hS.eval hx,hS.eval hy,run_eqGuard_agg w _ t x y xs ys hgd',run_neq_struct,this]
    ·cases h
  ·cases h
 | build t parts=>
  simp only[pv] at h;split at h
  ·rename_i fs hu;split at h
   ·rename_i ps z vs hps hz hvs;simp only[Q9] at h;obtain⟨cells,hfill,rfl⟩:=h;have h1:=zYW (w:=w) hps;simp only[bind_pure_comp] at h1;have h2:=hS.parts hvs;have h3:=zL0 hz w;simp only[Av,Instr.build,Sem.run_bind,h3,Result.andThen_ok,run_underlying hu,Array.mapM_eq_mapM_toList,bind_pure_comp,Sem.run_map,h1];simp_all
   ·cases h
  ·cases h
 | unOp op t x=>
  cases op with
  | not=>
   simp only[pv] at h;split at h
   ·rename_i b hx;simp only[Qf] at h;subst h;simp[Av,hS.eval hx,Op.unary]
   ·cases h
  | neg=>
   simp only[pv] at h;split at h
   ·rename_i k m hx;simp only[Qf] at h;subst h;simp[Av,hS.eval hx,Op.unary,Op.intArith]
   ·cases h
  | xor=>
   simp only[pv] at h;split at h
   ·rename_i k m hx;simp only[Qf] at h;subst h;simp[Av,hS.eval hx,Op.unary,Op.intBits,z3H]
   ·cases h
  | _=>simp[pv] at h
 | convert s t x=>
  simp only[pv] at h;split at h
  ·rename_i k k' m ds hu hx hs;simp only[Qf] at h;subst h;simp[Av,convert,hS.eval hx,run_underlying hu,run_underlying hs,Conv.intToInt]
  ·rename_i u hu hx hs;simp only[Qf] at h;subst h;simp[Av,convert,hS.eval hx,run_underlying hu,run_underlying hs]
  ·cases h
 | extract x i=>
  simp only[pv] at h;split at h
  ·rename_i us hx;simp[Av,hS.eval hx,Instr.extract,h]
  ·cases h
 | nilCheck x=>
  simp only[pv] at h;split at h
  ·rename_i u hx;simp only[Qf] at h;subst h;simp[Av,hS.eval hx]
  ·cases h
 | fieldAddr s x f=>
  simp only[pv] at h;split at h
  ·rename_i b o off hx hf;simp only[Qf] at h;subst h;simp[Av,hS.eval hx,z0c hf]
  ·cases h
 | makeFunc fn x y=>
  simp only[pv] at h;split at h
  ·rename_i us vs hx hy;simp only[Qf] at h;subst h;have h1:=hS.evals hx;have h2:=hS.evals hy;have e1:x.map a.eval=us.toArray:=by rw[<-h1];exact Array.toList_inj.1 (by simp)
   have e2:y.map a.eval=vs.toArray:=by rw[<-h2];exact Array.toList_inj.1 (by simp)
   simp[Av,Instr.makeFunc,e1,e2]
  ·cases h
 | call c=>
  obtain⟨cal,args,ats⟩:=c;simp only[pv] at h;split at h
  ·rename_i x t h2 h3;obtain⟨args⟩:=args;obtain⟨ats⟩:=ats;have h2:args=[x]:=h2;have h3:ats=[t]:=h3;subst h2 h3;split at h
   ·rename_i s hx hu;simp only[Qf] at h;subst h;simp[Av,resolve,invoke,builtin,Builtin.len_,hS.eval hx,run_underlying hu,goInt]
   ·rename_i b m c e hx hu;simp only[Qf] at h;subst h;simp[Av,resolve,invoke,builtin,Builtin.len_,hS.eval hx,run_underlying hu,goInt]
   ·cases h
  ·rename_i ts x y h2;obtain⟨args⟩:=args;have h2:args=[x,y]:=h2;subst h2;split at h
   ·rename_i k p k' q hx hy;simp only[Qf] at h;subst h;simp[Av,resolve,invoke,builtin,Builtin.min_,Builtin.min2,hS.eval hx,hS.eval hy]
   ·cases h
  ·rename_i ts x y h2;obtain⟨args⟩:=args;have h2:args=[x,y]:=h2;subst h2;split at h
   ·rename_i k p k' q hx hy;simp only[Qf] at h;subst h;simp[Av,resolve,invoke,builtin,Builtin.max_,Builtin.max2,hS.eval hx,hS.eval hy]
   ·cases h
  ·cases h
 | _=>simp[pv] at h
section
variable {P:Aq}{ops:Array Oper}{Q:Exit->Ay->Ao->Prop}{a:Ay}{n:Nat}{S:List (Nat×Am)}{w:Ao}{rest:List Oper}
def qI (ops:Array Oper)(S:List (Nat×Am))(g:Option (Nat×Bool)): Option Bool:=
 match g with
 | none=>Ah Aj
 | some (j,b)=>match ops[j]? with
  | none=>Ai
  | some o=>match o.dst with
   | none=>Ai
   | some d=>match yF S d with
    | some (.bool c)=>Ah (c==b)
    | some (.tuple _)=>Ah Ak
    | _=>Ai
theorem zEI (hS:qV a n S){o:Oper}{b:Bool}(h:qI ops S o.guard=Ah b): Region.wanted o (yielded ops a.tmps)=b:=by
 unfold qI at h;unfold Region.wanted;split at h
 ·grind
 ·rename_i j c hg;rw[hg];split at h
  ·cases h
  ·rename_i oj hj;split at h
   ·cases h
   ·rename_i d hd;split at h
    ·rename_i u hu;simp only[Qf] at h;have hv:=hS.has d _ hu;simp only[yielded,hj,zob,hd,hv];simp_all
    ·rename_i u hu;simp only[Qf] at h;have hv:=hS.has d _ hu;grind [yielded]
    ·cases h
def zJ9 (P:Aq)(ops:Array Oper): List Oper->List (Nat×Am)->Option (List (Nat×Am))
 | [],S=>Ah S
 | o::r,S=>match o.dst with
  | none=>Ai
  | some d=>match qI ops S o.guard with
   | some Aj=>match pv P S o.op with
    | some v=>zJ9 P ops r ((d,v)::S)
    | none=>Ai
   | some Ak=>zJ9 P ops r ((d,undef)::S)
   | none=>Ai
def zYt:List Oper->List Nat
 | []=>[]
 | o::r=>match o.dst with
  | some d=>d::zYt r
  | none=>zYt r
def zYP (n:Nat)(S2 S:List (Nat×Am)): List Nat->Bool
 | []=>Aj
 | d::r=>Nat.blt d n&&((yF S2 d).isSome||(yF S d).isNone)&&zYP n S2 S r
theorem zND{o:Oper}{v:Am}{w':Ao}(hg:qI ops S o.guard=Ah Aj)(hS:qV a n S)(hr:(Av a.eval o).run P w=.ok (.value v) w')
  (k:wpList P ops Q rest (a.put o.dst v) w'):wpList P ops Q (o::rest) a w:=by
 unfold wpList;rw[Qi (zEI hS hg)];refine .inl ?_;unfold Oper.wp;rw[hr];exact k
theorem zPT{o:Oper}(hg:qI ops S o.guard=Ah Ak)(hS:qV a n S)
  (k:wpList P ops Q rest (a.put o.dst undef) w):wpList P ops Q (o::rest) a w:=by
 unfold wpList;rw[Qa (by rw[zEI hS hg];simp)];exact k
theorem zMG:∀(l:List Oper) (a:Ay) (S S':List (Nat×Am)),qV a n S->zJ9 P ops l S=Ah S'->(zYt l).all (λd=>Nat.blt d n)=Aj->
  (∀ a',qV a' n S'->wpList P ops Q rest a' w)->wpList P ops Q (l++rest) a w
 | [],a,S,S',hS,h,_,k=>by
  grind [zJ9]
 | o::l,a,S,S',hS,h,hd,k=>by
  simp only[zJ9] at h;split at h
  ·cases h
  ·rename_i d hod;simp only[zYt,hod,Uw,Qc] at hd;split at h
   ·rename_i hg;split at h
    ·rename_i v hv;refine zND (v:=v) (w':=w) hg hS (zVv hS hv _ _ _ _ _ w) ?_;rw[hod];exact zMG l _ _ S' (hS.put hd.1 v) h hd.2 k
    ·cases h
   ·rename_i hg;refine zPT hg hS ?_;rw[hod];exact zMG l _ _ S' (hS.put hd.1 undef) h hd.2 k
   ·cases h
theorem zPQ:∀ {l:List Oper} {S S':List (Nat×Am)},zJ9 P ops l S=Ah S'->∀ i,i∉zYt l->yF S' i=yF S i
 | [],S,S',h,i,_=>by grind [zJ9]
 | o::l,S,S',h,i,hi=>by
  simp only[zJ9] at h;split at h
  ·cases h
  ·rename_i d hod;simp only[zYt,hod,QO,not_or] at hi;have hb:Nat.beq d i=false:=by
    cases hb:Nat.beq d i with
    | false=>rfl
    | true=>simp_all
   split at h
   ·split at h
    ·rw[zPQ h i hi.2];simp[yF,hb]
    ·cases h
   ·rw[zPQ h i hi.2];simp[yF,hb]
   ·cases h
theorem zUM: ∀ {ds:List Nat},zYP n S2 S ds=Aj->(ds.all (λd=>Nat.blt d n)=Aj)/\∀ d∈ds,(yF S2 d).isSome\/yF S d=Ai
 | [],_=>⟨rfl,λ_ h=>by cases h⟩
 | d::r,h=>by
  simp only[zYP,Qc,Ub,Option.isNone_iff_eq_none] at h;obtain⟨⟨h1,h2⟩,h3⟩:=h;obtain⟨i1,i2⟩:=zUM h3;grind
variable{l:List Oper}
theorem z7S (m:Nat)(S2:List (Nat×Am))(hS:qV a n S)
  (hr:(zJ9 P ops (l.take m) S).bind (λs=>zUU s (S2.map Prod.fst))=Ah S2) (hd:zYP n S2 S (zYt (l.take m))=Aj)
  (k:∀ a',qV a' n (S2++S)->wpList P ops Q (l.drop m) a' w):wpList P ops Q l a w:=by
 cases hp:zJ9 P ops (l.take m) S with
 | none=>grind
 | some S'=>
  simp only[hp,zob] at hr;obtain⟨hd1,hd2⟩:=zUM hd;rw[<-QC m l];refine zMG _ a S S' hS hp hd1 λa' hS'=>k a' ⟨hS'.defers,hS'.size,λi v hl=>?_⟩;rw[z0F] at hl;split at hl
  ·rename_i u hu;simp only[Qf] at hl;subst hl;exact hS'.has i _ (zQt hr i _ hu)
  ·rename_i hu;by_cases hi:i∈zYt (l.take m)
   ·grind
   ·exact hS'.has i v (by rw[zPQ hp i hi];exact hl)
theorem z0Q (h:Q .normal a w): wpList P ops Q [] a w:=h
def vK (P:Aq)(ops:Array Oper)(Q:Exit->Ay->Ao->Prop)(o:Oper)(K:Ay->Ao->Prop)(a:Ay)(w:Ao): Prop:=
 if Region.wanted o (yielded ops a.tmps) then o.wp P a w K Q else K (a.put o.dst undef) w
theorem sl{o:Oper}(h:vK P ops Q o (wpList P ops Q rest) a w): wpList P ops Q (o::rest) a w:=by
 unfold vK at h;unfold wpList;grind
variable{ty:Ap}{pos:String}{af:Array Edge}{g:Option (Nat×Bool)}{w':Ao}{K:Ay->Ao->Prop}
theorem zEa{d:Nat}{op:Op}
  (hS:qV a n S) (hd:Nat.blt d n=Aj) (hg:qI ops S g=Ah Aj) (hr:(Av a.eval ⟨Ah d,op,ty,pos,af,g⟩).run P w=.ok (.value v) w')
  (k:∀ a',qV a' n ((d,v)::S)->K a' w'):vK P ops Q ⟨Ah d,op,ty,pos,af,g⟩ K a w:=by
 unfold vK;rw[Qi (zEI (o:=⟨Ah d,op,ty,pos,af,g⟩) hS hg)];unfold Oper.wp;rw[hr];exact k _ (hS.put hd v)
theorem z0L{op:Op}
  (hS:qV a n S) (hg:qI ops S g=Ah Aj) (hr:(Av a.eval ⟨Ai,op,ty,pos,af,g⟩).run P w=.ok .skip w')
  (k:∀ a',qV a' n S->K a' w'):vK P ops Q ⟨Ai,op,ty,pos,af,g⟩ K a w:=by
 unfold vK;rw[Qi (zEI (o:=⟨Ai,op,ty,pos,af,g⟩) hS hg)];unfold Oper.wp;rw[hr];exact k a hS
def Ret (R:Am->Ao->Prop): Ending->Ao->Prop
 | .returned v,w=>R v w
 | _,_=>False
theorem qV.upd (hS:qV a n S){t:Nat}{v v':Am}(hl:yF S t=Ah v)(e:v=v'): qV a n ((t,v')::S):=by
 subst e;refine⟨hS.defers,hS.size,λi u hu=>?_⟩;simp only[yF] at hu;cases hb:Nat.beq t i with
 | true=>
  have:t=i:=Nat.eq_of_beq_eq_true hb;subst this;simp only[hb,cond_true,Qf] at hu;subst hu;exact hS.has _ _ hl
 | false=>
  simp only[hb,cond_false] at hu;exact hS.has i u hu
end
section
variable {P:Aq}{Q:Exit->Ay->Ao->Prop}{a:Ay}{w:Ao}{n:Nat}{S:List (Nat×Am)}
variable{K:Ay->Ao->Prop}
theorem z6Q(h:K a w): Exit.then K Q .normal a w:=h
variable{id:Nat}
theorem z9Z(h:Q .normal a w): Exit.inBlock id Q (.exit id) a w:=by simpa [Exit.inBlock] using h
theorem z7k{id':Nat}(hne:Nat.beq id' id=Ak)(h:Q (.exit id') a w): Exit.inBlock id Q (.exit id') a w:=by grind [Nat.beq_refl,Exit.inBlock]
variable{x y:Code}
theorem z9p(J:Ay->Ao->Prop)(hx:x.wp P (Exit.then J Q) a w)(hy:∀ a w,J a w->y.wp P Q a w): (Code.seq x y).wp P Q a w:=
 wp_seq (wp_mono hx λe a w h=>by cases e <;> first | exact hy a w h | exact h)
theorem z22{c:As}{t:Bool}(hS:qV a n S)(hc:zV S c=Ah (.bool t))
  (ht:t=Aj->x.wp P Q a w) (hf:t=Ak->y.wp P Q a w):(Code.cond c x y).wp P Q a w:=
 wp_cond_split (hS.eval hc) ht hf
variable{l:List Oper}
theorem reg(h:wpList P l.toArray Q l a w): (Code.region id l.toArray Ak).wp P Q a w:=wp_region_lit h
variable{c:Code}
theorem z8k(J:Ay->Ao->Prop)(h:c.wp P (Exit.then J Q) a w)(hj:∀ a w,J a w->Q .normal a w): c.wp P Q a w:=
 wp_mono h λe a w h=>by cases e <;> first | exact hj a w h | exact h
def z6p{σ ρ:Type}(Inv:σ->Ay->Ao->Prop)(Q:Exit->Ay->Ao->Prop)(o:σ⊕ρ): Exit->Ay->Ao->Prop
 | .normal,a,w=>∃ s,o=.inl s/\Inv s a w
 | e,a,w=>Q e a w
theorem loop_m{σ ρ:Type}{B:σ->Option (σ⊕ρ)}(Inv:σ->Ay->Ao->Prop){r:ρ}{s:σ}(hm:zN B s=Ah r)(h0:Inv s a w)
  (step:∀ s a w o,Inv s a w->B s=Ah o->(∀ r',o=.inr r'->r=r')->c.wp P (z6p Inv Q o) a w):(Code.loop c).wp P Q a w:=by
 obtain⟨k,hk⟩:=zK2 hm;let good:Nat->Ay->Ao->Prop:=λm a w=>∃ s,zVg B m s=Ah r/\Inv s a w
 have hgood:good k a w:=⟨s,hk,h0⟩;intro b kk cs;have key:∀ m a w,good m a w->∃ e a' w',Q e a' w'/\Arrives P (lone (b.at a (.code c::.inLoop c::kk)) cs w) b kk cs e a' w':=by
  intro m;induction m with
  | zero=>grind [zVg]
  | succ m ih=>
   rintro a w ⟨s,hs,hI⟩;simp only[zVg] at hs;cases hb:B s with
   | none=>grind
   | some o=>
    have hst:=step s a w o hI hb (λr' he=>by grind);obtain⟨e,a₁,w₁,hq,harr⟩:=hst b (.inLoop c::kk) cs;cases e with
    | normal=>
     obtain⟨s',rfl,hI'⟩:=hq;simp only[hb] at hs;obtain⟨e₂,a₂,w₂,hq₂,harr₂⟩:=ih a₁ w₁ ⟨s',hs,hI'⟩;exact⟨e₂,a₂,w₂,hq₂,.of_steps (Steps.trans harr (.one step_inLoop)) harr₂⟩
    | exit id=>exact⟨_,a₁,w₁,hq,.pass (x:=.inLoop c) rfl (λ_ _=>.inl (by simp)) harr⟩
    | goto l=>exact⟨_,a₁,w₁,hq,.pass (x:=.inLoop c) rfl (λ_ _=>.inl (by simp)) harr⟩
    | ret=>exact⟨_,a₁,w₁,hq,.pass (x:=.inLoop c) rfl (λ_ _=>.inl (by simp)) harr⟩
    | panic ch=>exact⟨_,a₁,w₁,hq,.pass (x:=.inLoop c) rfl (λ_ _=>.inl (by simp)) harr⟩
    | outgrown=>exact⟨_,a₁,w₁,hq,.pass (x:=.inLoop c) rfl (λ_ _=>.inl (by simp)) harr⟩
 obtain⟨e,a',w',hq,harr⟩:=key k a w hgood;exact⟨e,a',w',hq,.of_steps (.one step_loop) harr⟩
variable{fn:Func}
theorem ret1{t:Nat}{R:Am->Ao->Prop}(hS:qV a n S)(hf:fn.results=#[.tmp t])(hv:yF S t=Ah v)(hR:R v w):
  bodyPost P fn (Ret R) .ret a w:=
 ⟨hS.defers,v,by rw[results_tmp hf,hS.getD hv],hR⟩
def zLr:List Am->Nat->List (Nat×Am)
 | [],_=>[]
 | v::r,i=>(i,v)::zLr r (i+1)
theorem zQf:∀(vs:List Am) (k i:Nat) (v:Am),yF (zLr vs k) i=Ah v->k<=i/\vs[i-k]?=Ah v
 | [],k,i,v,h=>by simp[zLr,yF] at h
 | u::r,k,i,v,h=>by
  simp only[zLr,yF] at h;cases hb:Nat.beq k i with
  | true=>
   simp_all
  | false=>
   simp only[hb,cond_false] at h;obtain⟨h1,h2⟩:=zQf r (k+1) i v h;grind
theorem enter{f:FuncId}{vs:List Am}{R:Ending->Ao->Prop}(hf:P.funcs[f]?=Ah fn)(hb:fn.body=Ah c)(hn:Nat.ble vs.length fn.ntmps=Aj)
  (h:∀ a,qV a fn.ntmps (zLr vs 0)->c.wp P (bodyPost P fn R) a w):Calls P f vs.toArray w R:=by
 refine calls_of_wp hf hb (h _ ⟨rfl,?_,λi v hl=>?_⟩)
 ·simp_all
 ·obtain⟨_,h2⟩:=zQf vs 0 i v hl;grind
end
end
section
open Go Go.RowKit
variable {qd:Prop}
abbrev zK:=List (Nat×Obj)
def bl:List zK->List Nat
 | []=>[]
 | r::rs=>r.map Prod.fst++bl rs
variable{Ls:List zK}{b:Nat}
theorem zIH: b∈bl Ls↔∃ r∈Ls,∃ p∈r,p.1=b:=by
 induction Ls with
 | nil=>simp[bl]
 | cons r rs ih=>simp[bl,ih]
theorem zBv (L M:List zK): bl (L++M)=bl L++bl M:=by
 induction L with
 | nil=>rfl
 | cons r rs ih=>simp[bl,ih]
structure qK (A:List Nat)(w:Ao)(Ls:List zK): Prop where
 old:∀ b∈A,b<w.heap.size
 has:∀ r∈Ls,∀ p∈r,w.heap[p.1]?=Ah p.2
 nodup:(bl Ls).Nodup
 apart:∀ b∈bl Ls,b∉A
structure qE (qd:Prop)(Ls:List zK)(w:Ao)(Ls':List zK)(w':Ao): Prop where
 os:w'.os=w.os
 tape:w'.tape=w.tape
 output:w'.output=w.output
 drawn:qd->w.drawn<=w'.drawn
 size:w.heap.size<=w'.heap.size
 keep:∀ k,k<w.heap.size->k∉bl Ls->w'.heap[k]?=w.heap[k]?
 fresh:∀ b∈bl Ls',b∈bl Ls\/w.heap.size<=b
theorem qE.refl (Ls:List zK)(w:Ao): qE qd Ls w Ls w:=⟨rfl,rfl,rfl,λ_=>Qd _,Qd _,λ_ _ _=>rfl,λ_ h=>.inl h⟩
theorem qE.trans{L L' L'':List zK}{w w' w'':Ao}(h:qE qd L w L' w')(k:qE qd L' w' L'' w''): qE qd L w L'' w'':=by
 refine⟨k.os.trans h.os,k.tape.trans h.tape,k.output.trans h.output,λhq=>Qw (h.drawn hq) (k.drawn hq),Qw h.size k.size,λi hi hn=>?_,λb hb=>?_⟩
 ·rw[k.keep i (QP hi h.size) (λhm=>by rcases h.fresh i hm with h1 | h1;exact hn h1;omega),h.keep i hi hn]
 ·rcases k.fresh b hb with h1 | h1
  ·exact h.fresh b h1
  ·exact .inr (Qw h.size h1)
theorem qE.drop{L L' L'':List zK}{w w':Ao}(h:qE qd L w L' w')(hs:∀ b∈bl L'',b∈bl L'): qE qd L w L'' w':=
 ⟨h.os,h.tape,h.output,h.drawn,h.size,h.keep,λb hb=>h.fresh b (hs b hb)⟩
theorem qE.done{L L':List zK}{w w':Ao}(h:qE qd L w L' w'): qE qd L w [] w':=h.drop (by simp[bl])
theorem qE.frame{w w':Ao}(h:qE qd [] w [] w')(Ls:List zK): qE qd Ls w Ls w':=
 ⟨h.os,h.tape,h.output,h.drawn,h.size,λk hk _=>h.keep k hk (by simp[bl]),λ_ hb=>.inl hb⟩
theorem qE.on{L Ls:List zK}{w0 w w':Ao}(_h:qE qd L w0 Ls w)(e:qE qd [] w [] w'): qE qd Ls w Ls w':=e.frame Ls
theorem qK.lt{A:List Nat}{w:Ao}{Ls:List zK}(h:qK A w Ls){b:Nat}(hb:b∈bl Ls): b<w.heap.size:=by
 obtain⟨r,hr,p,hp,rfl⟩:=zIH.1 hb;exact(Qz.1 (h.has r hr p hp)).1
theorem qK.frame{A:List Nat}{w w':Ao}{Ls:List zK}(h:qK A w Ls)(e:qE qd [] w [] w'): qK A w' Ls:=
 ⟨λb hb=>QP (h.old b hb) e.size,λr hr p hp=>by
  rw[e.keep p.1 (Qz.1 (h.has r hr p hp)).1 (by simp[bl])];exact h.has r hr p hp,h.nodup,h.apart⟩
theorem qK.sub{A:List Nat}{w:Ao}{Ls:List zK}(h:qK A w Ls): qK (bl Ls++A) w []:=
 ⟨λb hb=>by rcases Qj.1 hb with h1 | h1;exact h.lt h1;exact h.old b h1,by simp,by simp[bl],by simp[bl]⟩
theorem qK.start{A:List Nat}{w:Ao}(h:∀ b∈A,b<w.heap.size): qK A w []:=⟨h,by simp,by simp[bl],by simp[bl]⟩
theorem qK.alloc{A:List Nat}{w w':Ao}{Ls:List zK}(h:qK A w Ls)(o:Obj)(hw:w'.heap=(w.alloc o).heap): qK A w' (Ls++[[(w.heap.size,o)]]):=by
 have hn:w.heap.size∉bl Ls:=λhm=>Uc _ (h.lt hm);refine⟨λb hb=>?_,λr hr p hp=>?_,?_,λb hb=>?_⟩
 ·rw[hw];have:=h.old b hb;simp;omega
 ·rcases Qj.1 hr with h1 | h1
  ·rw[hw,Below.heap_alloc w o p.1 (Qz.1 (h.has r h1 p hp)).1];exact h.has r h1 p hp
  ·simp only[Qh] at h1;subst h1;simp only[Qh] at hp;subst hp;rw[hw];show(w.heap.push o)[w.heap.size]?=Ah o;simp
 ·rw[zBv];refine QS.2 ⟨h.nodup,by simp[bl],λx hx y hy=>?_⟩;grind [bl]
 ·rw[zBv] at hb;rcases Qj.1 hb with h1 | h1
  ·exact h.apart b h1
  ·simp[bl] at h1;subst h1;exact λhA=>Uc _ (h.old _ hA)
theorem qE.alloc{w w':Ao}(Ls:List zK)(o:Obj)(hw:w'.heap=(w.alloc o).heap)(ho:w'.os=w.os)(ht:w'.tape=w.tape)(hp:w'.output=w.output)(hd:qd->w.drawn<=w'.drawn:=by first | exact λ_=>Qd _ | exact λ_=>Uu _): qE qd Ls w (Ls++[[(w.heap.size,o)]]) w':=
 ⟨ho,ht,hp,hd,by rw[hw];simp,λk hk _=>by grind [Below.heap_alloc],λb hb=>by
  grind [zBv,bl]⟩
variable{α:Type}{i:Nat}{x y:α}
theorem z1C{l:List α}(h:y∈l.set i x): y=x\/∃ j,j≠i/\l[j]?=Ah y:=by grind [List.mem_iff_getElem?]
theorem zBl{Ls:List zK}{i:Nat}{r:zK}(hr:Ls[i]?=Ah r){p:Nat×Obj}(hp:p∈r): p.1∈bl Ls:=
 zIH.2 ⟨r,QH.2 ⟨i,hr⟩,p,hp,rfl⟩
theorem zEm(h:(bl Ls).Nodup): ∀ {i j:Nat} {r s:zK},Ls[i]?=Ah r->Ls[j]?=Ah s->i≠j->∀ p∈r,∀ q∈s,p.1≠q.1:=by
 induction Ls with
 | nil=>grind
 | cons t ts ih=>
  simp only[bl] at h;obtain⟨h1,h2,h3⟩:=QS.1 h;intro i j r s hi hj hij p hp q hq e;cases i with
  | zero=>
   cases j with
   | zero=>grind
   | succ j=>
    simp only[Q6,Qf] at hi;simp only[QW] at hj;subst hi;exact h3 p.1 (QD.2 ⟨p,hp,rfl⟩) q.1 (zBl hj hq) e
  | succ i=>
   simp only[QW] at hi;cases j with
   | zero=>
    simp only[Q6,Qf] at hj;subst hj;exact h3 q.1 (QD.2 ⟨q,hq,rfl⟩) p.1 (zBl hi hp) e.symm
   | succ j=>
    grind
theorem zD2{r':zK}(h:b∈bl (Ls.set i r')): (∃ p∈r',p.1=b)\/∃ j s,j≠i/\Ls[j]?=Ah s/\∃ p∈s,p.1=b:=by
 obtain⟨s,hs,p,hp,rfl⟩:=zIH.1 h;rcases z1C hs with rfl | ⟨j,hj,hl⟩
 ·grind
 grind
theorem zUH:∀ {Ls:List zK} {i:Nat} {r':zK},(bl Ls).Nodup->(r'.map Prod.fst).Nodup->(∀ j s,j≠i->Ls[j]?=Ah s->∀ p∈r',∀ q∈s,p.1≠q.1)->(bl (Ls.set i r')).Nodup
 | [],i,r',h,_,_=>by grind
 | t::ts,0,r',h,hr,ha=>by
  simp only[bl] at h;obtain⟨h1,h2,h3⟩:=QS.1 h;simp only[List.set_cons_zero,bl];refine QS.2 ⟨hr,h2,λx hx y hy e=>?_⟩;obtain⟨p,hp,rfl⟩:=QD.1 hx;obtain⟨s,hs,q,hq,rfl⟩:=zIH.1 hy;grind [List.mem_iff_getElem?]
 | t::ts,i+1,r',h,hr,ha=>by
  simp only[bl] at h;obtain⟨h1,h2,h3⟩:=QS.1 h;simp only[UN,bl];refine QS.2 ⟨h1,zUH h2 hr (λj s hj hs=>ha (j+1) s (by omega) (by grind)),λx hx y hy e=>?_⟩;obtain⟨p,hp,rfl⟩:=QD.1 hx;rcases zD2 hy with⟨q,hq,rfl⟩ | ⟨j,s,hj,hs,q,hq,rfl⟩
  ·exact ha 0 t (by omega) rfl q hq p hp e.symm
  ·exact h3 p.1 (QD.2 ⟨p,hp,rfl⟩) q.1 (zBl hs hq) e
theorem qK.set{A:List Nat}{w w':Ao}{Ls:List zK}(h:qK A w Ls){i:Nat}{r r':zK}(hr:Ls[i]?=Ah r)
  (hsz:w.heap.size<=w'.heap.size) (hk:∀ k,k<w.heap.size->k∉r.map Prod.fst->w'.heap[k]?=w.heap[k]?)
  (hh:∀ p∈r',w'.heap[p.1]?=Ah p.2) (hn:(r'.map Prod.fst).Nodup) (hf:∀ p∈r',p.1∈r.map Prod.fst\/w.heap.size<=p.1):qK A w' (Ls.set i r'):=by
 refine⟨λb hb=>QP (h.old b hb) hsz,λs hs p hp=>?_,zUH h.nodup hn λj s hj hs p hp q hq e=>?_,λb hb=>?_⟩
 ·rcases z1C hs with rfl | ⟨j,hj,hl⟩
  ·grind
  ·have hmem:=QH.2 ⟨j,hl⟩;have h1:=h.has s hmem p hp;rw[hk p.1 (Qz.1 h1).1 (λhm=>by
    obtain⟨q,hq,he⟩:=QD.1 hm;exact zEm h.nodup hr hl (λe=>hj e.symm) q hq p hp he)]
   exact h1
 ·have h1:=h.has s (QH.2 ⟨j,hs⟩) q hq;have hlt:=(Qz.1 h1).1;rcases hf p hp with h2 | h2
  ·obtain⟨u,hu,he⟩:=QD.1 h2;exact zEm h.nodup hr hs (λe=>hj e.symm) u hu q hq (he.trans e)
  ·omega
 ·rcases zD2 hb with⟨p,hp,rfl⟩ | ⟨j,s,hj,hs,p,hp,rfl⟩
  ·rcases hf p hp with h2 | h2
   ·obtain⟨u,hu,he⟩:=QD.1 h2;rw[<-he];exact h.apart _ (zBl hr hu)
   ·intro hA;have:=h.old _ hA;omega
  ·exact h.apart _ (zBl hs hp)
theorem qE.set{w w':Ao}{Ls:List zK}{i:Nat}{r r':zK}(hr:Ls[i]?=Ah r)(ho:w'.os=w.os)(ht:w'.tape=w.tape)(hp:w'.output=w.output)
  (hsz:w.heap.size<=w'.heap.size) (hk:∀ k,k<w.heap.size->k∉r.map Prod.fst->w'.heap[k]?=w.heap[k]?)
  (hf:∀ p∈r',p.1∈r.map Prod.fst\/w.heap.size<=p.1) (hd:qd->w.drawn<=w'.drawn:=by first | exact λ_=>Qd _ | exact λ_=>Uu _):qE qd Ls w (Ls.set i r') w':=by
 refine⟨ho,ht,hp,hd,hsz,λk hk1 hk2=>hk k hk1 (λhm=>hk2 ?_),λb hb=>?_⟩
 ·obtain⟨p,hp,rfl⟩:=QD.1 hm;exact zBl hr hp
 ·rcases zD2 hb with⟨p,hp,rfl⟩ | ⟨j,s,hj,hs,p,hp,rfl⟩
  ·rcases hf p hp with h2 | h2
   ·obtain⟨u,hu,he⟩:=QD.1 h2;grind [zBl]
   grind
  grind [zBl]
structure yB (Z:List Nat)(w:Ao)(Z':List Nat)(w':Ao): Prop where
 size:w.heap.size<=w'.heap.size
 same:∀ k,k<w.heap.size->k∉Z->k∉Z'/\w'.heap[k]?=w.heap[k]?
theorem qE.step{Ls Ls':List zK}{w w':Ao}(h:qE qd Ls w Ls' w')(A:List Nat): yB (bl Ls++A) w (bl Ls'++A) w':=
 ⟨h.size,λk hk hn=>by
  have h1:k∉A:=λhm=>hn (Qj.2 (.inr hm));have h2:k∉bl Ls:=λhm=>hn (Qj.2 (.inl hm));refine⟨λhm=>?_,h.keep k hk h2⟩;rcases Qj.1 hm with h3 | h3
  ·rcases h.fresh k h3 with h4 | h4
   ·exact h2 h4
   ·omega
  grind⟩
theorem yB.less{Z Z':List Nat}(w:Ao)(h:∀ b∈Z',b∈Z): yB Z w Z' w:=⟨Qd _,λk _ hn=>⟨λhm=>hn (h k hm),rfl⟩⟩
structure E (τ:Type) where
 n:Nat
 rd:List Nat->Ao->List Am->τ->Prop
 len:∀ {Z w cs x},rd Z w cs x->cs.length=n
 step:∀ {Z w Z' w' cs x},yB Z w Z' w'->rd Z w cs x->rd Z' w' cs x
 one:∀ {Z w cs x},rd Z w cs x->∀ c∈cs,c.oneCell'=Aj
def zT (k:Au): E Int:=⟨1,λ_ _ cs x=>cs=[.int k x],by grind,by grind,by rintro _ _ _ _ rfl c hc;simp at hc;subst hc;rfl⟩
def tH:E Bool:=⟨1,λ_ _ cs x=>cs=[.bool x],by grind,by grind,by rintro _ _ _ _ rfl c hc;simp at hc;subst hc;rfl⟩
def qP:E zA:=⟨1,λ_ _ cs x=>cs=[vs x],by grind,by grind,by rintro _ _ _ _ rfl c hc;simp at hc;subst hc;rfl⟩
def z9u:E Unit:=⟨0,λ_ _ cs _=>cs=[],by grind,by grind,by grind⟩
def qU{α β:Type}(e:E α)(f:E β): E (α×β):=
 ⟨e.n+f.n,λZ w cs x=>∃ c1 c2,cs=c1++c2/\e.rd Z w c1 x.1/\f.rd Z w c2 x.2,
  by rintro _ _ _ _ ⟨c1,c2,rfl,h1,h2⟩;simp[e.len h1,f.len h2],
  by rintro _ _ _ _ _ _ s ⟨c1,c2,rfl,h1,h2⟩;exact⟨c1,c2,rfl,e.step s h1,f.step s h2⟩,
  by
  rintro _ _ _ _ ⟨c1,c2,rfl,h1,h2⟩ c hc;rcases Qj.1 hc with h | h
  ·exact e.one h1 c h
  ·exact f.one h2 c h⟩
section
variable {τ:Type}(e:E τ)
def E.rdL (Z:List Nat)(w:Ao): List Am->List τ->Prop
 | cs,[]=>cs=[]
 | cs,x::l=>∃ c1 c2,cs=c1++c2/\e.rd Z w c1 x/\E.rdL Z w c2 l
theorem E.rdL_len{Z:List Nat}{w:Ao}: ∀ {l:List τ} {cs:List Am},e.rdL Z w cs l->cs.length=l.length*e.n
 | [],cs,h=>by simp only[E.rdL] at h;simp[h]
 | x::l,cs,h=>by
  obtain⟨c1,c2,rfl,h1,h2⟩:=h;simp only[Qg,e.len h1,E.rdL_len h2,Qr,QV,U1];omega
theorem E.rdL_step{Z Z':List Nat}{w w':Ao}(s:yB Z w Z' w'): ∀ {l:List τ} {cs:List Am},e.rdL Z w cs l->e.rdL Z' w' cs l
 | [],cs,h=>h
 | x::l,cs,h=>by obtain⟨c1,c2,rfl,h1,h2⟩:=h;exact⟨c1,c2,rfl,e.step s h1,E.rdL_step s h2⟩
theorem E.rdL_one{Z:List Nat}{w:Ao}: ∀ {l:List τ} {cs:List Am},e.rdL Z w cs l->∀ c∈cs,c.oneCell'=Aj
 | [],cs,h=>by grind [E.rdL]
 | x::l,cs,h=>by
  obtain⟨c1,c2,rfl,h1,h2⟩:=h;intro c hc;rcases Qj.1 hc with h | h
  ·exact e.one h1 c h
  ·exact E.rdL_one h2 c h
theorem E.rdL_append{Z:List Nat}{w:Ao}: ∀ {l m:List τ} {cs ds:List Am},e.rdL Z w cs l->e.rdL Z w ds m->e.rdL Z w (cs++ds) (l++m)
 | [],m,cs,ds,h,k=>by simp only[E.rdL] at h;subst h;simpa using k
 | x::l,m,cs,ds,h,k=>by
  obtain⟨c1,c2,rfl,h1,h2⟩:=h;exact⟨c1,c2++ds,by simp,h1,E.rdL_append h2 k⟩
theorem E.rdL_one_elem{Z:List Nat}{w:Ao}{x:τ}{cs:List Am}(h:e.rd Z w cs x): e.rdL Z w cs [x]:=⟨cs,[],by simp,h,rfl⟩
theorem E.rdL_get{Z:List Nat}{w:Ao}: ∀ {l:List τ} {cs:List Am} {i:Nat} {x:τ},e.rdL Z w cs l->l[i]?=Ah x->∃ ci,e.rd Z w ci x/\∀ j u,ci[j]?=Ah u->cs[i*e.n+j]?=Ah u
 | [],cs,i,x,h,hx=>by simp at hx
 | y::l,cs,0,x,h,hx=>by
  obtain⟨c1,c2,rfl,h1,h2⟩:=h;grind
 | y::l,cs,i+1,x,h,hx=>by
  obtain⟨c1,c2,rfl,h1,h2⟩:=h;simp only[QW] at hx;obtain⟨ci,k1,k2⟩:=E.rdL_get h2 hx;refine⟨ci,k1,λj u hu=>?_⟩;have:=k2 j u hu;have hl:=e.len h1;grind
theorem E.rdL_take{Z:List Nat}{w:Ao}: ∀ {l:List τ} {cs:List Am} (k:Nat),e.rdL Z w cs l->e.rdL Z w (cs.take (k*e.n)) (l.take k)
 | [],cs,k,h=>by simp only[E.rdL] at h;simp[h,E.rdL]
 | y::l,cs,0,h=>by simp[E.rdL]
 | y::l,cs,k+1,h=>by
  obtain⟨c1,c2,rfl,h1,h2⟩:=h;have hl:=e.len h1;refine⟨c1,c2.take (k*e.n),?_,h1,E.rdL_take k h2⟩;grind [Nat.add_mul]
theorem E.rdL_drop{Z:List Nat}{w:Ao}: ∀ {l:List τ} {cs:List Am} (k:Nat),e.rdL Z w cs l->e.rdL Z w (cs.drop (k*e.n)) (l.drop k)
 | [],cs,k,h=>by simp only[E.rdL] at h;simp[h,E.rdL]
 | y::l,cs,0,h=>by grind
 | y::l,cs,k+1,h=>by
  obtain⟨c1,c2,rfl,h1,h2⟩:=h;have hl:=e.len h1;have:=E.rdL_drop k h2;rw[show(k+1)*e.n=c1.length+k*e.n by grind];rw[UZ,Q4 (by omega)];grind
def xL (Z:List Nat)(w:Ao)(p:Option Ax)(c:Nat)(l:List τ): Prop:=
 l.length<=c/\(l=[]\/∃ b off cs,p=Ah ⟨b,off,Ai⟩/\b∉Z/\b<w.heap.size/\e.rdL Z w cs l/\∀ j u,cs[j]?=Ah u->w.cell? ⟨b,off+j,Ai⟩=Ah u)
theorem xL.step{Z Z':List Nat}{w w':Ao}{p:Option Ax}{c:Nat}{l:List τ}(s:yB Z w Z' w')(h:xL e Z w p c l): xL e Z' w' p c l:=by
 refine⟨h.1,h.2.imp id ?_⟩;rintro ⟨b,off,cs,rfl,hb,hlt,hl,hc⟩;obtain⟨h1,h2⟩:=s.same b hlt hb;exact⟨b,off,cs,rfl,h1,QP hlt s.size,e.rdL_step s hl,λj u hu=>by grind [Ao.cell?_of_block]⟩
theorem xL.nil (Z:List Nat)(w:Ao)(p:Option Ax)(c:Nat): xL e Z w p c []:=⟨QT _,.inl rfl⟩
def zSo (Z:List Nat)(w:Ao)(ad:Ax)(x:τ): Prop:=
 ∃ b o ci,ad=⟨b,o,Ai⟩/\b∉Z/\b<w.heap.size/\e.rd Z w ci x/\∀ j u,ci[j]?=Ah u->w.cell? ⟨b,o+j,Ai⟩=Ah u
theorem zSo.step{Z Z':List Nat}{w w':Ao}{ad:Ax}{x:τ}(s:yB Z w Z' w')(h:zSo e Z w ad x): zSo e Z' w' ad x:=by
 obtain⟨b,o,ci,rfl,hb,hlt,hx,hc⟩:=h;obtain⟨h1,h2⟩:=s.same b hlt hb;exact⟨b,o,ci,rfl,h1,QP hlt s.size,e.step s hx,λj u hu=>by grind [Ao.cell?_of_block]⟩
end
def wF{τ:Type}(e:E τ): E (List τ):=
 ⟨1,λZ w cs l=>∃ p c,cs=[.slice p l.length c]/\xL e Z w p c l,
  by grind,
  by rintro _ _ _ _ _ _ s ⟨p,c,rfl,h⟩;exact⟨p,c,rfl,h.step e s⟩,
  by rintro _ _ _ _ ⟨p,c,rfl,h⟩ d hd;simp at hd;subst hd;rfl⟩
theorem zT.mk{k:Au}{Z:List Nat}{w:Ao}{x:Int}: (zT k).rd Z w [.int k x] x:=rfl
theorem tH.mk{Z:List Nat}{w:Ao}{x:Bool}: tH.rd Z w [vb x] x:=rfl
theorem qP.mk{Z:List Nat}{w:Ao}{x:zA}: qP.rd Z w [vs x] x:=rfl
theorem z9u.mk{Z:List Nat}{w:Ao}{x:Unit}: z9u.rd Z w [] x:=rfl
theorem qU.mk{α β:Type}{e:E α}{f:E β}{Z:List Nat}{w:Ao}{c1 c2:List Am}{x:α}{y:β}(h1:e.rd Z w c1 x)(h2:f.rd Z w c2 y): (qU e f).rd Z w (c1++c2) (x,y):=⟨c1,c2,rfl,h1,h2⟩
theorem wF.mk{τ:Type}{e:E τ}{Z:List Nat}{w:Ao}{p:Option Ax}{c:Nat}{l:List τ}(h:xL e Z w p c l): (wF e).rd Z w [.slice p l.length c] l:=⟨p,c,rfl,h⟩
theorem zSo.fst{α β:Type}{e:E α}{f:E β}{Z:List Nat}{w:Ao}{b o:Nat}{x:α×β}(h:zSo (qU e f) Z w ⟨b,o,Ai⟩ x): zSo e Z w ⟨b,o,Ai⟩ x.1:=by
 obtain⟨b',o',ci,he,hb,hlt,⟨c1,c2,rfl,h1,h2⟩,hc⟩:=h;cases he;exact⟨b,o,c1,rfl,hb,hlt,h1,λj u hu=>hc j u (by grind)⟩
theorem zSo.snd{α β:Type}{e:E α}{f:E β}{Z:List Nat}{w:Ao}{b o:Nat}{x:α×β}(h:zSo (qU e f) Z w ⟨b,o,Ai⟩ x): zSo f Z w ⟨b,o+e.n,Ai⟩ x.2:=by
 obtain⟨b',o',ci,he,hb,hlt,⟨c1,c2,rfl,h1,h2⟩,hc⟩:=h;cases he;refine⟨b,o+e.n,c2,rfl,hb,hlt,h2,λj u hu=>?_⟩;have hl:=e.len h1;rw[U0];refine hc (e.n+j) u ?_;grind
theorem xL.mv{τ:Type}{e:E τ}{Z Z':List Nat}{w w':Ao}{p:Option Ax}{c:Nat}{l:List τ}(h:xL e Z w p c l)(s:yB Z w Z' w'): xL e Z' w' p c l:=h.step e s
theorem zSo.mv{τ:Type}{e:E τ}{Z Z':List Nat}{w w':Ao}{ad:Ax}{x:τ}(h:zSo e Z w ad x)(s:yB Z w Z' w'): zSo e Z' w' ad x:=h.step e s
theorem z0d{k:Nat}(h:b∈bl (Ls.take k)): b∈bl Ls:=by
 obtain⟨r,hr,p,hp,rfl⟩:=zIH.1 h;exact zIH.2 ⟨r,Q7 hr,p,hp,rfl⟩
theorem qK.take{A:List Nat}{w:Ao}{Ls:List zK}(h:qK A w Ls)(k:Nat): qK A w (Ls.take k):=by
 refine⟨h.old,λr hr=>h.has r (Q7 hr),?_,λb hb=>h.apart b (z0d hb)⟩;have:bl Ls=bl (Ls.take k)++bl (Ls.drop k):=by rw[<-zBv,QC]
 have hn:=h.nodup;grind
theorem qE.take{L:List zK}{w w':Ao}{Ls:List zK}(h:qE qd L w Ls w')(k:Nat): qE qd L w (Ls.take k) w':=h.drop λ_ hb=>z0d hb
theorem yB.take (Ls:List zK)(k:Nat)(A:List Nat)(w:Ao): yB (bl Ls++A) w (bl (Ls.take k)++A) w:=yB.less w λb hb=>by
 grind [z0d]
variable{r:zK}
theorem z6n(hr:Ls[i]?=Ah r)(A:List Nat): ∀ b∈bl [r]++(bl (Ls.set i [])++A),b∈bl Ls++A:=by
 intro b hb;rcases Qj.1 hb with h | h
 ·obtain⟨s,hs,p,hp,rfl⟩:=zIH.1 h;grind [zBl]
 ·rcases Qj.1 h with h | h
  ·rcases zD2 h with⟨p,hp,_⟩ | ⟨j,s,_,hs,p,hp,rfl⟩
   ·cases hp
   grind [zBl]
  grind
theorem qK.pick{A:List Nat}{w:Ao}{Ls:List zK}(h:qK A w Ls)(i:Nat){r:zK}(hr:Ls[i]?=Ah r): qK (bl (Ls.set i [])++A) w [r]:=by
 have hmem:=QH.2 ⟨i,hr⟩;refine⟨λb hb=>?_,λs hs p hp=>?_,?_,λb hb hA=>?_⟩
 ·rcases Qj.1 hb with h1 | h1
  ·rcases zD2 h1 with⟨p,hp,_⟩ | ⟨j,s,_,hs,p,hp,rfl⟩
   ·cases hp
   ·exact h.lt (zBl hs hp)
  ·exact h.old b h1
 ·simp only[Qh] at hs;subst hs;exact h.has _ hmem p hp
 ·have key:∀ {Ls:List zK} {i:Nat},(bl Ls).Nodup->Ls[i]?=Ah r->(r.map Prod.fst).Nodup:=by
   intro Ls;induction Ls with
   | nil=>grind
   | cons t ts ih=>
    grind [bl]
  simpa [bl] using key h.nodup hr
 ·obtain⟨s,hs,p,hp,rfl⟩:=zIH.1 hb;simp only[Qh] at hs;subst hs;rcases Qj.1 hA with h1 | h1
  ·rcases zD2 h1 with⟨q,hq,_⟩ | ⟨j,t,hj,ht,q,hq,he⟩
   ·cases hq
   ·exact zEm h.nodup hr ht (λe=>hj e.symm) p hp q hq he.symm
  ·exact h.apart _ (zBl hr hp) h1
theorem yB.pick{Ls:List zK}{i:Nat}{r:zK}(hr:Ls[i]?=Ah r)(A:List Nat)(w:Ao): yB (bl Ls++A) w (bl [r]++(bl (Ls.set i [])++A)) w:=yB.less w (z6n hr A)
theorem zT4: bl [r]=r.map Prod.fst:=by simp[bl]
theorem qK.put{A:List Nat}{w w':Ao}{Ls:List zK}(h:qK A w Ls){i:Nat}{r r':zK}(hr:Ls[i]?=Ah r)(ho:qK (bl (Ls.set i [])++A) w' [r'])(e:qE qd [r] w [r'] w'): qK A w' (Ls.set i r'):=by
 refine h.set hr e.size (λk hk hn=>e.keep k hk (by rw[zT4];exact hn)) (ho.has r' (Qh.2 rfl)) (by simpa [bl] using ho.nodup) (λp hp=>?_);have:=e.fresh p.1 (by rw[zT4];grind);rwa [zT4] at this
theorem qE.put{w w':Ao}{Ls:List zK}{i:Nat}{r r':zK}(hr:Ls[i]?=Ah r)(e:qE qd [r] w [r'] w'): qE qd Ls w (Ls.set i r') w':=
 qE.set hr e.os e.tape e.output e.size (λk hk hn=>e.keep k hk (by rw[zT4];exact hn)) (λp hp=>by
  have:=e.fresh p.1 (by rw[zT4];grind);rwa [zT4] at this) e.drawn
theorem yB.put{Ls:List zK}{i:Nat}{r':zK}(A:List Nat)(w:Ao): yB (bl [r']++(bl (Ls.set i [])++A)) w (bl (Ls.set i r')++A) w:=yB.less w λb hb=>by
 rcases Qj.1 hb with h | h
 ·rcases zD2 h with⟨p,hp,rfl⟩ | ⟨j,s,hj,hs,p,hp,rfl⟩
  ·exact Qj.2 (.inl (by rw[zT4];grind))
  ·refine Qj.2 (.inr (Qj.2 (.inl (zBl (i:=j) ?_ hp))));grind
 grind
theorem bnd{β:Type}{m:Option α}{f:α->Option β}{o:β}(h:m.bind f=Ah o): ∃ x,m=Ah x/\f x=Ah o:=by
 cases m with
 | none=>cases h
 | some x=>grind
variable{o:α}
theorem ifT{b:Bool}(hb:b=Aj)(h:(if b=Aj then x else y)=o): x=o:=by grind
theorem ifF{b:Bool}(hb:b=Ak)(h:(if b=Aj then x else y)=o): y=o:=by grind
end
section
open Go Go.RowKit
variable {qd:Prop}
def mkV:Bool->List Am->Option Am
 | true,cs=>Ah (.agg cs.toArray)
 | false,[v]=>Ah v
 | false,_=>Ai
section
variable {P:Aq}{w:Ao}
theorem zBg (b o j:Nat): (⟨b,o,Ai⟩:Ax).add j=⟨b,o+j,Ai⟩:=by grind [Ax.add]
theorem zDV{t:Ap}{b o:Nat}{ag:Bool}{cs:List Am}{v:Am}(hs:uE P t=Ah (ag,cs.length))(hc:∀ j u,cs[j]?=Ah u->w.cell? ⟨b,o+j,Ai⟩=Ah u)
  (hv:mkV ag cs=Ah v):(loadVar t ⟨b,o,Ai⟩).run P w=.ok v w:=by
 obtain⟨h1,h2⟩:=zFK (w:=w) hs;cases ag with
 | true=>
  simp only[mkV,Qf] at hv;subst hv;have:=run_loadCells_list (P:=P) w ⟨b,o,Ai⟩ cs (λj u hu=>by grind [zBg]);simp[loadVar,h1,h2,this]
 | false=>
  match cs,hv with
  | [u],hv=>
   simp only[mkV,Qf] at hv;subst hv;have:=hc 0 u rfl;simp only[Ul] at this;simp[loadVar,h1,run_load,this]
def z0a (c:Array Am)(o n:Nat): List Value:=(c.toList.drop o).take n
def zZv (c:Array Am)(o:Nat)(v:List Am): Array Value:=(c.toList.take o++v++c.toList.drop (o+v.length)).toArray
theorem z7z{c:Array Am}{o n j:Nat}{u:Am}(h:(z0a c o n)[j]?=Ah u): c[o+j]?=Ah u:=by grind [z0a]
def zKu (P:Aq)(t:Ap)(c:Array Am)(o:Nat): Option Value:=
 match uE P t with
 | none=>Ai
 | some (ag,n)=>if Nat.ble (o+n) c.size then mkV ag (z0a c o n) else Ai
variable{t:Ap}{b o:Nat}{c:Array Am}{te:Ap}{fr:Nat×Nat}{v:Am}
theorem zN8(hg:w.heap[b]?=Ah (.cells c te fr))(hv:zKu P t c o=Ah v):
  (loadVar t ⟨b,o,Ai⟩).run P w=.ok v w:=by
 unfold zKu at hv;split at hv
 ·cases hv
 ·rename_i ag n hs;split at hv
  ·rename_i hle;have hle':o+n<=c.size:=QN hle;have hlen:(z0a c o n).length=n:=by simp[z0a];omega
   grind [zDV,z0a,cell_of_row]
  ·cases hv
def zKq (P:Aq)(t:Ap)(c:Array Am)(o:Nat)(v:Am): Bool:=
 match uE P t with
 | none=>Ak
 | some (_,n)=>v.cells.size==n&&Nat.ble (o+n) c.size&&v.cells.toList.all (λx=>x.oneCell')
theorem zQI(hg:w.heap[b]?=Ah (.cells c te (0,0)))(hv:zKq P t c o v=Aj):
  (storeVar t ⟨b,o,Ai⟩ v).run P w=.ok () (w.setRow b (zZv c o v.cells.toList)):=by
 unfold zKq at hv;split at hv
 ·cases hv
 ·rename_i ag n hs;simp only[Qc,QJ,QR] at hv;obtain⟨⟨h1,h2⟩,h3⟩:=hv;have h2':o+n<=c.size:=QN h2;obtain⟨k1,k2⟩:=zFK (w:=w) hs;have hst:=run_storeCells_at P b o te v.cells.toList 0 c w hg (by simp;omega) h3;simp only[Ul] at hst;simp[storeVar,k2,h1,hst,zZv]
end
section
variable {P:Aq}{ops:Array Oper}{Q:Exit->Ay->Ao->Prop}{a:Ay}{n:Nat}{S:List (Nat×Am)}{w:Ao}{K:Ay->Ao->Prop}
variable {A:List Nat}{Ls:List zK}{d:Nat}{ty:Ap}{pos:String}{af:Array Edge}{g:Option (Nat×Bool)}
theorem zAj (hO:qK A w Ls){i:Nat}{r:zK}(hr:Ls[i]?=Ah r){p:Nat×Obj}(hp:p∈r): w.heap[p.1]?=Ah p.2:=
 hO.has r (QH.2 ⟨i,hr⟩) p hp
variable{x:As}{b o:Nat}{c:Array Am}{te:Ap}{fr:Nat×Nat}{v:Am}
theorem z1S (i:Nat){t:Nat}(hS:qV a n S)(hd:Nat.blt d n=Aj)(hg:qI ops S g=Ah Aj)(hO:qK A w Ls)
  (hx:zV S x=Ah (.pointer (Ah ⟨b,o,Ai⟩))) (hr:Ls[i]?=Ah [(b,.cells c te fr)]) (hv:zKu P t c o=Ah v)
  (k:∀ a',qV a' n ((d,v)::S)->K a' w):vK P ops Q ⟨Ah d,.load t x,ty,pos,af,g⟩ K a w:=
 zEa hS hd hg (by simp[Av,hS.eval hx,Instr.loadAt,Instr.sureAddr,zN8 (zAj hO hr (Qh.2 rfl)) hv]) k
variable{y:As}
theorem zYV (i:Nat){t:Nat}(hS:qV a n S)(hg:qI ops S g=Ah Aj)(hO:qK A w Ls)
  (hx:zV S x=Ah (.pointer (Ah ⟨b,o,Ai⟩))) (hy:zV S y=Ah v) (hr:Ls[i]?=Ah [(b,.cells c te (0,0))]) (hv:zKq P t c o v=Aj)
  (k:∀ w',qK A w' (Ls.set i [(b,.cells (zZv c o v.cells.toList) te (0,0))])->qE qd Ls w (Ls.set i [(b,.cells (zZv c o v.cells.toList) te (0,0))]) w'->∀ a',qV a' n S->K a' w') :
  vK P ops Q ⟨Ai,.store t x y,ty,pos,af,g⟩ K a w:=by
 have hb:=zAj hO hr (Qh.2 rfl);refine z0L hS hg (w':=w.setRow b (zZv c o v.cells.toList)) (by simp[Av,hS.eval hx,hS.eval hy,Instr.storeAt,Instr.sureAddr,zQI hb hv]) (k _ ?_ ?_)
 ·refine hO.set hr (by simp) (λk _ hk=>setRow_other w b k _ (λe=>hk (by simp[e]))) (λp hp=>?_) (by simp) (λp hp=>.inl ?_)
  ·grind [setRow_heap]
  grind
 ·refine qE.set hr rfl rfl rfl (by simp) (λk _ hk=>setRow_other w b k _ (λe=>hk (by simp[e]))) (λp hp=>.inl ?_);grind
theorem z8R{op:Op}{v:Nat->Am}{o:Obj}(hS:qV a n S)(hd:Nat.blt d n=Aj)(hg:qI ops S g=Ah Aj)(hO:qK A w Ls)
  (hr:(Av a.eval ⟨Ah d,op,ty,pos,af,g⟩).run P w=.ok (.value (v w.heap.size)) (w.alloc o))
  (k:∀ b w',qK A w' (Ls++[[(b,o)]])->qE qd Ls w (Ls++[[(b,o)]]) w'->∀ a',qV a' n ((d,v b)::S)->K a' w') :
  vK P ops Q ⟨Ah d,op,ty,pos,af,g⟩ K a w:=
 zEa hS hd hg hr (k _ _ (hO.alloc o rfl) (qE.alloc Ls o rfl rfl rfl rfl))
variable{t:Ap}
theorem op_box(hS:qV a n S)(hd:Nat.blt d n=Aj)(hg:qI ops S g=Ah Aj)(hO:qK A w Ls)(hx:zV S x=Ah v)
  (k:∀ b w',qK A w' (Ls++[[(b,.cells v.cells t (0,0))]])->qE qd Ls w (Ls++[[(b,.cells v.cells t (0,0))]]) w'->∀ a',qV a' n ((d,.pointer (Ah ⟨b,0,Ai⟩))::S)->K a' w') :
  vK P ops Q ⟨Ah d,.box t x,ty,pos,af,g⟩ K a w:=
 z8R (v:=λb=>.pointer (Ah ⟨b,0,Ai⟩)) hS hd hg hO (by simp[Av,hS.eval hx,Instr.box,newVar,newRow]) k
theorem z7m{z:Am}(hS:qV a n S)(hd:Nat.blt d n=Aj)(hg:qI ops S g=Ah Aj)(hO:qK A w Ls)(hz:zHO P t=Ah z)
  (k:∀ b w',qK A w' (Ls++[[(b,.cells z.cells t (0,0))]])->qE qd Ls w (Ls++[[(b,.cells z.cells t (0,0))]]) w'->∀ a',qV a' n ((d,.pointer (Ah ⟨b,0,Ai⟩))::S)->K a' w') :
  vK P ops Q ⟨Ah d,.alloc t,ty,pos,af,g⟩ K a w:=
 z8R (v:=λb=>.pointer (Ah ⟨b,0,Ai⟩)) hS hd hg hO (by simp[Av,Instr.alloc,zL0 hz,newVar,newRow]) k
def z1r (P:Aq)(S:List (Nat×Am))(w:Ao): List ResultVar->List Am->Prop
 | [],vs=>vs=[]
 | .tmp t::r,vs=>∃ v us,vs=v::us/\yF S t=Ah v/\z1r P S w r us
 | .cell t ty::r,vs=>∃ v us b c te fr,vs=v::us/\yF S t=Ah (.pointer (Ah ⟨b,0,Ai⟩))/\w.heap[b]?=Ah (.cells c te fr)/\zKu P ty c 0=Ah v/\z1r P S w r us
theorem resN:z1r P S w [] []:=rfl
variable{r:List ResultVar}
theorem resT{t:Nat}{vs:List Am}(h:yF S t=Ah v)(k:z1r P S w r vs): z1r P S w (.tmp t::r) (v::vs):=⟨v,vs,rfl,h,k⟩
theorem resC{t ty:Nat}{vs:List Am}(hO:qK A w Ls)(i:Nat)(h:yF S t=Ah (.pointer (Ah ⟨b,0,Ai⟩)))(hr:Ls[i]?=Ah [(b,.cells c te fr)])
  (hl:zKu P ty c 0=Ah v) (k:z1r P S w r vs):z1r P S w (.cell t ty::r) (v::vs):=⟨v,vs,b,c,te,fr,rfl,h,zAj hO hr (Qh.2 rfl),hl,k⟩
theorem zXH (F:ResultVar->Sem Am)(f1:∀ t,F (.tmp t)=pure (a.tmps.getD t undef))(f2:∀ x t,F (.cell x t)=(asAddr (a.tmps.getD x undef) >>= λp=>loadVar t p))(hS:qV a n S):
  ∀ {rs:List ResultVar} {vs:List Am},z1r P S w rs vs->(rs.mapM F).run P w=.ok vs w
 | [],vs,h=>by simp only[z1r] at h;subst h;simp
 | .tmp t::r,vs,h=>by
  obtain⟨v,us,rfl,h1,h2⟩:=h;have ih:=zXH F f1 f2 hS h2;rw[List.mapM_cons,f1];simp only[Sem.run_bind,Sem.run_pure,Result.andThen_ok,hS.getD h1];rw[ih];rfl
 | .cell t ty::r,vs,h=>by
  obtain⟨v,us,b,c,te,fr,rfl,h1,h2,h3,h4⟩:=h;have ih:=zXH F f1 f2 hS h4;have ha:(asAddr (a.tmps.getD t undef)).run P w=.ok ⟨b,0,Ai⟩ w:=by rw[hS.getD h1];rfl
  rw[List.mapM_cons,f2];simp only[Sem.run_bind,Sem.run_pure,ha,Result.andThen_ok,zN8 h2 h3];rw[ih];rfl
theorem ret_g{fn:Func}{rs:List ResultVar}{vs:List Am}{R:Am->Ao->Prop}(hS:qV a n S)(hf:fn.results=rs.toArray)(h:z1r P S w rs vs)
  (hR:R (if h:vs.length=1 then vs[0] else .tuple vs.toArray) w):bodyPost P fn (Ret R) .ret a w:=by
 refine⟨hS.defers,_,?_,hR⟩;simp only[results,hf,Sem.run_bind,List.mapM_toArray,Sem.run_map];rw[zXH _ (λ_=>rfl) (λ_ _=>rfl) hS h];simp_all
def uM (P:Aq)(t:Ap): Option Nat:=
 match P.underlying t with
 | some (.slice e)=>(P.info? e).map (·.size)
 | _=>Ai
theorem zPe{t k:Nat}{b off m c:Nat}{i:Int}(h:uM P t=Ah k)(h0:0<=i)(h1:i<m)(kd:Au):
  (Instr.indexAt t (.slice (Ah ⟨b,off,Ai⟩) m c) (.int kd i)).run P w=.ok (.pointer (Ah ⟨b,off+i.toNat*k,Ai⟩)) w:=by
 unfold uM at h;split at h
 ·rename_i e hu;cases hq:P.info? e with
  | none=>grind
  | some inf=>
   have hs:inf.size=k:=by simpa [hq] using h
   simp[Instr.indexAt,asIntOf,run_underlying hu,h0,h1,sizeOf,typeInfo,hq,hs,zBg]
 ·cases h
variable{τ:Type}{e:E τ}{Z:List Nat}{i:Int}{kd:Au}
theorem z0T{p:Option Ax}{c:Nat}{l:List τ}{v:τ}
  (hS:qV a n S) (hd:Nat.blt d n=Aj) (hg:qI ops S g=Ah Aj) (hR:xL e Z w p c l) (hx:zV S x=Ah (.slice p l.length c)) (hy:zV S y=Ah (.int kd i)) (ht:uM P t=Ah e.n) (hm:zD l i=Ah v)
  (k:∀ b o,zSo e Z w ⟨b,o,Ai⟩ v->∀ a',qV a' n ((d,.pointer (Ah ⟨b,o,Ai⟩))::S)->K a' w) :
  vK P ops Q ⟨Ah d,.indexAddr t x y,ty,pos,af,g⟩ K a w:=by
 unfold zD at hm;split at hm
 ·rename_i h0;obtain⟨hlt,hv⟩:=Qk.1 hm;rcases hR.2 with rfl | ⟨b,off,cs,rfl,hb,hbl,hl,hc⟩
  ·simp at hlt
  ·obtain⟨ci,h1,h2⟩:=e.rdL_get hl hm;refine zEa hS hd hg (v:=.pointer (Ah ⟨b,off+i.toNat*e.n,Ai⟩)) (w':=w) ?_ (k b _ ⟨b,_,ci,rfl,hb,hbl,h1,λj u hu=>?_⟩)
   ·simp[Av,hS.eval hx,hS.eval hy,zPe (m:=l.length) ht h0 (by omega)]
   grind
 ·cases hm
theorem z3G{y:τ}(ag:Bool)
  (hS:qV a n S) (hd:Nat.blt d n=Aj) (hg:qI ops S g=Ah Aj) (hP:zSo e Z w ⟨b,o,Ai⟩ y) (hx:zV S x=Ah (.pointer (Ah ⟨b,o,Ai⟩))) (ht:uE P t=Ah (ag,e.n))
  (k:∀ ci,e.rd Z w ci y->∀ v,mkV ag ci=Ah v->∀ a',qV a' n ((d,v)::S)->K a' w) (hag:ag=Aj\/e.n=1) :
  vK P ops Q ⟨Ah d,.load t x,ty,pos,af,g⟩ K a w:=by
 obtain⟨b',o',ci,he,hb,hbl,h1,h2⟩:=hP;cases he;have hl:=e.len h1;have hv:∃ v,mkV ag ci=Ah v:=by
  rcases hag with rfl | hn
  ·exact⟨_,rfl⟩
  ·cases ag with
   | true=>exact⟨_,rfl⟩
   | false=>match ci,hl.trans hn with | [u],_=>exact⟨u,rfl⟩
 obtain⟨v,hv⟩:=hv;refine zEa hS hd hg (v:=v) (w':=w) ?_ (k ci h1 v hv);simp[Av,hS.eval hx,Instr.loadAt,Instr.sureAddr,zDV (cs:=ci) (by rw[hl];exact ht) h2 hv]
variable{s:zA}
theorem ba_get{k:Nat}{u:UInt8}(h:s[k]?=Ah u): (ByteArray.mk s.toArray)[k]?=Ah u:=by
 obtain⟨hlt,hv⟩:=Qk.1 h;have hsz:k<(ByteArray.mk s.toArray).size:=by simpa [ByteArray.size] using hlt
 rw[getElem?_pos (ByteArray.mk s.toArray) k hsz];show Ah ((s.toArray)[k]'(by grind))=Ah u;simp[hv]
theorem z1g{b:Int}{d:Option Tmp}(hS:qV a n S)(hx:zV S x=Ah (vs s))(hy:zV S y=Ah (.int kd i))(hu:P.underlying t=Ah .string)(hm:vR s i=Ah b)(w:Ao):
  (Av a.eval ⟨d,.index t x y,ty,pos,af,g⟩).run P w=.ok (.value (.int .u8 b)) w:=by
 unfold vR at hm;split at hm
 ·rename_i h0;cases hs:s[i.toNat]? with
  | none=>grind
  | some u=>
   simp only[hs,Uh,Qf] at hm;subst hm;have hb:(ByteArray.mk s.toArray)[i.toNat]?=Ah u:=ba_get hs;simp[Av,hS.eval hx,hS.eval hy,Instr.index,asIntOf,run_underlying hu,h0,hb]
 ·cases hm
theorem zPq{u:Ap}{p q r:zA}{d:Option Tmp}(hS:qV a n S)(hx:zV S x=Ah (vs p))(hy:zV S y=Ah (vs q))(hm:qA p q=Ah r)(w:Ao):
  (Av a.eval ⟨d,.binOp .add t x y u,ty,pos,af,g⟩).run P w=.ok (.value (vs r)) w:=by
 unfold qA at hm;split at hm
 ·rename_i h0;simp only[Qf] at hm;subst hm;have hsz:¬ (Au.i64.max<(((ByteArray.mk p.toArray).size+(ByteArray.mk q.toArray).size:Nat):Int)):=by
   have:Au.i64.max=9223372036854775807:=rfl;simp only[this,ByteArray.size,QX];omega
  have happ:(ByteArray.mk p.toArray)++(ByteArray.mk q.toArray)=ByteArray.mk (p++q).toArray:=by
   apply ByteArray.ext;simp[ByteArray.data_append]
  have hrun:(binOp .add t (vs p) (vs q)).run P w=.ok (vs (p++q)) w:=by
   simp only[binOp,Op.stringOp,vs];rw[Qa hsz,happ];rfl
  simp[Av,hS.eval hx,hS.eval hy,zQV,hrun]
 ·cases hm
def Bd (v:Option Am)(i dflt:Int): Prop:=(v=Ai/\i=dflt)\/∃ k,v=Ah (.int k i)
theorem zL5{b:Bool}{m c:Nat}{lo hi:Option Am}{i j:Int}(h1:Bd lo i 0)(h2:Bd hi j m)(h0:0<=i)(hij:i<=j)(hj:j<=c):
  (Instr.sliceBounds b m c lo hi Ai).run P w=.ok (i.toNat,j.toNat,c) w:=by
 have h0j:0<=j:=by omega
 rcases h1 with⟨rfl,rfl⟩ | ⟨k1,rfl⟩ <;> rcases h2 with⟨rfl,rfl⟩ | ⟨k2,rfl⟩ <;>
  simp[Instr.sliceBounds,Instr.sliceBound,asIntOf,h0,hj,h0j]
 ·omega
 ·omega
def zSW (S:List (Nat×Am)): Option As->Option (Option Am)
 | none=>Ah Ai
 | some x=>(zV S x).map Ah
theorem qV.evalO{a:Ay}{n:Nat}{S:List (Nat×Am)}(h:qV a n S){x:Option As}{v:Option Am}(hx:zSW S x=Ah v): x.map a.eval=v:=by
 cases x with
 | none=>simpa [zSW] using hx
 | some x=>
  simp only[zSW,Q9] at hx;obtain⟨u,hu,rfl⟩:=hx;simp[h.eval hu]
theorem z3A (s:zA)(i j:Nat): (ByteArray.mk s.toArray).extract i j=ByteArray.mk ((s.take j).drop i).toArray:=by
 apply ByteArray.ext;simp[Ud]
theorem zYL{lo hi:Option As}{vlo vhi:Option Am}{r:zA}{j:Int}{d:Option Tmp}(hS:qV a n S)(hx:zV S x=Ah (vs s))(hu:P.underlying t=Ah .string)
  (hlo:zSW S lo=Ah vlo) (hhi:zSW S hi=Ah vhi) (bl:Bd vlo i 0) (bh:Bd vhi j s.length) (hm:sub s i j=Ah r) (w:Ao) :
  (Av a.eval ⟨d,.slice t x lo hi Ai,ty,pos,af,g⟩).run P w=.ok (.value (vs r)) w:=by
 unfold sub at hm;split at hm
 ·rename_i h0;simp only[Qf] at hm;obtain⟨h1,h2,h3⟩:=h0;subst hm;have hsz:(ByteArray.mk s.toArray).size=s.length:=by simp[ByteArray.size]
  have hb:=zL5 (P:=P) (w:=w) (b:=Ak) (m:=s.length) (c:=s.length) bl bh h1 h2 h3;simp[Av,hS.eval hx,hS.evalO hlo,hS.evalO hhi,Instr.sliceAt,Instr.slice,run_underlying hu,hsz,hb,z3A]
 ·cases hm
end
end
section
open Go Go.RowKit
variable {qd:Prop}
section
variable {P:Aq}{ops:Array Oper}{Q:Exit->Ay->Ao->Prop}
def z6a (ops:Array Oper)(listed:Array Bool): Bool:=
 (List.range ops.size).all λj=>!listed.getD j Ak||match ops[j]? with
  | some oj=>oj.after.all λe=>!Region.binds .any e||listed.getD e.on Ak
  | none=>Aj
structure zQn (ops:Array Oper)(listed:Array Bool): Prop where
 size:listed.size=ops.size
 deps:∀ j oj,ops[j]?=Ah oj->listed.getD j Ak=Aj->∀ e∈oj.after,Region.binds .any e=Aj->listed.getD e.on Ak=Aj
theorem z66{listed:Array Bool}(hs:listed.size=ops.size)(h:z6a ops listed=Aj): zQn ops listed:=by
 refine⟨hs,λj oj hj hl e he hb=>?_⟩;have hlt:j<ops.size:=(Qz.1 hj).1;have h1:=QR.1 h j (List.mem_range.2 hlt);simp only[hl,QG,Bool.false_or,hj] at h1;grind [Array.all_eq_true']
theorem zQn.set{listed:Array Bool}{i:Nat}(h:zQn ops listed)(hr:i∈Region.ready .any ops listed): zQn ops (listed.setIfInBounds i Aj):=by
 obtain⟨_,oi,hoi,hall⟩:=mem_ready.1 hr;refine⟨by simp[h.size],λj oj hj hl e he hb=>?_⟩;by_cases hij:i=j
 ·grind [getD_set_true]
 ·rw[getD_set_ne Ak hij] at hl;exact getD_set_true (h.deps j oj hj hl e he hb)
def behind (ops:Array Oper)(i:Nat): Nat->Nat->Bool
 | 0,_=>Ak
 | f+1,j=>match ops[j]? with
  | some oj=>oj.after.any λe=>Region.binds .any e&&(e.on==i||behind ops i f e.on)
  | none=>Ak
variable{i:Nat}
theorem zQA{listed:Array Bool}(hc:zQn ops listed): ∀(f j:Nat),behind ops i f j=Aj->listed.getD j Ak=Aj->listed.getD i Ak=Aj
 | 0,j,h,_=>by simp[behind] at h
 | f+1,j,h,hl=>by
  simp only[behind] at h;split at h
  ·rename_i oj hj;obtain⟨e,he,hb⟩:=Array.any_eq_true'.1 h;simp only[Qc,Ub,QJ] at hb;have h1:=hc.deps j oj hj hl e he hb.1;rcases hb.2 with h2 | h2
   ·grind
   ·exact zQA hc f e.on h2 h1
  ·cases h
variable {S:Array Bool->Ao->Prop}
def wV (P:Aq)(ops:Array Oper)(Q:Exit->Ay->Ao->Prop)(S:Array Bool->Ao->Prop): Nat->Array Bool->Ay->Ao->Prop
 | 0,listed,a,w=>Region.ready .any ops listed=[]/\Q .normal a w
 | fuel+1,listed,a,w=>
  (Region.ready .any ops listed=[]->Q .normal a w) /\
  ∀ i∈Region.ready .any ops listed,wpOp P ops Q i (λa' w'=>S (listed.setIfInBounds i Aj) w'/\wV P ops Q S fuel (listed.setIfInBounds i Aj) a' w') a w
theorem zWR:∀(fuel:Nat) (listed:Array Bool) (a:Ay) (w:Ao),wV P ops Q S fuel listed a w->wpAny P .any ops Q fuel listed a w
 | 0,_,_,_,h=>h
 | fuel+1,_,_,_,h=>⟨h.1,λi hi=>wpOp_mono (λa' w' h'=>zWR fuel _ a' w' h'.2) (h.2 i hi)⟩
theorem zSu{S':Array Bool->Ao->Prop}: ∀(fuel:Nat) (listed:Array Bool) (a:Ay) (w:Ao),
  (∀ l w,(∀ k,listed.getD k Ak=Aj->l.getD k Ak=Aj)->S' l w->S l w)->wV P ops Q S' fuel listed a w->wV P ops Q S fuel listed a w
 | 0,_,_,_,_,h=>h
 | fuel+1,_,_,_,hs,h=>⟨h.1,λi hi=>wpOp_mono (λa' w' h'=>⟨hs _ _ (λ_ hk=>getD_set_true hk) h'.1,
   zSu fuel _ a' w' (λl w hl=>hs l w λk hk=>hl k (getD_set_true hk)) h'.2⟩) (h.2 i hi)⟩
def zHU (P:Aq)(ops:Array Oper)(S:Array Bool->Ao->Prop)(i:Nat)(o:Oper)(v:Am)(a:Ay): Prop:=
 (Region.wanted o (yielded ops a.tmps)=Aj/\∀ listed w,zQn ops listed->listed.getD i Aj=Ak->S listed w->(Av a.eval o).run P w=.ok (.value v) w) \/
 (Region.wanted o (yielded ops a.tmps)=Ak/\v=undef)
theorem zHU.wpOp{i:Nat}{o:Oper}{v:Am}{a:Ay}(hi:ops[i]?=Ah o)(hy:zHU P ops S i o v a){listed:Array Bool}(hc:zQn ops listed)(hun:listed.getD i Aj=Ak)
  {K:Ay->Ao->Prop} {w:Ao} (hS:S listed w) (h:K (a.put o.dst v) w):wpOp P ops Q i K a w:=by
 unfold Go.wpOp;simp only[hi];rcases hy with⟨hw,hv⟩ | ⟨hw,rfl⟩
 ·simp only[hw,Qx,Oper.wp,hv listed w hc hun hS,Oper.upon];grind
 grind
theorem zHU.of_same{i:Nat}{o:Oper}{v:Am}{a a':Ay}(hy:zHU P ops S i o v a)(he:Av a'.eval o=Av a.eval o)
  (hw:Region.wanted o (yielded ops a'.tmps)=Region.wanted o (yielded ops a.tmps)):zHU P ops S i o v a':=by grind [zHU]
variable{j:Nat}{oi:Oper}{v:Am}
theorem z3l{oj:Oper}(hj:ops[j]?=Ah oj)(hap:oi.apart ops oj=Aj)
  (hsi:∀ cs b,oi.op≠.select cs b) (hsj:∀ cs b,oj.op≠.select cs b)
  (hQ:∀ c a w,Q (.panic c) (a.put oi.dst v) w->Q (.panic c) a w) {K:Ay->Ao->Prop} {a:Ay} {w:Ao}
  (hy:zHU P ops S i oi v a) (h:wpOp P ops Q j K (a.put oi.dst v) w) :
  wpOp P ops Q j (λa' w'=>zHU P ops S i oi v a'/\K (a'.put oi.dst v) w') a w:=by
 obtain⟨h1,h2,h3⟩:=Oper.apart_spec hap;have keep:∀(a:Ay),zHU P ops S i oi v a->∀ u,zHU P ops S i oi v (a.put oj.dst u):=λa hy u=>
  hy.of_same (execOp_put oi hsi a oj.dst u h3) (wanted_put oi a oj.dst u h3)
 have keepD:∀ d,zHU P ops S i oi v { a with defers:=d::a.defers }:=λd=>hy.of_same rfl rfl;unfold wpOp at *;simp only[hj] at *;rw[wanted_put oj a oi.dst v h1] at h;split
 ·rename_i hw;simp only[hw,Qx] at h;rcases h with h | ⟨hasks,hlets⟩;case inr=>exact .inr ⟨by unfold Oper.asks at *;rw[execOp_put oj hsj a oi.dst v h1] at hasks;exact hasks,hlets⟩
  refine .inl ?_;unfold Oper.wp at *;rw[execOp_put oj hsj a oi.dst v h1] at h;generalize (Av a.eval oj).run P w=r at *;cases r with
  | ok n w'=>
   cases n <;> simp only[Oper.upon] at h ⊢;case value u=>grind [Ay.put_comm]
   case skip=>grind [Ay.put_comm]
   case defer d=>
    grind [Ay.put_comm,Ay.put_defers]
   case enter f args=>
    refine Calls.mono h λe w'' he=>?_;grind [Ay.put_comm]
   grind [Ay.put_comm]
  | halt x w'=>
   cases x <;> simp only[Oper.upon] at h ⊢;grind
 grind [Ay.put_comm]
theorem z4h(hi:ops[i]?=Ah oi)(hsel:∀(j:Nat) (o:Oper) cs b,ops[j]?=Ah o->o.op≠.select cs b)
  (hQ:∀ c a w,Q (.panic c) (a.put oi.dst v) w->Q (.panic c) a w) (hSi:∀ l w,S (l.setIfInBounds i Aj) w↔S l w) :
  ∀(fuel:Nat) (listed:Array Bool) (a:Ay) (w:Ao),
   (∀ j oj,ops[j]?=Ah oj->j≠i->listed.getD j Aj=Ak->(∀ e∈oj.after,Region.binds .any e=Aj->e.on≠i)->oi.apart ops oj=Aj)->
   zQn ops listed->i∈Region.ready .any ops listed->zHU P ops S i oi v a->S listed w->
   wV P ops Q S fuel (listed.setIfInBounds i Aj) (a.put oi.dst v) w->wV P ops Q S (fuel+1) listed a w:=by
 intro fuel;induction fuel with
 | zero=>
  intro listed a w _ hc hr hy hS H;have hun:=(mem_ready.1 hr).1;refine⟨λh=>(by grind),λj hj=>?_⟩;by_cases hji:j=i
  ·subst hji;exact hy.wpOp hi hc hun hS ⟨(hSi _ _).2 hS,H⟩
  ·have:=ready_mono hj hji;grind [wV]
 | succ fuel ih=>
  intro listed a w hfree hc hr hy hS H;have hun:=(mem_ready.1 hr).1;refine⟨λh=>(by grind),λj hj=>?_⟩;by_cases hji:j=i
  ·subst hji;exact hy.wpOp hi hc hun hS ⟨(hSi _ _).2 hS,H⟩
  ·have h1:=H.2 j (ready_mono hj hji);obtain⟨hjun,oj,hoj,hall⟩:=mem_ready.1 hj;have hnot:∀ e∈oj.after,Region.binds .any e=Aj->e.on≠i:=λe he hb heq=>by
    have h1:=hall e he hb;grind
   have h2:=z3l hoj (hfree j oj hoj hji hjun hnot) (λcs b=>hsel i oi cs b hi) (λcs b=>hsel j oj cs b hoj) hQ hy h1;have hfree':∀ k ok,ops[k]?=Ah ok->k≠i->(listed.setIfInBounds j Aj).getD k Aj=Ak->
     (∀ e∈ok.after,Region.binds .any e=Aj->e.on≠i)->oi.apart ops ok=true:=λk ok hk hki hun hno=>by
    refine hfree k ok hk hki ?_ hno;by_cases hjk:j=k
    ·grind
    ·rw[getD_set_ne Aj hjk] at hun;exact hun
   have hcomm:(listed.setIfInBounds i Aj).setIfInBounds j Aj=(listed.setIfInBounds j Aj).setIfInBounds i true:=Array.setIfInBounds_comm _ _ (Ne.symm hji);refine wpOp_mono (λa' w' h3=>?_) h2;have hSj:S (listed.setIfInBounds j Aj) w':=(hSi _ _).1 (hcomm▸h3.2.1);exact⟨hSj,ih (listed.setIfInBounds j Aj) a' w' hfree' (hc.set hj) (ready_mono hr (Ne.symm hji)) h3.1 hSj (hcomm▸h3.2.2)⟩
def SB (B:List Nat)(C:Ao->Prop)(listed:Array Bool)(w:Ao): Prop:=B.all (λj=>!listed.getD j Ak)=Aj->C w
def CC (qd:Prop)(A:List Nat)(Ls:List zK)(w0:Ao)(J:List Nat): Ao->Prop:=λw=>∃ Ls',qK A w Ls'/\qE qd Ls w0 Ls' w/\J.map (Ls'[·]?)=J.map (Ls[·]?)
theorem CC.here{A:List Nat}{Ls:List zK}{w:Ao}(hO:qK A w Ls)(J:List Nat): CC qd A Ls w J w:=⟨Ls,hO,qE.refl _ _,rfl⟩
theorem z4x{B:List Nat}{C:Ao->Prop}(hi:B.contains i=Ak)(l:Array Bool)(w:Ao): SB B C (l.setIfInBounds i Aj) w↔SB B C l w:=by
 have:B.all (λj=>!(l.setIfInBounds i Aj).getD j Ak)=B.all (λj=>!l.getD j Ak):=by
  rw[UK,QR,QR];refine⟨λh j hj=>?_,λh j hj=>?_⟩
  ·have hne:i≠j:=λe=>by grind
   have:=h j hj;simp_all
  ·have hne:i≠j:=λe=>by grind
   simp_all
 grind [SB]
def uG (ops:Array Oper)(B:List Nat)(listed:Array Bool)(i:Nat): Bool:=
 Region.noSelect ops&&Region.free .any ops listed i&&(Region.ready .any ops listed).contains i&&z6a ops listed&&listed.size==ops.size&&!B.contains i
variable {a:Ay}{n:Nat}{St:List (Nat×Am)}{w:Ao}{A:List Nat}{Ls:List zK}{B J:List Nat}{listed:Array Bool}{fuel:Nat}
theorem z5d{id:Nat}{l:List Oper}(hm:P.follows .mixedOrders=Aj)(B J:List Nat)(hO:qK A w Ls)
  (h:∀ w',qK A w' Ls->qE qd Ls w Ls w'->wV P l.toArray Q (SB B (CC qd A Ls w' J)) l.length (Array.replicate l.length Ak) a w'):(Code.region id l.toArray Aj).wp P Q a w:=by
 refine wp_region_any hm (zWR (S:=SB B (CC qd A Ls { w with drawn:=w.drawn+1 } J)) _ _ _ _ ?_);have hh:=h { w with drawn:=w.drawn+1 } ⟨hO.old,hO.has,hO.nodup,hO.apart⟩ ⟨rfl,rfl,rfl,λ_=>Uu _,Qd _,λ_ _ _=>rfl,λ_ hb=>.inl hb⟩;grind
theorem d_end (hr:Region.ready .any ops listed=[])(h:Q .normal a w): ∀ fuel,wV P ops Q (SB B (CC qd A Ls w J)) fuel listed a w
 | 0=>⟨hr,h⟩
 | _+1=>⟨λ_=>h,by grind⟩
variable{op:Op}{ty:Ap}{pos:String}{af:Array Edge}{g:Option (Nat×Bool)}
theorem zSz{d:Nat}(hO:qK A w Ls)(hS:qV a n St)
  (hi:ops[i]?=Ah ⟨Ah d,op,ty,pos,af,g⟩) (hk:uG ops B listed i=Aj) (hd:Nat.blt d n=Aj) (hQ:∀ c a w,Q (.panic c) (a.put (Ah d) v) w->Q (.panic c) a w)
  (hy:zHU P ops (SB B (CC qd A Ls w J)) i ⟨Ah d,op,ty,pos,af,g⟩ v a)
  (k:∀ a',qV a' n ((d,v)::St)->wV P ops Q (SB B (CC qd A Ls w J)) fuel (listed.setIfInBounds i Aj) a' w):wV P ops Q (SB B (CC qd A Ls w J)) (fuel+1) listed a w:=by
 simp only[uG,Qc,QJ,Bool.not_eq_true'] at hk;obtain⟨⟨⟨⟨⟨h1,h2⟩,h3⟩,h4⟩,h5⟩,h6⟩:=hk;exact z4h hi (Region.noSelect_spec h1) hQ (z4x h6) fuel listed a w (Region.free_spec hi h2) (z66 h5 h4) (by grind) hy
  (λ_=>CC.here hO J) (k _ (hS.put hd v))
theorem d_pure (i:Nat){d:Nat}(v:Am)(hO:qK A w Ls)(hS:qV a n St)
  (hi:ops[i]?=Ah ⟨Ah d,op,ty,pos,af,g⟩) (hk:uG ops B listed i=Aj) (hd:Nat.blt d n=Aj) (hQ:∀ c a w,Q (.panic c) (a.put (Ah d) v) w->Q (.panic c) a w)
  (hg:qI ops St g=Ah Aj) (hv:pv P St op=Ah v)
  (k:∀ a',qV a' n ((d,v)::St)->wV P ops Q (SB B (CC qd A Ls w J)) fuel (listed.setIfInBounds i Aj) a' w):wV P ops Q (SB B (CC qd A Ls w J)) (fuel+1) listed a w:=
 zSz hO hS hi hk hd hQ (.inl ⟨zEI (o:=⟨Ah d,op,ty,pos,af,g⟩) hS hg,λ_ w' _ _ _=>zVv hS hv _ _ _ _ _ w'⟩) k
theorem z6g (i:Nat){d:Nat}(hO:qK A w Ls)(hS:qV a n St)
  (hi:ops[i]?=Ah ⟨Ah d,op,ty,pos,af,g⟩) (hk:uG ops B listed i=Aj) (hd:Nat.blt d n=Aj) (hQ:∀ c a w,Q (.panic c) (a.put (Ah d) v) w->Q (.panic c) a w)
  (hg:qI ops St g=Ah Aj) (hv:∀ w',(Av a.eval ⟨Ah d,op,ty,pos,af,g⟩).run P w'=.ok (.value v) w')
  (k:∀ a',qV a' n ((d,v)::St)->wV P ops Q (SB B (CC qd A Ls w J)) fuel (listed.setIfInBounds i Aj) a' w):wV P ops Q (SB B (CC qd A Ls w J)) (fuel+1) listed a w:=
 zSz hO hS hi hk hd hQ (.inl ⟨zEI (o:=⟨Ah d,op,ty,pos,af,g⟩) hS hg,λ_ w' _ _ _=>hv w'⟩) k
theorem d_skip (i:Nat){d:Nat}(hO:qK A w Ls)(hS:qV a n St)
  (hi:ops[i]?=Ah ⟨Ah d,op,ty,pos,af,g⟩) (hk:uG ops B listed i=Aj) (hd:Nat.blt d n=Aj) (hQ:∀ c a w,Q (.panic c) (a.put (Ah d) undef) w->Q (.panic c) a w)
  (hg:qI ops St g=Ah Ak)
  (k:∀ a',qV a' n ((d,undef)::St)->wV P ops Q (SB B (CC qd A Ls w J)) fuel (listed.setIfInBounds i Aj) a' w):wV P ops Q (SB B (CC qd A Ls w J)) (fuel+1) listed a w:=
 zSz hO hS hi hk hd hQ (.inr ⟨zEI (o:=⟨Ah d,op,ty,pos,af,g⟩) hS hg,rfl⟩) k
variable{l:Array Bool}
theorem zWu(hb:B.all (λj=>behind ops i ops.size j)=Aj)(hc:zQn ops l)(hun:l.getD i Aj=Ak): B.all (λj=>!l.getD j Ak)=true:=by grind [zQA]
theorem z64{J:List Nat}{L L':List zK}(h:J.map (L'[·]?)=J.map (L[·]?))(hj:J.contains j=Aj): L'[j]?=L[j]?:=by simp_all
variable{x:As}{b o:Nat}
theorem z2r (i r:Nat){d:Nat}{t:Nat}{c:Array Am}{te:Ap}{fr:Nat×Nat}(hO:qK A w Ls)(hS:qV a n St)
  (hi:ops[i]?=Ah ⟨Ah d,.load t x,ty,pos,af,g⟩) (hk:uG ops B listed i=Aj) (hd:Nat.blt d n=Aj) (hQ:∀ c a w,Q (.panic c) (a.put (Ah d) v) w->Q (.panic c) a w)
  (hg:qI ops St g=Ah Aj) (hb:B.all (λj=>behind ops i ops.size j)=Aj) (hJ:J.contains r=Aj)
  (hx:zV St x=Ah (.pointer (Ah ⟨b,o,Ai⟩))) (hr:Ls[r]?=Ah [(b,.cells c te fr)]) (hv:zKu P t c o=Ah v)
  (k:∀ a',qV a' n ((d,v)::St)->wV P ops Q (SB B (CC qd A Ls w J)) fuel (listed.setIfInBounds i Aj) a' w):wV P ops Q (SB B (CC qd A Ls w J)) (fuel+1) listed a w:=by
 refine zSz hO hS hi hk hd hQ (.inl ⟨zEI (o:=⟨Ah d,.load t x,ty,pos,af,g⟩) hS hg,λl w' hc hun hSw=>?_⟩) k;obtain⟨Ls',hO',_,hJ'⟩:=hSw (zWu hb hc hun);have hr':Ls'[r]?=Ah [(b,.cells c te fr)]:=by rw[z64 hJ' hJ];exact hr
 simp[Av,hS.eval hx,Instr.loadAt,Instr.sureAddr,zN8 (zAj hO' hr' (Qh.2 rfl)) hv]
variable{τ:Type}{e:E τ}{t:Ap}
theorem z2s (i:Nat){Z:List Nat}{p:Option Ax}{c:Nat}{l:List τ}{ix:Int}{u:τ}{y:As}{kd:Au}{d:Nat}
  (hO:qK A w Ls) (hS:qV a n St) (hi:ops[i]?=Ah ⟨Ah d,.indexAddr t x y,ty,pos,af,g⟩) (hk:uG ops B listed i=Aj) (hd:Nat.blt d n=Aj) (hQ:∀ c (v:Am) a w,Q (.panic c) (a.put (Ah d) v) w->Q (.panic c) a w)
  (hg:qI ops St g=Ah Aj) (hR:xL e Z w p c l) (hx:zV St x=Ah (.slice p l.length c)) (hy:zV St y=Ah (.int kd ix)) (ht:uM P t=Ah e.n) (hm:zD l ix=Ah u)
  (k:∀ b o,zSo e Z w ⟨b,o,Ai⟩ u->∀ a',qV a' n ((d,.pointer (Ah ⟨b,o,Ai⟩))::St)->wV P ops Q (SB B (CC qd A Ls w J)) fuel (listed.setIfInBounds i Aj) a' w):wV P ops Q (SB B (CC qd A Ls w J)) (fuel+1) listed a w:=by
 unfold zD at hm;split at hm
 ·rename_i h0;obtain⟨hlt,hv⟩:=Qk.1 hm;rcases hR.2 with rfl | ⟨b,off,cs,rfl,hb,hbl,hl,hc⟩
  ·simp at hlt
  ·obtain⟨ci,h1,h2⟩:=e.rdL_get hl hm;refine zSz hO hS hi hk hd (λc=>hQ c _) (.inl ⟨zEI (o:=⟨Ah d,.indexAddr t x y,ty,pos,af,g⟩) hS hg,λl' w' _ _ _=>?_⟩) (k b (off+ix.toNat*e.n) ⟨b,_,ci,rfl,hb,hbl,h1,λj u hu=>?_⟩)
   ·simp[Av,hS.eval hx,hS.eval hy,zPe (m:=l.length) ht h0 (by omega)]
   grind
 ·cases hm
theorem z61 (i:Nat){y:τ}(ag:Bool){d:Nat}
  (hO:qK A w Ls) (hS:qV a n St) (hi:ops[i]?=Ah ⟨Ah d,.load t x,ty,pos,af,g⟩) (hk:uG ops B listed i=Aj) (hd:Nat.blt d n=Aj) (hQ:∀ c (v:Am) a w,Q (.panic c) (a.put (Ah d) v) w->Q (.panic c) a w)
  (hg:qI ops St g=Ah Aj) (hb:B.all (λj=>behind ops i ops.size j)=Aj) (hP:zSo e (bl Ls++A) w ⟨b,o,Ai⟩ y) (hx:zV St x=Ah (.pointer (Ah ⟨b,o,Ai⟩))) (ht:uE P t=Ah (ag,e.n))
  (k:∀ ci,e.rd (bl Ls++A) w ci y->∀ v,mkV ag ci=Ah v->∀ a',qV a' n ((d,v)::St)->wV P ops Q (SB B (CC qd A Ls w J)) fuel (listed.setIfInBounds i Aj) a' w) (hag:ag=Aj\/e.n=1) :
  wV P ops Q (SB B (CC qd A Ls w J)) (fuel+1) listed a w:=by
 obtain⟨b',o',ci,he,hbn,hbl,h1,h2⟩:=hP;cases he;have hl:=e.len h1;have hv:∃ v,mkV ag ci=Ah v:=by
  rcases hag with rfl | hn
  ·exact⟨_,rfl⟩
  ·cases ag with
   | true=>exact⟨_,rfl⟩
   | false=>match ci,hl.trans hn with | [u],_=>exact⟨u,rfl⟩
 obtain⟨v,hv⟩:=hv;refine zSz hO hS hi hk hd (λc=>hQ c _) (.inl ⟨zEI (o:=⟨Ah d,.load t x,ty,pos,af,g⟩) hS hg,λl w' hc hun hSw=>?_⟩) (k ci h1 v hv);obtain⟨Ls',_,hE',_⟩:=hSw (zWu hb hc hun);have hkeep:=hE'.keep b hbl (λhm=>hbn (Qj.2 (.inl hm)));simp[Av,hS.eval hx,Instr.loadAt,Instr.sureAddr,zDV (cs:=ci) (by rw[hl];exact ht) (λj u hu=>by rw[Ao.cell?_of_block (w:=w) hkeep];exact h2 j u hu) hv]
theorem d_one (i:Nat)(hr:Region.ready .any ops listed=[i])(hi:ops[i]?=Ah oi)
  (h:vK P ops Q oi (λa' w'=>SB B (CC qd A Ls w J) (listed.setIfInBounds i Aj) w'/\wV P ops Q (SB B (CC qd A Ls w J)) fuel (listed.setIfInBounds i Aj) a' w') a w):wV P ops Q (SB B (CC qd A Ls w J)) (fuel+1) listed a w:=by
 refine⟨λh0=>(by grind),λj hj=>?_⟩;rw[hr] at hj;simp only[Qh] at hj;subst hj;unfold wpOp;simp only[hi];unfold vK at h;grind
variable{Ls':List zK}{w':Ao}
theorem d_next(hO:qK A w' Ls')(hE:qE qd Ls w Ls' w')(hJ:J.map (Ls'[·]?)=J.map (Ls[·]?))
  (h:wV P ops Q (SB B (CC qd A Ls' w' J)) fuel l a w'):SB B (CC qd A Ls w J) l w'/\wV P ops Q (SB B (CC qd A Ls w J)) fuel l a w':=by
 refine And.intro (λ_=>⟨Ls',hO,hE,hJ⟩) (zSu fuel l a w' ?_ h);intro l2 w2 _ hs hb;obtain⟨L2,h1,h2,h3⟩:=hs hb;exact⟨L2,h1,hE.trans h2,h3.trans hJ⟩
theorem z9f(B' J':List Nat)(hb:B.all (λj=>!l.getD j Ak)=Ak)
  (h:wV P ops Q (SB B' (CC qd A Ls' w' J')) fuel l a w'):SB B (CC qd A Ls w J) l w'/\wV P ops Q (SB B (CC qd A Ls w J)) fuel l a w':=by
 grind [zSu,SB]
end
end
section
open Go Go.RowKit
variable {qd:Prop}
def yS{τ:Type}(e:E τ)(t:Ap)(Z:List Nat)(w:Ao)(r:zK)(p:Option Ax)(c:Nat)(l:List τ): Prop:=
 (r=[]/\p=Ai/\c=0/\l=[]) \/
 ∃ b o cells,r=[(b,.cells cells t (0,0))]/\p=Ah ⟨b,o,Ai⟩/\l.length<=c/\c<=maxLen/\o+c*e.n<=cells.size/\e.rdL Z w ((cells.toList.drop o).take (l.length*e.n)) l
def Src{τ:Type}(e:E τ)(Z:List Nat)(w:Ao)(p:Option Ax)(l:List τ): Prop:=
 l=[]\/∃ b off cs,p=Ah ⟨b,off,Ai⟩/\e.rdL Z w cs l/\∀ j u,cs[j]?=Ah u->w.cell? ⟨b,off+j,Ai⟩=Ah u
section
variable {τ:Type}{e:E τ}{t:Ap}{Z Z':List Nat}{w w':Ao}{r:zK}{p:Option Ax}{c:Nat}{l:List τ}{A:List Nat}{Ls:List zK}
theorem yS.mv (h:yS e t Z w r p c l)(s:yB Z w Z' w'): yS e t Z' w' r p c l:=by
 rcases h with h | ⟨b,o,cells,h1,h2,h3,h4,h5,h6⟩
 ·exact .inl h
 ·exact .inr ⟨b,o,cells,h1,h2,h3,h4,h5,e.rdL_step s h6⟩
theorem yS.mk0 (b:Nat)(cells:Array Am)(h1:r=[(b,.cells cells t (0,0))])(h2:p=Ah ⟨b,0,Ai⟩)(h3:l.length<=c)(h4:c<=maxLen)(h5:cells.size=c*e.n)(h6:e.rdL Z w (cells.toList.take (l.length*e.n)) l): yS e t Z w r p c l:=
 .inr ⟨b,0,cells,h1,h2,h3,h4,by grind,h6⟩
theorem yS.nil:yS e t Z w [] Ai 0 []:=.inl ⟨rfl,rfl,rfl,rfl⟩
theorem xL.src (h:xL e Z w p c l): Src e Z w p l:=by grind [xL,Src]
theorem yS.src (h:yS e t Z w r p c l)(hO:qK A w Ls){i:Nat}(hr:Ls[i]?=Ah r): Src e Z w p l:=by
 rcases h with⟨_,_,_,h⟩ | ⟨b,o,cells,rfl,rfl,h3,h4,h5,h6⟩
 ·exact .inl h
 ·refine .inr ⟨b,o,_,rfl,h6,λj u hu=>?_⟩;have hb:=zAj hO hr (Qh.2 rfl);grind [cell_of_row]
theorem z6h{i:Nat}: ∀ b∈bl (Ls.set i [])++A,b∈bl Ls++A:=by
 intro b hb;rcases Qj.1 hb with h | h
 ·rcases zD2 h with⟨p,hp,_⟩ | ⟨j,s,_,hs,p,hp,rfl⟩
  ·cases hp
  grind [zBl]
 grind
theorem yB.dropped (i:Nat)(Ls:List zK)(A:List Nat)(w:Ao): yB (bl Ls++A) w (bl (Ls.set i [])++A) w:=yB.less w z6h
theorem qK.dropped (hO:qK A w Ls)(i:Nat): qK A w (Ls.set i []):=by
 cases hr:Ls[i]? with
 | none=>
  grind [List.set_eq_of_length_le]
 | some r=>exact hO.set hr (Qd _) (λ_ _ _=>rfl) (by simp) (by simp) (by simp)
theorem qE.dropped{L:List zK}{w0:Ao}(h:qE qd L w0 Ls w)(i:Nat): qE qd L w0 (Ls.set i []) w:=h.drop λb hb=>by
 rcases zD2 hb with⟨p,hp,_⟩ | ⟨j,s,_,hs,p,hp,rfl⟩
 ·cases hp
 ·exact zBl hs hp
theorem yS.share (h:yS e t (bl Ls++A) w r p c l)(hO:qK A w Ls){i:Nat}(hr:Ls[i]?=Ah r): xL e (bl (Ls.set i [])++A) w p c l:=by
 rcases h with⟨_,_,_,rfl⟩ | ⟨b,o,cells,rfl,rfl,h3,h4,h5,h6⟩
 ·exact⟨QT _,.inl rfl⟩
 ·have hb:=zAj hO hr (Qh.2 rfl);refine⟨h3,.inr ⟨b,o,_,rfl,λhm=>?_,(Qz.1 hb).1,e.rdL_step (yB.dropped i Ls A w) h6,λj u hu=>?_⟩⟩
  ·rcases Qj.1 hm with hm | hm
   ·rcases zD2 hm with⟨q,hq,_⟩ | ⟨j,s,hj,hs,q,hq,he⟩
    ·cases hq
    ·exact zEm hO.nodup hr hs (λe=>hj e.symm) _ (Qh.2 rfl) q hq he.symm
   ·exact hO.apart b (zBl hr (Qh.2 rfl)) hm
  grind [cell_of_row]
theorem qK.room (hO:qK A w Ls): qK A w (Ls++[[]]):=
 ⟨hO.old,λs hs p hp=>(by rcases Qj.1 hs with h | h;exact hO.has s h p hp;grind),(by rw[zBv];simpa [bl] using hO.nodup),λb hb=>(by
  rw[zBv] at hb;simp[bl] at hb;exact hO.apart b hb)⟩
theorem qE.room (Ls:List zK)(w:Ao): qE qd Ls w (Ls++[[]]) w:=
 ⟨rfl,rfl,rfl,λ_=>Qd _,Qd _,λ_ _ _=>rfl,λb hb=>by grind [zBv,bl]⟩
end
def xM (P:Aq)(t te n:Nat): Bool:=
 match P.underlying t with
 | some (.slice e')=>e'==te&&match P.info? te with
  | some i=>i.size==n&&Nat.ble i.bytes 32768&&Nat.ble 1 n&&match i.zero with
   | some z=>z.cells.size==n
   | none=>Ak
  | none=>Ak
 | _=>Ak
variable{te:Nat}
theorem zJP{P:Aq}{t n:Nat}(h:xM P t te n=Aj):
  P.underlying t=Ah (.slice te)/\∃ i z,P.info? te=Ah i/\i.zero=Ah z/\i.size=n/\i.bytes<=32768/\0<n/\z.cells.size=n:=by
 unfold xM at h;split at h
 ·rename_i e' hu;simp only[Qc,QJ] at h;obtain⟨rfl,h⟩:=h;split at h
  ·rename_i i hi;simp only[Qc,QJ] at h;obtain⟨⟨⟨h1,h2⟩,h3⟩,h4⟩:=h;split at h4
   ·rename_i z hz;exact⟨hu,i,z,hi,hz,h1,QN h2,QN h3,by grind⟩
   ·cases h4
  ·cases h
 ·cases h
section
variable {P:Aq}{ops:Array Oper}{Q:Exit->Ay->Ao->Prop}{a:Ay}{n:Nat}{S:List (Nat×Am)}{w:Ao}{K:Ay->Ao->Prop}
variable {A:List Nat}{Ls:List zK}{d:Nat}{ty:Ap}{pos:String}{af:Array Edge}{g:Option (Nat×Bool)}
variable{m k:Nat}{q:Option Ax}
theorem zJg{t:Nat}{s:Option Ax}{c:Nat}{rty:Ap}(hu:P.underlying t=Ah (.slice te)){i:TypeInfo}(hi:P.info? te=Ah i)(hm:m<=c):
  (Builtin.append_ #[t,t] rty #[.slice s m c,.slice q 0 k]).run P w=.ok (.slice s m c) w:=by
 have hf:(Builtin.firstCells i.size 0 (.slice q 0 k)).run P w=.ok #[] w:=by
  cases q with
  | none=>rfl
  | some b=>simp[Builtin.firstCells,loadCells,loadCellsFrom]
 cases s <;> simp[Builtin.append_,run_underlying hu,sizeOf,typeInfo,hi,Builtin.lenOf,hm,hf,storeCells]
theorem zPm (w:Ao)(t ty e:Ap)(i:TypeInfo)(ht:P.underlying t=Ah (.slice e))(hi:P.info? e=Ah i)
  (g o sLen sCap:Nat) (cur:Array Am) (hg:w.heap[g]?=Ah (.cells cur e (0,0)))
  (a:Ax) (m c:Nat) (news:List Am) (hl:news.length=m*i.size) (hnews:∀ j u,news[j]?=Ah u->w.cell? (a.add j)=Ah u) (h1:∀ u∈news,u.oneCell'=Aj)
  (hroom:sLen+m<=sCap) (hfit:o+sLen*i.size+news.length<=cur.size) :
  (Builtin.append_ #[t,t] ty #[.slice (Ah ⟨g,o,Ai⟩) sLen sCap,.slice (Ah a) m c]).run P w =
   .ok (.slice (Ah ⟨g,o,Ai⟩) (sLen+m) sCap) (w.setRow g (cur.toList.take (o+sLen*i.size)++news++cur.toList.drop (o+sLen*i.size+news.length)).toArray):=by
 have hf:=run_firstCells_some (P:=P) w i.size m a m c news hl hnews;have hst:=run_storeCells_at P g (o+sLen*i.size) e news 0 cur w hg (by grind) h1;simp only[Ul] at hst;simp[Builtin.append_,run_underlying ht,sizeOf,typeInfo,hi,Builtin.lenOf,hroom,hf,Ax.add_lit,hst]
variable{α:Type}
theorem zXc(c:List α)(o m:Nat)(v:List α)(h:o+m<=c.length): ((c.take (o+m)++v++c.drop (o+m+v.length)).drop o).take (m+v.length)=(c.drop o).take m++v:=by
 rw[Qo,Ut (by grind),Ud,Q2,<-Qo];grind
theorem z44{l m z:List α}(h:qG l m=Ah z): l.length+m.length<4294967296/\z=l++m:=by grind [qG]
theorem zVU{τ:Type}{e:E τ}{t te:Nat}{r:zK}{p q:Option Ax}{c k i:Nat}{l m z:List τ}(hO:qK A w Ls)(hr:Ls[i]?=Ah r)(hA:yS e te (bl Ls++A) w r p c l)
  (hR:Src e (bl Ls++A) w q m) (ht:xM P t te e.n=Aj) (hm:qG l m=Ah z) (rty:Ap) :
  ∃ r' p' c' w',(Builtin.append_ #[t,t] rty #[.slice p l.length c,.slice q m.length k]).run P w=.ok (.slice p' z.length c') w' /\
   qK A w' (Ls.set i r')/\qE qd Ls w (Ls.set i r') w'/\yS e te (bl (Ls.set i r')++A) w' r' p' c' z:=by
 obtain⟨hsm,rfl⟩:=z44 hm;obtain⟨hu,info,zv,hi,hz,hsize,hby,hpos,hzs⟩:=zJP ht;have hlc:l.length<=c:=by
  rcases hA with⟨_,_,_,rfl⟩ | ⟨b,o,cells,_,_,h3,_⟩
  ·grind
  ·exact h3
 by_cases hm0:m=[]
 ·subst hm0;refine⟨r,p,c,w,by grind [zJg],?_,?_,?_⟩
  ·exact hO.set hr (Qd _) (λ_ _ _=>rfl) (λx hx=>zAj hO hr hx) (by simpa [bl] using (hO.pick i hr).nodup) (λx hx=>.inl (QD.2 ⟨x,hx,rfl⟩))
  ·exact qE.set hr rfl rfl rfl (Qd _) (λ_ _ _=>rfl) (λx hx=>.inl (QD.2 ⟨x,hx,rfl⟩))
  ·have hself:Ls.set i r=Ls:=by
    apply Q8;intro j;by_cases hj:i=j
    ·grind
    ·grind
   grind
 ·have hmpos:0<m.length:=QF.2 hm0;rcases hR with hR | ⟨b2,off,cs2,rfl,hcs2,hcell⟩
  ·grind
  ·have hl2:cs2.length=m.length*info.size:=by rw[e.rdL_len hcs2,hsize]
   have hnews:∀ j u,cs2[j]?=Ah u->w.cell? ((⟨b2,off,Ai⟩:Ax).add j)=Ah u:=λj u hu=>by grind [zBg]
   have hone:=e.rdL_one hcs2;have hbytes:(l.length+m.length)*info.bytes<=140737488355328:=by
    have:=US (Nat.le_of_lt hsm) hby;omega
   have h63:((l.length+m.length:Nat):Int)<=9223372036854775807:=by omega
   rcases hA with⟨rfl,rfl,rfl,rfl⟩ | ⟨b,o,cells,rfl,rfl,h3,h4,h5,h6⟩
   ·
    have hrun:=run_append_nil (P:=P) w t rty te info zv hu hi hz ⟨b2,off,Ai⟩ m.length k cs2 hl2 hnews hmpos (by omega) (by grind);have hge:=grownCap_ge w m.length 0 te;have hcm:=grownCap_le_maxLen w m.length 0 te (by grind [maxLen]);refine⟨[(w.heap.size,.cells (cs2.toArray++Builtin.zeroCells zv.cells (grownCap w m.length 0 te-m.length)) te (0,0))],_,_,_,by rw[QI];exact hrun,?_,?_,?_⟩
    ·exact hO.set hr (by simp) (λk hk _=>Below.heap_alloc w.drew _ k hk) (λx hx=>by simp only[Qh] at hx;subst hx;exact heap_alloc_new w.drew _) (by simp) (λx hx=>by grind)
    ·exact qE.set hr rfl rfl rfl (by simp) (λk hk _=>Below.heap_alloc w.drew _ k hk) (λx hx=>by grind)
    ·have hE:qE qd Ls w (Ls.set i [(w.heap.size,.cells (cs2.toArray++Builtin.zeroCells zv.cells (grownCap w m.length 0 te-m.length)) te (0,0))]) (w.drew.alloc (.cells (cs2.toArray++Builtin.zeroCells zv.cells (grownCap w m.length 0 te-m.length)) te)):=
      qE.set hr rfl rfl rfl (by simp) (λk hk _=>Below.heap_alloc w.drew _ k hk) (λx hx=>by grind)
     refine yS.mk0 w.heap.size _ rfl rfl (by grind) hcm ?_ ?_
     ·simp only[Uy,QX,size_zeroCells,hzs,hl2,hsize,<-QV];grind
     ·have:(cs2.toArray++Builtin.zeroCells zv.cells (grownCap w m.length 0 te-m.length)).toList.take (([]++m).length*e.n)=cs2:=by
       simp only[Up,QI];rw[<-hsize,<-hl2];simp
      rw[this];exact e.rdL_step (hE.step A) (by grind)
   ·have hb:=zAj hO hr (Qh.2 rfl);have hlo:((cells.toList.drop o).take (l.length*e.n)).length=l.length*info.size:=by rw[e.rdL_len h6,hsize]
    by_cases hroom:l.length+m.length<=c
    ·
     have hfit0:l.length*info.size+cs2.length<=c*e.n:=by rw[hl2,<-QV,hsize];exact QK _ hroom
     have hfit:o+l.length*info.size+cs2.length<=cells.size:=by omega
     have hfit1:o+l.length*info.size<=cells.toList.length:=by have:=Uq (xs:=cells);omega
     have hrun:=zPm (P:=P) w t rty te info hu hi b o l.length c cells hb ⟨b2,off,Ai⟩ m.length k cs2 hl2 hnews hone hroom hfit;have hk:∀(cs:Array Am) (k:Nat),k<w.heap.size->k∉[(b,Obj.cells cells te (0,0))].map Prod.fst->(w.setRow b cs).heap[k]?=w.heap[k]?:=λcs k _ hk=>setRow_other w b k _ (λe=>hk (by simp[e]));refine⟨[(b,.cells (cells.toList.take (o+l.length*info.size)++cs2++cells.toList.drop (o+l.length*info.size+cs2.length)).toArray te (0,0))],_,c,_,by rw[Qg];exact hrun,?_,?_,?_⟩
     ·exact hO.set hr (by simp) (hk _) (λx hx=>by grind [setRow_heap]) (by simp) (λx hx=>by grind)
     ·exact qE.set hr rfl rfl rfl (by simp) (hk _) (λx hx=>by grind)
     ·have hE:qE qd Ls w (Ls.set i [(b,.cells (cells.toList.take (o+l.length*info.size)++cs2++cells.toList.drop (o+l.length*info.size+cs2.length)).toArray te (0,0))]) (w.setRow b (cells.toList.take (o+l.length*info.size)++cs2++cells.toList.drop (o+l.length*info.size+cs2.length)).toArray):=
       qE.set hr rfl rfl rfl (by simp) (hk _) (λx hx=>by grind)
      refine .inr ⟨b,o,_,rfl,rfl,by grind,h4,?_,?_⟩
      ·grind
      ·have hsz:(l++m).length*e.n=l.length*info.size+cs2.length:=by
        rw[Qg,hl2,hsize,QV]
       have:((cells.toList.take (o+l.length*info.size)++cs2++cells.toList.drop (o+l.length*info.size+cs2.length)).toArray.toList.drop o).take ((l++m).length*e.n)=(cells.toList.drop o).take (l.length*e.n)++cs2:=by
        rw[hsz,zXc _ _ _ _ hfit1,hsize]
       rw[this];exact e.rdL_append (e.rdL_step (hE.step A) h6) (e.rdL_step (hE.step A) hcs2)
    ·
     have holds:∀ j u,((cells.toList.drop o).take (l.length*e.n))[j]?=Ah u->w.cell? ((⟨b,o,Ai⟩:Ax).add j)=Ah u:=λj u hu=>by
      grind [zBg,cell_of_row]
     have hrun:=run_append_grow (P:=P) w t rty te info zv hu hi hz ⟨b,o,Ai⟩ l.length c _ hlo holds ⟨b2,off,Ai⟩ m.length k cs2 hl2 hnews (by omega) h63 (growslice_fits (by omega) hbytes);have hge:=grownCap_ge w (l.length+m.length) c te;have hcm:=grownCap_le_maxLen w (l.length+m.length) c te (by grind [maxLen]);refine⟨[(w.heap.size,.cells (((cells.toList.drop o).take (l.length*e.n)).toArray++cs2.toArray++Builtin.zeroCells zv.cells (grownCap w (l.length+m.length) c te-(l.length+m.length))) te (0,0))],_,_,_,by rw[Qg];exact hrun,?_,?_,?_⟩
     ·exact hO.set hr (by simp) (λk hk _=>Below.heap_alloc w.drew _ k hk) (λx hx=>by simp only[Qh] at hx;subst hx;exact heap_alloc_new w.drew _) (by simp) (λx hx=>by grind)
     ·exact qE.set hr rfl rfl rfl (by simp) (λk hk _=>Below.heap_alloc w.drew _ k hk) (λx hx=>by grind)
     ·have hE:qE qd Ls w (Ls.set i [(w.heap.size,.cells (((cells.toList.drop o).take (l.length*e.n)).toArray++cs2.toArray++Builtin.zeroCells zv.cells (grownCap w (l.length+m.length) c te-(l.length+m.length))) te (0,0))]) (w.drew.alloc (.cells (((cells.toList.drop o).take (l.length*e.n)).toArray++cs2.toArray++Builtin.zeroCells zv.cells (grownCap w (l.length+m.length) c te-(l.length+m.length))) te)):=
       qE.set hr rfl rfl rfl (by simp) (λk hk _=>Below.heap_alloc w.drew _ k hk) (λx hx=>by grind)
      refine yS.mk0 w.heap.size _ rfl rfl (by grind) hcm ?_ ?_
      ·simp only[Uy,QX,size_zeroCells,hzs,hlo,hl2,hsize,<-QV];grind
      ·have hsz:(l++m).length*e.n=((cells.toList.drop o).take (l.length*e.n)++cs2).length:=by
        rw[Qg,Qg,hlo,hl2,hsize,QV]
       have:(((cells.toList.drop o).take (l.length*e.n)).toArray++cs2.toArray++Builtin.zeroCells zv.cells (grownCap w (l.length+m.length) c te-(l.length+m.length))).toList.take ((l++m).length*e.n)=(cells.toList.drop o).take (l.length*e.n)++cs2:=by
        rw[hsz];simp only[Up];exact Ur
       rw[this];exact e.rdL_append (e.rdL_step (hE.step A) h6) (e.rdL_step (hE.step A) hcs2)
theorem zZ4 (i:Nat){τ:Type}{e:E τ}{t:Ap}(te:Ap){r:zK}{p:Option Ax}{c:Nat}{l m z:List τ}{x y:As}(hS:qV a n S)(hd:Nat.blt d n=Aj)(hg:qI ops S g=Ah Aj)(hO:qK A w Ls)(hr:Ls[i]?=Ah r)
  (hA:yS e te (bl Ls++A) w r p c l) (hR:Src e (bl Ls++A) w q m) (hx:zV S x=Ah (.slice p l.length c)) (hy:zV S y=Ah (.slice q m.length k)) (ht:xM P t te e.n=Aj) (hm:qG l m=Ah z)
  (kk:∀ r' p' c' w',qK A w' (Ls.set i r')->qE qd Ls w (Ls.set i r') w'->yS e te (bl (Ls.set i r')++A) w' r' p' c' z->∀ a',qV a' n ((d,.slice p' z.length c')::S)->K a' w') :
  vK P ops Q ⟨Ah d,.call { callee:=.builtin .append,args:=[x,y].toArray,argTypes:=[t,t].toArray },ty,pos,af,g⟩ K a w:=by
 obtain⟨r',p',c',w',hrun,h1,h2,h3⟩:=zVU (P:=P) (k:=k) hO hr hA hR ht hm ty;refine zEa hS hd hg (v:=.slice p' z.length c') (w':=w') ?_ (kk r' p' c' w' h1 h2 h3);simp[Av,resolve,invoke,builtin,hS.eval hx,hS.eval hy,hrun]
def zJQ (P:Aq)(S:List (Nat×Am))(t m:Nat)(parts:List (Nat×As)): Option (List Am):=
 match P.underlying t with
 | some (.slice e)=>match P.info? e with
  | some i=>match i.zero,zPa S parts with
   | some z,Ah vs=>if Nat.ble (m*i.size) 16777216 then(Instr.fill (λj=>Ah (j*i.size,i.size)) (if m*i.size=0 then #[] else(Array.range (m*i.size)).map (z.cells[· % z.cells.size]!)) vs).map Array.toList else Ai
   | _,_=>Ai
  | none=>Ai
 | _=>Ai
variable{cs:List Am}
theorem zOx{t nn:Nat}{parts:Array (Nat×As)}(hS:qV a n S)(ht:xM P t te nn=Aj)(h:zJQ P S t m parts.toList=Ah cs){d:Option Tmp}:
  (Av a.eval ⟨d,.buildSlice t m parts,ty,pos,af,g⟩).run P w=.ok (.value (.slice (Ah ⟨w.heap.size,0,Ai⟩) m m)) (w.alloc (.cells cs.toArray te)):=by
 obtain⟨hu,info,zv,hi,hz,hsize,hby,hpos,hzs⟩:=zJP ht;unfold zJQ at h;simp only[hu,hi,hz] at h;split at h
 ·rename_i z' vs hz' hvs;simp only[Qf] at hz';subst hz';split at h
  ·rename_i hle;have hle':m*info.size<=16777216:=QN hle;simp only[Q9] at h;obtain⟨cells,hf,rfl⟩:=h;have h2:=hS.parts hvs;have hnle:¬ (m*info.size > 2 ^ 24):=by omega
   have hzr:(zeroValue te).run P w=.ok zv w:=zL0 (by simp[zHO,hi,hz]) w;have hsr:(sizeOf te).run P w=.ok info.size w:=by simp[sizeOf,typeInfo,hi]
   have hr0:Array.range 0=#[]:=rfl;simp only[Av,Instr.buildSlice,Array.toList_map,h2];by_cases h0:m*info.size=0
   ·simp only[h0,Qx] at hf;simp[run_underlying hu,hsr,h0,hr0,hf,newRow]
   ·rw[Qa h0] at hf;have h0':¬ (m=0\/info.size=0):=λh=>h0 (by grind);simp only[Sem.run_bind,run_underlying hu,Result.andThen_ok,hsr,Qa hnle,Qa h0,Sem.run_pure,hzr];rw[hf];simp[newRow]
  ·cases h
 ·cases h
theorem rd_new{τ:Type}{e:E τ}{l:List τ}{te:Ap}(hO:qK A w Ls)(hrd:e.rdL (bl Ls++A) w cs l): xL e (bl Ls++A) (w.alloc (.cells cs.toArray te)) (Ah ⟨w.heap.size,0,Ai⟩) l.length l:=by
 refine⟨Qd _,.inr ⟨w.heap.size,0,cs,rfl,λhm=>?_,by simp,?_,λj u hu=>?_⟩⟩
 ·rcases Qj.1 hm with h | h
  ·exact Uc _ (hO.lt h)
  ·exact Uc _ (hO.old _ h)
 ·exact e.rdL_step ⟨by simp,λk hk hn=>⟨hn,Below.heap_alloc w _ k hk⟩⟩ hrd
 simp_all
variable{parts:List (Nat×As)}
theorem z6m{τ:Type}{e:E τ}{t:Nat}(cs:List Am)(l:List τ)(hS:qV a n S)(hd:Nat.blt d n=Aj)(hg:qI ops S g=Ah Aj)(hO:qK A w Ls)
  (ht:xM P t te e.n=Aj) (hc:zJQ P S t m parts=Ah cs) (hrd:e.rdL (bl Ls++A) w cs l) (hl:l.length=m)
  (k:∀ p c w',qK A w' Ls->qE qd Ls w Ls w'->xL e (bl Ls++A) w' p c l->∀ a',qV a' n ((d,.slice p l.length c)::S)->K a' w') :
  vK P ops Q ⟨Ah d,.buildSlice t m parts.toArray,ty,pos,af,g⟩ K a w:=by
 subst hl;refine zEa hS hd hg (zOx hS ht (by grind)) (k _ _ _ ?_ ?_ (rd_new hO hrd))
 ·exact⟨λb hb=>by have:=hO.old b hb;simp;omega,λr hr p hp=>by rw[Below.heap_alloc w _ p.1 (Qz.1 (hO.has r hr p hp)).1];exact hO.has r hr p hp,hO.nodup,hO.apart⟩
 ·exact⟨rfl,rfl,rfl,λ_=>Qd _,by simp,λk hk _=>Below.heap_alloc w _ k hk,λb hb=>.inl hb⟩
theorem z6R{τ:Type}{e:E τ}{t:Nat}(te:Nat)(cs:List Am)(l:List τ)(hS:qV a n S)(hd:Nat.blt d n=Aj)(hg:qI ops S g=Ah Aj)(hO:qK A w Ls)
  (ht:xM P t te e.n=Aj) (hc:zJQ P S t m parts=Ah cs) (hrd:e.rdL (bl Ls++A) w cs l) (hl:l.length=m) (hm:Nat.ble m 16777216=Aj)
  (k:∀ r p c w',qK A w' (Ls++[r])->qE qd Ls w (Ls++[r]) w'->yS e te (bl (Ls++[r])++A) w' r p c l->∀ a',qV a' n ((d,.slice p l.length c)::S)->K a' w') :
  vK P ops Q ⟨Ah d,.buildSlice t m parts.toArray,ty,pos,af,g⟩ K a w:=by
 subst hl;have hle:l.length<=16777216:=QN hm;have hE:=qE.alloc (qd:=qd) (w:=w) (w':=w.alloc (.cells cs.toArray te)) Ls (.cells cs.toArray te) rfl rfl rfl rfl;refine zEa hS hd hg (zOx hS ht (by grind)) (k _ _ _ _ (hO.alloc _ rfl) hE (yS.mk0 w.heap.size cs.toArray rfl rfl (Qd _) (by grind [maxLen]) (by simp[e.rdL_len hrd]) ?_));have:cs.toArray.toList.take (l.length*e.n)=cs:=by rw[<-e.rdL_len hrd];simp
 rw[this];exact e.rdL_step (hE.step A) hrd
theorem z4p{τ:Type}{e:E τ}{Z:List Nat}{p:Option Ax}{c:Nat}{l z:List τ}{i j:Int}{x:As}{lo hi:Option As}{vlo vhi:Option Am}{t:Ap}{d:Option Tmp}(hS:qV a n S)(hR:xL e Z w p c l)
  (hx:zV S x=Ah (.slice p l.length c)) (ht:uM P t=Ah e.n) (hlo:zSW S lo=Ah vlo) (hhi:zSW S hi=Ah vhi) (b1:Bd vlo i 0) (b2:Bd vhi j l.length) (hm:sub l i j=Ah z) :
  ∃ p' c',(∀ w',(Av a.eval ⟨d,.slice t x lo hi Ai,ty,pos,af,g⟩).run P w'=.ok (.value (.slice p' z.length c')) w')/\xL e Z w p' c' z:=by
 unfold sub at hm;split at hm
 ·rename_i h0;simp only[Qf] at hm;obtain⟨h1,h2,h3⟩:=h0;subst hm;have hzl:((l.take j.toNat).drop i.toNat).length=j.toNat-i.toNat:=by simp;omega
  unfold uM at ht;split at ht
  ·rename_i te hu;cases hq:P.info? te with
   | none=>grind
   | some info=>
    have hs:info.size=e.n:=by simpa [hq] using ht
    refine⟨if c=i.toNat then p else p.map (·.add (i.toNat*e.n)),c-i.toNat,λw'=>?_,?_⟩
    ·have hb:=zL5 (P:=P) (w:=w') (b:=Aj) (m:=l.length) (c:=c) b1 b2 h1 h2 (by have:=hR.1;omega);simp[Av,hS.eval hx,hS.evalO hlo,hS.evalO hhi,Instr.sliceAt,Instr.slice,run_underlying hu,hb,sizeOf,typeInfo,hq,hs,hzl]
    ·refine⟨by rw[hzl];have:=hR.1;omega,?_⟩;by_cases he:(l.take j.toNat).drop i.toNat=[]
     ·grind
     ·rcases hR.2 with rfl | ⟨b,off,cs,rfl,hb,hlt,hl,hcell⟩
      ·grind
      ·have hne:¬ c=i.toNat:=λhci=>he (Ue (by rw[hzl];have:=hR.1;omega));refine .inr ⟨b,off+i.toNat*e.n,(cs.take (j.toNat*e.n)).drop (i.toNat*e.n),by simp[hne,zBg],hb,hlt,e.rdL_drop _ (e.rdL_take _ hl),λk u hu=>?_⟩;grind
  ·cases ht
 ·cases hm
theorem zWL (F:Am->ByteArray->Sem (ForInStep ByteArray))(hF:∀ n s,F (.int .u8 n) s=pure (.yield (s.push (UInt8.ofNat n.toNat)))): ∀(l:List Int) (cs:List Am) (Z:List Nat) (w w':Ao) (s:ByteArray),(zT .u8).rdL Z w cs l->
  (forIn cs s F:Sem ByteArray).run P w'=.ok ⟨(s.data.toList++xV l).toArray⟩ w'
 | [],cs,Z,w,w',s,h=>by
  simp only[E.rdL] at h;subst h;simp[xV]
 | x::l,cs,Z,w,w',s,h=>by
  obtain⟨c1,c2,rfl,h1,h2⟩:=h;simp only[zT] at h1;subst h1;have ih:=zWL F hF l c2 Z w w' (s.push (UInt8.ofNat x.toNat)) h2;simp only[Q1,QI,List.forIn_cons,hF,Sem.run_bind,Sem.run_pure,Result.andThen_ok];rw[ih];simp[xV,ByteArray.push]
end
end
section
open Go Go.RowKit
variable {qd:Prop}
def xC (Ls:List zK)(js:List Nat): List zK:=js.map λj=>Ls.getD j []
section
variable {A:List Nat}{w w':Ao}{Ls L:List zK}
variable{js:List Nat}
theorem zQU{r:zK}(h:r∈xC Ls js){p:Nat×Obj}(hp:p∈r): ∃ j∈js,Ls[j]?=Ah r:=by
 obtain⟨j,hj,rfl⟩:=QD.1 h;grind
variable{b:Nat}
theorem zNj(h:b∈bl (xC Ls js)): b∈bl Ls:=by
 obtain⟨r,hr,p,hp,rfl⟩:=zIH.1 h;grind [zQU,zBl]
theorem z3g(h:(bl Ls).Nodup){r:zK}(hr:r∈Ls): (r.map Prod.fst).Nodup:=by
 induction Ls with
 | nil=>cases hr
 | cons t ts ih=>
  simp only[bl] at h;grind
theorem zRD (h:(bl Ls).Nodup): ∀ {js:List Nat},js.Nodup->(bl (xC Ls js)).Nodup
 | [],_=>by simp[xC,bl]
 | j::js,hn=>by
  obtain⟨h1,h2⟩:=U2.1 hn;show((Ls.getD j []).map Prod.fst++bl (xC Ls js)).Nodup;refine QS.2 ⟨?_,zRD h h2,λx hx y hy e=>?_⟩
  ·grind [z3g]
  ·obtain⟨p,hp,rfl⟩:=QD.1 hx;obtain⟨r,hr,q,hq,rfl⟩:=zIH.1 hy;grind [zQU,zEm]
theorem qK.sel (h:qK A w Ls)(js:List Nat)(hn:js.Nodup): qK A w (xC Ls js):=
 ⟨h.old,λr hr p hp=>(by grind [zQU,zAj]),zRD h.nodup hn,λb hb=>h.apart b (zNj hb)⟩
theorem qE.sel{w0:Ao}(h:qE qd L w0 Ls w)(js:List Nat): qE qd L w0 (xC Ls js) w:=h.drop λ_ hb=>zNj hb
theorem yB.sel (js:List Nat)(Ls:List zK)(A:List Nat)(w:Ao): yB (bl Ls++A) w (bl (xC Ls js)++A) w:=yB.less w λb hb=>by
 grind [zNj]
def tA:List Nat->List zK->List zK
 | [],L=>L
 | j::js,L=>tA js (L.set j [])
def zTW:List Nat->List zK->List zK->List zK
 | j::js,r::rs,L=>zTW js rs (L.set j r)
 | _,_,L=>L
theorem zQH: ∀ {L:List zK} {b:Nat},b∈bl (tA js L)->∃ j r,j∉js/\L[j]?=Ah r/\∃ p∈r,p.1=b:=by
 induction js with
 | nil=>
  intro L b h;obtain⟨r,hr,p,hp,rfl⟩:=zIH.1 h;obtain⟨j,hj⟩:=QH.1 hr;exact⟨j,r,by simp,hj,p,hp,rfl⟩
 | cons k js ih=>
  intro L b h;obtain⟨j,r,hj,hr,p,hp,rfl⟩:=ih (L:=L.set k []) h;grind
theorem zLN(h:b∈bl (tA js Ls)): b∈bl Ls:=by
 obtain⟨j,r,_,hr,p,hp,rfl⟩:=zQH h;exact zBl hr hp
theorem zZS (js A:List Nat): ∀ b∈bl (xC Ls js)++(bl (tA js Ls)++A),b∈bl Ls++A:=by
 grind [zNj,zLN]
theorem qK.picks (h:qK A w Ls)(js:List Nat)(hn:js.Nodup): qK (bl (tA js Ls)++A) w (xC Ls js):=by
 refine⟨λb hb=>?_,(h.sel js hn).has,zRD h.nodup hn,λb hb hA=>?_⟩
 ·rcases Qj.1 hb with h1 | h1
  ·exact h.lt (zLN h1)
  ·exact h.old b h1
 ·rcases Qj.1 hA with h1 | h1
  ·obtain⟨j,r,hj,hr,p,hp,rfl⟩:=zQH h1;obtain⟨s,hs,q,hq,he⟩:=zIH.1 hb;obtain⟨k,hk,hlk⟩:=zQU hs hq;exact zEm h.nodup hr hlk (λe=>hj (e▸hk)) p hp q hq he.symm
  ·exact h.apart b (zNj hb) h1
theorem yB.picks (js:List Nat)(Ls:List zK)(A:List Nat)(w:Ao): yB (bl Ls++A) w (bl (xC Ls js)++(bl (tA js Ls)++A)) w:=yB.less w (zZS js A)
theorem zUJ:∀ {L:List zK} {j:Nat} {r:zK},j<L.length->(bl (L.set j r)).Perm (r.map Prod.fst++bl (L.set j []))
 | [],_,_,h=>by simp at h
 | t::ts,0,r,_=>by simp[bl]
 | t::ts,j+1,r,h=>by
  simp only[UN,bl];refine(List.Perm.append_left _ (zUJ (L:=ts) (by grind))).trans ?_;grind
theorem zUj: ∀ {L:List zK} {k:Nat} {r:zK},k∉js->tA js (L.set k r)=(tA js L).set k r:=by
 induction js with
 | nil=>intros;rfl
 | cons j js ih=>
  intro L k r hk;simp only[QO,not_or] at hk;simp only[tA];rw[List.set_comm _ _ hk.1,ih hk.2]
theorem zZW: ∀ {L:List zK},(tA js L).length=L.length:=by
 induction js with
 | nil=>intros;rfl
 | cons j js ih=>grind [tA]
theorem zQO:∀ {js:List Nat} {rs L:List zK},js.Nodup->(∀ j∈js,j<L.length)->rs.length=js.length->(bl (zTW js rs L)).Perm (bl rs++bl (tA js L))
 | [],[],L,_,_,_=>by simp[zTW,tA,bl]
 | [],_::_,_,_,_,h=>by simp at h
 | _::_,[],_,_,_,h=>by simp at h
 | j::js,r::rs,L,hn,hl,hlen=>by
  obtain⟨h1,h2⟩:=U2.1 hn;have ih:=zQO (js:=js) (rs:=rs) (L:=L.set j r) h2 (λk hk=>by grind) (by grind);simp only[zTW,tA];grind [zUj,zUJ,zZW,bl]
theorem z7g: ∀ {rs L:List zK} {r:zK},r∈zTW js rs L->r∈rs\/r∈L:=by
 induction js with
 | nil=>intro rs L r h;cases rs <;> exact .inr h
 | cons j js ih=>
  intro rs L r h;cases rs with
  | nil=>exact .inr h
  | cons s rs=>
   rcases ih h with h1 | h1
   ·grind
   grind
theorem z2n: ∀ {rs L:List zK},js.Nodup->rs.length=js.length->zTW js rs (tA js L)=zTW js rs L:=by
 induction js with
 | nil=>intros;rfl
 | cons j js ih=>
  intro rs L hn h;cases rs with
  | nil=>simp at h
  | cons r rs=>
   obtain⟨hj,h2⟩:=U2.1 hn;simp only[zTW,tA];rw[zUj hj,List.set_set,<-zUj hj];grind
theorem qK.fills (h:qK A w Ls){js:List Nat}{rs new:List zK}(hn:js.Nodup)(hl:∀ j∈js,j<Ls.length)(hlen:rs.length=js.length)
  (ho:qK (bl (tA js Ls)++A) w' (rs++new)) (e:qE qd (xC Ls js) w (rs++new) w'):qK A w' (zTW js rs Ls++new):=by
 have hperm:(bl (zTW js rs Ls++new)).Perm (bl (rs++new)++bl (tA js Ls)):=by
  rw[zBv,zBv];refine(List.Perm.append_right _ (zQO hn hl hlen)).trans ?_;rw[Qo,Qo];exact List.Perm.append_left _ Uj
 have hb:∀ b∈bl (tA js Ls),b∉bl (xC Ls js):=λb h1 h2=>(h.picks js hn).apart b h2 (Qj.2 (.inl h1));refine⟨λb hb=>ho.old b (Qj.2 (.inr hb)),λr hr p hp=>?_,hperm.nodup_iff.2 (QS.2 ⟨ho.nodup,?_,λx hx y hy exy=>?_⟩),λb hb=>?_⟩
 ·rcases Qj.1 hr with h1 | h1
  ·rw[<-z2n hn hlen] at h1;rcases z7g h1 with h2 | h2
   ·exact ho.has r (Qj.2 (.inl h2)) p hp
   ·have hbl:p.1∈bl (tA js Ls):=zIH.2 ⟨r,h2,p,hp,rfl⟩;obtain⟨j,s,hj,hs,q,hq,he⟩:=zQH hbl;have hlt:=h.lt (zLN hbl);rw[e.keep p.1 hlt (hb _ hbl)];have:∀ {js:List Nat} {L:List zK} {r:zK},r∈tA js L->p∈r->r∈L:=by
     intro js;induction js with
     | nil=>intro L r h _;exact h
     | cons k ks ih=>
      intro L r h hp;rcases z1C (ih h hp) with rfl | ⟨m,_,hm⟩
      ·cases hp
      grind
    exact h.has r (this h2 hp) p hp
  ·exact ho.has r (Qj.2 (.inr h1)) p hp
 ·have h1:∀ {js:List Nat} {L:List zK},(bl L).Nodup->(bl (tA js L)).Nodup:=by
   intro js;induction js with
   | nil=>intro L h;exact h
   | cons k ks ih=>intro L h;exact ih (zUH h (by simp) (by simp))
  exact h1 h.nodup
 ·subst exy;exact ho.apart x hx (Qj.2 (.inl hy))
 ·rcases Qj.1 (hperm.mem_iff.1 hb) with h1 | h1
  ·exact λhA=>ho.apart b h1 (Qj.2 (.inr hA))
  ·exact h.apart b (zLN h1)
theorem qE.fills{js:List Nat}{rs new:List zK}(hn:js.Nodup)(hl:∀ j∈js,j<Ls.length)(hlen:rs.length=js.length)(e:qE qd (xC Ls js) w (rs++new) w'):
  qE qd Ls w (zTW js rs Ls++new) w':=by
 refine⟨e.os,e.tape,e.output,e.drawn,e.size,λk hk hnb=>e.keep k hk (λhm=>hnb (zNj hm)),λb hb=>?_⟩;rw[zBv] at hb;rcases Qj.1 hb with h1 | h1
 ·rcases Qj.1 ((zQO hn hl hlen).mem_iff.1 h1) with h2 | h2
  ·exact(e.fresh b (by grind [zBv])).imp zNj id
  grind [zLN]
 ·exact(e.fresh b (by grind [zBv])).imp zNj id
theorem yB.fills{js:List Nat}{rs new:List zK}(hn:js.Nodup)(hl:∀ j∈js,j<Ls.length)(hlen:rs.length=js.length)(A:List Nat)(w:Ao):
  yB (bl (rs++new)++(bl (tA js Ls)++A)) w (bl (zTW js rs Ls++new)++A) w:=yB.less w λb hb=>by
 grind [zBv,zQO]
theorem qK.news (h:qK A w Ls){new:List zK}(ho:qK (bl Ls++A) w' new)(e:qE qd [] w new w'): qK A w' (Ls++new):=by
 have:=h.fills (js:=[]) (rs:=[]) (new:=new) (by simp) (by simp) rfl (by simpa [tA] using ho) (by simpa [xC] using e);grind [zTW]
theorem qE.news{new:List zK}(Ls:List zK)(e:qE qd [] w new w'): qE qd Ls w (Ls++new) w':=
 ⟨e.os,e.tape,e.output,e.drawn,e.size,λk hk _=>e.keep k hk (by simp[bl]),λb hb=>by
  rw[zBv] at hb;rcases Qj.1 hb with h1 | h1
  ·grind
  ·exact(e.fresh b h1).imp (λh=>by simp[bl] at h) id⟩
end
structure tT{τ σ:Type}(e:E τ)(f:E σ) where
 off:Nat
 get:τ->σ
 put:τ->σ->τ
 le:off+f.n<=e.n
 rdg:∀ {Z w cs x},e.rd Z w cs x->f.rd Z w ((cs.drop off).take f.n) (get x)
 rdp:∀ {Z w cs x ds y},e.rd Z w cs x->f.rd Z w ds y->e.rd Z w (cs.take off++ds++cs.drop (off+f.n)) (put x y)
def tT.id{τ:Type}(e:E τ): tT e e:=
 ⟨0,λx=>x,λ_ y=>y,by simp,λh=>by rw[Uf,QQ (by rw[e.len h];grind)];exact h,
  λh k=>by rw[List.take_zero,QI,Uv,Q4 (by rw[e.len h];grind),QE];exact k⟩
variable{α:Type}
theorem zOC{β:Type}{f:E α}{g:E β}{Z:List Nat}{w:Ao}{cs:List Am}{x:α×β}(h:(qU f g).rd Z w cs x):
  f.rd Z w (cs.take f.n) x.1/\g.rd Z w (cs.drop f.n) x.2:=by
 obtain⟨c1,c2,rfl,h1,h2⟩:=h;have:=f.len h1;grind
def tT.fst{τ α β:Type}{e:E τ}{f:E α}{g:E β}(s:tT e (qU f g)): tT e f:=
 ⟨s.off,λx=>(s.get x).1,λx y=>s.put x (y,(s.get x).2),by have:=s.le;simp only[qU] at this;omega,
  λ{Z w cs x} h=>by
  have h1:=(zOC (s.rdg h)).1;rw[UB,Ua (by grind [qU])] at h1;exact h1,
  λ{Z w cs x ds y} h k=>by
  have h2:=(zOC (s.rdg h)).2;have h3:=s.rdp h (show(qU f g).rd Z w _ (y,(s.get x).2) from⟨ds,_,rfl,k,h2⟩);have he:cs.take s.off++(ds++((cs.drop s.off).take (qU f g).n).drop f.n)++cs.drop (s.off+(qU f g).n)=cs.take s.off++ds++cs.drop (s.off+f.n):=by
   rw[<-Qo,Qo];congr 1;rw[Ud,Q0];have:cs.drop (s.off+(qU f g).n)=(cs.drop (s.off+f.n)).drop ((qU f g).n-f.n):=by
    rw[Q0];congr 1;simp only[qU];omega
   rw[this,QC]
  grind⟩
def tT.snd{τ α β:Type}{e:E τ}{f:E α}{g:E β}(s:tT e (qU f g)): tT e g:=
 ⟨s.off+f.n,λx=>(s.get x).2,λx y=>s.put x ((s.get x).1,y),by have:=s.le;simp only[qU] at this;omega,
  λ{Z w cs x} h=>by
  have h1:=(zOC (s.rdg h)).2;rw[Ud,Q0] at h1;have:(qU f g).n-f.n=g.n:=by simp only[qU];omega
  grind,
  λ{Z w cs x ds y} h k=>by
  have h2:=(zOC (s.rdg h)).1;have h3:=s.rdp h (show(qU f g).rd Z w _ ((s.get x).1,y) from⟨_,ds,rfl,h2,k⟩);have he:cs.take s.off++(((cs.drop s.off).take (qU f g).n).take f.n++ds)++cs.drop (s.off+(qU f g).n)=cs.take (s.off+f.n)++ds++cs.drop (s.off+f.n+g.n):=by
   rw[UB,Ua (by grind [qU]),<-Qo,<-List.take_add];congr 2;simp only[qU];omega
  grind⟩
section
variable {τ:Type}(e:E τ){Z:List Nat}{w:Ao}
theorem E.rdL_at:∀ {l:List τ} {cs:List Am} {k:Nat} {x:τ},e.rdL Z w cs l->l[k]?=Ah x->e.rd Z w ((cs.drop (k*e.n)).take e.n) x
 | [],cs,k,x,h,hx=>by simp at hx
 | y::l,cs,0,x,h,hx=>by
  obtain⟨c1,c2,rfl,h1,h2⟩:=h;simp only[Q6,Qf] at hx;subst hx;rw[Nat.zero_mul,Uf,<-e.len h1,Ur];exact h1
 | y::l,cs,k+1,x,h,hx=>by
  obtain⟨c1,c2,rfl,h1,h2⟩:=h;simp only[QW] at hx;have:=E.rdL_at h2 hx;have hl:=e.len h1;rw[show(k+1)*e.n=c1.length+k*e.n by grind,UZ,Q4 (by omega),QI,Q2];exact this
theorem E.rdL_set:∀ {l:List τ} {cs:List Am} {k:Nat} {x y:τ} {ds:List Am} {off:Nat},e.rdL Z w cs l->l[k]?=Ah x->off+ds.length<=e.n->
  (∀ ci,e.rd Z w ci x->e.rd Z w (ci.take off++ds++ci.drop (off+ds.length)) y)->e.rdL Z w (cs.take (k*e.n+off)++ds++cs.drop (k*e.n+off+ds.length)) (l.set k y)
 | [],cs,k,x,y,ds,off,h,hx,_,_=>by simp at hx
 | z::l,cs,0,x,y,ds,off,h,hx,hle,hp=>by
  obtain⟨c1,c2,rfl,h1,h2⟩:=h;simp only[Q6,Qf] at hx;subst hx;have hl:=e.len h1;refine⟨_,c2,?_,hp c1 h1,h2⟩;grind
 | z::l,cs,k+1,x,y,ds,off,h,hx,hle,hp=>by
  obtain⟨c1,c2,rfl,h1,h2⟩:=h;simp only[QW] at hx;have ih:=E.rdL_set h2 hx hle hp;have hl:=e.len h1;refine⟨c1,_,?_,h1,ih⟩;rw[show(k+1)*e.n+off=c1.length+(k*e.n+off) by grind];rw[UY,QQ (by omega),Q2,U0 c1.length,UZ,Q4 (by omega),Q2];simp
end
theorem zLq{l:List α}{i:Int}{u:α}(h:zD l i=Ah u): 0<=i/\l[i.toNat]?=Ah u/\i<(l.length:Int):=by grind [zD]
section
variable {P:Aq}{ops:Array Oper}{Q:Exit->Ay->Ao->Prop}{a:Ay}{n:Nat}{S:List (Nat×Am)}{w:Ao}{K:Ay->Ao->Prop}
variable {A:List Nat}{Ls:List zK}{d:Nat}{ty:Ap}{pos:String}{af:Array Edge}{g:Option (Nat×Bool)}
variable {τ σ:Type}{e:E τ}{f:E σ}{te:Ap}{Z:List Nat}{r:zK}{p:Option Ax}{c:Nat}{l:List τ}{ix:Int}{u:τ}{t:Ap}{x y:As}{kd:Au}
theorem yS.at (hA:yS e te Z w r p c l)(hm:zD l ix=Ah u): ∃ b o cells,r=[(b,.cells cells te (0,0))]/\p=Ah ⟨b,o,Ai⟩/\l.length<=c/\c<=maxLen/\o+c*e.n<=cells.size/\e.rdL Z w ((cells.toList.drop o).take (l.length*e.n)) l:=by
 rcases hA with⟨_,_,_,rfl⟩ | h
 ·have:=(zLq hm).2.1;grind
 ·exact h
theorem zTF (hS:qV a n S)(hA:yS e te Z w r p c l)(hx:zV S x=Ah (.slice p l.length c))(hy:zV S y=Ah (.int kd ix))(ht:uM P t=Ah e.n)(hm:zD l ix=Ah u){d:Option Tmp}:
  ∃ b o,p=Ah ⟨b,o,Ai⟩/\∀ w',(Av a.eval ⟨d,.indexAddr t x y,ty,pos,af,g⟩).run P w'=.ok (.value (.pointer (Ah ⟨b,o+ix.toNat*e.n,Ai⟩))) w':=by
 obtain⟨b,o,cells,rfl,rfl,_⟩:=hA.at hm;obtain⟨h0,h1,h2⟩:=zLq hm;refine⟨b,o,rfl,λw'=>?_⟩;simp[Av,hS.eval hx,hS.eval hy,zPe (m:=l.length) ht h0 h2]
theorem zZr (hS:qV a n S)(hd:Nat.blt d n=Aj)(hg:qI ops S g=Ah Aj)(hA:yS e te Z w r p c l)(hx:zV S x=Ah (.slice p l.length c))(hy:zV S y=Ah (.int kd ix))(ht:uM P t=Ah e.n)(hm:zD l ix=Ah u)
  (k:∀ b o,p=Ah ⟨b,o,Ai⟩->∀ a',qV a' n ((d,.pointer (Ah ⟨b,o+ix.toNat*e.n,Ai⟩))::S)->K a' w):vK P ops Q ⟨Ah d,.indexAddr t x y,ty,pos,af,g⟩ K a w:=by
 obtain⟨b,o,hp,hrun⟩:=zTF (P:=P) (ty:=ty) (pos:=pos) (af:=af) (g:=g) (d:=Ah d) hS hA hx hy ht hm;exact zEa hS hd hg (hrun w) (k b o hp)
variable{b o:Nat}
theorem zYi (s:tT e f)(hO:qK A w Ls){i:Nat}(hr:Ls[i]?=Ah r)(hA:yS e te (bl Ls++A) w r p c l)(hp:p=Ah ⟨b,o,Ai⟩)(hm:zD l ix=Ah u):
  ∃ ci,f.rd (bl Ls++A) w ci (s.get u)/\∀ w':Ao,w'.heap[b]?=w.heap[b]?->∀ j v,ci[j]?=Ah v->w'.cell? ⟨b,o+ix.toNat*e.n+s.off+j,Ai⟩=Ah v:=by
 obtain⟨b',o',cells,rfl,hp',h3,_,h5,h6⟩:=hA.at hm;rw[hp] at hp';cases hp';obtain⟨h0,h1,h2⟩:=zLq hm;have hb:=zAj hO hr (Qh.2 rfl);refine⟨_,s.rdg (e.rdL_at h6 h1),λw' hw j v hv=>?_⟩;rw[cell_of_row w' b _ cells te (0,0) (hw.trans hb)];grind
theorem z8T{ag:Bool}{ci:List Am}{k:Nat}(hl:ci.length=k)(hag:ag=Aj\/k=1): ∃ v,mkV ag ci=Ah v:=by
 rcases hag with rfl | hn
 ·exact⟨_,rfl⟩
 ·cases ag with
  | true=>exact⟨_,rfl⟩
  | false=>match ci,hl.trans hn with | [u],_=>exact⟨u,rfl⟩
theorem z06 (i:Nat)(s:tT e f)(ag:Bool)(hS:qV a n S)(hd:Nat.blt d n=Aj)(hg:qI ops S g=Ah Aj)(hO:qK A w Ls)(hr:Ls[i]?=Ah r)(hA:yS e te (bl Ls++A) w r p c l)
  (hp:p=Ah ⟨b,o,Ai⟩) (hm:zD l ix=Ah u) (hx:zV S x=Ah (.pointer (Ah ⟨b,o+ix.toNat*e.n+s.off,Ai⟩))) (ht:uE P t=Ah (ag,f.n))
  (k:∀ ci,f.rd (bl Ls++A) w ci (s.get u)->∀ v,mkV ag ci=Ah v->∀ a',qV a' n ((d,v)::S)->K a' w) (hag:ag=Aj\/f.n=1):vK P ops Q ⟨Ah d,.load t x,ty,pos,af,g⟩ K a w:=by
 obtain⟨ci,h1,h2⟩:=zYi s hO hr hA hp hm;obtain⟨v,hv⟩:=z8T (f.len h1) hag;refine zEa hS hd hg (v:=v) (w':=w) ?_ (k ci h1 v hv);simp[Av,hS.eval hx,Instr.loadAt,Instr.sureAddr,zDV (cs:=ci) (by rw[f.len h1];exact ht) (h2 w rfl) hv]
theorem z2W{c:List Am}(o m k:Nat)(v:List Am)(h:o+m+k<=c.length): (c.take (o+m+k)++v++c.drop (o+m+k+v.length)).drop o=(c.drop o).take (m+k)++v++(c.drop o).drop (m+k+v.length):=by
 rw[Qo,Ut (by grind),Ud,U0 o,Q2,Q0,<-Qo,U0 o]
theorem z7q (c:List Am)(o m:Nat)(v:List Am)(h:o+v.length<=m): (c.take o++v++c.drop (o+v.length)).take m=if o<=c.length then(c.take m).take o++v++(c.take m).drop (o+v.length) else(c.take o++v++c.drop (o+v.length)).take m:=by
 split
 ·rename_i hle;rw[Qo,UY,UY,UB,UB,Nat.min_eq_right (by omega),Ua (by omega),Q5,Ua hle,
   QQ (l:=v) (by omega),<-Qo,Ud]
  grind
 ·rfl
theorem zY5 (i:Nat)(s:tT e f){v:Am}{z:σ}(ag:Bool)(hS:qV a n S)(hg:qI ops S g=Ah Aj)(hO:qK A w Ls)(hr:Ls[i]?=Ah r)(hA:yS e te (bl Ls++A) w r p c l)
  (hp:p=Ah ⟨b,o,Ai⟩) (hm:zD l ix=Ah u) (hx:zV S x=Ah (.pointer (Ah ⟨b,o+ix.toNat*e.n+s.off,Ai⟩))) (hy:zV S y=Ah v) (ht:uE P t=Ah (ag,f.n)) (hv:f.rd (bl Ls++A) w v.cells.toList z)
  (k:∀ r' w',qK A w' (Ls.set i r')->qE qd Ls w (Ls.set i r') w'->yS e te (bl (Ls.set i r')++A) w' r' p c (l.set ix.toNat (s.put u z))->∀ a',qV a' n S->K a' w') :
  vK P ops Q ⟨Ai,.store t x y,ty,pos,af,g⟩ K a w:=by
 obtain⟨b',o',cells,rfl,hp',h3,h4,h5,h6⟩:=hA.at hm;rw[hp] at hp';cases hp';obtain⟨h0,h1,h2⟩:=zLq hm;have hb:=zAj hO hr (Qh.2 rfl);have hlen:=f.len hv;have hsle:=s.le;have hlt:ix.toNat+1<=l.length:=(Qk.1 h1).1;have hmul:ix.toNat*e.n+e.n<=l.length*e.n:=by
  have:=QK e.n hlt;rw[QV,U1] at this;exact this
 have hmul2:o+l.length*e.n<=cells.size:=Qw (Nat.add_le_add_left (QK _ h3) _) h5;have hst:zKq P t cells (o+ix.toNat*e.n+s.off) v=true:=by
  unfold zKq;simp only[ht,Qc,QJ,QR];exact⟨⟨by grind,Nat.ble_eq_true_of_le (by omega)⟩,f.one hv⟩
 have hother:∀ k,k<w.heap.size->k∉[(b,Obj.cells cells te (0,0))].map Prod.fst->(w.setRow b (zZv cells (o+ix.toNat*e.n+s.off) v.cells.toList)).heap[k]?=w.heap[k]?:=
  λk _ hk=>setRow_other w b k _ (λe=>hk (by simp[e]))
 have hE:qE qd Ls w (Ls.set i [(b,.cells (zZv cells (o+ix.toNat*e.n+s.off) v.cells.toList) te (0,0))]) (w.setRow b (zZv cells (o+ix.toNat*e.n+s.off) v.cells.toList)):=
  qE.set hr rfl rfl rfl (by simp) hother (λq hq=>.inl (by grind))
 refine z0L hS hg (w':=w.setRow b (zZv cells (o+ix.toNat*e.n+s.off) v.cells.toList)) (by simp[Av,hS.eval hx,hS.eval hy,Instr.storeAt,Instr.sureAddr,zQI hb hst])
  (k [(b,.cells (zZv cells (o+ix.toNat*e.n+s.off) v.cells.toList) te (0,0))] _ ?_ hE (.inr ⟨b,o,_,rfl,hp,by grind,h4,?_,?_⟩))
 ·exact hO.set hr (by simp) hother (λq hq=>by simp only[Qh] at hq;subst hq;exact setRow_heap w b cells _ te (0,0) hb) (by simp) (λq hq=>.inl (by grind))
 ·grind [zZv]
 ·have:=e.rdL_set (e.rdL_step (hE.step A) h6) h1 (by grind) (ds:=v.cells.toList) (off:=s.off) (y:=s.put u z) (λci hci=>by rw[hlen];exact s.rdp hci (f.step (hE.step A) hv));rw[Ug];show e.rdL _ _ (List.take _ (List.drop o (cells.toList.take (o+ix.toNat*e.n+s.off)++v.cells.toList++cells.toList.drop (o+ix.toNat*e.n+s.off+v.cells.toList.length)))) _;rw[z2W o (ix.toNat*e.n) s.off v.cells.toList (by grind),z7q _ _ _ _ (by omega),Qi (by simp;omega)];exact this
variable {listed:Array Bool}{fuel:Nat}{B J:List Nat}
theorem z1O (i:Nat)(hO:qK A w Ls)(hS:qV a n S)(hi:ops[i]?=Ah ⟨Ah d,.indexAddr t x y,ty,pos,af,g⟩)(hk:uG ops B listed i=Aj)(hd:Nat.blt d n=Aj)(hQ:∀ c (v:Am) a w,Q (.panic c) (a.put (Ah d) v) w->Q (.panic c) a w)
  (hg:qI ops S g=Ah Aj) (hA:yS e te Z w r p c l) (hx:zV S x=Ah (.slice p l.length c)) (hy:zV S y=Ah (.int kd ix)) (ht:uM P t=Ah e.n) (hm:zD l ix=Ah u)
  (k:∀ b o,p=Ah ⟨b,o,Ai⟩->∀ a',qV a' n ((d,.pointer (Ah ⟨b,o+ix.toNat*e.n,Ai⟩))::S)->wV P ops Q (SB B (CC qd A Ls w J)) fuel (listed.setIfInBounds i Aj) a' w):wV P ops Q (SB B (CC qd A Ls w J)) (fuel+1) listed a w:=by
 obtain⟨b,o,hp,hrun⟩:=zTF (P:=P) (ty:=ty) (pos:=pos) (af:=af) (g:=g) (d:=Ah d) hS hA hx hy ht hm;exact z6g i hO hS hi hk hd (λc=>hQ c _) hg hrun (k b o hp)
theorem z2w (i ri:Nat)(s:tT e f)(ag:Bool)(hO:qK A w Ls)(hS:qV a n S)(hi:ops[i]?=Ah ⟨Ah d,.load t x,ty,pos,af,g⟩)(hk:uG ops B listed i=Aj)(hd:Nat.blt d n=Aj)(hQ:∀ c (v:Am) a w,Q (.panic c) (a.put (Ah d) v) w->Q (.panic c) a w)
  (hg:qI ops S g=Ah Aj) (hb:B.all (λj=>behind ops i ops.size j)=Aj) (hJ:J.contains ri=Aj) (hr:Ls[ri]?=Ah r) (hA:yS e te (bl Ls++A) w r p c l)
  (hp:p=Ah ⟨b,o,Ai⟩) (hm:zD l ix=Ah u) (hx:zV S x=Ah (.pointer (Ah ⟨b,o+ix.toNat*e.n+s.off,Ai⟩))) (ht:uE P t=Ah (ag,f.n))
  (k:∀ ci,f.rd (bl Ls++A) w ci (s.get u)->∀ v,mkV ag ci=Ah v->∀ a',qV a' n ((d,v)::S)->wV P ops Q (SB B (CC qd A Ls w J)) fuel (listed.setIfInBounds i Aj) a' w) (hag:ag=Aj\/f.n=1) :
  wV P ops Q (SB B (CC qd A Ls w J)) (fuel+1) listed a w:=by
 obtain⟨ci,h1,h2⟩:=zYi s hO hr hA hp hm;obtain⟨b',o',cells,hrr,hp',_⟩:=hA.at hm;rw[hp] at hp';cases hp';subst hrr;obtain⟨v,hv⟩:=z8T (f.len h1) hag;refine zSz hO hS hi hk hd (λc=>hQ c _) (.inl ⟨zEI (o:=⟨Ah d,.load t x,ty,pos,af,g⟩) hS hg,λl' w' hc hun hSw=>?_⟩) (k ci h1 v hv);obtain⟨Ls',hO',_,hJ'⟩:=hSw (zWu hb hc hun);have hr':=hr;rw[<-z64 hJ' hJ] at hr';have hh:w'.heap[b]?=w.heap[b]?:=(zAj hO' hr' (Qh.2 rfl)).trans (zAj hO hr (Qh.2 rfl)).symm;simp[Av,hS.eval hx,Instr.loadAt,Instr.sureAddr,zDV (cs:=ci) (by rw[f.len h1];exact ht) (h2 w' hh) hv]
end
def z2U (js:List Nat)(n:Nat): Bool:=match js with
 | []=>Aj
 | j::r=>Nat.blt j n&&!r.contains j&&z2U r n
theorem zNM:∀ {js:List Nat} {n:Nat},z2U js n=Aj->js.Nodup/\∀ j∈js,j<n
 | [],_,_=>by simp
 | j::r,n,h=>by
  simp only[z2U,Qc,Nat.blt_eq,Bool.not_eq_true'] at h;obtain⟨⟨h1,h2⟩,h3⟩:=h;obtain⟨k1,k2⟩:=zNM h3;grind
section
variable {A:List Nat}{w w':Ao}{Ls:List zK}
theorem yB.news{new:List zK}(Ls:List zK)(A:List Nat)(w:Ao): yB (bl new++(bl Ls++A)) w (bl (Ls++new)++A) w:=yB.less w λb hb=>by
 grind [zBv]
theorem yB.sub (Ls:List zK)(A:List Nat)(w:Ao): yB (bl Ls++A) w (bl []++(bl Ls++A)) w:=yB.less w λ_ h=>h
end
section
variable {P:Aq}{a:Ay}{n:Nat}{S:List (Nat×Am)}{ty:Ap}{pos:String}{af:Array Edge}{g:Option (Nat×Bool)}
variable{m:Nat}
theorem z4E (d:Nat){t te:Ap}{p:Option Ax}{c:Nat}(hu:P.underlying t=Ah (.slice te))(w:Ao): (Op.equalIn (d+1) t (.slice p m c) (.slice Ai 0 0)).run P w=.ok p.isNone w:=by
 cases p <;> simp[Op.equalIn,run_underlying hu]
theorem z90{t u te:Ap}{x:As}{p:Option Ax}{c:Nat}{d:Option Tmp}(hS:qV a n S)(hx:zV S x=Ah (.slice p m c))(hu:P.underlying t=Ah (.slice te))(w:Ao):
  (Av a.eval ⟨d,.binOp .eql t x (.const (.slice Ai 0 0)) u,ty,pos,af,g⟩).run P w=.ok (.value (vb p.isNone)) w:=by
 have hy:zV S (.const (.slice Ai 0 0))=Ah (.slice Ai 0 0):=rfl;have h1:(eqGuard .eql t x (.const (.slice Ai 0 0)) (.slice p m c) (.slice Ai 0 0)).run P w=.ok () w:=by
  unfold eqGuard;simp
 have h2:(binOp .eql t (.slice p m c) (.slice Ai 0 0)).run P w=.ok (vb p.isNone) w:=by
  have h3:(Op.equal t (.slice p m c) (.slice Ai 0 0)).run P w=.ok p.isNone w:=z4E 9999 hu w;show(do pure (.bool (<-Op.equal t (.slice p m c) (.slice Ai 0 0))):Sem Am).run P w=_;simp[h3]
 simp[Av,hS.eval hx,hS.eval hy,h1,h2]
end
theorem xL.isNil{τ:Type}{e:E τ}{Z:List Nat}{w:Ao}{p:Option Ax}{c:Nat}{l:List τ}(h:xL e Z w p c l)(hp:p.isNone=Aj): l=[]:=by
 rcases h.2 with h | ⟨b,off,cs,rfl,_⟩
 ·exact h
 ·cases hp
end
section
def ltF{α:Type}(f:α->α->Option Int)(x y:α): Bool:=decide ((f x y).getD 0<0)
structure OrdF{α:Type}(f:α->α->Option Int): Prop where
 tot:∀ x y,∃ n,f x y=Ah n
 irrefl:∀ x,ltF f x x=Ak
 trans:∀ x y z,ltF f x y=Aj->ltF f y z=Aj->ltF f x z=Aj
 ntrans:∀ x y z,ltF f x y=Ak->ltF f y z=Ak->ltF f x z=Ak
 eq:∀ x y,ltF f x y=Ak->ltF f y x=Ak->x=y
structure OrdOn{α:Type}(f:α->α->Option Int)(l:List α): Prop where
 tot:∀ x∈l,∀ y∈l,∃ n,f x y=Ah n
 irrefl:∀ x∈l,ltF f x x=Ak
 trans:∀ x∈l,∀ y∈l,∀ z∈l,ltF f x y=Aj->ltF f y z=Aj->ltF f x z=Aj
 ntrans:∀ x∈l,∀ y∈l,∀ z∈l,ltF f x y=Ak->ltF f y z=Ak->ltF f x z=Ak
 eq:∀ x∈l,∀ y∈l,ltF f x y=Ak->ltF f y x=Ak->x=y
def chk (b:Bool): Option Unit:=if b then Ah () else Ai
def zNC{α:Type}(l:List α)(k:Int)(z:List α): List α:=l.take k.toNat++z.take (l.length-k.toNat)++l.drop (k.toNat+z.length)
theorem zIy{α:Type}(l:List α)(k:Int)(z:List α): (zNC l k z).length=l.length:=by
 simp[zNC];omega
def tI{α:Type}(n c:Int)(z:α): Option (List α):=if 0<=n/\n<=c/\c<=4294967296 then Ah (List.replicate n.toNat z) else Ai
def z8F (l:List zA)(s:zA): Option zA:=if l.length<=140737488355328/\(s.intercalate l).length<=140737488355328 then Ah (s.intercalate l) else Ai
def zYT (s u:zA): Option Int:=match u with
 | [c]=>Ah (Lib.indexByte s c)
 | _=>Ai
def z7A (l s:zA): Option (Int×Unit×zA):=if l.length+s.length<4294967296 then Ah (len s,(),l++s) else Ai
def bset (l:zA)(i v:Int): Option zA:=if(0<=i/\i.toNat<l.length)/\0<=v/\v<256 then Ah (l.set i.toNat (UInt8.ofNat v.toNat)) else Ai
inductive An
 | i (n:Int)
 | s (x:zA)
def An.int:An->Int
 | .i n=>n
 | .s _=>0
def An.str:An->zA
 | .s x=>x
 | .i _=>[]
def z78 (n z:Int): Option zA:=if z=10/\-9223372036854775808<=n/\n<=9223372036854775807 then Ah (Lib.itoa n) else Ai
def z7l (s:zA): Option (Int×Bool):=if s.length<=281474976710656 then(match Lib.atoiAll s with
  | .ok v=>Ah (v,Ak)
  | .«syntax»=>Ah (0,Aj)
  | .range=>Ah (Lib.atoiSat s,Aj)) else Ai
def z8i (f:Int->Option Bool): List UInt8->Nat->Int
 | [],_=>-1
 | b::l,i=>if 128<=b.toNat\/f (b.toNat:Int)=Ah Aj then(i:Int) else z8i f l (i+1)
open Classical in
noncomputable def idxF (f:Int->Option Bool)(t:Bool)(s:List UInt8): Option Int:=
 if t=Aj/\(∀ n:Nat,n<128->(f (n:Int)).isSome=Aj)/\(∀ n:Nat,128<=n->n<=1114111->f (n:Int)=Ah Aj) then Ah (z8i f s 0) else Ai
end
section
open Go Go.RowKit
variable {qd:Prop}
def Vw (n:Nat)(p:Option Ax)(c L:Nat)(k:Int)(p':Option Ax)(m:Nat): Prop:=
 0<=k/\k.toNat+m=L/\L<=c/\∀ b o,p=Ah ⟨b,o,Ai⟩->m≠0->p'=Ah ⟨b,o+k.toNat*n,Ai⟩
section
variable {P:Aq}{ops:Array Oper}{Q:Exit->Ay->Ao->Prop}{a:Ay}{n:Nat}{S:List (Nat×Am)}{w:Ao}{K:Ay->Ao->Prop}
variable {A:List Nat}{Ls:List zK}{d:Nat}{ty:Ap}{pos:String}{af:Array Edge}{g:Option (Nat×Bool)}
variable {τ:Type}{e:E τ}{te:Ap}{Z:List Nat}{r:zK}{p p':Option Ax}{c c' m L:Nat}{l z:List τ}{k j:Int}{u:τ}{t:Ap}{x y lo hi:As}{kd:Au}
theorem yS.le (hA:yS e te Z w r p c l): l.length<=c:=by
 rcases hA with⟨_,_,rfl,rfl⟩ | ⟨_,_,_,_,_,h,_⟩
 ·grind
 ·exact h
theorem zZg{d:Option Tmp}{q:Unit}(hS:qV a n S)(hA:yS e te Z w r p c l)(hx:zV S x=Ah (.slice p l.length c))(ht:uM P t=Ah e.n)(hlo:zV S lo=Ah (.int kd k))
  (hm:chk (decide (0<=k)&&decide (k<=(l.length:Int)))=Ah q) :
  ∃ p' c',Vw e.n p c l.length k p' (Int.toNat ((l.length:Int)-k))/\∀ w',(Av a.eval ⟨d,.slice t x (Ah lo) Ai Ai,ty,pos,af,g⟩).run P w'=.ok (.value (.slice p' (Int.toNat ((l.length:Int)-k)) c')) w':=by
 have h0:0<=k/\k<=(l.length:Int):=by
  unfold chk at hm;split at hm
  ·grind
  ·cases hm
 have hle:=hA.le;unfold uM at ht;split at ht
 ·rename_i te' hu;cases hq:P.info? te' with
  | none=>grind
  | some info=>
   have hs:info.size=e.n:=by simpa [hq] using ht
   refine⟨if c=k.toNat then p else p.map (·.add (k.toNat*e.n)),c-k.toNat,⟨h0.1,by omega,hle,λb o hp hne=>?_⟩,λw'=>?_⟩
   ·subst hp;rw[Qa (by omega)];simp[zBg]
   ·have hb:=zL5 (P:=P) (w:=w') (b:=Aj) (m:=l.length) (c:=c) (lo:=Ah (.int kd k)) (hi:=Ai) (i:=k) (j:=l.length) (.inr ⟨_,rfl⟩) (.inl ⟨rfl,rfl⟩) h0.1 h0.2 (by omega);have hsub:l.length-k.toNat=((l.length:Int)-k).toNat:=by omega
    simp[Av,hS.eval hx,hS.eval hlo,Instr.sliceAt,Instr.slice,run_underlying hu,hb,sizeOf,typeInfo,hq,hs,hsub]
 ·cases ht
theorem z02{d:Option Tmp}(hS:qV a n S)(hA:yS e te Z w r p c l)(hx:zV S x=Ah (.slice p l.length c))(ht:uM P t=Ah e.n)(hhi:zV S hi=Ah (.int kd k))(hm:sub l 0 k=Ah z):
  yS e te Z w r p c z/\∀ w',(Av a.eval ⟨d,.slice t x Ai (Ah hi) Ai,ty,pos,af,g⟩).run P w'=.ok (.value (.slice p z.length c)) w':=by
 unfold sub at hm;split at hm;case isFalse=>cases hm
 rename_i h0;obtain⟨_,h1,h2⟩:=h0;simp only[Qf] at hm;have hz:z=l.take k.toNat:=by rw[<-hm];simp
 have hzl:z.length=k.toNat:=by rw[hz];simp;omega
 have hle:=hA.le;refine⟨?_,λw'=>?_⟩
 ·rcases hA with⟨rfl,rfl,rfl,rfl⟩ | ⟨b,o,cells,rfl,rfl,h3,h4,h5,h6⟩
  ·rw[hz];simpa using yS.nil
  ·refine .inr ⟨b,o,cells,rfl,rfl,by omega,h4,h5,?_⟩;have:=e.rdL_take k.toNat h6;rw[UB,Ua (QK _ (by omega))] at this;grind
 ·unfold uM at ht;split at ht
  ·rename_i te' hu;cases hq:P.info? te' with
   | none=>grind
   | some info=>
    have hb:=zL5 (P:=P) (w:=w') (b:=Aj) (m:=l.length) (c:=c) (lo:=Ai) (hi:=Ah (.int kd k)) (i:=0) (j:=k) (.inl ⟨rfl,rfl⟩) (.inr ⟨_,rfl⟩) (Ql _) h1 (by omega);have hp:p.map (λa:Ax=>a.add 0)=p:=by
     rcases hA with⟨_,rfl,_,_⟩ | ⟨b,o,cells,_,rfl,_⟩
     ·rfl
     ·simp[zBg]
    simp[Av,hS.eval hx,hS.eval hhi,Instr.sliceAt,Instr.slice,run_underlying hu,hb,sizeOf,typeInfo,hq,hzl,hp]
  ·cases ht
theorem zLD (z:Array Am): ∀ m,(Builtin.zeroCells z m).toList=(List.replicate m z.toList).flatten
 | 0=>by simp[Builtin.zeroCells]
 | m+1=>by
  rw[List.replicate_succ',List.flatten_append,<-zLD z m];apply Q8;intro i;simp only[Builtin.zeroCells,Array.toList_map,Array.toList_range,Um,List.flatten_singleton];by_cases h1:i<m*z.size
  ·grind
  ·rw[List.getElem?_append_right (by grind)];simp only[UJ,UA];by_cases h2:i<(m+1)*z.size
   ·rw[List.getElem?_range h2];rw[QV,U1] at h2;have hm:i % z.size=i-m*z.size:=by
     have:i=(i-m*z.size)+m*z.size:=by omega
     rw[this,Nat.add_mul_mod_self_right,Ui (by omega)];omega
    grind
   grind
theorem E.rdL_replicate{w:Ao}{zc:List Am}{zd:τ}(h:e.rd Z w zc zd): ∀ m,e.rdL Z w (List.replicate m zc).flatten (List.replicate m zd)
 | 0=>rfl
 | m+1=>by
  rw[List.replicate_succ,List.replicate_succ,Uz];exact⟨_,_,rfl,h,E.rdL_replicate h m⟩
end
end
section
open Go Go.RowKit
variable {qd:Prop}
structure PP where
 h:List Nat->Ao->Prop
 mv:∀ {Z w Z' w'},yB Z w Z' w'->h Z w->h Z' w'
def PP.tr:PP:=⟨λ_ _=>True,λ_ h=>h⟩
def R{τ:Type}(e:E τ)(p:Option Ax)(c m:Nat)(l:List τ): PP:=⟨λZ w=>xL e Z w p c l/\m=l.length,λs h=>⟨h.1.step e s,h.2⟩⟩
def Ar{τ:Type}(e:E τ)(te:Ap)(r:zK)(p:Option Ax)(c m:Nat)(l:List τ): PP:=⟨λZ w=>yS e te Z w r p c l/\m=l.length,λs h=>⟨h.1.mv s,h.2⟩⟩
def Pt{τ:Type}(e:E τ)(b o:Nat)(x:τ): PP:=⟨λZ w=>zSo e Z w ⟨b,o,Ai⟩ x,λs h=>h.mv s⟩
def Pu (q:Prop): PP:=⟨λ_ _=>q,λ_ h=>h⟩
def xI:List PP->List Nat->Ao->Prop
 | [],_,_=>True
 | f::r,Z,w=>f.h Z w/\xI r Z w
theorem xI.mv{Z Z':List Nat}{w w':Ao}(s:yB Z w Z' w'): ∀ {F:List PP},xI F Z w->xI F Z' w'
 | [],_=>trivial
 | f::_,h=>⟨f.mv s h.1,xI.mv s h.2⟩
theorem xI.app{Z:List Nat}{w:Ao}: ∀ {F G:List PP},xI F Z w->xI G Z w->xI (F++G) Z w
 | [],_,_,k=>k
 | _::_,_,h,k=>⟨h.1,xI.app h.2 k⟩
def xE:List PP->Nat->PP
 | [],_=>PP.tr
 | f::_,0=>f
 | _::r,k+1=>xE r k
theorem xI.at{Z:List Nat}{w:Ao}: ∀ {F:List PP},xI F Z w->∀ k,(xE F k).h Z w
 | [],_,_=>trivial
 | _::_,h,0=>h.1
 | _::_,h,k+1=>xI.at h.2 k
structure SS (qd:Prop)(A:List Nat)(L0:List zK)(w0:Ao)(n:Nat)(S:List (Nat×Am))(Ls:List zK)(F:List PP)(a:Ay)(w:Ao): Prop where
 s:qV a n S
 o:qK A w Ls
 e:qE qd L0 w0 Ls w
 f:xI F (bl Ls++A) w
structure Bk (qd:Prop)(A:List Nat)(L0:List zK)(w0:Ao)(L1:List zK)(F:List PP)(w:Ao): Prop where
 o:qK A w L1
 e:qE qd L0 w0 L1 w
 f:xI F (bl L1++A) w
abbrev bx (b t:Nat)(l:List Am): zK:=[(b,.cells l.toArray t (0,0))]
section
variable {A:List Nat}{L0 Ls Ls':List zK}{w0 w w':Ao}{n:Nat}{S S':List (Nat×Am)}{F F1:List PP}{a a':Ay}
theorem SS.g (h:SS qd A L0 w0 n S Ls F a w)(k:Nat): (xE F k).h (bl Ls++A) w:=h.f.at k
theorem SS.next (h:SS qd A L0 w0 n S Ls F a w)(hO:qK A w' Ls')(e:qE qd Ls w Ls' w')(hS:qV a' n S')(F1:List PP)(hF:xI F1 (bl Ls'++A) w'): SS qd A L0 w0 n S' Ls' (F1++F) a' w':=
 ⟨hS,hO,h.e.trans e,hF.app (h.f.mv (e.step A))⟩
theorem SS.slot (h:SS qd A L0 w0 n S Ls F a w)(hS:qV a' n S'): SS qd A L0 w0 n S' Ls F a' w:=⟨hS,h.o,h.e,h.f⟩
theorem SS.add (h:SS qd A L0 w0 n S Ls F a w){f:PP}(hf:f.h (bl Ls++A) w): SS qd A L0 w0 n S Ls (f::F) a w:=⟨h.s,h.o,h.e,hf,h.f⟩
theorem SS.upd (h:SS qd A L0 w0 n S Ls F a w){t:Nat}{v:Am}(v':Am)(hl:yF S t=Ah v)(e:v=v'): SS qd A L0 w0 n ((t,v')::S) Ls F a w:=h.slot (h.s.upd hl e)
theorem z8p (h:SS qd A L0 w0 n S Ls F a w)(js:List Nat)(hF:xI F1 (bl Ls++A) w)(hk:js.Nodup:=by decide): Bk qd A L0 w0 (xC Ls js) F1 w:=
 ⟨h.o.sel js hk,h.e.sel js,hF.mv (yB.sel js _ _ _)⟩
theorem SS.share{τ:Type}{e:E τ}{te:Ap}{r:zK}{p:Option Ax}{c m:Nat}{l:List τ}(h:SS qd A L0 w0 n S Ls F a w)(i:Nat)(hA:(Ar e te r p c m l).h (bl Ls++A) w)(hr:Ls[i]?=Ah r:=by rfl):
  SS qd A L0 w0 n S (Ls.set i []) (R e p c m l::F) a w:=
 ⟨h.s,h.o.dropped i,h.e.dropped i,⟨hA.1.share h.o hr,hA.2⟩,h.f.mv (yB.dropped i _ _ _)⟩
theorem SS.drop (h:SS qd A L0 w0 n S Ls F a w)(i:Nat): SS qd A L0 w0 n S (Ls.set i []) F a w:=⟨h.s,h.o.dropped i,h.e.dropped i,h.f.mv (yB.dropped i _ _ _)⟩
theorem SS.room{τ:Type}(h:SS qd A L0 w0 n S Ls F a w)(e:E τ)(te:Ap): SS qd A L0 w0 n S (Ls++[[]]) (Ar e te [] Ai 0 0 []::F) a w:=
 ⟨h.s,h.o.room,h.e.trans (qE.room Ls w),⟨yS.nil,rfl⟩,h.f.mv ((qE.room (qd:=qd) Ls w).step A)⟩
theorem rnil{τ:Type}(e:E τ)(Z:List Nat)(w:Ao)(p:Option Ax)(c:Nat): (R e p c 0 []).h Z w:=⟨xL.nil e Z w p c,rfl⟩
theorem R.cell{τ:Type}{e:E τ}{Z:List Nat}{w:Ao}{p:Option Ax}{c m:Nat}{l:List τ}(h:(R e p c m l).h Z w): (wF e).rd Z w [.slice p m c] l:=by
 obtain⟨h1,rfl⟩:=h;exact⟨p,c,rfl,h1⟩
theorem R.of{τ:Type}{e:E τ}{Z:List Nat}{w:Ao}{p:Option Ax}{c:Nat}{l:List τ}(h:xL e Z w p c l): (R e p c (List.length l) l).h Z w:=⟨h,rfl⟩
theorem qK.lessA{A A':List Nat}(h:qK A w Ls)(hs:∀ b∈A',b∈A): qK A' w Ls:=⟨λb hb=>h.old b (hs b hb),h.has,h.nodup,λb hb hA=>h.apart b hb (hs b hA)⟩
theorem zRm:∀(js ls:List Nat) (L:List zK),tA (js++ls) L=tA ls (tA js L)
 | [],_,_=>rfl
 | j::js,ls,L=>by simp only[Q1,tA];exact zRm js ls _
abbrev Ac (A:List Nat)(Ls:List zK)(js ls:List Nat): List Nat:=bl (tA (js++ls) Ls)++A
theorem z8a{js ls:List Nat}: ∀ b∈Ac A Ls js ls,b∈bl (tA js Ls)++A:=by
 intro b hb;grind [zRm,zLN]
theorem SS.po (h:SS qd A L0 w0 n S Ls F a w)(js ls:List Nat)(hk:z2U (js++ls) Ls.length=true:=by kernel_rfl): qK (Ac A Ls js ls) w (xC Ls js):=
 (h.o.picks js (QS.1 (zNM hk).1).1).lessA z8a
theorem SS.pstep (js ls:List Nat): yB (bl Ls++A) w (bl (xC Ls js)++Ac A Ls js ls) w:=yB.less w λb hb=>by
 grind [zZS,z8a]
theorem SS.pl{τ:Type}{e:E τ}{te:Ap}{r:zK}{p:Option Ax}{c m:Nat}{l:List τ}(h:SS qd A L0 w0 n S Ls F a w)(js ls:List Nat)(i:Nat)(hA:(Ar e te r p c m l).h (bl Ls++A) w)(hr:Ls[i]?=Ah r:=by rfl)
  (hk:z2U (js++ls) Ls.length=true:=by kernel_rfl) (hi:ls.contains i=true:=by kernel_rfl):(R e p c m l).h (bl (xC Ls js)++Ac A Ls js ls) w:=by
 refine⟨?_,hA.2⟩;obtain⟨hn,_⟩:=zNM hk;have hi':i∈ls:=by simpa using hi
 have hij:i∉js:=λhj=>(QS.1 hn).2.2 i hj i hi' rfl;rcases hA.1 with⟨_,_,_,rfl⟩ | ⟨b,o,cells,rfl,rfl,h3,h4,h5,h6⟩
 ·exact⟨QT _,.inl rfl⟩
 ·have hb:=zAj h.o hr (Qh.2 rfl);refine⟨h3,.inr ⟨b,o,_,rfl,λhm=>?_,(Qz.1 hb).1,e.rdL_step (SS.pstep js ls) h6,λj u hu=>?_⟩⟩
  ·rcases Qj.1 hm with hm | hm
   ·obtain⟨s,hs,q,hq,he⟩:=zIH.1 hm;obtain⟨k,hk,hlk⟩:=zQU hs hq;exact zEm h.o.nodup hr hlk (λe=>hij (e▸hk)) _ (Qh.2 rfl) q hq he.symm
   ·rcases Qj.1 hm with hm | hm
    ·obtain⟨k,s,hk,hs,q,hq,he⟩:=zQH hm;exact zEm h.o.nodup hr hs (λe=>hk (Qj.2 (.inr (e▸hi')))) _ (Qh.2 rfl) q hq he.symm
    ·exact h.o.apart b (zBl hr (Qh.2 rfl)) hm
  grind [cell_of_row]
structure AC (qd:Prop)(A:List Nat)(L0:List zK)(w0:Ao)(n:Nat)(S:List (Nat×Am))(Ls:List zK)(F:List PP)(js ls:List Nat)(w:Ao)(a':Ay)(w':Ao): Prop where
 s:qV a' n S
 o:qK A w Ls
 e:qE qd L0 w0 Ls w
 f:xI F (bl Ls++A) w
theorem qK.widen{A':List Nat}{L1:List zK}{js:List Nat}(h:qK A w Ls)(hn:js.Nodup)(ho:qK A' w' L1)(e:qE qd (xC Ls js) w L1 w'): qK (bl (tA js Ls)++A) w' L1:=by
 have hp:=h.picks js hn;refine⟨λb hb=>QP (hp.old b hb) e.size,ho.has,ho.nodup,λb hb hA=>?_⟩;rcases e.fresh b hb with h1 | h1
 ·exact hp.apart b h1 hA
 ·have:=hp.old b hA;omega
theorem AC.ext{js ls:List Nat}{L1:List zK}(c:AC qd A L0 w0 n S Ls F js ls w a' w')(q:Bk qd (Ac A Ls js ls) (xC Ls js) w L1 F1 w')(Ls':List zK)
  (hk:z2U (js++ls) Ls.length=Aj) (hl:Nat.ble js.length L1.length=Aj) (hLs:zTW js (L1.take js.length) Ls++L1.drop js.length=Ls'):qK A w' Ls'/\qE qd Ls w Ls' w':=by
 subst hLs;have hl:=QN hl;obtain⟨hn,hlt⟩:=zNM hk;have hn1:=(QS.1 hn).1;have hlt1:∀ j∈js,j<Ls.length:=λj hj=>hlt j (Qj.2 (.inl hj));have hlen:(L1.take js.length).length=js.length:=by simp;omega
 have hq:=c.o.widen hn1 q.o q.e;have he:=q.e;rw[<-QC js.length L1] at hq he;exact⟨c.o.fills hn1 hlt1 hlen hq he,qE.fills hn1 hlt1 hlen he⟩
theorem AC.on{js ls:List Nat}{L1:List zK}(c:AC qd A L0 w0 n S Ls F js ls w a' w')(q:Bk qd (Ac A Ls js ls) (xC Ls js) w L1 F1 w')(Ls':List zK)
  (hk:z2U (js++ls) Ls.length=true:=by kernel_rfl) (hl:Nat.ble js.length L1.length=true:=by kernel_rfl) (hLs:zTW js (L1.take js.length) Ls++L1.drop js.length=Ls':=by rfl)
  (hf:ls=[]\/F1=[]:=by first | exact .inl rfl | exact .inr rfl):SS qd A L0 w0 n S Ls' (F1++F) a' w':=by
 obtain⟨hO,hE⟩:=c.ext q Ls' hk hl hLs;have hl:=QN hl;refine⟨c.s,hO,c.e.trans hE,xI.app ?_ (c.f.mv (hE.step A))⟩;rcases hf with rfl | rfl
 ·obtain⟨hn,hlt⟩:=zNM hk;rw[QE] at hn hlt;have hlen:(L1.take js.length).length=js.length:=by simp;omega
  have hF:=q.f;subst hLs;refine hF.mv ?_;have:=yB.fills (Ls:=Ls) (js:=js) (rs:=L1.take js.length) (new:=L1.drop js.length) hn hlt hlen A w';rw[QC] at this;grind
 ·trivial
theorem AC.st{js ls:List Nat}{L1:List zK}(c:AC qd A L0 w0 n S Ls F js ls w a' w')(q:Bk qd (Ac A Ls js ls) (xC Ls js) w L1 F1 w')(Ls':List zK)
  (hk:z2U (js++ls) Ls.length=true:=by kernel_rfl) (hl:Nat.ble js.length L1.length=true:=by kernel_rfl) (hLs:zTW js (L1.take js.length) Ls++L1.drop js.length=Ls':=by rfl):qE qd Ls w Ls' w':=(c.ext q Ls' hk hl hLs).2
end
section
variable {P:Aq}{ops:Array Oper}{Q:Exit->Ay->Ao->Prop}{K:Ay->Ao->Prop}{rest:List Oper}
variable {A:List Nat}{L0 Ls:List zK}{w0 w:Ao}{n:Nat}{S:List (Nat×Am)}{F:List PP}{a:Ay}
variable {d:Nat}{ty:Ap}{pos:String}{af:Array Edge}{g:Option (Nat×Bool)}
variable{fn:Func}
theorem ent{f:FuncId}{c:Code}{vs:List Am}{R:Ending->Ao->Prop}(hf:P.funcs[f]?=Ah fn)(hb:fn.body=Ah c)(hO:qK A w0 L0)(hF:xI F (bl L0++A) w0)
  (k:∀ a,SS qd A L0 w0 fn.ntmps (zLr vs 0) L0 F a w0->c.wp P (bodyPost P fn R) a w0) (hn:Nat.ble vs.length fn.ntmps=true:=by kernel_rfl):Calls P f vs.toArray w0 R:=
 enter hf hb hn λa hS=>k a ⟨hS,hO,qE.refl _ _,hF⟩
theorem sp{id:Nat}{l:List Oper}{y:Code}(S2:List (Nat×Am))(h:SS qd A L0 w0 n S Ls F a w)(k:∀ a,SS qd A L0 w0 n (S2++S) Ls F a w->y.wp P Q a w)
  (hr:(zJ9 P l.toArray l S).bind (λs=>zUU s (S2.map Prod.fst))=Ah S2:=by kernel_rfl) (hd:zYP n S2 S (zYt l)=true:=by kernel_rfl) :
  (Code.seq (.region id l.toArray Ak) y).wp P Q a w:=by
 refine wp_seq (reg ?_);refine z7S l.length S2 h.s (by grind) (by grind) λa hS=>?_;rw[UE];exact z0Q (z6Q (k a (h.slot hS)))
theorem ss{x y:Code}(h:y.wp P Q a w)(hx:x=.skip:=by rfl): (Code.seq x y).wp P Q a w:=by grind [wp_seq,wp_skip,z6Q]
variable{v:Am}
theorem rt1{t:Nat}{R:Am->Ao->Prop}(h:SS qd A L0 w0 n S Ls F a w)(hf:fn.results=#[.tmp t])(hv:yF S t=Ah v)(hR:R v w): bodyPost P fn (Ret R) .ret a w:=ret1 h.s hf hv hR
theorem rtg{rs:List ResultVar}{vs:List Am}{R:Am->Ao->Prop}(h:SS qd A L0 w0 n S Ls F a w)(hf:fn.results=rs.toArray)(hr:z1r P S w rs vs)
  (hR:R (if h:vs.length=1 then vs[0] else .tuple vs.toArray) w):bodyPost P fn (Ret R) .ret a w:=ret_g h.s hf hr hR
variable{b:Nat}{fr:Nat×Nat}
theorem rtc{t ty:Nat}{c:Array Am}{te:Ap}{r:List ResultVar}{vs:List Am}(i:Nat)(h:SS qd A L0 w0 n S Ls F a w)(hl:yF S t=Ah (.pointer (Ah ⟨b,0,Ai⟩)))(hr:Ls[i]?=Ah [(b,.cells c te fr)])
  (k:z1r P S w r vs) (hv:zKu P ty c 0=Ah v:=by kernel_rfl):z1r P S w (.cell t ty::r) (v::vs):=resC h.o i hl hr hv k
theorem z7X{op:Op}{v:Am}(h:SS qd A L0 w0 n S Ls F a w)(hr:∀ w',(Av a.eval ⟨Ah d,op,ty,pos,af,g⟩).run P w'=.ok (.value v) w')(k:∀ a,SS qd A L0 w0 n ((d,v)::S) Ls F a w->K a w)
  (hd:Nat.blt d n=true:=by kernel_rfl) (hg:qI ops S g=Ah true:=by kernel_rfl):vK P ops Q ⟨Ah d,op,ty,pos,af,g⟩ K a w:=
 zEa h.s hd hg (hr w) λa hS=>k a (h.slot hS)
variable{o:Nat}
theorem zOF (i:Nat){x:As}{t:Nat}{c:Array Am}{te:Ap}(v:Am)(h:SS qd A L0 w0 n S Ls F a w)(hx:zV S x=Ah (.pointer (Ah ⟨b,o,Ai⟩)))(hr:Ls[i]?=Ah [(b,.cells c te fr)])
  (k:∀ a,SS qd A L0 w0 n ((d,v)::S) Ls F a w->K a w) (hv:zKu P t c o=Ah v:=by kernel_rfl) (hd:Nat.blt d n=true:=by kernel_rfl) (hg:qI ops S g=Ah true:=by kernel_rfl) :
  vK P ops Q ⟨Ah d,.load t x,ty,pos,af,g⟩ K a w:=z1S i h.s hd hg h.o hx hr hv λa hS=>k a (h.slot hS)
theorem zTZ (i:Nat){x y:As}{t:Nat}{c:Array Am}{te:Ap}(h:SS qd A L0 w0 n S Ls F a w)(hx:zV S x=Ah (.pointer (Ah ⟨b,o,Ai⟩)))(hy:zV S y=Ah v)(hr:Ls[i]?=Ah [(b,.cells c te (0,0))])
  (k:∀ a w',SS qd A L0 w0 n S (Ls.set i [(b,.cells (zZv c o v.cells.toList) te (0,0))]) F a w'->qE qd Ls w (Ls.set i [(b,.cells (zZv c o v.cells.toList) te (0,0))]) w'->K a w')
  (hv:zKq P t c o v=true:=by kernel_rfl) (hg:qI ops S g=Ah true:=by kernel_rfl):vK P ops Q ⟨Ai,.store t x y,ty,pos,af,g⟩ K a w:=
 zYV i h.s hg h.o hx hy hr hv λw' hO e a hS=>k a w' (h.next hO e hS [] trivial) e
theorem b_box{x:As}{t:Ap}(h:SS qd A L0 w0 n S Ls F a w)(hx:zV S x=Ah v)
  (k:∀ b a w',SS qd A L0 w0 n ((d,.pointer (Ah ⟨b,0,Ai⟩))::S) (Ls++[[(b,.cells v.cells t (0,0))]]) F a w'->qE qd Ls w (Ls++[[(b,.cells v.cells t (0,0))]]) w'->K a w')
  (hd:Nat.blt d n=true:=by kernel_rfl) (hg:qI ops S g=Ah true:=by kernel_rfl):vK P ops Q ⟨Ah d,.box t x,ty,pos,af,g⟩ K a w:=
 op_box h.s hd hg h.o hx λb w' hO e a hS=>k b a w' (h.next hO e hS [] trivial) e
theorem z9a{t:Ap}{z:Am}(h:SS qd A L0 w0 n S Ls F a w)(hz:zHO P t=Ah z)
  (k:∀ b a w',SS qd A L0 w0 n ((d,.pointer (Ah ⟨b,0,Ai⟩))::S) (Ls++[[(b,.cells z.cells t (0,0))]]) F a w'->qE qd Ls w (Ls++[[(b,.cells z.cells t (0,0))]]) w'->K a w')
  (hd:Nat.blt d n=true:=by kernel_rfl) (hg:qI ops S g=Ah true:=by kernel_rfl):vK P ops Q ⟨Ah d,.alloc t,ty,pos,af,g⟩ K a w:=
 z7m h.s hd hg h.o hz λb w' hO e a hS=>k b a w' (h.next hO e hS [] trivial) e
section
variable {τ σ:Type}{e:E τ}{f:E σ}{te:Ap}{r:zK}{p:Option Ax}{c m:Nat}{l:List τ}{ix:Int}{u:τ}{t:Ap}{x y:As}{kd:Au}
theorem z3C (h:SS qd A L0 w0 n S Ls F a w)(hR:(R e p c m l).h (bl Ls++A) w)(hx:zV S x=Ah (.slice p m c))(hy:zV S y=Ah (.int kd ix))(hm:zD l ix=Ah u)
  (k:∀ b o a,SS qd A L0 w0 n ((d,.pointer (Ah ⟨b,o,Ai⟩))::S) Ls (Pt e b o u::F) a w->K a w)
  (ht:uM P t=Ah e.n:=by kernel_rfl) (hd:Nat.blt d n=true:=by kernel_rfl) (hg:qI ops S g=Ah true:=by kernel_rfl):vK P ops Q ⟨Ah d,.indexAddr t x y,ty,pos,af,g⟩ K a w:=by
 obtain⟨hR,rfl⟩:=hR;exact z0T h.s hd hg hR hx hy ht hm λb o hP a hS=>k b o a ((h.slot hS).add hP)
theorem z5s{y:τ}(ag:Bool)(h:SS qd A L0 w0 n S Ls F a w)(hP:(Pt e b o y).h (bl Ls++A) w)(hx:zV S x=Ah (.pointer (Ah ⟨b,o,Ai⟩)))
  (k:∀ ci,e.rd (bl Ls++A) w ci y->∀ v,mkV ag ci=Ah v->∀ a',SS qd A L0 w0 n ((d,v)::S) Ls F a' w->K a' w) (ht:uE P t=Ah (ag,e.n):=by kernel_rfl) (hag:ag=Aj\/e.n=1:=by first | exact .inl rfl | exact .inr rfl)
  (hd:Nat.blt d n=true:=by kernel_rfl) (hg:qI ops S g=Ah true:=by kernel_rfl):vK P ops Q ⟨Ah d,.load t x,ty,pos,af,g⟩ K a w:=
 z3G ag h.s hd hg hP hx ht (λci hc v hv a hS=>k ci hc v hv a (h.slot hS)) hag
theorem z0E (h:SS qd A L0 w0 n S Ls F a w)(hA:(Ar e te r p c m l).h (bl Ls++A) w)(hx:zV S x=Ah (.slice p m c))(hy:zV S y=Ah (.int kd ix))(hm:zD l ix=Ah u)
  (k:∀ b o,p=Ah ⟨b,o,Ai⟩->∀ a,SS qd A L0 w0 n ((d,.pointer (Ah ⟨b,o+ix.toNat*e.n,Ai⟩))::S) Ls F a w->K a w)
  (ht:uM P t=Ah e.n:=by kernel_rfl) (hd:Nat.blt d n=true:=by kernel_rfl) (hg:qI ops S g=Ah true:=by kernel_rfl):vK P ops Q ⟨Ah d,.indexAddr t x y,ty,pos,af,g⟩ K a w:=by
 obtain⟨hA,rfl⟩:=hA;exact zZr h.s hd hg hA hx hy ht hm λb o hp a hS=>k b o hp a (h.slot hS)
theorem z3S (i:Nat)(s:tT e f)(ag:Bool)(h:SS qd A L0 w0 n S Ls F a w)(hA:(Ar e te r p c m l).h (bl Ls++A) w)(hp:p=Ah ⟨b,o,Ai⟩)(hm:zD l ix=Ah u)
  (hx:zV S x=Ah (.pointer (Ah ⟨b,o+ix.toNat*e.n+s.off,Ai⟩)))
  (k:∀ ci,f.rd (bl Ls++A) w ci (s.get u)->∀ v,mkV ag ci=Ah v->∀ a',SS qd A L0 w0 n ((d,v)::S) Ls F a' w->K a' w) (hr:Ls[i]?=Ah r:=by rfl) (ht:uE P t=Ah (ag,f.n):=by kernel_rfl) (hag:ag=Aj\/f.n=1:=by first | exact .inl rfl | exact .inr rfl)
  (hd:Nat.blt d n=true:=by kernel_rfl) (hg:qI ops S g=Ah true:=by kernel_rfl):vK P ops Q ⟨Ah d,.load t x,ty,pos,af,g⟩ K a w:=
 z06 i s ag h.s hd hg h.o hr hA.1 hp hm hx ht (λci hc v hv a hS=>k ci hc v hv a (h.slot hS)) hag
theorem z1T (i:Nat)(s:tT e f)(z:σ)(ag:Bool)(h:SS qd A L0 w0 n S Ls F a w)(hA:(Ar e te r p c m l).h (bl Ls++A) w)(hp:p=Ah ⟨b,o,Ai⟩)(hm:zD l ix=Ah u)
  (hx:zV S x=Ah (.pointer (Ah ⟨b,o+ix.toNat*e.n+s.off,Ai⟩))) (hy:zV S y=Ah v) (hv:f.rd (bl Ls++A) w v.cells.toList z)
  (k:∀ r' a' w',SS qd A L0 w0 n S (Ls.set i r') (Ar e te r' p c m (l.set ix.toNat (s.put u z))::F) a' w'->qE qd Ls w (Ls.set i r') w'->K a' w') (hr:Ls[i]?=Ah r:=by rfl) (ht:uE P t=Ah (ag,f.n):=by kernel_rfl)
  (hg:qI ops S g=Ah true:=by kernel_rfl):vK P ops Q ⟨Ai,.store t x y,ty,pos,af,g⟩ K a w:=
 zY5 i s ag h.s hg h.o hr hA.1 hp hm hx hy ht hv λr' w' hO e hA' a hS=>k r' a w' (h.next hO e hS [_] ⟨⟨hA',by rw[Ug];exact hA.2⟩,trivial⟩) e
variable{q:Option Ax}{c2 m2:Nat}
theorem z27 (i:Nat){l2 z:List τ}(h:SS qd A L0 w0 n S Ls F a w)(hA:(Ar e te r p c m l).h (bl Ls++A) w)(hR:(R e q c2 m2 l2).h (bl Ls++A) w)(hx:zV S x=Ah (.slice p m c))(hy:zV S y=Ah (.slice q m2 c2))(hm:qG l l2=Ah z)
  (k:∀ r' p' c' a' w',SS qd A L0 w0 n ((d,.slice p' (List.length z) c')::S) (Ls.set i r') (Ar e te r' p' c' (List.length z) z::F) a' w'->qE qd Ls w (Ls.set i r') w'->K a' w') (hr:Ls[i]?=Ah r:=by rfl) (ht:xM P t te e.n=true:=by kernel_rfl)
  (hd:Nat.blt d n=true:=by kernel_rfl) (hg:qI ops S g=Ah true:=by kernel_rfl) :
  vK P ops Q ⟨Ah d,.call { callee:=.builtin .append,args:=[x,y].toArray,argTypes:=[t,t].toArray },ty,pos,af,g⟩ K a w:=by
 obtain⟨hA,rfl⟩:=hA;obtain⟨hR,rfl⟩:=hR;exact zZ4 i te h.s hd hg h.o hr hA hR.src hx hy ht hm λr' p' c' w' hO e hA' a hS=>k r' p' c' a w' (h.next hO e hS [_] ⟨⟨hA',rfl⟩,trivial⟩) e
theorem z2a (i j:Nat){r2:zK}{l2 z:List τ}(h:SS qd A L0 w0 n S Ls F a w)(hA:(Ar e te r p c m l).h (bl Ls++A) w)(hR:(Ar e te r2 q c2 m2 l2).h (bl Ls++A) w)(hx:zV S x=Ah (.slice p m c))(hy:zV S y=Ah (.slice q m2 c2))(hm:qG l l2=Ah z)
  (k:∀ r' p' c' a' w',SS qd A L0 w0 n ((d,.slice p' (List.length z) c')::S) (Ls.set i r') (Ar e te r' p' c' (List.length z) z::F) a' w'->qE qd Ls w (Ls.set i r') w'->K a' w') (hr:Ls[i]?=Ah r:=by rfl) (hr2:Ls[j]?=Ah r2:=by rfl) (ht:xM P t te e.n=true:=by kernel_rfl)
  (hd:Nat.blt d n=true:=by kernel_rfl) (hg:qI ops S g=Ah true:=by kernel_rfl) :
  vK P ops Q ⟨Ah d,.call { callee:=.builtin .append,args:=[x,y].toArray,argTypes:=[t,t].toArray },ty,pos,af,g⟩ K a w:=by
 obtain⟨hA,rfl⟩:=hA;obtain⟨hR,rfl⟩:=hR;exact zZ4 i te h.s hd hg h.o hr hA (hR.src h.o hr2) hx hy ht hm λr' p' c' w' hO e hA' a hS=>k r' p' c' a w' (h.next hO e hS [_] ⟨⟨hA',rfl⟩,trivial⟩) e
variable{parts:List (Nat×As)}
theorem z9b{q:Nat}(cs:List Am)(l:List τ)(h:SS qd A L0 w0 n S Ls F a w)(hrd:e.rdL (bl Ls++A) w cs l)
  (k:∀ p c a' w',SS qd A L0 w0 n ((d,.slice p (List.length l) c)::S) Ls (R e p c (List.length l) l::F) a' w'->qE qd Ls w Ls w'->K a' w') (te:Ap) (ht:xM P t te e.n=true:=by kernel_rfl) (hc:zJQ P S t q parts=Ah cs:=by kernel_rfl) (hl:l.length=q:=by rfl)
  (hd:Nat.blt d n=true:=by kernel_rfl) (hg:qI ops S g=Ah true:=by kernel_rfl):vK P ops Q ⟨Ah d,.buildSlice t q parts.toArray,ty,pos,af,g⟩ K a w:=
 z6m cs l h.s hd hg h.o ht hc hrd hl λp c w' hO e hR a hS=>k p c a w' (h.next hO e hS [_] ⟨⟨hR,rfl⟩,trivial⟩) e
theorem z6o{q:Nat}(cs:List Am)(l:List τ)(h:SS qd A L0 w0 n S Ls F a w)(hrd:e.rdL (bl Ls++A) w cs l)
  (k:∀ r p c a' w',SS qd A L0 w0 n ((d,.slice p (List.length l) c)::S) (Ls++[r]) (Ar e te r p c (List.length l) l::F) a' w'->qE qd Ls w (Ls++[r]) w'->K a' w') (ht:xM P t te e.n=true:=by kernel_rfl) (hc:zJQ P S t q parts=Ah cs:=by kernel_rfl) (hl:l.length=q:=by rfl)
  (hm:Nat.ble q 16777216=true:=by kernel_rfl) (hd:Nat.blt d n=true:=by kernel_rfl) (hg:qI ops S g=Ah true:=by kernel_rfl):vK P ops Q ⟨Ah d,.buildSlice t q parts.toArray,ty,pos,af,g⟩ K a w:=
 z6R te cs l h.s hd hg h.o ht hc hrd hl hm λr p c w' hO e hA a hS=>k r p c a w' (h.next hO e hS [_] ⟨⟨hA,rfl⟩,trivial⟩) e
variable{s:Ap}
theorem r_strOf{Z:List Nat}{l:List Int}{d:Option Tmp}(hS:qV a n S)(hR:(R (zT .u8) p c m l).h Z w)(hx:zV S x=Ah (.slice p m c))(hs:P.underlying s=Ah (.slice te))(he:P.underlying te=Ah (.int .u8))(ht:P.underlying t=Ah .string):
  (Av a.eval ⟨d,.convert s t x,ty,pos,af,g⟩).run P w=.ok (.value (vs (xV l))) w:=by
 obtain⟨hR,rfl⟩:=hR;have hrun:(Conv.bytesToString (.slice p l.length c)).run P w=.ok (vs (xV l)) w:=by
  cases p with
  | none=>
   rcases hR.2 with rfl | ⟨b,off,cs,h,_⟩
   ·rfl
   ·cases h
  | some ad=>
   rcases hR.2 with rfl | ⟨b,off,cs,h,hb,hlt,hl,hc⟩
   ·simp[Conv.bytesToString,loadCells,loadCellsFrom,xV];rfl
   ·cases h;have hlen:cs.length=l.length:=by rw[(zT .u8).rdL_len hl];simp[zT]
    have hld:=run_loadCells_list (P:=P) w ⟨b,off,Ai⟩ cs (λj u hu=>by grind [zBg]);rw[hlen] at hld;simp only[Conv.bytesToString,Sem.run_bind,hld,Result.andThen_ok];rw[<-Array.forIn_toList];rw[zWL _ (λ_ _=>rfl) l _ Z w w _ (by grind)];rfl
 simp[Av,convert,hS.eval hx,run_underlying hs,run_underlying ht,run_underlying he,hrun]
theorem z95{l:List Int}(h:SS qd A L0 w0 n S Ls F a w)(hR:(R (zT .u8) p c m l).h (bl Ls++A) w)(hx:zV S x=Ah (.slice p m c))(hs:P.underlying s=Ah (.slice te))(he:P.underlying te=Ah (.int .u8))(ht:P.underlying t=Ah .string)
  (k:∀ a,SS qd A L0 w0 n ((d,vs (xV l))::S) Ls F a w->K a w) (hd:Nat.blt d n=true:=by kernel_rfl) (hg:qI ops S g=Ah true:=by kernel_rfl):vK P ops Q ⟨Ah d,.convert s t x,ty,pos,af,g⟩ K a w:=
 zEa h.s hd hg (r_strOf h.s hR hx hs he ht) λa hS=>k a (h.slot hS)
end
theorem b_call{f:FuncId}{cal:As}{xs:List As}{bs0 caps:List Am}{ats:Array Ap}{vs:List Am}{R:Am->Ao->Prop}(js ls:List Nat)(h:SS qd A L0 w0 n S Ls F a w)
  (hf:∀ args w,(callFunc f args).run P w=.ok (.enter f args) w) (hcal:zV S cal=Ah (.func (.func f) bs0.toArray caps.toArray)) (hx:z1w S xs=Ah vs)
  (hc:Calls P f (bs0++vs++caps).toArray w (Ret R)) (k:∀ v a' w',R v w'->AC qd A L0 w0 n ((d,v)::S) Ls F js ls w a' w'->K a' w')
  (hd:Nat.blt d n=true:=by kernel_rfl) (hg:qI ops S g=Ah true:=by kernel_rfl) :
  vK P ops Q ⟨Ah d,.call { callee:=.value cal,args:=xs.toArray,argTypes:=ats },ty,pos,af,g⟩ K a w:=by
 unfold vK;rw[Qi (zEI (o:=⟨Ah d,.call { callee:=.value cal,args:=xs.toArray,argTypes:=ats },ty,pos,af,g⟩) h.s hg)];have hr:(Av a.eval ⟨Ah d,.call { callee:=.value cal,args:=xs.toArray,argTypes:=ats },ty,pos,af,g⟩).run P w=.ok (.enter f (bs0++vs++caps).toArray) w:=by
  simp[Av,resolve,Deferred.ofValue,invoke,h.s.eval hcal,hf,h.s.evals hx]
 unfold Oper.wp;rw[hr];refine hc.mono λe w' hh=>?_;cases e with
 | returned v=>exact k v _ w' hh ⟨h.s.put hd v,h.o,h.e,h.f⟩
 | panicked ch=>exact hh.elim
 | outgrown=>exact hh.elim
end
end
section
open Go Go.RowKit
variable {qd:Prop}
section
variable {P:Aq}{ops:Array Oper}{Q:Exit->Ay->Ao->Prop}
variable {A:List Nat}{L0 Ls:List zK}{w0 w:Ao}{n:Nat}{S:List (Nat×Am)}{F:List PP}{a:Ay}
variable {d:Nat}{ty:Ap}{pos:String}{af:Array Edge}{g:Option (Nat×Bool)}{B J:List Nat}{listed:Array Bool}{fuel:Nat}
variable{id:Nat}
theorem ds{l:List Oper}{y:Code}(B J:List Nat)(h:SS qd A L0 w0 n S Ls F a w)
  (k:∀ w',SS qd A L0 w0 n S Ls F a w'->wV P l.toArray (Exit.then (λa w=>y.wp P Q a w) Q) (SB B (CC qd A Ls w' J)) l.length (Array.replicate l.length Ak) a w') (hm:P.follows .mixedOrders=true:=by kernel_rfl) :
  (Code.seq (.region id l.toArray Aj) y).wp P Q a w:=
 wp_seq (z5d hm B J h.o λw' hO e=>k w' (h.next hO e h.s [] trivial))
theorem ds'{l:List Oper}(B J:List Nat)(h:SS qd A L0 w0 n S Ls F a w)
  (k:∀ w',SS qd A L0 w0 n S Ls F a w'->wV P l.toArray Q (SB B (CC qd A Ls w' J)) l.length (Array.replicate l.length Ak) a w') (hm:P.follows .mixedOrders=true:=by kernel_rfl) :
  (Code.region id l.toArray Aj).wp P Q a w:=
 z5d hm B J h.o λw' hO e=>k w' (h.next hO e h.s [] trivial)
theorem de (h:Q .normal a w)(hr:Region.ready .any ops listed=[]:=by kernel_rfl): wV P ops Q (SB B (CC qd A Ls w J)) fuel listed a w:=d_end hr h fuel
variable{op:Op}
theorem dp (i:Nat)(v:Am)(h:SS qd A L0 w0 n S Ls F a w)(hi:ops[i]?=Ah ⟨Ah d,op,ty,pos,af,g⟩)
  (k:∀ a,SS qd A L0 w0 n ((d,v)::S) Ls F a w->wV P ops Q (SB B (CC qd A Ls w J)) fuel (listed.setIfInBounds i Aj) a w)
  (hQ:∀ c (v:Am) a w,Q (.panic c) (a.put (Ah d) v) w->Q (.panic c) a w:=by exact λ_ _ _ _ h=>h)
  (hk:uG ops B listed i=true:=by kernel_rfl) (hd:Nat.blt d n=true:=by kernel_rfl) (hg:qI ops S g=Ah true:=by kernel_rfl) (hv:pv P S op=Ah v:=by kernel_rfl) :
  wV P ops Q (SB B (CC qd A Ls w J)) (fuel+1) listed a w:=d_pure i v h.o h.s hi hk hd (λc=>hQ c v) hg hv λa hS=>k a (h.slot hS)
theorem dv (i:Nat){v:Am}(h:SS qd A L0 w0 n S Ls F a w)(hi:ops[i]?=Ah ⟨Ah d,op,ty,pos,af,g⟩)(hv:∀ w',(Av a.eval ⟨Ah d,op,ty,pos,af,g⟩).run P w'=.ok (.value v) w')
  (k:∀ a,SS qd A L0 w0 n ((d,v)::S) Ls F a w->wV P ops Q (SB B (CC qd A Ls w J)) fuel (listed.setIfInBounds i Aj) a w)
  (hQ:∀ c (v:Am) a w,Q (.panic c) (a.put (Ah d) v) w->Q (.panic c) a w:=by exact λ_ _ _ _ h=>h)
  (hk:uG ops B listed i=true:=by kernel_rfl) (hd:Nat.blt d n=true:=by kernel_rfl) (hg:qI ops S g=Ah true:=by kernel_rfl) :
  wV P ops Q (SB B (CC qd A Ls w J)) (fuel+1) listed a w:=z6g i h.o h.s hi hk hd (λc=>hQ c v) hg hv λa hS=>k a (h.slot hS)
theorem dk (i:Nat)(h:SS qd A L0 w0 n S Ls F a w)(hi:ops[i]?=Ah ⟨Ah d,op,ty,pos,af,g⟩)
  (k:∀ a,SS qd A L0 w0 n ((d,undef)::S) Ls F a w->wV P ops Q (SB B (CC qd A Ls w J)) fuel (listed.setIfInBounds i Aj) a w)
  (hQ:∀ c (v:Am) a w,Q (.panic c) (a.put (Ah d) v) w->Q (.panic c) a w:=by exact λ_ _ _ _ h=>h)
  (hk:uG ops B listed i=true:=by kernel_rfl) (hd:Nat.blt d n=true:=by kernel_rfl) (hg:qI ops S g=Ah false:=by kernel_rfl) :
  wV P ops Q (SB B (CC qd A Ls w J)) (fuel+1) listed a w:=d_skip i h.o h.s hi hk hd (λc=>hQ c undef) hg λa hS=>k a (h.slot hS)
variable{b o:Nat}
theorem dlo (i r:Nat){x:As}{t:Nat}{c:Array Am}{te:Ap}{fr:Nat×Nat}(v:Am)(h:SS qd A L0 w0 n S Ls F a w)(hi:ops[i]?=Ah ⟨Ah d,.load t x,ty,pos,af,g⟩)
  (hx:zV S x=Ah (.pointer (Ah ⟨b,o,Ai⟩))) (hr:Ls[r]?=Ah [(b,.cells c te fr)])
  (k:∀ a,SS qd A L0 w0 n ((d,v)::S) Ls F a w->wV P ops Q (SB B (CC qd A Ls w J)) fuel (listed.setIfInBounds i Aj) a w)
  (hv:zKu P t c o=Ah v:=by kernel_rfl) (hb:B.all (λj=>behind ops i ops.size j)=true:=by kernel_rfl) (hJ:J.contains r=true:=by kernel_rfl)
  (hQ:∀ c (v:Am) a w,Q (.panic c) (a.put (Ah d) v) w->Q (.panic c) a w:=by exact λ_ _ _ _ h=>h)
  (hk:uG ops B listed i=true:=by kernel_rfl) (hd:Nat.blt d n=true:=by kernel_rfl) (hg:qI ops S g=Ah true:=by kernel_rfl) :
  wV P ops Q (SB B (CC qd A Ls w J)) (fuel+1) listed a w:=z2r i r h.o h.s hi hk hd (λc=>hQ c v) hg hb hJ hx hr hv λa hS=>k a (h.slot hS)
section
variable {τ σ:Type}{e:E τ}{f:E σ}{te:Ap}{r:zK}{p:Option Ax}{c m:Nat}{l:List τ}{ix:Int}{u:τ}{t:Ap}{x y:As}{kd:Au}
theorem dir (i:Nat)(h:SS qd A L0 w0 n S Ls F a w)(hi:ops[i]?=Ah ⟨Ah d,.indexAddr t x y,ty,pos,af,g⟩)(hR:(R e p c m l).h (bl Ls++A) w)(hx:zV S x=Ah (.slice p m c))(hy:zV S y=Ah (.int kd ix))(hm:zD l ix=Ah u)
  (k:∀ b o a,SS qd A L0 w0 n ((d,.pointer (Ah ⟨b,o,Ai⟩))::S) Ls (Pt e b o u::F) a w->wV P ops Q (SB B (CC qd A Ls w J)) fuel (listed.setIfInBounds i Aj) a w)
  (ht:uM P t=Ah e.n:=by kernel_rfl) (hQ:∀ c (v:Am) a w,Q (.panic c) (a.put (Ah d) v) w->Q (.panic c) a w:=by exact λ_ _ _ _ h=>h)
  (hk:uG ops B listed i=true:=by kernel_rfl) (hd:Nat.blt d n=true:=by kernel_rfl) (hg:qI ops S g=Ah true:=by kernel_rfl) :
  wV P ops Q (SB B (CC qd A Ls w J)) (fuel+1) listed a w:=by
 obtain⟨hR,rfl⟩:=hR;exact z2s i h.o h.s hi hk hd hQ hg hR hx hy ht hm λb o hP a hS=>k b o a ((h.slot hS).add hP)
theorem dlp (i:Nat){y:τ}(ag:Bool)(h:SS qd A L0 w0 n S Ls F a w)(hi:ops[i]?=Ah ⟨Ah d,.load t x,ty,pos,af,g⟩)(hP:(Pt e b o y).h (bl Ls++A) w)(hx:zV S x=Ah (.pointer (Ah ⟨b,o,Ai⟩)))
  (k:∀ ci,e.rd (bl Ls++A) w ci y->∀ v,mkV ag ci=Ah v->∀ a',SS qd A L0 w0 n ((d,v)::S) Ls F a' w->wV P ops Q (SB B (CC qd A Ls w J)) fuel (listed.setIfInBounds i Aj) a' w)
  (ht:uE P t=Ah (ag,e.n):=by kernel_rfl) (hag:ag=Aj\/e.n=1:=by first | exact .inl rfl | exact .inr rfl) (hb:B.all (λj=>behind ops i ops.size j)=true:=by kernel_rfl)
  (hQ:∀ c (v:Am) a w,Q (.panic c) (a.put (Ah d) v) w->Q (.panic c) a w:=by exact λ_ _ _ _ h=>h)
  (hk:uG ops B listed i=true:=by kernel_rfl) (hd:Nat.blt d n=true:=by kernel_rfl) (hg:qI ops S g=Ah true:=by kernel_rfl) :
  wV P ops Q (SB B (CC qd A Ls w J)) (fuel+1) listed a w:=
 z61 i ag h.o h.s hi hk hd hQ hg hb hP hx ht (λci hc v hv a hS=>k ci hc v hv a (h.slot hS)) hag
theorem dia (i:Nat)(h:SS qd A L0 w0 n S Ls F a w)(hi:ops[i]?=Ah ⟨Ah d,.indexAddr t x y,ty,pos,af,g⟩)(hA:(Ar e te r p c m l).h (bl Ls++A) w)(hx:zV S x=Ah (.slice p m c))(hy:zV S y=Ah (.int kd ix))(hm:zD l ix=Ah u)
  (k:∀ b o,p=Ah ⟨b,o,Ai⟩->∀ a,SS qd A L0 w0 n ((d,.pointer (Ah ⟨b,o+ix.toNat*e.n,Ai⟩))::S) Ls F a w->wV P ops Q (SB B (CC qd A Ls w J)) fuel (listed.setIfInBounds i Aj) a w)
  (ht:uM P t=Ah e.n:=by kernel_rfl) (hQ:∀ c (v:Am) a w,Q (.panic c) (a.put (Ah d) v) w->Q (.panic c) a w:=by exact λ_ _ _ _ h=>h)
  (hk:uG ops B listed i=true:=by kernel_rfl) (hd:Nat.blt d n=true:=by kernel_rfl) (hg:qI ops S g=Ah true:=by kernel_rfl) :
  wV P ops Q (SB B (CC qd A Ls w J)) (fuel+1) listed a w:=by
 obtain⟨hA,rfl⟩:=hA;exact z1O i h.o h.s hi hk hd hQ hg hA hx hy ht hm λb o hp a hS=>k b o hp a (h.slot hS)
theorem dla (i ri:Nat)(s:tT e f)(ag:Bool)(h:SS qd A L0 w0 n S Ls F a w)(hi:ops[i]?=Ah ⟨Ah d,.load t x,ty,pos,af,g⟩)(hA:(Ar e te r p c m l).h (bl Ls++A) w)(hp:p=Ah ⟨b,o,Ai⟩)(hm:zD l ix=Ah u)
  (hx:zV S x=Ah (.pointer (Ah ⟨b,o+ix.toNat*e.n+s.off,Ai⟩)))
  (k:∀ ci,f.rd (bl Ls++A) w ci (s.get u)->∀ v,mkV ag ci=Ah v->∀ a',SS qd A L0 w0 n ((d,v)::S) Ls F a' w->wV P ops Q (SB B (CC qd A Ls w J)) fuel (listed.setIfInBounds i Aj) a' w)
  (hr:Ls[ri]?=Ah r:=by rfl) (ht:uE P t=Ah (ag,f.n):=by kernel_rfl) (hag:ag=Aj\/f.n=1:=by first | exact .inl rfl | exact .inr rfl)
  (hb:B.all (λj=>behind ops i ops.size j)=true:=by kernel_rfl) (hJ:J.contains ri=true:=by kernel_rfl)
  (hQ:∀ c (v:Am) a w,Q (.panic c) (a.put (Ah d) v) w->Q (.panic c) a w:=by exact λ_ _ _ _ h=>h)
  (hk:uG ops B listed i=true:=by kernel_rfl) (hd:Nat.blt d n=true:=by kernel_rfl) (hg:qI ops S g=Ah true:=by kernel_rfl) :
  wV P ops Q (SB B (CC qd A Ls w J)) (fuel+1) listed a w:=
 z2w i ri s ag h.o h.s hi hk hd hQ hg hb hJ hr hA.1 hp hm hx ht (λci hc v hv a hS=>k ci hc v hv a (h.slot hS)) hag
end
variable{oi:Oper}
theorem d1 (i:Nat)(hi:ops[i]?=Ah oi)
  (h:vK P ops Q oi (λa' w'=>SB B (CC qd A Ls w J) (listed.setIfInBounds i Aj) w'/\wV P ops Q (SB B (CC qd A Ls w J)) fuel (listed.setIfInBounds i Aj) a' w') a w) (hr:Region.ready .any ops listed=[i]:=by kernel_rfl) :
  wV P ops Q (SB B (CC qd A Ls w J)) (fuel+1) listed a w:=d_one i hr hi h
variable{i:Nat}
theorem zZt(hi:ops[i]?=Ah oi){K:Ay->Ao->Prop}(h:vK P ops Q oi K a w): wpOp P ops Q i K a w:=by
 unfold wpOp;simp only[hi];unfold vK at h;grind
variable{oj:Oper}
theorem d2 (i j:Nat)(hi:ops[i]?=Ah oi)(hj:ops[j]?=Ah oj)
  (h:vK P ops Q oi (λa' w'=>SB B (CC qd A Ls w J) (listed.setIfInBounds i Aj) w'/\wV P ops Q (SB B (CC qd A Ls w J)) fuel (listed.setIfInBounds i Aj) a' w') a w)
  (h':vK P ops Q oj (λa' w'=>SB B (CC qd A Ls w J) (listed.setIfInBounds j Aj) w'/\wV P ops Q (SB B (CC qd A Ls w J)) fuel (listed.setIfInBounds j Aj) a' w') a w) (hr:Region.ready .any ops listed=[i,j]:=by kernel_rfl) :
  wV P ops Q (SB B (CC qd A Ls w J)) (fuel+1) listed a w:=by
 refine⟨λh0=>(by grind),λq hq=>?_⟩;rw[hr] at hq;simp only[QO,List.not_mem_nil,or_false] at hq;rcases hq with rfl | rfl
 ·exact zZt hi h
 ·exact zZt hj h'
theorem d3 (i j k:Nat){ok:Oper}(hi:ops[i]?=Ah oi)(hj:ops[j]?=Ah oj)(hk:ops[k]?=Ah ok)
  (h:vK P ops Q oi (λa' w'=>SB B (CC qd A Ls w J) (listed.setIfInBounds i Aj) w'/\wV P ops Q (SB B (CC qd A Ls w J)) fuel (listed.setIfInBounds i Aj) a' w') a w)
  (h':vK P ops Q oj (λa' w'=>SB B (CC qd A Ls w J) (listed.setIfInBounds j Aj) w'/\wV P ops Q (SB B (CC qd A Ls w J)) fuel (listed.setIfInBounds j Aj) a' w') a w)
  (h'':vK P ops Q ok (λa' w'=>SB B (CC qd A Ls w J) (listed.setIfInBounds k Aj) w'/\wV P ops Q (SB B (CC qd A Ls w J)) fuel (listed.setIfInBounds k Aj) a' w') a w) (hr:Region.ready .any ops listed=[i,j,k]:=by kernel_rfl) :
  wV P ops Q (SB B (CC qd A Ls w J)) (fuel+1) listed a w:=by
 refine⟨λh0=>(by grind),λq hq=>?_⟩;rw[hr] at hq;simp only[QO,List.not_mem_nil,or_false] at hq;rcases hq with rfl | rfl | rfl
 ·exact zZt hi h
 ·exact zZt hj h'
 ·exact zZt hk h''
variable{Ls':List zK}{w':Ao}{S':List (Nat×Am)}{F':List PP}{a':Ay}
theorem dn{l:Array Bool}(h:SS qd A L0 w0 n S' Ls' F' a' w')(hE:qE qd Ls w Ls' w')
  (k:wV P ops Q (SB B (CC qd A Ls' w' J)) fuel l a' w') (hJ:J.map (Ls'[·]?)=J.map (Ls[·]?):=by rfl):SB B (CC qd A Ls w J) l w'/\wV P ops Q (SB B (CC qd A Ls w J)) fuel l a' w':=d_next h.o hE hJ k
theorem db{l:Array Bool}(B' J':List Nat)(_h:SS qd A L0 w0 n S' Ls' F' a' w')(h:wV P ops Q (SB B' (CC qd A Ls' w' J')) fuel l a' w')(hb:B.all (λj=>!l.getD j Ak)=false:=by kernel_rfl):
  SB B (CC qd A Ls w J) l w'/\wV P ops Q (SB B (CC qd A Ls w J)) fuel l a' w':=z9f B' J' hb h
theorem dless(_h:SS qd A L0 w0 n S' Ls' F' a w)(k:wV P ops Q (SB B (CC qd A Ls' w J)) fuel listed a w)(hs:∀ b∈bl Ls',b∈bl Ls)(hJ:J.map (Ls'[·]?)=J.map (Ls[·]?):=by rfl):
  wV P ops Q (SB B (CC qd A Ls w J)) fuel listed a w:=by
 refine zSu fuel listed a w (λl2 w2 _ hs2 hb=>?_) k;obtain⟨L2,h1,h2,h3⟩:=hs2 hb;exact⟨L2,h1,⟨h2.os,h2.tape,h2.output,h2.drawn,h2.size,λk hk hn=>h2.keep k hk (λhm=>hn (hs k hm)),λb hb=>(h2.fresh b hb).imp (hs b) id⟩,h3.trans hJ⟩
theorem z7y: ∀ b∈bl (Ls.set i []),b∈bl Ls:=λb hb=>by
 rcases zD2 hb with⟨p,hp,_⟩ | ⟨j,s,_,hs,p,hp,rfl⟩
 ·cases hp
 ·exact zBl hs hp
theorem z5r:∀ b∈bl (Ls++[[]]),b∈bl Ls:=λb hb=>by grind [zBv,bl]
end
end
section
open Go Go.RowKit
variable {qd:Prop}
theorem SS.tos{A:List Nat}{L0 Ls:List zK}{w0 w:Ao}{n:Nat}{S S2:List (Nat×Am)}{F F2:List PP}{a:Ay}(h:SS qd A L0 w0 n S Ls F a w)(js:List Nat)(hF:xI F2 (bl Ls++A) w)(hS:zUU S (S2.map Prod.fst)=Ah S2:=by kernel_rfl)(hk:js.Nodup:=by decide): SS qd A L0 w0 n S2 (xC Ls js) F2 a w:=
 ⟨h.s.only _ hS,h.o.sel js hk,h.e.sel js,hF.mv (yB.sel js _ _ _)⟩
section
variable {P:Aq}{ops:Array Oper}{Q:Exit->Ay->Ao->Prop}{K:Ay->Ao->Prop}{rest:List Oper}
variable {A:List Nat}{L0 Ls:List zK}{w0 w:Ao}{n:Nat}{S:List (Nat×Am)}{F:List PP}{a:Ay}
variable {d:Nat}{ty:Ap}{pos:String}{af:Array Edge}{g:Option (Nat×Bool)}{B J:List Nat}{listed:Array Bool}{fuel:Nat}
variable{y:As}{k:Au}{q:Int}
theorem z82{x:As}{t u:Ap}{p r:Int}{d:Option Tmp}(hS:qV a n S)(hx:zV S x=Ah (.int k p))(hy:zV S y=Ah (.int k q))(hm:z6u k p q=Ah r)(w:Ao):
  (Av a.eval ⟨d,.binOp .quo t x y u,ty,pos,af,g⟩).run P w=.ok (.value (.int k r)) w:=by
 unfold z6u at hm;split at hm
 ·cases hm
 ·rename_i h0;simp only[Qf] at hm;subst hm;simp[Av,hS.eval hx,hS.eval hy,zDu,binOp,Op.intDiv,h0]
theorem z2Y{x:As}{t u:Ap}{p r:Int}{d:Option Tmp}(hS:qV a n S)(hx:zV S x=Ah (.int k p))(hy:zV S y=Ah (.int k q))(hm:z08 p q=Ah r)(w:Ao):
  (Av a.eval ⟨d,.binOp .rem t x y u,ty,pos,af,g⟩).run P w=.ok (.value (.int k r)) w:=by
 unfold z08 at hm;split at hm
 ·cases hm
 ·rename_i h0;simp only[Qf] at hm;subst hm;simp[Av,hS.eval hx,hS.eval hy,zDu,binOp,Op.intDiv,h0]
variable{k':Au}
theorem zOr{x:As}{t u:Ap}{p r:Int}{d:Option Tmp}(hS:qV a n S)(hx:zV S x=Ah (.int k p))(hy:zV S y=Ah (.int k' q))(hm:z04 k p q=Ah r)(w:Ao):
  (Av a.eval ⟨d,.binOp .shl t x y u,ty,pos,af,g⟩).run P w=.ok (.value (.int k r)) w:=by
 unfold z04 at hm;split at hm
 ·cases hm
 ·rename_i h0;simp only[Qf] at hm;subst hm;simp[Av,hS.eval hx,hS.eval hy,zDu,zOM (op:=.shl) (k:=k) (a:=p) (b:=q) (v:=.int k (shl k p q)) (by simp[zWQ];omega)]
theorem zZd{x:As}{t u:Ap}{p r:Int}{d:Option Tmp}(hS:qV a n S)(hx:zV S x=Ah (.int k p))(hy:zV S y=Ah (.int k' q))(hm:zZw k p q=Ah r)(w:Ao):
  (Av a.eval ⟨d,.binOp .shr t x y u,ty,pos,af,g⟩).run P w=.ok (.value (.int k r)) w:=by
 unfold zZw at hm;split at hm
 ·cases hm
 ·rename_i h0;simp only[Qf] at hm;subst hm;simp[Av,hS.eval hx,hS.eval hy,zDu,zOM (op:=.shr) (k:=k) (a:=p) (b:=q) (v:=.int k (shr k p q)) (by simp[zWQ];omega)]
section
variable {τ:Type}{e:E τ}{te:Ap}{r:zK}{p:Option Ax}{c m:Nat}{l z:List τ}{i j:Int}{t:Ap}{x hi':As}{lo hi:Option As}{vlo vhi:Option Am}{kd:Au}{k0:Int}
theorem z3D (h:SS qd A L0 w0 n S Ls F a w)(hR:(R e p c m l).h (bl Ls++A) w)(hx:zV S x=Ah (.slice p m c))(hlo:zSW S lo=Ah vlo)(hhi:zSW S hi=Ah vhi)(b1:Bd vlo i 0)(b2:Bd vhi j l.length)(hm:sub l i j=Ah z)
  (k:∀ p' c' a,SS qd A L0 w0 n ((d,.slice p' (List.length z) c')::S) Ls (R e p' c' (List.length z) z::F) a w->K a w)
  (ht:uM P t=Ah e.n:=by kernel_rfl) (hd:Nat.blt d n=true:=by kernel_rfl) (hg:qI ops S g=Ah true:=by kernel_rfl):vK P ops Q ⟨Ah d,.slice t x lo hi Ai,ty,pos,af,g⟩ K a w:=by
 obtain⟨hR,rfl⟩:=hR;obtain⟨p',c',hr,hf⟩:=z4p (P:=P) (d:=Ah d) (ty:=ty) (pos:=pos) (af:=af) (g:=g) h.s hR hx ht hlo hhi b1 b2 hm;exact zEa h.s hd hg (hr w) λa hS=>k p' c' a ((h.slot hS).add (f:=R e p' c' (List.length z) z) ⟨hf,rfl⟩)
theorem z48 (q:Nat)(h:SS qd A L0 w0 n S Ls F a w)(hi0:ops[q]?=Ah ⟨Ah d,.slice t x lo hi Ai,ty,pos,af,g⟩)(hR:(R e p c m l).h (bl Ls++A) w)(hx:zV S x=Ah (.slice p m c))(hlo:zSW S lo=Ah vlo)(hhi:zSW S hi=Ah vhi)(b1:Bd vlo i 0)(b2:Bd vhi j l.length)(hm:sub l i j=Ah z)
  (k:∀ p' c' a,SS qd A L0 w0 n ((d,.slice p' (List.length z) c')::S) Ls (R e p' c' (List.length z) z::F) a w->wV P ops Q (SB B (CC qd A Ls w J)) fuel (listed.setIfInBounds q Aj) a w)
  (ht:uM P t=Ah e.n:=by kernel_rfl) (hQ:∀ c (v:Am) a w,Q (.panic c) (a.put (Ah d) v) w->Q (.panic c) a w:=by exact λ_ _ _ _ h=>h)
  (hk:uG ops B listed q=true:=by kernel_rfl) (hd:Nat.blt d n=true:=by kernel_rfl) (hg:qI ops S g=Ah true:=by kernel_rfl):wV P ops Q (SB B (CC qd A Ls w J)) (fuel+1) listed a w:=by
 obtain⟨hR,rfl⟩:=hR;obtain⟨p',c',hr,hf⟩:=z4p (P:=P) (d:=Ah d) (ty:=ty) (pos:=pos) (af:=af) (g:=g) h.s hR hx ht hlo hhi b1 b2 hm;exact z6g q h.o h.s hi0 hk hd (λc=>hQ c _) hg hr λa hS=>k p' c' a ((h.slot hS).add (f:=R e p' c' (List.length z) z) ⟨hf,rfl⟩)
theorem z0m (h:SS qd A L0 w0 n S Ls F a w)(hA:(Ar e te r p c m l).h (bl Ls++A) w)(hx:zV S x=Ah (.slice p m c))(hhi:zV S hi'=Ah (.int kd k0))(hm:sub l 0 k0=Ah z)
  (k:∀ a,SS qd A L0 w0 n ((d,.slice p (List.length z) c)::S) Ls (Ar e te r p c (List.length z) z::F) a w->K a w)
  (ht:uM P t=Ah e.n:=by kernel_rfl) (hd:Nat.blt d n=true:=by kernel_rfl) (hg:qI ops S g=Ah true:=by kernel_rfl):vK P ops Q ⟨Ah d,.slice t x Ai (Ah hi') Ai,ty,pos,af,g⟩ K a w:=by
 obtain⟨hA,rfl⟩:=hA;obtain⟨hf,hr⟩:=z02 (P:=P) (d:=Ah d) (ty:=ty) (pos:=pos) (af:=af) (g:=g) h.s hA hx ht hhi hm;exact zEa h.s hd hg (hr w) λa hS=>k a ((h.slot hS).add (f:=Ar e te r p c (List.length z) z) ⟨hf,rfl⟩)
theorem r_nil{u:Ap}{d:Option Tmp}(hS:qV a n S)(hx:zV S x=Ah (.slice p m c))(hu:P.underlying t=Ah (.slice te))(w:Ao):
  (Av a.eval ⟨d,.binOp .eql t x (.const (.slice Ai 0 0)) u,ty,pos,af,g⟩).run P w=.ok (.value (vb p.isNone)) w:=z90 hS hx hu w
theorem R.ln{Z:List Nat}{w:Ao}(h:(R e p c m l).h Z w): m=l.length:=h.2
theorem Ar.ln{Z:List Nat}{w:Ao}(h:(Ar e te r p c m l).h Z w): m=l.length:=h.2
theorem R.re{Z:List Nat}{w:Ao}(h:(R e p c m l).h Z w): (R e p c (List.length l) l).h Z w:=⟨h.1,rfl⟩
theorem Ar.re{Z:List Nat}{w:Ao}(h:(Ar e te r p c m l).h Z w): (Ar e te r p c (List.length l) l).h Z w:=⟨h.1,rfl⟩
theorem R.isNil{Z:List Nat}{w:Ao}(h:(R e p c m l).h Z w)(hp:p.isNone=Aj): l=[]:=xL.isNil h.1 hp
end
end
end
section
open Go Go.RowKit
variable {qd:Prop}
section
variable {P:Aq}{ops:Array Oper}{Q:Exit->Ay->Ao->Prop}{K:Ay->Ao->Prop}
variable {A:List Nat}{L0 Ls:List zK}{w0 w:Ao}{n:Nat}{S:List (Nat×Am)}{F:List PP}{a:Ay}
variable {d:Nat}{ty:Ap}{pos:String}{af:Array Edge}{g:Option (Nat×Bool)}{B J:List Nat}{listed:Array Bool}{fuel:Nat}
variable {τ:Type}{e:E τ}{te:Ap}{r:zK}{p:Option Ax}{c m:Nat}{l z:List τ}{i j:Int}{t:Ap}{x:As}
theorem qK.allocated{w':Ao}(hO:qK A w Ls)(o:Obj)(hw:w'.heap=(w.alloc o).heap): qK A w' Ls:=
 ⟨λb hb=>by rw[hw];have:=hO.old b hb;simp;omega,λr hr p hp=>by rw[hw,Below.heap_alloc w _ p.1 (Qz.1 (hO.has r hr p hp)).1];exact hO.has r hr p hp,hO.nodup,hO.apart⟩
theorem qE.allocated{w':Ao}(Ls:List zK)(o:Obj)(hw:w'.heap=(w.alloc o).heap)(ho:w'.os=w.os)(ht:w'.tape=w.tape)(hp:w'.output=w.output)(hd:qd->w.drawn<=w'.drawn): qE qd Ls w Ls w':=
 ⟨ho,ht,hp,hd,by rw[hw];simp,λk hk _=>by grind [Below.heap_alloc],λb hb=>.inl hb⟩
theorem zUS{q:Option Ax}{l2:List τ}{k:Nat}(hO:qK A w Ls)(hR:xL e (bl Ls++A) w p l.length l)(hY:Src e (bl Ls++A) w q l2)(ht:xM P t te e.n=Aj)(hm:qG l l2=Ah z)(rty:Ap):
  ∃ p' c' w',(Builtin.append_ #[t,t] rty #[.slice p l.length l.length,.slice q l2.length k]).run P w=.ok (.slice p' z.length c') w'/\qK A w' Ls/\qE qd Ls w Ls w'/\xL e (bl Ls++A) w' p' c' z:=by
 obtain⟨hsm,rfl⟩:=z44 hm;obtain⟨hu,info,zv,hi,hz,hsize,hby,hpos,hzs⟩:=zJP ht;by_cases hm0:l2=[]
 ·subst hm0;exact⟨p,l.length,w,by simpa using zJg (k:=k) (q:=q) hu hi (Qd _),hO,qE.refl _ _,by grind⟩
 ·have hmpos:0<l2.length:=QF.2 hm0;rcases hY with hY | ⟨b2,off,cs2,rfl,hcs2,hcell⟩
  ·grind
  ·have hl2:cs2.length=l2.length*info.size:=by rw[e.rdL_len hcs2,hsize]
   have hnews:∀ j u,cs2[j]?=Ah u->w.cell? ((⟨b2,off,Ai⟩:Ax).add j)=Ah u:=λj u hu=>by grind [zBg]
   have hbytes:(l.length+l2.length)*info.bytes<=140737488355328:=by
    have:=US (Nat.le_of_lt hsm) hby;omega
   have h63:((l.length+l2.length:Nat):Int)<=9223372036854775807:=by omega
   have hold:∃ olds,olds.length=l.length*info.size/\e.rdL (bl Ls++A) w olds l/\(∀ ad,p=Ah ad->∀ j u,olds[j]?=Ah u->w.cell? (ad.add j)=Ah u):=by
    rcases hR.2 with rfl | ⟨b,o,cs,rfl,_,_,h1,h2⟩
    ·exact⟨[],by simp,rfl,by simp⟩
    ·exact⟨cs,by rw[e.rdL_len h1,hsize],h1,λad had j u hu=>by grind [zBg]⟩
   obtain⟨olds,ho1,ho2,ho3⟩:=hold;have key:∀(zs:Array Am) (c':Nat),l.length+l2.length<=c'->xL e (bl Ls++A) (w.drew.alloc (.cells (olds.toArray++cs2.toArray++zs) te)) (Ah ⟨w.heap.size,0,Ai⟩) c' (l++l2):=by
    intro zs c' hc';have hE:qE qd Ls w Ls (w.drew.alloc (.cells (olds.toArray++cs2.toArray++zs) te)):=qE.allocated Ls _ rfl rfl rfl rfl (λ_=>Uu _);refine⟨by grind,.inr ⟨w.heap.size,0,olds++cs2,rfl,λhmem=>?_,by simp,e.rdL_append (e.rdL_step (hE.step A) ho2) (e.rdL_step (hE.step A) hcs2),λj u hu=>?_⟩⟩
    ·rcases Qj.1 hmem with h | h
     ·exact Uc _ (hO.lt h)
     ·exact Uc _ (hO.old _ h)
    ·rw[cell_of_row _ w.heap.size (0+j) (olds.toArray++cs2.toArray++zs) te (0,0) (heap_alloc_new w.drew _),Uv];grind
   cases p with
   | none=>
    have hl0:l=[]:=by
     rcases hR.2 with h | ⟨_,_,_,h,_⟩
     ·exact h
     ·cases h
    subst hl0;have ho0:olds=[]:=Ue (by grind);subst ho0;have hrun:=run_append_nil (P:=P) w t rty te info zv hu hi hz ⟨b2,off,Ai⟩ l2.length k cs2 hl2 hnews hmpos (by omega) (by grind);have hge:=grownCap_ge w l2.length 0 te;rw[QI];refine⟨_,_,_,hrun,hO.allocated _ rfl,qE.allocated Ls _ rfl rfl rfl rfl (λ_=>Uu _),?_⟩;grind
   | some ad=>
    have hrun:=run_append_grow (P:=P) w t rty te info zv hu hi hz ad l.length l.length olds ho1 (ho3 ad rfl) ⟨b2,off,Ai⟩ l2.length k cs2 hl2 hnews (by omega) h63 (growslice_fits (by omega) hbytes);have hge:=grownCap_ge w (l.length+l2.length) l.length te;rw[<-Qg] at hrun;refine⟨_,_,_,hrun,hO.allocated _ rfl,qE.allocated Ls _ rfl rfl rfl rfl (λ_=>Uu _),key _ _ (by grind)⟩
theorem z3Y{q:Option Ax}{c2 m2:Nat}{l2:List τ}{y:As}(h:SS qd A L0 w0 n S Ls F a w)(hA:(R e p m m l).h (bl Ls++A) w)(hR:(R e q c2 m2 l2).h (bl Ls++A) w)(hx:zV S x=Ah (.slice p m m))(hy:zV S y=Ah (.slice q m2 c2))(hm:qG l l2=Ah z)
  (k:∀ p' c' a' w',SS qd A L0 w0 n ((d,.slice p' (List.length z) c')::S) Ls (R e p' c' (List.length z) z::F) a' w'->qE qd Ls w Ls w'->K a' w') (te:Ap) (ht:xM P t te e.n=true:=by kernel_rfl)
  (hd:Nat.blt d n=true:=by kernel_rfl) (hg:qI ops S g=Ah true:=by kernel_rfl) :
  vK P ops Q ⟨Ah d,.call { callee:=.builtin .append,args:=[x,y].toArray,argTypes:=[t,t].toArray },ty,pos,af,g⟩ K a w:=by
 obtain⟨hA,rfl⟩:=hA;obtain⟨hR,rfl⟩:=hR;obtain⟨p',c',w',hrun,h1,h2,h3⟩:=zUS (P:=P) (k:=c2) h.o hA hR.src ht hm ty;refine zEa h.s hd hg (v:=.slice p' z.length c') (w':=w') ?_ λa hS=>k p' c' a w' (h.next h1 h2 hS [R e p' c' (List.length z) z] ⟨⟨h3,rfl⟩,trivial⟩) h2;simp[Av,resolve,invoke,builtin,h.s.eval hx,h.s.eval hy,hrun]
theorem zZA{lo:Option As}{hi mx:As}{vlo:Option Am}{k1 k2:Au}(h:SS qd A L0 w0 n S Ls F a w)(hR:(R e p c m l).h (bl Ls++A) w)(hx:zV S x=Ah (.slice p m c))(hlo:zSW S lo=Ah vlo)(hhi:zV S hi=Ah (.int k1 j))(hmx:zV S mx=Ah (.int k2 j))(b1:Bd vlo i 0)(hm:sub l i j=Ah z)
  (k:∀ p' a,SS qd A L0 w0 n ((d,.slice p' (List.length z) (List.length z))::S) Ls (R e p' (List.length z) (List.length z) z::F) a w->K a w)
  (ht:uM P t=Ah e.n:=by kernel_rfl) (hd:Nat.blt d n=true:=by kernel_rfl) (hg:qI ops S g=Ah true:=by kernel_rfl):vK P ops Q ⟨Ah d,.slice t x lo (Ah hi) (Ah mx),ty,pos,af,g⟩ K a w:=by
 obtain⟨hR,rfl⟩:=hR;unfold sub at hm;split at hm;case isFalse=>cases hm
 rename_i h0;simp only[Qf] at hm;obtain⟨h1,h2,h3⟩:=h0;subst hm;have hzl:((l.take j.toNat).drop i.toNat).length=j.toNat-i.toNat:=by simp;omega
 have hlc:=hR.1;unfold uM at ht;split at ht;case h_2=>cases ht
 rename_i te hu;cases hq:P.info? te with
 | none=>grind
 | some info=>
  have hs:info.size=e.n:=by simpa [hq] using ht
  have hb:(Instr.sliceBounds Aj l.length c vlo (Ah (.int k1 j)) (Ah (.int k2 j))).run P w=.ok (i.toNat,j.toNat,j.toNat) w:=by
   have h0j:0<=j:=by omega
   have hmax:max j 0=j:=by omega
   rcases b1 with⟨rfl,rfl⟩ | ⟨k3,rfl⟩
   ·simp[Instr.sliceBounds,Instr.sliceBound,asIntOf,h0j,show j<=(c:Int) by omega,hmax]
   ·simp[Instr.sliceBounds,Instr.sliceBound,asIntOf,h0j,h1,h2,show j<=(c:Int) by omega,hmax]
  refine zEa h.s hd hg (v:=.slice (if j.toNat=i.toNat then p else p.map (·.add (i.toNat*e.n))) (List.length ((l.take j.toNat).drop i.toNat)) (List.length ((l.take j.toNat).drop i.toNat))) (w':=w) ?_ λa hS=>
   k _ a ((h.slot hS).add (f:=R e _ _ _ _) ⟨⟨Qd _,?_⟩,rfl⟩)
  ·simp[Av,h.s.eval hx,h.s.evalO hlo,h.s.eval hhi,h.s.eval hmx,Instr.sliceAt,Instr.slice,run_underlying hu,hb,sizeOf,typeInfo,hq,hs,hzl]
  ·by_cases he:(l.take j.toNat).drop i.toNat=[]
   ·grind
   ·rcases hR.2 with rfl | ⟨b,off,cs,rfl,hb,hlt,hl,hcell⟩
    ·grind
    ·have hne:¬ j.toNat=i.toNat:=λhci=>he (Ue (by grind));refine .inr ⟨b,off+i.toNat*e.n,(cs.take (j.toNat*e.n)).drop (i.toNat*e.n),by simp[hne,zBg],hb,hlt,e.rdL_drop _ (e.rdL_take _ hl),λk u hu=>?_⟩;grind
end
end
section
open Go Go.RowKit
variable {qd:Prop}
structure zRE (P:Aq)(t kt vt:Ap){κ:Type}[BEq κ](kv:κ->Am): Prop where
 hu:P.underlying t=Ah (.map kt vt)
 ck:∀ b x w,(Instr.checkKey b 10000 kt (kv x)).run P w=.ok () w
 eq:∀ x y w,(Op.equal kt (kv x) (kv y)).run P w=.ok (x==y) w
 now:∃ d,P.underlying kt=Ah d/\∀ x y,Instr.sameNow d (kv x) (kv y)=Ai\/Instr.sameNow d (kv x) (kv y)=Ah (x==y)
 sb:∀ x,Instr.sameBits 10000 (kv x) (kv x)=Aj
theorem ba_beq (s:zA): ((⟨s.toArray⟩:ByteArray)==⟨s.toArray⟩)=true:=by
 show(s.toArray==s.toArray)=Aj;simp
def Brn (es:List MapEntry)(c:Nat): Prop:=(es.map (·.born)).Nodup/\∀ e∈es,e.born<c
def Mp{κ ν:Type}(kv:κ->Am)(vv:ν->Am)(r:zK)(b:Nat)(l:List (κ×ν)): Prop:=
 ∃ es c,r=[(b,.map es c)]/\es.toList.map (λe=>(e.key,e.val))=l.map (λx=>(kv x.1,vv x.2))/\Brn es.toList c
def Ma{κ ν:Type}(kv:κ->Am)(vv:ν->Am)(r:zK)(b:Nat)(l:List (κ×ν)): PP:=⟨λ_ _=>Mp kv vv r b l,λ_ h=>h⟩
section
variable {P:Aq}{w:Ao}{t kt vt:Ap}{κ ν:Type}[BEq κ]{kv:κ->Am}{vv:ν->Am}
theorem zOd[LawfulBEq κ](H:zRE P t kt vt kv)(k:κ): ∀(es:List MapEntry) (l:List (κ×ν)) (i:Nat),es.map (λe=>(e.key,e.val))=l.map (λx=>(kv x.1,vv x.2))->
  ∃ o,(Instr.findAsking kt (kv k) es i).run P w=.ok o w/\(match o with
   | none=>tX l k=Ai
   | some (j,v)=>i<=j/\∃ x,l[j-i]?=Ah x/\k=x.1/\tX l k=Ah x.2/\v=vv x.2/\∀ q y,q<j-i->l[q]?=Ah y->(k==y.1)=Ak)
 | [],[],i,_=>⟨Ai,by simp[Instr.findAsking],rfl⟩
 | [],_::_,i,h=>by simp at h
 | _::_,[],i,h=>by simp at h
 | e::es,x::l,i,h=>by
  simp only[QU,List.cons.injEq,Prod.mk.injEq] at h;obtain⟨⟨h1,h2⟩,h3⟩:=h;have heq:=H.eq k x.1 w;by_cases hk:k==x.1
  ·refine⟨Ah (i,e.val),by simp[Instr.findAsking,h1,heq,hk],Qd _,x,by simp,eq_of_beq hk,by simp[tX,hk],h2,λq y hq=>by omega⟩
  ·obtain⟨o,ho1,ho2⟩:=zOd H k es l (i+1) h3;refine⟨o,by simp[Instr.findAsking,h1,heq,hk,ho1],?_⟩;cases o with
   | none=>simpa [tX,hk] using ho2
   | some p=>
    obtain⟨j,v⟩:=p;obtain⟨g1,y,g2,g3,g4,g5,g6⟩:=ho2;refine⟨by omega,y,?_,g3,by grind [tX],g5,λq z hq hz=>?_⟩
    ·grind
    grind
theorem zOz{d:TypeDesc}(hn:∀ x y:κ,Instr.sameNow d (kv x) (kv y)=Ai\/Instr.sameNow d (kv x) (kv y)=Ah (x==y))(H:zRE P t kt vt kv)(k:κ): ∀(es:List MapEntry) (l:List (κ×ν)) (i:Nat) (o:Option (Nat×Am)),
  es.map (λe=>(e.key,e.val))=l.map (λx=>(kv x.1,vv x.2))->Instr.findNow d (kv k) es i=Ah o->(Instr.findAsking kt (kv k) es i).run P w=.ok o w
 | [],_,i,o,_,h=>by simp only[Instr.findNow,Qf] at h;subst h;simp[Instr.findAsking]
 | _::_,[],i,o,h,_=>by simp at h
 | e::es,x::l,i,o,hm,h=>by
  simp only[QU,List.cons.injEq,Prod.mk.injEq] at hm;obtain⟨⟨h1,h2⟩,h3⟩:=hm;have heq:=H.eq k x.1 w;simp only[Instr.findNow,h1] at h;rcases hn k x.1 with hs | hs
  ·grind
  ·by_cases hk:k==x.1
   ·simp[hs,hk] at h;subst h;simp[Instr.findAsking,h1,heq,hk]
   ·simp[hs,hk] at h;have:=zOz hn H k es l (i+1) o h3 h;simp[Instr.findAsking,h1,heq,hk,this]
theorem zTq[LawfulBEq κ](H:zRE P t kt vt kv)(k:κ)(es:List MapEntry)(l:List (κ×ν))(h:es.map (λe=>(e.key,e.val))=l.map (λx=>(kv x.1,vv x.2))):
  ∃ o,(Instr.findKey kt (kv k) es).run P w=.ok o w/\(match o with
   | none=>tX l k=Ai
   | some (j,v)=>∃ x,l[j]?=Ah x/\k=x.1/\tX l k=Ah x.2/\v=vv x.2/\∀ q y,q<j->l[q]?=Ah y->(k==y.1)=Ak):=by
 obtain⟨d,hd,hn⟩:=H.now;obtain⟨o,h1,h2⟩:=zOd (w:=w) H k es l 0 h;refine⟨o,?_,?_⟩
 ·simp only[Instr.findKey,Sem.run_bind,run_underlying hd,Result.andThen_ok];cases hf:Instr.findNow d (kv k) es 0 with
  | none=>grind
  | some o'=>
   have:=zOz (w:=w) hn H k es l 0 o' h hf;simp_all
 grind
theorem zZL:∀ {l:List (κ×ν)} {k:κ} {v:ν},tX l k=Ai->z7B l k v=l++[(k,v)]
 | [],_,_,_=>rfl
 | x::r,k,v,h=>by
  by_cases hk:k==x.1
  ·simp[tX,hk] at h
  ·simp only[tX,hk,zbf,Qy] at h;simp[z7B,hk,zZL h]
theorem zYr[LawfulBEq κ]: ∀ {l:List (κ×ν)} {k:κ} {v:ν} {j:Nat} {x:κ×ν},l[j]?=Ah x->k=x.1->(∀ q y,q<j->l[q]?=Ah y->(k==y.1)=Ak)->z7B l k v=l.set j (k,v)
 | [],_,_,_,_,h,_,_=>by simp at h
 | y::r,k,v,0,x,h,hk,_=>by grind [z7B]
 | y::r,k,v,j+1,x,h,hk,hf=>by
  have h0:=hf 0 y (by omega) (by simp);have:=zYr (l:=r) (v:=v) (j:=j) (by grind) hk (λq z hq hz=>hf (q+1) z (by omega) (by grind));simp[z7B,h0,this]
end
section
variable {P:Aq}{ops:Array Oper}{Q:Exit->Ay->Ao->Prop}{K:Ay->Ao->Prop}
variable {A:List Nat}{L0 Ls:List zK}{w0 w:Ao}{n:Nat}{S:List (Nat×Am)}{F:List PP}{a:Ay}
variable {d:Nat}{ty:Ap}{pos:String}{af:Array Edge}{g:Option (Nat×Bool)}
variable {t kt vt:Ap}{κ ν:Type}[BEq κ]{kv:κ->Am}{vv:ν->Am}{x y z:As}{r:zK}{b:Nat}{l:List (κ×ν)}{k:κ}{v:ν}
variable{es:Array MapEntry}{c:Nat}
theorem zOG(h:w.heap[b]?=Ah (.map es c)): (getObj b).run P w=.ok (.map es c) w:=by
 show Sem.run P (Sem.getObj b Sem.pure) w=_;simp[Sem.run,h]
theorem zWH(o':Obj)(h:w.heap[b]?=Ah (.map es c)): (setObj b o').run P w=.ok () { w with heap:=w.heap.setIfInBounds b o' }:=by
 show Sem.run P (Sem.setObj b o' (Sem.pure ())) w=_;simp[Sem.run,h]
theorem zWE (o:Obj)(w:Ao): (newObj o).run P w=.ok w.heap.size (w.alloc o):=rfl
theorem z7M (kd:Au)(i:Int)(w:Ao): (asInt (.int kd i)).run P w=.ok i w:=rfl
theorem z56 (kv:κ->Am)(vv:ν->Am){rs:Option As}{rv:Option Am}(h:SS qd A L0 w0 n S Ls F a w)(H:zRE P t kt vt kv)(hr:zSW S rs=Ah rv)(hi:rv=Ai\/∃ kd i,rv=Ah (.int kd i))
  (kk:∀ b r a w',SS qd A L0 w0 n ((d,.map (Ah b))::S) (Ls++[r]) (Ma kv vv r b []::F) a w'->qE qd Ls w (Ls++[r]) w'->K a w')
  (hd:Nat.blt d n=true:=by kernel_rfl) (hg:qI ops S g=Ah true:=by kernel_rfl):vK P ops Q ⟨Ah d,.makeMap t rs,ty,pos,af,g⟩ K a w:=by
 refine zEa h.s hd hg (v:=.map (Ah w.heap.size)) (w':=w.alloc (.map #[] 0)) ?_ λa hS=>kk w.heap.size [(w.heap.size,.map #[] 0)] a _ (h.next (h.o.alloc _ rfl) (qE.alloc Ls _ rfl rfl rfl rfl) hS [_] ⟨⟨#[],0,rfl,by simp,by simp[Brn]⟩,trivial⟩) (qE.alloc Ls _ rfl rfl rfl rfl);have he:=h.s.evalO hr;rcases hi with rfl | ⟨kd,i,rfl⟩
 ·have hn:=zWE (P:=P) (.map #[] 0) w;simp only[newObj] at hn;simp[Av,he,Instr.makeMap,newObj,hn]
 ·have hn:=zWE (P:=P) (.map #[] 0) w;simp only[newObj] at hn;simp[Av,he,Instr.makeMap,run_underlying H.hu,z7M,newObj,hn]
theorem z7i[LawfulBEq κ]{i:Nat}(ok:Bool){zv:ν}(h:SS qd A L0 w0 n S Ls F a w)(H:zRE P t kt vt kv)(hM:(Ma kv vv r b l).h (bl Ls++A) w)(hx:zV S x=Ah (.map (Ah b)))(hy:zV S y=Ah (kv k))(hz:zHO P vt=Ah (vv zv))(hr:Ls[i]?=Ah r)
  (kk:∀ a,SS qd A L0 w0 n ((d,if ok then .tuple #[vv ((tX l k).getD zv),vb (tX l k).isSome] else vv ((tX l k).getD zv))::S) Ls F a w->K a w)
  (hd:Nat.blt d n=true:=by kernel_rfl) (hg:qI ops S g=Ah true:=by kernel_rfl):vK P ops Q ⟨Ah d,.lookup t x y ok,ty,pos,af,g⟩ K a w:=by
 obtain⟨es,c,rfl,he,_⟩:=hM;have hb:=zAj h.o hr (Qh.2 rfl);obtain⟨o,ho1,ho2⟩:=zTq (P:=P) (w:=w) H k es.toList l he;refine zEa h.s hd hg (w':=w) ?_ λa hS=>kk a (h.slot hS);have hzz:=zL0 hz w;cases o with
 | none=>
  have ho2':tX l k=none:=ho2;cases ok <;> simp[Av,h.s.eval hx,h.s.eval hy,Instr.lookup,run_underlying H.hu,zOG hb,H.ck,ho1,hzz,ho2']
 | some p=>
  obtain⟨j,u⟩:=p;obtain⟨x',g1,g2,g3,rfl,_⟩:=ho2;cases ok <;> simp[Av,h.s.eval hx,h.s.eval hy,Instr.lookup,run_underlying H.hu,zOG hb,H.ck,ho1,g3]
theorem z0r[LawfulBEq κ](i:Nat)(h:SS qd A L0 w0 n S Ls F a w)(H:zRE P t kt vt kv)(hM:(Ma kv vv r b l).h (bl Ls++A) w)(hx:zV S x=Ah (.map (Ah b)))(hy:zV S y=Ah (kv k))(hz:zV S z=Ah (vv v))(hr:Ls[i]?=Ah r)
  (kk:∀ r' a w',SS qd A L0 w0 n S (Ls.set i r') (Ma kv vv r' b (z7B l k v)::F) a w'->qE qd Ls w (Ls.set i r') w'->K a w')
  (hg:qI ops S g=Ah true:=by kernel_rfl):vK P ops Q ⟨Ai,.mapUpdate t x y z,ty,pos,af,g⟩ K a w:=by
 obtain⟨es,c,rfl,he,hB1,hB2⟩:=hM;have hb:=zAj h.o hr (Qh.2 rfl);have hlt:b<w.heap.size:=(Qz.1 hb).1;obtain⟨o,ho1,ho2⟩:=zTq (P:=P) (w:=w) H k es.toList l he;have key:∀(es':Array MapEntry) (c':Nat),(Av a.eval ⟨Ai,.mapUpdate t x y z,ty,pos,af,g⟩).run P w=.ok .skip { w with heap:=w.heap.setIfInBounds b (.map es' c') }->
   es'.toList.map (λe=>(e.key,e.val))=(z7B l k v).map (λx=>(kv x.1,vv x.2))->Brn es'.toList c'->vK P ops Q ⟨Ai,.mapUpdate t x y z,ty,pos,af,g⟩ K a w:=by
  intro es' c' hrun hes hBr;have hk:∀ q,q<w.heap.size->q∉[(b,Obj.map es c)].map Prod.fst->({ w with heap:=w.heap.setIfInBounds b (.map es' c') }:Ao).heap[q]?=w.heap[q]?:=λq _ hq=>by
   grind
  have hh:({ w with heap:=w.heap.setIfInBounds b (.map es' c') }:Ao).heap[b]?=Ah (.map es' c'):=by
   show(w.heap.setIfInBounds b _)[b]?=_;simp[hlt]
  have hO:=h.o.set hr (w':={ w with heap:=w.heap.setIfInBounds b (.map es' c') }) (r':=[(b,.map es' c')]) (by simp) hk (λp hp=>by grind) (by simp) (λp hp=>by grind);have hE:qE qd Ls w (Ls.set i [(b,.map es' c')]) { w with heap:=w.heap.setIfInBounds b (.map es' c') }:=qE.set hr rfl rfl rfl (by simp) hk (λp hp=>by grind);exact z0L h.s hg hrun λa hS=>kk [(b,.map es' c')] a _ (h.next hO hE hS [_] ⟨⟨es',c',rfl,hes,hBr⟩,trivial⟩) hE
 cases o with
 | none=>
  refine key (es.push { key:=kv k,val:=vv v,born:=c }) (c+1) ?_ ?_ ?_
  ·simp[Av,h.s.eval hx,h.s.eval hy,h.s.eval hz,Instr.mapUpdate,run_underlying H.hu,zOG hb,H.ck,ho1,zWH _ hb]
  ·rw[zZL ho2];simp[he]
  ·unfold Brn;rw[Array.toList_push,Uk,QS];exact⟨⟨hB1,by simp,by simp;intro e he';have:=hB2 e (by simpa using he');omega⟩,λe he'=>by
    rcases Qj.1 he' with h | h
    ·have:=hB2 e h;omega
    ·rw[Qh.1 h];exact Nat.lt_succ_self c⟩
 | some p=>
  obtain⟨j,u⟩:=p;obtain⟨x',g1,g2,g3,rfl,g6⟩:=ho2;obtain⟨e0,hj,hj2⟩:∃ e0,es.toList[j]?=Ah e0/\e0.key=kv k:=by
   have:=congrArg (·[j]?) he;grind
  have hj1:es[j]?=Ah e0:=by rw[<-hj];simp
  have hold:((es[j]?).map (·.key)).getD (kv k)=kv k:=by
   rw[hj1];simp[hj2]
  refine key (es.modify j λe=>{ e with key:=kv k,val:=vv v }) c ?_ ?_ ?_
  ·simp[Av,h.s.eval hx,h.s.eval hy,h.s.eval hz,Instr.mapUpdate,run_underlying H.hu,zOG hb,H.ck,ho1,zWH _ hb,hold,Instr.keyThatStays,H.sb]
  ·rw[zYr (v:=v) g1 g2 g6];apply Q8;intro q;have heq:=congrArg (·[q]?) he;grind
  ·have e0:∀ {α β:Type} (f:α->α) (g:α->β) (_:∀ x,g (f x)=g x) (l:List α) (j:Nat),(l.modify j f).map g=l.map g:=λf g hg l j=>by
    apply Q8;intro q;rw[Um,Um,List.getElem?_modify];cases l[q]? with
    | none=>rfl
    | some x=>by_cases hq:j=q <;> simp[hq,hg]
   have e1:=e0 (λe:MapEntry=>{ e with key:=kv k,val:=vv v }) (·.born) (λ_=>rfl) es.toList j;unfold Brn;rw[Array.toList_modify];refine⟨by rw[e1];exact hB1,λe he'=>?_⟩;have:e.born∈(es.toList.modify j λe=>{ e with key:=kv k,val:=vv v }).map (·.born):=QD.2 ⟨e,he',rfl⟩;rw[e1] at this;obtain⟨e2,h1,h2⟩:=QD.1 this;rw[<-h2];exact hB2 e2 h1
end
end
end Go.GD
