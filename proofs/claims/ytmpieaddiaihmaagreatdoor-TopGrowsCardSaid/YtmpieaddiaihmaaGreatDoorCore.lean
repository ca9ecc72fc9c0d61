/- A part. Conditions: none. -/
import Derived.WalkKit
import Derived.Laws.StructEq
import Derived.Test.YtmpieaddiaihmaaGreatDoorBase
namespace Go.GD
open Go
set_option autoImplicit false
abbrev vi (n:Int): Value:=.int .i64 n
abbrev vb (b:Bool): Value:=.bool b
abbrev vs (s:zG): Value:=.string ⟨s.toArray⟩
def vE:List (Nat×Value)->Nat->Option Value
 | [],_=>none
 | (i,v)::r,j=>bif Nat.beq i j then some v else vE r j
structure qF (a:Act)(n:Nat)(S:List (Nat×Value)): Prop where
 defers:a.defers=[]
 size:a.tmps.size=n
 has:∀ i v,vE S i=some v->a.tmps[i]?=some v
theorem qF.put{a:Act}{n:Nat}{S:List (Nat×Value)}(h:qF a n S){d:Nat}(hd:Nat.blt d n=true)(v:Value): qF (a.put (some d) v) n ((d,v)::S):=by
 have hd':d<n:=by simpa [Nat.blt_eq] using hd
 refine⟨h.defers,by simp[Act.put,h.size],fun i u hu=>?_⟩
 simp only[vE] at hu
 simp only[Act.put]
 cases hb:Nat.beq d i with
 | true =>
  have:d=i:=Nat.eq_of_beq_eq_true hb
  subst this
  simp only[hb,cond_true,Qd] at hu
  subst hu
  simp[h.size,hd']
 | false =>
  simp only[hb,cond_false] at hu
  have hne:d≠i:=fun e=>by simp_all
  rw[Array.getElem?_setIfInBounds_ne hne]
  exact h.has i u hu
theorem qF.getD{a:Act}{n:Nat}{S:List (Nat×Value)}(h:qF a n S){i:Nat}{v:Value}(hl:vE S i=some v): a.tmps.getD i undef=v:=by
 have:=h.has i v hl
 simp[this]
def zXi (S:List (Nat×Value)): List Nat->Option (List (Nat×Value))
 | []=>some []
 | k::ks=>match vE S k,zXi S ks with
  | some v,some r=>some ((k,v)::r)
  | _,_=>none
theorem zV8{S:List (Nat×Value)}: ∀ {ks:List Nat} {S2:List (Nat×Value)},zXi S ks=some S2->∀ i v,vE S2 i=some v->vE S i=some v
 | [],S2,h,i,v,hl=>by grind [zXi,vE]
 | k::ks,S2,h,i,v,hl=>by
  simp only[zXi] at h
  cases hk:vE S k with
  | none=>grind
  | some u =>
   cases hr:zXi S ks with
   | none=>grind
   | some r =>
    simp only[hk,hr,Qd] at h
    subst h
    simp only[vE] at hl
    cases hb:Nat.beq k i with
    | true =>
     simp_all
    | false =>
     simp only[hb,cond_false] at hl
     exact zV8 hr i v hl
theorem qF.only{a:Act}{n:Nat}{S:List (Nat×Value)}(h:qF a n S)(S2:List (Nat×Value))(hp:zXi S (S2.map Prod.fst)=some S2): qF a n S2 :=
 ⟨h.defers,h.size,fun i v hl=>h.has i v (zV8 hp i v hl)⟩
theorem z4O{S2 S:List (Nat×Value)}{i:Nat}: vE (S2++S) i=match vE S2 i with | some v=>some v | none=>vE S i:=by
 induction S2 with
 | nil=>rfl
 | cons p r ih =>
  grind [vE]
def zL (S:List (Nat×Value)): Operand->Option Value
 | .tmp t=>vE S t
 | .const v=>some v
 | .func f=>some (.func (.func f) #[] #[])
 | .global g=>some (.pointer (some ⟨g,0,none⟩))
theorem qF.eval{a:Act}{n:Nat}{S:List (Nat×Value)}(h:qF a n S){x:Operand}{v:Value}(hx:zL S x=some v): a.eval x=v:=by
 cases x with
 | tmp t=>exact h.getD hx
 | const u=>simpa [zL,Act.eval] using hx
 | func f=>simpa [zL,Act.eval] using hx
 | global g=>simpa [zL,Act.eval] using hx
def z4s (op:BinOp)(k:IntKind)(a b:Int): Option Value :=
 match op with
 | .add=>some (.int k (k.wrap (a+b)))
 | .sub=>some (.int k (k.wrap (a-b)))
 | .mul=>some (.int k (k.wrap (a*b)))
 | .and=>some (.int k (vY k a b))
 | .or=>some (.int k (bor k a b))
 | .xor=>some (.int k (bxor k a b))
 | .andNot=>some (.int k (zQk k a b))
 | .eql=>some (.bool (a==b))
 | .neq=>some (.bool (a != b))
 | .lss=>some (.bool (decide (a<b)))
 | .leq=>some (.bool (decide (a≤b)))
 | .gtr=>some (.bool (decide (b<a)))
 | .geq=>some (.bool (decide (b≤a)))
 | _=>none
def z42 (op:BinOp)(a b:zG): Option Value :=
 match op with
 | .eql=>some (.bool (a==b))
 | .neq=>some (.bool (!(a==b)))
 | .lss=>some (.bool (uF a b))
 | .leq=>some (.bool (uF a b||a==b))
 | .gtr=>some (.bool (!(uF a b||a==b)))
 | .geq=>some (.bool (!(uF a b)))
 | _=>none
def zXg (P:Program)(s:TypeId)(f:Nat): Option Nat :=
 match P.underlying s with
 | some (.struct fs)=>match fs[f]? with
  | some fd=>match (P.info? fd.type).map (·.size) with
   | some (_+1)=>some fd.offset
   | _=>none
  | none=>none
 | _=>none
def vC (P:Program)(t:TypeId): Option (Bool×Nat) :=
 match P.underlying t,(P.info? t).map (·.size) with
 | some (.struct _),some n | some (.array _ _),some n=>some (true,n)
 | some _,some n=>some (false,n)
 | _,_=>none
def z7c (P:Program)(t:TypeId)(cs:Array Value)(o:Nat): Option Value :=
 match vC P t with
 | some (true,n)=>some (.agg (cs.extract o (o+n)))
 | some (false,_)=>cs[o]?
 | none=>none
def eqG (P:Program): Nat->Option (List Field)->TypeId->Value->Value->Option Bool
 | 0,_,_,_,_=>none
 | d+1,none,t,x,y=>match P.underlying t,x,y with
  | some .bool,.bool a,.bool b=>some (a==b)
  | some (.int _),.int k a,.int k' b=>if k=k' then some (a==b) else none
  | some .string,.string a,.string b=>some (a.data.toList==b.data.toList)
  | some (.struct fs),.agg xs,.agg ys=>if P.stoodInHeld t then none else eqG P d (some fs.toList) t (.agg xs) (.agg ys)
  | _,_,_=>none
 | _+1,some [],_,_,_=>some true
 | d+1,some (f::fs),t,x,y=>match x,y with
  | .agg xs,.agg ys=>if f.name="_" then none else
   match z7c P f.type xs f.offset,z7c P f.type ys f.offset with
   | some a,some b=>match eqG P d none f.type a b with
    | some r=>match fs with
     | []=>some r
     | _::_=>match eqG P d (some fs) t (.agg xs) (.agg ys) with
      | some q=>some (r&&q)
      | none=>none
    | none=>none
   | _,_=>none
  | _,_=>none
def zX4 (P:Program): List Field->Option (List (Nat×Nat))
 | []=>some []
 | f::fs=>match (P.info? f.type).map (·.size),zX4 P fs with
  | some n,some r=>some ((f.offset,n)::r)
  | _,_=>none
def tL (P:Program)(t:TypeId): Option Value:=(P.info? t).bind (·.zero)
def zVc (S:List (Nat×Value)): List (Nat×Operand)->Option (List (Nat×Value))
 | []=>some []
 | (i,x)::r=>match zL S x,zVc S r with
  | some v,some q=>some ((i,v)::q)
  | _,_=>none
def z4b (S:List (Nat×Value)): List Operand->Option (List Value)
 | []=>some []
 | x::r=>match zL S x,z4b S r with
  | some v,some vs=>some (v::vs)
  | _,_=>none
theorem qF.evals{a:Act}{n:Nat}{S:List (Nat×Value)}(hS:qF a n S): ∀ {xs:List Operand} {vs:List Value},z4b S xs=some vs->xs.map a.eval=vs
 | [],vs,h=>by simpa [z4b] using h
 | x::r,vs,h=>by
  simp only[z4b] at h
  split at h
  ·rename_i v us hx hr
   simp only[Qd] at h
   rw[←h,Um,hS.eval hx,hS.evals hr]
  ·cases h
def zZp (op:BinOp)(k:IntKind)(a b:Int): Option Value :=
 match op with
 | .shl=>if 0≤b then some (.int k (shl k a b)) else none
 | .shr=>if 0≤b then some (.int k (yW k a b)) else none
 | _=>none
theorem zRe{P:Program}{w:World}{op:BinOp}{k k':IntKind}{a b:Int}{t:TypeId}{v:Value}(h:zZp op k a b=some v):
  (binOp op t (.int k a) (.int k' b)).run P w=.ok v w:=by
 cases op <;> simp only[zZp,reduceCtorEq] at h <;> split at h <;> simp at h <;> subst h <;> rename_i h0 <;>
  simp[binOp,Op.shift,shl,yW,show ¬ b<0 by omega]
def pv (P:Program)(S:List (Nat×Value)): Op->Option Value
 | .move x | .assign x=>zL S x
 | .pick c a b=>match zL S c with
  | some (.bool true)=>zL S a
  | some (.bool false)=>zL S b
  | _=>none
 | .binOp op t x y _=>match zL S x,zL S y with
  | some (.int k a),some (.int k' b)=>if k=k' then(match z4s op k a b with | some v=>some v | none=>zZp op k a b) else zZp op k a b
  | some (.string a),some (.string b)=>z42 op a.data.toList b.data.toList
  | some (.bool a),some (.bool b)=>match P.underlying t,op with
   | some .bool,.eql=>some (.bool (a==b))
   | some .bool,.neq=>some (.bool (!(a==b)))
   | _,_=>none
  | some (.agg xs),some (.agg ys)=>if P.eqGuardType P.depth t then none else match op,eqG P 50 none t (.agg xs) (.agg ys) with
   | .eql,some b=>some (.bool b)
   | .neq,some b=>some (.bool (!b))
   | _,_=>none
  | _,_=>none
 | .build t parts=>match P.underlying t with
  | some (.struct fs)=>match zX4 P fs.toList,tL P t,zVc S parts.toList with
   | some ps,some z,some vs=>(Instr.fill (ps[·]?) z.cells vs).map .agg
   | _,_,_=>none
  | _=>none
 | .unOp .not _ x=>match zL S x with
  | some (.bool b)=>some (.bool (!b))
  | _=>none
 | .unOp .neg _ x=>match zL S x with
  | some (.int k n)=>some (.int k (k.wrap (0-n)))
  | _=>none
 | .convert s d x=>match P.underlying d,zL S x,P.underlying s with
  | some (.int k),some (.int _ n),some _=>some (.int k (k.wrap n))
  | some .string,some (.string v),some .string=>some (.string v)
  | _,_,_=>none
 | .extract x i=>match zL S x with
  | some (.tuple vs)=>vs[i]?
  | _=>none
 | .nilCheck x=>match zL S x with
  | some (.pointer (some a))=>some (.pointer (some a))
  | _=>none
 | .fieldAddr s x f=>match zL S x,zXg P s f with
  | some (.pointer (some ⟨b,o,none⟩)),some off=>some (.pointer (some ⟨b,o+off,none⟩))
  | _,_=>none
 | .makeFunc fn x y=>match z4b S x.toList,z4b S y.toList with
  | some us,some vs=>some (.func fn us.toArray vs.toArray)
  | _,_=>none
 | .unOp .xor _ x=>match zL S x with
  | some (.int k n)=>some (.int k (bxor k (if k.signed then -1 else k.max) n))
  | _=>none
 | .call c=>match c.callee,c.args.toList,c.argTypes.toList with
  | .builtin .len,[x],[t]=>match zL S x,P.underlying t with
   | some (.string s),some .string=>some (vi (s.data.toList.length:Int))
   | some (.slice _ n _),some (.slice _)=>some (vi (n:Int))
   | _,_=>none
  | .builtin .min,[x,y],_=>match zL S x,zL S y with
   | some (.int k a),some (.int _ b)=>some (.int k (if b<a then b else a))
   | _,_=>none
  | .builtin .max,[x,y],_=>match zL S x,zL S y with
   | some (.int k a),some (.int _ b)=>some (.int k (if b > a then b else a))
   | _,_=>none
  | _,_,_=>none
 | _=>none
theorem z4k:∀ a b:zG,Op.bytesLess a b=uF a b
 | a,[]=>by cases a <;> rfl
 | [],_::_=>rfl
 | a::x,b::y=>by simp only[Op.bytesLess,uF,z4k x y]
theorem zGp{P:Program}{w:World}(op:BinOp)(k k':IntKind)(a b:Int)(t:TypeId)(x y:Operand): (eqGuard op t x y (.int k a) (.int k' b)).run P w=.ok () w:=by
 unfold eqGuard
 split <;> rfl
theorem zTi{P:Program}{w:World}(op:BinOp)(a b:ByteArray)(t:TypeId)(x y:Operand): (eqGuard op t x y (.string a) (.string b)).run P w=.ok () w:=by
 unfold eqGuard
 split <;> rfl
theorem zSN{P:Program}{w:World}(op:BinOp)(a b:Bool)(t:TypeId)(x y:Operand): (eqGuard op t x y (.bool a) (.bool b)).run P w=.ok () w:=by
 unfold eqGuard
 split <;> rfl
theorem z5g{P:Program}{w:World}{op:BinOp}{k:IntKind}{a b:Int}{t:TypeId}{v:Value}(h:z4s op k a b=some v):
  (binOp op t (.int k a) (.int k b)).run P w=.ok v w:=by
 cases op <;> simp[z4s] at h <;> subst h <;> simp[binOp,Op.intArith,Op.intBits,Op.intCmp,vY,bor,bxor,zQk]
theorem z1s (a:ByteArray): a.toList=a.data.toList:=ByteArray.toList_eq a
theorem z6J{P:Program}{w:World}{op:BinOp}{a b:ByteArray}{t:TypeId}{v:Value}(h:z42 op a.data.toList b.data.toList=some v):
  (binOp op t (.string a) (.string b)).run P w=.ok v w:=by
 cases op <;> simp[z42] at h <;> subst h <;> simp[binOp,Op.stringOp,z4k,z1s]
theorem z3W{P:Program}{w:World}{s f off b o:Nat}(h:zXg P s f=some off):
  (Instr.fieldAt s (.pointer (some ⟨b,o,none⟩)) f).run P w=.ok (.pointer (some ⟨b,o+off,none⟩)) w:=by
 unfold zXg at h
 split at h
 ·rename_i fs hu
  split at h
  ·rename_i fd hf
   split at h
   ·rename_i n hn
    simp only[Qd] at h
    subst h
    have hsz:(sizeOf fd.type).run P w=.ok (n+1) w:=by
     cases hq:P.info? fd.type with
     | none=>grind
     | some i =>
      have:i.size=n+1:=by simpa [hq] using hn
      simp[sizeOf,typeInfo,hq,this]
    have hadd:(⟨b,o,none⟩:Addr).add fd.offset=⟨b,o+fd.offset,none⟩:=by unfold Addr.add;split <;> simp_all
    simp[Instr.fieldAt,run_underlying hu,hf,Instr.sureAddr,fieldPlace,hsz,hadd]
   ·cases h
  ·cases h
 ·cases h
theorem zGb{P:Program}{w:World}{t:TypeId}{b:Bool}{n:Nat}(h:vC P t=some (b,n)): (isAgg t).run P w=.ok b w∧(sizeOf t).run P w=.ok n w:=by
 unfold vC at h
 have hsz:∀ m,(P.info? t).map (·.size)=some m->(sizeOf t).run P w=.ok m w:=by
  intro m hm
  cases hq:P.info? t with
  | none=>grind
  | some i =>
   have:i.size=m:=by simpa [hq] using hm
   simp[sizeOf,typeInfo,hq,this]
 split at h
 ·rename_i fs m hu hm
  simp only[Qd,Prod.mk.injEq] at h
  obtain⟨rfl,rfl⟩:=h
  exact⟨by simp[isAgg,run_underlying hu],hsz _ hm⟩
 ·rename_i x y m hu hm
  simp only[Qd,Prod.mk.injEq] at h
  obtain⟨rfl,rfl⟩:=h
  exact⟨by simp[isAgg,run_underlying hu],hsz _ hm⟩
 ·rename_i d m hn1 hn2 hu hm
  simp only[Qd,Prod.mk.injEq] at h
  obtain⟨rfl,rfl⟩:=h
  refine⟨?_,hsz _ hm⟩
  simp only[isAgg,Sem.run_bind,run_underlying hu,Result.andThen_ok]
  simp_all
 ·cases h
theorem zRa{P:Program}{t:TypeId}{z:Value}(h:tL P t=some z)(w:World): (zeroValue t).run P w=.ok z w:=by
 unfold tL at h
 cases hq:P.info? t with
 | none=>grind
 | some i =>
  simp only[hq,zob] at h
  simp[zeroValue,typeInfo,hq,h]
theorem zQ3{P:Program}{w:World}{t:TypeId}{cs:Array Value}{o:Nat}{v:Value}(h:z7c P t cs o=some v): (part t cs o).run P w=.ok v w:=by
 unfold z7c at h
 split at h
 ·rename_i n hs
  obtain⟨h1,h2⟩:=zGb (w:=w) hs
  simp only[Qd] at h
  subst h
  simp[part,h1,h2]
 ·rename_i n hs
  obtain⟨h1,h2⟩:=zGb (w:=w) hs
  simp[part,h1,h]
 ·cases h
theorem z3Z{P:Program}{w:World}: ∀(d:Nat),
  (∀(t:TypeId) (x y:Value) (b:Bool),eqG P d none t x y=some b->∀ D,d≤D->(Op.equalIn D t x y).run P w=.ok b w) ∧
  (∀(fs:List Field) (t:TypeId) (xs ys:Array Value) (b:Bool),eqG P d (some fs) t (.agg xs) (.agg ys)=some b->∀ D,d≤D->(Op.eqFields D xs ys fs).run P w=.ok b w)
 | 0=>⟨fun t x y b h=>by simp[eqG] at h,fun fs t xs ys b h=>by simp[eqG] at h⟩
 | d+1=>by
  obtain⟨ih1,ih2⟩:=z3Z (P:=P) (w:=w) d
  refine⟨fun t x y b h D hD=>?_,fun fs t xs ys b h D hD=>?_⟩
  ·obtain⟨D',rfl⟩:∃ D',D=D' + 1:=⟨D-1,by omega⟩
   simp only[eqG] at h
   grind [run_equalIn_bool',run_equalIn_int,run_equalIn_string,z1s,Program.fieldsOf,run_equalIn_struct]
  ·cases fs with
   | nil =>
    simp only[eqG,Qd] at h
    subst h
    simp[Op.eqFields]
   | cons f fs =>
    simp only[eqG] at h
    split at h
    ·cases h
    ·rename_i hn
     split at h
     ·rename_i u v hu hv
      split at h
      ·rename_i r hr
       have hrun:=ih1 f.type u v r hr D (by omega)
       split at h
       ·simp only[Qd] at h
        subst h
        simp only[Op.eqFields,ne_eq,hn,not_false_eq_true,Qe,Sem.run_bind,zQ3 hu,zQ3 hv,Result.andThen_ok,hrun]
        cases r <;> simp
       ·split at h
        ·rename_i q hq
         simp only[Qd] at h
         subst h
         have hrest:=ih2 _ t xs ys q hq D (by omega)
         simp only[Op.eqFields] at hrest
         simp only[Op.eqFields,ne_eq,hn,not_false_eq_true,Qe,Sem.run_bind,zQ3 hu,zQ3 hv,Result.andThen_ok,hrun]
         cases r
         ·simp
         grind
        ·cases h
      ·cases h
     ·cases h
theorem z1Y{P:Program}{w:World}: ∀ {fs:List Field} {ps:List (Nat×Nat)},zX4 P fs=some ps->(fs.mapM (fun f=>do pure (f.offset,←sizeOf f.type):Field->Sem (Nat×Nat))).run P w=.ok ps w
 | [],ps,h=>by simp only[zX4,Qd] at h;subst h;simp
 | f::fs,ps,h=>by
  simp only[zX4] at h
  split at h
  ·rename_i n r hn hr
   simp only[Qd] at h
   subst h
   have hsz:(sizeOf f.type).run P w=.ok n w:=by
    cases hq:P.info? f.type with
    | none=>grind
    | some i =>
     have:i.size=n:=by simpa [hq] using hn
     simp[sizeOf,typeInfo,hq,this]
   have ih:=z1Y (w:=w) hr
   simp_all
  ·cases h
theorem qF.parts{a:Act}{n:Nat}{S:List (Nat×Value)}(hS:qF a n S): ∀ {ps:List (Nat×Operand)} {vs:List (Nat×Value)},zVc S ps=some vs->ps.map (fun(i,x)=>(i,a.eval x))=vs
 | [],vs,h=>by simpa [zVc] using h
 | (i,x)::r,vs,h=>by
  simp only[zVc] at h
  split at h
  ·rename_i v q hx hr
   simp only[Qd] at h
   rw[←h,Um,hS.parts hr]
   show(i,a.eval x)::q=(i,v)::q
   rw[hS.eval hx]
  ·cases h
theorem zZi{P:Program}{a:Act}{n:Nat}{S:List (Nat×Value)}(hS:qF a n S){op:Op}{v:Value}(h:pv P S op=some v)
  (d:Option Tmp) (ty:TypeId) (pos:String) (af:Array Edge) (g:Option (Nat×Bool)) (w:World) :
  (execOp a.eval ⟨d,op,ty,pos,af,g⟩).run P w=.ok (.value v) w:=by
 cases op with
 | move x=>simp only[pv] at h;simp[execOp,hS.eval h]
 | assign x=>simp only[pv] at h;simp[execOp,hS.eval h]
 | pick c x y =>
  simp only[pv] at h
  split at h
  ·rename_i hc;simp[execOp,hS.eval hc,asBool,hS.eval h]
  ·rename_i hc;simp[execOp,hS.eval hc,asBool,hS.eval h]
  ·cases h
 | binOp op t x y u =>
  simp only[pv] at h
  split at h
  ·rename_i k p k' q hx hy
   split at h
   ·rename_i hk
    subst hk
    split at h
    ·rename_i v' hv
     simp only[Qd] at h
     subst h
     simp[execOp,hS.eval hx,hS.eval hy,zGp,z5g hv]
    ·simp[execOp,hS.eval hx,hS.eval hy,zGp,zRe h]
   ·simp[execOp,hS.eval hx,hS.eval hy,zGp,zRe h]
  ·rename_i p q hx hy
   simp[execOp,hS.eval hx,hS.eval hy,zTi,z6J h]
  ·rename_i p q hx hy
   split at h
   ·rename_i hu
    simp only[Qd] at h
    subst h
    simp[execOp,hS.eval hx,hS.eval hy,zSN,run_eql_bool w t p q hu]
   ·rename_i hu
    simp only[Qd] at h
    subst h
    simp[execOp,hS.eval hx,hS.eval hy,zSN,run_neq_bool w t p q hu]
   ·cases h
  ·rename_i xs ys hx hy
   split at h
   ·cases h
   ·rename_i hgd
    have hgd':P.eqGuardType P.depth t=false:=by simpa using hgd
    split at h
    ·rename_i r hr
     simp only[Qd] at h
     subst h
     have:=(z3Z (P:=P) (w:=w) 50).1 t _ _ r hr 10000 (by omega)
     simp[execOp,hS.eval hx,hS.eval hy,run_eqGuard_agg w _ t x y xs ys hgd',run_eql_struct,this]
    ·rename_i r hr
     simp only[Qd] at h
     subst h
     have:=(z3Z (P:=P) (w:=w) 50).1 t _ _ r hr 10000 (by omega)
     simp[execOp,hS.eval hx,hS.eval hy,run_eqGuard_agg w _ t x y xs ys hgd',run_neq_struct,this]
    ·cases h
  ·cases h
 | build t parts =>
  simp only[pv] at h
  split at h
  ·rename_i fs hu
   split at h
   ·rename_i ps z vs hps hz hvs
    simp only[UE] at h
    obtain⟨cells,hfill,rfl⟩:=h
    have h1:=z1Y (w:=w) hps
    simp only[bind_pure_comp] at h1
    have h2:=hS.parts hvs
    have h3:=zRa hz w
    simp only[execOp,Instr.build,Sem.run_bind,h3,Result.andThen_ok,run_underlying hu,Array.mapM_eq_mapM_toList,bind_pure_comp,Sem.run_map,h1]
    simp_all
   ·cases h
  ·cases h
 | unOp op t x =>
  cases op with
  | not =>
   simp only[pv] at h
   split at h
   ·rename_i b hx
    simp only[Qd] at h
    subst h
    simp[execOp,hS.eval hx,Op.unary]
   ·cases h
  | neg =>
   simp only[pv] at h
   split at h
   ·rename_i k m hx
    simp only[Qd] at h
    subst h
    simp[execOp,hS.eval hx,Op.unary,Op.intArith]
   ·cases h
  | xor =>
   simp only[pv] at h
   split at h
   ·rename_i k m hx
    simp only[Qd] at h
    subst h
    simp[execOp,hS.eval hx,Op.unary,Op.intBits,bxor]
   ·cases h
  | _=>simp[pv] at h
 | convert s t x =>
  simp only[pv] at h
  split at h
  ·rename_i k k' m ds hu hx hs
   simp only[Qd] at h
   subst h
   simp[execOp,convert,hS.eval hx,run_underlying hu,run_underlying hs,Conv.intToInt]
  ·rename_i u hu hx hs
   simp only[Qd] at h
   subst h
   simp[execOp,convert,hS.eval hx,run_underlying hu,run_underlying hs]
  ·cases h
 | extract x i =>
  simp only[pv] at h
  split at h
  ·rename_i us hx
   simp[execOp,hS.eval hx,Instr.extract,h]
  ·cases h
 | nilCheck x =>
  simp only[pv] at h
  split at h
  ·rename_i u hx
   simp only[Qd] at h
   subst h
   simp[execOp,hS.eval hx]
  ·cases h
 | fieldAddr s x f =>
  simp only[pv] at h
  split at h
  ·rename_i b o off hx hf
   simp only[Qd] at h
   subst h
   simp[execOp,hS.eval hx,z3W hf]
  ·cases h
 | makeFunc fn x y =>
  simp only[pv] at h
  split at h
  ·rename_i us vs hx hy
   simp only[Qd] at h
   subst h
   have h1:=hS.evals hx
   have h2:=hS.evals hy
   have e1:x.map a.eval=us.toArray:=by rw[←h1];exact Array.toList_inj.1 (by simp)
   have e2:y.map a.eval=vs.toArray:=by rw[←h2];exact Array.toList_inj.1 (by simp)
   simp[execOp,Instr.makeFunc,e1,e2]
  ·cases h
 | call c =>
  obtain⟨cal,args,ats⟩:=c
  simp only[pv] at h
  split at h
  ·rename_i x t h2 h3
   obtain⟨args⟩:=args
   obtain⟨ats⟩:=ats
   have h2:args=[x]:=h2
   have h3:ats=[t]:=h3
   subst h2 h3
   split at h
   ·rename_i s hx hu
    simp only[Qd] at h
    subst h
    simp[execOp,resolve,invoke,builtin,Builtin.len_,hS.eval hx,run_underlying hu,goInt]
   ·rename_i b m c e hx hu
    simp only[Qd] at h
    subst h
    simp[execOp,resolve,invoke,builtin,Builtin.len_,hS.eval hx,run_underlying hu,goInt]
   ·cases h
  ·rename_i ts x y h2
   obtain⟨args⟩:=args
   have h2:args=[x,y]:=h2
   subst h2
   split at h
   ·rename_i k p k' q hx hy
    simp only[Qd] at h
    subst h
    simp[execOp,resolve,invoke,builtin,Builtin.min_,Builtin.min2,hS.eval hx,hS.eval hy]
   ·cases h
  ·rename_i ts x y h2
   obtain⟨args⟩:=args
   have h2:args=[x,y]:=h2
   subst h2
   split at h
   ·rename_i k p k' q hx hy
    simp only[Qd] at h
    subst h
    simp[execOp,resolve,invoke,builtin,Builtin.max_,Builtin.max2,hS.eval hx,hS.eval hy]
   ·cases h
  ·cases h
 | _=>simp[pv] at h
section
variable {P:Program}{ops:Array Oper}{Q:Exit->Act->World->Prop}{a:Act}{n:Nat}{S:List (Nat×Value)}{w:World}{rest:List Oper}
def zR (ops:Array Oper)(S:List (Nat×Value))(g:Option (Nat×Bool)): Option Bool :=
 match g with
 | none=>some true
 | some (j,b)=>match ops[j]? with
  | none=>none
  | some o=>match o.dst with
   | none=>none
   | some d=>match vE S d with
    | some (.bool c)=>some (c==b)
    | some (.tuple _)=>some false
    | _=>none
theorem zFe (hS:qF a n S){o:Oper}{b:Bool}(h:zR ops S o.guard=some b): Region.wanted o (yielded ops a.tmps)=b:=by
 unfold zR at h
 unfold Region.wanted
 split at h
 ·grind
 ·rename_i j c hg
  rw[hg]
  split at h
  ·cases h
  ·rename_i oj hj
   split at h
   ·cases h
   ·rename_i d hd
    split at h
    ·rename_i u hu
     simp only[Qd] at h
     have hv:=hS.has d _ hu
     simp only[yielded,hj,zob,hd,hv]
     simp_all
    ·rename_i u hu
     simp only[Qd] at h
     have hv:=hS.has d _ hu
     grind [yielded]
    ·cases h
def zNR (P:Program)(ops:Array Oper): List Oper->List (Nat×Value)->Option (List (Nat×Value))
 | [],S=>some S
 | o::r,S=>match o.dst with
  | none=>none
  | some d=>match zR ops S o.guard with
   | some true=>match pv P S o.op with
    | some v=>zNR P ops r ((d,v)::S)
    | none=>none
   | some false=>zNR P ops r ((d,undef)::S)
   | none=>none
def z1f:List Oper->List Nat
 | []=>[]
 | o::r=>match o.dst with
  | some d=>d::z1f r
  | none=>z1f r
def z2G (n:Nat)(S2 S:List (Nat×Value)): List Nat->Bool
 | []=>true
 | d::r=>Nat.blt d n&&((vE S2 d).isSome||(vE S d).isNone)&&z2G n S2 S r
theorem zOm{o:Oper}{v:Value}{w':World}(hg:zR ops S o.guard=some true)(hS:qF a n S)(hr:(execOp a.eval o).run P w=.ok (.value v) w')
  (k:wpList P ops Q rest (a.put o.dst v) w'):wpList P ops Q (o::rest) a w:=by
 unfold wpList
 rw[Qp (zFe hS hg)]
 refine .inl ?_
 unfold Oper.wp
 rw[hr]
 exact k
theorem zSf{o:Oper}(hg:zR ops S o.guard=some false)(hS:qF a n S)
  (k:wpList P ops Q rest (a.put o.dst undef) w):wpList P ops Q (o::rest) a w:=by
 unfold wpList
 rw[Qo (by rw[zFe hS hg];simp)]
 exact k
theorem zP9:∀(l:List Oper) (a:Act) (S S':List (Nat×Value)),qF a n S->zNR P ops l S=some S'->(z1f l).all (fun d=>Nat.blt d n)=true->
  (∀ a',qF a' n S'->wpList P ops Q rest a' w)->wpList P ops Q (l++rest) a w
 | [],a,S,S',hS,h,_,k=>by
  grind [zNR]
 | o::l,a,S,S',hS,h,hd,k=>by
  simp only[zNR] at h
  split at h
  ·cases h
  ·rename_i d hod
   simp only[z1f,hod,Wf,Qw] at hd
   split at h
   ·rename_i hg
    split at h
    ·rename_i v hv
     refine zOm (v:=v) (w':=w) hg hS (zZi hS hv _ _ _ _ _ w) ?_
     rw[hod]
     exact zP9 l _ _ S' (hS.put hd.1 v) h hd.2 k
    ·cases h
   ·rename_i hg
    refine zSf hg hS ?_
    rw[hod]
    exact zP9 l _ _ S' (hS.put hd.1 undef) h hd.2 k
   ·cases h
theorem zTE:∀ {l:List Oper} {S S':List (Nat×Value)},zNR P ops l S=some S'->∀ i,i∉z1f l->vE S' i=vE S i
 | [],S,S',h,i,_=>by grind [zNR]
 | o::l,S,S',h,i,hi=>by
  simp only[zNR] at h
  split at h
  ·cases h
  ·rename_i d hod
   simp only[z1f,hod,QB,not_or] at hi
   have hb:Nat.beq d i=false:=by
    cases hb:Nat.beq d i with
    | false=>rfl
    | true=>simp_all
   split at h
   ·split at h
    ·rw[zTE h i hi.2];simp[vE,hb]
    ·cases h
   ·rw[zTE h i hi.2];simp[vE,hb]
   ·cases h
theorem zXw{S2 S:List (Nat×Value)}: ∀ {ds:List Nat},z2G n S2 S ds=true->(ds.all (fun d=>Nat.blt d n)=true)∧∀ d∈ds,(vE S2 d).isSome∨vE S d=none
 | [],_=>⟨rfl,fun _ h=>by cases h⟩
 | d::r,h=>by
  simp only[z2G,Qw,Ue,Option.isNone_iff_eq_none] at h
  obtain⟨⟨h1,h2⟩,h3⟩:=h
  obtain⟨i1,i2⟩:=zXw h3
  grind
theorem z9u (m:Nat)(S2:List (Nat×Value)){l:List Oper}(hS:qF a n S)
  (hr:(zNR P ops (l.take m) S).bind (fun s=>zXi s (S2.map Prod.fst))=some S2) (hd:z2G n S2 S (z1f (l.take m))=true)
  (k:∀ a',qF a' n (S2++S)->wpList P ops Q (l.drop m) a' w):wpList P ops Q l a w:=by
 cases hp:zNR P ops (l.take m) S with
 | none=>grind
 | some S' =>
  simp only[hp,zob] at hr
  obtain⟨hd1,hd2⟩:=zXw hd
  rw[←Qu m l]
  refine zP9 _ a S S' hS hp hd1 fun a' hS'=>k a' ⟨hS'.defers,hS'.size,fun i v hl=>?_⟩
  rw[z4O] at hl
  split at hl
  ·rename_i u hu
   simp only[Qd] at hl
   subst hl
   exact hS'.has i _ (zV8 hr i _ hu)
  ·rename_i hu
   by_cases hi:i∈z1f (l.take m)
   ·grind
   ·exact hS'.has i v (by rw[zTE hp i hi];exact hl)
theorem z6u (h:Q .normal a w): wpList P ops Q [] a w:=h
def wU (P:Program)(ops:Array Oper)(Q:Exit->Act->World->Prop)(o:Oper)(K:Act->World->Prop)(a:Act)(w:World): Prop :=
 if Region.wanted o (yielded ops a.tmps) then o.wp P a w K Q else K (a.put o.dst undef) w
theorem sl{o:Oper}(h:wU P ops Q o (wpList P ops Q rest) a w): wpList P ops Q (o::rest) a w:=by
 unfold wU at h
 unfold wpList
 grind
theorem xS{d:Nat}{op:Op}{ty:TypeId}{pos:String}{af:Array Edge}{g:Option (Nat×Bool)}{v:Value}{w':World}{K:Act->World->Prop}
  (hS:qF a n S) (hd:Nat.blt d n=true) (hg:zR ops S g=some true) (hr:(execOp a.eval ⟨some d,op,ty,pos,af,g⟩).run P w=.ok (.value v) w')
  (k:∀ a',qF a' n ((d,v)::S)->K a' w'):wU P ops Q ⟨some d,op,ty,pos,af,g⟩ K a w:=by
 unfold wU
 rw[Qp (zFe (o:=⟨some d,op,ty,pos,af,g⟩) hS hg)]
 unfold Oper.wp
 rw[hr]
 exact k _ (hS.put hd v)
theorem z3w{op:Op}{ty:TypeId}{pos:String}{af:Array Edge}{g:Option (Nat×Bool)}{w':World}{K:Act->World->Prop}
  (hS:qF a n S) (hg:zR ops S g=some true) (hr:(execOp a.eval ⟨none,op,ty,pos,af,g⟩).run P w=.ok .skip w')
  (k:∀ a',qF a' n S->K a' w'):wU P ops Q ⟨none,op,ty,pos,af,g⟩ K a w:=by
 unfold wU
 rw[Qp (zFe (o:=⟨none,op,ty,pos,af,g⟩) hS hg)]
 unfold Oper.wp
 rw[hr]
 exact k a hS
def Ret (R:Value->World->Prop): Ending->World->Prop
 | .returned v,w=>R v w
 | _,_=>False
theorem qF.upd (hS:qF a n S){t:Nat}{v v':Value}(hl:vE S t=some v)(e:v=v'): qF a n ((t,v')::S):=by
 subst e
 refine⟨hS.defers,hS.size,fun i u hu=>?_⟩
 simp only[vE] at hu
 cases hb:Nat.beq t i with
 | true =>
  have:t=i:=Nat.eq_of_beq_eq_true hb
  subst this
  simp only[hb,cond_true,Qd] at hu
  subst hu
  exact hS.has _ _ hl
 | false =>
  simp only[hb,cond_false] at hu
  exact hS.has i u hu
end
section
variable {P:Program}{Q:Exit->Act->World->Prop}{a:Act}{w:World}{n:Nat}{S:List (Nat×Value)}
theorem then_n{K:Act->World->Prop}(h:K a w): Exit.then K Q .normal a w:=h
theorem inb_hit{id:Nat}(h:Q .normal a w): Exit.inBlock id Q (.exit id) a w:=by simpa [Exit.inBlock] using h
theorem z9A{id id':Nat}(hne:Nat.beq id' id=false)(h:Q (.exit id') a w): Exit.inBlock id Q (.exit id') a w:=by grind [Nat.beq_refl,Exit.inBlock]
theorem seq_j{x y:Code}(J:Act->World->Prop)(hx:x.wp P (Exit.then J Q) a w)(hy:∀ a w,J a w->y.wp P Q a w): (Code.seq x y).wp P Q a w :=
 wp_seq (wp_mono hx fun e a w h=>by cases e <;> first | exact hy a w h | exact h)
theorem z1k{c:Operand}{x y:Code}{t:Bool}(hS:qF a n S)(hc:zL S c=some (.bool t))
  (ht:t=true->x.wp P Q a w) (hf:t=false->y.wp P Q a w):(Code.cond c x y).wp P Q a w :=
 wp_cond_split (hS.eval hc) ht hf
theorem reg{id:Nat}{l:List Oper}(h:wpList P l.toArray Q l a w): (Code.region id l.toArray false).wp P Q a w:=wp_region_lit h
theorem code_j{c:Code}(J:Act->World->Prop)(h:c.wp P (Exit.then J Q) a w)(hj:∀ a w,J a w->Q .normal a w): c.wp P Q a w :=
 wp_mono h fun e a w h=>by cases e <;> first | exact hj a w h | exact h
def z9P{σ ρ:Type}(Inv:σ->Act->World->Prop)(Q:Exit->Act->World->Prop)(o:σ⊕ρ): Exit->Act->World->Prop
 | .normal,a,w=>∃ s,o=.inl s∧Inv s a w
 | e,a,w=>Q e a w
theorem loop_m{σ ρ:Type}{c:Code}{B:σ->Option (σ⊕ρ)}(Inv:σ->Act->World->Prop){r:ρ}{s:σ}(hm:zO B s=some r)(h0:Inv s a w)
  (step:∀ s a w o,Inv s a w->B s=some o->(∀ r',o=.inr r'->r=r')->c.wp P (z9P Inv Q o) a w):(Code.loop c).wp P Q a w:=by
 obtain⟨k,hk⟩:=zNu hm
 let good:Nat->Act->World->Prop:=fun m a w=>∃ s,tH B m s=some r∧Inv s a w
 have hgood:good k a w:=⟨s,hk,h0⟩
 intro b kk cs
 have key:∀ m a w,good m a w->∃ e a' w',Q e a' w'∧Arrives P (lone (b.at a (.code c::.inLoop c::kk)) cs w) b kk cs e a' w':=by
  intro m
  induction m with
  | zero=>grind [tH]
  | succ m ih =>
   rintro a w ⟨s,hs,hI⟩
   simp only[tH] at hs
   cases hb:B s with
   | none=>grind
   | some o =>
    have hst:=step s a w o hI hb (fun r' he=>by grind)
    obtain⟨e,a₁,w₁,hq,harr⟩:=hst b (.inLoop c::kk) cs
    cases e with
    | normal =>
     obtain⟨s',rfl,hI'⟩:=hq
     simp only[hb] at hs
     obtain⟨e₂,a₂,w₂,hq₂,harr₂⟩:=ih a₁ w₁ ⟨s',hs,hI'⟩
     exact⟨e₂,a₂,w₂,hq₂,.of_steps (Steps.trans harr (.one step_inLoop)) harr₂⟩
    | exit id=>exact⟨_,a₁,w₁,hq,.pass (x:=.inLoop c) rfl (fun _ _=>.inl (by simp)) harr⟩
    | goto l=>exact⟨_,a₁,w₁,hq,.pass (x:=.inLoop c) rfl (fun _ _=>.inl (by simp)) harr⟩
    | ret=>exact⟨_,a₁,w₁,hq,.pass (x:=.inLoop c) rfl (fun _ _=>.inl (by simp)) harr⟩
    | panic ch=>exact⟨_,a₁,w₁,hq,.pass (x:=.inLoop c) rfl (fun _ _=>.inl (by simp)) harr⟩
    | outgrown=>exact⟨_,a₁,w₁,hq,.pass (x:=.inLoop c) rfl (fun _ _=>.inl (by simp)) harr⟩
 obtain⟨e,a',w',hq,harr⟩:=key k a w hgood
 exact⟨e,a',w',hq,.of_steps (.one step_loop) harr⟩
theorem ret1{fn:Func}{t:Nat}{R:Value->World->Prop}{v:Value}(hS:qF a n S)(hf:fn.results=#[.tmp t])(hv:vE S t=some v)(hR:R v w):
  bodyPost P fn (Ret R) .ret a w :=
 ⟨hS.defers,v,by rw[results_tmp hf,hS.getD hv],hR⟩
def zPM:List Value->Nat->List (Nat×Value)
 | [],_=>[]
 | v::r,i=>(i,v)::zPM r (i+1)
theorem zUB:∀(vs:List Value) (k i:Nat) (v:Value),vE (zPM vs k) i=some v->k≤i∧vs[i-k]?=some v
 | [],k,i,v,h=>by simp[zPM,vE] at h
 | u::r,k,i,v,h=>by
  simp only[zPM,vE] at h
  cases hb:Nat.beq k i with
  | true =>
   simp_all
  | false =>
   simp only[hb,cond_false] at h
   obtain⟨h1,h2⟩:=zUB r (k+1) i v h
   grind
theorem enter{f:FuncId}{fn:Func}{c:Code}{vs:List Value}{R:Ending->World->Prop}(hf:P.funcs[f]?=some fn)(hb:fn.body=some c)(hn:Nat.ble vs.length fn.ntmps=true)
  (h:∀ a,qF a fn.ntmps (zPM vs 0)->c.wp P (bodyPost P fn R) a w):Calls P f vs.toArray w R:=by
 refine calls_of_wp hf hb (h _ ⟨rfl,?_,fun i v hl=>?_⟩)
 ·simp_all
 ·obtain⟨_,h2⟩:=zUB vs 0 i v hl
  grind
end
end Go.GD
