/- A part. Conditions: none. -/
import Derived.WalkKit
import Derived.Laws.StructEq
import Derived.Test.YtcoildnkgkbjfaaGreatDoorBase
namespace Go.GD
open Go
set_option autoImplicit false
abbrev vi (n:Int): Value:=.int .i64 n
abbrev vb (b:Bool): Value:=.bool b
abbrev vs (s:zA): Value:=.string ⟨s.toArray⟩
def vG:List (Nat×Value)->Nat->Option Value
 | [],_=>none
 | (i,v)::r,j=>bif Nat.beq i j then some v else vG r j
structure qO (a:Act)(n:Nat)(S:List (Nat×Value)): Prop where
 defers:a.defers=[]
 size:a.tmps.size=n
 has:∀ i v,vG S i=some v->a.tmps[i]?=some v
theorem qO.put{a:Act}{n:Nat}{S:List (Nat×Value)}(h:qO a n S){d:Nat}(hd:Nat.blt d n=true)(v:Value): qO (a.put (some d) v) n ((d,v)::S):=by
 have hd':d<n:=by simpa [Nat.blt_eq] using hd
 refine⟨h.defers,by simp[Act.put,h.size],fun i u hu=>?_⟩
 simp only[vG] at hu
 simp only[Act.put]
 cases hb:Nat.beq d i with
 | true =>
  have:d=i:=Nat.eq_of_beq_eq_true hb
  subst this
  simp only[hb,cond_true,Qg] at hu
  subst hu
  simp[h.size,hd']
 | false =>
  simp only[hb,cond_false] at hu
  have hne:d≠i:=fun e=>by simp_all
  rw[Array.getElem?_setIfInBounds_ne hne]
  exact h.has i u hu
theorem qO.getD{a:Act}{n:Nat}{S:List (Nat×Value)}(h:qO a n S){i:Nat}{v:Value}(hl:vG S i=some v): a.tmps.getD i undef=v:=by
 have:=h.has i v hl
 simp[this]
def zQ8 (S:List (Nat×Value)): List Nat->Option (List (Nat×Value))
 | []=>some []
 | k::ks=>match vG S k,zQ8 S ks with
  | some v,some r=>some ((k,v)::r)
  | _,_=>none
theorem zPU{S:List (Nat×Value)}: ∀ {ks:List Nat} {S2:List (Nat×Value)},zQ8 S ks=some S2->∀ i v,vG S2 i=some v->vG S i=some v
 | [],S2,h,i,v,hl=>by grind [zQ8,vG]
 | k::ks,S2,h,i,v,hl=>by
  simp only[zQ8] at h
  cases hk:vG S k with
  | none=>grind
  | some u =>
   cases hr:zQ8 S ks with
   | none=>grind
   | some r =>
    simp only[hk,hr,Qg] at h
    subst h
    simp only[vG] at hl
    cases hb:Nat.beq k i with
    | true =>
     simp_all
    | false =>
     simp only[hb,cond_false] at hl
     exact zPU hr i v hl
theorem qO.only{a:Act}{n:Nat}{S:List (Nat×Value)}(h:qO a n S)(S2:List (Nat×Value))(hp:zQ8 S (S2.map Prod.fst)=some S2): qO a n S2 :=
 ⟨h.defers,h.size,fun i v hl=>h.has i v (zPU hp i v hl)⟩
theorem zYJ{S2 S:List (Nat×Value)}{i:Nat}: vG (S2++S) i=match vG S2 i with | some v=>some v | none=>vG S i:=by
 induction S2 with
 | nil=>rfl
 | cons p r ih =>
  grind [vG]
def zP (S:List (Nat×Value)): Operand->Option Value
 | .tmp t=>vG S t
 | .const v=>some v
 | .func f=>some (.func (.func f) #[] #[])
 | .global g=>some (.pointer (some ⟨g,0,none⟩))
theorem qO.eval{a:Act}{n:Nat}{S:List (Nat×Value)}(h:qO a n S){x:Operand}{v:Value}(hx:zP S x=some v): a.eval x=v:=by
 cases x with
 | tmp t=>exact h.getD hx
 | const u=>simpa [zP,Act.eval] using hx
 | func f=>simpa [zP,Act.eval] using hx
 | global g=>simpa [zP,Act.eval] using hx
def zZp (op:BinOp)(k:IntKind)(a b:Int): Option Value :=
 match op with
 | .add=>some (.int k (k.wrap (a+b)))
 | .sub=>some (.int k (k.wrap (a-b)))
 | .mul=>some (.int k (k.wrap (a*b)))
 | .and=>some (.int k (z7n k a b))
 | .or=>some (.int k (bor k a b))
 | .xor=>some (.int k (z5u k a b))
 | .andNot=>some (.int k (zYI k a b))
 | .eql=>some (.bool (a==b))
 | .neq=>some (.bool (a != b))
 | .lss=>some (.bool (decide (a<b)))
 | .leq=>some (.bool (decide (a≤b)))
 | .gtr=>some (.bool (decide (b<a)))
 | .geq=>some (.bool (decide (b≤a)))
 | _=>none
def zYq (op:BinOp)(a b:zA): Option Value :=
 match op with
 | .eql=>some (.bool (a==b))
 | .neq=>some (.bool (!(a==b)))
 | .lss=>some (.bool (yX a b))
 | .leq=>some (.bool (yX a b||a==b))
 | .gtr=>some (.bool (!(yX a b||a==b)))
 | .geq=>some (.bool (!(yX a b)))
 | _=>none
def zRb (P:Program)(s:TypeId)(f:Nat): Option Nat :=
 match P.underlying s with
 | some (.struct fs)=>match fs[f]? with
  | some fd=>match (P.info? fd.type).map (·.size) with
   | some (_+1)=>some fd.offset
   | _=>none
  | none=>none
 | _=>none
def uB (P:Program)(t:TypeId): Option (Bool×Nat) :=
 match P.underlying t,(P.info? t).map (·.size) with
 | some (.struct _),some n | some (.array _ _),some n=>some (true,n)
 | some _,some n=>some (false,n)
 | _,_=>none
def z2m (P:Program)(t:TypeId)(cs:Array Value)(o:Nat): Option Value :=
 match uB P t with
 | some (true,n)=>some (.agg (cs.extract o (o+n)))
 | some (false,_)=>cs[o]?
 | none=>none
def eqG (P:Program): Nat->Option (List Field)->TypeId->Value->Value->Option Bool
 | 0,_,_,_,_=>none
 | d+1,none,t,x,y=>match P.underlying t,x,y with
  | some .bool,.bool a,.bool b=>some (a==b)
  | some (.int _),.int k a,.int k' b=>if k=k' then some (a==b) else none
  | some .string,.string a,.string b=>some (a.data.toList==b.data.toList)
  | some (.struct fs),.agg xs,.agg ys=>if P.stoodInHeld t then none else eqG P d (some fs.toList) t (.agg xs) (.agg ys)
  | _,_,_=>none
 | _+1,some [],_,_,_=>some true
 | d+1,some (f::fs),t,x,y=>match x,y with
  | .agg xs,.agg ys=>if f.name= "_" then none else
   match z2m P f.type xs f.offset,z2m P f.type ys f.offset with
   | some a,some b=>match eqG P d none f.type a b with
    | some r=>match fs with
     | []=>some r
     | _::_=>match eqG P d (some fs) t (.agg xs) (.agg ys) with
      | some q=>some (r&&q)
      | none=>none
    | none=>none
   | _,_=>none
  | _,_=>none
def zSJ (P:Program): List Field->Option (List (Nat×Nat))
 | []=>some []
 | f::fs=>match (P.info? f.type).map (·.size),zSJ P fs with
  | some n,some r=>some ((f.offset,n)::r)
  | _,_=>none
def zI6 (P:Program)(t:TypeId): Option Value:=(P.info? t).bind (·.zero)
def zN7 (S:List (Nat×Value)): List (Nat×Operand)->Option (List (Nat×Value))
 | []=>some []
 | (i,x)::r=>match zP S x,zN7 S r with
  | some v,some q=>some ((i,v)::q)
  | _,_=>none
def zZR (S:List (Nat×Value)): List Operand->Option (List Value)
 | []=>some []
 | x::r=>match zP S x,zZR S r with
  | some v,some vs=>some (v::vs)
  | _,_=>none
theorem qO.evals{a:Act}{n:Nat}{S:List (Nat×Value)}(hS:qO a n S): ∀ {xs:List Operand} {vs:List Value},zZR S xs=some vs->xs.map a.eval=vs
 | [],vs,h=>by simpa [zZR] using h
 | x::r,vs,h=>by
  simp only[zZR] at h
  split at h
  ·rename_i v us hx hr
   simp only[Qg] at h
   rw[←h,QY,hS.eval hx,hS.evals hr]
  ·cases h
def zUD (op:BinOp)(k:IntKind)(a b:Int): Option Value :=
 match op with
 | .shl=>if 0≤b then some (.int k (shl k a b)) else none
 | .shr=>if 0≤b then some (.int k (shr k a b)) else none
 | _=>none
theorem zMP{P:Program}{w:World}{op:BinOp}{k k':IntKind}{a b:Int}{t:TypeId}{v:Value}(h:zUD op k a b=some v):
  (binOp op t (.int k a) (.int k' b)).run P w=.ok v w:=by
 cases op <;> simp only[zUD,reduceCtorEq] at h <;> split at h <;> simp at h <;> subst h <;> rename_i h0 <;>
  simp[binOp,Op.shift,shl,shr,show ¬ b<0 by omega]
def pv (P:Program)(S:List (Nat×Value)): Op->Option Value
 | .move x | .assign x=>zP S x
 | .pick c a b=>match zP S c with
  | some (.bool true)=>zP S a
  | some (.bool false)=>zP S b
  | _=>none
 | .binOp op t x y _=>match zP S x,zP S y with
  | some (.int k a),some (.int k' b)=>if k=k' then(match zZp op k a b with | some v=>some v | none=>zUD op k a b) else zUD op k a b
  | some (.string a),some (.string b)=>zYq op a.data.toList b.data.toList
  | some (.bool a),some (.bool b)=>match P.underlying t,op with
   | some .bool,.eql=>some (.bool (a==b))
   | some .bool,.neq=>some (.bool (!(a==b)))
   | _,_=>none
  | some (.agg xs),some (.agg ys)=>if P.eqGuardType P.depth t then none else match op,eqG P 50 none t (.agg xs) (.agg ys) with
   | .eql,some b=>some (.bool b)
   | .neq,some b=>some (.bool (!b))
   | _,_=>none
  | _,_=>none
 | .build t parts=>match P.underlying t with
  | some (.struct fs)=>match zSJ P fs.toList,zI6 P t,zN7 S parts.toList with
   | some ps,some z,some vs=>(Instr.fill (ps[·]?) z.cells vs).map .agg
   | _,_,_=>none
  | _=>none
 | .unOp .not _ x=>match zP S x with
  | some (.bool b)=>some (.bool (!b))
  | _=>none
 | .unOp .neg _ x=>match zP S x with
  | some (.int k n)=>some (.int k (k.wrap (0-n)))
  | _=>none
 | .convert s d x=>match P.underlying d,zP S x,P.underlying s with
  | some (.int k),some (.int _ n),some _=>some (.int k (k.wrap n))
  | some .string,some (.string v),some .string=>some (.string v)
  | _,_,_=>none
 | .extract x i=>match zP S x with
  | some (.tuple vs)=>vs[i]?
  | _=>none
 | .nilCheck x=>match zP S x with
  | some (.pointer (some a))=>some (.pointer (some a))
  | _=>none
 | .fieldAddr s x f=>match zP S x,zRb P s f with
  | some (.pointer (some ⟨b,o,none⟩)),some off=>some (.pointer (some ⟨b,o+off,none⟩))
  | _,_=>none
 | .makeFunc fn x y=>match zZR S x.toList,zZR S y.toList with
  | some us,some vs=>some (.func fn us.toArray vs.toArray)
  | _,_=>none
 | .unOp .xor _ x=>match zP S x with
  | some (.int k n)=>some (.int k (z5u k (if k.signed then -1 else k.max) n))
  | _=>none
 | .call c=>match c.callee,c.args.toList,c.argTypes.toList with
  | .builtin .len,[x],[t]=>match zP S x,P.underlying t with
   | some (.string s),some .string=>some (vi (s.data.toList.length:Int))
   | some (.slice _ n _),some (.slice _)=>some (vi (n:Int))
   | _,_=>none
  | .builtin .min,[x,y],_=>match zP S x,zP S y with
   | some (.int k a),some (.int _ b)=>some (.int k (if b<a then b else a))
   | _,_=>none
  | .builtin .max,[x,y],_=>match zP S x,zP S y with
   | some (.int k a),some (.int _ b)=>some (.int k (if b > a then b else a))
   | _,_=>none
  | _,_,_=>none
 | _=>none
theorem zZX:∀ a b:zA,Op.bytesLess a b=yX a b
 | a,[]=>by cases a <;> rfl
 | [],_::_=>rfl
 | a::x,b::y=>by simp only[Op.bytesLess,yX,zZX x y]
theorem zD7{P:Program}{w:World}(op:BinOp)(k k':IntKind)(a b:Int)(t:TypeId)(x y:Operand): (eqGuard op t x y (.int k a) (.int k' b)).run P w=.ok () w:=by
 unfold eqGuard
 split <;> rfl
theorem zO3{P:Program}{w:World}(op:BinOp)(a b:ByteArray)(t:TypeId)(x y:Operand): (eqGuard op t x y (.string a) (.string b)).run P w=.ok () w:=by
 unfold eqGuard
 split <;> rfl
theorem zMv{P:Program}{w:World}(op:BinOp)(a b:Bool)(t:TypeId)(x y:Operand): (eqGuard op t x y (.bool a) (.bool b)).run P w=.ok () w:=by
 unfold eqGuard
 split <;> rfl
theorem z07{P:Program}{w:World}{op:BinOp}{k:IntKind}{a b:Int}{t:TypeId}{v:Value}(h:zZp op k a b=some v):
  (binOp op t (.int k a) (.int k b)).run P w=.ok v w:=by
 cases op <;> simp[zZp] at h <;> subst h <;> simp[binOp,Op.intArith,Op.intBits,Op.intCmp,z7n,bor,z5u,zYI]
theorem zOK (a:ByteArray): a.toList=a.data.toList:=ByteArray.toList_eq a
theorem z05{P:Program}{w:World}{op:BinOp}{a b:ByteArray}{t:TypeId}{v:Value}(h:zYq op a.data.toList b.data.toList=some v):
  (binOp op t (.string a) (.string b)).run P w=.ok v w:=by
 cases op <;> simp[zYq] at h <;> subst h <;> simp[binOp,Op.stringOp,zZX,zOK]
theorem zXi{P:Program}{w:World}{s f off b o:Nat}(h:zRb P s f=some off):
  (Instr.fieldAt s (.pointer (some ⟨b,o,none⟩)) f).run P w=.ok (.pointer (some ⟨b,o+off,none⟩)) w:=by
 unfold zRb at h
 split at h
 ·rename_i fs hu
  split at h
  ·rename_i fd hf
   split at h
   ·rename_i n hn
    simp only[Qg] at h
    subst h
    have hsz:(sizeOf fd.type).run P w=.ok (n+1) w:=by
     cases hq:P.info? fd.type with
     | none=>grind
     | some i =>
      have:i.size=n+1:=by simpa [hq] using hn
      simp[sizeOf,typeInfo,hq,this]
    have hadd:(⟨b,o,none⟩:Addr).add fd.offset=⟨b,o+fd.offset,none⟩:=by unfold Addr.add;split <;> simp_all
    simp[Instr.fieldAt,run_underlying hu,hf,Instr.sureAddr,fieldPlace,hsz,hadd]
   ·cases h
  ·cases h
 ·cases h
theorem zFZ{P:Program}{w:World}{t:TypeId}{b:Bool}{n:Nat}(h:uB P t=some (b,n)): (isAgg t).run P w=.ok b w∧(sizeOf t).run P w=.ok n w:=by
 unfold uB at h
 have hsz:∀ m,(P.info? t).map (·.size)=some m->(sizeOf t).run P w=.ok m w:=by
  intro m hm
  cases hq:P.info? t with
  | none=>grind
  | some i =>
   have:i.size=m:=by simpa [hq] using hm
   simp[sizeOf,typeInfo,hq,this]
 split at h
 ·rename_i fs m hu hm
  simp only[Qg,Prod.mk.injEq] at h
  obtain⟨rfl,rfl⟩:=h
  exact⟨by simp[isAgg,run_underlying hu],hsz _ hm⟩
 ·rename_i x y m hu hm
  simp only[Qg,Prod.mk.injEq] at h
  obtain⟨rfl,rfl⟩:=h
  exact⟨by simp[isAgg,run_underlying hu],hsz _ hm⟩
 ·rename_i d m hn1 hn2 hu hm
  simp only[Qg,Prod.mk.injEq] at h
  obtain⟨rfl,rfl⟩:=h
  refine⟨?_,hsz _ hm⟩
  simp only[isAgg,Sem.run_bind,run_underlying hu,Result.andThen_ok]
  simp_all
 ·cases h
theorem zJs{P:Program}{t:TypeId}{z:Value}(h:zI6 P t=some z)(w:World): (zeroValue t).run P w=.ok z w:=by
 unfold zI6 at h
 cases hq:P.info? t with
 | none=>grind
 | some i =>
  simp only[hq,zob] at h
  simp[zeroValue,typeInfo,hq,h]
theorem zLd{P:Program}{w:World}{t:TypeId}{cs:Array Value}{o:Nat}{v:Value}(h:z2m P t cs o=some v): (part t cs o).run P w=.ok v w:=by
 unfold z2m at h
 split at h
 ·rename_i n hs
  obtain⟨h1,h2⟩:=zFZ (w:=w) hs
  simp only[Qg] at h
  subst h
  simp[part,h1,h2]
 ·rename_i n hs
  obtain⟨h1,h2⟩:=zFZ (w:=w) hs
  simp[part,h1,h]
 ·cases h
theorem zX1{P:Program}{w:World}: ∀(d:Nat),
  (∀(t:TypeId) (x y:Value) (b:Bool),eqG P d none t x y=some b->∀ D,d≤D->(Op.equalIn D t x y).run P w=.ok b w) ∧
  (∀(fs:List Field) (t:TypeId) (xs ys:Array Value) (b:Bool),eqG P d (some fs) t (.agg xs) (.agg ys)=some b->∀ D,d≤D->(Op.eqFields D xs ys fs).run P w=.ok b w)
 | 0=>⟨fun t x y b h=>by simp[eqG] at h,fun fs t xs ys b h=>by simp[eqG] at h⟩
 | d+1=>by
  obtain⟨ih1,ih2⟩:=zX1 (P:=P) (w:=w) d
  refine⟨fun t x y b h D hD=>?_,fun fs t xs ys b h D hD=>?_⟩
  ·obtain⟨D',rfl⟩:∃ D',D=D' + 1:=⟨D-1,by omega⟩
   simp only[eqG] at h
   grind [run_equalIn_bool',run_equalIn_int,run_equalIn_string,zOK,Program.fieldsOf,run_equalIn_struct]
  ·cases fs with
   | nil =>
    simp only[eqG,Qg] at h
    subst h
    simp[Op.eqFields]
   | cons f fs =>
    simp only[eqG] at h
    split at h
    ·cases h
    ·rename_i hn
     split at h
     ·rename_i u v hu hv
      split at h
      ·rename_i r hr
       have hrun:=ih1 f.type u v r hr D (by omega)
       split at h
       ·simp only[Qg] at h
        subst h
        simp only[Op.eqFields,ne_eq,hn,not_false_eq_true,Qe,Sem.run_bind,zLd hu,zLd hv,Result.andThen_ok,hrun]
        cases r <;> simp
       ·split at h
        ·rename_i q hq
         simp only[Qg] at h
         subst h
         have hrest:=ih2 _ t xs ys q hq D (by omega)
         simp only[Op.eqFields] at hrest
         simp only[Op.eqFields,ne_eq,hn,not_false_eq_true,Qe,Sem.run_bind,zLd hu,zLd hv,Result.andThen_ok,hrun]
         cases r
         ·simp
         grind
        ·cases h
      ·cases h
     ·cases h
theorem zWG{P:Program}{w:World}: ∀ {fs:List Field} {ps:List (Nat×Nat)},zSJ P fs=some ps->(fs.mapM (fun f=>do pure (f.offset,←sizeOf f.type):Field->Sem (Nat×Nat))).run P w=.ok ps w
 | [],ps,h=>by simp only[zSJ,Qg] at h;subst h;simp
 | f::fs,ps,h=>by
  simp only[zSJ] at h
  split at h
  ·rename_i n r hn hr
   simp only[Qg] at h
   subst h
   have hsz:(sizeOf f.type).run P w=.ok n w:=by
    cases hq:P.info? f.type with
    | none=>grind
    | some i =>
     have:i.size=n:=by simpa [hq] using hn
     simp[sizeOf,typeInfo,hq,this]
   have ih:=zWG (w:=w) hr
   simp_all
  ·cases h
theorem qO.parts{a:Act}{n:Nat}{S:List (Nat×Value)}(hS:qO a n S): ∀ {ps:List (Nat×Operand)} {vs:List (Nat×Value)},zN7 S ps=some vs->ps.map (fun(i,x)=>(i,a.eval x))=vs
 | [],vs,h=>by simpa [zN7] using h
 | (i,x)::r,vs,h=>by
  simp only[zN7] at h
  split at h
  ·rename_i v q hx hr
   simp only[Qg] at h
   rw[←h,QY,hS.parts hr]
   show(i,a.eval x)::q=(i,v)::q
   rw[hS.eval hx]
  ·cases h
theorem zUL{P:Program}{a:Act}{n:Nat}{S:List (Nat×Value)}(hS:qO a n S){op:Op}{v:Value}(h:pv P S op=some v)
  (d:Option Tmp) (ty:TypeId) (pos:String) (af:Array Edge) (g:Option (Nat×Bool)) (w:World) :
  (execOp a.eval ⟨d,op,ty,pos,af,g⟩).run P w=.ok (.value v) w:=by
 cases op with
 | move x=>simp only[pv] at h;simp[execOp,hS.eval h]
 | assign x=>simp only[pv] at h;simp[execOp,hS.eval h]
 | pick c x y =>
  simp only[pv] at h
  split at h
  ·rename_i hc;simp[execOp,hS.eval hc,asBool,hS.eval h]
  ·rename_i hc;simp[execOp,hS.eval hc,asBool,hS.eval h]
  ·cases h
 | binOp op t x y u =>
  simp only[pv] at h
  split at h
  ·rename_i k p k' q hx hy
   split at h
   ·rename_i hk
    subst hk
    split at h
    ·rename_i v' hv
     simp only[Qg] at h
     subst h
     simp[execOp,hS.eval hx,hS.eval hy,zD7,z07 hv]
    ·simp[execOp,hS.eval hx,hS.eval hy,zD7,zMP h]
   ·simp[execOp,hS.eval hx,hS.eval hy,zD7,zMP h]
  ·rename_i p q hx hy
   simp[execOp,hS.eval hx,hS.eval hy,zO3,z05 h]
  ·rename_i p q hx hy
   split at h
   ·rename_i hu
    simp only[Qg] at h
    subst h
    simp[execOp,hS.eval hx,hS.eval hy,zMv,run_eql_bool w t p q hu]
   ·rename_i hu
    simp only[Qg] at h
    subst h
    simp[execOp,hS.eval hx,hS.eval hy,zMv,run_neq_bool w t p q hu]
   ·cases h
  ·rename_i xs ys hx hy
   split at h
   ·cases h
   ·rename_i hgd
    have hgd':P.eqGuardType P.depth t=false:=by simpa using hgd
    split at h
    ·rename_i r hr
     simp only[Qg] at h
     subst h
     have:=(zX1 (P:=P) (w:=w) 50).1 t _ _ r hr 10000 (by omega)
     simp[execOp,hS.eval hx,hS.eval hy,run_eqGuard_agg w _ t x y xs ys hgd',run_eql_struct,this]
    ·rename_i r hr
     simp only[Qg] at h
     subst h
     have:=(zX1 (P:=P) (w:=w) 50).1 t _ _ r hr 10000 (by omega)
     simp[execOp,hS.eval hx,hS.eval hy,run_eqGuard_agg w _ t x y xs ys hgd',run_neq_struct,this]
    ·cases h
  ·cases h
 | build t parts =>
  simp only[pv] at h
  split at h
  ·rename_i fs hu
   split at h
   ·rename_i ps z vs hps hz hvs
    simp only[Ul] at h
    obtain⟨cells,hfill,rfl⟩:=h
    have h1:=zWG (w:=w) hps
    simp only[bind_pure_comp] at h1
    have h2:=hS.parts hvs
    have h3:=zJs hz w
    simp only[execOp,Instr.build,Sem.run_bind,h3,Result.andThen_ok,run_underlying hu,Array.mapM_eq_mapM_toList,bind_pure_comp,Sem.run_map,h1]
    simp_all
   ·cases h
  ·cases h
 | unOp op t x =>
  cases op with
  | not =>
   simp only[pv] at h
   split at h
   ·rename_i b hx
    simp only[Qg] at h
    subst h
    simp[execOp,hS.eval hx,Op.unary]
   ·cases h
  | neg =>
   simp only[pv] at h
   split at h
   ·rename_i k m hx
    simp only[Qg] at h
    subst h
    simp[execOp,hS.eval hx,Op.unary,Op.intArith]
   ·cases h
  | xor =>
   simp only[pv] at h
   split at h
   ·rename_i k m hx
    simp only[Qg] at h
    subst h
    simp[execOp,hS.eval hx,Op.unary,Op.intBits,z5u]
   ·cases h
  | _=>simp[pv] at h
 | convert s t x =>
  simp only[pv] at h
  split at h
  ·rename_i k k' m ds hu hx hs
   simp only[Qg] at h
   subst h
   simp[execOp,convert,hS.eval hx,run_underlying hu,run_underlying hs,Conv.intToInt]
  ·rename_i u hu hx hs
   simp only[Qg] at h
   subst h
   simp[execOp,convert,hS.eval hx,run_underlying hu,run_underlying hs]
  ·cases h
 | extract x i =>
  simp only[pv] at h
  split at h
  ·rename_i us hx
   simp[execOp,hS.eval hx,Instr.extract,h]
  ·cases h
 | nilCheck x =>
  simp only[pv] at h
  split at h
  ·rename_i u hx
   simp only[Qg] at h
   subst h
   simp[execOp,hS.eval hx]
  ·cases h
 | fieldAddr s x f =>
  simp only[pv] at h
  split at h
  ·rename_i b o off hx hf
   simp only[Qg] at h
   subst h
   simp[execOp,hS.eval hx,zXi hf]
  ·cases h
 | makeFunc fn x y =>
  simp only[pv] at h
  split at h
  ·rename_i us vs hx hy
   simp only[Qg] at h
   subst h
   have h1:=hS.evals hx
   have h2:=hS.evals hy
   have e1:x.map a.eval=us.toArray:=by rw[←h1];exact Array.toList_inj.1 (by simp)
   have e2:y.map a.eval=vs.toArray:=by rw[←h2];exact Array.toList_inj.1 (by simp)
   simp[execOp,Instr.makeFunc,e1,e2]
  ·cases h
 | call c =>
  obtain⟨cal,args,ats⟩:=c
  simp only[pv] at h
  split at h
  ·rename_i x t h2 h3
   obtain⟨args⟩:=args
   obtain⟨ats⟩:=ats
   have h2:args=[x]:=h2
   have h3:ats=[t]:=h3
   subst h2 h3
   split at h
   ·rename_i s hx hu
    simp only[Qg] at h
    subst h
    simp[execOp,resolve,invoke,builtin,Builtin.len_,hS.eval hx,run_underlying hu,goInt]
   ·rename_i b m c e hx hu
    simp only[Qg] at h
    subst h
    simp[execOp,resolve,invoke,builtin,Builtin.len_,hS.eval hx,run_underlying hu,goInt]
   ·cases h
  ·rename_i ts x y h2
   obtain⟨args⟩:=args
   have h2:args=[x,y]:=h2
   subst h2
   split at h
   ·rename_i k p k' q hx hy
    simp only[Qg] at h
    subst h
    simp[execOp,resolve,invoke,builtin,Builtin.min_,Builtin.min2,hS.eval hx,hS.eval hy]
   ·cases h
  ·rename_i ts x y h2
   obtain⟨args⟩:=args
   have h2:args=[x,y]:=h2
   subst h2
   split at h
   ·rename_i k p k' q hx hy
    simp only[Qg] at h
    subst h
    simp[execOp,resolve,invoke,builtin,Builtin.max_,Builtin.max2,hS.eval hx,hS.eval hy]
   ·cases h
  ·cases h
 | _=>simp[pv] at h
section
variable {P:Program}{ops:Array Oper}{Q:Exit->Act->World->Prop}{a:Act}{n:Nat}{S:List (Nat×Value)}{w:World}{rest:List Oper}
def qC (ops:Array Oper)(S:List (Nat×Value))(g:Option (Nat×Bool)): Option Bool :=
 match g with
 | none=>some true
 | some (j,b)=>match ops[j]? with
  | none=>none
  | some o=>match o.dst with
   | none=>none
   | some d=>match vG S d with
    | some (.bool c)=>some (c==b)
    | some (.tuple _)=>some false
    | _=>none
theorem zEH (hS:qO a n S){o:Oper}{b:Bool}(h:qC ops S o.guard=some b): Region.wanted o (yielded ops a.tmps)=b:=by
 unfold qC at h
 unfold Region.wanted
 split at h
 ·grind
 ·rename_i j c hg
  rw[hg]
  split at h
  ·cases h
  ·rename_i oj hj
   split at h
   ·cases h
   ·rename_i d hd
    split at h
    ·rename_i u hu
     simp only[Qg] at h
     have hv:=hS.has d _ hu
     simp only[yielded,hj,zob,hd,hv]
     simp_all
    ·rename_i u hu
     simp only[Qg] at h
     have hv:=hS.has d _ hu
     grind [yielded]
    ·cases h
def zHa (P:Program)(ops:Array Oper): List Oper->List (Nat×Value)->Option (List (Nat×Value))
 | [],S=>some S
 | o::r,S=>match o.dst with
  | none=>none
  | some d=>match qC ops S o.guard with
   | some true=>match pv P S o.op with
    | some v=>zHa P ops r ((d,v)::S)
    | none=>none
   | some false=>zHa P ops r ((d,undef)::S)
   | none=>none
def zVd:List Oper->List Nat
 | []=>[]
 | o::r=>match o.dst with
  | some d=>d::zVd r
  | none=>zVd r
def zUC (n:Nat)(S2 S:List (Nat×Value)): List Nat->Bool
 | []=>true
 | d::r=>Nat.blt d n&&((vG S2 d).isSome||(vG S d).isNone)&&zUC n S2 S r
theorem zLN{o:Oper}{v:Value}{w':World}(hg:qC ops S o.guard=some true)(hS:qO a n S)(hr:(execOp a.eval o).run P w=.ok (.value v) w')
  (k:wpList P ops Q rest (a.put o.dst v) w'):wpList P ops Q (o::rest) a w:=by
 unfold wpList
 rw[Qm (zEH hS hg)]
 refine .inl ?_
 unfold Oper.wp
 rw[hr]
 exact k
theorem zNW{o:Oper}(hg:qC ops S o.guard=some false)(hS:qO a n S)
  (k:wpList P ops Q rest (a.put o.dst undef) w):wpList P ops Q (o::rest) a w:=by
 unfold wpList
 rw[Qa (by rw[zEH hS hg];simp)]
 exact k
theorem zKY:∀(l:List Oper) (a:Act) (S S':List (Nat×Value)),qO a n S->zHa P ops l S=some S'->(zVd l).all (fun d=>Nat.blt d n)=true->
  (∀ a',qO a' n S'->wpList P ops Q rest a' w)->wpList P ops Q (l++rest) a w
 | [],a,S,S',hS,h,_,k=>by
  grind [zHa]
 | o::l,a,S,S',hS,h,hd,k=>by
  simp only[zHa] at h
  split at h
  ·cases h
  ·rename_i d hod
   simp only[zVd,hod,UD,Qb] at hd
   split at h
   ·rename_i hg
    split at h
    ·rename_i v hv
     refine zLN (v:=v) (w':=w) hg hS (zUL hS hv _ _ _ _ _ w) ?_
     rw[hod]
     exact zKY l _ _ S' (hS.put hd.1 v) h hd.2 k
    ·cases h
   ·rename_i hg
    refine zNW hg hS ?_
    rw[hod]
    exact zKY l _ _ S' (hS.put hd.1 undef) h hd.2 k
   ·cases h
theorem zNT:∀ {l:List Oper} {S S':List (Nat×Value)},zHa P ops l S=some S'->∀ i,i∉zVd l->vG S' i=vG S i
 | [],S,S',h,i,_=>by grind [zHa]
 | o::l,S,S',h,i,hi=>by
  simp only[zHa] at h
  split at h
  ·cases h
  ·rename_i d hod
   simp only[zVd,hod,QG,not_or] at hi
   have hb:Nat.beq d i=false:=by
    cases hb:Nat.beq d i with
    | false=>rfl
    | true=>simp_all
   split at h
   ·split at h
    ·rw[zNT h i hi.2];simp[vG,hb]
    ·cases h
   ·rw[zNT h i hi.2];simp[vG,hb]
   ·cases h
theorem zSS{S2 S:List (Nat×Value)}: ∀ {ds:List Nat},zUC n S2 S ds=true->(ds.all (fun d=>Nat.blt d n)=true)∧∀ d∈ds,(vG S2 d).isSome∨vG S d=none
 | [],_=>⟨rfl,fun _ h=>by cases h⟩
 | d::r,h=>by
  simp only[zUC,Qb,QI,Option.isNone_iff_eq_none] at h
  obtain⟨⟨h1,h2⟩,h3⟩:=h
  obtain⟨i1,i2⟩:=zSS h3
  grind
theorem zZI (m:Nat)(S2:List (Nat×Value)){l:List Oper}(hS:qO a n S)
  (hr:(zHa P ops (l.take m) S).bind (fun s=>zQ8 s (S2.map Prod.fst))=some S2) (hd:zUC n S2 S (zVd (l.take m))=true)
  (k:∀ a',qO a' n (S2++S)->wpList P ops Q (l.drop m) a' w):wpList P ops Q l a w:=by
 cases hp:zHa P ops (l.take m) S with
 | none=>grind
 | some S' =>
  simp only[hp,zob] at hr
  obtain⟨hd1,hd2⟩:=zSS hd
  rw[←QC m l]
  refine zKY _ a S S' hS hp hd1 fun a' hS'=>k a' ⟨hS'.defers,hS'.size,fun i v hl=>?_⟩
  rw[zYJ] at hl
  split at hl
  ·rename_i u hu
   simp only[Qg] at hl
   subst hl
   exact hS'.has i _ (zPU hr i _ hu)
  ·rename_i hu
   by_cases hi:i∈zVd (l.take m)
   ·grind
   ·exact hS'.has i v (by rw[zNT hp i hi];exact hl)
theorem zXt (h:Q .normal a w): wpList P ops Q [] a w:=h
def vC (P:Program)(ops:Array Oper)(Q:Exit->Act->World->Prop)(o:Oper)(K:Act->World->Prop)(a:Act)(w:World): Prop :=
 if Region.wanted o (yielded ops a.tmps) then o.wp P a w K Q else K (a.put o.dst undef) w
theorem sl{o:Oper}(h:vC P ops Q o (wpList P ops Q rest) a w): wpList P ops Q (o::rest) a w:=by
 unfold vC at h
 unfold wpList
 grind
theorem zF2{d:Nat}{op:Op}{ty:TypeId}{pos:String}{af:Array Edge}{g:Option (Nat×Bool)}{v:Value}{w':World}{K:Act->World->Prop}
  (hS:qO a n S) (hd:Nat.blt d n=true) (hg:qC ops S g=some true) (hr:(execOp a.eval ⟨some d,op,ty,pos,af,g⟩).run P w=.ok (.value v) w')
  (k:∀ a',qO a' n ((d,v)::S)->K a' w'):vC P ops Q ⟨some d,op,ty,pos,af,g⟩ K a w:=by
 unfold vC
 rw[Qm (zEH (o:=⟨some d,op,ty,pos,af,g⟩) hS hg)]
 unfold Oper.wp
 rw[hr]
 exact k _ (hS.put hd v)
theorem zUy{op:Op}{ty:TypeId}{pos:String}{af:Array Edge}{g:Option (Nat×Bool)}{w':World}{K:Act->World->Prop}
  (hS:qO a n S) (hg:qC ops S g=some true) (hr:(execOp a.eval ⟨none,op,ty,pos,af,g⟩).run P w=.ok .skip w')
  (k:∀ a',qO a' n S->K a' w'):vC P ops Q ⟨none,op,ty,pos,af,g⟩ K a w:=by
 unfold vC
 rw[Qm (zEH (o:=⟨none,op,ty,pos,af,g⟩) hS hg)]
 unfold Oper.wp
 rw[hr]
 exact k a hS
def Ret (R:Value->World->Prop): Ending->World->Prop
 | .returned v,w=>R v w
 | _,_=>False
theorem qO.upd (hS:qO a n S){t:Nat}{v v':Value}(hl:vG S t=some v)(e:v=v'): qO a n ((t,v')::S):=by
 subst e
 refine⟨hS.defers,hS.size,fun i u hu=>?_⟩
 simp only[vG] at hu
 cases hb:Nat.beq t i with
 | true =>
  have:t=i:=Nat.eq_of_beq_eq_true hb
  subst this
  simp only[hb,cond_true,Qg] at hu
  subst hu
  exact hS.has _ _ hl
 | false =>
  simp only[hb,cond_false] at hu
  exact hS.has i u hu
end
section
variable {P:Program}{Q:Exit->Act->World->Prop}{a:Act}{w:World}{n:Nat}{S:List (Nat×Value)}
theorem z3W{K:Act->World->Prop}(h:K a w): Exit.then K Q .normal a w:=h
theorem z7P{id:Nat}(h:Q .normal a w): Exit.inBlock id Q (.exit id) a w:=by simpa [Exit.inBlock] using h
theorem z5W{id id':Nat}(hne:Nat.beq id' id=false)(h:Q (.exit id') a w): Exit.inBlock id Q (.exit id') a w:=by grind [Nat.beq_refl,Exit.inBlock]
theorem z6t{x y:Code}(J:Act->World->Prop)(hx:x.wp P (Exit.then J Q) a w)(hy:∀ a w,J a w->y.wp P Q a w): (Code.seq x y).wp P Q a w :=
 wp_seq (wp_mono hx fun e a w h=>by cases e <;> first | exact hy a w h | exact h)
theorem z33{c:Operand}{x y:Code}{t:Bool}(hS:qO a n S)(hc:zP S c=some (.bool t))
  (ht:t=true->x.wp P Q a w) (hf:t=false->y.wp P Q a w):(Code.cond c x y).wp P Q a w :=
 wp_cond_split (hS.eval hc) ht hf
theorem reg{id:Nat}{l:List Oper}(h:wpList P l.toArray Q l a w): (Code.region id l.toArray false).wp P Q a w:=wp_region_lit h
theorem z5m{c:Code}(J:Act->World->Prop)(h:c.wp P (Exit.then J Q) a w)(hj:∀ a w,J a w->Q .normal a w): c.wp P Q a w :=
 wp_mono h fun e a w h=>by cases e <;> first | exact hj a w h | exact h
def z5Z{σ ρ:Type}(Inv:σ->Act->World->Prop)(Q:Exit->Act->World->Prop)(o:σ⊕ρ): Exit->Act->World->Prop
 | .normal,a,w=>∃ s,o=.inl s∧Inv s a w
 | e,a,w=>Q e a w
theorem loop_m{σ ρ:Type}{c:Code}{B:σ->Option (σ⊕ρ)}(Inv:σ->Act->World->Prop){r:ρ}{s:σ}(hm:zJ B s=some r)(h0:Inv s a w)
  (step:∀ s a w o,Inv s a w->B s=some o->(∀ r',o=.inr r'->r=r')->c.wp P (z5Z Inv Q o) a w):(Code.loop c).wp P Q a w:=by
 obtain⟨k,hk⟩:=zHR hm
 let good:Nat->Act->World->Prop:=fun m a w=>∃ s,tY B m s=some r∧Inv s a w
 have hgood:good k a w:=⟨s,hk,h0⟩
 intro b kk cs
 have key:∀ m a w,good m a w->∃ e a' w',Q e a' w'∧Arrives P (lone (b.at a (.code c::.inLoop c::kk)) cs w) b kk cs e a' w':=by
  intro m
  induction m with
  | zero=>grind [tY]
  | succ m ih =>
   rintro a w ⟨s,hs,hI⟩
   simp only[tY] at hs
   cases hb:B s with
   | none=>grind
   | some o =>
    have hst:=step s a w o hI hb (fun r' he=>by grind)
    obtain⟨e,a₁,w₁,hq,harr⟩:=hst b (.inLoop c::kk) cs
    cases e with
    | normal =>
     obtain⟨s',rfl,hI'⟩:=hq
     simp only[hb] at hs
     obtain⟨e₂,a₂,w₂,hq₂,harr₂⟩:=ih a₁ w₁ ⟨s',hs,hI'⟩
     exact⟨e₂,a₂,w₂,hq₂,.of_steps (Steps.trans harr (.one step_inLoop)) harr₂⟩
    | exit id=>exact⟨_,a₁,w₁,hq,.pass (x:=.inLoop c) rfl (fun _ _=>.inl (by simp)) harr⟩
    | goto l=>exact⟨_,a₁,w₁,hq,.pass (x:=.inLoop c) rfl (fun _ _=>.inl (by simp)) harr⟩
    | ret=>exact⟨_,a₁,w₁,hq,.pass (x:=.inLoop c) rfl (fun _ _=>.inl (by simp)) harr⟩
    | panic ch=>exact⟨_,a₁,w₁,hq,.pass (x:=.inLoop c) rfl (fun _ _=>.inl (by simp)) harr⟩
    | outgrown=>exact⟨_,a₁,w₁,hq,.pass (x:=.inLoop c) rfl (fun _ _=>.inl (by simp)) harr⟩
 obtain⟨e,a',w',hq,harr⟩:=key k a w hgood
 exact⟨e,a',w',hq,.of_steps (.one step_loop) harr⟩
theorem ret1{fn:Func}{t:Nat}{R:Value->World->Prop}{v:Value}(hS:qO a n S)(hf:fn.results=#[.tmp t])(hv:vG S t=some v)(hR:R v w):
  bodyPost P fn (Ret R) .ret a w :=
 ⟨hS.defers,v,by rw[results_tmp hf,hS.getD hv],hR⟩
def zKQ:List Value->Nat->List (Nat×Value)
 | [],_=>[]
 | v::r,i=>(i,v)::zKQ r (i+1)
theorem zO4:∀(vs:List Value) (k i:Nat) (v:Value),vG (zKQ vs k) i=some v->k≤i∧vs[i-k]?=some v
 | [],k,i,v,h=>by simp[zKQ,vG] at h
 | u::r,k,i,v,h=>by
  simp only[zKQ,vG] at h
  cases hb:Nat.beq k i with
  | true =>
   simp_all
  | false =>
   simp only[hb,cond_false] at h
   obtain⟨h1,h2⟩:=zO4 r (k+1) i v h
   grind
theorem enter{f:FuncId}{fn:Func}{c:Code}{vs:List Value}{R:Ending->World->Prop}(hf:P.funcs[f]?=some fn)(hb:fn.body=some c)(hn:Nat.ble vs.length fn.ntmps=true)
  (h:∀ a,qO a fn.ntmps (zKQ vs 0)->c.wp P (bodyPost P fn R) a w):Calls P f vs.toArray w R:=by
 refine calls_of_wp hf hb (h _ ⟨rfl,?_,fun i v hl=>?_⟩)
 ·simp_all
 ·obtain⟨_,h2⟩:=zO4 vs 0 i v hl
  grind
end
end Go.GD
