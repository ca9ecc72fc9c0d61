/- A part. Conditions: none. -/
import Derived.Test.YtgdgcdmdogdmgaaGreatDoorHeap
import Derived.Laws.OwnMore
import Derived.Laws.Concat
namespace Go.GD
open Go Go.RowKit
set_option autoImplicit false
variable {qd:Prop}
def tZ:Bool->List Value->Option Value
 | true,cs=>some (.agg cs.toArray)
 | false,[v]=>some v
 | false,_=>none
section
variable {P:Program}{w:World}
theorem zCj (b o j:Nat): (⟨b,o,none⟩:Addr).add j=⟨b,o+j,none⟩:=by grind [Addr.add]
theorem zGZ{t:TypeId}{b o:Nat}{ag:Bool}{cs:List Value}{v:Value}(hs:wX P t=some (ag,cs.length))(hc:∀ j u,cs[j]?=some u->w.cell? ⟨b,o+j,none⟩=some u)
  (hv:tZ ag cs=some v):(loadVar t ⟨b,o,none⟩).run P w=.ok v w:=by
 obtain⟨h1,h2⟩:=zIh (w:=w) hs
 cases ag with
 | true =>
  simp only[tZ,Qf] at hv
  subst hv
  have:=run_loadCells_list (P:=P) w ⟨b,o,none⟩ cs (fun j u hu=>by grind [zCj])
  simp[loadVar,h1,h2,this]
 | false =>
  match cs,hv with
  | [u],hv =>
   simp only[tZ,Qf] at hv
   subst hv
   have:=hc 0 u rfl
   simp only[Q4] at this
   simp[loadVar,h1,run_load,this]
def z54 (c:Array Value)(o n:Nat): List Value:=(c.toList.drop o).take n
def tI (c:Array Value)(o:Nat)(v:List Value): Array Value:=(c.toList.take o++v++c.toList.drop (o+v.length)).toArray
def zMl (P:Program)(t:TypeId)(c:Array Value)(o:Nat): Option Value :=
 match wX P t with
 | none=>none
 | some (ag,n)=>if Nat.ble (o+n) c.size then tZ ag (z54 c o n) else none
theorem zPz{t:TypeId}{b o:Nat}{c:Array Value}{te:TypeId}{fr:Nat×Nat}{v:Value}(hg:w.heap[b]?=some (.cells c te fr))(hv:zMl P t c o=some v):
  (loadVar t ⟨b,o,none⟩).run P w=.ok v w:=by
 unfold zMl at hv
 split at hv
 ·cases hv
 ·rename_i ag n hs
  split at hv
  ·rename_i hle
   have hle':o+n≤c.size:=Q3 hle
   have hlen:(z54 c o n).length=n:=by simp[z54];omega
   grind [zGZ,z54,cell_of_row]
  ·cases hv
def zM1 (P:Program)(t:TypeId)(c:Array Value)(o:Nat)(v:Value): Bool :=
 match wX P t with
 | none=>false
 | some (_,n)=>v.cells.size==n&&Nat.ble (o+n) c.size&&v.cells.toList.all (fun x=>x.oneCell')
theorem zT0{t:TypeId}{b o:Nat}{c:Array Value}{te:TypeId}{v:Value}(hg:w.heap[b]?=some (.cells c te (0,0)))(hv:zM1 P t c o v=true):
  (storeVar t ⟨b,o,none⟩ v).run P w=.ok () (w.setRow b (tI c o v.cells.toList)):=by
 unfold zM1 at hv
 split at hv
 ·cases hv
 ·rename_i ag n hs
  simp only[Qo,Ue,QE] at hv
  obtain⟨⟨h1,h2⟩,h3⟩:=hv
  have h2':o+n≤c.size:=Q3 h2
  obtain⟨k1,k2⟩:=zIh (w:=w) hs
  have hst:=run_storeCells_at P b o te v.cells.toList 0 c w hg (by simp;omega) h3
  simp only[Q4] at hst
  simp[storeVar,k2,h1,hst,tI]
end
section
variable {P:Program}{ops:Array Oper}{Q:Exit->Act->World->Prop}{a:Act}{n:Nat}{S:List (Nat×Value)}{w:World}{K:Act->World->Prop}
variable {A:List Nat}{Ls:List zG}{d:Nat}{ty:TypeId}{pos:String}{af:Array Edge}{g:Option (Nat×Bool)}
theorem yP (hO:zU A w Ls){i:Nat}{r:zG}(hr:Ls[i]?=some r){p:Nat×Obj}(hp:p∈r): w.heap[p.1]?=some p.2 :=
 hO.has r (Qn.2 ⟨i,hr⟩) p hp
theorem z2h (i:Nat){x:Operand}{t b o:Nat}{c:Array Value}{te:TypeId}{fr:Nat×Nat}{v:Value}(hS:zY a n S)(hd:Nat.blt d n=true)(hg:zQ ops S g=some true)(hO:zU A w Ls)
  (hx:zK S x=some (.pointer (some ⟨b,o,none⟩))) (hr:Ls[i]?=some [(b,.cells c te fr)]) (hv:zMl P t c o=some v)
  (k:∀ a',zY a' n ((d,v)::S)->K a' w):wH P ops Q ⟨some d,.load t x,ty,pos,af,g⟩ K a w :=
 uX hS hd hg (by simp[execOp,hS.eval hx,Instr.loadAt,Instr.sureAddr,zPz (yP hO hr (Qa.2 rfl)) hv]) k
theorem z1b (i:Nat){x y:Operand}{t b o:Nat}{c:Array Value}{te:TypeId}{v:Value}(hS:zY a n S)(hg:zQ ops S g=some true)(hO:zU A w Ls)
  (hx:zK S x=some (.pointer (some ⟨b,o,none⟩))) (hy:zK S y=some v) (hr:Ls[i]?=some [(b,.cells c te (0,0))]) (hv:zM1 P t c o v=true)
  (k:∀ w',zU A w' (Ls.set i [(b,.cells (tI c o v.cells.toList) te (0,0))])->zT qd Ls w (Ls.set i [(b,.cells (tI c o v.cells.toList) te (0,0))]) w'->∀ a',zY a' n S->K a' w') :
  wH P ops Q ⟨none,.store t x y,ty,pos,af,g⟩ K a w:=by
 have hb:=yP hO hr (Qa.2 rfl)
 refine zZN hS hg (w':=w.setRow b (tI c o v.cells.toList)) (by simp[execOp,hS.eval hx,hS.eval hy,Instr.storeAt,Instr.sureAddr,zT0 hb hv]) (k _ ?_ ?_)
 ·refine hO.set hr (by simp) (fun k _ hk=>setRow_other w b k _ (fun e=>hk (by simp[e]))) (fun p hp=>?_) (by simp) (fun p hp=>.inl ?_)
  ·grind [setRow_heap]
  grind
 ·refine zT.set hr rfl rfl rfl (by simp) (fun k _ hk=>setRow_other w b k _ (fun e=>hk (by simp[e]))) (fun p hp=>.inl ?_)
  grind
theorem z9r{op:Op}{v:Nat->Value}{o:Obj}(hS:zY a n S)(hd:Nat.blt d n=true)(hg:zQ ops S g=some true)(hO:zU A w Ls)
  (hr:(execOp a.eval ⟨some d,op,ty,pos,af,g⟩).run P w=.ok (.value (v w.heap.size)) (w.alloc o))
  (k:∀ b w',zU A w' (Ls++[[(b,o)]])->zT qd Ls w (Ls++[[(b,o)]]) w'->∀ a',zY a' n ((d,v b)::S)->K a' w') :
  wH P ops Q ⟨some d,op,ty,pos,af,g⟩ K a w :=
 uX hS hd hg hr (k _ _ (hO.alloc o rfl) (zT.alloc Ls o rfl rfl rfl rfl))
theorem op_box{x:Operand}{t:TypeId}{v:Value}(hS:zY a n S)(hd:Nat.blt d n=true)(hg:zQ ops S g=some true)(hO:zU A w Ls)(hx:zK S x=some v)
  (k:∀ b w',zU A w' (Ls++[[(b,.cells v.cells t (0,0))]])->zT qd Ls w (Ls++[[(b,.cells v.cells t (0,0))]]) w'->∀ a',zY a' n ((d,.pointer (some ⟨b,0,none⟩))::S)->K a' w') :
  wH P ops Q ⟨some d,.box t x,ty,pos,af,g⟩ K a w :=
 z9r (v:=fun b=>.pointer (some ⟨b,0,none⟩)) hS hd hg hO (by simp[execOp,hS.eval hx,Instr.box,newVar,newRow]) k
theorem z8W{t:TypeId}{z:Value}(hS:zY a n S)(hd:Nat.blt d n=true)(hg:zQ ops S g=some true)(hO:zU A w Ls)(hz:tX P t=some z)
  (k:∀ b w',zU A w' (Ls++[[(b,.cells z.cells t (0,0))]])->zT qd Ls w (Ls++[[(b,.cells z.cells t (0,0))]]) w'->∀ a',zY a' n ((d,.pointer (some ⟨b,0,none⟩))::S)->K a' w') :
  wH P ops Q ⟨some d,.alloc t,ty,pos,af,g⟩ K a w :=
 z9r (v:=fun b=>.pointer (some ⟨b,0,none⟩)) hS hd hg hO (by simp[execOp,Instr.alloc,zNd hz,newVar,newRow]) k
def z3s (P:Program)(S:List (Nat×Value))(w:World): List ResultVar->List Value->Prop
 | [],vs=>vs=[]
 | .tmp t::r,vs=>∃ v us,vs=v::us∧wT S t=some v∧z3s P S w r us
 | .cell t ty::r,vs=>∃ v us b c te fr,vs=v::us∧wT S t=some (.pointer (some ⟨b,0,none⟩))∧w.heap[b]?=some (.cells c te fr)∧zMl P ty c 0=some v∧z3s P S w r us
theorem resN:z3s P S w [] []:=rfl
theorem resT{t:Nat}{v:Value}{r:List ResultVar}{vs:List Value}(h:wT S t=some v)(k:z3s P S w r vs): z3s P S w (.tmp t::r) (v::vs):=⟨v,vs,rfl,h,k⟩
theorem resC{t ty b:Nat}{v:Value}{c:Array Value}{te:TypeId}{fr:Nat×Nat}{r:List ResultVar}{vs:List Value}(hO:zU A w Ls)(i:Nat)(h:wT S t=some (.pointer (some ⟨b,0,none⟩)))(hr:Ls[i]?=some [(b,.cells c te fr)])
  (hl:zMl P ty c 0=some v) (k:z3s P S w r vs):z3s P S w (.cell t ty::r) (v::vs):=⟨v,vs,b,c,te,fr,rfl,h,yP hO hr (Qa.2 rfl),hl,k⟩
theorem zYz (F:ResultVar->Sem Value)(f1:∀ t,F (.tmp t)=pure (a.tmps.getD t undef))(f2:∀ x t,F (.cell x t)=(asAddr (a.tmps.getD x undef) >>= fun p=>loadVar t p))(hS:zY a n S):
  ∀ {rs:List ResultVar} {vs:List Value},z3s P S w rs vs->(rs.mapM F).run P w=.ok vs w
 | [],vs,h=>by simp only[z3s] at h;subst h;simp
 | .tmp t::r,vs,h=>by
  obtain⟨v,us,rfl,h1,h2⟩:=h
  have ih:=zYz F f1 f2 hS h2
  rw[List.mapM_cons,f1]
  simp only[Sem.run_bind,Sem.run_pure,Result.andThen_ok,hS.getD h1]
  rw[ih]
  rfl
 | .cell t ty::r,vs,h=>by
  obtain⟨v,us,b,c,te,fr,rfl,h1,h2,h3,h4⟩:=h
  have ih:=zYz F f1 f2 hS h4
  have ha:(asAddr (a.tmps.getD t undef)).run P w=.ok ⟨b,0,none⟩ w:=by rw[hS.getD h1];rfl
  rw[List.mapM_cons,f2]
  simp only[Sem.run_bind,Sem.run_pure,ha,Result.andThen_ok,zPz h2 h3]
  rw[ih]
  rfl
theorem ret_g{fn:Func}{rs:List ResultVar}{vs:List Value}{R:Value->World->Prop}(hS:zY a n S)(hf:fn.results=rs.toArray)(h:z3s P S w rs vs)
  (hR:R (if h:vs.length=1 then vs[0] else .tuple vs.toArray) w):bodyPost P fn (Ret R) .ret a w:=by
 refine⟨hS.defers,_,?_,hR⟩
 simp only[results,hf,Sem.run_bind,List.mapM_toArray,Sem.run_map]
 rw[zYz _ (fun _=>rfl) (fun _ _=>rfl) hS h]
 simp_all
def wY (P:Program)(t:TypeId): Option Nat :=
 match P.underlying t with
 | some (.slice e)=>(P.info? e).map (·.size)
 | _=>none
theorem zKj{t k:Nat}{b off m c:Nat}{i:Int}(h:wY P t=some k)(h0:0≤i)(h1:i<m)(kd:IntKind):
  (Instr.indexAt t (.slice (some ⟨b,off,none⟩) m c) (.int kd i)).run P w=.ok (.pointer (some ⟨b,off+i.toNat*k,none⟩)) w:=by
 unfold wY at h
 split at h
 ·rename_i e hu
  cases hq:P.info? e with
  | none=>grind
  | some inf =>
   have hs:inf.size=k:=by simpa [hq] using h
   simp[Instr.indexAt,asIntOf,run_underlying hu,h0,h1,sizeOf,typeInfo,hq,hs,zCj]
 ·cases h
theorem z2N{τ:Type}{e:E τ}{Z:List Nat}{p:Option Addr}{c:Nat}{l:List τ}{i:Int}{v:τ}{t:TypeId}{x y:Operand}{kd:IntKind}
  (hS:zY a n S) (hd:Nat.blt d n=true) (hg:zQ ops S g=some true) (hR:xN e Z w p c l) (hx:zK S x=some (.slice p l.length c)) (hy:zK S y=some (.int kd i)) (ht:wY P t=some e.n) (hm:zB l i=some v)
  (k:∀ b o,tT e Z w ⟨b,o,none⟩ v->∀ a',zY a' n ((d,.pointer (some ⟨b,o,none⟩))::S)->K a' w) :
  wH P ops Q ⟨some d,.indexAddr t x y,ty,pos,af,g⟩ K a w:=by
 unfold zB at hm
 split at hm
 ·rename_i h0
  obtain⟨hlt,hv⟩:=Qg.1 hm
  rcases hR.2 with rfl | ⟨b,off,cs,rfl,hb,hbl,hl,hc⟩
  ·simp at hlt
  ·obtain⟨ci,h1,h2⟩:=e.rdL_get hl hm
   refine uX hS hd hg (v:=.pointer (some ⟨b,off+i.toNat*e.n,none⟩)) (w':=w) ?_ (k b _ ⟨b,_,ci,rfl,hb,hbl,h1,fun j u hu=>?_⟩)
   ·simp[execOp,hS.eval hx,hS.eval hy,zKj (m:=l.length) ht h0 (by omega)]
   grind
 ·cases hm
theorem z4c{τ:Type}{e:E τ}{Z:List Nat}{b o:Nat}{y:τ}{t:TypeId}{x:Operand}(ag:Bool)
  (hS:zY a n S) (hd:Nat.blt d n=true) (hg:zQ ops S g=some true) (hP:tT e Z w ⟨b,o,none⟩ y) (hx:zK S x=some (.pointer (some ⟨b,o,none⟩))) (ht:wX P t=some (ag,e.n))
  (k:∀ ci,e.rd Z w ci y->∀ v,tZ ag ci=some v->∀ a',zY a' n ((d,v)::S)->K a' w) (hag:ag=true∨e.n=1) :
  wH P ops Q ⟨some d,.load t x,ty,pos,af,g⟩ K a w:=by
 obtain⟨b',o',ci,he,hb,hbl,h1,h2⟩:=hP
 cases he
 have hl:=e.len h1
 have hv:∃ v,tZ ag ci=some v:=by
  rcases hag with rfl | hn
  ·exact⟨_,rfl⟩
  ·cases ag with
   | true=>exact⟨_,rfl⟩
   | false=>match ci,hl.trans hn with | [u],_=>exact⟨u,rfl⟩
 obtain⟨v,hv⟩:=hv
 refine uX hS hd hg (v:=v) (w':=w) ?_ (k ci h1 v hv)
 simp[execOp,hS.eval hx,Instr.loadAt,Instr.sureAddr,zGZ (cs:=ci) (by rw[hl];exact ht) h2 hv]
theorem ba_get{s:zD}{k:Nat}{u:UInt8}(h:s[k]?=some u): (ByteArray.mk s.toArray)[k]?=some u:=by
 obtain⟨hlt,hv⟩:=Qg.1 h
 have hsz:k<(ByteArray.mk s.toArray).size:=by simpa [ByteArray.size] using hlt
 rw[getElem?_pos (ByteArray.mk s.toArray) k hsz]
 show some ((s.toArray)[k]'(by grind))=some u
 simp[hv]
theorem z6v{x y:Operand}{t:TypeId}{s:zD}{i b:Int}{kd:IntKind}{d:Option Tmp}(hS:zY a n S)(hx:zK S x=some (vs s))(hy:zK S y=some (.int kd i))(hu:P.underlying t=some .string)(hm:z2G s i=some b)(w:World):
  (execOp a.eval ⟨d,.index t x y,ty,pos,af,g⟩).run P w=.ok (.value (.int .u8 b)) w:=by
 unfold z2G at hm
 split at hm
 ·rename_i h0
  cases hs:s[i.toNat]? with
  | none=>grind
  | some u =>
   simp only[hs,Option.map_some,Qf] at hm
   subst hm
   have hb:(ByteArray.mk s.toArray)[i.toNat]?=some u:=ba_get hs
   simp[execOp,hS.eval hx,hS.eval hy,Instr.index,asIntOf,run_underlying hu,h0,hb]
 ·cases hm
theorem zXq{x y:Operand}{t u:TypeId}{p q r:zD}{d:Option Tmp}(hS:zY a n S)(hx:zK S x=some (vs p))(hy:zK S y=some (vs q))(hm:cat p q=some r)(w:World):
  (execOp a.eval ⟨d,.binOp .add t x y u,ty,pos,af,g⟩).run P w=.ok (.value (vs r)) w:=by
 unfold cat at hm
 split at hm
 ·rename_i h0
  simp only[Qf] at hm
  subst hm
  have hsz:¬ (IntKind.i64.max<(((ByteArray.mk p.toArray).size+(ByteArray.mk q.toArray).size:Nat):Int)):=by
   have:IntKind.i64.max=9223372036854775807:=rfl
   simp only[this,ByteArray.size,Q1]
   omega
  have happ:(ByteArray.mk p.toArray)++(ByteArray.mk q.toArray)=ByteArray.mk (p++q).toArray:=by
   apply ByteArray.ext
   simp[ByteArray.data_append]
  have hrun:(binOp .add t (vs p) (vs q)).run P w=.ok (vs (p++q)) w:=by
   simp only[binOp,Op.stringOp,vs]
   rw[Qq hsz,happ]
   rfl
  simp[execOp,hS.eval hx,hS.eval hy,zSk,hrun]
 ·cases hm
def Bd (v:Option Value)(i dflt:Int): Prop:=(v=none∧i=dflt)∨∃ k,v=some (.int k i)
theorem zJd{b:Bool}{m c:Nat}{lo hi:Option Value}{i j:Int}(h1:Bd lo i 0)(h2:Bd hi j m)(h0:0≤i)(hij:i≤j)(hj:j≤c):
  (Instr.sliceBounds b m c lo hi none).run P w=.ok (i.toNat,j.toNat,c) w:=by
 have h0j:0≤j:=by omega
 rcases h1 with⟨rfl,rfl⟩ | ⟨k1,rfl⟩ <;> rcases h2 with⟨rfl,rfl⟩ | ⟨k2,rfl⟩ <;>
  simp[Instr.sliceBounds,Instr.sliceBound,asIntOf,h0,hj,h0j]
 ·omega
 ·omega
def uR (S:List (Nat×Value)): Option Operand->Option (Option Value)
 | none=>some none
 | some x=>(zK S x).map some
theorem zY.evalO{a:Act}{n:Nat}{S:List (Nat×Value)}(h:zY a n S){x:Option Operand}{v:Option Value}(hx:uR S x=some v): x.map a.eval=v:=by
 cases x with
 | none=>simpa [uR] using hx
 | some x =>
  simp only[uR,Uo] at hx
  obtain⟨u,hu,rfl⟩:=hx
  simp[h.eval hu]
theorem z4x (s:zD)(i j:Nat): (ByteArray.mk s.toArray).extract i j=ByteArray.mk ((s.take j).drop i).toArray:=by
 apply ByteArray.ext
 simp[US]
theorem z4P{x:Operand}{lo hi:Option Operand}{vlo vhi:Option Value}{t:TypeId}{s r:zD}{i j:Int}{d:Option Tmp}(hS:zY a n S)(hx:zK S x=some (vs s))(hu:P.underlying t=some .string)
  (hlo:uR S lo=some vlo) (hhi:uR S hi=some vhi) (bl:Bd vlo i 0) (bh:Bd vhi j s.length) (hm:sub s i j=some r) (w:World) :
  (execOp a.eval ⟨d,.slice t x lo hi none,ty,pos,af,g⟩).run P w=.ok (.value (vs r)) w:=by
 unfold sub at hm
 split at hm
 ·rename_i h0
  simp only[Qf] at hm
  obtain⟨h1,h2,h3⟩:=h0
  subst hm
  have hsz:(ByteArray.mk s.toArray).size=s.length:=by simp[ByteArray.size]
  have hb:=zJd (P:=P) (w:=w) (b:=false) (m:=s.length) (c:=s.length) bl bh h1 h2 h3
  simp[execOp,hS.eval hx,hS.evalO hlo,hS.evalO hhi,Instr.sliceAt,Instr.slice,run_underlying hu,hsz,hb,z4x]
 ·cases hm
end
end Go.GD
