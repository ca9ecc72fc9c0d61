/- A part. Conditions: none. -/
import Derived.Test.YtgdgcdmdogdmgaaGreatDoorArrl
import Derived.Test.YtgdgcdmdogdmgaaGreatDoorFsl
namespace Go.GD
open Go Go.RowKit
set_option autoImplicit false
variable {qd:Prop}
set_option linter.unusedVariables false
section
variable {P:Program}{n:Nat}{X:Hd qd}{ρ:Type}{Q:PQ ρ}{S:Sl}{Ls:List zG}{F:List PP}{m:Option ρ}{os:Array Oper}{ol:List Oper}{x y:Operand}{p p':yO}{a:Act}
variable {d t:Nat}{ty:TypeId}{pos:String}{af:Array Edge}{g:Option (Nat×Bool)}{kd:IntKind}{B Jj:List Nat}{li:Array Bool}{fuel:Nat}
variable {b o:Nat}{te:TypeId}{fr:Nat×Nat}
theorem z8j{pre post:List Value}{k:Nat}{l:List Int}(ho:pre.length=o): ((pre++(yE k l++post)).drop o).take k=yE k l:=by
 subst ho
 rw[List.drop_left,Uq (by rw[zDt];grind),Qs (by rw[zDt];grind)]
theorem z08{pre post:List Value}{k:Nat}{l:List Int}(ho:pre.length=o)(ht:wX P t=some (true,k)): zMl P t (pre++(yE k l++post)).toArray o=some (.agg (yE k l).toArray):=by
 unfold zMl
 rw[ht]
 have:Nat.ble (o+k) (pre++(yE k l++post)).toArray.size=true:=by
  rw[Wd,Q1,Qh,Qh,zDt];omega
 simp only[this,Qc,z54,tZ]
 rw[z8j ho]
theorem jlW (i k:Nat)(l:List Int)(pre post:List Value)(hx:zK S x=some (pt b o))(hr:Ls[i]?=some [(b,.cells (yF pre k l post).toArray te fr)])
  (h:J P n X Q (.ops os ol) ((d,.agg (yE k l).toArray)::S) Ls F m) (ho:pre.length=o:=by rfl) (ht:wX P t=some (true,k):=by kernel_rfl) (hd:Nat.blt d n=true:=by kernel_rfl) (hg:zQ os S g=some true:=by kernel_rfl):J P n X Q (.ops os (⟨some d,.load t x,ty,pos,af,g⟩::ol)) S Ls F m :=
 ⟨fun hq r hm' a w' hs=>sl (zMJ i (.agg (yE k l).toArray) hs hx hr (fun a h'=>h.go hq r hm' a w' h') (z08 ho ht) hd hg)⟩
theorem jdlW (i q k:Nat)(l:List Int)(pre post:List Value)(hi:os[i]?=some ⟨some d,.load t x,ty,pos,af,g⟩)(hx:zK S x=some (pt b o))(hr:Ls[q]?=some [(b,.cells (yF pre k l post).toArray te fr)])
  (h:J P n X Q (.dr os B Jj fuel (li.setIfInBounds i true)) ((d,.agg (yE k l).toArray)::S) Ls F m) (ho:pre.length=o:=by rfl)
  (ht:wX P t=some (true,k):=by kernel_rfl) (hb:B.all (fun j=>behind os i os.size j)=true:=by kernel_rfl) (hJ:Jj.contains q=true:=by kernel_rfl)
  (hk:vE os B li i=true:=by kernel_rfl) (hd:Nat.blt d n=true:=by kernel_rfl) (hg:zQ os S g=some true:=by kernel_rfl):J P n X Q (.dr os B Jj (fuel+1) li) S Ls F m :=
 ⟨fun hq r hm' a w' hs=>dlo i q (.agg (yE k l).toArray) hs hi hx hr (fun a' hs'=>h.go hq r hm' a' w' hs') (z08 ho ht) hb hJ (fun c v a w hp=>(hq r c _ _ hp).elim) hk hd hg⟩
theorem jsW (l2:List Int)(at0:At Ls p os ⟨none,.store t x y,ty,pos,af,g⟩ p')(i k:Nat)(l:List Int)(pre post:List Value)(hx:zK S x=some (pt b o))(hy:zK S y=some (.agg (yE k l2).toArray))(hr:Ls[i]?=some (bx b te (yF pre k l post)))
  (h:uE Ls i (bx b te (yF pre k l2 post)) fun Ls'=>J P n X Q p' S Ls' F m) (ho:pre.length=o:=by rfl) (ht:wX P t=some (true,k):=by kernel_rfl) (hg:zQ os S g=some true:=by kernel_rfl):J P n X Q p S Ls F m :=
 ⟨fun hq r hm' a w' hs=>at0.run fun K hK=>by
  have hput:tI (pre++(yE k l++post)).toArray o (Value.agg (yE k l2).toArray).cells.toList=(pre++(yE k l2++post)).toArray:=by
   subst ho
   have h1:(pre++(yE k l++post)).drop (pre.length+(yE k l2).length)=post:=by
    rw[zDt,U5,QZ (by omega),QM,Uu,U5,QZ (by rw[zDt];omega),zDt,Nat.sub_self,List.drop_zero,QM]
   simp only[tI,Value.cells]
   rw[U4,h1,QA]
  refine zSM i hs hx hy hr (fun a w2 h' e=>hK e ?_) ?_ hg
  ·rw[zH7] at h
   rw[hput] at h' ⊢
   exact h.go hq r hm' a w2 h'
  ·unfold zM1
   rw[ht]
   have hble:Nat.ble (o+k) (pre++(yE k l++post)).toArray.size=true:=by
    rw[Wd,Q1,Qh,Qh,zDt];omega
   have hsz:((Value.agg (yE k l2).toArray).cells.size==k)=true:=by simp[Value.cells,zDt]
   have hone:(Value.agg (yE k l2).toArray).cells.toList.all (fun x=>x.oneCell')=true:=by
    simp only[Value.cells,QE]
    intro v hv
    simp only[yE,Qj] at hv
    obtain⟨j,_,rfl⟩:=hv
    rfl
   grind⟩
theorem z2z{k:Nat}{l u:List Int}{j:Int}(h:z8o k l j=some u): 0≤j∧j≤k∧u=(List.range j.toNat).map fun i=>l.getD i 0:=by grind [z8o]
theorem r_asl{k:Nat}{j:Int}{dd:Option Tmp}(hS:zY a n S)(hx:zK S x=some (pt b o))(hy:zK S y=some (.int kd j))(ht:zNU P t=some (k,1))(h0:0≤j)(hk:j≤k)(w:World):
  (execOp a.eval ⟨dd,.slice t x none (some y) none,ty,pos,af,g⟩).run P w=.ok (.value (.slice (some ⟨b,o,none⟩) j.toNat k)) w:=by
 unfold zNU at ht
 split at ht
 ·rename_i k' el hu
  cases hq:P.info? el with
  | none=>grind
  | some info =>
   have hh:k'=k∧info.size=1:=by simpa [hq] using ht
   obtain⟨rfl,hs⟩:=hh
   have hb:(Instr.sliceBounds false k' k' none (some (.int kd j)) none).run P w=.ok (0,j.toNat,k') w:=by
    simp[Instr.sliceBounds,Instr.sliceBound,asIntOf,h0,hk]
   simp[execOp,hS.eval hx,hS.eval hy,Instr.sliceAt,Instr.sureAddr,run_underlying hu,hb,sizeOf,typeInfo,hq,hs,zCj]
 ·cases ht
theorem z3q{k:Nat}{l u:List Int}{j:Int}(h:z8o k l j=some u): u.length=j.toNat:=by
 obtain⟨_,_,rfl⟩:=z2z h;simp
theorem jdasl{k:Nat}{j:Int}{f:List Int->Option ρ}(i:Nat)(l:List Int)(hi:os[i]?=some ⟨some d,.slice t x none (some y) none,ty,pos,af,g⟩)(hx:zK S x=some (pt b o))(hy:zK S y=some (.int kd j))
  (h:∀ u,z8o k l j=some u->J P n X Q (.dr os B Jj fuel (li.setIfInBounds i true)) ((d,sv (some ⟨b,o,none⟩) u k)::S) Ls F (f u)) (ht:zNU P t=some (k,1):=by kernel_rfl) (hk:vE os B li i=true:=by kernel_rfl) (hd:Nat.blt d n=true:=by kernel_rfl) (hg:zQ os S g=some true:=by kernel_rfl) :
  J P n X Q (.dr os B Jj (fuel+1) li) S Ls F ((z8o k l j).bind f) :=
 ⟨fun hq r hm a w hs=>by
  obtain⟨u,h1,h2⟩:=xQ hm
  obtain⟨h3,h4,_⟩:=z2z h1
  refine dv (v:=sv (some ⟨b,o,none⟩) u k) i hs hi (fun w'=>?_) (fun a' hs'=>(h u h1).go hq r h2 a' w hs') (fun c v a w hp=>(hq r c _ _ hp).elim) hk hd hg
  rw[sv,z3q h1]
  exact r_asl hs.s hx hy ht h3 h4 w'⟩
theorem z19{Z:List Nat}{w:World}: ∀(u:List Int),(zH .i64).rdL Z w (u.map vi) u
 | []=>rfl
 | x::u=>⟨[vi x],u.map vi,rfl,rfl,z19 u⟩
theorem cA{js ls:List Nat}{u:List Int}{j:Int}(i k:Nat)(l:List Int)(pre post:List Value)(hu:z8o k l j=some u)(hr:Ls[i]?=some [(b,.cells (yF pre k l post).toArray te fr)])(ho:pre.length=o:=by rfl)
  (hk:z2Q (js++ls) Ls.length=true:=by kernel_rfl) (hi:ls.contains i=true:=by kernel_rfl):OKc Ls F js ls (Rl (zH .i64) (some ⟨b,o,none⟩) k u):=fun A w hO hA=>by
 obtain⟨hn,_⟩:=zNy hk
 have hi':i∈ls:=by simpa using hi
 have hij:i∉js:=fun hj=>(QK.1 hn).2.2 i hj i hi' rfl
 obtain⟨h0,h1,he⟩:=z2z hu
 have hb:=hO.has _ (QR hr) _ (Qa.2 rfl)
 have hul:=z3q hu
 refine⟨⟨by grind,.inr ⟨b,o,u.map vi,rfl,fun hm=>?_,(Qt.1 hb).1,z19 u,fun q v hv=>?_⟩⟩,rfl⟩
 ·rcases Qd.1 hm with hm | hm
  ·obtain⟨s,hs,q,hq,he⟩:=zKc.1 hm
   obtain⟨k,hk,hlk⟩:=zQt hs hq
   exact zF5 hO.nodup hr hlk (fun e=>hij (e▸hk)) _ (Qa.2 rfl) q hq he.symm
  ·rcases Qd.1 hm with hm | hm
   ·obtain⟨k,s,hk,hs,q,hq,he⟩:=zQW hm
    exact zF5 hO.nodup hr hs (fun e=>hk (Qd.2 (.inr (e▸hi')))) _ (Qa.2 rfl) q hq he.symm
   ·exact hO.apart b (zCk hr (Qa.2 rfl)) hm
 ·rw[Q2] at hv
  obtain⟨z,hz,rfl⟩:=Uo.1 hv
  have hqu:q<j.toNat:=by rw[←hul];exact(Qg.1 hz).1
  obtain⟨hlt,hc⟩:=z3T (pre:=pre) (post:=post) (l:=l) (k:=k) (j:=q) ho (by omega)
  rw[UN] at hc
  have hz':z=l.getD q 0:=by
   rw[he,Q2,List.getElem?_range hqu] at hz
   exact(QC hz).symm
  simp only[World.cell?,hb]
  grind
theorem zUz{k j:Nat}{l:List Int}(hsh:wX P te=some (false,1))(hj:j<k)(w:World): (part te (yE k l).toArray (j*1)).run P w=.ok (vi (l.getD j 0)) w :=
 z7L hsh (by rw[UN,List.getElem?_toArray];exact zWF l hj) w
theorem zQJ{k:Nat}{l l2:List Int}(D:Nat)(he:P.underlying te=some (.int .i64))(hc:P.cellsOf te=1)(hsh:wX P te=some (false,1))(w:World): ∀(js:List Nat),(∀ j∈js,j<k)->
  (Op.eqItems (D+1) te (P.cellsOf te) (yE k l).toArray (yE k l2).toArray js).run P w=.ok (js.all fun j=>l.getD j 0==l2.getD j 0) w
 | [],_=>by simp[Op.eqItems]
 | j::js,hj=>by
  have ih:=zQJ (l:=l) (l2:=l2) D he hc hsh w js (fun i hi=>hj i (Qi _ hi))
  have hjk:=hj j (Qm ..)
  unfold Op.eqItems
  rw[hc] at ih ⊢
  simp only[Sem.run_bind,Sem.run_ite]
  rw[zUz hsh hjk,Result.andThen_ok,zUz hsh hjk,Result.andThen_ok,run_equalIn_int w D te .i64 .i64 _ _ he,Result.andThen_ok,ih,UY]
  cases h1:(l.getD j 0==l2.getD j 0) with
  | false=>simp
  | true=>simp
theorem r_eqArr{k:Nat}{l l2:List Int}{u:TypeId}{dd:Option Tmp}(hS:zY a n S)(hx:zK S x=some (.agg (yE k l).toArray))(hy:zK S y=some (.agg (yE k l2).toArray))(hu:P.underlying t=some (.array k te))(he:P.underlying te=some (.int .i64))(hi:(P.info? te).isSome=true)(hc:P.cellsOf te=1)
  (hsh:wX P te=some (false,1)) (hg:P.eqGuardType P.depth t=false) (w:World) :
  (execOp a.eval ⟨dd,.binOp .eql t x y u,ty,pos,af,g⟩).run P w=.ok (.value (vb (aeq k l l2))) w:=by
 obtain⟨i,hi⟩:=Option.isSome_iff_exists.1 hi
 have hrun:(Op.equalIn 10000 t (.agg (yE k l).toArray) (.agg (yE k l2).toArray)).run P w=.ok (aeq k l l2) w:=by
  rw[show(10000:Nat)=9998+1+1 from rfl,run_equalIn_array w 9999 _ _ hu hi]
  exact zQJ 9998 he hc hsh w (List.range k) (fun j hj=>Ug.1 hj)
 simp[execOp,hS.eval hx,hS.eval hy,run_eqGuard_agg,hg,run_eql_struct,hrun]
end
end Go.GD
