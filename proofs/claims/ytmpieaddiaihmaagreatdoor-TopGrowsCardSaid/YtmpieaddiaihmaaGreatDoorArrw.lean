/- A part. Conditions: none. -/
import Derived.Test.YtmpieaddiaihmaaGreatDoorArrl
import Derived.Test.YtmpieaddiaihmaaGreatDoorFsl
namespace Go.GD
open Go Go.RowKit
set_option autoImplicit false
variable {qd:Prop}
set_option linter.unusedVariables false
section
variable {P:Program}{n:Nat}{X:Hd qd}{ρ:Type}{Q:PQ ρ}{S:Sl}{Ls:List zJ}{F:List PP}{m:Option ρ}{os:Array Oper}{ol:List Oper}{x y:Operand}{p p':uH}{a:Act}
variable {d t:Nat}{ty:TypeId}{pos:String}{af:Array Edge}{g:Option (Nat×Bool)}{kd:IntKind}{B Jj:List Nat}{li:Array Bool}{fuel:Nat}
variable {b o:Nat}{te:TypeId}{fr:Nat×Nat}
theorem z9S{pre post:List Value}{k:Nat}{l:List Int}(ho:pre.length=o): ((pre++(yK k l++post)).drop o).take k=yK k l:=by
 subst ho
 rw[List.drop_left,QR (by rw[zDh];grind),Qk (by rw[zDh];grind)]
theorem z2s{pre post:List Value}{k:Nat}{l:List Int}(ho:pre.length=o)(ht:vC P t=some (true,k)): xP P t (pre++(yK k l++post)).toArray o=some (.agg (yK k l).toArray):=by
 unfold xP
 rw[ht]
 have:Nat.ble (o+k) (pre++(yK k l++post)).toArray.size=true:=by
  rw[UL,QS,Qh,Qh,zDh];omega
 simp only[this,Qe,z1K,xW]
 rw[z9S ho]
theorem jlW (i k:Nat)(l:List Int)(pre post:List Value)(hx:zL S x=some (pt b o))(hr:Ls[i]?=some [(b,.cells (yL pre k l post).toArray te fr)])
  (h:J P n X Q (.ops os ol) ((d,.agg (yK k l).toArray)::S) Ls F m) (ho:pre.length=o:=by rfl) (ht:vC P t=some (true,k):=by kernel_rfl) (hd:Nat.blt d n=true:=by kernel_rfl) (hg:zR os S g=some true:=by kernel_rfl):J P n X Q (.ops os (⟨some d,.load t x,ty,pos,af,g⟩::ol)) S Ls F m :=
 ⟨fun hq r hm' a w' hs=>sl (zLH i (.agg (yK k l).toArray) hs hx hr (fun a h'=>h.go hq r hm' a w' h') (z2s ho ht) hd hg)⟩
theorem jdlW (i q k:Nat)(l:List Int)(pre post:List Value)(hi:os[i]?=some ⟨some d,.load t x,ty,pos,af,g⟩)(hx:zL S x=some (pt b o))(hr:Ls[q]?=some [(b,.cells (yL pre k l post).toArray te fr)])
  (h:J P n X Q (.dr os B Jj fuel (li.setIfInBounds i true)) ((d,.agg (yK k l).toArray)::S) Ls F m) (ho:pre.length=o:=by rfl)
  (ht:vC P t=some (true,k):=by kernel_rfl) (hb:B.all (fun j=>behind os i os.size j)=true:=by kernel_rfl) (hJ:Jj.contains q=true:=by kernel_rfl)
  (hk:vF os B li i=true:=by kernel_rfl) (hd:Nat.blt d n=true:=by kernel_rfl) (hg:zR os S g=some true:=by kernel_rfl):J P n X Q (.dr os B Jj (fuel+1) li) S Ls F m :=
 ⟨fun hq r hm' a w' hs=>dlo i q (.agg (yK k l).toArray) hs hi hx hr (fun a' hs'=>h.go hq r hm' a' w' hs') (z2s ho ht) hb hJ (fun c v a w hp=>(hq r c _ _ hp).elim) hk hd hg⟩
theorem jsW (l2:List Int)(at0:At Ls p os ⟨none,.store t x y,ty,pos,af,g⟩ p')(i k:Nat)(l:List Int)(pre post:List Value)(hx:zL S x=some (pt b o))(hy:zL S y=some (.agg (yK k l2).toArray))(hr:Ls[i]?=some (bx b te (yL pre k l post)))
  (h:uT Ls i (bx b te (yL pre k l2 post)) fun Ls'=>J P n X Q p' S Ls' F m) (ho:pre.length=o:=by rfl) (ht:vC P t=some (true,k):=by kernel_rfl) (hg:zR os S g=some true:=by kernel_rfl):J P n X Q p S Ls F m :=
 ⟨fun hq r hm' a w' hs=>at0.run fun K hK=>by
  have hput:xR (pre++(yK k l++post)).toArray o (Value.agg (yK k l2).toArray).cells.toList=(pre++(yK k l2++post)).toArray:=by
   subst ho
   have h1:(pre++(yK k l++post)).drop (pre.length+(yK k l2).length)=post:=by
    rw[zDh,UI,QQ (by omega),QI,Ui,UI,QQ (by rw[zDh];omega),zDh,Nat.sub_self,List.drop_zero,QI]
   simp only[xR,Value.cells]
   rw[U9,h1,QE]
  refine zP8 i hs hx hy hr (fun a w2 h' e=>hK e ?_) ?_ hg
  ·rw[zJL] at h
   rw[hput] at h' ⊢
   exact h.go hq r hm' a w2 h'
  ·unfold zMT
   rw[ht]
   have hble:Nat.ble (o+k) (pre++(yK k l++post)).toArray.size=true:=by
    rw[UL,QS,Qh,Qh,zDh];omega
   have hsz:((Value.agg (yK k l2).toArray).cells.size==k)=true:=by simp[Value.cells,zDh]
   have hone:(Value.agg (yK k l2).toArray).cells.toList.all (fun x=>x.oneCell')=true:=by
    simp only[Value.cells,Uf]
    intro v hv
    simp only[yK,Qm] at hv
    obtain⟨j,_,rfl⟩:=hv
    rfl
   grind⟩
theorem z3s{k:Nat}{l u:List Int}{j:Int}(h:asub k l j=some u): 0≤j∧j≤k∧u=(List.range j.toNat).map fun i=>l.getD i 0:=by grind [asub]
theorem r_asl{k:Nat}{j:Int}{dd:Option Tmp}(hS:qF a n S)(hx:zL S x=some (pt b o))(hy:zL S y=some (.int kd j))(ht:zNU P t=some (k,1))(h0:0≤j)(hk:j≤k)(w:World):
  (execOp a.eval ⟨dd,.slice t x none (some y) none,ty,pos,af,g⟩).run P w=.ok (.value (.slice (some ⟨b,o,none⟩) j.toNat k)) w:=by
 unfold zNU at ht
 split at ht
 ·rename_i k' el hu
  cases hq:P.info? el with
  | none=>grind
  | some info =>
   have hh:k'=k∧info.size=1:=by simpa [hq] using ht
   obtain⟨rfl,hs⟩:=hh
   have hb:(Instr.sliceBounds false k' k' none (some (.int kd j)) none).run P w=.ok (0,j.toNat,k') w:=by
    simp[Instr.sliceBounds,Instr.sliceBound,asIntOf,h0,hk]
   simp[execOp,hS.eval hx,hS.eval hy,Instr.sliceAt,Instr.sureAddr,run_underlying hu,hb,sizeOf,typeInfo,hq,hs,tV]
 ·cases ht
theorem z4X{k:Nat}{l u:List Int}{j:Int}(h:asub k l j=some u): u.length=j.toNat:=by
 obtain⟨_,_,rfl⟩:=z3s h;simp
theorem jdasl{k:Nat}{j:Int}{f:List Int->Option ρ}(i:Nat)(l:List Int)(hi:os[i]?=some ⟨some d,.slice t x none (some y) none,ty,pos,af,g⟩)(hx:zL S x=some (pt b o))(hy:zL S y=some (.int kd j))
  (h:∀ u,asub k l j=some u->J P n X Q (.dr os B Jj fuel (li.setIfInBounds i true)) ((d,sv (some ⟨b,o,none⟩) u k)::S) Ls F (f u)) (ht:zNU P t=some (k,1):=by kernel_rfl) (hk:vF os B li i=true:=by kernel_rfl) (hd:Nat.blt d n=true:=by kernel_rfl) (hg:zR os S g=some true:=by kernel_rfl) :
  J P n X Q (.dr os B Jj (fuel+1) li) S Ls F ((asub k l j).bind f) :=
 ⟨fun hq r hm a w hs=>by
  obtain⟨u,h1,h2⟩:=uS hm
  obtain⟨h3,h4,_⟩:=z3s h1
  refine dv (v:=sv (some ⟨b,o,none⟩) u k) i hs hi (fun w'=>?_) (fun a' hs'=>(h u h1).go hq r h2 a' w hs') (fun c v a w hp=>(hq r c _ _ hp).elim) hk hd hg
  rw[sv,z4X h1]
  exact r_asl hs.s hx hy ht h3 h4 w'⟩
theorem z2m{Z:List Nat}{w:World}: ∀(u:List Int),(zC .i64).rdL Z w (u.map vi) u
 | []=>rfl
 | x::u=>⟨[vi x],u.map vi,rfl,rfl,z2m u⟩
theorem cA{js ls:List Nat}{u:List Int}{j:Int}(i k:Nat)(l:List Int)(pre post:List Value)(hu:asub k l j=some u)(hr:Ls[i]?=some [(b,.cells (yL pre k l post).toArray te fr)])(ho:pre.length=o:=by rfl)
  (hk:z4B (js++ls) Ls.length=true:=by kernel_rfl) (hi:ls.contains i=true:=by kernel_rfl):OKc Ls F js ls (Rl (zC .i64) (some ⟨b,o,none⟩) k u):=fun A w hO hA=>by
 obtain⟨hn,_⟩:=zOh hk
 have hi':i∈ls:=by simpa using hi
 have hij:i∉js:=fun hj=>(QT.1 hn).2.2 i hj i hi' rfl
 obtain⟨h0,h1,he⟩:=z3s hu
 have hb:=hO.has _ (Ux hr) _ (Qa.2 rfl)
 have hul:=z4X hu
 refine⟨⟨by grind,.inr ⟨b,o,u.map vi,rfl,fun hm=>?_,(Qq.1 hb).1,z2m u,fun q v hv=>?_⟩⟩,rfl⟩
 ·rcases Qb.1 hm with hm | hm
  ·obtain⟨s,hs,q,hq,he⟩:=zM1.1 hm
   obtain⟨k,hk,hlk⟩:=zR8 hs hq
   exact zEV hO.nodup hr hlk (fun e=>hij (e▸hk)) _ (Qa.2 rfl) q hq he.symm
  ·rcases Qb.1 hm with hm | hm
   ·obtain⟨k,s,hk,hs,q,hq,he⟩:=zRN hm
    exact zEV hO.nodup hr hs (fun e=>hk (Qb.2 (.inr (e▸hi')))) _ (Qa.2 rfl) q hq he.symm
   ·exact hO.apart b (zCS hr (Qa.2 rfl)) hm
 ·rw[Uz] at hv
  obtain⟨z,hz,rfl⟩:=UE.1 hv
  have hqu:q<j.toNat:=by rw[←hul];exact(Qf.1 hz).1
  obtain⟨hlt,hc⟩:=z3F (pre:=pre) (post:=post) (l:=l) (k:=k) (j:=q) ho (by omega)
  rw[UG] at hc
  have hz':z=l.getD q 0:=by
   rw[he,Uz,List.getElem?_range hqu] at hz
   exact(QH hz).symm
  simp only[World.cell?,hb]
  grind
theorem zVw{k j:Nat}{l:List Int}(hsh:vC P te=some (false,1))(hj:j<k)(w:World): (part te (yK k l).toArray (j*1)).run P w=.ok (vi (l.getD j 0)) w :=
 z6j hsh (by rw[UG,List.getElem?_toArray];exact zXE l hj) w
theorem zQ8{k:Nat}{l l2:List Int}(D:Nat)(he:P.underlying te=some (.int .i64))(hc:P.cellsOf te=1)(hsh:vC P te=some (false,1))(w:World): ∀(js:List Nat),(∀ j∈js,j<k)->
  (Op.eqItems (D+1) te (P.cellsOf te) (yK k l).toArray (yK k l2).toArray js).run P w=.ok (js.all fun j=>l.getD j 0==l2.getD j 0) w
 | [],_=>by simp[Op.eqItems]
 | j::js,hj=>by
  have ih:=zQ8 (l:=l) (l2:=l2) D he hc hsh w js (fun i hi=>hj i (Ql _ hi))
  have hjk:=hj j (Qx ..)
  unfold Op.eqItems
  rw[hc] at ih ⊢
  simp only[Sem.run_bind,Sem.run_ite]
  rw[zVw hsh hjk,Result.andThen_ok,zVw hsh hjk,Result.andThen_ok,run_equalIn_int w D te .i64 .i64 _ _ he,Result.andThen_ok,ih,Wf]
  cases h1:(l.getD j 0==l2.getD j 0) with
  | false=>simp
  | true=>simp
theorem r_eqArr{k:Nat}{l l2:List Int}{u:TypeId}{dd:Option Tmp}(hS:qF a n S)(hx:zL S x=some (.agg (yK k l).toArray))(hy:zL S y=some (.agg (yK k l2).toArray))(hu:P.underlying t=some (.array k te))(he:P.underlying te=some (.int .i64))(hi:(P.info? te).isSome=true)(hc:P.cellsOf te=1)
  (hsh:vC P te=some (false,1)) (hg:P.eqGuardType P.depth t=false) (w:World) :
  (execOp a.eval ⟨dd,.binOp .eql t x y u,ty,pos,af,g⟩).run P w=.ok (.value (vb (aeq k l l2))) w:=by
 obtain⟨i,hi⟩:=Option.isSome_iff_exists.1 hi
 have hrun:(Op.equalIn 10000 t (.agg (yK k l).toArray) (.agg (yK k l2).toArray)).run P w=.ok (aeq k l l2) w:=by
  rw[show(10000:Nat)=9998+1+1 from rfl,run_equalIn_array w 9999 _ _ hu hi]
  exact zQ8 9998 he hc hsh w (List.range k) (fun j hj=>U1.1 hj)
 simp[execOp,hS.eval hx,hS.eval hy,run_eqGuard_agg,hg,run_eql_struct,hrun]
end
end Go.GD
