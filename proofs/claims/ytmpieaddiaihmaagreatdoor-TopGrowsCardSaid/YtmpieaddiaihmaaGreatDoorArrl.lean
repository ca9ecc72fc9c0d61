/- A part. Conditions: none. -/
import Derived.Test.YtmpieaddiaihmaaGreatDoorArrv
namespace Go.GD
open Go Go.RowKit
set_option autoImplicit false
variable {qd:Prop}
set_option linter.unusedVariables false
def yK (k:Nat)(l:List Int): List Value:=(List.range k).map fun j=>vi (l.getD j 0)
abbrev yL (pre:List Value)(k:Nat)(l:List Int)(post:List Value): List Value:=pre++(yK k l++post)
theorem zDh (k:Nat)(l:List Int): (yK k l).length=k:=by simp[yK]
theorem zXE{k j:Nat}(l:List Int)(h:j<k): (yK k l)[j]?=some (vi (l.getD j 0)):=by
 simp[yK,h]
theorem z9k (k:Nat)(l:List Int)(i v:Int): yK k (tG k l i v)=(yK k l).set i.toNat (vi v):=by
 apply QN
 intro j
 by_cases hj:j<k
 ·rw[zXE _ hj,List.getElem?_set]
  by_cases e:i.toNat=j
  ·grind [zDh,tG]
  ·rw[Qo e,zXE _ hj]
   have:¬ j=i.toNat:=fun h=>e h.symm
   simp[tG,hj,this]
 grind [zDh]
section
variable {P:Program}{n:Nat}{X:Hd qd}{ρ:Type}{Q:PQ ρ}{S:Sl}{Ls:List zJ}{F:List PP}{m:Option ρ}{os:Array Oper}{ol:List Oper}{x y:Operand}{p p':uH}{a:Act}
variable {d t:Nat}{ty:TypeId}{pos:String}{af:Array Edge}{g:Option (Nat×Bool)}{kd:IntKind}{B Jj:List Nat}{li:Array Bool}{fuel:Nat}
variable {b o:Nat}{te:TypeId}{fr:Nat×Nat}{ix K:Int}
theorem chk_bd{k:Nat}{u:Unit}(hK:K=((k:Nat):Int))(h:vJ (decide (0≤ix)&&decide (ix<K))=some u): 0≤ix∧ix<(k:Int):=by
 unfold vJ at h
 grind
theorem jiL{f:Unit->Option ρ}(k:Nat)(hx:zL S x=some (pt b o))(hy:zL S y=some (.int kd ix))
  (h:∀ u,(0≤ix∧ix.toNat<k)->J P n X Q (.ops os ol) ((d,pt b (o+ix.toNat*1))::S) Ls F (f u))
  (ht:zNU P t=some (k,1):=by kernel_rfl) (hK:K=((k:Nat):Int):=by rfl) (hd:Nat.blt d n=true:=by kernel_rfl) (hg:zR os S g=some true:=by kernel_rfl) :
  J P n X Q (.ops os (⟨some d,.indexAddr t x y,ty,pos,af,g⟩::ol)) S Ls F ((vJ (decide (0≤ix)&&decide (ix<K))).bind f) :=
 ⟨fun hq r hm a w hs=>by
  obtain⟨u,h1,h2⟩:=uS hm
  have hb:=chk_bd hK h1
  exact sl (z62 hs (v:=pt b (o+ix.toNat*1)) (fun w'=>zS4 hs.s hx hy ht hb rfl w') (fun a h'=>(h u ⟨hb.1,by omega⟩).go hq r h2 a w h') hd hg)⟩
theorem jdiL{f:Unit->Option ρ}(k i:Nat)(hi:os[i]?=some ⟨some d,.indexAddr t x y,ty,pos,af,g⟩)(hx:zL S x=some (pt b o))(hy:zL S y=some (.int kd ix))
  (h:∀ u,(0≤ix∧ix.toNat<k)->J P n X Q (.dr os B Jj fuel (li.setIfInBounds i true)) ((d,pt b (o+ix.toNat*1))::S) Ls F (f u))
  (ht:zNU P t=some (k,1):=by kernel_rfl) (hK:K=((k:Nat):Int):=by rfl) (hk:vF os B li i=true:=by kernel_rfl) (hd:Nat.blt d n=true:=by kernel_rfl) (hg:zR os S g=some true:=by kernel_rfl) :
  J P n X Q (.dr os B Jj (fuel+1) li) S Ls F ((vJ (decide (0≤ix)&&decide (ix<K))).bind f) :=
 ⟨fun hq r hm a w hs=>by
  obtain⟨u,h1,h2⟩:=uS hm
  have hb:=chk_bd hK h1
  exact dv (v:=pt b (o+ix.toNat*1)) i hs hi (fun w'=>zS4 hs.s hx hy ht hb rfl w') (fun a' hs'=>(h u ⟨hb.1,by omega⟩).go hq r h2 a' w hs') (fun c v a w hp=>(hq r c _ _ hp).elim) hk hd hg⟩
theorem z3F{pre post:List Value}{k j:Nat}{l:List Int}(ho:pre.length=o)(hj:j<k): o+j*1<(pre++(yK k l++post)).length∧(pre++(yK k l++post))[o+j*1]?=some (vi (l.getD j 0)):=by
 have h1:(pre++(yK k l++post))[o+j*1]?=some (vi (l.getD j 0)):=by
  rw[UK (by omega),Ut (by rw[zDh];omega),show o+j*1-pre.length=j by omega,zXE l hj]
 grind
theorem z2n{pre post:List Value}{k j:Nat}{l:List Int}(ho:pre.length=o)(hj:j<k)(ht:vC P t=some (false,1)): xP P t (pre++(yK k l++post)).toArray (o+j*1)=some (vi (l.getD j 0)):=by
 obtain⟨hlt,he⟩:=z3F (post:=post) (l:=l) ho hj
 unfold xP
 rw[ht]
 have:Nat.ble (o+j*1+1) (pre++(yK k l++post)).toArray.size=true:=by rw[UL,QS];exact hlt
 simp only[this,Qe,z1K]
 rw[Qn hlt,(Qf.1 he).2]
 rfl
theorem jlL (i k:Nat)(l:List Int)(pre post:List Value)(hm:0≤ix∧ix.toNat<k)(hx:zL S x=some (pt b (o+ix.toNat*1)))(hr:Ls[i]?=some [(b,.cells (yL pre k l post).toArray te fr)])
  (h:J P n X Q (.ops os ol) ((d,vi (uB l ix))::S) Ls F m) (ho:pre.length=o:=by rfl) (ht:vC P t=some (false,1):=by kernel_rfl) (hd:Nat.blt d n=true:=by kernel_rfl) (hg:zR os S g=some true:=by kernel_rfl):J P n X Q (.ops os (⟨some d,.load t x,ty,pos,af,g⟩::ol)) S Ls F m :=
 ⟨fun hq r hm' a w' hs=>sl (zLH i (vi (uB l ix)) hs hx hr (fun a h'=>h.go hq r hm' a w' h') (z2n ho hm.2 ht) hd hg)⟩
theorem jdlL (i q k:Nat)(l:List Int)(pre post:List Value)(hm:0≤ix∧ix.toNat<k)(hi:os[i]?=some ⟨some d,.load t x,ty,pos,af,g⟩)(hx:zL S x=some (pt b (o+ix.toNat*1)))(hr:Ls[q]?=some [(b,.cells (yL pre k l post).toArray te fr)])
  (h:J P n X Q (.dr os B Jj fuel (li.setIfInBounds i true)) ((d,vi (uB l ix))::S) Ls F m) (ho:pre.length=o:=by rfl)
  (ht:vC P t=some (false,1):=by kernel_rfl) (hb:B.all (fun j=>behind os i os.size j)=true:=by kernel_rfl) (hJ:Jj.contains q=true:=by kernel_rfl)
  (hk:vF os B li i=true:=by kernel_rfl) (hd:Nat.blt d n=true:=by kernel_rfl) (hg:zR os S g=some true:=by kernel_rfl):J P n X Q (.dr os B Jj (fuel+1) li) S Ls F m :=
 ⟨fun hq r hm' a w' hs=>dlo i q (vi (uB l ix)) hs hi hx hr (fun a' hs'=>h.go hq r hm' a' w' hs') (z2n ho hm.2 ht) hb hJ (fun c v a w hp=>(hq r c _ _ hp).elim) hk hd hg⟩
theorem jsL (z:Int)(at0:At Ls p os ⟨none,.store t x y,ty,pos,af,g⟩ p')(i k:Nat)(l:List Int)(pre post:List Value)(hm:0≤ix∧ix.toNat<k)(hx:zL S x=some (pt b (o+ix.toNat*1)))(hy:zL S y=some (vi z))(hr:Ls[i]?=some (bx b te (yL pre k l post)))
  (h:uT Ls i (bx b te (yL pre k (tG k l ix z) post)) fun Ls'=>J P n X Q p' S Ls' F m) (ho:pre.length=o:=by rfl) (ht:vC P t=some (false,1):=by kernel_rfl) (hg:zR os S g=some true:=by kernel_rfl):J P n X Q p S Ls F m :=
 ⟨fun hq r hm' a w hs=>at0.run fun K hK=>by
  obtain⟨hlt,he⟩:=z3F (post:=post) (l:=l) ho hm.2
  have hput:xR (pre++(yK k l++post)).toArray (o+ix.toNat*1) (vi z).cells.toList=(pre++(yK k (tG k l ix z)++post)).toArray:=by
   have h1:(pre++(yK k l++post)).set (o+ix.toNat*1) (vi z)=pre++(yK k (tG k l ix z)++post):=by
    rw[Wn _ _ (by omega),List.set_append_left _ _ (by rw[zDh];omega),show o+ix.toNat*1-pre.length=ix.toNat by omega,z9k]
   rw[←h1,List.set_eq_take_append_cons_drop,Qp hlt]
   simp[xR,Value.cells]
  refine zP8 i hs hx hy hr (fun a w2 h' e=>hK e ?_) ?_ hg
  ·rw[zJL] at h
   rw[hput] at h' ⊢
   exact h.go hq r hm' a w2 h'
  ·unfold zMT
   rw[ht]
   have hble:Nat.ble (o+ix.toNat*1+1) (pre++(yK k l++post)).toArray.size=true:=by rw[UL,QS];exact hlt
   simp only[hble]
   rfl⟩
theorem jalA (at0:At Ls p os ⟨some d,.alloc t,ty,pos,af,g⟩ p')(c:List Value)(h:∀ b,tZ Ls (bx b t c) fun Ls'=>J P n X Q p' ((d,pt b 0)::S) Ls' F m)
  (hx:tL P t=some (.agg c.toArray):=by kernel_rfl) (hd:Nat.blt d n=true:=by kernel_rfl) (hg:zR os S g=some true:=by kernel_rfl):J P n X Q p S Ls F m :=
 ⟨fun hq r hm a w hs=>at0.run fun K hK=>z6Y hs hx (fun b a w' h' e=>hK e (by
  have h:=h b
  rw[zKb] at h
  exact h.go hq r hm a w' h')) hd hg⟩
end
end Go.GD
