/- A part. Conditions: none. -/
import Derived.Test.YtcoildnkgkbjfaaGreatDoorJ4
namespace Go.GD
open Go Go.RowKit
set_option autoImplicit false
variable {qd:Prop}
theorem ba_eqv (x y:zA): ((⟨x.toArray⟩:ByteArray)==⟨y.toArray⟩)=(x==y):=by
 show(x.toArray==y.toArray)=(x==y)
 simp
theorem zPZ.string{P:Program}{t kt vt:TypeId}(hu:P.underlying t=some (.map kt vt))(hk:P.underlying kt=some .string): zPZ P t kt vt (fun x:zA=>vs x) :=
 ⟨hu,fun b x w=>by
   rw[show(10000:Nat)=9999+1 from rfl]
   unfold Instr.checkKey
   simp only[Sem.run_bind,run_underlying hk,Result.andThen_ok]
   rfl,
  fun x y w=>by
   show(Op.equalIn 10000 kt (vs x) (vs y)).run P w=_
   rw[show(10000:Nat)=9999+1 from rfl,run_equalIn_string w 9999 kt _ _ hk,zOK,zOK],⟨_,hk,fun x y=>.inr (by rw[←ba_eqv];rfl)⟩,fun x=>by simp[Instr.sameBits,ba_beq]⟩
section
variable {P:Program}{n:Nat}{X:Hd qd}{ρ:Type}{Q:PQ ρ}{S:Sl}{Ls:List zH}{F:List PP}{m:Option ρ}{os:Array Oper}{ol:List Oper}{x y x3:Operand}{p p':yY}{d t kt vt:Nat}{ty:TypeId}{pos:String}{af:Array Edge}{g:Option (Nat×Bool)}
variable {r:zH}{b:Nat}{z:List (zA×Value)}{k:zA}{v:Value}
theorem jmI (at0:At Ls p os ⟨none,.insert t x y x3,ty,pos,af,g⟩ p')(i q:Nat)(H:zPZ P t kt vt vs)(hF:uL F q=Ma vs (fun v:Value=>v) r b z)(hx:zP S x=some (.map (some b)))(hy:zP S y=some (vs k))(hz:zP S x3=some v)
  (h:∀ r',zRP Ls i r' fun Ls'=>J P n X Q p' S Ls' (Ma vs (fun v:Value=>v) r' b (z4A z k v)::F) m) (hr:Ls[i]?=some r:=by rfl) (hg:qC os S g=some true:=by kernel_rfl):J P n X Q p S Ls F m :=
 ⟨fun hq r0 hm a w hs=>at0.run fun K hK=>by
  have h1:vC P os (Q r0) ⟨none,.mapUpdate t x y x3,ty,pos,af,g⟩ K a w:=zYH i hs H (hF▸hs.g q) hx hy hz hr (fun r' a w' h' e=>hK e (by
   have h:=h r'
   rw[zHB] at h
   exact h.go hq r0 hm a w' h')) hg
  exact h1⟩
def lkv:Option Value->Value
 | none=>.tuple #[.nilFunc,vb false]
 | some v=>.tuple #[v,vb true]
def MGm (z:List (zA×Value))(k:zA)(H:Option Value->Option ρ->Prop)(m:Option ρ): Prop:=H (tL z k) m
theorem mg0{H:Option Value->Option ρ->Prop}(h:H none m): MGm [] k H m:=h
theorem mgi{x:zA}{z:List (zA×Value)}{H:Option Value->Option ρ->Prop}{m1 m2:Option ρ}(h1:(k==x)=true->H (some v) m1)(h2:(k==x)=false->MGm z k H m2): MGm ((x,v)::z) k H (if(k==x)=true then m1 else m2):=by
 unfold MGm
 cases hb:k==x with
 | true =>
  have e:tL ((x,v)::z) k=some v:=by simp[tL,hb]
  grind
 | false =>
  have e:tL ((x,v)::z) k=tL z k:=by simp[tL,hb]
  rw[e]
  exact h2 hb
theorem jmL{z2:List (zA×Value)}(i q:Nat)(H:zPZ P t kt vt vs)(hF:uL F q=Ma vs (fun v:Value=>v) r b z)(hx:zP S x=some (.map (some b)))(hy:zP S y=some (vs k))(hz2:z=z2)
  (h:MGm z2 k (fun o m=>J P n X Q (.ops os ol) ((d,lkv o)::S) Ls F m) m) (hr:Ls[i]?=some r:=by rfl) (hz:zI6 P vt=some .nilFunc:=by kernel_rfl) (hd:Nat.blt d n=true:=by kernel_rfl) (hg:qC os S g=some true:=by kernel_rfl) :
  J P n X Q (.ops os (⟨some d,.lookup t x y true,ty,pos,af,g⟩::ol)) S Ls F m :=
 ⟨fun hq r0 hm a w hs=>sl (z4D (vv:=fun v:Value=>v) (zv:=.nilFunc) true hs H (hF▸hs.g q) hx hy hz hr (fun a h'=>by
  subst hz2
  have e:(if true=true then Value.tuple #[(tL z k).getD .nilFunc,vb (tL z k).isSome] else(tL z k).getD .nilFunc)=lkv (tL z k):=by
   cases tL z k <;> rfl
  rw[e] at h'
  exact(show J P n X Q (.ops os ol) ((d,lkv (tL z k))::S) Ls F m from h).go hq r0 hm a w h') hd hg)⟩
end
end Go.GD
