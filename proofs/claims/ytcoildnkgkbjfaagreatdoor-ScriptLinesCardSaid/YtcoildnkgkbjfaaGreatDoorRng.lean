/- A part. Conditions: none. -/
import Derived.Test.YtcoildnkgkbjfaaGreatDoorSb
import Derived.Shelf.Strings.FuncGrows
import Derived.Lib.DecodeN
namespace Go.GD
open Go Go.RowKit Go.Shelf Go.Proofs
set_option autoImplicit false
variable {qd:Prop}
theorem dec_hi (n b0 b1 b2 b3:Nat)(h:128≤b0): 128≤(Lib.decodeN n b0 b1 b2 b3).1∧(Lib.decodeN n b0 b1 b2 b3).1≤1114111:=by
 unfold Lib.decodeN
 grind
theorem dec_lo (n b0 b1 b2 b3:Nat)(h:b0<128): Lib.decodeN n b0 b1 b2 b3=(b0,1):=by
 unfold Lib.decodeN
 grind
theorem zZU{f:Int->Option Bool}(h1:∀ n:Nat,n<128->(f (n:Int)).isSome=true)(h2:∀ n:Nat,128≤n->n≤1114111->f (n:Int)=some true)(s:List UInt8):
  ∀(k pos:Nat),pos+k=s.length->Lib.idxFuncFrom (fun n=>(f (n:Int)).getD false) true ⟨⟨s⟩⟩ k pos=z6J f (s.drop pos) pos
 | 0,pos,h=>by
  rw[Q8 (by omega)]
  rfl
 | k+1,pos,h=>by
  have hlt:pos<s.length:=by omega
  have hsz:pos<(⟨⟨s⟩⟩:ByteArray).size:=hlt
  have hg:(⟨⟨s⟩⟩:ByteArray).get! pos=s[pos]:=by
   show(Array.mk s)[pos]! = _
   rw[getElem!_pos (Array.mk s) pos hlt]
   rfl
  have hd:s.drop pos=s[pos]::s.drop (pos+1):=Qu hlt
  have hdec:=Lib.decode_at ⟨⟨s⟩⟩ pos
  rw[hg] at hdec
  unfold Lib.idxFuncFrom
  rw[Qm hsz,hd,z6J]
  by_cases hb:128≤s[pos].toNat
  ·obtain⟨k1,k2⟩:=dec_hi ((⟨⟨s⟩⟩:ByteArray).size-pos) s[pos].toNat ((⟨⟨s⟩⟩:ByteArray).get! (pos+1)).toNat ((⟨⟨s⟩⟩:ByteArray).get! (pos+2)).toNat ((⟨⟨s⟩⟩:ByteArray).get! (pos+3)).toNat hb
   grind
  ·have hlo:=dec_lo ((⟨⟨s⟩⟩:ByteArray).size-pos) s[pos].toNat ((⟨⟨s⟩⟩:ByteArray).get! (pos+1)).toNat ((⟨⟨s⟩⟩:ByteArray).get! (pos+2)).toNat ((⟨⟨s⟩⟩:ByteArray).get! (pos+3)).toNat (by omega)
   rw[hdec,hlo]
   have hs:=h1 s[pos].toNat (by omega)
   by_cases hf:f (s[pos].toNat:Int)=some true
   ·grind
   ·rw[Qa (fun e=>hf (by
     cases hq:f (s[pos].toNat:Int) with
     | none=>grind
     | some b=>grind)),Qa (fun e=>e.elim hb hf)]
    exact zZU h1 h2 s k (pos+1) (by omega)
theorem z52{P:Program}{ρ:Ren}(L:Lays.n315 P ρ){g:FuncId}{f:Int->Option Bool}(c:∀ y:Int,zN True P g [.int .i32 y] [] [] (f y) fun r K=>K (vb r) [] [])
  (hc:∀ args w,(callFunc (ρ.f 315) args).run P w=.ok (.enter (ρ.f 315) args) w) {s:zA} {t:Bool} :
  zN False P (ρ.f 315) [vs s,.func (.func g) #[] #[],vb t] [] [] (idxF f t s) fun r K=>K (vi r) [] []:=by
 refine z4M hc fun Z w r hm _=>?_
 unfold idxF at hm
 split at hm
 case isFalse=>cases hm
 rename_i h
 obtain⟨rfl,h1,h2⟩:=h
 obtain rfl:=QE hm
 have hp:PredGrows P g #[] (fun n=>(f (n:Int)).getD false) w:=fun W x hx _=>by
  have hfx:f (x:Int)=some ((f (x:Int)).getD false):=by
   by_cases hb:x<128
   ·have:=h1 x hb
    cases hq:f (x:Int) with
    | none=>grind
    | some b=>rfl
   ·grind
  refine((c (x:Int)).go [] W _ hfx (qF.start (by simp)) trivial).mono fun e w' he=>?_
  cases e with
  | returned v =>
   refine he _ fun⟨e1,q⟩=>?_
   subst e1
   have hE:=q.e
   exact⟨rfl,hE.os,hE.tape,hE.output,hE.size,fun k hk=>hE.keep k hk (by simp[bl])⟩
  | panicked ch=>exact he.elim
  | outgrown=>exact he.elim
 have h:=Any.strings_indexFunc_grows L g #[] (c 0).hf (fun n=>(f (n:Int)).getD false) true ⟨⟨s⟩⟩ w hp
 have hidx:Lib.idxFunc (fun n=>(f (n:Int)).getD false) true ⟨⟨s⟩⟩=z6J f s 0:=by
  unfold Lib.idxFunc
  rw[show(⟨⟨s⟩⟩:ByteArray).size=s.length from rfl,zZU h1 h2 s s.length 0 (by omega),Ug]
 rw[hidx] at h
 exact h.mono fun e w' ⟨he,hw⟩=>⟨he,zNy hw⟩
end Go.GD
