/- A part. Conditions: none. -/
import Derived.Test.YtcoildnkgkbjfaaGreatDoorMore
import Derived.Test.YtcoildnkgkbjfaaGreatDoorLib
namespace Go.GD
open Go Go.RowKit
set_option autoImplicit false
variable {qd:Prop}
def Vw (n:Nat)(p:Option Addr)(c L:Nat)(k:Int)(p':Option Addr)(m:Nat): Prop :=
 0≤k∧k.toNat+m=L∧L≤c∧∀ b o,p=some ⟨b,o,none⟩->m≠0->p'=some ⟨b,o+k.toNat*n,none⟩
section
variable {P:Program}{ops:Array Oper}{Q:Exit->Act->World->Prop}{a:Act}{n:Nat}{S:List (Nat×Value)}{w:World}{K:Act->World->Prop}
variable {A:List Nat}{Ls:List zH}{d:Nat}{ty:TypeId}{pos:String}{af:Array Edge}{g:Option (Nat×Bool)}
variable {τ:Type}{e:E τ}{te:TypeId}{Z:List Nat}{r:zH}{p p':Option Addr}{c c' m L:Nat}{l z:List τ}{k j:Int}{u:τ}{t:TypeId}{x y lo hi:Operand}{kd:IntKind}
theorem yJ.le (hA:yJ e te Z w r p c l): l.length≤c:=by
 rcases hA with⟨_,_,rfl,rfl⟩ | ⟨_,_,_,_,_,h,_⟩
 ·grind
 ·exact h
theorem zVf{d:Option Tmp}{q:Unit}(hS:qO a n S)(hA:yJ e te Z w r p c l)(hx:zP S x=some (.slice p l.length c))(ht:uI P t=some e.n)(hlo:zP S lo=some (.int kd k))
  (hm:chk (decide (0≤k)&&decide (k≤(l.length:Int)))=some q) :
  ∃ p' c',Vw e.n p c l.length k p' (Int.toNat ((l.length:Int)-k))∧∀ w',(execOp a.eval ⟨d,.slice t x (some lo) none none,ty,pos,af,g⟩).run P w'=.ok (.value (.slice p' (Int.toNat ((l.length:Int)-k)) c')) w':=by
 have h0:0≤k∧k≤(l.length:Int):=by
  unfold chk at hm
  split at hm
  ·grind
  ·cases hm
 have hle:=hA.le
 unfold uI at ht
 split at ht
 ·rename_i te' hu
  cases hq:P.info? te' with
  | none=>grind
  | some info =>
   have hs:info.size=e.n:=by simpa [hq] using ht
   refine⟨if c=k.toNat then p else p.map (·.add (k.toNat*e.n)),c-k.toNat,⟨h0.1,by omega,hle,fun b o hp hne=>?_⟩,fun w'=>?_⟩
   ·subst hp
    rw[Qa (by omega)]
    simp[zBX]
   ·have hb:=zME (P:=P) (w:=w') (b:=true) (m:=l.length) (c:=c) (lo:=some (.int kd k)) (hi:=none) (i:=k) (j:=l.length) (.inr ⟨_,rfl⟩) (.inl ⟨rfl,rfl⟩) h0.1 h0.2 (by omega)
    have hsub:l.length-k.toNat=((l.length:Int)-k).toNat:=by omega
    simp[execOp,hS.eval hx,hS.eval hlo,Instr.sliceAt,Instr.slice,run_underlying hu,hb,sizeOf,typeInfo,hq,hs,hsub]
 ·cases ht
theorem zY4{d:Option Tmp}(hS:qO a n S)(hA:yJ e te Z w r p c l)(hx:zP S x=some (.slice p l.length c))(ht:uI P t=some e.n)(hhi:zP S hi=some (.int kd k))(hm:sub l 0 k=some z):
  yJ e te Z w r p c z∧∀ w',(execOp a.eval ⟨d,.slice t x none (some hi) none,ty,pos,af,g⟩).run P w'=.ok (.value (.slice p z.length c)) w':=by
 unfold sub at hm
 split at hm
 case isFalse=>cases hm
 rename_i h0
 obtain⟨_,h1,h2⟩:=h0
 simp only[Qg] at hm
 have hz:z=l.take k.toNat:=by rw[←hm];simp
 have hzl:z.length=k.toNat:=by rw[hz];simp;omega
 have hle:=hA.le
 refine⟨?_,fun w'=>?_⟩
 ·rcases hA with⟨rfl,rfl,rfl,rfl⟩ | ⟨b,o,cells,rfl,rfl,h3,h4,h5,h6⟩
  ·rw[hz];simpa using yJ.nil
  ·refine .inr ⟨b,o,cells,rfl,rfl,by omega,h4,h5,?_⟩
   have:=e.rdL_take k.toNat h6
   rw[UP,Un (QS _ (by omega))] at this
   grind
 ·unfold uI at ht
  split at ht
  ·rename_i te' hu
   cases hq:P.info? te' with
   | none=>grind
   | some info =>
    have hb:=zME (P:=P) (w:=w') (b:=true) (m:=l.length) (c:=c) (lo:=none) (hi:=some (.int kd k)) (i:=0) (j:=k) (.inl ⟨rfl,rfl⟩) (.inr ⟨_,rfl⟩) (Int.le_refl _) h1 (by omega)
    have hp:p.map (fun a:Addr=>a.add 0)=p:=by
     rcases hA with⟨_,rfl,_,_⟩ | ⟨b,o,cells,_,rfl,_⟩
     ·rfl
     ·simp[zBX]
    simp[execOp,hS.eval hx,hS.eval hhi,Instr.sliceAt,Instr.slice,run_underlying hu,hb,sizeOf,typeInfo,hq,hzl,hp]
  ·cases ht
theorem zMi (z:Array Value): ∀ m,(Builtin.zeroCells z m).toList=(List.replicate m z.toList).flatten
 | 0=>by simp[Builtin.zeroCells]
 | m+1=>by
  rw[List.replicate_succ',List.flatten_append,←zMi z m]
  apply Uk
  intro i
  simp only[Builtin.zeroCells,Array.toList_map,Array.toList_range,U1,List.flatten_singleton]
  by_cases h1:i<m*z.size
  ·grind
  ·rw[List.getElem?_append_right (by grind)]
   simp only[UV,UB]
   by_cases h2:i<(m+1)*z.size
   ·rw[List.getElem?_range h2]
    rw[Q0,UM] at h2
    have hm:i % z.size=i-m*z.size:=by
     have:i=(i-m*z.size)+m*z.size:=by omega
     rw[this,Nat.add_mul_mod_self_right,Nat.mod_eq_of_lt (by omega)];omega
    grind
   grind
theorem E.rdL_replicate{w:World}{zc:List Value}{zd:τ}(h:e.rd Z w zc zd): ∀ m,e.rdL Z w (List.replicate m zc).flatten (List.replicate m zd)
 | 0=>rfl
 | m+1=>by
  rw[List.replicate_succ,List.replicate_succ,U2]
  exact⟨_,_,rfl,h,E.rdL_replicate h m⟩
end
end Go.GD
