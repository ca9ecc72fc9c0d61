/- A part. Conditions: none. -/
import Derived.Test.YtcoildnkgkbjfaaGreatDoorFrm
import Derived.Test.YtcoildnkgkbjfaaGreatDoorArrv
namespace Go.GD
open Go Go.RowKit
set_option autoImplicit false
set_option linter.unusedVariables false
variable {qd:Prop}
mutual
def frd (Z:List Nat)(w:World): zC->List Value->Prop
 | .mk op nm args,cs=>∃ p c,cs=[.int .i64 op,vs nm,.slice p args.length c]∧args.length≤c∧(args=[]∨∃ b off ds,p=some ⟨b,off,none⟩∧b∉Z∧b<w.heap.size∧z4y Z w args ds∧∀ j u,ds[j]?=some u->w.cell? ⟨b,off+j,none⟩=some u)
def z4y (Z:List Nat)(w:World): List zC->List Value->Prop
 | [],cs=>cs=[]
 | x::l,cs=>∃ c1 c2,cs=c1++c2∧frd Z w x c1∧z4y Z w l c2
end
mutual
theorem zZL{Z Z':List Nat}{w w':World}(s:vT Z w Z' w'): ∀(x:zC) (cs:List Value),frd Z w x cs->frd Z' w' x cs
 | .mk op nm args,cs,h=>by
  simp only[frd] at h ⊢
  obtain⟨p,c,rfl,hc,h⟩:=h
  refine⟨p,c,rfl,hc,h.imp id ?_⟩
  rintro ⟨b,off,ds,rfl,hb,hlt,hl,hd⟩
  obtain⟨h1,h2⟩:=s.same b hlt hb
  exact⟨b,off,ds,rfl,h1,Uh hlt s.size,zVp s args ds hl,fun j u hu=>by grind [World.cell?_of_block]⟩
theorem zVp{Z Z':List Nat}{w w':World}(s:vT Z w Z' w'): ∀(l:List zC) (cs:List Value),z4y Z w l cs->z4y Z' w' l cs
 | [],cs,h=>by grind [z4y]
 | x::l,cs,h=>by
  simp only[z4y] at h ⊢
  obtain⟨c1,c2,rfl,h1,h2⟩:=h
  exact⟨c1,c2,rfl,zZL s x c1 h1,zVp s l c2 h2⟩
end
def qD:E zC:=⟨3,fun Z w cs x=>frd Z w x cs,
 by
  intro Z w cs x h
  cases x
  simp only[frd] at h
  grind,
 fun s h=>zZL s _ _ h,
 by
  intro Z w cs x h
  cases x
  simp only[frd] at h
  obtain⟨p,c,rfl,_⟩:=h
  intro v hv
  simp at hv
  rcases hv with rfl | rfl | rfl <;> rfl⟩
theorem zRH{Z:List Nat}{w:World}: ∀ {l:List zC} {cs:List Value},qD.rdL Z w cs l↔z4y Z w l cs
 | [],cs=>by simp only[E.rdL,z4y]
 | x::l,cs=>by
  simp only[E.rdL,z4y]
  exact⟨fun⟨c1,c2,h0,h1,h2⟩=>⟨c1,c2,h0,h1,zRH.1 h2⟩,fun⟨c1,c2,h0,h1,h2⟩=>⟨c1,c2,h0,h1,zRH.2 h2⟩⟩
abbrev zJm:E (Int×zA×List zC):=qM (zR .i64) (qM wD (wJ qD))
theorem zZj{Z:List Nat}{w:World}{cs:List Value}{x:zC}: qD.rd Z w cs x↔zJm.rd Z w cs (fv x):=by
 cases x with
 | mk op nm args =>
  show frd Z w (.mk op nm args) cs↔_
  simp only[frd,fv]
  constructor
  ·rintro ⟨p,c,rfl,hc,h⟩
   exact⟨[.int .i64 op],[vs nm,.slice p args.length c],rfl,rfl,[vs nm],[.slice p args.length c],rfl,rfl,p,c,rfl,hc,h.imp id fun⟨b,off,ds,h1,h2,h3,h4,h5⟩=>⟨b,off,ds,h1,h2,h3,zRH.2 h4,h5⟩⟩
  ·rintro ⟨c1,c2,rfl,h1,c3,c4,rfl,h2,p,c,h3,hc,h⟩
   have h1:c1=[.int .i64 op]:=h1
   have h2:c3=[vs nm]:=h2
   subst h1 h2 h3
   exact⟨p,c,rfl,hc,h.imp id fun⟨b,off,ds,h1,h2,h3,h4,h5⟩=>⟨b,off,ds,h1,h2,h3,zRH.1 h4,h5⟩⟩
def zJr:yI qD:=⟨fun x tl fs k=>(oP oI (oP oS oL):yI zJm).op (fv x) tl fs k,fun h h1 h2=>(oP oI (oP oS oL):yI zJm).spec (zZj.1 h) h1 h2⟩
section
variable {Ls:List zH}{F:List PP}
theorem vF{cs:List Value}{x:zC}(h:RV zJm Ls F cs (fv x)): RV qD Ls F cs x:=fun A w hO hF=>zZj.2 (h A w hO hF)
end
end Go.GD
