/- A part. Conditions: none. -/
import Derived.Test.YtmpieaddiaihmaaGreatDoorOps5
namespace Go.GD
open Go Go.RowKit
set_option autoImplicit false
variable {qd:Prop}
set_option linter.unusedVariables false
theorem z1B:∀(Ls:List zJ),bl Ls=Ls.flatten.map Prod.fst
 | []=>rfl
 | r::rs=>by simp[bl,z1B rs]
section
variable {A:List Nat}{L0 Ls Ls2:List zJ}{w0 w:World}{n:Nat}{S:List (Nat×Value)}{F:List PP}{a:Act}{Y:zJ}
theorem z4Q (hp:(Ls2.flatten++Y).Perm Ls.flatten): ∀ b∈bl Ls2,b∈bl Ls:=by
 intro b hb
 rw[z1B] at hb ⊢
 grind
theorem zZ.less (h:zZ A w Ls)(hp:(Ls2.flatten++Y).Perm Ls.flatten): zZ A w Ls2:=by
 refine⟨h.old,fun r hr p hpr=>?_,?_,fun b hb=>h.apart b (z4Q hp b hb)⟩
 ·have hm:p∈Ls.flatten:=hp.subset (Qb.2 (.inl (List.mem_flatten.2 ⟨r,hr,hpr⟩)))
  obtain⟨s,hs,hps⟩:=List.mem_flatten.1 hm
  exact h.has s hs p hps
 ·have hn:=h.nodup
  rw[z1B] at hn ⊢
  grind
theorem SS.less (h:SS qd A L0 w0 n S Ls F a w)(hp:(Ls2.flatten++Y).Perm Ls.flatten): SS qd A L0 w0 n S Ls2 F a w :=
 ⟨h.s,h.o.less hp,h.e.drop (z4Q hp),h.f.mv (vN.less w fun b hb=>by
  grind [z4Q])⟩
theorem zZ.gone (h:zZ A w Ls)(hp:(Ls2.flatten++Y).Perm Ls.flatten): ∀ p∈Y,w.heap[p.1]?=some p.2∧p.1∉bl Ls2++A:=by
 intro p hpy
 have hm:p∈Ls.flatten:=hp.subset (Qb.2 (.inr hpy))
 obtain⟨s,hs,hps⟩:=List.mem_flatten.1 hm
 refine⟨h.has s hs p hps,fun hb=>?_⟩
 rcases Qb.1 hb with h1 | h1
 ·have hn:=h.nodup
  rw[z1B] at hn h1
  grind
 ·exact h.apart _ (zM1.2 ⟨s,hs,p,hps,rfl⟩) h1
end
def eRaw (k:Nat): E (List Value):=⟨k,fun _ _ cs x=>cs=x∧x.length=k∧∀ c∈x,c.oneCell'=true,by grind,by grind,by grind⟩
section
variable {τ σ:Type}{e:E τ}{f:E σ}
structure Fld (s:xG e (qA f)): Prop where
 pp:∀ x z,s.put (s.put x []) z=s.put x z
 pg:∀ x,s.put x (s.get x)=x
variable (s:xG e (qA f))(tf:TypeId)
def hd0 (cs:List Value): List Value:=cs.take s.off++[.slice none 0 0]++cs.drop (s.off+1)
def NE (Z:List Nat)(w:World)(D:zJ)(cs:List Value)(x:τ): Prop :=
 ∃ q cap,cs[s.off]?=some (.slice q (s.get x).length cap)∧e.rd Z w (hd0 s cs) (s.put x [])∧wJ f tf Z w D q cap (s.get x)
inductive NL (Z:List Nat)(w:World): zJ->List (List Value)->List τ->Prop
 | nil:NL Z w [] [] []
 | cons {D1 D:zJ} {cs:List Value} {x:τ} {raw:List (List Value)} {l:List τ}:NE s tf Z w D1 cs x->NL Z w D raw l->NL Z w (D1++D) (cs::raw) (x::l)
variable {s tf}{Z Z2:List Nat}{w w2:World}{D:zJ}{cs:List Value}{x:τ}{raw:List (List Value)}{l:List τ}
theorem NE.mv (st:vN Z w Z2 w2)(h:NE s tf Z w D cs x): NE s tf Z2 w2 D cs x:=by
 obtain⟨q,cap,h1,h2,h3⟩:=h
 exact⟨q,cap,h1,e.step st h2,h3.mv st⟩
theorem NL.mv (st:vN Z w Z2 w2)(h:NL s tf Z w D raw l): NL s tf Z2 w2 D raw l:=by
 induction h with
 | nil=>exact .nil
 | cons h _ ih=>exact .cons (h.mv st) ih
theorem NL.len (h:NL s tf Z w D raw l): raw.length=l.length:=by
 induction h with
 | nil=>rfl
 | cons h _ ih=>simp[ih]
theorem NL.get (h:NL s tf Z w D raw l): ∀ {k:Nat},l[k]?=some x->∃ Da D1 Db cs,D=Da++D1++Db∧raw[k]?=some cs∧NE s tf Z w D1 cs x∧∀ j y,j≠k->l[j]?=some y->∃ c D',raw[j]?=some c∧NE s tf Z w D' c y∧D' ⊆ Da++Db:=by
 induction h with
 | nil=>grind
 | @cons D1 D cs0 x0 raw l h0 hl ih =>
  intro k hk
  cases k with
  | zero =>
   simp only[Uj,Qd] at hk
   subst hk
   refine⟨[],D1,D,cs0,by simp,rfl,h0,fun j y hj hy=>?_⟩
   cases j with
   | zero=>grind
   | succ j =>
    simp only[Q4] at hy
    have:∀ {D:zJ} {raw:List (List Value)} {l:List τ},NL s tf Z w D raw l->∀ {j:Nat} {y:τ},l[j]?=some y->∃ c D',raw[j]?=some c∧NE s tf Z w D' c y∧D' ⊆ D:=by
     intro D raw l h
     induction h with
     | nil=>grind
     | @cons D1 D cs0 x0 raw l h0 hl ih =>
      grind
    grind
  | succ k =>
   simp only[Q4] at hk
   obtain⟨Da,D2,Db,cs,rfl,h1,h2,h3⟩:=ih hk
   refine⟨D1++Da,D2,Db,cs,by simp,by grind,h2,fun j y hj hy=>?_⟩
   grind
theorem z7O{v:Value}(hv:cs[s.off]?=some v): (hd0 s cs).take s.off++[v]++(hd0 s cs).drop (s.off+(qA f).n)=cs:=by
 have hlt:=(Qf.1 hv).1
 have hl:(cs.take s.off).length=s.off:=by simp;omega
 have h1:(hd0 s cs).take s.off=cs.take s.off:=by
  unfold hd0
  rw[QE,QR (by omega),Qk (by omega)]
 have h2:(hd0 s cs).drop (s.off+(qA f).n)=cs.drop (s.off+1):=by
  unfold hd0
  show List.drop (s.off+1) _=_
  rw[UI,QQ (by simp;omega),QI]
  have:s.off+1-(List.take s.off cs++[Value.slice none 0 0]).length=0:=by simp;omega
  rw[this,List.drop_zero]
 rw[h1,h2]
 have h3:cs=cs.take s.off++cs.drop s.off:=(Qu _ _).symm
 have h4:cs.drop s.off=v::cs.drop (s.off+1):=by
  rw[Qn hlt]
  congr 1
  rw[Qg hlt] at hv
  exact QH hv
 grind
theorem wJ.rdOf{t:Nat}{D:zJ}{q:Option Addr}{cap:Nat}{l:List σ}(h:wJ f t Z w D q cap l)(st:vN Z w Z2 w)(hD:∀ p∈D,w.heap[p.1]?=some p.2∧p.1∉Z2): uY f Z2 w q cap l:=by
 rcases h with⟨_,_,_,rfl⟩ | ⟨b,o,cells,rfl,rfl,h3,h4,h5,h6⟩
 ·exact⟨Ur _,.inl rfl⟩
 ·obtain⟨hb,hz⟩:=hD _ (Qa.2 rfl)
  refine⟨h3,.inr ⟨b,o,_,rfl,hz,(Qq.1 hb).1,f.rdL_step st h6,fun j u hu=>?_⟩⟩
  grind [cell_of_row]
theorem NE.rd (hs:Fld s)(h:NE s tf Z w D cs x)(st:vN Z w Z2 w)(hD:∀ p∈D,w.heap[p.1]?=some p.2∧p.1∉Z2): e.rd Z2 w cs x:=by
 obtain⟨q,cap,h1,h2,h3⟩:=h
 have h4:=h3.rdOf st hD
 have h5:=s.rdp (e.step st h2) (qA.mk h4)
 rw[z7O h1,hs.pp,hs.pg] at h5
 exact h5
end
section
variable {τ σ:Type}{e:E τ}{f:E σ}(s:xG e (qA f))(te tf:TypeId)
end
def xG.cell{k:Nat}(off:Nat)(h:off+1≤k): xG (eRaw k) (eRaw 1) :=
 ⟨off,fun x=>(x.drop off).take 1,fun x y=>x.take off++y++x.drop (off+1),h,
  by
  rintro Z w cs x ⟨rfl,h1,h2⟩
  exact⟨rfl,by simp;omega,fun c hc=>h2 c (Wa (Q5 hc))⟩,
  by
  rintro Z w cs x ds y ⟨rfl,h1,h2⟩ ⟨rfl,h3,h4⟩
  refine⟨rfl,by grind,fun c hc=>?_⟩
  grind⟩
section
variable {P:Program}{n:Nat}{X:Hd qd}{ρ ς:Type}{Q:PQ ρ}{S:Sl}{Ls:List zJ}{F:List PP}{m m1 m2:Option ρ}{os:Array Oper}{ol:List Oper}{x y:Operand}{p p':uH}
variable {d t:Nat}{ty ty2:TypeId}{pos pos2:String}{af af2:Array Edge}{g g2:Option (Nat×Bool)}{kd:IntKind}{B Jj:List Nat}{li:Array Bool}{fuel:Nat}
variable {τ σ:Type}{e:E τ}{f:E σ}{s:xG e (qA f)}{te tf:TypeId}{r rj:zJ}{p0 q q2:Option Addr}{c k0 c2 cap:Nat}{z:List τ}{ix:Int}
end
end Go.GD
