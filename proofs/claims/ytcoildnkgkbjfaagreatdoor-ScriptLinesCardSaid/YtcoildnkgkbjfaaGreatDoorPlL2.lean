/- A part. Conditions: none. -/
import Derived.Test.YtcoildnkgkbjfaaGreatDoorPlL1
namespace Go.GD
set_option autoImplicit false
set_option linter.unusedVariables false
section
def z7J (voc:List zA)(i:Nat)(x:zA): Int:=if vName x&&(i==0||match voc[i-1]? with | some y=>yX y x | none=>false) then 0 else 1
def z6g (voc:List zA): Bool:=decide (voc.length≤6)&&(zSz (z7J voc) 0 voc==0)
theorem z1w{voc:List zA}{j:Nat}{x y:zA}(hy:voc[j]?=some y): z7J voc (j+1) x=if vName x&&yX y x then 0 else 1:=by
 unfold z7J
 grind
theorem zN8 (voc:List zA)(h:voc.length≤1000): zFK voc=some (z6g voc):=by
 unfold zFK z6g
 rw[zOz (B:=zGB voc) voc (z7J voc) (fun _=>(.inr false:Unit⊕Bool)) (.inl ()) (fun i x hx=>by
  have hi:=uS hx
  unfold zGB
  simp only[vY hx,Qe,wV hx,zob,zDf]
  cases i with
  | zero =>
   unfold z7J
   cases vName x <;> simp <;> rfl
  | succ j =>
   have hy:voc[j]?=some voc[j]:=Qi (by omega)
   have e0:decide ((0:Int)<((j+1:Nat):Int))=true:=Qs (by omega)
   have e1:zF (((j+1:Nat):Int)-1)=(j:Int):=by rw[yL (by omega) (by omega)];omega
   rw[z1w hy]
   simp only[e0,e1,Qe,wV hy,zob,vO hx (show voc.length<4294967296 by omega)]
   have hs:(yX x voc[j]||x==voc[j])=!yX voc[j] x:=by
    rcases zRl voc[j] x with h | h | h
    ·rw[h,zSx h]
     have:(x==voc[j])=false:=by
      simp only[Qr]
      intro e
      rw[e,zEs] at h
      cases h
     grind
    ·rw[←h,zEs];simp
    ·rw[h,zSx h];rfl
   grind) (by
  unfold zGB
  grind)]
 have e:decide (len voc≤6)=decide (voc.length≤6):=decide_eq_decide.2 (show(voc.length:Int)≤6↔_ by omega)
 rw[e]
 cases hq:zSz (z7J voc) 0 voc==0 <;> simp[bne,hq,uQ]
structure Voc (voc:List zA): Prop where
 n:voc.length≤6
 v:∀ x∈voc,vName x=true
 nd:voc.Nodup
theorem z3I{voc:List zA}: z6g voc=true↔voc.length≤6∧∀(i:Nat) x,voc[i]?=some x->vName x=true∧(i=0∨∃ y,voc[i-1]?=some y∧yX y x=true):=by
 unfold z6g
 rw[Qb,Ql,QH,zPA]
 refine and_congr_right fun _=>forall_congr' fun i=>forall_congr' fun x=>forall_congr' fun _=>?_
 rw[Ud]
 unfold z7J
 grind
theorem zYo{voc:List zA}(h:z6g voc=true): Voc voc:=by
 obtain⟨h6,hz⟩:=z3I.1 h
 have hlt:∀(d i:Nat) x y,voc[i]?=some x->voc[i+d+1]?=some y->yX x y=true:=by
  intro d
  induction d with
  | zero =>
   grind
  | succ d ih =>
   grind [zKD]
 refine⟨h6,fun x hx=>?_,?_⟩
 ·grind [List.mem_iff_getElem?]
 ·refine Uw.2 fun i j hi hj hij e=>?_
  have:=hlt (j-i-1) i voc[i] voc[j] (Qi hi) (by rw[show i+(j-i-1)+1=j by omega];grind)
  grind [zEs]
end
section
theorem z2c{n:Nat}(h:n≤6): shlK .i64 1 (IntKind.u64.wrap (n:Int))=some ((2 ^ n:Nat):Int):=by
 rcases(by omega:n=0∨n=1∨n=2∨n=3∨n=4∨n=5∨n=6) with rfl | rfl | rfl | rfl | rfl | rfl | rfl <;> rfl
theorem z4c{n:Nat}(h:n≤6): 2 ^ n≤64:=Q3 (n:=2) (by omega) h
end
section
theorem z7V{l:List Int}(x:Int)(h:l.length≤1000): zOI l x=some (decide (x∈l)):=by
 unfold zOI
 rw[zRI (B:=zJQ l x) l (fun y=>y==x) (fun i y hy=>by
  unfold zJQ
  simp only[vY hy,Qe,wV hy,zob,vO hy (show l.length<4294967296 by omega)]
  grind) (by unfold zJQ;grind)]
 grind
end
section
theorem zPD (b:UInt8): zHU (b.toNat:Int)=some (uM b):=by grind [zHU,uM,loB]
def wB (b:UInt8): Bool:=uM b||(decide (65≤(b.toNat:Int))&&decide ((b.toNat:Int)≤90))
theorem iteT (a b:Bool): (if a=true then some b else some false:Option Bool)=some (a&&b):=by grind
section
variable {S:zA}{i:Nat}{bad:Int}(hl:S.length≤5000)
theorem zLO{R:zA}{j:Nat}(h:S.drop i=R): S[i+j]?=R[j]?:=by grind
theorem zGr{R:zA}(h:S.drop i=R)(hi:i≤S.length): S.length=i+R.length:=by grind
include hl
theorem tk_L1{R:zA}(h:S.drop i=R)(hi:i≤S.length)(hR:∀ c r,R=c::r->c≠32): zJ (zAf (S,(i:Int),bad)) (i:Int)=some (i:Int):=by
 have _:=hl
 refine vM ?_
 unfold zAf
 have hn:=zGr h hi
 cases R with
 | nil =>
  grind
 | cons c r =>
  have hc:=hR c r rfl
  have:decide ((i:Int)<len S)=true:=Qs (show(i:Int)<(S.length:Int) by grind)
  have hx:S[i]?=some c:=by have:=zLO (j:=0) h;simpa using this
  have e32:((c.toNat:Int)==32)=false:=by
   simp only[Qr]
   intro e
   exact hc (UInt8.toNat_inj.1 (by grind))
  simp only[this,Qe,zCn,hx,QW,zob,e32,zbf,Qh]
theorem z4L{R:zA}(h:S.drop i=32::R): zAF (S,(i:Int),bad)=zAF (S,((i+1:Nat):Int),bad):=by
 have hx:S[i]?=some 32:=by have:=zLO (j:=0) h;simpa using this
 have hi:=uS hx
 have:zJ (zAf (S,(i:Int),bad)) (i:Int)=zJ (zAf (S,((i+1:Nat):Int),bad)) ((i+1:Nat):Int):=by
  refine uE ?_
  unfold zAf
  have e:decide ((i:Int)<len S)=true:=Qs (show(i:Int)<(S.length:Int) by omega)
  simp only[e,Qe,zCn,hx,QW,zob,wI i (by omega)]
  rfl
 show(zJ (zAf (S,(i:Int),bad)) (i:Int):Option Int).bind _=(zJ (zAf (S,((i+1:Nat):Int),bad)) ((i+1:Nat):Int):Option Int).bind _
 rw[this]
 rfl
theorem z4s:∀(s R:zA) (i:Nat),S.drop i=s++R->i≤S.length->(∀ c∈s,wB c=true)->(∀ c r,R=c::r->wB c=false)->∀ k:Int,zJ (zC3 (S,k,bad)) (i:Int)=some ((i+s.length:Nat):Int)
 | [],R,i,h,hi,_,hR,k=>by
  have hn:=zGr h hi
  refine vM ?_
  unfold zC3
  cases R with
  | nil =>
   grind
  | cons c r =>
   have hc:=hR c r rfl
   have:decide ((i:Int)<len S)=true:=Qs (show(i:Int)<(S.length:Int) by grind)
   have hx:S[i]?=some c:=by have:=zLO (j:=0) h;simpa using this
   unfold wB at hc
   rw[QT] at hc
   simp only[this,Qe,zCn,hx,QW,zob,zPD,hc.1,zbf,Qh]
   grind
 | c::s,R,i,h,hi,hs,hR,k=>by
  have hn:=zGr h hi
  have hc:=hs c Qz
  have hx:S[i]?=some c:=by have:=zLO (j:=0) h;simpa using this
  have hi':=uS hx
  have hd:S.drop (i+1)=s++R:=by
   have:=congrArg List.tail h
   rw[U4] at this
   simpa using this
  have ih:=z4s s R (i+1) hd (by omega) (fun d hd=>hs d (Qq _ hd)) hR k
  refine(uE (t:=((i+1:Nat):Int)) ?_).trans (ih.trans ?_)
  ·unfold zC3
   have:decide ((i:Int)<len S)=true:=Qs (show(i:Int)<(S.length:Int) by omega)
   unfold wB at hc
   simp only[this,Qe,zCn,hx,QW,zob,zPD]
   cases ho:uM c with
   | true=>simp only[Qe,zob,wI i (by omega)]
   | false =>
    rw[ho,Bool.false_or] at hc
    simp only[zbf,Qh]
    rw[iteT,hc]
    simp only[zob,Qe,wI i (by omega)]
  grind
end
end
section
def wdB (s:zA): Bool:=s==[48]||(s==[49]||vName s)
theorem z0y{s:zA}(h:wdB s=true): (∀ c∈s,wB c=true)∧s≠[]∧∃ c r,s=c::r∧uM c=true∧c≠32∧c≠126∧c≠40:=by
 have hne:∀ c:UInt8,uM c=true->c≠32∧c≠126∧c≠40:=fun c hc=>by
  refine⟨?_,?_,?_⟩ <;> (rintro rfl;revert hc;decide)
 unfold wdB at h
 rw[QI,QI,QH,QH] at h
 rcases h with rfl | rfl | h
 ·exact⟨by decide,by simp,48,[],rfl,by decide,by decide,by decide,by decide⟩
 ·exact⟨by decide,by simp,49,[],rfl,by decide,by decide,by decide,by decide⟩
 ·cases s with
  | nil=>cases h
  | cons c r =>
   unfold vName at h
   rw[Qb,Qb,QK] at h
   obtain⟨⟨_,h2⟩,h3⟩:=h
   have hc:uM c=true:=by unfold uM;rw[h2];rfl
   refine⟨fun d hd=>?_,by simp,c,r,rfl,hc,hne c hc⟩
   unfold wB
   grind
section
variable {S:zA}{i:Nat}{bad:Int}(hl:S.length≤5000)
include hl
theorem z60{s R:zA}(h:S.drop i=s++R)(hi:i≤S.length)(hs:wdB s=true)(hR:∀ c r,R=c::r->wB c=false): zAF (S,(i:Int),bad)=some (s,(i:Int)):=by
 obtain⟨h1,h2,c,r,rfl,hc,hc32,_⟩:=z0y hs
 have hn:=zGr h hi
 simp only[Qc,Qn] at hn
 unfold zAF
 dsimp only
 rw[tk_L1 hl h hi (fun d q e=>by grind),zob]
 have e1:((i:Int)==len S)=false:=by rw[Qr];show ¬ (i:Int)=(S.length:Int);omega
 simp only[e1,zbf,Qh]
 rw[z4s hl (c::r) R i h hi h1 hR,zob]
 have e2:decide ((i:Int)<((i+(c::r).length:Nat):Int))=true:=Qs (by grind)
 have e3:sub S (i:Int) ((i+(c::r).length:Nat):Int)=some (c::r):=by
  rw[zJw (by omega) (by omega) (by grind),Qw,Qw,Uf,h,QZ,UO]
 simp only[e2,Qe,e3,zob,zDf]
 have e4:(if((c::r)==[48])=true then some true else if((c::r)==[49])=true then some true else some (vName (c::r)):Option Bool)=some (wdB (c::r)):=by
  unfold wdB
  cases (c::r)==[48] <;> cases (c::r)==[49] <;> rfl
 grind
theorem tk_op{c:UInt8}{R:zA}(h:S.drop i=c::R)(hc:c=126∨c=38∨c=124∨c=40∨c=41): zAF (S,(i:Int),bad)=some ([c],(i:Int)):=by
 have hx:S[i]?=some c:=by have:=zLO (j:=0) h;simpa using this
 have hi:=uS hx
 have hw:wB c=false∧c≠32:=by rcases hc with rfl | rfl | rfl | rfl | rfl <;> decide
 unfold zAF
 dsimp only
 rw[tk_L1 hl h (by omega) (fun d q e=>by grind),zob]
 have e1:((i:Int)==len S)=false:=by rw[Qr];show ¬ (i:Int)=(S.length:Int);omega
 simp only[e1,zbf,Qh]
 rw[z4s hl [] (c::R) i h (by omega) (by simp) (fun d q e=>by grind),zob]
 have e2:decide ((i:Int)<((i+([]:zA).length:Nat):Int))=false:=QF (by simp)
 simp only[e2,zbf,Qh]
 have hn:=zGr h (by omega)
 have step:∀(j:Nat) (t:zA),([[126],[38],[124],[45,62],[60,45,62],[40],[41]]:List zA)[j]?=some t->t.length≤3->
   zA8 (S,(i:Int),bad) (i:Int) (j:Int)=some (if(c::R).take t.length==t then .inr (t,(i:Int)) else .inl ((j+1:Nat):Int)):=fun j t hj ht=>by
  have hj7:=(Qj.1 hj).1
  simp only[Qn,UA] at hj7
  unfold zA8
  simp only[vY hj,Qe,wV hj,zob]
  have e3:zF (len S-(i:Int))=((c::R).length:Int):=by
   show zF ((S.length:Int)-(i:Int))=_
   rw[yL (by omega) (by omega)];omega
  have e4:zF ((i:Int)+len t)=((i+t.length:Nat):Int):=by
   show zF ((i:Int)+(t.length:Int))=_
   rw[yL (by omega) (by omega)];omega
  rw[e3,e4]
  by_cases hle:t.length≤(c::R).length
  ·have e5:decide (len t≤((c::R).length:Int))=true:=Qs (show(t.length:Int)≤_ by omega)
   simp only[e5,Qe]
   rw[zJw (by omega) (by omega) (by omega),Qw,Qw,Uf,h,QZ]
   simp only[zob,wI j (by omega)]
   grind
  ·have e5:decide (len t≤((c::R).length:Int))=false:=QF (show ¬ (t.length:Int)≤_ by omega)
   have e6:((c::R).take t.length==t)=false:=by
    rw[Qr]
    intro e
    have:=congrArg List.length e
    rw[Uo] at this
    omega
   simp only[e5,zbf,Qh,zob,e6,wI j (by omega)]
 have no:∀(j:Nat) (t:zA),([[126],[38],[124],[45,62],[60,45,62],[40],[41]]:List zA)[j]?=some t->t.length≤3->((c::R).take t.length==t)=false->zJ (zA8 (S,(i:Int),bad) (i:Int)) (j:Int)=zJ (zA8 (S,(i:Int),bad) (i:Int)) ((j+1:Nat):Int):=fun j t hj ht e=>by
  refine uE ?_
  grind
 have yes:∀(j:Nat) (t:zA),([[126],[38],[124],[45,62],[60,45,62],[40],[41]]:List zA)[j]?=some t->t.length≤3->((c::R).take t.length==t)=true->zJ (zA8 (S,(i:Int),bad) (i:Int)) (j:Int)=some (t,(i:Int)):=fun j t hj ht e=>by
  refine vM ?_
  grind
 rcases hc with rfl | rfl | rfl | rfl | rfl
 ·exact yes 0 [126] rfl (by decide) rfl
 ·exact(no 0 [126] rfl (by decide) rfl).trans (yes 1 [38] rfl (by decide) rfl)
 ·exact(no 0 [126] rfl (by decide) rfl).trans ((no 1 [38] rfl (by decide) rfl).trans (yes 2 [124] rfl (by decide) rfl))
 ·exact(no 0 [126] rfl (by decide) rfl).trans ((no 1 [38] rfl (by decide) rfl).trans ((no 2 [124] rfl (by decide) rfl).trans ((no 3 [45,62] rfl (by decide) rfl).trans ((no 4 [60,45,62] rfl (by decide) rfl).trans (yes 5 [40] rfl (by decide) rfl)))))
 ·exact(no 0 [126] rfl (by decide) rfl).trans ((no 1 [38] rfl (by decide) rfl).trans ((no 2 [124] rfl (by decide) rfl).trans ((no 3 [45,62] rfl (by decide) rfl).trans ((no 4 [60,45,62] rfl (by decide) rfl).trans ((no 5 [40] rfl (by decide) rfl).trans (yes 6 [41] rfl (by decide) rfl))))))
omit hl in
theorem z65{t x:zA}{j:Int}(h:zAF (S,(i:Int),-1)=some (x,j))(hx:(x==t)=false): xO (S,(i:Int),-1) t=some (false,(i:Int)):=by
 unfold xO
 grind
theorem z5F{t:zA}{j:Nat}(h:zAF (S,(i:Int),-1)=some (t,(j:Int)))(hj:j≤S.length)(ht:t.length≤5000): xO (S,(i:Int),-1) t=some (true,((j+t.length:Nat):Int)):=by
 unfold xO
 rw[h,zob]
 have e:(!(t==t)||decide ((0:Int)≤-1))=false:=by rw[QQ];rfl
 simp only[e,zbf,Qh]
 rw[show len t=(t.length:Int) from rfl,yL (by omega) (by omega)]
 congr 2
end
end
section
noncomputable abbrev tkn (S:zA)(i:Nat): Option (zA×Int):=zAF (S,(i:Int),-1)
def Fol (R:zA): Prop:=∀ c r,R=c::r->wB c=false
structure Pl (S:zA)(i:Nat)(sp X:zA): Prop where
 l:S.length≤5000
 b:sp=[]∨sp=[32]
 d:S.drop i=sp++X
 i:i≤S.length
section
variable {S sp X:zA}{i:Nat}
theorem Pl.at (p:Pl S i sp X): S.drop (i+sp.length)=X:=by rw[←Us,p.d,List.drop_left]
theorem Pl.le (p:Pl S i sp X): i+sp.length+X.length=S.length:=by
 have:=congrArg List.length p.d
 rw[QO,Qc] at this
 have:=p.i
 omega
theorem Pl.tk (p:Pl S i sp X): tkn S i=tkn S (i+sp.length):=by
 rcases p.b with h | h
 ·rw[h];rfl
 ·have d:=p.d
  rw[h] at d ⊢
  exact z4L p.l d
theorem Pl.word{s R:zA}(p:Pl S i sp (s++R))(hs:wdB s=true)(hR:Fol R): tkn S i=some (s,((i+sp.length:Nat):Int)):=by
 have:=p.le
 rw[p.tk]
 exact z60 p.l p.at (by grind) hs hR
theorem Pl.op{c:UInt8}{R:zA}(p:Pl S i sp (c::R))(hc:c=126∨c=38∨c=124∨c=40∨c=41): tkn S i=some ([c],((i+sp.length:Nat):Int)):=by
 rw[p.tk]
 exact tk_op p.l p.at hc
theorem Pl.no{x t:zA}{j:Int}(p:Pl S i sp X)(h:tkn S i=some (x,j))(hx:(x==t)=false): xO (S,(i:Int),-1) t=some (false,(i:Int)):=by
 have _:=p
 exact z65 h hx
theorem Pl.yes{c:UInt8}{R:zA}(p:Pl S i sp (c::R))(hc:c=126∨c=38∨c=124∨c=40∨c=41): xO (S,(i:Int),-1) [c]=some (true,((i+sp.length+1:Nat):Int)):=by
 have:=p.le
 exact z5F p.l (p.op hc) (by omega) (by simp)
end
def A (f:Fo)(k0:Nat): Prop:=∀(S sp R:zA) (i k:Nat) (t:zA) (j:Int),k0≤k->Pl S i sp (Fo.par (decide (f.str<4)) f.text++R)->Fol R->
 tkn S (i+sp.length+(Fo.par (decide (f.str<4)) f.text).length)=some (t,j)->(t==[38])=false->
 zAU k (S,(i:Int),-1)=some (f.fm,((i+sp.length+(Fo.par (decide (f.str<4)) f.text).length:Nat):Int),-1)
def I (f:Fo)(k0:Nat): Prop:=∀(S sp R:zA) (i k:Nat) (t:zA) (j:Int),k0≤k->Pl S i sp (f.text++R)->Fol R->
 tkn S (i+sp.length+f.text.length)=some (t,j)->(t==[38])=false->(t==[124])=false->(t==[45,62])=false->(t==[60,45,62])=false->
 zAX k (S,(i:Int),-1)=some (f.fm,((i+sp.length+f.text.length:Nat):Int),-1)
end
section
theorem A.mono{f:Fo}{a b:Nat}(h:A f a)(hab:a≤b): A f b:=by grind [A]
theorem I.mono{f:Fo}{a b:Nat}(h:I f a)(hab:a≤b): I f b:=by grind [I]
end
section
theorem Ok.Rng{s:vH}{lo hi:Int}(h:wX s)(h0:-1000≤lo)(h1:lo≤hi)(h2:hi≤1000): Ok (zAj s lo hi) fun r=>lo≤r.1∧r.1≤hi∧wX (s.1,r.2):=by
 have e1:zF (hi-lo)=hi-lo:=yL (by omega) (by omega)
 have e2:zF (hi-lo+1)=hi-lo+1:=yL (by omega) (by omega)
 obtain⟨v,k,h3,h4,h5,h6⟩:=zHZ h (n:=hi-lo+1) (by omega) (by omega)
 exact⟨(lo+v,k),by grind [zAj,yL],by grind,by grind,h6⟩
theorem Ok.Voc{n:Int}(h0:0≤n)(h1:n≤4): Ok (zMF n) fun r=>r.length≤10:=by
 unfold zMF
 refine Ok.forI (fun i (o:List zA)=>(o,(i:Int))) (List.range n.toNat) (fun i o=>o.length≤i) _ (fun i x o hx ho=>?_) (fun o ho=>?_) [] (by simp)
 ·have hi:i<n.toNat:=by simpa using (Qj.1 hx).1
  unfold zKX
  simp only[Qs (show(i:Int)<n by omega),Qe]
  refine .bind (Ok.app (by simp;omega)) fun z hz=>.ret ⟨z,by rw[wI i (by omega)],by grind⟩
 ·unfold zKX
  simp only[UB,QF (show ¬ ((n.toNat:Nat):Int)<n by omega),zbf,Qh]
  rw[UB] at ho
  exact .ret (show o.length≤10 by omega)
theorem Ok.Normal31{voc:List zA}{r:List Int}(hv:voc.length≤10)(hr:r.length≤100): Ok (zHM voc r) fun z=>z.1.1.length≤10∧z.1.2.length≤100:=by
 unfold zHM
 rw[zN8 voc (by omega),zob]
 refine .bind (I:=fun _=>True) (.ite (fun _=>.ret trivial) fun hb=>?_) fun b _=>.ite (fun _=>.ret ⟨by simp,by simp⟩) fun _=>?_
 ·have hb:z6g voc=true:=by simpa using hb
  rw[show len voc=(voc.length:Int) from rfl,z2c (zYo hb).n]
  exact .ret trivial
 ·rw[zMS (by omega),zob]
  have hmk:mkS (len r) (len r) (0:Int)=some (List.replicate r.length 0):=by
   unfold mkS
   rw[Qm ⟨by grind,Int.le_refl _,by grind⟩]
   rfl
  rw[hmk]
  simp only[zob]
  refine .bind (I:=fun z=>z.length≤100) ?_ fun z hz=>.ret ⟨hv,hz⟩
  refine Ok.forI (fun i (o:List Int)=>((i:Int),o)) r (fun _ o=>o.length=r.length) _ (fun i x o hx ho=>?_) (fun o ho=>?_) (List.replicate r.length 0) (by simp)
  ·have hi:=uS hx
   unfold zHD
   simp only[vY hx,Qe]
   refine .bind (I:=fun _=>True) ?_ fun b _=>?_
   ·refine Ok.forI (fun j (q:List Int)=>(q,(j:Int))) r (fun j q=>q.length≤j) _ (fun j y q hy hq=>?_) (fun q hq=>?_) [] (by simp)
    ·have hj:=uS hy
     unfold zHC
     simp only[vY hy,Qe,wV hy,wV hx,zob,z7V y (show q.length≤1000 by omega)]
     refine .bind (I:=fun _=>True) (.ite (fun _=>.ret trivial) fun _=>.ret trivial) fun b _=>.ite (fun _=>.bind (Ok.app (by simp;omega)) fun z hz=>.ret ⟨z,by grind [vO],by grind⟩) fun _=>.ret ⟨q,by grind [vO],by omega⟩
    ·unfold zHC
     simp only[zNS,zbf,Qh]
     exact .ret trivial
   ·exact .bind (.idx (by omega) (by omega)) fun _ _=>.ret ⟨_,by rw[vO hx (by omega)],by grind⟩
  ·unfold zHD
   simp only[zNS,zbf,Qh]
   exact .ret (show o.length≤100 by omega)
end
section
def z0P (l:List Int)(x:Int): List Int:=(yP l.length).filter fun i=>decide (l[i.toNat]?=some x)
theorem zSN (l:List Int)(x:Int): (z0P l x).length≤l.length:=Qy (Q4 _ _) (by rw[zFa];grind)
theorem z54 (l:List Int)(x:Int)(hl:l.length<4294967000): zKo l x=some (z0P l x):=by
 unfold zKo
 have h:=zFn (B:=zD6 l x) (yP l.length) (fun s i=>if decide (l[i.toNat]?=some x) then s++[i] else s) id (fun i s=>s.length≤i) ([]:List Int) (by simp) ?_ ?_
 ·have h2:=zGE (fun i:Int=>decide (l[i.toNat]?=some x)) id (yP l.length) []
  simp only[id,List.map_id,QA] at h2
  rw[h.1,h2];rfl
 ·intro i y s hy hI
  obtain⟨rfl,hi⟩:=zPv hy
  have hx:l[i]?=some l[i]:=Qi hi
  unfold zD6
  simp only[vY hx,Qe,wV hx,zob,vO hx (by omega),Qw,hx,Qg]
  by_cases he:l[i]=x
  ·simp only[he,QQ,Qe,decide_true]
   rw[yC (by simp;omega)]
   grind
  grind
 ·intro s _
  rw[zFa]
  unfold zD6
  simp[len]
theorem zTr (l:List Int)(x:Int)(hl:l.length<4294967000): zJF l x=some (z0P l x):=z54 l x hl
abbrev z7H:zCQ:=(([],[],[]),[],[],(0,[]))
def badO (o:zAm): Bool:=if o.1 != 1 then(o.1 != 2)||((o.2 != 1)&&(o.2 != 2)) else(o.2 != 1)&&(o.2 != 2)
noncomputable def z0o (b:zX)(l:List zU)(o:zAm): List wU:=nrm lt2 (zPL (zJR b l o))
noncomputable def z3g (b:zX)(l:List zU)(o:zAm): List zE:=nrm vX ((z0P (zQe l.length (z0o b l o)) 1).flatMap (zM9 l))
noncomputable def zX3 (b:zX)(l:List zU)(o:zAm): zCQ:=(zPB b (z3g b l o),l,zJR (zPB b (z3g b l o)) l o,((l.length:Int),z0o (zPB b (z3g b l o)) l o))
open Classical in
noncomputable def zYS (b:zX)(o:zAm): zCQ×Int:=if zHX b then(match zUR b with
  | none=>(z7H,2)
  | some l=>if badO o then(z7H,4) else(zX3 b l o,0))
 else(z7H,zKm b)
theorem zLs{b:zX}{l:List zU}(hl:l.length≤40)(o:zAm): zSm (len l) (zJR b l o)=(((l.length:Int),z0o b l o),0)∧xM l.length (z0o b l o):=by
 have h0:(decide (len l<0)||decide (40<len l))=false:=by
  simp only[len,QT,QN];omega
 have h1:(zJR b l o).any (zX0 (len l))=false:=by
  rw[List.any_eq_false]
  intro y hy
  have hy:=z2P (b:=b) (l:=l) y |>.1 (QR.1 hy).1
  simp only[zX0,len,QI,Ql,not_or]
  omega
 have h2:zSm (len l) (zJR b l o)=(((l.length:Int),z0o b l o),0):=by
  unfold zSm z0o
  simp only[h0,h1,zbf,Qh]
 refine⟨h2,?_⟩
 obtain⟨N,e1,e2,e3,_⟩:=zXs h2
 have:N=l.length:=by simp only[len] at e1;omega
 grind
theorem z3X{b:zX}{l:List zU}{y:List zE}(h:FormB b l): FormB (zPB b y) l :=
 ⟨h.toFormA,by simpa [zPB] using h.np,by simpa [zPB] using h.nr,fun i a ha=>by simpa [zPB] using h.kind i a ha⟩
theorem z5R (b:zX)(l:List zU)(o:zAm): (z3g b l o).length≤l.length:=by
 refine Qy (zYW _ _) (Qy (zWP _) ?_)
 rw[Nat.mul_one]
 refine Qy (zSN _ _) ?_
 rw[zQe,zMO];grind
section
variable {b:zX}
theorem zTJ (hc:Cnt3 b)(hr:b.2.1.length≤12)(o:zAm): zDO b o=some (zYS b o):=by
 unfold zDO zYS
 by_cases hv:zHX b
 ·rw[z2d (z4Q hv hr),Qm hv]
  cases hb:zUR b with
  | none=>rfl
  | some l =>
   obtain⟨hf,hl⟩:=zRe hv hr hb
   have hB:=hf.toFormC.toFormB
   simp only[ansB,zob,bne_self_eq_false,zbf,Qh]
   show(if badO o=true then _ else _)=_
   cases ho:badO o with
   | true=>rfl
   | false =>
    have hd:=zZr (b:=b) (l:=l) (by omega) o
    obtain⟨hg,hG⟩:=zLs (b:=b) hl o
    have hac:=z5R b l o
    have hd2:=zZr (b:=zPB b (z3g b l o)) (l:=l) (by omega) o
    obtain⟨hg2,_⟩:=zLs (b:=zPB b (z3g b l o)) hl o
    have hgl:(zQe l.length (z0o b l o)).length=l.length:=zMO _ _
    have hw:=zSN (zQe l.length (z0o b l o)) 1
    simp only[zbf,Qh,zR7 hB o,zob]
    rw[zXB _ _ (by omega),hg]
    simp only[zob]
    rw[zR8 hG]
    simp only[zob]
    rw[zTr _ _ (by omega)]
    simp only[zob]
    rw[zLq _ (by omega)]
    simp only[zob]
    rw[show nrm vX ((z0P (zQe l.length (z0o b l o)) 1).flatMap (zM9 l))=z3g b l o from rfl,zYP (zQD hv) (by omega)]
    simp only[zob,zR7 (z3X hB) o]
    rw[zXB _ _ (by omega),hg2]
    rfl
 ·rw[zTT hc hv,Qa hv]
  have:(zKm b != 0)=true:=by
   rw[bne_iff_ne]
   exact fun h'=>hv (zIH.1 h')
  grind
theorem zOx (hc:Cnt b)(hr:b.2.1.length≤12)(o:zAm): zDO b o=some (zYS b o):=zTJ hc.c3 hr o
theorem z6m (hr:b.2.1.length≤12){o:zAm}{c:zCQ}(h:zYS b o=(c,0)): ∃ l,zHX b∧tD b l∧l.length≤40∧zUR b=some l∧badO o=false∧c=zX3 b l o:=by
 unfold zYS at h
 by_cases hv:zHX b
 ·rw[Qm hv] at h
  cases hb:zUR b with
  | none=>grind
  | some l =>
   rw[hb] at h
   obtain⟨hf,hl⟩:=zRe hv hr hb
   grind
 ·rw[Qa hv] at h
  simp only[Prod.mk.injEq] at h
  exact absurd (zIH.1 h.2) hv
end
end
section
variable {l:List zFm}
structure WfG (g:uF): Prop where
 n:0≤g.1∧g.1≤1000
 len:g.2.length≤10000
 at_:∀ p∈g.2,0≤p.1∧p.1<g.1∧0≤p.2∧p.2<g.1
end
section
theorem xM.wf{N:Nat}{L:List wU}(h:xM N L): WfG ((N:Int),L):=⟨⟨by simp,by have:=h.hN;grind⟩,by have:=h.len;grind,fun p hp=>by
 have:=h.inr p hp
 grind [zVa]⟩
end
section
def wY (c:UInt8): zA->zA×zA×Bool
 | []=>([],[],false)
 | x::r=>if x=c then([],r,true) else(x::(wY c r).1,(wY c r).2.1,(wY c r).2.2)
theorem zP2 (c:UInt8): ∀ s:zA,s=(wY c s).1++(if(wY c s).2.2=true then c::(wY c s).2.1 else[])
 | []=>rfl
 | x::r=>by
  unfold wY
  by_cases h:x=c
  ·grind
  ·rw[Qa h]
   have:=zP2 c r
   grind
theorem zRN (c:UInt8): ∀ s:zA,(wY c s).2.2=false->(wY c s).2.1=[]
 | [],_=>rfl
 | x::r,h=>by
  unfold wY at h ⊢
  by_cases hx:x=c
  ·grind
  ·rw[Qa hx] at h ⊢
   exact zRN c r h
theorem zZa (c:UInt8): ∀ s:zA,Lib.indexByte s c=if(wY c s).2.2=true then((wY c s).1.length:Int) else -1
 | []=>rfl
 | x::r=>by
  have ih:=zZa c r
  unfold wY Lib.indexByte
  grind
theorem z1U (c:UInt8){s:zA}(h:(wY c s).2.2=true): (wY c s).2.1.length<s.length:=by
 have h1:=congrArg List.length (zP2 c s)
 grind
theorem z67 (c:UInt8){s:zA}(h:s.length<1000000): zIA s [c]=some (wY c s):=by
 unfold zIA zCi zC0 zZA
 have hs:=zP2 c s
 have hl:=congrArg List.length hs
 rw[Qc] at hl
 simp only[zob]
 rw[zZa]
 cases he:(wY c s).2.2 with
 | false =>
  have h2:=zRN c s he
  grind
 | true =>
  rw[he] at hs hl
  simp only[Qe,Qn] at hs hl
  simp only[Qe]
  have:decide ((0:Int)≤((wY c s).1.length:Int))=true:=by simp
  simp only[this,Qe]
  rw[zLY (by omega) (by omega)]
  have hw:zF (((wY c s).1.length:Int)+len [c])=(((wY c s).1.length+1:Nat):Int):=by
   rw[show len [c]=1 from rfl];exact wI _ (by omega)
  rw[hw,zob,zPd (by omega) (by omega),zob,zob]
  have e1:s.take (Int.toNat ((wY c s).1.length:Int))=(wY c s).1:=by
   rw[Qw]
   have:=UO (l₁:=(wY c s).1) (l₂:=c::(wY c s).2.1)
   rwa [←hs] at this
  have e2:s.drop (Int.toNat (((wY c s).1.length+1:Nat):Int))=(wY c s).2.1:=by
   rw[Qw,←Us]
   have:=List.drop_left (l₁:=(wY c s).1) (l₂:=c::(wY c s).2.1)
   rw[←hs] at this
   rw[this];rfl
  grind
def z2S (x:UInt8): List zA->List zA
 | []=>[[x]]
 | w::ws=>(x::w)::ws
def xD (c:UInt8): zA->List zA
 | []=>[[]]
 | x::r=>if x=c then[]::xD c r else z2S x (xD c r)
theorem z0z (x:UInt8){l:List zA}(h:l≠[]): (z2S x l).length=l.length:=by cases l with | nil=>grind | cons w ws=>rfl
theorem zMB (c:UInt8): ∀ s:zA,(xD c s).length=s.count c+1
 | []=>rfl
 | x::r=>by
  have ih:=zMB c r
  unfold xD
  by_cases h:x=c
  ·grind
  ·rw[Qa h,z0z x (fun e=>by grind),ih,List.count_cons_of_ne h]
theorem zNQ (c x:UInt8)(r:zA): xD c (x::r)=if x=c then[]::xD c r else z2S x (xD c r):=rfl
theorem zJg (c:UInt8): ∀ s:zA,xD c s=if(wY c s).2.2=true then(wY c s).1::xD c (wY c s).2.1 else[s]
 | []=>rfl
 | x::r=>by
  have ih:=zJg c r
  rw[zNQ]
  unfold wY
  by_cases h:x=c
  ·grind
  ·rw[Qa h,Qa h,ih]
   cases (wY c r).2.2 with
   | true=>rfl
   | false=>rfl
theorem zFE{n:Nat}(h:n<10): Lib.decDigits n=[UInt8.ofNat (48+n)]:=by rw[Lib.decDigits,dif_pos h]
theorem zPc{n:Nat}(h:¬ n<10): Lib.decDigits n=Lib.decDigits (n / 10)++[UInt8.ofNat (48+n % 10)]:=by rw[Lib.decDigits,dif_neg h]
theorem zX4{n:Nat}(h:n<10): (UInt8.ofNat (48+n)).toNat=48+n:=by
 rw[UInt8.toNat_ofNat'];omega
def zJW (c:UInt8): Bool:=decide (48≤c.toNat)&&decide (c.toNat≤57)
theorem z3x{n:Nat}(h:n<10): zJW (UInt8.ofNat (48+n))=true:=by grind [zJW,zX4]
theorem z3t{c:UInt8}(h:zJW c=true): UInt8.ofNat (48+(c.toNat-48))=c:=by
 unfold zJW at h
 simp_all
theorem zZ3 (n:Nat): ∀ c∈Lib.decDigits n,zJW c=true:=by
 induction n using Nat.strongRecOn with
 | ind n ih =>
  grind [zFE,z3x,zPc]
theorem z5w (n:Nat): Lib.decDigits n≠[]:=by
 by_cases h:n<10
 ·rw[zFE h];simp
 ·rw[zPc h];simp
theorem z4T (n:Nat)(h0:0<n): (Lib.decDigits n).head?≠some 48:=by
 induction n using Nat.strongRecOn with
 | ind n ih =>
  by_cases h:n<10
  ·rw[zFE h]
   intro he
   have he:UInt8.ofNat (48+n)=48:=by simpa using he
   have:=congrArg UInt8.toNat he
   rw[zX4 h] at this
   grind
  grind [Lib.decDigits]
def stepD (a:Nat)(c:UInt8): Nat:=a*10+(c.toNat-48)
def zTC (acc:Nat)(l:zA): Nat:=l.foldl stepD acc
theorem zMI (acc:Nat): zTC acc []=acc:=rfl
theorem zI8 (acc:Nat)(c:UInt8)(r:zA): zTC acc (c::r)=zTC (acc*10+(c.toNat-48)) r:=by grind [zTC,stepD]
theorem zNp:∀(l:zA) (acc:Nat) (c:UInt8),zTC acc (l++[c])=zTC acc l*10+(c.toNat-48)
 | [],acc,c=>by rw[QA,zI8,zMI,zMI]
 | x::l,acc,c=>by rw[Q5,zI8,zI8,zNp l]
theorem z3r (n:Nat): zTC 0 (Lib.decDigits n)=n:=by
 induction n using Nat.strongRecOn with
 | ind n ih =>
  grind [zFE,zMI,zX4,zPc,zNp]
theorem z1z:∀(l:zA) (acc:Nat),acc≤zTC acc l
 | [],acc=>Qt _
 | c::r,acc=>by
  rw[zI8]
  exact Qy (by omega) (z1z r _)
theorem zVX:∀(l:zA) (acc:Nat),(∀ c∈l,zJW c=true)->zTC acc l<(acc+1)*10 ^ l.length
 | [],acc,_=>by simp[zMI]
 | c::r,acc,h=>by
  have h1:=h c (by simp)
  unfold zJW at h1
  simp only[Qb,Ql] at h1
  rw[zI8]
  refine Uh (zVX r _ fun c hc=>h c (by simp[hc])) ?_
  rw[Qn,Nat.pow_succ,Nat.mul_comm (10 ^ r.length) 10,←Nat.mul_assoc]
  exact QS _ (by omega)
def zNH (w:zA): Bool:=!w.isEmpty&&w.all zJW&&(decide (w.length=1)||!(w.head?==some 48))
theorem z29 (n:Nat): zNH (Lib.decDigits n)=true:=by
 unfold zNH
 simp only[Qb,QI,Bool.not_eq_true',QK,Ql]
 grind [z5w,zZ3,zFE,z4T]
theorem z1b:∀(k:Nat) (w:zA),w.length=k->zNH w=true->Lib.decDigits (zTC 0 w)=w:=by
 intro k
 induction k with
 | zero=>grind [zNH]
 | succ k ih =>
  intro w hk h
  obtain⟨a,c,rfl⟩:∃ a c,w=a++[c]:=⟨w.dropLast,w.getLast (by grind),(List.dropLast_concat_getLast _).symm⟩
  unfold zNH at h
  simp only[Qb,QI,Bool.not_eq_true',QK,Ql] at h
  obtain⟨⟨_,h2⟩,h3⟩:=h
  have hc:=h2 c (by simp)
  have hc2:=hc
  unfold zJW at hc2
  simp only[Qb,Ql] at hc2
  rw[zNp]
  cases a with
  | nil =>
   rw[zMI,zFE (by omega)]
   simp_all
  | cons x r =>
   have hx0:x≠48:=by
    rcases h3 with h3 | h3
    ·simp at h3
    ·grind
   have hx:=h2 x (by simp)
   have hx2:=hx
   unfold zJW at hx2
   simp only[Qb,Ql] at hx2
   have hxn:x.toNat≠48:=fun e=>hx0 (UInt8.toNat_inj.1 (by rw[e];rfl))
   have hge:1≤zTC 0 (x::r):=by
    rw[zI8]
    exact Qy (by omega) (z1z r _)
   have hcan:zNH (x::r)=true:=by
    unfold zNH
    simp only[Qb,QI,Bool.not_eq_true',QK,Ql]
    exact⟨⟨rfl,fun c hc=>h2 c (by grind)⟩,.inr (by grind)⟩
   have hih:=ih (x::r) (by grind) hcan
   rw[zPc (by omega)]
   rw[show(zTC 0 (x::r)*10+(c.toNat-48)) / 10=zTC 0 (x::r) by omega,show(zTC 0 (x::r)*10+(c.toNat-48)) % 10=c.toNat-48 by omega,hih,z3t hc]
def zVe (w:zA): Option Int:=if zNH w=true∧w.length≤4 then some (zTC 0 w:Int) else none
theorem zUM:∀(l:zA) (acc:Nat),(∀ c∈l,zJW c=true)->acc*10 ^ l.length+10 ^ l.length≤1000000->Lib.parseUint10 acc l=.ok (zTC acc l)
 | [],acc,_,_=>rfl
 | c::r,acc,h,hb=>by
  have h1:=h c (by simp)
  unfold zJW at h1
  simp only[Qb,Ql] at h1
  have hp:1≤10 ^ r.length:=Nat.pow_pos (by omega)
  rw[Qn,Nat.pow_succ] at hb
  have hacc:acc≤1000000:=by
   have:acc*1≤acc*(10 ^ r.length*10):=Nat.mul_le_mul_left _ (by omega)
   omega
  rw[Lib.parseUint10,Qm h1,Qa (by omega),Qa (by omega),zI8]
  refine zUM r _ (fun c hc=>h c (by simp[hc])) ?_
  have e1:(acc*10+(c.toNat-48))*10 ^ r.length+10 ^ r.length=(acc*10+(c.toNat-48)+1)*10 ^ r.length:=by rw[Q0 _ 1,UM]
  have e2:acc*(10 ^ r.length*10)+10 ^ r.length*10=(acc*10+10)*10 ^ r.length:=by
   rw[Q0,Nat.mul_comm 10 (10 ^ r.length)]
   congr 1
   rw[Nat.mul_assoc,Nat.mul_comm 10]
  rw[e1]
  refine Qy (QS _ (show acc*10+(c.toNat-48)+1≤acc*10+10 by omega)) ?_
  grind
theorem z03{w:zA}(h:zNH w=true)(hl:w.length≤4): Lib.atoiAll w=.ok (zTC 0 w:Int):=by
 unfold zNH at h
 simp only[Qb,Bool.not_eq_true',QK] at h
 obtain⟨⟨h1,h2⟩,_⟩:=h
 cases w with
 | nil=>simp at h1
 | cons c r =>
  have hc:=h2 c (by simp)
  unfold zJW at hc
  simp only[Qb,Ql] at hc
  have hpow:10 ^ (c::r).length≤10 ^ 4:=Q3 (by omega) hl
  have hv:=zVX (c::r) 0 h2
  unfold Lib.atoiAll
  dsimp only
  rw[Qa (by omega)]
  unfold Lib.parseMag
  rw[Qa (by simp),zUM (c::r) 0 h2 (by omega)]
  grind
end
section
theorem z1n:∀ n:Nat,n<10->zKH ([IntKind.u8.wrap (zF (48+(n:Int)))]:List Int)=[UInt8.ofNat (48+n)]:=by decide
theorem zYg:∀(n:Nat),n≤100000->∀ fuel,n<fuel->zER fuel (n:Int)=some (Lib.decDigits n)∧(Lib.decDigits n).length≤n+1:=by
 intro n
 induction n using Nat.strongRecOn with
 | ind n ih =>
  intro hn fuel hf
  cases fuel with
  | zero=>omega
  | succ fuel =>
   rw[zER]
   unfold zJ8
   by_cases h:n<10
   ·have hd:decide ((n:Int)<10)=true:=by rw[Ql];omega
    simp only[hd,Qe]
    rw[z1n n h,zFE h]
    grind
   ·have hd:decide ((n:Int)<10)=false:=by rw[QN];omega
    have hq:z3i .i64 (n:Int) 10=some ((n / 10:Nat):Int):=by
     simp only[z3i]
     rw[Qa (by omega)]
     show some (zF _)=_
     have:(n:Int).tdiv 10=((n / 10:Nat):Int):=by rw[Int.tdiv_eq_ediv_of_nonneg (by omega)];omega
     rw[this,yL (by omega) (by omega)]
    have hr:z4q (n:Int) 10=some ((n % 10:Nat):Int):=by
     simp only[z4q]
     rw[Qa (by omega)]
     have:(n:Int).tmod 10=((n % 10:Nat):Int):=by rw[Int.tmod_eq_emod_of_nonneg (by omega)];omega
     rw[this]
    obtain⟨h1,h2⟩:=ih (n / 10) (by omega) (by omega) fuel (by omega)
    simp only[hd,zbf,Qh,hq,hr,zob,h1,z1n (n % 10) (by omega)]
    rw[qL (by simp;omega),zPc h]
    grind
theorem z15{n:Int}(h0:0≤n)(h1:n≤100000): zMj n=some (Lib.itoa n):=by
 obtain⟨k,rfl⟩:=Q1 h0
 unfold zMj
 refine zKO (k+1) fun m hm=>?_
 rw[(zYg k (by omega) m (by omega)).1]
 unfold Lib.itoa
 grind
theorem z1q:∀(k n:Nat),1≤k->n<10 ^ k->(Lib.decDigits n).length≤k:=by
 intro k
 induction k with
 | zero=>grind
 | succ k ih =>
  grind [zFE,zPc]
def uK:List zA->zA
 | []=>[]
 | [w]=>w
 | w::v::r=>w++32::uK (v::r)
theorem zUi{n:Int}(h0:-9223372036854775808≤n)(h1:n≤9223372036854775807): zEN n=some (Lib.itoa n):=by
 unfold zEN zDe zC1 z4E
 grind
end
section
def spl:zA->zA->List zA×zA
 | w,[]=>([],w)
 | w,x::r=>if x=32 then(w::(spl [] r).1,(spl [] r).2) else spl (w++[x]) r
def z6h (w:zA): List zA->List zA
 | []=>[w]
 | v::vs=>(w++v)::vs
theorem zLv (c:UInt8)(s:zA): xD c s≠[]:=fun e=>by grind [zMB]
theorem z2q (w:zA)(x:UInt8){l:List zA}(h:l≠[]): z6h w (z2S x l)=z6h (w++[x]) l:=by
 cases l with
 | nil=>grind
 | cons v vs=>simp[z6h,z2S]
theorem z1Z:∀(r w:zA),(spl w r).1++[(spl w r).2]=z6h w (xD 32 r)
 | [],w=>by simp[spl,xD,z6h]
 | x::r,w=>by
  rw[spl,zNQ]
  by_cases h:x=32
  ·rw[Qm h,Qm h]
   have:=z1Z r []
   have hne:=zLv 32 r
   cases hs:xD 32 r with
   | nil=>grind
   | cons v vs =>
    rw[hs] at this
    simp only[z6h,QA,QJ] at this ⊢
    grind
  ·rw[Qa h,Qa h,z1Z r (w++[x]),z2q w x (zLv 32 r)]
theorem z4d (s:zA): (spl [] s).1++[(spl [] s).2]=xD 32 s:=by
 rw[z1Z]
 have hne:=zLv 32 s
 cases hs:xD 32 s with
 | nil=>grind
 | cons v vs=>simp[z6h]
theorem zPF (s:zA)(hs:s.length≤5000): ∀(r w:zA) (i:Nat) (out:List zA),s.drop i=r->i≤s.length->w.length≤i->out.length≤i->
  zJ (zBa s) (out,w,(i:Int))=some (out++(spl w r).1,(spl w r).2)
 | [],w,i,out,hr,hi,hw,ho=>by
  have hil:i=s.length:=by have:=congrArg List.length hr;simp at this;omega
  have hd:decide ((i:Int)<len s)=false:=by rw[hil];exact zNS s
  have hstep:zBa s (out,w,(i:Int))=some (.inr (out,w)):=by
   unfold zBa
   simp only[hd,zbf,Qh]
  rw[yS,hstep]
  simp[spl]
 | x::r,w,i,out,hr,hi,hw,ho=>by
  have hx:s[i]?=some x:=by have:=congrArg (fun l=>l[0]?) hr;simpa using this
  have hlt:=uS hx
  have hr2:s.drop (i+1)=r:=by rw[←Us,hr];rfl
  have hsx:vR s (i:Int)=some ((x.toNat:Nat):Int):=by rw[zCn,hx];rfl
  by_cases h:x=32
  ·have hb:(((x.toNat:Nat):Int)==32)=true:=by rw[h];rfl
   have hstep:zBa s (out,w,(i:Int))=some (.inl (out++[w],[],((i+1:Nat):Int))):=by
    unfold zBa
    simp only[vY hx,Qe,hsx,zob,hb]
    rw[yC (by simp;omega),zob,vO hx (by omega)]
   rw[yS,hstep]
   dsimp only
   rw[zPF s hs r [] (i+1) (out++[w]) hr2 (by omega) (by simp) (by simp;omega)]
   rw[spl,Qm h]
   simp
  ·have hb:(((x.toNat:Nat):Int)==32)=false:=by
    rw[Qr]
    intro e
    apply h
    apply UInt8.toNat_inj.1
    have h32:(32:UInt8).toNat=32:=rfl
    omega
   have hsub:sub s (i:Int) (zF ((i:Int)+1))=some [x]:=by
    rw[vO hx (by omega),zJw (by omega) (by omega) (by omega)]
    have:(s.take (i+1)).drop i=[x]:=by
     rw[zCp hx,Up (by grind),List.drop_eq_nil_of_le (by grind)]
     rfl
    simpa using this
   have hstep:zBa s (out,w,(i:Int))=some (.inl (out,w++[x],((i+1:Nat):Int))):=by
    unfold zBa
    simp only[vY hx,Qe,hsx,zob,hb,zbf,Qh,hsub]
    rw[qL (by simp;omega),zob,vO hx (by omega)]
   rw[yS,hstep]
   dsimp only
   rw[zPF s hs r (w++[x]) (i+1) out hr2 (by omega) (by simp;omega) (by omega)]
   rw[spl,Qa h]
theorem z5S{s:zA}(hs:s.length≤5000): zKJ s=some (xD 32 s):=by
 unfold zKJ
 have h:=zPF s hs s [] 0 [] rfl (by omega) (by simp) (by simp)
 rw[show zJ (zBa s) ([],[],0)=_ from h,zob]
 grind [zMB,z4d,yC]
theorem zR0 (c:UInt8): ∀(s:zA),∀ w∈xD c s,w.length≤s.length
 | [],w,h=>by grind [xD]
 | x::r,w,h=>by
  have ih:=zR0 c r
  rw[zNQ] at h
  split at h
  ·grind
  ·have hne:=zLv c r
   cases hs:xD c r with
   | nil=>grind
   | cons v vs =>
    rw[hs] at h ih
    rcases QG.1 h with rfl | h
    ·grind
    grind
theorem z38{w:zA}(hw:w.length≤5000): zJU w=some ((zVe w).getD (-1)):=by
 unfold zJU
 cases w with
 | nil =>
  have:zVe []=none:=by unfold zVe zNH;simp
  grind
 | cons c r =>
  have d1:decide (len (c::r)<1)=false:=by simp[len];omega
  simp only[d1,zbf,Qh]
  by_cases hl:(c::r).length≤4
  ·have d2:decide (4<len (c::r))=false:=by simp[len] at hl ⊢;omega
   simp only[d2,zbf,Qh]
   have hs0:vR (c::r) 0=some ((c.toNat:Nat):Int):=rfl
   have hif:(if decide (1<len (c::r))=true then(vR (c::r) 0).bind fun x1=>some (x1==48) else some false)=some (decide (1<(c::r).length)&&c==48):=by
    have h48:(((c.toNat:Nat):Int)==48)=(c==48):=by
     rw[UJ,QH,QH]
     constructor
     ·intro h
      apply UInt8.toNat_inj.1
      grind
     ·simp_all
    by_cases h1:1<(c::r).length
    ·grind
    ·grind
   rw[hif,zob]
   by_cases hz:(decide (1<(c::r).length)&&c==48)=true
   ·rw[Qm hz]
    have hz':=hz
    simp only[Qb,Ql,QH] at hz'
    have:zVe (c::r)=none:=by
     unfold zVe zNH
     rw[Qa]
     intro h
     simp only[Qb,QI,Ql,List.head?_cons] at h
     rcases h.1.2 with h2 | h2
     ·omega
     ·grind
    grind
   ·rw[Qa hz]
    have hlp:=tK (B:=zC4 (c::r)) (fun i (v:Nat)=>((v:Int),(i:Int))) (c::r) (fun i v=>v=zTC 0 ((c::r).take i)∧∀ x∈(c::r).take i,zJW x=true)
     (fun o=>o=(if(c::r).all zJW=true then((zTC 0 (c::r):Nat):Int) else -1)) ?_ ?_ 0 (by simp[zMI])
    ·obtain⟨o,h1,rfl⟩:=hlp
     rw[show zJ (zC4 (c::r)) (0,0)=_ from h1]
     congr 1
     unfold zVe
     have hcan:zNH (c::r)=(c::r).all zJW:=by
      unfold zNH
      have h2:(decide ((c::r).length=1)||!((c::r).head?==some 48))=true:=by
       rw[QI,Ql]
       by_cases h3:(c::r).length=1
       ·grind
       ·grind
      rw[h2]
      simp
     grind
    ·rintro i x v hx ⟨rfl,hI⟩
     have hi:=uS hx
     have hsx:vR (c::r) (i:Int)=some ((x.toNat:Nat):Int):=by rw[zCn,hx];rfl
     have hv:=zVX ((c::r).take i) 0 hI
     have hpow:10 ^ ((c::r).take i).length≤10 ^ 4:=Q3 (by omega) (by grind)
     by_cases hd:zJW x=true
     ·have hd2:=hd
      unfold zJW at hd2
      simp only[Qb,Ql] at hd2
      refine .inl ⟨zTC 0 ((c::r).take (i+1)),?_,rfl,fun y hy=>?_⟩
      ·have e1:decide (((x.toNat:Nat):Int)<48)=false:=by rw[QN];omega
       have e2:decide ((57:Int)<((x.toNat:Nat):Int))=false:=by rw[QN];omega
       have hwr:IntKind.u8.wrap (((x.toNat:Nat):Int)-48)=((x.toNat-48:Nat):Int):=by
        simp only[IntKind.wrap,IntKind.signed,IntKind.bits]
        simp;omega
       unfold zC4
       simp only[vY hx,Qe,hsx,zob,e1,zbf,Qh,e2,vO hx (show(c::r).length<4294967296 by omega)]
       rw[hwr,yL (x:=((zTC 0 ((c::r).take i):Nat):Int)*10) (by omega) (by omega),z6Z _ (by omega),yL (by omega) (by omega)]
       rw[zCp hx,zNp]
       grind
      ·rw[zCp hx,Qk,Qf] at hy
       grind
     ·refine .inr ⟨-1,?_,?_⟩
      ·have hb:(if decide (((x.toNat:Nat):Int)<48)=true then some true else(vR (c::r) (i:Int)).bind fun x3=>some (decide (57<x3)))=some true:=by
        by_cases h48:x.toNat<48
        ·grind
        ·have:¬ decide (((x.toNat:Nat):Int)<48)=true:=by rw[Ql];omega
         rw[Qa this,hsx,zob]
         congr 1
         rw[Ql]
         unfold zJW at hd
         grind
       unfold zC4
       grind
      grind
    ·rintro v ⟨rfl,hI⟩
     rw[Q7] at hI ⊢
     refine⟨_,?_,rfl⟩
     rw[Qm (QK.2 hI)]
     unfold zC4
     grind
  ·have d2:decide (4<len (c::r))=true:=by simp[len] at hl ⊢;omega
   have:zVe (c::r)=none:=by
    unfold zVe
    rw[Qa fun h=>hl h.2]
   grind
theorem z78{l:zA}{v:Int}(h:Lib.atoiAll l=.ok v): -9223372036854775808≤v∧v≤9223372036854775807:=by
 unfold Lib.atoiAll at h
 grind
end
section
def Wd (w:zA): Prop:=∀ c∈w,c≠32∧c≠10
theorem Wd.itoa{n:Int}(h:0≤n): Wd (Lib.itoa n):=fun c hc=>by
 unfold Lib.itoa at hc
 rw[Qa (by omega)] at hc
 have h1:=zZ3 _ c hc
 unfold zJW at h1
 simp only[Qb,Ql] at h1
 refine⟨?_,?_⟩ <;> rintro rfl
 ·grind
 grind
theorem zPO (c:UInt8): ∀(a r:zA),c∉a->wY c (a++c::r)=(a,r,true)
 | [],r,_=>by simp[wY]
 | x::a,r,h=>by
  have h1:x≠c:=fun e=>h (by simp[e])
  have h2:c∉a:=fun e=>h (by simp[e])
  rw[Q5,wY,Qa h1,zPO c a r h2]
theorem z28 (c:UInt8): ∀(a:zA),c∉a->(wY c a).2.2=false
 | [],_=>rfl
 | x::a,h=>by
  have h1:x≠c:=fun e=>h (by simp[e])
  have h2:c∉a:=fun e=>h (by simp[e])
  rw[wY,Qa h1]
  exact z28 c a h2
theorem zYv:∀ ws:List zA,ws≠[]->(∀ w∈ws,Wd w)->xD 32 (uK ws)=ws
 | [],h,_=>absurd rfl h
 | [w],_,hw=>by
  have:(32:UInt8)∉w:=fun e=>(hw w (by simp) 32 e).1 rfl
  rw[uK,zJg,Qa (by rw[z28 32 w this];simp)]
 | w::v::r,_,hw=>by
  have:(32:UInt8)∉w:=fun e=>(hw w (by simp) 32 e).1 rfl
  rw[uK,zJg,zPO 32 w _ this,Qm rfl,zYv (v::r) (by simp) fun u hu=>hw u (by grind)]
end
section
def xE:zA->Nat
 | []=>0
 | c::r=>if c=32 then xE r+1 else 0
theorem zZB:∀ R:zA,xE R≤R.length
 | []=>Qt _
 | c::r=>by
  unfold xE
  split
  ·have:=zZB r;simp;omega
  ·simp
theorem zZ5:∀ R:zA,xE (R.drop (xE R))=0
 | []=>rfl
 | c::r=>by
  by_cases hc:c=32
  ·have:xE (c::r)=xE r+1:=by rw[xE,Qm hc]
   rw[this,List.drop_succ_cons]
   exact zZ5 r
  ·have:xE (c::r)=0:=by rw[xE,Qa hc]
   grind
def uJ:List zA:=[[60,45,62],[45,62],[126],[38],[124],[40],[41]]
inductive Tk
 | fin
 | nm (s:zA)
 | bit (s:zA)
 | sg (s:zA)
 | bad (s:zA)
def z6p (R:zA): Tk:=match uJ.find? fun s=>decide (s <+: R) with
 | some s=>.sg s
 | none=>.bad []
def zR5 (R:zA): Tk :=
 if R=[] then .fin
 else if R.takeWhile wB≠[] then
  if R.takeWhile wB=[48]∨R.takeWhile wB=[49] then .bit (R.takeWhile wB) else if vName (R.takeWhile wB)=true then .nm (R.takeWhile wB) else .bad (R.takeWhile wB)
 else z6p R
theorem z1s{R:zA}(h:R≠[]): zR5 R=if R.takeWhile wB≠[] then if R.takeWhile wB=[48]∨R.takeWhile wB=[49] then .bit (R.takeWhile wB) else if vName (R.takeWhile wB)=true then .nm (R.takeWhile wB) else .bad (R.takeWhile wB) else z6p R:=by
 unfold zR5
 grind
def Tk.kind:Tk->zA
 | .fin=>[]
 | .nm _=>[110,97,109,101]
 | .bit s=>s
 | .sg s=>s
 | .bad _=>[63]
def Tk.text:Tk->zA
 | .fin=>[]
 | .nm s=>s
 | .bit s=>s
 | .sg s=>s
 | .bad s=>s
def Tk.word:Tk->zA
 | .fin=>[]
 | .nm s=>s
 | .bit s=>s
 | .sg s=>s
 | .bad _=>[63]
theorem zZC (b:UInt8): zHJ (b.toNat:Int)=some (wB b):=by grind [zHJ,wB,uM,loB]
section
variable {S:zA}
theorem zX9 (hl:S.length≤5000){B:Int->Option (Int⊕Int)}(hB:∀ s2:Int,B s2=((if decide (s2<(len S)) then(vR S s2).bind fun x1=>some (x1==32) else some false:Option Bool).bind fun s3=>if s3 then some (.inl (zF (s2+1))) else some (.inr s2))):
  ∀(R:zA) (i:Nat),S.drop i=R->i≤S.length->zJ B (i:Int)=some ((i+xE R:Nat):Int)
 | [],i,h,hi=>by
  have hn:=zGr h hi
  simp at hn
  refine vM ?_
  rw[hB]
  have:decide ((i:Int)<len S)=false:=QF (by grind)
  simp only[this,zbf,Qh,zob]
  rfl
 | c::r,i,h,hi=>by
  have hn:=zGr h hi
  simp at hn
  have:decide ((i:Int)<len S)=true:=Qs (by grind)
  have hx:S[i]?=some c:=by have:=zLO (j:=0) h;simpa using this
  by_cases hc:c=32
  ·subst hc
   have hd:S.drop (i+1)=r:=by
    have:=congrArg List.tail h
    rw[U4] at this
    simpa using this
   refine(uE (t:=((i+1:Nat):Int)) ?_).trans ((zX9 hl hB r (i+1) hd (by omega)).trans ?_)
   ·rw[hB]
    simp only[this,Qe,zCn,hx,QW,zob]
    rw[wI i (by omega)]
    rfl
   ·rw[xE,Qm rfl]
    grind
  ·refine vM ?_
   rw[hB]
   have e32:((c.toNat:Int)==32)=false:=by
    simp only[Qr]
    intro e
    exact hc (UInt8.toNat_inj.1 (by grind))
   simp only[this,Qe,zCn,hx,QW,zob,e32,zbf,Qh]
   rw[xE,Qa hc]
   rfl
end
theorem z2i{R:zA}(hl:R.length≤5000): ∀(n i:Nat),n+i=R.length->zJ (zBJ R) (i:Int)=some ((i+((R.drop i).takeWhile wB).length:Nat):Int)
 | 0,i,h=>by
  refine vM ?_
  unfold zBJ
  simp_all
 | n+1,i,h=>by
  have hi:i<R.length:=by omega
  have hx:R[i]?=some R[i]:=Qi hi
  have hd:R.drop i=R[i]::R.drop (i+1):=Qu hi
  have:decide ((i:Int)<len R)=true:=Qs (by grind)
  cases hb:wB R[i] with
  | true =>
   refine(uE (t:=((i+1:Nat):Int)) ?_).trans ((z2i hl n (i+1) (by omega)).trans ?_)
   ·unfold zBJ
    simp only[this,Qe,zCn,hx,QW,zob,zZC,hb]
    rw[wI i (by omega)]
   grind [List.takeWhile_cons_of_pos]
  | false =>
   refine vM ?_
   unfold zBJ
   simp only[this,Qe,zCn,hx,QW,zob,zZC,hb,zbf,Qh]
   grind [List.takeWhile_cons_of_neg]
theorem zRF{s R:zA}: s <+: R↔(s.length≤R.length∧R.take s.length=s):=by
 rw[UZ]
 grind
theorem zZ2{R:zA}(j:Int)(hl:R.length≤5000): ∀(n i:Nat),n+i=7->zJ (zBe R j) (i:Int)=some (match (uJ.drop i).find? fun s=>decide (s <+: R) with | some s=>.inr ((s,s,j),j) | none=>.inl ())
 | 0,i,h=>by
  have:i=7:=by omega
  subst this
  refine vM ?_
  rfl
 | n+1,i,h=>by
  have hi:i<uJ.length:=by show i<7;omega
  have hx:uJ[i]?=some uJ[i]:=Qi hi
  have hd:uJ.drop i=uJ[i]::uJ.drop (i+1):=Qu hi
  have hlt:decide ((i:Int)<len ([[60,45,62],[45,62],[126],[38],[124],[40],[41]]:List zA))=true:=Qs (by show(i:Int)<7;omega)
  have hix:zD ([[60,45,62],[45,62],[126],[38],[124],[40],[41]]:List zA) (i:Int)=some uJ[i]:=wV hx
  have hlen:uJ[i].length≤3:=by
   have:∀ x∈uJ,x.length≤3:=by decide
   exact this _ (List.getElem_mem hi)
  by_cases hp:uJ[i] <+: R
  ·obtain⟨p1,p2⟩:=zRF.1 hp
   refine vM ?_
   unfold zBe
   have e1:decide (len uJ[i]≤len R)=true:=Qs (by grind)
   have e2:sub R 0 (len uJ[i])=some uJ[i]:=by
    rw[zJw (by omega) (by simp[len]) (by grind)]
    simp[len,p2]
   grind
  ·refine(uE (t:=((i+1:Nat):Int)) ?_).trans ((zZ2 j hl n (i+1) (by omega)).trans ?_)
   ·unfold zBe
    simp only[hlt,Qe,hix,zob]
    by_cases hle:uJ[i].length≤R.length
    ·have e1:decide (len uJ[i]≤len R)=true:=Qs (by grind)
     have e2:sub R 0 (len uJ[i])=some (R.take uJ[i].length):=by
      rw[zJw (by omega) (by simp[len]) (by grind)]
      simp[len]
     have e3:(R.take uJ[i].length==uJ[i])=false:=by
      rw[Qr]
      exact fun e=>hp (zRF.2 ⟨hle,e⟩)
     simp only[e1,Qe,e2,zob,e3,zbf,Qh]
     rw[wI i (by omega)]
    ·have e1:decide (len uJ[i]≤len R)=false:=QF (by grind)
     simp only[e1,zbf,Qh,zob]
     rw[wI i (by omega)]
   grind
section
variable {S:zA}{i:Nat}(hl:S.length≤5000)(hi:i≤S.length)
include hl hi
theorem zNF (bad:Int)(big:Bool): zAO (S,(i:Int),bad,big) =
  some ((((zR5 (S.drop (i+xE (S.drop i)))).kind,(zR5 (S.drop (i+xE (S.drop i)))).text,((i+xE (S.drop i):Nat):Int)):zAr),((i+xE (S.drop i):Nat):Int)):=by
 have h1:zJ (zGR (S,(i:Int),bad,big)) (i:Int)=some ((i+xE (S.drop i):Nat):Int):=zX9 hl (fun _=>rfl) _ i rfl hi
 have hj:i+xE (S.drop i)≤S.length:=by
  have:=zZB (S.drop i)
  rw[QO] at this
  omega
 unfold zAO
 dsimp only
 rw[h1,zob]
 generalize i+xE (S.drop i)=j at hj
 have h2:sub S (j:Int) (len S)=some (S.drop j):=by
  rw[zJw (by omega) (by grind) (by simp[len])]
  simp[len]
 rw[h2,zob]
 have hRl:(S.drop j).length≤5000:=by rw[QO];omega
 by_cases hR:S.drop j=[]
 ·have hjl:j=S.length:=by
   have:=congrArg List.length hR
   rw[QO] at this
   simp at this
   omega
  have e1:(S.drop j==[])=true:=by simpa using hR
  simp only[e1,Qe]
  have ht:zR5 (S.drop j)=.fin:=by unfold zR5;rw[Qm hR]
  rw[ht]
  show some ((([],[],len S):zAr),(j:Int))=some ((([],[],(j:Int)):zAr),(j:Int))
  grind
 ·have e1:(S.drop j==[])=false:=by simpa using hR
  simp only[e1,zbf,Qh]
  generalize S.drop j=R at hR hRl
  have h3:=z2i hRl R.length 0 (by omega)
  rw[Ug,Ud] at h3
  have h3':zJ (zBJ R) 0=some ((R.takeWhile wB).length:Int):=h3
  have hw:=(List.takeWhile_prefix (l:=R) wB)
  have hwl:=hw.length_le
  have h4:sub R 0 ((R.takeWhile wB).length:Int)=some (R.takeWhile wB):=by
   rw[zJw (by omega) (by omega) (by omega)]
   simp only[Qw,Int.toNat_zero,Ug]
   exact congrArg some (UZ.1 hw).symm
  rw[h3',zob,h4,zob]
  have ht:=z1s hR
  by_cases hw0:R.takeWhile wB=[]
  ·rw[ht,Qa (by simp[hw0]),hw0]
   have ev:vName []=false:=rfl
   have e5:decide ((0:Int)<(([]:zA).length:Int))=false:=by decide
   simp only[zbf,Qh,zOp,zob,ev,e5]
   have hs:=zZ2 (R:=R) (j:Int) hRl 7 0 rfl
   have hs':zJ (zBe R (j:Int)) 0=_:=hs
   rw[hs',Ug]
   unfold z6p
   cases uJ.find? fun s=>decide (s <+: R) with
   | none=>rfl
   | some s=>rfl
  ·rw[ht,Qm hw0]
   have hpos:0<(R.takeWhile wB).length:=QL.2 hw0
   by_cases hb:R.takeWhile wB=[48]∨R.takeWhile wB=[49]
   ·rw[Qm hb]
    have:((R.takeWhile wB==[48])||(R.takeWhile wB==[49]))=true:=by simpa using hb
    simp only[this,Qe]
    rfl
   ·rw[Qa hb]
    have:((R.takeWhile wB==[48])||(R.takeWhile wB==[49]))=false:=by
     rw[QT,Qr,Qr]
     exact⟨fun e=>hb (.inl e),fun e=>hb (.inr e)⟩
    simp only[this,zbf,Qh,zOp,zob]
    cases hv:vName (R.takeWhile wB) with
    | true =>
     simp only[Qe]
     rfl
    | false =>
     have e5:decide ((0:Int)<((R.takeWhile wB).length:Int))=true:=Qs (by omega)
     simp only[zbf,Qh,e5,Qe]
     rfl
end
end
section
def zSy:List zA:=[[126],[38],[124],[45,62],[60,45,62],[40],[41]]
theorem z2f (R:zA): (zSy.find? fun s=>decide (s <+: R))=uJ.find? fun s=>decide (s <+: R):=by
 cases R with
 | nil=>rfl
 | cons c r =>
  simp only[uJ,zSy,List.find?_cons,List.find?_nil,List.cons_prefix_cons]
  by_cases h1:c=60
  ·subst h1;simp
  by_cases h2:c=45
  ·subst h2;simp
  by_cases h3:c=126
  ·grind
  by_cases h4:c=38
  ·grind
  by_cases h5:c=124
  ·grind
  grind
theorem zZK{S:zA}{bad k:Int}{j:Nat}(hl:S.length≤5000)(hj:j≤S.length): ∀(n i:Nat),n+i=7->zJ (zA8 (S,k,bad) (j:Int)) (i:Int)=some (match (zSy.drop i).find? fun s=>decide (s <+: S.drop j) with | some s=>(s,(j:Int)) | none=>([63],(j:Int)))
 | 0,i,h=>by
  have:i=7:=by omega
  subst this
  refine vM ?_
  rfl
 | n+1,i,h=>by
  have hi:i<zSy.length:=by show i<7;omega
  have hx:zSy[i]?=some zSy[i]:=Qi hi
  have hd:zSy.drop i=zSy[i]::zSy.drop (i+1):=Qu hi
  have hlt:decide ((i:Int)<len ([[126],[38],[124],[45,62],[60,45,62],[40],[41]]:List zA))=true:=Qs (by show(i:Int)<7;omega)
  have hix:zD ([[126],[38],[124],[45,62],[60,45,62],[40],[41]]:List zA) (i:Int)=some zSy[i]:=wV hx
  have hlen:zSy[i].length≤3:=by
   have:∀ x∈zSy,x.length≤3:=by decide
   exact this _ (List.getElem_mem hi)
  have hRl:(S.drop j).length=S.length-j:=QO
  have hw1:zF (len S-(j:Int))=((S.length-j:Nat):Int):=by rw[yL (by grind) (by grind)];simp only[len];omega
  have hw2:zF ((j:Int)+len zSy[i])=((j+zSy[i].length:Nat):Int):=by rw[yL (by grind) (by grind)];simp only[len];omega
  have hsub:zSy[i].length≤S.length-j->sub S (j:Int) ((j+zSy[i].length:Nat):Int)=some ((S.drop j).take zSy[i].length):=fun hle=>by
   rw[zJw (by omega) (by omega) (by omega),Qw,Qw,Uf,QZ]
  by_cases hp:zSy[i] <+: S.drop j
  ·obtain⟨p1,p2⟩:=zRF.1 hp
   refine vM ?_
   unfold zA8
   grind
  ·refine(uE (t:=((i+1:Nat):Int)) ?_).trans ((zZK hl hj n (i+1) (by omega)).trans ?_)
   ·unfold zA8
    simp only[hlt,Qe,hix,zob,hw1,hw2]
    by_cases hle:zSy[i].length≤S.length-j
    ·have e1:decide (len zSy[i]≤((S.length-j:Nat):Int))=true:=Qs (by grind)
     have e3:((S.drop j).take zSy[i].length==zSy[i])=false:=by
      rw[Qr]
      exact fun e=>hp (zRF.2 ⟨by omega,e⟩)
     simp only[e1,Qe,hsub hle,zob,e3,zbf,Qh]
     rw[wI i (by omega)]
    ·have e1:decide (len zSy[i]≤((S.length-j:Nat):Int))=false:=QF (by grind)
     simp only[e1,zbf,Qh,zob]
     rw[wI i (by omega)]
   grind
section
variable {S:zA}{i:Nat}(hl:S.length≤5000)(hi:i≤S.length)
include hl hi
theorem skj:i+xE (S.drop i)≤S.length:=by
 have _:=hl
 have:=zZB (S.drop i)
 rw[QO] at this
 omega
theorem zO2 (bad:Int): zAF (S,(i:Int),bad)=some ((zR5 (S.drop (i+xE (S.drop i)))).word,((i+xE (S.drop i):Nat):Int)):=by
 have h1:zJ (zAf (S,(i:Int),bad)) (i:Int)=some ((i+xE (S.drop i):Nat):Int):=zX9 hl (fun _=>rfl) _ i rfl hi
 have hj:=skj hl hi
 unfold zAF
 dsimp only
 rw[h1,zob]
 generalize i+xE (S.drop i)=j at hj
 have hRl:(S.drop j).length=S.length-j:=QO
 by_cases hR:S.drop j=[]
 ·have hjl:j=S.length:=by
   have:=congrArg List.length hR
   rw[QO] at this
   simp at this
   omega
  have e1:((j:Int)==len S)=true:=by rw[QH];simp only[len];omega
  simp only[e1,Qe]
  have ht:zR5 (S.drop j)=.fin:=by unfold zR5;rw[Qm hR]
  rw[ht]
  rfl
 ·have hlt:j<S.length:=by
   rcases Nat.lt_or_ge j S.length with h | h
   ·exact h
   ·grind
  have e1:((j:Int)==len S)=false:=by rw[Qr];simp only[len];omega
  simp only[e1,zbf,Qh]
  have hsp:S.drop j=(S.drop j).takeWhile wB++(S.drop j).dropWhile wB:=List.takeWhile_append_dropWhile.symm
  have h3:=z4s (bad:=bad) hl ((S.drop j).takeWhile wB) ((S.drop j).dropWhile wB) j hsp hj (fun c hc=>List.all_takeWhile |> fun h=>by
   have:=QK.1 h c hc
   grind) (fun c r e=>by
   grind [List.head?_dropWhile_not]) (i:Int)
  rw[h3,zob]
  have hw:=(List.takeWhile_prefix (l:=S.drop j) wB)
  have hwl:=hw.length_le
  have hsub:sub S (j:Int) ((j+((S.drop j).takeWhile wB).length:Nat):Int)=some ((S.drop j).takeWhile wB):=by
   rw[zJw (by omega) (by omega) (by omega),Qw,Qw,Uf,QZ]
   exact congrArg some (UZ.1 hw).symm
  have hs:=zZK (k:=(i:Int)) (bad:=bad) hl hj 7 0 rfl
  rw[Ug,z2f] at hs
  have hs':zJ (zA8 (S,(i:Int),bad) (j:Int)) 0=_:=hs
  rw[hs',hsub]
  generalize S.drop j=R at hR hRl hw hwl
  have ht:=z1s hR
  rw[ht]
  by_cases hw0:R.takeWhile wB=[]
  ·rw[hw0]
   have e5:¬ decide ((j:Int)<((j+([]:List UInt8).length:Nat):Int))=true:=by simp
   rw[Qa e5,Qa (show ¬ (([]:List UInt8)≠[]) by simp)]
   unfold z6p
   cases uJ.find? fun s=>decide (s <+: R) with
   | none=>rfl
   | some s=>rfl
  ·rw[Qm hw0]
   have hpos:0<(R.takeWhile wB).length:=QL.2 hw0
   have e5:decide ((j:Int)<((j+(R.takeWhile wB).length:Nat):Int))=true:=Qs (by omega)
   simp only[e5,Qe,zob,zDf]
   by_cases hb:R.takeWhile wB=[48]∨R.takeWhile wB=[49]
   ·rw[Qm hb]
    rcases hb with hb | hb <;> rw[hb] <;> rfl
   ·rw[Qa hb]
    have e6:(R.takeWhile wB==[48])=false:=by rw[Qr];exact fun e=>hb (.inl e)
    have e7:(R.takeWhile wB==[49])=false:=by rw[Qr];exact fun e=>hb (.inr e)
    simp only[e6,e7,zbf,Qh,zob]
    cases vName (R.takeWhile wB) <;> rfl
theorem zKU (bad:Int)(big:Bool)(k:zA): xZ (S,(i:Int),bad,big) k =
  if(decide (0≤bad)||!((zR5 (S.drop (i+xE (S.drop i)))).kind==k))=true then some (false,((i+xE (S.drop i):Nat):Int)) else some (true,zF (((i+xE (S.drop i):Nat):Int)+len (zR5 (S.drop (i+xE (S.drop i)))).text)):=by
 unfold xZ
 rw[zNF hl hi,zob]
theorem zRG (bad:Int)(k:zA): xO (S,(i:Int),bad) k =
  if(!((zR5 (S.drop (i+xE (S.drop i)))).word==k)||decide (0≤bad))=true then some (false,(i:Int)) else some (true,zF (((i+xE (S.drop i):Nat):Int)+len k)):=by
 unfold xO
 rw[zO2 hl hi,zob]
end
theorem zZQ (R:zA): (∃ s∈uJ,z6p R=.sg s∧s <+: R)∨z6p R=.bad []:=by
 unfold z6p
 grind
theorem tk_pre (R:zA): (zR5 R).text <+: R:=by
 grind [zR5,zZQ,Tk.text]
theorem zV5 (R:zA): zR5 R=.fin∨(∃ s,zR5 R=.nm s∧vName s=true∧s≠[48]∧s≠[49])∨zR5 R=.bit [48]∨zR5 R=.bit [49]∨(∃ s∈uJ,zR5 R=.sg s)∨∃ s,zR5 R=.bad s:=by
 unfold zR5
 split
 ·grind
 ·split
  ·grind
  ·rcases zZQ R with⟨s,hs,h,_⟩ | h
   ·grind
   grind
end
section
def Ev (P:Nat->Prop): Prop:=∃ K,∀ k,K≤k->P k
theorem Ev.of{P:Nat->Prop}(h:∀ k,P k): Ev P:=⟨0,fun k _=>h k⟩
theorem Ev.suc{P:Nat->Prop}(h:Ev fun k=>P (k+1)): Ev P:=by
 obtain⟨K,hK⟩:=h
 refine⟨K+1,fun k hk=>?_⟩
 cases k with
 | zero=>omega
 | succ k=>grind
theorem Ev.imp{P R:Nat->Prop}(h:Ev P)(k:∀ n,P n->R n): Ev R:=by
 obtain⟨K,hK⟩:=h
 exact⟨K,fun n hn=>k n (hK n hn)⟩
theorem Ev.imp2{P Q R:Nat->Prop}(h:Ev P)(h2:Ev Q)(k:∀ n,P n->Q n->R n): Ev R:=by
 obtain⟨K,hK⟩:=h
 obtain⟨L,hL⟩:=h2
 exact⟨max K L,fun n hn=>k n (hK n (by omega)) (hL n (by omega))⟩
mutual
def vA:zC->Bool
 | .mk op _ l=>(if op=1∨op=2∨op=3 then l.length==0 else if op=4 then l.length==1 else if op=5∨op=6 then decide (2≤l.length)&&decide (l.length≤6) else if op=7∨op=8 then l.length==2 else false)&&zQz l
def zQz:List zC->Bool
 | []=>true
 | x::l=>vA x&&zQz l
end
mutual
def sml:zC->Bool
 | .mk _ _ l=>decide (l.length≤5000)&&zXY l
def zXY:List zC->Bool
 | []=>true
 | x::l=>sml x&&zXY l
end
mutual
def wQ:zC->Nat
 | .mk _ _ l=>yE l+1
def yE:List zC->Nat
 | []=>0
 | x::l=>wQ x+yE l
end
theorem zJC:∀ l:List zC,l.length≤yE l
 | []=>Qt _
 | .mk _ _ a::l=>by
  have:=zJC l
  rw[yE,wQ,Qn]
  omega
mutual
theorem zW3:∀ f,wQ f≤5001->sml f=true
 | .mk op s l,h=>by
  rw[wQ] at h
  have h1:=zJC l
  rw[sml,z1f l (by omega),Qs (by omega)]
  rfl
theorem z1f:∀ l,yE l≤5001->zXY l=true
 | [],_=>rfl
 | x::l,h=>by
  rw[yE] at h
  rw[zXY,zW3 x (by omega),z1f l (by omega)]
  rfl
end
def sk (S:zA)(i:Nat): Nat:=i+xE (S.drop i)
theorem zKa{S:zA}{i:Nat}(hi:i≤S.length): sk S i≤S.length:=by
 grind [zZB,sk]
theorem zWb (S:zA)(i:Nat): i≤sk S i:=Nat.le_add_right _ _
theorem zKu (S:zA)(i:Nat): sk S (sk S i)=sk S i:=by
 unfold sk
 rw[←Us,zZ5,QU]
def qY (S:zA)(i:Nat): Tk:=zR5 (S.drop (sk S i))
theorem zWo:∀ s∈uJ,s≠[]∧vName s=false∧s≠[48]∧s≠[49]∧s≠[63]∧s≠[110,97,109,101]∧s.length≤3∧0<s.length:=by decide
theorem zYr{S:zA}{i:Nat}{s:zA}(hs:s∈uJ): ((qY S i).kind==s)=((qY S i).word==s)∧(((qY S i).word==s)=true->(qY S i).text=s):=by
 obtain⟨s1,s2,s3,s4,s5,s6,_⟩:=zWo s hs
 unfold qY
 rcases zV5 (S.drop (sk S i)) with h | ⟨v,h,hv,_⟩ | h | h | ⟨t,ht,h⟩ | ⟨v,h⟩ <;> rw[h]
 ·exact⟨rfl,fun e=>absurd (QH.1 e).symm s1⟩
 ·have:v≠s:=by rintro rfl;rw[hv] at s2;cases s2
  refine⟨?_,fun e=>absurd (QH.1 e) this⟩
  show(([110,97,109,101]:zA)==s)=(v==s)
  grind
 ·exact⟨rfl,fun e=>absurd (QH.1 e).symm s3⟩
 ·exact⟨rfl,fun e=>absurd (QH.1 e).symm s4⟩
 ·exact⟨rfl,fun e=>QH.1 e⟩
 ·exact⟨rfl,fun e=>absurd (QH.1 e).symm s5⟩
theorem z3H{S:zA}{i:Nat}(hi:i≤S.length): sk S i+(qY S i).text.length≤S.length:=by
 grind [tk_pre,zKa,qY]
section
variable {S:zA}(hl:S.length≤5000)
include hl
theorem zOJ{s:zA}(hs:s∈uJ){i i':Nat}(hi:i≤S.length)(hi':i'≤S.length)(he:sk S i=sk S i'):
  (∃ q:Nat,(∀ g:Bool,xZ (S,(i:Int),-1,g) s=some (true,(q:Int)))∧xO (S,(i':Int),-1) s=some (true,(q:Int))∧sk S i<q∧q≤S.length) ∨
  ((∀ g:Bool,xZ (S,(i:Int),-1,g) s=some (false,(sk S i:Int)))∧xO (S,(i':Int),-1) s=some (false,(i':Int))):=by
 obtain⟨h1,h2⟩:=zYr (S:=S) (i:=i) hs
 obtain⟨_,_,_,_,_,_,s7,s8⟩:=zWo s hs
 have hti:=z3H (S:=S) hi
 have hj:=zKa hi
 have ht':qY S i'=qY S i:=by unfold qY;rw[he]
 have hP:∀ g:Bool,xZ (S,(i:Int),-1,g) s=if(decide ((0:Int)≤-1)||!((qY S i).kind==s))=true then some (false,(sk S i:Int)) else some (true,zF ((sk S i:Int)+len (qY S i).text)):=fun g=>zKU hl hi (-1) g s
 have hR:xO (S,(i':Int),-1) s=if(!((qY S i').word==s)||decide ((0:Int)≤-1))=true then some (false,(i':Int)) else some (true,zF ((sk S i':Int)+len s)):=zRG hl hi' (-1) s
 rw[ht',←he] at hR
 cases hw:(qY S i).word==s with
 | true =>
  have ht:=h2 hw
  rw[hw] at h1
  refine .inl ⟨sk S i+s.length,fun g=>?_,?_,by omega,by grind⟩
  ·rw[hP,h1,ht]
   rw[Qa (by decide),yL (by grind) (by grind)]
   grind
  ·rw[hR,hw,Qa (by decide),yL (by grind) (by grind)]
   grind
 | false =>
  grind
theorem zL4{i:Nat}(hi:i≤S.length){b:Int}(hb:0≤b)(g:Bool)(s:zA): xZ (S,(i:Int),b,g) s=some (false,(sk S i:Int)):=by
 have h:xZ (S,(i:Int),b,g) s=_:=zKU hl hi b g s
 rw[h,Qm (by grind)]
 rfl
theorem zRw{i:Nat}(hi:i≤S.length){b:Int}(hb:0≤b)(s:zA): xO (S,(i:Int),b) s=some (false,(i:Int)):=by
 have h:xO (S,(i:Int),b) s=_:=zRG hl hi b s
 grind
end
def ResF (S:zA)(i:Nat)(g:Bool)(rP:zC×Int×Int×Bool)(rR:zC×Int×Int): Prop :=
 (∃ f,∃ p p':Nat,rP=(f,(p:Int),-1,g||!vA f)∧rR=(f,(p':Int),-1)∧p≤S.length∧p'≤S.length∧sk S p=sk S p'∧sk S i<sk S p∧sk S i+wQ f≤sk S p) ∨
 (∃ f f',∃ p p':Nat,∃ b b':Int,∃ g',rP=(f,(p:Int),b,g')∧rR=(f',(p':Int),b')∧p≤S.length∧p'≤S.length∧0≤b∧0≤b')
def uH (S:zA)(n:Nat)(kP:Nat->qR->Option (zC×Int×Int×Bool))(kR:Nat->wK->Option (zC×Int×Int)): Prop :=
 ∀(i i':Nat) (g:Bool),i≤S.length->i'≤S.length->sk S i=sk S i'->S.length-sk S i≤n->
  ∃ rP rR,(Ev fun k=>kP k (S,(i:Int),-1,g)=some rP∧kR k (S,(i':Int),-1)=some rR)∧ResF S i g rP rR
noncomputable def LPg (S k:zA)(nx:qR->Option (zC×Int×Int×Bool))(s2:Int×Int×Bool×List zC): Option ((Int×Int×Bool×List zC)⊕(Int×Int×Bool×List zC)) :=
 (xZ (S,s2.1,s2.2.1,s2.2.2.1) k).bind fun r3 =>
 if r3.1 then
  (nx (S,r3.2,s2.2.1,s2.2.2.1)).bind fun r4 =>
  (qT s2.2.2.2 ([r4.1]:List zC)).bind fun x1 =>
  some (.inl (r4.2.1,r4.2.2.1,r4.2.2.2,x1))
 else
  some (.inr (r3.2,s2.2.1,s2.2.2.1,s2.2.2.2))
noncomputable def LRg (S k:zA)(nx:wK->Option (zC×Int×Int))(s2:List zC×Int×Int): Option ((List zC×Int×Int)⊕(List zC×Int×Int)) :=
 (xO (S,s2.2.1,s2.2.2) k).bind fun r2 =>
 if r2.1 then
  (nx (S,r2.2,s2.2.2)).bind fun r3 =>
  (qT s2.1 ([r3.1]:List zC)).bind fun x1 =>
  some (.inl (x1,r3.2.1,r3.2.2))
 else
  some (.inr (s2.1,r2.2,s2.2.2))
def ResFL (S:zA)(q:Nat)(g:Bool)(acc:List zC)(rP:Int×Int×Bool×List zC)(rR:List zC×Int×Int): Prop :=
 (∃ ts,∃ p p':Nat,rP=((p:Int),-1,g||!zQz ts,acc++ts)∧rR=(acc++ts,(p':Int),-1)∧p≤S.length∧p'≤S.length∧sk S p=sk S p'∧sk S q≤sk S p∧(acc++ts).length≤sk S p∧sk S q+yE ts+ts.length≤sk S p) ∨
 (∃ l l',∃ p p':Nat,∃ b b':Int,∃ g',rP=((p:Int),b,g',l)∧rR=(l',(p':Int),b')∧p≤S.length∧p'≤S.length∧0≤b∧0≤b'∧l'≠[]∧l.length≤6000)
section
variable {S:zA}(hl:S.length≤5000){s:zA}(hs:s∈uJ){kP:Nat->qR->Option (zC×Int×Int×Bool)}{kR:Nat->wK->Option (zC×Int×Int)}
include hl hs
theorem z5L:∀(n:Nat),(∀ m,m<n->uH S m kP kR)->∀(q q':Nat) (g:Bool) (acc:List zC),q≤S.length->q'≤S.length->sk S q=sk S q'->S.length-sk S q≤n->acc≠[]->acc.length≤sk S q->
  ∃ rP rR,(Ev fun k=>zJ (LPg S s (kP k)) ((q:Int),-1,g,acc)=some rP∧zJ (LRg S s (kR k)) (acc,(q':Int),-1)=some rR)∧ResFL S q g acc rP rR:=by
 intro n
 induction n using Nat.strongRecOn with
 | _ n ih =>
  intro hsim q q' g acc hq hq' he hn hne hal
  have hsq:=zKa hq
  rcases zOJ hl hs hq hq' he with⟨p,tP,tR,hp1,hp2⟩ | ⟨tP,tR⟩
  ·
   have hle:=zWb S p
   have hsp:=zKa hp2
   obtain⟨rP,rR,hev,hres⟩:=hsim (S.length-sk S p) (by omega) p p g hp2 hp2 rfl (Qt _)
   rcases hres with⟨f,x,x',rfl,rfl,hx,hx',hxe,hlt,hsm⟩ | ⟨f,f',x,x',b,b',g',rfl,rfl,hx,hx',hb,hb'⟩
   ·have hsx:=zKa hx
    obtain⟨r2P,r2R,hev2,hres2⟩:=ih (S.length-sk S x) (by omega) (fun m hm=>hsim m (by omega)) x x' (g||!vA f) (acc++[f]) hx hx' hxe (Qt _) (by simp) (by simp;omega)
    refine⟨r2P,r2R,hev.imp2 hev2 fun k ⟨e1,e2⟩ ⟨e3,e4⟩=>⟨?_,?_⟩,?_⟩
    ·rw[←e3]
     refine uE ?_
     unfold LPg
     dsimp only
     rw[tP,zob]
     simp only[Qe,e1,zob]
     rw[yC (by simp;omega),zob]
    ·rw[←e4]
     refine uE ?_
     unfold LRg
     dsimp only
     rw[tR,zob]
     simp only[Qe,e2,zob]
     rw[yC (by simp;omega),zob]
    ·rcases hres2 with⟨ts,y,y',rfl,rfl,h1,h2,h3,h4,h5,h6⟩ | ⟨l,l',y,y',b,b',g',rfl,rfl,h1⟩
     ·refine .inl ⟨f::ts,y,y',?_,?_,h1,h2,h3,by omega,?_,by rw[yE,Qn];omega⟩
      ·grind [zQz]
      ·grind
      grind
     ·exact .inr ⟨l,l',y,y',b,b',g',rfl,rfl,h1⟩
   ·refine⟨((sk S x:Int),b,g',acc++[f]),(acc++[f'],(x':Int),b'),hev.imp fun k ⟨e1,e2⟩=>⟨?_,?_⟩,.inr ⟨_,_,sk S x,x',b,b',g',rfl,rfl,zKa hx,hx',hb,hb',by simp,by simp;omega⟩⟩
    ·refine(uE (t:=((x:Int),b,g',acc++[f])) ?_).trans (vM ?_)
     ·unfold LPg
      dsimp only
      rw[tP,zob]
      simp only[Qe,e1,zob]
      rw[yC (by simp;omega),zob]
     grind [LPg,zL4]
    ·refine(uE (t:=(acc++[f'],(x':Int),b')) ?_).trans (vM ?_)
     ·unfold LRg
      dsimp only
      rw[tR,zob]
      simp only[Qe,e2,zob]
      rw[yC (by simp;omega),zob]
     grind [LRg,zRw]
  ·refine⟨((sk S q:Int),-1,g,acc),(acc,(q':Int),-1),Ev.of fun k=>⟨vM ?_,vM ?_⟩,.inl ⟨[],sk S q,q',?_,by simp,zKa hq,hq',by rw[zKu];exact he,by rw[zKu];grind,by rw[zKu];grind,by simp[yE,zKu]⟩⟩
   ·grind [LPg]
   ·grind [LRg]
   ·simp[zQz]
end
end
section
variable {S:zA}(hl:S.length≤5000)
noncomputable def MPg (S k:zA)(op:Int)(nx:qR->Option (zC×Int×Int×Bool))(y0:qR): Option (zC×Int×Int×Bool) :=
 (nx y0).bind fun r1 =>
 (zAO (S,r1.2.1,r1.2.2.1,r1.2.2.2)).bind fun r2 =>
 if !(r2.1.1==k) then
  some (r1.1,r2.2,r1.2.2.1,r1.2.2.2)
 else
  (zJ (LPg S k nx) (r2.2,r1.2.2.1,r1.2.2.2,([r1.1]:List zC)):Option (Int×Int×Bool×(List zC))).bind fun s1 =>
  (
   if s1.2.2.1 then
    some true
   else
    some (decide (6<(len s1.2.2.2))):Option Bool).bind fun s3 =>
  some (fm (op,[],s1.2.2.2),s1.1,s1.2.1,s3)
noncomputable def MRg (S k:zA)(op:Int)(nx:wK->Option (zC×Int×Int))(y0:wK): Option (zC×Int×Int) :=
 (nx y0).bind fun r1 =>
 (zJ (LRg S k nx) (([r1.1]:List zC),r1.2.1,r1.2.2):Option ((List zC)×Int×Int)).bind fun s1 =>
 if(len s1.1)==1 then
  (zD s1.1 0).bind fun x2 =>
  some (x2,s1.2.1,s1.2.2)
 else
  some (fm (op,[],s1.1),s1.2.1,s1.2.2)
section
include hl
theorem z2t{s:zA}(hs:s∈uJ){op:Int}(hop:op=5∨op=6){kP:Nat->qR->Option (zC×Int×Int×Bool)}{kR:Nat->wK->Option (zC×Int×Int)}{n:Nat}(hsim:∀ m,m≤n->uH S m kP kR):
  uH S n (fun k=>MPg S s op (kP k)) (fun k=>MRg S s op (kR k)):=by
 intro i i' g hi hi' he hn
 obtain⟨rP,rR,hev,hres⟩:=hsim n (Qt _) i i' g hi hi' he hn
 rcases hres with⟨f,x,x',rfl,rfl,hx,hx',hxe,hlt,hsm⟩ | ⟨f,f',x,x',b,b',g',rfl,rfl,hx,hx',hb,hb'⟩
 ·have hsx:=zKa hx
  have hpk:∀ g2,zAO (S,(x:Int),-1,g2)=some ((((qY S x).kind,(qY S x).text,(sk S x:Int)):zAr),(sk S x:Int)):=fun g2=>zNF hl hx (-1) g2
  cases hk:(qY S x).kind==s with
  | false =>
   have hkw:=(zYr (S:=S) (i:=x) hs).1
   rw[hk] at hkw
   have ht':qY S x'=qY S x:=by unfold qY;rw[hxe]
   have hR:xO (S,(x':Int),-1) s=some (false,(x':Int)):=by
    have h:xO (S,(x':Int),-1) s=if(!((qY S x').word==s)||decide ((0:Int)≤-1))=true then some (false,(x':Int)) else some (true,zF ((sk S x':Int)+len s)):=zRG hl hx' (-1) s
    rw[h,ht',←hkw,Qm (by decide)]
   refine⟨(f,(sk S x:Int),-1,g||!vA f),(f,(x':Int),-1),hev.imp fun k ⟨e1,e2⟩=>⟨?_,?_⟩,.inl ⟨f,sk S x,x',rfl,rfl,hsx,hx',by rw[zKu];exact hxe,by rw[zKu];exact hlt,by rw[zKu];exact hsm⟩⟩
   ·grind [MPg]
   ·have hlp:zJ (LRg S s (kR k)) ([f],(x':Int),-1)=some ([f],(x':Int),-1):=by
     refine vM ?_
     unfold LRg
     dsimp only
     rw[hR,zob]
     rfl
    unfold MRg
    simp only[e2,zob,hlp]
    rfl
  | true =>
   obtain⟨r2P,r2R,hev2,hres2⟩:=z5L hl hs (S.length-sk S x) (fun m hm=>hsim m (by omega)) x x' (g||!vA f) [f] hx hx' hxe (Qt _) (by simp) (by simp;omega)
   have hloopP:∀(k:Nat) o,zJ (LPg S s (kP k)) ((x:Int),-1,g||!vA f,[f])=some o->zJ (LPg S s (kP k)) ((sk S x:Int),-1,g||!vA f,[f])=some o:=by
    intro k o ho
    have hb:LPg S s (kP k) ((sk S x:Int),-1,g||!vA f,[f])=LPg S s (kP k) ((x:Int),-1,g||!vA f,[f]):=by
     unfold LPg
     dsimp only
     have e1:xZ (S,(sk S x:Int),-1,g||!vA f) s=if(decide ((0:Int)≤-1)||!((qY S (sk S x)).kind==s))=true then some (false,(sk S (sk S x):Int)) else some (true,zF ((sk S (sk S x):Int)+len (qY S (sk S x)).text)):=zKU hl hsx (-1) _ s
     have e2:xZ (S,(x:Int),-1,g||!vA f) s=if(decide ((0:Int)≤-1)||!((qY S x).kind==s))=true then some (false,(sk S x:Int)) else some (true,zF ((sk S x:Int)+len (qY S x).text)):=zKU hl hx (-1) _ s
     have et:qY S (sk S x)=qY S x:=by unfold qY;rw[zKu]
     rw[e1,e2,et,zKu]
    rw[yS] at ho ⊢
    rw[hb]
    exact ho
   have htk:(∃ q:Nat,(∀ g:Bool,xZ (S,(x:Int),-1,g) s=some (true,(q:Int)))∧xO (S,(x':Int),-1) s=some (true,(q:Int))∧sk S x<q∧q≤S.length):=by
    rcases zOJ hl hs hx hx' hxe with h | ⟨h,_⟩
    ·exact h
    ·exfalso
     have e2:xZ (S,(x:Int),-1,g) s=if(decide ((0:Int)≤-1)||!((qY S x).kind==s))=true then some (false,(sk S x:Int)) else some (true,zF ((sk S x:Int)+len (qY S x).text)):=zKU hl hx (-1) _ s
     grind
   rcases hres2 with⟨ts,y,y',rfl,rfl,h1,h2,h3,h4,h5,h6⟩ | ⟨l,l',y,y',b,b',g',rfl,rfl,h1,h2,hb,hb',hne,hlen⟩
   ·
    have hts:ts≠[]:=by
     rintro rfl
     obtain⟨q,tP,tR,hq1,hq2⟩:=htk
     obtain⟨K,hK⟩:=hev2
     obtain⟨_,e4⟩:=hK K (Qt _)
     rw[yS] at e4
     unfold LRg at e4
     dsimp only at e4
     rw[tR,zob] at e4
     simp only[Qe] at e4
     cases hz:kR K (S,(q:Int),-1) with
     | none=>grind
     | some z =>
      rw[hz,zob,yC (by simp),zob] at e4
      have e5:zJ (LRg S s (kR K)) ([f]++[z.1],z.2.1,z.2.2)=some ([f]++[],(y':Int),-1):=e4
      have hgrow:∀(l:List zC) (a b:Int) (r:List zC×Int×Int),zJ (LRg S s (kR K)) (l,a,b)=some r->l.length≤r.1.length:=by
       intro l a b r hr
       obtain⟨m,hm⟩:=zHR hr
       clear hr
       induction m generalizing l a b with
       | zero=>simp[tY] at hm
       | succ m ihm =>
        rw[tY] at hm
        unfold LRg at hm
        dsimp only at hm
        cases ht:xO (S,a,b) s with
        | none=>grind
        | some t =>
         rw[ht,zob] at hm
         obtain⟨t1,t2⟩:=t
         cases t1 with
         | false =>
          grind
         | true =>
          simp only[Qe] at hm
          cases hz:kR K (S,t2,b) with
          | none=>grind
          | some z =>
           rw[hz,zob] at hm
           cases ha:qT l [z.1] with
           | none=>grind
           | some l2 =>
            rw[ha,zob] at hm
            have h2:=ihm l2 z.2.1 z.2.2 hm
            grind [qT]
      grind
    have hlen2:2≤([f]++ts).length:=by
     have:=QL.2 hts
     simp
     omega
    have hsy:=zKa h1
    have hsml:sk S i+wQ (fm (op,[],[f]++ts))≤sk S y:=by
     show sk S i+wQ (.mk op [] (f::ts))≤sk S y
     have:=QL.2 hts
     rw[wQ,yE]
     omega
    refine⟨(fm (op,[],[f]++ts),(y:Int),-1,g||!vA (fm (op,[],[f]++ts))),(fm (op,[],[f]++ts),(y':Int),-1),hev.imp2 hev2 fun k ⟨e1,e2⟩ ⟨e3,e4⟩=>⟨?_,?_⟩,.inl ⟨_,y,y',rfl,rfl,h1,h2,h3,by omega,hsml⟩⟩
    ·unfold MPg
     simp only[e1,zob,hpk,hk,Qx,zbf,Qh]
     rw[hloopP k _ e3,zob]
     have hkd:vA (fm (op,[],[f]++ts))=(decide (([f]++ts).length≤6)&&(vA f&&zQz ts)):=by
      show vA (.mk op [] ([f]++ts))=_
      rw[vA]
      have hL:zQz ([f]++ts)=(vA f&&zQz ts):=rfl
      rw[hL]
      rcases hop with rfl | rfl <;> rw[Qa (by decide),Qa (by decide),Qm (by decide),Qs hlen2,UK]
     grind
    ·unfold MRg
     grind
   ·refine⟨(fm (op,[],l),(y:Int),b,g'||decide ((6:Int)<len l)),((if l'.length=1 then l'.head hne else fm (op,[],l')),(y':Int),b'),hev.imp2 hev2 fun k ⟨e1,e2⟩ ⟨e3,e4⟩=>⟨?_,?_⟩,.inr ⟨_,_,y,y',b,b',_,rfl,rfl,h1,h2,hb,hb'⟩⟩
    ·unfold MPg
     grind
    ·unfold MRg
     simp only[e2,zob,e4]
     by_cases h1:l'.length=1
     ·have:(len l'==1)=true:=by rw[QH];simp only[len];omega
      simp only[this,Qe]
      cases l' with
      | nil=>grind
      | cons z zs =>
       rw[Qm h1]
       rfl
     grind
 ·
  have hpk:zAO (S,(x:Int),b,g')=some ((((qY S x).kind,(qY S x).text,(sk S x:Int)):zAr),(sk S x:Int)):=zNF hl hx b g'
  have hsx:=zKa hx
  have hlR:∀ k:Nat,zJ (LRg S s (kR k)) ([f'],(x':Int),b')=some ([f'],(x':Int),b'):=fun k=>by
   grind [vM,LRg,zRw]
  have hlP:∀ k:Nat,zJ (LPg S s (kP k)) ((sk S x:Int),b,g',[f])=some ((sk S x:Int),b,g',[f]):=fun k=>by
   grind [vM,LPg,zL4,zKu]
  cases hk:(qY S x).kind==s with
  | false =>
   refine⟨(f,(sk S x:Int),b,g'),(f',(x':Int),b'),hev.imp fun k ⟨e1,e2⟩=>⟨?_,?_⟩,.inr ⟨f,f',sk S x,x',b,b',g',rfl,rfl,hsx,hx',hb,hb'⟩⟩
   ·grind [MPg]
   ·unfold MRg
    simp only[e2,zob,hlR]
    rfl
  | true =>
   refine⟨(fm (op,[],[f]),(sk S x:Int),b,g'),(f',(x':Int),b'),hev.imp fun k ⟨e1,e2⟩=>⟨?_,?_⟩,.inr ⟨_,f',sk S x,x',b,b',g',rfl,rfl,hsx,hx',hb,hb'⟩⟩
   ·unfold MPg
    simp only[e1,zob,hpk,hk,Qx,zbf,Qh,hlP]
    cases g' <;> rfl
   ·unfold MRg
    simp only[e2,zob,hlR]
    rfl
end
end
section
variable {S:zA}(hl:S.length≤5000)
theorem uH.mono{S:zA}{n m:Nat}{kP kR}(h:uH S n kP kR)(hm:m≤n): uH S m kP kR:=fun i i' g a b c d=>h i i' g a b c (by omega)
theorem uH.suc{S:zA}{n:Nat}{kP kR}(h:uH S n (fun k=>kP (k+1)) (fun k=>kR (k+1))): uH S n kP kR:=fun i i' g a b c d=>by
 obtain⟨rP,rR,hev,hres⟩:=h i i' g a b c d
 grind [Ev.suc]
theorem uH.sucP{S:zA}{n:Nat}{kP kR}(h:uH S n (fun k=>kP (k+1)) kR): uH S n kP kR:=fun i i' g a b c d=>by
 obtain⟨rP,rR,hev,hres⟩:=h i i' g a b c d
 exact⟨rP,rR,Ev.imp2 (Ev.suc (P:=fun k=>kP k (S,(i:Int),-1,g)=some rP) (hev.imp fun _ e=>e.1)) (hev.imp fun _ e=>e.2) fun _ e1 e2=>⟨e1,e2⟩,hres⟩
section
include hl
theorem z3v{n:Nat}{kU kE a1 a2 a3 a4 a5:Nat->_}{kU' kE' b1 b2 b3:Nat->_}(hU:∀ m,m<n->uH S m kU kU')(hE:∀ m,m<n->uH S m kE kE'):
  uH S n (fun k=>zAW (a1 k) (kE k) (a2 k) (a3 k) (a4 k) (a5 k) (kU k)) (fun k=>zA6 (b1 k) (kE' k) (b2 k) (b3 k) (kU' k)):=by
 intro i i' g hi hi' he hn
 have hsi:=zKa hi
 have hpk:zAO (S,(i:Int),-1,g)=some ((((qY S i).kind,(qY S i).text,(sk S i:Int)):zAr),(sk S i:Int)):=zNF hl hi (-1) g
 have et:qY S (sk S i)=qY S i:=by unfold qY;rw[zKu]
 have hT:∀ k,xZ (S,(sk S i:Int),-1,g) k=if(!((qY S i).kind==k))=true then some (false,(sk S i:Int)) else some (true,zF ((sk S i:Int)+len (qY S i).text)):=fun k=>by
  have h:xZ (S,(sk S i:Int),-1,g) k=if(decide ((0:Int)≤-1)||!((qY S (sk S i)).kind==k))=true then some (false,(sk S (sk S i):Int)) else some (true,zF ((sk S (sk S i):Int)+len (qY S (sk S i)).text)):=zKU hl hsi (-1) g k
  rw[h,et,zKu]
  rfl
 have ht':qY S i'=qY S i:=by unfold qY;rw[he]
 have hR:∀ k,xO (S,(i':Int),-1) k=if(!((qY S i).word==k))=true then some (false,(i':Int)) else some (true,zF ((sk S i:Int)+len k)):=fun k=>by
  have h:xO (S,(i':Int),-1) k=if(!((qY S i').word==k)||decide ((0:Int)≤-1))=true then some (false,(i':Int)) else some (true,zF ((sk S i':Int)+len k)):=zRG hl hi' (-1) k
  grind
 have hTok:zAF (S,(i':Int),-1)=some ((qY S i).word,(sk S i:Int)):=by
  have h:zAF (S,(i':Int),-1)=some ((qY S i').word,(sk S i':Int)):=zO2 hl hi' (-1)
  rw[h,ht',←he]
 have hfP:zAa (S,(sk S i:Int),-1,g)=some (fm (0,[],[]),(sk S i:Int),(sk S i:Int)):=by
  unfold zAa
  have h:zAO (S,(sk S i:Int),-1,g)=some ((((qY S (sk S i)).kind,(qY S (sk S i)).text,(sk S (sk S i):Int)):zAr),(sk S (sk S i):Int)):=zNF hl hsi (-1) g
  dsimp only
  rw[h,et,zKu]
  rfl
 have hfR:zAs (S,(i':Int),-1)=some (fm (0,[],[]),(sk S i:Int)):=by
  unfold zAs
  dsimp only
  rw[hTok]
  rfl
 have hlen:sk S i+(qY S i).text.length≤S.length:=z3H hi
 have hw:∀ n:Nat,sk S i+n≤S.length->zF ((sk S i:Int)+(n:Int))=((sk S i+n:Nat):Int):=fun n h=>by rw[yL (by omega) (by omega)];omega
 have fault:(qY S i).kind≠[110,97,109,101]->(qY S i).kind≠[48]->(qY S i).kind≠[49]->(qY S i).kind≠[126]->(qY S i).kind≠[40]->(qY S i).word≠[126]->(qY S i).word≠[40]->((qY S i).word=[]∨∃ c r,(qY S i).word=c::r∧uM c=false)->
   ∃ rP rR,(Ev fun k=>zAW (a1 k) (kE k) (a2 k) (a3 k) (a4 k) (a5 k) (kU k) (S,(i:Int),-1,g)=some rP∧zA6 (b1 k) (kE' k) (b2 k) (b3 k) (kU' k) (S,(i':Int),-1)=some rR)∧ResF S i g rP rR:=by
  intro k1 k2 k3 k4 k5 w1 w2 w3
  refine⟨(fm (0,[],[]),(sk S i:Int),(sk S i:Int),g),(fm (0,[],[]),(i':Int),(sk S i:Int)),Ev.of fun k=>⟨?_,?_⟩,.inr ⟨_,_,sk S i,i',_,_,_,rfl,rfl,hsi,hi',by omega,by omega⟩⟩
  ·unfold zAW
   grind
  ·unfold zA6
   have e0:decide ((0:Int)≤-1)=false:=by decide
   simp only[hR,Qr.2 w1,Qr.2 w2,QM,Qe,zob,zbf,Qh,hTok]
   rcases w3 with w3 | ⟨c,r,w3,hc⟩
   ·grind
   ·rw[w3]
    have e1:((c::r)==([]:zA))=false:=rfl
    have e2:vR (c::r) 0=some (c.toNat:Int):=rfl
    simp only[e1,zbf,Qh,e2,zob,zPD,hc,QM,Qe,hfR]
 have hkk:qY S i=zR5 (S.drop (sk S i)):=rfl
 rcases zV5 (S.drop (sk S i)) with h | ⟨v,h,hv,hv0,hv1⟩ | h | h | ⟨s,hs,h⟩ | ⟨v,h⟩ <;> rw[←hkk] at h
 ·rw[h] at fault
  exact fault (by decide) (by decide) (by decide) (by decide) (by decide) (by decide) (by decide) (.inl rfl)
 ·
  have hvw:v≠[]∧(∃ c r,v=c::r∧uM c=true∧c≠126∧c≠40):=by
   have hwd:wdB v=true:=by unfold wdB;rw[hv];simp
   obtain⟨_,n0,c,r,e,hc,_,h1,h2⟩:=z0y hwd
   exact⟨n0,c,r,e,hc,h1,h2⟩
  obtain⟨n0,c,r,ev,hc,hc1,hc2⟩:=hvw
  have ht:(qY S i).text=v:=by rw[h];rfl
  have hk:(qY S i).kind=[110,97,109,101]:=by rw[h];rfl
  have hwd:(qY S i).word=v:=by rw[h];rfl
  rw[ht] at hlen
  have hpos:=QL.2 n0
  have hle:=zWb S (sk S i+v.length)
  refine⟨(fm (3,v,[]),((sk S i+v.length:Nat):Int),-1,g||!vA (fm (3,v,[]))),(fm (3,v,[]),((sk S i+v.length:Nat):Int),-1),Ev.of fun k=>⟨?_,?_⟩,.inl ⟨_,_,_,rfl,rfl,hlen,hlen,rfl,by omega,by show sk S i+1≤_;omega⟩⟩
  ·unfold zAW
   have e0:decide ((0:Int)≤-1)=false:=by decide
   simp only[hpk,zob,e0,zbf,Qh,hT,hk,QQ,Qx,Qe,ht]
   rw[show len v=(v.length:Int) from rfl,hw _ hlen,show vA (fm (3,v,[]))=true from rfl,Qx,Wb]
  ·unfold zA6
   have e0:decide ((0:Int)≤-1)=false:=by decide
   have e1:(v==[126])=false:=by rw[Qr,ev];intro e;exact hc1 (List.head_eq_of_cons_eq e)
   have e2:(v==[40])=false:=by rw[Qr,ev];intro e;exact hc2 (List.head_eq_of_cons_eq e)
   have e3:(v==[])=false:=by rw[Qr];exact n0
   have e4:vR v 0=some (c.toNat:Int):=by rw[ev];rfl
   simp only[hR,hwd,e1,e2,QM,Qe,zob,zbf,Qh,hTok,e3,e4,zPD,hc,Qx,e0,Qr.2 hv0,Qr.2 hv1]
   grind
 ·
  have ht:(qY S i).text=[48]:=by rw[h];rfl
  have hk:(qY S i).kind=[48]:=by rw[h];rfl
  have hwd:(qY S i).word=[48]:=by rw[h];rfl
  rw[ht] at hlen
  have hle:=zWb S (sk S i+1)
  refine⟨(fm (2,[],[]),((sk S i+1:Nat):Int),-1,g||!vA (fm (2,[],[]))),(fm (2,[],[]),((sk S i+1:Nat):Int),-1),Ev.of fun k=>⟨?_,?_⟩,.inl ⟨_,_,_,rfl,rfl,hlen,hlen,rfl,by omega,by show sk S i+1≤_;omega⟩⟩
  ·unfold zAW
   have e0:decide ((0:Int)≤-1)=false:=by decide
   have e1:(([48]:zA)==[110,97,109,101])=false:=by decide
   simp only[hpk,zob,e0,zbf,Qh,hT,hk,e1,QQ,Qx,QM,Qe,ht]
   rw[show len ([48]:zA)=((1:Nat):Int) from rfl,hw 1 hlen,show vA (fm (2,[],[]))=true from rfl,Qx,Wb]
  ·unfold zA6
   have e0:decide ((0:Int)≤-1)=false:=by decide
   have e1:(([48]:zA)==[126])=false:=by decide
   have e2:(([48]:zA)==[40])=false:=by decide
   have e3:(([48]:zA)==[])=false:=by decide
   have e4:vR ([48]:zA) 0=some ((48:UInt8).toNat:Int):=rfl
   have e5:uM 48=true:=by decide
   have e6:(([48]:zA)==[49])=false:=by decide
   simp only[hR,hwd,e1,e2,QM,Qe,zob,zbf,Qh,hTok,e3,e4,zPD,e5,Qx,e0,e6,QQ]
   grind
 ·
  have ht:(qY S i).text=[49]:=by rw[h];rfl
  have hk:(qY S i).kind=[49]:=by rw[h];rfl
  have hwd:(qY S i).word=[49]:=by rw[h];rfl
  rw[ht] at hlen
  have hle:=zWb S (sk S i+1)
  refine⟨(fm (1,[],[]),((sk S i+1:Nat):Int),-1,g||!vA (fm (1,[],[]))),(fm (1,[],[]),((sk S i+1:Nat):Int),-1),Ev.of fun k=>⟨?_,?_⟩,.inl ⟨_,_,_,rfl,rfl,hlen,hlen,rfl,by omega,by show sk S i+1≤_;omega⟩⟩
  ·unfold zAW
   have e0:decide ((0:Int)≤-1)=false:=by decide
   have e1:(([49]:zA)==[110,97,109,101])=false:=by decide
   have e2:(([49]:zA)==[48])=false:=by decide
   simp only[hpk,zob,e0,zbf,Qh,hT,hk,e1,e2,QQ,Qx,QM,Qe,ht]
   rw[show len ([49]:zA)=((1:Nat):Int) from rfl,hw 1 hlen,show vA (fm (1,[],[]))=true from rfl,Qx,Wb]
  ·unfold zA6
   have e0:decide ((0:Int)≤-1)=false:=by decide
   have e1:(([49]:zA)==[126])=false:=by decide
   have e2:(([49]:zA)==[40])=false:=by decide
   have e3:(([49]:zA)==[])=false:=by decide
   have e4:vR ([49]:zA) 0=some ((49:UInt8).toNat:Int):=rfl
   have e5:uM 49=true:=by decide
   simp only[hR,hwd,e1,e2,QM,Qe,zob,zbf,Qh,hTok,e3,e4,zPD,e5,Qx,e0,QQ]
   grind
 ·
  have ht:(qY S i).text=s:=by rw[h];rfl
  have hk:(qY S i).kind=s:=by rw[h];rfl
  have hwd:(qY S i).word=s:=by rw[h];rfl
  rw[ht] at hlen
  by_cases h1:s=[126]
  ·subst h1
   have hle:=zWb S (sk S i+1)
   have hsq:=zKa (S:=S) (i:=sk S i+1) hlen
   obtain⟨rP,rR,hev,hres⟩:=hU (S.length-sk S (sk S i+1)) (by omega) (sk S i+1) (sk S i+1) g hlen hlen rfl (Qt _)
   have hP:∀ k rP,kU k (S,((sk S i+1:Nat):Int),-1,g)=some rP->zAW (a1 k) (kE k) (a2 k) (a3 k) (a4 k) (a5 k) (kU k) (S,(i:Int),-1,g)=some (fm (4,[],[rP.1]),rP.2.1,rP.2.2.1,rP.2.2.2):=fun k rP e=>by
    unfold zAW
    grind
   have hRR:∀ k rR,kU' k (S,((sk S i+1:Nat):Int),-1)=some rR->zA6 (b1 k) (kE' k) (b2 k) (b3 k) (kU' k) (S,(i':Int),-1)=some (fm (4,[],[rR.1]),rR.2.1,rR.2.2):=fun k rR e=>by
    unfold zA6
    grind
   refine⟨_,_,hev.imp fun k ⟨e1,e2⟩=>⟨hP k _ e1,hRR k _ e2⟩,?_⟩
   rcases hres with⟨f,x,x',rfl,rfl,hx,hx',hxe,hlt,hsm⟩ | ⟨f,f',x,x',b,b',g',rfl,rfl,hx,hx',hb,hb'⟩
   ·refine .inl ⟨fm (4,[],[f]),x,x',?_,rfl,hx,hx',hxe,by omega,?_⟩
    ·grind [vA,fm,zQz]
    ·show sk S i+wQ (.mk 4 [] [f])≤_
     grind [wQ,yE]
   ·exact .inr ⟨_,_,x,x',b,b',g',rfl,rfl,hx,hx',hb,hb'⟩
  by_cases h2:s=[40]
  ·subst h2
   have hle:=zWb S (sk S i+1)
   have hsq:=zKa (S:=S) (i:=sk S i+1) hlen
   obtain⟨rP,rR,hev,hres⟩:=hE (S.length-sk S (sk S i+1)) (by omega) (sk S i+1) (sk S i+1) g hlen hlen rfl (Qt _)
   have hP:∀ k rP o,kE k (S,((sk S i+1:Nat):Int),-1,g)=some rP->((xZ (S,rP.2.1,rP.2.2.1,rP.2.2.2) [41]).bind fun r9=>if !r9.1 then(zAa (S,r9.2,rP.2.2.1,rP.2.2.2)).bind fun r10=>some (r10.1,r10.2.1,r10.2.2,rP.2.2.2) else some (rP.1,r9.2,rP.2.2.1,rP.2.2.2))=some o->zAW (a1 k) (kE k) (a2 k) (a3 k) (a4 k) (a5 k) (kU k) (S,(i:Int),-1,g)=some o:=fun k rP o e eo=>by
    unfold zAW
    grind
   have hRR:∀ k rR o,kE' k (S,((sk S i+1:Nat):Int),-1)=some rR->((if decide (rR.2.2<0) then(xO (S,rR.2.1,rR.2.2) [41]).bind fun r5=>some (!r5.1,r5.2) else some (false,rR.2.1):Option (Bool×Int)).bind fun s1=>if s1.1 then(zAs (S,s1.2,rR.2.2)).bind fun r6=>some (r6.1,s1.2,r6.2) else some (rR.1,s1.2,rR.2.2))=some o->zA6 (b1 k) (kE' k) (b2 k) (b3 k) (kU' k) (S,(i':Int),-1)=some o:=fun k rR o e eo=>by
    unfold zA6
    grind
   rcases hres with⟨f,x,x',rfl,rfl,hx,hx',hxe,hlt,hsm⟩ | ⟨f,f',x,x',b,b',g',rfl,rfl,hx,hx',hb,hb'⟩
   ·have hin:([41]:zA)∈uJ:=by decide
    rcases zOJ hl hin hx hx' hxe with⟨q,tP,tR,hq1,hq2⟩ | ⟨tP,tR⟩
    ·have hle2:=zWb S q
     refine⟨(f,(q:Int),-1,g||!vA f),(f,(q:Int),-1),hev.imp fun k ⟨e1,e2⟩=>⟨hP k _ _ e1 ?_,hRR k _ _ e2 ?_⟩,.inl ⟨f,q,q,rfl,rfl,hq2,hq2,rfl,by omega,by omega⟩⟩
     ·grind
     grind
    ·have hsx:=zKa hx
     refine⟨(fm (0,[],[]),(sk S x:Int),(sk S x:Int),g||!vA f),(fm (0,[],[]),(x':Int),(sk S x:Int)),hev.imp fun k ⟨e1,e2⟩=>⟨hP k _ _ e1 ?_,hRR k _ _ e2 ?_⟩,.inr ⟨_,_,sk S x,x',_,_,_,rfl,rfl,hsx,hx',by omega,by omega⟩⟩
     ·dsimp only
      rw[tP]
      have h:zAO (S,(sk S x:Int),-1,g||!vA f)=some ((((qY S (sk S x)).kind,(qY S (sk S x)).text,(sk S (sk S x):Int)):zAr),(sk S (sk S x):Int)):=zNF hl hsx (-1) _
      unfold zAa
      simp only[zob,QM,Qe,h,zKu]
      rfl
     ·dsimp only
      rw[tR]
      have h:zAF (S,(x':Int),-1)=some ((qY S x').word,(sk S x':Int)):=zO2 hl hx' (-1)
      unfold zAs
      grind
   ·have hsx:=zKa hx
    refine⟨(fm (0,[],[]),(sk S x:Int),b,g'),(f',(x':Int),b'),hev.imp fun k ⟨e1,e2⟩=>⟨hP k _ _ e1 ?_,hRR k _ _ e2 ?_⟩,.inr ⟨_,_,sk S x,x',_,_,_,rfl,rfl,hsx,hx',hb,hb'⟩⟩
    ·dsimp only
     rw[zL4 hl hx hb]
     unfold zAa
     grind
    grind
  ·have hf:∀ s∈uJ,s≠[126]->s≠[40]->s≠[110,97,109,101]∧s≠[48]∧s≠[49]∧∃ c r,s=c::r∧uM c=false:=by
    have:∀ s∈uJ,s≠[126]->s≠[40]->s≠[110,97,109,101]∧s≠[48]∧s≠[49]∧s≠[]∧uM (s.headD 0)=false:=by decide
    intro s hs a b
    obtain⟨q1,q2,q3,q4,q5⟩:=this s hs a b
    refine⟨q1,q2,q3,?_⟩
    cases s with
    | nil=>grind
    | cons c r=>grind
   obtain⟨q1,q2,q3,q4⟩:=hf s hs h1 h2
   rw[hk,hwd] at fault
   grind
 ·rw[h] at fault
  exact fault (by show([63]:zA)≠_;decide) (by show([63]:zA)≠_;decide) (by show([63]:zA)≠_;decide) (by show([63]:zA)≠_;decide) (by show([63]:zA)≠_;decide) (by show([63]:zA)≠_;decide) (by show([63]:zA)≠_;decide) (.inr ⟨63,[],rfl,by decide⟩)
end
end
section
theorem uH.cong{S:zA}{n:Nat}{kP kP':Nat->qR->Option (zC×Int×Int×Bool)}{kR kR':Nat->wK->Option (zC×Int×Int)}(h:uH S n kP' kR')(h1:∀ k i b g,kP k (S,i,b,g)=kP' k (S,i,b,g))(h2:∀ k i b,kR k (S,i,b)=kR' k (S,i,b)): uH S n kP kR:=fun i i' g a b c d=>by
 obtain⟨rP,rR,hev,hres⟩:=h i i' g a b c d
 grind
noncomputable def BPg (S k:zA)(op:Int)(nx rx:qR->Option (zC×Int×Int×Bool))(y0:qR): Option (zC×Int×Int×Bool) :=
 (nx y0).bind fun r1 =>
 (xZ (S,r1.2.1,r1.2.2.1,r1.2.2.2) k).bind fun r2 =>
 if !r2.1 then
  some (r1.1,r2.2,r1.2.2.1,r1.2.2.2)
 else
  (rx (S,r2.2,r1.2.2.1,r1.2.2.2)).bind fun r3 =>
  some (fm (op,[],([r1.1,r3.1]:List zC)),r3.2.1,r3.2.2.1,r3.2.2.2)
noncomputable def BRg (S k:zA)(op:Int)(nx rx:wK->Option (zC×Int×Int))(y0:wK): Option (zC×Int×Int) :=
 (nx y0).bind fun r1 =>
 (xO (S,r1.2.1,r1.2.2) k).bind fun r2 =>
 if r2.1 then
  (rx (S,r2.2,r1.2.2)).bind fun r3 =>
  some (fm (op,[],([r1.1,r3.1]:List zC)),r3.2.1,r3.2.2)
 else
  some (r1.1,r2.2,r1.2.2)
section
variable {S:zA}(hl:S.length≤5000)
include hl
theorem z5d{s:zA}(hs:s∈uJ){op:Int}(hop:op=7∨op=8){nP xP:Nat->qR->Option (zC×Int×Int×Bool)}{nR xR:Nat->wK->Option (zC×Int×Int)}{n:Nat}(h1:uH S n nP nR)(h2:∀ m,m<n->uH S m xP xR):
  uH S n (fun k=>BPg S s op (nP k) (xP k)) (fun k=>BRg S s op (nR k) (xR k)):=by
 intro i i' g hi hi' he hn
 obtain⟨rP,rR,hev,hres⟩:=h1 i i' g hi hi' he hn
 rcases hres with⟨f,x,x',rfl,rfl,hx,hx',hxe,hlt,hsm⟩ | ⟨f,f',x,x',b,b',g',rfl,rfl,hx,hx',hb,hb'⟩
 ·have hsx:=zKa hx
  rcases zOJ hl hs hx hx' hxe with⟨q,tP,tR,hq1,hq2⟩ | ⟨tP,tR⟩
  ·have hle:=zWb S q
   have hsq:=zKa hq2
   obtain⟨r2P,r2R,hev2,hres2⟩:=h2 (S.length-sk S q) (by omega) q q (g||!vA f) hq2 hq2 rfl (Qt _)
   refine⟨(fm (op,[],[f,r2P.1]),r2P.2.1,r2P.2.2.1,r2P.2.2.2),(fm (op,[],[f,r2R.1]),r2R.2.1,r2R.2.2),hev.imp2 hev2 fun k ⟨e1,e2⟩ ⟨e3,e4⟩=>⟨?_,?_⟩,?_⟩
   ·unfold BPg
    grind
   ·unfold BRg
    grind
   ·rcases hres2 with⟨f2,y,y',rfl,rfl,hy,hy',hye,hlt2,hsm2⟩ | ⟨f2,f2',y,y',b,b',g',rfl,rfl,hy,hy',hb,hb'⟩
    ·refine .inl ⟨fm (op,[],[f,f2]),y,y',?_,rfl,hy,hy',hye,by omega,?_⟩
     ·have:vA (fm (op,[],[f,f2]))=(vA f&&vA f2):=by
       show vA (.mk op [] [f,f2])=_
       rw[vA]
       rcases hop with rfl | rfl <;> simp[zQz]
      grind
     ·show sk S i+wQ (.mk op [] [f,f2])≤_
      grind [wQ,yE]
    ·exact .inr ⟨_,_,y,y',b,b',g',rfl,rfl,hy,hy',hb,hb'⟩
  ·refine⟨(f,(sk S x:Int),-1,g||!vA f),(f,(x':Int),-1),hev.imp fun k ⟨e1,e2⟩=>⟨?_,?_⟩,.inl ⟨f,sk S x,x',rfl,rfl,hsx,hx',by rw[zKu];exact hxe,by rw[zKu];exact hlt,by rw[zKu];exact hsm⟩⟩
   ·unfold BPg
    grind
   ·unfold BRg
    grind
 ·refine⟨(f,(sk S x:Int),b,g'),(f',(x':Int),b'),hev.imp fun k ⟨e1,e2⟩=>⟨?_,?_⟩,.inr ⟨_,_,sk S x,x',b,b',g',rfl,rfl,zKa hx,hx',hb,hb'⟩⟩
  ·unfold BPg
   simp only[e1,zob,zL4 hl hx hb,QM,Qe]
  ·unfold BRg
   simp only[e2,zob,zRw hl hx' hb',zbf,Qh]
theorem z7C:∀ n,uH S n zAE zAT∧uH S n zAH zAU∧uH S n zAM zA5∧uH S n zAD zAN∧uH S n zAL zAX:=by
 intro n
 induction n using Nat.strongRecOn with
 | _ n ih =>
  have hU:uH S n zAE zAT:=uH.suc (z3v hl (a1:=zAH) (a2:=zAD) (a3:=zAB) (a4:=zAA) (a5:=zAM) (b1:=zAU) (b2:=zAN) (b3:=zA5) (fun m hm=>(ih m hm).1) (fun m hm=>(ih m hm).2.2.2.2))
  have hA:uH S n zAH zAU:=by
   refine uH.suc (uH.sucP ((z2t hl (s:=[38]) (by decide) (op:=5) (.inl rfl) (fun m hm=>hU.mono hm)).cong (fun k i b g=>?_) (fun k i b=>?_)))
   ·show(MPg S [38] 5 (zAE k) (S,i,b,g)).bind (fun r1=>some (r1.1,r1.2.1,r1.2.2.1,r1.2.2.2))=_
    cases MPg S [38] 5 (zAE k) (S,i,b,g) <;> rfl
   ·rfl
  have hO:uH S n zAM zA5:=by
   refine uH.suc (uH.sucP ((z2t hl (s:=[124]) (by decide) (op:=6) (.inr rfl) (fun m hm=>hA.mono hm)).cong (fun k i b g=>?_) (fun k i b=>?_)))
   ·show(MPg S [124] 6 (zAH k) (S,i,b,g)).bind (fun r1=>some (r1.1,r1.2.1,r1.2.2.1,r1.2.2.2))=_
    cases MPg S [124] 6 (zAH k) (S,i,b,g) <;> rfl
   ·rfl
  have hI:uH S n zAD zAN :=
   uH.suc ((z5d hl (s:=[45,62]) (by decide) (op:=7) (.inl rfl) hO (fun m hm=>(ih m hm).2.2.2.1)).cong (fun _ _ _ _=>rfl) (fun _ _ _=>rfl))
  have hE:uH S n zAL zAX :=
   uH.suc ((z5d hl (s:=[60,45,62]) (by decide) (op:=8) (.inr rfl) hI (fun m hm=>(ih m hm).2.2.2.1)).cong (fun _ _ _ _=>rfl) (fun _ _ _=>rfl))
  grind
end
mutual
def szF:zC->Int
 | .mk _ _ l=>szL l 1
def szL:List zC->Int->Int
 | [],a=>a
 | x::l,a=>szL l (zF (a+szF x))
end
mutual
def dpF:zC->Int
 | .mk _ _ l=>dpL l 0
def dpL:List zC->Int->Int
 | [],a=>a
 | x::l,a=>dpL l (if zF (1+dpF x) > a then zF (1+dpF x) else a)
end
section
variable {op:Int}{s:zA}{pre:List zC}
theorem zOB (h:pre.length≤5000): decide ((pre.length:Int)<len ((fv (fm (op,s,pre++[]))).2.2))=false:=by
 have _:=h
 show decide ((pre.length:Int)<len (pre++[]))=false
 grind
theorem tZ{x:zC}{l:List zC}: decide ((pre.length:Int)<len ((fv (fm (op,s,pre++x::l))).2.2))=true∧zD ((fv (fm (op,s,pre++x::l))).2.2) (pre.length:Int)=some x:=by
 refine⟨Qs ?_,?_⟩
 ·show(pre.length:Int)<len (pre++x::l)
  grind
 ·show zD (pre++x::l) (pre.length:Int)=some x
  exact wV (by simp)
end
mutual
theorem z6b:∀ f,sml f=true->Ev fun k=>zD3 k f=some (szF f)
 | .mk op s l,h=>by
  rw[sml,Qb,Ql] at h
  exact Ev.suc ((z6L op s l [] 1 h.2 (by grind)).imp fun k e=>e)
theorem z6L:∀(op:Int) (s:zA) (l pre:List zC) (a:Int),zXY l=true->(pre++l).length≤5000->Ev fun k=>zJ (zGn (fm (op,s,pre++l)) (zD3 k)) (a,(pre.length:Int))=some (szL l a)
 | op,s,[],pre,a,_,hp=>Ev.of fun k=>vM (by
  unfold zGn
  simp only[zOB (op:=op) (s:=s) (pre:=pre) (by grind),zbf,Qh]
  rfl)
 | op,s,x::l,pre,a,h,hp=>by
  rw[zXY,Qb] at h
  have hp':pre.length+l.length+1≤5000:=by simp at hp;omega
  refine(z6b x h.1).imp2 (z6L op s l (pre++[x]) (zF (a+szF x)) h.2 (by simp;omega)) fun k e1 e2=>?_
  rw[Qo] at e2
  refine(uE (t:=(zF (a+szF x),((pre++[x]).length:Int))) ?_).trans e2
  unfold zGn
  simp only[(tZ (op:=op) (s:=s) (pre:=pre) (x:=x) (l:=l)).1,(tZ (op:=op) (s:=s) (pre:=pre) (x:=x) (l:=l)).2,Qe,zob,e1]
  rw[wI pre.length (by omega)]
  simp
end
mutual
theorem z7K:∀ f,sml f=true->Ev fun k=>zCz k f=some (dpF f)
 | .mk op s l,h=>by
  rw[sml,Qb,Ql] at h
  exact Ev.suc ((z5f op s l [] 0 h.2 (by grind)).imp fun k e=>e)
theorem z5f:∀(op:Int) (s:zA) (l pre:List zC) (a:Int),zXY l=true->(pre++l).length≤5000->Ev fun k=>zJ (zGA (fm (op,s,pre++l)) (zCz k)) (a,(pre.length:Int))=some (dpL l a)
 | op,s,[],pre,a,_,hp=>Ev.of fun k=>vM (by
  unfold zGA
  simp only[zOB (op:=op) (s:=s) (pre:=pre) (by grind),zbf,Qh]
  rfl)
 | op,s,x::l,pre,a,h,hp=>by
  rw[zXY,Qb] at h
  have hp':pre.length+l.length+1≤5000:=by simp at hp;omega
  refine(z7K x h.1).imp2 (z5f op s l (pre++[x]) (if zF (1+dpF x) > a then zF (1+dpF x) else a) h.2 (by simp;omega)) fun k e1 e2=>?_
  rw[Qo] at e2
  refine(uE (t:=((if zF (1+dpF x) > a then zF (1+dpF x) else a),((pre++[x]).length:Int))) ?_).trans e2
  unfold zGA
  simp only[(tZ (op:=op) (s:=s) (pre:=pre) (x:=x) (l:=l)).1,(tZ (op:=op) (s:=s) (pre:=pre) (x:=x) (l:=l)).2,Qe,zob,e1]
  rw[wI pre.length (by omega)]
  simp
end
mutual
theorem kd_ok:∀ f,sml f=true->Ev fun k=>zCr k f=some (vA f)
 | .mk op s l,h=>by
  rw[sml,Qb,Ql] at h
  refine Ev.suc ((z5h op s l [] (if op=1∨op=2∨op=3 then l.length==0 else if op=4 then l.length==1 else if op=5∨op=6 then decide (2≤l.length)&&decide (l.length≤6) else if op=7∨op=8 then l.length==2 else false) h.2 (by grind)).imp fun k e=>?_)
  rw[vA,←e]
  show zID (zCr k) (.mk op s l)=_
  unfold zID
  have hl:∀ n:Nat,(len l==(n:Int))=(l.length==n):=fun n=>by
   grind
  have h0:(len l==0)=(l.length==0):=hl 0
  have h1:(len l==1)=(l.length==1):=hl 1
  have h2:(len l==2)=(l.length==2):=hl 2
  have h3:decide (2≤len l)=decide (2≤l.length):=by
   by_cases h:2≤l.length
   ·grind
   ·grind
  have h4:decide (len l≤6)=decide (l.length≤6):=by
   by_cases h:l.length≤6
   ·grind
   ·grind
  show((((if(op==1)=true then some (op==1) else if(op==2)=true then some (op==2) else some (op==3):Option Bool).bind fun s2=>if s2 then some (len l==0) else if(op==4)=true then some (len l==1) else(if(op==5)=true then some (op==5) else some (op==6):Option Bool).bind fun s3=>if s3 then some (decide (2≤len l)&&decide (len l≤6)) else(if(op==7)=true then some (op==7) else some (op==8):Option Bool).bind fun s4=>if s4 then some (len l==2) else some false:Option Bool)).bind fun s1=>zJ (zDv (fm (op,s,l)) (zCr k)) (s1,0))=_
  rw[h0,h1,h2,h3,h4]
  have key:((((if(op==1)=true then some (op==1) else if(op==2)=true then some (op==2) else some (op==3):Option Bool).bind fun s2=>if s2 then some (l.length==0) else if(op==4)=true then some (l.length==1) else(if(op==5)=true then some (op==5) else some (op==6):Option Bool).bind fun s3=>if s3 then some (decide (2≤l.length)&&decide (l.length≤6)) else(if(op==7)=true then some (op==7) else some (op==8):Option Bool).bind fun s4=>if s4 then some (l.length==2) else some false:Option Bool)))=some (if op=1∨op=2∨op=3 then l.length==0 else if op=4 then l.length==1 else if op=5∨op=6 then decide (2≤l.length)&&decide (l.length≤6) else if op=7∨op=8 then l.length==2 else false):=by
   by_cases o1:op=1
   ·grind
   by_cases o2:op=2
   ·grind
   by_cases o3:op=3
   ·grind
   by_cases o4:op=4
   ·grind
   by_cases o5:op=5
   ·grind
   by_cases o6:op=6
   ·grind
   by_cases o7:op=7
   ·grind
   by_cases o8:op=8
   ·grind
   simp[o1,o2,o3,o4,o5,o6,o7,o8]
  grind
theorem z5h:∀(op:Int) (s:zA) (l pre:List zC) (a:Bool),zXY l=true->(pre++l).length≤5000->Ev fun k=>zJ (zDv (fm (op,s,pre++l)) (zCr k)) (a,(pre.length:Int))=some (a&&zQz l)
 | op,s,[],pre,a,_,hp=>Ev.of fun k=>vM (by
  unfold zDv
  simp only[zOB (op:=op) (s:=s) (pre:=pre) (by grind),zbf,Qh]
  rw[zQz,Bool.and_true])
 | op,s,x::l,pre,a,h,hp=>by
  rw[zXY,Qb] at h
  have hp':pre.length+l.length+1≤5000:=by simp at hp;omega
  refine(kd_ok x h.1).imp2 (z5h op s l (pre++[x]) (a&&vA x) h.2 (by simp;omega)) fun k e1 e2=>?_
  rw[Qo] at e2
  refine(uE (t:=(a&&vA x,((pre++[x]).length:Int))) ?_).trans (e2.trans (by rw[zQz,Bool.and_assoc]))
  unfold zDv
  simp only[(tZ (op:=op) (s:=s) (pre:=pre) (x:=x) (l:=l)).1,(tZ (op:=op) (s:=s) (pre:=pre) (x:=x) (l:=l)).2,Qe,zob,e1]
  rw[wI pre.length (by omega)]
  grind
end
theorem z3Z:zES=zD3:=by
 funext k
 induction k with
 | zero=>rfl
 | succ k ih =>
  show(fun y0=>zJ1 (zES k) y0)=fun y0=>zLu (zD3 k) y0
  rw[ih]
  rfl
theorem z04:zDI=zCz:=by
 funext k
 induction k with
 | zero=>rfl
 | succ k ih =>
  show(fun y0=>zIc (zDI k) y0)=fun y0=>zK2 (zCz k) y0
  rw[ih]
  rfl
theorem Ev.lim{α:Type}{f:Nat->Option α}{r:α}(h:Ev fun k=>f k=some r): yH f=some r:=by
 obtain⟨K,hK⟩:=h
 exact zKO K hK
theorem z1o{f:zC}(h:sml f=true): zFp f=some (szF f)∧zIy f=some (szF f)∧zEw f=some (dpF f)∧zHn f=some (dpF f)∧zHy f=some (vA f) :=
 ⟨by unfold zFp;rw[z3Z];exact(z6b f h).lim,(z6b f h).lim,by unfold zEw;rw[z04];exact(z7K f h).lim,(z7K f h).lim,(kd_ok f h).lim⟩
end
section
def okF (f:zC): Bool:=vA f&&(decide (szF f≤600)&&decide (dpF f≤20))
theorem tk_fin (S:zA)(i:Nat): ((qY S i).kind==[])=((qY S i).word==[])∧((qY S i).word=[]->(qY S i).text=[]):=by
 unfold qY
 rcases zV5 (S.drop (sk S i)) with h | ⟨v,h,hv,_⟩ | h | h | ⟨t,ht,h⟩ | ⟨v,h⟩ <;> rw[h]
 ·exact⟨rfl,fun _=>rfl⟩
 ·have:v≠[]:=by rintro rfl;cases hv
  refine⟨?_,fun e=>absurd e this⟩
  show(([110,97,109,101]:zA)==[])=(v==[])
  grind
 ·exact⟨rfl,fun e=>by cases e⟩
 ·exact⟨rfl,fun e=>by cases e⟩
 ·exact⟨rfl,fun e=>e⟩
 ·exact⟨rfl,fun e=>by cases e⟩
theorem zKT (S:zA): ∃ f o o' c,zB9 S=some (f,o,c)∧zC2 S=some (f,o',c)∧(c=0->okF f=true∧wQ f≤5000∧o=0∧o'=0∧S.length≤4096)∧(c≠0->f=fm (0,[],[])∧(c=2∨c=3)):=by
 by_cases hl4:4096<S.length
 ·have h:decide (4096<len S)=true:=Qs (by grind)
  refine⟨fm (0,[],[]),0,0,2,?_,?_,fun e=>by simp at e,fun _=>⟨rfl,.inl rfl⟩⟩
  ·unfold zB9;grind
  ·unfold zC2;grind
 have hl:S.length≤5000:=by omega
 have h4:¬ decide (4096<len S)=true:=by rw[Ql];simp only[len];omega
 obtain⟨rP,rR,hev,hres⟩:=(z7C hl S.length).2.2.2.2 0 0 false (by omega) (by omega) rfl (by omega)
 have hP:zF9 (S,0,-1,false)=some rP:=(hev.imp fun k e=>e.1).lim
 have hR:zG7 (S,0,-1)=some rR:=(hev.imp fun k e=>e.2).lim
 rcases hres with⟨f,x,x',rfl,rfl,hx,hx',hxe,hlt,hsm⟩ | ⟨f,f',x,x',b,b',g',rfl,rfl,hx,hx',hb,hb'⟩
 ·have hsx:=zKa hx
  have htk:zAF (S,(x':Int),-1)=some ((qY S x).word,(sk S x:Int)):=by
   have h:zAF (S,(x':Int),-1)=some ((qY S x').word,(sk S x':Int)):=zO2 hl hx' (-1)
   rw[h,show qY S x'=qY S x by unfold qY;rw[hxe],hxe]
  have hta:∀ g,xZ (S,(x:Int),-1,g) []=if(decide ((0:Int)≤-1)||!((qY S x).kind==[]))=true then some (false,(sk S x:Int)) else some (true,zF ((sk S x:Int)+len (qY S x).text)):=fun g=>zKU hl hx (-1) g []
  obtain⟨k1,k2⟩:=tk_fin S x
  cases hw:(qY S x).word==[] with
  | false =>
   rw[hw] at k1
   refine⟨fm (0,[],[]),(sk S x:Int),(sk S x:Int),3,?_,?_,fun e=>by simp at e,fun _=>⟨rfl,.inr rfl⟩⟩
   ·unfold zB9
    rw[Qa h4,hP]
    have e0:decide ((-1:Int)<0)=true:=by decide
    have h:zAO (S,(sk S x:Int),-1,false||!vA f)=some ((((qY S (sk S x)).kind,(qY S (sk S x)).text,(sk S (sk S x):Int)):zAr),(sk S (sk S x):Int)):=zNF hl hsx (-1) _
    have e1:decide ((0:Int)≤(sk S x:Int))=true:=Qs (by omega)
    unfold zAa
    simp only[zob,hta,k1,QM,Bool.or_true,Qe,e0,h,zKu,e1]
   ·unfold zC2
    rw[Qa h4,hR]
    have e0:decide ((-1:Int)<0)=true:=by decide
    have e1:decide ((0:Int)≤(sk S x:Int))=true:=Qs (by omega)
    unfold zAs
    grind
  | true =>
   rw[hw] at k1
   have ht:=k2 (QH.1 hw)
   have e2:decide ((0:Int)≤-1)=false:=by decide
   obtain⟨m1,m2,m3,m4,m5⟩:=z1o (zW3 f (by omega))
   have hPp:zB9 S=some (if okF f then(f,0,0) else(fm (0,[],[]),0,2)):=by
    unfold zB9
    rw[Qa h4,hP]
    simp only[zob,hta,k1,e2,Qx,Wb,zbf,Qh,Bool.false_or]
    unfold okF
    cases hk:vA f with
    | false=>simp
    | true =>
     grind
   have hRr:zC2 S=some (if okF f then(f,0,0) else(fm (0,[],[]),0,2)):=by
    unfold zC2
    rw[Qa h4,hR]
    simp only[zob,htk,hw,e2,Qx,zbf,Qh]
    unfold okF
    simp only[m2,m4,m5,zob]
    by_cases h1:szF f≤600
    ·grind
    ·grind
   grind
 ·have htk:zAF (S,(x':Int),b')=some ((qY S x').word,(sk S x':Int)):=zO2 hl hx' b'
  refine⟨fm (0,[],[]),b,b',3,?_,?_,fun e=>by simp at e,fun _=>⟨rfl,.inr rfl⟩⟩
  ·unfold zB9
   rw[Qa h4,hP]
   have e0:decide (b<0)=false:=QF (by omega)
   have e1:decide (0≤b)=true:=Qs hb
   unfold zAa
   simp only[zob,zL4 hl hx hb,QM,Qe,e0,zbf,Qh,e1]
  ·unfold zC2
   rw[Qa h4,hR]
   have e0:decide (b' < 0)=false:=QF (by omega)
   have e1:decide (0≤b')=true:=Qs hb'
   unfold zAs
   grind
end
section
def kd0 (op:Int)(n:Nat): Bool:=if op=1∨op=2∨op=3 then n==0 else if op=4 then n==1 else if op=5∨op=6 then decide (2≤n)&&decide (n≤6) else if op=7∨op=8 then n==2 else false
theorem zLL (op:Int)(s:zA)(l:List zC): vA (.mk op s l)=(kd0 op l.length&&zQz l):=by rw[vA];rfl
theorem zXb{α:Type}(l:List α)(n:Nat): (len l==(n:Int))=(l.length==n):=by grind
theorem z0j (op:Int)(s:zA)(l:List zC): zFQ (.mk op s l)=some (kd0 op l.length):=by
 have h0:(len l==0)=(l.length==0):=zXb l 0
 have h1:(len l==1)=(l.length==1):=zXb l 1
 have h2:(len l==2)=(l.length==2):=zXb l 2
 have h3:decide (2≤len l)=decide (2≤l.length):=by
  by_cases h:2≤l.length
  ·grind
  ·grind
 have h4:decide (len l≤6)=decide (l.length≤6):=by
  by_cases h:l.length≤6
  ·grind
  ·grind
 show(((if(op==1)=true then some (op==1) else if(op==2)=true then some (op==2) else some (op==3):Option Bool).bind fun s2=>if s2 then some (len l==0) else if(op==4)=true then some (len l==1) else(if(op==5)=true then some (op==5) else some (op==6):Option Bool).bind fun s3=>if s3 then some (decide (2≤len l)&&decide (len l≤6)) else(if(op==7)=true then some (op==7) else some (op==8):Option Bool).bind fun s4=>if s4 then some (len l==2) else some false:Option Bool))=_
 rw[h0,h1,h2,h3,h4]
 unfold kd0
 grind
mutual
def fnm:zC->Bool
 | .mk op s l=>(if op=3 then vName s else s==[])&&z2V l
def z2V:List zC->Bool
 | []=>true
 | x::l=>fnm x&&z2V l
end
mutual
theorem z5p:∀ f,sml f=true->Ev fun k=>zAb k f=some (vA f)
 | .mk op s l,h=>by
  rw[sml,Qb,Ql] at h
  refine Ev.suc ((z2x op s l [] h.2 (by grind)).imp fun k e=>?_)
  show((zFQ (.mk op s l)).bind fun r1=>if !r1 then some false else zJ (zAc (fm (op,s,l)) (zAb k)) 0)=_
  rw[z0j,zob,zLL]
  grind
theorem z2x:∀(op:Int) (s:zA) (l pre:List zC),zXY l=true->(pre++l).length≤5000->Ev fun k=>zJ (zAc (fm (op,s,pre++l)) (zAb k)) (pre.length:Int)=some (zQz l)
 | op,s,[],pre,_,hp=>Ev.of fun k=>vM (by
  unfold zAc
  simp only[zOB (op:=op) (s:=s) (pre:=pre) (by grind),zbf,Qh]
  rfl)
 | op,s,x::l,pre,h,hp=>by
  rw[zXY,Qb] at h
  have hp':pre.length+l.length+1≤5000:=by simp at hp;omega
  refine(z5p x h.1).imp2 (z2x op s l (pre++[x]) h.2 (by simp;omega)) fun k e1 e2=>?_
  rw[Qo] at e2
  rw[zQz]
  cases hx:vA x with
  | false =>
   refine vM ?_
   unfold zAc
   simp only[(tZ (op:=op) (s:=s) (pre:=pre) (x:=x) (l:=l)).1,(tZ (op:=op) (s:=s) (pre:=pre) (x:=x) (l:=l)).2,Qe,zob,e1,hx,QM]
   rfl
  | true =>
   refine(uE (t:=((pre++[x]).length:Int)) ?_).trans e2
   unfold zAc
   simp only[(tZ (op:=op) (s:=s) (pre:=pre) (x:=x) (l:=l)).1,(tZ (op:=op) (s:=s) (pre:=pre) (x:=x) (l:=l)).2,Qe,zob,e1,hx,Qx,zbf,Qh]
   rw[wI pre.length (by omega)]
   simp
end
mutual
theorem z5n:∀ f,sml f=true->Ev fun k=>zAe k f=some (fnm f)
 | .mk op s l,h=>by
  rw[sml,Qb,Ql] at h
  refine Ev.suc ((z18 op s l [] h.2 (by grind)).imp fun k e=>?_)
  show((if(op==3)=true then(zBc s).bind fun r1=>some r1 else some (s==[])).bind fun r1=>if !r1 then some false else zJ (zAh (fm (op,s,l)) (zAe k)) 0)=_
  rw[zOp,zob,fnm]
  grind
theorem z18:∀(op:Int) (s:zA) (l pre:List zC),zXY l=true->(pre++l).length≤5000->Ev fun k=>zJ (zAh (fm (op,s,pre++l)) (zAe k)) (pre.length:Int)=some (z2V l)
 | op,s,[],pre,_,hp=>Ev.of fun k=>vM (by
  unfold zAh
  simp only[zOB (op:=op) (s:=s) (pre:=pre) (by grind),zbf,Qh]
  rfl)
 | op,s,x::l,pre,h,hp=>by
  rw[zXY,Qb] at h
  have hp':pre.length+l.length+1≤5000:=by simp at hp;omega
  refine(z5n x h.1).imp2 (z18 op s l (pre++[x]) h.2 (by simp;omega)) fun k e1 e2=>?_
  rw[Qo] at e2
  rw[z2V]
  cases hx:fnm x with
  | false =>
   refine vM ?_
   unfold zAh
   simp only[(tZ (op:=op) (s:=s) (pre:=pre) (x:=x) (l:=l)).1,(tZ (op:=op) (s:=s) (pre:=pre) (x:=x) (l:=l)).2,Qe,zob,e1,hx,QM]
   rfl
  | true =>
   refine(uE (t:=((pre++[x]).length:Int)) ?_).trans e2
   unfold zAh
   simp only[(tZ (op:=op) (s:=s) (pre:=pre) (x:=x) (l:=l)).1,(tZ (op:=op) (s:=s) (pre:=pre) (x:=x) (l:=l)).2,Qe,zob,e1,hx,Qx,zbf,Qh]
   rw[wI pre.length (by omega)]
   simp
end
mutual
theorem z6A:∀ f,sml f=true->Ev fun k=>zDi k f=some (fnm f)
 | .mk op s l,h=>by
  rw[sml,Qb,Ql] at h
  refine Ev.suc ((z10 op s l [] (if op=3 then vName s else s==[]) h.2 (by grind)).imp fun k e=>?_)
  show((if(op==3)=true then(zAy s).bind fun r1=>some r1 else some (s==[])).bind fun s1=>zJ (zDq (fm (op,s,l)) (zDi k)) (s1,0))=_
  rw[zDf,zob,fnm,←e]
  grind
theorem z10:∀(op:Int) (s:zA) (l pre:List zC) (a:Bool),zXY l=true->(pre++l).length≤5000->Ev fun k=>zJ (zDq (fm (op,s,pre++l)) (zDi k)) (a,(pre.length:Int))=some (a&&z2V l)
 | op,s,[],pre,a,_,hp=>Ev.of fun k=>vM (by
  unfold zDq
  simp only[zOB (op:=op) (s:=s) (pre:=pre) (by grind),zbf,Qh]
  rw[z2V,Bool.and_true])
 | op,s,x::l,pre,a,h,hp=>by
  rw[zXY,Qb] at h
  have hp':pre.length+l.length+1≤5000:=by simp at hp;omega
  refine(z6A x h.1).imp2 (z10 op s l (pre++[x]) (a&&fnm x) h.2 (by simp;omega)) fun k e1 e2=>?_
  rw[Qo] at e2
  refine(uE (t:=(a&&fnm x,((pre++[x]).length:Int))) ?_).trans (e2.trans (by rw[z2V,Bool.and_assoc]))
  unfold zDq
  simp only[(tZ (op:=op) (s:=s) (pre:=pre) (x:=x) (l:=l)).1,(tZ (op:=op) (s:=s) (pre:=pre) (x:=x) (l:=l)).2,Qe,zob,e1]
  rw[wI pre.length (by omega)]
  grind
end
def z1I (f:zC): Int:=if szF f≤600∧dpF f≤20 then(if vA f then(if fnm f then 0 else 3) else 4) else 2
theorem zVF{f:zC}(h:sml f=true): zEl f=some (z1I f)∧zGF f=some (z1I f):=by
 obtain⟨m1,m2,m3,m4,m5⟩:=z1o h
 have c1:zCO f=some (vA f):=(z5p f h).lim
 have c2:zCZ f=some (fnm f):=(z5n f h).lim
 have c3:zKC f=some (fnm f):=(z6A f h).lim
 grind [zEl,zGF,z1I]
end
section
def xW:zC->Int
 | .mk op _ _=>if op=8 then 1 else if op=7 then 2 else if op=6 then 3 else if op=5 then 4 else 5
def zLA (op:Int)(i:Nat): Int:=if op=4∨op=5 then 5 else if op=6 then 4 else if op=7 then 3-(i:Int) else 2
def zVc (op:Int): zA:=if op=5 then[32,38,32] else if op=6 then[32,124,32] else if op=7 then[32,45,62,32] else[32,60,45,62,32]
def z0m (op:Int)(s:zA): zA:=if op=1 then[49] else if op=2 then[48] else if op=3 then s else if op=4 then[126] else[]
mutual
def wT:zC->zA
 | .mk op s l=>z0m op s++txL op 0 l
def txL:Int->Nat->List zC->zA
 | _,_,[]=>[]
 | op,i,x::l=>(if i=0 then[] else zVc op)++(Fo.par (decide (xW x<zLA op i)) (wT x)++txL op (i+1) l)
end
theorem zXE (f:zC): zGb f=some (xW f):=by
 obtain⟨op,s,l⟩:=f
 show(if(op==8)=true then some 1 else if(op==7)=true then some 2 else if(op==6)=true then some 3 else if(op==5)=true then some 4 else some 5:Option Int)=_
 grind [xW]
theorem z4g (f:zC): zGD f=some (xW f):=zXE f
theorem z0W (op:Int)(s:zA)(l:List zC)(i:Nat)(hi:i≤5000): zH7 (fm (op,s,l)) (i:Int)=some (zLA op i):=by
 show((if(op==4)=true then some (op==4) else some (op==5):Option Bool).bind fun s1=>if s1 then some 5 else if(op==6)=true then some 4 else if(op==7)=true then some (zF (3-(i:Int))) else some 2:Option Int)=_
 rw[yL (by omega) (by omega)]
 grind [zLA]
theorem z3m (b:Bool)(t:zA): (Fo.par b t).length≤t.length+2:=(zPn b t).2
theorem zLS{op:Int}{n:Nat}(h:kd0 op n=true): (op=1∨op=2∨op=3)∧n=0∨op=4∧n=1∨(op=5∨op=6)∧2≤n∨(op=7∨op=8)∧n=2:=by grind [kd0]
mutual
theorem zYt:∀ f,fnm f=true->(wT f).length+8≤24*wQ f
 | .mk op s l,h=>by
  rw[fnm,Qb] at h
  have h1:=z17 op 0 l h.2
  rw[wT,wQ,Qc]
  have:(z0m op s).length≤12:=by
   unfold z0m
   split
   ·decide
   ·split
    ·decide
    ·split
     ·rename_i h3
      have hv:=h.1
      rw[Qm h3] at hv
      cases s with
      | nil=>cases hv
      | cons c r =>
       have:decide (r.length+1≤12)=true:=by
        have:(decide (r.length+1≤12)&&loB c&&r.all uM)=true:=hv
        rw[Qb,Qb] at this
        exact this.1.1
       grind
     grind
  omega
theorem z17:∀(op:Int) (i:Nat) (l:List zC),z2V l=true->(txL op i l).length≤24*yE l
 | _,_,[],_=>by rw[txL,yE];grind
 | op,i,x::l,h=>by
  rw[z2V,Qb] at h
  have h1:=zYt x h.1
  have h2:=z17 op (i+1) l h.2
  have h3:=z3m (decide (xW x<zLA op i)) (wT x)
  have h4:(if i=0 then[] else zVc op:zA).length≤5:=by
   split
   ·decide
   ·unfold zVc
    split
    ·decide
    ·split
     ·decide
     ·split <;> decide
  grind [txL,yE]
end
theorem z7e{op:Int}(h:op=5∨op=6∨op=7∨op=8): zD zA0 op=some (zVc op):=by
 rcases h with rfl | rfl | rfl | rfl <;> rfl
theorem z7U{rec:zA->zC->Option zA}{f:zC}{z:zA}(hr:∀ z:zA,z.length+(wT f).length≤900000->rec z f=some (z++wT f))(c:Bool)(hz:z.length+(Fo.par c (wT f)).length≤900000)(i:Int):
  (if c=true then
   (zAJ z 40).bind fun r8 =>
   (rec r8.2 f).bind fun r9 =>
   (zAJ r9 41).bind fun r10 =>
   some (.inl (i,r10.2))
  else
   (rec z f).bind fun r11 =>
   some (.inl (i,r11)):Option ((Int×zA)⊕zA))=some (.inl (i,z++Fo.par c (wT f))):=by
 cases c with
 | true =>
  have hl:(Fo.par true (wT f)).length=(wT f).length+2:=by simp[Fo.par]
  simp only[Qe]
  rw[show(40:Int)=((40:Nat):Int) from rfl,zNx 40 (by omega) (by omega),zob,hr _ (by simp;omega),zob,show(41:Int)=((41:Nat):Int) from rfl,zNx 41 (by omega) (by simp;omega),zob]
  simp[Fo.par]
 | false =>
  simp only[zbf,Qh]
  rw[hr _ (by simpa [Fo.par] using hz),zob]
  rfl
mutual
theorem z4N:∀ f,vA f=true->wQ f≤5000->Ev fun k=>∀ y:zA,y.length+(wT f).length≤900000->zC8 k y f=some (y++wT f)
 | .mk op s l,h,hn=>by
  rw[zLL,Qb] at h
  rw[wQ] at hn
  have hll:=zJC l
  have hk:=zLS h.1
  refine Ev.suc ((z57 op s l [] (by
   grind) h.2 (by omega) (by simp;omega)).imp fun k e y hy=>?_)
  rw[wT,Qc] at hy
  have hs1:(if(op==1)=true then(zAJ y 49).bind fun r1=>some r1.2 else if(op==2)=true then(zAJ y 48).bind fun r2=>some r2.2 else if(op==3)=true then(zA2 y s).bind fun r3=>some r3.2.2 else if(op==4)=true then(zAJ y 126).bind fun r4=>some r4.2 else some y:Option zA)=some (y++z0m op s):=by
   by_cases o1:op=1
   ·subst o1
    exact(congrArg (fun o:Option (Unit×zA)=>o.bind fun r1=>some r1.2) (zNx 49 (l:=y) (by omega) (by omega))).trans rfl
   by_cases o2:op=2
   ·subst o2
    exact(congrArg (fun o:Option (Unit×zA)=>o.bind fun r1=>some r1.2) (zNx 48 (l:=y) (by omega) (by omega))).trans rfl
   by_cases o3:op=3
   ·subst o3
    have hy':y.length+s.length≤900000:=by
     have:z0m 3 s=s:=rfl
     rw[this] at hy
     omega
    exact(congrArg (fun o:Option (Int×Unit×zA)=>o.bind fun r1=>some r1.2.2) (z1M (l:=y) (s:=s) (by omega))).trans rfl
   by_cases o4:op=4
   ·subst o4
    exact(congrArg (fun o:Option (Unit×zA)=>o.bind fun r1=>some r1.2) (zNx 126 (l:=y) (by omega) (by omega))).trans rfl
   simp[z0m,o1,o2,o3,o4]
  have key:(some (y++z0m op s):Option zA).bind (fun s1=>zJ (zCx (fm (op,s,l)) (zC8 k)) (0,s1))=some (y++wT (.mk op s l)):=by
   rw[zob,wT,←Qo]
   exact e (y++z0m op s) (by grind)
  rw[←hs1] at key
  exact key
theorem z57:∀(op:Int) (s:zA) (l pre:List zC),((pre++l).length≤1∨(op=5∨op=6∨op=7∨op=8))->zQz l=true->yE l≤5000->(pre++l).length≤5000->Ev fun k=>∀ y:zA,y.length+(txL op pre.length l).length≤900000->zJ (zCx (fm (op,s,pre++l)) (zC8 k)) ((pre.length:Int),y)=some (y++txL op pre.length l)
 | op,s,[],pre,_,_,_,hp=>Ev.of fun k y hy=>vM (by
  unfold zCx
  simp only[zOB (op:=op) (s:=s) (pre:=pre) (by grind),zbf,Qh]
  rw[txL,QJ])
 | op,s,x::l,pre,ho,h,hn,hp=>by
  rw[zQz,Qb] at h
  rw[yE] at hn
  have hp':pre.length+l.length+1≤5000:=by simp at hp;omega
  refine(z4N x h.1 (by omega)).imp2 (z57 op s l (pre++[x]) (by grind) h.2 (by omega) (by simp;omega)) fun k e1 e2 y hy=>?_
  rw[txL,Qc,Qc] at hy
  rw[txL]
  have e3:=e2 (y++(if pre.length=0 then[] else zVc op)++Fo.par (decide (xW x<zLA op pre.length)) (wT x)) (by grind)
  rw[Qo] at e3
  refine(uE (t:=(((pre++[x]).length:Int),y++(if pre.length=0 then[] else zVc op)++Fo.par (decide (xW x<zLA op pre.length)) (wT x))) ?_).trans (e3.trans ?_)
  ·unfold zCx
   simp only[(tZ (op:=op) (s:=s) (pre:=pre) (x:=x) (l:=l)).1,(tZ (op:=op) (s:=s) (pre:=pre) (x:=x) (l:=l)).2,Qe,zob]
   have hw:(if decide (0<(pre.length:Int))=true then(zD zA0 ((fv (fm (op,s,pre++x::l))).1)).bind fun x2=>(zA2 y x2).bind fun r5=>some r5.2.2 else some y:Option zA)=some (y++(if pre.length=0 then[] else zVc op)):=by
    by_cases h0:pre.length=0
    ·grind
    ·have hop:op=5∨op=6∨op=7∨op=8:=by
      rcases ho with ho | ho
      ·grind
      ·exact ho
     rw[Qa h0] at hy
     rw[Qm (Qs (by omega)),Qa h0]
     show((zD zA0 op).bind fun x2=>(zA2 y x2).bind fun r5=>some r5.2.2:Option zA)=_
     rw[z7e hop,zob,z1M (by omega)]
     rfl
   rw[hw,zob,zXE,zob,z0W op s (pre++x::l) pre.length (by omega),zob,wI pre.length (by omega),z7U e1 _ (by grind)]
   simp
  grind
end
theorem argF{x:zC}{k:Nat}{c:Int}(hr:zBi k x=some (wT x))(hl:(wT x).length≤900000): zA1 (k+1) x c=some (Fo.par (decide (xW x<c)) (wT x)):=by
 show((zGD x).bind fun r1=>if decide (r1<c)=true then(zBi k x).bind fun r2=>(qE [40] r2).bind fun x1=>(qE x1 [41]).bind fun x2=>some x2 else(zBi k x).bind fun r3=>some r3)=_
 rw[z4g,zob,hr]
 cases decide (xW x<c) with
 | true =>
  simp only[Qe,zob]
  rw[qL (by simp;omega),zob,qL (by simp;omega),zob]
  rfl
 | false=>rfl
theorem zKL (op:Int)(i:Nat)(x:zC)(l:List zC): txL op i (x::l)=(if i=0 then[] else zVc op)++(Fo.par (decide (xW x<zLA op i)) (wT x)++txL op (i+1) l):=by rw[txL]
mutual
theorem zUE:∀ f,vA f=true->wQ f≤5000->(wT f).length≤900000->Ev fun k=>zBi k f=some (wT f)
 | .mk op s [],h,hn,hl=>by
  rw[zLL,Qb] at h
  have hk:=zLS h.1
  refine Ev.suc (Ev.of fun k=>?_)
  rw[wT,txL,QJ]
  have:op=1∨op=2∨op=3:=by simp at hk;exact hk
  rcases this with rfl | rfl | rfl <;> rfl
 | .mk op s [x],h,hn,hl=>by
  rw[zLL,Qb] at h
  have hk:=zLS h.1
  have:op=4:=by simp at hk;exact hk
  subst this
  rw[zQz,Qb] at h
  rw[wQ,yE] at hn
  have hp:=(zPn (decide (xW x<5)) (wT x)).1
  have e:wT (.mk 4 s [x])=[126]++Fo.par (decide (xW x<5)) (wT x):=by
   rw[wT,txL,txL,QJ,Qm rfl]
   rfl
  rw[e] at hl ⊢
  simp only[Qc,Qn,UA] at hl
  refine Ev.suc (Ev.suc ((zUE x h.2.1 (by omega) (by omega)).imp fun k hr=>?_))
  show((zA1 (k+1) x 5).bind fun r1=>(qE [126] r1).bind fun x2=>some x2)=_
  rw[argF hr (by omega),zob,qL (by simp;omega),zob]
 | .mk op s (x::z::l),h,hn,hl=>by
  rw[zLL,Qb] at h
  have hk:=zLS h.1
  rw[zQz,Qb] at h
  have hn':=hn
  rw[wQ,yE] at hn
  have hp:=(zPn (decide (xW x<zLA op 0)) (wT x)).1
  rw[wT,zKL,Qm rfl,QA] at hl ⊢
  simp only[Qc] at hl
  have hll:=zJC (z::l)
  have hkk:(op=5∨op=6∨op=8)∨op=7∧l=[]:=by
   rcases hk with⟨_,e⟩ | ⟨_,e⟩ | ⟨a,_⟩ | ⟨a,e⟩
   ·simp at e
   ·simp at e
   ·omega
   ·grind
  have hpre:z0m op s=[]:=by
   unfold z0m
   rcases hkk with(e | e | e) | ⟨e,_⟩ <;> subst e <;> rfl
  rw[hpre,QA]
  rcases hkk with ho | ⟨rfl,rfl⟩
  ·
   obtain⟨c,hc,hw⟩:∃ c,(∀ i,zLA op i=c)∧∀ k,zBi (k+1) (.mk op s (x::z::l))=(zBk k (x::z::l) (zVc op) c).bind fun r2=>some r2:=by
    rcases ho with rfl | rfl | rfl
    ·exact⟨5,fun _=>rfl,fun _=>rfl⟩
    ·exact⟨4,fun _=>rfl,fun _=>rfl⟩
    ·exact⟨2,fun _=>rfl,fun _=>rfl⟩
   refine Ev.suc (Ev.suc (((Ev.suc (P:=fun k=>zA1 k x c=some (Fo.par (decide (xW x<c)) (wT x))) ((zUE x h.2.1 (by omega) (by omega)).imp fun k hr=>argF (c:=c) hr (by omega))).imp2 (z3M op c hc (z::l) [x] (by simp) h.2.2 (by omega) (by grind)) fun k e1 e2=>?_)))
   rw[hw]
   have e3:=e2 (Fo.par (decide (xW x<zLA op 0)) (wT x)) (by grind)
   have:zBk (k+1) (x::z::l) (zVc op) c=(zA1 k x c).bind fun r1=>zJ (zDT (x::z::l) (zVc op) (zA1 k) c) (r1,1):=rfl
   simp_all
  ·
   rw[zQz,Qb] at h
   rw[yE] at hn
   rw[zKL,txL,QJ,Qa (by decide)] at hl ⊢
   simp only[Qc] at hl
   have hp2:=(zPn (decide (xW z<zLA 7 (0+1))) (wT z)).1
   refine Ev.suc (Ev.suc ((zUE x h.2.1 (by omega) (by omega)).imp2 (zUE z h.2.2.1 (by omega) (by omega)) fun k e1 e2=>?_))
   show((zA1 (k+1) x 3).bind fun r4=>(qE r4 [32,45,62,32]).bind fun x5=>(zA1 (k+1) z 2).bind fun r5=>(qE x5 r5).bind fun x6=>some x6)=_
   have hl':(Fo.par (decide (xW x<3)) (wT x)).length+(4+(Fo.par (decide (xW z<2)) (wT z)).length)≤900000:=by
    have hq:(z0m 7 s).length+((Fo.par (decide (xW x<3)) (wT x)).length+(4+(Fo.par (decide (xW z<2)) (wT z)).length))≤900000:=hl
    omega
   rw[argF e1 (by omega),zob,qL (by grind),zob,argF e2 (by omega),zob,qL (by grind),zob,Qo]
   rfl
theorem z3M:∀(op c:Int),(∀ i,zLA op i=c)->∀(l pre:List zC),pre≠[]->zQz l=true->yE l≤5000->(pre++l).length≤6000->Ev fun k=>∀ a:zA,a.length+(txL op pre.length l).length≤900000->zJ (zDT (pre++l) (zVc op) (zA1 k) c) (a,(pre.length:Int))=some (a++txL op pre.length l)
 | op,c,hc,[],pre,hne,_,_,_=>Ev.of fun k a ha=>vM (by
  unfold zDT
  have:decide ((pre.length:Int)<len (pre++[]))=false:=QF (by simp[len])
  simp only[this,zbf,Qh]
  rw[txL,QJ])
 | op,c,hc,x::l,pre,hne,h,hn,hlen=>by
  rw[zQz,Qb] at h
  rw[yE] at hn
  have hpl:=QL.2 hne
  have hlen':pre.length+l.length+1≤6000:=by simp at hlen;omega
  by_cases hbig:(wT x).length≤900000
  ·refine(Ev.suc (P:=fun k=>zA1 k x c=some (Fo.par (decide (xW x<c)) (wT x))) ((zUE x h.1 (by omega) hbig).imp fun k hr=>argF (c:=c) hr hbig)).imp2 (z3M op c hc l (pre++[x]) (by simp) h.2 (by omega) (by simp;omega)) fun k e1 e2 a ha=>?_
   rw[zKL,Qa (by omega),hc] at ha ⊢
   simp only[Qc] at ha
   have e3:=e2 (a++zVc op++Fo.par (decide (xW x<c)) (wT x)) (by grind)
   rw[Qo pre] at e3
   refine(uE (t:=(a++zVc op++Fo.par (decide (xW x<c)) (wT x),((pre++[x]).length:Int))) ?_).trans (e3.trans ?_)
   ·unfold zDT
    have h1:decide ((pre.length:Int)<len (pre++x::l))=true:=Qs (by grind)
    have h2:zD (pre++x::l) (pre.length:Int)=some x:=wV (by simp)
    simp only[h1,Qe,h2,qL (show a.length+(zVc op).length<4294967296 by omega),zob,e1]
    rw[qL (by grind),zob,wI pre.length (by omega)]
    simp
   grind
  grind [Ev.of,zKL,zPn]
end
theorem z4k{f:zC}(hn:wQ f≤5000): ∃ t c,zAx f=some (t,c)∧zAR f=some (t,c)∧t.length≤4096∧(c≠0->t=[]):=by
 obtain⟨v1,v2⟩:=zVF (zW3 f (by omega))
 by_cases hv:z1I f=0
 ·have hv':vA f=true∧fnm f=true:=by
   unfold z1I at hv
   split at hv
   ·grind
   ·cases hv
  have hlen:=zYt f hv'.2
  have w:zFH [] f=some (wT f):=((z4N f hv'.1 hn).imp fun k e=>(e [] (by simp;omega)).trans (by grind)).lim
  have r:zLy f=some (wT f):=(zUE f hv'.1 hn (by omega)).lim
  by_cases h4:4096<(wT f).length
  ·have e1:decide (4096<len (wT f))=true:=Qs (by grind)
   refine⟨[],2,?_,?_,by simp,fun _=>rfl⟩
   ·unfold zAx zBf
    grind
   ·unfold zAR
    grind
  ·have e1:decide (4096<len (wT f))=false:=QF (by grind)
   refine⟨wT f,0,?_,?_,by omega,fun e=>absurd rfl e⟩
   ·unfold zAx zBf zBj
    grind
   ·unfold zAR
    grind
 ·have hb:(z1I f != 0)=true:=by simpa using hv
  refine⟨[],z1I f,?_,?_,by simp,fun _=>rfl⟩
  ·unfold zAx
   grind
  ·unfold zAR
   grind
end
section
mutual
def eqF:zC->zC->Bool
 | .mk a s l,.mk b t m=>a==b&&(s==t&&eqL l m)
def eqL:List zC->List zC->Bool
 | [],[]=>true
 | x::l,y::m=>eqF x y&&eqL l m
 | [],_::_=>false
 | _::_,[]=>false
end
mutual
theorem z27:∀ f g,eqF f g=true↔f=g
 | .mk a s l,.mk b t m=>by
  rw[eqF,Qb,Qb,z1k l m,QH,QH]
  grind
theorem z1k:∀ l m,eqL l m=true↔l=m
 | [],[]=>by simp[eqL]
 | x::l,y::m=>by rw[eqL,Qb,z27 x y,z1k l m];simp
 | [],_::_=>by simp[eqL]
 | _::_,[]=>by simp[eqL]
end
theorem zXk:∀ {l:List zC} {x:zC},x∈l->wQ x≤yE l
 | y::l,x,h=>by
  rw[yE]
  rcases QG.1 h with rfl | h
  ·omega
  ·have:=zXk h
   omega
theorem zVS{kS:Nat->zC->zC->Option Bool}: ∀(l m pre pre':List zC),(∀ x∈l,∀ y,Ev fun k=>kS k x y=some (eqF x y))->l.length=m.length->pre.length=pre'.length->(pre++l).length≤5000->
  Ev fun k=>zJ (zAI (pre++l) (pre'++m) (kS k)) (pre.length:Int)=some (eqL l m)
 | [],[],pre,pre',_,_,_,_=>Ev.of fun k=>vM (by
  unfold zAI
  have:decide ((pre.length:Int)<len (pre++[]))=false:=QF (by simp[len])
  simp only[this,zbf,Qh]
  rfl)
 | x::l,y::m,pre,pre',hs,hl,hp,hb=>by
  have hb':pre.length+l.length+1≤5000:=by simp at hb;omega
  refine(hs x Qz y).imp2 (zVS l m (pre++[x]) (pre'++[y]) (fun z hz=>hs z (Qq _ hz)) (by grind) (by simp[hp]) (by simp;omega)) fun k e1 e2=>?_
  rw[Qo,Qo] at e2
  have h1:decide ((pre.length:Int)<len (pre++x::l))=true:=Qs (by grind)
  have h2:zD (pre++x::l) (pre.length:Int)=some x:=wV (by simp)
  have h3:zD (pre'++y::m) (pre.length:Int)=some y:=by rw[hp];exact wV (by simp)
  rw[eqL]
  cases hx:eqF x y with
  | false =>
   refine vM ?_
   unfold zAI
   grind
  | true =>
   refine(uE (t:=((pre++[x]).length:Int)) ?_).trans e2
   unfold zAI
   simp only[h1,h2,h3,Qe,zob,e1,hx,Qx,zbf,Qh]
   rw[wI pre.length (by omega)]
   simp
 | [],_::_,_,_,_,hl,_,_=>by simp at hl
 | _::_,[],_,_,_,hl,_,_=>by simp at hl
theorem zY0:∀(l m:List zC),l.length≠m.length->eqL l m=false
 | [],[],h=>absurd rfl h
 | x::l,y::m,h=>by
  rw[eqL,zY0 l m (by grind),Bool.and_false]
 | [],_::_,_=>by rw[eqL]
 | _::_,[],_=>by rw[eqL]
theorem zWx:∀(n:Nat) (f g:zC),wQ f≤n->n≤5000->Ev fun k=>zBl k f g=some (eqF f g)
 | 0,.mk a s l,g,h,_=>by rw[wQ] at h;omega
 | n+1,.mk a s l,.mk b t m,h,hn=>by
  rw[wQ] at h
  have hll:=zJC l
  have hin:∀ x∈l,∀ y,Ev fun k=>zBl k x y=some (eqF x y):=fun x hx y=>zWx n x y (by have:=zXk hx;omega) (by omega)
  have hE:Ev fun k=>zAK k l m=some (eqL l m):=by
   by_cases hlen:l.length=m.length
   ·refine Ev.suc ((zVS l m [] [] hin hlen rfl (by simp;omega)).imp fun k e=>?_)
    show(if(len l != len m)=true then some false else zJ (zAI l m (zBl k)) 0)=_
    grind
   ·refine Ev.suc (Ev.of fun k=>?_)
    show(if(len l != len m)=true then some false else zJ (zAI l m (zBl k)) 0)=_
    rw[Qm (by grind),zY0 l m hlen]
  refine Ev.suc (hE.imp fun k e=>?_)
  show(if(a==b)=true then if(s==t)=true then(zAK k l m).bind fun r1=>some r1 else some false else some false:Option Bool).bind (fun s1=>some s1)=_
  rw[e,eqF]
  grind
theorem zYu:∀(n:Nat) (f g:zC),wQ f≤n->n≤5000->Ev fun k=>zD0 k f g=some (eqF f g)
 | 0,.mk a s l,g,h,_=>by rw[wQ] at h;omega
 | n+1,.mk a s l,.mk b t m,h,hn=>by
  rw[wQ] at h
  have hll:=zJC l
  have hin:∀ x∈l,∀ y,Ev fun k=>zD0 k x y=some (eqF x y):=fun x hx y=>zYu n x y (by have:=zXk hx;omega) (by omega)
  have hs:∀ k,zD0 (k+1) (.mk a s l) (.mk b t m)=if(a != b||(!(s==t)||len l != len m))=true then some false else zJ (zAI l m (zD0 k)) 0:=fun k=>rfl
  rw[eqF]
  by_cases h1:a=b
  ·by_cases h2:s=t
   ·by_cases h3:l.length=m.length
    ·refine Ev.suc ((zVS l m [] [] hin h3 rfl (by simp;omega)).imp fun k e=>?_)
     grind
    ·refine Ev.suc (Ev.of fun k=>?_)
     rw[hs,Qm (by grind),zY0 l m h3]
     simp
   ·refine Ev.suc (Ev.of fun k=>?_)
    grind
  ·refine Ev.suc (Ev.of fun k=>?_)
   grind
theorem zXP{f:zC}(g:zC)(h:wQ f≤5000): zJ7 f g=some (eqF f g)∧zLl f g=some (eqF f g) :=
 ⟨(zWx _ f g (Qt _) h).lim,(zYu _ f g (Qt _) h).lim⟩
end
section
theorem z56:zEL=zER:=by
 funext k
 induction k with
 | zero=>rfl
 | succ k ih =>
  show(fun y0=>zJ0 (zEL k) y0)=fun y0=>zJ8 (zER k) y0
  rw[ih]
  rfl
theorem zBD{n:Int}(h0:0≤n)(h1:n≤100000): zAS n=some (Lib.itoa n):=by
 unfold zAS
 rw[z56]
 exact z15 h0 h1
theorem z5T:zAl=zJU:=rfl
theorem z6o:zIE=zKJ:=rfl
end
section
abbrev ev0:qZ:=(0,0,0,0,[],(0,0,0,(false,[]),[]),(false,[]),(0,0),(0,0,0,0),fm (0,[],[]))
def wA (n:Int): Prop:=-9223372036854775808≤n∧n≤9223372036854775807
section
variable {r:zA}{e b:Bool}{ev:qZ}
theorem zV8 (hr:r.length≤100000): zAv (r,e,b,ev)=some ((wY 32 r).1,(wY 32 r).2.1,!(wY 32 r).2.2,b||e):=by
 unfold zAv
 simp only[z67 32 (s:=r) (by omega),zob]
 grind
theorem zWJ{w:zA}{v:Int}(h0:0≤v)(h1:v≤9999)(h:Lib.itoa v=w): zVe w=some v:=by
 obtain⟨k,rfl⟩:=Q1 h0
 unfold Lib.itoa at h
 rw[Qa (by omega),Qw] at h
 subst h
 unfold zVe
 rw[Qm ⟨z29 k,z1q 4 k (by omega) (by omega)⟩,z3r]
theorem z3b{w:zA}{v:Int}(h:zVe w=some v): 0≤v∧v≤9999∧Lib.itoa v=w∧Lib.atoiAll w=.ok v:=by
 unfold zVe at h
 split at h
 ·rename_i hc
  injection h with h
  subst h
  have hd:∀ c∈w,zJW c=true:=by
   have h3:=hc.1
   unfold zNH at h3
   simp only[Qb,QK] at h3
   exact h3.1.2
  have hv:=zVX w 0 hd
  have hpow:10 ^ w.length≤10 ^ 4:=Q3 (by omega) hc.2
  refine⟨by omega,by omega,?_,z03 hc.1 hc.2⟩
  unfold Lib.itoa
  rw[Qa (by omega),Qw]
  exact z1b _ w rfl hc.1
 ·cases h
theorem sat_bd (w:zA): wA (Lib.atoiSat w):=by
 grind [Lib.atoiSat,wA]
theorem zR4 (hr:r.length≤100000): ∃ v,xH (r,e,b,ev)=some (v,(wY 32 r).2.1,!(wY 32 r).2.2,(b||e)||(zVe (wY 32 r).1).isNone)∧(∀ u,zVe (wY 32 r).1=some u->v=u)∧wA v:=by
 unfold xH
 rw[zV8 hr,zob]
 dsimp only
 have hl:(wY 32 r).1.length≤r.length:=by
  have:=congrArg List.length (zP2 32 r)
  rw[Qc] at this
  omega
 generalize (wY 32 r).1=w at hl
 unfold zJY z4t
 rw[Qm (by omega)]
 cases hn:zVe w with
 | some u =>
  obtain⟨h0,h1,h2,h3⟩:=z3b hn
  refine⟨u,?_,fun x hx=>(QE hx),by unfold wA;omega⟩
  grind [zUi]
 | none =>
  have key:∀ v:Int,wA v->((zEN v).bind fun r3=>if(!(r3==w))=true then some true else if decide (v<0)=true then some true else some (decide (9999<v)))=some true:=by
   intro v hv
   rw[zUi hv.1 hv.2,zob]
   by_cases he:Lib.itoa v=w
   ·by_cases h0:v<0
    ·grind
    ·by_cases h1:9999<v
     ·grind
     ·rw[zWJ (by omega) (by omega) he] at hn
      cases hn
   ·simp[he]
  cases ha:Lib.atoiAll w with
  | ok v =>
   have hb:=z78 ha
   refine⟨v,?_,fun x hx=>(by cases hx),hb⟩
   rw[zob]
   dsimp only
   rw[key v hb]
   grind
  | «syntax» =>
   refine⟨0,?_,fun x hx=>(by cases hx),by unfold wA;omega⟩
   grind
  | range =>
   refine⟨Lib.atoiSat w,?_,fun x hx=>(by cases hx),sat_bd w⟩
   grind
theorem zZk (hr:r.length≤100000): zA9 (r,e,b,ev)=some ((zE7 (wY 32 r).1).1,(wY 32 r).2.1,!(wY 32 r).2.2,(b||e)||(zE7 (wY 32 r).1).2 != 0):=by
 unfold zA9
 rw[zV8 hr,zob]
 dsimp only
 rw[z2G,zob]
 grind
theorem zXx{w:zA}(h:(32:UInt8)∉w): wY 32 w=(w,[],false):=by
 have h1:=z28 32 w h
 have h2:=zRN 32 w h1
 have h3:=zP2 32 w
 grind
theorem uY{n:Int}(h:0≤n): (32:UInt8)∉Lib.itoa n:=fun e=>(Wd.itoa h 32 e).1 rfl
theorem zXw{n:Int}(h0:0≤n)(h1:n≤9999): zVe (Lib.itoa n)=some n:=zWJ h0 h1 rfl
theorem zCV{n:Int}{t:zA}(h0:0≤n)(h1:n≤9999)(hr:(Lib.itoa n++32::t).length≤100000): xH (Lib.itoa n++32::t,false,false,ev)=some (n,t,false,false):=by
 obtain⟨v,h,h2,_⟩:=zR4 (e:=false) (b:=false) (ev:=ev) hr
 rw[zPO 32 _ _ (uY h0)] at h h2
 dsimp only at h h2
 rw[zXw h0 h1] at h h2
 grind
theorem wF{n:Int}(h0:0≤n)(h1:n≤9999): (Lib.itoa n).length≤4:=by
 obtain⟨k,rfl⟩:=Q1 h0
 unfold Lib.itoa
 rw[Qa (by omega)]
 exact z1q 4 k (by omega) (by omega)
theorem zSr{n:Int}(h0:0≤n)(h1:n≤9999): xH (Lib.itoa n,false,false,ev)=some (n,[],true,false):=by
 obtain⟨v,h,h2,_⟩:=zR4 (r:=Lib.itoa n) (e:=false) (b:=false) (ev:=ev) (by grind [wF])
 rw[zXx (uY h0)] at h h2
 dsimp only at h h2
 rw[zXw h0 h1] at h h2
 grind
theorem zZE{c:UInt8}(h:uM c=true): c≠32∧c≠126∧c≠10:=by
 refine⟨?_,?_,?_⟩ <;> rintro rfl <;> revert h <;> decide
theorem zZF{s:zA}(h:vName s=true): (∀ c∈s,uM c=true)∧s≠[]:=by
 cases s with
 | nil=>cases h
 | cons c r =>
  have h:(decide (r.length+1≤12)&&loB c&&r.all uM)=true:=h
  rw[Qb,Qb,QK] at h
  refine⟨fun d hd=>?_,by simp⟩
  rcases QG.1 hd with rfl | hd
  ·grind [uM]
  grind
theorem zHb{l:zE}(h:vName l.2=true): (32:UInt8)∉qH l∧qH l≠[]∧zE7 (qH l)=(l,0):=by
 obtain⟨h1,h2⟩:=zZF h
 have hs:(32:UInt8)∉l.2:=fun e=>(zZE (h1 _ e)).1 rfl
 obtain⟨g,s⟩:=l
 dsimp only at h h1 h2 hs
 unfold qH
 rw[Qm h]
 cases g with
 | true =>
  refine⟨fun e=>?_,by simp,?_⟩
  ·grind
  ·show zE7 (126::s)=_
   rw[zJb,Qm h]
 | false =>
  refine⟨hs,h2,?_⟩
  show zE7 s=_
  rw[zFk (fun r e=>by subst e;exact(zZE (h1 126 (by simp))).2.1 rfl),Qm h]
theorem zYE{l:zE}{t:zA}(h:vName l.2=true)(hr:(qH l++32::t).length≤100000): zA9 (qH l++32::t,false,false,ev)=some (l,t,false,false):=by
 obtain⟨h1,_,h3⟩:=zHb h
 rw[zZk hr,zPO 32 _ _ h1]
 grind
theorem zUt{l:zE}(h:vName l.2=true): zA9 (qH l,false,false,ev)=some (l,[],true,false):=by
 obtain⟨h1,_,h3⟩:=zHb h
 rw[zZk (by have:=yK l;omega),zXx h1]
 grind
theorem z6V{t:zA}: zCE (t,false,false,ev)=some (t,[],true,false):=rfl
end
end
section
def z1x:zA:=[112,117,116]
def zR2:zA:=[114,117,108,101]
def kWd:zA:=[119,105,116,104,100,114,97,119]
def z0n:zA:=[97,115,115,101,114,116]
def z0p:zA:=[99,104,97,108,108,101,110,103,101]
def zYc:zA:=[97,114,103,117,101]
def zVl:zA:=[98,101,99,97,117,115,101]
def z0t:zA:=[99,111,110,99,101,100,101]
def z0s:zA:=[114,101,116,114,97,99,116]
def zZw:zA:=[111,112,101,110]
def z0E:zA:=[97,116,116,97,99,107]
def z0D:zA:=[116,97,107,101,98,97,99,107]
def z0C:zA:=[103,105,118,101,117,112]
def zZ8:zA:=[100,101,99,105,100,101]
def z0q:zA:=[114,101,118,105,115,101]
def kUpd:zA:=[117,112,100,97,116,101]
def kMrg:zA:=[109,101,114,103,101]
theorem rdw{k:zA}(h:(32:UInt8)∉k){t:zA}(hl:(k++32::t).length≤100000){ev:qZ}: zAv (k++32::t,false,false,ev)=some (k,t,false,false):=by
 rw[zV8 hl,zPO 32 _ _ h]
 rfl
section
variable {n:Int}(h0:0≤n)(h1:n≤9999){t:zA}
include h0 h1
theorem z1V (hl:(z1x++32::(Lib.itoa n++32::t)).length≤100000): yM (z1x++32::(Lib.itoa n++32::t))=some ((1,n,0,0,t,(0,0,0,(false,[]),[]),(false,[]),(0,0),(0,0,0,0),fm (0,[],[])),true):=by
 have hl2:(Lib.itoa n++32::t).length≤100000:=by simp only[Qc,Qn] at hl ⊢;omega
 unfold yM zAC
 rw[zob,rdw (by decide) hl,zob]
 dsimp only
 rw[Qm (by decide),zCV h0 h1 hl2]
 rfl
theorem zZv (hl:(zR2++32::(Lib.itoa n++32::t)).length≤100000): yM (zR2++32::(Lib.itoa n++32::t))=some ((2,n,0,0,t,(0,0,0,(false,[]),[]),(false,[]),(0,0),(0,0,0,0),fm (0,[],[])),true):=by
 have hl2:(Lib.itoa n++32::t).length≤100000:=by simp only[Qc,Qn] at hl ⊢;omega
 unfold yM zAC
 rw[zob,rdw (by decide) hl,zob]
 dsimp only
 rw[Qa (by decide),Qm (by decide),zCV h0 h1 hl2]
 rfl
theorem z4v:yM (kWd++32::Lib.itoa n)=some ((3,n,0,0,[],(0,0,0,(false,[]),[]),(false,[]),(0,0),(0,0,0,0),fm (0,[],[])),true):=by
 have hl:(kWd++32::Lib.itoa n).length≤100000:=by have:=wF h0 h1;simp only[Qc,Qn];show 8+_≤_;omega
 unfold yM zAC
 rw[zob,rdw (by decide) hl,zob]
 dsimp only
 rw[Qa (by decide),Qa (by decide),Qm (by decide),zSr h0 h1]
 rfl
end
theorem zUH:∀(gs:List zE),(uK (gs.map qH)).length≤14*gs.length
 | []=>by simp[uK]
 | [g]=>by have:=yK g;simp[uK];omega
 | g::g2::gs=>by
  have h1:=yK g
  have h2:=zUH (g2::gs)
  rw[QY,QY,uK]
  rw[QY] at h2
  simp only[Qc,Qn] at h2 ⊢
  omega
section
variable {ev:qZ}{l:zE}(hv:vName l.2=true)
theorem rd_gs{y0:vJ}{k:Int}{s1:zA×Bool×Bool×Int}{r2:zE×zA×Bool×Bool}: ∀(gs acc:List zE),gs≠[]->(∀ g∈gs,vName g.2=true)->gs.length+acc.length≤1000->
  zJ (zB6 y0 k s1 r2) (uK (gs.map qH),false,false,acc)=some ([],true,false,4,k,s1.2.2.2,r2.1.1,r2.1.2,acc++gs)
 | [],_,h,_,_=>absurd rfl h
 | [g],acc,_,hg,hl=>by
  have h1:=hg g (by simp)
  refine(uE (t:=([],true,false,acc++[g])) ?_).trans (vM rfl)
  unfold zB6
  dsimp only
  rw[Qm (by decide)]
  rw[QY,List.map_nil,uK,zUt h1,zob,yC (by simp at hl ⊢;omega)]
  rfl
 | g::g2::gs,acc,_,hg,hl=>by
  have h1:=hg g (by simp)
  have hlen:(qH g++32::uK ((g2::gs).map qH)).length≤100000:=by
   have:=yK g
   have:=zUH (g2::gs)
   simp only[Qc,Qn] at this hl ⊢
   omega
  refine(uE (t:=(uK ((g2::gs).map qH),false,false,acc++[g])) ?_).trans ((rd_gs (g2::gs) (acc++[g]) (by simp) (fun x hx=>hg x (Qq _ hx)) (by simp at hl ⊢;omega)).trans (by rw[Qo];rfl))
  unfold zB6
  dsimp only
  rw[Qm (by decide)]
  rw[QY,QY,uK,←QY,zYE h1 hlen,zob,yC (by simp at hl ⊢;omega)]
  rfl
include hv
theorem z6P{k:Int}(hk:k=1∨k=4∨k=5): zAP (qH l,false,false,ev) k=some ([],true,false,4,k,ev.2.2.2.2.2.1.2.2.1,l.1,l.2,ev.2.2.2.2.2.1.2.2.2.2):=by
 unfold zAP
 rw[Qa (by rcases hk with rfl | rfl | rfl <;> decide),zob]
 dsimp only
 rw[zUt hv,zob,Qm (by rcases hk with rfl | rfl | rfl <;> decide)]
theorem rd_sp2{i:Int}(i0:0≤i)(i1:i≤9999): zAP (Lib.itoa i++32::qH l,false,false,ev) 2=some ([],true,false,4,2,i,l.1,l.2,ev.2.2.2.2.2.1.2.2.2.2):=by
 have hl:(Lib.itoa i++32::qH l).length≤100000:=by have:=wF i0 i1;have:=yK l;simp only[Qc,Qn];omega
 unfold zAP
 rw[Qm (by decide)]
 dsimp only
 rw[zCV i0 i1 hl,zob,zob]
 dsimp only
 rw[zUt hv,zob,Qm (by decide)]
theorem rd_sp3{gs:List zE}(hne:gs≠[])(hg:∀ g∈gs,vName g.2=true)(h6:gs.length≤6)(he:ev.2.2.2.2.2.1.2.2.2.2=[]): zAP (qH l++32::(zVl++32::uK (gs.map qH)),false,false,ev) 3=some ([],true,false,4,3,ev.2.2.2.2.2.1.2.2.1,l.1,l.2,gs):=by
 have hl2:(zVl++32::uK (gs.map qH)).length≤1000:=by have:=zUH gs;simp only[Qc,Qn];show 7+_≤_;omega
 have hl:(qH l++32::(zVl++32::uK (gs.map qH))).length≤100000:=by have:=yK l;rw[Qc,Qn];omega
 unfold zAP
 rw[Qa (by decide),zob]
 dsimp only
 rw[zYE hv hl,zob,Qa (by decide)]
 dsimp only
 rw[Qa (by decide),rdw (by decide) (by omega),zob,zob]
 dsimp only
 rw[he]
 exact rd_gs gs [] hne hg (by simp;omega)
end
section
variable {n:Int}(h0:0≤n)(h1:n≤9999){l:zE}
include h0 h1
abbrev zZG (n:Int)(sp:zOq): qZ:=(4,n,0,0,[],sp,(false,[]),(0,0),(0,0,0,0),fm (0,[],[]))
theorem zPQ{k:zA}(hk:k.length≤10){t:zA}(ht:t.length≤90000): (k++32::(Lib.itoa n++32::t)).length≤100000∧(Lib.itoa n++32::t).length≤100000:=by
 have:=wF h0 h1
 simp only[Qc,Qn]
 omega
theorem z1D (hv:vName l.2=true): yM (z0n++32::(Lib.itoa n++32::qH l))=some (zZG n (1,0,0,l,[]),true):=by
 obtain⟨hl,hl2⟩:=zPQ h0 h1 (k:=z0n) (by decide) (t:=qH l) (by have:=yK l;omega)
 unfold yM zAC
 rw[zob,rdw (by decide) hl,zob]
 dsimp only
 rw[Qa (by decide),Qa (by decide),Qa (by decide),Qm (by decide),zCV h0 h1 hl2,zob]
 unfold zB8
 dsimp only
 rw[z6P hv (.inl rfl)]
 rfl
theorem z2T (hv:vName l.2=true){i:Int}(i0:0≤i)(i1:i≤9999): yM (z0p++32::(Lib.itoa n++32::(Lib.itoa i++32::qH l)))=some (zZG n (2,0,i,l,[]),true):=by
 obtain⟨hl,hl2⟩:=zPQ h0 h1 (k:=z0p) (by decide) (t:=Lib.itoa i++32::qH l) (by have:=yK l;have:=wF i0 i1;simp only[Qc,Qn];omega)
 unfold yM zAC
 rw[zob,rdw (by decide) hl,zob]
 dsimp only
 rw[Qa (by decide),Qa (by decide),Qa (by decide),Qa (by decide),Qm (by decide),zCV h0 h1 hl2,zob]
 unfold zBM
 dsimp only
 rw[rd_sp2 hv i0 i1]
 rfl
theorem zVg (hv:vName l.2=true){gs:List zE}(hne:gs≠[])(hg:∀ g∈gs,vName g.2=true)(h6:gs.length≤6): yM (zYc++32::(Lib.itoa n++32::(qH l++32::(zVl++32::uK (gs.map qH)))))=some (zZG n (3,0,0,l,gs),true):=by
 obtain⟨hl,hl2⟩:=zPQ h0 h1 (k:=zYc) (by decide) (t:=qH l++32::(zVl++32::uK (gs.map qH))) (by have:=yK l;have:=zUH gs;simp only[Qc,Qn];have:zVl.length=7:=rfl;omega)
 unfold yM zAC
 rw[zob,rdw (by decide) hl,zob]
 dsimp only
 rw[Qa (by decide),Qa (by decide),Qa (by decide),Qa (by decide),Qa (by decide),Qm (by decide),zCV h0 h1 hl2,zob]
 unfold zB3
 dsimp only
 rw[rd_sp3 hv hne hg h6 rfl]
 rfl
theorem z32 (hv:vName l.2=true): yM (z0t++32::(Lib.itoa n++32::qH l))=some (zZG n (4,0,0,l,[]),true):=by
 obtain⟨hl,hl2⟩:=zPQ h0 h1 (k:=z0t) (by decide) (t:=qH l) (by have:=yK l;omega)
 unfold yM zAC
 rw[zob,rdw (by decide) hl,zob]
 dsimp only
 rw[Qa (by decide),Qa (by decide),Qa (by decide),Qa (by decide),Qa (by decide),Qa (by decide),Qm (by decide),zCV h0 h1 hl2,zob]
 unfold zB1
 dsimp only
 rw[z6P hv (.inr (.inl rfl))]
 rfl
theorem z2g (hv:vName l.2=true): yM (z0s++32::(Lib.itoa n++32::qH l))=some (zZG n (5,0,0,l,[]),true):=by
 obtain⟨hl,hl2⟩:=zPQ h0 h1 (k:=z0s) (by decide) (t:=qH l) (by have:=yK l;omega)
 unfold yM zAC
 rw[zob,rdw (by decide) hl,zob]
 dsimp only
 rw[Qa (by decide),Qa (by decide),Qa (by decide),Qa (by decide),Qa (by decide),Qa (by decide),Qa (by decide),Qm (by decide),zCV h0 h1 hl2,zob]
 unfold zB5
 dsimp only
 rw[z6P hv (.inr (.inr rfl))]
 rfl
theorem z2W (hv:vName l.2=true){a b:Int}(a0:0≤a)(a1:a≤9999)(b0:0≤b)(b1:b≤9999): yM (zZw++32::(Lib.itoa n++32::(qH l++32::(Lib.itoa a++32::Lib.itoa b))))=some ((5,n,0,0,[],(0,0,0,(false,[]),[]),l,(a,b),(0,0,0,0),fm (0,[],[])),true):=by
 have h3:(Lib.itoa a++32::Lib.itoa b).length≤10:=by have:=wF a0 a1;have:=wF b0 b1;simp only[Qc,Qn];omega
 have h4:(qH l++32::(Lib.itoa a++32::Lib.itoa b)).length≤30:=by have:=yK l;rw[Qc,Qn];omega
 obtain⟨hl,hl2⟩:=zPQ h0 h1 (k:=zZw) (by decide) (t:=qH l++32::(Lib.itoa a++32::Lib.itoa b)) (by omega)
 unfold yM zAC
 rw[zob,rdw (by decide) hl,zob]
 dsimp only
 rw[Qa (by decide),Qa (by decide),Qa (by decide),Qa (by decide),Qa (by decide),Qa (by decide),Qa (by decide),Qa (by decide),Qm (by decide),zCV h0 h1 hl2,zob]
 unfold zB7
 dsimp only
 rw[zYE hv (by omega),zob]
 dsimp only
 rw[zCV a0 a1 (by omega),zob]
 dsimp only
 rw[zSr b0 b1]
 rfl
abbrev z5P (n tr:Int)(m:zFm): qZ:=(6,n,tr,0,[],(0,0,0,(false,[]),[]),(false,[]),(0,0),m,fm (0,[],[]))
section
variable {tr pl x y:Int}(t0:0≤tr)(t1:tr≤9999)(p0:0≤pl)(p1:pl≤9999)(x0:0≤x)(x1:x≤9999)(y0:0≤y)(y1:y≤9999)
include t0 t1 p0 p1 y0 y1
theorem z26:yM (z0D++32::(Lib.itoa n++32::(Lib.itoa tr++32::(Lib.itoa pl++32::Lib.itoa y))))=some (z5P n tr (pl,3,0,y),true):=by
 have h3:(Lib.itoa pl++32::Lib.itoa y).length≤10:=by have:=wF p0 p1;have:=wF y0 y1;simp only[Qc,Qn];omega
 have h4:(Lib.itoa tr++32::(Lib.itoa pl++32::Lib.itoa y)).length≤30:=by have:=wF t0 t1;rw[Qc,Qn];omega
 obtain⟨hl,hl2⟩:=zPQ h0 h1 (k:=z0D) (by decide) (t:=Lib.itoa tr++32::(Lib.itoa pl++32::Lib.itoa y)) (by omega)
 unfold yM zAC
 rw[zob,rdw (by decide) hl,zob]
 dsimp only
 rw[Qa (by decide),Qa (by decide),Qa (by decide),Qa (by decide),Qa (by decide),Qa (by decide),Qa (by decide),Qa (by decide),Qa (by decide),Qa (by decide),Qm (by decide),zCV h0 h1 hl2,zob]
 unfold zBW zAw
 dsimp only
 rw[zCV t0 t1 (by omega),zob]
 dsimp only
 rw[zCV p0 p1 (by omega),zob,Qa (by decide),zob,Qm (by decide)]
 dsimp only
 rw[zSr y0 y1]
 rfl
include x0 x1
theorem z3K:yM (z0E++32::(Lib.itoa n++32::(Lib.itoa tr++32::(Lib.itoa pl++32::(Lib.itoa x++32::Lib.itoa y)))))=some (z5P n tr (pl,2,x,y),true):=by
 have h2:(Lib.itoa x++32::Lib.itoa y).length≤10:=by have:=wF x0 x1;have:=wF y0 y1;simp only[Qc,Qn];omega
 have h3:(Lib.itoa pl++32::(Lib.itoa x++32::Lib.itoa y)).length≤20:=by have:=wF p0 p1;rw[Qc,Qn];omega
 have h4:(Lib.itoa tr++32::(Lib.itoa pl++32::(Lib.itoa x++32::Lib.itoa y))).length≤30:=by have:=wF t0 t1;rw[Qc,Qn];omega
 obtain⟨hl,hl2⟩:=zPQ h0 h1 (k:=z0E) (by decide) (t:=Lib.itoa tr++32::(Lib.itoa pl++32::(Lib.itoa x++32::Lib.itoa y))) (by omega)
 unfold yM zAC
 rw[zob,rdw (by decide) hl,zob]
 dsimp only
 rw[Qa (by decide),Qa (by decide),Qa (by decide),Qa (by decide),Qa (by decide),Qa (by decide),Qa (by decide),Qa (by decide),Qa (by decide),Qm (by decide),zCV h0 h1 hl2,zob]
 unfold zBQ zAw
 dsimp only
 rw[zCV t0 t1 (by omega),zob]
 dsimp only
 rw[zCV p0 p1 (by omega),zob,Qm (by decide)]
 dsimp only
 rw[zCV x0 x1 (by omega),zob,zob,Qm (by decide)]
 dsimp only
 rw[zSr y0 y1]
 rfl
end
theorem z2a{tr pl:Int}(t0:0≤tr)(t1:tr≤9999)(p0:0≤pl)(p1:pl≤9999): yM (z0C++32::(Lib.itoa n++32::(Lib.itoa tr++32::Lib.itoa pl)))=some (z5P n tr (pl,4,0,0),true):=by
 have h4:(Lib.itoa tr++32::Lib.itoa pl).length≤30:=by have:=wF t0 t1;have:=wF p0 p1;rw[Qc,Qn];omega
 obtain⟨hl,hl2⟩:=zPQ h0 h1 (k:=z0C) (by decide) (t:=Lib.itoa tr++32::Lib.itoa pl) (by omega)
 unfold yM zAC
 rw[zob,rdw (by decide) hl,zob]
 dsimp only
 rw[Qa (by decide),Qa (by decide),Qa (by decide),Qa (by decide),Qa (by decide),Qa (by decide),Qa (by decide),Qa (by decide),Qa (by decide),Qa (by decide),Qa (by decide),Qm (by decide),zCV h0 h1 hl2,zob]
 unfold zBU zAw
 dsimp only
 rw[zCV t0 t1 (by omega),zob]
 dsimp only
 rw[zSr p0 p1,zob,Qa (by decide),zob,Qa (by decide)]
 rfl
theorem zXM (hv:vName l.2=true){d:Int}(d0:0≤d)(d1:d≤9999): yM (zZ8++32::(Lib.itoa n++32::(Lib.itoa d++32::qH l)))=some ((7,n,0,d,[],(0,0,0,(false,[]),[]),l,(0,0),(0,0,0,0),fm (0,[],[])),true):=by
 have h4:(Lib.itoa d++32::qH l).length≤30:=by have:=wF d0 d1;have:=yK l;rw[Qc,Qn];omega
 obtain⟨hl,hl2⟩:=zPQ h0 h1 (k:=zZ8) (by decide) (t:=Lib.itoa d++32::qH l) (by omega)
 unfold yM zAC
 rw[zob,rdw (by decide) hl,zob]
 dsimp only
 rw[Qa (by decide),Qa (by decide),Qa (by decide),Qa (by decide),Qa (by decide),Qa (by decide),Qa (by decide),Qa (by decide),Qa (by decide),Qa (by decide),Qa (by decide),Qa (by decide),Qm (by decide),zCV h0 h1 hl2,zob]
 unfold zBS
 dsimp only
 rw[zCV d0 d1 (by omega),zob]
 dsimp only
 rw[zUt hv]
 rfl
def kCh (k:Int): zA:=if k=8 then z0q else if k=9 then kUpd else kMrg
theorem z79{k d:Int}(d0:0≤d)(d1:d≤9999){t:zA}(ht:t.length≤80000){ev:qZ}{f:zC}{o c:Int}(hp:zB9 t=some (f,o,c)): zAu (Lib.itoa d++32::t,false,false,ev) k=some ([],true,c != 0,k,d,(fv f).1,(fv f).2.1,(fv f).2.2):=by
 have _:=h0
 have _:=h1
 have hl:(Lib.itoa d++32::t).length≤100000:=by have:=wF d0 d1;rw[Qc,Qn];omega
 unfold zAu zBm
 rw[zCV d0 d1 hl,zob]
 dsimp only
 rw[z6V,zob]
 dsimp only
 rw[hp]
 rfl
theorem zZ7{k d:Int}(hk:k=8∨k=9∨k=10)(d0:0≤d)(d1:d≤9999){t:zA}(ht:t.length≤80000){f:zC}{o c:Int}(hp:zB9 t=some (f,o,c)): yM (kCh k++32::(Lib.itoa n++32::(Lib.itoa d++32::t)))=some ((k,n,0,d,[],(0,0,0,(false,[]),[]),(false,[]),(0,0),(0,0,0,0),f),c==0):=by
 have h4:(Lib.itoa d++32::t).length≤90000:=by have:=wF d0 d1;rw[Qc,Qn];omega
 have hfin:∀ b:Bool,b=(c != 0)->(!b)=(c==0):=fun b hb=>by rw[hb];cases h:c==0 <;> simp[bne,h]
 obtain⟨op,s,ls⟩:=f
 rcases hk with rfl | rfl | rfl
 ·obtain⟨hl,hl2⟩:=zPQ h0 h1 (k:=z0q) (by decide) (t:=Lib.itoa d++32::t) h4
  show yM (z0q++32::(Lib.itoa n++32::(Lib.itoa d++32::t)))=_
  unfold yM zAC
  rw[zob,rdw (by decide) hl,zob]
  dsimp only
  rw[Qa (by decide),Qa (by decide),Qa (by decide),Qa (by decide),Qa (by decide),Qa (by decide),Qa (by decide),Qa (by decide),Qa (by decide),Qa (by decide),Qa (by decide),Qa (by decide),Qa (by decide),Qm (by decide),zCV h0 h1 hl2,zob]
  unfold zBR
  dsimp only
  rw[z79 h0 h1 d0 d1 ht hp,zob,zob,←hfin _ rfl]
  cases c != 0 <;> rfl
 ·obtain⟨hl,hl2⟩:=zPQ h0 h1 (k:=kUpd) (by decide) (t:=Lib.itoa d++32::t) h4
  show yM (kUpd++32::(Lib.itoa n++32::(Lib.itoa d++32::t)))=_
  unfold yM zAC
  rw[zob,rdw (by decide) hl,zob]
  dsimp only
  rw[Qa (by decide),Qa (by decide),Qa (by decide),Qa (by decide),Qa (by decide),Qa (by decide),Qa (by decide),Qa (by decide),Qa (by decide),Qa (by decide),Qa (by decide),Qa (by decide),Qa (by decide),Qa (by decide),Qm (by decide),zCV h0 h1 hl2,zob]
  unfold zBT
  dsimp only
  rw[z79 h0 h1 d0 d1 ht hp,zob,zob,←hfin _ rfl]
  cases c != 0 <;> rfl
 ·obtain⟨hl,hl2⟩:=zPQ h0 h1 (k:=kMrg) (by decide) (t:=Lib.itoa d++32::t) h4
  show yM (kMrg++32::(Lib.itoa n++32::(Lib.itoa d++32::t)))=_
  unfold yM zAC
  rw[zob,rdw (by decide) hl,zob]
  dsimp only
  rw[Qa (by decide),Qa (by decide),Qa (by decide),Qa (by decide),Qa (by decide),Qa (by decide),Qa (by decide),Qa (by decide),Qa (by decide),Qa (by decide),Qa (by decide),Qa (by decide),Qa (by decide),Qa (by decide),Qa (by decide),Qm (by decide),zCV h0 h1 hl2,zob]
  unfold zBV
  dsimp only
  rw[z79 h0 h1 d0 d1 ht hp,zob,zob,←hfin _ rfl]
  cases c != 0 <;> rfl
end
end
section
theorem z0i (l:List zA)(i:Nat): xX l (i:Int)=some (l.getD i []):=by
 unfold xX
 by_cases h:i<l.length
 ·have:decide ((i:Int)<len l)=true:=Qs (by grind)
  rw[Qm this,tV,Qi h,zob]
  grind
 grind
theorem at1 (l:List zA): xX l 1=some (l.getD 1 []):=z0i l 1
theorem at2 (l:List zA): xX l 2=some (l.getD 2 []):=z0i l 2
theorem at3 (l:List zA): xX l 3=some (l.getD 3 []):=z0i l 3
theorem at4 (l:List zA): xX l 4=some (l.getD 4 []):=z0i l 4
theorem at5 (l:List zA): xX l 5=some (l.getD 5 []):=z0i l 5
theorem zXd (w:zA)(l:List zA): zD (w::l) 0=some w:=by
 rw[show(0:Int)=((0:Nat):Int) from rfl,tV]
 rfl
theorem num41{w:zA}(h:w.length≤5000): zAl w=some ((zVe w).getD (-1)):=by
 rw[z5T]
 exact z38 h
theorem tC{n:Int}(h0:0≤n)(h1:n≤9999): zAl (Lib.itoa n)=some n:=by grind [num41,wF,zXw]
theorem zCF{s:zA}(h:s.length≤5000): zIE s=some (xD 32 s):=by
 rw[z6o]
 exact z5S h
theorem uA{w:zA}(h:(32:UInt8)∉w)(t:zA): xD 32 (w++32::t)=w::xD 32 t:=by
 rw[zJg,zPO 32 w t h,Qm rfl]
theorem zFw{w:zA}(h:(32:UInt8)∉w): xD 32 w=[w]:=by
 rw[zJg,zXx h]
 rfl
def rst:Nat->zA->zA
 | _,[]=>[]
 | k,c::r=>if c=32 then(if k=1 then r else rst (k-1) r) else rst k r
theorem zLP:∀ {w:zA},(32:UInt8)∉w->∀(k:Nat) (t:zA),rst k (w++32::t)=if k=1 then t else rst (k-1) t
 | [],_,k,t=>by
  show(if(32:UInt8)=32 then _ else _)=_
  grind
 | c::w,h,k,t=>by
  have h1:c≠32:=fun e=>h (by simp[e])
  have h2:(32:UInt8)∉w:=fun e=>h (by simp[e])
  show(if c=32 then _ else rst k (w++32::t))=_
  rw[Qa h1]
  exact zLP h2 k t
theorem zUT{S:zA}(hl:S.length≤5000): ∀(R:zA) (i k:Nat),S.drop i=R->i≤S.length->1≤k->k≤100->zJ (zDP S) ((k:Int),(i:Int))=some (rst k R)
 | [],i,k,h,hi,_,_=>by
  have hn:=zGr h hi
  simp at hn
  refine vM ?_
  unfold zDP
  have:decide ((i:Int)<len S)=false:=QF (by grind)
  simp only[this,zbf,Qh]
  rfl
 | c::r,i,k,h,hi,hk,hk2=>by
  have hn:=zGr h hi
  simp at hn
  have h1:decide ((i:Int)<len S)=true:=Qs (by grind)
  have hx:S[i]?=some c:=by have:=zLO (j:=0) h;simpa using this
  have hd:S.drop (i+1)=r:=by
   have:=congrArg List.tail h
   rw[U4] at this
   simpa using this
  show zJ _ _=some (if c=32 then(if k=1 then r else rst (k-1) r) else rst k r)
  by_cases hc:c=32
  ·subst hc
   rw[Qm rfl]
   have e32:(((32:UInt8).toNat:Int)==32)=true:=rfl
   have ew:zF ((k:Int)-1)=((k-1:Nat):Int):=by rw[yL (by omega) (by omega)];omega
   by_cases h1k:k=1
   ·subst h1k
    rw[Qm rfl]
    refine vM ?_
    unfold zDP
    have e0:(zF (((1:Nat):Int)-1)==0)=true:=by decide
    simp only[h1,Qe,zCn,hx,QW,zob,e32,e0]
    rw[wI i (by omega),zJw (by omega) (by grind) (by simp[len])]
    simp only[Qw,len,Q7,zob,hd]
   ·rw[Qa h1k]
    refine(uE (t:=(((k-1:Nat):Int),((i+1:Nat):Int))) ?_).trans (zUT hl r (i+1) (k-1) hd (by omega) (by omega) (by omega))
    unfold zDP
    have e0:(((k-1:Nat):Int)==0)=false:=by rw[Qr];omega
    simp only[h1,Qe,zCn,hx,QW,zob,e32,ew,e0,zbf,Qh]
    rw[wI i (by omega)]
  ·rw[Qa hc]
   refine(uE (t:=((k:Int),((i+1:Nat):Int))) ?_).trans (zUT hl r (i+1) k hd (by omega) hk hk2)
   unfold zDP
   have e32:((c.toNat:Int)==32)=false:=by
    simp only[Qr]
    intro e
    exact hc (UInt8.toNat_inj.1 (by grind))
   simp only[h1,Qe,zCn,hx,QW,zob,e32,zbf,Qh]
   rw[wI i (by omega)]
theorem z4m{S:zA}(hl:S.length≤5000): zEr S 2=some (rst 2 S):=zUT hl S 0 2 rfl (by omega) (by omega) (by omega)
theorem rest3{S:zA}(hl:S.length≤5000): zEr S 3=some (rst 3 S):=zUT hl S 0 3 rfl (by omega) (by omega) (by omega)
section
variable {n:Int}(h0:0≤n)(h1:n≤9999){t:zA}{l:zE}
include h0 h1
theorem z1T (hl:(z1x++32::(Lib.itoa n++32::t)).length≤5000): uN (z1x++32::(Lib.itoa n++32::t))=some (1,n,0,0,t,(0,0,0,(false,[]),[]),(false,[]),(0,0),(0,0,0,0),fm (0,[],[])):=by
 unfold uN
 rw[zCF hl,zob,uA (by decide),uA (uY h0),at1,zob,Qd,Qp,tC h0 h1,zob]
 rw[zXd,zob,Qm (by decide),z4m hl,zLP (by decide),Qa (by decide),zLP (uY h0),Qm rfl]
 rfl
theorem z0S (hl:(zR2++32::(Lib.itoa n++32::t)).length≤5000): uN (zR2++32::(Lib.itoa n++32::t))=some (2,n,0,0,t,(0,0,0,(false,[]),[]),(false,[]),(0,0),(0,0,0,0),fm (0,[],[])):=by
 unfold uN
 rw[zCF hl,zob,uA (by decide),uA (uY h0),at1,zob,Qd,Qp,tC h0 h1,zob]
 simp only[zXd,zob]
 rw[Qa (by decide),Qm (by decide),z4m hl,zLP (by decide),Qa (by decide),zLP (uY h0),Qm rfl]
 rfl
theorem z3s:uN (kWd++32::Lib.itoa n)=some (3,n,0,0,[],(0,0,0,(false,[]),[]),(false,[]),(0,0),(0,0,0,0),fm (0,[],[])):=by
 have hl:(kWd++32::Lib.itoa n).length≤5000:=by have:=wF h0 h1;simp only[Qc,Qn];show 8+_≤_;omega
 unfold uN
 rw[zCF hl,zob,uA (by decide),zFw (uY h0),at1,zob,Qd,Qp,tC h0 h1,zob]
 simp only[zXd,zob]
 rw[Qa (by decide),Qa (by decide),Qm (by decide)]
 rfl
theorem zLw (hv:vName l.2=true): zCY (qH l)=some (l,0):=by
 have _:=h0
 have _:=h1
 rw[zXR,(zHb hv).2.2]
theorem z2u{k:zA}(hk:k.length≤10){t:zA}(ht:t.length≤4000): (k++32::(Lib.itoa n++32::t)).length≤5000:=by
 have:=wF h0 h1
 grind
theorem z1i (hv:vName l.2=true): uN (z0n++32::(Lib.itoa n++32::qH l))=some (zZG n (1,0,0,l,[])):=by
 have hl:=z2u h0 h1 (k:=z0n) (by decide) (t:=qH l) (by have:=yK l;omega)
 unfold uN
 rw[zCF hl,zob,uA (by decide),uA (uY h0),zFw (zHb hv).1,at1,zob,Qd,Qp,tC h0 h1,zob]
 simp only[zXd,zob]
 rw[Qa (by decide),Qa (by decide),Qa (by decide),show zAV z0n=some 1 from rfl,zob,Qm (by decide),zob,Qa (by decide),zob]
 dsimp only
 rw[at2,zob,Qd,Qd,Qp,zLw h0 h1 hv,zob]
 exact(congrArg (fun o:Option _=>o.bind _) (vM rfl)).trans rfl
theorem z2X (hv:vName l.2=true): uN (z0t++32::(Lib.itoa n++32::qH l))=some (zZG n (4,0,0,l,[])):=by
 have hl:=z2u h0 h1 (k:=z0t) (by decide) (t:=qH l) (by have:=yK l;omega)
 unfold uN
 rw[zCF hl,zob,uA (by decide),uA (uY h0),zFw (zHb hv).1,at1,zob,Qd,Qp,tC h0 h1,zob]
 simp only[zXd,zob]
 rw[Qa (by decide),Qa (by decide),Qa (by decide),show zAV z0t=some 4 from rfl,zob,Qm (by decide),zob,Qa (by decide),zob]
 dsimp only
 rw[at2,zob,Qd,Qd,Qp,zLw h0 h1 hv,zob]
 exact(congrArg (fun o:Option _=>o.bind _) (vM rfl)).trans rfl
theorem z39 (hv:vName l.2=true): uN (z0s++32::(Lib.itoa n++32::qH l))=some (zZG n (5,0,0,l,[])):=by
 have hl:=z2u h0 h1 (k:=z0s) (by decide) (t:=qH l) (by have:=yK l;omega)
 unfold uN
 rw[zCF hl,zob,uA (by decide),uA (uY h0),zFw (zHb hv).1,at1,zob,Qd,Qp,tC h0 h1,zob]
 simp only[zXd,zob]
 rw[Qa (by decide),Qa (by decide),Qa (by decide),show zAV z0s=some 5 from rfl,zob,Qm (by decide),zob,Qa (by decide),zob]
 dsimp only
 rw[at2,zob,Qd,Qd,Qp,zLw h0 h1 hv,zob]
 exact(congrArg (fun o:Option _=>o.bind _) (vM rfl)).trans rfl
theorem z2k (hv:vName l.2=true){i:Int}(i0:0≤i)(i1:i≤9999): uN (z0p++32::(Lib.itoa n++32::(Lib.itoa i++32::qH l)))=some (zZG n (2,0,i,l,[])):=by
 have hl:=z2u h0 h1 (k:=z0p) (by decide) (t:=Lib.itoa i++32::qH l) (by grind [yK,wF])
 unfold uN
 rw[zCF hl,zob,uA (by decide),uA (uY h0),uA (uY i0),zFw (zHb hv).1,at1,zob,Qd,Qp,tC h0 h1,zob]
 simp only[zXd,zob]
 rw[Qa (by decide),Qa (by decide),Qa (by decide),show zAV z0p=some 2 from rfl,zob,Qm (by decide),zob,Qm (by decide),at2,zob,Qd,Qd,Qp,tC i0 i1,zob,zob]
 dsimp only
 rw[at3,zob,Qd,Qd,Qd,Qp,zLw h0 h1 hv,zob]
 exact(congrArg (fun o:Option _=>o.bind _) (vM rfl)).trans rfl
theorem z5A{gs:List zE}(hne:gs≠[])(hg:∀ g∈gs,vName g.2=true): xD 32 (uK (gs.map qH))=gs.map qH:=by
 have _:=h0
 have _:=h1
 refine zYv _ (by simpa using hne) fun w hw=>?_
 obtain⟨g,hgm,rfl⟩:=QB.1 hw
 intro c hc
 refine⟨fun e=>(zHb (hg g hgm)).1 (e▸hc),?_⟩
 rintro rfl
 have h:=hg g hgm
 obtain⟨h1,_⟩:=zZF h
 unfold qH at hc
 rw[Qm h] at hc
 split at hc
 ·rcases QG.1 hc with e | e
  ·cases e
  ·exact(zZE (h1 10 e)).2.2 rfl
 ·exact(zZE (h1 10 hc)).2.2 rfl
theorem z1B{s2:Int×Int}{r11:zE×Int}: ∀(gs acc:List zE) (pre:List zA),pre.length=4+acc.length->(∀ g∈gs,vName g.2=true)->gs.length+acc.length≤1000->
  zJ (zDU (pre++gs.map qH) 3 s2 r11) ((pre.length:Int),acc)=some (4,0,0,[],3,s2.2,r11.1.1,r11.1.2,acc++gs,false,[],0,0,0,0,0,0,0,[],[])
 | [],acc,pre,hp,_,_=>by
  refine vM ?_
  unfold zDU
  grind
 | g::gs,acc,pre,hp,hg,hl=>by
  have h1':=hg g (by simp)
  have ih:=z1B (s2:=s2) (r11:=r11) gs (acc++[g]) (pre++[qH g]) (by simp;omega) (fun x hx=>hg x (Qq _ hx)) (by grind)
  rw[Qo] at ih
  refine(uE (t:=(((pre++[qH g]).length:Int),acc++[g])) ?_).trans (ih.trans (by grind))
  unfold zDU
  have e1:decide ((pre.length:Int)<len (pre++(g::gs).map qH))=true:=Qs (by grind)
  have e2:zD (pre++(g::gs).map qH) (pre.length:Int)=some (qH g):=wV (by simp)
  have e3:((3:Int)==3)=true:=rfl
  simp only[e1,e3,Bool.and_self,Qe,e2,zob,zLw h0 h1 h1']
  rw[yC (by grind),zob,wI pre.length (by grind)]
  simp
theorem z3V (hv:vName l.2=true){gs:List zE}(hne:gs≠[])(hg:∀ g∈gs,vName g.2=true)(h6:gs.length≤6): uN (zYc++32::(Lib.itoa n++32::(qH l++32::(zVl++32::uK (gs.map qH)))))=some (zZG n (3,0,0,l,gs)):=by
 have hl:=z2u h0 h1 (k:=zYc) (by decide) (t:=qH l++32::(zVl++32::uK (gs.map qH))) (by have:=yK l;have:=zUH gs;simp only[Qc,Qn];have:zVl.length=7:=rfl;omega)
 unfold uN
 rw[zCF hl,zob,uA (by decide),uA (uY h0),uA (zHb hv).1,uA (by decide),z5A h0 h1 hne hg,at1,zob,Qd,Qp,tC h0 h1,zob]
 simp only[zXd,zob]
 rw[Qa (by decide),Qa (by decide),Qa (by decide),show zAV zYc=some 3 from rfl,zob,Qm (by decide),zob,Qa (by decide),zob]
 dsimp only
 rw[at2,zob,Qd,Qd,Qp,zLw h0 h1 hv,zob]
 have h:=z1B h0 h1 (s2:=(2,0)) (r11:=(l,0)) gs [] [zYc,Lib.itoa n,qH l,zVl] rfl hg (by simp;omega)
 grind
theorem z1C (hv:vName l.2=true){a b:Int}(a0:0≤a)(a1:a≤9999)(b0:0≤b)(b1:b≤9999): uN (zZw++32::(Lib.itoa n++32::(qH l++32::(Lib.itoa a++32::Lib.itoa b))))=some (5,n,0,0,[],(0,0,0,(false,[]),[]),l,(a,b),(0,0,0,0),fm (0,[],[])):=by
 have hl:=z2u h0 h1 (k:=zZw) (by decide) (t:=qH l++32::(Lib.itoa a++32::Lib.itoa b)) (by have:=yK l;have:=wF a0 a1;have:=wF b0 b1;grind)
 unfold uN
 rw[zCF hl,zob,uA (by decide),uA (uY h0),uA (zHb hv).1,uA (uY a0),zFw (uY b0),at1,zob,Qd,Qp,tC h0 h1,zob]
 simp only[zXd,zob]
 rw[Qa (by decide),Qa (by decide),Qa (by decide),show zAV zZw=some 0 from rfl,zob,Qa (by decide),Qm (by decide),at3,zob,Qd,Qd,Qd,Qp,tC a0 a1,zob,at4,zob,Qd,Qd,Qd,Qd,Qp,tC b0 b1,zob,at2,zob,Qd,Qd,Qp,zLw h0 h1 hv]
 rfl
theorem z2n{tr pl:Int}(t0:0≤tr)(t1:tr≤9999)(p0:0≤pl)(p1:pl≤9999): uN (z0C++32::(Lib.itoa n++32::(Lib.itoa tr++32::Lib.itoa pl)))=some (z5P n tr (pl,4,0,0)):=by
 have hl:=z2u h0 h1 (k:=z0C) (by decide) (t:=Lib.itoa tr++32::Lib.itoa pl) (by grind [wF])
 unfold uN
 rw[zCF hl,zob,uA (by decide),uA (uY h0),uA (uY t0),zFw (uY p0),at1,zob,Qd,Qp,tC h0 h1,zob]
 simp only[zXd,zob]
 rw[Qa (by decide),Qa (by decide),Qa (by decide),show zAV z0C=some 0 from rfl,zob,Qa (by decide),Qa (by decide),show zBN z0C=some 4 from rfl,zob,Qm (by decide),at2,zob,Qd,Qd,Qp,tC t0 t1,zob,at3,zob,Qd,Qd,Qd,Qp,tC p0 p1]
 rfl
section
variable {tr pl x y:Int}(t0:0≤tr)(t1:tr≤9999)(p0:0≤pl)(p1:pl≤9999)(x0:0≤x)(x1:x≤9999)(y0:0≤y)(y1:y≤9999)
include t0 t1 p0 p1 y0 y1
theorem z3N:uN (z0D++32::(Lib.itoa n++32::(Lib.itoa tr++32::(Lib.itoa pl++32::Lib.itoa y))))=some (z5P n tr (pl,3,0,y)):=by
 have hl:=z2u h0 h1 (k:=z0D) (by decide) (t:=Lib.itoa tr++32::(Lib.itoa pl++32::Lib.itoa y)) (by grind [wF])
 unfold uN
 rw[zCF hl,zob,uA (by decide),uA (uY h0),uA (uY t0),uA (uY p0),zFw (uY y0),at1,zob,Qd,Qp,tC h0 h1,zob]
 simp only[zXd,zob]
 rw[Qa (by decide),Qa (by decide),Qa (by decide),show zAV z0D=some 0 from rfl,zob,Qa (by decide),Qa (by decide),show zBN z0D=some 3 from rfl,zob,Qm (by decide),at2,zob,Qd,Qd,Qp,tC t0 t1,zob,at3,zob,Qd,Qd,Qd,Qp,tC p0 p1,zob,zob,Qa (by decide),Qm (by decide),at4,zob,Qd,Qd,Qd,Qd,Qp,tC y0 y1]
 rfl
include x0 x1
theorem z11:uN (z0E++32::(Lib.itoa n++32::(Lib.itoa tr++32::(Lib.itoa pl++32::(Lib.itoa x++32::Lib.itoa y)))))=some (z5P n tr (pl,2,x,y)):=by
 have hl:=z2u h0 h1 (k:=z0E) (by decide) (t:=Lib.itoa tr++32::(Lib.itoa pl++32::(Lib.itoa x++32::Lib.itoa y))) (by grind [wF])
 unfold uN
 rw[zCF hl,zob,uA (by decide),uA (uY h0),uA (uY t0),uA (uY p0),uA (uY x0),zFw (uY y0),at1,zob,Qd,Qp,tC h0 h1,zob]
 simp only[zXd,zob]
 rw[Qa (by decide),Qa (by decide),Qa (by decide),show zAV z0E=some 0 from rfl,zob,Qa (by decide),Qa (by decide),show zBN z0E=some 2 from rfl,zob,Qm (by decide),at2,zob,Qd,Qd,Qp,tC t0 t1,zob,at3,zob,Qd,Qd,Qd,Qp,tC p0 p1,zob,zob,Qm (by decide),at4,zob,Qd,Qd,Qd,Qd,Qp,tC x0 x1,zob,at5,zob,Qd,Qd,Qd,Qd,Qd,Qp,tC y0 y1]
 rfl
end
theorem z3J (hv:vName l.2=true){d:Int}(d0:0≤d)(d1:d≤9999): uN (zZ8++32::(Lib.itoa n++32::(Lib.itoa d++32::qH l)))=some (7,n,0,d,[],(0,0,0,(false,[]),[]),l,(0,0),(0,0,0,0),fm (0,[],[])):=by
 have hl:=z2u h0 h1 (k:=zZ8) (by decide) (t:=Lib.itoa d++32::qH l) (by grind [yK,wF])
 unfold uN
 rw[zCF hl,zob,uA (by decide),uA (uY h0),uA (uY d0),zFw (zHb hv).1,at1,zob,Qd,Qp,tC h0 h1,zob]
 simp only[zXd,zob]
 rw[Qa (by decide),Qa (by decide),Qa (by decide),show zAV zZ8=some 0 from rfl,zob,Qa (by decide),Qa (by decide),show zBN zZ8=some 0 from rfl,zob,Qa (by decide),Qm (by decide),at2,zob,Qd,Qd,Qp,tC d0 d1,zob,at3,zob,Qd,Qd,Qd,Qp,zLw h0 h1 hv]
 rfl
theorem z4Z{k d:Int}(hk:k=8∨k=9∨k=10)(d0:0≤d)(d1:d≤9999){t:zA}(ht:t.length≤3000){f:zC}{o c:Int}(hp:zC2 t=some (f,o,c)): uN (kCh k++32::(Lib.itoa n++32::(Lib.itoa d++32::t)))=some (k,n,0,d,[],(0,0,0,(false,[]),[]),(false,[]),(0,0),(0,0,0,0),f):=by
 have h3:(32:UInt8)∉kCh k∧(kCh k).length≤10∧zAV (kCh k)=some 0∧zBN (kCh k)=some 0∧zCD (kCh k)=some k∧((kCh k==[112,117,116])=false∧(kCh k==[114,117,108,101])=false∧(kCh k==[119,105,116,104,100,114,97,119])=false∧(kCh k==[111,112,101,110])=false∧(kCh k==[100,101,99,105,100,101])=false)∧decide (0<k)=true:=by
  rcases hk with rfl | rfl | rfl <;> exact⟨by decide,by decide,rfl,rfl,rfl,⟨rfl,rfl,rfl,rfl,rfl⟩,rfl⟩
 obtain⟨a1,a2,a3,a4,a5,⟨a6,a7,a8,a9,wE⟩,qG⟩:=h3
 have hl:=z2u h0 h1 a2 (t:=Lib.itoa d++32::t) (by grind [wF])
 have hr:zEr (kCh k++32::(Lib.itoa n++32::(Lib.itoa d++32::t))) 3=some t:=by
  rw[rest3 hl,zLP a1,Qa (by decide),zLP (uY h0),Qa (by decide),zLP (uY d0),Qm rfl]
 obtain⟨op,s,ls⟩:=f
 unfold uN
 rw[zCF hl,zob,uA a1,uA (uY h0),uA (uY d0),at1,zob,Qd,Qp,tC h0 h1,zob]
 simp only[zXd,zob,a6,a7,a8,a9,wE,zbf,Qh,a3,a4,a5,qG,Qe,show decide ((0:Int)<0)=false from rfl,at2,Qd,Qp,tC d0 d1,hr,hp]
 rfl
end
end
section
theorem zTw:∀(l m pre pre':List zE),l.length=m.length->pre.length=pre'.length->(pre++l).length≤100000->zJ (zB4 (pre++l) (pre'++m)) (pre.length:Int)=some (decide (l=m))
 | [],[],pre,pre',_,_,_=>vM (by
  unfold zB4
  grind)
 | x::l,y::m,pre,pre',hl,hp,hb=>by
  have hb':pre.length+l.length+1≤100000:=by simp at hb;omega
  have ih:=zTw l m (pre++[x]) (pre'++[y]) (by grind) (by simp[hp]) (by simp;omega)
  rw[Qo,Qo] at ih
  have h1:decide ((pre.length:Int)<len (pre++x::l))=true:=Qs (by grind)
  have h2:zD (pre++x::l) (pre.length:Int)=some x:=wV (by simp)
  have h3:zD (pre'++y::m) (pre.length:Int)=some y:=by rw[hp];exact wV (by simp)
  by_cases hx:x=y
  ·subst hx
   refine(uE (t:=((pre++[x]).length:Int)) ?_).trans (ih.trans (by simp))
   unfold zB4
   simp only[h1,h2,h3,Qe,zob,QQ,Qx,zbf,Qh]
   rw[wI pre.length (by omega)]
   simp
  ·have hf:decide (x::l=y::m)=false:=QF (by simp[hx])
   have hb2:(x==y)=false:=by simpa using hx
   rw[hf]
   refine vM ?_
   unfold zB4
   grind
 | [],_::_,_,_,hl,_,_=>by simp at hl
 | _::_,[],_,_,hl,_,_=>by simp at hl
theorem eqLit{l m:List zE}(h:l.length≤100000): zBw l m=some (decide (l=m)):=by
 unfold zBw
 by_cases hl:l.length=m.length
 ·rw[Qa (by grind)]
  exact zTw l m [] [] hl rfl (by grind)
 ·rw[Qm (by grind),QF (fun e=>hl (by rw[e]))]
theorem sameGr:zGL=zBw:=rfl
def eqE (a b:qZ): Bool :=
 a.1==b.1&&(a.2.1==b.2.1&&(a.2.2.1==b.2.2.1&&(a.2.2.2.1==b.2.2.2.1&&(a.2.2.2.2.1==b.2.2.2.2.1&&(a.2.2.2.2.2.1.1==b.2.2.2.2.2.1.1&&(a.2.2.2.2.2.1.2.1==b.2.2.2.2.2.1.2.1&&(a.2.2.2.2.2.1.2.2.1==b.2.2.2.2.2.1.2.2.1&&(a.2.2.2.2.2.1.2.2.2.1==b.2.2.2.2.2.1.2.2.2.1&&(decide (a.2.2.2.2.2.1.2.2.2.2=b.2.2.2.2.2.1.2.2.2.2)&&(a.2.2.2.2.2.2.1==b.2.2.2.2.2.2.1&&(a.2.2.2.2.2.2.2.1==b.2.2.2.2.2.2.2.1&&(a.2.2.2.2.2.2.2.2.1==b.2.2.2.2.2.2.2.2.1&&eqF a.2.2.2.2.2.2.2.2.2 b.2.2.2.2.2.2.2.2.2))))))))))))
theorem zYC{a b:qZ}: eqE a b=true↔a=b:=by
 obtain⟨a1,a2,a3,a4,a5,⟨a6,a7,a8,a9,wE⟩,qG,qQ,a13,a14⟩:=a
 obtain⟨b1,b2,b3,b4,b5,⟨b6,b7,b8,b9,b10⟩,b11,b12,b13,b14⟩:=b
 unfold eqE
 simp only[Qb,QH,Ql,z27,Prod.mk.injEq,and_assoc]
theorem zN9{a b:qZ}(hn:wQ a.2.2.2.2.2.2.2.2.2≤5000)(hg:a.2.2.2.2.2.1.2.2.2.2.length≤100000): zFM a b=some (eqE a b):=by
 grind [zFM,eqE,eqLit,zXP]
theorem zP9{a b:qZ}(hn:wQ a.2.2.2.2.2.2.2.2.2≤5000)(hg:a.2.2.2.2.2.1.2.2.2.2.length≤100000): zFI a b=some (eqE a b):=by
 rw[←zN9 hn hg]
 grind [zFI,zFM,sameGr,zXP]
theorem zZh:∀ l:List zA,([32]:zA).intercalate l=uK l
 | []=>rfl
 | [w]=>by simp[uK,List.intercalate]
 | w::v::r=>by
  have ih:=zZh (v::r)
  rw[uK,←ih]
  simp_all
theorem zIo{l:List zA}(h1:l.length≤1000000)(h2:(uK l).length≤1000000000): zDA l [32]=some (uK l):=by
 unfold zDA z42
 rw[zZh,Qm ⟨by omega,by omega⟩]
def prt (t:zA): Bool:=t.all fun b=>decide (32≤b.toNat)&&decide (b.toNat≤126)
theorem txt1 (b:UInt8): zBF (b.toNat:Int)=some (!(decide (32≤b.toNat)&&decide (b.toNat≤126))):=by grind [zBF,decide_eq_false]
theorem zZT:∀(t:zA) (i:Nat),decide (0≤z6J zBF t i)=!prt t
 | [],i=>by simp[z6J,prt]
 | b::t,i=>by
  rw[z6J,txt1]
  have ih:=zZT t (i+1)
  by_cases hb:(decide (32≤b.toNat)&&decide (b.toNat≤126))=true
  ·have h128:¬ (128≤b.toNat):=by simp at hb;omega
   rw[Qa (by grind),ih,prt,prt,UD,hb,UK]
  ·have hb':=eq_false_of_ne_true hb
   rw[Qm (by grind),prt,UD,hb',Bool.false_and]
   simp
theorem zX2 (t:zA): zAd t=some (!prt t):=by
 unfold zAd zBC zBE idxF
 rw[Qm ⟨rfl,fun n _=>rfl,fun n hn _=>by
  grind [zBF]⟩,zob,zob,zZT]
theorem zTs{S:zA}(hl:S.length≤1000000): ∀(R:zA) (i:Nat),S.drop i=R->i≤S.length->zJ (zBr S) (i:Int)=some (if prt R then .inl () else .inr false)
 | [],i,h,hi=>by
  have hn:=zGr h hi
  simp at hn
  refine vM ?_
  unfold zBr
  have:decide ((i:Int)<len S)=false:=QF (by grind)
  simp only[this,zbf,Qh]
  rfl
 | c::r,i,h,hi=>by
  have hn:=zGr h hi
  simp at hn
  have h1:decide ((i:Int)<len S)=true:=Qs (by grind)
  have hx:S[i]?=some c:=by have:=zLO (j:=0) h;simpa using this
  have hd:S.drop (i+1)=r:=by
   have:=congrArg List.tail h
   rw[U4] at this
   simpa using this
  have hq:(if decide ((c.toNat:Int)<32)=true then some true else some (decide (126<(c.toNat:Int))):Option Bool)=some (!(decide (32≤c.toNat)&&decide (c.toNat≤126))):=by
   rw[←txt1]
   unfold zBF
   cases decide ((c.toNat:Int)<32) <;> rfl
  rw[prt,UD]
  cases hb:decide (32≤c.toNat)&&decide (c.toNat≤126) with
  | true =>
   refine(uE (t:=((i+1:Nat):Int)) ?_).trans (zTs hl r (i+1) hd (by omega))
   unfold zBr
   simp only[h1,Qe,zCn,hx,QW,zob]
   rw[hq,hb,zob,Qx,Qa (by decide),wI i (by omega)]
  | false =>
   refine vM ?_
   unfold zBr
   simp only[h1,Qe,zCn,hx,QW,zob]
   grind
def z5r (t:zA): Bool:=prt t&&(decide (1≤t.length)&&decide (t.length≤200))
theorem zPx{t:zA}(hl:t.length≤1000000): zFY t=some (z5r t):=by
 unfold zFY z5r
 have h:zJ (zBr t) 0=_:=zTs hl t 0 rfl (by omega)
 rw[h]
 have e1:decide (1≤len t)=decide (1≤t.length):=by
  by_cases h:1≤t.length
  ·grind
  ·grind
 have e2:decide (len t≤200)=decide (t.length≤200):=by
  by_cases h:t.length≤200
  ·grind
  ·grind
 rw[e1,e2]
 cases prt t <;> rfl
end
section
theorem tx_ne:∀ f,vA f=true->fnm f=true->wT f≠[]
 | .mk op s [],h,hn=>by
  rw[zLL,Qb] at h
  rw[fnm,Qb] at hn
  have hk:=zLS h.1
  have:op=1∨op=2∨op=3:=by simp at hk;exact hk
  rw[wT,txL,QJ]
  rcases this with rfl | rfl | rfl
  ·exact List.cons_ne_nil _ _
  ·exact List.cons_ne_nil _ _
  ·have hv:=hn.1
   rw[Qm rfl] at hv
   exact(zZF hv).2
 | .mk op s (x::l),h,hn=>by
  rw[zLL,Qb,zQz,Qb] at h
  rw[fnm,Qb,z2V,Qb] at hn
  have ih:=tx_ne x h.2.1 hn.2.1
  rw[wT,zKL]
  intro e
  have h1:=(U5.1 (U5.1 (U5.1 e).2).2).1
  have h2:=(zPn (decide (xW x<zLA op 0)) (wT x)).1
  simp_all
theorem zDu{f:zC}(hn:wQ f≤5000): ∃ t c,zAx f=some (t,c)∧zAR f=some (t,c)∧t.length≤4096∧(c=0->t≠[]∧vA f=true):=by
 obtain⟨t,c,h1,h2,h3,_⟩:=z4k hn
 refine⟨t,c,h1,h2,h3,?_⟩
 rintro rfl
 obtain⟨v1,_⟩:=zVF (zW3 f (by omega))
 unfold zAx at h1
 rw[v1,zob] at h1
 by_cases hv:z1I f=0
 ·have hv':vA f=true∧fnm f=true:=by
   unfold z1I at hv
   split at hv
   ·grind
   ·cases hv
  have hlen:=zYt f hv'.2
  have w:zFH [] f=some (wT f):=((z4N f hv'.1 hn).imp fun k e=>(e [] (by simp;omega)).trans (by grind)).lim
  rw[hv,Qa (by decide),w,zob] at h1
  unfold zBf zBj at h1
  rw[zob] at h1
  split at h1
  ·grind
  ·rw[zob] at h1
   injection h1 with h1
   injection h1 with h1 _
   rw[←h1]
   exact⟨tx_ne f hv'.1 hv'.2,hv'.1⟩
 grind
def wR (n:Int): Bool:=decide (0≤n)&&decide (n≤9999)
theorem z7W{n:Int}: wR n=true↔0≤n∧n≤9999:=by unfold wR;simp
theorem z64 (n:Int): Lib.itoa n≠[]:=by grind [Lib.itoa,z5w]
section
variable {e:qZ}{ws:List zA}{b:Bool}
theorem zG0{w:zA}(hw:ws.length≤100000): zA7 (e,ws,b) w=some (ws++[w],b||w==[]):=by
 unfold zA7
 dsimp only
 rw[yC (by simp;omega)]
 grind
theorem zPt{ws0:List zA}{b0:Bool}{y1:List Int}(hy:y1.length≤1000)(hB:∀ n∈y1,wA n): ∀(ns pre:List Int) (ws:List zA) (b:Bool),y1=pre++ns->ws.length+ns.length≤100000->zJ (zBu y1 (e,ws0,b0)) ((pre.length:Int),ws,b)=some (ws++ns.map Lib.itoa,b||!ns.all wR)
 | [],pre,ws,b,h,_=>by
  subst h
  refine vM ?_
  unfold zBu
  grind
 | n::ns,pre,ws,b,h,hl=>by
  have hb:=hB n (by grind)
  have hyl:pre.length+ns.length+1≤1000:=by rw[h] at hy;simp at hy;omega
  have ih:=zPt (ws0:=ws0) (b0:=b0) hy hB ns (pre++[n]) (ws++[Lib.itoa n]) (b||!wR n) (by grind) (by grind)
  refine(uE (t:=(((pre++[n]).length:Int),ws++[Lib.itoa n],b||!wR n)) ?_).trans (ih.trans ?_)
  ·unfold zBu
   have e1:decide ((pre.length:Int)<len y1)=true:=Qs (by grind)
   have e2:zD y1 (pre.length:Int)=some n:=by rw[h];exact wV (by simp)
   have e3:(if b=true then some true else if decide (n<0)=true then some true else some (decide (9999<n)):Option Bool)=some (b||!wR n):=by
    cases b with
    | true=>rfl
    | false =>
     grind [wR]
   simp only[e1,Qe,e2,zob]
   rw[e3,zob,zUi hb.1 hb.2,zob,zG0 (by grind),zob,wI pre.length (by omega)]
   have e4:(Lib.itoa n==[])=false:=by rw[Qr];exact z64 n
   grind
  grind
theorem z1d{ns:List Int}(hy:ns.length≤1000)(hB:∀ n∈ns,wA n)(hw:ws.length≤1000): zBo (e,ws,b) ns=some (ws++ns.map Lib.itoa,b||!ns.all wR):=by
 unfold zBo
 exact zPt hy hB ns [] ws b rfl (by omega)
theorem zHt{w:zA}{ns:List Int}(hne:w≠[])(hy:ns.length≤100)(hB:∀ n∈e.2.1::ns,wA n)(hw:ws.length≤100): tE (e,ws,b) w ns=some (ws++[w]++(e.2.1::ns).map Lib.itoa,b||!(e.2.1::ns).all wR):=by
 unfold tE
 rw[zG0 (by omega),zob,yC (by simp;omega),zob]
 dsimp only
 rw[List.singleton_append,z1d (by simp;omega) hB (by simp;omega),zob]
 grind
theorem z5a (l:zE): (qH l==[])=!vName l.2:=by
 cases h:vName l.2 with
 | true=>rw[Qx,Qr];exact(zHb h).2.1
 | false=>unfold qH;grind
theorem z1c (hl:e.2.2.2.2.1.length≤1000000)(hw:ws.length≤1000): zCW (e,ws,b)=some (ws++[e.2.2.2.2.1],b||!z5r e.2.2.2.2.1):=by
 unfold zCW
 dsimp only
 generalize e.2.2.2.2.1=t at hl
 rw[zX2,zob]
 have h1:(if b=true then some true else if decide (200<len t)=true then some true else some (!prt t):Option Bool)=some (b||(decide (200<t.length)||!prt t)):=by
  have:decide (200<len t)=decide (200<t.length):=by
   by_cases h:200<t.length
   ·grind
   ·grind
  rw[this]
  cases b <;> cases decide (200<t.length) <;> rfl
 rw[h1,zob,zG0 (by omega),zob]
 have h2:((b||(decide (200<t.length)||!prt t))||t==[])=(b||!z5r t):=by
  unfold z5r
  cases t with
  | nil=>grind
  | cons c r =>
   grind
 rw[h2]
theorem zX5{t:zA}{c:Int}(hf:zAx e.2.2.2.2.2.2.2.2.2=some (t,c))(hne:c=0->t≠[])(hw:ws.length≤1000): zBP (e,ws,b)=some (ws++[t],b||!(c==0&&decide (t.length≤300))):=by
 unfold zBP
 dsimp only
 rw[hf,zob]
 have h1:(if b=true then some true else if(c != 0)=true then some true else some (decide (300<len t)):Option Bool)=some (b||!(c==0&&decide (t.length≤300))):=by
  have:decide (300<len t)=!decide (t.length≤300):=by
   by_cases h:t.length≤300
   ·grind
   ·grind
  rw[this,bne]
  cases b <;> cases c==0 <;> cases decide (t.length≤300) <;> rfl
 rw[h1,zob,zG0 (by omega),zob]
 grind
end
end
section
structure xQ (e:qZ): Prop where
 n:wA e.2.1
 tr:wA e.2.2.1
 d:wA e.2.2.2.1
 t:e.2.2.2.2.1.length≤100000
 i:wA e.2.2.2.2.2.1.2.2.1
 gs:e.2.2.2.2.2.1.2.2.2.2.length≤50000
 a:wA e.2.2.2.2.2.2.2.1.1
 b:wA e.2.2.2.2.2.2.2.1.2
 pl:wA e.2.2.2.2.2.2.2.2.1.1
 x:wA e.2.2.2.2.2.2.2.2.1.2.2.1
 y:wA e.2.2.2.2.2.2.2.2.1.2.2.2
 f:wQ e.2.2.2.2.2.2.2.2.2≤5000
section
variable {e:qZ}(h:xQ e)
include h
theorem zWU (k:Int)(w:zA)(hw:w≠[]): tE (e,[],false) w []=some ([w,Lib.itoa e.2.1],!wR e.2.1):=by
 have _:=k
 rw[zHt hw (by simp) (by intro n hn;simp at hn;rw[hn];exact h.n) (by simp)]
 simp
theorem w_put (hk:e.1=1∨e.1=2): xI (e,[],false)=some ([if e.1=1 then z1x else zR2,Lib.itoa e.2.1,e.2.2.2.2.1],!(wR e.2.1&&z5r e.2.2.2.2.1)):=by
 have ht:=h.t
 unfold xI
 dsimp only
 rcases hk with hk | hk
 ·rw[hk,Qm (by decide),show tE (e,[],false) [112,117,116] []=_ from zWU h 1 z1x (by decide),zob]
  dsimp only
  rw[z1c (by omega) (by simp),zob]
  simp_all
 ·rw[hk,Qa (by decide),Qm (by decide),show tE (e,[],false) [114,117,108,101] []=_ from zWU h 1 zR2 (by decide),zob]
  dsimp only
  rw[z1c (by omega) (by simp),zob]
  simp_all
theorem w_wd (hk:e.1=3): xI (e,[],false)=some ([kWd,Lib.itoa e.2.1],!wR e.2.1):=by
 unfold xI
 dsimp only
 rw[hk,Qa (by decide),Qa (by decide),Qm (by decide),show tE (e,[],false) [119,105,116,104,100,114,97,119] []=_ from zWU h 1 kWd (by decide),zob]
theorem w_opn (hk:e.1=5): xI (e,[],false)=some ([zZw,Lib.itoa e.2.1,qH e.2.2.2.2.2.2.1,Lib.itoa e.2.2.2.2.2.2.2.1.1,Lib.itoa e.2.2.2.2.2.2.2.1.2],!(wR e.2.1&&(vName e.2.2.2.2.2.2.1.2&&(wR e.2.2.2.2.2.2.2.1.1&&wR e.2.2.2.2.2.2.2.1.2)))):=by
 unfold xI
 dsimp only
 rw[hk,Qa (by decide),Qa (by decide),Qa (by decide),Qa (by decide),Qm (by decide),show tE (e,[],false) [111,112,101,110] []=_ from zWU h 1 zZw (by decide),zob]
 dsimp only
 rw[zHH,zob,zG0 (by simp),zob]
 dsimp only
 rw[z1d (by simp) (by intro n hn;simp at hn;rcases hn with rfl | rfl;exact h.a;exact h.b) (by simp),zob,z5a]
 simp[UE]
theorem w_dec (hk:e.1=7): xI (e,[],false)=some ([zZ8,Lib.itoa e.2.1,Lib.itoa e.2.2.2.1,qH e.2.2.2.2.2.2.1],!(wR e.2.1&&(wR e.2.2.2.1&&vName e.2.2.2.2.2.2.1.2))):=by
 unfold xI
 dsimp only
 rw[hk,Qa (by decide),Qa (by decide),Qa (by decide),Qa (by decide),Qa (by decide),Qa (by decide),Qm (by decide),zHt (by decide) (by simp) (by intro n hn;simp at hn;rcases hn with rfl | rfl;exact h.n;exact h.d) (by simp),zob]
 dsimp only
 rw[zHH,zob,zG0 (by simp),zob,z5a]
 simp[UE]
 rfl
theorem w_ch (hk:e.1=8∨e.1=9∨e.1=10){t:zA}{c:Int}(hf:zAx e.2.2.2.2.2.2.2.2.2=some (t,c))(hne:c=0->t≠[]): xI (e,[],false)=some ([kCh e.1,Lib.itoa e.2.1,Lib.itoa e.2.2.2.1,t],!(wR e.2.1&&(wR e.2.2.2.1&&(c==0&&decide (t.length≤300))))):=by
 have hB:∀ n∈e.2.1::[e.2.2.2.1],wA n:=by intro n hn;simp at hn;rcases hn with rfl | rfl;exact h.n;exact h.d
 unfold xI
 dsimp only
 rcases hk with hk | hk | hk
 ·rw[hk,Qa (by decide),Qa (by decide),Qa (by decide),Qa (by decide),Qa (by decide),Qa (by decide),Qa (by decide),Qm (by decide),zHt (by decide) (by simp) hB (by simp),zob]
  dsimp only
  rw[zX5 hf hne (by simp),zob]
  simp[UE]
  rfl
 ·rw[hk,Qa (by decide),Qa (by decide),Qa (by decide),Qa (by decide),Qa (by decide),Qa (by decide),Qa (by decide),Qa (by decide),Qm (by decide),zHt (by decide) (by simp) hB (by simp),zob]
  dsimp only
  rw[zX5 hf hne (by simp),zob]
  simp[UE]
  rfl
 ·rw[hk,Qa (by decide),Qa (by decide),Qa (by decide),Qa (by decide),Qa (by decide),Qa (by decide),Qa (by decide),Qa (by decide),Qa (by decide),zHt (by decide) (by simp) hB (by simp),zob]
  dsimp only
  rw[zX5 hf hne (by simp),zob]
  simp[UE]
  rfl
def plB (pl:Int): Bool:=pl==1||pl==2
theorem zZH:(if((e,([]:List zA),false):zAQ).2.2 then some true else if(e.2.2.2.2.2.2.2.2.1.1 != 1)=true then some (e.2.2.2.2.2.2.2.2.1.1 != 2) else some false:Option Bool)=some (!plB e.2.2.2.2.2.2.2.2.1.1):=by
 have _:=h
 unfold plB bne
 grind
theorem w_att (hk:e.1=6)(hm:e.2.2.2.2.2.2.2.2.1.2.1=2): xI (e,[],false)=some ([z0E,Lib.itoa e.2.1,Lib.itoa e.2.2.1,Lib.itoa e.2.2.2.2.2.2.2.2.1.1,Lib.itoa e.2.2.2.2.2.2.2.2.1.2.2.1,Lib.itoa e.2.2.2.2.2.2.2.2.1.2.2.2],!(plB e.2.2.2.2.2.2.2.2.1.1&&(wR e.2.1&&(wR e.2.2.1&&(wR e.2.2.2.2.2.2.2.2.1.1&&(wR e.2.2.2.2.2.2.2.2.1.2.2.1&&wR e.2.2.2.2.2.2.2.2.1.2.2.2)))))):=by
 have hB:∀ n∈e.2.1::[e.2.2.1,e.2.2.2.2.2.2.2.2.1.1,e.2.2.2.2.2.2.2.2.1.2.2.1,e.2.2.2.2.2.2.2.2.1.2.2.2],wA n:=by
  intro n hn
  simp at hn
  rcases hn with rfl | rfl | rfl | rfl | rfl
  ·exact h.n
  ·exact h.tr
  ·exact h.pl
  ·exact h.x
  ·exact h.y
 unfold xI
 dsimp only
 rw[hk,Qa (by decide),Qa (by decide),Qa (by decide),Qa (by decide),Qa (by decide),Qm (by decide)]
 unfold zBs
 rw[zZH h,zob,hm,Qm (by decide)]
 dsimp only
 rw[zHt (by decide) (by simp) hB (by simp),zob,zob]
 simp
 rfl
theorem w_tak (hk:e.1=6)(hm:e.2.2.2.2.2.2.2.2.1.2.1=3): xI (e,[],false)=some ([z0D,Lib.itoa e.2.1,Lib.itoa e.2.2.1,Lib.itoa e.2.2.2.2.2.2.2.2.1.1,Lib.itoa e.2.2.2.2.2.2.2.2.1.2.2.2],!(plB e.2.2.2.2.2.2.2.2.1.1&&(wR e.2.1&&(wR e.2.2.1&&(wR e.2.2.2.2.2.2.2.2.1.1&&wR e.2.2.2.2.2.2.2.2.1.2.2.2))))):=by
 have hB:∀ n∈e.2.1::[e.2.2.1,e.2.2.2.2.2.2.2.2.1.1,e.2.2.2.2.2.2.2.2.1.2.2.2],wA n:=by
  intro n hn
  simp at hn
  rcases hn with rfl | rfl | rfl | rfl
  ·exact h.n
  ·exact h.tr
  ·exact h.pl
  ·exact h.y
 unfold xI
 dsimp only
 rw[hk,Qa (by decide),Qa (by decide),Qa (by decide),Qa (by decide),Qa (by decide),Qm (by decide)]
 unfold zBs
 rw[zZH h,zob,hm,Qa (by decide),Qm (by decide)]
 dsimp only
 rw[zHt (by decide) (by simp) hB (by simp),zob,zob]
 simp
 rfl
theorem w_giv (hk:e.1=6)(hm:e.2.2.2.2.2.2.2.2.1.2.1=4): xI (e,[],false)=some ([z0C,Lib.itoa e.2.1,Lib.itoa e.2.2.1,Lib.itoa e.2.2.2.2.2.2.2.2.1.1],!(plB e.2.2.2.2.2.2.2.2.1.1&&(wR e.2.1&&(wR e.2.2.1&&wR e.2.2.2.2.2.2.2.2.1.1)))):=by
 have hB:∀ n∈e.2.1::[e.2.2.1,e.2.2.2.2.2.2.2.2.1.1],wA n:=by
  intro n hn
  simp at hn
  rcases hn with rfl | rfl | rfl
  ·exact h.n
  ·exact h.tr
  ·exact h.pl
 unfold xI
 dsimp only
 rw[hk,Qa (by decide),Qa (by decide),Qa (by decide),Qa (by decide),Qa (by decide),Qm (by decide)]
 unfold zBs
 rw[zZH h,zob,hm,Qa (by decide),Qa (by decide),Qm (by decide)]
 dsimp only
 rw[zHt (by decide) (by simp) hB (by simp),zob,zob]
 simp
 rfl
theorem w_mov (hk:e.1=6)(hm:e.2.2.2.2.2.2.2.2.1.2.1≠2∧e.2.2.2.2.2.2.2.2.1.2.1≠3∧e.2.2.2.2.2.2.2.2.1.2.1≠4): xI (e,[],false)=some ([],true):=by
 unfold xI
 dsimp only
 rw[hk,Qa (by decide),Qa (by decide),Qa (by decide),Qa (by decide),Qa (by decide),Qm (by decide)]
 unfold zBs
 rw[zZH h,zob,Qa (by simpa using hm.1),Qa (by simpa using hm.2.1),Qa (by simpa using hm.2.2)]
 rfl
theorem w_gs:∀(gs pre:List zE) (ws:List zA) (b:Bool),e.2.2.2.2.2.1.2.2.2.2=pre++gs->ws.length+gs.length≤90000->∀ ws0 b0,zJ (zCc (e,ws0,b0)) ((pre.length:Int),ws,b)=some (ws++gs.map qH,b||!gs.all fun g=>vName g.2)
 | [],pre,ws,b,he,_,ws0,b0=>by
  refine vM ?_
  unfold zCc
  grind
 | g::gs,pre,ws,b,he,hl,ws0,b0=>by
  have hyl:pre.length+gs.length+1≤50000:=by have:=h.gs;rw[he] at this;simp at this;omega
  have ih:=w_gs gs (pre++[g]) (ws++[qH g]) (b||!vName g.2) (by grind) (by grind) ws0 b0
  refine(uE (t:=(((pre++[g]).length:Int),ws++[qH g],b||!vName g.2)) ?_).trans (ih.trans ?_)
  ·unfold zCc
   dsimp only
   rw[he]
   have e1:decide ((pre.length:Int)<len (pre++g::gs))=true:=Qs (by grind)
   have e2:zD (pre++g::gs) (pre.length:Int)=some g:=wV (by simp)
   simp only[e1,Qe,e2,zob,zHH]
   rw[zG0 (by grind),zob,wI pre.length (by omega),z5a]
   simp
  grind
theorem w_say{k:Int}(hk:e.1=4)(hs:e.2.2.2.2.2.1.1=k)(hk3:k=1∨k=4∨k=5): xI (e,[],false)=some ([if k=1 then z0n else if k=4 then z0t else z0s,Lib.itoa e.2.1,qH e.2.2.2.2.2.1.2.2.2.1],!(wR e.2.1&&vName e.2.2.2.2.2.1.2.2.2.1.2)):=by
 unfold xI
 dsimp only
 rw[hk,Qa (by decide),Qa (by decide),Qa (by decide),Qm (by decide)]
 unfold zCI
 dsimp only
 rw[zHH,zob,hs]
 rcases hk3 with rfl | rfl | rfl
 ·rw[Qm (by decide),show tE (e,[],false) [97,115,115,101,114,116] []=_ from zWU h 1 z0n (by decide),zob,zob]
  dsimp only
  rw[zG0 (by simp),zob,Qa (by decide),zob,z5a]
  simp_all
 ·rw[Qa (by decide),Qa (by decide),Qa (by decide),Qm (by decide),show tE (e,[],false) [99,111,110,99,101,100,101] []=_ from zWU h 1 z0t (by decide),zob,zob]
  dsimp only
  rw[zG0 (by simp),zob,Qa (by decide),zob,z5a]
  simp_all
 ·rw[Qa (by decide),Qa (by decide),Qa (by decide),Qa (by decide),Qm (by decide),show tE (e,[],false) [114,101,116,114,97,99,116] []=_ from zWU h 1 z0s (by decide),zob,zob]
  dsimp only
  rw[zG0 (by simp),zob,Qa (by decide),zob,z5a]
  simp_all
theorem w_chl (hk:e.1=4)(hs:e.2.2.2.2.2.1.1=2): xI (e,[],false)=some ([z0p,Lib.itoa e.2.1,Lib.itoa e.2.2.2.2.2.1.2.2.1,qH e.2.2.2.2.2.1.2.2.2.1],!(wR e.2.1&&(wR e.2.2.2.2.2.1.2.2.1&&vName e.2.2.2.2.2.1.2.2.2.1.2))):=by
 unfold xI
 dsimp only
 rw[hk,Qa (by decide),Qa (by decide),Qa (by decide),Qm (by decide)]
 unfold zCI
 dsimp only
 rw[zHH,zob,hs,Qa (by decide),Qm (by decide),zHt (by decide) (by simp) (by intro n hn;simp at hn;rcases hn with rfl | rfl;exact h.n;exact h.i) (by simp),zob,zob]
 dsimp only
 rw[zG0 (by simp),zob,Qa (by decide),zob,z5a]
 simp[UE]
 rfl
theorem w_arg (hk:e.1=4)(hs:e.2.2.2.2.2.1.1=3): xI (e,[],false)=some ([zYc,Lib.itoa e.2.1,qH e.2.2.2.2.2.1.2.2.2.1,zVl]++e.2.2.2.2.2.1.2.2.2.2.map qH,!(wR e.2.1&&(vName e.2.2.2.2.2.1.2.2.2.1.2&&((decide (1≤e.2.2.2.2.2.1.2.2.2.2.length)&&decide (e.2.2.2.2.2.1.2.2.2.2.length≤6))&&e.2.2.2.2.2.1.2.2.2.2.all fun g=>vName g.2)))):=by
 unfold xI
 dsimp only
 rw[hk,Qa (by decide),Qa (by decide),Qa (by decide),Qm (by decide)]
 unfold zCI
 dsimp only
 rw[zHH,zob,hs,Qa (by decide),Qa (by decide),Qm (by decide),show tE (e,[],false) [97,114,103,117,101] []=_ from zWU h 1 zYc (by decide),zob,zob]
 dsimp only
 rw[zG0 (by simp),zob,Qm (by decide)]
 dsimp only
 rw[zG0 (by simp),zob]
 dsimp only
 have hb:(([98,101,99,97,117,115,101]:zA)==[])=false:=rfl
 rw[hb,Wb,z5a]
 have hgl:=h.gs
 have h2:(if(!wR e.2.1||!vName e.2.2.2.2.2.1.2.2.2.1.2)=true then some true else if(len e.2.2.2.2.2.1.2.2.2.2==0)=true then some true else some (decide (6<len e.2.2.2.2.2.1.2.2.2.2)):Option Bool)=some (!(wR e.2.1&&(vName e.2.2.2.2.2.1.2.2.2.1.2&&(decide (1≤e.2.2.2.2.2.1.2.2.2.2.length)&&decide (e.2.2.2.2.2.1.2.2.2.2.length≤6))))):=by
  generalize e.2.2.2.2.2.1.2.2.2.2=gs
  have e1:(len gs==0)=!decide (1≤gs.length):=by
   by_cases h:1≤gs.length
   ·grind
   ·grind
  have e2:decide (6<len gs)=!decide (gs.length≤6):=by
   by_cases h:gs.length≤6
   ·grind
   ·grind
  rw[e1,e2]
  cases wR e.2.1 <;> cases vName e.2.2.2.2.2.1.2.2.2.1.2 <;> cases decide (1≤gs.length) <;> cases decide (gs.length≤6) <;> rfl
 rw[h2,zob]
 have h3:=w_gs h e.2.2.2.2.2.1.2.2.2.2 [] ([zYc,Lib.itoa e.2.1]++[qH e.2.2.2.2.2.1.2.2.2.1]++[[98,101,99,97,117,115,101]]) (!(wR e.2.1&&(vName e.2.2.2.2.2.1.2.2.2.1.2&&(decide (1≤e.2.2.2.2.2.1.2.2.2.2.length)&&decide (e.2.2.2.2.2.1.2.2.2.2.length≤6))))) rfl (by simp;omega) [] false
 refine(congrArg (fun o:Option (List zA×Bool)=>o.bind fun r6=>some (r6.1,r6.2)) h3).trans ?_
 rw[zob]
 simp[UE]
 rfl
theorem w_non (hk:e.1=4)(hs:e.2.2.2.2.2.1.1≠1∧e.2.2.2.2.2.1.1≠2∧e.2.2.2.2.2.1.1≠3∧e.2.2.2.2.2.1.1≠4∧e.2.2.2.2.2.1.1≠5): xI (e,[],false)=some ([qH e.2.2.2.2.2.1.2.2.2.1],true):=by
 have _:=h
 unfold xI
 dsimp only
 rw[hk,Qa (by decide),Qa (by decide),Qa (by decide),Qm (by decide)]
 unfold zCI
 dsimp only
 rw[zHH,zob,Qa (by grind),Qa (by grind),Qa (by grind),Qa (by grind),Qa (by grind),zob]
 dsimp only
 rw[zG0 (by simp),zob,Qa (by grind)]
 rfl
end
end
section
theorem zHu (n:Int): zBH n=some (wR n):=rfl
section
variable {e:qZ}(h:xQ e)
include h
theorem p_put (hk:e.1=1∨e.1=2): zAk e=some (z5r e.2.2.2.2.1):=by
 have ht:=h.t
 unfold zAk
 rcases hk with hk | hk <;> rw[hk]
 ·rw[Qm (by decide),zob,Qm (by decide),zPx (by omega)]
  rfl
 ·rw[Qa (by decide),zob,Qm (by decide),zPx (by omega)]
  rfl
theorem p_wd (hk:e.1=3): zAk e=some true:=by
 have _:=h
 unfold zAk
 rw[hk,Qa (by decide),zob,Qa (by decide),Qm (by decide)]
 rfl
theorem p_gs:∀(gs pre:List zE) (b:Bool),e.2.2.2.2.2.1.2.2.2.2=pre++gs->zJ (zEE e) (b,(pre.length:Int))=some (b&&gs.all fun g=>vName g.2)
 | [],pre,b,he=>by
  refine vM ?_
  unfold zEE
  grind
 | g::gs,pre,b,he=>by
  have hyl:pre.length+gs.length+1≤50000:=by have:=h.gs;rw[he] at this;simp at this;omega
  have ih:=p_gs gs (pre++[g]) (b&&vName g.2) (by grind)
  refine(uE (t:=(b&&vName g.2,((pre++[g]).length:Int))) ?_).trans (ih.trans (by grind))
  unfold zEE
  rw[he]
  have e1:decide ((pre.length:Int)<len (pre++g::gs))=true:=Qs (by grind)
  have e2:zD (pre++g::gs) (pre.length:Int)=some g:=wV (by simp)
  simp only[e1,Qe,e2,zob,zEG]
  rw[wI pre.length (by omega)]
  cases b <;> simp
theorem z3w (hk:e.1=4): zAk e=some (((vName e.2.2.2.2.2.1.2.2.2.1.2&&(wR e.2.2.2.2.2.1.2.2.1&&(decide (1≤e.2.2.2.2.2.1.1)&&decide (e.2.2.2.2.2.1.1≤5))))&&e.2.2.2.2.2.1.2.2.2.2.all fun g=>vName g.2)&&(e.2.2.2.2.2.1.1 != 3||(decide (1≤e.2.2.2.2.2.1.2.2.2.2.length)&&decide (e.2.2.2.2.2.1.2.2.2.2.length≤6)))):=by
 unfold zAk
 rw[hk,Qa (by decide),zob,Qa (by decide),Qa (by decide),Qm (by decide),zEG,zob,zHu,zob]
 have h1:(if vName e.2.2.2.2.2.1.2.2.2.1.2=true then if wR e.2.2.2.2.2.1.2.2.1=true then if decide (1≤e.2.2.2.2.2.1.1)=true then some (decide (e.2.2.2.2.2.1.1≤5)) else some false else some false else some false:Option Bool)=some (vName e.2.2.2.2.2.1.2.2.2.1.2&&(wR e.2.2.2.2.2.1.2.2.1&&(decide (1≤e.2.2.2.2.2.1.1)&&decide (e.2.2.2.2.2.1.1≤5)))):=by
  cases vName e.2.2.2.2.2.1.2.2.2.1.2 <;> cases wR e.2.2.2.2.2.1.2.2.1 <;> cases decide (1≤e.2.2.2.2.2.1.1) <;> rfl
 have e1:decide (1≤len e.2.2.2.2.2.1.2.2.2.2)=decide (1≤e.2.2.2.2.2.1.2.2.2.2.length):=by
  by_cases h:1≤e.2.2.2.2.2.1.2.2.2.2.length
  ·grind
  ·grind
 have e2:decide (len e.2.2.2.2.2.1.2.2.2.2≤6)=decide (e.2.2.2.2.2.1.2.2.2.2.length≤6):=by
  by_cases h:e.2.2.2.2.2.1.2.2.2.2.length≤6
  ·grind
  ·grind
 rw[h1,zob,e1,e2]
 have h3:=p_gs h e.2.2.2.2.2.1.2.2.2.2 [] (vName e.2.2.2.2.2.1.2.2.2.1.2&&(wR e.2.2.2.2.2.1.2.2.1&&(decide (1≤e.2.2.2.2.2.1.1)&&decide (e.2.2.2.2.2.1.1≤5)))) rfl
 have h4:zJ (zEE e) ((vName e.2.2.2.2.2.1.2.2.2.1.2&&(wR e.2.2.2.2.2.1.2.2.1&&(decide (1≤e.2.2.2.2.2.1.1)&&decide (e.2.2.2.2.2.1.1≤5)))),0)=_:=h3
 rw[h4]
 rfl
theorem p_opn (hk:e.1=5): zAk e=some (vName e.2.2.2.2.2.2.1.2&&(wR e.2.2.2.2.2.2.2.1.1&&wR e.2.2.2.2.2.2.2.1.2)):=by
 have _:=h
 unfold zAk
 rw[hk,Qa (by decide),zob,Qa (by decide),Qa (by decide),Qa (by decide),Qm (by decide),zEG,zob,zHu,zob,zHu,zob]
 cases vName e.2.2.2.2.2.2.1.2 <;> cases wR e.2.2.2.2.2.2.2.1.1 <;> rfl
theorem z4w (hk:e.1=6): zAk e=some (wR e.2.2.1&&(plB e.2.2.2.2.2.2.2.2.1.1&&((decide (2≤e.2.2.2.2.2.2.2.2.1.2.1)&&decide (e.2.2.2.2.2.2.2.2.1.2.1≤4))&&(wR e.2.2.2.2.2.2.2.2.1.2.2.1&&wR e.2.2.2.2.2.2.2.2.1.2.2.2)))):=by
 have _:=h
 unfold zAk
 rw[hk,Qa (by decide),zob,Qa (by decide),Qa (by decide),Qa (by decide),Qa (by decide),Qm (by decide),zHu,zob,zHu,zob,zHu,zob]
 unfold plB
 cases wR e.2.2.1 <;> cases e.2.2.2.2.2.2.2.2.1.1==1 <;> cases e.2.2.2.2.2.2.2.2.1.1==2 <;> cases decide (2≤e.2.2.2.2.2.2.2.2.1.2.1) <;> cases decide (e.2.2.2.2.2.2.2.2.1.2.1≤4) <;> cases wR e.2.2.2.2.2.2.2.2.1.2.2.1 <;> rfl
theorem p_dec (hk:e.1=7): zAk e=some (vName e.2.2.2.2.2.2.1.2&&wR e.2.2.2.1):=by
 have _:=h
 unfold zAk
 rw[hk,Qa (by decide),zob,Qa (by decide),Qa (by decide),Qa (by decide),Qa (by decide),Qa (by decide),Qm (by decide),zEG,zob,zHu,zob]
 cases vName e.2.2.2.2.2.2.1.2 <;> rfl
theorem p_ch (hk:e.1=8∨e.1=9∨e.1=10){t:zA}{c:Int}(hf:zAR e.2.2.2.2.2.2.2.2.2=some (t,c)): zAk e=some (c==0&&(decide (t.length≤300)&&wR e.2.2.2.1)):=by
 have _:=h
 have h1:zAk e=(zAR e.2.2.2.2.2.2.2.2.2).bind fun r15=>(if(r15.2==0)=true then if decide (len r15.1≤300)=true then(zBH e.2.2.2.1).bind fun r16=>some r16 else some false else some false:Option Bool).bind fun s10=>some s10:=by
  unfold zAk
  rcases hk with hk | hk | hk <;> rw[hk] <;> rfl
 have e1:decide (len t≤300)=decide (t.length≤300):=by
  by_cases h:t.length≤300
  ·grind
  ·grind
 rw[h1,hf,zob,zHu,zob]
 grind
variable (n0:0≤e.2.1)(n1:e.2.1≤9999)
include n0 n1
theorem zSP:zAn e=(some (([32]++Lib.itoa e.2.1)++[32]):Option zA).bind fun x2=>(zAR e.2.2.2.2.2.2.2.2.2).bind fun r3 =>
  if(e.1==1)=true then(qE [112,117,116] x2).bind fun x3=>(qE x3 e.2.2.2.2.1).bind fun x4=>some x4
  else if(e.1==2)=true then(qE [114,117,108,101] x2).bind fun x5=>(qE x5 e.2.2.2.2.1).bind fun x6=>some x6
  else if(e.1==3)=true then(zAS e.2.1).bind fun r4=>(qE [119,105,116,104,100,114,97,119,32] r4).bind fun x7=>some x7
  else if(e.1==4)=true then(zGN e x2).bind fun r5=>some r5
  else if(e.1==5)=true then(qE [111,112,101,110] x2).bind fun x8=>(qE x8 (qH e.2.2.2.2.2.2.1)).bind fun x9=>(qE x9 [32]).bind fun x10=>(zAS e.2.2.2.2.2.2.2.1.1).bind fun r6=>(qE x10 r6).bind fun x11=>(qE x11 [32]).bind fun x12=>(zAS e.2.2.2.2.2.2.2.1.2).bind fun r7=>(qE x12 r7).bind fun x13=>some x13
  else if(e.1==6)=true then(zFD e x2).bind fun r8=>some r8
  else if(e.1==7)=true then(qE [100,101,99,105,100,101] x2).bind fun x14=>(zAS e.2.2.2.1).bind fun r9=>(qE x14 r9).bind fun x15=>(qE x15 [32]).bind fun x16=>(qE x16 (qH e.2.2.2.2.2.2.1)).bind fun x17=>some x17
  else if(e.1==8)=true then(qE [114,101,118,105,115,101] x2).bind fun x18=>(zAS e.2.2.2.1).bind fun r10=>(qE x18 r10).bind fun x19=>(qE x19 [32]).bind fun x20=>(qE x20 r3.1).bind fun x21=>some x21
  else if(e.1==9)=true then(qE [117,112,100,97,116,101] x2).bind fun x22=>(zAS e.2.2.2.1).bind fun r11=>(qE x22 r11).bind fun x23=>(qE x23 [32]).bind fun x24=>(qE x24 r3.1).bind fun x25=>some x25
  else(qE [109,101,114,103,101] x2).bind fun x26=>(zAS e.2.2.2.1).bind fun r12=>(qE x26 r12).bind fun x27=>(qE x27 [32]).bind fun x28=>(qE x28 r3.1).bind fun x29=>some x29:=by
 have _:=h
 have hl:=wF n0 n1
 unfold zAn
 rw[zBD n0 (by omega),zob,qL (by simp;omega),zob,qL (by simp;omega),zDK]
 rfl
theorem l_put (hk:e.1=1∨e.1=2){t:zA}{c:Int}(hf:zAR e.2.2.2.2.2.2.2.2.2=some (t,c)): zAn e=some ((if e.1=1 then z1x else zR2)++32::(Lib.itoa e.2.1++32::e.2.2.2.2.1)):=by
 have hl:=wF n0 n1
 have ht:=h.t
 rw[zSP h n0 n1,zob,hf,zob]
 rcases hk with hk | hk <;> rw[hk]
 ·rw[Qm (by decide),qL (by simp;omega),zob,qL (by simp;omega),zob]
  simp[z1x]
 ·rw[Qa (by decide),Qm (by decide),qL (by simp;omega),zob,qL (by simp;omega),zob]
  simp[zR2]
theorem l_wd (hk:e.1=3){t:zA}{c:Int}(hf:zAR e.2.2.2.2.2.2.2.2.2=some (t,c)): zAn e=some (kWd++32::Lib.itoa e.2.1):=by
 have hl:=wF n0 n1
 rw[zSP h n0 n1,zob,hf,zob,hk,Qa (by decide),Qa (by decide),Qm (by decide),zBD n0 (by omega),zob,qL (by simp;omega),zob]
 simp[kWd]
theorem l_opn (hk:e.1=5){t:zA}{c:Int}(hf:zAR e.2.2.2.2.2.2.2.2.2=some (t,c))(a0:0≤e.2.2.2.2.2.2.2.1.1)(a1:e.2.2.2.2.2.2.2.1.1≤9999)(b0:0≤e.2.2.2.2.2.2.2.1.2)(b1:e.2.2.2.2.2.2.2.1.2≤9999): zAn e=some (zZw++32::(Lib.itoa e.2.1++32::(qH e.2.2.2.2.2.2.1++32::(Lib.itoa e.2.2.2.2.2.2.2.1.1++32::Lib.itoa e.2.2.2.2.2.2.2.1.2)))):=by
 have hl:=wF n0 n1
 have hll:=yK e.2.2.2.2.2.2.1
 have ha:=wF a0 a1
 have hb:=wF b0 b1
 rw[zSP h n0 n1,zob,hf,zob,hk,Qa (by decide),Qa (by decide),Qa (by decide),Qa (by decide),Qm (by decide),qL (by simp;omega),zob,qL (by simp;omega),zob,qL (by simp;omega),zob,zBD a0 (by omega),zob,qL (by simp;omega),zob,qL (by simp;omega),zob,zBD b0 (by omega),zob,qL (by simp;omega),zob]
 simp[zZw]
theorem l_dec (hk:e.1=7){t:zA}{c:Int}(hf:zAR e.2.2.2.2.2.2.2.2.2=some (t,c))(a0:0≤e.2.2.2.1)(a1:e.2.2.2.1≤9999): zAn e=some (zZ8++32::(Lib.itoa e.2.1++32::(Lib.itoa e.2.2.2.1++32::qH e.2.2.2.2.2.2.1))):=by
 have hl:=wF n0 n1
 have hll:=yK e.2.2.2.2.2.2.1
 have ha:=wF a0 a1
 rw[zSP h n0 n1,zob,hf,zob,hk,Qa (by decide),Qa (by decide),Qa (by decide),Qa (by decide),Qa (by decide),Qa (by decide),Qm (by decide),qL (by simp;omega),zob,zBD a0 (by omega),zob,qL (by simp;omega),zob,qL (by simp;omega),zob,qL (by simp;omega),zob]
 simp[zZ8]
theorem l_ch (hk:e.1=8∨e.1=9∨e.1=10){t:zA}{c:Int}(hf:zAR e.2.2.2.2.2.2.2.2.2=some (t,c))(ht:t.length≤4096)(a0:0≤e.2.2.2.1)(a1:e.2.2.2.1≤9999): zAn e=some (kCh e.1++32::(Lib.itoa e.2.1++32::(Lib.itoa e.2.2.2.1++32::t))):=by
 have hl:=wF n0 n1
 have ha:=wF a0 a1
 rw[zSP h n0 n1,zob,hf,zob]
 rcases hk with hk | hk | hk <;> rw[hk]
 ·rw[Qa (by decide),Qa (by decide),Qa (by decide),Qa (by decide),Qa (by decide),Qa (by decide),Qa (by decide),Qm (by decide),qL (by simp;omega),zob,zBD a0 (by omega),zob,qL (by simp;omega),zob,qL (by simp;omega),zob,qL (by simp;omega),zob]
  simp[kCh,z0q]
 ·rw[Qa (by decide),Qa (by decide),Qa (by decide),Qa (by decide),Qa (by decide),Qa (by decide),Qa (by decide),Qa (by decide),Qm (by decide),qL (by simp;omega),zob,zBD a0 (by omega),zob,qL (by simp;omega),zob,qL (by simp;omega),zob,qL (by simp;omega),zob]
  simp[kCh,kUpd]
 ·rw[Qa (by decide),Qa (by decide),Qa (by decide),Qa (by decide),Qa (by decide),Qa (by decide),Qa (by decide),Qa (by decide),Qa (by decide),qL (by simp;omega),zob,zBD a0 (by omega),zob,qL (by simp;omega),zob,qL (by simp;omega),zob,qL (by simp;omega),zob]
  simp[kCh,kMrg]
end
end
section
theorem zYs:∀(gs:List zE),gs≠[]->(32:UInt8)::uK (gs.map qH)=gs.flatMap fun g=>32::qH g
 | [],h=>absurd rfl h
 | [g],_=>by simp[uK]
 | g::g2::gs,_=>by
  have ih:=zYs (g2::gs) (by simp)
  rw[QY,QY,uK,Um,←ih]
  simp
section
variable {e:qZ}(h:xQ e)
include h
theorem l_gs:∀(gs pre:List zE) (z:zA),e.2.2.2.2.2.1.2.2.2.2=pre++gs->z.length+14*gs.length≤1000000->zJ (zFt e) (z,(pre.length:Int))=some (.inr (z++gs.flatMap fun g=>32::qH g))
 | [],pre,z,he,_=>by
  refine vM ?_
  unfold zFt
  grind
 | g::gs,pre,z,he,hz=>by
  have hyl:pre.length+gs.length+1≤50000:=by have:=h.gs;rw[he] at this;simp at this;omega
  have hg:=yK g
  have ih:=l_gs gs (pre++[g]) (z++(32::qH g)) (by grind) (by grind)
  refine(uE (t:=(z++(32::qH g),((pre++[g]).length:Int))) ?_).trans (ih.trans (by grind))
  unfold zFt
  rw[he]
  have e1:decide ((pre.length:Int)<len (pre++g::gs))=true:=Qs (by grind)
  have e2:zD (pre++g::gs) (pre.length:Int)=some g:=wV (by simp)
  simp only[e1,Qe,e2,zob,zDK]
  rw[qL (by simp;omega),zob,qL (by grind),zob,wI pre.length (by omega)]
  simp
variable (n0:0≤e.2.1)(n1:e.2.1≤9999)
include n0 n1
theorem z3B (hk:e.1=4){t:zA}{c:Int}(hf:zAR e.2.2.2.2.2.2.2.2.2=some (t,c)){T:zA}(hs:zGN e (([32]++Lib.itoa e.2.1)++[32])=some T): zAn e=some T:=by
 rw[zSP h n0 n1,zob,hf,zob,hk,Qa (by decide),Qa (by decide),Qa (by decide),Qm (by decide),hs]
 rfl
theorem l_say{k:Int}(hk:e.1=4)(hs:e.2.2.2.2.2.1.1=k)(hk3:k=1∨k=4∨k=5){t:zA}{c:Int}(hf:zAR e.2.2.2.2.2.2.2.2.2=some (t,c)): zAn e=some ((if k=1 then z0n else if k=4 then z0t else z0s)++32::(Lib.itoa e.2.1++32::qH e.2.2.2.2.2.1.2.2.2.1)):=by
 have hl:=wF n0 n1
 have hll:=yK e.2.2.2.2.2.1.2.2.2.1
 refine z3B h n0 n1 hk hf ?_
 unfold zGN
 rw[zDK,zob,hs]
 rcases hk3 with rfl | rfl | rfl
 ·rw[Qm (by decide),qL (by simp;omega),zob,qL (by simp;omega),zob]
  simp[uQ,z0n]
 ·rw[Qa (by decide),Qa (by decide),Qa (by decide),Qm (by decide),qL (by simp;omega),zob,qL (by simp;omega),zob]
  simp[uQ,z0t]
 ·rw[Qa (by decide),Qa (by decide),Qa (by decide),Qa (by decide),qL (by simp;omega),zob,qL (by simp;omega),zob]
  simp[uQ,z0s]
theorem l_chl (hk:e.1=4)(hs:e.2.2.2.2.2.1.1=2){t:zA}{c:Int}(hf:zAR e.2.2.2.2.2.2.2.2.2=some (t,c))(i0:0≤e.2.2.2.2.2.1.2.2.1)(i1:e.2.2.2.2.2.1.2.2.1≤9999): zAn e=some (z0p++32::(Lib.itoa e.2.1++32::(Lib.itoa e.2.2.2.2.2.1.2.2.1++32::qH e.2.2.2.2.2.1.2.2.2.1))):=by
 have hl:=wF n0 n1
 have hll:=yK e.2.2.2.2.2.1.2.2.2.1
 have hi:=wF i0 i1
 refine z3B h n0 n1 hk hf ?_
 unfold zGN
 rw[zDK,zob,hs,Qa (by decide),Qm (by decide),qL (by simp;omega),zob,zBD i0 (by omega),zob,qL (by simp;omega),zob,qL (by simp;omega),zob,qL (by simp;omega),zob]
 simp[uQ,z0p]
theorem l_arg (hk:e.1=4)(hs:e.2.2.2.2.2.1.1=3){t:zA}{c:Int}(hf:zAR e.2.2.2.2.2.2.2.2.2=some (t,c))(hne:e.2.2.2.2.2.1.2.2.2.2≠[]): zAn e=some (zYc++32::(Lib.itoa e.2.1++32::(qH e.2.2.2.2.2.1.2.2.2.1++32::(zVl++32::uK (e.2.2.2.2.2.1.2.2.2.2.map qH))))):=by
 have hl:=wF n0 n1
 have hll:=yK e.2.2.2.2.2.1.2.2.2.1
 have hgs:=h.gs
 refine z3B h n0 n1 hk hf ?_
 unfold zGN
 rw[zDK,zob,hs,Qa (by decide),Qa (by decide),Qm (by decide),qL (by simp;omega),zob,qL (by simp;omega),zob,qL (by simp;omega),zob]
 have h1:=l_gs h e.2.2.2.2.2.1.2.2.2.2 [] ([97,114,103,117,101]++([32]++Lib.itoa e.2.1++[32])++qH e.2.2.2.2.2.1.2.2.2.1++[32,98,101,99,97,117,115,101]) rfl (by simp;omega)
 have h2:zJ (zFt e) ([97,114,103,117,101]++([32]++Lib.itoa e.2.1++[32])++qH e.2.2.2.2.2.1.2.2.2.1++[32,98,101,99,97,117,115,101],0)=_:=h1
 rw[h2,←zYs _ hne]
 simp[uQ,zYc,zVl]
theorem z2Y (hk:e.1=6){t:zA}{c:Int}(hf:zAR e.2.2.2.2.2.2.2.2.2=some (t,c)){T:zA}(hs:zFD e (([32]++Lib.itoa e.2.1)++[32])=some T): zAn e=some T:=by
 rw[zSP h n0 n1,zob,hf,zob,hk,Qa (by decide),Qa (by decide),Qa (by decide),Qa (by decide),Qa (by decide),Qm (by decide),hs]
 rfl
variable (t0:0≤e.2.2.1)(t1:e.2.2.1≤9999)(p0:0≤e.2.2.2.2.2.2.2.2.1.1)(p1:e.2.2.2.2.2.2.2.2.1.1≤9999)
include t0 t1 p0 p1
theorem l_giv (hk:e.1=6)(hm:e.2.2.2.2.2.2.2.2.1.2.1=4){t:zA}{c:Int}(hf:zAR e.2.2.2.2.2.2.2.2.2=some (t,c)): zAn e=some (z0C++32::(Lib.itoa e.2.1++32::(Lib.itoa e.2.2.1++32::Lib.itoa e.2.2.2.2.2.2.2.2.1.1))):=by
 have hl:=wF n0 n1
 have ht:=wF t0 t1
 have hp:=wF p0 p1
 refine z2Y h n0 n1 hk hf ?_
 unfold zFD
 rw[zBD t0 (by omega),zob,qL (by simp;omega),zob,qL (by simp;omega),zob,zBD p0 (by omega),zob,qL (by simp;omega),zob,hm,Qa (by decide),Qa (by decide),qL (by simp;omega),zob]
 simp[z0C]
variable (y0:0≤e.2.2.2.2.2.2.2.2.1.2.2.2)(y1:e.2.2.2.2.2.2.2.2.1.2.2.2≤9999)
include y0 y1
theorem l_tak (hk:e.1=6)(hm:e.2.2.2.2.2.2.2.2.1.2.1=3){t:zA}{c:Int}(hf:zAR e.2.2.2.2.2.2.2.2.2=some (t,c)): zAn e=some (z0D++32::(Lib.itoa e.2.1++32::(Lib.itoa e.2.2.1++32::(Lib.itoa e.2.2.2.2.2.2.2.2.1.1++32::Lib.itoa e.2.2.2.2.2.2.2.2.1.2.2.2)))):=by
 have hl:=wF n0 n1
 have ht:=wF t0 t1
 have hp:=wF p0 p1
 have hy:=wF y0 y1
 refine z2Y h n0 n1 hk hf ?_
 unfold zFD
 rw[zBD t0 (by omega),zob,qL (by simp;omega),zob,qL (by simp;omega),zob,zBD p0 (by omega),zob,qL (by simp;omega),zob,hm,Qa (by decide),Qm (by decide),qL (by simp;omega),zob,qL (by simp;omega),zob,zBD y0 (by omega),zob,qL (by simp;omega),zob]
 simp[z0D]
theorem l_att (hk:e.1=6)(hm:e.2.2.2.2.2.2.2.2.1.2.1=2){t:zA}{c:Int}(hf:zAR e.2.2.2.2.2.2.2.2.2=some (t,c))(x0:0≤e.2.2.2.2.2.2.2.2.1.2.2.1)(x1:e.2.2.2.2.2.2.2.2.1.2.2.1≤9999): zAn e=some (z0E++32::(Lib.itoa e.2.1++32::(Lib.itoa e.2.2.1++32::(Lib.itoa e.2.2.2.2.2.2.2.2.1.1++32::(Lib.itoa e.2.2.2.2.2.2.2.2.1.2.2.1++32::Lib.itoa e.2.2.2.2.2.2.2.2.1.2.2.2))))):=by
 have hl:=wF n0 n1
 have ht:=wF t0 t1
 have hp:=wF p0 p1
 have hy:=wF y0 y1
 have hx:=wF x0 x1
 refine z2Y h n0 n1 hk hf ?_
 unfold zFD
 rw[zBD t0 (by omega),zob,qL (by simp;omega),zob,qL (by simp;omega),zob,zBD p0 (by omega),zob,qL (by simp;omega),zob,hm,Qm (by decide),qL (by simp;omega),zob,qL (by simp;omega),zob,zBD x0 (by omega),zob,qL (by simp;omega),zob,qL (by simp;omega),zob,zBD y0 (by omega),zob,qL (by simp;omega),zob]
 simp[z0E]
end
end
end Go.GD
