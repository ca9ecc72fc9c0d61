/- A part. Conditions: none. -/
import Derived.Test.YtcoildnkgkbjfaaGreatDoorPlL2
namespace Go.GD
set_option autoImplicit false
set_option linter.unusedVariables false
section
def LB (e:qZ): Prop:=∃ s c,zBO e=some (s,c)∧zCt e=some (s,c)∧s.length≤1000∧(c=0->yM s=some (e,true)∧uN s=some e)
theorem zFS{e:qZ}(hk:1≤e.1∧e.1≤10){G pt b:Bool}{ws:List zA}{T:zA}{c:qZ}
  (hw:xI (e,[],false)=some (ws,!G)) (hp:zAk e=some pt)
  (hpG:wR e.2.1=true->pt=true->G=true) (hGp:G=true->c=e->wR e.2.1=true∧pt=true)
  (hT:G=true->zDA ws [32]=some T∧yM T=some (c,b)∧uN T=some c∧zAn e=some T∧T.length≤1000∧(b=false->c≠e)∧wQ c.2.2.2.2.2.2.2.2.2≤5000∧c.2.2.2.2.2.1.2.2.2.2.length≤100000):LB e:=by
 have hr:(decide (e.1<1)||decide (10<e.1))=false:=by rw[QF (by omega),QF (by omega)];rfl
 have hP:zBO e=(xI (e,[],false)).bind fun r1=>if r1.2=true then some ([],3) else(zDA r1.1 [32]).bind fun r2=>(yM r2).bind fun r3=>((if(!r3.2)=true then some true else(zFM r3.1 e).bind fun r4=>some (!r4)):Option Bool).bind fun s1=>if s1=true then some ([],3) else some (r2,0):=by
  unfold zBO
  rw[hr]
  rfl
 have hR:zCt e=((if(!wR e.2.1)=true then some true else some (!pt)):Option Bool).bind fun s1=>if s1=true then some ([],3) else(zAn e).bind fun r3=>(uN r3).bind fun r4=>(zFI r4 e).bind fun r5=>if(!r5)=true then some ([],3) else some (r3,0):=by
  unfold zCt
  rw[hr,Qa (by decide),zHu,zob,hp,zob]
 rw[hw,zob] at hP
 cases G with
 | false =>
  grind [LB]
 | true =>
  obtain⟨j1,j2,j3,j4,j5,j6,j7,j8⟩:=hT rfl
  dsimp only at hP
  rw[Qx,Qa (by decide),j1,zob,j2,zob] at hP
  dsimp only at hP
  rw[zN9 j7 j8,zob] at hP
  cases hq:eqE c e with
  | true =>
   have hce:=zYC.1 hq
   have hb:b=true:=by
    cases b with
    | true=>rfl
    | false=>grind
   obtain⟨g1,g2⟩:=hGp rfl hce
   refine⟨T,0,?_,?_,j5,fun _=>⟨?_,?_⟩⟩
   ·grind
   ·rw[hR,g1,g2,Qa (by decide),Qx,zob,Qa (by decide),j4,zob,j3,zob,zP9 j7 j8,hq]
    rfl
   ·grind
   grind
  | false =>
   refine⟨[],3,?_,?_,by simp,fun e=>by cases e⟩
   ·grind
   ·rw[hR]
    cases hs:wR e.2.1 with
    | false=>rfl
    | true =>
     cases hpt:pt with
     | false=>rfl
     | true =>
      rw[Qx,Qa (by decide),zob,Qa (by decide),j4,zob,j3,zob,zP9 j7 j8,hq]
      rfl
theorem jn3 (a b c:zA): uK [a,b,c]=a++32::(b++32::c):=rfl
theorem zH6{n:Int}(h:wR n=true): 0≤n∧n≤9999:=z7W.1 h
theorem vZ:wQ (fm (0,[],[]))≤5000:=by show wQ (.mk 0 [] [])≤_;rw[wQ,yE];omega
section
variable {e:qZ}(h:xQ e)
include h
theorem z6F (hk:e.1=1∨e.1=2): LB e:=by
 obtain⟨t,c,f1,f2,f3,f4⟩:=zDu h.f
 refine zFS (by omega) (w_put h hk) (p_put h hk) (T:=(if e.1=1 then z1x else zR2)++32::(Lib.itoa e.2.1++32::e.2.2.2.2.1)) (c:=(e.1,e.2.1,0,0,e.2.2.2.2.1,(0,0,0,(false,[]),[]),(false,[]),(0,0),(0,0,0,0),fm (0,[],[]))) (b:=true) (fun a b=>by grind) (fun hG _=>by grind) (fun hG=>?_)
 rw[Qb] at hG
 obtain⟨n0,n1⟩:=zH6 hG.1
 have hl:=wF n0 n1
 have ht:e.2.2.2.2.1.length≤200:=by
  have:=hG.2
  unfold z5r at this
  simp at this
  omega
 have hlen:((if e.1=1 then z1x else zR2)++32::(Lib.itoa e.2.1++32::e.2.2.2.2.1)).length≤1000:=by
  have:(if e.1=1 then z1x else zR2).length≤4:=by split <;> decide
  simp only[Qc,Qn]
  omega
 refine⟨(zIo (by simp) (by rw[jn3];omega)).trans (by rw[jn3]),?_,?_,l_put h n0 n1 hk f2,hlen,(fun e=>by cases e),vZ,by simp⟩
 ·grind [z1V,zZv]
 grind [z1T,z0S]
theorem lb_wd (hk:e.1=3): LB e:=by
 obtain⟨t,c,f1,f2,f3,f4⟩:=zDu h.f
 refine zFS (by omega) (w_wd h hk) (p_wd h hk) (T:=kWd++32::Lib.itoa e.2.1) (c:=(3,e.2.1,0,0,[],(0,0,0,(false,[]),[]),(false,[]),(0,0),(0,0,0,0),fm (0,[],[]))) (b:=true) (fun a _=>a) (fun hG _=>⟨hG,rfl⟩) (fun hG=>?_)
 obtain⟨n0,n1⟩:=zH6 hG
 have hl:=wF n0 n1
 have hlen:(kWd++32::Lib.itoa e.2.1).length≤1000:=by
  simp only[Qc,Qn]
  have:kWd.length=8:=rfl
  omega
 exact⟨zIo (l:=[kWd,Lib.itoa e.2.1]) (by simp) (Qy hlen (by omega)),z4v n0 n1,z3s n0 n1,l_wd h n0 n1 hk f2,hlen,(fun e=>by cases e),vZ,by simp⟩
theorem lb_opn (hk:e.1=5): LB e:=by
 obtain⟨t,c,f1,f2,f3,f4⟩:=zDu h.f
 refine zFS (by omega) (w_opn h hk) (p_opn h hk) (T:=zZw++32::(Lib.itoa e.2.1++32::(qH e.2.2.2.2.2.2.1++32::(Lib.itoa e.2.2.2.2.2.2.2.1.1++32::Lib.itoa e.2.2.2.2.2.2.2.1.2)))) (c:=(5,e.2.1,0,0,[],(0,0,0,(false,[]),[]),e.2.2.2.2.2.2.1,(e.2.2.2.2.2.2.2.1.1,e.2.2.2.2.2.2.2.1.2),(0,0,0,0),fm (0,[],[]))) (b:=true) (fun a b=>by grind) (fun hG _=>by grind) (fun hG=>?_)
 simp only[Qb] at hG
 obtain⟨hn,hv,ha,hb⟩:=hG
 obtain⟨n0,n1⟩:=zH6 hn
 obtain⟨a0,a1⟩:=zH6 ha
 obtain⟨b0,b1⟩:=zH6 hb
 have h1:=wF n0 n1
 have h2:=wF a0 a1
 have h3:=wF b0 b1
 have h4:=yK e.2.2.2.2.2.2.1
 have hlen:(zZw++32::(Lib.itoa e.2.1++32::(qH e.2.2.2.2.2.2.1++32::(Lib.itoa e.2.2.2.2.2.2.2.1.1++32::Lib.itoa e.2.2.2.2.2.2.2.1.2)))).length≤1000:=by
  simp only[Qc,Qn]
  have:zZw.length=4:=rfl
  omega
 exact⟨zIo (l:=[zZw,Lib.itoa e.2.1,qH e.2.2.2.2.2.2.1,Lib.itoa e.2.2.2.2.2.2.2.1.1,Lib.itoa e.2.2.2.2.2.2.2.1.2]) (by simp) (Qy hlen (by omega)),z2W n0 n1 hv a0 a1 b0 b1,z1C n0 n1 hv a0 a1 b0 b1,l_opn h n0 n1 hk f2 a0 a1 b0 b1,hlen,(fun e=>by cases e),vZ,by simp⟩
theorem lb_dec (hk:e.1=7): LB e:=by
 obtain⟨t,c,f1,f2,f3,f4⟩:=zDu h.f
 refine zFS (by omega) (w_dec h hk) (p_dec h hk) (T:=zZ8++32::(Lib.itoa e.2.1++32::(Lib.itoa e.2.2.2.1++32::qH e.2.2.2.2.2.2.1))) (c:=(7,e.2.1,0,e.2.2.2.1,[],(0,0,0,(false,[]),[]),e.2.2.2.2.2.2.1,(0,0),(0,0,0,0),fm (0,[],[]))) (b:=true) (fun a b=>by grind) (fun hG _=>by grind) (fun hG=>?_)
 simp only[Qb] at hG
 obtain⟨hn,hd,hv⟩:=hG
 obtain⟨n0,n1⟩:=zH6 hn
 obtain⟨a0,a1⟩:=zH6 hd
 have h1:=wF n0 n1
 have h2:=wF a0 a1
 have h4:=yK e.2.2.2.2.2.2.1
 have hlen:(zZ8++32::(Lib.itoa e.2.1++32::(Lib.itoa e.2.2.2.1++32::qH e.2.2.2.2.2.2.1))).length≤1000:=by
  simp only[Qc,Qn]
  have:zZ8.length=6:=rfl
  omega
 exact⟨zIo (l:=[zZ8,Lib.itoa e.2.1,Lib.itoa e.2.2.2.1,qH e.2.2.2.2.2.2.1]) (by simp) (Qy hlen (by omega)),zXM n0 n1 hv a0 a1,z3J n0 n1 hv a0 a1,l_dec h n0 n1 hk f2 a0 a1,hlen,(fun e=>by cases e),vZ,by simp⟩
theorem lb_ch (hk:e.1=8∨e.1=9∨e.1=10): LB e:=by
 obtain⟨t,c,f1,f2,f3,f4⟩:=zDu h.f
 obtain⟨g,o,o',c2,q1,q2,q3,q4⟩:=zKT t
 have hg:wQ g≤5000:=by
  by_cases hc:c2=0
  ·grind
  ·rw[(q4 hc).1];exact vZ
 refine zFS (by omega) (w_ch h hk f1 fun e=>(f4 e).1) (p_ch h hk f2) (T:=kCh e.1++32::(Lib.itoa e.2.1++32::(Lib.itoa e.2.2.2.1++32::t))) (c:=(e.1,e.2.1,0,e.2.2.2.1,[],(0,0,0,(false,[]),[]),(false,[]),(0,0),(0,0,0,0),g)) (b:=c2==0) (fun a b=>by grind) (fun hG _=>by grind) (fun hG=>?_)
 simp only[Qb,QH,Ql] at hG
 obtain⟨hn,hd,hc,ht⟩:=hG
 obtain⟨n0,n1⟩:=zH6 hn
 obtain⟨a0,a1⟩:=zH6 hd
 have h1:=wF n0 n1
 have h2:=wF a0 a1
 have hlen:(kCh e.1++32::(Lib.itoa e.2.1++32::(Lib.itoa e.2.2.2.1++32::t))).length≤1000:=by
  have:(kCh e.1).length≤6:=by rcases hk with hk | hk | hk <;> rw[hk] <;> decide
  simp only[Qc,Qn]
  omega
 refine⟨zIo (l:=[kCh e.1,Lib.itoa e.2.1,Lib.itoa e.2.2.2.1,t]) (by simp) (Qy hlen (by omega)),zZ7 n0 n1 hk a0 a1 (by omega) q1,z4Z n0 n1 hk a0 a1 (by omega) q2,l_ch h n0 n1 hk f2 f3 a0 a1,hlen,fun hb he=>?_,hg,by simp⟩
 have hc2:c2≠0:=by simpa using hb
 have hf:g=e.2.2.2.2.2.2.2.2.2:=congrArg (fun z:qZ=>z.2.2.2.2.2.2.2.2.2) he
 have hkd:=(f4 hc).2
 rw[←hf,(q4 hc2).1] at hkd
 revert hkd
 show vA (.mk 0 [] [])=true->False
 grind [vA]
theorem lb_att (hk:e.1=6)(hm:e.2.2.2.2.2.2.2.2.1.2.1=2): LB e:=by
 obtain⟨t,c,f1,f2,f3,f4⟩:=zDu h.f
 refine zFS (by omega) (w_att h hk hm) (z4w h hk) (T:=z0E++32::(Lib.itoa e.2.1++32::(Lib.itoa e.2.2.1++32::(Lib.itoa e.2.2.2.2.2.2.2.2.1.1++32::(Lib.itoa e.2.2.2.2.2.2.2.2.1.2.2.1++32::Lib.itoa e.2.2.2.2.2.2.2.2.1.2.2.2))))) (c:=z5P e.2.1 e.2.2.1 (e.2.2.2.2.2.2.2.2.1.1,2,e.2.2.2.2.2.2.2.2.1.2.2.1,e.2.2.2.2.2.2.2.2.1.2.2.2)) (b:=true) (fun a b=>by
   simp only[Qb] at b ⊢
   refine⟨b.2.1,a,b.1,?_,b.2.2.2.1,b.2.2.2.2⟩
   grind [plB,wR]) (fun hG _=>by
   grind) (fun hG=>?_)
 simp only[Qb] at hG
 obtain⟨_,hn,htr,hp,hx,hy⟩:=hG
 obtain⟨n0,n1⟩:=zH6 hn
 obtain⟨t0,t1⟩:=zH6 htr
 obtain⟨p0,p1⟩:=zH6 hp
 obtain⟨x0,x1⟩:=zH6 hx
 obtain⟨y0,y1⟩:=zH6 hy
 have h1:=wF n0 n1
 have h2:=wF t0 t1
 have h3:=wF p0 p1
 have h4:=wF x0 x1
 have h5:=wF y0 y1
 have hlen:(z0E++32::(Lib.itoa e.2.1++32::(Lib.itoa e.2.2.1++32::(Lib.itoa e.2.2.2.2.2.2.2.2.1.1++32::(Lib.itoa e.2.2.2.2.2.2.2.2.1.2.2.1++32::Lib.itoa e.2.2.2.2.2.2.2.2.1.2.2.2))))).length≤1000:=by
  simp only[Qc,Qn]
  have:z0E.length=6:=rfl
  omega
 exact⟨zIo (l:=[z0E,Lib.itoa e.2.1,Lib.itoa e.2.2.1,Lib.itoa e.2.2.2.2.2.2.2.2.1.1,Lib.itoa e.2.2.2.2.2.2.2.2.1.2.2.1,Lib.itoa e.2.2.2.2.2.2.2.2.1.2.2.2]) (by simp) (Qy hlen (by omega)),z3K n0 n1 t0 t1 p0 p1 x0 x1 y0 y1,z11 n0 n1 t0 t1 p0 p1 x0 x1 y0 y1,l_att h n0 n1 t0 t1 p0 p1 y0 y1 hk hm f2 x0 x1,hlen,(fun e=>by cases e),vZ,by simp⟩
theorem lb_tak (hk:e.1=6)(hm:e.2.2.2.2.2.2.2.2.1.2.1=3): LB e:=by
 obtain⟨t,c,f1,f2,f3,f4⟩:=zDu h.f
 refine zFS (by omega) (w_tak h hk hm) (z4w h hk) (T:=z0D++32::(Lib.itoa e.2.1++32::(Lib.itoa e.2.2.1++32::(Lib.itoa e.2.2.2.2.2.2.2.2.1.1++32::Lib.itoa e.2.2.2.2.2.2.2.2.1.2.2.2)))) (c:=z5P e.2.1 e.2.2.1 (e.2.2.2.2.2.2.2.2.1.1,3,0,e.2.2.2.2.2.2.2.2.1.2.2.2)) (b:=true) (fun a b=>by
   simp only[Qb] at b ⊢
   refine⟨b.2.1,a,b.1,?_,b.2.2.2.2⟩
   grind [plB,wR]) (fun hG hce=>by
   have hx:0=e.2.2.2.2.2.2.2.2.1.2.2.1:=congrArg (fun z:qZ=>z.2.2.2.2.2.2.2.2.1.2.2.1) hce
   simp only[Qb] at hG ⊢
   exact⟨hG.2.1,hG.2.2.1,hG.1,⟨by grind,by grind⟩,by rw[←hx];rfl,hG.2.2.2.2⟩) (fun hG=>?_)
 simp only[Qb] at hG
 obtain⟨_,hn,htr,hp,hy⟩:=hG
 obtain⟨n0,n1⟩:=zH6 hn
 obtain⟨t0,t1⟩:=zH6 htr
 obtain⟨p0,p1⟩:=zH6 hp
 obtain⟨y0,y1⟩:=zH6 hy
 have h1:=wF n0 n1
 have h2:=wF t0 t1
 have h3:=wF p0 p1
 have h5:=wF y0 y1
 have hlen:(z0D++32::(Lib.itoa e.2.1++32::(Lib.itoa e.2.2.1++32::(Lib.itoa e.2.2.2.2.2.2.2.2.1.1++32::Lib.itoa e.2.2.2.2.2.2.2.2.1.2.2.2)))).length≤1000:=by
  simp only[Qc,Qn]
  have:z0D.length=8:=rfl
  omega
 exact⟨zIo (l:=[z0D,Lib.itoa e.2.1,Lib.itoa e.2.2.1,Lib.itoa e.2.2.2.2.2.2.2.2.1.1,Lib.itoa e.2.2.2.2.2.2.2.2.1.2.2.2]) (by simp) (Qy hlen (by omega)),z26 n0 n1 t0 t1 p0 p1 y0 y1,z3N n0 n1 t0 t1 p0 p1 y0 y1,l_tak h n0 n1 t0 t1 p0 p1 y0 y1 hk hm f2,hlen,(fun e=>by cases e),vZ,by simp⟩
theorem lb_giv (hk:e.1=6)(hm:e.2.2.2.2.2.2.2.2.1.2.1=4): LB e:=by
 obtain⟨t,c,f1,f2,f3,f4⟩:=zDu h.f
 refine zFS (by omega) (w_giv h hk hm) (z4w h hk) (T:=z0C++32::(Lib.itoa e.2.1++32::(Lib.itoa e.2.2.1++32::Lib.itoa e.2.2.2.2.2.2.2.2.1.1))) (c:=z5P e.2.1 e.2.2.1 (e.2.2.2.2.2.2.2.2.1.1,4,0,0)) (b:=true) (fun a b=>by
   simp only[Qb] at b ⊢
   refine⟨b.2.1,a,b.1,?_⟩
   grind [plB,wR]) (fun hG hce=>by
   have hx:0=e.2.2.2.2.2.2.2.2.1.2.2.1:=congrArg (fun z:qZ=>z.2.2.2.2.2.2.2.2.1.2.2.1) hce
   have hy:0=e.2.2.2.2.2.2.2.2.1.2.2.2:=congrArg (fun z:qZ=>z.2.2.2.2.2.2.2.2.1.2.2.2) hce
   simp only[Qb] at hG ⊢
   exact⟨hG.2.1,hG.2.2.1,hG.1,⟨by grind,by grind⟩,by rw[←hx];rfl,by rw[←hy];rfl⟩) (fun hG=>?_)
 simp only[Qb] at hG
 obtain⟨_,hn,htr,hp⟩:=hG
 obtain⟨n0,n1⟩:=zH6 hn
 obtain⟨t0,t1⟩:=zH6 htr
 obtain⟨p0,p1⟩:=zH6 hp
 have h1:=wF n0 n1
 have h2:=wF t0 t1
 have h3:=wF p0 p1
 have hlen:(z0C++32::(Lib.itoa e.2.1++32::(Lib.itoa e.2.2.1++32::Lib.itoa e.2.2.2.2.2.2.2.2.1.1))).length≤1000:=by
  simp only[Qc,Qn]
  have:z0C.length=6:=rfl
  omega
 exact⟨zIo (l:=[z0C,Lib.itoa e.2.1,Lib.itoa e.2.2.1,Lib.itoa e.2.2.2.2.2.2.2.2.1.1]) (by simp) (Qy hlen (by omega)),z2a n0 n1 t0 t1 p0 p1,z2n n0 n1 t0 t1 p0 p1,l_giv h n0 n1 t0 t1 p0 p1 hk hm f2,hlen,(fun e=>by cases e),vZ,by simp⟩
theorem lb_mov (hk:e.1=6)(hm:e.2.2.2.2.2.2.2.2.1.2.1≠2∧e.2.2.2.2.2.2.2.2.1.2.1≠3∧e.2.2.2.2.2.2.2.2.1.2.1≠4): LB e :=
 zFS (G:=false) (T:=[]) (c:=ev0) (b:=true) (by omega) (w_mov h hk hm) (z4w h hk) (fun _ b=>by
  grind) (fun e=>by cases e) (fun e=>by cases e)
theorem z3Y{k:Int}(hk:e.1=4)(hs:e.2.2.2.2.2.1.1=k)(hk3:k=1∨k=4∨k=5): LB e:=by
 obtain⟨t,c,f1,f2,f3,f4⟩:=zDu h.f
 refine zFS (by omega) (w_say h hk hs hk3) (z3w h hk) (T:=(if k=1 then z0n else if k=4 then z0t else z0s)++32::(Lib.itoa e.2.1++32::qH e.2.2.2.2.2.1.2.2.2.1)) (c:=zZG e.2.1 (k,0,0,e.2.2.2.2.2.1.2.2.2.1,[])) (b:=true) (fun a b=>by grind) (fun hG hce=>by
   have hi:0=e.2.2.2.2.2.1.2.2.1:=congrArg (fun z:qZ=>z.2.2.2.2.2.1.2.2.1) hce
   have hg:[]=e.2.2.2.2.2.1.2.2.2.2:=congrArg (fun z:qZ=>z.2.2.2.2.2.1.2.2.2.2) hce
   rw[Qb] at hG
   rw[hs,←hi,←hg,hG.2]
   refine⟨hG.1,?_⟩
   rcases hk3 with rfl | rfl | rfl <;> rfl) (fun hG=>?_)
 simp only[Qb] at hG
 obtain⟨hn,hv⟩:=hG
 obtain⟨n0,n1⟩:=zH6 hn
 have h1:=wF n0 n1
 have h4:=yK e.2.2.2.2.2.1.2.2.2.1
 have hlen:((if k=1 then z0n else if k=4 then z0t else z0s)++32::(Lib.itoa e.2.1++32::qH e.2.2.2.2.2.1.2.2.2.1)).length≤1000:=by
  have:(if k=1 then z0n else if k=4 then z0t else z0s).length≤7:=by split <;> (try split) <;> decide
  simp only[Qc,Qn]
  omega
 refine⟨(zIo (by simp) (by rw[jn3];omega)).trans (by rw[jn3]),?_,?_,l_say h n0 n1 hk hs hk3 f2,hlen,(fun e=>by cases e),vZ,by simp⟩
 ·rcases hk3 with rfl | rfl | rfl
  ·exact z1D n0 n1 hv
  ·exact z32 n0 n1 hv
  ·exact z2g n0 n1 hv
 ·rcases hk3 with rfl | rfl | rfl
  ·exact z1i n0 n1 hv
  ·exact z2X n0 n1 hv
  ·exact z39 n0 n1 hv
theorem lb_chl (hk:e.1=4)(hs:e.2.2.2.2.2.1.1=2): LB e:=by
 obtain⟨t,c,f1,f2,f3,f4⟩:=zDu h.f
 refine zFS (by omega) (w_chl h hk hs) (z3w h hk) (T:=z0p++32::(Lib.itoa e.2.1++32::(Lib.itoa e.2.2.2.2.2.1.2.2.1++32::qH e.2.2.2.2.2.1.2.2.2.1))) (c:=zZG e.2.1 (2,0,e.2.2.2.2.2.1.2.2.1,e.2.2.2.2.2.1.2.2.2.1,[])) (b:=true) (fun a b=>by grind) (fun hG hce=>by
   grind) (fun hG=>?_)
 simp only[Qb] at hG
 obtain⟨hn,hi,hv⟩:=hG
 obtain⟨n0,n1⟩:=zH6 hn
 obtain⟨i0,i1⟩:=zH6 hi
 have h1:=wF n0 n1
 have h2:=wF i0 i1
 have h4:=yK e.2.2.2.2.2.1.2.2.2.1
 have hlen:(z0p++32::(Lib.itoa e.2.1++32::(Lib.itoa e.2.2.2.2.2.1.2.2.1++32::qH e.2.2.2.2.2.1.2.2.2.1))).length≤1000:=by
  simp only[Qc,Qn]
  have:z0p.length=9:=rfl
  omega
 exact⟨zIo (l:=[z0p,Lib.itoa e.2.1,Lib.itoa e.2.2.2.2.2.1.2.2.1,qH e.2.2.2.2.2.1.2.2.2.1]) (by simp) (Qy hlen (by omega)),z2T n0 n1 hv i0 i1,z2k n0 n1 hv i0 i1,l_chl h n0 n1 hk hs f2 i0 i1,hlen,(fun e=>by cases e),vZ,by simp⟩
theorem z5q (a b c d:zA)(gs:List zE)(hne:gs≠[]): uK ([a,b,c,d]++gs.map qH)=a++32::(b++32::(c++32::(d++32::uK (gs.map qH)))):=by
 have _:=h
 cases gs with
 | nil=>grind
 | cons g gs=>rfl
theorem lb_arg (hk:e.1=4)(hs:e.2.2.2.2.2.1.1=3): LB e:=by
 obtain⟨t,c,f1,f2,f3,f4⟩:=zDu h.f
 refine zFS (by omega) (w_arg h hk hs) (z3w h hk) (T:=zYc++32::(Lib.itoa e.2.1++32::(qH e.2.2.2.2.2.1.2.2.2.1++32::(zVl++32::uK (e.2.2.2.2.2.1.2.2.2.2.map qH))))) (c:=zZG e.2.1 (3,0,0,e.2.2.2.2.2.1.2.2.2.1,e.2.2.2.2.2.1.2.2.2.2)) (b:=true) (fun a b=>by
   grind) (fun hG hce=>by
   have hi:0=e.2.2.2.2.2.1.2.2.1:=congrArg (fun z:qZ=>z.2.2.2.2.2.1.2.2.1) hce
   simp only[Qb] at hG
   rw[hs,←hi,hG.2.1,hG.2.2.2,hG.2.2.1.1,hG.2.2.1.2]
   exact⟨hG.1,rfl⟩) (fun hG=>?_)
 simp only[Qb,Ql,QK] at hG
 obtain⟨hn,hv,⟨g1,g6⟩,hg⟩:=hG
 obtain⟨n0,n1⟩:=zH6 hn
 have hne:e.2.2.2.2.2.1.2.2.2.2≠[]:=QL.1 g1
 have h1:=wF n0 n1
 have h3:=zUH e.2.2.2.2.2.1.2.2.2.2
 have h4:=yK e.2.2.2.2.2.1.2.2.2.1
 have hlen:(zYc++32::(Lib.itoa e.2.1++32::(qH e.2.2.2.2.2.1.2.2.2.1++32::(zVl++32::uK (e.2.2.2.2.2.1.2.2.2.2.map qH))))).length≤1000:=by
  simp only[Qc,Qn]
  have:zYc.length=5:=rfl
  have:zVl.length=7:=rfl
  omega
 refine⟨(zIo (by simp;omega) (by rw[z5q h _ _ _ _ _ hne];omega)).trans (by rw[z5q h _ _ _ _ _ hne]),zVg n0 n1 hv hne hg g6,z3V n0 n1 hv hne hg g6,l_arg h n0 n1 hk hs f2 hne,hlen,(fun e=>by cases e),vZ,?_⟩
 grind
theorem lb_non (hk:e.1=4)(hs:e.2.2.2.2.2.1.1≠1∧e.2.2.2.2.2.1.1≠2∧e.2.2.2.2.2.1.1≠3∧e.2.2.2.2.2.1.1≠4∧e.2.2.2.2.2.1.1≠5): LB e :=
 zFS (G:=false) (T:=[]) (c:=ev0) (b:=true) (by omega) (w_non h hk hs) (z3w h hk) (fun _ b=>by
  grind) (fun e=>by cases e) (fun e=>by cases e)
theorem zHA:LB e:=by
 by_cases hr:1≤e.1∧e.1≤10
 ·have hc:e.1=1∨e.1=2∨e.1=3∨e.1=4∨e.1=5∨e.1=6∨e.1=7∨(e.1=8∨e.1=9∨e.1=10):=by omega
  rcases hc with hk | hk | hk | hk | hk | hk | hk | hk
  ·exact z6F h (.inl hk)
  ·exact z6F h (.inr hk)
  ·exact lb_wd h hk
  ·by_cases h1:e.2.2.2.2.2.1.1=1
   ·exact z3Y h hk h1 (.inl rfl)
   by_cases h2:e.2.2.2.2.2.1.1=2
   ·exact lb_chl h hk h2
   by_cases h3:e.2.2.2.2.2.1.1=3
   ·exact lb_arg h hk h3
   by_cases h4:e.2.2.2.2.2.1.1=4
   ·exact z3Y h hk h4 (.inr (.inl rfl))
   by_cases h5:e.2.2.2.2.2.1.1=5
   ·exact z3Y h hk h5 (.inr (.inr rfl))
   grind [lb_non]
  ·exact lb_opn h hk
  ·grind [lb_att,lb_tak,lb_giv,lb_mov]
  ·exact lb_dec h hk
  ·exact lb_ch h hk
 ·have hb:(decide (e.1<1)||decide (10<e.1))=true:=by
   rw[QI,Ql,Ql]
   omega
  refine⟨[],4,?_,?_,by simp,fun e=>by cases e⟩
  ·unfold zBO;grind
  ·unfold zCt;grind
end
end
section
theorem Ok.wh41{σ ρ:Type}{B:σ->Option (σ⊕ρ)}(I:σ->Prop)(μ:σ->Nat){Q:ρ->Prop}(h:∀ s,I s->Ok (B s) fun o=>match o with | .inl t=>I t∧μ t<μ s | .inr r=>Q r): ∀(n:Nat) (s:σ),μ s≤n->I s->Ok (zJ B s) Q
 | n,s,hn,hs=>by
  obtain⟨o,ho,hq⟩:=h s hs
  cases o with
  | inr r=>exact⟨r,vM ho,hq⟩
  | inl t =>
   dsimp only at hq
   cases n with
   | zero=>omega
   | succ n =>
    obtain⟨r,hr,hr2⟩:=Ok.wh41 I μ h n t (by omega) hq.1
    exact⟨r,(uE ho).trans hr,hr2⟩
theorem zK:wA 0:=by unfold wA;omega
theorem zTi{n:Int}(h0:-1000000≤n)(h1:n≤1000000): wA n:=by unfold wA;omega
theorem vV{k n tr d:Int}{t:zA}{sk u i:Int}{l:zE}{gs:List zE}{l2:zE}{a b pl mk x y:Int}{f:zC}(hn:wA n)(htr:wA tr)(hd:wA d)(ht:t.length≤100000)(hi:wA i)(hg:gs.length≤50000)(ha:wA a)(hb:wA b)(hp:wA pl)(hx:wA x)(hy:wA y)(hf:wQ f≤5000): xQ (k,n,tr,d,t,(sk,u,i,l,gs),l2,(a,b),(pl,mk,x,y),f) :=
 ⟨hn,htr,hd,ht,hi,hg,ha,hb,hp,hx,hy,hf⟩
section
variable {r:zA}{e b:Bool}{ev:qZ}(hr:r.length≤5000)
include hr
theorem zZD:(wY 32 r).1.length≤5000∧(wY 32 r).2.1.length≤5000:=by
 have:=congrArg List.length (zP2 32 r)
 rw[Qc] at this
 cases hc:(wY 32 r).2.2 with
 | true =>
  grind
 | false =>
  rw[zRN 32 r hc]
  grind
theorem okX:Ok (zAv (r,e,b,ev)) fun z=>z.1.length≤5000∧z.2.1.length≤5000 :=
 ⟨_,zV8 (by omega),zZD hr⟩
theorem okN:Ok (xH (r,e,b,ev)) fun z=>wA z.1∧z.2.1.length≤5000:=by
 obtain⟨v,h,_,hb⟩:=zR4 (r:=r) (e:=e) (b:=b) (ev:=ev) (by omega)
 exact⟨_,h,hb,(zZD hr).2⟩
theorem okL:Ok (zA9 (r,e,b,ev)) fun z=>z.2.1.length≤5000 :=
 ⟨_,zZk (by omega),(zZD hr).2⟩
theorem okA:Ok (zCE (r,e,b,ev)) fun z=>z.1.length≤5000∧z.2.1.length≤5000:=by
 unfold zCE
 refine⟨(r,[],true,b||e),?_,hr,by simp⟩
 grind
theorem okT1{k:Int}: Ok (zCX (r,e,b,ev) k) fun z=>z.2.2.2.2.length≤5000:=by
 unfold zCX
 exact(okA hr).bind fun z hz=>.ret hz.1
theorem okF1:Ok (zBm (r,e,b,ev)) fun z=>wQ (fm (z.2.2.2.1,z.2.2.2.2.1,z.2.2.2.2.2))≤5000:=by
 unfold zBm
 refine(okA hr).bind fun z hz=>?_
 obtain⟨g,o,o',c2,q1,q2,q3,q4⟩:=zKT z.1
 have hg:wQ g≤5000:=by
  by_cases hc:c2=0
  ·grind
  ·rw[(q4 hc).1];exact vZ
 rw[q1,zob]
 refine Ok.bind (I:=fun _=>True) (.ite (fun _=>.ret trivial) fun _=>.ret trivial) fun s _=>.ret ?_
 obtain⟨op,w,ls⟩:=g
 exact hg
theorem okM{k:Int}: Ok (zAw (r,e,b,ev) k) fun z=>wA z.2.2.2.2.1∧wA z.2.2.2.2.2.1∧wA z.2.2.2.2.2.2.2.1∧wA z.2.2.2.2.2.2.2.2:=by
 unfold zAw
 refine(okN hr).bind fun z1 h1=>(okN h1.2).bind fun z2 h2=>Ok.bind (I:=fun s=>wA s.2.2.2∧s.1.length≤5000) (.ite (fun _=>(okN h2.2).bind fun z3 h3=>.ret ⟨h3.1,h3.2⟩) fun _=>.ret ⟨zK,h2.2⟩) fun s hs=>.ite (fun _=>(okN hs.2).bind fun z4 h4=>.ret ⟨h1.1,h2.1,hs.1,h4.1⟩) fun _=>.ret ⟨h1.1,h2.1,hs.1,zK⟩
theorem okC{k:Int}: Ok (zAu (r,e,b,ev) k) fun z=>wA z.2.2.2.2.1∧wQ (fm (z.2.2.2.2.2.1,z.2.2.2.2.2.2.1,z.2.2.2.2.2.2.2))≤5000:=by
 unfold zAu
 exact(okN hr).bind fun z1 h1=>(okF1 h1.2).bind fun z2 h2=>.ret ⟨h1.1,h2⟩
theorem okS{k:Int}(hg:ev.2.2.2.2.2.1.2.2.2.2=[])(hi:wA ev.2.2.2.2.2.1.2.2.1): Ok (zAP (r,e,b,ev) k) fun z=>wA z.2.2.2.2.2.1∧z.2.2.2.2.2.2.2.2.length≤50000:=by
 unfold zAP
 refine Ok.bind (I:=fun s=>wA s.2.2.2∧s.1.length≤5000) (.ite (fun _=>(okN hr).bind fun z3 h3=>.ret ⟨h3.1,h3.2⟩) fun _=>.ret ⟨hi,hr⟩) fun s hs=>(okL hs.2).bind fun z2 h2=>?_
 refine .ite (fun _=>.ret ⟨hs.1,by grind⟩) fun _=>?_
 refine Ok.bind (I:=fun s2=>s2.1.length≤5000) (.ite (fun _=>.ret h2) fun _=>(okX h2).bind fun z3 h3=>.ret h3.2) fun s2 hs2=>?_
 refine Ok.wh41 (fun s3:zA×Bool×Bool×List zE=>s3.1.length≤5000∧(if s3.2.1 then s3.2.2.2.length≤6001 else s3.1.length+s3.2.2.2.length≤6000)) (fun s3=>if s3.2.1 then 0 else s3.1.length+1) (fun s3 h3=>?_) _ _ (Qt _) ?_
 ·unfold zB6
  refine .ite (fun hc=>?_) fun _=>.ret ⟨hs.1,?_⟩
  ·rw[Qb] at hc
   have hne:s3.2.1=false:=by simpa using hc.1
   rw[hne] at h3
   simp only[zbf,Qh] at h3
   rw[zZk (by omega)]
   have happ:qT s3.2.2.2 [(zE7 (wY 32 s3.1).1).1]=some (s3.2.2.2++[(zE7 (wY 32 s3.1).1).1]):=yC (by simp;omega)
   refine⟨.inl ((wY 32 s3.1).2.1,!(wY 32 s3.1).2.2,(s3.2.2.1||s3.2.1)||(zE7 (wY 32 s3.1).1).2 != 0,s3.2.2.2++[(zE7 (wY 32 s3.1).1).1]),?_,?_⟩
   ·grind
   ·have hl:=zZD (r:=s3.1) h3.1
    dsimp only
    rw[hne]
    cases hcut:(wY 32 s3.1).2.2 with
    | true =>
     have:=z1U 32 hcut
     grind
    | false =>
     grind
  grind
 grind
end
end
section
theorem ok3{c a b:Bool}{l:List zE}{m:List zC}: Ok (if c=true then some (a,l,m) else some (b,l,m)) fun s=>s.2.1=l∧s.2.2=m:=.ite (fun _=>.ret ⟨rfl,rfl⟩) fun _=>.ret ⟨rfl,rfl⟩
theorem z6Y{s:zA}(hs:s.length≤5000): Ok (yM s) fun z=>xQ z.1:=by
 unfold yM zAC
 rw[zob]
 refine(okX hs).bind fun r2 h2=>?_
 refine .ite (fun _=>?_) fun _=>?_
 ·refine(okN h2.2).bind fun r3 h3=>?_
  have hR:Ok (zCM (r3.2.1,r3.2.2.1,r3.2.2.2,(0,r3.1,0,0,[],(0,0,0,(false,[]),[]),(false,[]),(0,0),(0,0,0,0),fm (0,[],[])))) fun z=>z.2.2.2.2.length≤5000:=by
   unfold zCM
   exact(okT1 h3.2).bind fun z hz=>.ret hz
  exact hR.bind fun r4 h4=>Ok.bind ok3 fun⟨_,_,_⟩ ⟨e,e2⟩=>by cases e;cases e2;exact .ret (vV h3.1 zK zK (Qy h4 (by omega)) zK (by simp) zK zK zK zK zK vZ)
 refine .ite (fun _=>?_) fun _=>?_
 ·refine(okN h2.2).bind fun r3 h3=>?_
  have hR:Ok (zCL (r3.2.1,r3.2.2.1,r3.2.2.2,(0,r3.1,0,0,[],(0,0,0,(false,[]),[]),(false,[]),(0,0),(0,0,0,0),fm (0,[],[])))) fun z=>z.2.2.2.2.length≤5000:=by
   unfold zCL
   exact(okT1 h3.2).bind fun z hz=>.ret hz
  exact hR.bind fun r4 h4=>Ok.bind ok3 fun⟨_,_,_⟩ ⟨e,e2⟩=>by cases e;cases e2;exact .ret (vV h3.1 zK zK (Qy h4 (by omega)) zK (by simp) zK zK zK zK zK vZ)
 refine .ite (fun _=>?_) fun _=>?_
 ·refine(okN h2.2).bind fun r3 h3=>?_
  have hR:Ok (zCN (r3.2.1,r3.2.2.1,r3.2.2.2,(0,r3.1,0,0,[],(0,0,0,(false,[]),[]),(false,[]),(0,0),(0,0,0,0),fm (0,[],[])))) fun _=>True:=by
   unfold zCN
   exact .ret trivial
  exact hR.bind fun r4 h4=>Ok.bind ok3 fun⟨_,_,_⟩ ⟨e,e2⟩=>by cases e;cases e2;exact .ret (vV h3.1 zK zK (by simp) zK (by simp) zK zK zK zK zK vZ)
 refine .ite (fun _=>?_) fun _=>?_
 ·refine(okN h2.2).bind fun r3 h3=>?_
  have hR:Ok (zB8 (r3.2.1,r3.2.2.1,r3.2.2.2,(0,r3.1,0,0,[],(0,0,0,(false,[]),[]),(false,[]),(0,0),(0,0,0,0),fm (0,[],[])))) fun z=>wA z.2.2.2.2.2.1∧z.2.2.2.2.2.2.2.2.length≤50000:=by
   unfold zB8
   exact(okS h3.2 rfl zK).bind fun z hz=>.ret hz
  exact hR.bind fun r4 h4=>Ok.bind ok3 fun⟨_,_,_⟩ ⟨e,e2⟩=>by cases e;cases e2;exact .ret (vV h3.1 zK zK (by simp) h4.1 h4.2 zK zK zK zK zK vZ)
 refine .ite (fun _=>?_) fun _=>?_
 ·refine(okN h2.2).bind fun r3 h3=>?_
  have hR:Ok (zBM (r3.2.1,r3.2.2.1,r3.2.2.2,(0,r3.1,0,0,[],(0,0,0,(false,[]),[]),(false,[]),(0,0),(0,0,0,0),fm (0,[],[])))) fun z=>wA z.2.2.2.2.2.1∧z.2.2.2.2.2.2.2.2.length≤50000:=by
   unfold zBM
   exact(okS h3.2 rfl zK).bind fun z hz=>.ret hz
  exact hR.bind fun r4 h4=>Ok.bind ok3 fun⟨_,_,_⟩ ⟨e,e2⟩=>by cases e;cases e2;exact .ret (vV h3.1 zK zK (by simp) h4.1 h4.2 zK zK zK zK zK vZ)
 refine .ite (fun _=>?_) fun _=>?_
 ·refine(okN h2.2).bind fun r3 h3=>?_
  have hR:Ok (zB3 (r3.2.1,r3.2.2.1,r3.2.2.2,(0,r3.1,0,0,[],(0,0,0,(false,[]),[]),(false,[]),(0,0),(0,0,0,0),fm (0,[],[])))) fun z=>wA z.2.2.2.2.2.1∧z.2.2.2.2.2.2.2.2.length≤50000:=by
   unfold zB3
   exact(okS h3.2 rfl zK).bind fun z hz=>.ret hz
  exact hR.bind fun r4 h4=>Ok.bind ok3 fun⟨_,_,_⟩ ⟨e,e2⟩=>by cases e;cases e2;exact .ret (vV h3.1 zK zK (by simp) h4.1 h4.2 zK zK zK zK zK vZ)
 refine .ite (fun _=>?_) fun _=>?_
 ·refine(okN h2.2).bind fun r3 h3=>?_
  have hR:Ok (zB1 (r3.2.1,r3.2.2.1,r3.2.2.2,(0,r3.1,0,0,[],(0,0,0,(false,[]),[]),(false,[]),(0,0),(0,0,0,0),fm (0,[],[])))) fun z=>wA z.2.2.2.2.2.1∧z.2.2.2.2.2.2.2.2.length≤50000:=by
   unfold zB1
   exact(okS h3.2 rfl zK).bind fun z hz=>.ret hz
  exact hR.bind fun r4 h4=>Ok.bind ok3 fun⟨_,_,_⟩ ⟨e,e2⟩=>by cases e;cases e2;exact .ret (vV h3.1 zK zK (by simp) h4.1 h4.2 zK zK zK zK zK vZ)
 refine .ite (fun _=>?_) fun _=>?_
 ·refine(okN h2.2).bind fun r3 h3=>?_
  have hR:Ok (zB5 (r3.2.1,r3.2.2.1,r3.2.2.2,(0,r3.1,0,0,[],(0,0,0,(false,[]),[]),(false,[]),(0,0),(0,0,0,0),fm (0,[],[])))) fun z=>wA z.2.2.2.2.2.1∧z.2.2.2.2.2.2.2.2.length≤50000:=by
   unfold zB5
   exact(okS h3.2 rfl zK).bind fun z hz=>.ret hz
  exact hR.bind fun r4 h4=>Ok.bind ok3 fun⟨_,_,_⟩ ⟨e,e2⟩=>by cases e;cases e2;exact .ret (vV h3.1 zK zK (by simp) h4.1 h4.2 zK zK zK zK zK vZ)
 refine .ite (fun _=>?_) fun _=>?_
 ·refine(okN h2.2).bind fun r3 h3=>?_
  have hR:Ok (zB7 (r3.2.1,r3.2.2.1,r3.2.2.2,(0,r3.1,0,0,[],(0,0,0,(false,[]),[]),(false,[]),(0,0),(0,0,0,0),fm (0,[],[])))) fun z=>wA z.2.2.2.2.2.2.1∧wA z.2.2.2.2.2.2.2:=by
   unfold zB7
   exact(okL h3.2).bind fun z1 k1=>(okN k1).bind fun z2 k2=>(okN k2.2).bind fun z3 k3=>.ret ⟨k2.1,k3.1⟩
  exact hR.bind fun r4 h4=>Ok.bind ok3 fun⟨_,_,_⟩ ⟨e,e2⟩=>by cases e;cases e2;exact .ret (vV h3.1 zK zK (by simp) zK (by simp) h4.1 h4.2 zK zK zK vZ)
 refine .ite (fun _=>?_) fun _=>?_
 ·refine(okN h2.2).bind fun r3 h3=>?_
  have hR:Ok (zBQ (r3.2.1,r3.2.2.1,r3.2.2.2,(0,r3.1,0,0,[],(0,0,0,(false,[]),[]),(false,[]),(0,0),(0,0,0,0),fm (0,[],[])))) fun z=>wA z.2.2.2.2.1∧wA z.2.2.2.2.2.1∧wA z.2.2.2.2.2.2.2.1∧wA z.2.2.2.2.2.2.2.2:=by
   unfold zBQ
   exact(okM h3.2).bind fun z hz=>.ret hz
  exact hR.bind fun r4 h4=>Ok.bind ok3 fun⟨_,_,_⟩ ⟨e,e2⟩=>by cases e;cases e2;exact .ret (vV h3.1 h4.1 zK (by simp) zK (by simp) zK zK h4.2.1 h4.2.2.1 h4.2.2.2 vZ)
 refine .ite (fun _=>?_) fun _=>?_
 ·refine(okN h2.2).bind fun r3 h3=>?_
  have hR:Ok (zBW (r3.2.1,r3.2.2.1,r3.2.2.2,(0,r3.1,0,0,[],(0,0,0,(false,[]),[]),(false,[]),(0,0),(0,0,0,0),fm (0,[],[])))) fun z=>wA z.2.2.2.2.1∧wA z.2.2.2.2.2.1∧wA z.2.2.2.2.2.2.2.1∧wA z.2.2.2.2.2.2.2.2:=by
   unfold zBW
   exact(okM h3.2).bind fun z hz=>.ret hz
  exact hR.bind fun r4 h4=>Ok.bind ok3 fun⟨_,_,_⟩ ⟨e,e2⟩=>by cases e;cases e2;exact .ret (vV h3.1 h4.1 zK (by simp) zK (by simp) zK zK h4.2.1 h4.2.2.1 h4.2.2.2 vZ)
 refine .ite (fun _=>?_) fun _=>?_
 ·refine(okN h2.2).bind fun r3 h3=>?_
  have hR:Ok (zBU (r3.2.1,r3.2.2.1,r3.2.2.2,(0,r3.1,0,0,[],(0,0,0,(false,[]),[]),(false,[]),(0,0),(0,0,0,0),fm (0,[],[])))) fun z=>wA z.2.2.2.2.1∧wA z.2.2.2.2.2.1∧wA z.2.2.2.2.2.2.2.1∧wA z.2.2.2.2.2.2.2.2:=by
   unfold zBU
   exact(okM h3.2).bind fun z hz=>.ret hz
  exact hR.bind fun r4 h4=>Ok.bind ok3 fun⟨_,_,_⟩ ⟨e,e2⟩=>by cases e;cases e2;exact .ret (vV h3.1 h4.1 zK (by simp) zK (by simp) zK zK h4.2.1 h4.2.2.1 h4.2.2.2 vZ)
 refine .ite (fun _=>?_) fun _=>?_
 ·refine(okN h2.2).bind fun r3 h3=>?_
  have hR:Ok (zBS (r3.2.1,r3.2.2.1,r3.2.2.2,(0,r3.1,0,0,[],(0,0,0,(false,[]),[]),(false,[]),(0,0),(0,0,0,0),fm (0,[],[])))) fun z=>wA z.2.2.2.2.1:=by
   unfold zBS
   exact(okN h3.2).bind fun z1 k1=>(okL k1.2).bind fun z2 _=>.ret k1.1
  exact hR.bind fun r4 h4=>Ok.bind ok3 fun⟨_,_,_⟩ ⟨e,e2⟩=>by cases e;cases e2;exact .ret (vV h3.1 zK h4 (by simp) zK (by simp) zK zK zK zK zK vZ)
 refine .ite (fun _=>?_) fun _=>?_
 ·refine(okN h2.2).bind fun r3 h3=>?_
  have hR:Ok (zBR (r3.2.1,r3.2.2.1,r3.2.2.2,(0,r3.1,0,0,[],(0,0,0,(false,[]),[]),(false,[]),(0,0),(0,0,0,0),fm (0,[],[])))) fun z=>wA z.2.2.2.2.1∧wQ (fm (z.2.2.2.2.2.1,z.2.2.2.2.2.2.1,z.2.2.2.2.2.2.2))≤5000:=by
   unfold zBR
   exact(okC h3.2).bind fun z hz=>.ret hz
  exact hR.bind fun r4 h4=>Ok.bind ok3 fun⟨_,_,_⟩ ⟨e,e2⟩=>by cases e;cases e2;exact .ret (vV h3.1 zK h4.1 (by simp) zK (by simp) zK zK zK zK zK h4.2)
 refine .ite (fun _=>?_) fun _=>?_
 ·refine(okN h2.2).bind fun r3 h3=>?_
  have hR:Ok (zBT (r3.2.1,r3.2.2.1,r3.2.2.2,(0,r3.1,0,0,[],(0,0,0,(false,[]),[]),(false,[]),(0,0),(0,0,0,0),fm (0,[],[])))) fun z=>wA z.2.2.2.2.1∧wQ (fm (z.2.2.2.2.2.1,z.2.2.2.2.2.2.1,z.2.2.2.2.2.2.2))≤5000:=by
   unfold zBT
   exact(okC h3.2).bind fun z hz=>.ret hz
  exact hR.bind fun r4 h4=>Ok.bind ok3 fun⟨_,_,_⟩ ⟨e,e2⟩=>by cases e;cases e2;exact .ret (vV h3.1 zK h4.1 (by simp) zK (by simp) zK zK zK zK zK h4.2)
 refine .ite (fun _=>?_) fun _=>?_
 ·refine(okN h2.2).bind fun r3 h3=>?_
  have hR:Ok (zBV (r3.2.1,r3.2.2.1,r3.2.2.2,(0,r3.1,0,0,[],(0,0,0,(false,[]),[]),(false,[]),(0,0),(0,0,0,0),fm (0,[],[])))) fun z=>wA z.2.2.2.2.1∧wQ (fm (z.2.2.2.2.2.1,z.2.2.2.2.2.2.1,z.2.2.2.2.2.2.2))≤5000:=by
   unfold zBV
   exact(okC h3.2).bind fun z hz=>.ret hz
  exact hR.bind fun r4 h4=>Ok.bind ok3 fun⟨_,_,_⟩ ⟨e,e2⟩=>by cases e;cases e2;exact .ret (vV h3.1 zK h4.1 (by simp) zK (by simp) zK zK zK zK zK h4.2)
 grind [vV,zK,vZ,Ok]
theorem zKh{w:zA}(hw:w.length≤5000): Ok (zAl w) wA:=by
 rw[num41 hw]
 refine .ret ?_
 cases h:zVe w with
 | none=>grind [wA]
 | some v =>
  obtain⟨h0,h1,_⟩:=z3b h
  grind [wA]
theorem z4B{l:List zA}(h:∀ w∈l,w.length≤5000)(i:Nat): (l.getD i []).length≤5000:=by grind
theorem z1a{l:List zA}(h:∀ w∈l,w.length≤5000)(i:Nat): Ok (xX l (i:Int)) fun w=>w.length≤5000:=⟨_,z0i l i,z4B h i⟩
theorem zIP{l:List zA}(hne:l≠[]): Ok (zD l 0) fun _=>True:=by
 cases l with
 | nil=>grind
 | cons w l=>exact⟨w,zXd w l,trivial⟩
theorem zZf (w:zA): Ok (zCY w) fun _=>True:=⟨_,zXR w,trivial⟩
theorem ok_sk (w:zA): Ok (zAV w) fun _=>True:=by
 unfold zAV
 repeat' (first | exact .ret trivial | refine .ite (fun _=>?_) fun _=>?_)
theorem ok_mk (w:zA): Ok (zBN w) fun _=>True:=by
 unfold zBN
 repeat' (first | exact .ret trivial | refine .ite (fun _=>?_) fun _=>?_)
theorem ok_fk (w:zA): Ok (zCD w) fun _=>True:=by
 unfold zCD
 repeat' (first | exact .ret trivial | refine .ite (fun _=>?_) fun _=>?_)
theorem zU1:∀(k:Nat) (s:zA),(rst k s).length≤s.length
 | _,[]=>by simp[rst]
 | k,c::r=>by
  have h1:=zU1 (k-1) r
  have h2:=zU1 k r
  grind [rst]
abbrev T20:=Int×Int×Int×zA×Int×Int×Bool×zA×(List zE)×Bool×zA×Int×Int×Int×Int×Int×Int×Int×zA×(List zC)
abbrev z6R (n:Int)(s:T20): qZ:=(s.1,n,s.2.1,s.2.2.1,s.2.2.2.1,(s.2.2.2.2.1,0,s.2.2.2.2.2.1,(s.2.2.2.2.2.2.1,s.2.2.2.2.2.2.2.1),s.2.2.2.2.2.2.2.2.1),(s.2.2.2.2.2.2.2.2.2.1,s.2.2.2.2.2.2.2.2.2.2.1),(s.2.2.2.2.2.2.2.2.2.2.2.1,s.2.2.2.2.2.2.2.2.2.2.2.2.1),(s.2.2.2.2.2.2.2.2.2.2.2.2.2.1,s.2.2.2.2.2.2.2.2.2.2.2.2.2.2.1,s.2.2.2.2.2.2.2.2.2.2.2.2.2.2.2.1,s.2.2.2.2.2.2.2.2.2.2.2.2.2.2.2.2.1),fm (s.2.2.2.2.2.2.2.2.2.2.2.2.2.2.2.2.2.1,s.2.2.2.2.2.2.2.2.2.2.2.2.2.2.2.2.2.2.1,s.2.2.2.2.2.2.2.2.2.2.2.2.2.2.2.2.2.2.2))
theorem z7N{ws:List zA}(hl:ws.length≤6000){k:Int}{s2:Int×Int}(hs:wA s2.2){r11:zE×Int}{n:Int}(hn:wA n): Ok (zJ (zDU ws k s2 r11) (4,[])) fun s=>xQ (z6R n s):=by
 refine Ok.wh41 (fun s:Int×List zE=>∃ j:Nat,s.1=(j:Int)∧j≤6004∧s.2.length+4=j) (fun s=>(7000-s.1).toNat) (fun s h=>?_) _ _ (Qt _) ⟨4,rfl,by omega,rfl⟩
 obtain⟨j,h1,h2,h3⟩:=h
 obtain⟨i,acc⟩:=s
 dsimp only at h1 h3
 subst h1
 unfold zDU
 refine .ite (fun hc=>?_) fun _=>.ret (vV hn zK zK (by simp) hs (by grind) zK zK zK zK zK vZ)
 rw[Qb,Ql] at hc
 have hj:j<ws.length:=by have:=hc.1;simp only[len] at this;omega
 refine(Ok.idx (by omega) (by grind)).bind fun w _=>(zZf w).bind fun z _=>?_
 refine⟨.inl (((j+1:Nat):Int),acc++[z.1]),?_,⟨j+1,rfl,by omega,by simp;omega⟩,?_⟩
 ·grind [yC,wI]
 grind
theorem z41{s:zA}(hs:s.length≤5000): Ok (uN s) xQ:=by
 have hw:∀ w∈xD 32 s,w.length≤5000:=fun w hw=>Qy (zR0 32 s w hw) hs
 have hne:=zLv 32 s
 have hlen:(xD 32 s).length≤6000:=by
  have:=zMB 32 s
  have:=List.count_le_length (l:=s) (a:=(32:UInt8))
  omega
 unfold uN
 rw[zCF hs,zob]
 have a1:Ok (xX (xD 32 s) 1) fun w=>w.length≤5000:=z1a hw 1
 have a2:Ok (xX (xD 32 s) 2) fun w=>w.length≤5000:=z1a hw 2
 have a3:Ok (xX (xD 32 s) 3) fun w=>w.length≤5000:=z1a hw 3
 have a4:Ok (xX (xD 32 s) 4) fun w=>w.length≤5000:=z1a hw 4
 have a5:Ok (xX (xD 32 s) 5) fun w=>w.length≤5000:=z1a hw 5
 have n2:=a2.bind fun w h=>zKh h
 refine a1.bind fun r2 h2=>(zKh h2).bind fun r3 h3=>Ok.bind (I:=fun s=>xQ (z6R r3 s)) ?_ fun s1 hs1=>.ret hs1
 have zero:∀(k:Int),xQ (z6R r3 (k,0,0,[],0,0,false,[],[],false,[],0,0,0,0,0,0,0,[],[])):=fun k=>vV h3 zK zK (by simp) zK (by simp) zK zK zK zK zK vZ
 refine(zIP hne).bind fun x1 _=>.ite (fun _=>?_) fun _=>?_
 ·rw[z4m hs,zob]
  exact .ret (vV h3 zK zK (Qy (zU1 2 s) (by omega)) zK (by simp) zK zK zK zK zK vZ)
 refine(zIP hne).bind fun x2 _=>.ite (fun _=>?_) fun _=>?_
 ·rw[z4m hs,zob]
  exact .ret (vV h3 zK zK (Qy (zU1 2 s) (by omega)) zK (by simp) zK zK zK zK zK vZ)
 refine(zIP hne).bind fun x3 _=>.ite (fun _=>.ret (zero 3)) fun _=>?_
 refine(zIP hne).bind fun x4 _=>(ok_sk x4).bind fun r6 _=>.ite (fun _=>?_) fun _=>?_
 ·refine(zIP hne).bind fun x5 _=>(ok_sk x5).bind fun r7 _=>Ok.bind (I:=fun s2=>wA s2.2∧(s2.1=3∨s2.1=2)) (.ite (fun _=>a2.bind fun r8 h8=>(zKh h8).bind fun r9 h9=>.ret ⟨h9,.inl rfl⟩) fun _=>.ret ⟨zK,.inr rfl⟩) fun s2 h2'=>?_
  have hat:Ok (xX (xD 32 s) s2.1) fun w=>w.length≤5000:=by
   rcases h2'.2 with e | e <;> rw[e]
   ·exact a3
   ·exact a2
  exact hat.bind fun r10 _=>(zZf r10).bind fun r11 _=>z7N hlen h2'.1 h3
 refine(zIP hne).bind fun x8 _=>.ite (fun _=>?_) fun _=>?_
 ·exact a3.bind fun r13 h13=>(zKh h13).bind fun r14 h14=>a4.bind fun r15 h15=>(zKh h15).bind fun r16 h16=>a2.bind fun r17 _=>(zZf r17).bind fun r18 _=>.ret (vV h3 zK zK (by simp) zK (by simp) h14 h16 zK zK zK vZ)
 refine(zIP hne).bind fun x9 _=>(ok_mk x9).bind fun r19 _=>.ite (fun _=>?_) fun _=>?_
 ·refine a2.bind fun r20 h20=>(zKh h20).bind fun r21 h21=>(zIP hne).bind fun x10 _=>a3.bind fun r22 h22=>(zKh h22).bind fun r23 h23=>(ok_mk x10).bind fun r24 _=>.ite (fun _=>?_) fun _=>.ite (fun _=>?_) fun _=>?_
  ·exact a4.bind fun r25 h25=>(zKh h25).bind fun r26 h26=>a5.bind fun r27 h27=>(zKh h27).bind fun r28 h28=>.ret (vV h3 h21 zK (by simp) zK (by simp) zK zK h23 h26 h28 vZ)
  ·exact a4.bind fun r29 h29=>(zKh h29).bind fun r30 h30=>.ret (vV h3 h21 zK (by simp) zK (by simp) zK zK h23 zK h30 vZ)
  ·exact .ret (vV h3 h21 zK (by simp) zK (by simp) zK zK h23 zK zK vZ)
 refine(zIP hne).bind fun x11 _=>.ite (fun _=>?_) fun _=>?_
 ·exact a2.bind fun r31 h31=>(zKh h31).bind fun r32 h32=>a3.bind fun r33 _=>(zZf r33).bind fun r34 _=>.ret (vV h3 zK h32 (by simp) zK (by simp) zK zK zK zK zK vZ)
 refine(zIP hne).bind fun x12 _=>(ok_fk x12).bind fun r35 _=>.ite (fun _=>?_) fun _=>.ret (zero 0)
 refine(zIP hne).bind fun x13 _=>(ok_fk x13).bind fun r36 _=>a2.bind fun r37 h37=>(zKh h37).bind fun r38 h38=>?_
 rw[rest3 hs,zob]
 obtain⟨g,o,o',c2,q1,q2,q3,q4⟩:=zKT (rst 3 s)
 have hg:wQ g≤5000:=by
  by_cases hc:c2=0
  ·grind
  ·rw[(q4 hc).1];exact vZ
 rw[q2,zob]
 obtain⟨op,w,ls⟩:=g
 exact .ret (vV h3 zK h38 (by simp) zK (by simp) zK zK zK zK zK hg)
theorem z7a{s:zA}(hs:s.length≤5000): ∃ e c,zA4 s=some (e,c)∧zDJ s=some (e,c)∧xQ e:=by
 obtain⟨⟨e1,b1⟩,h1,v1⟩:=z6Y hs
 obtain⟨e2,h2,v2⟩:=z41 hs
 obtain⟨s1,c1,p1,p2,_,p3⟩:=zHA v1
 obtain⟨s2,c2,q1,q2,_,q3⟩:=zHA v2
 have ev:xQ ev0:=vV zK zK zK (by simp) zK (by simp) zK zK zK zK zK vZ
 dsimp only at p1 p2 p3 v1
 have hP:zA4 s=some (if b1=true∧c1=0∧s1=s then(e1,0) else(ev0,3)):=by
  unfold zA4
  rw[h1,zob]
  dsimp only
  cases b1 with
  | false=>rfl
  | true =>
   grind
 have hR:zDJ s=some (if c2=0∧s2=s then(e2,0) else(ev0,3)):=by
  unfold zDJ
  rw[h2,zob,q2,zob]
  dsimp only
  by_cases hc:c2=0
  ·grind
  ·simp[hc]
 by_cases hA:b1=true∧c1=0∧s1=s
 ·grind
 grind
end
section
mutual
theorem nd_ok:∀(f:zC) (b:Nat),b≤10000->∃ r:Nat,(Ev fun k=>zGT k f (b:Int)=some (r:Int))∧1≤r∧r≤b+1∧(r≤b->r=wQ f)
 | .mk op w l,b,hb=>by
  obtain⟨r,h1,h2,h3,h4⟩:=z5j op w l [] b 1 hb (by omega) (by omega) (by simp)
  exact⟨r,Ev.suc (h1.imp fun k e=>e),h2,h3,fun h=>by rw[wQ,h4 h];omega⟩
theorem z5j:∀(op:Int) (w:zA) (l pre:List zC) (b s:Nat),b≤10000->1≤s->s≤b+1->pre.length≤s->∃ r:Nat,(Ev fun k=>zJ (zEy (fm (op,w,pre++l)) (b:Int) (zGT k)) ((s:Int),(pre.length:Int))=some (r:Int))∧s≤r∧r≤b+1∧(r≤b->r=s+yE l)
 | op,w,[],pre,b,s,hb,h1,h2,hp=>⟨s,Ev.of fun k=>vM (by
   unfold zEy
   have:decide ((pre.length:Int)<len ((fv (fm (op,w,pre++[]))).2.2))=false:=by
    show decide ((pre.length:Int)<len (pre++[]))=false
    exact QF (by simp[len])
   grind),Qt _,h2,fun _=>by rw[yE];rfl⟩
 | op,w,x::l,pre,b,s,hb,h1,h2,hp=>by
  by_cases hbs:b<s
  ·refine⟨s,Ev.of fun k=>vM ?_,Qt _,h2,fun h=>by omega⟩
   unfold zEy
   grind
  ·obtain⟨r1,q1,q2,q3,q4⟩:=nd_ok x (b-s) (by omega)
   obtain⟨r,p1,p2,p3,p4⟩:=z5j op w l (pre++[x]) b (s+r1) hb (by omega) (by omega) (by simp;omega)
   refine⟨r,q1.imp2 p1 fun k e1 e2=>?_,by omega,p3,fun h=>by grind [yE]⟩
   rw[Qo] at e2
   refine(uE (t:=(((s+r1:Nat):Int),((pre++[x]).length:Int))) ?_).trans e2
   unfold zEy
   have e3:decide ((b:Int)<(s:Int))=false:=QF (by omega)
   have e4:zF ((b:Int)-(s:Int))=((b-s:Nat):Int):=by rw[yL (by omega) (by omega)];omega
   simp only[(tZ (op:=op) (s:=w) (pre:=pre) (x:=x) (l:=l)).1,(tZ (op:=op) (s:=w) (pre:=pre) (x:=x) (l:=l)).2,Qe,e3,zbf,Qh,zob,e4,e1]
   rw[wI pre.length (by omega),yL (by omega) (by omega)]
   simp
end
mutual
theorem lv_ok:∀(f:zC),wQ f≤5000->∀ y:Int,∃ r,Ev fun k=>zCq k f y=some r
 | .mk op w l,h,y=>by
  rw[wQ] at h
  have hl:=zJC l
  by_cases hy:y<0
  ·refine⟨0,Ev.suc (Ev.of fun k=>?_)⟩
   show zFW (zCq k) (.mk op w l) y=_
   unfold zFW
   grind
  ·obtain⟨r,h1⟩:=z5z op w l [] y 0 (by omega) (by simp;omega)
   refine⟨r,Ev.suc (h1.imp fun k e=>?_)⟩
   show zFW (zCq k) (.mk op w l) y=_
   unfold zFW
   rw[Qa (by grind)]
   exact e
theorem z5z:∀(op:Int) (w:zA) (l pre:List zC) (y s:Int),yE l≤5000->(pre++l).length≤5000->∃ r,Ev fun k=>zJ (zGH (fm (op,w,pre++l)) (zCq k) y) (s,(pre.length:Int))=some r
 | op,w,[],pre,y,s,_,hp=>⟨s,Ev.of fun k=>vM (by
   unfold zGH
   simp only[zOB (op:=op) (s:=w) (pre:=pre) (by grind),zbf,Qh])⟩
 | op,w,x::l,pre,y,s,h,hp=>by
  rw[yE] at h
  have hp':pre.length+l.length+1≤5000:=by simp at hp;omega
  obtain⟨r1,q1⟩:=lv_ok x (by omega) (zF (y-1))
  obtain⟨r,p1⟩:=z5z op w l (pre++[x]) y (if zF (1+r1) > s then zF (1+r1) else s) (by omega) (by simp;omega)
  refine⟨r,q1.imp2 p1 fun k e1 e2=>?_⟩
  rw[Qo] at e2
  refine(uE (t:=((if zF (1+r1) > s then zF (1+r1) else s),((pre++[x]).length:Int))) ?_).trans e2
  unfold zGH
  simp only[(tZ (op:=op) (s:=w) (pre:=pre) (x:=x) (l:=l)).1,(tZ (op:=op) (s:=w) (pre:=pre) (x:=x) (l:=l)).2,Qe,zob,e1]
  rw[wI pre.length (by omega)]
  simp
end
mutual
theorem sh_ok:∀(f:zC),wQ f≤5000->∃ r,Ev fun k=>zD2 k f=some r
 | .mk op w l,h=>by
  rw[wQ] at h
  have hl:=zJC l
  by_cases hy:100<len w
  ·refine⟨false,Ev.suc (Ev.of fun k=>?_)⟩
   show(if decide (100<len w)=true then some false else zJ (zCb (fm (op,w,l)) (zD2 k)) 0)=_
   grind
  ·obtain⟨r,h1⟩:=z5t op w l [] (by omega) (by simp;omega)
   refine⟨r,Ev.suc (h1.imp fun k e=>?_)⟩
   show(if decide (100<len w)=true then some false else zJ (zCb (fm (op,w,l)) (zD2 k)) 0)=_
   grind
theorem z5t:∀(op:Int) (w:zA) (l pre:List zC),yE l≤5000->(pre++l).length≤5000->∃ r,Ev fun k=>zJ (zCb (fm (op,w,pre++l)) (zD2 k)) (pre.length:Int)=some r
 | op,w,[],pre,_,hp=>⟨true,Ev.of fun k=>vM (by
   unfold zCb
   simp only[zOB (op:=op) (s:=w) (pre:=pre) (by grind),zbf,Qh])⟩
 | op,w,x::l,pre,h,hp=>by
  rw[yE] at h
  have hp':pre.length+l.length+1≤5000:=by simp at hp;omega
  obtain⟨r1,q1⟩:=sh_ok x (by omega)
  cases r1 with
  | false =>
   refine⟨false,q1.imp fun k e1=>vM ?_⟩
   unfold zCb
   simp only[(tZ (op:=op) (s:=w) (pre:=pre) (x:=x) (l:=l)).1,(tZ (op:=op) (s:=w) (pre:=pre) (x:=x) (l:=l)).2,Qe,zob,e1,QM]
  | true =>
   obtain⟨r,p1⟩:=z5t op w l (pre++[x]) (by omega) (by simp;omega)
   refine⟨r,q1.imp2 p1 fun k e1 e2=>?_⟩
   rw[Qo] at e2
   refine(uE (t:=((pre++[x]).length:Int)) ?_).trans e2
   unfold zCb
   simp only[(tZ (op:=op) (s:=w) (pre:=pre) (x:=x) (l:=l)).1,(tZ (op:=op) (s:=w) (pre:=pre) (x:=x) (l:=l)).2,Qe,zob,e1,Qx,zbf,Qh]
   rw[wI pre.length (by omega)]
   simp
end
theorem z4S (f:zC): Ok (zDj f) fun b=>b=true->wQ f≤800:=by
 obtain⟨r,h1,_,_,h4⟩:=nd_ok f 800 (by omega)
 have e1:zLp f 800=some (r:Int):=h1.lim
 unfold zDj
 rw[e1,zob]
 by_cases hr:r≤800
 ·rw[Qm (Qs (by omega))]
  have hn:wQ f≤800:=by rw[←h4 hr];exact hr
  obtain⟨v,hv⟩:=lv_ok f (by omega) 30
  have e2:zKP f 30=some v:=hv.lim
  obtain⟨u,hu⟩:=sh_ok f (by omega)
  have e3:zLf f=some u:=hu.lim
  rw[e2,zob,e3,zob]
  refine Ok.bind (I:=fun _=>True) (.ite (fun _=>.ret trivial) fun _=>.ret trivial) fun _ _=>.ret fun _=>hn
 ·rw[Qa (by grind),zob]
  grind [Ok]
theorem zZ1:∀(a b:List zC),yE (a++b)=yE a+yE b
 | [],b=>by simp[yE]
 | x::a,b=>by rw[Q5,yE,yE,zZ1 a b];omega
section
variable {s:vH}{n:Int}(n0:1≤n)(n1:n≤1000)
include n0 n1
theorem drawF (d:Nat)(hd:d≤3): ∀ j:Int,wX (s.1,j)->∃ r:zC×Int,(∀ k,d<k->zAo k (s.1,j) n (d:Int)=some r)∧wQ r.1≤4 ^ (d+1)∧wX (s.1,r.2):=by
 induction d with
 | zero =>
  intro j hj
  obtain⟨⟨u,j1⟩,e1,a1,b1,c1⟩:=Ok.N (n:=12) hj (by omega) (by omega)
  obtain⟨⟨v,j2⟩,e2,a2,b2,c2⟩:=Ok.N (n:=2) c1 (by omega) (by omega)
  obtain⟨⟨x,j3⟩,e3,a3,b3,c3⟩:=Ok.N (n:=n) c1 (by omega) (by omega)
  dsimp only at e2 e3 c2 c3
  by_cases hu:u=0
  ·refine⟨(fm (zF (1+v),[],[]),j2),fun k hk=>?_,?_,c2⟩
   ·obtain⟨k,rfl⟩:∃ i,k=i+1:=⟨k-1,by omega⟩
    show zAi (zAo k) (s.1,j) n 0=_
    unfold zAi
    grind
   ·show wQ (.mk (zF (1+v)) [] [])≤_
    rw[wQ,yE]
    decide
  ·refine⟨(fm (3,zKH ([IntKind.u8.wrap (zF (97+x))]:List Int),[]),j3),fun k hk=>?_,?_,c3⟩
   ·obtain⟨k,rfl⟩:∃ i,k=i+1:=⟨k-1,by omega⟩
    show zAi (zAo k) (s.1,j) n 0=_
    unfold zAi
    grind
   ·show wQ (.mk 3 _ [])≤_
    rw[wQ,yE]
    decide
 | succ d ih =>
  intro j hj
  have hpow:4 ^ (d+1)*3+1≤4 ^ (d+1+1):=by
   have:1≤4 ^ (d+1):=Nat.pow_pos (by omega)
   rw[Nat.pow_succ 4 (d+1)]
   omega
  have hone:1≤4 ^ (d+1+1):=Nat.pow_pos (by omega)
  obtain⟨⟨u,j1⟩,e1,a1,b1,c1⟩:=Ok.N (n:=12) hj (by omega) (by omega)
  obtain⟨⟨v,j2⟩,e2,a2,b2,c2⟩:=Ok.N (n:=2) c1 (by omega) (by omega)
  obtain⟨⟨x,j3⟩,e3,a3,b3,c3⟩:=Ok.N (n:=n) c1 (by omega) (by omega)
  dsimp only at e2 e3 c2 c3 a1 b1 a2 b2
  have hw:zF (((d+1:Nat):Int)-1)=(d:Int):=by rw[yL (by omega) (by omega)];omega
  have hlp:∀(m i:Nat) (j0 j:Int) (acc:List zC) (s1:Int×Int),s1.1=((i+m:Nat):Int)->i+m≤3->acc.length=i->wX (s.1,j)->yE acc≤4 ^ (d+1)*i->∃ z:Int×List zC,(∀ k,d<k->zJ (zCv s1 (zAo k) (s.1,j0) n ((d+1:Nat):Int)) ((i:Int),j,acc)=some z)∧yE z.2≤4 ^ (d+1)*3∧wX (s.1,z.1):=by
   intro m
   induction m with
   | zero =>
    intro i j0 j acc s1 h1 h2 h3 h4 h5
    refine⟨(j,acc),fun k hk=>vM ?_,Qy h5 (Nat.mul_le_mul_left _ (by omega)),h4⟩
    unfold zCv
    grind
   | succ m ihm =>
    intro i j0 j acc s1 h1 h2 h3 h4 h5
    obtain⟨r,p1,p2,p3⟩:=ih (by omega) j h4
    obtain⟨z,q1,q2,q3⟩:=ihm (i+1) j0 r.2 (acc++[r.1]) s1 (by grind) (by omega) (by simp[h3]) p3 (by rw[zZ1,yE,yE,Nat.mul_succ];omega)
    refine⟨z,fun k hk=>(uE (t:=(((i+1:Nat):Int),r.2,acc++[r.1])) ?_).trans (q1 k hk),q2,q3⟩
    unfold zCv
    rw[Qm (by grind)]
    dsimp only
    rw[hw,p1 k hk,zob,yC (by simp;omega),zob,wI i (by omega)]
  by_cases hu4:u<4
  ·by_cases hu:u=0
   ·refine⟨(fm (zF (1+v),[],[]),j2),fun k hk=>?_,?_,c2⟩
    ·obtain⟨k,rfl⟩:∃ i,k=i+1:=⟨k-1,by omega⟩
     show zAi (zAo k) (s.1,j) n ((d+1:Nat):Int)=_
     unfold zAi
     grind
    ·show wQ (.mk (zF (1+v)) [] [])≤_
     rw[wQ,yE]
     omega
   ·refine⟨(fm (3,zKH ([IntKind.u8.wrap (zF (97+x))]:List Int),[]),j3),fun k hk=>?_,?_,c3⟩
    ·obtain⟨k,rfl⟩:∃ i,k=i+1:=⟨k-1,by omega⟩
     show zAi (zAo k) (s.1,j) n ((d+1:Nat):Int)=_
     unfold zAi
     grind
    ·show wQ (.mk 3 _ [])≤_
     rw[wQ,yE]
     omega
  ·
   have hu12:u<12:=b1 (by omega)
   have hidx:Ok (zD ([4,4,5,5,6,6,7,8]:List Int) (zF (u-4))) fun _=>True:=by
    rw[yL (by omega) (by omega)]
    exact(Ok.idx (by omega) (by grind)).imp fun _ _=>trivial
   obtain⟨op,eop,_⟩:=hidx
   have hs1:Ok ((if op==4 then some (1,j1) else((if op==5 then some (op==5) else some (op==6)):Option Bool).bind fun s2=>if s2 then(yN (s.1,j1) 2).bind fun r4=>some (zF (2+r4.1),r4.2) else some (2,j1)):Option (Int×Int)) fun z=>(∃ m:Nat,z.1=(m:Int)∧m≤3)∧wX (s.1,z.2):=by
    refine .ite (fun _=>.ret ⟨⟨1,rfl,by omega⟩,c1⟩) fun _=>Ok.bind (I:=fun _=>True) (.ite (fun _=>.ret trivial) fun _=>.ret trivial) fun _ _=>.ite (fun _=>?_) fun _=>.ret ⟨⟨2,rfl,by omega⟩,c1⟩
    rw[e2,zob]
    have:=b2 (by omega)
    refine .ret ⟨⟨(2+v).toNat,?_,by omega⟩,c2⟩
    dsimp only
    rw[yL (by omega) (by omega)]
    omega
   obtain⟨z1,ez,⟨m,hm1,hm2⟩,hz⟩:=hs1
   obtain⟨z,q1,q2,q3⟩:=hlp m 0 j z1.2 [] z1 (by grind) (by omega) rfl hz (by simp[yE])
   refine⟨(fm (op,[],z.2),z.1),fun k hk=>?_,?_,q3⟩
   ·obtain⟨k,rfl⟩:∃ i,k=i+1:=⟨k-1,by omega⟩
    show zAi (zAo k) (s.1,j) n ((d+1:Nat):Int)=_
    unfold zAi
    grind
   ·show wQ (.mk op [] z.2)≤_
    grind [wQ]
end
end
section
theorem z6l{y:zCQ}{x:List zE}(hx:x.length≤1000)(h:zC7 y 1=some ([x],0)): Ok (zGC y 1 true) fun r=>r.1.length≤2000:=by
 unfold zGC
 rw[h,zob]
 dsimp only
 rw[Qa (by decide)]
 have hi0:zD ([x]:List (List zE)) 0=some x:=rfl
 refine Ok.bind (I:=fun s1:List zE=>s1.length≤1000) ?_ fun s1 h1=>?_
 ·refine Ok.wh41 (fun s:List zE×Int=>(s=([],0))∨(s.2=1∧s.1.length≤1000)) (fun s=>(1-s.2).toNat) (fun s hs=>?_) _ _ (Qt _) (.inl rfl)
  unfold zId
  rcases hs with rfl | ⟨hs,hl⟩
  ·dsimp only
   rw[Qm (show decide ((0:Int)<len ([x]:List (List zE)))=true from rfl)]
   refine Ok.wh41 (fun t:List zE×Int=>∃ j:Nat,t.2=(j:Int)∧j≤x.length∧yA vX t.1∧t.1.length≤j) (fun t=>(x.length-t.2).toNat) (fun t ht=>?_) _ _ (Qt _) ⟨0,rfl,by omega,List.Pairwise.nil,by simp⟩
   obtain⟨j,j1,j2,j3,j4⟩:=ht
   obtain⟨acc,jj⟩:=t
   dsimp only at j1 j3 j4
   subst j1
   unfold zI0
   dsimp only
   rw[hi0,zob]
   refine .ite (fun hc=>?_) fun hc=>.ret ⟨.inr ⟨rfl,by grind⟩,by dsimp only;decide⟩
   rw[Ql] at hc
   have hjl:j<x.length:=by simp only[len] at hc;omega
   rw[zob]
   refine(Ok.idx (by omega) (by grind)).bind fun z _=>?_
   obtain⟨r,e1,e2,_,e4⟩:=zUG z (by omega) j3
   rw[e1,zob,wI j (by omega)]
   refine .ret ⟨⟨j+1,rfl,by omega,e2,by grind⟩,?_⟩
   grind
  ·rw[Qa (by grind)]
   exact .ret hl
 ·refine Ok.wh41 (fun s:List zE×Int=>∃ j:Nat,s.2=(j:Int)∧j≤s1.length∧s.1.length≤j) (fun s=>(s1.length-s.2).toNat) (fun s hs=>?_) _ _ (Qt _) ⟨0,rfl,by omega,by simp⟩
  obtain⟨j,j1,j2,j3⟩:=hs
  obtain⟨acc,jj⟩:=s
  dsimp only at j1 j3
  subst j1
  unfold zIO
  refine .ite (fun hc=>?_) fun _=>.ret (by grind)
  rw[Ql] at hc
  have hjl:j<s1.length:=by simp only[len] at hc;omega
  refine Ok.bind (I:=fun _=>True) ?_ fun s5 _=>?_
  ·refine Ok.wh41 (fun t:Bool×Int=>t.2=0∨t.2=1) (fun t=>(1-t.2).toNat) (fun t ht=>?_) _ _ (Qt _) (.inl rfl)
   obtain⟨g,jj⟩:=t
   dsimp only at ht
   unfold zIT
   rcases ht with rfl | rfl
   ·dsimp only
    rw[Qm (show decide ((0:Int)<len ([x]:List (List zE)))=true from rfl)]
    refine Ok.bind (I:=fun _=>True) (.ite (fun _=>?_) fun _=>.ret trivial) fun _ _=>.ret ⟨.inr rfl,by dsimp only;decide⟩
    rw[hi0,zob]
    refine(Ok.idx (by omega) (by grind)).bind fun z _=>?_
    rw[zXa z (by omega),zob]
    exact .ret trivial
   ·rw[Qa (by grind)]
    exact .ret trivial
  ·refine .ite (fun _=>?_) fun _=>?_
   ·refine(Ok.idx (by omega) (by grind)).bind fun z _=>?_
    dsimp only
    rw[yC (by simp;omega),zob,wI j (by omega)]
    refine .ret ⟨⟨j+1,rfl,by omega,by simp;omega⟩,?_⟩
    grind
   ·dsimp only
    rw[wI j (by omega)]
    refine .ret ⟨⟨j+1,rfl,by omega,by grind⟩,?_⟩
    grind
structure FrB (y:zGd): Prop where
 voc:y.1.1.length≤10
 np:y.1.2.1≤6
 cnt:Cnt y.2.1
 r:y.2.1.2.1.length≤12
 talks:y.2.2.2.1=[]
theorem zWj{y:zGd}(h:FrB y): Ok (zFr y) fun r=>r.1.length≤2000:=by
 unfold zFr
 rw[zOx h.cnt h.r,zob]
 refine .ite (fun _=>.ret (by simp)) fun hc=>?_
 have hc0:(zYS y.2.1 y.1.2.2.1).2=0:=by simpa using hc
 obtain⟨l,_,_,hl,_,_,hcc⟩:=z6m h.r (o:=y.1.2.2.1) (c:=(zYS y.2.1 y.1.2.2.1).1) (Prod.ext rfl hc0)
 rw[hcc]
 have hG:xM l.length (z0o (zPB y.2.1 (z3g y.2.1 l y.1.2.2.1)) l y.1.2.2.1):=(zLs hl y.1.2.2.1).2
 have hgl:(zQe l.length (z0o (zPB y.2.1 (z3g y.2.1 l y.1.2.2.1)) l y.1.2.2.1)).length≤40:=by rw[zQe,zMO];exact hl
 generalize hg:zQe l.length (z0o (zPB y.2.1 (z3g y.2.1 l y.1.2.2.1)) l y.1.2.2.1)=g at hgl
 generalize hw:z0P g 1=ws
 have hwl:ws.length≤40:=by rw[←hw];exact Qy (zSN _ _) hgl
 have hs:zJO [g] 0=some ([ws],0):=by
  unfold zJO
  rw[Qa (by decide)]
  refine(uE (t:=([ws],1)) ?_).trans (vM rfl)
  unfold zLe
  have h0:zD [g] 0=some g:=rfl
  dsimp only
  rw[Qm (show decide ((0:Int)<len [g])=true from rfl),h0,zob,zTr _ _ (by omega),zob,yC (by simp),hw]
  rfl
 have hE:zE9 (zX3 y.2.1 l y.1.2.2.1).2.2.2 1=some ([ws],0):=by
  have e1:zBt (zX3 y.2.1 l y.1.2.2.1).2.2.2=some 0:=hG.v2
  have e2:zFR (zX3 y.2.1 l y.1.2.2.1).2.2.2=some g:=(zR8 hG).trans (by rw[hg])
  unfold zE9
  rw[e1,zob,Qa (by decide),Qm (by decide),e2,zob,hs]
  rfl
 have hC:zC7 (zX3 y.2.1 l y.1.2.2.1) 1=some ([nrm vX (ws.flatMap (zM9 l))],0):=by
  unfold zC7
  rw[hE,zob]
  dsimp only
  rw[Qa (by decide)]
  refine(uE (t:=([nrm vX (ws.flatMap (zM9 l))],1)) ?_).trans (vM rfl)
  unfold zGt
  have h0:zD [ws] 0=some ws:=rfl
  have h1:zCA (zX3 y.2.1 l y.1.2.2.1).2.1 ws=some (nrm vX (ws.flatMap (zM9 l))):=zLq ws (by omega)
  dsimp only
  rw[Qm (show decide ((0:Int)<len [ws])=true from rfl),h0,zob,h1,zob,yC (by simp)]
  rfl
 grind [zYW,zWP,z6l,Ok]
end
section
theorem cnt0:Cnt ([],[],[]):=⟨by simp,by simp,by simp,by simp⟩
theorem z6w.cnt3{b:zX}{n p q:Int}(h:z6w b n p q)(hp:p≤1000)(hq:q≤1000): Cnt b:=by
 have h1:=h.np
 have h2:=h.nr
 have h3:=h.nm
 exact⟨by omega,by omega,by omega,fun r hr=>by have:=h.bd r hr;omega⟩
theorem z7B{voc:List zA}(hv:voc.length≤10): Ok (zEk voc []) fun _=>True:=by
 unfold zEk
 rw[zN8 voc (by omega),zob]
 refine .ite (fun _=>.ret trivial) fun hb=>?_
 have hvb:z6g voc=true:=by simpa using hb
 have hl:=(zYo hvb).n
 have hp:=z4c hl
 rw[show IntKind.u64.wrap (len voc)=IntKind.u64.wrap (voc.length:Int) from rfl,z2c hl,zob]
 generalize 2 ^ voc.length=N at hp
 have hm:mkS (N:Int) (N:Int) (0:Int)=some (List.replicate N 0):=by
  unfold mkS
  rw[Qm ⟨by omega,by omega,by omega⟩,Qw]
 rw[hm,zob]
 refine Ok.bind (I:=fun z:List Int=>z.length≤100) ?_ fun z hz=>(Ok.Normal31 hv hz).bind fun r _=>.ret trivial
 refine Ok.wh41 (fun s:List Int×Int=>s.1=List.replicate N 0∧∃ j:Nat,s.2=(j:Int)∧j≤N) (fun s=>((N:Int)-s.2).toNat) (fun s hs=>?_) _ _ (Qt _) ⟨rfl,0,rfl,by omega⟩
 obtain⟨h1,j,h2,h3⟩:=hs
 obtain⟨l,jj⟩:=s
 dsimp only at h1 h2
 subst h1
 subst h2
 unfold zH2
 refine .ite (fun hc=>?_) fun _=>.ret (by simp;omega)
 rw[Ql] at hc
 have hj:j<N:=by simp only[len,List.length_replicate] at hc;omega
 have hx:zD (List.replicate N (0:Int)) (j:Int)=some 0:=by rw[tV,List.getElem?_replicate,Qm hj]
 refine⟨.inl (List.replicate N 0,((j+1:Nat):Int)),vM ?_,⟨rfl,j+1,rfl,by omega⟩,?_⟩
 ·unfold zHV
  dsimp only
  rw[hx,zob,Qa (by decide),zob,Qa (by decide),wI j (by omega)]
 grind
theorem ok_26{n:Int}: Ok (zKc n) fun _=>True:=by
 unfold zKc
 refine .ite (fun _=>.ret trivial) fun h=>?_
 rw[QT,QN,QN] at h
 have hm:mkS n n ([]:List zB0)=some (List.replicate n.toNat []):=by
  unfold mkS
  rw[Qm ⟨by omega,by omega,by omega⟩]
 rw[hm,zob]
 exact .ret trivial
structure StB (y:zCu): Prop where
 voc:y.1.length≤10
 cnt:Cnt y.2.2.2
 r:y.2.2.2.2.1.length≤12
theorem z6K{y:zCu}(h:StB y): Ok (zIX y) fun r=>FrB r.1:=by
 have hz:FrB ((([]:List zA),0,(0,0),(([]:List yD),([]:List qW),([]:List yF))),(([]:List yD),([]:List qW),([]:List yF)),([]:List (List zB0)),([]:List zOd),([]:List zGV),(([]:List zA),([]:List Int)),0):=⟨by simp,by decide,cnt0,by simp,rfl⟩
 unfold zIX
 rw[zN8 y.1 (by have:=h.voc;omega),zob]
 refine Ok.bind (I:=fun s1=>s1=false->y.2.1≤6) (.ite (fun _=>.ret nofun) fun _=>.ite (fun _=>.ret nofun) fun _=>.ret fun e=>by grind) fun s1 hs1=>.ite (fun _=>.ret hz) fun hs=>?_
 rw[zOx h.cnt h.r,zob]
 refine .ite (fun _=>.ret hz) fun _=>(ok_26).bind fun r3 _=>(z7B h.voc).bind fun r4 _=>.ret ⟨h.voc,hs1 hs,h.cnt,h.r,rfl⟩
section
variable {s:vH}
theorem z5I (h:wX s): Ok (zJG s) fun r=>StB r.1∧wX (s.1,r.2):=by
 unfold zJG
 refine(Ok.Rng h (by omega) (by omega) (by omega)).bind fun r1 h1=>(Ok.Voc (by omega) (by omega)).bind fun r2 h2=>(Ok.Rng h1.2.2 (by omega) (by omega) (by omega)).bind fun r3 h3=>(Ok.Rng h3.2.2 (by omega) (by omega) (by omega)).bind fun r4 h4=>(Ok.Rng h4.2.2 (by omega) (by omega) (by omega)).bind fun r5 h5=>?_
 obtain⟨b,k,e,hk,hd⟩:=zWk (n:=3) (p:=2) (q:=3) h5.2.2 (by omega) (by omega) (by omega) (by omega) (by omega) (by omega)
 have hc:=hd.cnt3 (by omega) (by omega)
 have hr:b.2.1.length≤12:=by have:=hd.nr;omega
 rw[e,zob]
 dsimp only
 exact Ok.bind (I:=fun z:zX=>Cnt z∧z.2.1.length≤12) ((z6K (y:=(r2,r3.1,(r4.1,r5.1),b)) ⟨h2,hc,hr⟩).bind fun r7 h7=>.ite (fun _=>.ret ⟨cnt0,by simp⟩) fun _=>.ret ⟨hc,hr⟩) fun z hz=>.ret ⟨⟨h2,hz.1,hz.2⟩,hk⟩
theorem z7E (h:wX s)(g:Bool): Ok (zKB s g) fun r=>r.1.length≤5000∧wX (s.1,r.2):=by
 unfold zKB
 obtain⟨b,k,e,hk,hd⟩:=zWk (n:=3) (p:=3) (q:=3) h (by omega) (by omega) (by omega) (by omega) (by omega) (by omega)
 rw[e,zob]
 unfold uQ
 have hp:=hd.np
 have hr:=hd.nr
 refine Ok.bind (I:=fun o:(Int×(List yD)×(List qW))⊕(zA×Int)=>match o with | .inl z=>Cnt (z.2.1,z.2.2,[])∧wX (s.1,z.1) | .inr z=>z.1.length≤5000∧wX (s.1,z.2)) ?_ fun o ho=>?_
 ·refine .ite (fun _=>.ite (fun _=>.ret ⟨by simp,hk⟩) fun hne=>?_) fun _=>.ite (fun _=>?_) fun hne=>?_
  ·have hl:1≤b.2.1.length:=by
    rw[Qr] at hne
    simp only[len] at hne
    omega
   obtain⟨x,xs,hx⟩:∃ x xs,b.2.1=x::xs:=by
    cases hb:b.2.1 with
    | nil=>grind
    | cons x xs=>grind
   have hsub:sub b.2.1 0 1=some [x]:=by
    rw[zJw (by omega) (by omega) (by omega),hx]
    rfl
   dsimp only
   rw[hsub,zob]
   refine(Ok.N hk (by omega) (by omega)).bind fun r2 h2=>?_
   have hm:Ok (zCP r2.1) fun _=>True:=by
    have:=h2.2.1 (by omega)
    have e2:=zK1 (n:=r2.1.toNat) (by omega)
    rw[Int.toNat_of_nonneg h2.1] at e2
    exact⟨_,e2,trivial⟩
   refine hm.bind fun r3 _=>?_
   have h0:zD [x] 0=some x:=rfl
   rw[h0,zob]
   refine .ret ⟨⟨by simp,by simp,by simp,?_⟩,h2.2.2⟩
   intro r hrm
   have hrm':r∈[(r3,x.2.1,x.2.2.1,x.2.2.2.1,x.2.2.2.2)]:=hrm
   rw[Qf] at hrm'
   subst hrm'
   have:=hd.bd x (by grind)
   grind
  ·refine(Ok.Text hk (by simp) (by simp)).bind fun r4 h4=>?_
   have hl:r4.1.length≤2:=by
    have:=h4.1
    simp at this
    rcases this with e | e | e <;> rw[e] <;> decide
   rw[qL (by simp;omega),zob,qL (by simp;omega),zob]
   exact .ret ⟨by simp;omega,h4.2⟩
  ·have hl:1≤b.1.length:=by
    rw[Qr] at hne
    simp only[len] at hne
    omega
   obtain⟨x,xs,hx⟩:∃ x xs,b.1=x::xs:=by
    cases hb:b.1 with
    | nil=>grind
    | cons x xs=>grind
   have hsub:sub b.1 0 1=some [x]:=by
    rw[zJw (by omega) (by omega) (by omega),hx]
    rfl
   dsimp only
   rw[hsub,zob]
   have h0:zD [x] 0=some x:=rfl
   rw[h0,zob]
   exact .ret ⟨⟨by simp,by simp,by simp,by simp⟩,hk⟩
 ·cases o with
  | inr z=>exact .ret ho
  | inl z =>
   dsimp only at ho ⊢
   obtain⟨t,c,e5,hl⟩:=rf_ok ho.1
   rw[e5,zob]
   refine .ite (fun _=>.ret ⟨by simp,ho.2⟩) fun hne=>?_
   rw[QT] at hne
   have htn:t≠[]:=by simpa using hne.2
   have hpos:=QL.2 htn
   have hsub:sub t 0 (zF (len t-1))=some (t.take (t.length-1)):=by
    rw[yL (by grind) (by grind),zJw (by omega) (by grind) (by grind)]
    simp only[len,Int.toNat_zero,Ug]
    congr 2
    omega
   dsimp only
   rw[hsub,zob]
   exact .ret ⟨by simp;omega,ho.2⟩
end
end
section
abbrev T21:=Int×Int×Int×zA×Int×Int×Int×Bool×zA×(List zE)×Bool×zA×Int×Int×Int×Int×Int×Int×Int×zA×(List zC)
abbrev evOf3 (k n:Int)(s:T21): qZ:=(k,n,s.2.1,s.2.2.1,s.2.2.2.1,(s.2.2.2.2.1,s.2.2.2.2.2.1,s.2.2.2.2.2.2.1,(s.2.2.2.2.2.2.2.1,s.2.2.2.2.2.2.2.2.1),s.2.2.2.2.2.2.2.2.2.1),(s.2.2.2.2.2.2.2.2.2.2.1,s.2.2.2.2.2.2.2.2.2.2.2.1),(s.2.2.2.2.2.2.2.2.2.2.2.2.1,s.2.2.2.2.2.2.2.2.2.2.2.2.2.1),(s.2.2.2.2.2.2.2.2.2.2.2.2.2.2.1,s.2.2.2.2.2.2.2.2.2.2.2.2.2.2.2.1,s.2.2.2.2.2.2.2.2.2.2.2.2.2.2.2.2.1,s.2.2.2.2.2.2.2.2.2.2.2.2.2.2.2.2.2.1),fm (s.2.2.2.2.2.2.2.2.2.2.2.2.2.2.2.2.2.2.1,s.2.2.2.2.2.2.2.2.2.2.2.2.2.2.2.2.2.2.2.1,s.2.2.2.2.2.2.2.2.2.2.2.2.2.2.2.2.2.2.2.2))
theorem evB_f{e:qZ}(h:xQ e): wQ (fm ((fv e.2.2.2.2.2.2.2.2.2).1,(fv e.2.2.2.2.2.2.2.2.2).2.1,(fv e.2.2.2.2.2.2.2.2.2).2.2))≤5000:=by
 have:=h.f
 generalize e.2.2.2.2.2.2.2.2.2=g at this
 obtain⟨a,b,c⟩:=g
 exact this
section
variable {s:vH}{y:zGd}
theorem z6s (h:wX s){n:Int}(h1:n≤10): Ok (zGf s (if n > 1 then n else 1) 3) fun r=>wQ r.1≤5000∧wX (s.1,r.2):=by
 have hn:1≤(if n > 1 then n else 1)∧(if n > 1 then n else 1)≤1000:=by split <;> omega
 obtain⟨j0,j⟩:=s
 obtain⟨r,p1,p2,p3⟩:=drawF (s:=(j0,j)) hn.1 hn.2 3 (by omega) j h
 refine⟨r,zKO 4 fun k hk=>p1 k (by omega),Qy p2 (by decide),p3⟩
theorem zZs (h:wX s)(hy:FrB y): Ok (zH3 s y) fun r=>xQ r.1∧wX (s.1,r.2):=by
 have hv:=hy.voc
 have hnp:=hy.np
 unfold zH3
 have hnn:0≤(if y.1.2.1 > 1 then y.1.2.1 else 1)∧(if y.1.2.1 > 1 then y.1.2.1 else 1)≤6∧1≤(if y.1.2.1 > 1 then y.1.2.1 else 1):=by split <;> omega
 refine Ok.bind (I:=fun s1:Int×qZ=>wX (s.1,s1.1)∧xQ s1.2) ((Ok.Rng h (by omega) (by omega) (by omega)).bind fun r1 h1=>(Ok.N h1.2.2 hnn.1 (by omega)).bind fun r2 h2=>(Ok.Literal h2.2.2 (by omega) (by omega)).bind fun r3 h3=>(Ok.Rng h3.2 (by omega) (by omega) (by omega)).bind fun r4 h4=>.ret ⟨h4.2.2,vV (zTi (by omega) (by grind)) zK (zTi (by omega) (by omega)) (by simp) zK (by simp) zK zK zK zK zK vZ⟩) fun s1 hs1=>?_
 obtain⟨hk,hB⟩:=hs1
 have hf:=evB_f hB
 refine Ok.bind (I:=fun s2:T21=>xQ (evOf3 s1.2.1 s1.2.2.1 s2)∧wX (s.1,s2.1)) ?_ fun s2 hs2=>.ret hs2
 refine Ok.bind (I:=fun _=>True) (.ite (fun _=>.ret trivial) fun _=>.ret trivial) fun s3 _=>.ite (fun _=>?_) fun _=>.ite (fun _=>?_) fun _=>.ite (fun _=>?_) fun _=>.ite (fun _=>?_) fun _=>.ite (fun _=>?_) fun _=>?_
 ·refine(z7E hk _).bind fun r15 h15=>(Ok.N h15.2 (by omega) (by omega)).bind fun r16 h16=>.ite (fun _=>?_) fun _=>.ret ⟨vV hB.n hB.tr hB.d (Qy h15.1 (by omega)) hB.i hB.gs hB.a hB.b hB.pl hB.x hB.y hf,h16.2.2⟩
  refine(Ok.Text h16.2.2 (by simp) (by simp)).bind fun r17 h17=>?_
  have hl:r17.1.length≤20:=by
   have:=h17.1
   simp at this
   rcases this with e | e | e | e <;> rw[e] <;> decide
  rw[qL (by omega),zob]
  exact .ret ⟨vV hB.n hB.tr hB.d (by simp;omega) hB.i hB.gs hB.a hB.b hB.pl hB.x hB.y hf,h17.2⟩
 ·refine(Ok.Pick hk (by simp) (by simp)).bind fun r18 h18=>(Ok.N h18.2 (by omega) (by omega)).bind fun r19 h19=>(Ok.Literal h19.2.2 (by omega) (by omega)).bind fun r20 h20=>?_
  have hi:wA r19.1:=zTi (by omega) (by grind)
  refine .ite (fun _=>(Ok.Literal h20.2 (by omega) (by omega)).bind fun r21 h21=>.ret ⟨vV hB.n hB.tr hB.d hB.t hi (by simp) hB.a hB.b hB.pl hB.x hB.y hf,h21.2⟩) fun _=>.ret ⟨vV hB.n hB.tr hB.d hB.t hi (by simp) hB.a hB.b hB.pl hB.x hB.y hf,h20.2⟩
 ·refine(Ok.Rng hk (by omega) (by omega) (by omega)).bind fun r22 h22=>(Ok.Rng h22.2.2 (by omega) (by omega) (by omega)).bind fun r23 h23=>(zWj hy).bind fun r24 h24=>?_
  have ha:wA r22.1:=zTi (by omega) (by omega)
  have hb:wA r23.1:=zTi (by omega) (by omega)
  refine Ok.bind (I:=fun s4:Bool×Int=>wX (s.1,s4.2)∧(s4.1=true->0<len r24.1)) (.ite (fun _=>.ite (fun hc=>(Ok.N h23.2.2 (by omega) (by omega)).bind fun r25 h25=>.ret ⟨h25.2.2,fun _=>of_decide_eq_true hc⟩) fun _=>.ret ⟨h23.2.2,nofun⟩) fun _=>.ret ⟨h23.2.2,nofun⟩) fun s4 hs4=>.ite (fun hc=>?_) fun _=>.ret ⟨vV hB.n hB.tr hB.d hB.t hB.i hB.gs ha hb hB.pl hB.x hB.y hf,hs4.1⟩
  have hpos:=hs4.2 hc
  simp only[len] at hpos
  refine(Ok.N hs4.1 (by grind) (by grind)).bind fun r26 h26=>(Ok.idx h26.1 (by grind)).bind fun x2 _=>.ret ⟨vV hB.n hB.tr hB.d hB.t hB.i hB.gs ha hb hB.pl hB.x hB.y hf,h26.2.2⟩
 ·rw[hy.talks]
  refine(Ok.N hk (by decide) (by decide)).bind fun r27 h27=>?_
  have htr:wA r27.1:=zTi (by omega) (by have:=h27.2.1 (by decide);have e:zF (len ([]:List zOd)+1)=1:=rfl;grind)
  refine .ite (fun hc=>?_) fun _=>.ret ⟨vV hB.n htr hB.d hB.t hB.i hB.gs hB.a hB.b hB.pl hB.x hB.y hf,h27.2.2⟩
  grind
 ·refine(zWj hy).bind fun r35 h35=>?_
  refine Ok.bind (I:=fun s6:Bool×Int=>wX (s.1,s6.2)∧(s6.1=true->0<len r35.1)) (.ite (fun _=>.ite (fun hc=>(Ok.N hk (by omega) (by omega)).bind fun r36 h36=>.ret ⟨h36.2.2,fun _=>of_decide_eq_true hc⟩) fun _=>.ret ⟨hk,nofun⟩) fun _=>.ret ⟨hk,nofun⟩) fun s6 hs6=>.ite (fun hc=>?_) fun _=>.ret ⟨vV hB.n hB.tr hB.d hB.t hB.i hB.gs hB.a hB.b hB.pl hB.x hB.y hf,hs6.1⟩
  have hpos:=hs6.2 hc
  simp only[len] at hpos
  refine(Ok.N hs6.1 (by grind) (by grind)).bind fun r37 h37=>(Ok.idx h37.1 (by grind)).bind fun x5 _=>.ret ⟨vV hB.n hB.tr hB.d hB.t hB.i hB.gs hB.a hB.b hB.pl hB.x hB.y hf,h37.2.2⟩
 ·refine Ok.bind (I:=fun _=>True) (.ite (fun _=>.ret trivial) fun _=>.ite (fun _=>.ret trivial) fun _=>.ret trivial) fun s7 _=>.ite (fun _=>?_) fun _=>.ret ⟨vV hB.n hB.tr hB.d hB.t hB.i hB.gs hB.a hB.b hB.pl hB.x hB.y hf,hk⟩
  refine(z6s (s:=(s.1,s1.1)) hk (n:=len y.1.1) (by grind)).bind fun r38 h38=>(Ok.Rng h38.2 (by omega) (by omega) (by omega)).bind fun r39 h39=>?_
  have hd:wA r39.1:=zTi (by omega) (by omega)
  refine .ret ⟨vV hB.n hB.tr hd hB.t hB.i hB.gs hB.a hB.b hB.pl hB.x hB.y ?_,h39.2.2⟩
  have:=h38.1
  generalize r38.1=g at this ⊢
  obtain⟨a,b,c⟩:=g
  exact this
abbrev T20b:=Int×Int×zA×Int×Int×Int×Bool×zA×(List zE)×Bool×zA×Int×Int×Int×Int×Int×Int×Int×zA×(List zC)
abbrev evOf4 (k n:Int)(s:T20b): qZ:=(k,n,s.1,s.2.1,s.2.2.1,(s.2.2.2.1,s.2.2.2.2.1,s.2.2.2.2.2.1,(s.2.2.2.2.2.2.1,s.2.2.2.2.2.2.2.1),s.2.2.2.2.2.2.2.2.1),(s.2.2.2.2.2.2.2.2.2.1,s.2.2.2.2.2.2.2.2.2.2.1),(s.2.2.2.2.2.2.2.2.2.2.2.1,s.2.2.2.2.2.2.2.2.2.2.2.2.1),(s.2.2.2.2.2.2.2.2.2.2.2.2.2.1,s.2.2.2.2.2.2.2.2.2.2.2.2.2.2.1,s.2.2.2.2.2.2.2.2.2.2.2.2.2.2.2.1,s.2.2.2.2.2.2.2.2.2.2.2.2.2.2.2.2.1),fm (s.2.2.2.2.2.2.2.2.2.2.2.2.2.2.2.2.2.1,s.2.2.2.2.2.2.2.2.2.2.2.2.2.2.2.2.2.2.1,s.2.2.2.2.2.2.2.2.2.2.2.2.2.2.2.2.2.2.2))
theorem evb3{n:Int}(hn:wA n): xQ (3,n,0,0,[],(0,0,0,(false,[]),[]),(false,[]),(0,0),(0,0,0,0),fm (0,[],[])):=vV hn zK zK (by simp) zK (by simp) zK zK zK zK zK vZ
theorem z4j (h:wX s)(hy:FrB y): Ok (zHz s y) fun r=>xQ r.1:=by
 unfold zHz uQ
 refine Ok.bind (I:=fun o:Int⊕(qZ×Int)=>match o with | .inl _=>True | .inr z=>xQ z.1) ?_ fun o ho=>?_
 ·refine Ok.wh41 (fun t:Int×Int=>wX (s.1,t.2)∧∃ j:Nat,t.1=(j:Int)∧j≤5) (fun t=>(5-t.1).toNat) (fun t ht=>?_) _ _ (Qt _) ⟨h,0,rfl,by omega⟩
  obtain⟨hk,j,h1,h2⟩:=ht
  obtain⟨jj,src⟩:=t
  dsimp only at h1 hk
  subst h1
  unfold zKr
  refine .ite (fun hc=>?_) fun _=>.ret trivial
  rw[Ql] at hc
  dsimp only at hc ⊢
  refine(zZs (s:=(s.1,src)) hk hy).bind fun r1 hr1=>?_
  obtain⟨hB,hk2⟩:=hr1
  have hf:=evB_f hB
  refine Ok.bind (I:=fun s3:T20b=>xQ (evOf4 r1.1.1 r1.1.2.1 s3)) ?_ fun s3 h3=>?_
  ·refine Ok.bind (I:=fun _=>True) (.ite (fun _=>.ret trivial) fun _=>.ret trivial) fun s4 _=>.ite (fun _=>.ret (vV hB.n zK zK hB.t zK (by simp) zK zK zK zK zK vZ)) fun _=>.ite (fun _=>.ite (fun _=>.ret (vV hB.n zK zK (by simp) zK hB.gs zK zK zK zK zK vZ)) fun _=>.ret (vV hB.n zK zK (by simp) hB.i hB.gs zK zK zK zK zK vZ)) fun _=>.ite (fun _=>.ret (vV hB.n zK zK (by simp) zK (by simp) hB.a hB.b zK zK zK vZ)) fun _=>.ite (fun _=>?_) fun _=>.ite (fun _=>.ret (vV hB.n zK hB.d (by simp) zK (by simp) zK zK zK zK zK vZ)) fun _=>?_
   ·exact Ok.bind (I:=wA) (.ite (fun _=>.ret zK) fun _=>.ret hB.x) fun s5 h5=>.ite (fun _=>.ret (vV hB.n hB.tr zK (by simp) zK (by simp) zK zK hB.pl h5 zK vZ)) fun _=>.ret (vV hB.n hB.tr zK (by simp) zK (by simp) zK zK hB.pl h5 hB.y vZ)
   ·exact Ok.bind (I:=fun _=>True) (.ite (fun _=>.ret trivial) fun _=>.ite (fun _=>.ret trivial) fun _=>.ret trivial) fun s6 _=>.ite (fun _=>.ret (vV hB.n zK hB.d (by simp) zK (by simp) zK zK zK zK zK hf)) fun _=>.ret (vV hB.n zK zK (by simp) zK (by simp) zK zK zK zK zK vZ)
  ·obtain⟨t,c,_,p2,_,_⟩:=zHA h3
   refine Ok.bind (I:=fun _=>True) ⟨_,p2,trivial⟩ fun r2 _=>.ite (fun _=>.ret h3) fun _=>.ret ?_
   rw[wI j (by omega)]
   refine⟨⟨hk2,j+1,rfl,by omega⟩,?_⟩
   grind
 grind [evb3,zK,Ok]
end
end
section
structure EvI (e:qZ): Prop where
 n:wA e.2.1
 tr:wA e.2.2.1
 d:wA e.2.2.2.1
 i:wA e.2.2.2.2.2.1.2.2.1
 a:wA e.2.2.2.2.2.2.2.1.1
 b:wA e.2.2.2.2.2.2.2.1.2
 pl:wA e.2.2.2.2.2.2.2.2.1.1
 x:wA e.2.2.2.2.2.2.2.2.1.2.2.1
 y:wA e.2.2.2.2.2.2.2.2.1.2.2.2
theorem z5Q{e:qZ}(h:EvI e): Ok (zHx e) fun b=>b=true->xQ e:=by
 unfold zHx
 refine .bind (I:=fun b=>b=true->xQ e) (.ite (fun h1=>.ite (fun h2=>?_) fun _=>.ret nofun) fun _=>.ret nofun) fun b hb=>.ret hb
 refine(z4S _).bind fun r hr=>.ret fun e1=>?_
 have h3:=of_decide_eq_true h1
 have h4:=of_decide_eq_true h2
 simp only[len] at h3 h4
 have:=hr e1
 exact⟨h.n,h.tr,h.d,by omega,h.i,by omega,h.a,h.b,h.pl,h.x,h.y,by omega⟩
theorem zY6{e:qZ}(h:xQ e): zFI e e=some true:=by
 have hg:=h.gs
 rw[zP9 h.f (by omega),zYC.2 rfl]
theorem zUd (hw:zFX=some true)(y0:qZ)(hy:EvI y0)(y1:zA)(y2:List Int)(y3 y4:Int): zCa y0 y1 y2 y3 y4=some true:=by
 suffices h:Ok (zCa y0 y1 y2 y3 y4) fun r=>r=true by obtain⟨r,h1,rfl⟩:=h;exact h1
 unfold zCa
 rw[hw]
 refine .bind (I:=fun o=>o=false->xQ y0∧y1.length≤400) ((z5Q hy).bind fun r hr=>.ite (fun _=>.ret nofun) fun h1=>.ret fun h2=>?_) fun b hb=>?_
 ·grind
 refine .ite (fun _=>.bind (.ret rfl) fun r hr=>.ret hr.symm) fun hlight=>?_
 obtain⟨hE0,hl1⟩:=hb (by grind)
 rw[z4u,zob]
 refine(z5I (z1P y2)).bind fun r4 h4=>(z6K h4.1).bind fun r5 h5=>?_
 have hk4:wX ((y2.take 2000,(0:Int)).1,r4.2):=h4.2
 refine .bind (I:=fun s2:qZ×qZ=>xQ s2.1∧xQ s2.2) ((zZs hk4 h5).bind fun r6 h6=>(z4j (s:=((y2.take 2000,(0:Int)).1,r6.2)) h6.2 h5).bind fun r7 h7=>.ret ⟨h6.1,h7⟩) fun s2 hs2=>?_
 have hlp1:zJ (zCd y0 s2) 0=some (.inl ()):=by
  refine zZn (l:=([y0,s2.1,s2.2]:List qZ)) (fun i x hx=>?_) ?_
  ·have hxE:xQ x:=by
    have hm:=Uc hx
    simp only[QG,UH,or_false] at hm
    rcases hm with rfl | rfl | rfl
    ·exact hE0
    ·exact hs2.1
    ·exact hs2.2
   obtain⟨t,c,p1,p2,_,_⟩:=zHA hxE
   unfold zCd
   simp only[vY hx,Qe,wV hx,zob,p1,p2,bne_self_eq_false,QQ,Qx,Bool.or_self,zbf,Qh]
   rw[vO hx (by simp)]
  ·unfold zCd
   grind
 rw[hlp1]
 refine .seqE (I:=fun o=>o=.inl ()) (.ret rfl) (fun _ _=>?_) (fun r hr=>by cases hr)
 obtain⟨u,c,_,p2,hul,_⟩:=zHA hs2.2
 rw[p2,zob]
 dsimp only
 have hlu:len u=(u.length:Int):=rfl
 have hw1:zF (len u+1)=((u.length+1:Nat):Int):=wI _ (by omega)
 obtain⟨v,e2,v0,v1⟩:=zYz (x:=y3) (n:=zF (len u+1)) (by grind) (by grind)
 rw[e2,zob]
 rw[hw1] at v1
 refine .bind (I:=fun s5:zA=>s5.length≤1000) (.ite (fun hc=>?_) fun _=>.ret hul) fun s5 hs5=>?_
 ·have hv:=of_decide_eq_true hc
  rw[hlu] at hv
  refine .bind (.idx v0 hv) fun x2 _=>.bind (.idx v0 hv) fun _ _=>?_
  have hbs:∀ c:Int,bset u v (z5u .u8 c y4)=some (u.set v.toNat (UInt8.ofNat (z5u .u8 c y4).toNat)):=fun c=>by
   unfold bset
   rw[Qm ⟨⟨v0,by omega⟩,by
    show 0≤IntKind.u8.wrap _∧IntKind.u8.wrap _<256
    exact⟨Int.emod_nonneg _ (by decide),Int.emod_lt_of_pos _ (by decide)⟩⟩]
  rw[hbs,zob]
  exact .ret (by grind)
 refine .seqE (I:=fun o=>o=.inl ()) ?_ (fun _ _=>.bind (.ret rfl) fun r hr=>.ret hr.symm) (fun r hr=>by cases hr)
 rw[zLY v0 (by omega),zob]
 have ht:(u.take v.toNat).length≤1000:=by have:=List.length_take_le v.toNat u;omega
 have hdl:(u.drop v.toNat).length≤1000:=by rw[QO];omega
 rw[qL (by simp;omega),zob,zPd v0 (by omega),zob,qL (by grind),zob,zob,qL (by omega),zob,zob,qL (by grind),zob,zob,qL (by simp;omega),zob]
 have hlp:∀(c0:Int) (a b c d f:zA),a.length≤5000->b.length≤5000->c.length≤5000->d.length≤5000->f.length≤5000->zJ (zCf y1 (u,c0) a b c d f) 0=some (.inl ()):=fun c0 a b c d f ha hb' hc hd hf=>by
  refine zZn (l:=([y1,u,a,b,c,d,f]:List zA)) (fun i x hx=>?_) ?_
  ·have hxl:x.length≤5000:=by
    have hm:=Uc hx
    simp only[QG,UH,or_false] at hm
    rcases hm with rfl | rfl | rfl | rfl | rfl | rfl | rfl <;> omega
   obtain⟨e3,c3,q1,q2,q3⟩:=z7a hxl
   unfold zCf
   simp only[vY hx,Qe,wV hx,zob,q1,q2,bne_self_eq_false,zbf,Qh,zY6 q3,Qx]
   rw[vO hx (by simp)]
  ·unfold zCf
   grind
 rw[hlp _ _ _ _ _ _ (by omega) (by simp only[Qc,List.length_singleton];omega) (by simp only[Qc];omega) (by omega) (by simp;omega)]
 exact .ret rfl
end
section
theorem zZJ{e:qZ}(hk:1≤e.1∧e.1≤10){ws:List zA}{T:zA}(hw:xI (e,[],false)=some (ws,false))(hj:zDA ws [32]=some T)(hr:yM T=some (e,true))(hn:wQ e.2.2.2.2.2.2.2.2.2≤5000)(hg:e.2.2.2.2.2.1.2.2.2.2.length≤100000): zBO e=some (T,0)∧zA4 T=some (e,0):=by
 have hb:(decide (e.1<1)||decide (10<e.1))=false:=by rw[QF (by omega),QF (by omega)];rfl
 have hL:zBO e=some (T,0):=by
  unfold zBO
  rw[hb,Qa (by decide),hw,zob]
  dsimp only
  rw[Qa (by decide),hj,zob,hr,zob]
  dsimp only
  rw[Qx,Qa (by decide),zN9 hn hg,zob,zYC.2 rfl,zob]
  rfl
 refine⟨hL,?_⟩
 unfold zA4
 grind
def awA:qZ:=zZG 0 (3,0,0,(false,[112]),[(false,[113]),(true,[114])])
def awD:qZ:=(7,1,0,2,[],(0,0,0,(false,[]),[]),(true,[112]),(0,0),(0,0,0,0),fm (0,[],[]))
theorem it0:Lib.itoa 0=[48]:=by rw[show Lib.itoa 0=Lib.decDigits 0 from rfl,zFE (by decide)];rfl
theorem it1:Lib.itoa 1=[49]:=by rw[show Lib.itoa 1=Lib.decDigits 1 from rfl,zFE (by decide)];rfl
theorem it2:Lib.itoa 2=[50]:=by rw[show Lib.itoa 2=Lib.decDigits 2 from rfl,zFE (by decide)];rfl
theorem aw_A:zA4 [97,114,103,117,101,32,48,32,112,32,98,101,99,97,117,115,101,32,113,32,126,114]=some (awA,0):=by
 have hE:xQ awA:=vV zK zK zK (by simp) zK (by simp) zK zK zK zK zK vZ
 have hw:=w_arg hE rfl rfl
 have hG:(!(wR awA.2.1&&(vName awA.2.2.2.2.2.1.2.2.2.1.2&&((decide (1≤awA.2.2.2.2.2.1.2.2.2.2.length)&&decide (awA.2.2.2.2.2.1.2.2.2.2.length≤6))&&awA.2.2.2.2.2.1.2.2.2.2.all fun g=>vName g.2))))=false:=by decide
 rw[hG,show awA.2.1=0 from rfl,it0] at hw
 have hr:=zVg (n:=0) (by decide) (by decide) (l:=(false,[112])) (by decide) (gs:=[(false,[113]),(true,[114])]) (by simp) (by decide) (by decide)
 rw[it0] at hr
 exact(zZJ (by decide) hw (zIo (l:=[zYc,[48],qH (false,[112]),zVl]++[(false,[113]),(true,[114])].map qH) (by decide) (by decide)) hr hE.f (by decide)).2
theorem aw_D:zBO awD=some ([100,101,99,105,100,101,32,49,32,50,32,126,112],0)∧zA4 [100,101,99,105,100,101,32,49,32,50,32,126,112]=some (awD,0):=by
 have hE:xQ awD:=vV (zTi (by decide) (by decide)) zK (zTi (by decide) (by decide)) (by simp) zK (by simp) zK zK zK zK zK vZ
 have hw:=w_dec hE rfl
 have hG:(!(wR awD.2.1&&(wR awD.2.2.2.1&&vName awD.2.2.2.2.2.2.1.2)))=false:=by decide
 rw[hG,show awD.2.1=1 from rfl,show awD.2.2.2.1=2 from rfl,it1,it2] at hw
 have hr:=zXM (n:=1) (by decide) (by decide) (l:=(true,[112])) (by decide) (d:=2) (by decide) (by decide)
 rw[it1,it2] at hr
 exact zZJ (by decide) hw (zIo (l:=[zZ8,[49],[50],qH (true,[112])]) (by decide) (by decide)) hr hE.f (by decide)
theorem z7d{f:zC}(hn:wQ f≤5000){t:zA}(h1:zAx f=some (t,0)): t=wT f∧vA f=true∧fnm f=true:=by
 obtain⟨v1,_⟩:=zVF (zW3 f (by omega))
 unfold zAx at h1
 rw[v1,zob] at h1
 by_cases hv:z1I f=0
 ·have hv':vA f=true∧fnm f=true:=by
   unfold z1I at hv
   split at hv
   ·grind
   ·cases hv
  have hlen:=zYt f hv'.2
  have w:zFH [] f=some (wT f):=((z4N f hv'.1 hn).imp fun k e=>(e [] (by simp;omega)).trans (by grind)).lim
  rw[hv,Qa (by decide),w,zob] at h1
  unfold zBf zBj at h1
  grind
 grind
theorem z6I:∀(g:zC),vA g=true->fnm g=true->∀ r:zA,wT g=40::r->∃ op w x y l,g=.mk op w (x::y::l)∧(op=5∨op=6∨op=7∨op=8)∧wT g=Fo.par (decide (xW x<zLA op 0)) (wT x)++(zVc op++(Fo.par (decide (xW y<zLA op 1)) (wT y)++txL op 2 l))
 | .mk op w [],h,hn,r,e=>by
  rw[zLL,Qb] at h
  rw[fnm,Qb] at hn
  have hk:=zLS h.1
  have:op=1∨op=2∨op=3:=by simp at hk;exact hk
  rw[wT,txL,QJ] at e
  rcases this with rfl | rfl | rfl
  ·injection e with e _;cases e
  ·injection e with e _;cases e
  ·have hv:=hn.1
   rw[Qm rfl] at hv
   have e2:w=40::r:=e
   have:=(zZF hv).1 40 (by grind)
   cases this
 | .mk op w [x],h,hn,r,e=>by
  rw[zLL,Qb] at h
  have hk:=zLS h.1
  have:op=4:=by simp at hk;exact hk
  subst this
  rw[wT] at e
  injection e with e _
  cases e
 | .mk op w (x::y::l),h,hn,r,e=>by
  rw[zLL,Qb] at h
  have hk:=zLS h.1
  have ho:op=5∨op=6∨op=7∨op=8:=by simp at hk;omega
  refine⟨op,w,x,y,l,rfl,ho,?_⟩
  have hp:z0m op w=[]:=by rcases ho with rfl | rfl | rfl | rfl <;> rfl
  rw[wT,hp,QA,zKL,Qm rfl,QA,zKL,Qa (by decide)]
theorem no_pq{g:zC}(h:vA g=true)(hn:fnm g=true): wT g≠[40,112,32,45,62,32,113,41]:=by
 intro e
 obtain⟨op,w,x,y,l,rfl,ho,e2⟩:=z6I g h hn _ e
 rw[e] at e2
 have hw:∀ c∈zVc op,c∈([40,112,32,45,62,32,113,41]:zA):=fun c hc=>by
  grind
 have h7:op=7:=by
  rcases ho with rfl | rfl | rfl | rfl
  ·exact absurd (hw 38 (by decide)) (by decide)
  ·exact absurd (hw 124 (by decide)) (by decide)
  ·rfl
  ·exact absurd (hw 60 (by decide)) (by decide)
 subst h7
 rw[zLL,Qb,zQz,Qb] at h
 rw[fnm,Qb,z2V,Qb] at hn
 generalize hA:Fo.par (decide (xW x<zLA 7 0)) (wT x)=A at e2
 generalize Fo.par (decide (xW y<zLA 7 1)) (wT y)++txL 7 2 l=B at e2
 have e3:([40,112,32,45,62,32,113,41]:zA)=A++([32,45,62,32]++B):=e2
 have hA2:A=[40,112]:=by
  match A,e3 with
  | [],e3=>simp at e3
  | [a],e3=>simp at e3
  | [a,b],e3=>grind
  | [a,b,c],e3=>simp at e3
  | [a,b,c,d],e3=>simp at e3
  | a::b::c::d::f::r,e3 =>
   have:=congrArg List.length e3
   simp at this
   omega
 rw[hA2] at hA
 cases hd:decide (xW x<zLA 7 0) with
 | true =>
  rw[hd] at hA
  have h1:[40]++wT x++[41]=[40,112]:=hA
  have h2:=congrArg List.reverse h1
  simp at h2
 | false =>
  rw[hd] at hA
  have h1:wT x=40::[112]:=hA
  obtain⟨op2,w2,x2,y2,l2,rfl,ho2,e4⟩:=z6I x h.2.1 hn.2.1 _ h1
  rw[h1] at e4
  have:(32:UInt8)∈([40,112]:zA):=by
   rw[e4]
   rcases ho2 with rfl | rfl | rfl | rfl <;> simp[zVc]
  grind
theorem aw_R:∃ e,zA4 [114,101,118,105,115,101,32,48,32,49,32,40,112,32,45,62,32,113,41]=some (e,3):=by
 obtain⟨g,o,o',c2,q1,q2,q3,q4⟩:=zKT [40,112,32,45,62,32,113,41]
 have hg:wQ g≤5000:=by
  by_cases hc:c2=0
  ·grind
  ·rw[(q4 hc).1];exact vZ
 have hr:=zZ7 (n:=0) (by decide) (by decide) (k:=8) (.inl rfl) (d:=1) (by decide) (by decide) (t:=[40,112,32,45,62,32,113,41]) (by decide) q1
 rw[it0,it1] at hr
 have hr':yM [114,101,118,105,115,101,32,48,32,49,32,40,112,32,45,62,32,113,41]=_:=hr
 unfold zA4
 rw[hr',zob]
 dsimp only
 cases hc:c2==0 with
 | false=>simp_all
 | true =>
  rw[Qx,Qa (by decide)]
  have hE:xQ (8,0,0,1,[],(0,0,0,(false,[]),[]),(false,[]),(0,0),(0,0,0,0),g):=vV zK zK (zTi (by decide) (by decide)) (by simp) zK (by simp) zK zK zK zK zK hg
  obtain⟨s,c,p1,_,_,_⟩:=zHA hE
  rw[p1,zob]
  dsimp only
  by_cases hc0:c=0
  ·by_cases hs:s=[114,101,118,105,115,101,32,48,32,49,32,40,112,32,45,62,32,113,41]
   ·exfalso
    subst hc0
    obtain⟨t,c',f1,_,f3,f4⟩:=zDu hE.f
    have hw:=w_ch hE (.inl rfl) f1 fun e=>(f4 e).1
    unfold zBO at p1
    dsimp only at p1
    rw[Qa (by simp),hw,zob] at p1
    dsimp only at p1
    split at p1
    ·grind
    ·rename_i hG
     have hG2:c'=0:=by
      simp at hG
      exact hG.2.2.1
     subst hG2
     obtain⟨t1,t2,t3⟩:=z7d hg f1
     rw[it0,it1,show kCh 8=z0q from rfl,zIo (l:=[z0q,[48],[49],t]) (by simp) (by show(z0q++32::([48]++32::([49]++32::t))).length≤_;simp[z0q];omega),zob] at p1
     cases hrd:yM (uK [z0q,[48],[49],t]) with
     | none=>grind
     | some z =>
      rw[hrd,zob] at p1
      have hjs:uK [z0q,[48],[49],t]=s:=by
       revert p1
       intro p1
       obtain⟨b,hb,hb2⟩:=UY.1 p1
       split at hb2
       ·grind
       ·grind
      rw[hs] at hjs
      have ht:t=[40,112,32,45,62,32,113,41]:=by
       have h2:z0q++32::([48]++32::([49]++32::t))=[114,101,118,105,115,101,32,48,32,49,32,40,112,32,45,62,32,113,41]:=hjs
       simpa [z0q] using h2
      grind [no_pq]
   simp_all
  simp_all
theorem z1m:zFX=some true:=by
 obtain⟨e,h3⟩:=aw_R
 unfold zFX
 rw[aw_A,zob,aw_D.2,zob,h3,zob]
 dsimp only
 rw[aw_D.1,zob]
 rfl
end
section
theorem z4U{n:Int}(h:yU .i64 n): wA n:=by
 have h2:(Lit.int .i64 n).wf=true:=h
 simp[Lit.wf] at h2
 have e1:IntKind.i64.min=-9223372036854775808:=rfl
 have e2:IntKind.i64.max=9223372036854775807:=rfl
 exact⟨by omega,by omega⟩
theorem zNL (y0:qZ)(y1:zA)(y2:List Int)(y3 y4:Int)(w0:vQ (yU .i64) (vQ (yU .i64) (vQ (yU .i64) (vQ (yU .i64) (vQ zXZ (vQ (vQ (yU .i64) (vQ (yU .i64) (vQ (yU .i64) (vQ (vQ zQh zXZ) (zTf (vQ zQh zXZ)))))) (vQ (vQ zQh zXZ) (vQ (vQ (yU .i64) (yU .i64)) (vQ (vQ (yU .i64) (vQ (yU .i64) (vQ (yU .i64) (yU .i64)))) fun _=>True)))))))) y0){W1 W2 W3 W4:Prop}(_w1:W1)(_w2:W2)(_w3:W3)(_w4:W4): zCa y0 y1 y2 y3 y4=some true :=
 zUd z1m y0 ⟨z4U w0.2.1,z4U w0.2.2.1,z4U w0.2.2.2.1,z4U w0.2.2.2.2.2.1.2.2.1,z4U w0.2.2.2.2.2.2.2.1.1,z4U w0.2.2.2.2.2.2.2.1.2,z4U w0.2.2.2.2.2.2.2.2.1.1,z4U w0.2.2.2.2.2.2.2.2.1.2.2.1,z4U w0.2.2.2.2.2.2.2.2.1.2.2.2⟩ y1 y2 y3 y4
end
end Go.GD
