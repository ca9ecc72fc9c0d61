/- A part. Conditions: none. -/
import Derived.Test.YtkmalbjjjappgaaGreatDoorPlL1
namespace Go.GD
open Option renaming some->Ah
open Bool renaming true->Aj,false->Ak
open Go renaming IntKind->Au
set_option autoImplicit false
set_option linter.unusedVariables false
section
structure EvB (e:qB): Prop where
 n:wI e.2.1
 tr:wI e.2.2.1
 d:wI e.2.2.2.1
 t:e.2.2.2.2.1.length<=100000
 i:wI e.2.2.2.2.2.1.2.2.1
 gs:e.2.2.2.2.2.1.2.2.2.2.length<=50000
 a:wI e.2.2.2.2.2.2.2.1.1
 b:wI e.2.2.2.2.2.2.2.1.2
 pl:wI e.2.2.2.2.2.2.2.2.1.1
 x:wI e.2.2.2.2.2.2.2.2.1.2.2.1
 y:wI e.2.2.2.2.2.2.2.2.1.2.2.2
 f:wO e.2.2.2.2.2.2.2.2.2<=5000
section
variable {e:qB}(h:EvB e)
include h
theorem zY2 (k:Int)(w:zA)(hw:w≠[]): tU (e,[],Ak) w []=Ah ([w,Lib.itoa e.2.1],!wX e.2.1):=by
 have _:=k;rw[zJA hw (by simp) (by intro n hn;simp at hn;rw[hn];exact h.n) (by simp)];simp
theorem w_put (hk:e.1=1\/e.1=2): tC (e,[],Ak)=Ah ([if e.1=1 then z6T else zUI,Lib.itoa e.2.1,e.2.2.2.2.1],!(wX e.2.1&&z6c e.2.2.2.2.1)):=by
 have ht:=h.t;unfold tC;dsimp only;rcases hk with hk | hk
 ·rw[hk,Qi (by decide),show tU (e,[],Ak) [112,117,116] []=_ from zY2 h 1 z6T (by decide),zob];dsimp only;rw[z6X (by omega) (by simp),zob];simp_all
 ·rw[hk,Qa (by decide),Qi (by decide),show tU (e,[],Ak) [114,117,108,101] []=_ from zY2 h 1 zUI (by decide),zob];dsimp only;rw[z6X (by omega) (by simp),zob];simp_all
theorem w_wd (hk:e.1=3): tC (e,[],Ak)=Ah ([kWd,Lib.itoa e.2.1],!wX e.2.1):=by
 unfold tC;rw[hk,Qa (by decide),Qa (by decide),Qi (by decide),show tU (e,[],Ak) [119,105,116,104,100,114,97,119] []=_ from zY2 h 1 kWd (by decide),zob]
theorem w_opn (hk:e.1=5): tC (e,[],Ak)=Ah ([z3N,Lib.itoa e.2.1,qT e.2.2.2.2.2.2.1,Lib.itoa e.2.2.2.2.2.2.2.1.1,Lib.itoa e.2.2.2.2.2.2.2.1.2],!(wX e.2.1&&(vName e.2.2.2.2.2.2.1.2&&(wX e.2.2.2.2.2.2.2.1.1&&wX e.2.2.2.2.2.2.2.1.2)))):=by
 unfold tC;rw[hk,Qa (by decide),Qa (by decide),Qa (by decide),Qa (by decide),Qi (by decide),show tU (e,[],Ak) [111,112,101,110] []=_ from zY2 h 1 z3N (by decide),zob];rw[zHZ,zob,zG1 (by simp),zob];rw[z5c (by simp) (by intro n hn;simp at hn;rcases hn with rfl | rfl;exact h.a;exact h.b) (by simp),zob,z8s];simp[Ux]
theorem w_dec (hk:e.1=7): tC (e,[],Ak)=Ah ([z1o,Lib.itoa e.2.1,Lib.itoa e.2.2.2.1,qT e.2.2.2.2.2.2.1],!(wX e.2.1&&(wX e.2.2.2.1&&vName e.2.2.2.2.2.2.1.2))):=by
 unfold tC;rw[hk,Qa (by decide),Qa (by decide),Qa (by decide),Qa (by decide),Qa (by decide),Qa (by decide),Qi (by decide),zJA (by decide) (by simp) (by intro n hn;simp at hn;rcases hn with rfl | rfl;exact h.n;exact h.d) (by simp),zob];rw[zHZ,zob,zG1 (by simp),zob,z8s];simp[Ux];rfl
variable{t:zA}{c:Int}
theorem w_ch (hk:e.1=8\/e.1=9\/e.1=10)(hf:zAt e.2.2.2.2.2.2.2.2.2=Ah (t,c))(hne:c=0->t≠[]): tC (e,[],Ak)=Ah ([kCh e.1,Lib.itoa e.2.1,Lib.itoa e.2.2.2.1,t],!(wX e.2.1&&(wX e.2.2.2.1&&(c==0&&decide (t.length<=300))))):=by
 have hB:∀ n∈e.2.1::[e.2.2.2.1],wI n:=by intro n hn;simp at hn;rcases hn with rfl | rfl;exact h.n;exact h.d
 unfold tC;rcases hk with hk | hk | hk
 ·rw[hk,Qa (by decide),Qa (by decide),Qa (by decide),Qa (by decide),Qa (by decide),Qa (by decide),Qa (by decide),Qi (by decide),zJA (by decide) (by simp) hB (by simp),zob];rw[z0z hf hne (by simp),zob];simp[Ux];rfl
 ·rw[hk,Qa (by decide),Qa (by decide),Qa (by decide),Qa (by decide),Qa (by decide),Qa (by decide),Qa (by decide),Qa (by decide),Qi (by decide),zJA (by decide) (by simp) hB (by simp),zob];rw[z0z hf hne (by simp),zob];simp[Ux];rfl
 ·rw[hk,Qa (by decide),Qa (by decide),Qa (by decide),Qa (by decide),Qa (by decide),Qa (by decide),Qa (by decide),Qa (by decide),Qa (by decide),zJA (by decide) (by simp) hB (by simp),zob];rw[z0z hf hne (by simp),zob];simp[Ux];rfl
def plB (pl:Int): Bool:=pl==1||pl==2
theorem z1m:(if((e,([]:List zA),Ak):zAT).2.2 then Ah Aj else if(e.2.2.2.2.2.2.2.2.1.1 != 1)=Aj then Ah (e.2.2.2.2.2.2.2.2.1.1 != 2) else Ah Ak:Option Bool)=Ah (!plB e.2.2.2.2.2.2.2.2.1.1):=by
 have _:=h;unfold plB bne;grind
theorem w_att (hk:e.1=6)(hm:e.2.2.2.2.2.2.2.2.1.2.1=2): tC (e,[],Ak)=Ah ([z3I,Lib.itoa e.2.1,Lib.itoa e.2.2.1,Lib.itoa e.2.2.2.2.2.2.2.2.1.1,Lib.itoa e.2.2.2.2.2.2.2.2.1.2.2.1,Lib.itoa e.2.2.2.2.2.2.2.2.1.2.2.2],!(plB e.2.2.2.2.2.2.2.2.1.1&&(wX e.2.1&&(wX e.2.2.1&&(wX e.2.2.2.2.2.2.2.2.1.1&&(wX e.2.2.2.2.2.2.2.2.1.2.2.1&&wX e.2.2.2.2.2.2.2.2.1.2.2.2)))))):=by
 have hB:∀ n∈e.2.1::[e.2.2.1,e.2.2.2.2.2.2.2.2.1.1,e.2.2.2.2.2.2.2.2.1.2.2.1,e.2.2.2.2.2.2.2.2.1.2.2.2],wI n:=by
  intro n hn;simp at hn;rcases hn with rfl | rfl | rfl | rfl | rfl
  ·exact h.n
  ·exact h.tr
  ·exact h.pl
  ·exact h.x
  ·exact h.y
 unfold tC;rw[hk,Qa (by decide),Qa (by decide),Qa (by decide),Qa (by decide),Qa (by decide),Qi (by decide)];unfold zBz;rw[z1m h,zob,hm,Qi (by decide)];rw[zJA (by decide) (by simp) hB (by simp),zob,zob];simp;rfl
theorem w_tak (hk:e.1=6)(hm:e.2.2.2.2.2.2.2.2.1.2.1=3): tC (e,[],Ak)=Ah ([z2g,Lib.itoa e.2.1,Lib.itoa e.2.2.1,Lib.itoa e.2.2.2.2.2.2.2.2.1.1,Lib.itoa e.2.2.2.2.2.2.2.2.1.2.2.2],!(plB e.2.2.2.2.2.2.2.2.1.1&&(wX e.2.1&&(wX e.2.2.1&&(wX e.2.2.2.2.2.2.2.2.1.1&&wX e.2.2.2.2.2.2.2.2.1.2.2.2))))):=by
 have hB:∀ n∈e.2.1::[e.2.2.1,e.2.2.2.2.2.2.2.2.1.1,e.2.2.2.2.2.2.2.2.1.2.2.2],wI n:=by
  intro n hn;simp at hn;rcases hn with rfl | rfl | rfl | rfl
  ·exact h.n
  ·exact h.tr
  ·exact h.pl
  ·exact h.y
 unfold tC;rw[hk,Qa (by decide),Qa (by decide),Qa (by decide),Qa (by decide),Qa (by decide),Qi (by decide)];unfold zBz;rw[z1m h,zob,hm,Qa (by decide),Qi (by decide)];rw[zJA (by decide) (by simp) hB (by simp),zob,zob];simp;rfl
theorem w_giv (hk:e.1=6)(hm:e.2.2.2.2.2.2.2.2.1.2.1=4): tC (e,[],Ak)=Ah ([z28,Lib.itoa e.2.1,Lib.itoa e.2.2.1,Lib.itoa e.2.2.2.2.2.2.2.2.1.1],!(plB e.2.2.2.2.2.2.2.2.1.1&&(wX e.2.1&&(wX e.2.2.1&&wX e.2.2.2.2.2.2.2.2.1.1)))):=by
 have hB:∀ n∈e.2.1::[e.2.2.1,e.2.2.2.2.2.2.2.2.1.1],wI n:=by
  intro n hn;simp at hn;rcases hn with rfl | rfl | rfl
  ·exact h.n
  ·exact h.tr
  ·exact h.pl
 unfold tC;rw[hk,Qa (by decide),Qa (by decide),Qa (by decide),Qa (by decide),Qa (by decide),Qi (by decide)];unfold zBz;rw[z1m h,zob,hm,Qa (by decide),Qa (by decide),Qi (by decide)];rw[zJA (by decide) (by simp) hB (by simp),zob,zob];simp;rfl
theorem w_mov (hk:e.1=6)(hm:e.2.2.2.2.2.2.2.2.1.2.1≠2/\e.2.2.2.2.2.2.2.2.1.2.1≠3/\e.2.2.2.2.2.2.2.2.1.2.1≠4): tC (e,[],Ak)=Ah ([],Aj):=by
 unfold tC;rw[hk,Qa (by decide),Qa (by decide),Qa (by decide),Qa (by decide),Qa (by decide),Qi (by decide)];unfold zBz;rw[z1m h,zob,Qa (by simpa using hm.1),Qa (by simpa using hm.2.1),Qa (by simpa using hm.2.2)];rfl
theorem w_gs:∀(gs pre:List zH) (ws:List zA) (b:Bool),e.2.2.2.2.2.1.2.2.2.2=pre++gs->ws.length+gs.length<=90000->∀ ws0 b0,zN (zCx (e,ws0,b0)) ((pre.length:Int),ws,b)=Ah (ws++gs.map qT,b||!gs.all λg=>vName g.2)
 | [],pre,ws,b,he,_,ws0,b0=>by
  refine vW ?_;unfold zCx;grind
 | g::gs,pre,ws,b,he,hl,ws0,b0=>by
  have hyl:pre.length+gs.length+1<=50000:=by have:=h.gs;rw[he] at this;simp at this;omega
  have ih:=w_gs gs (pre++[g]) (ws++[qT g]) (b||!vName g.2) (by grind) (by grind) ws0 b0;refine(yZ (t:=(((pre++[g]).length:Int),ws++[qT g],b||!vName g.2)) ?_).trans (ih.trans ?_)
  ·unfold zCx;rw[he];have e2:zD (pre++g::gs) (pre.length:Int)=Ah g:=xO (by simp);simp[e2,zHZ];rw[zG1 (by grind),zob,wE pre.length (by omega),z8s];simp
  grind
variable{k:Int}
theorem w_say(hk:e.1=4)(hs:e.2.2.2.2.2.1.1=k)(hk3:k=1\/k=4\/k=5): tC (e,[],Ak)=Ah ([if k=1 then z38 else if k=4 then z35 else z34,Lib.itoa e.2.1,qT e.2.2.2.2.2.1.2.2.2.1],!(wX e.2.1&&vName e.2.2.2.2.2.1.2.2.2.1.2)):=by
 unfold tC;rw[hk,Qa (by decide),Qa (by decide),Qa (by decide),Qi (by decide)];unfold zCN;rw[zHZ,zob,hs];rcases hk3 with rfl | rfl | rfl
 ·rw[Qi (by decide),show tU (e,[],Ak) [97,115,115,101,114,116] []=_ from zY2 h 1 z38 (by decide),zob,zob];rw[zG1 (by simp),zob,Qa (by decide),zob,z8s];simp_all
 ·rw[Qa (by decide),Qa (by decide),Qa (by decide),Qi (by decide),show tU (e,[],Ak) [99,111,110,99,101,100,101] []=_ from zY2 h 1 z35 (by decide),zob,zob];rw[zG1 (by simp),zob,Qa (by decide),zob,z8s];simp_all
 ·rw[Qa (by decide),Qa (by decide),Qa (by decide),Qa (by decide),Qi (by decide),show tU (e,[],Ak) [114,101,116,114,97,99,116] []=_ from zY2 h 1 z34 (by decide),zob,zob];rw[zG1 (by simp),zob,Qa (by decide),zob,z8s];simp_all
theorem w_chl (hk:e.1=4)(hs:e.2.2.2.2.2.1.1=2): tC (e,[],Ak)=Ah ([z32,Lib.itoa e.2.1,Lib.itoa e.2.2.2.2.2.1.2.2.1,qT e.2.2.2.2.2.1.2.2.2.1],!(wX e.2.1&&(wX e.2.2.2.2.2.1.2.2.1&&vName e.2.2.2.2.2.1.2.2.2.1.2))):=by
 unfold tC;rw[hk,Qa (by decide),Qa (by decide),Qa (by decide),Qi (by decide)];unfold zCN;rw[zHZ,zob,hs,Qa (by decide),Qi (by decide),zJA (by decide) (by simp) (by intro n hn;simp at hn;rcases hn with rfl | rfl;exact h.n;exact h.i) (by simp),zob,zob];rw[zG1 (by simp),zob,Qa (by decide),zob,z8s];simp[Ux];rfl
theorem w_arg (hk:e.1=4)(hs:e.2.2.2.2.2.1.1=3): tC (e,[],Ak)=Ah ([z0n,Lib.itoa e.2.1,qT e.2.2.2.2.2.1.2.2.2.1,zZD]++e.2.2.2.2.2.1.2.2.2.2.map qT,!(wX e.2.1&&(vName e.2.2.2.2.2.1.2.2.2.1.2&&((decide (1<=e.2.2.2.2.2.1.2.2.2.2.length)&&decide (e.2.2.2.2.2.1.2.2.2.2.length<=6))&&e.2.2.2.2.2.1.2.2.2.2.all λg=>vName g.2)))):=by
 unfold tC;dsimp only;rw[hk,Qa (by decide),Qa (by decide),Qa (by decide),Qi (by decide)];unfold zCN;dsimp only;rw[zHZ,zob,hs,Qa (by decide),Qa (by decide),Qi (by decide),show tU (e,[],Ak) [97,114,103,117,101] []=_ from zY2 h 1 z0n (by decide),zob,zob];rw[zG1 (by simp),zob,Qi (by decide)];rw[zG1 (by simp),zob];have hb:(([98,101,99,97,117,115,101]:zA)==[])=false:=rfl;rw[hb,UI,z8s];have hgl:=h.gs;have h2:(if(!wX e.2.1||!vName e.2.2.2.2.2.1.2.2.2.1.2)=Aj then Ah Aj else if(len e.2.2.2.2.2.1.2.2.2.2==0)=Aj then Ah Aj else Ah (decide (6<len e.2.2.2.2.2.1.2.2.2.2)):Option Bool)=Ah (!(wX e.2.1&&(vName e.2.2.2.2.2.1.2.2.2.1.2&&(decide (1<=e.2.2.2.2.2.1.2.2.2.2.length)&&decide (e.2.2.2.2.2.1.2.2.2.2.length<=6))))):=by
  generalize e.2.2.2.2.2.1.2.2.2.2=gs;have e1:(len gs==0)=!decide (1<=gs.length):=by
   by_cases h:1<=gs.length
   ·grind
   ·grind
  have e2:decide (6<len gs)=!decide (gs.length<=6):=by
   by_cases h:gs.length<=6
   ·grind
   ·grind
  rw[e1,e2];cases wX e.2.1 <;> cases vName e.2.2.2.2.2.1.2.2.2.1.2 <;> cases decide (1<=gs.length) <;> cases decide (gs.length<=6) <;> rfl
 rw[h2,zob];have h3:=w_gs h e.2.2.2.2.2.1.2.2.2.2 [] ([z0n,Lib.itoa e.2.1]++[qT e.2.2.2.2.2.1.2.2.2.1]++[[98,101,99,97,117,115,101]]) (!(wX e.2.1&&(vName e.2.2.2.2.2.1.2.2.2.1.2&&(decide (1<=e.2.2.2.2.2.1.2.2.2.2.length)&&decide (e.2.2.2.2.2.1.2.2.2.2.length<=6))))) rfl (by simp;omega) [] Ak;refine(congrArg (λo:Option (List zA×Bool)=>o.bind λr6=>Ah (r6.1,r6.2)) h3).trans ?_;simp[Ux];rfl
theorem w_non (hk:e.1=4)(hs:e.2.2.2.2.2.1.1≠1/\e.2.2.2.2.2.1.1≠2/\e.2.2.2.2.2.1.1≠3/\e.2.2.2.2.2.1.1≠4/\e.2.2.2.2.2.1.1≠5): tC (e,[],Ak)=Ah ([qT e.2.2.2.2.2.1.2.2.2.1],Aj):=by
 have _:=h;unfold tC;dsimp only;rw[hk,Qa (by decide),Qa (by decide),Qa (by decide),Qi (by decide)];unfold zCN;dsimp only;rw[zHZ,zob,Qa (by grind),Qa (by grind),Qa (by grind),Qa (by grind),Qa (by grind),zob];dsimp only;rw[zG1 (by simp),zob,Qa (by grind)];rfl
end
end
section
theorem zHn (n:Int): zBM n=Ah (wX n):=rfl
section
variable {e:qB}(h:EvB e)
include h
theorem p_put (hk:e.1=1\/e.1=2): zAe e=Ah (z6c e.2.2.2.2.1):=by
 have ht:=h.t;unfold zAe;rcases hk with hk | hk <;> rw[hk]
 ·rw[Qi (by decide),zob,Qi (by decide),zRq (by omega)];rfl
 ·rw[Qa (by decide),zob,Qi (by decide),zRq (by omega)];rfl
theorem p_wd (hk:e.1=3): zAe e=Ah true:=by
 have _:=h;unfold zAe;rw[hk,Qa (by decide),zob,Qa (by decide),Qi (by decide)];rfl
theorem p_gs:∀(gs pre:List zH) (b:Bool),e.2.2.2.2.2.1.2.2.2.2=pre++gs->zN (zEA e) (b,(pre.length:Int))=Ah (b&&gs.all λg=>vName g.2)
 | [],pre,b,he=>by
  refine vW ?_;unfold zEA;grind
 | g::gs,pre,b,he=>by
  have hyl:pre.length+gs.length+1<=50000:=by have:=h.gs;rw[he] at this;simp at this;omega
  have ih:=p_gs gs (pre++[g]) (b&&vName g.2) (by grind);refine(yZ (t:=(b&&vName g.2,((pre++[g]).length:Int))) ?_).trans (ih.trans (by grind));unfold zEA;rw[he];have e2:zD (pre++g::gs) (pre.length:Int)=Ah g:=xO (by simp);simp[e2,zBw];rw[wE pre.length (by omega)];cases b <;> simp
theorem z47 (hk:e.1=4): zAe e=Ah (((vName e.2.2.2.2.2.1.2.2.2.1.2&&(wX e.2.2.2.2.2.1.2.2.1&&(decide (1<=e.2.2.2.2.2.1.1)&&decide (e.2.2.2.2.2.1.1<=5))))&&e.2.2.2.2.2.1.2.2.2.2.all λg=>vName g.2)&&(e.2.2.2.2.2.1.1 != 3||(decide (1<=e.2.2.2.2.2.1.2.2.2.2.length)&&decide (e.2.2.2.2.2.1.2.2.2.2.length<=6)))):=by
 unfold zAe;rw[hk,Qa (by decide),zob,Qa (by decide),Qa (by decide),Qi (by decide),zBw,zob,zHn,zob];have h1:(if vName e.2.2.2.2.2.1.2.2.2.1.2=Aj then if wX e.2.2.2.2.2.1.2.2.1=Aj then if decide (1<=e.2.2.2.2.2.1.1)=Aj then Ah (decide (e.2.2.2.2.2.1.1<=5)) else Ah Ak else Ah Ak else Ah Ak:Option Bool)=Ah (vName e.2.2.2.2.2.1.2.2.2.1.2&&(wX e.2.2.2.2.2.1.2.2.1&&(decide (1<=e.2.2.2.2.2.1.1)&&decide (e.2.2.2.2.2.1.1<=5)))):=by
  cases vName e.2.2.2.2.2.1.2.2.2.1.2 <;> cases wX e.2.2.2.2.2.1.2.2.1 <;> cases decide (1<=e.2.2.2.2.2.1.1) <;> rfl
 have e1:decide (1<=len e.2.2.2.2.2.1.2.2.2.2)=decide (1<=e.2.2.2.2.2.1.2.2.2.2.length):=by
  by_cases h:1<=e.2.2.2.2.2.1.2.2.2.2.length
  ·grind
  ·grind
 have e2:decide (len e.2.2.2.2.2.1.2.2.2.2<=6)=decide (e.2.2.2.2.2.1.2.2.2.2.length<=6):=by
  by_cases h:e.2.2.2.2.2.1.2.2.2.2.length<=6
  ·grind
  ·grind
 rw[h1,zob,e1,e2];have h3:=p_gs h e.2.2.2.2.2.1.2.2.2.2 [] (vName e.2.2.2.2.2.1.2.2.2.1.2&&(wX e.2.2.2.2.2.1.2.2.1&&(decide (1<=e.2.2.2.2.2.1.1)&&decide (e.2.2.2.2.2.1.1<=5)))) rfl;have h4:zN (zEA e) ((vName e.2.2.2.2.2.1.2.2.2.1.2&&(wX e.2.2.2.2.2.1.2.2.1&&(decide (1<=e.2.2.2.2.2.1.1)&&decide (e.2.2.2.2.2.1.1<=5)))),0)=_:=h3;rw[h4];rfl
theorem p_opn (hk:e.1=5): zAe e=Ah (vName e.2.2.2.2.2.2.1.2&&(wX e.2.2.2.2.2.2.2.1.1&&wX e.2.2.2.2.2.2.2.1.2)):=by
 have _:=h;unfold zAe;rw[hk,Qa (by decide),zob,Qa (by decide),Qa (by decide),Qa (by decide),Qi (by decide),zBw,zob,zHn,zob,zHn,zob];cases vName e.2.2.2.2.2.2.1.2 <;> cases wX e.2.2.2.2.2.2.2.1.1 <;> rfl
theorem z4t (hk:e.1=6): zAe e=Ah (wX e.2.2.1&&(plB e.2.2.2.2.2.2.2.2.1.1&&((decide (2<=e.2.2.2.2.2.2.2.2.1.2.1)&&decide (e.2.2.2.2.2.2.2.2.1.2.1<=4))&&(wX e.2.2.2.2.2.2.2.2.1.2.2.1&&wX e.2.2.2.2.2.2.2.2.1.2.2.2)))):=by
 have _:=h;unfold zAe;rw[hk,Qa (by decide),zob,Qa (by decide),Qa (by decide),Qa (by decide),Qa (by decide),Qi (by decide),zHn,zob,zHn,zob,zHn,zob];unfold plB;cases wX e.2.2.1 <;> cases e.2.2.2.2.2.2.2.2.1.1==1 <;> cases e.2.2.2.2.2.2.2.2.1.1==2 <;> cases decide (2<=e.2.2.2.2.2.2.2.2.1.2.1) <;> cases decide (e.2.2.2.2.2.2.2.2.1.2.1<=4) <;> cases wX e.2.2.2.2.2.2.2.2.1.2.2.1 <;> rfl
theorem p_dec (hk:e.1=7): zAe e=Ah (vName e.2.2.2.2.2.2.1.2&&wX e.2.2.2.1):=by
 have _:=h;unfold zAe;rw[hk,Qa (by decide),zob,Qa (by decide),Qa (by decide),Qa (by decide),Qa (by decide),Qa (by decide),Qi (by decide),zBw,zob,zHn,zob];cases vName e.2.2.2.2.2.2.1.2 <;> rfl
variable{t:zA}{c:Int}
theorem p_ch (hk:e.1=8\/e.1=9\/e.1=10)(hf:zAR e.2.2.2.2.2.2.2.2.2=Ah (t,c)): zAe e=Ah (c==0&&(decide (t.length<=300)&&wX e.2.2.2.1)):=by
 have _:=h;have h1:zAe e=(zAR e.2.2.2.2.2.2.2.2.2).bind λr15=>(if(r15.2==0)=Aj then if decide (len r15.1<=300)=Aj then(zBM e.2.2.2.1).bind λr16=>Ah r16 else Ah Ak else Ah Ak:Option Bool).bind λs10=>Ah s10:=by
  unfold zAe;rcases hk with hk | hk | hk <;> rw[hk] <;> rfl
 have e1:decide (len t<=300)=decide (t.length<=300):=by
  by_cases h:t.length<=300
  ·grind
  ·grind
 rw[h1,hf,zob,zHn,zob];grind
variable (n0:0<=e.2.1)(n1:e.2.1<=9999)
include n0 n1
theorem zUX:zAl e=(Ah (([32]++Lib.itoa e.2.1)++[32]):Option zA).bind λx2=>(zAR e.2.2.2.2.2.2.2.2.2).bind λr3=>
  if(e.1==1)=Aj then(qA [112,117,116] x2).bind λx3=>(qA x3 e.2.2.2.2.1).bind λx4=>Ah x4
  else if(e.1==2)=Aj then(qA [114,117,108,101] x2).bind λx5=>(qA x5 e.2.2.2.2.1).bind λx6=>Ah x6
  else if(e.1==3)=Aj then(zAU e.2.1).bind λr4=>(qA [119,105,116,104,100,114,97,119,32] r4).bind λx7=>Ah x7
  else if(e.1==4)=Aj then(zFx e x2).bind λr5=>Ah r5
  else if(e.1==5)=Aj then(qA [111,112,101,110] x2).bind λx8=>(qA x8 (qT e.2.2.2.2.2.2.1)).bind λx9=>(qA x9 [32]).bind λx10=>(zAU e.2.2.2.2.2.2.2.1.1).bind λr6=>(qA x10 r6).bind λx11=>(qA x11 [32]).bind λx12=>(zAU e.2.2.2.2.2.2.2.1.2).bind λr7=>(qA x12 r7).bind λx13=>Ah x13
  else if(e.1==6)=Aj then(zEj e x2).bind λr8=>Ah r8
  else if(e.1==7)=Aj then(qA [100,101,99,105,100,101] x2).bind λx14=>(zAU e.2.2.2.1).bind λr9=>(qA x14 r9).bind λx15=>(qA x15 [32]).bind λx16=>(qA x16 (qT e.2.2.2.2.2.2.1)).bind λx17=>Ah x17
  else if(e.1==8)=Aj then(qA [114,101,118,105,115,101] x2).bind λx18=>(zAU e.2.2.2.1).bind λr10=>(qA x18 r10).bind λx19=>(qA x19 [32]).bind λx20=>(qA x20 r3.1).bind λx21=>Ah x21
  else if(e.1==9)=Aj then(qA [117,112,100,97,116,101] x2).bind λx22=>(zAU e.2.2.2.1).bind λr11=>(qA x22 r11).bind λx23=>(qA x23 [32]).bind λx24=>(qA x24 r3.1).bind λx25=>Ah x25
  else(qA [109,101,114,103,101] x2).bind λx26=>(zAU e.2.2.2.1).bind λr12=>(qA x26 r12).bind λx27=>(qA x27 [32]).bind λx28=>(qA x28 r3.1).bind λx29=>Ah x29:=by
 have _:=h;have hl:=wP n0 n1;unfold zAl;rw[zBK n0 (by omega),zob,wQ (by simp;omega),zob,wQ (by simp;omega),zL9];rfl
theorem l_put (hk:e.1=1\/e.1=2)(hf:zAR e.2.2.2.2.2.2.2.2.2=Ah (t,c)): zAl e=Ah ((if e.1=1 then z6T else zUI)++32::(Lib.itoa e.2.1++32::e.2.2.2.2.1)):=by
 have hl:=wP n0 n1;have ht:=h.t;rw[zUX h n0 n1,zob,hf,zob];rcases hk with hk | hk <;> rw[hk]
 ·rw[Qi (by decide),wQ (by simp;omega),zob,wQ (by simp;omega),zob];simp[z6T]
 ·rw[Qa (by decide),Qi (by decide),wQ (by simp;omega),zob,wQ (by simp;omega),zob];simp[zUI]
theorem l_wd (hk:e.1=3)(hf:zAR e.2.2.2.2.2.2.2.2.2=Ah (t,c)): zAl e=Ah (kWd++32::Lib.itoa e.2.1):=by
 have hl:=wP n0 n1;rw[zUX h n0 n1,zob,hf,zob,hk,Qa (by decide),Qa (by decide),Qi (by decide),zBK n0 (by omega),zob,wQ (by simp;omega),zob];simp[kWd]
theorem l_opn (hk:e.1=5)(hf:zAR e.2.2.2.2.2.2.2.2.2=Ah (t,c))(a0:0<=e.2.2.2.2.2.2.2.1.1)(a1:e.2.2.2.2.2.2.2.1.1<=9999)(b0:0<=e.2.2.2.2.2.2.2.1.2)(b1:e.2.2.2.2.2.2.2.1.2<=9999): zAl e=Ah (z3N++32::(Lib.itoa e.2.1++32::(qT e.2.2.2.2.2.2.1++32::(Lib.itoa e.2.2.2.2.2.2.2.1.1++32::Lib.itoa e.2.2.2.2.2.2.2.1.2)))):=by
 have hl:=wP n0 n1;have hll:=tD e.2.2.2.2.2.2.1;have ha:=wP a0 a1;have hb:=wP b0 b1;rw[zUX h n0 n1,zob,hf,zob,hk,Qa (by decide),Qa (by decide),Qa (by decide),Qa (by decide),Qi (by decide),wQ (by simp;omega),zob,wQ (by simp;omega),zob,wQ (by simp;omega),zob,zBK a0 (by omega),zob,wQ (by simp;omega),zob,wQ (by simp;omega),zob,zBK b0 (by omega),zob,wQ (by simp;omega),zob];simp[z3N]
theorem l_dec (hk:e.1=7)(hf:zAR e.2.2.2.2.2.2.2.2.2=Ah (t,c))(a0:0<=e.2.2.2.1)(a1:e.2.2.2.1<=9999): zAl e=Ah (z1o++32::(Lib.itoa e.2.1++32::(Lib.itoa e.2.2.2.1++32::qT e.2.2.2.2.2.2.1))):=by
 have hl:=wP n0 n1;have hll:=tD e.2.2.2.2.2.2.1;have ha:=wP a0 a1;rw[zUX h n0 n1,zob,hf,zob,hk,Qa (by decide),Qa (by decide),Qa (by decide),Qa (by decide),Qa (by decide),Qa (by decide),Qi (by decide),wQ (by simp;omega),zob,zBK a0 (by omega),zob,wQ (by simp;omega),zob,wQ (by simp;omega),zob,wQ (by simp;omega),zob];simp[z1o]
theorem l_ch (hk:e.1=8\/e.1=9\/e.1=10)(hf:zAR e.2.2.2.2.2.2.2.2.2=Ah (t,c))(ht:t.length<=4096)(a0:0<=e.2.2.2.1)(a1:e.2.2.2.1<=9999): zAl e=Ah (kCh e.1++32::(Lib.itoa e.2.1++32::(Lib.itoa e.2.2.2.1++32::t))):=by
 have hl:=wP n0 n1;have ha:=wP a0 a1;rw[zUX h n0 n1,zob,hf,zob];rcases hk with hk | hk | hk <;> rw[hk]
 ·rw[Qa (by decide),Qa (by decide),Qa (by decide),Qa (by decide),Qa (by decide),Qa (by decide),Qa (by decide),Qi (by decide),wQ (by simp;omega),zob,zBK a0 (by omega),zob,wQ (by simp;omega),zob,wQ (by simp;omega),zob,wQ (by simp;omega),zob];simp[kCh,z30]
 ·rw[Qa (by decide),Qa (by decide),Qa (by decide),Qa (by decide),Qa (by decide),Qa (by decide),Qa (by decide),Qa (by decide),Qi (by decide),wQ (by simp;omega),zob,zBK a0 (by omega),zob,wQ (by simp;omega),zob,wQ (by simp;omega),zob,wQ (by simp;omega),zob];simp[kCh,kUpd]
 ·rw[Qa (by decide),Qa (by decide),Qa (by decide),Qa (by decide),Qa (by decide),Qa (by decide),Qa (by decide),Qa (by decide),Qa (by decide),wQ (by simp;omega),zob,zBK a0 (by omega),zob,wQ (by simp;omega),zob,wQ (by simp;omega),zob,wQ (by simp;omega),zob];simp[kCh,kMrg]
end
end
section
theorem z2R:∀(gs:List zH),gs≠[]->(32:UInt8)::uN (gs.map qT)=gs.flatMap λg=>32::qT g
 | [],h=>absurd rfl h
 | [g],_=>by simp[uN]
 | g::g2::gs,_=>by
  have ih:=z2R (g2::gs) (by simp);rw[QU,QU,uN,UU,<-ih];simp
section
variable {e:qB}(h:EvB e)
include h
theorem l_gs:∀(gs pre:List zH) (z:zA),e.2.2.2.2.2.1.2.2.2.2=pre++gs->z.length+14*gs.length<=1000000->zN (zFc e) (z,(pre.length:Int))=Ah (.inr (z++gs.flatMap λg=>32::qT g))
 | [],pre,z,he,_=>by
  refine vW ?_;unfold zFc;grind
 | g::gs,pre,z,he,hz=>by
  have hyl:pre.length+gs.length+1<=50000:=by have:=h.gs;rw[he] at this;simp at this;omega
  have hg:=tD g;have ih:=l_gs gs (pre++[g]) (z++(32::qT g)) (by grind) (by grind);refine(yZ (t:=(z++(32::qT g),((pre++[g]).length:Int))) ?_).trans (ih.trans (by grind));unfold zFc;rw[he];have e2:zD (pre++g::gs) (pre.length:Int)=Ah g:=xO (by simp);simp[e2,zL9];rw[wQ (by simp;omega),zob,wQ (by grind),zob,wE pre.length (by omega)];simp
variable (n0:0<=e.2.1)(n1:e.2.1<=9999)
include n0 n1
variable{t:zA}{c:Int}{T:zA}
theorem z6H (hk:e.1=4)(hf:zAR e.2.2.2.2.2.2.2.2.2=Ah (t,c))(hs:zFx e (([32]++Lib.itoa e.2.1)++[32])=Ah T): zAl e=Ah T:=by
 rw[zUX h n0 n1,zob,hf,zob,hk,Qa (by decide),Qa (by decide),Qa (by decide),Qi (by decide),hs];rfl
variable{k:Int}
theorem l_say(hk:e.1=4)(hs:e.2.2.2.2.2.1.1=k)(hk3:k=1\/k=4\/k=5)(hf:zAR e.2.2.2.2.2.2.2.2.2=Ah (t,c)): zAl e=Ah ((if k=1 then z38 else if k=4 then z35 else z34)++32::(Lib.itoa e.2.1++32::qT e.2.2.2.2.2.1.2.2.2.1)):=by
 have hl:=wP n0 n1;have hll:=tD e.2.2.2.2.2.1.2.2.2.1;refine z6H h n0 n1 hk hf ?_;unfold zFx;rw[zL9,zob,hs];rcases hk3 with rfl | rfl | rfl
 ·rw[Qi (by decide),wQ (by simp;omega),zob,wQ (by simp;omega),zob];simp[yG,z38]
 ·rw[Qa (by decide),Qa (by decide),Qa (by decide),Qi (by decide),wQ (by simp;omega),zob,wQ (by simp;omega),zob];simp[yG,z35]
 ·rw[Qa (by decide),Qa (by decide),Qa (by decide),Qa (by decide),wQ (by simp;omega),zob,wQ (by simp;omega),zob];simp[yG,z34]
theorem l_chl (hk:e.1=4)(hs:e.2.2.2.2.2.1.1=2)(hf:zAR e.2.2.2.2.2.2.2.2.2=Ah (t,c))(i0:0<=e.2.2.2.2.2.1.2.2.1)(i1:e.2.2.2.2.2.1.2.2.1<=9999): zAl e=Ah (z32++32::(Lib.itoa e.2.1++32::(Lib.itoa e.2.2.2.2.2.1.2.2.1++32::qT e.2.2.2.2.2.1.2.2.2.1))):=by
 have hl:=wP n0 n1;have hll:=tD e.2.2.2.2.2.1.2.2.2.1;have hi:=wP i0 i1;refine z6H h n0 n1 hk hf ?_;unfold zFx;rw[zL9,zob,hs,Qa (by decide),Qi (by decide),wQ (by simp;omega),zob,zBK i0 (by omega),zob,wQ (by simp;omega),zob,wQ (by simp;omega),zob,wQ (by simp;omega),zob];simp[yG,z32]
theorem l_arg (hk:e.1=4)(hs:e.2.2.2.2.2.1.1=3)(hf:zAR e.2.2.2.2.2.2.2.2.2=Ah (t,c))(hne:e.2.2.2.2.2.1.2.2.2.2≠[]): zAl e=Ah (z0n++32::(Lib.itoa e.2.1++32::(qT e.2.2.2.2.2.1.2.2.2.1++32::(zZD++32::uN (e.2.2.2.2.2.1.2.2.2.2.map qT))))):=by
 have hl:=wP n0 n1;have hll:=tD e.2.2.2.2.2.1.2.2.2.1;have hgs:=h.gs;refine z6H h n0 n1 hk hf ?_;unfold zFx;rw[zL9,zob,hs,Qa (by decide),Qa (by decide),Qi (by decide),wQ (by simp;omega),zob,wQ (by simp;omega),zob,wQ (by simp;omega),zob];have h1:=l_gs h e.2.2.2.2.2.1.2.2.2.2 [] ([97,114,103,117,101]++([32]++Lib.itoa e.2.1++[32])++qT e.2.2.2.2.2.1.2.2.2.1++[32,98,101,99,97,117,115,101]) rfl (by simp;omega);have h2:zN (zFc e) ([97,114,103,117,101]++([32]++Lib.itoa e.2.1++[32])++qT e.2.2.2.2.2.1.2.2.2.1++[32,98,101,99,97,117,115,101],0)=_:=h1;rw[h2,<-z2R _ hne];simp[yG,z0n,zZD]
theorem z3n (hk:e.1=6)(hf:zAR e.2.2.2.2.2.2.2.2.2=Ah (t,c))(hs:zEj e (([32]++Lib.itoa e.2.1)++[32])=Ah T): zAl e=Ah T:=by
 rw[zUX h n0 n1,zob,hf,zob,hk,Qa (by decide),Qa (by decide),Qa (by decide),Qa (by decide),Qa (by decide),Qi (by decide),hs];rfl
variable (t0:0<=e.2.2.1)(t1:e.2.2.1<=9999)(p0:0<=e.2.2.2.2.2.2.2.2.1.1)(p1:e.2.2.2.2.2.2.2.2.1.1<=9999)
include t0 t1 p0 p1
theorem l_giv (hk:e.1=6)(hm:e.2.2.2.2.2.2.2.2.1.2.1=4)(hf:zAR e.2.2.2.2.2.2.2.2.2=Ah (t,c)): zAl e=Ah (z28++32::(Lib.itoa e.2.1++32::(Lib.itoa e.2.2.1++32::Lib.itoa e.2.2.2.2.2.2.2.2.1.1))):=by
 have hl:=wP n0 n1;have ht:=wP t0 t1;have hp:=wP p0 p1;refine z3n h n0 n1 hk hf ?_;unfold zEj;rw[zBK t0 (by omega),zob,wQ (by simp;omega),zob,wQ (by simp;omega),zob,zBK p0 (by omega),zob,wQ (by simp;omega),zob,hm,Qa (by decide),Qa (by decide),wQ (by simp;omega),zob];simp[z28]
variable (y0:0<=e.2.2.2.2.2.2.2.2.1.2.2.2)(y1:e.2.2.2.2.2.2.2.2.1.2.2.2<=9999)
include y0 y1
theorem l_tak (hk:e.1=6)(hm:e.2.2.2.2.2.2.2.2.1.2.1=3)(hf:zAR e.2.2.2.2.2.2.2.2.2=Ah (t,c)): zAl e=Ah (z2g++32::(Lib.itoa e.2.1++32::(Lib.itoa e.2.2.1++32::(Lib.itoa e.2.2.2.2.2.2.2.2.1.1++32::Lib.itoa e.2.2.2.2.2.2.2.2.1.2.2.2)))):=by
 have hl:=wP n0 n1;have ht:=wP t0 t1;have hp:=wP p0 p1;have hy:=wP y0 y1;refine z3n h n0 n1 hk hf ?_;unfold zEj;rw[zBK t0 (by omega),zob,wQ (by simp;omega),zob,wQ (by simp;omega),zob,zBK p0 (by omega),zob,wQ (by simp;omega),zob,hm,Qa (by decide),Qi (by decide),wQ (by simp;omega),zob,wQ (by simp;omega),zob,zBK y0 (by omega),zob,wQ (by simp;omega),zob];simp[z2g]
theorem l_att (hk:e.1=6)(hm:e.2.2.2.2.2.2.2.2.1.2.1=2)(hf:zAR e.2.2.2.2.2.2.2.2.2=Ah (t,c))(x0:0<=e.2.2.2.2.2.2.2.2.1.2.2.1)(x1:e.2.2.2.2.2.2.2.2.1.2.2.1<=9999): zAl e=Ah (z3I++32::(Lib.itoa e.2.1++32::(Lib.itoa e.2.2.1++32::(Lib.itoa e.2.2.2.2.2.2.2.2.1.1++32::(Lib.itoa e.2.2.2.2.2.2.2.2.1.2.2.1++32::Lib.itoa e.2.2.2.2.2.2.2.2.1.2.2.2))))):=by
 have hl:=wP n0 n1;have ht:=wP t0 t1;have hp:=wP p0 p1;have hy:=wP y0 y1;have hx:=wP x0 x1;refine z3n h n0 n1 hk hf ?_;unfold zEj;rw[zBK t0 (by omega),zob,wQ (by simp;omega),zob,wQ (by simp;omega),zob,zBK p0 (by omega),zob,wQ (by simp;omega),zob,hm,Qi (by decide),wQ (by simp;omega),zob,wQ (by simp;omega),zob,zBK x0 (by omega),zob,wQ (by simp;omega),zob,wQ (by simp;omega),zob,zBK y0 (by omega),zob,wQ (by simp;omega),zob];simp[z3I]
end
end
section
def LB (e:qB): Prop:=∃ s c,zAz e=Ah (s,c)/\zCF e=Ah (s,c)/\s.length<=1000/\(c=0->yW s=Ah (e,Aj)/\uV s=Ah e)
theorem zFQ{e:qB}(hk:1<=e.1/\e.1<=10){G pt b:Bool}{ws:List zA}{T:zA}{c:qB}
  (hw:tC (e,[],Ak)=Ah (ws,!G)) (hp:zAe e=Ah pt)
  (hpG:wX e.2.1=Aj->pt=Aj->G=Aj) (hGp:G=Aj->c=e->wX e.2.1=Aj/\pt=Aj)
  (hT:G=Aj->zDL ws [32]=Ah T/\yW T=Ah (c,b)/\uV T=Ah c/\zAl e=Ah T/\T.length<=1000/\(b=Ak->c≠e)/\wO c.2.2.2.2.2.2.2.2.2<=5000/\c.2.2.2.2.2.1.2.2.2.2.length<=100000):LB e:=by
 have hr:(decide (e.1<1)||decide (10<e.1))=false:=by rw[Qp (by omega),Qp (by omega)];rfl
 have hP:zAz e=(tC (e,[],Ak)).bind λr1=>if r1.2=Aj then Ah ([],3) else(zDL r1.1 [32]).bind λr2=>(yW r2).bind λr3=>((if(!r3.2)=Aj then Ah Aj else(zFD r3.1 e).bind λr4=>Ah (!r4)):Option Bool).bind λs1=>if s1=Aj then Ah ([],3) else Ah (r2,0):=by
  unfold zAz;rw[hr];rfl
 have hR:zCF e=((if(!wX e.2.1)=Aj then Ah Aj else Ah (!pt)):Option Bool).bind λs1=>if s1=Aj then Ah ([],3) else(zAl e).bind λr3=>(uV r3).bind λr4=>(zDf r4 e).bind λr5=>if(!r5)=Aj then Ah ([],3) else Ah (r3,0):=by
  unfold zCF;rw[hr,Qa (by decide),zHn,zob,hp,zob]
 rw[hw,zob] at hP;cases G with
 | false=>
  grind [LB]
 | true=>
  obtain⟨j1,j2,j3,j4,j5,j6,j7,j8⟩:=hT rfl;dsimp only at hP;rw[QG,Qa (by decide),j1,zob,j2,zob] at hP;dsimp only at hP;rw[zPN j7 j8,zob] at hP;cases hq:eqE c e with
  | true=>
   have hce:=z0b.1 hq;obtain⟨g1,g2⟩:=hGp rfl hce;refine⟨T,0,?_,?_,j5,λ_=>⟨?_,?_⟩⟩
   ·grind
   ·rw[hR,g1,g2,Qa (by decide),QG,zob,Qa (by decide),j4,zob,j3,zob,zQp j7 j8,hq];rfl
   ·grind
   grind
  | false=>
   refine⟨[],3,?_,?_,by simp,λe=>by cases e⟩
   ·grind
   ·rw[hR];cases hs:wX e.2.1 with
    | false=>rfl
    | true=>
     cases hpt:pt with
     | false=>rfl
     | true=>
      rw[QG,Qa (by decide),zob,Qa (by decide),j4,zob,j3,zob,zQp j7 j8,hq];rfl
theorem jn3 (a b c:zA): uN [a,b,c]=a++32::(b++32::c):=rfl
theorem zIK{n:Int}(h:wX n=Aj): 0<=n/\n<=9999:=zJc.1 h
theorem yL:wO (fm (0,[],[]))<=5000:=by show wO (.mk 0 [] [])<=_;rw[wO,yC];omega
section
variable {e:qB}(h:EvB e)
include h
theorem z8M (hk:e.1=1\/e.1=2): LB e:=by
 obtain⟨t,c,f1,f2,f3,f4⟩:=zEJ h.f;refine zFQ (by omega) (w_put h hk) (p_put h hk) (T:=(if e.1=1 then z6T else zUI)++32::(Lib.itoa e.2.1++32::e.2.2.2.2.1)) (c:=(e.1,e.2.1,0,0,e.2.2.2.2.1,(0,0,0,(Ak,[]),[]),(Ak,[]),(0,0),(0,0,0,0),fm (0,[],[]))) (b:=Aj) (λa b=>by grind) (λhG _=>by grind) (λhG=>?_);rw[Qc] at hG;obtain⟨n0,n1⟩:=zIK hG.1;have hl:=wP n0 n1;have ht:e.2.2.2.2.1.length<=200:=by
  have:=hG.2;unfold z6c at this;simp at this;omega
 have hlen:((if e.1=1 then z6T else zUI)++32::(Lib.itoa e.2.1++32::e.2.2.2.2.1)).length<=1000:=by
  have:(if e.1=1 then z6T else zUI).length<=4:=by split <;> decide
  simp only[Qg,Qr];omega
 refine⟨(zJn (by simp) (by rw[jn3];omega)).trans (by rw[jn3]),?_,?_,l_put h n0 n1 hk f2,hlen,(λe=>by cases e),yL,by simp⟩
 ·grind [z63,z3F]
 grind [z5N,z2v]
theorem lb_wd (hk:e.1=3): LB e:=by
 obtain⟨t,c,f1,f2,f3,f4⟩:=zEJ h.f;refine zFQ (by omega) (w_wd h hk) (p_wd h hk) (T:=kWd++32::Lib.itoa e.2.1) (c:=(3,e.2.1,0,0,[],(0,0,0,(Ak,[]),[]),(Ak,[]),(0,0),(0,0,0,0),fm (0,[],[]))) (b:=Aj) (λa _=>a) (λhG _=>⟨hG,rfl⟩) (λhG=>?_);obtain⟨n0,n1⟩:=zIK hG;have hl:=wP n0 n1;have hlen:(kWd++32::Lib.itoa e.2.1).length<=1000:=by
  simp only[Qg,Qr];have:kWd.length=8:=rfl;omega
 exact⟨zJn (l:=[kWd,Lib.itoa e.2.1]) (by simp) (Qw hlen (by omega)),z2C n0 n1,z7n n0 n1,l_wd h n0 n1 hk f2,hlen,(λe=>by cases e),yL,by simp⟩
theorem lb_opn (hk:e.1=5): LB e:=by
 obtain⟨t,c,f1,f2,f3,f4⟩:=zEJ h.f;refine zFQ (by omega) (w_opn h hk) (p_opn h hk) (T:=z3N++32::(Lib.itoa e.2.1++32::(qT e.2.2.2.2.2.2.1++32::(Lib.itoa e.2.2.2.2.2.2.2.1.1++32::Lib.itoa e.2.2.2.2.2.2.2.1.2)))) (c:=(5,e.2.1,0,0,[],(0,0,0,(Ak,[]),[]),e.2.2.2.2.2.2.1,(e.2.2.2.2.2.2.2.1.1,e.2.2.2.2.2.2.2.1.2),(0,0,0,0),fm (0,[],[]))) (b:=Aj) (λa b=>by grind) (λhG _=>by grind) (λhG=>?_);simp at hG;obtain⟨hn,hv,ha,hb⟩:=hG;obtain⟨n0,n1⟩:=zIK hn;obtain⟨a0,a1⟩:=zIK ha;obtain⟨b0,b1⟩:=zIK hb;have h1:=wP n0 n1;have h2:=wP a0 a1;have h3:=wP b0 b1;have h4:=tD e.2.2.2.2.2.2.1;have hlen:(z3N++32::(Lib.itoa e.2.1++32::(qT e.2.2.2.2.2.2.1++32::(Lib.itoa e.2.2.2.2.2.2.2.1.1++32::Lib.itoa e.2.2.2.2.2.2.2.1.2)))).length<=1000:=by
  simp only[Qg,Qr];have:z3N.length=4:=rfl;omega
 exact⟨zJn (l:=[z3N,Lib.itoa e.2.1,qT e.2.2.2.2.2.2.1,Lib.itoa e.2.2.2.2.2.2.2.1.1,Lib.itoa e.2.2.2.2.2.2.2.1.2]) (by simp) (Qw hlen (by omega)),z3h n0 n1 hv a0 a1 b0 b1,z4R n0 n1 hv a0 a1 b0 b1,l_opn h n0 n1 hk f2 a0 a1 b0 b1,hlen,(λe=>by cases e),yL,by simp⟩
theorem lb_dec (hk:e.1=7): LB e:=by
 obtain⟨t,c,f1,f2,f3,f4⟩:=zEJ h.f;refine zFQ (by omega) (w_dec h hk) (p_dec h hk) (T:=z1o++32::(Lib.itoa e.2.1++32::(Lib.itoa e.2.2.2.1++32::qT e.2.2.2.2.2.2.1))) (c:=(7,e.2.1,0,e.2.2.2.1,[],(0,0,0,(Ak,[]),[]),e.2.2.2.2.2.2.1,(0,0),(0,0,0,0),fm (0,[],[]))) (b:=Aj) (λa b=>by grind) (λhG _=>by grind) (λhG=>?_);simp at hG;obtain⟨hn,hd,hv⟩:=hG;obtain⟨n0,n1⟩:=zIK hn;obtain⟨a0,a1⟩:=zIK hd;have h1:=wP n0 n1;have h2:=wP a0 a1;have h4:=tD e.2.2.2.2.2.2.1;have hlen:(z1o++32::(Lib.itoa e.2.1++32::(Lib.itoa e.2.2.2.1++32::qT e.2.2.2.2.2.2.1))).length<=1000:=by
  simp only[Qg,Qr];have:z1o.length=6:=rfl;omega
 exact⟨zJn (l:=[z1o,Lib.itoa e.2.1,Lib.itoa e.2.2.2.1,qT e.2.2.2.2.2.2.1]) (by simp) (Qw hlen (by omega)),zYx n0 n1 hv a0 a1,z4V n0 n1 hv a0 a1,l_dec h n0 n1 hk f2 a0 a1,hlen,(λe=>by cases e),yL,by simp⟩
theorem lb_ch (hk:e.1=8\/e.1=9\/e.1=10): LB e:=by
 obtain⟨t,c,f1,f2,f3,f4⟩:=zEJ h.f;obtain⟨g,o,o',c2,q1,q2,q3,q4⟩:=zMN t;have hg:wO g<=5000:=by
  by_cases hc:c2=0
  ·grind
  ·rw[(q4 hc).1];exact yL
 refine zFQ (by omega) (w_ch h hk f1 λe=>(f4 e).1) (p_ch h hk f2) (T:=kCh e.1++32::(Lib.itoa e.2.1++32::(Lib.itoa e.2.2.2.1++32::t))) (c:=(e.1,e.2.1,0,e.2.2.2.1,[],(0,0,0,(Ak,[]),[]),(Ak,[]),(0,0),(0,0,0,0),g)) (b:=c2==0) (λa b=>by grind) (λhG _=>by grind) (λhG=>?_);simp at hG;obtain⟨hn,hd,hc,ht⟩:=hG;obtain⟨n0,n1⟩:=zIK hn;obtain⟨a0,a1⟩:=zIK hd;have h1:=wP n0 n1;have h2:=wP a0 a1;have hlen:(kCh e.1++32::(Lib.itoa e.2.1++32::(Lib.itoa e.2.2.2.1++32::t))).length<=1000:=by
  have:(kCh e.1).length<=6:=by rcases hk with hk | hk | hk <;> rw[hk] <;> decide
  simp only[Qg,Qr];omega
 refine⟨zJn (l:=[kCh e.1,Lib.itoa e.2.1,Lib.itoa e.2.2.2.1,t]) (by simp) (Qw hlen (by omega)),z2T n0 n1 hk a0 a1 (by omega) q1,z8C n0 n1 hk a0 a1 (by omega) q2,l_ch h n0 n1 hk f2 f3 a0 a1,hlen,λhb he=>?_,hg,by simp⟩;have hc2:c2≠0:=by simpa using hb
 have hf:g=e.2.2.2.2.2.2.2.2.2:=congrArg (λz:qB=>z.2.2.2.2.2.2.2.2.2) he;have hkd:=(f4 hc).2;rw[<-hf,(q4 hc2).1] at hkd;revert hkd;show vG (.mk 0 [] [])=Aj->False;grind [vG]
theorem lb_att (hk:e.1=6)(hm:e.2.2.2.2.2.2.2.2.1.2.1=2): LB e:=by
 obtain⟨t,c,f1,f2,f3,f4⟩:=zEJ h.f;refine zFQ (by omega) (w_att h hk hm) (z4t h hk) (T:=z3I++32::(Lib.itoa e.2.1++32::(Lib.itoa e.2.2.1++32::(Lib.itoa e.2.2.2.2.2.2.2.2.1.1++32::(Lib.itoa e.2.2.2.2.2.2.2.2.1.2.2.1++32::Lib.itoa e.2.2.2.2.2.2.2.2.1.2.2.2))))) (c:=z7o e.2.1 e.2.2.1 (e.2.2.2.2.2.2.2.2.1.1,2,e.2.2.2.2.2.2.2.2.1.2.2.1,e.2.2.2.2.2.2.2.2.1.2.2.2)) (b:=Aj) (λa b=>by
   simp at b ⊢;grind [plB,wX]) (λhG _=>by
   grind) (λhG=>?_)
 simp at hG;obtain⟨_,hn,htr,hp,hx,hy⟩:=hG;obtain⟨n0,n1⟩:=zIK hn;obtain⟨t0,t1⟩:=zIK htr;obtain⟨p0,p1⟩:=zIK hp;obtain⟨x0,x1⟩:=zIK hx;obtain⟨y0,y1⟩:=zIK hy;have h1:=wP n0 n1;have h2:=wP t0 t1;have h3:=wP p0 p1;have h4:=wP x0 x1;have h5:=wP y0 y1;have hlen:(z3I++32::(Lib.itoa e.2.1++32::(Lib.itoa e.2.2.1++32::(Lib.itoa e.2.2.2.2.2.2.2.2.1.1++32::(Lib.itoa e.2.2.2.2.2.2.2.2.1.2.2.1++32::Lib.itoa e.2.2.2.2.2.2.2.2.1.2.2.2))))).length<=1000:=by
  simp only[Qg,Qr];have:z3I.length=6:=rfl;omega
 exact⟨zJn (l:=[z3I,Lib.itoa e.2.1,Lib.itoa e.2.2.1,Lib.itoa e.2.2.2.2.2.2.2.2.1.1,Lib.itoa e.2.2.2.2.2.2.2.2.1.2.2.1,Lib.itoa e.2.2.2.2.2.2.2.2.1.2.2.2]) (by simp) (Qw hlen (by omega)),z57 n0 n1 t0 t1 p0 p1 x0 x1 y0 y1,z59 n0 n1 t0 t1 p0 p1 x0 x1 y0 y1,l_att h n0 n1 t0 t1 p0 p1 y0 y1 hk hm f2 x0 x1,hlen,(λe=>by cases e),yL,by simp⟩
theorem lb_tak (hk:e.1=6)(hm:e.2.2.2.2.2.2.2.2.1.2.1=3): LB e:=by
 obtain⟨t,c,f1,f2,f3,f4⟩:=zEJ h.f;refine zFQ (by omega) (w_tak h hk hm) (z4t h hk) (T:=z2g++32::(Lib.itoa e.2.1++32::(Lib.itoa e.2.2.1++32::(Lib.itoa e.2.2.2.2.2.2.2.2.1.1++32::Lib.itoa e.2.2.2.2.2.2.2.2.1.2.2.2)))) (c:=z7o e.2.1 e.2.2.1 (e.2.2.2.2.2.2.2.2.1.1,3,0,e.2.2.2.2.2.2.2.2.1.2.2.2)) (b:=Aj) (λa b=>by
   simp at b ⊢;grind [plB,wX]) (λhG hce=>by
   have hx:0=e.2.2.2.2.2.2.2.2.1.2.2.1:=congrArg (λz:qB=>z.2.2.2.2.2.2.2.2.1.2.2.1) hce;simp at hG ⊢;exact⟨hG.2.1,hG.2.2.1,hG.1,⟨by grind,by grind⟩,by rw[<-hx];rfl,hG.2.2.2.2⟩) (λhG=>?_)
 simp at hG;obtain⟨_,hn,htr,hp,hy⟩:=hG;obtain⟨n0,n1⟩:=zIK hn;obtain⟨t0,t1⟩:=zIK htr;obtain⟨p0,p1⟩:=zIK hp;obtain⟨y0,y1⟩:=zIK hy;have h1:=wP n0 n1;have h2:=wP t0 t1;have h3:=wP p0 p1;have h5:=wP y0 y1;have hlen:(z2g++32::(Lib.itoa e.2.1++32::(Lib.itoa e.2.2.1++32::(Lib.itoa e.2.2.2.2.2.2.2.2.1.1++32::Lib.itoa e.2.2.2.2.2.2.2.2.1.2.2.2)))).length<=1000:=by
  simp only[Qg,Qr];have:z2g.length=8:=rfl;omega
 exact⟨zJn (l:=[z2g,Lib.itoa e.2.1,Lib.itoa e.2.2.1,Lib.itoa e.2.2.2.2.2.2.2.2.1.1,Lib.itoa e.2.2.2.2.2.2.2.2.1.2.2.2]) (by simp) (Qw hlen (by omega)),z6J n0 n1 t0 t1 p0 p1 y0 y1,z4L n0 n1 t0 t1 p0 p1 y0 y1,l_tak h n0 n1 t0 t1 p0 p1 y0 y1 hk hm f2,hlen,(λe=>by cases e),yL,by simp⟩
theorem lb_giv (hk:e.1=6)(hm:e.2.2.2.2.2.2.2.2.1.2.1=4): LB e:=by
 obtain⟨t,c,f1,f2,f3,f4⟩:=zEJ h.f;refine zFQ (by omega) (w_giv h hk hm) (z4t h hk) (T:=z28++32::(Lib.itoa e.2.1++32::(Lib.itoa e.2.2.1++32::Lib.itoa e.2.2.2.2.2.2.2.2.1.1))) (c:=z7o e.2.1 e.2.2.1 (e.2.2.2.2.2.2.2.2.1.1,4,0,0)) (b:=Aj) (λa b=>by
   simp at b ⊢;grind [plB,wX]) (λhG hce=>by
   have hx:0=e.2.2.2.2.2.2.2.2.1.2.2.1:=congrArg (λz:qB=>z.2.2.2.2.2.2.2.2.1.2.2.1) hce;have hy:0=e.2.2.2.2.2.2.2.2.1.2.2.2:=congrArg (λz:qB=>z.2.2.2.2.2.2.2.2.1.2.2.2) hce;simp at hG ⊢;exact⟨hG.2.1,hG.2.2.1,hG.1,⟨by grind,by grind⟩,by rw[<-hx];rfl,by rw[<-hy];rfl⟩) (λhG=>?_)
 simp at hG;obtain⟨_,hn,htr,hp⟩:=hG;obtain⟨n0,n1⟩:=zIK hn;obtain⟨t0,t1⟩:=zIK htr;obtain⟨p0,p1⟩:=zIK hp;have h1:=wP n0 n1;have h2:=wP t0 t1;have h3:=wP p0 p1;have hlen:(z28++32::(Lib.itoa e.2.1++32::(Lib.itoa e.2.2.1++32::Lib.itoa e.2.2.2.2.2.2.2.2.1.1))).length<=1000:=by
  simp only[Qg,Qr];have:z28.length=6:=rfl;omega
 exact⟨zJn (l:=[z28,Lib.itoa e.2.1,Lib.itoa e.2.2.1,Lib.itoa e.2.2.2.2.2.2.2.2.1.1]) (by simp) (Qw hlen (by omega)),z58 n0 n1 t0 t1 p0 p1,z4Q n0 n1 t0 t1 p0 p1,l_giv h n0 n1 t0 t1 p0 p1 hk hm f2,hlen,(λe=>by cases e),yL,by simp⟩
theorem lb_mov (hk:e.1=6)(hm:e.2.2.2.2.2.2.2.2.1.2.1≠2/\e.2.2.2.2.2.2.2.2.1.2.1≠3/\e.2.2.2.2.2.2.2.2.1.2.1≠4): LB e:=
 zFQ (G:=Ak) (T:=[]) (c:=ev0) (b:=Aj) (by omega) (w_mov h hk hm) (z4t h hk) (λ_ b=>by
  grind) (λe=>by cases e) (λe=>by cases e)
variable{k:Int}
theorem z4O(hk:e.1=4)(hs:e.2.2.2.2.2.1.1=k)(hk3:k=1\/k=4\/k=5): LB e:=by
 obtain⟨t,c,f1,f2,f3,f4⟩:=zEJ h.f;refine zFQ (by omega) (w_say h hk hs hk3) (z47 h hk) (T:=(if k=1 then z38 else if k=4 then z35 else z34)++32::(Lib.itoa e.2.1++32::qT e.2.2.2.2.2.1.2.2.2.1)) (c:=z1d e.2.1 (k,0,0,e.2.2.2.2.2.1.2.2.2.1,[])) (b:=Aj) (λa b=>by grind) (λhG hce=>by
   have hi:0=e.2.2.2.2.2.1.2.2.1:=congrArg (λz:qB=>z.2.2.2.2.2.1.2.2.1) hce;have hg:[]=e.2.2.2.2.2.1.2.2.2.2:=congrArg (λz:qB=>z.2.2.2.2.2.1.2.2.2.2) hce;rw[Qc] at hG;rw[hs,<-hi,<-hg,hG.2];refine⟨hG.1,?_⟩;rcases hk3 with rfl | rfl | rfl <;> rfl) (λhG=>?_)
 simp at hG;obtain⟨hn,hv⟩:=hG;obtain⟨n0,n1⟩:=zIK hn;have h1:=wP n0 n1;have h4:=tD e.2.2.2.2.2.1.2.2.2.1;have hlen:((if k=1 then z38 else if k=4 then z35 else z34)++32::(Lib.itoa e.2.1++32::qT e.2.2.2.2.2.1.2.2.2.1)).length<=1000:=by
  have:(if k=1 then z38 else if k=4 then z35 else z34).length<=7:=by split <;> (try split) <;> decide
  simp only[Qg,Qr];omega
 refine⟨(zJn (by simp) (by rw[jn3];omega)).trans (by rw[jn3]),?_,?_,l_say h n0 n1 hk hs hk3 f2,hlen,(λe=>by cases e),yL,by simp⟩
 ·rcases hk3 with rfl | rfl | rfl
  ·exact z3c n0 n1 hv
  ·exact z5i n0 n1 hv
  ·exact z3i n0 n1 hv
 ·rcases hk3 with rfl | rfl | rfl
  ·exact z43 n0 n1 hv
  ·exact z5q n0 n1 hv
  ·exact z4B n0 n1 hv
theorem lb_chl (hk:e.1=4)(hs:e.2.2.2.2.2.1.1=2): LB e:=by
 obtain⟨t,c,f1,f2,f3,f4⟩:=zEJ h.f;refine zFQ (by omega) (w_chl h hk hs) (z47 h hk) (T:=z32++32::(Lib.itoa e.2.1++32::(Lib.itoa e.2.2.2.2.2.1.2.2.1++32::qT e.2.2.2.2.2.1.2.2.2.1))) (c:=z1d e.2.1 (2,0,e.2.2.2.2.2.1.2.2.1,e.2.2.2.2.2.1.2.2.2.1,[])) (b:=Aj) (λa b=>by grind) (λhG hce=>by
   grind) (λhG=>?_)
 simp at hG;obtain⟨hn,hi,hv⟩:=hG;obtain⟨n0,n1⟩:=zIK hn;obtain⟨i0,i1⟩:=zIK hi;have h1:=wP n0 n1;have h2:=wP i0 i1;have h4:=tD e.2.2.2.2.2.1.2.2.2.1;have hlen:(z32++32::(Lib.itoa e.2.1++32::(Lib.itoa e.2.2.2.2.2.1.2.2.1++32::qT e.2.2.2.2.2.1.2.2.2.1))).length<=1000:=by
  simp only[Qg,Qr];have:z32.length=9:=rfl;omega
 exact⟨zJn (l:=[z32,Lib.itoa e.2.1,Lib.itoa e.2.2.2.2.2.1.2.2.1,qT e.2.2.2.2.2.1.2.2.2.1]) (by simp) (Qw hlen (by omega)),z3s n0 n1 hv i0 i1,z4Z n0 n1 hv i0 i1,l_chl h n0 n1 hk hs f2 i0 i1,hlen,(λe=>by cases e),yL,by simp⟩
theorem z8j (a b c d:zA)(gs:List zH)(hne:gs≠[]): uN ([a,b,c,d]++gs.map qT)=a++32::(b++32::(c++32::(d++32::uN (gs.map qT)))):=by
 have _:=h;cases gs with
 | nil=>grind
 | cons g gs=>rfl
theorem lb_arg (hk:e.1=4)(hs:e.2.2.2.2.2.1.1=3): LB e:=by
 obtain⟨t,c,f1,f2,f3,f4⟩:=zEJ h.f;refine zFQ (by omega) (w_arg h hk hs) (z47 h hk) (T:=z0n++32::(Lib.itoa e.2.1++32::(qT e.2.2.2.2.2.1.2.2.2.1++32::(zZD++32::uN (e.2.2.2.2.2.1.2.2.2.2.map qT))))) (c:=z1d e.2.1 (3,0,0,e.2.2.2.2.2.1.2.2.2.1,e.2.2.2.2.2.1.2.2.2.2)) (b:=Aj) (λa b=>by
   grind) (λhG hce=>by
   have hi:0=e.2.2.2.2.2.1.2.2.1:=congrArg (λz:qB=>z.2.2.2.2.2.1.2.2.1) hce;simp only[Qc] at hG;rw[hs,<-hi,hG.2.1,hG.2.2.2,hG.2.2.1.1,hG.2.2.1.2];exact⟨hG.1,rfl⟩) (λhG=>?_)
 simp only[Qc,Qb,QR] at hG;obtain⟨hn,hv,⟨g1,g6⟩,hg⟩:=hG;obtain⟨n0,n1⟩:=zIK hn;have hne:e.2.2.2.2.2.1.2.2.2.2≠[]:=QF.1 g1;have h1:=wP n0 n1;have h3:=zWC e.2.2.2.2.2.1.2.2.2.2;have h4:=tD e.2.2.2.2.2.1.2.2.2.1;have hlen:(z0n++32::(Lib.itoa e.2.1++32::(qT e.2.2.2.2.2.1.2.2.2.1++32::(zZD++32::uN (e.2.2.2.2.2.1.2.2.2.2.map qT))))).length<=1000:=by
  simp only[Qg,Qr];have:z0n.length=5:=rfl;have:zZD.length=7:=rfl;omega
 refine⟨(zJn (by simp;omega) (by rw[z8j h _ _ _ _ _ hne];omega)).trans (by rw[z8j h _ _ _ _ _ hne]),zZQ n0 n1 hv hne hg g6,z5I n0 n1 hv hne hg g6,l_arg h n0 n1 hk hs f2 hne,hlen,(λe=>by cases e),yL,?_⟩;grind
theorem lb_non (hk:e.1=4)(hs:e.2.2.2.2.2.1.1≠1/\e.2.2.2.2.2.1.1≠2/\e.2.2.2.2.2.1.1≠3/\e.2.2.2.2.2.1.1≠4/\e.2.2.2.2.2.1.1≠5): LB e:=
 zFQ (G:=Ak) (T:=[]) (c:=ev0) (b:=Aj) (by omega) (w_non h hk hs) (z47 h hk) (λ_ b=>by
  grind) (λe=>by cases e) (λe=>by cases e)
theorem zHY:LB e:=by
 by_cases hr:1<=e.1/\e.1<=10
 ·have hc:e.1=1\/e.1=2\/e.1=3\/e.1=4\/e.1=5\/e.1=6\/e.1=7\/(e.1=8\/e.1=9\/e.1=10):=by omega
  rcases hc with hk | hk | hk | hk | hk | hk | hk | hk
  ·exact z8M h (.inl hk)
  ·exact z8M h (.inr hk)
  ·exact lb_wd h hk
  ·by_cases h1:e.2.2.2.2.2.1.1=1
   ·exact z4O h hk h1 (.inl rfl)
   by_cases h2:e.2.2.2.2.2.1.1=2
   ·exact lb_chl h hk h2
   by_cases h3:e.2.2.2.2.2.1.1=3
   ·exact lb_arg h hk h3
   by_cases h4:e.2.2.2.2.2.1.1=4
   ·exact z4O h hk h4 (.inr (.inl rfl))
   by_cases h5:e.2.2.2.2.2.1.1=5
   ·exact z4O h hk h5 (.inr (.inr rfl))
   grind [lb_non]
  ·exact lb_opn h hk
  ·grind [lb_att,lb_tak,lb_giv,lb_mov]
  ·exact lb_dec h hk
  ·exact lb_ch h hk
 ·refine⟨[],4,?_,?_,by simp,λe=>by cases e⟩
  ·unfold zAz;grind
  ·unfold zCF;grind
end
end
section
theorem Ok.wh41{σ ρ:Type}{B:σ->Option (σ⊕ρ)}(I:σ->Prop)(μ:σ->Nat){Q:ρ->Prop}(h:∀ s,I s->Ok (B s) λo=>match o with | .inl t=>I t/\μ t<μ s | .inr r=>Q r): ∀(n:Nat) (s:σ),μ s<=n->I s->Ok (zN B s) Q
 | n,s,hn,hs=>by
  obtain⟨o,ho,hq⟩:=h s hs;cases o with
  | inr r=>exact⟨r,vW ho,hq⟩
  | inl t=>
   cases n with
   | zero=>omega
   | succ n=>
    obtain⟨r,hr,hr2⟩:=Ok.wh41 I μ h n t (by omega) hq.1;exact⟨r,(yZ ho).trans hr,hr2⟩
theorem zQ:wI 0:=by unfold wI;omega
theorem zOa{n:Int}(h0:-1000000<=n)(h1:n<=1000000): wI n:=by unfold wI;omega
variable{k:Int}{t:zA}{i:Int}{f:zC}
theorem xX{n tr d:Int}{sk u:Int}{l:zH}{gs:List zH}{l2:zH}{a b pl mk x y:Int}(hn:wI n)(htr:wI tr)(hd:wI d)(ht:t.length<=100000)(hi:wI i)(hg:gs.length<=50000)(ha:wI a)(hb:wI b)(hp:wI pl)(hx:wI x)(hy:wI y)(hf:wO f<=5000): EvB (k,n,tr,d,t,(sk,u,i,l,gs),l2,(a,b),(pl,mk,x,y),f):=
 ⟨hn,htr,hd,ht,hi,hg,ha,hb,hp,hx,hy,hf⟩
section
variable {r:zA}{e b:Bool}{ev:qB}(hr:r.length<=5000)
include hr
theorem z1h:(vH 32 r).1.length<=5000/\(vH 32 r).2.1.length<=5000:=by
 have:=congrArg List.length (zR4 32 r);cases hc:(vH 32 r).2.2 with
 | true=>
  grind
 | false=>
  rw[zSn 32 r hc];grind
theorem okX:Ok (zBA (r,e,b,ev)) λz=>z.1.length<=5000/\z.2.1.length<=5000:=
 ⟨_,zXy (by omega),z1h hr⟩
theorem okN:Ok (tB (r,e,b,ev)) λz=>wI z.1/\z.2.1.length<=5000:=by
 obtain⟨v,h,_,hb⟩:=zUb (r:=r) (e:=e) (b:=b) (ev:=ev) (by omega);exact⟨_,h,hb,(z1h hr).2⟩
theorem okL:Ok (zAb (r,e,b,ev)) λz=>z.2.1.length<=5000:=
 ⟨_,z1q (by omega),(z1h hr).2⟩
theorem okA:Ok (zCO (r,e,b,ev)) λz=>z.1.length<=5000/\z.2.1.length<=5000:=by
 unfold zCO;refine⟨(r,[],Aj,b||e),?_,hr,by simp⟩;grind
theorem okT1: Ok (zDR (r,e,b,ev) k) λz=>z.2.2.2.2.length<=5000:=by
 exact(okA hr).bind λz hz=>.ret hz.1
theorem okF1:Ok (zCg (r,e,b,ev)) λz=>wO (fm (z.2.2.2.1,z.2.2.2.2.1,z.2.2.2.2.2))<=5000:=by
 refine(okA hr).bind λz hz=>?_;obtain⟨g,o,o',c2,q1,q2,q3,q4⟩:=zMN z.1;have hg:wO g<=5000:=by
  by_cases hc:c2=0
  ·grind
  ·rw[(q4 hc).1];exact yL
 rw[q1,zob];refine Ok.bind (I:=λ_=>True) (.ite (λ_=>.ret trivial) λ_=>.ret trivial) λs _=>.ret ?_;obtain⟨op,w,ls⟩:=g;exact hg
theorem okM: Ok (zBG (r,e,b,ev) k) λz=>wI z.2.2.2.2.1/\wI z.2.2.2.2.2.1/\wI z.2.2.2.2.2.2.2.1/\wI z.2.2.2.2.2.2.2.2:=by
 refine(okN hr).bind λz1 h1=>(okN h1.2).bind λz2 h2=>Ok.bind (I:=λs=>wI s.2.2.2/\s.1.length<=5000) (.ite (λ_=>(okN h2.2).bind λz3 h3=>.ret ⟨h3.1,h3.2⟩) λ_=>.ret ⟨zQ,h2.2⟩) λs hs=>.ite (λ_=>(okN hs.2).bind λz4 h4=>.ret ⟨h1.1,h2.1,hs.1,h4.1⟩) λ_=>.ret ⟨h1.1,h2.1,hs.1,zQ⟩
theorem okC: Ok (zBI (r,e,b,ev) k) λz=>wI z.2.2.2.2.1/\wO (fm (z.2.2.2.2.2.1,z.2.2.2.2.2.2.1,z.2.2.2.2.2.2.2))<=5000:=by
 exact(okN hr).bind λz1 h1=>(okF1 h1.2).bind λz2 h2=>.ret ⟨h1.1,h2⟩
theorem okS(hg:ev.2.2.2.2.2.1.2.2.2.2=[])(hi:wI ev.2.2.2.2.2.1.2.2.1): Ok (zAS (r,e,b,ev) k) λz=>wI z.2.2.2.2.2.1/\z.2.2.2.2.2.2.2.2.length<=50000:=by
 unfold zAS;refine Ok.bind (I:=λs=>wI s.2.2.2/\s.1.length<=5000) (.ite (λ_=>(okN hr).bind λz3 h3=>.ret ⟨h3.1,h3.2⟩) λ_=>.ret ⟨hi,hr⟩) λs hs=>(okL hs.2).bind λz2 h2=>?_;refine .ite (λ_=>.ret ⟨hs.1,by grind⟩) λ_=>?_;refine Ok.bind (I:=λs2=>s2.1.length<=5000) (.ite (λ_=>.ret h2) λ_=>(okX h2).bind λz3 h3=>.ret h3.2) λs2 hs2=>?_;refine Ok.wh41 (λs3:zA×Bool×Bool×List zH=>s3.1.length<=5000/\(if s3.2.1 then s3.2.2.2.length<=6001 else s3.1.length+s3.2.2.2.length<=6000)) (λs3=>if s3.2.1 then 0 else s3.1.length+1) (λs3 h3=>?_) _ _ (Qd _) ?_
 ·refine .ite (λhc=>?_) λ_=>.ret ⟨hs.1,?_⟩
  ·rw[Qc] at hc;have hne:s3.2.1=false:=by simpa using hc.1
   rw[hne] at h3;simp at h3;rw[z1q (by omega)];have happ:qG s3.2.2.2 [(zE3 (vH 32 s3.1).1).1]=Ah (s3.2.2.2++[(zE3 (vH 32 s3.1).1).1]):=yI (by simp;omega);refine⟨.inl ((vH 32 s3.1).2.1,!(vH 32 s3.1).2.2,(s3.2.2.1||s3.2.1)||(zE3 (vH 32 s3.1).1).2 != 0,s3.2.2.2++[(zE3 (vH 32 s3.1).1).1]),?_,?_⟩
   ·grind
   ·have hl:=z1h (r:=s3.1) h3.1;cases hcut:(vH 32 s3.1).2.2 with
    | true=>
     have:=z6M 32 hcut;grind
    | false=>
     grind
  grind
 grind
end
end
section
theorem ok3{c a b:Bool}{l:List zH}{m:List zC}: Ok (if c=Aj then Ah (a,l,m) else Ah (b,l,m)) λs=>s.2.1=l/\s.2.2=m:=.ite (λ_=>.ret ⟨rfl,rfl⟩) λ_=>.ret ⟨rfl,rfl⟩
theorem z9h{s:zA}(hs:s.length<=5000): Ok (yW s) λz=>EvB z.1:=by
 unfold yW zAC;rw[zob];refine(okX hs).bind λr2 h2=>?_;refine .ite (λ_=>?_) λ_=>?_
 ·refine(okN h2.2).bind λr3 h3=>?_;have hR:Ok (zCV (r3.2.1,r3.2.2.1,r3.2.2.2,(0,r3.1,0,0,[],(0,0,0,(Ak,[]),[]),(Ak,[]),(0,0),(0,0,0,0),fm (0,[],[])))) λz=>z.2.2.2.2.length<=5000:=by
   unfold zCV;exact(okT1 h3.2).bind λz hz=>.ret hz
  exact hR.bind λr4 h4=>Ok.bind ok3 λ⟨_,_,_⟩ ⟨e,e2⟩=>by cases e;cases e2;exact .ret (xX h3.1 zQ zQ (Qw h4 (by omega)) zQ (by simp) zQ zQ zQ zQ zQ yL)
 refine .ite (λ_=>?_) λ_=>?_
 ·refine(okN h2.2).bind λr3 h3=>?_;have hR:Ok (zCW (r3.2.1,r3.2.2.1,r3.2.2.2,(0,r3.1,0,0,[],(0,0,0,(Ak,[]),[]),(Ak,[]),(0,0),(0,0,0,0),fm (0,[],[])))) λz=>z.2.2.2.2.length<=5000:=by
   unfold zCW;exact(okT1 h3.2).bind λz hz=>.ret hz
  exact hR.bind λr4 h4=>Ok.bind ok3 λ⟨_,_,_⟩ ⟨e,e2⟩=>by cases e;cases e2;exact .ret (xX h3.1 zQ zQ (Qw h4 (by omega)) zQ (by simp) zQ zQ zQ zQ zQ yL)
 refine .ite (λ_=>?_) λ_=>?_
 ·refine(okN h2.2).bind λr3 h3=>?_;have hR:Ok (zCU (r3.2.1,r3.2.2.1,r3.2.2.2,(0,r3.1,0,0,[],(0,0,0,(Ak,[]),[]),(Ak,[]),(0,0),(0,0,0,0),fm (0,[],[])))) λ_=>True:=by
   unfold zCU;exact .ret trivial
  exact hR.bind λr4 h4=>Ok.bind ok3 λ⟨_,_,_⟩ ⟨e,e2⟩=>by cases e;cases e2;exact .ret (xX h3.1 zQ zQ (by simp) zQ (by simp) zQ zQ zQ zQ zQ yL)
 refine .ite (λ_=>?_) λ_=>?_
 ·refine(okN h2.2).bind λr3 h3=>?_;have hR:Ok (zBa (r3.2.1,r3.2.2.1,r3.2.2.2,(0,r3.1,0,0,[],(0,0,0,(Ak,[]),[]),(Ak,[]),(0,0),(0,0,0,0),fm (0,[],[])))) λz=>wI z.2.2.2.2.2.1/\z.2.2.2.2.2.2.2.2.length<=50000:=by
   unfold zBa;exact(okS h3.2 rfl zQ).bind λz hz=>.ret hz
  exact hR.bind λr4 h4=>Ok.bind ok3 λ⟨_,_,_⟩ ⟨e,e2⟩=>by cases e;cases e2;exact .ret (xX h3.1 zQ zQ (by simp) h4.1 h4.2 zQ zQ zQ zQ zQ yL)
 refine .ite (λ_=>?_) λ_=>?_
 ·refine(okN h2.2).bind λr3 h3=>?_;have hR:Ok (zBT (r3.2.1,r3.2.2.1,r3.2.2.2,(0,r3.1,0,0,[],(0,0,0,(Ak,[]),[]),(Ak,[]),(0,0),(0,0,0,0),fm (0,[],[])))) λz=>wI z.2.2.2.2.2.1/\z.2.2.2.2.2.2.2.2.length<=50000:=by
   unfold zBT;exact(okS h3.2 rfl zQ).bind λz hz=>.ret hz
  exact hR.bind λr4 h4=>Ok.bind ok3 λ⟨_,_,_⟩ ⟨e,e2⟩=>by cases e;cases e2;exact .ret (xX h3.1 zQ zQ (by simp) h4.1 h4.2 zQ zQ zQ zQ zQ yL)
 refine .ite (λ_=>?_) λ_=>?_
 ·refine(okN h2.2).bind λr3 h3=>?_;have hR:Ok (zBf (r3.2.1,r3.2.2.1,r3.2.2.2,(0,r3.1,0,0,[],(0,0,0,(Ak,[]),[]),(Ak,[]),(0,0),(0,0,0,0),fm (0,[],[])))) λz=>wI z.2.2.2.2.2.1/\z.2.2.2.2.2.2.2.2.length<=50000:=by
   unfold zBf;exact(okS h3.2 rfl zQ).bind λz hz=>.ret hz
  exact hR.bind λr4 h4=>Ok.bind ok3 λ⟨_,_,_⟩ ⟨e,e2⟩=>by cases e;cases e2;exact .ret (xX h3.1 zQ zQ (by simp) h4.1 h4.2 zQ zQ zQ zQ zQ yL)
 refine .ite (λ_=>?_) λ_=>?_
 ·refine(okN h2.2).bind λr3 h3=>?_;have hR:Ok (zBb (r3.2.1,r3.2.2.1,r3.2.2.2,(0,r3.1,0,0,[],(0,0,0,(Ak,[]),[]),(Ak,[]),(0,0),(0,0,0,0),fm (0,[],[])))) λz=>wI z.2.2.2.2.2.1/\z.2.2.2.2.2.2.2.2.length<=50000:=by
   unfold zBb;exact(okS h3.2 rfl zQ).bind λz hz=>.ret hz
  exact hR.bind λr4 h4=>Ok.bind ok3 λ⟨_,_,_⟩ ⟨e,e2⟩=>by cases e;cases e2;exact .ret (xX h3.1 zQ zQ (by simp) h4.1 h4.2 zQ zQ zQ zQ zQ yL)
 refine .ite (λ_=>?_) λ_=>?_
 ·refine(okN h2.2).bind λr3 h3=>?_;have hR:Ok (zBc (r3.2.1,r3.2.2.1,r3.2.2.2,(0,r3.1,0,0,[],(0,0,0,(Ak,[]),[]),(Ak,[]),(0,0),(0,0,0,0),fm (0,[],[])))) λz=>wI z.2.2.2.2.2.1/\z.2.2.2.2.2.2.2.2.length<=50000:=by
   unfold zBc;exact(okS h3.2 rfl zQ).bind λz hz=>.ret hz
  exact hR.bind λr4 h4=>Ok.bind ok3 λ⟨_,_,_⟩ ⟨e,e2⟩=>by cases e;cases e2;exact .ret (xX h3.1 zQ zQ (by simp) h4.1 h4.2 zQ zQ zQ zQ zQ yL)
 refine .ite (λ_=>?_) λ_=>?_
 ·refine(okN h2.2).bind λr3 h3=>?_;have hR:Ok (zBh (r3.2.1,r3.2.2.1,r3.2.2.2,(0,r3.1,0,0,[],(0,0,0,(Ak,[]),[]),(Ak,[]),(0,0),(0,0,0,0),fm (0,[],[])))) λz=>wI z.2.2.2.2.2.2.1/\wI z.2.2.2.2.2.2.2:=by
   unfold zBh;exact(okL h3.2).bind λz1 k1=>(okN k1).bind λz2 k2=>(okN k2.2).bind λz3 k3=>.ret ⟨k2.1,k3.1⟩
  exact hR.bind λr4 h4=>Ok.bind ok3 λ⟨_,_,_⟩ ⟨e,e2⟩=>by cases e;cases e2;exact .ret (xX h3.1 zQ zQ (by simp) zQ (by simp) h4.1 h4.2 zQ zQ zQ yL)
 refine .ite (λ_=>?_) λ_=>?_
 ·refine(okN h2.2).bind λr3 h3=>?_;have hR:Ok (zB0 (r3.2.1,r3.2.2.1,r3.2.2.2,(0,r3.1,0,0,[],(0,0,0,(Ak,[]),[]),(Ak,[]),(0,0),(0,0,0,0),fm (0,[],[])))) λz=>wI z.2.2.2.2.1/\wI z.2.2.2.2.2.1/\wI z.2.2.2.2.2.2.2.1/\wI z.2.2.2.2.2.2.2.2:=by
   unfold zB0;exact(okM h3.2).bind λz hz=>.ret hz
  exact hR.bind λr4 h4=>Ok.bind ok3 λ⟨_,_,_⟩ ⟨e,e2⟩=>by cases e;cases e2;exact .ret (xX h3.1 h4.1 zQ (by simp) zQ (by simp) zQ zQ h4.2.1 h4.2.2.1 h4.2.2.2 yL)
 refine .ite (λ_=>?_) λ_=>?_
 ·refine(okN h2.2).bind λr3 h3=>?_;have hR:Ok (zBY (r3.2.1,r3.2.2.1,r3.2.2.2,(0,r3.1,0,0,[],(0,0,0,(Ak,[]),[]),(Ak,[]),(0,0),(0,0,0,0),fm (0,[],[])))) λz=>wI z.2.2.2.2.1/\wI z.2.2.2.2.2.1/\wI z.2.2.2.2.2.2.2.1/\wI z.2.2.2.2.2.2.2.2:=by
   unfold zBY;exact(okM h3.2).bind λz hz=>.ret hz
  exact hR.bind λr4 h4=>Ok.bind ok3 λ⟨_,_,_⟩ ⟨e,e2⟩=>by cases e;cases e2;exact .ret (xX h3.1 h4.1 zQ (by simp) zQ (by simp) zQ zQ h4.2.1 h4.2.2.1 h4.2.2.2 yL)
 refine .ite (λ_=>?_) λ_=>?_
 ·refine(okN h2.2).bind λr3 h3=>?_;have hR:Ok (zB3 (r3.2.1,r3.2.2.1,r3.2.2.2,(0,r3.1,0,0,[],(0,0,0,(Ak,[]),[]),(Ak,[]),(0,0),(0,0,0,0),fm (0,[],[])))) λz=>wI z.2.2.2.2.1/\wI z.2.2.2.2.2.1/\wI z.2.2.2.2.2.2.2.1/\wI z.2.2.2.2.2.2.2.2:=by
   unfold zB3;exact(okM h3.2).bind λz hz=>.ret hz
  exact hR.bind λr4 h4=>Ok.bind ok3 λ⟨_,_,_⟩ ⟨e,e2⟩=>by cases e;cases e2;exact .ret (xX h3.1 h4.1 zQ (by simp) zQ (by simp) zQ zQ h4.2.1 h4.2.2.1 h4.2.2.2 yL)
 refine .ite (λ_=>?_) λ_=>?_
 ·refine(okN h2.2).bind λr3 h3=>?_;have hR:Ok (zBZ (r3.2.1,r3.2.2.1,r3.2.2.2,(0,r3.1,0,0,[],(0,0,0,(Ak,[]),[]),(Ak,[]),(0,0),(0,0,0,0),fm (0,[],[])))) λz=>wI z.2.2.2.2.1:=by
   unfold zBZ;exact(okN h3.2).bind λz1 k1=>(okL k1.2).bind λz2 _=>.ret k1.1
  exact hR.bind λr4 h4=>Ok.bind ok3 λ⟨_,_,_⟩ ⟨e,e2⟩=>by cases e;cases e2;exact .ret (xX h3.1 zQ h4 (by simp) zQ (by simp) zQ zQ zQ zQ zQ yL)
 refine .ite (λ_=>?_) λ_=>?_
 ·refine(okN h2.2).bind λr3 h3=>?_;have hR:Ok (zB4 (r3.2.1,r3.2.2.1,r3.2.2.2,(0,r3.1,0,0,[],(0,0,0,(Ak,[]),[]),(Ak,[]),(0,0),(0,0,0,0),fm (0,[],[])))) λz=>wI z.2.2.2.2.1/\wO (fm (z.2.2.2.2.2.1,z.2.2.2.2.2.2.1,z.2.2.2.2.2.2.2))<=5000:=by
   unfold zB4;exact(okC h3.2).bind λz hz=>.ret hz
  exact hR.bind λr4 h4=>Ok.bind ok3 λ⟨_,_,_⟩ ⟨e,e2⟩=>by cases e;cases e2;exact .ret (xX h3.1 zQ h4.1 (by simp) zQ (by simp) zQ zQ zQ zQ zQ h4.2)
 refine .ite (λ_=>?_) λ_=>?_
 ·refine(okN h2.2).bind λr3 h3=>?_;have hR:Ok (zB2 (r3.2.1,r3.2.2.1,r3.2.2.2,(0,r3.1,0,0,[],(0,0,0,(Ak,[]),[]),(Ak,[]),(0,0),(0,0,0,0),fm (0,[],[])))) λz=>wI z.2.2.2.2.1/\wO (fm (z.2.2.2.2.2.1,z.2.2.2.2.2.2.1,z.2.2.2.2.2.2.2))<=5000:=by
   unfold zB2;exact(okC h3.2).bind λz hz=>.ret hz
  exact hR.bind λr4 h4=>Ok.bind ok3 λ⟨_,_,_⟩ ⟨e,e2⟩=>by cases e;cases e2;exact .ret (xX h3.1 zQ h4.1 (by simp) zQ (by simp) zQ zQ zQ zQ zQ h4.2)
 refine .ite (λ_=>?_) λ_=>?_
 ·refine(okN h2.2).bind λr3 h3=>?_;have hR:Ok (zB1 (r3.2.1,r3.2.2.1,r3.2.2.2,(0,r3.1,0,0,[],(0,0,0,(Ak,[]),[]),(Ak,[]),(0,0),(0,0,0,0),fm (0,[],[])))) λz=>wI z.2.2.2.2.1/\wO (fm (z.2.2.2.2.2.1,z.2.2.2.2.2.2.1,z.2.2.2.2.2.2.2))<=5000:=by
   unfold zB1;exact(okC h3.2).bind λz hz=>.ret hz
  exact hR.bind λr4 h4=>Ok.bind ok3 λ⟨_,_,_⟩ ⟨e,e2⟩=>by cases e;cases e2;exact .ret (xX h3.1 zQ h4.1 (by simp) zQ (by simp) zQ zQ zQ zQ zQ h4.2)
 grind [xX,zQ,yL,Ok]
theorem zNv{w:zA}(hw:w.length<=5000): Ok (zAy w) wI:=by
 rw[num41 hw];refine .ret ?_;cases h:zYG w with
 | none=>grind [wI]
 | some v=>
  obtain⟨h0,h1,_⟩:=z6F h;grind [wI]
theorem z6z{l:List zA}(h:∀ w∈l,w.length<=5000)(i:Nat): (l.getD i []).length<=5000:=by grind
theorem z4H{l:List zA}(h:∀ w∈l,w.length<=5000)(i:Nat): Ok (tJ l (i:Int)) λw=>w.length<=5000:=⟨_,z2m l i,z6z h i⟩
theorem zJ7{l:List zA}(hne:l≠[]): Ok (zD l 0) λ_=>True:=by
 cases l with
 | nil=>grind
 | cons w l=>exact⟨w,z0l w l,trivial⟩
theorem z13 (w:zA): Ok (zBN w) λ_=>True:=⟨_,zUT w,trivial⟩
theorem ok_sk (w:zA): Ok (zA0 w) λ_=>True:=by
 repeat' (first | exact .ret trivial | refine .ite (λ_=>?_) λ_=>?_)
theorem ok_mk (w:zA): Ok (zBi w) λ_=>True:=by
 repeat' (first | exact .ret trivial | refine .ite (λ_=>?_) λ_=>?_)
theorem ok_fk (w:zA): Ok (zCu w) λ_=>True:=by
 repeat' (first | exact .ret trivial | refine .ite (λ_=>?_) λ_=>?_)
theorem zXM:∀(k:Nat) (s:zA),(rst k s).length<=s.length
 | _,[]=>by simp[rst]
 | k,c::r=>by
  have h1:=zXM (k-1) r;have h2:=zXM k r;grind [rst]
abbrev T20:=Int×Int×Int×zA×Int×Int×Bool×zA×(List zH)×Bool×zA×Int×Int×Int×Int×Int×Int×Int×zA×(List zC)
abbrev z93 (n:Int)(s:T20): qB:=(s.1,n,s.2.1,s.2.2.1,s.2.2.2.1,(s.2.2.2.2.1,0,s.2.2.2.2.2.1,(s.2.2.2.2.2.2.1,s.2.2.2.2.2.2.2.1),s.2.2.2.2.2.2.2.2.1),(s.2.2.2.2.2.2.2.2.2.1,s.2.2.2.2.2.2.2.2.2.2.1),(s.2.2.2.2.2.2.2.2.2.2.2.1,s.2.2.2.2.2.2.2.2.2.2.2.2.1),(s.2.2.2.2.2.2.2.2.2.2.2.2.2.1,s.2.2.2.2.2.2.2.2.2.2.2.2.2.2.1,s.2.2.2.2.2.2.2.2.2.2.2.2.2.2.2.1,s.2.2.2.2.2.2.2.2.2.2.2.2.2.2.2.2.1),fm (s.2.2.2.2.2.2.2.2.2.2.2.2.2.2.2.2.2.1,s.2.2.2.2.2.2.2.2.2.2.2.2.2.2.2.2.2.2.1,s.2.2.2.2.2.2.2.2.2.2.2.2.2.2.2.2.2.2.2))
variable{ws:List zA}{k:Int}
theorem z9K(hl:ws.length<=6000){s2:Int×Int}(hs:wI s2.2){r11:zH×Int}{n:Int}(hn:wI n): Ok (zN (zEq ws k s2 r11) (4,[])) λs=>EvB (z93 n s):=by
 refine Ok.wh41 (λs:Int×List zH=>∃ j:Nat,s.1=(j:Int)/\j<=6004/\s.2.length+4=j) (λs=>(7000-s.1).toNat) (λs h=>?_) _ _ (Qd _) ⟨4,rfl,by omega,rfl⟩;obtain⟨j,h1,h2,h3⟩:=h;obtain⟨i,acc⟩:=s;refine .ite (λhc=>?_) λ_=>.ret (xX hn zQ zQ (by simp) hs (by grind) zQ zQ zQ zQ zQ yL);rw[Qc,Qb] at hc;have hj:j<ws.length:=by have:=hc.1;simp only[len] at this;omega
 refine(Ok.idx (by omega) (by grind)).bind λw _=>(z13 w).bind λz _=>?_;refine⟨.inl (((j+1:Nat):Int),acc++[z.1]),?_,⟨j+1,rfl,by omega,by simp;omega⟩,?_⟩
 ·grind [yI,wE]
 grind
theorem z6t{s:zA}(hs:s.length<=5000): Ok (uV s) EvB:=by
 have hw:∀ w∈xQ 32 s,w.length<=5000:=λw hw=>Qw (zUF 32 s w hw) hs;have hne:=zNW 32 s;have hlen:(xQ 32 s).length<=6000:=by
  have:=zNz 32 s;have:=List.count_le_length (l:=s) (a:=(32:UInt8));omega
 unfold uV;rw[zCQ hs,zob];have a1:Ok (tJ (xQ 32 s) 1) λw=>w.length<=5000:=z4H hw 1;have a2:Ok (tJ (xQ 32 s) 2) λw=>w.length<=5000:=z4H hw 2;have a3:Ok (tJ (xQ 32 s) 3) λw=>w.length<=5000:=z4H hw 3;have a4:Ok (tJ (xQ 32 s) 4) λw=>w.length<=5000:=z4H hw 4;have a5:Ok (tJ (xQ 32 s) 5) λw=>w.length<=5000:=z4H hw 5;refine a1.bind λr2 h2=>(zNv h2).bind λr3 h3=>Ok.bind (I:=λs=>EvB (z93 r3 s)) ?_ λs1 hs1=>.ret hs1;have zero:∀(k:Int),EvB (z93 r3 (k,0,0,[],0,0,Ak,[],[],Ak,[],0,0,0,0,0,0,0,[],[])):=λk=>xX h3 zQ zQ (by simp) zQ (by simp) zQ zQ zQ zQ zQ yL;refine(zJ7 hne).bind λx1 _=>.ite (λ_=>?_) λ_=>?_
 ·rw[z6v hs,zob];exact .ret (xX h3 zQ zQ (Qw (zXM 2 s) (by omega)) zQ (by simp) zQ zQ zQ zQ zQ yL)
 refine(zJ7 hne).bind λx2 _=>.ite (λ_=>?_) λ_=>?_
 ·rw[z6v hs,zob];exact .ret (xX h3 zQ zQ (Qw (zXM 2 s) (by omega)) zQ (by simp) zQ zQ zQ zQ zQ yL)
 refine(zJ7 hne).bind λx3 _=>.ite (λ_=>.ret (zero 3)) λ_=>?_;refine(zJ7 hne).bind λx4 _=>(ok_sk x4).bind λr6 _=>.ite (λ_=>?_) λ_=>?_
 ·refine(zJ7 hne).bind λx5 _=>(ok_sk x5).bind λr7 _=>Ok.bind (I:=λs2=>wI s2.2/\(s2.1=3\/s2.1=2)) (.ite (λ_=>a2.bind λr8 h8=>(zNv h8).bind λr9 h9=>.ret ⟨h9,.inl rfl⟩) λ_=>.ret ⟨zQ,.inr rfl⟩) λs2 h2'=>?_;have hat:Ok (tJ (xQ 32 s) s2.1) λw=>w.length<=5000:=by
   rcases h2'.2 with e | e <;> rw[e]
   ·exact a3
   ·exact a2
  exact hat.bind λr10 _=>(z13 r10).bind λr11 _=>z9K hlen h2'.1 h3
 refine(zJ7 hne).bind λx8 _=>.ite (λ_=>?_) λ_=>?_
 ·exact a3.bind λr13 h13=>(zNv h13).bind λr14 h14=>a4.bind λr15 h15=>(zNv h15).bind λr16 h16=>a2.bind λr17 _=>(z13 r17).bind λr18 _=>.ret (xX h3 zQ zQ (by simp) zQ (by simp) h14 h16 zQ zQ zQ yL)
 refine(zJ7 hne).bind λx9 _=>(ok_mk x9).bind λr19 _=>.ite (λ_=>?_) λ_=>?_
 ·refine a2.bind λr20 h20=>(zNv h20).bind λr21 h21=>(zJ7 hne).bind λx10 _=>a3.bind λr22 h22=>(zNv h22).bind λr23 h23=>(ok_mk x10).bind λr24 _=>.ite (λ_=>?_) λ_=>.ite (λ_=>?_) λ_=>?_
  ·exact a4.bind λr25 h25=>(zNv h25).bind λr26 h26=>a5.bind λr27 h27=>(zNv h27).bind λr28 h28=>.ret (xX h3 h21 zQ (by simp) zQ (by simp) zQ zQ h23 h26 h28 yL)
  ·exact a4.bind λr29 h29=>(zNv h29).bind λr30 h30=>.ret (xX h3 h21 zQ (by simp) zQ (by simp) zQ zQ h23 zQ h30 yL)
  ·exact .ret (xX h3 h21 zQ (by simp) zQ (by simp) zQ zQ h23 zQ zQ yL)
 refine(zJ7 hne).bind λx11 _=>.ite (λ_=>?_) λ_=>?_
 ·exact a2.bind λr31 h31=>(zNv h31).bind λr32 h32=>a3.bind λr33 _=>(z13 r33).bind λr34 _=>.ret (xX h3 zQ h32 (by simp) zQ (by simp) zQ zQ zQ zQ zQ yL)
 refine(zJ7 hne).bind λx12 _=>(ok_fk x12).bind λr35 _=>.ite (λ_=>?_) λ_=>.ret (zero 0);refine(zJ7 hne).bind λx13 _=>(ok_fk x13).bind λr36 _=>a2.bind λr37 h37=>(zNv h37).bind λr38 h38=>?_;rw[rest3 hs,zob];obtain⟨g,o,o',c2,q1,q2,q3,q4⟩:=zMN (rst 3 s);have hg:wO g<=5000:=by
  by_cases hc:c2=0
  ·grind
  ·rw[(q4 hc).1];exact yL
 rw[q2,zob];obtain⟨op,w,ls⟩:=g;exact .ret (xX h3 zQ h38 (by simp) zQ (by simp) zQ zQ zQ zQ zQ hg)
theorem z9D{s:zA}(hs:s.length<=5000): ∃ e c,zAN s=Ah (e,c)/\zFA s=Ah (e,c)/\EvB e:=by
 obtain⟨⟨e1,b1⟩,h1,v1⟩:=z9h hs;obtain⟨e2,h2,v2⟩:=z6t hs;obtain⟨s1,c1,p1,p2,_,p3⟩:=zHY v1;obtain⟨s2,c2,q1,q2,_,q3⟩:=zHY v2;have ev:EvB ev0:=xX zQ zQ zQ (by simp) zQ (by simp) zQ zQ zQ zQ zQ yL;dsimp only at p1 p2 p3 v1;have hP:zAN s=Ah (if b1=Aj/\c1=0/\s1=s then(e1,0) else(ev0,3)):=by
  unfold zAN;rw[h1,zob];dsimp only;cases b1 with
  | false=>rfl
  | true=>
   grind
 have hR:zFA s=Ah (if c2=0/\s2=s then(e2,0) else(ev0,3)):=by
  unfold zFA;rw[h2,zob,q2,zob];dsimp only;by_cases hc:c2=0
  ·grind
  ·simp[hc]
 by_cases hA:b1=Aj/\c1=0/\s1=s
 ·grind
 grind
end
section
theorem zXW:∀(a b:List zC),yC (a++b)=yC a+yC b
 | [],b=>by simp[yC]
 | x::a,b=>by rw[Q1,yC,yC,zXW a b];omega
section
variable {s:vN}{n:Int}(n0:1<=n)(n1:n<=1000)
include n0 n1
theorem drawF (d:Nat)(hd:d<=3): ∀ j:Int,vC (s.1,j)->∃ r:zC×Int,(∀ k,d<k->zAu k (s.1,j) n (d:Int)=Ah r)/\wO r.1<=4 ^ (d+1)/\vC (s.1,r.2):=by
 induction d with
 | zero=>
  intro j hj;obtain⟨⟨u,j1⟩,e1,a1,b1,c1⟩:=Ok.N (n:=12) hj (by omega) (by omega);obtain⟨⟨v,j2⟩,e2,a2,b2,c2⟩:=Ok.N (n:=2) c1 (by omega) (by omega);obtain⟨⟨x,j3⟩,e3,a3,b3,c3⟩:=Ok.N (n:=n) c1 (by omega) (by omega);by_cases hu:u=0
  ·refine⟨(fm (zE (1+v),[],[]),j2),λk hk=>?_,?_,c2⟩
   ·obtain⟨k,rfl⟩:∃ i,k=i+1:=⟨k-1,by omega⟩;show zAq (zAu k) (s.1,j) n 0=_;unfold zAq;grind
   ·show wO (.mk (zE (1+v)) [] [])<=_;rw[wO,yC];decide
  ·refine⟨(fm (3,xV ([Au.u8.wrap (zE (97+x))]:List Int),[]),j3),λk hk=>?_,?_,c3⟩
   ·obtain⟨k,rfl⟩:∃ i,k=i+1:=⟨k-1,by omega⟩;show zAq (zAu k) (s.1,j) n 0=_;unfold zAq;grind
   ·show wO (.mk 3 _ [])<=_;rw[wO,yC];decide
 | succ d ih=>
  intro j hj;have hpow:4 ^ (d+1)*3+1<=4 ^ (d+1+1):=by
   have:1<=4 ^ (d+1):=Nat.pow_pos (by omega);rw[Nat.pow_succ 4 (d+1)];omega
  have hone:1<=4 ^ (d+1+1):=Nat.pow_pos (by omega);obtain⟨⟨u,j1⟩,e1,a1,b1,c1⟩:=Ok.N (n:=12) hj (by omega) (by omega);obtain⟨⟨v,j2⟩,e2,a2,b2,c2⟩:=Ok.N (n:=2) c1 (by omega) (by omega);obtain⟨⟨x,j3⟩,e3,a3,b3,c3⟩:=Ok.N (n:=n) c1 (by omega) (by omega);dsimp only at e2 e3 c2 c3 a1 b1 a2 b2;have hw:zE (((d+1:Nat):Int)-1)=(d:Int):=by rw[qN (by omega) (by omega)];omega
  have hlp:∀(m i:Nat) (j0 j:Int) (acc:List zC) (s1:Int×Int),s1.1=((i+m:Nat):Int)->i+m<=3->acc.length=i->vC (s.1,j)->yC acc<=4 ^ (d+1)*i->∃ z:Int×List zC,(∀ k,d<k->zN (zDI s1 (zAu k) (s.1,j0) n ((d+1:Nat):Int)) ((i:Int),j,acc)=Ah z)/\yC z.2<=4 ^ (d+1)*3/\vC (s.1,z.1):=by
   intro m;induction m with
   | zero=>
    intro i j0 j acc s1 h1 h2 h3 h4 h5;refine⟨(j,acc),λk hk=>vW ?_,Qw h5 (Nat.mul_le_mul_left _ (by omega)),h4⟩;unfold zDI;grind
   | succ m ihm=>
    intro i j0 j acc s1 h1 h2 h3 h4 h5;obtain⟨r,p1,p2,p3⟩:=ih (by omega) j h4;obtain⟨z,q1,q2,q3⟩:=ihm (i+1) j0 r.2 (acc++[r.1]) s1 (by grind) (by omega) (by simp[h3]) p3 (by rw[zXW,yC,yC,Nat.mul_succ];omega);refine⟨z,λk hk=>(yZ (t:=(((i+1:Nat):Int),r.2,acc++[r.1])) ?_).trans (q1 k hk),q2,q3⟩;unfold zDI;rw[Qi (by grind)];rw[hw,p1 k hk,zob,yI (by simp;omega),zob,wE i (by omega)]
  by_cases hu4:u<4
  ·by_cases hu:u=0
   ·refine⟨(fm (zE (1+v),[],[]),j2),λk hk=>?_,?_,c2⟩
    ·obtain⟨k,rfl⟩:∃ i,k=i+1:=⟨k-1,by omega⟩;show zAq (zAu k) (s.1,j) n ((d+1:Nat):Int)=_;unfold zAq;grind
    ·show wO (.mk (zE (1+v)) [] [])<=_;rw[wO,yC];omega
   ·refine⟨(fm (3,xV ([Au.u8.wrap (zE (97+x))]:List Int),[]),j3),λk hk=>?_,?_,c3⟩
    ·obtain⟨k,rfl⟩:∃ i,k=i+1:=⟨k-1,by omega⟩;show zAq (zAu k) (s.1,j) n ((d+1:Nat):Int)=_;unfold zAq;grind
    ·show wO (.mk 3 _ [])<=_;rw[wO,yC];omega
  ·
   have hu12:u<12:=b1 (by omega);have hidx:Ok (zD ([4,4,5,5,6,6,7,8]:List Int) (zE (u-4))) λ_=>True:=by
    rw[qN (by omega) (by omega)];exact(Ok.idx (by omega) (by grind)).imp λ_ _=>trivial
   obtain⟨op,eop,_⟩:=hidx;have hs1:Ok ((if op==4 then Ah (1,j1) else((if op==5 then Ah (op==5) else Ah (op==6)):Option Bool).bind λs2=>if s2 then(uI (s.1,j1) 2).bind λr4=>Ah (zE (2+r4.1),r4.2) else Ah (2,j1)):Option (Int×Int)) λz=>(∃ m:Nat,z.1=(m:Int)/\m<=3)/\vC (s.1,z.2):=by
    refine .ite (λ_=>.ret ⟨⟨1,rfl,by omega⟩,c1⟩) λ_=>Ok.bind (I:=λ_=>True) (.ite (λ_=>.ret trivial) λ_=>.ret trivial) λ_ _=>.ite (λ_=>?_) λ_=>.ret ⟨⟨2,rfl,by omega⟩,c1⟩;rw[e2,zob];have:=b2 (by omega);refine .ret ⟨⟨(2+v).toNat,?_,by omega⟩,c2⟩;dsimp only;rw[qN (by omega) (by omega)];omega
   obtain⟨z1,ez,⟨m,hm1,hm2⟩,hz⟩:=hs1;obtain⟨z,q1,q2,q3⟩:=hlp m 0 j z1.2 [] z1 (by grind) (by omega) rfl hz (by simp[yC]);refine⟨(fm (op,[],z.2),z.1),λk hk=>?_,?_,q3⟩
   ·obtain⟨k,rfl⟩:∃ i,k=i+1:=⟨k-1,by omega⟩;show zAq (zAu k) (s.1,j) n ((d+1:Nat):Int)=_;unfold zAq;grind
   ·show wO (.mk op [] z.2)<=_;grind [wO]
end
end
section
abbrev T21:=Int×Int×Int×zA×Int×Int×Int×Bool×zA×(List zH)×Bool×zA×Int×Int×Int×Int×Int×Int×Int×zA×(List zC)
abbrev evOf3 (k n:Int)(s:T21): qB:=(k,n,s.2.1,s.2.2.1,s.2.2.2.1,(s.2.2.2.2.1,s.2.2.2.2.2.1,s.2.2.2.2.2.2.1,(s.2.2.2.2.2.2.2.1,s.2.2.2.2.2.2.2.2.1),s.2.2.2.2.2.2.2.2.2.1),(s.2.2.2.2.2.2.2.2.2.2.1,s.2.2.2.2.2.2.2.2.2.2.2.1),(s.2.2.2.2.2.2.2.2.2.2.2.2.1,s.2.2.2.2.2.2.2.2.2.2.2.2.2.1),(s.2.2.2.2.2.2.2.2.2.2.2.2.2.2.1,s.2.2.2.2.2.2.2.2.2.2.2.2.2.2.2.1,s.2.2.2.2.2.2.2.2.2.2.2.2.2.2.2.2.1,s.2.2.2.2.2.2.2.2.2.2.2.2.2.2.2.2.2.1),fm (s.2.2.2.2.2.2.2.2.2.2.2.2.2.2.2.2.2.2.1,s.2.2.2.2.2.2.2.2.2.2.2.2.2.2.2.2.2.2.2.1,s.2.2.2.2.2.2.2.2.2.2.2.2.2.2.2.2.2.2.2.2))
theorem evB_f{e:qB}(h:EvB e): wO (fm ((fv e.2.2.2.2.2.2.2.2.2).1,(fv e.2.2.2.2.2.2.2.2.2).2.1,(fv e.2.2.2.2.2.2.2.2.2).2.2))<=5000:=by
 have:=h.f;generalize e.2.2.2.2.2.2.2.2.2=g at this;obtain⟨a,b,c⟩:=g;exact this
section
variable {s:vN}{y:yM}
theorem z96 (h:vC s){n:Int}(h1:n<=10): Ok (zG6 s (if n > 1 then n else 1) 3) λr=>wO r.1<=5000/\vC (s.1,r.2):=by
 have hn:1<=(if n > 1 then n else 1)/\(if n > 1 then n else 1)<=1000:=by split <;> omega
 obtain⟨j0,j⟩:=s;obtain⟨r,p1,p2,p3⟩:=drawF (s:=(j0,j)) hn.1 hn.2 3 (by omega) j h;refine⟨r,z0U 4 λk hk=>p1 k (by omega),Qw p2 (by decide),p3⟩
abbrev T20b:=Int×Int×zA×Int×Int×Int×Bool×zA×(List zH)×Bool×zA×Int×Int×Int×Int×Int×Int×Int×zA×(List zC)
abbrev evOf4 (k n:Int)(s:T20b): qB:=(k,n,s.1,s.2.1,s.2.2.1,(s.2.2.2.1,s.2.2.2.2.1,s.2.2.2.2.2.1,(s.2.2.2.2.2.2.1,s.2.2.2.2.2.2.2.1),s.2.2.2.2.2.2.2.2.1),(s.2.2.2.2.2.2.2.2.2.1,s.2.2.2.2.2.2.2.2.2.2.1),(s.2.2.2.2.2.2.2.2.2.2.2.1,s.2.2.2.2.2.2.2.2.2.2.2.2.1),(s.2.2.2.2.2.2.2.2.2.2.2.2.2.1,s.2.2.2.2.2.2.2.2.2.2.2.2.2.2.1,s.2.2.2.2.2.2.2.2.2.2.2.2.2.2.2.1,s.2.2.2.2.2.2.2.2.2.2.2.2.2.2.2.2.1),fm (s.2.2.2.2.2.2.2.2.2.2.2.2.2.2.2.2.2.1,s.2.2.2.2.2.2.2.2.2.2.2.2.2.2.2.2.2.2.1,s.2.2.2.2.2.2.2.2.2.2.2.2.2.2.2.2.2.2.2))
end
end
section
theorem z1V{e:qB}(h:EvB e): zDf e e=Ah true:=by
 have hg:=h.gs;rw[zQp h.f (by omega),z0b.2 rfl]
end
section
variable{ws:List zA}{T:zA}
theorem zWa{e:qB}(hk:1<=e.1/\e.1<=10)(hw:tC (e,[],Ak)=Ah (ws,Ak))(hj:zDL ws [32]=Ah T)(hr:yW T=Ah (e,Aj))(hn:wO e.2.2.2.2.2.2.2.2.2<=5000)(hg:e.2.2.2.2.2.1.2.2.2.2.length<=100000): zAz e=Ah (T,0)/\zAN T=Ah (e,0):=by
 have hb:(decide (e.1<1)||decide (10<e.1))=false:=by rw[Qp (by omega),Qp (by omega)];rfl
 have hL:zAz e=Ah (T,0):=by
  unfold zAz;rw[hb,Qa (by decide),hw,zob];dsimp only;rw[Qa (by decide),hj,zob,hr,zob];dsimp only;rw[QG,Qa (by decide),zPN hn hg,zob,z0b.2 rfl,zob];rfl
 unfold zAN;grind
def awA:qB:=z1d 0 (3,0,0,(Ak,[112]),[(Ak,[113]),(Aj,[114])])
def awD:qB:=(7,1,0,2,[],(0,0,0,(Ak,[]),[]),(Aj,[112]),(0,0),(0,0,0,0),fm (0,[],[]))
theorem it0:Lib.itoa 0=[48]:=by rw[show Lib.itoa 0=Lib.decDigits 0 from rfl,zEx (by decide)];rfl
theorem it1:Lib.itoa 1=[49]:=by rw[show Lib.itoa 1=Lib.decDigits 1 from rfl,zEx (by decide)];rfl
theorem it2:Lib.itoa 2=[50]:=by rw[show Lib.itoa 2=Lib.decDigits 2 from rfl,zEx (by decide)];rfl
theorem aw_A:zAN [97,114,103,117,101,32,48,32,112,32,98,101,99,97,117,115,101,32,113,32,126,114]=Ah (awA,0):=by
 have hE:EvB awA:=xX zQ zQ zQ (by simp) zQ (by simp) zQ zQ zQ zQ zQ yL;have hw:=w_arg hE rfl rfl;have hG:(!(wX awA.2.1&&(vName awA.2.2.2.2.2.1.2.2.2.1.2&&((decide (1<=awA.2.2.2.2.2.1.2.2.2.2.length)&&decide (awA.2.2.2.2.2.1.2.2.2.2.length<=6))&&awA.2.2.2.2.2.1.2.2.2.2.all λg=>vName g.2))))=false:=by decide
 rw[hG,show awA.2.1=0 from rfl,it0] at hw;have hr:=zZQ (n:=0) (by decide) (by decide) (l:=(Ak,[112])) (by decide) (gs:=[(Ak,[113]),(Aj,[114])]) (by simp) (by decide) (by decide);rw[it0] at hr;exact(zWa (by decide) hw (zJn (l:=[z0n,[48],qT (Ak,[112]),zZD]++[(Ak,[113]),(Aj,[114])].map qT) (by decide) (by decide)) hr hE.f (by decide)).2
theorem aw_D:zAz awD=Ah ([100,101,99,105,100,101,32,49,32,50,32,126,112],0)/\zAN [100,101,99,105,100,101,32,49,32,50,32,126,112]=Ah (awD,0):=by
 have hE:EvB awD:=xX (zOa (by decide) (by decide)) zQ (zOa (by decide) (by decide)) (by simp) zQ (by simp) zQ zQ zQ zQ zQ yL;have hw:=w_dec hE rfl;have hG:(!(wX awD.2.1&&(wX awD.2.2.2.1&&vName awD.2.2.2.2.2.2.1.2)))=false:=by decide
 rw[hG,show awD.2.1=1 from rfl,show awD.2.2.2.1=2 from rfl,it1,it2] at hw;have hr:=zYx (n:=1) (by decide) (by decide) (l:=(Aj,[112])) (by decide) (d:=2) (by decide) (by decide);rw[it1,it2] at hr;exact zWa (by decide) hw (zJn (l:=[z1o,[49],[50],qT (Aj,[112])]) (by decide) (by decide)) hr hE.f (by decide)
variable{f:zC}{t:zA}
theorem z94(hn:wO f<=5000)(h1:zAt f=Ah (t,0)): t=vE f/\vG f=Aj/\tO f=true:=by
 obtain⟨v1,_⟩:=zQb (zTt f (by omega));unfold zAt at h1;rw[v1,zob] at h1;by_cases hv:z2D f=0
 ·have hv':vG f=Aj/\tO f=true:=by
   unfold z2D at hv;split at hv
   ·grind
   ·cases hv
  have hlen:=zZf f hv'.2;have w:zD0 [] f=Ah (vE f):=((z60 f hv'.1 hn).imp λk e=>(e [] (by simp;omega)).trans (by grind)).lim;unfold zBU zAr at h1;grind
 grind
theorem z8Z:∀(g:zC),vG g=Aj->tO g=Aj->∀ r:zA,vE g=40::r->∃ op w x y l,g=.mk op w (x::y::l)/\(op=5\/op=6\/op=7\/op=8)/\vE g=Fo.par (decide (tV x<zNy op 0)) (vE x)++(zX8 op++(Fo.par (decide (tV y<zNy op 1)) (vE y)++txL op 2 l))
 | .mk op w [],h,hn,r,e=>by
  rw[zMX,Qc] at h;rw[tO,Qc] at hn;have hk:=zNo h.1;have:op=1\/op=2\/op=3:=by simp at hk;exact hk
  rw[vE,txL,QE] at e;rcases this with rfl | rfl | rfl
  ·cases e
  ·cases e
  ·have hv:=hn.1;have e2:w=40::r:=e;have:=(zYN hv).1 40 (by grind);cases this
 | .mk op w [x],h,hn,r,e=>by
  rw[zMX,Qc] at h;have hk:=zNo h.1;have:op=4:=by simp at hk;exact hk
  subst this;cases e
 | .mk op w (x::y::l),h,hn,r,e=>by
  rw[zMX,Qc] at h;have hk:=zNo h.1;have ho:op=5\/op=6\/op=7\/op=8:=by simp at hk;omega
  refine⟨op,w,x,y,l,rfl,ho,?_⟩;have hp:z2d op w=[]:=by rcases ho with rfl | rfl | rfl | rfl <;> rfl
  rw[vE,hp,QI,zMK,Qi rfl,QI,zMK,Qa (by decide)]
theorem no_pq{g:zC}(h:vG g=Aj)(hn:tO g=Aj): vE g≠[40,112,32,45,62,32,113,41]:=by
 intro e;obtain⟨op,w,x,y,l,rfl,ho,e2⟩:=z8Z g h hn _ e;rw[e] at e2;have hw:∀ c∈zX8 op,c∈([40,112,32,45,62,32,113,41]:zA):=λc hc=>by
  grind
 have h7:op=7:=by
  rcases ho with rfl | rfl | rfl | rfl
  ·exact absurd (hw 38 (by decide)) (by decide)
  ·exact absurd (hw 124 (by decide)) (by decide)
  ·rfl
  ·exact absurd (hw 60 (by decide)) (by decide)
 subst h7;rw[zMX,Qc,tW,Qc] at h;rw[tO,Qc,z2y,Qc] at hn;generalize hA:Fo.par (decide (tV x<zNy 7 0)) (vE x)=A at e2;generalize Fo.par (decide (tV y<zNy 7 1)) (vE y)++txL 7 2 l=B at e2;have e3:([40,112,32,45,62,32,113,41]:zA)=A++([32,45,62,32]++B):=e2;have hA2:A=[40,112]:=by
  match A,e3 with
  | [],e3=>simp at e3
  | [a],e3=>simp at e3
  | [a,b],e3=>grind
  | [a,b,c],e3=>simp at e3
  | [a,b,c,d],e3=>simp at e3
  | a::b::c::d::f::r,e3=>
   have:=congrArg List.length e3;simp at this;omega
 rw[hA2] at hA;cases hd:decide (tV x<zNy 7 0) with
 | true=>
  rw[hd] at hA;have h1:[40]++vE x++[41]=[40,112]:=hA;have h2:=congrArg List.reverse h1;simp at h2
 | false=>
  rw[hd] at hA;have h1:vE x=40::[112]:=hA;obtain⟨op2,w2,x2,y2,l2,rfl,ho2,e4⟩:=z8Z x h.2.1 hn.2.1 _ h1;rw[h1] at e4;have:(32:UInt8)∈([40,112]:zA):=by
   rw[e4];rcases ho2 with rfl | rfl | rfl | rfl <;> simp[zX8]
  grind
theorem aw_R:∃ e,zAN [114,101,118,105,115,101,32,48,32,49,32,40,112,32,45,62,32,113,41]=Ah (e,3):=by
 obtain⟨g,o,o',c2,q1,q2,q3,q4⟩:=zMN [40,112,32,45,62,32,113,41];have hg:wO g<=5000:=by
  by_cases hc:c2=0
  ·grind
  ·rw[(q4 hc).1];exact yL
 have hr:=z2T (n:=0) (by decide) (by decide) (k:=8) (.inl rfl) (d:=1) (by decide) (by decide) (t:=[40,112,32,45,62,32,113,41]) (by decide) q1;rw[it0,it1] at hr;have hr':yW [114,101,118,105,115,101,32,48,32,49,32,40,112,32,45,62,32,113,41]=_:=hr;unfold zAN;rw[hr',zob];dsimp only;cases hc:c2==0 with
 | false=>simp_all
 | true=>
  rw[QG,Qa (by decide)];have hE:EvB (8,0,0,1,[],(0,0,0,(Ak,[]),[]),(Ak,[]),(0,0),(0,0,0,0),g):=xX zQ zQ (zOa (by decide) (by decide)) (by simp) zQ (by simp) zQ zQ zQ zQ zQ hg;obtain⟨s,c,p1,_,_,_⟩:=zHY hE;rw[p1,zob];dsimp only;by_cases hc0:c=0
  ·by_cases hs:s=[114,101,118,105,115,101,32,48,32,49,32,40,112,32,45,62,32,113,41]
   ·exfalso;subst hc0;obtain⟨t,c',f1,_,f3,f4⟩:=zEJ hE.f;have hw:=w_ch hE (.inl rfl) f1 λe=>(f4 e).1;unfold zAz at p1;dsimp only at p1;rw[Qa (by simp),hw,zob] at p1;dsimp only at p1;split at p1
    ·grind
    ·rename_i hG;have hG2:c'=0:=by
      simp at hG;exact hG.2.2.1
     subst hG2;obtain⟨t1,t2,t3⟩:=z94 hg f1;rw[it0,it1,show kCh 8=z30 from rfl,zJn (l:=[z30,[48],[49],t]) (by simp) (by show(z30++32::([48]++32::([49]++32::t))).length<=_;simp[z30];omega),zob] at p1;cases hrd:yW (uN [z30,[48],[49],t]) with
     | none=>grind
     | some z=>
      rw[hrd,zob] at p1;have hjs:uN [z30,[48],[49],t]=s:=by
       revert p1;intro p1;obtain⟨b,hb,hb2⟩:=UP.1 p1;split at hb2
       ·grind
       ·grind
      rw[hs] at hjs;have ht:t=[40,112,32,45,62,32,113,41]:=by
       have h2:z30++32::([48]++32::([49]++32::t))=[114,101,118,105,115,101,32,48,32,49,32,40,112,32,45,62,32,113,41]:=hjs;simpa [z30] using h2
      grind [no_pq]
   simp_all
  simp_all
theorem z5L:zHC=Ah true:=by
 obtain⟨e,h3⟩:=aw_R;unfold zHC;rw[aw_A,zob,aw_D.2,zob,h3,zob];rw[aw_D.1,zob];rfl
end
section
theorem z5W{l:List zH}(hl:l.length<=1000): Ok (zIz l) λr=>r.length<=l.length:=by
 unfold zIz;refine Ok.forI (λi (s:List zH)=>(s,(i:Int))) l (λi s=>s.length<=i) _ (λi x s hx hs=>?_) (λs hs=>?_) [] (by simp)
 ·have hi:=yK hx;unfold zI3;dsimp only;rw[yY hx,Qi rfl,uB,hx,zob];refine Ok.bind (I:=λk:Int=>0<=k/\k<=s.length) ?_ λk hk=>Ok.bind (I:=λ_:Bool=>True) (.ite (λhc=>?_) λ_=>.ret trivial) λs5 _=>.ite (λ_=>.ret ⟨s,by rw[wE i (by omega)],by omega⟩) λ_=>?_
  ·refine Ok.wh41 (λt:Int=>0<=t/\t<=s.length) (λt=>((s.length:Int)-t).toNat) (λt ht=>?_) _ _ (Qd _) ⟨Ql 0,by omega⟩;unfold zM4;refine Ok.bind (I:=λb:Bool=>b=Aj->t<s.length) (.ite (λhc=>?_) λ_=>.ret nofun) λb hb=>.ite (λe=>?_) λ_=>.ret ht
   ·rw[Qb] at hc;simp only[len] at hc;exact(Ok.idx ht.1 hc).bind λx2 _=>.ite (λ_=>.ret λ_=>hc) λ_=>(Ok.idx ht.1 hc).bind λx3 _=>.ite (λ_=>(Ok.idx ht.1 hc).bind λx4 _=>.ite (λ_=>.ret λ_=>hc) λ_=>.ret nofun) λ_=>.ret nofun
   ·have:=hb e;rw[qN (show -9223372036854775808<=t+1 by omega) (by omega)];exact .ret (by dsimp only;omega)
  ·rw[Qb] at hc;simp only[len] at hc;exact(Ok.idx hk.1 hc).bind λ_ _=>.ret trivial
  ·rw[yI (by simp;omega),zob,qN (show -9223372036854775808<=k+1 by omega) (by omega)];have e1:chk (decide (0<=k+1)&&decide (k+1<=len (s++[((Ak,[]):zH)])))=Ah ():=by simp[chk,len];omega
   have e2:chk (decide (0<=k)&&decide (k<=len (s++[((Ak,[]):zH)])))=Ah ():=by simp[chk,len];omega
   rw[e1,e2];simp only[zob];refine(Ok.idx hk.1 (by rw[zIy];simp;omega)).bind λ_ _=>.ret ⟨_,by rw[wE i (by omega)],?_⟩;dsimp only;rw[Ug,zIy];simp;omega
 ·unfold zI3;dsimp only;rw[uW];exact .ret hs
theorem z5P{s:vN}(h:vC s){n p q:Int}(h1:1<=n)(h2:n<=26)(hp:0<=p)(hp2:p<=16)(hq:1<=q)(hq2:q<=24):
  Ok (zEi s n p q) λr=>(r.1.1.length:Int)<=p/\(r.1.2.1.length:Int)<=q/\r.1.2.2.length<=2/\(∀ x∈r.1.2.1,x.2.2.2.1.length<=2)/\vC (s.1,r.2):=by
 unfold zEi;rw[qN (show -9223372036854775808<=p+1 by omega) (by omega),qN (show -9223372036854775808<=q+1 by omega) (by omega)];refine Ok.bind (I:=λt:Int×List wK=>(t.2.length:Int)<=p/\vC (s.1,t.1)) ((Ok.N h (by omega) (by omega)).bind λr1 hr1=>?_) λs1 hs1=>Ok.bind (I:=λt:Int×List wC=>(t.2.length:Int)<=q/\(∀ x∈t.2,x.2.2.2.1.length<=2)/\vC (s.1,t.1)) ((Ok.N hs1.2 (by omega) (by omega)).bind λr6 hr6=>?_) λs6 hs6=>Ok.bind (I:=λt:Int×List wW=>t.2.length<=2/\vC (s.1,t.1)) ((Ok.N hs6.2.2 (by omega) (by omega)).bind λr17 hr17=>?_) λs10 hs10=>.ret ⟨hs1.1,hs6.1,hs10.1,hs6.2.1,hs10.2⟩
 ·have hb:=hr1.2.1 (by omega);refine Ok.wh41 (λt:Int×Int×List wK=>(t.2.2.length:Int)+t.1<=p/\0<=t.1/\vC (s.1,t.2.1)) (λt=>t.1.toNat) (λt ht=>?_) _ _ (Qd _) ⟨by simp;omega,hr1.1,hr1.2.2⟩;obtain⟨a1,a2,a3⟩:=ht;unfold zKS;refine .ite (λhc=>?_) λ_=>.ret ⟨by dsimp only;omega,a3⟩;rw[Qb] at hc;rw[qN (show -9223372036854775808<=t.1-1 by omega) (by omega)];refine(Ok.Literal a3 h1 h2).bind λr2 g2=>(Ok.Pick g2.2 (by simp) (by simp)).bind λr3 g3=>(Ok.Text g3.2 (by simp) (by simp)).bind λr4 g4=>Ok.bind (I:=λu:Int×Int=>vC (s.1,u.1)) (.ite (λ_=>(Ok.N g4.2 (by omega) (by omega)).bind λr5 g5=>.ret g5.2.2) λ_=>.ret g4.2) λs3 g=>Ok.bind (I:=λ_:Bool=>True) ?_ λs4 _=>.ite (λ_=>?_) λ_=>.ret ⟨⟨by dsimp only;omega,by dsimp only;omega,g⟩,by dsimp only;omega⟩
  ·refine Ok.wh41 (λv:Bool×Int=>0<=v.2/\v.2<=t.2.2.length) (λv=>((t.2.2.length:Int)-v.2).toNat) (λv hv=>?_) _ _ (Qd _) ⟨Ql 0,by dsimp only;omega⟩;unfold zKk;refine .ite (λhd=>?_) λ_=>.ret trivial;rw[Qb] at hd;simp only[len] at hd;rw[qN (show -9223372036854775808<=v.2+1 by omega) (by omega)];exact(Ok.idx hv.1 hd).bind λ_ _=>.ret ⟨⟨by dsimp only;omega,by dsimp only;omega⟩,by dsimp only;omega⟩
  ·rw[yI (by simp;omega),zob];exact .ret ⟨⟨by simp;omega,by dsimp only;omega,g⟩,by dsimp only;omega⟩
 ·have hb:=hr6.2.1 (by omega);refine Ok.wh41 (λt:Int×Int×List wC=>(t.2.2.length:Int)+t.1<=q/\0<=t.1/\vC (s.1,t.2.1)/\∀ x∈t.2.2,x.2.2.2.1.length<=2) (λt=>t.1.toNat) (λt ht=>?_) _ _ (Qd _) ⟨by simp;omega,hr6.1,hr6.2.2,by simp⟩;obtain⟨a1,a2,a3,a4⟩:=ht;unfold zKD;refine .ite (λhc=>?_) λ_=>.ret ⟨by dsimp only;omega,a4,a3⟩;rw[Qb] at hc;rw[qN (show -9223372036854775808<=t.1-1 by omega) (by omega)];have hN:∀ k:Int,0<=k->k<26->Ok (zCY k) λ_=>True:=λk h0 h1=>by
   obtain⟨j,rfl⟩:=Qv h0;exact⟨_,zQJ (n:=j) (by omega),trivial⟩
  refine(hN (len t.2.2) (by simp[len]) (by simp only[len];omega)).bind λr7 _=>(Ok.N a3 (by omega) (by omega)).bind λr8 g8=>(Ok.Literals g8.2.2 (by omega) (by omega) h1 h2).bind λr9 g9=>(z5W (by omega)).bind λr10 g10=>(Ok.Literal g9.2.2 h1 h2).bind λr11 g11=>Ok.bind (I:=λu:Int×Int=>vC (s.1,u.1)) (.ite (λ_=>(Ok.N g11.2 (by omega) (by omega)).bind λr12 g=>.ret g.2.2) λ_=>.ret g11.2) λs8 g=>Ok.bind (I:=λu:Int×Bool×zA=>vC (s.1,u.1)) ((Ok.N g (by omega) (by omega)).bind λr13 g13=>.ite (λ_=>(Ok.N g13.2.2 (by omega) (by omega)).bind λr14 g14=>(Ok.N g14.2.2 (by omega) (by omega)).bind λr15 g15=>(hN _ g15.1 (by have:=g15.2.1 hq;omega)).bind λ_ _=>.ret g15.2.2) λ_=>.ret g13.2.2) λs9 g9=>?_;rw[yI (by simp;omega),zob];refine .ret ⟨⟨by simp;omega,by dsimp only;omega,g9,λx hx=>?_⟩,by dsimp only;omega⟩;rcases Qj.1 hx with hx | hx
  ·exact a4 x hx
  ·rw[Qh.1 hx];dsimp only;omega
 ·have hb:=hr17.2.1 (by omega);refine Ok.wh41 (λt:Int×Int×List wW=>(t.2.2.length:Int)+t.1<=2/\0<=t.1/\vC (s.1,t.2.1)) (λt=>t.1.toNat) (λt ht=>?_) _ _ (Qd _) ⟨by simp;omega,hr17.1,hr17.2.2⟩;obtain⟨a1,a2,a3⟩:=ht;unfold zK3;refine .ite (λhc=>?_) λ_=>.ret ⟨by dsimp only;omega,a3⟩;rw[Qc,Qb,Qb] at hc;simp only[len] at hc ⊢;rw[qN (show -9223372036854775808<=t.1-1 by omega) (by omega)];refine Ok.bind (I:=λu:Int×wC=>vC (s.1,u.1)) ((Ok.N a3 (by omega) (by omega)).bind λr18 g=>(Ok.idx g.1 (g.2.1 (by omega))).bind λ_ _=>.ret g.2.2) λs12 g=>.ite (λ_=>(Ok.N g (by omega) (by omega)).bind λr20 g20=>(Ok.Literal g20.2.2 h1 h2).bind λr21 g21=>?_) λ_=>.ret ⟨⟨by dsimp only;omega,by dsimp only;omega,g⟩,by dsimp only;omega⟩;rw[yI (by simp;omega),zob];exact .ret ⟨⟨by simp;omega,by dsimp only;omega,g21.2⟩,by dsimp only;omega⟩
end
section
theorem Ok.eq{α:Type}{x:Option α}{a:α}(h:Ok x λb=>b=a): x=Ah a:=by grind [Ok]
variable{α:Type}
theorem zZ6{ρ:Type}{B:Int->Option (Int⊕ρ)}(l:List α)(p:α->Bool)(a:Nat->ρ)(b:ρ)(hB:∀(i:Nat) x,l[i]?=Ah x->B i=Ah (if p x then .inr (a i) else .inl ((i+1:Nat):Int)))(he:B (l.length:Int)=Ah (.inr b)):
  (∃ i x,l[i]?=Ah x/\p x=Aj/\(∀ j y,j<i->l[j]?=Ah y->p y=Ak)/\zN B 0=Ah (a i))\/(∀ x∈l,p x=Ak)/\zN B 0=Ah b:=by
 have h:Ok (zN B (0:Int)) λr=>(∃ i x,l[i]?=Ah x/\p x=Aj/\(∀ j y,j<i->l[j]?=Ah y->p y=Ak)/\r=a i)\/(∀ x∈l,p x=Ak)/\r=b:=by
  refine Ok.forI (λi (_:Unit)=>(i:Int)) l (λi _=>∀ j y,j<i->l[j]?=Ah y->p y=Ak) _ (λi x _ hx hI=>?_) (λ_ hI=>?_) () (λj y hj=>by omega)
  ·rw[hB i x hx];by_cases hp:p x=Aj
   ·rw[Qi hp];exact .ret (.inl ⟨i,x,hx,hp,hI,rfl⟩)
   ·rw[Qa hp];refine .ret ⟨(),rfl,λj y hj hy=>?_⟩;grind
  ·rw[he];refine .ret (.inr ⟨λx hx=>?_,rfl⟩);grind [List.mem_iff_getElem?]
 obtain⟨r,h1,h2⟩:=h;grind
theorem zSr{α ρ:Type}{B:Int->Option (Int⊕ρ)}(l:List α)(p:α->Bool)(a b:ρ)(hB:∀(i:Nat) x,l[i]?=Ah x->B i=Ah (if p x then .inr a else .inl ((i+1:Nat):Int)))(he:B (l.length:Int)=Ah (.inr b)): zN B 0=Ah (if l.any p then a else b):=by
 rcases zZ6 l p (λ_=>a) b hB he with⟨i,x,h1,h2,_,h4⟩ | ⟨h1,h2⟩
 ·grind
 grind
def vlO (v:List zA)(op:Int)(s:zA)(bs:List Bool): Bool:=
 if op=1 then Aj else if op=3 then v.any (λx=>x==s) else if op=4 then !(bs.headD Ak) else if op=5 then bs.all id else if op=6 then bs.any id
 else if op=7 then(!(bs.headD Ak)||bs.getD 1 Ak) else if op=8 then bs.headD Ak==bs.getD 1 Ak else Ak
mutual
def vl (v:List zA): zC->Bool
 | .mk op s l=>vlO v op s (vlL v l)
def vlL (v:List zA): List zC->List Bool
 | []=>[]
 | x::l=>vl v x::vlL v l
end
theorem z1N (v:List zA): ∀ l,vlL v l=l.map (vl v)
 | []=>rfl
 | x::l=>by rw[vlL,z1N v l];rfl
section
variable {v:List zA}{op:Int}{s:zA}{l:List zC}{rec:zC->List zA->Option Bool}
theorem val_L1 (hv:v.length<=1000): zN (zFv v (.mk op s l)) 0=Ah (v.any λx=>x==s):=by
 refine(zSr v (λx=>x==s) Aj Ak (λi x hx=>by
  have:=(Qk.1 hx).1;unfold zFv;rw[yY hx,Qi rfl,uB,hx,zob,wE i (by omega)];show(if(x==s)=Aj then _ else _)=_;grind) (by
  unfold zFv;grind)).trans ?_
 grind
theorem val_L2 (hl:l.length<=5000)(h:∀ x∈l,rec x v=Ah (vl v x)): zN (zMV (.mk op s l) rec v) 0=Ah ((vlL v l).all id):=by
 refine(zSr l (λx=>!vl v x) Ak Aj (λi x hx=>by
  have:=(Qk.1 hx).1;show(if decide ((i:Int)<len l)=Aj then(zD l (i:Int)).bind _ else _)=_;rw[yY hx,Qi rfl,uB,hx,zob,h x (UD hx),zob,wE i (by omega)];grind) (by
  show(if decide ((l.length:Int)<len l)=Aj then _ else _)=_;grind)).trans ?_
 grind [z1N,List.all_map]
theorem val_L3 (hl:l.length<=5000)(h:∀ x∈l,rec x v=Ah (vl v x)): zN (zMc (.mk op s l) rec v) 0=Ah ((vlL v l).any id):=by
 refine(zSr l (λx=>vl v x) Aj Ak (λi x hx=>by
  have:=(Qk.1 hx).1;show(if decide ((i:Int)<len l)=Aj then(zD l (i:Int)).bind _ else _)=_;rw[yY hx,Qi rfl,uB,hx,zob,h x (UD hx),zob,wE i (by omega)];grind) (by
  show(if decide ((l.length:Int)<len l)=Aj then _ else _)=_;grind)).trans ?_
 grind [z1N,List.any_map]
theorem z8J (hv:v.length<=1000)(hl:l.length<=5000)(hk:kd0 op l.length=Aj)(h:∀ x∈l,rec x v=Ah (vl v x)): zIo rec (.mk op s l) v=Ah (vlO v op s (vlL v l)):=by
 unfold zIo vlO;show(if(op==1)=Aj then _ else if(op==3)=Aj then _ else if(op==4)=Aj then(zD l 0).bind _ else if(op==5)=Aj then _ else if(op==6)=Aj then _ else if(op==7)=Aj then((zD l 0).bind _:Option Bool).bind _ else if(op==8)=Aj then(zD l 0).bind _ else _)=_;rw[val_L1 hv,val_L2 hl h,val_L3 hl h];unfold kd0 at hk;by_cases h1:op=1
 ·grind
 by_cases h3:op=3
 ·grind
 by_cases h4:op=4
 ·subst h4;match l,hk,h with
  | [x],_,h=>
   have hx:=h x Qt;show((rec x v).bind _)=_;rw[hx];rfl
  | [],hk,_=>simp at hk
  | _::_::_,hk,_=>simp at hk
 by_cases h5:op=5
 ·grind
 by_cases h6:op=6
 ·grind
 by_cases h7:op=7
 ·subst h7;match l,hk,h with
  | [x,y],_,h=>
   show((rec x v).bind λr4=>if(!r4)=Aj then Ah Aj else(rec y v).bind λr5=>Ah r5).bind (λs4=>Ah s4)=Ah (!(vl v x)||vl v y);grind
  | [],hk,_=>simp at hk
  | [_],hk,_=>simp at hk
  | _::_::_::_,hk,_=>simp at hk
 by_cases h8:op=8
 ·subst h8;match l,hk,h with
  | [x,y],_,h=>
   show((rec x v).bind λr6=>(rec y v).bind λr7=>Ah (r6==r7))=Ah (vl v x==vl v y);grind
  | [],hk,_=>simp at hk
  | [_],hk,_=>simp at hk
  | _::_::_::_,hk,_=>simp at hk
 grind
end
mutual
theorem z8W{v:List zA}(hv:v.length<=1000): ∀ f,sml f=Aj->vG f=Aj->Ev λk=>zFL k f v=Ah (vl v f)
 | .mk op s l,h,hk=>by
  rw[sml,Qc,Qb] at h;rw[zMX,Qc] at hk;exact Ev.suc ((z5p hv l h.2 hk.2).imp λk e=>z8J hv h.1 hk.1 e)
theorem z5p{v:List zA}(hv:v.length<=1000): ∀ l,zWD l=Aj->tW l=Aj->Ev λk=>∀ x∈l,zFL k x v=Ah (vl v x)
 | [],_,_=>Ev.of λk x hx=>by cases hx
 | y::l,h,hk=>by
  rw[zWD,Qc] at h;rw[tW,Qc] at hk;refine(z8W hv y h.1 hk.1).imp2 (z5p hv l h.2 hk.2) λk e1 e2 x hx=>?_;grind
end
end
section
mutual
theorem z8V:∀(f:zC) (acc:List zA),sml f=Aj->acc.length+wO f<=100000->∃ r,(Ev λk=>zCp k acc f=Ah r)/\r.length<=acc.length+wO f
 | .mk op s l,acc,h,hn=>by
  rw[sml,Qc,Qb] at h;rw[wO] at hn ⊢;have hA:Ok (if((op==3)&&(len l==0))=Aj then(zER acc s).bind λr1=>Ah r1 else Ah acc) λa=>a.length<=acc.length+1:=
   .ite (λ_=>(ins_ok s (by omega)).bind λr hr=>.ret hr.2) λ_=>.ret (by omega)
  obtain⟨a,ha,hal⟩:=hA;obtain⟨r,hr,hrl⟩:=z4o op s l [] a h.2 (by grind) (by omega);refine⟨r,Ev.suc (hr.imp λk e=>?_),by omega⟩;show((if((op==3)&&(len l==0))=Aj then(zER acc s).bind λr1=>Ah r1 else Ah acc).bind λs1=>zN (zDG (fm (op,s,l)) (zCp k)) (s1,0))=_;grind
theorem z4o:∀(op:Int) (s:zA) (l pre:List zC) (acc:List zA),zWD l=Aj->(pre++l).length<=5000->acc.length+yC l<=100000->∃ r,(Ev λk=>zN (zDG (fm (op,s,pre++l)) (zCp k)) (acc,(pre.length:Int))=Ah r)/\r.length<=acc.length+yC l
 | op,s,[],pre,acc,_,hp,_=>⟨acc,Ev.of λk=>vW (by
  unfold zDG;simp only[zSB (op:=op) (s:=s) (pre:=pre) (by grind),zbf,Qy]),by omega⟩
 | op,s,x::l,pre,acc,h,hp,hn=>by
  rw[zWD,Qc] at h;rw[yC] at hn ⊢;have hp':pre.length+l.length+1<=5000:=by simp at hp;omega
  obtain⟨a,h1,h2⟩:=z8V x acc h.1 (by omega);obtain⟨r,h3,h4⟩:=z4o op s l (pre++[x]) a h.2 (by simp;omega) (by omega);refine⟨r,h1.imp2 h3 λk e1 e2=>?_,by omega⟩;rw[Qo] at e2;refine(yZ (t:=(a,((pre++[x]).length:Int))) ?_).trans e2;unfold zDG;simp only[(zLS (op:=op) (s:=s) (pre:=pre) (x:=x) (l:=l)).1,(zLS (op:=op) (s:=s) (pre:=pre) (x:=x) (l:=l)).2,Qx,zob,e1];rw[wE pre.length (by omega)];simp
end
theorem z7Z (voc:List zA)(x:zA)(h:voc.length<=1000): Ok (zMQ voc x) λ_=>True:=by
 rcases zZ6 (B:=zFl voc x) voc (λy=>y==x) (λi=>(i:Int)) (-1) (λi y hy=>by
  have:=(Qk.1 hy).1;unfold zFl;rw[yY hy,Qi rfl,uB,hy,zob,wE i (by omega)];grind) (by
  unfold zFl;grind) with⟨i,_,_,_,_,e⟩ | ⟨_,e⟩
 ·exact⟨_,e,trivial⟩
 ·exact⟨_,e,trivial⟩
def Wos (n:Nat)(z:Int): Prop:=∃ S:Nat,z=(S:Int)/\S<2 ^ 2 ^ n
theorem Wos.zero (n:Nat): Wos n 0:=⟨0,rfl,Nat.pow_pos (by omega)⟩
variable{voc:List zA}{f:zC}
theorem zNO(hv:voc.length<=1000)(hf:wO f<=5000): Ok (zCj voc f) λr=>Wos voc.length r.1/\(r.2=0->zZz voc=Aj):=by
 have hs:=zTt f (by omega);unfold zCj;rw[zEl voc hv,zob];refine .ite (λ_=>.ret ⟨.zero _,by simp⟩) λhb=>?_;have hb:zZz voc=true:=by simpa using hb
 have h6:=(zIv hb).n;have h64:=zKP h6;rw[(zQb hs).2,zob];refine .ite (λ_=>.ret ⟨.zero _,λ_=>hb⟩) λhk=>?_;have hk0:z2D f=0:=by simpa using hk
 have hfk:vG f=Aj/\tO f=true:=by
  unfold z2D at hk0;split at hk0
  ·grind
  ·cases hk0
 obtain⟨r,hr,hrl⟩:=z8V f [] hs (by simp;omega);unfold zLj zJW;rw[hr.lim,zob,zob];simp at hrl;have hL1:Ok (zN (zFG r voc) 0) λo=>match o with | .inl _=>True | .inr z=>z.1=0:=by
  refine Ok.forI (λi (_:Unit)=>(i:Int)) r (λ_ _=>True) _ (λi x _ hx _=>?_) (λ_ _=>?_) () trivial
  ·have:=(Qk.1 hx).1;unfold zFG;rw[yY hx,Qi rfl,uB,hx,zob];refine(z7Z voc x hv).bind λq _=>.ite (λ_=>.ret rfl) λ_=>.ret ⟨(),by rw[wE i (by omega)],trivial⟩
  ·unfold zFG;rw[uW];exact .ret trivial
 refine hL1.seqE (λ_ _=>?_) λz hz=>⟨by rw[show z.1=0 from hz];exact .zero _,λ_=>hb⟩;refine Ok.imp (I:=λz=>Wos voc.length z.1) ?_ λz hz=>⟨hz,λ_=>hb⟩;refine Ok.forI (λi (s:Nat)=>((s:Int),(i:Int))) (List.range (2 ^ voc.length)) (λi s=>s<2 ^ i/\i<=2 ^ voc.length) _ (λi x s hx hI=>?_) (λs hI=>?_) 0 ⟨by simp,QT _⟩
 ·have hi:i<2 ^ voc.length:=by simpa using (Qk.1 hx).1
  unfold zH2;rw[zLw h6,zob];simp only[Qq (show(i:Int)<((2 ^ voc.length:Nat):Int) by omega),Qx];obtain⟨y,hy,hyl,_⟩:=r3_Yes h6 (w:=i) (by omega);rw[hy,zob];have hE:zKR f y=Ah (vl y f):=by
   have c3:zGm f=Ah (tO f):=(z5A f hs).lim;have c4:zMD f y=Ah (vl y f):=(z8W (by omega) f hs hfk.1).lim;unfold zKR;rw[(z0P hs).2.2.2.2,c3,c4,hfk.1,hfk.2];rfl
  rw[hE,zob];refine .ite (λ_=>?_) λ_=>?_
  ·rw[z1l (by omega),zob,z4W (Nat.lt_trans hI.1 (zWx (by omega))) (zWx (by omega)),wE i (by omega)];refine .ret ⟨_,rfl,?_,by omega⟩;exact Nat.or_lt_two_pow (QP hI.1 (QZ (by omega) (by omega))) (Nat.pow_lt_pow_right (by omega) (by omega))
  ·rw[wE i (by omega)];exact .ret ⟨_,rfl,QP hI.1 (QZ (by omega) (by omega)),by omega⟩
 ·unfold zH2;rw[zLw h6,zob];simp;exact .ret ⟨s,rfl,by grind⟩
end
section
structure OB (o:vQ): Prop where
 voc:o.1.length<=10
 n:o.2.length<=100
theorem ob0:OB ([],[]):=⟨by simp,by simp⟩
theorem z6A{l:List Int}(h:l.length<=1000): tI (len l) (len l) (0:Int)=Ah (List.replicate l.length 0):=by
 unfold tI;grind
theorem z4z{n:Nat}(h:n<=1000): tI (n:Int) (n:Int) (0:Int)=Ah (List.replicate n 0):=by
 unfold tI;grind
theorem zZi (z:Int)(i:Nat)(h:i<1000): Ok (zC6 z (i:Int)) λ_=>True:=by
 unfold zC6 zZw;exact .ret trivial
theorem zQ8{y:vQ}(h:OB y): ∃ e,zBV y=Ah e/\(e=0↔zX7 y):=zRc (by have:=h.voc;omega) (by have:=h.n;omega)
theorem ord_le{y:vQ}(h:zX7 y): y.1.length<=6/\y.2.length<=64:=⟨(zIv h.voc).n,by rw[h.n];exact zKP (zIv h.voc).n⟩
theorem z1x{y:vQ}(h:OB y)(z:Int): Ok (zG8 y z) λ_=>True:=by
 obtain⟨e,he,hi⟩:=zQ8 h;unfold zG8;rw[he,zob];refine .ite (λ_=>.ret trivial) λhc=>?_;have hok:zX7 y:=hi.1 (by grind);have h64:=(ord_le hok).2;have h0:=z5M y.2;have hpos:0<y.2.length:=by rw[hok.n];exact U3 _
 have h1:=z2O (l:=y.2) (N:=y.2.length) (λx hx=>(hok.rg x hx).2) (by omega);refine Ok.forI (λi (_:Unit)=>(i:Int)) (List.range ((tM y.2).toNat+1)) (λ_ _=>True) _ (λi x _ hx _=>?_) (λ_ _=>?_) () trivial
 ·have hi:i<(tM y.2).toNat+1:=by simpa using (Qk.1 hx).1
  unfold zIX;rw[zSv (by omega),zob,Qq (show(i:Int)<=tM y.2 by omega),Qi rfl,zY4 h64 i,zob];exact .ite (λ_=>.ret trivial) λ_=>.ret ⟨(),by rw[wE i (by omega)],trivial⟩
 ·unfold zIX;rw[zSv (by omega),zob];simp only[UA,Qp (show ¬ (((tM y.2).toNat+1:Nat):Int)<=tM y.2 by omega),zbf,Qy];exact .ret trivial
variable{voc:List zA}
theorem ok_all(h:voc.length<=1000): Ok (zME voc) λ_=>True:=by
 unfold zME;rw[zEl voc h,zob];refine .ite (λ_=>.ret trivial) λhb=>?_;have h6:=(zIv (show zZz voc=Aj by grind)).n;have h64:=zKP h6;refine Ok.forI (λi (s:Int)=>(s,(i:Int))) (List.range (2 ^ voc.length)) (λ_ _=>True) _ (λi x s hx _=>?_) (λs _=>?_) 0 trivial
 ·have hi:i<2 ^ voc.length:=by simpa using (Qk.1 hx).1
  unfold zLA;rw[zLw h6,zob];simp only[Qq (show(i:Int)<((2 ^ voc.length:Nat):Int) by omega),Qx];exact .ret ⟨_,by rw[wE i (by omega)],trivial⟩
 ·unfold zLA;rw[zLw h6,zob];simp;exact .ret trivial
theorem zVt{y:vQ}(h:OB y): Ok (zGc y) λ_=>True:=by
 exact(ok_all (by have:=h.voc;omega)).bind λr _=>(z1x h r).bind λq _=>.ret trivial
variable{f:zC}
theorem z0u{y:vQ}(h:OB y)(hf:wO f<=5000): Ok (zFw y f) λ_=>True:=by
 obtain⟨e,he,hi⟩:=zQ8 h;unfold zFw;rw[he,zob];refine .ite (λ_=>.ret trivial) λhc=>(zNO (by have:=h.voc;omega) hf).bind λr _=>.ite (λ_=>.ret trivial) λ_=>(zVt h).bind λq _=>.ret trivial
theorem z7v{y:vQ}(h:OB y)(m k:Int): Ok (zJC y m k) OB:=by
 have hn:=h.n;unfold zJC;refine(z1x h m).bind λr1 _=>?_;rw[z6A (by omega),zob];refine Ok.bind (I:=λz:List Int=>z.length<=100) ?_ λz hz=>(Ok.Normal31 h.voc hz).bind λq hq=>.ret ⟨hq.1,hq.2⟩;generalize hx1:List.replicate y.2.length (0:Int)=x1;have hx:x1.length=y.2.length:=by rw[<-hx1];simp
 refine Ok.forI (λi (s:List Int)=>(s,(i:Int))) x1 (λ_ s=>s.length=y.2.length) _ (λi x s hi hs=>?_) (λs hs=>?_) x1 hx
 ·have hi':=yK hi;unfold zIN;rw[yY hi,Qi rfl];refine(Ok.idx (by omega) (by omega)).bind λx2 _=>(Ok.idx (by omega) (by grind)).bind λ_ _=>?_;dsimp only;refine Ok.bind (I:=λz:List Int=>z.length=y.2.length) ?_ λs3 h3=>?_
  ·refine .ite (λ_=>?_) λ_=>.ite (λ_=>?_) λ_=>.ret (by grind)
   ·grind [Ok.idx,Ok]
   grind [Ok.idx,Ok]
  ·refine Ok.bind (I:=λ_:Bool=>True) (.ite (λ_=>(zZi r1 i (by omega)).bind λ_ _=>.ret trivial) λ_=>.ret trivial) λs4 _=>.ite (λ_=>?_) λ_=>?_
   ·exact(Ok.idx (by omega) (by omega)).bind λ_ _=>.ret ⟨_,by rw[wE i (by omega)],by grind⟩
   ·exact .ret ⟨_,by rw[wE i (by omega)],h3⟩
 ·unfold zIN;rw[uW];exact .ret (show s.length<=100 by omega)
theorem z52{y:vQ}(h:OB y)(hf:wO f<=5000)(k:Int): Ok (zIJ y f k) λz=>OB z.1:=by
 obtain⟨e,he,hi⟩:=zQ8 h;unfold zIJ zN2;rw[he,zob];refine .ite (λ_=>.ret ob0) λhc=>?_;exact .ite (λ_=>.ret ob0) λ_=>(zNO (by have:=h.voc;omega) hf).bind λr _=>.ite (λ_=>.ret ob0) λ_=>.ite (λ_=>.ret ob0) λ_=>(z7v h _ _).bind λq hq=>.ret hq
theorem zXr(hv:voc.length<=10){l:List Int}(hl:l.length<=1000): Ok (zC3 voc l) λz=>OB z.1:=by
 unfold zC3;rw[zEl voc (by omega),zob];refine .ite (λ_=>.ret ob0) λhb=>?_;have hvb:zZz voc=true:=by simpa using hb
 have h6:=(zIv hvb).n;have hp:=zKP h6;rw[show Au.u64.wrap (len voc)=Au.u64.wrap (voc.length:Int) from rfl,zU6 h6,zob];generalize 2 ^ voc.length=N at hp;rw[z4z (by omega),zob];generalize hx1:List.replicate N (0:Int)=x1;have hx:x1.length=N:=by rw[<-hx1];simp
 have hz:∀ x∈x1,0<=x/\x<=(l.length:Int):=by rw[<-hx1];intro x hx;rw[(List.mem_replicate.1 hx).2];omega
 refine Ok.bind (I:=λz:List Int=>z.length<=100) ?_ λz hz=>(Ok.Normal31 hv hz).bind λq hq=>.ret ⟨hq.1,hq.2⟩;refine Ok.forI (λi (s:List Int)=>(s,(i:Int))) x1 (λ_ s=>s.length=N/\∀ x∈s,0<=x/\x<=(l.length:Int)) _ (λi x s hi hs=>?_) (λs hs=>?_) x1 ⟨hx,hz⟩
 ·have hi':=yK hi;unfold zEs;rw[yY hi,Qi rfl];refine Ok.wh41 (λs:List Int=>s.length=N/\∀ x∈s,0<=x/\x<=(l.length:Int)) (λs=>l.length-(s[i]?.getD 0).toNat) (λt ht=>?_) _ s (Qd _) hs;obtain⟨y,hy⟩:∃ y,t[i]?=Ah y:=⟨_,Qs (by omega)⟩;have hyb:=ht.2 y (zHM hy);unfold zHy;dsimp only;rw[uB,hy,zob];refine Ok.bind (I:=λb:Bool=>b=Aj->y<(l.length:Int)) (.ite (λhc=>?_) λ_=>.ret nofun) λb hb=>.ite (λhc=>?_) λ_=>?_
  ·grind [zZi,Ok,zD]
  ·have hw:zE (y+1)=y+1:=by
    obtain⟨n,rfl⟩:=Qv hyb.1;rw[show((n:Int)+1)=((n:Int)+1) from rfl,wE n (by omega)];omega
   refine .ret ⟨⟨by grind,λx hx=>?_⟩,?_⟩
   ·grind
   grind
  ·exact .ret ⟨t,by rw[wE i (by omega)],ht⟩
 ·unfold zEs;grind [Ok,Fin]
theorem z99{a b:List zA}(h:a.length<=1000): Ok (zFH a b) λ_=>True:=by
 refine .ite (λ_=>.ret trivial) λhc=>?_;have hl:a.length=b.length:=by have h2:(a.length:Int)=b.length:=(by grind);omega
 refine Ok.forI (λi (_:Unit)=>(i:Int)) a (λ_ _=>True) _ (λi x _ hx _=>?_) (λ_ _=>?_) () trivial
 ·have hi:=yK hx;unfold zFY;rw[yY hx,Qi rfl];exact(Ok.idx (by omega) (by omega)).bind λ_ _=>(Ok.idx (by omega) (by omega)).bind λ_ _=>.ite (λ_=>.ret trivial) λ_=>.ret ⟨(),by rw[wE i (by omega)],trivial⟩
 ·unfold zFY;rw[uW];exact .ret trivial
theorem z4Y{a b:vQ}(ha:OB a)(hb:OB b): Ok (zHc a b) λz=>OB z.1:=by
 obtain⟨e,he,hi⟩:=zQ8 ha;obtain⟨e2,he2,hi2⟩:=zQ8 hb;have hn:=ha.n;unfold zHc;rw[he,zob];refine .ite (λ_=>.ret ob0) λhc=>?_;rw[he2,zob];refine .ite (λ_=>.ret ob0) λhc2=>?_;have ok1:zX7 a:=hi.1 (by grind);have ok2:zX7 b:=hi2.1 (by grind);unfold zFH;by_cases hne:(len a.1 != len b.1)=Aj
 ·rw[Qi hne,zob];exact .ret ob0
 have hl:a.1.length=b.1.length:=by have h2:(a.1.length:Int)=b.1.length:=(by grind);omega
 have hr:a.2.length=b.2.length:=by rw[ok1.n,ok2.n,hl]
 have hS:=z99 (a:=a.1) (b:=b.1) (by have:=ha.voc;omega);refine hS.bind λr3 _=>.ite (λ_=>.ret ob0) λ_=>?_;rw[z6A (by omega),zob];refine Ok.bind (I:=λz:List Int=>z.length<=100) ?_ λz hz=>(Ok.Normal31 ha.voc hz).bind λq hq=>.ret ⟨hq.1,hq.2⟩;generalize hx1:List.replicate a.2.length (0:Int)=x1;have hx:x1.length=a.2.length:=by rw[<-hx1];simp
 refine Ok.forI (λi (s:List Int)=>(s,(i:Int))) x1 (λ_ s=>s.length=a.2.length) _ (λi x s hi hs=>?_) (λs hs=>?_) x1 hx
 ·have hi':=yK hi;unfold zH5;rw[yY hi,Qi rfl];exact(Ok.idx (by omega) (by omega)).bind λ_ _=>(Ok.idx (by omega) (by omega)).bind λ_ _=>(Ok.idx (by omega) (by grind)).bind λ_ _=>.ret ⟨_,by rw[wE i (by omega)],by grind⟩
 ·unfold zH5;rw[uW];exact .ret (show s.length<=100 by omega)
theorem z3d{y:vQ}(h:OB y): Ok (zEU y) λr=>r.length<=200:=by
 have h1:=h.voc;have h2:=h.n;by_cases hok:zX7 y
 ·refine⟨_,(zVs (by omega) (by omega)).1 hok,?_⟩;have hpos:0<y.2.length:=by rw[hok.n];exact U3 _
  have h1:=z2O (l:=y.2) (N:=y.2.length) (λx hx=>(hok.rg x hx).2) (by omega);grind [lvls]
 ·exact⟨_,(zVs (by omega) (by omega)).2 hok,by simp⟩
end
section
theorem z8b (k:Au)(z:Int){i:Nat}(h:i<1000): zZw k z (Au.u64.wrap (i:Int))=Ah (shr k z (i:Int)):=by
 unfold zZw;rw[zJk (by omega),Qa (by omega)]
theorem z0Y (v w:Int): Ok (zDz v w) λr=>0<=r/\r<=6:=by
 refine Ok.forI (λi (s:Int)=>(s,(i:Int))) (List.range 6) (λi s=>0<=s/\s<=i) _ (λi x s hx hI=>?_) (λs hI=>?_) 0 ⟨by omega,by omega⟩
 ·have hi:i<6:=by simpa using (Qk.1 hx).1
  unfold zGG;rw[Qq (show(i:Int)<6 by omega),Qi rfl,z8b _ _ (by omega),zob,z8b _ _ (by omega),zob];have hw:zE (s+1)=s+1:=by
   obtain⟨n,rfl⟩:=Qv hI.1;rw[wE n (by omega)];omega
  exact .ite (λ_=>.ret ⟨s+1,by rw[wE i (by omega),hw],by omega⟩) λ_=>.ret ⟨s,by rw[wE i (by omega)],by omega⟩
 grind [zGG,Ok,Fin]
theorem z5R (v w u k:Int): Ok (zLM v w u k) λ_=>True:=by
 exact .ite (λ_=>(z0Y v w).bind λ_ _=>(z0Y v u).bind λ_ _=>.ret trivial) λ_=>.ite (λ_=>.ret trivial) λ_=>.ret trivial
theorem z2f{N:Nat}(hN:N<=64)(v z k:Int): Ok (zJS (N:Int) v z k) λ_=>True:=by
 refine Ok.forI (λi (s:Int)=>(s,(i:Int))) (List.range N) (λ_ _=>True) _ (λi x s hx _=>?_) (λs _=>?_) 0 trivial
 ·have hi:i<N:=by simpa using (Qk.1 hx).1
  unfold zGb;rw[Qq (show(i:Int)<(N:Int) by omega),Qi rfl];refine(zZi z i (by omega)).bind λb _=>?_;refine Ok.bind (I:=λ_:Bool=>True) ?_ λb2 _=>.ite (λ_=>?_) λ_=>.ret ⟨s,by rw[wE i (by omega)],trivial⟩
  ·refine Ok.forI (λj (b:Bool)=>(b,(j:Int))) (List.range N) (λ_ _=>True) _ (λj x b hx _=>?_) (λb _=>?_) b trivial
   ·have hj:j<N:=by simpa using (Qk.1 hx).1
    unfold zG9;refine .ite (λ_=>?_) λ_=>.ret trivial;exact Ok.bind (I:=λ_:Bool=>True) ((zZi z j (by omega)).bind λ_ _=>.ite (λ_=>.ret trivial) λ_=>(z5R _ _ _ _).bind λ_ _=>.ret trivial) λb3 _=>.ret ⟨b3,by rw[wE j (by omega)],trivial⟩
   ·unfold zG9;rw[Qp (show ¬ ((List.range N).length:Int)<(N:Int) by simp)];exact .ret trivial
  ·exact .ret ⟨_,by rw[wE i (by omega)],trivial⟩
 ·unfold zGb;rw[Qp (show ¬ ((List.range N).length:Int)<(N:Int) by simp)];exact .ret trivial
variable{voc:List zA}
theorem z7T(h6:voc.length<=6)(z m k:Int): Ok (zIw voc z m k) λ_=>True:=by
 have h64:=zKP h6;unfold zIw;rw[show Au.u64.wrap (len voc)=Au.u64.wrap (voc.length:Int) from rfl,zU6 h6,zob];generalize 2 ^ voc.length=N at h64;refine Ok.forI (λi (s:Int)=>(s,(i:Int))) (List.range N) (λ_ _=>True) _ (λi x s hx _=>?_) (λs _=>?_) 0 trivial
 ·have hi:i<N:=by simpa using (Qk.1 hx).1
  unfold zIM;rw[Qq (show(i:Int)<(N:Int) by omega),Qi rfl];exact(zZi z i (by omega)).bind λb _=>.ite (λ_=>(z2f h64 _ _ _).bind λ_ _=>.ret ⟨_,by rw[wE i (by omega)],trivial⟩) λ_=>.ret ⟨_,by rw[wE i (by omega)],trivial⟩
 ·unfold zIM;rw[Qp (show ¬ ((List.range N).length:Int)<(N:Int) by simp)];exact .ret trivial
variable{f:zC}
theorem z5F(hv:voc.length<=1000)(z:Int)(hf:wO f<=5000)(k:Int): Ok (zHl voc z f k) λ_=>True:=by
 unfold zHl zKn zN7;rw[zEl voc hv,zob];refine Ok.bind (I:=λr=>r.2=0->zZz voc=Aj) ?_ λr1 h1=>.ite (λ_=>.ret trivial) λhc=>(z7T (zIv (h1 (by grind))).n _ _ _).bind λ_ _=>.ret trivial;refine .ite (λ_=>.ret (by simp)) λhb=>?_;have hb:zZz voc=true:=by simpa using hb
 exact .ite (λ_=>.ret (by simp)) λ_=>(zNO hv hf).bind λr _=>.ret λ_=>hb
def SetOk (n:Nat)(z:Int): Prop:=Wos n z/\z≠0
theorem z1M(hv:voc.length<=1000){l:List zC}(hf:∀ f∈l,wO f<=5000)(k:Int): Ok (zHt voc l k) λr=>r.2=0->zZz voc=Aj/\r.1.length<=8/\∀ z∈r.1,SetOk voc.length z:=by
 unfold zHt;rw[zEl voc hv,zob];refine .ite (λ_=>.ret (by simp)) λhb=>.ite (λ_=>.ret (by simp)) λ_=>.ite (λ_=>.ret (by simp)) λhl=>?_;have hb:zZz voc=true:=by simpa using hb
 have hl:l.length<=8:=by
                have h:¬ (8:Int)<(l.length:Int):=by simpa [len] using hl
                omega
 refine Ok.seqE (I:=λo=>match o with | .inl s=>s.length<=8/\∀ z∈s,Wos voc.length z | .inr r=>r.2≠0) ?_ (λs hs=>?_) λr hr=>by
  grind
 ·refine Ok.forI (λi (s:List Int)=>(s,(i:Int))) l (λi s=>s.length<=i/\∀ z∈s,Wos voc.length z) _ (λi x s hx hI=>?_) (λs hI=>?_) [] ⟨by simp,by simp⟩
  ·have hi:=yK hx;unfold zH7;rw[yY hx,Qi rfl,uB,hx,zob];refine(zNO hv (hf x (zHM hx))).bind λr hr=>.ite (λhc=>.ret (show(([]:List Int),r.2).2≠0 from by grind)) λ_=>(Ok.app (by simp;omega)).bind λz hz=>.ret ⟨z,by rw[wE i (by omega)],?_⟩;grind
  ·unfold zH7;rw[uW];exact .ret (show s.length<=8/\_ from⟨by omega,hI.2⟩)
 ·obtain⟨hs1,hs2⟩:=hs;refine Ok.forI (λi (_:Unit)=>(i:Int)) s (λi _=>∀ j z,j<i->s[j]?=Ah z->z≠0) _ (λi x _ hx hI=>?_) (λ_ hI=>?_) () (λj _ hj=>by omega)
  ·have hi:=yK hx;unfold zHV;rw[yY hx,Qi rfl,uB,hx,zob];refine .ite (λ_=>.ret (by intro h;cases h)) λhc=>.ret ⟨(),by rw[wE i (by omega)],λj z hj hz=>?_⟩;grind
  ·unfold zHV;rw[uW];refine .ret λ_=>⟨hb,hs1,λz hz=>⟨hs2 z hz,?_⟩⟩;grind [List.mem_iff_getElem?]
theorem z6q{l:List Int}(hl:l.length<=100)(h:∀ x∈l,0<=x/\x<=6)(k:Int): Ok (zLm l k) λ_=>True:=by
 refine Ok.bind (I:=λ_=>True) ?_ λs1 _=>.ite (λ_=>.ret trivial) λ_=>.ite (λ_=>?_) λ_=>.ret trivial
 ·refine Ok.forI (λi (s:Int×Int×Int×Int×Int×Int×Int×Int×Int)=>(s.1,s.2.1,(i:Int),s.2.2.1,s.2.2.2.1,s.2.2.2.2.1,s.2.2.2.2.2.1,s.2.2.2.2.2.2.1,s.2.2.2.2.2.2.2.1,s.2.2.2.2.2.2.2.2)) l (λ_ _=>True) _ (λi x s hx _=>?_) (λs _=>?_) (0,0,0,0,0,0,0,0,0) trivial
  ·have hi:=yK hx;have hx6:=h x (zHM hx);unfold zIP;rw[yY hx,Qi rfl,uB,hx,zob,zob,zob];exact(Ok.idx hx6.1 (by simp;omega)).bind λx4 _=>(Ok.idx hx6.1 (by simp;omega)).bind λ_ _=>.ret ⟨(_,_,_,_,_,_,_,_,_),by rw[wE i (by omega)],trivial⟩
  ·unfold zIP;rw[uW];exact .ret trivial
 ·refine Ok.wh41 (λs:Int×Int=>0<=s.2/\s.2<=6) (λs=>s.2.toNat) (λs hs=>?_) _ (0,6) (Qd _) ⟨by omega,by omega⟩;refine .ite (λhc=>?_) λ_=>.ret trivial;have hw:zE (s.2-1)=s.2-1:=by
   exact qN (by omega) (by omega)
  exact(Ok.idx hs.1 (by simp;omega)).bind λ_ _=>.ret ⟨⟨by grind,by grind⟩,by grind⟩
end
section
theorem z9E{S i:Nat}(hS:S<18446744073709551616)(hi:i<64): zC6 (S:Int) (i:Int)=Ah (S.testBit i):=by
 unfold zC6;rw[shrK_u hi,zob,show(1:Int)=((1:Nat):Int) from rfl,z6l (Nat.lt_of_le_of_lt (Nat.div_le_self _ _) hS) (by omega),Nat.and_one_is_mod,Nat.testBit_eq_decide_div_mod_eq];grind [decide_eq_false]
theorem bit_of{S N:Nat}(h0:S≠0)(h:S<2 ^ N): ∃ j,j<N/\S.testBit j=true:=by
 refine Classical.byContradiction λhn=>h0 (Nat.eq_of_testBit_eq λj=>?_);grind [Nat.testBit_lt_two_pow,Nat.lt_of_lt_of_le,Nat.pow_le_pow_right]
theorem z3o{n:Nat}(h6:n<=6){l:List Int}(hl:l.length<=8)(h:∀ z∈l,SetOk n z)(w k:Int): Ok (zKv ((2 ^ n:Nat):Int) l w k) λr=>r.length<=8/\∀ x∈r,0<=x/\x<=6:=by
 have h64:=zKP h6;refine Ok.forI (λi (s:List Int)=>(s,(i:Int))) l (λi s=>s.length<=i/\∀ x∈s,0<=x/\x<=6) _ (λi z s hz hI=>?_) (λs hI=>?_) [] ⟨by simp,by simp⟩
 ·have hi:=yK hz;obtain⟨⟨S,hS,hlt⟩,hne⟩:=h z (zHM hz);generalize 2 ^ n=N at h64 hlt;have hS64:S<2 ^ 64:=QP hlt (QZ (by omega) h64);obtain⟨j,hjN,hjb⟩:=bit_of (S:=S) (N:=N) (by grind) hlt;unfold zHT;rw[yY hz,Qi rfl];refine Ok.bind (I:=λq:Int=>0<=q/\q<=6) ?_ λq hq=>Ok.bind (I:=λq:Int=>0<=q/\q<=6) (.ite (λ_=>.ret (by grind)) λ_=>.ret hq) λq2 h2=>(Ok.app (by simp;omega)).bind λr hr=>.ret ⟨r,by rw[wE i (by omega)],?_⟩
  ·refine Ok.forI (λi (s:Int)=>(s,(i:Int))) (List.range N) (λi s=>0<=s/\(s<=6\/i<=j)) _ (λi x s hx hI=>?_) (λs hI=>?_) 100 ⟨by omega,.inr (by omega)⟩
   ·have hi2:i<N:=by simpa using (Qk.1 hx).1
    unfold zH1;rw[Qq (show(i:Int)<(N:Int) by omega),Qi rfl,uB,hz,zob,hS,z9E hS64 (by omega),zob];refine .ite (λ_=>(z0Y _ _).bind λr hr=>.ret ⟨_,by rw[wE i (by omega)],?_⟩) λhc=>.ret ⟨_,by rw[wE i (by omega)],hI.1,?_⟩
    ·grind
    grind
   grind [zH1,Ok,Fin]
  grind
 ·unfold zHT;rw[uW];exact .ret (show s.length<=8/\_ from⟨by omega,hI.2⟩)
variable{voc:List zA}
theorem z3R(hv:voc.length<=10){l:List zC}(hf:∀ f∈l,wO f<=5000)(k:Int): Ok (zLx voc l k) λz=>OB z.1:=by
 refine(z1M (by omega) hf k).bind λr1 h1=>.ite (λ_=>.ret ob0) λhc=>?_;obtain⟨hb,hl,hs⟩:=h1 (by grind);have h6:=(zIv hb).n;have h64:=zKP h6;rw[show Au.u64.wrap (len voc)=Au.u64.wrap (voc.length:Int) from rfl,zU6 h6,zob,z4z (by omega),zob];refine Ok.bind (I:=λz:List Int=>z.length<=100) ?_ λz hz=>(Ok.Normal31 hv hz).bind λq hq=>.ret ⟨hq.1,hq.2⟩;refine Ok.forI (λi (s:List Int)=>(s,(i:Int))) (List.range (2 ^ voc.length)) (λ_ s=>s.length=2 ^ voc.length) _ (λi x s hx hI=>?_) (λs hI=>?_) (List.replicate (2 ^ voc.length) 0) (by simp)
 ·have hi:i<2 ^ voc.length:=by simpa using (Qk.1 hx).1
  unfold zIQ;dsimp only;rw[Qq (show(i:Int)<((2 ^ voc.length:Nat):Int) by omega),Qi rfl];exact(z3o h6 hl hs _ _).bind λr2 h2=>(z6q (by omega) h2.2 _).bind λr3 _=>(Ok.idx (by omega) (by omega)).bind λ_ _=>.ret ⟨_,by rw[wE i (by omega)],by grind⟩
 ·unfold zIQ;rw[Qp (show ¬ ((List.range (2 ^ voc.length)).length:Int)<((2 ^ voc.length:Nat):Int) by simp)];exact .ret (show s.length<=100 by omega)
theorem z2X(hv:voc.length<=1000)(x:zH): Ok (zIx voc x) λr=>wO r.1<=2:=by
 refine Ok.seqE (I:=λo=>match o with | .inl _=>True | .inr r=>wO r.1<=2) ?_ (λ_ _=>.ret (by simp[fm,wO,yC])) λr hr=>hr;refine Ok.forI (λi (_:Unit)=>(i:Int)) voc (λ_ _=>True) _ (λi y _ hy _=>?_) (λ_ _=>?_) () trivial
 ·have hi:=yK hy;unfold zIR;rw[yY hy,Qi rfl,uB,hy,zob];refine .ite (λ_=>?_) λ_=>.ret ⟨(),by rw[wE i (by omega)],trivial⟩;exact Ok.bind (I:=λs:Int×zA×List zC=>yC s.2.2<=1) (.ite (λ_=>.ret (by simp[fm,wO,yC])) λ_=>.ret (by simp[yC])) λs hs=>.ret (show wO (fm (s.1,s.2.1,s.2.2))<=2 by simp[fm,wO];omega)
 ·unfold zIR;rw[uW];exact .ret trivial
structure StL (s:List (List qR)): Prop where
 n:s.length<=1000
 l:∀ x∈s,x.length<=1000
theorem z7E{y:yM}{x:qB}(hv:y.1.1.length<=10)(hs:StL y.2.2.1)(hf:wO x.2.2.2.2.2.2.2.2.2<=5000): Ok (zIm y x) λr=>r.1=y\/∃ o,OB o/\r.1=(y.1,y.2.1,y.2.2.1,y.2.2.2.1,y.2.2.2.2.1,o,y.2.2.2.2.2.2):=by
 unfold zIm;refine Ok.bind (I:=λl:List zC=>∀ f∈l,wO f<=5000) ?_ λl hl=>?_
 ·refine Ok.forI (λi (s:List zC)=>(s,(i:Int))) y.2.2.1 (λi s=>s.length<=i/\∀ f∈s,wO f<=5000) _ (λi c s hc hI=>?_) (λs hI=>?_) [] ⟨by simp,by simp⟩
  ·have hi:=yK hc;have hn:=hs.n;have hcl:=hs.l c (zHM hc);unfold zI4;dsimp only;rw[yY hc,Qi rfl];refine Ok.bind (I:=λz:List zC=>yC z<=2000) ?_ λz hz=>?_
   ·refine Ok.forI (λj (t:List zC)=>(t,(j:Int))) c (λj t=>yC t<=2*j) _ (λj q t hq hJ=>?_) (λt hJ=>?_) [] (by simp[yC])
    ·have hj:=yK hq;unfold zIZ;rw[uB,hc,zob,yY hq,Qi rfl,zob,uB,hq,zob];refine(z2X (by omega) q.1).bind λr1 h1=>.ite (λ_=>?_) λ_=>.ret ⟨t,by rw[wE j (by omega)],by omega⟩;have htl:=zMH t;refine(Ok.app (by simp;omega)).bind λz hz=>.ret ⟨z,by rw[wE j (by omega)],?_⟩;grind [zXW,yC]
    ·unfold zIZ;rw[uB,hc,zob,uW];exact .ret (show yC t<=2000 by omega)
   ·refine .ite (λh1=>?_) λ_=>.ite (λ_=>?_) λ_=>.ret ⟨s,by rw[wE i (by omega)],by omega,hI.2⟩
    ·have h1:z.length=1:=by
                    have h2:(z.length:Int)=1:=by simpa [len] using h1
                    omega
     refine(Ok.idx (by omega) (by omega)).bind λx5 h5=>(Ok.app (by simp;omega)).bind λq hq=>.ret ⟨q,by rw[wE i (by omega)],?_⟩;subst hq;refine⟨by simp;omega,λf hf=>?_⟩;rcases Qj.1 hf with h | h
     ·grind
     ·match z,h1,h5.1 with
      | [w],_,hw=>
       grind [yC]
    ·refine(Ok.app (by simp;omega)).bind λq hq=>.ret ⟨q,by rw[wE i (by omega)],?_⟩;grind [fm,wO]
  ·unfold zI4;rw[uW];exact .ret hI.2
 ·refine(z3R hv hl _).bind λr2 h2=>.ite (λ_=>.ret (.inl rfl)) λ_=>(zNO (by omega) hf).bind λr3 _=>.ite (λ_=>.ret (.inl rfl)) λ_=>.ite (λ_=>.ret (.inl rfl)) λ_=>(zXr hv (by simp)).bind λr4 h4=>(z4Y h4 h2).bind λr5 h5=>.ret (.inr ⟨r5.1,h5,rfl⟩)
theorem z3K{y:yM}{x:qB}(hv:y.1.1.length<=10)(ho:OB y.2.2.2.2.2.1)(hf:wO x.2.2.2.2.2.2.2.2.2<=5000): Ok (zJM y x) λr=>r.1=y\/∃ o,OB o/\r.1=(y.1,y.2.1,y.2.2.1,y.2.2.2.1,y.2.2.2.2.1,o,y.2.2.2.2.2.2):=by
 refine(zVt ho).bind λr1 _=>(z5F (by omega) r1 hf _).bind λr2 _=>.ite (λ_=>.ret (.inl rfl)) λ_=>.ite (λ_=>.ret (.inl rfl)) λ_=>?_;refine Ok.bind (I:=λz:List zA×List Int=>OB z) ((z3d ho).bind λr3 h3=>(Ok.app (by simp;omega)).bind λx1 hx=>(zXr hv (by grind)).bind λr4 h4=>.ret h4) λs hs=>.ret (.inr ⟨s,hs,rfl⟩)
end
section
structure WkL (l:List yJ): Prop where
 big:l.length<=400
 pos:0<l.length
 tg:∀(i:Nat) m,l[i]?=Ah m->0<=m.2.2.2/\(m.2.2.2<(i:Int)\/(i=0/\m.2.2.2=0))
structure WkG (g:uA): Prop where
 n:0<=g.1/\g.1<=1000
 len:g.2.length<=10000
structure WkD (d:uF): Prop where
 l:WkL d.2.2.2
 g:WkG d.1
theorem mks_k{n:Nat}(h:n<=1000): tI (n:Int) (n:Int) (0:Int)=Ah (List.replicate n 0):=by
 unfold tI;grind
theorem WkL.idx{l:List yJ}(h:WkL l){i:Int}(h0:0<=i)(h1:i<l.length): Ok (zD l i) λm=>0<=m.2.2.2/\(m.2.2.2<i\/(i=0/\m.2.2.2=0)):=by
 refine(Ok.idx h0 h1).imp λm hm=>?_;have:=h.tg i.toNat m hm.2;omega
section
variable {d:uF}(h:WkD d)
include h
theorem z9Q{s1:List Bool×Int}(h0:0<=s1.2)(h1:s1.2<d.2.2.2.length){z:List Bool×Int}(hz:z.1.length=d.2.2.2.length/\0<=z.2/\z.2<=d.2.2.2.length): Ok (zN (zJZ d s1) z) λr=>r.length=d.2.2.2.length:=by
 have hb:=h.l.big;refine Ok.wh41 (λt:List Bool×Int=>t.1.length=d.2.2.2.length/\0<=t.2/\t.2<=d.2.2.2.length) (λt=>((d.2.2.2.length:Int)-t.2).toNat) (λt ht=>?_) _ _ (Qd _) hz;obtain⟨a1,a2,a3⟩:=ht;unfold zJZ;refine .ite (λhc=>?_) λ_=>.ret a1;rw[Qb] at hc;simp only[len] at hc;refine Ok.bind (I:=λz:List Bool=>z.length=d.2.2.2.length) ?_ λs5 h5=>.ret (by dsimp only;rw[qN (by omega) (by omega)];omega);repeat' first
  | refine Ok.ite (λ_=>?_) λ_=>?_
  | refine(Ok.idx (by omega) (by omega)).bind λ_ _=>?_
  | refine Ok.ret ?_
 all_goals grind
theorem k_gone:Ok (zKZ d) λr=>r.length=d.2.2.2.length:=by
 have hb:=h.l.big;have hm:tI (len d.2.2.2) (len d.2.2.2) (Ak:Bool)=Ah (List.replicate d.2.2.2.length Ak):=by
  unfold tI;rw[Qi ⟨by grind,Ql _,by grind⟩];rfl
 unfold zKZ;rw[hm,zob];refine Ok.wh41 (λt:List Bool×Int=>t.1.length=d.2.2.2.length/\0<=t.2/\t.2<=d.2.2.2.length) (λt=>((d.2.2.2.length:Int)-t.2).toNat) (λt ht=>?_) _ _ (Qd _) ⟨by simp,by simp,by simp⟩;obtain⟨a1,a2,a3⟩:=ht;unfold zNG;refine .ite (λhc=>?_) λ_=>.ret a1;rw[Qb] at hc;simp only[len] at hc;have hw:zE (t.2+1)=t.2+1:=qN (by omega) (by omega);refine(h.l.idx a2 hc).bind λx2 h2=>Ok.bind (I:=λz:List Bool=>z.length=d.2.2.2.length) ?_ λs2 hs2=>(z9Q h a2 hc (z:=(s2,zE (t.2+1))) ⟨hs2,by grind,by grind⟩).bind λs3 h3=>.ite (λ_=>Ok.bind (I:=λz:List Bool=>z.length=d.2.2.2.length) ?_ λs6 h6=>.ret (by grind)) λ_=>.ret (by grind)
 ·repeat' first
   | refine Ok.ite (λ_=>?_) λ_=>?_
   | refine(Ok.idx (by omega) (by omega)).bind λ_ _=>?_
   | refine Ok.ret ?_
  all_goals grind
 ·repeat' first
   | refine Ok.ite (λ_=>?_) λ_=>?_
   | refine(Ok.idx (by omega) (by omega)).bind λ_ _=>?_
   | refine Ok.ret ?_
  all_goals grind
theorem z9x{s1:List Int×Int}(h0:0<=s1.2)(h1:s1.2<d.2.2.2.length){z:List Int×Int}(hz:z.1.length=d.2.2.2.length/\0<=z.2/\z.2<=d.2.2.2.length): Ok (zN (zHW d s1) z) λr=>match r with | .inl t=>t.1.length=d.2.2.2.length/\t.2=s1.2-1 | .inr _=>False:=by
 have hb:=h.l.big;refine Ok.wh41 (λt:List Int×Int=>t.1.length=d.2.2.2.length/\0<=t.2/\t.2<=d.2.2.2.length) (λt=>((d.2.2.2.length:Int)-t.2).toNat) (λt ht=>?_) _ _ (Qd _) hz;obtain⟨a1,a2,a3⟩:=ht;unfold zHW;refine .ite (λhc=>?_) λ_=>.ret ⟨a1,qN (by omega) (by omega)⟩;rw[Qb] at hc;simp only[len] at hc;refine Ok.bind (I:=λ_:Bool=>True) ?_ λs3 _=>?_
 ·repeat' first
   | refine Ok.ite (λ_=>?_) λ_=>?_
   | refine(Ok.idx (by omega) (by omega)).bind λ_ _=>?_
   | exact Ok.ret trivial
 ·have hw:zE (t.2+1)=t.2+1:=qN (by omega) (by omega);rw[hw];exact .ite (λ_=>(Ok.idx (by omega) (by omega)).bind λ_ _=>.ret (by grind)) λ_=>.ret (by grind)
theorem zPs:Ok (zCk d) λr=>r.length=d.2.2.2.length:=by
 have hb:=h.l.big;have hp:=h.l.pos;have hm:tI (len d.2.2.2) (len d.2.2.2) (0:Int)=Ah (List.replicate d.2.2.2.length 0):=mks_k (by omega);unfold zCk;refine(k_gone h).bind λr1 h1=>?_;have hw:zE (len d.2.2.2-1)=(d.2.2.2.length:Int)-1:=qN (by grind) (by grind);rw[hm,zob,hw];refine Ok.wh41 (λt:List Int×Int=>t.1.length=d.2.2.2.length/\-1<=t.2/\t.2<d.2.2.2.length) (λt=>(t.2+1).toNat) (λt ht=>?_) _ _ (Qd _) ⟨by simp,by grind,by grind⟩;obtain⟨a1,a2,a3⟩:=ht;unfold zLb;refine .ite (λhc=>?_) λ_=>.ret a1;rw[Qb] at hc;refine(Ok.idx hc (by omega)).bind λx2 _=>.ite (λ_=>.ret (by rw[qN (by omega) (by omega)];grind)) λ_=>(Ok.idx hc (by omega)).bind λ_ _=>?_;refine(z9x h (s1:=t) hc a3 (z:=(t.1.set t.2.toNat 1,zE (t.2+1))) ?_).imp λr hr=>?_
 ·rw[qN (by omega) (by omega)];grind
 grind
omit h in
theorem zSy{l:List Int}(hl:0<l.length): Ok (zDN l) λr=>r=1\/r=2:=by
 unfold zDN;exact(Ok.idx (Ql 0) (by omega)).bind λ_ _=>.ite (λ_=>.ret (.inl rfl)) λ_=>.ret (.inr rfl)
theorem z5x:Ok (zGr d) λr=>r.length<=d.2.2.2.length/\∀ x∈r,0<=x/\x<d.2.2.2.length:=by
 have hb:=h.l.big;have hp:=h.l.pos;unfold zGr;refine(zPs h).bind λr1 h1=>?_;refine Ok.wh41 (λt:List Int×Int=>(t.1.length:Int)<=t.2/\(∀ x∈t.1,0<=x/\x<d.2.2.2.length)/\1<=t.2/\t.2<=d.2.2.2.length) (λt=>((d.2.2.2.length:Int)-t.2).toNat) (λt ht=>?_) _ _ (Qd _) ⟨by simp,by simp;omega,by simp,by grind⟩;obtain⟨a1,a2,a3,a4⟩:=ht;unfold zKF;refine .ite (λhc=>?_) λ_=>.ret ⟨by omega,a2⟩;rw[Qb] at hc;simp only[len] at hc;have hw:zE (t.2+1)=t.2+1:=qN (by omega) (by omega);rw[hw];refine(h.l.idx (by omega) hc).bind λx1 hx1=>Ok.bind (I:=λ_:Bool=>True) ((Ok.idx (by omega) (by omega)).bind λ_ _=>.ite (λ_=>.ret trivial) λ_=>?_) λs2 _=>.ite (λ_=>.ret ⟨⟨by grind,a2,by grind,by grind⟩,by grind⟩) λ_=>?_
 ·rw[net_In t.1 (by omega)];exact .ret trivial
 ·refine Ok.bind (I:=λ_:Bool=>True) ((Ok.idx (by omega) (by omega)).bind λ_ _=>(zSy (by omega)).bind λ_ _=>.ite (λ_=>.ret trivial) λ_=>(Ok.idx (by omega) (by omega)).bind λ_ _=>.ret trivial) λs3 _=>.ite (λ_=>(Ok.app (by simp;omega)).bind λz hz=>.ret ?_) λ_=>.ret ⟨⟨by grind,a2,by grind,by grind⟩,by grind⟩;grind
variable{i:Int}
theorem z2z(h0:0<=i)(h1:i<d.2.2.2.length)(y:Int): Ok (zFp d i y) λ_=>True:=by
 have hp:=h.l.pos;unfold zFp;refine Ok.seqE (I:=λ_=>True) ?_ (λ_ _=>(Ok.idx (Ql 0) (by omega)).bind λ_ _=>.ret trivial) λ_ _=>trivial;refine Ok.wh41 (λt:Int=>0<=t/\t<d.2.2.2.length) (λt=>t.toNat) (λt ht=>?_) _ _ (Qd _) ⟨h0,h1⟩;unfold zJK;refine .ite (λhc=>?_) λ_=>.ret trivial;rw[Qb] at hc;refine Ok.bind (I:=λ_:Bool=>True) ((Ok.idx ht.1 ht.2).bind λ_ _=>.ite (λ_=>(Ok.idx ht.1 ht.2).bind λ_ _=>.ret trivial) λ_=>.ret trivial) λs3 _=>.ite (λ_=>.ret trivial) λ_=>(h.l.idx ht.1 ht.2).bind λx hx=>.ret (by grind)
end
end
section
def MvO (x:yJ): Prop:=(0<=x.1/\x.1<=2)/\(0<=x.2.2.1/\x.2.2.1<=1000)/\0<=x.2.2.2/\x.2.2.2<=400
section
variable {d:uF}(h:WkD d)
include h
theorem k_att3{x1:Int}{s2:List yJ×Int}{b:Bool}: Ok (zN (zHD d x1 s2) (b,0)) λ_=>True:=by
 have hb:=h.l.big;refine Ok.wh41 (λt:Bool×Int=>0<=t.2/\t.2<=d.2.2.2.length) (λt=>((d.2.2.2.length:Int)-t.2).toNat) (λt ht=>?_) _ _ (Qd _) ⟨Ql 0,by grind⟩;unfold zHD;refine .ite (λhc=>?_) λ_=>.ret trivial;rw[Qb] at hc;simp only[len] at hc;have hw:zE (t.2+1)=t.2+1:=qN (by omega) (by omega);rw[hw];refine Ok.bind (I:=λ_:Bool=>True) ?_ λs3 _=>.ret (by grind);repeat' first
  | refine Ok.ite (λ_=>?_) λ_=>?_
  | refine(Ok.idx (by omega) (by omega)).bind λ_ _=>?_
  | exact Ok.ret trivial
theorem k_att2{x1 r2:Int}(h0:0<=x1)(h1:x1<d.2.2.2.length)(hr:r2=1\/r2=2){s1:List yJ×Int}(i0:0<=s1.2)(i1:s1.2<400)(ha:(s1.1.length:Int)<=1000*s1.2)(hm:∀ x∈s1.1,MvO x):
  Ok (zN (zGx d x1 r2 s1) (s1.1,0)) λr=>match r with | .inl t=>(t.1.length:Int)<=1000*t.2/\(∀ x∈t.1,MvO x)/\t.2=s1.2+1 | .inr _=>False:=by
 have hb:=h.l.big;have hg:=h.g.n;refine Ok.wh41 (λt:List yJ×Int=>(t.1.length:Int)<=1000*s1.2+t.2/\(∀ x∈t.1,MvO x)/\0<=t.2/\t.2<=d.1.1) (λt=>(d.1.1-t.2).toNat) (λt ht=>?_) _ _ (Qd _) ⟨by grind,hm,Ql 0,by grind⟩;obtain⟨a1,a2,a3,a4⟩:=ht;have hw1:zE (s1.2+1)=s1.2+1:=qN (by omega) (by omega);have hw:zE (t.2+1)=t.2+1:=qN (by omega) (by omega);have hw3:zE (3-r2)=3-r2:=qN (by omega) (by omega);unfold zGx;rw[hw,hw1,hw3];refine .ite (λhc=>?_) λ_=>.ret ⟨by grind,a2,rfl⟩;rw[Qb] at hc;refine(Ok.idx h0 (by omega)).bind λx3 _=>?_;rw[z9j d.1.1 d.1.2 (by have:=h.g.len;omega),zob];refine(k_att3 h).bind λs3 _=>Ok.bind (I:=λ_:Bool=>True) (.ite (λ_=>.ite (λ_=>.ret trivial) λ_=>(z2z h h0 h1 _).bind λ_ _=>.ret trivial) λ_=>.ret trivial) λs6 _=>.ite (λ_=>(Ok.app (by simp;omega)).bind λz hz=>.ret ?_) λ_=>.ret ⟨⟨by grind,a2,by grind,by grind⟩,by grind⟩;rw[hz];refine⟨⟨by simp;omega,λx hx=>?_,by grind,by grind⟩,by grind⟩;grind [MvO]
theorem zTQ:Ok (zDU d) λr=>r.length<=400000/\∀ x∈r,MvO x:=by
 have hb:=h.l.big;have hp:=h.l.pos;unfold zDU;refine(zPs h).bind λr1 h1=>(zSy (by omega)).bind λr2 h2=>(z5x h).bind λr3 h3=>?_;obtain⟨b1,b2⟩:=h3;refine Ok.wh41 (λt:List yJ×Int=>(t.1.length:Int)<=1000*t.2/\(∀ x∈t.1,MvO x)/\0<=t.2/\t.2<=r3.length) (λt=>((r3.length:Int)-t.2).toNat) (λt ht=>?_) _ _ (Qd _) ⟨by simp,by simp,by simp,by simp⟩;obtain⟨a1,a2,a3,a4⟩:=ht;unfold zKc;refine .ite (λhc=>?_) λ_=>.ret ⟨by omega,a2⟩;rw[Qb] at hc;simp only[len] at hc;have hw:zE (t.2+1)=t.2+1:=qN (by omega) (by omega);refine(Ok.idx a3 hc).bind λx1 hx1=>?_;have hx:=b2 x1 hx1.1;refine(Ok.idx hx.1 hx.2).bind λx2 _=>.ite (λ_=>.ret (by grind)) λ_=>?_;refine(k_att2 h hx.1 hx.2 h2 a3 (by omega) a1 a2).imp λr hr=>?_;grind
theorem k_end:Ok (zLy d) λr=>r=(0,0)->d.2.2.2.length<200:=by
 have hb:=h.l.big;have hp:=h.l.pos;have hw:zE (len d.2.2.2-1)=(d.2.2.2.length:Int)-1:=qN (by grind) (by grind);unfold zLy;rw[hw];refine(Ok.idx (by omega) (by omega)).bind λx1 _=>.ite (λ_=>.ret λe=>absurd (congrArg Prod.snd e) (by grind)) λ_=>(zPs h).bind λr1 h1=>(zSy (by omega)).bind λr2 h2=>Ok.bind (I:=λ_:Int=>True) ?_ λs1 _=>.ite (λ_=>.ret λe=>absurd (congrArg Prod.snd e) (by grind)) λhc=>?_
 ·refine Ok.wh41 (λt:Int×Int=>0<=t.2/\t.2<=d.2.2.2.length) (λt=>((d.2.2.2.length:Int)-t.2).toNat) (λt ht=>?_) _ _ (Qd _) ⟨Ql 0,by grind⟩;unfold zOv;refine .ite (λhc=>?_) λ_=>.ret trivial;rw[Qb] at hc;simp only[len] at hc;have hw:zE (t.2+1)=t.2+1:=qN (by omega) (by omega);rw[hw];exact(Ok.idx ht.1 hc).bind λ_ _=>.ite (λ_=>.ret (by dsimp only;omega)) λ_=>.ret (by dsimp only;omega)
 ·have hc:¬ (200:Int)<=len d.2.2.2:=by simpa using hc
  simp only[len] at hc;have hw2:zE (2-r2)=2-r2:=qN (by omega) (by omega);rw[hw2];exact(Ok.idx (by omega) (by simp;omega)).bind λ_ _=>.ite (λ_=>.ret λe=>absurd (congrArg Prod.snd e) (by grind)) λ_=>(zTQ h).bind λ_ _=>.ite (λ_=>.ret λe=>absurd (congrArg Prod.snd e) (by grind)) λ_=>.ret λ_=>by omega
theorem z5U:Ok (zGP d) λr=>r≠0->d.2.2.2.length<200:=by
 have hp:=h.l.pos;unfold zGP;refine(k_end h).bind λr1 h1=>.ite (λ_=>.ret λe=>absurd rfl e) λhc=>(zPs h).bind λr2 h2=>(zSy (by omega)).bind λr3 _=>.ret λ_=>h1 (by grind)
theorem z9J:Ok (zGe d) λr=>r.length<=400000/\∀ x∈r,MvO x:=by
 unfold zGe;exact(z5U h).bind λr1 _=>.ite (λ_=>.ret ⟨by simp,by simp⟩) λ_=>(zTQ h).bind λr2 h2=>.ret h2
theorem z9k (m:yJ): Ok (zIq d m) λr=>r.2=0->WkD r.1:=by
 have hb:=h.l.big;have hp:=h.l.pos;unfold zIq;refine(z5U h).bind λr1 h1=>.ite (λ_=>.ret nofun) λhc=>.ite (λ_=>.ret nofun) λ_=>(z5U h).bind λr2 _=>.ite (λ_=>.ret nofun) λ_=>?_;have hlt:=h1 (by grind);refine Ok.seqE (I:=λo:(Int×Int)⊕(uF×Int)=>match o with | .inl z=>0<=z.2/\z.2<d.2.2.2.length | .inr z=>z.2≠0) ?_ (λs1 hs1=>?_) (λr hr e=>absurd e hr)
 ·refine .ite (λ_=>.ite (λ_=>.ret (by grind)) λhq=>Ok.bind (I:=λ_:Bool=>True) ((zTQ h).bind λr3 h3=>?_) λs2 _=>.ite (λ_=>.ret (by grind)) λ_=>.ret ?_) λ_=>.ite (λ_=>.ite (λ_=>.ret (by grind)) λhq=>?_) λ_=>.ret ⟨Ql 0,by grind⟩
  ·refine Ok.wh41 (λt:Bool×Int=>0<=t.2/\t.2<=r3.length) (λt=>((r3.length:Int)-t.2).toNat) (λt ht=>?_) _ _ (Qd _) ⟨Ql 0,by grind⟩;have h4:=h3.1;unfold zMh;refine .ite (λhc=>?_) λ_=>.ret trivial;rw[Qb] at hc;simp only[len] at hc;have hw:zE (t.2+1)=t.2+1:=qN (by omega) (by omega);rw[hw];exact(Ok.idx ht.1 hc).bind λ_ _=>.ret (by grind)
  ·grind
  ·simp[len] at hq;have hq1:0<=m.2.2.2/\m.2.2.2<d.2.2.2.length:=by omega
   exact(Ok.idx hq1.1 hq1.2).bind λx2 _=>Ok.bind (I:=λ_:Bool=>True) (.ite (λ_=>.ret trivial) λ_=>.ite (λ_=>.ret trivial) λ_=>(zPs h).bind λr4 h4=>(Ok.idx hq1.1 (by omega)).bind λ_ _=>.ret trivial) λs4 _=>.ite (λ_=>.ret (by grind)) λ_=>.ret hq1
 ·rw[zCP (by omega),zob,yI (by simp;omega),zob,zob];refine .ret λ_=>⟨⟨by simp;omega,by simp,λi x hx=>?_⟩,h.g⟩;rw[List.getElem?_append] at hx;split at hx
  ·exact h.l.tg i x hx
  grind
end
theorem zRL{g:uA}(hL:g.2.length<=10000): Ok (zCy g) λe=>e=0->0<=g.1/\g.1<=40:=by
 unfold zCy;refine .ite (λ_=>.ret nofun) λhc=>?_;rw[Uo,QM,QM] at hc;refine Ok.imp (I:=λ_:Int=>True) ?_ λ_ _ _=>by omega
 refine Ok.wh41 (λt:Int=>0<=t/\t<=g.2.length) (λt=>((g.2.length:Int)-t).toNat) (λt ht=>?_) _ _ (Qd _) ⟨Ql 0,by omega⟩;unfold zJ4;refine .ite (λhc=>?_) λ_=>.ret trivial;rw[Qb] at hc;simp only[len] at hc;have hw:zE (t+1)=t+1:=qN (by omega) (by omega);have hw2:zE (t-1)=t-1:=qN (by omega) (by omega);rw[hw,hw2];refine(Ok.idx ht.1 hc).bind λx1 _=>.ite (λ_=>.ret trivial) λ_=>Ok.bind (I:=λ_:Bool=>True) (.ite (λh0=>?_) λ_=>.ret trivial) λs2 _=>.ite (λ_=>.ret trivial) λ_=>.ret (by grind);rw[Qb] at h0;repeat' first
  | refine Ok.ite (λ_=>?_) λ_=>?_
  | refine(Ok.idx (by omega) (by omega)).bind λ_ _=>?_
  | exact Ok.ret trivial
theorem k_new{g:uA}(hL:g.2.length<=10000)(r:Int)(q:Int×Int): Ok (zML g r q) λz=>z.2=0->WkD z.1:=by
 unfold zML;refine(zRL hL).bind λr1 h1=>.ite (λhc=>.ret λe=>absurd e (by grind)) λhc=>.ite (λ_=>.ret nofun) λ_=>.ret λ_=>?_;have hg:=h1 (by grind);refine⟨⟨by simp,by simp,λi m hm=>?_⟩,⟨by grind,hL⟩⟩;grind
end
section
def SkL (l:List qR): Prop:=l.length<=60/\∀ c∈l,c.2.2.2.length<=1000
def SkS (s:List (List qR)): Prop:=s.length<=6/\∀ l∈s,SkL l
theorem s_in{l:List zH}(hl:l.length<=1000)(y:zH): Ok (zEM l y) λ_=>True:=by
 unfold zEM;refine Ok.forI (λi (_:Unit)=>(i:Int)) l (λ_ _=>True) _ (λi x _ hx _=>?_) (λ_ _=>?_) () trivial
 ·have hi:=yK hx;unfold zLk;rw[yY hx,Qi rfl,uB,hx,zob];exact .ite (λ_=>.ret trivial) λ_=>.ret ⟨(),by rw[wE i (by omega)],trivial⟩
 ·unfold zLk;rw[uW];exact .ret trivial
theorem zL1{l:List qR}(hl:l.length<=1000)(y:zH): Ok (zBF l y) λr=>r<l.length:=by
 unfold zBF;refine Ok.forI (λi (_:Unit)=>(i:Int)) l (λ_ _=>True) _ (λi x _ hx _=>?_) (λ_ _=>?_) () trivial
 ·have hi:=yK hx;unfold zJJ;rw[yY hx,Qi rfl,uB,hx,zob];exact .ite (λ_=>.ret (show(i:Int)<l.length by omega)) λ_=>.ret ⟨(),by rw[wE i (by omega)],trivial⟩
 ·unfold zJJ;rw[uW];exact .ret (show(-1:Int)<l.length by omega)
theorem s_asc{l:List zH}(hl:l.length<=1000): Ok (zDW l) λ_=>True:=by
 unfold zDW;refine Ok.wh41 (λt:Int=>1<=t/\t<=1001) (λt=>(2000-t).toNat) (λt ht=>?_) _ _ (Qd _) ⟨by omega,by omega⟩;unfold zIe;refine .ite (λhc=>?_) λ_=>.ret trivial;rw[Qb] at hc;simp only[len] at hc;rw[qN (show -9223372036854775808<=t-1 by omega) (by omega),qN (show -9223372036854775808<=t+1 by omega) (by omega)];refine(Ok.idx (by omega) (by omega)).bind λx1 _=>(Ok.idx (by omega) (by omega)).bind λx2 _=>?_;rw[zJd,zob];exact .ite (λ_=>.ret trivial) λ_=>.ret (by grind)
theorem z9S{l:List qR}(h:SkL l): Ok (zIu l) λr=>r.1=Aj->l.length<=40:=by
 obtain⟨h1,h2⟩:=h;unfold zIu;refine Ok.bind (I:=λr:Bool×Bool×Bool×Bool×Bool=>r.1=Aj->l.length<=40) ?_ λr hr=>.ret hr;refine Ok.wh41 (λt:Int×Bool×Bool×Bool×Bool×Bool=>(t.2.1=Aj->l.length<=40)/\0<=t.1/\t.1<=l.length) (λt=>((l.length:Int)-t.1).toNat) (λt ht=>?_) _ _ (Qd _) ⟨λe=>by
  grind,Ql 0,by grind⟩
 obtain⟨a1,a2,a3⟩:=ht;unfold zM6;refine .ite (λhc=>?_) λ_=>.ret a1;rw[Qb] at hc;simp only[len] at hc;have hw:zE (t.1+1)=t.1+1:=qN (by omega) (by omega);refine(Ok.idx a2 hc).bind λx1 hx1=>?_;have hg:=h2 x1 hx1.1;refine Ok.bind (I:=λb:Bool=>b=Aj->l.length<=40) (.ite (λe=>.ret λ_=>a1 e) λ_=>.ret nofun) λs3 h3=>Ok.bind (I:=λ_:Bool=>True) (.ite (λ_=>?_) λ_=>.ret trivial) λs4 _=>Ok.bind (I:=λ_:Bool=>True) ?_ λs5 _=>Ok.bind (I:=λ_:Bool=>True) (.ite (λ_=>(s_asc hg).bind λr3 _=>.ite (λ_=>.ite (λ_=>.ret trivial) λh0=>?_) λ_=>.ret trivial) λ_=>.ret trivial) λs8 _=>Ok.bind (I:=λ_:Bool=>True) ?_ λs9 _=>Ok.bind (I:=λ_:Bool=>True) (.ite (λ_=>?_) λ_=>.ret trivial) λs10 _=>.ret (by grind)
 ·rw[zBw];exact .ret trivial
 ·refine Ok.wh41 (λt:Int×Bool=>0<=t.1/\t.1<=x1.2.2.2.length) (λt=>((x1.2.2.2.length:Int)-t.1).toNat) (λt ht=>?_) _ _ (Qd _) ⟨Ql 0,by grind⟩;unfold zM2;refine .ite (λhc=>?_) λ_=>.ret trivial;rw[Qb] at hc;simp only[len] at hc;have hw:zE (t.1+1)=t.1+1:=qN (by omega) (by omega);refine Ok.bind (I:=λ_:Bool=>True) (.ite (λ_=>(Ok.idx ht.1 hc).bind λx2 _=>?_) λ_=>.ret trivial) λs7 _=>.ret (by grind);rw[zBw];exact .ret trivial
 ·have h0:t.1≠0:=by simpa using h0
  rw[qN (show -9223372036854775808<=t.1-1 by omega) (by omega)];refine(Ok.idx (by omega) (by omega)).bind λx3 _=>?_;rw[zJd];exact .ret trivial
 ·repeat' first
   | refine Ok.ite (λ_=>?_) λ_=>?_
   | refine(s_in hg _).bind λ_ _=>?_
   | exact Ok.ret trivial
 ·unfold zDK;rw[zob];exact(zL1 (by omega) _).bind λ_ _=>.ret trivial
theorem z26{s:List (List qR)}(h:SkS s): Ok (zFm s) λr=>r=0->∀ l∈s,l.length<=40:=by
 obtain⟨h1,h2⟩:=h;unfold zFm;refine .ite (λ_=>.ret nofun) λ_=>?_;refine Ok.wh41 (λt:Int=>0<=t/\t<=5/\(1<=t->∀ l∈s,l.length<=40)) (λt=>(5-t).toNat) (λt ht=>?_) _ _ (Qd _) ⟨Ql 0,by omega,λe=>by omega⟩;obtain⟨a1,a2,a3⟩:=ht;unfold zJ8;refine .ite (λhc=>?_) λhc=>.ret λ_=>a3 (by grind);rw[Qb] at hc;refine Ok.wh41 (λu:Int=>0<=u/\u<=s.length/\(1<=t->∀ l∈s,l.length<=40)/\(t=0->∀(j:Nat) l,(j:Int)<u->s[j]?=Ah l->l.length<=40)) (λu=>((s.length:Int)-u).toNat) (λu hu=>?_) _ _ (Qd _) ⟨Ql 0,by omega,a3,λ_ j l hj=>by omega⟩;obtain⟨b1,b2,b3,b4⟩:=hu;have hw:zE (u+1)=u+1:=qN (by omega) (by omega);have hw2:zE (t+1)=t+1:=qN (by omega) (by omega);unfold zJX;rw[hw,hw2];refine .ite (λhc2=>?_) λhc2=>.ret ?_
 ·rw[Qb] at hc2;simp only[len] at hc2;refine(Ok.idx b1 hc2).bind λx1 hx1=>(z9S (h2 x1 hx1.1)).bind λr1 hr1=>(Ok.idx a1 (by simp;omega)).bind λx2 hx2=>.ite (λ_=>(Ok.idx a1 (by simp;omega)).bind λx3 hx3=>.ret ?_) λhb=>.ret ?_
  ·grind
  ·refine⟨⟨by omega,by omega,b3,λe j l hj hl=>?_⟩,by omega⟩;grind
 ·rw[QM] at hc2;simp only[len] at hc2;grind [List.mem_iff_getElem?]
end
section
def SlK (k:Nat)(l:List qR): Prop:=l.length<=k/\∀ c∈l,c.2.2.2.length<=1000
theorem zZ3{l:List qR}{k:Nat}(hk:k<=1000)(h:SlK k l){c:qR}(hc:c.2.2.2.length<=1000): Ok (zDe l c) λr=>SlK (k+1) r:=by
 obtain⟨h1,h2⟩:=h;unfold zDe;refine Ok.bind (I:=λt:List qR×Int=>0<=t.2/\t.2<=l.length/\(t.1.length:Int)=t.2/\∀ c∈t.1,c.2.2.2.length<=1000) ?_ λs1 hs1=>?_
 ·refine Ok.wh41 (λt:List qR×Int=>0<=t.2/\t.2<=l.length/\(t.1.length:Int)=t.2/\∀ c∈t.1,c.2.2.2.length<=1000) (λt=>((l.length:Int)-t.2).toNat) (λt ht=>?_) _ _ (Qd _) ⟨Ql 0,by grind,rfl,by simp⟩;obtain⟨a1,a2,a3,a4⟩:=ht;unfold zNb;refine Ok.bind (I:=λb:Bool=>b=Aj->t.2<l.length) (.ite (λhc=>?_) λ_=>.ret nofun) λs3 h3=>.ite (λe=>?_) λ_=>.ret ⟨a1,a2,a3,a4⟩
  ·rw[Qb] at hc;simp only[len] at hc;grind [Ok.idx,zJd,Ok]
  ·have hlt:=h3 e;rw[qN (show -9223372036854775808<=t.2+1 by omega) (by omega)];grind [List.mem_singleton,Ok,zD,qG]
 ·obtain⟨a1,a2,a3,a4⟩:=hs1;rw[yI (by simp;omega),zob];refine Ok.bind (I:=λi:Int=>s1.2<=i/\i<=l.length) (Ok.bind (I:=λb:Bool=>b=Aj->s1.2<l.length) (.ite (λhc=>?_) λ_=>.ret nofun) λs5 h5=>.ite (λe=>.ret ?_) λ_=>.ret ⟨Ql _,a2⟩) λs4 h4=>?_
  ·rw[Qb] at hc;simp only[len] at hc;grind [Ok.idx,Ok]
  ·grind [qN]
  ·rw[zLz (by omega) (by omega),zob,yI (by simp;omega),zob];refine .ret ⟨by simp;omega,λx hx=>?_⟩;grind
section
variable {s:List (List qR)}(h:SkS s)(hs:∀ l∈s,l.length<=40){x:zB6}(x0:0<=x.2.1)(x1:x.2.1<s.length)
include h hs x0 x1
variable{i:Int}
omit x0 x1 in
theorem zTM(h0:0<=i)(h1:i<s.length): Ok (zD s i) λl=>SlK 40 l:=(Ok.idx h0 h1).imp λl hl=>⟨hs l hl.1,(h.2 l hl.1).2⟩
omit hs x0 x1 in
theorem z4a(h0:0<=i)(h1:i<s.length){l:List qR}(hl:SlK 60 l): Ok (zEr s i l) SkS:=by
 have h6:=h.1;unfold zEr;rw[zCP (by omega),zob];refine(Ok.idx h0 h1).bind λ_ _=>.ret ⟨by grind,λz hz=>?_⟩;rcases List.mem_or_eq_of_mem_set hz with hz | rfl
 ·exact h.2 z hz
 ·exact hl
omit h hs x0 x1 in
theorem SlK.mono{a b:Nat}{l:List qR}(h:SlK a l)(hab:a<=b): SlK b l:=⟨Qw h.1 hab,h.2⟩
theorem z8E:Ok (zHs s x) λr=>r.2=0->SkS r.1:=by
 unfold zHs zDK;refine(zTM h hs x0 x1).bind λl hl=>(zL1 (by have:=hl.1;omega) _).bind λr1 h1=>Ok.bind (I:=λ_:Bool=>True) (.ite (λhc=>(Ok.idx (by grind) h1).bind λ_ _=>.ret trivial) λ_=>.ret trivial) λs1 _=>.ite (λ_=>.ret nofun) λ_=>?_;rw[zob];exact(zL1 (by have:=hl.1;omega) _).bind λ_ _=>.ite (λ_=>.ret nofun) λ_=>.ite (λ_=>.ret nofun) λ_=>(zZ3 (by omega) hl (by simp)).bind λr4 h4=>(z4a h x0 x1 (h4.mono (by omega))).bind λr5 h5=>.ret λ_=>h5
theorem z0f (y0:0<=x.2.2.1)(y1:x.2.2.1<s.length): Ok (zFB s x) λr=>r.2=0->SkS r.1:=by
 unfold zFB;refine .ite (λ_=>.ret nofun) λ_=>(zTM h hs y0 y1).bind λl hl=>(zL1 (by have:=hl.1;omega) _).bind λr1 h1=>Ok.bind (I:=λb:Bool=>b=Ak->0<=r1) (.ite (λ_=>.ret nofun) λhc=>?_) λs1 hs1=>.ite (λ_=>.ret nofun) λe=>?_
 ·grind [Ok.idx,Ok]
 ·exact(Ok.idx (hs1 e) h1).bind λ_ _=>.ite (λ_=>.ret nofun) λ_=>(zTM h hs x0 x1).bind λl2 hl2=>(zL1 (by have:=hl2.1;omega) _).bind λ_ _=>.ite (λ_=>.ret nofun) λ_=>(zZ3 (by omega) hl (by simp)).bind λr4 h4=>(z4a h y0 y1 (h4.mono (by omega))).bind λr5 h5=>.ret λ_=>h5
theorem z5Y:Ok (zGy s x) λr=>r.2=0->SkS r.1:=by
 have h6:=h.1;unfold zGy zDK;refine(zTM h hs x0 x1).bind λl hl=>Ok.bind (I:=λ_:Bool=>True) ?_ λs1 _=>(zL1 (by have:=hl.1;omega) _).bind λr1 h1=>.ite (λ_=>.ret nofun) λ_=>.ite (λ_=>.ret nofun) λ_=>?_
 ·refine Ok.wh41 (λt:Bool×Int=>0<=t.2/\t.2<=s.length) (λt=>((s.length:Int)-t.2).toNat) (λt ht=>?_) _ _ (Qd _) ⟨Ql 0,by grind⟩;unfold zKG;refine .ite (λhc=>?_) λ_=>.ret trivial;rw[Qb] at hc;simp only[len] at hc;rw[qN (show -9223372036854775808<=t.2+1 by omega) (by omega)];exact Ok.bind (I:=λ_:Bool=>True) (.ite (λ_=>.ret trivial) λ_=>.ite (λ_=>(zTM h hs ht.1 hc).bind λl2 hl2=>(zL1 (by have:=hl2.1;omega) _).bind λ_ _=>.ret trivial) λ_=>.ret trivial) λs3 _=>.ret (by grind)
 ·rw[zob];exact(zL1 (by have:=hl.1;omega) _).bind λ_ _=>.ite (λ_=>.ret nofun) λ_=>.ite (λ_=>.ret nofun) λ_=>(zZ3 (by omega) hl (by simp)).bind λr4 h4=>(z4a h x0 x1 (h4.mono (by omega))).bind λr5 h5=>.ret λ_=>h5
theorem z4r:Ok (zHE s x) λr=>r.2=0->SkS r.1:=by
 unfold zHE;refine(zTM h hs x0 x1).bind λl hl=>(zL1 (by have:=hl.1;omega) _).bind λr1 h1=>.ite (λ_=>.ret nofun) λ_=>Ok.bind (I:=SlK 40) ?_ λs1 hs1=>(z4a h x0 x1 (hs1.mono (by omega))).bind λr3 h3=>.ret λ_=>h3;obtain⟨l1,l2⟩:=hl;refine Ok.wh41 (λt:List qR×Int=>(t.1.length:Int)<=t.2/\t.2<=l.length/\∀ c∈t.1,c.2.2.2.length<=1000) (λt=>((l.length:Int)-t.2).toNat) (λt ht=>?_) _ _ (Qd _) ⟨Ql 0,by grind,by simp⟩;obtain⟨a1,a2,a3⟩:=ht;unfold zKK;refine .ite (λhc=>?_) λ_=>.ret ⟨by omega,a3⟩;rw[Qb] at hc;simp only[len] at hc;rw[qN (show -9223372036854775808<=t.2+1 by omega) (by omega)];refine(Ok.idx (by omega) hc).bind λx2 hx2=>.ite (λ_=>.ret ⟨⟨by grind,by grind,a3⟩,by grind⟩) λ_=>Ok.bind (I:=λz:Bool×Bool×List zH=>z.2.2.length<=1000) ((s_in (l2 x2 hx2.1) _).bind λ_ _=>.ite (λ_=>.ret (by simp)) λ_=>.ret (l2 x2 hx2.1)) λs3 h3=>(Ok.app (by simp;omega)).bind λz hz=>.ret ?_;grind
omit h hs x0 x1 in
theorem z4j{l:List qR}(hl:l.length<=40): Ok (zGo l x) λr=>r=0->x.2.2.2.2.length<=6:=by
 unfold zGo;refine .ite (λ_=>.ret nofun) λ_=>.ite (λ_=>.ret nofun) λhc=>?_;have hc:¬ (6:Int)<len x.2.2.2.2:=by simpa using hc
 simp only[len] at hc;refine Ok.seqE (I:=λo:Unit⊕Int=>match o with | .inl _=>True | .inr r=>r≠0) ?_ (λ_ _=>(s_asc (by omega)).bind λr2 _=>.ite (λ_=>.ret nofun) λ_=>(s_in (by omega) _).bind λr3 _=>.ite (λ_=>.ret nofun) λ_=>Ok.seqE (I:=λo:Int⊕Int=>match o with | .inl _=>True | .inr r=>r≠0) ?_ (λs3 _=>.ite (λ_=>.ret nofun) λ_=>.ret λ_=>by omega) (λr hr e=>absurd e hr)) (λr hr e=>absurd e hr)
 ·refine Ok.wh41 (λt:Int=>0<=t/\t<=6) (λt=>(6-t).toNat) (λt ht=>?_) _ _ (Qd _) ⟨Ql 0,by omega⟩;unfold zKa;refine .ite (λhc=>?_) λ_=>.ret trivial;rw[Qb] at hc;simp only[len] at hc;rw[qN (show -9223372036854775808<=t+1 by omega) (by omega)];refine(Ok.idx ht.1 hc).bind λx1 _=>?_;rw[zBw,zob];exact .ite (λ_=>.ret (by grind)) λ_=>.ret (by grind)
 ·refine Ok.wh41 (λt:Int×Int=>0<=t.2/\t.2<=6) (λt=>(6-t.2).toNat) (λt ht=>?_) _ _ (Qd _) ⟨Ql 0,by grind⟩;unfold zKM zDK;refine .ite (λhc=>?_) λ_=>.ret trivial;rw[Qb] at hc;simp only[len] at hc;rw[qN (show -9223372036854775808<=t.2+1 by omega) (by omega)];refine Ok.bind (I:=λ_:Bool=>True) ((Ok.idx ht.1 hc).bind λx2 _=>?_) λs5 _=>.ite (λ_=>.ret (by grind)) λ_=>(Ok.idx ht.1 hc).bind λx4 _=>(zL1 (by omega) _).bind λ_ _=>.ite (λ_=>.ret (by grind)) λ_=>.ret (by grind);rw[zob];refine(zL1 (by omega) _).bind λ_ _=>.ite (λ_=>.ret trivial) λ_=>(Ok.idx ht.1 hc).bind λx3 _=>?_;rw[zob];exact(s_in (by omega) _).bind λ_ _=>.ret trivial
theorem z8v:Ok (zIi s x) λr=>r.2=0->SkS r.1:=by
 unfold zIi;refine(zTM h hs x0 x1).bind λl hl=>(zL1 (by have:=hl.1;omega) _).bind λr1 h1=>Ok.bind (I:=λ_:Bool=>True) (.ite (λ_=>.ret trivial) λhc=>(Ok.idx (by grind) h1).bind λ_ _=>.ret trivial) λs1 _=>.ite (λ_=>.ret nofun) λ_=>(z4j hl.1).bind λr2 h2=>.ite (λhc=>.ret λe=>absurd e (by grind)) λhc=>?_;have h6:=h2 (by grind);rw[zCP (by omega),zob];refine(zZ3 (by omega) hl (by grind)).bind λr3 h3=>Ok.bind (I:=SlK 60) ?_ λs2 hs2=>(z4a h x0 x1 hs2).bind λr6 h6=>.ret λ_=>h6;refine Ok.wh41 (λt:List qR×Int=>0<=t.2/\t.2<=6/\SlK (41+t.2.toNat) t.1) (λt=>(6-t.2).toNat) (λt ht=>?_) _ _ (Qd _) ⟨Ql 0,by grind,h3⟩;obtain⟨a1,a2,a3⟩:=ht;unfold zMk;refine .ite (λhc=>?_) λ_=>.ret (a3.mono (by omega));rw[Qb] at hc;simp only[len] at hc;rw[qN (show -9223372036854775808<=t.2+1 by omega) (by omega)];refine(Ok.idx a1 hc).bind λx4 _=>(zL1 (by have:=a3.1;omega) _).bind λ_ _=>.ite (λ_=>(Ok.idx a1 hc).bind λx5 _=>(zZ3 (by omega) a3 (by simp)).bind λr5 h5=>.ret ⟨⟨by grind,by grind,h5.mono (by grind)⟩,by grind⟩) λ_=>.ret ⟨⟨by grind,by grind,a3.mono (by grind)⟩,by grind⟩
end
theorem s_say{s:List (List qR)}(h:SkS s)(x:zB6): Ok (zLh s x) λr=>r.2=0->SkS r.1:=by
 unfold zLh zHa;refine(z26 h).bind λr1 h1=>.ite (λhc=>.ret λe=>absurd e (by grind)) λhc=>.ite (λ_=>.ret nofun) λ_=>?_;have hs:=h1 (by grind);refine Ok.bind (I:=λb:Bool=>b=Ak->(0<=x.2.1/\x.2.1<s.length)/\(x.1=2->0<=x.2.2.1/\x.2.2.1<s.length)) ?_ λb hb=>.ite (λ_=>.ret nofun) λe=>?_
 ·rw[zob];refine .ite (λ_=>.ret nofun) λe1=>?_;simp[len] at e1;refine .ite (λ_=>?_) λe2=>.ret λ_=>⟨by omega,λe3=>absurd e3 (by grind)⟩;rw[zob];refine .ret λe2=>⟨by omega,λ_=>?_⟩;grind
 ·obtain⟨⟨x0,x1⟩,hy⟩:=hb e;rw[zBw,zob];refine .ite (λ_=>.ret nofun) λ_=>.ite (λ_=>(z8E h hs x0 x1).bind λr hr=>.ret hr) λ_=>.ite (λe2=>?_) λ_=>.ite (λ_=>(z8v h hs x0 x1).bind λr hr=>.ret hr) λ_=>.ite (λ_=>(z5Y h hs x0 x1).bind λr hr=>.ret hr) λ_=>(z4r h hs x0 x1).bind λr hr=>.ret hr;grind [z0f,Ok]
theorem s_new{n:Int}: Ok (zLi n) λr=>SkS r.1:=by
 unfold zLi;refine .ite (λ_=>.ret ⟨by simp,by simp⟩) λh=>?_;rw[Uo,QM,QM] at h;have hm:tI n n ([]:List qR)=Ah (List.replicate n.toNat []):=by
  unfold tI;rw[Qi ⟨by omega,by omega,by omega⟩]
 rw[hm,zob];refine .ret ⟨by simp;omega,λl hl=>?_⟩;grind [SkL]
end
section
structure GkG (g:uA): Prop where
 n:0<=g.1/\g.1<=40
 len:g.2.length<=10000
 at_:∀ p∈g.2,(0<=p.1/\p.1<g.1)/\0<=p.2/\p.2<g.1
def c3 (l:List Int): Nat:=l.count 3
theorem z8q{l:List Int}{i:Nat}{v:Int}(h:l[i]?=Ah 3)(hv:v≠3): c3 (l.set i v)<c3 l:=by grind [c3]
theorem zUV{g:uA}(h:GkG g)(y:Int): Ok (zD9 g y) λr=>r.length<=10000/\∀ x∈r,0<=x/\x<g.1:=by
 have hl:=h.len;unfold zD9 zMB;refine Ok.bind (I:=λz:uA=>z.2.length<=10000/\∀ p∈z.2,0<=p.1/\p.1<g.1) ((zRL hl).bind λe _=>?_) λr1 h1=>?_
 ·exact .ite (λ_=>.ret ⟨by simp,by simp⟩) λ_=>.ret ⟨hl,λp hp=>(h.at_ p hp).1⟩
 ·obtain⟨b1,b2⟩:=h1;refine Ok.wh41 (λt:List Int×Int=>(t.1.length:Int)<=t.2/\t.2<=r1.2.length/\∀ x∈t.1,0<=x/\x<g.1) (λt=>((r1.2.length:Int)-t.2).toNat) (λt ht=>?_) _ _ (Qd _) ⟨Ql 0,by grind,by simp⟩;obtain⟨a1,a2,a3⟩:=ht;unfold zIb;refine .ite (λhc=>?_) λ_=>.ret ⟨by omega,a3⟩;rw[Qb] at hc;simp only[len] at hc;rw[qN (show -9223372036854775808<=t.2+1 by omega) (by omega)];refine(Ok.idx (by omega) hc).bind λx1 _=>.ite (λ_=>(Ok.idx (by omega) hc).bind λx2 hx2=>(Ok.app (by simp;omega)).bind λz hz=>.ret ?_) λ_=>.ret ⟨⟨by grind,by grind,a3⟩,by grind⟩;grind
section
variable {g:uA}(h:GkG g)
include h
abbrev LrI (g:uA)(a b:List Int): Prop:=(a.length:Int)=g.1/\(b.length:Int)=g.1
variable{x3:List Int}
theorem r_L4{r1:List Int}(hr:r1.length<=10000)(hr2:∀ x∈r1,0<=x/\x<g.1)(hx:(x3.length:Int)=g.1)(b:Bool): Ok (zN (zIL r1 x3) (b,0)) λr=>r=Aj->b=true:=by
 have _:=h;refine Ok.wh41 (λt:Bool×Int=>0<=t.2/\t.2<=r1.length/\(t.1=Aj->b=Aj)) (λt=>((r1.length:Int)-t.2).toNat) (λt ht=>?_) _ _ (Qd _) ⟨Ql 0,by grind,λe=>e⟩;obtain⟨a1,a2,a3⟩:=ht;unfold zIL;refine .ite (λhc=>?_) λ_=>.ret a3;rw[Qb] at hc;simp only[len] at hc;rw[qN (show -9223372036854775808<=t.2+1 by omega) (by omega)];refine(Ok.idx a1 hc).bind λx5 h5=>?_;have h6:=hr2 x5 h5.1;refine Ok.bind (I:=λc:Bool=>c=Aj->b=Aj) (.ite (λe=>(Ok.idx h6.1 (by omega)).bind λ_ _=>.ret λ_=>a3 e) λ_=>.ret nofun) λs8 h8=>.ret ⟨⟨by grind,by grind,h8⟩,by grind⟩
variable{s3:List Int×List Int×Int}
theorem r_L3(hx:x3=s3.1)(hI:LrI g s3.1 s3.2.1): Ok (zN (zI1 g x3 s3) (s3.1,s3.2.1,Ak,0)) λr=>LrI g r.1 r.2.1/\c3 r.1<=c3 s3.1/\(r.2.2=Aj->c3 r.1<c3 s3.1):=by
 have hn:=h.n;obtain⟨i1,i2⟩:=hI;refine Ok.wh41 (λt:List Int×List Int×Bool×Int=>LrI g t.1 t.2.1/\c3 t.1<=c3 s3.1/\(t.2.2.1=Aj->c3 t.1<c3 s3.1)/\0<=t.2.2.2/\t.2.2.2<=g.1/\∀ j:Nat,t.2.2.2<=j->t.1[j]?=x3[j]?) (λt=>(g.1-t.2.2.2).toNat) (λt ht=>?_) _ _ (Qd _) ⟨⟨i1,i2⟩,Qd _,nofun,Ql 0,hn.1,λj _=>by rw[hx]⟩;obtain⟨⟨a1,a2⟩,a3,a4,a5,a6,a7⟩:=ht;unfold zI1;refine .ite (λhc=>?_) λ_=>.ret ⟨⟨a1,a2⟩,a3,a4⟩;rw[Qb] at hc;rw[qN (show -9223372036854775808<=t.2.2.2+1 by omega) (by omega)];have hxl:(x3.length:Int)=g.1:=by rw[hx];exact i1
 refine(Ok.idx a5 (by omega)).bind λx4 h4=>Ok.bind (I:=λb:Bool=>b=Aj->x4=3) ((zUV h _).bind λr1 h1=>(r_L4 h h1.1 h1.2 hxl _).imp λr hr e=>by grind) λs6 h6=>.ite (λe=>(Ok.idx a5 (by omega)).bind λ_ _=>(Ok.idx a5 (by omega)).bind λ_ _=>.ret ?_) λ_=>.ret ⟨⟨⟨a1,a2⟩,a3,a4,by grind,by grind,λj hj=>a7 j (by grind)⟩,by dsimp only;omega⟩;have e3:=h6 e;have hq:t.1[t.2.2.2.toNat]?=Ah 3:=by rw[a7 _ (by omega),h4.2,e3]
 have hlt:=z8q (v:=1) hq (by decide);refine⟨⟨⟨by grind,by grind⟩,by grind,λ_=>by grind,by grind,by grind,λj hj=>?_⟩,by dsimp only;omega⟩;grind
theorem r_L6{r2:List Int}(hr:r2.length<=10000)(hr2:∀ x∈r2,0<=x/\x<g.1){s10 s3:List Int×List Int×Int}(j0:0<=s10.2.2)(j1:s10.2.2<g.1)(hI:LrI g s10.1 s10.2.1): Ok (zN (zI0 r2 s10 s3) (s10.1,s10.2.1,0)) λr=>match r with | .inl t=>LrI g t.1 t.2.1/\c3 t.1<=c3 s10.1/\t.2.2=s10.2.2+1 | .inr _=>False:=by
 have hn:=h.n;refine Ok.wh41 (λt:List Int×List Int×Int=>LrI g t.1 t.2.1/\c3 t.1<=c3 s10.1/\0<=t.2.2/\t.2.2<=r2.length) (λt=>((r2.length:Int)-t.2.2).toNat) (λt ht=>?_) _ _ (Qd _) ⟨hI,Qd _,Ql 0,by grind⟩;obtain⟨⟨a1,a2⟩,a3,a4,a5⟩:=ht;unfold zI0;rw[qN (show -9223372036854775808<=s10.2.2+1 by omega) (by omega)];refine .ite (λhc=>?_) λ_=>.ret ⟨⟨a1,a2⟩,a3,rfl⟩;rw[Qb] at hc;simp only[len] at hc;rw[qN (show -9223372036854775808<=t.2.2+1 by omega) (by omega)];refine(Ok.idx a4 hc).bind λx9 h9=>?_;have hx9:=hr2 x9 h9.1;refine Ok.bind (I:=λb:Bool=>b=Aj->t.1[s10.2.2.toNat]?=Ah 3) ((Ok.idx j0 (by omega)).bind λx10 h10=>.ite (λe=>(Ok.idx hx9.1 (by omega)).bind λ_ _=>?_) λ_=>.ret nofun) λs12 h12=>.ite (λe=>(Ok.idx j0 (by omega)).bind λ_ _=>(Ok.idx j0 (by omega)).bind λ_ _=>.ret ?_) λ_=>.ret ⟨⟨⟨a1,a2⟩,a3,by grind,by grind⟩,by grind⟩
 ·have e:x10=3:=by simpa using e
  exact .ite (λ_=>(Ok.idx hx9.1 (by omega)).bind λ_ _=>.ret λ_=>by grind) λ_=>.ret nofun
 ·have hlt:=z8q (v:=2) (h12 e) (by decide);grind
theorem r_L5{a b:List Int}(hI:LrI g a b): Ok (zN (zIU g s3) (a,b,0)) λr=>LrI g r.1 r.2/\c3 r.1<=c3 a:=by
 have hn:=h.n;refine Ok.wh41 (λt:List Int×List Int×Int=>LrI g t.1 t.2.1/\c3 t.1<=c3 a/\0<=t.2.2/\t.2.2<=g.1) (λt=>(g.1-t.2.2).toNat) (λt ht=>?_) _ _ (Qd _) ⟨hI,Qd _,Ql 0,hn.1⟩;obtain⟨a1,a3,a4,a5⟩:=ht;unfold zIU;refine .ite (λhc=>?_) λ_=>.ret ⟨a1,a3⟩;rw[Qb] at hc;refine(zUV h _).bind λr2 h2=>(r_L6 h h2.1 h2.2 (s10:=t) (s3:=s3) a4 hc a1).imp λr hr=>?_;grind
theorem z3w:Ok (zGl g) λr=>LrI g r.1 r.2:=by
 have hn:=h.n;unfold zGl;refine Ok.bind (I:=λr:List Int×List Int=>LrI g r.1 r.2) ?_ λs1 h1=>?_
 ·refine Ok.wh41 (λt:List Int×List Int×Int=>(t.1.length:Int)=t.2.2/\(t.2.1.length:Int)=t.2.2/\0<=t.2.2/\t.2.2<=g.1) (λt=>(g.1-t.2.2).toNat) (λt ht=>?_) _ _ (Qd _) ⟨rfl,rfl,Ql 0,hn.1⟩;obtain⟨a1,a2,a3,a4⟩:=ht;unfold zM0;refine .ite (λhc=>?_) λhc=>.ret ?_
  ·rw[Qb] at hc;grind [qN,Ok.app,Ok]
  grind
 ·refine Ok.wh41 (λt:List Int×List Int×Int=>LrI g t.1 t.2.1/\0<=t.2.2/\t.2.2+c3 t.1<=1+c3 s1.1) (λt=>c3 t.1) (λt ht=>?_) _ _ (Qd _) ⟨h1,by grind,by grind⟩;obtain⟨a1,a2,a3⟩:=ht;have hcl:c3 s1.1<=s1.1.length:=List.count_le_length;have h11:=h1.1;unfold zMf;rw[zCP (by grind),zob];refine(r_L3 h rfl a1).bind λs4 h4=>(r_L5 h h4.1).bind λs9 h9=>.ite (λ_=>.ret h9.1) λhc=>.ret ?_;grind [qN]
theorem z03:Ok (zFE g) λr=>(r.length:Int)=g.1:=by grind [zFE,z3w,Ok]
theorem z9g:Ok (zIr g) λr=>(r.length:Int)=g.1:=by grind [zIr,z3w,Ok]
end
end
section
theorem z1v{l:List zH}(hl:l.length<=100000)(x:zH): Ok (zF7 l x) λr=>r.length<=l.length+1:=by
 unfold zF7;refine Ok.bind (I:=λi:Int=>0<=i/\i<=l.length) ?_ λi hi=>Ok.bind (I:=λ_:Bool=>True) (.ite (λhc=>?_) λ_=>.ret trivial) λs4 _=>.ite (λ_=>.ret (by omega)) λ_=>?_
 ·refine Ok.wh41 (λt:Int=>0<=t/\t<=l.length) (λt=>((l.length:Int)-t).toNat) (λt ht=>?_) _ _ (Qd _) ⟨Ql 0,by omega⟩;unfold zLa;refine Ok.bind (I:=λb:Bool=>b=Aj->t<l.length) (.ite (λhc=>?_) λ_=>.ret nofun) λs3 h3=>.ite (λe=>.ret ?_) λ_=>.ret ht
  ·rw[Qb] at hc;simp only[len] at hc;grind [Ok.idx,zJd,Ok]
  grind [qN]
 ·rw[Qb] at hc;simp only[len] at hc;exact(Ok.idx hi.1 hc).bind λ_ _=>.ret trivial
 ·rw[zLn hi.1 hi.2,zob,zCP (by simp;omega),zob,zLz hi.1 hi.2,zob,yI (by simp;omega),zob,yI (by simp;omega),zob];grind [Ok]
theorem z8o{l:List Int}(hl:l.length<=100000)(y:Int): Ok (zII l y) λr=>r.length<=l.length/\∀ x∈r,0<=x/\x<l.length:=by
 unfold zII;refine Ok.wh41 (λt:List Int×Int=>(t.1.length:Int)<=t.2/\t.2<=l.length/\∀ x∈t.1,0<=x/\x<l.length) (λt=>((l.length:Int)-t.2).toNat) (λt ht=>?_) _ _ (Qd _) ⟨Ql 0,by grind,by simp⟩;obtain⟨a1,a2,a3⟩:=ht;unfold zNt;refine .ite (λhc=>?_) λ_=>.ret ⟨by omega,a3⟩;rw[Qb] at hc;simp only[len] at hc;rw[qN (show -9223372036854775808<=t.2+1 by omega) (by omega)];refine(Ok.idx (by omega) hc).bind λx1 _=>.ite (λ_=>(Ok.app (by simp;omega)).bind λz hz=>.ret ?_) λ_=>.ret ⟨⟨by grind,by grind,a3⟩,by grind⟩;grind
theorem z6Z{ag:List qS}{l:List Int}(hl:l.length<=90000): Ok (zCr ag l) λr=>r.length<=l.length:=by
 unfold zCr;refine Ok.wh41 (λt:List zH×Int=>(t.1.length:Int)<=t.2/\t.2<=l.length) (λt=>((l.length:Int)-t.2).toNat) (λt ht=>?_) _ _ (Qd _) ⟨Ql 0,by grind⟩;obtain⟨a1,a2⟩:=ht;unfold zHK;refine .ite (λhc=>?_) λ_=>.ret (by omega);rw[Qb] at hc;simp only[len] at hc;rw[qN (show -9223372036854775808<=t.2+1 by omega) (by omega)];have hix:Ok (zD l t.2) λx=>l[t.2.toNat]?=Ah x:=(Ok.idx (by omega) hc).imp λx hx=>hx.2;refine Ok.bind (I:=λb:Bool=>b=Aj->∀ x,l[t.2.toNat]?=Ah x->0<=x/\x<ag.length) (hix.bind λx1 h1=>.ite (λe=>hix.bind λx2 h2=>.ret λe2 x hx=>?_) λ_=>.ret nofun) λs2 h2=>.ite (λe=>hix.bind λx3 h3=>?_) λ_=>.ret ⟨⟨by grind,by grind⟩,by grind⟩
 ·grind
 grind [Ok.idx,z1v,Ok]
theorem z4U{n:Int}{l:List vZ}(hl:l.length<=1000000)(h0:0<=n)(h40:n<=40)(hr:∀ a∈l,(0<=a.1/\a.1<n)/\0<=a.2.1/\a.2.1<n): Ok (zGd n l) λr=>GkG r.1/\r.1.1=n:=by
 unfold zGd;have hc:¬ n<0/\¬ 40<n:=by omega
 rw[Qa (by simp;omega)];refine Ok.seqE (I:=λo:Unit⊕(uA×Int)=>match o with | .inl _=>True | .inr r=>False) ?_ (λ_ _=>Ok.bind (I:=λz:List uO=>z.length<=1600/\∀ p∈z,(0<=p.1/\p.1<n)/\0<=p.2/\p.2<n) ?_ λz hz=>.ret ⟨⟨by grind,Qw hz.1 (by omega),hz.2⟩,rfl⟩) (λr hr=>hr.elim)
 ·refine Ok.wh41 (λt:Int=>0<=t/\t<=l.length) (λt=>((l.length:Int)-t).toNat) (λt ht=>?_) _ _ (Qd _) ⟨Ql 0,by omega⟩;unfold zMd;refine .ite (λhc=>?_) λ_=>.ret trivial;rw[Qb] at hc;simp only[len] at hc;rw[qN (show -9223372036854775808<=t+1 by omega) (by omega)];obtain⟨x,ex,mx,_⟩:=Ok.idx ht.1 hc;have hx:=hr x mx;rw[ex];simp only[zob];rw[Qa (by simp;omega),Qa (by simp;omega),Qa (by simp;omega),Qp (by omega),zob,Qa (by decide)];exact .ret (by grind)
 ·refine Ok.wh41 (λt:Int×List uO=>0<=t.1/\t.1<=n/\(t.2.length:Int)<=40*t.1/\∀ p∈t.2,(0<=p.1/\p.1<n)/\0<=p.2/\p.2<n) (λt=>(n-t.1).toNat) (λt ht=>?_) _ _ (Qd _) ⟨Ql 0,by grind,by simp,by simp⟩;obtain⟨a1,a2,a3,a4⟩:=ht;unfold zM1;refine .ite (λhc2=>?_) λ_=>.ret ⟨by omega,a4⟩;rw[Qb] at hc2;refine Ok.wh41 (λu:Int×List uO=>0<=u.1/\u.1<=n/\(u.2.length:Int)<=40*t.1+u.1/\∀ p∈u.2,(0<=p.1/\p.1<n)/\0<=p.2/\p.2<n) (λu=>(n-u.1).toNat) (λu hu=>?_) _ _ (Qd _) ⟨Ql 0,by grind,by grind,a4⟩;obtain⟨b1,b2,b3,b4⟩:=hu;unfold zMl;rw[qN (show -9223372036854775808<=t.1+1 by omega) (by omega),qN (show -9223372036854775808<=u.1+1 by omega) (by omega)];refine .ite (λhc3=>?_) λ_=>.ret ⟨⟨by grind,by grind,by grind,b4⟩,by grind⟩;rw[Qb] at hc3;refine Ok.bind (I:=λ_:Bool=>True) ?_ λs7 _=>.ite (λ_=>(Ok.app (by simp;omega)).bind λz hz=>.ret ?_) λ_=>.ret ⟨⟨by grind,by grind,by grind,b4⟩,by grind⟩
  ·refine Ok.wh41 (λv:Bool×Int=>0<=v.2/\v.2<=l.length) (λv=>((l.length:Int)-v.2).toNat) (λv hv=>?_) _ _ (Qd _) ⟨Ql 0,by grind⟩;unfold zMi;refine .ite (λhc=>?_) λ_=>.ret trivial;rw[Qb] at hc;simp only[len] at hc;rw[qN (show -9223372036854775808<=v.2+1 by omega) (by omega)];refine Ok.bind (I:=λ_:Bool=>True) ?_ λs9 _=>.ret (by grind);repeat' first
    | refine Ok.ite (λ_=>?_) λ_=>?_
    | refine(Ok.idx (by omega) (by omega)).bind λ_ _=>?_
    | exact Ok.ret trivial
  grind
end
section
def tK (N:Int)(l:List Int): Prop:=l.Pairwise (· < ·)/\∀ x∈l,0<=x/\x<N
theorem z50:∀(l:List Int) (a N:Int),a<=N->l.Pairwise (· < ·)->(∀ x∈l,a<=x/\x<N)->(l.length:Int)<=N-a
 | [],a,N,h,_,_=>by simp;omega
 | x::l,a,N,h,hp,hx=>by
  rw[List.pairwise_cons] at hp;have h1:=hx x Qt;have:=z50 l (x+1) N (by omega) hp.2 λy hy=>⟨by grind,(hx y (Qm _ hy)).2⟩;grind
theorem tK.len{N:Int}{l:List Int}(h:tK N l)(hN:0<=N): (l.length:Int)<=N:=by
 have:=z50 l 0 N hN h.1 h.2;omega
variable{N:Int}
theorem asn0: tK N []:=⟨List.Pairwise.nil,by simp⟩
theorem z9A(h0:0<=N)(h1:N<=1000){l:List Int}(h:tK N l){x:Int}(hx:0<=x/\x<N): Ok (zEQ l x) (tK N):=by
 have hl:=h.len h0;unfold zEQ;refine Ok.bind (I:=λi:Int=>(0<=i/\i<=l.length)/\(∀ y∈l.take i.toNat,y<x)/\∀ y,l[i.toNat]?=Ah y->x<=y) ?_ λi hi=>?_
 ·refine Ok.wh41 (λt:Int=>(0<=t/\t<=l.length)/\∀ y∈l.take t.toNat,y<x) (λt=>((l.length:Int)-t).toNat) (λt ht=>?_) _ _ (Qd _) ⟨⟨Ql 0,by omega⟩,by simp⟩;obtain⟨a1,a2⟩:=ht;unfold zLP;refine Ok.bind (I:=λb:Bool=>(b=Aj->t<l.length/\∃ y,l[t.toNat]?=Ah y/\y<x)/\(b=Ak->∀ y,l[t.toNat]?=Ah y->x<=y)) (.ite (λhc=>?_) λhc=>.ret ⟨nofun,λ_ y hy=>?_⟩) λs3 h3=>.ite (λe=>.ret ?_) λe=>.ret ⟨a1,a2,h3.2 e⟩
  ·rw[Qb] at hc;simp only[len] at hc;refine(Ok.idx a1.1 hc).bind λz hz=>.ret ⟨λe=>⟨hc,z,hz.2,by grind⟩,λe y hy=>?_⟩;grind
  ·grind
  ·obtain⟨b1,y,b2,b3⟩:=h3.1 e;rw[qN (by omega) (by omega)];refine⟨⟨by omega,λz hz=>?_⟩,by omega⟩;rw[show(t+1).toNat=t.toNat+1 by omega,zH8 b2,Qj,Qh] at hz;grind
 ·obtain⟨a1,a2,a3⟩:=hi;refine Ok.bind (I:=λb:Bool=>b=Ak->∀ y,l[i.toNat]?=Ah y->x<y) (.ite (λhc=>?_) λhc=>.ret λ_ y hy=>?_) λs4 h4=>.ite (λ_=>.ret h) λe=>?_
  ·rw[Qb] at hc;simp only[len] at hc;grind [Ok.idx,Ok]
  ·grind
  ·rw[zLn a1.1 a1.2,zob,zCP (by simp;omega),zob,zLz a1.1 a1.2,zob,yI (by simp;omega),zob,yI (by simp;omega),zob];have hd:∀ y∈l.drop i.toNat,x<y:=λy hy=>by
    have hq:=h4 e;have hp:=h.1.sublist (UV i.toNat l);cases hdr:l.drop i.toNat with
    | nil=>grind
    | cons z r=>
     rw[hdr] at hy hp;have hz:l[i.toNat]?=Ah z:=by
      have:(l.drop i.toNat)[0]?=Ah z:=by rw[hdr];rfl
      rw[List.getElem?_drop] at this;simpa using this
     have:=hq z hz;rcases QO.1 hy with rfl | hy
     ·exact this
     grind [List.pairwise_cons]
   refine .ret ⟨?_,λy hy=>?_⟩
   ·rw[Qo,List.pairwise_append];refine⟨h.1.sublist (UW _ _),?_,λa ha b hb=>?_⟩
    ·rw[List.singleton_append,List.pairwise_cons];exact⟨hd,h.1.sublist (UV _ _)⟩
    grind
   ·simp only[Qj,Qh] at hy;rcases hy with(hy | rfl) | hy
    ·exact h.2 y (Q7 hy)
    ·exact hx
    ·exact h.2 y (UC hy)
theorem z6V{N:Int}(h0:0<=N)(h1:N<=1000){l m:List Int}(h:tK N l)(hm:m.length<=100000)(hm2:∀ x∈m,0<=x/\x<N): Ok (zGq l m) (tK N):=by
 unfold zGq;refine Ok.wh41 (λt:List Int×Int=>tK N t.1/\0<=t.2/\t.2<=m.length) (λt=>((m.length:Int)-t.2).toNat) (λt ht=>?_) _ _ (Qd _) ⟨h,Ql 0,by grind⟩;obtain⟨a1,a2,a3⟩:=ht;unfold zMa;refine .ite (λhc=>?_) λ_=>.ret a1;rw[Qb] at hc;simp only[len] at hc;rw[qN (show -9223372036854775808<=t.2+1 by omega) (by omega)];exact(Ok.idx a2 hc).bind λx1 hx1=>(z9A h0 h1 a1 (hm2 x1 hx1.1)).bind λr1 hr=>.ret ⟨⟨hr,by grind,by grind⟩,by grind⟩
end
section
structure AgL (l:List qS): Prop where
 n:l.length<=40
 sub:∀(i:Nat) a,l[i]?=Ah a->a.2.2.1.length<=1000/\∀ x∈a.2.2.1,0<=x/\x<(i:Int)
section
variable {l:List qS}(h:AgL l)
include h
variable{a:qS}
theorem z9I{i:Nat}(ha:l[i]?=Ah a){rc R:List qS->Int->Option (List Int)}(hr:∀ x,0<=x->x<(i:Int)->rc l x=R l x/\Ok (R l x) (tK l.length)):
  Ok (zN (zBe l i rc) ([(i:Int)],0)) λr=>tK l.length r/\zN (zBe l i R) ([(i:Int)],0)=Ah r:=by
 have hi:=yK ha;have hn:=h.n;obtain⟨p1,p2⟩:=h.sub i a ha;refine Ok.wh41 (λt:List Int×Int=>(tK l.length t.1/\0<=t.2/\t.2<=a.2.2.1.length)/\zN (zBe l i R) ([(i:Int)],0)=zN (zBe l i R) t) (λt=>((a.2.2.1.length:Int)-t.2).toNat) (λt ht=>?_) _ _ (Qd _) ⟨⟨⟨List.pairwise_singleton _ _,λx hx=>by grind⟩,Ql 0,by grind⟩,rfl⟩;obtain⟨⟨a1,a2,a3⟩,a4⟩:=ht;have hs:Ok (zBe l i rc t) λo=>zBe l i R t=Ah o/\match o with | .inl t'=>(tK l.length t'.1/\0<=t'.2/\t'.2<=a.2.2.1.length)/\((a.2.2.1.length:Int)-t'.2).toNat<((a.2.2.1.length:Int)-t.2).toNat | .inr r=>tK l.length r:=by
  unfold zBe;rw[xO ha];simp only[zob];by_cases hc:t.2<len a.2.2.1
  ·rw[Qq hc,Qi rfl,Qi rfl];simp only[len] at hc;obtain⟨x3,e3,m3,_⟩:=Ok.idx a2 hc;have hx:=p2 x3 m3;obtain⟨q1,r1,e1,b1⟩:=hr x3 hx.1 hx.2;have hlen:=b1.len (by omega);obtain⟨r2,e2,b2⟩:=z6V (N:=l.length) (by omega) (by omega) a1 (m:=r1) (by omega) b1.2;rw[e3];simp only[zob];rw[q1,e1];simp only[zob];rw[e2];simp only[zob];rw[qN (show -9223372036854775808<=t.2+1 by omega) (by omega)];exact .ret ⟨rfl,⟨b2,by grind,by grind⟩,by grind⟩
  ·rw[Qp hc,Qa (by decide),Qa (by decide)];exact .ret ⟨rfl,a1⟩
 obtain⟨o,h1,h2,h3⟩:=hs;rw[h1];cases o with
 | inl t'=>exact .ret ⟨⟨h3.1,a4.trans (yZ h2)⟩,h3.2⟩
 | inr r=>exact .ret ⟨h3,a4.trans (vW h2)⟩
theorem z5D:∀(n:Nat),n<=l.length->∃ S:Nat->List Int,∀ i,i<n->tK l.length (S i)/\∀ k,i<k->zEp k l (i:Int)=Ah (S i)
 | 0,_=>⟨λ_=>[],λi hi=>by omega⟩
 | n+1,hn=>by
  obtain⟨S,hS⟩:=z5D n (by omega);obtain⟨a,ha⟩:∃ a,l[n]?=Ah a:=⟨_,Qs (by omega)⟩;have hstep:∀ k,n<=k->Ok (zN (zBe l n (zEp k)) ([(n:Int)],0)) λr=>tK l.length r/\zN (zBe l n λ_ x=>Ah (S x.toNat)) ([(n:Int)],0)=Ah r:=λk hk=>by
   refine z9I h ha λx h0 h1=>?_;obtain⟨j,rfl⟩:=Qv h0;grind [Ok]
  obtain⟨r0,_,c1,c2⟩:=hstep n (Qd _);refine⟨λi=>if i=n then r0 else S i,λi hi=>?_⟩;dsimp only;by_cases hin:i=n
  ·subst hin;rw[Qi rfl];refine⟨c1,λk hk=>?_⟩;obtain⟨k,rfl⟩:∃ m,k=m+1:=⟨k-1,by omega⟩;obtain⟨r,d1,_,d3⟩:=hstep k (by omega);rw[c2] at d3;have:=QA d3;show zK7 (zEp k) l (i:Int)=_;unfold zK7;grind
  grind
variable{i:Int}
theorem z3f(h0:0<=i)(h1:i<l.length): Ok (zIG l i) (tK l.length):=by
 obtain⟨S,hS⟩:=z5D h l.length (Qd _);obtain⟨j,rfl⟩:=Qv h0;have hj:=hS j (by omega);refine⟨S j,?_,hj.1⟩;exact Ev.lim ⟨j+1,λk hk=>hj.2 k (by omega)⟩
end
end
section
structure AgI (b:qX)(l:List qS): Prop extends AgL l where
 b1:b.1.length<=1000
 b2:b.2.1.length<=1000
 prem:∀ a∈l,0<=a.1->a.1<b.1.length
 at_:∀ a∈l,a.2.1<0->0<=a.1
 rule:∀ a∈l,0<=a.2.1->a.2.1<b.2.1.length
section
variable {b:qX}{l:List qS}(h:AgI b l)
include h
variable{i:Int}
theorem z81(h0:0<=i)(h1:i<l.length): Ok (zEF l i) (tK b.1.length):=by
 have hb:=h.b1;have hn:=h.n;unfold zEF;refine(z3f h.toAgL h0 h1).bind λr1 hr1=>?_;have hl:=hr1.len (by omega);refine Ok.wh41 (λt:List Int×Int=>tK b.1.length t.1/\0<=t.2/\t.2<=r1.length) (λt=>((r1.length:Int)-t.2).toNat) (λt ht=>?_) _ _ (Qd _) ⟨asn0,Ql 0,by grind⟩;obtain⟨a1,a2,a3⟩:=ht;unfold zJU;refine .ite (λhc=>?_) λ_=>.ret a1;rw[Qb] at hc;simp only[len] at hc;rw[qN (show -9223372036854775808<=t.2+1 by omega) (by omega)];refine(Ok.idx a2 hc).bind λx1 hx1=>?_;have hx:=hr1.2 x1 hx1.1;refine(Ok.idx hx.1 hx.2).bind λx2 h2=>.ite (λe=>(Ok.idx hx.1 hx.2).bind λx3 h3=>?_) λ_=>.ret ⟨⟨a1,by grind,by grind⟩,by grind⟩;have e3:x2=x3:=QA (h2.2.symm.trans h3.2);subst e3;rw[Qb] at e;exact(z9A (by omega) (by omega) a1 ⟨e,h.prem x2 h2.1 e⟩).bind λr2 hr2=>.ret ⟨⟨hr2,by grind,by grind⟩,by grind⟩
theorem r_def(h0:0<=i)(h1:i<l.length): Ok (zBs b l i) (tK b.2.1.length):=by
 have hb:=h.b2;have hn:=h.n;unfold zBs;refine(z3f h.toAgL h0 h1).bind λr1 hr1=>?_;have hl:=hr1.len (by omega);refine Ok.wh41 (λt:List Int×Int=>tK b.2.1.length t.1/\0<=t.2/\t.2<=r1.length) (λt=>((r1.length:Int)-t.2).toNat) (λt ht=>?_) _ _ (Qd _) ⟨asn0,Ql 0,by grind⟩;obtain⟨a1,a2,a3⟩:=ht;unfold zIC;refine .ite (λhc=>?_) λ_=>.ret a1;rw[Qb] at hc;simp only[len] at hc;rw[qN (show -9223372036854775808<=t.2+1 by omega) (by omega)];refine(Ok.idx a2 hc).bind λx1 hx1=>?_;have hx:=hr1.2 x1 hx1.1;obtain⟨x2,e2,m2,_⟩:=Ok.idx hx.1 hx.2;rw[e2];simp only[zob];refine Ok.bind (I:=λc:Bool=>c=Aj->0<=x2.2.1) (.ite (λe=>?_) λ_=>.ret nofun) λs2 hs2=>.ite (λe=>?_) λ_=>.ret ⟨⟨a1,by grind,by grind⟩,by grind⟩
 ·have e:0<=x2.2.1:=by simpa using e
  exact(Ok.idx e (h.rule x2 m2 e)).bind λx4 _=>.ret λ_=>e
 ·have e:=hs2 e;exact(z9A (by omega) (by omega) a1 ⟨e,h.rule x2 m2 e⟩).bind λr2 hr2=>.ret ⟨⟨hr2,by grind,by grind⟩,by grind⟩
theorem z5G(h0:0<=i)(h1:i<l.length): Ok (zGT b l i) λ_=>True:=by
 have hb:=h.b1;unfold zGT;refine(z81 h h0 h1).bind λr1 hr1=>?_;have hl:=hr1.len (by omega);refine Ok.wh41 (λt:Int=>0<=t/\t<=r1.length) (λt=>((r1.length:Int)-t).toNat) (λt ht=>?_) _ _ (Qd _) ⟨Ql 0,by omega⟩;unfold zKQ;refine .ite (λhc=>?_) λ_=>.ret trivial;rw[Qb] at hc;simp only[len] at hc;rw[qN (show -9223372036854775808<=t+1 by omega) (by omega)];refine(Ok.idx ht.1 hc).bind λx1 hx1=>?_;have hx:=hr1.2 x1 hx1.1;exact(Ok.idx hx.1 hx.2).bind λx2 _=>.ite (λ_=>.ret trivial) λ_=>.ret (by grind)
theorem zSw(h0:0<=i)(h1:i<l.length): Ok (zB5 b l i) λr=>r.length<=1000:=by
 have hb:=h.b1;unfold zB5;refine(z81 h h0 h1).bind λr1 hr1=>?_;have hl:=hr1.len (by omega);refine Ok.wh41 (λt:List Int×Int=>(t.1.length:Int)<=t.2/\t.2<=r1.length) (λt=>((r1.length:Int)-t.2).toNat) (λt ht=>?_) _ _ (Qd _) ⟨Ql 0,by grind⟩;obtain⟨a1,a2⟩:=ht;unfold zGg;refine .ite (λhc=>?_) λ_=>.ret (by omega);rw[Qb] at hc;simp only[len] at hc;rw[qN (show -9223372036854775808<=t.2+1 by omega) (by omega)];refine(Ok.idx (by omega) hc).bind λx1 hx1=>?_;have hx:=hr1.2 x1 hx1.1;refine(Ok.idx hx.1 hx.2).bind λx2 _=>.ite (λ_=>(Ok.idx hx.1 hx.2).bind λx3 _=>(Ok.app (by simp;omega)).bind λz hz=>.ret ?_) λ_=>.ite (λ_=>(Ok.app (by simp;omega)).bind λz hz=>.ret ?_) λ_=>.ret (by grind)
 ·grind
 grind
theorem z1i(h0:0<=i)(h1:i<l.length): Ok (zD6 b l i) λr=>r.length<=1000:=by
 have hb:=h.b2;unfold zD6;refine(r_def h h0 h1).bind λr1 hr1=>?_;have hl:=hr1.len (by omega);refine Ok.wh41 (λt:List Int×Int=>(t.1.length:Int)<=t.2/\t.2<=r1.length) (λt=>((r1.length:Int)-t.2).toNat) (λt ht=>?_) _ _ (Qd _) ⟨Ql 0,by grind⟩;obtain⟨a1,a2⟩:=ht;unfold zI8;refine .ite (λhc=>?_) λ_=>.ret (by omega);rw[Qb] at hc;simp only[len] at hc;rw[qN (show -9223372036854775808<=t.2+1 by omega) (by omega)];refine(Ok.idx (by omega) hc).bind λx1 hx1=>?_;have hx:=hr1.2 x1 hx1.1;refine(Ok.idx hx.1 hx.2).bind λx2 _=>(Ok.app (by simp;omega)).bind λz hz=>.ret ?_;grind
omit h in
theorem zVz{v:List Int}(h0:0<v.length)(h1:v.length<=1000): Ok (zED v) λ_=>True:=by
 unfold zED;refine(Ok.idx (Ql 0) (by omega)).bind λx1 _=>(Ok.idx (Ql 0) (by omega)).bind λx2 _=>?_;refine Ok.wh41 (λt:Int×Int×Int=>0<=t.2.2/\t.2.2<=v.length) (λt=>((v.length:Int)-t.2.2).toNat) (λt ht=>?_) _ _ (Qd _) ⟨by grind,by grind⟩;unfold zJb;refine .ite (λhc=>?_) λ_=>.ret trivial;rw[Qb] at hc;simp only[len] at hc;grind [qN,Ok.idx,Ok]
omit h in
theorem zTm{u v:List Int}(hu:u.length<=1000)(hv:v.length<=1000)(k:Int): Ok (zDa u v k) λ_=>True:=by
 unfold zDa;by_cases c1:(if(k != 1)=Aj then(k != 2)||((len u)==0) else(len u)==0)=Aj
 ·rw[Qi c1];exact .ret trivial
 rw[Qa c1];refine .ite (λ_=>.ret trivial) λc2=>?_;have hu0:0<u.length:=by
  rcases Nat.eq_zero_or_pos u.length with e | e
  ·grind
  ·exact e
 have hv0:0<v.length:=by
  rcases Nat.eq_zero_or_pos v.length with e | e
  ·grind
  ·exact e
 exact(zVz hu0 hu).bind λ_ _=>(zVz hv0 hv).bind λ_ _=>.ite (λ_=>.ret trivial) λ_=>.ret trivial
end
end
section
section
variable {b:qX}{l:List qS}(h:AgI b l)
include h
variable{a:qS}
theorem z9y{i:Nat}(ha:l[i]?=Ah a){rc R:qX->List qS->Int->Option (List Int)}(hr:∀ x,0<=x->x<(i:Int)->rc b l x=R b l x/\Ok (R b l x) (tK b.2.1.length)):
  Ok (zN (zB9 l i rc b) ([],0)) λr=>tK b.2.1.length r/\zN (zB9 l i R b) ([],0)=Ah r:=by
 have hi:=yK ha;have hn:=h.n;have hb:=h.b2;obtain⟨p1,p2⟩:=h.sub i a ha;refine Ok.wh41 (λt:List Int×Int=>(tK b.2.1.length t.1/\0<=t.2/\t.2<=a.2.2.1.length)/\zN (zB9 l i R b) ([],0)=zN (zB9 l i R b) t) (λt=>((a.2.2.1.length:Int)-t.2).toNat) (λt ht=>?_) _ _ (Qd _) ⟨⟨asn0,Ql 0,by grind⟩,rfl⟩;obtain⟨⟨a1,a2,a3⟩,a4⟩:=ht;have hs:Ok (zB9 l i rc b t) λo=>zB9 l i R b t=Ah o/\match o with | .inl t'=>(tK b.2.1.length t'.1/\0<=t'.2/\t'.2<=a.2.2.1.length)/\((a.2.2.1.length:Int)-t'.2).toNat<((a.2.2.1.length:Int)-t.2).toNat | .inr r=>tK b.2.1.length r:=by
  unfold zB9;rw[xO ha];simp only[zob];by_cases hc:t.2<len a.2.2.1
  ·rw[Qq hc,Qi rfl,Qi rfl];simp only[len] at hc;obtain⟨x3,e3,m3,_⟩:=Ok.idx a2 hc;have hx:=p2 x3 m3;obtain⟨q1,r1,e1,b1⟩:=hr x3 hx.1 hx.2;have hlen:=b1.len (by omega);obtain⟨r2,e2,b2⟩:=z6V (N:=b.2.1.length) (by omega) (by omega) a1 (m:=r1) (by omega) b1.2;rw[e3];simp only[zob];rw[q1,e1];simp only[zob];rw[e2];simp only[zob];rw[qN (show -9223372036854775808<=t.2+1 by omega) (by omega)];exact .ret ⟨rfl,⟨b2,by grind,by grind⟩,by grind⟩
  ·rw[Qp hc,Qa (by decide),Qa (by decide)];exact .ret ⟨rfl,a1⟩
 obtain⟨o,h1,h2,h3⟩:=hs;rw[h1];cases o with
 | inl t'=>exact .ret ⟨⟨h3.1,a4.trans (yZ h2)⟩,h3.2⟩
 | inr r=>exact .ret ⟨h3,a4.trans (vW h2)⟩
theorem z42:∀(n:Nat),n<=l.length->∃ S:Nat->List Int,∀ i,i<n->tK b.2.1.length (S i)/\∀ k,i<k->zEf k b l (i:Int)=Ah (S i)
 | 0,_=>⟨λ_=>[],λi hi=>by omega⟩
 | n+1,hn=>by
  have hb:=h.b2;obtain⟨S,hS⟩:=z42 n (by omega);obtain⟨a,ha⟩:∃ a,l[n]?=Ah a:=⟨_,Qs (by omega)⟩;have hm:=UD ha;have hstep:∀ k,n<=k->Ok (zN (zB9 l n (zEf k) b) ([],0)) λr=>tK b.2.1.length r/\zN (zB9 l n (λ_ _ x=>Ah (S x.toNat)) b) ([],0)=Ah r:=λk hk=>by
   refine z9y h ha λx h0 h1=>?_;obtain⟨j,rfl⟩:=Qv h0;grind [Ok]
  obtain⟨r0,_,c1,c2⟩:=hstep n (Qd _);have hF:∃ r,tK b.2.1.length r/\∀ k,n<=k->zGQ (zEf k) b l (n:Int)=Ah r:=by
   by_cases c:a.2.1<0
   ·refine⟨[],asn0,λk hk=>?_⟩;unfold zGQ;rw[Qa (by simp),Qa (by grind),xO ha];simp[c]
   ·have hc:0<=a.2.1:=by omega
    have hrl:=h.rule a hm hc;obtain⟨q,eq,_⟩:=Ok.idx (l:=b.2.1) hc hrl;cases hq:q.2.1 with
    | false=>
     refine⟨[a.2.1],⟨List.pairwise_singleton _ _,λx hx=>by grind⟩,λk hk=>?_⟩;unfold zGQ;rw[Qa (by simp),Qa (by grind),xO ha];grind
    | true=>
     refine⟨r0,c1,λk hk=>?_⟩;obtain⟨r,d1,_,d3⟩:=hstep k hk;rw[c2] at d3;have:=QA d3;unfold zGQ;rw[Qa (by simp),Qa (by grind),xO ha];grind
  obtain⟨r,f1,f2⟩:=hF;refine⟨λi=>if i=n then r else S i,λi hi=>?_⟩;dsimp only;by_cases hin:i=n
  ·subst hin;rw[Qi rfl];refine⟨f1,λk hk=>?_⟩;obtain⟨k,rfl⟩:∃ m,k=m+1:=⟨k-1,by omega⟩;exact f2 k (by omega)
  grind
variable{i:Int}
theorem r_last(h0:0<=i)(h1:i<l.length): Ok (zNT b l i) (tK b.2.1.length):=by
 obtain⟨S,hS⟩:=z42 h l.length (Qd _);obtain⟨j,rfl⟩:=Qv h0;have hj:=hS j (by omega);exact⟨S j,Ev.lim ⟨j+1,λk hk=>hj.2 k (by omega)⟩,hj.1⟩
theorem z15(h0:0<=i)(h1:i<l.length): Ok (zD1 b l i) λr=>r.length<=1000:=by
 have hb:=h.b2;unfold zD1;refine(r_last h h0 h1).bind λr1 hr1=>?_;have hl:=hr1.len (by omega);refine Ok.wh41 (λt:List Int×Int=>(t.1.length:Int)<=t.2/\t.2<=r1.length) (λt=>((r1.length:Int)-t.2).toNat) (λt ht=>?_) _ _ (Qd _) ⟨Ql 0,by grind⟩;obtain⟨a1,a2⟩:=ht;unfold zIa;refine .ite (λhc=>?_) λ_=>.ret (by omega);rw[Qb] at hc;simp only[len] at hc;rw[qN (show -9223372036854775808<=t.2+1 by omega) (by omega)];refine(Ok.idx (by omega) hc).bind λx1 hx1=>?_;have hx:=hr1.2 x1 hx1.1;refine(Ok.idx hx.1 hx.2).bind λx2 _=>(Ok.app (by simp;omega)).bind λz hz=>.ret ?_;grind
theorem r_less (i j:Int)(o:zC4): Ok (zKb b l i j o) λ_=>True:=by
 unfold zKb;refine Ok.bind (I:=λc:Bool=>c=Ak->(0<=i/\i<l.length)/\0<=j/\j<l.length) (.ite (λ_=>.ret nofun) λe1=>.ite (λ_=>.ret nofun) λe2=>.ite (λ_=>.ret nofun) λe3=>.ite (λ_=>.ret nofun) λe4=>?_) λs1 hs1=>.ite (λ_=>.ret trivial) λe=>?_
 ·simp[len] at e1 e2 e3 e4;grind [z5G]
 ·obtain⟨⟨i0,i1⟩,j0,j1⟩:=hs1 e;refine(zSw h i0 i1).bind λr2 h2=>(zSw h j0 j1).bind λr3 h3=>(zTm h2 h3 _).bind λr4 _=>.ite (λ_=>(z15 h i0 i1).bind λr5 h5=>(z15 h j0 j1).bind λr6 h6=>Ok.bind (I:=λ_:Bool=>True) ((zTm h5 h6 _).bind λr7 _=>.ite (λ_=>.ret trivial) λ_=>.ite (λ_=>.ite (λ_=>.ret trivial) λ_=>.ret trivial) λ_=>.ret trivial) λs2 _=>.ret trivial) λ_=>.ite (λ_=>(z1i h i0 i1).bind λr8 h8=>(z1i h j0 j1).bind λr9 h9=>.ite (λ_=>.ret trivial) λ_=>(zTm h8 h9 _).bind λr10 _=>Ok.bind (I:=λ_:Bool=>True) ((zSw h i0 i1).bind λ_ _=>.ite (λ_=>(zSw h j0 j1).bind λ_ _=>.ret trivial) λ_=>.ret trivial) λs3 _=>.ite (λ_=>.ret trivial) λ_=>.ret trivial) λ_=>.ret trivial
end
end
section
def AtR (n:Nat)(r:List vZ): Prop:=∀ a∈r,(0<=a.1/\a.1<n)/\0<=a.2.1/\a.2.1<n
section
variable {b:qX}{l:List qS}(h:AgI b l)
include h
variable{i:Int}
theorem z6r{j:Int}(i0:0<=i)(i1:i<l.length)(j0:0<=j)(j1:j<l.length)(k:Int): Ok (zGY b l i j k) λ_=>True:=by
 obtain⟨x1,e1,m1,_⟩:=Ok.idx i0 i1;obtain⟨x2,e2,m2,_⟩:=Ok.idx j0 j1;unfold zGY zGs;rw[e1,e2];simp only[zob];refine .ite (λhc=>?_) λhc=>?_
 ·rw[Qb] at hc;have ha:=h.at_ x2 m2 hc;exact Ok.bind (I:=λ_:Bool=>True) (.ite (λ_=>(Ok.idx ha (h.prem x2 m2 ha)).bind λ_ _=>.ite (λ_=>.ret trivial) λ_=>.ret trivial) λ_=>.ret trivial) λ_ _=>.ret trivial
 ·have hc:0<=x2.2.1:=by simpa using hc
  refine(Ok.idx hc (h.rule x2 m2 hc)).bind λx7 _=>.ite (λ_=>.ret trivial) λ_=>.ite (λ_=>Ok.bind (I:=λ_:Bool=>True) (.ite (λ_=>.ret trivial) λ_=>.ret trivial) λ_ _=>.ret trivial) λ_=>.ret trivial
theorem z00:Ok (zGW b l) λr=>r.length<=200000/\AtR l.length r:=by
 have hn:=h.n;have hL:(l.length:Int)<=40:=by omega
 unfold zGW;refine Ok.wh41 (λt:List vZ×Int=>(t.1.length:Int)<=4800*t.2/\AtR l.length t.1/\0<=t.2/\t.2<=l.length) (λt=>((l.length:Int)-t.2).toNat) (λt ht=>?_) _ _ (Qd _) ⟨Ql 0,(λa ha=>by cases ha),Ql 0,by grind⟩;obtain⟨a1,a0,a2,a3⟩:=ht;unfold zKI;refine .ite (λhc=>?_) λ_=>.ret ⟨by omega,a0⟩;rw[Qb] at hc;simp only[len] at hc;have wt:zE (t.2+1)=t.2+1:=qN (by omega) (by omega);refine Ok.wh41 (λu:List vZ×Int=>(u.1.length:Int)<=4800*t.2+120*u.2/\AtR l.length u.1/\0<=u.2/\u.2<=l.length) (λu=>((l.length:Int)-u.2).toNat) (λu hu=>?_) _ _ (Qd _) ⟨by grind,a0,Ql 0,by grind⟩;obtain⟨b1,b0,b2,b3⟩:=hu;unfold zKY;rw[wt];refine .ite (λhc2=>?_) λ_=>.ret ⟨⟨by grind,b0,by grind,by grind⟩,by grind⟩;rw[Qb] at hc2;simp only[len] at hc2;have wu:zE (u.2+1)=u.2+1:=qN (by omega) (by omega);refine(z3f h.toAgL b2 hc2).bind λr1 hr1=>?_;have hl1:=hr1.len (by omega);refine Ok.wh41 (λv:List vZ×Int=>(v.1.length:Int)<=4800*t.2+120*u.2+3*v.2/\AtR l.length v.1/\0<=v.2/\v.2<=r1.length) (λv=>((r1.length:Int)-v.2).toNat) (λv hv=>?_) _ _ (Qd _) ⟨by grind,b0,Ql 0,by grind⟩;obtain⟨c1,c0,c2,c3⟩:=hv;unfold zK1;rw[wu];refine .ite (λhc3=>?_) λ_=>.ret ⟨⟨by grind,c0,by grind,by grind⟩,by grind⟩;rw[Qb] at hc3;simp only[len] at hc3;have wv:zE (v.2+1)=v.2+1:=qN (by omega) (by omega);refine(Ok.idx c2 hc3).bind λx1 hx1=>?_;have hx:=hr1.2 x1 hx1.1;refine Ok.wh41 (λw:List vZ×Int=>(w.1.length:Int)<=4800*t.2+120*u.2+3*v.2+(w.2-1)/\AtR l.length w.1/\1<=w.2/\w.2<=4) (λw=>(4-w.2).toNat) (λw hw=>?_) _ _ (Qd _) ⟨by grind,c0,by grind,by grind⟩;obtain⟨d1,d0,d2,d3⟩:=hw;unfold zKh;rw[wv,qN (show -9223372036854775808<=w.2+1 by omega) (by omega)];refine .ite (λhc4=>?_) λ_=>.ret ⟨⟨by grind,d0,by grind,by grind⟩,by grind⟩;rw[Qb] at hc4;refine(z6r h a2 hc hx.1 hx.2 _).bind λr2 _=>.ite (λ_=>(Ok.app (by simp;omega)).bind λz hz=>.ret ?_) λ_=>.ret ⟨⟨by grind,d0,by grind,by grind⟩,by grind⟩;rw[hz];refine⟨⟨by simp;omega,λy hy=>?_,by grind,by grind⟩,by grind⟩;rcases Qj.1 hy with hy | hy
 ·exact d0 y hy
 grind
theorem zYh (o:zC4): Ok (zEo b l o) λr=>r.length<=200000/\AtR l.length r:=by
 unfold zEo;refine(z00 h).bind λr1 hr1=>?_;obtain⟨hr1,hra⟩:=hr1;refine Ok.wh41 (λt:List vZ×Int=>(t.1.length:Int)<=t.2/\AtR l.length t.1/\t.2<=r1.length) (λt=>((r1.length:Int)-t.2).toNat) (λt ht=>?_) _ _ (Qd _) ⟨Ql 0,(λa ha=>by cases ha),by grind⟩;obtain⟨a1,a0,a2⟩:=ht;unfold zKi;refine .ite (λhc=>?_) λ_=>.ret ⟨by omega,a0⟩;rw[Qb] at hc;simp only[len] at hc;rw[qN (show -9223372036854775808<=t.2+1 by omega) (by omega)];refine Ok.bind (I:=λ_:Bool=>True) ((Ok.idx (by omega) hc).bind λx1 _=>.ite (λ_=>.ret trivial) λ_=>(Ok.idx (by omega) hc).bind λx2 _=>(Ok.idx (by omega) hc).bind λx3 _=>(r_less h _ _ _).bind λ_ _=>.ret trivial) λs2 _=>.ite (λ_=>(Ok.idx (by omega) hc).bind λx4 h4=>(Ok.app (by simp;omega)).bind λz hz=>.ret ?_) λ_=>.ret ⟨⟨by grind,a0,by grind⟩,by grind⟩;rw[hz];refine⟨⟨by simp;omega,λy hy=>?_,by grind⟩,by grind⟩;rcases Qj.1 hy with hy | hy
 ·exact a0 y hy
 ·rw[Qh.1 hy];exact hra x4 h4.1
end
end
section
theorem r_copy{b:qX}(h1:b.1.length<=1000)(h2:b.2.1.length<=1000)(h3:b.2.2.length<=1000)(hq:∀ r∈b.2.1,r.2.2.2.1.length<=1000): Ok (zK9 b) λr=>r.1.length=b.1.length/\r.2.1.length=b.2.1.length/\r.2.2.length=b.2.2.length:=by
 unfold zK9;rw[zCP (by omega),zob,zCP (by omega),zob,zob];refine Ok.bind (I:=λz:List wC=>z.length=b.2.1.length) ?_ λs2 hs2=>.ret ⟨rfl,hs2,rfl⟩;refine Ok.wh41 (λt:Int×List wC=>(t.2.length:Int)=t.1/\t.1<=b.2.1.length) (λt=>((b.2.1.length:Int)-t.1).toNat) (λt ht=>?_) _ _ (Qd _) ⟨rfl,by grind⟩;obtain⟨a1,a2⟩:=ht;unfold zNd;refine .ite (λhc=>?_) λhc=>.ret ?_
 ·rw[Qb] at hc;simp only[len] at hc;rw[qN (show -9223372036854775808<=t.1+1 by omega) (by omega)];refine(Ok.idx (by omega) hc).bind λx hx=>?_;grind [Ok.app,Ok]
 grind
theorem z4i{b:qX}(h1:b.1.length<=1000)(h2:b.2.1.length<=1000)(h3:b.2.2.length<=1000)(hq:∀ r∈b.2.1,r.2.2.2.1.length<=1000){y:List zH}(hy:y.length<=100000): Ok (zGp b y) λr=>r.1.length=b.1.length/\r.2.1.length=b.2.1.length/\r.2.2.length=b.2.2.length:=by
 unfold zGp;refine(r_copy h1 h2 h3 hq).bind λr1 hr=>?_;obtain⟨c1,c2,c3⟩:=hr;refine Ok.bind (I:=λz:List wC=>z.length=b.2.1.length) ?_ λs1 hs1=>.ret ⟨c1,hs1,c3⟩;refine Ok.wh41 (λt:Int×List wC=>t.2.length=b.2.1.length/\0<=t.1/\t.1<=b.2.1.length) (λt=>((b.2.1.length:Int)-t.1).toNat) (λt ht=>?_) _ _ (Qd _) ⟨c2,Ql 0,by grind⟩;obtain⟨a1,a2,a3⟩:=ht;unfold zKC;refine .ite (λhc=>?_) λ_=>.ret a1;rw[Qb] at hc;simp only[len] at hc;have wt:zE (t.1+1)=t.1+1:=qN (by omega) (by omega);refine Ok.wh41 (λu:Int×List wC=>u.2.length=b.2.1.length/\0<=u.1/\u.1<=b.2.2.length) (λu=>((b.2.2.length:Int)-u.1).toNat) (λu hu=>?_) _ _ (Qd _) ⟨a1,Ql 0,by grind⟩;obtain⟨d1,d2,d3⟩:=hu;unfold zKe;rw[wt];refine .ite (λhc2=>?_) λ_=>.ret ⟨⟨d1,by grind,by grind⟩,by grind⟩;rw[Qb] at hc2;simp only[len] at hc2;rw[qN (show -9223372036854775808<=u.1+1 by omega) (by omega)];refine(Ok.idx d2 hc2).bind λx1 _=>Ok.bind (I:=λ_:Bool=>True) ((Ok.idx (by omega) (by omega)).bind λx2 _=>.ite (λ_=>(Ok.idx (by omega) (by omega)).bind λx3 _=>.ite (λ_=>?_) λ_=>.ret trivial) λ_=>.ret trivial) λs4 _=>.ite (λ_=>(Ok.idx (by omega) (by omega)).bind λx4 _=>.ret ⟨⟨by grind,by grind,by grind⟩,by grind⟩) λ_=>.ret ⟨⟨d1,by grind,by grind⟩,by grind⟩;rw[z0V _ (by omega),zob];exact .ret trivial
end
section
structure CpI (c:zCB): Prop where
 n:c.2.1.length<=40
 g:GkG c.2.2.2
 gn:c.2.2.2.1=(c.2.1.length:Int)
theorem z3t{b:qX}(o:zC4)(h1:b.1.length<=1000)(h2:b.2.1.length<=1000)(h3:b.2.2.length<=1000)(hq:∀ r∈b.2.1,r.2.2.2.1.length<=1000)
  (hB:Ok (zG0 b) λr=>r.2=0->AgI b r.1):Ok (zBQ b o) λr=>r.2=0->CpI r.1:=by
 unfold zBQ;refine hB.bind λr1 hr1=>.ite (λhc=>.ret λe=>absurd e (by simpa using hc)) λhc=>?_;have h:=hr1 (by simpa using hc);have hn:=h.n;by_cases c:(if(o.1 != 1)=Aj then(o.1 != 2)||((o.2 != 1)&&(o.2 != 2)) else(o.2 != 1)&&(o.2 != 2))=Aj
 ·rw[Qi c];exact .ret nofun
 rw[Qa c];have hlen:len r1.1=(r1.1.length:Int):=rfl;rw[hlen];refine(zYh h o).bind λr2 hr2=>(z4U (n:=(r1.1.length:Int)) (by omega) (by omega) (by omega) hr2.2).bind λr3 hr3=>(z03 hr3.1).bind λr4 hr4=>?_;have hl4:r4.length<=40:=by have:=hr3.2;omega
 refine(z8o (by omega) 1).bind λr5 hr5=>(z6Z (ag:=r1.1) (by omega)).bind λr6 hr6=>(z4i h1 h2 h3 hq (y:=r6) (by omega)).bind λr7 hr7=>?_;obtain⟨e1,e2,e3⟩:=hr7;have h':AgI r7 r1.1:=⟨h.toAgL,by omega,by omega,λa ha h0=>by rw[e1];exact h.prem a ha h0,h.at_,λa ha h0=>by rw[e2];exact h.rule a ha h0⟩;exact(zYh h' o).bind λr8 hr8=>(z4U (n:=(r1.1.length:Int)) (by omega) (by omega) (by omega) hr8.2).bind λr9 hr9=>.ret λ_=>⟨hn,hr9.1,hr9.2⟩
end
section
variable{α:Type}
theorem zPu{P:α->Prop}{l:List α}{a:α}(h:∀ x∈l,P x)(ha:P a): ∀ x∈l++[a],P x:=by grind
def PO (p:wK): Prop:=(0<=p.2.2.1/\p.2.2.1<=9)/\(p.2.2.2=[]\/vName p.2.2.2=Aj)
def RO (q:wC): Prop:=vName q.1=Aj/\(0<=q.2.2.1/\q.2.2.1<=9)/\q.2.2.2.1.length<=4
theorem zZC (p:wK): Ok (zEk p) λe=>e=0->PO p:=by
 unfold zEk zC0;refine .ite (λ_=>.ret nofun) λ_=>Ok.bind (I:=λs:Bool=>s=Ak->PO p) ?_ λ_ hs=>.ite (λ_=>.ret nofun) λe=>.ret λ_=>hs e;simp only[zBw,zDF,zob];repeat' first
  | refine Ok.ite (λ_=>?_) λ_=>?_
  | refine Ok.ret λ_=>?_
 all_goals grind [PO]
theorem r_rule{q:wC}: Ok (zK5 q) λe=>e=0->RO q:=by
 unfold zK5 zC0;refine .ite (λ_=>.ret nofun) λhc=>?_;have hc:q.2.2.2.1.length<=4:=by
  have:¬ (4:Int)<len q.2.2.2.1:=by simpa using hc
  simp only[len] at this;omega
 refine Ok.bind (I:=λs:Bool=>s=Aj->RO q) ?_ λs1 h1=>Ok.bind (I:=λs:Bool=>s=Aj->s1=Aj) ?_ λs2 h2=>.ite (λ_=>.ret nofun) λe=>Ok.imp (I:=λ_:Int=>True) ?_ λ_ _ _=>h1 (h2 (by grind))
 ·simp only[zBw,zDF,zob];repeat' first
   | refine Ok.ite (λ_=>?_) λ_=>?_
   | refine Ok.ret λ_=>?_
  all_goals grind [RO]
 ·refine Ok.wh41 (λt:Bool×Int=>(t.1=Aj->s1=Aj)/\0<=t.2/\t.2<=q.2.2.2.1.length) (λt=>((q.2.2.2.1.length:Int)-t.2).toNat) (λt ht=>?_) _ _ (Qd _) ⟨id,Ql 0,by grind⟩;obtain⟨a1,a2,a3⟩:=ht;unfold zN1;refine .ite (λhc=>?_) λ_=>.ret a1;rw[Qb] at hc;simp only[len] at hc;rw[qN (show -9223372036854775808<=t.2+1 by omega) (by omega)];refine Ok.bind (I:=λs:Bool=>s=Aj->t.1=Aj) (.ite (λe=>(Ok.idx a2 hc).bind λx _=>?_) λ_=>.ret nofun) λ_ h=>.ret ⟨⟨λe=>a1 (h e),by grind,by grind⟩,by grind⟩;grind [zBw,Ok]
 ·refine Ok.wh41 (λt:Int=>1<=t/\t<=5) (λt=>(5-t).toNat) (λt ht=>?_) _ _ (Qd _) ⟨by omega,by omega⟩;unfold zNm;refine .ite (λhc=>?_) λ_=>.ret trivial;rw[Qb] at hc;simp only[len] at hc;rw[qN (show -9223372036854775808<=t+1 by omega) (by omega),qN (show -9223372036854775808<=t-1 by omega) (by omega)];refine(Ok.idx (by omega) (by omega)).bind λx2 _=>(Ok.idx (by omega) (by omega)).bind λx3 _=>?_;rw[zJd,zob];exact .ite (λ_=>.ret trivial) λ_=>.ret (by grind)
section
variable {b:qX}(h1:b.1.length<=100000)(h2:b.2.1.length<=100000)
include h1 in
theorem z4S (y:zH): Ok (zGi b y) λ_=>True:=by
 unfold zGi;refine Ok.forI (λi (_:Unit)=>(i:Int)) b.1 (λ_ _=>True) _ (λi x _ hx _=>?_) (λ_ _=>?_) () trivial
 ·have hi:=yK hx;unfold zGZ;rw[yY hx,Qi rfl,uB,hx,zob];exact .ite (λ_=>.ret trivial) λ_=>.ret ⟨(),by rw[wE i (by omega)],trivial⟩
 ·unfold zGZ;rw[uW];exact .ret trivial
include h2 in
theorem z8Q (y:zA): Ok (zIE b y) λr=>r<b.2.1.length:=by
 unfold zIE;refine Ok.forI (λi (_:Unit)=>(i:Int)) b.2.1 (λ_ _=>True) _ (λi x _ hx _=>?_) (λ_ _=>?_) () trivial
 ·have hi:=yK hx;unfold zJj;rw[yY hx,Qi rfl,uB,hx,zob];exact .ite (λ_=>.ret (show(i:Int)<b.2.1.length by omega)) λ_=>.ret ⟨(),by rw[wE i (by omega)],trivial⟩
 ·unfold zJj;rw[uW];exact .ret (show(-1:Int)<b.2.1.length by omega)
include h1 h2 in
theorem zRT (h3:b.2.2.length<=100000): Ok (zCz b) λe=>e=0->(b.1.length<=16/\b.2.1.length<=24)/\(∀ p∈b.1,PO p)/\∀ q∈b.2.1,RO q:=by
 unfold zCz;refine .ite (λ_=>.ret nofun) λhc=>?_;have hc:b.1.length<=16/\b.2.1.length<=24:=by
  simp[len] at hc;omega
 refine Ok.seqE (I:=λo=>match o with | .inl _=>∀ p∈b.1,PO p | .inr e=>e≠0) ?_ (λ_ hp=>Ok.seqE (I:=λo=>match o with | .inl _=>∀ q∈b.2.1,RO q | .inr e=>e≠0) ?_ (λ_ hq=>Ok.imp (I:=λ_:Int=>True) ?_ λ_ _ _=>⟨hc,hp,hq⟩) λ_ h e=>absurd e h) λ_ h e=>absurd e h
 ·refine Ok.forI (λi (_:Unit)=>(i:Int)) b.1 (λi _=>∀ p∈b.1.take i,PO p) _ (λi x _ hx hI=>?_) (λ_ hI=>?_) () (by simp)
  ·have hi:=yK hx;unfold zGJ;rw[yY hx,Qi rfl,uB,hx];simp only[zob];refine(zZC x).bind λr1 g1=>.ite (λe=>.ret (show r1≠0 by grind)) λe=>(z4S h1 _).bind λ_ _=>.ite (λ_=>.ret (show(5:Int)≠0 by decide)) λ_=>.ret ⟨(),by rw[wE i (by omega)],?_⟩;dsimp only;rw[zH8 hx];grind
  ·unfold zGJ;rw[uW];rw[QQ (Qd _)] at hI;exact .ret hI
 ·refine Ok.forI (λi (_:Unit)=>(i:Int)) b.2.1 (λi _=>∀ p∈b.2.1.take i,RO p) _ (λi x _ hx hI=>?_) (λ_ hI=>?_) () (by simp)
  ·have hi:=yK hx;unfold zGL;rw[yY hx,Qi rfl,uB,hx];simp only[zob];refine r_rule.bind λr1 g1=>.ite (λe=>.ret (show r1≠0 by grind)) λe=>(z8Q h2 _).bind λ_ _=>.ite (λ_=>.ret (show(5:Int)≠0 by decide)) λ_=>.ret ⟨(),by rw[wE i (by omega)],?_⟩;dsimp only;rw[zH8 hx];grind
  ·unfold zGL;rw[uW];rw[QQ (Qd _)] at hI;exact .ret hI
 ·refine Ok.wh41 (λt:Int=>0<=t/\t<=b.2.2.length) (λt=>((b.2.2.length:Int)-t).toNat) (λt ht=>?_) _ _ (Qd _) ⟨Ql 0,by omega⟩;unfold zJO zC0;refine .ite (λhc=>?_) λ_=>.ret trivial;rw[Qb] at hc;simp only[len] at hc;rw[qN (show -9223372036854775808<=t+1 by omega) (by omega)];refine(Ok.idx ht.1 hc).bind λx5 _=>Ok.bind (I:=λ_:Bool=>True) ?_ λs6 _=>.ite (λ_=>.ret trivial) λ_=>(z8Q h2 _).bind λr7 h7=>.ite (λ_=>.ret trivial) λe=>(Ok.idx (by grind) h7).bind λx6 _=>.ite (λ_=>.ret trivial) λ_=>.ret (by grind);simp only[zBw,zob];repeat' first
   | refine Ok.ite (λ_=>?_) λ_=>?_
   | exact Ok.ret trivial
end
end
section
theorem z7U{y:List Int}(hl:y.length<=1000)(z:Int): Ok (zH9 y z) λ_=>True:=by
 unfold zH9;refine Ok.forI (λi (_:Unit)=>(i:Int)) y (λ_ _=>True) _ (λi x _ hx _=>?_) (λ_ _=>?_) () trivial
 ·have hi:=yK hx;unfold zH4;rw[yY hx,Qi rfl,uB,hx,zob];exact .ite (λ_=>.ret trivial) λ_=>.ret ⟨(),by rw[wE i (by omega)],trivial⟩
 ·unfold zH4;rw[uW];exact .ret trivial
theorem r_in07{y:List Int}(hl:y.length<=1000)(z:Int): Ok (zJH y z) λ_=>True:=by
 unfold zJH;refine Ok.forI (λi (_:Unit)=>(i:Int)) y (λ_ _=>True) _ (λi x _ hx _=>?_) (λ_ _=>?_) () trivial
 ·have hi:=yK hx;unfold zMR;rw[yY hx,Qi rfl,uB,hx,zob];exact .ite (λ_=>.ret trivial) λ_=>.ret ⟨(),by rw[wE i (by omega)],trivial⟩
 ·unfold zMR;rw[uW];exact .ret trivial
def ChI (q n d:Nat)(r:List (List Int)): Prop:=r.length<=40 ^ d/\∀ c∈r,c.length=q/\∀ x∈c,0<=x/\x<(n:Int)
section
variable {l:List qS}{n:Nat}(hn:n<=l.length)(h40:n<=40){q:List zH}(hq:q.length<=4)
include hn h40 hq
theorem r_chL{d:Nat}{pre:List Int}(hp:pre.length+(d+1)=q.length){rc R:List qS->Int->List zH->List Int->Option (List (List Int))}
  (hr:∀ x:Int,0<=x->x<n->rc l n q (pre++[x])=R l n q (pre++[x])/\Ok (R l n q (pre++[x])) (ChI q.length n d)) :
  Ok (zN (zAs n l q pre rc) ([],0)) λr=>ChI q.length n (d+1) r/\zN (zAs n l q pre R) ([],0)=Ah r:=by
 have h64:40 ^ d<=64000:=by
  have:d<=3:=by omega
  rcases(by omega:d=0\/d=1\/d=2\/d=3) with rfl | rfl | rfl | rfl <;> decide
 have hpow:40 ^ (d+1)=40 ^ d*40:=Nat.pow_succ ..;refine Ok.wh41 (λt:List (List Int)×Int=>((t.1.length:Int)<=(40 ^ d:Nat)*t.2/\(∀ c∈t.1,c.length=q.length/\∀ x∈c,0<=x/\x<(n:Int))/\0<=t.2/\t.2<=n)/\zN (zAs n l q pre R) ([],0)=zN (zAs n l q pre R) t) (λt=>((n:Int)-t.2).toNat) (λt ht=>?_) _ _ (Qd _) ⟨⟨by simp,by simp,Ql 0,by grind⟩,rfl⟩;obtain⟨⟨a1,a0,a2,a3⟩,a4⟩:=ht;generalize 40 ^ d=P at *;have hm:(P:Int)*t.2<=P*40:=Int.mul_le_mul_of_nonneg_left (by omega) (by omega);have hs:Ok (zAs n l q pre rc t) λo=>zAs n l q pre R t=Ah o/\match o with | .inl t'=>((t'.1.length:Int)<=P*t'.2/\(∀ c∈t'.1,c.length=q.length/\∀ x∈c,0<=x/\x<(n:Int))/\0<=t'.2/\t'.2<=n)/\((n:Int)-t'.2).toNat<((n:Int)-t.2).toNat | .inr r=>ChI q.length n (d+1) r:=by
  unfold zAs;by_cases hc:t.2<(n:Int)
  ·rw[Qq hc,Qi rfl,Qi rfl];obtain⟨x2,e2,_⟩:=Ok.idx (l:=l) a2 (by omega);obtain⟨x3,e3,_⟩:=Ok.idx (l:=q) (i:=len pre) (by simp[len]) (by grind);rw[e2,e3];simp only[zob];rw[qN (show -9223372036854775808<=t.2+1 by omega) (by omega)];have hmul:(P:Int)*(t.2+1)=P*t.2+P:=by rw[Int.mul_add,Int.mul_one]
   by_cases hx:(x2.2.2.2==x3)=Aj
   ·rw[Qi hx,Qi hx];have es:sub pre 0 (len pre)=Ah pre:=by rw[zLn (by simp[len]) (by simp[len])];simp[len]
    rw[es];simp only[zob];rw[yI (by simp;omega)];simp only[zob];obtain⟨q1,r1,e1,b1,b2⟩:=hr t.2 a2 hc;rw[q1,e1];simp only[zob];rw[yI (by omega)];simp only[zob];refine .ret ⟨rfl,⟨by grind,λc hc'=>?_,by grind,by grind⟩,by grind⟩;grind
   ·rw[Qa hx,Qa hx];exact .ret ⟨rfl,⟨by grind,a0,by grind,by grind⟩,by grind⟩
  ·rw[Qp hc,Qa (by decide),Qa (by decide)];exact .ret ⟨rfl,by grind,a0⟩
 obtain⟨o,h1,h2,h3⟩:=hs;rw[h1];cases o with
 | inl t'=>exact .ret ⟨⟨h3.1,a4.trans (yZ h2)⟩,h3.2⟩
 | inr r=>exact .ret ⟨h3,a4.trans (vW h2)⟩
theorem r_chN:∀(d:Nat) (pre:List Int),pre.length+d=q.length->(∀ x∈pre,0<=x/\x<(n:Int))->∃ r,ChI q.length n d r/\∀ k,d<k->zBX k l n q pre=Ah r
 | 0,pre,hp,hx=>by
  refine⟨[pre],⟨by simp,λc hc=>by grind⟩,λk hk=>?_⟩;obtain⟨k,rfl⟩:∃ m,k=m+1:=⟨k-1,by omega⟩;show zCm (zBX k) l n q pre=_;unfold zCm;rw[Qi (by grind),zCP (by omega)];rfl
 | d+1,pre,hp,hx=>by
  have hstep:∀ k,d<k->Ok (zN (zAs n l q pre (zBX k)) ([],0)) λr=>ChI q.length n (d+1) r/\zN (zAs n l q pre (zBX (d+1))) ([],0)=Ah r:=λk hk=>by
   refine r_chL hn h40 hq hp λx h0 h1=>?_;obtain⟨r,c1,c2⟩:=r_chN d (pre++[x]) (by simp;omega) λy hy=>by
    grind
   grind [Ok]
  obtain⟨r0,_,c1,c2⟩:=hstep (d+1) (by omega);refine⟨r0,c1,λk hk=>?_⟩;obtain⟨k,rfl⟩:∃ m,k=m+1:=⟨k-1,by omega⟩;obtain⟨r,d1,_,d3⟩:=hstep k (by omega);rw[c2] at d3;have:=QA d3;show zCm (zBX k) l n q pre=_;unfold zCm;grind
theorem z67:Ok (zHX l n q []) λr=>r.length<=2560000/\∀ c∈r,c.length=q.length/\∀ x∈c,0<=x/\x<(n:Int):=by
 obtain⟨r,c1,c2⟩:=r_chN hn h40 hq q.length [] (by simp) (by simp);refine⟨r,Ev.lim ⟨q.length+1,λk hk=>c2 k (by omega)⟩,?_,c1.2⟩;have:40 ^ q.length<=2560000:=by
  rcases(by omega:q.length=0\/q.length=1\/q.length=2\/q.length=3\/q.length=4) with e | e | e | e | e <;> rw[e] <;> decide
 exact Qw c1.1 this
end
end
section
def gz:Nat->Nat
 | 0=>1
 | n+1=>1+2*gz n
theorem z7r{m n:Nat}(h:m<=n): gz m<=gz n:=by
 induction h with
 | refl=>grind
 | step _ ih=>rw[gz];omega
def stA (b:qX)(a:qS): Bool:=decide (0<=a.2.1)&&match b.2.1[a.2.1.toNat]? with | some r=>r.2.1 | none=>Ak
def hds (b:qX)(s:List zH): Nat:=b.2.1.countP λr=>decide (r.2.2.2.2∈s)
structure RnI (b:qX)(l:List qS)(S:Nat->List zH): Prop where
 eq:∀(i:Nat) a,l[i]?=Ah a->S i=a.2.2.2::if stA b a=Aj then a.2.2.1.flatMap (λx=>S x.toNat) else[]
 sz:∀ i,i<l.length->(S i).length<=gz (hds b (S i))
variable{α:Type}
theorem z12{p q:α->Bool}: ∀(D:List α),(∀ x,p x=Aj->q x=Aj)->∀ x∈D,q x=Aj->p x=Ak->D.countP p<D.countP q
 | d::D,h,x,hx,h1,h2=>by
  have hle:D.countP p<=D.countP q:=List.countP_mono_left λy _=>h y;rw[List.countP_cons,List.countP_cons];rcases QO.1 hx with rfl | hx
  ·grind
  ·have ih:=z12 D h x hx h1 h2;grind
theorem zZK{α:Type}{f:Int->List α}{m:Nat}: ∀(c:List Int),(∀ x∈c,(f x).length<=m)->(c.flatMap f).length<=c.length*m
 | [],_=>by simp
 | x::c,h=>by
  have ih:=zZK c λy hy=>h y (Qm _ hy);have:=h x Qt;rw[UU,Qg,Qr,QV,U1];omega
theorem z4n{f g:Int->List α}(c:List Int)(h:∀ x∈c,f x=g x): c.flatMap f=c.flatMap g:=by grind [List.map_congr_left]
section
variable {b:qX}{l:List qS}{S:Nat->List zH}
theorem RnI.len (h:RnI b l S)(h24:b.2.1.length<=24){i:Nat}(hi:i<l.length): (S i).length<=33554431:=
 Qw (h.sz i hi) (Qw (z7r (Qw List.countP_le_length h24)) (by decide))
theorem RnI.snoc (h:RnI b l S)(ha:AgL l){a:qS}(hc:∀ x∈a.2.2.1,0<=x/\x<(l.length:Int))(h2:a.2.2.1.length<=2)
  (hw:stA b a=Aj->∃ r∈b.2.1,r.2.2.2.2=a.2.2.2/\∀ x∈a.2.2.1,a.2.2.2∉S x.toNat):∃ S',RnI b (l++[a]) S':=by
 let T:=a.2.2.2::if stA b a=Aj then a.2.2.1.flatMap (λx=>S x.toNat) else[]
 have e1:∀ i,i<l.length->(if i=l.length then T else S i)=S i:=λi hi=>Qa (by omega);have e2:∀ c:List Int,(∀ x∈c,0<=x/\x<(l.length:Int))->c.flatMap (λx=>if x.toNat=l.length then T else S x.toNat)=c.flatMap λx=>S x.toNat:=λc hc=>z4n c λx hx=>e1 _ (by grind);refine⟨λi=>if i=l.length then T else S i,λi a' hi=>?_,λi hi=>?_⟩
 ·by_cases hl:i<l.length
  ·rw[List.getElem?_append_left hl] at hi;rw[e1 i hl,h.eq i a' hi,e2 _ λx hx=>by have:=(ha.sub i a' hi).2 x hx;omega]
  grind
 ·rw[Qg,List.length_singleton] at hi;by_cases hl:i<l.length
  ·rw[e1 i hl];exact h.sz i hl
  rw[Qi (show i=l.length by omega)];by_cases hs:stA b a=Aj
  ·have hT:T=a.2.2.2::a.2.2.1.flatMap (λx=>S x.toNat):=by show(a.2.2.2::_)=_;rw[Qi hs]
   obtain⟨r,r1,r2,r3⟩:=hw hs;have hlt:∀ x∈a.2.2.1,hds b (S x.toNat)<hds b T:=λx hx=>by
    refine z12 b.2.1 (λq hq=>?_) r r1 (Qq (by grind)) (Qp (by grind));grind
   by_cases hn:a.2.2.1=[]
   ·rw[hT,hn];exact Qw (Qd 1) (z7r (QT _))
   obtain⟨x0,hx0⟩:=List.exists_mem_of_ne_nil _ hn;have h0:=hlt x0 hx0;obtain⟨m,hm⟩:∃ m,hds b T=m+1:=⟨hds b T-1,by omega⟩;have hle:=zZK (m:=gz m) (f:=λx=>S x.toNat) a.2.2.1 λx hx=>Qw (h.sz _ (by grind)) (z7r (by grind));have h3:a.2.2.1.length*gz m<=2*gz m:=QK _ h2;grind [gz]
  ·have hT:T=[a.2.2.2]:=by show(a.2.2.2::_)=_;rw[Qa hs]
   rw[hT];exact Qw (Qd 1) (z7r (QT _))
theorem AgI.snoc (h:AgI b l)(hn:l.length<40){a:qS}(h1:a.2.2.1.length<=1000)(hc:∀ x∈a.2.2.1,0<=x/\x<(l.length:Int))(p:0<=a.1->a.1<b.1.length)(q:a.2.1<0->0<=a.1)(r:0<=a.2.1->a.2.1<b.2.1.length): AgI b (l++[a]):=by
 have hm:∀ {P:qS->Prop},(∀ x∈l,P x)->P a->∀ x∈l++[a],P x:=λ{P} h1 h2 x hx=>by
  grind
 refine⟨⟨by simp;omega,λi a' hi=>?_⟩,h.b1,h.b2,hm h.prem p,hm h.at_ q,hm h.rule r⟩;by_cases hl:i<l.length
 ·rw[List.getElem?_append_left hl] at hi;exact h.sub i a' hi
 grind
section
variable (h:AgI b l)(hr:RnI b l S)(h24:b.2.1.length<=24)
include h hr h24
theorem r_runN (i:Nat): i<l.length->∀ k,i<k->zGC k b l (i:Int)=Ah (S i):=by
 induction i using Nat.strongRecOn with
 | ind i ih=>
  intro hi k hk;obtain⟨k,rfl⟩:∃ m,k=m+1:=⟨k-1,by omega⟩;obtain⟨a,ha⟩:∃ a,l[i]?=Ah a:=⟨_,Qs hi⟩;have e:=hr.eq i a ha;have hz:=hr.len h24 hi;show zLu (zGC k) b l (i:Int)=_;unfold zLu;rw[xO ha];simp only[zob];have es:(if decide (0<=a.2.1)=Aj then(zD b.2.1 a.2.1).bind λx4=>Ah x4.2.1 else Ah Ak)=Ah (stA b a):=by
   unfold stA;by_cases h0:0<=a.2.1
   ·obtain⟨r,e1,_,e2⟩:=Ok.idx (l:=b.2.1) h0 (h.rule a (zHM ha) h0);grind
   ·grind
  rw[es,zob];by_cases hs:stA b a=Aj
  ·rw[Qi hs] at e ⊢;obtain⟨p1,p2⟩:=h.sub i a ha;have hL:Ok (zN (zHd l (i:Int) (zGC k) b) ([a.2.2.2],0)) λr=>r=S i:=by
    refine Ok.forI (λj (s:List zH)=>(s,(j:Int))) a.2.2.1 (λj s=>s=a.2.2.2::(a.2.2.1.take j).flatMap λx=>S x.toNat) _ (λj x s hx hs=>?_) (λs hs=>?_) [a.2.2.2] (by simp)
    ·have hj:=yK hx;have hxx:=p2 x (zHM hx);have hsp:(a.2.2.1.take (j+1)).flatMap (λx=>S x.toNat)=(a.2.2.1.take j).flatMap (λx=>S x.toNat)++S x.toNat:=by
      rw[zH8 hx,List.flatMap_append];simp
     have hlen:s.length+(S x.toNat).length<=(S i).length:=by
      have:a.2.2.1.flatMap (λx=>S x.toNat)=(a.2.2.1.take (j+1)).flatMap (λx=>S x.toNat)++(a.2.2.1.drop (j+1)).flatMap (λx=>S x.toNat):=by rw[<-List.flatMap_append,QC]
      rw[e,this,hsp,hs];simp only[Qr,Qg];omega
     unfold zHd;dsimp only;rw[xO ha];simp only[zob];rw[yY hx,Qi rfl,uB,hx,zob];obtain⟨n,rfl⟩:=Qv hxx.1;have hn:=ih n (by omega) (by omega) k (by omega);rw[hn,zob];have hnn:((n:Int)).toNat=n:=rfl;rw[hnn] at hsp hlen;rw[yI (by omega),zob];exact .ret ⟨s++S n,by rw[wE j (by omega)],show s++S n=_ by grind⟩
    ·unfold zHd;dsimp only;rw[xO ha];simp only[zob];rw[uW];exact .ret (show s=S i by grind)
   obtain⟨r,e1,e2⟩:=hL;rw[e1,e2]
  grind
theorem z71{i:Int}{r:wC}(hi:zD b.2.1 i=Ah r){c:List Int}(hl:c.length<=1000)(hc:∀ x∈c,0<=x/\x<(l.length:Int)): Ok (zFa b l i c) λw=>w=Aj->r.2.1=Aj->∀ x∈c,r.2.2.2.2∉S x.toNat:=by
 have hb:=h.b2;unfold zFa;rw[hi,zob];refine Ok.forI (λj (_:Unit)=>(j:Int)) c (λj _=>r.2.1=Aj->∀ x∈c.take j,r.2.2.2.2∉S x.toNat) _ (λj x _ hx hI=>?_) (λ_ hI=>?_) () (by simp)
 ·have hj:=yK hx;have hxx:=hc x (zHM hx);obtain⟨n,rfl⟩:=Qv hxx.1;have hrun:zP4 b l (n:Int)=Ah (S n):=Ev.lim ⟨n+1,λk hk=>r_runN h hr h24 n (by omega) k (by omega)⟩;have hn:=hr.len h24 (i:=n) (by omega);have hdef:Ok ((zBs b l (n:Int)).bind λr5=>(zJH r5 i).bind λr6=>Ah r6) λ_=>True:=
   (r_def h hxx.1 hxx.2).bind λq hq=>(r_in07 (by have:=hq.len (by omega);omega) i).bind λ_ _=>.ret trivial
  unfold zHR;rw[yY hx,Qi rfl,uB,hx];simp only[zob];rw[hrun,zob,z0V _ (by omega),zob];refine Ok.bind (I:=λs:Bool=>s=Ak->r.2.1=Aj->r.2.2.2.2∉S n) (.ite (λh1=>.ite (λ_=>.ret nofun) λhd=>?_) λh1=>?_) λs2 h2=>.ite (λ_=>.ret nofun) λe=>.ret ⟨(),by rw[wE j (by omega)],λh1 y hy=>?_⟩
  ·grind [Ok]
  ·grind
  ·rw[zH8 hx] at hy;grind
 ·unfold zHR;rw[uW];rw[QQ (Qd _)] at hI;exact .ret λ_=>hI
end
end
def BuI (b:qX)(l:List qS): Prop:=AgI b l/\∃ S,RnI b l S
theorem z97{b:qX}(h1:b.1.length<=1000)(h2:b.2.1.length<=1000)(h3:b.2.2.length<=1000)(hq:∀ r∈b.2.1,r.2.2.2.1.length<=2): Ok (zG0 b) λr=>r.2=0->AgI b r.1/\b.1.length<=16/\b.2.1.length<=24:=by
 unfold zG0;refine(zRT (by omega) (by omega) (by omega)).bind λr1 hr1=>.ite (λhc=>.ret λe=>absurd e (by grind)) λhc=>?_;obtain⟨⟨h16,h24⟩,_⟩:=hr1 (by grind);refine Ok.bind (I:=BuI b) ?_ λs1 hs1=>?_
 ·refine Ok.forI (λi (s:List qS)=>(s,(i:Int))) b.1 (λi s=>BuI b s/\s.length=i) _ (λi x s hx hI=>?_) (λs hI=>?_) [] ⟨⟨⟨⟨by simp,by simp⟩,h1,h2,by simp,by simp,by simp⟩,λ_=>[],by simp,by simp⟩,rfl⟩
  ·have hi:=yK hx;obtain⟨⟨a1,S,a2⟩,a3⟩:=hI;unfold zI6;dsimp only;rw[yY hx,Qi rfl,uB,hx,zob,yI (by simp;omega),zob];refine .ret ⟨_,by rw[wE i (by omega)],⟨a1.snoc (by omega) (by simp) (by simp) (λ_=>by grind) (λ_=>by grind) (λe=>absurd e (by grind)),a2.snoc a1.toAgL (by simp) (by simp) λe=>absurd e (by unfold stA;simp)⟩,by simp;omega⟩
  ·unfold zI6;dsimp only;rw[uW];exact .ret hI.1
 ·refine Ok.wh41 (λt:List qS×Int×Int=>BuI b t.1/\0<=t.2.1/\t.2.1<=t.1.length/\1<=t.2.2/\t.2.2<=t.2.1+2) (λt=>(40-t.2.1).toNat*2+(2-t.2.2).toNat) (λt ht=>?_) _ _ (Qd _) ⟨hs1,Ql 0,by grind,by grind,by grind⟩;obtain⟨a1,a2,a3,a4,a5⟩:=ht;have hl:=a1.1.n;unfold zMe;refine .ite (λhc=>?_) λ_=>.ret λ_=>⟨a1.1,h16,h24⟩;have hc:t.2.2=1\/t.2.1<t.1.length:=by simpa [len] using hc
  refine Ok.wh41 (λu:List qS×Int=>BuI b u.1/\t.1.length<=u.1.length/\0<=u.2/\u.2<=b.2.1.length) (λu=>((b.2.1.length:Int)-u.2).toNat) (λu hu=>?_) _ _ (Qd _) ⟨a1,Qd _,Ql 0,by grind⟩;obtain⟨b1,b2,b3,b4⟩:=hu;have hl2:=b1.1.n;unfold zM7;refine .ite (λhu=>?_) λ_=>?_
  ·rw[Qb] at hu;simp only[len] at hu;refine(Ok.idx b3 hu).bind λr hr=>?_;have hr0:zD b.2.1 u.2=Ah r:=by rw[<-hr.2];simp[zD];omega
   have hr2:=hq r hr.1;refine(z67 (l:=u.1) (n:=t.1.length) b2 (by omega) (q:=r.2.2.2.1) (by omega)).bind λr2 hr2'=>?_;obtain⟨g1,g2⟩:=hr2';refine Ok.wh41 (λv:List qS×Int=>BuI b v.1/\u.1.length<=v.1.length/\0<=v.2/\v.2<=r2.length) (λv=>((r2.length:Int)-v.2).toNat) (λv hv=>?_) _ _ (Qd _) ⟨b1,Qd _,Ql 0,by grind⟩;obtain⟨⟨c1,S,c0⟩,c2,c3,c4⟩:=hv;have hl3:=c1.n;unfold zMU;rw[qN (show -9223372036854775808<=u.2+1 by omega) (by omega)];refine .ite (λhd=>?_) λ_=>.ret ⟨⟨⟨c1,S,c0⟩,by grind,by grind,by grind⟩,by grind⟩;rw[Qb] at hd;simp only[len] at hd;rw[qN (show -9223372036854775808<=v.2+1 by omega) (by omega)];refine(Ok.idx c3 hd).bind λx4 h4=>?_;obtain⟨k1,k2⟩:=g2 x4 h4.1;have k3:∀ x∈x4,0<=x/\x<(v.1.length:Int):=λx hx=>by grind
   have hw:=z71 c1 c0 h24 hr0 (c:=x4) (by omega) k3;refine Ok.bind (I:=λs:Bool=>s=Ak->r.2.1=Aj->∀ x∈x4,r.2.2.2.2∉S x.toNat) ((z7U (by omega) _).bind λr3 _=>.ite (λ_=>.ite (λ_=>.ret nofun) λ_=>.ite (λ_=>.ret nofun) λ_=>hw.bind λw hw=>.ret λe=>hw (by grind)) λ_=>hw.bind λw hw=>.ret λe=>hw (by grind)) λs6 h6=>.ite (λ_=>.ret ⟨⟨⟨c1,S,c0⟩,c2,by grind,by grind⟩,by grind⟩) λe=>?_;rw[hr0,zob,yI (by simp;omega),zob];refine .ite (λ_=>.ret nofun) λhf=>?_;have hf:v.1.length<40:=by simp[len] at hf;omega
   refine .ret ⟨⟨⟨c1.snoc hf (by grind) k3 (λe=>absurd e (by grind)) (λe=>absurd e (by grind)) (λ_=>hu),c0.snoc c1.toAgL k3 (by grind) λe1=>⟨r,hr.1,rfl,h6 e ?_⟩⟩,by simp;omega,by grind,by grind⟩,by grind⟩;rw[<-e1];unfold stA;grind
  ·rw[qN (show -9223372036854775808<=t.2.2+1 by omega) (by omega)];exact .ret ⟨⟨b1,by simp[len],by grind,by grind,by grind⟩,by grind⟩
theorem zVu{b:qX}(o:zC4)(h1:b.1.length<=1000)(h2:b.2.1.length<=1000)(h3:b.2.2.length<=1000)(hq:∀ r∈b.2.1,r.2.2.2.1.length<=2): Ok (zBQ b o) λr=>r.2=0->CpI r.1/\b.1.length<=16/\b.2.1.length<=24:=by
 obtain⟨q,e,hb⟩:=z97 h1 h2 h3 hq;obtain⟨r,e2,hr⟩:=z3t o h1 h2 h3 (λx hx=>by grind) ⟨q,e,λh=>(hb h).1⟩;refine⟨r,e2,λh0=>⟨hr h0,?_⟩⟩;by_cases hq0:q.2=0
 ·grind
 ·unfold zBQ at e2;grind
end
section
theorem r_sets{g:List Int}(hg:g.length<=40): Ok (zKN [g] 0) λr=>r.1.length<=1/\∀ x∈r.1,x.length<=40:=by
 unfold zKN;rw[Qa (by decide)];refine Ok.forI (λi (s:List (List Int))=>(s,(i:Int))) [g] (λi s=>s.length=i/\∀ x∈s,x.length<=40) _ (λi x s hx hs=>?_) (λs hs=>?_) [] ⟨rfl,by simp⟩
 ·have hi:=yK hx;obtain rfl:x=g:=by grind
  rw[List.length_singleton] at hi;unfold zJV;dsimp only;rw[yY hx,Qi rfl,uB,hx,zob];refine(z8o (by omega) 1).bind λr1 h1=>?_;rw[yI (by grind),zob];exact .ret ⟨_,by rw[wE i (by omega)],by simp;omega,zPu hs.2 (by omega)⟩
 ·unfold zJV;dsimp only;rw[uW];exact .ret ⟨by grind,hs.2⟩
theorem r_conc{c:zCB}(h:CpI c): Ok (zDk c 1) λr=>r.1.length<=1/\∀ x∈r.1,x.length<=40:=by
 unfold zDk zGa;refine Ok.bind (I:=λr:List (List Int)×Int=>r.1.length<=1/\∀ x∈r.1,x.length<=40) ((zRL h.g.len).bind λr1 _=>.ite (λ_=>.ret ⟨by simp,by simp⟩) λ_=>?_) λr1 hr1=>.ite (λ_=>.ret ⟨by simp,by simp⟩) λ_=>?_
 ·rw[Qi (by decide)];exact(z03 h.g).bind λr2 h2=>(r_sets (by grind)).bind λr3 h3=>.ret h3
 ·refine Ok.forI (λi (s:List (List zH))=>(s,(i:Int))) r1.1 (λi s=>s.length=i/\∀ x∈s,x.length<=40) _ (λi x s hx hs=>?_) (λs hs=>?_) [] ⟨rfl,by simp⟩
  ·have hi:=yK hx;have hx40:=hr1.2 x (zHM hx);unfold zE0;dsimp only;rw[yY hx,Qi rfl,uB,hx,zob];refine(z6Z (by omega)).bind λr1 h1=>?_;rw[yI (by grind),zob];exact .ret ⟨_,by rw[wE i (by omega)],by simp;omega,zPu hs.2 (by omega)⟩
  ·unfold zE0;dsimp only;rw[uW];exact .ret ⟨by grind,hs.2⟩
theorem r_acc{c:zCB}(h:CpI c): Ok (zFq c 1 Aj) λr=>r.1.length<=2000:=by
 unfold zFq;refine(r_conc h).bind λr1 hr1=>.ite (λ_=>.ret (by simp)) λ_=>Ok.bind (I:=λs:List zH=>s.length<=40) ?_ λs1 hs1=>?_
 ·refine Ok.wh41 (λt:List zH×Int=>(t.1.length:Int)<=40*t.2/\0<=t.2/\t.2<=r1.1.length) (λt=>((r1.1.length:Int)-t.2).toNat) (λt ht=>?_) _ _ (Qd _) ⟨by simp,Ql 0,by grind⟩;obtain⟨a1,a2,a3⟩:=ht;unfold zJ6;refine .ite (λhc=>?_) λ_=>.ret (by omega);rw[Qb] at hc;simp only[len] at hc;obtain⟨x1,e1,m1,_⟩:=Ok.idx a2 hc;have hx:=hr1.2 x1 m1;refine Ok.wh41 (λv:List zH×Int=>(v.1.length:Int)<=40*t.2+v.2/\0<=v.2/\v.2<=x1.length) (λv=>((x1.length:Int)-v.2).toNat) (λv hv=>?_) _ _ (Qd _) ⟨by grind,Ql 0,by grind⟩;obtain⟨b1,b2,b3⟩:=hv;unfold zJl;rw[e1];simp only[zob];rw[qN (show -9223372036854775808<=t.2+1 by omega) (by omega)];refine .ite (λhd=>?_) λ_=>.ret ⟨⟨by grind,by grind,by grind⟩,by grind⟩;rw[Qb] at hd;simp only[len] at hd;grind [qN,Ok.idx,z1v,Ok]
 ·refine Ok.wh41 (λt:List zH×Int=>(t.1.length:Int)<=t.2/\t.2<=s1.length) (λt=>((s1.length:Int)-t.2).toNat) (λt ht=>?_) _ _ (Qd _) ⟨by simp,by grind⟩;obtain⟨a1,a2⟩:=ht;unfold zJN;refine .ite (λhc=>?_) λ_=>.ret (by grind);rw[Qb] at hc;simp only[len] at hc;rw[qN (show -9223372036854775808<=t.2+1 by omega) (by omega)];refine Ok.bind (I:=λ_:Bool=>True) ?_ λs5 _=>.ite (λ_=>(Ok.idx (by omega) hc).bind λx6 _=>?_) λ_=>.ret ⟨⟨by grind,by grind⟩,by grind⟩
  ·refine Ok.wh41 (λv:Bool×Int=>0<=v.2/\v.2<=r1.1.length) (λv=>((r1.1.length:Int)-v.2).toNat) (λv hv=>?_) _ _ (Qd _) ⟨Ql 0,by grind⟩;unfold zJm;refine .ite (λhd=>?_) λ_=>.ret trivial;rw[Qb] at hd;simp only[len] at hd;rw[qN (show -9223372036854775808<=v.2+1 by omega) (by omega)];refine Ok.bind (I:=λ_:Bool=>True) (.ite (λ_=>(Ok.idx hv.1 hd).bind λx4 h4=>(Ok.idx (by omega) hc).bind λx5 _=>?_) λ_=>.ret trivial) λ_ _=>.ret ⟨⟨by grind,by grind⟩,by grind⟩;rw[z0V _ (by grind)];exact .ret trivial
  grind [yI,Ok]
end
section
def cm (s:zA): Nat:=s.count 44
theorem z4s (a b:zA): cm (a++b)=cm a+cm b:=List.count_append
theorem z8P{a b:zA}(h:a.Sublist b): cm a<=cm b:=h.count_le 44
theorem zWX{s:zA}(h:vName s=Aj): cm s=0:=by
 unfold cm;rw[List.count_eq_zero];intro hm;match s,h,hm with
 | c::r,h,hm=>
  simp[vName] at h;rcases QO.1 hm with rfl | hm
  ·have:=h.1.2;revert this;decide
  ·have:=h.2 44 hm;revert this;decide
abbrev TB (n k:Nat)(s:zA): Prop:=s.length<=n/\cm s=k
theorem TB.cat{a b:zA}{n k m j:Nat}(h:TB n k a)(g:TB m j b)(hl:n+m<=1000000:=by omega): Ok (qA a b) (TB (n+m) (k+j)):=by
 obtain⟨h1,h2⟩:=h;obtain⟨g1,g2⟩:=g;rw[wQ (by omega)];exact .ret ⟨by grind,by rw[z4s,h2,g2]⟩
theorem x_fmt (x:zH): Ok (zBD x) (TB 13 0):=by
 unfold zBD;rw[zBw,zob];refine .ite (λ_=>.ret ⟨by simp,rfl⟩) λhv=>?_;have hv:vName x.2=true:=by simpa using hv
 have hn:TB 12 0 x.2:=⟨(zJp hv).2,zWX hv⟩;exact .ite (λ_=>((show TB 1 0 [126] by decide).cat hn).bind λz hz=>.ret hz) λ_=>.ret ⟨by grind,hn.2⟩
theorem x_digit{n:Int}(h0:0<=n/\n<=9): Ok (zFC n) (TB 1 0):=by
 unfold zFC;rw[qN (by omega) (by omega),zL2 h0.1 (by omega) (by simp;omega),zob];refine .ret ⟨by simp;omega,Nat.le_zero.1 (Qw (z8P ((UV _ _).trans (UW _ _))) (by decide))⟩
variable{p:wK}
theorem x_source(h:PO p): Ok (zET p) (TB 18 0):=by
 unfold zET;refine .ite (λ_=>.ret ⟨by simp,rfl⟩) λhc=>?_;have hv:vName p.2.2.2=true:=h.2.resolve_left (by grind);exact((show TB 6 0 [32,102,114,111,109,32] by decide).cat ⟨(zJp hv).2,zWX hv⟩).bind λz hz=>.ret hz
theorem x_premL(h:PO p): Ok (zCq p) λs=>s.length<=41/\cm s=0:=by
 unfold zCq;refine(x_fmt _).bind λr1 h1=>.ite (λ_=>?_) λ_=>.ite (λ_=>?_) λ_=>?_
 ·exact((show TB 6 0 [97,120,105,111,109,32] by decide).cat h1).bind λx1 g1=>(x_source h).bind λr2 g2=>(g1.cat g2).bind λz hz=>.ret ⟨by grind,hz.2⟩
 ·exact((show TB 8 0 [112,114,101,109,105,115,101,32] by decide).cat h1).bind λx1 g1=>(g1.cat (show TB 1 0 [32] by decide)).bind λx2 g2=>(x_digit h.1).bind λr3 g3=>(g2.cat g3).bind λx4 g4=>(x_source h).bind λr2 g5=>(g4.cat g5).bind λz hz=>.ret ⟨by grind,hz.2⟩
 ·exact((show TB 7 0 [97,115,115,117,109,101,32] by decide).cat h1).bind λx1 g1=>(x_source h).bind λr2 g2=>(g1.cat g2).bind λz hz=>.ret ⟨by grind,hz.2⟩
theorem x_ruleL{q:wC}(h1:vName q.1=Aj)(h2:0<=q.2.2.1/\q.2.2.1<=9)(hb:q.2.2.2.1.length<=10000): Ok (zEG q) λs=>s.length<=50+15*q.2.2.2.1.length/\cm s=q.2.2.2.1.length-1:=by
 unfold zEG;have hn:TB 12 0 q.1:=⟨(zJp h1).2,zWX h1⟩;refine Ok.bind (I:=TB (15*q.2.2.2.1.length) (q.2.2.2.1.length-1)) ?_ λs1 hs=>.ite (λ_=>?_) λ_=>?_
 ·refine Ok.forI (λi (s:zA)=>(s,(i:Int))) q.2.2.2.1 (λi s=>TB (15*i) (i-1) s) _ (λi x s hx hs=>?_) (λs hs=>?_) [] ⟨by simp,rfl⟩
  ·have hi:=yK hx;unfold zFy;dsimp only;rw[yY hx,Qi rfl];refine Ok.bind (I:=TB (15*i+1) i) (.ite (λhc=>(hs.cat (show TB 1 1 [44] by decide)).bind λz hz=>.ret ⟨hz.1,?_⟩) λhc=>.ret ⟨by grind,?_⟩) λs3 h3=>(h3.cat (show TB 1 0 [32] by decide)).bind λx2 g2=>?_
   ·grind
   ·grind
   ·rw[uB,hx,zob];exact(x_fmt x).bind λr1 g3=>(g2.cat g3).bind λx4 g4=>.ret ⟨x4,by rw[wE i (by omega)],by grind,by grind⟩
  ·unfold zFy;dsimp only;rw[uW];exact .ret hs
 ·exact((show TB 7 0 [115,116,114,105,99,116,32] by decide).cat hn).bind λx5 g5=>(g5.cat (show TB 1 0 [58] by decide)).bind λx6 g6=>(g6.cat hs).bind λx7 g7=>(g7.cat (show TB 4 0 [32,45,62,32] by decide)).bind λx8 g8=>(x_fmt _).bind λr2 g=>(g8.cat g).bind λz hz=>.ret ⟨by grind,by grind⟩
 ·exact((show TB 5 0 [114,117,108,101,32] by decide).cat hn).bind λx5 g5=>(g5.cat (show TB 1 0 [32] by decide)).bind λx6 g6=>(x_digit h2).bind λr3 g=>(g6.cat g).bind λx7 g7=>(g7.cat (show TB 1 0 [58] by decide)).bind λx8 g8=>(g8.cat hs).bind λx9 g9=>(g9.cat (show TB 4 0 [32,61,62,32] by decide)).bind λx8 g8=>(x_fmt _).bind λr2 g=>(g8.cat g).bind λz hz=>.ret ⟨by grind,by grind⟩
structure CB (ps:List wK)(rs:List wC): Prop where
 p:ps.length<=1
 r:rs.length<=1
 b:∀ r∈rs,r.2.2.2.1.length<=2
theorem rf_cm{ps:List wK}{rs:List wC}(h:CB ps rs): Ok (zHe (ps,rs,[])) λr=>r.1.length<=4096/\cm r.1<=1:=by
 obtain⟨a1,a2,a3⟩:=h;unfold zHe;refine(zRT (b:=(ps,rs,[])) (by grind) (by grind) (by simp)).bind λr1 h1=>.ite (λ_=>.ret ⟨by simp,QT 1⟩) λe=>?_;obtain⟨_,k1,k2⟩:=h1 (by grind);dsimp only at k1 k2;refine Ok.bind (I:=λs:zA=>s.length<=42/\cm s=0) ?_ λs1 g1=>Ok.bind (I:=λs:zA=>s.length<=200/\cm s<=1) ?_ λs2 g2=>Ok.bind (I:=λs:zA=>s.length<=200/\cm s<=1) ?_ λs3 g3=>.ite (λ_=>.ret ⟨by simp,QT 1⟩) λ_=>.ret ⟨by grind,g3.2⟩
 ·refine Ok.forI (λi (s:zA)=>(s,(i:Int))) ps (λi s=>TB (42*i) 0 s) _ (λi x s hx hs=>?_) (λs hs=>?_) [] ⟨by simp,rfl⟩
  ·have hi:=yK hx;unfold zHQ;dsimp only;rw[yY hx,Qi rfl,uB,hx,zob];exact(x_premL (k1 x (zHM hx))).bind λr2 g2=>(TB.cat hs g2).bind λx2 g3=>(g3.cat (show TB 1 0 [10] by decide)).bind λx3 g4=>.ret ⟨x3,by rw[wE i (by omega)],by grind,g4.2⟩
  ·unfold zHQ;dsimp only;rw[uW];exact .ret ⟨by grind,hs.2⟩
 ·refine Ok.forI (λi (s:zA)=>(s,(i:Int))) rs (λi s=>s.length<=42+100*i/\cm s<=i) _ (λi x s hx hs=>?_) (λs hs=>?_) s1 ⟨by omega,by omega⟩
  ·have hi:=yK hx;have hq:=k2 x (zHM hx);have hb:=a3 x (zHM hx);unfold zH0;dsimp only;rw[yY hx,Qi rfl,uB,hx,zob];exact(x_ruleL hq.1 hq.2.1 (by omega)).bind λr2 g2=>(TB.cat (n:=42+100*i) (m:=90) ⟨hs.1,rfl⟩ ⟨by omega,rfl⟩).bind λx2 g3=>(g3.cat (show TB 1 0 [10] by decide)).bind λx3 g4=>.ret ⟨x3,by rw[wE i (by omega)],by grind,by grind⟩
  ·unfold zH0;dsimp only;rw[uW];exact .ret ⟨by omega,by omega⟩
 ·exact⟨s2,vW (by unfold zLU;rfl),g2⟩
end
end Go.GD
