/- A part. Conditions: none. -/
import Derived.Test.YtgjdojihimkgcaaGreatDoorWalk4
namespace Go.Proofs.YtgjdojihimkgcaaGreatDoor
open Go Go.GD Go.Proofs.Tryz
set_option autoImplicit false
set_option linter.unusedVariables false
set_option maxRecDepth 100000
set_option linter.defProp false
variable {qd:Prop}
variable {yl1:Nat}{p1 p2 p3 p4 p5 p6 p7 p8 p9:Option Addr}{c1 c2 c3 c4 c5 c6 c7 c8 c9:Nat}{b1 b2 b3 b4 b5 b6 b7 b8 b9 b10 b11:Nat}{r_1 r_2 r_3 r_4 r_5 r_6 r_7 r_8:zJ}
theorem zTT{y0:uU}{y1:Int}{y2:Int}{y3:Int}: zP qd prog 12 [pt b1 0,vi y1,vi y2,vi y3] [bx b1 58 (zJm y0 p1 c1)] (zJs y0 p1 c1 []) (zLQ y0 y1 y2 y3) λr K=>∀ p2 c2 p3 c3 p4 c4,K (.agg (yK r.1 p2 c2 p3 c3 p4 c4).toArray) [bx b1 58 [sv p1 y0.1 c1,vi r.2]] (yO r.1 p2 c2 p3 c3 p4 c4 []) :=
 zO call12 func12 u λX=>zG<|yB .s (.agg k0)<|λb2=>zK<|zG<|yB .s (.agg k0)<|λb3=>yU zCO 97<|yU xV 101<|yU zAx 103<|zK<|
  wF (λs1 K=>∀ p2 c2 r_1,K [0,1,3,8,9] [(0,bx b1 58 [sv p1 y0.1 c1,vi s1.1]),(2,bx b3 29 [sv p2 s1.2 c2,sv none ([]:List qH) 0,sv none ([]:List wW) 0]),(3,r_1)] [3,1,0] [] [Al zCO 97 r_1 p2 c2 s1.2]) (
  zG<|zA 3 u<|qD .s [0] [] zCh u u u (cq [3])<|λr1 _ k=>k<|zA 1 u<|zK<|qA<|
  wO (λs2 K=>∀ p3 c3 r_2,K [0,1,3,8,9] [(0,bx b1 58 [sv p1 y0.1 c1,vi s2.2.1]),(2,bx b3 29 [sv p3 s2.2.2 c3,sv none ([]:List qH) 0,sv none ([]:List wW) 0]),(3,r_2)] [3,1,0] [(10,vi s2.1)] [Al zCO 97 r_2 p3 c3 s2.2.2]) (gv (λ_ k=>k none 0 []) [0,1,2,3,4,5] (gq [2,3,1,0]))<|
  λs2 _ k p3 c3 r_2=>k<|zQ<|jA 2 u<|zR u (jC<|zQ<|qA<|zG<|zA 2 u<|qD .s [0] [] zIo u u u (cq [1])<|λr2 _ k=>k<|zA 1 u<|
  yH .s (e:=zB .i64) 3 [vi 1,vi 2,vi 2,vi 2,vi 3] ([1,2,2,2,3]:List Int) (rC vI (rC vI (rC vI (rC vI (rC vI rN)))))<|λp4 c4=>qD .s [0] [] zTB u u u (cq [2,0])<|λr3 _ k=>k<|zA 1 u<|
  yH .s (e:=wS) 9 [vs [],vs [],vs [97,110,110],vs [98,111,98]] ([[],[],[97,110,110],[98,111,98]]:List zD) (rC vS (rC vS (rC vS (rC vS rN))))<|λp5 c5=>qD .s [0] [] zSu u u u (cq [3,0])<|λr4 _ k=>
  k<|zV (.agg #[vb r2.1.1,vs r2.1.2,vi r3.1,vi 0,vs r4.1])<|yB .s (.agg k7)<|λb4=>wJ .s 6 u u u<|zK<|
  wF (λs3 K=>K [0,1,3,8,9,10,11] [(0,bx b1 58 [sv p1 y0.1 c1,vi s3.1]),(6,bx b4 97 [vb r2.1.1,vs r2.1.2,vi r3.1,vi s3.2,vs r4.1])] [3,2,4,5] [] []) (
  zG<|zY 2 u<|qI 6 u u u<|zA 1 u<|zK<|zR u (wQ<|zA 1 u<|qD .s [0] [] zCh u u u (cq [3])<|λr5 _ k=>k<|zY 3 u<|wJ .s 6 u u u<|qN<|qB (gv kk [0,1,2,3,4,5,6] (gq [3,2,4,5])))<|vF<|
  qB (gv kk [0,1,2,3,4,5,6] (gq [3,2,4,5])))<|λs3 _ k=>k<|jA 1 u<|wF (λs4 K=>K [0,1,3,8,9,10,11] [] [0,1,2,3] [(12,vb s4)] []) (zG<|zY 0 u<|
  qI 2 u u u<|zA 2 u<|zK<|qA<|
  wO (λs5 K=>K [0,1,3,8,9,10,11,44,45] [] [1,0,2,3] [(12,vb s5.1),(46,vi s5.2)] []) (gv kk [0,1,2,3,4,5,6] (gq [1,0,2,3]))<|
  λs5 _ k=>k<|jA 1 u<|zQ<|zR u (jC<|zQ<|qA<|zG<|jia 0 u u u<|λx1 h1 b5 o1 hp1=>jlA 3 0 sI true z0X u hp1 h1 u<|yB .s (.agg k7)<|λb6=>wJ .s 7 u u u<|zK<|
  jjqK (λK=>K [0,1,3,8,9,10,11,44,45,46] [(7,[])] [0,1,2,3] [(12,vb (s5.1||(x1.1==r2.1)))] []) (wQ<|zA 2 u<|
  xO (b:=s5.1) 51 u (λhb1=>zA 5 u<|zV (vb true)<|zA 1 u<|qN<|yG 12 (vb (s5.1||(x1.1==r2.1))) u (by rw[hb1];rfl)<|qB (gv kk [0,1,2,3,4,5,6,907] (gq [0,1,2,3])))<|λhb1=>zY 0 u<|wU 7 2 u u u<|
  zY 0 u<|wU 6 2 u u u<|zV (vb (x1.1==r2.1))<|zV (vb (x1.1==r2.1))<|zA 1 u<|qN<|yG 12 (vb (s5.1||(x1.1==r2.1))) u (by rw[hb1];rfl)<|qB (gv kk [0,1,2,3,4,5,6,907] (gq [0,1,2,3])))<|λ_ k=>k<|wT<|qK<|
  jB 2 u<|vG (gv kk [0,1,2,3,4,5,6] (gq [0,1,2,3])))<|yX<|yR<|yQ<|yV<|qB (gv kk [0,1,2,3,4,5,6] (gq [1,0,2,3])))<|λs4 _ k=>k<|jA 2 u<|zR u (wQ<|zY 0 u<|qI 2 u u u<|wU 6 5 u u u<|
  yH .s (e:=zCO) 97 [vb r2.1.1,vs r2.1.2,vi r3.1,vi s3.2,vs r4.1] ([(r2.1,r3.1,s3.2,r4.1)]:List vE) (rC (vP (vP vB vS) (vP vI (vP vI vS))) rN)<|λp6 c6=>uB .s 3 2 u (gk 0) u u<|λx2 r_3 p7 c7=>zY 0 u<|
  wJ .s 2 u u u<|qN<|wT<|qK<|jB 3 u<|vG (gv (λ_ k=>k p7 c7 r_3) [0,1,2,3,4,5] (gq [0,2,4,5])))<|vF<|wT<|qK<|jB 3 u<|vG (gv (λ_ k=>k p3 c3 r_2) [0,1,2,3,4,5] (gq [1,0,2,3])))<|yX<|yR<|yQ<|yV<|
  qB (gv (λ_ k=>k p3 c3 r_2) [0,1,2,3,4,5] (gq [0,1,2,3])))<|λs1 _ k p2 c2 r_1=>k<|
  wF (λs6 K=>∀ p8 c8 r_4,K [0,1,8,9] [(0,bx b1 58 [sv p1 y0.1 c1,vi s6.1]),(2,bx b3 29 [sv p2 s1.2 c2,sv p8 s6.2 c8,sv none ([]:List wW) 0]),(4,r_4)] [1,0,3] [] [Al xV 101 r_4 p8 c8 s6.2]) (
  zG<|zA 3 u<|qD .s [0] [] zCh u u u (cq [1])<|λr6 _ k=>k<|zA 1 u<|zK<|qA<|
  wO (λs7 K=>∀ p9 c9 r_5,K [0,1,3,8,9] [(0,bx b1 58 [sv p1 y0.1 c1,vi s7.2.1]),(2,bx b3 29 [sv p2 s1.2 c2,sv p9 s7.2.2 c9,sv none ([]:List wW) 0]),(4,r_5)] [1,0,3] [(15,vi s7.1)] [Al xV 101 r_5 p9 c9 s7.2.2]) (gv (λ_ k=>k none 0 []) [0,1,2,3,4,5] (gq [2,1,0,3]))<|
  λs7 _ k p9 c9 r_5=>k<|zQ<|jA 2 u<|zR u (jC<|zQ<|qA<|zG<|zY 1 u<|qI 2 u u u<|zA 1 u<|qW zOI u d<|λr7 _ k=>k<|zA 1 u<|qD .s [0] [] zCh u u u (cq [1])<|λr8 _ k=>k<|zA 3 u<|
  qD .s [0] [] zON u u u (cq [1])<|λr9 _ k p10 c10=>k<|qW zVh u (cq [0])<|λr10 _ k p11 c11=>k<|zA 2 u<|qD .s [0] [] zIo u u u (cq [3])<|λr11 _ k=>k<|
  zV (.agg #[vs r7,vb (r8.1==0),vi 0,sv p11 r10 c11,vb r11.1.1,vs r11.1.2])<|yB .s (.agg k3)<|λb7=>wJ .s 6 u u u<|zK<|
  wF (λs8 K=>K [0,1,3,8,9,15,16] [(0,bx b1 58 [sv p1 y0.1 c1,vi s8.1]),(6,bx b7 101 [vs r7,vb (r8.1==0),vi s8.2,sv p11 r10 c11,vb r11.1.1,vs r11.1.2])] [3,4,2,5,0] [] []) (
  zG<|zY 1 u<|qI 6 u u u<|zA 1 u<|zK<|zR u (wQ<|zA 1 u<|qD .s [0] [] zCh u u u (cq [3])<|λr12 _ k=>k<|zY 2 u<|wJ .s 6 u u u<|qN<|qB (gv kk [0,1,2,3,4,5,6] (gq [3,4,2,5,0])))<|
  vF<|qB (gv kk [0,1,2,3,4,5,6] (gq [3,4,2,5,0])))<|λs8 _ k=>k<|
  wF (λs9 K=>K [0,1,3,8,9,15,16] [(0,bx b1 58 [sv p1 y0.1 c1,vi s9.1]),(6,bx b7 101 [vs r7,vb (r8.1==0),vi s8.2,sv p11 r10 c11,vb s9.2.1,vs s9.2.2])] [0,1,2,3,4] [] []) (
  zG<|zA 1 u<|qD .s [0] [] zCh u u u (cq [0])<|λr13 _ k=>k<|zA 1 u<|zK<|zR u (wQ<|zA 1 u<|qD .s [0] [] zCh u u u (cq [0])<|λr14 _ k=>k<|zA 3 u<|
  qD .s [0] [] zCh u u u (cq [0])<|λr15 _ k=>k<|qW zOI u d<|λr16 _ k=>k<|zV (.agg #[vb (decide (0<r14.1)),vs r16])<|zY 4 u<|wJ .s 6 u u u<|qN<|
  qB (gv kk [0,1,2,3,4,5,6] (gq [0,1,2,3,4])))<|vF<|qB (gv kk [0,1,2,3,4,5,6] (gq [0,1,2,3,4])))<|λs9 _ k=>k<|wQ<|zY 1 u<|qI 2 u u u<|wU 6 6 u u u<|
  yH .s (e:=xV) 101 [vs r7,vb (r8.1==0),vi s8.2,sv p11 r10 c11,vb s9.2.1,vs s9.2.2] ([(r7,r8.1==0,s8.2,r10,(s9.2.1,s9.2.2))]:List qH) (rC (vP vS (vP vB (vP vI (vP (vL (gk 4)) (vP vB vS))))) rN)<|λp12 c12=>
  uB .s 4 3 u (gk 0) u u<|λx3 r_6 p13 c13=>zY 1 u<|wJ .s 2 u u u<|qN<|wT<|qK<|jB 3 u<|vG (gv (λ_ k=>k p13 c13 r_6) [0,1,2,3,4,5] (gq [0,2,3,5])))<|yX<|yR<|yQ<|yV<|
  qB (gv (λ_ k=>k p9 c9 r_5) [0,1,2,3,4,5] (gq [0,1,2,3])))<|λs6 _ k p8 c8 r_4=>k<|
  wF (λs10 K=>∀ p14 c14 r_7,K [8,9] [(0,bx b1 58 [sv p1 y0.1 c1,vi s10.1]),(2,bx b3 29 [sv p2 s1.2 c2,sv p8 s6.2 c8,sv p14 s10.2 c14]),(5,r_7)] [1,2,0] [] [Al zAx 103 r_7 p14 c14 s10.2]) (
  zG<|zA 1 u<|qD .s [0] [] zCh u u u (cq [1])<|λr17 _ k=>k<|zA 1 u<|zK<|qA<|
  wO (λs11 K=>∀ p15 c15 r_8,K [0,1,8,9] [(0,bx b1 58 [sv p1 y0.1 c1,vi s11.2.1]),(2,bx b3 29 [sv p2 s1.2 c2,sv p8 s6.2 c8,sv p15 s11.2.2 c15]),(5,r_8)] [1,2,0] [(17,vi s11.1)] [Al zAx 103 r_8 p15 c15 s11.2.2]) (gv (λ_ k=>k none 0 []) [0,1,2,3,4,5] (gq [3,1,2,0]))<|
  λs11 _ k p15 c15 r_8=>k<|zQ<|
  z1c (λK=>K [0,1,8,9,17] [] [1,2,3,0] [(123,vb ((decide (0<s11.1))&&(decide (0<(len s6.2)))))] []) (wQ<|zA 3 u<|
  xO (b:=decide (0<s11.1)) 118 u (λhb2=>zY 1 u<|qI 2 u u u<|zA 2 u<|zV (vb (decide (0<(len s6.2))))<|qN<|yG 123 (vb ((decide (0<s11.1))&&(decide (0<(len s6.2))))) u (by rw[hb2];rfl)<|
  qB (gv kk [0,1,2,3,4,5] (gq [1,2,3,0])))<|λhb2=>zA 4 u<|zV (vb false)<|qN<|yG 123 (vb ((decide (0<s11.1))&&(decide (0<(len s6.2))))) u (by rw[hb2];rfl)<|qB (gv kk [0,1,2,3,4,5] (gq [1,2,3,0])))<|
  λ_ k=>k<|zR u (jC<|zQ<|qA<|
  wF (λs12 K=>∀ b8 p16 c16,K [0,1,8,9,17] [(0,bx b1 58 [sv p1 y0.1 c1,vi s12.1]),(6,bx b8 101 (zYD s12.2 p16 c16))] [0,1,2,3] [(18,pt b8 0)] (z1l s12.2 p16 c16 [])) (
  tM [] [2,4] 11<|qU 0 1 u u<|wV 1 2 u u u u<|zW 8 [2] u<|qU 3 1 u u<|wV 4 2 u u u u<|zW 5 [5] u<|jd2 6 9 (qD (.f u) [0] [] zCh u u u (cq [0])<|λr18 _ k=>k<|qM<|
  jdI 7 2 u u u u<|λx4 h4 b9 o2 hp2=>tU 8 4 2 sI true z2I u u hp2 h4 u<|λp17 c17=>qO 9<|yB (.f u) (.agg k3)<|λb10=>qM<|qO 10<|
  wJ (o:=0) (.f u) 6 u u u<|qM<|qY<|qB (gv (λ_ k=>k b10 p17 c17) [0,1,2,3,4,5,6] (gq [0,1,2,3,4]))) <|yB (.f u) (.agg k3)<|λb11=>qM<|qO 6<|
  qD (.f u) [0] [] zCh u u u (cq [0])<|λr19 _ k=>k<|qM<|jdI 7 2 u u u u<|λx5 h5 b12 o3 hp3=>tU 8 4 2 sI true z2I u u hp3 h5 u<|λp18 c18=>qO 10<|wJ (o:=0) (.f u) 6 u u u<|qM<|qY<|
  qB (gv (λ_ k=>k b11 p18 c18) [0,1,2,3,4,5,6] (gq [0,1,2,3,4])))<|λs12 _ k b8 p16 c16=>k<|zG<|zY 1 u<|qI 6 u u u<|zA 1 u<|zK<|zR u (tM [13] [2,6] 14<|qU 0 2 u u<|wV 1 2 u u u u<|
  qU 2 0 u u<|wV 3 6 u u u u<|zW 7 [4,6,7] u<|qO 5<|qD (.f u) [0] [] zCh u u u (cq [1])<|λr20 _ k=>k<|qM<|qO 8<|qD (.f u) [0] [] zIo u u u (cq [1])<|λr21 _ k=>k<|qM<|
  vK 9 (.agg #[vs s12.2.1,vi r20.1,vb r21.1.1,vs r21.1.2]) u<|qO 10<|yH (.f u) (e:=zAx) 103 [vs s12.2.1,vi r20.1,vb r21.1.1,vs r21.1.2] ([(s12.2.1,r20.1,r21.1)]:List wW) (rC (vP vS (vP vI (vP vB vS))) rN)<|
  λp19 c19=>qM<|qO 11<|uB (.f u) 5 5 u (gk 0) u u<|λx6 r_9 p20 c20=>qM<|qU 12 2 u u<|qO 13<|wJ (o:=2) (.f u) 2 u u u<|jdb [] [2,6]<|qY<|wT<|qK<|jB 3 u<|
  vG (gv (λ_ k=>k p20 c20 r_9) [0,1,2,3,4,5] (gq [0,3,4,5])))<|vF<|wT<|qK<|jB 3 u<|vG (gv (λ_ k=>k p15 c15 r_8) [0,1,2,3,4,5] (gq [4,1,2,3])))<|yX<|yR<|yQ<|yV<|qB (gv (λ_ k=>k p15 c15 r_8) [0,1,2,3,4,5] (gq [3,0,1,2])))<|
  λs10 _ k p14 c14 r_7=>k<|zG<|wU 2 3 u u u<|wJ .s 1 u u u<|zK<|qC<|uQ 3 2 u u<|uQ 4 4 u u<|uQ 5 2 u u<|
  yM u (lC 1 (.agg #[sv p2 s1.2 c2,sv p8 s6.2 c8,sv p14 s10.2 c14]) u u lN) (λ_ k=>k p2 c2 p8 c8 p14 c14) [0] (gq [2,1,0])
abbrev zZv:=@Cn.mk 12 0 _ @zTT
theorem zXf{y0:zD}: zP qd prog 141 [vs y0] [] [] (zDy y0) λr K=>K (vb r) [] [] :=
 zO call141 func141 u λX=>hI 1 1 0 (λ(s1:Bool) K=>K [0] [] [] [(21,vb s1)] [])<|hI 0 4 2 (λ(s2:Int) K=>K [0] [] [] [(3,vi s2)] [])<|hI 1 6 0 (λ(s3:Bool) K=>K [0,3] [] [] [(55,vb s3)] [])<|
 au
abbrev zXo:=@Cn.mk 141 0 _ @zXf
attribute [instance] zUl zZX z0i z3e zZv zXo
theorem z3b{y0:zI}: zP qd prog 85 [.agg #[vb y0.1,vs y0.2]] [] [] (zFs y0) λr K=>K (vb r) [] [] :=
 zO call85 func85 u λX=>
 au
abbrev z2m:=@Cn.mk 85 0 _ @z3b
theorem z4K{y0:zM}{y1:zD}: zP qd prog 83 [.agg (yK y0 p1 c1 p2 c2 p3 c3).toArray,vs y1] [] (yO y0 p1 c1 p2 c2 p3 c3 []) (zOx y0 y1) λr K=>K (vi r) [] [] :=
 zO call83 func83 u λX=>hI 0 2 2 (λ(s1:Int) K=>K [1,2] [] [0,1,2] [(5,vi s1)] [])<|
 au
abbrev z5p:=@Cn.mk 83 0 _ @z4K
theorem zZp{y0:zM}{y1:zI}: zP qd prog 81 [.agg (yK y0 p1 c1 p2 c2 p3 c3).toArray,.agg #[vb y1.1,vs y1.2]] [] (yO y0 p1 c1 p2 c2 p3 c3 []) (zO2 y0 y1) λr K=>K (vi r) [] [] :=
 zO call81 func81 u λX=>zG<|wN .s u<|λb1=>wN .s u<|λb2=>zA 1 u<|zK<|zQ<|jA 1 u<|qA<|wO (λs1 K=>K [2,3] [] [0,1,2] [(5,vi s1)] []) (gv kk [0,1] (gq [0,1,2]))<|λs1 _ k=>k<|zQ<|
  zG<|zA 1 u<|zY 0 u<|qI 0 u u u<|zA 2 u<|zK<|zR u (jC<|zQ<|qA<|xA [] [0,1] 8<|qU 0 0 u u<|wV 1 0 u u u u<|zW 5 [2] u<|jdi 3 0 u u u u<|λx1 b3 o1=>qU 4 0 u u<|
  tZ 5 true tA u (gf (gk 0)) u<|xE 6 1 2 u u u u<|vK 7 (vb (x1.1==y1)) u<|qY<|qK<|zR u (jA 2 u<|qC<|yC<|qS<|tF<|yC<|qS<|qR u u kk [] d)<|vF<|wT<|qK<|jB 3 u<|
  vG (gv kk [0,1] (gq [1,2,3])))<|yX<|yR<|yQ<|yV<|qK<|jA 1 u<|qC<|qR u u kk [] d
abbrev zZz:=@Cn.mk 81 0 _ @zZp
theorem z5G{y0:Int}: zP qd prog 84 [vi y0] [] [] (zJY y0) λr K=>K (vb r) [] [] :=
 zO call84 func84 u λX=>hP 4 1 0 (λK=>K [] [] [] [(2,vb ((decide (0≤y0))&&(decide (y0≤9))))] [])<|
 au
abbrev z5l:=@Cn.mk 84 0 _ @z5G
attribute [instance] z2m z5p zZz z5l
theorem zZx{y0:vE}: zP qd prog 80 [.agg (zSi y0).toArray] [] [] (zLd y0) λr K=>K (vi r) [] [] :=
 zO call80 func80 u λX=>hP 4 1 0 (λK=>K [1] [] [] [(10,vb ((decide (y0.2.1<1))||(decide (3<y0.2.1))))] [])<|hI 1 3 0 (λ(s1:Bool) K=>K [] [(0,.r [])] [] [(41,vb s1)] [])<|
 au
abbrev zZY:=@Cn.mk 80 0 _ @zZx
theorem z4s{y0:qH}: zP qd prog 82 [.agg (zYD y0 p1 c1).toArray] [] (z1l y0 p1 c1 []) (zPN y0) λr K=>K (vi r) [] [] :=
 zO call82 func82 u λX=>hD 13 [] [0] (.l [0,1,2,3,4,5,6,7,8,9,10] (.f 11 (.l [12] .e)))<|hI 1 3 0 (λ(s1:Bool) K=>K [1] [] [0] [(3,vb s1)] [])<|hI 1 4 1 (λ(s2:Bool) K=>K [1] [] [0] [(3,vb s2)] [])<|hI 0 5 2 (λ(s3:Bool×Int) K=>K [1] [] [0] [(3,vb s3.1),(4,vi s3.2)] [])<|hI 3 7 0 (λ(s4:Bool) K=>K [1,4] [] [0] [(3,vb s4)] [])<|hI 0 11 2 (λ(s5:Int) K=>K [1] [] [0] [(5,vi s5)] [])<|
 au
abbrev z4g:=@Cn.mk 82 0 _ @z4s
attribute [instance] zZY z4g
set_option maxHeartbeats 2000000 in
theorem zR7{y0:zM}: zP qd prog 42 [.agg (yK y0 p1 c1 p2 c2 p3 c3).toArray] [] (yO y0 p1 c1 p2 c2 p3 c3 []) (zIL y0) λr K=>K (vi r) [] [] :=
 zO call42 func42 u λX=>hD 9 [] [0] (.l [0,1,2,3,4,5,6,8] (.f 7 (.l [9] .e)))<|hD 17 [] [0] (.l [0,1,2,3,4,5,6,8] (.f 7 (.l [9] .e)))<|hP 4 1 0 (λK=>K [1] [] [0,1,2] [(25,vb ((decide (16<(len y0.1)))||((decide (24<(len y0.2.1)))||(decide (8<(len y0.2.2))))))] [])<|hI 2 3 1 (λ(s1:Unit) K=>K [1] [] [0,1,2] [] [])<|hI 0 4 2 (λ(s2:Int) K=>K [1] [] [0,1,2] [(3,vi s2)] [])<|hI 2 11 1 (λ(s3:Unit) K=>K [1] [] [0,1,2] [] [])<|hI 0 12 2 (λ(s4:Int) K=>K [1] [] [0,1,2] [(5,vi s4)] [])<|hI 0 20 2 (λ(s5:Int) K=>K [1] [] [0,1,2] [(7,vi s5)] [])<|hI 1 23 0 (λ(s6:Bool) K=>K [1,7,8] [] [1,2,3] [(99,vb s6)] [])<|
 au
abbrev zZF:=@Cn.mk 42 0 _ @zR7
theorem z06{y0:List zI}{y1:zI}: zP qd prog 86 [sv p1 y0 c1,.agg #[vb y1.1,vs y1.2]] [] [Rl qT p1 c1 y0] (zU7 y0 y1) λr K=>K (vb r) [] [] :=
 zO call86 func86 u λX=>zG<|wN .s u<|λb1=>zA 1 u<|zK<|zQ<|jA 1 u<|qA<|wO (λs1 K=>K [0,3] [] [0] [(5,vi s1)] []) (gv kk [0] (gq [0]))<|λs1 _ k=>k<|zQ<|jA 4 u<|zR u (jC<|zQ<|qA<|
  xA [] [0] 6<|zW 4 [0,1] u<|jdi 2 0 u u u u<|λx1 b2 o1=>tZ 3 true tA u (gk 0) u<|xE 4 0 2 u u u u<|vK 5 (vb (x1==y1)) u<|qY<|qK<|zR u (jA 1 u<|qC<|yC<|qS<|tF<|yC<|qS<|
  qR u u kk [] d)<|vF<|wT<|qK<|jB 3 u<|vG (gv kk [0] (gq [1])))<|yX<|yR<|yQ<|yV<|qK<|jA 1 u<|qC<|qR u u kk [] d
abbrev z60:=@Cn.mk 86 0 _ @z06
theorem z1f{y0:List Int}{y1:Int}: zP qd prog 143 [sv p1 y0 c1,vi y1] [] [Rl (zB .i64) p1 c1 y0] (zKV y0 y1) λr K=>∀ p2 c2,K (sv p2 r c2) [] [Rl (zB .i64) p2 c2 r] :=
 zO call143 func143 u λX=>jA 1 u<|jA 1 u<|wF (λs1 K=>K [0,1] [] [0] [(5,vi s1)] []) (hI 0 2 2 (λ(s2:Int) K=>K [0,1] [] [0] [(5,vi s2)] [])<|hI 1 2 0 (λ(s3:Bool) K=>K [0,1,5] [] [0] [(18,vb s3)] [])<|
 au
)<|λs1 _ k=>k<|zQ<|wF (λs4 K=>K [0,1,5] [] [0] [(32,vb s4)] []) (
 au
)<|λs4 _ k=>k<|zR u (
 au
)<|jC<|zG<|jbo .s (e:=zB .i64) 3 [] ([]:List Int) rN<|λr_1 p2 c2=>zA 2 u<|jsl (gk 1) u u u (.inl ⟨rfl,rfl⟩) (.inr ⟨_,rfl⟩)<|λx3 p3 c3=>
  uB .s 0 1 u (gk 0) u u<|λx4 r_2 p4 c4=>zA 1 u<|zK<|xA [] [] 9<|zW 5 [0,1,4,5] u<|jdw 6 u (gk 3) u u u (.inr ⟨_,rfl⟩) (.inl ⟨rfl,rfl⟩)<|λx5 p5 c5=>qO 2<|
  yH (.f u) (e:=zB .i64) 3 [vi y1] ([y1]:List Int) (rC vI rN)<|λp6 c6=>qM<|qO 3<|uB (.f u) 0 2 u (gk 0) u u<|λx6 r_3 p7 c7=>qM<|qO 7<|uB (.f u) 0 0 u (gk 2) u u<|λx7 r_4 p8 c8=>qM<|zW 0 [8] u<|qY<|
 au
abbrev z10:=@Cn.mk 143 0 _ @z1f
attribute [instance] zZF z60 z10
theorem z3Z{y0:List Int}{y1:List Int}: zP qd prog 220 [sv p1 y0 c1,sv p2 y1 c2] [] [Rl (zB .i64) p1 c1 y0,Rl (zB .i64) p2 c2 y1] (zRK y0 y1) λr K=>∀ p3 c3,K (sv p3 r c3) [] [Rl (zB .i64) p3 c3 r] :=
 zO call220 func220 u λX=>hI 0 2 2 (λ(s1:(List Int)×Int) K=>∀ p3 c3,K [1] [] [1] [(0,sv p3 s1.1 c3),(5,vi s1.2)] [Rl (zB .i64) p3 c3 s1.1])<|
 au
abbrev z3O:=@Cn.mk 220 0 _ @z3Z
attribute [instance] z3O
theorem zYj (k:Nat):
    (∀ {y0:List zF} {p1:Option Addr} {c1:Nat} {y1:Int},zP qd prog 142 [sv p1 y0 c1,vi y1] [] [Rl wB p1 c1 y0] (zJF k y0 y1) λr K=>∀ p2 c2,K (sv p2 r c2) [] [Rl (zB .i64) p2 c2 r]):=by
  induction k with
  | zero=>exact con0 call142
  | succ k ih =>
    have ih_ref07_Subs:=@ih
    have zXx:=@Cn.mk 142 0 _ (@ih_ref07_Subs)
    exact @λy0 p1 c1 y1=>zO (m1:=zOz (zJF k) y0 y1) call142 func142 u λX=>hP 4 1 0 (λK=>K [0,1] [] [0] [(14,vb ((decide (y1<0))||(decide ((len y0)≤y1))))] [])<|hI 0 5 2 (λ(s1:(List Int)×Int) K=>∀ p3 c3,K [0,1] [] [1] [(5,sv p3 s1.1 c3),(6,vi s1.2)] [Rl (zB .i64) p3 c3 s1.1])<|
 au
theorem z4N{y0:List zF}{y1:Int}: zP qd prog 142 [sv p1 y0 c1,vi y1] [] [Rl wB p1 c1 y0] (zS1 y0 y1) λr K=>∀ p2 c2,K (sv p2 r c2) [] [Rl (zB .i64) p2 c2 r]:=zUQ λk=>(zYj k)
abbrev zXx:=@Cn.mk 142 0 _ @z4N
attribute [instance] zXx
theorem zLU{y0:zM}{y1:List zF}{y2:Int}: zP qd prog 89 [.agg (yK y0 p1 c1 p2 c2 p3 c3).toArray,sv p4 y1 c4,vi y2] [] (yO y0 p1 c1 p2 c2 p3 c3 [Rl wB p4 c4 y1]) (zFx y0 y1 y2) λr K=>∀ p5 c5,K (sv p5 r c5) [] [Rl (zB .i64) p5 c5 r] :=
 zO call89 func89 u λX=>hD 5 [] [0] (.l [0,1,2,3,4,5,6] (.s 24 (.l [7,8,9,10,11,12,13,14,15,16,17,18] .e) (.l [7,8,9,10,11,12,13,14,15,16,17,18] .e)))<|hI 0 3 1 (λ(s1:(List Int)×Int) K=>∀ p6 c6,K [1,3,12,13] [] [4,0,1,2,3] [(7,sv p6 s1.1 c6),(14,vi s1.2)] [Rl (zB .i64) p6 c6 s1.1])<|hI 1 5 0 (λ(s2:Bool) K=>K [1,3,7,9,12,13,14] [] [2,1,3,4,5,6] [(36,vb s2)] [])<|
 au
abbrev zVf:=@Cn.mk 89 0 _ @zLU
attribute [instance] zVf
theorem z0r (k:Nat):
    (∀ {y0:zM} {p1:Option Addr} {c1:Nat} {p2:Option Addr} {c2:Nat} {p3:Option Addr} {c3:Nat} {y1:List zF} {p4:Option Addr} {c4:Nat} {y2:Int},zP qd prog 87 [.agg (yK y0 p1 c1 p2 c2 p3 c3).toArray,sv p4 y1 c4,vi y2] [] (yO y0 p1 c1 p2 c2 p3 c3 [Rl wB p4 c4 y1]) (zBz k y0 y1 y2) λr K=>∀ p5 c5,K (sv p5 r c5) [] [Rl qT p5 c5 r]):=by
  induction k with
  | zero=>exact con0 call87
  | succ k ih =>
    have ih_ref07_Run:=@ih
    have z0N:=@Cn.mk 87 0 _ (@ih_ref07_Run)
    exact @λy0 p1 c1 p2 c2 p3 c3 y1 p4 c4 y2=>zO (m1:=zHb (zBz k) y0 y1 y2) call87 func87 u λX=>hD 2 [] [0] (.l [0,1,2,3,4,5,6] (.s 21 (.l [7,8,9,10,11,12,13,14,15,16,17] .e) (.l [7,8,9,10,11,12,13,14,15,16,17] .e)))<|hD 6 [] [0] (.l [0,1,2,3,4,5,6,7,8,9,10] (.f 11 (.f 12 (.l [13] .e))))<|hO 14<|hI 1 2 0 (λ(s1:Bool) K=>K [1,2,3,7] [] [5,0,2,3,4] [(32,vb s1)] [])<|hI 0 4 2 (λ(s2:(List zI)×Int) K=>∀ p6 c6 r_2,K [1,2,3] [(1,.r r_2)] [0,2,3,4] [(7,sv p6 s2.1 c6),(8,vi s2.2)] [Al qT 44 r_2 p6 c6 s2.1])<|
 au
theorem z0q{y0:zM}{y1:List zF}{y2:Int}: zP qd prog 87 [.agg (yK y0 p1 c1 p2 c2 p3 c3).toArray,sv p4 y1 c4,vi y2] [] (yO y0 p1 c1 p2 c2 p3 c3 [Rl wB p4 c4 y1]) (zMQ y0 y1 y2) λr K=>∀ p5 c5,K (sv p5 r c5) [] [Rl qT p5 c5 r]:=zUQ λk=>(z0r k)
abbrev z0N:=@Cn.mk 87 0 _ @z0q
theorem zXL{y0:List Int}{y1:Int}: zP qd prog 88 [sv p1 y0 c1,vi y1] [] [Rl (zB .i64) p1 c1 y0] (zT3 y0 y1) λr K=>K (vb r) [] [] :=
 zO call88 func88 u λX=>hI 0 2 2 (λ(s1:Int) K=>K [0,1] [] [0] [(5,vi s1)] [])<|
 au
abbrev z8p:=@Cn.mk 88 0 _ @zXL
theorem zPU{y0:zM}{y1:List zF}{y2:Int}{y3:List Int}: zP qd prog 45 [.agg (yK y0 p1 c1 p2 c2 p3 c3).toArray,sv p4 y1 c4,vi y2,sv p5 y3 c5] [] (yO y0 p1 c1 p2 c2 p3 c3 [Rl wB p4 c4 y1,Rl (zB .i64) p5 c5 y3]) (zI0 y0 y1 y2 y3) λr K=>K (vb r) [] [] :=
 zO call45 func45 u λX=>zG<|wN .s u<|λb1=>zA 1 u<|zK<|zG<|zY 1 u<|qI 0 u u u<|zA 1 u<|yD 1 u u u<|λx1 b2 o1=>yN true z2I (gk 0) u<|λp6 c6=>yB .s (.agg k3)<|
  λb3=>wJ .s 1 u u u<|zK<|zQ<|jA 1 u<|qA<|wO (λs1 K=>K [1,2,3,4,9] [] [5,6,2,3,4,0] [(10,vi s1)] []) (gv kk [0,1] (gq [5,6,2,3,4,0]))<|λs1 _ k=>k<|
  zQ<|jA 4 u<|zR u (jC<|zQ<|qA<|wF (λs2 K=>K [1,2,3,4,9,10] [] [0,1,2,3,4,5] [(51,vb s2)] []) (tM [] [0,1] 30<|qU 0 1 u u<|
  wV 1 1 u u u u<|zW 27 [2] u<|uO 24 u (xE 3 0 3 u u u u<|zW 23 [4,5,6] u<|jdi 7 1 u u u u<|λx2 b4 o2=>tZ 8 false oI u (gk 0) u<|qU 10 4 u u<|xE 11 1 2 u u u u<|qO 9<|
  qD (.f u) [] [] z0q u u u (cq [3,4,5,1])<|λr1 _ k p7 c7=>k<|qM<|qO 12<|qD (.f u) [] [] z06 u u u (cq [0])<|λr2 _ k=>k<|qM<|vK 13 (vb r2) u<|zW 15 [14] u<|uO 36 u (
  zW 1 [15,16,17,18,19,20,21,22,23,24,25,26,27,28] u<|vK 29 (vb true) u<|qY<|qB (gv kk [0,1] (gq [2,3,4,5,6,7])))<|qU 15 1 u u<|wV 16 1 u u u u<|zW 11 [17,18] u<|uO 40 u (xE 19 0 3 u u u u<|
  zW 7 [20,21,22] u<|jdi 23 3 u u u u<|λx3 b5 o3=>tZ 24 false oI u (gk 0) u<|zW 4 [26] u<|qO 25<|qD (.f u) [] [] zLU u u u (cq [5,6,7,3])<|λr3 _ k p8 c8=>k<|qM<|qO 27<|
  qD (.f u) [] [] zXL u u u (cq [0])<|λr4 _ k=>k<|qM<|vK 28 (vb r4) u<|vK 29 (vb r4) u<|qY<|qB (gv kk [0,1] (gq [4,5,6,7,8,9])))<|zW 2 [19,20,21,22,23,24,25,26,27] u<|vK 28 (vb false) u<|
  vK 29 (vb false) u<|qY<|qB (gv kk [0,1] (gq [2,3,4,5,6,7])))<|zW 17 [3,4,5,6,7,8,9,10,11,12] u<|vK 13 (vb false) u<|zW 15 [14] u<|qU 15 1 u u<|wV 16 1 u u u u<|zW 11 [17,18] u<|uO 40 u (
  xE 19 0 3 u u u u<|zW 7 [20,21,22] u<|jdi 23 1 u u u u<|λx4 b6 o4=>tZ 24 false oI u (gk 0) u<|zW 4 [26] u<|qO 25<|qD (.f u) [] [] zLU u u u (cq [3,4,5,1])<|λr5 _ k p9 c9=>k<|qM<|
  qO 27<|qD (.f u) [] [] zXL u u u (cq [0])<|λr6 _ k=>k<|qM<|vK 28 (vb r6) u<|vK 29 (vb r6) u<|qY<|qB (gv kk [0,1] (gq [2,3,4,5,6,7])))<|zW 2 [19,20,21,22,23,24,25,26,27] u<|vK 28 (vb false) u<|
  vK 29 (vb false) u<|qY<|qB (gv kk [0,1] (gq [0,1,2,3,4,5])))<|λs2 _ k=>k<|zR u (jA 1 u<|qC<|yC<|qS<|tF<|yC<|qS<|qR u u kk [] d)<|vF<|wT<|qK<|jB 3 u<|
  vG (gv kk [0,1] (gq [0,1,2,3,4,5])))<|yX<|yR<|yQ<|yV<|qK<|jA 1 u<|qC<|qR u u kk [] d
abbrev z1j:=@Cn.mk 45 0 _ @zPU
theorem zSy (k:Nat):
    (∀ {y0:List zF} {p1:Option Addr} {c1:Nat} {r_1:zJ} {y1:Int} {y2:List zI} {p2:Option Addr} {c2:Nat} {y3:List Int} {p3:Option Addr} {c3:Nat},zP qd prog 43 [sv p1 y0 c1,vi y1,sv p2 y2 c2,sv p3 y3 c3] [r_1] [Al wB 46 r_1 p1 c1 y0,Rl qT p2 c2 y2,Rl (zB .i64) p3 c3 y3] (zEB k y0 y1 y2 y3) λr K=>∀ p4 c4,K (sv p4 r c4) [r_1] [Rl (zT (zB .i64)) p4 c4 r]):=by
  induction k with
  | zero=>exact con0 call43
  | succ k ih =>
    have ih_ref07_choices_2:=@ih
    have zQN:=@Cn.mk 43 0 _ (@ih_ref07_choices_2)
    exact @λy0 p1 c1 r_1 y1 y2 p2 c2 y3 p3 c3=>zO (m1:=zJo (zEB k) y0 y1 y2 y3) call43 func43 u λX=>jA 1 u<|zQ<|jA 5 u<|zR u (zG<|jbo .s (e:=zB .i64) 3 [] ([]:List Int) rN<|λr_2 p4 c4=>zA 1 u<|uB .s 1 0 u (gk 3) u u<|λx1 r_3 p5 c5=>uQ 1 0 u u<|
  yH .s (e:=zT (zB .i64)) 22 [sv p5 x1 c5] ([x1]:List (List Int)) (rC (vL (gk 0)) rN)<|λp6 c6=>zA 1 u<|zK<|qC<|qS<|qR u u (λ_ k=>k p6 c6) [0] (gq [0]))<|jC<|zG<|zA 1 u<|yU (zT (zB .i64)) 22 <|
  zK<|zQ<|jA 1 u<|qA<|
  wO (λs1 K=>∀ p7 c7 r_4,K [0,1,2,3] [(1,r_4)] [1,2,3] [(9,sv p7 s1.1 c7),(10,vi s1.2)] [Al (zT (zB .i64)) 22 r_4 p7 c7 s1.1]) (gv (λ_ k=>k none 0 []) [0,1] (gq [0,1,2,3]))<|
  λs1 _ k p7 c7 r_4=>k<|zQ<|jA 3 u<|zR u (jC<|zQ<|qA<|xA [] [0] 11<|zW 9 [0,1] u<|jdI 2 1 u u u u<|λx2 h2 b1 o1 hp1=>qU 3 3 u u<|tU 4 0 1 sI.snd.snd.snd true tA u u hp1 h2 u<|
  zW 3 [5,6,7] u<|jdi 8 2 u u u u<|λx3 b2 o2=>tZ 9 true tA u (gk 0) u<|vK 10 (vb (x2.2.2.2==x3)) u<|qY<|qK<|zR u (wQ<|zA 9 u<|jsF (gk 4) u u u u (.inl ⟨rfl,rfl⟩)<|λx4 p8=>zA 1 u<|
  yH .s (e:=zB .i64) 3 [vi s1.2] ([s1.2]:List Int) (rC vI rN)<|λp9 c8=>jaf .s 3 (gk 1) (gk 0) u u<|λx5 p10 c9=>qD .s [0] [] ih_ref07_choices_2 u u u (cq [5,6,0])<|λr1 _ k p11 c10=>k<|uB .s 1 5 u (gk 0) u u<|
  λx6 r_5 p12 c11=>zA 1 u<|qN<|wT<|qK<|jB 3 u<|vG (gv (λ_ k=>k p12 c11 r_5) [0,1] (gq [0,7,8,9])))<|vF<|wT<|qK<|jB 3 u<|vG (gv (λ_ k=>k p7 c7 r_4) [0,1] (gq [1,2,3,4])))<|yX<|yR<|yQ<|yV<|qK<|jA 2 u<|qC<|
  uQ 1 0 u u<|qR u u (λ_ k=>k p7 c7) [0] (gq [0])
theorem zQ5{y0:List zF}{y1:Int}{y2:List zI}{y3:List Int}: zP qd prog 43 [sv p1 y0 c1,vi y1,sv p2 y2 c2,sv p3 y3 c3] [r_1] [Al wB 46 r_1 p1 c1 y0,Rl qT p2 c2 y2,Rl (zB .i64) p3 c3 y3] (zMU y0 y1 y2 y3) λr K=>∀ p4 c4,K (sv p4 r c4) [r_1] [Rl (zT (zB .i64)) p4 c4 r]:=zUQ λk=>(zSy k)
abbrev zQN:=@Cn.mk 43 0 _ @zQ5
theorem zUP{y0:List Int}{y1:Int}: zP qd prog 44 [sv p1 y0 c1,vi y1] [] [Rl (zB .i64) p1 c1 y0] (zP8 y0 y1) λr K=>K (vb r) [] [] :=
 zO call44 func44 u λX=>hI 0 2 2 (λ(s1:Int) K=>K [0,1] [] [0] [(5,vi s1)] [])<|
 au
abbrev z1g:=@Cn.mk 44 0 _ @zUP
theorem zV8{y0:zM}: zP qd prog 13 [.agg (yK y0 p1 c1 p2 c2 p3 c3).toArray] [] (yO y0 p1 c1 p2 c2 p3 c3 []) (zJw y0) λr K=>∀ p4 c4,K (.tuple #[sv p4 r.1 c4,vi r.2]) [] [Rl wB p4 c4 r.1] :=
 zO call13 func13 u λX=>zG<|wN .s u<|λb1=>zA 2 u<|zK<|zQ<|zG<|wU 0 3 u u u<|qW zR7 u (cq [0,1,2])<|λr1 _ k=>k<|zA 1 u<|zK<|jA 2 u<|zR u (jA 3 u<|qC<|qS<|
  yM u (lT u (lT u lN)) (λ_ k=>k none 0) [] ⟨gn,d⟩)<|jC<|zG<|zA 1 u<|yU wB 46 <|zK<|
  wF (λs1 K=>∀ p4 c4 r_1,K [1] [(1,r_1)] [1,2,3] [(5,sv p4 s1 c4)] [Al wB 46 r_1 p4 c4 s1]) (jA 1 u<|qA<|
  wO (λs2 K=>∀ p5 c5 r_2,K [1] [(1,r_2)] [1,2,3] [(5,sv p5 s2.1 c5),(6,vi s2.2)] [Al wB 46 r_2 p5 c5 s2.1]) (gv (λ_ k=>k none 0 []) [0,1] (gq [0,1,2,3]))<|
  λs2 _ k p5 c5 r_2=>k<|zQ<|zG<|zA 1 u<|zY 0 u<|qI 0 u u u<|zA 2 u<|zK<|zR u (jC<|zQ<|qA<|wQ<|zA 2 u<|zY 0 u<|qI 0 u u u<|zA 1 u<|yD 1 u u u<|λx1 b2 o1=>zY 0 u<|
  yN true tA (gf (gk 0)) u<|zV (.agg #[vi s2.2,vi (-1),.slice none 0 0,vb x1.1.1,vs x1.1.2])<|
  yH .s (e:=wB) 46 [vi s2.2,vi (-1),.slice none 0 0,vb x1.1.1,vs x1.1.2] ([(s2.2,(-1),([]:List Int),x1.1)]:List zF) (rC (vP vI (vP vI (vP (vL gn) (vP vB vS)))) rN)<|λp6 c6=>uB .s 1 2 u (gk 0) u u<|
  λx2 r_3 p7 c7=>zA 1 u<|qN<|wT<|qK<|jB 3 u<|vG (gv (λ_ k=>k p7 c7 r_3) [0,1] (gq [0,4,5,6])))<|yX<|yR<|yQ<|yV<|qB (gv (λ_ k=>k p5 c5 r_2) [0,1] (gq [0,1,2,3])))<|λs1 _ k p4 c4 r_1=>k<|jA 1 u<|zQ<|jA 1 u<|qA<|
  wO (λs3 K=>∀ p8 c8 r_4,K [1] [(1,r_4)] [1,2,3] [(5,sv p8 s3.1 c8),(7,vi s3.2.1),(8,vi s3.2.2)] [Al wB 46 r_4 p8 c8 s3.1]) (gv (λ_ k=>k p4 c4 r_1) [0,1] (gq [0,1,2,3]))<|
  λs3 _ k p8 c8 r_4=>k<|zQ<|z1c (λK=>K [1,5,7,8] [] [0,1,2,3] [(43,vb ((s3.2.2==1)||(decide (s3.2.1<(len s3.1)))))] []) (wQ<|
  zA 3 u<|xO (b:=s3.2.2==1) 38 u (λhb1=>zA 4 u<|zV (vb true)<|qN<|yG 43 (vb ((s3.2.2==1)||(decide (s3.2.1<(len s3.1))))) u (by rw[hb1];rfl)<|qB (gv kk [0,1] (gq [0,1,2,3])))<|λhb1=>zA 4 u<|
  zV (vb (decide (s3.2.1<(len s3.1))))<|qN<|yG 43 (vb ((s3.2.2==1)||(decide (s3.2.1<(len s3.1))))) u (by rw[hb1];rfl)<|qB (gv kk [0,1] (gq [0,1,2,3])))<|λ_ k=>k<|zR u (jC<|zQ<|qA<|jA 3 u<|zQ<|jA 1 u<|
  qA<|
  wO (λs4 K=>∀ p9 c9 r_5,K [1,7,8,9] [(1,r_5)] [1,2,3] [(5,sv p9 s4.1 c9),(10,vi s4.2)] [Al wB 46 r_5 p9 c9 s4.1]) (gv (λ_ k=>k p8 c8 r_4) [0,1] (gq [0,1,2,3]))<|
  λs4 _ k p9 c9 r_5=>k<|zQ<|zG<|zA 1 u<|zY 1 u<|qI 0 u u u<|zA 2 u<|zK<|zR u (jC<|zQ<|qA<|zG<|zA 2 u<|zY 1 u<|qI 0 u u u<|zA 1 u<|yD 2 u u u<|λx3 b3 o2=>zY 3 u<|
  yN false oL (gf (gs (gs (gs (gk 0))))) u<|λp10 c10=>qD .s [1] [] zQ5 u u u ⟨ck 2,ck 0,cn,d⟩<|λr2 _ k p11 c11=>k<|zA 2 u<|zK<|qA<|
  wO (λs5 K=>∀ p12 c12 r_6,K [1,7,8,9,10,63,64] [(1,r_6)] [0,4,5,6] [(5,sv p12 s5.1 c12),(65,vi s5.2)] [Al wB 46 r_6 p12 c12 s5.1]) (gv (λ_ k=>k p9 c9 r_5) [0,1] (gq [3,0,4,5,6]))<|
  λs5 _ k p12 c12 r_6=>k<|jA 1 u<|zQ<|zR u (jC<|zQ<|qA<|zG<|yD 1 u u u<|λx4 b4 o3=>yN false oL (gk 0) u<|λp13 c13=>zA 1 u<|zK<|zQ<|
  wF (λs6 K=>K [1,5,7,8,9,10,12,63,64,65] [] [2,3,0,4,5,6] [(89,vb s6)] []) (wQ<|zA 2 u<|qW zUP u (cq [0])<|λr3 _ k=>k<|zA 2 u<|
  uO 73 u (zA 3 u<|uO 76 u (zA 3 u<|zV (vb true)<|zV (vb true)<|zA 7 u<|zV (vb true)<|qN<|qB (gv kk [0,1] (gq [2,3,0,4,5,6])))<|zA 3 u<|zV (vb (decide (0<(len x4))))<|zV (vb (decide (0<(len x4))))<|
  zA 1 u<|uO 82 u (zA 6 u<|zV (vb true)<|qN<|qB (gv kk [0,1] (gq [2,3,0,4,5,6])))<|wU 0 3 u u u<|zA 3 u<|qD .s [] [1] zPU u u u ⟨ck 4,ck 5,ck 6,cl 1 2,ck 0,d⟩<|λr4 _ k=>k<|zA 1 u<|
  zV (vb (!r4))<|qN<|qB (gv kk [0,1] (gq [2,3,0,4,5,6])))<|zA 7 u<|zV (vb false)<|zA 1 u<|wU 0 3 u u u<|zA 3 u<|qD .s [] [1] zPU u u u ⟨ck 4,ck 5,ck 6,cl 1 2,ck 0,d⟩<|λr5 _ k=>k<|zA 1 u<|
  zV (vb (!r5))<|qN<|qB (gv kk [0,1] (gq [2,3,0,4,5,6])))<|λs6 _ k=>k<|zR u (yX<|yR<|yV<|qK<|jB 2 u<|vG (gv (λ_ k=>k p12 c12 r_6) [0,1] (gq [0,1,3,4,5])))<|jC<|zG<|zA 3 u<|zY 1 u<|qI 0 u u u<|
  zA 1 u<|yD 4 u u u<|λx5 b5 o4=>zY 4 u<|yN true tA (gs (gs (gs (gs (gk 0))))) u<|zV (.agg #[vi (-1),vi s4.2,sv p13 x4 c13,vb (a4 x5).1,vs (a5 x5)])<|
  yH .s (e:=wB) 46 [vi (-1),vi s4.2,sv p13 x4 c13,vb (a4 x5).1,vs (a5 x5)] ([((-1),s4.2,x4,(a4 x5))]:List zF) (rC (vP vI (vP vI (vP (vL (gk 3)) (vP vB vS)))) rN)<|λp14 c14=>
  uB .s 1 2 u (gk 0) u u<|λx6 r_7 p15 c15=>zA 1 u<|zK<|jA 3 u<|zR u (jA 2 u<|qC<|yC<|qS<|tF<|yC<|yC<|qS<|tF<|yC<|qS<|yC<|qS<|tF<|yC<|qS<|yM u (lT u (lT u lN)) (λ_ k=>k none 0) [] ⟨gn,d⟩)<|vF<|
  wT<|qK<|jB 2 u<|vG (gv (λ_ k=>k p15 c15 r_7) [0,1] (gq [0,4,6,7,8])))<|yX<|yR<|yQ<|yV<|wT<|qK<|jB 3 u<|vG (gv (λ_ k=>k p12 c12 r_6) [0,1] (gq [0,2,3,4])))<|yX<|yR<|yQ<|yV<|qK<|jB 2 u<|wT<|qK<|jB 3 u<|
  vG (gv (λ_ k=>k p9 c9 r_5) [0,1] (gq [0,1,2,3])))<|yX<|yR<|yQ<|yV<|qK<|jA 3 u<|qC<|uQ 1 0 u u<|yM u (lT u (lT u lN)) (λ_ k=>k p8 c8) [] (gq [0])
abbrev z2j:=@Cn.mk 13 0 _ @zV8
attribute [instance] z0N z8p z1j zQN z1g z2j
set_option maxHeartbeats 2000000 in
theorem zUM{y0:uU}{y1:Int}: zP qd prog 5 [pt b1 0,vi y1] [bx b1 58 (zJm y0 p1 c1)] (zJs y0 p1 c1 [Pt (vC 64 (zB .u8)) 4 0 vV]) (zM4 y0 y1) λr K=>∀ p2 c2 p3 c3 p4 c4 p5 c5 p6 c6 p7 c7,K (.tuple #[.agg (zPf r.1 p2 c2 p3 c3 p4 c4 p5 c5 p6 c6 p7 c7).toArray,vb r.2.1]) [bx b1 58 [sv p1 y0.1 c1,vi r.2.2]] (zQa r.1 p2 c2 p3 c3 p4 c4 p5 c5 p6 c6 p7 c7 []) :=
 zO call5 func5 u λX=>zG<|yB .s (.agg k1)<|λb2=>zA 1 u<|zK<|zG<|zA 1 u<|qD .s [0] [] zTT u u u (cq [0])<|
  λr1 _ k p2 c2 p3 c3 p4 c4=>k<|yB .s (.agg k0)<|λb3=>wJ .s 2 u u u<|zK<|zG<|wU 2 3 u u u<|qW zV8 u (cq [0,1,2])<|λr2 _ k p5 c5=>k<|zA 5 u<|zK<|
  wF (λs1 K=>∀ p6 c6 p7 c7 p8 c8,K [0,4,6] [(2,bx b3 29 [sv p2 r1.1.1 c2,sv p7 s1.2.1 c7,sv p8 s1.2.2 c8])] [4,1,5] [(7,sv p6 s1.1 c6)] [Rl wB p6 c6 s1.1,Rl xV p7 c7 s1.2.1,Rl zAx p8 c8 s1.2.2]) (
  qA<|
  wO (λs2 K=>∀ p9 c9 p10 c10 p11 c11,K [0,1,4,6] [(2,bx b3 29 [sv p2 r1.1.1 c2,sv p10 s2.2.2.1 c10,sv p11 s2.2.2.2 c11])] [4,1,5] [(7,sv p9 s2.1 c9),(8,vi s2.2.1)] [Rl wB p9 c9 s2.1,Rl xV p10 c10 s2.2.2.1,Rl zAx p11 c11 s2.2.2.2]) (gv (λ_ k=>k p5 c5 p3 c3 p4 c4) [0,1,2] (gq [0,2,3,4,1,5]))<|
  λs2 _ k p9 c9 p10 c10 p11 c11=>k<|hP 4 3 0 (λK=>K [0,1,4,6,7] [] [0,3,4,1,2,5] [(31,vb (if s2.2.1 != 0 then decide (0<(len s2.2.2.1)) else(decide (y1<(len s2.1)))&&(decide (0<(len s2.2.2.1)))))] [])<|
 au
)<|hD 7 [] [2] (.l [0,2] (.w 1 10 (.w 3 10 (.l [4,5] (.w 6 10 (.l [7,8,9] (.f 10 (.f 11 (.l [12] .e)))) (.f 6 (.l [7,8,9] (.f 11 (.l [12] .e)))))) (.f 3 (.l [4,5] (.f 6 (.l [7,8,9] (.f 11 (.l [12] .e))))))) (.f 1 (.f 3 (.l [4,5] (.f 6 (.l [7,8,9] (.f 11 (.l [12] .e)))))))))<|hD 8 [] [3] (.l [0,1,2,3] (.s 59 (.l [4,5,6,7,8,9,10,11] (.s 67 (.l [12,13,14,15,16,17,18] (.f 19 (.l [20] .e))) (.l [12,13,14,15,16,17,18] (.f 19 (.l [20] .e))))) (.l [4,5,6,7,8,9,10,11,12,13,14,15,16,17,18] (.f 19 (.l [20] .e)))))<|hI 1 7 0 (λ(s3:Int×Int×zBv) K=>∀ b4 p14 c14 p15 c15 p16 c16 p17 c17 p18 c18 p19 c19,K [4,7] [(0,.c [(1,vi s3.2.1)]),(2,.r []),(3,.r (bx b4 36 (zPf s3.2.2 p14 c14 p15 c15 p16 c16 p17 c17 p18 c18 p19 c19)))] [0,3,5] [(9,pt b4 0),(10,vi s3.1)] (zQa s3.2.2 p14 c14 p15 c15 p16 c16 p17 c17 p18 c18 p19 c19 []))<|hI 1 8 0 (λ(s4:Bool×(List vE)×(List qH)×(List wW)×(List zF)×(List qX)×Int×(List qG)) K=>∀ p46 c46 p47 c47 p48 c48 p49 c49 p50 c50 p51 c51,K [4] [(1,.c [(0,sv p46 s4.2.1 c46),(1,sv p47 s4.2.2.1 c47),(2,sv p48 s4.2.2.2.1 c48),(3,sv p49 (a4 s4).1 c49),(4,sv p50 (a5 s4).1 c50),(5,vi (a6 s4).1),(6,sv p51 (a7 s4) c51)]),(3,.r [])] [7,8] [(5,vb s4.1)] [Rl zCO p46 c46 s4.2.1,Rl xV p47 c47 s4.2.2.1,Rl zAx p48 c48 s4.2.2.2.1,Rl wB p49 c49 (a4 s4).1,Rl zD2 p50 c50 (a5 s4).1,Rl wE p51 c51 (a7 s4)])<|
 au
abbrev z1S:=@Cn.mk 5 0 _ @zUM
theorem zOV{y0:qE}{y1:Int}: zP qd prog 25 [.agg (vQ y0 p1 c1).toArray,vi y1] [] [Rl wE p1 c1 y0.2] (zGk y0 y1) λr K=>K (vi r) [] [] :=
 zO call25 func25 u λX=>hI 1 1 0 (λ(s1:Bool) K=>K [] [(0,.r [])] [] [(17,vb s1)] [])<|
 au
abbrev z0C:=@Cn.mk 25 0 _ @zOV
theorem zVB{y0:Int}: zP qd prog 197 [vi y0] [] [] (zH1 y0) λr K=>K (vb r) [] [] :=
 zO call197 func197 u λX=>hP 4 1 0 (λK=>K [] [] [] [(2,vb ((y0 != 1)&&((y0 != 2)&&(y0 != 3))))] [])<|
 au
abbrev zUy:=@Cn.mk 197 0 _ @zVB
attribute [instance] z1S z0C zUy
theorem zI9{y0:List Int}: zP qd prog 221 [sv p1 y0 c1,.func (.func 197) #[] #[]] [] [Rl (zB .i64) p1 c1 y0] (zDq y0) λr K=>K (vi r) [] [] :=
 zO call221 func221 u λX=>hI 0 2 1 (λ(s1:Int) K=>K [0,1,7] [] [0] [(8,vi s1)] [])<|
 au
abbrev zI8:=@Cn.mk 221 3 _ @zI9
attribute [instance] zI8
theorem zHP{y0:List Int}: zP qd prog 145 [sv p1 y0 c1,.func (.func 197) #[] #[]] [] [Rl (zB .i64) p1 c1 y0] (zAG y0) λr K=>K (vb r) [] [] :=
 zO call145 func145 u λX=>
 au
abbrev zHM:=@Cn.mk 145 3 _ @zHP
attribute [instance] zHM
theorem zXS{y0:qE}{y1:List Int}: zP qd prog 121 [.agg (vQ y0 p1 c1).toArray,sv p2 y1 c2] [] [Rl wE p1 c1 y0.2,Rl (zB .i64) p2 c2 y1] (zDO y0 y1) λr K=>K (vb r) [] [] :=
 zO call121 func121 u λX=>hI 1 1 0 (λ(s1:Bool) K=>K [] [(0,.r [])] [] [(4,vb s1)] [])<|
 au
abbrev zXH:=@Cn.mk 121 0 _ @zXS
theorem zXV{y0:qE}{y1:List Int}{y2:Int}: zP qd prog 271 [.agg (vQ y0 p1 c1).toArray,sv p2 y1 c2,vi y2] [] [Rl wE p1 c1 y0.2,Rl (zB .i64) p2 c2 y1,Pt (vC 64 (zB .u8)) 4 0 vV] (zDL y0 y1 y2) λr K=>K (vb r) [] [] :=
 zO call271 func271 u λX=>zG<|wN .s u<|λb1=>zA 1 u<|zK<|zG<|wU 0 2 u u u<|zA 1 u<|qW zGi u (cq [0,2])<|λr1 _ k p3 c3=>k<|zA 1 u<|zK<|zG<|yB .s (.agg #[vi 0,vi 0,vi 0,vi 0])<|λb2=>zK<|
  wF (λs1 K=>K [1,2,7,8] [(0,[]),(1,bx b2 353 [vi s1.1,vi s1.2.1,vi s1.2.2.1,vi s1.2.2.2])] [2,0,3] [] []) (
  jA 3 u<|qA<|
  wO (λs2 K=>K [1,2,7,8,14,15] [(0,[]),(1,bx b2 353 [vi s2.2.1,vi s2.2.2.1,vi s2.2.2.2.1,vi (a4 s2)])] [2,0,3] [(16,vi s2.1)] []) (gv kk [900,1] (gq [2,0,3]))<|
  λs2 _ k=>k<|jA 1 u<|zQ<|zR u (jC<|zQ<|qA<|zG<|yD 1 u u u<|λx1 b3 o1=>yN false oI (gk 0) u<|zA 1 u<|zK<|wQ<|zA 2 u<|yD 1 u u u<|λx2 b4 o2=>yN false oI (gk 0) u<|
  jiB (l:=([s2.2.1,s2.2.2.1,s2.2.2.2.1,(a4 s2)]:List Int)) u u<|λx3 h1=>jlI 1 (.int .i64) u u u h1<|zA 1 u<|jiB (l:=([s2.2.1,s2.2.2.1,s2.2.2.2.1,(a4 s2)]:List Int)) u u<|λx4 h2=>
  jsI (z:=zH (x3+1)) (.int .i64) .s 1 u u u u h2<|
 au
)<|
 au
)<|λs1 _ k=>k<|zQ<|zG<|zA 2 u<|
  yD 0 u u u<|λx5 b5 o3=>yN false oI (gk 0) u<|zK<|qA<|jA 2 u<|zR u (zG<|jv (v:=pt b2 2) (λh=>zUj (k:=4) (sz:=1) h u u (by kernel_rfl) (by decide) u)<|
 au
)<|jA 2 u<|zR u (zG<|jv (v:=pt b2 1) (λh=>zUj (k:=4) (sz:=1) h u u (by kernel_rfl) (by decide) u)<|
 au
)<|
  vF<|wT<|qK<|z1c (λK=>K [] [(1,[])] [3] [(6,vb ((decide (s1.2.2.1<(len r1)))&&(s1.2.1==0)))] []) (wQ<|
  jv (v:=pt b2 2) (λh=>zUj (k:=4) (sz:=1) h u u (by kernel_rfl) (by decide) u)<|qI 1 u u u<|zA 4 u<|xO (b:=decide (s1.2.2.1<(len r1))) 50 u (λhb1=>
  jv (v:=pt b2 1) (λh=>zUj (k:=4) (sz:=1) h u u (by kernel_rfl) (by decide) u)<|
 au
)<|
 au
)<|
 au
abbrev zXt:=@Cn.mk 271 0 _ @zXV
attribute [instance] zXH zXt
theorem zUc{y0:qE}{y1:List Int}: zP qd prog 198 [.agg (vQ y0 p1 c1).toArray,sv p2 y1 c2] [] [Rl wE p1 c1 y0.2,Rl (zB .i64) p2 c2 y1,Pt (vC 64 (zB .u8)) 4 0 vV] (zEE y0 y1) λr K=>∀ p3 c3,K (sv p3 r c3) [] [Rl (zB .i64) p3 c3 r] :=
 zO call198 func198 u λX=>hR 5 1 (zB .i64) 3<|hI 0 5 1 (λ(s1:(List Int)×Int) K=>∀ p3 c3 r_1,K [1,2,12] [(1,.r r_1)] [2,1,3] [(5,sv p3 s1.1 c3),(13,vi s1.2)] [Al (zB .i64) 3 r_1 p3 c3 s1.1])<|
 au
abbrev zUo:=@Cn.mk 198 0 _ @zUc
attribute [instance] zUo
theorem zMI{y0:qE}{y1:List Int}: zP qd prog 122 [.agg (vQ y0 p1 c1).toArray,sv p2 y1 c2] [] [Rl wE p1 c1 y0.2,Rl (zB .i64) p2 c2 y1,Pt (vC 64 (zB .u8)) 4 0 vV] (zCB y0 y1) λr K=>K (vb r) [] [] :=
 zO call122 func122 u λX=>hI 1 1 0 (λ(s1:Bool) K=>K [] [(0,.r [])] [2] [(4,vb s1)] [])<|
 au
abbrev zRv:=@Cn.mk 122 0 _ @zMI
theorem zTM{y0:qE}{y1:Int}{y2:Int}{y3:List Int}: zP qd prog 74 [.agg (vQ y0 p1 c1).toArray,vi y1,vi y2,sv p2 y3 c2] [] [Rl wE p1 c1 y0.2,Rl (zB .i64) p2 c2 y3,Pt (vC 64 (zB .u8)) 4 0 vV] (zOQ y0 y1 y2 y3) λr K=>K (vb r) [] [] :=
 zO call74 func74 u λX=>zG<|wN .s u<|λb1=>zA 1 u<|zK<|zQ<|wF (λs1 K=>K [1,2,3] [(0,[])] [1,2] [(22,vb s1)] []) (wQ<|wU 0 2 u u u<|zA 1 u<|
  qW zMI u (cq [0,1,2])<|λr1 _ k=>k<|zA 2 u<|uO 13 u (zA 8 u<|zV (vb true)<|qN<|qB (gv kk [900] (gq [1,2])))<|zA 3 u<|uO 16 u (zA 1 u<|qW zK6 u (cq [1])<|
  λr2 _ k p3 c3=>k<|zA 2 u<|zV (vb (decide (0<(len r2))))<|zV (vb (decide (0<(len r2))))<|qN<|qB (gv kk [900] (gq [2,3])))<|zA 4 u<|zV (vb false)<|zV (vb false)<|qN<|qB (gv kk [900] (gq [1,2])))<|
  λs1 _ k=>k<|zR u (jA 1 u<|qC<|qS<|qR u u kk [] d)<|jC<|zG<|zA 2 u<|yD 0 u u u<|λx1 b2 o1=>yN false oI (gk 0) u<|zA 3 u<|zV (vb ((x1==1)==(y1 != 3)))<|zA 1 u<|zK<|qC<|
  qR u u kk [] d
abbrev z07:=@Cn.mk 74 0 _ @zTM
theorem zOy{y0:qE}{y1:Int}{y2:Int}{y3:zHy}: zP qd prog 33 [.agg (vQ y0 p1 c1).toArray,vi y1,vi y2,.agg (zSn y3 p2 c2 p3 c3 p4 c4).toArray] [] (Rl wE p1 c1 y0.2::(zSV y3 p2 c2 p3 c3 p4 c4 [Pt (vC 64 (zB .u8)) 4 0 vV])) (zLi y0 y1 y2 y3) λr K=>K (vi r) [] [] :=
 zO call33 func33 u λX=>zG<|wN .s u<|λb1=>wN .s u<|λb2=>zA 1 u<|zK<|zQ<|qA<|
  z1c (λK=>K [1,2,4,7] [] [0,1,2,3,4] [(9,vb ((decide (0<(len y3.2.2.1)))||(decide (0<(len y3.2.2.2)))))] []) (
  wQ<|zY 2 u<|qI 1 u u u<|zA 3 u<|xO (b:=decide (0<(len y3.2.2.1))) 14 u (λhb1=>zA 4 u<|zV (vb true)<|zA 1 u<|qN<|
  yG 9 (vb ((decide (0<(len y3.2.2.1)))||(decide (0<(len y3.2.2.2))))) u (by rw[hb1];rfl)<|qB (gv kk [0,1] (gq [0,1,2,3,4])))<|λhb1=>zY 3 u<|qI 1 u u u<|zA 2 u<|zV (vb (decide (0<(len y3.2.2.2))))<|
  zA 1 u<|qN<|yG 9 (vb ((decide (0<(len y3.2.2.1)))||(decide (0<(len y3.2.2.2))))) u (by rw[hb1];rfl)<|qB (gv kk [0,1] (gq [0,1,2,3,4])))<|λ_ k=>k<|zR u (jA 1 u<|qC<|yC<|qS<|qR u u kk [] d
  )<|zG<|wU 0 2 u u u<|zA 2 u<|zY 1 u<|qI 1 u u u<|qW zTM u (cq [0,1,4])<|λr1 _ k=>k<|zA 2 u<|zK<|zR u (jA 1 u<|qC<|yC<|qS<|qR u u kk [] d)<|vF<|wT<|qK<|jA 1 u<|qC<|
  qR u u kk [] d
abbrev zWW:=@Cn.mk 33 0 _ @zOy
theorem zUe{y0:Int}{y1:List Int}{y2:Int}: wR qd prog 199 [vi y0,pt b1 0,pt b2 0] [bx b1 22 [sv p1 y1 c1],bx b2 3 [vi y2]] [Rl (zB .i64) p1 c1 y1] (zHi y0 y1 y2) λL r K=>K (vb r) L [] :=
 zO call199 func199 u λX=>hD 1 [] [0,1] (.l [0,1,2,3,4,5,6,7,8,9] .e)<|
 au
abbrev zUm:=@Cn.mk 199 0 _ @zUe
attribute [instance] zRv z07 zWW zUm
theorem zDp{y0:List Int}{y1:List Int}{y2:Int}: wR qd prog 221 [sv p1 y0 c1,.func (.func 199) #[] #[pt b1 0,pt b2 0]] [bx b1 22 [sv p2 y1 c2],bx b2 3 [vi y2]] [Rl (zB .i64) p1 c1 y0,Rl (zB .i64) p2 c2 y1] (zDv y0 y1 y2) λL r K=>K (vi r) L [] :=
 zO call221 func221 u λX=>hI 0 2 1 (λ(s1:Int) K=>K [0,1,7] [] [0,1] [(8,vi s1)] [])<|
 au
abbrev zI7:=@Cn.mk 221 4 _ @zDp
theorem zDU{y0:List Int}{y1:List Int}{y2:Int}: wR qd prog 145 [sv p1 y0 c1,.func (.func 199) #[] #[pt b1 0,pt b2 0]] [bx b1 22 [sv p2 y1 c2],bx b2 3 [vi y2]] [Rl (zB .i64) p1 c1 y0,Rl (zB .i64) p2 c2 y1] (zAo y0 y1 y2) λL r K=>K (vb r) L [] :=
 zO call145 func145 u λX=>jA 1 u<|zG<|zA 2 u<|qD .s [0,1] [] zDp u u u (cq [0,1])<|λr1 _ k=>k<|zA 2 u<|zK<|qC<|qR u u kk [0,1] d
abbrev zHR:=@Cn.mk 145 4 _ @zDU
theorem zU8{y0:Int}{y1:List Int}{y2:List Int}{y3:Int}: wR qd prog 200 [vi y0,pt b1 0,pt b2 0,pt b3 0] [bx b1 22 [sv p1 y1 c1],bx b2 22 [sv p2 y2 c2],bx b3 3 [vi y3]] [Rl (zB .i64) p1 c1 y1,Rl (zB .i64) p2 c2 y2] (zH2 y0 y1 y2 y3) λL r K=>K (vb r) L [] :=
 zO call200 func200 u λX=>hD 1 [] [0,1,2] (.l [0,1,2,3,4,5] (.s 11 (.l [6,7,8,9,10,11,12] (.s 18 (.l [13,14,15,16,17,18,19,20,21,22,23] .e) (.l [13,14,15,16,17,18,19,20,21,22,23] .e))) (.l [6,7,8,9,10,11,12,13,14,15,16,17,18,19,20,21,22,23] .e)))<|hI 1 1 0 (λ(s1:Bool) K=>K [] [] [0,1] [(5,vb s1)] [])<|
 au
abbrev zUv:=@Cn.mk 200 0 _ @zU8
attribute [instance] zI7 zHR zUv
theorem zDo{y0:List Int}{y1:List Int}{y2:List Int}{y3:Int}: wR qd prog 221 [sv p1 y0 c1,.func (.func 200) #[] #[pt b1 0,pt b2 0,pt b3 0]] [bx b1 22 [sv p2 y1 c2],bx b2 22 [sv p3 y2 c3],bx b3 3 [vi y3]] [Rl (zB .i64) p1 c1 y0,Rl (zB .i64) p2 c2 y1,Rl (zB .i64) p3 c3 y2] (zDu y0 y1 y2 y3) λL r K=>K (vi r) L [] :=
 zO call221 func221 u λX=>hI 0 2 1 (λ(s1:Int) K=>K [0,1,7] [] [0,1,2] [(8,vi s1)] [])<|
 au
abbrev zI6:=@Cn.mk 221 5 _ @zDo
theorem zDS{y0:List Int}{y1:List Int}{y2:List Int}{y3:Int}: wR qd prog 145 [sv p1 y0 c1,.func (.func 200) #[] #[pt b1 0,pt b2 0,pt b3 0]] [bx b1 22 [sv p2 y1 c2],bx b2 22 [sv p3 y2 c3],bx b3 3 [vi y3]] [Rl (zB .i64) p1 c1 y0,Rl (zB .i64) p2 c2 y1,Rl (zB .i64) p3 c3 y2] (zAn y0 y1 y2 y3) λL r K=>K (vb r) L [] :=
 zO call145 func145 u λX=>jA 1 u<|zG<|zA 2 u<|qD .s [0,1,2] [] zDo u u u (cq [0,1,2])<|λr1 _ k=>k<|zA 2 u<|zK<|qC<|qR u u kk [0,1,2] d
abbrev zHJ:=@Cn.mk 145 5 _ @zDS
theorem zXQ{y0:qE}{y1:List Int}{y2:List Int}{y3:Int}: zP qd prog 123 [.agg (vQ y0 p1 c1).toArray,sv p2 y1 c2,sv p3 y2 c3,vi y3] [] [Rl wE p1 c1 y0.2,Rl (zB .i64) p2 c2 y1,Rl (zB .i64) p3 c3 y2,Pt (vC 64 (zB .u8)) 4 0 vV] (zJq y0 y1 y2 y3) λr K=>K (vb r) [] [] :=
 zO call123 func123 u λX=>zG<|wN .s u<|λb1=>wN .s u<|λb2=>wN .s u<|λb3=>wN .s u<|λb4=>zA 1 u<|zK<|zG<|wU 0 2 u u u<|qI 3 u u u<|qW zGi u (cq [0,3])<|λr1 _ k p4 c4=>k<|zA 1 u<|zK<|zQ<|zG<|
  qI 1 u u u<|qI 3 u u u<|yD 2 u u u<|λx1 b5 o1=>yN false oI (gk 0) u<|zK<|qA<|jA 2 u<|zR u (
  wF (λs1 K=>K [] [(0,[]),(1,[]),(2,[]),(3,[])] [5] [(8,vb s1)] []) (wQ<|qI 2 u u u<|qI 3 u u u<|yD 4 u u u<|λx2 b6 o2=>
  yN false oI (gk 0) u<|zA 2 u<|uO 24 u (zA 2 u<|qD .s [2,3] [] zDU u u u (cq [2,5])<|λr2 _ k=>k<|zA 1 u<|zV (vb (!r2))<|zA 1 u<|qN<|
  qB (gv kk [900,901,902,903] (gq [6])))<|zA 4 u<|zV (vb false)<|zA 1 u<|qN<|qB (gv kk [900,901,902,903] (gq [6])))<|λs1 _ k=>k<|qC<|yC<|qS<|qR u u kk [] d)<|jA 2 u<|zR u (zG<|
  zA 2 u<|qD .s [1,2,3] [] zDS u u u (cq [1,3,4])<|λr3 _ k=>k<|zA 1 u<|zK<|qC<|yC<|qS<|qR u u kk [] d)<|vF<|wT<|qK<|jA 1 u<|qC<|
  qR u u kk [] d
abbrev zXC:=@Cn.mk 123 0 _ @zXQ
attribute [instance] zI6 zHJ zXC
theorem zR0{y0:qE}{y1:List Int}{y2:List Int}: zP qd prog 72 [.agg (vQ y0 p1 c1).toArray,sv p2 y1 c2,sv p3 y2 c3] [] [Rl wE p1 c1 y0.2,Rl (zB .i64) p2 c2 y1,Rl (zB .i64) p3 c3 y2,Pt (vC 64 (zB .u8)) 4 0 vV] (zKd y0 y1 y2) λr K=>K (vi r) [] [] :=
 zO call72 func72 u λX=>hI 1 3 0 (λ(s1:Bool) K=>K [1,2,3] [] [1,2,0,3] [(12,vb s1)] [])<|hI 0 8 1 (λ(s2:Int) K=>K [1,2,3,30] [] [0,1,2,3] [(31,vi s2)] [])<|
 au
abbrev zYf:=@Cn.mk 72 0 _ @zR0
end Go.Proofs.YtgjdojihimkgcaaGreatDoor
