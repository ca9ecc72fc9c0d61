/- A part. Conditions: none. -/
import Derived.Test.YtgjdojihimkgcaaGreatDoorWalk3
namespace Go.Proofs.YtgjdojihimkgcaaGreatDoor
open Go Go.GD Go.Proofs.Tryz
set_option autoImplicit false
set_option linter.unusedVariables false
set_option maxRecDepth 100000
set_option linter.defProp false
variable {qd:Prop}
variable {yl1:Nat}{p1 p2 p3 p4 p5 p6 p7 p8 p9:Option Addr}{c1 c2 c3 c4 c5 c6 c7 c8 c9:Nat}{b1 b2 b3 b4 b5 b6 b7 b8 b9 b10 b11:Nat}{r_1 r_2 r_3 r_4 r_5 r_6 r_7 r_8:zJ}
theorem zEb{y0:List qG}: zP qd prog 92 [sv p1 y0 c1,.func (.func 93) #[] #[]] [r_1] [Al wE 165 r_1 p1 c1 y0] (zAc y0) λr K=>∀ r_2,K (.tuple #[]) [r_2] [Ar wE 165 r_2 p1 c1 (List.length y0) r]:=⟨call92,λA w0 r hm hO hF=>by
 have h:=zW2 (qd:=qd) Go.Proofs.Tryz.sort92 (uK.prod (uK.int .i64) (uK.int .i64)) (te:=165) Tryz.isAgg165 Tryz.sizeOf165 zFg 93 (enters_of func93 (by kernel_rfl) u) (λw x y n hn=>?_) hO hF.1.1 hm
 · change Calls prog 92 _ _ _ at h
   refine h.mono λe w' h=>?_
   cases e with
   | returned v=>obtain⟨r',rfl,h1,h2,h3,h4⟩:=h;exact λG k=>k r' ⟨rfl,h1,h2,⟨h3,h4.symm⟩,trivial⟩
   | panicked ch=>exact h
   | outgrown=>exact h
 · refine((zR1 (qd:=True) (y0:=x) (y1:=y)).go [] w n hn (zZ.start (by simp)) trivial).mono λe w' h=>?_
   cases e with
   | returned v=>exact h _ λ⟨e1,q⟩=>⟨e1,q.e⟩
   | panicked ch=>exact h
   | outgrown=>exact h⟩
abbrev zJx:=@Cn.mk 92 1 _ @zEb
attribute [instance] zY0 zTE zY6 zJx
theorem zP5{y0:Int}{y1:List qX}: zP qd prog 47 [vi y0,sv p1 y1 c1] [] [Rl zD2 p1 c1 y1] (zGK y0 y1) λr K=>∀ p2 c2,K (.tuple #[.agg (vQ r.1 p2 c2).toArray,vi r.2]) [] [Rl wE p2 c2 r.1.2] :=
 zO call47 func47 u λX=>zG<|yB .s (.agg k5)<|λb1=>zA 1 u<|zK<|zQ<|
  z1c (λK=>K [0,1,4] [] [0] [(14,vb ((decide (y0<0))||(decide (40<y0))))] []) (
 au
)<|λ_ k=>k<|zR u (
 au
)<|jC<|zG<|zA 1 u<|zV (.agg #[vi y0,.slice none 0 0])<|yU wE 165<|yB .s (.agg k5)<|λb2=>
  wJ .s 2 u u u<|zK<|
  jjoK (λs1 K=>∀ p2 c2 r_1,K [4,6] [(1,r_1),(2,bx b2 34 [vi y0,sv p2 s1 c2])] [] [] [Al wE 165 r_1 p2 c2 s1]) (
  jA 3 u<|qA<|
  wO (λs2 K=>∀ p3 c3 r_2,K [0,4,6,18,19] [(1,r_2),(2,bx b2 34 [vi y0,sv p3 s2.2 c3])] [1] [(20,vi s2.1)] [Al wE 165 r_2 p3 c3 s2.2]) (gv (λ_ k=>k none 0 []) [0,1,2] (gq [0,1]))<|
  λs2 _ k p3 c3 r_2=>k<|jA 1 u<|zQ<|zR u (jC<|zQ<|qA<|zG<|yD 1 u u u<|λx1 b3 o1=>hP 4 7 0 (λK=>K [0,4,6,8,18,19,20] [] [2,1] [(38,vb ((decide ((if x1.2.1<x1.1 then x1.2.1 else x1.1)<0))||(decide (y0≤(if x1.2.1 > x1.1 then x1.2.1 else x1.1)))))] [])<|
 au
)<|
 au
)<|
  λs1 _ k p2 c2 r_1=>k<|zG<|zY 1 u<|qI 2 u u u<|qD .s [1] [] zEb u u u (cq [0])<|λr1 _ k r_4=>k<|zK<|zG<|zY 1 u<|qI 2 u u u<|jrE 0 55 u u<|
 au
abbrev z16:=@Cn.mk 47 0 _ @zP5
theorem zRm{y0:List vE}: zP qd prog 102 [sv p1 y0 c1] [] [Rl zCO p1 c1 y0] (zF0 y0) λr K=>∀ p2 c2,K (sv p2 r c2) [] [Rl zCO p2 c2 r] :=
 zO call102 func102 u λX=>jA 1 u<|zQ<|zG<|zA 1 u<|jv (λh=>z9l h u underlying25)<|zK<|jnl (m1:=some ([]:List vE)) u (gk 0) (λh=>by first|(rw[h];done)|(rw[h];rfl)|(simp[h,qF];done)) (
 au
)<|hO 5<|
 au
abbrev zRu:=@Cn.mk 102 0 _ @zRm
theorem zPr{y0:List wW}: zP qd prog 104 [sv p1 y0 c1] [] [Rl zAx p1 c1 y0] (zEZ y0) λr K=>∀ p2 c2,K (sv p2 r c2) [] [Rl zAx p2 c2 r] :=
 zO call104 func104 u λX=>jA 1 u<|zQ<|zG<|zA 1 u<|jv (λh=>z9l h u underlying27)<|zK<|jnl (m1:=some ([]:List wW)) u (gk 0) (λh=>by first|(rw[h];done)|(rw[h];rfl)|(simp[h,qF];done)) (
 au
)<|hO 5<|
 au
abbrev zPv:=@Cn.mk 104 0 _ @zPr
theorem zVH{y0:List qH}: zP qd prog 103 [sv p1 y0 c1] [] [Rl xV p1 c1 y0] (zHa y0) λr K=>∀ p2 c2 r_1,K (sv p2 r c2) [r_1] [Al xV 101 r_1 p2 c2 r] :=
 zO call103 func103 u λX=>jA 1 u<|zQ<|zG<|zA 1 u<|jv (λh=>z9l h u underlying26)<|zK<|jnl (m1:=some ([]:List qH)) u (gk 0) (λh=>by first|(rw[h];done)|(rw[h];rfl)|(simp[h,qF];done)) (jA 1 u<|qC<|qS<|yU xV 101<|
  jrE 0 2 u u<|
 au
)<|hO 5<|
 au
abbrev zVF:=@Cn.mk 103 0 _ @zVH
attribute [instance] z16 zRu zPv zVF
set_option maxHeartbeats 2000000 in
theorem zPK{y0:zM}{y1:List zI}: zP qd prog 51 [.agg (yK y0 p1 c1 p2 c2 p3 c3).toArray,sv p4 y1 c4] [] (yO y0 p1 c1 p2 c2 p3 c3 [Rl qT p4 c4 y1]) (zEY y0 y1) λr K=>∀ p5 c5 p6 c6 p7 c7,K (.agg (yK r p5 c5 p6 c6 p7 c7).toArray) [] (yO r p5 c5 p6 c6 p7 c7 []) :=
 zO call51 func51 u λX=>zG<|wN .s u<|λb1=>yB .s (.agg k0)<|λb2=>zK<|
  wF (λs1 K=>∀ b3 p5 c5 p6 c6 r_1 p7 c7,K [1,2,4] [(2,bx b3 29 [sv p5 s1.1 c5,sv p6 s1.2.1 c6,sv p7 s1.2.2 c7]),(3,r_1)] [3,0,1,2] [(5,pt b3 0)] [Rl zCO p5 c5 s1.1,Al xV 101 r_1 p6 c6 s1.2.1,Rl zAx p7 c7 s1.2.2]) (hD 1 [] [0] (.l [0,1,3,4,6,7] (.w 2 10 (.w 5 10 (.w 8 10 (.l [9] (.f 10 (.f 11 .e))) (.f 8 (.l [9] (.f 11 .e)))) (.f 5 (.f 8 (.l [9] (.f 11 .e))))) (.f 2 (.f 5 (.f 8 (.l [9] (.f 11 .e)))))))<|
 au
)<|λs1 _ k b3 p5 c5 p6 c6 r_1 p7 c7=>k<|
  wF (λs2 K=>∀ p17 c17 r_5,K [4,5] [(0,[]),(2,bx b3 29 [sv p5 s1.1 c5,sv p17 s2 c17,sv p7 s1.2.2 c7]),(3,r_5)] [0,2] [] [Al xV 101 r_5 p17 c17 s2]) (
  zG<|zY 1 u<|qI 0 u u u<|zA 2 u<|zK<|qA<|
  wO (λs3 K=>∀ p18 c18 r_6,K [1,2,4,5,21,22] [(2,bx b3 29 [sv p5 s1.1 c5,sv p18 s3.2 c18,sv p7 s1.2.2 c7]),(3,r_6)] [3,5,4,6,0,2] [(23,vi s3.1)] [Al xV 101 r_6 p18 c18 s3.2]) (gv (λ_ k=>k p6 c6 r_1) [0,1,2,3] (gq [1,3,5,4,6,0,2]))<|
  λs3 _ k p18 c18 r_6=>k<|jA 1 u<|zQ<|zR u (jC<|zQ<|qA<|zG<|zA 1 u<|yD 2 u u u<|λx1 b8 o1=>yN true z2I (gk 0) u<|λp19 c19=>yB .s (.agg k3)<|λb9=>
  zA 1 u<|wJ .s 4 u u u<|zK<|xA [] [2,4] 9<|qU 0 1 u u<|wV 1 2 u u u u<|zW 6 [2] u<|qU 3 3 u u<|wV 4 4 u u u u<|qO 5<|qD (.f u) [] [] zId u u u (cq [0])<|
  λr10 _ k p20 c20 r_7=>k<|qM<|jdI 6 3 u u u u<|λx2 h1 b10 o2 hp1=>qU 7 3 u u<|uQ 5 0 u u<|qO 8<|jsA (.f u) 3 4 sI.snd.snd.snd.fst r10 false u hp1 h1 u u (vL (gk 0))<|λr_8=>qM<|qY<|qK<|zG<|zY 2 u<|
  qI 0 u u u<|zA 2 u<|zK<|qA<|
  jbL (λq_=>[bx b1 29 (yK y0 p1 c1 p2 c2 p3 c3),bx b2 29 k8,bx b3 29 [sv p5 s1.1 c5,.slice p18 q_ c18,sv p7 s1.2.2 c7],r_8,bx b9 101 (zYD x1 p19 c19),[]]) (gk 0) u<|
  wO (λs4 K=>∀ p21 c21 r_9,K [1,2,4,5,6,7,21,22,23,37,38] [(2,bx b3 29 [sv p5 s1.1 c5,sv p21 s4.2 c21,sv p7 s1.2.2 c7]),(3,r_9)] [7,8,10,9,11,12,4] [(39,vi s4.1)] [Al xV 101 r_9 p21 c21 s4.2]) (gv (λ_ k=>k p18 c18 r_8) [0,1,2,3,4,905] (gq [0,7,8,10,9,11,12,4]))<|
  λs4 _ k p21 c21 r_9=>k<|jA 1 u<|zQ<|zR u (jC<|zQ<|qA<|zG<|yD 3 u u u<|λx3 b11 o3=>yN true zZn (gk 0) u<|yB .s (.agg #[vs [],vi 0,vb false,vs []])<|λb12=>wJ .s 6 u u u<|zK<|
  wF (λs5 K=>K [1,2,4,5,6,7,9,21,22,23,37,38,39] [] [2,3,4,5,6,1,7,8] [(58,vb s5)] []) (
 au
)<|λs5 _ k=>k<|zR u (wQ<|zY 1 u<|qI 2 u u u<|zA 1 u<|zY 1 u<|qI 6 u u u<|jia 5 u u u<|λx4 h2 b13 o4 hp2=>zY 2 u<|
  jsA .s 3 5 sI.snd.snd.fst x3.2.1 false u hp2 h2 u u vI<|λr_10=>qN<|wT<|qK<|jB 2 u<|
  jbL (λq_=>[bx b1 29 (yK y0 p1 c1 p2 c2 p3 c3),bx b2 29 k8,bx b3 29 [sv p5 s1.1 c5,.slice p21 q_ c21,sv p7 s1.2.2 c7],r_10,bx b9 101 (zYD x1 p19 c19),[],bx b12 103 (zQk x3)]) (gk 0) u<|
 au
)<|
 au
)<|
 au
)<|
 au
)<|
 au
abbrev zVx:=@Cn.mk 51 0 _ @zPK
theorem zRc{y0:zM}{y1:yZ}: zP qd prog 14 [.agg (yK y0 p1 c1 p2 c2 p3 c3).toArray,.agg #[vi y1.1,vi y1.2]] [] (yO y0 p1 c1 p2 c2 p3 c3 [Pt (vC 64 (zB .u8)) 4 0 vV]) (zCu y0 y1) λr K=>∀ p4 c4 p5 c5 p6 c6 p7 c7 p8 c8 p9 c9,K (.tuple #[.agg (zPf r.1 p4 c4 p5 c5 p6 c6 p7 c7 p8 c8 p9 c9).toArray,vi r.2]) [] (zQa r.1 p4 c4 p5 c5 p6 c6 p7 c7 p8 c8 p9 c9 []) :=
 zO call14 func14 u λX=>zG<|wN .s u<|λb1=>wN .s u<|λb2=>yB .s (.agg k1)<|λb3=>zA 1 u<|zK<|zG<|wU 0 3 u u u<|
  qW zR2 u (cq [0,1,2])<|λr1 _ k p4 c4=>k<|zA 5 u<|zK<|zQ<|jA 2 u<|zR u (zG<|zV (.agg k1)<|zA 1 u<|
  wJ .s 2 u u u<|zA 1 u<|zK<|qC<|qS<|
  yM u (lC 2 (.agg k1) u u (lT u lN)) (λ_ k=>k none 0 none 0 none 0 none 0 none 0 none 0) [] ⟨gn,gn,gn,gn,gn,gn,d⟩)<|jC<|
  zQ<|
  z1c (λK=>K [2,3,4,6] [] [0,1,2,3,4] [(37,vb (if y1.1 != 1 then(y1.1 != 2)||((y1.2 != 1)&&(y1.2 != 2)) else(y1.2 != 1)&&(y1.2 != 2)))] []) (
  wQ<|zY 0 u<|qI 1 u u u<|zA 2 u<|xO (b:=y1.1 != 1) 23 u (λhb1=>zY 0 u<|qI 1 u u u<|zA 1 u<|zV (vb (y1.1 != 2))<|zA 1 u<|xO (b:=y1.1 != 2) 28 u (λhb2=>zA 8 u<|zV (vb true)<|qN<|
  yG 37 (vb (if y1.1 != 1 then(y1.1 != 2)||((y1.2 != 1)&&(y1.2 != 2)) else(y1.2 != 1)&&(y1.2 != 2))) u (by rw[hb1,hb2];rfl)<|qB (gv kk [0,1,2] (gq [0,1,2,3,4])))<|λhb2=>zY 1 u<|qI 1 u u u<|zA 2 u<|
  xO (b:=y1.2 != 1) 32 u (λhb3=>zY 1 u<|qI 1 u u u<|zA 1 u<|zV (vb (y1.2 != 2))<|zV (vb (y1.2 != 2))<|qN<|
  yG 37 (vb (if y1.1 != 1 then(y1.1 != 2)||((y1.2 != 1)&&(y1.2 != 2)) else(y1.2 != 1)&&(y1.2 != 2))) u (by rw[hb1,hb2,hb3];rfl)<|qB (gv kk [0,1,2] (gq [0,1,2,3,4])))<|λhb3=>zA 3 u<|zV (vb false)<|
  zV (vb false)<|qN<|yG 37 (vb (if y1.1 != 1 then(y1.1 != 2)||((y1.2 != 1)&&(y1.2 != 2)) else(y1.2 != 1)&&(y1.2 != 2))) u (by rw[hb1,hb2,hb3];rfl)<|qB (gv kk [0,1,2] (gq [0,1,2,3,4])))<|λhb1=>zA 3 u<|
  zV (vb false)<|zA 1 u<|zY 1 u<|qI 1 u u u<|zA 2 u<|xO (b:=y1.2 != 1) 32 u (λhb4=>zY 1 u<|qI 1 u u u<|zA 1 u<|zV (vb (y1.2 != 2))<|zV (vb (y1.2 != 2))<|qN<|
  yG 37 (vb (if y1.1 != 1 then(y1.1 != 2)||((y1.2 != 1)&&(y1.2 != 2)) else(y1.2 != 1)&&(y1.2 != 2))) u (by rw[hb1,hb4];rfl)<|qB (gv kk [0,1,2] (gq [0,1,2,3,4])))<|λhb4=>zA 3 u<|zV (vb false)<|zV (vb false)<|
  qN<|yG 37 (vb (if y1.1 != 1 then(y1.1 != 2)||((y1.2 != 1)&&(y1.2 != 2)) else(y1.2 != 1)&&(y1.2 != 2))) u (by rw[hb1,hb4];rfl)<|qB (gv kk [0,1,2] (gq [0,1,2,3,4])))<|λ_ k=>k<|zR u (zG<|
  zV (.agg k1)<|wJ .s 2 u u u<|zA 1 u<|zK<|qC<|qS<|
  yM u (lC 2 (.agg k1) u u (lT u lN)) (λ_ k=>k none 0 none 0 none 0 none 0 none 0 none 0) [] ⟨gn,gn,gn,gn,gn,gn,d⟩)<|jC<|
  zG<|zA 2 u<|wU 0 3 u u u<|zA 1 u<|wU 1 2 u u u<|qW zN8 u (cq [1,2,3,0])<|λr2 _ k p5 c5=>k<|qW zP5 u (cq [0])<|λr3 _ k p6 c6=>k<|zA 3 u<|yB .s (.agg k5)<|
  λb4=>wJ .s 3 u u u<|zA 1 u<|zK<|zQ<|jA 2 u<|zR u (zG<|zV (.agg k1)<|zA 1 u<|wJ .s 2 u u u<|
  zA 1 u<|zK<|qC<|qS<|
  yM u (lC 2 (.agg k1) u u (lT u lN)) (λ_ k=>k none 0 none 0 none 0 none 0 none 0 none 0) [] ⟨gn,gn,gn,gn,gn,gn,d⟩)<|jC<|
  zG<|zA 1 u<|wU 3 2 u u u<|qW zRY u (cq [0,6])<|λr4 _ k p7 c7=>k<|qW zK6 u (cq [0])<|λr5 _ k p8 c8=>k<|qW zML u (cq [4,0])<|λr6 _ k p9 c9=>k<|zA 1 u<|zK<|zG<|
  wU 0 3 u u u<|zA 1 u<|qW zPK u (cq [6,7,8,0])<|λr7 _ k p10 c10 p11 c11 p12 c12=>k<|zA 1 u<|
  zV (.agg #[sv p10 r7.1 c10,sv p11 r7.2.1 c11,sv p12 r7.2.2 c12,sv p4 r1.1 c4,.slice none 0 0,vi 0,.slice none 0 0])<|
  yB .s (.agg k1)<|λb5=>wJ .s 4 u u u<|zK<|zG<|zY 0 u<|wU 4 3 u u u<|zA 1 u<|wU 1 2 u u u<|
  qW zN8 u (cq [0,1,2,8])<|λr8 _ k p13 c13=>k<|zY 4 u<|wJ .s 4 u u u<|zK<|zQ<|zG<|zA 2 u<|zY 4 u<|qI 4 u u u<|qW zP5 u (cq [0])<|λr9 _ k p14 c14=>k<|zA 3 u<|zY 5 u<|
  wJ .s 4 u u u<|zA 1 u<|zK<|jA 2 u<|zR u (zG<|zV (.agg k1)<|zA 1 u<|wJ .s 2 u u u<|zA 1 u<|zK<|qC<|
  qS<|yM u (lC 2 (.agg k1) u u (lT u lN)) (λ_ k=>k none 0 none 0 none 0 none 0 none 0 none 0) [] ⟨gn,gn,gn,gn,gn,gn,d⟩
  )<|jC<|zG<|wU 4 7 u u u<|wJ .s 2 u u u<|zA 1 u<|zK<|qC<|
  yM u (lC 2 (.agg #[sv p10 r7.1 c10,sv p11 r7.2.1 c11,sv p12 r7.2.2 c12,sv p4 r1.1 c4,sv p13 r8 c13,vi r9.1.1,sv p14 r9.1.2 c14]) u u (lT u lN)) (λ_ k=>k p10 c10 p11 c11 p12 c12 p4 c4 p13 c13 p14 c14) [] (gq [2,3,4,10,1,0])
abbrev zZH:=@Cn.mk 14 0 _ @zRc
theorem zID{y0:zI}: zP qd prog 209 [.agg #[vb y0.1,vs y0.2]] [] [] (zEk y0) λr K=>K (vs r) [] [] :=
 zO call209 func209 u λX=>
 au
abbrev zZE:=@Cn.mk 209 0 _ @zID
theorem zIn{y0:Int}{y1:Int}: zP qd prog 318 [vi y0,vi y1] [] [Tb prog "internal/strconv.uint64pow10" .u64 Lib.pow10Tab] (zDQ y0 y1) λr K=>K (vs r) [] []:=lib_fmt10 Go.Proofs.Tryz.lays246 call318
abbrev zNw:=@Cn.mk 318 0 _ @zIn
theorem zRC{y0:Int}: zP qd prog 281 [vi y0] [] [Tb prog "internal/strconv.uint64pow10" .u64 Lib.pow10Tab] (zEt y0) λr K=>K (vs r) [] [] :=
 zO call281 func281 u λX=>jA 1 u<|zG<|zA 1 u<|qW zIn u (cq [0])<|λr1 _ k=>k<|zA 1 u<|zK<|qC<|qR u u kk [] d
abbrev zQs:=@Cn.mk 281 0 _ @zRC
attribute [instance] zVx zZH zZE zNw zQs
theorem zK1{y0:Int}: zP qd prog 210 [vi y0] [] [Tb prog "internal/strconv.uint64pow10" .u64 Lib.pow10Tab] (zDV y0) λr K=>K (vs r) [] [] :=
 zO call210 func210 u λX=>
 au
abbrev z1E:=@Cn.mk 210 0 _ @zK1
theorem zP2{y0:List zD}{y1:zD}: zP False prog 211 [sv p1 y0 c1,vs y1] [] [Rl wS p1 c1 y0] (zK2 y0 y1) λr K=>K (vs r) [] []:=lib_join Go.Proofs.Tryz.lays156 Go.Proofs.Tryz.Builder_Extra_156 call211
abbrev z1L:=@Cn.mk 211 0 _ @zP2
theorem zMH{y0:vE}: zP False prog 131 [.agg (zSi y0).toArray] [] [Pt (vC 4 wS) 1 0 zBE,Tb prog "internal/strconv.uint64pow10" .u64 Lib.pow10Tab] (zF2 y0) λr K=>K (vs r) [] [] :=
 zO call131 func131 u λX=>zG<|wN .s u<|λb1=>zA 1 u<|zK<|xA [] [0] 9<|qU 0 2 u u<|wV 1 0 u u u u<|jdgx 2 u (gk 0) u u<|λx1=>tZ 3 false oS u (gk 0) u<|qU 4 0 u u<|xE 5 0 2 u u u u<|qO 6<|
  qD (.f u) [] [] zID u u u d<|λr1 _ k=>k<|qM<|qO 7<|jbo (.f u) (e:=wS) 9 [vs x1,vs r1] ([x1,r1]:List zD) (rC vS (rC vS rN))<|λr_1 p1 c1=>qM<|zW 0 [8] u<|qY<|qK<|
  wF (λs1 K=>∀ p2 c2 r_2,K [1] [(1,r_2)] [2,3] [(3,sv p2 s1 c2)] [Al wS 9 r_2 p2 c2 s1]) (zG<|zY 2 u<|qI 0 u u u<|
  zA 1 u<|zK<|zR u (wQ<|zA 1 u<|zY 3 u<|qI 0 u u u<|qW zK1 u (cq [3])<|λr2 _ k=>k<|yH .s (e:=wS) 9 [vs r2] ([r2]:List zD) (rC vS rN)<|λp3 c3=>uB .s 1 1 u (gk 0) u u<|λx2 r_3 p4 c4=>
  zA 1 u<|qN<|qB (gv (λ_ k=>k p4 c4 r_3) [0,1] (gq [0,4,5])))<|vF<|qB (gv (λ_ k=>k p1 c1 r_1) [0,1] (gq [0,2,3])))<|λs1 _ k p2 c2 r_2=>k<|
  wF (λs2 K=>∀ p5 c5 r_4,K [] [(0,[]),(1,r_4)] [1,2] [(3,sv p5 s2 c5)] [Al wS 9 r_4 p5 c5 s2]) (zG<|zY 4 u<|
  qI 0 u u u<|zA 1 u<|zK<|zR u (wQ<|zA 1 u<|zY 4 u<|qI 0 u u u<|yH .s (e:=wS) 9 [vs [102,114,111,109],vs y0.2.2.2] ([[102,114,111,109],y0.2.2.2]:List zD) (rC vS (rC vS rN))<|λp6 c6=>
  uB .s 1 1 u (gk 0) u u<|λx3 r_5 p7 c7=>zA 1 u<|qN<|qB (gv (λ_ k=>k p7 c7 r_5) [900,1] (gq [0,3,4])))<|vF<|qB (gv (λ_ k=>k p2 c2 r_2) [900,1] (gq [0,1,2])))<|λs2 _ k p5 c5 r_4=>k<|zG<|zA 1 u<|
  qD .s [] [1] zP2 u u u ⟨cl 1 0,d⟩<|λr3 _ k=>k<|zA 1 u<|zK<|qC<|qR u u kk [] d
abbrev zRg:=@Cn.mk 131 0 _ @zMH
theorem zKw{y0:wW}: zP qd prog 135 [.agg (zQk y0).toArray] [] [Tb prog "internal/strconv.uint64pow10" .u64 Lib.pow10Tab] (zE5 y0) λr K=>K (vs r) [] [] :=
 zO call135 func135 u λX=>zG<|wN .s u<|λb1=>zA 1 u<|zK<|xA [] [0] 14<|qU 0 0 u u<|wV 1 0 u u u u<|tL λx1 h1=>jdv 2 u (λh=>z1d h u u h1)<|tL λx2 h2=>jdv 3 u (λh=>z1d h u u h2)<|qU 4 1 u u<|
  wV 5 0 u u u u<|qU 9 2 u u<|xE 10 0 2 u u u u<|qO 6<|qD (.f u) [] [] zK1 u u u (cq [0])<|λr1 _ k=>k<|qM<|tL λx3 h3=>jdv 7 u (λh=>z1d h u u h3)<|tL λx4 h4=>
  jdv 8 u (λh=>z1d h u u h4)<|qO 11<|qD (.f u) [] [] zID u u u d<|λr2 _ k=>k<|qM<|tL λx5 h5=>jdv 12 u (λh=>z1d h u u h5)<|zW 0 [13] u<|qY<|qK<|qC<|qR u u kk [] d
abbrev zPu:=@Cn.mk 135 0 _ @zKw
theorem zO4{y0:qH}: zP False prog 133 [.agg (zYD y0 p1 c1).toArray] [] (z1l y0 p1 c1 [Tb prog "internal/strconv.uint64pow10" .u64 Lib.pow10Tab]) (zH8 y0) λr K=>K (vs r) [] [] :=
 zO call133 func133 u λX=>zG<|wN .s u<|λb1=>zA 1 u<|zK<|zG<|zY 0 u<|qI 0 u u u<|tL λx1 h1=>jv (λh=>z1d h u u h1)<|
  jbo .s (e:=wS) 9 [vs [115,116,114,105,99,116],vs x1] ([[115,116,114,105,99,116],x1]:List zD) (rC vS (rC vS rN))<|λr_1 p2 c2=>zA 2 u<|zK<|
  wF (λs1 K=>∀ p3 c3 r_2,K [1] [(1,[]),(2,r_2)] [1,2] [(3,sv p3 s1.1 c3),(4,vs s1.2)] [Al wS 9 r_2 p3 c3 s1.1]) (
  zG<|zY 1 u<|qI 0 u u u<|zA 1 u<|zK<|zR u (tM [] [0] 9<|qU 0 0 u u<|wV 1 0 u u u u<|qU 2 2 u u<|wV 3 0 u u u u<|qO 4<|qD (.f u) [] [] zK1 u u u (cq [2])<|
  λr1 _ k=>k<|qM<|tL λx2 h2=>jdv 5 u (λh=>z1d h u u h2)<|qO 6<|jbo (.f u) (e:=wS) 9 [vs [114,117,108,101],vs y0.1,vs x2] ([[114,117,108,101],y0.1,x2]:List zD) (rC vS (rC vS (rC vS rN)))<|
  λr_3 p4 c4=>qM<|zW 0 [7,8] u<|qY<|qB (gv (λ_ k=>k p4 c4 r_3) [0,901,2] (gq [0,2,3])))<|vF<|qB (gv (λ_ k=>k p2 c2 r_1) [0,901,1] (gq [0,1,2])))<|λs1 _ k p3 c3 r_2=>k<|
  wF (λs2 K=>∀ p5 c5 r_4,K [1,4] [(2,r_4)] [1,2] [(3,sv p5 s2 c5)] [Al wS 9 r_4 p5 c5 s2]) (zG<|zY 3 u<|qI 0 u u u<|
  zA 2 u<|zK<|qA<|
  wO (λs3 K=>∀ p6 c6 r_5,K [1,4,23,24] [(2,r_5)] [1,2] [(3,sv p6 s3.1 c6),(25,vi s3.2)] [Al wS 9 r_5 p6 c6 s3.1]) (gv (λ_ k=>k p3 c3 r_2) [0,901,2] (gq [0,1,2]))<|
  λs3 _ k p6 c6 r_5=>k<|jA 1 u<|zQ<|zR u (jC<|zQ<|qA<|zG<|zA 1 u<|yD 1 u u u<|λx3 b2 o1=>yN true tA (gk 0) u<|yB .s (.agg k2)<|λb3=>zA 1 u<|wJ .s 3 u u u<|zK<|zG<|
  wU 3 2 u u u<|qW zID u d<|λr2 _ k=>k<|zA 1 u<|zK<|wF (λs4 K=>K [1,3,4,23,24,25] [(3,[])] [1,2,3] [(7,vs s4)] []) (zG<|zA 1 u<|
  zY 3 u<|qI 0 u u u<|zA 3 u<|zK<|zR u (wQ<|zA 1 u<|tL λx4 h3=>jv (λh=>z1d h u u h3)<|zA 1 u<|qN<|qB (gv kk [0,901,2,903] (gq [1,2,3])))<|vF<|qB (gv kk [0,901,2,903] (gq [1,2,3]))
  )<|λs4 _ k=>k<|wQ<|zA 2 u<|yH .s (e:=wS) 9 [vs s4] ([s4]:List zD) (rC vS rN)<|λp7 c7=>uB .s 2 1 u (gk 0) u u<|λx5 r_6 p8 c8=>zA 1 u<|qN<|wT<|qK<|jB 2 u<|
  vG (gv (λ_ k=>k p8 c8 r_6) [0,901,2] (gq [0,3,4])))<|yX<|yR<|yQ<|yV<|qB (gv (λ_ k=>k p6 c6 r_5) [0,901,2] (gq [0,1,2])))<|λs2 _ k p5 c5 r_4=>k<|zG<|zA 2 u<|zY 4 u<|wU 0 2 u u u<|qW zID u d<|
  λr3 _ k=>k<|yH .s (e:=wS) 9 [vs s1.2,vs r3] ([s1.2,r3]:List zD) (rC vS (rC vS rN))<|λp9 c9=>uB .s 2 1 u (gk 0) u u<|λx6 r_7 p10 c10=>qD .s [] [2] zP2 u u u ⟨cl 2 0,d⟩<|λr4 _ k=>k<|zA 1 u<|
  zK<|qC<|qR u u kk [] d
abbrev zUg:=@Cn.mk 133 0 _ @zO4
theorem zMi{y0:zAP}: zP qd prog 129 [pt b1 0] [bx b1 146 (zDa y0 p1 c1)] [Rl wS p1 c1 y0.1] (zAE y0) λr K=>∀ p2 c2,K (vs r.1) [bx b1 146 [sv p2 r.2.1 c2,vb r.2.2]] [Rl wS p2 c2 r.2.1] :=
 zO call129 func129 u λX=>
 au
abbrev zSP:=@Cn.mk 129 0 _ @zMi
theorem z0f{y0:zD}: zP qd prog 280 [vs y0] [] [] (zLk y0) λr K=>K (.tuple #[.agg #[vb r.1.1,vs r.1.2],vi r.2]) [] [] :=
 zO call280 func280 u λX=>hI 1 2 1 (λ(s1:zD×Bool) K=>K [2,4] [(1,.c [(0,vb s1.2)])] [] [(0,vs s1.1)] [])<|hI 1 2 0 (λ(s2:Bool) K=>K [0,2,4] [] [] [(12,vb s2)] [])<|
 au
abbrev z0l:=@Cn.mk 280 0 _ @z0f
theorem zLy{y0:zD}{y1:zD}: zP qd prog 360 [vs y0,vs y1] [] [] (zCJ y0 y1) λr K=>K (vb r) [] [] :=
 zO call360 func360 u λX=>hI 1 1 0 (λ(s1:Bool) K=>K [] [] [] [(4,vb s1)] [])<|
 au
abbrev zLs:=@Cn.mk 360 0 _ @zLy
attribute [instance] z1E z1L zRg zPu zUg zSP z0l zLs
theorem zLt{y0:zD}{y1:zD}: zP qd prog 317 [vs y0,vs y1] [] [] (zDi y0 y1) λr K=>K (.tuple #[vs r.1,vb r.2]) [] [] :=
 zO call317 func317 u λX=>
 au
abbrev zLw:=@Cn.mk 317 0 _ @zLt
attribute [instance] zLw
theorem zUb{y0:zD}{y1:zD}: zP qd prog 279 [vs y0,vs y1] [] [] (zEG y0 y1) λr K=>K (.tuple #[vs r.1,vb r.2]) [] [] :=
 zO call279 func279 u λX=>
 au
abbrev zVN:=@Cn.mk 279 0 _ @zUb
attribute [instance] zVN
theorem zQH{y0:zAP}{y1:zD}: zP qd prog 206 [pt b1 0,vs y1] [bx b1 146 (zDa y0 p1 c1)] [Rl wS p1 c1 y0.1] (zAf y0 y1) λr K=>∀ p2 c2,K (.agg #[vb r.1.1,vs r.1.2]) [bx b1 146 [sv p2 r.2.1 c2,vb r.2.2]] [Rl wS p2 c2 r.2.1] :=
 zO call206 func206 u λX=>hI 1 3 0 (λ(s1:Bool) K=>K [4,7] [(0,.c [(1,vb s1)])] [0] [] [])<|
 au
abbrev zQ0:=@Cn.mk 206 0 _ @zQH
theorem zSk{y0:zAP}{y1:zD}: zP qd prog 208 [pt b1 0,vs y1] [bx b1 146 (zDa y0 p1 c1)] [Rl wS p1 c1 y0.1] (zAS y0 y1) λr K=>∀ p2 c2,K (vs r.1) [bx b1 146 [sv p2 r.2.1 c2,vb r.2.2]] [Rl wS p2 c2 r.2.1] :=
 zO call208 func208 u λX=>hI 1 2 0 (λ(s1:Bool) K=>K [5] [(0,.c [(1,vb s1)])] [0] [] [])<|
 au
abbrev zSm:=@Cn.mk 208 0 _ @zSk
theorem zSa{y0:zAP}{y1:zD}: zP qd prog 207 [pt b1 0,vs y1] [bx b1 146 (zDa y0 p1 c1)] [Rl wS p1 c1 y0.1] (zAy y0 y1) λr K=>∀ p2 c2,K (vi r.1) [bx b1 146 [sv p2 r.2.1 c2,vb r.2.2]] [Rl wS p2 c2 r.2.1] :=
 zO call207 func207 u λX=>hI 1 2 0 (λ(s1:Bool) K=>K [0,5] [] [0] [(30,vb s1)] [])<|
 au
abbrev zSt:=@Cn.mk 207 0 _ @zSa
attribute [instance] zQ0 zSm zSt
theorem zLA{y0:zAP}{y1:Int}: zP qd prog 130 [pt b1 0,vi y1] [bx b1 146 (zDa y0 p1 c1)] [Rl wS p1 c1 y0.1] (zCH y0 y1) λr K=>∀ p2 c2,K (.agg (zSi r.1).toArray) [bx b1 146 [sv p2 r.2.1 c2,vb r.2.2]] [Rl wS p2 c2 r.2.1] :=
 zO call130 func130 u λX=>hI 1 2 1 (λ(s1:(List zD)×Bool×Int) K=>∀ p3 c3,K [0,4,5] [(0,.c [(0,sv p3 s1.1 c3),(1,vb s1.2.1)]),(2,.c [(3,vi s1.2.2)])] [] [] [Rl wS p3 c3 s1.1])<|hI 1 4 1 (λ(s2:(List zD)×Bool×zD) K=>∀ p5 c5,K [4,5] [(0,.c [(0,sv p5 s2.1 c5),(1,vb s2.2.1)]),(2,.c [(4,vs s2.2.2)])] [] [] [Rl wS p5 c5 s2.1])<|hI 1 5 0 (λ(s3:(List zD)×Bool) K=>∀ p6 c6,K [0,4,5] [(0,.c [(0,sv p6 s3.1 c6),(1,vb s3.2)])] [] [] [Rl wS p6 c6 s3.1])<|
 au
abbrev zQF:=@Cn.mk 130 0 _ @zLA
theorem zJz{y0:zAP}: zP qd prog 134 [pt b1 0] [bx b1 146 (zDa y0 p1 c1)] [Rl wS p1 c1 y0.1] (zBi y0) λr K=>∀ p2 c2,K (.agg (zQk r.1).toArray) [bx b1 146 [sv p2 r.2.1 c2,vb r.2.2]] [Rl wS p2 c2 r.2.1] :=
 zO call134 func134 u λX=>hI 1 2 0 (λ(s1:(List zD)×Bool) K=>∀ p4 c4,K [0,2,3] [(0,.c [(0,sv p4 s1.1 c4),(1,vb s1.2)])] [] [] [Rl wS p4 c4 s1.1])<|
 au
abbrev zOr:=@Cn.mk 134 0 _ @zJz
set_option maxHeartbeats 2000000 in
theorem zMr{y0:zAP}{y1:Bool}: zP qd prog 132 [pt b1 0,vb y1] [bx b1 146 (zDa y0 p1 c1)] [Rl wS p1 c1 y0.1] (zDJ y0 y1) λr K=>∀ p2 c2 p3 c3,K (.agg (zYD r.1 p2 c2).toArray) [bx b1 146 [sv p3 r.2.1 c3,vb r.2.2]] (z1l r.1 p2 c2 [Rl wS p3 c3 r.2.1]) :=
 zO call132 func132 u λX=>zG<|yB .s (.agg k3)<|λb2=>zK<|zG<|zA 1 u<|zV (.agg #[vs [],vb y1,vi 0,.slice none 0 0,vb false,vs []])<|yU qT 44<|
  yB .s (.agg k3)<|λb3=>wJ .s 3 u u u<|zK<|jA 1 u<|
  wF (λs1 K=>∀ p2 c2,K [0,4,5] [(0,bx b1 146 [sv p2 s1.2.1 c2,vb s1.2.2.1]),(3,bx b3 101 [vs s1.2.2.2.1,vb y1,vi (a4 s1),sv none ([]:List zI) 0,vb false,vs []])] [0] [(6,vs s1.1)] [Rl wS p2 c2 s1.2.1]) (
 au
)<|λs1 _ k p2 c2=>k<|
  wF (λs2 K=>∀ p6 c6 p7 c7 r_1,K [0,4,5,6] [(0,bx b1 146 [sv p6 s2.1 c6,vb s2.2.1]),(2,r_1),(3,bx b3 101 [vs s1.2.2.2.1,vb y1,vi (a4 s1),sv p7 s2.2.2 c7,vb false,vs []])] [] [] [Rl wS p6 c6 s2.1,Al qT 44 r_1 p7 c7 s2.2.2]) (
  qA<|
  wO (λs3 K=>∀ p8 c8 p9 c9 r_2,K [0,4,5,6] [(0,bx b1 146 [sv p8 s3.1 c8,vb s3.2.1]),(2,r_2),(3,bx b3 101 [vs s1.2.2.2.1,vb y1,vi (a4 s1),sv p9 s3.2.2 c9,vb false,vs []])] [] [] [Rl wS p8 c8 s3.1,Al qT 44 r_2 p9 c9 s3.2.2]) (gv (λ_ k=>k p2 c2 none 0 []) [0,1,2,3] (gq [0,1]))<|
  λs3 _ k p8 c8 p9 c9 r_2=>k<|hD 10 [8] [3] (.l [0,1,2,3] (.f 4 (.f 5 (.f 6 (.l [7] (.f 8 (.b [] [3] .e)))))))<|hP 4 6 0 (λK=>K [0,4,5,6] [] [0,1] [(32,vb ((decide (2<(len s3.1)))&&(!s3.2.1)))] [])<|hI 1 8 1 (λ(s4:zD) K=>K [0,4,5,6] [] [0,1] [(7,vs s4)] [])<|
 au
)<|hI 1 11 0 (λ(s5:(List zD)×Bool) K=>∀ p13 c13,K [0,4,5] [(0,.c [(0,sv p13 s5.1 c13),(1,vb s5.2)])] [1] [] [Rl wS p13 c13 s5.1])<|
 au
abbrev zS3:=@Cn.mk 132 0 _ @zMr
theorem zNh{y0:zAP}{y1:zM}: zP False prog 78 [pt b1 0,pt b2 0] [bx b1 146 (zDa y0 p1 c1),bx b2 29 [sv p2 y1.1 c2,sv p3 y1.2.1 c3,sv p4 y1.2.2 c4],r_1,r_2,r_3] [Rl wS p1 c1 y0.1,Al zCO 97 r_1 p2 c2 y1.1,Al xV 101 r_2 p3 c3 y1.2.1,Al zAx 103 r_3 p4 c4 y1.2.2,Pt (vC 4 wS) 1 0 zBE,Tb prog "internal/strconv.uint64pow10" .u64 Lib.pow10Tab] (zD5 y0 y1) λr K=>∀ p5 c5 p6 c6 r_4 p7 c7 r_5 p8 c8 r_6,K (.tuple #[vi r.1,vs r.2.1]) [bx b1 146 [sv p5 r.2.2.1 c5,vb r.2.2.2.1],bx b2 29 [sv p6 (a4 r).1 c6,sv p7 (a5 r).1 c7,sv p8 (a6 r) c8],r_4,r_5,r_6] [Rl wS p5 c5 r.2.2.1,Al zCO 97 r_4 p6 c6 (a4 r).1,Al xV 101 r_5 p7 c7 (a5 r).1,Al zAx 103 r_6 p8 c8 (a6 r)] :=
 zO call78 func78 u λX=>jA 2 u<|zQ<|zG<|zA 1 u<|qD .s [0] [] zMi u u u (cq [0])<|λr1 _ k p5 c5=>k<|zA 1 u<|zK<|jA 1 u<|qA<|
  wF (λs1 K=>K [0,1,6,15] [] [0,2,3,4,5,6] [(16,vb s1)] []) (jA 2 u<|zR u (vF<|qB (gv kk [0,1,2,3,4] (gq [0,2,3,4,5,6])))<|jA 2 u<|zR u (vF<|
  qB (gv kk [0,1,2,3,4] (gq [0,2,3,4,5,6])))<|jB 2 u<|qB (gv kk [0,1,2,3,4] (gq [0,2,3,4,5,6])))<|λs1 _ k=>k<|zR u (jA 1 u<|
  wF (λs2 K=>K [0,1] [] [0,1,2,3,4,5] [(7,vi s2)] []) (zG<|jlT (vs) (λ_ _ _ _ h=>h) (gk 4) u<|zA 1 u<|zK<|qA<|
  wO (λs3 K=>K [0,1,6,20] [] [0,1,2,3,4,5] [(7,vi s3.1),(21,vi s3.2)] []) (gv kk [0,1,2,3,4] (gq [0,1,2,3,4,5]))<|λs3 _ k=>k<|jA 1 u<|
  zQ<|zR u (jC<|zQ<|qA<|zG<|zA 1 u<|tL λx1 h1=>jv (λh=>r_aidx (l:=zBE) (vs) h u u u underlying201 u (by kernel_rfl) h1)<|zA 2 u<|zK<|jA 3 u<|zR u (jB 2 u<|wT<|qK<|jB 2 u<|
  vG (gv kk [0,1,2,3,4] (gq [0,1,2,3,4,5])))<|vF<|wT<|qK<|jB 2 u<|vG (gv kk [0,1,2,3,4] (gq [0,1,2,3,4,5])))<|yX<|yR<|yQ<|yV<|qB (gv kk [0,1,2,3,4] (gq [0,1,2,3,4,5])))<|λs2 _ k=>k<|zG<|
  zA 2 u<|qD .s [0] [] zLA u u u (cq [0])<|λr2 _ k p6 c6=>k<|yB .s (.agg k7)<|λb3=>wJ .s 5 u u u<|zK<|xA [10] [1,5] 11<|zW 8 [0,1,2] u<|
  qU 3 0 u u<|wV 4 1 u u u u<|xE 5 5 5 u u u u<|qO 6<|
  yH (.f u) (e:=zCO) 97 [vb r2.1.1.1,vs r2.1.1.2,vi r2.1.2.1,vi r2.1.2.2.1,vs r2.1.2.2.2] ([r2.1]:List vE) (rC (vP (vP vB vS) (vP vI (vP vI vS))) rN)<|λp7 c7=>qM<|qO 7<|uB (.f u) 2 3 u (gk 0) u u<|
  λx2 r_4 p8 c8=>qM<|zW 2 [8] u<|qU 9 0 u u<|qO 10<|wJ (o:=0) (.f u) 1 u u u<|jdb [] [1,5]<|qY<|qK<|zG<|wU 5 5 u u u<|qW zMH u (cq [7,8])<|λr3 _ k=>k<|zA 2 u<|zK<|qC<|yC<|qS<|
  yM u (lT u (lT u lN)) (λ_ k=>k p6 c6 p8 c8 r_4 p3 c3 r_2 p4 c4 r_3) [0,1,2,3,4] (gq [2,0,5,6]))<|wF (λs4 K=>K [0,1,6,15] [] [0,1,2,3,4,5] [(45,vb s4)] []) (
  jA 2 u<|zR u (vF<|qB (gv kk [0,1,2,3,4] (gq [0,1,2,3,4,5])))<|jB 2 u<|qB (gv kk [0,1,2,3,4] (gq [0,1,2,3,4,5])))<|λs4 _ k=>k<|zR u (zG<|zA 3 u<|
  qD .s [0] [] zMr u u u (cq [0])<|λr4 _ k p9 c9 p10 c10=>k<|yB .s (.agg k3)<|λb4=>wJ .s 5 u u u<|zK<|xA [10] [1,5] 11<|
  zW 8 [0,1,2] u<|qU 3 1 u u<|wV 4 1 u u u u<|xE 5 5 6 u u u u<|qO 6<|
  yH (.f u) (e:=xV) 101 [vs r4.1.1,vb r4.1.2.1,vi r4.1.2.2.1,sv p9 r4.1.2.2.2.1 c9,vb r4.1.2.2.2.2.1,vs r4.1.2.2.2.2.2] ([r4.1]:List qH) (rC (vP vS (vP vB (vP vI (vP (vL (gk 0)) (vP vB vS))))) rN)<|λp11 c11=>qM<|
  qO 7<|uB (.f u) 3 5 u (gk 0) u u<|λx3 r_5 p12 c12=>qM<|zW 2 [8] u<|qU 9 1 u u<|qO 10<|wJ (o:=1) (.f u) 1 u u u<|jdb [] [1,5]<|qY<|qK<|zG<|wU 5 6 u u u<|qW zO4 u (cq [2,9])<|
  λr5 _ k=>k<|zA 2 u<|zK<|qC<|yC<|qS<|yM u (lT u (lT u lN)) (λ_ k=>k p10 c10 p2 c2 r_1 p12 c12 r_5 p4 c4 r_3) [0,1,2,3,4] (gq [3,5,0,7]))<|jA 2 u<|zR u (zG<|zA 1 u<|
  qD .s [0] [] zJz u u u (cq [0])<|λr6 _ k p13 c13=>k<|yB .s (.agg #[vs [],vi 0,vb false,vs []])<|λb5=>wJ .s 5 u u u<|zK<|xA [10] [1,5] 11<|zW 8 [0,1,2] u<|qU 3 2 u u<|
  wV 4 1 u u u u<|xE 5 5 4 u u u u<|qO 6<|yH (.f u) (e:=zAx) 103 [vs r6.1.1,vi r6.1.2.1,vb r6.1.2.2.1,vs r6.1.2.2.2] ([r6.1]:List wW) (rC (vP vS (vP vI (vP vB vS))) rN)<|λp14 c14=>qM<|qO 7<|
  uB (.f u) 4 5 u (gk 0) u u<|λx4 r_6 p15 c15=>qM<|zW 2 [8] u<|qU 9 2 u u<|qO 10<|wJ (o:=2) (.f u) 1 u u u<|jdb [] [1,5]<|qY<|qK<|zG<|wU 5 4 u u u<|qW zKw u (cq [8])<|
  λr7 _ k=>k<|zA 2 u<|zK<|qC<|yC<|qS<|yM u (lT u (lT u lN)) (λ_ k=>k p13 c13 p2 c2 r_1 p3 c3 r_2 p15 c15 r_6) [0,1,2,3,4] (gq [2,4,5,0]))<|vF<|wT<|qK<|jA 2 u<|qC<|
  yM u (lT u (lT u lN)) (λ_ k=>k p5 c5 p2 c2 r_1 p3 c3 r_2 p4 c4 r_3) [0,1,2,3,4] (gq [0,1,2,3])
abbrev zUF:=@Cn.mk 78 0 _ @zNh
theorem zIh{y0:zD}{y1:zD}: zP qd prog 204 [vs y0,vs y1] [] [] (zEu y0 y1) λr K=>K (vi r) [] []:=z9X Go.Proofs.Tryz.lays219 call204
abbrev zNy:=@Cn.mk 204 0 _ @zIh
theorem zOo{y0:zD}{y1:zD}: zP qd prog 126 [vs y0,vs y1] [] [] (zFb y0 y1) λr K=>K (.tuple #[vs r.1,vs r.2.1,vb r.2.2]) [] [] :=
 zO call126 func126 u λX=>jA 3 u<|zQ<|zG<|zA 2 u<|qW zIh u d<|λr1 _ k=>k<|zA 1 u<|zK<|jA 2 u<|zR u (xA [] [] 12<|zW 10 [0,1] u<|tL λx1 h1=>
  jdv 2 u (λh=>z7n h u underlying9 u u (.inl ⟨rfl,rfl⟩) (.inr ⟨_,rfl⟩) h1)<|zW 4 [3,4,5,6,7] u<|tL λx2 h2=>jdv 8 u (λh=>z7n h u underlying9 u u (.inr ⟨_,rfl⟩) (.inl ⟨rfl,rfl⟩) h2)<|
  zW 0 [9,10,11] u<|qY<|qK<|qC<|qS<|yM u (lT u (lT u (lT u lN))) kk [] d)<|jC<|jA 4 u<|qC<|yM u (lT u (lT u (lT u lN))) kk [] d
abbrev zOm:=@Cn.mk 126 0 _ @zOo
attribute [instance] zQF zOr zS3 zUF zNy zOm
theorem zVb{y0:zD}{y1:zD}: zP qd prog 76 [vs y0,vs y1] [] [] (zNz y0 y1) λr K=>K (.tuple #[vs r.1,vs r.2.1,vb r.2.2]) [] [] :=
 zO call76 func76 u λX=>
 au
abbrev z2z:=@Cn.mk 76 0 _ @zVb
theorem zR9{y0:zD}: zP False prog 77 [vs y0] [] [Tb prog "strings.asciiSpace" .u8 Lib.asciiSpaceTab,Wt 2] (zKg y0) λr K=>∀ p1 c1,K (sv p1 r c1) [] [Rl wS p1 c1 r]:=z9E Go.Proofs.Tryz.lays157 (by kernel_rfl) (by kernel_rfl) (by kernel_rfl) call77
abbrev zYM:=@Cn.mk 77 0 _ @zR9
theorem zRd{y0:zD}: zP False prog 35 [vs y0] [] [Tb prog "strings.asciiSpace" .u8 Lib.asciiSpaceTab,Pt (vC 4 wS) 1 0 zBE,Wt 2,Tb prog "internal/strconv.uint64pow10" .u64 Lib.pow10Tab] (zK8 y0) λr K=>∀ p1 c1 p2 c2 p3 c3,K (.tuple #[.agg (yK r.1 p1 c1 p2 c2 p3 c3).toArray,vi r.2.1,vi r.2.2]) [] (yO r.1 p1 c1 p2 c2 p3 c3 []) :=
 zO call35 func35 u λX=>zG<|yB .s (.agg k0)<|λb1=>zA 2 u<|zK<|zQ<|jA 3 u<|zR u (zG<|zV (.agg k0)<|wJ .s 0 u u u<|zA 2 u<|zK<|qC<|qS<|
  yM u (lC 0 (.agg k0) u u (lT u (lT u lN))) (λ_ k=>k none 0 none 0 none 0) [] ⟨gn,gn,gn,d⟩)<|jC<|zG<|yB .s (.agg k0)<|
  λb2=>yU zCO 97<|yU xV 101<|yU zAx 103<|zK<|jA 1 u<|
  jjoK (λs1 K=>∀ p1 c1 r_1 p2 c2 r_2 p3 c3 r_3,K [2,5] [(1,bx b2 29 [sv p1 s1.1 c1,sv p2 s1.2.1 c2,sv p3 s1.2.2 c3]),(2,r_1),(3,r_2),(4,r_3)] [3,4,5,6] [] [Al zCO 97 r_1 p1 c1 s1.1,Al xV 101 r_2 p2 c2 s1.2.1,Al zAx 103 r_3 p3 c3 s1.2.2]) (
  jA 1 u<|qA<|
  wO (λs2 K=>∀ p4 c4 r_4 p5 c5 r_5 p6 c6 r_6,K [2,5] [(1,bx b2 29 [sv p4 s2.2.2.2.1 c4,sv p5 (a4 s2).1 c5,sv p6 (a5 s2) c6]),(2,r_4),(3,r_5),(4,r_6)] [3,4,5,6] [(0,vs s2.1),(6,vi s2.2.1),(7,vi s2.2.2.1)] [Al zCO 97 r_4 p4 c4 s2.2.2.2.1,Al xV 101 r_5 p5 c5 (a4 s2).1,Al zAx 103 r_6 p6 c6 (a5 s2)]) (gv (λ_ k=>k none 0 [] none 0 [] none 0 []) [0,1,2,3,4] (gq [2,1,0,3,4,5,6]))<|
  λs2 _ k p4 c4 r_4 p5 c5 r_5 p6 c6 r_6=>k<|zQ<|jA 2 u<|zR u (jC<|zQ<|qA<|zG<|zA 1 u<|qW zVb u d<|λr1 _ k=>k<|zA 7 u<|zK<|zG<|zA 1 u<|qW zR9 u (cq [3,5])<|λr2 _ k p7 c7=>k<|
  zV (.agg #[sv p7 r2 c7,vb false])<|wN .s u<|λb3=>zA 1 u<|zK<|zG<|zA 1 u<|qD .s [5,1,2,3,4] [] zNh u u u (cq [0,1,2,3,5,7])<|λr3 _ k p8 c8 p9 c9 r_7 p10 c10 r_8 p11 c11 r_9=>k<|zA 5 u<|zK<|
  zQ<|
  z1c (λK=>K [2,5,7,9,12] [(5,[])] [1,2,3,8,9,10,11] [(63,vb ((!r1.2.2)||(r3.2.2.2.1||((decide (0<(len r3.2.2.1)))||((!(r3.2.1==r1.1))||(decide (r3.1<s2.2.1)))))))] []) (
  wQ<|zA 3 u<|xO (b:=!r1.2.2) 40 u (λhb1=>zA 4 u<|zV (vb true)<|zA 7 u<|zV (vb true)<|zA 4 u<|zV (vb true)<|zA 4 u<|zV (vb true)<|qN<|
  yG 63 (vb ((!r1.2.2)||(r3.2.2.2.1||((decide (0<(len r3.2.2.1)))||((!(r3.2.1==r1.1))||(decide (r3.1<s2.2.1))))))) u (by rw[hb1];rfl)<|qB (gv kk [0,1,2,3,4,905] (gq [1,2,3,8,9,10,11])))<|λhb1=>zA 2 u<|
  zY 1 u<|qI 5 u u u<|zV (vb r3.2.2.2.1)<|zA 1 u<|xO (b:=r3.2.2.2.1) 46 u (λhb2=>zA 6 u<|zV (vb true)<|zA 4 u<|zV (vb true)<|zA 4 u<|zV (vb true)<|qN<|
  yG 63 (vb ((!r1.2.2)||(r3.2.2.2.1||((decide (0<(len r3.2.2.1)))||((!(r3.2.1==r1.1))||(decide (r3.1<s2.2.1))))))) u (by rw[hb1,hb2];rfl)<|qB (gv kk [0,1,2,3,4,905] (gq [1,2,3,8,9,10,11])))<|λhb2=>zA 2 u<|
  zY 0 u<|qI 5 u u u<|zA 2 u<|zV (vb (decide (0<(len r3.2.2.1))))<|zA 1 u<|xO (b:=decide (0<(len r3.2.2.1))) 54 u (λhb3=>zA 3 u<|zV (vb true)<|zA 4 u<|zV (vb true)<|qN<|
  yG 63 (vb ((!r1.2.2)||(r3.2.2.2.1||((decide (0<(len r3.2.2.1)))||((!(r3.2.1==r1.1))||(decide (r3.1<s2.2.1))))))) u (by rw[hb1,hb2,hb3];rfl)<|qB (gv kk [0,1,2,3,4,905] (gq [1,2,3,8,9,10,11])))<|λhb3=>
  zA 3 u<|zV (vb (!(r3.2.1==r1.1)))<|zA 1 u<|xO (b:=!(r3.2.1==r1.1)) 59 u (λhb4=>zA 3 u<|zV (vb true)<|qN<|
  yG 63 (vb ((!r1.2.2)||(r3.2.2.2.1||((decide (0<(len r3.2.2.1)))||((!(r3.2.1==r1.1))||(decide (r3.1<s2.2.1))))))) u (by rw[hb1,hb2,hb3,hb4];rfl)<|qB (gv kk [0,1,2,3,4,905] (gq [1,2,3,8,9,10,11])))<|λhb4=>
  zA 3 u<|zV (vb (decide (r3.1<s2.2.1)))<|qN<|yG 63 (vb ((!r1.2.2)||(r3.2.2.2.1||((decide (0<(len r3.2.2.1)))||((!(r3.2.1==r1.1))||(decide (r3.1<s2.2.1))))))) u (by rw[hb1,hb2,hb3,hb4];rfl)<|
  qB (gv kk [0,1,2,3,4,905] (gq [1,2,3,8,9,10,11])))<|λ_ k=>k<|zR u (zG<|zV (.agg k0)<|zA 1 u<|wJ .s 0 u u u<|zA 2 u<|zK<|qC<|qS<|yC<|qS<|tF<|yC<|tF<|
  yM u (lC 0 (.agg k0) u u (lT u (lT u lN))) (λ_ k=>k none 0 none 0 none 0) [] ⟨gn,gn,gn,d⟩)<|jC<|jB 4 u<|wT<|qK<|jB 3 u<|
  vG (gv (λ_ k=>k p9 c9 r_7 p10 c10 r_8 p11 c11 r_9) [0,1,2,3,4] (gq [0,1,2,3,4,5,6])))<|yX<|yR<|yQ<|yV<|vG (gv (λ_ k=>k p4 c4 r_4 p5 c5 r_5 p6 c6 r_6) [0,1,2,3,4] (gq [0,1,2,3,4,5,6])))<|λs1 _ k p1 c1 r_1 p2 c2 r_2 p3 c3 r_3=>
  k<|zQ<|zG<|wU 1 3 u u u<|qD .s [] [2,3,4] zKi u u u ⟨cl 2 0,cl 3 1,cl 4 2,d⟩<|λr4 _ k=>k<|zA 1 u<|zK<|jA 2 u<|zR u (zG<|zV (.agg k0)<|
  zA 1 u<|wJ .s 0 u u u<|zA 2 u<|zK<|qC<|qS<|yM u (lC 0 (.agg k0) u u (lT u (lT u lN))) (λ_ k=>k none 0 none 0 none 0) [] ⟨gn,gn,gn,d⟩)<|jC<|zG<|
  wU 1 3 u u u<|wJ .s 0 u u u<|zA 2 u<|zK<|qC<|uQ 2 0 u u<|uQ 3 2 u u<|uQ 4 4 u u<|
  yM u (lC 0 (.agg #[sv p1 s1.1 c1,sv p2 s1.2.1 c2,sv p3 s1.2.2 c3]) u u (lT u (lT u lN))) (λ_ k=>k p1 c1 p2 c2 p3 c3) [] (gq [2,1,0])
abbrev zZG:=@Cn.mk 35 0 _ @zRd
theorem zWS:zP False prog 11 [] [] [Tb prog "strings.asciiSpace" .u8 Lib.asciiSpaceTab,Pt (vC 4 wS) 1 0 zBE,Wt 2,Pt (vC 64 (zB .u8)) 4 0 vV,Tb prog "internal/strconv.uint64pow10" .u64 Lib.pow10Tab] (zLR) λr K=>K (vb r) [] [] :=
 zO call11 func11 u λX=>jA 1 u<|zG<|qW zRd u (cq [0,1,2,4])<|λr1 _ k p1 c1 p2 c2 p3 c3=>k<|zA 4 u<|yB .s (.agg k0)<|λb1=>wJ .s 0 u u u<|zA 2 u<|zK<|zG<|wU 0 3 u u u<|
  zV (.agg #[vi 1,vi 1])<|qW zRc u (cq [0,1,2,6])<|λr2 _ k p4 c4 p5 c5 p6 c6 p7 c7 p8 c8 p9 c9=>k<|zA 3 u<|
  yB .s (.agg k1)<|λb2=>wJ .s 1 u u u<|zA 1 u<|zK<|zG<|wU 1 7 u u u<|
  qW zGs u (cq [0,1,2,3,4,5,12])<|λr3 _ k p10 c10=>k<|zA 5 u<|zK<|zG<|wU 1 7 u u u<|qW zGs u (cq [1,2,3,4,5,6,13])<|λr4 _ k p11 c11=>k<|zA 5 u<|zK<|
  wF (λs1 K=>K [] [(0,[]),(1,[])] [11,12,13,14,15] [(0,vb s1)] []) (wQ<|zA 3 u<|uO 33 u (zA 2 u<|zV (vb (r2.2==0))<|zA 1 u<|uO 37 u (
  zA 2 u<|zV (vb (r3.2==0))<|zA 1 u<|uO 41 u (zA 3 u<|zV (vb ((len r3.1)==2))<|zA 1 u<|uO 46 u (zA 1 u<|yD 1 u u u<|λx1 b3 o1=>yN true tA (gk 0) u<|zV (.agg #[vb true,vs [113]])<|
  zV (vb (x1==(true,[113])))<|zV (vb (x1==(true,[113])))<|zA 1 u<|uO 53 u (zA 2 u<|zV (vb (r4.2==0))<|zA 1 u<|uO 57 u (zA 3 u<|zV (vb ((len r4.1)==4))<|zA 1 u<|qN<|
  qB (gv kk [900,901] (gq [12,13,14,15,16])))<|zA 3 u<|zV (vb false)<|zA 1 u<|qN<|qB (gv kk [900,901] (gq [12,13,14,15,16])))<|zA 2 u<|zV (vb false)<|zA 4 u<|zV (vb false)<|zA 1 u<|qN<|
  qB (gv kk [900,901] (gq [12,13,14,15,16])))<|zA 5 u<|zV (vb false)<|zA 3 u<|zV (vb false)<|zA 4 u<|zV (vb false)<|zA 1 u<|qN<|qB (gv kk [900,901] (gq [11,12,13,14,15])))<|zA 3 u<|zV (vb false)<|
  zA 6 u<|zV (vb false)<|zA 3 u<|zV (vb false)<|zA 4 u<|zV (vb false)<|zA 1 u<|qN<|qB (gv kk [900,901] (gq [11,12,13,14,15])))<|zA 2 u<|zV (vb false)<|zA 4 u<|zV (vb false)<|zA 6 u<|zV (vb false)<|
  zA 3 u<|zV (vb false)<|zA 4 u<|zV (vb false)<|zA 1 u<|qN<|qB (gv kk [900,901] (gq [11,12,13,14,15])))<|zA 2 u<|zV (vb false)<|zA 3 u<|zV (vb false)<|zA 4 u<|zV (vb false)<|zA 6 u<|zV (vb false)<|
  zA 3 u<|zV (vb false)<|zA 4 u<|zV (vb false)<|zA 1 u<|qN<|qB (gv kk [900,901] (gq [11,12,13,14,15])))<|λs1 _ k=>k<|qC<|qR u u kk [] d
abbrev z3J:=@Cn.mk 11 0 _ @zWS
theorem zYW:zP qd prog 15 [] [] [] (zNC) λr K=>∀ p1 c1,K (sv p1 r c1) [] [Rl zTa p1 c1 r] :=
 zO call15 func15 u λX=>
 au
abbrev zYq:=@Cn.mk 15 0 _ @zYW
theorem z1n{y0:Int}{y1:Int}: zP qd prog 52 [vi y0,vi y1] [] [] (zOA y0 y1) λr K=>K (vi r) [] [] :=
 zO call52 func52 u λX=>
 au
abbrev z9K:=@Cn.mk 52 0 _ @z1n
attribute [instance] z2z zYM zZG z3J zYq z9K
theorem zOI{y0:Int}: zP qd prog 39 [vi y0] [] [] (zGd y0) λr K=>K (vs r) [] [] :=
 zO call39 func39 u λX=>jA 1 u<|zG<|zA 1 u<|qW z1n u d<|λr1 _ k=>k<|zA 1 u<|zV (.int .u8 (IntKind.u8.wrap (zH ((97:Int)+r1))))<|
 au
abbrev z0g:=@Cn.mk 39 0 _ @zOI
theorem z1J{y0:uU}: zP qd prog 53 [pt b1 0] [bx b1 58 (zJm y0 p1 c1)] (zJs y0 p1 c1 []) (zM7 y0) λr K=>K (vi r.1) [bx b1 58 [sv p1 y0.1 c1,vi r.2]] [] :=
 zO call53 func53 u λX=>hD 1 [] [0] (.l [0,1,2,3,4,5,6,7,8,9] .e)<|hD 4 [] [0] (.l [0,1,2,3,4,5,6,7,8,9,10,11] .e)<|
 au
abbrev z1N:=@Cn.mk 53 0 _ @z1J
attribute [instance] z0g z1N
theorem zCh{y0:uU}{y1:Int}: zP qd prog 16 [pt b1 0,vi y1] [bx b1 58 (zJm y0 p1 c1)] (zJs y0 p1 c1 []) (tB y0 y1) λr K=>K (vi r.1) [bx b1 58 [sv p1 y0.1 c1,vi r.2]] [] :=
 zO call16 func16 u λX=>
 au
abbrev z4X:=@Cn.mk 16 0 _ @zCh
attribute [instance] z4X
theorem zIo{y0:uU}{y1:Int}: zP qd prog 36 [pt b1 0,vi y1] [bx b1 58 (zJm y0 p1 c1)] (zJs y0 p1 c1 []) (zD3 y0 y1) λr K=>K (.agg #[vb r.1.1,vs r.1.2]) [bx b1 58 [sv p1 y0.1 c1,vi r.2]] [] :=
 zO call36 func36 u λX=>zG<|yB .s (.agg k2)<|λb2=>zK<|zG<|zA 3 u<|qD .s [0] [] zCh u u u (cq [0])<|λr1 _ k=>k<|zA 1 u<|zK<|zG<|zA 4 u<|tL λx1 h1=>jv (λh=>r_quoK h u u h1)<|zA 1 u<|
  zV (.int .u8 (IntKind.u8.wrap (zH ((97:Int)+x1))))<|
 au
abbrev zV1:=@Cn.mk 36 0 _ @zIo
attribute [instance] zV1
theorem zON{y0:uU}{y1:Int}{y2:Int}: zP qd prog 41 [pt b1 0,vi y1,vi y2] [bx b1 58 (zJm y0 p1 c1)] (zJs y0 p1 c1 []) (zHp y0 y1 y2) λr K=>∀ p2 c2,K (sv p2 r.1 c2) [bx b1 58 [sv p1 y0.1 c1,vi r.2]] [Rl qT p2 c2 r.1] :=
 zO call41 func41 u λX=>hR 7 1 qT 44<|hI 0 3 2 (λ(s1:(List zI)×Int×Int) K=>∀ p2 c2 r_1,K [0,2] [(0,.c [(1,vi s1.2.2)]),(1,.r r_1)] [1] [(7,sv p2 s1.1 c2),(8,vi s1.2.1)] [Al qT 44 r_1 p2 c2 s1.1])<|
 au
abbrev zUl:=@Cn.mk 41 0 _ @zON
theorem zTB{y0:uU}{y1:List Int}: zP qd prog 37 [pt b1 0,sv p2 y1 c2] [bx b1 58 (zJm y0 p1 c1)] (zJs y0 p1 c1 [Rl (zB .i64) p2 c2 y1]) (zLe y0 y1) λr K=>K (vi r.1) [bx b1 58 [sv p1 y0.1 c1,vi r.2]] [] :=
 zO call37 func37 u λX=>
 au
abbrev zZX:=@Cn.mk 37 0 _ @zTB
theorem zSu{y0:uU}{y1:List zD}: zP qd prog 38 [pt b1 0,sv p2 y1 c2] [bx b1 58 (zJm y0 p1 c1)] (zJs y0 p1 c1 [Rl wS p2 c2 y1]) (zL0 y0 y1) λr K=>K (vs r.1) [bx b1 58 [sv p1 y0.1 c1,vi r.2]] [] :=
 zO call38 func38 u λX=>
 au
abbrev z0i:=@Cn.mk 38 0 _ @zSu
theorem zVh{y0:List zI}: zP qd prog 40 [sv p1 y0 c1] [] [Rl qT p1 c1 y0] (zNs y0) λr K=>∀ p2 c2,K (sv p2 r c2) [] [Rl qT p2 c2 r] :=
 zO call40 func40 u λX=>jA 1 u<|zG<|zA 1 u<|yU qT 44 <|zK<|zQ<|jA 3 u<|qA<|
  wO (λs1 K=>∀ p2 c2 r_1,K [7,8] [(0,r_1)] [1] [(3,sv p2 s1.1 c2),(9,vi s1.2)] [Al qT 44 r_1 p2 c2 s1.1]) (gv (λ_ k=>k none 0 []) [0] (gq [0,1]))<|
  λs1 _ k p2 c2 r_1=>k<|jA 1 u<|zQ<|zR u (jC<|zQ<|qA<|zG<|yD 1 u u u<|λx1 b1 o1=>yN true tA (gk 0) u<|yB .s (.agg k2)<|λb2=>wJ .s 1 u u u<|zK<|jA 1 u<|
  wF (λs2 K=>K [3,5,7,8,9] [] [1,2] [(6,vi s2)] []) (qA<|
  wO (λs3 K=>K [3,5,7,8,9] [] [1,2] [(6,vi s3)] []) (gv kk [0,1] (gq [1,2]))<|λs3 _ k=>k<|zQ<|
  wF (λs4 K=>K [3,5,6,7,8,9] [] [0,1] [(48,vb s4)] []) (tM [] [0,1] 36<|zW 31 [0,1,2,3,4] u<|uO 17 u (zW 29 [5,6] u<|jdI 7 0 u u u u<|
  λx2 h1 b3 o2 hp1=>qU 8 1 u u<|tU 9 0 0 sI.snd false oS u u hp1 h1 u<|qU 10 1 u u<|wV 11 1 u u u u<|zW 22 [12,13] u<|uO 26 u (zW 2 [14,15,16,17,18,19,20,21,22,23,24,25,26,27,28,29,30,31,32,33] u<|
  vK 34 (vb true) u<|vK 35 (vb true) u<|qY<|
 au
)<|zW 20 [14,15] u<|jdI 16 0 u u u u<|λx3 h2 b4 o3 hp2=>qU 17 1 u u<|tU 18 0 0 sI.snd false oS u u hp2 h2 u<|qU 19 1 u u<|
  wV 20 1 u u u u<|zW 13 [21,22] u<|uO 35 u (zW 11 [23,24] u<|jdI 25 0 u u u u<|λx4 h3 b5 o4 hp3=>qU 26 0 u u<|tU 27 0 0 sI.fst false oB u u hp3 h3 u<|zW 7 [28] u<|vK 29 (vb (!x4.1)) u<|
  zW 5 [30] u<|uO 43 u (qU 31 0 u u<|wV 32 1 u u u u<|vK 33 (vb x1.1) u<|vK 34 (vb x1.1) u<|vK 35 (vb x1.1) u<|qY<|
 au
)<|zW 3 [31,32] u<|vK 33 (vb false) u<|
  vK 34 (vb false) u<|vK 35 (vb false) u<|qY<|
 au
)<|zW 7 [23,24,25,26,27,28] u<|vK 29 (vb false) u<|zW 3 [30,31,32] u<|vK 33 (vb false) u<|vK 34 (vb false) u<|vK 35 (vb false) u<|
  qY<|
 au
)<|zW 1 [5,6,7,8,9,10,11,12,13,14,15,16,17,18,19,20,21,22,23,24,25,26,27,28,29,30,31,32,33,34] u<|vK 35 (vb false) u<|qY<|
 au
)<|
 au
)<|λs2 _ k=>k<|zQ<|
  wF (λs5 K=>K [3,5,6,7,8,9] [] [0,1] [(62,vb s5)] []) (tM [] [0,1] 12<|zW 7 [0,1,2,3,4] u<|uO 55 u (zW 5 [5,6] u<|jdI 7 0 u u u u<|
  λx5 h4 b6 o5 hp4=>tU 8 0 0 sI true tA u u hp4 h4 u<|xE 9 1 2 u u u u<|vK 10 (vb (x5==x1)) u<|vK 11 (vb (x5==x1)) u<|qY<|
 au
)<|zW 1 [5,6,7,8,9,10] u<|
  vK 11 (vb false) u<|qY<|
 au
)<|λs5 _ k=>k<|zR u (
 au
)<|jC<|zG<|zA 1 u<|zV (.agg k2)<|
  yH .s (e:=qT) 44 [vb false,vs []] ([(false,[])]:List zI) (rC (vP vB vS) rN)<|λp3 c3=>uB .s 0 1 u (gk 0) u u<|λx6 r_2 p4 c4=>zA 1 u<|zK<|xA [] [] 8<|zW 5 [0,1,2] u<|
  jdV 3 0 u u u u<|λu1 p5 c5 f1=>zW 2 [4,5] u<|jdV 6 0 u u u u<|λu2 p6 c6 f2=>qO 7<|jcp (.f u) 0 0 u (vwV f1) (srV 0 0 f2 u) u u<|λr_3=>qM<|qY<|qK<|wQ<|zA 2 u<|wU 1 2 u u u<|
  jia 0 u u u<|λx7 h6 b7 o6 hp5=>jsA .s 0 0 sI x1 true u hp5 h6 u u (vP vB vS)<|λr_4=>qN<|wT<|qK<|jB 2 u<|jrE 0 3 u u<|
 au
)<|
 au
abbrev z3e:=@Cn.mk 40 0 _ @zVh
end Go.Proofs.YtgjdojihimkgcaaGreatDoor
