/- A part. Conditions: none. -/
import Derived.Test.YtgjdojihimkgcaaGreatDoorWalk6
namespace Go.Proofs.YtgjdojihimkgcaaGreatDoor
open Go Go.GD Go.Proofs.Tryz
set_option autoImplicit false
set_option linter.unusedVariables false
set_option maxRecDepth 100000
set_option linter.defProp false
variable {qd:Prop}
variable {yl1:Nat}{p1 p2 p3 p4 p5 p6 p7 p8 p9:Option Addr}{c1 c2 c3 c4 c5 c6 c7 c8 c9:Nat}{b1 b2 b3 b4 b5 b6 b7 b8 b9 b10 b11:Nat}{r_1 r_2 r_3 r_4 r_5 r_6 r_7 r_8:zJ}
theorem zMB{y0:uI}: wR qd prog 71 [pt b1 0] [bx b1 136 [sv p1 y0.1 c1,sv p2 y0.2.1 c2,.map (some b2),sv p3 y0.2.2.2.1 c3,vi (a4 y0).1,vb (a5 y0)],r_1] [Rl (zB .i64) p1 c1 y0.1,Rl (zT (zB .i64)) p2 c2 y0.2.1,Ma (λx:zD=>vs x) (λx:Int=>vi x) r_1 b2 y0.2.2.1,Rl xD p3 c3 y0.2.2.2.1] (zFZ y0) λL r K=>∀ p4 c4,K (sv p4 r c4) L [Rl zNu p4 c4 r] :=
 zO call71 func71 u λX=>hR 3 2 zNu 4<|hI 0 3 1 (λ(s1:(List Bool)×Int) K=>∀ p4 c4 r_2,K [9,10] [(2,.r r_2)] [1,2,3,4] [(3,sv p4 s1.1 c4),(11,vi s1.2)] [Al zNu 4 r_2 p4 c4 s1.1])<|
 au
abbrev zRj:=@Cn.mk 71 0 _ @zMB
theorem z3L{y0:Int}{y1:List (List Int)}: zP False prog 29 [vi y0,sv p1 y1 c1] [] [Rl (zT (zB .i64)) p1 c1 y1,Tb prog "internal/strconv.uint64pow10" .u64 Lib.pow10Tab] (zLg y0 y1) λr K=>∀ p2 c2 p3 c3,K (.tuple #[.agg (z7q r.1 p2 c2 p3 c3).toArray,vi r.2]) [] (z7p r.1 p2 c2 p3 c3 []) :=
 zO call29 func29 u λX=>zG<|yB .s (.agg k4)<|λb1=>zA 1 u<|zK<|zQ<|zG<|zA 2 u<|qW zNP u (cq [0])<|λr1 _ k=>k<|zA 1 u<|zK<|jA 2 u<|zR u (zG<|
  zV (.agg k4)<|zA 1 u<|wJ .s 0 u u u<|zA 1 u<|zK<|qC<|qS<|
  yM u (lC 0 (.agg k4) u u (lT u lN)) (λ_ k=>k none 0 none 0) [] ⟨gn,gn,d⟩)<|jC<|jjoK (λs1 K=>K [0,1,4] [] [0,1] [] []) (jA 3 u<|qA<|
  wO (λs2 K=>K [0,1,4,18,19] [] [0,1] [(20,vi s2)] []) (gv kk [0] (gq [0,1]))<|λs2 _ k=>k<|jA 1 u<|zQ<|zR u (jC<|zQ<|qA<|zG<|yD 0 u u u<|λx1 b2 o1=>
  yN false oL (gk 0) u<|λp2 c2=>zA 1 u<|zK<|jA 3 u<|zR u (zG<|zV (.agg k4)<|wJ .s 0 u u u<|zA 1 u<|zK<|qC<|yC<|qS<|tF<|yC<|tF<|
  yM u (lC 0 (.agg k4) u u (lT u lN)) (λ_ k=>k none 0 none 0) [] ⟨gn,gn,d⟩)<|vF<|wT<|qK<|jB 2 u<|vG (gv kk [0] (gq [2,3])))<|yX<|yR<|yQ<|yV<|
  vG (gv kk [0] (gq [0,1])))<|λs1 _ k=>k<|
  wF (λs3 K=>∀ b3 p3 c3 r_1 p4 c4 r_2 b4 r_3 p5 c5 r_4,K [4] [(1,bx b3 136 [sv p3 s3.1 c3,sv p4 s3.2.1 c4,.map (some b4),sv p5 s3.2.2.2.1 c5,vi (a4 s3).1,vb (a5 s3)]),(2,r_1),(3,r_2),(4,r_3),(5,r_4)] [1] [(9,pt b3 0)] [Al (zB .i64) 3 r_1 p3 c3 s3.1,Al (zT (zB .i64)) 22 r_2 p4 c4 s3.2.1,Ma (λx:zD=>vs x) (λx:Int=>vi x) r_3 b4 s3.2.2.1,Al xD 248 r_4 p5 c5 s3.2.2.2.1]) (
  tM [] [] 8<|zW 6 [0,2] u<|jd3 1 3 4 (jmk (.f u) (e:=zB .i64) 3 (0:Int) (vi 0) vI u u<|λx2 r_5 p6 c6=>qM<|jd2 3 4 (qD (.f u) [] [] zCc u u u (cq [1])<|λr2 _ k p7 c7 r_6=>k<|
  qM<|qO 4<|jmm (.f u) (λx:zD=>vs x) (λx:Int=>vi x) Tryz.key134 u (.inl u)<|λb5 r_7=>qM<|vK 5 (.agg #[sv p6 x2 c6,sv p7 r2 c7,.map (some b5),.slice none 0 0,vi 0,vb false]) u<|yU xD 248<|qO 6<|
  wN (.f u) u<|λb6=>qM<|zW 0 [7] u<|qY<|qB (gv (λ_ k=>k b6 p6 c6 r_5 p7 c7 r_6 b5 r_7 none 0 []) [0,5,1,2,3,4] (gq [3,2,1,0,5]))) <|jmm (.f u) (λx:zD=>vs x) (λx:Int=>vi x) Tryz.key134 u (.inl u)<|
  λb7 r_8=>qM<|qO 3<|qD (.f u) [] [] zCc u u u (cq [2])<|λr3 _ k p8 c8 r_9=>k<|qM<|vK 5 (.agg #[sv p6 x2 c6,sv p8 r3 c8,.map (some b7),.slice none 0 0,vi 0,vb false]) u<|yU xD 248<|qO 6<|
  wN (.f u) u<|λb8=>qM<|zW 0 [7] u<|qY<|qB (gv (λ_ k=>k b8 p6 c6 r_5 p8 c8 r_9 b7 r_8 none 0 []) [0,5,1,3,2,4] (gq [3,1,2,0,5]))) (jcm<|qD (.f u) [] [] zCc u u u (cq [0])<|λr4 _ k p9 c9 r_10=>k<|
  qM<|jd2 1 4 (jmk (.f u) (e:=zB .i64) 3 (0:Int) (vi 0) vI u u<|λx3 r_11 p10 c10=>qM<|qO 4<|jmm (.f u) (λx:zD=>vs x) (λx:Int=>vi x) Tryz.key134 u (.inl u)<|λb9 r_12=>qM<|
  vK 5 (.agg #[sv p10 x3 c10,sv p9 r4 c9,.map (some b9),.slice none 0 0,vi 0,vb false]) u<|yU xD 248<|qO 6<|wN (.f u) u<|λb10=>qM<|zW 0 [7] u<|qY<|
  qB (gv (λ_ k=>k b10 p10 c10 r_11 p9 c9 r_10 b9 r_12 none 0 []) [0,5,2,1,3,4] (gq [2,3,1,0,5]))) <|jmm (.f u) (λx:zD=>vs x) (λx:Int=>vi x) Tryz.key134 u (.inl u)<|λb11 r_13=>qM<|qO 1<|
  jmk (.f u) (e:=zB .i64) 3 (0:Int) (vi 0) vI u u<|λx4 r_14 p11 c11=>qM<|vK 5 (.agg #[sv p11 x4 c11,sv p9 r4 c9,.map (some b11),.slice none 0 0,vi 0,vb false]) u<|yU xD 248<|qO 6<|wN (.f u) u<|λb12=>qM<|
  zW 0 [7] u<|qY<|qB (gv (λ_ k=>k b12 p11 c11 r_14 p9 c9 r_10 b11 r_13 none 0 []) [0,5,3,1,2,4] (gq [1,3,2,0,5]))) <|jmm (.f u) (λx:zD=>vs x) (λx:Int=>vi x) Tryz.key134 u (.inl u)<|λb13 r_15=>qM<|jd2 1 3 (
  jmk (.f u) (e:=zB .i64) 3 (0:Int) (vi 0) vI u u<|λx5 r_16 p12 c12=>qM<|qO 3<|qD (.f u) [] [] zCc u u u (cq [2])<|λr5 _ k p13 c13 r_17=>k<|qM<|
  vK 5 (.agg #[sv p12 x5 c12,sv p13 r5 c13,.map (some b13),.slice none 0 0,vi 0,vb false]) u<|yU xD 248<|qO 6<|wN (.f u) u<|λb14=>qM<|zW 0 [7] u<|qY<|
  qB (gv (λ_ k=>k b14 p12 c12 r_16 p13 c13 r_17 b13 r_15 none 0 []) [0,5,2,3,1,4] (gq [2,1,3,0,5]))) <|jcm<|qD (.f u) [] [] zCc u u u (cq [1])<|λr6 _ k p14 c14 r_18=>k<|qM<|qO 1<|
  jmk (.f u) (e:=zB .i64) 3 (0:Int) (vi 0) vI u u<|λx6 r_19 p15 c15=>qM<|vK 5 (.agg #[sv p15 x6 c15,sv p14 r6 c14,.map (some b13),.slice none 0 0,vi 0,vb false]) u<|yU xD 248<|qO 6<|wN (.f u) u<|λb15=>
  qM<|zW 0 [7] u<|qY<|qB (gv (λ_ k=>k b15 p15 c15 r_19 p14 c14 r_18 b13 r_15 none 0 []) [0,5,3,2,1,4] (gq [1,2,3,0,5])))<|λs3 _ k b3 p3 c3 r_1 p4 c4 r_2 b4 r_3 p5 c5 r_4=>k<|zG<|zA 1 u<|
  qD .s [1,2,3,4,5] [] zMq u u u (cq [0,1,2,3,4])<|λr7 _ k p16 c16 r_20 p17 c17 r_21 b16 r_22 p18 c18 r_23=>k<|zA 1 u<|zK<|zQ<|qA<|zG<|zA 2 u<|zY 5 u<|qI 1 u u u<|zA 1 u<|zK<|zR u (
  zG<|zV (.agg k4)<|wJ .s 0 u u u<|zA 1 u<|zK<|qC<|yC<|qS<|
  yM u (lC 0 (.agg k4) u u (lT u lN)) (λ_ k=>k none 0 none 0) [] ⟨gn,gn,d⟩)<|jA 3 u<|zR u (zG<|zA 1 u<|uQ 2 0 u u<|uQ 3 2 u u<|uQ 5 5 u u<|
  qD .s [1,4] [] zMB u u u (cq [2,1,5,0])<|λr8 _ k p19 c19=>k<|zV (.agg #[vb true,sv p19 r8 c19,.slice none 0 0])<|wJ .s 0 u u u<|zA 1 u<|zK<|qC<|yC<|qS<|
  yM u (lC 0 (.agg #[vb true,sv p19 r8 c19,.slice none 0 0]) u u (lT u lN)) (λ_ k=>k p19 c19 none 0) [] ⟨gk 0,gn,d⟩)<|vF<|wT<|qK<|zG<|zA 2 u<|zY 3 u<|qI 1 u u u<|
  zV (.agg #[vb false,.slice none 0 0,sv p18 (a4 r7).1 c18])<|wJ .s 0 u u u<|zA 1 u<|zK<|qC<|uQ 5 3 u u<|
  yM u (lC 0 (.agg #[vb false,.slice none 0 0,sv p18 (a4 r7).1 c18]) u u (lT u lN)) (λ_ k=>k none 0 p18 c18) [] ⟨gn,gk 0,d⟩
abbrev z27:=@Cn.mk 29 0 _ @z3L
theorem zYv{y0:Int}{y1:List Bool}: zP qd prog 30 [vi y0,sv p1 y1 c1] [] [Rl zNu p1 c1 y1] (zKb y0 y1) λr K=>∀ p2 c2,K (sv p2 r c2) [] [Rl (zB .i64) p2 c2 r] :=
 zO call30 func30 u λX=>hR 5 0 (zB .i64) 3<|hI 0 3 1 (λ(s1:(List Int)×Int) K=>∀ p2 c2 r_1,K [0,1,7] [(0,.r r_1)] [1] [(5,sv p2 s1.1 c2),(8,vi s1.2)] [Al (zB .i64) 3 r_1 p2 c2 s1.1])<|
 au
abbrev zYe:=@Cn.mk 30 0 _ @zYv
attribute [instance] zRx zS6 zTo zMy zMG zRj z27 zYe
theorem zN5{y0:qE}{y1:Int}{y2:Int}: zP False prog 7 [.agg (vQ y0 p1 c1).toArray,vi y1,vi y2] [] [Rl wE p1 c1 y0.2,Pt (vC 64 (zB .u8)) 4 0 vV,Tb prog "internal/strconv.uint64pow10" .u64 Lib.pow10Tab] (zEh y0 y1 y2) λr K=>∀ p2 c2 p3 c3 p4 c4,K (.tuple #[.agg (zSn r.1 p2 c2 p3 c3 p4 c4).toArray,vi r.2]) [] (zSV r.1 p2 c2 p3 c3 p4 c4 []) :=
 zO call7 func7 u λX=>hD 6 [] [0] (.l [0,1,2,3,4,5,6] (.f 7 (.l [8] (.f 9 (.l [10] .e)))))<|
 au
abbrev i_verdict_Decide:=@Cn.mk 7 0 _ @zN5
theorem zPo{y0:List Int}: zP False prog 3 [sv p1 y0 c1] [] [Rl (zB .i64) p1 c1 y0,Tb prog "strings.asciiSpace" .u8 Lib.asciiSpaceTab,Pt (vC 4 wS) 1 0 zBE,Wt 2,Pt (vC 64 (zB .u8)) 4 0 vV,Tb prog "internal/strconv.uint64pow10" .u64 Lib.pow10Tab] (zJj y0) λr K=>K (vb r) [] [] :=
 zO call3 func3 u λX=>jA 1 u<|zG<|zA 1 u<|qW z2N u (cq [0])<|λr1 _ k b1 p2 c2=>k<|zA 1 u<|zK<|zG<|zA 1 u<|qD .s [0] [] zUM u u u (cq [0,5])<|λr2 _ k p3 c3 p4 c4 p5 c5 p6 c6 p7 c7 p8 c8=>k<|zA 3 u<|
  yB .s (.agg k1)<|λb2=>wJ .s 1 u u u<|zA 1 u<|zK<|zQ<|jA 2 u<|zR u (jA 1 u<|qC<|qS<|
  qR u u kk [] d)<|jC<|zG<|wU 1 7 u u u<|qW zGs u (cq [0,1,2,3,4,5,11])<|λr3 _ k p9 c9=>k<|zA 5 u<|zK<|zG<|wU 1 7 u u u<|qW zGs u (cq [1,2,3,4,5,6,12])<|
  λr4 _ k p10 c10=>k<|zA 5 u<|zK<|zQ<|
  z1c (λK=>K [4,6,8] [(0,[])] [1,0,2,3,4,5,6,7,10,11,12,13,14] [(42,vb ((r3.2 != 0)||(r4.2 != 0)))] []) (wQ<|zA 3 u<|
  xO (b:=r3.2 != 0) 39 u (λhb1=>zA 2 u<|zV (vb true)<|qN<|yG 42 (vb ((r3.2 != 0)||(r4.2 != 0))) u (by rw[hb1];rfl)<|qB (gv kk [900,1] (gq [1,0,2,3,4,5,6,7,10,11,12,13,14])))<|λhb1=>zA 2 u<|
  zV (vb (r4.2 != 0))<|qN<|yG 42 (vb ((r3.2 != 0)||(r4.2 != 0))) u (by rw[hb1];rfl)<|qB (gv kk [900,1] (gq [1,0,2,3,4,5,6,7,10,11,12,13,14])))<|λ_ k=>k<|zR u (jA 1 u<|qC<|qS<|qR u u kk [] d)<|jC<|
  zG<|zA 1 u<|yU qT 44<|zA 1 u<|yU qT 44 <|zK<|
  jjoK (λs1 K=>∀ p11 c11 r_1 p12 c12 r_2,K [6,8] [(1,[]),(2,r_1),(3,r_2)] [2,3,10,11,12,13,14] [(10,sv p11 s1.1 c11),(11,sv p12 s1.2 c12)] [Al qT 44 r_1 p11 c11 s1.1,Al qT 44 r_2 p12 c12 s1.2]) (
  zG<|zY 3 u<|qI 1 u u u<|zA 2 u<|zK<|qA<|
  wO (λs2 K=>∀ p13 c13 r_3 p14 c14 r_4,K [4,6,8,44,45] [(2,r_3),(3,r_4)] [2,3,7,4,5,6,8,9,10,11,12,13,14] [(10,sv p13 s2.1 c13),(11,sv p14 s2.2.1 c14),(46,vi s2.2.2)] [Al qT 44 r_3 p13 c13 s2.1,Al qT 44 r_4 p14 c14 s2.2.1]) (gv (λ_ k=>k none 0 [] none 0 []) [900,1,2,3] (gq [1,0,2,3,7,4,5,6,8,9,10,11,12,13,14]))<|
  λs2 _ k p13 c13 r_3 p14 c14 r_4=>k<|jA 1 u<|zQ<|zR u (jC<|zQ<|qA<|zG<|zA 1 u<|yD 4 u u u<|λx1 b3 o1=>yN true zT7 (gk 0) u<|λp15 c15=>yB .s (.agg k6)<|
  λb4=>zA 1 u<|wJ .s 4 u u u<|zK<|zG<|zY 5 u<|wU 1 2 u u u<|zA 1 u<|qW zN5 u (cq [11,15,16])<|λr5 _ k p16 c16 p17 c17 p18 c18=>k<|zA 3 u<|
  yB .s (.agg k9)<|λb5=>wJ .s 5 u u u<|zA 1 u<|zK<|zG<|zY 5 u<|wU 1 2 u u u<|zA 1 u<|qW zN5 u (cq [14,18,19])<|
  λr6 _ k p19 c19 p20 c20 p21 c21=>k<|zA 3 u<|yB .s (.agg k9)<|λb6=>wJ .s 6 u u u<|zA 1 u<|zK<|zQ<|
  wF (λs3 K=>K [4,6,8,10,11,13,14,16,44,45,46] [] [10,11,8,9,12,13,14,15,16,17,6,3,4,5,0,1,2,18,19,20,21,22] [(95,vb s3)] []) (
  wQ<|zA 3 u<|uO 67 u (zA 2 u<|zV (vb true)<|zA 7 u<|zV (vb true)<|zA 7 u<|zV (vb true)<|zA 8 u<|zV (vb true)<|qN<|qB (gv kk [900,1,2,3,4,5,6] (gq [10,11,8,9,12,13,14,15,16,17,6,3,4,5,0,1,2,18,19,20,21,22]))
  )<|zA 2 u<|zV (vb (r6.2 != 0))<|zA 1 u<|uO 71 u (zA 6 u<|zV (vb true)<|zA 7 u<|zV (vb true)<|zA 8 u<|zV (vb true)<|qN<|
  qB (gv kk [900,1,2,3,4,5,6] (gq [10,11,8,9,12,13,14,15,16,17,6,3,4,5,0,1,2,18,19,20,21,22])))<|zY 5 u<|wU 1 2 u u u<|zA 1 u<|wU 5 4 u u u<|qW zOd u (cq [17,3,4,5,21])<|λr7 _ k=>k<|zA 1 u<|
  zV (vb (r7 != 0))<|zA 1 u<|uO 79 u (zA 6 u<|zV (vb true)<|zA 8 u<|zV (vb true)<|qN<|qB (gv kk [900,1,2,3,4,5,6] (gq [10,11,8,9,12,13,14,15,16,17,6,3,4,5,0,1,2,18,19,20,21,22])))<|zY 5 u<|wU 1 2 u u u<|
  zA 1 u<|wU 6 4 u u u<|qW zOd u (cq [17,0,1,2,21])<|λr8 _ k=>k<|zA 1 u<|zV (vb (r8 != 0))<|zA 1 u<|uO 87 u (zA 7 u<|zV (vb true)<|qN<|
  qB (gv kk [900,1,2,3,4,5,6] (gq [10,11,8,9,12,13,14,15,16,17,6,3,4,5,0,1,2,18,19,20,21,22])))<|zY 0 u<|qI 5 u u u<|zA 1 u<|uO 90 u (zY 0 u<|qI 6 u u u<|zA 1 u<|zV (vb (!r6.1.1))<|zV (vb (!r6.1.1))<|
  qN<|qB (gv kk [900,1,2,3,4,5,6] (gq [10,11,8,9,12,13,14,15,16,17,6,3,4,5,0,1,2,18,19,20,21,22])))<|zA 3 u<|zV (vb false)<|zV (vb false)<|qN<|
  qB (gv kk [900,1,2,3,4,5,6] (gq [10,11,8,9,12,13,14,15,16,17,6,3,4,5,0,1,2,18,19,20,21,22])))<|λs3 _ k=>k<|zR u (jA 1 u<|qC<|qS<|yC<|qS<|tF<|yC<|tF<|qR u u kk [] d)<|jC<|
  wF (λs4 K=>∀ p22 c22 r_5,K [4,6,8,11,13,16,44,45,46] [(2,r_5),(5,[])] [0,1,3,4,5,6,7,8,9,10,14,15,16,17,18,19,20,21] [(10,sv p22 s4 c22)] [Al qT 44 r_5 p22 c22 s4]) (
  zG<|zY 0 u<|qI 5 u u u<|zK<|zR u (wQ<|zA 1 u<|zY 3 u<|wU 4 2 u u u<|yH .s (e:=qT) 44 [vb x1.2.2.2.1,vs (a4 x1)] ([x1.2.2.2]:List zI) (rC (vP vB vS) rN)<|λp23 c23=>
  uB .s 2 3 u (gk 0) u u<|λx2 r_6 p24 c24=>zA 1 u<|qN<|qB (gv (λ_ k=>k p24 c24 r_6) [900,1,2,3,4,905,6] (gq [0,2,3,5,6,7,8,9,10,11,12,16,17,18,19,20,21,22,23])))<|vF<|
  qB (gv (λ_ k=>k p13 c13 r_3) [900,1,2,3,4,905,6] (gq [2,0,1,3,4,5,6,7,8,9,10,14,15,16,17,18,19,20,21])))<|λs4 _ k p22 c22 r_5=>k<|zG<|zY 0 u<|qI 6 u u u<|zK<|zR u (wQ<|zA 1 u<|zY 3 u<|wU 4 2 u u u<|
  yH .s (e:=qT) 44 [vb x1.2.2.2.1,vs (a4 x1)] ([x1.2.2.2]:List zI) (rC (vP vB vS) rN)<|λp25 c25=>uB .s 3 4 u (gk 0) u u<|λx3 r_7 p26 c26=>zA 1 u<|qN<|wT<|qK<|jB 2 u<|
  vG (gv (λ_ k=>k p22 c22 r_5 p26 c26 r_7) [900,1,2,3] (gq [2,0,3,4,6,7,8,9,10,11,16,17,18,19,20])))<|vF<|wT<|qK<|jB 2 u<|vG (gv (λ_ k=>k p22 c22 r_5 p14 c14 r_4) [900,1,2,3] (gq [0,3,1,2,4,5,6,7,8,9,14,15,16,17,18])))<|yX<|
  yR<|yQ<|yV<|vG (gv (λ_ k=>k p13 c13 r_3 p14 c14 r_4) [900,901,2,3] (gq [0,1,2,3,10,11,12,13,14])))<|λs1 _ k p11 c11 r_1 p12 c12 r_2=>k<|
  wF (λs5 K=>K [] [(2,[]),(3,[])] [4,5,6,7,8] [(2,vb s5)] []) (wQ<|zA 1 u<|uQ 2 0 u u<|qW zP1 u (cq [0])<|λr9 _ k p27 c27=>k<|
  zA 1 u<|qW zSR u (cq [0,4])<|λr10 _ k=>k<|zA 1 u<|uO 115 u (zA 1 u<|uQ 3 3 u u<|qW zP1 u (cq [0])<|λr11 _ k p28 c28=>k<|zA 1 u<|qW zSR u (cq [0,7])<|λr12 _ k=>k<|
  zV (vb r12)<|zA 1 u<|uO 121 u (qW zWS u (cq [8,9,10,11,12])<|λr13 _ k=>k<|zV (vb r13)<|zA 1 u<|qN<|qB (gv kk [900,901,902,903] (gq [8,9,10,11,12])))<|zA 1 u<|zV (vb false)<|zA 1 u<|qN<|
  qB (gv kk [900,901,902,903] (gq [8,9,10,11,12])))<|zA 4 u<|zV (vb false)<|zA 2 u<|zV (vb false)<|zA 1 u<|qN<|qB (gv kk [900,901,902,903] (gq [6,7,8,9,10])))<|λs5 _ k=>k<|qC<|
  qR u u kk [] d
abbrev z9M:=@Cn.mk 3 0 _ @zPo
end Go.Proofs.YtgjdojihimkgcaaGreatDoor
