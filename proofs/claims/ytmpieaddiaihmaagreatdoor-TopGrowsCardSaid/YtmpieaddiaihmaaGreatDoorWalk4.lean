/- A part. Conditions: none. -/
import Derived.Test.YtmpieaddiaihmaaGreatDoorWalk3
namespace Go.Proofs.YtmpieaddiaihmaaGreatDoor
open Go Go.GD Go.Proofs.Tryz
set_option autoImplicit false
set_option linter.unusedVariables false
set_option maxRecDepth 100000
set_option linter.defProp false
variable {qd:Prop}
variable {yl1:Nat}{p1 p2 p3 p4 p5 p6 p7 p8 p9:Option Addr}{c1 c2 c3 c4 c5 c6 c7 c8 c9:Nat}{b1 b2 b3 b4 b5 b6 b7 b8 b9 b10 b11:Nat}{r_1 r_2 r_3 r_4 r_5 r_6:zJ}
theorem zX8{y0:qC}: zP qd prog 146 [.agg (zVs y0 p1 c1).toArray] [] (zZ9 y0 p1 c1 []) (zGC y0) fun r K=>K (vi r) [] [] :=
 zN call146 func146 u fun X=>hD 14 [] [0] (.l [0,1,2,3,4,5,6,7,8,9,10] (.f 11 (.l [12] .e)))<|hI 1 3 0 (fun(s1:Bool) K=>K [1] [] [0] [(34,vb s1)] [])<|hI 2 5 1 (fun(s2:Unit) K=>K [1] [] [0] [] [])<|hI 0 6 1 (fun(s3:Int) K=>K [1,36,37] [] [0] [(38,vi s3)] [])<|hI 0 12 2 (fun(s4:Int) K=>K [1] [] [0] [(5,vi s4)] [])<|
 au
abbrev zXj:=@Cn.mk 146 0 _ @zX8
attribute [instance] zUG zRz zXj
set_option maxHeartbeats 2000000 in
theorem zJn{y0:zM}: zP qd prog 87 [.agg (vT y0 p1 c1 p2 c2 p3 c3).toArray] [] (vW y0 p1 c1 p2 c2 p3 c3 []) (zBr y0) fun r K=>K (vi r) [] [] :=
 zN call87 func87 u fun X=>hP 4 1 0 (fun K=>K [1] [] [0,1,2] [(27,vb ((decide (16<(len y0.1)))||((decide (24<(len y0.2.1)))||(decide (8<(len y0.2.2))))))] [])<|hI 2 3 1 (fun(s1:Unit) K=>K [1] [] [0,1,2] [] [])<|hI 0 4 1 (fun(s2:Int) K=>K [1,29,30] [] [0,1,2] [(31,vi s2)] [])<|hI 2 12 1 (fun(s3:Unit) K=>K [1] [] [0,1,2] [] [])<|hI 0 13 1 (fun(s4:Int) K=>K [1,49,50] [] [1,0,2] [(51,vi s4)] [])<|hI 0 22 1 (fun(s5:Int) K=>K [1,69,70] [] [2,0,1] [(71,vi s5)] [])<|
 au
abbrev zTK:=@Cn.mk 87 0 _ @zJn
theorem zPn{y0:zM}: zP qd prog 51 [.agg (vT y0 p1 c1 p2 c2 p3 c3).toArray] [] (vW y0 p1 c1 p2 c2 p3 c3 []) (zCq y0) fun r K=>∀ p4 c4,K (.tuple #[sv p4 r.1 c4,vi r.2]) [] [Rl qS p4 c4 r.1] :=
 zN call51 func51 u fun X=>zH<|wR .s u<|fun b1=>zA 2 u<|zK<|jcs<|zQ<|zH<|wQ 0 3 u u u<|wF zJn u (cq [0,1,2])<|fun r1 _ k=>k<|zA 1 u<|zK<|jA 2 u<|zS u (jA 3 u<|qO<|vD<|jcr<|
  yD u (lT u (lT u lN)) (fun _ k=>k none 0) [] ⟨gn,d⟩)<|jC<|zH<|wQ 0 3 u u u<|qE (.agg #[sv p1 y0.1 c1,sv p2 y0.2.1 c2,sv p3 y0.2.2 c3,.slice none 0 0,.slice none 0 0,vi 0])<|yX qS 95<|wR .s u<|fun b2=>
  zA 1 u<|zK<|
  wC (fun s1 K=>∀ p4 c4 r_1,K [1,5] [(1,r_1),(2,bx b2 158 [sv p1 y0.1 c1,sv p2 y0.2.1 c2,sv p3 y0.2.2 c3,sv p4 s1 c4,.slice none 0 0,vi 0])] [1,2,3] [] [Al qS 95 r_1 p4 c4 s1]) (
  zH<|qB 0 u<|qG 0 u u u<|zA 2 u<|zK<|zX<|
  wD (fun s2 K=>∀ p5 c5 r_2,K [1,5,20,21] [(1,r_2),(2,bx b2 158 [sv p1 y0.1 c1,sv p2 y0.2.1 c2,sv p3 y0.2.2 c3,sv p5 s2.2 c5,.slice none 0 0,vi 0])] [1,2,3] [(22,vi s2.1)] [Al qS 95 r_2 p5 c5 s2.2]) (gv (fun _ k=>k none 0 []) [0,1,2] (gq [0,1,2,3]))<|
  fun s2 _ k p5 c5 r_2=>k<|jA 1 u<|zQ<|zS u (jC<|zQ<|zX<|zH<|zA 1 u<|yJ 1 u u u<|fun x1 b3 o1=>yU true zXQ (gk 0) u<|vH .s (.agg k7)<|fun b4=>zA 1 u<|qU .s 3 u u u<|
  zK<|xY [13] [2,3] 14<|zW 11 [0,1,2] u<|qR 3 3 u u<|wS 4 2 u u u u<|zW 8 [5] u<|qR 6 0 u u<|uQ 7 3 2 u u u u<|vR 8 (.agg #[vi s2.1,vi (-1),.slice none 0 0,vb x1.1.1,vs x1.1.2]) u<|
  qM 9<|yI (.f u) (e:=qS) 95 [vi s2.1,vi (-1),.slice none 0 0,vb x1.1.1,vs x1.1.2] ([(s2.1,(-1),([]:List Int),x1.1)]:List zD) (rC (vP vI (vP vI (vP (vL gn) (vP vB vS)))) rN)<|fun p6 c6=>qN<|qM 10<|
  uE (.f u) 1 2 u (gk 0) u u<|fun x2 r_3 p7 c7=>qN<|zW 2 [11] u<|qR 12 3 u u<|qM 13<|qU (o:=3) (.f u) 2 u u u<|jdb [] [2,3]<|qT<|vM<|qK<|jB 2 u<|yH (gv (fun _ k=>k p7 c7 r_3) [0,1,2] (gq [0,4,5,6])))<|
  uA<|yR<|yY<|yZ<|qI (gv (fun _ k=>k p5 c5 r_2) [0,1,2] (gq [0,1,2,3])))<|fun s1 _ k p4 c4 r_1=>k<|zQ<|jlb<|qK<|
  wC (fun s3 K=>∀ p8 c8 r_4 p9 c9 r_5,K [5] [(0,[]),(1,r_4),(2,bx b2 158 [sv p1 y0.1 c1,sv p2 y0.2.1 c2,sv p3 y0.2.2 c3,sv p8 s3.1 c8,sv p9 s3.2.1 c9,vi s3.2.2]),(3,r_5)] [1,2,3] [] [Al qS 95 r_4 p8 c8 s3.1,Al qS 95 r_5 p9 c9 s3.2.1]) (
  jA 1 u<|zX<|
  wD (fun s4 K=>∀ p10 c10 r_6 p11 c11,K [1,5] [(1,r_6),(2,bx b2 158 [sv p1 y0.1 c1,sv p2 y0.2.1 c2,sv p3 y0.2.2 c3,sv p10 s4.2.1 c10,sv p11 s4.2.2.1 c11,vi s4.2.2.2])] [1,2,3] [(8,vi s4.1)] [Al qS 95 r_6 p10 c10 s4.2.1,Rl qS p11 c11 s4.2.2.1]) (gv (fun _ k=>k p4 c4 r_1 none 0) [0,1,2] ⟨gk 0,gn,gk 1,gk 2,gk 3,d⟩)<|
  fun s4 _ k p10 c10 r_6 p11 c11=>k<|zQ<|zX<|zH<|zA 2 u<|qB 4 u<|yX qS 95<|qU .s 2 u u u<|zK<|
  jjoK (fun s5 K=>∀ p12 c12 r_7,K [1,5,8] [(2,bx b2 158 [sv p1 y0.1 c1,sv p2 y0.2.1 c2,sv p3 y0.2.2 c3,sv p10 s4.2.1 c10,sv p12 s5 c12,vi s4.2.2.2]),(3,r_7)] [3,4,5,1] [] [Al qS 95 r_7 p12 c12 s5]) (
  zH<|qB 1 u<|qG 0 u u u<|zA 2 u<|zK<|zX<|
  wD (fun s6 K=>∀ p13 c13 r_8,K [1,5,8,47,48] [(2,bx b2 158 [sv p1 y0.1 c1,sv p2 y0.2.1 c2,sv p3 y0.2.2 c3,sv p10 s4.2.1 c10,sv p13 s6.2 c13,vi s4.2.2.2]),(3,r_8)] [4,3,5,1] [(49,vi s6.1)] [Al qS 95 r_8 p13 c13 s6.2]) (gv (fun _ k=>k none 0 []) [0,1,2,3] (gq [0,4,3,5,1]))<|
  fun s6 _ k p13 c13 r_8=>k<|jA 1 u<|zQ<|zS u (jC<|zQ<|zX<|zH<|zA 1 u<|yJ 1 u u u<|fun x3 b5 o2=>yU true zZj (gk 0) u<|fun p14 c14=>vH .s (.agg k2)<|fun b6=>
  zA 1 u<|qU .s 4 u u u<|zK<|
  wC (fun s7 K=>∀ p15 c15 r_9,K [1,5,8,47,48,49] [(2,bx b2 158 [sv p1 y0.1 c1,sv p2 y0.2.1 c2,sv p3 y0.2.2 c3,sv p10 s4.2.1 c10,sv p15 s7 c15,vi s4.2.2.2]),(3,r_9),(4,[])] [3,4,5,6] [] [Al qS 95 r_9 p15 c15 s7]) (
  zH<|qB 3 u<|qG 4 u u u<|zA 2 u<|zK<|zS u (vG<|zA 2 u<|qL .s [2,1,3] [] zIx u u u ⟨ck 4,ck 3,ck 5,ck 6,ck 2,cn,d⟩<|fun r2 _ k p16 c16 r_10=>k<|wK<|
  qI (gv (fun _ k=>k p16 c16 r_10) [0,1,2,3,904] (gq [0,4,5,6,7])))<|jA 2 u<|zS u (xY [13] [2,4] 14<|zW 11 [0,1,2] u<|qR 3 4 u u<|wS 4 2 u u u u<|zW 8 [5] u<|qR 6 4 u u<|
  uQ 7 4 2 u u u u<|vR 8 (.agg #[vi (-1),vi s6.1,.slice none 0 0,vb (a4 x3).1,vs (a5 x3)]) u<|qM 9<|
  yI (.f u) (e:=qS) 95 [vi (-1),vi s6.1,.slice none 0 0,vb (a4 x3).1,vs (a5 x3)] ([((-1),s6.1,([]:List Int),(a4 x3))]:List zD) (rC (vP vI (vP vI (vP (vL gn) (vP vB vS)))) rN)<|fun p17 c17=>qN<|
  qM 10<|uE (.f u) 3 3 u (gk 0) u u<|fun x4 r_11 p18 c18=>qN<|zW 2 [11] u<|qR 12 4 u u<|qM 13<|qU (o:=4) (.f u) 2 u u u<|jdb [] [2,4]<|qT<|qI (gv (fun _ k=>k p18 c18 r_11) [0,1,2,3,904] (gq [0,5,6,7,8])))<|
  yA<|qI (gv (fun _ k=>k p13 c13 r_8) [0,1,2,3,904] (gq [2,3,4,5,6])))<|fun s7 _ k p15 c15 r_9=>k<|zH<|zA 1 u<|qL .s [2] [1,3] zDq u u u ⟨ck 2,ck 1,ck 3,cl 1 4,cl 3 0,d⟩<|fun r3 _ k=>k<|zK<|zS u (uA<|
  jbm<|yR<|yY<|jbm<|yY<|jbm<|yR<|yY<|yZ<|qI (gv (fun _ k=>k p10 c10 r_6 p15 c15 r_9) [900,1,2,3] (gq [4,0,2,1,3])))<|yA<|vM<|qK<|jB 2 u<|yH (gv (fun _ k=>k p15 c15 r_9) [0,1,2,3] (gq [0,1,2,3,4])))<|uA<|yR<|yY<|yZ<|
  yH (gv (fun _ k=>k p13 c13 r_8) [0,1,2,3] (gq [0,2,1,3,4])))<|fun s5 _ k p12 c12 r_7=>k<|zQ<|zH<|zA 2 u<|qB 4 u<|qG 2 u u u<|zA 2 u<|zK<|zS u (uA<|yR<|jbm<|yR<|yY<|yZ<|
  qI (gv (fun _ k=>k p10 c10 r_6 p12 c12 r_7) [900,1,2,3] (gq [4,0,1,2,3])))<|jC<|zH<|zA 3 u<|qB 3 u<|qG 2 u u u<|zA 2 u<|qB 5 u<|qU .s 2 u u u<|zK<|xY [12] [2] 13<|zW 10 [0,1,2] u<|
  qR 3 3 u u<|wS 4 2 u u u u<|zW 6 [5,6] u<|qR 7 4 u u<|wS 8 2 u u u u<|qM 9<|jao (.f u) 1 3 4 0 u u u u<|fun x5 r_12 p19 c19=>qN<|zW 2 [10] u<|qR 11 3 u u<|qM 12<|
  qU (o:=3) (.f u) 2 u u u<|jdb [] [2]<|qT<|vM<|qK<|jB 3 u<|uI 3 1 u u<|yH (gv (fun _ k=>k p19 c19 r_12 p12 c12) [0,1,2] (gq [1,0,3,4,5])))<|fun s3 _ k p8 c8 r_4 p9 c9 r_5=>k<|zQ<|zH<|zA 1 u<|
  qL .s [2] [1,3] zDq u u u ⟨ck 2,ck 3,ck 4,cl 1 0,cl 3 1,d⟩<|fun r4 _ k=>k<|zK<|zS u (jA 2 u<|qO<|vD<|jcr<|yD u (lT u (lT u lN)) (fun _ k=>k none 0) [] ⟨gn,d⟩)<|jC<|zH<|zA 2 u<|qB 3 u<|
  qG 2 u u u<|zA 2 u<|zK<|qO<|jcr<|uI 1 0 u u<|yD u (lT u (lT u lN)) (fun _ k=>k p8 c8) [] (gq [0])
abbrev zWR:=@Cn.mk 51 0 _ @zPn
theorem zM6{y0:zI}: zP qd prog 237 [.agg #[vb y0.1,vs y0.2]] [] [] (zJA y0) fun r K=>K (.agg #[vb r.1,vs r.2]) [] [] :=
 zN call237 func237 u fun X=>
 au
abbrev zSC:=@Cn.mk 237 0 _ @zM6
theorem zZR{y0:zM}{y1:List zD}{y2:Int}{y3:Int}: zP qd prog 158 [.agg (vT y0 p1 c1 p2 c2 p3 c3).toArray,sv p4 y1 c4,vi y2,vi y3] [] (vW y0 p1 c1 p2 c2 p3 c3 [Rl qS p4 c4 y1]) (zL6 y0 y1 y2 y3) fun r K=>∀ p5 c5,K (sv p5 r c5) [] [Rl (zC .i64) p5 c5 r] :=
 zN call158 func158 u fun X=>zH<|wR .s u<|fun b1=>zA 1 u<|zK<|zH<|zA 1 u<|yX (zC .i64) 3 <|zK<|
  wC (fun s1 K=>∀ b2 b3 p5 c5,K [4,9] [(2,bx b2 87 [vb s1.1.1,vs s1.1.2]),(3,bx b3 95 (z6A s1.2 p5 c5))] [0,1,2,3] [(10,pt b2 0),(11,pt b3 0)] (z6B s1.2 p5 c5 [])) (
  xY [] [] 13<|zW 11 [0,1] u<|jdi 2 4 u u u u<|fun x1 b4 o1=>qR 3 3 u u<|jdl 4 true xZ u (gs (gs (gs (gk 0)))) u<|zW 6 [5,6] u<|jdi 7 5 u u u u<|fun x2 b5 o2=>
  jdl 8 true zVE u (gk 0) u<|fun p6 c6=>jd2 9 10 (vH (.f u) (.agg k3)<|fun b6=>qN<|qM 10<|vH (.f u) (.agg k8)<|fun b7=>qN<|qM 11<|
  qU (o:=0) (.f u) 2 u u u<|qN<|qM 12<|qU (o:=0) (.f u) 3 u u u<|qN<|qT<|qI (gv (fun _ k=>k b6 b7 p6 c6) [0,1,2,3] (gq [0,3,4,5,6]))) <|vH (.f u) (.agg k8)<|fun b8=>
  qN<|qM 9<|vH (.f u) (.agg k3)<|fun b9=>qN<|qM 11<|qU (o:=0) (.f u) 3 u u u<|qN<|qM 12<|qU (o:=0) (.f u) 2 u u u<|qN<|qT<|qI (gv (fun _ k=>k b9 b8 p6 c6) [0,1,3,2] (gq [0,3,4,5,6])))<|
  fun s1 _ k b2 b3 p5 c5=>k<|uR [] [2,3] 6<|uQ 0 2 2 u u u u<|qR 1 3 u u<|uQ 2 3 2 u u u u<|qM 3<|qL (.f u) [] [] zM6 u u u d<|fun r1 _ k=>k<|qN<|
  vR 4 (vb (s1.1==r1)) u<|zW 0 [5] u<|qT<|qK<|zQ<|zX<|zH<|qB 0 u<|qG 3 u u u<|zA 2 u<|zK<|zS u (
  wC (fun s2 K=>K [9] [(0,[]),(2,[]),(3,[])] [1] [(41,vb s2)] []) (vG<|zA 2 u<|tI 32 u (qB 0 u<|qG 0 u u u<|qB 0 u<|qG 3 u u u<|
  yJ 2 u u u<|fun x3 b10 o3=>qB 2 u<|yU false oI (gf (gs (gk 0))) u<|zA 1 u<|qE (vb (x3.2.1 != 1))<|wK<|qI (gv kk [900,1,902,903] (gq [2])))<|zA 8 u<|qE (vb false)<|wK<|
  qI (gv kk [900,1,902,903] (gq [1])))<|fun s2 _ k=>k<|zS u (vG<|zA 1 u<|yI .s (e:=zC .i64) 3 [vi 1] ([1]:List Int) (rC vI rN)<|fun p7 c7=>uE .s 1 1 u (gk 0) u u<|fun x4 r_1 p8 c8=>zA 1 u<|wK<|vM<|qK<|
  jA 2 u<|qO<|uI 1 0 u u<|yB u u (fun _ k=>k p8 c8) [] (gq [0]))<|yA<|vM<|qK<|jA 2 u<|qO<|uI 1 0 u u<|yB u u (fun _ k=>k none 0) [] (gq [0]))<|zH<|qB 1 u<|qG 0 u u u<|qB 1 u<|qG 3 u u u<|
  yJ 3 u u u<|fun x5 b11 o4=>qB 1 u<|yU false oB (gf (gs (gk 0))) u<|zA 2 u<|zK<|zS u (
  wC (fun s3 K=>∀ p9 c9 r_2,K [4,10,11] [(1,r_2)] [3,4,5,1] [(9,sv p9 s3 c9)] [Al (zC .i64) 3 r_2 p9 c9 s3]) (
  jA 1 u<|zS u (vG<|zA 1 u<|yI .s (e:=zC .i64) 3 [vi 2] ([2]:List Int) (rC vI rN)<|fun p10 c10=>uE .s 1 3 u (gk 0) u u<|fun x6 r_3 p11 c11=>zA 1 u<|wK<|qI (gv (fun _ k=>k p11 c11 r_3) [0,1,2,3] (gq [0,5,6,7,3])))<|
  yA<|qI (gv (fun _ k=>k none 0 []) [0,1,2,3] (gq [2,3,4,5,1])))<|fun s3 _ k p9 c9 r_2=>k<|wC (fun s4 K=>K [9] [(0,[]),(2,[]),(3,[])] [0] [(71,vb s4)] []) (
  xY [] [0,2,3] 14<|qR 0 0 u u<|wS 1 2 u u u u<|zW 11 [2] u<|tI 60 u (qR 3 1 u u<|wS 4 2 u u u u<|qR 5 1 u u<|wS 6 0 u u u u<|qR 7 1 u u<|wS 8 3 u u u u<|
  jdi 9 2 u u u u<|fun x7 b12 o5=>qR 10 0 u u<|jdl 11 false oS u (gf (gk 0)) u<|zW 1 [12] u<|vR 13 (vb (s1.1.2==x7.1)) u<|qT<|qI (gv kk [900,1,902,903] (gq [1])))<|zW 1 [3,4,5,6,7,8,9,10,11,12] u<|
  vR 13 (vb false) u<|qT<|qI (gv kk [900,1,902,903] (gq [0])))<|fun s4 _ k=>k<|zS u (vG<|zA 1 u<|yI .s (e:=zC .i64) 3 [vi 3] ([3]:List Int) (rC vI rN)<|fun p12 c12=>uE .s 1 1 u (gk 0) u u<|
  fun x8 r_4 p13 c13=>zA 1 u<|wK<|vM<|qK<|jA 2 u<|qO<|uI 1 0 u u<|yB u u (fun _ k=>k p13 c13) [] (gq [0]))<|yA<|vM<|qK<|jA 2 u<|qO<|uI 1 0 u u<|yB u u (fun _ k=>k p9 c9) [] (gq [0]))<|yA<|vM<|qK<|
  jA 2 u<|qO<|uI 1 2 u u<|yB u u (fun _ k=>k none 0) [] (gq [0])
abbrev zZG:=@Cn.mk 158 0 _ @zZR
theorem zNx{y0:qQ}{y1:qQ}: zP qd prog 162 [.agg (z0Z y0).toArray,.agg (z0Z y1).toArray] [] [] (zDd y0 y1) fun r K=>K (vi r) [] [] :=
 zN call162 func162 u fun X=>hD 1 [] [0,1] (.l [0,1,2,3,5,6,7,8,10,11,12,13,15,16,17,18] (.f 4 (.f 9 (.f 14 (.f 19 (.f 20 (.f 21 (.l [22] .e))))))))<|
 au
abbrev zUL:=@Cn.mk 162 0 _ @zNx
theorem zCs{y0:List qQ}: zP qd prog 161 [sv p1 y0 c1,.func (.func 162) #[] #[]] [r_1] [Al tN 161 r_1 p1 c1 y0] (zAM y0) fun r K=>∀ r_2,K (.tuple #[]) [r_2] [Ar tN 161 r_2 p1 c1 (List.length y0) r]:=⟨call161,fun A w0 r hm hO hF=>by
 have h:=zUJ (qd:=qd) Go.Proofs.Tryz.sort161 (yO.prod (yO.int .i64) (yO.prod (yO.int .i64) (yO.prod (yO.int .i64) (yO.int .i64)))) (te:=161) Tryz.isAgg161 Tryz.sizeOf161 zDd 162 (enters_of func162 (by kernel_rfl) u) (fun w x y n hn=>?_) hO hF.1.1 hm
 · change Calls prog 161 _ _ _ at h
   refine h.mono fun e w' h=>?_
   cases e with
   | returned v=>obtain⟨r',rfl,h1,h2,h3,h4⟩:=h;exact fun G k=>k r' ⟨rfl,h1,h2,⟨h3,h4.symm⟩,trivial⟩
   | panicked ch=>exact h
   | outgrown=>exact h
 · refine((zNx (qd:=True) (y0:=x) (y1:=y)).go [] w n hn (zZ.start (by simp)) trivial).mono fun e w' h=>?_
   cases e with
   | returned v=>exact h _ fun⟨e1,q⟩=>⟨e1,q.e⟩
   | panicked ch=>exact h
   | outgrown=>exact h⟩
abbrev zHJ:=@Cn.mk 161 0 _ @zCs
attribute [instance] zTK zWR zSC zZG zUL zHJ
theorem zXC{y0:zM}{y1:List zD}: zP qd prog 106 [.agg (vT y0 p1 c1 p2 c2 p3 c3).toArray,sv p4 y1 c4] [] (vW y0 p1 c1 p2 c2 p3 c3 [Rl qS p4 c4 y1]) (zEj y0 y1) fun r K=>∀ p5 c5 r_1,K (sv p5 r c5) [r_1] [Al tN 161 r_1 p5 c5 r] :=
 zN call106 func106 u fun X=>zH<|wR .s u<|fun b1=>zA 1 u<|zK<|zH<|zA 1 u<|yX tN 161 <|zK<|
  jjn (fun s1 K=>∀ p5 c5 r_1,K [(5,sv p5 s1 c5)] [[],r_1] [Al tN 161 r_1 p5 c5 s1]) (hI 0 3 1 (fun(s2:(List qQ)×Int) K=>∀ p6 c6 r_2,K [1,2,13] [(1,.r r_2)] [4,1,2,3] [(5,sv p6 s2.1 c6),(14,vi s2.2)] [Al tN 161 r_2 p6 c6 s2.1])<|hI 0 6 1 (fun(s3:(List qQ)×Int) K=>∀ p7 c7 r_3,K [1,2,6,13,14,18] [(1,.r r_3)] [1,2,3,4] [(5,sv p7 s3.1 c7),(19,vi s3.2)] [Al tN 161 r_3 p7 c7 s3.1])<|hI 0 11 1 (fun(s4:(List qQ)×Int) K=>∀ p9 c9 r_4,K [1,2,6,7,8,13,14,18,19,31] [(1,.r r_4)] [2,0,3,4,5] [(5,sv p9 s4.1 c9),(32,vi s4.2)] [Al tN 161 r_4 p9 c9 s4.1])<|hI 0 15 1 (fun(s5:(List qQ)×Int) K=>∀ p11 c11 r_5,K [1,2,6,7,8,9,13,14,18,19,31,32,41,42] [(1,.r r_5)] [2,3,4,5,6] [(5,sv p11 s5.1 c11),(43,vi s5.2)] [Al tN 161 r_5 p11 c11 s5.1])<|
 au
)<|
  fun s1 _ k p5 c5 r_1=>k<|zH<|zA 1 u<|qL .s [1] [] zCs u u u (cq [0])<|fun r4 _ k r_7=>k<|zK<|jA 2 u<|qO<|jrE 0 4 u u<|
 au
abbrev zWr:=@Cn.mk 106 0 _ @zXC
theorem zMt{y0:List zD}{y1:Int}: zP qd prog 240 [sv p1 y0 c1,vi y1] [] [Rl qS p1 c1 y0] (zC1 y0 y1) fun r K=>∀ p2 c2,K (sv p2 r c2) [] [Rl (zC .i64) p2 c2 r] :=
 zN call240 func240 u fun X=>jA 1 u<|zH<|zA 1 u<|yX (zC .i64) 3 <|zK<|
  jjn (fun s1 K=>∀ p2 c2 r_1,K [(5,sv p2 s1 c2)] [r_1] [Al (zC .i64) 3 r_1 p2 c2 s1]) (hI 0 3 1 (fun(s2:(List Int)×Int) K=>∀ p4 c4 r_2,K [0,10,11] [(0,.r r_2)] [2,0] [(5,sv p4 s2.1 c4),(12,vi s2.2)] [Al (zC .i64) 3 r_2 p4 c4 s2.1])<|
 au
)<|fun s1 _ k p2 c2 r_1=>k<|zH<|zA 1 u<|qL .s [0] [] zEB u u u (cq [0])<|fun r2 _ k r_4=>k<|zK<|jA 2 u<|qO<|uI 0 0 u u<|jre 0 4 u u<|
 au
abbrev zSZ:=@Cn.mk 240 0 _ @zMt
theorem zWe{y0:Int}{y1:zM}: wO qd prog 241 [vi y0,pt b1 0] [bx b1 29 (vT y1 p1 c1 p2 c2 p3 c3)] (vW y1 p1 c1 p2 c2 p3 c3 []) (zJ6 y0 y1) fun L r K=>K (vb r) L [] :=
 zN call241 func241 u fun X=>
 au
abbrev zW2:=@Cn.mk 241 0 _ @zWe
attribute [instance] zWr zSZ zW2
theorem zD7{y0:List Int}{y1:zM}: wO qd prog 126 [sv p1 y0 c1,.func (.func 241) #[] #[pt b1 0]] [bx b1 29 (vT y1 p2 c2 p3 c3 p4 c4)] (Rl (zC .i64) p1 c1 y0::(vW y1 p2 c2 p3 c3 p4 c4 [])) (zAX y0 y1) fun L r K=>K (vi r) L [] :=
 zN call126 func126 u fun X=>hI 0 2 1 (fun(s1:Int) K=>K [0,1,7] [] [0,1,2,3] [(8,vi s1)] [])<|
 au
abbrev zIm:=@Cn.mk 126 5 _ @zD7
theorem zDC{y0:List Int}{y1:zM}: wO qd prog 67 [sv p1 y0 c1,.func (.func 241) #[] #[pt b1 0]] [bx b1 29 (vT y1 p2 c2 p3 c3 p4 c4)] (Rl (zC .i64) p1 c1 y0::(vW y1 p2 c2 p3 c3 p4 c4 [])) (zAP y0 y1) fun L r K=>K (vb r) L [] :=
 zN call67 func67 u fun X=>jA 1 u<|zH<|zA 2 u<|qL .s [0] [] zD7 u u u (cq [0,1,2,3])<|fun r1 _ k=>k<|zA 2 u<|zK<|qO<|yB u u kk [0] d
abbrev zH5:=@Cn.mk 67 5 _ @zDC
theorem zZD{y0:zM}{y1:List zD}{y2:Int}: zP qd prog 163 [.agg (vT y0 p1 c1 p2 c2 p3 c3).toArray,sv p4 y1 c4,vi y2] [] (vW y0 p1 c1 p2 c2 p3 c3 [Rl qS p4 c4 y1]) (zH2 y0 y1 y2) fun r K=>K (vb r) [] [] :=
 zN call163 func163 u fun X=>zH<|wR .s u<|fun b1=>zA 1 u<|zK<|zH<|zA 2 u<|wF zMt u (cq [3])<|fun r1 _ k p5 c5=>k<|zA 1 u<|qL .s [0] [] zDC u u u (cq [0,1,2,3])<|fun r2 _ k=>k<|zA 1 u<|
  zK<|qO<|yB u u kk [] d
abbrev zZS:=@Cn.mk 163 0 _ @zZD
attribute [instance] zIm zH5 zZS
theorem zSm (k:Nat):
    (∀ {y0:zM} {p1:Option Addr} {c1:Nat} {p2:Option Addr} {c2:Nat} {p3:Option Addr} {c3:Nat} {y1:List zD} {p4:Option Addr} {c4:Nat} {y2:Int},zP qd prog 245 [.agg (vT y0 p1 c1 p2 c2 p3 c3).toArray,sv p4 y1 c4,vi y2] [] (vW y0 p1 c1 p2 c2 p3 c3 [Rl qS p4 c4 y1]) (zDY k y0 y1 y2) fun r K=>∀ p5 c5,K (sv p5 r c5) [] [Rl (zC .i64) p5 c5 r]):=by
  induction k with
  | zero=>exact z9x call245
  | succ k ih =>
    have ih_argument_Last:=@ih
    have zQu:=@Cn.mk 245 0 _ (@ih_argument_Last)
    exact @fun y0 p1 c1 p2 c2 p3 c3 y1 p4 c4 y2=>zN (m1:=zFq (zDY k) y0 y1 y2) call245 func245 u fun X=>zH<|wR .s u<|fun b1=>zA 1 u<|zK<|zQ<|wC (fun s1 K=>K [1,2,3] [] [3,0,1,2] [(21,vb s1)] []) (
 au
)<|fun s1 _ k=>k<|zS u (
 au
)<|jC<|zQ<|uR [] [0] 11<|qR 0 1 u u<|wS 1 0 u u u u<|zW 7 [2,3] u<|
  jdi 4 0 u u u u<|fun x2 b3 o2=>qR 5 1 u u<|jdl 6 false oI u (gf (gs (gk 0))) u<|jdi 7 3 u u u u<|fun x3 b4 o3=>qR 8 1 u u<|jdl 9 false oB u (gf (gs (gk 0))) u<|zW 0 [10] u<|qT<|qK<|zS u (
 au
)<|jC<|zH<|zA 1 u<|yX (zC .i64) 3 <|zK<|
  jjn (fun s2 K=>∀ p6 c6 r_1,K [(7,sv p6 s2 c6)] [[],r_1] [Al (zC .i64) 3 r_1 p6 c6 s2]) (hI 0 7 1 (fun(s3:(List Int)×Int) K=>∀ p8 c8 r_2,K [1,3,43,44] [(1,.r r_2)] [5,0,6,7,8] [(7,sv p8 s3.1 c8),(45,vi s3.2)] [Al (zC .i64) 3 r_2 p8 c8 s3.1])<|
 au
)<|
  fun s2 _ k p6 c6 r_1=>k<|zH<|zA 1 u<|qL .s [1] [] zEB u u u (cq [0])<|fun r3 _ k r_4=>k<|zK<|zH<|zA 1 u<|jrE 0 58 u u<|
 au
theorem zYN{y0:zM}{y1:List zD}{y2:Int}: zP qd prog 245 [.agg (vT y0 p1 c1 p2 c2 p3 c3).toArray,sv p4 y1 c4,vi y2] [] (vW y0 p1 c1 p2 c2 p3 c3 [Rl qS p4 c4 y1]) (zIN y0 y1 y2) fun r K=>∀ p5 c5,K (sv p5 r c5) [] [Rl (zC .i64) p5 c5 r]:=zVr fun k=>(zSm k)
abbrev zQu:=@Cn.mk 245 0 _ @zYN
theorem z1j{y0:zM}{y1:List Int}: zP qd prog 244 [.agg (vT y0 p1 c1 p2 c2 p3 c3).toArray,sv p4 y1 c4] [] (vW y0 p1 c1 p2 c2 p3 c3 [Rl (zC .i64) p4 c4 y1]) (zKB y0 y1) fun r K=>∀ p5 c5,K (sv p5 r c5) [] [Rl (zC .i64) p5 c5 r] :=
 zN call244 func244 u fun X=>hR 5 1 (zC .i64) 3<|hI 0 3 1 (fun(s1:(List Int)×Int) K=>∀ p5 c5 r_1,K [2,8,9] [(1,.r r_1)] [4,1,2,3] [(5,sv p5 s1.1 c5),(10,vi s1.2)] [Al (zC .i64) 3 r_1 p5 c5 s1.1])<|
 au
abbrev z1r:=@Cn.mk 244 0 _ @z1j
attribute [instance] zQu z1r
theorem zWi{y0:zM}{y1:List zD}{y2:Int}: zP qd prog 168 [.agg (vT y0 p1 c1 p2 c2 p3 c3).toArray,sv p4 y1 c4,vi y2] [] (vW y0 p1 c1 p2 c2 p3 c3 [Rl qS p4 c4 y1]) (zCT y0 y1 y2) fun r K=>∀ p5 c5,K (sv p5 r c5) [] [Rl (zC .i64) p5 c5 r] :=
 zN call168 func168 u fun X=>hD 1 [] [0] (.l [0,1,2,3] (.f 4 (.f 5 (.l [6] .e))))<|
 au
abbrev zWY:=@Cn.mk 168 0 _ @zWi
theorem zWM{y0:List Int}: zP qd prog 243 [sv p1 y0 c1] [] [Rl (zC .i64) p1 c1 y0] (zDg y0) fun r K=>K (vi r) [] [] :=
 zN call243 func243 u fun X=>jA 1 u<|wC (fun s1 K=>K [0] [] [0] [] []) (jA 3 u<|zS u (vG<|jno)<|
 au
)<|hI 0 5 2 (fun(s2:Int×Int) K=>K [0] [] [1] [(3,vi s2.1),(4,vi s2.2)] [])<|
 au
abbrev zWc:=@Cn.mk 243 0 _ @zWM
theorem zW3{y0:List Int}: zP qd prog 242 [sv p1 y0 c1] [] [Rl (zC .i64) p1 c1 y0] (zDl y0) fun r K=>K (vi r) [] [] :=
 zN call242 func242 u fun X=>jA 1 u<|wC (fun s1 K=>K [0] [] [0] [] []) (jA 3 u<|zS u (vG<|jno)<|
 au
)<|hI 0 5 2 (fun(s2:Int×Int) K=>K [0] [] [1] [(3,vi s2.1),(4,vi s2.2)] [])<|
 au
abbrev zWs:=@Cn.mk 242 0 _ @zW3
attribute [instance] zWY zWc zWs
theorem zZW{y0:List Int}{y1:List Int}{y2:Int}: zP qd prog 165 [sv p1 y0 c1,sv p2 y1 c2,vi y2] [] [Rl (zC .i64) p1 c1 y0,Rl (zC .i64) p2 c2 y1] (zDy y0 y1 y2) fun r K=>K (vb r) [] [] :=
 zN call165 func165 u fun X=>hP 4 1 0 (fun K=>K [0,1,2] [] [0,1] [(17,vb (if y2 != 1 then(y2 != 2)||((len y0)==0) else(len y0)==0))] [])<|
 au
abbrev zZ2:=@Cn.mk 165 0 _ @zZW
attribute [instance] zZ2
theorem zMQ{y0:zM}{y1:List zD}{y2:Int}{y3:Int}{y4:yG}: wO qd prog 164 [.func (.func 168) #[] #[],pt b1 0,pt b2 0,pt b3 0,pt b4 0,pt b5 0] [bx b1 29 (vT y0 p1 c1 p2 c2 p3 c3),bx b2 30 [sv p4 y1 c4],bx b3 3 [vi y2],bx b4 3 [vi y3],bx b5 70 [vi y4.1,vi y4.2]] (vW y0 p1 c1 p2 c2 p3 c3 [Rl qS p4 c4 y1]) (zAw y0 y1 y2 y3 y4) fun L r K=>K (vb r) L [] :=
 zN call164 func164 u fun X=>hD 1 [] [0,1,2,3,4] (.l [0,1,2,3,5,6,7,8,10,11] (.f 4 (.f 9 (.f 12 (.l [13] .e)))))<|
 au
abbrev zLw:=@Cn.mk 164 0 _ @zMQ
theorem zTG{y0:zM}{y1:List zD}{y2:Int}: zP qd prog 169 [.agg (vT y0 p1 c1 p2 c2 p3 c3).toArray,sv p4 y1 c4,vi y2] [] (vW y0 p1 c1 p2 c2 p3 c3 [Rl qS p4 c4 y1]) (zBW y0 y1 y2) fun r K=>∀ p5 c5,K (sv p5 r c5) [] [Rl (zC .i64) p5 c5 r] :=
 zN call169 func169 u fun X=>hR 7 1 (zC .i64) 3<|hI 0 3 1 (fun(s1:(List Int)×Int) K=>∀ p6 c6 r_1,K [3,13,14] [(1,.r r_1)] [0,2,3,4] [(7,sv p6 s1.1 c6),(15,vi s1.2)] [Al (zC .i64) 3 r_1 p6 c6 s1.1])<|
 au
abbrev zSh:=@Cn.mk 169 0 _ @zTG
attribute [instance] zLw zSh
theorem zKn{y0:zM}{y1:List zD}{y2:Int}{y3:Int}{y4:yG}: wO qd prog 164 [.func (.func 169) #[] #[],pt b1 0,pt b2 0,pt b3 0,pt b4 0,pt b5 0] [bx b1 29 (vT y0 p1 c1 p2 c2 p3 c3),bx b2 30 [sv p4 y1 c4],bx b3 3 [vi y2],bx b4 3 [vi y3],bx b5 70 [vi y4.1,vi y4.2]] (vW y0 p1 c1 p2 c2 p3 c3 [Rl qS p4 c4 y1]) (zAF y0 y1 y2 y3 y4) fun L r K=>K (vb r) L [] :=
 zN call164 func164 u fun X=>hD 1 [] [0,1,2,3,4] (.l [0,1,2,3,5,6,7,8,10,11] (.f 4 (.f 9 (.f 12 (.l [13] .e)))))<|
 au
abbrev zKr:=@Cn.mk 164 1 _ @zKn
attribute [instance] zKr
theorem zMK{y0:zM}{y1:List zD}{y2:Int}{y3:Int}: wO qd prog 166 [.func (.func 168) #[] #[],pt b1 0,pt b2 0,pt b3 0,pt b4 0] [bx b1 29 (vT y0 p1 c1 p2 c2 p3 c3),bx b2 30 [sv p4 y1 c4],bx b3 3 [vi y2],bx b4 3 [vi y3]] (vW y0 p1 c1 p2 c2 p3 c3 [Rl qS p4 c4 y1]) (zAv y0 y1 y2 y3) fun L r K=>K (vb r) L [] :=
 zN call166 func166 u fun X=>hI 1 1 0 (fun(s1:Bool) K=>K [] [] [0,1,2,3] [(6,vb s1)] [])<|
 au
abbrev zMG:=@Cn.mk 166 0 _ @zMK
attribute [instance] zMG
theorem zN7{y1:zM}{y2:List zD}{y3:Int}{y4:Int}{y5:yG}: wO qd prog 167 [pt b1 0,pt b7 0] [bx b1 217 [.func (.func 164) #[] #[pt b2 0,pt b3 0,pt b4 0,pt b5 0,pt b6 0]],bx b2 29 (vT y1 p1 c1 p2 c2 p3 c3),bx b3 30 [sv p4 y2 c4],bx b4 3 [vi y3],bx b5 3 [vi y4],bx b6 70 [vi y5.1,vi y5.2],bx b7 217 [.func (.func 166) #[] #[pt b2 0,pt b3 0,pt b4 0,pt b5 0]]] (vW y1 p1 c1 p2 c2 p3 c3 [Rl qS p4 c4 y2]) (zBz y1 y2 y3 y4 y5) fun L r K=>K (vb r) L [] :=
 zN call167 func167 u fun X=>hI 1 1 0 (fun(s1:Bool) K=>K [] [] [0,1,2,3] [(2,vb s1)] [])<|
 au
abbrev zN1:=@Cn.mk 167 0 _ @zN7
theorem zWy{y0:zM}{y1:List zD}{y2:Int}: zP qd prog 171 [.agg (vT y0 p1 c1 p2 c2 p3 c3).toArray,sv p4 y1 c4,vi y2] [] (vW y0 p1 c1 p2 c2 p3 c3 [Rl qS p4 c4 y1]) (zC0 y0 y1 y2) fun r K=>∀ p5 c5,K (sv p5 r c5) [] [Rl (zC .i64) p5 c5 r] :=
 zN call171 func171 u fun X=>hD 1 [] [0] (.l [0,1,2,3] (.f 4 (.f 5 (.l [6] .e))))<|
 au
abbrev zWO:=@Cn.mk 171 0 _ @zWy
attribute [instance] zN1 zWO
theorem zMX{y0:zM}{y1:List zD}{y2:Int}{y3:Int}{y4:yG}: wO qd prog 164 [.func (.func 171) #[] #[],pt b1 0,pt b2 0,pt b3 0,pt b4 0,pt b5 0] [bx b1 29 (vT y0 p1 c1 p2 c2 p3 c3),bx b2 30 [sv p4 y1 c4],bx b3 3 [vi y2],bx b4 3 [vi y3],bx b5 70 [vi y4.1,vi y4.2]] (vW y0 p1 c1 p2 c2 p3 c3 [Rl qS p4 c4 y1]) (zA4 y0 y1 y2 y3 y4) fun L r K=>K (vb r) L [] :=
 zN call164 func164 u fun X=>hD 1 [] [0,1,2,3,4] (.l [0,1,2,3,5,6,7,8,10,11] (.f 4 (.f 9 (.f 12 (.l [13] .e)))))<|
 au
abbrev zMM:=@Cn.mk 164 2 _ @zMX
attribute [instance] zMM
theorem zKk{y0:zM}{y1:List zD}{y2:Int}{y3:Int}: wO qd prog 166 [.func (.func 169) #[] #[],pt b1 0,pt b2 0,pt b3 0,pt b4 0] [bx b1 29 (vT y0 p1 c1 p2 c2 p3 c3),bx b2 30 [sv p4 y1 c4],bx b3 3 [vi y2],bx b4 3 [vi y3]] (vW y0 p1 c1 p2 c2 p3 c3 [Rl qS p4 c4 y1]) (zAb y0 y1 y2 y3) fun L r K=>K (vb r) L [] :=
 zN call166 func166 u fun X=>hI 1 1 0 (fun(s1:Bool) K=>K [] [] [0,1,2,3] [(6,vb s1)] [])<|
 au
abbrev zKv:=@Cn.mk 166 1 _ @zKk
attribute [instance] zKv
theorem zMF{y0:zM}{y1:List zD}{y2:Int}{y3:Int}: wO qd prog 166 [.func (.func 171) #[] #[],pt b1 0,pt b2 0,pt b3 0,pt b4 0] [bx b1 29 (vT y0 p1 c1 p2 c2 p3 c3),bx b2 30 [sv p4 y1 c4],bx b3 3 [vi y2],bx b4 3 [vi y3]] (vW y0 p1 c1 p2 c2 p3 c3 [Rl qS p4 c4 y1]) (zAz y0 y1 y2 y3) fun L r K=>K (vb r) L [] :=
 zN call166 func166 u fun X=>hI 1 1 0 (fun(s1:Bool) K=>K [] [] [0,1,2,3] [(6,vb s1)] [])<|
 au
abbrev zMU:=@Cn.mk 166 2 _ @zMF
attribute [instance] zMU
theorem zN6{y1:zM}{y2:List zD}{y3:Int}{y4:Int}{y6:yG}: wO qd prog 170 [pt b1 0,pt b6 0] [bx b1 217 [.func (.func 166) #[] #[pt b2 0,pt b3 0,pt b4 0,pt b5 0]],bx b2 29 (vT y1 p1 c1 p2 c2 p3 c3),bx b3 30 [sv p4 y2 c4],bx b4 3 [vi y3],bx b5 3 [vi y4],bx b6 217 [.func (.func 164) #[] #[pt b2 0,pt b3 0,pt b4 0,pt b5 0,pt b7 0]],bx b7 70 [vi y6.1,vi y6.2]] (vW y1 p1 c1 p2 c2 p3 c3 [Rl qS p4 c4 y2]) (zCB y1 y2 y3 y4 y6) fun L r K=>K (vb r) L [] :=
 zN call170 func170 u fun X=>hI 1 5 0 (fun(s1:Bool) K=>K [] [] [0,1,2,3] [(2,vb s1)] [])<|
 au
abbrev zN8:=@Cn.mk 170 0 _ @zN6
attribute [instance] zN8
theorem z3y{y0:zM}{y1:List zD}{y2:Int}{y3:Int}{y4:yG}: zP qd prog 108 [.agg (vT y0 p1 c1 p2 c2 p3 c3).toArray,sv p4 y1 c4,vi y2,vi y3,.agg #[vi y4.1,vi y4.2]] [] (vW y0 p1 c1 p2 c2 p3 c3 [Rl qS p4 c4 y1]) (zLI y0 y1 y2 y3 y4) fun r K=>K (vb r) [] [] :=
 zN call108 func108 u fun X=>hI 1 1 0 (fun(s1:Bool) K=>K [5,6,7,8,9] [] [0,1,2,3] [(31,vb s1)] [])<|
 au
abbrev z3D:=@Cn.mk 108 0 _ @z3y
attribute [instance] z3D
theorem zUo{y0:qQ}{y1:zM}{y2:List zD}{y3:yG}: wO qd prog 107 [.agg (z0Z y0).toArray,pt b1 0,pt b2 0,pt b3 0] [bx b1 29 (vT y1 p1 c1 p2 c2 p3 c3),bx b2 30 [sv p4 y2 c4],bx b3 70 [vi y3.1,vi y3.2]] (vW y1 p1 c1 p2 c2 p3 c3 [Rl qS p4 c4 y2]) (zCG y0 y1 y2 y3) fun L r K=>K (vb r) L [] :=
 zN call107 func107 u fun X=>hI 1 1 0 (fun(s1:Bool) K=>K [] [(3,.r [])] [0,1,2,3] [(5,vb s1)] [])<|
 au
abbrev zTt:=@Cn.mk 107 0 _ @zUo
attribute [instance] zTt
theorem zCk{y0:List qQ}{y1:zM}{y2:List zD}{y3:yG}: wO qd prog 157 [sv p1 y0 c1,.func (.func 107) #[] #[pt b1 0,pt b2 0,pt b3 0]] [bx b1 29 (vT y1 p2 c2 p3 c3 p4 c4),bx b2 30 [sv p5 y2 c5],bx b3 70 [vi y3.1,vi y3.2]] (Rl tN p1 c1 y0::(vW y1 p2 c2 p3 c3 p4 c4 [Rl qS p5 c5 y2])) (zAc y0 y1 y2 y3) fun L r K=>K (vi r) L [] :=
 zN call157 func157 u fun X=>hI 0 2 1 (fun(s1:Int) K=>K [0,1,7] [] [0,1,2,3,4] [(8,vi s1)] [])<|
 au
abbrev zGf:=@Cn.mk 157 0 _ @zCk
attribute [instance] zGf
theorem zGL{y0:List qQ}{y1:zM}{y2:List zD}{y3:yG}: zP qd prog 105 [sv p1 y0 c1,.func (.func 107) #[] #[pt b1 0,pt b2 0,pt b3 0]] [r_1,bx b1 29 (vT y1 p2 c2 p3 c3 p4 c4),bx b2 30 [sv p5 y2 c5],bx b3 70 [vi y3.1,vi y3.2]] (Al tN 161 r_1 p1 c1 y0::(vW y1 p2 c2 p3 c3 p4 c4 [Rl qS p5 c5 y2])) (zAK y0 y1 y2 y3) fun r K=>∀ p6 c6,K (sv p6 r c6) [[],bx b1 29 (vT y1 p2 c2 p3 c3 p4 c4),bx b2 30 [sv p5 y2 c5],bx b3 70 [vi y3.1,vi y3.2]] [Rl tN p6 c6 r] :=
 zN call105 func105 u fun X=>jA 1 u<|zH<|zA 2 u<|qL .s [1,2,3] [0] zCk u u u ⟨cl 0 0,ck 1,ck 2,ck 3,ck 4,d⟩<|fun r1 _ k=>k<|zA 1 u<|zK<|zQ<|jA 2 u<|zS u (
 au
)<|jC<|
  wC (fun s1 K=>∀ r_2,K [] [(0,r_2)] [1,2,3,4] [(0,.slice p1 (List.length y0) c1),(5,vi s1.2)] [Ar tN 161 r_2 p1 c1 (List.length y0) s1.1]) (hI 0 5 2 (fun(s2:(List qQ)×Int×Int) K=>∀ r_3,K [1] [(0,.r r_3)] [1,2,3,4] [(0,.slice p1 (List.length y0) c1),(5,vi s2.2.1),(6,vi s2.2.2)] [Ar tN 161 r_3 p1 c1 (List.length y0) s2.1])<|
 au
)<|fun s1 _ k r_2=>k<|zH<|zA 2 u<|jsV 0 u u u<|fun u1 p6 c6 f1=>
  jcv .s 0 0 (0,0,0,0) (.agg #[vi 0,vi 0,vi 0,vi 0]) u f1 u (vP vI (vP vI (vP vI vI)))<|
 au
abbrev zGJ:=@Cn.mk 105 0 _ @zGL
attribute [instance] zGJ
theorem zLs{y0:zM}{y1:List zD}{y2:yG}: zP qd prog 53 [.agg (vT y0 p1 c1 p2 c2 p3 c3).toArray,sv p4 y1 c4,.agg #[vi y2.1,vi y2.2]] [] (vW y0 p1 c1 p2 c2 p3 c3 [Rl qS p4 c4 y1]) (zDe y0 y1 y2) fun r K=>∀ p5 c5,K (sv p5 r c5) [] [Rl tN p5 c5 r] :=
 zN call53 func53 u fun X=>
 au
abbrev zWu:=@Cn.mk 53 0 _ @zLs
theorem zRU{y0:List zT}: zP qd prog 104 [sv p1 y0 c1] [r_1] [Al qH 48 r_1 p1 c1 y0] (zDX y0) fun r K=>∀ p2 c2,K (sv p2 r c2) [[]] [Rl qH p2 c2 r] :=
 zN call104 func104 u fun X=>jA 1 u<|zQ<|jA 3 u<|zS u (
 au
)<|jC<|zQ<|jA 1 u<|zX<|
  wD (fun s1 K=>K [0] [] [0] [(3,vi s1)] []) (gv kk [0] (gq [0]))<|fun s1 _ k=>k<|zQ<|jA 4 u<|zS u (jC<|zQ<|zX<|uR [] [0] 10<|zW 8 [0,1] u<|
  jdI 2 0 u u u u<|fun x1 h1 b1 o1 hp1=>jdL 3 0 0 sI true zSR u u hp1 h1 u<|zW 3 [4,5,6] u<|jdI 7 0 u u u u<|fun x2 h2 b2 o2 hp2=>jdL 8 0 0 sI true zSR u u hp2 h2 u<|vR 9 (vb (x1==x2)) u<|qT<|qK<|
  zS u (zH<|zA 2 u<|jsV 0 u u u<|fun u1 p2 c2 f1=>zA 1 u<|zK<|
  jjn (fun s2 K=>∀ r_2,K [(0,.slice p1 (List.length y0) c1),(3,vi s2.2)] [r_2] [Ar qH 48 r_2 p1 c1 (List.length y0) s2.1]) (
  jA 1 u<|zX<|
  wD (fun s3 K=>∀ r_3,K [4] [(0,r_3)] [] [(0,.slice p1 (List.length y0) c1),(3,vi s3.2.1),(5,vi s3.2.2)] [Ar qH 48 r_3 p1 c1 (List.length y0) s3.1]) (gv (fun _ k=>k r_1) [0] (gq [0]))<|
  fun s3 _ k r_3=>k<|zQ<|jA 4 u<|zS u (jC<|zQ<|zX<|uR [] [0] 10<|zW 8 [0,1] u<|jdX 2 0 u u f1 u u<|fun x3 b3 o3 hp3 h3=>jdL 3 0 0 sI true zSR u u hp3 h3 u<|zW 3 [4,5,6] u<|
  jdX 7 0 u u f1 u u<|fun x4 b4 o4 hp4 h4=>jdL 8 0 0 sI true zSR u u hp4 h4 u<|vR 9 (vb (!(x3==x4))) u<|qT<|qK<|zS u (zH<|zA 4 u<|jiV 0 u f1 u u<|
 au
)<|
 au
)<|
 au
)<|fun s2 _ k r_2=>k<|zH<|zA 2 u<|jsV 0 u u u<|fun u2 p3 c3 f2=>
  jcv .s 0 0 (0,0) (.agg k4) u f2 u (vP vI vI)<|
 au
)<|
 au
)<|
 au
abbrev zQb:=@Cn.mk 104 0 _ @zRU
theorem zPl{y0:zT}{y1:zT}: zP qd prog 101 [.agg #[vi y0.1,vi y0.2],.agg #[vi y1.1,vi y1.2]] [] [] (zEi y0 y1) fun r K=>K (vi r) [] [] :=
 zN call101 func101 u fun X=>hD 1 [] [0,1] (.l [0,1,2,3,5,6,7,8] (.f 4 (.f 9 (.f 10 (.f 11 (.l [12] .e))))))<|
 au
abbrev zWv:=@Cn.mk 101 0 _ @zPl
theorem zD0{y0:List zT}: zP qd prog 100 [sv p1 y0 c1,.func (.func 101) #[] #[]] [r_1] [Al qH 48 r_1 p1 c1 y0] (zAW y0) fun r K=>∀ r_2,K (.tuple #[]) [r_2] [Ar qH 48 r_2 p1 c1 (List.length y0) r]:=⟨call100,fun A w0 r hm hO hF=>by
 have h:=zUJ (qd:=qd) Go.Proofs.Tryz.sort100 (yO.prod (yO.int .i64) (yO.int .i64)) (te:=48) Tryz.isAgg48 Tryz.sizeOf48 zEi 101 (enters_of func101 (by kernel_rfl) u) (fun w x y n hn=>?_) hO hF.1.1 hm
 · change Calls prog 100 _ _ _ at h
   refine h.mono fun e w' h=>?_
   cases e with
   | returned v=>obtain⟨r',rfl,h1,h2,h3,h4⟩:=h;exact fun G k=>k r' ⟨rfl,h1,h2,⟨h3,h4.symm⟩,trivial⟩
   | panicked ch=>exact h
   | outgrown=>exact h
 · refine((zPl (qd:=True) (y0:=x) (y1:=y)).go [] w n hn (zZ.start (by simp)) trivial).mono fun e w' h=>?_
   cases e with
   | returned v=>exact h _ fun⟨e1,q⟩=>⟨e1,q.e⟩
   | panicked ch=>exact h
   | outgrown=>exact h⟩
abbrev zIb:=@Cn.mk 100 1 _ @zD0
attribute [instance] zWu zQb zWv zIb
theorem zOA{y0:Int}{y1:List qQ}: zP qd prog 52 [vi y0,sv p1 y1 c1] [] [Rl tN p1 c1 y1] (zFI y0 y1) fun r K=>∀ p2 c2,K (.tuple #[.agg (wW r.1 p2 c2).toArray,vi r.2]) [] [Rl qH p2 c2 r.1.2] :=
 zN call52 func52 u fun X=>zH<|vH .s (.agg k5)<|fun b1=>zA 1 u<|zK<|zQ<|
  z5h (fun K=>K [0,1,4] [] [0] [(14,vb ((decide (y0<0))||(decide (40<y0))))] []) (
 au
)<|fun _ k=>k<|zS u (
 au
)<|jC<|zH<|zA 1 u<|qE (.agg #[vi y0,.slice none 0 0])<|yX qH 48<|vH .s (.agg k5)<|fun b2=>
  qU .s 2 u u u<|zK<|
  jjoK (fun s1 K=>∀ p2 c2 r_1,K [4,6] [(1,r_1),(2,bx b2 34 [vi y0,sv p2 s1 c2])] [] [] [Al qH 48 r_1 p2 c2 s1]) (
  jA 3 u<|zX<|
  wD (fun s2 K=>∀ p3 c3 r_2,K [0,4,6,18,19] [(1,r_2),(2,bx b2 34 [vi y0,sv p3 s2.2 c3])] [1] [(20,vi s2.1)] [Al qH 48 r_2 p3 c3 s2.2]) (gv (fun _ k=>k none 0 []) [0,1,2] (gq [0,1]))<|
  fun s2 _ k p3 c3 r_2=>k<|jA 1 u<|zQ<|zS u (jC<|zQ<|zX<|zH<|yJ 1 u u u<|fun x1 b3 o1=>hP 4 7 0 (fun K=>K [0,4,6,8,18,19,20] [] [2,1] [(38,vb ((decide ((if x1.2.1<x1.1 then x1.2.1 else x1.1)<0))||(decide (y0≤(if x1.2.1 > x1.1 then x1.2.1 else x1.1)))))] [])<|
 au
)<|
 au
)<|
  fun s1 _ k p2 c2 r_1=>k<|zH<|qB 1 u<|qG 2 u u u<|qL .s [1] [] zD0 u u u (cq [0])<|fun r1 _ k r_4=>k<|zK<|zH<|qB 1 u<|qG 2 u u u<|jrE 0 55 u u<|
 au
abbrev zZP:=@Cn.mk 52 0 _ @zOA
theorem zQC{y0:List wM}: zP qd prog 109 [sv p1 y0 c1] [] [Rl tP p1 c1 y0] (zEZ y0) fun r K=>∀ p2 c2,K (sv p2 r c2) [] [Rl tP p2 c2 r] :=
 zN call109 func109 u fun X=>jA 1 u<|zQ<|zH<|zA 1 u<|jv (fun h=>z5s h u underlying25)<|zK<|jnl (m1:=some ([]:List wM)) u (gk 0) (fun h=>by first|(rw[h];done)|(rw[h];rfl)|(simp[h,qD];done)) (
 au
)<|hO 5<|
 au
abbrev zQN:=@Cn.mk 109 0 _ @zQC
theorem zOl{y0:List wE}: zP qd prog 111 [sv p1 y0 c1] [] [Rl tK p1 c1 y0] (zD2 y0) fun r K=>∀ p2 c2,K (sv p2 r c2) [] [Rl tK p2 c2 r] :=
 zN call111 func111 u fun X=>jA 1 u<|zQ<|zH<|zA 1 u<|jv (fun h=>z5s h u underlying27)<|zK<|jnl (m1:=some ([]:List wE)) u (gk 0) (fun h=>by first|(rw[h];done)|(rw[h];rfl)|(simp[h,qD];done)) (
 au
)<|hO 5<|
 au
abbrev zO4:=@Cn.mk 111 0 _ @zOl
theorem zSk{y0:List qC}: zP qd prog 110 [sv p1 y0 c1] [] [Rl xH p1 c1 y0] (zGq y0) fun r K=>∀ p2 c2 r_1,K (sv p2 r c2) [r_1] [Al xH 107 r_1 p2 c2 r] :=
 zN call110 func110 u fun X=>jA 1 u<|zQ<|zH<|zA 1 u<|jv (fun h=>z5s h u underlying26)<|zK<|jnl (m1:=some ([]:List qC)) u (gk 0) (fun h=>by first|(rw[h];done)|(rw[h];rfl)|(simp[h,qD];done)) (jA 1 u<|qO<|vD<|yX xH 107<|
  jrE 0 2 u u<|
 au
)<|hO 5<|
 au
abbrev zSV:=@Cn.mk 110 0 _ @zSk
attribute [instance] zZP zQN zO4 zSV
set_option maxHeartbeats 2000000 in
theorem zNl{y0:zM}{y1:List zI}: zP qd prog 54 [.agg (vT y0 p1 c1 p2 c2 p3 c3).toArray,sv p4 y1 c4] [] (vW y0 p1 c1 p2 c2 p3 c3 [Rl qY p4 c4 y1]) (zD4 y0 y1) fun r K=>∀ p5 c5 p6 c6 p7 c7,K (.agg (vT r p5 c5 p6 c6 p7 c7).toArray) [] (vW r p5 c5 p6 c6 p7 c7 []) :=
 zN call54 func54 u fun X=>zH<|wR .s u<|fun b1=>vH .s (.agg k1)<|fun b2=>zK<|
  wC (fun s1 K=>∀ b3 p5 c5 p6 c6 r_1 p7 c7,K [1,2,4] [(2,bx b3 29 [sv p5 s1.1 c5,sv p6 s1.2.1 c6,sv p7 s1.2.2 c7]),(3,r_1)] [3,0,1,2] [(5,pt b3 0)] [Rl tP p5 c5 s1.1,Al xH 107 r_1 p6 c6 s1.2.1,Rl tK p7 c7 s1.2.2]) (hD 1 [] [0] (.l [0,1,3,4,6,7] (.w 2 10 (.w 5 10 (.w 8 10 (.l [9] (.f 10 (.f 11 .e))) (.f 8 (.l [9] (.f 11 .e)))) (.f 5 (.f 8 (.l [9] (.f 11 .e))))) (.f 2 (.f 5 (.f 8 (.l [9] (.f 11 .e)))))))<|
 au
)<|fun s1 _ k b3 p5 c5 p6 c6 r_1 p7 c7=>k<|
  wC (fun s2 K=>∀ p17 c17 r_5,K [4,5] [(0,[]),(2,bx b3 29 [sv p5 s1.1 c5,sv p17 s2 c17,sv p7 s1.2.2 c7]),(3,r_5)] [0,2] [] [Al xH 107 r_5 p17 c17 s2]) (
  zH<|qB 1 u<|qG 0 u u u<|zA 2 u<|zK<|zX<|
  wD (fun s3 K=>∀ p18 c18 r_6,K [1,2,4,5,21,22] [(2,bx b3 29 [sv p5 s1.1 c5,sv p18 s3.2 c18,sv p7 s1.2.2 c7]),(3,r_6)] [3,5,4,6,0,2] [(23,vi s3.1)] [Al xH 107 r_6 p18 c18 s3.2]) (gv (fun _ k=>k p6 c6 r_1) [0,1,2,3] (gq [1,3,5,4,6,0,2]))<|
  fun s3 _ k p18 c18 r_6=>k<|jA 1 u<|zQ<|zS u (jC<|zQ<|zX<|zH<|zA 1 u<|yJ 2 u u u<|fun x1 b8 o1=>yU true zZj (gk 0) u<|fun p19 c19=>vH .s (.agg k2)<|fun b9=>
  zA 1 u<|qU .s 4 u u u<|zK<|uR [] [2,4] 9<|qR 0 1 u u<|wS 1 2 u u u u<|zW 6 [2] u<|qR 3 3 u u<|wS 4 4 u u u u<|qM 5<|qL (.f u) [] [] zHc u u u (cq [0])<|
  fun r10 _ k p20 c20 r_7=>k<|qN<|jdI 6 3 u u u u<|fun x2 h1 b10 o2 hp1=>qR 7 3 u u<|uI 5 0 u u<|qM 8<|jsA (.f u) 3 4 sI.snd.snd.snd.fst r10 false u hp1 h1 u u (vL (gk 0))<|fun r_8=>qN<|qT<|qK<|zH<|qB 2 u<|
  qG 0 u u u<|zA 2 u<|zK<|zX<|
  jbL (fun q_=>[bx b1 29 (vT y0 p1 c1 p2 c2 p3 c3),bx b2 29 k9,bx b3 29 [sv p5 s1.1 c5,.slice p18 q_ c18,sv p7 s1.2.2 c7],r_8,bx b9 107 (zVs x1 p19 c19),[]]) (gk 0) u<|
  wD (fun s4 K=>∀ p21 c21 r_9,K [1,2,4,5,6,7,21,22,23,37,38] [(2,bx b3 29 [sv p5 s1.1 c5,sv p21 s4.2 c21,sv p7 s1.2.2 c7]),(3,r_9)] [7,8,10,9,11,12,4] [(39,vi s4.1)] [Al xH 107 r_9 p21 c21 s4.2]) (gv (fun _ k=>k p18 c18 r_8) [0,1,2,3,4,905] (gq [0,7,8,10,9,11,12,4]))<|
  fun s4 _ k p21 c21 r_9=>k<|jA 1 u<|zQ<|zS u (jC<|zQ<|zX<|zH<|yJ 3 u u u<|fun x3 b11 o3=>yU true zYG (gk 0) u<|vH .s (.agg #[vs [],vi 0,vb false,vs []])<|fun b12=>qU .s 6 u u u<|zK<|
  wC (fun s5 K=>K [1,2,4,5,6,7,9,21,22,23,37,38,39] [] [2,3,4,5,6,1,7,8] [(58,vb s5)] []) (
 au
)<|fun s5 _ k=>k<|zS u (vG<|qB 1 u<|qG 2 u u u<|zA 1 u<|qB 1 u<|qG 6 u u u<|jia 5 u u u<|fun x4 h2 b13 o4 hp2=>qB 2 u<|
  jsA .s 3 5 sI.snd.snd.fst x3.2.1 false u hp2 h2 u u vI<|fun r_10=>wK<|vM<|qK<|jB 2 u<|
  jbL (fun q_=>[bx b1 29 (vT y0 p1 c1 p2 c2 p3 c3),bx b2 29 k9,bx b3 29 [sv p5 s1.1 c5,.slice p21 q_ c21,sv p7 s1.2.2 c7],r_10,bx b9 107 (zVs x1 p19 c19),[],bx b12 109 (zPN x3)]) (gk 0) u<|
 au
)<|
 au
)<|
 au
)<|
 au
)<|
 au
abbrev zTf:=@Cn.mk 54 0 _ @zNl
theorem zPk{y0:zM}{y1:yG}: zP qd prog 19 [.agg (vT y0 p1 c1 p2 c2 p3 c3).toArray,.agg #[vi y1.1,vi y1.2]] [] (vW y0 p1 c1 p2 c2 p3 c3 [Pt (wN 64 (zC .u8)) 3 0 vA]) (zCX y0 y1) fun r K=>∀ p4 c4 p5 c5 p6 c6 p7 c7 p8 c8 p9 c9,K (.tuple #[.agg (zOf r.1 p4 c4 p5 c5 p6 c6 p7 c7 p8 c8 p9 c9).toArray,vi r.2]) [] (zOr r.1 p4 c4 p5 c5 p6 c6 p7 c7 p8 c8 p9 c9 []) :=
 zN call19 func19 u fun X=>zH<|wR .s u<|fun b1=>wR .s u<|fun b2=>vH .s (.agg k0)<|fun b3=>zA 1 u<|zK<|zH<|wQ 0 3 u u u<|
  wF zPn u (cq [0,1,2])<|fun r1 _ k p4 c4=>k<|zA 5 u<|zK<|zQ<|jA 2 u<|zS u (zH<|qE (.agg k0)<|zA 1 u<|
  qU .s 2 u u u<|zA 1 u<|zK<|qO<|vD<|
  yD u (lC 2 (.agg k0) u u (lT u lN)) (fun _ k=>k none 0 none 0 none 0 none 0 none 0 none 0) [] ⟨gn,gn,gn,gn,gn,gn,d⟩)<|jC<|
  zQ<|
  z5h (fun K=>K [2,3,4,6] [] [0,1,2,3,4] [(37,vb (if y1.1 != 1 then(y1.1 != 2)||((y1.2 != 1)&&(y1.2 != 2)) else(y1.2 != 1)&&(y1.2 != 2)))] []) (
  vG<|qB 0 u<|qG 1 u u u<|zA 2 u<|tO (b:=y1.1 != 1) 23 u (fun hb1=>qB 0 u<|qG 1 u u u<|zA 1 u<|qE (vb (y1.1 != 2))<|zA 1 u<|tO (b:=y1.1 != 2) 28 u (fun hb2=>zA 8 u<|qE (vb true)<|wK<|
  uD 37 (vb (if y1.1 != 1 then(y1.1 != 2)||((y1.2 != 1)&&(y1.2 != 2)) else(y1.2 != 1)&&(y1.2 != 2))) u (by rw[hb1,hb2];rfl)<|qI (gv kk [0,1,2] (gq [0,1,2,3,4])))<|fun hb2=>qB 1 u<|qG 1 u u u<|zA 2 u<|
  tO (b:=y1.2 != 1) 32 u (fun hb3=>qB 1 u<|qG 1 u u u<|zA 1 u<|qE (vb (y1.2 != 2))<|qE (vb (y1.2 != 2))<|wK<|
  uD 37 (vb (if y1.1 != 1 then(y1.1 != 2)||((y1.2 != 1)&&(y1.2 != 2)) else(y1.2 != 1)&&(y1.2 != 2))) u (by rw[hb1,hb2,hb3];rfl)<|qI (gv kk [0,1,2] (gq [0,1,2,3,4])))<|fun hb3=>zA 3 u<|qE (vb false)<|
  qE (vb false)<|wK<|uD 37 (vb (if y1.1 != 1 then(y1.1 != 2)||((y1.2 != 1)&&(y1.2 != 2)) else(y1.2 != 1)&&(y1.2 != 2))) u (by rw[hb1,hb2,hb3];rfl)<|qI (gv kk [0,1,2] (gq [0,1,2,3,4])))<|fun hb1=>zA 3 u<|
  qE (vb false)<|zA 1 u<|qB 1 u<|qG 1 u u u<|zA 2 u<|tO (b:=y1.2 != 1) 32 u (fun hb4=>qB 1 u<|qG 1 u u u<|zA 1 u<|qE (vb (y1.2 != 2))<|qE (vb (y1.2 != 2))<|wK<|
  uD 37 (vb (if y1.1 != 1 then(y1.1 != 2)||((y1.2 != 1)&&(y1.2 != 2)) else(y1.2 != 1)&&(y1.2 != 2))) u (by rw[hb1,hb4];rfl)<|qI (gv kk [0,1,2] (gq [0,1,2,3,4])))<|fun hb4=>zA 3 u<|qE (vb false)<|qE (vb false)<|
  wK<|uD 37 (vb (if y1.1 != 1 then(y1.1 != 2)||((y1.2 != 1)&&(y1.2 != 2)) else(y1.2 != 1)&&(y1.2 != 2))) u (by rw[hb1,hb4];rfl)<|qI (gv kk [0,1,2] (gq [0,1,2,3,4])))<|fun _ k=>k<|zS u (zH<|
  qE (.agg k0)<|qU .s 2 u u u<|zA 1 u<|zK<|qO<|vD<|
  yD u (lC 2 (.agg k0) u u (lT u lN)) (fun _ k=>k none 0 none 0 none 0 none 0 none 0 none 0) [] ⟨gn,gn,gn,gn,gn,gn,d⟩)<|jC<|
  zH<|zA 2 u<|wQ 0 3 u u u<|zA 1 u<|wQ 1 2 u u u<|wF zLs u (cq [1,2,3,0])<|fun r2 _ k p5 c5=>k<|wF zOA u (cq [0])<|fun r3 _ k p6 c6=>k<|zA 3 u<|vH .s (.agg k5)<|
  fun b4=>qU .s 3 u u u<|zA 1 u<|zK<|zQ<|jA 2 u<|zS u (zH<|qE (.agg k0)<|zA 1 u<|qU .s 2 u u u<|
  zA 1 u<|zK<|qO<|vD<|
  yD u (lC 2 (.agg k0) u u (lT u lN)) (fun _ k=>k none 0 none 0 none 0 none 0 none 0 none 0) [] ⟨gn,gn,gn,gn,gn,gn,d⟩)<|jC<|
  zH<|zA 1 u<|wQ 3 2 u u u<|wF zPr u (cq [0,6])<|fun r4 _ k p7 c7=>k<|wF zLz u (cq [0])<|fun r5 _ k p8 c8=>k<|wF zLB u (cq [4,0])<|fun r6 _ k p9 c9=>k<|zA 1 u<|zK<|zH<|
  wQ 0 3 u u u<|zA 1 u<|wF zNl u (cq [6,7,8,0])<|fun r7 _ k p10 c10 p11 c11 p12 c12=>k<|zA 1 u<|
  qE (.agg #[sv p10 r7.1 c10,sv p11 r7.2.1 c11,sv p12 r7.2.2 c12,sv p4 r1.1 c4,.slice none 0 0,vi 0,.slice none 0 0])<|
  vH .s (.agg k0)<|fun b5=>qU .s 4 u u u<|zK<|zH<|qB 0 u<|wQ 4 3 u u u<|zA 1 u<|wQ 1 2 u u u<|
  wF zLs u (cq [0,1,2,8])<|fun r8 _ k p13 c13=>k<|qB 4 u<|qU .s 4 u u u<|zK<|zQ<|zH<|zA 2 u<|qB 4 u<|qG 4 u u u<|wF zOA u (cq [0])<|fun r9 _ k p14 c14=>k<|zA 3 u<|qB 5 u<|
  qU .s 4 u u u<|zA 1 u<|zK<|jA 2 u<|zS u (zH<|qE (.agg k0)<|zA 1 u<|qU .s 2 u u u<|zA 1 u<|zK<|qO<|
  vD<|yD u (lC 2 (.agg k0) u u (lT u lN)) (fun _ k=>k none 0 none 0 none 0 none 0 none 0 none 0) [] ⟨gn,gn,gn,gn,gn,gn,d⟩
  )<|jC<|zH<|wQ 4 7 u u u<|qU .s 2 u u u<|zA 1 u<|zK<|qO<|
  yD u (lC 2 (.agg #[sv p10 r7.1 c10,sv p11 r7.2.1 c11,sv p12 r7.2.2 c12,sv p4 r1.1 c4,sv p13 r8 c13,vi r9.1.1,sv p14 r9.1.2 c14]) u u (lT u lN)) (fun _ k=>k p10 c10 p11 c11 p12 c12 p4 c4 p13 c13 p14 c14) [] (gq [2,3,4,10,1,0])
abbrev zWn:=@Cn.mk 19 0 _ @zPk
theorem zHR{y0:zI}: zP qd prog 215 [.agg #[vb y0.1,vs y0.2]] [] [] (zDk y0) fun r K=>K (vs r) [] [] :=
 zN call215 func215 u fun X=>
 au
abbrev zWx:=@Cn.mk 215 0 _ @zHR
theorem zHk{y0:Int}{y1:Int}: zP qd prog 320 [vi y0,vi y1] [] [Tb prog "internal/strconv.uint64pow10" .u64 Lib.pow10Tab] (zDs y0 y1) fun r K=>K (vs r) [] []:=z8O Go.Proofs.Tryz.lays246 call320
abbrev zMe:=@Cn.mk 320 0 _ @zHk
theorem zPh{y0:Int}: zP qd prog 281 [vi y0] [] [Tb prog "internal/strconv.uint64pow10" .u64 Lib.pow10Tab] (zG7 y0) fun r K=>K (vs r) [] [] :=
 zN call281 func281 u fun X=>jA 1 u<|zH<|zA 1 u<|wF zHk u (cq [0])<|fun r1 _ k=>k<|zA 1 u<|zK<|qO<|yB u u kk [] d
abbrev zPW:=@Cn.mk 281 0 _ @zPh
attribute [instance] zTf zWn zWx zMe zPW
theorem zL2{y0:Int}: zP qd prog 216 [vi y0] [] [Tb prog "internal/strconv.uint64pow10" .u64 Lib.pow10Tab] (zFJ y0) fun r K=>K (vs r) [] [] :=
 zN call216 func216 u fun X=>
 au
abbrev zZB:=@Cn.mk 216 0 _ @zL2
theorem zOK{y0:List zG}{y1:zG}: zP False prog 217 [sv p1 y0 c1,vs y1] [] [Rl wB p1 c1 y0] (zJ3 y0 y1) fun r K=>K (vs r) [] []:=z8y Go.Proofs.Tryz.lays156 Go.Proofs.Tryz.Builder_Extra_156 call217
abbrev zYy:=@Cn.mk 217 0 _ @zOK
theorem zLA{y0:wM}: zP False prog 139 [.agg (zQq y0).toArray] [] [Pt (wN 4 wB) 1 0 zAl,Tb prog "internal/strconv.uint64pow10" .u64 Lib.pow10Tab] (zE3 y0) fun r K=>K (vs r) [] [] :=
 zN call139 func139 u fun X=>zH<|wR .s u<|fun b1=>zA 1 u<|zK<|uR [] [0] 9<|qR 0 2 u u<|wS 1 0 u u u u<|jdgx 2 u (gk 0) u u<|fun x1=>jdl 3 false oS u (gk 0) u<|qR 4 0 u u<|uQ 5 0 2 u u u u<|qM 6<|
  qL (.f u) [] [] zHR u u u d<|fun r1 _ k=>k<|qN<|qM 7<|jbo (.f u) (e:=wB) 9 [vs x1,vs r1] ([x1,r1]:List zG) (rC vS (rC vS rN))<|fun r_1 p1 c1=>qN<|zW 0 [8] u<|qT<|qK<|
  wC (fun s1 K=>∀ p2 c2 r_2,K [1] [(1,r_2)] [2,3] [(3,sv p2 s1 c2)] [Al wB 9 r_2 p2 c2 s1]) (zH<|qB 2 u<|qG 0 u u u<|
  zA 1 u<|zK<|zS u (vG<|zA 1 u<|qB 3 u<|qG 0 u u u<|wF zL2 u (cq [3])<|fun r2 _ k=>k<|yI .s (e:=wB) 9 [vs r2] ([r2]:List zG) (rC vS rN)<|fun p3 c3=>uE .s 1 1 u (gk 0) u u<|fun x2 r_3 p4 c4=>
  zA 1 u<|wK<|qI (gv (fun _ k=>k p4 c4 r_3) [0,1] (gq [0,4,5])))<|yA<|qI (gv (fun _ k=>k p1 c1 r_1) [0,1] (gq [0,2,3])))<|fun s1 _ k p2 c2 r_2=>k<|
  wC (fun s2 K=>∀ p5 c5 r_4,K [] [(0,[]),(1,r_4)] [1,2] [(3,sv p5 s2 c5)] [Al wB 9 r_4 p5 c5 s2]) (zH<|qB 4 u<|
  qG 0 u u u<|zA 1 u<|zK<|zS u (vG<|zA 1 u<|qB 4 u<|qG 0 u u u<|yI .s (e:=wB) 9 [vs [102,114,111,109],vs y0.2.2.2] ([[102,114,111,109],y0.2.2.2]:List zG) (rC vS (rC vS rN))<|fun p6 c6=>
  uE .s 1 1 u (gk 0) u u<|fun x3 r_5 p7 c7=>zA 1 u<|wK<|qI (gv (fun _ k=>k p7 c7 r_5) [900,1] (gq [0,3,4])))<|yA<|qI (gv (fun _ k=>k p2 c2 r_2) [900,1] (gq [0,1,2])))<|fun s2 _ k p5 c5 r_4=>k<|zH<|zA 1 u<|
  qL .s [] [1] zOK u u u ⟨cl 1 0,d⟩<|fun r3 _ k=>k<|zA 1 u<|zK<|qO<|yB u u kk [] d
abbrev zQQ:=@Cn.mk 139 0 _ @zLA
theorem zKA{y0:wE}: zP qd prog 143 [.agg (zPN y0).toArray] [] [Tb prog "internal/strconv.uint64pow10" .u64 Lib.pow10Tab] (zD5 y0) fun r K=>K (vs r) [] [] :=
 zN call143 func143 u fun X=>zH<|wR .s u<|fun b1=>zA 1 u<|zK<|uR [] [0] 14<|qR 0 0 u u<|wS 1 0 u u u u<|xQ fun x1 h1=>xF 2 u (fun h=>zYu h u u h1)<|xQ fun x2 h2=>xF 3 u (fun h=>zYu h u u h2)<|qR 4 1 u u<|
  wS 5 0 u u u u<|qR 9 2 u u<|uQ 10 0 2 u u u u<|qM 6<|qL (.f u) [] [] zL2 u u u (cq [0])<|fun r1 _ k=>k<|qN<|xQ fun x3 h3=>xF 7 u (fun h=>zYu h u u h3)<|xQ fun x4 h4=>
  xF 8 u (fun h=>zYu h u u h4)<|qM 11<|qL (.f u) [] [] zHR u u u d<|fun r2 _ k=>k<|qN<|xQ fun x5 h5=>xF 12 u (fun h=>zYu h u u h5)<|zW 0 [13] u<|qT<|qK<|qO<|yB u u kk [] d
abbrev zPC:=@Cn.mk 143 0 _ @zKA
theorem zNK{y0:qC}: zP False prog 141 [.agg (zVs y0 p1 c1).toArray] [] (zZ9 y0 p1 c1 [Tb prog "internal/strconv.uint64pow10" .u64 Lib.pow10Tab]) (zG8 y0) fun r K=>K (vs r) [] [] :=
 zN call141 func141 u fun X=>zH<|wR .s u<|fun b1=>zA 1 u<|zK<|zH<|qB 0 u<|qG 0 u u u<|xQ fun x1 h1=>jv (fun h=>zYu h u u h1)<|
  jbo .s (e:=wB) 9 [vs [115,116,114,105,99,116],vs x1] ([[115,116,114,105,99,116],x1]:List zG) (rC vS (rC vS rN))<|fun r_1 p2 c2=>zA 2 u<|zK<|
  wC (fun s1 K=>∀ p3 c3 r_2,K [1] [(1,[]),(2,r_2)] [1,2] [(3,sv p3 s1.1 c3),(4,vs s1.2)] [Al wB 9 r_2 p3 c3 s1.1]) (
  zH<|qB 1 u<|qG 0 u u u<|zA 1 u<|zK<|zS u (xY [] [0] 9<|qR 0 0 u u<|wS 1 0 u u u u<|qR 2 2 u u<|wS 3 0 u u u u<|qM 4<|qL (.f u) [] [] zL2 u u u (cq [2])<|
  fun r1 _ k=>k<|qN<|xQ fun x2 h2=>xF 5 u (fun h=>zYu h u u h2)<|qM 6<|jbo (.f u) (e:=wB) 9 [vs [114,117,108,101],vs y0.1,vs x2] ([[114,117,108,101],y0.1,x2]:List zG) (rC vS (rC vS (rC vS rN)))<|
  fun r_3 p4 c4=>qN<|zW 0 [7,8] u<|qT<|qI (gv (fun _ k=>k p4 c4 r_3) [0,901,2] (gq [0,2,3])))<|yA<|qI (gv (fun _ k=>k p2 c2 r_1) [0,901,1] (gq [0,1,2])))<|fun s1 _ k p3 c3 r_2=>k<|
  wC (fun s2 K=>∀ p5 c5 r_4,K [1,4] [(2,r_4)] [1,2] [(3,sv p5 s2 c5)] [Al wB 9 r_4 p5 c5 s2]) (zH<|qB 3 u<|qG 0 u u u<|
  zA 2 u<|zK<|zX<|
  wD (fun s3 K=>∀ p6 c6 r_5,K [1,4,23,24] [(2,r_5)] [1,2] [(3,sv p6 s3.1 c6),(25,vi s3.2)] [Al wB 9 r_5 p6 c6 s3.1]) (gv (fun _ k=>k p3 c3 r_2) [0,901,2] (gq [0,1,2]))<|
  fun s3 _ k p6 c6 r_5=>k<|jA 1 u<|zQ<|zS u (jC<|zQ<|zX<|zH<|zA 1 u<|yJ 1 u u u<|fun x3 b2 o1=>yU true xZ (gk 0) u<|vH .s (.agg k3)<|fun b3=>zA 1 u<|qU .s 3 u u u<|zK<|zH<|
  wQ 3 2 u u u<|wF zHR u d<|fun r2 _ k=>k<|zA 1 u<|zK<|wC (fun s4 K=>K [1,3,4,23,24,25] [(3,[])] [1,2,3] [(7,vs s4)] []) (zH<|zA 1 u<|
  qB 3 u<|qG 0 u u u<|zA 3 u<|zK<|zS u (vG<|zA 1 u<|xQ fun x4 h3=>jv (fun h=>zYu h u u h3)<|zA 1 u<|wK<|qI (gv kk [0,901,2,903] (gq [1,2,3])))<|yA<|qI (gv kk [0,901,2,903] (gq [1,2,3]))
  )<|fun s4 _ k=>k<|vG<|zA 2 u<|yI .s (e:=wB) 9 [vs s4] ([s4]:List zG) (rC vS rN)<|fun p7 c7=>uE .s 2 1 u (gk 0) u u<|fun x5 r_6 p8 c8=>zA 1 u<|wK<|vM<|qK<|jB 2 u<|
  yH (gv (fun _ k=>k p8 c8 r_6) [0,901,2] (gq [0,3,4])))<|uA<|yR<|yY<|yZ<|qI (gv (fun _ k=>k p6 c6 r_5) [0,901,2] (gq [0,1,2])))<|fun s2 _ k p5 c5 r_4=>k<|zH<|zA 2 u<|qB 4 u<|wQ 0 2 u u u<|wF zHR u d<|
  fun r3 _ k=>k<|yI .s (e:=wB) 9 [vs s1.2,vs r3] ([s1.2,r3]:List zG) (rC vS (rC vS rN))<|fun p9 c9=>uE .s 2 1 u (gk 0) u u<|fun x6 r_7 p10 c10=>qL .s [] [2] zOK u u u ⟨cl 2 0,d⟩<|fun r4 _ k=>k<|zA 1 u<|
  zK<|qO<|yB u u kk [] d
abbrev zTL:=@Cn.mk 141 0 _ @zNK
theorem zLn{y0:zAG}: zP qd prog 137 [pt b1 0] [bx b1 145 (zCr y0 p1 c1)] [Rl wB p1 c1 y0.1] (zAB y0) fun r K=>∀ p2 c2,K (vs r.1) [bx b1 145 [sv p2 r.2.1 c2,vb r.2.2]] [Rl wB p2 c2 r.2.1] :=
 zN call137 func137 u fun X=>
 au
abbrev zQ5:=@Cn.mk 137 0 _ @zLn
theorem zYf{y0:zG}: zP qd prog 280 [vs y0] [] [] (zKH y0) fun r K=>K (.tuple #[.agg #[vb r.1.1,vs r.1.2],vi r.2]) [] [] :=
 zN call280 func280 u fun X=>hI 1 2 1 (fun(s1:zG×Bool) K=>K [2,4] [(1,.c [(0,vb s1.2)])] [] [(0,vs s1.1)] [])<|hI 1 2 0 (fun(s2:Bool) K=>K [0,2,4] [] [] [(12,vb s2)] [])<|
 au
abbrev zYg:=@Cn.mk 280 0 _ @zYf
theorem zKm{y0:zG}{y1:zG}: zP qd prog 345 [vs y0,vs y1] [] [] (zBh y0 y1) fun r K=>K (vb r) [] [] :=
 zN call345 func345 u fun X=>hI 1 1 0 (fun(s1:Bool) K=>K [] [] [] [(4,vb s1)] [])<|
 au
abbrev zKy:=@Cn.mk 345 0 _ @zKm
attribute [instance] zZB zYy zQQ zPC zTL zQ5 zYg zKy
theorem zKt{y0:zG}{y1:zG}: zP qd prog 319 [vs y0,vs y1] [] [] (zCw y0 y1) fun r K=>K (.tuple #[vs r.1,vb r.2]) [] [] :=
 zN call319 func319 u fun X=>
 au
abbrev zKu:=@Cn.mk 319 0 _ @zKt
attribute [instance] zKu
theorem zTC{y0:zG}{y1:zG}: zP qd prog 279 [vs y0,vs y1] [] [] (zDK y0 y1) fun r K=>K (.tuple #[vs r.1,vb r.2]) [] [] :=
 zN call279 func279 u fun X=>
 au
abbrev zTO:=@Cn.mk 279 0 _ @zTC
end Go.Proofs.YtmpieaddiaihmaaGreatDoor
