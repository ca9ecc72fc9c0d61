/- A part. Conditions: none. -/
import Derived.Test.YtgdgcdmdogdmgaaGreatDoorWalk3
namespace Go.Proofs.YtgdgcdmdogdmgaaGreatDoor
open Go Go.GD Go.Proofs.Tryz
set_option autoImplicit false
set_option linter.unusedVariables false
set_option maxRecDepth 100000
set_option linter.defProp false
variable {qd:Prop}
variable {yl1:Nat}{p1 p2 p3 p4 p5 p6 p7 p8 p9:Option Addr}{c1 c2 c3 c4 c5 c6 c7 c8 c9:Nat}{b1 b2 b3 b4 b5 b6 b7 b8 b9 b10 b11:Nat}{r_1 r_2 r_3 r_4 r_5 r_6:zG}
attribute [instance] zX8 zYF
theorem zCa{y0:uK}{y1:Int}: zP qd prog 6 [pt b1 0,vi y1] [bx b1 65 (zJc y0 p1 c1)] (zJj y0 p1 c1 []) (tC y0 y1) fun r K=>K (vi r.1) [bx b1 65 [sv p1 y0.1 c1,vi r.2]] [] :=
 zO call6 func6 u fun X=>
 au
abbrev z0a:=@Cn.mk 6 0 _ @zCa
attribute [instance] z0a
theorem zHq{y0:uK}{y1:Int}: zP qd prog 31 [pt b1 0,vi y1] [bx b1 65 (zJc y0 p1 c1)] (zJj y0 p1 c1 []) (zDC y0 y1) fun r K=>K (.agg #[vb r.1.1,vs r.1.2]) [bx b1 65 [sv p1 y0.1 c1,vi r.2]] [] :=
 zO call31 func31 u fun X=>zJ<|vD .s (.agg k0)<|fun b2=>zL<|zJ<|zA 3 u<|qK .s [0] [] zCa u u u (cq [0])<|fun r1 _ k=>k<|zA 1 u<|zL<|zJ<|zA 4 u<|tE fun x1 h1=>jv (fun h=>z9q h u u h1)<|zA 1 u<|
  qD (.int .u8 (IntKind.u8.wrap (zM ((97:Int)+x1))))<|
 au
abbrev zTb:=@Cn.mk 31 0 _ @zHq
attribute [instance] zTb
theorem zMX{y0:uK}{y1:Int}{y2:Int}: zP qd prog 36 [pt b1 0,vi y1,vi y2] [bx b1 65 (zJc y0 p1 c1)] (zJj y0 p1 c1 []) (zGh y0 y1 y2) fun r K=>∀ p2 c2,K (sv p2 r.1 c2) [bx b1 65 [sv p1 y0.1 c1,vi r.2]] [Rl qH p2 c2 r.1] :=
 zO call36 func36 u fun X=>hR 7 1 qH 84<|hI 0 3 2 (fun(s1:(List zC)×Int×Int) K=>∀ p2 c2 r_1,K [0,2] [(0,.c [(1,vi s1.2.2)]),(1,.r r_1)] [1] [(7,sv p2 s1.1 c2),(8,vi s1.2.1)] [Al qH 84 r_1 p2 c2 s1.1])<|
 au
abbrev zRk:=@Cn.mk 36 0 _ @zMX
theorem zPb{y0:uK}{y1:List Int}: zP qd prog 32 [pt b1 0,sv p2 y1 c2] [bx b1 65 (zJc y0 p1 c1)] (zJj y0 p1 c1 [Rl (zH .i64) p2 c2 y1]) (zKA y0 y1) fun r K=>K (vi r.1) [bx b1 65 [sv p1 y0.1 c1,vi r.2]] [] :=
 zO call32 func32 u fun X=>
 au
abbrev zWl:=@Cn.mk 32 0 _ @zPb
theorem zQh{y0:uK}{y1:List zD}: zP qd prog 33 [pt b1 0,sv p2 y1 c2] [bx b1 65 (zJc y0 p1 c1)] (zJj y0 p1 c1 [Rl qX p2 c2 y1]) (zKK y0 y1) fun r K=>K (vs r.1) [bx b1 65 [sv p1 y0.1 c1,vi r.2]] [] :=
 zO call33 func33 u fun X=>
 au
abbrev zW6:=@Cn.mk 33 0 _ @zQh
theorem zSl{y0:List zC}: zP qd prog 35 [sv p1 y0 c1] [] [Rl qH p1 c1 y0] (zMF y0) fun r K=>∀ p2 c2,K (sv p2 r c2) [] [Rl qH p2 c2 r] :=
 zO call35 func35 u fun X=>jA 1 u<|zJ<|zA 1 u<|uA qH 84 <|zL<|zS<|jA 3 u<|zZ<|
  wP (fun s1 K=>∀ p2 c2 r_1,K [7,8] [(0,r_1)] [1] [(3,sv p2 s1.1 c2),(9,vi s1.2)] [Al qH 84 r_1 p2 c2 s1.1]) (gv (fun _ k=>k none 0 []) [0] (gq [0,1]))<|
  fun s1 _ k p2 c2 r_1=>k<|jA 1 u<|zS<|zV u (jC<|zS<|zZ<|zJ<|yK 1 u u u<|fun x1 b1 o1=>yS true tH (gk 0) u<|vD .s (.agg k0)<|fun b2=>wA .s 1 u u u<|zL<|jA 1 u<|
  wR (fun s2 K=>K [3,5,7,8,9] [] [1,2] [(6,vi s2)] []) (zZ<|
  wP (fun s3 K=>K [3,5,7,8,9] [] [1,2] [(6,vi s3)] []) (gv kk [0,1] (gq [1,2]))<|fun s3 _ k=>k<|zS<|
  wR (fun s4 K=>K [3,5,6,7,8,9] [] [0,1] [(48,vb s4)] []) (jdS [] [0,1] 36<|qB 31 [0,1,2,3,4] u<|jsg 17 u (qB 29 [5,6] u<|jdI 7 0 u u u u<|
  fun x2 h1 b3 o2 hp1=>wE 8 1 u u<|jdL 9 0 0 sI.snd false oS u u hp1 h1 u<|wE 10 1 u u<|yA 11 1 u u u u<|qB 22 [12,13] u<|jsg 26 u (qB 2 [14,15,16,17,18,19,20,21,22,23,24,25,26,27,28,29,30,31,32,33] u<|
  yR 34 (vb true) u<|yR 35 (vb true) u<|wI<|
 au
)<|qB 20 [14,15] u<|jdI 16 0 u u u u<|fun x3 h2 b4 o3 hp2=>wE 17 1 u u<|jdL 18 0 0 sI.snd false oS u u hp2 h2 u<|wE 19 1 u u<|
  yA 20 1 u u u u<|qB 13 [21,22] u<|jsg 35 u (qB 11 [23,24] u<|jdI 25 0 u u u u<|fun x4 h3 b5 o4 hp3=>wE 26 0 u u<|jdL 27 0 0 sI.fst false oB u u hp3 h3 u<|qB 7 [28] u<|yR 29 (vb (!x4.1)) u<|
  qB 5 [30] u<|jsg 43 u (wE 31 0 u u<|yA 32 1 u u u u<|yR 33 (vb x1.1) u<|yR 34 (vb x1.1) u<|yR 35 (vb x1.1) u<|wI<|
 au
)<|qB 3 [31,32] u<|yR 33 (vb false) u<|
  yR 34 (vb false) u<|yR 35 (vb false) u<|wI<|
 au
)<|qB 7 [23,24,25,26,27,28] u<|yR 29 (vb false) u<|qB 3 [30,31,32] u<|yR 33 (vb false) u<|yR 34 (vb false) u<|yR 35 (vb false) u<|
  wI<|
 au
)<|qB 1 [5,6,7,8,9,10,11,12,13,14,15,16,17,18,19,20,21,22,23,24,25,26,27,28,29,30,31,32,33,34] u<|yR 35 (vb false) u<|wI<|
 au
)<|
 au
)<|fun s2 _ k=>k<|zS<|
  wR (fun s5 K=>K [3,5,6,7,8,9] [] [0,1] [(62,vb s5)] []) (jdS [] [0,1] 12<|qB 7 [0,1,2,3,4] u<|jsg 55 u (qB 5 [5,6] u<|jdI 7 0 u u u u<|
  fun x5 h4 b6 o5 hp4=>jdL 8 0 0 sI true tH u u hp4 h4 u<|xV 9 1 2 u u u u<|yR 10 (vb (x5==x1)) u<|yR 11 (vb (x5==x1)) u<|wI<|
 au
)<|qB 1 [5,6,7,8,9,10] u<|
  yR 11 (vb false) u<|wI<|
 au
)<|fun s5 _ k=>k<|zV u (
 au
)<|jC<|zJ<|zA 1 u<|qD (.agg k0)<|
  uC .s (e:=qH) 84 [vb false,vs []] ([(false,[])]:List zC) (rC (vP vB vS) rN)<|fun p3 c3=>xL .s 0 1 u (gk 0) u u<|fun x6 r_2 p4 c4=>zA 1 u<|zL<|tB [] [] 8<|qB 5 [0,1,2] u<|
  jdV 3 0 u u u u<|fun u1 p5 c5 f1=>qB 2 [4,5] u<|jdV 6 0 u u u u<|fun u2 p6 c6 f2=>qQ 7<|jcp (.f u) 0 0 u (vwV f1) (srV 0 0 f2 u) u u<|fun r_3=>qU<|wI<|qN<|vM<|zA 2 u<|wW 1 2 u u u<|
  jia 0 u u u<|fun x7 h6 b7 o6 hp5=>jsA .s 0 0 sI x1 true u hp5 h6 u u (vP vB vS)<|fun r_4=>wN<|yL<|qN<|jB 2 u<|jrE 0 3 u u<|
 au
)<|
 au
abbrev z0F:=@Cn.mk 35 0 _ @zSl
theorem zQk{y0:uK}{y1:Int}{y2:Int}{y3:Int}: zP qd prog 8 [pt b1 0,vi y1,vi y2,vi y3] [bx b1 65 (zJc y0 p1 c1)] (zJj y0 p1 c1 []) (zKB y0 y1 y2 y3) fun r K=>∀ p2 c2 p3 c3 p4 c4,K (.agg (vJ r.1 p2 c2 p3 c3 p4 c4).toArray) [bx b1 65 [sv p1 y0.1 c1,vi r.2]] (vO r.1 p2 c2 p3 c3 p4 c4 []) :=
 zO call8 func8 u fun X=>zJ<|vD .s (.agg k1)<|fun b2=>zL<|zJ<|vD .s (.agg k1)<|fun b3=>uA tN 86<|uA yT 93<|uA zB0 96<|zL<|
  wR (fun s1 K=>∀ p2 c2 r_1,K [0,1,3,8,9] [(0,bx b1 65 [sv p1 y0.1 c1,vi s1.1]),(2,bx b3 29 [sv p2 s1.2 c2,sv none ([]:List zR) 0,sv none ([]:List wB) 0]),(3,r_1)] [3,1,0] [] [Al tN 86 r_1 p2 c2 s1.2]) (
  zJ<|zA 3 u<|qK .s [0] [] zCa u u u (cq [3])<|fun r1 _ k=>k<|zA 1 u<|zL<|zZ<|
  wP (fun s2 K=>∀ p3 c3 r_2,K [0,1,3,8,9] [(0,bx b1 65 [sv p1 y0.1 c1,vi s2.2.1]),(2,bx b3 29 [sv p3 s2.2.2 c3,sv none ([]:List zR) 0,sv none ([]:List wB) 0]),(3,r_2)] [3,1,0] [(10,vi s2.1)] [Al tN 86 r_2 p3 c3 s2.2.2]) (gv (fun _ k=>k none 0 []) [0,1,2,3,4,5] (gq [2,3,1,0]))<|
  fun s2 _ k p3 c3 r_2=>k<|zS<|jA 2 u<|zV u (jC<|zS<|zZ<|zJ<|zA 2 u<|qK .s [0] [] zHq u u u (cq [1])<|fun r2 _ k=>k<|zA 1 u<|
  uC .s (e:=zH .i64) 3 [vi 1,vi 2,vi 2,vi 2,vi 3] ([1,2,2,2,3]:List Int) (rC vI (rC vI (rC vI (rC vI (rC vI rN)))))<|fun p4 c4=>qK .s [0] [] zPb u u u (cq [2,0])<|fun r3 _ k=>k<|zA 1 u<|
  uC .s (e:=qX) 9 [vs [],vs [],vs [97,110,110],vs [98,111,98]] ([[],[],[97,110,110],[98,111,98]]:List zD) (rC vS (rC vS (rC vS (rC vS rN))))<|fun p5 c5=>qK .s [0] [] zQh u u u (cq [3,0])<|fun r4 _ k=>
  k<|qD (.agg #[vb r2.1.1,vs r2.1.2,vi r3.1,vi 0,vs r4.1])<|vD .s (.agg k4)<|fun b4=>wA .s 6 u u u<|zL<|
  wR (fun s3 K=>K [0,1,3,8,9,10,11] [(0,bx b1 65 [sv p1 y0.1 c1,vi s3.1]),(6,bx b4 86 [vb r2.1.1,vs r2.1.2,vi r3.1,vi s3.2,vs r4.1])] [3,2,4,5] [] []) (
  zJ<|qC 2 u<|qJ 6 u u u<|zA 1 u<|zL<|zV u (vM<|zA 1 u<|qK .s [0] [] zCa u u u (cq [3])<|fun r5 _ k=>k<|qC 3 u<|wA .s 6 u u u<|wN<|qI (gv kk [0,1,2,3,4,5,6] (gq [3,2,4,5])))<|uM<|
  qI (gv kk [0,1,2,3,4,5,6] (gq [3,2,4,5])))<|fun s3 _ k=>k<|jA 1 u<|wR (fun s4 K=>K [0,1,3,8,9,10,11] [] [0,1,2,3] [(12,vb s4)] []) (zJ<|qC 0 u<|
  qJ 2 u u u<|zA 2 u<|zL<|zZ<|
  wP (fun s5 K=>K [0,1,3,8,9,10,11,44,45] [] [1,0,2,3] [(12,vb s5.1),(46,vi s5.2)] []) (gv kk [0,1,2,3,4,5,6] (gq [1,0,2,3]))<|
  fun s5 _ k=>k<|jA 1 u<|zS<|zV u (jC<|zS<|zZ<|zJ<|jia 0 u u u<|fun x1 h1 b5 o1 hp1=>jlA 3 0 sI true zSw u hp1 h1 u<|vD .s (.agg k4)<|fun b6=>wA .s 7 u u u<|zL<|
  jjqK (fun K=>K [0,1,3,8,9,10,11,44,45,46] [(7,[])] [0,1,2,3] [(12,vb (s5.1||(x1.1==r2.1)))] []) (vM<|zA 2 u<|
  jsp (b:=s5.1) 51 u (fun hb1=>zA 5 u<|qD (vb true)<|zA 1 u<|wN<|xR 12 (vb (s5.1||(x1.1==r2.1))) u (by rw[hb1];rfl)<|qI (gv kk [0,1,2,3,4,5,6,907] (gq [0,1,2,3])))<|fun hb1=>qC 0 u<|wW 7 2 u u u<|
  qC 0 u<|wW 6 2 u u u<|qD (vb (x1.1==r2.1))<|qD (vb (x1.1==r2.1))<|zA 1 u<|wN<|xR 12 (vb (s5.1||(x1.1==r2.1))) u (by rw[hb1];rfl)<|qI (gv kk [0,1,2,3,4,5,6,907] (gq [0,1,2,3])))<|fun _ k=>k<|yL<|qN<|
  jB 2 u<|uG (gv kk [0,1,2,3,4,5,6] (gq [0,1,2,3])))<|xF<|uP<|uS<|xD<|qI (gv kk [0,1,2,3,4,5,6] (gq [1,0,2,3])))<|fun s4 _ k=>k<|jA 2 u<|zV u (vM<|qC 0 u<|qJ 2 u u u<|wW 6 5 u u u<|
  uC .s (e:=tN) 86 [vb r2.1.1,vs r2.1.2,vi r3.1,vi s3.2,vs r4.1] ([(r2.1,r3.1,s3.2,r4.1)]:List qZ) (rC (vP (vP vB vS) (vP vI (vP vI vS))) rN)<|fun p6 c6=>xL .s 3 2 u (gk 0) u u<|fun x2 r_3 p7 c7=>qC 0 u<|
  wA .s 2 u u u<|wN<|yL<|qN<|jB 3 u<|uG (gv (fun _ k=>k p7 c7 r_3) [0,1,2,3,4,5] (gq [0,2,4,5])))<|uM<|yL<|qN<|jB 3 u<|uG (gv (fun _ k=>k p3 c3 r_2) [0,1,2,3,4,5] (gq [1,0,2,3])))<|xF<|uP<|uS<|xD<|
  qI (gv (fun _ k=>k p3 c3 r_2) [0,1,2,3,4,5] (gq [0,1,2,3])))<|fun s1 _ k p2 c2 r_1=>k<|
  wR (fun s6 K=>∀ p8 c8 r_4,K [0,1,8,9] [(0,bx b1 65 [sv p1 y0.1 c1,vi s6.1]),(2,bx b3 29 [sv p2 s1.2 c2,sv p8 s6.2 c8,sv none ([]:List wB) 0]),(4,r_4)] [1,0,3] [] [Al yT 93 r_4 p8 c8 s6.2]) (
  zJ<|zA 3 u<|qK .s [0] [] zCa u u u (cq [1])<|fun r6 _ k=>k<|zA 1 u<|zL<|zZ<|
  wP (fun s7 K=>∀ p9 c9 r_5,K [0,1,3,8,9] [(0,bx b1 65 [sv p1 y0.1 c1,vi s7.2.1]),(2,bx b3 29 [sv p2 s1.2 c2,sv p9 s7.2.2 c9,sv none ([]:List wB) 0]),(4,r_5)] [1,0,3] [(15,vi s7.1)] [Al yT 93 r_5 p9 c9 s7.2.2]) (gv (fun _ k=>k none 0 []) [0,1,2,3,4,5] (gq [2,1,0,3]))<|
  fun s7 _ k p9 c9 r_5=>k<|zS<|jA 2 u<|zV u (jC<|zS<|zZ<|zJ<|qC 1 u<|qJ 2 u u u<|zA 1 u<|wD zMT u d<|fun r7 _ k=>k<|zA 1 u<|qK .s [0] [] zCa u u u (cq [1])<|fun r8 _ k=>k<|zA 3 u<|
  qK .s [0] [] zMX u u u (cq [1])<|fun r9 _ k p10 c10=>k<|wD zSl u (cq [0])<|fun r10 _ k p11 c11=>k<|zA 2 u<|qK .s [0] [] zHq u u u (cq [3])<|fun r11 _ k=>k<|
  qD (.agg #[vs r7,vb (r8.1==0),vi 0,sv p11 r10 c11,vb r11.1.1,vs r11.1.2])<|vD .s (.agg k3)<|fun b7=>wA .s 6 u u u<|zL<|
  wR (fun s8 K=>K [0,1,3,8,9,15,16] [(0,bx b1 65 [sv p1 y0.1 c1,vi s8.1]),(6,bx b7 93 [vs r7,vb (r8.1==0),vi s8.2,sv p11 r10 c11,vb r11.1.1,vs r11.1.2])] [3,4,2,5,0] [] []) (
  zJ<|qC 1 u<|qJ 6 u u u<|zA 1 u<|zL<|zV u (vM<|zA 1 u<|qK .s [0] [] zCa u u u (cq [3])<|fun r12 _ k=>k<|qC 2 u<|wA .s 6 u u u<|wN<|qI (gv kk [0,1,2,3,4,5,6] (gq [3,4,2,5,0])))<|
  uM<|qI (gv kk [0,1,2,3,4,5,6] (gq [3,4,2,5,0])))<|fun s8 _ k=>k<|
  wR (fun s9 K=>K [0,1,3,8,9,15,16] [(0,bx b1 65 [sv p1 y0.1 c1,vi s9.1]),(6,bx b7 93 [vs r7,vb (r8.1==0),vi s8.2,sv p11 r10 c11,vb s9.2.1,vs s9.2.2])] [0,1,2,3,4] [] []) (
  zJ<|zA 1 u<|qK .s [0] [] zCa u u u (cq [0])<|fun r13 _ k=>k<|zA 1 u<|zL<|zV u (vM<|zA 1 u<|qK .s [0] [] zCa u u u (cq [0])<|fun r14 _ k=>k<|zA 3 u<|
  qK .s [0] [] zCa u u u (cq [0])<|fun r15 _ k=>k<|wD zMT u d<|fun r16 _ k=>k<|qD (.agg #[vb (decide (0<r14.1)),vs r16])<|qC 4 u<|wA .s 6 u u u<|wN<|
  qI (gv kk [0,1,2,3,4,5,6] (gq [0,1,2,3,4])))<|uM<|qI (gv kk [0,1,2,3,4,5,6] (gq [0,1,2,3,4])))<|fun s9 _ k=>k<|vM<|qC 1 u<|qJ 2 u u u<|wW 6 6 u u u<|
  uC .s (e:=yT) 93 [vs r7,vb (r8.1==0),vi s8.2,sv p11 r10 c11,vb s9.2.1,vs s9.2.2] ([(r7,r8.1==0,s8.2,r10,(s9.2.1,s9.2.2))]:List zR) (rC (vP vS (vP vB (vP vI (vP (vL (gk 4)) (vP vB vS))))) rN)<|fun p12 c12=>
  xL .s 4 3 u (gk 0) u u<|fun x3 r_6 p13 c13=>qC 1 u<|wA .s 2 u u u<|wN<|yL<|qN<|jB 3 u<|uG (gv (fun _ k=>k p13 c13 r_6) [0,1,2,3,4,5] (gq [0,2,3,5])))<|xF<|uP<|uS<|xD<|
  qI (gv (fun _ k=>k p9 c9 r_5) [0,1,2,3,4,5] (gq [0,1,2,3])))<|fun s6 _ k p8 c8 r_4=>k<|
  wR (fun s10 K=>∀ p14 c14 r_7,K [8,9] [(0,bx b1 65 [sv p1 y0.1 c1,vi s10.1]),(2,bx b3 29 [sv p2 s1.2 c2,sv p8 s6.2 c8,sv p14 s10.2 c14]),(5,r_7)] [1,2,0] [] [Al zB0 96 r_7 p14 c14 s10.2]) (
  zJ<|zA 1 u<|qK .s [0] [] zCa u u u (cq [1])<|fun r17 _ k=>k<|zA 1 u<|zL<|zZ<|
  wP (fun s11 K=>∀ p15 c15 r_8,K [0,1,8,9] [(0,bx b1 65 [sv p1 y0.1 c1,vi s11.2.1]),(2,bx b3 29 [sv p2 s1.2 c2,sv p8 s6.2 c8,sv p15 s11.2.2 c15]),(5,r_8)] [1,2,0] [(17,vi s11.1)] [Al zB0 96 r_8 p15 c15 s11.2.2]) (gv (fun _ k=>k none 0 []) [0,1,2,3,4,5] (gq [3,1,2,0]))<|
  fun s11 _ k p15 c15 r_8=>k<|zS<|
  z7v (fun K=>K [0,1,8,9,17] [] [1,2,3,0] [(123,vb ((decide (0<s11.1))&&(decide (0<(len s6.2)))))] []) (vM<|zA 3 u<|
  jsp (b:=decide (0<s11.1)) 118 u (fun hb2=>qC 1 u<|qJ 2 u u u<|zA 2 u<|qD (vb (decide (0<(len s6.2))))<|wN<|xR 123 (vb ((decide (0<s11.1))&&(decide (0<(len s6.2))))) u (by rw[hb2];rfl)<|
  qI (gv kk [0,1,2,3,4,5] (gq [1,2,3,0])))<|fun hb2=>zA 4 u<|qD (vb false)<|wN<|xR 123 (vb ((decide (0<s11.1))&&(decide (0<(len s6.2))))) u (by rw[hb2];rfl)<|qI (gv kk [0,1,2,3,4,5] (gq [1,2,3,0])))<|
  fun _ k=>k<|zV u (jC<|zS<|zZ<|
  wR (fun s12 K=>∀ b8 p16 c16,K [0,1,8,9,17] [(0,bx b1 65 [sv p1 y0.1 c1,vi s12.1]),(6,bx b8 93 (zNN s12.2 p16 c16))] [0,1,2,3] [(18,pt b8 0)] (zPG s12.2 p16 c16 [])) (
  jdS [] [2,4] 11<|wE 0 1 u u<|yA 1 2 u u u u<|qB 8 [2] u<|wE 3 1 u u<|yA 4 2 u u u u<|qB 5 [5] u<|jd2 6 9 (qK (.f u) [0] [] zCa u u u (cq [0])<|fun r18 _ k=>k<|qU<|
  jdI 7 2 u u u u<|fun x4 h4 b9 o2 hp2=>jdL 8 4 2 sI true zYr u u hp2 h4 u<|fun p17 c17=>qQ 9<|vD (.f u) (.agg k3)<|fun b10=>qU<|qQ 10<|
  wA (o:=0) (.f u) 6 u u u<|qU<|wI<|qI (gv (fun _ k=>k b10 p17 c17) [0,1,2,3,4,5,6] (gq [0,1,2,3,4]))) <|vD (.f u) (.agg k3)<|fun b11=>qU<|qQ 6<|
  qK (.f u) [0] [] zCa u u u (cq [0])<|fun r19 _ k=>k<|qU<|jdI 7 2 u u u u<|fun x5 h5 b12 o3 hp3=>jdL 8 4 2 sI true zYr u u hp3 h5 u<|fun p18 c18=>qQ 10<|wA (o:=0) (.f u) 6 u u u<|qU<|wI<|
  qI (gv (fun _ k=>k b11 p18 c18) [0,1,2,3,4,5,6] (gq [0,1,2,3,4])))<|fun s12 _ k b8 p16 c16=>k<|zJ<|qC 1 u<|qJ 6 u u u<|zA 1 u<|zL<|zV u (jdS [13] [2,6] 14<|wE 0 2 u u<|yA 1 2 u u u u<|
  wE 2 0 u u<|yA 3 6 u u u u<|qB 7 [4,6,7] u<|qQ 5<|qK (.f u) [0] [] zCa u u u (cq [1])<|fun r20 _ k=>k<|qU<|qQ 8<|qK (.f u) [0] [] zHq u u u (cq [1])<|fun r21 _ k=>k<|qU<|
  yR 9 (.agg #[vs s12.2.1,vi r20.1,vb r21.1.1,vs r21.1.2]) u<|qQ 10<|uC (.f u) (e:=zB0) 96 [vs s12.2.1,vi r20.1,vb r21.1.1,vs r21.1.2] ([(s12.2.1,r20.1,r21.1)]:List wB) (rC (vP vS (vP vI (vP vB vS))) rN)<|
  fun p19 c19=>qU<|qQ 11<|xL (.f u) 5 5 u (gk 0) u u<|fun x6 r_9 p20 c20=>qU<|wE 12 2 u u<|qQ 13<|wA (o:=2) (.f u) 2 u u u<|jdb [] [2,6]<|wI<|yL<|qN<|jB 3 u<|
  uG (gv (fun _ k=>k p20 c20 r_9) [0,1,2,3,4,5] (gq [0,3,4,5])))<|uM<|yL<|qN<|jB 3 u<|uG (gv (fun _ k=>k p15 c15 r_8) [0,1,2,3,4,5] (gq [4,1,2,3])))<|xF<|uP<|uS<|xD<|qI (gv (fun _ k=>k p15 c15 r_8) [0,1,2,3,4,5] (gq [3,0,1,2])))<|
  fun s10 _ k p14 c14 r_7=>k<|zJ<|wW 2 3 u u u<|wA .s 1 u u u<|zL<|qP<|yU 3 2 u u<|yU 4 4 u u<|yU 5 2 u u<|
  uI u (lC 1 (.agg #[sv p2 s1.2 c2,sv p8 s6.2 c8,sv p14 s10.2 c14]) u u lN) (fun _ k=>k p2 c2 p8 c8 p14 c14) [0] (gq [2,1,0])
abbrev zXA:=@Cn.mk 8 0 _ @zQk
theorem zLv{y0:List zC}: zP qd prog 16 [sv p1 y0 c1] [] [Rl qH p1 c1 y0] (zDM y0) fun r K=>K (vb r) [] [] :=
 zO call16 func16 u fun X=>jA 1 u<|zJ<|zA 2 u<|jmm .s (fun x:zC=>.agg #[vb x.1,vs x.2]) (fun x:Unit=>.agg #[]) Tryz.key129 u (.inr ⟨_,_,rfl⟩)<|fun b1 r_1=>zA 1 u<|zL<|zS<|jA 3 u<|zZ<|
  wP (fun s1 K=>∀ r_2,K [3,11,12] [(0,r_2)] [1] [(13,vi s1.2)] [Ma (fun x:zC=>.agg #[vb x.1,vs x.2]) (fun x:Unit=>.agg #[]) r_2 b1 s1.1]) (gv (fun _ k=>k r_1) [0] (gq [0,1]))<|
  fun s1 _ k r_2=>k<|jA 1 u<|zS<|zV u (jC<|zS<|zZ<|zJ<|yK 1 u u u<|fun x1 b2 o1=>yS true tH (gk 0) u<|vD .s (.agg k0)<|fun b3=>wA .s 1 u u u<|zL<|zJ<|zA 1 u<|wW 1 2 u u u<|
  qD (.agg #[])<|jmp .s (k:=x1) (v:=()) 0 1 Tryz.key129 u u u u<|fun r_3=>zL<|zJ<|zA 1 u<|wW 1 2 u u u<|wD zEG u d<|fun r1 _ k=>k<|jmG .s (k:=r1) 0 0 () Tryz.key129 u u u<|
 au
)<|
 au
abbrev zRK:=@Cn.mk 16 0 _ @zLv
theorem z0Z{y0:List zC}{y1:List zC}: zP qd prog 17 [sv p1 y0 c1,sv p2 y1 c2] [] [Rl qH p1 c1 y0,Rl qH p2 c2 y1] (zNO y0 y1) fun r K=>K (vb r) [] [] :=
 zO call17 func17 u fun X=>jA 1 u<|zS<|jA 5 u<|zV u (jA 1 u<|qP<|yX<|yY u u kk [] d)<|jC<|zS<|jA 1 u<|zZ<|wP (fun s1 K=>K [0,1] [] [0,1] [(5,vi s1)] []) (gv kk [] (gq [0,1]))<|
  fun s1 _ k=>k<|zS<|jA 4 u<|zV u (jC<|zS<|zZ<|tB [] [] 9<|qB 7 [0,1] u<|jdi 2 0 u u u u<|fun x1 b1 o1=>jdl 3 true tH u (gk 0) u<|qB 3 [4,5] u<|jdi 6 2 u u u u<|fun x2 b2 o2=>
  jdl 7 true tH u (gk 0) u<|yR 8 (vb (!(x1==x2))) u<|wI<|qN<|zV u (jA 1 u<|qP<|jbr<|yX<|jlr<|jbr<|yX<|yY u u kk [] d)<|uM<|yL<|qN<|jB 3 u<|uG (gv kk [] (gq [2,3])))<|xF<|uP<|uS<|
  xD<|qN<|jA 1 u<|qP<|yY u u kk [] d
abbrev z1o:=@Cn.mk 17 0 _ @z0Z
theorem zHP{y0:zC}: zP qd prog 70 [.agg #[vb y0.1,vs y0.2]] [] [] (zDu y0) fun r K=>K (vs r) [] [] :=
 zO call70 func70 u fun X=>
 au
abbrev zVh:=@Cn.mk 70 0 _ @zHP
theorem zHp{y0:Int}{y1:Int}: zP qd prog 171 [vi y0,vi y1] [] [Tb prog "internal/strconv.uint64pow10" .u64 Lib.pow10Tab] (zEK y0 y1) fun r K=>K (vs r) [] []:=z5z Go.Proofs.Tryz.lays246 call171
abbrev zME:=@Cn.mk 171 0 _ @zHp
theorem zOu{y0:Int}: zP qd prog 121 [vi y0] [] [Tb prog "internal/strconv.uint64pow10" .u64 Lib.pow10Tab] (zGy y0) fun r K=>K (vs r) [] [] :=
 zO call121 func121 u fun X=>jA 1 u<|zJ<|zA 1 u<|wD zHp u (cq [0])<|fun r1 _ k=>k<|zA 1 u<|zL<|qP<|yY u u kk [] d
abbrev zOq:=@Cn.mk 121 0 _ @zOu
attribute [instance] zRk zWl zW6 z0F zXA zRK z1o zVh zME zOq
theorem zKy{y0:Int}: zP qd prog 71 [vi y0] [] [Tb prog "internal/strconv.uint64pow10" .u64 Lib.pow10Tab] (zD9 y0) fun r K=>K (vs r) [] [] :=
 zO call71 func71 u fun X=>
 au
abbrev zXi:=@Cn.mk 71 0 _ @zKy
theorem zNT{y0:List zD}{y1:zD}: zP False prog 72 [sv p1 y0 c1,vs y1] [] [Rl qX p1 c1 y0] (zJH y0 y1) fun r K=>K (vs r) [] []:=z8h Go.Proofs.Tryz.lays156 Go.Proofs.Tryz.Builder_Extra_156 call72
abbrev zXm:=@Cn.mk 72 0 _ @zNT
theorem zKb{y0:qZ}: zP False prog 26 [.agg (zSq y0).toArray] [] [Pt (vF 4 qX) 1 0 zBE,Tb prog "internal/strconv.uint64pow10" .u64 Lib.pow10Tab] (zDY y0) fun r K=>K (vs r) [] [] :=
 zO call26 func26 u fun X=>zJ<|vH .s u<|fun b1=>zA 1 u<|zL<|tB [] [0] 9<|wE 0 2 u u<|yA 1 0 u u u u<|jdgx 2 u (gk 0) u u<|fun x1=>jdl 3 false oS u (gk 0) u<|wE 4 0 u u<|xV 5 0 2 u u u u<|qQ 6<|
  qK (.f u) [] [] zHP u u u d<|fun r1 _ k=>k<|qU<|qQ 7<|jbo (.f u) (e:=qX) 9 [vs x1,vs r1] ([x1,r1]:List zD) (rC vS (rC vS rN))<|fun r_1 p1 c1=>qU<|qB 0 [8] u<|wI<|qN<|
  wR (fun s1 K=>∀ p2 c2 r_2,K [1] [(1,r_2)] [2,3] [(3,sv p2 s1 c2)] [Al qX 9 r_2 p2 c2 s1]) (zJ<|qC 2 u<|qJ 0 u u u<|
  zA 1 u<|zL<|zV u (vM<|zA 1 u<|qC 3 u<|qJ 0 u u u<|wD zKy rfl (cq [3])<|fun r2 _ k=>k<|uC .s (e:=qX) 9 [vs r2] ([r2]:List zD) (rC vS rN)<|fun p3 c3=>xL .s 1 1 u (gk 0) u u<|fun x2 r_3 p4 c4=>
  zA 1 u<|wN<|qI (gv (fun _ k=>k p4 c4 r_3) [0,1] (gq [0,4,5])))<|uM<|qI (gv (fun _ k=>k p1 c1 r_1) [0,1] (gq [0,2,3])))<|fun s1 _ k p2 c2 r_2=>k<|
  wR (fun s2 K=>∀ p5 c5 r_4,K [] [(0,[]),(1,r_4)] [1,2] [(3,sv p5 s2 c5)] [Al qX 9 r_4 p5 c5 s2]) (zJ<|qC 4 u<|
  qJ 0 u u u<|zA 1 u<|zL<|zV u (vM<|zA 1 u<|qC 4 u<|qJ 0 u u u<|uC .s (e:=qX) 9 [vs [102,114,111,109],vs y0.2.2.2] ([[102,114,111,109],y0.2.2.2]:List zD) (rC vS (rC vS rN))<|fun p6 c6=>
  xL .s 1 1 u (gk 0) u u<|fun x3 r_5 p7 c7=>zA 1 u<|wN<|qI (gv (fun _ k=>k p7 c7 r_5) [900,1] (gq [0,3,4])))<|uM<|qI (gv (fun _ k=>k p2 c2 r_2) [900,1] (gq [0,1,2])))<|fun s2 _ k p5 c5 r_4=>k<|zJ<|zA 1 u<|
  qK .s [] [1] zNT u u u ⟨cl 1 0,d⟩<|fun r3 _ k=>k<|zA 1 u<|zL<|qP<|yY u u kk [] d
abbrev zP8:=@Cn.mk 26 0 _ @zKb
theorem zJ7{y0:wB}: zP qd prog 28 [.agg (zO3 y0).toArray] [] [Tb prog "internal/strconv.uint64pow10" .u64 Lib.pow10Tab] (zCz y0) fun r K=>K (vs r) [] [] :=
 zO call28 func28 u fun X=>zJ<|vH .s u<|fun b1=>zA 1 u<|zL<|tB [] [0] 14<|wE 0 0 u u<|yA 1 0 u u u u<|tE fun x1 h1=>tA 2 u (fun h=>zXq h u u h1)<|tE fun x2 h2=>tA 3 u (fun h=>zXq h u u h2)<|wE 4 1 u u<|
  yA 5 0 u u u u<|wE 9 2 u u<|xV 10 0 2 u u u u<|qQ 6<|qK (.f u) [] [] zKy rfl u u (cq [0])<|fun r1 _ k=>k<|qU<|tE fun x3 h3=>tA 7 u (fun h=>zXq h u u h3)<|tE fun x4 h4=>
  tA 8 u (fun h=>zXq h u u h4)<|qQ 11<|qK (.f u) [] [] zHP u u u d<|fun r2 _ k=>k<|qU<|tE fun x5 h5=>tA 12 u (fun h=>zXq h u u h5)<|qB 0 [13] u<|wI<|qN<|qP<|yY u u kk [] d
abbrev zOB:=@Cn.mk 28 0 _ @zJ7
theorem zMU{y0:zR}: zP False prog 27 [.agg (zNN y0 p1 c1).toArray] [] (zPG y0 p1 c1 [Tb prog "internal/strconv.uint64pow10" .u64 Lib.pow10Tab]) (zEU y0) fun r K=>K (vs r) [] [] :=
 zO call27 func27 u fun X=>zJ<|vH .s u<|fun b1=>zA 1 u<|zL<|zJ<|qC 0 u<|qJ 0 u u u<|tE fun x1 h1=>jv (fun h=>zXq h u u h1)<|
  jbo .s (e:=qX) 9 [vs [115,116,114,105,99,116],vs x1] ([[115,116,114,105,99,116],x1]:List zD) (rC vS (rC vS rN))<|fun r_1 p2 c2=>zA 2 u<|zL<|
  wR (fun s1 K=>∀ p3 c3 r_2,K [1] [(1,[]),(2,r_2)] [1,2] [(3,sv p3 s1.1 c3),(4,vs s1.2)] [Al qX 9 r_2 p3 c3 s1.1]) (
  zJ<|qC 1 u<|qJ 0 u u u<|zA 1 u<|zL<|zV u (jdS [] [0] 9<|wE 0 0 u u<|yA 1 0 u u u u<|wE 2 2 u u<|yA 3 0 u u u u<|qQ 4<|qK (.f u) [] [] zKy rfl u u (cq [2])<|
  fun r1 _ k=>k<|qU<|tE fun x2 h2=>tA 5 u (fun h=>zXq h u u h2)<|qQ 6<|jbo (.f u) (e:=qX) 9 [vs [114,117,108,101],vs y0.1,vs x2] ([[114,117,108,101],y0.1,x2]:List zD) (rC vS (rC vS (rC vS rN)))<|
  fun r_3 p4 c4=>qU<|qB 0 [7,8] u<|wI<|qI (gv (fun _ k=>k p4 c4 r_3) [0,901,2] (gq [0,2,3])))<|uM<|qI (gv (fun _ k=>k p2 c2 r_1) [0,901,1] (gq [0,1,2])))<|fun s1 _ k p3 c3 r_2=>k<|
  wR (fun s2 K=>∀ p5 c5 r_4,K [1,4] [(2,r_4)] [1,2] [(3,sv p5 s2 c5)] [Al qX 9 r_4 p5 c5 s2]) (zJ<|qC 3 u<|qJ 0 u u u<|
  zA 2 u<|zL<|zZ<|
  wP (fun s3 K=>∀ p6 c6 r_5,K [1,4,23,24] [(2,r_5)] [1,2] [(3,sv p6 s3.1 c6),(25,vi s3.2)] [Al qX 9 r_5 p6 c6 s3.1]) (gv (fun _ k=>k p3 c3 r_2) [0,901,2] (gq [0,1,2]))<|
  fun s3 _ k p6 c6 r_5=>k<|jA 1 u<|zS<|zV u (jC<|zS<|zZ<|zJ<|zA 1 u<|yK 1 u u u<|fun x3 b2 o1=>yS true tH (gk 0) u<|vD .s (.agg k0)<|fun b3=>zA 1 u<|wA .s 3 u u u<|zL<|zJ<|
  wW 3 2 u u u<|wD zHP u d<|fun r2 _ k=>k<|zA 1 u<|zL<|wR (fun s4 K=>K [1,3,4,23,24,25] [(3,[])] [1,2,3] [(7,vs s4)] []) (zJ<|zA 1 u<|
  qC 3 u<|qJ 0 u u u<|zA 3 u<|zL<|zV u (vM<|zA 1 u<|tE fun x4 h3=>jv (fun h=>zXq h u u h3)<|zA 1 u<|wN<|qI (gv kk [0,901,2,903] (gq [1,2,3])))<|uM<|qI (gv kk [0,901,2,903] (gq [1,2,3]))
  )<|fun s4 _ k=>k<|vM<|zA 2 u<|uC .s (e:=qX) 9 [vs s4] ([s4]:List zD) (rC vS rN)<|fun p7 c7=>xL .s 2 1 u (gk 0) u u<|fun x5 r_6 p8 c8=>zA 1 u<|wN<|yL<|qN<|jB 2 u<|
  uG (gv (fun _ k=>k p8 c8 r_6) [0,901,2] (gq [0,3,4])))<|xF<|uP<|uS<|xD<|qI (gv (fun _ k=>k p6 c6 r_5) [0,901,2] (gq [0,1,2])))<|fun s2 _ k p5 c5 r_4=>k<|zJ<|zA 2 u<|qC 4 u<|wW 0 2 u u u<|wD zHP u d<|
  fun r3 _ k=>k<|uC .s (e:=qX) 9 [vs s1.2,vs r3] ([s1.2,r3]:List zD) (rC vS (rC vS rN))<|fun p9 c9=>xL .s 2 1 u (gk 0) u u<|fun x6 r_7 p10 c10=>qK .s [] [2] zNT u u u ⟨cl 2 0,d⟩<|fun r4 _ k=>k<|zA 1 u<|
  zL<|qP<|yY u u kk [] d
abbrev zSJ:=@Cn.mk 27 0 _ @zMU
theorem zQO{y0:zD}: zP qd prog 29 [pt b1 0] [r_1] [Bdr 82 5 r_1 b1 y0] (zIX y0) fun r K=>K (vi r) [r_1] []:=z9B Go.Proofs.Tryz.lays170 call29
abbrev zPw:=@Cn.mk 29 0 _ @zQO
theorem zOU{y0:zD}: zP False prog 30 [pt b1 0] [r_1] [Bdr 82 5 r_1 b1 y0] (zGB y0) fun r K=>K (vs r) [[]] []:=z8X Go.Proofs.Tryz.lays169 Go.Proofs.Tryz.Builder_Extra_169 call30
abbrev zNs:=@Cn.mk 30 0 _ @zOU
theorem zL7{y0:zD}{y1:zD}: zP False prog 25 [pt b1 0,vs y1] [r_1] [Bdr 82 5 r_1 b1 y0] (zBL y0 y1) fun r K=>∀ r_2,K (.tuple #[vi r.1,.nilIface]) [r_2] [Bdr 82 5 r_2 b1 r.2.2]:=z8m { Go.Proofs.Tryz.lays156 with } Go.Proofs.Tryz.Builder_Extra_156 (by kernel_rfl) call25
abbrev zL2:=@Cn.mk 25 0 _ @zL7
attribute [instance] zXi zXm zP8 zOB zSJ zPw zNs zL2
theorem zNn{y0:zI}: zP False prog 7 [.agg (vJ y0 p1 c1 p2 c2 p3 c3).toArray] [] (vO y0 p1 c1 p2 c2 p3 c3 [Pt (vF 4 qX) 1 0 zBE,Tb prog "internal/strconv.uint64pow10" .u64 Lib.pow10Tab]) (zIf y0) fun r K=>K (.tuple #[vs r.1,vi r.2]) [] [] :=
 zO call7 func7 u fun X=>zJ<|vH .s u<|fun b1=>zA 2 u<|zL<|zS<|zJ<|wW 0 3 u u u<|wD zE1 u (cq [0,1,2])<|fun r1 _ k=>k<|zA 1 u<|zL<|jA 2 u<|zV u (
 au
)<|jC<|
  zJ<|vD .s (.agg #[.pointer none,.slice none 0 0])<|fun b2=>jbq 82 5 b2<|hI 1 5 1 (fun(s1:zD) K=>∀ r_1,K [1,5] [(1,.r r_1)] [1,2,3,4,5] [] [Bdr 82 5 r_1 b2 s1])<|hI 0 6 1 (fun(s2:Int×zD) K=>∀ r_2,K [1,5,18,19] [(1,.r r_2)] [1,2,3,4,5] [(20,vi s2.1)] [Bdr 82 5 r_2 b2 s2.2])<|hI 1 10 1 (fun(s3:zD) K=>∀ r_4,K [1,5] [(1,.r r_4)] [1,2,3,4,5] [] [Bdr 82 5 r_4 b2 s3])<|hI 0 11 1 (fun(s4:Int×zD) K=>∀ r_5,K [1,5,30,31] [(1,.r r_5)] [2,1,3,4,5] [(32,vi s4.1)] [Bdr 82 5 r_5 b2 s4.2])<|hI 1 15 1 (fun(s5:zD) K=>∀ r_7,K [5] [(0,.r []),(1,.r r_7)] [4,5] [] [Bdr 82 5 r_7 b2 s5])<|hI 0 16 1 (fun(s6:Int×zD) K=>∀ r_8,K [5,42,43] [(0,.r []),(1,.r r_8)] [3,4,5] [(44,vi s6.1)] [Bdr 82 5 r_8 b2 s6.2])<|
 au
abbrev zUC:=@Cn.mk 7 0 _ @zNn
theorem zLN{y0:zAX}: zP qd prog 60 [pt b1 0] [bx b1 72 (zDR y0 p1 c1)] [Rl qX p1 c1 y0.1] (zAD y0) fun r K=>∀ p2 c2,K (vs r.1) [bx b1 72 [sv p2 r.2.1 c2,vb r.2.2]] [Rl qX p2 c2 r.2.1] :=
 zO call60 func60 u fun X=>
 au
abbrev zPg:=@Cn.mk 60 0 _ @zLN
theorem zW5{y0:zD}: zP qd prog 170 [vs y0] [] [] (zJs y0) fun r K=>K (.tuple #[.agg #[vb r.1.1,vs r.1.2],vi r.2]) [] [] :=
 zO call170 func170 u fun X=>hI 1 2 1 (fun(s1:zD×Bool) K=>K [2,4] [(1,.c [(0,vb s1.2)])] [] [(0,vs s1.1)] [])<|hI 1 2 0 (fun(s2:Bool) K=>K [0,2,4] [] [] [(12,vb s2)] [])<|
 au
abbrev zX3:=@Cn.mk 170 0 _ @zW5
theorem zKZ{y0:zD}{y1:zD}: zP qd prog 272 [vs y0,vs y1] [] [] (zCM y0 y1) fun r K=>K (vb r) [] [] :=
 zO call272 func272 u fun X=>hI 1 1 0 (fun(s1:Bool) K=>K [] [] [] [(4,vb s1)] [])<|
 au
abbrev zK1:=@Cn.mk 272 0 _ @zKZ
attribute [instance] zUC zPg zX3 zK1
theorem zKW{y0:zD}{y1:zD}: zP qd prog 227 [vs y0,vs y1] [] [] (zDV y0 y1) fun r K=>K (.tuple #[vs r.1,vb r.2]) [] [] :=
 zO call227 func227 u fun X=>
 au
abbrev zK4:=@Cn.mk 227 0 _ @zKW
attribute [instance] zK4
theorem zSR{y0:zD}{y1:zD}: zP qd prog 169 [vs y0,vs y1] [] [] (zD0 y0 y1) fun r K=>K (.tuple #[vs r.1,vb r.2]) [] [] :=
 zO call169 func169 u fun X=>
 au
abbrev zSL:=@Cn.mk 169 0 _ @zSR
attribute [instance] zSL
theorem zNt{y0:zAX}{y1:zD}: zP qd prog 110 [pt b1 0,vs y1] [bx b1 72 (zDR y0 p1 c1)] [Rl qX p1 c1 y0.1] (zBF y0 y1) fun r K=>∀ p2 c2,K (.agg #[vb r.1.1,vs r.1.2]) [bx b1 72 [sv p2 r.2.1 c2,vb r.2.2]] [Rl qX p2 c2 r.2.1] :=
 zO call110 func110 u fun X=>hI 1 3 0 (fun(s1:Bool) K=>K [4,7] [(0,.c [(1,vb s1)])] [0] [] [])<|
 au
abbrev zNv:=@Cn.mk 110 0 _ @zNt
theorem zQE{y0:zAX}{y1:zD}: zP qd prog 112 [pt b1 0,vs y1] [bx b1 72 (zDR y0 p1 c1)] [Rl qX p1 c1 y0.1] (zA0 y0 y1) fun r K=>∀ p2 c2,K (vs r.1) [bx b1 72 [sv p2 r.2.1 c2,vb r.2.2]] [Rl qX p2 c2 r.2.1] :=
 zO call112 func112 u fun X=>hI 1 2 0 (fun(s1:Bool) K=>K [5] [(0,.c [(1,vb s1)])] [0] [] [])<|
 au
abbrev zQT:=@Cn.mk 112 0 _ @zQE
theorem zPk{y0:zAX}{y1:zD}: zP qd prog 111 [pt b1 0,vs y1] [bx b1 72 (zDR y0 p1 c1)] [Rl qX p1 c1 y0.1] (zBV y0 y1) fun r K=>∀ p2 c2,K (vi r.1) [bx b1 72 [sv p2 r.2.1 c2,vb r.2.2]] [Rl qX p2 c2 r.2.1] :=
 zO call111 func111 u fun X=>hI 1 2 0 (fun(s1:Bool) K=>K [0,5] [] [0] [(30,vb s1)] [])<|
 au
abbrev zPl:=@Cn.mk 111 0 _ @zPk
attribute [instance] zNv zQT zPl
theorem zJg{y0:zAX}{y1:Int}: zP qd prog 61 [pt b1 0,vi y1] [bx b1 72 (zDR y0 p1 c1)] [Rl qX p1 c1 y0.1] (zCH y0 y1) fun r K=>∀ p2 c2,K (.agg (zSq r.1).toArray) [bx b1 72 [sv p2 r.2.1 c2,vb r.2.2]] [Rl qX p2 c2 r.2.1] :=
 zO call61 func61 u fun X=>hI 1 2 1 (fun(s1:(List zD)×Bool×Int) K=>∀ p3 c3,K [0,4,5] [(0,.c [(0,sv p3 s1.1 c3),(1,vb s1.2.1)]),(2,.c [(3,vi s1.2.2)])] [] [] [Rl qX p3 c3 s1.1])<|hI 1 4 1 (fun(s2:(List zD)×Bool×zD) K=>∀ p5 c5,K [4,5] [(0,.c [(0,sv p5 s2.1 c5),(1,vb s2.2.1)]),(2,.c [(4,vs s2.2.2)])] [] [] [Rl qX p5 c5 s2.1])<|hI 1 5 0 (fun(s3:(List zD)×Bool) K=>∀ p6 c6,K [0,4,5] [(0,.c [(0,sv p6 s3.1 c6),(1,vb s3.2)])] [] [] [Rl qX p6 c6 s3.1])<|
 au
abbrev zOW:=@Cn.mk 61 0 _ @zJg
theorem zIo{y0:zAX}: zP qd prog 63 [pt b1 0] [bx b1 72 (zDR y0 p1 c1)] [Rl qX p1 c1 y0.1] (zBt y0) fun r K=>∀ p2 c2,K (.agg (zO3 r.1).toArray) [bx b1 72 [sv p2 r.2.1 c2,vb r.2.2]] [Rl qX p2 c2 r.2.1] :=
 zO call63 func63 u fun X=>hI 1 2 0 (fun(s1:(List zD)×Bool) K=>∀ p4 c4,K [0,2,3] [(0,.c [(0,sv p4 s1.1 c4),(1,vb s1.2)])] [] [] [Rl qX p4 c4 s1.1])<|
 au
abbrev zMo:=@Cn.mk 63 0 _ @zIo
set_option maxHeartbeats 2000000 in
theorem zLD{y0:zAX}{y1:Bool}: zP qd prog 62 [pt b1 0,vb y1] [bx b1 72 (zDR y0 p1 c1)] [Rl qX p1 c1 y0.1] (zCw y0 y1) fun r K=>∀ p2 c2 p3 c3,K (.agg (zNN r.1 p2 c2).toArray) [bx b1 72 [sv p3 r.2.1 c3,vb r.2.2]] (zPG r.1 p2 c2 [Rl qX p3 c3 r.2.1]) :=
 zO call62 func62 u fun X=>zJ<|vD .s (.agg k3)<|fun b2=>zL<|zJ<|zA 1 u<|qD (.agg #[vs [],vb y1,vi 0,.slice none 0 0,vb false,vs []])<|uA qH 84<|
  vD .s (.agg k3)<|fun b3=>wA .s 3 u u u<|zL<|jA 1 u<|
  wR (fun s1 K=>∀ p2 c2,K [0,4,5] [(0,bx b1 72 [sv p2 s1.2.1 c2,vb s1.2.2.1]),(3,bx b3 93 [vs s1.2.2.2.1,vb y1,vi (a4 s1),sv none ([]:List zC) 0,vb false,vs []])] [0] [(6,vs s1.1)] [Rl qX p2 c2 s1.2.1]) (
 au
)<|fun s1 _ k p2 c2=>k<|
  wR (fun s2 K=>∀ p6 c6 p7 c7 r_1,K [0,4,5,6] [(0,bx b1 72 [sv p6 s2.1 c6,vb s2.2.1]),(2,r_1),(3,bx b3 93 [vs s1.2.2.2.1,vb y1,vi (a4 s1),sv p7 s2.2.2 c7,vb false,vs []])] [] [] [Rl qX p6 c6 s2.1,Al qH 84 r_1 p7 c7 s2.2.2]) (
  zZ<|
  wP (fun s3 K=>∀ p8 c8 p9 c9 r_2,K [0,4,5,6] [(0,bx b1 72 [sv p8 s3.1 c8,vb s3.2.1]),(2,r_2),(3,bx b3 93 [vs s1.2.2.2.1,vb y1,vi (a4 s1),sv p9 s3.2.2 c9,vb false,vs []])] [] [] [Rl qX p8 c8 s3.1,Al qH 84 r_2 p9 c9 s3.2.2]) (gv (fun _ k=>k p2 c2 none 0 []) [0,1,2,3] (gq [0,1]))<|
  fun s3 _ k p8 c8 p9 c9 r_2=>k<|hD 10 [8] [3] (.l [0,1,2,3] (.f 4 (.f 5 (.f 6 (.l [7] (.f 8 (.b [] [3] .e)))))))<|hP 4 6 0 (fun K=>K [0,4,5,6] [] [0,1] [(32,vb ((decide (2<(len s3.1)))&&(!s3.2.1)))] [])<|hI 1 8 1 (fun(s4:zD) K=>K [0,4,5,6] [] [0,1] [(7,vs s4)] [])<|
 au
)<|hI 1 11 0 (fun(s5:(List zD)×Bool) K=>∀ p13 c13,K [0,4,5] [(0,.c [(0,sv p13 s5.1 c13),(1,vb s5.2)])] [1] [] [Rl qX p13 c13 s5.1])<|
 au
abbrev zQB:=@Cn.mk 62 0 _ @zLD
theorem zLu{y0:zAX}{y1:zI}: zP False prog 21 [pt b1 0,pt b2 0] [bx b1 72 (zDR y0 p1 c1),bx b2 29 [sv p2 y1.1 c2,sv p3 y1.2.1 c3,sv p4 y1.2.2 c4],r_1,r_2,r_3] [Rl qX p1 c1 y0.1,Al tN 86 r_1 p2 c2 y1.1,Al yT 93 r_2 p3 c3 y1.2.1,Al zB0 96 r_3 p4 c4 y1.2.2,Pt (vF 4 qX) 1 0 zBE,Tb prog "internal/strconv.uint64pow10" .u64 Lib.pow10Tab] (zDJ y0 y1) fun r K=>∀ p5 c5 p6 c6 r_4 p7 c7 r_5 p8 c8 r_6,K (.tuple #[vi r.1,vs r.2.1]) [bx b1 72 [sv p5 r.2.2.1 c5,vb r.2.2.2.1],bx b2 29 [sv p6 (a4 r).1 c6,sv p7 (a5 r).1 c7,sv p8 (a6 r) c8],r_4,r_5,r_6] [Rl qX p5 c5 r.2.2.1,Al tN 86 r_4 p6 c6 (a4 r).1,Al yT 93 r_5 p7 c7 (a5 r).1,Al zB0 96 r_6 p8 c8 (a6 r)] :=
 zO call21 func21 u fun X=>jA 2 u<|zS<|zJ<|zA 1 u<|qK .s [0] [] zLN u u u (cq [0])<|fun r1 _ k p5 c5=>k<|zA 1 u<|zL<|jA 1 u<|zZ<|
  wR (fun s1 K=>K [0,1,6,15] [] [0,2,3,4,5,6] [(16,vb s1)] []) (jA 2 u<|zV u (uM<|qI (gv kk [0,1,2,3,4] (gq [0,2,3,4,5,6])))<|jA 2 u<|zV u (uM<|
  qI (gv kk [0,1,2,3,4] (gq [0,2,3,4,5,6])))<|jB 2 u<|qI (gv kk [0,1,2,3,4] (gq [0,2,3,4,5,6])))<|fun s1 _ k=>k<|zV u (jA 1 u<|
  wR (fun s2 K=>K [0,1] [] [0,1,2,3,4,5] [(7,vi s2)] []) (zJ<|jlT (vs) (fun _ _ _ _ h=>h) (gk 4) u<|zA 1 u<|zL<|zZ<|
  wP (fun s3 K=>K [0,1,6,20] [] [0,1,2,3,4,5] [(7,vi s3.1),(21,vi s3.2)] []) (gv kk [0,1,2,3,4] (gq [0,1,2,3,4,5]))<|fun s3 _ k=>k<|jA 1 u<|
  zS<|zV u (jC<|zS<|zZ<|zJ<|zA 1 u<|tE fun x1 h1=>jv (fun h=>r_aidx (l:=zBE) (vs) h u u u underlying138 u (by kernel_rfl) h1)<|zA 2 u<|zL<|jA 3 u<|zV u (jB 2 u<|yL<|qN<|jB 2 u<|
  uG (gv kk [0,1,2,3,4] (gq [0,1,2,3,4,5])))<|uM<|yL<|qN<|jB 2 u<|uG (gv kk [0,1,2,3,4] (gq [0,1,2,3,4,5])))<|xF<|uP<|uS<|xD<|qI (gv kk [0,1,2,3,4] (gq [0,1,2,3,4,5])))<|fun s2 _ k=>k<|zJ<|
  zA 2 u<|qK .s [0] [] zJg u u u (cq [0])<|fun r2 _ k p6 c6=>k<|vD .s (.agg k4)<|fun b3=>wA .s 5 u u u<|zL<|tB [10] [1,5] 11<|qB 8 [0,1,2] u<|
  wE 3 0 u u<|yA 4 1 u u u u<|xV 5 5 5 u u u u<|qQ 6<|
  uC (.f u) (e:=tN) 86 [vb r2.1.1.1,vs r2.1.1.2,vi r2.1.2.1,vi r2.1.2.2.1,vs r2.1.2.2.2] ([r2.1]:List qZ) (rC (vP (vP vB vS) (vP vI (vP vI vS))) rN)<|fun p7 c7=>qU<|qQ 7<|xL (.f u) 2 3 u (gk 0) u u<|
  fun x2 r_4 p8 c8=>qU<|qB 2 [8] u<|wE 9 0 u u<|qQ 10<|wA (o:=0) (.f u) 1 u u u<|jdb [] [1,5]<|wI<|qN<|zJ<|wW 5 5 u u u<|wD zKb u (cq [7,8])<|fun r3 _ k=>k<|zA 2 u<|zL<|qP<|jbr<|yX<|
  uI u (lT u (lT u lN)) (fun _ k=>k p6 c6 p8 c8 r_4 p3 c3 r_2 p4 c4 r_3) [0,1,2,3,4] (gq [2,0,5,6]))<|wR (fun s4 K=>K [0,1,6,15] [] [0,1,2,3,4,5] [(45,vb s4)] []) (
  jA 2 u<|zV u (uM<|qI (gv kk [0,1,2,3,4] (gq [0,1,2,3,4,5])))<|jB 2 u<|qI (gv kk [0,1,2,3,4] (gq [0,1,2,3,4,5])))<|fun s4 _ k=>k<|zV u (zJ<|zA 3 u<|
  qK .s [0] [] zLD u u u (cq [0])<|fun r4 _ k p9 c9 p10 c10=>k<|vD .s (.agg k3)<|fun b4=>wA .s 5 u u u<|zL<|tB [10] [1,5] 11<|
  qB 8 [0,1,2] u<|wE 3 1 u u<|yA 4 1 u u u u<|xV 5 5 6 u u u u<|qQ 6<|
  uC (.f u) (e:=yT) 93 [vs r4.1.1,vb r4.1.2.1,vi r4.1.2.2.1,sv p9 r4.1.2.2.2.1 c9,vb r4.1.2.2.2.2.1,vs r4.1.2.2.2.2.2] ([r4.1]:List zR) (rC (vP vS (vP vB (vP vI (vP (vL (gk 0)) (vP vB vS))))) rN)<|fun p11 c11=>qU<|qQ 7<|
  xL (.f u) 3 5 u (gk 0) u u<|fun x3 r_5 p12 c12=>qU<|qB 2 [8] u<|wE 9 1 u u<|qQ 10<|wA (o:=1) (.f u) 1 u u u<|jdb [] [1,5]<|wI<|qN<|zJ<|wW 5 6 u u u<|wD zMU u (cq [2,9])<|
  fun r5 _ k=>k<|zA 2 u<|zL<|qP<|jbr<|yX<|uI u (lT u (lT u lN)) (fun _ k=>k p10 c10 p2 c2 r_1 p12 c12 r_5 p4 c4 r_3) [0,1,2,3,4] (gq [3,5,0,7]))<|jA 2 u<|zV u (zJ<|zA 1 u<|
  qK .s [0] [] zIo u u u (cq [0])<|fun r6 _ k p13 c13=>k<|vD .s (.agg #[vs [],vi 0,vb false,vs []])<|fun b5=>wA .s 5 u u u<|zL<|tB [10] [1,5] 11<|qB 8 [0,1,2] u<|wE 3 2 u u<|
  yA 4 1 u u u u<|xV 5 5 4 u u u u<|qQ 6<|uC (.f u) (e:=zB0) 96 [vs r6.1.1,vi r6.1.2.1,vb r6.1.2.2.1,vs r6.1.2.2.2] ([r6.1]:List wB) (rC (vP vS (vP vI (vP vB vS))) rN)<|fun p14 c14=>qU<|qQ 7<|
  xL (.f u) 4 5 u (gk 0) u u<|fun x4 r_6 p15 c15=>qU<|qB 2 [8] u<|wE 9 2 u u<|qQ 10<|wA (o:=2) (.f u) 1 u u u<|jdb [] [1,5]<|wI<|qN<|zJ<|wW 5 4 u u u<|wD zJ7 u (cq [8])<|
  fun r7 _ k=>k<|zA 2 u<|zL<|qP<|jbr<|yX<|uI u (lT u (lT u lN)) (fun _ k=>k p13 c13 p2 c2 r_1 p3 c3 r_2 p15 c15 r_6) [0,1,2,3,4] (gq [2,4,5,0]))<|uM<|yL<|qN<|jA 2 u<|qP<|
  uI u (lT u (lT u lN)) (fun _ k=>k p5 c5 p2 c2 r_1 p3 c3 r_2 p4 c4 r_3) [0,1,2,3,4] (gq [0,1,2,3])
abbrev zRM:=@Cn.mk 21 0 _ @zLu
theorem zHj{y0:zD}{y1:zD}: zP qd prog 108 [vs y0,vs y1] [] [] (zEJ y0 y1) fun r K=>K (vi r) [] []:=z47 Go.Proofs.Tryz.lays219 call108
abbrev zMG:=@Cn.mk 108 0 _ @zHj
theorem zMw{y0:zD}{y1:zD}: zP qd prog 57 [vs y0,vs y1] [] [] (zFA y0 y1) fun r K=>K (.tuple #[vs r.1,vs r.2.1,vb r.2.2]) [] [] :=
 zO call57 func57 u fun X=>jA 3 u<|zS<|zJ<|zA 2 u<|wD zHj u d<|fun r1 _ k=>k<|zA 1 u<|zL<|jA 2 u<|zV u (tB [] [] 12<|qB 10 [0,1] u<|tE fun x1 h1=>
  tA 2 u (fun h=>z4P h u underlying9 u u (.inl ⟨rfl,rfl⟩) (.inr ⟨_,rfl⟩) h1)<|qB 4 [3,4,5,6,7] u<|tE fun x2 h2=>tA 8 u (fun h=>z4P h u underlying9 u u (.inr ⟨_,rfl⟩) (.inl ⟨rfl,rfl⟩) h2)<|
  qB 0 [9,10,11] u<|wI<|qN<|qP<|yX<|uI u (lT u (lT u (lT u lN))) kk [] d)<|jC<|jA 4 u<|qP<|uI u (lT u (lT u (lT u lN))) kk [] d
abbrev zNA:=@Cn.mk 57 0 _ @zMw
end Go.Proofs.YtgdgcdmdogdmgaaGreatDoor
