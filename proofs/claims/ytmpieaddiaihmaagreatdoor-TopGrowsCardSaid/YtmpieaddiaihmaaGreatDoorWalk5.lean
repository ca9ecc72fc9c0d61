/- A part. Conditions: none. -/
import Derived.Test.YtmpieaddiaihmaaGreatDoorWalk4
namespace Go.Proofs.YtmpieaddiaihmaaGreatDoor
open Go Go.GD Go.Proofs.Tryz
set_option autoImplicit false
set_option linter.unusedVariables false
set_option maxRecDepth 100000
set_option linter.defProp false
variable {qd:Prop}
variable {yl1:Nat}{p1 p2 p3 p4 p5 p6 p7 p8 p9:Option Addr}{c1 c2 c3 c4 c5 c6 c7 c8 c9:Nat}{b1 b2 b3 b4 b5 b6 b7 b8 b9 b10 b11:Nat}{r_1 r_2 r_3 r_4 r_5 r_6:zJ}
attribute [instance] zTO
theorem zO6{y0:zAG}{y1:zG}: zP qd prog 212 [pt b1 0,vs y1] [bx b1 145 (zCr y0 p1 c1)] [Rl wB p1 c1 y0.1] (zAV y0 y1) fun r K=>∀ p2 c2,K (.agg #[vb r.1.1,vs r.1.2]) [bx b1 145 [sv p2 r.2.1 c2,vb r.2.2]] [Rl wB p2 c2 r.2.1] :=
 zN call212 func212 u fun X=>hI 1 3 0 (fun(s1:Bool) K=>K [4,7] [(0,.c [(1,vb s1)])] [0] [] [])<|
 au
abbrev zO5:=@Cn.mk 212 0 _ @zO6
theorem zQ7{y0:zAG}{y1:zG}: zP qd prog 214 [pt b1 0,vs y1] [bx b1 145 (zCr y0 p1 c1)] [Rl wB p1 c1 y0.1] (zAJ y0 y1) fun r K=>∀ p2 c2,K (vs r.1) [bx b1 145 [sv p2 r.2.1 c2,vb r.2.2]] [Rl wB p2 c2 r.2.1] :=
 zN call214 func214 u fun X=>hI 1 2 0 (fun(s1:Bool) K=>K [5] [(0,.c [(1,vb s1)])] [0] [] [])<|
 au
abbrev zQw:=@Cn.mk 214 0 _ @zQ7
theorem zRO{y0:zAG}{y1:zG}: zP qd prog 213 [pt b1 0,vs y1] [bx b1 145 (zCr y0 p1 c1)] [Rl wB p1 c1 y0.1] (zAf y0 y1) fun r K=>∀ p2 c2,K (vi r.1) [bx b1 145 [sv p2 r.2.1 c2,vb r.2.2]] [Rl wB p2 c2 r.2.1] :=
 zN call213 func213 u fun X=>hI 1 2 0 (fun(s1:Bool) K=>K [0,5] [] [0] [(30,vb s1)] [])<|
 au
abbrev zQm:=@Cn.mk 213 0 _ @zRO
attribute [instance] zO5 zQw zQm
theorem zJu{y0:zAG}{y1:Int}: zP qd prog 138 [pt b1 0,vi y1] [bx b1 145 (zCr y0 p1 c1)] [Rl wB p1 c1 y0.1] (zBe y0 y1) fun r K=>∀ p2 c2,K (.agg (zQq r.1).toArray) [bx b1 145 [sv p2 r.2.1 c2,vb r.2.2]] [Rl wB p2 c2 r.2.1] :=
 zN call138 func138 u fun X=>hI 1 2 1 (fun(s1:(List zG)×Bool×Int) K=>∀ p3 c3,K [0,4,5] [(0,.c [(0,sv p3 s1.1 c3),(1,vb s1.2.1)]),(2,.c [(3,vi s1.2.2)])] [] [] [Rl wB p3 c3 s1.1])<|hI 1 4 1 (fun(s2:(List zG)×Bool×zG) K=>∀ p5 c5,K [4,5] [(0,.c [(0,sv p5 s2.1 c5),(1,vb s2.2.1)]),(2,.c [(4,vs s2.2.2)])] [] [] [Rl wB p5 c5 s2.1])<|hI 1 5 0 (fun(s3:(List zG)×Bool) K=>∀ p6 c6,K [0,4,5] [(0,.c [(0,sv p6 s3.1 c6),(1,vb s3.2)])] [] [] [Rl wB p6 c6 s3.1])<|
 au
abbrev zOc:=@Cn.mk 138 0 _ @zJu
theorem zIv{y0:zAG}: zP qd prog 142 [pt b1 0] [bx b1 145 (zCr y0 p1 c1)] [Rl wB p1 c1 y0.1] (zBU y0) fun r K=>∀ p2 c2,K (.agg (zPN r.1).toArray) [bx b1 145 [sv p2 r.2.1 c2,vb r.2.2]] [Rl wB p2 c2 r.2.1] :=
 zN call142 func142 u fun X=>hI 1 2 0 (fun(s1:(List zG)×Bool) K=>∀ p4 c4,K [0,2,3] [(0,.c [(0,sv p4 s1.1 c4),(1,vb s1.2)])] [] [] [Rl wB p4 c4 s1.1])<|
 au
abbrev zN0:=@Cn.mk 142 0 _ @zIv
set_option maxHeartbeats 2000000 in
theorem zLl{y0:zAG}{y1:Bool}: zP qd prog 140 [pt b1 0,vb y1] [bx b1 145 (zCr y0 p1 c1)] [Rl wB p1 c1 y0.1] (zC8 y0 y1) fun r K=>∀ p2 c2 p3 c3,K (.agg (zVs r.1 p2 c2).toArray) [bx b1 145 [sv p3 r.2.1 c3,vb r.2.2]] (zZ9 r.1 p2 c2 [Rl wB p3 c3 r.2.1]) :=
 zN call140 func140 u fun X=>zH<|vH .s (.agg k2)<|fun b2=>zK<|zH<|zA 1 u<|qE (.agg #[vs [],vb y1,vi 0,.slice none 0 0,vb false,vs []])<|yX qY 87<|
  vH .s (.agg k2)<|fun b3=>qU .s 3 u u u<|zK<|jA 1 u<|
  wC (fun s1 K=>∀ p2 c2,K [0,4,5] [(0,bx b1 145 [sv p2 s1.2.1 c2,vb s1.2.2.1]),(3,bx b3 107 [vs s1.2.2.2.1,vb y1,vi (a4 s1),sv none ([]:List zI) 0,vb false,vs []])] [0] [(6,vs s1.1)] [Rl wB p2 c2 s1.2.1]) (
 au
)<|fun s1 _ k p2 c2=>k<|
  wC (fun s2 K=>∀ p6 c6 p7 c7 r_1,K [0,4,5,6] [(0,bx b1 145 [sv p6 s2.1 c6,vb s2.2.1]),(2,r_1),(3,bx b3 107 [vs s1.2.2.2.1,vb y1,vi (a4 s1),sv p7 s2.2.2 c7,vb false,vs []])] [] [] [Rl wB p6 c6 s2.1,Al qY 87 r_1 p7 c7 s2.2.2]) (
  zX<|
  wD (fun s3 K=>∀ p8 c8 p9 c9 r_2,K [0,4,5,6] [(0,bx b1 145 [sv p8 s3.1 c8,vb s3.2.1]),(2,r_2),(3,bx b3 107 [vs s1.2.2.2.1,vb y1,vi (a4 s1),sv p9 s3.2.2 c9,vb false,vs []])] [] [] [Rl wB p8 c8 s3.1,Al qY 87 r_2 p9 c9 s3.2.2]) (gv (fun _ k=>k p2 c2 none 0 []) [0,1,2,3] (gq [0,1]))<|
  fun s3 _ k p8 c8 p9 c9 r_2=>k<|hD 10 [8] [3] (.l [0,1,2,3] (.f 4 (.f 5 (.f 6 (.l [7] (.f 8 (.b [] [3] .e)))))))<|hP 4 6 0 (fun K=>K [0,4,5,6] [] [0,1] [(32,vb ((decide (2<(len s3.1)))&&(!s3.2.1)))] [])<|hI 1 8 1 (fun(s4:zG) K=>K [0,4,5,6] [] [0,1] [(7,vs s4)] [])<|
 au
)<|hI 1 11 0 (fun(s5:(List zG)×Bool) K=>∀ p13 c13,K [0,4,5] [(0,.c [(0,sv p13 s5.1 c13),(1,vb s5.2)])] [1] [] [Rl wB p13 c13 s5.1])<|
 au
abbrev zQs:=@Cn.mk 140 0 _ @zLl
theorem zMa{y0:zAG}{y1:zM}: zP False prog 86 [pt b1 0,pt b2 0] [bx b1 145 (zCr y0 p1 c1),bx b2 29 [sv p2 y1.1 c2,sv p3 y1.2.1 c3,sv p4 y1.2.2 c4],r_1,r_2,r_3] [Rl wB p1 c1 y0.1,Al tP 103 r_1 p2 c2 y1.1,Al xH 107 r_2 p3 c3 y1.2.1,Al tK 109 r_3 p4 c4 y1.2.2,Pt (wN 4 wB) 1 0 zAl,Tb prog "internal/strconv.uint64pow10" .u64 Lib.pow10Tab] (zCo y0 y1) fun r K=>∀ p5 c5 p6 c6 r_4 p7 c7 r_5 p8 c8 r_6,K (.tuple #[vi r.1,vs r.2.1]) [bx b1 145 [sv p5 r.2.2.1 c5,vb r.2.2.2.1],bx b2 29 [sv p6 (a4 r).1 c6,sv p7 (a5 r).1 c7,sv p8 (a6 r) c8],r_4,r_5,r_6] [Rl wB p5 c5 r.2.2.1,Al tP 103 r_4 p6 c6 (a4 r).1,Al xH 107 r_5 p7 c7 (a5 r).1,Al tK 109 r_6 p8 c8 (a6 r)] :=
 zN call86 func86 u fun X=>jA 2 u<|zQ<|zH<|zA 1 u<|qL .s [0] [] zLn u u u (cq [0])<|fun r1 _ k p5 c5=>k<|zA 1 u<|zK<|jA 1 u<|zX<|
  wC (fun s1 K=>K [0,1,6,15] [] [0,2,3,4,5,6] [(16,vb s1)] []) (jA 2 u<|zS u (yA<|qI (gv kk [0,1,2,3,4] (gq [0,2,3,4,5,6])))<|jA 2 u<|zS u (yA<|
  qI (gv kk [0,1,2,3,4] (gq [0,2,3,4,5,6])))<|jB 2 u<|qI (gv kk [0,1,2,3,4] (gq [0,2,3,4,5,6])))<|fun s1 _ k=>k<|zS u (jA 1 u<|
  wC (fun s2 K=>K [0,1] [] [0,1,2,3,4,5] [(7,vi s2)] []) (zH<|jlT (vs) (fun _ _ _ _ h=>h) (gk 4) u<|zA 1 u<|zK<|zX<|
  wD (fun s3 K=>K [0,1,6,20] [] [0,1,2,3,4,5] [(7,vi s3.1),(21,vi s3.2)] []) (gv kk [0,1,2,3,4] (gq [0,1,2,3,4,5]))<|fun s3 _ k=>k<|jA 1 u<|
  zQ<|zS u (jC<|zQ<|zX<|zH<|zA 1 u<|xQ fun x1 h1=>jv (fun h=>r_aidx (l:=zAl) (vs) h u u u underlying200 u (by kernel_rfl) h1)<|zA 2 u<|zK<|jA 3 u<|zS u (jB 2 u<|vM<|qK<|jB 2 u<|
  yH (gv kk [0,1,2,3,4] (gq [0,1,2,3,4,5])))<|yA<|vM<|qK<|jB 2 u<|yH (gv kk [0,1,2,3,4] (gq [0,1,2,3,4,5])))<|uA<|yR<|yY<|yZ<|qI (gv kk [0,1,2,3,4] (gq [0,1,2,3,4,5])))<|fun s2 _ k=>k<|zH<|
  zA 2 u<|qL .s [0] [] zJu u u u (cq [0])<|fun r2 _ k p6 c6=>k<|vH .s (.agg k7)<|fun b3=>qU .s 5 u u u<|zK<|uR [10] [1,5] 11<|zW 8 [0,1,2] u<|
  qR 3 0 u u<|wS 4 1 u u u u<|uQ 5 5 5 u u u u<|qM 6<|
  yI (.f u) (e:=tP) 103 [vb r2.1.1.1,vs r2.1.1.2,vi r2.1.2.1,vi r2.1.2.2.1,vs r2.1.2.2.2] ([r2.1]:List wM) (rC (vP (vP vB vS) (vP vI (vP vI vS))) rN)<|fun p7 c7=>qN<|qM 7<|uE (.f u) 2 3 u (gk 0) u u<|
  fun x2 r_4 p8 c8=>qN<|zW 2 [8] u<|qR 9 0 u u<|qM 10<|qU (o:=0) (.f u) 1 u u u<|jdb [] [1,5]<|qT<|qK<|zH<|wQ 5 5 u u u<|wF zLA u (cq [7,8])<|fun r3 _ k=>k<|zA 2 u<|zK<|qO<|xK<|vD<|
  yD u (lT u (lT u lN)) (fun _ k=>k p6 c6 p8 c8 r_4 p3 c3 r_2 p4 c4 r_3) [0,1,2,3,4] (gq [2,0,5,6]))<|wC (fun s4 K=>K [0,1,6,15] [] [0,1,2,3,4,5] [(45,vb s4)] []) (
  jA 2 u<|zS u (yA<|qI (gv kk [0,1,2,3,4] (gq [0,1,2,3,4,5])))<|jB 2 u<|qI (gv kk [0,1,2,3,4] (gq [0,1,2,3,4,5])))<|fun s4 _ k=>k<|zS u (zH<|zA 3 u<|
  qL .s [0] [] zLl u u u (cq [0])<|fun r4 _ k p9 c9 p10 c10=>k<|vH .s (.agg k2)<|fun b4=>qU .s 5 u u u<|zK<|uR [10] [1,5] 11<|
  zW 8 [0,1,2] u<|qR 3 1 u u<|wS 4 1 u u u u<|uQ 5 5 6 u u u u<|qM 6<|
  yI (.f u) (e:=xH) 107 [vs r4.1.1,vb r4.1.2.1,vi r4.1.2.2.1,sv p9 r4.1.2.2.2.1 c9,vb r4.1.2.2.2.2.1,vs r4.1.2.2.2.2.2] ([r4.1]:List qC) (rC (vP vS (vP vB (vP vI (vP (vL (gk 0)) (vP vB vS))))) rN)<|fun p11 c11=>qN<|
  qM 7<|uE (.f u) 3 5 u (gk 0) u u<|fun x3 r_5 p12 c12=>qN<|zW 2 [8] u<|qR 9 1 u u<|qM 10<|qU (o:=1) (.f u) 1 u u u<|jdb [] [1,5]<|qT<|qK<|zH<|wQ 5 6 u u u<|wF zNK u (cq [2,9])<|
  fun r5 _ k=>k<|zA 2 u<|zK<|qO<|xK<|vD<|yD u (lT u (lT u lN)) (fun _ k=>k p10 c10 p2 c2 r_1 p12 c12 r_5 p4 c4 r_3) [0,1,2,3,4] (gq [3,5,0,7]))<|jA 2 u<|zS u (zH<|zA 1 u<|
  qL .s [0] [] zIv u u u (cq [0])<|fun r6 _ k p13 c13=>k<|vH .s (.agg #[vs [],vi 0,vb false,vs []])<|fun b5=>qU .s 5 u u u<|zK<|uR [10] [1,5] 11<|zW 8 [0,1,2] u<|qR 3 2 u u<|
  wS 4 1 u u u u<|uQ 5 5 4 u u u u<|qM 6<|yI (.f u) (e:=tK) 109 [vs r6.1.1,vi r6.1.2.1,vb r6.1.2.2.1,vs r6.1.2.2.2] ([r6.1]:List wE) (rC (vP vS (vP vI (vP vB vS))) rN)<|fun p14 c14=>qN<|qM 7<|
  uE (.f u) 4 5 u (gk 0) u u<|fun x4 r_6 p15 c15=>qN<|zW 2 [8] u<|qR 9 2 u u<|qM 10<|qU (o:=2) (.f u) 1 u u u<|jdb [] [1,5]<|qT<|qK<|zH<|wQ 5 4 u u u<|wF zKA u (cq [8])<|
  fun r7 _ k=>k<|zA 2 u<|zK<|qO<|xK<|vD<|yD u (lT u (lT u lN)) (fun _ k=>k p13 c13 p2 c2 r_1 p3 c3 r_2 p15 c15 r_6) [0,1,2,3,4] (gq [2,4,5,0]))<|yA<|vM<|qK<|jA 2 u<|qO<|
  yD u (lT u (lT u lN)) (fun _ k=>k p5 c5 p2 c2 r_1 p3 c3 r_2 p4 c4 r_3) [0,1,2,3,4] (gq [0,1,2,3])
abbrev zRx:=@Cn.mk 86 0 _ @zMa
theorem zHt{y0:zG}{y1:zG}: zP qd prog 210 [vs y0,vs y1] [] [] (zDt y0 y1) fun r K=>K (vi r) [] []:=z6N Go.Proofs.Tryz.lays219 call210
abbrev zMj:=@Cn.mk 210 0 _ @zHt
theorem zNZ{y0:zG}{y1:zG}: zP qd prog 134 [vs y0,vs y1] [] [] (zEh y0 y1) fun r K=>K (.tuple #[vs r.1,vs r.2.1,vb r.2.2]) [] [] :=
 zN call134 func134 u fun X=>jA 3 u<|zQ<|zH<|zA 2 u<|wF zHt u d<|fun r1 _ k=>k<|zA 1 u<|zK<|jA 2 u<|zS u (uR [] [] 12<|zW 10 [0,1] u<|xQ fun x1 h1=>
  xF 2 u (fun h=>z4a h u underlying9 u u (.inl ⟨rfl,rfl⟩) (.inr ⟨_,rfl⟩) h1)<|zW 4 [3,4,5,6,7] u<|xQ fun x2 h2=>xF 8 u (fun h=>z4a h u underlying9 u u (.inr ⟨_,rfl⟩) (.inl ⟨rfl,rfl⟩) h2)<|
  zW 0 [9,10,11] u<|qT<|qK<|qO<|vD<|yD u (lT u (lT u (lT u lN))) kk [] d)<|jC<|jA 4 u<|qO<|yD u (lT u (lT u (lT u lN))) kk [] d
abbrev zNX:=@Cn.mk 134 0 _ @zNZ
attribute [instance] zOc zN0 zQs zRx zMj zNX
theorem zTq{y0:zG}{y1:zG}: zP qd prog 84 [vs y0,vs y1] [] [] (zMi y0 y1) fun r K=>K (.tuple #[vs r.1,vs r.2.1,vb r.2.2]) [] [] :=
 zN call84 func84 u fun X=>
 au
abbrev z0l:=@Cn.mk 84 0 _ @zTq
theorem zPp{y0:zG}: zP False prog 85 [vs y0] [] [Tb prog "strings.asciiSpace" .u8 Lib.asciiSpaceTab,Wt 2] (zJe y0) fun r K=>∀ p1 c1,K (sv p1 r c1) [] [Rl wB p1 c1 r]:=z6O Go.Proofs.Tryz.lays157 (by kernel_rfl) (by kernel_rfl) (by kernel_rfl) call85
abbrev zWo:=@Cn.mk 85 0 _ @zPp
theorem zPq{y0:zG}: zP False prog 40 [vs y0] [] [Tb prog "strings.asciiSpace" .u8 Lib.asciiSpaceTab,Pt (wN 4 wB) 1 0 zAl,Wt 2,Tb prog "internal/strconv.uint64pow10" .u64 Lib.pow10Tab] (zJ8 y0) fun r K=>∀ p1 c1 p2 c2 p3 c3,K (.tuple #[.agg (vT r.1 p1 c1 p2 c2 p3 c3).toArray,vi r.2.1,vi r.2.2]) [] (vW r.1 p1 c1 p2 c2 p3 c3 []) :=
 zN call40 func40 u fun X=>zH<|vH .s (.agg k1)<|fun b1=>zA 2 u<|zK<|zQ<|jA 3 u<|zS u (zH<|qE (.agg k1)<|qU .s 0 u u u<|zA 2 u<|zK<|qO<|vD<|
  yD u (lC 0 (.agg k1) u u (lT u (lT u lN))) (fun _ k=>k none 0 none 0 none 0) [] ⟨gn,gn,gn,d⟩)<|jC<|zH<|vH .s (.agg k1)<|
  fun b2=>yX tP 103<|yX xH 107<|yX tK 109<|zK<|jA 1 u<|
  jjoK (fun s1 K=>∀ p1 c1 r_1 p2 c2 r_2 p3 c3 r_3,K [2,5] [(1,bx b2 29 [sv p1 s1.1 c1,sv p2 s1.2.1 c2,sv p3 s1.2.2 c3]),(2,r_1),(3,r_2),(4,r_3)] [3,4,5,6] [] [Al tP 103 r_1 p1 c1 s1.1,Al xH 107 r_2 p2 c2 s1.2.1,Al tK 109 r_3 p3 c3 s1.2.2]) (
  jA 1 u<|zX<|
  wD (fun s2 K=>∀ p4 c4 r_4 p5 c5 r_5 p6 c6 r_6,K [2,5] [(1,bx b2 29 [sv p4 s2.2.2.2.1 c4,sv p5 (a4 s2).1 c5,sv p6 (a5 s2) c6]),(2,r_4),(3,r_5),(4,r_6)] [3,4,5,6] [(0,vs s2.1),(6,vi s2.2.1),(7,vi s2.2.2.1)] [Al tP 103 r_4 p4 c4 s2.2.2.2.1,Al xH 107 r_5 p5 c5 (a4 s2).1,Al tK 109 r_6 p6 c6 (a5 s2)]) (gv (fun _ k=>k none 0 [] none 0 [] none 0 []) [0,1,2,3,4] (gq [2,1,0,3,4,5,6]))<|
  fun s2 _ k p4 c4 r_4 p5 c5 r_5 p6 c6 r_6=>k<|zQ<|jA 2 u<|zS u (jC<|zQ<|zX<|zH<|zA 1 u<|wF zTq u d<|fun r1 _ k=>k<|zA 7 u<|zK<|zH<|zA 1 u<|wF zPp u (cq [3,5])<|fun r2 _ k p7 c7=>k<|
  qE (.agg #[sv p7 r2 c7,vb false])<|wR .s u<|fun b3=>zA 1 u<|zK<|zH<|zA 1 u<|qL .s [5,1,2,3,4] [] zMa u u u (cq [0,1,2,3,5,7])<|fun r3 _ k p8 c8 p9 c9 r_7 p10 c10 r_8 p11 c11 r_9=>k<|zA 5 u<|zK<|
  zQ<|
  z5h (fun K=>K [2,5,7,9,12] [(5,[])] [1,2,3,8,9,10,11] [(63,vb ((!r1.2.2)||(r3.2.2.2.1||((decide (0<(len r3.2.2.1)))||((!(r3.2.1==r1.1))||(decide (r3.1<s2.2.1)))))))] []) (
  vG<|zA 3 u<|tO (b:=!r1.2.2) 40 u (fun hb1=>zA 4 u<|qE (vb true)<|zA 7 u<|qE (vb true)<|zA 4 u<|qE (vb true)<|zA 4 u<|qE (vb true)<|wK<|
  uD 63 (vb ((!r1.2.2)||(r3.2.2.2.1||((decide (0<(len r3.2.2.1)))||((!(r3.2.1==r1.1))||(decide (r3.1<s2.2.1))))))) u (by rw[hb1];rfl)<|qI (gv kk [0,1,2,3,4,905] (gq [1,2,3,8,9,10,11])))<|fun hb1=>zA 2 u<|
  qB 1 u<|qG 5 u u u<|qE (vb r3.2.2.2.1)<|zA 1 u<|tO (b:=r3.2.2.2.1) 46 u (fun hb2=>zA 6 u<|qE (vb true)<|zA 4 u<|qE (vb true)<|zA 4 u<|qE (vb true)<|wK<|
  uD 63 (vb ((!r1.2.2)||(r3.2.2.2.1||((decide (0<(len r3.2.2.1)))||((!(r3.2.1==r1.1))||(decide (r3.1<s2.2.1))))))) u (by rw[hb1,hb2];rfl)<|qI (gv kk [0,1,2,3,4,905] (gq [1,2,3,8,9,10,11])))<|fun hb2=>zA 2 u<|
  qB 0 u<|qG 5 u u u<|zA 2 u<|qE (vb (decide (0<(len r3.2.2.1))))<|zA 1 u<|tO (b:=decide (0<(len r3.2.2.1))) 54 u (fun hb3=>zA 3 u<|qE (vb true)<|zA 4 u<|qE (vb true)<|wK<|
  uD 63 (vb ((!r1.2.2)||(r3.2.2.2.1||((decide (0<(len r3.2.2.1)))||((!(r3.2.1==r1.1))||(decide (r3.1<s2.2.1))))))) u (by rw[hb1,hb2,hb3];rfl)<|qI (gv kk [0,1,2,3,4,905] (gq [1,2,3,8,9,10,11])))<|fun hb3=>
  zA 3 u<|qE (vb (!(r3.2.1==r1.1)))<|zA 1 u<|tO (b:=!(r3.2.1==r1.1)) 59 u (fun hb4=>zA 3 u<|qE (vb true)<|wK<|
  uD 63 (vb ((!r1.2.2)||(r3.2.2.2.1||((decide (0<(len r3.2.2.1)))||((!(r3.2.1==r1.1))||(decide (r3.1<s2.2.1))))))) u (by rw[hb1,hb2,hb3,hb4];rfl)<|qI (gv kk [0,1,2,3,4,905] (gq [1,2,3,8,9,10,11])))<|fun hb4=>
  zA 3 u<|qE (vb (decide (r3.1<s2.2.1)))<|wK<|uD 63 (vb ((!r1.2.2)||(r3.2.2.2.1||((decide (0<(len r3.2.2.1)))||((!(r3.2.1==r1.1))||(decide (r3.1<s2.2.1))))))) u (by rw[hb1,hb2,hb3,hb4];rfl)<|
  qI (gv kk [0,1,2,3,4,905] (gq [1,2,3,8,9,10,11])))<|fun _ k=>k<|zS u (zH<|qE (.agg k1)<|zA 1 u<|qU .s 0 u u u<|zA 2 u<|zK<|qO<|vD<|xK<|vD<|jlr<|xK<|jlr<|
  yD u (lC 0 (.agg k1) u u (lT u (lT u lN))) (fun _ k=>k none 0 none 0 none 0) [] ⟨gn,gn,gn,d⟩)<|jC<|jB 4 u<|vM<|qK<|jB 3 u<|
  yH (gv (fun _ k=>k p9 c9 r_7 p10 c10 r_8 p11 c11 r_9) [0,1,2,3,4] (gq [0,1,2,3,4,5,6])))<|uA<|yR<|yY<|yZ<|yH (gv (fun _ k=>k p4 c4 r_4 p5 c5 r_5 p6 c6 r_6) [0,1,2,3,4] (gq [0,1,2,3,4,5,6])))<|fun s1 _ k p1 c1 r_1 p2 c2 r_2 p3 c3 r_3=>
  k<|zQ<|zH<|wQ 1 3 u u u<|qL .s [] [2,3,4] zJn u u u ⟨cl 2 0,cl 3 1,cl 4 2,d⟩<|fun r4 _ k=>k<|zA 1 u<|zK<|jA 2 u<|zS u (zH<|qE (.agg k1)<|
  zA 1 u<|qU .s 0 u u u<|zA 2 u<|zK<|qO<|vD<|yD u (lC 0 (.agg k1) u u (lT u (lT u lN))) (fun _ k=>k none 0 none 0 none 0) [] ⟨gn,gn,gn,d⟩)<|jC<|zH<|
  wQ 1 3 u u u<|qU .s 0 u u u<|zA 2 u<|zK<|qO<|uI 2 0 u u<|uI 3 2 u u<|uI 4 4 u u<|
  yD u (lC 0 (.agg #[sv p1 s1.1 c1,sv p2 s1.2.1 c2,sv p3 s1.2.2 c3]) u u (lT u (lT u lN))) (fun _ k=>k p1 c1 p2 c2 p3 c3) [] (gq [2,1,0])
abbrev zWS:=@Cn.mk 40 0 _ @zPq
theorem z0h:zP False prog 16 [] [] [Tb prog "strings.asciiSpace" .u8 Lib.asciiSpaceTab,Pt (wN 4 wB) 1 0 zAl,Wt 2,Pt (wN 64 (zC .u8)) 3 0 vA,Tb prog "internal/strconv.uint64pow10" .u64 Lib.pow10Tab] (zK4) fun r K=>K (vb r) [] [] :=
 zN call16 func16 u fun X=>jA 1 u<|zH<|wF zPq u (cq [0,1,2,4])<|fun r1 _ k p1 c1 p2 c2 p3 c3=>k<|zA 4 u<|vH .s (.agg k1)<|fun b1=>qU .s 0 u u u<|zA 2 u<|zK<|zH<|wQ 0 3 u u u<|
  qE (.agg #[vi 1,vi 1])<|wF zPk u (cq [0,1,2,6])<|fun r2 _ k p4 c4 p5 c5 p6 c6 p7 c7 p8 c8 p9 c9=>k<|zA 3 u<|
  vH .s (.agg k0)<|fun b2=>qU .s 1 u u u<|zA 1 u<|zK<|zH<|wQ 1 7 u u u<|
  wF zLN u (cq [0,1,2,3,4,5,12])<|fun r3 _ k p10 c10=>k<|zA 5 u<|zK<|zH<|wQ 1 7 u u u<|wF zLN u (cq [1,2,3,4,5,6,13])<|fun r4 _ k p11 c11=>k<|zA 5 u<|zK<|
  wC (fun s1 K=>K [] [(0,[]),(1,[])] [11,12,13,14,15] [(0,vb s1)] []) (vG<|zA 3 u<|tI 33 u (zA 2 u<|qE (vb (r2.2==0))<|zA 1 u<|tI 37 u (
  zA 2 u<|qE (vb (r3.2==0))<|zA 1 u<|tI 41 u (zA 3 u<|qE (vb ((len r3.1)==2))<|zA 1 u<|tI 46 u (zA 1 u<|yJ 1 u u u<|fun x1 b3 o1=>yU true xZ (gk 0) u<|qE (.agg #[vb true,vs [113]])<|
  qE (vb (x1==(true,[113])))<|qE (vb (x1==(true,[113])))<|zA 1 u<|tI 53 u (zA 2 u<|qE (vb (r4.2==0))<|zA 1 u<|tI 57 u (zA 3 u<|qE (vb ((len r4.1)==4))<|zA 1 u<|wK<|
  qI (gv kk [900,901] (gq [12,13,14,15,16])))<|zA 3 u<|qE (vb false)<|zA 1 u<|wK<|qI (gv kk [900,901] (gq [12,13,14,15,16])))<|zA 2 u<|qE (vb false)<|zA 4 u<|qE (vb false)<|zA 1 u<|wK<|
  qI (gv kk [900,901] (gq [12,13,14,15,16])))<|zA 5 u<|qE (vb false)<|zA 3 u<|qE (vb false)<|zA 4 u<|qE (vb false)<|zA 1 u<|wK<|qI (gv kk [900,901] (gq [11,12,13,14,15])))<|zA 3 u<|qE (vb false)<|
  zA 6 u<|qE (vb false)<|zA 3 u<|qE (vb false)<|zA 4 u<|qE (vb false)<|zA 1 u<|wK<|qI (gv kk [900,901] (gq [11,12,13,14,15])))<|zA 2 u<|qE (vb false)<|zA 4 u<|qE (vb false)<|zA 6 u<|qE (vb false)<|
  zA 3 u<|qE (vb false)<|zA 4 u<|qE (vb false)<|zA 1 u<|wK<|qI (gv kk [900,901] (gq [11,12,13,14,15])))<|zA 2 u<|qE (vb false)<|zA 3 u<|qE (vb false)<|zA 4 u<|qE (vb false)<|zA 6 u<|qE (vb false)<|
  zA 3 u<|qE (vb false)<|zA 4 u<|qE (vb false)<|zA 1 u<|wK<|qI (gv kk [900,901] (gq [11,12,13,14,15])))<|fun s1 _ k=>k<|qO<|yB u u kk [] d
abbrev z0B:=@Cn.mk 16 0 _ @z0h
theorem zWV:zP qd prog 20 [] [] [] (zMN) fun r K=>∀ p1 c1,K (sv p1 r c1) [] [Rl zR9 p1 c1 r] :=
 zN call20 func20 u fun X=>
 au
abbrev zWw:=@Cn.mk 20 0 _ @zWV
theorem zNN{y0:Int}: zP qd prog 44 [vi y0] [] [] (zFg y0) fun r K=>K (vs r) [] [] :=
 zN call44 func44 u fun X=>jA 1 u<|zH<|zA 1 u<|wF zZu u d<|fun r1 _ k=>k<|zA 1 u<|qE (.int .u8 (IntKind.u8.wrap (zF ((97:Int)+r1))))<|
 au
abbrev zY2:=@Cn.mk 44 0 _ @zNN
theorem zZV{y0:uG}: zP qd prog 55 [pt b1 0] [bx b1 63 (zIg y0 p1 c1)] (zIt y0 p1 c1 []) (zL7 y0) fun r K=>K (vi r.1) [bx b1 63 [sv p1 y0.1 c1,vi r.2]] [] :=
 zN call55 func55 u fun X=>hD 1 [] [0] (.l [0,1,2,3,4,5,6,7,8,9] .e)<|hD 4 [] [0] (.l [0,1,2,3,4,5,6,7,8,9,10,11] .e)<|
 au
abbrev zZY:=@Cn.mk 55 0 _ @zZV
attribute [instance] z0l zWo zWS z0B zWw zY2 zZY
theorem zCF{y0:uG}{y1:Int}: zP qd prog 21 [pt b1 0,vi y1] [bx b1 63 (zIg y0 p1 c1)] (zIt y0 p1 c1 []) (xT y0 y1) fun r K=>K (vi r.1) [bx b1 63 [sv p1 y0.1 c1,vi r.2]] [] :=
 zN call21 func21 u fun X=>
 au
abbrev z13:=@Cn.mk 21 0 _ @zCF
attribute [instance] z13
theorem zHy{y0:uG}{y1:Int}: zP qd prog 41 [pt b1 0,vi y1] [bx b1 63 (zIg y0 p1 c1)] (zIt y0 p1 c1 []) (zCl y0 y1) fun r K=>K (.agg #[vb r.1.1,vs r.1.2]) [bx b1 63 [sv p1 y0.1 c1,vi r.2]] [] :=
 zN call41 func41 u fun X=>zH<|vH .s (.agg k3)<|fun b2=>zK<|zH<|zA 3 u<|qL .s [0] [] zCF u u u (cq [0])<|fun r1 _ k=>k<|zA 1 u<|zK<|zH<|zA 4 u<|xQ fun x1 h1=>jv (fun h=>r_quoK h u u h1)<|zA 1 u<|
  qE (.int .u8 (IntKind.u8.wrap (zF ((97:Int)+x1))))<|
 au
abbrev zTa:=@Cn.mk 41 0 _ @zHy
attribute [instance] zTa
theorem zNE{y0:uG}{y1:Int}{y2:Int}: zP qd prog 46 [pt b1 0,vi y1,vi y2] [bx b1 63 (zIg y0 p1 c1)] (zIt y0 p1 c1 []) (zGh y0 y1 y2) fun r K=>∀ p2 c2,K (sv p2 r.1 c2) [bx b1 63 [sv p1 y0.1 c1,vi r.2]] [Rl qY p2 c2 r.1] :=
 zN call46 func46 u fun X=>hR 7 1 qY 87<|hI 0 3 2 (fun(s1:(List zI)×Int×Int) K=>∀ p2 c2 r_1,K [0,2] [(0,.c [(1,vi s1.2.2)]),(1,.r r_1)] [1] [(7,sv p2 s1.1 c2),(8,vi s1.2.1)] [Al qY 87 r_1 p2 c2 s1.1])<|
 au
abbrev zSq:=@Cn.mk 46 0 _ @zNE
theorem zQi{y0:uG}{y1:List Int}: zP qd prog 42 [pt b1 0,sv p2 y1 c2] [bx b1 63 (zIg y0 p1 c1)] (zIt y0 p1 c1 [Rl (zC .i64) p2 c2 y1]) (zKg y0 y1) fun r K=>K (vi r.1) [bx b1 63 [sv p1 y0.1 c1,vi r.2]] [] :=
 zN call42 func42 u fun X=>
 au
abbrev zYa:=@Cn.mk 42 0 _ @zQi
theorem zQc{y0:uG}{y1:List zG}: zP qd prog 43 [pt b1 0,sv p2 y1 c2] [bx b1 63 (zIg y0 p1 c1)] (zIt y0 p1 c1 [Rl wB p2 c2 y1]) (zKe y0 y1) fun r K=>K (vs r.1) [bx b1 63 [sv p1 y0.1 c1,vi r.2]] [] :=
 zN call43 func43 u fun X=>
 au
abbrev zXy:=@Cn.mk 43 0 _ @zQc
theorem zU6{y0:List zI}: zP qd prog 45 [sv p1 y0 c1] [] [Rl qY p1 c1 y0] (zMf y0) fun r K=>∀ p2 c2,K (sv p2 r c2) [] [Rl qY p2 c2 r] :=
 zN call45 func45 u fun X=>jA 1 u<|zH<|zA 1 u<|yX qY 87 <|zK<|zQ<|jA 3 u<|zX<|
  wD (fun s1 K=>∀ p2 c2 r_1,K [7,8] [(0,r_1)] [1] [(3,sv p2 s1.1 c2),(9,vi s1.2)] [Al qY 87 r_1 p2 c2 s1.1]) (gv (fun _ k=>k none 0 []) [0] (gq [0,1]))<|
  fun s1 _ k p2 c2 r_1=>k<|jA 1 u<|zQ<|zS u (jC<|zQ<|zX<|zH<|yJ 1 u u u<|fun x1 b1 o1=>yU true xZ (gk 0) u<|vH .s (.agg k3)<|fun b2=>qU .s 1 u u u<|zK<|jA 1 u<|
  wC (fun s2 K=>K [3,5,7,8,9] [] [1,2] [(6,vi s2)] []) (zX<|
  wD (fun s3 K=>K [3,5,7,8,9] [] [1,2] [(6,vi s3)] []) (gv kk [0,1] (gq [1,2]))<|fun s3 _ k=>k<|zQ<|
  wC (fun s4 K=>K [3,5,6,7,8,9] [] [0,1] [(48,vb s4)] []) (xY [] [0,1] 36<|zW 31 [0,1,2,3,4] u<|tI 17 u (zW 29 [5,6] u<|jdI 7 0 u u u u<|
  fun x2 h1 b3 o2 hp1=>qR 8 1 u u<|jdL 9 0 0 sI.snd false oS u u hp1 h1 u<|qR 10 1 u u<|wS 11 1 u u u u<|zW 22 [12,13] u<|tI 26 u (zW 2 [14,15,16,17,18,19,20,21,22,23,24,25,26,27,28,29,30,31,32,33] u<|
  vR 34 (vb true) u<|vR 35 (vb true) u<|qT<|
 au
)<|zW 20 [14,15] u<|jdI 16 0 u u u u<|fun x3 h2 b4 o3 hp2=>qR 17 1 u u<|jdL 18 0 0 sI.snd false oS u u hp2 h2 u<|qR 19 1 u u<|
  wS 20 1 u u u u<|zW 13 [21,22] u<|tI 35 u (zW 11 [23,24] u<|jdI 25 0 u u u u<|fun x4 h3 b5 o4 hp3=>qR 26 0 u u<|jdL 27 0 0 sI.fst false oB u u hp3 h3 u<|zW 7 [28] u<|vR 29 (vb (!x4.1)) u<|
  zW 5 [30] u<|tI 43 u (qR 31 0 u u<|wS 32 1 u u u u<|vR 33 (vb x1.1) u<|vR 34 (vb x1.1) u<|vR 35 (vb x1.1) u<|qT<|
 au
)<|zW 3 [31,32] u<|vR 33 (vb false) u<|
  vR 34 (vb false) u<|vR 35 (vb false) u<|qT<|
 au
)<|zW 7 [23,24,25,26,27,28] u<|vR 29 (vb false) u<|zW 3 [30,31,32] u<|vR 33 (vb false) u<|vR 34 (vb false) u<|vR 35 (vb false) u<|
  qT<|
 au
)<|zW 1 [5,6,7,8,9,10,11,12,13,14,15,16,17,18,19,20,21,22,23,24,25,26,27,28,29,30,31,32,33,34] u<|vR 35 (vb false) u<|qT<|
 au
)<|
 au
)<|fun s2 _ k=>k<|zQ<|
  wC (fun s5 K=>K [3,5,6,7,8,9] [] [0,1] [(62,vb s5)] []) (xY [] [0,1] 12<|zW 7 [0,1,2,3,4] u<|tI 55 u (zW 5 [5,6] u<|jdI 7 0 u u u u<|
  fun x5 h4 b6 o5 hp4=>jdL 8 0 0 sI true xZ u u hp4 h4 u<|uQ 9 1 2 u u u u<|vR 10 (vb (x5==x1)) u<|vR 11 (vb (x5==x1)) u<|qT<|
 au
)<|zW 1 [5,6,7,8,9,10] u<|
  vR 11 (vb false) u<|qT<|
 au
)<|fun s5 _ k=>k<|zS u (
 au
)<|jC<|zH<|zA 1 u<|qE (.agg k3)<|
  yI .s (e:=qY) 87 [vb false,vs []] ([(false,[])]:List zI) (rC (vP vB vS) rN)<|fun p3 c3=>uE .s 0 1 u (gk 0) u u<|fun x6 r_2 p4 c4=>zA 1 u<|zK<|uR [] [] 8<|zW 5 [0,1,2] u<|
  jdV 3 0 u u u u<|fun u1 p5 c5 f1=>zW 2 [4,5] u<|jdV 6 0 u u u u<|fun u2 p6 c6 f2=>qM 7<|jcp (.f u) 0 0 u (vwV f1) (srV 0 0 f2 u) u u<|fun r_3=>qN<|qT<|qK<|vG<|zA 2 u<|wQ 1 2 u u u<|
  jia 0 u u u<|fun x7 h6 b7 o6 hp5=>jsA .s 0 0 sI x1 true u hp5 h6 u u (vP vB vS)<|fun r_4=>wK<|vM<|qK<|jB 2 u<|jrE 0 3 u u<|
 au
)<|
 au
abbrev z0p:=@Cn.mk 45 0 _ @zU6
theorem zRJ{y0:uG}{y1:Int}{y2:Int}{y3:Int}: zP qd prog 17 [pt b1 0,vi y1,vi y2,vi y3] [bx b1 63 (zIg y0 p1 c1)] (zIt y0 p1 c1 []) (zKV y0 y1 y2 y3) fun r K=>∀ p2 c2 p3 c3 p4 c4,K (.agg (vT r.1 p2 c2 p3 c3 p4 c4).toArray) [bx b1 63 [sv p1 y0.1 c1,vi r.2]] (vW r.1 p2 c2 p3 c3 p4 c4 []) :=
 zN call17 func17 u fun X=>zH<|vH .s (.agg k1)<|fun b2=>zK<|zH<|vH .s (.agg k1)<|fun b3=>yX tP 103<|yX xH 107<|yX tK 109<|zK<|
  wC (fun s1 K=>∀ p2 c2 r_1,K [0,1,3,8,9] [(0,bx b1 63 [sv p1 y0.1 c1,vi s1.1]),(2,bx b3 29 [sv p2 s1.2 c2,sv none ([]:List qC) 0,sv none ([]:List wE) 0]),(3,r_1)] [3,1,0] [] [Al tP 103 r_1 p2 c2 s1.2]) (
  zH<|zA 3 u<|qL .s [0] [] zCF u u u (cq [3])<|fun r1 _ k=>k<|zA 1 u<|zK<|zX<|
  wD (fun s2 K=>∀ p3 c3 r_2,K [0,1,3,8,9] [(0,bx b1 63 [sv p1 y0.1 c1,vi s2.2.1]),(2,bx b3 29 [sv p3 s2.2.2 c3,sv none ([]:List qC) 0,sv none ([]:List wE) 0]),(3,r_2)] [3,1,0] [(10,vi s2.1)] [Al tP 103 r_2 p3 c3 s2.2.2]) (gv (fun _ k=>k none 0 []) [0,1,2,3,4,5] (gq [2,3,1,0]))<|
  fun s2 _ k p3 c3 r_2=>k<|zQ<|jA 2 u<|zS u (jC<|zQ<|zX<|zH<|zA 2 u<|qL .s [0] [] zHy rfl u u (cq [1])<|fun r2 _ k=>k<|zA 1 u<|
  yI .s (e:=zC .i64) 3 [vi 1,vi 2,vi 2,vi 2,vi 3] ([1,2,2,2,3]:List Int) (rC vI (rC vI (rC vI (rC vI (rC vI rN)))))<|fun p4 c4=>qL .s [0] [] zQi u u u (cq [2,0])<|fun r3 _ k=>k<|zA 1 u<|
  yI .s (e:=wB) 9 [vs [],vs [],vs [97,110,110],vs [98,111,98]] ([[],[],[97,110,110],[98,111,98]]:List zG) (rC vS (rC vS (rC vS (rC vS rN))))<|fun p5 c5=>qL .s [0] [] zQc u u u (cq [3,0])<|fun r4 _ k=>
  k<|qE (.agg #[vb r2.1.1,vs r2.1.2,vi r3.1,vi 0,vs r4.1])<|vH .s (.agg k7)<|fun b4=>qU .s 6 u u u<|zK<|
  wC (fun s3 K=>K [0,1,3,8,9,10,11] [(0,bx b1 63 [sv p1 y0.1 c1,vi s3.1]),(6,bx b4 103 [vb r2.1.1,vs r2.1.2,vi r3.1,vi s3.2,vs r4.1])] [3,2,4,5] [] []) (
  zH<|qB 2 u<|qG 6 u u u<|zA 1 u<|zK<|zS u (vG<|zA 1 u<|qL .s [0] [] zCF u u u (cq [3])<|fun r5 _ k=>k<|qB 3 u<|qU .s 6 u u u<|wK<|qI (gv kk [0,1,2,3,4,5,6] (gq [3,2,4,5])))<|yA<|
  qI (gv kk [0,1,2,3,4,5,6] (gq [3,2,4,5])))<|fun s3 _ k=>k<|jA 1 u<|wC (fun s4 K=>K [0,1,3,8,9,10,11] [] [0,1,2,3] [(12,vb s4)] []) (zH<|qB 0 u<|
  qG 2 u u u<|zA 2 u<|zK<|zX<|
  wD (fun s5 K=>K [0,1,3,8,9,10,11,44,45] [] [1,0,2,3] [(12,vb s5.1),(46,vi s5.2)] []) (gv kk [0,1,2,3,4,5,6] (gq [1,0,2,3]))<|
  fun s5 _ k=>k<|jA 1 u<|zQ<|zS u (jC<|zQ<|zX<|zH<|jia 0 u u u<|fun x1 h1 b5 o1 hp1=>jlA 3 0 sI true zXQ u hp1 h1 u<|vH .s (.agg k7)<|fun b6=>qU .s 7 u u u<|zK<|
  jjqK (fun K=>K [0,1,3,8,9,10,11,44,45,46] [(7,[])] [0,1,2,3] [(12,vb (s5.1||(x1.1==r2.1)))] []) (vG<|zA 2 u<|
  tO (b:=s5.1) 51 u (fun hb1=>zA 5 u<|qE (vb true)<|zA 1 u<|wK<|uD 12 (vb (s5.1||(x1.1==r2.1))) u (by rw[hb1];rfl)<|qI (gv kk [0,1,2,3,4,5,6,907] (gq [0,1,2,3])))<|fun hb1=>qB 0 u<|wQ 7 2 u u u<|
  qB 0 u<|wQ 6 2 u u u<|qE (vb (x1.1==r2.1))<|qE (vb (x1.1==r2.1))<|zA 1 u<|wK<|uD 12 (vb (s5.1||(x1.1==r2.1))) u (by rw[hb1];rfl)<|qI (gv kk [0,1,2,3,4,5,6,907] (gq [0,1,2,3])))<|fun _ k=>k<|vM<|qK<|
  jB 2 u<|yH (gv kk [0,1,2,3,4,5,6] (gq [0,1,2,3])))<|uA<|yR<|yY<|yZ<|qI (gv kk [0,1,2,3,4,5,6] (gq [1,0,2,3])))<|fun s4 _ k=>k<|jA 2 u<|zS u (vG<|qB 0 u<|qG 2 u u u<|wQ 6 5 u u u<|
  yI .s (e:=tP) 103 [vb r2.1.1,vs r2.1.2,vi r3.1,vi s3.2,vs r4.1] ([(r2.1,r3.1,s3.2,r4.1)]:List wM) (rC (vP (vP vB vS) (vP vI (vP vI vS))) rN)<|fun p6 c6=>uE .s 3 2 u (gk 0) u u<|fun x2 r_3 p7 c7=>qB 0 u<|
  qU .s 2 u u u<|wK<|vM<|qK<|jB 3 u<|yH (gv (fun _ k=>k p7 c7 r_3) [0,1,2,3,4,5] (gq [0,2,4,5])))<|yA<|vM<|qK<|jB 3 u<|yH (gv (fun _ k=>k p3 c3 r_2) [0,1,2,3,4,5] (gq [1,0,2,3])))<|uA<|yR<|yY<|yZ<|
  qI (gv (fun _ k=>k p3 c3 r_2) [0,1,2,3,4,5] (gq [0,1,2,3])))<|fun s1 _ k p2 c2 r_1=>k<|
  wC (fun s6 K=>∀ p8 c8 r_4,K [0,1,8,9] [(0,bx b1 63 [sv p1 y0.1 c1,vi s6.1]),(2,bx b3 29 [sv p2 s1.2 c2,sv p8 s6.2 c8,sv none ([]:List wE) 0]),(4,r_4)] [1,0,3] [] [Al xH 107 r_4 p8 c8 s6.2]) (
  zH<|zA 3 u<|qL .s [0] [] zCF u u u (cq [1])<|fun r6 _ k=>k<|zA 1 u<|zK<|zX<|
  wD (fun s7 K=>∀ p9 c9 r_5,K [0,1,3,8,9] [(0,bx b1 63 [sv p1 y0.1 c1,vi s7.2.1]),(2,bx b3 29 [sv p2 s1.2 c2,sv p9 s7.2.2 c9,sv none ([]:List wE) 0]),(4,r_5)] [1,0,3] [(15,vi s7.1)] [Al xH 107 r_5 p9 c9 s7.2.2]) (gv (fun _ k=>k none 0 []) [0,1,2,3,4,5] (gq [2,1,0,3]))<|
  fun s7 _ k p9 c9 r_5=>k<|zQ<|jA 2 u<|zS u (jC<|zQ<|zX<|zH<|qB 1 u<|qG 2 u u u<|zA 1 u<|wF zNN u d<|fun r7 _ k=>k<|zA 1 u<|qL .s [0] [] zCF u u u (cq [1])<|fun r8 _ k=>k<|zA 3 u<|
  qL .s [0] [] zNE u u u (cq [1])<|fun r9 _ k p10 c10=>k<|wF zU6 u (cq [0])<|fun r10 _ k p11 c11=>k<|zA 2 u<|qL .s [0] [] zHy rfl u u (cq [3])<|fun r11 _ k=>k<|
  qE (.agg #[vs r7,vb (r8.1==0),vi 0,sv p11 r10 c11,vb r11.1.1,vs r11.1.2])<|vH .s (.agg k2)<|fun b7=>qU .s 6 u u u<|zK<|
  wC (fun s8 K=>K [0,1,3,8,9,15,16] [(0,bx b1 63 [sv p1 y0.1 c1,vi s8.1]),(6,bx b7 107 [vs r7,vb (r8.1==0),vi s8.2,sv p11 r10 c11,vb r11.1.1,vs r11.1.2])] [3,4,2,5,0] [] []) (
  zH<|qB 1 u<|qG 6 u u u<|zA 1 u<|zK<|zS u (vG<|zA 1 u<|qL .s [0] [] zCF u u u (cq [3])<|fun r12 _ k=>k<|qB 2 u<|qU .s 6 u u u<|wK<|qI (gv kk [0,1,2,3,4,5,6] (gq [3,4,2,5,0])))<|
  yA<|qI (gv kk [0,1,2,3,4,5,6] (gq [3,4,2,5,0])))<|fun s8 _ k=>k<|
  wC (fun s9 K=>K [0,1,3,8,9,15,16] [(0,bx b1 63 [sv p1 y0.1 c1,vi s9.1]),(6,bx b7 107 [vs r7,vb (r8.1==0),vi s8.2,sv p11 r10 c11,vb s9.2.1,vs s9.2.2])] [0,1,2,3,4] [] []) (
  zH<|zA 1 u<|qL .s [0] [] zCF u u u (cq [0])<|fun r13 _ k=>k<|zA 1 u<|zK<|zS u (vG<|zA 1 u<|qL .s [0] [] zCF u u u (cq [0])<|fun r14 _ k=>k<|zA 3 u<|
  qL .s [0] [] zCF u u u (cq [0])<|fun r15 _ k=>k<|wF zNN u d<|fun r16 _ k=>k<|qE (.agg #[vb (decide (0<r14.1)),vs r16])<|qB 4 u<|qU .s 6 u u u<|wK<|
  qI (gv kk [0,1,2,3,4,5,6] (gq [0,1,2,3,4])))<|yA<|qI (gv kk [0,1,2,3,4,5,6] (gq [0,1,2,3,4])))<|fun s9 _ k=>k<|vG<|qB 1 u<|qG 2 u u u<|wQ 6 6 u u u<|
  yI .s (e:=xH) 107 [vs r7,vb (r8.1==0),vi s8.2,sv p11 r10 c11,vb s9.2.1,vs s9.2.2] ([(r7,r8.1==0,s8.2,r10,(s9.2.1,s9.2.2))]:List qC) (rC (vP vS (vP vB (vP vI (vP (vL (gk 4)) (vP vB vS))))) rN)<|fun p12 c12=>
  uE .s 4 3 u (gk 0) u u<|fun x3 r_6 p13 c13=>qB 1 u<|qU .s 2 u u u<|wK<|vM<|qK<|jB 3 u<|yH (gv (fun _ k=>k p13 c13 r_6) [0,1,2,3,4,5] (gq [0,2,3,5])))<|uA<|yR<|yY<|yZ<|
  qI (gv (fun _ k=>k p9 c9 r_5) [0,1,2,3,4,5] (gq [0,1,2,3])))<|fun s6 _ k p8 c8 r_4=>k<|
  wC (fun s10 K=>∀ p14 c14 r_7,K [8,9] [(0,bx b1 63 [sv p1 y0.1 c1,vi s10.1]),(2,bx b3 29 [sv p2 s1.2 c2,sv p8 s6.2 c8,sv p14 s10.2 c14]),(5,r_7)] [1,2,0] [] [Al tK 109 r_7 p14 c14 s10.2]) (
  zH<|zA 1 u<|qL .s [0] [] zCF u u u (cq [1])<|fun r17 _ k=>k<|zA 1 u<|zK<|zX<|
  wD (fun s11 K=>∀ p15 c15 r_8,K [0,1,8,9] [(0,bx b1 63 [sv p1 y0.1 c1,vi s11.2.1]),(2,bx b3 29 [sv p2 s1.2 c2,sv p8 s6.2 c8,sv p15 s11.2.2 c15]),(5,r_8)] [1,2,0] [(17,vi s11.1)] [Al tK 109 r_8 p15 c15 s11.2.2]) (gv (fun _ k=>k none 0 []) [0,1,2,3,4,5] (gq [3,1,2,0]))<|
  fun s11 _ k p15 c15 r_8=>k<|zQ<|
  z5h (fun K=>K [0,1,8,9,17] [] [1,2,3,0] [(123,vb ((decide (0<s11.1))&&(decide (0<(len s6.2)))))] []) (vG<|zA 3 u<|
  tO (b:=decide (0<s11.1)) 118 u (fun hb2=>qB 1 u<|qG 2 u u u<|zA 2 u<|qE (vb (decide (0<(len s6.2))))<|wK<|uD 123 (vb ((decide (0<s11.1))&&(decide (0<(len s6.2))))) u (by rw[hb2];rfl)<|
  qI (gv kk [0,1,2,3,4,5] (gq [1,2,3,0])))<|fun hb2=>zA 4 u<|qE (vb false)<|wK<|uD 123 (vb ((decide (0<s11.1))&&(decide (0<(len s6.2))))) u (by rw[hb2];rfl)<|qI (gv kk [0,1,2,3,4,5] (gq [1,2,3,0])))<|
  fun _ k=>k<|zS u (jC<|zQ<|zX<|
  wC (fun s12 K=>∀ b8 p16 c16,K [0,1,8,9,17] [(0,bx b1 63 [sv p1 y0.1 c1,vi s12.1]),(6,bx b8 107 (zVs s12.2 p16 c16))] [0,1,2,3] [(18,pt b8 0)] (zZ9 s12.2 p16 c16 [])) (
  xY [] [2,4] 11<|qR 0 1 u u<|wS 1 2 u u u u<|zW 8 [2] u<|qR 3 1 u u<|wS 4 2 u u u u<|zW 5 [5] u<|jd2 6 9 (qL (.f u) [0] [] zCF u u u (cq [0])<|fun r18 _ k=>k<|qN<|
  jdI 7 2 u u u u<|fun x4 h4 b9 o2 hp2=>jdL 8 4 2 sI true zZj u u hp2 h4 u<|fun p17 c17=>qM 9<|vH (.f u) (.agg k2)<|fun b10=>qN<|qM 10<|
  qU (o:=0) (.f u) 6 u u u<|qN<|qT<|qI (gv (fun _ k=>k b10 p17 c17) [0,1,2,3,4,5,6] (gq [0,1,2,3,4]))) <|vH (.f u) (.agg k2)<|fun b11=>qN<|qM 6<|
  qL (.f u) [0] [] zCF u u u (cq [0])<|fun r19 _ k=>k<|qN<|jdI 7 2 u u u u<|fun x5 h5 b12 o3 hp3=>jdL 8 4 2 sI true zZj u u hp3 h5 u<|fun p18 c18=>qM 10<|qU (o:=0) (.f u) 6 u u u<|qN<|qT<|
  qI (gv (fun _ k=>k b11 p18 c18) [0,1,2,3,4,5,6] (gq [0,1,2,3,4])))<|fun s12 _ k b8 p16 c16=>k<|zH<|qB 1 u<|qG 6 u u u<|zA 1 u<|zK<|zS u (xY [13] [2,6] 14<|qR 0 2 u u<|wS 1 2 u u u u<|
  qR 2 0 u u<|wS 3 6 u u u u<|zW 7 [4,6,7] u<|qM 5<|qL (.f u) [0] [] zCF u u u (cq [1])<|fun r20 _ k=>k<|qN<|qM 8<|qL (.f u) [0] [] zHy rfl u u (cq [1])<|fun r21 _ k=>k<|qN<|
  vR 9 (.agg #[vs s12.2.1,vi r20.1,vb r21.1.1,vs r21.1.2]) u<|qM 10<|yI (.f u) (e:=tK) 109 [vs s12.2.1,vi r20.1,vb r21.1.1,vs r21.1.2] ([(s12.2.1,r20.1,r21.1)]:List wE) (rC (vP vS (vP vI (vP vB vS))) rN)<|
  fun p19 c19=>qN<|qM 11<|uE (.f u) 5 5 u (gk 0) u u<|fun x6 r_9 p20 c20=>qN<|qR 12 2 u u<|qM 13<|qU (o:=2) (.f u) 2 u u u<|jdb [] [2,6]<|qT<|vM<|qK<|jB 3 u<|
  yH (gv (fun _ k=>k p20 c20 r_9) [0,1,2,3,4,5] (gq [0,3,4,5])))<|yA<|vM<|qK<|jB 3 u<|yH (gv (fun _ k=>k p15 c15 r_8) [0,1,2,3,4,5] (gq [4,1,2,3])))<|uA<|yR<|yY<|yZ<|qI (gv (fun _ k=>k p15 c15 r_8) [0,1,2,3,4,5] (gq [3,0,1,2])))<|
  fun s10 _ k p14 c14 r_7=>k<|zH<|wQ 2 3 u u u<|qU .s 1 u u u<|zK<|qO<|uI 3 2 u u<|uI 4 4 u u<|uI 5 2 u u<|
  yD u (lC 1 (.agg #[sv p2 s1.2 c2,sv p8 s6.2 c8,sv p14 s10.2 c14]) u u lN) (fun _ k=>k p2 c2 p8 c8 p14 c14) [0] (gq [2,1,0])
abbrev zYZ:=@Cn.mk 17 0 _ @zRJ
theorem zVQ{y0:zG}: zP qd prog 149 [vs y0] [] [] (zDM y0) fun r K=>K (vb r) [] [] :=
 zN call149 func149 u fun X=>hI 1 1 0 (fun(s1:Bool) K=>K [0] [] [] [(21,vb s1)] [])<|hI 0 4 2 (fun(s2:Int) K=>K [0] [] [] [(3,vi s2)] [])<|hI 1 6 0 (fun(s3:Bool) K=>K [0,3] [] [] [(55,vb s3)] [])<|
 au
abbrev zUt:=@Cn.mk 149 0 _ @zVQ
attribute [instance] zSq zYa zXy z0p zYZ zUt
theorem z0H{y0:zI}: zP qd prog 93 [.agg #[vb y0.1,vs y0.2]] [] [] (zEv y0) fun r K=>K (vb r) [] [] :=
 zN call93 func93 u fun X=>
 au
abbrev zZy:=@Cn.mk 93 0 _ @z0H
theorem z3B{y0:zM}{y1:zG}: zP qd prog 91 [.agg (vT y0 p1 c1 p2 c2 p3 c3).toArray,vs y1] [] (vW y0 p1 c1 p2 c2 p3 c3 []) (zNq y0 y1) fun r K=>K (vi r) [] [] :=
 zN call91 func91 u fun X=>hI 0 2 2 (fun(s1:Int) K=>K [1,2] [] [0,1,2] [(5,vi s1)] [])<|
 au
abbrev z2B:=@Cn.mk 91 0 _ @z3B
theorem zYI{y0:zM}{y1:zI}: zP qd prog 89 [.agg (vT y0 p1 c1 p2 c2 p3 c3).toArray,.agg #[vb y1.1,vs y1.2]] [] (vW y0 p1 c1 p2 c2 p3 c3 []) (zNO y0 y1) fun r K=>K (vi r) [] [] :=
 zN call89 func89 u fun X=>zH<|wR .s u<|fun b1=>wR .s u<|fun b2=>zA 1 u<|zK<|zQ<|jA 1 u<|zX<|wD (fun s1 K=>K [2,3] [] [0,1,2] [(5,vi s1)] []) (gv kk [0,1] (gq [0,1,2]))<|fun s1 _ k=>k<|zQ<|
  zH<|zA 1 u<|qB 0 u<|qG 0 u u u<|zA 2 u<|zK<|zS u (jC<|zQ<|zX<|uR [] [0,1] 8<|qR 0 0 u u<|wS 1 0 u u u u<|zW 5 [2] u<|jdi 3 0 u u u u<|fun x1 b3 o1=>qR 4 0 u u<|
  jdl 5 true xZ u (gf (gk 0)) u<|uQ 6 1 2 u u u u<|vR 7 (vb (x1.1==y1)) u<|qT<|qK<|zS u (jA 2 u<|qO<|xK<|vD<|jlr<|xK<|vD<|yB u u kk [] d)<|yA<|vM<|qK<|jB 3 u<|
  yH (gv kk [0,1] (gq [1,2,3])))<|uA<|yR<|yY<|yZ<|qK<|jA 1 u<|qO<|yB u u kk [] d
abbrev zXt:=@Cn.mk 89 0 _ @zYI
theorem z2o{y0:Int}: zP qd prog 92 [vi y0] [] [] (zI7 y0) fun r K=>K (vb r) [] [] :=
 zN call92 func92 u fun X=>hP 4 1 0 (fun K=>K [] [] [] [(2,vb ((decide (0≤y0))&&(decide (y0≤9))))] [])<|
 au
abbrev z2F:=@Cn.mk 92 0 _ @z2o
attribute [instance] zZy z2B zXt z2F
theorem zXm{y0:wM}: zP qd prog 88 [.agg (zQq y0).toArray] [] [] (zK0 y0) fun r K=>K (vi r) [] [] :=
 zN call88 func88 u fun X=>hP 4 1 0 (fun K=>K [1] [] [] [(10,vb ((decide (y0.2.1<1))||(decide (3<y0.2.1))))] [])<|hI 1 3 0 (fun(s1:Bool) K=>K [] [(0,.r [])] [] [(41,vb s1)] [])<|
 au
abbrev zYT:=@Cn.mk 88 0 _ @zXm
end Go.Proofs.YtmpieaddiaihmaaGreatDoor
