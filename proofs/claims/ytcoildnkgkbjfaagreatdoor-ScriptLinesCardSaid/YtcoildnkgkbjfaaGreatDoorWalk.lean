/- A part. Conditions: none. -/
import Derived.Test.YtcoildnkgkbjfaaGreatDoorWalk1
namespace Go.Proofs.YtcoildnkgkbjfaaGreatDoor
open Go Go.GD Go.Proofs.Tryz
set_option autoImplicit false
set_option linter.unusedVariables false
set_option maxRecDepth 100000
set_option linter.defProp false
variable {qd:Prop}
variable {yl1:Nat}{p1 p2 p3 p4 p5 p6 p7 p8 p9 p10 p11 p12 p13 p14 p15 p16:Option Addr}{c1 c2 c3 c4 c5 c6 c7 c8 c9 c10 c11 c12 c13 c14 c15 c16:Nat}{b1 b2 b3:Nat}{r_1 r_2:zH}
theorem zPw{y0:xU}: zN qd prog 176 [.agg (zGW y0 p1 c1 p2 c2).toArray] [] (zGU y0 p1 c1 p2 c2 []) (zQX y0) fun r K=>∀ p3 c3,K (sv p3 r c3) [] [Rl zH8 p3 c3 r] :=
 zS call176 func176 u fun X=>zG<|yB .s u<|fun b1=>zB 1 u<|zI<|zG<|zO 5 u<|qJ 0 u u u<|zB 1 u<|jmk .s (e:=zH8) 4 (false:Bool) (vb false) vB u u<|fun x1 r_1 p3 c3=>zB 1 u<|zI<|zY<|jA 1 u<|qP<|
  vN (fun s1 K=>∀ r_2,K [1] [(1,r_2)] [1,2] [(3,.slice p3 (List.length x1) c3),(4,vi s1.2)] [Ar zH8 4 r_2 p3 c3 (List.length x1) s1.1]) (gv (fun _ k=>k r_1) [0,1] (gq [0,1,2]))<|
  fun s1 _ k r_2=>k<|zY<|zG<|zB 1 u<|zO 5 u<|qJ 0 u u u<|zB 2 u<|zI<|zW u (jC<|zY<|qP<|zG<|zO 5 u<|qJ 0 u u u<|zB 1 u<|tA 2 u u u<|fun x2 b2 o1=>tG true zYn (gk 0) u<|
  qN .s (.agg #[vi 0,vi 0,vi 0,vi 0])<|fun b3=>zV .s 2 u u u<|zI<|
  qX (fun s2 K=>∀ r_3,K [1,3,4,5] [(1,r_3)] [2,3] [] [Ar zH8 4 r_3 p3 c3 (List.length x1) s2]) (vD<|zB 2 u<|zO 1 u<|
  qJ 2 u u u<|zB 2 u<|wM 28 u (zB 3 u<|zL (vb true)<|xC 1 u u u<|fun x3 h1 b4 o2 hp1=>jsA .s 1 1 sI true false u hp1 h1 u u vB<|
 au
)<|zO 1 u<|
  qJ 2 u u u<|zB 1 u<|zL (vb (x2.2.1==4))<|xC 1 u u u<|fun x4 h2 b5 o3 hp2=>jsA .s 1 1 sI (x2.2.1==4) false u hp2 h2 u u vB<|
 au
)<|fun s2 _ k r_3=>k<|
  qX (fun s3 K=>∀ r_6,K [1,3,4,5] [(1,r_6)] [1,2] [] [Ar zH8 4 r_6 p3 c3 (List.length x1) s3]) (jA 3 u<|qP<|
  vN (fun s4 K=>∀ r_7,K [1,3,4,5] [(1,r_7)] [1,2] [(6,vi s4.2)] [Ar zH8 4 r_7 p3 c3 (List.length x1) s4.1]) (gv (fun _ k=>k r_3) [0,1,2] (gq [0,1,2]))<|
  fun s4 _ k r_7=>k<|zY<|zG<|zB 1 u<|zO 5 u<|qJ 0 u u u<|zB 2 u<|zI<|zW u (jC<|zY<|qP<|
  jjcK (fun s5 K=>∀ r_8,K [1,3,4,5,6] [(1,r_8)] [1,2] [] [Ar zH8 4 r_8 p3 c3 (List.length x1) s5]) (vD<|zB 4 u<|
  xC 0 u u u<|fun x5 h3 b6 o4 hp3=>jlA 1 0 sI false oB u hp3 h3 u<|zB 1 u<|wM 49 u (zB 17 u<|zL (vb true)<|xC 0 u u u<|fun x6 h4 b7 o5 hp4=>jsA .s 1 0 sI true false u hp4 h4 u u vB<|
 au
)<|zO 5 u<|qJ 0 u u u<|zB 1 u<|tA 2 u u u<|fun x7 b8 o6=>zO 1 u<|tG false oI (gf (gs (gk 0))) u<|zB 2 u<|wM 57 u (zO 5 u<|qJ 0 u u u<|zB 1 u<|
  tA 3 u u u<|fun x8 b9 o7=>zO 3 u<|tG false oI (gs (gs (gs (gk 0)))) u<|zB 2 u<|zL (vb (x8.2.2.2==s1.2))<|zL (vb (x8.2.2.2==s1.2))<|xC 2 u u u<|fun x9 h5 b10 o8 hp5=>
  jsA .s 1 2 sI (x8.2.2.2==s1.2) false u hp5 h5 u u vB<|
 au
)<|zB 8 u<|zL (vb false)<|zL (vb false)<|xC 1 u u u<|fun x10 h6 b11 o9 hp6=>
  jsA .s 1 1 sI false false u hp6 h6 u u vB<|
 au
)<|
 au
)<|
 au
)<|fun s3 _ k r_6=>k<|zG<|zO 1 u<|qJ 2 u u u<|zB 1 u<|zI<|zW u (
  jjcK (fun s6 K=>∀ r_12,K [1,3,4] [(1,r_12),(2,[])] [1,2] [] [Ar zH8 4 r_12 p3 c3 (List.length x1) s6]) (vD<|
  zB 4 u<|xC 0 u u u<|fun x11 h7 b12 o10 hp7=>jlA 1 0 sI false oB u hp7 h7 u<|zB 1 u<|wM 78 u (zB 5 u<|zL (vb true)<|xC 0 u u u<|fun x12 h8 b13 o11 hp8=>jsA .s 1 0 sI true false u hp8 h8 u u vB<|
 au
)<|zB 1 u<|zO 3 u<|qJ 2 u u u<|xC 0 u u u<|fun x13 h9 b14 o12 hp9=>jlA 1 0 sI false oB u hp9 h9 u<|zL (vb x13)<|xC 0 u u u<|fun x14 h10 b15 o13 hp10=>
  jsA .s 1 0 sI x13 false u hp10 h10 u u vB<|
 au
)<|
 au
)<|
 au
)<|uV<|uU<|uX<|uZ<|wS<|jA 2 u<|wC<|wW 1 0 u u<|jre 0 2 u u<|
 au
abbrev zWI:=@Cn.mk 176 0 _ @zPw
attribute [instance] zIv zOD zSF zRA zSU zWI
theorem zFv{y0:xU}: zN qd prog 113 [.agg (zGW y0 p1 c1 p2 c2).toArray] [] (zGU y0 p1 c1 p2 c2 []) (zFu y0) fun r K=>∀ p3 c3,K (sv p3 r c3) [] [Rl (zR .i64) p3 c3 r] :=
 zS call113 func113 u fun X=>zG<|yB .s u<|fun b1=>zB 1 u<|zI<|zG<|qV 0 6 u u u<|wG zPw u (cq [0,1])<|fun r1 _ k p3 c3=>k<|zB 1 u<|zI<|zG<|zO 5 u<|qJ 0 u u u<|zB 1 u<|jmk .s (e:=zR .i64) 3 (0:Int) (vi 0) vI u u<|
  fun x1 r_1 p4 c4=>zB 1 u<|zI<|zY<|zG<|zO 5 u<|qJ 0 u u u<|zB 3 u<|zI<|qP<|
  vN (fun s1 K=>∀ r_2,K [1,3] [(1,r_2)] [1,2,3] [(4,.slice p4 (List.length x1) c4),(5,vi s1.2)] [Ar (zR .i64) 3 r_2 p4 c4 (List.length x1) s1.1]) (gv (fun _ k=>k r_1) [0,1] (gq [0,1,2,3]))<|
  fun s1 _ k r_2=>k<|zY<|jA 2 u<|zW u (jC<|zY<|qP<|zY<|zG<|zB 2 u<|tA 1 u u u<|fun x2 b2 o1=>tG false oB (gk 0) u<|zI<|zW u (
 au
)<|jC<|zG<|
  zB 2 u<|xC 1 u u u<|fun x3 h1 b3 o2 hp1=>jsA .s 1 1 sI 1 false u hp1 h1 u u vI<|fun r_3=>zI<|jA 3 u<|qP<|
  vN (fun s2 K=>∀ r_4,K [1,3,4,5] [(1,r_4)] [3,4,5] [(6,vi s2.2)] [Ar (zR .i64) 3 r_4 p4 c4 (List.length x1) s2.1]) (gv (fun _ k=>k r_3) [0,1] (gq [0,3,4,5]))<|
  fun s2 _ k r_4=>k<|zY<|zG<|zB 1 u<|zO 5 u<|qJ 0 u u u<|zB 2 u<|zI<|zW u (jC<|zY<|qP<|qX (fun s3 K=>K [1,3,4,5,6] [] [1,0,2,3] [(60,vb s3)] []) (vD<|
  zO 5 u<|qJ 0 u u u<|zB 1 u<|tA 3 u u u<|fun x4 b4 o3=>zO 1 u<|tG false oI (gf (gs (gk 0))) u<|zB 2 u<|wM 44 u (zO 5 u<|qJ 0 u u u<|zB 1 u<|tA 4 u u u<|fun x5 b5 o4=>zO 3 u<|
  tG false oI (gs (gs (gs (gk 0)))) u<|zB 2 u<|zL (vb (x5.2.2.2==s1.2))<|zB 1 u<|wM 54 u (zB 2 u<|xC 2 u u u<|fun x6 h2 b6 o5 hp2=>jlA 1 2 sI false oI u hp2 h2 u<|
 au
)<|
 au
)<|
 au
)<|fun s3 _ k=>
  k<|zW u (vD<|zB 2 u<|xC 1 u u u<|fun x7 h3 b7 o6 hp3=>jsA .s 1 1 sI 2 false u hp3 h3 u u vI<|
 au
)<|
 au
)<|
 au
)<|uV<|uU<|uX<|uZ<|wS<|jA 2 u<|wC<|wW 1 0 u u<|jre 0 2 u u<|
 au
abbrev zT0:=@Cn.mk 113 0 _ @zFv
theorem z3G{y0:uF}{y1:Int}{y2:Int}: zN qd prog 115 [.agg (zKR y0 p1 c1).toArray,vi y1,vi y2] [] [Rl zEu p1 c1 y0.2] (zW2 y0 y1 y2) fun r K=>K (vb r) [] [] :=
 zS call115 func115 u fun X=>hI 0 2 2 (fun(s1:Int) K=>K [1,2,3] [] [0] [(7,vi s1)] [])<|hI 1 4 0 (fun(s2:Bool) K=>K [1,2,3,7] [] [0] [(32,vb s2)] [])<|
 au
abbrev z0x:=@Cn.mk 115 0 _ @z3G
theorem z3k{y0:List Int}{y1:Int}: zN qd prog 177 [sv p1 y0 c1,vi y1] [] [Rl (zR .i64) p1 c1 y0] (zZY y0 y1) fun r K=>K (vb r) [] [] :=
 zS call177 func177 u fun X=>hI 0 2 2 (fun(s1:Int) K=>K [0,1] [] [0] [(5,vi s1)] [])<|
 au
abbrev z4W:=@Cn.mk 177 0 _ @z3k
theorem zHN{y0:List Int}: zN qd prog 112 [sv p1 y0 c1] [] [Rl (zR .i64) p1 c1 y0] (zFz y0) fun r K=>K (vi r) [] [] :=
 zS call112 func112 u fun X=>
 au
abbrev zTd:=@Cn.mk 112 0 _ @zHN
attribute [instance] zT0 z0x z4W zTd
theorem zLm{y0:xU}: zN qd prog 114 [.agg (zGW y0 p1 c1 p2 c2).toArray] [] (zGU y0 p1 c1 p2 c2 []) (zL2 y0) fun r K=>∀ p3 c3,K (sv p3 r c3) [] [Rl (zR .i64) p3 c3 r] :=
 zS call114 func114 u fun X=>zG<|yB .s u<|fun b1=>zB 1 u<|zI<|zG<|qV 0 6 u u u<|wG zFv u (cq [0,1])<|fun r1 _ k p3 c3=>k<|zB 1 u<|zI<|zG<|xK .s (e:=zR .i64) 3 [vi 0] ([0]:List Int) (rC vI rN)<|fun r_1 p4 c4=>zB 1 u<|zI<|
  zY<|jA 1 u<|qP<|
  vN (fun s1 K=>∀ p5 c5 r_2,K [1,3] [(1,r_2)] [1,2,3] [(4,sv p5 s1.1 c5),(5,vi s1.2)] [Al (zR .i64) 3 r_2 p5 c5 s1.1]) (gv (fun _ k=>k p4 c4 r_1) [0,1] (gq [0,1,2,3]))<|
  fun s1 _ k p5 c5 r_2=>k<|zY<|zG<|zB 1 u<|zO 5 u<|qJ 0 u u u<|zB 2 u<|zI<|zW u (hD 8 [] [0,2] (.l [0,1,2,3,4,5,6,7] (.f 8 (.l [9,10] (.s 44 (.l [11,12,13,14,15,16] .e) (.l [11,12,13,14,15,16] .e)))))<|hI 1 7 0 (fun(s2:Bool) K=>K [1,3,4,5,6] [] [2,1,3,4] [(33,vb s2)] [])<|hI 1 8 0 (fun(s3:Bool) K=>K [1,3,4,5] [(2,.r [])] [0,1,2,3] [(50,vb s3)] [])<|
 au
)<|uV<|uU<|uX<|uZ<|wS<|jA 2 u<|wC<|
  wW 1 0 u u<|
 au
abbrev zSI:=@Cn.mk 114 0 _ @zLm
theorem zQ2{y0:xU}{y1:Int}{y2:Int}: zN qd prog 116 [.agg (zGW y0 p1 c1 p2 c2).toArray,vi y1,vi y2] [] (zGU y0 p1 c1 p2 c2 []) (zKq y0 y1 y2) fun r K=>K (vb r) [] [] :=
 zS call116 func116 u fun X=>hI 2 1 4 (fun(s1:Unit) K=>K [2,3] [] [0,1] [] [])<|hI 0 1 2 (fun(s2:Int) K=>K [2,3] [] [0,1] [(1,vi s2)] [])<|hI 1 2 0 (fun(s3:Bool) K=>K [1,2,3] [] [0,1] [(25,vb s3)] [])<|
 au
abbrev zQ4:=@Cn.mk 116 0 _ @zQ2
attribute [instance] zSI zQ4
theorem zSK{y0:xU}: zN qd prog 63 [.agg (zGW y0 p1 c1 p2 c2).toArray] [] (zGU y0 p1 c1 p2 c2 []) (zIU y0) fun r K=>∀ p3 c3,K (sv p3 r c3) [] [Rl zJB p3 c3 r] :=
 zS call63 func63 u fun X=>zG<|yB .s u<|fun b1=>zB 1 u<|zI<|zG<|qV 0 6 u u u<|wG zFv u (cq [0,1])<|fun r1 _ k p3 c3=>k<|zB 1 u<|zI<|zG<|zB 1 u<|wG zHN u (cq [0])<|fun r2 _ k=>k<|zB 2 u<|zI<|zG<|zB 1 u<|
  yO zJB 29<|zI<|zY<|zG<|qV 0 6 u u u<|wG zLm u (cq [2,3])<|fun r3 _ k p4 c4=>k<|zB 2 u<|zI<|qP<|
  vN (fun s1 K=>∀ p5 c5 r_1,K [1,4,17,18] [(1,r_1)] [0,3,4] [(5,sv p5 s1.1 c5),(19,vi s1.2)] [Al zJB 29 r_1 p5 c5 s1.1]) (gv (fun _ k=>k none 0 []) [0,1] (gq [1,0,3,4]))<|
  fun s1 _ k p5 c5 r_1=>k<|jA 1 u<|zY<|zW u (hD 11 [] [0] (.l [0,1,2,3,4,5,6,7,8] (.f 9 (.l [10] .e)))<|hI 0 9 2 (fun(s2:(List zFm)×Int) K=>∀ p6 c6 r_2,K [1,4,7,17,18,19] [(1,.r r_2)] [3,4,5] [(5,sv p6 s2.1 c6),(8,vi s2.2)] [Al zJB 29 r_2 p6 c6 s2.1])<|hI 1 12 1 (fun(s3:Bool) K=>K [1,4,5,7,8,17,18,19] [] [1,2,3,4] [(9,vb s3)] [])<|hI 0 13 2 (fun(s4:Bool×Int) K=>K [1,4,5,7,8,17,18,19] [] [1,2,3,4] [(9,vb s4.1),(10,vi s4.2)] [])<|hI 3 15 0 (fun(s5:Bool) K=>K [1,4,5,7,8,10,17,18,19] [] [0,1,2,3] [(9,vb s5)] [])<|hI 1 16 0 (fun(s6:Bool) K=>K [1,4,5,7,8,17,18,19] [] [0,1,2,3] [(97,vb s6)] [])<|
 au
)<|
  uV<|uU<|uX<|uZ<|wS<|jA 2 u<|wC<|wW 1 0 u u<|
 au
abbrev zRv:=@Cn.mk 63 0 _ @zSK
attribute [instance] zRv
theorem zSc{y0:xU}: zN qd prog 111 [.agg (zGW y0 p1 c1 p2 c2).toArray] [] (zGU y0 p1 c1 p2 c2 []) (zSh y0) fun r K=>K (.agg #[vi r.1,vi r.2]) [] [] :=
 zS call111 func111 u fun X=>zG<|yB .s u<|fun b1=>qN .s (.agg #[vi 0,vi 0])<|fun b2=>zI<|zG<|zO 5 u<|qJ 0 u u u<|zO 5 u<|qJ 0 u u u<|zB 2 u<|tA 1 u u u<|fun x1 b3 o1=>tG true zYn (gk 0) u<|
  qN .s (.agg #[vi 0,vi 0,vi 0,vi 0])<|fun b4=>zV .s 2 u u u<|zI<|zY<|zG<|zO 1 u<|qJ 2 u u u<|zB 1 u<|zI<|zW u (
 au
)<|jC<|zG<|qV 0 6 u u u<|wG zFv u (cq [1,2])<|fun r1 _ k p3 c3=>k<|wG zHN u (cq [0])<|
  fun r2 _ k=>k<|zB 1 u<|zI<|jA 1 u<|qX (fun s1 K=>K [1,2,4] [(2,[])] [2,3] [(5,vi s1)] []) (hI 0 7 2 (fun(s2:Int×Int) K=>K [1,2,4] [(2,.r [])] [2,3] [(5,vi s2.1),(6,vi s2.2)] [])<|
 au
)<|fun s1 _ k=>k<|zY<|qP<|zG<|zO 5 u<|
  qJ 0 u u u<|zB 3 u<|zI<|zW u (
 au
)<|zG<|zB 3 u<|zO 3 u<|
  jiB (l:=([y0.2.2.1.1,y0.2.2.1.2]:List Int)) u u<|fun x3 h1=>jlI 0 (.int .i64) u u u h1<|
 au
abbrev zYR:=@Cn.mk 111 0 _ @zSc
theorem zWC{y0:xU}: zN qd prog 62 [.agg (zGW y0 p1 c1 p2 c2).toArray] [] (zGU y0 p1 c1 p2 c2 []) (zQW y0) fun r K=>K (vi r) [] [] :=
 zS call62 func62 u fun X=>zG<|yB .s u<|fun b1=>zB 1 u<|zI<|zY<|zG<|qV 0 6 u u u<|wG zSc u (cq [0,1])<|fun r1 _ k=>k<|zL (.agg #[vi 0,vi 0])<|zL (vb (!(r1==(0,0))))<|zI<|zW u (jA 1 u<|wC<|xY<|xJ u u kk [] d)<|
  jC<|zG<|qV 0 6 u u u<|wG zFv u (cq [0,1])<|fun r2 _ k p3 c3=>k<|wG zHN u (cq [0])<|fun r3 _ k=>k<|zB 2 u<|zI<|wC<|xJ u u kk [] d
abbrev zWr:=@Cn.mk 62 0 _ @zWC
attribute [instance] zYR zWr
theorem zUW{y0:xU}: zN qd prog 31 [.agg (zGW y0 p1 c1 p2 c2).toArray] [] (zGU y0 p1 c1 p2 c2 []) (zOi y0) fun r K=>∀ p3 c3,K (sv p3 r c3) [] [Rl zJB p3 c3 r] :=
 zS call31 func31 u fun X=>
 au
abbrev zU4:=@Cn.mk 31 0 _ @zUW
theorem zSR{y0:List zE}{y1:zE}: zN qd prog 105 [sv p1 y0 c1,.agg #[vb y1.1,vs y1.2]] [] [Rl qU p1 c1 y0] (zIV y0 y1) fun r K=>K (vb r) [] [] :=
 zS call105 func105 u fun X=>zG<|yB .s u<|fun b1=>zB 1 u<|zI<|zY<|jA 1 u<|qP<|vN (fun s1 K=>K [0,3] [] [0] [(5,vi s1)] []) (gv kk [0] (gq [0]))<|fun s1 _ k=>k<|zY<|jA 4 u<|zW u (jC<|zY<|qP<|
  jds [] [0] 6<|zQ 4 [0,1] u<|jdi 2 0 u u u u<|fun x1 b2 o1=>jdl 3 true zBA u (gk 0) u<|yZ 4 0 2 u u u u<|qS 5 (vb (x1==y1)) u<|qI<|wS<|zW u (jA 1 u<|wC<|jbr<|xY<|jlr<|jbr<|xY<|
  xJ u u kk [] d)<|uW<|yT<|wS<|jB 3 u<|jln (gv kk [0] (gq [1])))<|uV<|uU<|uX<|uZ<|wS<|jA 1 u<|wC<|xJ u u kk [] d
abbrev zX6:=@Cn.mk 105 0 _ @zSR
theorem zS7{y0:zE}{y1:zE}: zN qd prog 171 [.agg #[vb y0.1,vs y0.2],.agg #[vb y1.1,vs y1.2]] [] [] (zEv y0 y1) fun r K=>K (vi r) [] [] :=
 zS call171 func171 u fun X=>zG<|yB .s u<|fun b1=>yB .s u<|fun b2=>zB 1 u<|zI<|zY<|qP<|zG<|qV 0 2 u u u<|qV 1 2 u u u<|zL (vb (y0==y1))<|zB 1 u<|zI<|zW u (jA 1 u<|wC<|jbr<|xY<|xJ u u kk [] d)<|
  jjp (fun K=>K [(9,vb ((yX y0.2 y1.2)||((y0.2==y1.2)&&y1.1)))] [[],[]] []) (vD<|zO 1 u<|qJ 0 u u u<|zO 1 u<|
  qJ 1 u u u<|zB 2 u<|jsp (b:=yX y0.2 y1.2) 15 u (fun hb1=>zB 9 u<|zL (vb true)<|zB 1 u<|wH<|jup 9 (vb ((yX y0.2 y1.2)||((y0.2==y1.2)&&y1.1))) u (by rw[hb1];rfl)<|qB (gv kk [900,901] d)
  )<|fun hb1=>zO 1 u<|qJ 0 u u u<|zO 1 u<|qJ 1 u u u<|zB 2 u<|jsp (b:=y0.2==y1.2) 21 u (fun hb2=>zO 0 u<|qJ 1 u u u<|zL (vb y1.1)<|zL (vb y1.1)<|zB 1 u<|wH<|
  jup 9 (vb ((yX y0.2 y1.2)||((y0.2==y1.2)&&y1.1))) u (by rw[hb1,hb2];rfl)<|qB (gv kk [900,901] d))<|fun hb2=>zB 2 u<|zL (vb false)<|zL (vb false)<|zB 1 u<|wH<|
  jup 9 (vb ((yX y0.2 y1.2)||((y0.2==y1.2)&&y1.1))) u (by rw[hb1,hb2];rfl)<|qB (gv kk [900,901] d))<|fun _ k=>k<|zW u (jA 1 u<|wC<|jbr<|xY<|xJ u u kk [] d)<|uW<|yT<|wS<|jA 1 u<|wC<|
  xJ u u kk [] d
abbrev zR3:=@Cn.mk 171 0 _ @zS7
attribute [instance] zU4 zX6 zR3
theorem zT1{y0:List zE}{y1:zE}: zN qd prog 102 [sv p1 y0 c1,.agg #[vb y1.1,vs y1.2]] [] [Rl qU p1 c1 y0] (zFg y0 y1) fun r K=>∀ p2 c2,K (sv p2 r c2) [] [Rl qU p2 c2 r] :=
 zS call102 func102 u fun X=>zG<|yB .s u<|fun b1=>zB 1 u<|zI<|jA 1 u<|qX (fun s1 K=>K [0,3] [] [0] [(5,vi s1)] []) (hD 2 [] [0] (.l [0,1,2,3,4] (.s 11 (.l [5,6,7,8,9] (.f 10 (.l [11,12] .e))) (.l [5,6,7,8,9,10,11,12] .e)))<|hI 0 2 2 (fun(s2:Int) K=>K [0,3] [] [0] [(5,vi s2)] [])<|hI 1 2 0 (fun(s3:Bool) K=>K [0,3,5] [] [0] [(19,vb s3)] [])<|
 au
)<|
  fun s1 _ k=>k<|zY<|qX (fun s4 K=>K [0,3,5] [] [0] [(33,vb s4)] []) (uG [] [0] 12<|zQ 7 [0,1,2,3,4] u<|wM 26 u (zQ 5 [5,6] u<|jdi 7 0 u u u u<|fun x2 b3 o2=>
  jdl 8 true zBA u (gk 0) u<|yZ 9 0 2 u u u u<|qS 10 (vb (x2==y1)) u<|qS 11 (vb (x2==y1)) u<|qI<|
 au
)<|zQ 1 [5,6,7,8,9,10] u<|qS 11 (vb false) u<|qI<|
 au
)<|fun s4 _ k=>k<|zW u (
 au
)<|jC<|zG<|xK .s (e:=qU) 23 [] ([]:List zE) rN<|fun r_1 p2 c2=>zB 2 u<|
  jsl (gk 1) u u u (.inl ⟨rfl,rfl⟩) (.inr ⟨_,rfl⟩)<|fun x3 p3 c3=>vK .s 1 1 u (gk 0) u u<|fun x4 r_2 p4 c4=>zB 1 u<|zI<|jds [] [0] 9<|zQ 8 [0] u<|yZ 1 0 2 u u u u<|zQ 5 [4,5] u<|
  jdw 6 u (gk 3) u u u (.inr ⟨_,rfl⟩) (.inl ⟨rfl,rfl⟩)<|fun x5 p5 c5=>zT 2<|uR (.f u) (e:=qU) 23 [vb y1.1,vs y1.2] ([y1]:List zE) (rC (vP vB vS) rN)<|fun p6 c6=>zM<|zT 3<|
  vK (.f u) 1 2 u (gk 0) u u<|fun x6 r_3 p7 c7=>zM<|zT 7<|vK (.f u) 1 0 u (gk 2) u u<|fun x7 r_4 p8 c8=>zM<|zQ 0 [8] u<|qI<|wS<|wC<|wW 1 0 u u<|
 au
abbrev zT9:=@Cn.mk 102 0 _ @zT1
attribute [instance] zT9
theorem zN5{y0:List zU}{y1:List Int}: zN qd prog 53 [sv p1 y0 c1,sv p2 y1 c2] [] [Rl xF p1 c1 y0,Rl (zR .i64) p2 c2 y1] (zCA y0 y1) fun r K=>∀ p3 c3,K (sv p3 r c3) [] [Rl qU p3 c3 r] :=
 zS call53 func53 u fun X=>hI 0 3 2 (fun(s1:(List zE)×Int) K=>∀ p3 c3,K [0,1] [] [0,1] [(5,sv p3 s1.1 c3),(6,vi s1.2)] [Rl qU p3 c3 s1.1])<|hI 1 5 0 (fun(s2:Bool) K=>K [0,1,5,6] [] [1,2,0] [(26,vb s2)] [])<|
 au
abbrev zNP:=@Cn.mk 53 0 _ @zN5
theorem zKf{y0:uF}: zN qd prog 205 [.agg (zKR y0 p1 c1).toArray] [] [Rl zEu p1 c1 y0.2] (zBt y0) fun r K=>K (vi r) [] [] :=
 zS call205 func205 u fun X=>zG<|yB .s u<|fun b1=>zB 1 u<|zI<|zY<|z1H (fun K=>K [1] [] [0] [(12,vb ((decide (y0.1<0))||(decide (40<y0.1))))] []) (
 au
)<|fun _ k=>k<|zW u (
 au
)<|jC<|zY<|jA 1 u<|qP<|vN (fun s1 K=>K [1] [] [0] [(3,vi s1)] []) (gv kk [0] (gq [0]))<|fun s1 _ k=>k<|zY<|zG<|zB 1 u<|zO 1 u<|
  qJ 0 u u u<|zB 2 u<|zI<|zW u (jC<|zY<|qP<|zG<|zO 1 u<|qJ 0 u u u<|zB 1 u<|tA 0 u u u<|fun x1 b2 o1=>hD 9 [] [0,1] (.l [0,1,2] (.s 49 (.l [3,4,5,6,7,8,9,10,11,12,13] (.s 60 (.l [14,15,16,17,18,19,20,21,22,23,24,25,26,27,28,29,30,31,32,33,34,35,36,37] .e) (.l [14,15,16,17,18,19,20,21,22,23,24] (.s 71 (.l [25,26,27,28,29,30,31,32,33,34,35,36,37] .e) (.l [25,26,27,28,29,30,31,32,33,34,35,36,37] .e))))) (.l [3,4,5,6,7,8,9,10,11,12,13,14,15,16,17,18,19,20,21,22,23,24,25,26,27,28,29,30,31,32,33,34,35,36,37] .e)))<|hP 4 7 0 (fun K=>K [1,3,4] [] [1] [(46,vb ((decide (x1.1<0))||((decide (y0.1≤x1.1))||((decide (x1.2<0))||(decide (y0.1≤x1.2))))))] [])<|hI 1 9 0 (fun(s2:Bool) K=>K [1,3] [(1,.r [])] [0] [(84,vb s2)] [])<|
 au
)<|
 au
abbrev zQu:=@Cn.mk 205 0 _ @zKf
attribute [instance] zNP zQu
theorem zOn{y0:uF}: zN qd prog 204 [.agg (zKR y0 p1 c1).toArray] [] [Rl zEu p1 c1 y0.2] (zIB y0) fun r K=>∀ p2 c2,K (.agg (zKR r p2 c2).toArray) [] [Rl zEu p2 c2 r.2] :=
 zS call204 func204 u fun X=>
 au
abbrev zVI:=@Cn.mk 204 0 _ @zOn
attribute [instance] zVI
theorem zHE{y0:uF}{y1:Int}: zN qd prog 172 [.agg (zKR y0 p1 c1).toArray,vi y1] [] [Rl zEu p1 c1 y0.2] (zDL y0 y1) fun r K=>∀ p2 c2,K (sv p2 r c2) [] [Rl (zR .i64) p2 c2 r] :=
 zS call172 func172 u fun X=>zG<|yB .s u<|fun b1=>zB 1 u<|zI<|zG<|qV 0 2 u u u<|wG zOn u (cq [0])<|fun r1 _ k p2 c2=>k<|zV .s 0 u u u<|zI<|zG<|zB 1 u<|yO (zR .i64) 3<|zI<|zY<|jA 1 u<|qP<|
  vN (fun s1 K=>∀ p3 c3 r_1,K [1,2] [(1,r_1)] [1] [(5,sv p3 s1.1 c3),(6,vi s1.2)] [Al (zR .i64) 3 r_1 p3 c3 s1.1]) (gv (fun _ k=>k none 0 []) [0,1] (gq [0,1]))<|
  fun s1 _ k p3 c3 r_1=>k<|zY<|zG<|zB 1 u<|zO 1 u<|qJ 0 u u u<|zB 2 u<|zI<|zW u (
 au
)<|uV<|uU<|uX<|uZ<|wS<|
  jA 2 u<|wC<|wW 1 0 u u<|
 au
abbrev zPI:=@Cn.mk 172 0 _ @zHE
attribute [instance] zPI
theorem zVN{y0:uF}: zN qd prog 103 [.agg (zKR y0 p1 c1).toArray] [] [Rl zEu p1 c1 y0.2] (zHq y0) fun r K=>∀ p2 c2 p3 c3,K (.tuple #[sv p2 r.1 c2,sv p3 r.2 c3]) [] [Rl (zR .i64) p2 c2 r.1,Rl (zR .i64) p3 c3 r.2] :=
 zS call103 func103 u fun X=>zG<|yB .s u<|fun b1=>zB 2 u<|zI<|zG<|zB 1 u<|yO (zR .i64) 3<|zB 1 u<|yO (zR .i64) 3<|zI<|
  qX (fun s1 K=>∀ p2 c2 r_1 p3 c3 r_2,K [1] [(1,r_1),(2,r_2)] [2] [(4,sv p2 s1.1 c2),(5,sv p3 s1.2 c3)] [Al (zR .i64) 3 r_1 p2 c2 s1.1,Al (zR .i64) 3 r_2 p3 c3 s1.2]) (hI 0 3 2 (fun(s2:(List Int)×(List Int)×Int) K=>∀ p4 c4 r_3 p5 c5 r_4,K [1] [(1,.r r_3),(2,.r r_4)] [2] [(4,sv p4 s2.1 c4),(5,sv p5 s2.2.1 c5),(6,vi s2.2.2)] [Al (zR .i64) 3 r_3 p4 c4 s2.1,Al (zR .i64) 3 r_4 p5 c5 s2.2.1])<|
 au
)<|fun s1 _ k p2 c2 r_1 p3 c3 r_2=>k<|jA 1 u<|qP<|
  vN (fun s3 K=>∀ r_7 r_8,K [1] [(1,r_7),(2,r_8)] [2] [(4,.slice p2 (List.length s1.1) c2),(5,.slice p3 (List.length s1.2) c3),(7,vi s3.2.2)] [Ar (zR .i64) 3 r_7 p2 c2 (List.length s1.1) s3.1,Ar (zR .i64) 3 r_8 p3 c3 (List.length s1.2) s3.2.1]) (gv (fun _ k=>k r_1 r_2) [0,1,2] (gq [0,1,2]))<|
  fun s3 _ k r_7 r_8=>k<|zY<|qP<|jA 1 u<|zG<|xK .s (e:=zR .i64) 3 [] ([]:List Int) rN<|fun r_9 p10 c10=>zB 1 u<|jao .s 3 1 0 1 u u u u<|fun x3 r_10 p11 c11=>zB 1 u<|zI<|
  qX (fun s4 K=>∀ r_11 r_12,K [1,4,5,7] [(1,r_11),(2,r_12),(3,[])] [4] [(8,vb s4.2.2)] [Ar (zR .i64) 3 r_11 p2 c2 (List.length s1.1) s4.1,Ar (zR .i64) 3 r_12 p3 c3 (List.length s1.2) s4.2.1]) (
  jA 1 u<|qP<|
  vN (fun s5 K=>∀ r_13 r_14,K [1,4,5,7,9] [(1,r_13),(2,r_14)] [0,4] [(8,vb s5.2.2.1),(10,vi s5.2.2.2)] [Ar (zR .i64) 3 r_13 p2 c2 (List.length s1.1) s5.1,Ar (zR .i64) 3 r_14 p3 c3 (List.length s1.2) s5.2.1]) (gv (fun _ k=>k r_7 r_8) [0,1,2,3] (gq [2,3,0,4]))<|
  fun s5 _ k r_13 r_14=>k<|zY<|zG<|zB 1 u<|zO 0 u<|qJ 0 u u u<|zB 1 u<|zI<|zW u (jC<|zY<|qP<|zG<|zB 2 u<|xC 2 u u u<|fun x4 h4 b2 o1 hp1=>jlA 3 2 sI false oI u hp1 h4 u<|zB 2 u<|zI<|
  qX (fun s6 K=>K [1,4,5,7,8,9,10] [] [0,1,2,3] [(11,vb s6)] []) (zG<|qV 0 2 u u u<|zB 1 u<|wG zHE u (cq [3])<|fun r1 _ k p12 c12=>k<|zB 2 u<|
  zI<|qP<|
  vN (fun s7 K=>K [1,4,5,7,8,9,10,47,48] [] [1,2,3,0,4] [(11,vb s7.1),(49,vi s7.2)] []) (gv kk [0,1,2,3] (gq [1,2,3,0,4]))<|
  fun s7 _ k=>k<|jA 1 u<|zY<|zW u (jC<|zY<|qP<|zG<|tA 3 u u u<|fun x5 b3 o2=>tG false oI (gk 0) u<|zB 1 u<|zI<|
  jjcK (fun s8 K=>K [1,4,5,7,8,9,10,47,48,49] [] [1,2,3,4,5] [(11,vb s8)] []) (vD<|zB 2 u<|wM 54 u (zB 2 u<|xC 3 u u u<|fun x6 h5 b4 o3 hp2=>
  jlA 3 3 sI false oI u hp2 h5 u<|
 au
)<|
 au
)<|
 au
)<|
 au
)<|fun s6 _ k=>k<|jA 1 u<|zW u (vD<|zB 5 u<|xC 0 u u u<|fun x7 h6 b5 o4 hp3=>
  jsA .s 1 0 sI 1 false u hp3 h6 u u vI<|fun r_15=>xC 2 u u u<|fun x8 h7 b6 o5 hp4=>jsA .s 2 2 sI s3.2.2 false u hp4 h7 u u vI<|
 au
)<|
 au
)<|
 au
)<|
  fun s4 _ k r_11 r_12=>k<|
  qX (fun s9 K=>∀ r_17 r_18,K [1,4,5,7,8] [(1,r_17),(2,r_18)] [2] [] [Ar (zR .i64) 3 r_17 p2 c2 (List.length s1.1) s9.1,Ar (zR .i64) 3 r_18 p3 c3 (List.length s1.2) s9.2]) (
  jA 1 u<|qP<|
  vN (fun s10 K=>∀ r_19 r_20,K [1,4,5,7,8] [(1,r_19),(2,r_20)] [2] [(14,vi s10.2.2)] [Ar (zR .i64) 3 r_19 p2 c2 (List.length s1.1) s10.1,Ar (zR .i64) 3 r_20 p3 c3 (List.length s1.2) s10.2.1]) (gv (fun _ k=>k r_11 r_12) [0,1,2,903] (gq [0,1,2]))<|
  fun s10 _ k r_19 r_20=>k<|zY<|zG<|zB 1 u<|zO 0 u<|qJ 0 u u u<|zB 1 u<|zI<|zW u (jC<|zY<|qP<|zG<|qV 0 2 u u u<|zB 1 u<|wG zHE u (cq [2])<|fun r2 _ k p13 c13=>k<|zB 2 u<|zI<|qP<|
  vN (fun s11 K=>∀ r_21 r_22,K [1,4,5,7,8,14,78,79] [(1,r_21),(2,r_22)] [0,3] [(80,vi s11.2.2)] [Ar (zR .i64) 3 r_21 p2 c2 (List.length s1.1) s11.1,Ar (zR .i64) 3 r_22 p3 c3 (List.length s1.2) s11.2.1]) (gv (fun _ k=>k r_19 r_20) [0,1,2,903] (gq [1,2,0,3]))<|
  fun s11 _ k r_21 r_22=>k<|jA 1 u<|zY<|zW u (jC<|zY<|qP<|zG<|tA 2 u u u<|fun x9 b7 o6=>tG false oI (gk 0) u<|zB 1 u<|zI<|
  qX (fun s12 K=>K [1,4,5,7,8,14,78,79,80] [] [1,2,3,4] [(103,vb s12)] []) (vD<|zB 2 u<|xC 1 u u u<|fun x10 h8 b8 o7 hp5=>
  jlA 1 1 sI false oI u hp5 h8 u<|zB 2 u<|wM 89 u (zB 2 u<|xC 1 u u u<|fun x11 h9 b9 o8 hp6=>jlA 1 1 sI false oI u hp6 h9 u<|zB 1 u<|zL (vb (x11==1))<|zB 1 u<|wM 96 u (zB 2 u<|xC 2 u u u<|
  fun x12 h10 b10 o9 hp7=>jlA 2 2 sI false oI u hp7 h10 u<|
 au
)<|
 au
)<|
 au
)<|fun s12 _ k=>k<|zW u (vD<|zB 5 u<|xC 0 u u u<|fun x13 h11 b11 o10 hp8=>
  jsA .s 1 0 sI 2 false u hp8 h11 u u vI<|fun r_23=>xC 2 u u u<|fun x14 h12 b12 o11 hp9=>jsA .s 2 2 sI s3.2.2 false u hp9 h12 u u vI<|
 au
)<|
 au
)<|
 au
)<|
 au
)<|fun s9 _ k r_17 r_18=>k<|jA 2 u<|zW u (jA 4 u<|wC<|jbr<|xY<|jlr<|jbr<|wW 1 0 u u<|
  wW 2 2 u u<|jre 1 2 u u<|jre 1 3 u u<|
 au
)<|
 au
abbrev zU3:=@Cn.mk 103 0 _ @zVN
attribute [instance] zU3
theorem zU5{y0:uF}: zN qd prog 55 [.agg (zKR y0 p1 c1).toArray] [] [Rl zEu p1 c1 y0.2] (zFR y0) fun r K=>∀ p2 c2,K (sv p2 r c2) [] [Rl (zR .i64) p2 c2 r] :=
 zS call55 func55 u fun X=>
 au
abbrev zU8:=@Cn.mk 55 0 _ @zU5
theorem zXS{y0:List Int}{y1:Int}: zN qd prog 54 [sv p1 y0 c1,vi y1] [] [Rl (zR .i64) p1 c1 y0] (zJF y0 y1) fun r K=>∀ p2 c2,K (sv p2 r c2) [] [Rl (zR .i64) p2 c2 r] :=
 zS call54 func54 u fun X=>jA 1 u<|zG<|zB 1 u<|yO (zR .i64) 3<|zI<|zY<|jA 1 u<|qP<|
  vN (fun s1 K=>∀ p2 c2 r_1,K [0,1] [(0,r_1)] [1] [(5,sv p2 s1.1 c2),(6,vi s1.2)] [Al (zR .i64) 3 r_1 p2 c2 s1.1]) (gv (fun _ k=>k none 0 []) [0] (gq [0,1]))<|
  fun s1 _ k p2 c2 r_1=>k<|zY<|jA 4 u<|zW u (
 au
)<|uV<|uU<|uX<|uZ<|wS<|jA 2 u<|wC<|wW 0 0 u u<|
 au
abbrev zVx:=@Cn.mk 54 0 _ @zXS
attribute [instance] zU8 zVx
theorem zVn{y0:List (List Int)}{y1:Int}: zN qd prog 206 [sv p1 y0 c1,vi y1] [] [Rl (wJ (zR .i64)) p1 c1 y0] (zJO y0 y1) fun r K=>∀ p2 c2,K (.tuple #[sv p2 r.1 c2,vi r.2]) [] [Rl (wJ (zR .i64)) p2 c2 r.1] :=
 zS call206 func206 u fun X=>jA 2 u<|zY<|jA 2 u<|zW u (
 au
)<|jC<|zG<|zB 1 u<|yO (wJ (zR .i64)) 35<|zI<|zY<|jA 1 u<|qP<|
  vN (fun s1 K=>∀ p2 c2 r_1,K [0] [(0,r_1)] [1] [(6,sv p2 s1.1 c2),(7,vi s1.2)] [Al (wJ (zR .i64)) 35 r_1 p2 c2 s1.1]) (gv (fun _ k=>k none 0 []) [0] (gq [0,1]))<|
  fun s1 _ k p2 c2 r_1=>k<|zY<|jA 4 u<|zW u (
 au
)<|uV<|uU<|uX<|uZ<|wS<|jA 3 u<|wC<|wW 0 0 u u<|
 au
abbrev zWQ:=@Cn.mk 206 0 _ @zVn
attribute [instance] zWQ
theorem zJJ{y0:uF}{y1:Int}: zN qd prog 175 [.agg (zKR y0 p1 c1).toArray,vi y1] [] [Rl zEu p1 c1 y0.2] (zE9 y0 y1) fun r K=>∀ p2 c2,K (.tuple #[sv p2 r.1 c2,vi r.2]) [] [Rl (wJ (zR .i64)) p2 c2 r.1] :=
 zS call175 func175 u fun X=>zG<|yB .s u<|fun b1=>zB 2 u<|zI<|zY<|zG<|qV 0 2 u u u<|wG zKf u (cq [0])<|fun r1 _ k=>k<|zB 1 u<|zI<|jA 2 u<|zW u (
 au
)<|
  jC<|zY<|jA 1 u<|qP<|jA 2 u<|zW u (
 au
)<|jA 2 u<|zW u (zG<|qV 0 2 u u u<|jno)<|jA 2 u<|zW u (zG<|
  qV 0 2 u u u<|jno)<|jA 2 u<|zW u (zG<|qV 0 2 u u u<|jno)<|jA 2 u<|zW u (zG<|qV 0 2 u u u<|jno)<|jA 2 u<|zW u (zG<|qV 0 2 u u u<|jno)<|jA 2 u<|zW u (zG<|qV 0 2 u u u<|jno)<|
  jA 2 u<|zW u (zG<|qV 0 2 u u u<|jno)<|jA 2 u<|zW u (zG<|qV 0 2 u u u<|jno)<|
 au
abbrev zO1:=@Cn.mk 175 0 _ @zJJ
attribute [instance] zO1
theorem zIM{y0:zCQ}{y1:Int}: zN qd prog 110 [.agg (zPE y0 p1 c1 p2 c2 p3 c3 p4 c4 p5 c5 p6 c6).toArray,vi y1] [] (zP0 y0 p1 c1 p2 c2 p3 c3 p4 c4 p5 c5 p6 c6 []) (zC7 y0 y1) fun r K=>∀ p7 c7,K (.tuple #[sv p7 r.1 c7,vi r.2]) [] [Rl (wJ qU) p7 c7 r.1] :=
 zS call110 func110 u fun X=>zG<|yB .s u<|fun b1=>zB 2 u<|zI<|zG<|zO 5 u<|qV 0 2 u u u<|zB 1 u<|wG zJJ u (cq [5])<|fun r1 _ k p7 c7=>k<|zB 5 u<|zI<|zY<|jA 2 u<|zW u (
 au
)<|jC<|zG<|zB 1 u<|yO (wJ qU) 24<|zI<|zY<|jA 1 u<|qP<|
  vN (fun s1 K=>∀ p8 c8 r_1,K [2,6] [(1,r_1)] [1,2,3,4,5,6,7] [(8,sv p8 s1.1 c8),(9,vi s1.2)] [Al (wJ qU) 24 r_1 p8 c8 s1.1]) (gv (fun _ k=>k none 0 []) [0,1] (gq [0,1,2,3,4,5,6,7]))<|
  fun s1 _ k p8 c8 r_1=>k<|zY<|jA 4 u<|zW u (hD 8 [] [0] (.l [0,1,2,3,4,5,6] (.f 7 (.f 8 (.f 9 (.l [10] .e)))))<|
 au
)<|uV<|uU<|uX<|uZ<|wS<|jA 3 u<|wC<|wW 1 0 u u<|
 au
abbrev zNh:=@Cn.mk 110 0 _ @zIM
attribute [instance] zNh
theorem zQn{y0:zCQ}{y1:Int}{y2:Bool}: zN qd prog 61 [.agg (zPE y0 p1 c1 p2 c2 p3 c3 p4 c4 p5 c5 p6 c6).toArray,vi y1,vb y2] [] (zP0 y0 p1 c1 p2 c2 p3 c3 p4 c4 p5 c5 p6 c6 []) (zGC y0 y1 y2) fun r K=>∀ p7 c7,K (.tuple #[sv p7 r.1 c7,vi r.2]) [] [Rl qU p7 c7 r.1] :=
 zS call61 func61 u fun X=>zG<|yB .s u<|fun b1=>zB 2 u<|zI<|zG<|qV 0 7 u u u<|zB 1 u<|wG zIM u (cq [0,1,2,3,4,5])<|fun r1 _ k p7 c7=>k<|zB 5 u<|zI<|zY<|jA 2 u<|zW u (
 au
)<|jC<|zG<|zB 2 u<|yO qU 23<|zI<|
  qX (fun s1 K=>∀ p8 c8,K [2,8,11] [(0,[])] [1,0] [(10,sv p8 s1 c8)] [Rl qU p8 c8 s1]) (hI 0 6 2 (fun(s2:(List zE)×Int) K=>∀ p9 c9,K [2,8,11] [(0,.r [])] [1,0] [(10,sv p9 s2.1 c9),(12,vi s2.2)] [Rl qU p9 c9 s2.1])<|hI 0 9 2 (fun(s3:(List zE)×Int) K=>∀ p10 c10,K [2,8,11,12] [] [1,2] [(10,sv p10 s3.1 c10),(13,vi s3.2)] [Rl qU p10 c10 s3.1])<|
 au
)<|fun s1 _ k p8 c8=>k<|zY<|jA 1 u<|qP<|
  vN (fun s4 K=>∀ p14 c14 r_1,K [2,8,10] [(1,r_1)] [1,0] [(11,sv p14 s4.1 c14),(14,vi s4.2)] [Al qU 23 r_1 p14 c14 s4.1]) (gv (fun _ k=>k none 0 []) [900,1] (gq [2,1,0]))<|
  fun s4 _ k p14 c14 r_1=>k<|zY<|jA 4 u<|zW u (jC<|zY<|qP<|jA 1 u<|qX (fun s5 K=>K [2,8,10,11,14] [] [1,2,0] [(15,vb s5)] []) (hD 19 [] [] (.l [0,1] (.s 63 (.l [2,3,4,5,6,7,8,9] (.f 10 (.l [11,12] .e))) (.l [2,3,4,5,6,7,8,9,10,11,12] .e)))<|hI 0 17 2 (fun(s6:Bool×Int) K=>K [2,8,10,11,14] [] [1,2,0] [(15,vb s6.1),(16,vi s6.2)] [])<|hI 3 19 0 (fun(s7:Bool) K=>K [2,8,10,11,14,16] [] [0,1,2] [(15,vb s7)] [])<|
 au
)<|fun s5 _ k=>k<|hP 4 20 0 (fun K=>K [2,8,10,11,14] [] [0,1,2] [(78,vb (s5||(!y2)))] [])<|
 au
)<|uV<|uU<|uX<|uZ<|wS<|jA 3 u<|wC<|
  wW 1 0 u u<|
 au
abbrev zQd:=@Cn.mk 61 0 _ @zQn
set_option maxHeartbeats 2000000 in
theorem zQC{y0:zX}: zN qd prog 104 [.agg (zEf y0 p1 c1 p2 c2 p3 c3).toArray] [] (zFA y0 p1 c1 p2 c2 p3 c3 []) (zIz y0) fun r K=>∀ p4 c4 p5 c5 r_1 p6 c6,K (.agg #[sv p4 r.1 c4,sv p5 r.2.1 c5,sv p6 r.2.2 c6]) [r_1] [Rl zBG p4 c4 r.1,Al uC 124 r_1 p5 c5 r.2.1,Rl tO p6 c6 r.2.2] :=
 zS call104 func104 u fun X=>zG<|yB .s u<|fun b1=>qN .s (.agg k2)<|fun b2=>zI<|
  qX (fun s1 K=>∀ b3 p4 c4 r_1 p5 c5 r_2 p6 c6 r_3,K [1,2] [(2,bx b3 47 [sv p4 s1.1 c4,sv p5 s1.2.1 c5,sv p6 s1.2.2 c6]),(3,r_1),(4,r_2),(5,r_3)] [0,1,2] [(3,pt b3 0)] [Al zBG 119 r_1 p4 c4 s1.1,Al uC 124 r_2 p5 c5 s1.2.1,Al tO 126 r_3 p6 c6 s1.2.2]) (
  uG [] [0] 11<|qK 1 0 u u<|wO 2 0 u u u u<|qK 5 2 u u<|wO 6 0 u u u u<|jd3 0 4 9 (xK (.f u) (e:=zBG) 119 [] ([]:List yD) rN<|fun r_4 p7 c7=>zM<|jd3 3 4 9 (
  vK (.f u) 2 0 u (gk 1) u u<|fun x1 r_5 p8 c8=>zM<|tB 4 9 (xK (.f u) (e:=tO) 126 [] ([]:List yF) rN<|fun r_6 p9 c9=>zM<|tB 7 9 (vK (.f u) 3 0 u (gk 5) u u<|fun x2 r_7 p10 c10=>zM<|
  qS 8 (.agg #[sv p8 x1 c8,.slice none 0 0,sv p10 x2 c10]) u<|yO uC 124<|zT 9<|qN (.f u) (.agg k2)<|fun b4=>zM<|zT 10<|zV (o:=0) (.f u) 5 u u u<|zM<|qI<|
 au
) <|qN (.f u) (.agg k2)<|fun b5=>zM<|zT 7<|vK (.f u) 3 0 u (gk 5) u u<|
  fun x3 r_8 p11 c11=>zM<|qS 8 (.agg #[sv p8 x1 c8,.slice none 0 0,sv p11 x3 c11]) u<|yO uC 124<|zT 10<|zV (o:=0) (.f u) 4 u u u<|zM<|qI<|
 au
) <|qN (.f u) (.agg k2)<|fun b6=>zM<|zT 4<|
  xK (.f u) (e:=tO) 126 [] ([]:List yF) rN<|fun r_9 p12 c12=>zM<|zT 7<|vK (.f u) 4 0 u (gk 5) u u<|fun x4 r_10 p13 c13=>zM<|qS 8 (.agg #[sv p8 x1 c8,.slice none 0 0,sv p13 x4 c13]) u<|yO uC 124<|
  zT 10<|zV (o:=0) (.f u) 3 u u u<|zM<|qI<|
 au
) (xK (.f u) (e:=tO) 126 [] ([]:List yF) rN<|fun r_11 p14 c14=>zM<|
  tB 3 9 (vK (.f u) 2 1 u (gk 2) u u<|fun x5 r_12 p15 c15=>zM<|tB 7 9 (vK (.f u) 3 1 u (gk 5) u u<|fun x6 r_13 p16 c16=>zM<|qS 8 (.agg #[sv p15 x5 c15,.slice none 0 0,sv p16 x6 c16]) u<|yO uC 124<|zT 9<|
  qN (.f u) (.agg k2)<|fun b7=>zM<|zT 10<|zV (o:=0) (.f u) 5 u u u<|zM<|qI<|
 au
) <|
  qN (.f u) (.agg k2)<|fun b8=>zM<|zT 7<|vK (.f u) 3 1 u (gk 5) u u<|fun x7 r_14 p17 c17=>zM<|qS 8 (.agg #[sv p15 x5 c15,.slice none 0 0,sv p17 x7 c17]) u<|yO uC 124<|
  zT 10<|zV (o:=0) (.f u) 4 u u u<|zM<|qI<|
 au
) <|qN (.f u) (.agg k2)<|fun b9=>zM<|
  zT 3<|vK (.f u) 2 1 u (gk 2) u u<|fun x8 r_15 p18 c18=>zM<|zT 7<|vK (.f u) 3 1 u (gk 5) u u<|fun x9 r_16 p19 c19=>zM<|qS 8 (.agg #[sv p18 x8 c18,.slice none 0 0,sv p19 x9 c19]) u<|yO uC 124<|zT 10<|
  zV (o:=0) (.f u) 4 u u u<|zM<|qI<|
 au
) <|qN (.f u) (.agg k2)<|fun b10=>zM<|tB 3 4
  (vK (.f u) 2 0 u (gk 1) u u<|fun x10 r_17 p20 c20=>zM<|zT 4<|xK (.f u) (e:=tO) 126 [] ([]:List yF) rN<|fun r_18 p21 c21=>zM<|zT 7<|vK (.f u) 4 0 u (gk 5) u u<|fun x11 r_19 p22 c22=>zM<|
  qS 8 (.agg #[sv p20 x10 c20,.slice none 0 0,sv p22 x11 c22]) u<|yO uC 124<|zT 10<|zV (o:=0) (.f u) 3 u u u<|zM<|qI<|
 au
) <|
  xK (.f u) (e:=tO) 126 [] ([]:List yF) rN<|fun r_20 p23 c23=>zM<|zT 3<|vK (.f u) 2 1 u (gk 2) u u<|fun x12 r_21 p24 c24=>zM<|zT 7<|vK (.f u) 4 1 u (gk 5) u u<|fun x13 r_22 p25 c25=>zM<|
  qS 8 (.agg #[sv p24 x12 c24,.slice none 0 0,sv p25 x13 c25]) u<|yO uC 124<|zT 10<|zV (o:=0) (.f u) 3 u u u<|zM<|qI<|
 au
) (
  xK (.f u) (e:=tO) 126 [] ([]:List yF) rN<|fun r_23 p26 c26=>zM<|tB 0 9 (xK (.f u) (e:=zBG) 119 [] ([]:List yD) rN<|fun r_24 p27 c27=>zM<|tB 3 9 (vK (.f u) 3 0 u (gk 2) u u<|
  fun x14 r_25 p28 c28=>zM<|tB 7 9 (vK (.f u) 2 2 u (gk 5) u u<|fun x15 r_26 p29 c29=>zM<|qS 8 (.agg #[sv p28 x14 c28,.slice none 0 0,sv p29 x15 c29]) u<|yO uC 124<|zT 9<|
  qN (.f u) (.agg k2)<|fun b11=>zM<|zT 10<|zV (o:=0) (.f u) 5 u u u<|zM<|qI<|
 au
)
  <|qN (.f u) (.agg k2)<|fun b12=>zM<|zT 7<|vK (.f u) 2 2 u (gk 5) u u<|fun x16 r_27 p30 c30=>zM<|qS 8 (.agg #[sv p28 x14 c28,.slice none 0 0,sv p30 x16 c30]) u<|
  yO uC 124<|zT 10<|zV (o:=0) (.f u) 4 u u u<|zM<|qI<|
 au
) <|
  qN (.f u) (.agg k2)<|fun b13=>zM<|zT 3<|vK (.f u) 3 0 u (gk 2) u u<|fun x17 r_28 p31 c31=>zM<|zT 7<|vK (.f u) 2 2 u (gk 5) u u<|fun x18 r_29 p32 c32=>zM<|
  qS 8 (.agg #[sv p31 x17 c31,.slice none 0 0,sv p32 x18 c32]) u<|yO uC 124<|zT 10<|zV (o:=0) (.f u) 4 u u u<|zM<|qI<|
 au
) <|
  qN (.f u) (.agg k2)<|fun b14=>zM<|zT 0<|xK (.f u) (e:=zBG) 119 [] ([]:List yD) rN<|fun r_30 p33 c33=>zM<|zT 3<|vK (.f u) 4 0 u (gk 2) u u<|
  fun x19 r_31 p34 c34=>zM<|zT 7<|vK (.f u) 2 2 u (gk 5) u u<|fun x20 r_32 p35 c35=>zM<|qS 8 (.agg #[sv p34 x19 c34,.slice none 0 0,sv p35 x20 c35]) u<|yO uC 124<|zT 10<|zV (o:=0) (.f u) 3 u u u<|zM<|qI<|
 au
) <|qN (.f u) (.agg k2)<|fun b15=>zM<|tB 0 4 (
  xK (.f u) (e:=zBG) 119 [] ([]:List yD) rN<|fun r_33 p36 c36=>zM<|tB 3 4 (vK (.f u) 3 0 u (gk 1) u u<|fun x21 r_34 p37 c37=>zM<|zT 4<|xK (.f u) (e:=tO) 126 [] ([]:List yF) rN<|
  fun r_35 p38 c38=>zM<|zT 7<|vK (.f u) 4 0 u (gk 5) u u<|fun x22 r_36 p39 c39=>zM<|qS 8 (.agg #[sv p37 x21 c37,.slice none 0 0,sv p39 x22 c39]) u<|yO uC 124<|zT 10<|zV (o:=0) (.f u) 2 u u u<|zM<|qI<|
 au
) <|xK (.f u) (e:=tO) 126 [] ([]:List yF) rN<|fun r_37 p40 c40=>zM<|zT 3<|vK (.f u) 3 1 u (gk 2) u u<|
  fun x23 r_38 p41 c41=>zM<|zT 7<|vK (.f u) 4 1 u (gk 5) u u<|fun x24 r_39 p42 c42=>zM<|qS 8 (.agg #[sv p41 x23 c41,.slice none 0 0,sv p42 x24 c42]) u<|yO uC 124<|zT 10<|zV (o:=0) (.f u) 2 u u u<|zM<|qI<|
 au
) <|xK (.f u) (e:=tO) 126 [] ([]:List yF) rN<|fun r_40 p43 c43=>zM<|zT 0<|
  xK (.f u) (e:=zBG) 119 [] ([]:List yD) rN<|fun r_41 p44 c44=>zM<|zT 3<|vK (.f u) 4 0 u (gk 2) u u<|fun x25 r_42 p45 c45=>zM<|zT 7<|vK (.f u) 3 2 u (gk 5) u u<|fun x26 r_43 p46 c46=>zM<|
  qS 8 (.agg #[sv p45 x25 c45,.slice none 0 0,sv p46 x26 c46]) u<|yO uC 124<|zT 10<|zV (o:=0) (.f u) 2 u u u<|zM<|qI<|
 au
)<|
  fun s1 _ k b3 p4 c4 r_1 p5 c5 r_2 p6 c6 r_3=>k<|
  qX (fun s2 K=>∀ p47 c47 r_44,K [2,3] [(0,[]),(2,bx b3 47 [sv p4 s1.1 c4,sv p47 s2 c47,sv p6 s1.2.2 c6]),(4,r_44)] [0,2] [] [Al uC 124 r_44 p47 c47 s2]) (
  jA 1 u<|qP<|
  vN (fun s3 K=>∀ p48 c48 r_45,K [1,2,3] [(2,bx b3 47 [sv p4 s1.1 c4,sv p48 s3.2 c48,sv p6 s1.2.2 c6]),(4,r_45)] [3,4,5,0,2] [(4,vi s3.1)] [Al uC 124 r_45 p48 c48 s3.2]) (gv (fun _ k=>k p5 c5 r_2) [0,1,2,3,4,5] (gq [1,3,4,5,0,2]))<|
  fun s3 _ k p48 c48 r_45=>k<|zY<|zG<|zB 1 u<|zO 1 u<|qJ 0 u u u<|zB 2 u<|zI<|zW u (jC<|zY<|qP<|zG<|zO 1 u<|qJ 0 u u u<|zB 1 u<|tA 2 u u u<|fun x27 b16 o1=>tG true zVm (gk 0) u<|fun p49 c49=>
  qN .s (.agg k4)<|fun b17=>zV .s 6 u u u<|zI<|zG<|xK .s (e:=qU) 23 [] ([]:List zE) rN<|fun r_46 p50 c50=>zO 3 u<|qJ 6 u u u<|
  vK .s 7 0 u (gk 1) u u<|fun x28 r_47 p51 c51=>zO 3 u<|zV .s 6 u u u<|zI<|vD<|zO 1 u<|qJ 2 u u u<|qV 6 6 u u u<|wW 7 0 u u<|
 au
)<|
 au
)<|fun s2 _ k p47 c47 r_44=>k<|zG<|qV 2 3 u u u<|zV .s 1 u u u<|zI<|wC<|wW 3 1 u u<|wW 5 3 u u<|
 au
abbrev zWy:=@Cn.mk 104 0 _ @zQC
attribute [instance] zQd zWy
theorem zRg{y0:zX}{y1:List zE}: zN qd prog 56 [.agg (zEf y0 p1 c1 p2 c2 p3 c3).toArray,sv p4 y1 c4] [] (zFA y0 p1 c1 p2 c2 p3 c3 [Rl qU p4 c4 y1]) (zGe y0 y1) fun r K=>∀ p5 c5 p6 c6 p7 c7,K (.agg (zEf r p5 c5 p6 c6 p7 c7).toArray) [] (zFA r p5 c5 p6 c6 p7 c7 []) :=
 zS call56 func56 u fun X=>zG<|yB .s u<|fun b1=>qN .s (.agg k2)<|fun b2=>zI<|zG<|qV 0 3 u u u<|wG zQC u (cq [0,1,2])<|fun r1 _ k p5 c5 p6 c6 r_1 p7 c7=>k<|
  qN .s (.agg k2)<|fun b3=>zV .s 3 u u u<|zI<|
  qX (fun s1 K=>∀ p8 c8 r_2,K [4,5] [(0,[]),(2,r_2),(3,bx b3 47 [sv p5 r1.1 c5,sv p8 s1 c8,sv p7 r1.2.2 c7])] [0,2] [] [Al uC 124 r_2 p8 c8 s1]) (
  jA 1 u<|qP<|
  vN (fun s2 K=>∀ p9 c9 r_3,K [1,2,4,5] [(2,r_3),(3,bx b3 47 [sv p5 r1.1 c5,sv p9 s2.2 c9,sv p7 r1.2.2 c7])] [6,3,4,5,0,2] [(6,vi s2.1)] [Al uC 124 r_3 p9 c9 s2.2]) (gv (fun _ k=>k p6 c6 r_1) [0,1,2,3] (gq [1,6,3,4,5,0,2]))<|
  fun s2 _ k p9 c9 r_3=>k<|zY<|zG<|zB 1 u<|zO 1 u<|qJ 3 u u u<|zB 2 u<|zI<|zW u (jC<|zY<|qP<|jA 1 u<|qP<|
  vN (fun s3 K=>∀ p10 c10 r_4,K [1,2,4,5,6] [(2,r_4),(3,bx b3 47 [sv p5 r1.1 c5,sv p10 s3.2 c10,sv p7 r1.2.2 c7])] [1,2,3,4,5,6] [(7,vi s3.1)] [Al uC 124 r_4 p10 c10 s3.2]) (gv (fun _ k=>k p9 c9 r_3) [0,1,2,3] (gq [0,1,2,3,4,5,6]))<|
  fun s3 _ k p10 c10 r_4=>k<|zY<|zG<|zB 1 u<|zO 2 u<|qJ 0 u u u<|zB 2 u<|zI<|zW u (jC<|zY<|qP<|zG<|zO 2 u<|qJ 0 u u u<|zB 1 u<|tA 4 u u u<|fun x1 b4 o1=>tG true zSi (gk 0) u<|
  qN .s (.agg #[vs [],vi 0,vb false,vs []])<|fun b5=>zV .s 4 u u u<|zI<|qX (fun s4 K=>K [1,2,4,5,6,7,8] [] [2,3,4,5,6,1,7] [(53,vb s4)] []) (
  uG [] [2,3,4] 24<|qK 0 0 u u<|wO 1 4 u u u u<|qK 2 1 u u<|wO 3 3 u u u u<|zQ 19 [4] u<|jdI 5 1 u u u u<|fun x2 h1 b6 o2 hp1=>qK 6 0 u u<|
  jdL 7 2 1 sI.fst false oS u u hp1 h1 u<|zQ 14 [8,9] u<|wM 39 u (qK 10 1 u u<|wO 11 3 u u u u<|zQ 11 [12] u<|jdI 13 1 u u u u<|fun x3 h2 b7 o3 hp2=>qK 14 1 u u<|
  jdL 15 2 1 sI.snd.fst false oB u u hp2 h2 u<|zQ 7 [16] u<|qS 17 (vb (!x3.2.1)) u<|zQ 5 [18] u<|wM 48 u (zQ 4 [19] u<|qK 20 2 u u<|yZ 21 4 2 u u u u<|zT 22<|
  qA (.f u) [] [] zSR u u u (cq [2])<|fun r2 _ k=>k<|zM<|qS 23 (vb r2) u<|qI<|
 au
)<|zQ 1 [19,20,21,22] u<|qS 23 (vb false) u<|qI<|
 au
)<|zQ 7 [10,11,12,13,14,15,16] u<|qS 17 (vb false) u<|zQ 1 [18,19,20,21,22] u<|qS 23 (vb false) u<|qI<|
 au
)<|fun s4 _ k=>
  k<|zW u (vD<|zO 1 u<|qJ 3 u u u<|zB 1 u<|zO 1 u<|qJ 4 u u u<|xC 5 u u u<|fun x4 h3 b8 o4 hp3=>zO 2 u<|jsA .s 2 5 sI.snd.snd.fst x1.2.1 false u hp3 h3 u u vI<|fun r_5=>wH<|yT<|wS<|jB 3 u<|
  jbL (fun q_=>[bx b1 47 (zEf y0 p1 c1 p2 c2 p3 c3),bx b2 47 [.slice none 0 0,.slice none 0 0,.slice none 0 0],r_5,bx b3 47 [sv p5 r1.1 c5,.slice p10 q_ c10,sv p7 r1.2.2 c7],bx b5 126 (zRy x1)]) (gk 0) u<|
 au
)<|
 au
)<|
 au
)<|
 au
)<|fun s1 _ k p8 c8 r_2=>k<|zG<|qV 3 3 u u u<|zV .s 1 u u u<|zI<|wC<|
  wW 2 0 u u<|
 au
abbrev zSe:=@Cn.mk 56 0 _ @zRg
theorem zVt{y0:zX}{y1:zA}: zN qd prog 159 [.agg (zEf y0 p1 c1 p2 c2 p3 c3).toArray,vs y1] [] (zFA y0 p1 c1 p2 c2 p3 c3 []) (zJH y0 y1) fun r K=>K (vi r) [] [] :=
 zS call159 func159 u fun X=>hI 0 2 2 (fun(s1:Int) K=>K [1,2] [] [0,1,2] [(5,vi s1)] [])<|
 au
abbrev zWD:=@Cn.mk 159 0 _ @zVt
theorem zRr{y0:zX}{y1:zE}: zN qd prog 157 [.agg (zEf y0 p1 c1 p2 c2 p3 c3).toArray,.agg #[vb y1.1,vs y1.2]] [] (zFA y0 p1 c1 p2 c2 p3 c3 []) (zI3 y0 y1) fun r K=>K (vi r) [] [] :=
 zS call157 func157 u fun X=>zG<|yB .s u<|fun b1=>yB .s u<|fun b2=>zB 1 u<|zI<|zY<|jA 1 u<|qP<|vN (fun s1 K=>K [2,3] [] [0,1,2] [(5,vi s1)] []) (gv kk [0,1] (gq [0,1,2]))<|fun s1 _ k=>k<|zY<|
  zG<|zB 1 u<|zO 0 u<|qJ 0 u u u<|zB 2 u<|zI<|zW u (jC<|zY<|qP<|jds [] [0,1] 8<|qK 0 0 u u<|wO 1 0 u u u u<|zQ 5 [2] u<|jdi 3 0 u u u u<|fun x1 b3 o1=>qK 4 0 u u<|
  jdl 5 true zBA u (gf (gk 0)) u<|yZ 6 1 2 u u u u<|qS 7 (vb (x1.1==y1)) u<|qI<|wS<|zW u (jA 2 u<|wC<|jbr<|xY<|jlr<|jbr<|xY<|xJ u u kk [] d)<|uW<|yT<|wS<|jB 3 u<|
  jln (gv kk [0,1] (gq [1,2,3])))<|uV<|uU<|uX<|uZ<|wS<|jA 1 u<|wC<|xJ u u kk [] d
abbrev zSp:=@Cn.mk 157 0 _ @zRr
theorem zWm{y0:Int}: zN qd prog 160 [vi y0] [] [] (zFF y0) fun r K=>K (vb r) [] [] :=
 zS call160 func160 u fun X=>hP 4 1 0 (fun K=>K [] [] [] [(2,vb ((decide (0≤y0))&&(decide (y0≤9))))] [])<|
 au
abbrev zWl:=@Cn.mk 160 0 _ @zWm
attribute [instance] zSe zWD zSp zWl
theorem zSV{y0:yD}: zN qd prog 156 [.agg (zRk y0).toArray] [] [] (zG9 y0) fun r K=>K (vi r) [] [] :=
 zS call156 func156 u fun X=>hP 4 1 0 (fun K=>K [1] [] [] [(10,vb ((decide (y0.2.1<1))||(decide (3<y0.2.1))))] [])<|hI 1 3 0 (fun(s1:Bool) K=>K [] [(0,.r [])] [] [(41,vb s1)] [])<|
 au
abbrev zSu:=@Cn.mk 156 0 _ @zSV
theorem zVy{y0:qW}: zN qd prog 158 [.agg (z35 y0 p1 c1).toArray] [] (z1g y0 p1 c1 []) (zIq y0) fun r K=>K (vi r) [] [] :=
 zS call158 func158 u fun X=>hD 13 [] [0] (.l [0,1,2,3,4,5,6,7,8,9,10] (.f 11 (.l [12] .e)))<|hI 1 3 0 (fun(s1:Bool) K=>K [1] [] [0] [(3,vb s1)] [])<|hI 1 4 1 (fun(s2:Bool) K=>K [1] [] [0] [(3,vb s2)] [])<|hI 0 5 2 (fun(s3:Bool×Int) K=>K [1] [] [0] [(3,vb s3.1),(4,vi s3.2)] [])<|hI 3 7 0 (fun(s4:Bool) K=>K [1,4] [] [0] [(3,vb s4)] [])<|hI 0 11 2 (fun(s5:Int) K=>K [1] [] [0] [(5,vi s5)] [])<|
 au
abbrev zWd:=@Cn.mk 158 0 _ @zVy
attribute [instance] zSu zWd
theorem zKp{y0:zX}: zN qd prog 96 [.agg (zEf y0 p1 c1 p2 c2 p3 c3).toArray] [] (zFA y0 p1 c1 p2 c2 p3 c3 []) (zCk y0) fun r K=>K (vi r) [] [] :=
 zS call96 func96 u fun X=>hD 9 [] [0] (.l [0,1,2,3,4,5,6,8] (.f 7 (.l [9] .e)))<|hD 17 [] [0] (.l [0,1,2,3,4,5,6,8] (.f 7 (.l [9] .e)))<|hP 4 1 0 (fun K=>K [1] [] [0,1,2] [(25,vb ((decide (16<(len y0.1)))||((decide (24<(len y0.2.1)))||(decide (8<(len y0.2.2))))))] [])<|hI 2 3 1 (fun(s1:Unit) K=>K [1] [] [0,1,2] [] [])<|hI 0 4 2 (fun(s2:Int) K=>K [1] [] [0,1,2] [(3,vi s2)] [])<|hI 2 11 1 (fun(s3:Unit) K=>K [1] [] [0,1,2] [] [])<|hI 0 12 2 (fun(s4:Int) K=>K [1] [] [0,1,2] [(5,vi s4)] [])<|hI 0 20 2 (fun(s5:Int) K=>K [1] [] [0,1,2] [(7,vi s5)] [])<|hI 1 23 0 (fun(s6:Bool) K=>K [1,7,8] [] [1,2,3] [(99,vb s6)] [])<|
 au
abbrev zRE:=@Cn.mk 96 0 _ @zKp
theorem zTF{y0:List Int}{y1:Int}: zN qd prog 198 [sv p1 y0 c1,vi y1] [] [Rl (zR .i64) p1 c1 y0] (zET y0 y1) fun r K=>∀ p2 c2,K (sv p2 r c2) [] [Rl (zR .i64) p2 c2 r] :=
 zS call198 func198 u fun X=>jA 1 u<|jA 1 u<|qX (fun s1 K=>K [0,1] [] [0] [(5,vi s1)] []) (hI 0 2 2 (fun(s2:Int) K=>K [0,1] [] [0] [(5,vi s2)] [])<|hI 1 2 0 (fun(s3:Bool) K=>K [0,1,5] [] [0] [(18,vb s3)] [])<|
 au
)<|fun s1 _ k=>k<|zY<|qX (fun s4 K=>K [0,1,5] [] [0] [(32,vb s4)] []) (
 au
)<|fun s4 _ k=>k<|zW u (
 au
)<|jC<|zG<|xK .s (e:=zR .i64) 3 [] ([]:List Int) rN<|fun r_1 p2 c2=>zB 2 u<|jsl (gk 1) u u u (.inl ⟨rfl,rfl⟩) (.inr ⟨_,rfl⟩)<|fun x3 p3 c3=>vK .s 0 1 u (gk 0) u u<|
  fun x4 r_2 p4 c4=>zB 1 u<|zI<|jds [] [] 9<|zQ 5 [0,1,4,5] u<|jdw 6 u (gk 3) u u u (.inr ⟨_,rfl⟩) (.inl ⟨rfl,rfl⟩)<|fun x5 p5 c5=>zT 2<|uR (.f u) (e:=zR .i64) 3 [vi y1] ([y1]:List Int) (rC vI rN)<|
  fun p6 c6=>zM<|zT 3<|vK (.f u) 0 2 u (gk 0) u u<|fun x6 r_3 p7 c7=>zM<|zT 7<|vK (.f u) 0 0 u (gk 2) u u<|fun x7 r_4 p8 c8=>zM<|zQ 0 [8] u<|qI<|wS<|wC<|wW 0 0 u u<|
 au
abbrev zTH:=@Cn.mk 198 0 _ @zTF
attribute [instance] zRE zTH
theorem zVL{y0:List Int}{y1:List Int}: zN qd prog 199 [sv p1 y0 c1,sv p2 y1 c2] [] [Rl (zR .i64) p1 c1 y0,Rl (zR .i64) p2 c2 y1] (zHr y0 y1) fun r K=>∀ p3 c3,K (sv p3 r c3) [] [Rl (zR .i64) p3 c3 r] :=
 zS call199 func199 u fun X=>hI 0 2 2 (fun(s1:(List Int)×Int) K=>∀ p3 c3,K [1] [] [1] [(0,sv p3 s1.1 c3),(5,vi s1.2)] [Rl (zR .i64) p3 c3 s1.1])<|
 au
abbrev zUw:=@Cn.mk 199 0 _ @zVL
attribute [instance] zUw
theorem zQm (k:Nat):
    (∀ {y0:List zU} {p1:Option Addr} {c1:Nat} {y1:Int},zN qd prog 164 [sv p1 y0 c1,vi y1] [] [Rl xF p1 c1 y0] (zEq k y0 y1) fun r K=>∀ p2 c2,K (sv p2 r c2) [] [Rl (zR .i64) p2 c2 r]):=by
  induction k with
  | zero=>exact uP call164
  | succ k ih =>
    have ih_ref07_Subs:=@ih
    have zPs:=@Cn.mk 164 0 _ (@ih_ref07_Subs)
    exact @fun y0 p1 c1 y1=>zS (m1:=zJN (zEq k) y0 y1) call164 func164 u fun X=>hP 4 1 0 (fun K=>K [0,1] [] [0] [(14,vb ((decide (y1<0))||(decide ((len y0)≤y1))))] [])<|hI 0 5 2 (fun(s1:(List Int)×Int) K=>∀ p3 c3,K [0,1] [] [1] [(5,sv p3 s1.1 c3),(6,vi s1.2)] [Rl (zR .i64) p3 c3 s1.1])<|
 au
theorem zWV{y0:List zU}{y1:Int}: zN qd prog 164 [sv p1 y0 c1,vi y1] [] [Rl xF p1 c1 y0] (zHW y0 y1) fun r K=>∀ p2 c2,K (sv p2 r c2) [] [Rl (zR .i64) p2 c2 r]:=uO fun k=>(zQm k)
abbrev zPs:=@Cn.mk 164 0 _ @zWV
attribute [instance] zPs
theorem zJA{y0:zX}{y1:List zU}{y2:Int}: zN qd prog 163 [.agg (zEf y0 p1 c1 p2 c2 p3 c3).toArray,sv p4 y1 c4,vi y2] [] (zFA y0 p1 c1 p2 c2 p3 c3 [Rl xF p4 c4 y1]) (zCR y0 y1 y2) fun r K=>∀ p5 c5,K (sv p5 r c5) [] [Rl (zR .i64) p5 c5 r] :=
 zS call163 func163 u fun X=>hD 5 [] [0] (.l [0,1,2,3,4,5,6] (.s 24 (.l [7,8,9,10,11,12,13,14,15,16,17,18] .e) (.l [7,8,9,10,11,12,13,14,15,16,17,18] .e)))<|hI 0 3 1 (fun(s1:(List Int)×Int) K=>∀ p6 c6,K [1,3,12,13] [] [4,0,1,2,3] [(7,sv p6 s1.1 c6),(14,vi s1.2)] [Rl (zR .i64) p6 c6 s1.1])<|hI 1 5 0 (fun(s2:Bool) K=>K [1,3,7,9,12,13,14] [] [2,1,3,4,5,6] [(36,vb s2)] [])<|
 au
abbrev zOA:=@Cn.mk 163 0 _ @zJA
attribute [instance] zOA
theorem zSC (k:Nat):
    (∀ {y0:zX} {p1:Option Addr} {c1:Nat} {p2:Option Addr} {c2:Nat} {p3:Option Addr} {c3:Nat} {y1:List zU} {p4:Option Addr} {c4:Nat} {y2:Int},zN qd prog 161 [.agg (zEf y0 p1 c1 p2 c2 p3 c3).toArray,sv p4 y1 c4,vi y2] [] (zFA y0 p1 c1 p2 c2 p3 c3 [Rl xF p4 c4 y1]) (zBY k y0 y1 y2) fun r K=>∀ p5 c5,K (sv p5 r c5) [] [Rl qU p5 c5 r]):=by
  induction k with
  | zero=>exact uP call161
  | succ k ih =>
    have ih_ref07_Run:=@ih
    have zS0:=@Cn.mk 161 0 _ (@ih_ref07_Run)
    exact @fun y0 p1 c1 p2 c2 p3 c3 y1 p4 c4 y2=>zS (m1:=zGM (zBY k) y0 y1 y2) call161 func161 u fun X=>zG<|yB .s u<|fun b1=>zB 1 u<|zI<|zG<|zB 2 u<|tA 3 u u u<|fun x1 b2 o1=>zO 3 u<|tG true zBA (gs (gs (gs (gk 0)))) u<|
  xK .s (e:=qU) 23 [vb x1.2.2.2.1,vs (a4 x1)] ([x1.2.2.2]:List zE) (rC (vP vB vS) rN)<|fun r_1 p5 c5=>zB 1 u<|zI<|zY<|
  qX (fun s1 K=>K [1,2,3,7] [] [5,0,2,3,4] [(32,vb s1)] []) (hD 2 [] [0] (.l [0,1,2,3,4,5,6] (.s 21 (.l [7,8,9,10,11,12,13,14,15,16,17] .e) (.l [7,8,9,10,11,12,13,14,15,16,17] .e)))<|
 au
)<|fun s1 _ k=>k<|zW u (jA 1 u<|qP<|
  vN (fun s2 K=>∀ p6 c6 r_2,K [1,2,3] [(1,r_2)] [0,2,3,4] [(7,sv p6 s2.1 c6),(8,vi s2.2)] [Al qU 23 r_2 p6 c6 s2.1]) (gv (fun _ k=>k p5 c5 r_1) [0,1] (gq [1,0,2,3,4]))<|
  fun s2 _ k p6 c6 r_2=>k<|zY<|zG<|zB 3 u<|tA 1 u u u<|fun x5 b6 o5=>zO 2 u<|tG false oL (gf (gs (gs (gk 0)))) u<|fun p7 c7=>zB 2 u<|zI<|zW u (hD 6 [] [0] (.l [0,1,2,3,4,5,6,7,8,9,10] (.f 11 (.f 12 (.l [13] .e))))<|
 au
)<|uV<|uU<|uX<|uZ<|wS<|jA 2 u<|wC<|wW 1 2 u u<|
 au
)<|jC<|jA 2 u<|wC<|wW 1 1 u u<|
 au
theorem zXc{y0:zX}{y1:List zU}{y2:Int}: zN qd prog 161 [.agg (zEf y0 p1 c1 p2 c2 p3 c3).toArray,sv p4 y1 c4,vi y2] [] (zFA y0 p1 c1 p2 c2 p3 c3 [Rl xF p4 c4 y1]) (zKS y0 y1 y2) fun r K=>∀ p5 c5,K (sv p5 r c5) [] [Rl qU p5 c5 r]:=uO fun k=>(zSC k)
abbrev zS0:=@Cn.mk 161 0 _ @zXc
theorem z0Y{y0:List Int}{y1:Int}: zN qd prog 162 [sv p1 y0 c1,vi y1] [] [Rl (zR .i64) p1 c1 y0] (zMK y0 y1) fun r K=>K (vb r) [] [] :=
 zS call162 func162 u fun X=>hI 0 2 2 (fun(s1:Int) K=>K [0,1] [] [0] [(5,vi s1)] [])<|
 au
abbrev zZt:=@Cn.mk 162 0 _ @z0Y
attribute [instance] zS0 zZt
theorem zTP{y0:zX}{y1:List zU}{y2:Int}{y3:List Int}: zN qd prog 99 [.agg (zEf y0 p1 c1 p2 c2 p3 c3).toArray,sv p4 y1 c4,vi y2,sv p5 y3 c5] [] (zFA y0 p1 c1 p2 c2 p3 c3 [Rl xF p4 c4 y1,Rl (zR .i64) p5 c5 y3]) (zEM y0 y1 y2 y3) fun r K=>K (vb r) [] [] :=
 zS call99 func99 u fun X=>hD 5 [] [0,1] (.l [0,1,2] (.s 24 (.l [3,4,5,6,7,8,10,11] (.f 9 (.f 12 (.l [13,14] (.s 36 (.l [15,16,17,18,19,20,21,22,23,24,25,26,27,28,29] .e) (.l [15,16,17,18] (.s 40 (.l [19,20,21,22,23,24,26] (.f 25 (.f 27 (.l [28,29] .e)))) (.l [19,20,21,22,23,24,25,26,27,28,29] .e)))))))) (.l [3,4,5,6,7,8,9,10,11,12,13,14,15,16,17,18] (.s 40 (.l [19,20,21,22,23,24,26] (.f 25 (.f 27 (.l [28,29] .e)))) (.l [19,20,21,22,23,24,25,26,27,28,29] .e)))))<|hI 0 3 2 (fun(s1:Int) K=>K [1,2,3,4,9] [] [5,6,2,3,4,0] [(10,vi s1)] [])<|hI 1 5 0 (fun(s2:Bool) K=>K [1,2,3,4,9,10] [] [0,1,2,3,4,5] [(51,vb s2)] [])<|
 au
abbrev zTE:=@Cn.mk 99 0 _ @zTP
attribute [instance] zTE
theorem zLU (k:Nat):
    (∀ {y0:List zU} {p1:Option Addr} {c1:Nat} {r_1:zH} {y1:Int} {y2:List zE} {p2:Option Addr} {c2:Nat} {y3:List Int} {p3:Option Addr} {c3:Nat},zN qd prog 97 [sv p1 y0 c1,vi y1,sv p2 y2 c2,sv p3 y3 c3] [r_1] [Al xF 178 r_1 p1 c1 y0,Rl qU p2 c2 y2,Rl (zR .i64) p3 c3 y3] (zCC k y0 y1 y2 y3) fun r K=>∀ p4 c4,K (sv p4 r c4) [r_1] [Rl (wJ (zR .i64)) p4 c4 r]):=by
  induction k with
  | zero=>exact uP call97
  | succ k ih =>
    have ih_ref07_choices_2:=@ih
    have zJt:=@Cn.mk 97 0 _ (@ih_ref07_choices_2)
    exact @fun y0 p1 c1 r_1 y1 y2 p2 c2 y3 p3 c3=>zS (m1:=zFN (zCC k) y0 y1 y2 y3) call97 func97 u fun X=>jA 1 u<|zY<|jA 5 u<|zW u (zG<|xK .s (e:=zR .i64) 3 [] ([]:List Int) rN<|fun r_2 p4 c4=>zB 1 u<|vK .s 1 0 u (gk 3) u u<|fun x1 r_3 p5 c5=>wW 1 0 u u<|
 au
)<|jC<|zG<|zB 1 u<|yO (wJ (zR .i64)) 35<|zI<|zY<|
  jA 1 u<|qP<|
  vN (fun s1 K=>∀ p7 c7 r_4,K [0,1,2,3] [(1,r_4)] [1,2,3] [(9,sv p7 s1.1 c7),(10,vi s1.2)] [Al (wJ (zR .i64)) 35 r_4 p7 c7 s1.1]) (gv (fun _ k=>k none 0 []) [0,1] (gq [0,1,2,3]))<|
  fun s1 _ k p7 c7 r_4=>k<|zY<|jA 3 u<|zW u (jC<|zY<|qP<|jds [] [0] 11<|zQ 9 [0,1] u<|jdI 2 1 u u u u<|fun x2 h2 b1 o1 hp1=>qK 3 3 u u<|jdL 4 0 1 sI.snd.snd.snd true zBA u u hp1 h2 u<|
  zQ 3 [5,6,7] u<|jdi 8 2 u u u u<|fun x3 b2 o2=>jdl 9 true zBA u (gk 0) u<|qS 10 (vb (x2.2.2.2==x3)) u<|qI<|wS<|zW u (vD<|zB 9 u<|jsF (gk 4) u u u u (.inl ⟨rfl,rfl⟩)<|fun x4 p8=>zB 1 u<|
  uR .s (e:=zR .i64) 3 [vi s1.2] ([s1.2]:List Int) (rC vI rN)<|fun p9 c8=>jaf .s 3 (gk 1) (gk 0) u u<|
 au
)<|
 au
)<|uV<|uU<|uX<|uZ<|wS<|jA 2 u<|wC<|
  wW 1 0 u u<|
 au
theorem zPe{y0:List zU}{y1:Int}{y2:List zE}{y3:List Int}: zN qd prog 97 [sv p1 y0 c1,vi y1,sv p2 y2 c2,sv p3 y3 c3] [r_1] [Al xF 178 r_1 p1 c1 y0,Rl qU p2 c2 y2,Rl (zR .i64) p3 c3 y3] (zHG y0 y1 y2 y3) fun r K=>∀ p4 c4,K (sv p4 r c4) [r_1] [Rl (wJ (zR .i64)) p4 c4 r]:=uO fun k=>(zLU k)
abbrev zJt:=@Cn.mk 97 0 _ @zPe
theorem zTZ{y0:List Int}{y1:Int}: zN qd prog 98 [sv p1 y0 c1,vi y1] [] [Rl (zR .i64) p1 c1 y0] (zJc y0 y1) fun r K=>K (vb r) [] [] :=
 zS call98 func98 u fun X=>hI 0 2 2 (fun(s1:Int) K=>K [0,1] [] [0] [(5,vi s1)] [])<|
 au
abbrev zTS:=@Cn.mk 98 0 _ @zTZ
attribute [instance] zJt zTS
theorem zVB{y0:zX}: zN qd prog 50 [.agg (zEf y0 p1 c1 p2 c2 p3 c3).toArray] [] (zFA y0 p1 c1 p2 c2 p3 c3 []) (zFV y0) fun r K=>∀ p4 c4,K (.tuple #[sv p4 r.1 c4,vi r.2]) [] [Rl xF p4 c4 r.1] :=
 zS call50 func50 u fun X=>zG<|yB .s u<|fun b1=>zB 2 u<|zI<|zY<|zG<|qV 0 3 u u u<|wG zKp u (cq [0,1,2])<|fun r1 _ k=>k<|zB 1 u<|zI<|jA 2 u<|zW u (
 au
)<|jC<|zG<|zB 1 u<|yO xF 178<|zI<|
  qX (fun s1 K=>∀ p4 c4 r_1,K [1] [(1,r_1)] [1,2,3] [(5,sv p4 s1 c4)] [Al xF 178 r_1 p4 c4 s1]) (hI 0 6 2 (fun(s2:(List zU)×Int) K=>∀ p5 c5 r_2,K [1] [(1,.r r_2)] [1,2,3] [(5,sv p5 s2.1 c5),(6,vi s2.2)] [Al xF 178 r_2 p5 c5 s2.1])<|
 au
)<|fun s1 _ k p4 c4 r_1=>k<|jA 1 u<|zY<|jA 1 u<|qP<|
  vN (fun s3 K=>∀ p8 c8 r_4,K [1] [(1,r_4)] [1,2,3] [(5,sv p8 s3.1 c8),(7,vi s3.2.1),(8,vi s3.2.2)] [Al xF 178 r_4 p8 c8 s3.1]) (gv (fun _ k=>k p4 c4 r_1) [0,1] (gq [0,1,2,3]))<|
  fun s3 _ k p8 c8 r_4=>k<|zY<|z1H (fun K=>K [1,5,7,8] [] [0,1,2,3] [(43,vb ((s3.2.2==1)||(decide (s3.2.1<(len s3.1)))))] []) (
 au
)<|fun _ k=>k<|zW u (hI 0 15 2 (fun(s4:(List zU)×Int) K=>∀ p9 c9 r_5,K [1,7,8,9] [(1,.r r_5)] [1,2,3] [(5,sv p9 s4.1 c9),(10,vi s4.2)] [Al xF 178 r_5 p9 c9 s4.1])<|hI 0 18 1 (fun(s5:(List zU)×Int) K=>∀ p12 c12 r_6,K [1,7,8,9,10,63,64] [(1,.r r_6)] [0,4,5,6] [(5,sv p12 s5.1 c12),(65,vi s5.2)] [Al xF 178 r_6 p12 c12 s5.1])<|hI 1 20 0 (fun(s6:Bool) K=>K [1,5,7,8,9,10,12,63,64,65] [] [2,3,0,4,5,6] [(89,vb s6)] [])<|
 au
)<|uV<|uU<|uX<|uZ<|wS<|jA 3 u<|wC<|wW 1 0 u u<|
 au
abbrev zUX:=@Cn.mk 50 0 _ @zVB
theorem zKg{y0:List zU}{y1:Int}: zN qd prog 201 [sv p1 y0 c1,vi y1] [] [Rl xF p1 c1 y0] (zDs y0 y1) fun r K=>∀ p2 c2,K (sv p2 r c2) [] [Rl (zR .i64) p2 c2 r] :=
 zS call201 func201 u fun X=>hI 0 3 1 (fun(s1:(List Int)×Int) K=>∀ p3 c3,K [0,10,11] [] [1,0] [(5,sv p3 s1.1 c3),(12,vi s1.2)] [Rl (zR .i64) p3 c3 s1.1])<|
 au
abbrev zQp:=@Cn.mk 201 0 _ @zKg
attribute [instance] zUX zQp
theorem zRm{y0:zX}{y1:List zU}{y2:Int}: zN qd prog 166 [.agg (zEf y0 p1 c1 p2 c2 p3 c3).toArray,sv p4 y1 c4,vi y2] [] (zFA y0 p1 c1 p2 c2 p3 c3 [Rl xF p4 c4 y1]) (zG3 y0 y1 y2) fun r K=>K (vb r) [] [] :=
 zS call166 func166 u fun X=>hI 0 2 1 (fun(s1:Int) K=>K [3,11,12] [] [0,1,2,3] [(13,vi s1)] [])<|
 au
abbrev zS9:=@Cn.mk 166 0 _ @zRm
attribute [instance] zS9
theorem zQk (k:Nat):
    (∀ {y0:zX} {p1:Option Addr} {c1:Nat} {p2:Option Addr} {c2:Nat} {p3:Option Addr} {c3:Nat} {y1:List zU} {p4:Option Addr} {c4:Nat} {y2:Int},zN qd prog 203 [.agg (zEf y0 p1 c1 p2 c2 p3 c3).toArray,sv p4 y1 c4,vi y2] [] (zFA y0 p1 c1 p2 c2 p3 c3 [Rl xF p4 c4 y1]) (zEz k y0 y1 y2) fun r K=>∀ p5 c5,K (sv p5 r c5) [] [Rl (zR .i64) p5 c5 r]):=by
  induction k with
  | zero=>exact uP call203
  | succ k ih =>
    have ih_ref07_Last:=@ih
    have zQF:=@Cn.mk 203 0 _ (@ih_ref07_Last)
    exact @fun y0 p1 c1 p2 c2 p3 c3 y1 p4 c4 y2=>zS (m1:=zIx (zEz k) y0 y1 y2) call203 func203 u fun X=>hD 3 [] [0] (.l [0,1,2,3,4,5,6,7,8,9,10] .e)<|hD 9 [] [0] (.l [0,1,2,3,4,5,6,7,8,9,10] (.f 11 (.f 12 (.l [13] .e))))<|hI 1 1 0 (fun(s1:Bool) K=>K [1,2,3] [] [3,0,1,2] [(24,vb s1)] [])<|hI 0 7 2 (fun(s2:(List Int)×Int) K=>∀ p6 c6,K [1,2,3] [] [2,3,4,5] [(7,sv p6 s2.1 c6),(8,vi s2.2)] [Rl (zR .i64) p6 c6 s2.1])<|
 au
theorem zQZ{y0:zX}{y1:List zU}{y2:Int}: zN qd prog 203 [.agg (zEf y0 p1 c1 p2 c2 p3 c3).toArray,sv p4 y1 c4,vi y2] [] (zFA y0 p1 c1 p2 c2 p3 c3 [Rl xF p4 c4 y1]) (zLo y0 y1 y2) fun r K=>∀ p5 c5,K (sv p5 r c5) [] [Rl (zR .i64) p5 c5 r]:=uO fun k=>(zQk k)
abbrev zQF:=@Cn.mk 203 0 _ @zQZ
attribute [instance] zQF
theorem zP4{y0:zX}{y1:List zU}{y2:Int}: zN qd prog 169 [.agg (zEf y0 p1 c1 p2 c2 p3 c3).toArray,sv p4 y1 c4,vi y2] [] (zFA y0 p1 c1 p2 c2 p3 c3 [Rl xF p4 c4 y1]) (zDG y0 y1 y2) fun r K=>∀ p5 c5,K (sv p5 r c5) [] [Rl (zR .i64) p5 c5 r] :=
 zS call169 func169 u fun X=>zG<|yB .s u<|fun b1=>zB 1 u<|zI<|zG<|zB 1 u<|yO (zR .i64) 3<|zI<|zY<|zG<|qV 0 3 u u u<|zB 2 u<|wG zQZ u (cq [1,2,3,4])<|fun r1 _ k p5 c5=>k<|zB 2 u<|zI<|qP<|
  vN (fun s1 K=>∀ p6 c6 r_1,K [3,13,14] [(1,r_1)] [0,2,3,4] [(7,sv p6 s1.1 c6),(15,vi s1.2)] [Al (zR .i64) 3 r_1 p6 c6 s1.1]) (gv (fun _ k=>k none 0 []) [0,1] (gq [1,0,2,3,4]))<|
  fun s1 _ k p6 c6 r_1=>k<|jA 1 u<|zY<|zW u (
 au
)<|uV<|uU<|uX<|uZ<|wS<|jA 2 u<|wC<|wW 1 0 u u<|
 au
abbrev zPP:=@Cn.mk 169 0 _ @zP4
theorem zFb{y0:zX}{y1:List zU}{y2:Int}: zN qd prog 168 [.agg (zEf y0 p1 c1 p2 c2 p3 c3).toArray,sv p4 y1 c4,vi y2] [] (zFA y0 p1 c1 p2 c2 p3 c3 [Rl xF p4 c4 y1]) (zBZ y0 y1 y2) fun r K=>∀ p5 c5,K (sv p5 r c5) [] [Rl (zR .i64) p5 c5 r] :=
 zS call168 func168 u fun X=>zG<|yB .s u<|fun b1=>zB 1 u<|zI<|zG<|zB 1 u<|yO (zR .i64) 3<|zI<|zY<|zG<|zB 2 u<|wG zKg u (cq [4])<|fun r1 _ k p5 c5=>k<|zB 2 u<|zI<|qP<|
  vN (fun s1 K=>∀ p6 c6 r_1,K [3,12,13] [(1,r_1)] [0,2,3,4] [(7,sv p6 s1.1 c6),(14,vi s1.2)] [Al (zR .i64) 3 r_1 p6 c6 s1.1]) (gv (fun _ k=>k none 0 []) [0,1] (gq [1,0,2,3,4]))<|
  fun s1 _ k p6 c6 r_1=>k<|jA 1 u<|zY<|zW u (
 au
)<|uV<|uU<|uX<|uZ<|wS<|jA 2 u<|wC<|wW 1 0 u u<|
 au
abbrev zM7:=@Cn.mk 168 0 _ @zFb
theorem zGz{y0:zX}{y1:List zU}{y2:Int}: zN qd prog 170 [.agg (zEf y0 p1 c1 p2 c2 p3 c3).toArray,sv p4 y1 c4,vi y2] [] (zFA y0 p1 c1 p2 c2 p3 c3 [Rl xF p4 c4 y1]) (zDM y0 y1 y2) fun r K=>∀ p5 c5,K (sv p5 r c5) [] [Rl (zR .i64) p5 c5 r] :=
 zS call170 func170 u fun X=>zG<|yB .s u<|fun b1=>zB 1 u<|zI<|zG<|zB 1 u<|yO (zR .i64) 3<|zI<|zY<|zG<|qV 0 3 u u u<|zB 2 u<|wG zJA u (cq [1,2,3,4])<|fun r1 _ k p5 c5=>k<|zB 2 u<|zI<|qP<|
  vN (fun s1 K=>∀ p6 c6 r_1,K [3,13,14] [(1,r_1)] [0,2,3,4] [(7,sv p6 s1.1 c6),(15,vi s1.2)] [Al (zR .i64) 3 r_1 p6 c6 s1.1]) (gv (fun _ k=>k none 0 []) [0,1] (gq [1,0,2,3,4]))<|
  fun s1 _ k p6 c6 r_1=>k<|jA 1 u<|zY<|zW u (
 au
)<|uV<|uU<|uX<|uZ<|wS<|jA 2 u<|wC<|wW 1 0 u u<|
 au
abbrev zPh:=@Cn.mk 170 0 _ @zGz
theorem zRD{y0:List Int}: zN qd prog 202 [sv p1 y0 c1] [] [Rl (zR .i64) p1 c1 y0] (zDt y0) fun r K=>K (.tuple #[vi r.1,vi r.2]) [] [] :=
 zS call202 func202 u fun X=>hD 1 [] [] (.l [0,1,2,3,4,5,6,7] .e)<|hD 5 [] [] (.l [0,1,2,3,4,5,6,7,8,9,10,11,12,13] .e)<|hI 0 3 2 (fun(s1:Int×Int×Int) K=>K [0] [] [2] [(4,vi s1.1),(5,vi s1.2.1),(6,vi s1.2.2)] [])<|
 au
abbrev zQx:=@Cn.mk 202 0 _ @zRD
attribute [instance] zPP zM7 zPh zQx
theorem zIZ{y0:List Int}{y1:List Int}{y2:Int}: zN qd prog 167 [sv p1 y0 c1,sv p2 y1 c2,vi y2] [] [Rl (zR .i64) p1 c1 y0,Rl (zR .i64) p2 c2 y1] (zDS y0 y1 y2) fun r K=>K (vb r) [] [] :=
 zS call167 func167 u fun X=>hP 4 1 0 (fun K=>K [0,1,2] [] [0,1] [(21,vb (if y2 != 1 then(y2 != 2)||((len y0)==0) else(len y0)==0))] [])<|
 au
abbrev zSl:=@Cn.mk 167 0 _ @zIZ
attribute [instance] zSl
theorem zW0{y0:zX}{y1:List zU}{y2:Int}{y3:Int}{y4:zAm}: zN qd prog 101 [.agg (zEf y0 p1 c1 p2 c2 p3 c3).toArray,sv p4 y1 c4,vi y2,vi y3,.agg #[vi y4.1,vi y4.2]] [] (zFA y0 p1 c1 p2 c2 p3 c3 [Rl xF p4 c4 y1]) (zHT y0 y1 y2 y3 y4) fun r K=>K (vb r) [] [] :=
 zS call101 func101 u fun X=>zG<|yB .s u<|fun b1=>yB .s u<|fun b2=>zB 1 u<|zI<|zY<|qX (fun s1 K=>K [1,2,3,5,9] [] [3,0,1,2] [(40,vb s1)] []) (
 au
)<|fun s1 _ k=>k<|zW u (
 au
)<|jC<|jds [] [0,1] 12<|
  yZ 0 0 3 u u u u<|zQ 9 [1,2] u<|yZ 4 0 3 u u u u<|zQ 6 [5,6] u<|qK 8 1 u u<|wO 9 1 u u u u<|zT 3<|qA (.f u) [] [] zFb u u u (cq [1,2,3,0])<|fun r2 _ k p5 c5=>k<|zM<|zT 7<|
  qA (.f u) [] [] zFb u u u (cq [2,3,4,1])<|fun r3 _ k p6 c6=>k<|zM<|zT 10<|qA (.f u) [] [] zIZ u u u (cq [1,0])<|fun r4 _ k=>k<|zM<|zQ 0 [11] u<|qI<|wS<|zY<|zG<|zO 0 u<|
  qJ 1 u u u<|zI<|qP<|jA 2 u<|zW u (hD 6 [] [0] (.l [0,1,2,4,5,6] (.f 3 (.f 7 (.l [8,9] .e))))<|hI 1 7 0 (fun(s2:Bool) K=>K [] [(0,.r []),(1,.r [])] [] [(10,vb s2)] [])<|
 au
)<|jA 2 u<|zW u (jds [] [0] 10<|yZ 0 0 3 u u u u<|zQ 7 [1,2] u<|yZ 4 0 3 u u u u<|zQ 4 [5,6] u<|zT 3<|
  qA (.f u) [] [] zGz u u u (cq [3,4,5,2])<|fun r8 _ k p9 c9=>k<|zM<|zT 7<|qA (.f u) [] [] zGz u u u (cq [4,5,6,3])<|fun r9 _ k p10 c10=>k<|zM<|zQ 0 [8,9] u<|qI<|wS<|zY<|
  z1H (fun K=>K [1,2,3,5,9,11,14,15] [] [4,1,0,5,6,7] [(99,vb (((len r8)==0)&&((len r9)==0)))] []) (
 au
)<|fun _ k=>k<|zW u (
 au
)<|jC<|zG<|
  zB 2 u<|zO 1 u<|qJ 1 u u u<|wG zIZ u (cq [1,2])<|fun r10 _ k=>k<|hI 1 13 0 (fun(s3:Bool) K=>K [11,16] [(0,.r []),(1,.r [])] [] [(119,vb s3)] [])<|hP 4 15 0 (fun K=>K [] [] [] [(10,vb (r4&&r10))] [])<|
 au
)<|
 au
abbrev zXH:=@Cn.mk 101 0 _ @zW0
theorem zIt{y0:zE}: zN qd prog 200 [.agg #[vb y0.1,vs y0.2]] [] [] (zG2 y0) fun r K=>K (.agg #[vb r.1,vs r.2]) [] [] :=
 zS call200 func200 u fun X=>
 au
abbrev zOX:=@Cn.mk 200 0 _ @zIt
theorem zS1{y0:zX}{y1:List zU}{y2:Int}{y3:Int}{y4:Int}: zN qd prog 165 [.agg (zEf y0 p1 c1 p2 c2 p3 c3).toArray,sv p4 y1 c4,vi y2,vi y3,vi y4] [] (zFA y0 p1 c1 p2 c2 p3 c3 [Rl xF p4 c4 y1]) (zGg y0 y1 y2 y3 y4) fun r K=>K (vb r) [] [] :=
 zS call165 func165 u fun X=>zG<|yB .s u<|fun b1=>zB 1 u<|zI<|jds [] [] 13<|zQ 11 [0,1] u<|jdi 2 3 u u u u<|fun x1 b2 o1=>qK 3 3 u u<|jdl 4 true zBA u (gs (gs (gs (gk 0)))) u<|zQ 6 [5,6] u<|jdi 7 4 u u u u<|
  fun x2 b3 o2=>qK 8 3 u u<|jdl 9 true zBA u (gs (gs (gs (gk 0)))) u<|zT 10<|qA (.f u) [] [] zIt u u u d<|fun r1 _ k=>k<|zM<|qS 11 (vb (x1.2.2.2==r1)) u<|zQ 0 [12] u<|qI<|wS<|zY<|zG<|
  zB 2 u<|tA 5 u u u<|fun x3 b4 o3=>zO 1 u<|tG false oI (gf (gs (gk 0))) u<|zB 1 u<|zI<|zW u (jjn (fun s1 K=>K [(10,vb s1)] [[]] []) (uG [] [0] 19<|
  zQ 16 [0,1,2] u<|wM 33 u (qK 3 0 u u<|wO 4 0 u u u u<|zQ 12 [5,6] u<|jdi 7 6 u u u u<|fun x4 b5 o4=>qK 8 0 u u<|jdl 9 false oI u (gf (gk 0)) u<|jdi 10 4 u u u u<|fun x5 b6 o5=>
  qK 11 2 u u<|jdl 12 false oI u (gf (gs (gk 0))) u<|zQ 5 [13] u<|qS 14 (vb (x5.2.1 != 1)) u<|zQ 3 [15] u<|wM 46 u (zQ 2 [16] u<|qS 17 (vb (x1.2.2.2==r1)) u<|zQ 0 [18] u<|qI<|qB (gv kk [900] d))<|
  zQ 2 [16] u<|qS 17 (vb false) u<|zQ 0 [18] u<|qI<|qB (gv kk [900] d))<|zQ 5 [3,4,5,6,7,8,9,10,11,12,13] u<|qS 14 (vb false) u<|zQ 2 [15,16] u<|qS 17 (vb false) u<|zQ 0 [18] u<|qI<|
  qB (gv kk [900] d))<|fun s1 _ k=>k<|wC<|xY<|xJ u u kk [] d)<|jC<|jds [] [0] 11<|qK 0 1 u u<|wO 1 0 u u u u<|zQ 7 [2,3] u<|jdi 4 6 u u u u<|fun x6 b7 o6=>qK 5 1 u u<|
  jdl 6 false oI u (gf (gs (gk 0))) u<|jdi 7 5 u u u u<|fun x7 b8 o7=>jdl 8 true zVm u (gk 0) u<|fun p5 c5=>zT 9<|qN (.f u) (.agg k4)<|fun b9=>zM<|zT 10<|
  zV (o:=0) (.f u) 1 u u u<|zM<|qI<|wS<|zY<|jA 1 u<|qP<|jA 2 u<|zW u (
  jjp (fun K=>K [(10,vb ((!x7.2.1)&&(x1.2.2.2==r1)))] [[],[]] []) (vD<|zO 1 u<|qJ 1 u u u<|zB 2 u<|
  jsp (b:=!x7.2.1) 64 u (fun hb3=>zB 1 u<|zL (vb (x1.2.2.2==r1))<|zB 1 u<|wH<|jup 10 (vb ((!x7.2.1)&&(x1.2.2.2==r1))) u (by rw[hb3];rfl)<|qB (gv kk [900,901] d))<|fun hb3=>zB 1 u<|zL (vb false)<|
  zB 1 u<|wH<|jup 10 (vb ((!x7.2.1)&&(x1.2.2.2==r1))) u (by rw[hb3];rfl)<|qB (gv kk [900,901] d))<|fun _ k=>k<|wC<|jbr<|xY<|xJ u u kk [] d)<|jA 2 u<|zW u (
  jjn (fun s2 K=>K [(10,vb s2)] [[],[]] []) (uG [] [1] 15<|qK 0 1 u u<|wO 1 1 u u u u<|zQ 11 [2,3] u<|wM 72 u (zQ 9 [4,5] u<|
  jdi 6 9 u u u u<|fun x8 b10 o8=>qK 7 3 u u<|jdl 8 true zBA u (gs (gs (gs (gk 0)))) u<|qK 9 0 u u<|wO 10 1 u u u u<|qS 11 (.agg #[vb true,vs x7.1]) u<|qS 12 (vb (x8.2.2.2==(true,x7.1))) u<|
  qS 13 (vb (x8.2.2.2==(true,x7.1))) u<|zQ 0 [14] u<|qI<|qB (gv kk [900,901] d))<|zQ 2 [4,5,6,7,8,9,10,11,12] u<|qS 13 (vb false) u<|zQ 0 [14] u<|qI<|qB (gv kk [900,901] d))<|fun s2 _ k=>k<|wC<|
  jbr<|xY<|xJ u u kk [] d)<|uW<|yT<|wS<|jA 1 u<|wC<|xJ u u kk [] d
abbrev zRu:=@Cn.mk 165 0 _ @zS1
attribute [instance] zXH zOX zRu
theorem zL3{y0:zX}{y1:List zU}: zN qd prog 100 [.agg (zEf y0 p1 c1 p2 c2 p3 c3).toArray,sv p4 y1 c4] [] (zFA y0 p1 c1 p2 c2 p3 c3 [Rl xF p4 c4 y1]) (zGl y0 y1) fun r K=>∀ p5 c5,K (sv p5 r c5) [] [Rl zDC p5 c5 r] :=
 zS call100 func100 u fun X=>zG<|yB .s u<|fun b1=>zB 1 u<|zI<|zG<|zB 1 u<|yO zDC 184<|zI<|zY<|jA 1 u<|qP<|
  vN (fun s1 K=>∀ p5 c5 r_1,K [1,2] [(1,r_1)] [4,1,2,3] [(5,sv p5 s1.1 c5),(6,vi s1.2)] [Al zDC 184 r_1 p5 c5 s1.1]) (gv (fun _ k=>k none 0 []) [0,1] (gq [0,4,1,2,3]))<|
  fun s1 _ k p5 c5 r_1=>k<|zY<|jA 4 u<|zW u (hI 0 6 2 (fun(s2:(List wN)×Int) K=>∀ p6 c6 r_2,K [1,2,6] [(1,.r r_2)] [1,2,3,4] [(5,sv p6 s2.1 c6),(7,vi s2.2)] [Al zDC 184 r_2 p6 c6 s2.1])<|hI 0 9 1 (fun(s3:(List wN)×Int) K=>∀ p8 c8 r_3,K [1,2,6,7,25,26] [(1,.r r_3)] [2,0,3,4,5] [(5,sv p8 s3.1 c8),(27,vi s3.2)] [Al zDC 184 r_3 p8 c8 s3.1])<|hI 0 12 2 (fun(s4:(List wN)×Int) K=>∀ p9 c9 r_4,K [1,2,6,7,9,25,26,27] [(1,.r r_4)] [2,3,4,5,6] [(5,sv p9 s4.1 c9),(10,vi s4.2)] [Al zDC 184 r_4 p9 c9 s4.1])<|
 au
)<|uV<|uU<|uX<|uZ<|wS<|jA 2 u<|wC<|wW 1 0 u u<|
 au
abbrev zRo:=@Cn.mk 100 0 _ @zL3
attribute [instance] zRo
theorem zS4{y0:zX}{y1:List zU}{y2:zAm}: zN qd prog 52 [.agg (zEf y0 p1 c1 p2 c2 p3 c3).toArray,sv p4 y1 c4,.agg #[vi y2.1,vi y2.2]] [] (zFA y0 p1 c1 p2 c2 p3 c3 [Rl xF p4 c4 y1]) (zEp y0 y1 y2) fun r K=>∀ p5 c5,K (sv p5 r c5) [] [Rl zDC p5 c5 r] :=
 zS call52 func52 u fun X=>zG<|yB .s u<|fun b1=>yB .s u<|fun b2=>zB 1 u<|zI<|zG<|zB 1 u<|yO zDC 184<|zI<|zG<|qV 0 3 u u u<|zB 1 u<|wG zL3 u (cq [1,2,3,4])<|fun r1 _ k p5 c5=>k<|zB 1 u<|zI<|zY<|jA 1 u<|qP<|
  vN (fun s1 K=>∀ p6 c6 r_1,K [1,3,5,8] [(2,r_1)] [5,0,2,3,4] [(7,sv p6 s1.1 c6),(9,vi s1.2)] [Al zDC 184 r_1 p6 c6 s1.1]) (gv (fun _ k=>k none 0 []) [0,1,2] (gq [1,5,0,2,3,4]))<|
  fun s1 _ k p6 c6 r_1=>k<|zY<|jA 4 u<|zW u (hD 6 [] [0,1] (.l [0,1,2,3,4,5,6] (.s 25 (.l [7,8,9,10,11,12,13,14,15,16,17,18,19,20,21,22] .e) (.l [7,8,9,10,11,12,13,14,15,16,17,18,19] (.f 20 (.l [21,22] .e)))))<|hI 1 6 0 (fun(s2:Bool) K=>K [1,3,5,7,8,9] [] [1,0,2,3,4,5] [(41,vb s2)] [])<|
 au
)<|uV<|uU<|uX<|uZ<|wS<|jA 2 u<|wC<|wW 2 0 u u<|
 au
abbrev zSd:=@Cn.mk 52 0 _ @zS4
theorem zU9{y0:Int}{y1:List wN}: zN qd prog 51 [vi y0,sv p1 y1 c1] [] [Rl zDC p1 c1 y1] (zGZ y0 y1) fun r K=>∀ p2 c2,K (.tuple #[.agg (zKR r.1 p2 c2).toArray,vi r.2]) [] [Rl zEu p2 c2 r.1.2] :=
 zS call51 func51 u fun X=>zG<|qN .s (.agg #[vi 0,.slice none 0 0])<|fun b1=>zB 1 u<|zI<|zY<|
  z1H (fun K=>K [0,1,4] [] [0] [(17,vb ((decide (y0<0))||(decide (40<y0))))] []) (
 au
)<|fun _ k=>k<|zW u (
 au
)<|jC<|z7h (fun s1 K=>K [0,1,4] [] [0] [] []) (hI 0 4 2 (fun(s2:Int) K=>K [0,1,4] [] [0] [(6,vi s2)] [])<|hI 1 6 0 (fun(s3:Bool) K=>K [0,1,4,6] [] [0] [(56,vb s3)] [])<|
 au
)<|fun s1 _ k=>k<|zG<|
  zB 1 u<|zL (.agg #[vi y0,.slice none 0 0])<|yO zEu 186<|qN .s (.agg #[vi 0,.slice none 0 0])<|fun b6=>zV .s 2 u u u<|zI<|
  qX (fun s4 K=>∀ p2 c2 r_1,K [4,7] [(1,r_1),(2,bx b6 83 [vi y0,sv p2 s4 c2])] [] [] [Al zEu 186 r_1 p2 c2 s4]) (hI 0 10 2 (fun(s5:Int×(List wU)) K=>∀ p3 c3 r_2,K [0,1,4,7] [(1,.r r_2),(2,.c [(1,sv p3 s5.2 c3)])] [1] [(8,vi s5.1)] [Al zEu 186 r_2 p3 c3 s5.2])<|hI 0 13 2 (fun(s6:Int×(List wU)) K=>∀ p4 c4 r_3,K [0,1,4,7,8] [(1,.r r_3),(2,.c [(1,sv p4 s6.2 c4)])] [1] [(9,vi s6.1)] [Al zEu 186 r_3 p4 c4 s6.2])<|hI 1 16 1 (fun(s7:Bool) K=>K [0,1,4,7,8,9] [] [1,0] [(10,vb s7)] [])<|hI 0 17 2 (fun(s8:Bool×Int) K=>K [0,1,4,7,8,9] [] [1,0] [(10,vb s8.1),(11,vi s8.2)] [])<|hI 3 19 0 (fun(s9:Bool) K=>K [0,1,4,7,8,9,11] [] [0,1] [(10,vb s9)] [])<|
 au
)<|fun s4 _ k p2 c2 r_1=>k<|zG<|qV 2 2 u u u<|zV .s 0 u u u<|zB 1 u<|zI<|wC<|wW 1 0 u u<|
 au
abbrev zUY:=@Cn.mk 51 0 _ @zU9
attribute [instance] zSd zUY
theorem zSa{y0:zX}{y1:zAm}: zN qd prog 22 [.agg (zEf y0 p1 c1 p2 c2 p3 c3).toArray,.agg #[vi y1.1,vi y1.2]] [] (zFA y0 p1 c1 p2 c2 p3 c3 []) (zDO y0 y1) fun r K=>∀ p4 c4 p5 c5 p6 c6 p7 c7 p8 c8 p9 c9,K (.tuple #[.agg (zPE r.1 p4 c4 p5 c5 p6 c6 p7 c7 p8 c8 p9 c9).toArray,vi r.2]) [] (zP0 r.1 p4 c4 p5 c5 p6 c6 p7 c7 p8 c8 p9 c9 []) :=
 zS call22 func22 u fun X=>hP 4 4 0 (fun K=>K [2,3,4,6] [] [0,1,2,3] [(38,vb (if y1.1 != 1 then(y1.1 != 2)||((y1.2 != 1)&&(y1.2 != 2)) else(y1.2 != 1)&&(y1.2 != 2)))] [])<|
 au
abbrev zRW:=@Cn.mk 22 0 _ @zSa
attribute [instance] zRW
theorem zTV{y0:zGd}: zN qd prog 30 [.agg (zUz y0 p1 c1 p2 c2 p3 c3 p4 c4 p5 c5 p6 c6 p7 c7 p8 c8 p9 c9 p10 c10 p11 c11 p12 c12).toArray] [] (zVU y0 p1 c1 p2 c2 p3 c3 p4 c4 p5 c5 p6 c6 p7 c7 p8 c8 p9 c9 p10 c10 p11 c11 p12 c12 []) (zFr y0) fun r K=>∀ p13 c13,K (.tuple #[sv p13 r.1 c13,vi r.2]) [] [Rl qU p13 c13 r.1] :=
 zS call30 func30 u fun X=>
 au
abbrev zTe:=@Cn.mk 30 0 _ @zTV
theorem zGa{y0:Int}: zN qd prog 46 [vi y0] [] [] (zCP y0) fun r K=>K (vs r) [] [] :=
 zS call46 func46 u fun X=>jA 1 u<|zG<|zB 1 u<|wG zPH u d<|fun r1 _ k=>k<|zB 1 u<|zL (.int .u8 (IntKind.u8.wrap (zF ((97:Int)+r1))))<|
  uR .s (e:=zR .u8) 5 [.int .u8 (IntKind.u8.wrap (zF ((97:Int)+r1)))] ([IntKind.u8.wrap (zF ((97:Int)+r1))]:List Int) (rC vI rN)<|fun p1 c1=>jsb .s (gk 0) u underlying68 underlying5 underlying9<|
 au
abbrev zRZ:=@Cn.mk 46 0 _ @zGa
theorem zI1{y0:vH}{y1:Int}{y2:Int}: zN qd prog 48 [pt b1 0,vi y1,vi y2] [bx b1 75 (zCH y0 p1 c1)] (zCB y0 p1 c1 []) (zDa y0 y1 y2) fun r K=>∀ p2 c2,K (sv p2 r.1 c2) [bx b1 75 [sv p1 y0.1 c1,vi r.2]] [Rl qU p2 c2 r.1] :=
 zS call48 func48 u fun X=>jA 1 u<|zG<|zB 1 u<|yO qU 23<|zI<|zY<|zG<|zB 3 u<|qA .s [0] [] zAt u u u (cq [1])<|fun r1 _ k=>k<|zB 1 u<|zI<|qP<|
  vN (fun s1 K=>∀ p2 c2 r_1,K [0,2] [(0,bx b1 75 [sv p1 y0.1 c1,vi s1.2.2]),(1,r_1)] [1] [(7,sv p2 s1.1 c2),(8,vi s1.2.1)] [Al qU 23 r_1 p2 c2 s1.1]) (gv (fun _ k=>k none 0 []) [0,1] (gq [0,1]))<|
  fun s1 _ k p2 c2 r_1=>k<|zY<|jA 2 u<|zW u (
 au
)<|uV<|uU<|uX<|uZ<|wS<|jA 2 u<|wC<|wW 1 0 u u<|
 au
abbrev zNE:=@Cn.mk 48 0 _ @zI1
theorem zNo{y0:List zE}: zN qd prog 47 [sv p1 y0 c1] [] [Rl qU p1 c1 y0] (zHw y0) fun r K=>∀ p2 c2,K (sv p2 r c2) [] [Rl qU p2 c2 r] :=
 zS call47 func47 u fun X=>jA 1 u<|zG<|zB 1 u<|yO qU 23<|zI<|zY<|jA 3 u<|qP<|
  vN (fun s1 K=>∀ p2 c2 r_1,K [7,8] [(0,r_1)] [1] [(3,sv p2 s1.1 c2),(9,vi s1.2)] [Al qU 23 r_1 p2 c2 s1.1]) (gv (fun _ k=>k none 0 []) [0] (gq [0,1]))<|
  fun s1 _ k p2 c2 r_1=>k<|jA 1 u<|zY<|zW u (jC<|zY<|qP<|zG<|tA 1 u u u<|fun x1 b1 o1=>tG true zBA (gk 0) u<|qN .s (.agg #[vb false,vs []])<|fun b2=>zV .s 1 u u u<|zI<|jA 1 u<|
  qX (fun s2 K=>K [3,5,7,8,9] [] [1,2] [(6,vi s2)] []) (qP<|
  vN (fun s3 K=>K [3,5,7,8,9] [] [1,2] [(6,vi s3)] []) (gv kk [0,1] (gq [1,2]))<|fun s3 _ k=>k<|zY<|
  qX (fun s4 K=>K [3,5,6,7,8,9] [] [0,1] [(48,vb s4)] []) (uG [] [0,1] 36<|zQ 31 [0,1,2,3,4] u<|wM 17 u (zQ 29 [5,6] u<|jdI 7 0 u u u u<|
  fun x2 h1 b3 o2 hp1=>qK 8 1 u u<|jdL 9 0 0 sI.snd false oS u u hp1 h1 u<|qK 10 1 u u<|wO 11 1 u u u u<|zQ 22 [12,13] u<|wM 26 u (zQ 2 [14,15,16,17,18,19,20,21,22,23,24,25,26,27,28,29,30,31,32,33] u<|
  qS 34 (vb true) u<|qS 35 (vb true) u<|qI<|
 au
)<|zQ 20 [14,15] u<|jdI 16 0 u u u u<|fun x3 h2 b4 o3 hp2=>qK 17 1 u u<|jdL 18 0 0 sI.snd false oS u u hp2 h2 u<|qK 19 1 u u<|
  wO 20 1 u u u u<|zQ 13 [21,22] u<|wM 35 u (zQ 11 [23,24] u<|jdI 25 0 u u u u<|fun x4 h3 b5 o4 hp3=>qK 26 0 u u<|jdL 27 0 0 sI.fst false oB u u hp3 h3 u<|zQ 7 [28] u<|qS 29 (vb (!x4.1)) u<|
  zQ 5 [30] u<|wM 43 u (qK 31 0 u u<|wO 32 1 u u u u<|qS 33 (vb x1.1) u<|qS 34 (vb x1.1) u<|qS 35 (vb x1.1) u<|qI<|
 au
)<|zQ 3 [31,32] u<|qS 33 (vb false) u<|
  qS 34 (vb false) u<|qS 35 (vb false) u<|qI<|
 au
)<|zQ 7 [23,24,25,26,27,28] u<|qS 29 (vb false) u<|zQ 3 [30,31,32] u<|qS 33 (vb false) u<|qS 34 (vb false) u<|qS 35 (vb false) u<|
  qI<|
 au
)<|zQ 1 [5,6,7,8,9,10,11,12,13,14,15,16,17,18,19,20,21,22,23,24,25,26,27,28,29,30,31,32,33,34] u<|qS 35 (vb false) u<|qI<|
 au
)<|
 au
)<|fun s2 _ k=>k<|zY<|
  qX (fun s5 K=>K [3,5,6,7,8,9] [] [0,1] [(62,vb s5)] []) (uG [] [0,1] 12<|zQ 7 [0,1,2,3,4] u<|wM 55 u (zQ 5 [5,6] u<|jdI 7 0 u u u u<|
  fun x5 h4 b6 o5 hp4=>jdL 8 0 0 sI true zBA u u hp4 h4 u<|yZ 9 1 2 u u u u<|qS 10 (vb (x5==x1)) u<|qS 11 (vb (x5==x1)) u<|qI<|
 au
)<|zQ 1 [5,6,7,8,9,10] u<|
  qS 11 (vb false) u<|qI<|
 au
)<|fun s5 _ k=>k<|zW u (
 au
)<|jC<|zG<|zB 1 u<|zL (.agg #[vb false,vs []])<|
  uR .s (e:=qU) 23 [vb false,vs []] ([(false,[])]:List zE) (rC (vP vB vS) rN)<|fun p3 c3=>vK .s 0 1 u (gk 0) u u<|fun x6 r_2 p4 c4=>zB 1 u<|zI<|jds [] [] 8<|zQ 5 [0,1,2] u<|
  jdV 3 0 u u u u<|fun u1 p5 c5 f1=>zQ 2 [4,5] u<|jdV 6 0 u u u u<|fun u2 p6 c6 f2=>zT 7<|jcp (.f u) 0 0 u (vwV f1) (srV 0 0 f2 u) u u<|fun r_3=>zM<|qI<|wS<|vD<|zB 2 u<|qV 1 2 u u u<|
  xC 0 u u u<|fun x7 h6 b7 o6 hp5=>jsA .s 0 0 sI x1 true u hp5 h6 u u (vP vB vS)<|fun r_4=>wH<|yT<|wS<|jB 2 u<|jrE 0 3 u u<|
 au
)<|uV<|uU<|uX<|uZ<|wS<|jA 2 u<|wC<|
  wW 0 0 u u<|
 au
abbrev zV1:=@Cn.mk 47 0 _ @zNo
theorem zI7{y0:vH}{y1:Int}{y2:Int}{y3:Int}: zN qd prog 20 [pt b1 0,vi y1,vi y2,vi y3] [bx b1 75 (zCH y0 p1 c1)] (zCB y0 p1 c1 []) (zFG y0 y1 y2 y3) fun r K=>∀ p2 c2 r_1 p3 c3 r_2 p4 c4,K (.agg #[sv p2 r.1.1 c2,sv p3 r.1.2.1 c3,sv p4 r.1.2.2 c4]) [bx b1 75 [sv p1 y0.1 c1,vi r.2],r_1,r_2] [Al zBG 119 r_1 p2 c2 r.1.1,Al uC 124 r_2 p3 c3 r.1.2.1,Rl tO p4 c4 r.1.2.2] :=
 zS call20 func20 u fun X=>zG<|qN .s (.agg k2)<|fun b2=>zI<|zG<|qN .s (.agg k2)<|fun b3=>yO zBG 119<|yO uC 124<|yO tO 126<|zI<|
  qX (fun s1 K=>∀ p2 c2 r_1,K [0,1,3,8,9] [(0,bx b1 75 [sv p1 y0.1 c1,vi s1.1]),(2,bx b3 47 [sv p2 s1.2 c2,sv none ([]:List qW) 0,sv none ([]:List yF) 0]),(3,r_1)] [3,1,0] [] [Al zBG 119 r_1 p2 c2 s1.2]) (
  zG<|zB 3 u<|qA .s [0] [] zAt u u u (cq [3])<|fun r1 _ k=>k<|zB 1 u<|zI<|qP<|
  vN (fun s2 K=>∀ p3 c3 r_2,K [0,1,3,8,9] [(0,bx b1 75 [sv p1 y0.1 c1,vi s2.2.1]),(2,bx b3 47 [sv p3 s2.2.2 c3,sv none ([]:List qW) 0,sv none ([]:List yF) 0]),(3,r_2)] [3,1,0] [(10,vi s2.1)] [Al zBG 119 r_2 p3 c3 s2.2.2]) (gv (fun _ k=>k none 0 []) [0,1,2,3,4,5] (gq [2,3,1,0]))<|
  fun s2 _ k p3 c3 r_2=>k<|zY<|jA 2 u<|zW u (jC<|zY<|qP<|zG<|zB 2 u<|qA .s [0] [] zEh u u u (cq [1])<|fun r2 _ k=>k<|zB 1 u<|
  uR .s (e:=zR .i64) 3 [vi 1,vi 2,vi 2,vi 2,vi 3] ([1,2,2,2,3]:List Int) (rC vI (rC vI (rC vI (rC vI (rC vI rN)))))<|fun p4 c4=>qA .s [0] [] zLx u u u (cq [2,0])<|fun r3 _ k=>k<|zB 1 u<|
  uR .s (e:=wD) 9 [vs [],vs [],vs [97,110,110],vs [98,111,98]] ([[],[],[97,110,110],[98,111,98]]:List zA) (rC vS (rC vS (rC vS (rC vS rN))))<|fun p5 c5=>qA .s [0] [] zIb u u u (cq [3,0])<|fun r4 _ k=>
  k<|zL (.agg #[vb r2.1.1,vs r2.1.2,vi r3.1,vi 0,vs r4.1])<|qN .s (.agg #[vb false,vs [],vi 0,vi 0,vs []])<|fun b4=>zV .s 6 u u u<|zI<|
  qX (fun s3 K=>K [0,1,3,8,9,10,11] [(0,bx b1 75 [sv p1 y0.1 c1,vi s3.1]),(6,bx b4 119 [vb r2.1.1,vs r2.1.2,vi r3.1,vi s3.2,vs r4.1])] [3,2,4,5] [] []) (
  zG<|zO 2 u<|qJ 6 u u u<|zB 1 u<|zI<|zW u (vD<|zB 1 u<|qA .s [0] [] zAt u u u (cq [3])<|fun r5 _ k=>k<|zO 3 u<|zV .s 6 u u u<|wH<|qB (gv kk [0,1,2,3,4,5,6] (gq [3,2,4,5])))<|uW<|
  qB (gv kk [0,1,2,3,4,5,6] (gq [3,2,4,5])))<|fun s3 _ k=>k<|jA 1 u<|qX (fun s4 K=>K [0,1,3,8,9,10,11] [] [0,1,2,3] [(12,vb s4)] []) (zG<|zO 0 u<|
  qJ 2 u u u<|zB 2 u<|zI<|qP<|
  vN (fun s5 K=>K [0,1,3,8,9,10,11,44,45] [] [1,0,2,3] [(12,vb s5.1),(46,vi s5.2)] []) (gv kk [0,1,2,3,4,5,6] (gq [1,0,2,3]))<|
  fun s5 _ k=>k<|jA 1 u<|zY<|zW u (jC<|zY<|qP<|zG<|xC 0 u u u<|fun x1 h1 b5 o1 hp1=>jlA 3 0 sI true zWz u hp1 h1 u<|qN .s (.agg #[vb false,vs [],vi 0,vi 0,vs []])<|fun b6=>zV .s 7 u u u<|zI<|
  jjqK (fun K=>K [0,1,3,8,9,10,11,44,45,46] [(7,[])] [0,1,2,3] [(12,vb (s5.1||(x1.1==r2.1)))] []) (vD<|zB 2 u<|
  jsp (b:=s5.1) 51 u (fun hb1=>zB 5 u<|zL (vb true)<|zB 1 u<|wH<|jup 12 (vb (s5.1||(x1.1==r2.1))) u (by rw[hb1];rfl)<|qB (gv kk [0,1,2,3,4,5,6,907] (gq [0,1,2,3])))<|fun hb1=>zO 0 u<|qV 7 2 u u u<|
  zO 0 u<|qV 6 2 u u u<|zL (vb (x1.1==r2.1))<|zL (vb (x1.1==r2.1))<|zB 1 u<|wH<|jup 12 (vb (s5.1||(x1.1==r2.1))) u (by rw[hb1];rfl)<|qB (gv kk [0,1,2,3,4,5,6,907] (gq [0,1,2,3])))<|fun _ k=>k<|yT<|wS<|
  jB 2 u<|jln (gv kk [0,1,2,3,4,5,6] (gq [0,1,2,3])))<|uV<|uU<|uX<|uZ<|qB (gv kk [0,1,2,3,4,5,6] (gq [1,0,2,3])))<|fun s4 _ k=>k<|jA 2 u<|zW u (vD<|zO 0 u<|qJ 2 u u u<|qV 6 5 u u u<|
  uR .s (e:=zBG) 119 [vb r2.1.1,vs r2.1.2,vi r3.1,vi s3.2,vs r4.1] ([(r2.1,r3.1,s3.2,r4.1)]:List yD) (rC (vP (vP vB vS) (vP vI (vP vI vS))) rN)<|fun p6 c6=>vK .s 3 2 u (gk 0) u u<|fun x2 r_3 p7 c7=>zO 0 u<|
  zV .s 2 u u u<|wH<|yT<|wS<|jB 3 u<|jln (gv (fun _ k=>k p7 c7 r_3) [0,1,2,3,4,5] (gq [0,2,4,5])))<|uW<|yT<|wS<|jB 3 u<|jln (gv (fun _ k=>k p3 c3 r_2) [0,1,2,3,4,5] (gq [1,0,2,3])))<|uV<|uU<|uX<|uZ<|
  qB (gv (fun _ k=>k p3 c3 r_2) [0,1,2,3,4,5] (gq [0,1,2,3])))<|fun s1 _ k p2 c2 r_1=>k<|
  qX (fun s6 K=>∀ p8 c8 r_4,K [0,1,8,9] [(0,bx b1 75 [sv p1 y0.1 c1,vi s6.1]),(2,bx b3 47 [sv p2 s1.2 c2,sv p8 s6.2 c8,sv none ([]:List yF) 0]),(4,r_4)] [1,0,3] [] [Al uC 124 r_4 p8 c8 s6.2]) (
  zG<|zB 3 u<|qA .s [0] [] zAt u u u (cq [1])<|fun r6 _ k=>k<|zB 1 u<|zI<|qP<|
  vN (fun s7 K=>∀ p9 c9 r_5,K [0,1,3,8,9] [(0,bx b1 75 [sv p1 y0.1 c1,vi s7.2.1]),(2,bx b3 47 [sv p2 s1.2 c2,sv p9 s7.2.2 c9,sv none ([]:List yF) 0]),(4,r_5)] [1,0,3] [(15,vi s7.1)] [Al uC 124 r_5 p9 c9 s7.2.2]) (gv (fun _ k=>k none 0 []) [0,1,2,3,4,5] (gq [2,1,0,3]))<|
  fun s7 _ k p9 c9 r_5=>k<|zY<|jA 2 u<|zW u (jC<|zY<|qP<|zG<|zO 1 u<|qJ 2 u u u<|zB 1 u<|wG zGa u d<|fun r7 _ k=>k<|zB 1 u<|qA .s [0] [] zAt u u u (cq [1])<|fun r8 _ k=>k<|zB 3 u<|
  qA .s [0] [] zI1 u u u (cq [1])<|fun r9 _ k p10 c10=>k<|wG zNo u (cq [0])<|fun r10 _ k p11 c11=>k<|zB 2 u<|qA .s [0] [] zEh u u u (cq [3])<|fun r11 _ k=>k<|
  zL (.agg #[vs r7,vb (r8.1==0),vi 0,sv p11 r10 c11,vb r11.1.1,vs r11.1.2])<|qN .s (.agg k4)<|fun b7=>zV .s 6 u u u<|zI<|
  qX (fun s8 K=>K [0,1,3,8,9,15,16] [(0,bx b1 75 [sv p1 y0.1 c1,vi s8.1]),(6,bx b7 124 [vs r7,vb (r8.1==0),vi s8.2,sv p11 r10 c11,vb r11.1.1,vs r11.1.2])] [3,4,2,5,0] [] []) (
  zG<|zO 1 u<|qJ 6 u u u<|zB 1 u<|zI<|zW u (vD<|zB 1 u<|qA .s [0] [] zAt u u u (cq [3])<|fun r12 _ k=>k<|zO 2 u<|zV .s 6 u u u<|wH<|qB (gv kk [0,1,2,3,4,5,6] (gq [3,4,2,5,0])))<|
  uW<|qB (gv kk [0,1,2,3,4,5,6] (gq [3,4,2,5,0])))<|fun s8 _ k=>k<|
  qX (fun s9 K=>K [0,1,3,8,9,15,16] [(0,bx b1 75 [sv p1 y0.1 c1,vi s9.1]),(6,bx b7 124 [vs r7,vb (r8.1==0),vi s8.2,sv p11 r10 c11,vb s9.2.1,vs s9.2.2])] [0,1,2,3,4] [] []) (
  zG<|zB 1 u<|qA .s [0] [] zAt u u u (cq [0])<|fun r13 _ k=>k<|zB 1 u<|zI<|zW u (vD<|zB 1 u<|qA .s [0] [] zAt u u u (cq [0])<|fun r14 _ k=>k<|zB 3 u<|
  qA .s [0] [] zAt u u u (cq [0])<|fun r15 _ k=>k<|wG zGa u d<|fun r16 _ k=>k<|zL (.agg #[vb (decide (0<r14.1)),vs r16])<|zO 4 u<|zV .s 6 u u u<|wH<|
  qB (gv kk [0,1,2,3,4,5,6] (gq [0,1,2,3,4])))<|uW<|qB (gv kk [0,1,2,3,4,5,6] (gq [0,1,2,3,4])))<|fun s9 _ k=>k<|vD<|zO 1 u<|qJ 2 u u u<|qV 6 6 u u u<|
  uR .s (e:=uC) 124 [vs r7,vb (r8.1==0),vi s8.2,sv p11 r10 c11,vb s9.2.1,vs s9.2.2] ([(r7,r8.1==0,s8.2,r10,(s9.2.1,s9.2.2))]:List qW) (rC (vP vS (vP vB (vP vI (vP (vL (gk 4)) (vP vB vS))))) rN)<|fun p12 c12=>
  vK .s 4 3 u (gk 0) u u<|fun x3 r_6 p13 c13=>zO 1 u<|zV .s 2 u u u<|wH<|yT<|wS<|jB 3 u<|jln (gv (fun _ k=>k p13 c13 r_6) [0,1,2,3,4,5] (gq [0,2,3,5])))<|uV<|uU<|uX<|uZ<|
  qB (gv (fun _ k=>k p9 c9 r_5) [0,1,2,3,4,5] (gq [0,1,2,3])))<|fun s6 _ k p8 c8 r_4=>k<|
  qX (fun s10 K=>∀ p14 c14 r_7,K [8,9] [(0,bx b1 75 [sv p1 y0.1 c1,vi s10.1]),(2,bx b3 47 [sv p2 s1.2 c2,sv p8 s6.2 c8,sv p14 s10.2 c14]),(5,r_7)] [1,2,0] [] [Al tO 126 r_7 p14 c14 s10.2]) (
  zG<|zB 1 u<|qA .s [0] [] zAt u u u (cq [1])<|fun r17 _ k=>k<|zB 1 u<|zI<|qP<|
  vN (fun s11 K=>∀ p15 c15 r_8,K [0,1,8,9] [(0,bx b1 75 [sv p1 y0.1 c1,vi s11.2.1]),(2,bx b3 47 [sv p2 s1.2 c2,sv p8 s6.2 c8,sv p15 s11.2.2 c15]),(5,r_8)] [1,2,0] [(17,vi s11.1)] [Al tO 126 r_8 p15 c15 s11.2.2]) (gv (fun _ k=>k none 0 []) [0,1,2,3,4,5] (gq [3,1,2,0]))<|
  fun s11 _ k p15 c15 r_8=>k<|zY<|
  z1H (fun K=>K [0,1,8,9,17] [] [1,2,3,0] [(123,vb ((decide (0<s11.1))&&(decide (0<(len s6.2)))))] []) (vD<|zB 3 u<|
  jsp (b:=decide (0<s11.1)) 118 u (fun hb2=>zO 1 u<|qJ 2 u u u<|zB 2 u<|zL (vb (decide (0<(len s6.2))))<|wH<|jup 123 (vb ((decide (0<s11.1))&&(decide (0<(len s6.2))))) u (by rw[hb2];rfl)<|
  qB (gv kk [0,1,2,3,4,5] (gq [1,2,3,0])))<|fun hb2=>zB 4 u<|zL (vb false)<|wH<|jup 123 (vb ((decide (0<s11.1))&&(decide (0<(len s6.2))))) u (by rw[hb2];rfl)<|qB (gv kk [0,1,2,3,4,5] (gq [1,2,3,0])))<|
  fun _ k=>k<|zW u (jC<|zY<|qP<|
  qX (fun s12 K=>∀ b8 p16 c16,K [0,1,8,9,17] [(0,bx b1 75 [sv p1 y0.1 c1,vi s12.1]),(6,bx b8 124 (z35 s12.2 p16 c16))] [0,1,2,3] [(18,pt b8 0)] (z1g s12.2 p16 c16 [])) (
  uG [] [2,4] 11<|qK 0 1 u u<|wO 1 2 u u u u<|zQ 8 [2] u<|qK 3 1 u u<|wO 4 2 u u u u<|zQ 5 [5] u<|tB 6 9 (qA (.f u) [0] [] zAt u u u (cq [0])<|fun r18 _ k=>k<|zM<|
  jdI 7 2 u u u u<|fun x4 h4 b9 o2 hp2=>jdL 8 4 2 sI true zVm u u hp2 h4 u<|fun p17 c17=>zT 9<|qN (.f u) (.agg k4)<|fun b10=>zM<|zT 10<|
  zV (o:=0) (.f u) 6 u u u<|zM<|qI<|qB (gv (fun _ k=>k b10 p17 c17) [0,1,2,3,4,5,6] (gq [0,1,2,3,4]))) <|qN (.f u) (.agg k4)<|fun b11=>zM<|zT 6<|
  qA (.f u) [0] [] zAt u u u (cq [0])<|fun r19 _ k=>k<|zM<|jdI 7 2 u u u u<|fun x5 h5 b12 o3 hp3=>jdL 8 4 2 sI true zVm u u hp3 h5 u<|fun p18 c18=>zT 10<|zV (o:=0) (.f u) 6 u u u<|zM<|qI<|
  qB (gv (fun _ k=>k b11 p18 c18) [0,1,2,3,4,5,6] (gq [0,1,2,3,4])))<|fun s12 _ k b8 p16 c16=>k<|zG<|zO 1 u<|qJ 6 u u u<|zB 1 u<|zI<|zW u (uG [13] [2,6] 14<|qK 0 2 u u<|wO 1 2 u u u u<|
  qK 2 0 u u<|wO 3 6 u u u u<|zQ 7 [4,6,7] u<|zT 5<|qA (.f u) [0] [] zAt u u u (cq [1])<|fun r20 _ k=>k<|zM<|zT 8<|qA (.f u) [0] [] zEh u u u (cq [1])<|fun r21 _ k=>k<|zM<|
  qS 9 (.agg #[vs s12.2.1,vi r20.1,vb r21.1.1,vs r21.1.2]) u<|zT 10<|uR (.f u) (e:=tO) 126 [vs s12.2.1,vi r20.1,vb r21.1.1,vs r21.1.2] ([(s12.2.1,r20.1,r21.1)]:List yF) (rC (vP vS (vP vI (vP vB vS))) rN)<|
  fun p19 c19=>zM<|zT 11<|vK (.f u) 5 5 u (gk 0) u u<|fun x6 r_9 p20 c20=>zM<|qK 12 2 u u<|zT 13<|zV (o:=2) (.f u) 2 u u u<|jdb [] [2,6]<|qI<|yT<|wS<|jB 3 u<|
  jln (gv (fun _ k=>k p20 c20 r_9) [0,1,2,3,4,5] (gq [0,3,4,5])))<|uW<|yT<|wS<|jB 3 u<|jln (gv (fun _ k=>k p15 c15 r_8) [0,1,2,3,4,5] (gq [4,1,2,3])))<|uV<|uU<|uX<|uZ<|qB (gv (fun _ k=>k p15 c15 r_8) [0,1,2,3,4,5] (gq [3,0,1,2])))<|
  fun s10 _ k p14 c14 r_7=>k<|zG<|qV 2 3 u u u<|zV .s 1 u u u<|zI<|wC<|wW 5 0 u u<|
  tQ u (lC 1 (.agg #[sv p2 s1.2 c2,sv p8 s6.2 c8,sv p14 s10.2 c14]) u u lN) (fun _ k=>k p2 c2 r_1 p8 c8 r_4 p14 c14) [0,3,4] (gq [3,4,0])
abbrev zRU:=@Cn.mk 20 0 _ @zI7
theorem zV7{y0:Int}: zN qd prog 174 [vi y0] [] [] (zG5 y0) fun r K=>K (vs r) [] [] :=
 zS call174 func174 u fun X=>
 au
abbrev zU0:=@Cn.mk 174 0 _ @zV7
theorem zTY{y0:yD}: zN qd prog 173 [.agg (zRk y0).toArray] [] [] (zEQ y0) fun r K=>K (vs r) [] [] :=
 zS call173 func173 u fun X=>
 au
abbrev zTB:=@Cn.mk 173 0 _ @zTY
attribute [instance] zTe zRZ zNE zV1 zRU zU0 zTB
theorem zNN{y0:yD}: zN qd prog 107 [.agg (zRk y0).toArray] [] [] (zD9 y0) fun r K=>K (vs r) [] [] :=
 zS call107 func107 u fun X=>hD 6 [] [0] (.l [0,1,2,3,4,7] (.f 5 (.l [6] (.f 8 (.l [9,10] .e)))))<|
 au
abbrev zNC:=@Cn.mk 107 0 _ @zNN
theorem zLQ{y0:yF}: zN qd prog 109 [.agg (zRy y0).toArray] [] [] (zCo y0) fun r K=>K (vs r) [] [] :=
 zS call109 func109 u fun X=>hD 1 [] [0] (.l [0,1,2,3,4,5,9,10] (.f 6 (.l [7,8] (.f 11 (.l [12,13] .e)))))<|
 au
abbrev zLa:=@Cn.mk 109 0 _ @zLQ
theorem zQ5{y0:qW}: zN qd prog 108 [.agg (z35 y0 p1 c1).toArray] [] (z1g y0 p1 c1 []) (zGI y0) fun r K=>K (vs r) [] [] :=
 zS call108 func108 u fun X=>hD 9 [] [0] (.l [0,1,2,3,4,5,6,7,8] (.f 9 (.l [10,11] .e)))<|hD 10 [] [0] (.l [0,1,2,3,4,5,9,12,13] (.f 6 (.l [7,8,10,11] (.f 14 (.l [15,16] .e)))))<|hI 1 2 1 (fun(s1:zA) K=>K [1] [] [0] [(3,vs s1)] [])<|hI 0 3 2 (fun(s2:zA×Int) K=>K [1] [] [0] [(3,vs s2.1),(4,vi s2.2)] [])<|hI 1 5 1 (fun(s3:zA) K=>K [1,4] [] [0] [(3,vs s3)] [])<|
 au
abbrev zQ6:=@Cn.mk 108 0 _ @zQ5
attribute [instance] zNC zLa zQ6
theorem zMm{y0:zX}: zN qd prog 60 [.agg (zEf y0 p1 c1 p2 c2 p3 c3).toArray] [] (zFA y0 p1 c1 p2 c2 p3 c3 []) (zEK y0) fun r K=>K (.tuple #[vs r.1,vi r.2]) [] [] :=
 zS call60 func60 u fun X=>hI 1 5 1 (fun(s1:zA) K=>K [1] [] [0,1,2] [(5,vs s1)] [])<|hI 0 6 2 (fun(s2:zA×Int) K=>K [1] [] [0,1,2] [(5,vs s2.1),(6,vi s2.2)] [])<|hI 1 9 1 (fun(s3:zA) K=>K [1] [] [0,1,2] [(5,vs s3)] [])<|hI 0 10 2 (fun(s4:zA×Int) K=>K [1] [] [0,1,2] [(5,vs s4.1),(7,vi s4.2)] [])<|hI 1 13 1 (fun(s5:zA) K=>K [] [(0,.r [])] [] [(5,vs s5)] [])<|hI 0 14 2 (fun(s6:zA×Int) K=>K [1] [] [0,1,2] [(5,vs s6.1),(8,vi s6.2)] [])<|
 au
abbrev zTb:=@Cn.mk 60 0 _ @zMm
theorem zYK{y0:vH}{y1:Bool}: zN qd prog 27 [pt b1 0,vb y1] [bx b1 75 (zCH y0 p1 c1)] (zCB y0 p1 c1 []) (zKB y0 y1) fun r K=>K (vs r.1) [bx b1 75 [sv p1 y0.1 c1,vi r.2]] [] :=
 zS call27 func27 u fun X=>jA 1 u<|zG<|zB 1 u<|qA .s [0] [] zI7 u u u (cq [0])<|fun r1 _ k p2 c2 r_1 p3 c3 r_2 p4 c4=>k<|qN .s (.agg k2)<|fun b2=>zV .s 3 u u u<|zI<|zG<|
  qN .s (.agg k2)<|fun b3=>zI<|
  z7h (fun s1 K=>∀ p5 c5 p6 c6,K [6] [(0,bx b1 75 [sv p1 y0.1 c1,vi s1.1]),(1,[]),(2,[]),(3,[]),(4,bx b3 47 [sv p5 s1.2.1 c5,sv p6 s1.2.2 c6,.slice none 0 0])] [3] [] [Rl zBG p5 c5 s1.2.1,Rl uC p6 c6 s1.2.2]) (
  jA 1 u<|zW u (zY<|zG<|zO 1 u<|qJ 3 u u u<|zB 2 u<|zI<|zW u (jA 1 u<|wC<|xY<|jlr<|xJ u u kk [0] d)<|jC<|zG<|zO 1 u<|qJ 3 u u u<|jsP 1 u u u<|fun x1=>zO 1 u<|
  zV .s 4 u u u<|zI<|uG [] [4] 8<|qK 0 1 u u<|wO 1 4 u u u u<|zQ 5 [2] u<|zT 3<|qA (.f u) [0] [] zAt u u u (cq [4])<|fun r2 _ k=>k<|zM<|zT 4<|
  qA (.f u) [] [] zGa u u u d<|fun r3 _ k=>k<|zM<|jdI 5 0 u u u u<|fun x2 h1 b4 o1 hp1=>qK 6 0 u u<|zT 7<|jsA (.f u) 2 0 sI.fst r3 false u hp1 h1 u u vS<|fun r_3=>zM<|qI<|wW 2 0 u u<|
  jbl (fun q_=>[bx b1 75 [sv p1 y0.1 c1,vi r2.2],r_1,[],bx b2 47 [sv p2 r1.1.1 c2,sv p3 r1.1.2.1 c3,sv p4 r1.1.2.2 c4],bx b3 47 [.slice none 0 0,.slice p3 q_ c3,.slice none 0 0]]) (gk 0) u<|
  jln (gv (fun _ k=>k none 0 p3 c3) [0,901,902,903,4] ⟨gn,gk 0,gk 7,d⟩))<|zY<|zG<|zO 0 u<|qJ 3 u u u<|zB 2 u<|zI<|zW u (zG<|zB 1 u<|
  uR .s (e:=wD) 9 [vs [112],vs [126,112],vs [113]] ([[112],[126,112],[113]]:List zA) (rC vS (rC vS (rC vS rN)))<|fun p7 c7=>qA .s [0] [] zIb u u u (cq [4,0])<|fun r4 _ k=>k<|yW fun x3 h2=>
  jv (fun h=>zJz h u u h2)<|yW fun x4 h3=>jv (fun h=>zJz h u u h3)<|zB 1 u<|zI<|wC<|xY<|jlr<|xJ u u kk [0] d)<|jC<|zG<|zO 0 u<|qJ 3 u u u<|jsP 0 u u u<|fun x5=>zO 0 u<|
  zV .s 4 u u u<|zI<|vD<|zO 0 u<|qJ 4 u u u<|xC 0 u u u<|fun x6 h4 b5 o2 hp2=>zO 4 u<|jsA .s 1 0 sI.snd.snd.snd [] false u hp2 h4 u u vS<|fun r_4=>wH<|wW 1 0 u u<|
  jbl (fun q_=>[bx b1 75 [sv p1 y0.1 c1,vi r1.2],[],r_2,bx b2 47 [sv p2 r1.1.1 c2,sv p3 r1.1.2.1 c3,sv p4 r1.1.2.2 c4],bx b3 47 [.slice p2 q_ c2,.slice none 0 0,.slice none 0 0]]) (gk 0) u<|
  jln (gv (fun _ k=>k p2 c2 none 0) [0,901,902,903,4] ⟨gk 0,gn,gk 7,d⟩))<|fun s1 _ k p5 c5 p6 c6=>k<|zG<|qV 4 3 u u u<|wG zMm u ⟨ck 0,ck 1,cn,d⟩<|fun r5 _ k=>k<|zB 5 u<|zI<|zY<|
  z1H (fun K=>K [7] [(4,[])] [2] [(54,vb ((r5.2 != 0)||(r5.1==[])))] []) (vD<|zB 3 u<|jsp (b:=r5.2 != 0) 51 u (fun hb1=>zB 2 u<|zL (vb true)<|
  wH<|jup 54 (vb ((r5.2 != 0)||(r5.1==[]))) u (by rw[hb1];rfl)<|qB (gv kk [0,901,902,903,904] (gq [2])))<|fun hb1=>zB 2 u<|zL (vb (r5.1==[]))<|wH<|jup 54 (vb ((r5.2 != 0)||(r5.1==[]))) u (by rw[hb1];rfl)<|
  qB (gv kk [0,901,902,903,904] (gq [2])))<|fun _ k=>k<|zW u (jA 1 u<|wC<|xY<|xJ u u kk [0] d)<|jC<|zG<|zB 4 u<|yW fun x7 h5=>
  jv (fun h=>zMw h u underlying9 u u (.inl ⟨rfl,rfl⟩) (.inr ⟨_,rfl⟩) h5)<|zB 1 u<|zI<|wC<|xJ u u kk [0] d
abbrev zYT:=@Cn.mk 27 0 _ @zYK
attribute [instance] zTb zYT
set_option maxHeartbeats 2000000 in
theorem zEx{y0:vH}{y1:zGd}: zN qd prog 9 [pt b1 0,.agg (zUz y1 p2 c2 p3 c3 p4 c4 p5 c5 p6 c6 p7 c7 p8 c8 p9 c9 p10 c10 p11 c11 p12 c12 p13 c13).toArray] [bx b1 75 (zCH y0 p1 c1)] (zCB y0 p1 c1 (zVU y1 p2 c2 p3 c3 p4 c4 p5 c5 p6 c6 p7 c7 p8 c8 p9 c9 p10 c10 p11 c11 p12 c12 p13 c13 [])) (zH3 y0 y1) fun r K=>∀ p14 c14 p15 c15,K (.agg (zAg r.1 p14 c14 p15 c15).toArray) [bx b1 75 [sv p1 y0.1 c1,vi r.2]] (xV r.1 p14 c14 p15 c15 []) :=
 zS call9 func9 u fun X=>zG<|yB .s u<|fun b2=>qN .s (.agg k0)<|fun b3=>zI<|
  qX (fun s1 K=>∀ b4 p14 c14 p15 c15,K [0,3,4] [(0,bx b1 75 [sv p1 y0.1 c1,vi s1.1]),(3,bx b4 34 (zAg s1.2 p14 c14 p15 c15))] [0,1,2,3,4,5,6,7,8,9,10,11,12] [(5,pt b4 0)] (xV s1.2 p14 c14 p15 c15 [])) (hD 1 [] [1] (.l [0,2,3,4,5,6,8,10] (.w 1 13 (.w 7 13 (.w 9 13 (.w 11 13 (.l [12] (.f 13 (.f 14 .e))) (.f 11 (.l [12] (.f 14 .e)))) (.f 9 (.f 11 (.l [12] (.f 14 .e))))) (.f 7 (.f 9 (.f 11 (.l [12] (.f 14 .e)))))) (.f 1 (.f 7 (.f 9 (.f 11 (.l [12] (.f 14 .e))))))))<|
 au
)<|fun s1 _ k b4 p14 c14 p15 c15=>k<|
  qX (fun s2 K=>∀ p16 c16 p17 c17,K [4,5] [(0,bx b1 75 [sv p1 y0.1 c1,vi s2.1]),(1,[]),(3,bx b4 34 [vi s1.2.1,vi s1.2.2.1,vi s2.2.1,vi s2.2.2.1,vs s2.2.2.2.1,vi (a4 s2).1,vi (a5 s2).1,vi (a6 s2).1,vb (a7 s2).1,vs (a8 s2).1,sv p16 (a9 s2).1 c16,vb (wE s2).1,vs (qG s2).1,vi (qQ s2).1,vi (a13 s2).1,vi (a14 s2).1,vi (a15 s2).1,vi (a16 s2).1,vi (a17 s2).1,vi (a18 s2).1,vs (a19 s2).1,sv p17 (a20 s2) c17])] [2] [] [Rl qU p16 c16 (a9 s2).1,Rl qD p17 c17 (a20 s2)]) (
  zG<|zO 0 u<|qJ 3 u u u<|zI<|qP<|qX (fun s3 K=>K [0,3,4,5,26] [] [2,3,4,5,6,7,8,9,10,11,12,13,14,0,1] [(27,vb s3)] []) (
 au
)<|fun s3 _ k=>k<|zW u (hD 7 [7] [3] (.l [0,1,2] (.f 3 (.f 4 (.l [5,6] (.f 7 (.b [] [3] .e))))))<|
 au
)<|jA 2 u<|zW u (
 au
)<|jA 2 u<|zW u (zG<|zB 1 u<|qA .s [0] [] zCU u u u (cq [0])<|fun r22 _ k=>k<|zB 1 u<|
  qA .s [0] [] zCU u u u (cq [0])<|fun r23 _ k=>k<|jv (v:=.agg #[vi r22.1,vi r23.1]) (fun h=>zUv h (by kernel_rfl))<|hI 1 15 0 (fun(s4:Bool×Int) K=>K [0,4,5,6] [(0,.c [(1,vi s4.2)]),(1,.r [])] [0,1,14,15] [(90,vb s4.1)] [])<|
 au
)<|hI 1 23 0 (fun(s5:Bool×Int) K=>K [0,4,5,9] [(0,.c [(1,vi s5.2)]),(1,.r []),(4,.r [])] [0,4,17,18] [(140,vb s5.1)] [])<|hI 1 27 0 (fun(s6:Bool×Int) K=>K [0,4,5,10] [(0,.c [(1,vi s6.2)]),(1,.r [])] [0,1,14,15] [(167,vb s6.1)] [])<|hI 1 29 1 (fun(s7:Bool) K=>K [0,3,4,5] [] [0,1,2,3,4,5,6,7,8,9,10,11,12,13,14] [(176,vb s7)] [])<|
 au
)<|
 au
abbrev zXL:=@Cn.mk 9 0 _ @zEx
theorem zBb{y0:vH}{y1:zGd}: zN qd prog 10 [pt b1 0,.agg (zUz y1 p2 c2 p3 c3 p4 c4 p5 c5 p6 c6 p7 c7 p8 c8 p9 c9 p10 c10 p11 c11 p12 c12 p13 c13).toArray] [bx b1 75 (zCH y0 p1 c1)] (zCB y0 p1 c1 (zVU y1 p2 c2 p3 c3 p4 c4 p5 c5 p6 c6 p7 c7 p8 c8 p9 c9 p10 c10 p11 c11 p12 c12 p13 c13 [])) (zHz y0 y1) fun r K=>∀ p14 c14 p15 c15,K (.agg (zAg r.1 p14 c14 p15 c15).toArray) [bx b1 75 [sv p1 y0.1 c1,vi r.2]] (xV r.1 p14 c14 p15 c15 []) :=
 zS call10 func10 u fun X=>zG<|yB .s u<|fun b2=>qN .s (.agg k0)<|fun b3=>zI<|
  z7h (fun s1 K=>K [4] [(0,bx b1 75 [sv p1 y0.1 c1,vi s1]),(1,[])] [0] [] []) (jA 1 u<|qP<|
  vN (fun s2 K=>K [0,3,4] [(0,bx b1 75 [sv p1 y0.1 c1,vi s2.2])] [0,1,2,3,4,5,6,7,8,9,10,11,12] [(5,vi s2.1)] []) (gv kk [0,1,2] (gq [0,1,2,3,4,5,6,7,8,9,10,11,12]))<|
  fun s2 _ k=>k<|zY<|jA 2 u<|zW u (jC<|zY<|qP<|zG<|zB 1 u<|qV 1 16 u u u<|qA .s [0] [] zEx u u u (cq [0,1,2,3,4,5,6,7,8,9,10,11,12])<|fun r1 _ k p14 c14 p15 c15=>k<|
  qN .s (.agg k0)<|fun b4=>zV .s 3 u u u<|zI<|zG<|zO 0 u<|
  qJ 3 u u u<|zO 1 u<|qJ 3 u u u<|
  zL (.agg #[vi r1.1.1,vi r1.1.2.1,vi 0,vi 0,vs [],vi 0,vi 0,vi 0,vb false,vs [],.slice none 0 0,vb false,vs [],vi 0,vi 0,vi 0,vi 0,vi 0,vi 0,vi 0,vs [],.slice none 0 0])<|
  qN .s (.agg k0)<|fun b5=>zV .s 4 u u u<|zI<|
  qX (fun s3 K=>∀ p16 c16 p17 c17,K [0,3,4,5,7] [(3,[]),(4,bx b5 34 [vi r1.1.1,vi r1.1.2.1,vi s3.1,vi s3.2.1,vs s3.2.2.1,vi s3.2.2.2.1,vi (a4 s3).1,vi (a5 s3).1,vb (a6 s3).1,vs (a7 s3).1,sv p16 (a8 s3).1 c16,vb (a9 s3).1,vs (wE s3).1,vi (qG s3).1,vi (qQ s3).1,vi (a13 s3).1,vi (a14 s3).1,vi (a15 s3).1,vi (a16 s3).1,vi (a17 s3).1,vs (a18 s3).1,sv p17 (a19 s3) c17])] [2,3,4,5,6,7,8,9,10,11,12,13,14] [] [Rl qU p16 c16 (a8 s3).1,Rl qD p17 c17 (a19 s3)]) (
  zG<|zO 0 u<|qJ 3 u u u<|zI<|qP<|qX (fun s4 K=>K [0,3,4,5,6,7,23] [] [2,3,4,5,6,7,8,9,10,11,12,13,14,0,1] [(24,vb s4)] []) (jA 2 u<|
  zW u (uW<|qB (gv kk [0,1,2,3,4] (gq [2,3,4,5,6,7,8,9,10,11,12,13,14,0,1])))<|jB 2 u<|qB (gv kk [0,1,2,3,4] (gq [2,3,4,5,6,7,8,9,10,11,12,13,14,0,1])))<|fun s4 _ k=>k<|zW u (vD<|zO 4 u<|qJ 3 u u u<|
  zO 4 u<|zV .s 4 u u u<|wH<|yT<|qB (gv (fun _ k=>k none 0 none 0) [0,1,2,903,4] ⟨gn,gn,gk 0,gk 1,gk 2,gk 3,gk 4,gk 5,gk 6,gk 7,gk 8,gk 9,gk 10,gk 11,gk 12,d⟩))<|jA 2 u<|zW u (zG<|zO 5 u<|qV 3 6 u u u<|
  zO 5 u<|zV .s 4 u u u<|zI<|zG<|zO 5 u<|zO 0 u<|qJ 3 u u u<|zB 1 u<|zI<|zW u (vD<|zO 5 u<|zO 2 u<|zV .s 4 u u u<|wH<|yT<|
  qB (gv (fun _ k=>k p14 c14 none 0) [0,1,2,903,4] ⟨gk 13,gn,gk 0,gk 1,gk 2,gk 3,gk 4,gk 5,gk 6,gk 7,gk 8,gk 9,gk 10,gk 11,gk 12,d⟩))<|uW<|yT<|
  qB (gv (fun _ k=>k p14 c14 none 0) [0,1,2,903,4] ⟨gk 13,gn,gk 0,gk 1,gk 2,gk 3,gk 4,gk 5,gk 6,gk 7,gk 8,gk 9,gk 10,gk 11,gk 12,d⟩))<|jA 2 u<|zW u (uG [] [3] 8<|qK 0 11 u u<|yZ 1 3 2 u u u u<|
  qK 2 13 u u<|yZ 3 3 2 u u u u<|qK 4 11 u u<|zT 5<|zV (o:=11) (.f u) 4 u u u<|zM<|qK 6 13 u u<|zT 7<|zV (o:=13) (.f u) 4 u u u<|zM<|qI<|yT<|
  qB (gv (fun _ k=>k none 0 none 0) [0,1,2,903,4] ⟨gn,gn,gk 0,gk 1,gk 2,gk 3,gk 4,gk 5,gk 6,gk 7,gk 8,gk 9,gk 10,gk 11,gk 12,d⟩))<|jA 2 u<|zW u (jds [] [3] 8<|qK 0 2 u u<|wO 1 3 u u u u<|qK 2 15 u u<|
  yZ 3 3 4 u u u u<|qK 4 2 u u<|zT 5<|zV (o:=2) (.f u) 4 u u u<|zM<|qK 6 15 u u<|zT 7<|zV (o:=15) (.f u) 4 u u u<|zM<|qI<|wS<|
  qX (fun s5 K=>K [0,3,4,5,6,7] [(4,bx b5 34 [vi r1.1.1,vi r1.1.2.1,vi r1.1.2.2.1,vi 0,vs [],vi 0,vi 0,vi 0,vb false,vs [],.slice none 0 0,vb false,vs [],vi 0,vi 0,vi r1.1.2.2.2.2.2.2.2.2.1.1,vi r1.1.2.2.2.2.2.2.2.2.1.2.1,vi s5,vi r1.1.2.2.2.2.2.2.2.2.1.2.2.2,vi 0,vs [],.slice none 0 0])] [0,1,2,3,4,5,6,7,8,9,10,11,12,13,14] [] []) (
  zG<|zO 15 u<|zO 1 u<|qJ 3 u u u<|zB 1 u<|zI<|zW u (vD<|zO 15 u<|zO 2 u<|zV .s 4 u u u<|wH<|qB (gv kk [0,1,2,3,4] (gq [0,1,2,3,4,5,6,7,8,9,10,11,12,13,14])))<|uW<|
  qB (gv kk [0,1,2,3,4] (gq [0,1,2,3,4,5,6,7,8,9,10,11,12,13,14])))<|fun s5 _ k=>k<|zG<|zO 15 u<|zO 1 u<|qJ 3 u u u<|zB 1 u<|zI<|zW u (vD<|zO 15 u<|zO 3 u<|zV .s 4 u u u<|wH<|yT<|
  qB (gv (fun _ k=>k none 0 none 0) [0,1,2,903,4] ⟨gn,gn,gk 0,gk 1,gk 2,gk 3,gk 4,gk 5,gk 6,gk 7,gk 8,gk 9,gk 10,gk 11,gk 12,d⟩))<|uW<|yT<|
  qB (gv (fun _ k=>k none 0 none 0) [0,1,2,903,4] ⟨gn,gn,gk 0,gk 1,gk 2,gk 3,gk 4,gk 5,gk 6,gk 7,gk 8,gk 9,gk 10,gk 11,gk 12,d⟩))<|jA 2 u<|zW u (uG [] [3] 8<|qK 0 11 u u<|yZ 1 3 2 u u u u<|
  qK 2 3 u u<|wO 3 3 u u u u<|qK 4 11 u u<|zT 5<|zV (o:=11) (.f u) 4 u u u<|zM<|qK 6 3 u u<|zT 7<|zV (o:=3) (.f u) 4 u u u<|zM<|qI<|yT<|
  qB (gv (fun _ k=>k none 0 none 0) [0,1,2,903,4] ⟨gn,gn,gk 0,gk 1,gk 2,gk 3,gk 4,gk 5,gk 6,gk 7,gk 8,gk 9,gk 10,gk 11,gk 12,d⟩))<|
  qX (fun s6 K=>K [0,3,4,5,6,7] [] [0,1,2,3,4,5,6,7,8,9,10,11,12,13,14] [(77,vb s6)] []) (jA 2 u<|zW u (uW<|
  qB (gv kk [0,1,2,3,4] (gq [0,1,2,3,4,5,6,7,8,9,10,11,12,13,14])))<|jA 2 u<|zW u (uW<|qB (gv kk [0,1,2,3,4] (gq [0,1,2,3,4,5,6,7,8,9,10,11,12,13,14])))<|jB 2 u<|
  qB (gv kk [0,1,2,3,4] (gq [0,1,2,3,4,5,6,7,8,9,10,11,12,13,14])))<|fun s6 _ k=>k<|zW u (uG [] [3] 8<|qK 0 19 u u<|yZ 1 3 3 u u u u<|qK 2 3 u u<|wO 3 3 u u u u<|qK 4 19 u u<|
  zT 5<|zV (o:=19) (.f u) 4 u u u<|zM<|qK 6 3 u u<|zT 7<|zV (o:=3) (.f u) 4 u u u<|zM<|qI<|yT<|
  qB (gv (fun _ k=>k none 0 p15 c15) [0,1,2,903,4] ⟨gn,gk 14,gk 0,gk 1,gk 2,gk 3,gk 4,gk 5,gk 6,gk 7,gk 8,gk 9,gk 10,gk 11,gk 12,d⟩))<|uW<|yT<|
  qB (gv (fun _ k=>k none 0 none 0) [0,1,2,903,4] ⟨gn,gn,gk 0,gk 1,gk 2,gk 3,gk 4,gk 5,gk 6,gk 7,gk 8,gk 9,gk 10,gk 11,gk 12,d⟩))<|fun s3 _ k p16 c16 p17 c17=>k<|zG<|qV 4 22 u u u<|wG zHS u (cq [0,1])<|fun r2 _ k=>k<|
  zB 5 u<|zI<|jA 2 u<|zW u (zG<|qV 4 22 u u u<|zV .s 2 u u u<|zI<|wC<|jbr<|xY<|jlr<|jbr<|jlr<|
  tQ u (lC 2 (.agg #[vi r1.1.1,vi r1.1.2.1,vi s3.1,vi s3.2.1,vs s3.2.2.1,vi s3.2.2.2.1,vi (a4 s3).1,vi (a5 s3).1,vb (a6 s3).1,vs (a7 s3).1,sv p16 (a8 s3).1 c16,vb (a9 s3).1,vs (wE s3).1,vi (qG s3).1,vi (qQ s3).1,vi (a13 s3).1,vi (a14 s3).1,vi (a15 s3).1,vi (a16 s3).1,vi (a17 s3).1,vs (a18 s3).1,sv p17 (a19 s3) c17]) u u lN) (fun _ k=>k p16 c16 p17 c17) [0] (gq [0,1])
  )<|uW<|yT<|wS<|jB 3 u<|jln (gv kk [0,1,2] (gq [2,3,4,5,6,7,8,9,10,11,12,13,14])))<|uV<|uU<|uX<|uZ<|jln (gv kk [0,901,2] (gq [0])))<|fun s1 _ k=>k<|zG<|
  zL (.agg k6)<|zV .s 2 u u u<|zI<|wC<|
  tQ u (lC 2 (.agg k6) u u lN) (fun _ k=>k none 0 none 0) [0] ⟨gn,gn,d⟩
abbrev zV2:=@Cn.mk 10 0 _ @zBb
theorem zK4{y0:List zA}: zN qd prog 21 [sv p1 y0 c1] [] [Rl wD p1 c1 y0] (zFK y0) fun r K=>K (vb r) [] [] :=
 zS call21 func21 u fun X=>hD 4 [] [] (.l [0,1,2,3] (.f 4 (.l [5,6] (.s 16 (.l [7,8,9,10,11,12,13,14,15,16,17,18,19,20,21] .e) (.l [7,8,9] (.s 19 (.l [10,11,12,13,14,15,16,17,18,19,20,21] .e) (.l [10,11,12,13,14,15,16,17,18,19,20,21] .e)))))))<|hI 2 1 1 (fun(s1:Unit) K=>K [0] [] [0] [] [])<|hI 0 2 2 (fun(s2:Int) K=>K [0] [] [0] [(3,vi s2)] [])<|hI 1 4 0 (fun(s3:Bool) K=>K [0,3] [] [0] [(31,vb s3)] [])<|
 au
abbrev zUo:=@Cn.mk 21 0 _ @zK4
theorem zXl{y0:Int}: zN qd prog 23 [vi y0] [] [] (zKc y0) fun r K=>∀ p1 c1,K (.tuple #[.agg #[sv p1 r.1 c1],vi r.2]) [] [Rl (wJ zGX) p1 c1 r.1] :=
 zS call23 func23 u fun X=>zG<|qN .s (.agg #[.slice none 0 0])<|fun b1=>zB 1 u<|zI<|zY<|z1H (fun K=>K [0,2] [] [] [(9,vb ((decide (y0<0))||(decide (6<y0))))] []) (
 au
)<|fun _ k=>k<|zW u (
 au
)<|jC<|zG<|zB 1 u<|jmk .s (e:=wJ zGX) 330 (([]:List zB0):List zB0) (.slice none 0 0) (vL gn) u u<|
  fun x1 r_1 p1 c1=>zL (.agg #[sv p1 x1 c1])<|zV .s 0 u u u<|zB 1 u<|zI<|wC<|wW 1 0 u u<|
 au
abbrev zY2:=@Cn.mk 23 0 _ @zXl
theorem zY3{y0:Int}{y1:Int}: zN qd prog 57 [.int .u64 y0,vi y1] [] [] (zSt y0 y1) fun r K=>K (vb r) [] [] :=
 zS call57 func57 u fun X=>jA 1 u<|zG<|zB 2 u<|zL (.int .u64 (IntKind.u64.wrap (y1)))<|yW fun x1 h1=>jv (fun h=>r_shrK h u u h1)<|
 au
abbrev zYD:=@Cn.mk 57 0 _ @zY3
theorem z1O{y0:List Int}{y1:Int}: zN qd prog 106 [sv p1 y0 c1,vi y1] [] [Rl (zR .i64) p1 c1 y0] (zOI y0 y1) fun r K=>K (vb r) [] [] :=
 zS call106 func106 u fun X=>hI 0 2 1 (fun(s1:Int) K=>K [0,1,7] [] [0] [(8,vi s1)] [])<|
 au
abbrev z3e:=@Cn.mk 106 0 _ @z1O
attribute [instance] zXL zV2 zUo zY2 zYD z3e
set_option maxHeartbeats 2000000 in
theorem zT2{y0:List zA}{y1:List Int}: zN qd prog 58 [sv p1 y0 c1,sv p2 y1 c2] [] [Rl wD p1 c1 y0,Rl (zR .i64) p2 c2 y1] (zHM y0 y1) fun r K=>∀ p3 c3 p4 c4,K (.tuple #[.agg (z2s r.1 p3 c3 p4 c4).toArray,vi r.2]) [] (z2M r.1 p3 c3 p4 c4 []) :=
 zS call58 func58 u fun X=>zG<|qN .s (.agg k3)<|fun b1=>zB 1 u<|zI<|zY<|qX (fun s1 K=>K [0,1,4] [] [0,1] [(21,vb s1)] []) (vD<|zB 1 u<|wG zK4 u (cq [0])<|
  fun r1 _ k=>k<|zB 2 u<|wM 13 u (
 au
)<|zB 4 u<|zL (.int .u64 (IntKind.u64.wrap (len y0)))<|yW fun x1 h1=>jv (fun h=>z6G h u u h1)<|
 au
)<|fun s1 _ k=>k<|zW u (
 au
)<|jC<|
  qX (fun s2 K=>∀ b2 p3 c3 r_1 p4 c4 r_2,K [1,4] [(1,bx b2 57 [sv p3 s2.1 c3,sv p4 s2.2 c4]),(2,r_1),(3,r_2)] [1] [(6,pt b2 0)] [Al wD 9 r_1 p3 c3 s2.1,Al (zR .i64) 3 r_2 p4 c4 s2.2]) (
  uG [] [] 9<|zQ 6 [1,3,4] u<|jd3 0 5 7 (xK (.f u) (e:=wD) 9 [] ([]:List zA) rN<|fun r_3 p5 c5=>zM<|jd3 2 5 7 (vK (.f u) 1 0 u (gk 1) u u<|fun x2 r_4 p6 c6=>zM<|tB 5 7 (
  jmk (.f u) (e:=zR .i64) 3 (0:Int) (vi 0) vI u u<|fun x3 r_5 p7 c7=>zM<|qS 6 (.agg #[sv p6 x2 c6,sv p7 x3 c7]) u<|zT 7<|qN (.f u) (.agg k3)<|fun b3=>zM<|zT 8<|
  zV (o:=0) (.f u) 3 u u u<|zM<|qI<|
 au
) <|qN (.f u) (.agg k3)<|fun b4=>zM<|zT 5<|
  jmk (.f u) (e:=zR .i64) 3 (0:Int) (vi 0) vI u u<|fun x4 r_6 p8 c8=>zM<|qS 6 (.agg #[sv p6 x2 c6,sv p8 x4 c8]) u<|zT 8<|zV (o:=0) (.f u) 2 u u u<|zM<|qI<|
 au
) (jcm<|jmk (.f u) (e:=zR .i64) 3 (0:Int) (vi 0) vI u u<|fun x5 r_7 p9 c9=>zM<|tB 2 7 (vK (.f u) 1 1 u (gk 2) u u<|fun x6 r_8 p10 c10=>zM<|
  qS 6 (.agg #[sv p10 x6 c10,sv p9 x5 c9]) u<|zT 7<|qN (.f u) (.agg k3)<|fun b5=>zM<|zT 8<|zV (o:=0) (.f u) 3 u u u<|zM<|qI<|
 au
) <|qN (.f u) (.agg k3)<|fun b6=>zM<|zT 2<|vK (.f u) 1 1 u (gk 2) u u<|fun x7 r_9 p11 c11=>zM<|
  qS 6 (.agg #[sv p11 x7 c11,sv p9 x5 c9]) u<|zT 8<|zV (o:=0) (.f u) 3 u u u<|zM<|qI<|
 au
) <|qN (.f u) (.agg k3)<|fun b7=>
  zM<|tB 2 5 (vK (.f u) 1 0 u (gk 1) u u<|fun x8 r_10 p12 c12=>zM<|zT 5<|jmk (.f u) (e:=zR .i64) 3 (0:Int) (vi 0) vI u u<|fun x9 r_11 p13 c13=>zM<|qS 6 (.agg #[sv p12 x8 c12,sv p13 x9 c13]) u<|zT 8<|
  zV (o:=0) (.f u) 2 u u u<|zM<|qI<|
 au
) <|jcm<|jmk (.f u) (e:=zR .i64) 3 (0:Int) (vi 0) vI u u<|fun x10 r_12 p14 c14=>zM<|zT 2<|
  vK (.f u) 1 1 u (gk 2) u u<|fun x11 r_13 p15 c15=>zM<|qS 6 (.agg #[sv p15 x11 c15,sv p14 x10 c14]) u<|zT 8<|zV (o:=0) (.f u) 2 u u u<|zM<|qI<|
 au
) (jcm<|jmk (.f u) (e:=zR .i64) 3 (0:Int) (vi 0) vI u u<|fun x12 r_14 p16 c16=>zM<|tB 0 7 (xK (.f u) (e:=wD) 9 [] ([]:List zA) rN<|
  fun r_15 p17 c17=>zM<|tB 2 7 (vK (.f u) 2 0 u (gk 2) u u<|fun x13 r_16 p18 c18=>zM<|qS 6 (.agg #[sv p18 x13 c18,sv p16 x12 c16]) u<|zT 7<|qN (.f u) (.agg k3)<|fun b8=>zM<|zT 8<|
  zV (o:=0) (.f u) 3 u u u<|zM<|qI<|
 au
) <|qN (.f u) (.agg k3)<|fun b9=>zM<|zT 2<|vK (.f u) 2 0 u (gk 2) u u<|
  fun x14 r_17 p19 c19=>zM<|qS 6 (.agg #[sv p19 x14 c19,sv p16 x12 c16]) u<|zT 8<|zV (o:=0) (.f u) 3 u u u<|zM<|qI<|
 au
) <|
  qN (.f u) (.agg k3)<|fun b10=>zM<|zT 0<|xK (.f u) (e:=wD) 9 [] ([]:List zA) rN<|fun r_18 p20 c20=>zM<|zT 2<|vK (.f u) 3 0 u (gk 2) u u<|fun x15 r_19 p21 c21=>zM<|
  qS 6 (.agg #[sv p21 x15 c21,sv p16 x12 c16]) u<|zT 8<|zV (o:=0) (.f u) 2 u u u<|zM<|qI<|
 au
) <|
  qN (.f u) (.agg k3)<|fun b11=>zM<|tB 0 5 (xK (.f u) (e:=wD) 9 [] ([]:List zA) rN<|fun r_20 p22 c22=>zM<|tB 2 5 (vK (.f u) 2 0 u (gk 1) u u<|fun x16 r_21 p23 c23=>zM<|zT 5<|
  jmk (.f u) (e:=zR .i64) 3 (0:Int) (vi 0) vI u u<|fun x17 r_22 p24 c24=>zM<|qS 6 (.agg #[sv p23 x16 c23,sv p24 x17 c24]) u<|zT 8<|zV (o:=0) (.f u) 1 u u u<|zM<|qI<|
 au
) <|jcm<|jmk (.f u) (e:=zR .i64) 3 (0:Int) (vi 0) vI u u<|fun x18 r_23 p25 c25=>zM<|zT 2<|vK (.f u) 2 1 u (gk 2) u u<|fun x19 r_24 p26 c26=>
  zM<|qS 6 (.agg #[sv p26 x19 c26,sv p25 x18 c25]) u<|zT 8<|zV (o:=0) (.f u) 1 u u u<|zM<|qI<|
 au
) <|jcm<|
  jmk (.f u) (e:=zR .i64) 3 (0:Int) (vi 0) vI u u<|fun x20 r_25 p27 c27=>zM<|zT 0<|xK (.f u) (e:=wD) 9 [] ([]:List zA) rN<|fun r_26 p28 c28=>zM<|zT 2<|vK (.f u) 3 0 u (gk 2) u u<|fun x21 r_27 p29 c29=>zM<|
  qS 6 (.agg #[sv p29 x21 c29,sv p27 x20 c27]) u<|zT 8<|zV (o:=0) (.f u) 1 u u u<|zM<|qI<|
 au
)<|fun s2 _ k b2 p3 c3 r_1 p4 c4 r_2=>k<|
  qX (fun s3 K=>∀ p30 c30 r_28,K [4,6] [(1,bx b2 57 [sv p3 s2.1 c3,sv p30 s3 c30]),(3,r_28)] [0] [] [Al (zR .i64) 3 r_28 p30 c30 s3]) (
  jA 1 u<|qP<|
  vN (fun s4 K=>∀ p31 c31 r_29,K [1,4,6] [(1,bx b2 57 [sv p3 s2.1 c3,sv p31 s4.2 c31]),(3,r_29)] [2,0] [(7,vi s4.1)] [Al (zR .i64) 3 r_29 p31 c31 s4.2]) (gv (fun _ k=>k p4 c4 r_2) [0,1,2,3] (gq [1,2,0]))<|
  fun s4 _ k p31 c31 r_29=>k<|zY<|jA 4 u<|zW u (jC<|zY<|qP<|zG<|zB 1 u<|yO (zR .i64) 3<|zI<|
  qX (fun s5 K=>∀ p32 c32 r_30,K [1,4,6,7] [(4,r_30)] [2,3,1] [(8,sv p32 s5 c32)] [Al (zR .i64) 3 r_30 p32 c32 s5]) (
  jA 1 u<|hD 11 [] [] (.l [0,1,2,3,4,5,6,7,8,9] (.s 51 (.l [10,11,12,13,14] (.f 15 (.l [16,17] .e))) (.l [10,11,12,13,14,15,16,17] .e)))<|hI 0 9 2 (fun(s6:(List Int)×Int) K=>∀ p33 c33 r_31,K [1,4,6,7] [(4,.r r_31)] [2,3,1] [(8,sv p33 s6.1 c33),(9,vi s6.2)] [Al (zR .i64) 3 r_31 p33 c33 s6.1])<|hI 1 11 0 (fun(s7:Bool) K=>K [1,4,6,7,8,9] [] [1,0,2,3] [(59,vb s7)] [])<|
 au
)<|fun s5 _ k p32 c32 r_30=>k<|vD<|zO 1 u<|qJ 1 u u u<|
  zB 3 u<|xC 3 u u u<|fun x27 h14 b16 o5 hp1=>jsA .s 3 3 sI (len s5) false u hp1 h14 u u vI<|fun r_33=>wH<|yT<|wS<|jB 3 u<|
  jbL (fun q_=>[bx b1 57 [.slice none 0 0,.slice none 0 0],bx b2 57 [sv p3 s2.1 c3,.slice p31 q_ c31],r_1,r_33,r_30]) (gk 0) u<|
 au
)<|
 au
)<|fun s3 _ k p30 c30 r_28=>k<|zG<|qV 1 2 u u u<|zV .s 0 u u u<|zB 1 u<|zI<|wC<|wW 2 1 u u<|wW 3 1 u u<|
 au
abbrev zTM:=@Cn.mk 58 0 _ @zT2
attribute [instance] zTM
theorem zOl{y0:List zA}{y1:List Int}: zN qd prog 24 [sv p1 y0 c1,sv p2 y1 c2] [] [Rl wD p1 c1 y0,Rl (zR .u64) p2 c2 y1] (zEk y0 y1) fun r K=>∀ p3 c3 p4 c4,K (.tuple #[.agg (z2s r.1 p3 c3 p4 c4).toArray,vi r.2]) [] (z2M r.1 p3 c3 p4 c4 []) :=
 zS call24 func24 u fun X=>zG<|qN .s (.agg k3)<|fun b1=>zB 1 u<|zI<|zY<|zG<|zB 1 u<|wG zK4 u (cq [0])<|fun r1 _ k=>k<|zB 1 u<|zI<|zW u (
 au
)<|jC<|zG<|zB 2 u<|zL (.int .u64 (IntKind.u64.wrap (len y0)))<|
  yW fun x1 h1=>jv (fun h=>z6G h u u h1)<|jmk .s (e:=zR .i64) 3 (0:Int) (vi 0) vI u u<|fun x2 r_1 p3 c3=>zB 1 u<|zI<|
  qX (fun s1 K=>∀ r_2,K [0,4] [(1,r_2)] [1] [(6,.slice p3 (List.length x2) c3)] [Ar (zR .i64) 3 r_2 p3 c3 (List.length x2) s1]) (
  jA 1 u<|qP<|
  vN (fun s2 K=>∀ r_3,K [0,1,4] [(1,r_3)] [1,2] [(6,.slice p3 (List.length x2) c3),(7,vi s2.2)] [Ar (zR .i64) 3 r_3 p3 c3 (List.length x2) s2.1]) (gv (fun _ k=>k r_1) [0,1] (gq [0,1,2]))<|
  fun s2 _ k r_3=>k<|zY<|jA 4 u<|zW u (jC<|zY<|qP<|qP<|
  vN (fun s3 K=>∀ r_4,K [0,1,4,6,7] [(1,r_4)] [1,2] [] [Ar (zR .i64) 3 r_4 p3 c3 (List.length x2) s3]) (gv (fun _ k=>k r_3) [0,1] (gq [0,1,2]))<|
  fun s3 _ k r_4=>k<|zY<|qX (fun s4 K=>K [0,1,4,6,7] [] [1,2,0] [(41,vb s4)] []) (vD<|zB 2 u<|xC 0 u u u<|fun x3 h2 b2 o1 hp1=>jlA 1 0 sI false oI u hp1 h2 u<|
  zB 4 u<|wM 30 u (zB 3 u<|xC 0 u u u<|fun x4 h3 b3 o2 hp2=>jlA 1 0 sI false oI u hp2 h3 u<|tA 2 u u u<|
 au
)<|
 au
)<|fun s4 _ k=>k<|zW u (jC<|qP<|vD<|zB 2 u<|xC 2 u u u<|fun x6 h4 b5 o4 hp3=>
  jlA 1 2 sI false oI u hp3 h4 u<|zB 1 u<|xC 2 u u u<|fun x7 h5 b6 o5 hp4=>jsA .s 1 2 sI (zF (x6+1)) false u hp4 h5 u u vI<|
 au
)<|
 au
)<|
 au
)<|fun s1 _ k r_2=>k<|zG<|zB 2 u<|jrE 0 49 u u<|wW 1 0 u u<|
 au
abbrev zNt:=@Cn.mk 24 0 _ @zOl
attribute [instance] zNt
theorem zSs{y0:zCu}: zN qd prog 8 [.agg (zQQ y0 p1 c1 p2 c2 p3 c3 p4 c4).toArray] [] (zPz y0 p1 c1 p2 c2 p3 c3 p4 c4 []) (zIX y0) fun r K=>∀ p5 c5 p6 c6 p7 c7 p8 c8 p9 c9 p10 c10 p11 c11 p12 c12 p13 c13 p14 c14 p15 c15 p16 c16,K (.tuple #[.agg (zUz r.1 p5 c5 p6 c6 p7 c7 p8 c8 p9 c9 p10 c10 p11 c11 p12 c12 p13 c13 p14 c14 p15 c15 p16 c16).toArray,vi r.2]) [] (zVU r.1 p5 c5 p6 c6 p7 c7 p8 c8 p9 c9 p10 c10 p11 c11 p12 c12 p13 c13 p14 c14 p15 c15 p16 c16 []) :=
 zS call8 func8 u fun X=>zG<|hI 1 1 0 (fun(s1:Bool) K=>K [1,2] [] [0,1,2,3] [(23,vb s1)] [])<|
 au
abbrev zYh:=@Cn.mk 8 0 _ @zSs
theorem zJh{y0:zA}: zN qd prog 15 [vs y0] [] [] (zDJ y0) fun r K=>∀ p1 c1 p2 c2,K (.tuple #[.agg (zAg r.1 p1 c1 p2 c2).toArray,vi r.2]) [] (xV r.1 p1 c1 p2 c2 []) :=
 zS call15 func15 u fun X=>zG<|qN .s (.agg k0)<|fun b1=>zB 1 u<|zI<|zG<|zB 1 u<|
  wG zQG u d<|fun r1 _ k p1 c1 p2 c2=>k<|qN .s (.agg k0)<|
  fun b2=>zV .s 1 u u u<|zI<|zY<|zG<|qV 1 22 u u u<|wG zHS u (cq [0,1])<|fun r2 _ k=>k<|hP 4 3 0 (fun K=>K [2,4] [] [0,1] [(20,vb ((r2.2 != 0)||(!(r2.1==y0))))] [])<|
 au
abbrev zPK:=@Cn.mk 15 0 _ @zJh
theorem zTp{y0:Int}: zN qd prog 18 [vi y0] [] [] (zMF y0) fun r K=>∀ p1 c1,K (sv p1 r c1) [] [Rl wD p1 c1 r] :=
 zS call18 func18 u fun X=>jA 1 u<|zG<|zB 1 u<|yO wD 9<|zI<|zY<|jA 1 u<|qP<|
  jlp (fun s1 K=>∀ p1 c1 r_1,K [(0,vi y0),(3,sv p1 s1.1 c1),(4,vi s1.2)] [r_1] [Al wD 9 r_1 p1 c1 s1.1]) (gv (fun _ k=>k none 0 []) [0] (gq [0]))<|
  fun s1 _ k p1 c1 r_1=>k<|zY<|jA 3 u<|zW u (jC<|zY<|qP<|vD<|zB 3 u<|zL (.int .u8 (IntKind.u8.wrap (zF ((97:Int)+s1.2))))<|
  uR .s (e:=zR .u8) 5 [.int .u8 (IntKind.u8.wrap (zF ((97:Int)+s1.2)))] ([IntKind.u8.wrap (zF ((97:Int)+s1.2))]:List Int) (rC vI rN)<|fun p2 c2=>jsb .s (gk 0) u underlying68 underlying5 underlying9<|
 au
)<|uV<|uU<|uX<|uZ<|wS<|jA 2 u<|wC<|wW 0 0 u u<|
 au
abbrev z0Q:=@Cn.mk 18 0 _ @zTp
attribute [instance] zYh zPK z0Q
theorem zQS{y0:vH}: zN qd prog 7 [pt b1 0] [bx b1 75 (zCH y0 p1 c1)] (zCB y0 p1 c1 []) (zJG y0) fun r K=>∀ p2 c2 p3 c3 p4 c4 p5 c5,K (.agg (zQQ r.1 p2 c2 p3 c3 p4 c4 p5 c5).toArray) [bx b1 75 [sv p1 y0.1 c1,vi r.2]] (zPz r.1 p2 c2 p3 c3 p4 c4 p5 c5 []) :=
 zS call7 func7 u fun X=>zG<|qN .s (.agg k5)<|fun b2=>zI<|zG<|zB 1 u<|qA .s [0] [] zCU u u u (cq [0])<|fun r1 _ k=>k<|wG zTp u d<|
  fun r2 _ k p2 c2=>k<|zB 1 u<|qA .s [0] [] zCU u u u (cq [1])<|fun r3 _ k=>k<|zB 1 u<|qA .s [0] [] zCU u u u (cq [1])<|fun r4 _ k=>k<|zB 1 u<|
  qA .s [0] [] zCU u u u (cq [1])<|fun r5 _ k=>k<|zL (.agg #[vi r4.1,vi r5.1])<|zB 1 u<|qA .s [0] [] zI7 u u u (cq [1])<|fun r6 _ k p3 c3 r_1 p4 c4 r_2 p5 c5=>k<|
  zL (.agg #[sv p2 r2 c2,vi r3.1,vi r4.1,vi r5.1,sv p3 r6.1.1 c3,sv p4 r6.1.2.1 c4,sv p5 r6.1.2.2 c5])<|qN .s (.agg k5)<|fun b3=>
  zV .s 4 u u u<|zI<|
  qX (fun s1 K=>∀ p6 c6 p7 c7 p8 c8,K [2,3] [(2,[]),(3,[]),(4,bx b3 49 [sv p2 r2 c2,vi r3.1,vi r4.1,vi r5.1,sv p6 s1.1 c6,sv p7 s1.2.1 c7,sv p8 s1.2.2 c8])] [4,3] [] [Rl zBG p6 c6 s1.1,Rl uC p7 c7 s1.2.1,Rl tO p8 c8 s1.2.2]) (
  zG<|qV 4 7 u u u<|wW 2 0 u u<|wW 3 2 u u<|
 au
)<|
 au
abbrev z5o:=@Cn.mk 7 0 _ @zQS
theorem zIa{y0:qZ}{y1:zA}{y2:List Int}{y3:Int}{y4:Int}: zN False prog 3 [.agg (zAg y0 p1 c1 p2 c2).toArray,vs y1,sv p3 y2 c3,vi y3,.int .u8 y4] [] (xV y0 p1 c1 p2 c2 [Rl (zR .i64) p3 c3 y2,Pt (z0U 9 wD) 0 0 zA0,vW 2,vW 3,Tb prog "internal/strconv.uint64pow10" .u64 Lib.pow10Tab]) (zCa y0 y1 y2 y3 y4) fun r K=>K (vb r) [] [] :=
 zS call3 func3 u fun X=>zG<|yB .s u<|fun b1=>zB 1 u<|zI<|zY<|qX (fun s1 K=>K [1,2,3,4,5] [] [2,0,1,3,4,5,6] [(40,vb s1)] []) (vD<|qV 0 22 u u u<|wG zOW u (cq [0,1])<|
  fun r1 _ k=>k<|zB 2 u<|wM 36 u (zB 3 u<|zL (vb true)<|wH<|qB (gv kk [0] (gq [2,0,1,3,4,5,6])))<|zB 3 u<|zL (vb (decide (400<(len y1))))<|wH<|qB (gv kk [0] (gq [2,0,1,3,4,5,6])))<|fun s1 _ k=>k<|
  zW u (zG<|wG zKI u (cq [3,4,5,6])<|fun r2 _ k=>k<|zB 1 u<|zI<|wC<|xY<|xJ u u kk [] d)<|jC<|zG<|zB 1 u<|wG zTt u (cq [0])<|fun r3 _ k b2 p4 c4=>k<|zB 1 u<|zI<|zG<|zB 1 u<|
  qA .s [1] [] zQS u u u (cq [0])<|fun r4 _ k p5 c5 p6 c6 p7 c7 p8 c8=>k<|qN .s (.agg k5)<|fun b3=>zV .s 2 u u u<|zI<|zG<|
  qV 2 7 u u u<|wG zSs u (cq [0,1,2,3])<|fun r5 _ k p9 c9 p10 c10 p11 c11 p12 c12 p13 c13 p14 c14 p15 c15 p16 c16 p17 c17 p18 c18 p19 c19 p20 c20=>k<|zB 3 u<|
  qN .s (.agg #[.slice none 0 0,vi 0,vi 0,vi 0,.slice none 0 0,.slice none 0 0,.slice none 0 0,.slice none 0 0,.slice none 0 0,.slice none 0 0,.slice none 0 0,.slice none 0 0,.slice none 0 0,.slice none 0 0,.slice none 0 0,vi 0])<|
  fun b4=>zV .s 3 u u u<|zB 1 u<|zI<|
  qX (fun s2 K=>∀ b5 b6 p21 c21 p22 c22 p23 c23 p24 c24,K [1,3,4,5] [(1,[]),(2,[]),(3,[]),(4,bx b5 34 (zAg s2.1 p21 c21 p22 c22)),(5,bx b6 34 (zAg s2.2 p23 c23 p24 c24))] [18,19,20,21,22,23] [(15,pt b5 0),(16,pt b6 0)] (xV s2.1 p21 c21 p22 c22 (xV s2.2 p23 c23 p24 c24 []))) (
  uG [] [3] 10<|zQ 9 [0] u<|yZ 1 3 16 u u u u<|zQ 7 [3] u<|yZ 4 3 16 u u u u<|jd3 2 6 7 (qA (.f u) [1] [] zEx u u u (cq [16,0,1,2,3,4,5,6,7,8,9,10,11])<|fun r6 _ k p25 c25 p26 c26=>k<|
  zM<|jd3 5 6 7 (qA (.f u) [1] [] zBb u u u (cq [18,2,3,4,5,6,7,8,9,10,11,12,13])<|fun r7 _ k p27 c27 p28 c28=>k<|zM<|tB 6 7 (
  qN (.f u) (.agg k0)<|fun b7=>zM<|zT 7<|
  qN (.f u) (.agg k0)<|fun b8=>zM<|zT 8<|
  zV (o:=0) (.f u) 4 u u u<|zM<|zT 9<|zV (o:=0) (.f u) 5 u u u<|zM<|qI<|qB (gv (fun _ k=>k b7 b8 p25 c25 p26 c26 p27 c27 p28 c28) [0,901,902,903,4,5] (gq [2,3,0,1,22,23,24,25,26,27]))) <|
  qN (.f u) (.agg k0)<|fun b9=>zM<|zT 6<|
  qN (.f u) (.agg k0)<|fun b10=>zM<|zT 8<|
  zV (o:=0) (.f u) 5 u u u<|zM<|zT 9<|zV (o:=0) (.f u) 4 u u u<|zM<|qI<|qB (gv (fun _ k=>k b10 b9 p25 c25 p26 c26 p27 c27 p28 c28) [0,901,902,903,5,4] (gq [2,3,0,1,22,23,24,25,26,27]))) (
  qN (.f u) (.agg k0)<|fun b11=>zM<|tB 5 7 (
  qA (.f u) [1] [] zBb u u u (cq [18,2,3,4,5,6,7,8,9,10,11,12,13])<|fun r8 _ k p29 c29 p30 c30=>k<|zM<|zT 7<|
  qN (.f u) (.agg k0)<|fun b12=>zM<|zT 8<|
  zV (o:=0) (.f u) 4 u u u<|zM<|zT 9<|zV (o:=0) (.f u) 5 u u u<|zM<|qI<|qB (gv (fun _ k=>k b11 b12 p25 c25 p26 c26 p29 c29 p30 c30) [0,901,902,903,4,5] (gq [2,3,0,1,22,23,24,25,26,27]))) <|
  qN (.f u) (.agg k0)<|fun b13=>zM<|zT 5<|
  qA (.f u) [1] [] zBb u u u (cq [18,2,3,4,5,6,7,8,9,10,11,12,13])<|fun r9 _ k p31 c31 p32 c32=>k<|zM<|zT 8<|zV (o:=0) (.f u) 4 u u u<|zM<|zT 9<|zV (o:=0) (.f u) 5 u u u<|zM<|qI<|
  qB (gv (fun _ k=>k b11 b13 p25 c25 p26 c26 p31 c31 p32 c32) [0,901,902,903,4,5] (gq [2,3,0,1,22,23,24,25,26,27]))) <|
  qN (.f u) (.agg k0)<|fun b14=>zM<|tB 5 6 (
  qA (.f u) [1] [] zBb u u u (cq [18,2,3,4,5,6,7,8,9,10,11,12,13])<|fun r10 _ k p33 c33 p34 c34=>k<|zM<|zT 6<|
  qN (.f u) (.agg k0)<|fun b15=>zM<|zT 8<|
  zV (o:=0) (.f u) 5 u u u<|zM<|zT 9<|zV (o:=0) (.f u) 4 u u u<|zM<|qI<|qB (gv (fun _ k=>k b15 b14 p25 c25 p26 c26 p33 c33 p34 c34) [0,901,902,903,5,4] (gq [2,3,0,1,22,23,24,25,26,27]))) <|
  qN (.f u) (.agg k0)<|fun b16=>zM<|zT 5<|
  qA (.f u) [1] [] zBb u u u (cq [18,2,3,4,5,6,7,8,9,10,11,12,13])<|fun r11 _ k p35 c35 p36 c36=>k<|zM<|zT 8<|zV (o:=0) (.f u) 5 u u u<|zM<|zT 9<|zV (o:=0) (.f u) 4 u u u<|zM<|qI<|
  qB (gv (fun _ k=>k b16 b14 p25 c25 p26 c26 p35 c35 p36 c36) [0,901,902,903,5,4] (gq [2,3,0,1,22,23,24,25,26,27]))) (
  qN (.f u) (.agg k0)<|fun b17=>zM<|tB 2 7 (
  qA (.f u) [1] [] zEx u u u (cq [16,0,1,2,3,4,5,6,7,8,9,10,11])<|fun r12 _ k p37 c37 p38 c38=>k<|zM<|tB 5 7 (qA (.f u) [1] [] zBb u u u (cq [18,2,3,4,5,6,7,8,9,10,11,12,13])<|
  fun r13 _ k p39 c39 p40 c40=>k<|zM<|zT 7<|qN (.f u) (.agg k0)<|
  fun b18=>zM<|zT 8<|zV (o:=0) (.f u) 4 u u u<|zM<|zT 9<|zV (o:=0) (.f u) 5 u u u<|zM<|qI<|qB (gv (fun _ k=>k b17 b18 p37 c37 p38 c38 p39 c39 p40 c40) [0,901,902,903,4,5] (gq [2,3,0,1,22,23,24,25,26,27]))) <|
  qN (.f u) (.agg k0)<|fun b19=>zM<|zT 5<|
  qA (.f u) [1] [] zBb u u u (cq [18,2,3,4,5,6,7,8,9,10,11,12,13])<|fun r14 _ k p41 c41 p42 c42=>k<|zM<|zT 8<|zV (o:=0) (.f u) 4 u u u<|zM<|zT 9<|zV (o:=0) (.f u) 5 u u u<|zM<|qI<|
  qB (gv (fun _ k=>k b17 b19 p37 c37 p38 c38 p41 c41 p42 c42) [0,901,902,903,4,5] (gq [2,3,0,1,22,23,24,25,26,27]))) <|
  qN (.f u) (.agg k0)<|fun b20=>zM<|zT 2<|
  qA (.f u) [1] [] zEx u u u (cq [16,0,1,2,3,4,5,6,7,8,9,10,11])<|fun r15 _ k p43 c43 p44 c44=>k<|zM<|zT 5<|qA (.f u) [1] [] zBb u u u (cq [18,2,3,4,5,6,7,8,9,10,11,12,13])<|fun r16 _ k p45 c45 p46 c46=>
  k<|zM<|zT 8<|zV (o:=0) (.f u) 4 u u u<|zM<|zT 9<|zV (o:=0) (.f u) 5 u u u<|zM<|qI<|qB (gv (fun _ k=>k b17 b20 p43 c43 p44 c44 p45 c45 p46 c46) [0,901,902,903,4,5] (gq [2,3,0,1,22,23,24,25,26,27]))) <|
  qN (.f u) (.agg k0)<|fun b21=>zM<|tB 2 6 (
  qA (.f u) [1] [] zEx u u u (cq [16,0,1,2,3,4,5,6,7,8,9,10,11])<|fun r17 _ k p47 c47 p48 c48=>k<|zM<|tB 5 6 (qA (.f u) [1] [] zBb u u u (cq [18,2,3,4,5,6,7,8,9,10,11,12,13])<|
  fun r18 _ k p49 c49 p50 c50=>k<|zM<|zT 6<|qN (.f u) (.agg k0)<|
  fun b22=>zM<|zT 8<|zV (o:=0) (.f u) 5 u u u<|zM<|zT 9<|zV (o:=0) (.f u) 4 u u u<|zM<|qI<|qB (gv (fun _ k=>k b22 b21 p47 c47 p48 c48 p49 c49 p50 c50) [0,901,902,903,5,4] (gq [2,3,0,1,22,23,24,25,26,27]))) <|
  qN (.f u) (.agg k0)<|fun b23=>zM<|zT 5<|
  qA (.f u) [1] [] zBb u u u (cq [18,2,3,4,5,6,7,8,9,10,11,12,13])<|fun r19 _ k p51 c51 p52 c52=>k<|zM<|zT 8<|zV (o:=0) (.f u) 5 u u u<|zM<|zT 9<|zV (o:=0) (.f u) 4 u u u<|zM<|qI<|
  qB (gv (fun _ k=>k b23 b21 p47 c47 p48 c48 p51 c51 p52 c52) [0,901,902,903,5,4] (gq [2,3,0,1,22,23,24,25,26,27]))) <|
  qN (.f u) (.agg k0)<|fun b24=>zM<|zT 2<|
  qA (.f u) [1] [] zEx u u u (cq [16,0,1,2,3,4,5,6,7,8,9,10,11])<|fun r20 _ k p53 c53 p54 c54=>k<|zM<|zT 5<|qA (.f u) [1] [] zBb u u u (cq [18,2,3,4,5,6,7,8,9,10,11,12,13])<|fun r21 _ k p55 c55 p56 c56=>
  k<|zM<|zT 8<|zV (o:=0) (.f u) 5 u u u<|zM<|zT 9<|zV (o:=0) (.f u) 4 u u u<|zM<|qI<|qB (gv (fun _ k=>k b24 b21 p53 c53 p54 c54 p55 c55 p56 c56) [0,901,902,903,5,4] (gq [2,3,0,1,22,23,24,25,26,27])))<|
  fun s2 _ k b5 b6 p21 c21 p22 c22 p23 c23 p24 c24=>k<|z7h (fun s3 K=>K [1,3,4,16] [(0,[]),(4,[])] [2,3,6,7,8,9] [] []) (zG<|qV 0 22 u u u<|
  qV 4 22 u u u<|qV 5 22 u u u<|
  uR .s (e:=zD4) 34 [vi y0.1,vi y0.2.1,vi y0.2.2.1,vi y0.2.2.2.1,vs (a4 y0).1,vi (a5 y0).1.1,vi (a5 y0).1.2.1,vi (a5 y0).1.2.2.1,vb (a5 y0).1.2.2.2.1.1,vs (a5 y0).1.2.2.2.1.2,sv p1 (a5 y0).1.2.2.2.2 c1,vb (a6 y0).1.1,vs (a6 y0).1.2,vi (a7 y0).1.1,vi (a7 y0).1.2,vi (a8 y0).1.1,vi (a8 y0).1.2.1,vi (a8 y0).1.2.2.1,vi (a8 y0).1.2.2.2,vi ((fv (a9 y0)).1),vs ((fv (a9 y0)).2.1),sv p2 ((fv (a9 y0)).2.2) c2,vi s2.1.1,vi s2.1.2.1,vi s2.1.2.2.1,vi s2.1.2.2.2.1,vs s2.1.2.2.2.2.1,vi s2.1.2.2.2.2.2.1.1,vi s2.1.2.2.2.2.2.1.2.1,vi s2.1.2.2.2.2.2.1.2.2.1,vb s2.1.2.2.2.2.2.1.2.2.2.1.1,vs s2.1.2.2.2.2.2.1.2.2.2.1.2,sv p21 s2.1.2.2.2.2.2.1.2.2.2.2 c21,vb s2.1.2.2.2.2.2.2.1.1,vs s2.1.2.2.2.2.2.2.1.2,vi s2.1.2.2.2.2.2.2.2.1.1,vi s2.1.2.2.2.2.2.2.2.1.2,vi s2.1.2.2.2.2.2.2.2.2.1.1,vi s2.1.2.2.2.2.2.2.2.2.1.2.1,vi s2.1.2.2.2.2.2.2.2.2.1.2.2.1,vi s2.1.2.2.2.2.2.2.2.2.1.2.2.2,vi ((fv s2.1.2.2.2.2.2.2.2.2.2).1),vs ((fv s2.1.2.2.2.2.2.2.2.2.2).2.1),sv p22 ((fv s2.1.2.2.2.2.2.2.2.2.2).2.2) c22,vi s2.2.1,vi s2.2.2.1,vi s2.2.2.2.1,vi (a4 s2).1,vs (a5 s2).1,vi (a6 s2).1.1,vi (a6 s2).1.2.1,vi (a6 s2).1.2.2.1,vb (a6 s2).1.2.2.2.1.1,vs (a6 s2).1.2.2.2.1.2,sv p23 (a6 s2).1.2.2.2.2 c23,vb (a7 s2).1.1,vs (a7 s2).1.2,vi (a8 s2).1.1,vi (a8 s2).1.2,vi (a9 s2).1.1,vi (a9 s2).1.2.1,vi (a9 s2).1.2.2.1,vi (a9 s2).1.2.2.2,vi ((fv (wE s2)).1),vs ((fv (wE s2)).2.1),sv p24 ((fv (wE s2)).2.2) c24] ([y0,s2.1,s2.2]:List qZ) (rC (vP vI (vP vI (vP vI (vP vI (vP vS (vP (vP vI (vP vI (vP vI (vP (vP vB vS) (vL (gk 4)))))) (vP (vP vB vS) (vP (vP vI vI) (vP (vP vI (vP vI (vP vI vI))) (vF (vP vI (vP vS (vL (gk 5)))))))))))))) (rC (vP vI (vP vI (vP vI (vP vI (vP vS (vP (vP vI (vP vI (vP vI (vP (vP vB vS) (vL (gk 0)))))) (vP (vP vB vS) (vP (vP vI vI) (vP (vP vI (vP vI (vP vI vI))) (vF (vP vI (vP vS (vL (gk 1)))))))))))))) (rC (vP vI (vP vI (vP vI (vP vI (vP vS (vP (vP vI (vP vI (vP vI (vP (vP vB vS) (vL (gk 2)))))) (vP (vP vB vS) (vP (vP vI vI) (vP (vP vI (vP vI (vP vI vI))) (vF (vP vI (vP vS (vL (gk 3)))))))))))))) rN)))<|
  fun p57 c57=>zB 2 u<|zI<|qP<|
  vN (fun s4 K=>K [1,3,4,16,60,61] [(0,[]),(4,[])] [0,3,4,7,8,9,10] [(62,vi s4)] []) (gv kk [900,901,902,903,904,5] (gq [0,3,4,7,8,9,10]))<|
  fun s4 _ k=>k<|jA 1 u<|zY<|zW u (jC<|zY<|qP<|zG<|tA 0 u u u<|fun x1 b25 o1=>tG true zJS (gk 0) u<|fun p59 c59 p58 c58=>
  qN .s (.agg k0)<|fun b26=>zV .s 6 u u u<|zI<|zG<|
  qV 6 22 u u u<|wG zHp u (cq [0,1,6,7,8,9])<|fun r22 _ k=>k<|zB 5 u<|zI<|zG<|qV 6 22 u u u<|wG zHS u (cq [0,1])<|fun r23 _ k=>k<|zB 5 u<|zI<|
  z1H (fun K=>K [1,3,4,16,60,61,62] [(6,[])] [3,4,5,6,7,8,9] [(83,vb ((r22.2 != r23.2)||(!(r22.1==r23.1))))] []) (
  vD<|zB 4 u<|jsp (b:=r22.2 != r23.2) 79 u (fun hb2=>zB 3 u<|zL (vb true)<|wH<|jup 83 (vb ((r22.2 != r23.2)||(!(r22.1==r23.1)))) u (by rw[hb2];rfl)<|qB (gv kk [900,901,902,903,904,5,906] (gq [3,4,5,6,7,8,9]))
  )<|fun hb2=>zB 3 u<|zL (vb (!(r22.1==r23.1)))<|wH<|jup 83 (vb ((r22.2 != r23.2)||(!(r22.1==r23.1)))) u (by rw[hb2];rfl)<|qB (gv kk [900,901,902,903,904,5,906] (gq [3,4,5,6,7,8,9])))<|fun _ k=>k<|zW u (jA 1 u<|
  wC<|jbr<|xY<|jlr<|jbr<|jlr<|xJ u u kk [] d)<|uW<|yT<|wS<|jB 2 u<|jln (gv kk [900,901,902,903,904,5] (gq [0,1,2,3,4,5,6])))<|uV<|uU<|uX<|uZ<|
  jln (gv kk [900,901,902,903,904,5] (gq [1,2,3,4,5,6])))<|fun s3 _ k=>k<|zG<|qV 5 22 u u u<|wG zHS u (cq [0,1])<|fun r24 _ k=>k<|zB 5 u<|zI<|zG<|zB 4 u<|wG zPH u d<|fun r25 _ k=>k<|zB 1 u<|
  zI<|zG<|zB 1 u<|jby .s u underlying9 underlying68 underlying5<|fun r_1 p60 c60=>zB 1 u<|zI<|
  qX (fun s5 K=>∀ r_2,K [1,23,25,26] [(5,[]),(6,r_2)] [3,4,5,6] [] [Byr 5 r_2 p60 (List.length r24.1) s5]) (jA 4 u<|
  zW u (vD<|zB 2 u<|jbyJ 0 u u u<|fun x2 h1 b27 hp1=>jbyl 6 0 u u hp1 h1 u<|zB 2 u<|jbyJ 0 u u u<|fun x3 h2 b28 hp2=>jbys .s 6 0 u u hp2 u u<|fun x4 r_3=>wH<|
  qB (gv (fun _ k=>k r_3) [900,901,902,903,904,905,6] (gq [0,4,5,6,7])))<|uW<|qB (gv (fun _ k=>k r_1) [900,901,902,903,904,905,6] (gq [0,3,4,5,6])))<|fun s5 _ k r_2=>k<|
  z7h (fun s6 K=>K [] [(6,[])] [1,2,3,4] [] []) (jds [] [] 29<|zQ 24 [0,1,2,4,5] u<|yW fun x5 h3=>
  xN 6 u (fun h=>zMw h u underlying9 u u (.inl ⟨rfl,rfl⟩) (.inr ⟨_,rfl⟩) h3)<|yW fun x6 h4=>xN 7 u (fun h=>zJz h u u h4)<|zQ 20 [8,9] u<|yW fun x7 h5=>
  xN 10 u (fun h=>zMw h u underlying9 u u (.inr ⟨_,rfl⟩) (.inl ⟨rfl,rfl⟩) h5)<|yW fun x8 h6=>xN 11 u (fun h=>zJz h u u h6)<|zQ 16 [12,13] u<|yW fun x9 h7=>
  xN 14 u (fun h=>zMw h u underlying9 u u (.inl ⟨rfl,rfl⟩) (.inr ⟨_,rfl⟩) h7)<|zQ 14 [15] u<|yW fun x10 h8=>xN 16 u (fun h=>zJz h u u h8)<|zQ 11 [17,18] u<|yW fun x11 h9=>
  xN 19 u (fun h=>zMw h u underlying9 u u (.inr ⟨_,rfl⟩) (.inl ⟨rfl,rfl⟩) h9)<|yW fun x12 h10=>xN 20 u (fun h=>zJz h u u h10)<|zQ 7 [21,22] u<|yW fun x13 h11=>
  xN 23 u (fun h=>zMw h u underlying9 u u (.inl ⟨rfl,rfl⟩) (.inr ⟨_,rfl⟩) h11)<|zQ 5 [24] u<|yW fun x14 h12=>xN 25 u (fun h=>zJz h u u h12)<|zQ 3 [28] u<|zT 3<|
  jbyS (i:=6) (.f u) 0 u u u underlying68 underlying5 underlying9<|zM<|zT 26<|
  uR (.f u) (e:=wD) 9 [vs y1,vs r24.1,vs s5,vs x8,vs x12,vs x13,vs x14] ([y1,r24.1,s5,x8,x12,x13,x14]:List zA) (rC vS (rC vS (rC vS (rC vS (rC vS (rC vS (rC vS rN)))))))<|fun p61 c61=>zM<|zQ 0 [27] u<|qI<|wS<|qP<|
  vN (fun s7 K=>K [134,135] [(6,[])] [0,2,3,4,5] [(136,vi s7)] []) (gv kk [900,901,902,903,904,905,906] (gq [0,2,3,4,5]))<|fun s7 _ k=>k<|jA 1 u<|zY<|
  zW u (jC<|zY<|qP<|zG<|tA 0 u u u<|fun x15 b29 o2=>tG false oS (gk 0) u<|zB 1 u<|zI<|zG<|zB 1 u<|wG zCy rfl (cq [2,3,4,5])<|fun r26 _ k p62 c62 p63 c63=>k<|zB 3 u<|
  qN .s (.agg k0)<|fun b30=>zV .s 7 u u u<|zB 1 u<|zI<|zG<|
  zB 1 u<|wG zJh u d<|fun r27 _ k p64 c64 p65 c65=>k<|zB 3 u<|
  qN .s (.agg k0)<|fun b31=>zV .s 8 u u u<|zB 1 u<|zI<|
  qX (fun s8 K=>K [134,135,136] [(7,[]),(8,[])] [5,6,7,8,9] [(158,vb s8)] []) (vD<|zB 4 u<|wM 153 u (zB 4 u<|zL (vb true)<|wH<|
  qB (gv kk [900,901,902,903,904,905,906,907,908] (gq [5,6,7,8,9])))<|qV 7 22 u u u<|qV 8 22 u u u<|wG zQB u (cq [2,3,0,1])<|fun r28 _ k=>k<|zB 1 u<|zL (vb (!r28))<|wH<|
  qB (gv kk [900,901,902,903,904,905,906,907,908] (gq [5,6,7,8,9])))<|fun s8 _ k=>k<|zW u (jA 1 u<|wC<|jbr<|xY<|jlr<|jbr<|jlr<|xJ u u kk [] d)<|uW<|yT<|wS<|jB 2 u<|
  jln (gv kk [900,901,902,903,904,905,906] (gq [0,1,2,3,4])))<|uV<|uU<|uX<|uZ<|jln (gv kk [900,901,902,903,904,905,906] (gq [1,2,3,4])))<|fun s6 _ k=>k<|zG<|wG zKI u (cq [0,1,2,3])<|fun r29 _ k=>k<|
  zB 1 u<|zI<|wC<|xJ u u kk [] d
abbrev zXm:=@Cn.mk 3 0 _ @zIa
end Go.Proofs.YtcoildnkgkbjfaaGreatDoor
