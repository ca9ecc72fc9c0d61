/- A part. Conditions: none. -/
import Derived.Test.YtmpieaddiaihmaaGreatDoorWalk1
namespace Go.Proofs.YtmpieaddiaihmaaGreatDoor
open Go Go.GD Go.Proofs.Tryz
set_option autoImplicit false
set_option linter.unusedVariables false
set_option maxRecDepth 100000
set_option linter.defProp false
variable {qd:Prop}
variable {yl1:Nat}{p1 p2 p3 p4 p5 p6 p7 p8 p9:Option Addr}{c1 c2 c3 c4 c5 c6 c7 c8 c9:Nat}{b1 b2 b3 b4 b5 b6 b7 b8 b9 b10 b11:Nat}{r_1 r_2 r_3 r_4 r_5 r_6:zJ}
attribute [instance] zV1 zOk zQl
theorem zPO{y0:yN}{y1:Int}: zP qd prog 328 [pt b1 0,vi y1] [bx b1 282 (yL [vi y0.1,sv p1 y0.2.1 c1] 40 y0.2.2.1 [sv p2 y0.2.2.2.1 c2,vb (a4 y0)]),r_1] [Rl (qA (zC .i64)) p1 c1 y0.2.1,Al (qA (zC .i64)) 22 r_1 p2 c2 y0.2.2.2.1] (zDv y0 y1) fun r K=>∀ p3 c3 r_2,K (.tuple #[]) [bx b1 282 (yL [vi y0.1,sv p1 y0.2.1 c1] 40 r.1 [sv p3 r.2 c3,vb (a4 y0)]),r_2] [Al (qA (zC .i64)) 22 r_2 p3 c3 r.2] :=
 zN call328 func328 u fun X=>zH<|zA 2 u<|qB 1 u<|qG 0 u u u<|zA 1 u<|yJ 0 u u u<|fun x1 b2 o1=>yU false oL (gk 0) u<|fun p3 c3=>zA 2 u<|zK<|
  wC (fun s1 K=>K [0,4] [(0,bx b1 282 (yL [vi y0.1,sv p1 y0.2.1 c1] 40 s1.2 [sv p2 y0.2.2.2.1 c2,vb (a4 y0)]))] [0,2,3] [(5,vi s1.1)] []) (zH<|zA 3 u<|qB 2 u<|jiL 40 u u<|fun u1 h1=>
  jlL 0 40 y0.2.2.1 [vi y0.1,sv p1 y0.2.1 c1] [sv p2 y0.2.2.2.1 c2,vb (a4 y0)] h1 u u<|zK<|zX<|jA 2 u<|zS u (jA 3 u<|zX<|
  wD (fun s2 K=>K [0,4,5,26,27] [(0,bx b1 282 (yL [vi y0.1,sv p1 y0.2.1 c1] 40 s2.2 [sv p2 y0.2.2.2.1 c2,vb (a4 y0)]))] [0,2,3] [(28,vi s2.1)] []) (gv kk [0,1] (gq [0,2,3]))<|fun s2 _ k=>k<|jA 1 u<|zQ<|zS u (jC<|
  zQ<|zX<|zH<|yJ 0 u u u<|fun x2 b3 o2=>yU false oI (gk 0) u<|zA 1 u<|zK<|xY [10] [0] 11<|zW 8 [0,1,2] u<|qR 3 2 u u<|jdiL 40 4 u u u<|fun u2 h2=>
  jdlL 5 0 40 s2.2 [vi y0.1,sv p1 y0.2.1 c1] [sv p2 y0.2.2.2.1 c2,vb (a4 y0)] h2 u u u<|zW 3 [6,7] u<|qR 8 2 u u<|jdiL 40 9 u u u<|fun u3 h3=>qM 10<|
  jsL (vY .i64 (uB s2.2 x2) 4) (.f u) 0 40 s2.2 [vi y0.1,sv p1 y0.2.1 c1] [sv p2 y0.2.2.2.1 c2,vb (a4 y0)] h3 u u u<|jdb [] [0]<|qT<|
 au
)<|
 au
)<|jA 2 u<|zS u (
 au
)<|jA 2 u<|zS u (
  wC (fun s3 K=>K [0,4] [(0,bx b1 282 (yL [vi y0.1,sv p1 y0.2.1 c1] 40 s3 [sv p2 y0.2.2.2.1 c2,vb (a4 y0)]))] [0,2,3] [] []) (jA 3 u<|zX<|
  wD (fun s4 K=>K [0,4,47,48] [(0,bx b1 282 (yL [vi y0.1,sv p1 y0.2.1 c1] 40 s4.2 [sv p2 y0.2.2.2.1 c2,vb (a4 y0)]))] [0,2,3] [(49,vi s4.1)] []) (gv kk [0,1] (gq [0,2,3]))<|fun s4 _ k=>k<|jA 1 u<|zQ<|zS u (jC<|zQ<|
  zX<|zH<|yJ 0 u u u<|fun x3 b4 o3=>yU false oI (gk 0) u<|zA 1 u<|zK<|xY [10] [0] 11<|zW 8 [0,1,2] u<|qR 3 2 u u<|jdiL 40 4 u u u<|fun u4 h4=>
  jdlL 5 0 40 s4.2 [vi y0.1,sv p1 y0.2.1 c1] [sv p2 y0.2.2.2.1 c2,vb (a4 y0)] h4 u u u<|zW 3 [6,7] u<|qR 8 2 u u<|jdiL 40 9 u u u<|fun u5 h5=>qM 10<|
  jsL (vY .i64 (uB s4.2 x3) 12) (.f u) 0 40 s4.2 [vi y0.1,sv p1 y0.2.1 c1] [sv p2 y0.2.2.2.1 c2,vb (a4 y0)] h5 u u u<|jdb [] [0]<|qT<|
 au
)<|
 au
)<|
 au
)<|
 au
)<|fun s1 _ k=>k<|zH<|zA 3 u<|
  qL .s [0,1] [] zL8 u u u (cq [1,2,0])<|fun r1 _ k p4 c4=>k<|zA 1 u<|zK<|jA 3 u<|zS u (xY [13] [0] 14<|zW 12 [0,1] u<|jdi 2 0 u u u u<|fun x4 b5 o4=>
  jdl 3 false oI u (gk 0) u<|zW 9 [4] u<|qR 5 2 u u<|jdiL 40 6 u u u<|fun u6 h6=>jdlL 7 0 40 s1.2 [vi y0.1,sv p1 y0.2.1 c1] [sv p2 y0.2.2.2.1 c2,vb (a4 y0)] h6 u u u<|zW 3 [8,9,10] u<|qR 11 2 u u<|
  jdiL 40 12 u u u<|fun u7 h7=>qM 13<|jsL (vY .i64 (uB s1.2 x4) s1.1) (.f u) 0 40 s1.2 [vi y0.1,sv p1 y0.2.1 c1] [sv p2 y0.2.2.2.1 c2,vb (a4 y0)] h7 u u u<|jdb [] [0]<|qT<|
 au
)<|
 au
abbrev zPF:=@Cn.mk 328 0 _ @zPO
theorem zTI{y0:yN}{y1:List Int}{y2:Int}: wO qd prog 353 [pt b1 0,sv p3 y1 c3,vi y2] [bx b1 282 (yL [vi y0.1,sv p1 y0.2.1 c1] 40 y0.2.2.1 [sv p2 y0.2.2.2.1 c2,vb (a4 y0)])] [Rl (qA (zC .i64)) p1 c1 y0.2.1,Rl (qA (zC .i64)) p2 c2 y0.2.2.2.1,Rl (zC .i64) p3 c3 y1] (zC5 y0 y1 y2) fun L r K=>∀ p4 c4,K (sv p4 r c4) L [Rl (zC .i64) p4 c4 r] :=
 zN call353 func353 u fun X=>jA 1 u<|zH<|zA 1 u<|yX (zC .i64) 3 <|zK<|zQ<|jA 3 u<|zX<|
  wD (fun s1 K=>∀ p4 c4 r_1,K [0,2,10,11] [(1,r_1)] [3,1,2] [(7,sv p4 s1.1 c4),(12,vi s1.2)] [Al (zC .i64) 3 r_1 p4 c4 s1.1]) (gv (fun _ k=>k none 0 []) [0,1] (gq [0,3,1,2]))<|
  fun s1 _ k p4 c4 r_1=>k<|jA 1 u<|zQ<|zS u (jC<|zQ<|zX<|zH<|yJ 1 u u u<|fun x1 b2 o1=>yU false oI (gk 0) u<|zA 1 u<|zK<|zH<|zA 3 u<|qB 2 u<|jiL 40 u u<|fun u1 h1=>
  jlL 0 40 y0.2.2.1 [vi y0.1,sv p1 y0.2.1 c1] [sv p2 y0.2.2.2.1 c2,vb (a4 y0)] h1 u u<|
 au
)<|
 au
abbrev zSc:=@Cn.mk 353 1 _ @zTI
attribute [instance] zPF zSc
theorem zJy{y0:yN}{y1:Int}: wO qd prog 327 [pt b1 0,vi y1] [bx b1 282 (yL [vi y0.1,sv p1 y0.2.1 c1] 40 y0.2.2.1 [sv p2 y0.2.2.2.1 c2,vb (a4 y0)])] [Rl (qA (zC .i64)) p1 c1 y0.2.1,Rl (qA (zC .i64)) p2 c2 y0.2.2.2.1] (zDa y0 y1) fun L r K=>K (vi r) L [] :=
 zN call327 func327 u fun X=>hI 1 2 1 (fun(s1:Int) K=>K [0,5] [] [0,2,3] [(6,vi s1)] [])<|hI 1 4 1 (fun(s2:Int) K=>K [0,5] [] [0,1,2] [(6,vi s2)] [])<|hI 1 6 0 (fun(s3:Bool) K=>K [6] [] [1,2] [(43,vb s3)] [])<|
 au
abbrev zOo:=@Cn.mk 327 0 _ @zJy
theorem zTu{y0:List Int}{y1:Int}: zP qd prog 238 [sv p1 y0 c1,vi y1] [] [Rl (zC .i64) p1 c1 y0] (zEs y0 y1) fun r K=>K (vi r) [] [] :=
 zN call238 func238 u fun X=>hI 0 2 1 (fun(s1:Int) K=>K [0,1,7] [] [0] [(8,vi s1)] [])<|
 au
abbrev zT1:=@Cn.mk 238 0 _ @zTu
attribute [instance] zOo zT1
theorem zLr{y0:List Int}{y1:Int}: zP qd prog 159 [sv p1 y0 c1,vi y1] [] [Rl (zC .i64) p1 c1 y0] (zAg y0 y1) fun r K=>K (vb r) [] [] :=
 zN call159 func159 u fun X=>
 au
abbrev zQh:=@Cn.mk 159 0 _ @zLr
attribute [instance] zQh
theorem zOV{y0:yN}: zP qd prog 298 [pt b1 0] [bx b1 282 (yL [vi y0.1,sv p1 y0.2.1 c1] 40 y0.2.2.1 [sv p2 y0.2.2.2.1 c2,vb (a4 y0)]),r_1] [Rl (qA (zC .i64)) p1 c1 y0.2.1,Al (qA (zC .i64)) 22 r_1 p2 c2 y0.2.2.2.1] (zCb y0) fun r K=>∀ p3 c3 r_2,K (vb r.1) [bx b1 282 (yL [vi y0.1,sv p1 y0.2.1 c1] 40 r.2.1 [sv p3 r.2.2 c3,vb (a4 y0)]),r_2] [Al (qA (zC .i64)) 22 r_2 p3 c3 r.2.2] :=
 zN call298 func298 u fun X=>jA 1 u<|zX<|
  wD (fun s1 K=>∀ p3 c3 r_2,K [0] [(0,bx b1 282 (yL [vi y0.1,sv p1 y0.2.1 c1] 40 s1.1 [sv p3 s1.2 c3,vb (a4 y0)])),(1,r_2)] [0] [] [Al (qA (zC .i64)) 22 r_2 p3 c3 s1.2]) (gv (fun _ k=>k p2 c2 r_1) [0,1] (gq [1,0]))<|
  fun s1 _ k p3 c3 r_2=>k<|zX<|zH<|zA 2 u<|qB 2 u<|jlW 0 40 s1.1 [vi y0.1,sv p1 y0.2.1 c1] [sv p3 s1.2 c3,vb (a4 y0)] u u<|jalA .s (yL [] 40 (List.replicate 40 (0:Int)) [])<|fun b2=>
  jsW s1.1 .s 2 40 (List.replicate 40 (0:Int)) [] [] u u u<|zK<|
  jjoK (fun s2 K=>∀ p4 c4 r_3,K [0,3] [(0,bx b1 282 (yL [vi y0.1,sv p1 y0.2.1 c1] 40 s2.1 [sv p4 s2.2 c4,vb (a4 y0)])),(1,r_3)] [1] [] [Al (qA (zC .i64)) 22 r_3 p4 c4 s2.2]) (zH<|zA 2 u<|qB 0 u<|qG 0 u u u<|
  zA 1 u<|zK<|zX<|
  wD (fun s3 K=>∀ p5 c5 r_4,K [0,3,12] [(0,bx b1 282 (yL [vi y0.1,sv p1 y0.2.1 c1] 40 s3.2.1 [sv p5 s3.2.2 c5,vb (a4 y0)])),(1,r_4)] [1] [(13,vi s3.1)] [Al (qA (zC .i64)) 22 r_4 p5 c5 s3.2.2]) (gv (fun _ k=>k p3 c3 r_2) [0,1,2] (gq [0,1]))<|
  fun s3 _ k p5 c5 r_4=>k<|jA 1 u<|zQ<|zS u (jC<|zQ<|zX<|jA 2 u<|zQ<|uR [13] [0] 14<|zW 11 [0,1,2] u<|qR 3 2 u u<|jdiL 40 4 u u u<|fun u1 h1=>
  jdlL 5 0 40 s3.2.1 [vi y0.1,sv p1 y0.2.1 c1] [sv p5 s3.2.2 c5,vb (a4 y0)] h1 u u u<|zW 5 [6,7,10] u<|qR 11 2 u u<|qM 8<|qL (.f u) [0] [1] zJy rfl u u ⟨ck 1,cl 1 0,d⟩<|fun r1 _ k=>k<|qN<|
  zW 2 [9] u<|jdiL 40 12 u u u<|fun u2 h2=>qM 13<|jsL (vY .i64 (uB s3.2.1 s3.1) r1) (.f u) 0 40 s3.2.1 [vi y0.1,sv p1 y0.2.1 c1] [sv p5 s3.2.2 c5,vb (a4 y0)] h2 u u u<|jdb [] [0]<|qT<|qK<|zH<|zA 3 u<|
  qB 2 u<|jiL 40 u u<|fun u3 h3=>jlL 0 40 (tG 40 s3.2.1 s3.1 (vY .i64 (uB s3.2.1 s3.1) r1)) [vi y0.1,sv p1 y0.2.1 c1] [sv p5 s3.2.2 c5,vb (a4 y0)] h3 u u<|
 au
)<|
 au
)<|fun s2 _ k p4 c4 r_3=>k<|zQ<|uR [] [0] 9<|zW 7 [0,1] u<|qR 2 2 u u<|zW 4 [3,4] u<|
  qR 5 0 u u<|wS 6 0 u u u u<|jdasl (k:=40) 7 s2.1 u u u<|fun x1 h4=>qM 8<|qL (.f u) [] [0] zLr u u u ⟨cA 0 40 s2.1 [vi y0.1,sv p1 y0.2.1 c1] [sv p4 s2.2 c4,vb (a4 y0)] h4 rfl,d⟩<|
  fun r3 _ k=>k<|qN<|qT<|qK<|zS u (
 au
)<|jC<|uR [] [0,2] 6<|zW 4 [0,1] u<|qR 2 2 u u<|
  jdlW 3 0 40 s2.1 [vi y0.1,sv p1 y0.2.1 c1] [sv p4 s2.2 c4,vb (a4 y0)] u u u<|jdlW 4 2 40 s1.1 [] [] u u u<|
  xF (v:=vb (aeq 40 s2.1 s1.1)) 5 u (fun h=>r_eqArr h u u underlying280 underlying3 (by kernel_rfl) (by kernel_rfl) (by kernel_rfl) (by kernel_rfl))<|qT<|
 au
abbrev zOv:=@Cn.mk 298 0 _ @zOV
attribute [instance] zOv
theorem zOe (k:Nat):
    (∀ {y0:yN} {b1:Nat} {p1:Option Addr} {c1:Nat} {p2:Option Addr} {c2:Nat} {r_1:zJ},zP qd prog 255 [pt b1 0] [bx b1 282 (yL [vi y0.1,sv p1 y0.2.1 c1] 40 y0.2.2.1 [sv p2 y0.2.2.2.1 c2,vb (a4 y0)]),r_1] [Rl (qA (zC .i64)) p1 c1 y0.2.1,Al (qA (zC .i64)) 22 r_1 p2 c2 y0.2.2.2.1] (zDn k y0) fun r K=>∀ p3 c3 r_2,K (.tuple #[]) [bx b1 282 (yL [vi y0.1,sv p1 y0.2.1 c1] 40 r.1 [sv p3 r.2.1 c3,vb r.2.2]),r_2] [Al (qA (zC .i64)) 22 r_2 p3 c3 r.2.1]):=by
  induction k with
  | zero=>exact z9x call255
  | succ k ih =>
    have ih_search_finder_find:=@ih
    have zM5:=@Cn.mk 255 0 _ (@ih_search_finder_find)
    exact @fun y0 b1 p1 c1 p2 c2 r_1=>zN (m1:=zF6 (zDn k) y0) call255 func255 u fun X=>zQ<|wC (fun s1 K=>∀ p3 c3 r_2,K [0] [(0,bx b1 282 (yL [vi y0.1,sv p1 y0.2.1 c1] 40 s1.2.1 [sv p3 s1.2.2 c3,vb (a4 y0)])),(1,r_2)] [0] [(15,vb s1.1)] [Al (qA (zC .i64)) 22 r_2 p3 c3 s1.2.2]) (
 au
)<|fun s1 _ k p3 c3 r_2=>k<|zS u (
 au
)<|jC<|zH<|zA 1 u<|
  qL .s [0,1] [] zJt u u u (cq [1,0])<|fun r2 _ k p5 c5=>k<|zA 5 u<|zK<|zQ<|jA 2 u<|zS u (
 au
)<|jC<|zH<|zA 2 u<|qB 2 u<|jlW 0 40 s1.2.1 [vi y0.1,sv p1 y0.2.1 c1] [sv p3 s1.2.2 c3,vb (a4 y0)] u u<|
  jalA .s (yL [] 40 (List.replicate 40 (0:Int)) [])<|fun b2=>jsW s1.2.1 .s 2 40 (List.replicate 40 (0:Int)) [] [] u u u<|zK<|zH<|yI .s (e:=zC .i64) 3 [vi 2,vi 4,vi 8] ([2,4,8]:List Int) (rC vI (rC vI (rC vI rN)))<|
  fun p8 c8=>zA 2 u<|zK<|zX<|
  wD (fun s2 K=>∀ p9 c9 r_5,K [0,3,4,46,47] [(0,bx b1 282 (yL [vi y0.1,sv p1 y0.2.1 c1] 40 s1.2.1 [sv p9 s2.2.1 c9,vb s2.2.2])),(1,r_5)] [0,3] [(48,vi s2.1)] [Al (qA (zC .i64)) 22 r_5 p9 c9 s2.2.1]) (gv (fun _ k=>k p3 c3 r_2) [0,1,2] (gq [2,0,3]))<|
  fun s2 _ k p9 c9 r_5=>k<|jA 1 u<|zQ<|zS u (jC<|zQ<|zX<|zH<|yJ 1 u u u<|fun x2 b3 o1=>yU false oI (gk 0) u<|zA 1 u<|zK<|zH<|zA 1 u<|jiL 40 u u<|fun u1 h2=>jlL 2 40 s1.2.1 [] [] h2 u u<|zA 3 u<|zK<|
  zS u (zH<|zA 4 u<|qB 2 u<|jiL 40 u u<|fun u2 h3=>jsL x2 .s 0 40 s1.2.1 [vi y0.1,sv p1 y0.2.1 c1] [sv p9 s2.2.1 c9,vb s2.2.2] h3 u u u<|zK<|zH<|zA 1 u<|
  qL .s [0,1] [] ih_search_finder_find u u u (cq [3,1])<|fun r3 _ k p10 c10 r_6=>k<|zK<|vG<|zA 1 u<|jlW 2 40 s1.2.1 [] [] u u<|zA 1 u<|qB 2 u<|
  jsW s1.2.1 .s 0 40 r3.1 [vi y0.1,sv p1 y0.2.1 c1] [sv p10 r3.2.1 c10,vb r3.2.2] u u u<|
 au
)<|
 au
)<|
 au
theorem zM9{y0:yN}: zP qd prog 255 [pt b1 0] [bx b1 282 (yL [vi y0.1,sv p1 y0.2.1 c1] 40 y0.2.2.1 [sv p2 y0.2.2.2.1 c2,vb (a4 y0)]),r_1] [Rl (qA (zC .i64)) p1 c1 y0.2.1,Al (qA (zC .i64)) 22 r_1 p2 c2 y0.2.2.2.1] (zFc y0) fun r K=>∀ p3 c3 r_2,K (.tuple #[]) [bx b1 282 (yL [vi y0.1,sv p1 y0.2.1 c1] 40 r.1 [sv p3 r.2.1 c3,vb r.2.2]),r_2] [Al (qA (zC .i64)) 22 r_2 p3 c3 r.2.1]:=zVr fun k=>(zOe k)
abbrev zM5:=@Cn.mk 255 0 _ @zM9
theorem zLM{y0:zY}: zP qd prog 193 [.agg (wW y0 p1 c1).toArray] [] [Rl qH p1 c1 y0.2,Pt (wN 64 (zC .u8)) 3 0 vA] (zDI y0) fun r K=>∀ p2 c2,K (.tuple #[sv p2 r.1 c2,vi r.2]) [] [Rl (qA (zC .i64)) p2 c2 r.1] :=
 zN call193 func193 u fun X=>zH<|wR .s u<|fun b1=>zA 2 u<|zK<|zQ<|zH<|wQ 0 2 u u u<|wF zMW u (cq [0])<|fun r1 _ k=>k<|zA 1 u<|zK<|jA 2 u<|zS u (jA 3 u<|qO<|vD<|yD u (lT u (lT u lN)) (fun _ k=>k none 0) [] ⟨gn,d⟩)<|
  jC<|zH<|qB 0 u<|qG 0 u u u<|qE (.agg (yL [vi y0.1,.slice none 0 0] 40 (List.replicate 40 (0:Int)) [.slice none 0 0,vb false]).toArray)<|yX (qA (zC .i64)) 22<|yX (qA (zC .i64)) 22<|wR .s u<|fun b2=>
  zA 1 u<|zK<|wC (fun s1 K=>∀ p2 c2 r_1,K [5] [(0,[]),(1,r_1),(3,bx b2 282 (yL [vi y0.1,sv p2 s1.1 c2] 40 s1.2 [sv none ([]:List (List Int)) 0,vb false]))] [0,3] [] [Al (qA (zC .i64)) 22 r_1 p2 c2 s1.1]) (zH<|
  qB 0 u<|qG 0 u u u<|zA 1 u<|zK<|zX<|
  wD (fun s2 K=>∀ p3 c3 r_2,K [1,5,17] [(1,r_2),(3,bx b2 282 (yL [vi y0.1,sv p3 s2.2.1 c3] 40 s2.2.2 [sv none ([]:List (List Int)) 0,vb false]))] [2,0,3] [(18,vi s2.1)] [Al (qA (zC .i64)) 22 r_2 p3 c3 s2.2.1]) (gv (fun _ k=>k none 0 []) [0,1,2,3] (gq [1,2,0,3]))<|
  fun s2 _ k p3 c3 r_2=>k<|jA 1 u<|zQ<|zS u (jC<|zQ<|zX<|jA 2 u<|uR [12] [0,3] 13<|zW 10 [0,1,2] u<|qR 3 1 u u<|wS 4 3 u u u u<|uQ 5 0 2 u u u u<|zW 6 [6] u<|qM 7<|
  qL (.f u) [] [] zLL u u u (cq [1,3])<|fun r2 _ k p4 c4=>k<|qN<|qM 8<|yI (.f u) (e:=qA (zC .i64)) 22 [sv p4 r2 c4] ([r2]:List (List Int)) (rC (vL (gk 0)) rN)<|fun p5 c5=>qN<|qM 9<|
  uE (.f u) 1 2 u (gk 0) u u<|fun x1 r_3 p6 c6=>qN<|zW 2 [10] u<|qR 11 1 u u<|qM 12<|qU (o:=1) (.f u) 3 u u u<|jdb [] [0,3]<|qT<|qK<|vG<|zA 3 u<|qB 2 u<|jiL 40 u u<|fun u1 h2=>
  jsL 14 .s 3 40 s2.2.2 [vi y0.1,sv p6 x1 c6] [sv none ([]:List (List Int)) 0,vb false] h2 u u u<|wK<|vM<|qK<|jB 2 u<|yH (gv (fun _ k=>k p6 c6 r_3) [0,1,2,3] (gq [0,4,5,6])))<|uA<|yR<|yY<|yZ<|
  qI (gv (fun _ k=>k p3 c3 r_2) [900,1,2,3] (gq [0,2,3])))<|fun s1 _ k p2 c2 r_1=>k<|zH<|zA 1 u<|uI 1 0 u u<|qL .s [3,2] [] zM9 u u u (cq [0,2])<|fun r3 _ k p7 c7 r_4=>k<|zK<|zQ<|zH<|zA 2 u<|
  qB 43 u<|qG 3 u u u<|zK<|zS u (jA 2 u<|qO<|vD<|yD u (lT u (lT u lN)) (fun _ k=>k none 0) [] ⟨gn,d⟩)<|jC<|zH<|zA 2 u<|qB 42 u<|qG 3 u u u<|zA 2 u<|zK<|qO<|uI 2 0 u u<|
  yD u (lT u (lT u lN)) (fun _ k=>k p7 c7) [] (gq [0])
abbrev zVB:=@Cn.mk 193 0 _ @zLM
theorem zTc{y0:List Int}{y1:List Int}: zP qd prog 259 [sv p1 y0 c1,sv p2 y1 c2] [] [Rl (zC .i64) p1 c1 y0,Rl (zC .i64) p2 c2 y1] (zCJ y0 y1) fun r K=>∀ p3 c3,K (sv p3 r c3) [] [Rl (zC .i64) p3 c3 r] :=
 zN call259 func259 u fun X=>hR 5 0 (zC .i64) 3<|hI 0 3 1 (fun(s1:(List Int)×Int) K=>∀ p3 c3 r_1,K [0,8,9] [(0,.r r_1)] [1,2] [(5,sv p3 s1.1 c3),(10,vi s1.2)] [Al (zC .i64) 3 r_1 p3 c3 s1.1])<|
 au
abbrev zUP:=@Cn.mk 259 0 _ @zTc
theorem zRr{y0:Int}{y1:List Int}: wO qd prog 301 [vi y0,pt b1 0] [bx b1 22 [sv p1 y1 c1]] [Rl (zC .i64) p1 c1 y1] (zFa y0 y1) fun L r K=>K (vb r) L [] :=
 zN call301 func301 u fun X=>
 au
abbrev zRw:=@Cn.mk 301 0 _ @zRr
attribute [instance] zM5 zVB zUP zRw
theorem zHZ{y0:List Int}{y1:List Int}: wO qd prog 126 [sv p1 y0 c1,.func (.func 301) #[] #[pt b1 0]] [bx b1 22 [sv p2 y1 c2]] [Rl (zC .i64) p1 c1 y0,Rl (zC .i64) p2 c2 y1] (zAm y0 y1) fun L r K=>K (vi r) L [] :=
 zN call126 func126 u fun X=>hI 0 2 1 (fun(s1:Int) K=>K [0,1,7] [] [0,1] [(8,vi s1)] [])<|
 au
abbrev zHH:=@Cn.mk 126 0 _ @zHZ
attribute [instance] zHH
theorem zFi{y0:List Int}{y1:List Int}: wO qd prog 67 [sv p1 y0 c1,.func (.func 301) #[] #[pt b1 0]] [bx b1 22 [sv p2 y1 c2]] [Rl (zC .i64) p1 c1 y0,Rl (zC .i64) p2 c2 y1] (zAZ y0 y1) fun L r K=>K (vb r) L [] :=
 zN call67 func67 u fun X=>
 au
abbrev zFr:=@Cn.mk 67 0 _ @zFi
attribute [instance] zFr
theorem zTh{y0:List Int}{y1:List Int}: zP qd prog 258 [sv p1 y0 c1,sv p2 y1 c2] [] [Rl (zC .i64) p1 c1 y0,Rl (zC .i64) p2 c2 y1] (zFE y0 y1) fun r K=>K (vb r) [] [] :=
 zN call258 func258 u fun X=>hI 1 1 0 (fun(s1:Bool) K=>K [] [(0,.r [])] [] [(4,vb s1)] [])<|
 au
abbrev zUf:=@Cn.mk 258 0 _ @zTh
attribute [instance] zUf
theorem zPR{y0:List Int}{y1:List Int}: zP qd prog 257 [sv p1 y0 c1,sv p2 y1 c2] [] [Rl (zC .i64) p1 c1 y0,Rl (zC .i64) p2 c2 y1] (zDu y0 y1) fun r K=>K (vb r) [] [] :=
 zN call257 func257 u fun X=>
 au
abbrev zP2:=@Cn.mk 257 0 _ @zPR
attribute [instance] zP2
theorem zHi{y0:List Int}{y2:List Int}: wO qd prog 300 [sv p1 y0 c1,pt b1 0,pt b2 0] [bx b1 61 [.func (.func 257) #[] #[]],bx b2 22 [sv p2 y2 c2]] [Rl (zC .i64) p1 c1 y0,Rl (zC .i64) p2 c2 y2] (zAo y0 y2) fun L r K=>K (vb r) L [] :=
 zN call300 func300 u fun X=>
 au
abbrev zHd:=@Cn.mk 300 0 _ @zHi
attribute [instance] zHd
theorem zII{y0:List (List Int)}{y2:List Int}: wO qd prog 306 [sv p1 y0 c1,.func (.func 300) #[] #[pt b1 0,pt b2 0]] [bx b1 61 [.func (.func 257) #[] #[]],bx b2 22 [sv p2 y2 c2]] [Rl (qA (zC .i64)) p1 c1 y0,Rl (zC .i64) p2 c2 y2] (zAs y0 y2) fun L r K=>K (vi r) L [] :=
 zN call306 func306 u fun X=>hI 0 2 1 (fun(s1:Int) K=>K [0,1,7] [] [0,1] [(8,vi s1)] [])<|
 au
abbrev zIE:=@Cn.mk 306 1 _ @zII
attribute [instance] zIE
theorem zG4{y0:List (List Int)}{y2:List Int}: wO qd prog 264 [sv p1 y0 c1,.func (.func 300) #[] #[pt b1 0,pt b2 0]] [bx b1 61 [.func (.func 257) #[] #[]],bx b2 22 [sv p2 y2 c2]] [Rl (qA (zC .i64)) p1 c1 y0,Rl (zC .i64) p2 c2 y2] (zAe y0 y2) fun L r K=>K (vb r) L [] :=
 zN call264 func264 u fun X=>
 au
abbrev zGv:=@Cn.mk 264 1 _ @zG4
attribute [instance] zGv
theorem zI6{y0:zY}: zP qd prog 256 [.agg (wW y0 p1 c1).toArray,.func (.func 257) #[] #[]] [] [Rl qH p1 c1 y0.2,Pt (wN 64 (zC .u8)) 3 0 vA] (zBB y0) fun r K=>∀ p2 c2,K (.tuple #[sv p2 r.1 c2,vi r.2]) [] [Rl (qA (zC .i64)) p2 c2 r.1] :=
 zN call256 func256 u fun X=>hR 8 2 (qA (zC .i64)) 22<|hI 0 6 1 (fun(s1:(List (List Int))×Int) K=>∀ p3 c3 r_1,K [3,6,19,20] [(0,.r []),(2,.r r_1)] [1,3] [(8,sv p3 s1.1 c3),(21,vi s1.2)] [Al (qA (zC .i64)) 22 r_1 p3 c3 s1.1])<|
 au
abbrev zIS:=@Cn.mk 256 0 _ @zI6
attribute [instance] zIS
theorem zRX{y0:zY}: zP qd prog 194 [.agg (wW y0 p1 c1).toArray] [] [Rl qH p1 c1 y0.2,Pt (wN 64 (zC .u8)) 3 0 vA] (zDU y0) fun r K=>∀ p2 c2,K (.tuple #[sv p2 r.1 c2,vi r.2]) [] [Rl (qA (zC .i64)) p2 c2 r.1] :=
 zN call194 func194 u fun X=>
 au
abbrev zRT:=@Cn.mk 194 0 _ @zRX
theorem zSv{y0:zY}{y1:List Int}: zP qd prog 304 [.agg (wW y0 p1 c1).toArray,sv p2 y1 c2] [] [Rl qH p1 c1 y0.2,Rl (zC .i64) p2 c2 y1] (zEJ y0 y1) fun r K=>∀ p3 c3,K (sv p3 r c3) [] [Rl (zC .i64) p3 c3 r] :=
 zN call304 func304 u fun X=>zH<|wR .s u<|fun b1=>zA 1 u<|zK<|zH<|yI .s (e:=zC .i64) 3 [vi 3] ([3]:List Int) (rC vI rN)<|fun p3 c3=>qB 0 u<|qG 0 u u u<|wF zEG u (cq [0])<|fun r1 _ k p4 c4 r_1=>k<|zA 1 u<|zK<|
  wC (fun s1 K=>∀ r_2,K [1,2] [(1,r_2)] [3,2] [(5,.slice p4 (List.length r1) c4)] [Ar (zC .i64) 3 r_2 p4 c4 (List.length r1) s1]) (hI 0 3 1 (fun(s2:(List Int)×Int) K=>∀ r_3,K [1,2,15,16] [(1,.r r_3)] [3,2] [(5,.slice p4 (List.length r1) c4),(17,vi s2.2)] [Ar (zC .i64) 3 r_3 p4 c4 (List.length r1) s2.1])<|
 au
)<|fun s1 _ k r_2=>k<|zQ<|jA 3 u<|zX<|
  wD (fun s3 K=>∀ r_5,K [2,5,30,31] [(1,r_5)] [1,2] [(32,vi s3.2)] [Ar (zC .i64) 3 r_5 p4 c4 (List.length r1) s3.1]) (gv (fun _ k=>k r_2) [0,1] (gq [0,1,2]))<|
  fun s3 _ k r_5=>k<|jA 1 u<|zQ<|zS u (jC<|zQ<|zX<|zH<|yJ 1 u u u<|fun x3 b5 o3=>hP 4 11 0 (fun K=>K [2,5,9,30,31,32] [] [1,2,3] [(43,vb ((decide (0≤x3))&&(decide (x3<y0.1))))] [])<|
 au
)<|uA<|yR<|yY<|yZ<|qK<|jA 2 u<|qO<|uI 1 0 u u<|jre 0 4 u u<|
 au
abbrev zS6:=@Cn.mk 304 0 _ @zSv
attribute [instance] zRT zS6
theorem zJX{y0:zY}: zP qd prog 262 [.agg (wW y0 p1 c1).toArray,.func (.func 194) #[] #[]] [] [Rl qH p1 c1 y0.2,Pt (wN 64 (zC .u8)) 3 0 vA] (zBR y0) fun r K=>∀ p2 c2,K (.tuple #[sv p2 r.1 c2,vi r.2]) [] [Rl (zC .i64) p2 c2 r.1] :=
 zN call262 func262 u fun X=>hD 4 [] [0] (.l [0,1] (.f 2 (.f 3 (.l [4,5,6,7,8] .e))))<|
 au
abbrev zJ4:=@Cn.mk 262 0 _ @zJX
attribute [instance] zJ4
theorem z1i{y0:zY}: zP qd prog 197 [.agg (wW y0 p1 c1).toArray] [] [Rl qH p1 c1 y0.2,Pt (wN 64 (zC .u8)) 3 0 vA] (zNn y0) fun r K=>∀ p2 c2,K (.tuple #[sv p2 r.1 c2,vi r.2]) [] [Rl (zC .i64) p2 c2 r.1] :=
 zN call197 func197 u fun X=>
 au
abbrev z1O:=@Cn.mk 197 0 _ @z1i
attribute [instance] z1O
theorem zLu{y0:zY}: wO qd prog 253 [.agg (wW y0 p1 c1).toArray,pt b1 0] [bx b1 239 [.func (.func 197) #[] #[]]] [Rl qH p1 c1 y0.2,Pt (wN 64 (zC .u8)) 3 0 vA] (zCV y0) fun L r K=>∀ p2 c2,K (.tuple #[sv p2 r.1 c2,vi r.2]) L [Rl (qA (zC .i64)) p2 c2 r.1] :=
 zN call253 func253 u fun X=>
 au
abbrev zLy:=@Cn.mk 253 1 _ @zLu
attribute [instance] zLy
theorem zEb{y0:zY}: wO qd prog 254 [.agg (wW y0 p1 c1).toArray,pt b1 0] [bx b1 192 [.func (.func 253) #[] #[pt b2 0]],bx b2 239 [.func (.func 197) #[] #[]]] [Rl qH p1 c1 y0.2,Pt (wN 64 (zC .u8)) 3 0 vA] (zB8 y0) fun L r K=>∀ p2 c2,K (.tuple #[sv p2 r.1 c2,vi r.2]) L [Rl (qA (zC .i64)) p2 c2 r.1] :=
 zN call254 func254 u fun X=>hR 7 3 (qA (zC .i64)) 22<|hI 0 6 1 (fun(s1:(List (List Int))×Int) K=>∀ p3 c3 r_1,K [19,20] [(2,.r []),(3,.r r_1)] [1,3] [(7,sv p3 s1.1 c3),(21,vi s1.2)] [Al (qA (zC .i64)) 22 r_1 p3 c3 s1.1])<|
 au
abbrev zKF:=@Cn.mk 254 1 _ @zEb
theorem zPB{y0:List Int}{y1:List Int}: zP qd prog 261 [sv p1 y0 c1,sv p2 y1 c2] [] [Rl (zC .i64) p1 c1 y0,Rl (zC .i64) p2 c2 y1] (zD9 y0 y1) fun r K=>K (vb r) [] [] :=
 zN call261 func261 u fun X=>
 au
abbrev zOq:=@Cn.mk 261 0 _ @zPB
attribute [instance] zKF zOq
theorem zHQ{y0:List Int}{y2:List Int}: wO qd prog 300 [sv p1 y0 c1,pt b1 0,pt b2 0] [bx b1 61 [.func (.func 261) #[] #[]],bx b2 22 [sv p2 y2 c2]] [Rl (zC .i64) p1 c1 y0,Rl (zC .i64) p2 c2 y2] (zAi y0 y2) fun L r K=>K (vb r) L [] :=
 zN call300 func300 u fun X=>
 au
abbrev zHK:=@Cn.mk 300 1 _ @zHQ
attribute [instance] zHK
theorem zCv{y0:List (List Int)}{y2:List Int}: wO qd prog 306 [sv p1 y0 c1,.func (.func 300) #[] #[pt b1 0,pt b2 0]] [bx b1 61 [.func (.func 261) #[] #[]],bx b2 22 [sv p2 y2 c2]] [Rl (qA (zC .i64)) p1 c1 y0,Rl (zC .i64) p2 c2 y2] (zAn y0 y2) fun L r K=>K (vi r) L [] :=
 zN call306 func306 u fun X=>hI 0 2 1 (fun(s1:Int) K=>K [0,1,7] [] [0,1] [(8,vi s1)] [])<|
 au
abbrev zHU:=@Cn.mk 306 2 _ @zCv
theorem zCe{y0:List (List Int)}{y2:List Int}: wO qd prog 264 [sv p1 y0 c1,.func (.func 300) #[] #[pt b1 0,pt b2 0]] [bx b1 61 [.func (.func 261) #[] #[]],bx b2 22 [sv p2 y2 c2]] [Rl (qA (zC .i64)) p1 c1 y0,Rl (zC .i64) p2 c2 y2] (zA1 y0 y2) fun L r K=>K (vb r) L [] :=
 zN call264 func264 u fun X=>jA 1 u<|zH<|zA 2 u<|qL .s [0,1] [] zCv u u u (cq [0,1])<|fun r1 _ k=>k<|zA 2 u<|zK<|qO<|yB u u kk [0,1] d
abbrev zFs:=@Cn.mk 264 2 _ @zCe
theorem zDO{y0:zY}: zP qd prog 256 [.agg (wW y0 p1 c1).toArray,.func (.func 261) #[] #[]] [] [Rl qH p1 c1 y0.2,Pt (wN 64 (zC .u8)) 3 0 vA] (zAr y0) fun r K=>∀ p2 c2,K (.tuple #[sv p2 r.1 c2,vi r.2]) [] [Rl (qA (zC .i64)) p2 c2 r.1] :=
 zN call256 func256 u fun X=>zH<|wR .s u<|fun b1=>wR .s u<|fun b2=>zA 2 u<|zK<|zH<|wQ 0 2 u u u<|wF zLM u (cq [0,1])<|fun r1 _ k p2 c2=>k<|zA 5 u<|zK<|zQ<|jA 2 u<|zS u (jA 3 u<|qO<|vD<|
  yD u (lT u (lT u lN)) (fun _ k=>k none 0) [] ⟨gn,d⟩)<|jC<|zH<|zA 1 u<|yX (qA (zC .i64)) 22 <|zK<|zQ<|jA 3 u<|zX<|
  wD (fun s1 K=>∀ p3 c3 r_1,K [3,6,19,20] [(0,[]),(2,r_1)] [1,3] [(8,sv p3 s1.1 c3),(21,vi s1.2)] [Al (qA (zC .i64)) 22 r_1 p3 c3 s1.1]) (gv (fun _ k=>k none 0 []) [900,1,2] (gq [0,1,3]))<|
  fun s1 _ k p3 c3 r_1=>k<|jA 1 u<|zQ<|zS u (jC<|zQ<|zX<|zH<|yJ 1 u u u<|fun x1 b3 o1=>yU false oL (gk 0) u<|fun p4 c4=>vH .s (.slice none 0 0)<|fun b4=>qU .s 3 u u u<|zK<|zH<|zA 2 u<|
  qL .s [1,3] [] zCe u u u (cq [3,0])<|fun r2 _ k=>k<|zA 1 u<|zK<|zS u (vG<|zA 1 u<|qG 3 u u u<|
  yI .s (e:=qA (zC .i64)) 22 [sv p4 x1 c4] ([x1]:List (List Int)) (rC (vL (gk 0)) rN)<|fun p5 c5=>uE .s 2 3 u (gk 0) u u<|fun x2 r_2 p6 c6=>zA 1 u<|wK<|vM<|qK<|jB 2 u<|
  yH (gv (fun _ k=>k p6 c6 r_2) [900,1,2] (gq [0,5,6])))<|yA<|vM<|qK<|jB 2 u<|yH (gv (fun _ k=>k p3 c3 r_1) [900,1,2] (gq [2,3,4])))<|uA<|yR<|yY<|yZ<|qK<|jA 3 u<|qO<|uI 2 0 u u<|
  yD u (lT u (lT u lN)) (fun _ k=>k p3 c3) [] (gq [0])
abbrev zIB:=@Cn.mk 256 1 _ @zDO
theorem zQI{y0:zY}: zP qd prog 196 [.agg (wW y0 p1 c1).toArray] [] [Rl qH p1 c1 y0.2,Pt (wN 64 (zC .u8)) 3 0 vA] (zDB y0) fun r K=>∀ p2 c2,K (.tuple #[sv p2 r.1 c2,vi r.2]) [] [Rl (qA (zC .i64)) p2 c2 r.1] :=
 zN call196 func196 u fun X=>zH<|wR .s u<|fun b1=>zA 2 u<|zK<|zH<|wQ 0 2 u u u<|wF zDO u (cq [0,1])<|fun r1 _ k p2 c2=>k<|zA 4 u<|zK<|qO<|yD u (lT u (lT u lN)) (fun _ k=>k p2 c2) [] (gq [0])
abbrev zQB:=@Cn.mk 196 0 _ @zQI
attribute [instance] zHU zFs zIB zQB
theorem zJQ{y0:zY}: zP qd prog 262 [.agg (wW y0 p1 c1).toArray,.func (.func 196) #[] #[]] [] [Rl qH p1 c1 y0.2,Pt (wN 64 (zC .u8)) 3 0 vA] (zBJ y0) fun r K=>∀ p2 c2,K (.tuple #[sv p2 r.1 c2,vi r.2]) [] [Rl (zC .i64) p2 c2 r.1] :=
 zN call262 func262 u fun X=>hD 4 [] [0] (.l [0,1] (.f 2 (.f 3 (.l [4,5,6,7,8] .e))))<|
 au
abbrev zJD:=@Cn.mk 262 1 _ @zJQ
attribute [instance] zJD
theorem z2d{y0:zY}: zP qd prog 198 [.agg (wW y0 p1 c1).toArray] [] [Rl qH p1 c1 y0.2,Pt (wN 64 (zC .u8)) 3 0 vA] (zNg y0) fun r K=>∀ p2 c2,K (.tuple #[sv p2 r.1 c2,vi r.2]) [] [Rl (zC .i64) p2 c2 r.1] :=
 zN call198 func198 u fun X=>
 au
abbrev z18:=@Cn.mk 198 0 _ @z2d
attribute [instance] z18
theorem zHF{y0:zY}: wO qd prog 253 [.agg (wW y0 p1 c1).toArray,pt b1 0] [bx b1 239 [.func (.func 198) #[] #[]]] [Rl qH p1 c1 y0.2,Pt (wN 64 (zC .u8)) 3 0 vA] (zCZ y0) fun L r K=>∀ p2 c2,K (.tuple #[sv p2 r.1 c2,vi r.2]) L [Rl (qA (zC .i64)) p2 c2 r.1] :=
 zN call253 func253 u fun X=>
 au
abbrev zLt:=@Cn.mk 253 2 _ @zHF
theorem zEc{y0:zY}: wO qd prog 254 [.agg (wW y0 p1 c1).toArray,pt b1 0] [bx b1 192 [.func (.func 253) #[] #[pt b2 0]],bx b2 239 [.func (.func 198) #[] #[]]] [Rl qH p1 c1 y0.2,Pt (wN 64 (zC .u8)) 3 0 vA] (zB9 y0) fun L r K=>∀ p2 c2,K (.tuple #[sv p2 r.1 c2,vi r.2]) L [Rl (qA (zC .i64)) p2 c2 r.1] :=
 zN call254 func254 u fun X=>zH<|wR .s u<|fun b3=>zA 2 u<|zK<|zH<|qG 0 u u u<|wQ 2 2 u u u<|qL .s [1] [] zHF u u u (cq [0,1])<|fun r1 _ k p2 c2=>k<|zA 5 u<|zK<|zQ<|jA 2 u<|zS u (jA 3 u<|qO<|vD<|
  yD u (lT u (lT u lN)) (fun _ k=>k none 0) [0,1] ⟨gn,d⟩)<|jC<|zH<|zA 1 u<|yX (qA (zC .i64)) 22 <|zK<|zQ<|jA 3 u<|zX<|
  wD (fun s1 K=>∀ p3 c3 r_1,K [19,20] [(2,[]),(3,r_1)] [1,3] [(7,sv p3 s1.1 c3),(21,vi s1.2)] [Al (qA (zC .i64)) 22 r_1 p3 c3 s1.1]) (gv (fun _ k=>k none 0 []) [0,1,902,3] (gq [0,1,3]))<|
  fun s1 _ k p3 c3 r_1=>k<|jA 1 u<|zQ<|zS u (jC<|zQ<|zX<|zH<|yJ 1 u u u<|fun x1 b4 o1=>yU false oL (gk 0) u<|fun p4 c4=>zA 1 u<|zK<|vG<|zA 2 u<|wF zLz u (cq [0])<|fun r2 _ k p5 c5=>k<|
  yI .s (e:=qA (zC .i64)) 22 [sv p5 r2 c5] ([r2]:List (List Int)) (rC (vL (gk 0)) rN)<|fun p6 c6=>uE .s 3 4 u (gk 0) u u<|fun x2 r_2 p7 c7=>zA 1 u<|wK<|vM<|qK<|jB 2 u<|
  yH (gv (fun _ k=>k p7 c7 r_2) [0,1,902,3] (gq [0,6,7])))<|uA<|yR<|yY<|yZ<|qK<|jA 3 u<|qO<|uI 3 0 u u<|yD u (lT u (lT u lN)) (fun _ k=>k p3 c3) [0,1] (gq [0])
abbrev zKG:=@Cn.mk 254 2 _ @zEc
attribute [instance] zLt zKG
theorem zDw{y0:zY}: wO qd prog 254 [.agg (wW y0 p1 c1).toArray,pt b1 0] [bx b1 192 [.func (.func 194) #[] #[]]] [Rl qH p1 c1 y0.2,Pt (wN 64 (zC .u8)) 3 0 vA] (zBQ y0) fun L r K=>∀ p2 c2,K (.tuple #[sv p2 r.1 c2,vi r.2]) L [Rl (qA (zC .i64)) p2 c2 r.1] :=
 zN call254 func254 u fun X=>hR 7 2 (qA (zC .i64)) 22<|hI 0 6 1 (fun(s1:(List (List Int))×Int) K=>∀ p3 c3 r_1,K [19,20] [(1,.r []),(2,.r r_1)] [1,3] [(7,sv p3 s1.1 c3),(21,vi s1.2)] [Al (qA (zC .i64)) 22 r_1 p3 c3 s1.1])<|
 au
abbrev zJU:=@Cn.mk 254 3 _ @zDw
attribute [instance] zJU
theorem zDm{y0:zY}: wO qd prog 254 [.agg (wW y0 p1 c1).toArray,pt b1 0] [bx b1 192 [.func (.func 196) #[] #[]]] [Rl qH p1 c1 y0.2,Pt (wN 64 (zC .u8)) 3 0 vA] (zBK y0) fun L r K=>∀ p2 c2,K (.tuple #[sv p2 r.1 c2,vi r.2]) L [Rl (qA (zC .i64)) p2 c2 r.1] :=
 zN call254 func254 u fun X=>hR 7 2 (qA (zC .i64)) 22<|hI 0 6 1 (fun(s1:(List (List Int))×Int) K=>∀ p3 c3 r_1,K [19,20] [(1,.r []),(2,.r r_1)] [1,3] [(7,sv p3 s1.1 c3),(21,vi s1.2)] [Al (qA (zC .i64)) 22 r_1 p3 c3 s1.1])<|
 au
abbrev zJB:=@Cn.mk 254 4 _ @zDm
theorem zSE{y0:List Int}{y1:List Int}: zP qd prog 260 [sv p1 y0 c1,sv p2 y1 c2] [] [Rl (zC .i64) p1 c1 y0,Rl (zC .i64) p2 c2 y1] (zF7 y0 y1) fun r K=>K (vb r) [] [] :=
 zN call260 func260 u fun X=>
 au
abbrev zRn:=@Cn.mk 260 0 _ @zSE
attribute [instance] zJB zRn
theorem zIc{y0:List Int}{y2:List Int}: wO qd prog 300 [sv p1 y0 c1,pt b1 0,pt b2 0] [bx b1 61 [.func (.func 260) #[] #[]],bx b2 22 [sv p2 y2 c2]] [Rl (zC .i64) p1 c1 y0,Rl (zC .i64) p2 c2 y2] (zBG y0 y2) fun L r K=>K (vb r) L [] :=
 zN call300 func300 u fun X=>
 au
abbrev zIs:=@Cn.mk 300 2 _ @zIc
attribute [instance] zIs
theorem zCu{y0:List (List Int)}{y2:List Int}: wO qd prog 306 [sv p1 y0 c1,.func (.func 300) #[] #[pt b1 0,pt b2 0]] [bx b1 61 [.func (.func 260) #[] #[]],bx b2 22 [sv p2 y2 c2]] [Rl (qA (zC .i64)) p1 c1 y0,Rl (zC .i64) p2 c2 y2] (zAj y0 y2) fun L r K=>K (vi r) L [] :=
 zN call306 func306 u fun X=>hI 0 2 1 (fun(s1:Int) K=>K [0,1,7] [] [0,1] [(8,vi s1)] [])<|
 au
abbrev zHA:=@Cn.mk 306 3 _ @zCu
theorem zCg{y0:List (List Int)}{y2:List Int}: wO qd prog 264 [sv p1 y0 c1,.func (.func 300) #[] #[pt b1 0,pt b2 0]] [bx b1 61 [.func (.func 260) #[] #[]],bx b2 22 [sv p2 y2 c2]] [Rl (qA (zC .i64)) p1 c1 y0,Rl (zC .i64) p2 c2 y2] (zA0 y0 y2) fun L r K=>K (vb r) L [] :=
 zN call264 func264 u fun X=>jA 1 u<|zH<|zA 2 u<|qL .s [0,1] [] zCu u u u (cq [0,1])<|fun r1 _ k=>k<|zA 2 u<|zK<|qO<|yB u u kk [0,1] d
abbrev zFn:=@Cn.mk 264 3 _ @zCg
theorem zDx{y0:zY}: zP qd prog 256 [.agg (wW y0 p1 c1).toArray,.func (.func 260) #[] #[]] [] [Rl qH p1 c1 y0.2,Pt (wN 64 (zC .u8)) 3 0 vA] (zBS y0) fun r K=>∀ p2 c2,K (.tuple #[sv p2 r.1 c2,vi r.2]) [] [Rl (qA (zC .i64)) p2 c2 r.1] :=
 zN call256 func256 u fun X=>zH<|wR .s u<|fun b1=>wR .s u<|fun b2=>zA 2 u<|zK<|zH<|wQ 0 2 u u u<|wF zLM u (cq [0,1])<|fun r1 _ k p2 c2=>k<|zA 5 u<|zK<|zQ<|jA 2 u<|zS u (jA 3 u<|qO<|vD<|
  yD u (lT u (lT u lN)) (fun _ k=>k none 0) [] ⟨gn,d⟩)<|jC<|zH<|zA 1 u<|yX (qA (zC .i64)) 22 <|zK<|zQ<|jA 3 u<|zX<|
  wD (fun s1 K=>∀ p3 c3 r_1,K [3,6,19,20] [(0,[]),(2,r_1)] [1,3] [(8,sv p3 s1.1 c3),(21,vi s1.2)] [Al (qA (zC .i64)) 22 r_1 p3 c3 s1.1]) (gv (fun _ k=>k none 0 []) [900,1,2] (gq [0,1,3]))<|
  fun s1 _ k p3 c3 r_1=>k<|jA 1 u<|zQ<|zS u (jC<|zQ<|zX<|zH<|yJ 1 u u u<|fun x1 b3 o1=>yU false oL (gk 0) u<|fun p4 c4=>vH .s (.slice none 0 0)<|fun b4=>qU .s 3 u u u<|zK<|zH<|zA 2 u<|
  qL .s [1,3] [] zCg u u u (cq [3,0])<|fun r2 _ k=>k<|zA 1 u<|zK<|zS u (vG<|zA 1 u<|qG 3 u u u<|
  yI .s (e:=qA (zC .i64)) 22 [sv p4 x1 c4] ([x1]:List (List Int)) (rC (vL (gk 0)) rN)<|fun p5 c5=>uE .s 2 3 u (gk 0) u u<|fun x2 r_2 p6 c6=>zA 1 u<|wK<|vM<|qK<|jB 2 u<|
  yH (gv (fun _ k=>k p6 c6 r_2) [900,1,2] (gq [0,5,6])))<|yA<|vM<|qK<|jB 2 u<|yH (gv (fun _ k=>k p3 c3 r_1) [900,1,2] (gq [2,3,4])))<|uA<|yR<|yY<|yZ<|qK<|jA 3 u<|qO<|uI 2 0 u u<|
  yD u (lT u (lT u lN)) (fun _ k=>k p3 c3) [] (gq [0])
abbrev zJY:=@Cn.mk 256 2 _ @zDx
theorem zTp{y0:zY}: zP qd prog 195 [.agg (wW y0 p1 c1).toArray] [] [Rl qH p1 c1 y0.2,Pt (wN 64 (zC .u8)) 3 0 vA] (zHv y0) fun r K=>∀ p2 c2,K (.tuple #[sv p2 r.1 c2,vi r.2]) [] [Rl (qA (zC .i64)) p2 c2 r.1] :=
 zN call195 func195 u fun X=>zH<|wR .s u<|fun b1=>zA 2 u<|zK<|zH<|wQ 0 2 u u u<|wF zDx u (cq [0,1])<|fun r1 _ k p2 c2=>k<|zA 4 u<|zK<|qO<|yD u (lT u (lT u lN)) (fun _ k=>k p2 c2) [] (gq [0])
abbrev zUI:=@Cn.mk 195 0 _ @zTp
attribute [instance] zHA zFn zJY zUI
theorem zEo{y0:zY}: wO qd prog 254 [.agg (wW y0 p1 c1).toArray,pt b1 0] [bx b1 192 [.func (.func 195) #[] #[]]] [Rl qH p1 c1 y0.2,Pt (wN 64 (zC .u8)) 3 0 vA] (zBb y0) fun L r K=>∀ p2 c2,K (.tuple #[sv p2 r.1 c2,vi r.2]) L [Rl (qA (zC .i64)) p2 c2 r.1] :=
 zN call254 func254 u fun X=>hR 7 2 (qA (zC .i64)) 22<|hI 0 6 1 (fun(s1:(List (List Int))×Int) K=>∀ p3 c3 r_1,K [19,20] [(1,.r []),(2,.r r_1)] [1,3] [(7,sv p3 s1.1 c3),(21,vi s1.2)] [Al (qA (zC .i64)) 22 r_1 p3 c3 s1.1])<|
 au
abbrev zKY:=@Cn.mk 254 5 _ @zEo
attribute [instance] zKY
theorem zFW{y0:zY}: wO qd prog 254 [.agg (wW y0 p1 c1).toArray,pt b1 0] [bx b1 192 [.func (.func 193) #[] #[]]] [Rl qH p1 c1 y0.2,Pt (wN 64 (zC .u8)) 3 0 vA] (zBg y0) fun L r K=>∀ p2 c2,K (.tuple #[sv p2 r.1 c2,vi r.2]) L [Rl (qA (zC .i64)) p2 c2 r.1] :=
 zN call254 func254 u fun X=>hR 7 2 (qA (zC .i64)) 22<|hI 0 6 1 (fun(s1:(List (List Int))×Int) K=>∀ p3 c3 r_1,K [19,20] [(1,.r []),(2,.r r_1)] [1,3] [(7,sv p3 s1.1 c3),(21,vi s1.2)] [Al (qA (zC .i64)) 22 r_1 p3 c3 s1.1])<|
 au
abbrev zKp:=@Cn.mk 254 6 _ @zFW
theorem zTR{y0:zY}{y1:Int}: zP qd prog 75 [.agg (wW y0 p1 c1).toArray,vi y1] [] [Rl qH p1 c1 y0.2,Pt (wN 64 (zC .u8)) 3 0 vA] (zBX y0 y1) fun r K=>∀ p2 c2,K (.tuple #[sv p2 r.1 c2,vi r.2]) [] [Rl (qA (zC .i64)) p2 c2 r.1] :=
 zN call75 func75 u fun X=>zH<|wR .s u<|fun b1=>zA 2 u<|zK<|zQ<|zH<|wQ 0 2 u u u<|wF zMW u (cq [0])<|fun r1 _ k=>k<|zA 1 u<|zK<|jA 2 u<|zS u (jA 3 u<|qO<|vD<|yD u (lT u (lT u lN)) (fun _ k=>k none 0) [] ⟨gn,d⟩)<|
  jC<|zH<|wF zPj u d<|fun r2 _ k b2 b3 b4 b5 b6 b7 b8 b9 b10 b11 b12=>k<|zA 1 u<|zK<|zQ<|
  z5h (fun K=>K [1,2,7] [] [0,1] [(21,vb ((decide (y1<1))||(decide (((10:Nat):Int)≤y1))))] []) (vG<|zA 3 u<|
  tO (b:=decide (y1<1)) 16 u (fun hb1=>zA 4 u<|qE (vb true)<|wK<|uD 21 (vb ((decide (y1<1))||(decide (((10:Nat):Int)≤y1)))) u (by rw[hb1];rfl)<|qI (gv kk [0,1,2,3,4,5,6,7,8,9,10,11] (gq [0,1]))
  )<|fun hb1=>zA 4 u<|qE (vb (decide (((10:Nat):Int)≤y1)))<|wK<|uD 21 (vb ((decide (y1<1))||(decide (((10:Nat):Int)≤y1)))) u (by rw[hb1];rfl)<|qI (gv kk [0,1,2,3,4,5,6,7,8,9,10,11] (gq [0,1])))<|fun _ k=>
  k<|zS u (jA 2 u<|qO<|vD<|yD u (lT u (lT u lN)) (fun _ k=>k none 0) [] ⟨gn,d⟩)<|jC<|
  jjn (fun s1 K=>∀ p2 c2,K [(4,sv p2 s1.1 c2),(5,vi s1.2)] [[],[],[],[],[],[],[],[],[],[],[],[]] [Rl (qA (zC .i64)) p2 c2 s1.1,Pt (wN 64 (zC .u8)) 3 0 vA]) (
  xY [] [0,1] 10<|zW 8 [0,1] u<|z8v (c:=1) (fun hb2=>uD 23 (vi 1) u (by rw[hb2])<|xF (v:=pt b2 1) 2 u (fun h=>zUa h u u (by decide) (by kernel_rfl) u)<|wS 3 1 u u u u<|
  uQ 4 0 2 u u u u<|qM 5<|qL (.f u) [2,3] [] zFY u u u (cq [0,1])<|fun r3 _ k p3 c3=>k<|qN<|zW 0 [6,7,8,9] u<|qT<|
  qI (gv (fun _ k=>k p3 c3) [900,901,902,903,904,905,906,907,908,909,910,911] (gq [0,2])))<|z8v (c:=2) (fun hb3=>uD 23 (vi 2) u (by rw[hb3])<|xF (v:=pt b2 2) 2 u (fun h=>zUa h u u (by decide) (by kernel_rfl) u)<|
  wS 3 1 u u u u<|uQ 4 0 2 u u u u<|qM 5<|qL (.f u) [4] [] zFW u u u (cq [0,1])<|fun r4 _ k p4 c4=>k<|qN<|zW 0 [6,7,8,9] u<|qT<|
  qI (gv (fun _ k=>k p4 c4) [900,901,902,903,904,905,906,907,908,909,910,911] (gq [0,2])))<|z8v (c:=3) (fun hb4=>uD 23 (vi 3) u (by rw[hb4])<|xF (v:=pt b2 3) 2 u (fun h=>zUa h u u (by decide) (by kernel_rfl) u)<|
  wS 3 1 u u u u<|uQ 4 0 2 u u u u<|qM 5<|qL (.f u) [5] [] zDw u u u (cq [0,1])<|fun r5 _ k p5 c5=>k<|qN<|zW 0 [6,7,8,9] u<|qT<|
  qI (gv (fun _ k=>k p5 c5) [900,901,902,903,904,905,906,907,908,909,910,911] (gq [0,2])))<|z8v (c:=4) (fun hb5=>uD 23 (vi 4) u (by rw[hb5])<|xF (v:=pt b2 4) 2 u (fun h=>zUa h u u (by decide) (by kernel_rfl) u)<|
  wS 3 1 u u u u<|uQ 4 0 2 u u u u<|qM 5<|qL (.f u) [6] [] zEo u u u (cq [0,1])<|fun r6 _ k p6 c6=>k<|qN<|zW 0 [6,7,8,9] u<|qT<|
  qI (gv (fun _ k=>k p6 c6) [900,901,902,903,904,905,906,907,908,909,910,911] (gq [0,2])))<|z8v (c:=5) (fun hb6=>uD 23 (vi 5) u (by rw[hb6])<|xF (v:=pt b2 5) 2 u (fun h=>zUa h u u (by decide) (by kernel_rfl) u)<|
  wS 3 1 u u u u<|uQ 4 0 2 u u u u<|qM 5<|qL (.f u) [7] [] zDm u u u (cq [0,1])<|fun r7 _ k p7 c7=>k<|qN<|zW 0 [6,7,8,9] u<|qT<|
  qI (gv (fun _ k=>k p7 c7) [900,901,902,903,904,905,906,907,908,909,910,911] (gq [0,2])))<|z8v (c:=6) (fun hb7=>uD 23 (vi 6) u (by rw[hb7])<|xF (v:=pt b2 6) 2 u (fun h=>zUa h u u (by decide) (by kernel_rfl) u)<|
  wS 3 1 u u u u<|uQ 4 0 2 u u u u<|qM 5<|qL (.f u) [8,9] [] zEb u u u (cq [0,1])<|fun r8 _ k p8 c8=>k<|qN<|zW 0 [6,7,8,9] u<|qT<|
  qI (gv (fun _ k=>k p8 c8) [900,901,902,903,904,905,906,907,908,909,910,911] (gq [0,2])))<|z8v (c:=7) (fun hb8=>uD 23 (vi 7) u (by rw[hb8])<|xF (v:=pt b2 7) 2 u (fun h=>zUa h u u (by decide) (by kernel_rfl) u)<|
  wS 3 1 u u u u<|uQ 4 0 2 u u u u<|qM 5<|qL (.f u) [10,11] [] zEc u u u (cq [0,1])<|fun r9 _ k p9 c9=>k<|qN<|zW 0 [6,7,8,9] u<|qT<|
  qI (gv (fun _ k=>k p9 c9) [900,901,902,903,904,905,906,907,908,909,910,911] (gq [0,2])))<|z8v (c:=8) (fun hb9=>uD 23 (vi 8) u (by rw[hb9])<|xF (v:=pt b2 8) 2 u (fun h=>zUa h u u (by decide) (by kernel_rfl) u)<|
  wS 3 1 u u u u<|uQ 4 0 2 u u u u<|jno)<|z8v (c:=9) (fun hb10=>uD 23 (vi 9) u (by rw[hb10])<|xF (v:=pt b2 9) 2 u (fun h=>zUa h u u (by decide) (by kernel_rfl) u)<|wS 3 1 u u u u<|
  uQ 4 0 2 u u u u<|jno)<|jno)<|fun s1 _ k p2 c2=>k<|qO<|yD u (lT u (lT u lN)) (fun _ k=>k p2 c2) [] (gq [0])
abbrev zS7:=@Cn.mk 75 0 _ @zTR
attribute [instance] zKp zS7
theorem zRk{y0:zCL}{y1:Int}: zP qd prog 31 [.agg (zOf y0 p1 c1 p2 c2 p3 c3 p4 c4 p5 c5 p6 c6).toArray,vi y1] [] (zOr y0 p1 c1 p2 c2 p3 c3 p4 c4 p5 c5 p6 c6 [Pt (wN 64 (zC .u8)) 3 0 vA]) (zCm y0 y1) fun r K=>∀ p7 c7,K (.tuple #[sv p7 r.1 c7,vi r.2]) [] [Rl (qA qY) p7 c7 r.1] :=
 zN call31 func31 u fun X=>hR 8 1 (qA qY) 54<|hI 0 6 1 (fun(s1:(List (List zI))×Int) K=>∀ p8 c8 r_1,K [2,21,22] [(1,.r r_1)] [1,2,3,4,5,6,7,8] [(8,sv p8 s1.1 c8),(23,vi s1.2)] [Al (qA qY) 54 r_1 p8 c8 s1.1])<|
 au
abbrev zRf:=@Cn.mk 31 0 _ @zRk
theorem zP0{y0:Int}: zP qd prog 80 [.slice none 0 0,vi y0] [] [] (zDr y0) fun r K=>∀ p1 c1 r_1,K (sv p1 r c1) [r_1] [Al qY 87 r_1 p1 c1 r] :=
 zN call80 func80 u fun X=>yX qY 87<|jA 1 u<|wC (fun s1 K=>K [0,1] [] [0] [] []) (jA 2 u<|zS u (vG<|jno)<|yA<|qI (gv kk [0] (gq [0])))<|fun s1 _ k=>k<|zQ<|zH<|zA 2 u<|
  jv (v:=vi ((0:Nat):Int)) (fun h=>z6e h u underlying54)<|zA 5 u<|zK<|jA 2 u<|zS u (vG<|zA 2 u<|jv (v:=vi ((0:Nat):Int)) (fun h=>z6e h u underlying54)<|
  jv (v:=.slice none 0 0) (fun h=>z8H (e:=qY) h u u (by kernel_rfl))<|zA 1 u<|jaz .s (e:=qY) (h2:=underlying3) 0 0 87 ((false,[]):zI) (.agg k3) u (vP vB vS) u u<|
 au
)<|
 au
abbrev zPU:=@Cn.mk 80 0 _ @zP0
attribute [instance] zRf zPU
theorem zPc{y0:List (List zI)}: zP qd prog 33 [sv p1 y0 c1] [] [Rl (qA qY) p1 c1 y0] (zBy y0) fun r K=>∀ p2 c2,K (sv p2 r c2) [] [Rl qY p2 c2 r] :=
 zN call33 func33 u fun X=>jA 1 u<|jA 1 u<|wC (fun s1 K=>K [0] [] [0] [(3,vi s1)] []) (jA 3 u<|zX<|
  wD (fun s2 K=>K [0,9,10] [] [0] [(3,vi s2.1),(11,vi s2.2)] []) (gv kk [] (gq [0]))<|fun s2 _ k=>k<|jA 1 u<|zQ<|zS u (jC<|zQ<|zX<|zH<|
  yJ 0 u u u<|fun x1 b1 o1=>yU false oL (gk 0) u<|fun p2 c2=>zA 1 u<|zK<|jA 5 u<|jA 2 u<|zS u (vG<|jno)<|
 au
)<|
 au
)<|hI 0 11 1 (fun(s3:(List zI)×Int) K=>∀ p4 c4 r_2,K [25,26] [(0,.r r_2)] [1] [(6,sv p4 s3.1 c4),(27,vi s3.2)] [Al qY 87 r_2 p4 c4 s3.1])<|
 au
abbrev zPS:=@Cn.mk 33 0 _ @zPc
theorem zQH{y0:List zI}{y1:zI}: zP qd prog 133 [sv p1 y0 c1,.agg #[vb y1.1,vs y1.2]] [] [Rl qY p1 c1 y0] (zCM y0 y1) fun r K=>K (vi r) [] [] :=
 zN call133 func133 u fun X=>zH<|wR .s u<|fun b1=>zA 1 u<|zK<|zQ<|jA 3 u<|zX<|wD (fun s1 K=>K [0,3,7] [] [0] [(8,vi s1)] []) (gv kk [0] (gq [0]))<|fun s1 _ k=>k<|jA 1 u<|zQ<|zS u (jC<|zQ<|
  zX<|jA 2 u<|uR [] [0] 6<|uQ 0 0 2 u u u u<|zW 3 [1,2] u<|jdi 3 0 u u u u<|fun x1 b2 o1=>jdl 4 true xZ u (gk 0) u<|vR 5 (vb (y1==x1)) u<|qT<|qK<|zS u (jA 2 u<|qO<|xK<|vD<|jlr<|
  xK<|vD<|yB u u kk [] d)<|yA<|vM<|qK<|jB 2 u<|yH (gv kk [0] (gq [1])))<|uA<|yR<|yY<|yZ<|qK<|jA 1 u<|qO<|yB u u kk [] d
abbrev zQL:=@Cn.mk 133 0 _ @zQH
attribute [instance] zPS zQL
theorem zOL{y0:List zI}{y1:zI}: zP qd prog 83 [sv p1 y0 c1,.agg #[vb y1.1,vs y1.2]] [] [Rl qY p1 c1 y0] (zCR y0 y1) fun r K=>K (vb r) [] [] :=
 zN call83 func83 u fun X=>
 au
abbrev zNy:=@Cn.mk 83 0 _ @zOL
attribute [instance] zNy
theorem z0q{y0:List zI}{y1:zI}: zP qd prog 38 [sv p1 y0 c1,.agg #[vb y1.1,vs y1.2]] [] [Rl qY p1 c1 y0] (zFD y0 y1) fun r K=>K (vb r) [] [] :=
 zN call38 func38 u fun X=>
 au
abbrev z0A:=@Cn.mk 38 0 _ @z0q
attribute [instance] z0A
theorem zQg{y0:List zI}{y1:zI}: wO qd prog 37 [sv p1 y0 c1,pt b1 0] [bx b1 87 [vb y1.1,vs y1.2]] [Rl qY p1 c1 y0] (zC9 y0 y1) fun L r K=>K (vb r) L [] :=
 zN call37 func37 u fun X=>
 au
abbrev zRK:=@Cn.mk 37 0 _ @zQg
attribute [instance] zRK
theorem zFO{y0:List (List zI)}{y1:zI}: wO qd prog 82 [sv p1 y0 c1,.func (.func 37) #[] #[pt b1 0]] [bx b1 87 [vb y1.1,vs y1.2]] [Rl (qA qY) p1 c1 y0] (zAU y0 y1) fun L r K=>K (vi r) L [] :=
 zN call82 func82 u fun X=>hI 0 2 1 (fun(s1:Int) K=>K [0,1,7] [] [0] [(8,vi s1)] [])<|
 au
abbrev zFP:=@Cn.mk 82 0 _ @zFO
attribute [instance] zFP
theorem zE9{y0:List (List zI)}{y1:zI}: wO qd prog 36 [sv p1 y0 c1,.func (.func 37) #[] #[pt b1 0]] [bx b1 87 [vb y1.1,vs y1.2]] [Rl (qA qY) p1 c1 y0] (zAC y0 y1) fun L r K=>K (vb r) L [] :=
 zN call36 func36 u fun X=>
 au
abbrev zE7:=@Cn.mk 36 0 _ @zE9
attribute [instance] zE7
theorem zSo{y0:zI}{y1:Bool}{y2:List (List zI)}: wO qd prog 35 [.agg #[vb y0.1,vs y0.2],pt b1 0,pt b2 0] [bx b1 4 [vb y1],bx b2 81 [sv p1 y2 c1]] [Rl (qA qY) p1 c1 y2] (zBp y0 y1 y2) fun L r K=>K (vb r) L [] :=
 zN call35 func35 u fun X=>hI 1 1 0 (fun(s1:Bool) K=>K [] [(2,.r [])] [0] [(4,vb s1)] [])<|
 au
abbrev zTT:=@Cn.mk 35 0 _ @zSo
attribute [instance] zTT
theorem zCf{y0:List zI}{y1:Bool}{y2:List (List zI)}: wO qd prog 81 [sv p1 y0 c1,.func (.func 35) #[] #[pt b1 0,pt b2 0]] [bx b1 4 [vb y1],bx b2 81 [sv p2 y2 c2]] [Rl qY p1 c1 y0,Rl (qA qY) p2 c2 y2] (zAY y0 y1 y2) fun L r K=>K (vi r) L [] :=
 zN call81 func81 u fun X=>hI 0 2 1 (fun(s1:Int) K=>K [0,1,7] [] [0,1] [(8,vi s1)] [])<|
 au
abbrev zFh:=@Cn.mk 81 0 _ @zCf
attribute [instance] zFh
theorem zF3{y0:List zI}{y1:Bool}{y2:List (List zI)}: zP qd prog 34 [sv p1 y0 c1,.func (.func 35) #[] #[pt b1 0,pt b2 0]] [r_1,bx b1 4 [vb y1],bx b2 81 [sv p2 y2 c2]] [Al qY 87 r_1 p1 c1 y0,Rl (qA qY) p2 c2 y2] (zAI y0 y1 y2) fun r K=>∀ p3 c3,K (sv p3 r c3) [[],bx b1 4 [vb y1],bx b2 81 [sv p2 y2 c2]] [Rl qY p3 c3 r] :=
 zN call34 func34 u fun X=>jA 1 u<|zH<|zA 2 u<|qL .s [1,2] [0] zCf u u u ⟨cl 0 0,ck 1,d⟩<|fun r1 _ k=>k<|zA 1 u<|zK<|zQ<|jA 2 u<|zS u (
 au
)<|jC<|
  wC (fun s1 K=>∀ r_2,K [] [(0,r_2)] [1] [(0,.slice p1 (List.length y0) c1),(5,vi s1.2)] [Ar qY 87 r_2 p1 c1 (List.length y0) s1.1]) (hI 0 5 2 (fun(s2:(List zI)×Int×Int) K=>∀ r_3,K [1] [(0,.r r_3)] [1] [(0,.slice p1 (List.length y0) c1),(5,vi s2.2.1),(6,vi s2.2.2)] [Ar qY 87 r_3 p1 c1 (List.length y0) s2.1])<|
 au
)<|fun s1 _ k r_2=>k<|zH<|zA 2 u<|jsV 0 u u u<|fun u1 p3 c3 f1=>jcv .s 0 0 (false,[]) (.agg k3) u f1 u (vP vB vS)<|
 au
abbrev zF0:=@Cn.mk 34 0 _ @zF3
attribute [instance] zF0
theorem zLN{y0:zCL}{y1:Int}{y2:Bool}: zP qd prog 12 [.agg (zOf y0 p1 c1 p2 c2 p3 c3 p4 c4 p5 c5 p6 c6).toArray,vi y1,vb y2] [] (zOr y0 p1 c1 p2 c2 p3 c3 p4 c4 p5 c5 p6 c6 [Pt (wN 64 (zC .u8)) 3 0 vA]) (zAx y0 y1 y2) fun r K=>∀ p7 c7,K (.tuple #[sv p7 r.1 c7,vi r.2]) [] [Rl qY p7 c7 r.1] :=
 zN call12 func12 u fun X=>
 au
abbrev zVk:=@Cn.mk 12 0 _ @zLN
theorem zTo{y0:zT}{y1:zT}: zP qd prog 114 [.agg #[vi y0.1,vi y0.2],.agg #[vi y1.1,vi y1.2]] [] [] (zEy y0 y1) fun r K=>K (vi r) [] [] :=
 zN call114 func114 u fun X=>hD 1 [] [0,1] (.l [0,1,2,3,5,6,7,8] (.f 4 (.f 9 (.f 10 (.f 11 (.l [12] .e))))))<|
 au
abbrev zTg:=@Cn.mk 114 0 _ @zTo
attribute [instance] zVk zTg
theorem zCI{y0:List zT}{y1:zT}: zP qd prog 113 [sv p1 y0 c1,.agg #[vi y1.1,vi y1.2],.func (.func 114) #[] #[]] [] [Rl qH p1 c1 y0] (zAQ y0 y1) fun r K=>K (.tuple #[vi r.1,vb r.2]) [] [] :=
 zN call113 func113 u fun X=>zH<|wR .s u<|fun b1=>zA 2 u<|zK<|jA 3 u<|jA 3 u<|wC (fun s1 K=>K [0,2,4,8] [] [0] [(9,vi s1)] []) (zX<|
  wD (fun s2 K=>K [0,2,4,8] [] [0] [(9,vi s2.1),(10,vi s2.2)] []) (gv kk [0] (gq [0]))<|fun s2 _ k=>k<|zQ<|jA 3 u<|zS u (jC<|zX<|zH<|zA 3 u<|
  qE (.int .u64 (IntKind.u64.wrap (zF (s2.1+s2.2))))<|qE (.int .u64 (yW .u64 (IntKind.u64.wrap (zF (s2.1+s2.2))) 1))<|hD 5 [] [0] (.l [0,1,2,3,4,5] (.f 6 (.l [7] .e)))<|
 au
)<|uA<|yR<|yY<|yZ<|qI (gv kk [0] (gq [0])))<|hD 8 [] [0] (.l [0,1,2,3,4] (.s 39 (.l [5,6,7,8,9,10] (.f 11 (.l [12,13,14,15] .e))) (.l [5,6,7,8,9,10,11,12,13,14,15] .e)))<|hI 1 8 0 (fun(s3:Int×Bool) K=>K [] [(0,.r [])] [] [(6,vi s3.1),(7,vb s3.2)] [])<|
 au
abbrev zEq:=@Cn.mk 113 0 _ @zCI
end Go.Proofs.YtmpieaddiaihmaaGreatDoor
