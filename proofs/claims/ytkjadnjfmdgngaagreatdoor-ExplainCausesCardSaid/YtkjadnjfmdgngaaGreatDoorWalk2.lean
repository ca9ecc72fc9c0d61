/- Part of the proof. Conditions: none. -/
import Derived.Test.YtkjadnjfmdgngaaGreatDoorWalk1
namespace Go.Proofs.YtkjadnjfmdgngaaGreatDoor
open Go Go.GD Tryz
set_option autoImplicit false
set_option linter.unusedVariables false
set_option maxRecDepth 100000
variable {p1 p2 p3 p4 p5 p6 p7 p8 p9 : Option Addr} {c1 c2 c3 c4 c5 c6 c7 c8 c9 : Nat} {b1 b2 b3 b4 b5 b6 b7 b8 b9 b10 b11 : Nat} {r_1 r_2 r_3 : qB}
theorem zGg {qd : Prop} {y0 : List Int} {y1 : List (List Int)} {y3 : zT} {y4 : wQ} {y5 : zO} {y6 : Bool} : qA qd prog 72 [sv p1 y0 c1, pt b1 0, pt b2 0] [bx b1 40 [sv p2 y1 c2], r_1, bx b2 55 [.func (.func 27) #[] #[pt b3 0, pt b4 0, pt b5 0, pt b6 0]], bx b3 26 [sv p3 y3.1 c3, sv p4 y3.2.1 c4, sv p5 y3.2.2 c5], bx b4 28 [vi y4.1, vi y4.2], bx b5 30 [vb y5.1, vs y5.2], bx b6 4 [vb y6]] [Rl (eInt .i64) p1 c1 y0, Al (eSlice (eInt .i64)) 31 r_1 p2 c2 y1, Rl e_Premise p3 c3 y3.1, Rl e_Rule p4 c4 y3.2.1, Rl e_Promotion p5 c5 y3.2.2, Pt (eArr 64 (eInt .u8)) 0 0 tab_math_bits_deBruijn64tab] (zA0 y0 y1 y3 y4 y5 y6) fun r K=>∀ p6 c6 r_2,K (.tuple #[]) [bx b1 40 [sv p6 r c6], r_2, bx b2 55 [.func (.func 27) #[] #[pt b3 0, pt b4 0, pt b5 0, pt b6 0]], bx b3 26 [sv p3 y3.1 c3, sv p4 y3.2.1 c4, sv p5 y3.2.2 c5], bx b4 28 [vi y4.1, vi y4.2], bx b5 30 [vb y5.1, vs y5.2], bx b6 4 [vb y6]] [Al (eSlice (eInt .i64)) 31 r_2 p6 c6 r] :=
 qE call72 func72 u fun X=>zG<|
  wA (fun s1 K=>K [(0, sv p1 y0 c1), (1, pt b1 0), (21, vb s1)] [bx b1 40 [sv p2 y1 c2], r_1, bx b2 55 [.func (.func 27) #[] #[pt b3 0, pt b4 0, pt b5 0, pt b6 0]], bx b3 26 [sv p3 y3.1 c3, sv p4 y3.2.1 c4, sv p5 y3.2.2 c5], bx b4 28 [vi y4.1, vi y4.2], bx b5 30 [vb y5.1, vs y5.2], bx b6 4 [vb y6]] [Rl (eInt .i64) p1 c1 y0, Al (eSlice (eInt .i64)) 31 r_1 p2 c2 y1, Rl e_Premise p3 c3 y3.1, Rl e_Rule p4 c4 y3.2.1, Rl e_Promotion p5 c5 y3.2.2, Pt (eArr 64 (eInt .u8)) 0 0 tab_math_bits_deBruijn64tab]) (
  zM<|zV 0 u u u<|zA 3 u<|wH 7 u (zA 2 u<|zV 0 u u u<|yH 1 u u u<|fun x1 h1 b7 hp1=>uV 1 1 sI false oL u hp1 h1 u<|fun p6 c6=>zA 2 u<|zJ (vb (decide ((len x1) < (len y0))))<|zA 1 u<|wH 16 u (
  zA 4 u<|zJ (vb true)<|zF<|zN (gv kk [0,1,2,3,4,5,6] ⟨gk 1,gk 2,gk 3,gk 4,gk 5,gk 6,d⟩))<|zV 2 u u u<|zA 1 u<|qH .s [3, 4, 5, 6] [] zJ4 u u u ⟨ck 1,ck 3,ck 4,ck 5,ck 6,d⟩<|fun r1 _ k=>k<|
  zA 1 u<|zJ (vb (!r1))<|zF<|zN (gv kk [0,1,2,3,4,5,6] ⟨gk 1,gk 2,gk 3,gk 4,gk 5,gk 6,d⟩))<|zA 7 u<|zJ (vb false)<|zA 1 u<|zV 2 u u u<|zA 1 u<|
  qH .s [3, 4, 5, 6] [] zJ4 u u u ⟨ck 0,ck 2,ck 3,ck 4,ck 5,d⟩<|fun r2 _ k=>k<|zA 1 u<|zJ (vb (!r2))<|zF<|zN (gv kk [0,1,2,3,4,5,6] ⟨gk 0,gk 1,gk 2,gk 3,gk 4,gk 5,d⟩))<|fun s1 _ k=>k<|zI u (zK<|
  qC<|wR u lN (fun _ k=>k p2 c2 r_1) [0,1,2,3,4,5,6] ⟨gk 1,d⟩)<|zL<|zD<|
  wA (fun s2 K=>∀ p7 c7 r_2,K [(0, sv p1 y0 c1), (1, pt b1 0)] [bx b1 40 [sv p7 s2 c7], [], bx b2 55 [.func (.func 27) #[] #[pt b3 0, pt b4 0, pt b5 0, pt b6 0]], bx b3 26 [sv p3 y3.1 c3, sv p4 y3.2.1 c4, sv p5 y3.2.2 c5], bx b4 28 [vi y4.1, vi y4.2], bx b5 30 [vb y5.1, vs y5.2], bx b6 4 [vb y6], r_2] [Al (eSlice (eInt .i64)) 31 r_2 p7 c7 s2, Rl (eInt .i64) p1 c1 y0, Rl e_Premise p3 c3 y3.1, Rl e_Rule p4 c4 y3.2.1, Rl e_Promotion p5 c5 y3.2.2, Pt (eArr 64 (eInt .u8)) 0 0 tab_math_bits_deBruijn64tab]) (
  wA (fun s3 K=>K [(0, sv p1 y0 c1), (1, pt b1 0), (33, vb s3)] [bx b1 40 [sv p2 y1 c2], r_1, bx b2 55 [.func (.func 27) #[] #[pt b3 0, pt b4 0, pt b5 0, pt b6 0]], bx b3 26 [sv p3 y3.1 c3, sv p4 y3.2.1 c4, sv p5 y3.2.2 c5], bx b4 28 [vi y4.1, vi y4.2], bx b5 30 [vb y5.1, vs y5.2], bx b6 4 [vb y6]] [Rl (eInt .i64) p1 c1 y0, Al (eSlice (eInt .i64)) 31 r_1 p2 c2 y1, Rl e_Premise p3 c3 y3.1, Rl e_Rule p4 c4 y3.2.1, Rl e_Promotion p5 c5 y3.2.2, Pt (eArr 64 (eInt .u8)) 0 0 tab_math_bits_deBruijn64tab]) (
  zM<|zV 0 u u u<|zA 3 u<|wH 25 u (zA 2 u<|zV 0 u u u<|yH 1 u u u<|fun x2 h2 b8 hp2=>uV 1 1 sI false oL u hp2 h2 u<|fun p8 c8=>zA 2 u<|zJ (vb (decide ((len y0) < (len x2))))<|zF<|
  zN (gv kk [0,1,2,3,4,5,6] ⟨gk 1,gk 2,gk 3,gk 4,gk 5,gk 6,d⟩))<|zA 7 u<|zJ (vb false)<|zF<|zN (gv kk [0,1,2,3,4,5,6] ⟨gk 0,gk 1,gk 2,gk 3,gk 4,gk 5,d⟩))<|fun s3 _ k=>k<|zI u (zM<|vD (eSlice (eInt .i64)) 31<|
  qU .s 0 u u u<|zF<|zN (gv (fun _ k=>k none 0 []) [0,901,2,3,4,5,6,7] ⟨gk 0,gk 1,gk 3,gk 4,gk 5,gk 6,d⟩))<|zL<|zN (gv (fun _ k=>k p2 c2 r_1) [0,901,2,3,4,5,6,1] ⟨gk 1,gk 0,gk 2,gk 3,gk 4,gk 5,d⟩))<|fun s2 _ k p7 c7 r_2=>k<|zM<|
  zV 0 u u u<|zA 1 u<|wV .s (e := eSlice (eInt .i64)) 31 [sv p1 y0 c1] ([y0] : List (List Int)) (rC (vL (gk 1)) rN)<|fun p9 c9=>wM .s 7 1 u (gk 0) u u<|fun x3 r_3 p10 c10=>qU .s 0 u u u<|zF<|jrn<|
  wR u lN (fun _ k=>k p10 c10 r_3) [0,7,2,3,4,5,6] ⟨gk 0,d⟩
theorem zH9 {qd : Prop} {y0 : List Int} {y1 : List (List Int)} {y3 : zT} {y4 : wQ} {y5 : zO} {y6 : Bool} : qA qd prog 50 [sv p1 y0 c1, .func (.func 72) #[] #[pt b1 0, pt b2 0]] [bx b1 40 [sv p2 y1 c2], r_1, bx b2 55 [.func (.func 27) #[] #[pt b3 0, pt b4 0, pt b5 0, pt b6 0]], bx b3 26 [sv p3 y3.1 c3, sv p4 y3.2.1 c4, sv p5 y3.2.2 c5], bx b4 28 [vi y4.1, vi y4.2], bx b5 30 [vb y5.1, vs y5.2], bx b6 4 [vb y6]] [Rl (eInt .i64) p1 c1 y0, Al (eSlice (eInt .i64)) 31 r_1 p2 c2 y1, Rl e_Premise p3 c3 y3.1, Rl e_Rule p4 c4 y3.2.1, Rl e_Promotion p5 c5 y3.2.2, Pt (eArr 64 (eInt .u8)) 0 0 tab_math_bits_deBruijn64tab] (zAi y0 y1 y3 y4 y5 y6) fun r K=>∀ p6 c6 r_2,K (.tuple #[]) [bx b1 40 [sv p6 r c6], r_2, bx b2 55 [.func (.func 27) #[] #[pt b3 0, pt b4 0, pt b5 0, pt b6 0]], bx b3 26 [sv p3 y3.1 c3, sv p4 y3.2.1 c4, sv p5 y3.2.2 c5], bx b4 28 [vi y4.1, vi y4.2], bx b5 30 [vb y5.1, vs y5.2], bx b6 4 [vb y6]] [Al (eSlice (eInt .i64)) 31 r_2 p6 c6 r] :=
 qE call50 func50 u fun X=>zB<|zA 2 u<|xO fun x1 h1=>jv (fun h=>zS8 h u u h1)<|zA 1 u<|zC<|zQ<|
  qP (fun s1 K=>∀ p6 c6 r_2,K [(0, sv p1 y0 c1), (1, .func (.func 72) #[] #[pt b1 0, pt b2 0]), (10, vi x1), (11, vi s1.1)] [bx b1 40 [sv p6 s1.2 c6], r_2, bx b2 55 [.func (.func 27) #[] #[pt b3 0, pt b4 0, pt b5 0, pt b6 0]], bx b3 26 [sv p3 y3.1 c3, sv p4 y3.2.1 c4, sv p5 y3.2.2 c5], bx b4 28 [vi y4.1, vi y4.2], bx b5 30 [vb y5.1, vs y5.2], bx b6 4 [vb y6]] [Al (eSlice (eInt .i64)) 31 r_2 p6 c6 s1.2, Rl (eInt .i64) p1 c1 y0, Rl e_Premise p3 c3 y3.1, Rl e_Rule p4 c4 y3.2.1, Rl e_Promotion p5 c5 y3.2.2, Pt (eArr 64 (eInt .u8)) 0 0 tab_math_bits_deBruijn64tab]) (gv (fun _ k=>k p2 c2 r_1) [0,1,2,3,4,5,6] ⟨gk 1,gk 0,gk 2,gk 3,gk 4,gk 5,d⟩)<|
  fun s1 _ k p6 c6 r_2=>k<|zB<|zA 1 u<|zC<|zG<|zI u (zL<|zD<|zG<|zQ<|zB<|zA 2 u<|zC<|zB<|zA 1 u<|vD (eInt .i64) 3<|zC<|
  wA (fun s2 K=>∀ p7 c7 r_3,K [(0, sv p1 y0 c1), (1, .func (.func 72) #[] #[pt b1 0, pt b2 0]), (5, sv p7 s2 c7), (10, vi x1), (11, vi s1.1)] [bx b1 40 [sv p6 s1.2 c6], r_2, bx b2 55 [.func (.func 27) #[] #[pt b3 0, pt b4 0, pt b5 0, pt b6 0]], bx b3 26 [sv p3 y3.1 c3, sv p4 y3.2.1 c4, sv p5 y3.2.2 c5], bx b4 28 [vi y4.1, vi y4.2], bx b5 30 [vb y5.1, vs y5.2], bx b6 4 [vb y6], r_3] [Al (eInt .i64) 3 r_3 p7 c7 s2, Rl (eInt .i64) p1 c1 y0, Al (eSlice (eInt .i64)) 31 r_2 p6 c6 s1.2, Rl e_Premise p3 c3 y3.1, Rl e_Rule p4 c4 y3.2.1, Rl e_Promotion p5 c5 y3.2.2, Pt (eArr 64 (eInt .u8)) 0 0 tab_math_bits_deBruijn64tab]) (
  zB<|zA 3 u<|zC<|zQ<|
  qP (fun s3 K=>∀ p8 c8 r_4,K [(0, sv p1 y0 c1), (1, .func (.func 72) #[] #[pt b1 0, pt b2 0]), (4, vi s1.1), (5, sv p8 s3.1 c8), (10, vi x1), (11, vi s1.1), (14, sv p1 y0 c1), (15, vi (len y0)), (16, vi s3.2)] [bx b1 40 [sv p6 s1.2 c6], r_2, bx b2 55 [.func (.func 27) #[] #[pt b3 0, pt b4 0, pt b5 0, pt b6 0]], bx b3 26 [sv p3 y3.1 c3, sv p4 y3.2.1 c4, sv p5 y3.2.2 c5], bx b4 28 [vi y4.1, vi y4.2], bx b5 30 [vb y5.1, vs y5.2], bx b6 4 [vb y6], r_4] [Al (eInt .i64) 3 r_4 p8 c8 s3.1, Rl (eInt .i64) p1 c1 y0, Al (eSlice (eInt .i64)) 31 r_2 p6 c6 s1.2, Rl e_Premise p3 c3 y3.1, Rl e_Rule p4 c4 y3.2.1, Rl e_Promotion p5 c5 y3.2.2, Pt (eArr 64 (eInt .u8)) 0 0 tab_math_bits_deBruijn64tab]) (gv (fun _ k=>k none 0 []) [0,1,2,3,4,5,6,7] ⟨gk 0,gk 2,gk 1,gk 3,gk 4,gk 5,gk 6,d⟩)<|
  fun s3 _ k p8 c8 r_4=>k<|zB<|zA 1 u<|zC<|zG<|zI u (zL<|zD<|zG<|zQ<|zB<|zA 1 u<|qX 1 u u u<|fun x2 b7 o1=>qW false oI (gk 0) u<|zA 2 u<|zC<|zB<|zA 2 u<|xO fun x3 h2=>jv (fun h=>zTi h u u h2)<|
  zA 2 u<|zC<|zI u (zM<|zA 2 u<|wV .s (e := eInt .i64) 3 [vi x2] ([x2] : List Int) (rC vI rN)<|fun p9 c9=>wM .s 7 2 u (gk 0) u u<|fun x4 r_5 p10 c10=>zA 1 u<|zF<|qD<|zD<|zM<|zA 2 u<|zF<|
  qF (gv (fun _ k=>k p10 c10 r_5) [0,1,2,3,4,5,6,7] ⟨gk 0,gk 4,gk 5,gk 6,gk 7,gk 8,gk 9,d⟩))<|zL<|qD<|zD<|zM<|zA 2 u<|zF<|qF (gv (fun _ k=>k p8 c8 r_4) [0,1,2,3,4,5,6,7] ⟨gk 1,gk 2,gk 3,gk 4,gk 5,gk 6,gk 7,d⟩))<|qM<|qL<|qO<|
  qN<|zN (gv (fun _ k=>k p8 c8 r_4) [0,1,2,3,4,5,6,7] ⟨gk 0,gk 1,gk 2,gk 3,gk 4,gk 5,gk 6,d⟩))<|fun s2 _ k p7 c7 r_3=>k<|zM<|zA 2 u<|wS 7 0 u u<|
  qH .s [0, 1, 2, 3, 4, 5, 6] [] zGg u u u ⟨ck 0,ck 3,ck 4,ck 5,ck 6,ck 7,d⟩<|fun r1 _ k p11 c11 r_6=>k<|zF<|qD<|zD<|zM<|zA 2 u<|zF<|
  qF (gv (fun _ k=>k p11 c11 r_6) [0,1,2,3,4,5,6] ⟨gk 0,gk 3,gk 5,gk 6,gk 7,gk 8,d⟩))<|qM<|qL<|qO<|qN<|jrn<|wR u lN (fun _ k=>k p6 c6 r_2) [0,1,2,3,4,5,6] ⟨gk 0,d⟩
theorem zIc {qd : Prop} {y0 : List Int} {y1 : List Int} : qA qd prog 58 [sv p1 y0 c1, sv p2 y1 c2] [] [Rl (eInt .i64) p1 c1 y0, Rl (eInt .i64) p2 c2 y1] (zAH y0 y1) fun r K=>K (vi r) [] [] :=
 qE call58 func58 u fun X=>zB<|zA 1 u<|zC<|jjo (fun s1 K=>K [(0, sv p1 y0 c1), (1, sv p2 y1 c2)] [] [Rl (eInt .i64) p1 c1 y0, Rl (eInt .i64) p2 c2 y1]) (zB<|zA 3 u<|zC<|zQ<|
  qP (fun s2 K=>K [(0, sv p1 y0 c1), (1, sv p2 y1 c2), (9, sv p1 y0 c1), (10, vi (len y0)), (11, vi s2)] [] [Rl (eInt .i64) p1 c1 y0, Rl (eInt .i64) p2 c2 y1]) (gv kk [] ⟨gk 0,gk 1,d⟩)<|fun s2 _ k=>k<|zB<|zA 1 u<|zC<|zG<|
  zI u (zL<|zD<|zG<|zQ<|zB<|zA 1 u<|qX 0 u u u<|fun x1 b1 o1=>qW false oI (gk 0) u<|zA 2 u<|zC<|zG<|zB<|zA 4 u<|zC<|zI u (zB<|zA 1 u<|zC<|zK<|qC<|qV<|qC<|wX<|qV<|wX<|zS u u kk [] d
  )<|zL<|zD<|zB<|zA 2 u<|qX 2 u u u<|fun x2 b2 o2=>qW false oI (gk 0) u<|zA 1 u<|zC<|zB<|zA 2 u<|qI zAq u d<|fun r1 _ k=>k<|zA 1 u<|zC<|zB<|zA 2 u<|zC<|zI u (zB<|zA 2 u<|zC<|zK<|
  qV<|qC<|wX<|qV<|wX<|zS u u kk [] d)<|zL<|qD<|zD<|zM<|zA 2 u<|zF<|qF (gv kk [] ⟨gk 2,gk 3,d⟩))<|qM<|qL<|qO<|qN<|qF (gv kk [] ⟨gk 0,gk 1,d⟩))<|fun s1 _ k=>k<|zG<|zB<|zA 5 u<|zC<|
  zI u (zB<|zA 1 u<|zC<|zK<|qC<|zS u u kk [] d)<|zL<|zD<|zB<|zA 1 u<|zC<|zK<|zS u u kk [] d
theorem zNa {qd : Prop} {y0 : List Int} {y1 : List Int} : qA qd prog 73 [sv p1 y0 c1, sv p2 y1 c2] [] [Rl (eInt .i64) p1 c1 y0, Rl (eInt .i64) p2 c2 y1] (zCK y0 y1) fun r K=>K (vi r) [] [] :=
 qE call73 func73 u fun X=>zB<|zA 1 u<|zC<|zB<|zA 2 u<|qI zIc u ⟨ck 0,ck 1,d⟩<|fun r1 _ k=>k<|zA 1 u<|zC<|zK<|zS u u kk [] d
theorem zBl {qd : Prop} {y0 : List (List Int)} : qA qd prog 56 [sv p1 y0 c1, .func (.func 73) #[] #[]] [r_1] [Al (eSlice (eInt .i64)) 31 r_1 p1 c1 y0] (zAB y0) fun r K=>∀ r_2,K (.tuple #[]) [r_2] [Ar (eSlice (eInt .i64)) 31 r_2 p1 c1 (List.length y0) r] := ⟨call56, fun A w0 r hm hO hF => by
 have h := zWb (qd := qd) Go.Proofs.Tryz.sort56 (e := eSlice (eInt .i64)) u (te := 31) zCK 73 (enters_of func73 (by kernel_rfl) u) (fun A w vx vy x y n hn hO hx hy => ?_) hO hF.1.1 hm
 · change Calls prog 56 _ _ _ at h
   refine h.mono fun e w' h => ?_
   cases e with
   | returned v => obtain ⟨r', rfl, h1, h2, h3, h4⟩ := h; exact fun G k => k r' ⟨rfl, h1, h2, ⟨h3, h4.symm⟩, trivial⟩
   | panicked ch => exact h
   | outgrown => exact h
 · obtain ⟨q1, d1, e1, k1⟩ := hx
   obtain ⟨q2, d2, e2, k2⟩ := hy
   cases e1
   cases e2
   refine ((zNa (qd := True) (y0 := x) (y1 := y)).go A w n hn hO ⟨R.of k1, R.of k2, trivial⟩).mono fun e w' h => ?_
   cases e with
   | returned v => exact h _ fun ⟨e1, q⟩ => ⟨e1, q.e⟩
   | panicked ch => exact h
   | outgrown => exact h⟩
theorem zH4 {qd : Prop} {y0 : List Int} {y1 : zT} {y2 : wQ} {y3 : zO} {y4 : Bool} : qA qd prog 26 [sv p1 y0 c1, .func (.func 27) #[] #[pt b1 0, pt b2 0, pt b3 0, pt b4 0]] [bx b1 26 [sv p2 y1.1 c2, sv p3 y1.2.1 c3, sv p4 y1.2.2 c4], bx b2 28 [vi y2.1, vi y2.2], bx b3 30 [vb y3.1, vs y3.2], bx b4 4 [vb y4]] [Rl (eInt .i64) p1 c1 y0, Rl e_Premise p2 c2 y1.1, Rl e_Rule p3 c3 y1.2.1, Rl e_Promotion p4 c4 y1.2.2, Pt (eArr 64 (eInt .u8)) 0 0 tab_math_bits_deBruijn64tab] (zBM y0 y1 y2 y3 y4) fun r K=>∀ p5 c5,K (sv p5 r c5) [bx b1 26 [sv p2 y1.1 c2, sv p3 y1.2.1 c3, sv p4 y1.2.2 c4], bx b2 28 [vi y2.1, vi y2.2], bx b3 30 [vb y3.1, vs y3.2], bx b4 4 [vb y4]] [Rl (eSlice (eInt .i64)) p5 c5 r] :=
 qE call26 func26 u fun X=>zB<|qT .s u<|fun b5=>zA 1 u<|zC<|zB<|wL .s (.slice none 0 0)<|fun b6=>vD (eSlice (eInt .i64)) 31<|zC<|zB<|zA 2 u<|
  qH .s [5, 6, 4, 0, 1, 2, 3] [] zH9 u u u ⟨ck 1,ck 0,ck 2,ck 3,ck 4,ck 5,d⟩<|fun r1 _ k p5 c5 r_1=>k<|zC<|zB<|zV 5 u u u<|
  qH .s [6] [] zBl u u u ⟨ck 0,d⟩<|fun r2 _ k r_2=>k<|zC<|zB<|zV 5 u u u<|zA 1 u<|zC<|zK<|wS 6 0 u u<|jre 0 4 u u<|zS u u (fun _ k=>k p5 c5) [0,1,2,3] ⟨gk 0,d⟩
theorem zOL {qd : Prop} {y0 : zT} {y1 : wQ} {y2 : zO} : qA qd prog 10 [.agg #[sv p1 y0.1 c1, sv p2 y0.2.1 c2, sv p3 y0.2.2 c3], .agg #[vi y1.1, vi y1.2], .agg #[vb y2.1, vs y2.2]] [] [Rl e_Premise p1 c1 y0.1, Rl e_Rule p2 c2 y0.2.1, Rl e_Promotion p3 c3 y0.2.2, Pt (eArr 64 (eInt .u8)) 0 0 tab_math_bits_deBruijn64tab] (zBq y0 y1 y2) fun r K=>∀ p4 c4,K (.tuple #[sv p4 r.1 c4, vi r.2]) [] [Rl (eSlice (eInt .i64)) p4 c4 r.1] :=
 qE call10 func10 u fun X=>zB<|qT .s u<|fun b1=>qT .s u<|fun b2=>qT .s u<|fun b3=>zA 2 u<|zC<|zG<|zB<|qK 0 3 u u u<|qK 1 2 u u u<|qI zKg u ⟨ck 0,ck 1,ck 2,ck 3,d⟩<|fun r1 _ k p4 c4 p5 c5 p6 c6 p7 c7 p8 c8 p9 c9=>k<|
  zA 3 u<|wL .s (.agg #[.slice none 0 0, .slice none 0 0, .slice none 0 0, .slice none 0 0, .slice none 0 0, vi 0, .slice none 0 0])<|fun b4=>qU .s 3 u u u<|zA 1 u<|zC<|zB<|zA 2 u<|zC<|zI u (zB<|zA 3 u<|zC<|zK<|
  qC<|wR u (lT u (lT u lN)) (fun _ k=>k none 0) [] ⟨gn,d⟩)<|zL<|zD<|zG<|zQ<|zB<|qK 2 2 u u u<|qI zFk u d<|fun r2 _ k=>k<|zA 2 u<|zC<|zI u (zB<|zA 2 u<|zC<|zK<|qV<|qC<|
  wR u (lT u (lT u lN)) (fun _ k=>k none 0) [] ⟨gn,d⟩)<|zB<|zU 0 u<|zV 0 u u u<|zA 3 u<|zC<|zI u (zB<|zA 2 u<|zC<|zK<|qV<|qC<|wR u (lT u (lT u lN)) (fun _ k=>k none 0) [] ⟨gn,d⟩)<|zL<|qD<|zD<|
  zB<|zA 1 u<|vD (eInt .i64) 3<|zC<|
  wA (fun s1 K=>∀ p10 c10 r_1,K [(3, pt b1 0), (4, pt b2 0), (5, pt b3 0), (10, sv p10 s1 c10)] [bx b1 26 [sv p1 y0.1 c1, sv p2 y0.2.1 c2, sv p3 y0.2.2 c3], bx b2 28 [vi y1.1, vi y1.2], bx b3 30 [vb y2.1, vs y2.2], [], r_1] [Al (eInt .i64) 3 r_1 p10 c10 s1, Rl e_Premise p1 c1 y0.1, Rl e_Rule p2 c2 y0.2.1, Rl e_Promotion p3 c3 y0.2.2, Pt (eArr 64 (eInt .u8)) 0 0 tab_math_bits_deBruijn64tab]) (
  zB<|zU 0 u<|zV 0 u u u<|zA 2 u<|zC<|zQ<|
  qP (fun s2 K=>∀ p11 c11 r_2,K [(3, pt b1 0), (4, pt b2 0), (5, pt b3 0), (10, sv p11 s2.1 c11), (34, vi (len y0.1)), (35, vi s2.2)] [bx b1 26 [sv p1 y0.1 c1, sv p2 y0.2.1 c2, sv p3 y0.2.2 c3], bx b2 28 [vi y1.1, vi y1.2], bx b3 30 [vb y2.1, vs y2.2], [], r_2] [Al (eInt .i64) 3 r_2 p11 c11 s2.1, Rl e_Premise p1 c1 y0.1, Rl e_Rule p2 c2 y0.2.1, Rl e_Promotion p3 c3 y0.2.2, Pt (eArr 64 (eInt .u8)) 0 0 tab_math_bits_deBruijn64tab]) (gv (fun _ k=>k none 0 []) [0,1,2,903,4] ⟨gk 0,gk 7,gk 8,gk 9,gk 10,d⟩)<|
  fun s2 _ k p11 c11 r_2=>k<|zB<|zA 1 u<|zC<|zG<|zI u (zL<|zD<|zG<|zQ<|zB<|zA 2 u<|zC<|zM<|zA 2 u<|wV .s (e := eInt .i64) 3 [vi s2.2] ([s2.2] : List Int) (rC vI rN)<|fun p12 c12=>wM .s 4 1 u (gk 0) u u<|
  fun x1 r_3 p13 c13=>zA 1 u<|zF<|qD<|zD<|zM<|zA 2 u<|zF<|qF (gv (fun _ k=>k p13 c13 r_3) [0,1,2,903,4] ⟨gk 0,gk 3,gk 4,gk 5,gk 6,d⟩))<|qM<|qL<|qO<|qN<|
  zN (gv (fun _ k=>k p11 c11 r_2) [0,1,2,903,4] ⟨gk 0,gk 1,gk 2,gk 3,gk 4,d⟩))<|fun s1 _ k p10 c10 r_1=>k<|zB<|qK 0 3 u u u<|qK 1 2 u u u<|qK 2 2 u u u<|qI zJ7 u ⟨ck 1,ck 2,ck 3,cn,ck 4,d⟩<|
  fun r3 _ k=>k<|wL .s (vb false)<|fun b5=>qU .s 5 u u u<|zC<|zB<|zA 2 u<|wS 4 0 u u<|qH .s [0, 1, 2, 5] [] zH4 u u u ⟨ck 0,ck 2,ck 3,ck 4,ck 5,d⟩<|fun r4 _ k p14 c14=>k<|zA 1 u<|
  zC<|zG<|zB<|zA 3 u<|zC<|zI u (zB<|zA 2 u<|zC<|zK<|qC<|wR u (lT u (lT u lN)) (fun _ k=>k none 0) [] ⟨gn,d⟩)<|zL<|zD<|zB<|zA 3 u<|zC<|zK<|wR u (lT u (lT u lN)) (fun _ k=>k p14 c14) [] ⟨gk 0,d⟩
theorem zTW {qd : Prop} {y0 : List Int} {y1 : List Int} : qA qd prog 30 [sv p1 y0 c1, sv p2 y1 c2] [] [Rl (eInt .i64) p1 c1 y0, Rl (eInt .i64) p2 c2 y1] (zIz y0 y1) fun r K=>K (vb r) [] [] :=
 qE call30 func30 u fun X=>zB<|zA 1 u<|zC<|zG<|zB<|zA 5 u<|zC<|zI u (zB<|zA 1 u<|zC<|zK<|qC<|zS u u kk [] d)<|zL<|zD<|zG<|zB<|zA 3 u<|zC<|zQ<|
  qP (fun s1 K=>K [(0, sv p1 y0 c1), (1, sv p2 y1 c2), (12, vi (len y0)), (13, vi s1)] [] [Rl (eInt .i64) p1 c1 y0, Rl (eInt .i64) p2 c2 y1]) (gv kk [] ⟨gk 0,gk 1,d⟩)<|fun s1 _ k=>k<|zB<|zA 1 u<|zC<|zG<|zI u (zL<|zD<|
  zG<|zQ<|zB<|zA 2 u<|zC<|yK [] [] 9<|zX 7 [0,1] u<|vJ 2 0 u u u u<|fun x1 b1 o1=>vH 3 false oI u (gk 0) u<|zX 3 [4,5] u<|vJ 6 2 u u u u<|fun x2 b2 o2=>vH 7 false oI u (gk 0) u<|zX 0 [8] u<|qS<|
  zD<|zI u (zB<|zA 1 u<|zC<|zK<|qV<|qC<|wX<|qV<|qC<|zS u u kk [] d)<|zL<|qD<|zD<|zM<|zA 2 u<|zF<|qF (gv kk [] ⟨gk 2,gk 3,d⟩))<|qM<|qL<|qO<|qN<|zD<|zB<|zA 1 u<|zC<|zK<|
  zS u u kk [] d
theorem zLV {qd : Prop} {y0 : List (List Int)} {y1 : List (List Int)} : qA qd prog 12 [sv p1 y0 c1, sv p2 y1 c2] [] [Rl (eSlice (eInt .i64)) p1 c1 y0, Rl (eSlice (eInt .i64)) p2 c2 y1] (zED y0 y1) fun r K=>K (vb r) [] [] :=
 qE call12 func12 u fun X=>zB<|zA 1 u<|zC<|zG<|zB<|zA 5 u<|zC<|zI u (zB<|zA 1 u<|zC<|zK<|qC<|zS u u kk [] d)<|zL<|zD<|zG<|zB<|zA 3 u<|zC<|zQ<|
  qP (fun s1 K=>K [(0, sv p1 y0 c1), (1, sv p2 y1 c2), (12, vi (len y0)), (13, vi s1)] [] [Rl (eSlice (eInt .i64)) p1 c1 y0, Rl (eSlice (eInt .i64)) p2 c2 y1]) (gv kk [] ⟨gk 0,gk 1,d⟩)<|fun s1 _ k=>k<|zB<|zA 1 u<|zC<|zG<|
  zI u (zL<|zD<|zG<|zQ<|zB<|zA 2 u<|zC<|yK [] [] 10<|zX 8 [0,1] u<|vJ 2 0 u u u u<|fun x1 b1 o1=>vH 3 false oL u (gk 0) u<|fun p3 c3=>zX 4 [4,5] u<|vJ 6 3 u u u u<|fun x2 b2 o2=>
  vH 7 false oL u (gk 0) u<|fun p4 c4=>qG 8<|qH (.f u) [] [] zTW u u u ⟨ck 2,ck 0,d⟩<|fun r1 _ k=>k<|zZ<|zX 0 [9] u<|qS<|zD<|zI u (zB<|zA 1 u<|zC<|zK<|qV<|qC<|wX<|qV<|qC<|
  zS u u kk [] d)<|zL<|qD<|zD<|zM<|zA 2 u<|zF<|qF (gv kk [] ⟨gk 4,gk 5,d⟩))<|qM<|qL<|qO<|qN<|zD<|zB<|zA 1 u<|zC<|zK<|zS u u kk [] d
theorem zUi {qd : Prop} {y0 : List Int} : qA qd prog 6 [sv p1 y0 c1] [] [Rl (eInt .i64) p1 c1 y0] (zLh y0) fun r K=>∀ b1 p2 c2,K (pt b1 0) [bx b1 61 [sv p2 r.1 c2, vi r.2]] [Rl (eInt .i64) p2 c2 r.1] :=
 qE call6 func6 u fun X=>zB<|zA 1 u<|zC<|zB<|zA 4 u<|jsl (gk 0) u u u (.inl ⟨rfl, rfl⟩) (.inr ⟨_, rfl⟩)<|fun x1 p2 c2=>zJ (.agg #[sv p2 x1 c2, vi 0])<|qT .s u<|fun b1=>zA 1 u<|zC<|zK<|zS u u (fun _ k=>k b1 p2 c2) [0] ⟨gk 0,d⟩
theorem zQU {qd : Prop} {y0 : Int} {y1 : Int} : qA qd prog 59 [vi y0, vi y1] [] [] (zIq y0 y1) fun r K=>K (vi r) [] [] :=
 qE call59 func59 u fun X=>zB<|zA 1 u<|zC<|zG<|zB<|zA 2 u<|zC<|zI u (zB<|zA 1 u<|zC<|zK<|qC<|zS u u kk [] d)<|zL<|zD<|zB<|zA 2 u<|xO fun x1 h1=>jv (fun h=>r_remK h u u h1)<|zA 1 u<|zC<|zG<|zB<|zA 2 u<|zC<|
  zI u (zM<|zA 4 u<|zF<|zD<|zB<|zA 2 u<|zC<|zK<|zS u u kk [] d)<|zL<|zD<|zB<|zA 2 u<|zC<|zK<|zS u u kk [] d
theorem zLT {qd : Prop} {y0 : Int} : qA qd prog 20 [vi y0] [] [] (zDi y0) fun r K=>K (vs r) [] [] :=
 qE call20 func20 u fun X=>zB<|zA 1 u<|zC<|zB<|zA 1 u<|qI zQU u d<|fun r1 _ k=>k<|zA 1 u<|zJ (.int .u8 (IntKind.u8.wrap (zR ((97 : Int) + r1))))<|
  wV .s (e := eInt .u8) 5 [.int .u8 (IntKind.u8.wrap (zR ((97 : Int) + r1)))] ([IntKind.u8.wrap (zR ((97 : Int) + r1))] : List Int) (rC vI rN)<|fun p1 c1=>jsb .s (gk 0) u underlying76 underlying5 underlying9<|xO fun x1 h1=>
  jv (fun h=>r_cat h u u h1)<|zA 1 u<|zC<|zK<|zS u u kk [] d
theorem zPs {qd : Prop} {y0 : uC} : qA qd prog 60 [pt b1 0] [bx b1 61 [sv p1 y0.1 c1, vi y0.2]] [Rl (eInt .i64) p1 c1 y0.1] (zIB y0) fun r K=>K (vi r.1) [bx b1 61 [sv p1 y0.1 c1, vi r.2]] [] :=
 qE call60 func60 u fun X=>zB<|zA 1 u<|zC<|zG<|yK [] [0] 10<|zX 8 [0,1] u<|qQ 2 1 u u<|qZ 3 0 u u u u<|zX 4 [4,5] u<|qQ 6 0 u u<|qZ 7 0 u u u u<|zX 0 [8,9] u<|qS<|zD<|zI u (zB<|zA 1 u<|zC<|zK<|qC<|
  zS u u kk [0] d)<|zL<|zD<|zB<|zA 2 u<|zU 1 u<|zV 0 u u u<|zA 2 u<|zU 1 u<|qU .s 0 u u u<|zC<|yK [] [0] 12<|zX 10 [0,1] u<|qQ 2 0 u u<|qZ 3 0 u u u u<|zX 6 [4,5] u<|
  qQ 6 1 u u<|qZ 7 0 u u u u<|zX 3 [8] u<|vJ 9 0 u u u u<|fun x1 b2 o1=>vH 10 false oI u (gk 0) u<|zX 0 [11] u<|qS<|zD<|zK<|zS u u kk [0] d
theorem zAZ {qd : Prop} {y0 : uC} {y1 : Int} : qA qd prog 17 [pt b1 0, vi y1] [bx b1 61 [sv p1 y0.1 c1, vi y0.2]] [Rl (eInt .i64) p1 c1 y0.1] (xF y0 y1) fun r K=>K (vi r.1) [bx b1 61 [sv p1 y0.1 c1, vi r.2]] [] :=
 qE call17 func17 u fun X=>zB<|zA 1 u<|zC<|zB<|zA 1 u<|qH .s [0] [] zPs u u u ⟨ck 0,d⟩<|fun r1 _ k=>k<|zA 1 u<|qI zQU u d<|fun r2 _ k=>k<|zA 1 u<|zC<|zK<|zS u u kk [0] d
theorem zDC {qd : Prop} {y0 : uC} {y1 : Int} : qA qd prog 9 [pt b1 0, vi y1] [bx b1 61 [sv p1 y0.1 c1, vi y0.2]] [Rl (eInt .i64) p1 c1 y0.1] (zAf y0 y1) fun r K=>K (.agg #[vb r.1.1, vs r.1.2]) [bx b1 61 [sv p1 y0.1 c1, vi r.2]] [] :=
 qE call9 func9 u fun X=>zB<|wL .s (.agg #[vb false, vs []])<|fun b2=>zC<|zB<|zA 3 u<|qH .s [0] [] zAZ u u u ⟨ck 0,d⟩<|fun r1 _ k=>k<|zA 1 u<|zC<|zB<|zA 4 u<|xO fun x1 h1=>jv (fun h=>r_quoK h u u h1)<|zA 1 u<|
  zJ (.int .u8 (IntKind.u8.wrap (zR ((97 : Int) + x1))))<|wV .s (e := eInt .u8) 5 [.int .u8 (IntKind.u8.wrap (zR ((97 : Int) + x1)))] ([IntKind.u8.wrap (zR ((97 : Int) + x1))] : List Int) (rC vI rN)<|fun p2 c2=>
  jsb .s (gk 0) u underlying76 underlying5 underlying9<|zJ (.agg #[vb ((vZ .i64 r1.1 1) == 1), vs (zOZ ([IntKind.u8.wrap (zR ((97 : Int) + x1))] : List Int))])<|qU .s 1 u u u<|zC<|zK<|
  wR u (lC 1 (.agg #[vb ((vZ .i64 r1.1 1) == 1), vs (zOZ ([IntKind.u8.wrap (zR ((97 : Int) + x1))] : List Int))]) u u lN) kk [0] d
theorem zMb {qd : Prop} {y0 : uC} {y1 : Int} {y2 : Int} : qA qd prog 22 [pt b1 0, vi y1, vi y2] [bx b1 61 [sv p1 y0.1 c1, vi y0.2]] [Rl (eInt .i64) p1 c1 y0.1] (zEY y0 y1 y2) fun r K=>∀ p2 c2,K (sv p2 r.1 c2) [bx b1 61 [sv p1 y0.1 c1, vi r.2]] [Rl e_Literal p2 c2 r.1] :=
 qE call22 func22 u fun X=>zB<|zA 1 u<|zC<|zB<|zA 1 u<|vD e_Literal 30<|zC<|zG<|zB<|zA 3 u<|qH .s [0] [] zAZ u u u ⟨ck 1,d⟩<|fun r1 _ k=>k<|zA 1 u<|zC<|zQ<|
  qP (fun s1 K=>∀ p2 c2 r_1,K [(0, pt b1 0), (2, vi y2), (7, sv p2 s1.1 c2), (8, vi s1.2.1)] [bx b1 61 [sv p1 y0.1 c1, vi s1.2.2], r_1] [Al e_Literal 30 r_1 p2 c2 s1.1, Rl (eInt .i64) p1 c1 y0.1]) (gv (fun _ k=>k none 0 []) [0,1] ⟨gk 0,gk 1,d⟩)<|
  fun s1 _ k p2 c2 r_1=>k<|zG<|zB<|zA 2 u<|zC<|zI u (zL<|zD<|zG<|zQ<|zM<|zA 3 u<|qH .s [0] [] zDC u u u ⟨ck 1,d⟩<|fun r2 _ k=>k<|
  wV .s (e := e_Literal) 30 [vb r2.1.1, vs r2.1.2] ([r2.1] : List zO) (rC (vP vB vS) rN)<|fun p3 c3=>wM .s 1 1 u (gk 0) u u<|fun x1 r_2 p4 c4=>zA 1 u<|zF<|qD<|zD<|zM<|zA 3 u<|zF<|
  qF (gv (fun _ k=>k p4 c4 r_2) [0,1] ⟨gk 0,gk 3,d⟩))<|qM<|qL<|qO<|qN<|zD<|zB<|zA 2 u<|zC<|zK<|wS 1 0 u u<|zS u u (fun _ k=>k p2 c2) [0] ⟨gk 0,d⟩
theorem zPY {qd : Prop} {y0 : uC} {y1 : List Int} : qA qd prog 18 [pt b1 0, sv p2 y1 c2] [bx b1 61 [sv p1 y0.1 c1, vi y0.2]] [Rl (eInt .i64) p1 c1 y0.1, Rl (eInt .i64) p2 c2 y1] (zHN y0 y1) fun r K=>K (vi r.1) [bx b1 61 [sv p1 y0.1 c1, vi r.2]] [] :=
 qE call18 func18 u fun X=>zB<|zA 1 u<|zC<|zB<|zA 4 u<|qH .s [0] [] zAZ u u u ⟨ck 0,d⟩<|fun r1 _ k=>k<|qX 1 u u u<|fun x1 b2 o1=>qW false oI (gk 0) u<|zA 1 u<|zC<|zK<|zS u u kk [0] d
theorem zOy {qd : Prop} {y0 : uC} {y1 : List wZ} : qA qd prog 19 [pt b1 0, sv p2 y1 c2] [bx b1 61 [sv p1 y0.1 c1, vi y0.2]] [Rl (eInt .i64) p1 c1 y0.1, Rl eStr p2 c2 y1] (zGw y0 y1) fun r K=>K (vs r.1) [bx b1 61 [sv p1 y0.1 c1, vi r.2]] [] :=
 qE call19 func19 u fun X=>zB<|zA 1 u<|zC<|zB<|zA 4 u<|qH .s [0] [] zAZ u u u ⟨ck 0,d⟩<|fun r1 _ k=>k<|qX 1 u u u<|fun x1 b2 o1=>qW false oS (gk 0) u<|zA 1 u<|zC<|zK<|zS u u kk [0] d
theorem zQl {qd : Prop} {y0 : List zO} : qA qd prog 21 [sv p1 y0 c1] [] [Rl e_Literal p1 c1 y0] (zIm y0) fun r K=>∀ p2 c2,K (sv p2 r c2) [] [Rl e_Literal p2 c2 r] :=
 qE call21 func21 u fun X=>zB<|zA 1 u<|zC<|zB<|zA 1 u<|vD e_Literal 30<|zC<|zG<|zB<|zA 3 u<|zC<|zQ<|
  qP (fun s1 K=>∀ p2 c2 r_1,K [(3, sv p2 s1.1 c2), (7, sv p1 y0 c1), (8, vi (len y0)), (9, vi s1.2)] [r_1] [Al e_Literal 30 r_1 p2 c2 s1.1, Rl e_Literal p1 c1 y0]) (gv (fun _ k=>k none 0 []) [0] ⟨gk 0,gk 1,d⟩)<|fun s1 _ k p2 c2 r_1=>k<|
  zB<|zA 1 u<|zC<|zG<|zI u (zL<|zD<|zG<|zQ<|zB<|qX 1 u u u<|fun x1 b1 o1=>qW true yM (gk 0) u<|wL .s (.agg #[vb false, vs []])<|fun b2=>qU .s 1 u u u<|zC<|zB<|zA 1 u<|zC<|
  wA (fun s2 K=>K [(3, sv p2 s1.1 c2), (5, pt b2 0), (6, vi s2), (7, sv p1 y0 c1), (8, vi (len y0)), (9, vi s1.2)] [r_1, bx b2 30 [vb x1.1, vs x1.2]] [Al e_Literal 30 r_1 p2 c2 s1.1, Rl e_Literal p1 c1 y0]) (zQ<|
  qP (fun s3 K=>K [(3, sv p2 s1.1 c2), (5, pt b2 0), (6, vi s3), (7, sv p1 y0 c1), (8, vi (len y0)), (9, vi s1.2)] [r_1, bx b2 30 [vb x1.1, vs x1.2]] [Al e_Literal 30 r_1 p2 c2 s1.1, Rl e_Literal p1 c1 y0]) (gv kk [0,1] ⟨gk 1,gk 2,d⟩)<|
  fun s3 _ k=>k<|zG<|wA (fun s4 K=>K [(3, sv p2 s1.1 c2), (5, pt b2 0), (6, vi s3), (7, sv p1 y0 c1), (8, vi (len y0)), (9, vi s1.2), (48, vb s4)] [r_1, bx b2 30 [vb x1.1, vs x1.2]] [Al e_Literal 30 r_1 p2 c2 s1.1, Rl e_Literal p1 c1 y0]) (
  yN [] [0, 1] 36<|zX 31 [0,1,2,3,4] u<|wH 17 u (zX 29 [5,6] u<|xW 7 0 u u u u<|fun x2 h1 b3 hp1=>qQ 8 1 u u<|xU 9 0 0 sI.snd false oS u u hp1 h1 u<|qQ 10 1 u u<|qZ 11 1 u u u u<|
  zX 22 [12,13] u<|wH 26 u (zX 2 [14,15,16,17,18,19,20,21,22,23,24,25,26,27,28,29,30,31,32,33] u<|wC 34 (vb true) u<|wC 35 (vb true) u<|qS<|zN (gv kk [0,1] ⟨gk 0,gk 1,d⟩))<|zX 20 [14,15] u<|
  xW 16 0 u u u u<|fun x3 h2 b4 hp2=>qQ 17 1 u u<|xU 18 0 0 sI.snd false oS u u hp2 h2 u<|qQ 19 1 u u<|qZ 20 1 u u u u<|zX 13 [21,22] u<|wH 35 u (zX 11 [23,24] u<|xW 25 0 u u u u<|
  fun x4 h3 b5 hp3=>qQ 26 0 u u<|xU 27 0 0 sI.fst false oB u u hp3 h3 u<|zX 7 [28] u<|wC 29 (vb (!x4.1)) u<|zX 5 [30] u<|wH 43 u (qQ 31 0 u u<|qZ 32 1 u u u u<|wC 33 (vb x1.1) u<|wC 34 (vb x1.1) u<|
  wC 35 (vb x1.1) u<|qS<|zN (gv kk [0,1] ⟨gk 0,gk 1,d⟩))<|zX 3 [31,32] u<|wC 33 (vb false) u<|wC 34 (vb false) u<|wC 35 (vb false) u<|qS<|zN (gv kk [0,1] ⟨gk 0,gk 1,d⟩))<|
  zX 7 [23,24,25,26,27,28] u<|wC 29 (vb false) u<|zX 3 [30,31,32] u<|wC 33 (vb false) u<|wC 34 (vb false) u<|wC 35 (vb false) u<|qS<|zN (gv kk [0,1] ⟨gk 0,gk 1,d⟩))<|
  zX 1 [5,6,7,8,9,10,11,12,13,14,15,16,17,18,19,20,21,22,23,24,25,26,27,28,29,30,31,32,33,34] u<|wC 35 (vb false) u<|qS<|zN (gv kk [0,1] ⟨gk 0,gk 1,d⟩))<|fun s4 _ k=>k<|zI u (zL<|zD<|zQ<|zM<|zA 3 u<|zF<|qD<|
  qF (gv kk [0,1] ⟨gk 0,gk 1,d⟩))<|qM<|qL<|qO<|qN<|zN (gv kk [0,1] ⟨gk 0,gk 1,d⟩))<|fun s2 _ k=>k<|zG<|
  wA (fun s5 K=>K [(3, sv p2 s1.1 c2), (5, pt b2 0), (6, vi s2), (7, sv p1 y0 c1), (8, vi (len y0)), (9, vi s1.2), (62, vb s5)] [r_1, bx b2 30 [vb x1.1, vs x1.2]] [Al e_Literal 30 r_1 p2 c2 s1.1, Rl e_Literal p1 c1 y0]) (yN [] [0, 1] 12<|
  zX 7 [0,1,2,3,4] u<|wH 55 u (zX 5 [5,6] u<|xW 7 0 u u u u<|fun x5 h4 b6 hp4=>xU 8 0 0 sI true yM u u hp4 h4 u<|vM 9 1 2 u u u u<|wC 10 (vb (x5 == x1)) u<|wC 11 (vb (x5 == x1)) u<|qS<|
  zN (gv kk [0,1] ⟨gk 0,gk 1,d⟩))<|zX 1 [5,6,7,8,9,10] u<|wC 11 (vb false) u<|qS<|zN (gv kk [0,1] ⟨gk 0,gk 1,d⟩))<|fun s5 _ k=>k<|zI u (qM<|qL<|qN<|zD<|zM<|zA 2 u<|zF<|
  qF (gv (fun _ k=>k p2 c2 r_1) [0] ⟨gk 0,gk 1,d⟩))<|zL<|zD<|zB<|zA 1 u<|zJ (.agg #[vb false, vs []])<|wV .s (e := e_Literal) 30 [vb false, vs []] ([(false, [])] : List zO) (rC (vP vB vS) rN)<|fun p3 c3=>
  wM .s 0 1 u (gk 0) u u<|fun x6 r_2 p4 c4=>zA 1 u<|zC<|yK [] [] 8<|zX 5 [0,1,2] u<|jdV 3 0 u u u u<|fun u1 p5 c5 f1=>zX 2 [4,5] u<|jdV 6 0 u u u u<|fun u2 p6 c6 f2=>qG 7<|
  jcp (.f u) 0 0 u (vwV f1) (srV 0 0 f2 u) u u<|fun r_3=>zZ<|qS<|zD<|zM<|zA 2 u<|qK 1 2 u u u<|yH 0 u u u<|fun x7 h6 b7 hp5=>uX .s 0 0 sI x1 true u hp5 h6 u u (vP vB vS)<|fun r_4=>zF<|qD<|zD<|zM<|
  zA 2 u<|zF<|jrE 0 3 u u<|qF (gv (fun _ k=>k p4 c4 r_4) [0] ⟨gk 0,gk 6,d⟩))<|qM<|qL<|qO<|qN<|zD<|zB<|zA 2 u<|zC<|zK<|wS 0 0 u u<|zS u u (fun _ k=>k p2 c2) [] ⟨gk 0,d⟩
theorem zO9 {qd : Prop} {y0 : uC} {y1 : Int} {y2 : Int} {y3 : Int} : qA qd prog 7 [pt b1 0, vi y1, vi y2, vi y3] [bx b1 61 [sv p1 y0.1 c1, vi y0.2]] [Rl (eInt .i64) p1 c1 y0.1] (zHC y0 y1 y2 y3) fun r K=>∀ p2 c2 p3 c3 p4 c4,K (.agg #[sv p2 r.1.1 c2, sv p3 r.1.2.1 c3, sv p4 r.1.2.2 c4]) [bx b1 61 [sv p1 y0.1 c1, vi r.2]] [Rl e_Premise p2 c2 r.1.1, Rl e_Rule p3 c3 r.1.2.1, Rl e_Promotion p4 c4 r.1.2.2] :=
 qE call7 func7 u fun X=>zB<|wL .s (.agg #[.slice none 0 0, .slice none 0 0, .slice none 0 0])<|fun b2=>zC<|zB<|wL .s (.agg #[.slice none 0 0, .slice none 0 0, .slice none 0 0])<|fun b3=>vD e_Premise 67<|vD e_Rule 73<|vD e_Promotion 75<|zC<|
  wA (fun s1 K=>∀ p2 c2 r_1,K [(0, pt b1 0), (1, vi y1), (3, vi y3), (8, pt b2 0), (9, pt b3 0)] [bx b1 61 [sv p1 y0.1 c1, vi s1.1], bx b2 26 [.slice none 0 0, .slice none 0 0, .slice none 0 0], bx b3 26 [sv p2 s1.2 c2, sv none ([] : List wD) 0, sv none ([] : List vQ) 0], r_1, [], []] [Al e_Premise 67 r_1 p2 c2 s1.2, Rl (eInt .i64) p1 c1 y0.1, Al e_Rule 73 [] none 0 ([] : List wD), Al e_Promotion 75 [] none 0 ([] : List vQ)]) (
  zB<|zA 3 u<|qH .s [0] [] zAZ u u u ⟨ck 3,d⟩<|fun r1 _ k=>k<|zA 1 u<|zC<|zQ<|
  qP (fun s2 K=>∀ p3 c3 r_2,K [(0, pt b1 0), (1, vi y1), (3, vi y3), (8, pt b2 0), (9, pt b3 0), (10, vi s2.1)] [bx b1 61 [sv p1 y0.1 c1, vi s2.2.1], bx b2 26 [.slice none 0 0, .slice none 0 0, .slice none 0 0], bx b3 26 [sv p3 s2.2.2 c3, sv none ([] : List wD) 0, sv none ([] : List vQ) 0], r_2, [], []] [Al e_Premise 67 r_2 p3 c3 s2.2.2, Rl (eInt .i64) p1 c1 y0.1, Al e_Rule 73 [] none 0 ([] : List wD), Al e_Promotion 75 [] none 0 ([] : List vQ)]) (gv (fun _ k=>k none 0 []) [0,1,2,3,4,5] ⟨gk 2,gk 3,gk 1,gk 0,d⟩)<|
  fun s2 _ k p3 c3 r_2=>k<|zG<|zB<|zA 2 u<|zC<|zI u (zL<|zD<|zG<|zQ<|zB<|zA 2 u<|qH .s [0] [] zDC u u u ⟨ck 1,d⟩<|fun r2 _ k=>k<|zA 1 u<|
  wV .s (e := eInt .i64) 3 [vi 1, vi 2, vi 2, vi 2, vi 3] ([1, 2, 2, 2, 3] : List Int) (rC vI (rC vI (rC vI (rC vI (rC vI rN)))))<|fun p4 c4=>qH .s [0] [] zPY u u u ⟨ck 2,ck 0,d⟩<|fun r3 _ k=>k<|zA 1 u<|
  wV .s (e := eStr) 9 [vs [], vs [], vs [97, 110, 110], vs [98, 111, 98]] ([[], [], [97, 110, 110], [98, 111, 98]] : List wZ) (rC vS (rC vS (rC vS (rC vS rN))))<|fun p5 c5=>qH .s [0] [] zOy rfl u u ⟨ck 3,ck 0,d⟩<|
  fun r4 _ k=>k<|zJ (.agg #[vb r2.1.1, vs r2.1.2, vi r3.1, vi 0, vs r4.1])<|wL .s (.agg #[vb false, vs [], vi 0, vi 0, vs []])<|fun b4=>qU .s 6 u u u<|zC<|
  wA (fun s3 K=>K [(0, pt b1 0), (1, vi y1), (3, vi y3), (8, pt b2 0), (9, pt b3 0), (10, vi s2.1), (11, pt b4 0)] [bx b1 61 [sv p1 y0.1 c1, vi s3.1], bx b2 26 [.slice none 0 0, .slice none 0 0, .slice none 0 0], bx b3 26 [sv p3 s2.2.2 c3, sv none ([] : List wD) 0, sv none ([] : List vQ) 0], r_2, [], [], bx b4 67 [vb r2.1.1, vs r2.1.2, vi r3.1, vi s3.2, vs r4.1]] [Rl (eInt .i64) p1 c1 y0.1, Al e_Premise 67 r_2 p3 c3 s2.2.2, Al e_Rule 73 [] none 0 ([] : List wD), Al e_Promotion 75 [] none 0 ([] : List vQ)]) (
  zB<|zU 2 u<|zV 6 u u u<|zA 1 u<|zC<|zI u (zM<|zA 1 u<|qH .s [0] [] zAZ u u u ⟨ck 3,d⟩<|fun r5 _ k=>k<|zU 3 u<|qU .s 6 u u u<|zF<|
  zN (gv kk [0,1,2,3,4,5,6] ⟨gk 3,gk 2,gk 4,gk 5,d⟩))<|zL<|zN (gv kk [0,1,2,3,4,5,6] ⟨gk 3,gk 2,gk 4,gk 5,d⟩))<|fun s3 _ k=>k<|zB<|zA 1 u<|zC<|
  wA (fun s4 K=>K [(0, pt b1 0), (1, vi y1), (3, vi y3), (8, pt b2 0), (9, pt b3 0), (10, vi s2.1), (11, pt b4 0), (12, vb s4)] [bx b1 61 [sv p1 y0.1 c1, vi s3.1], bx b2 26 [.slice none 0 0, .slice none 0 0, .slice none 0 0], bx b3 26 [sv p3 s2.2.2 c3, sv none ([] : List wD) 0, sv none ([] : List vQ) 0], r_2, [], [], bx b4 67 [vb r2.1.1, vs r2.1.2, vi r3.1, vi s3.2, vs r4.1]] [Rl (eInt .i64) p1 c1 y0.1, Al e_Premise 67 r_2 p3 c3 s2.2.2, Al e_Rule 73 [] none 0 ([] : List wD), Al e_Promotion 75 [] none 0 ([] : List vQ)]) (
  zB<|zU 0 u<|zV 2 u u u<|zA 2 u<|zC<|zQ<|
  qP (fun s5 K=>K [(0, pt b1 0), (1, vi y1), (3, vi y3), (8, pt b2 0), (9, pt b3 0), (10, vi s2.1), (11, pt b4 0), (12, vb s5.1), (44, sv p3 s2.2.2 c3), (45, vi (len s2.2.2)), (46, vi s5.2)] [bx b1 61 [sv p1 y0.1 c1, vi s3.1], bx b2 26 [.slice none 0 0, .slice none 0 0, .slice none 0 0], bx b3 26 [sv p3 s2.2.2 c3, sv none ([] : List wD) 0, sv none ([] : List vQ) 0], r_2, [], [], bx b4 67 [vb r2.1.1, vs r2.1.2, vi r3.1, vi s3.2, vs r4.1]] [Al e_Premise 67 r_2 p3 c3 s2.2.2, Rl (eInt .i64) p1 c1 y0.1, Al e_Rule 73 [] none 0 ([] : List wD), Al e_Promotion 75 [] none 0 ([] : List vQ)]) (gv kk [0,1,2,3,4,5,6] ⟨gk 1,gk 0,gk 2,gk 3,d⟩)<|
  fun s5 _ k=>k<|zB<|zA 1 u<|zC<|zG<|zI u (zL<|zD<|zG<|zQ<|zB<|yH 0 u u u<|fun x1 h1 b5 hp1=>uV 3 0 sI true zIV u hp1 h1 u<|wL .s (.agg #[vb false, vs [], vi 0, vi 0, vs []])<|fun b6=>qU .s 7 u u u<|
  zC<|
  jjq (fun K=>K [(0, pt b1 0), (1, vi y1), (3, vi y3), (8, pt b2 0), (9, pt b3 0), (10, vi s2.1), (11, pt b4 0), (12, vb (s5.1 || (x1.1 == r2.1))), (44, sv p3 s2.2.2 c3), (45, vi (len s2.2.2)), (46, vi s5.2)] [bx b1 61 [sv p1 y0.1 c1, vi s3.1], bx b2 26 [.slice none 0 0, .slice none 0 0, .slice none 0 0], bx b3 26 [sv p3 s2.2.2 c3, sv none ([] : List wD) 0, sv none ([] : List vQ) 0], r_2, [], [], bx b4 67 [vb r2.1.1, vs r2.1.2, vi r3.1, vi s3.2, vs r4.1], []] [Al e_Premise 67 r_2 p3 c3 s2.2.2, Rl (eInt .i64) p1 c1 y0.1, Al e_Rule 73 [] none 0 ([] : List wD), Al e_Promotion 75 [] none 0 ([] : List vQ)]) (
  zM<|zA 2 u<|vY (b := s5.1) 51 u (fun hb1=>zA 5 u<|zJ (vb true)<|zA 1 u<|zF<|wN 12 (vb (s5.1 || (x1.1 == r2.1))) u (by rw [hb1]; rfl)<|zN (gv kk [0,1,2,3,4,5,6,907] ⟨gk 0,gk 1,gk 2,gk 3,d⟩))<|fun hb1=>
  zU 0 u<|qK 7 2 u u u<|zU 0 u<|qK 6 2 u u u<|zJ (vb (x1.1 == r2.1))<|zJ (vb (x1.1 == r2.1))<|zA 1 u<|zF<|wN 12 (vb (s5.1 || (x1.1 == r2.1))) u (by rw [hb1]; rfl)<|
  zN (gv kk [0,1,2,3,4,5,6,907] ⟨gk 0,gk 1,gk 2,gk 3,d⟩))<|fun _ k=>k<|qD<|zD<|zM<|zA 2 u<|zF<|qF (gv kk [0,1,2,3,4,5,6] ⟨gk 0,gk 1,gk 2,gk 3,d⟩))<|qM<|qL<|qO<|qN<|
  zN (gv kk [0,1,2,3,4,5,6] ⟨gk 1,gk 0,gk 2,gk 3,d⟩))<|fun s4 _ k=>k<|zB<|zA 2 u<|zC<|zI u (zM<|zU 0 u<|zV 2 u u u<|qK 6 5 u u u<|
  wV .s (e := e_Premise) 67 [vb r2.1.1, vs r2.1.2, vi r3.1, vi s3.2, vs r4.1] ([(r2.1, r3.1, s3.2, r4.1)] : List vE) (rC (vP (vP vB vS) (vP vI (vP vI vS))) rN)<|fun p6 c6=>wM .s 3 2 u (gk 0) u u<|fun x2 r_3 p7 c7=>zU 0 u<|
  qU .s 2 u u u<|zF<|qD<|zD<|zM<|zA 3 u<|zF<|qF (gv (fun _ k=>k p7 c7 r_3) [0,1,2,3,4,5] ⟨gk 0,gk 2,gk 4,gk 5,d⟩))<|zL<|qD<|zD<|zM<|zA 3 u<|zF<|qF (gv (fun _ k=>k p3 c3 r_2) [0,1,2,3,4,5] ⟨gk 1,gk 0,gk 2,gk 3,d⟩))<|
  qM<|qL<|qO<|qN<|zN (gv (fun _ k=>k p3 c3 r_2) [0,1,2,3,4,5] ⟨gk 0,gk 1,gk 2,gk 3,d⟩))<|fun s1 _ k p2 c2 r_1=>k<|
  wA (fun s6 K=>∀ p8 c8 r_4,K [(0, pt b1 0), (1, vi y1), (8, pt b2 0), (9, pt b3 0)] [bx b1 61 [sv p1 y0.1 c1, vi s6.1], bx b2 26 [.slice none 0 0, .slice none 0 0, .slice none 0 0], bx b3 26 [sv p2 s1.2 c2, sv p8 s6.2 c8, sv none ([] : List vQ) 0], r_1, r_4, []] [Al e_Rule 73 r_4 p8 c8 s6.2, Rl (eInt .i64) p1 c1 y0.1, Al e_Premise 67 r_1 p2 c2 s1.2, Al e_Promotion 75 [] none 0 ([] : List vQ)]) (
  zB<|zA 3 u<|qH .s [0] [] zAZ u u u ⟨ck 1,d⟩<|fun r6 _ k=>k<|zA 1 u<|zC<|zQ<|
  qP (fun s7 K=>∀ p9 c9 r_5,K [(0, pt b1 0), (1, vi y1), (3, vi y3), (8, pt b2 0), (9, pt b3 0), (15, vi s7.1)] [bx b1 61 [sv p1 y0.1 c1, vi s7.2.1], bx b2 26 [.slice none 0 0, .slice none 0 0, .slice none 0 0], bx b3 26 [sv p2 s1.2 c2, sv p9 s7.2.2 c9, sv none ([] : List vQ) 0], r_1, r_5, []] [Al e_Rule 73 r_5 p9 c9 s7.2.2, Rl (eInt .i64) p1 c1 y0.1, Al e_Premise 67 r_1 p2 c2 s1.2, Al e_Promotion 75 [] none 0 ([] : List vQ)]) (gv (fun _ k=>k none 0 []) [0,1,2,3,4,5] ⟨gk 2,gk 1,gk 0,gk 3,d⟩)<|
  fun s7 _ k p9 c9 r_5=>k<|zG<|zB<|zA 2 u<|zC<|zI u (zL<|zD<|zG<|zQ<|zB<|zU 1 u<|zV 2 u u u<|zA 1 u<|qI zLT u d<|fun r7 _ k=>k<|zA 1 u<|qH .s [0] [] zAZ u u u ⟨ck 1,d⟩<|
  fun r8 _ k=>k<|zA 3 u<|qH .s [0] [] zMb u u u ⟨ck 1,d⟩<|fun r9 _ k p10 c10=>k<|qI zQl u ⟨ck 0,d⟩<|fun r10 _ k p11 c11=>k<|zA 2 u<|qH .s [0] [] zDC u u u ⟨ck 3,d⟩<|
  fun r11 _ k=>k<|zJ (.agg #[vs r7, vb (r8.1 == 0), vi 0, sv p11 r10 c11, vb r11.1.1, vs r11.1.2])<|wL .s (.agg #[vs [], vb false, vi 0, .slice none 0 0, vb false, vs []])<|fun b7=>qU .s 6 u u u<|zC<|
  wA (fun s8 K=>K [(0, pt b1 0), (1, vi y1), (3, vi y3), (8, pt b2 0), (9, pt b3 0), (15, vi s7.1), (16, pt b7 0)] [bx b1 61 [sv p1 y0.1 c1, vi s8.1], bx b2 26 [.slice none 0 0, .slice none 0 0, .slice none 0 0], bx b3 26 [sv p2 s1.2 c2, sv p9 s7.2.2 c9, sv none ([] : List vQ) 0], r_1, r_5, [], bx b7 73 [vs r7, vb (r8.1 == 0), vi s8.2, sv p11 r10 c11, vb r11.1.1, vs r11.1.2]] [Rl (eInt .i64) p1 c1 y0.1, Al e_Premise 67 r_1 p2 c2 s1.2, Al e_Rule 73 r_5 p9 c9 s7.2.2, Al e_Promotion 75 [] none 0 ([] : List vQ), Rl e_Literal p11 c11 r10]) (
  zB<|zU 1 u<|zV 6 u u u<|zA 1 u<|zC<|zI u (zM<|zA 1 u<|qH .s [0] [] zAZ u u u ⟨ck 3,d⟩<|fun r12 _ k=>k<|zU 2 u<|qU .s 6 u u u<|zF<|
  zN (gv kk [0,1,2,3,4,5,6] ⟨gk 3,gk 4,gk 2,gk 5,gk 0,d⟩))<|zL<|zN (gv kk [0,1,2,3,4,5,6] ⟨gk 3,gk 4,gk 2,gk 5,gk 0,d⟩))<|fun s8 _ k=>k<|
  wA (fun s9 K=>K [(0, pt b1 0), (1, vi y1), (3, vi y3), (8, pt b2 0), (9, pt b3 0), (15, vi s7.1), (16, pt b7 0)] [bx b1 61 [sv p1 y0.1 c1, vi s9.1], bx b2 26 [.slice none 0 0, .slice none 0 0, .slice none 0 0], bx b3 26 [sv p2 s1.2 c2, sv p9 s7.2.2 c9, sv none ([] : List vQ) 0], r_1, r_5, [], bx b7 73 [vs r7, vb (r8.1 == 0), vi s8.2, sv p11 r10 c11, vb s9.2.1, vs s9.2.2]] [Rl (eInt .i64) p1 c1 y0.1, Al e_Premise 67 r_1 p2 c2 s1.2, Al e_Rule 73 r_5 p9 c9 s7.2.2, Al e_Promotion 75 [] none 0 ([] : List vQ), Rl e_Literal p11 c11 r10]) (
  zB<|zA 1 u<|qH .s [0] [] zAZ u u u ⟨ck 0,d⟩<|fun r13 _ k=>k<|zA 1 u<|zC<|zI u (zM<|zA 1 u<|qH .s [0] [] zAZ u u u ⟨ck 0,d⟩<|fun r14 _ k=>k<|zA 3 u<|
  qH .s [0] [] zAZ u u u ⟨ck 0,d⟩<|fun r15 _ k=>k<|qI zLT u d<|fun r16 _ k=>k<|zJ (.agg #[vb (decide (0 < r14.1)), vs r16])<|zU 4 u<|qU .s 6 u u u<|zF<|
  zN (gv kk [0,1,2,3,4,5,6] ⟨gk 0,gk 1,gk 2,gk 3,gk 4,d⟩))<|zL<|zN (gv kk [0,1,2,3,4,5,6] ⟨gk 0,gk 1,gk 2,gk 3,gk 4,d⟩))<|fun s9 _ k=>k<|zM<|zU 1 u<|zV 2 u u u<|qK 6 6 u u u<|
  wV .s (e := e_Rule) 73 [vs r7, vb (r8.1 == 0), vi s8.2, sv p11 r10 c11, vb s9.2.1, vs s9.2.2] ([(r7, r8.1 == 0, s8.2, r10, (s9.2.1, s9.2.2))] : List wD) (rC (vP vS (vP vB (vP vI (vP (vL (gk 4)) (vP vB vS))))) rN)<|fun p12 c12=>
  wM .s 4 3 u (gk 0) u u<|fun x3 r_6 p13 c13=>zU 1 u<|qU .s 2 u u u<|zF<|qD<|zD<|zM<|zA 3 u<|zF<|qF (gv (fun _ k=>k p13 c13 r_6) [0,1,2,3,4,5] ⟨gk 0,gk 2,gk 3,gk 5,d⟩))<|qM<|qL<|qO<|qN<|
  zN (gv (fun _ k=>k p9 c9 r_5) [0,1,2,3,4,5] ⟨gk 0,gk 1,gk 2,gk 3,d⟩))<|fun s6 _ k p8 c8 r_4=>k<|
  wA (fun s10 K=>∀ p14 c14 r_7,K [(8, pt b2 0), (9, pt b3 0)] [bx b1 61 [sv p1 y0.1 c1, vi s10.1], bx b2 26 [.slice none 0 0, .slice none 0 0, .slice none 0 0], bx b3 26 [sv p2 s1.2 c2, sv p8 s6.2 c8, sv p14 s10.2 c14], r_1, r_4, r_7] [Al e_Promotion 75 r_7 p14 c14 s10.2, Rl (eInt .i64) p1 c1 y0.1, Al e_Premise 67 r_1 p2 c2 s1.2, Al e_Rule 73 r_4 p8 c8 s6.2]) (
  zB<|zA 1 u<|qH .s [0] [] zAZ u u u ⟨ck 1,d⟩<|fun r17 _ k=>k<|zA 1 u<|zC<|zQ<|
  qP (fun s11 K=>∀ p15 c15 r_8,K [(0, pt b1 0), (1, vi y1), (8, pt b2 0), (9, pt b3 0), (17, vi s11.1)] [bx b1 61 [sv p1 y0.1 c1, vi s11.2.1], bx b2 26 [.slice none 0 0, .slice none 0 0, .slice none 0 0], bx b3 26 [sv p2 s1.2 c2, sv p8 s6.2 c8, sv p15 s11.2.2 c15], r_1, r_4, r_8] [Al e_Promotion 75 r_8 p15 c15 s11.2.2, Rl (eInt .i64) p1 c1 y0.1, Al e_Premise 67 r_1 p2 c2 s1.2, Al e_Rule 73 r_4 p8 c8 s6.2]) (gv (fun _ k=>k none 0 []) [0,1,2,3,4,5] ⟨gk 3,gk 1,gk 2,gk 0,d⟩)<|
  fun s11 _ k p15 c15 r_8=>k<|zG<|
  yW (fun K=>K [(0, pt b1 0), (1, vi y1), (8, pt b2 0), (9, pt b3 0), (17, vi s11.1), (123, vb ((decide (0 < s11.1)) && (decide (0 < (len s6.2)))))] [bx b1 61 [sv p1 y0.1 c1, vi s11.2.1], bx b2 26 [.slice none 0 0, .slice none 0 0, .slice none 0 0], bx b3 26 [sv p2 s1.2 c2, sv p8 s6.2 c8, sv p15 s11.2.2 c15], r_1, r_4, r_8] [Rl (eInt .i64) p1 c1 y0.1, Al e_Premise 67 r_1 p2 c2 s1.2, Al e_Rule 73 r_4 p8 c8 s6.2, Al e_Promotion 75 r_8 p15 c15 s11.2.2]) (
  zM<|zA 3 u<|vY (b := decide (0 < s11.1)) 118 u (fun hb2=>zU 1 u<|zV 2 u u u<|zA 2 u<|zJ (vb (decide (0 < (len s6.2))))<|zF<|wN 123 (vb ((decide (0 < s11.1)) && (decide (0 < (len s6.2))))) u (by rw [hb2]; rfl)<|
  zN (gv kk [0,1,2,3,4,5] ⟨gk 1,gk 2,gk 3,gk 0,d⟩))<|fun hb2=>zA 4 u<|zJ (vb false)<|zF<|wN 123 (vb ((decide (0 < s11.1)) && (decide (0 < (len s6.2))))) u (by rw [hb2]; rfl)<|
  zN (gv kk [0,1,2,3,4,5] ⟨gk 1,gk 2,gk 3,gk 0,d⟩))<|fun _ k=>k<|zI u (zL<|zD<|zG<|zQ<|
  wA (fun s12 K=>∀ b8 p16 c16,K [(0, pt b1 0), (1, vi y1), (8, pt b2 0), (9, pt b3 0), (17, vi s11.1), (18, pt b8 0)] [bx b1 61 [sv p1 y0.1 c1, vi s12.1], bx b2 26 [.slice none 0 0, .slice none 0 0, .slice none 0 0], bx b3 26 [sv p2 s1.2 c2, sv p8 s6.2 c8, sv p15 s11.2.2 c15], r_1, r_4, r_8, bx b8 73 [vs s12.2.1, vb s12.2.2.1, vi s12.2.2.2.1, sv p16 s12.2.2.2.2.1 c16, vb s12.2.2.2.2.2.1, vs s12.2.2.2.2.2.2]] [Rl e_Literal p16 c16 s12.2.2.2.2.1, Rl (eInt .i64) p1 c1 y0.1, Al e_Premise 67 r_1 p2 c2 s1.2, Al e_Rule 73 r_4 p8 c8 s6.2, Al e_Promotion 75 r_8 p15 c15 s11.2.2]) (
  yN [] [2, 4] 11<|qQ 0 1 u u<|qZ 1 2 u u u u<|zX 8 [2] u<|qQ 3 1 u u<|qZ 4 2 u u u u<|zX 5 [5] u<|xM 6 9 (qH (.f u) [0] [] zAZ u u u ⟨ck 0,d⟩<|fun r18 _ k=>k<|zZ<|
  xW 7 2 u u u u<|fun x4 h4 b9 hp2=>xU 8 4 2 sI true zMN u u hp2 h4 u<|fun p17 c17=>qG 9<|wL (.f u) (.agg #[vs [], vb false, vi 0, .slice none 0 0, vb false, vs []])<|fun b10=>zZ<|qG 10<|
  qU (o := 0) (.f u) 6 u u u<|zZ<|qS<|zN (gv (fun _ k=>k b10 p17 c17) [0,1,2,3,4,5,6] ⟨gk 0,gk 1,gk 2,gk 3,gk 4,d⟩)) <|wL (.f u) (.agg #[vs [], vb false, vi 0, .slice none 0 0, vb false, vs []])<|fun b11=>zZ<|qG 6<|
  qH (.f u) [0] [] zAZ u u u ⟨ck 0,d⟩<|fun r19 _ k=>k<|zZ<|xW 7 2 u u u u<|fun x5 h5 b12 hp3=>xU 8 4 2 sI true zMN u u hp3 h5 u<|fun p18 c18=>qG 10<|qU (o := 0) (.f u) 6 u u u<|zZ<|qS<|
  zN (gv (fun _ k=>k b11 p18 c18) [0,1,2,3,4,5,6] ⟨gk 0,gk 1,gk 2,gk 3,gk 4,d⟩))<|fun s12 _ k b8 p16 c16=>k<|zB<|zU 1 u<|zV 6 u u u<|zA 1 u<|zC<|zI u (yN [13] [2, 6] 14<|qQ 0 2 u u<|qZ 1 2 u u u u<|
  qQ 2 0 u u<|qZ 3 6 u u u u<|zX 7 [4,6,7] u<|qG 5<|qH (.f u) [0] [] zAZ u u u ⟨ck 1,d⟩<|fun r20 _ k=>k<|zZ<|qG 8<|qH (.f u) [0] [] zDC u u u ⟨ck 1,d⟩<|fun r21 _ k=>k<|zZ<|
  wC 9 (.agg #[vs s12.2.1, vi r20.1, vb r21.1.1, vs r21.1.2]) u<|qG 10<|wV (.f u) (e := e_Promotion) 75 [vs s12.2.1, vi r20.1, vb r21.1.1, vs r21.1.2] ([(s12.2.1, r20.1, r21.1)] : List vQ) (rC (vP vS (vP vI (vP vB vS))) rN)<|
  fun p19 c19=>zZ<|qG 11<|wM (.f u) 5 5 u (gk 0) u u<|fun x6 r_9 p20 c20=>zZ<|qQ 12 2 u u<|qG 13<|qU (o := 2) (.f u) 2 u u u<|jdb [] [2, 6]<|qS<|qD<|zD<|zM<|zA 3 u<|zF<|
  qF (gv (fun _ k=>k p20 c20 r_9) [0,1,2,3,4,5] ⟨gk 0,gk 3,gk 4,gk 5,d⟩))<|zL<|qD<|zD<|zM<|zA 3 u<|zF<|qF (gv (fun _ k=>k p15 c15 r_8) [0,1,2,3,4,5] ⟨gk 4,gk 1,gk 2,gk 3,d⟩))<|qM<|qL<|qO<|qN<|
  zN (gv (fun _ k=>k p15 c15 r_8) [0,1,2,3,4,5] ⟨gk 3,gk 0,gk 1,gk 2,d⟩))<|fun s10 _ k p14 c14 r_7=>k<|zB<|qK 2 3 u u u<|qU .s 1 u u u<|zC<|zK<|wS 3 2 u u<|wS 4 4 u u<|wS 5 2 u u<|
  wR u (lC 1 (.agg #[sv p2 s1.2 c2, sv p8 s6.2 c8, sv p14 s10.2 c14]) u u lN) (fun _ k=>k p2 c2 p8 c8 p14 c14) [0] ⟨gk 2,gk 1,gk 0,d⟩
theorem zKo {qd : Prop} {y0 : uC} {y1 : Int} {y2 : Int} : qA qd prog 8 [pt b1 0, vi y1, vi y2] [bx b1 61 [sv p1 y0.1 c1, vi y0.2]] [Rl (eInt .i64) p1 c1 y0.1] (zBs y0 y1 y2) fun r K=>K (vi r.1) [bx b1 61 [sv p1 y0.1 c1, vi r.2]] [] :=
 qE call8 func8 u fun X=>zB<|zA 1 u<|zC<|zB<|zA 6 u<|qH .s [0] [] zAZ u u u ⟨ck 0,d⟩<|fun r1 _ k=>k<|zA 2 u<|zC<|zK<|zS u u kk [0] d
theorem zBb {qd : Prop} {y0 : Int} : qA qd prog 45 [.int .u64 y0] [] [Pt (eArr 64 (eInt .u8)) 0 0 tab_math_bits_deBruijn64tab] (zAe y0) fun r K=>∀ p1 c1 r_1,K (sv p1 r c1) [r_1] [Al (eInt .i64) 3 r_1 p1 c1 r] :=
 qE call45 func45 u fun X=>zB<|zA 1 u<|zC<|zB<|zA 1 u<|vD (eInt .i64) 3<|zC<|zG<|zQ<|
  qP (fun s1 K=>∀ p1 c1 r_1,K [(0, .int .u64 s1.1), (3, sv p1 s1.2 c1)] [r_1] [Al (eInt .i64) 3 r_1 p1 c1 s1.2, Pt (eArr 64 (eInt .u8)) 0 0 tab_math_bits_deBruijn64tab]) (gv (fun _ k=>k none 0 []) [0] ⟨gk 0,gk 1,d⟩)<|fun s1 _ k p1 c1 r_1=>
  k<|zG<|zB<|zA 2 u<|zC<|zI u (zL<|zD<|zG<|zQ<|zM<|zA 2 u<|qI zFh u ⟨ck 1,d⟩<|fun r1 _ k=>k<|wV .s (e := eInt .i64) 3 [vi r1] ([r1] : List Int) (rC vI rN)<|fun p2 c2=>
  wM .s 0 1 u (gk 0) u u<|fun x1 r_2 p3 c3=>zA 1 u<|zF<|qD<|zD<|zM<|zA 5 u<|zF<|qF (gv (fun _ k=>k p3 c3 r_2) [0] ⟨gk 0,gk 3,d⟩))<|qM<|qL<|qO<|qN<|zD<|zB<|zA 2 u<|zC<|zK<|
  zS u u (fun _ k=>k p1 c1 r_1) [0] ⟨gk 0,d⟩
theorem zKT {qd : Prop} {y0 : yG} {y1 : Int} : qA qd prog 96 [.agg #[.int .u64 y0.1, sv p1 y0.2.1 c1, sv p2 y0.2.2 c2], .int .u64 y1] [] [Rl (eInt .u64) p1 c1 y0.2.1, Rl (eInt .u64) p2 c2 y0.2.2, Pt (eArr 64 (eInt .u8)) 0 0 tab_math_bits_deBruijn64tab] (zCD y0 y1) fun r K=>K (.int .u64 r) [] [] :=
 qE call96 func96 u fun X=>zB<|qT .s u<|fun b1=>zA 1 u<|zC<|zB<|zA 1 u<|zC<|zG<|zB<|zA 1 u<|qI zBb u ⟨ck 2,d⟩<|fun r1 _ k p3 c3 r_1=>k<|zA 2 u<|zC<|zQ<|
  qP (fun s1 K=>K [(2, pt b1 0), (5, .int .u64 s1.1), (9, sv p3 r1 c3), (10, vi (len r1)), (11, vi s1.2)] [bx b1 101 [.int .u64 y0.1, sv p1 y0.2.1 c1, sv p2 y0.2.2 c2], r_1] [Al (eInt .i64) 3 r_1 p3 c3 r1, Rl (eInt .u64) p1 c1 y0.2.1, Rl (eInt .u64) p2 c2 y0.2.2, Pt (eArr 64 (eInt .u8)) 0 0 tab_math_bits_deBruijn64tab]) (gv kk [0,1] ⟨gk 0,gk 1,gk 2,gk 3,d⟩)<|
  fun s1 _ k=>k<|zB<|zA 1 u<|zC<|zG<|zI u (zL<|zD<|zG<|zQ<|zB<|yH 0 u u u<|fun x1 h1 b2 hp1=>uV 1 0 sI false oI u hp1 h1 u<|zA 1 u<|zC<|zM<|zA 1 u<|zU 1 u<|zV 0 u u u<|zA 1 u<|qX 1 u u u<|
  fun x2 b3 o1=>qW false oI (gk 0) u<|zA 2 u<|zF<|qD<|zD<|zM<|zA 2 u<|zF<|qF (gv kk [0,1] ⟨gk 1,gk 2,gk 3,gk 4,d⟩))<|qM<|qL<|qO<|qN<|zD<|zB<|zA 2 u<|zC<|zK<|zS u u kk [] d
theorem zFr {qd : Prop} {y0 : yG} {y1 : Int} : qA qd prog 97 [.agg #[.int .u64 y0.1, sv p1 y0.2.1 c1, sv p2 y0.2.2 c2], .int .u64 y1] [] [Rl (eInt .u64) p1 c1 y0.2.1, Rl (eInt .u64) p2 c2 y0.2.2, Pt (eArr 64 (eInt .u8)) 0 0 tab_math_bits_deBruijn64tab] (zB5 y0 y1) fun r K=>K (.int .u64 r) [] [] :=
 qE call97 func97 u fun X=>zB<|qT .s u<|fun b1=>zA 1 u<|zC<|zB<|zA 1 u<|zC<|zG<|zB<|zA 1 u<|qI zBb u ⟨ck 2,d⟩<|fun r1 _ k p3 c3 r_1=>k<|zA 2 u<|zC<|zQ<|
  qP (fun s1 K=>K [(2, pt b1 0), (5, .int .u64 s1.1), (9, sv p3 r1 c3), (10, vi (len r1)), (11, vi s1.2)] [bx b1 101 [.int .u64 y0.1, sv p1 y0.2.1 c1, sv p2 y0.2.2 c2], r_1] [Al (eInt .i64) 3 r_1 p3 c3 r1, Rl (eInt .u64) p1 c1 y0.2.1, Rl (eInt .u64) p2 c2 y0.2.2, Pt (eArr 64 (eInt .u8)) 0 0 tab_math_bits_deBruijn64tab]) (gv kk [0,1] ⟨gk 0,gk 1,gk 2,gk 3,d⟩)<|
  fun s1 _ k=>k<|zB<|zA 1 u<|zC<|zG<|zI u (zL<|zD<|zG<|zQ<|zB<|yH 0 u u u<|fun x1 h1 b2 hp1=>uV 1 0 sI false oI u hp1 h1 u<|zA 1 u<|zC<|zM<|zA 1 u<|zU 2 u<|zV 0 u u u<|zA 1 u<|qX 2 u u u<|
  fun x2 b3 o1=>qW false oI (gk 0) u<|zA 2 u<|zF<|qD<|zD<|zM<|zA 2 u<|zF<|qF (gv kk [0,1] ⟨gk 1,gk 2,gk 3,gk 4,d⟩))<|qM<|qL<|qO<|qN<|zD<|zB<|zA 2 u<|zC<|zK<|zS u u kk [] d
theorem zJ1 {qd : Prop} {y0 : yG} {y1 : Int} : qA qd prog 95 [.agg #[.int .u64 y0.1, sv p1 y0.2.1 c1, sv p2 y0.2.2 c2], .int .u64 y1] [] [Rl (eInt .u64) p1 c1 y0.2.1, Rl (eInt .u64) p2 c2 y0.2.2, Pt (eArr 64 (eInt .u8)) 0 0 tab_math_bits_deBruijn64tab] (zDD y0 y1) fun r K=>K (vb r) [] [] :=
 qE call95 func95 u fun X=>zB<|qT .s u<|fun b1=>zA 1 u<|zC<|zB<|qK 0 3 u u u<|zA 1 u<|qI zFr u ⟨ck 0,ck 1,ck 2,d⟩<|fun r1 _ k=>k<|zA 4 u<|zC<|zK<|zS u u kk [] d
theorem zGk {qd : Prop} {y0 : yG} {y1 : Int} : qA qd prog 53 [.agg #[.int .u64 y0.1, sv p1 y0.2.1 c1, sv p2 y0.2.2 c2], .int .u64 y1] [] [Rl (eInt .u64) p1 c1 y0.2.1, Rl (eInt .u64) p2 c2 y0.2.2, Pt (eArr 64 (eInt .u8)) 0 0 tab_math_bits_deBruijn64tab] (zBH y0 y1) fun r K=>K (vb r) [] [] :=
 qE call53 func53 u fun X=>zB<|qT .s u<|fun b1=>zA 1 u<|zC<|wA (fun s1 K=>K [(4, vb s1)] [[]] [Pt (eArr 64 (eInt .u8)) 0 0 tab_math_bits_deBruijn64tab]) (yN [] [0] 14<|vM 0 0 3 u u u u<|zX 12 [1] u<|qG 2<|
  qH (.f u) [] [] zJ1 u u u ⟨ck 0,ck 1,ck 2,d⟩<|fun r1 _ k=>k<|zZ<|zX 10 [3] u<|wH 8 u (vM 4 0 3 u u u u<|zX 8 [5] u<|vM 7 0 3 u u u u<|zX 6 [8] u<|qG 6<|
  qH (.f u) [] [] zKT u u u ⟨ck 0,ck 1,ck 2,d⟩<|fun r2 _ k=>k<|zZ<|qG 9<|qH (.f u) [] [] zFr u u u ⟨ck 0,ck 1,ck 2,d⟩<|fun r3 _ k=>k<|zZ<|zX 2 [10,11] u<|
  wC 12 (vb ((zGN .u64 r2 r3) == 0)) u<|zX 0 [13] u<|qS<|zN (gv kk [900] ⟨gk 2,d⟩))<|zX 2 [4,5,6,7,8,9,10,11] u<|wC 12 (vb false) u<|zX 0 [13] u<|qS<|zN (gv kk [900] ⟨gk 2,d⟩))<|fun s1 _ k=>k<|
  zK<|zS u u kk [] d
theorem zCu {qd : Prop} {y0 : Int} {y1 : Int} : qA qd prog 88 [.int .u64 y0, vi y1] [] [] (zBi y0 y1) fun r K=>K (.int .u64 r) [] [] :=
 qE call88 func88 u fun X=>zB<|zA 1 u<|zC<|zB<|zA 2 u<|zJ (.int .u64 (IntKind.u64.wrap (y1)))<|xO fun x1 h1=>jv (fun h=>zS8 h u u h1)<|zA 2 u<|zC<|zK<|zS u u kk [] d
theorem zNm {qd : Prop} {y0 : List Int} : qA qd prog 49 [sv p1 y0 c1] [] [Rl (eInt .i64) p1 c1 y0] (zIU y0) fun r K=>K (.int .u64 r) [] [] :=
 qE call49 func49 u fun X=>zB<|zA 1 u<|zC<|zB<|zA 1 u<|zC<|zG<|zB<|zA 3 u<|zC<|zQ<|qP (fun s1 K=>K [(3, .int .u64 s1.1), (6, sv p1 y0 c1), (7, vi (len y0)), (8, vi s1.2)] [] [Rl (eInt .i64) p1 c1 y0]) (gv kk [] ⟨gk 0,d⟩)<|fun s1 _ k=>k<|
  zB<|zA 1 u<|zC<|zG<|zI u (zL<|zD<|zG<|zQ<|zB<|qX 0 u u u<|fun x1 b1 o1=>qW false oI (gk 0) u<|zA 1 u<|zC<|zM<|zA 2 u<|qI zCu u d<|fun r1 _ k=>k<|zA 1 u<|zF<|qD<|zD<|zM<|zA 2 u<|
  zF<|qF (gv kk [] ⟨gk 1,d⟩))<|qM<|qL<|qO<|qN<|zD<|zB<|zA 2 u<|zC<|zK<|zS u u kk [] d
theorem zFx {qd : Prop} {y0 : Int} {y1 : Int} : qA qd prog 52 [.int .u64 y0, vi y1] [] [] (zDj y0 y1) fun r K=>K (vb r) [] [] :=
 qE call52 func52 u fun X=>zB<|zA 1 u<|zC<|zB<|zA 2 u<|zJ (.int .u64 (IntKind.u64.wrap (y1)))<|xO fun x1 h1=>jv (fun h=>zTi h u u h1)<|zA 3 u<|zC<|zK<|zS u u kk [] d
theorem zLv {qd : Prop} {y0 : List Int} {y1 : Int} {y2 : yG} {y3 : List Int} : qA qd prog 51 [sv p1 y0 c1, pt b1 0, pt b2 0, pt b3 0] [bx b1 3 [vi y1], bx b2 101 [.int .u64 y2.1, sv p2 y2.2.1 c2, sv p3 y2.2.2 c3], bx b3 99 [sv p4 y3 c4], r_1] [Rl (eInt .i64) p1 c1 y0, Rl (eInt .u64) p2 c2 y2.2.1, Rl (eInt .u64) p3 c3 y2.2.2, Al (eInt .u64) 98 r_1 p4 c4 y3, Pt (eArr 64 (eInt .u8)) 0 0 tab_math_bits_deBruijn64tab] (zDX y0 y1 y2 y3) fun r K=>∀ p5 c5 r_2,K (.tuple #[]) [bx b1 3 [vi y1], bx b2 101 [.int .u64 y2.1, sv p2 y2.2.1 c2, sv p3 y2.2.2 c3], bx b3 99 [sv p5 r c5], r_2] [Al (eInt .u64) 98 r_2 p5 c5 r] :=
 qE call51 func51 u fun X=>zB<|zA 1 u<|qI zNm u ⟨ck 0,d⟩<|fun r1 _ k=>k<|zA 1 u<|zC<|
  wA (fun s1 K=>K [(3, pt b3 0), (5, .int .u64 r1), (15, vb s1)] [bx b1 3 [vi y1], bx b2 101 [.int .u64 y2.1, sv p2 y2.2.1 c2, sv p3 y2.2.2 c3], bx b3 99 [sv p4 y3 c4], r_1] [Rl (eInt .u64) p2 c2 y2.2.1, Rl (eInt .u64) p3 c3 y2.2.2, Al (eInt .u64) 98 r_1 p4 c4 y3, Pt (eArr 64 (eInt .u8)) 0 0 tab_math_bits_deBruijn64tab]) (
  zM<|zA 1 u<|zV 0 u u u<|qI zFx u d<|fun r2 _ k=>k<|zA 1 u<|wH 11 u (qK 1 3 u u u<|zA 1 u<|qI zGk u ⟨ck 1,ck 2,ck 4,d⟩<|fun r3 _ k=>k<|zJ (vb r3)<|zF<|
  zN (gv kk [0,1,2,3] ⟨gk 1,gk 2,gk 3,gk 4,d⟩))<|zA 3 u<|zJ (vb false)<|zF<|zN (gv kk [0,1,2,3] ⟨gk 1,gk 2,gk 3,gk 4,d⟩))<|fun s1 _ k=>k<|zI u (zM<|zV 2 u u u<|zA 1 u<|
  wV .s (e := eInt .u64) 98 [.int .u64 r1] ([r1] : List Int) (rC vI rN)<|fun p5 c5=>wM .s 3 3 u (gk 0) u u<|fun x1 r_2 p6 c6=>qU .s 2 u u u<|zF<|jrn<|wR u lN (fun _ k=>k p6 c6 r_2) [0,1,2,3] ⟨gk 0,d⟩)<|zL<|jrn<|
  wR u lN (fun _ k=>k p4 c4 r_1) [0,1,2,3] ⟨gk 2,d⟩
theorem zHH {qd : Prop} {y0 : List Int} {y1 : Int} {y2 : yG} {y3 : List Int} : qA qd prog 50 [sv p1 y0 c1, .func (.func 51) #[] #[pt b1 0, pt b2 0, pt b3 0]] [bx b1 3 [vi y1], bx b2 101 [.int .u64 y2.1, sv p2 y2.2.1 c2, sv p3 y2.2.2 c3], bx b3 99 [sv p4 y3 c4], r_1] [Rl (eInt .i64) p1 c1 y0, Rl (eInt .u64) p2 c2 y2.2.1, Rl (eInt .u64) p3 c3 y2.2.2, Al (eInt .u64) 98 r_1 p4 c4 y3, Pt (eArr 64 (eInt .u8)) 0 0 tab_math_bits_deBruijn64tab] (zAd y0 y1 y2 y3) fun r K=>∀ p5 c5 r_2,K (.tuple #[]) [bx b1 3 [vi y1], bx b2 101 [.int .u64 y2.1, sv p2 y2.2.1 c2, sv p3 y2.2.2 c3], bx b3 99 [sv p5 r c5], r_2] [Al (eInt .u64) 98 r_2 p5 c5 r] :=
 qE call50 func50 u fun X=>zB<|zA 2 u<|xO fun x1 h1=>jv (fun h=>zS8 h u u h1)<|zA 1 u<|zC<|zQ<|
  qP (fun s1 K=>∀ p5 c5 r_2,K [(0, sv p1 y0 c1), (1, .func (.func 51) #[] #[pt b1 0, pt b2 0, pt b3 0]), (10, vi x1), (11, vi s1.1)] [bx b1 3 [vi y1], bx b2 101 [.int .u64 y2.1, sv p2 y2.2.1 c2, sv p3 y2.2.2 c3], bx b3 99 [sv p5 s1.2 c5], r_2] [Al (eInt .u64) 98 r_2 p5 c5 s1.2, Rl (eInt .i64) p1 c1 y0, Rl (eInt .u64) p2 c2 y2.2.1, Rl (eInt .u64) p3 c3 y2.2.2, Pt (eArr 64 (eInt .u8)) 0 0 tab_math_bits_deBruijn64tab]) (gv (fun _ k=>k p4 c4 r_1) [0,1,2,3] ⟨gk 3,gk 0,gk 1,gk 2,gk 4,d⟩)<|
  fun s1 _ k p5 c5 r_2=>k<|zB<|zA 1 u<|zC<|zG<|zI u (zL<|zD<|zG<|zQ<|zB<|zA 2 u<|zC<|zB<|zA 1 u<|vD (eInt .i64) 3<|zC<|
  wA (fun s2 K=>∀ p6 c6 r_3,K [(0, sv p1 y0 c1), (1, .func (.func 51) #[] #[pt b1 0, pt b2 0, pt b3 0]), (5, sv p6 s2 c6), (10, vi x1), (11, vi s1.1)] [bx b1 3 [vi y1], bx b2 101 [.int .u64 y2.1, sv p2 y2.2.1 c2, sv p3 y2.2.2 c3], bx b3 99 [sv p5 s1.2 c5], r_2, r_3] [Al (eInt .i64) 3 r_3 p6 c6 s2, Rl (eInt .i64) p1 c1 y0, Rl (eInt .u64) p2 c2 y2.2.1, Rl (eInt .u64) p3 c3 y2.2.2, Al (eInt .u64) 98 r_2 p5 c5 s1.2, Pt (eArr 64 (eInt .u8)) 0 0 tab_math_bits_deBruijn64tab]) (
  zB<|zA 3 u<|zC<|zQ<|
  qP (fun s3 K=>∀ p7 c7 r_4,K [(0, sv p1 y0 c1), (1, .func (.func 51) #[] #[pt b1 0, pt b2 0, pt b3 0]), (4, vi s1.1), (5, sv p7 s3.1 c7), (10, vi x1), (11, vi s1.1), (14, sv p1 y0 c1), (15, vi (len y0)), (16, vi s3.2)] [bx b1 3 [vi y1], bx b2 101 [.int .u64 y2.1, sv p2 y2.2.1 c2, sv p3 y2.2.2 c3], bx b3 99 [sv p5 s1.2 c5], r_2, r_4] [Al (eInt .i64) 3 r_4 p7 c7 s3.1, Rl (eInt .i64) p1 c1 y0, Rl (eInt .u64) p2 c2 y2.2.1, Rl (eInt .u64) p3 c3 y2.2.2, Al (eInt .u64) 98 r_2 p5 c5 s1.2, Pt (eArr 64 (eInt .u8)) 0 0 tab_math_bits_deBruijn64tab]) (gv (fun _ k=>k none 0 []) [0,1,2,3,4] ⟨gk 0,gk 2,gk 3,gk 4,gk 1,gk 5,d⟩)<|
  fun s3 _ k p7 c7 r_4=>k<|zB<|zA 1 u<|zC<|zG<|zI u (zL<|zD<|zG<|zQ<|zB<|zA 1 u<|qX 1 u u u<|fun x2 b4 o1=>qW false oI (gk 0) u<|zA 2 u<|zC<|zB<|zA 2 u<|xO fun x3 h2=>jv (fun h=>zTi h u u h2)<|
  zA 2 u<|zC<|zI u (zM<|zA 2 u<|wV .s (e := eInt .i64) 3 [vi x2] ([x2] : List Int) (rC vI rN)<|fun p8 c8=>wM .s 4 2 u (gk 0) u u<|fun x4 r_5 p9 c9=>zA 1 u<|zF<|qD<|zD<|zM<|zA 2 u<|zF<|
  qF (gv (fun _ k=>k p9 c9 r_5) [0,1,2,3,4] ⟨gk 0,gk 4,gk 5,gk 6,gk 7,gk 8,d⟩))<|zL<|qD<|zD<|zM<|zA 2 u<|zF<|qF (gv (fun _ k=>k p7 c7 r_4) [0,1,2,3,4] ⟨gk 1,gk 2,gk 3,gk 4,gk 5,gk 6,d⟩))<|qM<|qL<|qO<|qN<|
  zN (gv (fun _ k=>k p7 c7 r_4) [0,1,2,3,4] ⟨gk 0,gk 1,gk 2,gk 3,gk 4,gk 5,d⟩))<|fun s2 _ k p6 c6 r_3=>k<|zM<|zA 2 u<|wS 4 0 u u<|qH .s [0, 1, 2, 3] [] zLv u u u ⟨ck 0,ck 3,ck 4,ck 5,ck 6,d⟩<|
  fun r1 _ k p10 c10 r_6=>k<|zF<|qD<|zD<|zM<|zA 2 u<|zF<|qF (gv (fun _ k=>k p10 c10 r_6) [0,1,2,3] ⟨gk 0,gk 3,gk 4,gk 5,gk 7,d⟩))<|qM<|qL<|qO<|qN<|jrn<|wR u lN (fun _ k=>k p5 c5 r_2) [0,1,2,3] ⟨gk 0,d⟩
theorem zMn {qd : Prop} {y0 : wO} : qA qd prog 42 [.agg #[vi y0.1, sv p1 y0.2 c1]] [] [Rl wF p1 c1 y0.2] (zHD y0) fun r K=>∀ p2 c2 p3 c3,K (.agg #[.int .u64 r.1, sv p2 r.2.1 c2, sv p3 r.2.2 c3]) [] [Rl (eInt .u64) p2 c2 r.2.1, Rl (eInt .u64) p3 c3 r.2.2] :=
 qE call42 func42 u fun X=>zB<|qT .s u<|fun b1=>wL .s (.agg #[.int .u64 0, .slice none 0 0, .slice none 0 0])<|fun b2=>zC<|
  wA (fun s1 K=>∀ b3 p2 c2 r_1 p3 c3 r_2,K [(1, pt b1 0), (2, pt b2 0), (3, pt b3 0)] [bx b1 50 [vi y0.1, sv p1 y0.2 c1], bx b2 101 [.int .u64 0, .slice none 0 0, .slice none 0 0], bx b3 101 [.int .u64 s1.1, sv p2 s1.2.1 c2, sv p3 s1.2.2 c3], r_1, r_2] [Al (eInt .u64) 98 r_1 p2 c2 s1.2.1, Al (eInt .u64) 98 r_2 p3 c3 s1.2.2, Rl wF p1 c1 y0.2]) (
  yN [] [0] 9<|qQ 0 0 u u<|qZ 1 0 u u u u<|qQ 3 0 u u<|qZ 4 0 u u u u<|jd3 2 5 7 (uU (.f u) (e := eInt .u64) 98 (0 : Int) (.int .u64 0) vI u u<|fun x1 r_3 p4 c4=>zZ<|xM 5 7 (
  uU (.f u) (e := eInt .u64) 98 (0 : Int) (.int .u64 0) vI u u<|fun x2 r_4 p5 c5=>zZ<|wC 6 (.agg #[.int .u64 0, sv p4 x1 c4, sv p5 x2 c5]) u<|qG 7<|wL (.f u) (.agg #[.int .u64 0, .slice none 0 0, .slice none 0 0])<|fun b4=>
  zZ<|qG 8<|qU (o := 0) (.f u) 4 u u u<|zZ<|qS<|zN (gv (fun _ k=>k b4 p4 c4 r_3 p5 c5 r_4) [0,1,4,2,3] ⟨gk 1,gk 0,gk 2,d⟩)) <|wL (.f u) (.agg #[.int .u64 0, .slice none 0 0, .slice none 0 0])<|fun b5=>zZ<|qG 5<|
  uU (.f u) (e := eInt .u64) 98 (0 : Int) (.int .u64 0) vI u u<|fun x3 r_5 p6 c6=>zZ<|wC 6 (.agg #[.int .u64 0, sv p4 x1 c4, sv p6 x3 c6]) u<|qG 8<|qU (o := 0) (.f u) 3 u u u<|zZ<|qS<|
  zN (gv (fun _ k=>k b5 p4 c4 r_3 p6 c6 r_5) [0,1,3,2,4] ⟨gk 1,gk 0,gk 2,d⟩)) (jcm<|uU (.f u) (e := eInt .u64) 98 (0 : Int) (.int .u64 0) vI u u<|fun x4 r_6 p7 c7=>zZ<|xM 2 7 (
  uU (.f u) (e := eInt .u64) 98 (0 : Int) (.int .u64 0) vI u u<|fun x5 r_7 p8 c8=>zZ<|wC 6 (.agg #[.int .u64 0, sv p8 x5 c8, sv p7 x4 c7]) u<|qG 7<|wL (.f u) (.agg #[.int .u64 0, .slice none 0 0, .slice none 0 0])<|fun b6=>
  zZ<|qG 8<|qU (o := 0) (.f u) 4 u u u<|zZ<|qS<|zN (gv (fun _ k=>k b6 p8 c8 r_7 p7 c7 r_6) [0,1,4,3,2] ⟨gk 0,gk 1,gk 2,d⟩)) <|wL (.f u) (.agg #[.int .u64 0, .slice none 0 0, .slice none 0 0])<|fun b7=>zZ<|qG 2<|
  uU (.f u) (e := eInt .u64) 98 (0 : Int) (.int .u64 0) vI u u<|fun x6 r_8 p9 c9=>zZ<|wC 6 (.agg #[.int .u64 0, sv p9 x6 c9, sv p7 x4 c7]) u<|qG 8<|qU (o := 0) (.f u) 3 u u u<|zZ<|qS<|
  zN (gv (fun _ k=>k b7 p9 c9 r_8 p7 c7 r_6) [0,1,3,4,2] ⟨gk 0,gk 1,gk 2,d⟩)) <|wL (.f u) (.agg #[.int .u64 0, .slice none 0 0, .slice none 0 0])<|fun b8=>zZ<|xM 2 5 (
  uU (.f u) (e := eInt .u64) 98 (0 : Int) (.int .u64 0) vI u u<|fun x7 r_9 p10 c10=>zZ<|qG 5<|uU (.f u) (e := eInt .u64) 98 (0 : Int) (.int .u64 0) vI u u<|fun x8 r_10 p11 c11=>zZ<|
  wC 6 (.agg #[.int .u64 0, sv p10 x7 c10, sv p11 x8 c11]) u<|qG 8<|qU (o := 0) (.f u) 2 u u u<|zZ<|qS<|zN (gv (fun _ k=>k b8 p10 c10 r_9 p11 c11 r_10) [0,1,2,3,4] ⟨gk 1,gk 0,gk 2,d⟩)) <|jcm<|
  uU (.f u) (e := eInt .u64) 98 (0 : Int) (.int .u64 0) vI u u<|fun x9 r_11 p12 c12=>zZ<|qG 2<|uU (.f u) (e := eInt .u64) 98 (0 : Int) (.int .u64 0) vI u u<|fun x10 r_12 p13 c13=>zZ<|
  wC 6 (.agg #[.int .u64 0, sv p13 x10 c13, sv p12 x9 c12]) u<|qG 8<|qU (o := 0) (.f u) 2 u u u<|zZ<|qS<|zN (gv (fun _ k=>k b8 p13 c13 r_12 p12 c12 r_11) [0,1,2,4,3] ⟨gk 0,gk 1,gk 2,d⟩))<|fun s1 _ k b3 p2 c2 r_1 p3 c3 r_2=>
  k<|
  wA (fun s2 K=>K [(1, pt b1 0), (2, pt b2 0), (3, pt b3 0)] [bx b1 50 [vi y0.1, sv p1 y0.2 c1], bx b2 101 [.int .u64 0, .slice none 0 0, .slice none 0 0], bx b3 101 [.int .u64 s2, sv p2 s1.2.1 c2, sv p3 s1.2.2 c3], r_1, r_2] [Rl wF p1 c1 y0.2, Al (eInt .u64) 98 r_1 p2 c2 s1.2.1, Al (eInt .u64) 98 r_2 p3 c3 s1.2.2]) (
  zB<|zU 0 u<|zV 0 u u u<|zA 1 u<|zC<|zQ<|
  qP (fun s3 K=>K [(1, pt b1 0), (2, pt b2 0), (3, pt b3 0), (15, vi y0.1), (16, vi s3.1)] [bx b1 50 [vi y0.1, sv p1 y0.2 c1], bx b2 101 [.int .u64 0, .slice none 0 0, .slice none 0 0], bx b3 101 [.int .u64 s3.2, sv p2 s1.2.1 c2, sv p3 s1.2.2 c3], r_1, r_2] [Rl wF p1 c1 y0.2, Al (eInt .u64) 98 r_1 p2 c2 s1.2.1, Al (eInt .u64) 98 r_2 p3 c3 s1.2.2]) (gv kk [0,1,2,3,4] ⟨gk 2,gk 0,gk 1,d⟩)<|
  fun s3 _ k=>k<|zB<|zA 1 u<|zC<|zG<|zI u (zL<|zD<|zG<|zQ<|zB<|zA 2 u<|zC<|zM<|zU 0 u<|zV 2 u u u<|zA 1 u<|qI zCu u d<|fun r1 _ k=>k<|zU 0 u<|qU .s 2 u u u<|zF<|qD<|zD<|zM<|
  zA 2 u<|zF<|qF (gv kk [0,1,2,3,4] ⟨gk 0,gk 1,gk 2,d⟩))<|qM<|qL<|qO<|qN<|zN (gv kk [0,1,2,3,4] ⟨gk 0,gk 1,gk 2,d⟩))<|fun s2 _ k=>k<|
  wA (fun s4 K=>∀ p14 c14 r_13 p15 c15 r_14,K [(2, pt b2 0), (3, pt b3 0)] [[], bx b2 101 [.int .u64 0, .slice none 0 0, .slice none 0 0], bx b3 101 [.int .u64 s2, sv p14 s4.1 c14, sv p15 s4.2 c15], r_13, r_14] [Al (eInt .u64) 98 r_13 p14 c14 s4.1, Al (eInt .u64) 98 r_14 p15 c15 s4.2]) (
  zB<|zU 1 u<|zV 0 u u u<|zA 2 u<|zC<|zQ<|
  qP (fun s5 K=>∀ p16 c16 r_15 p17 c17 r_16,K [(2, pt b2 0), (3, pt b3 0), (26, sv p1 y0.2 c1), (27, vi (len y0.2)), (28, vi s5.1)] [[], bx b2 101 [.int .u64 0, .slice none 0 0, .slice none 0 0], bx b3 101 [.int .u64 s2, sv p16 s5.2.1 c16, sv p17 s5.2.2 c17], r_15, r_16] [Al (eInt .u64) 98 r_15 p16 c16 s5.2.1, Al (eInt .u64) 98 r_16 p17 c17 s5.2.2, Rl wF p1 c1 y0.2]) (gv (fun _ k=>k p2 c2 r_1 p3 c3 r_2) [900,1,2,3,4] ⟨gk 1,gk 2,gk 0,d⟩)<|
  fun s5 _ k p16 c16 r_15 p17 c17 r_16=>k<|zB<|zA 1 u<|zC<|zG<|zI u (zL<|zD<|zG<|zQ<|zB<|qX 2 u u u<|fun x11 b9 o1=>qW true zL6 (gk 0) u<|wL .s (.agg #[vi 0, vi 0])<|fun b10=>qU .s 5 u u u<|zC<|
  yK [14] [2, 3, 5] 15<|qQ 0 1 u u<|qZ 1 2 u u u u<|qQ 2 1 u u<|qZ 3 5 u u u u<|qQ 4 1 u u<|qZ 5 2 u u u u<|qQ 6 1 u u<|qZ 7 5 u u u u<|xW 8 1 u u u u<|fun x12 h1 b11 hp1=>
  xU 9 3 1 sI false oI u u hp1 h1 u<|qQ 10 0 u u<|qZ 11 5 u u u u<|qG 12<|qH (.f u) [] [] zCu u u u d<|fun r2 _ k=>k<|zZ<|xW 13 1 u u u u<|fun x13 h2 b12 hp2=>qG 14<|
  uX (.f u) 3 1 sI r2 false u hp2 h2 u u vI<|fun r_17=>jdb [] [2, 3, 5]<|qS<|zD<|yN [14] [2, 4, 5] 15<|qQ 0 2 u u<|qZ 1 2 u u u u<|qQ 2 0 u u<|qZ 3 5 u u u u<|qQ 4 2 u u<|qZ 5 2 u u u u<|
  qQ 6 0 u u<|qZ 7 5 u u u u<|xW 8 3 u u u u<|fun x14 h3 b13 hp3=>xU 9 4 3 sI false oI u u hp3 h3 u<|qQ 10 1 u u<|qZ 11 5 u u u u<|qG 12<|qH (.f u) [] [] zCu u u u d<|
  fun r3 _ k=>k<|zZ<|xW 13 3 u u u u<|fun x15 h4 b14 hp4=>qG 14<|uX (.f u) 4 3 sI r3 false u hp4 h4 u u vI<|fun r_18=>jdb [] [2, 4, 5]<|qS<|qD<|zD<|zM<|zA 2 u<|zF<|
  jbL (fun q_=>[[], bx b2 101 [.int .u64 0, .slice none 0 0, .slice none 0 0], bx b3 101 [.int .u64 s2, .slice p16 q_ c16, .slice p17 (List.length s5.2.2) c17], r_17, r_18, bx b10 58 [vi x11.1, vi x11.2]]) (gk 1) u<|
  jbL (fun q_=>[[], bx b2 101 [.int .u64 0, .slice none 0 0, .slice none 0 0], bx b3 101 [.int .u64 s2, sv p16 (List.set s5.2.1 (Int.toNat x11.2) r2) c16, .slice p17 q_ c17], r_17, r_18, bx b10 58 [vi x11.1, vi x11.2]]) (gk 1) u<|
  qF (gv (fun _ k=>k p16 c16 r_17 p17 c17 r_18) [900,1,2,3,4] ⟨gk 1,gk 0,gk 7,d⟩))<|qM<|qL<|qO<|qN<|zN (gv (fun _ k=>k p16 c16 r_15 p17 c17 r_16) [900,1,2,3,4] ⟨gk 0,gk 1,d⟩))<|fun s4 _ k p14 c14 r_13 p15 c15 r_14=>k<|zB<|
  qK 2 3 u u u<|qU .s 1 u u u<|zC<|zK<|wS 3 0 u u<|wS 4 2 u u<|wR u (lC 1 (.agg #[.int .u64 s2, sv p14 s4.1 c14, sv p15 s4.2 c15]) u u lN) (fun _ k=>k p14 c14 p15 c15) [] ⟨gk 1,gk 0,d⟩
theorem zMG {qd : Prop} {y0 : Int} {y1 : Int} : qA qd prog 55 [.int .u64 y0, pt b1 0] [bx b1 98 [.int .u64 y1]] [] (zIa y0 y1) fun r K=>K (vb r) [bx b1 98 [.int .u64 y1]] [] :=
 qE call55 func55 u fun X=>zB<|zA 1 u<|zC<|yW (fun K=>K [(3, vb ((y0 != y1) && ((zGN .u64 y0 y1) == 0)))] [bx b1 98 [.int .u64 y1]] []) (zM<|zA 1 u<|zV 0 u u u<|zA 2 u<|vY (b := y0 != y1) 7 u (fun hb1=>zA 1 u<|zV 0 u u u<|
  zA 2 u<|zJ (vb ((zGN .u64 y0 y1) == 0))<|zA 1 u<|zF<|wN 3 (vb ((y0 != y1) && ((zGN .u64 y0 y1) == 0))) u (by rw [hb1]; rfl)<|zN (gv kk [0] d))<|fun hb1=>zA 4 u<|zJ (vb false)<|zA 1 u<|zF<|
  wN 3 (vb ((y0 != y1) && ((zGN .u64 y0 y1) == 0))) u (by rw [hb1]; rfl)<|zN (gv kk [0] d))<|fun _ k=>k<|zK<|zS u u kk [0] d
theorem zEk {qd : Prop} {y0 : List Int} {y1 : Int} : qA qd prog 98 [sv p1 y0 c1, .func (.func 55) #[] #[pt b1 0]] [bx b1 98 [.int .u64 y1]] [Rl (eInt .u64) p1 c1 y0] (zAN y0 y1) fun r K=>K (vi r) [bx b1 98 [.int .u64 y1]] [] :=
 qE call98 func98 u fun X=>zB<|zA 1 u<|zC<|zG<|zB<|zA 3 u<|zC<|zQ<|
  qP (fun s1 K=>K [(0, sv p1 y0 c1), (1, .func (.func 55) #[] #[pt b1 0]), (7, vi (len y0)), (8, vi s1)] [bx b1 98 [.int .u64 y1]] [Rl (eInt .u64) p1 c1 y0]) (gv kk [0] ⟨gk 0,d⟩)<|fun s1 _ k=>k<|zB<|zA 1 u<|zC<|zG<|zI u (
  zL<|zD<|zG<|zQ<|zB<|zA 2 u<|zC<|zB<|zA 3 u<|qX 0 u u u<|fun x1 b2 o1=>qW false oI (gk 0) u<|qH .s [0] [] zMG u u u d<|fun r1 _ k=>k<|zC<|zI u (zB<|zA 2 u<|zC<|zK<|qV<|qC<|wX<|
  qV<|qC<|zS u u kk [0] d)<|zL<|qD<|zD<|zM<|zA 2 u<|zF<|qF (gv kk [0] ⟨gk 1,d⟩))<|qM<|qL<|qO<|qN<|zD<|zB<|zA 1 u<|zC<|zK<|zS u u kk [0] d
theorem zDg {qd : Prop} {y0 : List Int} {y1 : Int} : qA qd prog 54 [sv p1 y0 c1, .func (.func 55) #[] #[pt b1 0]] [bx b1 98 [.int .u64 y1]] [Rl (eInt .u64) p1 c1 y0] (zAG y0 y1) fun r K=>K (vb r) [bx b1 98 [.int .u64 y1]] [] :=
 qE call54 func54 u fun X=>zB<|zA 1 u<|zC<|zB<|zA 2 u<|qH .s [0] [] zEk u u u ⟨ck 0,d⟩<|fun r1 _ k=>k<|zA 2 u<|zC<|zK<|zS u u kk [0] d
theorem zLu {qd : Prop} {y0 : List Int} {y1 : List Int} : qA qd prog 57 [sv p1 y0 c1, sv p2 y1 c2] [] [Rl (eInt .i64) p1 c1 y0, Rl (eInt .i64) p2 c2 y1] (zD3 y0 y1) fun r K=>K (vi r) [] [] :=
 qE call57 func57 u fun X=>zB<|zA 1 u<|zC<|zB<|zA 2 u<|qI zIc u ⟨ck 0,ck 1,d⟩<|fun r1 _ k=>k<|zA 1 u<|zC<|zK<|zS u u kk [] d
theorem zFJ {qd : Prop} {y0 : List (List Int)} : qA qd prog 56 [sv p1 y0 c1, .func (.func 57) #[] #[]] [r_1] [Al (eSlice (eInt .i64)) 31 r_1 p1 c1 y0] (zAO y0) fun r K=>∀ r_2,K (.tuple #[]) [r_2] [Ar (eSlice (eInt .i64)) 31 r_2 p1 c1 (List.length y0) r] := ⟨call56, fun A w0 r hm hO hF => by
 have h := zWb (qd := qd) Go.Proofs.Tryz.sort56 (e := eSlice (eInt .i64)) u (te := 31) zD3 57 (enters_of func57 (by kernel_rfl) u) (fun A w vx vy x y n hn hO hx hy => ?_) hO hF.1.1 hm
 · change Calls prog 56 _ _ _ at h
   refine h.mono fun e w' h => ?_
   cases e with
   | returned v => obtain ⟨r', rfl, h1, h2, h3, h4⟩ := h; exact fun G k => k r' ⟨rfl, h1, h2, ⟨h3, h4.symm⟩, trivial⟩
   | panicked ch => exact h
   | outgrown => exact h
 · obtain ⟨q1, d1, e1, k1⟩ := hx
   obtain ⟨q2, d2, e2, k2⟩ := hy
   cases e1
   cases e2
   refine ((zLu (qd := True) (y0 := x) (y1 := y)).go A w n hn hO ⟨R.of k1, R.of k2, trivial⟩).mono fun e w' h => ?_
   cases e with
   | returned v => exact h _ fun ⟨e1, q⟩ => ⟨e1, q.e⟩
   | panicked ch => exact h
   | outgrown => exact h⟩
theorem zNZ {qd : Prop} {y0 : wO} {y1 : Int} : qA qd prog 16 [.agg #[vi y0.1, sv p1 y0.2 c1], vi y1] [] [Rl wF p1 c1 y0.2, Pt (eArr 64 (eInt .u8)) 0 0 tab_math_bits_deBruijn64tab] (zFZ y0 y1) fun r K=>∀ p2 c2,K (.tuple #[sv p2 r.1 c2, vi r.2]) [] [Rl (eSlice (eInt .i64)) p2 c2 r.1] :=
 qE call16 func16 u fun X=>zB<|qT .s u<|fun b1=>qT .s u<|fun b2=>zA 2 u<|zC<|zG<|zB<|qK 0 2 u u u<|qI zG7 u ⟨ck 0,d⟩<|fun r1 _ k=>k<|zA 1 u<|zC<|zB<|zA 2 u<|zC<|zI u (zB<|zA 3 u<|zC<|zK<|qC<|
  wR u (lT u (lT u lN)) (fun _ k=>k none 0) [] ⟨gn,d⟩)<|zL<|zD<|zG<|zQ<|
  yW (fun K=>K [(2, pt b1 0), (3, pt b2 0), (17, vb ((decide (y1 < 0)) || (decide (y0.1 ≤ y1))))] [bx b1 50 [vi y0.1, sv p1 y0.2 c1], bx b2 3 [vi y1]] [Rl wF p1 c1 y0.2, Pt (eArr 64 (eInt .u8)) 0 0 tab_math_bits_deBruijn64tab]) (zM<|
  zV 1 u u u<|zA 2 u<|vY (b := decide (y1 < 0)) 20 u (fun hb1=>zA 4 u<|zJ (vb true)<|zA 1 u<|zF<|wN 17 (vb ((decide (y1 < 0)) || (decide (y0.1 ≤ y1)))) u (by rw [hb1]; rfl)<|zN (gv kk [0,1] ⟨gk 0,gk 1,d⟩)
  )<|fun hb1=>zV 1 u u u<|zU 0 u<|zV 0 u u u<|zA 1 u<|zJ (vb (decide (y0.1 ≤ y1)))<|zA 1 u<|zF<|wN 17 (vb ((decide (y1 < 0)) || (decide (y0.1 ≤ y1)))) u (by rw [hb1]; rfl)<|
  zN (gv kk [0,1] ⟨gk 0,gk 1,d⟩))<|fun _ k=>k<|zI u (zB<|zA 2 u<|zC<|zK<|qV<|qC<|wR u (lT u (lT u lN)) (fun _ k=>k none 0) [] ⟨gn,d⟩)<|zB<|zU 0 u<|zV 0 u u u<|zA 2 u<|zC<|zI u (zB<|
  zA 2 u<|zC<|zK<|qV<|qC<|wR u (lT u (lT u lN)) (fun _ k=>k none 0) [] ⟨gn,d⟩)<|zL<|qD<|zD<|zB<|qK 0 2 u u u<|qI zMn u ⟨ck 0,d⟩<|fun r2 _ k p2 c2 p3 c3=>k<|
  wL .s (.agg #[.int .u64 0, .slice none 0 0, .slice none 0 0])<|fun b3=>qU .s 2 u u u<|zC<|zB<|wL .s (.slice none 0 0)<|fun b4=>vD (eInt .u64) 98<|zC<|zB<|zU 0 u<|zV 2 u u u<|qI zBb u ⟨ck 4,d⟩<|
  fun r3 _ k p4 c4 r_1=>k<|zA 1 u<|wS 5 0 u u<|qH .s [1, 2, 3, 4] [] zHH u u u ⟨ck 0,ck 3,ck 4,ck 2,ck 6,d⟩<|fun r4 _ k p5 c5 r_2=>k<|zC<|zB<|zA 1 u<|vD (eSlice (eInt .i64)) 31<|zC<|
  wA (fun s1 K=>∀ p6 c6 r_3,K [(9, sv p6 s1 c6)] [[], [], [], [], [], [], r_3] [Al (eSlice (eInt .i64)) 31 r_3 p6 c6 s1, Pt (eArr 64 (eInt .u8)) 0 0 tab_math_bits_deBruijn64tab]) (zB<|zV 3 u u u<|zA 2 u<|zC<|zQ<|
  qP (fun s2 K=>∀ p7 c7 r_4,K [(8, pt b4 0), (9, sv p7 s2.1 c7), (37, sv p5 r4 c5), (38, vi (len r4)), (39, vi s2.2)] [[], [], [], bx b4 99 [sv p5 r4 c5], r_2, [], r_4] [Al (eSlice (eInt .i64)) 31 r_4 p7 c7 s2.1, Al (eInt .u64) 98 r_2 p5 c5 r4, Pt (eArr 64 (eInt .u8)) 0 0 tab_math_bits_deBruijn64tab]) (gv (fun _ k=>k none 0 []) [900,901,902,3,4,905,6] ⟨gk 0,gk 1,gk 8,d⟩)<|
  fun s2 _ k p7 c7 r_4=>k<|zB<|zA 1 u<|zC<|zG<|zI u (zL<|zD<|zG<|zQ<|zB<|yH 1 u u u<|fun x1 h1 b5 hp1=>uV 4 1 sI false oI u hp1 h1 u<|wL .s (.int .u64 0)<|fun b6=>qU .s 7 u u u<|zC<|zB<|zV 3 u u u<|
  zA 1 u<|qH .s [7] [4] zDg u u u ⟨cl 4 1,d⟩<|fun r5 _ k=>k<|zA 1 u<|zC<|zI u (zM<|zA 1 u<|zV 7 u u u<|qI zBb u ⟨ck 2,d⟩<|fun r6 _ k p8 c8 r_5=>k<|
  wS 8 0 u u<|wV .s (e := eSlice (eInt .i64)) 31 [sv p8 r6 c8] ([r6] : List (List Int)) (rC (vL (gk 0)) rN)<|fun p9 c9=>wM .s 6 3 u (gk 0) u u<|fun x2 r_6 p10 c10=>zA 1 u<|zF<|qD<|zD<|zM<|zA 2 u<|zF<|
  qF (gv (fun _ k=>k p10 c10 r_6) [900,901,902,3,4,905,6] ⟨gk 0,gk 5,gk 6,d⟩))<|zL<|qD<|zD<|zM<|zA 2 u<|zF<|qF (gv (fun _ k=>k p7 c7 r_4) [900,901,902,3,4,905,6] ⟨gk 0,gk 1,gk 2,d⟩))<|qM<|qL<|qO<|qN<|
  zN (gv (fun _ k=>k p7 c7 r_4) [900,901,902,903,904,905,6] ⟨gk 0,gk 2,d⟩))<|fun s1 _ k p6 c6 r_3=>k<|zB<|zA 1 u<|qH .s [6] [] zFJ u u u ⟨ck 0,d⟩<|fun r7 _ k r_7=>k<|zC<|zB<|zA 3 u<|
  zC<|zK<|wS 6 0 u u<|jre 0 4 u u<|wR u (lT u (lT u lN)) (fun _ k=>k p6 c6) [] ⟨gk 0,d⟩
theorem zKx {qd : Prop} {y0 : yG} : qA qd prog 145 [.agg #[.int .u64 y0.1, sv p1 y0.2.1 c1, sv p2 y0.2.2 c2]] [] [Rl (eInt .u64) p1 c1 y0.2.1, Rl (eInt .u64) p2 c2 y0.2.2, Pt (eArr 64 (eInt .u8)) 0 0 tab_math_bits_deBruijn64tab] (zC7 y0) fun r K=>∀ p3 c3,K (sv p3 r c3) [] [Rl (eInt .u64) p3 c3 r] :=
 qE call145 func145 u fun X=>zB<|qT .s u<|fun b1=>zA 1 u<|zC<|zB<|zA 1 u<|vD (eInt .u64) 98<|zC<|zB<|zA 1 u<|zC<|zQ<|
  qP (fun s1 K=>∀ p3 c3 r_1,K [(1, pt b1 0), (3, sv p3 s1.1 c3), (4, .int .u64 s1.2)] [bx b1 101 [.int .u64 y0.1, sv p1 y0.2.1 c1, sv p2 y0.2.2 c2], r_1] [Al (eInt .u64) 98 r_1 p3 c3 s1.1, Rl (eInt .u64) p1 c1 y0.2.1, Rl (eInt .u64) p2 c2 y0.2.2, Pt (eArr 64 (eInt .u8)) 0 0 tab_math_bits_deBruijn64tab]) (gv (fun _ k=>k none 0 []) [0,1] ⟨gk 0,gk 1,gk 2,gk 3,d⟩)<|
  fun s1 _ k p3 c3 r_1=>k<|zQ<|zB<|qK 0 3 u u u<|zA 1 u<|qI zFr u ⟨ck 1,ck 2,ck 3,d⟩<|fun r1 _ k=>k<|zA 3 u<|zC<|
  wA (fun s2 K=>K [(1, pt b1 0), (3, sv p3 s1.1 c3), (4, .int .u64 s1.2), (6, .int .u64 s2)] [bx b1 101 [.int .u64 y0.1, sv p1 y0.2.1 c1, sv p2 y0.2.2 c2], r_1] [Al (eInt .u64) 98 r_1 p3 c3 s1.1, Rl (eInt .u64) p1 c1 y0.2.1, Rl (eInt .u64) p2 c2 y0.2.2, Pt (eArr 64 (eInt .u8)) 0 0 tab_math_bits_deBruijn64tab]) (
  zB<|zU 0 u<|zV 0 u u u<|qI zBb u ⟨ck 3,d⟩<|fun r2 _ k p4 c4 r_2=>k<|zA 2 u<|zC<|zQ<|
  qP (fun s3 K=>K [(1, pt b1 0), (3, sv p3 s1.1 c3), (4, .int .u64 s1.2), (5, .int .u64 r1), (6, .int .u64 s3.1), (15, sv p4 r2 c4), (16, vi (len r2)), (17, vi s3.2)] [bx b1 101 [.int .u64 y0.1, sv p1 y0.2.1 c1, sv p2 y0.2.2 c2], r_1, r_2] [Al (eInt .u64) 98 r_1 p3 c3 s1.1, Al (eInt .i64) 3 r_2 p4 c4 r2, Rl (eInt .u64) p1 c1 y0.2.1, Rl (eInt .u64) p2 c2 y0.2.2, Pt (eArr 64 (eInt .u8)) 0 0 tab_math_bits_deBruijn64tab]) (gv kk [0,1,2] ⟨gk 1,gk 0,gk 2,gk 3,gk 4,d⟩)<|
  fun s3 _ k=>k<|zB<|zA 1 u<|zC<|zG<|zI u (zL<|zD<|zG<|zQ<|zB<|yH 1 u u u<|fun x1 h1 b2 hp1=>uV 2 1 sI false oI u hp1 h1 u<|zA 1 u<|zC<|zB<|zU 1 u<|zV 0 u u u<|zA 1 u<|qX 2 u u u<|
  fun x2 b3 o1=>qW false oI (gk 0) u<|zA 3 u<|zC<|zI u (zM<|zA 2 u<|qI zCu u d<|fun r3 _ k=>k<|zA 1 u<|zF<|qD<|zD<|zM<|zA 2 u<|zF<|qF (gv kk [0,1,2] ⟨gk 1,gk 2,gk 3,gk 4,gk 5,d⟩))<|zL<|
  qD<|zD<|zM<|zA 2 u<|zF<|qF (gv kk [0,1,2] ⟨gk 1,gk 2,gk 3,gk 4,gk 5,d⟩))<|qM<|qL<|qO<|qN<|zN (gv kk [0,1] ⟨gk 0,gk 2,gk 3,gk 4,d⟩))<|fun s2 _ k=>k<|zG<|zB<|zA 3 u<|zC<|zI u (zB<|zA 2 u<|zC<|
  zK<|qC<|qV<|wX<|qV<|wS 1 0 u u<|zS u u (fun _ k=>k p3 c3) [] ⟨gk 0,d⟩)<|zL<|zD<|zM<|zA 2 u<|wV .s (e := eInt .u64) 98 [.int .u64 s2] ([s2] : List Int) (rC vI rN)<|fun p5 c5=>wM .s 1 1 u (gk 0) u u<|
  fun x3 r_3 p6 c6=>zA 3 u<|zF<|qD<|qF (gv (fun _ k=>k p6 c6 r_3) [0,1] ⟨gk 0,gk 3,gk 4,gk 5,d⟩)
theorem zOY {qd : Prop} {y0 : yG} : qA qd prog 89 [.agg #[.int .u64 y0.1, sv p1 y0.2.1 c1, sv p2 y0.2.2 c2]] [] [Rl (eInt .u64) p1 c1 y0.2.1, Rl (eInt .u64) p2 c2 y0.2.2, Pt (eArr 64 (eInt .u8)) 0 0 tab_math_bits_deBruijn64tab] (zGZ y0) fun r K=>K (.int .u64 r) [] [] :=
 qE call89 func89 u fun X=>zB<|qT .s u<|fun b1=>zA 1 u<|zC<|zB<|qK 0 3 u u u<|qI zKx u ⟨ck 0,ck 1,ck 2,d⟩<|fun r1 _ k p3 c3=>k<|zA 1 u<|zC<|zG<|zB<|zA 3 u<|zC<|zI u (zB<|zA 1 u<|zC<|zK<|qC<|
  zS u u kk [] d)<|zL<|zD<|zB<|zA 4 u<|qX 0 u u u<|fun x1 b2 o1=>qW false oI (gk 0) u<|zA 1 u<|zC<|zK<|zS u u kk [] d
theorem zI7 {qd : Prop} {y0 : yG} {y1 : Int} : qA qd prog 92 [.agg #[.int .u64 y0.1, sv p1 y0.2.1 c1, sv p2 y0.2.2 c2], .int .u64 y1] [] [Rl (eInt .u64) p1 c1 y0.2.1, Rl (eInt .u64) p2 c2 y0.2.2, Pt (eArr 64 (eInt .u8)) 0 0 tab_math_bits_deBruijn64tab] (zBw y0 y1) fun r K=>K (vb r) [] [] :=
 qE call92 func92 u fun X=>zB<|qT .s u<|fun b1=>zA 1 u<|zC<|wA (fun s1 K=>K [(4, vb s1)] [[]] [Pt (eArr 64 (eInt .u8)) 0 0 tab_math_bits_deBruijn64tab]) (yN [] [0] 15<|vM 0 0 3 u u u u<|zX 13 [1] u<|qG 2<|
  qH (.f u) [] [] zJ1 u u u ⟨ck 0,ck 1,ck 2,d⟩<|fun r1 _ k=>k<|zZ<|zX 11 [3] u<|wH 8 u (qQ 4 0 u u<|qZ 5 0 u u u u<|zX 7 [6,7] u<|vM 8 0 3 u u u u<|zX 5 [9] u<|qG 10<|
  qH (.f u) [] [] zFr u u u ⟨ck 0,ck 1,ck 2,d⟩<|fun r2 _ k=>k<|zZ<|zX 2 [11,12] u<|wC 13 (vb ((zGN .u64 (zGN .u64 y0.1 y1) r2) == 0)) u<|zX 0 [14] u<|qS<|zN (gv kk [900] ⟨gk 2,d⟩))<|
  zX 2 [4,5,6,7,8,9,10,11,12] u<|wC 13 (vb false) u<|zX 0 [14] u<|qS<|zN (gv kk [900] ⟨gk 2,d⟩))<|fun s1 _ k=>k<|zK<|zS u u kk [] d
theorem zKw {qd : Prop} {y0 : Int} {y1 : Int} {y2 : yG} {y3 : Int} {y4 : Bool} {y5 : Bool} : qA qd prog 91 [.int .u64 y0, pt b1 0, pt b2 0, pt b3 0, pt b4 0, pt b5 0] [bx b1 3 [vi y1], bx b2 101 [.int .u64 y2.1, sv p1 y2.2.1 c1, sv p2 y2.2.2 c2], bx b3 3 [vi y3], bx b4 4 [vb y4], bx b5 4 [vb y5]] [Rl (eInt .u64) p1 c1 y2.2.1, Rl (eInt .u64) p2 c2 y2.2.2, Pt (eArr 64 (eInt .u8)) 0 0 tab_math_bits_deBruijn64tab] (zC4 y0 y1 y2 y3 y4 y5) fun r K=>K (vb r.1) [bx b1 3 [vi y1], bx b2 101 [.int .u64 y2.1, sv p1 y2.2.1 c1, sv p2 y2.2.2 c2], bx b3 3 [vi y3], bx b4 4 [vb y4], bx b5 4 [vb r.2]] [] :=
 qE call91 func91 u fun X=>zB<|zA 1 u<|zC<|
  wA (fun s1 K=>K [(0, .int .u64 y0), (3, pt b3 0), (4, pt b4 0), (5, pt b5 0), (8, vb s1)] [bx b1 3 [vi y1], bx b2 101 [.int .u64 y2.1, sv p1 y2.2.1 c1, sv p2 y2.2.2 c2], bx b3 3 [vi y3], bx b4 4 [vb y4], bx b5 4 [vb y5]] [Rl (eInt .u64) p1 c1 y2.2.1, Rl (eInt .u64) p2 c2 y2.2.2, Pt (eArr 64 (eInt .u8)) 0 0 tab_math_bits_deBruijn64tab]) (
  zM<|zV 0 u u u<|zA 2 u<|wH 11 u (qK 1 3 u u u<|zA 1 u<|qI zGk u ⟨ck 0,ck 1,ck 2,d⟩<|fun r1 _ k=>k<|zJ (vb r1)<|zA 1 u<|wH 16 u (zA 7 u<|zJ (vb true)<|zA 1 u<|zF<|
  zN (gv kk [0,1,2,3,4] ⟨gk 0,gk 1,gk 2,d⟩))<|zV 0 u u u<|zA 2 u<|wH 19 u (qK 1 3 u u u<|zA 1 u<|qI zI7 u ⟨ck 0,ck 1,ck 2,d⟩<|fun r2 _ k=>k<|zJ (vb r2)<|zJ (vb r2)<|zA 1 u<|zF<|
  zN (gv kk [0,1,2,3,4] ⟨gk 0,gk 1,gk 2,d⟩))<|zA 3 u<|zJ (vb false)<|zJ (vb false)<|zA 1 u<|zF<|zN (gv kk [0,1,2,3,4] ⟨gk 0,gk 1,gk 2,d⟩))<|zA 3 u<|zJ (vb false)<|zA 1 u<|zV 0 u u u<|zA 2 u<|
  wH 19 u (qK 1 3 u u u<|zA 1 u<|qI zI7 u ⟨ck 0,ck 1,ck 2,d⟩<|fun r3 _ k=>k<|zJ (vb r3)<|zJ (vb r3)<|zA 1 u<|zF<|zN (gv kk [0,1,2,3,4] ⟨gk 0,gk 1,gk 2,d⟩))<|zA 3 u<|zJ (vb false)<|
  zJ (vb false)<|zA 1 u<|zF<|zN (gv kk [0,1,2,3,4] ⟨gk 0,gk 1,gk 2,d⟩))<|fun s1 _ k=>k<|zG<|
  wA (fun s2 K=>K [(4, pt b4 0), (5, pt b5 0), (32, vb s2)] [bx b1 3 [vi y1], bx b2 101 [.int .u64 y2.1, sv p1 y2.2.1 c1, sv p2 y2.2.2 c2], bx b3 3 [vi y3], bx b4 4 [vb y4], bx b5 4 [vb y5]] [Rl (eInt .u64) p1 c1 y2.2.1, Rl (eInt .u64) p2 c2 y2.2.2, Pt (eArr 64 (eInt .u8)) 0 0 tab_math_bits_deBruijn64tab]) (
  yN [] [2, 3] 8<|zX 6 [0,1] u<|wH 26 u (zX 5 [2] u<|qZ 3 2 u u u u<|qZ 5 3 u u u u<|qG 4<|qH (.f u) [] [] zFx u u u d<|fun r4 _ k=>k<|zZ<|wC 6 (vb (!(r4 == y4))) u<|
  wC 7 (vb (!(r4 == y4))) u<|qS<|zN (gv kk [0,1,2,3,4] ⟨gk 0,gk 1,gk 2,d⟩))<|zX 1 [2,3,4,5,6] u<|wC 7 (vb false) u<|qS<|zN (gv kk [0,1,2,3,4] ⟨gk 0,gk 1,gk 2,d⟩))<|fun s2 _ k=>k<|zI u (zB<|
  zV 3 u u u<|zA 1 u<|qU .s 4 u u u<|zC<|zB<|zA 1 u<|zC<|zK<|qC<|zS u u kk [0,1,2,3,4] d)<|zL<|zD<|zB<|zA 1 u<|zC<|zK<|zS u u kk [0,1,2,3,4] d
theorem zFa {qd : Prop} {y0 : Int} {y1 : Int} {y2 : yG} {y3 : Int} {y4 : Bool} {y5 : Bool} : qA qd prog 90 [.int .u64 y0, .func (.func 91) #[] #[pt b1 0, pt b2 0, pt b3 0, pt b4 0, pt b5 0]] [bx b1 3 [vi y1], bx b2 101 [.int .u64 y2.1, sv p1 y2.2.1 c1, sv p2 y2.2.2 c2], bx b3 3 [vi y3], bx b4 4 [vb y4], bx b5 4 [vb y5]] [Rl (eInt .u64) p1 c1 y2.2.1, Rl (eInt .u64) p2 c2 y2.2.2, Pt (eArr 64 (eInt .u8)) 0 0 tab_math_bits_deBruijn64tab] (zAU y0 y1 y2 y3 y4 y5) fun r K=>K (.tuple #[]) [bx b1 3 [vi y1], bx b2 101 [.int .u64 y2.1, sv p1 y2.2.1 c1, sv p2 y2.2.2 c2], bx b3 3 [vi y3], bx b4 4 [vb y4], bx b5 4 [vb r]] [] :=
 qE call90 func90 u fun X=>zB<|zA 2 u<|zC<|zQ<|
  qP (fun s1 K=>K [(0, .int .u64 y0), (1, .func (.func 91) #[] #[pt b1 0, pt b2 0, pt b3 0, pt b4 0, pt b5 0]), (4, .int .u64 s1.1)] [bx b1 3 [vi y1], bx b2 101 [.int .u64 y2.1, sv p1 y2.2.1 c1, sv p2 y2.2.2 c2], bx b3 3 [vi y3], bx b4 4 [vb y4], bx b5 4 [vb s1.2]] [Rl (eInt .u64) p1 c1 y2.2.1, Rl (eInt .u64) p2 c2 y2.2.2, Pt (eArr 64 (eInt .u8)) 0 0 tab_math_bits_deBruijn64tab]) (gv kk [0,1,2,3,4] ⟨gk 0,gk 1,gk 2,d⟩)<|
  fun s1 _ k=>k<|zG<|zQ<|
  wA (fun s2 K=>K [(0, .int .u64 y0), (1, .func (.func 91) #[] #[pt b1 0, pt b2 0, pt b3 0, pt b4 0, pt b5 0]), (4, .int .u64 s1.1), (17, vb s2.1)] [bx b1 3 [vi y1], bx b2 101 [.int .u64 y2.1, sv p1 y2.2.1 c1, sv p2 y2.2.2 c2], bx b3 3 [vi y3], bx b4 4 [vb y4], bx b5 4 [vb s2.2]] [Rl (eInt .u64) p1 c1 y2.2.1, Rl (eInt .u64) p2 c2 y2.2.2, Pt (eArr 64 (eInt .u8)) 0 0 tab_math_bits_deBruijn64tab]) (
  zM<|zA 2 u<|qH .s [0, 1, 2, 3, 4] [] zKw u u u ⟨ck 0,ck 1,ck 2,d⟩<|fun r1 _ k=>k<|zA 2 u<|wH 14 u (zA 2 u<|zJ (vb true)<|zF<|zN (gv kk [0,1,2,3,4] ⟨gk 0,gk 1,gk 2,d⟩))<|zA 2 u<|
  zJ (vb (s1.1 == 0))<|zF<|zN (gv kk [0,1,2,3,4] ⟨gk 0,gk 1,gk 2,d⟩))<|fun s2 _ k=>k<|zI u (zK<|qV<|qC<|wX<|qV<|wR u lN kk [0,1,2,3,4] d)<|zL<|qD<|zD<|zM<|zA 5 u<|zF<|
  qF (gv kk [0,1,2,3,4] ⟨gk 0,gk 1,gk 2,d⟩)
theorem zIb {qd : Prop} {y0 : yG} {y1 : Int} {y2 : Int} : qA qd prog 43 [.agg #[.int .u64 y0.1, sv p1 y0.2.1 c1, sv p2 y0.2.2 c2], vi y1, vi y2] [] [Rl (eInt .u64) p1 c1 y0.2.1, Rl (eInt .u64) p2 c2 y0.2.2, Pt (eArr 64 (eInt .u8)) 0 0 tab_math_bits_deBruijn64tab] (zBv y0 y1 y2) fun r K=>K (vb r) [] [] :=
 qE call43 func43 u fun X=>zB<|qT .s u<|fun b1=>qT .s u<|fun b2=>qT .s u<|fun b3=>zA 1 u<|zC<|zG<|zB<|zV 1 u u u<|zA 1 u<|zC<|zI u (yK [] [0, 2] 5<|vM 0 0 3 u u u u<|qZ 2 2 u u u u<|qG 1<|
  qH (.f u) [] [] zOY u u u ⟨ck 0,ck 1,ck 2,d⟩<|fun r1 _ k=>k<|zZ<|qG 3<|qH (.f u) [] [] zFx u u u d<|fun r2 _ k=>k<|zZ<|zX 0 [4] u<|qS<|zD<|zK<|qC<|zS u u kk [] d)<|
  zL<|zD<|zB<|zV 1 u u u<|zA 1 u<|wL .s (vb false)<|fun b4=>qU .s 3 u u u<|zC<|zB<|zV 3 u u u<|wL .s (vb false)<|fun b5=>qU .s 4 u u u<|zC<|zB<|zU 0 u<|zV 0 u u u<|zA 1 u<|
  qH .s [1, 0, 2, 3, 4] [] zFa u u u ⟨ck 0,ck 1,ck 2,d⟩<|fun r3 _ k=>k<|zC<|zB<|zV 4 u u u<|zA 1 u<|zC<|zK<|zS u u kk [] d
theorem zMA {qd : Prop} {y0 : yG} {y1 : Int} : qA qd prog 48 [.agg #[.int .u64 y0.1, sv p1 y0.2.1 c1, sv p2 y0.2.2 c2], .int .u64 y1] [] [Rl (eInt .u64) p1 c1 y0.2.1, Rl (eInt .u64) p2 c2 y0.2.2] (zD0 y0 y1) fun r K=>∀ p3 c3 p4 c4,K (.agg #[.int .u64 r.1, sv p3 r.2.1 c3, sv p4 r.2.2 c4]) [] [Rl (eInt .u64) p3 c3 r.2.1, Rl (eInt .u64) p4 c4 r.2.2] :=
 qE call48 func48 u fun X=>zB<|qT .s u<|fun b1=>wL .s (.agg #[.int .u64 0, .slice none 0 0, .slice none 0 0])<|fun b2=>zC<|
  wA (fun s1 K=>∀ b3 p3 c3 r_1 p4 c4 r_2,K [(1, .int .u64 y1), (2, pt b1 0), (4, pt b2 0), (5, pt b3 0)] [bx b1 101 [.int .u64 y0.1, sv p1 y0.2.1 c1, sv p2 y0.2.2 c2], bx b2 101 [.int .u64 0, .slice none 0 0, .slice none 0 0], bx b3 101 [.int .u64 s1.1, sv p3 s1.2.1 c3, sv p4 s1.2.2 c4], r_1, r_2] [Al (eInt .u64) 98 r_1 p3 c3 s1.2.1, Al (eInt .u64) 98 r_2 p4 c4 s1.2.2, Rl (eInt .u64) p1 c1 y0.2.1, Rl (eInt .u64) p2 c2 y0.2.2]) (
  yN [] [0] 15<|qQ 0 0 u u<|qZ 1 0 u u u u<|zX 11 [2,3] u<|qQ 4 1 u u<|qZ 5 0 u u u u<|zX 8 [6] u<|qQ 8 1 u u<|qZ 9 0 u u u u<|zX 5 [10] u<|jd3 7 11 13 (
  uU (.f u) (e := eInt .u64) 98 (0 : Int) (.int .u64 0) vI u u<|fun x1 r_3 p5 c5=>zZ<|xM 11 13 (uU (.f u) (e := eInt .u64) 98 (0 : Int) (.int .u64 0) vI u u<|fun x2 r_4 p6 c6=>zZ<|
  wC 12 (.agg #[.int .u64 (vZ .u64 y0.1 y1), sv p5 x1 c5, sv p6 x2 c6]) u<|qG 13<|wL (.f u) (.agg #[.int .u64 0, .slice none 0 0, .slice none 0 0])<|fun b4=>zZ<|qG 14<|qU (o := 0) (.f u) 4 u u u<|zZ<|qS<|
  zN (gv (fun _ k=>k b4 p5 c5 r_3 p6 c6 r_4) [0,1,4,2,3] ⟨gk 1,gk 0,gk 2,gk 3,d⟩)) <|wL (.f u) (.agg #[.int .u64 0, .slice none 0 0, .slice none 0 0])<|fun b5=>zZ<|qG 11<|
  uU (.f u) (e := eInt .u64) 98 (0 : Int) (.int .u64 0) vI u u<|fun x3 r_5 p7 c7=>zZ<|wC 12 (.agg #[.int .u64 (vZ .u64 y0.1 y1), sv p5 x1 c5, sv p7 x3 c7]) u<|qG 14<|qU (o := 0) (.f u) 3 u u u<|zZ<|qS<|
  zN (gv (fun _ k=>k b5 p5 c5 r_3 p7 c7 r_5) [0,1,3,2,4] ⟨gk 1,gk 0,gk 2,gk 3,d⟩)) (jcm<|uU (.f u) (e := eInt .u64) 98 (0 : Int) (.int .u64 0) vI u u<|fun x4 r_6 p8 c8=>zZ<|xM 7 13 (
  uU (.f u) (e := eInt .u64) 98 (0 : Int) (.int .u64 0) vI u u<|fun x5 r_7 p9 c9=>zZ<|wC 12 (.agg #[.int .u64 (vZ .u64 y0.1 y1), sv p9 x5 c9, sv p8 x4 c8]) u<|qG 13<|
  wL (.f u) (.agg #[.int .u64 0, .slice none 0 0, .slice none 0 0])<|fun b6=>zZ<|qG 14<|qU (o := 0) (.f u) 4 u u u<|zZ<|qS<|zN (gv (fun _ k=>k b6 p9 c9 r_7 p8 c8 r_6) [0,1,4,3,2] ⟨gk 0,gk 1,gk 2,gk 3,d⟩)) <|
  wL (.f u) (.agg #[.int .u64 0, .slice none 0 0, .slice none 0 0])<|fun b7=>zZ<|qG 7<|uU (.f u) (e := eInt .u64) 98 (0 : Int) (.int .u64 0) vI u u<|fun x6 r_8 p10 c10=>zZ<|
  wC 12 (.agg #[.int .u64 (vZ .u64 y0.1 y1), sv p10 x6 c10, sv p8 x4 c8]) u<|qG 14<|qU (o := 0) (.f u) 3 u u u<|zZ<|qS<|zN (gv (fun _ k=>k b7 p10 c10 r_8 p8 c8 r_6) [0,1,3,4,2] ⟨gk 0,gk 1,gk 2,gk 3,d⟩)) <|
  wL (.f u) (.agg #[.int .u64 0, .slice none 0 0, .slice none 0 0])<|fun b8=>zZ<|xM 7 11 (uU (.f u) (e := eInt .u64) 98 (0 : Int) (.int .u64 0) vI u u<|fun x7 r_9 p11 c11=>zZ<|qG 11<|
  uU (.f u) (e := eInt .u64) 98 (0 : Int) (.int .u64 0) vI u u<|fun x8 r_10 p12 c12=>zZ<|wC 12 (.agg #[.int .u64 (vZ .u64 y0.1 y1), sv p11 x7 c11, sv p12 x8 c12]) u<|qG 14<|qU (o := 0) (.f u) 2 u u u<|zZ<|qS<|
  zN (gv (fun _ k=>k b8 p11 c11 r_9 p12 c12 r_10) [0,1,2,3,4] ⟨gk 1,gk 0,gk 2,gk 3,d⟩)) <|jcm<|uU (.f u) (e := eInt .u64) 98 (0 : Int) (.int .u64 0) vI u u<|fun x9 r_11 p13 c13=>zZ<|qG 7<|
  uU (.f u) (e := eInt .u64) 98 (0 : Int) (.int .u64 0) vI u u<|fun x10 r_12 p14 c14=>zZ<|wC 12 (.agg #[.int .u64 (vZ .u64 y0.1 y1), sv p14 x10 c14, sv p13 x9 c13]) u<|qG 14<|qU (o := 0) (.f u) 2 u u u<|zZ<|qS<|
  zN (gv (fun _ k=>k b8 p14 c14 r_12 p13 c13 r_11) [0,1,2,4,3] ⟨gk 0,gk 1,gk 2,gk 3,d⟩))<|fun s1 _ k b3 p3 c3 r_1 p4 c4 r_2=>k<|
  wA (fun s2 K=>∀ p15 c15 r_13 p16 c16 r_14,K [(4, pt b2 0), (5, pt b3 0)] [[], bx b2 101 [.int .u64 0, .slice none 0 0, .slice none 0 0], bx b3 101 [.int .u64 s1.1, sv p15 s2.1 c15, sv p16 s2.2 c16], r_13, r_14] [Al (eInt .u64) 98 r_13 p15 c15 s2.1, Al (eInt .u64) 98 r_14 p16 c16 s2.2]) (
  zB<|zU 1 u<|zV 0 u u u<|zA 2 u<|zC<|zQ<|
  qP (fun s3 K=>∀ p17 c17 r_15 p18 c18 r_16,K [(1, .int .u64 y1), (2, pt b1 0), (4, pt b2 0), (5, pt b3 0), (22, vi (len y0.2.1)), (23, vi s3.1)] [bx b1 101 [.int .u64 y0.1, sv p1 y0.2.1 c1, sv p2 y0.2.2 c2], bx b2 101 [.int .u64 0, .slice none 0 0, .slice none 0 0], bx b3 101 [.int .u64 s1.1, sv p17 s3.2.1 c17, sv p18 s3.2.2 c18], r_15, r_16] [Al (eInt .u64) 98 r_15 p17 c17 s3.2.1, Al (eInt .u64) 98 r_16 p18 c18 s3.2.2, Rl (eInt .u64) p1 c1 y0.2.1, Rl (eInt .u64) p2 c2 y0.2.2]) (gv (fun _ k=>k p3 c3 r_1 p4 c4 r_2) [0,1,2,3,4] ⟨gk 0,gk 1,gk 2,gk 3,d⟩)<|
  fun s3 _ k p17 c17 r_15 p18 c18 r_16=>k<|zB<|zA 1 u<|zC<|zG<|zI u (zL<|zD<|zG<|zQ<|zB<|zA 2 u<|zC<|zB<|zU 0 u<|zV 2 u u u<|zA 1 u<|qI zFx u d<|fun r1 _ k=>k<|zC<|zI u (yN [] [0, 2] 24<|
  qQ 0 1 u u<|qZ 1 2 u u u u<|zX 21 [2] u<|qQ 3 2 u u<|qZ 4 2 u u u u<|zX 18 [5] u<|qQ 6 1 u u<|qZ 7 0 u u u u<|zX 15 [8] u<|vJ 9 2 u u u u<|fun x11 b9 o1=>
  vH 10 false oI u (gk 0) u<|zX 11 [11,12] u<|qQ 13 2 u u<|qZ 14 0 u u u u<|zX 8 [15] u<|vJ 16 4 u u u u<|fun x12 b10 o2=>vH 17 false oI u (gk 0) u<|zX 4 [18,19] u<|xW 20 2 u u u u<|
  fun x13 h1 b11 hp1=>qG 21<|uX (.f u) 3 2 sI (vZ .u64 x11 y1) false u hp1 h1 u u vI<|fun r_17=>zZ<|xW 22 4 u u u u<|fun x14 h2 b12 hp2=>qG 23<|uX (.f u) 4 4 sI (vZ .u64 x12 y1) false u hp2 h2 u u vI<|
  fun r_18=>zZ<|qS<|qD<|zD<|zM<|zA 2 u<|zF<|
  jbL (fun q_=>[bx b1 101 [.int .u64 y0.1, sv p1 y0.2.1 c1, sv p2 y0.2.2 c2], bx b2 101 [.int .u64 0, .slice none 0 0, .slice none 0 0], bx b3 101 [.int .u64 s1.1, .slice p17 q_ c17, .slice p18 (List.length s3.2.2) c18], r_17, r_18]) (gk 1) u<|
  jbL (fun q_=>[bx b1 101 [.int .u64 y0.1, sv p1 y0.2.1 c1, sv p2 y0.2.2 c2], bx b2 101 [.int .u64 0, .slice none 0 0, .slice none 0 0], bx b3 101 [.int .u64 s1.1, sv p17 (List.set s3.2.1 (Int.toNat s3.1) (vZ .u64 x11 y1)) c17, .slice p18 q_ c18], r_17, r_18]) (gk 1) u<|
  qF (gv (fun _ k=>k p17 c17 r_17 p18 c18 r_18) [0,1,2,3,4] ⟨gk 1,gk 0,gk 8,gk 9,d⟩))<|zL<|qD<|zD<|zM<|zA 2 u<|zF<|qF (gv (fun _ k=>k p17 c17 r_15 p18 c18 r_16) [0,1,2,3,4] ⟨gk 0,gk 1,gk 2,gk 3,d⟩))<|qM<|qL<|qO<|qN<|
  zN (gv (fun _ k=>k p17 c17 r_15 p18 c18 r_16) [900,1,2,3,4] ⟨gk 0,gk 1,d⟩))<|fun s2 _ k p15 c15 r_13 p16 c16 r_14=>k<|zB<|qK 2 3 u u u<|qU .s 1 u u u<|zC<|zK<|wS 3 0 u u<|wS 4 2 u u<|
  wR u (lC 1 (.agg #[.int .u64 s1.1, sv p15 s2.1 c15, sv p16 s2.2 c16]) u u lN) (fun _ k=>k p15 c15 p16 c16) [] ⟨gk 1,gk 0,d⟩
theorem zI9 {qd : Prop} {y0 : List Int} {y1 : yG} {y2 : Int} {y3 : Int} {y4 : Bool} : qA qd prog 47 [sv p1 y0 c1, pt b1 0, pt b2 0, pt b3 0, pt b4 0] [bx b1 101 [.int .u64 y1.1, sv p2 y1.2.1 c2, sv p3 y1.2.2 c3], bx b2 3 [vi y2], bx b3 3 [vi y3], bx b4 4 [vb y4]] [Rl (eInt .i64) p1 c1 y0, Rl (eInt .u64) p2 c2 y1.2.1, Rl (eInt .u64) p3 c3 y1.2.2, Pt (eArr 64 (eInt .u8)) 0 0 tab_math_bits_deBruijn64tab] (zBy y0 y1 y2 y3 y4) fun r K=>K (vb r) [bx b1 101 [.int .u64 y1.1, sv p2 y1.2.1 c2, sv p3 y1.2.2 c3], bx b2 3 [vi y2], bx b3 3 [vi y3], bx b4 4 [vb y4]] [] :=
 qE call47 func47 u fun X=>zB<|zA 1 u<|zC<|yK [] [0, 1, 2, 3] 13<|vM 0 0 3 u u u u<|qQ 1 0 u u<|qZ 2 0 u u u u<|zX 9 [3] u<|qZ 7 1 u u u u<|qZ 8 2 u u u u<|qZ 10 3 u u u u<|qG 4<|
  qH (.f u) [] [] zNm u u u ⟨ck 0,d⟩<|fun r1 _ k=>k<|zZ<|zX 4 [5] u<|qG 6<|qH (.f u) [] [] zMA u u u ⟨ck 1,ck 2,d⟩<|fun r2 _ k p4 c4 p5 c5=>k<|zZ<|qG 9<|
  qH (.f u) [] [] zIb u u u ⟨ck 0,ck 1,ck 5,d⟩<|fun r3 _ k=>k<|zZ<|wC 11 (vb (!(r3 == y4))) u<|zX 0 [12] u<|qS<|zD<|zK<|zS u u kk [0,1,2,3] d
theorem zGO {qd : Prop} {y0 : List Int} {y1 : List (List Int)} {y3 : yG} {y4 : Int} {y5 : Int} {y6 : Bool} : qA qd prog 72 [sv p1 y0 c1, pt b1 0, pt b2 0] [bx b1 40 [sv p2 y1 c2], r_1, bx b2 55 [.func (.func 47) #[] #[pt b3 0, pt b4 0, pt b5 0, pt b6 0]], bx b3 101 [.int .u64 y3.1, sv p3 y3.2.1 c3, sv p4 y3.2.2 c4], bx b4 3 [vi y4], bx b5 3 [vi y5], bx b6 4 [vb y6]] [Rl (eInt .i64) p1 c1 y0, Al (eSlice (eInt .i64)) 31 r_1 p2 c2 y1, Rl (eInt .u64) p3 c3 y3.2.1, Rl (eInt .u64) p4 c4 y3.2.2, Pt (eArr 64 (eInt .u8)) 0 0 tab_math_bits_deBruijn64tab] (zAX y0 y1 y3 y4 y5 y6) fun r K=>∀ p5 c5 r_2,K (.tuple #[]) [bx b1 40 [sv p5 r c5], r_2, bx b2 55 [.func (.func 47) #[] #[pt b3 0, pt b4 0, pt b5 0, pt b6 0]], bx b3 101 [.int .u64 y3.1, sv p3 y3.2.1 c3, sv p4 y3.2.2 c4], bx b4 3 [vi y4], bx b5 3 [vi y5], bx b6 4 [vb y6]] [Al (eSlice (eInt .i64)) 31 r_2 p5 c5 r] :=
 qE call72 func72 u fun X=>zG<|
  wA (fun s1 K=>K [(0, sv p1 y0 c1), (1, pt b1 0), (21, vb s1)] [bx b1 40 [sv p2 y1 c2], r_1, bx b2 55 [.func (.func 47) #[] #[pt b3 0, pt b4 0, pt b5 0, pt b6 0]], bx b3 101 [.int .u64 y3.1, sv p3 y3.2.1 c3, sv p4 y3.2.2 c4], bx b4 3 [vi y4], bx b5 3 [vi y5], bx b6 4 [vb y6]] [Rl (eInt .i64) p1 c1 y0, Al (eSlice (eInt .i64)) 31 r_1 p2 c2 y1, Rl (eInt .u64) p3 c3 y3.2.1, Rl (eInt .u64) p4 c4 y3.2.2, Pt (eArr 64 (eInt .u8)) 0 0 tab_math_bits_deBruijn64tab]) (
  zM<|zV 0 u u u<|zA 3 u<|wH 7 u (zA 2 u<|zV 0 u u u<|yH 1 u u u<|fun x1 h1 b7 hp1=>uV 1 1 sI false oL u hp1 h1 u<|fun p5 c5=>zA 2 u<|zJ (vb (decide ((len x1) < (len y0))))<|zA 1 u<|wH 16 u (
  zA 4 u<|zJ (vb true)<|zF<|zN (gv kk [0,1,2,3,4,5,6] ⟨gk 1,gk 2,gk 3,gk 4,gk 5,d⟩))<|zV 2 u u u<|zA 1 u<|qH .s [3, 4, 5, 6] [] zI9 u u u ⟨ck 1,ck 3,ck 4,ck 5,d⟩<|fun r1 _ k=>k<|zA 1 u<|
  zJ (vb (!r1))<|zF<|zN (gv kk [0,1,2,3,4,5,6] ⟨gk 1,gk 2,gk 3,gk 4,gk 5,d⟩))<|zA 7 u<|zJ (vb false)<|zA 1 u<|zV 2 u u u<|zA 1 u<|
  qH .s [3, 4, 5, 6] [] zI9 u u u ⟨ck 0,ck 2,ck 3,ck 4,d⟩<|fun r2 _ k=>k<|zA 1 u<|zJ (vb (!r2))<|zF<|zN (gv kk [0,1,2,3,4,5,6] ⟨gk 0,gk 1,gk 2,gk 3,gk 4,d⟩))<|fun s1 _ k=>k<|zI u (zK<|qC<|
  wR u lN (fun _ k=>k p2 c2 r_1) [0,1,2,3,4,5,6] ⟨gk 1,d⟩)<|zL<|zD<|
  wA (fun s2 K=>∀ p6 c6 r_2,K [(0, sv p1 y0 c1), (1, pt b1 0)] [bx b1 40 [sv p6 s2 c6], [], bx b2 55 [.func (.func 47) #[] #[pt b3 0, pt b4 0, pt b5 0, pt b6 0]], bx b3 101 [.int .u64 y3.1, sv p3 y3.2.1 c3, sv p4 y3.2.2 c4], bx b4 3 [vi y4], bx b5 3 [vi y5], bx b6 4 [vb y6], r_2] [Al (eSlice (eInt .i64)) 31 r_2 p6 c6 s2, Rl (eInt .i64) p1 c1 y0, Rl (eInt .u64) p3 c3 y3.2.1, Rl (eInt .u64) p4 c4 y3.2.2, Pt (eArr 64 (eInt .u8)) 0 0 tab_math_bits_deBruijn64tab]) (
  wA (fun s3 K=>K [(0, sv p1 y0 c1), (1, pt b1 0), (33, vb s3)] [bx b1 40 [sv p2 y1 c2], r_1, bx b2 55 [.func (.func 47) #[] #[pt b3 0, pt b4 0, pt b5 0, pt b6 0]], bx b3 101 [.int .u64 y3.1, sv p3 y3.2.1 c3, sv p4 y3.2.2 c4], bx b4 3 [vi y4], bx b5 3 [vi y5], bx b6 4 [vb y6]] [Rl (eInt .i64) p1 c1 y0, Al (eSlice (eInt .i64)) 31 r_1 p2 c2 y1, Rl (eInt .u64) p3 c3 y3.2.1, Rl (eInt .u64) p4 c4 y3.2.2, Pt (eArr 64 (eInt .u8)) 0 0 tab_math_bits_deBruijn64tab]) (
  zM<|zV 0 u u u<|zA 3 u<|wH 25 u (zA 2 u<|zV 0 u u u<|yH 1 u u u<|fun x2 h2 b8 hp2=>uV 1 1 sI false oL u hp2 h2 u<|fun p7 c7=>zA 2 u<|zJ (vb (decide ((len y0) < (len x2))))<|zF<|
  zN (gv kk [0,1,2,3,4,5,6] ⟨gk 1,gk 2,gk 3,gk 4,gk 5,d⟩))<|zA 7 u<|zJ (vb false)<|zF<|zN (gv kk [0,1,2,3,4,5,6] ⟨gk 0,gk 1,gk 2,gk 3,gk 4,d⟩))<|fun s3 _ k=>k<|zI u (zM<|vD (eSlice (eInt .i64)) 31<|
  qU .s 0 u u u<|zF<|zN (gv (fun _ k=>k none 0 []) [0,901,2,3,4,5,6,7] ⟨gk 0,gk 1,gk 3,gk 4,gk 5,d⟩))<|zL<|zN (gv (fun _ k=>k p2 c2 r_1) [0,901,2,3,4,5,6,1] ⟨gk 1,gk 0,gk 2,gk 3,gk 4,d⟩))<|fun s2 _ k p6 c6 r_2=>k<|zM<|
  zV 0 u u u<|zA 1 u<|wV .s (e := eSlice (eInt .i64)) 31 [sv p1 y0 c1] ([y0] : List (List Int)) (rC (vL (gk 1)) rN)<|fun p8 c8=>wM .s 7 1 u (gk 0) u u<|fun x3 r_3 p9 c9=>qU .s 0 u u u<|zF<|jrn<|
  wR u lN (fun _ k=>k p9 c9 r_3) [0,7,2,3,4,5,6] ⟨gk 0,d⟩
theorem zII {qd : Prop} {y0 : List Int} {y1 : List (List Int)} {y3 : yG} {y4 : Int} {y5 : Int} {y6 : Bool} : qA qd prog 50 [sv p1 y0 c1, .func (.func 72) #[] #[pt b1 0, pt b2 0]] [bx b1 40 [sv p2 y1 c2], r_1, bx b2 55 [.func (.func 47) #[] #[pt b3 0, pt b4 0, pt b5 0, pt b6 0]], bx b3 101 [.int .u64 y3.1, sv p3 y3.2.1 c3, sv p4 y3.2.2 c4], bx b4 3 [vi y4], bx b5 3 [vi y5], bx b6 4 [vb y6]] [Rl (eInt .i64) p1 c1 y0, Al (eSlice (eInt .i64)) 31 r_1 p2 c2 y1, Rl (eInt .u64) p3 c3 y3.2.1, Rl (eInt .u64) p4 c4 y3.2.2, Pt (eArr 64 (eInt .u8)) 0 0 tab_math_bits_deBruijn64tab] (zAu y0 y1 y3 y4 y5 y6) fun r K=>∀ p5 c5 r_2,K (.tuple #[]) [bx b1 40 [sv p5 r c5], r_2, bx b2 55 [.func (.func 47) #[] #[pt b3 0, pt b4 0, pt b5 0, pt b6 0]], bx b3 101 [.int .u64 y3.1, sv p3 y3.2.1 c3, sv p4 y3.2.2 c4], bx b4 3 [vi y4], bx b5 3 [vi y5], bx b6 4 [vb y6]] [Al (eSlice (eInt .i64)) 31 r_2 p5 c5 r] :=
 qE call50 func50 u fun X=>zB<|zA 2 u<|xO fun x1 h1=>jv (fun h=>zS8 h u u h1)<|zA 1 u<|zC<|zQ<|
  qP (fun s1 K=>∀ p5 c5 r_2,K [(0, sv p1 y0 c1), (1, .func (.func 72) #[] #[pt b1 0, pt b2 0]), (10, vi x1), (11, vi s1.1)] [bx b1 40 [sv p5 s1.2 c5], r_2, bx b2 55 [.func (.func 47) #[] #[pt b3 0, pt b4 0, pt b5 0, pt b6 0]], bx b3 101 [.int .u64 y3.1, sv p3 y3.2.1 c3, sv p4 y3.2.2 c4], bx b4 3 [vi y4], bx b5 3 [vi y5], bx b6 4 [vb y6]] [Al (eSlice (eInt .i64)) 31 r_2 p5 c5 s1.2, Rl (eInt .i64) p1 c1 y0, Rl (eInt .u64) p3 c3 y3.2.1, Rl (eInt .u64) p4 c4 y3.2.2, Pt (eArr 64 (eInt .u8)) 0 0 tab_math_bits_deBruijn64tab]) (gv (fun _ k=>k p2 c2 r_1) [0,1,2,3,4,5,6] ⟨gk 1,gk 0,gk 2,gk 3,gk 4,d⟩)<|
  fun s1 _ k p5 c5 r_2=>k<|zB<|zA 1 u<|zC<|zG<|zI u (zL<|zD<|zG<|zQ<|zB<|zA 2 u<|zC<|zB<|zA 1 u<|vD (eInt .i64) 3<|zC<|
  wA (fun s2 K=>∀ p6 c6 r_3,K [(0, sv p1 y0 c1), (1, .func (.func 72) #[] #[pt b1 0, pt b2 0]), (5, sv p6 s2 c6), (10, vi x1), (11, vi s1.1)] [bx b1 40 [sv p5 s1.2 c5], r_2, bx b2 55 [.func (.func 47) #[] #[pt b3 0, pt b4 0, pt b5 0, pt b6 0]], bx b3 101 [.int .u64 y3.1, sv p3 y3.2.1 c3, sv p4 y3.2.2 c4], bx b4 3 [vi y4], bx b5 3 [vi y5], bx b6 4 [vb y6], r_3] [Al (eInt .i64) 3 r_3 p6 c6 s2, Rl (eInt .i64) p1 c1 y0, Al (eSlice (eInt .i64)) 31 r_2 p5 c5 s1.2, Rl (eInt .u64) p3 c3 y3.2.1, Rl (eInt .u64) p4 c4 y3.2.2, Pt (eArr 64 (eInt .u8)) 0 0 tab_math_bits_deBruijn64tab]) (
  zB<|zA 3 u<|zC<|zQ<|
  qP (fun s3 K=>∀ p7 c7 r_4,K [(0, sv p1 y0 c1), (1, .func (.func 72) #[] #[pt b1 0, pt b2 0]), (4, vi s1.1), (5, sv p7 s3.1 c7), (10, vi x1), (11, vi s1.1), (14, sv p1 y0 c1), (15, vi (len y0)), (16, vi s3.2)] [bx b1 40 [sv p5 s1.2 c5], r_2, bx b2 55 [.func (.func 47) #[] #[pt b3 0, pt b4 0, pt b5 0, pt b6 0]], bx b3 101 [.int .u64 y3.1, sv p3 y3.2.1 c3, sv p4 y3.2.2 c4], bx b4 3 [vi y4], bx b5 3 [vi y5], bx b6 4 [vb y6], r_4] [Al (eInt .i64) 3 r_4 p7 c7 s3.1, Rl (eInt .i64) p1 c1 y0, Al (eSlice (eInt .i64)) 31 r_2 p5 c5 s1.2, Rl (eInt .u64) p3 c3 y3.2.1, Rl (eInt .u64) p4 c4 y3.2.2, Pt (eArr 64 (eInt .u8)) 0 0 tab_math_bits_deBruijn64tab]) (gv (fun _ k=>k none 0 []) [0,1,2,3,4,5,6,7] ⟨gk 0,gk 2,gk 1,gk 3,gk 4,gk 5,d⟩)<|
  fun s3 _ k p7 c7 r_4=>k<|zB<|zA 1 u<|zC<|zG<|zI u (zL<|zD<|zG<|zQ<|zB<|zA 1 u<|qX 1 u u u<|fun x2 b7 o1=>qW false oI (gk 0) u<|zA 2 u<|zC<|zB<|zA 2 u<|xO fun x3 h2=>jv (fun h=>zTi h u u h2)<|
  zA 2 u<|zC<|zI u (zM<|zA 2 u<|wV .s (e := eInt .i64) 3 [vi x2] ([x2] : List Int) (rC vI rN)<|fun p8 c8=>wM .s 7 2 u (gk 0) u u<|fun x4 r_5 p9 c9=>zA 1 u<|zF<|qD<|zD<|zM<|zA 2 u<|zF<|
  qF (gv (fun _ k=>k p9 c9 r_5) [0,1,2,3,4,5,6,7] ⟨gk 0,gk 4,gk 5,gk 6,gk 7,gk 8,d⟩))<|zL<|qD<|zD<|zM<|zA 2 u<|zF<|qF (gv (fun _ k=>k p7 c7 r_4) [0,1,2,3,4,5,6,7] ⟨gk 1,gk 2,gk 3,gk 4,gk 5,gk 6,d⟩))<|qM<|qL<|qO<|qN<|
  zN (gv (fun _ k=>k p7 c7 r_4) [0,1,2,3,4,5,6,7] ⟨gk 0,gk 1,gk 2,gk 3,gk 4,gk 5,d⟩))<|fun s2 _ k p6 c6 r_3=>k<|zM<|zA 2 u<|wS 7 0 u u<|
  qH .s [0, 1, 2, 3, 4, 5, 6] [] zGO u u u ⟨ck 0,ck 3,ck 4,ck 5,ck 6,d⟩<|fun r1 _ k p10 c10 r_6=>k<|zF<|qD<|zD<|zM<|zA 2 u<|zF<|
  qF (gv (fun _ k=>k p10 c10 r_6) [0,1,2,3,4,5,6] ⟨gk 0,gk 3,gk 5,gk 6,gk 7,d⟩))<|qM<|qL<|qO<|qN<|jrn<|wR u lN (fun _ k=>k p5 c5 r_2) [0,1,2,3,4,5,6] ⟨gk 0,d⟩
theorem zG9 {qd : Prop} {y0 : List Int} {y1 : yG} {y2 : Int} {y3 : Int} {y4 : Bool} : qA qd prog 26 [sv p1 y0 c1, .func (.func 47) #[] #[pt b1 0, pt b2 0, pt b3 0, pt b4 0]] [bx b1 101 [.int .u64 y1.1, sv p2 y1.2.1 c2, sv p3 y1.2.2 c3], bx b2 3 [vi y2], bx b3 3 [vi y3], bx b4 4 [vb y4]] [Rl (eInt .i64) p1 c1 y0, Rl (eInt .u64) p2 c2 y1.2.1, Rl (eInt .u64) p3 c3 y1.2.2, Pt (eArr 64 (eInt .u8)) 0 0 tab_math_bits_deBruijn64tab] (zA3 y0 y1 y2 y3 y4) fun r K=>∀ p4 c4,K (sv p4 r c4) [bx b1 101 [.int .u64 y1.1, sv p2 y1.2.1 c2, sv p3 y1.2.2 c3], bx b2 3 [vi y2], bx b3 3 [vi y3], bx b4 4 [vb y4]] [Rl (eSlice (eInt .i64)) p4 c4 r] :=
 qE call26 func26 u fun X=>zB<|qT .s u<|fun b5=>zA 1 u<|zC<|zB<|wL .s (.slice none 0 0)<|fun b6=>vD (eSlice (eInt .i64)) 31<|zC<|zB<|zA 2 u<|qH .s [5, 6, 4, 0, 1, 2, 3] [] zII u u u ⟨ck 1,ck 0,ck 2,ck 3,ck 4,d⟩<|
  fun r1 _ k p4 c4 r_1=>k<|zC<|zB<|zV 5 u u u<|qH .s [6] [] zBl u u u ⟨ck 0,d⟩<|fun r2 _ k r_2=>k<|zC<|zB<|zV 5 u u u<|zA 1 u<|zC<|zK<|wS 6 0 u u<|jre 0 4 u u<|
  zS u u (fun _ k=>k p4 c4) [0,1,2,3] ⟨gk 0,d⟩
theorem zNI {qd : Prop} {y0 : Int} : qA qd prog 41 [vi y0] [] [] (zJ9 y0) fun r K=>K (vb r) [] [] :=
 qE call41 func41 u fun X=>zB<|zA 1 u<|zC<|yW (fun K=>K [(2, vb ((decide (1 ≤ y0)) && (decide (y0 ≤ 4))))] [] []) (zM<|zA 3 u<|vY (b := decide (1 ≤ y0)) 5 u (fun hb1=>zA 2 u<|zJ (vb (decide (y0 ≤ 4)))<|zA 1 u<|zF<|
  wN 2 (vb ((decide (1 ≤ y0)) && (decide (y0 ≤ 4)))) u (by rw [hb1]; rfl)<|zN (gv kk [] d))<|fun hb1=>zA 2 u<|zJ (vb false)<|zA 1 u<|zF<|wN 2 (vb ((decide (1 ≤ y0)) && (decide (y0 ≤ 4)))) u (by rw [hb1]; rfl)<|
  zN (gv kk [] d))<|fun _ k=>k<|zK<|zS u u kk [] d
theorem zI8 {qd : Prop} {y0 : Int} {y1 : Int} : qA qd prog 46 [vi y0, pt b1 0] [bx b1 3 [vi y1]] [] (zGK y0 y1) fun r K=>K (vb r) [bx b1 3 [vi y1]] [] :=
 qE call46 func46 u fun X=>zB<|zA 1 u<|zC<|zB<|zA 1 u<|zV 0 u u u<|zA 2 u<|zC<|zK<|zS u u kk [0] d
theorem zEh {qd : Prop} {y0 : List Int} {y1 : Int} : qA qd prog 93 [sv p1 y0 c1, .func (.func 46) #[] #[pt b1 0]] [bx b1 3 [vi y1]] [Rl (eInt .i64) p1 c1 y0] (zAL y0 y1) fun r K=>K (vi r) [bx b1 3 [vi y1]] [] :=
 qE call93 func93 u fun X=>zB<|zA 1 u<|zC<|zG<|zB<|zA 3 u<|zC<|zQ<|qP (fun s1 K=>K [(0, sv p1 y0 c1), (1, .func (.func 46) #[] #[pt b1 0]), (7, vi (len y0)), (8, vi s1)] [bx b1 3 [vi y1]] [Rl (eInt .i64) p1 c1 y0]) (gv kk [0] ⟨gk 0,d⟩)<|
  fun s1 _ k=>k<|zB<|zA 1 u<|zC<|zG<|zI u (zL<|zD<|zG<|zQ<|zB<|zA 2 u<|zC<|zB<|zA 3 u<|qX 0 u u u<|fun x1 b2 o1=>qW false oI (gk 0) u<|qH .s [0] [] zI8 u u u d<|fun r1 _ k=>k<|zC<|
  zI u (zB<|zA 2 u<|zC<|zK<|qV<|qC<|wX<|qV<|qC<|zS u u kk [0] d)<|zL<|qD<|zD<|zM<|zA 2 u<|zF<|qF (gv kk [0] ⟨gk 1,d⟩))<|qM<|qL<|qO<|qN<|zD<|zB<|zA 1 u<|zC<|zK<|
  zS u u kk [0] d
theorem zE3 {qd : Prop} {y0 : List Int} {y1 : Int} : qA qd prog 44 [sv p1 y0 c1, .func (.func 46) #[] #[pt b1 0]] [r_1, bx b1 3 [vi y1]] [Al (eInt .i64) 3 r_1 p1 c1 y0] (zAJ y0 y1) fun r K=>∀ p2 c2,K (sv p2 r c2) [[], bx b1 3 [vi y1]] [Rl (eInt .i64) p2 c2 r] :=
 qE call44 func44 u fun X=>zB<|zA 1 u<|zC<|zB<|zA 2 u<|qH .s [1] [0] zEh u u u ⟨cl 0 0,d⟩<|fun r1 _ k=>k<|zA 1 u<|zC<|zG<|zB<|zA 2 u<|zC<|zI u (zB<|zA 2 u<|zC<|zK<|qC<|wS 0 0 u u<|
  zS u u (fun _ k=>k p1 c1) [900,1] ⟨gk 0,d⟩)<|zL<|zD<|wA (fun s1 K=>∀ r_2,K [(0, .slice p1 (List.length y0) c1), (5, vi s1.2)] [r_2, bx b1 3 [vi y1]] [Ar (eInt .i64) 3 r_2 p1 c1 (List.length y0) s1.1]) (zB<|zA 3 u<|zC<|zQ<|
  qP (fun s2 K=>∀ r_3,K [(0, .slice p1 (List.length y0) c1), (1, .func (.func 46) #[] #[pt b1 0]), (5, vi s2.2.1), (6, vi s2.2.2)] [r_3, bx b1 3 [vi y1]] [Ar (eInt .i64) 3 r_3 p1 c1 (List.length y0) s2.1]) (gv (fun _ k=>k r_1) [0,1] ⟨gk 0,d⟩)<|
  fun s2 _ k r_3=>k<|zG<|zB<|zA 4 u<|zC<|zI u (zL<|zD<|zG<|zQ<|zB<|zA 2 u<|yH 0 u u u<|fun x1 h1 b2 hp1=>uV 0 0 sI false oI u hp1 h1 u<|zA 1 u<|zC<|zB<|zA 2 u<|
  qH .s [1] [] zI8 u u u d<|fun r2 _ k=>k<|zA 1 u<|zC<|zI u (zB<|zA 3 u<|yH 0 u u u<|fun x2 h2 b3 hp2=>uX .s 0 0 sI x1 false u hp2 h2 u u vI<|fun r_4=>zC<|zM<|zA 3 u<|zF<|qD<|zD<|zM<|
  zA 3 u<|zF<|qF (gv (fun _ k=>k r_4) [0,1] ⟨gk 0,d⟩))<|zL<|qD<|zD<|zM<|zA 3 u<|zF<|qF (gv (fun _ k=>k r_3) [0,1] ⟨gk 0,d⟩))<|qM<|qL<|qO<|qN<|zN (gv (fun _ k=>k r_3) [0,1] ⟨gk 0,d⟩))<|fun s1 _ k r_2=>k<|zB<|zA 2 u<|
  jsV 0 u u u<|fun u1 p2 c2 f1=>jcv .s 0 0 0 (vi 0) u f1 u vI<|fun r_5=>zC<|zB<|zA 2 u<|jsP 0 u u u<|fun x3=>zA 1 u<|zC<|zK<|wS 0 0 u u<|zS u u (fun _ k=>k p1 c1) [900,1] ⟨gk 0,d⟩
theorem zMt {qd : Prop} {y0 : wO} {y1 : Int} {y2 : Int} : qA qd prog 15 [.agg #[vi y0.1, sv p1 y0.2 c1], vi y1, vi y2] [] [Rl wF p1 c1 y0.2, Pt (eArr 64 (eInt .u8)) 0 0 tab_math_bits_deBruijn64tab] (zFX y0 y1 y2) fun r K=>∀ p2 c2,K (.tuple #[sv p2 r.1 c2, vi r.2]) [] [Rl (eSlice (eInt .i64)) p2 c2 r.1] :=
 qE call15 func15 u fun X=>zB<|qT .s u<|fun b1=>qT .s u<|fun b2=>qT .s u<|fun b3=>zA 2 u<|zC<|zG<|zB<|qK 0 2 u u u<|qI zG7 u ⟨ck 0,d⟩<|fun r1 _ k=>k<|zA 1 u<|zC<|zB<|zA 2 u<|zC<|zI u (zB<|zA 3 u<|zC<|zK<|qC<|
  wR u (lT u (lT u lN)) (fun _ k=>k none 0) [] ⟨gn,d⟩)<|zL<|zD<|zG<|zQ<|zB<|zV 1 u u u<|qI zNI u d<|fun r2 _ k=>k<|zA 2 u<|zC<|zI u (zB<|zA 2 u<|zC<|zK<|qV<|qC<|
  wR u (lT u (lT u lN)) (fun _ k=>k none 0) [] ⟨gn,d⟩)<|
  yW (fun K=>K [(3, pt b1 0), (4, pt b2 0), (5, pt b3 0), (22, vb ((decide (y2 < 0)) || (decide (y0.1 ≤ y2))))] [bx b1 50 [vi y0.1, sv p1 y0.2 c1], bx b2 3 [vi y1], bx b3 3 [vi y2]] [Rl wF p1 c1 y0.2, Pt (eArr 64 (eInt .u8)) 0 0 tab_math_bits_deBruijn64tab]) (
  zM<|zV 2 u u u<|zA 2 u<|vY (b := decide (y2 < 0)) 25 u (fun hb1=>zA 4 u<|zJ (vb true)<|zA 1 u<|zF<|wN 22 (vb ((decide (y2 < 0)) || (decide (y0.1 ≤ y2)))) u (by rw [hb1]; rfl)<|
  zN (gv kk [0,1,2] ⟨gk 0,gk 1,d⟩))<|fun hb1=>zV 2 u u u<|zU 0 u<|zV 0 u u u<|zA 1 u<|zJ (vb (decide (y0.1 ≤ y2)))<|zA 1 u<|zF<|
  wN 22 (vb ((decide (y2 < 0)) || (decide (y0.1 ≤ y2)))) u (by rw [hb1]; rfl)<|zN (gv kk [0,1,2] ⟨gk 0,gk 1,d⟩))<|fun _ k=>k<|zI u (zB<|zA 2 u<|zC<|zK<|qV<|qC<|
  wR u (lT u (lT u lN)) (fun _ k=>k none 0) [] ⟨gn,d⟩)<|zB<|zU 0 u<|zV 0 u u u<|zA 2 u<|zC<|zI u (zB<|zA 2 u<|zC<|zK<|qV<|qC<|wR u (lT u (lT u lN)) (fun _ k=>k none 0) [] ⟨gn,d⟩)<|zL<|qD<|zD<|
  zB<|qK 0 2 u u u<|qI zMn u ⟨ck 0,d⟩<|fun r3 _ k p2 c2 p3 c3=>k<|wL .s (.agg #[.int .u64 0, .slice none 0 0, .slice none 0 0])<|fun b4=>qU .s 3 u u u<|zC<|zB<|qK 3 3 u u u<|zV 1 u u u<|
  zV 2 u u u<|qI zIb u ⟨ck 0,ck 1,ck 3,d⟩<|fun r4 _ k=>k<|wL .s (vb false)<|fun b5=>qU .s 4 u u u<|zC<|zB<|zU 0 u<|zV 3 u u u<|qI zBb u ⟨ck 3,d⟩<|fun r5 _ k p4 c4 r_1=>k<|
  zA 1 u<|qH .s [5, 2] [] zE3 u u u ⟨ck 0,d⟩<|fun r6 _ k p5 c5=>k<|zA 1 u<|zC<|zB<|zA 2 u<|
  qH .s [3, 1, 2, 4] [] zG9 u u u ⟨ck 0,ck 2,ck 3,ck 5,d⟩<|fun r7 _ k p6 c6=>k<|zA 1 u<|zC<|zG<|zB<|zA 3 u<|zC<|zI u (zB<|zA 2 u<|zC<|zK<|qC<|
  wR u (lT u (lT u lN)) (fun _ k=>k none 0) [] ⟨gn,d⟩)<|zL<|zD<|zB<|zA 3 u<|zC<|zK<|wR u (lT u (lT u lN)) (fun _ k=>k p6 c6) [] ⟨gk 0,d⟩
theorem zNJ {qd : Prop} : qA qd prog 5 [] [] [Pt (eArr 64 (eInt .u8)) 0 0 tab_math_bits_deBruijn64tab] (zEW) fun r K=>K (vb r) [] [] :=
 qE call5 func5 u fun X=>zB<|zA 1 u<|zC<|zB<|zJ (.agg #[vi 0, vi 1])<|wV .s (e := wF) 58 [vi 0, vi 1] ([(0, 1)] : List wI) (rC (vP vI vI) rN)<|fun p1 c1=>zJ (.agg #[vi 2, sv p1 ([(0, 1)] : List wI) c1])<|
  qI zMt u ⟨ck 0,ck 1,d⟩<|fun r1 _ k p2 c2=>k<|zA 5 u<|zC<|zB<|zJ (.agg #[vi 0, vi 1])<|zJ (.agg #[vi 1, vi 2])<|
  wV .s (e := wF) 58 [vi 0, vi 1, vi 1, vi 2] ([(0, 1), (1, 2)] : List wI) (rC (vP vI vI) (rC (vP vI vI) rN))<|fun p3 c3=>zJ (.agg #[vi 3, sv p3 ([(0, 1), (1, 2)] : List wI) c3])<|qI zNZ u ⟨ck 0,ck 3,d⟩<|
  fun r2 _ k p4 c4=>k<|zA 5 u<|zC<|wA (fun s1 K=>K [(0, vb s1)] [] [Pt (eArr 64 (eInt .u8)) 0 0 tab_math_bits_deBruijn64tab]) (zM<|zA 3 u<|wH 22 u (zA 2 u<|zJ (vb (r2.2 == 0))<|zA 1 u<|wH 26 u (zA 1 u<|
  wV .s (e := eInt .i64) 3 [vi 0] ([0] : List Int) (rC vI rN)<|fun p5 c5=>wV .s (e := eSlice (eInt .i64)) 31 [sv p5 ([0] : List Int) c5] ([([0] : List Int)] : List (List Int)) (rC (vL (gk 0)) rN)<|fun p6 c6=>
  qI zLV u ⟨ck 4,ck 0,d⟩<|fun r3 _ k=>k<|zJ (vb r3)<|zA 1 u<|wH 32 u (zA 1 u<|wV .s (e := eInt .i64) 3 [vi 0, vi 2] ([0, 2] : List Int) (rC vI (rC vI rN))<|fun p7 c7=>
  wV .s (e := eSlice (eInt .i64)) 31 [sv p7 ([0, 2] : List Int) c7] ([([0, 2] : List Int)] : List (List Int)) (rC (vL (gk 0)) rN)<|fun p8 c8=>qI zLV u ⟨ck 4,ck 0,d⟩<|fun r4 _ k=>k<|zJ (vb r4)<|zA 1 u<|zF<|
  zN (gv kk [] ⟨gk 8,d⟩))<|zA 4 u<|zJ (vb false)<|zA 1 u<|zF<|zN (gv kk [] ⟨gk 6,d⟩))<|zA 4 u<|zJ (vb false)<|zA 5 u<|zJ (vb false)<|zA 1 u<|zF<|zN (gv kk [] ⟨gk 4,d⟩))<|zA 2 u<|
  zJ (vb false)<|zA 5 u<|zJ (vb false)<|zA 5 u<|zJ (vb false)<|zA 1 u<|zF<|zN (gv kk [] ⟨gk 4,d⟩))<|fun s1 _ k=>k<|zK<|zS u u kk [] d
theorem zGC {qd : Prop} {y0 : wZ} : qA qd prog 74 [vs y0] [] [] (zBZ y0) fun r K=>K (vb r) [] [] :=
 qE call74 func74 u fun X=>zB<|zA 1 u<|zC<|zG<|wA (fun s1 K=>K [(0, vs y0), (21, vb s1)] [] []) (zM<|zA 4 u<|wH 7 u (zA 3 u<|zJ (vb true)<|zA 4 u<|zJ (vb true)<|zA 4 u<|zJ (vb true)<|zF<|zN (gv kk [] d))<|zA 3 u<|
  zJ (vb (decide (12 < (len y0))))<|zA 1 u<|wH 12 u (zA 3 u<|zJ (vb true)<|zA 4 u<|zJ (vb true)<|zF<|zN (gv kk [] d))<|zA 1 u<|xO fun x1 h1=>jv (fun h=>zJy h u u underlying9 h1)<|zA 1 u<|
  zJ (vb (decide (x1 < 97)))<|zA 1 u<|wH 17 u (zA 3 u<|zJ (vb true)<|zF<|zN (gv kk [] d))<|zA 1 u<|xO fun x2 h2=>jv (fun h=>zJy h u u underlying9 h2)<|zA 1 u<|zJ (vb (decide (122 < x2)))<|zF<|
  zN (gv kk [] d))<|fun s1 _ k=>k<|zI u (zB<|zA 1 u<|zC<|zK<|qC<|zS u u kk [] d)<|zL<|zD<|zG<|zB<|zA 1 u<|zC<|zQ<|qP (fun s2 K=>K [(0, vs y0), (3, vi s2)] [] []) (gv kk [] d)<|
  fun s2 _ k=>k<|zG<|zB<|zA 4 u<|zC<|zI u (zL<|zD<|zG<|zQ<|wA (fun s3 K=>K [(0, vs y0), (3, vi s2), (55, vb s3)] [] []) (zM<|zA 2 u<|xO fun x3 h3=>jv (fun h=>zJy h u u underlying9 h3)<|zA 2 u<|wH 32 u (
  zA 4 u<|zJ (vb true)<|zA 3 u<|xO fun x4 h4=>jv (fun h=>zJy h u u underlying9 h4)<|zA 2 u<|wH 43 u (zA 4 u<|zJ (vb true)<|zJ (vb true)<|zA 3 u<|xO fun x5 h5=>
  jv (fun h=>zJy h u u underlying9 h5)<|zA 1 u<|zJ (vb (x5 != 95))<|zF<|zN (gv kk [] d))<|zA 2 u<|xO fun x6 h6=>jv (fun h=>zJy h u u underlying9 h6)<|zA 1 u<|zJ (vb (decide (57 < x6)))<|
  zJ (vb (decide (57 < x6)))<|zA 1 u<|wH 50 u (zA 2 u<|xO fun x7 h7=>jv (fun h=>zJy h u u underlying9 h7)<|zA 1 u<|zJ (vb (x7 != 95))<|zF<|zN (gv kk [] d))<|zA 4 u<|zJ (vb false)<|zF<|
  zN (gv kk [] d))<|zA 2 u<|xO fun x8 h8=>jv (fun h=>zJy h u u underlying9 h8)<|zA 1 u<|zJ (vb (decide (122 < x8)))<|zA 1 u<|wH 38 u (zA 2 u<|xO fun x9 h9=>
  jv (fun h=>zJy h u u underlying9 h9)<|zA 2 u<|wH 43 u (zA 4 u<|zJ (vb true)<|zJ (vb true)<|zA 3 u<|xO fun x10 h10=>jv (fun h=>zJy h u u underlying9 h10)<|zA 1 u<|zJ (vb (x10 != 95))<|zF<|
  zN (gv kk [] d))<|zA 2 u<|xO fun x11 h11=>jv (fun h=>zJy h u u underlying9 h11)<|zA 1 u<|zJ (vb (decide (57 < x11)))<|zJ (vb (decide (57 < x11)))<|zA 1 u<|wH 50 u (zA 2 u<|xO fun x12 h12=>
  jv (fun h=>zJy h u u underlying9 h12)<|zA 1 u<|zJ (vb (x12 != 95))<|zF<|zN (gv kk [] d))<|zA 4 u<|zJ (vb false)<|zF<|zN (gv kk [] d))<|zA 10 u<|zJ (vb false)<|zA 5 u<|zJ (vb false)<|
  zF<|zN (gv kk [] d))<|fun s3 _ k=>k<|zI u (zB<|zA 1 u<|zC<|zK<|qV<|qC<|wX<|qV<|qC<|zS u u kk [] d)<|zL<|qD<|zD<|zM<|zA 3 u<|zF<|qF (gv kk [] d))<|qM<|qL<|qO<|qN<|zD<|zB<|
  zA 1 u<|zC<|zK<|zS u u kk [] d
theorem zGE {qd : Prop} {y0 : zO} : qA qd prog 28 [.agg #[vb y0.1, vs y0.2]] [] [] (zCC y0) fun r K=>K (vb r) [] [] :=
 qE call28 func28 u fun X=>zB<|qT .s u<|fun b1=>zA 1 u<|zC<|zB<|zU 1 u<|zV 0 u u u<|qI zGC u d<|fun r1 _ k=>k<|zA 1 u<|zC<|zK<|zS u u kk [] d
theorem zPH {qd : Prop} {y0 : List zO} {y1 : zO} : qA qd prog 84 [sv p1 y0 c1, .agg #[vb y1.1, vs y1.2]] [] [Rl e_Literal p1 c1 y0] (zKO y0 y1) fun r K=>K (vb r) [] [] :=
 qE call84 func84 u fun X=>zB<|qT .s u<|fun b1=>zA 1 u<|zC<|zG<|zB<|zA 1 u<|zC<|zQ<|qP (fun s1 K=>K [(0, sv p1 y0 c1), (3, pt b1 0), (5, vi s1)] [bx b1 30 [vb y1.1, vs y1.2]] [Rl e_Literal p1 c1 y0]) (gv kk [0] ⟨gk 0,d⟩)<|fun s1 _ k=>k<|
  zG<|zB<|zA 4 u<|zC<|zI u (zL<|zD<|zG<|zQ<|yK [] [0] 6<|zX 4 [0,1] u<|vJ 2 0 u u u u<|fun x1 b2 o1=>vH 3 true yM u (gk 0) u<|vM 4 0 2 u u u u<|wC 5 (vb (x1 == y1)) u<|qS<|zD<|zI u (zB<|
  zA 1 u<|zC<|zK<|qV<|qC<|wX<|qV<|qC<|zS u u kk [] d)<|zL<|qD<|zD<|zM<|zA 3 u<|zF<|qF (gv kk [0] ⟨gk 1,d⟩))<|qM<|qL<|qO<|qN<|zD<|zB<|zA 1 u<|zC<|zK<|zS u u kk [] d
theorem zS1 {qd : Prop} {y0 : zT} : qA qd prog 83 [.agg #[sv p1 y0.1 c1, sv p2 y0.2.1 c2, sv p3 y0.2.2 c3]] [] [Rl e_Premise p1 c1 y0.1, Rl e_Rule p2 c2 y0.2.1, Rl e_Promotion p3 c3 y0.2.2] (zJT y0) fun r K=>∀ p4 c4 p5 c5 r_1 p6 c6,K (.agg #[sv p4 r.1 c4, sv p5 r.2.1 c5, sv p6 r.2.2 c6]) [r_1] [Rl e_Premise p4 c4 r.1, Al e_Rule 73 r_1 p5 c5 r.2.1, Rl e_Promotion p6 c6 r.2.2] :=
 qE call83 func83 u fun X=>zB<|qT .s u<|fun b1=>wL .s (.agg #[.slice none 0 0, .slice none 0 0, .slice none 0 0])<|fun b2=>zC<|
  wA (fun s1 K=>∀ b3 p4 c4 r_1 p5 c5 r_2 p6 c6 r_3,K [(1, pt b1 0), (2, pt b2 0), (3, pt b3 0)] [bx b1 26 [sv p1 y0.1 c1, sv p2 y0.2.1 c2, sv p3 y0.2.2 c3], bx b2 26 [.slice none 0 0, .slice none 0 0, .slice none 0 0], bx b3 26 [sv p4 s1.1 c4, sv p5 s1.2.1 c5, sv p6 s1.2.2 c6], r_1, r_2, r_3] [Al e_Premise 67 r_1 p4 c4 s1.1, Al e_Rule 73 r_2 p5 c5 s1.2.1, Al e_Promotion 75 r_3 p6 c6 s1.2.2, Rl e_Premise p1 c1 y0.1, Rl e_Rule p2 c2 y0.2.1, Rl e_Promotion p3 c3 y0.2.2]) (
  yN [] [0] 11<|qQ 1 0 u u<|qZ 2 0 u u u u<|qQ 5 2 u u<|qZ 6 0 u u u u<|jd3 0 4 9 (uY (.f u) (e := e_Premise) 67 [] ([] : List vE) rN<|fun r_4 p7 c7=>zZ<|jd3 3 4 9 (wM (.f u) 2 0 u (gk 1) u u<|
  fun x1 r_5 p8 c8=>zZ<|xM 4 9 (uY (.f u) (e := e_Promotion) 75 [] ([] : List vQ) rN<|fun r_6 p9 c9=>zZ<|xM 7 9 (wM (.f u) 3 0 u (gk 5) u u<|fun x2 r_7 p10 c10=>zZ<|
  wC 8 (.agg #[sv p8 x1 c8, .slice none 0 0, sv p10 x2 c10]) u<|vD e_Rule 73<|qG 9<|wL (.f u) (.agg #[.slice none 0 0, .slice none 0 0, .slice none 0 0])<|fun b4=>zZ<|qG 10<|qU (o := 0) (.f u) 5 u u u<|zZ<|qS<|
  zN (gv (fun _ k=>k b4 p8 c8 r_5 none 0 [] p10 c10 r_7) [0,1,5,2,4,3] ⟨gk 3,gk 0,gk 1,gk 5,gk 6,gk 7,d⟩)) <|wL (.f u) (.agg #[.slice none 0 0, .slice none 0 0, .slice none 0 0])<|fun b5=>zZ<|qG 7<|wM (.f u) 3 0 u (gk 5) u u<|
  fun x3 r_8 p11 c11=>zZ<|wC 8 (.agg #[sv p8 x1 c8, .slice none 0 0, sv p11 x3 c11]) u<|vD e_Rule 73<|qG 10<|qU (o := 0) (.f u) 4 u u u<|zZ<|qS<|
  zN (gv (fun _ k=>k b5 p8 c8 r_5 none 0 [] p11 c11 r_8) [0,1,4,2,5,3] ⟨gk 3,gk 0,gk 1,gk 5,gk 6,gk 7,d⟩)) <|wL (.f u) (.agg #[.slice none 0 0, .slice none 0 0, .slice none 0 0])<|fun b6=>zZ<|qG 4<|
  uY (.f u) (e := e_Promotion) 75 [] ([] : List vQ) rN<|fun r_9 p12 c12=>zZ<|qG 7<|wM (.f u) 4 0 u (gk 5) u u<|fun x4 r_10 p13 c13=>zZ<|wC 8 (.agg #[sv p8 x1 c8, .slice none 0 0, sv p13 x4 c13]) u<|vD e_Rule 73<|
  qG 10<|qU (o := 0) (.f u) 3 u u u<|zZ<|qS<|zN (gv (fun _ k=>k b6 p8 c8 r_5 none 0 [] p13 c13 r_10) [0,1,3,2,5,4] ⟨gk 3,gk 0,gk 1,gk 5,gk 6,gk 7,d⟩)) (uY (.f u) (e := e_Promotion) 75 [] ([] : List vQ) rN<|
  fun r_11 p14 c14=>zZ<|xM 3 9 (wM (.f u) 2 1 u (gk 2) u u<|fun x5 r_12 p15 c15=>zZ<|xM 7 9 (wM (.f u) 3 1 u (gk 5) u u<|fun x6 r_13 p16 c16=>zZ<|wC 8 (.agg #[sv p15 x5 c15, .slice none 0 0, sv p16 x6 c16]) u<|
  vD e_Rule 73<|qG 9<|wL (.f u) (.agg #[.slice none 0 0, .slice none 0 0, .slice none 0 0])<|fun b7=>zZ<|qG 10<|qU (o := 0) (.f u) 5 u u u<|zZ<|qS<|
  zN (gv (fun _ k=>k b7 p15 c15 r_12 none 0 [] p16 c16 r_13) [0,1,5,2,4,3] ⟨gk 2,gk 0,gk 1,gk 5,gk 6,gk 7,d⟩)) <|wL (.f u) (.agg #[.slice none 0 0, .slice none 0 0, .slice none 0 0])<|fun b8=>zZ<|qG 7<|
  wM (.f u) 3 1 u (gk 5) u u<|fun x7 r_14 p17 c17=>zZ<|wC 8 (.agg #[sv p15 x5 c15, .slice none 0 0, sv p17 x7 c17]) u<|vD e_Rule 73<|qG 10<|qU (o := 0) (.f u) 4 u u u<|zZ<|qS<|
  zN (gv (fun _ k=>k b8 p15 c15 r_12 none 0 [] p17 c17 r_14) [0,1,4,2,5,3] ⟨gk 2,gk 0,gk 1,gk 5,gk 6,gk 7,d⟩)) <|wL (.f u) (.agg #[.slice none 0 0, .slice none 0 0, .slice none 0 0])<|fun b9=>zZ<|qG 3<|
  wM (.f u) 2 1 u (gk 2) u u<|fun x8 r_15 p18 c18=>zZ<|qG 7<|wM (.f u) 3 1 u (gk 5) u u<|fun x9 r_16 p19 c19=>zZ<|wC 8 (.agg #[sv p18 x8 c18, .slice none 0 0, sv p19 x9 c19]) u<|vD e_Rule 73<|qG 10<|
  qU (o := 0) (.f u) 4 u u u<|zZ<|qS<|zN (gv (fun _ k=>k b9 p18 c18 r_15 none 0 [] p19 c19 r_16) [0,1,4,2,5,3] ⟨gk 2,gk 0,gk 1,gk 5,gk 6,gk 7,d⟩)) <|wL (.f u) (.agg #[.slice none 0 0, .slice none 0 0, .slice none 0 0])<|
  fun b10=>zZ<|xM 3 4 (wM (.f u) 2 0 u (gk 1) u u<|fun x10 r_17 p20 c20=>zZ<|qG 4<|uY (.f u) (e := e_Promotion) 75 [] ([] : List vQ) rN<|fun r_18 p21 c21=>zZ<|qG 7<|wM (.f u) 4 0 u (gk 5) u u<|
  fun x11 r_19 p22 c22=>zZ<|wC 8 (.agg #[sv p20 x10 c20, .slice none 0 0, sv p22 x11 c22]) u<|vD e_Rule 73<|qG 10<|qU (o := 0) (.f u) 3 u u u<|zZ<|qS<|
  zN (gv (fun _ k=>k b10 p20 c20 r_17 none 0 [] p22 c22 r_19) [0,1,3,2,5,4] ⟨gk 3,gk 0,gk 1,gk 5,gk 6,gk 7,d⟩)) <|uY (.f u) (e := e_Promotion) 75 [] ([] : List vQ) rN<|fun r_20 p23 c23=>zZ<|qG 3<|
  wM (.f u) 2 1 u (gk 2) u u<|fun x12 r_21 p24 c24=>zZ<|qG 7<|wM (.f u) 4 1 u (gk 5) u u<|fun x13 r_22 p25 c25=>zZ<|wC 8 (.agg #[sv p24 x12 c24, .slice none 0 0, sv p25 x13 c25]) u<|vD e_Rule 73<|qG 10<|
  qU (o := 0) (.f u) 3 u u u<|zZ<|qS<|zN (gv (fun _ k=>k b10 p24 c24 r_21 none 0 [] p25 c25 r_22) [0,1,3,2,5,4] ⟨gk 2,gk 0,gk 1,gk 5,gk 6,gk 7,d⟩)) (uY (.f u) (e := e_Promotion) 75 [] ([] : List vQ) rN<|
  fun r_23 p26 c26=>zZ<|xM 0 9 (uY (.f u) (e := e_Premise) 67 [] ([] : List vE) rN<|fun r_24 p27 c27=>zZ<|xM 3 9 (wM (.f u) 3 0 u (gk 2) u u<|fun x14 r_25 p28 c28=>zZ<|xM 7 9 (wM (.f u) 2 2 u (gk 5) u u<|
  fun x15 r_26 p29 c29=>zZ<|wC 8 (.agg #[sv p28 x14 c28, .slice none 0 0, sv p29 x15 c29]) u<|vD e_Rule 73<|qG 9<|wL (.f u) (.agg #[.slice none 0 0, .slice none 0 0, .slice none 0 0])<|fun b11=>zZ<|qG 10<|
  qU (o := 0) (.f u) 5 u u u<|zZ<|qS<|zN (gv (fun _ k=>k b11 p28 c28 r_25 none 0 [] p29 c29 r_26) [0,1,5,3,4,2] ⟨gk 2,gk 0,gk 1,gk 5,gk 6,gk 7,d⟩)) <|wL (.f u) (.agg #[.slice none 0 0, .slice none 0 0, .slice none 0 0])<|
  fun b12=>zZ<|qG 7<|wM (.f u) 2 2 u (gk 5) u u<|fun x16 r_27 p30 c30=>zZ<|wC 8 (.agg #[sv p28 x14 c28, .slice none 0 0, sv p30 x16 c30]) u<|vD e_Rule 73<|qG 10<|qU (o := 0) (.f u) 4 u u u<|zZ<|qS<|
  zN (gv (fun _ k=>k b12 p28 c28 r_25 none 0 [] p30 c30 r_27) [0,1,4,3,5,2] ⟨gk 2,gk 0,gk 1,gk 5,gk 6,gk 7,d⟩)) <|wL (.f u) (.agg #[.slice none 0 0, .slice none 0 0, .slice none 0 0])<|fun b13=>zZ<|qG 3<|
  wM (.f u) 3 0 u (gk 2) u u<|fun x17 r_28 p31 c31=>zZ<|qG 7<|wM (.f u) 2 2 u (gk 5) u u<|fun x18 r_29 p32 c32=>zZ<|wC 8 (.agg #[sv p31 x17 c31, .slice none 0 0, sv p32 x18 c32]) u<|vD e_Rule 73<|qG 10<|
  qU (o := 0) (.f u) 4 u u u<|zZ<|qS<|zN (gv (fun _ k=>k b13 p31 c31 r_28 none 0 [] p32 c32 r_29) [0,1,4,3,5,2] ⟨gk 2,gk 0,gk 1,gk 5,gk 6,gk 7,d⟩)) <|wL (.f u) (.agg #[.slice none 0 0, .slice none 0 0, .slice none 0 0])<|
  fun b14=>zZ<|qG 0<|uY (.f u) (e := e_Premise) 67 [] ([] : List vE) rN<|fun r_30 p33 c33=>zZ<|qG 3<|wM (.f u) 4 0 u (gk 2) u u<|fun x19 r_31 p34 c34=>zZ<|qG 7<|wM (.f u) 2 2 u (gk 5) u u<|
  fun x20 r_32 p35 c35=>zZ<|wC 8 (.agg #[sv p34 x19 c34, .slice none 0 0, sv p35 x20 c35]) u<|vD e_Rule 73<|qG 10<|qU (o := 0) (.f u) 3 u u u<|zZ<|qS<|
  zN (gv (fun _ k=>k b14 p34 c34 r_31 none 0 [] p35 c35 r_32) [0,1,3,4,5,2] ⟨gk 2,gk 0,gk 1,gk 5,gk 6,gk 7,d⟩)) <|wL (.f u) (.agg #[.slice none 0 0, .slice none 0 0, .slice none 0 0])<|fun b15=>zZ<|xM 0 4 (
  uY (.f u) (e := e_Premise) 67 [] ([] : List vE) rN<|fun r_33 p36 c36=>zZ<|xM 3 4 (wM (.f u) 3 0 u (gk 1) u u<|fun x21 r_34 p37 c37=>zZ<|qG 4<|uY (.f u) (e := e_Promotion) 75 [] ([] : List vQ) rN<|
  fun r_35 p38 c38=>zZ<|qG 7<|wM (.f u) 4 0 u (gk 5) u u<|fun x22 r_36 p39 c39=>zZ<|wC 8 (.agg #[sv p37 x21 c37, .slice none 0 0, sv p39 x22 c39]) u<|vD e_Rule 73<|qG 10<|qU (o := 0) (.f u) 2 u u u<|zZ<|qS<|
  zN (gv (fun _ k=>k b15 p37 c37 r_34 none 0 [] p39 c39 r_36) [0,1,2,3,5,4] ⟨gk 3,gk 0,gk 1,gk 5,gk 6,gk 7,d⟩)) <|uY (.f u) (e := e_Promotion) 75 [] ([] : List vQ) rN<|fun r_37 p40 c40=>zZ<|qG 3<|
  wM (.f u) 3 1 u (gk 2) u u<|fun x23 r_38 p41 c41=>zZ<|qG 7<|wM (.f u) 4 1 u (gk 5) u u<|fun x24 r_39 p42 c42=>zZ<|wC 8 (.agg #[sv p41 x23 c41, .slice none 0 0, sv p42 x24 c42]) u<|vD e_Rule 73<|qG 10<|
  qU (o := 0) (.f u) 2 u u u<|zZ<|qS<|zN (gv (fun _ k=>k b15 p41 c41 r_38 none 0 [] p42 c42 r_39) [0,1,2,3,5,4] ⟨gk 2,gk 0,gk 1,gk 5,gk 6,gk 7,d⟩)) <|uY (.f u) (e := e_Promotion) 75 [] ([] : List vQ) rN<|
  fun r_40 p43 c43=>zZ<|qG 0<|uY (.f u) (e := e_Premise) 67 [] ([] : List vE) rN<|fun r_41 p44 c44=>zZ<|qG 3<|wM (.f u) 4 0 u (gk 2) u u<|fun x25 r_42 p45 c45=>zZ<|qG 7<|wM (.f u) 3 2 u (gk 5) u u<|
  fun x26 r_43 p46 c46=>zZ<|wC 8 (.agg #[sv p45 x25 c45, .slice none 0 0, sv p46 x26 c46]) u<|vD e_Rule 73<|qG 10<|qU (o := 0) (.f u) 2 u u u<|zZ<|qS<|
  zN (gv (fun _ k=>k b15 p45 c45 r_42 none 0 [] p46 c46 r_43) [0,1,2,4,5,3] ⟨gk 2,gk 0,gk 1,gk 5,gk 6,gk 7,d⟩))<|fun s1 _ k b3 p4 c4 r_1 p5 c5 r_2 p6 c6 r_3=>k<|
  wA (fun s2 K=>∀ p47 c47 r_44,K [(2, pt b2 0), (3, pt b3 0)] [[], bx b2 26 [.slice none 0 0, .slice none 0 0, .slice none 0 0], bx b3 26 [sv p4 s1.1 c4, sv p47 s2 c47, sv p6 s1.2.2 c6], r_1, r_44, r_3] [Al e_Rule 73 r_44 p47 c47 s2, Al e_Premise 67 r_1 p4 c4 s1.1, Al e_Promotion 75 r_3 p6 c6 s1.2.2]) (
  zB<|zA 1 u<|zC<|zQ<|
  qP (fun s3 K=>∀ p48 c48 r_45,K [(1, pt b1 0), (2, pt b2 0), (3, pt b3 0), (4, vi s3.1)] [bx b1 26 [sv p1 y0.1 c1, sv p2 y0.2.1 c2, sv p3 y0.2.2 c3], bx b2 26 [.slice none 0 0, .slice none 0 0, .slice none 0 0], bx b3 26 [sv p4 s1.1 c4, sv p48 s3.2 c48, sv p6 s1.2.2 c6], r_1, r_45, r_3] [Al e_Rule 73 r_45 p48 c48 s3.2, Rl e_Premise p1 c1 y0.1, Rl e_Rule p2 c2 y0.2.1, Rl e_Promotion p3 c3 y0.2.2, Al e_Premise 67 r_1 p4 c4 s1.1, Al e_Promotion 75 r_3 p6 c6 s1.2.2]) (gv (fun _ k=>k p5 c5 r_2) [0,1,2,3,4,5] ⟨gk 1,gk 3,gk 4,gk 5,gk 0,gk 2,d⟩)<|
  fun s3 _ k p48 c48 r_45=>k<|zG<|zB<|zA 1 u<|zU 1 u<|zV 0 u u u<|zA 2 u<|zC<|zI u (zL<|zD<|zG<|zQ<|zB<|zU 1 u<|zV 0 u u u<|zA 1 u<|qX 2 u u u<|fun x27 b16 o1=>qW true zMN (gk 0) u<|
  fun p49 c49=>wL .s (.agg #[vs [], vb false, vi 0, .slice none 0 0, vb false, vs []])<|fun b17=>qU .s 6 u u u<|zC<|zB<|uY .s (e := e_Literal) 30 [] ([] : List zO) rN<|fun r_46 p50 c50=>zU 3 u<|zV 6 u u u<|
  wM .s 7 0 u (gk 1) u u<|fun x28 r_47 p51 c51=>zU 3 u<|qU .s 6 u u u<|zC<|zM<|zU 1 u<|zV 2 u u u<|qK 6 6 u u u<|wS 7 0 u u<|
  wV .s (e := e_Rule) 73 [vs x27.1, vb x27.2.1, vi x27.2.2.1, sv p51 x28 c51, vb x27.2.2.2.2.1, vs x27.2.2.2.2.2] ([(x27.1, x27.2.1, x27.2.2.1, x28, x27.2.2.2.2)] : List wD) (rC (vP vS (vP vB (vP vI (vP (vL (gk 0)) (vP vB vS))))) rN)<|
  fun p52 c52=>wM .s 4 6 u (gk 0) u u<|fun x29 r_48 p53 c53=>zU 1 u<|qU .s 2 u u u<|zF<|qD<|zD<|zM<|zA 3 u<|zF<|qF (gv (fun _ k=>k p53 c53 r_48) [0,1,2,3,4,5] ⟨gk 0,gk 8,gk 9,gk 10,gk 11,gk 12,d⟩))<|qM<|qL<|qO<|
  qN<|zN (gv (fun _ k=>k p48 c48 r_45) [900,1,2,3,4,5] ⟨gk 0,gk 4,gk 5,d⟩))<|fun s2 _ k p47 c47 r_44=>k<|zB<|qK 2 3 u u u<|qU .s 1 u u u<|zC<|zK<|wS 3 1 u u<|wS 5 3 u u<|
  wR u (lC 1 (.agg #[sv p4 s1.1 c4, sv p47 s2 c47, sv p6 s1.2.2 c6]) u u lN) (fun _ k=>k p4 c4 p47 c47 r_44 p6 c6) [4] ⟨gk 1,gk 2,gk 0,d⟩
theorem zOh {qd : Prop} {y0 : zT} {y1 : List zO} : qA qd prog 37 [.agg #[sv p1 y0.1 c1, sv p2 y0.2.1 c2, sv p3 y0.2.2 c3], sv p4 y1 c4] [] [Rl e_Premise p1 c1 y0.1, Rl e_Rule p2 c2 y0.2.1, Rl e_Promotion p3 c3 y0.2.2, Rl e_Literal p4 c4 y1] (zHY y0 y1) fun r K=>∀ p5 c5 p6 c6 p7 c7,K (.agg #[sv p5 r.1 c5, sv p6 r.2.1 c6, sv p7 r.2.2 c7]) [] [Rl e_Premise p5 c5 r.1, Rl e_Rule p6 c6 r.2.1, Rl e_Promotion p7 c7 r.2.2] :=
 qE call37 func37 u fun X=>zB<|qT .s u<|fun b1=>wL .s (.agg #[.slice none 0 0, .slice none 0 0, .slice none 0 0])<|fun b2=>zC<|zB<|qK 0 3 u u u<|qI zS1 u ⟨ck 0,ck 1,ck 2,d⟩<|fun r1 _ k p5 c5 p6 c6 r_1 p7 c7=>k<|
  wL .s (.agg #[.slice none 0 0, .slice none 0 0, .slice none 0 0])<|fun b3=>qU .s 3 u u u<|zC<|
  wA (fun s1 K=>∀ p8 c8 r_2,K [(4, pt b2 0), (5, pt b3 0)] [[], bx b2 26 [.slice none 0 0, .slice none 0 0, .slice none 0 0], r_2, bx b3 26 [sv p5 r1.1 c5, sv p8 s1 c8, sv p7 r1.2.2 c7]] [Al e_Rule 73 r_2 p8 c8 s1, Rl e_Premise p5 c5 r1.1, Rl e_Promotion p7 c7 r1.2.2]) (
  zB<|zA 1 u<|zC<|zQ<|
  qP (fun s2 K=>∀ p9 c9 r_3,K [(1, sv p4 y1 c4), (2, pt b1 0), (4, pt b2 0), (5, pt b3 0), (6, vi s2.1)] [bx b1 26 [sv p1 y0.1 c1, sv p2 y0.2.1 c2, sv p3 y0.2.2 c3], bx b2 26 [.slice none 0 0, .slice none 0 0, .slice none 0 0], r_3, bx b3 26 [sv p5 r1.1 c5, sv p9 s2.2 c9, sv p7 r1.2.2 c7]] [Al e_Rule 73 r_3 p9 c9 s2.2, Rl e_Literal p4 c4 y1, Rl e_Premise p1 c1 y0.1, Rl e_Rule p2 c2 y0.2.1, Rl e_Promotion p3 c3 y0.2.2, Rl e_Premise p5 c5 r1.1, Rl e_Promotion p7 c7 r1.2.2]) (gv (fun _ k=>k p6 c6 r_1) [0,1,2,3] ⟨gk 1,gk 6,gk 3,gk 4,gk 5,gk 0,gk 2,d⟩)<|
  fun s2 _ k p9 c9 r_3=>k<|zG<|zB<|zA 1 u<|zU 1 u<|zV 3 u u u<|zA 2 u<|zC<|zI u (zL<|zD<|zG<|zQ<|zB<|zA 1 u<|zC<|zQ<|
  qP (fun s3 K=>∀ p10 c10 r_4,K [(1, sv p4 y1 c4), (2, pt b1 0), (4, pt b2 0), (5, pt b3 0), (6, vi s2.1), (7, vi s3.1)] [bx b1 26 [sv p1 y0.1 c1, sv p2 y0.2.1 c2, sv p3 y0.2.2 c3], bx b2 26 [.slice none 0 0, .slice none 0 0, .slice none 0 0], r_4, bx b3 26 [sv p5 r1.1 c5, sv p10 s3.2 c10, sv p7 r1.2.2 c7]] [Al e_Rule 73 r_4 p10 c10 s3.2, Rl e_Literal p4 c4 y1, Rl e_Premise p1 c1 y0.1, Rl e_Rule p2 c2 y0.2.1, Rl e_Promotion p3 c3 y0.2.2, Rl e_Premise p5 c5 r1.1, Rl e_Promotion p7 c7 r1.2.2]) (gv (fun _ k=>k p9 c9 r_3) [0,1,2,3] ⟨gk 0,gk 1,gk 2,gk 3,gk 4,gk 5,gk 6,d⟩)<|
  fun s3 _ k p10 c10 r_4=>k<|zG<|zB<|zA 1 u<|zU 2 u<|zV 0 u u u<|zA 2 u<|zC<|zI u (zL<|zD<|zG<|zQ<|zB<|zU 2 u<|zV 0 u u u<|zA 1 u<|qX 4 u u u<|fun x1 b4 o1=>qW true zKP (gk 0) u<|
  wL .s (.agg #[vs [], vi 0, vb false, vs []])<|fun b5=>qU .s 4 u u u<|zC<|
  wA (fun s4 K=>K [(1, sv p4 y1 c4), (2, pt b1 0), (4, pt b2 0), (5, pt b3 0), (6, vi s2.1), (7, vi s3.1), (8, pt b5 0), (53, vb s4)] [bx b1 26 [sv p1 y0.1 c1, sv p2 y0.2.1 c2, sv p3 y0.2.2 c3], bx b2 26 [.slice none 0 0, .slice none 0 0, .slice none 0 0], r_4, bx b3 26 [sv p5 r1.1 c5, sv p10 s3.2 c10, sv p7 r1.2.2 c7], bx b5 75 [vs x1.1, vi x1.2.1, vb x1.2.2.1, vs x1.2.2.2]] [Rl e_Literal p4 c4 y1, Rl e_Premise p1 c1 y0.1, Rl e_Rule p2 c2 y0.2.1, Rl e_Promotion p3 c3 y0.2.2, Rl e_Premise p5 c5 r1.1, Al e_Rule 73 r_4 p10 c10 s3.2, Rl e_Promotion p7 c7 r1.2.2]) (
  yN [] [2, 3, 4] 24<|qQ 0 0 u u<|qZ 1 4 u u u u<|qQ 2 1 u u<|qZ 3 3 u u u u<|zX 19 [4] u<|xW 5 1 u u u u<|fun x2 h1 b6 hp1=>qQ 6 0 u u<|xU 7 2 1 sI.fst false oS u u hp1 h1 u<|
  zX 14 [8,9] u<|wH 39 u (qQ 10 1 u u<|qZ 11 3 u u u u<|zX 11 [12] u<|xW 13 1 u u u u<|fun x3 h2 b7 hp2=>qQ 14 1 u u<|xU 15 2 1 sI.snd.fst false oB u u hp2 h2 u<|zX 7 [16] u<|
  wC 17 (vb (!x3.2.1)) u<|zX 5 [18] u<|wH 48 u (zX 4 [19] u<|qQ 20 2 u u<|vM 21 4 2 u u u u<|qG 22<|qH (.f u) [] [] zPH u u u ⟨ck 2,d⟩<|fun r2 _ k=>k<|zZ<|wC 23 (vb r2) u<|qS<|
  zN (gv kk [0,1,2,3,4] ⟨gk 2,gk 3,gk 4,gk 5,gk 6,gk 1,gk 7,d⟩))<|zX 1 [19,20,21,22] u<|wC 23 (vb false) u<|qS<|zN (gv kk [0,1,2,3,4] ⟨gk 2,gk 3,gk 4,gk 5,gk 6,gk 1,gk 7,d⟩))<|zX 7 [10,11,12,13,14,15,16] u<|
  wC 17 (vb false) u<|zX 1 [18,19,20,21,22] u<|wC 23 (vb false) u<|qS<|zN (gv kk [0,1,2,3,4] ⟨gk 2,gk 3,gk 4,gk 5,gk 6,gk 1,gk 7,d⟩))<|fun s4 _ k=>k<|zI u (zM<|zU 1 u<|zV 3 u u u<|zA 1 u<|zU 1 u<|
  zV 4 u u u<|yH 5 u u u<|fun x4 h3 b8 hp3=>zU 2 u<|uX .s 2 5 sI.snd.snd.fst x1.2.1 false u hp3 h3 u u vI<|fun r_5=>zF<|qD<|zD<|zM<|zA 3 u<|zF<|
  jbL (fun q_=>[bx b1 26 [sv p1 y0.1 c1, sv p2 y0.2.1 c2, sv p3 y0.2.2 c3], bx b2 26 [.slice none 0 0, .slice none 0 0, .slice none 0 0], r_5, bx b3 26 [sv p5 r1.1 c5, .slice p10 q_ c10, sv p7 r1.2.2 c7], bx b5 75 [vs x1.1, vi x1.2.1, vb x1.2.2.1, vs x1.2.2.2]]) (gk 0) u<|
  qF (gv (fun _ k=>k p10 c10 r_5) [0,1,2,3] ⟨gk 0,gk 2,gk 3,gk 4,gk 5,gk 6,gk 8,d⟩))<|zL<|qD<|zD<|zM<|zA 3 u<|zF<|qF (gv (fun _ k=>k p10 c10 r_4) [0,1,2,3] ⟨gk 5,gk 0,gk 1,gk 2,gk 3,gk 4,gk 6,d⟩))<|qM<|qL<|qO<|qN<|qD<|zD<|
  zM<|zA 3 u<|zF<|qF (gv (fun _ k=>k p10 c10 r_4) [0,1,2,3] ⟨gk 0,gk 1,gk 2,gk 3,gk 4,gk 5,gk 6,d⟩))<|qM<|qL<|qO<|qN<|zN (gv (fun _ k=>k p9 c9 r_3) [900,1,2,3] ⟨gk 0,gk 5,gk 6,d⟩))<|fun s1 _ k p8 c8 r_2=>k<|zB<|
  qK 3 3 u u u<|qU .s 1 u u u<|zC<|zK<|wS 2 0 u u<|wR u (lC 1 (.agg #[sv p5 r1.1 c5, sv p8 s1 c8, sv p7 r1.2.2 c7]) u u lN) (fun _ k=>k p5 c5 p8 c8 p7 c7) [] ⟨gk 2,gk 0,gk 3,d⟩
theorem zOA {qd : Prop} {y0 : zT} {y1 : wZ} : qA qd prog 131 [.agg #[sv p1 y0.1 c1, sv p2 y0.2.1 c2, sv p3 y0.2.2 c3], vs y1] [] [Rl e_Premise p1 c1 y0.1, Rl e_Rule p2 c2 y0.2.1, Rl e_Promotion p3 c3 y0.2.2] (zJd y0 y1) fun r K=>K (vi r) [] [] :=
 qE call131 func131 u fun X=>zB<|qT .s u<|fun b1=>zA 1 u<|zC<|zG<|zB<|zA 1 u<|zC<|zQ<|
  qP (fun s1 K=>K [(1, vs y1), (2, pt b1 0), (5, vi s1)] [bx b1 26 [sv p1 y0.1 c1, sv p2 y0.2.1 c2, sv p3 y0.2.2 c3]] [Rl e_Premise p1 c1 y0.1, Rl e_Rule p2 c2 y0.2.1, Rl e_Promotion p3 c3 y0.2.2]) (gv kk [0] ⟨gk 0,gk 1,gk 2,d⟩)<|
  fun s1 _ k=>k<|zG<|zB<|zA 1 u<|zU 1 u<|zV 0 u u u<|zA 2 u<|zC<|zI u (zL<|zD<|zG<|zQ<|zB<|zU 1 u<|zV 0 u u u<|zA 1 u<|qX 1 u u u<|fun x1 b2 o1=>zU 0 u<|qW false oS (gf (gk 0)) u<|
  zA 2 u<|zC<|zI u (zB<|zA 2 u<|zC<|zK<|qV<|qC<|wX<|qV<|qC<|zS u u kk [] d)<|zL<|qD<|zD<|zM<|zA 3 u<|zF<|qF (gv kk [0] ⟨gk 1,gk 2,gk 3,d⟩))<|qM<|qL<|qO<|qN<|zD<|zB<|zA 1 u<|zC<|
  zK<|zS u u kk [] d
theorem zOl {qd : Prop} {y0 : zT} {y1 : zO} : qA qd prog 129 [.agg #[sv p1 y0.1 c1, sv p2 y0.2.1 c2, sv p3 y0.2.2 c3], .agg #[vb y1.1, vs y1.2]] [] [Rl e_Premise p1 c1 y0.1, Rl e_Rule p2 c2 y0.2.1, Rl e_Promotion p3 c3 y0.2.2] (zJG y0 y1) fun r K=>K (vi r) [] [] :=
 qE call129 func129 u fun X=>zB<|qT .s u<|fun b1=>qT .s u<|fun b2=>zA 1 u<|zC<|zG<|zB<|zA 1 u<|zC<|zQ<|
  qP (fun s1 K=>K [(2, pt b1 0), (3, pt b2 0), (5, vi s1)] [bx b1 26 [sv p1 y0.1 c1, sv p2 y0.2.1 c2, sv p3 y0.2.2 c3], bx b2 30 [vb y1.1, vs y1.2]] [Rl e_Premise p1 c1 y0.1, Rl e_Rule p2 c2 y0.2.1, Rl e_Promotion p3 c3 y0.2.2]) (gv kk [0,1] ⟨gk 0,gk 1,gk 2,d⟩)<|
  fun s1 _ k=>k<|zG<|zB<|zA 1 u<|zU 0 u<|zV 0 u u u<|zA 2 u<|zC<|zI u (zL<|zD<|zG<|zQ<|yK [] [0, 1] 8<|qQ 0 0 u u<|qZ 1 0 u u u u<|zX 5 [2] u<|vJ 3 0 u u u u<|fun x1 b3 o1=>
  qQ 4 0 u u<|vH 5 true yM u (gf (gk 0)) u<|vM 6 1 2 u u u u<|wC 7 (vb (x1.1 == y1)) u<|qS<|zD<|zI u (zB<|zA 2 u<|zC<|zK<|qV<|qC<|wX<|qV<|qC<|zS u u kk [] d)<|zL<|qD<|zD<|zM<|
  zA 3 u<|zF<|qF (gv kk [0,1] ⟨gk 1,gk 2,gk 3,d⟩))<|qM<|qL<|qO<|qN<|zD<|zB<|zA 1 u<|zC<|zK<|zS u u kk [] d
theorem zLW {qd : Prop} {y0 : Int} : qA qd prog 132 [vi y0] [] [] (zFb y0) fun r K=>K (vb r) [] [] :=
 qE call132 func132 u fun X=>zB<|zA 1 u<|zC<|yW (fun K=>K [(2, vb ((decide (0 ≤ y0)) && (decide (y0 ≤ 9))))] [] []) (zM<|zA 3 u<|vY (b := decide (0 ≤ y0)) 5 u (fun hb1=>zA 2 u<|zJ (vb (decide (y0 ≤ 9)))<|zA 1 u<|zF<|
  wN 2 (vb ((decide (0 ≤ y0)) && (decide (y0 ≤ 9)))) u (by rw [hb1]; rfl)<|zN (gv kk [] d))<|fun hb1=>zA 2 u<|zJ (vb false)<|zA 1 u<|zF<|wN 2 (vb ((decide (0 ≤ y0)) && (decide (y0 ≤ 9)))) u (by rw [hb1]; rfl)<|
  zN (gv kk [] d))<|fun _ k=>k<|zK<|zS u u kk [] d
theorem zPI {qd : Prop} {y0 : vE} : qA qd prog 128 [.agg #[vb y0.1.1, vs y0.1.2, vi y0.2.1, vi y0.2.2.1, vs y0.2.2.2]] [] [] (zHR y0) fun r K=>K (vi r) [] [] :=
 qE call128 func128 u fun X=>zB<|qT .s u<|fun b1=>zA 1 u<|zC<|zG<|yW (fun K=>K [(1, pt b1 0), (10, vb ((decide (y0.2.1 < 1)) || (decide (3 < y0.2.1))))] [bx b1 67 [vb y0.1.1, vs y0.1.2, vi y0.2.1, vi y0.2.2.1, vs y0.2.2.2]] []) (zM<|zU 2 u<|
  zV 0 u u u<|zA 2 u<|vY (b := decide (y0.2.1 < 1)) 6 u (fun hb1=>zA 3 u<|zJ (vb true)<|zF<|wN 10 (vb ((decide (y0.2.1 < 1)) || (decide (3 < y0.2.1)))) u (by rw [hb1]; rfl)<|zN (gv kk [0] d))<|fun hb1=>
  zU 2 u<|zV 0 u u u<|zA 1 u<|zJ (vb (decide (3 < y0.2.1)))<|zF<|wN 10 (vb ((decide (y0.2.1 < 1)) || (decide (3 < y0.2.1)))) u (by rw [hb1]; rfl)<|zN (gv kk [0] d))<|fun _ k=>k<|zI u (zB<|zA 1 u<|zC<|
  zK<|qC<|zS u u kk [] d)<|zL<|zD<|zG<|wA (fun s1 K=>K [(41, vb s1)] [[]] []) (zM<|zU 0 u<|qK 0 2 u u u<|qI zGE u d<|fun r1 _ k=>k<|zA 2 u<|wH 15 u (zA 4 u<|zJ (vb true)<|zA 9 u<|
  zJ (vb true)<|zA 10 u<|zJ (vb true)<|zF<|zN (gv kk [900] d))<|zU 3 u<|zV 0 u u u<|qI zLW u d<|fun r2 _ k=>k<|zA 1 u<|zJ (vb (!r2))<|zA 1 u<|wH 21 u (zA 8 u<|zJ (vb true)<|zA 10 u<|
  zJ (vb true)<|zF<|zN (gv kk [900] d))<|zU 2 u<|zV 0 u u u<|zA 2 u<|wH 25 u (zU 3 u<|zV 0 u u u<|zA 1 u<|zJ (vb (y0.2.2.1 != 0))<|zJ (vb (y0.2.2.1 != 0))<|zA 1 u<|wH 31 u (zA 9 u<|
  zJ (vb true)<|zF<|zN (gv kk [900] d))<|zU 4 u<|zV 0 u u u<|zA 2 u<|wH 35 u (zU 4 u<|zV 0 u u u<|qI zGC u d<|fun r3 _ k=>k<|zA 1 u<|zJ (vb (!r3))<|zJ (vb (!r3))<|zF<|
  zN (gv kk [900] d))<|zA 4 u<|zJ (vb false)<|zJ (vb false)<|zF<|zN (gv kk [900] d))<|zA 3 u<|zJ (vb false)<|zJ (vb false)<|zA 1 u<|zU 4 u<|zV 0 u u u<|zA 2 u<|wH 35 u (zU 4 u<|
  zV 0 u u u<|qI zGC u d<|fun r4 _ k=>k<|zA 1 u<|zJ (vb (!r4))<|zJ (vb (!r4))<|zF<|zN (gv kk [900] d))<|zA 4 u<|zJ (vb false)<|zJ (vb false)<|zF<|zN (gv kk [900] d))<|fun s1 _ k=>
  k<|zI u (zB<|zA 1 u<|zC<|zK<|qC<|zS u u kk [] d)<|zL<|zD<|zB<|zA 1 u<|zC<|zK<|zS u u kk [] d
theorem zLc {qd : Prop} {y0 : zO} {y1 : zO} : qA qd prog 143 [.agg #[vb y0.1, vs y0.2], .agg #[vb y1.1, vs y1.2]] [] [] (zF5 y0 y1) fun r K=>K (vi r) [] [] :=
 qE call143 func143 u fun X=>zB<|qT .s u<|fun b1=>qT .s u<|fun b2=>zA 1 u<|zC<|zG<|zQ<|zB<|qK 0 2 u u u<|qK 1 2 u u u<|zJ (vb (y0 == y1))<|zA 1 u<|zC<|zI u (zB<|zA 1 u<|zC<|zK<|qV<|qC<|zS u u kk [] d)<|
  yW (fun K=>K [(9, vb ((yP y0.2 y1.2) || ((y0.2 == y1.2) && y1.1)))] [[], []] []) (zM<|zU 1 u<|zV 0 u u u<|zU 1 u<|zV 1 u u u<|zA 2 u<|vY (b := yP y0.2 y1.2) 15 u (fun hb1=>zA 9 u<|zJ (vb true)<|
  zA 1 u<|zF<|wN 9 (vb ((yP y0.2 y1.2) || ((y0.2 == y1.2) && y1.1))) u (by rw [hb1]; rfl)<|zN (gv kk [900,901] d))<|fun hb1=>zU 1 u<|zV 0 u u u<|zU 1 u<|zV 1 u u u<|zA 2 u<|
  vY (b := y0.2 == y1.2) 21 u (fun hb2=>zU 0 u<|zV 1 u u u<|zJ (vb y1.1)<|zJ (vb y1.1)<|zA 1 u<|zF<|wN 9 (vb ((yP y0.2 y1.2) || ((y0.2 == y1.2) && y1.1))) u (by rw [hb1,hb2]; rfl)<|zN (gv kk [900,901] d)
  )<|fun hb2=>zA 2 u<|zJ (vb false)<|zJ (vb false)<|zA 1 u<|zF<|wN 9 (vb ((yP y0.2 y1.2) || ((y0.2 == y1.2) && y1.1))) u (by rw [hb1,hb2]; rfl)<|zN (gv kk [900,901] d))<|fun _ k=>k<|zI u (zB<|zA 1 u<|zC<|
  zK<|qV<|qC<|zS u u kk [] d)<|zL<|qD<|zD<|zB<|zA 1 u<|zC<|zK<|zS u u kk [] d
theorem zSI {qd : Prop} {y0 : wD} : qA qd prog 130 [.agg #[vs y0.1, vb y0.2.1, vi y0.2.2.1, sv p1 y0.2.2.2.1 c1, vb y0.2.2.2.2.1, vs y0.2.2.2.2.2]] [] [Rl e_Literal p1 c1 y0.2.2.2.1] (zJ5 y0) fun r K=>K (vi r) [] [] :=
 qE call130 func130 u fun X=>zB<|qT .s u<|fun b1=>zA 1 u<|zC<|zG<|zB<|zU 3 u<|zV 0 u u u<|zA 2 u<|zC<|zI u (zB<|zA 1 u<|zC<|zK<|qC<|zS u u kk [] d)<|zL<|zD<|
  wA (fun s1 K=>K [(1, pt b1 0), (3, vb s1)] [bx b1 73 [vs y0.1, vb y0.2.1, vi y0.2.2.1, sv p1 y0.2.2.2.1 c1, vb y0.2.2.2.2.1, vs y0.2.2.2.2.2]] [Rl e_Literal p1 c1 y0.2.2.2.1]) (zM<|zU 0 u<|zV 0 u u u<|
  qI zGC u d<|fun r1 _ k=>k<|zA 1 u<|wH 13 u (zU 2 u<|zV 0 u u u<|qI zLW u d<|fun r2 _ k=>k<|zJ (vb r2)<|zA 1 u<|wH 18 u (zU 1 u<|zV 0 u u u<|zA 2 u<|wH 22 u (zA 3 u<|
  zJ (vb true)<|zJ (vb true)<|zA 1 u<|zU 4 u<|qK 0 2 u u u<|qI zGE u d<|fun r3 _ k=>k<|zJ (vb r3)<|zA 1 u<|zF<|zN (gv kk [0] ⟨gk 0,d⟩))<|zU 2 u<|zV 0 u u u<|zA 1 u<|
  zJ (vb (y0.2.2.1 == 0))<|zJ (vb (y0.2.2.1 == 0))<|zA 1 u<|wH 28 u (zU 4 u<|qK 0 2 u u u<|qI zGE u d<|fun r4 _ k=>k<|zJ (vb r4)<|zA 1 u<|zF<|zN (gv kk [0] ⟨gk 0,d⟩))<|zA 3 u<|
  zJ (vb false)<|zA 1 u<|zF<|zN (gv kk [0] ⟨gk 0,d⟩))<|zA 8 u<|zJ (vb false)<|zA 4 u<|zJ (vb false)<|zA 1 u<|zF<|zN (gv kk [0] ⟨gk 0,d⟩))<|zA 3 u<|zJ (vb false)<|zA 9 u<|zJ (vb false)<|
  zA 4 u<|zJ (vb false)<|zA 1 u<|zF<|zN (gv kk [0] ⟨gk 0,d⟩))<|fun s1 _ k=>k<|
  wA (fun s2 K=>K [(1, pt b1 0), (3, vb s2)] [bx b1 73 [vs y0.1, vb y0.2.1, vi y0.2.2.1, sv p1 y0.2.2.2.1 c1, vb y0.2.2.2.2.1, vs y0.2.2.2.2.2]] [Rl e_Literal p1 c1 y0.2.2.2.1]) (zB<|zA 1 u<|zC<|zQ<|
  qP (fun s3 K=>K [(1, pt b1 0), (3, vb s3.1), (4, vi s3.2)] [bx b1 73 [vs y0.1, vb y0.2.1, vi y0.2.2.1, sv p1 y0.2.2.2.1 c1, vb y0.2.2.2.2.1, vs y0.2.2.2.2.2]] [Rl e_Literal p1 c1 y0.2.2.2.1]) (gv kk [0] ⟨gk 0,d⟩)<|fun s3 _ k=>
  k<|zG<|zB<|zA 1 u<|zU 3 u<|zV 0 u u u<|zA 2 u<|zC<|zI u (zL<|zD<|zG<|zQ<|
  jjc (fun s4 K=>K [(1, pt b1 0), (3, vb s4), (4, vi s3.2)] [bx b1 73 [vs y0.1, vb y0.2.1, vi y0.2.2.1, sv p1 y0.2.2.2.1 c1, vb y0.2.2.2.2.1, vs y0.2.2.2.2.2]] [Rl e_Literal p1 c1 y0.2.2.2.1]) (zM<|zA 2 u<|wH 41 u (zU 3 u<|
  zV 0 u u u<|zA 1 u<|qX 0 u u u<|fun x1 b2 o1=>qW true yM (gk 0) u<|qI zGE u d<|fun r5 _ k=>k<|zJ (vb r5)<|zA 1 u<|zF<|zN (gv kk [0] ⟨gk 1,d⟩))<|zA 6 u<|zJ (vb false)<|zA 1 u<|
  zF<|zN (gv kk [0] ⟨gk 0,d⟩))<|fun s4 _ k=>k<|qD<|zD<|zM<|zA 3 u<|zF<|qF (gv kk [0] ⟨gk 0,d⟩))<|qM<|qL<|qO<|qN<|zN (gv kk [0] ⟨gk 0,d⟩))<|fun s2 _ k=>k<|zG<|zB<|zA 2 u<|zC<|zI u (zB<|
  zA 1 u<|zC<|zK<|qC<|zS u u kk [] d)<|zL<|zD<|zG<|zB<|zA 1 u<|zC<|zQ<|
  qP (fun s5 K=>K [(1, pt b1 0), (5, vi s5)] [bx b1 73 [vs y0.1, vb y0.2.1, vi y0.2.2.1, sv p1 y0.2.2.2.1 c1, vb y0.2.2.2.2.1, vs y0.2.2.2.2.2]] [Rl e_Literal p1 c1 y0.2.2.2.1]) (gv kk [0] ⟨gk 0,d⟩)<|fun s5 _ k=>k<|zG<|zB<|
  zA 1 u<|zU 3 u<|zV 0 u u u<|zA 2 u<|zC<|zI u (zL<|zD<|zG<|zQ<|yK [] [0] 13<|qQ 0 3 u u<|qZ 1 0 u u u u<|zX 9 [2,3] u<|vJ 4 0 u u u u<|fun x2 b3 o2=>vH 5 true yM u (gk 0) u<|
  qQ 6 3 u u<|qZ 7 0 u u u u<|zX 4 [8] u<|vJ 9 1 u u u u<|fun x3 b4 o3=>vH 10 true yM u (gk 0) u<|qG 11<|qH (.f u) [] [] zLc u u u d<|fun r6 _ k=>k<|zZ<|zX 0 [12] u<|qS<|zD<|
  zI u (zB<|zA 1 u<|zC<|zK<|qV<|qC<|wX<|qV<|qC<|zS u u kk [] d)<|zL<|qD<|zD<|zM<|zA 3 u<|zF<|qF (gv kk [0] ⟨gk 2,d⟩))<|qM<|qL<|qO<|qN<|zD<|zB<|zA 1 u<|zC<|zK<|
  zS u u kk [] d
theorem zOV {qd : Prop} {y0 : zT} : qA qd prog 75 [.agg #[sv p1 y0.1 c1, sv p2 y0.2.1 c2, sv p3 y0.2.2 c3]] [] [Rl e_Premise p1 c1 y0.1, Rl e_Rule p2 c2 y0.2.1, Rl e_Promotion p3 c3 y0.2.2] (zEo y0) fun r K=>K (vi r) [] [] :=
 qE call75 func75 u fun X=>zB<|qT .s u<|fun b1=>zA 1 u<|zC<|zG<|
  yW (fun K=>K [(1, pt b1 0), (25, vb ((decide (16 < (len y0.1))) || ((decide (24 < (len y0.2.1))) || (decide (8 < (len y0.2.2))))))] [bx b1 26 [sv p1 y0.1 c1, sv p2 y0.2.1 c2, sv p3 y0.2.2 c3]] [Rl e_Premise p1 c1 y0.1, Rl e_Rule p2 c2 y0.2.1, Rl e_Promotion p3 c3 y0.2.2]) (
  zM<|zU 0 u<|zV 0 u u u<|zA 3 u<|vY (b := decide (16 < (len y0.1))) 14 u (fun hb1=>zA 4 u<|zJ (vb true)<|zA 5 u<|zJ (vb true)<|zF<|
  wN 25 (vb ((decide (16 < (len y0.1))) || ((decide (24 < (len y0.2.1))) || (decide (8 < (len y0.2.2)))))) u (by rw [hb1]; rfl)<|zN (gv kk [0] ⟨gk 0,gk 1,gk 2,d⟩))<|fun hb1=>zU 1 u<|zV 0 u u u<|zA 2 u<|
  zJ (vb (decide (24 < (len y0.2.1))))<|zA 1 u<|vY (b := decide (24 < (len y0.2.1))) 20 u (fun hb2=>zA 4 u<|zJ (vb true)<|zF<|
  wN 25 (vb ((decide (16 < (len y0.1))) || ((decide (24 < (len y0.2.1))) || (decide (8 < (len y0.2.2)))))) u (by rw [hb1,hb2]; rfl)<|zN (gv kk [0] ⟨gk 0,gk 1,gk 2,d⟩))<|fun hb2=>zU 2 u<|zV 0 u u u<|zA 2 u<|
  zJ (vb (decide (8 < (len y0.2.2))))<|zF<|wN 25 (vb ((decide (16 < (len y0.1))) || ((decide (24 < (len y0.2.1))) || (decide (8 < (len y0.2.2)))))) u (by rw [hb1,hb2]; rfl)<|zN (gv kk [0] ⟨gk 0,gk 1,gk 2,d⟩))<|fun _ k=>k<|
  zI u (zB<|zA 1 u<|zC<|zK<|qC<|zS u u kk [] d)<|zL<|zD<|
  jjo (fun s1 K=>K [(1, pt b1 0)] [bx b1 26 [sv p1 y0.1 c1, sv p2 y0.2.1 c2, sv p3 y0.2.2 c3]] [Rl e_Premise p1 c1 y0.1, Rl e_Rule p2 c2 y0.2.1, Rl e_Promotion p3 c3 y0.2.2]) (zB<|zA 1 u<|zC<|zQ<|
  qP (fun s2 K=>K [(1, pt b1 0), (3, vi s2)] [bx b1 26 [sv p1 y0.1 c1, sv p2 y0.2.1 c2, sv p3 y0.2.2 c3]] [Rl e_Premise p1 c1 y0.1, Rl e_Rule p2 c2 y0.2.1, Rl e_Promotion p3 c3 y0.2.2]) (gv kk [0] ⟨gk 0,gk 1,gk 2,d⟩)<|fun s2 _ k=>
  k<|zG<|zB<|zA 1 u<|zU 0 u<|zV 0 u u u<|zA 2 u<|zC<|zI u (zL<|zD<|zG<|zQ<|zG<|zB<|zU 0 u<|zV 0 u u u<|zA 1 u<|qX 0 u u u<|fun x1 b2 o1=>qW true zIV (gk 0) u<|
  qI zPI u d<|fun r1 _ k=>k<|zA 1 u<|zC<|zB<|zA 2 u<|zC<|zI u (zB<|zA 2 u<|zC<|zK<|qC<|qV<|qC<|wX<|qV<|wX<|zS u u kk [] d)<|zL<|zD<|yK [] [0] 10<|vM 0 0 3 u u u u<|
  qQ 1 0 u u<|qZ 2 0 u u u u<|zX 6 [3] u<|vJ 4 1 u u u u<|fun x2 b3 o2=>qQ 5 0 u u<|vH 6 true yM u (gf (gk 0)) u<|zX 2 [8] u<|qG 7<|
  qH (.f u) [] [] zOl u u u ⟨ck 2,ck 3,ck 4,d⟩<|fun r2 _ k=>k<|zZ<|zX 0 [9] u<|qS<|zD<|zI u (zB<|zA 1 u<|zC<|zK<|qV<|qC<|wX<|qV<|wX<|zS u u kk [] d)<|zL<|qD<|zD<|zM<|zA 3 u<|
  zF<|qF (gv kk [0] ⟨gk 2,gk 3,gk 4,d⟩))<|qM<|qL<|qO<|qN<|qF (gv kk [0] ⟨gk 0,gk 1,gk 2,d⟩))<|fun s1 _ k=>k<|
  jjo (fun s3 K=>K [(1, pt b1 0)] [bx b1 26 [sv p1 y0.1 c1, sv p2 y0.2.1 c2, sv p3 y0.2.2 c3]] [Rl e_Premise p1 c1 y0.1, Rl e_Rule p2 c2 y0.2.1, Rl e_Promotion p3 c3 y0.2.2]) (zB<|zA 1 u<|zC<|zQ<|
  qP (fun s4 K=>K [(1, pt b1 0), (5, vi s4)] [bx b1 26 [sv p1 y0.1 c1, sv p2 y0.2.1 c2, sv p3 y0.2.2 c3]] [Rl e_Premise p1 c1 y0.1, Rl e_Rule p2 c2 y0.2.1, Rl e_Promotion p3 c3 y0.2.2]) (gv kk [0] ⟨gk 0,gk 1,gk 2,d⟩)<|fun s4 _ k=>
  k<|zG<|zB<|zA 1 u<|zU 1 u<|zV 0 u u u<|zA 2 u<|zC<|zI u (zL<|zD<|zG<|zQ<|zG<|zB<|zU 1 u<|zV 0 u u u<|zA 1 u<|qX 1 u u u<|fun x3 b4 o3=>qW true zMN (gk 0) u<|fun p4 c4=>
  qI zSI u ⟨ck 0,d⟩<|fun r3 _ k=>k<|zA 1 u<|zC<|zB<|zA 2 u<|zC<|zI u (zB<|zA 2 u<|zC<|zK<|qC<|qV<|qC<|wX<|qV<|wX<|zS u u kk [] d)<|zL<|zD<|yK [] [0] 10<|vM 0 0 3 u u u u<|
  qQ 1 1 u u<|qZ 2 0 u u u u<|zX 6 [3] u<|vJ 4 3 u u u u<|fun x4 b5 o4=>qQ 5 0 u u<|vH 6 false oS u (gf (gk 0)) u<|zX 2 [8] u<|qG 7<|qH (.f u) [] [] zOA u u u ⟨ck 3,ck 4,ck 5,d⟩<|
  fun r4 _ k=>k<|zZ<|zX 0 [9] u<|qS<|zD<|zI u (zB<|zA 1 u<|zC<|zK<|qV<|qC<|wX<|qV<|wX<|zS u u kk [] d)<|zL<|qD<|zD<|zM<|zA 3 u<|zF<|qF (gv kk [0] ⟨gk 3,gk 4,gk 5,d⟩))<|qM<|qL<|qO<|
  qN<|qF (gv kk [0] ⟨gk 0,gk 1,gk 2,d⟩))<|fun s3 _ k=>k<|zG<|zB<|zA 1 u<|zC<|zQ<|
  qP (fun s5 K=>K [(1, pt b1 0), (7, vi s5)] [bx b1 26 [sv p1 y0.1 c1, sv p2 y0.2.1 c2, sv p3 y0.2.2 c3]] [Rl e_Premise p1 c1 y0.1, Rl e_Rule p2 c2 y0.2.1, Rl e_Promotion p3 c3 y0.2.2]) (gv kk [0] ⟨gk 0,gk 1,gk 2,d⟩)<|fun s5 _ k=>
  k<|zG<|zB<|zA 1 u<|zU 2 u<|zV 0 u u u<|zA 2 u<|zC<|zI u (zL<|zD<|zG<|zQ<|zB<|zU 2 u<|zV 0 u u u<|zA 1 u<|qX 2 u u u<|fun x5 b6 o5=>qW true zKP (gk 0) u<|
  wL .s (.agg #[vs [], vi 0, vb false, vs []])<|fun b7=>qU .s 1 u u u<|zC<|zG<|
  wA (fun s6 K=>K [(1, pt b1 0), (7, vi s5), (8, pt b7 0), (99, vb s6)] [bx b1 26 [sv p1 y0.1 c1, sv p2 y0.2.1 c2, sv p3 y0.2.2 c3], bx b7 75 [vs x5.1, vi x5.2.1, vb x5.2.2.1, vs x5.2.2.2]] [Rl e_Premise p1 c1 y0.1, Rl e_Rule p2 c2 y0.2.1, Rl e_Promotion p3 c3 y0.2.2]) (
  zM<|zU 1 u<|zV 1 u u u<|qI zLW u d<|fun r5 _ k=>k<|zA 2 u<|wH 94 u (zA 4 u<|zJ (vb true)<|zF<|zN (gv kk [0,1] ⟨gk 1,gk 2,gk 3,d⟩))<|zU 2 u<|qK 1 2 u u u<|qI zGE u d<|
  fun r6 _ k=>k<|zA 1 u<|zJ (vb (!r6))<|zF<|zN (gv kk [0,1] ⟨gk 1,gk 2,gk 3,d⟩))<|fun s6 _ k=>k<|zI u (zB<|zA 1 u<|zC<|zK<|qC<|qV<|qC<|wX<|qV<|qC<|zS u u kk [] d)<|zL<|zD<|zB<|
  qK 0 3 u u u<|zU 0 u<|zV 1 u u u<|qI zOA u ⟨ck 0,ck 1,ck 2,d⟩<|fun r7 _ k=>k<|zA 1 u<|zC<|zG<|zB<|zA 2 u<|zC<|zI u (zB<|zA 1 u<|zC<|zK<|qC<|qV<|qC<|wX<|qV<|qC<|
  zS u u kk [] d)<|zL<|zD<|zB<|zU 1 u<|zV 0 u u u<|zA 1 u<|qX 1 u u u<|fun x6 b8 o6=>zU 1 u<|qW false oB (gf (gs (gk 0))) u<|zC<|zI u (zB<|zA 1 u<|zC<|zK<|qV<|qC<|wX<|qV<|qC<|
  zS u u kk [] d)<|zL<|qD<|zD<|zM<|zA 3 u<|zF<|qF (gv kk [0] ⟨gk 1,gk 2,gk 3,d⟩))<|qM<|qL<|qO<|qN<|zD<|zB<|zA 1 u<|zC<|zK<|zS u u kk [] d
theorem zJi {qd : Prop} {y0 : List Int} {y1 : Int} : qA qd prog 191 [sv p1 y0 c1, vi y1] [] [Rl (eInt .i64) p1 c1 y0] (zFE y0 y1) fun r K=>∀ p2 c2,K (sv p2 r c2) [] [Rl (eInt .i64) p2 c2 r] :=
 qE call191 func191 u fun X=>zB<|zA 1 u<|zC<|zB<|zA 1 u<|zC<|wA (fun s1 K=>K [(0, sv p1 y0 c1), (1, vi y1), (5, vi s1)] [] [Rl (eInt .i64) p1 c1 y0]) (zQ<|
  qP (fun s2 K=>K [(0, sv p1 y0 c1), (1, vi y1), (5, vi s2)] [] [Rl (eInt .i64) p1 c1 y0]) (gv kk [] ⟨gk 0,d⟩)<|fun s2 _ k=>k<|zG<|
  wA (fun s3 K=>K [(0, sv p1 y0 c1), (1, vi y1), (5, vi s2), (18, vb s3)] [] [Rl (eInt .i64) p1 c1 y0]) (zM<|zA 5 u<|wH 11 u (zA 2 u<|qX 0 u u u<|fun x1 b1 o1=>qW false oI (gk 0) u<|zA 2 u<|
  zJ (vb (decide (x1 < y1)))<|zF<|zN (gv kk [] ⟨gk 1,d⟩))<|zA 6 u<|zJ (vb false)<|zF<|zN (gv kk [] ⟨gk 0,d⟩))<|fun s3 _ k=>k<|zI u (zL<|zD<|zQ<|zM<|zA 3 u<|zF<|qD<|qF (gv kk [] ⟨gk 0,d⟩)
  )<|qM<|qL<|qO<|qN<|zN (gv kk [] ⟨gk 0,d⟩))<|fun s1 _ k=>k<|zG<|wA (fun s4 K=>K [(0, sv p1 y0 c1), (1, vi y1), (5, vi s1), (32, vb s4)] [] [Rl (eInt .i64) p1 c1 y0]) (zM<|zA 5 u<|wH 25 u (zA 2 u<|
  qX 0 u u u<|fun x2 b2 o2=>qW false oI (gk 0) u<|zA 2 u<|zJ (vb (x2 == y1))<|zF<|zN (gv kk [] ⟨gk 1,d⟩))<|zA 6 u<|zJ (vb false)<|zF<|zN (gv kk [] ⟨gk 0,d⟩))<|fun s4 _ k=>k<|zI u (zB<|
  zA 2 u<|zC<|zK<|qC<|zS u u (fun _ k=>k p1 c1) [] ⟨gk 0,d⟩)<|zL<|zD<|zB<|uY .s (e := eInt .i64) 3 [] ([] : List Int) rN<|fun r_1 p2 c2=>zA 2 u<|jsl (gk 1) u u u (.inl ⟨rfl, rfl⟩) (.inr ⟨_, rfl⟩)<|fun x3 p3 c3=>
  wM .s 0 1 u (gk 0) u u<|fun x4 r_2 p4 c4=>zA 1 u<|zC<|yK [] [] 9<|zX 5 [0,1,4,5] u<|jdw 6 u (gk 3) u u u (.inr ⟨_, rfl⟩) (.inl ⟨rfl, rfl⟩)<|fun x5 p5 c5=>qG 2<|
  wV (.f u) (e := eInt .i64) 3 [vi y1] ([y1] : List Int) (rC vI rN)<|fun p6 c6=>zZ<|qG 3<|wM (.f u) 0 2 u (gk 0) u u<|fun x6 r_3 p7 c7=>zZ<|qG 7<|wM (.f u) 0 0 u (gk 2) u u<|fun x7 r_4 p8 c8=>zZ<|zX 0 [8] u<|qS<|
  zD<|zK<|wS 0 0 u u<|zS u u (fun _ k=>k p8 c8) [] ⟨gk 0,d⟩
theorem zNL {qd : Prop} {y0 : List Int} {y1 : List Int} : qA qd prog 192 [sv p1 y0 c1, sv p2 y1 c2] [] [Rl (eInt .i64) p1 c1 y0, Rl (eInt .i64) p2 c2 y1] (zIk y0 y1) fun r K=>∀ p3 c3,K (sv p3 r c3) [] [Rl (eInt .i64) p3 c3 r] :=
 qE call192 func192 u fun X=>zB<|zA 1 u<|zC<|zG<|zB<|zA 1 u<|zC<|zQ<|qP (fun s1 K=>∀ p3 c3,K [(0, sv p3 s1.1 c3), (1, sv p2 y1 c2), (5, vi s1.2)] [] [Rl (eInt .i64) p3 c3 s1.1, Rl (eInt .i64) p2 c2 y1]) (gv (fun _ k=>k p1 c1) [] ⟨gk 0,gk 1,d⟩)<|
  fun s1 _ k p3 c3=>k<|zG<|zB<|zA 4 u<|zC<|zI u (zL<|zD<|zG<|zQ<|zM<|zA 3 u<|qX 1 u u u<|fun x1 b1 o1=>qW false oI (gk 0) u<|qI zJi u ⟨ck 1,d⟩<|fun r1 _ k p4 c4=>k<|zA 1 u<|zF<|qD<|zD<|zM<|
  zA 3 u<|zF<|qF (gv (fun _ k=>k p4 c4) [] ⟨gk 0,gk 3,d⟩))<|qM<|qL<|qO<|qN<|zD<|zB<|zA 2 u<|zC<|zK<|zS u u (fun _ k=>k p3 c3) [] ⟨gk 0,d⟩
theorem zOP {qd : Prop} (k : Nat) :
    (∀ {y0 : List zP} {p1 : Option Addr} {c1 : Nat} {y1 : Int}, qA qd prog 136 [sv p1 y0 c1, vi y1] [] [Rl qR p1 c1 y0] (zFd k y0 y1) fun r K=>∀ p2 c2,K (sv p2 r c2) [] [Rl (eInt .i64) p2 c2 r]) := by
  induction k with
  | zero => exact zXp call136
  | succ k ih =>
    have ih_ref07_Subs := @ih
    exact @fun y0 p1 c1 y1=>qE (m1 := zJ8 (zFd k) y0 y1) call136 func136 u fun X=>zB<|zA 1 u<|zC<|zG<|yW (fun K=>K [(0, sv p1 y0 c1), (1, vi y1), (14, vb ((decide (y1 < 0)) || (decide ((len y0) ≤ y1))))] [] [Rl qR p1 c1 y0]) (zM<|zA 3 u<|vY (b := decide (y1 < 0)) 9 u (fun hb1=>zA 4 u<|
  zJ (vb true)<|zF<|wN 14 (vb ((decide (y1 < 0)) || (decide ((len y0) ≤ y1)))) u (by rw [hb1]; rfl)<|zN (gv kk [] ⟨gk 0,d⟩))<|fun hb1=>zA 4 u<|zJ (vb (decide ((len y0) ≤ y1)))<|zF<|
  wN 14 (vb ((decide (y1 < 0)) || (decide ((len y0) ≤ y1)))) u (by rw [hb1]; rfl)<|zN (gv kk [] ⟨gk 0,d⟩))<|fun _ k=>k<|zI u (zB<|zA 1 u<|zC<|zK<|qC<|zS u u (fun _ k=>k none 0) [] ⟨gn,d⟩)<|zL<|zD<|zB<|
  zA 1 u<|wV .s (e := eInt .i64) 3 [vi y1] ([y1] : List Int) (rC vI rN)<|fun p2 c2=>zA 1 u<|zC<|zG<|zB<|zA 1 u<|zC<|zQ<|
  qP (fun s1 K=>∀ p3 c3,K [(0, sv p1 y0 c1), (1, vi y1), (5, sv p3 s1.1 c3), (6, vi s1.2)] [] [Rl (eInt .i64) p3 c3 s1.1, Rl qR p1 c1 y0]) (gv (fun _ k=>k p2 c2) [] ⟨gk 0,gk 1,d⟩)<|fun s1 _ k p3 c3=>k<|zG<|zB<|zA 3 u<|
  qX 1 u u u<|fun x1 b1 o1=>zU 2 u<|qW false oL (gf (gs (gs (gk 0)))) u<|fun p4 c4=>zA 2 u<|zC<|zI u (zL<|zD<|zG<|zQ<|zM<|zA 4 u<|qX 3 u u u<|fun x2 b2 o2=>zU 2 u<|qW false oL (gf (gs (gs (gk 0)))) u<|
  fun p5 c5=>zA 1 u<|qX 0 u u u<|fun x3 b3 o3=>qW false oI (gk 0) u<|qI ih_ref07_Subs u ⟨ck 6,d⟩<|fun r1 _ k p6 c6=>k<|qI zNL u ⟨ck 6,ck 0,d⟩<|fun r2 _ k p7 c7=>k<|zA 1 u<|zF<|qD<|zD<|zM<|zA 3 u<|zF<|
  qF (gv (fun _ k=>k p7 c7) [] ⟨gk 0,gk 8,d⟩))<|qM<|qL<|qO<|qN<|zD<|zB<|zA 2 u<|zC<|zK<|zS u u (fun _ k=>k p3 c3) [] ⟨gk 2,d⟩
theorem zL3 {qd : Prop} {y0 : List zP} {y1 : Int} : qA qd prog 136 [sv p1 y0 c1, vi y1] [] [Rl qR p1 c1 y0] (zIS y0 y1) fun r K=>∀ p2 c2,K (sv p2 r c2) [] [Rl (eInt .i64) p2 c2 r] := zNB fun k => (zOP k)
theorem zHL {qd : Prop} {y0 : zT} {y1 : List zP} {y2 : Int} : qA qd prog 135 [.agg #[sv p1 y0.1 c1, sv p2 y0.2.1 c2, sv p3 y0.2.2 c3], sv p4 y1 c4, vi y2] [] [Rl e_Premise p1 c1 y0.1, Rl e_Rule p2 c2 y0.2.1, Rl e_Promotion p3 c3 y0.2.2, Rl qR p4 c4 y1] (zBm y0 y1 y2) fun r K=>∀ p5 c5,K (sv p5 r c5) [] [Rl (eInt .i64) p5 c5 r] :=
 qE call135 func135 u fun X=>zB<|qT .s u<|fun b1=>zA 1 u<|zC<|zB<|zA 1 u<|zC<|zG<|zB<|zA 2 u<|qI zL3 u ⟨ck 3,d⟩<|fun r1 _ k p5 c5=>k<|zA 2 u<|zC<|zQ<|
  qP (fun s1 K=>∀ p6 c6,K [(1, sv p4 y1 c4), (3, pt b1 0), (7, sv p6 s1.1 c6), (12, sv p5 r1 c5), (13, vi (len r1)), (14, vi s1.2)] [bx b1 26 [sv p1 y0.1 c1, sv p2 y0.2.1 c2, sv p3 y0.2.2 c3]] [Rl (eInt .i64) p6 c6 s1.1, Rl qR p4 c4 y1, Rl (eInt .i64) p5 c5 r1, Rl e_Premise p1 c1 y0.1, Rl e_Rule p2 c2 y0.2.1, Rl e_Promotion p3 c3 y0.2.2]) (gv (fun _ k=>k none 0) [0] ⟨gn,gk 4,gk 0,gk 1,gk 2,gk 3,d⟩)<|
  fun s1 _ k p6 c6=>k<|zB<|zA 1 u<|zC<|zG<|zI u (zL<|zD<|zG<|zQ<|zB<|qX 2 u u u<|fun x1 b2 o1=>qW false oI (gk 0) u<|zA 1 u<|zC<|
  wA (fun s2 K=>K [(1, sv p4 y1 c4), (3, pt b1 0), (7, sv p6 s1.1 c6), (9, vi x1), (12, sv p5 r1 c5), (13, vi (len r1)), (14, vi s1.2), (36, vb s2)] [bx b1 26 [sv p1 y0.1 c1, sv p2 y0.2.1 c2, sv p3 y0.2.2 c3]] [Rl qR p4 c4 y1, Rl (eInt .i64) p6 c6 s1.1, Rl (eInt .i64) p5 c5 r1, Rl e_Premise p1 c1 y0.1, Rl e_Rule p2 c2 y0.2.1, Rl e_Promotion p3 c3 y0.2.2]) (
  yN [] [0] 19<|zX 17 [0,1] u<|vJ 2 2 u u u u<|fun x2 b3 o2=>qQ 3 1 u u<|vH 4 false oI u (gf (gs (gk 0))) u<|zX 12 [5,6] u<|wH 24 u (qQ 7 1 u u<|qZ 8 0 u u u u<|zX 8 [9,10] u<|
  vJ 11 3 u u u u<|fun x3 b4 o3=>qQ 12 1 u u<|vH 13 false oI u (gf (gs (gk 0))) u<|vJ 14 7 u u u u<|fun x4 b5 o4=>qQ 15 1 u u<|vH 16 false oB u (gf (gs (gk 0))) u<|zX 1 [17] u<|
  wC 18 (vb (!x4.2.1)) u<|qS<|zN (gv kk [0] ⟨gk 5,gk 4,gk 6,gk 7,gk 8,gk 9,d⟩))<|zX 1 [7,8,9,10,11,12,13,14,15,16,17] u<|wC 18 (vb false) u<|qS<|zN (gv kk [0] ⟨gk 3,gk 2,gk 4,gk 5,gk 6,gk 7,d⟩))<|
  fun s2 _ k=>k<|zI u (zM<|zA 3 u<|qX 0 u u u<|fun x5 b6 o5=>zU 1 u<|qW false oI (gf (gs (gk 0))) u<|qI zJi u ⟨ck 2,d⟩<|fun r2 _ k p7 c7=>k<|zA 1 u<|zF<|qD<|zD<|zM<|zA 2 u<|zF<|
  qF (gv (fun _ k=>k p7 c7) [0] ⟨gk 0,gk 2,gk 4,gk 5,gk 6,gk 7,d⟩))<|zL<|qD<|zD<|zM<|zA 2 u<|zF<|qF (gv (fun _ k=>k p6 c6) [0] ⟨gk 1,gk 0,gk 2,gk 3,gk 4,gk 5,d⟩))<|qM<|qL<|qO<|qN<|zD<|zB<|zA 2 u<|zC<|zK<|
  zS u u (fun _ k=>k p6 c6) [] ⟨gk 0,d⟩
theorem zP5 {qd : Prop} (k : Nat) :
    (∀ {y0 : zT} {p1 : Option Addr} {c1 : Nat} {p2 : Option Addr} {c2 : Nat} {p3 : Option Addr} {c3 : Nat} {y1 : List zP} {p4 : Option Addr} {c4 : Nat} {y2 : Int}, qA qd prog 133 [.agg #[sv p1 y0.1 c1, sv p2 y0.2.1 c2, sv p3 y0.2.2 c3], sv p4 y1 c4, vi y2] [] [Rl e_Premise p1 c1 y0.1, Rl e_Rule p2 c2 y0.2.1, Rl e_Promotion p3 c3 y0.2.2, Rl qR p4 c4 y1] (zAb k y0 y1 y2) fun r K=>∀ p5 c5,K (sv p5 r c5) [] [Rl e_Literal p5 c5 r]) := by
  induction k with
  | zero => exact zXp call133
  | succ k ih =>
    have ih_ref07_Run := @ih
    exact @fun y0 p1 c1 p2 c2 p3 c3 y1 p4 c4 y2=>qE (m1 := zEK (zAb k) y0 y1 y2) call133 func133 u fun X=>zB<|qT .s u<|fun b1=>zA 1 u<|zC<|zB<|zA 2 u<|qX 3 u u u<|fun x1 b2 o1=>zU 3 u<|qW true yM (gs (gs (gs (gk 0)))) u<|
  uY .s (e := e_Literal) 30 [vb x1.2.2.2.1, vs x1.2.2.2.2] ([x1.2.2.2] : List zO) (rC (vP vB vS) rN)<|fun r_1 p5 c5=>zA 1 u<|zC<|zG<|
  wA (fun s1 K=>K [(1, sv p4 y1 c4), (2, vi y2), (3, pt b1 0), (7, sv p5 ([x1.2.2.2] : List zO) c5), (32, vb s1)] [bx b1 26 [sv p1 y0.1 c1, sv p2 y0.2.1 c2, sv p3 y0.2.2 c3], r_1] [Rl qR p4 c4 y1, Al e_Literal 30 r_1 p5 c5 ([x1.2.2.2] : List zO), Rl e_Premise p1 c1 y0.1, Rl e_Rule p2 c2 y0.2.1, Rl e_Promotion p3 c3 y0.2.2]) (
  yN [] [0] 18<|zX 16 [0,1] u<|vJ 2 5 u u u u<|fun x2 b3 o2=>qQ 3 1 u u<|vH 4 false oI u (gf (gs (gk 0))) u<|zX 11 [5,6] u<|wH 21 u (qQ 7 1 u u<|qZ 8 0 u u u u<|zX 7 [9,10] u<|
  vJ 11 6 u u u u<|fun x3 b4 o3=>qQ 12 1 u u<|vH 13 false oI u (gf (gs (gk 0))) u<|vJ 14 5 u u u u<|fun x4 b5 o4=>qQ 15 1 u u<|vH 16 false oB u (gf (gs (gk 0))) u<|wC 17 (vb x4.2.1) u<|qS<|
  zN (gv kk [0,1] ⟨gk 8,gk 3,gk 5,gk 6,gk 7,d⟩))<|zX 1 [7,8,9,10,11,12,13,14,15,16] u<|wC 17 (vb false) u<|qS<|zN (gv kk [0,1] ⟨gk 6,gk 1,gk 3,gk 4,gk 5,d⟩))<|fun s1 _ k=>k<|zI u (zB<|zA 1 u<|zC<|zQ<|
  qP (fun s2 K=>∀ p6 c6 r_2,K [(1, sv p4 y1 c4), (2, vi y2), (3, pt b1 0), (7, sv p6 s2.1 c6), (8, vi s2.2)] [bx b1 26 [sv p1 y0.1 c1, sv p2 y0.2.1 c2, sv p3 y0.2.2 c3], r_2] [Al e_Literal 30 r_2 p6 c6 s2.1, Rl qR p4 c4 y1, Rl e_Premise p1 c1 y0.1, Rl e_Rule p2 c2 y0.2.1, Rl e_Promotion p3 c3 y0.2.2]) (gv (fun _ k=>k p5 c5 r_1) [0,1] ⟨gk 1,gk 0,gk 2,gk 3,gk 4,d⟩)<|
  fun s2 _ k p6 c6 r_2=>k<|zG<|zB<|zA 3 u<|qX 1 u u u<|fun x5 b6 o5=>zU 2 u<|qW false oL (gf (gs (gs (gk 0)))) u<|fun p7 c7=>zA 2 u<|zC<|zI u (zL<|zD<|zG<|zQ<|yN [] [0] 14<|zX 13 [0] u<|
  vM 1 0 3 u u u u<|zX 9 [2,3,4] u<|vJ 5 3 u u u u<|fun x6 b7 o6=>qQ 6 2 u u<|vH 7 false oL u (gf (gs (gs (gk 0)))) u<|fun p8 c8=>zX 5 [8] u<|vJ 9 0 u u u u<|fun x7 b8 o7=>
  vH 10 false oI u (gk 0) u<|qG 11<|qH (.f u) [] [] ih_ref07_Run u u u ⟨ck 7,ck 8,ck 9,ck 6,d⟩<|fun r1 _ k p9 c9=>k<|zZ<|qG 12<|wM (.f u) 1 6 u (gk 0) u u<|fun x8 r_3 p10 c10=>zZ<|zX 0 [13] u<|qS<|qD<|zD<|
  zM<|zA 3 u<|zF<|qF (gv (fun _ k=>k p10 c10 r_3) [0,1] ⟨gk 0,gk 8,gk 9,gk 10,gk 11,d⟩))<|qM<|qL<|qO<|qN<|zD<|zB<|zA 2 u<|zC<|zK<|wS 1 2 u u<|zS u u (fun _ k=>k p6 c6) [] ⟨gk 0,d⟩)<|zL<|zD<|zB<|zA 2 u<|zC<|
  zK<|wS 1 1 u u<|zS u u (fun _ k=>k p5 c5) [] ⟨gk 0,d⟩
theorem zTe {qd : Prop} {y0 : zT} {y1 : List zP} {y2 : Int} : qA qd prog 133 [.agg #[sv p1 y0.1 c1, sv p2 y0.2.1 c2, sv p3 y0.2.2 c3], sv p4 y1 c4, vi y2] [] [Rl e_Premise p1 c1 y0.1, Rl e_Rule p2 c2 y0.2.1, Rl e_Promotion p3 c3 y0.2.2, Rl qR p4 c4 y1] (zHo y0 y1 y2) fun r K=>∀ p5 c5,K (sv p5 r c5) [] [Rl e_Literal p5 c5 r] := zNB fun k => (zP5 k)
theorem zQM {qd : Prop} {y0 : List Int} {y1 : Int} : qA qd prog 134 [sv p1 y0 c1, vi y1] [] [Rl (eInt .i64) p1 c1 y0] (zLo y0 y1) fun r K=>K (vb r) [] [] :=
 qE call134 func134 u fun X=>zB<|zA 1 u<|zC<|zG<|zB<|zA 1 u<|zC<|zQ<|qP (fun s1 K=>K [(0, sv p1 y0 c1), (1, vi y1), (5, vi s1)] [] [Rl (eInt .i64) p1 c1 y0]) (gv kk [] ⟨gk 0,d⟩)<|fun s1 _ k=>k<|zG<|zB<|zA 4 u<|zC<|zI u (zL<|zD<|zG<|
  zQ<|zB<|zA 2 u<|qX 0 u u u<|fun x1 b1 o1=>qW false oI (gk 0) u<|zA 2 u<|zC<|zI u (zB<|zA 1 u<|zC<|zK<|qV<|qC<|wX<|qV<|qC<|zS u u kk [] d)<|zL<|qD<|zD<|zM<|zA 3 u<|zF<|
  qF (gv kk [] ⟨gk 1,d⟩))<|qM<|qL<|qO<|qN<|zD<|zB<|zA 1 u<|zC<|zK<|zS u u kk [] d
theorem zMQ {qd : Prop} {y0 : zT} {y1 : List zP} {y2 : Int} {y3 : List Int} : qA qd prog 78 [.agg #[sv p1 y0.1 c1, sv p2 y0.2.1 c2, sv p3 y0.2.2 c3], sv p4 y1 c4, vi y2, sv p5 y3 c5] [] [Rl e_Premise p1 c1 y0.1, Rl e_Rule p2 c2 y0.2.1, Rl e_Promotion p3 c3 y0.2.2, Rl qR p4 c4 y1, Rl (eInt .i64) p5 c5 y3] (zFD y0 y1 y2 y3) fun r K=>K (vb r) [] [] :=
 qE call78 func78 u fun X=>zB<|qT .s u<|fun b1=>zA 1 u<|zC<|zB<|zU 1 u<|zV 0 u u u<|zA 1 u<|qX 1 u u u<|fun x1 b2 o1=>qW true zMN (gk 0) u<|fun p6 c6=>wL .s (.agg #[vs [], vb false, vi 0, .slice none 0 0, vb false, vs []])<|
  fun b3=>qU .s 1 u u u<|zC<|zG<|zB<|zA 1 u<|zC<|zQ<|
  qP (fun s1 K=>K [(1, sv p4 y1 c4), (2, vi y2), (3, sv p5 y3 c5), (4, pt b1 0), (9, pt b3 0), (10, vi s1)] [bx b1 26 [sv p1 y0.1 c1, sv p2 y0.2.1 c2, sv p3 y0.2.2 c3], bx b3 73 [vs x1.1, vb x1.2.1, vi x1.2.2.1, sv p6 x1.2.2.2.1 c6, vb x1.2.2.2.2.1, vs x1.2.2.2.2.2]] [Rl qR p4 c4 y1, Rl (eInt .i64) p5 c5 y3, Rl e_Premise p1 c1 y0.1, Rl e_Rule p2 c2 y0.2.1, Rl e_Promotion p3 c3 y0.2.2, Rl e_Literal p6 c6 x1.2.2.2.1]) (gv kk [0,1] ⟨gk 5,gk 6,gk 2,gk 3,gk 4,gk 0,d⟩)<|
  fun s1 _ k=>k<|zG<|zB<|zA 4 u<|zC<|zI u (zL<|zD<|zG<|zQ<|
  wA (fun s2 K=>K [(1, sv p4 y1 c4), (2, vi y2), (3, sv p5 y3 c5), (4, pt b1 0), (9, pt b3 0), (10, vi s1), (51, vb s2)] [bx b1 26 [sv p1 y0.1 c1, sv p2 y0.2.1 c2, sv p3 y0.2.2 c3], bx b3 73 [vs x1.1, vb x1.2.1, vi x1.2.2.1, sv p6 x1.2.2.2.1 c6, vb x1.2.2.2.2.1, vs x1.2.2.2.2.2]] [Rl qR p4 c4 y1, Rl (eInt .i64) p5 c5 y3, Rl e_Premise p1 c1 y0.1, Rl e_Rule p2 c2 y0.2.1, Rl e_Promotion p3 c3 y0.2.2, Rl e_Literal p6 c6 x1.2.2.2.1]) (
  yN [] [0, 1] 30<|qQ 0 1 u u<|qZ 1 1 u u u u<|zX 27 [2] u<|wH 24 u (vM 3 0 3 u u u u<|zX 23 [4,5,6] u<|vJ 7 1 u u u u<|fun x2 b4 o2=>vH 8 false oI u (gk 0) u<|qQ 10 4 u u<|
  vM 11 1 2 u u u u<|qG 9<|qH (.f u) [] [] zTe u u u ⟨ck 3,ck 4,ck 5,ck 1,d⟩<|fun r1 _ k p7 c7=>k<|zZ<|qG 12<|qH (.f u) [] [] zPH u u u ⟨ck 0,d⟩<|fun r2 _ k=>k<|zZ<|wC 13 (vb r2) u<|
  zX 15 [14] u<|wH 36 u (zX 1 [15,16,17,18,19,20,21,22,23,24,25,26,27,28] u<|wC 29 (vb true) u<|qS<|zN (gv kk [0,1] ⟨gk 2,gk 3,gk 4,gk 5,gk 6,gk 7,d⟩))<|qQ 15 1 u u<|qZ 16 1 u u u u<|zX 11 [17,18] u<|
  wH 40 u (vM 19 0 3 u u u u<|zX 7 [20,21,22] u<|vJ 23 3 u u u u<|fun x3 b5 o3=>vH 24 false oI u (gk 0) u<|zX 4 [26] u<|qG 25<|qH (.f u) [] [] zHL u u u ⟨ck 5,ck 6,ck 7,ck 3,d⟩<|
  fun r3 _ k p8 c8=>k<|zZ<|qG 27<|qH (.f u) [] [] zQM u u u ⟨ck 0,d⟩<|fun r4 _ k=>k<|zZ<|wC 28 (vb r4) u<|wC 29 (vb r4) u<|qS<|zN (gv kk [0,1] ⟨gk 4,gk 5,gk 6,gk 7,gk 8,gk 9,d⟩))<|
  zX 2 [19,20,21,22,23,24,25,26,27] u<|wC 28 (vb false) u<|wC 29 (vb false) u<|qS<|zN (gv kk [0,1] ⟨gk 2,gk 3,gk 4,gk 5,gk 6,gk 7,d⟩))<|zX 17 [3,4,5,6,7,8,9,10,11,12] u<|wC 13 (vb false) u<|zX 15 [14] u<|
  qQ 15 1 u u<|qZ 16 1 u u u u<|zX 11 [17,18] u<|wH 40 u (vM 19 0 3 u u u u<|zX 7 [20,21,22] u<|vJ 23 1 u u u u<|fun x4 b6 o4=>vH 24 false oI u (gk 0) u<|zX 4 [26] u<|qG 25<|
  qH (.f u) [] [] zHL u u u ⟨ck 3,ck 4,ck 5,ck 1,d⟩<|fun r5 _ k p9 c9=>k<|zZ<|qG 27<|qH (.f u) [] [] zQM u u u ⟨ck 0,d⟩<|fun r6 _ k=>k<|zZ<|wC 28 (vb r6) u<|wC 29 (vb r6) u<|qS<|
  zN (gv kk [0,1] ⟨gk 2,gk 3,gk 4,gk 5,gk 6,gk 7,d⟩))<|zX 2 [19,20,21,22,23,24,25,26,27] u<|wC 28 (vb false) u<|wC 29 (vb false) u<|qS<|zN (gv kk [0,1] ⟨gk 0,gk 1,gk 2,gk 3,gk 4,gk 5,d⟩))<|fun s2 _ k=>k<|
  zI u (zB<|zA 1 u<|zC<|zK<|qV<|qC<|wX<|qV<|qC<|zS u u kk [] d)<|zL<|qD<|zD<|zM<|zA 3 u<|zF<|qF (gv kk [0,1] ⟨gk 0,gk 1,gk 2,gk 3,gk 4,gk 5,d⟩))<|qM<|qL<|qO<|qN<|zD<|zB<|zA 1 u<|zC<|
  zK<|zS u u kk [] d
theorem zLd {qd : Prop} (k : Nat) :
    (∀ {y0 : List zP} {p1 : Option Addr} {c1 : Nat} {r_1 : qB} {y1 : Int} {y2 : List zO} {p2 : Option Addr} {c2 : Nat} {y3 : List Int} {p3 : Option Addr} {c3 : Nat}, qA qd prog 76 [sv p1 y0 c1, vi y1, sv p2 y2 c2, sv p3 y3 c3] [r_1] [Al qR 94 r_1 p1 c1 y0, Rl e_Literal p2 c2 y2, Rl (eInt .i64) p3 c3 y3] (zB4 k y0 y1 y2 y3) fun r K=>∀ p4 c4,K (sv p4 r c4) [r_1] [Rl (eSlice (eInt .i64)) p4 c4 r]) := by
  induction k with
  | zero => exact zXp call76
  | succ k ih =>
    have ih_ref07_choices_2 := @ih
    exact @fun y0 p1 c1 r_1 y1 y2 p2 c2 y3 p3 c3=>qE (m1 := zFy (zB4 k) y0 y1 y2 y3) call76 func76 u fun X=>zB<|zA 1 u<|zC<|zG<|zB<|zA 5 u<|zC<|zI u (zB<|uY .s (e := eInt .i64) 3 [] ([] : List Int) rN<|fun r_2 p4 c4=>zA 1 u<|wM .s 1 0 u (gk 3) u u<|fun x1 r_3 p5 c5=>wS 1 0 u u<|
  wV .s (e := eSlice (eInt .i64)) 31 [sv p5 x1 c5] ([x1] : List (List Int)) (rC (vL (gk 0)) rN)<|fun p6 c6=>zA 1 u<|zC<|zK<|qC<|zS u u (fun _ k=>k p6 c6) [0] ⟨gk 0,d⟩)<|zL<|zD<|zB<|zA 1 u<|vD (eSlice (eInt .i64)) 31<|zC<|
  zG<|zB<|zA 1 u<|zC<|zQ<|
  qP (fun s1 K=>∀ p7 c7 r_4,K [(0, sv p1 y0 c1), (1, vi y1), (2, sv p2 y2 c2), (3, sv p3 y3 c3), (9, sv p7 s1.1 c7), (10, vi s1.2)] [r_1, r_4] [Al (eSlice (eInt .i64)) 31 r_4 p7 c7 s1.1, Al qR 94 r_1 p1 c1 y0, Rl e_Literal p2 c2 y2, Rl (eInt .i64) p3 c3 y3]) (gv (fun _ k=>k none 0 []) [0,1] ⟨gk 0,gk 1,gk 2,gk 3,d⟩)<|
  fun s1 _ k p7 c7 r_4=>k<|zG<|zB<|zA 3 u<|zC<|zI u (zL<|zD<|zG<|zQ<|yK [] [0] 11<|zX 9 [0,1] u<|xW 2 1 u u u u<|fun x2 h2 b1 hp1=>qQ 3 3 u u<|xU 4 0 1 sI.snd.snd.snd true yM u u hp1 h2 u<|
  zX 3 [5,6,7] u<|vJ 8 2 u u u u<|fun x3 b2 o1=>vH 9 true yM u (gk 0) u<|wC 10 (vb (x2.2.2.2 == x3)) u<|qS<|zD<|zI u (zM<|zA 9 u<|jsF (gk 4) u u u u (.inl ⟨rfl, rfl⟩)<|fun x4 p8=>zA 1 u<|
  wV .s (e := eInt .i64) 3 [vi s1.2] ([s1.2] : List Int) (rC vI rN)<|fun p9 c8=>jaf .s 3 (gk 1) (gk 0) u u<|fun x5 p10 c9=>qH .s [0] [] ih_ref07_choices_2 u u u ⟨ck 5,ck 6,ck 0,d⟩<|fun r1 _ k p11 c10=>k<|
  wM .s 1 5 u (gk 0) u u<|fun x6 r_5 p12 c11=>zA 1 u<|zF<|qD<|zD<|zM<|zA 3 u<|zF<|qF (gv (fun _ k=>k p12 c11 r_5) [0,1] ⟨gk 0,gk 7,gk 8,gk 9,d⟩))<|zL<|qD<|zD<|zM<|zA 3 u<|zF<|
  qF (gv (fun _ k=>k p7 c7 r_4) [0,1] ⟨gk 1,gk 2,gk 3,gk 4,d⟩))<|qM<|qL<|qO<|qN<|zD<|zB<|zA 2 u<|zC<|zK<|wS 1 0 u u<|zS u u (fun _ k=>k p7 c7) [0] ⟨gk 0,d⟩
theorem zN7 {qd : Prop} {y0 : List zP} {y1 : Int} {y2 : List zO} {y3 : List Int} : qA qd prog 76 [sv p1 y0 c1, vi y1, sv p2 y2 c2, sv p3 y3 c3] [r_1] [Al qR 94 r_1 p1 c1 y0, Rl e_Literal p2 c2 y2, Rl (eInt .i64) p3 c3 y3] (zHn y0 y1 y2 y3) fun r K=>∀ p4 c4,K (sv p4 r c4) [r_1] [Rl (eSlice (eInt .i64)) p4 c4 r] := zNB fun k => (zLd k)
theorem zPi {qd : Prop} {y0 : List Int} {y1 : Int} : qA qd prog 77 [sv p1 y0 c1, vi y1] [] [Rl (eInt .i64) p1 c1 y0] (zJj y0 y1) fun r K=>K (vb r) [] [] :=
 qE call77 func77 u fun X=>zB<|zA 1 u<|zC<|zG<|zB<|zA 1 u<|zC<|zQ<|qP (fun s1 K=>K [(0, sv p1 y0 c1), (1, vi y1), (5, vi s1)] [] [Rl (eInt .i64) p1 c1 y0]) (gv kk [] ⟨gk 0,d⟩)<|fun s1 _ k=>k<|zG<|zB<|zA 4 u<|zC<|zI u (zL<|zD<|zG<|
  zQ<|zB<|zA 2 u<|qX 0 u u u<|fun x1 b1 o1=>qW false oI (gk 0) u<|zA 2 u<|zC<|zI u (zB<|zA 1 u<|zC<|zK<|qV<|qC<|wX<|qV<|qC<|zS u u kk [] d)<|zL<|qD<|zD<|zM<|zA 3 u<|zF<|
  qF (gv kk [] ⟨gk 1,d⟩))<|qM<|qL<|qO<|qN<|zD<|zB<|zA 1 u<|zC<|zK<|zS u u kk [] d
theorem zQk {qd : Prop} {y0 : zT} : qA qd prog 31 [.agg #[sv p1 y0.1 c1, sv p2 y0.2.1 c2, sv p3 y0.2.2 c3]] [] [Rl e_Premise p1 c1 y0.1, Rl e_Rule p2 c2 y0.2.1, Rl e_Promotion p3 c3 y0.2.2] (zFw y0) fun r K=>∀ p4 c4,K (.tuple #[sv p4 r.1 c4, vi r.2]) [] [Rl qR p4 c4 r.1] :=
 qE call31 func31 u fun X=>zB<|qT .s u<|fun b1=>zA 2 u<|zC<|zG<|zB<|qK 0 3 u u u<|qI zOV u ⟨ck 0,ck 1,ck 2,d⟩<|fun r1 _ k=>k<|zA 1 u<|zC<|zB<|zA 2 u<|zC<|zI u (zB<|zA 3 u<|zC<|zK<|qC<|
  wR u (lT u (lT u lN)) (fun _ k=>k none 0) [] ⟨gn,d⟩)<|zL<|zD<|zB<|zA 1 u<|vD qR 94<|zC<|
  wA (fun s1 K=>∀ p4 c4 r_1,K [(1, pt b1 0), (5, sv p4 s1 c4)] [bx b1 26 [sv p1 y0.1 c1, sv p2 y0.2.1 c2, sv p3 y0.2.2 c3], r_1] [Al qR 94 r_1 p4 c4 s1, Rl e_Premise p1 c1 y0.1, Rl e_Rule p2 c2 y0.2.1, Rl e_Promotion p3 c3 y0.2.2]) (
  zB<|zA 1 u<|zC<|zQ<|
  qP (fun s2 K=>∀ p5 c5 r_2,K [(1, pt b1 0), (5, sv p5 s2.1 c5), (6, vi s2.2)] [bx b1 26 [sv p1 y0.1 c1, sv p2 y0.2.1 c2, sv p3 y0.2.2 c3], r_2] [Al qR 94 r_2 p5 c5 s2.1, Rl e_Premise p1 c1 y0.1, Rl e_Rule p2 c2 y0.2.1, Rl e_Promotion p3 c3 y0.2.2]) (gv (fun _ k=>k none 0 []) [0,1] ⟨gk 0,gk 1,gk 2,gk 3,d⟩)<|
  fun s2 _ k p5 c5 r_2=>k<|zG<|zB<|zA 1 u<|zU 0 u<|zV 0 u u u<|zA 2 u<|zC<|zI u (zL<|zD<|zG<|zQ<|zM<|zA 2 u<|zU 0 u<|zV 0 u u u<|zA 1 u<|qX 1 u u u<|fun x1 b2 o1=>zU 0 u<|
  qW true yM (gf (gk 0)) u<|zJ (.agg #[vi s2.2, vi (-1), .slice none 0 0, vb x1.1.1, vs x1.1.2])<|
  wV .s (e := qR) 94 [vi s2.2, vi (-1), .slice none 0 0, vb x1.1.1, vs x1.1.2] ([(s2.2, (-1), ([] : List Int), x1.1)] : List zP) (rC (vP vI (vP vI (vP (vL gn) (vP vB vS)))) rN)<|fun p6 c6=>wM .s 1 2 u (gk 0) u u<|
  fun x2 r_3 p7 c7=>zA 1 u<|zF<|qD<|zD<|zM<|zA 3 u<|zF<|qF (gv (fun _ k=>k p7 c7 r_3) [0,1] ⟨gk 0,gk 4,gk 5,gk 6,d⟩))<|qM<|qL<|qO<|qN<|zN (gv (fun _ k=>k p5 c5 r_2) [0,1] ⟨gk 0,gk 1,gk 2,gk 3,d⟩))<|fun s1 _ k p4 c4 r_1=>k<|
  zB<|zA 1 u<|zC<|zG<|zB<|zA 1 u<|zC<|zQ<|
  qP (fun s3 K=>∀ p8 c8 r_4,K [(1, pt b1 0), (5, sv p8 s3.1 c8), (7, vi s3.2.1), (8, vi s3.2.2)] [bx b1 26 [sv p1 y0.1 c1, sv p2 y0.2.1 c2, sv p3 y0.2.2 c3], r_4] [Al qR 94 r_4 p8 c8 s3.1, Rl e_Premise p1 c1 y0.1, Rl e_Rule p2 c2 y0.2.1, Rl e_Promotion p3 c3 y0.2.2]) (gv (fun _ k=>k p4 c4 r_1) [0,1] ⟨gk 0,gk 1,gk 2,gk 3,d⟩)<|
  fun s3 _ k p8 c8 r_4=>k<|zG<|
  yW (fun K=>K [(1, pt b1 0), (5, sv p8 s3.1 c8), (7, vi s3.2.1), (8, vi s3.2.2), (43, vb ((s3.2.2 == 1) || (decide (s3.2.1 < (len s3.1)))))] [bx b1 26 [sv p1 y0.1 c1, sv p2 y0.2.1 c2, sv p3 y0.2.2 c3], r_4] [Al qR 94 r_4 p8 c8 s3.1, Rl e_Premise p1 c1 y0.1, Rl e_Rule p2 c2 y0.2.1, Rl e_Promotion p3 c3 y0.2.2]) (
  zM<|zA 3 u<|vY (b := s3.2.2 == 1) 38 u (fun hb1=>zA 4 u<|zJ (vb true)<|zF<|wN 43 (vb ((s3.2.2 == 1) || (decide (s3.2.1 < (len s3.1))))) u (by rw [hb1]; rfl)<|zN (gv kk [0,1] ⟨gk 0,gk 1,gk 2,gk 3,d⟩))<|fun hb1=>
  zA 4 u<|zJ (vb (decide (s3.2.1 < (len s3.1))))<|zF<|wN 43 (vb ((s3.2.2 == 1) || (decide (s3.2.1 < (len s3.1))))) u (by rw [hb1]; rfl)<|zN (gv kk [0,1] ⟨gk 0,gk 1,gk 2,gk 3,d⟩))<|fun _ k=>k<|zI u (zL<|zD<|zG<|zQ<|
  zB<|zA 3 u<|zC<|zG<|zB<|zA 1 u<|zC<|zQ<|
  qP (fun s4 K=>∀ p9 c9 r_5,K [(1, pt b1 0), (5, sv p9 s4.1 c9), (7, vi s3.2.1), (8, vi s3.2.2), (9, vi (len s3.1)), (10, vi s4.2)] [bx b1 26 [sv p1 y0.1 c1, sv p2 y0.2.1 c2, sv p3 y0.2.2 c3], r_5] [Al qR 94 r_5 p9 c9 s4.1, Rl e_Premise p1 c1 y0.1, Rl e_Rule p2 c2 y0.2.1, Rl e_Promotion p3 c3 y0.2.2]) (gv (fun _ k=>k p8 c8 r_4) [0,1] ⟨gk 0,gk 1,gk 2,gk 3,d⟩)<|
  fun s4 _ k p9 c9 r_5=>k<|zG<|zB<|zA 1 u<|zU 1 u<|zV 0 u u u<|zA 2 u<|zC<|zI u (zL<|zD<|zG<|zQ<|zB<|zA 2 u<|zU 1 u<|zV 0 u u u<|zA 1 u<|qX 2 u u u<|fun x3 b3 o2=>zU 3 u<|
  qW false oL (gf (gs (gs (gs (gk 0))))) u<|fun p10 c10=>qH .s [1] [] zN7 u u u ⟨ck 2,ck 0,cn,d⟩<|fun r2 _ k p11 c11=>k<|zA 2 u<|zC<|zQ<|
  qP (fun s5 K=>∀ p12 c12 r_6,K [(1, pt b1 0), (5, sv p12 s5.1 c12), (7, vi s3.2.1), (8, vi s3.2.2), (9, vi (len s3.1)), (10, vi s4.2), (63, sv p11 r2 c11), (64, vi (len r2)), (65, vi s5.2)] [bx b1 26 [sv p1 y0.1 c1, sv p2 y0.2.1 c2, sv p3 y0.2.2 c3], r_6] [Al qR 94 r_6 p12 c12 s5.1, Rl (eSlice (eInt .i64)) p11 c11 r2, Rl e_Premise p1 c1 y0.1, Rl e_Rule p2 c2 y0.2.1, Rl e_Promotion p3 c3 y0.2.2]) (gv (fun _ k=>k p9 c9 r_5) [0,1] ⟨gk 3,gk 0,gk 4,gk 5,gk 6,d⟩)<|
  fun s5 _ k p12 c12 r_6=>k<|zB<|zA 1 u<|zC<|zG<|zI u (zL<|zD<|zG<|zQ<|zB<|qX 1 u u u<|fun x4 b4 o3=>qW false oL (gk 0) u<|fun p13 c13=>zA 1 u<|zC<|zG<|
  wA (fun s6 K=>K [(1, pt b1 0), (5, sv p12 s5.1 c12), (7, vi s3.2.1), (8, vi s3.2.2), (9, vi (len s3.1)), (10, vi s4.2), (12, sv p13 x4 c13), (63, sv p11 r2 c11), (64, vi (len r2)), (65, vi s5.2), (89, vb s6)] [bx b1 26 [sv p1 y0.1 c1, sv p2 y0.2.1 c2, sv p3 y0.2.2 c3], r_6] [Al qR 94 r_6 p12 c12 s5.1, Rl (eSlice (eInt .i64)) p11 c11 r2, Rl (eInt .i64) p13 c13 x4, Rl e_Premise p1 c1 y0.1, Rl e_Rule p2 c2 y0.2.1, Rl e_Promotion p3 c3 y0.2.2]) (
  zM<|zA 2 u<|qI zPi u ⟨ck 0,d⟩<|fun r3 _ k=>k<|zA 2 u<|wH 73 u (zA 3 u<|wH 76 u (zA 3 u<|zJ (vb true)<|zJ (vb true)<|zA 7 u<|zJ (vb true)<|zF<|
  zN (gv kk [0,1] ⟨gk 2,gk 3,gk 0,gk 4,gk 5,gk 6,d⟩))<|zA 3 u<|zJ (vb (decide (0 < (len x4))))<|zJ (vb (decide (0 < (len x4))))<|zA 1 u<|wH 82 u (zA 6 u<|zJ (vb true)<|zF<|
  zN (gv kk [0,1] ⟨gk 2,gk 3,gk 0,gk 4,gk 5,gk 6,d⟩))<|qK 0 3 u u u<|zA 3 u<|qH .s [] [1] zMQ u u u ⟨ck 4,ck 5,ck 6,cl 1 2,ck 0,d⟩<|fun r4 _ k=>k<|zA 1 u<|zJ (vb (!r4))<|zF<|
  zN (gv kk [0,1] ⟨gk 2,gk 3,gk 0,gk 4,gk 5,gk 6,d⟩))<|zA 7 u<|zJ (vb false)<|zA 1 u<|qK 0 3 u u u<|zA 3 u<|qH .s [] [1] zMQ u u u ⟨ck 4,ck 5,ck 6,cl 1 2,ck 0,d⟩<|fun r5 _ k=>k<|zA 1 u<|
  zJ (vb (!r5))<|zF<|zN (gv kk [0,1] ⟨gk 2,gk 3,gk 0,gk 4,gk 5,gk 6,d⟩))<|fun s6 _ k=>k<|zI u (qM<|qL<|qN<|zD<|zM<|zA 2 u<|zF<|qF (gv (fun _ k=>k p12 c12 r_6) [0,1] ⟨gk 0,gk 1,gk 3,gk 4,gk 5,d⟩))<|zL<|zD<|zB<|
  zA 3 u<|zU 1 u<|zV 0 u u u<|zA 1 u<|qX 4 u u u<|fun x5 b5 o4=>zU 4 u<|qW true yM (gs (gs (gs (gs (gk 0))))) u<|zJ (.agg #[vi (-1), vi s4.2, sv p13 x4 c13, vb x5.2.2.2.2.1, vs x5.2.2.2.2.2])<|
  wV .s (e := qR) 94 [vi (-1), vi s4.2, sv p13 x4 c13, vb x5.2.2.2.2.1, vs x5.2.2.2.2.2] ([((-1), s4.2, x4, x5.2.2.2.2)] : List zP) (rC (vP vI (vP vI (vP (vL (gk 3)) (vP vB vS)))) rN)<|fun p14 c14=>
  wM .s 1 2 u (gk 0) u u<|fun x6 r_7 p15 c15=>zA 1 u<|zC<|zB<|zA 3 u<|zC<|zI u (zB<|zA 2 u<|zC<|zK<|qV<|qC<|wX<|qV<|qV<|qC<|wX<|qV<|qC<|qV<|qC<|wX<|qV<|qC<|
  wR u (lT u (lT u lN)) (fun _ k=>k none 0) [] ⟨gn,d⟩)<|zL<|qD<|zD<|zM<|zA 2 u<|zF<|qF (gv (fun _ k=>k p15 c15 r_7) [0,1] ⟨gk 0,gk 4,gk 6,gk 7,gk 8,d⟩))<|qM<|qL<|qO<|qN<|qD<|zD<|zM<|zA 3 u<|zF<|
  qF (gv (fun _ k=>k p12 c12 r_6) [0,1] ⟨gk 0,gk 2,gk 3,gk 4,d⟩))<|qM<|qL<|qO<|qN<|zD<|zM<|zA 2 u<|zF<|qD<|zD<|zM<|zA 3 u<|zF<|qF (gv (fun _ k=>k p9 c9 r_5) [0,1] ⟨gk 0,gk 1,gk 2,gk 3,d⟩))<|qM<|qL<|qO<|qN<|zD<|zB<|
  zA 3 u<|zC<|zK<|wS 1 0 u u<|wR u (lT u (lT u lN)) (fun _ k=>k p8 c8) [] ⟨gk 0,d⟩
theorem zPo {qd : Prop} {y0 : List zO} {y1 : zO} : qA qd prog 81 [sv p1 y0 c1, .agg #[vb y1.1, vs y1.2]] [] [Rl e_Literal p1 c1 y0] (zHs y0 y1) fun r K=>∀ p2 c2,K (sv p2 r c2) [] [Rl e_Literal p2 c2 r] :=
 qE call81 func81 u fun X=>zB<|qT .s u<|fun b1=>zA 1 u<|zC<|zB<|zA 1 u<|zC<|wA (fun s1 K=>K [(0, sv p1 y0 c1), (3, pt b1 0), (5, vi s1)] [bx b1 30 [vb y1.1, vs y1.2]] [Rl e_Literal p1 c1 y0]) (zQ<|
  qP (fun s2 K=>K [(0, sv p1 y0 c1), (3, pt b1 0), (5, vi s2)] [bx b1 30 [vb y1.1, vs y1.2]] [Rl e_Literal p1 c1 y0]) (gv kk [0] ⟨gk 0,d⟩)<|fun s2 _ k=>k<|zG<|
  wA (fun s3 K=>K [(0, sv p1 y0 c1), (3, pt b1 0), (5, vi s2), (19, vb s3)] [bx b1 30 [vb y1.1, vs y1.2]] [Rl e_Literal p1 c1 y0]) (yN [] [0] 13<|zX 8 [0,1,2,3,4] u<|wH 11 u (zX 6 [5,6] u<|vJ 7 0 u u u u<|fun x1 b2 o1=>
  vH 8 true yM u (gk 0) u<|vM 9 0 2 u u u u<|qG 10<|qH (.f u) [] [] zLc u u u d<|fun r1 _ k=>k<|zZ<|zX 1 [11] u<|wC 12 (vb (decide (r1 < 0))) u<|qS<|zN (gv kk [0] ⟨gk 1,d⟩))<|
  zX 1 [5,6,7,8,9,10,11] u<|wC 12 (vb false) u<|qS<|zN (gv kk [0] ⟨gk 0,d⟩))<|fun s3 _ k=>k<|zI u (zL<|zD<|zQ<|zM<|zA 3 u<|zF<|qD<|qF (gv kk [0] ⟨gk 0,d⟩))<|qM<|qL<|qO<|qN<|
  zN (gv kk [0] ⟨gk 0,d⟩))<|fun s1 _ k=>k<|zG<|wA (fun s4 K=>K [(0, sv p1 y0 c1), (3, pt b1 0), (5, vi s1), (33, vb s4)] [bx b1 30 [vb y1.1, vs y1.2]] [Rl e_Literal p1 c1 y0]) (yN [] [0] 12<|zX 7 [0,1,2,3,4] u<|wH 26 u (
  zX 5 [5,6] u<|vJ 7 0 u u u u<|fun x2 b3 o2=>vH 8 true yM u (gk 0) u<|vM 9 0 2 u u u u<|wC 10 (vb (x2 == y1)) u<|wC 11 (vb (x2 == y1)) u<|qS<|zN (gv kk [0] ⟨gk 1,d⟩))<|
  zX 1 [5,6,7,8,9,10] u<|wC 11 (vb false) u<|qS<|zN (gv kk [0] ⟨gk 0,d⟩))<|fun s4 _ k=>k<|zI u (zB<|zA 2 u<|zC<|zK<|qC<|zS u u (fun _ k=>k p1 c1) [] ⟨gk 0,d⟩)<|zL<|zD<|zB<|
  uY .s (e := e_Literal) 30 [] ([] : List zO) rN<|fun r_1 p2 c2=>zA 2 u<|jsl (gk 1) u u u (.inl ⟨rfl, rfl⟩) (.inr ⟨_, rfl⟩)<|fun x3 p3 c3=>wM .s 1 1 u (gk 0) u u<|fun x4 r_2 p4 c4=>zA 1 u<|zC<|yK [] [0] 9<|
  zX 8 [0] u<|vM 1 0 2 u u u u<|zX 5 [4,5] u<|jdw 6 u (gk 3) u u u (.inr ⟨_, rfl⟩) (.inl ⟨rfl, rfl⟩)<|fun x5 p5 c5=>qG 2<|wV (.f u) (e := e_Literal) 30 [vb y1.1, vs y1.2] ([y1] : List zO) (rC (vP vB vS) rN)<|
  fun p6 c6=>zZ<|qG 3<|wM (.f u) 1 2 u (gk 0) u u<|fun x6 r_3 p7 c7=>zZ<|qG 7<|wM (.f u) 1 0 u (gk 2) u u<|fun x7 r_4 p8 c8=>zZ<|zX 0 [8] u<|qS<|zD<|zK<|wS 1 0 u u<|zS u u (fun _ k=>k p8 c8) [] ⟨gk 0,d⟩
theorem zMd {qd : Prop} {y0 : List zP} {y1 : List Int} : qA qd prog 34 [sv p1 y0 c1, sv p2 y1 c2] [] [Rl qR p1 c1 y0, Rl (eInt .i64) p2 c2 y1] (zEH y0 y1) fun r K=>∀ p3 c3,K (sv p3 r c3) [] [Rl e_Literal p3 c3 r] :=
 qE call34 func34 u fun X=>zB<|zA 1 u<|zC<|zB<|zA 1 u<|zC<|zG<|zB<|zA 1 u<|zC<|zQ<|
  qP (fun s1 K=>∀ p3 c3,K [(0, sv p1 y0 c1), (1, sv p2 y1 c2), (5, sv p3 s1.1 c3), (6, vi s1.2)] [] [Rl e_Literal p3 c3 s1.1, Rl qR p1 c1 y0, Rl (eInt .i64) p2 c2 y1]) (gv (fun _ k=>k none 0) [] ⟨gn,gk 0,gk 1,d⟩)<|fun s1 _ k p3 c3=>
  k<|zG<|zB<|zA 4 u<|zC<|zI u (zL<|zD<|zG<|zQ<|wA (fun s2 K=>K [(0, sv p1 y0 c1), (1, sv p2 y1 c2), (5, sv p3 s1.1 c3), (6, vi s1.2), (26, vb s2)] [] [Rl qR p1 c1 y0, Rl (eInt .i64) p2 c2 y1, Rl e_Literal p3 c3 s1.1]) (
  zM<|zA 2 u<|qX 2 u u u<|fun x1 b1 o1=>qW false oI (gk 0) u<|zA 2 u<|wH 18 u (zA 2 u<|qX 3 u u u<|fun x2 b2 o2=>qW false oI (gk 0) u<|zA 3 u<|zJ (vb (decide (x2 < (len y0))))<|zF<|
  zN (gv kk [] ⟨gk 3,gk 4,gk 2,d⟩))<|zA 7 u<|zJ (vb false)<|zF<|zN (gv kk [] ⟨gk 2,gk 3,gk 1,d⟩))<|fun s2 _ k=>k<|zI u (zM<|zA 4 u<|qX 1 u u u<|fun x3 b3 o3=>qW false oI (gk 0) u<|
  qX 1 u u u<|fun x4 b4 o4=>zU 3 u<|qW true yM (gs (gs (gs (gk 0)))) u<|qI zPo u ⟨ck 4,d⟩<|fun r1 _ k p4 c4=>k<|zA 1 u<|zF<|qD<|zD<|zM<|zA 3 u<|zF<|
  qF (gv (fun _ k=>k p4 c4) [] ⟨gk 0,gk 3,gk 4,d⟩))<|zL<|qD<|zD<|zM<|zA 3 u<|zF<|qF (gv (fun _ k=>k p3 c3) [] ⟨gk 2,gk 0,gk 1,d⟩))<|qM<|qL<|qO<|qN<|zD<|zB<|zA 2 u<|zC<|zK<|zS u u (fun _ k=>k p3 c3) [] ⟨gk 0,d⟩
theorem zKh {qd : Prop} {y0 : List zP} {y1 : Int} : qA qd prog 194 [sv p1 y0 c1, vi y1] [] [Rl qR p1 c1 y0] (zFA y0 y1) fun r K=>∀ p2 c2,K (sv p2 r c2) [] [Rl (eInt .i64) p2 c2 r] :=
 qE call194 func194 u fun X=>zB<|zA 1 u<|zC<|zB<|zA 1 u<|zC<|zG<|zB<|zA 2 u<|qI zL3 u ⟨ck 0,d⟩<|fun r1 _ k p2 c2=>k<|zA 2 u<|zC<|zQ<|
  qP (fun s1 K=>∀ p3 c3,K [(0, sv p1 y0 c1), (5, sv p3 s1.1 c3), (10, sv p2 r1 c2), (11, vi (len r1)), (12, vi s1.2)] [] [Rl (eInt .i64) p3 c3 s1.1, Rl qR p1 c1 y0, Rl (eInt .i64) p2 c2 r1]) (gv (fun _ k=>k none 0) [] ⟨gn,gk 1,gk 0,d⟩)<|
  fun s1 _ k p3 c3=>k<|zB<|zA 1 u<|zC<|zG<|zI u (zL<|zD<|zG<|zQ<|zB<|qX 2 u u u<|fun x1 b1 o1=>qW false oI (gk 0) u<|zA 1 u<|zC<|zB<|zA 2 u<|qX 2 u u u<|fun x2 b2 o2=>zU 0 u<|
  qW false oI (gf (gk 0)) u<|zA 1 u<|zC<|zI u (zM<|zA 3 u<|qX 3 u u u<|fun x3 b3 o3=>zU 0 u<|qW false oI (gf (gk 0)) u<|qI zJi u ⟨ck 3,d⟩<|fun r2 _ k p4 c4=>k<|zA 1 u<|zF<|qD<|zD<|zM<|
  zA 2 u<|zF<|qF (gv (fun _ k=>k p4 c4) [] ⟨gk 0,gk 5,gk 6,d⟩))<|zL<|qD<|zD<|zM<|zA 2 u<|zF<|qF (gv (fun _ k=>k p3 c3) [] ⟨gk 2,gk 3,gk 4,d⟩))<|qM<|qL<|qO<|qN<|zD<|zB<|zA 2 u<|zC<|zK<|
  zS u u (fun _ k=>k p3 c3) [] ⟨gk 0,d⟩
theorem zPT {qd : Prop} {y0 : zT} {y1 : List zP} {y2 : Int} : qA qd prog 138 [.agg #[sv p1 y0.1 c1, sv p2 y0.2.1 c2, sv p3 y0.2.2 c3], sv p4 y1 c4, vi y2] [] [Rl e_Premise p1 c1 y0.1, Rl e_Rule p2 c2 y0.2.1, Rl e_Promotion p3 c3 y0.2.2, Rl qR p4 c4 y1] (zHS y0 y1 y2) fun r K=>K (vb r) [] [] :=
 qE call138 func138 u fun X=>zB<|qT .s u<|fun b1=>zA 1 u<|zC<|zG<|zB<|zA 2 u<|qI zKh u ⟨ck 3,d⟩<|fun r1 _ k p5 c5=>k<|zA 2 u<|zC<|zQ<|
  qP (fun s1 K=>K [(3, pt b1 0), (11, sv p5 r1 c5), (12, vi (len r1)), (13, vi s1)] [bx b1 26 [sv p1 y0.1 c1, sv p2 y0.2.1 c2, sv p3 y0.2.2 c3]] [Rl (eInt .i64) p5 c5 r1, Rl e_Premise p1 c1 y0.1, Rl e_Rule p2 c2 y0.2.1, Rl e_Promotion p3 c3 y0.2.2]) (gv kk [0] ⟨gk 0,gk 1,gk 2,gk 3,d⟩)<|
  fun s1 _ k=>k<|zB<|zA 1 u<|zC<|zG<|zI u (zL<|zD<|zG<|zQ<|zB<|qX 0 u u u<|fun x1 b2 o1=>qW false oI (gk 0) u<|zA 1 u<|zC<|zB<|zU 0 u<|zV 0 u u u<|zA 1 u<|qX 2 u u u<|fun x2 b3 o2=>zU 2 u<|
  qW false oI (gf (gs (gk 0))) u<|zA 1 u<|zC<|zI u (zB<|zA 1 u<|zC<|zK<|qV<|qC<|wX<|qV<|qC<|zS u u kk [] d)<|zL<|qD<|zD<|zM<|zA 2 u<|zF<|qF (gv kk [0] ⟨gk 2,gk 3,gk 4,gk 5,d⟩))<|qM<|
  qL<|qO<|qN<|zD<|zB<|zA 1 u<|zC<|zK<|zS u u kk [] d
theorem zOS {qd : Prop} (k : Nat) :
    (∀ {y0 : zT} {p1 : Option Addr} {c1 : Nat} {p2 : Option Addr} {c2 : Nat} {p3 : Option Addr} {c3 : Nat} {y1 : List zP} {p4 : Option Addr} {c4 : Nat} {y2 : Int}, qA qd prog 196 [.agg #[sv p1 y0.1 c1, sv p2 y0.2.1 c2, sv p3 y0.2.2 c3], sv p4 y1 c4, vi y2] [] [Rl e_Premise p1 c1 y0.1, Rl e_Rule p2 c2 y0.2.1, Rl e_Promotion p3 c3 y0.2.2, Rl qR p4 c4 y1] (zFp k y0 y1 y2) fun r K=>∀ p5 c5,K (sv p5 r c5) [] [Rl (eInt .i64) p5 c5 r]) := by
  induction k with
  | zero => exact zXp call196
  | succ k ih =>
    have ih_ref07_Last := @ih
    exact @fun y0 p1 c1 p2 c2 p3 c3 y1 p4 c4 y2=>qE (m1 := zJc (zFp k) y0 y1 y2) call196 func196 u fun X=>zB<|qT .s u<|fun b1=>zA 1 u<|zC<|zG<|
  wA (fun s1 K=>K [(1, sv p4 y1 c4), (2, vi y2), (3, pt b1 0), (24, vb s1)] [bx b1 26 [sv p1 y0.1 c1, sv p2 y0.2.1 c2, sv p3 y0.2.2 c3]] [Rl qR p4 c4 y1, Rl e_Premise p1 c1 y0.1, Rl e_Rule p2 c2 y0.2.1, Rl e_Promotion p3 c3 y0.2.2]) (
  zM<|zA 3 u<|wH 11 u (zA 4 u<|zJ (vb true)<|zA 7 u<|zJ (vb true)<|zF<|zN (gv kk [0] ⟨gk 3,gk 0,gk 1,gk 2,d⟩))<|zA 4 u<|zJ (vb (decide ((len y1) ≤ y2)))<|zA 1 u<|wH 17 u (zA 6 u<|zJ (vb true)<|zF<|
  zN (gv kk [0] ⟨gk 3,gk 0,gk 1,gk 2,d⟩))<|zA 2 u<|qX 3 u u u<|fun x1 b2 o1=>zU 1 u<|qW false oI (gf (gs (gk 0))) u<|zA 1 u<|zJ (vb (decide (x1.2.1 < 0)))<|zF<|
  zN (gv kk [0] ⟨gk 4,gk 1,gk 2,gk 3,d⟩))<|fun s1 _ k=>k<|zI u (zB<|zA 1 u<|zC<|zK<|qC<|zS u u (fun _ k=>k none 0) [] ⟨gn,d⟩)<|zL<|zD<|zG<|yK [] [0] 11<|qQ 0 1 u u<|qZ 1 0 u u u u<|
  zX 7 [2,3] u<|vJ 4 0 u u u u<|fun x2 b3 o2=>qQ 5 1 u u<|vH 6 false oI u (gf (gs (gk 0))) u<|vJ 7 3 u u u u<|fun x3 b4 o3=>qQ 8 1 u u<|vH 9 false oB u (gf (gs (gk 0))) u<|zX 0 [10] u<|qS<|zD<|
  zI u (zB<|zA 2 u<|qX 2 u u u<|fun x4 b5 o4=>zU 1 u<|qW false oI (gf (gs (gk 0))) u<|wV .s (e := eInt .i64) 3 [vi x4.2.1] ([x4.2.1] : List Int) (rC vI rN)<|fun p5 c5=>zA 1 u<|zC<|zK<|qC<|
  zS u u (fun _ k=>k p5 c5) [] ⟨gk 0,d⟩)<|zL<|zD<|zB<|zA 1 u<|zC<|zG<|zB<|zA 1 u<|zC<|zQ<|
  qP (fun s2 K=>∀ p6 c6,K [(1, sv p4 y1 c4), (2, vi y2), (3, pt b1 0), (7, sv p6 s2.1 c6), (8, vi s2.2)] [bx b1 26 [sv p1 y0.1 c1, sv p2 y0.2.1 c2, sv p3 y0.2.2 c3]] [Rl (eInt .i64) p6 c6 s2.1, Rl qR p4 c4 y1, Rl e_Premise p1 c1 y0.1, Rl e_Rule p2 c2 y0.2.1, Rl e_Promotion p3 c3 y0.2.2]) (gv (fun _ k=>k none 0) [0] ⟨gn,gk 2,gk 3,gk 4,gk 5,d⟩)<|
  fun s2 _ k p6 c6=>k<|zG<|zB<|zA 3 u<|qX 1 u u u<|fun x5 b6 o5=>zU 2 u<|qW false oL (gf (gs (gs (gk 0)))) u<|fun p7 c7=>zA 2 u<|zC<|zI u (zL<|zD<|zG<|zQ<|yN [] [0] 14<|zX 13 [0] u<|vM 1 0 3 u u u u<|
  zX 9 [2,3,4] u<|vJ 5 3 u u u u<|fun x6 b7 o6=>qQ 6 2 u u<|vH 7 false oL u (gf (gs (gs (gk 0)))) u<|fun p8 c8=>zX 5 [8] u<|vJ 9 0 u u u u<|fun x7 b8 o7=>vH 10 false oI u (gk 0) u<|qG 11<|
  qH (.f u) [] [] ih_ref07_Last u u u ⟨ck 7,ck 8,ck 9,ck 6,d⟩<|fun r1 _ k p9 c9=>k<|zZ<|qG 12<|qH (.f u) [] [] zNL u u u ⟨ck 6,ck 0,d⟩<|fun r2 _ k p10 c10=>k<|zZ<|zX 0 [13] u<|qS<|qD<|zD<|zM<|
  zA 3 u<|zF<|qF (gv (fun _ k=>k p10 c10) [0] ⟨gk 0,gk 8,gk 9,gk 10,gk 11,d⟩))<|qM<|qL<|qO<|qN<|zD<|zB<|zA 2 u<|zC<|zK<|zS u u (fun _ k=>k p6 c6) [] ⟨gk 2,d⟩
theorem zSL {qd : Prop} {y0 : zT} {y1 : List zP} {y2 : Int} : qA qd prog 196 [.agg #[sv p1 y0.1 c1, sv p2 y0.2.1 c2, sv p3 y0.2.2 c3], sv p4 y1 c4, vi y2] [] [Rl e_Premise p1 c1 y0.1, Rl e_Rule p2 c2 y0.2.1, Rl e_Promotion p3 c3 y0.2.2, Rl qR p4 c4 y1] (zLX y0 y1 y2) fun r K=>∀ p5 c5,K (sv p5 r c5) [] [Rl (eInt .i64) p5 c5 r] := zNB fun k => (zOS k)
theorem zKL {qd : Prop} {y0 : zT} {y1 : List zP} {y2 : Int} : qA qd prog 141 [.agg #[sv p1 y0.1 c1, sv p2 y0.2.1 c2, sv p3 y0.2.2 c3], sv p4 y1 c4, vi y2] [] [Rl e_Premise p1 c1 y0.1, Rl e_Rule p2 c2 y0.2.1, Rl e_Promotion p3 c3 y0.2.2, Rl qR p4 c4 y1] (zDe y0 y1 y2) fun r K=>∀ p5 c5,K (sv p5 r c5) [] [Rl (eInt .i64) p5 c5 r] :=
 qE call141 func141 u fun X=>zB<|qT .s u<|fun b1=>zA 1 u<|zC<|zB<|zA 1 u<|vD (eInt .i64) 3<|zC<|zG<|zB<|qK 0 3 u u u<|zA 2 u<|qI zSL u ⟨ck 1,ck 2,ck 3,ck 4,d⟩<|fun r1 _ k p5 c5=>k<|zA 2 u<|zC<|zQ<|
  qP (fun s1 K=>∀ p6 c6 r_1,K [(3, pt b1 0), (7, sv p6 s1.1 c6), (13, sv p5 r1 c5), (14, vi (len r1)), (15, vi s1.2)] [bx b1 26 [sv p1 y0.1 c1, sv p2 y0.2.1 c2, sv p3 y0.2.2 c3], r_1] [Al (eInt .i64) 3 r_1 p6 c6 s1.1, Rl (eInt .i64) p5 c5 r1, Rl e_Premise p1 c1 y0.1, Rl e_Rule p2 c2 y0.2.1, Rl e_Promotion p3 c3 y0.2.2]) (gv (fun _ k=>k none 0 []) [0,1] ⟨gk 1,gk 0,gk 2,gk 3,gk 4,d⟩)<|
  fun s1 _ k p6 c6 r_1=>k<|zB<|zA 1 u<|zC<|zG<|zI u (zL<|zD<|zG<|zQ<|zB<|qX 1 u u u<|fun x1 b2 o1=>qW false oI (gk 0) u<|zA 1 u<|zC<|zM<|zA 1 u<|zU 1 u<|zV 0 u u u<|zA 1 u<|qX 4 u u u<|
  fun x2 b3 o2=>zU 2 u<|qW false oI (gf (gs (gs (gk 0)))) u<|wV .s (e := eInt .i64) 3 [vi x2.2.2.1] ([x2.2.2.1] : List Int) (rC vI rN)<|fun p7 c7=>wM .s 1 3 u (gk 0) u u<|fun x3 r_2 p8 c8=>zA 1 u<|zF<|qD<|zD<|zM<|
  zA 2 u<|zF<|qF (gv (fun _ k=>k p8 c8 r_2) [0,1] ⟨gk 0,gk 5,gk 6,gk 7,gk 8,d⟩))<|qM<|qL<|qO<|qN<|zD<|zB<|zA 2 u<|zC<|zK<|wS 1 0 u u<|zS u u (fun _ k=>k p6 c6) [] ⟨gk 0,d⟩
theorem zD4 {qd : Prop} {y0 : zT} {y1 : List zP} {y2 : Int} : qA qd prog 140 [.agg #[sv p1 y0.1 c1, sv p2 y0.2.1 c2, sv p3 y0.2.2 c3], sv p4 y1 c4, vi y2] [] [Rl e_Premise p1 c1 y0.1, Rl e_Rule p2 c2 y0.2.1, Rl e_Promotion p3 c3 y0.2.2, Rl qR p4 c4 y1] (zAt y0 y1 y2) fun r K=>∀ p5 c5,K (sv p5 r c5) [] [Rl (eInt .i64) p5 c5 r] :=
 qE call140 func140 u fun X=>zB<|qT .s u<|fun b1=>zA 1 u<|zC<|zB<|zA 1 u<|vD (eInt .i64) 3<|zC<|zG<|zB<|zA 2 u<|qI zKh u ⟨ck 4,d⟩<|fun r1 _ k p5 c5=>k<|zA 2 u<|zC<|zQ<|
  qP (fun s1 K=>∀ p6 c6 r_1,K [(3, pt b1 0), (7, sv p6 s1.1 c6), (12, sv p5 r1 c5), (13, vi (len r1)), (14, vi s1.2)] [bx b1 26 [sv p1 y0.1 c1, sv p2 y0.2.1 c2, sv p3 y0.2.2 c3], r_1] [Al (eInt .i64) 3 r_1 p6 c6 s1.1, Rl (eInt .i64) p5 c5 r1, Rl e_Premise p1 c1 y0.1, Rl e_Rule p2 c2 y0.2.1, Rl e_Promotion p3 c3 y0.2.2]) (gv (fun _ k=>k none 0 []) [0,1] ⟨gk 1,gk 0,gk 2,gk 3,gk 4,d⟩)<|
  fun s1 _ k p6 c6 r_1=>k<|zB<|zA 1 u<|zC<|zG<|zI u (zL<|zD<|zG<|zQ<|zB<|qX 1 u u u<|fun x1 b2 o1=>qW false oI (gk 0) u<|zA 1 u<|zC<|zB<|zU 0 u<|zV 0 u u u<|zA 1 u<|qX 3 u u u<|fun x2 b3 o2=>
  zU 2 u<|qW false oI (gf (gs (gk 0))) u<|zC<|zQ<|zB<|zA 2 u<|zC<|zI u (zM<|zA 1 u<|zU 0 u<|zV 0 u u u<|zA 1 u<|qX 4 u u u<|fun x3 b4 o3=>zU 3 u<|qW false oI (gf (gs (gs (gk 0)))) u<|
  wV .s (e := eInt .i64) 3 [vi x3.2.2.1] ([x3.2.2.1] : List Int) (rC vI rN)<|fun p7 c7=>wM .s 1 4 u (gk 0) u u<|fun x4 r_2 p8 c8=>zA 1 u<|zF<|qD<|qD<|zD<|zM<|zA 2 u<|zF<|
  qF (gv (fun _ k=>k p8 c8 r_2) [0,1] ⟨gk 0,gk 6,gk 7,gk 8,gk 9,d⟩))<|zB<|zA 2 u<|zC<|zI u (zM<|zA 1 u<|wV .s (e := eInt .i64) 3 [vi (-1)] ([(-1)] : List Int) (rC vI rN)<|fun p9 c9=>wM .s 1 3 u (gk 0) u u<|
  fun x5 r_3 p10 c10=>zA 1 u<|zF<|qD<|qD<|zD<|zM<|zA 2 u<|zF<|qF (gv (fun _ k=>k p10 c10 r_3) [0,1] ⟨gk 0,gk 5,gk 6,gk 7,gk 8,d⟩))<|zL<|qD<|qD<|zD<|zM<|zA 2 u<|zF<|
  qF (gv (fun _ k=>k p6 c6 r_1) [0,1] ⟨gk 2,gk 3,gk 4,gk 5,gk 6,d⟩))<|qM<|qL<|qO<|qN<|zD<|zB<|zA 2 u<|zC<|zK<|wS 1 0 u u<|zS u u (fun _ k=>k p6 c6) [] ⟨gk 0,d⟩
theorem zKJ {qd : Prop} {y0 : zT} {y1 : List zP} {y2 : Int} : qA qd prog 142 [.agg #[sv p1 y0.1 c1, sv p2 y0.2.1 c2, sv p3 y0.2.2 c3], sv p4 y1 c4, vi y2] [] [Rl e_Premise p1 c1 y0.1, Rl e_Rule p2 c2 y0.2.1, Rl e_Promotion p3 c3 y0.2.2, Rl qR p4 c4 y1] (zD8 y0 y1 y2) fun r K=>∀ p5 c5,K (sv p5 r c5) [] [Rl (eInt .i64) p5 c5 r] :=
 qE call142 func142 u fun X=>zB<|qT .s u<|fun b1=>zA 1 u<|zC<|zB<|zA 1 u<|vD (eInt .i64) 3<|zC<|zG<|zB<|qK 0 3 u u u<|zA 2 u<|qI zHL u ⟨ck 1,ck 2,ck 3,ck 4,d⟩<|fun r1 _ k p5 c5=>k<|zA 2 u<|zC<|zQ<|
  qP (fun s1 K=>∀ p6 c6 r_1,K [(3, pt b1 0), (7, sv p6 s1.1 c6), (13, sv p5 r1 c5), (14, vi (len r1)), (15, vi s1.2)] [bx b1 26 [sv p1 y0.1 c1, sv p2 y0.2.1 c2, sv p3 y0.2.2 c3], r_1] [Al (eInt .i64) 3 r_1 p6 c6 s1.1, Rl (eInt .i64) p5 c5 r1, Rl e_Premise p1 c1 y0.1, Rl e_Rule p2 c2 y0.2.1, Rl e_Promotion p3 c3 y0.2.2]) (gv (fun _ k=>k none 0 []) [0,1] ⟨gk 1,gk 0,gk 2,gk 3,gk 4,d⟩)<|
  fun s1 _ k p6 c6 r_1=>k<|zB<|zA 1 u<|zC<|zG<|zI u (zL<|zD<|zG<|zQ<|zB<|qX 1 u u u<|fun x1 b2 o1=>qW false oI (gk 0) u<|zA 1 u<|zC<|zM<|zA 1 u<|zU 1 u<|zV 0 u u u<|zA 1 u<|qX 4 u u u<|
  fun x2 b3 o2=>zU 2 u<|qW false oI (gf (gs (gs (gk 0)))) u<|wV .s (e := eInt .i64) 3 [vi x2.2.2.1] ([x2.2.2.1] : List Int) (rC vI rN)<|fun p7 c7=>wM .s 1 3 u (gk 0) u u<|fun x3 r_2 p8 c8=>zA 1 u<|zF<|qD<|zD<|zM<|
  zA 2 u<|zF<|qF (gv (fun _ k=>k p8 c8 r_2) [0,1] ⟨gk 0,gk 5,gk 6,gk 7,gk 8,d⟩))<|qM<|qL<|qO<|qN<|zD<|zB<|zA 2 u<|zC<|zK<|wS 1 0 u u<|zS u u (fun _ k=>k p6 c6) [] ⟨gk 0,d⟩
theorem zKq {qd : Prop} {y0 : List Int} : qA qd prog 195 [sv p1 y0 c1] [] [Rl (eInt .i64) p1 c1 y0] (zEn y0) fun r K=>K (.tuple #[vi r.1, vi r.2]) [] [] :=
 qE call195 func195 u fun X=>zB<|zA 2 u<|zC<|yK [] [] 8<|zX 7 [0] u<|vJ 1 0 u u u u<|fun x1 b1 o1=>vH 2 false oI u (gk 0) u<|zX 4 [3] u<|vJ 4 1 u u u u<|fun x2 b2 o2=>vH 5 false oI u (gk 0) u<|zX 0 [6,7] u<|qS<|zD<|zG<|
  zB<|zA 1 u<|zC<|zQ<|qP (fun s1 K=>K [(0, sv p1 y0 c1), (4, vi s1.1), (5, vi s1.2.1), (6, vi s1.2.2)] [] [Rl (eInt .i64) p1 c1 y0]) (gv kk [] ⟨gk 2,d⟩)<|fun s1 _ k=>k<|zG<|zB<|zA 4 u<|zC<|zI u (zL<|zD<|zG<|zQ<|
  yN [] [] 14<|zX 11 [0,1,2] u<|vJ 3 0 u u u u<|fun x3 b3 o3=>vH 4 false oI u (gk 0) u<|zX 5 [5,6,7,8] u<|vJ 9 1 u u u u<|fun x4 b4 o4=>vH 10 false oI u (gk 0) u<|zX 0 [11,12,13] u<|qS<|qD<|zD<|zM<|
  zA 3 u<|zF<|qF (gv kk [] ⟨gk 2,d⟩))<|qM<|qL<|qO<|qN<|zD<|zB<|zA 4 u<|zC<|zK<|wR u (lT u (lT u lN)) kk [] d
theorem zJA {qd : Prop} {y0 : List Int} {y1 : List Int} {y2 : Int} : qA qd prog 139 [sv p1 y0 c1, sv p2 y1 c2, vi y2] [] [Rl (eInt .i64) p1 c1 y0, Rl (eInt .i64) p2 c2 y1] (zDk y0 y1 y2) fun r K=>K (vb r) [] [] :=
 qE call139 func139 u fun X=>zB<|zA 1 u<|zC<|zG<|yW (fun K=>K [(0, sv p1 y0 c1), (1, sv p2 y1 c2), (2, vi y2), (21, vb (if y2 != 1 then (y2 != 2) || ((len y0) == 0) else (len y0) == 0))] [] [Rl (eInt .i64) p1 c1 y0, Rl (eInt .i64) p2 c2 y1]) (zM<|zA 3 u<|
  vY (b := y2 != 1) 13 u (fun hb1=>zA 2 u<|zJ (vb (y2 != 2))<|zA 1 u<|vY (b := y2 != 2) 17 u (fun hb2=>zA 3 u<|zJ (vb true)<|zF<|
  wN 21 (vb (if y2 != 1 then (y2 != 2) || ((len y0) == 0) else (len y0) == 0)) u (by rw [hb1,hb2]; rfl)<|zN (gv kk [] ⟨gk 0,gk 1,d⟩))<|fun hb2=>zA 3 u<|zJ (vb ((len y0) == 0))<|zF<|
  wN 21 (vb (if y2 != 1 then (y2 != 2) || ((len y0) == 0) else (len y0) == 0)) u (by rw [hb1,hb2]; rfl)<|zN (gv kk [] ⟨gk 0,gk 1,d⟩))<|fun hb1=>zA 2 u<|zJ (vb false)<|zA 4 u<|zJ (vb ((len y0) == 0))<|zF<|
  wN 21 (vb (if y2 != 1 then (y2 != 2) || ((len y0) == 0) else (len y0) == 0)) u (by rw [hb1]; rfl)<|zN (gv kk [] ⟨gk 0,gk 1,d⟩))<|fun _ k=>k<|zI u (zB<|zA 1 u<|zC<|zK<|qC<|zS u u kk [] d)<|zL<|zD<|
  zG<|zB<|zA 3 u<|zC<|zI u (zB<|zA 1 u<|zC<|zK<|qC<|zS u u kk [] d)<|zL<|zD<|zB<|zA 1 u<|qI zKq u ⟨ck 0,d⟩<|fun r1 _ k=>k<|zA 5 u<|zC<|zB<|zA 1 u<|
  qI zKq u ⟨ck 1,d⟩<|fun r2 _ k=>k<|zA 5 u<|zC<|zG<|zB<|zA 2 u<|zC<|zI u (zB<|zA 4 u<|zC<|zK<|qC<|zS u u kk [] d)<|zL<|zD<|zB<|zA 4 u<|zC<|zK<|zS u u kk [] d
theorem zSA {qd : Prop} {y0 : zT} {y1 : List zP} {y2 : Int} {y3 : Int} {y4 : wQ} : qA qd prog 80 [.agg #[sv p1 y0.1 c1, sv p2 y0.2.1 c2, sv p3 y0.2.2 c3], sv p4 y1 c4, vi y2, vi y3, .agg #[vi y4.1, vi y4.2]] [] [Rl e_Premise p1 c1 y0.1, Rl e_Rule p2 c2 y0.2.1, Rl e_Promotion p3 c3 y0.2.2, Rl qR p4 c4 y1] (zIK y0 y1 y2 y3 y4) fun r K=>K (vb r) [] [] :=
 qE call80 func80 u fun X=>zB<|qT .s u<|fun b1=>qT .s u<|fun b2=>zA 1 u<|zC<|zG<|
  wA (fun s1 K=>K [(1, sv p4 y1 c4), (2, vi y2), (3, vi y3), (5, pt b1 0), (9, pt b2 0), (40, vb s1)] [bx b1 26 [sv p1 y0.1 c1, sv p2 y0.2.1 c2, sv p3 y0.2.2 c3], bx b2 28 [vi y4.1, vi y4.2]] [Rl qR p4 c4 y1, Rl e_Premise p1 c1 y0.1, Rl e_Rule p2 c2 y0.2.1, Rl e_Promotion p3 c3 y0.2.2]) (
  zM<|zA 3 u<|wH 19 u (zA 4 u<|zJ (vb true)<|zA 3 u<|zJ (vb true)<|zA 5 u<|zJ (vb true)<|zA 5 u<|zJ (vb true)<|zF<|zN (gv kk [0,1] ⟨gk 3,gk 0,gk 1,gk 2,d⟩))<|zA 4 u<|zJ (vb (decide ((len y1) ≤ y2)))<|
  zA 1 u<|wH 25 u (zA 2 u<|zJ (vb true)<|zA 5 u<|zJ (vb true)<|zA 5 u<|zJ (vb true)<|zF<|zN (gv kk [0,1] ⟨gk 3,gk 0,gk 1,gk 2,d⟩))<|zA 2 u<|zJ (vb (decide (y3 < 0)))<|zA 1 u<|wH 29 u (zA 4 u<|
  zJ (vb true)<|zA 5 u<|zJ (vb true)<|zF<|zN (gv kk [0,1] ⟨gk 3,gk 0,gk 1,gk 2,d⟩))<|zA 4 u<|zJ (vb (decide ((len y1) ≤ y3)))<|zA 1 u<|wH 35 u (zA 4 u<|zJ (vb true)<|zF<|
  zN (gv kk [0,1] ⟨gk 3,gk 0,gk 1,gk 2,d⟩))<|qK 0 3 u u u<|zA 2 u<|qI zPT u ⟨ck 0,ck 1,ck 2,ck 3,d⟩<|fun r1 _ k=>k<|zJ (vb r1)<|zF<|zN (gv kk [0,1] ⟨gk 3,gk 0,gk 1,gk 2,d⟩))<|fun s1 _ k=>k<|
  zI u (zB<|zA 1 u<|zC<|zK<|qC<|zS u u kk [] d)<|zL<|zD<|yK [] [0, 1] 12<|vM 0 0 3 u u u u<|zX 9 [1,2] u<|vM 4 0 3 u u u u<|zX 6 [5,6] u<|qQ 8 1 u u<|qZ 9 1 u u u u<|qG 3<|
  qH (.f u) [] [] zD4 u u u ⟨ck 1,ck 2,ck 3,ck 0,d⟩<|fun r2 _ k p5 c5=>k<|zZ<|qG 7<|qH (.f u) [] [] zD4 u u u ⟨ck 2,ck 3,ck 4,ck 1,d⟩<|fun r3 _ k p6 c6=>k<|zZ<|qG 10<|
  qH (.f u) [] [] zJA u u u ⟨ck 1,ck 0,d⟩<|fun r4 _ k=>k<|zZ<|zX 0 [11] u<|qS<|zD<|zG<|zB<|zU 0 u<|zV 1 u u u<|zC<|zQ<|zB<|zA 2 u<|zC<|zI u (yK [] [0] 10<|vM 0 0 3 u u u u<|
  zX 7 [1,2] u<|vM 4 0 3 u u u u<|zX 4 [5,6] u<|qG 3<|qH (.f u) [] [] zKL u u u ⟨ck 3,ck 4,ck 5,ck 2,d⟩<|fun r5 _ k p7 c7=>k<|zZ<|qG 7<|
  qH (.f u) [] [] zKL u u u ⟨ck 4,ck 5,ck 6,ck 3,d⟩<|fun r6 _ k p8 c8=>k<|zZ<|zX 0 [8,9] u<|qS<|zD<|wA (fun s2 K=>K [(10, vb s2)] [[], []] []) (zM<|zA 2 u<|zU 1 u<|zV 1 u u u<|
  qI zJA u ⟨ck 1,ck 0,d⟩<|fun r7 _ k=>k<|zA 1 u<|wH 69 u (zA 11 u<|zJ (vb true)<|zA 1 u<|zF<|zN (gv kk [900,901] d))<|zA 4 u<|wH 73 u (zA 3 u<|zJ (vb ((len r6) == 0))<|zA 1 u<|
  wH 78 u (zA 1 u<|zJ (vb r4)<|zJ (vb r4)<|zA 1 u<|zF<|zN (gv kk [900,901] d))<|zA 1 u<|zJ (vb false)<|zJ (vb false)<|zA 1 u<|zF<|zN (gv kk [900,901] d))<|zA 3 u<|zJ (vb false)<|zA 2 u<|
  zJ (vb false)<|zJ (vb false)<|zA 1 u<|zF<|zN (gv kk [900,901] d))<|fun s2 _ k=>k<|zK<|qV<|qC<|zS u u kk [] d)<|zB<|zA 2 u<|zC<|zI u (yK [] [0] 10<|vM 0 0 3 u u u u<|zX 7 [1,2] u<|
  vM 4 0 3 u u u u<|zX 4 [5,6] u<|qG 3<|qH (.f u) [] [] zKJ u u u ⟨ck 3,ck 4,ck 5,ck 2,d⟩<|fun r8 _ k p9 c9=>k<|zZ<|qG 7<|qH (.f u) [] [] zKJ u u u ⟨ck 4,ck 5,ck 6,ck 3,d⟩<|
  fun r9 _ k p10 c10=>k<|zZ<|zX 0 [8,9] u<|qS<|zD<|zG<|
  yW (fun K=>K [(1, sv p4 y1 c4), (2, vi y2), (3, vi y3), (5, pt b1 0), (9, pt b2 0), (11, vb r4), (14, sv p9 r8 c9), (15, sv p10 r9 c10), (99, vb (((len r8) == 0) && ((len r9) == 0)))] [bx b1 26 [sv p1 y0.1 c1, sv p2 y0.2.1 c2, sv p3 y0.2.2 c3], bx b2 28 [vi y4.1, vi y4.2]] [Rl qR p4 c4 y1, Rl (eInt .i64) p9 c9 r8, Rl (eInt .i64) p10 c10 r9, Rl e_Premise p1 c1 y0.1, Rl e_Rule p2 c2 y0.2.1, Rl e_Promotion p3 c3 y0.2.2]) (
  zM<|zA 4 u<|vY (b := (len r8) == 0) 95 u (fun hb8=>zA 3 u<|zJ (vb ((len r9) == 0))<|zF<|wN 99 (vb (((len r8) == 0) && ((len r9) == 0))) u (by rw [hb8]; rfl)<|zN (gv kk [0,1] ⟨gk 4,gk 1,gk 0,gk 5,gk 6,gk 7,d⟩)
  )<|fun hb8=>zA 3 u<|zJ (vb false)<|zF<|wN 99 (vb (((len r8) == 0) && ((len r9) == 0))) u (by rw [hb8]; rfl)<|zN (gv kk [0,1] ⟨gk 4,gk 1,gk 0,gk 5,gk 6,gk 7,d⟩))<|fun _ k=>k<|zI u (zB<|zA 2 u<|zC<|zK<|qC<|qV<|
  qC<|zS u u kk [] d)<|zL<|zD<|zB<|zA 2 u<|zU 1 u<|zV 1 u u u<|qI zJA u ⟨ck 1,ck 2,d⟩<|fun r10 _ k=>k<|zA 1 u<|zC<|zG<|
  wA (fun s3 K=>K [(11, vb r4), (16, vb r10), (119, vb s3)] [[], []] []) (zM<|qK 0 3 u u u<|zA 2 u<|qI zD4 u ⟨ck 3,ck 4,ck 5,ck 0,d⟩<|fun r11 _ k p11 c11=>k<|zA 3 u<|wH 112 u (qK 0 3 u u u<|
  zA 2 u<|qI zD4 u ⟨ck 4,ck 5,ck 6,ck 1,d⟩<|fun r12 _ k p12 c12=>k<|zA 2 u<|zJ (vb ((len r12) == 0))<|zF<|zN (gv kk [900,901] d))<|zA 6 u<|zJ (vb false)<|zF<|zN (gv kk [900,901] d))<|
  fun s3 _ k=>k<|zI u (zB<|zA 2 u<|zC<|zK<|qC<|qV<|qC<|zS u u kk [] d)<|zL<|zD<|yW (fun K=>K [(10, vb (r4 && r10))] [[], []] []) (zM<|zA 2 u<|vY (b := r4) 122 u (fun hb10=>zA 1 u<|zJ (vb r10)<|
  zA 1 u<|zF<|wN 10 (vb (r4 && r10)) u (by rw [hb10]; rfl)<|zN (gv kk [900,901] d))<|fun hb10=>zA 1 u<|zJ (vb false)<|zA 1 u<|zF<|wN 10 (vb (r4 && r10)) u (by rw [hb10]; rfl)<|zN (gv kk [900,901] d)
  )<|fun _ k=>k<|zK<|qV<|qC<|zS u u kk [] d)<|zL<|qD<|zD<|zB<|zA 1 u<|zC<|zK<|zS u u kk [] d
theorem zMk {qd : Prop} {y0 : zO} : qA qd prog 193 [.agg #[vb y0.1, vs y0.2]] [] [] (zHZ y0) fun r K=>K (.agg #[vb r.1, vs r.2]) [] [] :=
 qE call193 func193 u fun X=>zB<|qT .s u<|fun b1=>wL .s (.agg #[vb false, vs []])<|fun b2=>zC<|zB<|zU 0 u<|zV 0 u u u<|zA 1 u<|zU 1 u<|zV 0 u u u<|zJ (.agg #[vb (!y0.1), vs y0.2])<|qU .s 1 u u u<|zC<|zK<|
  wR u (lC 1 (.agg #[vb (!y0.1), vs y0.2]) u u lN) kk [] d
theorem zOo {qd : Prop} {y0 : zT} {y1 : List zP} {y2 : Int} {y3 : Int} {y4 : Int} : qA qd prog 137 [.agg #[sv p1 y0.1 c1, sv p2 y0.2.1 c2, sv p3 y0.2.2 c3], sv p4 y1 c4, vi y2, vi y3, vi y4] [] [Rl e_Premise p1 c1 y0.1, Rl e_Rule p2 c2 y0.2.1, Rl e_Promotion p3 c3 y0.2.2, Rl qR p4 c4 y1] (zH3 y0 y1 y2 y3 y4) fun r K=>K (vb r) [] [] :=
 qE call137 func137 u fun X=>zB<|qT .s u<|fun b1=>zA 1 u<|zC<|yK [] [] 13<|zX 11 [0,1] u<|vJ 2 3 u u u u<|fun x1 b2 o1=>qQ 3 3 u u<|vH 4 true yM u (gs (gs (gs (gk 0)))) u<|zX 6 [5,6] u<|vJ 7 4 u u u u<|fun x2 b3 o2=>
  qQ 8 3 u u<|vH 9 true yM u (gs (gs (gs (gk 0)))) u<|qG 10<|qH (.f u) [] [] zMk u u u d<|fun r1 _ k=>k<|zZ<|wC 11 (vb (x1.2.2.2 == r1)) u<|zX 0 [12] u<|qS<|zD<|zG<|zB<|zA 2 u<|
  qX 5 u u u<|fun x3 b4 o3=>zU 1 u<|qW false oI (gf (gs (gk 0))) u<|zA 1 u<|zC<|zI u (wA (fun s1 K=>K [(10, vb s1)] [[]] []) (yN [] [0] 19<|zX 16 [0,1,2] u<|wH 33 u (qQ 3 0 u u<|qZ 4 0 u u u u<|
  zX 12 [5,6] u<|vJ 7 6 u u u u<|fun x4 b5 o4=>qQ 8 0 u u<|vH 9 false oI u (gf (gk 0)) u<|vJ 10 4 u u u u<|fun x5 b6 o5=>qQ 11 2 u u<|vH 12 false oI u (gf (gs (gk 0))) u<|zX 5 [13] u<|
  wC 14 (vb (x5.2.1 != 1)) u<|zX 3 [15] u<|wH 46 u (zX 2 [16] u<|wC 17 (vb (x1.2.2.2 == r1)) u<|zX 0 [18] u<|qS<|zN (gv kk [900] d))<|zX 2 [16] u<|wC 17 (vb false) u<|zX 0 [18] u<|qS<|
  zN (gv kk [900] d))<|zX 5 [3,4,5,6,7,8,9,10,11,12,13] u<|wC 14 (vb false) u<|zX 2 [15,16] u<|wC 17 (vb false) u<|zX 0 [18] u<|qS<|zN (gv kk [900] d))<|fun s1 _ k=>k<|zK<|qC<|
  zS u u kk [] d)<|zL<|zD<|yK [] [0] 11<|qQ 0 1 u u<|qZ 1 0 u u u u<|zX 7 [2,3] u<|vJ 4 6 u u u u<|fun x6 b7 o6=>qQ 5 1 u u<|vH 6 false oI u (gf (gs (gk 0))) u<|vJ 7 5 u u u u<|
  fun x7 b8 o7=>vH 8 true zMN u (gk 0) u<|fun p5 c5=>qG 9<|wL (.f u) (.agg #[vs [], vb false, vi 0, .slice none 0 0, vb false, vs []])<|fun b9=>zZ<|qG 10<|qU (o := 0) (.f u) 1 u u u<|zZ<|qS<|zD<|zG<|zB<|zA 1 u<|
  zC<|zQ<|zB<|zA 2 u<|zC<|zI u (yW (fun K=>K [(10, vb ((!x7.2.1) && (x1.2.2.2 == r1)))] [[], []] []) (zM<|zU 1 u<|zV 1 u u u<|zA 2 u<|vY (b := !x7.2.1) 64 u (fun hb3=>zA 1 u<|zJ (vb (x1.2.2.2 == r1))<|
  zA 1 u<|zF<|wN 10 (vb ((!x7.2.1) && (x1.2.2.2 == r1))) u (by rw [hb3]; rfl)<|zN (gv kk [900,901] d))<|fun hb3=>zA 1 u<|zJ (vb false)<|zA 1 u<|zF<|
  wN 10 (vb ((!x7.2.1) && (x1.2.2.2 == r1))) u (by rw [hb3]; rfl)<|zN (gv kk [900,901] d))<|fun _ k=>k<|zK<|qV<|qC<|zS u u kk [] d)<|zB<|zA 2 u<|zC<|zI u (wA (fun s2 K=>K [(10, vb s2)] [[], []] []) (
  yN [] [1] 15<|qQ 0 1 u u<|qZ 1 1 u u u u<|zX 11 [2,3] u<|wH 72 u (zX 9 [4,5] u<|vJ 6 9 u u u u<|fun x8 b10 o8=>qQ 7 3 u u<|vH 8 true yM u (gs (gs (gs (gk 0)))) u<|qQ 9 0 u u<|
  qZ 10 1 u u u u<|wC 11 (.agg #[vb true, vs x7.1]) u<|wC 12 (vb (x8.2.2.2 == (true, x7.1))) u<|wC 13 (vb (x8.2.2.2 == (true, x7.1))) u<|zX 0 [14] u<|qS<|zN (gv kk [900,901] d))<|
  zX 2 [4,5,6,7,8,9,10,11,12] u<|wC 13 (vb false) u<|zX 0 [14] u<|qS<|zN (gv kk [900,901] d))<|fun s2 _ k=>k<|zK<|qV<|qC<|zS u u kk [] d)<|zL<|qD<|zD<|zB<|zA 1 u<|zC<|zK<|
  zS u u kk [] d
theorem zOx {qd : Prop} {y0 : zT} {y1 : List zP} : qA qd prog 79 [.agg #[sv p1 y0.1 c1, sv p2 y0.2.1 c2, sv p3 y0.2.2 c3], sv p4 y1 c4] [] [Rl e_Premise p1 c1 y0.1, Rl e_Rule p2 c2 y0.2.1, Rl e_Promotion p3 c3 y0.2.2, Rl qR p4 c4 y1] (zHI y0 y1) fun r K=>∀ p5 c5,K (sv p5 r c5) [] [Rl vW p5 c5 r] :=
 qE call79 func79 u fun X=>zB<|qT .s u<|fun b1=>zA 1 u<|zC<|zB<|zA 1 u<|vD vW 123<|zC<|zG<|zB<|zA 1 u<|zC<|zQ<|
  qP (fun s1 K=>∀ p5 c5 r_1,K [(1, sv p4 y1 c4), (2, pt b1 0), (5, sv p5 s1.1 c5), (6, vi s1.2)] [bx b1 26 [sv p1 y0.1 c1, sv p2 y0.2.1 c2, sv p3 y0.2.2 c3], r_1] [Al vW 123 r_1 p5 c5 s1.1, Rl qR p4 c4 y1, Rl e_Premise p1 c1 y0.1, Rl e_Rule p2 c2 y0.2.1, Rl e_Promotion p3 c3 y0.2.2]) (gv (fun _ k=>k none 0 []) [0,1] ⟨gk 0,gk 4,gk 1,gk 2,gk 3,d⟩)<|
  fun s1 _ k p5 c5 r_1=>k<|zG<|zB<|zA 4 u<|zC<|zI u (zL<|zD<|zG<|zQ<|zB<|zA 1 u<|zC<|zQ<|
  qP (fun s2 K=>∀ p6 c6 r_2,K [(1, sv p4 y1 c4), (2, pt b1 0), (5, sv p6 s2.1 c6), (6, vi s1.2), (7, vi s2.2)] [bx b1 26 [sv p1 y0.1 c1, sv p2 y0.2.1 c2, sv p3 y0.2.2 c3], r_2] [Al vW 123 r_2 p6 c6 s2.1, Rl qR p4 c4 y1, Rl e_Premise p1 c1 y0.1, Rl e_Rule p2 c2 y0.2.1, Rl e_Promotion p3 c3 y0.2.2]) (gv (fun _ k=>k p5 c5 r_1) [0,1] ⟨gk 0,gk 1,gk 2,gk 3,gk 4,d⟩)<|
  fun s2 _ k p6 c6 r_2=>k<|zG<|zB<|zA 4 u<|zC<|zI u (zL<|zD<|zG<|zQ<|zB<|zA 2 u<|qI zL3 u ⟨ck 1,d⟩<|fun r1 _ k p7 c7=>k<|zA 2 u<|zC<|zQ<|
  qP (fun s3 K=>∀ p8 c8 r_3,K [(1, sv p4 y1 c4), (2, pt b1 0), (5, sv p8 s3.1 c8), (6, vi s1.2), (7, vi s2.2), (25, sv p7 r1 c7), (26, vi (len r1)), (27, vi s3.2)] [bx b1 26 [sv p1 y0.1 c1, sv p2 y0.2.1 c2, sv p3 y0.2.2 c3], r_3] [Al vW 123 r_3 p8 c8 s3.1, Rl qR p4 c4 y1, Rl (eInt .i64) p7 c7 r1, Rl e_Premise p1 c1 y0.1, Rl e_Rule p2 c2 y0.2.1, Rl e_Promotion p3 c3 y0.2.2]) (gv (fun _ k=>k p6 c6 r_2) [0,1] ⟨gk 1,gk 2,gk 0,gk 3,gk 4,gk 5,d⟩)<|
  fun s3 _ k p8 c8 r_3=>k<|zB<|zA 1 u<|zC<|zG<|zI u (zL<|zD<|zG<|zQ<|zB<|qX 2 u u u<|fun x1 b2 o1=>qW false oI (gk 0) u<|zA 1 u<|zC<|zB<|zA 1 u<|zC<|zQ<|
  qP (fun s4 K=>∀ p9 c9 r_4,K [(1, sv p4 y1 c4), (2, pt b1 0), (5, sv p9 s4.1 c9), (6, vi s1.2), (7, vi s2.2), (9, vi x1), (10, vi s4.2), (25, sv p7 r1 c7), (26, vi (len r1)), (27, vi s3.2)] [bx b1 26 [sv p1 y0.1 c1, sv p2 y0.2.1 c2, sv p3 y0.2.2 c3], r_4] [Al vW 123 r_4 p9 c9 s4.1, Rl qR p4 c4 y1, Rl (eInt .i64) p7 c7 r1, Rl e_Premise p1 c1 y0.1, Rl e_Rule p2 c2 y0.2.1, Rl e_Promotion p3 c3 y0.2.2]) (gv (fun _ k=>k p8 c8 r_3) [0,1] ⟨gk 1,gk 2,gk 3,gk 4,gk 5,gk 6,d⟩)<|
  fun s4 _ k p9 c9 r_4=>k<|zG<|zB<|zA 2 u<|zC<|zI u (zL<|zD<|zG<|zQ<|zB<|qK 0 3 u u u<|zA 4 u<|qI zOo u ⟨ck 3,ck 4,ck 5,ck 1,d⟩<|fun r2 _ k=>k<|zC<|zI u (zM<|zA 5 u<|
  zJ (.agg #[vi s1.2, vi s2.2, vi x1, vi s4.2])<|wV .s (e := vW) 123 [vi s1.2, vi s2.2, vi x1, vi s4.2] ([(s1.2, s2.2, x1, s4.2)] : List wB) (rC (vP vI (vP vI (vP vI vI))) rN)<|fun p10 c10=>wM .s 1 1 u (gk 0) u u<|
  fun x2 r_5 p11 c11=>zA 1 u<|zF<|qD<|zD<|zM<|zA 3 u<|zF<|qF (gv (fun _ k=>k p11 c11 r_5) [0,1] ⟨gk 0,gk 3,gk 4,gk 5,gk 6,gk 7,d⟩))<|zL<|qD<|zD<|zM<|zA 3 u<|zF<|
  qF (gv (fun _ k=>k p9 c9 r_4) [0,1] ⟨gk 0,gk 1,gk 2,gk 3,gk 4,gk 5,d⟩))<|qM<|qL<|qO<|qN<|qD<|zD<|zM<|zA 2 u<|zF<|qF (gv (fun _ k=>k p9 c9 r_4) [0,1] ⟨gk 0,gk 1,gk 2,gk 3,gk 4,gk 5,d⟩))<|qM<|qL<|qO<|qN<|qD<|zD<|zM<|
  zA 3 u<|zF<|qF (gv (fun _ k=>k p8 c8 r_3) [0,1] ⟨gk 0,gk 1,gk 3,gk 4,gk 5,d⟩))<|qM<|qL<|qO<|qN<|qD<|zD<|zM<|zA 3 u<|zF<|qF (gv (fun _ k=>k p6 c6 r_2) [0,1] ⟨gk 0,gk 1,gk 2,gk 3,gk 4,d⟩))<|qM<|qL<|qO<|qN<|zD<|zB<|
  zA 2 u<|zC<|zK<|wS 1 0 u u<|zS u u (fun _ k=>k p5 c5) [] ⟨gk 0,d⟩
theorem zLJ {qd : Prop} {y0 : zT} {y1 : List zP} {y2 : wQ} : qA qd prog 33 [.agg #[sv p1 y0.1 c1, sv p2 y0.2.1 c2, sv p3 y0.2.2 c3], sv p4 y1 c4, .agg #[vi y2.1, vi y2.2]] [] [Rl e_Premise p1 c1 y0.1, Rl e_Rule p2 c2 y0.2.1, Rl e_Promotion p3 c3 y0.2.2, Rl qR p4 c4 y1] (zFc y0 y1 y2) fun r K=>∀ p5 c5,K (sv p5 r c5) [] [Rl vW p5 c5 r] :=
 qE call33 func33 u fun X=>zB<|qT .s u<|fun b1=>qT .s u<|fun b2=>zA 1 u<|zC<|zB<|zA 1 u<|vD vW 123<|zC<|zB<|qK 0 3 u u u<|zA 1 u<|qI zOx u ⟨ck 1,ck 2,ck 3,ck 4,d⟩<|fun r1 _ k p5 c5=>k<|zA 1 u<|zC<|zG<|zB<|
  zA 1 u<|zC<|zQ<|
  qP (fun s1 K=>∀ p6 c6 r_1,K [(1, sv p4 y1 c4), (3, pt b1 0), (5, pt b2 0), (7, sv p6 s1.1 c6), (8, sv p5 r1 c5), (9, vi s1.2)] [bx b1 26 [sv p1 y0.1 c1, sv p2 y0.2.1 c2, sv p3 y0.2.2 c3], bx b2 28 [vi y2.1, vi y2.2], r_1] [Al vW 123 r_1 p6 c6 s1.1, Rl qR p4 c4 y1, Rl vW p5 c5 r1, Rl e_Premise p1 c1 y0.1, Rl e_Rule p2 c2 y0.2.1, Rl e_Promotion p3 c3 y0.2.2]) (gv (fun _ k=>k none 0 []) [0,1,2] ⟨gk 1,gk 5,gk 0,gk 2,gk 3,gk 4,d⟩)<|
  fun s1 _ k p6 c6 r_1=>k<|zG<|zB<|zA 4 u<|zC<|zI u (zL<|zD<|zG<|zQ<|
  wA (fun s2 K=>K [(1, sv p4 y1 c4), (3, pt b1 0), (5, pt b2 0), (7, sv p6 s1.1 c6), (8, sv p5 r1 c5), (9, vi s1.2), (41, vb s2)] [bx b1 26 [sv p1 y0.1 c1, sv p2 y0.2.1 c2, sv p3 y0.2.2 c3], bx b2 28 [vi y2.1, vi y2.2], r_1] [Rl qR p4 c4 y1, Al vW 123 r_1 p6 c6 s1.1, Rl vW p5 c5 r1, Rl e_Premise p1 c1 y0.1, Rl e_Rule p2 c2 y0.2.1, Rl e_Promotion p3 c3 y0.2.2]) (
  yN [] [0, 1] 23<|zX 21 [0,1] u<|vJ 2 2 u u u u<|fun x1 b3 o1=>qQ 3 3 u u<|vH 4 false oI u (gs (gs (gs (gk 0)))) u<|zX 16 [5,6] u<|wH 25 u (zX 1 [7,8,9,10,11,12,13,14,15,16,17,18,19,20,21] u<|
  wC 22 (vb true) u<|qS<|zN (gv kk [0,1,2] ⟨gk 2,gk 1,gk 3,gk 4,gk 5,gk 6,d⟩))<|vM 7 0 3 u u u u<|zX 12 [8,9,10] u<|vJ 11 3 u u u u<|fun x2 b4 o2=>qQ 12 0 u u<|vH 13 false oI u (gf (gk 0)) u<|
  zX 7 [14,15] u<|vJ 16 4 u u u u<|fun x3 b5 o3=>qQ 17 2 u u<|vH 18 false oI u (gf (gs (gs (gk 0)))) u<|vM 19 1 2 u u u u<|qG 20<|qH (.f u) [] [] zSA u u u ⟨ck 6,ck 7,ck 8,ck 4,d⟩<|
  fun r2 _ k=>k<|zZ<|zX 1 [21] u<|wC 22 (vb (!r2)) u<|qS<|zN (gv kk [0,1,2] ⟨gk 4,gk 3,gk 5,gk 6,gk 7,gk 8,d⟩))<|fun s2 _ k=>k<|zI u (zM<|zA 3 u<|qX 2 u u u<|fun x4 b6 o4=>qW true zO5 (gk 0) u<|
  wV .s (e := vW) 123 [vi x4.1, vi x4.2.1, vi x4.2.2.1, vi x4.2.2.2] ([x4] : List wB) (rC (vP vI (vP vI (vP vI vI))) rN)<|fun p7 c7=>wM .s 2 3 u (gk 0) u u<|fun x5 r_2 p8 c8=>zA 1 u<|zF<|qD<|zD<|zM<|zA 3 u<|zF<|
  qF (gv (fun _ k=>k p8 c8 r_2) [0,1,2] ⟨gk 0,gk 3,gk 5,gk 6,gk 7,gk 8,d⟩))<|zL<|qD<|zD<|zM<|zA 3 u<|zF<|qF (gv (fun _ k=>k p6 c6 r_1) [0,1,2] ⟨gk 1,gk 0,gk 2,gk 3,gk 4,gk 5,d⟩))<|qM<|qL<|qO<|qN<|zD<|zB<|zA 2 u<|zC<|
  zK<|wS 2 0 u u<|zS u u (fun _ k=>k p6 c6) [] ⟨gk 0,d⟩
theorem zNM {qd : Prop} {y0 : Int} {y1 : List wB} : qA qd prog 32 [vi y0, sv p1 y1 c1] [] [Rl vW p1 c1 y1] (zHB y0 y1) fun r K=>∀ p2 c2,K (.tuple #[.agg #[vi r.1.1, sv p2 r.1.2 c2], vi r.2]) [] [Rl wF p2 c2 r.1.2] :=
 qE call32 func32 u fun X=>zB<|wL .s (.agg #[vi 0, .slice none 0 0])<|fun b1=>zA 1 u<|zC<|zG<|
  yW (fun K=>K [(0, vi y0), (1, sv p1 y1 c1), (4, pt b1 0), (17, vb ((decide (y0 < 0)) || (decide (40 < y0))))] [bx b1 50 [vi 0, .slice none 0 0]] [Rl vW p1 c1 y1]) (zM<|zA 3 u<|vY (b := decide (y0 < 0)) 14 u (fun hb1=>
  zA 2 u<|zJ (vb true)<|zF<|wN 17 (vb ((decide (y0 < 0)) || (decide (40 < y0)))) u (by rw [hb1]; rfl)<|zN (gv kk [0] ⟨gk 0,d⟩))<|fun hb1=>zA 2 u<|zJ (vb (decide (40 < y0)))<|zF<|
  wN 17 (vb ((decide (y0 < 0)) || (decide (40 < y0)))) u (by rw [hb1]; rfl)<|zN (gv kk [0] ⟨gk 0,d⟩))<|fun _ k=>k<|zI u (zB<|zJ (.agg #[vi 0, .slice none 0 0])<|qU .s 0 u u u<|zA 1 u<|zC<|zK<|qC<|
  wR u (lC 0 (.agg #[vi 0, .slice none 0 0]) u u (lT u lN)) (fun _ k=>k none 0) [] ⟨gn,d⟩)<|zL<|zD<|jjo (fun s1 K=>K [(0, vi y0), (1, sv p1 y1 c1), (4, pt b1 0)] [bx b1 50 [vi 0, .slice none 0 0]] [Rl vW p1 c1 y1]) (zB<|
  zA 1 u<|zC<|zQ<|qP (fun s2 K=>K [(0, vi y0), (1, sv p1 y1 c1), (4, pt b1 0), (6, vi s2)] [bx b1 50 [vi 0, .slice none 0 0]] [Rl vW p1 c1 y1]) (gv kk [0] ⟨gk 0,d⟩)<|fun s2 _ k=>k<|zG<|zB<|zA 4 u<|zC<|zI u (
  zL<|zD<|zG<|zQ<|wA (fun s3 K=>K [(0, vi y0), (1, sv p1 y1 c1), (4, pt b1 0), (6, vi s2), (56, vb s3)] [bx b1 50 [vi 0, .slice none 0 0]] [Rl vW p1 c1 y1]) (zM<|zA 2 u<|qX 0 u u u<|fun x1 b2 o1=>zU 0 u<|
  qW false oI (gf (gk 0)) u<|zA 2 u<|wH 31 u (zA 7 u<|zJ (vb true)<|zA 7 u<|zJ (vb true)<|zA 8 u<|zJ (vb true)<|zF<|zN (gv kk [0] ⟨gk 1,d⟩))<|zA 2 u<|qX 1 u u u<|fun x2 b3 o2=>zU 0 u<|
  qW false oI (gf (gk 0)) u<|zA 2 u<|zJ (vb (decide (y0 ≤ x2.1)))<|zA 1 u<|wH 40 u (zA 6 u<|zJ (vb true)<|zA 8 u<|zJ (vb true)<|zF<|zN (gv kk [0] ⟨gk 2,d⟩))<|zA 2 u<|qX 2 u u u<|fun x3 b4 o3=>
  zU 1 u<|qW false oI (gf (gs (gk 0))) u<|zA 1 u<|zJ (vb (decide (x3.2.1 < 0)))<|zA 1 u<|wH 48 u (zA 7 u<|zJ (vb true)<|zF<|zN (gv kk [0] ⟨gk 3,d⟩))<|zA 2 u<|qX 3 u u u<|fun x4 b5 o4=>zU 1 u<|
  qW false oI (gf (gs (gk 0))) u<|zA 2 u<|zJ (vb (decide (y0 ≤ x4.2.1)))<|zF<|zN (gv kk [0] ⟨gk 4,d⟩))<|fun s3 _ k=>k<|zI u (zB<|zJ (.agg #[vi 0, .slice none 0 0])<|qU .s 0 u u u<|zA 1 u<|zC<|zK<|qV<|
  qC<|wX<|qV<|wX<|wR u (lC 0 (.agg #[vi 0, .slice none 0 0]) u u (lT u lN)) (fun _ k=>k none 0) [] ⟨gn,d⟩)<|zL<|qD<|zD<|zM<|zA 3 u<|zF<|qF (gv kk [0] ⟨gk 0,d⟩))<|qM<|qL<|qO<|qN<|
  qF (gv kk [0] ⟨gk 0,d⟩))<|fun s1 _ k=>k<|zB<|zA 1 u<|zJ (.agg #[vi y0, .slice none 0 0])<|vD wF 58<|wL .s (.agg #[vi 0, .slice none 0 0])<|fun b6=>qU .s 2 u u u<|zC<|
  wA (fun s4 K=>∀ p2 c2 r_1,K [(4, pt b1 0), (7, pt b6 0)] [bx b1 50 [vi 0, .slice none 0 0], r_1, bx b6 50 [vi y0, sv p2 s4 c2]] [Al wF 58 r_1 p2 c2 s4]) (zB<|zA 1 u<|zC<|zQ<|
  qP (fun s5 K=>∀ p3 c3 r_2,K [(0, vi y0), (1, sv p1 y1 c1), (4, pt b1 0), (7, pt b6 0), (8, vi s5.1)] [bx b1 50 [vi 0, .slice none 0 0], r_2, bx b6 50 [vi y0, sv p3 s5.2 c3]] [Al wF 58 r_2 p3 c3 s5.2, Rl vW p1 c1 y1]) (gv (fun _ k=>k none 0 []) [0,1,2] ⟨gk 0,gk 1,d⟩)<|
  fun s5 _ k p3 c3 r_2=>k<|zG<|zB<|zA 3 u<|zC<|zI u (zL<|zD<|zG<|zQ<|zB<|zA 1 u<|zC<|zQ<|
  qP (fun s6 K=>∀ p4 c4 r_3,K [(0, vi y0), (1, sv p1 y1 c1), (4, pt b1 0), (7, pt b6 0), (8, vi s5.1), (9, vi s6.1)] [bx b1 50 [vi 0, .slice none 0 0], r_3, bx b6 50 [vi y0, sv p4 s6.2 c4]] [Al wF 58 r_3 p4 c4 s6.2, Rl vW p1 c1 y1]) (gv (fun _ k=>k p3 c3 r_2) [0,1,2] ⟨gk 0,gk 1,d⟩)<|
  fun s6 _ k p4 c4 r_3=>k<|zG<|zB<|zA 3 u<|zC<|zI u (zL<|zD<|zG<|zQ<|zB<|zA 1 u<|zC<|
  wA (fun s7 K=>K [(0, vi y0), (1, sv p1 y1 c1), (4, pt b1 0), (7, pt b6 0), (8, vi s5.1), (9, vi s6.1), (10, vb s7)] [bx b1 50 [vi 0, .slice none 0 0], r_3, bx b6 50 [vi y0, sv p4 s6.2 c4]] [Rl vW p1 c1 y1, Al wF 58 r_3 p4 c4 s6.2]) (
  zB<|zA 1 u<|zC<|zQ<|
  qP (fun s8 K=>K [(0, vi y0), (1, sv p1 y1 c1), (4, pt b1 0), (7, pt b6 0), (8, vi s5.1), (9, vi s6.1), (10, vb s8.1), (11, vi s8.2)] [bx b1 50 [vi 0, .slice none 0 0], r_3, bx b6 50 [vi y0, sv p4 s6.2 c4]] [Rl vW p1 c1 y1, Al wF 58 r_3 p4 c4 s6.2]) (gv kk [0,1,2] ⟨gk 1,gk 0,d⟩)<|
  fun s8 _ k=>k<|zG<|zB<|zA 4 u<|zC<|zI u (zL<|zD<|zG<|zQ<|
  jjc (fun s9 K=>K [(0, vi y0), (1, sv p1 y1 c1), (4, pt b1 0), (7, pt b6 0), (8, vi s5.1), (9, vi s6.1), (10, vb s9), (11, vi s8.2)] [bx b1 50 [vi 0, .slice none 0 0], r_3, bx b6 50 [vi y0, sv p4 s6.2 c4]] [Rl vW p1 c1 y1, Al wF 58 r_3 p4 c4 s6.2]) (
  zM<|zA 2 u<|wH 77 u (zA 16 u<|zJ (vb true)<|zA 1 u<|zF<|zN (gv kk [0,1,2] ⟨gk 0,gk 1,d⟩))<|zA 2 u<|qX 0 u u u<|fun x5 b7 o5=>zU 0 u<|qW false oI (gf (gk 0)) u<|zA 3 u<|wH 85 u (zA 2 u<|
  qX 1 u u u<|fun x6 b8 o6=>zU 1 u<|qW false oI (gf (gs (gk 0))) u<|zA 2 u<|zJ (vb (x6.2.1 == s6.1))<|zJ (vb (x6.2.1 == s6.1))<|zA 1 u<|zF<|zN (gv kk [0,1,2] ⟨gk 2,gk 3,d⟩))<|zA 7 u<|zJ (vb false)<|
  zJ (vb false)<|zA 1 u<|zF<|zN (gv kk [0,1,2] ⟨gk 1,gk 2,d⟩))<|fun s9 _ k=>k<|qD<|zD<|zM<|zA 3 u<|zF<|qF (gv kk [0,1,2] ⟨gk 0,gk 1,d⟩))<|qM<|qL<|qO<|qN<|zN (gv kk [0,1,2] ⟨gk 0,gk 1,d⟩))<|
  fun s7 _ k=>k<|zB<|zA 1 u<|zC<|zI u (zM<|zU 1 u<|zV 2 u u u<|zA 2 u<|zJ (.agg #[vi s5.1, vi s6.1])<|wV .s (e := wF) 58 [vi s5.1, vi s6.1] ([(s5.1, s6.1)] : List wI) (rC (vP vI vI) rN)<|fun p5 c5=>
  wM .s 1 2 u (gk 0) u u<|fun x7 r_4 p6 c6=>zU 1 u<|qU .s 2 u u u<|zF<|qD<|zD<|zM<|zA 3 u<|zF<|qF (gv (fun _ k=>k p6 c6 r_4) [0,1,2] ⟨gk 0,gk 2,d⟩))<|zL<|qD<|zD<|zM<|zA 3 u<|zF<|
  qF (gv (fun _ k=>k p4 c4 r_3) [0,1,2] ⟨gk 1,gk 0,d⟩))<|qM<|qL<|qO<|qN<|qD<|zD<|zM<|zA 3 u<|zF<|qF (gv (fun _ k=>k p4 c4 r_3) [0,1,2] ⟨gk 0,gk 1,d⟩))<|qM<|qL<|qO<|qN<|zN (gv (fun _ k=>k p3 c3 r_2) [0,1,2] ⟨gk 0,d⟩))<|
  fun s4 _ k p2 c2 r_1=>k<|zB<|qK 2 2 u u u<|qU .s 0 u u u<|zA 1 u<|zC<|zK<|wS 1 0 u u<|wR u (lC 0 (.agg #[vi y0, sv p2 s4 c2]) u u (lT u lN)) (fun _ k=>k p2 c2) [] ⟨gk 0,d⟩
theorem zRa {qd : Prop} {y0 : List Int} {y1 : Int} : qA qd prog 35 [sv p1 y0 c1, vi y1] [] [Rl (eInt .i64) p1 c1 y0] (zLa y0 y1) fun r K=>∀ p2 c2,K (sv p2 r c2) [] [Rl (eInt .i64) p2 c2 r] :=
 qE call35 func35 u fun X=>zB<|zA 1 u<|zC<|zB<|zA 1 u<|vD (eInt .i64) 3<|zC<|zG<|zB<|zA 1 u<|zC<|zQ<|
  qP (fun s1 K=>∀ p2 c2 r_1,K [(0, sv p1 y0 c1), (1, vi y1), (5, sv p2 s1.1 c2), (6, vi s1.2)] [r_1] [Al (eInt .i64) 3 r_1 p2 c2 s1.1, Rl (eInt .i64) p1 c1 y0]) (gv (fun _ k=>k none 0 []) [0] ⟨gk 0,gk 1,d⟩)<|fun s1 _ k p2 c2 r_1=>k<|zG<|
  zB<|zA 4 u<|zC<|zI u (zL<|zD<|zG<|zQ<|zB<|zA 2 u<|qX 1 u u u<|fun x1 b1 o1=>qW false oI (gk 0) u<|zA 2 u<|zC<|zI u (zM<|zA 2 u<|wV .s (e := eInt .i64) 3 [vi s1.2] ([s1.2] : List Int) (rC vI rN)<|
  fun p3 c3=>wM .s 0 2 u (gk 0) u u<|fun x2 r_2 p4 c4=>zA 1 u<|zF<|qD<|zD<|zM<|zA 3 u<|zF<|qF (gv (fun _ k=>k p4 c4 r_2) [0] ⟨gk 0,gk 4,d⟩))<|zL<|qD<|zD<|zM<|zA 3 u<|zF<|
  qF (gv (fun _ k=>k p2 c2 r_1) [0] ⟨gk 1,gk 2,d⟩))<|qM<|qL<|qO<|qN<|zD<|zB<|zA 2 u<|zC<|zK<|wS 0 0 u u<|zS u u (fun _ k=>k p2 c2) [] ⟨gk 0,d⟩
theorem zOM {qd : Prop} {y0 : wO} : qA qd prog 236 [.agg #[vi y0.1, sv p1 y0.2 c1]] [] [Rl wF p1 c1 y0.2] (zCp y0) fun r K=>K (vi r) [] [] :=
 qE call236 func236 u fun X=>zB<|qT .s u<|fun b1=>zA 1 u<|zC<|zG<|yW (fun K=>K [(1, pt b1 0), (12, vb ((decide (y0.1 < 0)) || (decide (40 < y0.1))))] [bx b1 50 [vi y0.1, sv p1 y0.2 c1]] [Rl wF p1 c1 y0.2]) (zM<|zU 0 u<|zV 0 u u u<|zA 2 u<|
  vY (b := decide (y0.1 < 0)) 8 u (fun hb1=>zA 3 u<|zJ (vb true)<|zF<|wN 12 (vb ((decide (y0.1 < 0)) || (decide (40 < y0.1)))) u (by rw [hb1]; rfl)<|zN (gv kk [0] ⟨gk 0,d⟩))<|fun hb1=>zU 0 u<|zV 0 u u u<|
  zA 1 u<|zJ (vb (decide (40 < y0.1)))<|zF<|wN 12 (vb ((decide (y0.1 < 0)) || (decide (40 < y0.1)))) u (by rw [hb1]; rfl)<|zN (gv kk [0] ⟨gk 0,d⟩))<|fun _ k=>k<|zI u (zB<|zA 1 u<|zC<|zK<|qC<|
  zS u u kk [] d)<|zL<|zD<|zG<|zB<|zA 1 u<|zC<|zQ<|qP (fun s1 K=>K [(1, pt b1 0), (3, vi s1)] [bx b1 50 [vi y0.1, sv p1 y0.2 c1]] [Rl wF p1 c1 y0.2]) (gv kk [0] ⟨gk 0,d⟩)<|fun s1 _ k=>k<|zG<|zB<|
  zA 1 u<|zU 1 u<|zV 0 u u u<|zA 2 u<|zC<|zI u (zL<|zD<|zG<|zQ<|zB<|zU 1 u<|zV 0 u u u<|zA 1 u<|qX 0 u u u<|fun x1 b2 o1=>qW true zL6 (gk 0) u<|wL .s (.agg #[vi 0, vi 0])<|fun b3=>
  qU .s 1 u u u<|zC<|zG<|
  yW (fun K=>K [(1, pt b1 0), (3, vi s1), (4, pt b3 0), (46, vb ((decide (x1.1 < 0)) || ((decide (y0.1 ≤ x1.1)) || ((decide (x1.2 < 0)) || (decide (y0.1 ≤ x1.2))))))] [bx b1 50 [vi y0.1, sv p1 y0.2 c1], bx b3 58 [vi x1.1, vi x1.2]] [Rl wF p1 c1 y0.2]) (
  zM<|zU 0 u<|zV 1 u u u<|zA 2 u<|vY (b := decide (x1.1 < 0)) 28 u (fun hb2=>zA 5 u<|zJ (vb true)<|zA 4 u<|zJ (vb true)<|zA 6 u<|zJ (vb true)<|zF<|
  wN 46 (vb ((decide (x1.1 < 0)) || ((decide (y0.1 ≤ x1.1)) || ((decide (x1.2 < 0)) || (decide (y0.1 ≤ x1.2)))))) u (by rw [hb2]; rfl)<|zN (gv kk [0,1] ⟨gk 1,d⟩))<|fun hb2=>zU 0 u<|zV 1 u u u<|zU 0 u<|
  zV 0 u u u<|zA 1 u<|zJ (vb (decide (y0.1 ≤ x1.1)))<|zA 1 u<|vY (b := decide (y0.1 ≤ x1.1)) 35 u (fun hb3=>zA 3 u<|zJ (vb true)<|zA 6 u<|zJ (vb true)<|zF<|
  wN 46 (vb ((decide (x1.1 < 0)) || ((decide (y0.1 ≤ x1.1)) || ((decide (x1.2 < 0)) || (decide (y0.1 ≤ x1.2)))))) u (by rw [hb2,hb3]; rfl)<|zN (gv kk [0,1] ⟨gk 1,d⟩))<|fun hb3=>zU 1 u<|zV 1 u u u<|zA 1 u<|
  zJ (vb (decide (x1.2 < 0)))<|zA 1 u<|vY (b := decide (x1.2 < 0)) 40 u (fun hb4=>zA 5 u<|zJ (vb true)<|zF<|
  wN 46 (vb ((decide (x1.1 < 0)) || ((decide (y0.1 ≤ x1.1)) || ((decide (x1.2 < 0)) || (decide (y0.1 ≤ x1.2)))))) u (by rw [hb2,hb3,hb4]; rfl)<|zN (gv kk [0,1] ⟨gk 1,d⟩))<|fun hb4=>zU 1 u<|zV 1 u u u<|zU 0 u<|
  zV 0 u u u<|zA 1 u<|zJ (vb (decide (y0.1 ≤ x1.2)))<|zF<|wN 46 (vb ((decide (x1.1 < 0)) || ((decide (y0.1 ≤ x1.1)) || ((decide (x1.2 < 0)) || (decide (y0.1 ≤ x1.2)))))) u (by rw [hb2,hb3,hb4]; rfl)<|
  zN (gv kk [0,1] ⟨gk 1,d⟩))<|fun _ k=>k<|zI u (zB<|zA 1 u<|zC<|zK<|qC<|qV<|qC<|wX<|qV<|qC<|zS u u kk [] d)<|zL<|zD<|
  wA (fun s2 K=>K [(1, pt b1 0), (3, vi s1), (84, vb s2)] [bx b1 50 [vi y0.1, sv p1 y0.2 c1], []] [Rl wF p1 c1 y0.2]) (yN [] [0, 1] 38<|zX 35 [0,1,2] u<|wH 49 u (qQ 3 1 u u<|qZ 4 0 u u u u<|zX 31 [5,6] u<|
  vJ 7 0 u u u u<|fun x2 b4 o2=>qQ 8 0 u u<|vH 9 false oI u (gf (gk 0)) u<|qQ 10 0 u u<|qZ 11 1 u u u u<|zX 24 [12,13] u<|wH 60 u (
  zX 2 [14,15,16,17,18,19,20,21,22,23,24,25,26,27,28,29,30,31,32,33,34,35] u<|wC 36 (vb true) u<|wC 37 (vb true) u<|qS<|zN (gv kk [0,901] ⟨gk 1,d⟩))<|qQ 14 1 u u<|qZ 15 0 u u u u<|zX 20 [16,17] u<|
  vJ 18 1 u u u u<|fun x3 b5 o3=>qQ 19 0 u u<|vH 20 false oI u (gf (gk 0)) u<|qQ 21 0 u u<|qZ 22 1 u u u u<|zX 13 [23,24] u<|wH 71 u (qQ 25 1 u u<|qZ 26 0 u u u u<|zX 9 [27,28] u<|
  vJ 29 2 u u u u<|fun x4 b6 o4=>qQ 30 1 u u<|vH 31 false oI u (gs (gk 0)) u<|qQ 32 1 u u<|qZ 33 1 u u u u<|zX 3 [34] u<|wC 35 (vb (decide (x1.2 ≤ x4.2))) u<|wC 36 (vb (decide (x1.2 ≤ x4.2))) u<|
  wC 37 (vb (decide (x1.2 ≤ x4.2))) u<|qS<|zN (gv kk [0,901] ⟨gk 3,d⟩))<|zX 3 [25,26,27,28,29,30,31,32,33,34] u<|wC 35 (vb false) u<|wC 36 (vb false) u<|wC 37 (vb false) u<|qS<|
  zN (gv kk [0,901] ⟨gk 2,d⟩))<|zX 1 [3,4,5,6,7,8,9,10,11,12,13,14,15,16,17,18,19,20,21,22,23,24,25,26,27,28,29,30,31,32,33,34,35,36] u<|wC 37 (vb false) u<|qS<|zN (gv kk [0,901] ⟨gk 0,d⟩))<|fun s2 _ k=>k<|
  zI u (zB<|zA 1 u<|zC<|zK<|qV<|qC<|wX<|qV<|qC<|zS u u kk [] d)<|zL<|qD<|zD<|zM<|zA 3 u<|zF<|qF (gv kk [0] ⟨gk 0,d⟩))<|qM<|qL<|qO<|qN<|zD<|zB<|zA 1 u<|zC<|zK<|
  zS u u kk [] d
end Go.Proofs.YtkjadnjfmdgngaaGreatDoor
