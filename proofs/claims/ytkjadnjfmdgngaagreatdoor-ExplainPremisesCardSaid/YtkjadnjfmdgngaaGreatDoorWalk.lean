/- Part of the proof. Conditions: none. -/
import Derived.Test.YtkjadnjfmdgngaaGreatDoorWalk1
namespace Go.Proofs.YtkjadnjfmdgngaaGreatDoor
open Go Go.GD Tryz
set_option autoImplicit false
set_option linter.unusedVariables false
set_option maxRecDepth 100000
variable {p1 p2 p3 p4 p5 p6 p7 p8 p9 : Option Addr} {c1 c2 c3 c4 c5 c6 c7 c8 c9 : Nat} {b1 b2 b3 b4 b5 b6 b7 b8 b9 b10 b11 : Nat} {r_1 r_2 r_3 : zZ}
theorem zMR {qd : Prop} {y0 : List Int} {y1 : Int} {y2 : yK} {y3 : List Int} : qG qd prog 51 [sv p1 y0 c1, pt b1 0, pt b2 0, pt b3 0] [bx b1 3 [vi y1], bx b2 101 [.int .u64 y2.1, sv p2 y2.2.1 c2, sv p3 y2.2.2 c3], bx b3 99 [sv p4 y3 c4], r_1] [Rl (zF .i64) p1 c1 y0, Rl (zF .u64) p2 c2 y2.2.1, Rl (zF .u64) p3 c3 y2.2.2, Al (zF .u64) 98 r_1 p4 c4 y3, Pt (yS 64 (zF .u8)) 0 0 yQ] (zDb y0 y1 y2 y3) fun r K=>∀ p5 c5 r_2,K (.tuple #[]) [bx b1 3 [vi y1], bx b2 101 [.int .u64 y2.1, sv p2 y2.2.1 c2, sv p3 y2.2.2 c3], bx b3 99 [sv p5 r c5], r_2] [Al (zF .u64) 98 r_2 p5 c5 r] :=
 qB call51 func51 u fun X=>zB<|zA 1 u<|qH zOO u (cq [0])<|fun r1 _ k=>k<|zA 1 u<|zC<|wF (fun s1 K=>K [3,5] [] [1,2,3,4] [(15, vb s1)] []) (qJ<|zA 1 u<|zT 0 u u u<|qH zGE u ⟨⟩<|fun r2 _ k=>k<|zA 1 u<|wG 11 u (
  qR 1 3 u u u<|zA 1 u<|qH zGt u (cq [1,2,4])<|fun r3 _ k=>k<|zI (vb r3)<|zU<|zK (gv (fun _ k=>k) [0,1,2,3] (gq [1,2,3,4])))<|zA 3 u<|zI (vb false)<|zU<|zK (gv (fun _ k=>k) [0,1,2,3] (gq [1,2,3,4]))
  )<|fun s1 _ k=>k<|zH u (qJ<|zT 2 u u u<|zA 1 u<|vC .s (e := zF .u64) 98 [.int .u64 r1] ([r1] : List Int) (rC vI rN)<|fun p5 c5=>wP .s 3 3 u (gk 0) u u<|fun x1 r_2 p6 c6=>qS .s 2 u u u<|zU<|jrn<|
  wZ u lN (fun _ k=>k p6 c6 r_2) [0,1,2,3] (gq [0]))<|wC<|jrn<|wZ u lN (fun _ k=>k p4 c4 r_1) [0,1,2,3] (gq [2])
theorem zH4 {qd : Prop} {y0 : List Int} {y1 : Int} {y2 : yK} {y3 : List Int} : qG qd prog 50 [sv p1 y0 c1, .func (.func 51) #[] #[pt b1 0, pt b2 0, pt b3 0]] [bx b1 3 [vi y1], bx b2 101 [.int .u64 y2.1, sv p2 y2.2.1 c2, sv p3 y2.2.2 c3], bx b3 99 [sv p4 y3 c4], r_1] [Rl (zF .i64) p1 c1 y0, Rl (zF .u64) p2 c2 y2.2.1, Rl (zF .u64) p3 c3 y2.2.2, Al (zF .u64) 98 r_1 p4 c4 y3, Pt (yS 64 (zF .u8)) 0 0 yQ] (zAf y0 y1 y2 y3) fun r K=>∀ p5 c5 r_2,K (.tuple #[]) [bx b1 3 [vi y1], bx b2 101 [.int .u64 y2.1, sv p2 y2.2.1 c2, sv p3 y2.2.2 c3], bx b3 99 [sv p5 r c5], r_2] [Al (zF .u64) 98 r_2 p5 c5 r] :=
 qB call50 func50 u fun X=>zB<|zA 2 u<|tA fun x1 h1=>jv (fun h=>zS1 h u u h1)<|zA 1 u<|zC<|zO<|
  qO (fun s1 K=>∀ p5 c5 r_2,K [0,1,10] [(2, bx b3 99 [sv p5 s1.2 c5]), (3, r_2)] [0,1,2,4] [(11, vi s1.1)] [Al (zF .u64) 98 r_2 p5 c5 s1.2]) (gv (fun _ k=>k p4 c4 r_1) [0,1,2,3] (gq [3,0,1,2,4]))<|fun s1 _ k p5 c5 r_2=>k<|jA 1 u<|zD<|
  zH u (jC<|zD<|zO<|jA 2 u<|zB<|zA 1 u<|vK (zF .i64) 3<|zC<|wF (fun s2 K=>∀ p6 c6 r_3,K [0,1,10,11] [(4, r_3)] [2,3,4,1,5] [(5, sv p6 s2 c6)] [Al (zF .i64) 3 r_3 p6 c6 s2]) (jA 3 u<|zO<|
  qO (fun s3 K=>∀ p7 c7 r_4,K [0,1,4,10,11,14,15] [(4, r_4)] [2,3,4,1,5] [(5, sv p7 s3.1 c7), (16, vi s3.2)] [Al (zF .i64) 3 r_4 p7 c7 s3.1]) (gv (fun _ k=>k none 0 []) [0,1,2,3,4] (gq [0,2,3,4,1,5]))<|fun s3 _ k p7 c7 r_4=>k<|jA 1 u<|
  zD<|zH u (jC<|zD<|zO<|zB<|zA 1 u<|qW 1 u u u<|fun x2 b4 o1=>qV false oI (gk 0) u<|zA 2 u<|zC<|zB<|zA 2 u<|tA fun x3 h2=>jv (fun h=>zUD h u u h2)<|zA 2 u<|zC<|zH u (qJ<|zA 2 u<|
  vC .s (e := zF .i64) 3 [vi x2] ([x2] : List Int) (rC vI rN)<|fun p8 c8=>wP .s 4 2 u (gk 0) u u<|fun x4 r_5 p9 c9=>zA 1 u<|zU<|qC<|zN<|jB 2 u<|qD (gv (fun _ k=>k p9 c9 r_5) [0,1,2,3,4] (gq [0,4,5,6,7,8])))<|wC<|qC<|zN<|
  jB 2 u<|qD (gv (fun _ k=>k p7 c7 r_4) [0,1,2,3,4] (gq [1,2,3,4,5,6])))<|qM<|qK<|qP<|qL<|zK (gv (fun _ k=>k p7 c7 r_4) [0,1,2,3,4] (gq [0,1,2,3,4,5])))<|fun s2 _ k p6 c6 r_3=>k<|qJ<|zA 2 u<|wX 4 0 u u<|
  qF .s [0, 1, 2, 3] [] zMR u u u (cq [0,3,4,5,6])<|fun r1 _ k p10 c10 r_6=>k<|zU<|qC<|zN<|jB 2 u<|qD (gv (fun _ k=>k p10 c10 r_6) [0,1,2,3] (gq [0,3,4,5,7])))<|qM<|qK<|qP<|qL<|jrn<|
  wZ u lN (fun _ k=>k p5 c5 r_2) [0,1,2,3] (gq [0])
theorem zMu {qd : Prop} {y0 : wT} : qG qd prog 42 [.agg #[vi y0.1, sv p1 y0.2 c1]] [] [Rl vZ p1 c1 y0.2] (zHH y0) fun r K=>∀ p2 c2 p3 c3,K (.agg #[.int .u64 r.1, sv p2 r.2.1 c2, sv p3 r.2.2 c3]) [] [Rl (zF .u64) p2 c2 r.2.1, Rl (zF .u64) p3 c3 r.2.2] :=
 qB call42 func42 u fun X=>zB<|qU .s u<|fun b1=>wM .s (.agg #[.int .u64 0, .slice none 0 0, .slice none 0 0])<|fun b2=>zC<|
  wF (fun s1 K=>∀ b3 p2 c2 r_1 p3 c3 r_2,K [1,2] [(2, bx b3 101 [.int .u64 s1.1, sv p2 s1.2.1 c2, sv p3 s1.2.2 c3]), (3, r_1), (4, r_2)] [0] [(3, pt b3 0)] [Al (zF .u64) 98 r_1 p2 c2 s1.2.1, Al (zF .u64) 98 r_2 p3 c3 s1.2.2]) (
  yU [] [0] 9<|qN 0 0 u u<|qY 1 0 u u u u<|qN 3 0 u u<|qY 4 0 u u u u<|jd3 2 5 7 (xG (.f u) (e := zF .u64) 98 (0 : Int) (.int .u64 0) vI u u<|fun x1 r_3 p4 c4=>zY<|xU 5 7 (
  xG (.f u) (e := zF .u64) 98 (0 : Int) (.int .u64 0) vI u u<|fun x2 r_4 p5 c5=>zY<|wB 6 (.agg #[.int .u64 0, sv p4 x1 c4, sv p5 x2 c5]) u<|qE 7<|wM (.f u) (.agg #[.int .u64 0, .slice none 0 0, .slice none 0 0])<|fun b4=>
  zY<|qE 8<|qS (o := 0) (.f u) 4 u u u<|zY<|qQ<|zK (gv (fun _ k=>k b4 p4 c4 r_3 p5 c5 r_4) [0,1,4,2,3] (gq [1,0,2]))) <|wM (.f u) (.agg #[.int .u64 0, .slice none 0 0, .slice none 0 0])<|fun b5=>zY<|qE 5<|
  xG (.f u) (e := zF .u64) 98 (0 : Int) (.int .u64 0) vI u u<|fun x3 r_5 p6 c6=>zY<|wB 6 (.agg #[.int .u64 0, sv p4 x1 c4, sv p6 x3 c6]) u<|qE 8<|qS (o := 0) (.f u) 3 u u u<|zY<|qQ<|
  zK (gv (fun _ k=>k b5 p4 c4 r_3 p6 c6 r_5) [0,1,3,2,4] (gq [1,0,2]))) (jcm<|xG (.f u) (e := zF .u64) 98 (0 : Int) (.int .u64 0) vI u u<|fun x4 r_6 p7 c7=>zY<|xU 2 7 (
  xG (.f u) (e := zF .u64) 98 (0 : Int) (.int .u64 0) vI u u<|fun x5 r_7 p8 c8=>zY<|wB 6 (.agg #[.int .u64 0, sv p8 x5 c8, sv p7 x4 c7]) u<|qE 7<|wM (.f u) (.agg #[.int .u64 0, .slice none 0 0, .slice none 0 0])<|fun b6=>
  zY<|qE 8<|qS (o := 0) (.f u) 4 u u u<|zY<|qQ<|zK (gv (fun _ k=>k b6 p8 c8 r_7 p7 c7 r_6) [0,1,4,3,2] (gq [0,1,2]))) <|wM (.f u) (.agg #[.int .u64 0, .slice none 0 0, .slice none 0 0])<|fun b7=>zY<|qE 2<|
  xG (.f u) (e := zF .u64) 98 (0 : Int) (.int .u64 0) vI u u<|fun x6 r_8 p9 c9=>zY<|wB 6 (.agg #[.int .u64 0, sv p9 x6 c9, sv p7 x4 c7]) u<|qE 8<|qS (o := 0) (.f u) 3 u u u<|zY<|qQ<|
  zK (gv (fun _ k=>k b7 p9 c9 r_8 p7 c7 r_6) [0,1,3,4,2] (gq [0,1,2]))) <|wM (.f u) (.agg #[.int .u64 0, .slice none 0 0, .slice none 0 0])<|fun b8=>zY<|xU 2 5 (xG (.f u) (e := zF .u64) 98 (0 : Int) (.int .u64 0) vI u u<|
  fun x7 r_9 p10 c10=>zY<|qE 5<|xG (.f u) (e := zF .u64) 98 (0 : Int) (.int .u64 0) vI u u<|fun x8 r_10 p11 c11=>zY<|wB 6 (.agg #[.int .u64 0, sv p10 x7 c10, sv p11 x8 c11]) u<|qE 8<|qS (o := 0) (.f u) 2 u u u<|zY<|
  qQ<|zK (gv (fun _ k=>k b8 p10 c10 r_9 p11 c11 r_10) [0,1,2,3,4] (gq [1,0,2]))) <|jcm<|xG (.f u) (e := zF .u64) 98 (0 : Int) (.int .u64 0) vI u u<|fun x9 r_11 p12 c12=>zY<|qE 2<|
  xG (.f u) (e := zF .u64) 98 (0 : Int) (.int .u64 0) vI u u<|fun x10 r_12 p13 c13=>zY<|wB 6 (.agg #[.int .u64 0, sv p13 x10 c13, sv p12 x9 c12]) u<|qE 8<|qS (o := 0) (.f u) 2 u u u<|zY<|qQ<|
  zK (gv (fun _ k=>k b8 p13 c13 r_12 p12 c12 r_11) [0,1,2,4,3] (gq [0,1,2])))<|fun s1 _ k b3 p2 c2 r_1 p3 c3 r_2=>k<|wF (fun s2 K=>K [1,2,3] [(2, bx b3 101 [.int .u64 s2, sv p2 s1.2.1 c2, sv p3 s1.2.2 c3])] [2,0,1] [] []) (zB<|zS 0 u<|
  zT 0 u u u<|zA 1 u<|zC<|zO<|qO (fun s3 K=>K [1,2,3,15] [(2, bx b3 101 [.int .u64 s3.2, sv p2 s1.2.1 c2, sv p3 s1.2.2 c3])] [2,0,1] [(16, vi s3.1)] []) (gv (fun _ k=>k) [0,1,2,3,4] (gq [2,0,1]))<|fun s3 _ k=>k<|jA 1 u<|zD<|
  zH u (jC<|zD<|zO<|jA 2 u<|qJ<|zS 0 u<|zT 2 u u u<|zA 1 u<|qH zDL u ⟨⟩<|fun r1 _ k=>k<|zS 0 u<|qS .s 2 u u u<|zU<|qC<|zN<|jB 2 u<|qD (gv (fun _ k=>k) [0,1,2,3,4] (gq [0,1,2])))<|qM<|
  qK<|qP<|qL<|zK (gv (fun _ k=>k) [0,1,2,3,4] (gq [0,1,2])))<|fun s2 _ k=>k<|
  wF (fun s4 K=>∀ p14 c14 r_13 p15 c15 r_14,K [2,3] [(0, []), (2, bx b3 101 [.int .u64 s2, sv p14 s4.1 c14, sv p15 s4.2 c15]), (3, r_13), (4, r_14)] [] [] [Al (zF .u64) 98 r_13 p14 c14 s4.1, Al (zF .u64) 98 r_14 p15 c15 s4.2]) (zB<|
  zS 1 u<|zT 0 u u u<|zA 2 u<|zC<|zO<|
  qO (fun s5 K=>∀ p16 c16 r_15 p17 c17 r_16,K [2,3,26,27] [(0, []), (2, bx b3 101 [.int .u64 s2, sv p16 s5.2.1 c16, sv p17 s5.2.2 c17]), (3, r_15), (4, r_16)] [0] [(28, vi s5.1)] [Al (zF .u64) 98 r_15 p16 c16 s5.2.1, Al (zF .u64) 98 r_16 p17 c17 s5.2.2]) (gv (fun _ k=>k p2 c2 r_1 p3 c3 r_2) [900,1,2,3,4] (gq [1,2,0]))<|
  fun s5 _ k p16 c16 r_15 p17 c17 r_16=>k<|jA 1 u<|zD<|zH u (jC<|zD<|zO<|zB<|qW 2 u u u<|fun x11 b9 o1=>qV true zLp (gk 0) u<|wM .s (.agg #[vi 0, vi 0])<|fun b10=>qS .s 5 u u u<|zC<|yM [14] [2, 3, 5] 15<|
  qN 0 1 u u<|qY 1 2 u u u u<|qN 2 1 u u<|qY 3 5 u u u u<|qN 4 1 u u<|qY 5 2 u u u u<|qN 6 1 u u<|qY 7 5 u u u u<|tC 8 1 u u u u<|fun x12 h1 b11 hp1=>
  tD 9 3 1 sI false oI u u hp1 h1 u<|qN 10 0 u u<|qY 11 5 u u u u<|qE 12<|qF (.f u) [] [] zDL u u u ⟨⟩<|fun r2 _ k=>k<|zY<|tC 13 1 u u u u<|fun x13 h2 b12 hp2=>qE 14<|
  xJ (.f u) 3 1 sI r2 false u hp2 h2 u u vI<|fun r_17=>jdb [] [2, 3, 5]<|qQ<|zN<|yU [14] [2, 4, 5] 15<|qN 0 2 u u<|qY 1 2 u u u u<|qN 2 0 u u<|qY 3 5 u u u u<|qN 4 2 u u<|qY 5 2 u u u u<|
  qN 6 0 u u<|qY 7 5 u u u u<|tC 8 3 u u u u<|fun x14 h3 b13 hp3=>tD 9 4 3 sI false oI u u hp3 h3 u<|qN 10 1 u u<|qY 11 5 u u u u<|qE 12<|qF (.f u) [] [] zDL u u u ⟨⟩<|
  fun r3 _ k=>k<|zY<|tC 13 3 u u u u<|fun x15 h4 b14 hp4=>qE 14<|xJ (.f u) 4 3 sI r3 false u hp4 h4 u u vI<|fun r_18=>jdb [] [2, 4, 5]<|qQ<|qC<|zN<|jB 2 u<|
  jbL (fun q_=>[[], bx b2 101 [.int .u64 0, .slice none 0 0, .slice none 0 0], bx b3 101 [.int .u64 s2, .slice p16 q_ c16, .slice p17 (List.length s5.2.2) c17], r_17, r_18, bx b10 58 [vi x11.1, vi x11.2]]) (gk 1) u<|
  jbL (fun q_=>[[], bx b2 101 [.int .u64 0, .slice none 0 0, .slice none 0 0], bx b3 101 [.int .u64 s2, sv p16 (List.set s5.2.1 (Int.toNat x11.2) r2) c16, .slice p17 q_ c17], r_17, r_18, bx b10 58 [vi x11.1, vi x11.2]]) (gk 1) u<|
  qD (gv (fun _ k=>k p16 c16 r_17 p17 c17 r_18) [900,1,2,3,4] (gq [1,0,7])))<|qM<|qK<|qP<|qL<|zK (gv (fun _ k=>k p16 c16 r_15 p17 c17 r_16) [900,1,2,3,4] (gq [0,1])))<|fun s4 _ k p14 c14 r_13 p15 c15 r_14=>k<|zB<|qR 2 3 u u u<|
  qS .s 1 u u u<|zC<|zJ<|wX 3 0 u u<|wX 4 2 u u<|wZ u (lC 1 (.agg #[.int .u64 s2, sv p14 s4.1 c14, sv p15 s4.2 c15]) u u lN) (fun _ k=>k p14 c14 p15 c15) [] (gq [1,0])
theorem zMF {qd : Prop} {y0 : Int} {y1 : Int} : yR qd prog 55 [.int .u64 y0, pt b1 0] [bx b1 98 [.int .u64 y1]] [] (zIb y0 y1) fun L r K=>K (vb r) L [] :=
 qB call55 func55 u fun X=>jA 1 u<|xH (fun K=>K [] [] [] [(3, vb ((y0 != y1) && ((zGK .u64 y0 y1) == 0)))] []) (qJ<|zA 1 u<|zT 0 u u u<|zA 2 u<|yC (b := y0 != y1) 7 u (fun hb1=>zA 1 u<|zT 0 u u u<|zA 2 u<|
  zI (vb ((zGK .u64 y0 y1) == 0))<|zA 1 u<|zU<|wS 3 (vb ((y0 != y1) && ((zGK .u64 y0 y1) == 0))) u (by rw [hb1]; rfl)<|zK (gv (fun _ k=>k) [0] ⟨⟩))<|fun hb1=>zA 4 u<|zI (vb false)<|zA 1 u<|zU<|
  wS 3 (vb ((y0 != y1) && ((zGK .u64 y0 y1) == 0))) u (by rw [hb1]; rfl)<|zK (gv (fun _ k=>k) [0] ⟨⟩))<|fun _ k=>k<|zJ<|zP u u (fun _ k=>k) [0] ⟨⟩
theorem zEb {qd : Prop} {y0 : List Int} {y1 : Int} : yR qd prog 98 [sv p1 y0 c1, .func (.func 55) #[] #[pt b1 0]] [bx b1 98 [.int .u64 y1]] [Rl (zF .u64) p1 c1 y0] (zAM y0 y1) fun L r K=>K (vi r) L [] :=
 qB call98 func98 u fun X=>jA 1 u<|zD<|jA 3 u<|zO<|qO (fun s1 K=>K [0,1,7] [] [0] [(8, vi s1)] []) (gv (fun _ k=>k) [0] (gq [0]))<|fun s1 _ k=>k<|jA 1 u<|zD<|zH u (jC<|zD<|zO<|jA 2 u<|zB<|zA 3 u<|qW 0 u u u<|fun x1 b2 o1=>
  qV false oI (gk 0) u<|qF .s [0] [] zMF u u u ⟨⟩<|fun r1 _ k=>k<|zC<|zH u (jA 2 u<|zJ<|qT<|qA<|wY<|qT<|qA<|zP u u (fun _ k=>k) [0] ⟨⟩)<|wC<|qC<|zN<|jB 2 u<|qD (gv (fun _ k=>k) [0] (gq [1]))
  )<|qM<|qK<|qP<|qL<|zN<|jA 1 u<|zJ<|zP u u (fun _ k=>k) [0] ⟨⟩
theorem zDv {qd : Prop} {y0 : List Int} {y1 : Int} : yR qd prog 54 [sv p1 y0 c1, .func (.func 55) #[] #[pt b1 0]] [bx b1 98 [.int .u64 y1]] [Rl (zF .u64) p1 c1 y0] (zAG y0 y1) fun L r K=>K (vb r) L [] :=
 qB call54 func54 u fun X=>jA 1 u<|zB<|zA 2 u<|qF .s [0] [] zEb u u u (cq [0])<|fun r1 _ k=>k<|zA 2 u<|zC<|zJ<|zP u u (fun _ k=>k) [0] ⟨⟩
theorem zMS {qd : Prop} {y0 : List Int} {y1 : List Int} : qG qd prog 57 [sv p1 y0 c1, sv p2 y1 c2] [] [Rl (zF .i64) p1 c1 y0, Rl (zF .i64) p2 c2 y1] (zDc y0 y1) fun r K=>K (vi r) [] [] :=
 qB call57 func57 u fun X=>jA 1 u<|zB<|zA 2 u<|qH zIe u (cq [0,1])<|fun r1 _ k=>k<|zA 1 u<|zC<|zJ<|zP u u (fun _ k=>k) [] ⟨⟩
theorem zFI {qd : Prop} {y0 : List (List Int)} : qG qd prog 56 [sv p1 y0 c1, .func (.func 57) #[] #[]] [r_1] [Al (wO (zF .i64)) 31 r_1 p1 c1 y0] (zAO y0) fun r K=>∀ r_2,K (.tuple #[]) [r_2] [Ar (wO (zF .i64)) 31 r_2 p1 c1 (List.length y0) r] := ⟨call56, fun A w0 r hm hO hF => by
 have h := zXG (qd := qd) Go.Proofs.Tryz.sort56 (e := wO (zF .i64)) u (te := 31) zDc 57 (enters_of func57 (by kernel_rfl) u) (fun A w vx vy x y n hn hO hx hy => ?_) hO hF.1.1 hm
 · change Calls prog 56 _ _ _ at h
   refine h.mono fun e w' h => ?_
   cases e with
   | returned v => obtain ⟨r', rfl, h1, h2, h3, h4⟩ := h; exact fun G k => k r' ⟨rfl, h1, h2, ⟨h3, h4.symm⟩, trivial⟩
   | panicked ch => exact h
   | outgrown => exact h
 · obtain ⟨q1, d1, e1, k1⟩ := hx
   obtain ⟨q2, d2, e2, k2⟩ := hy
   cases e1
   cases e2
   refine ((zMS (qd := True) (y0 := x) (y1 := y)).go A w n hn hO ⟨R.of k1, R.of k2, trivial⟩).mono fun e w' h => ?_
   cases e with
   | returned v => exact h _ fun ⟨e1, q⟩ => ⟨e1, q.e⟩
   | panicked ch => exact h
   | outgrown => exact h⟩
theorem zMr {qd : Prop} {y0 : wT} {y1 : Int} : qG qd prog 16 [.agg #[vi y0.1, sv p1 y0.2 c1], vi y1] [] [Rl vZ p1 c1 y0.2, Pt (yS 64 (zF .u8)) 0 0 yQ] (zF4 y0 y1) fun r K=>∀ p2 c2,K (.tuple #[sv p2 r.1 c2, vi r.2]) [] [Rl (wO (zF .i64)) p2 c2 r.1] :=
 qB call16 func16 u fun X=>zB<|qU .s u<|fun b1=>qU .s u<|fun b2=>zA 2 u<|zC<|zD<|zB<|qR 0 2 u u u<|qH zG0 u (cq [0])<|fun r1 _ k=>k<|zA 1 u<|zC<|jA 2 u<|zH u (jA 3 u<|zJ<|qA<|
  wZ u (lT u (lT u lN)) (fun _ k=>k none 0) [] ⟨gn,⟨⟩⟩)<|jC<|zD<|zO<|xH (fun K=>K [2,3] [] [0,1] [(17, vb ((decide (y1 < 0)) || (decide (y0.1 ≤ y1))))] []) (qJ<|zT 1 u u u<|zA 2 u<|
  yC (b := decide (y1 < 0)) 20 u (fun hb1=>zA 4 u<|zI (vb true)<|zA 1 u<|zU<|wS 17 (vb ((decide (y1 < 0)) || (decide (y0.1 ≤ y1)))) u (by rw [hb1]; rfl)<|zK (gv (fun _ k=>k) [0,1] (gq [0,1])))<|fun hb1=>zT 1 u u u<|
  zS 0 u<|zT 0 u u u<|zA 1 u<|zI (vb (decide (y0.1 ≤ y1)))<|zA 1 u<|zU<|wS 17 (vb ((decide (y1 < 0)) || (decide (y0.1 ≤ y1)))) u (by rw [hb1]; rfl)<|zK (gv (fun _ k=>k) [0,1] (gq [0,1])))<|fun _ k=>k<|zH u (jA 2 u<|
  zJ<|qT<|qA<|wZ u (lT u (lT u lN)) (fun _ k=>k none 0) [] ⟨gn,⟨⟩⟩)<|zB<|zS 0 u<|zT 0 u u u<|zA 2 u<|zC<|zH u (jA 2 u<|zJ<|qT<|qA<|wZ u (lT u (lT u lN)) (fun _ k=>k none 0) [] ⟨gn,⟨⟩⟩)<|wC<|qC<|
  zN<|zB<|qR 0 2 u u u<|qH zMu u (cq [0])<|fun r2 _ k p2 c2 p3 c3=>k<|wM .s (.agg #[.int .u64 0, .slice none 0 0, .slice none 0 0])<|fun b3=>qS .s 2 u u u<|zC<|zB<|wM .s (.slice none 0 0)<|fun b4=>
  vK (zF .u64) 98<|zC<|zB<|zS 0 u<|zT 2 u u u<|qH zBh u (cq [4])<|fun r3 _ k p4 c4 r_1=>k<|zA 1 u<|wX 5 0 u u<|qF .s [1, 2, 3, 4] [] zH4 u u u (cq [0,3,4,2,6])<|
  fun r4 _ k p5 c5 r_2=>k<|zC<|zB<|zA 1 u<|vK (wO (zF .i64)) 31<|zC<|wF (fun s1 K=>∀ p6 c6 r_3,K [] [(0, []), (1, []), (2, []), (3, []), (4, []), (6, r_3)] [8] [(9, sv p6 s1 c6)] [Al (wO (zF .i64)) 31 r_3 p6 c6 s1]) (
  zB<|zT 3 u u u<|zA 2 u<|zC<|zO<|
  qO (fun s2 K=>∀ p7 c7 r_4,K [8,37,38] [(0, []), (1, []), (2, []), (6, r_4)] [1,8] [(9, sv p7 s2.1 c7), (39, vi s2.2)] [Al (wO (zF .i64)) 31 r_4 p7 c7 s2.1]) (gv (fun _ k=>k none 0 []) [900,901,902,3,4,905,6] (gq [0,1,8]))<|
  fun s2 _ k p7 c7 r_4=>k<|jA 1 u<|zD<|zH u (jC<|zD<|zO<|zB<|yL 1 u u u<|fun x1 h1 b5 hp1=>xD 4 1 sI false oI u hp1 h1 u<|wM .s (.int .u64 0)<|fun b6=>qS .s 7 u u u<|zC<|zB<|zT 3 u u u<|zA 1 u<|
  qF .s [7] [4] zDv u u u ⟨cl 4 1,⟨⟩⟩<|fun r5 _ k=>k<|zA 1 u<|zC<|zH u (qJ<|zA 1 u<|zT 7 u u u<|qH zBh u (cq [2])<|fun r6 _ k p8 c8 r_5=>k<|wX 8 0 u u<|
  vC .s (e := wO (zF .i64)) 31 [sv p8 r6 c8] ([r6] : List (List Int)) (rC (vL (gk 0)) rN)<|fun p9 c9=>wP .s 6 3 u (gk 0) u u<|fun x2 r_6 p10 c10=>zA 1 u<|zU<|qC<|zN<|jB 2 u<|
  qD (gv (fun _ k=>k p10 c10 r_6) [900,901,902,3,4,905,6] (gq [0,5,6])))<|wC<|qC<|zN<|jB 2 u<|qD (gv (fun _ k=>k p7 c7 r_4) [900,901,902,3,4,905,6] (gq [0,1,2])))<|qM<|qK<|qP<|qL<|
  zK (gv (fun _ k=>k p7 c7 r_4) [900,901,902,903,904,905,6] (gq [0,2])))<|fun s1 _ k p6 c6 r_3=>k<|zB<|zA 1 u<|qF .s [6] [] zFI u u u (cq [0])<|fun r7 _ k r_7=>k<|zC<|jA 3 u<|zJ<|
  wX 6 0 u u<|jre 0 4 u u<|wZ u (lT u (lT u lN)) (fun _ k=>k p6 c6) [] (gq [0])
theorem zLK {qd : Prop} {y0 : yK} : qG qd prog 145 [.agg #[.int .u64 y0.1, sv p1 y0.2.1 c1, sv p2 y0.2.2 c2]] [] [Rl (zF .u64) p1 c1 y0.2.1, Rl (zF .u64) p2 c2 y0.2.2, Pt (yS 64 (zF .u8)) 0 0 yQ] (zCc y0) fun r K=>∀ p3 c3,K (sv p3 r c3) [] [Rl (zF .u64) p3 c3 r] :=
 qB call145 func145 u fun X=>zB<|qU .s u<|fun b1=>zA 1 u<|zC<|zB<|zA 1 u<|vK (zF .u64) 98<|zC<|jA 1 u<|zO<|
  qO (fun s1 K=>∀ p3 c3 r_1,K [1] [(1, r_1)] [1,2,3] [(3, sv p3 s1.1 c3), (4, .int .u64 s1.2)] [Al (zF .u64) 98 r_1 p3 c3 s1.1]) (gv (fun _ k=>k none 0 []) [0,1] (gq [0,1,2,3]))<|fun s1 _ k p3 c3 r_1=>k<|zO<|zB<|qR 0 3 u u u<|
  zA 1 u<|qH zFt u (cq [1,2,3])<|fun r1 _ k=>k<|zA 3 u<|zC<|wF (fun s2 K=>K [1,3,4] [] [0,1,2,3] [(6, .int .u64 s2)] []) (zB<|zS 0 u<|zT 0 u u u<|qH zBh u (cq [3])<|fun r2 _ k p4 c4 r_2=>
  k<|zA 2 u<|zC<|zO<|qO (fun s3 K=>K [1,3,4,5,15,16] [] [1,0,2,3,4] [(6, .int .u64 s3.1), (17, vi s3.2)] []) (gv (fun _ k=>k) [0,1,2] (gq [1,0,2,3,4]))<|fun s3 _ k=>k<|jA 1 u<|zD<|zH u (jC<|zD<|zO<|zB<|yL 1 u u u<|
  fun x1 h1 b2 hp1=>xD 2 1 sI false oI u hp1 h1 u<|zA 1 u<|zC<|zB<|zS 1 u<|zT 0 u u u<|zA 1 u<|qW 2 u u u<|fun x2 b3 o1=>qV false oI (gk 0) u<|zA 3 u<|zC<|zH u (qJ<|zA 2 u<|
  qH zDL u ⟨⟩<|fun r3 _ k=>k<|zA 1 u<|zU<|qC<|zN<|jB 2 u<|qD (gv (fun _ k=>k) [0,1,2] (gq [1,2,3,4,5])))<|wC<|qC<|zN<|jB 2 u<|qD (gv (fun _ k=>k) [0,1,2] (gq [1,2,3,4,5])))<|qM<|qK<|qP<|qL<|
  zK (gv (fun _ k=>k) [0,1] (gq [0,2,3,4])))<|fun s2 _ k=>k<|zD<|jA 3 u<|zH u (jA 2 u<|zJ<|qA<|qT<|wY<|qT<|wX 1 0 u u<|zP u u (fun _ k=>k p3 c3) [] (gq [0]))<|jC<|qJ<|zA 2 u<|
  vC .s (e := zF .u64) 98 [.int .u64 s2] ([s2] : List Int) (rC vI rN)<|fun p5 c5=>wP .s 1 1 u (gk 0) u u<|fun x3 r_3 p6 c6=>zA 3 u<|zU<|qC<|qD (gv (fun _ k=>k p6 c6 r_3) [0,1] (gq [0,3,4,5]))
theorem zOc {qd : Prop} {y0 : yK} : qG qd prog 89 [.agg #[.int .u64 y0.1, sv p1 y0.2.1 c1, sv p2 y0.2.2 c2]] [] [Rl (zF .u64) p1 c1 y0.2.1, Rl (zF .u64) p2 c2 y0.2.2, Pt (yS 64 (zF .u8)) 0 0 yQ] (zG4 y0) fun r K=>K (.int .u64 r) [] [] :=
 qB call89 func89 u fun X=>zB<|qU .s u<|fun b1=>zA 1 u<|zC<|zB<|qR 0 3 u u u<|qH zLK u (cq [0,1,2])<|fun r1 _ k p3 c3=>k<|zA 1 u<|zC<|zD<|jA 3 u<|zH u (jA 1 u<|zJ<|qA<|zP u u (fun _ k=>k) [] ⟨⟩)<|jC<|zB<|
  zA 4 u<|qW 0 u u u<|fun x1 b2 o1=>qV false oI (gk 0) u<|zA 1 u<|zC<|zJ<|zP u u (fun _ k=>k) [] ⟨⟩
theorem zIf {qd : Prop} {y0 : yK} {y1 : Int} : qG qd prog 92 [.agg #[.int .u64 y0.1, sv p1 y0.2.1 c1, sv p2 y0.2.2 c2], .int .u64 y1] [] [Rl (zF .u64) p1 c1 y0.2.1, Rl (zF .u64) p2 c2 y0.2.2, Pt (yS 64 (zF .u8)) 0 0 yQ] (zBy y0 y1) fun r K=>K (vb r) [] [] :=
 qB call92 func92 u fun X=>zB<|qU .s u<|fun b1=>zA 1 u<|zC<|wF (fun s1 K=>K [] [(0, [])] [2] [(4, vb s1)] []) (yU [] [0] 15<|vQ 0 0 3 u u u u<|zV 13 [1] u<|qE 2<|qF (.f u) [] [] zJ2 u u u (cq [0,1,2])<|fun r1 _ k=>k<|
  zY<|zV 11 [3] u<|wG 8 u (qN 4 0 u u<|qY 5 0 u u u u<|zV 7 [6,7] u<|vQ 8 0 3 u u u u<|zV 5 [9] u<|qE 10<|qF (.f u) [] [] zFt u u u (cq [0,1,2])<|fun r2 _ k=>k<|zY<|
  zV 2 [11,12] u<|wB 13 (vb ((zGK .u64 (zGK .u64 y0.1 y1) r2) == 0)) u<|zV 0 [14] u<|qQ<|zK (gv (fun _ k=>k) [900] (gq [2])))<|zV 2 [4,5,6,7,8,9,10,11,12] u<|wB 13 (vb false) u<|zV 0 [14] u<|qQ<|
  zK (gv (fun _ k=>k) [900] (gq [2])))<|fun s1 _ k=>k<|zJ<|zP u u (fun _ k=>k) [] ⟨⟩
theorem zLJ {qd : Prop} {y0 : Int} {y1 : Int} {y2 : yK} {y3 : Int} {y4 : Bool} {y5 : Bool} : qG qd prog 91 [.int .u64 y0, pt b1 0, pt b2 0, pt b3 0, pt b4 0, pt b5 0] [bx b1 3 [vi y1], bx b2 101 [.int .u64 y2.1, sv p1 y2.2.1 c1, sv p2 y2.2.2 c2], bx b3 3 [vi y3], bx b4 4 [vb y4], bx b5 4 [vb y5]] [Rl (zF .u64) p1 c1 y2.2.1, Rl (zF .u64) p2 c2 y2.2.2, Pt (yS 64 (zF .u8)) 0 0 yQ] (zCe y0 y1 y2 y3 y4 y5) fun r K=>K (vb r.1) [bx b1 3 [vi y1], bx b2 101 [.int .u64 y2.1, sv p1 y2.2.1 c1, sv p2 y2.2.2 c2], bx b3 3 [vi y3], bx b4 4 [vb y4], bx b5 4 [vb r.2]] [] :=
 qB call91 func91 u fun X=>jA 1 u<|wF (fun s1 K=>K [0,3,4,5] [] [0,1,2] [(8, vb s1)] []) (qJ<|zT 0 u u u<|zA 2 u<|wG 11 u (qR 1 3 u u u<|zA 1 u<|qH zGt u (cq [0,1,2])<|fun r1 _ k=>k<|zI (vb r1)<|zA 1 u<|
  wG 16 u (zA 7 u<|zI (vb true)<|zA 1 u<|zU<|zK (gv (fun _ k=>k) [0,1,2,3,4] (gq [0,1,2])))<|zT 0 u u u<|zA 2 u<|wG 19 u (qR 1 3 u u u<|zA 1 u<|qH zIf u (cq [0,1,2])<|fun r2 _ k=>k<|
  zI (vb r2)<|zI (vb r2)<|zA 1 u<|zU<|zK (gv (fun _ k=>k) [0,1,2,3,4] (gq [0,1,2])))<|zA 3 u<|zI (vb false)<|zI (vb false)<|zA 1 u<|zU<|zK (gv (fun _ k=>k) [0,1,2,3,4] (gq [0,1,2])))<|zA 3 u<|zI (vb false)<|zA 1 u<|
  zT 0 u u u<|zA 2 u<|wG 19 u (qR 1 3 u u u<|zA 1 u<|qH zIf u (cq [0,1,2])<|fun r3 _ k=>k<|zI (vb r3)<|zI (vb r3)<|zA 1 u<|zU<|zK (gv (fun _ k=>k) [0,1,2,3,4] (gq [0,1,2])))<|zA 3 u<|
  zI (vb false)<|zI (vb false)<|zA 1 u<|zU<|zK (gv (fun _ k=>k) [0,1,2,3,4] (gq [0,1,2])))<|fun s1 _ k=>k<|zD<|wF (fun s2 K=>K [4,5] [] [0,1,2] [(32, vb s2)] []) (yU [] [2, 3] 8<|zV 6 [0,1] u<|wG 26 u (zV 5 [2] u<|
  qY 3 2 u u u u<|qY 5 3 u u u u<|qE 4<|qF (.f u) [] [] zGE u u u ⟨⟩<|fun r4 _ k=>k<|zY<|wB 6 (vb (!(r4 == y4))) u<|wB 7 (vb (!(r4 == y4))) u<|qQ<|
  zK (gv (fun _ k=>k) [0,1,2,3,4] (gq [0,1,2])))<|zV 1 [2,3,4,5,6] u<|wB 7 (vb false) u<|qQ<|zK (gv (fun _ k=>k) [0,1,2,3,4] (gq [0,1,2])))<|fun s2 _ k=>k<|zH u (zB<|zT 3 u u u<|zA 1 u<|qS .s 4 u u u<|zC<|
  jA 1 u<|zJ<|qA<|zP u u (fun _ k=>k) [0,1,2,3,4] ⟨⟩)<|jC<|jA 1 u<|zJ<|zP u u (fun _ k=>k) [0,1,2,3,4] ⟨⟩
theorem zF7 {qd : Prop} {y0 : Int} {y1 : Int} {y2 : yK} {y3 : Int} {y4 : Bool} {y5 : Bool} : qG qd prog 90 [.int .u64 y0, .func (.func 91) #[] #[pt b1 0, pt b2 0, pt b3 0, pt b4 0, pt b5 0]] [bx b1 3 [vi y1], bx b2 101 [.int .u64 y2.1, sv p1 y2.2.1 c1, sv p2 y2.2.2 c2], bx b3 3 [vi y3], bx b4 4 [vb y4], bx b5 4 [vb y5]] [Rl (zF .u64) p1 c1 y2.2.1, Rl (zF .u64) p2 c2 y2.2.2, Pt (yS 64 (zF .u8)) 0 0 yQ] (zAT y0 y1 y2 y3 y4 y5) fun r K=>K (.tuple #[]) [bx b1 3 [vi y1], bx b2 101 [.int .u64 y2.1, sv p1 y2.2.1 c1, sv p2 y2.2.2 c2], bx b3 3 [vi y3], bx b4 4 [vb y4], bx b5 4 [vb r]] [] :=
 qB call90 func90 u fun X=>jA 2 u<|zO<|qO (fun s1 K=>K [0,1] [(4, bx b5 4 [vb s1.2])] [0,1,2] [(4, .int .u64 s1.1)] []) (gv (fun _ k=>k) [0,1,2,3,4] (gq [0,1,2]))<|fun s1 _ k=>k<|zD<|zO<|
  wF (fun s2 K=>K [0,1,4] [(4, bx b5 4 [vb s2.2])] [0,1,2] [(17, vb s2.1)] []) (qJ<|zA 2 u<|qF .s [0, 1, 2, 3, 4] [] zLJ u u u (cq [0,1,2])<|fun r1 _ k=>k<|zA 2 u<|wG 14 u (zA 2 u<|zI (vb true)<|zU<|
  zK (gv (fun _ k=>k) [0,1,2,3,4] (gq [0,1,2])))<|zA 2 u<|zI (vb (s1.1 == 0))<|zU<|zK (gv (fun _ k=>k) [0,1,2,3,4] (gq [0,1,2])))<|fun s2 _ k=>k<|zH u (zJ<|qT<|qA<|wY<|qT<|wZ u lN (fun _ k=>k) [0,1,2,3,4] ⟨⟩)<|wC<|qC<|
  zN<|jB 5 u<|qD (gv (fun _ k=>k) [0,1,2,3,4] (gq [0,1,2]))
theorem zIh {qd : Prop} {y0 : yK} {y1 : Int} {y2 : Int} : qG qd prog 43 [.agg #[.int .u64 y0.1, sv p1 y0.2.1 c1, sv p2 y0.2.2 c2], vi y1, vi y2] [] [Rl (zF .u64) p1 c1 y0.2.1, Rl (zF .u64) p2 c2 y0.2.2, Pt (yS 64 (zF .u8)) 0 0 yQ] (zCB y0 y1 y2) fun r K=>K (vb r) [] [] :=
 qB call43 func43 u fun X=>zB<|qU .s u<|fun b1=>qU .s u<|fun b2=>qU .s u<|fun b3=>zA 1 u<|zC<|zD<|zB<|zT 1 u u u<|zA 1 u<|zC<|zH u (yM [] [0, 2] 5<|vQ 0 0 3 u u u u<|qY 2 2 u u u u<|qE 1<|
  qF (.f u) [] [] zOc u u u (cq [0,1,2])<|fun r1 _ k=>k<|zY<|qE 3<|qF (.f u) [] [] zGE u u u ⟨⟩<|fun r2 _ k=>k<|zY<|zV 0 [4] u<|qQ<|zN<|zJ<|qA<|zP u u (fun _ k=>k) [] ⟨⟩)<|jC<|zB<|
  zT 1 u u u<|zA 1 u<|wM .s (vb false)<|fun b4=>qS .s 3 u u u<|zC<|zB<|zT 3 u u u<|wM .s (vb false)<|fun b5=>qS .s 4 u u u<|zC<|zB<|zS 0 u<|zT 0 u u u<|zA 1 u<|
  qF .s [1, 0, 2, 3, 4] [] zF7 u u u (cq [0,1,2])<|fun r3 _ k=>k<|zC<|zB<|zT 4 u u u<|zA 1 u<|zC<|zJ<|zP u u (fun _ k=>k) [] ⟨⟩
theorem zMH {qd : Prop} {y0 : yK} {y1 : Int} : qG qd prog 48 [.agg #[.int .u64 y0.1, sv p1 y0.2.1 c1, sv p2 y0.2.2 c2], .int .u64 y1] [] [Rl (zF .u64) p1 c1 y0.2.1, Rl (zF .u64) p2 c2 y0.2.2] (zD7 y0 y1) fun r K=>∀ p3 c3 p4 c4,K (.agg #[.int .u64 r.1, sv p3 r.2.1 c3, sv p4 r.2.2 c4]) [] [Rl (zF .u64) p3 c3 r.2.1, Rl (zF .u64) p4 c4 r.2.2] :=
 qB call48 func48 u fun X=>zB<|qU .s u<|fun b1=>wM .s (.agg #[.int .u64 0, .slice none 0 0, .slice none 0 0])<|fun b2=>zC<|
  wF (fun s1 K=>∀ b3 p3 c3 r_1 p4 c4 r_2,K [1,2,4] [(2, bx b3 101 [.int .u64 s1.1, sv p3 s1.2.1 c3, sv p4 s1.2.2 c4]), (3, r_1), (4, r_2)] [0,1] [(5, pt b3 0)] [Al (zF .u64) 98 r_1 p3 c3 s1.2.1, Al (zF .u64) 98 r_2 p4 c4 s1.2.2]) (
  yU [] [0] 15<|qN 0 0 u u<|qY 1 0 u u u u<|zV 11 [2,3] u<|qN 4 1 u u<|qY 5 0 u u u u<|zV 8 [6] u<|qN 8 1 u u<|qY 9 0 u u u u<|zV 5 [10] u<|jd3 7 11 13 (
  xG (.f u) (e := zF .u64) 98 (0 : Int) (.int .u64 0) vI u u<|fun x1 r_3 p5 c5=>zY<|xU 11 13 (xG (.f u) (e := zF .u64) 98 (0 : Int) (.int .u64 0) vI u u<|fun x2 r_4 p6 c6=>zY<|
  wB 12 (.agg #[.int .u64 (yF .u64 y0.1 y1), sv p5 x1 c5, sv p6 x2 c6]) u<|qE 13<|wM (.f u) (.agg #[.int .u64 0, .slice none 0 0, .slice none 0 0])<|fun b4=>zY<|qE 14<|qS (o := 0) (.f u) 4 u u u<|zY<|qQ<|
  zK (gv (fun _ k=>k b4 p5 c5 r_3 p6 c6 r_4) [0,1,4,2,3] (gq [1,0,2,3]))) <|wM (.f u) (.agg #[.int .u64 0, .slice none 0 0, .slice none 0 0])<|fun b5=>zY<|qE 11<|xG (.f u) (e := zF .u64) 98 (0 : Int) (.int .u64 0) vI u u<|
  fun x3 r_5 p7 c7=>zY<|wB 12 (.agg #[.int .u64 (yF .u64 y0.1 y1), sv p5 x1 c5, sv p7 x3 c7]) u<|qE 14<|qS (o := 0) (.f u) 3 u u u<|zY<|qQ<|zK (gv (fun _ k=>k b5 p5 c5 r_3 p7 c7 r_5) [0,1,3,2,4] (gq [1,0,2,3]))) (jcm<|
  xG (.f u) (e := zF .u64) 98 (0 : Int) (.int .u64 0) vI u u<|fun x4 r_6 p8 c8=>zY<|xU 7 13 (xG (.f u) (e := zF .u64) 98 (0 : Int) (.int .u64 0) vI u u<|fun x5 r_7 p9 c9=>zY<|
  wB 12 (.agg #[.int .u64 (yF .u64 y0.1 y1), sv p9 x5 c9, sv p8 x4 c8]) u<|qE 13<|wM (.f u) (.agg #[.int .u64 0, .slice none 0 0, .slice none 0 0])<|fun b6=>zY<|qE 14<|qS (o := 0) (.f u) 4 u u u<|zY<|qQ<|
  zK (gv (fun _ k=>k b6 p9 c9 r_7 p8 c8 r_6) [0,1,4,3,2] (gq [0,1,2,3]))) <|wM (.f u) (.agg #[.int .u64 0, .slice none 0 0, .slice none 0 0])<|fun b7=>zY<|qE 7<|xG (.f u) (e := zF .u64) 98 (0 : Int) (.int .u64 0) vI u u<|
  fun x6 r_8 p10 c10=>zY<|wB 12 (.agg #[.int .u64 (yF .u64 y0.1 y1), sv p10 x6 c10, sv p8 x4 c8]) u<|qE 14<|qS (o := 0) (.f u) 3 u u u<|zY<|qQ<|zK (gv (fun _ k=>k b7 p10 c10 r_8 p8 c8 r_6) [0,1,3,4,2] (gq [0,1,2,3]))) <|
  wM (.f u) (.agg #[.int .u64 0, .slice none 0 0, .slice none 0 0])<|fun b8=>zY<|xU 7 11 (xG (.f u) (e := zF .u64) 98 (0 : Int) (.int .u64 0) vI u u<|fun x7 r_9 p11 c11=>zY<|qE 11<|
  xG (.f u) (e := zF .u64) 98 (0 : Int) (.int .u64 0) vI u u<|fun x8 r_10 p12 c12=>zY<|wB 12 (.agg #[.int .u64 (yF .u64 y0.1 y1), sv p11 x7 c11, sv p12 x8 c12]) u<|qE 14<|qS (o := 0) (.f u) 2 u u u<|zY<|qQ<|
  zK (gv (fun _ k=>k b8 p11 c11 r_9 p12 c12 r_10) [0,1,2,3,4] (gq [1,0,2,3]))) <|jcm<|xG (.f u) (e := zF .u64) 98 (0 : Int) (.int .u64 0) vI u u<|fun x9 r_11 p13 c13=>zY<|qE 7<|
  xG (.f u) (e := zF .u64) 98 (0 : Int) (.int .u64 0) vI u u<|fun x10 r_12 p14 c14=>zY<|wB 12 (.agg #[.int .u64 (yF .u64 y0.1 y1), sv p14 x10 c14, sv p13 x9 c13]) u<|qE 14<|qS (o := 0) (.f u) 2 u u u<|zY<|qQ<|
  zK (gv (fun _ k=>k b8 p14 c14 r_12 p13 c13 r_11) [0,1,2,4,3] (gq [0,1,2,3])))<|fun s1 _ k b3 p3 c3 r_1 p4 c4 r_2=>k<|
  wF (fun s2 K=>∀ p15 c15 r_13 p16 c16 r_14,K [4,5] [(0, []), (2, bx b3 101 [.int .u64 s1.1, sv p15 s2.1 c15, sv p16 s2.2 c16]), (3, r_13), (4, r_14)] [] [] [Al (zF .u64) 98 r_13 p15 c15 s2.1, Al (zF .u64) 98 r_14 p16 c16 s2.2]) (zB<|
  zS 1 u<|zT 0 u u u<|zA 2 u<|zC<|zO<|
  qO (fun s3 K=>∀ p17 c17 r_15 p18 c18 r_16,K [1,2,4,5,22] [(2, bx b3 101 [.int .u64 s1.1, sv p17 s3.2.1 c17, sv p18 s3.2.2 c18]), (3, r_15), (4, r_16)] [2,3] [(23, vi s3.1)] [Al (zF .u64) 98 r_15 p17 c17 s3.2.1, Al (zF .u64) 98 r_16 p18 c18 s3.2.2]) (gv (fun _ k=>k p3 c3 r_1 p4 c4 r_2) [0,1,2,3,4] (gq [0,1,2,3]))<|
  fun s3 _ k p17 c17 r_15 p18 c18 r_16=>k<|jA 1 u<|zD<|zH u (jC<|zD<|zO<|jA 2 u<|zB<|zS 0 u<|zT 2 u u u<|zA 1 u<|qH zGE u ⟨⟩<|fun r1 _ k=>k<|zC<|zH u (yU [] [0, 2] 24<|qN 0 1 u u<|
  qY 1 2 u u u u<|zV 21 [2] u<|qN 3 2 u u<|qY 4 2 u u u u<|zV 18 [5] u<|qN 6 1 u u<|qY 7 0 u u u u<|zV 15 [8] u<|vO 9 2 u u u u<|fun x11 b9 o1=>vN 10 false oI u (gk 0) u<|
  zV 11 [11,12] u<|qN 13 2 u u<|qY 14 0 u u u u<|zV 8 [15] u<|vO 16 4 u u u u<|fun x12 b10 o2=>vN 17 false oI u (gk 0) u<|zV 4 [18,19] u<|tC 20 2 u u u u<|fun x13 h1 b11 hp1=>qE 21<|
  xJ (.f u) 3 2 sI (yF .u64 x11 y1) false u hp1 h1 u u vI<|fun r_17=>zY<|tC 22 4 u u u u<|fun x14 h2 b12 hp2=>qE 23<|xJ (.f u) 4 4 sI (yF .u64 x12 y1) false u hp2 h2 u u vI<|fun r_18=>zY<|qQ<|qC<|zN<|
  jB 2 u<|
  jbL (fun q_=>[bx b1 101 [.int .u64 y0.1, sv p1 y0.2.1 c1, sv p2 y0.2.2 c2], bx b2 101 [.int .u64 0, .slice none 0 0, .slice none 0 0], bx b3 101 [.int .u64 s1.1, .slice p17 q_ c17, .slice p18 (List.length s3.2.2) c18], r_17, r_18]) (gk 1) u<|
  jbL (fun q_=>[bx b1 101 [.int .u64 y0.1, sv p1 y0.2.1 c1, sv p2 y0.2.2 c2], bx b2 101 [.int .u64 0, .slice none 0 0, .slice none 0 0], bx b3 101 [.int .u64 s1.1, sv p17 (List.set s3.2.1 (Int.toNat s3.1) (yF .u64 x11 y1)) c17, .slice p18 q_ c18], r_17, r_18]) (gk 1) u<|
  qD (gv (fun _ k=>k p17 c17 r_17 p18 c18 r_18) [0,1,2,3,4] (gq [1,0,8,9])))<|wC<|qC<|zN<|jB 2 u<|qD (gv (fun _ k=>k p17 c17 r_15 p18 c18 r_16) [0,1,2,3,4] (gq [0,1,2,3])))<|qM<|qK<|qP<|qL<|
  zK (gv (fun _ k=>k p17 c17 r_15 p18 c18 r_16) [900,1,2,3,4] (gq [0,1])))<|fun s2 _ k p15 c15 r_13 p16 c16 r_14=>k<|zB<|qR 2 3 u u u<|qS .s 1 u u u<|zC<|zJ<|wX 3 0 u u<|wX 4 2 u u<|
  wZ u (lC 1 (.agg #[.int .u64 s1.1, sv p15 s2.1 c15, sv p16 s2.2 c16]) u u lN) (fun _ k=>k p15 c15 p16 c16) [] (gq [1,0])
theorem zId {qd : Prop} {y0 : List Int} {y1 : yK} {y2 : Int} {y3 : Int} {y4 : Bool} : yR qd prog 47 [sv p1 y0 c1, pt b1 0, pt b2 0, pt b3 0, pt b4 0] [bx b1 101 [.int .u64 y1.1, sv p2 y1.2.1 c2, sv p3 y1.2.2 c3], bx b2 3 [vi y2], bx b3 3 [vi y3], bx b4 4 [vb y4]] [Rl (zF .i64) p1 c1 y0, Rl (zF .u64) p2 c2 y1.2.1, Rl (zF .u64) p3 c3 y1.2.2, Pt (yS 64 (zF .u8)) 0 0 yQ] (zBx y0 y1 y2 y3 y4) fun L r K=>K (vb r) L [] :=
 qB call47 func47 u fun X=>jA 1 u<|yM [] [0, 1, 2, 3] 13<|vQ 0 0 3 u u u u<|qN 1 0 u u<|qY 2 0 u u u u<|zV 9 [3] u<|qY 7 1 u u u u<|qY 8 2 u u u u<|qY 10 3 u u u u<|qE 4<|
  qF (.f u) [] [] zOO u u u (cq [0])<|fun r1 _ k=>k<|zY<|zV 4 [5] u<|qE 6<|qF (.f u) [] [] zMH u u u (cq [1,2])<|fun r2 _ k p4 c4 p5 c5=>k<|zY<|qE 9<|
  qF (.f u) [] [] zIh u u u (cq [0,1,5])<|fun r3 _ k=>k<|zY<|wB 11 (vb (!(r3 == y4))) u<|zV 0 [12] u<|qQ<|zN<|zJ<|zP u u (fun _ k=>k) [0,1,2,3] ⟨⟩
theorem zGH {qd : Prop} {y0 : List Int} {y1 : List (List Int)} {y3 : yK} {y4 : Int} {y5 : Int} {y6 : Bool} : qG qd prog 72 [sv p1 y0 c1, pt b1 0, pt b2 0] [bx b1 40 [sv p2 y1 c2], r_1, bx b2 55 [.func (.func 47) #[] #[pt b3 0, pt b4 0, pt b5 0, pt b6 0]], bx b3 101 [.int .u64 y3.1, sv p3 y3.2.1 c3, sv p4 y3.2.2 c4], bx b4 3 [vi y4], bx b5 3 [vi y5], bx b6 4 [vb y6]] [Rl (zF .i64) p1 c1 y0, Al (wO (zF .i64)) 31 r_1 p2 c2 y1, Rl (zF .u64) p3 c3 y3.2.1, Rl (zF .u64) p4 c4 y3.2.2, Pt (yS 64 (zF .u8)) 0 0 yQ] (zAX y0 y1 y3 y4 y5 y6) fun r K=>∀ p5 c5 r_2,K (.tuple #[]) [bx b1 40 [sv p5 r c5], r_2, bx b2 55 [.func (.func 47) #[] #[pt b3 0, pt b4 0, pt b5 0, pt b6 0]], bx b3 101 [.int .u64 y3.1, sv p3 y3.2.1 c3, sv p4 y3.2.2 c4], bx b4 3 [vi y4], bx b5 3 [vi y5], bx b6 4 [vb y6]] [Al (wO (zF .i64)) 31 r_2 p5 c5 r] :=
 qB call72 func72 u fun X=>zD<|wF (fun s1 K=>K [0,1] [] [0,1,2,3,4] [(21, vb s1)] []) (qJ<|zT 0 u u u<|zA 3 u<|wG 7 u (zA 2 u<|zT 0 u u u<|yL 1 u u u<|fun x1 h1 b7 hp1=>xD 1 1 sI false oL u hp1 h1 u<|fun p5 c5=>zA 2 u<|
  zI (vb (decide ((len x1) < (len y0))))<|zA 1 u<|wG 16 u (zA 4 u<|zI (vb true)<|zU<|zK (gv (fun _ k=>k) [0,1,2,3,4,5,6] (gq [1,2,3,4,5])))<|zT 2 u u u<|zA 1 u<|
  qF .s [3, 4, 5, 6] [] zId u u u (cq [1,3,4,5])<|fun r1 _ k=>k<|zA 1 u<|zI (vb (!r1))<|zU<|zK (gv (fun _ k=>k) [0,1,2,3,4,5,6] (gq [1,2,3,4,5])))<|zA 7 u<|zI (vb false)<|zA 1 u<|zT 2 u u u<|
  zA 1 u<|qF .s [3, 4, 5, 6] [] zId u u u (cq [0,2,3,4])<|fun r2 _ k=>k<|zA 1 u<|zI (vb (!r2))<|zU<|zK (gv (fun _ k=>k) [0,1,2,3,4,5,6] (gq [0,1,2,3,4])))<|fun s1 _ k=>k<|zH u (zJ<|qA<|
  wZ u lN (fun _ k=>k p2 c2 r_1) [0,1,2,3,4,5,6] (gq [1]))<|jC<|wF (fun s2 K=>∀ p6 c6 r_2,K [0,1] [(0, bx b1 40 [sv p6 s2 c6]), (1, []), (7, r_2)] [0,2,3,4] [] [Al (wO (zF .i64)) 31 r_2 p6 c6 s2]) (
  wF (fun s3 K=>K [0,1] [] [0,1,2,3,4] [(33, vb s3)] []) (qJ<|zT 0 u u u<|zA 3 u<|wG 25 u (zA 2 u<|zT 0 u u u<|yL 1 u u u<|fun x2 h2 b8 hp2=>xD 1 1 sI false oL u hp2 h2 u<|fun p7 c7=>zA 2 u<|
  zI (vb (decide ((len y0) < (len x2))))<|zU<|zK (gv (fun _ k=>k) [0,1,2,3,4,5,6] (gq [1,2,3,4,5])))<|zA 7 u<|zI (vb false)<|zU<|zK (gv (fun _ k=>k) [0,1,2,3,4,5,6] (gq [0,1,2,3,4])))<|fun s3 _ k=>k<|zH u (qJ<|
  vK (wO (zF .i64)) 31<|qS .s 0 u u u<|zU<|zK (gv (fun _ k=>k none 0 []) [0,901,2,3,4,5,6,7] (gq [0,1,3,4,5])))<|wC<|zK (gv (fun _ k=>k p2 c2 r_1) [0,901,2,3,4,5,6,1] (gq [1,0,2,3,4])))<|fun s2 _ k p6 c6 r_2=>k<|qJ<|
  zT 0 u u u<|zA 1 u<|vC .s (e := wO (zF .i64)) 31 [sv p1 y0 c1] ([y0] : List (List Int)) (rC (vL (gk 1)) rN)<|fun p8 c8=>wP .s 7 1 u (gk 0) u u<|fun x3 r_3 p9 c9=>qS .s 0 u u u<|zU<|jrn<|
  wZ u lN (fun _ k=>k p9 c9 r_3) [0,7,2,3,4,5,6] (gq [0])
theorem zIO {qd : Prop} {y0 : List Int} {y1 : List (List Int)} {y3 : yK} {y4 : Int} {y5 : Int} {y6 : Bool} : qG qd prog 50 [sv p1 y0 c1, .func (.func 72) #[] #[pt b1 0, pt b2 0]] [bx b1 40 [sv p2 y1 c2], r_1, bx b2 55 [.func (.func 47) #[] #[pt b3 0, pt b4 0, pt b5 0, pt b6 0]], bx b3 101 [.int .u64 y3.1, sv p3 y3.2.1 c3, sv p4 y3.2.2 c4], bx b4 3 [vi y4], bx b5 3 [vi y5], bx b6 4 [vb y6]] [Rl (zF .i64) p1 c1 y0, Al (wO (zF .i64)) 31 r_1 p2 c2 y1, Rl (zF .u64) p3 c3 y3.2.1, Rl (zF .u64) p4 c4 y3.2.2, Pt (yS 64 (zF .u8)) 0 0 yQ] (zAv y0 y1 y3 y4 y5 y6) fun r K=>∀ p5 c5 r_2,K (.tuple #[]) [bx b1 40 [sv p5 r c5], r_2, bx b2 55 [.func (.func 47) #[] #[pt b3 0, pt b4 0, pt b5 0, pt b6 0]], bx b3 101 [.int .u64 y3.1, sv p3 y3.2.1 c3, sv p4 y3.2.2 c4], bx b4 3 [vi y4], bx b5 3 [vi y5], bx b6 4 [vb y6]] [Al (wO (zF .i64)) 31 r_2 p5 c5 r] :=
 qB call50 func50 u fun X=>zB<|zA 2 u<|tA fun x1 h1=>jv (fun h=>zS1 h u u h1)<|zA 1 u<|zC<|zO<|
  qO (fun s1 K=>∀ p5 c5 r_2,K [0,1,10] [(0, bx b1 40 [sv p5 s1.2 c5]), (1, r_2)] [0,2,3,4] [(11, vi s1.1)] [Al (wO (zF .i64)) 31 r_2 p5 c5 s1.2]) (gv (fun _ k=>k p2 c2 r_1) [0,1,2,3,4,5,6] (gq [1,0,2,3,4]))<|fun s1 _ k p5 c5 r_2=>k<|
  jA 1 u<|zD<|zH u (jC<|zD<|zO<|jA 2 u<|zB<|zA 1 u<|vK (zF .i64) 3<|zC<|wF (fun s2 K=>∀ p6 c6 r_3,K [0,1,10,11] [(7, r_3)] [2,1,3,4,5] [(5, sv p6 s2 c6)] [Al (zF .i64) 3 r_3 p6 c6 s2]) (jA 3 u<|zO<|
  qO (fun s3 K=>∀ p7 c7 r_4,K [0,1,4,10,11,14,15] [(7, r_4)] [2,1,3,4,5] [(5, sv p7 s3.1 c7), (16, vi s3.2)] [Al (zF .i64) 3 r_4 p7 c7 s3.1]) (gv (fun _ k=>k none 0 []) [0,1,2,3,4,5,6,7] (gq [0,2,1,3,4,5]))<|fun s3 _ k p7 c7 r_4=>k<|
  jA 1 u<|zD<|zH u (jC<|zD<|zO<|zB<|zA 1 u<|qW 1 u u u<|fun x2 b7 o1=>qV false oI (gk 0) u<|zA 2 u<|zC<|zB<|zA 2 u<|tA fun x3 h2=>jv (fun h=>zUD h u u h2)<|zA 2 u<|zC<|zH u (qJ<|zA 2 u<|
  vC .s (e := zF .i64) 3 [vi x2] ([x2] : List Int) (rC vI rN)<|fun p8 c8=>wP .s 7 2 u (gk 0) u u<|fun x4 r_5 p9 c9=>zA 1 u<|zU<|qC<|zN<|jB 2 u<|qD (gv (fun _ k=>k p9 c9 r_5) [0,1,2,3,4,5,6,7] (gq [0,4,5,6,7,8])))<|wC<|
  qC<|zN<|jB 2 u<|qD (gv (fun _ k=>k p7 c7 r_4) [0,1,2,3,4,5,6,7] (gq [1,2,3,4,5,6])))<|qM<|qK<|qP<|qL<|zK (gv (fun _ k=>k p7 c7 r_4) [0,1,2,3,4,5,6,7] (gq [0,1,2,3,4,5])))<|fun s2 _ k p6 c6 r_3=>k<|qJ<|zA 2 u<|wX 7 0 u u<|
  qF .s [0, 1, 2, 3, 4, 5, 6] [] zGH u u u (cq [0,3,4,5,6])<|fun r1 _ k p10 c10 r_6=>k<|zU<|qC<|zN<|jB 2 u<|qD (gv (fun _ k=>k p10 c10 r_6) [0,1,2,3,4,5,6] (gq [0,3,5,6,7])))<|qM<|qK<|qP<|
  qL<|jrn<|wZ u lN (fun _ k=>k p5 c5 r_2) [0,1,2,3,4,5,6] (gq [0])
theorem zGe {qd : Prop} {y0 : List Int} {y1 : yK} {y2 : Int} {y3 : Int} {y4 : Bool} : yR qd prog 26 [sv p1 y0 c1, .func (.func 47) #[] #[pt b1 0, pt b2 0, pt b3 0, pt b4 0]] [bx b1 101 [.int .u64 y1.1, sv p2 y1.2.1 c2, sv p3 y1.2.2 c3], bx b2 3 [vi y2], bx b3 3 [vi y3], bx b4 4 [vb y4]] [Rl (zF .i64) p1 c1 y0, Rl (zF .u64) p2 c2 y1.2.1, Rl (zF .u64) p3 c3 y1.2.2, Pt (yS 64 (zF .u8)) 0 0 yQ] (zA1 y0 y1 y2 y3 y4) fun L r K=>∀ p4 c4,K (sv p4 r c4) L [Rl (wO (zF .i64)) p4 c4 r] :=
 qB call26 func26 u fun X=>zB<|qU .s u<|fun b5=>zA 1 u<|zC<|zB<|wM .s (.slice none 0 0)<|fun b6=>vK (wO (zF .i64)) 31<|zC<|zB<|zA 2 u<|qF .s [5, 6, 4, 0, 1, 2, 3] [] zIO u u u (cq [1,0,2,3,4])<|
  fun r1 _ k p4 c4 r_1=>k<|zC<|zB<|zT 5 u u u<|qF .s [6] [] zBk u u u (cq [0])<|fun r2 _ k r_2=>k<|zC<|zB<|zT 5 u u u<|zA 1 u<|zC<|zJ<|wX 6 0 u u<|jre 0 4 u u<|
  zP u u (fun _ k=>k p4 c4) [0,1,2,3] (gq [0])
theorem zN4 {qd : Prop} {y0 : Int} : qG qd prog 41 [vi y0] [] [] (zJ0 y0) fun r K=>K (vb r) [] [] :=
 qB call41 func41 u fun X=>jA 1 u<|jjp (fun K=>K [(2, vb ((decide (1 ≤ y0)) && (decide (y0 ≤ 4))))] [] []) (qJ<|zA 3 u<|yC (b := decide (1 ≤ y0)) 5 u (fun hb1=>zA 2 u<|zI (vb (decide (y0 ≤ 4)))<|zA 1 u<|zU<|
  wS 2 (vb ((decide (1 ≤ y0)) && (decide (y0 ≤ 4)))) u (by rw [hb1]; rfl)<|zK (gv (fun _ k=>k) [] ⟨⟩))<|fun hb1=>zA 2 u<|zI (vb false)<|zA 1 u<|zU<|wS 2 (vb ((decide (1 ≤ y0)) && (decide (y0 ≤ 4)))) u (by rw [hb1]; rfl)<|
  zK (gv (fun _ k=>k) [] ⟨⟩))<|fun _ k=>k<|zJ<|zP u u (fun _ k=>k) [] ⟨⟩
theorem zIg {qd : Prop} {y0 : Int} {y1 : Int} : yR qd prog 46 [vi y0, pt b1 0] [bx b1 3 [vi y1]] [] (zGQ y0 y1) fun L r K=>K (vb r) L [] :=
 qB call46 func46 u fun X=>jA 1 u<|zB<|zA 1 u<|zT 0 u u u<|zA 2 u<|zC<|zJ<|zP u u (fun _ k=>k) [0] ⟨⟩
theorem zEe {qd : Prop} {y0 : List Int} {y1 : Int} : yR qd prog 93 [sv p1 y0 c1, .func (.func 46) #[] #[pt b1 0]] [bx b1 3 [vi y1]] [Rl (zF .i64) p1 c1 y0] (zAL y0 y1) fun L r K=>K (vi r) L [] :=
 qB call93 func93 u fun X=>jA 1 u<|zD<|jA 3 u<|zO<|qO (fun s1 K=>K [0,1,7] [] [0] [(8, vi s1)] []) (gv (fun _ k=>k) [0] (gq [0]))<|fun s1 _ k=>k<|jA 1 u<|zD<|zH u (jC<|zD<|zO<|jA 2 u<|zB<|zA 3 u<|qW 0 u u u<|fun x1 b2 o1=>
  qV false oI (gk 0) u<|qF .s [0] [] zIg u u u ⟨⟩<|fun r1 _ k=>k<|zC<|zH u (jA 2 u<|zJ<|qT<|qA<|wY<|qT<|qA<|zP u u (fun _ k=>k) [0] ⟨⟩)<|wC<|qC<|zN<|jB 2 u<|qD (gv (fun _ k=>k) [0] (gq [1]))
  )<|qM<|qK<|qP<|qL<|zN<|jA 1 u<|zJ<|zP u u (fun _ k=>k) [0] ⟨⟩
theorem zES {qd : Prop} {y0 : List Int} {y1 : Int} : qG qd prog 44 [sv p1 y0 c1, .func (.func 46) #[] #[pt b1 0]] [r_1, bx b1 3 [vi y1]] [Al (zF .i64) 3 r_1 p1 c1 y0] (zAJ y0 y1) fun r K=>∀ p2 c2,K (sv p2 r c2) [[], bx b1 3 [vi y1]] [Rl (zF .i64) p2 c2 r] :=
 qB call44 func44 u fun X=>jA 1 u<|zB<|zA 2 u<|qF .s [1] [0] zEe u u u ⟨cl 0 0,⟨⟩⟩<|fun r1 _ k=>k<|zA 1 u<|zC<|zD<|jA 2 u<|zH u (jA 2 u<|zJ<|qA<|wX 0 0 u u<|
  zP u u (fun _ k=>k p1 c1) [900,1] (gq [0]))<|jC<|wF (fun s1 K=>∀ r_2,K [] [(0, r_2)] [] [(0, .slice p1 (List.length y0) c1), (5, vi s1.2)] [Ar (zF .i64) 3 r_2 p1 c1 (List.length y0) s1.1]) (jA 3 u<|zO<|
  qO (fun s2 K=>∀ r_3,K [1] [(0, r_3)] [] [(0, .slice p1 (List.length y0) c1), (5, vi s2.2.1), (6, vi s2.2.2)] [Ar (zF .i64) 3 r_3 p1 c1 (List.length y0) s2.1]) (gv (fun _ k=>k r_1) [0,1] (gq [0]))<|fun s2 _ k r_3=>k<|zD<|jA 4 u<|
  zH u (jC<|zD<|zO<|zB<|zA 2 u<|yL 0 u u u<|fun x1 h1 b2 hp1=>xD 0 0 sI false oI u hp1 h1 u<|zA 1 u<|zC<|zB<|zA 2 u<|qF .s [1] [] zIg u u u ⟨⟩<|fun r2 _ k=>k<|zA 1 u<|zC<|zH u (zB<|
  zA 3 u<|yL 0 u u u<|fun x2 h2 b3 hp2=>xJ .s 0 0 sI x1 false u hp2 h2 u u vI<|fun r_4=>zC<|jB 3 u<|qC<|zN<|jB 3 u<|qD (gv (fun _ k=>k r_4) [0,1] (gq [0])))<|wC<|qC<|zN<|jB 3 u<|
  qD (gv (fun _ k=>k r_3) [0,1] (gq [0])))<|qM<|qK<|qP<|qL<|zK (gv (fun _ k=>k r_3) [0,1] (gq [0])))<|fun s1 _ k r_2=>k<|zB<|zA 2 u<|jsV 0 u u u<|fun u1 p2 c2 f1=>jcv .s 0 0 0 (vi 0) u f1 u vI<|fun r_5=>zC<|zB<|
  zA 2 u<|jsP 0 u u u<|fun x3=>zA 1 u<|zC<|zJ<|wX 0 0 u u<|zP u u (fun _ k=>k p1 c1) [900,1] (gq [0])
theorem zMs {qd : Prop} {y0 : wT} {y1 : Int} {y2 : Int} : qG qd prog 15 [.agg #[vi y0.1, sv p1 y0.2 c1], vi y1, vi y2] [] [Rl vZ p1 c1 y0.2, Pt (yS 64 (zF .u8)) 0 0 yQ] (zFY y0 y1 y2) fun r K=>∀ p2 c2,K (.tuple #[sv p2 r.1 c2, vi r.2]) [] [Rl (wO (zF .i64)) p2 c2 r.1] :=
 qB call15 func15 u fun X=>zB<|qU .s u<|fun b1=>qU .s u<|fun b2=>qU .s u<|fun b3=>zA 2 u<|zC<|zD<|zB<|qR 0 2 u u u<|qH zG0 u (cq [0])<|fun r1 _ k=>k<|zA 1 u<|zC<|jA 2 u<|zH u (jA 3 u<|zJ<|qA<|
  wZ u (lT u (lT u lN)) (fun _ k=>k none 0) [] ⟨gn,⟨⟩⟩)<|jC<|zD<|zO<|zB<|zT 1 u u u<|qH zN4 u ⟨⟩<|fun r2 _ k=>k<|zA 2 u<|zC<|zH u (jA 2 u<|zJ<|qT<|qA<|
  wZ u (lT u (lT u lN)) (fun _ k=>k none 0) [] ⟨gn,⟨⟩⟩)<|xH (fun K=>K [3,4,5] [] [0,1] [(22, vb ((decide (y2 < 0)) || (decide (y0.1 ≤ y2))))] []) (qJ<|zT 2 u u u<|zA 2 u<|yC (b := decide (y2 < 0)) 25 u (fun hb1=>
  zA 4 u<|zI (vb true)<|zA 1 u<|zU<|wS 22 (vb ((decide (y2 < 0)) || (decide (y0.1 ≤ y2)))) u (by rw [hb1]; rfl)<|zK (gv (fun _ k=>k) [0,1,2] (gq [0,1])))<|fun hb1=>zT 2 u u u<|zS 0 u<|zT 0 u u u<|zA 1 u<|
  zI (vb (decide (y0.1 ≤ y2)))<|zA 1 u<|zU<|wS 22 (vb ((decide (y2 < 0)) || (decide (y0.1 ≤ y2)))) u (by rw [hb1]; rfl)<|zK (gv (fun _ k=>k) [0,1,2] (gq [0,1])))<|fun _ k=>k<|zH u (jA 2 u<|zJ<|qT<|qA<|
  wZ u (lT u (lT u lN)) (fun _ k=>k none 0) [] ⟨gn,⟨⟩⟩)<|zB<|zS 0 u<|zT 0 u u u<|zA 2 u<|zC<|zH u (jA 2 u<|zJ<|qT<|qA<|wZ u (lT u (lT u lN)) (fun _ k=>k none 0) [] ⟨gn,⟨⟩⟩)<|wC<|qC<|zN<|zB<|
  qR 0 2 u u u<|qH zMu u (cq [0])<|fun r3 _ k p2 c2 p3 c3=>k<|wM .s (.agg #[.int .u64 0, .slice none 0 0, .slice none 0 0])<|fun b4=>qS .s 3 u u u<|zC<|zB<|qR 3 3 u u u<|zT 1 u u u<|
  zT 2 u u u<|qH zIh u (cq [0,1,3])<|fun r4 _ k=>k<|wM .s (vb false)<|fun b5=>qS .s 4 u u u<|zC<|zB<|zS 0 u<|zT 3 u u u<|qH zBh u (cq [3])<|fun r5 _ k p4 c4 r_1=>k<|zA 1 u<|
  qF .s [5, 2] [] zES u u u (cq [0])<|fun r6 _ k p5 c5=>k<|zA 1 u<|zC<|zB<|zA 2 u<|qF .s [3, 1, 2, 4] [] zGe u u u (cq [0,2,3,5])<|
  fun r7 _ k p6 c6=>k<|zA 1 u<|zC<|zD<|jA 3 u<|zH u (jA 2 u<|zJ<|qA<|wZ u (lT u (lT u lN)) (fun _ k=>k none 0) [] ⟨gn,⟨⟩⟩)<|jC<|jA 3 u<|zJ<|wZ u (lT u (lT u lN)) (fun _ k=>k p6 c6) [] (gq [0])
theorem zTP {qd : Prop} {y0 : List Int} {y1 : List Int} : qG qd prog 30 [sv p1 y0 c1, sv p2 y1 c2] [] [Rl (zF .i64) p1 c1 y0, Rl (zF .i64) p2 c2 y1] (zKi y0 y1) fun r K=>K (vb r) [] [] :=
 qB call30 func30 u fun X=>jA 1 u<|zD<|jA 5 u<|zH u (jA 1 u<|zJ<|qA<|zP u u (fun _ k=>k) [] ⟨⟩)<|jC<|zD<|jA 3 u<|zO<|qO (fun s1 K=>K [0,1,12] [] [0,1] [(13, vi s1)] []) (gv (fun _ k=>k) [] (gq [0,1]))<|fun s1 _ k=>k<|jA 1 u<|zD<|zH u (
  jC<|zD<|zO<|jA 2 u<|yM [] [] 9<|zV 7 [0,1] u<|vO 2 0 u u u u<|fun x1 b1 o1=>vN 3 false oI u (gk 0) u<|zV 3 [4,5] u<|vO 6 2 u u u u<|fun x2 b2 o2=>vN 7 false oI u (gk 0) u<|zV 0 [8] u<|qQ<|zN<|
  zH u (jA 1 u<|zJ<|qT<|qA<|wY<|qT<|qA<|zP u u (fun _ k=>k) [] ⟨⟩)<|wC<|qC<|zN<|jB 2 u<|qD (gv (fun _ k=>k) [] (gq [2,3])))<|qM<|qK<|qP<|qL<|zN<|jA 1 u<|zJ<|zP u u (fun _ k=>k) [] ⟨⟩
theorem zOK {qd : Prop} {y0 : List (List Int)} {y1 : List (List Int)} : qG qd prog 12 [sv p1 y0 c1, sv p2 y1 c2] [] [Rl (wO (zF .i64)) p1 c1 y0, Rl (wO (zF .i64)) p2 c2 y1] (zIW y0 y1) fun r K=>K (vb r) [] [] :=
 qB call12 func12 u fun X=>jA 1 u<|zD<|jA 5 u<|zH u (jA 1 u<|zJ<|qA<|zP u u (fun _ k=>k) [] ⟨⟩)<|jC<|zD<|jA 3 u<|zO<|qO (fun s1 K=>K [0,1,12] [] [0,1] [(13, vi s1)] []) (gv (fun _ k=>k) [] (gq [0,1]))<|fun s1 _ k=>k<|jA 1 u<|zD<|zH u (
  jC<|zD<|zO<|jA 2 u<|yM [] [] 10<|zV 8 [0,1] u<|vO 2 0 u u u u<|fun x1 b1 o1=>vN 3 false oL u (gk 0) u<|fun p3 c3=>zV 4 [4,5] u<|vO 6 3 u u u u<|fun x2 b2 o2=>vN 7 false oL u (gk 0) u<|fun p4 c4=>
  qE 8<|qF (.f u) [] [] zTP u u u (cq [2,0])<|fun r1 _ k=>k<|zY<|zV 0 [9] u<|qQ<|zN<|zH u (jA 1 u<|zJ<|qT<|qA<|wY<|qT<|qA<|zP u u (fun _ k=>k) [] ⟨⟩)<|wC<|qC<|zN<|jB 2 u<|
  qD (gv (fun _ k=>k) [] (gq [4,5])))<|qM<|qK<|qP<|qL<|zN<|jA 1 u<|zJ<|zP u u (fun _ k=>k) [] ⟨⟩
theorem zK1 {qd : Prop} : qG qd prog 5 [] [] [Pt (yS 64 (zF .u8)) 0 0 yQ] (zDJ) fun r K=>K (vb r) [] [] :=
 qB call5 func5 u fun X=>jA 1 u<|zB<|zI (.agg #[vi 0, vi 1])<|vC .s (e := vZ) 58 [vi 0, vi 1] ([(0, 1)] : List wH) (rC (vP vI vI) rN)<|fun p1 c1=>zI (.agg #[vi 2, sv p1 ([(0, 1)] : List wH) c1])<|qH zMs u (cq [0,1])<|
  fun r1 _ k p2 c2=>k<|zA 5 u<|zC<|zB<|zI (.agg #[vi 0, vi 1])<|zI (.agg #[vi 1, vi 2])<|vC .s (e := vZ) 58 [vi 0, vi 1, vi 1, vi 2] ([(0, 1), (1, 2)] : List wH) (rC (vP vI vI) (rC (vP vI vI) rN))<|fun p3 c3=>
  zI (.agg #[vi 3, sv p3 ([(0, 1), (1, 2)] : List wH) c3])<|qH zMr u (cq [0,3])<|fun r2 _ k p4 c4=>k<|zA 5 u<|zC<|wF (fun s1 K=>K [] [] [4] [(0, vb s1)] []) (qJ<|zA 3 u<|wG 22 u (zA 2 u<|
  zI (vb (r2.2 == 0))<|zA 1 u<|wG 26 u (zA 1 u<|vC .s (e := zF .i64) 3 [vi 0] ([0] : List Int) (rC vI rN)<|fun p5 c5=>
  vC .s (e := wO (zF .i64)) 31 [sv p5 ([0] : List Int) c5] ([([0] : List Int)] : List (List Int)) (rC (vL (gk 0)) rN)<|fun p6 c6=>qH zOK u (cq [4,0])<|fun r3 _ k=>k<|zI (vb r3)<|zA 1 u<|wG 32 u (zA 1 u<|
  vC .s (e := zF .i64) 3 [vi 0, vi 2] ([0, 2] : List Int) (rC vI (rC vI rN))<|fun p7 c7=>vC .s (e := wO (zF .i64)) 31 [sv p7 ([0, 2] : List Int) c7] ([([0, 2] : List Int)] : List (List Int)) (rC (vL (gk 0)) rN)<|fun p8 c8=>
  qH zOK u (cq [4,0])<|fun r4 _ k=>k<|zI (vb r4)<|zA 1 u<|zU<|zK (gv (fun _ k=>k) [] (gq [8])))<|zA 4 u<|zI (vb false)<|zA 1 u<|zU<|zK (gv (fun _ k=>k) [] (gq [6])))<|zA 4 u<|zI (vb false)<|zA 5 u<|
  zI (vb false)<|zA 1 u<|zU<|zK (gv (fun _ k=>k) [] (gq [4])))<|zA 2 u<|zI (vb false)<|zA 5 u<|zI (vb false)<|zA 5 u<|zI (vb false)<|zA 1 u<|zU<|zK (gv (fun _ k=>k) [] (gq [4])))<|fun s1 _ k=>k<|zJ<|
  zP u u (fun _ k=>k) [] ⟨⟩
theorem zOv {qd : Prop} {y0 : List zM} {y1 : zM} : qG qd prog 84 [sv p1 y0 c1, .agg #[vb y1.1, vs y1.2]] [] [Rl vA p1 c1 y0] (zKl y0 y1) fun r K=>K (vb r) [] [] :=
 qB call84 func84 u fun X=>zB<|qU .s u<|fun b1=>zA 1 u<|zC<|zD<|jA 1 u<|zO<|qO (fun s1 K=>K [0,3] [] [0] [(5, vi s1)] []) (gv (fun _ k=>k) [0] (gq [0]))<|fun s1 _ k=>k<|zD<|jA 4 u<|zH u (jC<|zD<|zO<|yM [] [0] 6<|zV 4 [0,1] u<|
  vO 2 0 u u u u<|fun x1 b2 o1=>vN 3 true yW u (gk 0) u<|vQ 4 0 2 u u u u<|wB 5 (vb (x1 == y1)) u<|qQ<|zN<|zH u (jA 1 u<|zJ<|qT<|qA<|wY<|qT<|qA<|zP u u (fun _ k=>k) [] ⟨⟩)<|wC<|qC<|zN<|
  jB 3 u<|qD (gv (fun _ k=>k) [0] (gq [1])))<|qM<|qK<|qP<|qL<|zN<|jA 1 u<|zJ<|zP u u (fun _ k=>k) [] ⟨⟩
theorem zSQ {qd : Prop} {y0 : zR} : qG qd prog 83 [.agg #[sv p1 y0.1 c1, sv p2 y0.2.1 c2, sv p3 y0.2.2 c3]] [] [Rl wN p1 c1 y0.1, Rl wJ p2 c2 y0.2.1, Rl wQ p3 c3 y0.2.2] (zJd y0) fun r K=>∀ p4 c4 p5 c5 r_1 p6 c6,K (.agg #[sv p4 r.1 c4, sv p5 r.2.1 c5, sv p6 r.2.2 c6]) [r_1] [Rl wN p4 c4 r.1, Al wJ 73 r_1 p5 c5 r.2.1, Rl wQ p6 c6 r.2.2] :=
 qB call83 func83 u fun X=>zB<|qU .s u<|fun b1=>wM .s (.agg #[.slice none 0 0, .slice none 0 0, .slice none 0 0])<|fun b2=>zC<|
  wF (fun s1 K=>∀ b3 p4 c4 r_1 p5 c5 r_2 p6 c6 r_3,K [1,2] [(2, bx b3 26 [sv p4 s1.1 c4, sv p5 s1.2.1 c5, sv p6 s1.2.2 c6]), (3, r_1), (4, r_2), (5, r_3)] [0,1,2] [(3, pt b3 0)] [Al wN 67 r_1 p4 c4 s1.1, Al wJ 73 r_2 p5 c5 s1.2.1, Al wQ 75 r_3 p6 c6 s1.2.2]) (
  yU [] [0] 11<|qN 1 0 u u<|qY 2 0 u u u u<|qN 5 2 u u<|qY 6 0 u u u u<|jd3 0 4 9 (xN (.f u) (e := wN) 67 [] ([] : List vM) rN<|fun r_4 p7 c7=>zY<|jd3 3 4 9 (wP (.f u) 2 0 u (gk 1) u u<|
  fun x1 r_5 p8 c8=>zY<|xU 4 9 (xN (.f u) (e := wQ) 75 [] ([] : List yV) rN<|fun r_6 p9 c9=>zY<|xU 7 9 (wP (.f u) 3 0 u (gk 5) u u<|fun x2 r_7 p10 c10=>zY<|
  wB 8 (.agg #[sv p8 x1 c8, .slice none 0 0, sv p10 x2 c10]) u<|vK wJ 73<|qE 9<|wM (.f u) (.agg #[.slice none 0 0, .slice none 0 0, .slice none 0 0])<|fun b4=>zY<|qE 10<|qS (o := 0) (.f u) 5 u u u<|zY<|qQ<|
  zK (gv (fun _ k=>k b4 p8 c8 r_5 none 0 [] p10 c10 r_7) [0,1,5,2,4,3] (gq [3,0,1,5,6,7]))) <|wM (.f u) (.agg #[.slice none 0 0, .slice none 0 0, .slice none 0 0])<|fun b5=>zY<|qE 7<|wP (.f u) 3 0 u (gk 5) u u<|
  fun x3 r_8 p11 c11=>zY<|wB 8 (.agg #[sv p8 x1 c8, .slice none 0 0, sv p11 x3 c11]) u<|vK wJ 73<|qE 10<|qS (o := 0) (.f u) 4 u u u<|zY<|qQ<|
  zK (gv (fun _ k=>k b5 p8 c8 r_5 none 0 [] p11 c11 r_8) [0,1,4,2,5,3] (gq [3,0,1,5,6,7]))) <|wM (.f u) (.agg #[.slice none 0 0, .slice none 0 0, .slice none 0 0])<|fun b6=>zY<|qE 4<|
  xN (.f u) (e := wQ) 75 [] ([] : List yV) rN<|fun r_9 p12 c12=>zY<|qE 7<|wP (.f u) 4 0 u (gk 5) u u<|fun x4 r_10 p13 c13=>zY<|wB 8 (.agg #[sv p8 x1 c8, .slice none 0 0, sv p13 x4 c13]) u<|vK wJ 73<|
  qE 10<|qS (o := 0) (.f u) 3 u u u<|zY<|qQ<|zK (gv (fun _ k=>k b6 p8 c8 r_5 none 0 [] p13 c13 r_10) [0,1,3,2,5,4] (gq [3,0,1,5,6,7]))) (xN (.f u) (e := wQ) 75 [] ([] : List yV) rN<|fun r_11 p14 c14=>zY<|
  xU 3 9 (wP (.f u) 2 1 u (gk 2) u u<|fun x5 r_12 p15 c15=>zY<|xU 7 9 (wP (.f u) 3 1 u (gk 5) u u<|fun x6 r_13 p16 c16=>zY<|wB 8 (.agg #[sv p15 x5 c15, .slice none 0 0, sv p16 x6 c16]) u<|vK wJ 73<|qE 9<|
  wM (.f u) (.agg #[.slice none 0 0, .slice none 0 0, .slice none 0 0])<|fun b7=>zY<|qE 10<|qS (o := 0) (.f u) 5 u u u<|zY<|qQ<|zK (gv (fun _ k=>k b7 p15 c15 r_12 none 0 [] p16 c16 r_13) [0,1,5,2,4,3] (gq [2,0,1,5,6,7]))) <|
  wM (.f u) (.agg #[.slice none 0 0, .slice none 0 0, .slice none 0 0])<|fun b8=>zY<|qE 7<|wP (.f u) 3 1 u (gk 5) u u<|fun x7 r_14 p17 c17=>zY<|wB 8 (.agg #[sv p15 x5 c15, .slice none 0 0, sv p17 x7 c17]) u<|vK wJ 73<|
  qE 10<|qS (o := 0) (.f u) 4 u u u<|zY<|qQ<|zK (gv (fun _ k=>k b8 p15 c15 r_12 none 0 [] p17 c17 r_14) [0,1,4,2,5,3] (gq [2,0,1,5,6,7]))) <|wM (.f u) (.agg #[.slice none 0 0, .slice none 0 0, .slice none 0 0])<|fun b9=>zY<|
  qE 3<|wP (.f u) 2 1 u (gk 2) u u<|fun x8 r_15 p18 c18=>zY<|qE 7<|wP (.f u) 3 1 u (gk 5) u u<|fun x9 r_16 p19 c19=>zY<|wB 8 (.agg #[sv p18 x8 c18, .slice none 0 0, sv p19 x9 c19]) u<|vK wJ 73<|qE 10<|
  qS (o := 0) (.f u) 4 u u u<|zY<|qQ<|zK (gv (fun _ k=>k b9 p18 c18 r_15 none 0 [] p19 c19 r_16) [0,1,4,2,5,3] (gq [2,0,1,5,6,7]))) <|wM (.f u) (.agg #[.slice none 0 0, .slice none 0 0, .slice none 0 0])<|fun b10=>zY<|xU 3 4
  (wP (.f u) 2 0 u (gk 1) u u<|fun x10 r_17 p20 c20=>zY<|qE 4<|xN (.f u) (e := wQ) 75 [] ([] : List yV) rN<|fun r_18 p21 c21=>zY<|qE 7<|wP (.f u) 4 0 u (gk 5) u u<|fun x11 r_19 p22 c22=>zY<|
  wB 8 (.agg #[sv p20 x10 c20, .slice none 0 0, sv p22 x11 c22]) u<|vK wJ 73<|qE 10<|qS (o := 0) (.f u) 3 u u u<|zY<|qQ<|zK (gv (fun _ k=>k b10 p20 c20 r_17 none 0 [] p22 c22 r_19) [0,1,3,2,5,4] (gq [3,0,1,5,6,7]))) <|
  xN (.f u) (e := wQ) 75 [] ([] : List yV) rN<|fun r_20 p23 c23=>zY<|qE 3<|wP (.f u) 2 1 u (gk 2) u u<|fun x12 r_21 p24 c24=>zY<|qE 7<|wP (.f u) 4 1 u (gk 5) u u<|fun x13 r_22 p25 c25=>zY<|
  wB 8 (.agg #[sv p24 x12 c24, .slice none 0 0, sv p25 x13 c25]) u<|vK wJ 73<|qE 10<|qS (o := 0) (.f u) 3 u u u<|zY<|qQ<|zK (gv (fun _ k=>k b10 p24 c24 r_21 none 0 [] p25 c25 r_22) [0,1,3,2,5,4] (gq [2,0,1,5,6,7]))) (
  xN (.f u) (e := wQ) 75 [] ([] : List yV) rN<|fun r_23 p26 c26=>zY<|xU 0 9 (xN (.f u) (e := wN) 67 [] ([] : List vM) rN<|fun r_24 p27 c27=>zY<|xU 3 9 (wP (.f u) 3 0 u (gk 2) u u<|
  fun x14 r_25 p28 c28=>zY<|xU 7 9 (wP (.f u) 2 2 u (gk 5) u u<|fun x15 r_26 p29 c29=>zY<|wB 8 (.agg #[sv p28 x14 c28, .slice none 0 0, sv p29 x15 c29]) u<|vK wJ 73<|qE 9<|
  wM (.f u) (.agg #[.slice none 0 0, .slice none 0 0, .slice none 0 0])<|fun b11=>zY<|qE 10<|qS (o := 0) (.f u) 5 u u u<|zY<|qQ<|zK (gv (fun _ k=>k b11 p28 c28 r_25 none 0 [] p29 c29 r_26) [0,1,5,3,4,2] (gq [2,0,1,5,6,7])))
  <|wM (.f u) (.agg #[.slice none 0 0, .slice none 0 0, .slice none 0 0])<|fun b12=>zY<|qE 7<|wP (.f u) 2 2 u (gk 5) u u<|fun x16 r_27 p30 c30=>zY<|wB 8 (.agg #[sv p28 x14 c28, .slice none 0 0, sv p30 x16 c30]) u<|
  vK wJ 73<|qE 10<|qS (o := 0) (.f u) 4 u u u<|zY<|qQ<|zK (gv (fun _ k=>k b12 p28 c28 r_25 none 0 [] p30 c30 r_27) [0,1,4,3,5,2] (gq [2,0,1,5,6,7]))) <|
  wM (.f u) (.agg #[.slice none 0 0, .slice none 0 0, .slice none 0 0])<|fun b13=>zY<|qE 3<|wP (.f u) 3 0 u (gk 2) u u<|fun x17 r_28 p31 c31=>zY<|qE 7<|wP (.f u) 2 2 u (gk 5) u u<|fun x18 r_29 p32 c32=>zY<|
  wB 8 (.agg #[sv p31 x17 c31, .slice none 0 0, sv p32 x18 c32]) u<|vK wJ 73<|qE 10<|qS (o := 0) (.f u) 4 u u u<|zY<|qQ<|zK (gv (fun _ k=>k b13 p31 c31 r_28 none 0 [] p32 c32 r_29) [0,1,4,3,5,2] (gq [2,0,1,5,6,7]))) <|
  wM (.f u) (.agg #[.slice none 0 0, .slice none 0 0, .slice none 0 0])<|fun b14=>zY<|qE 0<|xN (.f u) (e := wN) 67 [] ([] : List vM) rN<|fun r_30 p33 c33=>zY<|qE 3<|wP (.f u) 4 0 u (gk 2) u u<|
  fun x19 r_31 p34 c34=>zY<|qE 7<|wP (.f u) 2 2 u (gk 5) u u<|fun x20 r_32 p35 c35=>zY<|wB 8 (.agg #[sv p34 x19 c34, .slice none 0 0, sv p35 x20 c35]) u<|vK wJ 73<|qE 10<|qS (o := 0) (.f u) 3 u u u<|zY<|qQ<|
  zK (gv (fun _ k=>k b14 p34 c34 r_31 none 0 [] p35 c35 r_32) [0,1,3,4,5,2] (gq [2,0,1,5,6,7]))) <|wM (.f u) (.agg #[.slice none 0 0, .slice none 0 0, .slice none 0 0])<|fun b15=>zY<|xU 0 4 (
  xN (.f u) (e := wN) 67 [] ([] : List vM) rN<|fun r_33 p36 c36=>zY<|xU 3 4 (wP (.f u) 3 0 u (gk 1) u u<|fun x21 r_34 p37 c37=>zY<|qE 4<|xN (.f u) (e := wQ) 75 [] ([] : List yV) rN<|
  fun r_35 p38 c38=>zY<|qE 7<|wP (.f u) 4 0 u (gk 5) u u<|fun x22 r_36 p39 c39=>zY<|wB 8 (.agg #[sv p37 x21 c37, .slice none 0 0, sv p39 x22 c39]) u<|vK wJ 73<|qE 10<|qS (o := 0) (.f u) 2 u u u<|zY<|qQ<|
  zK (gv (fun _ k=>k b15 p37 c37 r_34 none 0 [] p39 c39 r_36) [0,1,2,3,5,4] (gq [3,0,1,5,6,7]))) <|xN (.f u) (e := wQ) 75 [] ([] : List yV) rN<|fun r_37 p40 c40=>zY<|qE 3<|wP (.f u) 3 1 u (gk 2) u u<|
  fun x23 r_38 p41 c41=>zY<|qE 7<|wP (.f u) 4 1 u (gk 5) u u<|fun x24 r_39 p42 c42=>zY<|wB 8 (.agg #[sv p41 x23 c41, .slice none 0 0, sv p42 x24 c42]) u<|vK wJ 73<|qE 10<|qS (o := 0) (.f u) 2 u u u<|zY<|qQ<|
  zK (gv (fun _ k=>k b15 p41 c41 r_38 none 0 [] p42 c42 r_39) [0,1,2,3,5,4] (gq [2,0,1,5,6,7]))) <|xN (.f u) (e := wQ) 75 [] ([] : List yV) rN<|fun r_40 p43 c43=>zY<|qE 0<|
  xN (.f u) (e := wN) 67 [] ([] : List vM) rN<|fun r_41 p44 c44=>zY<|qE 3<|wP (.f u) 4 0 u (gk 2) u u<|fun x25 r_42 p45 c45=>zY<|qE 7<|wP (.f u) 3 2 u (gk 5) u u<|fun x26 r_43 p46 c46=>zY<|
  wB 8 (.agg #[sv p45 x25 c45, .slice none 0 0, sv p46 x26 c46]) u<|vK wJ 73<|qE 10<|qS (o := 0) (.f u) 2 u u u<|zY<|qQ<|zK (gv (fun _ k=>k b15 p45 c45 r_42 none 0 [] p46 c46 r_43) [0,1,2,4,5,3] (gq [2,0,1,5,6,7])))<|
  fun s1 _ k b3 p4 c4 r_1 p5 c5 r_2 p6 c6 r_3=>k<|wF (fun s2 K=>∀ p47 c47 r_44,K [2,3] [(0, []), (2, bx b3 26 [sv p4 s1.1 c4, sv p47 s2 c47, sv p6 s1.2.2 c6]), (4, r_44)] [0,2] [] [Al wJ 73 r_44 p47 c47 s2]) (jA 1 u<|zO<|
  qO (fun s3 K=>∀ p48 c48 r_45,K [1,2,3] [(2, bx b3 26 [sv p4 s1.1 c4, sv p48 s3.2 c48, sv p6 s1.2.2 c6]), (4, r_45)] [3,4,5,0,2] [(4, vi s3.1)] [Al wJ 73 r_45 p48 c48 s3.2]) (gv (fun _ k=>k p5 c5 r_2) [0,1,2,3,4,5] (gq [1,3,4,5,0,2]))<|
  fun s3 _ k p48 c48 r_45=>k<|zD<|zB<|zA 1 u<|zS 1 u<|zT 0 u u u<|zA 2 u<|zC<|zH u (jC<|zD<|zO<|zB<|zS 1 u<|zT 0 u u u<|zA 1 u<|qW 2 u u u<|fun x27 b16 o1=>qV true zMU (gk 0) u<|fun p49 c49=>
  wM .s (.agg #[vs [], vb false, vi 0, .slice none 0 0, vb false, vs []])<|fun b17=>qS .s 6 u u u<|zC<|zB<|xN .s (e := vA) 30 [] ([] : List zM) rN<|fun r_46 p50 c50=>zS 3 u<|zT 6 u u u<|
  wP .s 7 0 u (gk 1) u u<|fun x28 r_47 p51 c51=>zS 3 u<|qS .s 6 u u u<|zC<|qJ<|zS 1 u<|zT 2 u u u<|qR 6 6 u u u<|wX 7 0 u u<|
  vC .s (e := wJ) 73 [vs x27.1, vb x27.2.1, vi x27.2.2.1, sv p51 x28 c51, vb x27.2.2.2.2.1, vs x27.2.2.2.2.2] ([(x27.1, x27.2.1, x27.2.2.1, x28, x27.2.2.2.2)] : List wK) (rC (vP vS (vP vB (vP vI (vP (vL (gk 0)) (vP vB vS))))) rN)<|
  fun p52 c52=>wP .s 4 6 u (gk 0) u u<|fun x29 r_48 p53 c53=>zS 1 u<|qS .s 2 u u u<|zU<|qC<|zN<|jB 3 u<|qD (gv (fun _ k=>k p53 c53 r_48) [0,1,2,3,4,5] (gq [0,8,9,10,11,12])))<|qM<|qK<|qP<|qL<|
  zK (gv (fun _ k=>k p48 c48 r_45) [900,1,2,3,4,5] (gq [0,4,5])))<|fun s2 _ k p47 c47 r_44=>k<|zB<|qR 2 3 u u u<|qS .s 1 u u u<|zC<|zJ<|wX 3 1 u u<|wX 5 3 u u<|
  wZ u (lC 1 (.agg #[sv p4 s1.1 c4, sv p47 s2 c47, sv p6 s1.2.2 c6]) u u lN) (fun _ k=>k p4 c4 p47 c47 r_44 p6 c6) [4] (gq [1,2,0])
theorem zPW {qd : Prop} {y0 : zR} {y1 : List zM} : qG qd prog 37 [.agg #[sv p1 y0.1 c1, sv p2 y0.2.1 c2, sv p3 y0.2.2 c3], sv p4 y1 c4] [] [Rl wN p1 c1 y0.1, Rl wJ p2 c2 y0.2.1, Rl wQ p3 c3 y0.2.2, Rl vA p4 c4 y1] (zH0 y0 y1) fun r K=>∀ p5 c5 p6 c6 p7 c7,K (.agg #[sv p5 r.1 c5, sv p6 r.2.1 c6, sv p7 r.2.2 c7]) [] [Rl wN p5 c5 r.1, Rl wJ p6 c6 r.2.1, Rl wQ p7 c7 r.2.2] :=
 qB call37 func37 u fun X=>zB<|qU .s u<|fun b1=>wM .s (.agg #[.slice none 0 0, .slice none 0 0, .slice none 0 0])<|fun b2=>zC<|zB<|qR 0 3 u u u<|qH zSQ u (cq [0,1,2])<|fun r1 _ k p5 c5 p6 c6 r_1 p7 c7=>k<|
  wM .s (.agg #[.slice none 0 0, .slice none 0 0, .slice none 0 0])<|fun b3=>qS .s 3 u u u<|zC<|
  wF (fun s1 K=>∀ p8 c8 r_2,K [4,5] [(0, []), (2, r_2), (3, bx b3 26 [sv p5 r1.1 c5, sv p8 s1 c8, sv p7 r1.2.2 c7])] [0,2] [] [Al wJ 73 r_2 p8 c8 s1]) (jA 1 u<|zO<|
  qO (fun s2 K=>∀ p9 c9 r_3,K [1,2,4,5] [(2, r_3), (3, bx b3 26 [sv p5 r1.1 c5, sv p9 s2.2 c9, sv p7 r1.2.2 c7])] [6,3,4,5,0,2] [(6, vi s2.1)] [Al wJ 73 r_3 p9 c9 s2.2]) (gv (fun _ k=>k p6 c6 r_1) [0,1,2,3] (gq [1,6,3,4,5,0,2]))<|
  fun s2 _ k p9 c9 r_3=>k<|zD<|zB<|zA 1 u<|zS 1 u<|zT 3 u u u<|zA 2 u<|zC<|zH u (jC<|zD<|zO<|jA 1 u<|zO<|
  qO (fun s3 K=>∀ p10 c10 r_4,K [1,2,4,5,6] [(2, r_4), (3, bx b3 26 [sv p5 r1.1 c5, sv p10 s3.2 c10, sv p7 r1.2.2 c7])] [1,2,3,4,5,6] [(7, vi s3.1)] [Al wJ 73 r_4 p10 c10 s3.2]) (gv (fun _ k=>k p9 c9 r_3) [0,1,2,3] (gq [0,1,2,3,4,5,6]))<|
  fun s3 _ k p10 c10 r_4=>k<|zD<|zB<|zA 1 u<|zS 2 u<|zT 0 u u u<|zA 2 u<|zC<|zH u (jC<|zD<|zO<|zB<|zS 2 u<|zT 0 u u u<|zA 1 u<|qW 4 u u u<|fun x1 b4 o1=>qV true zKf (gk 0) u<|
  wM .s (.agg #[vs [], vi 0, vb false, vs []])<|fun b5=>qS .s 4 u u u<|zC<|wF (fun s4 K=>K [1,2,4,5,6,7,8] [] [2,3,4,5,6,1,7] [(53, vb s4)] []) (yU [] [2, 3, 4] 24<|qN 0 0 u u<|qY 1 4 u u u u<|qN 2 1 u u<|
  qY 3 3 u u u u<|zV 19 [4] u<|tC 5 1 u u u u<|fun x2 h1 b6 hp1=>qN 6 0 u u<|tD 7 2 1 sI.fst false oS u u hp1 h1 u<|zV 14 [8,9] u<|wG 39 u (qN 10 1 u u<|qY 11 3 u u u u<|zV 11 [12] u<|
  tC 13 1 u u u u<|fun x3 h2 b7 hp2=>qN 14 1 u u<|tD 15 2 1 sI.snd.fst false oB u u hp2 h2 u<|zV 7 [16] u<|wB 17 (vb (!x3.2.1)) u<|zV 5 [18] u<|wG 48 u (zV 4 [19] u<|qN 20 2 u u<|
  vQ 21 4 2 u u u u<|qE 22<|qF (.f u) [] [] zOv u u u (cq [2])<|fun r2 _ k=>k<|zY<|wB 23 (vb r2) u<|qQ<|zK (gv (fun _ k=>k) [0,1,2,3,4] (gq [2,3,4,5,6,1,7])))<|zV 1 [19,20,21,22] u<|wB 23 (vb false) u<|
  qQ<|zK (gv (fun _ k=>k) [0,1,2,3,4] (gq [2,3,4,5,6,1,7])))<|zV 7 [10,11,12,13,14,15,16] u<|wB 17 (vb false) u<|zV 1 [18,19,20,21,22] u<|wB 23 (vb false) u<|qQ<|zK (gv (fun _ k=>k) [0,1,2,3,4] (gq [2,3,4,5,6,1,7])))<|
  fun s4 _ k=>k<|zH u (qJ<|zS 1 u<|zT 3 u u u<|zA 1 u<|zS 1 u<|zT 4 u u u<|yL 5 u u u<|fun x4 h3 b8 hp3=>zS 2 u<|xJ .s 2 5 sI.snd.snd.fst x1.2.1 false u hp3 h3 u u vI<|fun r_5=>zU<|qC<|zN<|
  jB 3 u<|
  jbL (fun q_=>[bx b1 26 [sv p1 y0.1 c1, sv p2 y0.2.1 c2, sv p3 y0.2.2 c3], bx b2 26 [.slice none 0 0, .slice none 0 0, .slice none 0 0], r_5, bx b3 26 [sv p5 r1.1 c5, .slice p10 q_ c10, sv p7 r1.2.2 c7], bx b5 75 [vs x1.1, vi x1.2.1, vb x1.2.2.1, vs x1.2.2.2]]) (gk 0) u<|
  qD (gv (fun _ k=>k p10 c10 r_5) [0,1,2,3] (gq [0,2,3,4,5,6,8])))<|wC<|qC<|zN<|jB 3 u<|qD (gv (fun _ k=>k p10 c10 r_4) [0,1,2,3] (gq [5,0,1,2,3,4,6])))<|qM<|qK<|qP<|qL<|qC<|zN<|jB 3 u<|
  qD (gv (fun _ k=>k p10 c10 r_4) [0,1,2,3] (gq [0,1,2,3,4,5,6])))<|qM<|qK<|qP<|qL<|zK (gv (fun _ k=>k p9 c9 r_3) [900,1,2,3] (gq [0,5,6])))<|fun s1 _ k p8 c8 r_2=>k<|zB<|qR 3 3 u u u<|qS .s 1 u u u<|zC<|zJ<|
  wX 2 0 u u<|wZ u (lC 1 (.agg #[sv p5 r1.1 c5, sv p8 s1 c8, sv p7 r1.2.2 c7]) u u lN) (fun _ k=>k p5 c5 p8 c8 p7 c7) [] (gq [2,0,3])
theorem zGF {qd : Prop} {y0 : vD} : qG qd prog 74 [vs y0] [] [] (zB3 y0) fun r K=>K (vb r) [] [] :=
 qB call74 func74 u fun X=>jA 1 u<|zD<|wF (fun s1 K=>K [0] [] [] [(21, vb s1)] []) (qJ<|zA 4 u<|wG 7 u (zA 3 u<|zI (vb true)<|zA 4 u<|zI (vb true)<|zA 4 u<|zI (vb true)<|zU<|zK (gv (fun _ k=>k) [] ⟨⟩))<|zA 3 u<|
  zI (vb (decide (12 < (len y0))))<|zA 1 u<|wG 12 u (zA 3 u<|zI (vb true)<|zA 4 u<|zI (vb true)<|zU<|zK (gv (fun _ k=>k) [] ⟨⟩))<|zA 1 u<|tA fun x1 h1=>jv (fun h=>zKV h u u underlying9 h1)<|zA 1 u<|
  zI (vb (decide (x1 < 97)))<|zA 1 u<|wG 17 u (zA 3 u<|zI (vb true)<|zU<|zK (gv (fun _ k=>k) [] ⟨⟩))<|zA 1 u<|tA fun x2 h2=>jv (fun h=>zKV h u u underlying9 h2)<|zA 1 u<|zI (vb (decide (122 < x2)))<|zU<|
  zK (gv (fun _ k=>k) [] ⟨⟩))<|fun s1 _ k=>k<|zH u (jA 1 u<|zJ<|qA<|zP u u (fun _ k=>k) [] ⟨⟩)<|jC<|zD<|jA 1 u<|zO<|qO (fun s2 K=>K [0] [] [] [(3, vi s2)] []) (gv (fun _ k=>k) [] ⟨⟩)<|fun s2 _ k=>k<|zD<|jA 4 u<|zH u (
  jC<|zD<|zO<|wF (fun s3 K=>K [0,3] [] [] [(55, vb s3)] []) (qJ<|zA 2 u<|tA fun x3 h3=>jv (fun h=>zKV h u u underlying9 h3)<|zA 2 u<|wG 32 u (zA 4 u<|zI (vb true)<|zA 3 u<|tA fun x4 h4=>
  jv (fun h=>zKV h u u underlying9 h4)<|zA 2 u<|wG 43 u (zA 4 u<|zI (vb true)<|zI (vb true)<|zA 3 u<|tA fun x5 h5=>jv (fun h=>zKV h u u underlying9 h5)<|zA 1 u<|zI (vb (x5 != 95))<|zU<|
  zK (gv (fun _ k=>k) [] ⟨⟩))<|zA 2 u<|tA fun x6 h6=>jv (fun h=>zKV h u u underlying9 h6)<|zA 1 u<|zI (vb (decide (57 < x6)))<|zI (vb (decide (57 < x6)))<|zA 1 u<|wG 50 u (zA 2 u<|tA fun x7 h7=>
  jv (fun h=>zKV h u u underlying9 h7)<|zA 1 u<|zI (vb (x7 != 95))<|zU<|zK (gv (fun _ k=>k) [] ⟨⟩))<|zA 4 u<|zI (vb false)<|zU<|zK (gv (fun _ k=>k) [] ⟨⟩))<|zA 2 u<|tA fun x8 h8=>
  jv (fun h=>zKV h u u underlying9 h8)<|zA 1 u<|zI (vb (decide (122 < x8)))<|zA 1 u<|wG 38 u (zA 2 u<|tA fun x9 h9=>jv (fun h=>zKV h u u underlying9 h9)<|zA 2 u<|wG 43 u (zA 4 u<|zI (vb true)<|
  zI (vb true)<|zA 3 u<|tA fun x10 h10=>jv (fun h=>zKV h u u underlying9 h10)<|zA 1 u<|zI (vb (x10 != 95))<|zU<|zK (gv (fun _ k=>k) [] ⟨⟩))<|zA 2 u<|tA fun x11 h11=>
  jv (fun h=>zKV h u u underlying9 h11)<|zA 1 u<|zI (vb (decide (57 < x11)))<|zI (vb (decide (57 < x11)))<|zA 1 u<|wG 50 u (zA 2 u<|tA fun x12 h12=>jv (fun h=>zKV h u u underlying9 h12)<|zA 1 u<|
  zI (vb (x12 != 95))<|zU<|zK (gv (fun _ k=>k) [] ⟨⟩))<|zA 4 u<|zI (vb false)<|zU<|zK (gv (fun _ k=>k) [] ⟨⟩))<|zA 10 u<|zI (vb false)<|zA 5 u<|zI (vb false)<|zU<|zK (gv (fun _ k=>k) [] ⟨⟩))<|fun s3 _ k=>k<|zH u (
  jA 1 u<|zJ<|qT<|qA<|wY<|qT<|qA<|zP u u (fun _ k=>k) [] ⟨⟩)<|wC<|qC<|zN<|jB 3 u<|qD (gv (fun _ k=>k) [] ⟨⟩))<|qM<|qK<|qP<|qL<|zN<|jA 1 u<|zJ<|zP u u (fun _ k=>k) [] ⟨⟩
theorem zHR {qd : Prop} {y0 : zM} : qG qd prog 28 [.agg #[vb y0.1, vs y0.2]] [] [] (zCI y0) fun r K=>K (vb r) [] [] :=
 qB call28 func28 u fun X=>zB<|qU .s u<|fun b1=>zA 1 u<|zC<|zB<|zS 1 u<|zT 0 u u u<|qH zGF u ⟨⟩<|fun r1 _ k=>k<|zA 1 u<|zC<|zJ<|zP u u (fun _ k=>k) [] ⟨⟩
theorem zOE {qd : Prop} {y0 : zR} {y1 : vD} : qG qd prog 131 [.agg #[sv p1 y0.1 c1, sv p2 y0.2.1 c2, sv p3 y0.2.2 c3], vs y1] [] [Rl wN p1 c1 y0.1, Rl wJ p2 c2 y0.2.1, Rl wQ p3 c3 y0.2.2] (zJ3 y0 y1) fun r K=>K (vi r) [] [] :=
 qB call131 func131 u fun X=>zB<|qU .s u<|fun b1=>zA 1 u<|zC<|zD<|jA 1 u<|zO<|qO (fun s1 K=>K [1,2] [] [0,1,2] [(5, vi s1)] []) (gv (fun _ k=>k) [0] (gq [0,1,2]))<|fun s1 _ k=>k<|zD<|zB<|zA 1 u<|zS 1 u<|zT 0 u u u<|zA 2 u<|zC<|zH u (
  jC<|zD<|zO<|zB<|zS 1 u<|zT 0 u u u<|zA 1 u<|qW 1 u u u<|fun x1 b2 o1=>zS 0 u<|qV false oS (gf (gk 0)) u<|zA 2 u<|zC<|zH u (jA 2 u<|zJ<|qT<|qA<|wY<|qT<|qA<|zP u u (fun _ k=>k) [] ⟨⟩)<|wC<|
  qC<|zN<|jB 3 u<|qD (gv (fun _ k=>k) [0] (gq [1,2,3])))<|qM<|qK<|qP<|qL<|zN<|jA 1 u<|zJ<|zP u u (fun _ k=>k) [] ⟨⟩
theorem zOo {qd : Prop} {y0 : zR} {y1 : zM} : qG qd prog 129 [.agg #[sv p1 y0.1 c1, sv p2 y0.2.1 c2, sv p3 y0.2.2 c3], .agg #[vb y1.1, vs y1.2]] [] [Rl wN p1 c1 y0.1, Rl wJ p2 c2 y0.2.1, Rl wQ p3 c3 y0.2.2] (zJE y0 y1) fun r K=>K (vi r) [] [] :=
 qB call129 func129 u fun X=>zB<|qU .s u<|fun b1=>qU .s u<|fun b2=>zA 1 u<|zC<|zD<|jA 1 u<|zO<|qO (fun s1 K=>K [2,3] [] [0,1,2] [(5, vi s1)] []) (gv (fun _ k=>k) [0,1] (gq [0,1,2]))<|fun s1 _ k=>k<|zD<|zB<|zA 1 u<|zS 0 u<|zT 0 u u u<|
  zA 2 u<|zC<|zH u (jC<|zD<|zO<|yM [] [0, 1] 8<|qN 0 0 u u<|qY 1 0 u u u u<|zV 5 [2] u<|vO 3 0 u u u u<|fun x1 b3 o1=>qN 4 0 u u<|vN 5 true yW u (gf (gk 0)) u<|vQ 6 1 2 u u u u<|
  wB 7 (vb (x1.1 == y1)) u<|qQ<|zN<|zH u (jA 2 u<|zJ<|qT<|qA<|wY<|qT<|qA<|zP u u (fun _ k=>k) [] ⟨⟩)<|wC<|qC<|zN<|jB 3 u<|qD (gv (fun _ k=>k) [0,1] (gq [1,2,3])))<|qM<|qK<|qP<|qL<|zN<|jA 1 u<|zJ<|
  zP u u (fun _ k=>k) [] ⟨⟩
theorem zLf {qd : Prop} {y0 : Int} : qG qd prog 132 [vi y0] [] [] (zFc y0) fun r K=>K (vb r) [] [] :=
 qB call132 func132 u fun X=>jA 1 u<|jjp (fun K=>K [(2, vb ((decide (0 ≤ y0)) && (decide (y0 ≤ 9))))] [] []) (qJ<|zA 3 u<|yC (b := decide (0 ≤ y0)) 5 u (fun hb1=>zA 2 u<|zI (vb (decide (y0 ≤ 9)))<|zA 1 u<|zU<|
  wS 2 (vb ((decide (0 ≤ y0)) && (decide (y0 ≤ 9)))) u (by rw [hb1]; rfl)<|zK (gv (fun _ k=>k) [] ⟨⟩))<|fun hb1=>zA 2 u<|zI (vb false)<|zA 1 u<|zU<|wS 2 (vb ((decide (0 ≤ y0)) && (decide (y0 ≤ 9)))) u (by rw [hb1]; rfl)<|
  zK (gv (fun _ k=>k) [] ⟨⟩))<|fun _ k=>k<|zJ<|zP u u (fun _ k=>k) [] ⟨⟩
theorem zP6 {qd : Prop} {y0 : vM} : qG qd prog 128 [.agg #[vb y0.1.1, vs y0.1.2, vi y0.2.1, vi y0.2.2.1, vs y0.2.2.2]] [] [] (zHB y0) fun r K=>K (vi r) [] [] :=
 qB call128 func128 u fun X=>zB<|qU .s u<|fun b1=>zA 1 u<|zC<|zD<|xH (fun K=>K [1] [] [] [(10, vb ((decide (y0.2.1 < 1)) || (decide (3 < y0.2.1))))] []) (qJ<|zS 2 u<|zT 0 u u u<|zA 2 u<|yC (b := decide (y0.2.1 < 1)) 6 u (fun hb1=>zA 3 u<|
  zI (vb true)<|zU<|wS 10 (vb ((decide (y0.2.1 < 1)) || (decide (3 < y0.2.1)))) u (by rw [hb1]; rfl)<|zK (gv (fun _ k=>k) [0] ⟨⟩))<|fun hb1=>zS 2 u<|zT 0 u u u<|zA 1 u<|zI (vb (decide (3 < y0.2.1)))<|zU<|
  wS 10 (vb ((decide (y0.2.1 < 1)) || (decide (3 < y0.2.1)))) u (by rw [hb1]; rfl)<|zK (gv (fun _ k=>k) [0] ⟨⟩))<|fun _ k=>k<|zH u (jA 1 u<|zJ<|qA<|zP u u (fun _ k=>k) [] ⟨⟩)<|jC<|zD<|jjn (fun s1 K=>K [(41, vb s1)] [[]] []) (
  qJ<|zS 0 u<|qR 0 2 u u u<|qH zHR u ⟨⟩<|fun r1 _ k=>k<|zA 2 u<|wG 15 u (zA 4 u<|zI (vb true)<|zA 9 u<|zI (vb true)<|zA 10 u<|zI (vb true)<|zU<|zK (gv (fun _ k=>k) [900] ⟨⟩))<|zS 3 u<|
  zT 0 u u u<|qH zLf u ⟨⟩<|fun r2 _ k=>k<|zA 1 u<|zI (vb (!r2))<|zA 1 u<|wG 21 u (zA 8 u<|zI (vb true)<|zA 10 u<|zI (vb true)<|zU<|zK (gv (fun _ k=>k) [900] ⟨⟩))<|zS 2 u<|zT 0 u u u<|
  zA 2 u<|wG 25 u (zS 3 u<|zT 0 u u u<|zA 1 u<|zI (vb (y0.2.2.1 != 0))<|zI (vb (y0.2.2.1 != 0))<|zA 1 u<|wG 31 u (zA 9 u<|zI (vb true)<|zU<|zK (gv (fun _ k=>k) [900] ⟨⟩))<|zS 4 u<|zT 0 u u u<|
  zA 2 u<|wG 35 u (zS 4 u<|zT 0 u u u<|qH zGF u ⟨⟩<|fun r3 _ k=>k<|zA 1 u<|zI (vb (!r3))<|zI (vb (!r3))<|zU<|zK (gv (fun _ k=>k) [900] ⟨⟩))<|zA 4 u<|zI (vb false)<|zI (vb false)<|zU<|
  zK (gv (fun _ k=>k) [900] ⟨⟩))<|zA 3 u<|zI (vb false)<|zI (vb false)<|zA 1 u<|zS 4 u<|zT 0 u u u<|zA 2 u<|wG 35 u (zS 4 u<|zT 0 u u u<|qH zGF u ⟨⟩<|fun r4 _ k=>k<|zA 1 u<|
  zI (vb (!r4))<|zI (vb (!r4))<|zU<|zK (gv (fun _ k=>k) [900] ⟨⟩))<|zA 4 u<|zI (vb false)<|zI (vb false)<|zU<|zK (gv (fun _ k=>k) [900] ⟨⟩))<|fun s1 _ k=>k<|zH u (jA 1 u<|zJ<|qA<|zP u u (fun _ k=>k) [] ⟨⟩)<|jC<|
  jA 1 u<|zJ<|zP u u (fun _ k=>k) [] ⟨⟩
theorem zL9 {qd : Prop} {y0 : zM} {y1 : zM} : qG qd prog 143 [.agg #[vb y0.1, vs y0.2], .agg #[vb y1.1, vs y1.2]] [] [] (zFa y0 y1) fun r K=>K (vi r) [] [] :=
 qB call143 func143 u fun X=>zB<|qU .s u<|fun b1=>qU .s u<|fun b2=>zA 1 u<|zC<|zD<|zO<|zB<|qR 0 2 u u u<|qR 1 2 u u u<|zI (vb (y0 == y1))<|zA 1 u<|zC<|zH u (jA 1 u<|zJ<|qT<|qA<|zP u u (fun _ k=>k) [] ⟨⟩)<|
  jjp (fun K=>K [(9, vb ((uB y0.2 y1.2) || ((y0.2 == y1.2) && y1.1)))] [[], []] []) (qJ<|zS 1 u<|zT 0 u u u<|zS 1 u<|zT 1 u u u<|zA 2 u<|yC (b := uB y0.2 y1.2) 15 u (fun hb1=>zA 9 u<|zI (vb true)<|
  zA 1 u<|zU<|wS 9 (vb ((uB y0.2 y1.2) || ((y0.2 == y1.2) && y1.1))) u (by rw [hb1]; rfl)<|zK (gv (fun _ k=>k) [900,901] ⟨⟩))<|fun hb1=>zS 1 u<|zT 0 u u u<|zS 1 u<|zT 1 u u u<|zA 2 u<|
  yC (b := y0.2 == y1.2) 21 u (fun hb2=>zS 0 u<|zT 1 u u u<|zI (vb y1.1)<|zI (vb y1.1)<|zA 1 u<|zU<|wS 9 (vb ((uB y0.2 y1.2) || ((y0.2 == y1.2) && y1.1))) u (by rw [hb1,hb2]; rfl)<|zK (gv (fun _ k=>k) [900,901] ⟨⟩)
  )<|fun hb2=>zA 2 u<|zI (vb false)<|zI (vb false)<|zA 1 u<|zU<|wS 9 (vb ((uB y0.2 y1.2) || ((y0.2 == y1.2) && y1.1))) u (by rw [hb1,hb2]; rfl)<|zK (gv (fun _ k=>k) [900,901] ⟨⟩))<|fun _ k=>k<|zH u (jA 1 u<|zJ<|qT<|
  qA<|zP u u (fun _ k=>k) [] ⟨⟩)<|wC<|qC<|zN<|jA 1 u<|zJ<|zP u u (fun _ k=>k) [] ⟨⟩
theorem zS4 {qd : Prop} {y0 : wK} : qG qd prog 130 [.agg #[vs y0.1, vb y0.2.1, vi y0.2.2.1, sv p1 y0.2.2.2.1 c1, vb y0.2.2.2.2.1, vs y0.2.2.2.2.2]] [] [Rl vA p1 c1 y0.2.2.2.1] (zJh y0) fun r K=>K (vi r) [] [] :=
 qB call130 func130 u fun X=>zB<|qU .s u<|fun b1=>zA 1 u<|zC<|zD<|zB<|zS 3 u<|zT 0 u u u<|zA 2 u<|zC<|zH u (jA 1 u<|zJ<|qA<|zP u u (fun _ k=>k) [] ⟨⟩)<|jC<|wF (fun s1 K=>K [1] [] [0] [(3, vb s1)] []) (qJ<|zS 0 u<|
  zT 0 u u u<|qH zGF u ⟨⟩<|fun r1 _ k=>k<|zA 1 u<|wG 13 u (zS 2 u<|zT 0 u u u<|qH zLf u ⟨⟩<|fun r2 _ k=>k<|zI (vb r2)<|zA 1 u<|wG 18 u (zS 1 u<|zT 0 u u u<|zA 2 u<|
  wG 22 u (zA 3 u<|zI (vb true)<|zI (vb true)<|zA 1 u<|zS 4 u<|qR 0 2 u u u<|qH zHR u ⟨⟩<|fun r3 _ k=>k<|zI (vb r3)<|zA 1 u<|zU<|zK (gv (fun _ k=>k) [0] (gq [0])))<|zS 2 u<|zT 0 u u u<|
  zA 1 u<|zI (vb (y0.2.2.1 == 0))<|zI (vb (y0.2.2.1 == 0))<|zA 1 u<|wG 28 u (zS 4 u<|qR 0 2 u u u<|qH zHR u ⟨⟩<|fun r4 _ k=>k<|zI (vb r4)<|zA 1 u<|zU<|zK (gv (fun _ k=>k) [0] (gq [0])))<|zA 3 u<|
  zI (vb false)<|zA 1 u<|zU<|zK (gv (fun _ k=>k) [0] (gq [0])))<|zA 8 u<|zI (vb false)<|zA 4 u<|zI (vb false)<|zA 1 u<|zU<|zK (gv (fun _ k=>k) [0] (gq [0])))<|zA 3 u<|zI (vb false)<|zA 9 u<|zI (vb false)<|
  zA 4 u<|zI (vb false)<|zA 1 u<|zU<|zK (gv (fun _ k=>k) [0] (gq [0])))<|fun s1 _ k=>k<|wF (fun s2 K=>K [1] [] [0] [(3, vb s2)] []) (jA 1 u<|zO<|
  qO (fun s3 K=>K [1] [] [0] [(3, vb s3.1), (4, vi s3.2)] []) (gv (fun _ k=>k) [0] (gq [0]))<|fun s3 _ k=>k<|zD<|zB<|zA 1 u<|zS 3 u<|zT 0 u u u<|zA 2 u<|zC<|zH u (jC<|zD<|zO<|
  jjcK (fun s4 K=>K [1,4] [] [0] [(3, vb s4)] []) (qJ<|zA 2 u<|wG 41 u (zS 3 u<|zT 0 u u u<|zA 1 u<|qW 0 u u u<|fun x1 b2 o1=>qV true yW (gk 0) u<|qH zHR u ⟨⟩<|fun r5 _ k=>k<|zI (vb r5)<|
  zA 1 u<|zU<|zK (gv (fun _ k=>k) [0] (gq [1])))<|zA 6 u<|zI (vb false)<|zA 1 u<|zU<|zK (gv (fun _ k=>k) [0] (gq [0])))<|fun s4 _ k=>k<|qC<|zN<|jB 3 u<|qD (gv (fun _ k=>k) [0] (gq [0])))<|qM<|qK<|qP<|qL<|
  zK (gv (fun _ k=>k) [0] (gq [0])))<|fun s2 _ k=>k<|zD<|jA 2 u<|zH u (jA 1 u<|zJ<|qA<|zP u u (fun _ k=>k) [] ⟨⟩)<|jC<|zD<|jA 1 u<|zO<|qO (fun s5 K=>K [1] [] [0] [(5, vi s5)] []) (gv (fun _ k=>k) [0] (gq [0]))<|
  fun s5 _ k=>k<|zD<|zB<|zA 1 u<|zS 3 u<|zT 0 u u u<|zA 2 u<|zC<|zH u (jC<|zD<|zO<|yM [] [0] 13<|qN 0 3 u u<|qY 1 0 u u u u<|zV 9 [2,3] u<|vO 4 0 u u u u<|fun x2 b3 o2=>
  vN 5 true yW u (gk 0) u<|qN 6 3 u u<|qY 7 0 u u u u<|zV 4 [8] u<|vO 9 1 u u u u<|fun x3 b4 o3=>vN 10 true yW u (gk 0) u<|qE 11<|qF (.f u) [] [] zL9 u u u ⟨⟩<|
  fun r6 _ k=>k<|zY<|zV 0 [12] u<|qQ<|zN<|zH u (jA 1 u<|zJ<|qT<|qA<|wY<|qT<|qA<|zP u u (fun _ k=>k) [] ⟨⟩)<|wC<|qC<|zN<|jB 3 u<|qD (gv (fun _ k=>k) [0] (gq [2])))<|qM<|qK<|qP<|qL<|zN<|jA 1 u<|zJ<|
  zP u u (fun _ k=>k) [] ⟨⟩
theorem zOU {qd : Prop} {y0 : zR} : qG qd prog 75 [.agg #[sv p1 y0.1 c1, sv p2 y0.2.1 c2, sv p3 y0.2.2 c3]] [] [Rl wN p1 c1 y0.1, Rl wJ p2 c2 y0.2.1, Rl wQ p3 c3 y0.2.2] (zEp y0) fun r K=>K (vi r) [] [] :=
 qB call75 func75 u fun X=>zB<|qU .s u<|fun b1=>zA 1 u<|zC<|zD<|xH (fun K=>K [1] [] [0,1,2] [(25, vb ((decide (16 < (len y0.1))) || ((decide (24 < (len y0.2.1))) || (decide (8 < (len y0.2.2))))))] []) (qJ<|zS 0 u<|zT 0 u u u<|zA 3 u<|
  yC (b := decide (16 < (len y0.1))) 14 u (fun hb1=>zA 4 u<|zI (vb true)<|zA 5 u<|zI (vb true)<|zU<|wS 25 (vb ((decide (16 < (len y0.1))) || ((decide (24 < (len y0.2.1))) || (decide (8 < (len y0.2.2)))))) u (by rw [hb1]; rfl)<|
  zK (gv (fun _ k=>k) [0] (gq [0,1,2])))<|fun hb1=>zS 1 u<|zT 0 u u u<|zA 2 u<|zI (vb (decide (24 < (len y0.2.1))))<|zA 1 u<|yC (b := decide (24 < (len y0.2.1))) 20 u (fun hb2=>zA 4 u<|zI (vb true)<|zU<|
  wS 25 (vb ((decide (16 < (len y0.1))) || ((decide (24 < (len y0.2.1))) || (decide (8 < (len y0.2.2)))))) u (by rw [hb1,hb2]; rfl)<|zK (gv (fun _ k=>k) [0] (gq [0,1,2])))<|fun hb2=>zS 2 u<|zT 0 u u u<|zA 2 u<|
  zI (vb (decide (8 < (len y0.2.2))))<|zU<|wS 25 (vb ((decide (16 < (len y0.1))) || ((decide (24 < (len y0.2.1))) || (decide (8 < (len y0.2.2)))))) u (by rw [hb1,hb2]; rfl)<|zK (gv (fun _ k=>k) [0] (gq [0,1,2])))<|fun _ k=>k<|zH u (
  jA 1 u<|zJ<|qA<|zP u u (fun _ k=>k) [] ⟨⟩)<|jC<|zUE (fun s1 K=>K [1] [] [0,1,2] [] []) (jA 1 u<|zO<|qO (fun s2 K=>K [1] [] [0,1,2] [(3, vi s2)] []) (gv (fun _ k=>k) [0] (gq [0,1,2]))<|fun s2 _ k=>k<|zD<|zB<|zA 1 u<|
  zS 0 u<|zT 0 u u u<|zA 2 u<|zC<|zH u (jC<|zD<|zO<|zD<|zB<|zS 0 u<|zT 0 u u u<|zA 1 u<|qW 0 u u u<|fun x1 b2 o1=>qV true zIL (gk 0) u<|qH zP6 u ⟨⟩<|fun r1 _ k=>k<|zA 1 u<|
  zC<|jA 2 u<|zH u (jA 2 u<|zJ<|qA<|qT<|qA<|wY<|qT<|wY<|zP u u (fun _ k=>k) [] ⟨⟩)<|jC<|yM [] [0] 10<|vQ 0 0 3 u u u u<|qN 1 0 u u<|qY 2 0 u u u u<|zV 6 [3] u<|vO 4 1 u u u u<|
  fun x2 b3 o2=>qN 5 0 u u<|vN 6 true yW u (gf (gk 0)) u<|zV 2 [8] u<|qE 7<|qF (.f u) [] [] zOo u u u (cq [2,3,4])<|fun r2 _ k=>k<|zY<|zV 0 [9] u<|qQ<|zN<|zH u (jA 1 u<|zJ<|qT<|qA<|wY<|
  qT<|wY<|zP u u (fun _ k=>k) [] ⟨⟩)<|wC<|qC<|zN<|jB 3 u<|qD (gv (fun _ k=>k) [0] (gq [2,3,4])))<|qM<|qK<|qP<|qL<|qD (gv (fun _ k=>k) [0] (gq [0,1,2])))<|fun s1 _ k=>k<|zUE (fun s3 K=>K [1] [] [0,1,2] [] []) (jA 1 u<|
  zO<|qO (fun s4 K=>K [1] [] [0,1,2] [(5, vi s4)] []) (gv (fun _ k=>k) [0] (gq [0,1,2]))<|fun s4 _ k=>k<|zD<|zB<|zA 1 u<|zS 1 u<|zT 0 u u u<|zA 2 u<|zC<|zH u (jC<|zD<|zO<|zD<|zB<|zS 1 u<|zT 0 u u u<|
  zA 1 u<|qW 1 u u u<|fun x3 b4 o3=>qV true zMU (gk 0) u<|fun p4 c4=>qH zS4 u (cq [0])<|fun r3 _ k=>k<|zA 1 u<|zC<|jA 2 u<|zH u (jA 2 u<|zJ<|qA<|qT<|qA<|wY<|qT<|wY<|zP u u (fun _ k=>k) [] ⟨⟩
  )<|jC<|yM [] [0] 10<|vQ 0 0 3 u u u u<|qN 1 1 u u<|qY 2 0 u u u u<|zV 6 [3] u<|vO 4 3 u u u u<|fun x4 b5 o4=>qN 5 0 u u<|vN 6 false oS u (gf (gk 0)) u<|zV 2 [8] u<|qE 7<|
  qF (.f u) [] [] zOE u u u (cq [3,4,5])<|fun r4 _ k=>k<|zY<|zV 0 [9] u<|qQ<|zN<|zH u (jA 1 u<|zJ<|qT<|qA<|wY<|qT<|wY<|zP u u (fun _ k=>k) [] ⟨⟩)<|wC<|qC<|zN<|jB 3 u<|
  qD (gv (fun _ k=>k) [0] (gq [3,4,5])))<|qM<|qK<|qP<|qL<|qD (gv (fun _ k=>k) [0] (gq [0,1,2])))<|fun s3 _ k=>k<|zD<|jA 1 u<|zO<|qO (fun s5 K=>K [1] [] [0,1,2] [(7, vi s5)] []) (gv (fun _ k=>k) [0] (gq [0,1,2]))<|fun s5 _ k=>k<|
  zD<|zB<|zA 1 u<|zS 2 u<|zT 0 u u u<|zA 2 u<|zC<|zH u (jC<|zD<|zO<|zB<|zS 2 u<|zT 0 u u u<|zA 1 u<|qW 2 u u u<|fun x5 b6 o5=>qV true zKf (gk 0) u<|
  wM .s (.agg #[vs [], vi 0, vb false, vs []])<|fun b7=>qS .s 1 u u u<|zC<|zD<|wF (fun s6 K=>K [1,7,8] [] [1,2,3] [(99, vb s6)] []) (qJ<|zS 1 u<|zT 1 u u u<|qH zLf u ⟨⟩<|fun r5 _ k=>k<|zA 2 u<|
  wG 94 u (zA 4 u<|zI (vb true)<|zU<|zK (gv (fun _ k=>k) [0,1] (gq [1,2,3])))<|zS 2 u<|qR 1 2 u u u<|qH zHR u ⟨⟩<|fun r6 _ k=>k<|zA 1 u<|zI (vb (!r6))<|zU<|zK (gv (fun _ k=>k) [0,1] (gq [1,2,3])))<|
  fun s6 _ k=>k<|zH u (jA 1 u<|zJ<|qA<|qT<|qA<|wY<|qT<|qA<|zP u u (fun _ k=>k) [] ⟨⟩)<|jC<|zB<|qR 0 3 u u u<|zS 0 u<|zT 1 u u u<|qH zOE u (cq [0,1,2])<|fun r7 _ k=>k<|zA 1 u<|zC<|zD<|
  jA 2 u<|zH u (jA 1 u<|zJ<|qA<|qT<|qA<|wY<|qT<|qA<|zP u u (fun _ k=>k) [] ⟨⟩)<|jC<|zB<|zS 1 u<|zT 0 u u u<|zA 1 u<|qW 1 u u u<|fun x6 b8 o6=>zS 1 u<|qV false oB (gf (gs (gk 0))) u<|zC<|zH u (
  jA 1 u<|zJ<|qT<|qA<|wY<|qT<|qA<|zP u u (fun _ k=>k) [] ⟨⟩)<|wC<|qC<|zN<|jB 3 u<|qD (gv (fun _ k=>k) [0] (gq [1,2,3])))<|qM<|qK<|qP<|qL<|zN<|jA 1 u<|zJ<|zP u u (fun _ k=>k) [] ⟨⟩
theorem zJs {qd : Prop} {y0 : List Int} {y1 : Int} : qG qd prog 191 [sv p1 y0 c1, vi y1] [] [Rl (zF .i64) p1 c1 y0] (zFF y0 y1) fun r K=>∀ p2 c2,K (sv p2 r c2) [] [Rl (zF .i64) p2 c2 r] :=
 qB call191 func191 u fun X=>jA 1 u<|jA 1 u<|wF (fun s1 K=>K [0,1] [] [0] [(5, vi s1)] []) (zO<|qO (fun s2 K=>K [0,1] [] [0] [(5, vi s2)] []) (gv (fun _ k=>k) [] (gq [0]))<|fun s2 _ k=>k<|zD<|wF (fun s3 K=>K [0,1,5] [] [0] [(18, vb s3)] []) (qJ<|
  zA 5 u<|wG 11 u (zA 2 u<|qW 0 u u u<|fun x1 b1 o1=>qV false oI (gk 0) u<|zA 2 u<|zI (vb (decide (x1 < y1)))<|zU<|zK (gv (fun _ k=>k) [] (gq [1])))<|zA 6 u<|zI (vb false)<|zU<|zK (gv (fun _ k=>k) [] (gq [0]))
  )<|fun s3 _ k=>k<|zH u (jC<|zO<|jB 3 u<|qC<|qD (gv (fun _ k=>k) [] (gq [0])))<|qM<|qK<|qP<|qL<|zK (gv (fun _ k=>k) [] (gq [0])))<|fun s1 _ k=>k<|zD<|wF (fun s4 K=>K [0,1,5] [] [0] [(32, vb s4)] []) (qJ<|zA 5 u<|
  wG 25 u (zA 2 u<|qW 0 u u u<|fun x2 b2 o2=>qV false oI (gk 0) u<|zA 2 u<|zI (vb (x2 == y1))<|zU<|zK (gv (fun _ k=>k) [] (gq [1])))<|zA 6 u<|zI (vb false)<|zU<|zK (gv (fun _ k=>k) [] (gq [0])))<|fun s4 _ k=>k<|
  zH u (jA 2 u<|zJ<|qA<|zP u u (fun _ k=>k p1 c1) [] (gq [0]))<|jC<|zB<|xN .s (e := zF .i64) 3 [] ([] : List Int) rN<|fun r_1 p2 c2=>zA 2 u<|jsl (gk 1) u u u (.inl ⟨rfl, rfl⟩) (.inr ⟨_, rfl⟩)<|fun x3 p3 c3=>
  wP .s 0 1 u (gk 0) u u<|fun x4 r_2 p4 c4=>zA 1 u<|zC<|yM [] [] 9<|zV 5 [0,1,4,5] u<|jdw 6 u (gk 3) u u u (.inr ⟨_, rfl⟩) (.inl ⟨rfl, rfl⟩)<|fun x5 p5 c5=>qE 2<|
  vC (.f u) (e := zF .i64) 3 [vi y1] ([y1] : List Int) (rC vI rN)<|fun p6 c6=>zY<|qE 3<|wP (.f u) 0 2 u (gk 0) u u<|fun x6 r_3 p7 c7=>zY<|qE 7<|wP (.f u) 0 0 u (gk 2) u u<|fun x7 r_4 p8 c8=>zY<|zV 0 [8] u<|qQ<|
  zN<|zJ<|wX 0 0 u u<|zP u u (fun _ k=>k p8 c8) [] (gq [0])
theorem zNZ {qd : Prop} {y0 : List Int} {y1 : List Int} : qG qd prog 192 [sv p1 y0 c1, sv p2 y1 c2] [] [Rl (zF .i64) p1 c1 y0, Rl (zF .i64) p2 c2 y1] (zIl y0 y1) fun r K=>∀ p3 c3,K (sv p3 r c3) [] [Rl (zF .i64) p3 c3 r] :=
 qB call192 func192 u fun X=>jA 1 u<|zD<|jA 1 u<|zO<|qO (fun s1 K=>∀ p3 c3,K [1] [] [1] [(0, sv p3 s1.1 c3), (5, vi s1.2)] [Rl (zF .i64) p3 c3 s1.1]) (gv (fun _ k=>k p1 c1) [] (gq [0,1]))<|fun s1 _ k p3 c3=>k<|zD<|jA 4 u<|zH u (jC<|zD<|zO<|qJ<|
  zA 3 u<|qW 1 u u u<|fun x1 b1 o1=>qV false oI (gk 0) u<|qH zJs u (cq [1])<|fun r1 _ k p4 c4=>k<|zA 1 u<|zU<|qC<|zN<|jB 3 u<|qD (gv (fun _ k=>k p4 c4) [] (gq [0,3])))<|qM<|qK<|qP<|qL<|zN<|jA 2 u<|
  zJ<|zP u u (fun _ k=>k p3 c3) [] (gq [0])
theorem zOZ {qd : Prop} (k : Nat) :
    (∀ {y0 : List zL} {p1 : Option Addr} {c1 : Nat} {y1 : Int}, qG qd prog 136 [sv p1 y0 c1, vi y1] [] [Rl wR p1 c1 y0] (zFd k y0 y1) fun r K=>∀ p2 c2,K (sv p2 r c2) [] [Rl (zF .i64) p2 c2 r]) := by
  induction k with
  | zero => exact zYc call136
  | succ k ih =>
    have ih_ref07_Subs := @ih
    exact @fun y0 p1 c1 y1=>qB (m1 := zJk (zFd k) y0 y1) call136 func136 u fun X=>jA 1 u<|zD<|xH (fun K=>K [0,1] [] [0] [(14, vb ((decide (y1 < 0)) || (decide ((len y0) ≤ y1))))] []) (qJ<|zA 3 u<|yC (b := decide (y1 < 0)) 9 u (fun hb1=>zA 4 u<|zI (vb true)<|zU<|
  wS 14 (vb ((decide (y1 < 0)) || (decide ((len y0) ≤ y1)))) u (by rw [hb1]; rfl)<|zK (gv (fun _ k=>k) [] (gq [0])))<|fun hb1=>zA 4 u<|zI (vb (decide ((len y0) ≤ y1)))<|zU<|
  wS 14 (vb ((decide (y1 < 0)) || (decide ((len y0) ≤ y1)))) u (by rw [hb1]; rfl)<|zK (gv (fun _ k=>k) [] (gq [0])))<|fun _ k=>k<|zH u (jA 1 u<|zJ<|qA<|zP u u (fun _ k=>k none 0) [] ⟨gn,⟨⟩⟩)<|jC<|zB<|zA 1 u<|
  vC .s (e := zF .i64) 3 [vi y1] ([y1] : List Int) (rC vI rN)<|fun p2 c2=>zA 1 u<|zC<|zD<|jA 1 u<|zO<|
  qO (fun s1 K=>∀ p3 c3,K [0,1] [] [1] [(5, sv p3 s1.1 c3), (6, vi s1.2)] [Rl (zF .i64) p3 c3 s1.1]) (gv (fun _ k=>k p2 c2) [] (gq [0,1]))<|fun s1 _ k p3 c3=>k<|zD<|zB<|zA 3 u<|qW 1 u u u<|fun x1 b1 o1=>zS 2 u<|
  qV false oL (gf (gs (gs (gk 0)))) u<|fun p4 c4=>zA 2 u<|zC<|zH u (jC<|zD<|zO<|qJ<|zA 4 u<|qW 3 u u u<|fun x2 b2 o2=>zS 2 u<|qV false oL (gf (gs (gs (gk 0)))) u<|fun p5 c5=>zA 1 u<|qW 0 u u u<|
  fun x3 b3 o3=>qV false oI (gk 0) u<|qH ih_ref07_Subs u (cq [6])<|fun r1 _ k p6 c6=>k<|qH zNZ u (cq [6,0])<|fun r2 _ k p7 c7=>k<|zA 1 u<|zU<|qC<|zN<|jB 3 u<|qD (gv (fun _ k=>k p7 c7) [] (gq [0,8])))<|qM<|qK<|
  qP<|qL<|zN<|jA 2 u<|zJ<|zP u u (fun _ k=>k p3 c3) [] (gq [2])
theorem zLX {qd : Prop} {y0 : List zL} {y1 : Int} : qG qd prog 136 [sv p1 y0 c1, vi y1] [] [Rl wR p1 c1 y0] (zI2 y0 y1) fun r K=>∀ p2 c2,K (sv p2 r c2) [] [Rl (zF .i64) p2 c2 r] := zOJ fun k => (zOZ k)
theorem zHG {qd : Prop} {y0 : zR} {y1 : List zL} {y2 : Int} : qG qd prog 135 [.agg #[sv p1 y0.1 c1, sv p2 y0.2.1 c2, sv p3 y0.2.2 c3], sv p4 y1 c4, vi y2] [] [Rl wN p1 c1 y0.1, Rl wJ p2 c2 y0.2.1, Rl wQ p3 c3 y0.2.2, Rl wR p4 c4 y1] (zBj y0 y1 y2) fun r K=>∀ p5 c5,K (sv p5 r c5) [] [Rl (zF .i64) p5 c5 r] :=
 qB call135 func135 u fun X=>zB<|qU .s u<|fun b1=>zA 1 u<|zC<|jA 1 u<|zD<|zB<|zA 2 u<|qH zLX u (cq [3])<|fun r1 _ k p5 c5=>k<|zA 2 u<|zC<|zO<|
  qO (fun s1 K=>∀ p6 c6,K [1,3,12,13] [] [4,0,1,2,3] [(7, sv p6 s1.1 c6), (14, vi s1.2)] [Rl (zF .i64) p6 c6 s1.1]) (gv (fun _ k=>k none 0) [0] ⟨gn,gk 4,gk 0,gk 1,gk 2,gk 3,⟨⟩⟩)<|fun s1 _ k p6 c6=>k<|jA 1 u<|zD<|zH u (jC<|zD<|zO<|
  zB<|qW 2 u u u<|fun x1 b2 o1=>qV false oI (gk 0) u<|zA 1 u<|zC<|wF (fun s2 K=>K [1,3,7,9,12,13,14] [] [2,1,3,4,5,6] [(36, vb s2)] []) (yU [] [0] 19<|zV 17 [0,1] u<|vO 2 2 u u u u<|fun x2 b3 o2=>
  qN 3 1 u u<|vN 4 false oI u (gf (gs (gk 0))) u<|zV 12 [5,6] u<|wG 24 u (qN 7 1 u u<|qY 8 0 u u u u<|zV 8 [9,10] u<|vO 11 3 u u u u<|fun x3 b4 o3=>qN 12 1 u u<|
  vN 13 false oI u (gf (gs (gk 0))) u<|vO 14 7 u u u u<|fun x4 b5 o4=>qN 15 1 u u<|vN 16 false oB u (gf (gs (gk 0))) u<|zV 1 [17] u<|wB 18 (vb (!x4.2.1)) u<|qQ<|zK (gv (fun _ k=>k) [0] (gq [5,4,6,7,8,9])))<|
  zV 1 [7,8,9,10,11,12,13,14,15,16,17] u<|wB 18 (vb false) u<|qQ<|zK (gv (fun _ k=>k) [0] (gq [3,2,4,5,6,7])))<|fun s2 _ k=>k<|zH u (qJ<|zA 3 u<|qW 0 u u u<|fun x5 b6 o5=>zS 1 u<|qV false oI (gf (gs (gk 0))) u<|
  qH zJs u (cq [2])<|fun r2 _ k p7 c7=>k<|zA 1 u<|zU<|qC<|zN<|jB 2 u<|qD (gv (fun _ k=>k p7 c7) [0] (gq [0,2,4,5,6,7])))<|wC<|qC<|zN<|jB 2 u<|qD (gv (fun _ k=>k p6 c6) [0] (gq [1,0,2,3,4,5])))<|qM<|qK<|qP<|
  qL<|zN<|jA 2 u<|zJ<|zP u u (fun _ k=>k p6 c6) [] (gq [0])
theorem zPG {qd : Prop} (k : Nat) :
    (∀ {y0 : zR} {p1 : Option Addr} {c1 : Nat} {p2 : Option Addr} {c2 : Nat} {p3 : Option Addr} {c3 : Nat} {y1 : List zL} {p4 : Option Addr} {c4 : Nat} {y2 : Int}, qG qd prog 133 [.agg #[sv p1 y0.1 c1, sv p2 y0.2.1 c2, sv p3 y0.2.2 c3], sv p4 y1 c4, vi y2] [] [Rl wN p1 c1 y0.1, Rl wJ p2 c2 y0.2.1, Rl wQ p3 c3 y0.2.2, Rl wR p4 c4 y1] (zAc k y0 y1 y2) fun r K=>∀ p5 c5,K (sv p5 r c5) [] [Rl vA p5 c5 r]) := by
  induction k with
  | zero => exact zYc call133
  | succ k ih =>
    have ih_ref07_Run := @ih
    exact @fun y0 p1 c1 p2 c2 p3 c3 y1 p4 c4 y2=>qB (m1 := zEM (zAc k) y0 y1 y2) call133 func133 u fun X=>zB<|qU .s u<|fun b1=>zA 1 u<|zC<|zB<|zA 2 u<|qW 3 u u u<|fun x1 b2 o1=>zS 3 u<|qV true yW (gs (gs (gs (gk 0)))) u<|
  xN .s (e := vA) 30 [vb x1.2.2.2.1, vs x1.2.2.2.2] ([x1.2.2.2] : List zM) (rC (vP vB vS) rN)<|fun r_1 p5 c5=>zA 1 u<|zC<|zD<|wF (fun s1 K=>K [1,2,3,7] [] [5,0,2,3,4] [(32, vb s1)] []) (yU [] [0] 18<|zV 16 [0,1] u<|
  vO 2 5 u u u u<|fun x2 b3 o2=>qN 3 1 u u<|vN 4 false oI u (gf (gs (gk 0))) u<|zV 11 [5,6] u<|wG 21 u (qN 7 1 u u<|qY 8 0 u u u u<|zV 7 [9,10] u<|vO 11 6 u u u u<|fun x3 b4 o3=>
  qN 12 1 u u<|vN 13 false oI u (gf (gs (gk 0))) u<|vO 14 5 u u u u<|fun x4 b5 o4=>qN 15 1 u u<|vN 16 false oB u (gf (gs (gk 0))) u<|wB 17 (vb x4.2.1) u<|qQ<|zK (gv (fun _ k=>k) [0,1] (gq [8,3,5,6,7])))<|
  zV 1 [7,8,9,10,11,12,13,14,15,16] u<|wB 17 (vb false) u<|qQ<|zK (gv (fun _ k=>k) [0,1] (gq [6,1,3,4,5])))<|fun s1 _ k=>k<|zH u (jA 1 u<|zO<|
  qO (fun s2 K=>∀ p6 c6 r_2,K [1,2,3] [(1, r_2)] [0,2,3,4] [(7, sv p6 s2.1 c6), (8, vi s2.2)] [Al vA 30 r_2 p6 c6 s2.1]) (gv (fun _ k=>k p5 c5 r_1) [0,1] (gq [1,0,2,3,4]))<|fun s2 _ k p6 c6 r_2=>k<|zD<|zB<|zA 3 u<|
  qW 1 u u u<|fun x5 b6 o5=>zS 2 u<|qV false oL (gf (gs (gs (gk 0)))) u<|fun p7 c7=>zA 2 u<|zC<|zH u (jC<|zD<|zO<|yU [] [0] 14<|zV 13 [0] u<|vQ 1 0 3 u u u u<|zV 9 [2,3,4] u<|vO 5 3 u u u u<|
  fun x6 b7 o6=>qN 6 2 u u<|vN 7 false oL u (gf (gs (gs (gk 0)))) u<|fun p8 c8=>zV 5 [8] u<|vO 9 0 u u u u<|fun x7 b8 o7=>vN 10 false oI u (gk 0) u<|qE 11<|
  qF (.f u) [] [] ih_ref07_Run u u u (cq [7,8,9,6])<|fun r1 _ k p9 c9=>k<|zY<|qE 12<|wP (.f u) 1 6 u (gk 0) u u<|fun x8 r_3 p10 c10=>zY<|zV 0 [13] u<|qQ<|qC<|zN<|jB 3 u<|
  qD (gv (fun _ k=>k p10 c10 r_3) [0,1] (gq [0,8,9,10,11])))<|qM<|qK<|qP<|qL<|zN<|jA 2 u<|zJ<|wX 1 2 u u<|zP u u (fun _ k=>k p6 c6) [] (gq [0]))<|jC<|jA 2 u<|zJ<|wX 1 1 u u<|
  zP u u (fun _ k=>k p5 c5) [] (gq [0])
theorem zTL {qd : Prop} {y0 : zR} {y1 : List zL} {y2 : Int} : qG qd prog 133 [.agg #[sv p1 y0.1 c1, sv p2 y0.2.1 c2, sv p3 y0.2.2 c3], sv p4 y1 c4, vi y2] [] [Rl wN p1 c1 y0.1, Rl wJ p2 c2 y0.2.1, Rl wQ p3 c3 y0.2.2, Rl wR p4 c4 y1] (zHk y0 y1 y2) fun r K=>∀ p5 c5,K (sv p5 r c5) [] [Rl vA p5 c5 r] := zOJ fun k => (zPG k)
theorem zQZ {qd : Prop} {y0 : List Int} {y1 : Int} : qG qd prog 134 [sv p1 y0 c1, vi y1] [] [Rl (zF .i64) p1 c1 y0] (zLw y0 y1) fun r K=>K (vb r) [] [] :=
 qB call134 func134 u fun X=>jA 1 u<|zD<|jA 1 u<|zO<|qO (fun s1 K=>K [0,1] [] [0] [(5, vi s1)] []) (gv (fun _ k=>k) [] (gq [0]))<|fun s1 _ k=>k<|zD<|jA 4 u<|zH u (jC<|zD<|zO<|zB<|zA 2 u<|qW 0 u u u<|fun x1 b1 o1=>qV false oI (gk 0) u<|
  zA 2 u<|zC<|zH u (jA 1 u<|zJ<|qT<|qA<|wY<|qT<|qA<|zP u u (fun _ k=>k) [] ⟨⟩)<|wC<|qC<|zN<|jB 3 u<|qD (gv (fun _ k=>k) [] (gq [1])))<|qM<|qK<|qP<|qL<|zN<|jA 1 u<|zJ<|zP u u (fun _ k=>k) [] ⟨⟩
theorem zMT {qd : Prop} {y0 : zR} {y1 : List zL} {y2 : Int} {y3 : List Int} : qG qd prog 78 [.agg #[sv p1 y0.1 c1, sv p2 y0.2.1 c2, sv p3 y0.2.2 c3], sv p4 y1 c4, vi y2, sv p5 y3 c5] [] [Rl wN p1 c1 y0.1, Rl wJ p2 c2 y0.2.1, Rl wQ p3 c3 y0.2.2, Rl wR p4 c4 y1, Rl (zF .i64) p5 c5 y3] (zFE y0 y1 y2 y3) fun r K=>K (vb r) [] [] :=
 qB call78 func78 u fun X=>zB<|qU .s u<|fun b1=>zA 1 u<|zC<|zB<|zS 1 u<|zT 0 u u u<|zA 1 u<|qW 1 u u u<|fun x1 b2 o1=>qV true zMU (gk 0) u<|fun p6 c6=>wM .s (.agg #[vs [], vb false, vi 0, .slice none 0 0, vb false, vs []])<|
  fun b3=>qS .s 1 u u u<|zC<|zD<|jA 1 u<|zO<|qO (fun s1 K=>K [1,2,3,4,9] [] [5,6,2,3,4,0] [(10, vi s1)] []) (gv (fun _ k=>k) [0,1] (gq [5,6,2,3,4,0]))<|fun s1 _ k=>k<|zD<|jA 4 u<|zH u (jC<|zD<|zO<|
  wF (fun s2 K=>K [1,2,3,4,9,10] [] [0,1,2,3,4,5] [(51, vb s2)] []) (yU [] [0, 1] 30<|qN 0 1 u u<|qY 1 1 u u u u<|zV 27 [2] u<|wG 24 u (vQ 3 0 3 u u u u<|zV 23 [4,5,6] u<|vO 7 1 u u u u<|
  fun x2 b4 o2=>vN 8 false oI u (gk 0) u<|qN 10 4 u u<|vQ 11 1 2 u u u u<|qE 9<|qF (.f u) [] [] zTL u u u (cq [3,4,5,1])<|fun r1 _ k p7 c7=>k<|zY<|qE 12<|
  qF (.f u) [] [] zOv u u u (cq [0])<|fun r2 _ k=>k<|zY<|wB 13 (vb r2) u<|zV 15 [14] u<|wG 36 u (zV 1 [15,16,17,18,19,20,21,22,23,24,25,26,27,28] u<|wB 29 (vb true) u<|qQ<|
  zK (gv (fun _ k=>k) [0,1] (gq [2,3,4,5,6,7])))<|qN 15 1 u u<|qY 16 1 u u u u<|zV 11 [17,18] u<|wG 40 u (vQ 19 0 3 u u u u<|zV 7 [20,21,22] u<|vO 23 3 u u u u<|fun x3 b5 o3=>
  vN 24 false oI u (gk 0) u<|zV 4 [26] u<|qE 25<|qF (.f u) [] [] zHG u u u (cq [5,6,7,3])<|fun r3 _ k p8 c8=>k<|zY<|qE 27<|qF (.f u) [] [] zQZ u u u (cq [0])<|fun r4 _ k=>k<|zY<|
  wB 28 (vb r4) u<|wB 29 (vb r4) u<|qQ<|zK (gv (fun _ k=>k) [0,1] (gq [4,5,6,7,8,9])))<|zV 2 [19,20,21,22,23,24,25,26,27] u<|wB 28 (vb false) u<|wB 29 (vb false) u<|qQ<|zK (gv (fun _ k=>k) [0,1] (gq [2,3,4,5,6,7])))<|
  zV 17 [3,4,5,6,7,8,9,10,11,12] u<|wB 13 (vb false) u<|zV 15 [14] u<|qN 15 1 u u<|qY 16 1 u u u u<|zV 11 [17,18] u<|wG 40 u (vQ 19 0 3 u u u u<|zV 7 [20,21,22] u<|vO 23 1 u u u u<|
  fun x4 b6 o4=>vN 24 false oI u (gk 0) u<|zV 4 [26] u<|qE 25<|qF (.f u) [] [] zHG u u u (cq [3,4,5,1])<|fun r5 _ k p9 c9=>k<|zY<|qE 27<|qF (.f u) [] [] zQZ u u u (cq [0])<|fun r6 _ k=>k<|
  zY<|wB 28 (vb r6) u<|wB 29 (vb r6) u<|qQ<|zK (gv (fun _ k=>k) [0,1] (gq [2,3,4,5,6,7])))<|zV 2 [19,20,21,22,23,24,25,26,27] u<|wB 28 (vb false) u<|wB 29 (vb false) u<|qQ<|zK (gv (fun _ k=>k) [0,1] (gq [0,1,2,3,4,5])))<|
  fun s2 _ k=>k<|zH u (jA 1 u<|zJ<|qT<|qA<|wY<|qT<|qA<|zP u u (fun _ k=>k) [] ⟨⟩)<|wC<|qC<|zN<|jB 3 u<|qD (gv (fun _ k=>k) [0,1] (gq [0,1,2,3,4,5])))<|qM<|qK<|qP<|qL<|zN<|jA 1 u<|zJ<|
  zP u u (fun _ k=>k) [] ⟨⟩
theorem zLW {qd : Prop} (k : Nat) :
    (∀ {y0 : List zL} {p1 : Option Addr} {c1 : Nat} {r_1 : zZ} {y1 : Int} {y2 : List zM} {p2 : Option Addr} {c2 : Nat} {y3 : List Int} {p3 : Option Addr} {c3 : Nat}, qG qd prog 76 [sv p1 y0 c1, vi y1, sv p2 y2 c2, sv p3 y3 c3] [r_1] [Al wR 94 r_1 p1 c1 y0, Rl vA p2 c2 y2, Rl (zF .i64) p3 c3 y3] (zB8 k y0 y1 y2 y3) fun r K=>∀ p4 c4,K (sv p4 r c4) [r_1] [Rl (wO (zF .i64)) p4 c4 r]) := by
  induction k with
  | zero => exact zYc call76
  | succ k ih =>
    have ih_ref07_choices_2 := @ih
    exact @fun y0 p1 c1 r_1 y1 y2 p2 c2 y3 p3 c3=>qB (m1 := zFx (zB8 k) y0 y1 y2 y3) call76 func76 u fun X=>jA 1 u<|zD<|jA 5 u<|zH u (zB<|xN .s (e := zF .i64) 3 [] ([] : List Int) rN<|fun r_2 p4 c4=>zA 1 u<|wP .s 1 0 u (gk 3) u u<|fun x1 r_3 p5 c5=>wX 1 0 u u<|
  vC .s (e := wO (zF .i64)) 31 [sv p5 x1 c5] ([x1] : List (List Int)) (rC (vL (gk 0)) rN)<|fun p6 c6=>zA 1 u<|zC<|zJ<|qA<|zP u u (fun _ k=>k p6 c6) [0] (gq [0]))<|jC<|zB<|zA 1 u<|vK (wO (zF .i64)) 31<|zC<|zD<|
  jA 1 u<|zO<|qO (fun s1 K=>∀ p7 c7 r_4,K [0,1,2,3] [(1, r_4)] [1,2,3] [(9, sv p7 s1.1 c7), (10, vi s1.2)] [Al (wO (zF .i64)) 31 r_4 p7 c7 s1.1]) (gv (fun _ k=>k none 0 []) [0,1] (gq [0,1,2,3]))<|fun s1 _ k p7 c7 r_4=>k<|zD<|
  jA 3 u<|zH u (jC<|zD<|zO<|yM [] [0] 11<|zV 9 [0,1] u<|tC 2 1 u u u u<|fun x2 h2 b1 hp1=>qN 3 3 u u<|tD 4 0 1 sI.snd.snd.snd true yW u u hp1 h2 u<|zV 3 [5,6,7] u<|vO 8 2 u u u u<|
  fun x3 b2 o1=>vN 9 true yW u (gk 0) u<|wB 10 (vb (x2.2.2.2 == x3)) u<|qQ<|zN<|zH u (qJ<|zA 9 u<|jsF (gk 4) u u u u (.inl ⟨rfl, rfl⟩)<|fun x4 p8=>zA 1 u<|
  vC .s (e := zF .i64) 3 [vi s1.2] ([s1.2] : List Int) (rC vI rN)<|fun p9 c8=>jaf .s 3 (gk 1) (gk 0) u u<|fun x5 p10 c9=>qF .s [0] [] ih_ref07_choices_2 u u u (cq [5,6,0])<|fun r1 _ k p11 c10=>k<|wP .s 1 5 u (gk 0) u u<|
  fun x6 r_5 p12 c11=>zA 1 u<|zU<|qC<|zN<|jB 3 u<|qD (gv (fun _ k=>k p12 c11 r_5) [0,1] (gq [0,7,8,9])))<|wC<|qC<|zN<|jB 3 u<|qD (gv (fun _ k=>k p7 c7 r_4) [0,1] (gq [1,2,3,4])))<|qM<|qK<|qP<|qL<|zN<|jA 2 u<|zJ<|
  wX 1 0 u u<|zP u u (fun _ k=>k p7 c7) [0] (gq [0])
theorem zNf {qd : Prop} {y0 : List zL} {y1 : Int} {y2 : List zM} {y3 : List Int} : qG qd prog 76 [sv p1 y0 c1, vi y1, sv p2 y2 c2, sv p3 y3 c3] [r_1] [Al wR 94 r_1 p1 c1 y0, Rl vA p2 c2 y2, Rl (zF .i64) p3 c3 y3] (zHo y0 y1 y2 y3) fun r K=>∀ p4 c4,K (sv p4 r c4) [r_1] [Rl (wO (zF .i64)) p4 c4 r] := zOJ fun k => (zLW k)
theorem zQC {qd : Prop} {y0 : List Int} {y1 : Int} : qG qd prog 77 [sv p1 y0 c1, vi y1] [] [Rl (zF .i64) p1 c1 y0] (zJp y0 y1) fun r K=>K (vb r) [] [] :=
 qB call77 func77 u fun X=>jA 1 u<|zD<|jA 1 u<|zO<|qO (fun s1 K=>K [0,1] [] [0] [(5, vi s1)] []) (gv (fun _ k=>k) [] (gq [0]))<|fun s1 _ k=>k<|zD<|jA 4 u<|zH u (jC<|zD<|zO<|zB<|zA 2 u<|qW 0 u u u<|fun x1 b1 o1=>qV false oI (gk 0) u<|
  zA 2 u<|zC<|zH u (jA 1 u<|zJ<|qT<|qA<|wY<|qT<|qA<|zP u u (fun _ k=>k) [] ⟨⟩)<|wC<|qC<|zN<|jB 3 u<|qD (gv (fun _ k=>k) [] (gq [1])))<|qM<|qK<|qP<|qL<|zN<|jA 1 u<|zJ<|zP u u (fun _ k=>k) [] ⟨⟩
theorem zRV {qd : Prop} {y0 : zR} : qG qd prog 31 [.agg #[sv p1 y0.1 c1, sv p2 y0.2.1 c2, sv p3 y0.2.2 c3]] [] [Rl wN p1 c1 y0.1, Rl wJ p2 c2 y0.2.1, Rl wQ p3 c3 y0.2.2] (zGC y0) fun r K=>∀ p4 c4,K (.tuple #[sv p4 r.1 c4, vi r.2]) [] [Rl wR p4 c4 r.1] :=
 qB call31 func31 u fun X=>zB<|qU .s u<|fun b1=>zA 2 u<|zC<|zD<|zB<|qR 0 3 u u u<|qH zOU u (cq [0,1,2])<|fun r1 _ k=>k<|zA 1 u<|zC<|jA 2 u<|zH u (jA 3 u<|zJ<|qA<|
  wZ u (lT u (lT u lN)) (fun _ k=>k none 0) [] ⟨gn,⟨⟩⟩)<|jC<|zB<|zA 1 u<|vK wR 94<|zC<|wF (fun s1 K=>∀ p4 c4 r_1,K [1] [(1, r_1)] [1,2,3] [(5, sv p4 s1 c4)] [Al wR 94 r_1 p4 c4 s1]) (jA 1 u<|zO<|
  qO (fun s2 K=>∀ p5 c5 r_2,K [1] [(1, r_2)] [1,2,3] [(5, sv p5 s2.1 c5), (6, vi s2.2)] [Al wR 94 r_2 p5 c5 s2.1]) (gv (fun _ k=>k none 0 []) [0,1] (gq [0,1,2,3]))<|fun s2 _ k p5 c5 r_2=>k<|zD<|zB<|zA 1 u<|zS 0 u<|
  zT 0 u u u<|zA 2 u<|zC<|zH u (jC<|zD<|zO<|qJ<|zA 2 u<|zS 0 u<|zT 0 u u u<|zA 1 u<|qW 1 u u u<|fun x1 b2 o1=>zS 0 u<|qV true yW (gf (gk 0)) u<|
  zI (.agg #[vi s2.2, vi (-1), .slice none 0 0, vb x1.1.1, vs x1.1.2])<|
  vC .s (e := wR) 94 [vi s2.2, vi (-1), .slice none 0 0, vb x1.1.1, vs x1.1.2] ([(s2.2, (-1), ([] : List Int), x1.1)] : List zL) (rC (vP vI (vP vI (vP (vL gn) (vP vB vS)))) rN)<|fun p6 c6=>wP .s 1 2 u (gk 0) u u<|
  fun x2 r_3 p7 c7=>zA 1 u<|zU<|qC<|zN<|jB 3 u<|qD (gv (fun _ k=>k p7 c7 r_3) [0,1] (gq [0,4,5,6])))<|qM<|qK<|qP<|qL<|zK (gv (fun _ k=>k p5 c5 r_2) [0,1] (gq [0,1,2,3])))<|fun s1 _ k p4 c4 r_1=>k<|jA 1 u<|zD<|jA 1 u<|zO<|
  qO (fun s3 K=>∀ p8 c8 r_4,K [1] [(1, r_4)] [1,2,3] [(5, sv p8 s3.1 c8), (7, vi s3.2.1), (8, vi s3.2.2)] [Al wR 94 r_4 p8 c8 s3.1]) (gv (fun _ k=>k p4 c4 r_1) [0,1] (gq [0,1,2,3]))<|fun s3 _ k p8 c8 r_4=>k<|zD<|
  xH (fun K=>K [1,5,7,8] [] [0,1,2,3] [(43, vb ((s3.2.2 == 1) || (decide (s3.2.1 < (len s3.1)))))] []) (qJ<|zA 3 u<|yC (b := s3.2.2 == 1) 38 u (fun hb1=>zA 4 u<|zI (vb true)<|zU<|
  wS 43 (vb ((s3.2.2 == 1) || (decide (s3.2.1 < (len s3.1))))) u (by rw [hb1]; rfl)<|zK (gv (fun _ k=>k) [0,1] (gq [0,1,2,3])))<|fun hb1=>zA 4 u<|zI (vb (decide (s3.2.1 < (len s3.1))))<|zU<|
  wS 43 (vb ((s3.2.2 == 1) || (decide (s3.2.1 < (len s3.1))))) u (by rw [hb1]; rfl)<|zK (gv (fun _ k=>k) [0,1] (gq [0,1,2,3])))<|fun _ k=>k<|zH u (jC<|zD<|zO<|jA 3 u<|zD<|jA 1 u<|zO<|
  qO (fun s4 K=>∀ p9 c9 r_5,K [1,7,8,9] [(1, r_5)] [1,2,3] [(5, sv p9 s4.1 c9), (10, vi s4.2)] [Al wR 94 r_5 p9 c9 s4.1]) (gv (fun _ k=>k p8 c8 r_4) [0,1] (gq [0,1,2,3]))<|fun s4 _ k p9 c9 r_5=>k<|zD<|zB<|zA 1 u<|zS 1 u<|
  zT 0 u u u<|zA 2 u<|zC<|zH u (jC<|zD<|zO<|zB<|zA 2 u<|zS 1 u<|zT 0 u u u<|zA 1 u<|qW 2 u u u<|fun x3 b3 o2=>zS 3 u<|qV false oL (gf (gs (gs (gs (gk 0))))) u<|fun p10 c10=>
  qF .s [1] [] zNf u u u ⟨ck 2,ck 0,cn,⟨⟩⟩<|fun r2 _ k p11 c11=>k<|zA 2 u<|zC<|zO<|
  qO (fun s5 K=>∀ p12 c12 r_6,K [1,7,8,9,10,63,64] [(1, r_6)] [0,4,5,6] [(5, sv p12 s5.1 c12), (65, vi s5.2)] [Al wR 94 r_6 p12 c12 s5.1]) (gv (fun _ k=>k p9 c9 r_5) [0,1] (gq [3,0,4,5,6]))<|fun s5 _ k p12 c12 r_6=>k<|jA 1 u<|
  zD<|zH u (jC<|zD<|zO<|zB<|qW 1 u u u<|fun x4 b4 o3=>qV false oL (gk 0) u<|fun p13 c13=>zA 1 u<|zC<|zD<|wF (fun s6 K=>K [1,5,7,8,9,10,12,63,64,65] [] [2,3,0,4,5,6] [(89, vb s6)] []) (qJ<|zA 2 u<|
  qH zQC u (cq [0])<|fun r3 _ k=>k<|zA 2 u<|wG 73 u (zA 3 u<|wG 76 u (zA 3 u<|zI (vb true)<|zI (vb true)<|zA 7 u<|zI (vb true)<|zU<|zK (gv (fun _ k=>k) [0,1] (gq [2,3,0,4,5,6])))<|zA 3 u<|
  zI (vb (decide (0 < (len x4))))<|zI (vb (decide (0 < (len x4))))<|zA 1 u<|wG 82 u (zA 6 u<|zI (vb true)<|zU<|zK (gv (fun _ k=>k) [0,1] (gq [2,3,0,4,5,6])))<|qR 0 3 u u u<|zA 3 u<|
  qF .s [] [1] zMT u u u ⟨ck 4,ck 5,ck 6,cl 1 2,ck 0,⟨⟩⟩<|fun r4 _ k=>k<|zA 1 u<|zI (vb (!r4))<|zU<|zK (gv (fun _ k=>k) [0,1] (gq [2,3,0,4,5,6])))<|zA 7 u<|zI (vb false)<|zA 1 u<|qR 0 3 u u u<|zA 3 u<|
  qF .s [] [1] zMT u u u ⟨ck 4,ck 5,ck 6,cl 1 2,ck 0,⟨⟩⟩<|fun r5 _ k=>k<|zA 1 u<|zI (vb (!r5))<|zU<|zK (gv (fun _ k=>k) [0,1] (gq [2,3,0,4,5,6])))<|fun s6 _ k=>k<|zH u (qM<|qK<|qL<|zN<|jB 2 u<|
  qD (gv (fun _ k=>k p12 c12 r_6) [0,1] (gq [0,1,3,4,5])))<|jC<|zB<|zA 3 u<|zS 1 u<|zT 0 u u u<|zA 1 u<|qW 4 u u u<|fun x5 b5 o4=>zS 4 u<|qV true yW (gs (gs (gs (gs (gk 0))))) u<|
  zI (.agg #[vi (-1), vi s4.2, sv p13 x4 c13, vb x5.2.2.2.2.1, vs x5.2.2.2.2.2])<|
  vC .s (e := wR) 94 [vi (-1), vi s4.2, sv p13 x4 c13, vb x5.2.2.2.2.1, vs x5.2.2.2.2.2] ([((-1), s4.2, x4, x5.2.2.2.2)] : List zL) (rC (vP vI (vP vI (vP (vL (gk 3)) (vP vB vS)))) rN)<|fun p14 c14=>
  wP .s 1 2 u (gk 0) u u<|fun x6 r_7 p15 c15=>zA 1 u<|zC<|jA 3 u<|zH u (jA 2 u<|zJ<|qT<|qA<|wY<|qT<|qT<|qA<|wY<|qT<|qA<|qT<|qA<|wY<|qT<|qA<|wZ u (lT u (lT u lN)) (fun _ k=>k none 0) [] ⟨gn,⟨⟩⟩)<|wC<|
  qC<|zN<|jB 2 u<|qD (gv (fun _ k=>k p15 c15 r_7) [0,1] (gq [0,4,6,7,8])))<|qM<|qK<|qP<|qL<|qC<|zN<|jB 3 u<|qD (gv (fun _ k=>k p12 c12 r_6) [0,1] (gq [0,2,3,4])))<|qM<|qK<|qP<|qL<|zN<|jB 2 u<|qC<|zN<|jB 3 u<|
  qD (gv (fun _ k=>k p9 c9 r_5) [0,1] (gq [0,1,2,3])))<|qM<|qK<|qP<|qL<|zN<|jA 3 u<|zJ<|wX 1 0 u u<|wZ u (lT u (lT u lN)) (fun _ k=>k p8 c8) [] (gq [0])
theorem zQK {qd : Prop} {y0 : List zM} {y1 : zM} : qG qd prog 81 [sv p1 y0 c1, .agg #[vb y1.1, vs y1.2]] [] [Rl vA p1 c1 y0] (zID y0 y1) fun r K=>∀ p2 c2,K (sv p2 r c2) [] [Rl vA p2 c2 r] :=
 qB call81 func81 u fun X=>zB<|qU .s u<|fun b1=>zA 1 u<|zC<|jA 1 u<|wF (fun s1 K=>K [0,3] [] [0] [(5, vi s1)] []) (zO<|qO (fun s2 K=>K [0,3] [] [0] [(5, vi s2)] []) (gv (fun _ k=>k) [0] (gq [0]))<|fun s2 _ k=>k<|zD<|
  wF (fun s3 K=>K [0,3,5] [] [0] [(19, vb s3)] []) (yU [] [0] 13<|zV 8 [0,1,2,3,4] u<|wG 11 u (zV 6 [5,6] u<|vO 7 0 u u u u<|fun x1 b2 o1=>vN 8 true yW u (gk 0) u<|vQ 9 0 2 u u u u<|qE 10<|
  qF (.f u) [] [] zL9 u u u ⟨⟩<|fun r1 _ k=>k<|zY<|zV 1 [11] u<|wB 12 (vb (decide (r1 < 0))) u<|qQ<|zK (gv (fun _ k=>k) [0] (gq [1])))<|zV 1 [5,6,7,8,9,10,11] u<|wB 12 (vb false) u<|qQ<|
  zK (gv (fun _ k=>k) [0] (gq [0])))<|fun s3 _ k=>k<|zH u (jC<|zO<|jB 3 u<|qC<|qD (gv (fun _ k=>k) [0] (gq [0])))<|qM<|qK<|qP<|qL<|zK (gv (fun _ k=>k) [0] (gq [0])))<|fun s1 _ k=>k<|zD<|
  wF (fun s4 K=>K [0,3,5] [] [0] [(33, vb s4)] []) (yU [] [0] 12<|zV 7 [0,1,2,3,4] u<|wG 26 u (zV 5 [5,6] u<|vO 7 0 u u u u<|fun x2 b3 o2=>vN 8 true yW u (gk 0) u<|vQ 9 0 2 u u u u<|
  wB 10 (vb (x2 == y1)) u<|wB 11 (vb (x2 == y1)) u<|qQ<|zK (gv (fun _ k=>k) [0] (gq [1])))<|zV 1 [5,6,7,8,9,10] u<|wB 11 (vb false) u<|qQ<|zK (gv (fun _ k=>k) [0] (gq [0])))<|fun s4 _ k=>k<|zH u (jA 2 u<|zJ<|qA<|
  zP u u (fun _ k=>k p1 c1) [] (gq [0]))<|jC<|zB<|xN .s (e := vA) 30 [] ([] : List zM) rN<|fun r_1 p2 c2=>zA 2 u<|jsl (gk 1) u u u (.inl ⟨rfl, rfl⟩) (.inr ⟨_, rfl⟩)<|fun x3 p3 c3=>wP .s 1 1 u (gk 0) u u<|
  fun x4 r_2 p4 c4=>zA 1 u<|zC<|yM [] [0] 9<|zV 8 [0] u<|vQ 1 0 2 u u u u<|zV 5 [4,5] u<|jdw 6 u (gk 3) u u u (.inr ⟨_, rfl⟩) (.inl ⟨rfl, rfl⟩)<|fun x5 p5 c5=>qE 2<|
  vC (.f u) (e := vA) 30 [vb y1.1, vs y1.2] ([y1] : List zM) (rC (vP vB vS) rN)<|fun p6 c6=>zY<|qE 3<|wP (.f u) 1 2 u (gk 0) u u<|fun x6 r_3 p7 c7=>zY<|qE 7<|wP (.f u) 1 0 u (gk 2) u u<|
  fun x7 r_4 p8 c8=>zY<|zV 0 [8] u<|qQ<|zN<|zJ<|wX 1 0 u u<|zP u u (fun _ k=>k p8 c8) [] (gq [0])
theorem zM6 {qd : Prop} {y0 : List zL} {y1 : List Int} : qG qd prog 34 [sv p1 y0 c1, sv p2 y1 c2] [] [Rl wR p1 c1 y0, Rl (zF .i64) p2 c2 y1] (zEH y0 y1) fun r K=>∀ p3 c3,K (sv p3 r c3) [] [Rl vA p3 c3 r] :=
 qB call34 func34 u fun X=>jA 1 u<|jA 1 u<|zD<|jA 1 u<|zO<|qO (fun s1 K=>∀ p3 c3,K [0,1] [] [0,1] [(5, sv p3 s1.1 c3), (6, vi s1.2)] [Rl vA p3 c3 s1.1]) (gv (fun _ k=>k none 0) [] ⟨gn,gk 0,gk 1,⟨⟩⟩)<|fun s1 _ k p3 c3=>k<|zD<|jA 4 u<|zH u (jC<|
  zD<|zO<|wF (fun s2 K=>K [0,1,5,6] [] [1,2,0] [(26, vb s2)] []) (qJ<|zA 2 u<|qW 2 u u u<|fun x1 b1 o1=>qV false oI (gk 0) u<|zA 2 u<|wG 18 u (zA 2 u<|qW 3 u u u<|fun x2 b2 o2=>qV false oI (gk 0) u<|
  zA 3 u<|zI (vb (decide (x2 < (len y0))))<|zU<|zK (gv (fun _ k=>k) [] (gq [3,4,2])))<|zA 7 u<|zI (vb false)<|zU<|zK (gv (fun _ k=>k) [] (gq [2,3,1])))<|fun s2 _ k=>k<|zH u (qJ<|zA 4 u<|qW 1 u u u<|fun x3 b3 o3=>
  qV false oI (gk 0) u<|qW 1 u u u<|fun x4 b4 o4=>zS 3 u<|qV true yW (gs (gs (gs (gk 0)))) u<|qH zQK u (cq [4])<|fun r1 _ k p4 c4=>k<|zA 1 u<|zU<|qC<|zN<|jB 3 u<|
  qD (gv (fun _ k=>k p4 c4) [] (gq [0,3,4])))<|wC<|qC<|zN<|jB 3 u<|qD (gv (fun _ k=>k p3 c3) [] (gq [2,0,1])))<|qM<|qK<|qP<|qL<|zN<|jA 2 u<|zJ<|zP u u (fun _ k=>k p3 c3) [] (gq [0])
theorem zLF {qd : Prop} {y0 : List zL} {y1 : Int} : qG qd prog 194 [sv p1 y0 c1, vi y1] [] [Rl wR p1 c1 y0] (zEg y0 y1) fun r K=>∀ p2 c2,K (sv p2 r c2) [] [Rl (zF .i64) p2 c2 r] :=
 qB call194 func194 u fun X=>jA 1 u<|jA 1 u<|zD<|zB<|zA 2 u<|qH zLX u (cq [0])<|fun r1 _ k p2 c2=>k<|zA 2 u<|zC<|zO<|
  qO (fun s1 K=>∀ p3 c3,K [0,10,11] [] [1,0] [(5, sv p3 s1.1 c3), (12, vi s1.2)] [Rl (zF .i64) p3 c3 s1.1]) (gv (fun _ k=>k none 0) [] ⟨gn,gk 1,gk 0,⟨⟩⟩)<|fun s1 _ k p3 c3=>k<|jA 1 u<|zD<|zH u (jC<|zD<|zO<|zB<|qW 2 u u u<|
  fun x1 b1 o1=>qV false oI (gk 0) u<|zA 1 u<|zC<|zB<|zA 2 u<|qW 2 u u u<|fun x2 b2 o2=>zS 0 u<|qV false oI (gf (gk 0)) u<|zA 1 u<|zC<|zH u (qJ<|zA 3 u<|qW 3 u u u<|fun x3 b3 o3=>zS 0 u<|
  qV false oI (gf (gk 0)) u<|qH zJs u (cq [3])<|fun r2 _ k p4 c4=>k<|zA 1 u<|zU<|qC<|zN<|jB 2 u<|qD (gv (fun _ k=>k p4 c4) [] (gq [0,5,6])))<|wC<|qC<|zN<|jB 2 u<|qD (gv (fun _ k=>k p3 c3) [] (gq [2,3,4])))<|
  qM<|qK<|qP<|qL<|zN<|jA 2 u<|zJ<|zP u u (fun _ k=>k p3 c3) [] (gq [0])
theorem zOx {qd : Prop} {y0 : zR} {y1 : List zL} {y2 : Int} : qG qd prog 138 [.agg #[sv p1 y0.1 c1, sv p2 y0.2.1 c2, sv p3 y0.2.2 c3], sv p4 y1 c4, vi y2] [] [Rl wN p1 c1 y0.1, Rl wJ p2 c2 y0.2.1, Rl wQ p3 c3 y0.2.2, Rl wR p4 c4 y1] (zGx y0 y1 y2) fun r K=>K (vb r) [] [] :=
 qB call138 func138 u fun X=>zB<|qU .s u<|fun b1=>zA 1 u<|zC<|zD<|zB<|zA 2 u<|qH zLF u (cq [3])<|fun r1 _ k p5 c5=>k<|zA 2 u<|zC<|zO<|qO (fun s1 K=>K [3,11,12] [] [0,1,2,3] [(13, vi s1)] []) (gv (fun _ k=>k) [0] (gq [0,1,2,3]))<|
  fun s1 _ k=>k<|jA 1 u<|zD<|zH u (jC<|zD<|zO<|zB<|qW 0 u u u<|fun x1 b2 o1=>qV false oI (gk 0) u<|zA 1 u<|zC<|zB<|zS 0 u<|zT 0 u u u<|zA 1 u<|qW 2 u u u<|fun x2 b3 o2=>zS 2 u<|
  qV false oI (gf (gs (gk 0))) u<|zA 1 u<|zC<|zH u (jA 1 u<|zJ<|qT<|qA<|wY<|qT<|qA<|zP u u (fun _ k=>k) [] ⟨⟩)<|wC<|qC<|zN<|jB 2 u<|qD (gv (fun _ k=>k) [0] (gq [2,3,4,5])))<|qM<|qK<|qP<|qL<|zN<|jA 1 u<|
  zJ<|zP u u (fun _ k=>k) [] ⟨⟩
theorem zO7 {qd : Prop} (k : Nat) :
    (∀ {y0 : zR} {p1 : Option Addr} {c1 : Nat} {p2 : Option Addr} {c2 : Nat} {p3 : Option Addr} {c3 : Nat} {y1 : List zL} {p4 : Option Addr} {c4 : Nat} {y2 : Int}, qG qd prog 196 [.agg #[sv p1 y0.1 c1, sv p2 y0.2.1 c2, sv p3 y0.2.2 c3], sv p4 y1 c4, vi y2] [] [Rl wN p1 c1 y0.1, Rl wJ p2 c2 y0.2.1, Rl wQ p3 c3 y0.2.2, Rl wR p4 c4 y1] (zFr k y0 y1 y2) fun r K=>∀ p5 c5,K (sv p5 r c5) [] [Rl (zF .i64) p5 c5 r]) := by
  induction k with
  | zero => exact zYc call196
  | succ k ih =>
    have ih_ref07_Last := @ih
    exact @fun y0 p1 c1 p2 c2 p3 c3 y1 p4 c4 y2=>qB (m1 := zJ4 (zFr k) y0 y1 y2) call196 func196 u fun X=>zB<|qU .s u<|fun b1=>zA 1 u<|zC<|zD<|wF (fun s1 K=>K [1,2,3] [] [3,0,1,2] [(24, vb s1)] []) (qJ<|zA 3 u<|wG 11 u (zA 4 u<|zI (vb true)<|zA 7 u<|zI (vb true)<|zU<|zK (gv (fun _ k=>k) [0] (gq [3,0,1,2])))<|
  zA 4 u<|zI (vb (decide ((len y1) ≤ y2)))<|zA 1 u<|wG 17 u (zA 6 u<|zI (vb true)<|zU<|zK (gv (fun _ k=>k) [0] (gq [3,0,1,2])))<|zA 2 u<|qW 3 u u u<|fun x1 b2 o1=>zS 1 u<|qV false oI (gf (gs (gk 0))) u<|
  zA 1 u<|zI (vb (decide (x1.2.1 < 0)))<|zU<|zK (gv (fun _ k=>k) [0] (gq [4,1,2,3])))<|fun s1 _ k=>k<|zH u (jA 1 u<|zJ<|qA<|zP u u (fun _ k=>k none 0) [] ⟨gn,⟨⟩⟩)<|jC<|zD<|yM [] [0] 11<|qN 0 1 u u<|
  qY 1 0 u u u u<|zV 7 [2,3] u<|vO 4 0 u u u u<|fun x2 b3 o2=>qN 5 1 u u<|vN 6 false oI u (gf (gs (gk 0))) u<|vO 7 3 u u u u<|fun x3 b4 o3=>qN 8 1 u u<|vN 9 false oB u (gf (gs (gk 0))) u<|
  zV 0 [10] u<|qQ<|zN<|zH u (zB<|zA 2 u<|qW 2 u u u<|fun x4 b5 o4=>zS 1 u<|qV false oI (gf (gs (gk 0))) u<|vC .s (e := zF .i64) 3 [vi x4.2.1] ([x4.2.1] : List Int) (rC vI rN)<|fun p5 c5=>zA 1 u<|zC<|zJ<|qA<|
  zP u u (fun _ k=>k p5 c5) [] (gq [0]))<|jC<|jA 1 u<|zD<|jA 1 u<|zO<|
  qO (fun s2 K=>∀ p6 c6,K [1,2,3] [] [2,3,4,5] [(7, sv p6 s2.1 c6), (8, vi s2.2)] [Rl (zF .i64) p6 c6 s2.1]) (gv (fun _ k=>k none 0) [0] ⟨gn,gk 2,gk 3,gk 4,gk 5,⟨⟩⟩)<|fun s2 _ k p6 c6=>k<|zD<|zB<|zA 3 u<|qW 1 u u u<|
  fun x5 b6 o5=>zS 2 u<|qV false oL (gf (gs (gs (gk 0)))) u<|fun p7 c7=>zA 2 u<|zC<|zH u (jC<|zD<|zO<|yU [] [0] 14<|zV 13 [0] u<|vQ 1 0 3 u u u u<|zV 9 [2,3,4] u<|vO 5 3 u u u u<|fun x6 b7 o6=>
  qN 6 2 u u<|vN 7 false oL u (gf (gs (gs (gk 0)))) u<|fun p8 c8=>zV 5 [8] u<|vO 9 0 u u u u<|fun x7 b8 o7=>vN 10 false oI u (gk 0) u<|qE 11<|qF (.f u) [] [] ih_ref07_Last u u u (cq [7,8,9,6])<|
  fun r1 _ k p9 c9=>k<|zY<|qE 12<|qF (.f u) [] [] zNZ u u u (cq [6,0])<|fun r2 _ k p10 c10=>k<|zY<|zV 0 [13] u<|qQ<|qC<|zN<|jB 3 u<|qD (gv (fun _ k=>k p10 c10) [0] (gq [0,8,9,10,11])))<|qM<|qK<|qP<|qL<|zN<|
  jA 2 u<|zJ<|zP u u (fun _ k=>k p6 c6) [] (gq [2])
theorem zSa {qd : Prop} {y0 : zR} {y1 : List zL} {y2 : Int} : qG qd prog 196 [.agg #[sv p1 y0.1 c1, sv p2 y0.2.1 c2, sv p3 y0.2.2 c3], sv p4 y1 c4, vi y2] [] [Rl wN p1 c1 y0.1, Rl wJ p2 c2 y0.2.1, Rl wQ p3 c3 y0.2.2, Rl wR p4 c4 y1] (zLY y0 y1 y2) fun r K=>∀ p5 c5,K (sv p5 r c5) [] [Rl (zF .i64) p5 c5 r] := zOJ fun k => (zO7 k)
theorem zKK {qd : Prop} {y0 : zR} {y1 : List zL} {y2 : Int} : qG qd prog 141 [.agg #[sv p1 y0.1 c1, sv p2 y0.2.1 c2, sv p3 y0.2.2 c3], sv p4 y1 c4, vi y2] [] [Rl wN p1 c1 y0.1, Rl wJ p2 c2 y0.2.1, Rl wQ p3 c3 y0.2.2, Rl wR p4 c4 y1] (zDl y0 y1 y2) fun r K=>∀ p5 c5,K (sv p5 r c5) [] [Rl (zF .i64) p5 c5 r] :=
 qB call141 func141 u fun X=>zB<|qU .s u<|fun b1=>zA 1 u<|zC<|zB<|zA 1 u<|vK (zF .i64) 3<|zC<|zD<|zB<|qR 0 3 u u u<|zA 2 u<|qH zSa u (cq [1,2,3,4])<|fun r1 _ k p5 c5=>k<|zA 2 u<|zC<|zO<|
  qO (fun s1 K=>∀ p6 c6 r_1,K [3,13,14] [(1, r_1)] [0,2,3,4] [(7, sv p6 s1.1 c6), (15, vi s1.2)] [Al (zF .i64) 3 r_1 p6 c6 s1.1]) (gv (fun _ k=>k none 0 []) [0,1] (gq [1,0,2,3,4]))<|fun s1 _ k p6 c6 r_1=>k<|jA 1 u<|zD<|zH u (jC<|
  zD<|zO<|zB<|qW 1 u u u<|fun x1 b2 o1=>qV false oI (gk 0) u<|zA 1 u<|zC<|qJ<|zA 1 u<|zS 1 u<|zT 0 u u u<|zA 1 u<|qW 4 u u u<|fun x2 b3 o2=>zS 2 u<|qV false oI (gf (gs (gs (gk 0)))) u<|
  vC .s (e := zF .i64) 3 [vi x2.2.2.1] ([x2.2.2.1] : List Int) (rC vI rN)<|fun p7 c7=>wP .s 1 3 u (gk 0) u u<|fun x3 r_2 p8 c8=>zA 1 u<|zU<|qC<|zN<|jB 2 u<|qD (gv (fun _ k=>k p8 c8 r_2) [0,1] (gq [0,5,6,7,8])))<|qM<|qK<|
  qP<|qL<|zN<|jA 2 u<|zJ<|wX 1 0 u u<|zP u u (fun _ k=>k p6 c6) [] (gq [0])
theorem zD2 {qd : Prop} {y0 : zR} {y1 : List zL} {y2 : Int} : qG qd prog 140 [.agg #[sv p1 y0.1 c1, sv p2 y0.2.1 c2, sv p3 y0.2.2 c3], sv p4 y1 c4, vi y2] [] [Rl wN p1 c1 y0.1, Rl wJ p2 c2 y0.2.1, Rl wQ p3 c3 y0.2.2, Rl wR p4 c4 y1] (zAu y0 y1 y2) fun r K=>∀ p5 c5,K (sv p5 r c5) [] [Rl (zF .i64) p5 c5 r] :=
 qB call140 func140 u fun X=>zB<|qU .s u<|fun b1=>zA 1 u<|zC<|zB<|zA 1 u<|vK (zF .i64) 3<|zC<|zD<|zB<|zA 2 u<|qH zLF u (cq [4])<|fun r1 _ k p5 c5=>k<|zA 2 u<|zC<|zO<|
  qO (fun s1 K=>∀ p6 c6 r_1,K [3,12,13] [(1, r_1)] [0,2,3,4] [(7, sv p6 s1.1 c6), (14, vi s1.2)] [Al (zF .i64) 3 r_1 p6 c6 s1.1]) (gv (fun _ k=>k none 0 []) [0,1] (gq [1,0,2,3,4]))<|fun s1 _ k p6 c6 r_1=>k<|jA 1 u<|zD<|zH u (jC<|
  zD<|zO<|zB<|qW 1 u u u<|fun x1 b2 o1=>qV false oI (gk 0) u<|zA 1 u<|zC<|zB<|zS 0 u<|zT 0 u u u<|zA 1 u<|qW 3 u u u<|fun x2 b3 o2=>zS 2 u<|qV false oI (gf (gs (gk 0))) u<|zC<|zO<|jA 2 u<|
  zH u (qJ<|zA 1 u<|zS 0 u<|zT 0 u u u<|zA 1 u<|qW 4 u u u<|fun x3 b4 o3=>zS 3 u<|qV false oI (gf (gs (gs (gk 0)))) u<|vC .s (e := zF .i64) 3 [vi x3.2.2.1] ([x3.2.2.1] : List Int) (rC vI rN)<|fun p7 c7=>
  wP .s 1 4 u (gk 0) u u<|fun x4 r_2 p8 c8=>zA 1 u<|zU<|qC<|qC<|zN<|jB 2 u<|qD (gv (fun _ k=>k p8 c8 r_2) [0,1] (gq [0,6,7,8,9])))<|jA 2 u<|zH u (qJ<|zA 1 u<|
  vC .s (e := zF .i64) 3 [vi (-1)] ([(-1)] : List Int) (rC vI rN)<|fun p9 c9=>wP .s 1 3 u (gk 0) u u<|fun x5 r_3 p10 c10=>zA 1 u<|zU<|qC<|qC<|zN<|jB 2 u<|qD (gv (fun _ k=>k p10 c10 r_3) [0,1] (gq [0,5,6,7,8])))<|wC<|qC<|
  qC<|zN<|jB 2 u<|qD (gv (fun _ k=>k p6 c6 r_1) [0,1] (gq [2,3,4,5,6])))<|qM<|qK<|qP<|qL<|zN<|jA 2 u<|zJ<|wX 1 0 u u<|zP u u (fun _ k=>k p6 c6) [] (gq [0])
theorem zKG {qd : Prop} {y0 : zR} {y1 : List zL} {y2 : Int} : qG qd prog 142 [.agg #[sv p1 y0.1 c1, sv p2 y0.2.1 c2, sv p3 y0.2.2 c3], sv p4 y1 c4, vi y2] [] [Rl wN p1 c1 y0.1, Rl wJ p2 c2 y0.2.1, Rl wQ p3 c3 y0.2.2, Rl wR p4 c4 y1] (zDx y0 y1 y2) fun r K=>∀ p5 c5,K (sv p5 r c5) [] [Rl (zF .i64) p5 c5 r] :=
 qB call142 func142 u fun X=>zB<|qU .s u<|fun b1=>zA 1 u<|zC<|zB<|zA 1 u<|vK (zF .i64) 3<|zC<|zD<|zB<|qR 0 3 u u u<|zA 2 u<|qH zHG u (cq [1,2,3,4])<|fun r1 _ k p5 c5=>k<|zA 2 u<|zC<|zO<|
  qO (fun s1 K=>∀ p6 c6 r_1,K [3,13,14] [(1, r_1)] [0,2,3,4] [(7, sv p6 s1.1 c6), (15, vi s1.2)] [Al (zF .i64) 3 r_1 p6 c6 s1.1]) (gv (fun _ k=>k none 0 []) [0,1] (gq [1,0,2,3,4]))<|fun s1 _ k p6 c6 r_1=>k<|jA 1 u<|zD<|zH u (jC<|
  zD<|zO<|zB<|qW 1 u u u<|fun x1 b2 o1=>qV false oI (gk 0) u<|zA 1 u<|zC<|qJ<|zA 1 u<|zS 1 u<|zT 0 u u u<|zA 1 u<|qW 4 u u u<|fun x2 b3 o2=>zS 2 u<|qV false oI (gf (gs (gs (gk 0)))) u<|
  vC .s (e := zF .i64) 3 [vi x2.2.2.1] ([x2.2.2.1] : List Int) (rC vI rN)<|fun p7 c7=>wP .s 1 3 u (gk 0) u u<|fun x3 r_2 p8 c8=>zA 1 u<|zU<|qC<|zN<|jB 2 u<|qD (gv (fun _ k=>k p8 c8 r_2) [0,1] (gq [0,5,6,7,8])))<|qM<|qK<|
  qP<|qL<|zN<|jA 2 u<|zJ<|wX 1 0 u u<|zP u u (fun _ k=>k p6 c6) [] (gq [0])
theorem zKy {qd : Prop} {y0 : List Int} : qG qd prog 195 [sv p1 y0 c1] [] [Rl (zF .i64) p1 c1 y0] (zEz y0) fun r K=>K (.tuple #[vi r.1, vi r.2]) [] [] :=
 qB call195 func195 u fun X=>jA 2 u<|yM [] [] 8<|zV 7 [0] u<|vO 1 0 u u u u<|fun x1 b1 o1=>vN 2 false oI u (gk 0) u<|zV 4 [3] u<|vO 4 1 u u u u<|fun x2 b2 o2=>vN 5 false oI u (gk 0) u<|zV 0 [6,7] u<|qQ<|zN<|zD<|jA 1 u<|zO<|
  qO (fun s1 K=>K [0] [] [2] [(4, vi s1.1), (5, vi s1.2.1), (6, vi s1.2.2)] []) (gv (fun _ k=>k) [] (gq [2]))<|fun s1 _ k=>k<|zD<|jA 4 u<|zH u (jC<|zD<|zO<|yU [] [] 14<|zV 11 [0,1,2] u<|vO 3 0 u u u u<|fun x3 b3 o3=>
  vN 4 false oI u (gk 0) u<|zV 5 [5,6,7,8] u<|vO 9 1 u u u u<|fun x4 b4 o4=>vN 10 false oI u (gk 0) u<|zV 0 [11,12,13] u<|qQ<|qC<|zN<|jB 3 u<|qD (gv (fun _ k=>k) [] (gq [2])))<|qM<|qK<|qP<|qL<|zN<|
  jA 4 u<|zJ<|wZ u (lT u (lT u lN)) (fun _ k=>k) [] ⟨⟩
theorem zJA {qd : Prop} {y0 : List Int} {y1 : List Int} {y2 : Int} : qG qd prog 139 [sv p1 y0 c1, sv p2 y1 c2, vi y2] [] [Rl (zF .i64) p1 c1 y0, Rl (zF .i64) p2 c2 y1] (zDr y0 y1 y2) fun r K=>K (vb r) [] [] :=
 qB call139 func139 u fun X=>jA 1 u<|zD<|xH (fun K=>K [0,1,2] [] [0,1] [(21, vb (if y2 != 1 then (y2 != 2) || ((len y0) == 0) else (len y0) == 0))] []) (qJ<|zA 3 u<|yC (b := y2 != 1) 13 u (fun hb1=>zA 2 u<|zI (vb (y2 != 2))<|zA 1 u<|
  yC (b := y2 != 2) 17 u (fun hb2=>zA 3 u<|zI (vb true)<|zU<|wS 21 (vb (if y2 != 1 then (y2 != 2) || ((len y0) == 0) else (len y0) == 0)) u (by rw [hb1,hb2]; rfl)<|zK (gv (fun _ k=>k) [] (gq [0,1])))<|fun hb2=>zA 3 u<|
  zI (vb ((len y0) == 0))<|zU<|wS 21 (vb (if y2 != 1 then (y2 != 2) || ((len y0) == 0) else (len y0) == 0)) u (by rw [hb1,hb2]; rfl)<|zK (gv (fun _ k=>k) [] (gq [0,1])))<|fun hb1=>zA 2 u<|zI (vb false)<|zA 4 u<|
  zI (vb ((len y0) == 0))<|zU<|wS 21 (vb (if y2 != 1 then (y2 != 2) || ((len y0) == 0) else (len y0) == 0)) u (by rw [hb1]; rfl)<|zK (gv (fun _ k=>k) [] (gq [0,1])))<|fun _ k=>k<|zH u (jA 1 u<|zJ<|qA<|
  zP u u (fun _ k=>k) [] ⟨⟩)<|jC<|zD<|jA 3 u<|zH u (jA 1 u<|zJ<|qA<|zP u u (fun _ k=>k) [] ⟨⟩)<|jC<|zB<|zA 1 u<|qH zKy rfl (cq [0])<|fun r1 _ k=>k<|zA 5 u<|zC<|zB<|zA 1 u<|
  qH zKy rfl (cq [1])<|fun r2 _ k=>k<|zA 5 u<|zC<|zD<|jA 2 u<|zH u (jA 4 u<|zJ<|qA<|zP u u (fun _ k=>k) [] ⟨⟩)<|jC<|jA 4 u<|zJ<|zP u u (fun _ k=>k) [] ⟨⟩
theorem zRa {qd : Prop} {y0 : zR} {y1 : List zL} {y2 : Int} {y3 : Int} {y4 : vF} : qG qd prog 80 [.agg #[sv p1 y0.1 c1, sv p2 y0.2.1 c2, sv p3 y0.2.2 c3], sv p4 y1 c4, vi y2, vi y3, .agg #[vi y4.1, vi y4.2]] [] [Rl wN p1 c1 y0.1, Rl wJ p2 c2 y0.2.1, Rl wQ p3 c3 y0.2.2, Rl wR p4 c4 y1] (zIQ y0 y1 y2 y3 y4) fun r K=>K (vb r) [] [] :=
 qB call80 func80 u fun X=>zB<|qU .s u<|fun b1=>qU .s u<|fun b2=>zA 1 u<|zC<|zD<|wF (fun s1 K=>K [1,2,3,5,9] [] [3,0,1,2] [(40, vb s1)] []) (qJ<|zA 3 u<|wG 19 u (zA 4 u<|zI (vb true)<|zA 3 u<|zI (vb true)<|zA 5 u<|zI (vb true)<|
  zA 5 u<|zI (vb true)<|zU<|zK (gv (fun _ k=>k) [0,1] (gq [3,0,1,2])))<|zA 4 u<|zI (vb (decide ((len y1) ≤ y2)))<|zA 1 u<|wG 25 u (zA 2 u<|zI (vb true)<|zA 5 u<|zI (vb true)<|zA 5 u<|zI (vb true)<|zU<|
  zK (gv (fun _ k=>k) [0,1] (gq [3,0,1,2])))<|zA 2 u<|zI (vb (decide (y3 < 0)))<|zA 1 u<|wG 29 u (zA 4 u<|zI (vb true)<|zA 5 u<|zI (vb true)<|zU<|zK (gv (fun _ k=>k) [0,1] (gq [3,0,1,2])))<|zA 4 u<|
  zI (vb (decide ((len y1) ≤ y3)))<|zA 1 u<|wG 35 u (zA 4 u<|zI (vb true)<|zU<|zK (gv (fun _ k=>k) [0,1] (gq [3,0,1,2])))<|qR 0 3 u u u<|zA 2 u<|qH zOx u (cq [0,1,2,3])<|fun r1 _ k=>k<|zI (vb r1)<|zU<|
  zK (gv (fun _ k=>k) [0,1] (gq [3,0,1,2])))<|fun s1 _ k=>k<|zH u (jA 1 u<|zJ<|qA<|zP u u (fun _ k=>k) [] ⟨⟩)<|jC<|yM [] [0, 1] 12<|vQ 0 0 3 u u u u<|zV 9 [1,2] u<|vQ 4 0 3 u u u u<|zV 6 [5,6] u<|
  qN 8 1 u u<|qY 9 1 u u u u<|qE 3<|qF (.f u) [] [] zD2 u u u (cq [1,2,3,0])<|fun r2 _ k p5 c5=>k<|zY<|qE 7<|qF (.f u) [] [] zD2 u u u (cq [2,3,4,1])<|fun r3 _ k p6 c6=>k<|
  zY<|qE 10<|qF (.f u) [] [] zJA u u u (cq [1,0])<|fun r4 _ k=>k<|zY<|zV 0 [11] u<|qQ<|zN<|zD<|zB<|zS 0 u<|zT 1 u u u<|zC<|zO<|jA 2 u<|zH u (yM [] [0] 10<|vQ 0 0 3 u u u u<|
  zV 7 [1,2] u<|vQ 4 0 3 u u u u<|zV 4 [5,6] u<|qE 3<|qF (.f u) [] [] zKK u u u (cq [3,4,5,2])<|fun r5 _ k p7 c7=>k<|zY<|qE 7<|qF (.f u) [] [] zKK u u u (cq [4,5,6,3])<|
  fun r6 _ k p8 c8=>k<|zY<|zV 0 [8,9] u<|qQ<|zN<|jjn (fun s2 K=>K [(10, vb s2)] [[], []] []) (qJ<|zA 2 u<|zS 1 u<|zT 1 u u u<|qH zJA u (cq [1,0])<|fun r7 _ k=>k<|zA 1 u<|wG 69 u (zA 11 u<|
  zI (vb true)<|zA 1 u<|zU<|zK (gv (fun _ k=>k) [900,901] ⟨⟩))<|zA 4 u<|wG 73 u (zA 3 u<|zI (vb ((len r6) == 0))<|zA 1 u<|wG 78 u (zA 1 u<|zI (vb r4)<|zI (vb r4)<|zA 1 u<|zU<|zK (gv (fun _ k=>k) [900,901] ⟨⟩)
  )<|zA 1 u<|zI (vb false)<|zI (vb false)<|zA 1 u<|zU<|zK (gv (fun _ k=>k) [900,901] ⟨⟩))<|zA 3 u<|zI (vb false)<|zA 2 u<|zI (vb false)<|zI (vb false)<|zA 1 u<|zU<|zK (gv (fun _ k=>k) [900,901] ⟨⟩))<|fun s2 _ k=>k<|
  zJ<|qT<|qA<|zP u u (fun _ k=>k) [] ⟨⟩)<|jA 2 u<|zH u (yM [] [0] 10<|vQ 0 0 3 u u u u<|zV 7 [1,2] u<|vQ 4 0 3 u u u u<|zV 4 [5,6] u<|qE 3<|
  qF (.f u) [] [] zKG u u u (cq [3,4,5,2])<|fun r8 _ k p9 c9=>k<|zY<|qE 7<|qF (.f u) [] [] zKG u u u (cq [4,5,6,3])<|fun r9 _ k p10 c10=>k<|zY<|zV 0 [8,9] u<|qQ<|zN<|zD<|
  xH (fun K=>K [1,2,3,5,9,11,14,15] [] [4,1,0,5,6,7] [(99, vb (((len r8) == 0) && ((len r9) == 0)))] []) (qJ<|zA 4 u<|yC (b := (len r8) == 0) 95 u (fun hb8=>zA 3 u<|zI (vb ((len r9) == 0))<|zU<|
  wS 99 (vb (((len r8) == 0) && ((len r9) == 0))) u (by rw [hb8]; rfl)<|zK (gv (fun _ k=>k) [0,1] (gq [4,1,0,5,6,7])))<|fun hb8=>zA 3 u<|zI (vb false)<|zU<|wS 99 (vb (((len r8) == 0) && ((len r9) == 0))) u (by rw [hb8]; rfl)<|
  zK (gv (fun _ k=>k) [0,1] (gq [4,1,0,5,6,7])))<|fun _ k=>k<|zH u (jA 2 u<|zJ<|qA<|qT<|qA<|zP u u (fun _ k=>k) [] ⟨⟩)<|jC<|zB<|zA 2 u<|zS 1 u<|zT 1 u u u<|qH zJA u (cq [1,2])<|fun r10 _ k=>k<|
  zA 1 u<|zC<|zD<|wF (fun s3 K=>K [11,16] [(0, []), (1, [])] [] [(119, vb s3)] []) (qJ<|qR 0 3 u u u<|zA 2 u<|qH zD2 u (cq [3,4,5,0])<|fun r11 _ k p11 c11=>k<|zA 3 u<|wG 112 u (qR 0 3 u u u<|
  zA 2 u<|qH zD2 u (cq [4,5,6,1])<|fun r12 _ k p12 c12=>k<|zA 2 u<|zI (vb ((len r12) == 0))<|zU<|zK (gv (fun _ k=>k) [900,901] ⟨⟩))<|zA 6 u<|zI (vb false)<|zU<|zK (gv (fun _ k=>k) [900,901] ⟨⟩))<|
  fun s3 _ k=>k<|zH u (jA 2 u<|zJ<|qA<|qT<|qA<|zP u u (fun _ k=>k) [] ⟨⟩)<|jC<|jjp (fun K=>K [(10, vb (r4 && r10))] [[], []] []) (qJ<|zA 2 u<|yC (b := r4) 122 u (fun hb10=>zA 1 u<|zI (vb r10)<|zA 1 u<|zU<|
  wS 10 (vb (r4 && r10)) u (by rw [hb10]; rfl)<|zK (gv (fun _ k=>k) [900,901] ⟨⟩))<|fun hb10=>zA 1 u<|zI (vb false)<|zA 1 u<|zU<|wS 10 (vb (r4 && r10)) u (by rw [hb10]; rfl)<|zK (gv (fun _ k=>k) [900,901] ⟨⟩))<|fun _ k=>k<|
  zJ<|qT<|qA<|zP u u (fun _ k=>k) [] ⟨⟩)<|wC<|qC<|zN<|jA 1 u<|zJ<|zP u u (fun _ k=>k) [] ⟨⟩
theorem zNe {qd : Prop} {y0 : zM} : qG qd prog 193 [.agg #[vb y0.1, vs y0.2]] [] [] (zHC y0) fun r K=>K (.agg #[vb r.1, vs r.2]) [] [] :=
 qB call193 func193 u fun X=>zB<|qU .s u<|fun b1=>wM .s (.agg #[vb false, vs []])<|fun b2=>zC<|zB<|zS 0 u<|zT 0 u u u<|zA 1 u<|zS 1 u<|zT 0 u u u<|zI (.agg #[vb (!y0.1), vs y0.2])<|qS .s 1 u u u<|zC<|zJ<|
  wZ u (lC 1 (.agg #[vb (!y0.1), vs y0.2]) u u lN) (fun _ k=>k) [] ⟨⟩
theorem zPC {qd : Prop} {y0 : zR} {y1 : List zL} {y2 : Int} {y3 : Int} {y4 : Int} : qG qd prog 137 [.agg #[sv p1 y0.1 c1, sv p2 y0.2.1 c2, sv p3 y0.2.2 c3], sv p4 y1 c4, vi y2, vi y3, vi y4] [] [Rl wN p1 c1 y0.1, Rl wJ p2 c2 y0.2.1, Rl wQ p3 c3 y0.2.2, Rl wR p4 c4 y1] (zHV y0 y1 y2 y3 y4) fun r K=>K (vb r) [] [] :=
 qB call137 func137 u fun X=>zB<|qU .s u<|fun b1=>zA 1 u<|zC<|yM [] [] 13<|zV 11 [0,1] u<|vO 2 3 u u u u<|fun x1 b2 o1=>qN 3 3 u u<|vN 4 true yW u (gs (gs (gs (gk 0)))) u<|zV 6 [5,6] u<|vO 7 4 u u u u<|fun x2 b3 o2=>
  qN 8 3 u u<|vN 9 true yW u (gs (gs (gs (gk 0)))) u<|qE 10<|qF (.f u) [] [] zNe u u u ⟨⟩<|fun r1 _ k=>k<|zY<|wB 11 (vb (x1.2.2.2 == r1)) u<|zV 0 [12] u<|qQ<|zN<|zD<|zB<|zA 2 u<|
  qW 5 u u u<|fun x3 b4 o3=>zS 1 u<|qV false oI (gf (gs (gk 0))) u<|zA 1 u<|zC<|zH u (jjn (fun s1 K=>K [(10, vb s1)] [[]] []) (yU [] [0] 19<|zV 16 [0,1,2] u<|wG 33 u (qN 3 0 u u<|qY 4 0 u u u u<|
  zV 12 [5,6] u<|vO 7 6 u u u u<|fun x4 b5 o4=>qN 8 0 u u<|vN 9 false oI u (gf (gk 0)) u<|vO 10 4 u u u u<|fun x5 b6 o5=>qN 11 2 u u<|vN 12 false oI u (gf (gs (gk 0))) u<|zV 5 [13] u<|
  wB 14 (vb (x5.2.1 != 1)) u<|zV 3 [15] u<|wG 46 u (zV 2 [16] u<|wB 17 (vb (x1.2.2.2 == r1)) u<|zV 0 [18] u<|qQ<|zK (gv (fun _ k=>k) [900] ⟨⟩))<|zV 2 [16] u<|wB 17 (vb false) u<|zV 0 [18] u<|qQ<|
  zK (gv (fun _ k=>k) [900] ⟨⟩))<|zV 5 [3,4,5,6,7,8,9,10,11,12,13] u<|wB 14 (vb false) u<|zV 2 [15,16] u<|wB 17 (vb false) u<|zV 0 [18] u<|qQ<|zK (gv (fun _ k=>k) [900] ⟨⟩))<|fun s1 _ k=>k<|zJ<|qA<|
  zP u u (fun _ k=>k) [] ⟨⟩)<|jC<|yM [] [0] 11<|qN 0 1 u u<|qY 1 0 u u u u<|zV 7 [2,3] u<|vO 4 6 u u u u<|fun x6 b7 o6=>qN 5 1 u u<|vN 6 false oI u (gf (gs (gk 0))) u<|vO 7 5 u u u u<|
  fun x7 b8 o7=>vN 8 true zMU u (gk 0) u<|fun p5 c5=>qE 9<|wM (.f u) (.agg #[vs [], vb false, vi 0, .slice none 0 0, vb false, vs []])<|fun b9=>zY<|qE 10<|qS (o := 0) (.f u) 1 u u u<|zY<|qQ<|zN<|zD<|jA 1 u<|zO<|
  jA 2 u<|zH u (jjp (fun K=>K [(10, vb ((!x7.2.1) && (x1.2.2.2 == r1)))] [[], []] []) (qJ<|zS 1 u<|zT 1 u u u<|zA 2 u<|yC (b := !x7.2.1) 64 u (fun hb3=>zA 1 u<|zI (vb (x1.2.2.2 == r1))<|zA 1 u<|zU<|
  wS 10 (vb ((!x7.2.1) && (x1.2.2.2 == r1))) u (by rw [hb3]; rfl)<|zK (gv (fun _ k=>k) [900,901] ⟨⟩))<|fun hb3=>zA 1 u<|zI (vb false)<|zA 1 u<|zU<|wS 10 (vb ((!x7.2.1) && (x1.2.2.2 == r1))) u (by rw [hb3]; rfl)<|
  zK (gv (fun _ k=>k) [900,901] ⟨⟩))<|fun _ k=>k<|zJ<|qT<|qA<|zP u u (fun _ k=>k) [] ⟨⟩)<|jA 2 u<|zH u (jjn (fun s2 K=>K [(10, vb s2)] [[], []] []) (yU [] [1] 15<|qN 0 1 u u<|qY 1 1 u u u u<|zV 11 [2,3] u<|
  wG 72 u (zV 9 [4,5] u<|vO 6 9 u u u u<|fun x8 b10 o8=>qN 7 3 u u<|vN 8 true yW u (gs (gs (gs (gk 0)))) u<|qN 9 0 u u<|qY 10 1 u u u u<|wB 11 (.agg #[vb true, vs x7.1]) u<|
  wB 12 (vb (x8.2.2.2 == (true, x7.1))) u<|wB 13 (vb (x8.2.2.2 == (true, x7.1))) u<|zV 0 [14] u<|qQ<|zK (gv (fun _ k=>k) [900,901] ⟨⟩))<|zV 2 [4,5,6,7,8,9,10,11,12] u<|wB 13 (vb false) u<|zV 0 [14] u<|qQ<|
  zK (gv (fun _ k=>k) [900,901] ⟨⟩))<|fun s2 _ k=>k<|zJ<|qT<|qA<|zP u u (fun _ k=>k) [] ⟨⟩)<|wC<|qC<|zN<|jA 1 u<|zJ<|zP u u (fun _ k=>k) [] ⟨⟩
theorem zOy {qd : Prop} {y0 : zR} {y1 : List zL} : qG qd prog 79 [.agg #[sv p1 y0.1 c1, sv p2 y0.2.1 c2, sv p3 y0.2.2 c3], sv p4 y1 c4] [] [Rl wN p1 c1 y0.1, Rl wJ p2 c2 y0.2.1, Rl wQ p3 c3 y0.2.2, Rl wR p4 c4 y1] (zHX y0 y1) fun r K=>∀ p5 c5,K (sv p5 r c5) [] [Rl uN p5 c5 r] :=
 qB call79 func79 u fun X=>zB<|qU .s u<|fun b1=>zA 1 u<|zC<|zB<|zA 1 u<|vK uN 123<|zC<|zD<|jA 1 u<|zO<|
  qO (fun s1 K=>∀ p5 c5 r_1,K [1,2] [(1, r_1)] [4,1,2,3] [(5, sv p5 s1.1 c5), (6, vi s1.2)] [Al uN 123 r_1 p5 c5 s1.1]) (gv (fun _ k=>k none 0 []) [0,1] (gq [0,4,1,2,3]))<|fun s1 _ k p5 c5 r_1=>k<|zD<|jA 4 u<|zH u (jC<|zD<|
  zO<|jA 1 u<|zO<|qO (fun s2 K=>∀ p6 c6 r_2,K [1,2,6] [(1, r_2)] [1,2,3,4] [(5, sv p6 s2.1 c6), (7, vi s2.2)] [Al uN 123 r_2 p6 c6 s2.1]) (gv (fun _ k=>k p5 c5 r_1) [0,1] (gq [0,1,2,3,4]))<|fun s2 _ k p6 c6 r_2=>k<|zD<|jA 4 u<|
  zH u (jC<|zD<|zO<|zB<|zA 2 u<|qH zLX u (cq [1])<|fun r1 _ k p7 c7=>k<|zA 2 u<|zC<|zO<|
  qO (fun s3 K=>∀ p8 c8 r_3,K [1,2,6,7,25,26] [(1, r_3)] [2,0,3,4,5] [(5, sv p8 s3.1 c8), (27, vi s3.2)] [Al uN 123 r_3 p8 c8 s3.1]) (gv (fun _ k=>k p6 c6 r_2) [0,1] (gq [1,2,0,3,4,5]))<|fun s3 _ k p8 c8 r_3=>k<|jA 1 u<|zD<|
  zH u (jC<|zD<|zO<|zB<|qW 2 u u u<|fun x1 b2 o1=>qV false oI (gk 0) u<|zA 1 u<|zC<|jA 1 u<|zO<|
  qO (fun s4 K=>∀ p9 c9 r_4,K [1,2,6,7,9,25,26,27] [(1, r_4)] [2,3,4,5,6] [(5, sv p9 s4.1 c9), (10, vi s4.2)] [Al uN 123 r_4 p9 c9 s4.1]) (gv (fun _ k=>k p8 c8 r_3) [0,1] (gq [1,2,3,4,5,6]))<|fun s4 _ k p9 c9 r_4=>k<|zD<|jA 2 u<|
  zH u (jC<|zD<|zO<|zB<|qR 0 3 u u u<|zA 4 u<|qH zPC u (cq [3,4,5,1])<|fun r2 _ k=>k<|zC<|zH u (qJ<|zA 5 u<|zI (.agg #[vi s1.2, vi s2.2, vi x1, vi s4.2])<|
  vC .s (e := uN) 123 [vi s1.2, vi s2.2, vi x1, vi s4.2] ([(s1.2, s2.2, x1, s4.2)] : List qZ) (rC (vP vI (vP vI (vP vI vI))) rN)<|fun p10 c10=>wP .s 1 1 u (gk 0) u u<|fun x2 r_5 p11 c11=>zA 1 u<|zU<|qC<|zN<|
  jB 3 u<|qD (gv (fun _ k=>k p11 c11 r_5) [0,1] (gq [0,3,4,5,6,7])))<|wC<|qC<|zN<|jB 3 u<|qD (gv (fun _ k=>k p9 c9 r_4) [0,1] (gq [0,1,2,3,4,5])))<|qM<|qK<|qP<|qL<|qC<|zN<|jB 2 u<|
  qD (gv (fun _ k=>k p9 c9 r_4) [0,1] (gq [0,1,2,3,4,5])))<|qM<|qK<|qP<|qL<|qC<|zN<|jB 3 u<|qD (gv (fun _ k=>k p8 c8 r_3) [0,1] (gq [0,1,3,4,5])))<|qM<|qK<|qP<|qL<|qC<|zN<|jB 3 u<|
  qD (gv (fun _ k=>k p6 c6 r_2) [0,1] (gq [0,1,2,3,4])))<|qM<|qK<|qP<|qL<|zN<|jA 2 u<|zJ<|wX 1 0 u u<|zP u u (fun _ k=>k p5 c5) [] (gq [0])
theorem zL1 {qd : Prop} {y0 : zR} {y1 : List zL} {y2 : vF} : qG qd prog 33 [.agg #[sv p1 y0.1 c1, sv p2 y0.2.1 c2, sv p3 y0.2.2 c3], sv p4 y1 c4, .agg #[vi y2.1, vi y2.2]] [] [Rl wN p1 c1 y0.1, Rl wJ p2 c2 y0.2.1, Rl wQ p3 c3 y0.2.2, Rl wR p4 c4 y1] (zFo y0 y1 y2) fun r K=>∀ p5 c5,K (sv p5 r c5) [] [Rl uN p5 c5 r] :=
 qB call33 func33 u fun X=>zB<|qU .s u<|fun b1=>qU .s u<|fun b2=>zA 1 u<|zC<|zB<|zA 1 u<|vK uN 123<|zC<|zB<|qR 0 3 u u u<|zA 1 u<|qH zOy rfl (cq [1,2,3,4])<|fun r1 _ k p5 c5=>k<|zA 1 u<|zC<|zD<|jA 1 u<|zO<|
  qO (fun s1 K=>∀ p6 c6 r_1,K [1,3,5,8] [(2, r_1)] [5,0,2,3,4] [(7, sv p6 s1.1 c6), (9, vi s1.2)] [Al uN 123 r_1 p6 c6 s1.1]) (gv (fun _ k=>k none 0 []) [0,1,2] (gq [1,5,0,2,3,4]))<|fun s1 _ k p6 c6 r_1=>k<|zD<|jA 4 u<|zH u (
  jC<|zD<|zO<|wF (fun s2 K=>K [1,3,5,7,8,9] [] [1,0,2,3,4,5] [(41, vb s2)] []) (yU [] [0, 1] 23<|zV 21 [0,1] u<|vO 2 2 u u u u<|fun x1 b3 o1=>qN 3 3 u u<|vN 4 false oI u (gs (gs (gs (gk 0)))) u<|zV 16 [5,6] u<|
  wG 25 u (zV 1 [7,8,9,10,11,12,13,14,15,16,17,18,19,20,21] u<|wB 22 (vb true) u<|qQ<|zK (gv (fun _ k=>k) [0,1,2] (gq [2,1,3,4,5,6])))<|vQ 7 0 3 u u u u<|zV 12 [8,9,10] u<|vO 11 3 u u u u<|fun x2 b4 o2=>
  qN 12 0 u u<|vN 13 false oI u (gf (gk 0)) u<|zV 7 [14,15] u<|vO 16 4 u u u u<|fun x3 b5 o3=>qN 17 2 u u<|vN 18 false oI u (gf (gs (gs (gk 0)))) u<|vQ 19 1 2 u u u u<|qE 20<|
  qF (.f u) [] [] zRa u u u (cq [6,7,8,4])<|fun r2 _ k=>k<|zY<|zV 1 [21] u<|wB 22 (vb (!r2)) u<|qQ<|zK (gv (fun _ k=>k) [0,1,2] (gq [4,3,5,6,7,8])))<|fun s2 _ k=>k<|zH u (qJ<|zA 3 u<|qW 2 u u u<|
  fun x4 b6 o4=>qV true zOf (gk 0) u<|vC .s (e := uN) 123 [vi x4.1, vi x4.2.1, vi x4.2.2.1, vi x4.2.2.2] ([x4] : List qZ) (rC (vP vI (vP vI (vP vI vI))) rN)<|fun p7 c7=>wP .s 2 3 u (gk 0) u u<|fun x5 r_2 p8 c8=>
  zA 1 u<|zU<|qC<|zN<|jB 3 u<|qD (gv (fun _ k=>k p8 c8 r_2) [0,1,2] (gq [0,3,5,6,7,8])))<|wC<|qC<|zN<|jB 3 u<|qD (gv (fun _ k=>k p6 c6 r_1) [0,1,2] (gq [1,0,2,3,4,5])))<|qM<|qK<|qP<|qL<|zN<|jA 2 u<|zJ<|wX 2 0 u u<|
  zP u u (fun _ k=>k p6 c6) [] (gq [0])
theorem zNG {qd : Prop} {y0 : Int} {y1 : List qZ} : qG qd prog 32 [vi y0, sv p1 y1 c1] [] [Rl uN p1 c1 y1] (zH6 y0 y1) fun r K=>∀ p2 c2,K (.tuple #[.agg #[vi r.1.1, sv p2 r.1.2 c2], vi r.2]) [] [Rl vZ p2 c2 r.1.2] :=
 qB call32 func32 u fun X=>zB<|wM .s (.agg #[vi 0, .slice none 0 0])<|fun b1=>zA 1 u<|zC<|zD<|xH (fun K=>K [0,1,4] [] [0] [(17, vb ((decide (y0 < 0)) || (decide (40 < y0))))] []) (qJ<|zA 3 u<|yC (b := decide (y0 < 0)) 14 u (fun hb1=>zA 2 u<|
  zI (vb true)<|zU<|wS 17 (vb ((decide (y0 < 0)) || (decide (40 < y0)))) u (by rw [hb1]; rfl)<|zK (gv (fun _ k=>k) [0] (gq [0])))<|fun hb1=>zA 2 u<|zI (vb (decide (40 < y0)))<|zU<|
  wS 17 (vb ((decide (y0 < 0)) || (decide (40 < y0)))) u (by rw [hb1]; rfl)<|zK (gv (fun _ k=>k) [0] (gq [0])))<|fun _ k=>k<|zH u (zB<|zI (.agg #[vi 0, .slice none 0 0])<|qS .s 0 u u u<|zA 1 u<|zC<|zJ<|qA<|
  wZ u (lC 0 (.agg #[vi 0, .slice none 0 0]) u u (lT u lN)) (fun _ k=>k none 0) [] ⟨gn,⟨⟩⟩)<|jC<|zUE (fun s1 K=>K [0,1,4] [] [0] [] []) (jA 1 u<|zO<|
  qO (fun s2 K=>K [0,1,4] [] [0] [(6, vi s2)] []) (gv (fun _ k=>k) [0] (gq [0]))<|fun s2 _ k=>k<|zD<|jA 4 u<|zH u (jC<|zD<|zO<|wF (fun s3 K=>K [0,1,4,6] [] [0] [(56, vb s3)] []) (qJ<|zA 2 u<|qW 0 u u u<|fun x1 b2 o1=>
  zS 0 u<|qV false oI (gf (gk 0)) u<|zA 2 u<|wG 31 u (zA 7 u<|zI (vb true)<|zA 7 u<|zI (vb true)<|zA 8 u<|zI (vb true)<|zU<|zK (gv (fun _ k=>k) [0] (gq [1])))<|zA 2 u<|qW 1 u u u<|fun x2 b3 o2=>zS 0 u<|
  qV false oI (gf (gk 0)) u<|zA 2 u<|zI (vb (decide (y0 ≤ x2.1)))<|zA 1 u<|wG 40 u (zA 6 u<|zI (vb true)<|zA 8 u<|zI (vb true)<|zU<|zK (gv (fun _ k=>k) [0] (gq [2])))<|zA 2 u<|qW 2 u u u<|fun x3 b4 o3=>
  zS 1 u<|qV false oI (gf (gs (gk 0))) u<|zA 1 u<|zI (vb (decide (x3.2.1 < 0)))<|zA 1 u<|wG 48 u (zA 7 u<|zI (vb true)<|zU<|zK (gv (fun _ k=>k) [0] (gq [3])))<|zA 2 u<|qW 3 u u u<|fun x4 b5 o4=>zS 1 u<|
  qV false oI (gf (gs (gk 0))) u<|zA 2 u<|zI (vb (decide (y0 ≤ x4.2.1)))<|zU<|zK (gv (fun _ k=>k) [0] (gq [4])))<|fun s3 _ k=>k<|zH u (zB<|zI (.agg #[vi 0, .slice none 0 0])<|qS .s 0 u u u<|zA 1 u<|zC<|zJ<|qT<|qA<|
  wY<|qT<|wY<|wZ u (lC 0 (.agg #[vi 0, .slice none 0 0]) u u (lT u lN)) (fun _ k=>k none 0) [] ⟨gn,⟨⟩⟩)<|wC<|qC<|zN<|jB 3 u<|qD (gv (fun _ k=>k) [0] (gq [0])))<|qM<|qK<|qP<|qL<|qD (gv (fun _ k=>k) [0] (gq [0])))<|
  fun s1 _ k=>k<|zB<|zA 1 u<|zI (.agg #[vi y0, .slice none 0 0])<|vK vZ 58<|wM .s (.agg #[vi 0, .slice none 0 0])<|fun b6=>qS .s 2 u u u<|zC<|
  wF (fun s4 K=>∀ p2 c2 r_1,K [4,7] [(1, r_1), (2, bx b6 50 [vi y0, sv p2 s4 c2])] [] [] [Al vZ 58 r_1 p2 c2 s4]) (jA 1 u<|zO<|
  qO (fun s5 K=>∀ p3 c3 r_2,K [0,1,4,7] [(1, r_2), (2, bx b6 50 [vi y0, sv p3 s5.2 c3])] [1] [(8, vi s5.1)] [Al vZ 58 r_2 p3 c3 s5.2]) (gv (fun _ k=>k none 0 []) [0,1,2] (gq [0,1]))<|fun s5 _ k p3 c3 r_2=>k<|zD<|jA 3 u<|zH u (jC<|
  zD<|zO<|jA 1 u<|zO<|qO (fun s6 K=>∀ p4 c4 r_3,K [0,1,4,7,8] [(1, r_3), (2, bx b6 50 [vi y0, sv p4 s6.2 c4])] [1] [(9, vi s6.1)] [Al vZ 58 r_3 p4 c4 s6.2]) (gv (fun _ k=>k p3 c3 r_2) [0,1,2] (gq [0,1]))<|fun s6 _ k p4 c4 r_3=>k<|
  zD<|jA 3 u<|zH u (jC<|zD<|zO<|jA 1 u<|wF (fun s7 K=>K [0,1,4,7,8,9] [] [1,0] [(10, vb s7)] []) (jA 1 u<|zO<|qO (fun s8 K=>K [0,1,4,7,8,9] [] [1,0] [(10, vb s8.1), (11, vi s8.2)] []) (gv (fun _ k=>k) [0,1,2] (gq [1,0]))<|
  fun s8 _ k=>k<|zD<|jA 4 u<|zH u (jC<|zD<|zO<|jjcK (fun s9 K=>K [0,1,4,7,8,9,11] [] [0,1] [(10, vb s9)] []) (qJ<|zA 2 u<|wG 77 u (zA 16 u<|zI (vb true)<|zA 1 u<|zU<|zK (gv (fun _ k=>k) [0,1,2] (gq [0,1])))<|
  zA 2 u<|qW 0 u u u<|fun x5 b7 o5=>zS 0 u<|qV false oI (gf (gk 0)) u<|zA 3 u<|wG 85 u (zA 2 u<|qW 1 u u u<|fun x6 b8 o6=>zS 1 u<|qV false oI (gf (gs (gk 0))) u<|zA 2 u<|zI (vb (x6.2.1 == s6.1))<|
  zI (vb (x6.2.1 == s6.1))<|zA 1 u<|zU<|zK (gv (fun _ k=>k) [0,1,2] (gq [2,3])))<|zA 7 u<|zI (vb false)<|zI (vb false)<|zA 1 u<|zU<|zK (gv (fun _ k=>k) [0,1,2] (gq [1,2])))<|fun s9 _ k=>k<|qC<|zN<|jB 3 u<|
  qD (gv (fun _ k=>k) [0,1,2] (gq [0,1])))<|qM<|qK<|qP<|qL<|zK (gv (fun _ k=>k) [0,1,2] (gq [0,1])))<|fun s7 _ k=>k<|jA 1 u<|zH u (qJ<|zS 1 u<|zT 2 u u u<|zA 2 u<|zI (.agg #[vi s5.1, vi s6.1])<|
  vC .s (e := vZ) 58 [vi s5.1, vi s6.1] ([(s5.1, s6.1)] : List wH) (rC (vP vI vI) rN)<|fun p5 c5=>wP .s 1 2 u (gk 0) u u<|fun x7 r_4 p6 c6=>zS 1 u<|qS .s 2 u u u<|zU<|qC<|zN<|jB 3 u<|
  qD (gv (fun _ k=>k p6 c6 r_4) [0,1,2] (gq [0,2])))<|wC<|qC<|zN<|jB 3 u<|qD (gv (fun _ k=>k p4 c4 r_3) [0,1,2] (gq [1,0])))<|qM<|qK<|qP<|qL<|qC<|zN<|jB 3 u<|qD (gv (fun _ k=>k p4 c4 r_3) [0,1,2] (gq [0,1])))<|qM<|qK<|qP<|
  qL<|zK (gv (fun _ k=>k p3 c3 r_2) [0,1,2] (gq [0])))<|fun s4 _ k p2 c2 r_1=>k<|zB<|qR 2 2 u u u<|qS .s 0 u u u<|zA 1 u<|zC<|zJ<|wX 1 0 u u<|
  wZ u (lC 0 (.agg #[vi y0, sv p2 s4 c2]) u u (lT u lN)) (fun _ k=>k p2 c2) [] (gq [0])
theorem zR4 {qd : Prop} {y0 : List Int} {y1 : Int} : qG qd prog 35 [sv p1 y0 c1, vi y1] [] [Rl (zF .i64) p1 c1 y0] (zLr y0 y1) fun r K=>∀ p2 c2,K (sv p2 r c2) [] [Rl (zF .i64) p2 c2 r] :=
 qB call35 func35 u fun X=>jA 1 u<|zB<|zA 1 u<|vK (zF .i64) 3<|zC<|zD<|jA 1 u<|zO<|qO (fun s1 K=>∀ p2 c2 r_1,K [0,1] [(0, r_1)] [1] [(5, sv p2 s1.1 c2), (6, vi s1.2)] [Al (zF .i64) 3 r_1 p2 c2 s1.1]) (gv (fun _ k=>k none 0 []) [0] (gq [0,1]))<|
  fun s1 _ k p2 c2 r_1=>k<|zD<|jA 4 u<|zH u (jC<|zD<|zO<|zB<|zA 2 u<|qW 1 u u u<|fun x1 b1 o1=>qV false oI (gk 0) u<|zA 2 u<|zC<|zH u (qJ<|zA 2 u<|
  vC .s (e := zF .i64) 3 [vi s1.2] ([s1.2] : List Int) (rC vI rN)<|fun p3 c3=>wP .s 0 2 u (gk 0) u u<|fun x2 r_2 p4 c4=>zA 1 u<|zU<|qC<|zN<|jB 3 u<|qD (gv (fun _ k=>k p4 c4 r_2) [0] (gq [0,4])))<|wC<|qC<|zN<|jB 3 u<|
  qD (gv (fun _ k=>k p2 c2 r_1) [0] (gq [1,2])))<|qM<|qK<|qP<|qL<|zN<|jA 2 u<|zJ<|wX 0 0 u u<|zP u u (fun _ k=>k p2 c2) [] (gq [0])
theorem zO8 {qd : Prop} {y0 : wT} : qG qd prog 236 [.agg #[vi y0.1, sv p1 y0.2 c1]] [] [Rl vZ p1 c1 y0.2] (zCt y0) fun r K=>K (vi r) [] [] :=
 qB call236 func236 u fun X=>zB<|qU .s u<|fun b1=>zA 1 u<|zC<|zD<|xH (fun K=>K [1] [] [0] [(12, vb ((decide (y0.1 < 0)) || (decide (40 < y0.1))))] []) (qJ<|zS 0 u<|zT 0 u u u<|zA 2 u<|yC (b := decide (y0.1 < 0)) 8 u (fun hb1=>zA 3 u<|
  zI (vb true)<|zU<|wS 12 (vb ((decide (y0.1 < 0)) || (decide (40 < y0.1)))) u (by rw [hb1]; rfl)<|zK (gv (fun _ k=>k) [0] (gq [0])))<|fun hb1=>zS 0 u<|zT 0 u u u<|zA 1 u<|zI (vb (decide (40 < y0.1)))<|zU<|
  wS 12 (vb ((decide (y0.1 < 0)) || (decide (40 < y0.1)))) u (by rw [hb1]; rfl)<|zK (gv (fun _ k=>k) [0] (gq [0])))<|fun _ k=>k<|zH u (jA 1 u<|zJ<|qA<|zP u u (fun _ k=>k) [] ⟨⟩)<|jC<|zD<|jA 1 u<|zO<|
  qO (fun s1 K=>K [1] [] [0] [(3, vi s1)] []) (gv (fun _ k=>k) [0] (gq [0]))<|fun s1 _ k=>k<|zD<|zB<|zA 1 u<|zS 1 u<|zT 0 u u u<|zA 2 u<|zC<|zH u (jC<|zD<|zO<|zB<|zS 1 u<|zT 0 u u u<|zA 1 u<|
  qW 0 u u u<|fun x1 b2 o1=>qV true zLp (gk 0) u<|wM .s (.agg #[vi 0, vi 0])<|fun b3=>qS .s 1 u u u<|zC<|zD<|
  xH (fun K=>K [1,3,4] [] [1] [(46, vb ((decide (x1.1 < 0)) || ((decide (y0.1 ≤ x1.1)) || ((decide (x1.2 < 0)) || (decide (y0.1 ≤ x1.2))))))] []) (qJ<|zS 0 u<|zT 1 u u u<|zA 2 u<|yC (b := decide (x1.1 < 0)) 28 u (fun hb2=>
  zA 5 u<|zI (vb true)<|zA 4 u<|zI (vb true)<|zA 6 u<|zI (vb true)<|zU<|wS 46 (vb ((decide (x1.1 < 0)) || ((decide (y0.1 ≤ x1.1)) || ((decide (x1.2 < 0)) || (decide (y0.1 ≤ x1.2)))))) u (by rw [hb2]; rfl)<|
  zK (gv (fun _ k=>k) [0,1] (gq [1])))<|fun hb2=>zS 0 u<|zT 1 u u u<|zS 0 u<|zT 0 u u u<|zA 1 u<|zI (vb (decide (y0.1 ≤ x1.1)))<|zA 1 u<|yC (b := decide (y0.1 ≤ x1.1)) 35 u (fun hb3=>zA 3 u<|zI (vb true)<|
  zA 6 u<|zI (vb true)<|zU<|wS 46 (vb ((decide (x1.1 < 0)) || ((decide (y0.1 ≤ x1.1)) || ((decide (x1.2 < 0)) || (decide (y0.1 ≤ x1.2)))))) u (by rw [hb2,hb3]; rfl)<|zK (gv (fun _ k=>k) [0,1] (gq [1])))<|fun hb3=>zS 1 u<|
  zT 1 u u u<|zA 1 u<|zI (vb (decide (x1.2 < 0)))<|zA 1 u<|yC (b := decide (x1.2 < 0)) 40 u (fun hb4=>zA 5 u<|zI (vb true)<|zU<|
  wS 46 (vb ((decide (x1.1 < 0)) || ((decide (y0.1 ≤ x1.1)) || ((decide (x1.2 < 0)) || (decide (y0.1 ≤ x1.2)))))) u (by rw [hb2,hb3,hb4]; rfl)<|zK (gv (fun _ k=>k) [0,1] (gq [1])))<|fun hb4=>zS 1 u<|zT 1 u u u<|zS 0 u<|
  zT 0 u u u<|zA 1 u<|zI (vb (decide (y0.1 ≤ x1.2)))<|zU<|wS 46 (vb ((decide (x1.1 < 0)) || ((decide (y0.1 ≤ x1.1)) || ((decide (x1.2 < 0)) || (decide (y0.1 ≤ x1.2)))))) u (by rw [hb2,hb3,hb4]; rfl)<|
  zK (gv (fun _ k=>k) [0,1] (gq [1])))<|fun _ k=>k<|zH u (jA 1 u<|zJ<|qA<|qT<|qA<|wY<|qT<|qA<|zP u u (fun _ k=>k) [] ⟨⟩)<|jC<|wF (fun s2 K=>K [1,3] [(1, [])] [0] [(84, vb s2)] []) (yU [] [0, 1] 38<|zV 35 [0,1,2] u<|
  wG 49 u (qN 3 1 u u<|qY 4 0 u u u u<|zV 31 [5,6] u<|vO 7 0 u u u u<|fun x2 b4 o2=>qN 8 0 u u<|vN 9 false oI u (gf (gk 0)) u<|qN 10 0 u u<|qY 11 1 u u u u<|zV 24 [12,13] u<|wG 60 u (
  zV 2 [14,15,16,17,18,19,20,21,22,23,24,25,26,27,28,29,30,31,32,33,34,35] u<|wB 36 (vb true) u<|wB 37 (vb true) u<|qQ<|zK (gv (fun _ k=>k) [0,901] (gq [1])))<|qN 14 1 u u<|qY 15 0 u u u u<|zV 20 [16,17] u<|
  vO 18 1 u u u u<|fun x3 b5 o3=>qN 19 0 u u<|vN 20 false oI u (gf (gk 0)) u<|qN 21 0 u u<|qY 22 1 u u u u<|zV 13 [23,24] u<|wG 71 u (qN 25 1 u u<|qY 26 0 u u u u<|zV 9 [27,28] u<|
  vO 29 2 u u u u<|fun x4 b6 o4=>qN 30 1 u u<|vN 31 false oI u (gs (gk 0)) u<|qN 32 1 u u<|qY 33 1 u u u u<|zV 3 [34] u<|wB 35 (vb (decide (x1.2 ≤ x4.2))) u<|wB 36 (vb (decide (x1.2 ≤ x4.2))) u<|
  wB 37 (vb (decide (x1.2 ≤ x4.2))) u<|qQ<|zK (gv (fun _ k=>k) [0,901] (gq [3])))<|zV 3 [25,26,27,28,29,30,31,32,33,34] u<|wB 35 (vb false) u<|wB 36 (vb false) u<|wB 37 (vb false) u<|qQ<|
  zK (gv (fun _ k=>k) [0,901] (gq [2])))<|zV 1 [3,4,5,6,7,8,9,10,11,12,13,14,15,16,17,18,19,20,21,22,23,24,25,26,27,28,29,30,31,32,33,34,35,36] u<|wB 37 (vb false) u<|qQ<|zK (gv (fun _ k=>k) [0,901] (gq [0])))<|fun s2 _ k=>k<|
  zH u (jA 1 u<|zJ<|qT<|qA<|wY<|qT<|qA<|zP u u (fun _ k=>k) [] ⟨⟩)<|wC<|qC<|zN<|jB 3 u<|qD (gv (fun _ k=>k) [0] (gq [0])))<|qM<|qK<|qP<|qL<|zN<|jA 1 u<|zJ<|zP u u (fun _ k=>k) [] ⟨⟩
theorem zRQ {qd : Prop} {y0 : wT} : qG qd prog 197 [.agg #[vi y0.1, sv p1 y0.2 c1]] [] [Rl vZ p1 c1 y0.2] (zIs y0) fun r K=>∀ p2 c2,K (.agg #[vi r.1, sv p2 r.2 c2]) [] [Rl vZ p2 c2 r.2] :=
 qB call197 func197 u fun X=>zB<|qU .s u<|fun b1=>wM .s (.agg #[vi 0, .slice none 0 0])<|fun b2=>zC<|zD<|zB<|qR 0 2 u u u<|qH zO8 u (cq [0])<|fun r1 _ k=>k<|zA 1 u<|zC<|zH u (zB<|zI (.agg #[vi 0, .slice none 0 0])<|
  qS .s 1 u u u<|zC<|zJ<|qA<|wZ u (lC 1 (.agg #[vi 0, .slice none 0 0]) u u lN) (fun _ k=>k none 0) [] ⟨gn,⟨⟩⟩)<|jC<|zB<|qR 0 2 u u u<|qS .s 1 u u u<|zC<|zJ<|
  wZ u (lC 1 (.agg #[vi y0.1, sv p1 y0.2 c1]) u u lN) (fun _ k=>k p1 c1) [] (gq [0])
theorem zKR {qd : Prop} {y0 : wT} {y1 : Int} : qG qd prog 144 [.agg #[vi y0.1, sv p1 y0.2 c1], vi y1] [] [Rl vZ p1 c1 y0.2] (zDt y0 y1) fun r K=>∀ p2 c2,K (sv p2 r c2) [] [Rl (zF .i64) p2 c2 r] :=
 qB call144 func144 u fun X=>zB<|qU .s u<|fun b1=>zA 1 u<|zC<|zB<|qR 0 2 u u u<|qH zRQ u (cq [0])<|fun r1 _ k p2 c2=>k<|qS .s 0 u u u<|zC<|zB<|zA 1 u<|vK (zF .i64) 3<|zC<|zD<|jA 1 u<|zO<|
  qO (fun s1 K=>∀ p3 c3 r_1,K [1,2] [(1, r_1)] [1] [(5, sv p3 s1.1 c3), (6, vi s1.2)] [Al (zF .i64) 3 r_1 p3 c3 s1.1]) (gv (fun _ k=>k none 0 []) [0,1] (gq [0,1]))<|fun s1 _ k p3 c3 r_1=>k<|zD<|zB<|zA 1 u<|zS 1 u<|
  zT 0 u u u<|zA 2 u<|zC<|zH u (jC<|zD<|zO<|zB<|zS 1 u<|zT 0 u u u<|zA 1 u<|qW 1 u u u<|fun x1 b2 o1=>zS 1 u<|qV false oI (gs (gk 0)) u<|zA 2 u<|zC<|zH u (qJ<|zA 1 u<|zS 1 u<|
  zT 0 u u u<|zA 1 u<|qW 2 u u u<|fun x2 b3 o2=>zS 0 u<|qV false oI (gf (gk 0)) u<|vC .s (e := zF .i64) 3 [vi x2.1] ([x2.1] : List Int) (rC vI rN)<|fun p4 c4=>wP .s 1 3 u (gk 0) u u<|fun x3 r_2 p5 c5=>
  zA 1 u<|zU<|qC<|zN<|jB 3 u<|qD (gv (fun _ k=>k p5 c5 r_2) [0,1] (gq [0,5])))<|wC<|qC<|zN<|jB 3 u<|qD (gv (fun _ k=>k p3 c3 r_1) [0,1] (gq [1,2])))<|qM<|qK<|qP<|qL<|zN<|jA 2 u<|zJ<|wX 1 0 u u<|
  zP u u (fun _ k=>k p3 c3) [] (gq [0])
theorem zRP {qd : Prop} {y0 : wT} : qG qd prog 82 [.agg #[vi y0.1, sv p1 y0.2 c1]] [] [Rl vZ p1 c1 y0.2] (zIi y0) fun r K=>∀ p2 c2 p3 c3,K (.tuple #[sv p2 r.1 c2, sv p3 r.2 c3]) [] [Rl (zF .i64) p2 c2 r.1, Rl (zF .i64) p3 c3 r.2] :=
 qB call82 func82 u fun X=>zB<|qU .s u<|fun b1=>zA 2 u<|zC<|zB<|zA 1 u<|vK (zF .i64) 3<|zA 1 u<|vK (zF .i64) 3<|zC<|
  wF (fun s1 K=>∀ p2 c2 r_1 p3 c3 r_2,K [1] [(1, r_1), (2, r_2)] [2] [(4, sv p2 s1.1 c2), (5, sv p3 s1.2 c3)] [Al (zF .i64) 3 r_1 p2 c2 s1.1, Al (zF .i64) 3 r_2 p3 c3 s1.2]) (jA 1 u<|zO<|
  qO (fun s2 K=>∀ p4 c4 r_3 p5 c5 r_4,K [1] [(1, r_3), (2, r_4)] [2] [(4, sv p4 s2.1 c4), (5, sv p5 s2.2.1 c5), (6, vi s2.2.2)] [Al (zF .i64) 3 r_3 p4 c4 s2.1, Al (zF .i64) 3 r_4 p5 c5 s2.2.1]) (gv (fun _ k=>k none 0 [] none 0 []) [0,1,2] (gq [1,0,2]))<|
  fun s2 _ k p4 c4 r_3 p5 c5 r_4=>k<|zD<|zB<|zA 1 u<|zS 0 u<|zT 0 u u u<|zA 1 u<|zC<|zH u (jC<|zD<|zO<|qJ<|zA 1 u<|vC .s (e := zF .i64) 3 [vi 3] ([3] : List Int) (rC vI rN)<|fun p6 c6=>
  wP .s 1 1 u (gk 0) u u<|fun x1 r_5 p7 c7=>zA 1 u<|vC .s (e := zF .i64) 3 [vi 0] ([0] : List Int) (rC vI rN)<|fun p8 c8=>wP .s 2 4 u (gk 0) u u<|fun x2 r_6 p9 c9=>zA 2 u<|zU<|qC<|zN<|jB 3 u<|
  qD (gv (fun _ k=>k p7 c7 r_5 p9 c9 r_6) [0,1,2] (gq [2,0,6])))<|qM<|qK<|qP<|qL<|zK (gv (fun _ k=>k p4 c4 r_3 p5 c5 r_4) [0,1,2] (gq [0,1,2])))<|fun s1 _ k p2 c2 r_1 p3 c3 r_2=>k<|jA 1 u<|zO<|
  qO (fun s3 K=>∀ r_7 r_8,K [1] [(1, r_7), (2, r_8)] [2] [(4, .slice p2 (List.length s1.1) c2), (5, .slice p3 (List.length s1.2) c3), (7, vi s3.2.2)] [Ar (zF .i64) 3 r_7 p2 c2 (List.length s1.1) s3.1, Ar (zF .i64) 3 r_8 p3 c3 (List.length s1.2) s3.2.1]) (gv (fun _ k=>k r_1 r_2) [0,1,2] (gq [0,1,2]))<|
  fun s3 _ k r_7 r_8=>k<|zD<|zO<|jA 1 u<|zB<|xN .s (e := zF .i64) 3 [] ([] : List Int) rN<|fun r_9 p10 c10=>zA 1 u<|jao .s 3 1 0 1 u u u u<|fun x3 r_10 p11 c11=>zA 1 u<|zC<|
  wF (fun s4 K=>∀ r_11 r_12,K [1,4,5,7] [(1, r_11), (2, r_12), (3, [])] [4] [(8, vb s4.2.2)] [Ar (zF .i64) 3 r_11 p2 c2 (List.length s1.1) s4.1, Ar (zF .i64) 3 r_12 p3 c3 (List.length s1.2) s4.2.1]) (jA 1 u<|zO<|
  qO (fun s5 K=>∀ r_13 r_14,K [1,4,5,7,9] [(1, r_13), (2, r_14)] [0,4] [(8, vb s5.2.2.1), (10, vi s5.2.2.2)] [Ar (zF .i64) 3 r_13 p2 c2 (List.length s1.1) s5.1, Ar (zF .i64) 3 r_14 p3 c3 (List.length s1.2) s5.2.1]) (gv (fun _ k=>k r_7 r_8) [0,1,2,3] (gq [2,3,0,4]))<|
  fun s5 _ k r_13 r_14=>k<|zD<|zB<|zA 1 u<|zS 0 u<|zT 0 u u u<|zA 1 u<|zC<|zH u (jC<|zD<|zO<|zB<|zA 2 u<|yL 2 u u u<|fun x4 h4 b2 hp1=>xD 3 2 sI false oI u hp1 h4 u<|zA 2 u<|zC<|
  wF (fun s6 K=>K [1,4,5,7,8,9,10] [] [0,1,2,3] [(11, vb s6)] []) (zB<|qR 0 2 u u u<|zA 1 u<|qH zKR u (cq [3])<|fun r1 _ k p12 c12=>k<|zA 2 u<|zC<|zO<|
  qO (fun s7 K=>K [1,4,5,7,8,9,10,47,48] [] [1,2,3,0,4] [(11, vb s7.1), (49, vi s7.2)] []) (gv (fun _ k=>k) [0,1,2,3] (gq [1,2,3,0,4]))<|fun s7 _ k=>k<|jA 1 u<|zD<|zH u (jC<|zD<|zO<|zB<|qW 3 u u u<|fun x5 b3 o1=>
  qV false oI (gk 0) u<|zA 1 u<|zC<|jjcK (fun s8 K=>K [1,4,5,7,8,9,10,47,48,49] [] [1,2,3,4,5] [(11, vb s8)] []) (qJ<|zA 2 u<|wG 54 u (zA 2 u<|yL 3 u u u<|fun x6 h5 b4 hp2=>xD 3 3 sI false oI u hp2 h5 u<|
  zA 1 u<|zI (vb (x6 == 2))<|zA 1 u<|zU<|zK (gv (fun _ k=>k) [0,1,2,3] (gq [1,2,3,4,5])))<|zA 5 u<|zI (vb false)<|zA 1 u<|zU<|zK (gv (fun _ k=>k) [0,1,2,3] (gq [1,2,3,4,5])))<|fun s8 _ k=>k<|qC<|zN<|jB 2 u<|
  qD (gv (fun _ k=>k) [0,1,2,3] (gq [0,1,2,3,4])))<|qM<|qK<|qP<|qL<|zK (gv (fun _ k=>k) [0,1,2,3] (gq [0,1,2,4])))<|fun s6 _ k=>k<|jA 1 u<|zH u (qJ<|zA 5 u<|yL 0 u u u<|fun x7 h6 b5 hp3=>
  xJ .s 1 0 sI 1 false u hp3 h6 u u vI<|fun r_15=>yL 2 u u u<|fun x8 h7 b6 hp4=>xJ .s 2 2 sI s3.2.2 false u hp4 h7 u u vI<|fun r_16=>zA 1 u<|zU<|qC<|zN<|jB 3 u<|
  qD (gv (fun _ k=>k r_15 r_16) [0,1,2,3] (gq [1,0,4,5])))<|wC<|qC<|zN<|jB 3 u<|qD (gv (fun _ k=>k r_13 r_14) [0,1,2,3] (gq [0,1,2,3])))<|qM<|qK<|qP<|qL<|zK (gv (fun _ k=>k r_13 r_14) [0,1,2,903] (gq [0,1,3])))<|
  fun s4 _ k r_11 r_12=>k<|wF (fun s9 K=>∀ r_17 r_18,K [1,4,5,7,8] [(1, r_17), (2, r_18)] [2] [] [Ar (zF .i64) 3 r_17 p2 c2 (List.length s1.1) s9.1, Ar (zF .i64) 3 r_18 p3 c3 (List.length s1.2) s9.2]) (jA 1 u<|zO<|
  qO (fun s10 K=>∀ r_19 r_20,K [1,4,5,7,8] [(1, r_19), (2, r_20)] [2] [(14, vi s10.2.2)] [Ar (zF .i64) 3 r_19 p2 c2 (List.length s1.1) s10.1, Ar (zF .i64) 3 r_20 p3 c3 (List.length s1.2) s10.2.1]) (gv (fun _ k=>k r_11 r_12) [0,1,2,903] (gq [0,1,2]))<|
  fun s10 _ k r_19 r_20=>k<|zD<|zB<|zA 1 u<|zS 0 u<|zT 0 u u u<|zA 1 u<|zC<|zH u (jC<|zD<|zO<|zB<|qR 0 2 u u u<|zA 1 u<|qH zKR u (cq [2])<|fun r2 _ k p13 c13=>k<|zA 2 u<|zC<|zO<|
  qO (fun s11 K=>∀ r_21 r_22,K [1,4,5,7,8,14,78,79] [(1, r_21), (2, r_22)] [0,3] [(80, vi s11.2.2)] [Ar (zF .i64) 3 r_21 p2 c2 (List.length s1.1) s11.1, Ar (zF .i64) 3 r_22 p3 c3 (List.length s1.2) s11.2.1]) (gv (fun _ k=>k r_19 r_20) [0,1,2,903] (gq [1,2,0,3]))<|
  fun s11 _ k r_21 r_22=>k<|jA 1 u<|zD<|zH u (jC<|zD<|zO<|zB<|qW 2 u u u<|fun x9 b7 o2=>qV false oI (gk 0) u<|zA 1 u<|zC<|wF (fun s12 K=>K [1,4,5,7,8,14,78,79,80] [] [1,2,3,4] [(103, vb s12)] []) (qJ<|zA 2 u<|
  yL 1 u u u<|fun x10 h8 b8 hp5=>xD 1 1 sI false oI u hp5 h8 u<|zA 2 u<|wG 89 u (zA 2 u<|yL 1 u u u<|fun x11 h9 b9 hp6=>xD 1 1 sI false oI u hp6 h9 u<|zA 1 u<|zI (vb (x11 == 1))<|zA 1 u<|wG 96 u (
  zA 2 u<|yL 2 u u u<|fun x12 h10 b10 hp7=>xD 2 2 sI false oI u hp7 h10 u<|zA 2 u<|zI (vb (x12 == s3.2.2))<|zU<|zK (gv (fun _ k=>k) [0,1,2,903] (gq [1,2,3,4])))<|zA 6 u<|zI (vb false)<|zU<|
  zK (gv (fun _ k=>k) [0,1,2,903] (gq [1,2,3,4])))<|zA 5 u<|zI (vb false)<|zA 7 u<|zI (vb false)<|zU<|zK (gv (fun _ k=>k) [0,1,2,903] (gq [1,2,3,4])))<|fun s12 _ k=>k<|zH u (qJ<|zA 5 u<|yL 0 u u u<|
  fun x13 h11 b11 hp8=>xJ .s 1 0 sI 2 false u hp8 h11 u u vI<|fun r_23=>yL 2 u u u<|fun x14 h12 b12 hp9=>xJ .s 2 2 sI s3.2.2 false u hp9 h12 u u vI<|fun r_24=>zU<|qC<|zN<|jB 2 u<|
  qD (gv (fun _ k=>k r_23 r_24) [0,1,2,903] (gq [1,0,4,5])))<|wC<|qC<|zN<|jB 2 u<|qD (gv (fun _ k=>k r_21 r_22) [0,1,2,903] (gq [0,1,2,3])))<|qM<|qK<|qP<|qL<|qC<|zN<|jB 3 u<|
  qD (gv (fun _ k=>k r_21 r_22) [0,1,2,903] (gq [0,1,3])))<|qM<|qK<|qP<|qL<|zK (gv (fun _ k=>k r_19 r_20) [0,1,2,903] (gq [0,1,2])))<|fun s9 _ k r_17 r_18=>k<|jA 2 u<|zH u (jA 4 u<|zJ<|qT<|qA<|wY<|qT<|wX 1 0 u u<|
  wX 2 2 u u<|jre 1 2 u u<|jre 1 3 u u<|wZ u (lT u (lT u lN)) (fun _ k=>k p2 c2 p3 c3) [] (gq [1,0]))<|wC<|qC<|zN<|jB 3 u<|qD (gv (fun _ k=>k r_17 r_18) [0,1,2] (gq [0,1,2]))
theorem zRS {qd : Prop} {y0 : wT} : qG qd prog 36 [.agg #[vi y0.1, sv p1 y0.2 c1]] [] [Rl vZ p1 c1 y0.2] (zIp y0) fun r K=>∀ p2 c2,K (sv p2 r c2) [] [Rl (zF .i64) p2 c2 r] :=
 qB call36 func36 u fun X=>zB<|qU .s u<|fun b1=>zA 1 u<|zC<|zB<|qR 0 2 u u u<|qH zRP u (cq [0])<|fun r1 _ k p2 c2 p3 c3=>k<|zA 5 u<|zC<|jA 2 u<|zJ<|zP u u (fun _ k=>k p2 c2) [] (gq [0])
theorem zLa {qd : Prop} {y0 : zR} {y1 : vF} : qG qd prog 13 [.agg #[sv p1 y0.1 c1, sv p2 y0.2.1 c2, sv p3 y0.2.2 c3], .agg #[vi y1.1, vi y1.2]] [] [Rl wN p1 c1 y0.1, Rl wJ p2 c2 y0.2.1, Rl wQ p3 c3 y0.2.2] (zC7 y0 y1) fun r K=>∀ p4 c4 p5 c5 p6 c6 p7 c7 p8 c8 p9 c9,K (.tuple #[.agg #[sv p4 r.1.1.1 c4, sv p5 r.1.1.2.1 c5, sv p6 r.1.1.2.2 c6, sv p7 r.1.2.1 c7, sv p8 r.1.2.2.1 c8, vi r.1.2.2.2.1, sv p9 r.1.2.2.2.2 c9], vi r.2]) [] [Rl wN p4 c4 r.1.1.1, Rl wJ p5 c5 r.1.1.2.1, Rl wQ p6 c6 r.1.1.2.2, Rl wR p7 c7 r.1.2.1, Rl uN p8 c8 r.1.2.2.1, Rl vZ p9 c9 r.1.2.2.2.2] :=
 qB call13 func13 u fun X=>zB<|qU .s u<|fun b1=>qU .s u<|fun b2=>wM .s (.agg #[.slice none 0 0, .slice none 0 0, .slice none 0 0, .slice none 0 0, .slice none 0 0, vi 0, .slice none 0 0])<|fun b3=>zA 1 u<|zC<|zB<|qR 0 3 u u u<|
  qH zRV u (cq [0,1,2])<|fun r1 _ k p4 c4=>k<|zA 5 u<|zC<|zD<|jA 2 u<|zH u (zB<|zI (.agg #[.slice none 0 0, .slice none 0 0, .slice none 0 0, .slice none 0 0, .slice none 0 0, vi 0, .slice none 0 0])<|zA 1 u<|
  qS .s 2 u u u<|zA 1 u<|zC<|zJ<|qA<|
  wZ u (lC 2 (.agg #[.slice none 0 0, .slice none 0 0, .slice none 0 0, .slice none 0 0, .slice none 0 0, vi 0, .slice none 0 0]) u u (lT u lN)) (fun _ k=>k none 0 none 0 none 0 none 0 none 0 none 0) [] ⟨gn,gn,gn,gn,gn,gn,⟨⟩⟩)<|jC<|
  zD<|xH (fun K=>K [2,3,4,6] [] [0,1,2,3] [(38, vb (if y1.1 != 1 then (y1.1 != 2) || ((y1.2 != 1) && (y1.2 != 2)) else (y1.2 != 1) && (y1.2 != 2)))] []) (qJ<|zS 0 u<|zT 1 u u u<|zA 2 u<|yC (b := y1.1 != 1) 24 u (fun hb1=>
  zS 0 u<|zT 1 u u u<|zA 1 u<|zI (vb (y1.1 != 2))<|zA 1 u<|yC (b := y1.1 != 2) 29 u (fun hb2=>zA 8 u<|zI (vb true)<|zU<|
  wS 38 (vb (if y1.1 != 1 then (y1.1 != 2) || ((y1.2 != 1) && (y1.2 != 2)) else (y1.2 != 1) && (y1.2 != 2))) u (by rw [hb1,hb2]; rfl)<|zK (gv (fun _ k=>k) [0,1,2] (gq [0,1,2,3])))<|fun hb2=>zS 1 u<|zT 1 u u u<|zA 2 u<|
  yC (b := y1.2 != 1) 33 u (fun hb3=>zS 1 u<|zT 1 u u u<|zA 1 u<|zI (vb (y1.2 != 2))<|zI (vb (y1.2 != 2))<|zU<|
  wS 38 (vb (if y1.1 != 1 then (y1.1 != 2) || ((y1.2 != 1) && (y1.2 != 2)) else (y1.2 != 1) && (y1.2 != 2))) u (by rw [hb1,hb2,hb3]; rfl)<|zK (gv (fun _ k=>k) [0,1,2] (gq [0,1,2,3])))<|fun hb3=>zA 3 u<|zI (vb false)<|zI (vb false)<|
  zU<|wS 38 (vb (if y1.1 != 1 then (y1.1 != 2) || ((y1.2 != 1) && (y1.2 != 2)) else (y1.2 != 1) && (y1.2 != 2))) u (by rw [hb1,hb2,hb3]; rfl)<|zK (gv (fun _ k=>k) [0,1,2] (gq [0,1,2,3])))<|fun hb1=>zA 3 u<|zI (vb false)<|zA 1 u<|
  zS 1 u<|zT 1 u u u<|zA 2 u<|yC (b := y1.2 != 1) 33 u (fun hb4=>zS 1 u<|zT 1 u u u<|zA 1 u<|zI (vb (y1.2 != 2))<|zI (vb (y1.2 != 2))<|zU<|
  wS 38 (vb (if y1.1 != 1 then (y1.1 != 2) || ((y1.2 != 1) && (y1.2 != 2)) else (y1.2 != 1) && (y1.2 != 2))) u (by rw [hb1,hb4]; rfl)<|zK (gv (fun _ k=>k) [0,1,2] (gq [0,1,2,3])))<|fun hb4=>zA 3 u<|zI (vb false)<|zI (vb false)<|zU<|
  wS 38 (vb (if y1.1 != 1 then (y1.1 != 2) || ((y1.2 != 1) && (y1.2 != 2)) else (y1.2 != 1) && (y1.2 != 2))) u (by rw [hb1,hb4]; rfl)<|zK (gv (fun _ k=>k) [0,1,2] (gq [0,1,2,3])))<|fun _ k=>k<|zH u (zB<|
  zI (.agg #[.slice none 0 0, .slice none 0 0, .slice none 0 0, .slice none 0 0, .slice none 0 0, vi 0, .slice none 0 0])<|qS .s 2 u u u<|zA 1 u<|zC<|zJ<|qA<|
  wZ u (lC 2 (.agg #[.slice none 0 0, .slice none 0 0, .slice none 0 0, .slice none 0 0, .slice none 0 0, vi 0, .slice none 0 0]) u u (lT u lN)) (fun _ k=>k none 0 none 0 none 0 none 0 none 0 none 0) [] ⟨gn,gn,gn,gn,gn,gn,⟨⟩⟩)<|jC<|
  zB<|zA 2 u<|qR 0 3 u u u<|zA 1 u<|qR 1 2 u u u<|qH zL1 u (cq [1,2,3,0])<|fun r2 _ k p5 c5=>k<|qH zNG u (cq [0])<|fun r3 _ k p6 c6=>k<|zA 3 u<|wM .s (.agg #[vi 0, .slice none 0 0])<|
  fun b4=>qS .s 3 u u u<|zA 1 u<|zC<|zB<|zA 1 u<|qR 3 2 u u u<|qH zRS u (cq [0])<|fun r4 _ k p7 c7=>k<|qH zR4 u (cq [0])<|fun r5 _ k p8 c8=>k<|qH zM6 u (cq [4,0])<|
  fun r6 _ k p9 c9=>k<|zA 1 u<|zC<|zB<|qR 0 3 u u u<|zA 1 u<|qH zPW u (cq [6,7,8,0])<|fun r7 _ k p10 c10 p11 c11 p12 c12=>k<|zA 1 u<|
  zI (.agg #[sv p10 r7.1 c10, sv p11 r7.2.1 c11, sv p12 r7.2.2 c12, sv p4 r1.1 c4, .slice none 0 0, vi 0, .slice none 0 0])<|
  wM .s (.agg #[.slice none 0 0, .slice none 0 0, .slice none 0 0, .slice none 0 0, .slice none 0 0, vi 0, .slice none 0 0])<|fun b5=>qS .s 4 u u u<|zC<|zB<|zS 0 u<|qR 4 3 u u u<|zA 1 u<|qR 1 2 u u u<|
  qH zL1 u (cq [0,1,2,8])<|fun r8 _ k p13 c13=>k<|zS 4 u<|qS .s 4 u u u<|zC<|zB<|zA 2 u<|zS 4 u<|zT 4 u u u<|qH zNG u (cq [0])<|fun r9 _ k p14 c14=>k<|zA 3 u<|zS 5 u<|
  qS .s 4 u u u<|zC<|zB<|qR 4 7 u u u<|qS .s 2 u u u<|zA 1 u<|zC<|zJ<|
  wZ u (lC 2 (.agg #[sv p10 r7.1 c10, sv p11 r7.2.1 c11, sv p12 r7.2.2 c12, sv p4 r1.1 c4, sv p13 r8 c13, vi r9.1.1, sv p14 r9.1.2 c14]) u u (lT u lN)) (fun _ k=>k p10 c10 p11 c11 p12 c12 p4 c4 p13 c13 p14 c14) [] (gq [2,3,4,10,1,0])
theorem zS9 {qd : Prop} {y0 : wT} {y1 : Int} {y2 : Int} : qG qd prog 85 [.agg #[vi y0.1, sv p1 y0.2 c1], vi y1, vi y2] [] [Rl vZ p1 c1 y0.2] (zLd y0 y1 y2) fun r K=>K (vb r) [] [] :=
 qB call85 func85 u fun X=>zB<|qU .s u<|fun b1=>zA 1 u<|zC<|zD<|jA 1 u<|zO<|qO (fun s1 K=>K [1,2,3] [] [0] [(7, vi s1)] []) (gv (fun _ k=>k) [0] (gq [0]))<|fun s1 _ k=>k<|zD<|zB<|zA 1 u<|zS 1 u<|zT 0 u u u<|zA 2 u<|zC<|zH u (jC<|
  zD<|zO<|wF (fun s2 K=>K [1,2,3,7] [] [0] [(32, vb s2)] []) (qJ<|zS 1 u<|zT 0 u u u<|zA 1 u<|qW 0 u u u<|fun x1 b2 o1=>zS 0 u<|qV false oI (gf (gk 0)) u<|zA 3 u<|wG 23 u (zS 1 u<|zT 0 u u u<|
  zA 1 u<|qW 1 u u u<|fun x2 b3 o2=>zS 1 u<|qV false oI (gs (gk 0)) u<|zA 2 u<|zI (vb (x2.2 == y2))<|zU<|zK (gv (fun _ k=>k) [0] (gq [2])))<|zA 8 u<|zI (vb false)<|zU<|zK (gv (fun _ k=>k) [0] (gq [1])))<|
  fun s2 _ k=>k<|zH u (jA 1 u<|zJ<|qT<|qA<|wY<|qT<|qA<|zP u u (fun _ k=>k) [] ⟨⟩)<|wC<|qC<|zN<|jB 3 u<|qD (gv (fun _ k=>k) [0] (gq [0])))<|qM<|qK<|qP<|qL<|zN<|jA 1 u<|zJ<|zP u u (fun _ k=>k) [] ⟨⟩
theorem zQA {qd : Prop} {y0 : wT} {y1 : List Int} {y2 : Int} : qG qd prog 86 [.agg #[vi y0.1, sv p1 y0.2 c1], sv p2 y1 c2, vi y2] [] [Rl vZ p1 c1 y0.2, Rl (zF .i64) p2 c2 y1] (zIF y0 y1 y2) fun r K=>K (vb r) [] [] :=
 qB call86 func86 u fun X=>zB<|qU .s u<|fun b1=>zA 1 u<|zC<|zD<|jA 1 u<|zO<|qO (fun s1 K=>K [1,2,3] [] [1,0] [(7, vi s1)] []) (gv (fun _ k=>k) [0] (gq [1,0]))<|fun s1 _ k=>k<|zD<|jA 4 u<|zH u (jC<|zD<|zO<|yM [] [0] 7<|
  vQ 0 0 2 u u u u<|zV 4 [1,2] u<|vO 3 0 u u u u<|fun x1 b2 o1=>vN 4 false oI u (gk 0) u<|zV 1 [5] u<|qE 6<|qF (.f u) [] [] zS9 u u u (cq [2])<|fun r1 _ k=>k<|zY<|qQ<|zN<|zH u (jA 1 u<|
  zJ<|qT<|qA<|wY<|qT<|qA<|zP u u (fun _ k=>k) [] ⟨⟩)<|wC<|qC<|zN<|jB 3 u<|qD (gv (fun _ k=>k) [0] (gq [1,2])))<|qM<|qK<|qP<|qL<|zN<|jA 1 u<|zJ<|zP u u (fun _ k=>k) [] ⟨⟩
theorem zQH {qd : Prop} {y0 : wT} : qG qd prog 39 [.agg #[vi y0.1, sv p1 y0.2 c1]] [] [Rl vZ p1 c1 y0.2] (zIE y0) fun r K=>∀ p2 c2 p3 c3,K (.tuple #[sv p2 r.1 c2, sv p3 r.2 c3]) [] [Rl (zF .i64) p2 c2 r.1, Rl (zF .i64) p3 c3 r.2] :=
 qB call39 func39 u fun X=>zB<|qU .s u<|fun b1=>zA 2 u<|zC<|wF (fun s1 K=>∀ p2 c2 r_1 p3 c3 r_2,K [1] [(1, r_1), (2, r_2)] [0] [(4, sv p2 s1.1 c2), (5, sv p3 s1.2 c3)] [Al (zF .i64) 3 r_1 p2 c2 s1.1, Al (zF .i64) 3 r_2 p3 c3 s1.2]) (yU [] [0] 8<|
  qN 0 0 u u<|qY 1 0 u u u u<|qN 3 0 u u<|qY 4 0 u u u u<|xU 2 5 (xG (.f u) (e := zF .i64) 3 (0 : Int) (vi 0) vI u u<|fun x1 r_3 p4 c4=>zY<|zV 2 [6] u<|qE 5<|
  xG (.f u) (e := zF .i64) 3 (0 : Int) (vi 0) vI u u<|fun x2 r_4 p5 c5=>zY<|zV 0 [7] u<|qQ<|zK (gv (fun _ k=>k p4 c4 r_3 p5 c5 r_4) [0,1,2] (gq [1,0,2]))) <|jcm<|xG (.f u) (e := zF .i64) 3 (0 : Int) (vi 0) vI u u<|
  fun x3 r_5 p6 c6=>zY<|qE 2<|xG (.f u) (e := zF .i64) 3 (0 : Int) (vi 0) vI u u<|fun x4 r_6 p7 c7=>zY<|zV 0 [6,7] u<|qQ<|zK (gv (fun _ k=>k p7 c7 r_6 p6 c6 r_5) [0,2,1] (gq [0,1,2])))<|fun s1 _ k p2 c2 r_1 p3 c3 r_2=>k<|
  wF (fun s2 K=>∀ r_7,K [1,5] [(1, r_7)] [1,2] [(4, .slice p2 (List.length s1.1) c2)] [Ar (zF .i64) 3 r_7 p2 c2 (List.length s1.1) s2]) (jA 1 u<|zO<|
  qO (fun s3 K=>∀ r_8,K [1,5] [(1, r_8)] [1,2] [(4, .slice p2 (List.length s1.1) c2), (6, vi s3.2)] [Ar (zF .i64) 3 r_8 p2 c2 (List.length s1.1) s3.1]) (gv (fun _ k=>k r_1) [0,1,2] (gq [0,1,2]))<|fun s3 _ k r_8=>k<|zD<|zB<|zA 1 u<|
  zS 0 u<|zT 0 u u u<|zA 1 u<|zC<|zH u (jC<|zD<|zO<|qJ<|zA 2 u<|yL 0 u u u<|fun x5 h1 b2 hp1=>xJ .s 1 0 sI 3 false u hp1 h1 u u vI<|fun r_9=>zU<|qC<|zN<|jB 3 u<|
  qD (gv (fun _ k=>k r_9) [0,1,2] (gq [0,2,3])))<|qM<|qK<|qP<|qL<|zK (gv (fun _ k=>k r_8) [0,1,2] (gq [0,1,2])))<|fun s2 _ k r_7=>k<|zD<|jA 1 u<|zO<|
  qO (fun s4 K=>∀ r_10 r_11,K [1,4] [(1, r_10), (2, r_11)] [2] [(5, .slice p3 (List.length s1.2) c3), (7, vi s4.2.2)] [Ar (zF .i64) 3 r_10 p2 c2 (List.length s1.1) s4.1, Ar (zF .i64) 3 r_11 p3 c3 (List.length s1.2) s4.2.1]) (gv (fun _ k=>k r_7 r_2) [0,1,2] (gq [0,1,2]))<|
  fun s4 _ k r_10 r_11=>k<|zD<|zB<|zA 1 u<|zS 0 u<|zT 0 u u u<|zA 2 u<|zC<|zH u (jC<|zD<|zO<|zB<|zA 1 u<|vK (zF .i64) 3<|zC<|
  wF (fun s5 K=>∀ p8 c8 r_12,K [1,4,5,7] [(3, r_12)] [1,2,3] [(8, sv p8 s5 c8)] [Al (zF .i64) 3 r_12 p8 c8 s5]) (jA 1 u<|zO<|
  qO (fun s6 K=>∀ p9 c9 r_13,K [1,4,5,7] [(3, r_13)] [1,2,3] [(8, sv p9 s6.1 c9), (9, vi s6.2)] [Al (zF .i64) 3 r_13 p9 c9 s6.1]) (gv (fun _ k=>k none 0 []) [0,1,2,3] (gq [0,1,2,3]))<|fun s6 _ k p9 c9 r_13=>k<|zD<|zB<|zA 1 u<|
  zS 0 u<|zT 0 u u u<|zA 1 u<|zC<|zH u (jC<|zD<|zO<|zB<|zA 2 u<|yL 1 u u u<|fun x6 h2 b3 hp2=>xD 1 1 sI false oI u hp2 h2 u<|zA 2 u<|zC<|wF (fun s7 K=>K [1,4,5,7,8,9] [] [1,2,0,3] [(10, vb s7)] []) (
  jA 1 u<|zO<|qO (fun s8 K=>K [1,4,5,7,8,9] [] [1,2,0,3] [(10, vb s8.1), (11, vi s8.2)] []) (gv (fun _ k=>k) [0,1,2,3] (gq [1,2,0,3]))<|fun s8 _ k=>k<|zD<|zB<|zA 1 u<|zS 0 u<|zT 0 u u u<|zA 1 u<|zC<|zH u (jC<|zD<|
  zO<|jjcK (fun s9 K=>K [1,4,5,7,8,9,11] [] [0,1,2,3] [(10, vb s9)] []) (qJ<|zA 2 u<|wG 55 u (qR 0 2 u u u<|zA 2 u<|qH zS9 u (cq [3])<|fun r1 _ k=>k<|zA 2 u<|wG 61 u (zA 5 u<|zI (vb true)<|zI (vb true)<|
  zA 1 u<|zU<|zK (gv (fun _ k=>k) [0,1,2,3] (gq [0,1,2,3])))<|zA 2 u<|yL 0 u u u<|fun x7 h3 b4 hp3=>xD 1 0 sI false oI u hp3 h3 u<|zA 1 u<|zI (vb (x7 == 2))<|zI (vb (x7 == 2))<|zA 1 u<|zU<|
  zK (gv (fun _ k=>k) [0,1,2,3] (gq [0,1,2,3])))<|zA 12 u<|zI (vb false)<|zA 1 u<|zU<|zK (gv (fun _ k=>k) [0,1,2,3] (gq [0,1,2,3])))<|fun s9 _ k=>k<|qC<|zN<|jB 3 u<|qD (gv (fun _ k=>k) [0,1,2,3] (gq [0,1,2,3])))<|qM<|qK<|
  qP<|qL<|zK (gv (fun _ k=>k) [0,1,2,3] (gq [0,1,2,3])))<|fun s7 _ k=>k<|jA 1 u<|zH u (qJ<|zA 2 u<|vC .s (e := zF .i64) 3 [vi s6.2] ([s6.2] : List Int) (rC vI rN)<|fun p10 c10=>wP .s 3 3 u (gk 0) u u<|
  fun x8 r_14 p11 c11=>zA 1 u<|zU<|qC<|zN<|jB 3 u<|qD (gv (fun _ k=>k p11 c11 r_14) [0,1,2,3] (gq [0,2,3,5])))<|wC<|qC<|zN<|jB 3 u<|qD (gv (fun _ k=>k p9 c9 r_13) [0,1,2,3] (gq [2,0,1,3])))<|qM<|qK<|qP<|qL<|
  zK (gv (fun _ k=>k p9 c9 r_13) [0,1,2,3] (gq [0,1,2,3])))<|fun s5 _ k p8 c8 r_12=>k<|
  wF (fun s10 K=>∀ r_15 r_16,K [1,4,5,7,8] [(1, r_15), (2, r_16)] [0,3] [] [Ar (zF .i64) 3 r_15 p2 c2 (List.length s1.1) s10.1, Ar (zF .i64) 3 r_16 p3 c3 (List.length s1.2) s10.2]) (jA 3 u<|zO<|
  qO (fun s11 K=>∀ r_17 r_18,K [1,4,5,7,8,74,75] [(1, r_17), (2, r_18)] [0,3] [(76, vi s11.2.2)] [Ar (zF .i64) 3 r_17 p2 c2 (List.length s1.1) s11.1, Ar (zF .i64) 3 r_18 p3 c3 (List.length s1.2) s11.2.1]) (gv (fun _ k=>k r_10 r_11) [0,1,2,3] (gq [1,2,0,3]))<|
  fun s11 _ k r_17 r_18=>k<|jA 1 u<|zD<|zH u (jC<|zD<|zO<|zB<|yL 2 u u u<|fun x9 h5 b5 hp4=>xD 3 2 sI false oI u hp4 h5 u<|zA 1 u<|zC<|qJ<|zA 5 u<|yL 0 u u u<|fun x10 h6 b6 hp5=>
  xJ .s 1 0 sI 1 false u hp5 h6 u u vI<|fun r_19=>yL 2 u u u<|fun x11 h7 b7 hp6=>xJ .s 2 2 sI s4.2.2 false u hp6 h7 u u vI<|fun r_20=>zU<|qC<|zN<|jB 2 u<|qD (gv (fun _ k=>k r_19 r_20) [0,1,2,3] (gq [1,0,4,5])))<|
  qM<|qK<|qP<|qL<|zK (gv (fun _ k=>k r_17 r_18) [0,1,2,3] (gq [0,1,2,3])))<|fun s10 _ k r_15 r_16=>k<|jA 1 u<|zO<|
  qO (fun s12 K=>∀ r_21 r_22,K [1,4,5,7,8] [(1, r_21), (2, r_22)] [2,3] [(14, vi s12.2.2)] [Ar (zF .i64) 3 r_21 p2 c2 (List.length s1.1) s12.1, Ar (zF .i64) 3 r_22 p3 c3 (List.length s1.2) s12.2.1]) (gv (fun _ k=>k r_15 r_16) [0,1,2,3] (gq [0,1,2,3]))<|
  fun s12 _ k r_21 r_22=>k<|zD<|zB<|zA 1 u<|zS 0 u<|zT 0 u u u<|zA 1 u<|zC<|zH u (jC<|zD<|zO<|wF (fun s13 K=>K [1,4,5,7,8,14] [] [0,1,2,3] [(104, vb s13)] []) (qJ<|zA 2 u<|yL 0 u u u<|fun x12 h8 b8 hp7=>
  xD 1 0 sI false oI u hp7 h8 u<|zA 2 u<|wG 99 u (qR 0 2 u u u<|zA 2 u<|qF .s [] [3] zQA u u u ⟨ck 3,cl 3 2,⟨⟩⟩<|fun r2 _ k=>k<|zI (vb r2)<|zU<|zK (gv (fun _ k=>k) [0,1,2,3] (gq [0,1,2,3])))<|
  zA 4 u<|zI (vb false)<|zU<|zK (gv (fun _ k=>k) [0,1,2,3] (gq [0,1,2,3])))<|fun s13 _ k=>k<|zH u (qJ<|zA 5 u<|yL 0 u u u<|fun x13 h9 b9 hp8=>xJ .s 1 0 sI 2 false u hp8 h9 u u vI<|fun r_23=>yL 2 u u u<|
  fun x14 h10 b10 hp9=>xJ .s 2 2 sI s4.2.2 false u hp9 h10 u u vI<|fun r_24=>zU<|qC<|zN<|jB 3 u<|qD (gv (fun _ k=>k r_23 r_24) [0,1,2,3] (gq [1,0,4,5])))<|wC<|qC<|zN<|jB 3 u<|
  qD (gv (fun _ k=>k r_21 r_22) [0,1,2,3] (gq [0,1,2,3])))<|qM<|qK<|qP<|qL<|qC<|zN<|jB 3 u<|qD (gv (fun _ k=>k r_21 r_22) [0,1,2] (gq [0,1,3])))<|qM<|qK<|qP<|qL<|zN<|jA 4 u<|zJ<|wX 1 0 u u<|wX 2 2 u u<|
  jre 1 2 u u<|jre 1 3 u u<|wZ u (lT u (lT u lN)) (fun _ k=>k p2 c2 p3 c3) [] (gq [1,0])
theorem zXk {qd : Prop} {y0 : List Int} {y1 : Int} : qG qd prog 38 [sv p1 y0 c1, vi y1] [] [Rl (zF .i64) p1 c1 y0] (zNP y0 y1) fun r K=>K (vb r) [] [] :=
 qB call38 func38 u fun X=>jA 1 u<|zD<|jA 1 u<|zO<|qO (fun s1 K=>K [0,1] [] [0] [(5, vi s1)] []) (gv (fun _ k=>k) [] (gq [0]))<|fun s1 _ k=>k<|zD<|jA 4 u<|zH u (jC<|zD<|zO<|zB<|zA 2 u<|qW 0 u u u<|fun x1 b1 o1=>qV false oI (gk 0) u<|
  zA 2 u<|zC<|zH u (jA 1 u<|zJ<|qT<|qA<|wY<|qT<|qA<|zP u u (fun _ k=>k) [] ⟨⟩)<|wC<|qC<|zN<|jB 3 u<|qD (gv (fun _ k=>k) [] (gq [1])))<|qM<|qK<|qP<|qL<|zN<|jA 1 u<|zJ<|zP u u (fun _ k=>k) [] ⟨⟩
theorem zHl {qd : Prop} {y0 : zR} {y1 : vF} {y2 : zM} {y3 : List Int} : qG qd prog 14 [.agg #[sv p1 y0.1 c1, sv p2 y0.2.1 c2, sv p3 y0.2.2 c3], .agg #[vi y1.1, vi y1.2], .agg #[vb y2.1, vs y2.2], sv p4 y3 c4] [] [Rl wN p1 c1 y0.1, Rl wJ p2 c2 y0.2.1, Rl wQ p3 c3 y0.2.2, Rl (zF .i64) p4 c4 y3] (zBF y0 y1 y2 y3) fun r K=>K (vb r) [] [] :=
 qB call14 func14 u fun X=>zB<|qU .s u<|fun b1=>qU .s u<|fun b2=>qU .s u<|fun b3=>zA 1 u<|zC<|zB<|zS 1 u<|zT 0 u u u<|zS 2 u<|zT 0 u u u<|zI (.agg #[.slice none 0 0, sv p2 y0.2.1 c2, sv p3 y0.2.2 c3])<|vK wN 67<|
  wM .s (.agg #[.slice none 0 0, .slice none 0 0, .slice none 0 0])<|fun b4=>qS .s 4 u u u<|zC<|
  wF (fun s1 K=>∀ p5 c5 r_1,K [5,6,9] [(0, []), (3, r_1), (4, bx b4 26 [sv p5 s1 c5, sv p2 y0.2.1 c2, sv p3 y0.2.2 c3])] [2,3] [] [Al wN 67 r_1 p5 c5 s1]) (jA 1 u<|zO<|
  qO (fun s2 K=>∀ p6 c6 r_2,K [3,4,5,6,9] [(3, r_2), (4, bx b4 26 [sv p6 s2.2 c6, sv p2 y0.2.1 c2, sv p3 y0.2.2 c3])] [4,1,2,3] [(10, vi s2.1)] [Al wN 67 r_2 p6 c6 s2.2]) (gv (fun _ k=>k none 0 []) [0,1,2,3,4] (gq [0,4,1,2,3]))<|
  fun s2 _ k p6 c6 r_2=>k<|zD<|zB<|zA 1 u<|zS 0 u<|zT 0 u u u<|zA 2 u<|zC<|zH u (jC<|zD<|zO<|zB<|zA 2 u<|qH zXk u (cq [1])<|fun r1 _ k=>k<|zA 1 u<|zC<|zH u (yU [10] [0, 4] 11<|qN 0 0 u u<|
  qY 1 4 u u u u<|qN 2 0 u u<|qY 3 0 u u u u<|zV 6 [4] u<|vO 5 2 u u u u<|fun x1 b5 o1=>vN 6 true zIL u (gk 0) u<|qE 7<|
  vC (.f u) (e := wN) 67 [vb x1.1.1, vs x1.1.2, vi x1.2.1, vi x1.2.2.1, vs x1.2.2.2] ([x1] : List vM) (rC (vP (vP vB vS) (vP vI (vP vI vS))) rN)<|fun p7 c7=>zY<|qE 8<|wP (.f u) 3 2 u (gk 0) u u<|fun x2 r_3 p8 c8=>
  zY<|qN 9 0 u u<|qE 10<|qS (o := 0) (.f u) 4 u u u<|jdb [] [0, 4]<|qQ<|qC<|zN<|jB 3 u<|qD (gv (fun _ k=>k p8 c8 r_3) [0,1,2,3,4] (gq [0,4,5,6,7])))<|wC<|qC<|zN<|jB 3 u<|
  qD (gv (fun _ k=>k p6 c6 r_2) [0,1,2,3,4] (gq [0,1,2,3,4])))<|qM<|qK<|qP<|qL<|zK (gv (fun _ k=>k p6 c6 r_2) [900,1,2,3,4] (gq [0,3,4])))<|fun s1 _ k p5 c5 r_1=>k<|zB<|qR 4 3 u u u<|qR 1 2 u u u<|wX 3 0 u u<|
  qH zLa u (cq [0,2,3])<|fun r2 _ k p9 c9 p10 c10 p11 c11 p12 c12 p13 c13 p14 c14=>k<|zA 3 u<|wM .s (.agg #[.slice none 0 0, .slice none 0 0, .slice none 0 0, .slice none 0 0, .slice none 0 0, vi 0, .slice none 0 0])<|
  fun b6=>qS .s 5 u u u<|zA 1 u<|zC<|zD<|jA 2 u<|zH u (jA 1 u<|zJ<|qA<|zP u u (fun _ k=>k) [] ⟨⟩)<|jC<|zB<|zS 5 u<|qR 5 2 u u u<|qH zQH u (cq [5])<|fun r3 _ k p15 c15 p16 c16=>k<|zA 5 u<|
  zC<|zD<|jA 1 u<|zO<|qO (fun s3 K=>K [6,11,13] [(1, []), (4, [])] [0,2,3,4,5,6,7] [(15, vi s3)] []) (gv (fun _ k=>k) [900,901,2,903,904,5] (gq [0,2,3,4,5,6,7]))<|fun s3 _ k=>k<|zD<|zB<|zA 1 u<|zS 3 u<|zT 5 u u u<|
  zA 2 u<|zC<|zH u (jC<|zD<|zO<|wF (fun s4 K=>K [6,11,13,15] [] [0,1,2,3,4,5,6] [(77, vb s4)] []) (yU [] [2, 5] 15<|zV 13 [0,1] u<|vO 2 0 u u u u<|fun x3 b7 o2=>vN 3 false oI u (gk 0) u<|zV 9 [4,5] u<|
  wG 68 u (qN 6 3 u u<|qY 7 5 u u u u<|zV 6 [8] u<|vO 9 5 u u u u<|fun x4 b8 o3=>qN 10 3 u u<|vN 11 true yW u (gs (gs (gs (gk 0)))) u<|vQ 12 2 2 u u u u<|
  wB 13 (vb (x4.2.2.2 == y2)) u<|wB 14 (vb (x4.2.2.2 == y2)) u<|qQ<|zK (gv (fun _ k=>k) [900,901,2,903,904,5] (gq [2,3,4,5,6,7,8])))<|zV 1 [6,7,8,9,10,11,12,13] u<|wB 14 (vb false) u<|qQ<|
  zK (gv (fun _ k=>k) [900,901,2,903,904,5] (gq [1,2,3,4,5,6,7])))<|fun s4 _ k=>k<|zH u (jA 1 u<|zJ<|qT<|qA<|wY<|qT<|qA<|zP u u (fun _ k=>k) [] ⟨⟩)<|wC<|qC<|zN<|jB 3 u<|
  qD (gv (fun _ k=>k) [900,901,2,903,904,5] (gq [0,1,2,3,4,5,6])))<|qM<|qK<|qP<|qL<|zN<|jA 1 u<|zJ<|zP u u (fun _ k=>k) [] ⟨⟩
theorem zKk {qd : Prop} {y0 : List Int} : qG qd prog 4 [sv p1 y0 c1] [] [Rl (zF .i64) p1 c1 y0, Pt (yS 64 (zF .u8)) 0 0 yQ] (zCH y0) fun r K=>K (vb r) [] [] :=
 qB call4 func4 u fun X=>jA 1 u<|zB<|zA 1 u<|qH zVN u (cq [0])<|fun r1 _ k b1 p2 c2=>k<|zA 1 u<|zC<|zB<|zA 1 u<|qF .s [0] [] zPB u u u (cq [0])<|fun r2 _ k p3 c3 p4 c4 p5 c5=>k<|
  wM .s (.agg #[.slice none 0 0, .slice none 0 0, .slice none 0 0])<|fun b2=>qS .s 1 u u u<|zC<|zB<|zA 1 u<|qF .s [0] [] zKx u u u (cq [3])<|fun r3 _ k=>k<|zA 1 u<|
  qF .s [0] [] zKx u u u (cq [3])<|fun r4 _ k=>k<|zI (.agg #[vi r3.1, vi r4.1])<|wM .s (.agg #[vi 0, vi 0])<|fun b3=>qS .s 2 u u u<|zC<|zD<|zB<|qR 1 3 u u u<|qR 2 2 u u u<|
  qH zLa u (cq [0,1,2])<|fun r5 _ k p6 c6 p7 c7 p8 c8 p9 c9 p10 c10 p11 c11=>k<|zA 3 u<|wM .s (.agg #[.slice none 0 0, .slice none 0 0, .slice none 0 0, .slice none 0 0, .slice none 0 0, vi 0, .slice none 0 0])<|fun b4=>
  qS .s 3 u u u<|zA 1 u<|zC<|jA 2 u<|zH u (zB<|qH zK1 u (cq [11])<|fun r6 _ k=>k<|zA 1 u<|zC<|zJ<|qA<|zP u u (fun _ k=>k) [] ⟨⟩)<|jC<|zB<|zA 1 u<|
  qF .s [0] [] zDH u u u (cq [9])<|fun r7 _ k=>k<|wM .s (.agg #[vb false, vs []])<|fun b5=>qS .s 4 u u u<|zC<|zB<|qR 1 3 u u u<|qR 2 2 u u u<|qR 4 2 u u u<|
  qH zHl u ⟨ck 6,ck 7,ck 8,cn,⟨⟩⟩<|fun r8 _ k=>k<|zA 1 u<|zC<|zB<|qR 1 3 u u u<|qR 2 2 u u u<|qR 4 2 u u u<|qH zO2 u (cq [6,7,8,11])<|fun r9 _ k p12 c12=>k<|zA 5 u<|zC<|
  zUE (fun s1 K=>K [4,5,8,9,10,11] [(0, []), (3, [])] [0,7,8,9,12] [] []) (jA 2 u<|zH u (zUE (fun s2 K=>K [] [(0, []), (1, []), (2, []), (3, []), (4, [])] [12] [] []) (jA 1 u<|zO<|
  qO (fun s3 K=>K [4,5,8,9] [(0, []), (3, [])] [7,8,9,12] [(12, vi s3)] []) (gv (fun _ k=>k) [900,1,2,903,4] (gq [7,8,9,12]))<|fun s3 _ k=>k<|zD<|zB<|zA 1 u<|zS 0 u<|zT 1 u u u<|zA 2 u<|zC<|zH u (jC<|zD<|zO<|zB<|
  qR 1 3 u u u<|qR 2 2 u u u<|qR 4 2 u u u<|zA 1 u<|vC .s (e := zF .i64) 3 [vi s3] ([s3] : List Int) (rC vI rN)<|fun p13 c13=>qH zHl u (cq [1,2,3,0])<|fun r10 _ k=>k<|zA 1 u<|
  zI (vb (!(r10 == r8)))<|zC<|zH u (jA 1 u<|zJ<|qT<|qA<|wY<|qT<|wY<|wY<|zP u u (fun _ k=>k) [] ⟨⟩)<|wC<|qC<|zN<|jB 3 u<|qD (gv (fun _ k=>k) [900,1,2,903,4] (gq [1,2,3,4])))<|qM<|qK<|qP<|qL<|
  qD (gv (fun _ k=>k) [900,901,902,903,904] (gq [3])))<|fun s2 _ k=>k<|zB<|qH zK1 u (cq [0])<|fun r11 _ k=>k<|zA 1 u<|zC<|zJ<|wY<|zP u u (fun _ k=>k) [] ⟨⟩)<|wC<|
  qD (gv (fun _ k=>k) [900,1,2,903,4] (gq [0,7,8,9,12])))<|fun s1 _ k=>k<|zD<|xH (fun K=>K [4,5,8,9,10] [] [0,1,2,3,4] [(69, vb ((r9.2 != 0) || ((len r9.1) == 0)))] []) (qJ<|zA 3 u<|yC (b := r9.2 != 0) 65 u (fun hb1=>zA 3 u<|
  zI (vb true)<|zU<|wS 69 (vb ((r9.2 != 0) || ((len r9.1) == 0))) u (by rw [hb1]; rfl)<|zK (gv (fun _ k=>k) [900,1,2,903,4] (gq [0,1,2,3,4])))<|fun hb1=>zA 3 u<|zI (vb ((len r9.1) == 0))<|zU<|
  wS 69 (vb ((r9.2 != 0) || ((len r9.1) == 0))) u (by rw [hb1]; rfl)<|zK (gv (fun _ k=>k) [900,1,2,903,4] (gq [0,1,2,3,4])))<|fun _ k=>k<|zH u (jA 1 u<|zJ<|qA<|zP u u (fun _ k=>k) [] ⟨⟩)<|jC<|
  zUE (fun s4 K=>K [] [(1, []), (2, []), (4, [])] [4] [] []) (jA 1 u<|zO<|qO (fun s5 K=>K [4,5,8,9,10] [] [0,1,2,3,4] [(13, vi s5)] []) (gv (fun _ k=>k) [900,1,2,903,4] (gq [0,1,2,3,4]))<|fun s5 _ k=>k<|zD<|jA 4 u<|zH u (jC<|zD<|
  zO<|wF (fun s6 K=>K [4,5,8,9,10,13] [] [0,1,2,3,4] [(105, vb s6)] []) (yU [] [1, 2, 4] 30<|zV 28 [0,1] u<|vO 2 0 u u u u<|fun x1 b6 o1=>vN 3 false oL u (gk 0) u<|fun p14 c14=>zV 23 [4,5,6] u<|wG 82 u (
  zV 13 [7,8,9,10,11,12,13,14,15,16] u<|wB 17 (vb true) u<|zV 1 [18,19,20,21,22,23,24,25,26,27,28] u<|wB 29 (vb true) u<|qQ<|zK (gv (fun _ k=>k) [900,1,2,903,4] (gq [2,3,4,5,6])))<|zV 21 [7,8] u<|vO 9 2 u u u u<|
  fun x2 b7 o2=>vN 10 false oL u (gk 0) u<|fun p15 c15=>zV 17 [11,12] u<|vO 13 4 u u u u<|fun x3 b8 o3=>vN 14 false oL u (gk 0) u<|fun p16 c16=>zV 13 [15,16] u<|wB 17 (vb ((len x2) != (len x3))) u<|
  zV 11 [18] u<|wG 94 u (zV 1 [19,20,21,22,23,24,25,26,27,28] u<|wB 29 (vb true) u<|qQ<|zK (gv (fun _ k=>k) [900,1,2,903,4] (gq [6,7,8,9,10])))<|vQ 19 1 3 u u u u<|vQ 20 2 2 u u u u<|
  vQ 21 4 2 u u u u<|zV 6 [22,23] u<|vO 24 6 u u u u<|fun x4 b9 o4=>vN 25 false oL u (gk 0) u<|fun p17 c17=>zV 3 [27] u<|qE 26<|qF (.f u) [] [] zHl u u u (cq [9,10,11,0])<|fun r12 _ k=>k<|
  zY<|wB 28 (vb (r12 == r8)) u<|wB 29 (vb (r12 == r8)) u<|qQ<|zK (gv (fun _ k=>k) [900,1,2,903,4] (gq [8,9,10,11,12])))<|fun s6 _ k=>k<|zH u (jA 1 u<|zJ<|qT<|qA<|wY<|qT<|wY<|zP u u (fun _ k=>k) [] ⟨⟩)<|wC<|qC<|zN<|
  jB 3 u<|qD (gv (fun _ k=>k) [900,1,2,903,4] (gq [0,1,2,3,4])))<|qM<|qK<|qP<|qL<|qD (gv (fun _ k=>k) [900,901,902,903,904] (gq [4])))<|fun s4 _ k=>k<|zB<|qH zK1 u (cq [0])<|fun r13 _ k=>k<|zA 1 u<|zC<|zJ<|
  zP u u (fun _ k=>k) [] ⟨⟩
end Go.Proofs.YtkjadnjfmdgngaaGreatDoor
