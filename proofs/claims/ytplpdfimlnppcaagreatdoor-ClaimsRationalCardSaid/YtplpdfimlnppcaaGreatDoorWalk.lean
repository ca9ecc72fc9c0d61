/- A part. Conditions: none. -/
import Derived.Test.YtplpdfimlnppcaaGreatDoorWalk1
namespace Go.Proofs.YtplpdfimlnppcaaGreatDoor
open Go Go.GD Tryz
set_option autoImplicit false
set_option linter.unusedVariables false
set_option maxRecDepth 100000
variable {yl1 : Nat} {p1 p2 p3 p4 p5 p6 p7 p8 p9 p10 p11 p12 p13 p14 : Option Addr} {c1 c2 c3 c4 c5 c6 c7 c8 c9 c10 c11 c12 c13 c14 : Nat} {b1 b2 b3 b4 b5 b6 b7 b8 b9 b10 b11 : Nat} {r_1 r_2 r_3 r_4 r_5 r_6 : zW}
theorem zIb {qd : Prop} {y0 : wJ} : qC qd prog 150 [.agg (yY y0 p1 c1).toArray, .func (.func 154) #[] #[]] [] [Rl vO p1 c1 y0.2, Pt (yH 64 (zK .u8)) 4 0 yW] (zAh y0) fun r K=>∀ p2 c2,K (.tuple #[sv p2 r.1 c2, vi r.2]) [] [Rl (qZ (zK .i64)) p2 c2 r.1] :=
 zY call150 func150 u fun X=>zC<|qV .s u<|fun b1=>qV .s u<|fun b2=>zA 2 u<|zB<|zC<|qS 0 2 u u u<|qI zII u (cq [0,1])<|fun r1 _ k p2 c2=>k<|zA 5 u<|zB<|zD<|jA 2 u<|zJ u (jA 3 u<|zH<|zZ<|
  wG u (lT u (lT u lN)) (fun _ k=>k none 0) [] ⟨gn,d⟩)<|jC<|zC<|zA 1 u<|vJ (qZ (zK .i64)) 22<|zB<|zD<|jA 3 u<|zR<|
  qR (fun s1 K=>∀ p3 c3 r_1,K [3,6,19,20] [(0, []), (2, r_1)] [1,3] [(8, sv p3 s1.1 c3), (21, vi s1.2)] [Al (qZ (zK .i64)) 22 r_1 p3 c3 s1.1]) (gv (fun _ k=>k none 0 []) [900,1,2] (gq [0,1,3]))<|fun s1 _ k p3 c3 r_1=>k<|jA 1 u<|
  zD<|zJ u (jC<|zD<|zR<|zC<|qX 1 u u u<|fun x1 b3 o1=>qW false oL (gk 0) u<|fun p4 c4=>wN .s (.slice none 0 0)<|fun b4=>qJ .s 3 u u u<|zB<|zC<|zA 2 u<|
  zX .s [1, 3] [] zFl u u u (cq [3,0])<|fun r2 _ k=>k<|zA 1 u<|zB<|zJ u (qM<|zA 1 u<|zT 3 u u u<|
  wT .s (e := qZ (zK .i64)) 22 [sv p4 x1 c4] ([x1] : List (List Int)) (rC (vL (gk 0)) rN)<|fun p5 c5=>wM .s 2 3 u (gk 0) u u<|fun x2 r_2 p6 c6=>zA 1 u<|zV<|qF<|zP<|jB 2 u<|
  qG (gv (fun _ k=>k p6 c6 r_2) [900,1,2] (gq [0,5,6])))<|wF<|qF<|zP<|jB 2 u<|qG (gv (fun _ k=>k p3 c3 r_1) [900,1,2] (gq [2,3,4])))<|qO<|qN<|qQ<|qP<|zP<|jA 3 u<|zH<|wY 2 0 u u<|
  wG u (lT u (lT u lN)) (fun _ k=>k p3 c3) [] (gq [0])
theorem zR3 {qd : Prop} {y0 : wJ} : qC qd prog 74 [.agg (yY y0 p1 c1).toArray] [] [Rl vO p1 c1 y0.2, Pt (yH 64 (zK .u8)) 4 0 yW] (zCW y0) fun r K=>∀ p2 c2,K (.tuple #[sv p2 r.1 c2, vi r.2]) [] [Rl (qZ (zK .i64)) p2 c2 r.1] :=
 zY call74 func74 u fun X=>zC<|qV .s u<|fun b1=>zA 2 u<|zB<|zC<|qS 0 2 u u u<|qI zIb u (cq [0,1])<|fun r1 _ k p2 c2=>k<|zA 4 u<|zB<|zH<|wG u (lT u (lT u lN)) (fun _ k=>k p2 c2) [] (gq [0])
theorem zJa {qd : Prop} {y0 : wJ} : vU qd prog 147 [.agg (yY y0 p1 c1).toArray, pt b1 0] [bx b1 78 [.func (.func 74) #[] #[]]] [Rl vO p1 c1 y0.2, Pt (yH 64 (zK .u8)) 4 0 yW] (zAS y0) fun L r K=>∀ p2 c2,K (.tuple #[sv p2 r.1 c2, vi r.2]) L [Rl (qZ (zK .i64)) p2 c2 r.1] :=
 zY call147 func147 u fun X=>zC<|qV .s u<|fun b2=>zA 2 u<|zB<|zC<|zT 0 u u u<|qS 1 2 u u u<|zX .s [] [] zR3 u u u (cq [0,1])<|fun r1 _ k p2 c2=>k<|zA 5 u<|zB<|zD<|jA 2 u<|zJ u (jA 3 u<|zH<|zZ<|
  wG u (lT u (lT u lN)) (fun _ k=>k none 0) [0] ⟨gn,d⟩)<|jC<|zC<|zA 1 u<|vJ (qZ (zK .i64)) 22<|zB<|zD<|jA 3 u<|zR<|
  qR (fun s1 K=>∀ p3 c3 r_1,K [19,20] [(1, []), (2, r_1)] [1,3] [(7, sv p3 s1.1 c3), (21, vi s1.2)] [Al (qZ (zK .i64)) 22 r_1 p3 c3 s1.1]) (gv (fun _ k=>k none 0 []) [0,901,2] (gq [0,1,3]))<|fun s1 _ k p3 c3 r_1=>k<|jA 1 u<|zD<|
  zJ u (jC<|zD<|zR<|zC<|qX 1 u u u<|fun x1 b3 o1=>qW false oL (gk 0) u<|fun p4 c4=>zA 1 u<|zB<|qM<|zA 2 u<|qI zC9 u (cq [0])<|fun r2 _ k p5 c5=>k<|
  wT .s (e := qZ (zK .i64)) 22 [sv p5 r2 c5] ([r2] : List (List Int)) (rC (vL (gk 0)) rN)<|fun p6 c6=>wM .s 2 4 u (gk 0) u u<|fun x2 r_2 p7 c7=>zA 1 u<|zV<|qF<|zP<|jB 2 u<|
  qG (gv (fun _ k=>k p7 c7 r_2) [0,901,2] (gq [0,6,7])))<|qO<|qN<|qQ<|qP<|zP<|jA 3 u<|zH<|wY 2 0 u u<|wG u (lT u (lT u lN)) (fun _ k=>k p3 c3) [0] (gq [0])
theorem zKC {qd : Prop} {y0 : wJ} : vU qd prog 147 [.agg (yY y0 p1 c1).toArray, pt b1 0] [bx b1 78 [.func (.func 72) #[] #[]]] [Rl vO p1 c1 y0.2, Pt (yH 64 (zK .u8)) 4 0 yW] (zAW y0) fun L r K=>∀ p2 c2,K (.tuple #[sv p2 r.1 c2, vi r.2]) L [Rl (qZ (zK .i64)) p2 c2 r.1] :=
 zY call147 func147 u fun X=>zC<|qV .s u<|fun b2=>zA 2 u<|zB<|zC<|zT 0 u u u<|qS 1 2 u u u<|zX .s [] [] zII u u u (cq [0,1])<|fun r1 _ k p2 c2=>k<|zA 5 u<|zB<|zD<|jA 2 u<|zJ u (jA 3 u<|zH<|zZ<|
  wG u (lT u (lT u lN)) (fun _ k=>k none 0) [0] ⟨gn,d⟩)<|jC<|zC<|zA 1 u<|vJ (qZ (zK .i64)) 22<|zB<|zD<|jA 3 u<|zR<|
  qR (fun s1 K=>∀ p3 c3 r_1,K [19,20] [(1, []), (2, r_1)] [1,3] [(7, sv p3 s1.1 c3), (21, vi s1.2)] [Al (qZ (zK .i64)) 22 r_1 p3 c3 s1.1]) (gv (fun _ k=>k none 0 []) [0,901,2] (gq [0,1,3]))<|fun s1 _ k p3 c3 r_1=>k<|jA 1 u<|zD<|
  zJ u (jC<|zD<|zR<|zC<|qX 1 u u u<|fun x1 b3 o1=>qW false oL (gk 0) u<|fun p4 c4=>zA 1 u<|zB<|qM<|zA 2 u<|qI zC9 u (cq [0])<|fun r2 _ k p5 c5=>k<|
  wT .s (e := qZ (zK .i64)) 22 [sv p5 r2 c5] ([r2] : List (List Int)) (rC (vL (gk 0)) rN)<|fun p6 c6=>wM .s 2 4 u (gk 0) u u<|fun x2 r_2 p7 c7=>zA 1 u<|zV<|qF<|zP<|jB 2 u<|
  qG (gv (fun _ k=>k p7 c7 r_2) [0,901,2] (gq [0,6,7])))<|qO<|qN<|qQ<|qP<|zP<|jA 3 u<|zH<|wY 2 0 u u<|wG u (lT u (lT u lN)) (fun _ k=>k p3 c3) [0] (gq [0])
theorem zLw {qd : Prop} {y0 : wJ} {y1 : Int} : qC qd prog 9 [.agg (yY y0 p1 c1).toArray, vi y1] [] [Rl vO p1 c1 y0.2, Pt (yH 64 (zK .u8)) 4 0 yW] (zBT y0 y1) fun r K=>∀ p2 c2,K (.tuple #[sv p2 r.1 c2, vi r.2]) [] [Rl (qZ (zK .i64)) p2 c2 r.1] :=
 zY call9 func9 u fun X=>zC<|qV .s u<|fun b1=>zA 2 u<|zB<|zD<|zC<|qS 0 2 u u u<|qI zKz u (cq [0])<|fun r1 _ k=>k<|zA 1 u<|zB<|jA 2 u<|zJ u (jA 3 u<|zH<|zZ<|wG u (lT u (lT u lN)) (fun _ k=>k none 0) [] ⟨gn,d⟩)<|
  jC<|zC<|qI zSx u d<|fun r2 _ k b2 b3 b4 b5 b6 b7 b8 b9 b10 b11 b12=>k<|zA 1 u<|zB<|zD<|tK (fun K=>K [1,2,7] [] [0,1] [(21, vb ((decide (y1 < 1)) || (decide (((10 : Nat) : Int) ≤ y1))))] []) (qM<|zA 3 u<|
  uF (b := decide (y1 < 1)) 16 u (fun hb1=>zA 4 u<|zL (vb true)<|zV<|wX 21 (vb ((decide (y1 < 1)) || (decide (((10 : Nat) : Int) ≤ y1)))) u (by rw [hb1]; rfl)<|zM (gv kk [0,1,2,3,4,5,6,7,8,9,10,11] (gq [0,1]))
  )<|fun hb1=>zA 4 u<|zL (vb (decide (((10 : Nat) : Int) ≤ y1)))<|zV<|wX 21 (vb ((decide (y1 < 1)) || (decide (((10 : Nat) : Int) ≤ y1)))) u (by rw [hb1]; rfl)<|zM (gv kk [0,1,2,3,4,5,6,7,8,9,10,11] (gq [0,1])))<|fun _ k=>
  k<|zJ u (jA 2 u<|zH<|zZ<|wG u (lT u (lT u lN)) (fun _ k=>k none 0) [] ⟨gn,d⟩)<|jC<|
  jjn (fun s1 K=>∀ p2 c2,K [(4, sv p2 s1.1 c2), (5, vi s1.2)] [[], [], [], [], [], [], [], [], [], [], [], []] [Rl (qZ (zK .i64)) p2 c2 s1.1, Pt (yH 64 (zK .u8)) 4 0 yW]) (xB [] [0, 1] 10<|qA 8 [0,1] u<|
  z5F (c := 1) (fun hb2=>wX 23 (vi 1) u (by rw [hb2])<|xS (v := pt b2 1) 2 u (fun h=>zRi h u u (by decide) (by kernel_rfl) u)<|wI 3 1 u u u u<|vM 4 0 2 u u u u<|qH 5<|
  zX (.f u) [2, 3] [] zKA u u u (cq [0,1])<|fun r3 _ k p3 c3=>k<|qB<|qA 0 [6,7,8,9] u<|wA<|zM (gv (fun _ k=>k p3 c3) [900,901,902,903,904,905,906,907,908,909,910,911] (gq [0,2])))<|
  z5F (c := 2) (fun hb3=>wX 23 (vi 2) u (by rw [hb3])<|xS (v := pt b2 2) 2 u (fun h=>zRi h u u (by decide) (by kernel_rfl) u)<|wI 3 1 u u u u<|vM 4 0 2 u u u u<|qH 5<|
  zX (.f u) [4] [] zKC u u u (cq [0,1])<|fun r4 _ k p4 c4=>k<|qB<|qA 0 [6,7,8,9] u<|wA<|zM (gv (fun _ k=>k p4 c4) [900,901,902,903,904,905,906,907,908,909,910,911] (gq [0,2])))<|
  z5F (c := 3) (fun hb4=>wX 23 (vi 3) u (by rw [hb4])<|xS (v := pt b2 3) 2 u (fun h=>zRi h u u (by decide) (by kernel_rfl) u)<|wI 3 1 u u u u<|vM 4 0 2 u u u u<|qH 5<|
  zX (.f u) [5] [] zIf u u u (cq [0,1])<|fun r5 _ k p5 c5=>k<|qB<|qA 0 [6,7,8,9] u<|wA<|zM (gv (fun _ k=>k p5 c5) [900,901,902,903,904,905,906,907,908,909,910,911] (gq [0,2])))<|
  z5F (c := 4) (fun hb5=>wX 23 (vi 4) u (by rw [hb5])<|xS (v := pt b2 4) 2 u (fun h=>zRi h u u (by decide) (by kernel_rfl) u)<|wI 3 1 u u u u<|vM 4 0 2 u u u u<|qH 5<|
  zX (.f u) [6] [] zJa u u u (cq [0,1])<|fun r6 _ k p6 c6=>k<|qB<|qA 0 [6,7,8,9] u<|wA<|zM (gv (fun _ k=>k p6 c6) [900,901,902,903,904,905,906,907,908,909,910,911] (gq [0,2])))<|
  z5F (c := 5) (fun hb6=>wX 23 (vi 5) u (by rw [hb6])<|xS (v := pt b2 5) 2 u (fun h=>zRi h u u (by decide) (by kernel_rfl) u)<|wI 3 1 u u u u<|vM 4 0 2 u u u u<|qH 5<|
  zX (.f u) [7] [] zI3 u u u (cq [0,1])<|fun r7 _ k p7 c7=>k<|qB<|qA 0 [6,7,8,9] u<|wA<|zM (gv (fun _ k=>k p7 c7) [900,901,902,903,904,905,906,907,908,909,910,911] (gq [0,2])))<|
  z5F (c := 6) (fun hb7=>wX 23 (vi 6) u (by rw [hb7])<|xS (v := pt b2 6) 2 u (fun h=>zRi h u u (by decide) (by kernel_rfl) u)<|wI 3 1 u u u u<|vM 4 0 2 u u u u<|qH 5<|
  zX (.f u) [8, 9] [] zJT u u u (cq [0,1])<|fun r8 _ k p8 c8=>k<|qB<|qA 0 [6,7,8,9] u<|wA<|zM (gv (fun _ k=>k p8 c8) [900,901,902,903,904,905,906,907,908,909,910,911] (gq [0,2])))<|
  z5F (c := 7) (fun hb8=>wX 23 (vi 7) u (by rw [hb8])<|xS (v := pt b2 7) 2 u (fun h=>zRi h u u (by decide) (by kernel_rfl) u)<|wI 3 1 u u u u<|vM 4 0 2 u u u u<|qH 5<|
  zX (.f u) [10, 11] [] zJQ u u u (cq [0,1])<|fun r9 _ k p9 c9=>k<|qB<|qA 0 [6,7,8,9] u<|wA<|zM (gv (fun _ k=>k p9 c9) [900,901,902,903,904,905,906,907,908,909,910,911] (gq [0,2])))<|
  z5F (c := 8) (fun hb9=>wX 23 (vi 8) u (by rw [hb9])<|xS (v := pt b2 8) 2 u (fun h=>zRi h u u (by decide) (by kernel_rfl) u)<|wI 3 1 u u u u<|vM 4 0 2 u u u u<|jno)<|z5F (c := 9) (fun hb10=>
  wX 23 (vi 9) u (by rw [hb10])<|xS (v := pt b2 9) 2 u (fun h=>zRi h u u (by decide) (by kernel_rfl) u)<|wI 3 1 u u u u<|vM 4 0 2 u u u u<|jno)<|jno)<|fun s1 _ k p2 c2=>k<|zH<|
  wG u (lT u (lT u lN)) (fun _ k=>k p2 c2) [] (gq [0])
theorem zQr {qd : Prop} {y0 : zBu} {y1 : List Int} : qC qd prog 26 [.agg (zKM y0 p1 c1 p2 c2 p3 c3 p4 c4 p5 c5 p6 c6).toArray, sv p7 y1 c7] [] (zK0 y0 p1 c1 p2 c2 p3 c3 p4 c4 p5 c5 p6 c6 [Rl (zK .i64) p7 c7 y1]) (zIw y0 y1) fun r K=>∀ b1 p8 c8 p9 c9 p10 c10 p11 c11 p12 c12 p13 c13 b2 p14 c14,K (.func (.func 80) #[] #[pt b1 0, pt b2 0]) [bx b1 43 (zKM r.1 p8 c8 p9 c9 p10 c10 p11 c11 p12 c12 p13 c13), bx b2 22 [sv p14 r.2 c14]] (zK0 r.1 p8 c8 p9 c9 p10 c10 p11 c11 p12 c12 p13 c13 [Rl (zK .i64) p14 c14 r.2]) :=
 zY call26 func26 u fun X=>zC<|qV .s u<|fun b1=>qV .s u<|fun b2=>zA 1 u<|zB<|jA 2 u<|zH<|zQ u u (fun _ k=>k b1 p1 c1 p2 c2 p3 c3 p4 c4 p5 c5 p6 c6 b2 p7 c7) [0,1] (gq [0,1,2,3,4,5,6])
theorem zG0 {qd : Prop} {y0 : zG} {y1 : List zG} : vU qd prog 81 [.agg #[vb y0.1, vs y0.2], pt b1 0] [bx b1 61 [sv p1 y1 c1]] [Rl wO p1 c1 y1] (zBn y0 y1) fun L r K=>K (vb r) L [] :=
 zY call81 func81 u fun X=>zC<|qV .s u<|fun b2=>zA 1 u<|zB<|zC<|zT 0 u u u<|qS 1 2 u u u<|qI zL5 u (cq [0])<|fun r1 _ k=>k<|zA 2 u<|zB<|zH<|zQ u u kk [0] d
theorem zEZ {qd : Prop} {y0 : List zG} {y1 : List zG} : vU qd prog 164 [sv p1 y0 c1, .func (.func 81) #[] #[pt b1 0]] [bx b1 61 [sv p2 y1 c2]] [Rl wO p1 c1 y0, Rl wO p2 c2 y1] (zBW y0 y1) fun L r K=>K (vi r) L [] :=
 zY call164 func164 u fun X=>jA 1 u<|zD<|jA 3 u<|zR<|qR (fun s1 K=>K [0,1,7] [] [0,1] [(8, vi s1)] []) (gv kk [0] (gq [0,1]))<|fun s1 _ k=>k<|jA 1 u<|zD<|zJ u (jC<|zD<|zR<|jA 2 u<|zC<|zA 3 u<|qX 0 u u u<|fun x1 b2 o1=>
  qW true yI (gk 0) u<|zX .s [0] [] zG0 u u u (cq [2])<|fun r1 _ k=>k<|zB<|zJ u (jA 2 u<|zH<|qK<|zZ<|wQ<|qK<|zZ<|zQ u u kk [0] d)<|wF<|qF<|zP<|jB 2 u<|
  qG (gv kk [0] (gq [1,2])))<|qO<|qN<|qQ<|qP<|zP<|jA 1 u<|zH<|zQ u u kk [0] d
theorem zDt {qd : Prop} {y0 : List zG} {y1 : List zG} : vU qd prog 82 [sv p1 y0 c1, .func (.func 81) #[] #[pt b1 0]] [bx b1 61 [sv p2 y1 c2]] [Rl wO p1 c1 y0, Rl wO p2 c2 y1] (zAH y0 y1) fun L r K=>K (vb r) L [] :=
 zY call82 func82 u fun X=>jA 1 u<|zC<|zA 2 u<|zX .s [0] [] zEZ u u u (cq [0,1])<|fun r1 _ k=>k<|zA 2 u<|zB<|zH<|zQ u u kk [0] d
theorem zPY {qd : Prop} {y0 : zBu} {y1 : List Int} : vU qd prog 80 [.func (.yield yl1) #[] #[], pt b1 0, pt b2 0] [bx b1 43 (zKM y0 p1 c1 p2 c2 p3 c3 p4 c4 p5 c5 p6 c6), bx b2 22 [sv p7 y1 c7]] (zK0 y0 p1 c1 p2 c2 p3 c3 p4 c4 p5 c5 p6 c6 [Rl (zK .i64) p7 c7 y1]) (zHq y0 y1) fun L r K=>K (.tuple #[]) L [] :=
 zY call80 func80 u fun X=>zC<|zN 3 u<|zT 0 u u u<|zT 1 u u u<|qI zHH u (cq [3,6])<|fun r1 _ k p8 c8=>k<|wN .s (.slice none 0 0)<|fun b3=>qJ .s 2 u u u<|zB<|jA 2 u<|
  zYy (fun s1 K=>K [0,1,2,4,5] [] [1,2,3,4,5,6,7,0] [] []) (zC<|zN 0 u<|zN 1 u<|zT 0 u u u<|zA 2 u<|zB<|zR<|
  qR (fun s2 K=>K [0,1,2,4,5,22,23] [] [2,1,3,4,5,6,7,0] [(24, vi s2)] []) (gv kk [0,1,2] (gq [2,1,3,4,5,6,7,0]))<|fun s2 _ k=>k<|jA 1 u<|zD<|zJ u (jC<|zD<|zR<|zC<|zA 1 u<|qX 0 u u u<|fun x1 b4 o1=>
  qW true zM4 (gk 0) u<|fun p9 c9=>wN .s (.agg #[vs [], vb false, vi 0, .slice none 0 0, vb false, vs []])<|fun b5=>zA 1 u<|qJ .s 3 u u u<|zB<|
  wK (fun s3 K=>K [0,1,2,4,5,22,23,24] [(3, [])] [2,3,4,5,6,7,8,9] [(50, vb s3)] []) (qM<|zN 1 u<|zT 3 u u u<|zA 1 u<|wL 31 u (zA 1 u<|zN 4 u<|qS 3 2 u u u<|
  zX .s [2] [] zG0 u u u (cq [9])<|fun r2 _ k=>k<|zL (vb r2)<|zA 1 u<|wL 37 u (zN 3 u<|zT 3 u u u<|zA 1 u<|
  zX .s [2] [] zDt u u u (cq [0,9])<|fun r3 _ k=>k<|zA 1 u<|zL (vb (!r3))<|zA 1 u<|wL 44 u (zA 2 u<|zL (.agg #[vi 1, vi s2, vi 0, vb false, vs []])<|jno)<|zA 5 u<|
  zL (vb false)<|zV<|zM (gv kk [0,1,2,903] (gq [2,3,4,5,6,7,8,9])))<|zA 5 u<|zL (vb false)<|zA 6 u<|zL (vb false)<|zV<|zM (gv kk [0,1,2,903] (gq [2,3,4,5,6,7,8,9])))<|zA 4 u<|zL (vb false)<|zA 6 u<|
  zL (vb false)<|zA 6 u<|zL (vb false)<|zV<|zM (gv kk [0,1,2,903] (gq [2,3,4,5,6,7,8,9])))<|fun s3 _ k=>k<|zJ u (zH<|qK<|zZ<|wQ<|qK<|wQ<|wG u lN kk [0,1] d)<|wF<|qF<|zP<|jB 2 u<|
  qG (gv kk [0,1,2] (gq [0,1,2,3,4,5,6,7])))<|qO<|qN<|qQ<|qP<|qG (gv kk [0,1,2] (gq [1,0,2,3,4,5,6,7])))<|fun s1 _ k=>k<|zYy (fun s4 K=>K [0,1,2] [(2, [])] [0,1,2,3,4,5,6] [] []) (zC<|zT 2 u u u<|zA 2 u<|
  zB<|zR<|qR (fun s5 K=>K [0,1,2,5,52,53] [] [7,0,1,2,3,4,5,6] [(54, vi s5)] []) (gv kk [0,1,2] (gq [7,0,1,2,3,4,5,6]))<|fun s5 _ k=>k<|jA 1 u<|zD<|zJ u (jC<|zD<|zR<|zC<|qX 0 u u u<|fun x2 b6 o2=>
  qW true yI (gk 0) u<|wN .s (.agg #[vb false, vs []])<|fun b7=>qJ .s 3 u u u<|zB<|wK (fun s6 K=>K [0,1,2,5,52,53,54] [(3, [])] [1,2,3,4,5,6,7,8] [(74, vb s6)] []) (qM<|zN 0 u<|zT 3 u u u<|zA 2 u<|
  wL 61 u (zA 1 u<|qS 3 2 u u u<|qI zLS u d<|fun r4 _ k=>k<|zX .s [2] [] zG0 u u u (cq [1])<|fun r5 _ k=>k<|zA 1 u<|zL (vb (!r5))<|zA 1 u<|wL 68 u (zA 1 u<|
  qS 3 2 u u u<|zL (.agg #[vi 2, vi 0, vi 0, vb x2.1, vs x2.2])<|jno)<|zA 5 u<|zL (vb false)<|zV<|zM (gv kk [0,1,2,903] (gq [1,2,3,4,5,6,7,8])))<|zA 5 u<|zL (vb false)<|zA 6 u<|zL (vb false)<|zV<|
  zM (gv kk [0,1,2,903] (gq [1,2,3,4,5,6,7,8])))<|fun s6 _ k=>k<|zJ u (zH<|qK<|zZ<|wQ<|qK<|wQ<|wG u lN kk [0,1] d)<|wF<|qF<|zP<|jB 2 u<|qG (gv kk [0,1,2] (gq [0,1,2,3,4,5,6,7])))<|qO<|qN<|
  qQ<|qP<|qG (gv kk [0,1,902] (gq [1,2,3,4,5,6,7])))<|fun s4 _ k=>k<|zC<|zA 1 u<|vJ (zK .i64) 3<|zB<|
  wK (fun s7 K=>∀ p10 c10 r_1,K [0,2] [(3, r_1)] [1,2,3,4,5,6,7] [(10, sv p10 s7 c10)] [Al (zK .i64) 3 r_1 p10 c10 s7]) (zC<|zT 1 u u u<|zA 2 u<|zB<|zR<|
  qR (fun s8 K=>∀ p11 c11 r_2,K [0,1,2,76,77] [(3, r_2)] [7,1,2,3,4,5,6] [(10, sv p11 s8.1 c11), (78, vi s8.2)] [Al (zK .i64) 3 r_2 p11 c11 s8.1]) (gv (fun _ k=>k none 0 []) [0,1,902,3] (gq [0,7,1,2,3,4,5,6]))<|fun s8 _ k p11 c11 r_2=>k<|
  jA 1 u<|zD<|zJ u (jC<|zD<|zR<|zC<|qX 1 u u u<|fun x3 b8 o3=>qW false oI (gk 0) u<|zA 1 u<|zB<|qM<|zA 1 u<|zN 3 u<|zT 0 u u u<|zA 1 u<|qI zJk u (cq [6])<|fun r6 _ k p12 c12=>k<|
  wM .s 3 2 u (gk 0) u u<|fun x4 r_3 p13 c13=>zA 1 u<|zV<|qF<|zP<|jB 2 u<|qG (gv (fun _ k=>k p13 c13 r_3) [0,1,902,3] (gq [0,4,5,6,7,8,9,10])))<|qO<|qN<|qQ<|qP<|
  zM (gv (fun _ k=>k p11 c11 r_2) [0,1,902,3] (gq [0,2,3,4,5,6,7,1])))<|fun s7 _ k p10 c10 r_1=>k<|zC<|zA 1 u<|zX .s [3] [] zF1 u u u (cq [0])<|fun r7 _ k r_4=>k<|zB<|zC<|zA 1 u<|jrE 0 91 u u<|
  zX .s [3] [] zFV u u u (cq [0])<|fun r8 _ k p14 c14=>k<|zA 2 u<|zB<|zR<|qR (fun s9 K=>K [0,2,92,93] [] [0,4,5,6,7,8,9,10] [(94, vi s9)] []) (gv kk [0,1,902,903] (gq [0,4,5,6,7,8,9,10]))<|fun s9 _ k=>
  k<|jA 1 u<|zD<|zJ u (jC<|zD<|zR<|zC<|qX 0 u u u<|fun x5 b9 o4=>qW false oI (gk 0) u<|zA 1 u<|zB<|wK (fun s10 K=>K [0,2,92,93,94] [] [1,2,3,4,5,6,7,8] [(108, vb s10)] []) (qM<|zT 1 u u u<|zA 1 u<|
  qI zCg u (cq [8])<|fun r9 _ k=>k<|zA 2 u<|wL 102 u (zA 2 u<|zL (.agg #[vi 3, vi 0, vi x5, vb false, vs []])<|jno)<|zA 5 u<|zL (vb false)<|zV<|zM (gv kk [0,1,902,903] (gq [1,2,3,4,5,6,7,8])))<|
  fun s10 _ k=>k<|zJ u (zH<|qK<|zZ<|wQ<|qK<|wG u lN kk [0,1] d)<|wF<|qF<|zP<|jB 2 u<|qG (gv kk [0,1,902,903] (gq [0,1,2,3,4,5,6,7])))<|qO<|qN<|qQ<|qP<|jrn<|wG u lN kk [0,1] d
theorem zQq {qd : Prop} {y0 : zBu} {y1 : List Int} : qC qd prog 10 [.agg (zKM y0 p1 c1 p2 c2 p3 c3 p4 c4 p5 c5 p6 c6).toArray, sv p7 y1 c7] [] (zK0 y0 p1 c1 p2 c2 p3 c3 p4 c4 p5 c5 p6 c6 [Rl (zK .i64) p7 c7 y1]) (zEM y0 y1) fun r K=>∀ p8 c8,K (sv p8 r c8) [] [Rl zU4 p8 c8 r] :=
 entM call10 func10 u fun X=>zC<|qV .s u<|fun b1=>zA 1 u<|zB<|zC<|wN .s (.slice none 0 0)<|fun b2=>zB<|zD<|zC<|qS 0 7 u u u<|zA 1 u<|qI zQr u (cq [0,1,2,3,4,5,6])<|
  fun r1 _ k b3 p8 c8 p9 c9 p10 c10 p11 c11 p12 c12 p13 c13 b4 p14 c14=>k<|zB<|jrf [2, 3] 4 5 (fun _=>zPY) u (fun _ _=>(cq [0,1,2,3,4,5,6])) (ndC z6b (ndC z2z ndN))<|fun _ _ r2 _ k=>k<|⟨rfl,fun _=>
  zT 1 u u u<|zA 1 u<|jrx<|zQ u u (fun _ k=>k none 0) [] ⟨gn,d⟩⟩
theorem z1W {qd : Prop} {y0 : List Int} : qC qd prog 4 [sv p1 y0 c1] [] [Rl (zK .i64) p1 c1 y0] (zPu y0) fun r K=>∀ b1 p2 c2,K (pt b1 0) [bx b1 54 (zIC r p2 c2)] (zHz r p2 c2 []) :=
 zY call4 func4 u fun X=>jA 1 u<|zC<|zA 4 u<|jsl (gk 0) u u u (.inl ⟨rfl, rfl⟩) (.inr ⟨_, rfl⟩)<|fun x1 p2 c2=>zL (.agg #[sv p2 x1 c2, vi 0])<|qV .s u<|fun b1=>zA 1 u<|zB<|zH<|zQ u u (fun _ k=>k b1 p2 c2) [0] (gq [0])
theorem zTW {qd : Prop} : qC qd prog 7 [] [] [] (zLK) fun r K=>∀ p1 c1,K (sv p1 r c1) [] [Rl zSD p1 c1 r] :=
 zY call7 func7 u fun X=>jA 1 u<|zC<|zL (.agg #[vi 1, vi 1])<|zL (.agg #[vi 1, vi 2])<|zL (.agg #[vi 2, vi 1])<|zL (.agg #[vi 2, vi 2])<|
  wT .s (e := zSD) 36 [vi 1, vi 1, vi 1, vi 2, vi 2, vi 1, vi 2, vi 2] ([(1, 1), (1, 2), (2, 1), (2, 2)] : List yN) (rC (vP vI vI) (rC (vP vI vI) (rC (vP vI vI) (rC (vP vI vI) rN))))<|fun p1 c1=>zA 1 u<|zB<|zH<|
  zQ u u (fun _ k=>k p1 c1) [] (gq [0])
theorem zQM {qd : Prop} {y0 : zBu} {y1 : Int} : qC qd prog 106 [.agg (zKM y0 p1 c1 p2 c2 p3 c3 p4 c4 p5 c5 p6 c6).toArray, vi y1] [] (zK0 y0 p1 c1 p2 c2 p3 c3 p4 c4 p5 c5 p6 c6 [Pt (yH 64 (zK .u8)) 4 0 yW]) (zFR y0 y1) fun r K=>∀ p7 c7,K (.tuple #[sv p7 r.1 c7, vi r.2]) [] [Rl (qZ wO) p7 c7 r.1] :=
 zY call106 func106 u fun X=>zC<|qV .s u<|fun b1=>zA 2 u<|zB<|zC<|zN 5 u<|qS 0 2 u u u<|zA 1 u<|qI zLw u (cq [5,6])<|fun r1 _ k p7 c7=>k<|zA 5 u<|zB<|zD<|jA 2 u<|zJ u (jA 3 u<|zH<|zZ<|
  wG u (lT u (lT u lN)) (fun _ k=>k none 0) [] ⟨gn,d⟩)<|jC<|zC<|zA 1 u<|vJ (qZ wO) 61<|zB<|zD<|jA 3 u<|zR<|
  qR (fun s1 K=>∀ p8 c8 r_1,K [2,21,22] [(1, r_1)] [1,2,3,4,5,6,7,8] [(8, sv p8 s1.1 c8), (23, vi s1.2)] [Al (qZ wO) 61 r_1 p8 c8 s1.1]) (gv (fun _ k=>k none 0 []) [0,1] (gq [0,1,2,3,4,5,6,7,8]))<|fun s1 _ k p8 c8 r_1=>k<|
  jA 1 u<|zD<|zJ u (jC<|zD<|zR<|zC<|qX 1 u u u<|fun x1 b2 o1=>qW false oL (gk 0) u<|fun p9 c9=>zA 1 u<|zB<|qM<|zA 1 u<|zN 3 u<|zT 0 u u u<|zA 1 u<|qI zHH u (cq [7,0])<|
  fun r2 _ k p10 c10=>k<|wT .s (e := qZ wO) 61 [sv p10 r2 c10] ([r2] : List (List zG)) (rC (vL (gk 0)) rN)<|fun p11 c11=>wM .s 1 4 u (gk 0) u u<|fun x2 r_2 p12 c12=>zA 1 u<|zV<|qF<|zP<|jB 2 u<|
  qG (gv (fun _ k=>k p12 c12 r_2) [0,1] (gq [0,6,7,8,9,10,11,12,13])))<|qO<|qN<|qQ<|qP<|zP<|jA 3 u<|zH<|wY 1 0 u u<|wG u (lT u (lT u lN)) (fun _ k=>k p8 c8) [] (gq [0])
theorem zNz {qd : Prop} {y0 : Int} : qC qd prog 171 [.slice none 0 0, vi y0] [] [] (zJh y0) fun r K=>∀ p1 c1 r_1,K (sv p1 r c1) [r_1] [Al wO 66 r_1 p1 c1 r] :=
 zY call171 func171 u fun X=>vJ wO 66<|jA 1 u<|wK (fun s1 K=>K [0,1] [] [0] [] []) (jA 2 u<|zJ u (qM<|jno)<|wF<|zM (gv kk [0] (gq [0])))<|fun s1 _ k=>k<|zD<|zC<|zA 2 u<|
  jv (v := vi ((0 : Nat) : Int)) (fun h=>r_cap h u underlying61)<|zA 5 u<|zB<|jA 2 u<|zJ u (qM<|zA 2 u<|jv (v := vi ((0 : Nat) : Int)) (fun h=>r_cap h u underlying61)<|
  jv (v := .slice none 0 0) (fun h=>z6F (e := wO) h u u (by kernel_rfl))<|zA 1 u<|jaz .s (e := wO) (h2 := underlying3) 0 0 66 ((false, []) : zG) (.agg #[vb false, vs []]) u (vP vB vS) u u<|
  fun x1 r_1 p1 c1=>zA 2 u<|jsP 0 u u u<|fun x2=>zA 1 u<|zV<|zP<|jA 2 u<|zH<|zQ u u (fun _ k=>k p1 c1 r_1) [0] (gq [0]))<|jC<|jA 2 u<|zH<|zQ u u (fun _ k=>k none 0 []) [0] (gq [0])
theorem zON {qd : Prop} {y0 : List (List zG)} : qC qd prog 107 [sv p1 y0 c1] [] [Rl (qZ wO) p1 c1 y0] (zDq y0) fun r K=>∀ p2 c2,K (sv p2 r c2) [] [Rl wO p2 c2 r] :=
 zY call107 func107 u fun X=>jA 1 u<|jA 1 u<|wK (fun s1 K=>K [0] [] [0] [(3, vi s1)] []) (jA 3 u<|zR<|qR (fun s2 K=>K [0,9,10] [] [0] [(3, vi s2.1), (11, vi s2.2)] []) (gv kk [] (gq [0]))<|fun s2 _ k=>k<|jA 1 u<|zD<|zJ u (jC<|zD<|zR<|zC<|
  qX 0 u u u<|fun x1 b1 o1=>qW false oL (gk 0) u<|fun p2 c2=>zA 1 u<|zB<|jA 5 u<|jA 2 u<|zJ u (qM<|jno)<|wF<|qF<|zP<|jB 2 u<|qG (gv kk [] (gq [2])))<|qO<|qN<|qQ<|qP<|zM (gv kk [] (gq [0]))
  )<|fun s1 _ k=>k<|zC<|zA 1 u<|qI zNz u d<|fun r1 _ k p3 c3 r_1=>k<|zA 1 u<|zB<|zD<|jA 3 u<|zR<|
  qR (fun s3 K=>∀ p4 c4 r_2,K [25,26] [(0, r_2)] [1] [(6, sv p4 s3.1 c4), (27, vi s3.2)] [Al wO 66 r_2 p4 c4 s3.1]) (gv (fun _ k=>k p3 c3 r_1) [0] (gq [0,1]))<|fun s3 _ k p4 c4 r_2=>k<|jA 1 u<|zD<|zJ u (jC<|zD<|zR<|zC<|
  qX 1 u u u<|fun x2 b2 o2=>qW false oL (gk 0) u<|fun p5 c5=>zA 1 u<|zB<|qM<|zA 2 u<|wM .s 0 2 u (gk 0) u u<|fun x3 r_3 p6 c6=>zA 1 u<|zV<|qF<|zP<|jB 2 u<|qG (gv (fun _ k=>k p6 c6 r_3) [0] (gq [0,4])))<|qO<|
  qN<|qQ<|qP<|zP<|jA 2 u<|zH<|wY 0 0 u u<|zQ u u (fun _ k=>k p4 c4) [] (gq [0])
theorem zOl {qd : Prop} {y0 : List zG} {y1 : zG} : vU qd prog 111 [sv p1 y0 c1, pt b1 0] [bx b1 66 [vb y1.1, vs y1.2]] [Rl wO p1 c1 y0] (zEu y0 y1) fun L r K=>K (vb r) L [] :=
 zY call111 func111 u fun X=>jA 1 u<|zC<|zA 1 u<|qS 0 2 u u u<|qI zL5 u (cq [0])<|fun r1 _ k=>k<|zA 2 u<|zB<|zH<|zQ u u kk [0] d
theorem zEy {qd : Prop} {y0 : List (List zG)} {y1 : zG} : vU qd prog 172 [sv p1 y0 c1, .func (.func 111) #[] #[pt b1 0]] [bx b1 66 [vb y1.1, vs y1.2]] [Rl (qZ wO) p1 c1 y0] (zAt y0 y1) fun L r K=>K (vi r) L [] :=
 zY call172 func172 u fun X=>jA 1 u<|zD<|jA 3 u<|zR<|qR (fun s1 K=>K [0,1,7] [] [0] [(8, vi s1)] []) (gv kk [0] (gq [0]))<|fun s1 _ k=>k<|jA 1 u<|zD<|zJ u (jC<|zD<|zR<|jA 2 u<|zC<|zA 3 u<|qX 0 u u u<|fun x1 b2 o1=>
  qW false oL (gk 0) u<|fun p2 c2=>zX .s [0] [] zOl u u u (cq [0])<|fun r1 _ k=>k<|zB<|zJ u (jA 2 u<|zH<|qK<|zZ<|wQ<|qK<|zZ<|zQ u u kk [0] d)<|wF<|qF<|zP<|jB 2 u<|
  qG (gv kk [0] (gq [2])))<|qO<|qN<|qQ<|qP<|zP<|jA 1 u<|zH<|zQ u u kk [0] d
theorem zEV {qd : Prop} {y0 : List (List zG)} {y1 : zG} : vU qd prog 110 [sv p1 y0 c1, .func (.func 111) #[] #[pt b1 0]] [bx b1 66 [vb y1.1, vs y1.2]] [Rl (qZ wO) p1 c1 y0] (zAa y0 y1) fun L r K=>K (vb r) L [] :=
 zY call110 func110 u fun X=>jA 1 u<|zC<|zA 2 u<|zX .s [0] [] zEy rfl u u (cq [0])<|fun r1 _ k=>k<|zA 2 u<|zB<|zH<|zQ u u kk [0] d
theorem zLu {qd : Prop} {y0 : zG} {y1 : Bool} {y2 : List (List zG)} : vU qd prog 109 [.agg #[vb y0.1, vs y0.2], pt b1 0, pt b2 0] [bx b1 4 [vb y1], bx b2 160 [sv p1 y2 c1]] [Rl (qZ wO) p1 c1 y2] (zDy y0 y1 y2) fun L r K=>K (vb r) L [] :=
 zY call109 func109 u fun X=>zC<|qV .s u<|fun b3=>zA 1 u<|zB<|wK (fun s1 K=>K [] [(2, [])] [0] [(4, vb s1)] []) (qM<|zT 0 u u u<|zA 1 u<|wL 6 u (zT 1 u u u<|zA 1 u<|
  zX .s [2] [] zEV u u u (cq [0])<|fun r1 _ k=>k<|zL (vb r1)<|zA 1 u<|zV<|zM (gv kk [0,1,902] (gq [0])))<|zA 3 u<|zL (vb false)<|zA 1 u<|zV<|
  zM (gv kk [0,1,902] (gq [0])))<|fun s1 _ k=>k<|zH<|zQ u u kk [0,1] d
theorem zFn {qd : Prop} {y0 : List zG} {y1 : Bool} {y2 : List (List zG)} : vU qd prog 164 [sv p1 y0 c1, .func (.func 109) #[] #[pt b1 0, pt b2 0]] [bx b1 4 [vb y1], bx b2 160 [sv p2 y2 c2]] [Rl wO p1 c1 y0, Rl (qZ wO) p2 c2 y2] (zBC y0 y1 y2) fun L r K=>K (vi r) L [] :=
 zY call164 func164 u fun X=>jA 1 u<|zD<|jA 3 u<|zR<|qR (fun s1 K=>K [0,1,7] [] [0,1] [(8, vi s1)] []) (gv kk [0,1] (gq [0,1]))<|fun s1 _ k=>k<|jA 1 u<|zD<|zJ u (jC<|zD<|zR<|jA 2 u<|zC<|zA 3 u<|qX 0 u u u<|fun x1 b3 o1=>
  qW true yI (gk 0) u<|zX .s [0, 1] [] zLu u u u (cq [2])<|fun r1 _ k=>k<|zB<|zJ u (jA 2 u<|zH<|qK<|zZ<|wQ<|qK<|zZ<|zQ u u kk [0,1] d)<|wF<|qF<|zP<|jB 2 u<|
  qG (gv kk [0,1] (gq [1,2])))<|qO<|qN<|qQ<|qP<|zP<|jA 1 u<|zH<|zQ u u kk [0,1] d
theorem zFM {qd : Prop} {y0 : List zG} {y1 : Bool} {y2 : List (List zG)} : qC qd prog 108 [sv p1 y0 c1, .func (.func 109) #[] #[pt b1 0, pt b2 0]] [r_1, bx b1 4 [vb y1], bx b2 160 [sv p2 y2 c2]] [Al wO 66 r_1 p1 c1 y0, Rl (qZ wO) p2 c2 y2] (zAz y0 y1 y2) fun r K=>∀ p3 c3,K (sv p3 r c3) [[], bx b1 4 [vb y1], bx b2 160 [sv p2 y2 c2]] [Rl wO p3 c3 r] :=
 zY call108 func108 u fun X=>jA 1 u<|zC<|zA 2 u<|zX .s [1, 2] [0] zFn u u u ⟨cl 0 0,ck 1,d⟩<|fun r1 _ k=>k<|zA 1 u<|zB<|zD<|jA 2 u<|zJ u (jA 2 u<|zH<|zZ<|wY 0 0 u u<|
  zQ u u (fun _ k=>k p1 c1) [900,1,2] (gq [0]))<|jC<|wK (fun s1 K=>∀ r_2,K [] [(0, r_2)] [1] [(0, .slice p1 (List.length y0) c1), (5, vi s1.2)] [Ar wO 66 r_2 p1 c1 (List.length y0) s1.1]) (jA 3 u<|zR<|
  qR (fun s2 K=>∀ r_3,K [1] [(0, r_3)] [1] [(0, .slice p1 (List.length y0) c1), (5, vi s2.2.1), (6, vi s2.2.2)] [Ar wO 66 r_3 p1 c1 (List.length y0) s2.1]) (gv (fun _ k=>k r_1) [0,1,2] (gq [0,1]))<|fun s2 _ k r_3=>k<|zD<|jA 4 u<|
  zJ u (jC<|zD<|zR<|zC<|zA 2 u<|tV 0 u u u<|fun x1 h1 b3 hp1=>jlA 0 0 sI true yI u hp1 h1 u<|wN .s (.agg #[vb false, vs []])<|fun b4=>qJ .s 3 u u u<|zB<|zC<|zA 1 u<|qS 3 2 u u u<|
  zX .s [1, 2] [] zLu u u u (cq [1])<|fun r2 _ k=>k<|zA 1 u<|zB<|zJ u (zC<|zA 2 u<|qS 3 2 u u u<|tV 0 u u u<|fun x2 h2 b5 hp2=>jsA .s 0 0 sI x1 true u hp2 h2 u u (vP vB vS)<|fun r_4=>zB<|
  jB 3 u<|qF<|zP<|jB 3 u<|qG (gv (fun _ k=>k r_4) [0,1,2] (gq [0,2])))<|wF<|qF<|zP<|jB 3 u<|qG (gv (fun _ k=>k r_3) [0,1,2] (gq [0,1])))<|qO<|qN<|qQ<|qP<|zM (gv (fun _ k=>k r_3) [0,1,2] (gq [0,1])))<|fun s1 _ k r_2=>k<|zC<|
  zA 2 u<|jsV 0 u u u<|fun u1 p3 c3 f1=>jcv .s 0 0 (false, []) (.agg #[vb false, vs []]) u f1 u (vP vB vS)<|fun r_5=>zB<|zC<|zA 2 u<|jsP 0 u u u<|fun x3=>zA 1 u<|zB<|zH<|wY 0 0 u u<|
  zQ u u (fun _ k=>k p1 c1) [900,1,2] (gq [0])
theorem zSX {qd : Prop} {y0 : zBu} {y1 : Int} {y2 : Bool} : qC qd prog 46 [.agg (zKM y0 p1 c1 p2 c2 p3 c3 p4 c4 p5 c5 p6 c6).toArray, vi y1, vb y2] [] (zK0 y0 p1 c1 p2 c2 p3 c3 p4 c4 p5 c5 p6 c6 [Pt (yH 64 (zK .u8)) 4 0 yW]) (zIG y0 y1 y2) fun r K=>∀ p7 c7,K (.tuple #[sv p7 r.1 c7, vi r.2]) [] [Rl wO p7 c7 r.1] :=
 zY call46 func46 u fun X=>zC<|qV .s u<|fun b1=>qV .s u<|fun b2=>zA 2 u<|zB<|zC<|qS 0 7 u u u<|zA 1 u<|qI zQM u (cq [0,1,2,3,4,5,6])<|fun r1 _ k p7 c7=>k<|zA 3 u<|wN .s (.slice none 0 0)<|fun b3=>qJ .s 2 u u u<|
  zA 1 u<|zB<|zD<|jA 2 u<|zJ u (jA 3 u<|zH<|zZ<|wG u (lT u (lT u lN)) (fun _ k=>k none 0) [] ⟨gn,d⟩)<|jC<|zC<|zT 2 u u u<|qI zON u (cq [0])<|fun r2 _ k p8 c8=>k<|
  qI zOT u (cq [0])<|fun r3 _ k p9 c9 r_1=>k<|zA 1 u<|zB<|zC<|zA 2 u<|zX .s [3, 1, 2] [] zFM u u u (cq [0,2])<|fun r4 _ k p10 c10=>k<|zA 2 u<|zB<|zH<|
  wG u (lT u (lT u lN)) (fun _ k=>k p10 c10) [] (gq [0])
theorem zLJ {qd : Prop} {y0 : zO} {y1 : yN} : qC qd prog 15 [.agg (vN y0 p1 c1 p2 c2 p3 c3).toArray, .agg #[vi y1.1, vi y1.2]] [] (vV y0 p1 c1 p2 c2 p3 c3 [Pt (yH 64 (zK .u8)) 4 0 yW]) (zE8 y0 y1) fun r K=>∀ p4 c4,K (.tuple #[sv p4 r.1 c4, vb r.2]) [] [Rl wO p4 c4 r.1] :=
 zY call15 func15 u fun X=>zC<|qV .s u<|fun b1=>qV .s u<|fun b2=>zA 2 u<|zB<|zC<|qS 0 3 u u u<|qS 1 2 u u u<|qI zOU u (cq [0,1,2,3])<|fun r1 _ k p4 c4 p5 c5 p6 c6 p7 c7 p8 c8 p9 c9=>k<|zA 3 u<|
  wN .s (.agg #[.slice none 0 0, .slice none 0 0, .slice none 0 0, .slice none 0 0, .slice none 0 0, vi 0, .slice none 0 0])<|fun b3=>qJ .s 2 u u u<|zA 1 u<|zB<|zC<|qS 2 7 u u u<|
  qI zSX u (cq [0,1,2,3,4,5,9])<|fun r2 _ k p10 c10=>k<|zA 5 u<|zB<|wK (fun s1 K=>∀ p11 c11,K [] [(0, []), (1, []), (2, [])] [10] [(4, sv p11 s1.1 c11), (5, vb s1.2)] [Rl wO p11 c11 s1.1]) (qM<|zA 4 u<|
  wL 24 u (zA 2 u<|zL (vb (r2.2 == 0))<|zA 2 u<|zV<|zM (gv (fun _ k=>k p10 c10) [900,901,902] (gq [0,10])))<|zA 2 u<|zL (vb false)<|zA 2 u<|zV<|zM (gv (fun _ k=>k p10 c10) [900,901,902] (gq [0,10])))<|fun s1 _ k p11 c11=>
  k<|zH<|wG u (lT u (lT u lN)) (fun _ k=>k p11 c11) [] (gq [0])
theorem zIo {qd : Prop} {y0 : zG} : qC qd prog 252 [.agg #[vb y0.1, vs y0.2]] [] [] (zDg y0) fun r K=>K (vs r) [] [] :=
 zY call252 func252 u fun X=>zC<|qV .s u<|fun b1=>zA 1 u<|zB<|zD<|zR<|zC<|qS 0 2 u u u<|qI zFf u d<|fun r1 _ k=>k<|zA 2 u<|zB<|zJ u (jA 1 u<|zH<|qK<|zZ<|zQ u u kk [] d)<|zC<|zN 0 u<|zT 0 u u u<|
  zA 1 u<|zB<|zJ u (zC<|zN 1 u<|zT 0 u u u<|yP fun x1 h1=>jv (fun h=>zS7 h u u h1)<|zA 1 u<|zB<|zH<|qK<|zZ<|zQ u u kk [] d)<|wF<|qF<|zP<|zC<|zN 1 u<|zT 0 u u u<|zA 1 u<|zB<|
  zH<|zQ u u kk [] d
theorem zL3 {qd : Prop} {y0 : Int} {y1 : Int} : qC qd prog 339 [vi y0, vi y1] [] [Tb prog "internal/strconv.uint64pow10" .u64 Lib.pow10Tab] (zHQ y0 y1) fun r K=>K (vs r) [] [] := z2X Go.Proofs.Tryz.lays246 call339
theorem zOG {qd : Prop} {y0 : Int} : qC qd prog 309 [vi y0] [] [Tb prog "internal/strconv.uint64pow10" .u64 Lib.pow10Tab] (zJ5 y0) fun r K=>K (vs r) [] [] :=
 zY call309 func309 u fun X=>jA 1 u<|zC<|zA 1 u<|qI zL3 u (cq [0])<|fun r1 _ k=>k<|zA 1 u<|zB<|zH<|zQ u u kk [] d
theorem zMo {qd : Prop} {y0 : Int} : qC qd prog 253 [vi y0] [] [Tb prog "internal/strconv.uint64pow10" .u64 Lib.pow10Tab] (zKc y0) fun r K=>K (vs r) [] [] :=
 zY call253 func253 u fun X=>jA 1 u<|zC<|zA 1 u<|qI zOG u (cq [0])<|fun r1 _ k=>k<|zA 1 u<|zB<|zH<|zQ u u kk [] d
theorem zQ3 {y0 : List qD} {y1 : qD} : qC False prog 254 [sv p1 y0 c1, vs y1] [] [Rl vK p1 c1 y0] (zNB y0 y1) fun r K=>K (vs r) [] [] := z4n Go.Proofs.Tryz.lays156 Go.Proofs.Tryz.Builder_Extra_156 call254
theorem zOb {y0 : vT} : qC False prog 178 [.agg #[vb y0.1.1, vs y0.1.2, vi y0.2.1, vi y0.2.2.1, vs y0.2.2.2]] [] [Pt (yH 4 vK) 1 0 zBS, Tb prog "internal/strconv.uint64pow10" .u64 Lib.pow10Tab] (zES y0) fun r K=>K (vs r) [] [] :=
 zY call178 func178 u fun X=>zC<|qV .s u<|fun b1=>zA 1 u<|zB<|yA [] [0] 9<|qY 0 2 u u<|wI 1 0 u u u u<|jdgx 2 u (gk 0) u u<|fun x1=>uI 3 false oS u (gk 0) u<|qY 4 0 u u<|vM 5 0 2 u u u u<|qH 6<|
  zX (.f u) [] [] zIo u u u d<|fun r1 _ k=>k<|qB<|qH 7<|xN (.f u) (e := vK) 9 [vs x1, vs r1] ([x1, r1] : List qD) (rC vS (rC vS rN))<|fun r_1 p1 c1=>qB<|qA 0 [8] u<|wA<|zP<|
  wK (fun s1 K=>∀ p2 c2 r_2,K [1] [(1, r_2)] [2,3] [(3, sv p2 s1 c2)] [Al vK 9 r_2 p2 c2 s1]) (zC<|zN 2 u<|zT 0 u u u<|zA 1 u<|zB<|zJ u (qM<|zA 1 u<|zN 3 u<|zT 0 u u u<|qI zMo u (cq [3])<|
  fun r2 _ k=>k<|wT .s (e := vK) 9 [vs r2] ([r2] : List qD) (rC vS rN)<|fun p3 c3=>wM .s 1 1 u (gk 0) u u<|fun x2 r_3 p4 c4=>zA 1 u<|zV<|zM (gv (fun _ k=>k p4 c4 r_3) [0,1] (gq [0,4,5])))<|wF<|
  zM (gv (fun _ k=>k p1 c1 r_1) [0,1] (gq [0,2,3])))<|fun s1 _ k p2 c2 r_2=>k<|wK (fun s2 K=>∀ p5 c5 r_4,K [] [(0, []), (1, r_4)] [1,2] [(3, sv p5 s2 c5)] [Al vK 9 r_4 p5 c5 s2]) (zC<|zN 4 u<|zT 0 u u u<|zA 1 u<|zB<|
  zJ u (qM<|zA 1 u<|zN 4 u<|zT 0 u u u<|wT .s (e := vK) 9 [vs [102, 114, 111, 109], vs y0.2.2.2] ([[102, 114, 111, 109], y0.2.2.2] : List qD) (rC vS (rC vS rN))<|fun p6 c6=>wM .s 1 1 u (gk 0) u u<|
  fun x3 r_5 p7 c7=>zA 1 u<|zV<|zM (gv (fun _ k=>k p7 c7 r_5) [900,1] (gq [0,3,4])))<|wF<|zM (gv (fun _ k=>k p2 c2 r_2) [900,1] (gq [0,1,2])))<|fun s2 _ k p5 c5 r_4=>k<|zC<|zA 1 u<|
  zX .s [] [1] zQ3 u u u ⟨cl 1 0,d⟩<|fun r3 _ k=>k<|zA 1 u<|zB<|zH<|zQ u u kk [] d
theorem zN9 {qd : Prop} {y0 : vQ} : qC qd prog 182 [.agg #[vs y0.1, vi y0.2.1, vb y0.2.2.1, vs y0.2.2.2]] [] [Tb prog "internal/strconv.uint64pow10" .u64 Lib.pow10Tab] (zDX y0) fun r K=>K (vs r) [] [] :=
 zY call182 func182 u fun X=>zC<|qV .s u<|fun b1=>zA 1 u<|zB<|yA [] [0] 14<|qY 0 0 u u<|wI 1 0 u u u u<|yP fun x1 h1=>xS 2 u (fun h=>zS7 h u u h1)<|yP fun x2 h2=>xS 3 u (fun h=>zS7 h u u h2)<|qY 4 1 u u<|
  wI 5 0 u u u u<|qY 9 2 u u<|vM 10 0 2 u u u u<|qH 6<|zX (.f u) [] [] zMo u u u (cq [0])<|fun r1 _ k=>k<|qB<|yP fun x3 h3=>xS 7 u (fun h=>zS7 h u u h3)<|yP fun x4 h4=>
  xS 8 u (fun h=>zS7 h u u h4)<|qH 11<|zX (.f u) [] [] zIo u u u d<|fun r2 _ k=>k<|qB<|yP fun x5 h5=>xS 12 u (fun h=>zS7 h u u h5)<|qA 0 [13] u<|wA<|zP<|zH<|zQ u u kk [] d
theorem zQz {y0 : qL} : qC False prog 180 [.agg (zOv y0 p1 c1).toArray] [] (zRz y0 p1 c1 [Tb prog "internal/strconv.uint64pow10" .u64 Lib.pow10Tab]) (zG1 y0) fun r K=>K (vs r) [] [] :=
 zY call180 func180 u fun X=>zC<|qV .s u<|fun b1=>zA 1 u<|zB<|zC<|zN 0 u<|zT 0 u u u<|yP fun x1 h1=>jv (fun h=>zS7 h u u h1)<|
  xN .s (e := vK) 9 [vs [115, 116, 114, 105, 99, 116], vs x1] ([[115, 116, 114, 105, 99, 116], x1] : List qD) (rC vS (rC vS rN))<|fun r_1 p2 c2=>zA 2 u<|zB<|
  wK (fun s1 K=>∀ p3 c3 r_2,K [1] [(1, []), (2, r_2)] [1,2] [(3, sv p3 s1.1 c3), (4, vs s1.2)] [Al vK 9 r_2 p3 c3 s1.1]) (zC<|zN 1 u<|zT 0 u u u<|zA 1 u<|zB<|zJ u (xB [] [0] 9<|qY 0 0 u u<|wI 1 0 u u u u<|
  qY 2 2 u u<|wI 3 0 u u u u<|qH 4<|zX (.f u) [] [] zMo u u u (cq [2])<|fun r1 _ k=>k<|qB<|yP fun x2 h2=>xS 5 u (fun h=>zS7 h u u h2)<|qH 6<|
  xN (.f u) (e := vK) 9 [vs [114, 117, 108, 101], vs y0.1, vs x2] ([[114, 117, 108, 101], y0.1, x2] : List qD) (rC vS (rC vS (rC vS rN)))<|fun r_3 p4 c4=>qB<|qA 0 [7,8] u<|wA<|zM (gv (fun _ k=>k p4 c4 r_3) [0,901,2] (gq [0,2,3]))
  )<|wF<|zM (gv (fun _ k=>k p2 c2 r_1) [0,901,1] (gq [0,1,2])))<|fun s1 _ k p3 c3 r_2=>k<|wK (fun s2 K=>∀ p5 c5 r_4,K [1,4] [(2, r_4)] [1,2] [(3, sv p5 s2 c5)] [Al vK 9 r_4 p5 c5 s2]) (zC<|zN 3 u<|zT 0 u u u<|zA 2 u<|zB<|
  zR<|qR (fun s3 K=>∀ p6 c6 r_5,K [1,4,23,24] [(2, r_5)] [1,2] [(3, sv p6 s3.1 c6), (25, vi s3.2)] [Al vK 9 r_5 p6 c6 s3.1]) (gv (fun _ k=>k p3 c3 r_2) [0,901,2] (gq [0,1,2]))<|fun s3 _ k p6 c6 r_5=>k<|jA 1 u<|zD<|zJ u (jC<|zD<|
  zR<|zC<|zA 1 u<|qX 1 u u u<|fun x3 b2 o1=>qW true yI (gk 0) u<|wN .s (.agg #[vb false, vs []])<|fun b3=>zA 1 u<|qJ .s 3 u u u<|zB<|zC<|qS 3 2 u u u<|qI zIo u d<|fun r2 _ k=>k<|
  zA 1 u<|zB<|wK (fun s4 K=>K [1,3,4,23,24,25] [(3, [])] [1,2,3] [(7, vs s4)] []) (zC<|zA 1 u<|zN 3 u<|zT 0 u u u<|zA 3 u<|zB<|zJ u (qM<|zA 1 u<|yP fun x4 h3=>jv (fun h=>zS7 h u u h3)<|zA 1 u<|zV<|
  zM (gv kk [0,901,2,903] (gq [1,2,3])))<|wF<|zM (gv kk [0,901,2,903] (gq [1,2,3])))<|fun s4 _ k=>k<|qM<|zA 2 u<|wT .s (e := vK) 9 [vs s4] ([s4] : List qD) (rC vS rN)<|fun p7 c7=>wM .s 2 1 u (gk 0) u u<|
  fun x5 r_6 p8 c8=>zA 1 u<|zV<|qF<|zP<|jB 2 u<|qG (gv (fun _ k=>k p8 c8 r_6) [0,901,2] (gq [0,3,4])))<|qO<|qN<|qQ<|qP<|zM (gv (fun _ k=>k p6 c6 r_5) [0,901,2] (gq [0,1,2])))<|fun s2 _ k p5 c5 r_4=>k<|zC<|zA 2 u<|zN 4 u<|
  qS 0 2 u u u<|qI zIo u d<|fun r3 _ k=>k<|wT .s (e := vK) 9 [vs s1.2, vs r3] ([s1.2, r3] : List qD) (rC vS (rC vS rN))<|fun p9 c9=>wM .s 2 1 u (gk 0) u u<|fun x6 r_7 p10 c10=>
  zX .s [] [2] zQ3 u u u ⟨cl 2 0,d⟩<|fun r4 _ k=>k<|zA 1 u<|zB<|zH<|zQ u u kk [] d
theorem zCF {qd : Prop} {y0 : zAX} : qC qd prog 176 [pt b1 0] [bx b1 171 (zCr y0 p1 c1)] [Rl vK p1 c1 y0.1] (zBh y0) fun r K=>∀ p2 c2,K (vs r.1) [bx b1 171 [sv p2 r.2.1 c2, vb r.2.2]] [Rl vK p2 c2 r.2.1] :=
 zY call176 func176 u fun X=>jA 1 u<|zD<|zC<|zA 2 u<|zN 0 u<|zT 0 u u u<|zA 2 u<|zB<|zJ u (zC<|zA 2 u<|zN 1 u<|qJ .s 0 u u u<|zB<|jA 1 u<|zH<|zZ<|zQ u u (fun _ k=>k p1 c1) [0] (gq [0]))<|jC<|zC<|zA 2 u<|zN 0 u<|
  zT 0 u u u<|qX 0 u u u<|fun x1 b2 o1=>qW false oS (gk 0) u<|zA 1 u<|zB<|zC<|zA 3 u<|zN 0 u<|zT 0 u u u<|jsl (gk 1) u u u (.inr ⟨_, rfl⟩) (.inl ⟨rfl, rfl⟩)<|fun x2 p2 c2=>zA 1 u<|zN 0 u<|
  qJ .s 0 u u u<|zB<|jA 2 u<|zH<|zQ u u (fun _ k=>k p2 c2) [0] (gq [0])
theorem zTn {qd : Prop} {y0 : qD} : qC qd prog 308 [vs y0] [] [] (zJ1 y0) fun r K=>K (.tuple #[.agg #[vb r.1.1, vs r.1.2], vi r.2]) [] [] :=
 zY call308 func308 u fun X=>zC<|wN .s (.agg #[vb false, vs []])<|fun b1=>zA 1 u<|zB<|zC<|wN .s (.agg #[vb false, vs []])<|fun b2=>zB<|wK (fun s1 K=>K [2,4] [(1, bx b2 66 [vb s1.2, vs []])] [] [(0, vs s1.1)] []) (
  wK (fun s2 K=>K [0,2,4] [] [] [(12, vb s2)] []) (qM<|zA 4 u<|wL 8 u (zA 1 u<|yP fun x1 h1=>jv (fun h=>zKn h u u underlying9 h1)<|zA 1 u<|zL (vb (x1 == 126))<|zV<|zM (gv kk [0,1] d))<|zA 3 u<|
  zL (vb false)<|zV<|zM (gv kk [0,1] d))<|fun s2 _ k=>k<|zJ u (zC<|zN 0 u<|qJ .s 1 u u u<|zB<|qM<|zA 1 u<|yP fun x2 h2=>jv (fun h=>zTt h u underlying9 u u (.inr ⟨_, rfl⟩) (.inl ⟨rfl, rfl⟩) h2)<|
  zA 1 u<|zV<|zM (gv kk [0,1] d))<|wF<|zM (gv kk [0,1] d))<|fun s1 _ k=>k<|zC<|zA 1 u<|zN 1 u<|qJ .s 1 u u u<|zB<|zD<|zC<|qS 1 2 u u u<|qI zFf u d<|fun r1 _ k=>k<|
  zA 1 u<|zB<|zJ u (zC<|zL (.agg #[vb false, vs []])<|qJ .s 0 u u u<|zA 1 u<|zB<|zH<|zZ<|wG u (lC 0 (.agg #[vb false, vs []]) u u (lT u lN)) kk [] d)<|jC<|zC<|qS 1 2 u u u<|
  qJ .s 0 u u u<|zA 1 u<|zB<|zH<|wG u (lC 0 (.agg #[vb s1.2, vs s1.1]) u u (lT u lN)) kk [] d
theorem zJz {qd : Prop} {y0 : qD} {y1 : qD} : qC qd prog 359 [vs y0, vs y1] [] [] (zFG y0 y1) fun r K=>K (vb r) [] [] :=
 zY call359 func359 u fun X=>jA 1 u<|jjn (fun s1 K=>K [(4, vb s1)] [] []) (qM<|zA 6 u<|wL 10 u (zA 6 u<|yP fun x1 h1=>jv (fun h=>zTt h u underlying9 u u (.inr ⟨_, rfl⟩) (.inl ⟨rfl, rfl⟩) h1)<|zA 2 u<|zL (vb (x1 == y1))<|zA 1 u<|zV<|
  zM (gv kk [] d))<|zA 9 u<|zL (vb false)<|zA 1 u<|zV<|zM (gv kk [] d))<|fun s1 _ k=>k<|zH<|zQ u u kk [] d
theorem zJu {qd : Prop} {y0 : qD} {y1 : qD} : qC qd prog 338 [vs y0, vs y1] [] [] (zFJ y0 y1) fun r K=>K (.tuple #[vs r.1, vb r.2]) [] [] :=
 zY call338 func338 u fun X=>jA 2 u<|zD<|zC<|zA 2 u<|qI zJz u d<|fun r1 _ k=>k<|zA 1 u<|zB<|zJ u (jA 3 u<|zH<|zZ<|wG u (lT u (lT u lN)) kk [] d)<|jC<|zC<|zA 6 u<|yP fun x1 h1=>
  jv (fun h=>zTt h u underlying9 u u (.inl ⟨rfl, rfl⟩) (.inr ⟨_, rfl⟩) h1)<|zA 2 u<|zB<|zH<|wG u (lT u (lT u lN)) kk [] d
theorem zIv {qd : Prop} {y0 : qD} {y1 : qD} : qC qd prog 307 [vs y0, vs y1] [] [] (zGE y0 y1) fun r K=>K (.tuple #[vs r.1, vb r.2]) [] [] :=
 zY call307 func307 u fun X=>jA 2 u<|zC<|zA 2 u<|qI zJu u d<|fun r1 _ k=>k<|zA 4 u<|zB<|zH<|wG u (lT u (lT u lN)) kk [] d
theorem zD1 {qd : Prop} {y0 : zAX} {y1 : qD} : qC qd prog 249 [pt b1 0, vs y1] [bx b1 171 (zCr y0 p1 c1)] [Rl vK p1 c1 y0.1] (zBc y0 y1) fun r K=>∀ p2 c2,K (.agg #[vb r.1.1, vs r.1.2]) [bx b1 171 [sv p2 r.2.1 c2, vb r.2.2]] [Rl vK p2 c2 r.2.1] :=
 zY call249 func249 u fun X=>zC<|wN .s (.agg #[vb false, vs []])<|fun b2=>zB<|zC<|zA 1 u<|zX .s [0] [] zCF u u u (cq [0])<|fun r1 _ k p2 c2=>k<|zA 1 u<|qI zIv u d<|fun r2 _ k=>k<|zA 5 u<|zB<|zC<|zA 1 u<|
  qI zTn u d<|fun r3 _ k=>k<|zA 3 u<|wN .s (.agg #[vb false, vs []])<|fun b3=>qJ .s 2 u u u<|zA 1 u<|zB<|wK (fun s1 K=>K [4,7] [(0, bx b1 171 [sv p2 r1.2.1 c2, vb s1])] [0] [] []) (qM<|zA 3 u<|zN 1 u<|
  zT 0 u u u<|zA 1 u<|wL 26 u (zA 2 u<|zL (vb true)<|zA 3 u<|zL (vb true)<|zA 1 u<|zN 1 u<|qJ .s 0 u u u<|zV<|zM (gv kk [0,1,2] (gq [0])))<|zA 2 u<|zL (vb (!r2.2))<|zA 1 u<|wL 30 u (
  zA 2 u<|zL (vb true)<|zA 1 u<|zN 1 u<|qJ .s 0 u u u<|zV<|zM (gv kk [0,1,2] (gq [0])))<|zA 2 u<|zL (vb (r3.2 != 0))<|zA 1 u<|zN 1 u<|qJ .s 0 u u u<|zV<|zM (gv kk [0,1,2] (gq [0])))<|
  fun s1 _ k=>k<|zC<|qS 2 2 u u u<|qJ .s 1 u u u<|zB<|zH<|wG u (lC 1 (.agg #[vb r3.1.1, vs r3.1.2]) u u lN) (fun _ k=>k p2 c2) [0] (gq [0])
theorem zEi {qd : Prop} {y0 : zAX} {y1 : qD} : qC qd prog 251 [pt b1 0, vs y1] [bx b1 171 (zCr y0 p1 c1)] [Rl vK p1 c1 y0.1] (zCK y0 y1) fun r K=>∀ p2 c2,K (vs r.1) [bx b1 171 [sv p2 r.2.1 c2, vb r.2.2]] [Rl vK p2 c2 r.2.1] :=
 zY call251 func251 u fun X=>jA 1 u<|zC<|zA 1 u<|zX .s [0] [] zCF u u u (cq [0])<|fun r1 _ k p2 c2=>k<|zA 1 u<|qI zIv u d<|fun r2 _ k=>k<|zA 5 u<|zB<|
  wK (fun s1 K=>K [5] [(0, bx b1 171 [sv p2 r1.2.1 c2, vb s1])] [0] [] []) (qM<|zA 3 u<|zN 1 u<|zT 0 u u u<|zA 1 u<|wL 19 u (zA 2 u<|zL (vb true)<|zA 4 u<|zL (vb true)<|zA 1 u<|zN 1 u<|
  qJ .s 0 u u u<|zV<|zM (gv kk [0] (gq [0])))<|zA 2 u<|zL (vb (!r2.2))<|zA 1 u<|wL 23 u (zA 3 u<|zL (vb true)<|zA 1 u<|zN 1 u<|qJ .s 0 u u u<|zV<|zM (gv kk [0] (gq [0])))<|zA 1 u<|
  qI zGF u d<|fun r3 _ k=>k<|zA 1 u<|zL (vb (!r3))<|zA 1 u<|zN 1 u<|qJ .s 0 u u u<|zV<|zM (gv kk [0] (gq [0])))<|fun s1 _ k=>k<|jA 2 u<|zH<|zQ u u (fun _ k=>k p2 c2) [0] (gq [0])
theorem zHn {qd : Prop} {y0 : zAX} {y1 : qD} : qC qd prog 250 [pt b1 0, vs y1] [bx b1 171 (zCr y0 p1 c1)] [Rl vK p1 c1 y0.1] (zEq y0 y1) fun r K=>∀ p2 c2,K (vi r.1) [bx b1 171 [sv p2 r.2.1 c2, vb r.2.2]] [Rl vK p2 c2 r.2.1] :=
 zY call250 func250 u fun X=>jA 1 u<|zC<|zA 1 u<|zX .s [0] [] zCF u u u (cq [0])<|fun r1 _ k p2 c2=>k<|zA 1 u<|qI zIv u d<|fun r2 _ k=>k<|zA 5 u<|zB<|zD<|wK (fun s1 K=>K [0,5] [] [0] [(30, vb s1)] []) (qM<|
  zA 3 u<|wL 16 u (zA 3 u<|zL (vb true)<|zA 4 u<|zL (vb true)<|zA 4 u<|zL (vb true)<|zV<|zM (gv kk [0] (gq [0])))<|zA 3 u<|zL (vb ((len r2.1) != 1))<|zA 1 u<|wL 21 u (zA 3 u<|zL (vb true)<|
  zA 4 u<|zL (vb true)<|zV<|zM (gv kk [0] (gq [0])))<|zA 1 u<|yP fun x1 h1=>jv (fun h=>zKn h u u underlying9 h1)<|zA 1 u<|zL (vb (decide (x1 < 48)))<|zA 1 u<|wL 26 u (zA 3 u<|zL (vb true)<|zV<|
  zM (gv kk [0] (gq [0])))<|zA 1 u<|yP fun x2 h2=>jv (fun h=>zKn h u u underlying9 h2)<|zA 1 u<|zL (vb (decide (57 < x2)))<|zV<|zM (gv kk [0] (gq [0])))<|fun s1 _ k=>k<|zJ u (zC<|zA 2 u<|
  zN 1 u<|qJ .s 0 u u u<|zB<|jA 1 u<|zH<|zZ<|zQ u u (fun _ k=>k p2 c2) [0] (gq [0]))<|jC<|zC<|zA 1 u<|yP fun x3 h3=>jv (fun h=>zKn h u u underlying9 h3)<|zA 1 u<|
  zL (vi (zS (IntKind.u8.wrap (x3 - 48))))<|zA 1 u<|zB<|zH<|zQ u u (fun _ k=>k p2 c2) [0] (gq [0])
theorem zNi {qd : Prop} {y0 : zAX} {y1 : Int} : qC qd prog 177 [pt b1 0, vi y1] [bx b1 171 (zCr y0 p1 c1)] [Rl vK p1 c1 y0.1] (zDT y0 y1) fun r K=>∀ p2 c2,K (.agg #[vb r.1.1.1, vs r.1.1.2, vi r.1.2.1, vi r.1.2.2.1, vs r.1.2.2.2]) [bx b1 171 [sv p2 r.2.1 c2, vb r.2.2]] [Rl vK p2 c2 r.2.1] :=
 zY call177 func177 u fun X=>zC<|wN .s (.agg #[vb false, vs [], vi 0, vi 0, vs []])<|fun b2=>zB<|zC<|zA 2 u<|zX .s [0] [] zD1 u u u (cq [0])<|fun r1 _ k p2 c2=>k<|zL (.agg #[vb r1.1.1, vs r1.1.2, vi y1, vi 0, vs []])<|
  wN .s (.agg #[vb false, vs [], vi 0, vi 0, vs []])<|fun b3=>qJ .s 2 u u u<|zB<|
  wK (fun s1 K=>∀ p3 c3,K [0,4,5] [(0, bx b1 171 [sv p3 s1.1 c3, vb s1.2.1]), (2, bx b3 90 [vb r1.1.1, vs r1.1.2, vi y1, vi s1.2.2, vs []])] [] [] [Rl vK p3 c3 s1.1]) (jA 2 u<|zJ u (qM<|zA 1 u<|
  zX .s [0] [] zHn u u u (cq [0])<|fun r2 _ k p4 c4=>k<|zN 3 u<|qJ .s 2 u u u<|zV<|zM (gv (fun _ k=>k p4 c4) [0,1,2] (gq [0])))<|wF<|zM (gv (fun _ k=>k p2 c2) [0,1,2] (gq [0])))<|fun s1 _ k p3 c3=>k<|
  wK (fun s2 K=>∀ p5 c5,K [4,5] [(0, bx b1 171 [sv p5 s2.1 c5, vb s2.2.1]), (2, bx b3 90 [vb r1.1.1, vs r1.1.2, vi y1, vi s1.2.2, vs s2.2.2])] [] [] [Rl vK p5 c5 s2.1]) (zC<|zA 2 u<|zN 0 u<|zT 0 u u u<|zA 2 u<|zB<|
  zJ u (wK (fun s3 K=>∀ p6 c6,K [0,4,5] [(0, bx b1 171 [sv p6 s3.1 c6, vb s3.2])] [] [] [Rl vK p6 c6 s3.1]) (qM<|zA 3 u<|zN 1 u<|zT 0 u u u<|zA 1 u<|wL 26 u (zA 3 u<|zL (vb true)<|zA 1 u<|zN 1 u<|
  qJ .s 0 u u u<|zV<|zM (gv (fun _ k=>k p3 c3) [0,1,2] (gq [0])))<|zA 1 u<|zX .s [0] [] zCF u u u (cq [0])<|fun r3 _ k p7 c7=>k<|zA 1 u<|zL (vb (!(r3.1 == [102, 114, 111, 109])))<|zA 1 u<|
  zN 1 u<|qJ .s 0 u u u<|zV<|zM (gv (fun _ k=>k p7 c7) [0,1,2] (gq [0])))<|fun s3 _ k p6 c6=>k<|qM<|zA 1 u<|zX .s [0] [] zEi u u u (cq [0])<|fun r4 _ k p8 c8=>k<|zN 4 u<|qJ .s 2 u u u<|zV<|
  zM (gv (fun _ k=>k p8 c8) [0,1,2] (gq [0])))<|wF<|zM (gv (fun _ k=>k p3 c3) [0,1,2] (gq [0])))<|fun s2 _ k p5 c5=>k<|zC<|qS 2 5 u u u<|qJ .s 1 u u u<|zB<|zH<|
  wG u (lC 1 (.agg #[vb r1.1.1, vs r1.1.2, vi y1, vi s1.2.2, vs s2.2.2]) u u lN) (fun _ k=>k p5 c5) [0] (gq [0])
theorem zMM {qd : Prop} {y0 : zAX} : qC qd prog 181 [pt b1 0] [bx b1 171 (zCr y0 p1 c1)] [Rl vK p1 c1 y0.1] (zCt y0) fun r K=>∀ p2 c2,K (.agg #[vs r.1.1, vi r.1.2.1, vb r.1.2.2.1, vs r.1.2.2.2]) [bx b1 171 [sv p2 r.2.1 c2, vb r.2.2]] [Rl vK p2 c2 r.2.1] :=
 zY call181 func181 u fun X=>zC<|wN .s (.agg #[vs [], vi 0, vb false, vs []])<|fun b2=>zB<|zC<|zA 1 u<|zX .s [0] [] zEi u u u (cq [0])<|fun r1 _ k p2 c2=>k<|zA 1 u<|zX .s [0] [] zHn u u u (cq [0])<|
  fun r2 _ k p3 c3=>k<|zL (.agg #[vs r1.1, vi r2.1, vb false, vs []])<|wN .s (.agg #[vs [], vi 0, vb false, vs []])<|fun b3=>qJ .s 2 u u u<|zB<|
  wK (fun s1 K=>∀ p4 c4,K [0,2,3] [(0, bx b1 171 [sv p4 s1.1 c4, vb s1.2])] [] [] [Rl vK p4 c4 s1.1]) (qM<|zA 3 u<|zN 1 u<|zT 0 u u u<|zA 1 u<|wL 14 u (zA 3 u<|zL (vb true)<|zA 1 u<|zN 1 u<|
  qJ .s 0 u u u<|zV<|zM (gv (fun _ k=>k p3 c3) [0,1,2] (gq [0])))<|zA 1 u<|zX .s [0] [] zCF u u u (cq [0])<|fun r3 _ k p5 c5=>k<|zA 1 u<|zL (vb (!(r3.1 == [105, 102])))<|zA 1 u<|zN 1 u<|
  qJ .s 0 u u u<|zV<|zM (gv (fun _ k=>k p5 c5) [0,1,2] (gq [0])))<|fun s1 _ k p4 c4=>k<|zC<|zA 1 u<|zX .s [0] [] zD1 u u u (cq [0])<|fun r4 _ k p6 c6=>k<|zN 2 u<|qJ .s 2 u u u<|zB<|zC<|
  qS 2 4 u u u<|qJ .s 1 u u u<|zB<|zH<|wG u (lC 1 (.agg #[vs r1.1, vi r2.1, vb r4.1.1, vs r4.1.2]) u u lN) (fun _ k=>k p6 c6) [0] (gq [0])
theorem zP2 {qd : Prop} {y0 : zAX} {y1 : Bool} : qC qd prog 179 [pt b1 0, vb y1] [bx b1 171 (zCr y0 p1 c1)] [Rl vK p1 c1 y0.1] (zEa y0 y1) fun r K=>∀ p2 c2 p3 c3,K (.agg (zOv r.1 p2 c2).toArray) [bx b1 171 [sv p3 r.2.1 c3, vb r.2.2]] (zRz r.1 p2 c2 [Rl vK p3 c3 r.2.1]) :=
 zY call179 func179 u fun X=>zC<|wN .s (.agg #[vs [], vb false, vi 0, .slice none 0 0, vb false, vs []])<|fun b2=>zB<|zC<|zA 1 u<|zL (.agg #[vs [], vb y1, vi 0, .slice none 0 0, vb false, vs []])<|vJ wO 66<|
  wN .s (.agg #[vs [], vb false, vi 0, .slice none 0 0, vb false, vs []])<|fun b3=>qJ .s 3 u u u<|zB<|jA 1 u<|
  wK (fun s1 K=>∀ p2 c2,K [0,4,5] [(0, bx b1 171 [sv p2 s1.2.1 c2, vb s1.2.2.1]), (3, bx b3 95 [vs s1.2.2.2.1, vb y1, vi s1.2.2.2.2, sv none ([] : List zG) 0, vb false, vs []])] [0] [(6, vs s1.1)] [Rl vK p2 c2 s1.2.1]) (jA 1 u<|
  zJ u (qM<|zA 1 u<|zX .s [0] [] zEi u u u (cq [1])<|fun r1 _ k p3 c3=>k<|zN 0 u<|qJ .s 3 u u u<|zV<|zM (gv (fun _ k=>k p3 c3) [0,1,2,3] (gq [0,1])))<|qM<|zA 1 u<|
  zX .s [0] [] zEi u u u (cq [1])<|fun r2 _ k p4 c4=>k<|zA 1 u<|zX .s [0] [] zHn u u u (cq [0])<|fun r3 _ k p5 c5=>k<|zN 0 u<|qJ .s 3 u u u<|zN 2 u<|qJ .s 3 u u u<|
  zA 1 u<|zV<|zM (gv (fun _ k=>k p5 c5) [0,1,2,3] (gq [0,2])))<|fun s1 _ k p2 c2=>k<|
  wK (fun s2 K=>∀ p6 c6 p7 c7 r_1,K [0,4,5,6] [(0, bx b1 171 [sv p6 s2.1 c6, vb s2.2.1]), (2, r_1), (3, bx b3 95 [vs s1.2.2.2.1, vb y1, vi s1.2.2.2.2, sv p7 s2.2.2 c7, vb false, vs []])] [] [] [Rl vK p6 c6 s2.1, Al wO 66 r_1 p7 c7 s2.2.2]) (
  zR<|
  qR (fun s3 K=>∀ p8 c8 p9 c9 r_2,K [0,4,5,6] [(0, bx b1 171 [sv p8 s3.1 c8, vb s3.2.1]), (2, r_2), (3, bx b3 95 [vs s1.2.2.2.1, vb y1, vi s1.2.2.2.2, sv p9 s3.2.2 c9, vb false, vs []])] [] [] [Rl vK p8 c8 s3.1, Al wO 66 r_2 p9 c9 s3.2.2]) (gv (fun _ k=>k p2 c2 none 0 []) [0,1,2,3] (gq [0,1]))<|
  fun s3 _ k p8 c8 p9 c9 r_2=>k<|zD<|tK (fun K=>K [0,4,5,6] [] [0,1] [(32, vb ((decide (2 < (len s3.1))) && (!s3.2.1)))] []) (qM<|zA 2 u<|zN 0 u<|zT 0 u u u<|zA 3 u<|uF (b := decide (2 < (len s3.1))) 26 u (fun hb1=>
  zA 2 u<|zN 1 u<|zT 0 u u u<|zA 1 u<|zL (vb (!s3.2.1))<|zV<|wX 32 (vb ((decide (2 < (len s3.1))) && (!s3.2.1))) u (by rw [hb1]; rfl)<|zM (gv kk [0,1,2,3] (gq [0,1])))<|fun hb1=>zA 5 u<|zL (vb false)<|zV<|
  wX 32 (vb ((decide (2 < (len s3.1))) && (!s3.2.1))) u (by rw [hb1]; rfl)<|zM (gv kk [0,1,2,3] (gq [0,1])))<|fun _ k=>k<|zJ u (jC<|zR<|jA 1 u<|wK (fun s4 K=>K [0,4,5,6] [] [0,1] [(7, vs s4)] []) (zC<|zA 2 u<|
  zN 0 u<|zT 0 u u u<|zA 2 u<|zB<|zJ u (jB 1 u<|zM (gv kk [0,1,2,3] (gq [0,1])))<|wF<|zM (gv kk [0,1,2,3] (gq [0,1])))<|fun s4 _ k=>k<|xB [8] [3] 9<|qY 0 3 u u<|wI 1 3 u u u u<|
  qA 5 [2,3] u<|qH 4<|zX (.f u) [0] [] zD1 u u u (cq [0])<|fun r4 _ k p10 c10=>k<|qB<|qH 5<|wT (.f u) (e := wO) 66 [vb r4.1.1, vs r4.1.2] ([r4.1] : List zG) (rC (vP vB vS) rN)<|
  fun p11 c11=>qB<|qH 6<|wM (.f u) 2 3 u (gk 0) u u<|fun x1 r_3 p12 c12=>qB<|qY 7 3 u u<|qH 8<|qJ (o := 3) (.f u) 3 u u u<|jdb [] [3]<|wA<|qF<|qG (gv (fun _ k=>k p10 c10 p12 c12 r_3) [0,1,2,3] (gq [2,0])))<|qO<|
  qN<|qQ<|qP<|zM (gv (fun _ k=>k p8 c8 p9 c9 r_2) [0,1,2,3] (gq [0,1])))<|fun s2 _ k p6 c6 p7 c7 r_1=>k<|wK (fun s5 K=>∀ p13 c13,K [0,4,5] [(0, bx b1 171 [sv p13 s5.1 c13, vb s5.2])] [1] [] [Rl vK p13 c13 s5.1]) (qM<|zA 3 u<|
  zN 1 u<|zT 0 u u u<|zA 1 u<|wL 52 u (zA 4 u<|zL (vb true)<|zA 1 u<|zN 1 u<|qJ .s 0 u u u<|zV<|zM (gv (fun _ k=>k p6 c6) [0,1,2,3] (gq [0,1])))<|zA 1 u<|
  zX .s [0] [] zCF u u u (cq [0])<|fun r5 _ k p14 c14=>k<|zA 2 u<|zL (vb (!(r5.1 == s1.1)))<|zA 1 u<|zN 1 u<|qJ .s 0 u u u<|zV<|zM (gv (fun _ k=>k p14 c14) [0,1,2,3] (gq [0,2])))<|
  fun s5 _ k p13 c13=>k<|zC<|zA 1 u<|zX .s [0] [] zD1 u u u (cq [0])<|fun r6 _ k p15 c15=>k<|zN 4 u<|qJ .s 3 u u u<|zB<|zC<|qS 3 6 u u u<|qJ .s 1 u u u<|zB<|zH<|wY 2 2 u u<|
  wG u (lC 1 (.agg #[vs s1.2.2.2.1, vb y1, vi s1.2.2.2.2, sv p7 s2.2.2 c7, vb r6.1.1, vs r6.1.2]) u u lN) (fun _ k=>k p7 c7 p15 c15) [0] (gq [0,1])
theorem zQH {y0 : zAX} {y1 : zO} : qC False prog 114 [pt b1 0, pt b2 0] [bx b1 171 (zCr y0 p1 c1), bx b2 29 [sv p2 y1.1 c2, sv p3 y1.2.1 c3, sv p4 y1.2.2 c4], r_1, r_2, r_3] [Rl vK p1 c1 y0.1, Al xU 90 r_1 p2 c2 y1.1, Al yO 95 r_2 p3 c3 y1.2.1, Al xI 97 r_3 p4 c4 y1.2.2, Pt (yH 4 vK) 1 0 zBS, Tb prog "internal/strconv.uint64pow10" .u64 Lib.pow10Tab] (zFY y0 y1) fun r K=>∀ p5 c5 p6 c6 r_4 p7 c7 r_5 p8 c8 r_6,K (.tuple #[vi r.1, vs r.2.1]) [bx b1 171 [sv p5 r.2.2.1 c5, vb r.2.2.2.1], bx b2 29 [sv p6 r.2.2.2.2.1 c6, sv p7 r.2.2.2.2.2.1 c7, sv p8 r.2.2.2.2.2.2 c8], r_4, r_5, r_6] [Rl vK p5 c5 r.2.2.1, Al xU 90 r_4 p6 c6 r.2.2.2.2.1, Al yO 95 r_5 p7 c7 r.2.2.2.2.2.1, Al xI 97 r_6 p8 c8 r.2.2.2.2.2.2] :=
 zY call114 func114 u fun X=>jA 2 u<|zD<|zC<|zA 1 u<|zX .s [0] [] zCF u u u (cq [0])<|fun r1 _ k p5 c5=>k<|zA 1 u<|zB<|jA 1 u<|zR<|wK (fun s1 K=>K [0,1,6,15] [] [0,2,3,4,5,6] [(16, vb s1)] []) (jA 2 u<|zJ u (wF<|
  zM (gv kk [0,1,2,3,4] (gq [0,2,3,4,5,6])))<|jA 2 u<|zJ u (wF<|zM (gv kk [0,1,2,3,4] (gq [0,2,3,4,5,6])))<|jB 2 u<|zM (gv kk [0,1,2,3,4] (gq [0,2,3,4,5,6])))<|fun s1 _ k=>k<|zJ u (jA 1 u<|
  wK (fun s2 K=>K [0,1] [] [0,1,2,3,4,5] [(7, vi s2)] []) (zC<|jlT (vs) (fun _ _ _ _ h=>h) (gk 4) u<|zA 1 u<|zB<|zR<|
  qR (fun s3 K=>K [0,1,6,20] [] [0,1,2,3,4,5] [(7, vi s3.1), (21, vi s3.2)] []) (gv kk [0,1,2,3,4] (gq [0,1,2,3,4,5]))<|fun s3 _ k=>k<|jA 1 u<|zD<|zJ u (jC<|zD<|zR<|zC<|zA 1 u<|yP fun x1 h1=>
  jv (fun h=>r_aidx (l := zBS) (vs) h u u u underlying214 u (by kernel_rfl) h1)<|zA 2 u<|zB<|jA 3 u<|zJ u (jB 2 u<|qF<|zP<|jB 2 u<|qG (gv kk [0,1,2,3,4] (gq [0,1,2,3,4,5])))<|wF<|qF<|
  zP<|jB 2 u<|qG (gv kk [0,1,2,3,4] (gq [0,1,2,3,4,5])))<|qO<|qN<|qQ<|qP<|zM (gv kk [0,1,2,3,4] (gq [0,1,2,3,4,5])))<|fun s2 _ k=>k<|zC<|zA 2 u<|zX .s [0] [] zNi u u u (cq [0])<|
  fun r2 _ k p6 c6=>k<|wN .s (.agg #[vb false, vs [], vi 0, vi 0, vs []])<|fun b3=>qJ .s 5 u u u<|zB<|yA [10] [1, 5] 11<|qA 8 [0,1,2] u<|qY 3 0 u u<|wI 4 1 u u u u<|vM 5 5 5 u u u u<|qH 6<|
  wT (.f u) (e := xU) 90 [vb r2.1.1.1, vs r2.1.1.2, vi r2.1.2.1, vi r2.1.2.2.1, vs r2.1.2.2.2] ([r2.1] : List vT) (rC (vP (vP vB vS) (vP vI (vP vI vS))) rN)<|fun p7 c7=>qB<|qH 7<|wM (.f u) 2 3 u (gk 0) u u<|
  fun x2 r_4 p8 c8=>qB<|qA 2 [8] u<|qY 9 0 u u<|qH 10<|qJ (o := 0) (.f u) 1 u u u<|jdb [] [1, 5]<|wA<|zP<|zC<|qS 5 5 u u u<|qI zOb u (cq [7,8])<|fun r3 _ k=>k<|zA 2 u<|zB<|zH<|qK<|zZ<|
  wG u (lT u (lT u lN)) (fun _ k=>k p6 c6 p8 c8 r_4 p3 c3 r_2 p4 c4 r_3) [0,1,2,3,4] (gq [2,0,5,6]))<|wK (fun s4 K=>K [0,1,6,15] [] [0,1,2,3,4,5] [(45, vb s4)] []) (jA 2 u<|zJ u (wF<|
  zM (gv kk [0,1,2,3,4] (gq [0,1,2,3,4,5])))<|jB 2 u<|zM (gv kk [0,1,2,3,4] (gq [0,1,2,3,4,5])))<|fun s4 _ k=>k<|zJ u (zC<|zA 3 u<|zX .s [0] [] zP2 u u u (cq [0])<|
  fun r4 _ k p9 c9 p10 c10=>k<|wN .s (.agg #[vs [], vb false, vi 0, .slice none 0 0, vb false, vs []])<|fun b4=>qJ .s 5 u u u<|zB<|yA [10] [1, 5] 11<|qA 8 [0,1,2] u<|qY 3 1 u u<|wI 4 1 u u u u<|
  vM 5 5 6 u u u u<|qH 6<|
  wT (.f u) (e := yO) 95 [vs r4.1.1, vb r4.1.2.1, vi r4.1.2.2.1, sv p9 r4.1.2.2.2.1 c9, vb r4.1.2.2.2.2.1, vs r4.1.2.2.2.2.2] ([r4.1] : List qL) (rC (vP vS (vP vB (vP vI (vP (vL (gk 0)) (vP vB vS))))) rN)<|fun p11 c11=>qB<|qH 7<|
  wM (.f u) 3 5 u (gk 0) u u<|fun x3 r_5 p12 c12=>qB<|qA 2 [8] u<|qY 9 1 u u<|qH 10<|qJ (o := 1) (.f u) 1 u u u<|jdb [] [1, 5]<|wA<|zP<|zC<|qS 5 6 u u u<|qI zQz u (cq [2,9])<|
  fun r5 _ k=>k<|zA 2 u<|zB<|zH<|qK<|zZ<|wG u (lT u (lT u lN)) (fun _ k=>k p10 c10 p2 c2 r_1 p12 c12 r_5 p4 c4 r_3) [0,1,2,3,4] (gq [3,5,0,7]))<|jA 2 u<|zJ u (zC<|zA 1 u<|
  zX .s [0] [] zMM u u u (cq [0])<|fun r6 _ k p13 c13=>k<|wN .s (.agg #[vs [], vi 0, vb false, vs []])<|fun b5=>qJ .s 5 u u u<|zB<|yA [10] [1, 5] 11<|qA 8 [0,1,2] u<|qY 3 2 u u<|
  wI 4 1 u u u u<|vM 5 5 4 u u u u<|qH 6<|wT (.f u) (e := xI) 97 [vs r6.1.1, vi r6.1.2.1, vb r6.1.2.2.1, vs r6.1.2.2.2] ([r6.1] : List vQ) (rC (vP vS (vP vI (vP vB vS))) rN)<|fun p14 c14=>qB<|qH 7<|
  wM (.f u) 4 5 u (gk 0) u u<|fun x4 r_6 p15 c15=>qB<|qA 2 [8] u<|qY 9 2 u u<|qH 10<|qJ (o := 2) (.f u) 1 u u u<|jdb [] [1, 5]<|wA<|zP<|zC<|qS 5 4 u u u<|qI zN9 u (cq [8])<|
  fun r7 _ k=>k<|zA 2 u<|zB<|zH<|qK<|zZ<|wG u (lT u (lT u lN)) (fun _ k=>k p13 c13 p2 c2 r_1 p3 c3 r_2 p15 c15 r_6) [0,1,2,3,4] (gq [2,4,5,0]))<|wF<|qF<|zP<|jA 2 u<|zH<|
  wG u (lT u (lT u lN)) (fun _ k=>k p5 c5 p2 c2 r_1 p3 c3 r_2 p4 c4 r_3) [0,1,2,3,4] (gq [0,1,2,3])
theorem zL4 {qd : Prop} {y0 : qD} {y1 : qD} : qC qd prog 247 [vs y0, vs y1] [] [] (zHR y0 y1) fun r K=>K (vi r) [] [] := z0p Go.Proofs.Tryz.lays219 call247
theorem zMV {qd : Prop} {y0 : qD} {y1 : qD} : qC qd prog 173 [vs y0, vs y1] [] [] (zIU y0 y1) fun r K=>K (.tuple #[vs r.1, vs r.2.1, vb r.2.2]) [] [] :=
 zY call173 func173 u fun X=>jA 3 u<|zD<|zC<|zA 2 u<|qI zL4 u d<|fun r1 _ k=>k<|zA 1 u<|zB<|jA 2 u<|zJ u (yA [] [] 12<|qA 10 [0,1] u<|yP fun x1 h1=>
  xS 2 u (fun h=>zTt h u underlying9 u u (.inl ⟨rfl, rfl⟩) (.inr ⟨_, rfl⟩) h1)<|qA 4 [3,4,5,6,7] u<|yP fun x2 h2=>xS 8 u (fun h=>zTt h u underlying9 u u (.inr ⟨_, rfl⟩) (.inl ⟨rfl, rfl⟩) h2)<|
  qA 0 [9,10,11] u<|wA<|zP<|zH<|zZ<|wG u (lT u (lT u (lT u lN))) kk [] d)<|jC<|jA 4 u<|zH<|wG u (lT u (lT u (lT u lN))) kk [] d
theorem zW3 {qd : Prop} {y0 : qD} {y1 : qD} : qC qd prog 112 [vs y0, vs y1] [] [] (zRV y0 y1) fun r K=>K (.tuple #[vs r.1, vs r.2.1, vb r.2.2]) [] [] :=
 zY call112 func112 u fun X=>jA 3 u<|zC<|zA 2 u<|qI zMV u d<|fun r1 _ k=>k<|zA 6 u<|zB<|zH<|wG u (lT u (lT u (lT u lN))) kk [] d
theorem zTK {y0 : qD} : qC False prog 113 [vs y0] [] [Tb prog "strings.asciiSpace" .u8 Lib.asciiSpaceTab, Wt 2] (zO2 y0) fun r K=>∀ p1 c1,K (sv p1 r c1) [] [Rl vK p1 c1 r] := z0o Go.Proofs.Tryz.lays157 (by kernel_rfl) (by kernel_rfl) (by kernel_rfl) call113
theorem zTU {y0 : qD} : qC False prog 47 [vs y0] [] [Tb prog "strings.asciiSpace" .u8 Lib.asciiSpaceTab, Pt (yH 4 vK) 1 0 zBS, Wt 2, Tb prog "internal/strconv.uint64pow10" .u64 Lib.pow10Tab] (zIr y0) fun r K=>∀ p1 c1 p2 c2 p3 c3,K (.tuple #[.agg (vN r.1 p1 c1 p2 c2 p3 c3).toArray, vi r.2.1, vi r.2.2]) [] (vV r.1 p1 c1 p2 c2 p3 c3 []) :=
 zY call47 func47 u fun X=>zC<|wN .s (.agg #[.slice none 0 0, .slice none 0 0, .slice none 0 0])<|fun b1=>zA 2 u<|zB<|zD<|jA 3 u<|zJ u (zC<|zL (.agg #[.slice none 0 0, .slice none 0 0, .slice none 0 0])<|qJ .s 0 u u u<|zA 2 u<|zB<|zH<|zZ<|
  wG u (lC 0 (.agg #[.slice none 0 0, .slice none 0 0, .slice none 0 0]) u u (lT u (lT u lN))) (fun _ k=>k none 0 none 0 none 0) [] ⟨gn,gn,gn,d⟩)<|jC<|zC<|wN .s (.agg #[.slice none 0 0, .slice none 0 0, .slice none 0 0])<|
  fun b2=>vJ xU 90<|vJ yO 95<|vJ xI 97<|zB<|jA 1 u<|
  zYy (fun s1 K=>∀ p1 c1 r_1 p2 c2 r_2 p3 c3 r_3,K [2,5] [(1, bx b2 29 [sv p1 s1.1 c1, sv p2 s1.2.1 c2, sv p3 s1.2.2 c3]), (2, r_1), (3, r_2), (4, r_3)] [3,4,5,6] [] [Al xU 90 r_1 p1 c1 s1.1, Al yO 95 r_2 p2 c2 s1.2.1, Al xI 97 r_3 p3 c3 s1.2.2]) (
  jA 1 u<|zR<|
  qR (fun s2 K=>∀ p4 c4 r_4 p5 c5 r_5 p6 c6 r_6,K [2,5] [(1, bx b2 29 [sv p4 s2.2.2.2.1 c4, sv p5 s2.2.2.2.2.1 c5, sv p6 s2.2.2.2.2.2 c6]), (2, r_4), (3, r_5), (4, r_6)] [3,4,5,6] [(0, vs s2.1), (6, vi s2.2.1), (7, vi s2.2.2.1)] [Al xU 90 r_4 p4 c4 s2.2.2.2.1, Al yO 95 r_5 p5 c5 s2.2.2.2.2.1, Al xI 97 r_6 p6 c6 s2.2.2.2.2.2]) (gv (fun _ k=>k none 0 [] none 0 [] none 0 []) [0,1,2,3,4] (gq [2,1,0,3,4,5,6]))<|
  fun s2 _ k p4 c4 r_4 p5 c5 r_5 p6 c6 r_6=>k<|zD<|jA 2 u<|zJ u (jC<|zD<|zR<|zC<|zA 1 u<|qI zW3 u d<|fun r1 _ k=>k<|zA 7 u<|zB<|zC<|zA 1 u<|qI zTK u (cq [3,5])<|fun r2 _ k p7 c7=>k<|
  zL (.agg #[sv p7 r2 c7, vb false])<|qV .s u<|fun b3=>zA 1 u<|zB<|zC<|zA 1 u<|zX .s [5, 1, 2, 3, 4] [] zQH u u u (cq [0,1,2,3,5,7])<|fun r3 _ k p8 c8 p9 c9 r_7 p10 c10 r_8 p11 c11 r_9=>k<|zA 5 u<|zB<|
  zD<|tK (fun K=>K [2,5,7,9,12] [(5, [])] [1,2,3,8,9,10,11] [(63, vb ((!r1.2.2) || (r3.2.2.2.1 || ((decide (0 < (len r3.2.2.1))) || ((!(r3.2.1 == r1.1)) || (decide (r3.1 < s2.2.1)))))))] []) (qM<|zA 3 u<|
  uF (b := !r1.2.2) 40 u (fun hb1=>zA 4 u<|zL (vb true)<|zA 7 u<|zL (vb true)<|zA 4 u<|zL (vb true)<|zA 4 u<|zL (vb true)<|zV<|
  wX 63 (vb ((!r1.2.2) || (r3.2.2.2.1 || ((decide (0 < (len r3.2.2.1))) || ((!(r3.2.1 == r1.1)) || (decide (r3.1 < s2.2.1))))))) u (by rw [hb1]; rfl)<|zM (gv kk [0,1,2,3,4,905] (gq [1,2,3,8,9,10,11])))<|fun hb1=>zA 2 u<|
  zN 1 u<|zT 5 u u u<|zL (vb r3.2.2.2.1)<|zA 1 u<|uF (b := r3.2.2.2.1) 46 u (fun hb2=>zA 6 u<|zL (vb true)<|zA 4 u<|zL (vb true)<|zA 4 u<|zL (vb true)<|zV<|
  wX 63 (vb ((!r1.2.2) || (r3.2.2.2.1 || ((decide (0 < (len r3.2.2.1))) || ((!(r3.2.1 == r1.1)) || (decide (r3.1 < s2.2.1))))))) u (by rw [hb1,hb2]; rfl)<|zM (gv kk [0,1,2,3,4,905] (gq [1,2,3,8,9,10,11])))<|fun hb2=>zA 2 u<|
  zN 0 u<|zT 5 u u u<|zA 2 u<|zL (vb (decide (0 < (len r3.2.2.1))))<|zA 1 u<|uF (b := decide (0 < (len r3.2.2.1))) 54 u (fun hb3=>zA 3 u<|zL (vb true)<|zA 4 u<|zL (vb true)<|zV<|
  wX 63 (vb ((!r1.2.2) || (r3.2.2.2.1 || ((decide (0 < (len r3.2.2.1))) || ((!(r3.2.1 == r1.1)) || (decide (r3.1 < s2.2.1))))))) u (by rw [hb1,hb2,hb3]; rfl)<|zM (gv kk [0,1,2,3,4,905] (gq [1,2,3,8,9,10,11])))<|fun hb3=>
  zA 3 u<|zL (vb (!(r3.2.1 == r1.1)))<|zA 1 u<|uF (b := !(r3.2.1 == r1.1)) 59 u (fun hb4=>zA 3 u<|zL (vb true)<|zV<|
  wX 63 (vb ((!r1.2.2) || (r3.2.2.2.1 || ((decide (0 < (len r3.2.2.1))) || ((!(r3.2.1 == r1.1)) || (decide (r3.1 < s2.2.1))))))) u (by rw [hb1,hb2,hb3,hb4]; rfl)<|zM (gv kk [0,1,2,3,4,905] (gq [1,2,3,8,9,10,11])))<|fun hb4=>
  zA 3 u<|zL (vb (decide (r3.1 < s2.2.1)))<|zV<|wX 63 (vb ((!r1.2.2) || (r3.2.2.2.1 || ((decide (0 < (len r3.2.2.1))) || ((!(r3.2.1 == r1.1)) || (decide (r3.1 < s2.2.1))))))) u (by rw [hb1,hb2,hb3,hb4]; rfl)<|
  zM (gv kk [0,1,2,3,4,905] (gq [1,2,3,8,9,10,11])))<|fun _ k=>k<|zJ u (zC<|zL (.agg #[.slice none 0 0, .slice none 0 0, .slice none 0 0])<|zA 1 u<|qJ .s 0 u u u<|zA 2 u<|zB<|zH<|zZ<|qK<|zZ<|wQ<|qK<|wQ<|
  wG u (lC 0 (.agg #[.slice none 0 0, .slice none 0 0, .slice none 0 0]) u u (lT u (lT u lN))) (fun _ k=>k none 0 none 0 none 0) [] ⟨gn,gn,gn,d⟩)<|jC<|jB 4 u<|qF<|zP<|jB 3 u<|
  qG (gv (fun _ k=>k p9 c9 r_7 p10 c10 r_8 p11 c11 r_9) [0,1,2,3,4] (gq [0,1,2,3,4,5,6])))<|qO<|qN<|qQ<|qP<|qG (gv (fun _ k=>k p4 c4 r_4 p5 c5 r_5 p6 c6 r_6) [0,1,2,3,4] (gq [0,1,2,3,4,5,6])))<|fun s1 _ k p1 c1 r_1 p2 c2 r_2 p3 c3 r_3=>
  k<|zD<|zC<|qS 1 3 u u u<|zX .s [] [2, 3, 4] zMJ u u u ⟨cl 2 0,cl 3 1,cl 4 2,d⟩<|fun r4 _ k=>k<|zA 1 u<|zB<|jA 2 u<|zJ u (zC<|zL (.agg #[.slice none 0 0, .slice none 0 0, .slice none 0 0])<|
  zA 1 u<|qJ .s 0 u u u<|zA 2 u<|zB<|zH<|zZ<|wG u (lC 0 (.agg #[.slice none 0 0, .slice none 0 0, .slice none 0 0]) u u (lT u (lT u lN))) (fun _ k=>k none 0 none 0 none 0) [] ⟨gn,gn,gn,d⟩)<|jC<|zC<|
  qS 1 3 u u u<|qJ .s 0 u u u<|zA 2 u<|zB<|zH<|wY 2 0 u u<|wY 3 2 u u<|wY 4 4 u u<|
  wG u (lC 0 (.agg #[sv p1 s1.1 c1, sv p2 s1.2.1 c2, sv p3 s1.2.2 c3]) u u (lT u (lT u lN))) (fun _ k=>k p1 c1 p2 c2 p3 c3) [] (gq [2,1,0])
theorem zPM {y0 : qD} : qC False prog 16 [vs y0] [] [Tb prog "strings.asciiSpace" .u8 Lib.asciiSpaceTab, Pt (yH 4 vK) 1 0 zBS, Wt 2, Tb prog "internal/strconv.uint64pow10" .u64 Lib.pow10Tab] (zJL y0) fun r K=>∀ p1 c1 p2 c2 p3 c3,K (.agg (vN r p1 c1 p2 c2 p3 c3).toArray) [] (vV r p1 c1 p2 c2 p3 c3 []) :=
 zY call16 func16 u fun X=>zC<|wN .s (.agg #[.slice none 0 0, .slice none 0 0, .slice none 0 0])<|fun b1=>zB<|zC<|zA 1 u<|qI zTU u (cq [0,1,2,3])<|fun r1 _ k p1 c1 p2 c2 p3 c3=>k<|zA 4 u<|
  wN .s (.agg #[.slice none 0 0, .slice none 0 0, .slice none 0 0])<|fun b2=>qJ .s 1 u u u<|zA 2 u<|zB<|zC<|qS 1 3 u u u<|qJ .s 0 u u u<|zB<|zH<|
  wG u (lC 0 (.agg (vN r1.1 p1 c1 p2 c2 p3 c3).toArray) u u lN) (fun _ k=>k p1 c1 p2 c2 p3 c3) [] (gq [0,1,2])
theorem zR9 : qC False prog 6 [] [] [Tb prog "strings.asciiSpace" .u8 Lib.asciiSpaceTab, Pt (yH 4 vK) 1 0 zBS, Wt 2, Pt (yH 64 (zK .u8)) 4 0 yW, Tb prog "internal/strconv.uint64pow10" .u64 Lib.pow10Tab] (zE9) fun r K=>K (vb r) [] [] :=
 zY call6 func6 u fun X=>jA 1 u<|zC<|zL (.agg #[vi 1, vi 1])<|wN .s (.agg #[vi 0, vi 0])<|fun b1=>qJ .s 0 u u u<|zB<|yA [] [0] 8<|vM 1 0 2 u u u u<|qH 0<|zX (.f u) [] [] zPM u u u (cq [0,1,2,4])<|
  fun r1 _ k p1 c1 p2 c2 p3 c3=>k<|qB<|qH 2<|zX (.f u) [] [] zLJ u u u (cq [0,1,2,6])<|fun r2 _ k p4 c4=>k<|qB<|qA 0 [3,4,5,6,7] u<|wA<|zP<|yA [] [0] 8<|vM 1 0 2 u u u u<|qH 0<|
  zX (.f u) [] [] zPM u u u (cq [4,5,6,8])<|fun r3 _ k p5 c5 p6 c6 p7 c7=>k<|qB<|qH 2<|zX (.f u) [] [] zLJ u u u (cq [0,1,2,10])<|fun r4 _ k p8 c8=>k<|qB<|qA 0 [3,4,5,6,7] u<|wA<|zP<|
  yA [] [0] 8<|vM 1 0 2 u u u u<|qH 0<|zX (.f u) [] [] zPM u u u (cq [8,9,10,12])<|fun r5 _ k p9 c9 p10 c10 p11 c11=>k<|qB<|qH 2<|zX (.f u) [] [] zLJ u u u (cq [0,1,2,14])<|
  fun r6 _ k p12 c12=>k<|qB<|qA 0 [3,4,5,6,7] u<|wA<|zP<|wK (fun s1 K=>K [] [(0, [])] [12,13,14,15,16] [(0, vb s1)] []) (qM<|zA 2 u<|wL 28 u (zA 3 u<|zL (vb ((len r2.1) == 1))<|zA 1 u<|wL 33 u (zA 1 u<|
  qX 8 u u u<|fun x1 b2 o1=>qW true yI (gk 0) u<|zL (.agg #[vb true, vs [112]])<|zL (vb (x1 == (true, [112])))<|zL (vb (x1 == (true, [112])))<|zA 1 u<|wL 40 u (zA 1 u<|zL (vb r4.2)<|zA 1 u<|wL 43 u (
  zA 3 u<|zL (vb ((len r4.1) == 2))<|zA 1 u<|wL 48 u (zA 1 u<|qX 5 u u u<|fun x2 b3 o2=>qW true yI (gk 0) u<|zL (.agg #[vb true, vs [113]])<|zL (vb (x2 == (true, [113])))<|zL (vb (x2 == (true, [113])))<|
  zA 1 u<|wL 55 u (zA 1 u<|zL (vb r6.2)<|zA 1 u<|wL 58 u (zA 3 u<|zL (vb ((len r6.1) == 0))<|zA 1 u<|zV<|zM (gv kk [900] (gq [14,15,16,17,18])))<|zA 3 u<|zL (vb false)<|zA 1 u<|zV<|
  zM (gv kk [900] (gq [14,15,16,17,18])))<|zA 1 u<|zL (vb false)<|zA 4 u<|zL (vb false)<|zA 1 u<|zV<|zM (gv kk [900] (gq [14,15,16,17,18])))<|zA 5 u<|zL (vb false)<|zA 2 u<|zL (vb false)<|zA 4 u<|
  zL (vb false)<|zA 1 u<|zV<|zM (gv kk [900] (gq [13,14,15,16,17])))<|zA 3 u<|zL (vb false)<|zA 6 u<|zL (vb false)<|zA 2 u<|zL (vb false)<|zA 4 u<|zL (vb false)<|zA 1 u<|zV<|
  zM (gv kk [900] (gq [13,14,15,16,17])))<|zA 1 u<|zL (vb false)<|zA 4 u<|zL (vb false)<|zA 6 u<|zL (vb false)<|zA 2 u<|zL (vb false)<|zA 4 u<|zL (vb false)<|zA 1 u<|zV<|
  zM (gv kk [900] (gq [13,14,15,16,17])))<|zA 5 u<|zL (vb false)<|zA 2 u<|zL (vb false)<|zA 4 u<|zL (vb false)<|zA 6 u<|zL (vb false)<|zA 2 u<|zL (vb false)<|zA 4 u<|zL (vb false)<|zA 1 u<|zV<|
  zM (gv kk [900] (gq [12,13,14,15,16])))<|zA 3 u<|zL (vb false)<|zA 6 u<|zL (vb false)<|zA 2 u<|zL (vb false)<|zA 4 u<|zL (vb false)<|zA 6 u<|zL (vb false)<|zA 2 u<|zL (vb false)<|zA 4 u<|
  zL (vb false)<|zA 1 u<|zV<|zM (gv kk [900] (gq [12,13,14,15,16])))<|fun s1 _ k=>k<|zH<|zQ u u kk [] d
theorem zVX {qd : Prop} {y0 : Int} {y1 : Int} : qC qd prog 88 [vi y0, vi y1] [] [] (zLc y0 y1) fun r K=>K (vi r) [] [] :=
 zY call88 func88 u fun X=>jA 1 u<|zD<|jA 2 u<|zJ u (jA 1 u<|zH<|zZ<|zQ u u kk [] d)<|jC<|zC<|zA 2 u<|yP fun x1 h1=>jv (fun h=>z2Y h u u h1)<|zA 1 u<|zB<|zD<|jA 2 u<|zJ u (jB 4 u<|zP<|jA 2 u<|zH<|
  zQ u u kk [] d)<|jC<|jA 2 u<|zH<|zQ u u kk [] d
theorem zPQ {qd : Prop} {y0 : Int} : qC qd prog 31 [vi y0] [] [] (zFc y0) fun r K=>K (vs r) [] [] :=
 zY call31 func31 u fun X=>jA 1 u<|zC<|zA 1 u<|qI zVX u d<|fun r1 _ k=>k<|zA 1 u<|zL (.int .u8 (IntKind.u8.wrap (zS ((97 : Int) + r1))))<|
  wT .s (e := zK .u8) 5 [.int .u8 (IntKind.u8.wrap (zS ((97 : Int) + r1)))] ([IntKind.u8.wrap (zS ((97 : Int) + r1))] : List Int) (rC vI rN)<|fun p1 c1=>jsb .s (gk 0) u underlying150 underlying5 underlying9<|yP fun x1 h1=>
  jv (fun h=>zS7 h u u h1)<|zA 1 u<|zB<|zH<|zQ u u kk [] d
theorem zUv {qd : Prop} {y0 : uO} : qC qd prog 89 [pt b1 0] [bx b1 54 (zIC y0 p1 c1)] (zHz y0 p1 c1 []) (zK3 y0) fun r K=>K (vi r.1) [bx b1 54 [sv p1 y0.1 c1, vi r.2]] [] :=
 zY call89 func89 u fun X=>jA 1 u<|zD<|yA [] [0] 10<|qA 8 [0,1] u<|qY 2 1 u u<|wI 3 0 u u u u<|qA 4 [4,5] u<|qY 6 0 u u<|wI 7 0 u u u u<|qA 0 [8,9] u<|wA<|zP<|zJ u (jA 1 u<|zH<|zZ<|zQ u u kk [0] d)<|
  jC<|zC<|zA 2 u<|zN 1 u<|zT 0 u u u<|zA 2 u<|zN 1 u<|qJ .s 0 u u u<|zB<|yA [] [0] 12<|qA 10 [0,1] u<|qY 2 0 u u<|wI 3 0 u u u u<|qA 6 [4,5] u<|qY 6 1 u u<|wI 7 0 u u u u<|
  qA 3 [8] u<|uJ 9 0 u u u u<|fun x1 b2 o1=>uI 10 false oI u (gk 0) u<|qA 0 [11] u<|wA<|zP<|zH<|zQ u u kk [0] d
theorem zBw {qd : Prop} {y0 : uO} {y1 : Int} : qC qd prog 27 [pt b1 0, vi y1] [bx b1 54 (zIC y0 p1 c1)] (zHz y0 p1 c1 []) (tF y0 y1) fun r K=>K (vi r.1) [bx b1 54 [sv p1 y0.1 c1, vi r.2]] [] :=
 zY call27 func27 u fun X=>jA 1 u<|zC<|zA 1 u<|zX .s [0] [] zUv u u u (cq [0])<|fun r1 _ k=>k<|zA 1 u<|qI zVX u d<|fun r2 _ k=>k<|zA 1 u<|zB<|zH<|zQ u u kk [0] d
theorem zHN {qd : Prop} {y0 : uO} {y1 : Int} : qC qd prog 28 [pt b1 0, vi y1] [bx b1 54 (zIC y0 p1 c1)] (zHz y0 p1 c1 []) (zCm y0 y1) fun r K=>K (.agg #[vb r.1.1, vs r.1.2]) [bx b1 54 [sv p1 y0.1 c1, vi r.2]] [] :=
 zY call28 func28 u fun X=>zC<|wN .s (.agg #[vb false, vs []])<|fun b2=>zB<|zC<|zA 3 u<|zX .s [0] [] zBw u u u (cq [0])<|fun r1 _ k=>k<|zA 1 u<|zB<|zC<|zA 4 u<|yP fun x1 h1=>jv (fun h=>z5e h u u h1)<|zA 1 u<|
  zL (.int .u8 (IntKind.u8.wrap (zS ((97 : Int) + x1))))<|wT .s (e := zK .u8) 5 [.int .u8 (IntKind.u8.wrap (zS ((97 : Int) + x1)))] ([IntKind.u8.wrap (zS ((97 : Int) + x1))] : List Int) (rC vI rN)<|fun p2 c2=>
  jsb .s (gk 0) u underlying150 underlying5 underlying9<|zL (.agg #[vb ((yE .i64 r1.1 1) == 1), vs (zTJ ([IntKind.u8.wrap (zS ((97 : Int) + x1))] : List Int))])<|qJ .s 1 u u u<|zB<|zH<|
  wG u (lC 1 (.agg #[vb ((yE .i64 r1.1 1) == 1), vs (zTJ ([IntKind.u8.wrap (zS ((97 : Int) + x1))] : List Int))]) u u lN) kk [0] d
theorem zQc {qd : Prop} {y0 : uO} {y1 : Int} {y2 : Int} : qC qd prog 33 [pt b1 0, vi y1, vi y2] [bx b1 54 (zIC y0 p1 c1)] (zHz y0 p1 c1 []) (zGS y0 y1 y2) fun r K=>∀ p2 c2,K (sv p2 r.1 c2) [bx b1 54 [sv p1 y0.1 c1, vi r.2]] [Rl wO p2 c2 r.1] :=
 zY call33 func33 u fun X=>jA 1 u<|zC<|zA 1 u<|vJ wO 66<|zB<|zD<|zC<|zA 3 u<|zX .s [0] [] zBw u u u (cq [1])<|fun r1 _ k=>k<|zA 1 u<|zB<|zR<|
  qR (fun s1 K=>∀ p2 c2 r_1,K [0,2] [(0, bx b1 54 [sv p1 y0.1 c1, vi s1.2.2]), (1, r_1)] [1] [(7, sv p2 s1.1 c2), (8, vi s1.2.1)] [Al wO 66 r_1 p2 c2 s1.1]) (gv (fun _ k=>k none 0 []) [0,1] (gq [0,1]))<|fun s1 _ k p2 c2 r_1=>k<|zD<|
  jA 2 u<|zJ u (jC<|zD<|zR<|qM<|zA 3 u<|zX .s [0] [] zHN u u u (cq [1])<|fun r2 _ k=>k<|wT .s (e := wO) 66 [vb r2.1.1, vs r2.1.2] ([r2.1] : List zG) (rC (vP vB vS) rN)<|fun p3 c3=>
  wM .s 1 1 u (gk 0) u u<|fun x1 r_2 p4 c4=>zA 1 u<|zV<|qF<|zP<|jB 3 u<|qG (gv (fun _ k=>k p4 c4 r_2) [0,1] (gq [0,3])))<|qO<|qN<|qQ<|qP<|zP<|jA 2 u<|zH<|wY 1 0 u u<|zQ u u (fun _ k=>k p2 c2) [0] (gq [0])
theorem zU8 {qd : Prop} {y0 : uO} {y1 : List Int} : qC qd prog 29 [pt b1 0, sv p2 y1 c2] [bx b1 54 (zIC y0 p1 c1)] (zHz y0 p1 c1 [Rl (zK .i64) p2 c2 y1]) (zJm y0 y1) fun r K=>K (vi r.1) [bx b1 54 [sv p1 y0.1 c1, vi r.2]] [] :=
 zY call29 func29 u fun X=>jA 1 u<|zC<|zA 4 u<|zX .s [0] [] zBw u u u (cq [0])<|fun r1 _ k=>k<|qX 1 u u u<|fun x1 b2 o1=>qW false oI (gk 0) u<|zA 1 u<|zB<|zH<|zQ u u kk [0] d
theorem zUX {qd : Prop} {y0 : uO} {y1 : List qD} : qC qd prog 30 [pt b1 0, sv p2 y1 c2] [bx b1 54 (zIC y0 p1 c1)] (zHz y0 p1 c1 [Rl vK p2 c2 y1]) (zJn y0 y1) fun r K=>K (vs r.1) [bx b1 54 [sv p1 y0.1 c1, vi r.2]] [] :=
 zY call30 func30 u fun X=>jA 1 u<|zC<|zA 4 u<|zX .s [0] [] zBw u u u (cq [0])<|fun r1 _ k=>k<|qX 1 u u u<|fun x1 b2 o1=>qW false oS (gk 0) u<|zA 1 u<|zB<|zH<|zQ u u kk [0] d
theorem zVw {qd : Prop} {y0 : List zG} : qC qd prog 32 [sv p1 y0 c1] [] [Rl wO p1 c1 y0] (zLZ y0) fun r K=>∀ p2 c2,K (sv p2 r c2) [] [Rl wO p2 c2 r] :=
 zY call32 func32 u fun X=>jA 1 u<|zC<|zA 1 u<|vJ wO 66<|zB<|zD<|jA 3 u<|zR<|qR (fun s1 K=>∀ p2 c2 r_1,K [7,8] [(0, r_1)] [1] [(3, sv p2 s1.1 c2), (9, vi s1.2)] [Al wO 66 r_1 p2 c2 s1.1]) (gv (fun _ k=>k none 0 []) [0] (gq [0,1]))<|
  fun s1 _ k p2 c2 r_1=>k<|jA 1 u<|zD<|zJ u (jC<|zD<|zR<|zC<|qX 1 u u u<|fun x1 b1 o1=>qW true yI (gk 0) u<|wN .s (.agg #[vb false, vs []])<|fun b2=>qJ .s 1 u u u<|zB<|jA 1 u<|
  wK (fun s2 K=>K [3,5,7,8,9] [] [1,2] [(6, vi s2)] []) (zR<|qR (fun s3 K=>K [3,5,7,8,9] [] [1,2] [(6, vi s3)] []) (gv kk [0,1] (gq [1,2]))<|fun s3 _ k=>k<|zD<|wK (fun s4 K=>K [3,5,6,7,8,9] [] [0,1] [(48, vb s4)] []) (
  xB [] [0, 1] 36<|qA 31 [0,1,2,3,4] u<|wL 17 u (qA 29 [5,6] u<|jdI 7 0 u u u u<|fun x2 h1 b3 hp1=>qY 8 1 u u<|jdL 9 0 0 sI.snd false oS u u hp1 h1 u<|qY 10 1 u u<|wI 11 1 u u u u<|
  qA 22 [12,13] u<|wL 26 u (qA 2 [14,15,16,17,18,19,20,21,22,23,24,25,26,27,28,29,30,31,32,33] u<|wU 34 (vb true) u<|wU 35 (vb true) u<|wA<|zM (gv kk [0,1] (gq [0,1])))<|qA 20 [14,15] u<|
  jdI 16 0 u u u u<|fun x3 h2 b4 hp2=>qY 17 1 u u<|jdL 18 0 0 sI.snd false oS u u hp2 h2 u<|qY 19 1 u u<|wI 20 1 u u u u<|qA 13 [21,22] u<|wL 35 u (qA 11 [23,24] u<|jdI 25 0 u u u u<|
  fun x4 h3 b5 hp3=>qY 26 0 u u<|jdL 27 0 0 sI.fst false oB u u hp3 h3 u<|qA 7 [28] u<|wU 29 (vb (!x4.1)) u<|qA 5 [30] u<|wL 43 u (qY 31 0 u u<|wI 32 1 u u u u<|wU 33 (vb x1.1) u<|wU 34 (vb x1.1) u<|
  wU 35 (vb x1.1) u<|wA<|zM (gv kk [0,1] (gq [0,1])))<|qA 3 [31,32] u<|wU 33 (vb false) u<|wU 34 (vb false) u<|wU 35 (vb false) u<|wA<|zM (gv kk [0,1] (gq [0,1])))<|qA 7 [23,24,25,26,27,28] u<|
  wU 29 (vb false) u<|qA 3 [30,31,32] u<|wU 33 (vb false) u<|wU 34 (vb false) u<|wU 35 (vb false) u<|wA<|zM (gv kk [0,1] (gq [0,1])))<|
  qA 1 [5,6,7,8,9,10,11,12,13,14,15,16,17,18,19,20,21,22,23,24,25,26,27,28,29,30,31,32,33,34] u<|wU 35 (vb false) u<|wA<|zM (gv kk [0,1] (gq [0,1])))<|fun s4 _ k=>k<|zJ u (jC<|zR<|jB 3 u<|qF<|
  qG (gv kk [0,1] (gq [0,1])))<|qO<|qN<|qQ<|qP<|zM (gv kk [0,1] (gq [0,1])))<|fun s2 _ k=>k<|zD<|wK (fun s5 K=>K [3,5,6,7,8,9] [] [0,1] [(62, vb s5)] []) (xB [] [0, 1] 12<|qA 7 [0,1,2,3,4] u<|wL 55 u (
  qA 5 [5,6] u<|jdI 7 0 u u u u<|fun x5 h4 b6 hp4=>jdL 8 0 0 sI true yI u u hp4 h4 u<|vM 9 1 2 u u u u<|wU 10 (vb (x5 == x1)) u<|wU 11 (vb (x5 == x1)) u<|wA<|zM (gv kk [0,1] (gq [0,1])))<|
  qA 1 [5,6,7,8,9,10] u<|wU 11 (vb false) u<|wA<|zM (gv kk [0,1] (gq [0,1])))<|fun s5 _ k=>k<|zJ u (qO<|qN<|qP<|zP<|jB 2 u<|qG (gv (fun _ k=>k p2 c2 r_1) [0] (gq [0,1])))<|jC<|zC<|zA 1 u<|
  zL (.agg #[vb false, vs []])<|wT .s (e := wO) 66 [vb false, vs []] ([(false, [])] : List zG) (rC (vP vB vS) rN)<|fun p3 c3=>wM .s 0 1 u (gk 0) u u<|fun x6 r_2 p4 c4=>zA 1 u<|zB<|yA [] [] 8<|qA 5 [0,1,2] u<|
  jdV 3 0 u u u u<|fun u1 p5 c5 f1=>qA 2 [4,5] u<|jdV 6 0 u u u u<|fun u2 p6 c6 f2=>qH 7<|jcp (.f u) 0 0 u (vwV f1) (srV 0 0 f2 u) u u<|fun r_3=>qB<|wA<|zP<|qM<|zA 2 u<|qS 1 2 u u u<|
  tV 0 u u u<|fun x7 h6 b7 hp5=>jsA .s 0 0 sI x1 true u hp5 h6 u u (vP vB vS)<|fun r_4=>zV<|qF<|zP<|jB 2 u<|jrE 0 3 u u<|qG (gv (fun _ k=>k p4 c4 r_4) [0] (gq [0,6])))<|qO<|qN<|qQ<|qP<|zP<|jA 2 u<|zH<|
  wY 0 0 u u<|zQ u u (fun _ k=>k p2 c2) [] (gq [0])
theorem zUS {qd : Prop} {y0 : uO} {y1 : Int} {y2 : Int} {y3 : Int} : qC qd prog 11 [pt b1 0, vi y1, vi y2, vi y3] [bx b1 54 (zIC y0 p1 c1)] (zHz y0 p1 c1 []) (zJi y0 y1 y2 y3) fun r K=>∀ p2 c2 p3 c3 p4 c4,K (.agg (vN r.1 p2 c2 p3 c3 p4 c4).toArray) [bx b1 54 [sv p1 y0.1 c1, vi r.2]] (vV r.1 p2 c2 p3 c3 p4 c4 []) :=
 zY call11 func11 u fun X=>zC<|wN .s (.agg #[.slice none 0 0, .slice none 0 0, .slice none 0 0])<|fun b2=>zB<|zC<|wN .s (.agg #[.slice none 0 0, .slice none 0 0, .slice none 0 0])<|fun b3=>vJ xU 90<|vJ yO 95<|vJ xI 97<|zB<|
  wK (fun s1 K=>∀ p2 c2 r_1,K [0,1,3,8,9] [(0, bx b1 54 [sv p1 y0.1 c1, vi s1.1]), (2, bx b3 29 [sv p2 s1.2 c2, sv none ([] : List qL) 0, sv none ([] : List vQ) 0]), (3, r_1)] [3,1,0] [] [Al xU 90 r_1 p2 c2 s1.2]) (zC<|
  zA 3 u<|zX .s [0] [] zBw u u u (cq [3])<|fun r1 _ k=>k<|zA 1 u<|zB<|zR<|
  qR (fun s2 K=>∀ p3 c3 r_2,K [0,1,3,8,9] [(0, bx b1 54 [sv p1 y0.1 c1, vi s2.2.1]), (2, bx b3 29 [sv p3 s2.2.2 c3, sv none ([] : List qL) 0, sv none ([] : List vQ) 0]), (3, r_2)] [3,1,0] [(10, vi s2.1)] [Al xU 90 r_2 p3 c3 s2.2.2]) (gv (fun _ k=>k none 0 []) [0,1,2,3,4,5] (gq [2,3,1,0]))<|
  fun s2 _ k p3 c3 r_2=>k<|zD<|jA 2 u<|zJ u (jC<|zD<|zR<|zC<|zA 2 u<|zX .s [0] [] zHN u u u (cq [1])<|fun r2 _ k=>k<|zA 1 u<|
  wT .s (e := zK .i64) 3 [vi 1, vi 2, vi 2, vi 2, vi 3] ([1, 2, 2, 2, 3] : List Int) (rC vI (rC vI (rC vI (rC vI (rC vI rN)))))<|fun p4 c4=>zX .s [0] [] zU8 u u u (cq [2,0])<|fun r3 _ k=>k<|zA 1 u<|
  wT .s (e := vK) 9 [vs [], vs [], vs [97, 110, 110], vs [98, 111, 98]] ([[], [], [97, 110, 110], [98, 111, 98]] : List qD) (rC vS (rC vS (rC vS (rC vS rN))))<|fun p5 c5=>zX .s [0] [] zUX u u u (cq [3,0])<|fun r4 _ k=>
  k<|zL (.agg #[vb r2.1.1, vs r2.1.2, vi r3.1, vi 0, vs r4.1])<|wN .s (.agg #[vb false, vs [], vi 0, vi 0, vs []])<|fun b4=>qJ .s 6 u u u<|zB<|
  wK (fun s3 K=>K [0,1,3,8,9,10,11] [(0, bx b1 54 [sv p1 y0.1 c1, vi s3.1]), (6, bx b4 90 [vb r2.1.1, vs r2.1.2, vi r3.1, vi s3.2, vs r4.1])] [3,2,4,5] [] []) (zC<|zN 2 u<|zT 6 u u u<|zA 1 u<|zB<|zJ u (qM<|zA 1 u<|
  zX .s [0] [] zBw u u u (cq [3])<|fun r5 _ k=>k<|zN 3 u<|qJ .s 6 u u u<|zV<|zM (gv kk [0,1,2,3,4,5,6] (gq [3,2,4,5])))<|wF<|zM (gv kk [0,1,2,3,4,5,6] (gq [3,2,4,5])))<|fun s3 _ k=>k<|
  jA 1 u<|wK (fun s4 K=>K [0,1,3,8,9,10,11] [] [0,1,2,3] [(12, vb s4)] []) (zC<|zN 0 u<|zT 2 u u u<|zA 2 u<|zB<|zR<|
  qR (fun s5 K=>K [0,1,3,8,9,10,11,44,45] [] [1,0,2,3] [(12, vb s5.1), (46, vi s5.2)] []) (gv kk [0,1,2,3,4,5,6] (gq [1,0,2,3]))<|fun s5 _ k=>k<|jA 1 u<|zD<|zJ u (jC<|zD<|zR<|zC<|tV 0 u u u<|fun x1 h1 b5 hp1=>
  jlA 3 0 sI true zNM u hp1 h1 u<|wN .s (.agg #[vb false, vs [], vi 0, vi 0, vs []])<|fun b6=>qJ .s 7 u u u<|zB<|jjqK (fun K=>K [0,1,3,8,9,10,11,44,45,46] [(7, [])] [0,1,2,3] [(12, vb (s5.1 || (x1.1 == r2.1)))] []) (qM<|
  zA 2 u<|uF (b := s5.1) 51 u (fun hb1=>zA 5 u<|zL (vb true)<|zA 1 u<|zV<|wX 12 (vb (s5.1 || (x1.1 == r2.1))) u (by rw [hb1]; rfl)<|zM (gv kk [0,1,2,3,4,5,6,907] (gq [0,1,2,3])))<|fun hb1=>zN 0 u<|
  qS 7 2 u u u<|zN 0 u<|qS 6 2 u u u<|zL (vb (x1.1 == r2.1))<|zL (vb (x1.1 == r2.1))<|zA 1 u<|zV<|wX 12 (vb (s5.1 || (x1.1 == r2.1))) u (by rw [hb1]; rfl)<|zM (gv kk [0,1,2,3,4,5,6,907] (gq [0,1,2,3])))<|
  fun _ k=>k<|qF<|zP<|jB 2 u<|qG (gv kk [0,1,2,3,4,5,6] (gq [0,1,2,3])))<|qO<|qN<|qQ<|qP<|zM (gv kk [0,1,2,3,4,5,6] (gq [1,0,2,3])))<|fun s4 _ k=>k<|jA 2 u<|zJ u (qM<|zN 0 u<|zT 2 u u u<|
  qS 6 5 u u u<|wT .s (e := xU) 90 [vb r2.1.1, vs r2.1.2, vi r3.1, vi s3.2, vs r4.1] ([(r2.1, r3.1, s3.2, r4.1)] : List vT) (rC (vP (vP vB vS) (vP vI (vP vI vS))) rN)<|fun p6 c6=>wM .s 3 2 u (gk 0) u u<|
  fun x2 r_3 p7 c7=>zN 0 u<|qJ .s 2 u u u<|zV<|qF<|zP<|jB 3 u<|qG (gv (fun _ k=>k p7 c7 r_3) [0,1,2,3,4,5] (gq [0,2,4,5])))<|wF<|qF<|zP<|jB 3 u<|qG (gv (fun _ k=>k p3 c3 r_2) [0,1,2,3,4,5] (gq [1,0,2,3])))<|qO<|qN<|
  qQ<|qP<|zM (gv (fun _ k=>k p3 c3 r_2) [0,1,2,3,4,5] (gq [0,1,2,3])))<|fun s1 _ k p2 c2 r_1=>k<|
  wK (fun s6 K=>∀ p8 c8 r_4,K [0,1,8,9] [(0, bx b1 54 [sv p1 y0.1 c1, vi s6.1]), (2, bx b3 29 [sv p2 s1.2 c2, sv p8 s6.2 c8, sv none ([] : List vQ) 0]), (4, r_4)] [1,0,3] [] [Al yO 95 r_4 p8 c8 s6.2]) (zC<|zA 3 u<|
  zX .s [0] [] zBw u u u (cq [1])<|fun r6 _ k=>k<|zA 1 u<|zB<|zR<|
  qR (fun s7 K=>∀ p9 c9 r_5,K [0,1,3,8,9] [(0, bx b1 54 [sv p1 y0.1 c1, vi s7.2.1]), (2, bx b3 29 [sv p2 s1.2 c2, sv p9 s7.2.2 c9, sv none ([] : List vQ) 0]), (4, r_5)] [1,0,3] [(15, vi s7.1)] [Al yO 95 r_5 p9 c9 s7.2.2]) (gv (fun _ k=>k none 0 []) [0,1,2,3,4,5] (gq [2,1,0,3]))<|
  fun s7 _ k p9 c9 r_5=>k<|zD<|jA 2 u<|zJ u (jC<|zD<|zR<|zC<|zN 1 u<|zT 2 u u u<|zA 1 u<|qI zPQ u d<|fun r7 _ k=>k<|zA 1 u<|zX .s [0] [] zBw u u u (cq [1])<|fun r8 _ k=>k<|zA 3 u<|
  zX .s [0] [] zQc u u u (cq [1])<|fun r9 _ k p10 c10=>k<|qI zVw u (cq [0])<|fun r10 _ k p11 c11=>k<|zA 2 u<|zX .s [0] [] zHN u u u (cq [3])<|fun r11 _ k=>k<|
  zL (.agg #[vs r7, vb (r8.1 == 0), vi 0, sv p11 r10 c11, vb r11.1.1, vs r11.1.2])<|wN .s (.agg #[vs [], vb false, vi 0, .slice none 0 0, vb false, vs []])<|fun b7=>qJ .s 6 u u u<|zB<|
  wK (fun s8 K=>K [0,1,3,8,9,15,16] [(0, bx b1 54 [sv p1 y0.1 c1, vi s8.1]), (6, bx b7 95 [vs r7, vb (r8.1 == 0), vi s8.2, sv p11 r10 c11, vb r11.1.1, vs r11.1.2])] [3,4,2,5,0] [] []) (zC<|zN 1 u<|zT 6 u u u<|zA 1 u<|zB<|
  zJ u (qM<|zA 1 u<|zX .s [0] [] zBw u u u (cq [3])<|fun r12 _ k=>k<|zN 2 u<|qJ .s 6 u u u<|zV<|zM (gv kk [0,1,2,3,4,5,6] (gq [3,4,2,5,0])))<|wF<|
  zM (gv kk [0,1,2,3,4,5,6] (gq [3,4,2,5,0])))<|fun s8 _ k=>k<|
  wK (fun s9 K=>K [0,1,3,8,9,15,16] [(0, bx b1 54 [sv p1 y0.1 c1, vi s9.1]), (6, bx b7 95 [vs r7, vb (r8.1 == 0), vi s8.2, sv p11 r10 c11, vb s9.2.1, vs s9.2.2])] [0,1,2,3,4] [] []) (zC<|zA 1 u<|
  zX .s [0] [] zBw u u u (cq [0])<|fun r13 _ k=>k<|zA 1 u<|zB<|zJ u (qM<|zA 1 u<|zX .s [0] [] zBw u u u (cq [0])<|fun r14 _ k=>k<|zA 3 u<|zX .s [0] [] zBw u u u (cq [0])<|
  fun r15 _ k=>k<|qI zPQ u d<|fun r16 _ k=>k<|zL (.agg #[vb (decide (0 < r14.1)), vs r16])<|zN 4 u<|qJ .s 6 u u u<|zV<|zM (gv kk [0,1,2,3,4,5,6] (gq [0,1,2,3,4])))<|wF<|
  zM (gv kk [0,1,2,3,4,5,6] (gq [0,1,2,3,4])))<|fun s9 _ k=>k<|qM<|zN 1 u<|zT 2 u u u<|qS 6 6 u u u<|
  wT .s (e := yO) 95 [vs r7, vb (r8.1 == 0), vi s8.2, sv p11 r10 c11, vb s9.2.1, vs s9.2.2] ([(r7, r8.1 == 0, s8.2, r10, (s9.2.1, s9.2.2))] : List qL) (rC (vP vS (vP vB (vP vI (vP (vL (gk 4)) (vP vB vS))))) rN)<|fun p12 c12=>
  wM .s 4 3 u (gk 0) u u<|fun x3 r_6 p13 c13=>zN 1 u<|qJ .s 2 u u u<|zV<|qF<|zP<|jB 3 u<|qG (gv (fun _ k=>k p13 c13 r_6) [0,1,2,3,4,5] (gq [0,2,3,5])))<|qO<|qN<|qQ<|qP<|
  zM (gv (fun _ k=>k p9 c9 r_5) [0,1,2,3,4,5] (gq [0,1,2,3])))<|fun s6 _ k p8 c8 r_4=>k<|
  wK (fun s10 K=>∀ p14 c14 r_7,K [8,9] [(0, bx b1 54 [sv p1 y0.1 c1, vi s10.1]), (2, bx b3 29 [sv p2 s1.2 c2, sv p8 s6.2 c8, sv p14 s10.2 c14]), (5, r_7)] [1,2,0] [] [Al xI 97 r_7 p14 c14 s10.2]) (zC<|zA 1 u<|
  zX .s [0] [] zBw u u u (cq [1])<|fun r17 _ k=>k<|zA 1 u<|zB<|zR<|
  qR (fun s11 K=>∀ p15 c15 r_8,K [0,1,8,9] [(0, bx b1 54 [sv p1 y0.1 c1, vi s11.2.1]), (2, bx b3 29 [sv p2 s1.2 c2, sv p8 s6.2 c8, sv p15 s11.2.2 c15]), (5, r_8)] [1,2,0] [(17, vi s11.1)] [Al xI 97 r_8 p15 c15 s11.2.2]) (gv (fun _ k=>k none 0 []) [0,1,2,3,4,5] (gq [3,1,2,0]))<|
  fun s11 _ k p15 c15 r_8=>k<|zD<|tK (fun K=>K [0,1,8,9,17] [] [1,2,3,0] [(123, vb ((decide (0 < s11.1)) && (decide (0 < (len s6.2)))))] []) (qM<|zA 3 u<|uF (b := decide (0 < s11.1)) 118 u (fun hb2=>zN 1 u<|zT 2 u u u<|
  zA 2 u<|zL (vb (decide (0 < (len s6.2))))<|zV<|wX 123 (vb ((decide (0 < s11.1)) && (decide (0 < (len s6.2))))) u (by rw [hb2]; rfl)<|zM (gv kk [0,1,2,3,4,5] (gq [1,2,3,0])))<|fun hb2=>zA 4 u<|zL (vb false)<|zV<|
  wX 123 (vb ((decide (0 < s11.1)) && (decide (0 < (len s6.2))))) u (by rw [hb2]; rfl)<|zM (gv kk [0,1,2,3,4,5] (gq [1,2,3,0])))<|fun _ k=>k<|zJ u (jC<|zD<|zR<|
  wK (fun s12 K=>∀ b8 p16 c16,K [0,1,8,9,17] [(0, bx b1 54 [sv p1 y0.1 c1, vi s12.1]), (6, bx b8 95 (zOv s12.2 p16 c16))] [0,1,2,3] [(18, pt b8 0)] (zRz s12.2 p16 c16 [])) (xB [] [2, 4] 11<|qY 0 1 u u<|wI 1 2 u u u u<|
  qA 8 [2] u<|qY 3 1 u u<|wI 4 2 u u u u<|qA 5 [5] u<|jd2 6 9 (zX (.f u) [0] [] zBw u u u (cq [0])<|fun r18 _ k=>k<|qB<|jdI 7 2 u u u u<|fun x4 h4 b9 hp2=>
  jdL 8 4 2 sI true zM4 u u hp2 h4 u<|fun p17 c17=>qH 9<|wN (.f u) (.agg #[vs [], vb false, vi 0, .slice none 0 0, vb false, vs []])<|fun b10=>qB<|qH 10<|qJ (o := 0) (.f u) 6 u u u<|qB<|wA<|
  zM (gv (fun _ k=>k b10 p17 c17) [0,1,2,3,4,5,6] (gq [0,1,2,3,4]))) <|wN (.f u) (.agg #[vs [], vb false, vi 0, .slice none 0 0, vb false, vs []])<|fun b11=>qB<|qH 6<|zX (.f u) [0] [] zBw u u u (cq [0])<|fun r19 _ k=>
  k<|qB<|jdI 7 2 u u u u<|fun x5 h5 b12 hp3=>jdL 8 4 2 sI true zM4 u u hp3 h5 u<|fun p18 c18=>qH 10<|qJ (o := 0) (.f u) 6 u u u<|qB<|wA<|zM (gv (fun _ k=>k b11 p18 c18) [0,1,2,3,4,5,6] (gq [0,1,2,3,4])))<|
  fun s12 _ k b8 p16 c16=>k<|zC<|zN 1 u<|zT 6 u u u<|zA 1 u<|zB<|zJ u (xB [13] [2, 6] 14<|qY 0 2 u u<|wI 1 2 u u u u<|qY 2 0 u u<|wI 3 6 u u u u<|qA 7 [4,6,7] u<|qH 5<|
  zX (.f u) [0] [] zBw u u u (cq [1])<|fun r20 _ k=>k<|qB<|qH 8<|zX (.f u) [0] [] zHN u u u (cq [1])<|fun r21 _ k=>k<|qB<|wU 9 (.agg #[vs s12.2.1, vi r20.1, vb r21.1.1, vs r21.1.2]) u<|qH 10<|
  wT (.f u) (e := xI) 97 [vs s12.2.1, vi r20.1, vb r21.1.1, vs r21.1.2] ([(s12.2.1, r20.1, r21.1)] : List vQ) (rC (vP vS (vP vI (vP vB vS))) rN)<|fun p19 c19=>qB<|qH 11<|wM (.f u) 5 5 u (gk 0) u u<|
  fun x6 r_9 p20 c20=>qB<|qY 12 2 u u<|qH 13<|qJ (o := 2) (.f u) 2 u u u<|jdb [] [2, 6]<|wA<|qF<|zP<|jB 3 u<|qG (gv (fun _ k=>k p20 c20 r_9) [0,1,2,3,4,5] (gq [0,3,4,5])))<|wF<|qF<|zP<|jB 3 u<|
  qG (gv (fun _ k=>k p15 c15 r_8) [0,1,2,3,4,5] (gq [4,1,2,3])))<|qO<|qN<|qQ<|qP<|zM (gv (fun _ k=>k p15 c15 r_8) [0,1,2,3,4,5] (gq [3,0,1,2])))<|fun s10 _ k p14 c14 r_7=>k<|zC<|qS 2 3 u u u<|qJ .s 1 u u u<|zB<|zH<|
  wY 3 2 u u<|wY 4 4 u u<|wY 5 2 u u<|wG u (lC 1 (.agg #[sv p2 s1.2 c2, sv p8 s6.2 c8, sv p14 s10.2 c14]) u u lN) (fun _ k=>k p2 c2 p8 c8 p14 c14) [0] (gq [2,1,0])
theorem zJ7 {qd : Prop} {y0 : zG} : qC qd prog 96 [.agg #[vb y0.1, vs y0.2]] [] [] (zD8 y0) fun r K=>K (.agg #[vb r.1, vs r.2]) [] [] :=
 zY call96 func96 u fun X=>zC<|qV .s u<|fun b1=>wN .s (.agg #[vb false, vs []])<|fun b2=>zB<|zC<|zN 0 u<|zT 0 u u u<|zA 1 u<|zN 1 u<|zT 0 u u u<|zL (.agg #[vb (!y0.1), vs y0.2])<|qJ .s 1 u u u<|zB<|zH<|
  wG u (lC 1 (.agg #[vb (!y0.1), vs y0.2]) u u lN) kk [] d
theorem zNs {qd : Prop} {y0 : List zG} {y1 : zG} : qC qd prog 100 [sv p1 y0 c1, .agg #[vb y1.1, vs y1.2]] [] [Rl wO p1 c1 y0] (zKS y0 y1) fun r K=>K (vb r) [] [] :=
 zY call100 func100 u fun X=>zC<|qV .s u<|fun b1=>zA 1 u<|zB<|zD<|jA 1 u<|zR<|qR (fun s1 K=>K [0,3] [] [0] [(5, vi s1)] []) (gv kk [0] (gq [0]))<|fun s1 _ k=>k<|zD<|jA 4 u<|zJ u (jC<|zD<|zR<|yA [] [0] 6<|qA 4 [0,1] u<|
  uJ 2 0 u u u u<|fun x1 b2 o1=>uI 3 true yI u (gk 0) u<|vM 4 0 2 u u u u<|wU 5 (vb (x1 == y1)) u<|wA<|zP<|zJ u (jA 1 u<|zH<|qK<|zZ<|wQ<|qK<|zZ<|zQ u u kk [] d)<|wF<|qF<|zP<|
  jB 3 u<|qG (gv kk [0] (gq [1])))<|qO<|qN<|qQ<|qP<|zP<|jA 1 u<|zH<|zQ u u kk [] d
theorem zRf {qd : Prop} {y0 : List zG} : qC qd prog 43 [sv p1 y0 c1] [] [Rl wO p1 c1 y0] (zJW y0) fun r K=>K (vb r) [] [] :=
 zY call43 func43 u fun X=>jA 1 u<|zD<|jA 1 u<|zR<|qR (fun s1 K=>K [0] [] [0] [(3, vi s1)] []) (gv kk [] (gq [0]))<|fun s1 _ k=>k<|zD<|jA 4 u<|zJ u (jC<|zD<|zR<|zC<|zA 3 u<|qX 0 u u u<|fun x1 b1 o1=>qW true yI (gk 0) u<|
  qI zJ7 u d<|fun r1 _ k=>k<|qI zNs u (cq [1])<|fun r2 _ k=>k<|zB<|zJ u (jA 1 u<|zH<|qK<|zZ<|wQ<|qK<|zZ<|zQ u u kk [] d)<|wF<|qF<|zP<|jB 3 u<|qG (gv kk [] (gq [1])))<|
  qO<|qN<|qQ<|qP<|zP<|jA 1 u<|zH<|zQ u u kk [] d
theorem zIO {qd : Prop} {y0 : qD} : qC qd prog 167 [vs y0] [] [] (zCy y0) fun r K=>K (vb r) [] [] :=
 zY call167 func167 u fun X=>jA 1 u<|zD<|wK (fun s1 K=>K [0] [] [] [(21, vb s1)] []) (qM<|zA 4 u<|wL 7 u (zA 3 u<|zL (vb true)<|zA 4 u<|zL (vb true)<|zA 4 u<|zL (vb true)<|zV<|zM (gv kk [] d))<|zA 3 u<|
  zL (vb (decide (12 < (len y0))))<|zA 1 u<|wL 12 u (zA 3 u<|zL (vb true)<|zA 4 u<|zL (vb true)<|zV<|zM (gv kk [] d))<|zA 1 u<|yP fun x1 h1=>jv (fun h=>zKn h u u underlying9 h1)<|zA 1 u<|
  zL (vb (decide (x1 < 97)))<|zA 1 u<|wL 17 u (zA 3 u<|zL (vb true)<|zV<|zM (gv kk [] d))<|zA 1 u<|yP fun x2 h2=>jv (fun h=>zKn h u u underlying9 h2)<|zA 1 u<|zL (vb (decide (122 < x2)))<|zV<|
  zM (gv kk [] d))<|fun s1 _ k=>k<|zJ u (jA 1 u<|zH<|zZ<|zQ u u kk [] d)<|jC<|zD<|jA 1 u<|zR<|qR (fun s2 K=>K [0] [] [] [(3, vi s2)] []) (gv kk [] d)<|fun s2 _ k=>k<|zD<|jA 4 u<|zJ u (
  jC<|zD<|zR<|wK (fun s3 K=>K [0,3] [] [] [(55, vb s3)] []) (qM<|zA 2 u<|yP fun x3 h3=>jv (fun h=>zKn h u u underlying9 h3)<|zA 2 u<|wL 32 u (zA 4 u<|zL (vb true)<|zA 3 u<|yP fun x4 h4=>
  jv (fun h=>zKn h u u underlying9 h4)<|zA 2 u<|wL 43 u (zA 4 u<|zL (vb true)<|zL (vb true)<|zA 3 u<|yP fun x5 h5=>jv (fun h=>zKn h u u underlying9 h5)<|zA 1 u<|zL (vb (x5 != 95))<|zV<|
  zM (gv kk [] d))<|zA 2 u<|yP fun x6 h6=>jv (fun h=>zKn h u u underlying9 h6)<|zA 1 u<|zL (vb (decide (57 < x6)))<|zL (vb (decide (57 < x6)))<|zA 1 u<|wL 50 u (zA 2 u<|yP fun x7 h7=>
  jv (fun h=>zKn h u u underlying9 h7)<|zA 1 u<|zL (vb (x7 != 95))<|zV<|zM (gv kk [] d))<|zA 4 u<|zL (vb false)<|zV<|zM (gv kk [] d))<|zA 2 u<|yP fun x8 h8=>
  jv (fun h=>zKn h u u underlying9 h8)<|zA 1 u<|zL (vb (decide (122 < x8)))<|zA 1 u<|wL 38 u (zA 2 u<|yP fun x9 h9=>jv (fun h=>zKn h u u underlying9 h9)<|zA 2 u<|wL 43 u (zA 4 u<|zL (vb true)<|
  zL (vb true)<|zA 3 u<|yP fun x10 h10=>jv (fun h=>zKn h u u underlying9 h10)<|zA 1 u<|zL (vb (x10 != 95))<|zV<|zM (gv kk [] d))<|zA 2 u<|yP fun x11 h11=>
  jv (fun h=>zKn h u u underlying9 h11)<|zA 1 u<|zL (vb (decide (57 < x11)))<|zL (vb (decide (57 < x11)))<|zA 1 u<|wL 50 u (zA 2 u<|yP fun x12 h12=>jv (fun h=>zKn h u u underlying9 h12)<|zA 1 u<|
  zL (vb (x12 != 95))<|zV<|zM (gv kk [] d))<|zA 4 u<|zL (vb false)<|zV<|zM (gv kk [] d))<|zA 10 u<|zL (vb false)<|zA 5 u<|zL (vb false)<|zV<|zM (gv kk [] d))<|fun s3 _ k=>k<|zJ u (
  jA 1 u<|zH<|qK<|zZ<|wQ<|qK<|zZ<|zQ u u kk [] d)<|wF<|qF<|zP<|jB 3 u<|qG (gv kk [] d))<|qO<|qN<|qQ<|qP<|zP<|jA 1 u<|zH<|zQ u u kk [] d
theorem zJd {qd : Prop} {y0 : zG} : qC qd prog 95 [.agg #[vb y0.1, vs y0.2]] [] [] (zEn y0) fun r K=>K (vb r) [] [] :=
 zY call95 func95 u fun X=>zC<|qV .s u<|fun b1=>zA 1 u<|zB<|zC<|zN 1 u<|zT 0 u u u<|qI zIO u d<|fun r1 _ k=>k<|zA 1 u<|zB<|zH<|zQ u u kk [] d
theorem zPX {qd : Prop} {y0 : zO} {y1 : qD} : qC qd prog 93 [.agg (vN y0 p1 c1 p2 c2 p3 c3).toArray, vs y1] [] (vV y0 p1 c1 p2 c2 p3 c3 []) (zKj y0 y1) fun r K=>K (vi r) [] [] :=
 zY call93 func93 u fun X=>zC<|qV .s u<|fun b1=>zA 1 u<|zB<|zD<|jA 1 u<|zR<|qR (fun s1 K=>K [1,2] [] [0,1,2] [(5, vi s1)] []) (gv kk [0] (gq [0,1,2]))<|fun s1 _ k=>k<|zD<|zC<|zA 1 u<|zN 1 u<|zT 0 u u u<|zA 2 u<|zB<|zJ u (
  jC<|zD<|zR<|zC<|zN 1 u<|zT 0 u u u<|zA 1 u<|qX 1 u u u<|fun x1 b2 o1=>zN 0 u<|qW false oS (gf (gk 0)) u<|zA 2 u<|zB<|zJ u (jA 2 u<|zH<|qK<|zZ<|wQ<|qK<|zZ<|zQ u u kk [] d)<|wF<|
  qF<|zP<|jB 3 u<|qG (gv kk [0] (gq [1,2,3])))<|qO<|qN<|qQ<|qP<|zP<|jA 1 u<|zH<|zQ u u kk [] d
theorem zTb {qd : Prop} {y0 : zO} {y1 : zG} : qC qd prog 91 [.agg (vN y0 p1 c1 p2 c2 p3 c3).toArray, .agg #[vb y1.1, vs y1.2]] [] (vV y0 p1 c1 p2 c2 p3 c3 []) (zMA y0 y1) fun r K=>K (vi r) [] [] :=
 zY call91 func91 u fun X=>zC<|qV .s u<|fun b1=>qV .s u<|fun b2=>zA 1 u<|zB<|zD<|jA 1 u<|zR<|qR (fun s1 K=>K [2,3] [] [0,1,2] [(5, vi s1)] []) (gv kk [0,1] (gq [0,1,2]))<|fun s1 _ k=>k<|zD<|zC<|zA 1 u<|zN 0 u<|zT 0 u u u<|
  zA 2 u<|zB<|zJ u (jC<|zD<|zR<|yA [] [0, 1] 8<|qY 0 0 u u<|wI 1 0 u u u u<|qA 5 [2] u<|uJ 3 0 u u u u<|fun x1 b3 o1=>qY 4 0 u u<|uI 5 true yI u (gf (gk 0)) u<|vM 6 1 2 u u u u<|
  wU 7 (vb (x1.1 == y1)) u<|wA<|zP<|zJ u (jA 2 u<|zH<|qK<|zZ<|wQ<|qK<|zZ<|zQ u u kk [] d)<|wF<|qF<|zP<|jB 3 u<|qG (gv kk [0,1] (gq [1,2,3])))<|qO<|qN<|qQ<|qP<|zP<|jA 1 u<|zH<|
  zQ u u kk [] d
theorem zPb {qd : Prop} {y0 : Int} : qC qd prog 94 [vi y0] [] [] (zHo y0) fun r K=>K (vb r) [] [] :=
 zY call94 func94 u fun X=>jA 1 u<|jjp (fun K=>K [(2, vb ((decide (0 ≤ y0)) && (decide (y0 ≤ 9))))] [] []) (qM<|zA 3 u<|uF (b := decide (0 ≤ y0)) 5 u (fun hb1=>zA 2 u<|zL (vb (decide (y0 ≤ 9)))<|zA 1 u<|zV<|
  wX 2 (vb ((decide (0 ≤ y0)) && (decide (y0 ≤ 9)))) u (by rw [hb1]; rfl)<|zM (gv kk [] d))<|fun hb1=>zA 2 u<|zL (vb false)<|zA 1 u<|zV<|wX 2 (vb ((decide (0 ≤ y0)) && (decide (y0 ≤ 9)))) u (by rw [hb1]; rfl)<|
  zM (gv kk [] d))<|fun _ k=>k<|zH<|zQ u u kk [] d
theorem zUo {qd : Prop} {y0 : vT} : qC qd prog 90 [.agg #[vb y0.1.1, vs y0.1.2, vi y0.2.1, vi y0.2.2.1, vs y0.2.2.2]] [] [] (zJg y0) fun r K=>K (vi r) [] [] :=
 zY call90 func90 u fun X=>zC<|qV .s u<|fun b1=>zA 1 u<|zB<|zD<|tK (fun K=>K [1] [] [] [(10, vb ((decide (y0.2.1 < 1)) || (decide (3 < y0.2.1))))] []) (qM<|zN 2 u<|zT 0 u u u<|zA 2 u<|uF (b := decide (y0.2.1 < 1)) 6 u (fun hb1=>zA 3 u<|
  zL (vb true)<|zV<|wX 10 (vb ((decide (y0.2.1 < 1)) || (decide (3 < y0.2.1)))) u (by rw [hb1]; rfl)<|zM (gv kk [0] d))<|fun hb1=>zN 2 u<|zT 0 u u u<|zA 1 u<|zL (vb (decide (3 < y0.2.1)))<|zV<|
  wX 10 (vb ((decide (y0.2.1 < 1)) || (decide (3 < y0.2.1)))) u (by rw [hb1]; rfl)<|zM (gv kk [0] d))<|fun _ k=>k<|zJ u (jA 1 u<|zH<|zZ<|zQ u u kk [] d)<|jC<|zD<|jjn (fun s1 K=>K [(41, vb s1)] [[]] []) (
  qM<|zN 0 u<|qS 0 2 u u u<|qI zJd u d<|fun r1 _ k=>k<|zA 2 u<|wL 15 u (zA 4 u<|zL (vb true)<|zA 9 u<|zL (vb true)<|zA 10 u<|zL (vb true)<|zV<|zM (gv kk [900] d))<|zN 3 u<|
  zT 0 u u u<|qI zPb u d<|fun r2 _ k=>k<|zA 1 u<|zL (vb (!r2))<|zA 1 u<|wL 21 u (zA 8 u<|zL (vb true)<|zA 10 u<|zL (vb true)<|zV<|zM (gv kk [900] d))<|zN 2 u<|zT 0 u u u<|
  zA 2 u<|wL 25 u (zN 3 u<|zT 0 u u u<|zA 1 u<|zL (vb (y0.2.2.1 != 0))<|zL (vb (y0.2.2.1 != 0))<|zA 1 u<|wL 31 u (zA 9 u<|zL (vb true)<|zV<|zM (gv kk [900] d))<|zN 4 u<|zT 0 u u u<|
  zA 2 u<|wL 35 u (zN 4 u<|zT 0 u u u<|qI zIO u d<|fun r3 _ k=>k<|zA 1 u<|zL (vb (!r3))<|zL (vb (!r3))<|zV<|zM (gv kk [900] d))<|zA 4 u<|zL (vb false)<|zL (vb false)<|zV<|
  zM (gv kk [900] d))<|zA 3 u<|zL (vb false)<|zL (vb false)<|zA 1 u<|zN 4 u<|zT 0 u u u<|zA 2 u<|wL 35 u (zN 4 u<|zT 0 u u u<|qI zIO u d<|fun r4 _ k=>k<|zA 1 u<|
  zL (vb (!r4))<|zL (vb (!r4))<|zV<|zM (gv kk [900] d))<|zA 4 u<|zL (vb false)<|zL (vb false)<|zV<|zM (gv kk [900] d))<|fun s1 _ k=>k<|zJ u (jA 1 u<|zH<|zZ<|zQ u u kk [] d)<|jC<|
  jA 1 u<|zH<|zQ u u kk [] d
theorem zP3 {qd : Prop} {y0 : zG} {y1 : zG} : qC qd prog 168 [.agg #[vb y0.1, vs y0.2], .agg #[vb y1.1, vs y1.2]] [] [] (zH7 y0 y1) fun r K=>K (vi r) [] [] :=
 zY call168 func168 u fun X=>zC<|qV .s u<|fun b1=>qV .s u<|fun b2=>zA 1 u<|zB<|zD<|zR<|zC<|qS 0 2 u u u<|qS 1 2 u u u<|zL (vb (y0 == y1))<|zA 1 u<|zB<|zJ u (jA 1 u<|zH<|qK<|zZ<|zQ u u kk [] d)<|
  jjp (fun K=>K [(9, vb ((uN y0.2 y1.2) || ((y0.2 == y1.2) && y1.1)))] [[], []] []) (qM<|zN 1 u<|zT 0 u u u<|zN 1 u<|zT 1 u u u<|zA 2 u<|uF (b := uN y0.2 y1.2) 15 u (fun hb1=>zA 9 u<|zL (vb true)<|
  zA 1 u<|zV<|wX 9 (vb ((uN y0.2 y1.2) || ((y0.2 == y1.2) && y1.1))) u (by rw [hb1]; rfl)<|zM (gv kk [900,901] d))<|fun hb1=>zN 1 u<|zT 0 u u u<|zN 1 u<|zT 1 u u u<|zA 2 u<|
  uF (b := y0.2 == y1.2) 21 u (fun hb2=>zN 0 u<|zT 1 u u u<|zL (vb y1.1)<|zL (vb y1.1)<|zA 1 u<|zV<|wX 9 (vb ((uN y0.2 y1.2) || ((y0.2 == y1.2) && y1.1))) u (by rw [hb1,hb2]; rfl)<|zM (gv kk [900,901] d)
  )<|fun hb2=>zA 2 u<|zL (vb false)<|zL (vb false)<|zA 1 u<|zV<|wX 9 (vb ((uN y0.2 y1.2) || ((y0.2 == y1.2) && y1.1))) u (by rw [hb1,hb2]; rfl)<|zM (gv kk [900,901] d))<|fun _ k=>k<|zJ u (jA 1 u<|zH<|qK<|
  zZ<|zQ u u kk [] d)<|wF<|qF<|zP<|jA 1 u<|zH<|zQ u u kk [] d
theorem zXM {qd : Prop} {y0 : qL} : qC qd prog 92 [.agg (zOv y0 p1 c1).toArray] [] (zRz y0 p1 c1 []) (zMa y0) fun r K=>K (vi r) [] [] :=
 zY call92 func92 u fun X=>zC<|qV .s u<|fun b1=>zA 1 u<|zB<|zD<|zC<|zN 3 u<|zT 0 u u u<|zA 2 u<|zB<|zJ u (jA 1 u<|zH<|zZ<|zQ u u kk [] d)<|jC<|wK (fun s1 K=>K [1] [] [0] [(3, vb s1)] []) (qM<|zN 0 u<|
  zT 0 u u u<|qI zIO u d<|fun r1 _ k=>k<|zA 1 u<|wL 13 u (zN 2 u<|zT 0 u u u<|qI zPb u d<|fun r2 _ k=>k<|zL (vb r2)<|zA 1 u<|wL 18 u (zN 1 u<|zT 0 u u u<|zA 2 u<|
  wL 22 u (zA 3 u<|zL (vb true)<|zL (vb true)<|zA 1 u<|zN 4 u<|qS 0 2 u u u<|qI zJd u d<|fun r3 _ k=>k<|zL (vb r3)<|zA 1 u<|zV<|zM (gv kk [0] (gq [0])))<|zN 2 u<|zT 0 u u u<|
  zA 1 u<|zL (vb (y0.2.2.1 == 0))<|zL (vb (y0.2.2.1 == 0))<|zA 1 u<|wL 28 u (zN 4 u<|qS 0 2 u u u<|qI zJd u d<|fun r4 _ k=>k<|zL (vb r4)<|zA 1 u<|zV<|zM (gv kk [0] (gq [0])))<|zA 3 u<|
  zL (vb false)<|zA 1 u<|zV<|zM (gv kk [0] (gq [0])))<|zA 8 u<|zL (vb false)<|zA 4 u<|zL (vb false)<|zA 1 u<|zV<|zM (gv kk [0] (gq [0])))<|zA 3 u<|zL (vb false)<|zA 9 u<|zL (vb false)<|
  zA 4 u<|zL (vb false)<|zA 1 u<|zV<|zM (gv kk [0] (gq [0])))<|fun s1 _ k=>k<|wK (fun s2 K=>K [1] [] [0] [(3, vb s2)] []) (jA 1 u<|zR<|
  qR (fun s3 K=>K [1] [] [0] [(3, vb s3.1), (4, vi s3.2)] []) (gv kk [0] (gq [0]))<|fun s3 _ k=>k<|zD<|zC<|zA 1 u<|zN 3 u<|zT 0 u u u<|zA 2 u<|zB<|zJ u (jC<|zD<|zR<|
  jjcK (fun s4 K=>K [1,4] [] [0] [(3, vb s4)] []) (qM<|zA 2 u<|wL 41 u (zN 3 u<|zT 0 u u u<|zA 1 u<|qX 0 u u u<|fun x1 b2 o1=>qW true yI (gk 0) u<|qI zJd u d<|fun r5 _ k=>k<|zL (vb r5)<|
  zA 1 u<|zV<|zM (gv kk [0] (gq [1])))<|zA 6 u<|zL (vb false)<|zA 1 u<|zV<|zM (gv kk [0] (gq [0])))<|fun s4 _ k=>k<|qF<|zP<|jB 3 u<|qG (gv kk [0] (gq [0])))<|qO<|qN<|qQ<|qP<|
  zM (gv kk [0] (gq [0])))<|fun s2 _ k=>k<|zD<|jA 2 u<|zJ u (jA 1 u<|zH<|zZ<|zQ u u kk [] d)<|jC<|zD<|jA 1 u<|zR<|qR (fun s5 K=>K [1] [] [0] [(5, vi s5)] []) (gv kk [0] (gq [0]))<|
  fun s5 _ k=>k<|zD<|zC<|zA 1 u<|zN 3 u<|zT 0 u u u<|zA 2 u<|zB<|zJ u (jC<|zD<|zR<|yA [] [0] 13<|qY 0 3 u u<|wI 1 0 u u u u<|qA 9 [2,3] u<|uJ 4 0 u u u u<|fun x2 b3 o2=>
  uI 5 true yI u (gk 0) u<|qY 6 3 u u<|wI 7 0 u u u u<|qA 4 [8] u<|uJ 9 1 u u u u<|fun x3 b4 o3=>uI 10 true yI u (gk 0) u<|qH 11<|zX (.f u) [] [] zP3 u u u d<|
  fun r6 _ k=>k<|qB<|qA 0 [12] u<|wA<|zP<|zJ u (jA 1 u<|zH<|qK<|zZ<|wQ<|qK<|zZ<|zQ u u kk [] d)<|wF<|qF<|zP<|jB 3 u<|qG (gv kk [0] (gq [2])))<|qO<|qN<|qQ<|qP<|zP<|jA 1 u<|zH<|
  zQ u u kk [] d
theorem zLR {qd : Prop} {y0 : zO} : qC qd prog 34 [.agg (vN y0 p1 c1 p2 c2 p3 c3).toArray] [] (vV y0 p1 c1 p2 c2 p3 c3 []) (zDb y0) fun r K=>K (vi r) [] [] :=
 zY call34 func34 u fun X=>zC<|qV .s u<|fun b1=>zA 1 u<|zB<|zD<|tK (fun K=>K [1] [] [0,1,2] [(25, vb ((decide (16 < (len y0.1))) || ((decide (24 < (len y0.2.1))) || (decide (8 < (len y0.2.2))))))] []) (qM<|zN 0 u<|zT 0 u u u<|zA 3 u<|
  uF (b := decide (16 < (len y0.1))) 14 u (fun hb1=>zA 4 u<|zL (vb true)<|zA 5 u<|zL (vb true)<|zV<|wX 25 (vb ((decide (16 < (len y0.1))) || ((decide (24 < (len y0.2.1))) || (decide (8 < (len y0.2.2)))))) u (by rw [hb1]; rfl)<|
  zM (gv kk [0] (gq [0,1,2])))<|fun hb1=>zN 1 u<|zT 0 u u u<|zA 2 u<|zL (vb (decide (24 < (len y0.2.1))))<|zA 1 u<|uF (b := decide (24 < (len y0.2.1))) 20 u (fun hb2=>zA 4 u<|zL (vb true)<|zV<|
  wX 25 (vb ((decide (16 < (len y0.1))) || ((decide (24 < (len y0.2.1))) || (decide (8 < (len y0.2.2)))))) u (by rw [hb1,hb2]; rfl)<|zM (gv kk [0] (gq [0,1,2])))<|fun hb2=>zN 2 u<|zT 0 u u u<|zA 2 u<|
  zL (vb (decide (8 < (len y0.2.2))))<|zV<|wX 25 (vb ((decide (16 < (len y0.1))) || ((decide (24 < (len y0.2.1))) || (decide (8 < (len y0.2.2)))))) u (by rw [hb1,hb2]; rfl)<|zM (gv kk [0] (gq [0,1,2])))<|fun _ k=>k<|zJ u (
  jA 1 u<|zH<|zZ<|zQ u u kk [] d)<|jC<|zYy (fun s1 K=>K [1] [] [0,1,2] [] []) (jA 1 u<|zR<|qR (fun s2 K=>K [1] [] [0,1,2] [(3, vi s2)] []) (gv kk [0] (gq [0,1,2]))<|fun s2 _ k=>k<|zD<|zC<|zA 1 u<|
  zN 0 u<|zT 0 u u u<|zA 2 u<|zB<|zJ u (jC<|zD<|zR<|zD<|zC<|zN 0 u<|zT 0 u u u<|zA 1 u<|qX 0 u u u<|fun x1 b2 o1=>qW true zNM (gk 0) u<|qI zUo u d<|fun r1 _ k=>k<|zA 1 u<|
  zB<|jA 2 u<|zJ u (jA 2 u<|zH<|zZ<|qK<|zZ<|wQ<|qK<|wQ<|zQ u u kk [] d)<|jC<|yA [] [0] 10<|vM 0 0 3 u u u u<|qY 1 0 u u<|wI 2 0 u u u u<|qA 6 [3] u<|uJ 4 1 u u u u<|
  fun x2 b3 o2=>qY 5 0 u u<|uI 6 true yI u (gf (gk 0)) u<|qA 2 [8] u<|qH 7<|zX (.f u) [] [] zTb u u u (cq [2,3,4])<|fun r2 _ k=>k<|qB<|qA 0 [9] u<|wA<|zP<|zJ u (jA 1 u<|zH<|qK<|zZ<|wQ<|
  qK<|wQ<|zQ u u kk [] d)<|wF<|qF<|zP<|jB 3 u<|qG (gv kk [0] (gq [2,3,4])))<|qO<|qN<|qQ<|qP<|qG (gv kk [0] (gq [0,1,2])))<|fun s1 _ k=>k<|zYy (fun s3 K=>K [1] [] [0,1,2] [] []) (jA 1 u<|
  zR<|qR (fun s4 K=>K [1] [] [0,1,2] [(5, vi s4)] []) (gv kk [0] (gq [0,1,2]))<|fun s4 _ k=>k<|zD<|zC<|zA 1 u<|zN 1 u<|zT 0 u u u<|zA 2 u<|zB<|zJ u (jC<|zD<|zR<|zD<|zC<|zN 1 u<|zT 0 u u u<|
  zA 1 u<|qX 1 u u u<|fun x3 b4 o3=>qW true zM4 (gk 0) u<|fun p4 c4=>qI zXM u (cq [0])<|fun r3 _ k=>k<|zA 1 u<|zB<|jA 2 u<|zJ u (jA 2 u<|zH<|zZ<|qK<|zZ<|wQ<|qK<|wQ<|zQ u u kk [] d
  )<|jC<|yA [] [0] 10<|vM 0 0 3 u u u u<|qY 1 1 u u<|wI 2 0 u u u u<|qA 6 [3] u<|uJ 4 3 u u u u<|fun x4 b5 o4=>qY 5 0 u u<|uI 6 false oS u (gf (gk 0)) u<|qA 2 [8] u<|qH 7<|
  zX (.f u) [] [] zPX u u u (cq [3,4,5])<|fun r4 _ k=>k<|qB<|qA 0 [9] u<|wA<|zP<|zJ u (jA 1 u<|zH<|qK<|zZ<|wQ<|qK<|wQ<|zQ u u kk [] d)<|wF<|qF<|zP<|jB 3 u<|
  qG (gv kk [0] (gq [3,4,5])))<|qO<|qN<|qQ<|qP<|qG (gv kk [0] (gq [0,1,2])))<|fun s3 _ k=>k<|zD<|jA 1 u<|zR<|qR (fun s5 K=>K [1] [] [0,1,2] [(7, vi s5)] []) (gv kk [0] (gq [0,1,2]))<|fun s5 _ k=>k<|
  zD<|zC<|zA 1 u<|zN 2 u<|zT 0 u u u<|zA 2 u<|zB<|zJ u (jC<|zD<|zR<|zC<|zN 2 u<|zT 0 u u u<|zA 1 u<|qX 2 u u u<|fun x5 b6 o5=>qW true zQw (gk 0) u<|
  wN .s (.agg #[vs [], vi 0, vb false, vs []])<|fun b7=>qJ .s 1 u u u<|zB<|zD<|wK (fun s6 K=>K [1,7,8] [] [1,2,3] [(99, vb s6)] []) (qM<|zN 1 u<|zT 1 u u u<|qI zPb u d<|fun r5 _ k=>k<|zA 2 u<|
  wL 94 u (zA 4 u<|zL (vb true)<|zV<|zM (gv kk [0,1] (gq [1,2,3])))<|zN 2 u<|qS 1 2 u u u<|qI zJd u d<|fun r6 _ k=>k<|zA 1 u<|zL (vb (!r6))<|zV<|zM (gv kk [0,1] (gq [1,2,3])))<|
  fun s6 _ k=>k<|zJ u (jA 1 u<|zH<|zZ<|qK<|zZ<|wQ<|qK<|zZ<|zQ u u kk [] d)<|jC<|zC<|qS 0 3 u u u<|zN 0 u<|zT 1 u u u<|qI zPX u (cq [0,1,2])<|fun r7 _ k=>k<|zA 1 u<|zB<|zD<|
  jA 2 u<|zJ u (jA 1 u<|zH<|zZ<|qK<|zZ<|wQ<|qK<|zZ<|zQ u u kk [] d)<|jC<|zC<|zN 1 u<|zT 0 u u u<|zA 1 u<|qX 1 u u u<|fun x6 b8 o6=>zN 1 u<|qW false oB (gf (gs (gk 0))) u<|zB<|zJ u (
  jA 1 u<|zH<|qK<|zZ<|wQ<|qK<|zZ<|zQ u u kk [] d)<|wF<|qF<|zP<|jB 3 u<|qG (gv kk [0] (gq [1,2,3])))<|qO<|qN<|qQ<|qP<|zP<|jA 1 u<|zH<|zQ u u kk [] d
theorem zMl {qd : Prop} {y0 : List zG} {y1 : zG} : qC qd prog 105 [sv p1 y0 c1, .agg #[vb y1.1, vs y1.2]] [] [Rl wO p1 c1 y0] (zHB y0 y1) fun r K=>∀ p2 c2,K (sv p2 r c2) [] [Rl wO p2 c2 r] :=
 zY call105 func105 u fun X=>zC<|qV .s u<|fun b1=>zA 1 u<|zB<|jA 1 u<|wK (fun s1 K=>K [0,3] [] [0] [(5, vi s1)] []) (zR<|qR (fun s2 K=>K [0,3] [] [0] [(5, vi s2)] []) (gv kk [0] (gq [0]))<|fun s2 _ k=>k<|zD<|
  wK (fun s3 K=>K [0,3,5] [] [0] [(19, vb s3)] []) (xB [] [0] 13<|qA 8 [0,1,2,3,4] u<|wL 11 u (qA 6 [5,6] u<|uJ 7 0 u u u u<|fun x1 b2 o1=>uI 8 true yI u (gk 0) u<|vM 9 0 2 u u u u<|qH 10<|
  zX (.f u) [] [] zP3 u u u d<|fun r1 _ k=>k<|qB<|qA 1 [11] u<|wU 12 (vb (decide (r1 < 0))) u<|wA<|zM (gv kk [0] (gq [1])))<|qA 1 [5,6,7,8,9,10,11] u<|wU 12 (vb false) u<|wA<|
  zM (gv kk [0] (gq [0])))<|fun s3 _ k=>k<|zJ u (jC<|zR<|jB 3 u<|qF<|qG (gv kk [0] (gq [0])))<|qO<|qN<|qQ<|qP<|zM (gv kk [0] (gq [0])))<|fun s1 _ k=>k<|zD<|
  wK (fun s4 K=>K [0,3,5] [] [0] [(33, vb s4)] []) (xB [] [0] 12<|qA 7 [0,1,2,3,4] u<|wL 26 u (qA 5 [5,6] u<|uJ 7 0 u u u u<|fun x2 b3 o2=>uI 8 true yI u (gk 0) u<|vM 9 0 2 u u u u<|
  wU 10 (vb (x2 == y1)) u<|wU 11 (vb (x2 == y1)) u<|wA<|zM (gv kk [0] (gq [1])))<|qA 1 [5,6,7,8,9,10] u<|wU 11 (vb false) u<|wA<|zM (gv kk [0] (gq [0])))<|fun s4 _ k=>k<|zJ u (jA 2 u<|zH<|zZ<|
  zQ u u (fun _ k=>k p1 c1) [] (gq [0]))<|jC<|zC<|xN .s (e := wO) 66 [] ([] : List zG) rN<|fun r_1 p2 c2=>zA 2 u<|jsl (gk 1) u u u (.inl ⟨rfl, rfl⟩) (.inr ⟨_, rfl⟩)<|fun x3 p3 c3=>wM .s 1 1 u (gk 0) u u<|
  fun x4 r_2 p4 c4=>zA 1 u<|zB<|yA [] [0] 9<|qA 8 [0] u<|vM 1 0 2 u u u u<|qA 5 [4,5] u<|jdw 6 u (gk 3) u u u (.inr ⟨_, rfl⟩) (.inl ⟨rfl, rfl⟩)<|fun x5 p5 c5=>qH 2<|
  wT (.f u) (e := wO) 66 [vb y1.1, vs y1.2] ([y1] : List zG) (rC (vP vB vS) rN)<|fun p6 c6=>qB<|qH 3<|wM (.f u) 1 2 u (gk 0) u u<|fun x6 r_3 p7 c7=>qB<|qH 7<|wM (.f u) 1 0 u (gk 2) u u<|
  fun x7 r_4 p8 c8=>qB<|qA 0 [8] u<|wA<|zP<|zH<|wY 1 0 u u<|zQ u u (fun _ k=>k p8 c8) [] (gq [0])
theorem zVB {qd : Prop} {y0 : zO} : qC qd prog 45 [.agg (vN y0 p1 c1 p2 c2 p3 c3).toArray] [] (vV y0 p1 c1 p2 c2 p3 c3 []) (zK4 y0) fun r K=>∀ p4 c4,K (sv p4 r c4) [] [Rl wO p4 c4 r] :=
 zY call45 func45 u fun X=>zC<|qV .s u<|fun b1=>zA 1 u<|zB<|jA 1 u<|zD<|jA 1 u<|zR<|qR (fun s1 K=>∀ p4 c4,K [1] [] [0,1,2] [(3, sv p4 s1.1 c4), (4, vi s1.2)] [Rl wO p4 c4 s1.1]) (gv (fun _ k=>k none 0) [0] ⟨gn,gk 0,gk 1,gk 2,d⟩)<|
  fun s1 _ k p4 c4=>k<|zD<|zC<|zA 1 u<|zN 0 u<|zT 0 u u u<|zA 2 u<|zB<|zJ u (jC<|zD<|zR<|zC<|zN 0 u<|zT 0 u u u<|zA 1 u<|qX 1 u u u<|fun x1 b2 o1=>zN 2 u<|qW false oI (gf (gs (gk 0))) u<|
  zA 1 u<|zB<|zJ u (qM<|zA 1 u<|zN 0 u<|zT 0 u u u<|zA 1 u<|qX 2 u u u<|fun x2 b3 o2=>zN 0 u<|qW true yI (gf (gk 0)) u<|qI zMl u (cq [2])<|fun r1 _ k p5 c5=>k<|zA 1 u<|zV<|qF<|
  zP<|jB 3 u<|qG (gv (fun _ k=>k p5 c5) [0] (gq [0,4,5,6])))<|wF<|qF<|zP<|jB 3 u<|qG (gv (fun _ k=>k p4 c4) [0] (gq [1,2,3,4])))<|qO<|qN<|qQ<|qP<|zP<|jA 2 u<|zH<|zQ u u (fun _ k=>k p4 c4) [] (gq [0])
theorem zXP {qd : Prop} {y0 : List zG} {y1 : List zG} : qC qd prog 98 [sv p1 y0 c1, sv p2 y1 c2] [] [Rl wO p1 c1 y0, Rl wO p2 c2 y1] (zMc y0 y1) fun r K=>K (vb r) [] [] :=
 zY call98 func98 u fun X=>jA 1 u<|zD<|jA 5 u<|zJ u (jA 1 u<|zH<|zZ<|zQ u u kk [] d)<|jC<|zD<|jA 1 u<|zR<|qR (fun s1 K=>K [0,1] [] [0,1] [(5, vi s1)] []) (gv kk [] (gq [0,1]))<|fun s1 _ k=>k<|zD<|jA 4 u<|zJ u (jC<|
  zD<|zR<|yA [] [] 9<|qA 7 [0,1] u<|uJ 2 0 u u u u<|fun x1 b1 o1=>uI 3 true yI u (gk 0) u<|qA 3 [4,5] u<|uJ 6 2 u u u u<|fun x2 b2 o2=>uI 7 true yI u (gk 0) u<|wU 8 (vb (!(x1 == x2))) u<|
  wA<|zP<|zJ u (jA 1 u<|zH<|qK<|zZ<|wQ<|qK<|zZ<|zQ u u kk [] d)<|wF<|qF<|zP<|jB 3 u<|qG (gv kk [] (gq [2,3])))<|qO<|qN<|qQ<|qP<|zP<|jA 1 u<|zH<|zQ u u kk [] d
theorem zRQ {qd : Prop} {y0 : zO} {y1 : qL} : qC qd prog 37 [.agg (vN y0 p1 c1 p2 c2 p3 c3).toArray, .agg (zOv y1 p4 c4).toArray] [] (vV y0 p1 c1 p2 c2 p3 c3 (zRz y1 p4 c4 [])) (zLX y0 y1) fun r K=>K (vb r) [] [] :=
 zY call37 func37 u fun X=>zC<|qV .s u<|fun b1=>qV .s u<|fun b2=>zA 1 u<|zB<|zD<|jA 1 u<|zR<|qR (fun s1 K=>K [2,3] [] [0,1,2,3] [(5, vi s1)] []) (gv kk [0,1] (gq [0,1,2,3]))<|fun s1 _ k=>k<|zD<|zC<|zA 1 u<|zN 1 u<|
  zT 0 u u u<|zA 2 u<|zB<|zJ u (jC<|zD<|zR<|zC<|zN 1 u<|zT 0 u u u<|zA 1 u<|qX 1 u u u<|fun x1 b3 o1=>qW true zM4 (gk 0) u<|fun p5 c5=>
  wN .s (.agg #[vs [], vb false, vi 0, .slice none 0 0, vb false, vs []])<|fun b4=>qJ .s 2 u u u<|zB<|wK (fun s2 K=>K [2,3,5] [(2, [])] [2,3,4,5] [(34, vb s2)] []) (qM<|zN 1 u<|zT 2 u u u<|zA 1 u<|wL 21 u (
  zN 4 u<|qS 2 2 u u u<|zN 4 u<|qS 1 2 u u u<|zL (vb (x1.2.2.2.2 == y1.2.2.2.2))<|zL (vb (x1.2.2.2.2 == y1.2.2.2.2))<|zA 1 u<|wL 28 u (zN 3 u<|zT 2 u u u<|zN 3 u<|zT 1 u u u<|
  qI zXP u (cq [0,5])<|fun r1 _ k=>k<|zL (vb r1)<|zV<|zM (gv kk [0,1,902] (gq [2,3,4,5])))<|zA 5 u<|zL (vb false)<|zV<|zM (gv kk [0,1,902] (gq [2,3,4,5])))<|zA 5 u<|zL (vb false)<|zA 6 u<|
  zL (vb false)<|zV<|zM (gv kk [0,1,902] (gq [2,3,4,5])))<|fun s2 _ k=>k<|zJ u (jA 1 u<|zH<|qK<|zZ<|wQ<|qK<|zZ<|zQ u u kk [] d)<|wF<|qF<|zP<|jB 3 u<|qG (gv kk [0,1] (gq [0,1,2,3])))<|
  qO<|qN<|qQ<|qP<|zP<|jA 1 u<|zH<|zQ u u kk [] d
theorem zQ4 {qd : Prop} {y0 : List zG} : qC qd prog 97 [sv p1 y0 c1] [] [Rl wO p1 c1 y0] (zKa y0) fun r K=>∀ p2 c2,K (sv p2 r c2) [] [Rl wO p2 c2 r] :=
 zY call97 func97 u fun X=>jA 1 u<|jA 1 u<|zD<|jA 1 u<|zR<|qR (fun s1 K=>∀ p2 c2,K [0] [] [0] [(3, sv p2 s1.1 c2), (4, vi s1.2)] [Rl wO p2 c2 s1.1]) (gv (fun _ k=>k none 0) [] ⟨gn,gk 0,d⟩)<|fun s1 _ k p2 c2=>k<|zD<|jA 4 u<|zJ u (jC<|zD<|zR<|
  qM<|zA 3 u<|qX 1 u u u<|fun x1 b1 o1=>qW true yI (gk 0) u<|qI zMl u (cq [1])<|fun r1 _ k p3 c3=>k<|zA 1 u<|zV<|qF<|zP<|jB 3 u<|qG (gv (fun _ k=>k p3 c3) [] (gq [0,3])))<|qO<|qN<|qQ<|qP<|zP<|
  jA 2 u<|zH<|zQ u u (fun _ k=>k p2 c2) [] (gq [0])
theorem zNF {qd : Prop} {y0 : qL} {y1 : Int} : qC qd prog 36 [.agg (zOv y0 p1 c1).toArray, vi y1] [] (zRz y0 p1 c1 []) (zFb y0 y1) fun r K=>∀ p2 c2,K (.agg (zOv r p2 c2).toArray) [] (zRz r p2 c2 []) :=
 zY call36 func36 u fun X=>zC<|qV .s u<|fun b1=>wN .s (.agg #[vs [], vb false, vi 0, .slice none 0 0, vb false, vs []])<|fun b2=>zB<|zC<|zA 1 u<|vJ wO 66<|zB<|
  wK (fun s1 K=>∀ p2 c2 r_1,K [1,2,4] [(2, r_1)] [1] [(5, sv p2 s1 c2)] [Al wO 66 r_1 p2 c2 s1]) (jA 1 u<|zR<|
  qR (fun s2 K=>∀ p3 c3 r_2,K [1,2,4] [(2, r_2)] [1] [(5, sv p3 s2.1 c3), (6, vi s2.2)] [Al wO 66 r_2 p3 c3 s2.1]) (gv (fun _ k=>k none 0 []) [0,1,2] (gq [0,1]))<|fun s2 _ k p3 c3 r_2=>k<|zD<|zC<|zA 1 u<|zN 3 u<|
  zT 0 u u u<|zA 2 u<|zB<|zJ u (jC<|zD<|zR<|yA [] [0] 11<|qY 0 3 u u<|wI 1 0 u u u u<|qA 8 [2] u<|uJ 3 1 u u u u<|fun x1 b3 o1=>uI 4 true yI u (gk 0) u<|qY 5 3 u u<|
  wI 6 0 u u u u<|qA 3 [7] u<|uJ 8 2 u u u u<|fun x2 b4 o2=>uI 9 true yI u (gk 0) u<|wU 10 (vb (!(x1 == x2))) u<|wA<|zP<|zJ u (qM<|zA 1 u<|zN 3 u<|zT 0 u u u<|zA 1 u<|
  qX 3 u u u<|fun x3 b5 o3=>qW true yI (gk 0) u<|wT .s (e := wO) 66 [vb x3.1, vs x3.2] ([x3] : List zG) (rC (vP vB vS) rN)<|fun p4 c4=>wM .s 2 4 u (gk 0) u u<|fun x4 r_3 p5 c5=>zA 1 u<|zV<|qF<|zP<|
  jB 3 u<|qG (gv (fun _ k=>k p5 c5 r_3) [0,1,2] (gq [0,6])))<|wF<|qF<|zP<|jB 3 u<|qG (gv (fun _ k=>k p3 c3 r_2) [0,1,2] (gq [2,3])))<|qO<|qN<|qQ<|qP<|zM (gv (fun _ k=>k p3 c3 r_2) [0,1,2] (gq [0,1])))<|fun s1 _ k p2 c2 r_1=>k<|
  zC<|zA 1 u<|zN 4 u<|qS 0 2 u u u<|qI zJ7 u d<|fun r1 _ k=>k<|wT .s (e := wO) 66 [vb r1.1, vs r1.2] ([r1] : List zG) (rC (vP vB vS) rN)<|fun p6 c6=>wM .s 2 1 u (gk 0) u u<|
  fun x5 r_4 p7 c7=>zA 1 u<|zB<|yA [] [0] 10<|qA 9 [0] u<|qY 2 3 u u<|wI 3 0 u u u u<|qA 6 [4] u<|uJ 5 3 u u u u<|fun x6 b6 o4=>uI 6 true yI u (gk 0) u<|wY 2 1 u u<|qH 1<|
  zX (.f u) [] [] zQ4 u u u (cq [0])<|fun r2 _ k p8 c8=>k<|qB<|qH 7<|zX (.f u) [] [] zJ7 u u u d<|fun r3 _ k=>k<|qB<|wU 8 (.agg #[vs [], vb true, vi 0, sv p8 r2 c8, vb r3.1, vs r3.2]) u<|
  qH 9<|qJ (o := 0) (.f u) 1 u u u<|qB<|wA<|zP<|zH<|wG u (lC 1 (.agg #[vs [], vb true, vi 0, sv p8 r2 c8, vb r3.1, vs r3.2]) u u lN) (fun _ k=>k p8 c8) [] (gq [0])
theorem zVJ {qd : Prop} {y0 : zO} : qC qd prog 42 [.agg (vN y0 p1 c1 p2 c2 p3 c3).toArray] [] (vV y0 p1 c1 p2 c2 p3 c3 []) (zK7 y0) fun r K=>K (vb r) [] [] :=
 zY call42 func42 u fun X=>zC<|qV .s u<|fun b1=>zA 1 u<|zB<|zD<|jA 1 u<|zR<|qR (fun s1 K=>K [1] [] [0,1,2] [(3, vi s1)] []) (gv kk [0] (gq [0,1,2]))<|fun s1 _ k=>k<|zD<|zC<|zA 1 u<|zN 1 u<|zT 0 u u u<|zA 2 u<|zB<|zJ u (
  jC<|zD<|zR<|zC<|zN 1 u<|zT 0 u u u<|zA 1 u<|qX 1 u u u<|fun x1 b2 o1=>qW true zM4 (gk 0) u<|fun p4 c4=>wN .s (.agg #[vs [], vb false, vi 0, .slice none 0 0, vb false, vs []])<|fun b3=>qJ .s 1 u u u<|
  zB<|jA 1 u<|zR<|qR (fun s2 K=>K [1,3,4] [] [2,3,4,0] [(5, vi s2)] []) (gv kk [0,1] (gq [2,3,4,0]))<|fun s2 _ k=>k<|zD<|tK (fun K=>K [1,3,4,5] [] [0,1,2,3] [(26, vb ((decide (s2 < (len x1.2.2.2.1))) && x1.2.1))] []) (qM<|
  zA 1 u<|zN 3 u<|zT 1 u u u<|zA 3 u<|uF (b := decide (s2 < (len x1.2.2.2.1))) 23 u (fun hb1=>zN 1 u<|zT 1 u u u<|zL (vb x1.2.1)<|zV<|
  wX 26 (vb ((decide (s2 < (len x1.2.2.2.1))) && x1.2.1)) u (by rw [hb1]; rfl)<|zM (gv kk [0,1] (gq [0,1,2,3])))<|fun hb1=>zA 2 u<|zL (vb false)<|zV<|
  wX 26 (vb ((decide (s2 < (len x1.2.2.2.1))) && x1.2.1)) u (by rw [hb1]; rfl)<|zM (gv kk [0,1] (gq [0,1,2,3])))<|fun _ k=>k<|zJ u (jC<|zD<|zR<|yA [] [0, 1] 6<|vM 0 0 3 u u u u<|vM 1 1 6 u u u u<|
  qA 3 [2] u<|qH 3<|zX (.f u) [] [] zNF u u u (cq [3])<|fun r1 _ k p5 c5=>k<|qB<|qH 4<|zX (.f u) [] [] zRQ u u u (cq [1,2,3,0])<|fun r2 _ k=>k<|qB<|qA 0 [5] u<|wA<|zP<|zJ u (jA 1 u<|
  zH<|qK<|zZ<|wQ<|qK<|qK<|zZ<|wQ<|qK<|zZ<|zQ u u kk [] d)<|wF<|qF<|zP<|jB 3 u<|qG (gv kk [0,1] (gq [1,2,3,4])))<|qO<|qN<|qQ<|qP<|qF<|zP<|jB 3 u<|qG (gv kk [0] (gq [0,1,2])))<|qO<|
  qN<|qQ<|qP<|zP<|jA 1 u<|zH<|zQ u u kk [] d
theorem zZ4 {qd : Prop} {y0 : List zG} {y1 : List zG} : qC qd prog 104 [sv p1 y0 c1, sv p2 y1 c2] [] [Rl wO p1 c1 y0, Rl wO p2 c2 y1] (zQd y0 y1) fun r K=>K (vb r) [] [] :=
 zY call104 func104 u fun X=>jA 1 u<|zD<|jA 1 u<|zR<|qR (fun s1 K=>K [0,1] [] [0,1] [(5, vi s1)] []) (gv kk [] (gq [0,1]))<|fun s1 _ k=>k<|zD<|jA 4 u<|zJ u (jC<|zD<|zR<|zC<|zA 3 u<|qX 1 u u u<|fun x1 b1 o1=>
  qW true yI (gk 0) u<|qI zNs u (cq [1])<|fun r1 _ k=>k<|zA 1 u<|zB<|zJ u (jA 1 u<|zH<|qK<|zZ<|wQ<|qK<|zZ<|zQ u u kk [] d)<|wF<|qF<|zP<|jB 3 u<|qG (gv kk [] (gq [1,2])))<|
  qO<|qN<|qQ<|qP<|zP<|jA 1 u<|zH<|zQ u u kk [] d
theorem zUD {qd : Prop} {y0 : zO} {y1 : List zG} : qC qd prog 44 [.agg (vN y0 p1 c1 p2 c2 p3 c3).toArray, sv p4 y1 c4] [] (vV y0 p1 c1 p2 c2 p3 c3 [Rl wO p4 c4 y1]) (zJb y0 y1) fun r K=>∀ p5 c5,K (sv p5 r c5) [] [Rl wO p5 c5 r] :=
 zY call44 func44 u fun X=>zC<|qV .s u<|fun b1=>zA 1 u<|zB<|zC<|zA 1 u<|qI zQ4 u (cq [3])<|fun r1 _ k p5 c5=>k<|zA 1 u<|zB<|zD<|jA 1 u<|zR<|
  qR (fun s1 K=>∀ p6 c6,K [2] [] [1,2,3] [(5, sv p6 s1.1 c6), (6, vb s1.2)] [Rl wO p6 c6 s1.1]) (gv (fun _ k=>k p5 c5) [0] (gq [0,1,2,3]))<|fun s1 _ k p6 c6=>k<|zD<|jA 1 u<|zJ u (jC<|zR<|jA 1 u<|jA 1 u<|zR<|
  qR (fun s2 K=>∀ p7 c7,K [2] [] [1,2,3] [(5, sv p7 s2.1 c7), (6, vb s2.2.1), (7, vi s2.2.2)] [Rl wO p7 c7 s2.1]) (gv (fun _ k=>k p6 c6) [0] (gq [0,1,2,3]))<|fun s2 _ k p7 c7=>k<|zD<|zC<|zA 1 u<|zN 1 u<|zT 0 u u u<|
  zA 2 u<|zB<|zJ u (jC<|zD<|zR<|zC<|zN 1 u<|zT 0 u u u<|zA 1 u<|qX 2 u u u<|fun x1 b2 o1=>qW true zM4 (gk 0) u<|fun p8 c8=>wN .s (.agg #[vs [], vb false, vi 0, .slice none 0 0, vb false, vs []])<|fun b3=>
  qJ .s 1 u u u<|zB<|wK (fun s3 K=>K [2,5,6,7,8] [] [2,3,4,5,0] [(38, vb s3)] []) (qM<|zN 1 u<|zT 1 u u u<|zA 1 u<|wL 26 u (zA 1 u<|zN 3 u<|zT 1 u u u<|qI zZ4 u (cq [2,0])<|fun r2 _ k=>k<|
  zL (vb r2)<|zA 1 u<|wL 32 u (zA 1 u<|zN 4 u<|qS 1 2 u u u<|qI zNs u (cq [2])<|fun r3 _ k=>k<|zA 1 u<|zL (vb (!r3))<|zV<|zM (gv kk [0,1] (gq [2,3,4,5,0])))<|zA 5 u<|zL (vb false)<|zV<|
  zM (gv kk [0,1] (gq [2,3,4,5,0])))<|zA 4 u<|zL (vb false)<|zA 6 u<|zL (vb false)<|zV<|zM (gv kk [0,1] (gq [2,3,4,5,0])))<|fun s3 _ k=>k<|zJ u (qM<|zA 1 u<|zN 4 u<|qS 1 2 u u u<|
  qI zMl u (cq [0])<|fun r4 _ k p9 c9=>k<|zA 2 u<|zV<|qF<|zP<|jB 3 u<|qG (gv (fun _ k=>k p9 c9) [0] (gq [0,2,3,4])))<|wF<|qF<|zP<|jB 3 u<|qG (gv (fun _ k=>k p7 c7) [0] (gq [0,1,2,3])))<|qO<|qN<|qQ<|qP<|qF<|
  qG (gv (fun _ k=>k p7 c7) [0] (gq [0,1,2,3])))<|qO<|qN<|qQ<|qP<|zP<|jA 2 u<|zH<|zQ u u (fun _ k=>k p6 c6) [] (gq [0])
theorem zWb {qd : Prop} {y0 : zO} : qC qd prog 14 [.agg (vN y0 p1 c1 p2 c2 p3 c3).toArray] [] (vV y0 p1 c1 p2 c2 p3 c3 []) (zLW y0) fun r K=>K (vb r) [] [] :=
 zY call14 func14 u fun X=>zC<|qV .s u<|fun b1=>zA 1 u<|zB<|jjn (fun s1 K=>K [(2, vb s1)] [[]] []) (xB [] [0] 15<|vM 0 0 3 u u u u<|qH 1<|zX (.f u) [] [] zLR u u u (cq [0,1,2])<|fun r1 _ k=>k<|qB<|qA 11 [2,3] u<|
  wL 6 u (vM 4 0 3 u u u u<|qH 5<|zX (.f u) [] [] zVJ u u u (cq [0,1,2])<|fun r2 _ k=>k<|qB<|wU 6 (vb r2) u<|qA 7 [7] u<|wL 10 u (vM 8 0 3 u u u u<|vM 9 0 3 u u u u<|qH 10<|
  zX (.f u) [] [] zVB u u u (cq [0,1,2])<|fun r3 _ k p4 c4=>k<|qB<|qH 11<|zX (.f u) [] [] zUD u u u (cq [1,2,3,0])<|fun r4 _ k p5 c5=>k<|qB<|qH 12<|
  zX (.f u) [] [] zRf u u u (cq [0])<|fun r5 _ k=>k<|qB<|wU 13 (vb r5) u<|qA 0 [14] u<|wA<|zM (gv kk [900] d))<|qA 2 [8,9,10,11,12] u<|wU 13 (vb false) u<|qA 0 [14] u<|wA<|
  zM (gv kk [900] d))<|qA 9 [4,5] u<|wU 6 (vb false) u<|qA 2 [7,8,9,10,11,12] u<|wU 13 (vb false) u<|qA 0 [14] u<|wA<|zM (gv kk [900] d))<|fun s1 _ k=>k<|zH<|zQ u u kk [] d
theorem zXj {qd : Prop} {y0 : zO} : qC qd prog 35 [.agg (vN y0 p1 c1 p2 c2 p3 c3).toArray] [] (vV y0 p1 c1 p2 c2 p3 c3 []) (zM1 y0) fun r K=>∀ p4 c4 p5 c5 r_1 p6 c6,K (.agg #[sv p4 r.1 c4, sv p5 r.2.1 c5, sv p6 r.2.2 c6]) [r_1] [Rl xU p4 c4 r.1, Al yO 95 r_1 p5 c5 r.2.1, Rl xI p6 c6 r.2.2] :=
 zY call35 func35 u fun X=>zC<|qV .s u<|fun b1=>wN .s (.agg #[.slice none 0 0, .slice none 0 0, .slice none 0 0])<|fun b2=>zB<|
  wK (fun s1 K=>∀ b3 p4 c4 r_1 p5 c5 r_2 p6 c6 r_3,K [1,2] [(2, bx b3 29 [sv p4 s1.1 c4, sv p5 s1.2.1 c5, sv p6 s1.2.2 c6]), (3, r_1), (4, r_2), (5, r_3)] [0,1,2] [(3, pt b3 0)] [Al xU 90 r_1 p4 c4 s1.1, Al yO 95 r_2 p5 c5 s1.2.1, Al xI 97 r_3 p6 c6 s1.2.2]) (
  xB [] [0] 11<|qY 1 0 u u<|wI 2 0 u u u u<|qY 5 2 u u<|wI 6 0 u u u u<|jd3 0 4 9 (xN (.f u) (e := xU) 90 [] ([] : List vT) rN<|fun r_4 p7 c7=>qB<|jd3 3 4 9 (wM (.f u) 2 0 u (gk 1) u u<|
  fun x1 r_5 p8 c8=>qB<|jd2 4 9 (xN (.f u) (e := xI) 97 [] ([] : List vQ) rN<|fun r_6 p9 c9=>qB<|jd2 7 9 (wM (.f u) 3 0 u (gk 5) u u<|fun x2 r_7 p10 c10=>qB<|
  wU 8 (.agg #[sv p8 x1 c8, .slice none 0 0, sv p10 x2 c10]) u<|vJ yO 95<|qH 9<|wN (.f u) (.agg #[.slice none 0 0, .slice none 0 0, .slice none 0 0])<|fun b4=>qB<|qH 10<|qJ (o := 0) (.f u) 5 u u u<|qB<|wA<|
  zM (gv (fun _ k=>k b4 p8 c8 r_5 none 0 [] p10 c10 r_7) [0,1,5,2,4,3] (gq [3,0,1,5,6,7]))) <|wN (.f u) (.agg #[.slice none 0 0, .slice none 0 0, .slice none 0 0])<|fun b5=>qB<|qH 7<|wM (.f u) 3 0 u (gk 5) u u<|
  fun x3 r_8 p11 c11=>qB<|wU 8 (.agg #[sv p8 x1 c8, .slice none 0 0, sv p11 x3 c11]) u<|vJ yO 95<|qH 10<|qJ (o := 0) (.f u) 4 u u u<|qB<|wA<|
  zM (gv (fun _ k=>k b5 p8 c8 r_5 none 0 [] p11 c11 r_8) [0,1,4,2,5,3] (gq [3,0,1,5,6,7]))) <|wN (.f u) (.agg #[.slice none 0 0, .slice none 0 0, .slice none 0 0])<|fun b6=>qB<|qH 4<|
  xN (.f u) (e := xI) 97 [] ([] : List vQ) rN<|fun r_9 p12 c12=>qB<|qH 7<|wM (.f u) 4 0 u (gk 5) u u<|fun x4 r_10 p13 c13=>qB<|wU 8 (.agg #[sv p8 x1 c8, .slice none 0 0, sv p13 x4 c13]) u<|vJ yO 95<|
  qH 10<|qJ (o := 0) (.f u) 3 u u u<|qB<|wA<|zM (gv (fun _ k=>k b6 p8 c8 r_5 none 0 [] p13 c13 r_10) [0,1,3,2,5,4] (gq [3,0,1,5,6,7]))) (xN (.f u) (e := xI) 97 [] ([] : List vQ) rN<|fun r_11 p14 c14=>qB<|
  jd2 3 9 (wM (.f u) 2 1 u (gk 2) u u<|fun x5 r_12 p15 c15=>qB<|jd2 7 9 (wM (.f u) 3 1 u (gk 5) u u<|fun x6 r_13 p16 c16=>qB<|wU 8 (.agg #[sv p15 x5 c15, .slice none 0 0, sv p16 x6 c16]) u<|vJ yO 95<|qH 9<|
  wN (.f u) (.agg #[.slice none 0 0, .slice none 0 0, .slice none 0 0])<|fun b7=>qB<|qH 10<|qJ (o := 0) (.f u) 5 u u u<|qB<|wA<|zM (gv (fun _ k=>k b7 p15 c15 r_12 none 0 [] p16 c16 r_13) [0,1,5,2,4,3] (gq [2,0,1,5,6,7]))) <|
  wN (.f u) (.agg #[.slice none 0 0, .slice none 0 0, .slice none 0 0])<|fun b8=>qB<|qH 7<|wM (.f u) 3 1 u (gk 5) u u<|fun x7 r_14 p17 c17=>qB<|wU 8 (.agg #[sv p15 x5 c15, .slice none 0 0, sv p17 x7 c17]) u<|vJ yO 95<|
  qH 10<|qJ (o := 0) (.f u) 4 u u u<|qB<|wA<|zM (gv (fun _ k=>k b8 p15 c15 r_12 none 0 [] p17 c17 r_14) [0,1,4,2,5,3] (gq [2,0,1,5,6,7]))) <|wN (.f u) (.agg #[.slice none 0 0, .slice none 0 0, .slice none 0 0])<|fun b9=>qB<|
  qH 3<|wM (.f u) 2 1 u (gk 2) u u<|fun x8 r_15 p18 c18=>qB<|qH 7<|wM (.f u) 3 1 u (gk 5) u u<|fun x9 r_16 p19 c19=>qB<|wU 8 (.agg #[sv p18 x8 c18, .slice none 0 0, sv p19 x9 c19]) u<|vJ yO 95<|qH 10<|
  qJ (o := 0) (.f u) 4 u u u<|qB<|wA<|zM (gv (fun _ k=>k b9 p18 c18 r_15 none 0 [] p19 c19 r_16) [0,1,4,2,5,3] (gq [2,0,1,5,6,7]))) <|wN (.f u) (.agg #[.slice none 0 0, .slice none 0 0, .slice none 0 0])<|fun b10=>qB<|jd2 3 4
  (wM (.f u) 2 0 u (gk 1) u u<|fun x10 r_17 p20 c20=>qB<|qH 4<|xN (.f u) (e := xI) 97 [] ([] : List vQ) rN<|fun r_18 p21 c21=>qB<|qH 7<|wM (.f u) 4 0 u (gk 5) u u<|fun x11 r_19 p22 c22=>qB<|
  wU 8 (.agg #[sv p20 x10 c20, .slice none 0 0, sv p22 x11 c22]) u<|vJ yO 95<|qH 10<|qJ (o := 0) (.f u) 3 u u u<|qB<|wA<|zM (gv (fun _ k=>k b10 p20 c20 r_17 none 0 [] p22 c22 r_19) [0,1,3,2,5,4] (gq [3,0,1,5,6,7]))) <|
  xN (.f u) (e := xI) 97 [] ([] : List vQ) rN<|fun r_20 p23 c23=>qB<|qH 3<|wM (.f u) 2 1 u (gk 2) u u<|fun x12 r_21 p24 c24=>qB<|qH 7<|wM (.f u) 4 1 u (gk 5) u u<|fun x13 r_22 p25 c25=>qB<|
  wU 8 (.agg #[sv p24 x12 c24, .slice none 0 0, sv p25 x13 c25]) u<|vJ yO 95<|qH 10<|qJ (o := 0) (.f u) 3 u u u<|qB<|wA<|zM (gv (fun _ k=>k b10 p24 c24 r_21 none 0 [] p25 c25 r_22) [0,1,3,2,5,4] (gq [2,0,1,5,6,7]))) (
  xN (.f u) (e := xI) 97 [] ([] : List vQ) rN<|fun r_23 p26 c26=>qB<|jd2 0 9 (xN (.f u) (e := xU) 90 [] ([] : List vT) rN<|fun r_24 p27 c27=>qB<|jd2 3 9 (wM (.f u) 3 0 u (gk 2) u u<|
  fun x14 r_25 p28 c28=>qB<|jd2 7 9 (wM (.f u) 2 2 u (gk 5) u u<|fun x15 r_26 p29 c29=>qB<|wU 8 (.agg #[sv p28 x14 c28, .slice none 0 0, sv p29 x15 c29]) u<|vJ yO 95<|qH 9<|
  wN (.f u) (.agg #[.slice none 0 0, .slice none 0 0, .slice none 0 0])<|fun b11=>qB<|qH 10<|qJ (o := 0) (.f u) 5 u u u<|qB<|wA<|zM (gv (fun _ k=>k b11 p28 c28 r_25 none 0 [] p29 c29 r_26) [0,1,5,3,4,2] (gq [2,0,1,5,6,7])))
  <|wN (.f u) (.agg #[.slice none 0 0, .slice none 0 0, .slice none 0 0])<|fun b12=>qB<|qH 7<|wM (.f u) 2 2 u (gk 5) u u<|fun x16 r_27 p30 c30=>qB<|wU 8 (.agg #[sv p28 x14 c28, .slice none 0 0, sv p30 x16 c30]) u<|
  vJ yO 95<|qH 10<|qJ (o := 0) (.f u) 4 u u u<|qB<|wA<|zM (gv (fun _ k=>k b12 p28 c28 r_25 none 0 [] p30 c30 r_27) [0,1,4,3,5,2] (gq [2,0,1,5,6,7]))) <|
  wN (.f u) (.agg #[.slice none 0 0, .slice none 0 0, .slice none 0 0])<|fun b13=>qB<|qH 3<|wM (.f u) 3 0 u (gk 2) u u<|fun x17 r_28 p31 c31=>qB<|qH 7<|wM (.f u) 2 2 u (gk 5) u u<|fun x18 r_29 p32 c32=>qB<|
  wU 8 (.agg #[sv p31 x17 c31, .slice none 0 0, sv p32 x18 c32]) u<|vJ yO 95<|qH 10<|qJ (o := 0) (.f u) 4 u u u<|qB<|wA<|zM (gv (fun _ k=>k b13 p31 c31 r_28 none 0 [] p32 c32 r_29) [0,1,4,3,5,2] (gq [2,0,1,5,6,7]))) <|
  wN (.f u) (.agg #[.slice none 0 0, .slice none 0 0, .slice none 0 0])<|fun b14=>qB<|qH 0<|xN (.f u) (e := xU) 90 [] ([] : List vT) rN<|fun r_30 p33 c33=>qB<|qH 3<|wM (.f u) 4 0 u (gk 2) u u<|
  fun x19 r_31 p34 c34=>qB<|qH 7<|wM (.f u) 2 2 u (gk 5) u u<|fun x20 r_32 p35 c35=>qB<|wU 8 (.agg #[sv p34 x19 c34, .slice none 0 0, sv p35 x20 c35]) u<|vJ yO 95<|qH 10<|qJ (o := 0) (.f u) 3 u u u<|qB<|wA<|
  zM (gv (fun _ k=>k b14 p34 c34 r_31 none 0 [] p35 c35 r_32) [0,1,3,4,5,2] (gq [2,0,1,5,6,7]))) <|wN (.f u) (.agg #[.slice none 0 0, .slice none 0 0, .slice none 0 0])<|fun b15=>qB<|jd2 0 4 (
  xN (.f u) (e := xU) 90 [] ([] : List vT) rN<|fun r_33 p36 c36=>qB<|jd2 3 4 (wM (.f u) 3 0 u (gk 1) u u<|fun x21 r_34 p37 c37=>qB<|qH 4<|xN (.f u) (e := xI) 97 [] ([] : List vQ) rN<|
  fun r_35 p38 c38=>qB<|qH 7<|wM (.f u) 4 0 u (gk 5) u u<|fun x22 r_36 p39 c39=>qB<|wU 8 (.agg #[sv p37 x21 c37, .slice none 0 0, sv p39 x22 c39]) u<|vJ yO 95<|qH 10<|qJ (o := 0) (.f u) 2 u u u<|qB<|wA<|
  zM (gv (fun _ k=>k b15 p37 c37 r_34 none 0 [] p39 c39 r_36) [0,1,2,3,5,4] (gq [3,0,1,5,6,7]))) <|xN (.f u) (e := xI) 97 [] ([] : List vQ) rN<|fun r_37 p40 c40=>qB<|qH 3<|wM (.f u) 3 1 u (gk 2) u u<|
  fun x23 r_38 p41 c41=>qB<|qH 7<|wM (.f u) 4 1 u (gk 5) u u<|fun x24 r_39 p42 c42=>qB<|wU 8 (.agg #[sv p41 x23 c41, .slice none 0 0, sv p42 x24 c42]) u<|vJ yO 95<|qH 10<|qJ (o := 0) (.f u) 2 u u u<|qB<|wA<|
  zM (gv (fun _ k=>k b15 p41 c41 r_38 none 0 [] p42 c42 r_39) [0,1,2,3,5,4] (gq [2,0,1,5,6,7]))) <|xN (.f u) (e := xI) 97 [] ([] : List vQ) rN<|fun r_40 p43 c43=>qB<|qH 0<|
  xN (.f u) (e := xU) 90 [] ([] : List vT) rN<|fun r_41 p44 c44=>qB<|qH 3<|wM (.f u) 4 0 u (gk 2) u u<|fun x25 r_42 p45 c45=>qB<|qH 7<|wM (.f u) 3 2 u (gk 5) u u<|fun x26 r_43 p46 c46=>qB<|
  wU 8 (.agg #[sv p45 x25 c45, .slice none 0 0, sv p46 x26 c46]) u<|vJ yO 95<|qH 10<|qJ (o := 0) (.f u) 2 u u u<|qB<|wA<|zM (gv (fun _ k=>k b15 p45 c45 r_42 none 0 [] p46 c46 r_43) [0,1,2,4,5,3] (gq [2,0,1,5,6,7])))<|
  fun s1 _ k b3 p4 c4 r_1 p5 c5 r_2 p6 c6 r_3=>k<|wK (fun s2 K=>∀ p47 c47 r_44,K [2,3] [(0, []), (2, bx b3 29 [sv p4 s1.1 c4, sv p47 s2 c47, sv p6 s1.2.2 c6]), (4, r_44)] [0,2] [] [Al yO 95 r_44 p47 c47 s2]) (jA 1 u<|zR<|
  qR (fun s3 K=>∀ p48 c48 r_45,K [1,2,3] [(2, bx b3 29 [sv p4 s1.1 c4, sv p48 s3.2 c48, sv p6 s1.2.2 c6]), (4, r_45)] [3,4,5,0,2] [(4, vi s3.1)] [Al yO 95 r_45 p48 c48 s3.2]) (gv (fun _ k=>k p5 c5 r_2) [0,1,2,3,4,5] (gq [1,3,4,5,0,2]))<|
  fun s3 _ k p48 c48 r_45=>k<|zD<|zC<|zA 1 u<|zN 1 u<|zT 0 u u u<|zA 2 u<|zB<|zJ u (jC<|zD<|zR<|zC<|zN 1 u<|zT 0 u u u<|zA 1 u<|qX 2 u u u<|fun x27 b16 o1=>qW true zM4 (gk 0) u<|fun p49 c49=>
  wN .s (.agg #[vs [], vb false, vi 0, .slice none 0 0, vb false, vs []])<|fun b17=>qJ .s 6 u u u<|zB<|zC<|xN .s (e := wO) 66 [] ([] : List zG) rN<|fun r_46 p50 c50=>zN 3 u<|zT 6 u u u<|
  wM .s 7 0 u (gk 1) u u<|fun x28 r_47 p51 c51=>zN 3 u<|qJ .s 6 u u u<|zB<|qM<|zN 1 u<|zT 2 u u u<|qS 6 6 u u u<|wY 7 0 u u<|
  wT .s (e := yO) 95 [vs x27.1, vb x27.2.1, vi x27.2.2.1, sv p51 x28 c51, vb x27.2.2.2.2.1, vs x27.2.2.2.2.2] ([(x27.1, x27.2.1, x27.2.2.1, x28, x27.2.2.2.2)] : List qL) (rC (vP vS (vP vB (vP vI (vP (vL (gk 0)) (vP vB vS))))) rN)<|
  fun p52 c52=>wM .s 4 6 u (gk 0) u u<|fun x29 r_48 p53 c53=>zN 1 u<|qJ .s 2 u u u<|zV<|qF<|zP<|jB 3 u<|qG (gv (fun _ k=>k p53 c53 r_48) [0,1,2,3,4,5] (gq [0,8,9,10,11,12])))<|qO<|qN<|qQ<|qP<|
  zM (gv (fun _ k=>k p48 c48 r_45) [900,1,2,3,4,5] (gq [0,4,5])))<|fun s2 _ k p47 c47 r_44=>k<|zC<|qS 2 3 u u u<|qJ .s 1 u u u<|zB<|zH<|wY 3 1 u u<|wY 5 3 u u<|
  wG u (lC 1 (.agg #[sv p4 s1.1 c4, sv p47 s2 c47, sv p6 s1.2.2 c6]) u u lN) (fun _ k=>k p4 c4 p47 c47 r_44 p6 c6) [4] (gq [1,2,0])
theorem zQy {qd : Prop} (k : Nat) :
    (∀ {y0 : Int}, qC qd prog 99 [vi y0] [] [] (zEL k y0) fun r K=>K (vs r) [] []) := by
  induction k with
  | zero => exact z42 call99
  | succ k ih =>
    have ih_ref06_decimal := @ih
    exact @fun y0=>zY (m1 := zFv (zEL k) y0) call99 func99 u fun X=>jA 1 u<|zD<|jA 2 u<|zJ u (zC<|zA 3 u<|yP fun x1 h1=>jv (fun h=>zTt h u underlying9 u u (.inr ⟨_, rfl⟩) (.inr ⟨_, rfl⟩) h1)<|zA 1 u<|zB<|zH<|zZ<|zQ u u kk [] d)<|jC<|yA [] [] 11<|
  qA 10 [0] u<|yP fun x2 h2=>xS 1 u (fun h=>z5e h u u h2)<|qA 8 [3] u<|yP fun x3 h3=>xS 4 u (fun h=>z2Y h u u h3)<|qA 6 [5] u<|yP fun x4 h4=>xS 6 u (fun h=>z2Y h u u h4)<|qA 4 [7] u<|
  yP fun x5 h5=>xS 8 u (fun h=>zTt h u underlying9 u u (.inr ⟨_, rfl⟩) (.inr ⟨_, rfl⟩) h5)<|qH 2<|zX (.f u) [] [] ih_ref06_decimal u u u d<|fun r1 _ k=>k<|qB<|yP fun x6 h6=>
  xS 9 u (fun h=>zS7 h u u h6)<|qA 0 [10] u<|wA<|zP<|zH<|zQ u u kk [] d
theorem zOx {qd : Prop} {y0 : Int} : qC qd prog 99 [vi y0] [] [] (zJ2 y0) fun r K=>K (vs r) [] [] := zRo fun k => (zQy k)
theorem zXg {qd : Prop} {y0 : zO} : qC qd prog 38 [.agg (vN y0 p1 c1 p2 c2 p3 c3).toArray] [] (vV y0 p1 c1 p2 c2 p3 c3 []) (zMh y0) fun r K=>K (vs r) [] [] :=
 zY call38 func38 u fun X=>zC<|qV .s u<|fun b1=>zA 1 u<|zB<|jA 1 u<|jjn (fun s1 K=>K [(3, vi s1)] [[]] []) (zR<|qR (fun s2 K=>K [1] [] [0,1,2] [(3, vi s2)] []) (gv kk [0] (gq [0,1,2]))<|fun s2 _ k=>k<|zD<|yA [] [0] 6<|
  vM 0 0 3 u u u u<|qA 4 [1] u<|qH 2<|zX (.f u) [] [] zOx u u u d<|fun r1 _ k=>k<|qB<|yP fun x1 h1=>xS 3 u (fun h=>zS7 h u u h1)<|qH 4<|zX (.f u) [] [] zPX u u u (cq [0,1,2])<|
  fun r2 _ k=>k<|qB<|qA 0 [5] u<|wA<|zP<|zJ u (jC<|zR<|jB 3 u<|qF<|qG (gv kk [0] (gq [0,1,2])))<|qO<|qN<|qQ<|qP<|zM (gv kk [900] d))<|fun s1 _ k=>k<|zC<|zA 1 u<|qI zOx u d<|
  fun r3 _ k=>k<|yP fun x2 h2=>jv (fun h=>zS7 h u u h2)<|zA 1 u<|zB<|zH<|zQ u u kk [] d
theorem zSE {qd : Prop} {y0 : zO} : qC qd prog 12 [.agg (vN y0 p1 c1 p2 c2 p3 c3).toArray] [] (vV y0 p1 c1 p2 c2 p3 c3 []) (zIJ y0) fun r K=>∀ p4 c4 p5 c5 p6 c6,K (.tuple #[.agg (vN r.1 p4 c4 p5 c5 p6 c6).toArray, vi r.2]) [] (vV r.1 p4 c4 p5 c5 p6 c6 []) :=
 zY call12 func12 u fun X=>zC<|qV .s u<|fun b1=>wN .s (.agg #[.slice none 0 0, .slice none 0 0, .slice none 0 0])<|fun b2=>zA 1 u<|zB<|zD<|zC<|qS 0 3 u u u<|qI zLR u (cq [0,1,2])<|fun r1 _ k=>k<|zA 1 u<|zB<|jA 2 u<|zJ u (
  zC<|zL (.agg #[.slice none 0 0, .slice none 0 0, .slice none 0 0])<|zA 1 u<|qJ .s 1 u u u<|zA 1 u<|zB<|zH<|zZ<|
  wG u (lC 1 (.agg #[.slice none 0 0, .slice none 0 0, .slice none 0 0]) u u (lT u lN)) (fun _ k=>k none 0 none 0 none 0) [] ⟨gn,gn,gn,d⟩)<|jC<|zC<|qS 0 3 u u u<|qI zXj u (cq [0,1,2])<|
  fun r2 _ k p4 c4 p5 c5 r_1 p6 c6=>k<|wN .s (.agg #[.slice none 0 0, .slice none 0 0, .slice none 0 0])<|fun b3=>qJ .s 3 u u u<|zB<|
  zYy (fun s1 K=>∀ p7 c7 r_2,K [2,5] [(0, []), (2, r_2), (3, bx b3 29 [sv p4 r2.1 c4, sv p7 s1 c7, sv p6 r2.2.2 c6])] [0,2] [] [Al yO 95 r_2 p7 c7 s1]) (jA 1 u<|zR<|
  qR (fun s2 K=>∀ p8 c8 r_3,K [2,5] [(0, []), (2, r_3), (3, bx b3 29 [sv p4 r2.1 c4, sv p8 s2.2 c8, sv p6 r2.2.2 c6])] [0,2] [(6, vi s2.1)] [Al yO 95 r_3 p8 c8 s2.2]) (gv (fun _ k=>k p5 c5 r_1) [900,1,2,3] (gq [1,0,2]))<|
  fun s2 _ k p8 c8 r_3=>k<|zD<|zC<|zA 1 u<|zN 1 u<|zT 3 u u u<|zA 2 u<|zB<|zJ u (jC<|zD<|zR<|zC<|zN 1 u<|zT 3 u u u<|zA 1 u<|tV 0 u u u<|fun x1 h1 b4 hp1=>jlA 2 0 sI true zM4 u hp1 h1 u<|
  fun p9 c9=>wN .s (.agg #[vs [], vb false, vi 0, .slice none 0 0, vb false, vs []])<|fun b5=>qJ .s 4 u u u<|zB<|jA 1 u<|zR<|
  qR (fun s3 K=>∀ p10 c10 r_4,K [2,5,6,7] [(2, r_4), (3, bx b3 29 [sv p4 r2.1 c4, sv p10 s3.2 c10, sv p6 r2.2.2 c6])] [2,3,0] [(8, vi s3.1)] [Al yO 95 r_4 p10 c10 s3.2]) (gv (fun _ k=>k p8 c8 r_3) [900,1,2,3,4] (gq [1,2,3,0]))<|
  fun s3 _ k p10 c10 r_4=>k<|zD<|tK (fun K=>K [2,5,6,7,8] [] [1,0,2,3] [(38, vb ((decide (s3.1 < (len x1.2.2.2.1))) && x1.2.1))] []) (qM<|zA 1 u<|zN 3 u<|zT 4 u u u<|zA 3 u<|
  uF (b := decide (s3.1 < (len x1.2.2.2.1))) 35 u (fun hb1=>zN 1 u<|zT 4 u u u<|zL (vb x1.2.1)<|zV<|wX 38 (vb ((decide (s3.1 < (len x1.2.2.2.1))) && x1.2.1)) u (by rw [hb1]; rfl)<|
  zM (gv kk [900,1,2,3,4] (gq [1,0,2,3])))<|fun hb1=>zA 2 u<|zL (vb false)<|zV<|wX 38 (vb ((decide (s3.1 < (len x1.2.2.2.1))) && x1.2.1)) u (by rw [hb1]; rfl)<|zM (gv kk [900,1,2,3,4] (gq [1,0,2,3])))<|fun _ k=>
  k<|zJ u (jC<|zD<|zR<|zC<|qS 4 6 u u u<|zA 1 u<|qI zNF u (cq [3])<|fun r3 _ k p11 c11=>k<|wN .s (.agg #[vs [], vb false, vi 0, .slice none 0 0, vb false, vs []])<|fun b6=>qJ .s 5 u u u<|zB<|zD<|
  zC<|qS 3 3 u u u<|qS 5 6 u u u<|zX .s [] [2] zRQ u u u ⟨ck 1,cl 2 2,ck 3,ck 0,d⟩<|fun r4 _ k=>k<|zB<|zJ u (qO<|qN<|qP<|zP<|jB 3 u<|qG (gv (fun _ k=>k p10 c10 r_4) [900,1,2,3,4] (gq [2,1,3,4])))<|
  jC<|zD<|zC<|zN 1 u<|zT 3 u u u<|zA 2 u<|zB<|zJ u (zC<|zL (.agg #[.slice none 0 0, .slice none 0 0, .slice none 0 0])<|qJ .s 1 u u u<|zA 1 u<|zB<|zH<|zZ<|qK<|zZ<|wQ<|qK<|qK<|zZ<|wQ<|qK<|wQ<|
  wG u (lC 1 (.agg #[.slice none 0 0, .slice none 0 0, .slice none 0 0]) u u (lT u lN)) (fun _ k=>k none 0 none 0 none 0) [] ⟨gn,gn,gn,d⟩)<|jC<|zC<|qS 3 3 u u u<|
  zX .s [] [2] zXg u u u ⟨ck 1,cl 2 2,ck 3,d⟩<|fun r5 _ k=>k<|zN 0 u<|qJ .s 5 u u u<|zB<|qM<|zN 1 u<|zT 3 u u u<|qS 5 6 u u u<|
  wT .s (e := yO) 95 [vs r5, vb r3.2.1, vi r3.2.2.1, sv p11 r3.2.2.2.1 c11, vb r3.2.2.2.2.1, vs r3.2.2.2.2.2] ([(r5, r3.2.1, r3.2.2.1, r3.2.2.2.1, r3.2.2.2.2)] : List qL) (rC (vP vS (vP vB (vP vI (vP (vL (gk 0)) (vP vB vS))))) rN)<|
  fun p12 c12=>wM .s 2 3 u (gk 0) u u<|fun x2 r_5 p13 c13=>zN 1 u<|qJ .s 3 u u u<|zV<|qF<|zP<|jB 3 u<|qG (gv (fun _ k=>k p13 c13 r_5) [900,1,2,3,4] (gq [0,3,5,6])))<|qO<|qN<|qQ<|qP<|qF<|zP<|jB 3 u<|
  qG (gv (fun _ k=>k p10 c10 r_4) [900,1,2,3] (gq [1,0,2])))<|qO<|qN<|qQ<|qP<|qG (gv (fun _ k=>k p8 c8 r_3) [900,1,2,3] (gq [0,1,2])))<|fun s1 _ k p7 c7 r_2=>k<|zC<|qS 3 3 u u u<|qJ .s 1 u u u<|zA 1 u<|zB<|zH<|
  wY 2 0 u u<|wG u (lC 1 (.agg #[sv p4 r2.1 c4, sv p7 s1 c7, sv p6 r2.2.2 c6]) u u (lT u lN)) (fun _ k=>k p4 c4 p7 c7 p6 c6) [] (gq [2,0,3])
theorem zQ5 {qd : Prop} {y0 : List Int} {y1 : Int} : qC qd prog 170 [sv p1 y0 c1, vi y1] [] [Rl (zK .i64) p1 c1 y0] (zIh y0 y1) fun r K=>∀ p2 c2,K (sv p2 r c2) [] [Rl (zK .i64) p2 c2 r] :=
 zY call170 func170 u fun X=>jA 1 u<|jA 1 u<|wK (fun s1 K=>K [0,1] [] [0] [(5, vi s1)] []) (zR<|qR (fun s2 K=>K [0,1] [] [0] [(5, vi s2)] []) (gv kk [] (gq [0]))<|fun s2 _ k=>k<|zD<|wK (fun s3 K=>K [0,1,5] [] [0] [(18, vb s3)] []) (qM<|
  zA 5 u<|wL 11 u (zA 2 u<|qX 0 u u u<|fun x1 b1 o1=>qW false oI (gk 0) u<|zA 2 u<|zL (vb (decide (x1 < y1)))<|zV<|zM (gv kk [] (gq [1])))<|zA 6 u<|zL (vb false)<|zV<|zM (gv kk [] (gq [0]))
  )<|fun s3 _ k=>k<|zJ u (jC<|zR<|jB 3 u<|qF<|qG (gv kk [] (gq [0])))<|qO<|qN<|qQ<|qP<|zM (gv kk [] (gq [0])))<|fun s1 _ k=>k<|zD<|wK (fun s4 K=>K [0,1,5] [] [0] [(32, vb s4)] []) (qM<|zA 5 u<|
  wL 25 u (zA 2 u<|qX 0 u u u<|fun x2 b2 o2=>qW false oI (gk 0) u<|zA 2 u<|zL (vb (x2 == y1))<|zV<|zM (gv kk [] (gq [1])))<|zA 6 u<|zL (vb false)<|zV<|zM (gv kk [] (gq [0])))<|fun s4 _ k=>k<|
  zJ u (jA 2 u<|zH<|zZ<|zQ u u (fun _ k=>k p1 c1) [] (gq [0]))<|jC<|zC<|xN .s (e := zK .i64) 3 [] ([] : List Int) rN<|fun r_1 p2 c2=>zA 2 u<|jsl (gk 1) u u u (.inl ⟨rfl, rfl⟩) (.inr ⟨_, rfl⟩)<|fun x3 p3 c3=>
  wM .s 0 1 u (gk 0) u u<|fun x4 r_2 p4 c4=>zA 1 u<|zB<|yA [] [] 9<|qA 5 [0,1,4,5] u<|jdw 6 u (gk 3) u u u (.inr ⟨_, rfl⟩) (.inl ⟨rfl, rfl⟩)<|fun x5 p5 c5=>qH 2<|
  wT (.f u) (e := zK .i64) 3 [vi y1] ([y1] : List Int) (rC vI rN)<|fun p6 c6=>qB<|qH 3<|wM (.f u) 0 2 u (gk 0) u u<|fun x6 r_3 p7 c7=>qB<|qH 7<|wM (.f u) 0 0 u (gk 2) u u<|fun x7 r_4 p8 c8=>qB<|qA 0 [8] u<|wA<|
  zP<|zH<|wY 0 0 u u<|zQ u u (fun _ k=>k p8 c8) [] (gq [0])
theorem zWe {qd : Prop} {y0 : List Int} {y1 : List Int} : qC qd prog 246 [sv p1 y0 c1, sv p2 y1 c2] [] [Rl (zK .i64) p1 c1 y0, Rl (zK .i64) p2 c2 y1] (zNm y0 y1) fun r K=>∀ p3 c3,K (sv p3 r c3) [] [Rl (zK .i64) p3 c3 r] :=
 zY call246 func246 u fun X=>jA 1 u<|zD<|jA 1 u<|zR<|qR (fun s1 K=>∀ p3 c3,K [1] [] [1] [(0, sv p3 s1.1 c3), (5, vi s1.2)] [Rl (zK .i64) p3 c3 s1.1]) (gv (fun _ k=>k p1 c1) [] (gq [0,1]))<|fun s1 _ k p3 c3=>k<|zD<|jA 4 u<|zJ u (jC<|zD<|zR<|qM<|
  zA 3 u<|qX 1 u u u<|fun x1 b1 o1=>qW false oI (gk 0) u<|qI zQ5 u (cq [1])<|fun r1 _ k p4 c4=>k<|zA 1 u<|zV<|qF<|zP<|jB 3 u<|qG (gv (fun _ k=>k p4 c4) [] (gq [0,3])))<|qO<|qN<|qQ<|qP<|zP<|jA 2 u<|
  zH<|zQ u u (fun _ k=>k p3 c3) [] (gq [0])
theorem zTO {qd : Prop} (k : Nat) :
    (∀ {y0 : List zI} {p1 : Option Addr} {c1 : Nat} {y1 : Int}, qC qd prog 169 [sv p1 y0 c1, vi y1] [] [Rl vC p1 c1 y0] (zHi k y0 y1) fun r K=>∀ p2 c2,K (sv p2 r c2) [] [Rl (zK .i64) p2 c2 r]) := by
  induction k with
  | zero => exact z42 call169
  | succ k ih =>
    have ih_ref07_Subs := @ih
    exact @fun y0 p1 c1 y1=>zY (m1 := zMb (zHi k) y0 y1) call169 func169 u fun X=>jA 1 u<|zD<|tK (fun K=>K [0,1] [] [0] [(14, vb ((decide (y1 < 0)) || (decide ((len y0) ≤ y1))))] []) (qM<|zA 3 u<|uF (b := decide (y1 < 0)) 9 u (fun hb1=>zA 4 u<|zL (vb true)<|zV<|
  wX 14 (vb ((decide (y1 < 0)) || (decide ((len y0) ≤ y1)))) u (by rw [hb1]; rfl)<|zM (gv kk [] (gq [0])))<|fun hb1=>zA 4 u<|zL (vb (decide ((len y0) ≤ y1)))<|zV<|
  wX 14 (vb ((decide (y1 < 0)) || (decide ((len y0) ≤ y1)))) u (by rw [hb1]; rfl)<|zM (gv kk [] (gq [0])))<|fun _ k=>k<|zJ u (jA 1 u<|zH<|zZ<|zQ u u (fun _ k=>k none 0) [] ⟨gn,d⟩)<|jC<|zC<|zA 1 u<|
  wT .s (e := zK .i64) 3 [vi y1] ([y1] : List Int) (rC vI rN)<|fun p2 c2=>zA 1 u<|zB<|zD<|jA 1 u<|zR<|
  qR (fun s1 K=>∀ p3 c3,K [0,1] [] [1] [(5, sv p3 s1.1 c3), (6, vi s1.2)] [Rl (zK .i64) p3 c3 s1.1]) (gv (fun _ k=>k p2 c2) [] (gq [0,1]))<|fun s1 _ k p3 c3=>k<|zD<|zC<|zA 3 u<|qX 1 u u u<|fun x1 b1 o1=>zN 2 u<|
  qW false oL (gf (gs (gs (gk 0)))) u<|fun p4 c4=>zA 2 u<|zB<|zJ u (jC<|zD<|zR<|qM<|zA 4 u<|qX 3 u u u<|fun x2 b2 o2=>zN 2 u<|qW false oL (gf (gs (gs (gk 0)))) u<|fun p5 c5=>zA 1 u<|qX 0 u u u<|
  fun x3 b3 o3=>qW false oI (gk 0) u<|qI ih_ref07_Subs u (cq [6])<|fun r1 _ k p6 c6=>k<|qI zWe u (cq [6,0])<|fun r2 _ k p7 c7=>k<|zA 1 u<|zV<|qF<|zP<|jB 3 u<|qG (gv (fun _ k=>k p7 c7) [] (gq [0,8])))<|qO<|qN<|
  qQ<|qP<|zP<|jA 2 u<|zH<|zQ u u (fun _ k=>k p3 c3) [] (gq [2])
theorem zXp {qd : Prop} {y0 : List zI} {y1 : Int} : qC qd prog 169 [sv p1 y0 c1, vi y1] [] [Rl vC p1 c1 y0] (zPZ y0 y1) fun r K=>∀ p2 c2,K (sv p2 r c2) [] [Rl (zK .i64) p2 c2 r] := zRo fun k => (zTO k)
theorem zMX {qd : Prop} {y0 : zO} {y1 : List zI} {y2 : Int} : qC qd prog 103 [.agg (vN y0 p1 c1 p2 c2 p3 c3).toArray, sv p4 y1 c4, vi y2] [] (vV y0 p1 c1 p2 c2 p3 c3 [Rl vC p4 c4 y1]) (zEg y0 y1 y2) fun r K=>∀ p5 c5,K (sv p5 r c5) [] [Rl (zK .i64) p5 c5 r] :=
 zY call103 func103 u fun X=>zC<|qV .s u<|fun b1=>zA 1 u<|zB<|jA 1 u<|zD<|zC<|zA 2 u<|qI zXp u (cq [3])<|fun r1 _ k p5 c5=>k<|zA 2 u<|zB<|zR<|
  qR (fun s1 K=>∀ p6 c6,K [1,3,12,13] [] [4,0,1,2,3] [(7, sv p6 s1.1 c6), (14, vi s1.2)] [Rl (zK .i64) p6 c6 s1.1]) (gv (fun _ k=>k none 0) [0] ⟨gn,gk 4,gk 0,gk 1,gk 2,gk 3,d⟩)<|fun s1 _ k p6 c6=>k<|jA 1 u<|zD<|zJ u (jC<|zD<|zR<|
  zC<|qX 2 u u u<|fun x1 b2 o1=>qW false oI (gk 0) u<|zA 1 u<|zB<|wK (fun s2 K=>K [1,3,7,9,12,13,14] [] [2,1,3,4,5,6] [(36, vb s2)] []) (xB [] [0] 19<|qA 17 [0,1] u<|uJ 2 2 u u u u<|fun x2 b3 o2=>
  qY 3 1 u u<|uI 4 false oI u (gf (gs (gk 0))) u<|qA 12 [5,6] u<|wL 24 u (qY 7 1 u u<|wI 8 0 u u u u<|qA 8 [9,10] u<|uJ 11 3 u u u u<|fun x3 b4 o3=>qY 12 1 u u<|
  uI 13 false oI u (gf (gs (gk 0))) u<|uJ 14 7 u u u u<|fun x4 b5 o4=>qY 15 1 u u<|uI 16 false oB u (gf (gs (gk 0))) u<|qA 1 [17] u<|wU 18 (vb (!x4.2.1)) u<|wA<|zM (gv kk [0] (gq [5,4,6,7,8,9])))<|
  qA 1 [7,8,9,10,11,12,13,14,15,16,17] u<|wU 18 (vb false) u<|wA<|zM (gv kk [0] (gq [3,2,4,5,6,7])))<|fun s2 _ k=>k<|zJ u (qM<|zA 3 u<|qX 0 u u u<|fun x5 b6 o5=>zN 1 u<|qW false oI (gf (gs (gk 0))) u<|
  qI zQ5 u (cq [2])<|fun r2 _ k p7 c7=>k<|zA 1 u<|zV<|qF<|zP<|jB 2 u<|qG (gv (fun _ k=>k p7 c7) [0] (gq [0,2,4,5,6,7])))<|wF<|qF<|zP<|jB 2 u<|qG (gv (fun _ k=>k p6 c6) [0] (gq [1,0,2,3,4,5])))<|qO<|qN<|qQ<|
  qP<|zP<|jA 2 u<|zH<|zQ u u (fun _ k=>k p6 c6) [] (gq [0])
theorem zUh {qd : Prop} (k : Nat) :
    (∀ {y0 : zO} {p1 : Option Addr} {c1 : Nat} {p2 : Option Addr} {c2 : Nat} {p3 : Option Addr} {c3 : Nat} {y1 : List zI} {p4 : Option Addr} {c4 : Nat} {y2 : Int}, qC qd prog 101 [.agg (vN y0 p1 c1 p2 c2 p3 c3).toArray, sv p4 y1 c4, vi y2] [] (vV y0 p1 c1 p2 c2 p3 c3 [Rl vC p4 c4 y1]) (zBx k y0 y1 y2) fun r K=>∀ p5 c5,K (sv p5 r c5) [] [Rl wO p5 c5 r]) := by
  induction k with
  | zero => exact z42 call101
  | succ k ih =>
    have ih_ref07_Run := @ih
    exact @fun y0 p1 c1 p2 c2 p3 c3 y1 p4 c4 y2=>zY (m1 := zGa (zBx k) y0 y1 y2) call101 func101 u fun X=>zC<|qV .s u<|fun b1=>zA 1 u<|zB<|zC<|zA 2 u<|qX 3 u u u<|fun x1 b2 o1=>zN 3 u<|qW true yI (gs (gs (gs (gk 0)))) u<|
  xN .s (e := wO) 66 [vb x1.2.2.2.1, vs x1.2.2.2.2] ([x1.2.2.2] : List zG) (rC (vP vB vS) rN)<|fun r_1 p5 c5=>zA 1 u<|zB<|zD<|wK (fun s1 K=>K [1,2,3,7] [] [5,0,2,3,4] [(32, vb s1)] []) (xB [] [0] 18<|qA 16 [0,1] u<|
  uJ 2 5 u u u u<|fun x2 b3 o2=>qY 3 1 u u<|uI 4 false oI u (gf (gs (gk 0))) u<|qA 11 [5,6] u<|wL 21 u (qY 7 1 u u<|wI 8 0 u u u u<|qA 7 [9,10] u<|uJ 11 6 u u u u<|fun x3 b4 o3=>
  qY 12 1 u u<|uI 13 false oI u (gf (gs (gk 0))) u<|uJ 14 5 u u u u<|fun x4 b5 o4=>qY 15 1 u u<|uI 16 false oB u (gf (gs (gk 0))) u<|wU 17 (vb x4.2.1) u<|wA<|zM (gv kk [0,1] (gq [8,3,5,6,7])))<|
  qA 1 [7,8,9,10,11,12,13,14,15,16] u<|wU 17 (vb false) u<|wA<|zM (gv kk [0,1] (gq [6,1,3,4,5])))<|fun s1 _ k=>k<|zJ u (jA 1 u<|zR<|
  qR (fun s2 K=>∀ p6 c6 r_2,K [1,2,3] [(1, r_2)] [0,2,3,4] [(7, sv p6 s2.1 c6), (8, vi s2.2)] [Al wO 66 r_2 p6 c6 s2.1]) (gv (fun _ k=>k p5 c5 r_1) [0,1] (gq [1,0,2,3,4]))<|fun s2 _ k p6 c6 r_2=>k<|zD<|zC<|zA 3 u<|
  qX 1 u u u<|fun x5 b6 o5=>zN 2 u<|qW false oL (gf (gs (gs (gk 0)))) u<|fun p7 c7=>zA 2 u<|zB<|zJ u (jC<|zD<|zR<|xB [] [0] 14<|qA 13 [0] u<|vM 1 0 3 u u u u<|qA 9 [2,3,4] u<|uJ 5 3 u u u u<|
  fun x6 b7 o6=>qY 6 2 u u<|uI 7 false oL u (gf (gs (gs (gk 0)))) u<|fun p8 c8=>qA 5 [8] u<|uJ 9 0 u u u u<|fun x7 b8 o7=>uI 10 false oI u (gk 0) u<|qH 11<|
  zX (.f u) [] [] ih_ref07_Run u u u (cq [7,8,9,6])<|fun r1 _ k p9 c9=>k<|qB<|qH 12<|wM (.f u) 1 6 u (gk 0) u u<|fun x8 r_3 p10 c10=>qB<|qA 0 [13] u<|wA<|qF<|zP<|jB 3 u<|
  qG (gv (fun _ k=>k p10 c10 r_3) [0,1] (gq [0,8,9,10,11])))<|qO<|qN<|qQ<|qP<|zP<|jA 2 u<|zH<|wY 1 2 u u<|zQ u u (fun _ k=>k p6 c6) [] (gq [0]))<|jC<|jA 2 u<|zH<|wY 1 1 u u<|
  zQ u u (fun _ k=>k p5 c5) [] (gq [0])
theorem zZP {qd : Prop} {y0 : zO} {y1 : List zI} {y2 : Int} : qC qd prog 101 [.agg (vN y0 p1 c1 p2 c2 p3 c3).toArray, sv p4 y1 c4, vi y2] [] (vV y0 p1 c1 p2 c2 p3 c3 [Rl vC p4 c4 y1]) (zKQ y0 y1 y2) fun r K=>∀ p5 c5,K (sv p5 r c5) [] [Rl wO p5 c5 r] := zRo fun k => (zUh k)
theorem zVa {qd : Prop} {y0 : List Int} {y1 : Int} : qC qd prog 102 [sv p1 y0 c1, vi y1] [] [Rl (zK .i64) p1 c1 y0] (zPz y0 y1) fun r K=>K (vb r) [] [] :=
 zY call102 func102 u fun X=>jA 1 u<|zD<|jA 1 u<|zR<|qR (fun s1 K=>K [0,1] [] [0] [(5, vi s1)] []) (gv kk [] (gq [0]))<|fun s1 _ k=>k<|zD<|jA 4 u<|zJ u (jC<|zD<|zR<|zC<|zA 2 u<|qX 0 u u u<|fun x1 b1 o1=>qW false oI (gk 0) u<|
  zA 2 u<|zB<|zJ u (jA 1 u<|zH<|qK<|zZ<|wQ<|qK<|zZ<|zQ u u kk [] d)<|wF<|qF<|zP<|jB 3 u<|qG (gv kk [] (gq [1])))<|qO<|qN<|qQ<|qP<|zP<|jA 1 u<|zH<|zQ u u kk [] d
theorem zQ0 {qd : Prop} {y0 : zO} {y1 : List zI} {y2 : Int} {y3 : List Int} : qC qd prog 41 [.agg (vN y0 p1 c1 p2 c2 p3 c3).toArray, sv p4 y1 c4, vi y2, sv p5 y3 c5] [] (vV y0 p1 c1 p2 c2 p3 c3 [Rl vC p4 c4 y1, Rl (zK .i64) p5 c5 y3]) (zGz y0 y1 y2 y3) fun r K=>K (vb r) [] [] :=
 zY call41 func41 u fun X=>zC<|qV .s u<|fun b1=>zA 1 u<|zB<|zC<|zN 1 u<|zT 0 u u u<|zA 1 u<|qX 1 u u u<|fun x1 b2 o1=>qW true zM4 (gk 0) u<|fun p6 c6=>wN .s (.agg #[vs [], vb false, vi 0, .slice none 0 0, vb false, vs []])<|
  fun b3=>qJ .s 1 u u u<|zB<|zD<|jA 1 u<|zR<|qR (fun s1 K=>K [1,2,3,4,9] [] [5,6,2,3,4,0] [(10, vi s1)] []) (gv kk [0,1] (gq [5,6,2,3,4,0]))<|fun s1 _ k=>k<|zD<|jA 4 u<|zJ u (jC<|zD<|zR<|
  wK (fun s2 K=>K [1,2,3,4,9,10] [] [0,1,2,3,4,5] [(51, vb s2)] []) (xB [] [0, 1] 30<|qY 0 1 u u<|wI 1 1 u u u u<|qA 27 [2] u<|wL 24 u (vM 3 0 3 u u u u<|qA 23 [4,5,6] u<|uJ 7 1 u u u u<|
  fun x2 b4 o2=>uI 8 false oI u (gk 0) u<|qY 10 4 u u<|vM 11 1 2 u u u u<|qH 9<|zX (.f u) [] [] zZP u u u (cq [3,4,5,1])<|fun r1 _ k p7 c7=>k<|qB<|qH 12<|
  zX (.f u) [] [] zNs u u u (cq [0])<|fun r2 _ k=>k<|qB<|wU 13 (vb r2) u<|qA 15 [14] u<|wL 36 u (qA 1 [15,16,17,18,19,20,21,22,23,24,25,26,27,28] u<|wU 29 (vb true) u<|wA<|
  zM (gv kk [0,1] (gq [2,3,4,5,6,7])))<|qY 15 1 u u<|wI 16 1 u u u u<|qA 11 [17,18] u<|wL 40 u (vM 19 0 3 u u u u<|qA 7 [20,21,22] u<|uJ 23 3 u u u u<|fun x3 b5 o3=>
  uI 24 false oI u (gk 0) u<|qA 4 [26] u<|qH 25<|zX (.f u) [] [] zMX u u u (cq [5,6,7,3])<|fun r3 _ k p8 c8=>k<|qB<|qH 27<|zX (.f u) [] [] zVa u u u (cq [0])<|fun r4 _ k=>k<|qB<|
  wU 28 (vb r4) u<|wU 29 (vb r4) u<|wA<|zM (gv kk [0,1] (gq [4,5,6,7,8,9])))<|qA 2 [19,20,21,22,23,24,25,26,27] u<|wU 28 (vb false) u<|wU 29 (vb false) u<|wA<|zM (gv kk [0,1] (gq [2,3,4,5,6,7])))<|
  qA 17 [3,4,5,6,7,8,9,10,11,12] u<|wU 13 (vb false) u<|qA 15 [14] u<|qY 15 1 u u<|wI 16 1 u u u u<|qA 11 [17,18] u<|wL 40 u (vM 19 0 3 u u u u<|qA 7 [20,21,22] u<|uJ 23 1 u u u u<|
  fun x4 b6 o4=>uI 24 false oI u (gk 0) u<|qA 4 [26] u<|qH 25<|zX (.f u) [] [] zMX u u u (cq [3,4,5,1])<|fun r5 _ k p9 c9=>k<|qB<|qH 27<|zX (.f u) [] [] zVa u u u (cq [0])<|fun r6 _ k=>k<|
  qB<|wU 28 (vb r6) u<|wU 29 (vb r6) u<|wA<|zM (gv kk [0,1] (gq [2,3,4,5,6,7])))<|qA 2 [19,20,21,22,23,24,25,26,27] u<|wU 28 (vb false) u<|wU 29 (vb false) u<|wA<|zM (gv kk [0,1] (gq [0,1,2,3,4,5])))<|
  fun s2 _ k=>k<|zJ u (jA 1 u<|zH<|qK<|zZ<|wQ<|qK<|zZ<|zQ u u kk [] d)<|wF<|qF<|zP<|jB 3 u<|qG (gv kk [0,1] (gq [0,1,2,3,4,5])))<|qO<|qN<|qQ<|qP<|zP<|jA 1 u<|zH<|
  zQ u u kk [] d
theorem zPT {qd : Prop} (k : Nat) :
    (∀ {y0 : List zI} {p1 : Option Addr} {c1 : Nat} {r_1 : zW} {y1 : Int} {y2 : List zG} {p2 : Option Addr} {c2 : Nat} {y3 : List Int} {p3 : Option Addr} {c3 : Nat}, qC qd prog 39 [sv p1 y0 c1, vi y1, sv p2 y2 c2, sv p3 y3 c3] [r_1] [Al vC 104 r_1 p1 c1 y0, Rl wO p2 c2 y2, Rl (zK .i64) p3 c3 y3] (zDB k y0 y1 y2 y3) fun r K=>∀ p4 c4,K (sv p4 r c4) [r_1] [Rl (qZ (zK .i64)) p4 c4 r]) := by
  induction k with
  | zero => exact z42 call39
  | succ k ih =>
    have ih_ref07_choices_2 := @ih
    exact @fun y0 p1 c1 r_1 y1 y2 p2 c2 y3 p3 c3=>zY (m1 := zIA (zDB k) y0 y1 y2 y3) call39 func39 u fun X=>jA 1 u<|zD<|jA 5 u<|zJ u (zC<|xN .s (e := zK .i64) 3 [] ([] : List Int) rN<|fun r_2 p4 c4=>zA 1 u<|wM .s 1 0 u (gk 3) u u<|fun x1 r_3 p5 c5=>wY 1 0 u u<|
  wT .s (e := qZ (zK .i64)) 22 [sv p5 x1 c5] ([x1] : List (List Int)) (rC (vL (gk 0)) rN)<|fun p6 c6=>zA 1 u<|zB<|zH<|zZ<|zQ u u (fun _ k=>k p6 c6) [0] (gq [0]))<|jC<|zC<|zA 1 u<|vJ (qZ (zK .i64)) 22<|zB<|zD<|
  jA 1 u<|zR<|qR (fun s1 K=>∀ p7 c7 r_4,K [0,1,2,3] [(1, r_4)] [1,2,3] [(9, sv p7 s1.1 c7), (10, vi s1.2)] [Al (qZ (zK .i64)) 22 r_4 p7 c7 s1.1]) (gv (fun _ k=>k none 0 []) [0,1] (gq [0,1,2,3]))<|fun s1 _ k p7 c7 r_4=>k<|zD<|
  jA 3 u<|zJ u (jC<|zD<|zR<|yA [] [0] 11<|qA 9 [0,1] u<|jdI 2 1 u u u u<|fun x2 h2 b1 hp1=>qY 3 3 u u<|jdL 4 0 1 sI.snd.snd.snd true yI u u hp1 h2 u<|qA 3 [5,6,7] u<|uJ 8 2 u u u u<|
  fun x3 b2 o1=>uI 9 true yI u (gk 0) u<|wU 10 (vb (x2.2.2.2 == x3)) u<|wA<|zP<|zJ u (qM<|zA 9 u<|jsF (gk 4) u u u u (.inl ⟨rfl, rfl⟩)<|fun x4 p8=>zA 1 u<|
  wT .s (e := zK .i64) 3 [vi s1.2] ([s1.2] : List Int) (rC vI rN)<|fun p9 c8=>jaf .s 3 (gk 1) (gk 0) u u<|fun x5 p10 c9=>zX .s [0] [] ih_ref07_choices_2 u u u (cq [5,6,0])<|fun r1 _ k p11 c10=>k<|wM .s 1 5 u (gk 0) u u<|
  fun x6 r_5 p12 c11=>zA 1 u<|zV<|qF<|zP<|jB 3 u<|qG (gv (fun _ k=>k p12 c11 r_5) [0,1] (gq [0,7,8,9])))<|wF<|qF<|zP<|jB 3 u<|qG (gv (fun _ k=>k p7 c7 r_4) [0,1] (gq [1,2,3,4])))<|qO<|qN<|qQ<|qP<|zP<|jA 2 u<|zH<|
  wY 1 0 u u<|zQ u u (fun _ k=>k p7 c7) [0] (gq [0])
theorem zSa {qd : Prop} {y0 : List zI} {y1 : Int} {y2 : List zG} {y3 : List Int} : qC qd prog 39 [sv p1 y0 c1, vi y1, sv p2 y2 c2, sv p3 y3 c3] [r_1] [Al vC 104 r_1 p1 c1 y0, Rl wO p2 c2 y2, Rl (zK .i64) p3 c3 y3] (zKT y0 y1 y2 y3) fun r K=>∀ p4 c4,K (sv p4 r c4) [r_1] [Rl (qZ (zK .i64)) p4 c4 r] := zRo fun k => (zPT k)
theorem zVE {qd : Prop} {y0 : List Int} {y1 : Int} : qC qd prog 40 [sv p1 y0 c1, vi y1] [] [Rl (zK .i64) p1 c1 y0] (zNC y0 y1) fun r K=>K (vb r) [] [] :=
 zY call40 func40 u fun X=>jA 1 u<|zD<|jA 1 u<|zR<|qR (fun s1 K=>K [0,1] [] [0] [(5, vi s1)] []) (gv kk [] (gq [0]))<|fun s1 _ k=>k<|zD<|jA 4 u<|zJ u (jC<|zD<|zR<|zC<|zA 2 u<|qX 0 u u u<|fun x1 b1 o1=>qW false oI (gk 0) u<|
  zA 2 u<|zB<|zJ u (jA 1 u<|zH<|qK<|zZ<|wQ<|qK<|zZ<|zQ u u kk [] d)<|wF<|qF<|zP<|jB 3 u<|qG (gv kk [] (gq [1])))<|qO<|qN<|qQ<|qP<|zP<|jA 1 u<|zH<|zQ u u kk [] d
theorem zWa {qd : Prop} {y0 : zO} : qC qd prog 13 [.agg (vN y0 p1 c1 p2 c2 p3 c3).toArray] [] (vV y0 p1 c1 p2 c2 p3 c3 []) (zDp y0) fun r K=>∀ p4 c4,K (.tuple #[sv p4 r.1 c4, vi r.2]) [] [Rl vC p4 c4 r.1] :=
 zY call13 func13 u fun X=>zC<|qV .s u<|fun b1=>zA 2 u<|zB<|zD<|zC<|qS 0 3 u u u<|qI zLR u (cq [0,1,2])<|fun r1 _ k=>k<|zA 1 u<|zB<|jA 2 u<|zJ u (jA 3 u<|zH<|zZ<|
  wG u (lT u (lT u lN)) (fun _ k=>k none 0) [] ⟨gn,d⟩)<|jC<|zC<|zA 1 u<|vJ vC 104<|zB<|wK (fun s1 K=>∀ p4 c4 r_1,K [1] [(1, r_1)] [1,2,3] [(5, sv p4 s1 c4)] [Al vC 104 r_1 p4 c4 s1]) (jA 1 u<|zR<|
  qR (fun s2 K=>∀ p5 c5 r_2,K [1] [(1, r_2)] [1,2,3] [(5, sv p5 s2.1 c5), (6, vi s2.2)] [Al vC 104 r_2 p5 c5 s2.1]) (gv (fun _ k=>k none 0 []) [0,1] (gq [0,1,2,3]))<|fun s2 _ k p5 c5 r_2=>k<|zD<|zC<|zA 1 u<|zN 0 u<|
  zT 0 u u u<|zA 2 u<|zB<|zJ u (jC<|zD<|zR<|qM<|zA 2 u<|zN 0 u<|zT 0 u u u<|zA 1 u<|qX 1 u u u<|fun x1 b2 o1=>zN 0 u<|qW true yI (gf (gk 0)) u<|
  zL (.agg #[vi s2.2, vi (-1), .slice none 0 0, vb x1.1.1, vs x1.1.2])<|
  wT .s (e := vC) 104 [vi s2.2, vi (-1), .slice none 0 0, vb x1.1.1, vs x1.1.2] ([(s2.2, (-1), ([] : List Int), x1.1)] : List zI) (rC (vP vI (vP vI (vP (vL gn) (vP vB vS)))) rN)<|fun p6 c6=>wM .s 1 2 u (gk 0) u u<|
  fun x2 r_3 p7 c7=>zA 1 u<|zV<|qF<|zP<|jB 3 u<|qG (gv (fun _ k=>k p7 c7 r_3) [0,1] (gq [0,4,5,6])))<|qO<|qN<|qQ<|qP<|zM (gv (fun _ k=>k p5 c5 r_2) [0,1] (gq [0,1,2,3])))<|fun s1 _ k p4 c4 r_1=>k<|jA 1 u<|zD<|jA 1 u<|zR<|
  qR (fun s3 K=>∀ p8 c8 r_4,K [1] [(1, r_4)] [1,2,3] [(5, sv p8 s3.1 c8), (7, vi s3.2.1), (8, vi s3.2.2)] [Al vC 104 r_4 p8 c8 s3.1]) (gv (fun _ k=>k p4 c4 r_1) [0,1] (gq [0,1,2,3]))<|fun s3 _ k p8 c8 r_4=>k<|zD<|
  tK (fun K=>K [1,5,7,8] [] [0,1,2,3] [(43, vb ((s3.2.2 == 1) || (decide (s3.2.1 < (len s3.1)))))] []) (qM<|zA 3 u<|uF (b := s3.2.2 == 1) 38 u (fun hb1=>zA 4 u<|zL (vb true)<|zV<|
  wX 43 (vb ((s3.2.2 == 1) || (decide (s3.2.1 < (len s3.1))))) u (by rw [hb1]; rfl)<|zM (gv kk [0,1] (gq [0,1,2,3])))<|fun hb1=>zA 4 u<|zL (vb (decide (s3.2.1 < (len s3.1))))<|zV<|
  wX 43 (vb ((s3.2.2 == 1) || (decide (s3.2.1 < (len s3.1))))) u (by rw [hb1]; rfl)<|zM (gv kk [0,1] (gq [0,1,2,3])))<|fun _ k=>k<|zJ u (jC<|zD<|zR<|jA 3 u<|zD<|jA 1 u<|zR<|
  qR (fun s4 K=>∀ p9 c9 r_5,K [1,7,8,9] [(1, r_5)] [1,2,3] [(5, sv p9 s4.1 c9), (10, vi s4.2)] [Al vC 104 r_5 p9 c9 s4.1]) (gv (fun _ k=>k p8 c8 r_4) [0,1] (gq [0,1,2,3]))<|fun s4 _ k p9 c9 r_5=>k<|zD<|zC<|zA 1 u<|zN 1 u<|
  zT 0 u u u<|zA 2 u<|zB<|zJ u (jC<|zD<|zR<|zC<|zA 2 u<|zN 1 u<|zT 0 u u u<|zA 1 u<|qX 2 u u u<|fun x3 b3 o2=>zN 3 u<|qW false oL (gf (gs (gs (gs (gk 0))))) u<|fun p10 c10=>
  zX .s [1] [] zSa u u u ⟨ck 2,ck 0,cn,d⟩<|fun r2 _ k p11 c11=>k<|zA 2 u<|zB<|zR<|
  qR (fun s5 K=>∀ p12 c12 r_6,K [1,7,8,9,10,63,64] [(1, r_6)] [0,4,5,6] [(5, sv p12 s5.1 c12), (65, vi s5.2)] [Al vC 104 r_6 p12 c12 s5.1]) (gv (fun _ k=>k p9 c9 r_5) [0,1] (gq [3,0,4,5,6]))<|fun s5 _ k p12 c12 r_6=>k<|jA 1 u<|
  zD<|zJ u (jC<|zD<|zR<|zC<|qX 1 u u u<|fun x4 b4 o3=>qW false oL (gk 0) u<|fun p13 c13=>zA 1 u<|zB<|zD<|wK (fun s6 K=>K [1,5,7,8,9,10,12,63,64,65] [] [2,3,0,4,5,6] [(89, vb s6)] []) (qM<|zA 2 u<|
  qI zVE u (cq [0])<|fun r3 _ k=>k<|zA 2 u<|wL 73 u (zA 3 u<|wL 76 u (zA 3 u<|zL (vb true)<|zL (vb true)<|zA 7 u<|zL (vb true)<|zV<|zM (gv kk [0,1] (gq [2,3,0,4,5,6])))<|zA 3 u<|
  zL (vb (decide (0 < (len x4))))<|zL (vb (decide (0 < (len x4))))<|zA 1 u<|wL 82 u (zA 6 u<|zL (vb true)<|zV<|zM (gv kk [0,1] (gq [2,3,0,4,5,6])))<|qS 0 3 u u u<|zA 3 u<|
  zX .s [] [1] zQ0 u u u ⟨ck 4,ck 5,ck 6,cl 1 2,ck 0,d⟩<|fun r4 _ k=>k<|zA 1 u<|zL (vb (!r4))<|zV<|zM (gv kk [0,1] (gq [2,3,0,4,5,6])))<|zA 7 u<|zL (vb false)<|zA 1 u<|qS 0 3 u u u<|zA 3 u<|
  zX .s [] [1] zQ0 u u u ⟨ck 4,ck 5,ck 6,cl 1 2,ck 0,d⟩<|fun r5 _ k=>k<|zA 1 u<|zL (vb (!r5))<|zV<|zM (gv kk [0,1] (gq [2,3,0,4,5,6])))<|fun s6 _ k=>k<|zJ u (qO<|qN<|qP<|zP<|jB 2 u<|
  qG (gv (fun _ k=>k p12 c12 r_6) [0,1] (gq [0,1,3,4,5])))<|jC<|zC<|zA 3 u<|zN 1 u<|zT 0 u u u<|zA 1 u<|qX 4 u u u<|fun x5 b5 o4=>zN 4 u<|qW true yI (gs (gs (gs (gs (gk 0))))) u<|
  zL (.agg #[vi (-1), vi s4.2, sv p13 x4 c13, vb x5.2.2.2.2.1, vs x5.2.2.2.2.2])<|
  wT .s (e := vC) 104 [vi (-1), vi s4.2, sv p13 x4 c13, vb x5.2.2.2.2.1, vs x5.2.2.2.2.2] ([((-1), s4.2, x4, x5.2.2.2.2)] : List zI) (rC (vP vI (vP vI (vP (vL (gk 3)) (vP vB vS)))) rN)<|fun p14 c14=>
  wM .s 1 2 u (gk 0) u u<|fun x6 r_7 p15 c15=>zA 1 u<|zB<|jA 3 u<|zJ u (jA 2 u<|zH<|qK<|zZ<|wQ<|qK<|qK<|zZ<|wQ<|qK<|zZ<|qK<|zZ<|wQ<|qK<|zZ<|wG u (lT u (lT u lN)) (fun _ k=>k none 0) [] ⟨gn,d⟩)<|wF<|
  qF<|zP<|jB 2 u<|qG (gv (fun _ k=>k p15 c15 r_7) [0,1] (gq [0,4,6,7,8])))<|qO<|qN<|qQ<|qP<|qF<|zP<|jB 3 u<|qG (gv (fun _ k=>k p12 c12 r_6) [0,1] (gq [0,2,3,4])))<|qO<|qN<|qQ<|qP<|zP<|jB 2 u<|qF<|zP<|jB 3 u<|
  qG (gv (fun _ k=>k p9 c9 r_5) [0,1] (gq [0,1,2,3])))<|qO<|qN<|qQ<|qP<|zP<|jA 3 u<|zH<|wY 1 0 u u<|wG u (lT u (lT u lN)) (fun _ k=>k p8 c8) [] (gq [0])
theorem zWD {qd : Prop} {y0 : uO} {y1 : Int} : qC qd prog 5 [pt b1 0, vi y1] [bx b1 54 (zIC y0 p1 c1)] (zHz y0 p1 c1 []) (zL6 y0 y1) fun r K=>∀ p2 c2 p3 c3 p4 c4,K (.tuple #[.agg (vN r.1 p2 c2 p3 c3 p4 c4).toArray, vb r.2.1]) [bx b1 54 [sv p1 y0.1 c1, vi r.2.2]] (vV r.1 p2 c2 p3 c3 p4 c4 []) :=
 zY call5 func5 u fun X=>zC<|wN .s (.agg #[.slice none 0 0, .slice none 0 0, .slice none 0 0])<|fun b2=>zA 1 u<|zB<|zC<|zA 2 u<|zX .s [0] [] zUS u u u (cq [0])<|fun r1 _ k p2 c2 p3 c3 p4 c4=>k<|
  wN .s (.agg #[.slice none 0 0, .slice none 0 0, .slice none 0 0])<|fun b3=>qJ .s 2 u u u<|zB<|zR<|
  qR (fun s1 K=>∀ p5 c5 p6 c6,K [4,6] [(2, bx b3 29 [sv p2 r1.1.1 c2, sv p5 s1.1 c5, sv p6 s1.2 c6])] [3,0] [] [Rl yO p5 c5 s1.1, Rl xI p6 c6 s1.2]) (gv (fun _ k=>k p3 c3 p4 c4) [0,1,2] (gq [1,2,3,0]))<|fun s1 _ k p5 c5 p6 c6=>
  k<|zR<|zC<|qS 2 3 u u u<|qI zSE u (cq [3,0,1])<|fun r2 _ k p7 c7 p8 c8 p9 c9=>k<|zA 3 u<|wN .s (.agg #[.slice none 0 0, .slice none 0 0, .slice none 0 0])<|fun b4=>qJ .s 3 u u u<|zA 1 u<|zB<|zC<|
  qS 3 3 u u u<|qI zWa u (cq [0,1,2])<|fun r3 _ k p10 c10=>k<|zA 5 u<|zB<|zD<|wK (fun s2 K=>K [4,6,7] [] [6,7,4,5,1,2,3] [(38, vb s2)] []) (qM<|zA 3 u<|wL 26 u (zA 2 u<|zL (vb (r3.2 == 0))<|zA 1 u<|
  wL 30 u (qS 3 3 u u u<|qI zWb u (cq [1,2,3])<|fun r4 _ k=>k<|zL (vb r4)<|zA 1 u<|wL 34 u (zA 3 u<|zL (vb (decide ((len r3.1) ≤ 16)))<|zV<|zM (gv kk [0,1,2,3] (gq [6,7,4,5,1,2,3])))<|zA 3 u<|
  zL (vb false)<|zV<|zM (gv kk [0,1,2,3] (gq [6,7,4,5,1,2,3])))<|zA 2 u<|zL (vb false)<|zA 4 u<|zL (vb false)<|zV<|zM (gv kk [0,1,2,3] (gq [6,7,4,5,1,2,3])))<|zA 2 u<|zL (vb false)<|zA 3 u<|
  zL (vb false)<|zA 4 u<|zL (vb false)<|zV<|zM (gv kk [0,1,2,3] (gq [6,7,4,5,1,2,3])))<|fun s2 _ k=>k<|zJ u (zC<|qS 3 3 u u u<|qJ .s 1 u u u<|zA 1 u<|zB<|zH<|zZ<|qK<|wQ<|qK<|
  wG u (lC 1 (.agg (vN r2.1 p7 c7 p8 c8 p9 c9).toArray) u u (lT u lN)) (fun _ k=>k p7 c7 p8 c8 p9 c9) [0] (gq [4,5,6]))<|jC<|zC<|zN 2 u<|qJ .s 2 u u u<|zB<|zD<|zC<|zN 1 u<|zT 2 u u u<|zA 2 u<|zB<|
  zJ u (zC<|qS 2 3 u u u<|qJ .s 1 u u u<|zA 1 u<|zB<|zH<|zZ<|qK<|wQ<|qK<|
  wG u (lC 1 (.agg #[sv p2 r1.1.1 c2, sv p5 s1.1 c5, .slice none 0 0]) u u (lT u lN)) (fun _ k=>k p2 c2 p5 c5 none 0) [0] ⟨gk 1,gk 2,gn,d⟩)<|jC<|qM<|zN 1 u<|zT 2 u u u<|zN 1 u<|zT 2 u u u<|zA 2 u<|
  jsl (gk 2) u u u (.inl ⟨rfl, rfl⟩) (.inr ⟨_, rfl⟩)<|fun x1 p11 c11=>zN 1 u<|qJ .s 2 u u u<|zV<|qF<|qG (gv (fun _ k=>k p11 c11 none 0) [0,1,2] ⟨gk 0,gn,gk 1,gk 2,d⟩)
theorem zO5 {y0 : List Int} : qC False prog 3 [sv p1 y0 c1] [] [Rl (zK .i64) p1 c1 y0, Tb prog "strings.asciiSpace" .u8 Lib.asciiSpaceTab, Pt (yH 4 vK) 1 0 zBS, Wt 2, Pt (yH 64 (zK .u8)) 4 0 yW, Tb prog "internal/strconv.uint64pow10" .u64 Lib.pow10Tab] (zEP y0) fun r K=>K (vb r) [] [] :=
 zY call3 func3 u fun X=>jA 1 u<|zC<|zA 1 u<|qI z1W u (cq [0])<|fun r1 _ k b1 p2 c2=>k<|zA 1 u<|zB<|zC<|zA 1 u<|zX .s [0] [] zWD u u u (cq [0])<|fun r2 _ k p3 c3 p4 c4 p5 c5=>k<|zA 3 u<|
  wN .s (.agg #[.slice none 0 0, .slice none 0 0, .slice none 0 0])<|fun b2=>qJ .s 1 u u u<|zA 1 u<|zB<|zD<|jA 2 u<|zJ u (zC<|qI zR9 u (cq [5,6,7,8,9])<|fun r3 _ k=>k<|zA 1 u<|zB<|zH<|zZ<|
  zQ u u kk [] d)<|jC<|zYy (fun s1 K=>K [] [(0, []), (1, [])] [5,6,7,8,9] [] []) (zC<|qI zTW u d<|fun r4 _ k p6 c6=>k<|zA 2 u<|zB<|zR<|
  qR (fun s2 K=>K [4,24,25] [(0, [])] [0,1,2,3,6,7,8,9,10] [(26, vi s2)] []) (gv kk [900,1] (gq [0,1,2,3,6,7,8,9,10]))<|fun s2 _ k=>k<|jA 1 u<|zD<|zJ u (jC<|zD<|zR<|zC<|qX 0 u u u<|fun x1 b3 o1=>
  qW true z1D (gk 0) u<|wN .s (.agg #[vi 0, vi 0])<|fun b4=>qJ .s 2 u u u<|zB<|zC<|qS 1 3 u u u<|qS 2 2 u u u<|qI zOU u (cq [2,3,4,8])<|fun r5 _ k p7 c7 p8 c8 p9 c9 p10 c10 p11 c11 p12 c12=>
  k<|zA 3 u<|wN .s (.agg #[.slice none 0 0, .slice none 0 0, .slice none 0 0, .slice none 0 0, .slice none 0 0, vi 0, .slice none 0 0])<|fun b5=>qJ .s 3 u u u<|zA 1 u<|zB<|zD<|jA 2 u<|zJ u (jA 1 u<|zH<|zZ<|qK<|zZ<|
  wQ<|qK<|wQ<|zQ u u kk [] d)<|jC<|jA 1 u<|zR<|
  qR (fun s3 K=>K [4,8,24,25,26] [(2, [])] [7,8,9,10,0,1,2,3,4,5,11,12,13,14,15] [(10, vi s3)] []) (gv kk [900,1,902,3] (gq [7,8,9,10,0,1,2,3,4,5,11,12,13,14,15]))<|fun s3 _ k=>k<|zD<|jA 2 u<|zJ u (jC<|zD<|zR<|zC<|
  zN 5 u<|qS 3 2 u u u<|zA 1 u<|qI zLw u (cq [9,13])<|fun r6 _ k p13 c13=>k<|zA 5 u<|zB<|zD<|jA 2 u<|zJ u (qO<|qN<|qP<|zP<|jB 3 u<|
  qG (gv kk [900,1,902,3] (gq [1,2,3,4,5,6,7,8,9,10,11,12,13,14,15])))<|jC<|zD<|jA 2 u<|zJ u (jA 1 u<|zH<|zZ<|qK<|zZ<|wQ<|qK<|qK<|zZ<|wQ<|qK<|wQ<|zQ u u kk [] d)<|jC<|jA 3 u<|zR<|
  qR (fun s4 K=>K [4,8,10,11,24,25,26,54] [] [1,0,2,3,4,5,6,7,8,9,10,11,12,13,14,15] [(55, vi s4)] []) (gv kk [900,1,902,3] (gq [1,0,2,3,4,5,6,7,8,9,10,11,12,13,14,15]))<|fun s4 _ k=>k<|jA 1 u<|zD<|zJ u (jC<|zD<|zR<|
  jA 2 u<|yA [] [3] 8<|vM 0 3 7 u u u u<|qA 5 [1,2] u<|uJ 3 1 u u u u<|fun x2 b6 o2=>uI 4 false oL u (gk 0) u<|fun p14 c14=>qH 5<|zX (.f u) [] [] zQq u u u (cq [7,8,9,10,11,12,0])<|
  fun r7 _ k p15 c15=>k<|qB<|qA 0 [6,7] u<|wA<|zP<|zJ u (jA 1 u<|zH<|qK<|zZ<|wQ<|qK<|qK<|zZ<|wQ<|qK<|qK<|zZ<|wQ<|qK<|wQ<|zQ u u kk [] d)<|wF<|qF<|zP<|jB 2 u<|
  qG (gv kk [900,1,902,3] (gq [3,4,5,6,7,8,9,10,11,12,13,14,15,16,17,18])))<|qO<|qN<|qQ<|qP<|qF<|zP<|jB 3 u<|qG (gv kk [900,1,902,3] (gq [0,2,3,4,5,6,7,8,9,10,11,12,13,14,15])))<|qO<|qN<|qQ<|qP<|qF<|zP<|
  jB 2 u<|qG (gv kk [900,1] (gq [0,1,2,3,10,11,12,13,14])))<|qO<|qN<|qQ<|qP<|qG (gv kk [900,901] (gq [4,5,6,7,8])))<|fun s1 _ k=>k<|zC<|qI zR9 u (cq [0,1,2,3,4])<|fun r8 _ k=>k<|zA 1 u<|zB<|zH<|
  zQ u u kk [] d
end Go.Proofs.YtplpdfimlnppcaaGreatDoor
