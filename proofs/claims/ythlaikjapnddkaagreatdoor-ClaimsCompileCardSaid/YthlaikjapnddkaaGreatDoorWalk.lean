/- Part of the proof. Conditions: none. -/
import Derived.Test.YthlaikjapnddkaaGreatDoorWalk1
namespace Go.Proofs.YthlaikjapnddkaaGreatDoor
open Go Go.GD Tryz
set_option autoImplicit false
set_option linter.unusedVariables false
set_option maxRecDepth 100000
variable {p1 p2 p3 p4 p5 p6 p7 p8 p9 p10 p11 p12 : Option Addr} {c1 c2 c3 c4 c5 c6 c7 c8 c9 c10 c11 c12 : Nat} {b1 b2 b3 b4 b5 b6 b7 b8 b9 b10 b11 : Nat} {r_1 r_2 r_3 r_4 r_5 r_6 : zY}
theorem zMd {qd : Prop} {y0 : zBa} {y1 : Int} : qG qd prog 128 [.agg #[sv p1 y0.1.1 c1, sv p2 y0.1.2.1 c2, sv p3 y0.1.2.2 c3, sv p4 y0.2.1 c4, sv p5 y0.2.2.1 c5, vi y0.2.2.2.1, sv p6 y0.2.2.2.2 c6], vi y1] [] [Rl wO p1 c1 y0.1.1, Rl qP p2 c2 y0.1.2.1, Rl wJ p3 c3 y0.1.2.2, Rl wS p4 c4 y0.2.1, Rl yX p5 c5 y0.2.2.1, Rl yH p6 c6 y0.2.2.2.2, Pt (uT 64 (zU .u8)) 3 0 tJ] (zDd y0 y1) fun r K=>∀ p7 c7,K (.tuple #[sv p7 r.1 c7, vi r.2]) [] [Rl (vJ wN) p7 c7 r.1] :=
 qD call128 func128 u fun X=>zB<|wC .s u<|fun b1=>zA 2 u<|zC<|zB<|zL 5 u<|qV 0 2 u u u<|zA 1 u<|qL zN2 u (cq [5,6])<|fun r1 _ k p7 c7=>k<|zA 5 u<|zC<|zG<|jA 2 u<|zJ u (jA 3 u<|zK<|qA<|
  wW u (lT u (lT u lN)) (fun _ k=>k none 0) [] ⟨gn,⟨⟩⟩)<|jC<|zB<|zA 1 u<|vV (vJ wN) 55<|zC<|zG<|jA 3 u<|zV<|
  qZ (fun s1 K=>∀ p8 c8 r_1,K [2,21,22] [(1, r_1)] [1,2,3,4,5,6,7,8] [(8, sv p8 s1.1 c8), (23, vi s1.2)] [Al (vJ wN) 55 r_1 p8 c8 s1.1]) (gv (fun _ k=>k none 0 []) [0,1] (gq [0,1,2,3,4,5,6,7,8]))<|fun s1 _ k p8 c8 r_1=>k<|
  jA 1 u<|zG<|zJ u (jC<|zG<|zV<|zB<|wB 1 u u u<|fun x1 b2 o1=>wA false oL (gk 0) u<|fun p9 c9=>zA 1 u<|zC<|qN<|zA 1 u<|zL 3 u<|zS 0 u u u<|zA 1 u<|qL zHb u (cq [7,0])<|
  fun r2 _ k p10 c10=>k<|wT .s (e := vJ wN) 55 [sv p10 r2 c10] ([r2] : List (List zN)) (rC (vL (gk 0)) rN)<|fun p11 c11=>wE .s 1 4 u (gk 0) u u<|fun x2 r_2 p12 c12=>zA 1 u<|zQ<|qE<|zP<|jB 2 u<|
  qJ (gv (fun _ k=>k p12 c12 r_2) [0,1] (gq [0,6,7,8,9,10,11,12,13])))<|qT<|qQ<|qY<|qW<|zP<|jA 3 u<|zK<|wX 1 0 u u<|wW u (lT u (lT u lN)) (fun _ k=>k p8 c8) [] (gq [0])
theorem zLE {qd : Prop} {y0 : Int} : qG qd prog 185 [.slice none 0 0, vi y0] [] [] (zHX y0) fun r K=>∀ p1 c1 r_1,K (sv p1 r c1) [r_1] [Al wN 52 r_1 p1 c1 r] :=
 qD call185 func185 u fun X=>vV wN 52<|jA 1 u<|wL (fun s1 K=>K [0,1] [] [0] [] []) (jA 2 u<|zJ u (qN<|jno)<|wK<|zH (gv (fun _ k=>k) [0] (gq [0])))<|fun s1 _ k=>k<|zG<|zB<|zA 2 u<|
  jv (v := vi ((0 : Nat) : Int)) (fun h=>r_cap h u underlying55)<|zA 5 u<|zC<|jA 2 u<|zJ u (qN<|zA 2 u<|jv (v := vi ((0 : Nat) : Int)) (fun h=>r_cap h u underlying55)<|
  jv (v := .slice none 0 0) (fun h=>zZ9 (e := wN) h u u (by kernel_rfl))<|zA 1 u<|jaz .s (e := wN) (h2 := underlying3) 0 0 52 ((false, []) : zN) (.agg #[vb false, vs []]) u (vP vB vS) u u<|
  fun x1 r_1 p1 c1=>zA 2 u<|jsP 0 u u u<|fun x2=>zA 1 u<|zQ<|zP<|jA 2 u<|zK<|zR u u (fun _ k=>k p1 c1 r_1) [0] (gq [0]))<|jC<|jA 2 u<|zK<|zR u u (fun _ k=>k none 0 []) [0] (gq [0])
theorem zKi {qd : Prop} {y0 : List (List zN)} : qG qd prog 129 [sv p1 y0 c1] [] [Rl (vJ wN) p1 c1 y0] (zC1 y0) fun r K=>∀ p2 c2,K (sv p2 r c2) [] [Rl wN p2 c2 r] :=
 qD call129 func129 u fun X=>jA 1 u<|jA 1 u<|wL (fun s1 K=>K [0] [] [0] [(3, vi s1)] []) (jA 3 u<|zV<|qZ (fun s2 K=>K [0,9,10] [] [0] [(3, vi s2.1), (11, vi s2.2)] []) (gv (fun _ k=>k) [] (gq [0]))<|fun s2 _ k=>k<|jA 1 u<|zG<|zJ u (jC<|zG<|zV<|zB<|
  wB 0 u u u<|fun x1 b1 o1=>wA false oL (gk 0) u<|fun p2 c2=>zA 1 u<|zC<|jA 5 u<|jA 2 u<|zJ u (qN<|jno)<|wK<|qE<|zP<|jB 2 u<|qJ (gv (fun _ k=>k) [] (gq [2])))<|qT<|qQ<|qY<|qW<|zH (gv (fun _ k=>k) [] (gq [0]))
  )<|fun s1 _ k=>k<|zB<|zA 1 u<|qL zLE u ⟨⟩<|fun r1 _ k p3 c3 r_1=>k<|zA 1 u<|zC<|zG<|jA 3 u<|zV<|
  qZ (fun s3 K=>∀ p4 c4 r_2,K [25,26] [(0, r_2)] [1] [(6, sv p4 s3.1 c4), (27, vi s3.2)] [Al wN 52 r_2 p4 c4 s3.1]) (gv (fun _ k=>k p3 c3 r_1) [0] (gq [0,1]))<|fun s3 _ k p4 c4 r_2=>k<|jA 1 u<|zG<|zJ u (jC<|zG<|zV<|zB<|
  wB 1 u u u<|fun x2 b2 o2=>wA false oL (gk 0) u<|fun p5 c5=>zA 1 u<|zC<|qN<|zA 2 u<|wE .s 0 2 u (gk 0) u u<|fun x3 r_3 p6 c6=>zA 1 u<|zQ<|qE<|zP<|jB 2 u<|qJ (gv (fun _ k=>k p6 c6 r_3) [0] (gq [0,4])))<|qT<|
  qQ<|qY<|qW<|zP<|jA 2 u<|zK<|wX 0 0 u u<|zR u u (fun _ k=>k p4 c4) [] (gq [0])
theorem zLn {qd : Prop} {y0 : List zN} {y1 : zN} : uH qd prog 133 [sv p1 y0 c1, pt b1 0] [bx b1 52 [vb y1.1, vs y1.2]] [Rl wN p1 c1 y0] (zDC y0 y1) fun L r K=>K (vb r) L [] :=
 qD call133 func133 u fun X=>jA 1 u<|zB<|zA 1 u<|qV 0 2 u u u<|qL zLD u (cq [0])<|fun r1 _ k=>k<|zA 2 u<|zC<|zK<|zR u u (fun _ k=>k) [0] ⟨⟩
theorem zDZ {qd : Prop} {y0 : List (List zN)} {y1 : zN} : uH qd prog 187 [sv p1 y0 c1, .func (.func 133) #[] #[pt b1 0]] [bx b1 52 [vb y1.1, vs y1.2]] [Rl (vJ wN) p1 c1 y0] (zAO y0 y1) fun L r K=>K (vi r) L [] :=
 qD call187 func187 u fun X=>jA 1 u<|zG<|jA 3 u<|zV<|qZ (fun s1 K=>K [0,1,7] [] [0] [(8, vi s1)] []) (gv (fun _ k=>k) [0] (gq [0]))<|fun s1 _ k=>k<|jA 1 u<|zG<|zJ u (jC<|zG<|zV<|jA 2 u<|zB<|zA 3 u<|wB 0 u u u<|fun x1 b2 o1=>
  wA false oL (gk 0) u<|fun p2 c2=>qB .s [0] [] zLn u u u (cq [0])<|fun r1 _ k=>k<|zC<|zJ u (jA 2 u<|zK<|qO<|qA<|wU<|qO<|qA<|zR u u (fun _ k=>k) [0] ⟨⟩)<|wK<|qE<|zP<|jB 2 u<|
  qJ (gv (fun _ k=>k) [0] (gq [2])))<|qT<|qQ<|qY<|qW<|zP<|jA 1 u<|zK<|zR u u (fun _ k=>k) [0] ⟨⟩
theorem zCp {qd : Prop} {y0 : List (List zN)} {y1 : zN} : uH qd prog 132 [sv p1 y0 c1, .func (.func 133) #[] #[pt b1 0]] [bx b1 52 [vb y1.1, vs y1.2]] [Rl (vJ wN) p1 c1 y0] (zAH y0 y1) fun L r K=>K (vb r) L [] :=
 qD call132 func132 u fun X=>jA 1 u<|zB<|zA 2 u<|qB .s [0] [] zDZ u u u (cq [0])<|fun r1 _ k=>k<|zA 2 u<|zC<|zK<|zR u u (fun _ k=>k) [0] ⟨⟩
theorem zJN {qd : Prop} {y0 : zN} {y1 : Bool} {y2 : List (List zN)} : uH qd prog 131 [.agg #[vb y0.1, vs y0.2], pt b1 0, pt b2 0] [bx b1 4 [vb y1], bx b2 154 [sv p1 y2 c1]] [Rl (vJ wN) p1 c1 y2] (zCf y0 y1 y2) fun L r K=>K (vb r) L [] :=
 qD call131 func131 u fun X=>zB<|wC .s u<|fun b3=>zA 1 u<|zC<|wL (fun s1 K=>K [] [(2, [])] [0] [(4, vb s1)] []) (qN<|zS 0 u u u<|zA 1 u<|wF 6 u (zS 1 u u u<|zA 1 u<|
  qB .s [2] [] zCp u u u (cq [0])<|fun r1 _ k=>k<|zD (vb r1)<|zA 1 u<|zQ<|zH (gv (fun _ k=>k) [0,1,902] (gq [0])))<|zA 3 u<|zD (vb false)<|zA 1 u<|zQ<|
  zH (gv (fun _ k=>k) [0,1,902] (gq [0])))<|fun s1 _ k=>k<|zK<|zR u u (fun _ k=>k) [0,1] ⟨⟩
theorem zDq {qd : Prop} {y0 : List zN} {y1 : Bool} {y2 : List (List zN)} : uH qd prog 186 [sv p1 y0 c1, .func (.func 131) #[] #[pt b1 0, pt b2 0]] [bx b1 4 [vb y1], bx b2 154 [sv p2 y2 c2]] [Rl wN p1 c1 y0, Rl (vJ wN) p2 c2 y2] (zAS y0 y1 y2) fun L r K=>K (vi r) L [] :=
 qD call186 func186 u fun X=>jA 1 u<|zG<|jA 3 u<|zV<|qZ (fun s1 K=>K [0,1,7] [] [0,1] [(8, vi s1)] []) (gv (fun _ k=>k) [0,1] (gq [0,1]))<|fun s1 _ k=>k<|jA 1 u<|zG<|zJ u (jC<|zG<|zV<|jA 2 u<|zB<|zA 3 u<|wB 0 u u u<|fun x1 b3 o1=>
  wA true yK (gk 0) u<|qB .s [0, 1] [] zJN u u u (cq [2])<|fun r1 _ k=>k<|zC<|zJ u (jA 2 u<|zK<|qO<|qA<|wU<|qO<|qA<|zR u u (fun _ k=>k) [0,1] ⟨⟩)<|wK<|qE<|zP<|jB 2 u<|
  qJ (gv (fun _ k=>k) [0,1] (gq [1,2])))<|qT<|qQ<|qY<|qW<|zP<|jA 1 u<|zK<|zR u u (fun _ k=>k) [0,1] ⟨⟩
theorem zD8 {qd : Prop} {y0 : List zN} {y1 : Bool} {y2 : List (List zN)} : qG qd prog 130 [sv p1 y0 c1, .func (.func 131) #[] #[pt b1 0, pt b2 0]] [r_1, bx b1 4 [vb y1], bx b2 154 [sv p2 y2 c2]] [Al wN 52 r_1 p1 c1 y0, Rl (vJ wN) p2 c2 y2] (zAP y0 y1 y2) fun r K=>∀ p3 c3,K (sv p3 r c3) [[], bx b1 4 [vb y1], bx b2 154 [sv p2 y2 c2]] [Rl wN p3 c3 r] :=
 qD call130 func130 u fun X=>jA 1 u<|zB<|zA 2 u<|qB .s [1, 2] [0] zDq u u u ⟨cl 0 0,ck 1,⟨⟩⟩<|fun r1 _ k=>k<|zA 1 u<|zC<|zG<|jA 2 u<|zJ u (jA 2 u<|zK<|qA<|wX 0 0 u u<|
  zR u u (fun _ k=>k p1 c1) [900,1,2] (gq [0]))<|jC<|wL (fun s1 K=>∀ r_2,K [] [(0, r_2)] [1] [(0, .slice p1 (List.length y0) c1), (5, vi s1.2)] [Ar wN 52 r_2 p1 c1 (List.length y0) s1.1]) (jA 3 u<|zV<|
  qZ (fun s2 K=>∀ r_3,K [1] [(0, r_3)] [1] [(0, .slice p1 (List.length y0) c1), (5, vi s2.2.1), (6, vi s2.2.2)] [Ar wN 52 r_3 p1 c1 (List.length y0) s2.1]) (gv (fun _ k=>k r_1) [0,1,2] (gq [0,1]))<|fun s2 _ k r_3=>k<|zG<|jA 4 u<|
  zJ u (jC<|zG<|zV<|zB<|zA 2 u<|uZ 0 u u u<|fun x1 h1 b3 hp1=>jlA 0 0 sI true yK u hp1 h1 u<|wM .s (.agg #[vb false, vs []])<|fun b4=>qI .s 3 u u u<|zC<|zB<|zA 1 u<|qV 3 2 u u u<|
  qB .s [1, 2] [] zJN u u u (cq [1])<|fun r2 _ k=>k<|zA 1 u<|zC<|zJ u (zB<|zA 2 u<|qV 3 2 u u u<|uZ 0 u u u<|fun x2 h2 b5 hp2=>xK .s 0 0 sI x1 true u hp2 h2 u u (vP vB vS)<|fun r_4=>zC<|
  jB 3 u<|qE<|zP<|jB 3 u<|qJ (gv (fun _ k=>k r_4) [0,1,2] (gq [0,2])))<|wK<|qE<|zP<|jB 3 u<|qJ (gv (fun _ k=>k r_3) [0,1,2] (gq [0,1])))<|qT<|qQ<|qY<|qW<|zH (gv (fun _ k=>k r_3) [0,1,2] (gq [0,1])))<|fun s1 _ k r_2=>k<|zB<|
  zA 2 u<|jsV 0 u u u<|fun u1 p3 c3 f1=>jcv .s 0 0 (false, []) (.agg #[vb false, vs []]) u f1 u (vP vB vS)<|fun r_5=>zC<|zB<|zA 2 u<|jsP 0 u u u<|fun x3=>zA 1 u<|zC<|zK<|wX 0 0 u u<|
  zR u u (fun _ k=>k p1 c1) [900,1,2] (gq [0])
theorem zOq {qd : Prop} {y0 : zBa} {y1 : Int} {y2 : Bool} : qG qd prog 75 [.agg #[sv p1 y0.1.1 c1, sv p2 y0.1.2.1 c2, sv p3 y0.1.2.2 c3, sv p4 y0.2.1 c4, sv p5 y0.2.2.1 c5, vi y0.2.2.2.1, sv p6 y0.2.2.2.2 c6], vi y1, vb y2] [] [Rl wO p1 c1 y0.1.1, Rl qP p2 c2 y0.1.2.1, Rl wJ p3 c3 y0.1.2.2, Rl wS p4 c4 y0.2.1, Rl yX p5 c5 y0.2.2.1, Rl yH p6 c6 y0.2.2.2.2, Pt (uT 64 (zU .u8)) 3 0 tJ] (zFo y0 y1 y2) fun r K=>∀ p7 c7,K (.tuple #[sv p7 r.1 c7, vi r.2]) [] [Rl wN p7 c7 r.1] :=
 qD call75 func75 u fun X=>zB<|wC .s u<|fun b1=>wC .s u<|fun b2=>zA 2 u<|zC<|zB<|qV 0 7 u u u<|zA 1 u<|qL zMd u (cq [0,1,2,3,4,5,6])<|fun r1 _ k p7 c7=>k<|zA 3 u<|wM .s (.slice none 0 0)<|fun b3=>qI .s 2 u u u<|
  zA 1 u<|zC<|zG<|jA 2 u<|zJ u (jA 3 u<|zK<|qA<|wW u (lT u (lT u lN)) (fun _ k=>k none 0) [] ⟨gn,⟨⟩⟩)<|jC<|zB<|zS 2 u u u<|qL zKi u (cq [0])<|fun r2 _ k p8 c8=>k<|
  qL zL1 u (cq [0])<|fun r3 _ k p9 c9 r_1=>k<|zA 1 u<|zC<|zB<|zA 2 u<|qB .s [3, 1, 2] [] zD8 u u u (cq [0,2])<|fun r4 _ k p10 c10=>k<|zA 2 u<|zC<|zK<|
  wW u (lT u (lT u lN)) (fun _ k=>k p10 c10) [] (gq [0])
theorem zI8 {qd : Prop} {y0 : zM} {y1 : vN} : qG qd prog 39 [.agg #[sv p1 y0.1 c1, sv p2 y0.2.1 c2, sv p3 y0.2.2 c3], .agg #[vi y1.1, vi y1.2]] [] [Rl wO p1 c1 y0.1, Rl qP p2 c2 y0.2.1, Rl wJ p3 c3 y0.2.2, Pt (uT 64 (zU .u8)) 3 0 tJ] (zCv y0 y1) fun r K=>∀ p4 c4,K (.tuple #[sv p4 r.1 c4, vb r.2]) [] [Rl wN p4 c4 r.1] :=
 qD call39 func39 u fun X=>zB<|wC .s u<|fun b1=>wC .s u<|fun b2=>zA 2 u<|zC<|zB<|qV 0 3 u u u<|qV 1 2 u u u<|qL zLJ u (cq [0,1,2,3])<|fun r1 _ k p4 c4 p5 c5 p6 c6 p7 c7 p8 c8 p9 c9=>k<|zA 3 u<|
  wM .s (.agg #[.slice none 0 0, .slice none 0 0, .slice none 0 0, .slice none 0 0, .slice none 0 0, vi 0, .slice none 0 0])<|fun b3=>qI .s 2 u u u<|zA 1 u<|zC<|zB<|qV 2 7 u u u<|
  qL zOq u (cq [0,1,2,3,4,5,9])<|fun r2 _ k p10 c10=>k<|zA 5 u<|zC<|wL (fun s1 K=>∀ p11 c11,K [] [(0, []), (1, []), (2, [])] [10] [(4, sv p11 s1.1 c11), (5, vb s1.2)] [Rl wN p11 c11 s1.1]) (qN<|zA 4 u<|
  wF 24 u (zA 2 u<|zD (vb (r2.2 == 0))<|zA 2 u<|zQ<|zH (gv (fun _ k=>k p10 c10) [900,901,902] (gq [0,10])))<|zA 2 u<|zD (vb false)<|zA 2 u<|zQ<|zH (gv (fun _ k=>k p10 c10) [900,901,902] (gq [0,10])))<|fun s1 _ k p11 c11=>
  k<|zK<|wW u (lT u (lT u lN)) (fun _ k=>k p11 c11) [] (gq [0])
theorem zGT {qd : Prop} {y0 : zN} : qG qd prog 232 [.agg #[vb y0.1, vs y0.2]] [] [] (zCX y0) fun r K=>K (vs r) [] [] :=
 qD call232 func232 u fun X=>zB<|wC .s u<|fun b1=>zA 1 u<|zC<|zG<|zV<|zB<|qV 0 2 u u u<|qL zEC u ⟨⟩<|fun r1 _ k=>k<|zA 2 u<|zC<|zJ u (jA 1 u<|zK<|qO<|qA<|zR u u (fun _ k=>k) [] ⟨⟩)<|zB<|zL 0 u<|zS 0 u u u<|
  zA 1 u<|zC<|zJ u (zB<|zL 1 u<|zS 0 u u u<|uF fun x1 h1=>jv (fun h=>zQr h u u h1)<|zA 1 u<|zC<|zK<|qO<|qA<|zR u u (fun _ k=>k) [] ⟨⟩)<|wK<|qE<|zP<|zB<|zL 1 u<|zS 0 u u u<|zA 1 u<|zC<|
  zK<|zR u u (fun _ k=>k) [] ⟨⟩
theorem zId {qd : Prop} {y0 : Int} {y1 : Int} : qG qd prog 301 [vi y0, vi y1] [] [Tb prog "internal/strconv.uint64pow10" .u64 Lib.pow10Tab] (zF3 y0 y1) fun r K=>K (vs r) [] [] := zXg Go.Proofs.Tryz.lays246 call301
theorem zKv {qd : Prop} {y0 : Int} : qG qd prog 271 [vi y0] [] [Tb prog "internal/strconv.uint64pow10" .u64 Lib.pow10Tab] (zHC y0) fun r K=>K (vs r) [] [] :=
 qD call271 func271 u fun X=>jA 1 u<|zB<|zA 1 u<|qL zId u (cq [0])<|fun r1 _ k=>k<|zA 1 u<|zC<|zK<|zR u u (fun _ k=>k) [] ⟨⟩
theorem zKB {qd : Prop} {y0 : Int} : qG qd prog 233 [vi y0] [] [Tb prog "internal/strconv.uint64pow10" .u64 Lib.pow10Tab] (zHq y0) fun r K=>K (vs r) [] [] :=
 qD call233 func233 u fun X=>jA 1 u<|zB<|zA 1 u<|qL zKv u (cq [0])<|fun r1 _ k=>k<|zA 1 u<|zC<|zK<|zR u u (fun _ k=>k) [] ⟨⟩
theorem zMx {y0 : List qC} {y1 : qC} : qG False prog 234 [sv p1 y0 c1, vs y1] [] [Rl vM p1 c1 y0] (zKJ y0 y1) fun r K=>K (vs r) [] [] := zYZ Go.Proofs.Tryz.lays156 Go.Proofs.Tryz.Builder_Extra_156 call234
theorem zLe {y0 : vO} : qG False prog 193 [.agg #[vb y0.1.1, vs y0.1.2, vi y0.2.1, vi y0.2.2.1, vs y0.2.2.2]] [] [Pt (uT 4 vM) 1 0 zAY, Tb prog "internal/strconv.uint64pow10" .u64 Lib.pow10Tab] (zCo y0) fun r K=>K (vs r) [] [] :=
 qD call193 func193 u fun X=>zB<|wC .s u<|fun b1=>zA 1 u<|zC<|yE [] [0] 9<|qH 0 2 u u<|qS 1 0 u u u u<|jdgx 2 u (gk 0) u u<|fun x1=>vD 3 false oS u (gk 0) u<|qH 4 0 u u<|vQ 5 0 2 u u u u<|zX 6<|
  qB (.f u) [] [] zGT u u u ⟨⟩<|fun r1 _ k=>k<|zO<|zX 7<|yP (.f u) (e := vM) 9 [vs x1, vs r1] ([x1, r1] : List qC) (rC vS (rC vS rN))<|fun r_1 p1 c1=>zO<|zT 0 [8] u<|qM<|zP<|
  wL (fun s1 K=>∀ p2 c2 r_2,K [1] [(1, r_2)] [2,3] [(3, sv p2 s1 c2)] [Al vM 9 r_2 p2 c2 s1]) (zB<|zL 2 u<|zS 0 u u u<|zA 1 u<|zC<|zJ u (qN<|zA 1 u<|zL 3 u<|zS 0 u u u<|qL zKB u (cq [3])<|
  fun r2 _ k=>k<|wT .s (e := vM) 9 [vs r2] ([r2] : List qC) (rC vS rN)<|fun p3 c3=>wE .s 1 1 u (gk 0) u u<|fun x2 r_3 p4 c4=>zA 1 u<|zQ<|zH (gv (fun _ k=>k p4 c4 r_3) [0,1] (gq [0,4,5])))<|wK<|
  zH (gv (fun _ k=>k p1 c1 r_1) [0,1] (gq [0,2,3])))<|fun s1 _ k p2 c2 r_2=>k<|wL (fun s2 K=>∀ p5 c5 r_4,K [] [(0, []), (1, r_4)] [1,2] [(3, sv p5 s2 c5)] [Al vM 9 r_4 p5 c5 s2]) (zB<|zL 4 u<|zS 0 u u u<|zA 1 u<|zC<|
  zJ u (qN<|zA 1 u<|zL 4 u<|zS 0 u u u<|wT .s (e := vM) 9 [vs [102, 114, 111, 109], vs y0.2.2.2] ([[102, 114, 111, 109], y0.2.2.2] : List qC) (rC vS (rC vS rN))<|fun p6 c6=>wE .s 1 1 u (gk 0) u u<|
  fun x3 r_5 p7 c7=>zA 1 u<|zQ<|zH (gv (fun _ k=>k p7 c7 r_5) [900,1] (gq [0,3,4])))<|wK<|zH (gv (fun _ k=>k p2 c2 r_2) [900,1] (gq [0,1,2])))<|fun s2 _ k p5 c5 r_4=>k<|zB<|zA 1 u<|
  qB .s [] [1] zMx u u u ⟨cl 1 0,⟨⟩⟩<|fun r3 _ k=>k<|zA 1 u<|zC<|zK<|zR u u (fun _ k=>k) [] ⟨⟩
theorem zK0 {qd : Prop} {y0 : vH} : qG qd prog 197 [.agg #[vs y0.1, vi y0.2.1, vb y0.2.2.1, vs y0.2.2.2]] [] [Tb prog "internal/strconv.uint64pow10" .u64 Lib.pow10Tab] (zCB y0) fun r K=>K (vs r) [] [] :=
 qD call197 func197 u fun X=>zB<|wC .s u<|fun b1=>zA 1 u<|zC<|yE [] [0] 14<|qH 0 0 u u<|qS 1 0 u u u u<|uF fun x1 h1=>jdv 2 u (fun h=>zQr h u u h1)<|uF fun x2 h2=>jdv 3 u (fun h=>zQr h u u h2)<|qH 4 1 u u<|
  qS 5 0 u u u u<|qH 9 2 u u<|vQ 10 0 2 u u u u<|zX 6<|qB (.f u) [] [] zKB u u u (cq [0])<|fun r1 _ k=>k<|zO<|uF fun x3 h3=>jdv 7 u (fun h=>zQr h u u h3)<|uF fun x4 h4=>
  jdv 8 u (fun h=>zQr h u u h4)<|zX 11<|qB (.f u) [] [] zGT u u u ⟨⟩<|fun r2 _ k=>k<|zO<|uF fun x5 h5=>jdv 12 u (fun h=>zQr h u u h5)<|zT 0 [13] u<|qM<|zP<|zK<|zR u u (fun _ k=>k) [] ⟨⟩
theorem zNI {y0 : qR} : qG False prog 195 [.agg #[vs y0.1, vb y0.2.1, vi y0.2.2.1, sv p1 y0.2.2.2.1 c1, vb y0.2.2.2.2.1, vs y0.2.2.2.2.2]] [] [Rl wN p1 c1 y0.2.2.2.1, Tb prog "internal/strconv.uint64pow10" .u64 Lib.pow10Tab] (zE4 y0) fun r K=>K (vs r) [] [] :=
 qD call195 func195 u fun X=>zB<|wC .s u<|fun b1=>zA 1 u<|zC<|zB<|zL 0 u<|zS 0 u u u<|uF fun x1 h1=>jv (fun h=>zQr h u u h1)<|
  yP .s (e := vM) 9 [vs [115, 116, 114, 105, 99, 116], vs x1] ([[115, 116, 114, 105, 99, 116], x1] : List qC) (rC vS (rC vS rN))<|fun r_1 p2 c2=>zA 2 u<|zC<|
  wL (fun s1 K=>∀ p3 c3 r_2,K [1] [(1, []), (2, r_2)] [1,2] [(3, sv p3 s1.1 c3), (4, vs s1.2)] [Al vM 9 r_2 p3 c3 s1.1]) (zB<|zL 1 u<|zS 0 u u u<|zA 1 u<|zC<|zJ u (yI [] [0] 9<|qH 0 0 u u<|qS 1 0 u u u u<|
  qH 2 2 u u<|qS 3 0 u u u u<|zX 4<|qB (.f u) [] [] zKB u u u (cq [2])<|fun r1 _ k=>k<|zO<|uF fun x2 h2=>jdv 5 u (fun h=>zQr h u u h2)<|zX 6<|
  yP (.f u) (e := vM) 9 [vs [114, 117, 108, 101], vs y0.1, vs x2] ([[114, 117, 108, 101], y0.1, x2] : List qC) (rC vS (rC vS (rC vS rN)))<|fun r_3 p4 c4=>zO<|zT 0 [7,8] u<|qM<|zH (gv (fun _ k=>k p4 c4 r_3) [0,901,2] (gq [0,2,3]))
  )<|wK<|zH (gv (fun _ k=>k p2 c2 r_1) [0,901,1] (gq [0,1,2])))<|fun s1 _ k p3 c3 r_2=>k<|wL (fun s2 K=>∀ p5 c5 r_4,K [1,4] [(2, r_4)] [1,2] [(3, sv p5 s2 c5)] [Al vM 9 r_4 p5 c5 s2]) (zB<|zL 3 u<|zS 0 u u u<|zA 2 u<|zC<|
  zV<|qZ (fun s3 K=>∀ p6 c6 r_5,K [1,4,23,24] [(2, r_5)] [1,2] [(3, sv p6 s3.1 c6), (25, vi s3.2)] [Al vM 9 r_5 p6 c6 s3.1]) (gv (fun _ k=>k p3 c3 r_2) [0,901,2] (gq [0,1,2]))<|fun s3 _ k p6 c6 r_5=>k<|jA 1 u<|zG<|zJ u (jC<|zG<|
  zV<|zB<|zA 1 u<|wB 1 u u u<|fun x3 b2 o1=>wA true yK (gk 0) u<|wM .s (.agg #[vb false, vs []])<|fun b3=>zA 1 u<|qI .s 3 u u u<|zC<|zB<|qV 3 2 u u u<|qL zGT u ⟨⟩<|fun r2 _ k=>k<|
  zA 1 u<|zC<|wL (fun s4 K=>K [1,3,4,23,24,25] [(3, [])] [1,2,3] [(7, vs s4)] []) (zB<|zA 1 u<|zL 3 u<|zS 0 u u u<|zA 3 u<|zC<|zJ u (qN<|zA 1 u<|uF fun x4 h3=>jv (fun h=>zQr h u u h3)<|zA 1 u<|zQ<|
  zH (gv (fun _ k=>k) [0,901,2,903] (gq [1,2,3])))<|wK<|zH (gv (fun _ k=>k) [0,901,2,903] (gq [1,2,3])))<|fun s4 _ k=>k<|qN<|zA 2 u<|wT .s (e := vM) 9 [vs s4] ([s4] : List qC) (rC vS rN)<|fun p7 c7=>wE .s 2 1 u (gk 0) u u<|
  fun x5 r_6 p8 c8=>zA 1 u<|zQ<|qE<|zP<|jB 2 u<|qJ (gv (fun _ k=>k p8 c8 r_6) [0,901,2] (gq [0,3,4])))<|qT<|qQ<|qY<|qW<|zH (gv (fun _ k=>k p6 c6 r_5) [0,901,2] (gq [0,1,2])))<|fun s2 _ k p5 c5 r_4=>k<|zB<|zA 2 u<|zL 4 u<|
  qV 0 2 u u u<|qL zGT u ⟨⟩<|fun r3 _ k=>k<|wT .s (e := vM) 9 [vs s1.2, vs r3] ([s1.2, r3] : List qC) (rC vS (rC vS rN))<|fun p9 c9=>wE .s 2 1 u (gk 0) u u<|fun x6 r_7 p10 c10=>
  qB .s [] [2] zMx u u u ⟨cl 2 0,⟨⟩⟩<|fun r4 _ k=>k<|zA 1 u<|zC<|zK<|zR u u (fun _ k=>k) [] ⟨⟩
theorem zBE {qd : Prop} {y0 : zAJ} : qG qd prog 191 [pt b1 0] [bx b1 166 [sv p1 y0.1 c1, vb y0.2]] [Rl vM p1 c1 y0.1] (zAg y0) fun r K=>∀ p2 c2,K (vs r.1) [bx b1 166 [sv p2 r.2.1 c2, vb r.2.2]] [Rl vM p2 c2 r.2.1] :=
 qD call191 func191 u fun X=>jA 1 u<|zG<|zB<|zA 2 u<|zL 0 u<|zS 0 u u u<|zA 2 u<|zC<|zJ u (zB<|zA 2 u<|zL 1 u<|qI .s 0 u u u<|zC<|jA 1 u<|zK<|qA<|zR u u (fun _ k=>k p1 c1) [0] (gq [0]))<|jC<|zB<|zA 2 u<|zL 0 u<|
  zS 0 u u u<|wB 0 u u u<|fun x1 b2 o1=>wA false oS (gk 0) u<|zA 1 u<|zC<|zB<|zA 3 u<|zL 0 u<|zS 0 u u u<|jsl (gk 1) u u u (.inr ⟨_, rfl⟩) (.inl ⟨rfl, rfl⟩)<|fun x2 p2 c2=>zA 1 u<|zL 0 u<|
  qI .s 0 u u u<|zC<|jA 2 u<|zK<|zR u u (fun _ k=>k p2 c2) [0] (gq [0])
theorem zQd {qd : Prop} {y0 : qC} : qG qd prog 270 [vs y0] [] [] (zHU y0) fun r K=>K (.tuple #[.agg #[vb r.1.1, vs r.1.2], vi r.2]) [] [] :=
 qD call270 func270 u fun X=>zB<|wM .s (.agg #[vb false, vs []])<|fun b1=>zA 1 u<|zC<|zB<|wM .s (.agg #[vb false, vs []])<|fun b2=>zC<|wL (fun s1 K=>K [2,4] [(1, bx b2 52 [vb s1.2, vs []])] [] [(0, vs s1.1)] []) (
  wL (fun s2 K=>K [0,2,4] [] [] [(12, vb s2)] []) (qN<|zA 4 u<|wF 8 u (zA 1 u<|uF fun x1 h1=>jv (fun h=>zIS h u u underlying9 h1)<|zA 1 u<|zD (vb (x1 == 126))<|zQ<|zH (gv (fun _ k=>k) [0,1] ⟨⟩))<|zA 3 u<|
  zD (vb false)<|zQ<|zH (gv (fun _ k=>k) [0,1] ⟨⟩))<|fun s2 _ k=>k<|zJ u (zB<|zL 0 u<|qI .s 1 u u u<|zC<|qN<|zA 1 u<|uF fun x2 h2=>jv (fun h=>zTW h u underlying9 u u (.inr ⟨_, rfl⟩) (.inl ⟨rfl, rfl⟩) h2)<|
  zA 1 u<|zQ<|zH (gv (fun _ k=>k) [0,1] ⟨⟩))<|wK<|zH (gv (fun _ k=>k) [0,1] ⟨⟩))<|fun s1 _ k=>k<|zB<|zA 1 u<|zL 1 u<|qI .s 1 u u u<|zC<|zG<|zB<|qV 1 2 u u u<|qL zEC u ⟨⟩<|fun r1 _ k=>k<|
  zA 1 u<|zC<|zJ u (zB<|zD (.agg #[vb false, vs []])<|qI .s 0 u u u<|zA 1 u<|zC<|zK<|qA<|wW u (lC 0 (.agg #[vb false, vs []]) u u (lT u lN)) (fun _ k=>k) [] ⟨⟩)<|jC<|zB<|qV 1 2 u u u<|
  qI .s 0 u u u<|zA 1 u<|zC<|zK<|wW u (lC 0 (.agg #[vb s1.2, vs s1.1]) u u (lT u lN)) (fun _ k=>k) [] ⟨⟩
theorem zHZ {qd : Prop} {y0 : qC} {y1 : qC} : qG qd prog 324 [vs y0, vs y1] [] [] (zD4 y0 y1) fun r K=>K (vb r) [] [] :=
 qD call324 func324 u fun X=>jA 1 u<|jjn (fun s1 K=>K [(4, vb s1)] [] []) (qN<|zA 6 u<|wF 10 u (zA 6 u<|uF fun x1 h1=>jv (fun h=>zTW h u underlying9 u u (.inr ⟨_, rfl⟩) (.inl ⟨rfl, rfl⟩) h1)<|zA 2 u<|zD (vb (x1 == y1))<|zA 1 u<|zQ<|
  zH (gv (fun _ k=>k) [] ⟨⟩))<|zA 9 u<|zD (vb false)<|zA 1 u<|zQ<|zH (gv (fun _ k=>k) [] ⟨⟩))<|fun s1 _ k=>k<|zK<|zR u u (fun _ k=>k) [] ⟨⟩
theorem zH6 {qd : Prop} {y0 : qC} {y1 : qC} : qG qd prog 300 [vs y0, vs y1] [] [] (zD3 y0 y1) fun r K=>K (.tuple #[vs r.1, vb r.2]) [] [] :=
 qD call300 func300 u fun X=>jA 2 u<|zG<|zB<|zA 2 u<|qL zHZ u ⟨⟩<|fun r1 _ k=>k<|zA 1 u<|zC<|zJ u (jA 3 u<|zK<|qA<|wW u (lT u (lT u lN)) (fun _ k=>k) [] ⟨⟩)<|jC<|zB<|zA 6 u<|uF fun x1 h1=>
  jv (fun h=>zTW h u underlying9 u u (.inl ⟨rfl, rfl⟩) (.inr ⟨_, rfl⟩) h1)<|zA 2 u<|zC<|zK<|wW u (lT u (lT u lN)) (fun _ k=>k) [] ⟨⟩
theorem zGa {qd : Prop} {y0 : qC} {y1 : qC} : qG qd prog 269 [vs y0, vs y1] [] [] (zER y0 y1) fun r K=>K (.tuple #[vs r.1, vb r.2]) [] [] :=
 qD call269 func269 u fun X=>jA 2 u<|zB<|zA 2 u<|qL zH6 u ⟨⟩<|fun r1 _ k=>k<|zA 4 u<|zC<|zK<|wW u (lT u (lT u lN)) (fun _ k=>k) [] ⟨⟩
theorem zCJ {qd : Prop} {y0 : zAJ} {y1 : qC} : qG qd prog 229 [pt b1 0, vs y1] [bx b1 166 [sv p1 y0.1 c1, vb y0.2]] [Rl vM p1 c1 y0.1] (zAc y0 y1) fun r K=>∀ p2 c2,K (.agg #[vb r.1.1, vs r.1.2]) [bx b1 166 [sv p2 r.2.1 c2, vb r.2.2]] [Rl vM p2 c2 r.2.1] :=
 qD call229 func229 u fun X=>zB<|wM .s (.agg #[vb false, vs []])<|fun b2=>zC<|zB<|zA 1 u<|qB .s [0] [] zBE u u u (cq [0])<|fun r1 _ k p2 c2=>k<|zA 1 u<|qL zGa u ⟨⟩<|fun r2 _ k=>k<|zA 5 u<|zC<|zB<|zA 1 u<|
  qL zQd u ⟨⟩<|fun r3 _ k=>k<|zA 3 u<|wM .s (.agg #[vb false, vs []])<|fun b3=>qI .s 2 u u u<|zA 1 u<|zC<|wL (fun s1 K=>K [4,7] [(0, bx b1 166 [sv p2 r1.2.1 c2, vb s1])] [0] [] []) (qN<|zA 3 u<|zL 1 u<|
  zS 0 u u u<|zA 1 u<|wF 26 u (zA 2 u<|zD (vb true)<|zA 3 u<|zD (vb true)<|zA 1 u<|zL 1 u<|qI .s 0 u u u<|zQ<|zH (gv (fun _ k=>k) [0,1,2] (gq [0])))<|zA 2 u<|zD (vb (!r2.2))<|zA 1 u<|wF 30 u (
  zA 2 u<|zD (vb true)<|zA 1 u<|zL 1 u<|qI .s 0 u u u<|zQ<|zH (gv (fun _ k=>k) [0,1,2] (gq [0])))<|zA 2 u<|zD (vb (r3.2 != 0))<|zA 1 u<|zL 1 u<|qI .s 0 u u u<|zQ<|zH (gv (fun _ k=>k) [0,1,2] (gq [0])))<|
  fun s1 _ k=>k<|zB<|qV 2 2 u u u<|qI .s 1 u u u<|zC<|zK<|wW u (lC 1 (.agg #[vb r3.1.1, vs r3.1.2]) u u lN) (fun _ k=>k p2 c2) [0] (gq [0])
theorem zDO {qd : Prop} {y0 : zAJ} {y1 : qC} : qG qd prog 231 [pt b1 0, vs y1] [bx b1 166 [sv p1 y0.1 c1, vb y0.2]] [Rl vM p1 c1 y0.1] (zAz y0 y1) fun r K=>∀ p2 c2,K (vs r.1) [bx b1 166 [sv p2 r.2.1 c2, vb r.2.2]] [Rl vM p2 c2 r.2.1] :=
 qD call231 func231 u fun X=>jA 1 u<|zB<|zA 1 u<|qB .s [0] [] zBE u u u (cq [0])<|fun r1 _ k p2 c2=>k<|zA 1 u<|qL zGa u ⟨⟩<|fun r2 _ k=>k<|zA 5 u<|zC<|
  wL (fun s1 K=>K [5] [(0, bx b1 166 [sv p2 r1.2.1 c2, vb s1])] [0] [] []) (qN<|zA 3 u<|zL 1 u<|zS 0 u u u<|zA 1 u<|wF 19 u (zA 2 u<|zD (vb true)<|zA 4 u<|zD (vb true)<|zA 1 u<|zL 1 u<|
  qI .s 0 u u u<|zQ<|zH (gv (fun _ k=>k) [0] (gq [0])))<|zA 2 u<|zD (vb (!r2.2))<|zA 1 u<|wF 23 u (zA 3 u<|zD (vb true)<|zA 1 u<|zL 1 u<|qI .s 0 u u u<|zQ<|zH (gv (fun _ k=>k) [0] (gq [0])))<|zA 1 u<|
  qL zE0 u ⟨⟩<|fun r3 _ k=>k<|zA 1 u<|zD (vb (!r3))<|zA 1 u<|zL 1 u<|qI .s 0 u u u<|zQ<|zH (gv (fun _ k=>k) [0] (gq [0])))<|fun s1 _ k=>k<|jA 2 u<|zK<|zR u u (fun _ k=>k p2 c2) [0] (gq [0])
theorem zFk {qd : Prop} {y0 : zAJ} {y1 : qC} : qG qd prog 230 [pt b1 0, vs y1] [bx b1 166 [sv p1 y0.1 c1, vb y0.2]] [Rl vM p1 c1 y0.1] (zDM y0 y1) fun r K=>∀ p2 c2,K (vi r.1) [bx b1 166 [sv p2 r.2.1 c2, vb r.2.2]] [Rl vM p2 c2 r.2.1] :=
 qD call230 func230 u fun X=>jA 1 u<|zB<|zA 1 u<|qB .s [0] [] zBE u u u (cq [0])<|fun r1 _ k p2 c2=>k<|zA 1 u<|qL zGa u ⟨⟩<|fun r2 _ k=>k<|zA 5 u<|zC<|zG<|wL (fun s1 K=>K [0,5] [] [0] [(30, vb s1)] []) (qN<|
  zA 3 u<|wF 16 u (zA 3 u<|zD (vb true)<|zA 4 u<|zD (vb true)<|zA 4 u<|zD (vb true)<|zQ<|zH (gv (fun _ k=>k) [0] (gq [0])))<|zA 3 u<|zD (vb ((len r2.1) != 1))<|zA 1 u<|wF 21 u (zA 3 u<|zD (vb true)<|
  zA 4 u<|zD (vb true)<|zQ<|zH (gv (fun _ k=>k) [0] (gq [0])))<|zA 1 u<|uF fun x1 h1=>jv (fun h=>zIS h u u underlying9 h1)<|zA 1 u<|zD (vb (decide (x1 < 48)))<|zA 1 u<|wF 26 u (zA 3 u<|zD (vb true)<|zQ<|
  zH (gv (fun _ k=>k) [0] (gq [0])))<|zA 1 u<|uF fun x2 h2=>jv (fun h=>zIS h u u underlying9 h2)<|zA 1 u<|zD (vb (decide (57 < x2)))<|zQ<|zH (gv (fun _ k=>k) [0] (gq [0])))<|fun s1 _ k=>k<|zJ u (zB<|zA 2 u<|
  zL 1 u<|qI .s 0 u u u<|zC<|jA 1 u<|zK<|qA<|zR u u (fun _ k=>k p2 c2) [0] (gq [0]))<|jC<|zB<|zA 1 u<|uF fun x3 h3=>jv (fun h=>zIS h u u underlying9 h3)<|zA 1 u<|
  zD (vi (zW (IntKind.u8.wrap (x3 - 48))))<|zA 1 u<|zC<|zK<|zR u u (fun _ k=>k p2 c2) [0] (gq [0])
theorem zK3 {qd : Prop} {y0 : zAJ} {y1 : Int} : qG qd prog 192 [pt b1 0, vi y1] [bx b1 166 [sv p1 y0.1 c1, vb y0.2]] [Rl vM p1 c1 y0.1] (zCN y0 y1) fun r K=>∀ p2 c2,K (.agg #[vb r.1.1.1, vs r.1.1.2, vi r.1.2.1, vi r.1.2.2.1, vs r.1.2.2.2]) [bx b1 166 [sv p2 r.2.1 c2, vb r.2.2]] [Rl vM p2 c2 r.2.1] :=
 qD call192 func192 u fun X=>zB<|wM .s (.agg #[vb false, vs [], vi 0, vi 0, vs []])<|fun b2=>zC<|zB<|zA 2 u<|qB .s [0] [] zCJ u u u (cq [0])<|fun r1 _ k p2 c2=>k<|zD (.agg #[vb r1.1.1, vs r1.1.2, vi y1, vi 0, vs []])<|
  wM .s (.agg #[vb false, vs [], vi 0, vi 0, vs []])<|fun b3=>qI .s 2 u u u<|zC<|
  wL (fun s1 K=>∀ p3 c3,K [0,4,5] [(0, bx b1 166 [sv p3 s1.1 c3, vb s1.2.1]), (2, bx b3 54 [vb r1.1.1, vs r1.1.2, vi y1, vi s1.2.2, vs []])] [] [] [Rl vM p3 c3 s1.1]) (jA 2 u<|zJ u (qN<|zA 1 u<|
  qB .s [0] [] zFk u u u (cq [0])<|fun r2 _ k p4 c4=>k<|zL 3 u<|qI .s 2 u u u<|zQ<|zH (gv (fun _ k=>k p4 c4) [0,1,2] (gq [0])))<|wK<|zH (gv (fun _ k=>k p2 c2) [0,1,2] (gq [0])))<|fun s1 _ k p3 c3=>k<|
  wL (fun s2 K=>∀ p5 c5,K [4,5] [(0, bx b1 166 [sv p5 s2.1 c5, vb s2.2.1]), (2, bx b3 54 [vb r1.1.1, vs r1.1.2, vi y1, vi s1.2.2, vs s2.2.2])] [] [] [Rl vM p5 c5 s2.1]) (zB<|zA 2 u<|zL 0 u<|zS 0 u u u<|zA 2 u<|zC<|
  zJ u (wL (fun s3 K=>∀ p6 c6,K [0,4,5] [(0, bx b1 166 [sv p6 s3.1 c6, vb s3.2])] [] [] [Rl vM p6 c6 s3.1]) (qN<|zA 3 u<|zL 1 u<|zS 0 u u u<|zA 1 u<|wF 26 u (zA 3 u<|zD (vb true)<|zA 1 u<|zL 1 u<|
  qI .s 0 u u u<|zQ<|zH (gv (fun _ k=>k p3 c3) [0,1,2] (gq [0])))<|zA 1 u<|qB .s [0] [] zBE u u u (cq [0])<|fun r3 _ k p7 c7=>k<|zA 1 u<|zD (vb (!(r3.1 == [102, 114, 111, 109])))<|zA 1 u<|
  zL 1 u<|qI .s 0 u u u<|zQ<|zH (gv (fun _ k=>k p7 c7) [0,1,2] (gq [0])))<|fun s3 _ k p6 c6=>k<|qN<|zA 1 u<|qB .s [0] [] zDO u u u (cq [0])<|fun r4 _ k p8 c8=>k<|zL 4 u<|qI .s 2 u u u<|zQ<|
  zH (gv (fun _ k=>k p8 c8) [0,1,2] (gq [0])))<|wK<|zH (gv (fun _ k=>k p3 c3) [0,1,2] (gq [0])))<|fun s2 _ k p5 c5=>k<|zB<|qV 2 5 u u u<|qI .s 1 u u u<|zC<|zK<|
  wW u (lC 1 (.agg #[vb r1.1.1, vs r1.1.2, vi y1, vi s1.2.2, vs s2.2.2]) u u lN) (fun _ k=>k p5 c5) [0] (gq [0])
theorem zJ4 {qd : Prop} {y0 : zAJ} : qG qd prog 196 [pt b1 0] [bx b1 166 [sv p1 y0.1 c1, vb y0.2]] [Rl vM p1 c1 y0.1] (zBh y0) fun r K=>∀ p2 c2,K (.agg #[vs r.1.1, vi r.1.2.1, vb r.1.2.2.1, vs r.1.2.2.2]) [bx b1 166 [sv p2 r.2.1 c2, vb r.2.2]] [Rl vM p2 c2 r.2.1] :=
 qD call196 func196 u fun X=>zB<|wM .s (.agg #[vs [], vi 0, vb false, vs []])<|fun b2=>zC<|zB<|zA 1 u<|qB .s [0] [] zDO u u u (cq [0])<|fun r1 _ k p2 c2=>k<|zA 1 u<|qB .s [0] [] zFk u u u (cq [0])<|
  fun r2 _ k p3 c3=>k<|zD (.agg #[vs r1.1, vi r2.1, vb false, vs []])<|wM .s (.agg #[vs [], vi 0, vb false, vs []])<|fun b3=>qI .s 2 u u u<|zC<|
  wL (fun s1 K=>∀ p4 c4,K [0,2,3] [(0, bx b1 166 [sv p4 s1.1 c4, vb s1.2])] [] [] [Rl vM p4 c4 s1.1]) (qN<|zA 3 u<|zL 1 u<|zS 0 u u u<|zA 1 u<|wF 14 u (zA 3 u<|zD (vb true)<|zA 1 u<|zL 1 u<|
  qI .s 0 u u u<|zQ<|zH (gv (fun _ k=>k p3 c3) [0,1,2] (gq [0])))<|zA 1 u<|qB .s [0] [] zBE u u u (cq [0])<|fun r3 _ k p5 c5=>k<|zA 1 u<|zD (vb (!(r3.1 == [105, 102])))<|zA 1 u<|zL 1 u<|
  qI .s 0 u u u<|zQ<|zH (gv (fun _ k=>k p5 c5) [0,1,2] (gq [0])))<|fun s1 _ k p4 c4=>k<|zB<|zA 1 u<|qB .s [0] [] zCJ u u u (cq [0])<|fun r4 _ k p6 c6=>k<|zL 2 u<|qI .s 2 u u u<|zC<|zB<|
  qV 2 4 u u u<|qI .s 1 u u u<|zC<|zK<|wW u (lC 1 (.agg #[vs r1.1, vi r2.1, vb r4.1.1, vs r4.1.2]) u u lN) (fun _ k=>k p6 c6) [0] (gq [0])
theorem zLs {qd : Prop} {y0 : zAJ} {y1 : Bool} : qG qd prog 194 [pt b1 0, vb y1] [bx b1 166 [sv p1 y0.1 c1, vb y0.2]] [Rl vM p1 c1 y0.1] (zDD y0 y1) fun r K=>∀ p2 c2 p3 c3,K (.agg #[vs r.1.1, vb r.1.2.1, vi r.1.2.2.1, sv p2 r.1.2.2.2.1 c2, vb r.1.2.2.2.2.1, vs r.1.2.2.2.2.2]) [bx b1 166 [sv p3 r.2.1 c3, vb r.2.2]] [Rl wN p2 c2 r.1.2.2.2.1, Rl vM p3 c3 r.2.1] :=
 qD call194 func194 u fun X=>zB<|wM .s (.agg #[vs [], vb false, vi 0, .slice none 0 0, vb false, vs []])<|fun b2=>zC<|zB<|zA 1 u<|zD (.agg #[vs [], vb y1, vi 0, .slice none 0 0, vb false, vs []])<|vV wN 52<|
  wM .s (.agg #[vs [], vb false, vi 0, .slice none 0 0, vb false, vs []])<|fun b3=>qI .s 3 u u u<|zC<|jA 1 u<|
  wL (fun s1 K=>∀ p2 c2,K [0,4,5] [(0, bx b1 166 [sv p2 s1.2.1 c2, vb s1.2.2.1]), (3, bx b3 57 [vs s1.2.2.2.1, vb y1, vi s1.2.2.2.2, sv none ([] : List zN) 0, vb false, vs []])] [0] [(6, vs s1.1)] [Rl vM p2 c2 s1.2.1]) (jA 1 u<|
  zJ u (qN<|zA 1 u<|qB .s [0] [] zDO u u u (cq [1])<|fun r1 _ k p3 c3=>k<|zL 0 u<|qI .s 3 u u u<|zQ<|zH (gv (fun _ k=>k p3 c3) [0,1,2,3] (gq [0,1])))<|qN<|zA 1 u<|
  qB .s [0] [] zDO u u u (cq [1])<|fun r2 _ k p4 c4=>k<|zA 1 u<|qB .s [0] [] zFk u u u (cq [0])<|fun r3 _ k p5 c5=>k<|zL 0 u<|qI .s 3 u u u<|zL 2 u<|qI .s 3 u u u<|
  zA 1 u<|zQ<|zH (gv (fun _ k=>k p5 c5) [0,1,2,3] (gq [0,2])))<|fun s1 _ k p2 c2=>k<|
  wL (fun s2 K=>∀ p6 c6 p7 c7 r_1,K [0,4,5,6] [(0, bx b1 166 [sv p6 s2.1 c6, vb s2.2.1]), (2, r_1), (3, bx b3 57 [vs s1.2.2.2.1, vb y1, vi s1.2.2.2.2, sv p7 s2.2.2 c7, vb false, vs []])] [] [] [Rl vM p6 c6 s2.1, Al wN 52 r_1 p7 c7 s2.2.2]) (
  zV<|
  qZ (fun s3 K=>∀ p8 c8 p9 c9 r_2,K [0,4,5,6] [(0, bx b1 166 [sv p8 s3.1 c8, vb s3.2.1]), (2, r_2), (3, bx b3 57 [vs s1.2.2.2.1, vb y1, vi s1.2.2.2.2, sv p9 s3.2.2 c9, vb false, vs []])] [] [] [Rl vM p8 c8 s3.1, Al wN 52 r_2 p9 c9 s3.2.2]) (gv (fun _ k=>k p2 c2 none 0 []) [0,1,2,3] (gq [0,1]))<|
  fun s3 _ k p8 c8 p9 c9 r_2=>k<|zG<|uN (fun K=>K [0,4,5,6] [] [0,1] [(32, vb ((decide (2 < (len s3.1))) && (!s3.2.1)))] []) (qN<|zA 2 u<|zL 0 u<|zS 0 u u u<|zA 3 u<|vR (b := decide (2 < (len s3.1))) 26 u (fun hb1=>
  zA 2 u<|zL 1 u<|zS 0 u u u<|zA 1 u<|zD (vb (!s3.2.1))<|zQ<|wR 32 (vb ((decide (2 < (len s3.1))) && (!s3.2.1))) u (by rw [hb1]; rfl)<|zH (gv (fun _ k=>k) [0,1,2,3] (gq [0,1])))<|fun hb1=>zA 5 u<|zD (vb false)<|zQ<|
  wR 32 (vb ((decide (2 < (len s3.1))) && (!s3.2.1))) u (by rw [hb1]; rfl)<|zH (gv (fun _ k=>k) [0,1,2,3] (gq [0,1])))<|fun _ k=>k<|zJ u (jC<|zV<|jA 1 u<|wL (fun s4 K=>K [0,4,5,6] [] [0,1] [(7, vs s4)] []) (zB<|zA 2 u<|
  zL 0 u<|zS 0 u u u<|zA 2 u<|zC<|zJ u (jB 1 u<|zH (gv (fun _ k=>k) [0,1,2,3] (gq [0,1])))<|wK<|zH (gv (fun _ k=>k) [0,1,2,3] (gq [0,1])))<|fun s4 _ k=>k<|yI [8] [3] 9<|qH 0 3 u u<|qS 1 3 u u u u<|
  zT 5 [2,3] u<|zX 4<|qB (.f u) [0] [] zCJ u u u (cq [0])<|fun r4 _ k p10 c10=>k<|zO<|zX 5<|wT (.f u) (e := wN) 52 [vb r4.1.1, vs r4.1.2] ([r4.1] : List zN) (rC (vP vB vS) rN)<|
  fun p11 c11=>zO<|zX 6<|wE (.f u) 2 3 u (gk 0) u u<|fun x1 r_3 p12 c12=>zO<|qH 7 3 u u<|zX 8<|qI (o := 3) (.f u) 3 u u u<|jdb [] [3]<|qM<|qE<|qJ (gv (fun _ k=>k p10 c10 p12 c12 r_3) [0,1,2,3] (gq [2,0])))<|qT<|
  qQ<|qY<|qW<|zH (gv (fun _ k=>k p8 c8 p9 c9 r_2) [0,1,2,3] (gq [0,1])))<|fun s2 _ k p6 c6 p7 c7 r_1=>k<|wL (fun s5 K=>∀ p13 c13,K [0,4,5] [(0, bx b1 166 [sv p13 s5.1 c13, vb s5.2])] [1] [] [Rl vM p13 c13 s5.1]) (qN<|zA 3 u<|
  zL 1 u<|zS 0 u u u<|zA 1 u<|wF 52 u (zA 4 u<|zD (vb true)<|zA 1 u<|zL 1 u<|qI .s 0 u u u<|zQ<|zH (gv (fun _ k=>k p6 c6) [0,1,2,3] (gq [0,1])))<|zA 1 u<|
  qB .s [0] [] zBE u u u (cq [0])<|fun r5 _ k p14 c14=>k<|zA 2 u<|zD (vb (!(r5.1 == s1.1)))<|zA 1 u<|zL 1 u<|qI .s 0 u u u<|zQ<|zH (gv (fun _ k=>k p14 c14) [0,1,2,3] (gq [0,2])))<|
  fun s5 _ k p13 c13=>k<|zB<|zA 1 u<|qB .s [0] [] zCJ u u u (cq [0])<|fun r6 _ k p15 c15=>k<|zL 4 u<|qI .s 3 u u u<|zC<|zB<|qV 3 6 u u u<|qI .s 1 u u u<|zC<|zK<|wX 2 2 u u<|
  wW u (lC 1 (.agg #[vs s1.2.2.2.1, vb y1, vi s1.2.2.2.2, sv p7 s2.2.2 c7, vb r6.1.1, vs r6.1.2]) u u lN) (fun _ k=>k p7 c7 p15 c15) [0] (gq [0,1])
theorem zMj {y0 : zAJ} {y1 : zM} : qG False prog 136 [pt b1 0, pt b2 0] [bx b1 166 [sv p1 y0.1 c1, vb y0.2], bx b2 26 [sv p2 y1.1 c2, sv p3 y1.2.1 c3, sv p4 y1.2.2 c4], r_1, r_2, r_3] [Rl vM p1 c1 y0.1, Al wO 54 r_1 p2 c2 y1.1, Al qP 57 r_2 p3 c3 y1.2.1, Al wJ 59 r_3 p4 c4 y1.2.2, Pt (uT 4 vM) 1 0 zAY, Tb prog "internal/strconv.uint64pow10" .u64 Lib.pow10Tab] (zDf y0 y1) fun r K=>∀ p5 c5 p6 c6 r_4 p7 c7 r_5 p8 c8 r_6,K (.tuple #[vi r.1, vs r.2.1]) [bx b1 166 [sv p5 r.2.2.1 c5, vb r.2.2.2.1], bx b2 26 [sv p6 r.2.2.2.2.1 c6, sv p7 r.2.2.2.2.2.1 c7, sv p8 r.2.2.2.2.2.2 c8], r_4, r_5, r_6] [Rl vM p5 c5 r.2.2.1, Al wO 54 r_4 p6 c6 r.2.2.2.2.1, Al qP 57 r_5 p7 c7 r.2.2.2.2.2.1, Al wJ 59 r_6 p8 c8 r.2.2.2.2.2.2] :=
 qD call136 func136 u fun X=>jA 2 u<|zG<|zB<|zA 1 u<|qB .s [0] [] zBE u u u (cq [0])<|fun r1 _ k p5 c5=>k<|zA 1 u<|zC<|jA 1 u<|zV<|wL (fun s1 K=>K [0,1,6,15] [] [0,2,3,4,5,6] [(16, vb s1)] []) (jA 2 u<|zJ u (wK<|
  zH (gv (fun _ k=>k) [0,1,2,3,4] (gq [0,2,3,4,5,6])))<|jA 2 u<|zJ u (wK<|zH (gv (fun _ k=>k) [0,1,2,3,4] (gq [0,2,3,4,5,6])))<|jB 2 u<|zH (gv (fun _ k=>k) [0,1,2,3,4] (gq [0,2,3,4,5,6])))<|fun s1 _ k=>k<|zJ u (jA 1 u<|
  wL (fun s2 K=>K [0,1] [] [0,1,2,3,4,5] [(7, vi s2)] []) (zB<|jlT (vs) (fun _ _ _ _ h=>h) (gk 4) u<|zA 1 u<|zC<|zV<|
  qZ (fun s3 K=>K [0,1,6,20] [] [0,1,2,3,4,5] [(7, vi s3.1), (21, vi s3.2)] []) (gv (fun _ k=>k) [0,1,2,3,4] (gq [0,1,2,3,4,5]))<|fun s3 _ k=>k<|jA 1 u<|zG<|zJ u (jC<|zG<|zV<|zB<|zA 1 u<|uF fun x1 h1=>
  jv (fun h=>r_aidx (l := zAY) (vs) h u u u underlying214 u (by kernel_rfl) h1)<|zA 2 u<|zC<|jA 3 u<|zJ u (jB 2 u<|qE<|zP<|jB 2 u<|qJ (gv (fun _ k=>k) [0,1,2,3,4] (gq [0,1,2,3,4,5])))<|wK<|qE<|
  zP<|jB 2 u<|qJ (gv (fun _ k=>k) [0,1,2,3,4] (gq [0,1,2,3,4,5])))<|qT<|qQ<|qY<|qW<|zH (gv (fun _ k=>k) [0,1,2,3,4] (gq [0,1,2,3,4,5])))<|fun s2 _ k=>k<|zB<|zA 2 u<|qB .s [0] [] zK3 u u u (cq [0])<|
  fun r2 _ k p6 c6=>k<|wM .s (.agg #[vb false, vs [], vi 0, vi 0, vs []])<|fun b3=>qI .s 5 u u u<|zC<|yE [10] [1, 5] 11<|zT 8 [0,1,2] u<|qH 3 0 u u<|qS 4 1 u u u u<|vQ 5 5 5 u u u u<|zX 6<|
  wT (.f u) (e := wO) 54 [vb r2.1.1.1, vs r2.1.1.2, vi r2.1.2.1, vi r2.1.2.2.1, vs r2.1.2.2.2] ([r2.1] : List vO) (rC (vP (vP vB vS) (vP vI (vP vI vS))) rN)<|fun p7 c7=>zO<|zX 7<|wE (.f u) 2 3 u (gk 0) u u<|
  fun x2 r_4 p8 c8=>zO<|zT 2 [8] u<|qH 9 0 u u<|zX 10<|qI (o := 0) (.f u) 1 u u u<|jdb [] [1, 5]<|qM<|zP<|zB<|qV 5 5 u u u<|qL zLe u (cq [7,8])<|fun r3 _ k=>k<|zA 2 u<|zC<|zK<|qO<|qA<|
  wW u (lT u (lT u lN)) (fun _ k=>k p6 c6 p8 c8 r_4 p3 c3 r_2 p4 c4 r_3) [0,1,2,3,4] (gq [2,0,5,6]))<|wL (fun s4 K=>K [0,1,6,15] [] [0,1,2,3,4,5] [(45, vb s4)] []) (jA 2 u<|zJ u (wK<|
  zH (gv (fun _ k=>k) [0,1,2,3,4] (gq [0,1,2,3,4,5])))<|jB 2 u<|zH (gv (fun _ k=>k) [0,1,2,3,4] (gq [0,1,2,3,4,5])))<|fun s4 _ k=>k<|zJ u (zB<|zA 3 u<|qB .s [0] [] zLs u u u (cq [0])<|
  fun r4 _ k p9 c9 p10 c10=>k<|wM .s (.agg #[vs [], vb false, vi 0, .slice none 0 0, vb false, vs []])<|fun b4=>qI .s 5 u u u<|zC<|yE [10] [1, 5] 11<|zT 8 [0,1,2] u<|qH 3 1 u u<|qS 4 1 u u u u<|
  vQ 5 5 6 u u u u<|zX 6<|
  wT (.f u) (e := qP) 57 [vs r4.1.1, vb r4.1.2.1, vi r4.1.2.2.1, sv p9 r4.1.2.2.2.1 c9, vb r4.1.2.2.2.2.1, vs r4.1.2.2.2.2.2] ([r4.1] : List qR) (rC (vP vS (vP vB (vP vI (vP (vL (gk 0)) (vP vB vS))))) rN)<|fun p11 c11=>zO<|zX 7<|
  wE (.f u) 3 5 u (gk 0) u u<|fun x3 r_5 p12 c12=>zO<|zT 2 [8] u<|qH 9 1 u u<|zX 10<|qI (o := 1) (.f u) 1 u u u<|jdb [] [1, 5]<|qM<|zP<|zB<|qV 5 6 u u u<|qL zNI u (cq [2,9])<|
  fun r5 _ k=>k<|zA 2 u<|zC<|zK<|qO<|qA<|wW u (lT u (lT u lN)) (fun _ k=>k p10 c10 p2 c2 r_1 p12 c12 r_5 p4 c4 r_3) [0,1,2,3,4] (gq [3,5,0,7]))<|jA 2 u<|zJ u (zB<|zA 1 u<|
  qB .s [0] [] zJ4 u u u (cq [0])<|fun r6 _ k p13 c13=>k<|wM .s (.agg #[vs [], vi 0, vb false, vs []])<|fun b5=>qI .s 5 u u u<|zC<|yE [10] [1, 5] 11<|zT 8 [0,1,2] u<|qH 3 2 u u<|
  qS 4 1 u u u u<|vQ 5 5 4 u u u u<|zX 6<|wT (.f u) (e := wJ) 59 [vs r6.1.1, vi r6.1.2.1, vb r6.1.2.2.1, vs r6.1.2.2.2] ([r6.1] : List vH) (rC (vP vS (vP vI (vP vB vS))) rN)<|fun p14 c14=>zO<|zX 7<|
  wE (.f u) 4 5 u (gk 0) u u<|fun x4 r_6 p15 c15=>zO<|zT 2 [8] u<|qH 9 2 u u<|zX 10<|qI (o := 2) (.f u) 1 u u u<|jdb [] [1, 5]<|qM<|zP<|zB<|qV 5 4 u u u<|qL zK0 u (cq [8])<|
  fun r7 _ k=>k<|zA 2 u<|zC<|zK<|qO<|qA<|wW u (lT u (lT u lN)) (fun _ k=>k p13 c13 p2 c2 r_1 p3 c3 r_2 p15 c15 r_6) [0,1,2,3,4] (gq [2,4,5,0]))<|wK<|qE<|zP<|jA 2 u<|zK<|
  wW u (lT u (lT u lN)) (fun _ k=>k p5 c5 p2 c2 r_1 p3 c3 r_2 p4 c4 r_3) [0,1,2,3,4] (gq [0,1,2,3])
theorem zIi {qd : Prop} {y0 : qC} {y1 : qC} : qG qd prog 227 [vs y0, vs y1] [] [] (zFY y0 y1) fun r K=>K (vi r) [] [] := zWY Go.Proofs.Tryz.lays219 call227
theorem zJb {qd : Prop} {y0 : qC} {y1 : qC} : qG qd prog 188 [vs y0, vs y1] [] [] (zGD y0 y1) fun r K=>K (.tuple #[vs r.1, vs r.2.1, vb r.2.2]) [] [] :=
 qD call188 func188 u fun X=>jA 3 u<|zG<|zB<|zA 2 u<|qL zIi u ⟨⟩<|fun r1 _ k=>k<|zA 1 u<|zC<|jA 2 u<|zJ u (yE [] [] 12<|zT 10 [0,1] u<|uF fun x1 h1=>
  jdv 2 u (fun h=>zTW h u underlying9 u u (.inl ⟨rfl, rfl⟩) (.inr ⟨_, rfl⟩) h1)<|zT 4 [3,4,5,6,7] u<|uF fun x2 h2=>jdv 8 u (fun h=>zTW h u underlying9 u u (.inr ⟨_, rfl⟩) (.inl ⟨rfl, rfl⟩) h2)<|
  zT 0 [9,10,11] u<|qM<|zP<|zK<|qA<|wW u (lT u (lT u (lT u lN))) (fun _ k=>k) [] ⟨⟩)<|jC<|jA 4 u<|zK<|wW u (lT u (lT u (lT u lN))) (fun _ k=>k) [] ⟨⟩
theorem zRx {qd : Prop} {y0 : qC} {y1 : qC} : qG qd prog 134 [vs y0, vs y1] [] [] (zOM y0 y1) fun r K=>K (.tuple #[vs r.1, vs r.2.1, vb r.2.2]) [] [] :=
 qD call134 func134 u fun X=>jA 3 u<|zB<|zA 2 u<|qL zJb u ⟨⟩<|fun r1 _ k=>k<|zA 6 u<|zC<|zK<|wW u (lT u (lT u (lT u lN))) (fun _ k=>k) [] ⟨⟩
theorem zPN {y0 : qC} : qG False prog 135 [vs y0] [] [Tb prog "strings.asciiSpace" .u8 Lib.asciiSpaceTab, Wt 2] (zLP y0) fun r K=>∀ p1 c1,K (sv p1 r c1) [] [Rl vM p1 c1 r] := zVv Go.Proofs.Tryz.lays157 (by kernel_rfl) (by kernel_rfl) (by kernel_rfl) call135
theorem zPJ {y0 : qC} : qG False prog 76 [vs y0] [] [Tb prog "strings.asciiSpace" .u8 Lib.asciiSpaceTab, Pt (uT 4 vM) 1 0 zAY, Wt 2, Tb prog "internal/strconv.uint64pow10" .u64 Lib.pow10Tab] (zGX y0) fun r K=>∀ p1 c1 p2 c2 p3 c3,K (.tuple #[.agg #[sv p1 r.1.1 c1, sv p2 r.1.2.1 c2, sv p3 r.1.2.2 c3], vi r.2.1, vi r.2.2]) [] [Rl wO p1 c1 r.1.1, Rl qP p2 c2 r.1.2.1, Rl wJ p3 c3 r.1.2.2] :=
 qD call76 func76 u fun X=>zB<|wM .s (.agg #[.slice none 0 0, .slice none 0 0, .slice none 0 0])<|fun b1=>zA 2 u<|zC<|zG<|jA 3 u<|zJ u (zB<|zD (.agg #[.slice none 0 0, .slice none 0 0, .slice none 0 0])<|qI .s 0 u u u<|zA 2 u<|zC<|zK<|qA<|
  wW u (lC 0 (.agg #[.slice none 0 0, .slice none 0 0, .slice none 0 0]) u u (lT u (lT u lN))) (fun _ k=>k none 0 none 0 none 0) [] ⟨gn,gn,gn,⟨⟩⟩)<|jC<|zB<|wM .s (.agg #[.slice none 0 0, .slice none 0 0, .slice none 0 0])<|
  fun b2=>vV wO 54<|vV qP 57<|vV wJ 59<|zC<|jA 1 u<|
  zTu (fun s1 K=>∀ p1 c1 r_1 p2 c2 r_2 p3 c3 r_3,K [2,5] [(1, bx b2 26 [sv p1 s1.1 c1, sv p2 s1.2.1 c2, sv p3 s1.2.2 c3]), (2, r_1), (3, r_2), (4, r_3)] [3,4,5,6] [] [Al wO 54 r_1 p1 c1 s1.1, Al qP 57 r_2 p2 c2 s1.2.1, Al wJ 59 r_3 p3 c3 s1.2.2]) (
  jA 1 u<|zV<|
  qZ (fun s2 K=>∀ p4 c4 r_4 p5 c5 r_5 p6 c6 r_6,K [2,5] [(1, bx b2 26 [sv p4 s2.2.2.2.1 c4, sv p5 s2.2.2.2.2.1 c5, sv p6 s2.2.2.2.2.2 c6]), (2, r_4), (3, r_5), (4, r_6)] [3,4,5,6] [(0, vs s2.1), (6, vi s2.2.1), (7, vi s2.2.2.1)] [Al wO 54 r_4 p4 c4 s2.2.2.2.1, Al qP 57 r_5 p5 c5 s2.2.2.2.2.1, Al wJ 59 r_6 p6 c6 s2.2.2.2.2.2]) (gv (fun _ k=>k none 0 [] none 0 [] none 0 []) [0,1,2,3,4] (gq [2,1,0,3,4,5,6]))<|
  fun s2 _ k p4 c4 r_4 p5 c5 r_5 p6 c6 r_6=>k<|zG<|jA 2 u<|zJ u (jC<|zG<|zV<|zB<|zA 1 u<|qL zRx u ⟨⟩<|fun r1 _ k=>k<|zA 7 u<|zC<|zB<|zA 1 u<|qL zPN u (cq [3,5])<|fun r2 _ k p7 c7=>k<|
  zD (.agg #[sv p7 r2 c7, vb false])<|wC .s u<|fun b3=>zA 1 u<|zC<|zB<|zA 1 u<|qB .s [5, 1, 2, 3, 4] [] zMj u u u (cq [0,1,2,3,5,7])<|fun r3 _ k p8 c8 p9 c9 r_7 p10 c10 r_8 p11 c11 r_9=>k<|zA 5 u<|zC<|
  zG<|uN (fun K=>K [2,5,7,9,12] [(5, [])] [1,2,3,8,9,10,11] [(63, vb ((!r1.2.2) || (r3.2.2.2.1 || ((decide (0 < (len r3.2.2.1))) || ((!(r3.2.1 == r1.1)) || (decide (r3.1 < s2.2.1)))))))] []) (qN<|zA 3 u<|
  vR (b := !r1.2.2) 40 u (fun hb1=>zA 4 u<|zD (vb true)<|zA 7 u<|zD (vb true)<|zA 4 u<|zD (vb true)<|zA 4 u<|zD (vb true)<|zQ<|
  wR 63 (vb ((!r1.2.2) || (r3.2.2.2.1 || ((decide (0 < (len r3.2.2.1))) || ((!(r3.2.1 == r1.1)) || (decide (r3.1 < s2.2.1))))))) u (by rw [hb1]; rfl)<|zH (gv (fun _ k=>k) [0,1,2,3,4,905] (gq [1,2,3,8,9,10,11])))<|fun hb1=>zA 2 u<|
  zL 1 u<|zS 5 u u u<|zD (vb r3.2.2.2.1)<|zA 1 u<|vR (b := r3.2.2.2.1) 46 u (fun hb2=>zA 6 u<|zD (vb true)<|zA 4 u<|zD (vb true)<|zA 4 u<|zD (vb true)<|zQ<|
  wR 63 (vb ((!r1.2.2) || (r3.2.2.2.1 || ((decide (0 < (len r3.2.2.1))) || ((!(r3.2.1 == r1.1)) || (decide (r3.1 < s2.2.1))))))) u (by rw [hb1,hb2]; rfl)<|zH (gv (fun _ k=>k) [0,1,2,3,4,905] (gq [1,2,3,8,9,10,11])))<|fun hb2=>zA 2 u<|
  zL 0 u<|zS 5 u u u<|zA 2 u<|zD (vb (decide (0 < (len r3.2.2.1))))<|zA 1 u<|vR (b := decide (0 < (len r3.2.2.1))) 54 u (fun hb3=>zA 3 u<|zD (vb true)<|zA 4 u<|zD (vb true)<|zQ<|
  wR 63 (vb ((!r1.2.2) || (r3.2.2.2.1 || ((decide (0 < (len r3.2.2.1))) || ((!(r3.2.1 == r1.1)) || (decide (r3.1 < s2.2.1))))))) u (by rw [hb1,hb2,hb3]; rfl)<|zH (gv (fun _ k=>k) [0,1,2,3,4,905] (gq [1,2,3,8,9,10,11])))<|fun hb3=>
  zA 3 u<|zD (vb (!(r3.2.1 == r1.1)))<|zA 1 u<|vR (b := !(r3.2.1 == r1.1)) 59 u (fun hb4=>zA 3 u<|zD (vb true)<|zQ<|
  wR 63 (vb ((!r1.2.2) || (r3.2.2.2.1 || ((decide (0 < (len r3.2.2.1))) || ((!(r3.2.1 == r1.1)) || (decide (r3.1 < s2.2.1))))))) u (by rw [hb1,hb2,hb3,hb4]; rfl)<|zH (gv (fun _ k=>k) [0,1,2,3,4,905] (gq [1,2,3,8,9,10,11])))<|fun hb4=>
  zA 3 u<|zD (vb (decide (r3.1 < s2.2.1)))<|zQ<|wR 63 (vb ((!r1.2.2) || (r3.2.2.2.1 || ((decide (0 < (len r3.2.2.1))) || ((!(r3.2.1 == r1.1)) || (decide (r3.1 < s2.2.1))))))) u (by rw [hb1,hb2,hb3,hb4]; rfl)<|
  zH (gv (fun _ k=>k) [0,1,2,3,4,905] (gq [1,2,3,8,9,10,11])))<|fun _ k=>k<|zJ u (zB<|zD (.agg #[.slice none 0 0, .slice none 0 0, .slice none 0 0])<|zA 1 u<|qI .s 0 u u u<|zA 2 u<|zC<|zK<|qA<|qO<|qA<|wU<|qO<|wU<|
  wW u (lC 0 (.agg #[.slice none 0 0, .slice none 0 0, .slice none 0 0]) u u (lT u (lT u lN))) (fun _ k=>k none 0 none 0 none 0) [] ⟨gn,gn,gn,⟨⟩⟩)<|jC<|jB 4 u<|qE<|zP<|jB 3 u<|
  qJ (gv (fun _ k=>k p9 c9 r_7 p10 c10 r_8 p11 c11 r_9) [0,1,2,3,4] (gq [0,1,2,3,4,5,6])))<|qT<|qQ<|qY<|qW<|qJ (gv (fun _ k=>k p4 c4 r_4 p5 c5 r_5 p6 c6 r_6) [0,1,2,3,4] (gq [0,1,2,3,4,5,6])))<|fun s1 _ k p1 c1 r_1 p2 c2 r_2 p3 c3 r_3=>
  k<|zG<|zB<|qV 1 3 u u u<|qB .s [] [2, 3, 4] zJ1 u u u ⟨cl 2 0,cl 3 1,cl 4 2,⟨⟩⟩<|fun r4 _ k=>k<|zA 1 u<|zC<|jA 2 u<|zJ u (zB<|zD (.agg #[.slice none 0 0, .slice none 0 0, .slice none 0 0])<|
  zA 1 u<|qI .s 0 u u u<|zA 2 u<|zC<|zK<|qA<|wW u (lC 0 (.agg #[.slice none 0 0, .slice none 0 0, .slice none 0 0]) u u (lT u (lT u lN))) (fun _ k=>k none 0 none 0 none 0) [] ⟨gn,gn,gn,⟨⟩⟩)<|jC<|zB<|
  qV 1 3 u u u<|qI .s 0 u u u<|zA 2 u<|zC<|zK<|wX 2 0 u u<|wX 3 2 u u<|wX 4 4 u u<|
  wW u (lC 0 (.agg #[sv p1 s1.1 c1, sv p2 s1.2.1 c2, sv p3 s1.2.2 c3]) u u (lT u (lT u lN))) (fun _ k=>k p1 c1 p2 c2 p3 c3) [] (gq [2,1,0])
theorem zMH {y0 : qC} : qG False prog 40 [vs y0] [] [Tb prog "strings.asciiSpace" .u8 Lib.asciiSpaceTab, Pt (uT 4 vM) 1 0 zAY, Wt 2, Tb prog "internal/strconv.uint64pow10" .u64 Lib.pow10Tab] (zGn y0) fun r K=>∀ p1 c1 p2 c2 p3 c3,K (.agg #[sv p1 r.1 c1, sv p2 r.2.1 c2, sv p3 r.2.2 c3]) [] [Rl wO p1 c1 r.1, Rl qP p2 c2 r.2.1, Rl wJ p3 c3 r.2.2] :=
 qD call40 func40 u fun X=>zB<|wM .s (.agg #[.slice none 0 0, .slice none 0 0, .slice none 0 0])<|fun b1=>zC<|zB<|zA 1 u<|qL zPJ u (cq [0,1,2,3])<|fun r1 _ k p1 c1 p2 c2 p3 c3=>k<|zA 4 u<|
  wM .s (.agg #[.slice none 0 0, .slice none 0 0, .slice none 0 0])<|fun b2=>qI .s 1 u u u<|zA 2 u<|zC<|zB<|qV 1 3 u u u<|qI .s 0 u u u<|zC<|zK<|
  wW u (lC 0 (.agg #[sv p1 r1.1.1 c1, sv p2 r1.1.2.1 c2, sv p3 r1.1.2.2 c3]) u u lN) (fun _ k=>k p1 c1 p2 c2 p3 c3) [] (gq [0,1,2])
theorem zRu : qG False prog 12 [] [] [Tb prog "strings.asciiSpace" .u8 Lib.asciiSpaceTab, Pt (uT 4 vM) 1 0 zAY, Wt 2, Pt (uT 64 (zU .u8)) 3 0 tJ, Tb prog "internal/strconv.uint64pow10" .u64 Lib.pow10Tab] (zFq) fun r K=>K (vb r) [] [] :=
 qD call12 func12 u fun X=>jA 1 u<|zB<|zD (.agg #[vi 1, vi 1])<|wM .s (.agg #[vi 0, vi 0])<|fun b1=>qI .s 0 u u u<|zC<|yE [] [0] 8<|vQ 1 0 2 u u u u<|zX 0<|qB (.f u) [] [] zMH u u u (cq [0,1,2,4])<|
  fun r1 _ k p1 c1 p2 c2 p3 c3=>k<|zO<|zX 2<|qB (.f u) [] [] zI8 u u u (cq [0,1,2,6])<|fun r2 _ k p4 c4=>k<|zO<|zT 0 [3,4,5,6,7] u<|qM<|zP<|yE [] [0] 8<|vQ 1 0 2 u u u u<|zX 0<|
  qB (.f u) [] [] zMH u u u (cq [4,5,6,8])<|fun r3 _ k p5 c5 p6 c6 p7 c7=>k<|zO<|zX 2<|qB (.f u) [] [] zI8 u u u (cq [0,1,2,10])<|fun r4 _ k p8 c8=>k<|zO<|zT 0 [3,4,5,6,7] u<|qM<|zP<|
  yE [] [0] 8<|vQ 1 0 2 u u u u<|zX 0<|qB (.f u) [] [] zMH u u u (cq [8,9,10,12])<|fun r5 _ k p9 c9 p10 c10 p11 c11=>k<|zO<|zX 2<|qB (.f u) [] [] zI8 u u u (cq [0,1,2,14])<|
  fun r6 _ k p12 c12=>k<|zO<|zT 0 [3,4,5,6,7] u<|qM<|zP<|wL (fun s1 K=>K [] [(0, [])] [12,13,14,15,16] [(0, vb s1)] []) (qN<|zA 2 u<|wF 28 u (zA 3 u<|zD (vb ((len r2.1) == 1))<|zA 1 u<|wF 33 u (zA 1 u<|
  wB 8 u u u<|fun x1 b2 o1=>wA true yK (gk 0) u<|zD (.agg #[vb true, vs [112]])<|zD (vb (x1 == (true, [112])))<|zD (vb (x1 == (true, [112])))<|zA 1 u<|wF 40 u (zA 1 u<|zD (vb r4.2)<|zA 1 u<|wF 43 u (
  zA 3 u<|zD (vb ((len r4.1) == 2))<|zA 1 u<|wF 48 u (zA 1 u<|wB 5 u u u<|fun x2 b3 o2=>wA true yK (gk 0) u<|zD (.agg #[vb true, vs [113]])<|zD (vb (x2 == (true, [113])))<|zD (vb (x2 == (true, [113])))<|
  zA 1 u<|wF 55 u (zA 1 u<|zD (vb r6.2)<|zA 1 u<|wF 58 u (zA 3 u<|zD (vb ((len r6.1) == 0))<|zA 1 u<|zQ<|zH (gv (fun _ k=>k) [900] (gq [14,15,16,17,18])))<|zA 3 u<|zD (vb false)<|zA 1 u<|zQ<|
  zH (gv (fun _ k=>k) [900] (gq [14,15,16,17,18])))<|zA 1 u<|zD (vb false)<|zA 4 u<|zD (vb false)<|zA 1 u<|zQ<|zH (gv (fun _ k=>k) [900] (gq [14,15,16,17,18])))<|zA 5 u<|zD (vb false)<|zA 2 u<|zD (vb false)<|zA 4 u<|
  zD (vb false)<|zA 1 u<|zQ<|zH (gv (fun _ k=>k) [900] (gq [13,14,15,16,17])))<|zA 3 u<|zD (vb false)<|zA 6 u<|zD (vb false)<|zA 2 u<|zD (vb false)<|zA 4 u<|zD (vb false)<|zA 1 u<|zQ<|
  zH (gv (fun _ k=>k) [900] (gq [13,14,15,16,17])))<|zA 1 u<|zD (vb false)<|zA 4 u<|zD (vb false)<|zA 6 u<|zD (vb false)<|zA 2 u<|zD (vb false)<|zA 4 u<|zD (vb false)<|zA 1 u<|zQ<|
  zH (gv (fun _ k=>k) [900] (gq [13,14,15,16,17])))<|zA 5 u<|zD (vb false)<|zA 2 u<|zD (vb false)<|zA 4 u<|zD (vb false)<|zA 6 u<|zD (vb false)<|zA 2 u<|zD (vb false)<|zA 4 u<|zD (vb false)<|zA 1 u<|zQ<|
  zH (gv (fun _ k=>k) [900] (gq [12,13,14,15,16])))<|zA 3 u<|zD (vb false)<|zA 6 u<|zD (vb false)<|zA 2 u<|zD (vb false)<|zA 4 u<|zD (vb false)<|zA 6 u<|zD (vb false)<|zA 2 u<|zD (vb false)<|zA 4 u<|
  zD (vb false)<|zA 1 u<|zQ<|zH (gv (fun _ k=>k) [900] (gq [12,13,14,15,16])))<|fun s1 _ k=>k<|zK<|zR u u (fun _ k=>k) [] ⟨⟩
theorem zQP {qd : Prop} {y0 : List zN} {y1 : zN} : qG qd prog 72 [sv p1 y0 c1, .agg #[vb y1.1, vs y1.2]] [] [Rl wN p1 c1 y0] (zKx y0 y1) fun r K=>K (vb r) [] [] :=
 qD call72 func72 u fun X=>zB<|wC .s u<|fun b1=>zA 1 u<|zC<|zG<|jA 1 u<|zV<|qZ (fun s1 K=>K [0,3] [] [0] [(5, vi s1)] []) (gv (fun _ k=>k) [0] (gq [0]))<|fun s1 _ k=>k<|zG<|jA 4 u<|zJ u (jC<|zG<|zV<|yE [] [0] 6<|zT 4 [0,1] u<|
  vE 2 0 u u u u<|fun x1 b2 o1=>vD 3 true yK u (gk 0) u<|vQ 4 0 2 u u u u<|wD 5 (vb (x1 == y1)) u<|qM<|zP<|zJ u (jA 1 u<|zK<|qO<|qA<|wU<|qO<|qA<|zR u u (fun _ k=>k) [] ⟨⟩)<|wK<|qE<|zP<|
  jB 3 u<|qJ (gv (fun _ k=>k) [0] (gq [1])))<|qT<|qQ<|qY<|qW<|zP<|jA 1 u<|zK<|zR u u (fun _ k=>k) [] ⟨⟩
theorem zTf {qd : Prop} {y0 : zM} : qG qd prog 71 [.agg #[sv p1 y0.1 c1, sv p2 y0.2.1 c2, sv p3 y0.2.2 c3]] [] [Rl wO p1 c1 y0.1, Rl qP p2 c2 y0.2.1, Rl wJ p3 c3 y0.2.2] (zJy y0) fun r K=>∀ p4 c4 p5 c5 r_1 p6 c6,K (.agg #[sv p4 r.1 c4, sv p5 r.2.1 c5, sv p6 r.2.2 c6]) [r_1] [Rl wO p4 c4 r.1, Al qP 57 r_1 p5 c5 r.2.1, Rl wJ p6 c6 r.2.2] :=
 qD call71 func71 u fun X=>zB<|wC .s u<|fun b1=>wM .s (.agg #[.slice none 0 0, .slice none 0 0, .slice none 0 0])<|fun b2=>zC<|
  wL (fun s1 K=>∀ b3 p4 c4 r_1 p5 c5 r_2 p6 c6 r_3,K [1,2] [(2, bx b3 26 [sv p4 s1.1 c4, sv p5 s1.2.1 c5, sv p6 s1.2.2 c6]), (3, r_1), (4, r_2), (5, r_3)] [0,1,2] [(3, pt b3 0)] [Al wO 54 r_1 p4 c4 s1.1, Al qP 57 r_2 p5 c5 s1.2.1, Al wJ 59 r_3 p6 c6 s1.2.2]) (
  yI [] [0] 11<|qH 1 0 u u<|qS 2 0 u u u u<|qH 5 2 u u<|qS 6 0 u u u u<|jd3 0 4 9 (yP (.f u) (e := wO) 54 [] ([] : List vO) rN<|fun r_4 p7 c7=>zO<|jd3 3 4 9 (wE (.f u) 2 0 u (gk 1) u u<|
  fun x1 r_5 p8 c8=>zO<|uR 4 9 (yP (.f u) (e := wJ) 59 [] ([] : List vH) rN<|fun r_6 p9 c9=>zO<|uR 7 9 (wE (.f u) 3 0 u (gk 5) u u<|fun x2 r_7 p10 c10=>zO<|
  wD 8 (.agg #[sv p8 x1 c8, .slice none 0 0, sv p10 x2 c10]) u<|vV qP 57<|zX 9<|wM (.f u) (.agg #[.slice none 0 0, .slice none 0 0, .slice none 0 0])<|fun b4=>zO<|zX 10<|qI (o := 0) (.f u) 5 u u u<|zO<|qM<|
  zH (gv (fun _ k=>k b4 p8 c8 r_5 none 0 [] p10 c10 r_7) [0,1,5,2,4,3] (gq [3,0,1,5,6,7]))) <|wM (.f u) (.agg #[.slice none 0 0, .slice none 0 0, .slice none 0 0])<|fun b5=>zO<|zX 7<|wE (.f u) 3 0 u (gk 5) u u<|
  fun x3 r_8 p11 c11=>zO<|wD 8 (.agg #[sv p8 x1 c8, .slice none 0 0, sv p11 x3 c11]) u<|vV qP 57<|zX 10<|qI (o := 0) (.f u) 4 u u u<|zO<|qM<|
  zH (gv (fun _ k=>k b5 p8 c8 r_5 none 0 [] p11 c11 r_8) [0,1,4,2,5,3] (gq [3,0,1,5,6,7]))) <|wM (.f u) (.agg #[.slice none 0 0, .slice none 0 0, .slice none 0 0])<|fun b6=>zO<|zX 4<|
  yP (.f u) (e := wJ) 59 [] ([] : List vH) rN<|fun r_9 p12 c12=>zO<|zX 7<|wE (.f u) 4 0 u (gk 5) u u<|fun x4 r_10 p13 c13=>zO<|wD 8 (.agg #[sv p8 x1 c8, .slice none 0 0, sv p13 x4 c13]) u<|vV qP 57<|
  zX 10<|qI (o := 0) (.f u) 3 u u u<|zO<|qM<|zH (gv (fun _ k=>k b6 p8 c8 r_5 none 0 [] p13 c13 r_10) [0,1,3,2,5,4] (gq [3,0,1,5,6,7]))) (yP (.f u) (e := wJ) 59 [] ([] : List vH) rN<|fun r_11 p14 c14=>zO<|
  uR 3 9 (wE (.f u) 2 1 u (gk 2) u u<|fun x5 r_12 p15 c15=>zO<|uR 7 9 (wE (.f u) 3 1 u (gk 5) u u<|fun x6 r_13 p16 c16=>zO<|wD 8 (.agg #[sv p15 x5 c15, .slice none 0 0, sv p16 x6 c16]) u<|vV qP 57<|zX 9<|
  wM (.f u) (.agg #[.slice none 0 0, .slice none 0 0, .slice none 0 0])<|fun b7=>zO<|zX 10<|qI (o := 0) (.f u) 5 u u u<|zO<|qM<|zH (gv (fun _ k=>k b7 p15 c15 r_12 none 0 [] p16 c16 r_13) [0,1,5,2,4,3] (gq [2,0,1,5,6,7]))) <|
  wM (.f u) (.agg #[.slice none 0 0, .slice none 0 0, .slice none 0 0])<|fun b8=>zO<|zX 7<|wE (.f u) 3 1 u (gk 5) u u<|fun x7 r_14 p17 c17=>zO<|wD 8 (.agg #[sv p15 x5 c15, .slice none 0 0, sv p17 x7 c17]) u<|vV qP 57<|
  zX 10<|qI (o := 0) (.f u) 4 u u u<|zO<|qM<|zH (gv (fun _ k=>k b8 p15 c15 r_12 none 0 [] p17 c17 r_14) [0,1,4,2,5,3] (gq [2,0,1,5,6,7]))) <|wM (.f u) (.agg #[.slice none 0 0, .slice none 0 0, .slice none 0 0])<|fun b9=>zO<|
  zX 3<|wE (.f u) 2 1 u (gk 2) u u<|fun x8 r_15 p18 c18=>zO<|zX 7<|wE (.f u) 3 1 u (gk 5) u u<|fun x9 r_16 p19 c19=>zO<|wD 8 (.agg #[sv p18 x8 c18, .slice none 0 0, sv p19 x9 c19]) u<|vV qP 57<|zX 10<|
  qI (o := 0) (.f u) 4 u u u<|zO<|qM<|zH (gv (fun _ k=>k b9 p18 c18 r_15 none 0 [] p19 c19 r_16) [0,1,4,2,5,3] (gq [2,0,1,5,6,7]))) <|wM (.f u) (.agg #[.slice none 0 0, .slice none 0 0, .slice none 0 0])<|fun b10=>zO<|uR 3 4
  (wE (.f u) 2 0 u (gk 1) u u<|fun x10 r_17 p20 c20=>zO<|zX 4<|yP (.f u) (e := wJ) 59 [] ([] : List vH) rN<|fun r_18 p21 c21=>zO<|zX 7<|wE (.f u) 4 0 u (gk 5) u u<|fun x11 r_19 p22 c22=>zO<|
  wD 8 (.agg #[sv p20 x10 c20, .slice none 0 0, sv p22 x11 c22]) u<|vV qP 57<|zX 10<|qI (o := 0) (.f u) 3 u u u<|zO<|qM<|zH (gv (fun _ k=>k b10 p20 c20 r_17 none 0 [] p22 c22 r_19) [0,1,3,2,5,4] (gq [3,0,1,5,6,7]))) <|
  yP (.f u) (e := wJ) 59 [] ([] : List vH) rN<|fun r_20 p23 c23=>zO<|zX 3<|wE (.f u) 2 1 u (gk 2) u u<|fun x12 r_21 p24 c24=>zO<|zX 7<|wE (.f u) 4 1 u (gk 5) u u<|fun x13 r_22 p25 c25=>zO<|
  wD 8 (.agg #[sv p24 x12 c24, .slice none 0 0, sv p25 x13 c25]) u<|vV qP 57<|zX 10<|qI (o := 0) (.f u) 3 u u u<|zO<|qM<|zH (gv (fun _ k=>k b10 p24 c24 r_21 none 0 [] p25 c25 r_22) [0,1,3,2,5,4] (gq [2,0,1,5,6,7]))) (
  yP (.f u) (e := wJ) 59 [] ([] : List vH) rN<|fun r_23 p26 c26=>zO<|uR 0 9 (yP (.f u) (e := wO) 54 [] ([] : List vO) rN<|fun r_24 p27 c27=>zO<|uR 3 9 (wE (.f u) 3 0 u (gk 2) u u<|
  fun x14 r_25 p28 c28=>zO<|uR 7 9 (wE (.f u) 2 2 u (gk 5) u u<|fun x15 r_26 p29 c29=>zO<|wD 8 (.agg #[sv p28 x14 c28, .slice none 0 0, sv p29 x15 c29]) u<|vV qP 57<|zX 9<|
  wM (.f u) (.agg #[.slice none 0 0, .slice none 0 0, .slice none 0 0])<|fun b11=>zO<|zX 10<|qI (o := 0) (.f u) 5 u u u<|zO<|qM<|zH (gv (fun _ k=>k b11 p28 c28 r_25 none 0 [] p29 c29 r_26) [0,1,5,3,4,2] (gq [2,0,1,5,6,7])))
  <|wM (.f u) (.agg #[.slice none 0 0, .slice none 0 0, .slice none 0 0])<|fun b12=>zO<|zX 7<|wE (.f u) 2 2 u (gk 5) u u<|fun x16 r_27 p30 c30=>zO<|wD 8 (.agg #[sv p28 x14 c28, .slice none 0 0, sv p30 x16 c30]) u<|
  vV qP 57<|zX 10<|qI (o := 0) (.f u) 4 u u u<|zO<|qM<|zH (gv (fun _ k=>k b12 p28 c28 r_25 none 0 [] p30 c30 r_27) [0,1,4,3,5,2] (gq [2,0,1,5,6,7]))) <|
  wM (.f u) (.agg #[.slice none 0 0, .slice none 0 0, .slice none 0 0])<|fun b13=>zO<|zX 3<|wE (.f u) 3 0 u (gk 2) u u<|fun x17 r_28 p31 c31=>zO<|zX 7<|wE (.f u) 2 2 u (gk 5) u u<|fun x18 r_29 p32 c32=>zO<|
  wD 8 (.agg #[sv p31 x17 c31, .slice none 0 0, sv p32 x18 c32]) u<|vV qP 57<|zX 10<|qI (o := 0) (.f u) 4 u u u<|zO<|qM<|zH (gv (fun _ k=>k b13 p31 c31 r_28 none 0 [] p32 c32 r_29) [0,1,4,3,5,2] (gq [2,0,1,5,6,7]))) <|
  wM (.f u) (.agg #[.slice none 0 0, .slice none 0 0, .slice none 0 0])<|fun b14=>zO<|zX 0<|yP (.f u) (e := wO) 54 [] ([] : List vO) rN<|fun r_30 p33 c33=>zO<|zX 3<|wE (.f u) 4 0 u (gk 2) u u<|
  fun x19 r_31 p34 c34=>zO<|zX 7<|wE (.f u) 2 2 u (gk 5) u u<|fun x20 r_32 p35 c35=>zO<|wD 8 (.agg #[sv p34 x19 c34, .slice none 0 0, sv p35 x20 c35]) u<|vV qP 57<|zX 10<|qI (o := 0) (.f u) 3 u u u<|zO<|qM<|
  zH (gv (fun _ k=>k b14 p34 c34 r_31 none 0 [] p35 c35 r_32) [0,1,3,4,5,2] (gq [2,0,1,5,6,7]))) <|wM (.f u) (.agg #[.slice none 0 0, .slice none 0 0, .slice none 0 0])<|fun b15=>zO<|uR 0 4 (
  yP (.f u) (e := wO) 54 [] ([] : List vO) rN<|fun r_33 p36 c36=>zO<|uR 3 4 (wE (.f u) 3 0 u (gk 1) u u<|fun x21 r_34 p37 c37=>zO<|zX 4<|yP (.f u) (e := wJ) 59 [] ([] : List vH) rN<|
  fun r_35 p38 c38=>zO<|zX 7<|wE (.f u) 4 0 u (gk 5) u u<|fun x22 r_36 p39 c39=>zO<|wD 8 (.agg #[sv p37 x21 c37, .slice none 0 0, sv p39 x22 c39]) u<|vV qP 57<|zX 10<|qI (o := 0) (.f u) 2 u u u<|zO<|qM<|
  zH (gv (fun _ k=>k b15 p37 c37 r_34 none 0 [] p39 c39 r_36) [0,1,2,3,5,4] (gq [3,0,1,5,6,7]))) <|yP (.f u) (e := wJ) 59 [] ([] : List vH) rN<|fun r_37 p40 c40=>zO<|zX 3<|wE (.f u) 3 1 u (gk 2) u u<|
  fun x23 r_38 p41 c41=>zO<|zX 7<|wE (.f u) 4 1 u (gk 5) u u<|fun x24 r_39 p42 c42=>zO<|wD 8 (.agg #[sv p41 x23 c41, .slice none 0 0, sv p42 x24 c42]) u<|vV qP 57<|zX 10<|qI (o := 0) (.f u) 2 u u u<|zO<|qM<|
  zH (gv (fun _ k=>k b15 p41 c41 r_38 none 0 [] p42 c42 r_39) [0,1,2,3,5,4] (gq [2,0,1,5,6,7]))) <|yP (.f u) (e := wJ) 59 [] ([] : List vH) rN<|fun r_40 p43 c43=>zO<|zX 0<|
  yP (.f u) (e := wO) 54 [] ([] : List vO) rN<|fun r_41 p44 c44=>zO<|zX 3<|wE (.f u) 4 0 u (gk 2) u u<|fun x25 r_42 p45 c45=>zO<|zX 7<|wE (.f u) 3 2 u (gk 5) u u<|fun x26 r_43 p46 c46=>zO<|
  wD 8 (.agg #[sv p45 x25 c45, .slice none 0 0, sv p46 x26 c46]) u<|vV qP 57<|zX 10<|qI (o := 0) (.f u) 2 u u u<|zO<|qM<|zH (gv (fun _ k=>k b15 p45 c45 r_42 none 0 [] p46 c46 r_43) [0,1,2,4,5,3] (gq [2,0,1,5,6,7])))<|
  fun s1 _ k b3 p4 c4 r_1 p5 c5 r_2 p6 c6 r_3=>k<|wL (fun s2 K=>∀ p47 c47 r_44,K [2,3] [(0, []), (2, bx b3 26 [sv p4 s1.1 c4, sv p47 s2 c47, sv p6 s1.2.2 c6]), (4, r_44)] [0,2] [] [Al qP 57 r_44 p47 c47 s2]) (jA 1 u<|zV<|
  qZ (fun s3 K=>∀ p48 c48 r_45,K [1,2,3] [(2, bx b3 26 [sv p4 s1.1 c4, sv p48 s3.2 c48, sv p6 s1.2.2 c6]), (4, r_45)] [3,4,5,0,2] [(4, vi s3.1)] [Al qP 57 r_45 p48 c48 s3.2]) (gv (fun _ k=>k p5 c5 r_2) [0,1,2,3,4,5] (gq [1,3,4,5,0,2]))<|
  fun s3 _ k p48 c48 r_45=>k<|zG<|zB<|zA 1 u<|zL 1 u<|zS 0 u u u<|zA 2 u<|zC<|zJ u (jC<|zG<|zV<|zB<|zL 1 u<|zS 0 u u u<|zA 1 u<|wB 2 u u u<|fun x27 b16 o1=>wA true zJK (gk 0) u<|fun p49 c49=>
  wM .s (.agg #[vs [], vb false, vi 0, .slice none 0 0, vb false, vs []])<|fun b17=>qI .s 6 u u u<|zC<|zB<|yP .s (e := wN) 52 [] ([] : List zN) rN<|fun r_46 p50 c50=>zL 3 u<|zS 6 u u u<|
  wE .s 7 0 u (gk 1) u u<|fun x28 r_47 p51 c51=>zL 3 u<|qI .s 6 u u u<|zC<|qN<|zL 1 u<|zS 2 u u u<|qV 6 6 u u u<|wX 7 0 u u<|
  wT .s (e := qP) 57 [vs x27.1, vb x27.2.1, vi x27.2.2.1, sv p51 x28 c51, vb x27.2.2.2.2.1, vs x27.2.2.2.2.2] ([(x27.1, x27.2.1, x27.2.2.1, x28, x27.2.2.2.2)] : List qR) (rC (vP vS (vP vB (vP vI (vP (vL (gk 0)) (vP vB vS))))) rN)<|
  fun p52 c52=>wE .s 4 6 u (gk 0) u u<|fun x29 r_48 p53 c53=>zL 1 u<|qI .s 2 u u u<|zQ<|qE<|zP<|jB 3 u<|qJ (gv (fun _ k=>k p53 c53 r_48) [0,1,2,3,4,5] (gq [0,8,9,10,11,12])))<|qT<|qQ<|qY<|qW<|
  zH (gv (fun _ k=>k p48 c48 r_45) [900,1,2,3,4,5] (gq [0,4,5])))<|fun s2 _ k p47 c47 r_44=>k<|zB<|qV 2 3 u u u<|qI .s 1 u u u<|zC<|zK<|wX 3 1 u u<|wX 5 3 u u<|
  wW u (lC 1 (.agg #[sv p4 s1.1 c4, sv p47 s2 c47, sv p6 s1.2.2 c6]) u u lN) (fun _ k=>k p4 c4 p47 c47 r_44 p6 c6) [4] (gq [1,2,0])
theorem zQC {qd : Prop} {y0 : zM} {y1 : List zN} : qG qd prog 34 [.agg #[sv p1 y0.1 c1, sv p2 y0.2.1 c2, sv p3 y0.2.2 c3], sv p4 y1 c4] [] [Rl wO p1 c1 y0.1, Rl qP p2 c2 y0.2.1, Rl wJ p3 c3 y0.2.2, Rl wN p4 c4 y1] (zHO y0 y1) fun r K=>∀ p5 c5 p6 c6 p7 c7,K (.agg #[sv p5 r.1 c5, sv p6 r.2.1 c6, sv p7 r.2.2 c7]) [] [Rl wO p5 c5 r.1, Rl qP p6 c6 r.2.1, Rl wJ p7 c7 r.2.2] :=
 qD call34 func34 u fun X=>zB<|wC .s u<|fun b1=>wM .s (.agg #[.slice none 0 0, .slice none 0 0, .slice none 0 0])<|fun b2=>zC<|zB<|qV 0 3 u u u<|qL zTf u (cq [0,1,2])<|fun r1 _ k p5 c5 p6 c6 r_1 p7 c7=>k<|
  wM .s (.agg #[.slice none 0 0, .slice none 0 0, .slice none 0 0])<|fun b3=>qI .s 3 u u u<|zC<|
  wL (fun s1 K=>∀ p8 c8 r_2,K [4,5] [(0, []), (2, r_2), (3, bx b3 26 [sv p5 r1.1 c5, sv p8 s1 c8, sv p7 r1.2.2 c7])] [0,2] [] [Al qP 57 r_2 p8 c8 s1]) (jA 1 u<|zV<|
  qZ (fun s2 K=>∀ p9 c9 r_3,K [1,2,4,5] [(2, r_3), (3, bx b3 26 [sv p5 r1.1 c5, sv p9 s2.2 c9, sv p7 r1.2.2 c7])] [6,3,4,5,0,2] [(6, vi s2.1)] [Al qP 57 r_3 p9 c9 s2.2]) (gv (fun _ k=>k p6 c6 r_1) [0,1,2,3] (gq [1,6,3,4,5,0,2]))<|
  fun s2 _ k p9 c9 r_3=>k<|zG<|zB<|zA 1 u<|zL 1 u<|zS 3 u u u<|zA 2 u<|zC<|zJ u (jC<|zG<|zV<|jA 1 u<|zV<|
  qZ (fun s3 K=>∀ p10 c10 r_4,K [1,2,4,5,6] [(2, r_4), (3, bx b3 26 [sv p5 r1.1 c5, sv p10 s3.2 c10, sv p7 r1.2.2 c7])] [1,2,3,4,5,6] [(7, vi s3.1)] [Al qP 57 r_4 p10 c10 s3.2]) (gv (fun _ k=>k p9 c9 r_3) [0,1,2,3] (gq [0,1,2,3,4,5,6]))<|
  fun s3 _ k p10 c10 r_4=>k<|zG<|zB<|zA 1 u<|zL 2 u<|zS 0 u u u<|zA 2 u<|zC<|zJ u (jC<|zG<|zV<|zB<|zL 2 u<|zS 0 u u u<|zA 1 u<|wB 4 u u u<|fun x1 b4 o1=>wA true zGe (gk 0) u<|
  wM .s (.agg #[vs [], vi 0, vb false, vs []])<|fun b5=>qI .s 4 u u u<|zC<|wL (fun s4 K=>K [1,2,4,5,6,7,8] [] [2,3,4,5,6,1,7] [(53, vb s4)] []) (yI [] [2, 3, 4] 24<|qH 0 0 u u<|qS 1 4 u u u u<|qH 2 1 u u<|
  qS 3 3 u u u u<|zT 19 [4] u<|uU 5 1 u u u u<|fun x2 h1 b6 hp1=>qH 6 0 u u<|xY 7 2 1 sI.fst false oS u u hp1 h1 u<|zT 14 [8,9] u<|wF 39 u (qH 10 1 u u<|qS 11 3 u u u u<|zT 11 [12] u<|
  uU 13 1 u u u u<|fun x3 h2 b7 hp2=>qH 14 1 u u<|xY 15 2 1 sI.snd.fst false oB u u hp2 h2 u<|zT 7 [16] u<|wD 17 (vb (!x3.2.1)) u<|zT 5 [18] u<|wF 48 u (zT 4 [19] u<|qH 20 2 u u<|
  vQ 21 4 2 u u u u<|zX 22<|qB (.f u) [] [] zQP u u u (cq [2])<|fun r2 _ k=>k<|zO<|wD 23 (vb r2) u<|qM<|zH (gv (fun _ k=>k) [0,1,2,3,4] (gq [2,3,4,5,6,1,7])))<|zT 1 [19,20,21,22] u<|wD 23 (vb false) u<|
  qM<|zH (gv (fun _ k=>k) [0,1,2,3,4] (gq [2,3,4,5,6,1,7])))<|zT 7 [10,11,12,13,14,15,16] u<|wD 17 (vb false) u<|zT 1 [18,19,20,21,22] u<|wD 23 (vb false) u<|qM<|zH (gv (fun _ k=>k) [0,1,2,3,4] (gq [2,3,4,5,6,1,7])))<|
  fun s4 _ k=>k<|zJ u (qN<|zL 1 u<|zS 3 u u u<|zA 1 u<|zL 1 u<|zS 4 u u u<|uZ 5 u u u<|fun x4 h3 b8 hp3=>zL 2 u<|xK .s 2 5 sI.snd.snd.fst x1.2.1 false u hp3 h3 u u vI<|fun r_5=>zQ<|qE<|zP<|
  jB 3 u<|
  jbL (fun q_=>[bx b1 26 [sv p1 y0.1 c1, sv p2 y0.2.1 c2, sv p3 y0.2.2 c3], bx b2 26 [.slice none 0 0, .slice none 0 0, .slice none 0 0], r_5, bx b3 26 [sv p5 r1.1 c5, .slice p10 q_ c10, sv p7 r1.2.2 c7], bx b5 59 [vs x1.1, vi x1.2.1, vb x1.2.2.1, vs x1.2.2.2]]) (gk 0) u<|
  qJ (gv (fun _ k=>k p10 c10 r_5) [0,1,2,3] (gq [0,2,3,4,5,6,8])))<|wK<|qE<|zP<|jB 3 u<|qJ (gv (fun _ k=>k p10 c10 r_4) [0,1,2,3] (gq [5,0,1,2,3,4,6])))<|qT<|qQ<|qY<|qW<|qE<|zP<|jB 3 u<|
  qJ (gv (fun _ k=>k p10 c10 r_4) [0,1,2,3] (gq [0,1,2,3,4,5,6])))<|qT<|qQ<|qY<|qW<|zH (gv (fun _ k=>k p9 c9 r_3) [900,1,2,3] (gq [0,5,6])))<|fun s1 _ k p8 c8 r_2=>k<|zB<|qV 3 3 u u u<|qI .s 1 u u u<|zC<|zK<|
  wX 2 0 u u<|wW u (lC 1 (.agg #[sv p5 r1.1 c5, sv p8 s1 c8, sv p7 r1.2.2 c7]) u u lN) (fun _ k=>k p5 c5 p8 c8 p7 c7) [] (gq [2,0,3])
theorem zFw {qd : Prop} {y0 : qC} : qG qd prog 176 [vs y0] [] [] (zBl y0) fun r K=>K (vb r) [] [] :=
 qD call176 func176 u fun X=>jA 1 u<|zG<|wL (fun s1 K=>K [0] [] [] [(21, vb s1)] []) (qN<|zA 4 u<|wF 7 u (zA 3 u<|zD (vb true)<|zA 4 u<|zD (vb true)<|zA 4 u<|zD (vb true)<|zQ<|zH (gv (fun _ k=>k) [] ⟨⟩))<|zA 3 u<|
  zD (vb (decide (12 < (len y0))))<|zA 1 u<|wF 12 u (zA 3 u<|zD (vb true)<|zA 4 u<|zD (vb true)<|zQ<|zH (gv (fun _ k=>k) [] ⟨⟩))<|zA 1 u<|uF fun x1 h1=>jv (fun h=>zIS h u u underlying9 h1)<|zA 1 u<|
  zD (vb (decide (x1 < 97)))<|zA 1 u<|wF 17 u (zA 3 u<|zD (vb true)<|zQ<|zH (gv (fun _ k=>k) [] ⟨⟩))<|zA 1 u<|uF fun x2 h2=>jv (fun h=>zIS h u u underlying9 h2)<|zA 1 u<|zD (vb (decide (122 < x2)))<|zQ<|
  zH (gv (fun _ k=>k) [] ⟨⟩))<|fun s1 _ k=>k<|zJ u (jA 1 u<|zK<|qA<|zR u u (fun _ k=>k) [] ⟨⟩)<|jC<|zG<|jA 1 u<|zV<|qZ (fun s2 K=>K [0] [] [] [(3, vi s2)] []) (gv (fun _ k=>k) [] ⟨⟩)<|fun s2 _ k=>k<|zG<|jA 4 u<|zJ u (
  jC<|zG<|zV<|wL (fun s3 K=>K [0,3] [] [] [(55, vb s3)] []) (qN<|zA 2 u<|uF fun x3 h3=>jv (fun h=>zIS h u u underlying9 h3)<|zA 2 u<|wF 32 u (zA 4 u<|zD (vb true)<|zA 3 u<|uF fun x4 h4=>
  jv (fun h=>zIS h u u underlying9 h4)<|zA 2 u<|wF 43 u (zA 4 u<|zD (vb true)<|zD (vb true)<|zA 3 u<|uF fun x5 h5=>jv (fun h=>zIS h u u underlying9 h5)<|zA 1 u<|zD (vb (x5 != 95))<|zQ<|
  zH (gv (fun _ k=>k) [] ⟨⟩))<|zA 2 u<|uF fun x6 h6=>jv (fun h=>zIS h u u underlying9 h6)<|zA 1 u<|zD (vb (decide (57 < x6)))<|zD (vb (decide (57 < x6)))<|zA 1 u<|wF 50 u (zA 2 u<|uF fun x7 h7=>
  jv (fun h=>zIS h u u underlying9 h7)<|zA 1 u<|zD (vb (x7 != 95))<|zQ<|zH (gv (fun _ k=>k) [] ⟨⟩))<|zA 4 u<|zD (vb false)<|zQ<|zH (gv (fun _ k=>k) [] ⟨⟩))<|zA 2 u<|uF fun x8 h8=>
  jv (fun h=>zIS h u u underlying9 h8)<|zA 1 u<|zD (vb (decide (122 < x8)))<|zA 1 u<|wF 38 u (zA 2 u<|uF fun x9 h9=>jv (fun h=>zIS h u u underlying9 h9)<|zA 2 u<|wF 43 u (zA 4 u<|zD (vb true)<|
  zD (vb true)<|zA 3 u<|uF fun x10 h10=>jv (fun h=>zIS h u u underlying9 h10)<|zA 1 u<|zD (vb (x10 != 95))<|zQ<|zH (gv (fun _ k=>k) [] ⟨⟩))<|zA 2 u<|uF fun x11 h11=>
  jv (fun h=>zIS h u u underlying9 h11)<|zA 1 u<|zD (vb (decide (57 < x11)))<|zD (vb (decide (57 < x11)))<|zA 1 u<|wF 50 u (zA 2 u<|uF fun x12 h12=>jv (fun h=>zIS h u u underlying9 h12)<|zA 1 u<|
  zD (vb (x12 != 95))<|zQ<|zH (gv (fun _ k=>k) [] ⟨⟩))<|zA 4 u<|zD (vb false)<|zQ<|zH (gv (fun _ k=>k) [] ⟨⟩))<|zA 10 u<|zD (vb false)<|zA 5 u<|zD (vb false)<|zQ<|zH (gv (fun _ k=>k) [] ⟨⟩))<|fun s3 _ k=>k<|zJ u (
  jA 1 u<|zK<|qO<|qA<|wU<|qO<|qA<|zR u u (fun _ k=>k) [] ⟨⟩)<|wK<|qE<|zP<|jB 3 u<|qJ (gv (fun _ k=>k) [] ⟨⟩))<|qT<|qQ<|qY<|qW<|zP<|jA 1 u<|zK<|zR u u (fun _ k=>k) [] ⟨⟩
theorem zGw {qd : Prop} {y0 : zN} : qG qd prog 115 [.agg #[vb y0.1, vs y0.2]] [] [] (zDF y0) fun r K=>K (vb r) [] [] :=
 qD call115 func115 u fun X=>zB<|wC .s u<|fun b1=>zA 1 u<|zC<|zB<|zL 1 u<|zS 0 u u u<|qL zFw u ⟨⟩<|fun r1 _ k=>k<|zA 1 u<|zC<|zK<|zR u u (fun _ k=>k) [] ⟨⟩
theorem zOu {qd : Prop} {y0 : zM} {y1 : qC} : qG qd prog 113 [.agg #[sv p1 y0.1 c1, sv p2 y0.2.1 c2, sv p3 y0.2.2 c3], vs y1] [] [Rl wO p1 c1 y0.1, Rl qP p2 c2 y0.2.1, Rl wJ p3 c3 y0.2.2] (zJp y0 y1) fun r K=>K (vi r) [] [] :=
 qD call113 func113 u fun X=>zB<|wC .s u<|fun b1=>zA 1 u<|zC<|zG<|jA 1 u<|zV<|qZ (fun s1 K=>K [1,2] [] [0,1,2] [(5, vi s1)] []) (gv (fun _ k=>k) [0] (gq [0,1,2]))<|fun s1 _ k=>k<|zG<|zB<|zA 1 u<|zL 1 u<|zS 0 u u u<|zA 2 u<|zC<|zJ u (
  jC<|zG<|zV<|zB<|zL 1 u<|zS 0 u u u<|zA 1 u<|wB 1 u u u<|fun x1 b2 o1=>zL 0 u<|wA false oS (gf (gk 0)) u<|zA 2 u<|zC<|zJ u (jA 2 u<|zK<|qO<|qA<|wU<|qO<|qA<|zR u u (fun _ k=>k) [] ⟨⟩)<|wK<|
  qE<|zP<|jB 3 u<|qJ (gv (fun _ k=>k) [0] (gq [1,2,3])))<|qT<|qQ<|qY<|qW<|zP<|jA 1 u<|zK<|zR u u (fun _ k=>k) [] ⟨⟩
theorem zQG {qd : Prop} {y0 : zM} {y1 : zN} : qG qd prog 111 [.agg #[sv p1 y0.1 c1, sv p2 y0.2.1 c2, sv p3 y0.2.2 c3], .agg #[vb y1.1, vs y1.2]] [] [Rl wO p1 c1 y0.1, Rl qP p2 c2 y0.2.1, Rl wJ p3 c3 y0.2.2] (zJR y0 y1) fun r K=>K (vi r) [] [] :=
 qD call111 func111 u fun X=>zB<|wC .s u<|fun b1=>wC .s u<|fun b2=>zA 1 u<|zC<|zG<|jA 1 u<|zV<|qZ (fun s1 K=>K [2,3] [] [0,1,2] [(5, vi s1)] []) (gv (fun _ k=>k) [0,1] (gq [0,1,2]))<|fun s1 _ k=>k<|zG<|zB<|zA 1 u<|zL 0 u<|zS 0 u u u<|
  zA 2 u<|zC<|zJ u (jC<|zG<|zV<|yE [] [0, 1] 8<|qH 0 0 u u<|qS 1 0 u u u u<|zT 5 [2] u<|vE 3 0 u u u u<|fun x1 b3 o1=>qH 4 0 u u<|vD 5 true yK u (gf (gk 0)) u<|vQ 6 1 2 u u u u<|
  wD 7 (vb (x1.1 == y1)) u<|qM<|zP<|zJ u (jA 2 u<|zK<|qO<|qA<|wU<|qO<|qA<|zR u u (fun _ k=>k) [] ⟨⟩)<|wK<|qE<|zP<|jB 3 u<|qJ (gv (fun _ k=>k) [0,1] (gq [1,2,3])))<|qT<|qQ<|qY<|qW<|zP<|jA 1 u<|zK<|
  zR u u (fun _ k=>k) [] ⟨⟩
theorem zMP {qd : Prop} {y0 : Int} : qG qd prog 114 [vi y0] [] [] (zFl y0) fun r K=>K (vb r) [] [] :=
 qD call114 func114 u fun X=>jA 1 u<|jjp (fun K=>K [(2, vb ((decide (0 ≤ y0)) && (decide (y0 ≤ 9))))] [] []) (qN<|zA 3 u<|vR (b := decide (0 ≤ y0)) 5 u (fun hb1=>zA 2 u<|zD (vb (decide (y0 ≤ 9)))<|zA 1 u<|zQ<|
  wR 2 (vb ((decide (0 ≤ y0)) && (decide (y0 ≤ 9)))) u (by rw [hb1]; rfl)<|zH (gv (fun _ k=>k) [] ⟨⟩))<|fun hb1=>zA 2 u<|zD (vb false)<|zA 1 u<|zQ<|wR 2 (vb ((decide (0 ≤ y0)) && (decide (y0 ≤ 9)))) u (by rw [hb1]; rfl)<|
  zH (gv (fun _ k=>k) [] ⟨⟩))<|fun _ k=>k<|zK<|zR u u (fun _ k=>k) [] ⟨⟩
theorem zPt {qd : Prop} {y0 : vO} : qG qd prog 110 [.agg #[vb y0.1.1, vs y0.1.2, vi y0.2.1, vi y0.2.2.1, vs y0.2.2.2]] [] [] (zHA y0) fun r K=>K (vi r) [] [] :=
 qD call110 func110 u fun X=>zB<|wC .s u<|fun b1=>zA 1 u<|zC<|zG<|uN (fun K=>K [1] [] [] [(10, vb ((decide (y0.2.1 < 1)) || (decide (3 < y0.2.1))))] []) (qN<|zL 2 u<|zS 0 u u u<|zA 2 u<|vR (b := decide (y0.2.1 < 1)) 6 u (fun hb1=>zA 3 u<|
  zD (vb true)<|zQ<|wR 10 (vb ((decide (y0.2.1 < 1)) || (decide (3 < y0.2.1)))) u (by rw [hb1]; rfl)<|zH (gv (fun _ k=>k) [0] ⟨⟩))<|fun hb1=>zL 2 u<|zS 0 u u u<|zA 1 u<|zD (vb (decide (3 < y0.2.1)))<|zQ<|
  wR 10 (vb ((decide (y0.2.1 < 1)) || (decide (3 < y0.2.1)))) u (by rw [hb1]; rfl)<|zH (gv (fun _ k=>k) [0] ⟨⟩))<|fun _ k=>k<|zJ u (jA 1 u<|zK<|qA<|zR u u (fun _ k=>k) [] ⟨⟩)<|jC<|zG<|jjn (fun s1 K=>K [(41, vb s1)] [[]] []) (
  qN<|zL 0 u<|qV 0 2 u u u<|qL zGw u ⟨⟩<|fun r1 _ k=>k<|zA 2 u<|wF 15 u (zA 4 u<|zD (vb true)<|zA 9 u<|zD (vb true)<|zA 10 u<|zD (vb true)<|zQ<|zH (gv (fun _ k=>k) [900] ⟨⟩))<|zL 3 u<|
  zS 0 u u u<|qL zMP u ⟨⟩<|fun r2 _ k=>k<|zA 1 u<|zD (vb (!r2))<|zA 1 u<|wF 21 u (zA 8 u<|zD (vb true)<|zA 10 u<|zD (vb true)<|zQ<|zH (gv (fun _ k=>k) [900] ⟨⟩))<|zL 2 u<|zS 0 u u u<|
  zA 2 u<|wF 25 u (zL 3 u<|zS 0 u u u<|zA 1 u<|zD (vb (y0.2.2.1 != 0))<|zD (vb (y0.2.2.1 != 0))<|zA 1 u<|wF 31 u (zA 9 u<|zD (vb true)<|zQ<|zH (gv (fun _ k=>k) [900] ⟨⟩))<|zL 4 u<|zS 0 u u u<|
  zA 2 u<|wF 35 u (zL 4 u<|zS 0 u u u<|qL zFw u ⟨⟩<|fun r3 _ k=>k<|zA 1 u<|zD (vb (!r3))<|zD (vb (!r3))<|zQ<|zH (gv (fun _ k=>k) [900] ⟨⟩))<|zA 4 u<|zD (vb false)<|zD (vb false)<|zQ<|
  zH (gv (fun _ k=>k) [900] ⟨⟩))<|zA 3 u<|zD (vb false)<|zD (vb false)<|zA 1 u<|zL 4 u<|zS 0 u u u<|zA 2 u<|wF 35 u (zL 4 u<|zS 0 u u u<|qL zFw u ⟨⟩<|fun r4 _ k=>k<|zA 1 u<|
  zD (vb (!r4))<|zD (vb (!r4))<|zQ<|zH (gv (fun _ k=>k) [900] ⟨⟩))<|zA 4 u<|zD (vb false)<|zD (vb false)<|zQ<|zH (gv (fun _ k=>k) [900] ⟨⟩))<|fun s1 _ k=>k<|zJ u (jA 1 u<|zK<|qA<|zR u u (fun _ k=>k) [] ⟨⟩)<|jC<|
  jA 1 u<|zK<|zR u u (fun _ k=>k) [] ⟨⟩
theorem zMG {qd : Prop} {y0 : zN} {y1 : zN} : qG qd prog 126 [.agg #[vb y0.1, vs y0.2], .agg #[vb y1.1, vs y1.2]] [] [] (zFe y0 y1) fun r K=>K (vi r) [] [] :=
 qD call126 func126 u fun X=>zB<|wC .s u<|fun b1=>wC .s u<|fun b2=>zA 1 u<|zC<|zG<|zV<|zB<|qV 0 2 u u u<|qV 1 2 u u u<|zD (vb (y0 == y1))<|zA 1 u<|zC<|zJ u (jA 1 u<|zK<|qO<|qA<|zR u u (fun _ k=>k) [] ⟨⟩)<|
  jjp (fun K=>K [(9, vb ((yY y0.2 y1.2) || ((y0.2 == y1.2) && y1.1)))] [[], []] []) (qN<|zL 1 u<|zS 0 u u u<|zL 1 u<|zS 1 u u u<|zA 2 u<|vR (b := yY y0.2 y1.2) 15 u (fun hb1=>zA 9 u<|zD (vb true)<|
  zA 1 u<|zQ<|wR 9 (vb ((yY y0.2 y1.2) || ((y0.2 == y1.2) && y1.1))) u (by rw [hb1]; rfl)<|zH (gv (fun _ k=>k) [900,901] ⟨⟩))<|fun hb1=>zL 1 u<|zS 0 u u u<|zL 1 u<|zS 1 u u u<|zA 2 u<|
  vR (b := y0.2 == y1.2) 21 u (fun hb2=>zL 0 u<|zS 1 u u u<|zD (vb y1.1)<|zD (vb y1.1)<|zA 1 u<|zQ<|wR 9 (vb ((yY y0.2 y1.2) || ((y0.2 == y1.2) && y1.1))) u (by rw [hb1,hb2]; rfl)<|zH (gv (fun _ k=>k) [900,901] ⟨⟩)
  )<|fun hb2=>zA 2 u<|zD (vb false)<|zD (vb false)<|zA 1 u<|zQ<|wR 9 (vb ((yY y0.2 y1.2) || ((y0.2 == y1.2) && y1.1))) u (by rw [hb1,hb2]; rfl)<|zH (gv (fun _ k=>k) [900,901] ⟨⟩))<|fun _ k=>k<|zJ u (jA 1 u<|zK<|qO<|
  qA<|zR u u (fun _ k=>k) [] ⟨⟩)<|wK<|qE<|zP<|jA 1 u<|zK<|zR u u (fun _ k=>k) [] ⟨⟩
theorem zSd {qd : Prop} {y0 : qR} : qG qd prog 112 [.agg #[vs y0.1, vb y0.2.1, vi y0.2.2.1, sv p1 y0.2.2.2.1 c1, vb y0.2.2.2.2.1, vs y0.2.2.2.2.2]] [] [Rl wN p1 c1 y0.2.2.2.1] (zJk y0) fun r K=>K (vi r) [] [] :=
 qD call112 func112 u fun X=>zB<|wC .s u<|fun b1=>zA 1 u<|zC<|zG<|zB<|zL 3 u<|zS 0 u u u<|zA 2 u<|zC<|zJ u (jA 1 u<|zK<|qA<|zR u u (fun _ k=>k) [] ⟨⟩)<|jC<|wL (fun s1 K=>K [1] [] [0] [(3, vb s1)] []) (qN<|zL 0 u<|
  zS 0 u u u<|qL zFw u ⟨⟩<|fun r1 _ k=>k<|zA 1 u<|wF 13 u (zL 2 u<|zS 0 u u u<|qL zMP u ⟨⟩<|fun r2 _ k=>k<|zD (vb r2)<|zA 1 u<|wF 18 u (zL 1 u<|zS 0 u u u<|zA 2 u<|
  wF 22 u (zA 3 u<|zD (vb true)<|zD (vb true)<|zA 1 u<|zL 4 u<|qV 0 2 u u u<|qL zGw u ⟨⟩<|fun r3 _ k=>k<|zD (vb r3)<|zA 1 u<|zQ<|zH (gv (fun _ k=>k) [0] (gq [0])))<|zL 2 u<|zS 0 u u u<|
  zA 1 u<|zD (vb (y0.2.2.1 == 0))<|zD (vb (y0.2.2.1 == 0))<|zA 1 u<|wF 28 u (zL 4 u<|qV 0 2 u u u<|qL zGw u ⟨⟩<|fun r4 _ k=>k<|zD (vb r4)<|zA 1 u<|zQ<|zH (gv (fun _ k=>k) [0] (gq [0])))<|zA 3 u<|
  zD (vb false)<|zA 1 u<|zQ<|zH (gv (fun _ k=>k) [0] (gq [0])))<|zA 8 u<|zD (vb false)<|zA 4 u<|zD (vb false)<|zA 1 u<|zQ<|zH (gv (fun _ k=>k) [0] (gq [0])))<|zA 3 u<|zD (vb false)<|zA 9 u<|zD (vb false)<|
  zA 4 u<|zD (vb false)<|zA 1 u<|zQ<|zH (gv (fun _ k=>k) [0] (gq [0])))<|fun s1 _ k=>k<|wL (fun s2 K=>K [1] [] [0] [(3, vb s2)] []) (jA 1 u<|zV<|
  qZ (fun s3 K=>K [1] [] [0] [(3, vb s3.1), (4, vi s3.2)] []) (gv (fun _ k=>k) [0] (gq [0]))<|fun s3 _ k=>k<|zG<|zB<|zA 1 u<|zL 3 u<|zS 0 u u u<|zA 2 u<|zC<|zJ u (jC<|zG<|zV<|
  jjcK (fun s4 K=>K [1,4] [] [0] [(3, vb s4)] []) (qN<|zA 2 u<|wF 41 u (zL 3 u<|zS 0 u u u<|zA 1 u<|wB 0 u u u<|fun x1 b2 o1=>wA true yK (gk 0) u<|qL zGw u ⟨⟩<|fun r5 _ k=>k<|zD (vb r5)<|
  zA 1 u<|zQ<|zH (gv (fun _ k=>k) [0] (gq [1])))<|zA 6 u<|zD (vb false)<|zA 1 u<|zQ<|zH (gv (fun _ k=>k) [0] (gq [0])))<|fun s4 _ k=>k<|qE<|zP<|jB 3 u<|qJ (gv (fun _ k=>k) [0] (gq [0])))<|qT<|qQ<|qY<|qW<|
  zH (gv (fun _ k=>k) [0] (gq [0])))<|fun s2 _ k=>k<|zG<|jA 2 u<|zJ u (jA 1 u<|zK<|qA<|zR u u (fun _ k=>k) [] ⟨⟩)<|jC<|zG<|jA 1 u<|zV<|qZ (fun s5 K=>K [1] [] [0] [(5, vi s5)] []) (gv (fun _ k=>k) [0] (gq [0]))<|
  fun s5 _ k=>k<|zG<|zB<|zA 1 u<|zL 3 u<|zS 0 u u u<|zA 2 u<|zC<|zJ u (jC<|zG<|zV<|yE [] [0] 13<|qH 0 3 u u<|qS 1 0 u u u u<|zT 9 [2,3] u<|vE 4 0 u u u u<|fun x2 b3 o2=>
  vD 5 true yK u (gk 0) u<|qH 6 3 u u<|qS 7 0 u u u u<|zT 4 [8] u<|vE 9 1 u u u u<|fun x3 b4 o3=>vD 10 true yK u (gk 0) u<|zX 11<|qB (.f u) [] [] zMG u u u ⟨⟩<|
  fun r6 _ k=>k<|zO<|zT 0 [12] u<|qM<|zP<|zJ u (jA 1 u<|zK<|qO<|qA<|wU<|qO<|qA<|zR u u (fun _ k=>k) [] ⟨⟩)<|wK<|qE<|zP<|jB 3 u<|qJ (gv (fun _ k=>k) [0] (gq [2])))<|qT<|qQ<|qY<|qW<|zP<|jA 1 u<|zK<|
  zR u u (fun _ k=>k) [] ⟨⟩
theorem zPc {qd : Prop} {y0 : zM} : qG qd prog 63 [.agg #[sv p1 y0.1 c1, sv p2 y0.2.1 c2, sv p3 y0.2.2 c3]] [] [Rl wO p1 c1 y0.1, Rl qP p2 c2 y0.2.1, Rl wJ p3 c3 y0.2.2] (zEr y0) fun r K=>K (vi r) [] [] :=
 qD call63 func63 u fun X=>zB<|wC .s u<|fun b1=>zA 1 u<|zC<|zG<|uN (fun K=>K [1] [] [0,1,2] [(25, vb ((decide (16 < (len y0.1))) || ((decide (24 < (len y0.2.1))) || (decide (8 < (len y0.2.2))))))] []) (qN<|zL 0 u<|zS 0 u u u<|zA 3 u<|
  vR (b := decide (16 < (len y0.1))) 14 u (fun hb1=>zA 4 u<|zD (vb true)<|zA 5 u<|zD (vb true)<|zQ<|wR 25 (vb ((decide (16 < (len y0.1))) || ((decide (24 < (len y0.2.1))) || (decide (8 < (len y0.2.2)))))) u (by rw [hb1]; rfl)<|
  zH (gv (fun _ k=>k) [0] (gq [0,1,2])))<|fun hb1=>zL 1 u<|zS 0 u u u<|zA 2 u<|zD (vb (decide (24 < (len y0.2.1))))<|zA 1 u<|vR (b := decide (24 < (len y0.2.1))) 20 u (fun hb2=>zA 4 u<|zD (vb true)<|zQ<|
  wR 25 (vb ((decide (16 < (len y0.1))) || ((decide (24 < (len y0.2.1))) || (decide (8 < (len y0.2.2)))))) u (by rw [hb1,hb2]; rfl)<|zH (gv (fun _ k=>k) [0] (gq [0,1,2])))<|fun hb2=>zL 2 u<|zS 0 u u u<|zA 2 u<|
  zD (vb (decide (8 < (len y0.2.2))))<|zQ<|wR 25 (vb ((decide (16 < (len y0.1))) || ((decide (24 < (len y0.2.1))) || (decide (8 < (len y0.2.2)))))) u (by rw [hb1,hb2]; rfl)<|zH (gv (fun _ k=>k) [0] (gq [0,1,2])))<|fun _ k=>k<|zJ u (
  jA 1 u<|zK<|qA<|zR u u (fun _ k=>k) [] ⟨⟩)<|jC<|zTu (fun s1 K=>K [1] [] [0,1,2] [] []) (jA 1 u<|zV<|qZ (fun s2 K=>K [1] [] [0,1,2] [(3, vi s2)] []) (gv (fun _ k=>k) [0] (gq [0,1,2]))<|fun s2 _ k=>k<|zG<|zB<|zA 1 u<|
  zL 0 u<|zS 0 u u u<|zA 2 u<|zC<|zJ u (jC<|zG<|zV<|zG<|zB<|zL 0 u<|zS 0 u u u<|zA 1 u<|wB 0 u u u<|fun x1 b2 o1=>wA true zHM (gk 0) u<|qL zPt u ⟨⟩<|fun r1 _ k=>k<|zA 1 u<|
  zC<|jA 2 u<|zJ u (jA 2 u<|zK<|qA<|qO<|qA<|wU<|qO<|wU<|zR u u (fun _ k=>k) [] ⟨⟩)<|jC<|yE [] [0] 10<|vQ 0 0 3 u u u u<|qH 1 0 u u<|qS 2 0 u u u u<|zT 6 [3] u<|vE 4 1 u u u u<|
  fun x2 b3 o2=>qH 5 0 u u<|vD 6 true yK u (gf (gk 0)) u<|zT 2 [8] u<|zX 7<|qB (.f u) [] [] zQG u u u (cq [2,3,4])<|fun r2 _ k=>k<|zO<|zT 0 [9] u<|qM<|zP<|zJ u (jA 1 u<|zK<|qO<|qA<|wU<|
  qO<|wU<|zR u u (fun _ k=>k) [] ⟨⟩)<|wK<|qE<|zP<|jB 3 u<|qJ (gv (fun _ k=>k) [0] (gq [2,3,4])))<|qT<|qQ<|qY<|qW<|qJ (gv (fun _ k=>k) [0] (gq [0,1,2])))<|fun s1 _ k=>k<|zTu (fun s3 K=>K [1] [] [0,1,2] [] []) (jA 1 u<|
  zV<|qZ (fun s4 K=>K [1] [] [0,1,2] [(5, vi s4)] []) (gv (fun _ k=>k) [0] (gq [0,1,2]))<|fun s4 _ k=>k<|zG<|zB<|zA 1 u<|zL 1 u<|zS 0 u u u<|zA 2 u<|zC<|zJ u (jC<|zG<|zV<|zG<|zB<|zL 1 u<|zS 0 u u u<|
  zA 1 u<|wB 1 u u u<|fun x3 b4 o3=>wA true zJK (gk 0) u<|fun p4 c4=>qL zSd u (cq [0])<|fun r3 _ k=>k<|zA 1 u<|zC<|jA 2 u<|zJ u (jA 2 u<|zK<|qA<|qO<|qA<|wU<|qO<|wU<|zR u u (fun _ k=>k) [] ⟨⟩
  )<|jC<|yE [] [0] 10<|vQ 0 0 3 u u u u<|qH 1 1 u u<|qS 2 0 u u u u<|zT 6 [3] u<|vE 4 3 u u u u<|fun x4 b5 o4=>qH 5 0 u u<|vD 6 false oS u (gf (gk 0)) u<|zT 2 [8] u<|zX 7<|
  qB (.f u) [] [] zOu u u u (cq [3,4,5])<|fun r4 _ k=>k<|zO<|zT 0 [9] u<|qM<|zP<|zJ u (jA 1 u<|zK<|qO<|qA<|wU<|qO<|wU<|zR u u (fun _ k=>k) [] ⟨⟩)<|wK<|qE<|zP<|jB 3 u<|
  qJ (gv (fun _ k=>k) [0] (gq [3,4,5])))<|qT<|qQ<|qY<|qW<|qJ (gv (fun _ k=>k) [0] (gq [0,1,2])))<|fun s3 _ k=>k<|zG<|jA 1 u<|zV<|qZ (fun s5 K=>K [1] [] [0,1,2] [(7, vi s5)] []) (gv (fun _ k=>k) [0] (gq [0,1,2]))<|fun s5 _ k=>k<|
  zG<|zB<|zA 1 u<|zL 2 u<|zS 0 u u u<|zA 2 u<|zC<|zJ u (jC<|zG<|zV<|zB<|zL 2 u<|zS 0 u u u<|zA 1 u<|wB 2 u u u<|fun x5 b6 o5=>wA true zGe (gk 0) u<|
  wM .s (.agg #[vs [], vi 0, vb false, vs []])<|fun b7=>qI .s 1 u u u<|zC<|zG<|wL (fun s6 K=>K [1,7,8] [] [1,2,3] [(99, vb s6)] []) (qN<|zL 1 u<|zS 1 u u u<|qL zMP u ⟨⟩<|fun r5 _ k=>k<|zA 2 u<|
  wF 94 u (zA 4 u<|zD (vb true)<|zQ<|zH (gv (fun _ k=>k) [0,1] (gq [1,2,3])))<|zL 2 u<|qV 1 2 u u u<|qL zGw u ⟨⟩<|fun r6 _ k=>k<|zA 1 u<|zD (vb (!r6))<|zQ<|zH (gv (fun _ k=>k) [0,1] (gq [1,2,3])))<|
  fun s6 _ k=>k<|zJ u (jA 1 u<|zK<|qA<|qO<|qA<|wU<|qO<|qA<|zR u u (fun _ k=>k) [] ⟨⟩)<|jC<|zB<|qV 0 3 u u u<|zL 0 u<|zS 1 u u u<|qL zOu u (cq [0,1,2])<|fun r7 _ k=>k<|zA 1 u<|zC<|zG<|
  jA 2 u<|zJ u (jA 1 u<|zK<|qA<|qO<|qA<|wU<|qO<|qA<|zR u u (fun _ k=>k) [] ⟨⟩)<|jC<|zB<|zL 1 u<|zS 0 u u u<|zA 1 u<|wB 1 u u u<|fun x6 b8 o6=>zL 1 u<|wA false oB (gf (gs (gk 0))) u<|zC<|zJ u (
  jA 1 u<|zK<|qO<|qA<|wU<|qO<|qA<|zR u u (fun _ k=>k) [] ⟨⟩)<|wK<|qE<|zP<|jB 3 u<|qJ (gv (fun _ k=>k) [0] (gq [1,2,3])))<|qT<|qQ<|qY<|qW<|zP<|jA 1 u<|zK<|zR u u (fun _ k=>k) [] ⟨⟩
theorem zKK {qd : Prop} {y0 : List Int} {y1 : Int} : qG qd prog 177 [sv p1 y0 c1, vi y1] [] [Rl (zU .i64) p1 c1 y0] (zFE y0 y1) fun r K=>∀ p2 c2,K (sv p2 r c2) [] [Rl (zU .i64) p2 c2 r] :=
 qD call177 func177 u fun X=>jA 1 u<|jA 1 u<|wL (fun s1 K=>K [0,1] [] [0] [(5, vi s1)] []) (zV<|qZ (fun s2 K=>K [0,1] [] [0] [(5, vi s2)] []) (gv (fun _ k=>k) [] (gq [0]))<|fun s2 _ k=>k<|zG<|wL (fun s3 K=>K [0,1,5] [] [0] [(18, vb s3)] []) (qN<|
  zA 5 u<|wF 11 u (zA 2 u<|wB 0 u u u<|fun x1 b1 o1=>wA false oI (gk 0) u<|zA 2 u<|zD (vb (decide (x1 < y1)))<|zQ<|zH (gv (fun _ k=>k) [] (gq [1])))<|zA 6 u<|zD (vb false)<|zQ<|zH (gv (fun _ k=>k) [] (gq [0]))
  )<|fun s3 _ k=>k<|zJ u (jC<|zV<|jB 3 u<|qE<|qJ (gv (fun _ k=>k) [] (gq [0])))<|qT<|qQ<|qY<|qW<|zH (gv (fun _ k=>k) [] (gq [0])))<|fun s1 _ k=>k<|zG<|wL (fun s4 K=>K [0,1,5] [] [0] [(32, vb s4)] []) (qN<|zA 5 u<|
  wF 25 u (zA 2 u<|wB 0 u u u<|fun x2 b2 o2=>wA false oI (gk 0) u<|zA 2 u<|zD (vb (x2 == y1))<|zQ<|zH (gv (fun _ k=>k) [] (gq [1])))<|zA 6 u<|zD (vb false)<|zQ<|zH (gv (fun _ k=>k) [] (gq [0])))<|fun s4 _ k=>k<|
  zJ u (jA 2 u<|zK<|qA<|zR u u (fun _ k=>k p1 c1) [] (gq [0]))<|jC<|zB<|yP .s (e := zU .i64) 3 [] ([] : List Int) rN<|fun r_1 p2 c2=>zA 2 u<|jsl (gk 1) u u u (.inl ⟨rfl, rfl⟩) (.inr ⟨_, rfl⟩)<|fun x3 p3 c3=>
  wE .s 0 1 u (gk 0) u u<|fun x4 r_2 p4 c4=>zA 1 u<|zC<|yE [] [] 9<|zT 5 [0,1,4,5] u<|jdw 6 u (gk 3) u u u (.inr ⟨_, rfl⟩) (.inl ⟨rfl, rfl⟩)<|fun x5 p5 c5=>zX 2<|
  wT (.f u) (e := zU .i64) 3 [vi y1] ([y1] : List Int) (rC vI rN)<|fun p6 c6=>zO<|zX 3<|wE (.f u) 0 2 u (gk 0) u u<|fun x6 r_3 p7 c7=>zO<|zX 7<|wE (.f u) 0 0 u (gk 2) u u<|fun x7 r_4 p8 c8=>zO<|zT 0 [8] u<|qM<|
  zP<|zK<|wX 0 0 u u<|zR u u (fun _ k=>k p8 c8) [] (gq [0])
theorem zO2 {qd : Prop} {y0 : List Int} {y1 : List Int} : qG qd prog 178 [sv p1 y0 c1, sv p2 y1 c2] [] [Rl (zU .i64) p1 c1 y0, Rl (zU .i64) p2 c2 y1] (zIk y0 y1) fun r K=>∀ p3 c3,K (sv p3 r c3) [] [Rl (zU .i64) p3 c3 r] :=
 qD call178 func178 u fun X=>jA 1 u<|zG<|jA 1 u<|zV<|qZ (fun s1 K=>∀ p3 c3,K [1] [] [1] [(0, sv p3 s1.1 c3), (5, vi s1.2)] [Rl (zU .i64) p3 c3 s1.1]) (gv (fun _ k=>k p1 c1) [] (gq [0,1]))<|fun s1 _ k p3 c3=>k<|zG<|jA 4 u<|zJ u (jC<|zG<|zV<|qN<|
  zA 3 u<|wB 1 u u u<|fun x1 b1 o1=>wA false oI (gk 0) u<|qL zKK u (cq [1])<|fun r1 _ k p4 c4=>k<|zA 1 u<|zQ<|qE<|zP<|jB 3 u<|qJ (gv (fun _ k=>k p4 c4) [] (gq [0,3])))<|qT<|qQ<|qY<|qW<|zP<|jA 2 u<|
  zK<|zR u u (fun _ k=>k p3 c3) [] (gq [0])
theorem zP5 {qd : Prop} (k : Nat) :
    (∀ {y0 : List zI} {p1 : Option Addr} {c1 : Nat} {y1 : Int}, qG qd prog 119 [sv p1 y0 c1, vi y1] [] [Rl wS p1 c1 y0] (zF7 k y0 y1) fun r K=>∀ p2 c2,K (sv p2 r c2) [] [Rl (zU .i64) p2 c2 r]) := by
  induction k with
  | zero => exact zZS call119
  | succ k ih =>
    have ih_ref07_Subs := @ih
    exact @fun y0 p1 c1 y1=>qD (m1 := zJx (zF7 k) y0 y1) call119 func119 u fun X=>jA 1 u<|zG<|uN (fun K=>K [0,1] [] [0] [(14, vb ((decide (y1 < 0)) || (decide ((len y0) ≤ y1))))] []) (qN<|zA 3 u<|vR (b := decide (y1 < 0)) 9 u (fun hb1=>zA 4 u<|zD (vb true)<|zQ<|
  wR 14 (vb ((decide (y1 < 0)) || (decide ((len y0) ≤ y1)))) u (by rw [hb1]; rfl)<|zH (gv (fun _ k=>k) [] (gq [0])))<|fun hb1=>zA 4 u<|zD (vb (decide ((len y0) ≤ y1)))<|zQ<|
  wR 14 (vb ((decide (y1 < 0)) || (decide ((len y0) ≤ y1)))) u (by rw [hb1]; rfl)<|zH (gv (fun _ k=>k) [] (gq [0])))<|fun _ k=>k<|zJ u (jA 1 u<|zK<|qA<|zR u u (fun _ k=>k none 0) [] ⟨gn,⟨⟩⟩)<|jC<|zB<|zA 1 u<|
  wT .s (e := zU .i64) 3 [vi y1] ([y1] : List Int) (rC vI rN)<|fun p2 c2=>zA 1 u<|zC<|zG<|jA 1 u<|zV<|
  qZ (fun s1 K=>∀ p3 c3,K [0,1] [] [1] [(5, sv p3 s1.1 c3), (6, vi s1.2)] [Rl (zU .i64) p3 c3 s1.1]) (gv (fun _ k=>k p2 c2) [] (gq [0,1]))<|fun s1 _ k p3 c3=>k<|zG<|zB<|zA 3 u<|wB 1 u u u<|fun x1 b1 o1=>zL 2 u<|
  wA false oL (gf (gs (gs (gk 0)))) u<|fun p4 c4=>zA 2 u<|zC<|zJ u (jC<|zG<|zV<|qN<|zA 4 u<|wB 3 u u u<|fun x2 b2 o2=>zL 2 u<|wA false oL (gf (gs (gs (gk 0)))) u<|fun p5 c5=>zA 1 u<|wB 0 u u u<|
  fun x3 b3 o3=>wA false oI (gk 0) u<|qL ih_ref07_Subs u (cq [6])<|fun r1 _ k p6 c6=>k<|qL zO2 u (cq [6,0])<|fun r2 _ k p7 c7=>k<|zA 1 u<|zQ<|qE<|zP<|jB 3 u<|qJ (gv (fun _ k=>k p7 c7) [] (gq [0,8])))<|qT<|qQ<|
  qY<|qW<|zP<|jA 2 u<|zK<|zR u u (fun _ k=>k p3 c3) [] (gq [2])
theorem zMF {qd : Prop} {y0 : List zI} {y1 : Int} : qG qd prog 119 [sv p1 y0 c1, vi y1] [] [Rl wS p1 c1 y0] (zIB y0 y1) fun r K=>∀ p2 c2,K (sv p2 r c2) [] [Rl (zU .i64) p2 c2 r] := zOt fun k => (zP5 k)
theorem zHP {qd : Prop} {y0 : zM} {y1 : List zI} {y2 : Int} : qG qd prog 118 [.agg #[sv p1 y0.1 c1, sv p2 y0.2.1 c2, sv p3 y0.2.2 c3], sv p4 y1 c4, vi y2] [] [Rl wO p1 c1 y0.1, Rl qP p2 c2 y0.2.1, Rl wJ p3 c3 y0.2.2, Rl wS p4 c4 y1] (zCC y0 y1 y2) fun r K=>∀ p5 c5,K (sv p5 r c5) [] [Rl (zU .i64) p5 c5 r] :=
 qD call118 func118 u fun X=>zB<|wC .s u<|fun b1=>zA 1 u<|zC<|jA 1 u<|zG<|zB<|zA 2 u<|qL zMF u (cq [3])<|fun r1 _ k p5 c5=>k<|zA 2 u<|zC<|zV<|
  qZ (fun s1 K=>∀ p6 c6,K [1,3,12,13] [] [4,0,1,2,3] [(7, sv p6 s1.1 c6), (14, vi s1.2)] [Rl (zU .i64) p6 c6 s1.1]) (gv (fun _ k=>k none 0) [0] ⟨gn,gk 4,gk 0,gk 1,gk 2,gk 3,⟨⟩⟩)<|fun s1 _ k p6 c6=>k<|jA 1 u<|zG<|zJ u (jC<|zG<|zV<|
  zB<|wB 2 u u u<|fun x1 b2 o1=>wA false oI (gk 0) u<|zA 1 u<|zC<|wL (fun s2 K=>K [1,3,7,9,12,13,14] [] [2,1,3,4,5,6] [(36, vb s2)] []) (yI [] [0] 19<|zT 17 [0,1] u<|vE 2 2 u u u u<|fun x2 b3 o2=>
  qH 3 1 u u<|vD 4 false oI u (gf (gs (gk 0))) u<|zT 12 [5,6] u<|wF 24 u (qH 7 1 u u<|qS 8 0 u u u u<|zT 8 [9,10] u<|vE 11 3 u u u u<|fun x3 b4 o3=>qH 12 1 u u<|
  vD 13 false oI u (gf (gs (gk 0))) u<|vE 14 7 u u u u<|fun x4 b5 o4=>qH 15 1 u u<|vD 16 false oB u (gf (gs (gk 0))) u<|zT 1 [17] u<|wD 18 (vb (!x4.2.1)) u<|qM<|zH (gv (fun _ k=>k) [0] (gq [5,4,6,7,8,9])))<|
  zT 1 [7,8,9,10,11,12,13,14,15,16,17] u<|wD 18 (vb false) u<|qM<|zH (gv (fun _ k=>k) [0] (gq [3,2,4,5,6,7])))<|fun s2 _ k=>k<|zJ u (qN<|zA 3 u<|wB 0 u u u<|fun x5 b6 o5=>zL 1 u<|wA false oI (gf (gs (gk 0))) u<|
  qL zKK u (cq [2])<|fun r2 _ k p7 c7=>k<|zA 1 u<|zQ<|qE<|zP<|jB 2 u<|qJ (gv (fun _ k=>k p7 c7) [0] (gq [0,2,4,5,6,7])))<|wK<|qE<|zP<|jB 2 u<|qJ (gv (fun _ k=>k p6 c6) [0] (gq [1,0,2,3,4,5])))<|qT<|qQ<|qY<|
  qW<|zP<|jA 2 u<|zK<|zR u u (fun _ k=>k p6 c6) [] (gq [0])
theorem zPv {qd : Prop} (k : Nat) :
    (∀ {y0 : zM} {p1 : Option Addr} {c1 : Nat} {p2 : Option Addr} {c2 : Nat} {p3 : Option Addr} {c3 : Nat} {y1 : List zI} {p4 : Option Addr} {c4 : Nat} {y2 : Int}, qG qd prog 116 [.agg #[sv p1 y0.1 c1, sv p2 y0.2.1 c2, sv p3 y0.2.2 c3], sv p4 y1 c4, vi y2] [] [Rl wO p1 c1 y0.1, Rl qP p2 c2 y0.2.1, Rl wJ p3 c3 y0.2.2, Rl wS p4 c4 y1] (zAv k y0 y1 y2) fun r K=>∀ p5 c5,K (sv p5 r c5) [] [Rl wN p5 c5 r]) := by
  induction k with
  | zero => exact zZS call116
  | succ k ih =>
    have ih_ref07_Run := @ih
    exact @fun y0 p1 c1 p2 c2 p3 c3 y1 p4 c4 y2=>qD (m1 := zE1 (zAv k) y0 y1 y2) call116 func116 u fun X=>zB<|wC .s u<|fun b1=>zA 1 u<|zC<|zB<|zA 2 u<|wB 3 u u u<|fun x1 b2 o1=>zL 3 u<|wA true yK (gs (gs (gs (gk 0)))) u<|
  yP .s (e := wN) 52 [vb x1.2.2.2.1, vs x1.2.2.2.2] ([x1.2.2.2] : List zN) (rC (vP vB vS) rN)<|fun r_1 p5 c5=>zA 1 u<|zC<|zG<|wL (fun s1 K=>K [1,2,3,7] [] [5,0,2,3,4] [(32, vb s1)] []) (yI [] [0] 18<|zT 16 [0,1] u<|
  vE 2 5 u u u u<|fun x2 b3 o2=>qH 3 1 u u<|vD 4 false oI u (gf (gs (gk 0))) u<|zT 11 [5,6] u<|wF 21 u (qH 7 1 u u<|qS 8 0 u u u u<|zT 7 [9,10] u<|vE 11 6 u u u u<|fun x3 b4 o3=>
  qH 12 1 u u<|vD 13 false oI u (gf (gs (gk 0))) u<|vE 14 5 u u u u<|fun x4 b5 o4=>qH 15 1 u u<|vD 16 false oB u (gf (gs (gk 0))) u<|wD 17 (vb x4.2.1) u<|qM<|zH (gv (fun _ k=>k) [0,1] (gq [8,3,5,6,7])))<|
  zT 1 [7,8,9,10,11,12,13,14,15,16] u<|wD 17 (vb false) u<|qM<|zH (gv (fun _ k=>k) [0,1] (gq [6,1,3,4,5])))<|fun s1 _ k=>k<|zJ u (jA 1 u<|zV<|
  qZ (fun s2 K=>∀ p6 c6 r_2,K [1,2,3] [(1, r_2)] [0,2,3,4] [(7, sv p6 s2.1 c6), (8, vi s2.2)] [Al wN 52 r_2 p6 c6 s2.1]) (gv (fun _ k=>k p5 c5 r_1) [0,1] (gq [1,0,2,3,4]))<|fun s2 _ k p6 c6 r_2=>k<|zG<|zB<|zA 3 u<|
  wB 1 u u u<|fun x5 b6 o5=>zL 2 u<|wA false oL (gf (gs (gs (gk 0)))) u<|fun p7 c7=>zA 2 u<|zC<|zJ u (jC<|zG<|zV<|yI [] [0] 14<|zT 13 [0] u<|vQ 1 0 3 u u u u<|zT 9 [2,3,4] u<|vE 5 3 u u u u<|
  fun x6 b7 o6=>qH 6 2 u u<|vD 7 false oL u (gf (gs (gs (gk 0)))) u<|fun p8 c8=>zT 5 [8] u<|vE 9 0 u u u u<|fun x7 b8 o7=>vD 10 false oI u (gk 0) u<|zX 11<|
  qB (.f u) [] [] ih_ref07_Run u u u (cq [7,8,9,6])<|fun r1 _ k p9 c9=>k<|zO<|zX 12<|wE (.f u) 1 6 u (gk 0) u u<|fun x8 r_3 p10 c10=>zO<|zT 0 [13] u<|qM<|qE<|zP<|jB 3 u<|
  qJ (gv (fun _ k=>k p10 c10 r_3) [0,1] (gq [0,8,9,10,11])))<|qT<|qQ<|qY<|qW<|zP<|jA 2 u<|zK<|wX 1 2 u u<|zR u u (fun _ k=>k p6 c6) [] (gq [0]))<|jC<|jA 2 u<|zK<|wX 1 1 u u<|
  zR u u (fun _ k=>k p5 c5) [] (gq [0])
theorem zUn {qd : Prop} {y0 : zM} {y1 : List zI} {y2 : Int} : qG qd prog 116 [.agg #[sv p1 y0.1 c1, sv p2 y0.2.1 c2, sv p3 y0.2.2 c3], sv p4 y1 c4, vi y2] [] [Rl wO p1 c1 y0.1, Rl qP p2 c2 y0.2.1, Rl wJ p3 c3 y0.2.2, Rl wS p4 c4 y1] (zHi y0 y1 y2) fun r K=>∀ p5 c5,K (sv p5 r c5) [] [Rl wN p5 c5 r] := zOt fun k => (zPv k)
theorem zRf {qd : Prop} {y0 : List Int} {y1 : Int} : qG qd prog 117 [sv p1 y0 c1, vi y1] [] [Rl (zU .i64) p1 c1 y0] (zMa y0 y1) fun r K=>K (vb r) [] [] :=
 qD call117 func117 u fun X=>jA 1 u<|zG<|jA 1 u<|zV<|qZ (fun s1 K=>K [0,1] [] [0] [(5, vi s1)] []) (gv (fun _ k=>k) [] (gq [0]))<|fun s1 _ k=>k<|zG<|jA 4 u<|zJ u (jC<|zG<|zV<|zB<|zA 2 u<|wB 0 u u u<|fun x1 b1 o1=>wA false oI (gk 0) u<|
  zA 2 u<|zC<|zJ u (jA 1 u<|zK<|qO<|qA<|wU<|qO<|qA<|zR u u (fun _ k=>k) [] ⟨⟩)<|wK<|qE<|zP<|jB 3 u<|qJ (gv (fun _ k=>k) [] (gq [1])))<|qT<|qQ<|qY<|qW<|zP<|jA 1 u<|zK<|zR u u (fun _ k=>k) [] ⟨⟩
theorem zMz {qd : Prop} {y0 : zM} {y1 : List zI} {y2 : Int} {y3 : List Int} : qG qd prog 66 [.agg #[sv p1 y0.1 c1, sv p2 y0.2.1 c2, sv p3 y0.2.2 c3], sv p4 y1 c4, vi y2, sv p5 y3 c5] [] [Rl wO p1 c1 y0.1, Rl qP p2 c2 y0.2.1, Rl wJ p3 c3 y0.2.2, Rl wS p4 c4 y1, Rl (zU .i64) p5 c5 y3] (zFH y0 y1 y2 y3) fun r K=>K (vb r) [] [] :=
 qD call66 func66 u fun X=>zB<|wC .s u<|fun b1=>zA 1 u<|zC<|zB<|zL 1 u<|zS 0 u u u<|zA 1 u<|wB 1 u u u<|fun x1 b2 o1=>wA true zJK (gk 0) u<|fun p6 c6=>wM .s (.agg #[vs [], vb false, vi 0, .slice none 0 0, vb false, vs []])<|
  fun b3=>qI .s 1 u u u<|zC<|zG<|jA 1 u<|zV<|qZ (fun s1 K=>K [1,2,3,4,9] [] [5,6,2,3,4,0] [(10, vi s1)] []) (gv (fun _ k=>k) [0,1] (gq [5,6,2,3,4,0]))<|fun s1 _ k=>k<|zG<|jA 4 u<|zJ u (jC<|zG<|zV<|
  wL (fun s2 K=>K [1,2,3,4,9,10] [] [0,1,2,3,4,5] [(51, vb s2)] []) (yI [] [0, 1] 30<|qH 0 1 u u<|qS 1 1 u u u u<|zT 27 [2] u<|wF 24 u (vQ 3 0 3 u u u u<|zT 23 [4,5,6] u<|vE 7 1 u u u u<|
  fun x2 b4 o2=>vD 8 false oI u (gk 0) u<|qH 10 4 u u<|vQ 11 1 2 u u u u<|zX 9<|qB (.f u) [] [] zUn u u u (cq [3,4,5,1])<|fun r1 _ k p7 c7=>k<|zO<|zX 12<|
  qB (.f u) [] [] zQP u u u (cq [0])<|fun r2 _ k=>k<|zO<|wD 13 (vb r2) u<|zT 15 [14] u<|wF 36 u (zT 1 [15,16,17,18,19,20,21,22,23,24,25,26,27,28] u<|wD 29 (vb true) u<|qM<|
  zH (gv (fun _ k=>k) [0,1] (gq [2,3,4,5,6,7])))<|qH 15 1 u u<|qS 16 1 u u u u<|zT 11 [17,18] u<|wF 40 u (vQ 19 0 3 u u u u<|zT 7 [20,21,22] u<|vE 23 3 u u u u<|fun x3 b5 o3=>
  vD 24 false oI u (gk 0) u<|zT 4 [26] u<|zX 25<|qB (.f u) [] [] zHP u u u (cq [5,6,7,3])<|fun r3 _ k p8 c8=>k<|zO<|zX 27<|qB (.f u) [] [] zRf u u u (cq [0])<|fun r4 _ k=>k<|zO<|
  wD 28 (vb r4) u<|wD 29 (vb r4) u<|qM<|zH (gv (fun _ k=>k) [0,1] (gq [4,5,6,7,8,9])))<|zT 2 [19,20,21,22,23,24,25,26,27] u<|wD 28 (vb false) u<|wD 29 (vb false) u<|qM<|zH (gv (fun _ k=>k) [0,1] (gq [2,3,4,5,6,7])))<|
  zT 17 [3,4,5,6,7,8,9,10,11,12] u<|wD 13 (vb false) u<|zT 15 [14] u<|qH 15 1 u u<|qS 16 1 u u u u<|zT 11 [17,18] u<|wF 40 u (vQ 19 0 3 u u u u<|zT 7 [20,21,22] u<|vE 23 1 u u u u<|
  fun x4 b6 o4=>vD 24 false oI u (gk 0) u<|zT 4 [26] u<|zX 25<|qB (.f u) [] [] zHP u u u (cq [3,4,5,1])<|fun r5 _ k p9 c9=>k<|zO<|zX 27<|qB (.f u) [] [] zRf u u u (cq [0])<|fun r6 _ k=>k<|
  zO<|wD 28 (vb r6) u<|wD 29 (vb r6) u<|qM<|zH (gv (fun _ k=>k) [0,1] (gq [2,3,4,5,6,7])))<|zT 2 [19,20,21,22,23,24,25,26,27] u<|wD 28 (vb false) u<|wD 29 (vb false) u<|qM<|zH (gv (fun _ k=>k) [0,1] (gq [0,1,2,3,4,5])))<|
  fun s2 _ k=>k<|zJ u (jA 1 u<|zK<|qO<|qA<|wU<|qO<|qA<|zR u u (fun _ k=>k) [] ⟨⟩)<|wK<|qE<|zP<|jB 3 u<|qJ (gv (fun _ k=>k) [0,1] (gq [0,1,2,3,4,5])))<|qT<|qQ<|qY<|qW<|zP<|jA 1 u<|zK<|
  zR u u (fun _ k=>k) [] ⟨⟩
theorem zMZ {qd : Prop} (k : Nat) :
    (∀ {y0 : List zI} {p1 : Option Addr} {c1 : Nat} {r_1 : zY} {y1 : Int} {y2 : List zN} {p2 : Option Addr} {c2 : Nat} {y3 : List Int} {p3 : Option Addr} {c3 : Nat}, qG qd prog 64 [sv p1 y0 c1, vi y1, sv p2 y2 c2, sv p3 y3 c3] [r_1] [Al wS 95 r_1 p1 c1 y0, Rl wN p2 c2 y2, Rl (zU .i64) p3 c3 y3] (zBp k y0 y1 y2 y3) fun r K=>∀ p4 c4,K (sv p4 r c4) [r_1] [Rl (vJ (zU .i64)) p4 c4 r]) := by
  induction k with
  | zero => exact zZS call64
  | succ k ih =>
    have ih_ref07_choices_2 := @ih
    exact @fun y0 p1 c1 r_1 y1 y2 p2 c2 y3 p3 c3=>qD (m1 := zFu (zBp k) y0 y1 y2 y3) call64 func64 u fun X=>jA 1 u<|zG<|jA 5 u<|zJ u (zB<|yP .s (e := zU .i64) 3 [] ([] : List Int) rN<|fun r_2 p4 c4=>zA 1 u<|wE .s 1 0 u (gk 3) u u<|fun x1 r_3 p5 c5=>wX 1 0 u u<|
  wT .s (e := vJ (zU .i64)) 29 [sv p5 x1 c5] ([x1] : List (List Int)) (rC (vL (gk 0)) rN)<|fun p6 c6=>zA 1 u<|zC<|zK<|qA<|zR u u (fun _ k=>k p6 c6) [0] (gq [0]))<|jC<|zB<|zA 1 u<|vV (vJ (zU .i64)) 29<|zC<|zG<|
  jA 1 u<|zV<|qZ (fun s1 K=>∀ p7 c7 r_4,K [0,1,2,3] [(1, r_4)] [1,2,3] [(9, sv p7 s1.1 c7), (10, vi s1.2)] [Al (vJ (zU .i64)) 29 r_4 p7 c7 s1.1]) (gv (fun _ k=>k none 0 []) [0,1] (gq [0,1,2,3]))<|fun s1 _ k p7 c7 r_4=>k<|zG<|
  jA 3 u<|zJ u (jC<|zG<|zV<|yE [] [0] 11<|zT 9 [0,1] u<|uU 2 1 u u u u<|fun x2 h2 b1 hp1=>qH 3 3 u u<|xY 4 0 1 sI.snd.snd.snd true yK u u hp1 h2 u<|zT 3 [5,6,7] u<|vE 8 2 u u u u<|
  fun x3 b2 o1=>vD 9 true yK u (gk 0) u<|wD 10 (vb (x2.2.2.2 == x3)) u<|qM<|zP<|zJ u (qN<|zA 9 u<|jsF (gk 4) u u u u (.inl ⟨rfl, rfl⟩)<|fun x4 p8=>zA 1 u<|
  wT .s (e := zU .i64) 3 [vi s1.2] ([s1.2] : List Int) (rC vI rN)<|fun p9 c8=>jaf .s 3 (gk 1) (gk 0) u u<|fun x5 p10 c9=>qB .s [0] [] ih_ref07_choices_2 u u u (cq [5,6,0])<|fun r1 _ k p11 c10=>k<|wE .s 1 5 u (gk 0) u u<|
  fun x6 r_5 p12 c11=>zA 1 u<|zQ<|qE<|zP<|jB 3 u<|qJ (gv (fun _ k=>k p12 c11 r_5) [0,1] (gq [0,7,8,9])))<|wK<|qE<|zP<|jB 3 u<|qJ (gv (fun _ k=>k p7 c7 r_4) [0,1] (gq [1,2,3,4])))<|qT<|qQ<|qY<|qW<|zP<|jA 2 u<|zK<|
  wX 1 0 u u<|zR u u (fun _ k=>k p7 c7) [0] (gq [0])
theorem zOh {qd : Prop} {y0 : List zI} {y1 : Int} {y2 : List zN} {y3 : List Int} : qG qd prog 64 [sv p1 y0 c1, vi y1, sv p2 y2 c2, sv p3 y3 c3] [r_1] [Al wS 95 r_1 p1 c1 y0, Rl wN p2 c2 y2, Rl (zU .i64) p3 c3 y3] (zHd y0 y1 y2 y3) fun r K=>∀ p4 c4,K (sv p4 r c4) [r_1] [Rl (vJ (zU .i64)) p4 c4 r] := zOt fun k => (zMZ k)
theorem zQw {qd : Prop} {y0 : List Int} {y1 : Int} : qG qd prog 65 [sv p1 y0 c1, vi y1] [] [Rl (zU .i64) p1 c1 y0] (zKF y0 y1) fun r K=>K (vb r) [] [] :=
 qD call65 func65 u fun X=>jA 1 u<|zG<|jA 1 u<|zV<|qZ (fun s1 K=>K [0,1] [] [0] [(5, vi s1)] []) (gv (fun _ k=>k) [] (gq [0]))<|fun s1 _ k=>k<|zG<|jA 4 u<|zJ u (jC<|zG<|zV<|zB<|zA 2 u<|wB 0 u u u<|fun x1 b1 o1=>wA false oI (gk 0) u<|
  zA 2 u<|zC<|zJ u (jA 1 u<|zK<|qO<|qA<|wU<|qO<|qA<|zR u u (fun _ k=>k) [] ⟨⟩)<|wK<|qE<|zP<|jB 3 u<|qJ (gv (fun _ k=>k) [] (gq [1])))<|qT<|qQ<|qY<|qW<|zP<|jA 1 u<|zK<|zR u u (fun _ k=>k) [] ⟨⟩
theorem zRn {qd : Prop} {y0 : zM} : qG qd prog 28 [.agg #[sv p1 y0.1 c1, sv p2 y0.2.1 c2, sv p3 y0.2.2 c3]] [] [Rl wO p1 c1 y0.1, Rl qP p2 c2 y0.2.1, Rl wJ p3 c3 y0.2.2] (zFt y0) fun r K=>∀ p4 c4,K (.tuple #[sv p4 r.1 c4, vi r.2]) [] [Rl wS p4 c4 r.1] :=
 qD call28 func28 u fun X=>zB<|wC .s u<|fun b1=>zA 2 u<|zC<|zG<|zB<|qV 0 3 u u u<|qL zPc u (cq [0,1,2])<|fun r1 _ k=>k<|zA 1 u<|zC<|jA 2 u<|zJ u (jA 3 u<|zK<|qA<|
  wW u (lT u (lT u lN)) (fun _ k=>k none 0) [] ⟨gn,⟨⟩⟩)<|jC<|zB<|zA 1 u<|vV wS 95<|zC<|wL (fun s1 K=>∀ p4 c4 r_1,K [1] [(1, r_1)] [1,2,3] [(5, sv p4 s1 c4)] [Al wS 95 r_1 p4 c4 s1]) (jA 1 u<|zV<|
  qZ (fun s2 K=>∀ p5 c5 r_2,K [1] [(1, r_2)] [1,2,3] [(5, sv p5 s2.1 c5), (6, vi s2.2)] [Al wS 95 r_2 p5 c5 s2.1]) (gv (fun _ k=>k none 0 []) [0,1] (gq [0,1,2,3]))<|fun s2 _ k p5 c5 r_2=>k<|zG<|zB<|zA 1 u<|zL 0 u<|
  zS 0 u u u<|zA 2 u<|zC<|zJ u (jC<|zG<|zV<|qN<|zA 2 u<|zL 0 u<|zS 0 u u u<|zA 1 u<|wB 1 u u u<|fun x1 b2 o1=>zL 0 u<|wA true yK (gf (gk 0)) u<|
  zD (.agg #[vi s2.2, vi (-1), .slice none 0 0, vb x1.1.1, vs x1.1.2])<|
  wT .s (e := wS) 95 [vi s2.2, vi (-1), .slice none 0 0, vb x1.1.1, vs x1.1.2] ([(s2.2, (-1), ([] : List Int), x1.1)] : List zI) (rC (vP vI (vP vI (vP (vL gn) (vP vB vS)))) rN)<|fun p6 c6=>wE .s 1 2 u (gk 0) u u<|
  fun x2 r_3 p7 c7=>zA 1 u<|zQ<|qE<|zP<|jB 3 u<|qJ (gv (fun _ k=>k p7 c7 r_3) [0,1] (gq [0,4,5,6])))<|qT<|qQ<|qY<|qW<|zH (gv (fun _ k=>k p5 c5 r_2) [0,1] (gq [0,1,2,3])))<|fun s1 _ k p4 c4 r_1=>k<|jA 1 u<|zG<|jA 1 u<|zV<|
  qZ (fun s3 K=>∀ p8 c8 r_4,K [1] [(1, r_4)] [1,2,3] [(5, sv p8 s3.1 c8), (7, vi s3.2.1), (8, vi s3.2.2)] [Al wS 95 r_4 p8 c8 s3.1]) (gv (fun _ k=>k p4 c4 r_1) [0,1] (gq [0,1,2,3]))<|fun s3 _ k p8 c8 r_4=>k<|zG<|
  uN (fun K=>K [1,5,7,8] [] [0,1,2,3] [(43, vb ((s3.2.2 == 1) || (decide (s3.2.1 < (len s3.1)))))] []) (qN<|zA 3 u<|vR (b := s3.2.2 == 1) 38 u (fun hb1=>zA 4 u<|zD (vb true)<|zQ<|
  wR 43 (vb ((s3.2.2 == 1) || (decide (s3.2.1 < (len s3.1))))) u (by rw [hb1]; rfl)<|zH (gv (fun _ k=>k) [0,1] (gq [0,1,2,3])))<|fun hb1=>zA 4 u<|zD (vb (decide (s3.2.1 < (len s3.1))))<|zQ<|
  wR 43 (vb ((s3.2.2 == 1) || (decide (s3.2.1 < (len s3.1))))) u (by rw [hb1]; rfl)<|zH (gv (fun _ k=>k) [0,1] (gq [0,1,2,3])))<|fun _ k=>k<|zJ u (jC<|zG<|zV<|jA 3 u<|zG<|jA 1 u<|zV<|
  qZ (fun s4 K=>∀ p9 c9 r_5,K [1,7,8,9] [(1, r_5)] [1,2,3] [(5, sv p9 s4.1 c9), (10, vi s4.2)] [Al wS 95 r_5 p9 c9 s4.1]) (gv (fun _ k=>k p8 c8 r_4) [0,1] (gq [0,1,2,3]))<|fun s4 _ k p9 c9 r_5=>k<|zG<|zB<|zA 1 u<|zL 1 u<|
  zS 0 u u u<|zA 2 u<|zC<|zJ u (jC<|zG<|zV<|zB<|zA 2 u<|zL 1 u<|zS 0 u u u<|zA 1 u<|wB 2 u u u<|fun x3 b3 o2=>zL 3 u<|wA false oL (gf (gs (gs (gs (gk 0))))) u<|fun p10 c10=>
  qB .s [1] [] zOh u u u ⟨ck 2,ck 0,cn,⟨⟩⟩<|fun r2 _ k p11 c11=>k<|zA 2 u<|zC<|zV<|
  qZ (fun s5 K=>∀ p12 c12 r_6,K [1,7,8,9,10,63,64] [(1, r_6)] [0,4,5,6] [(5, sv p12 s5.1 c12), (65, vi s5.2)] [Al wS 95 r_6 p12 c12 s5.1]) (gv (fun _ k=>k p9 c9 r_5) [0,1] (gq [3,0,4,5,6]))<|fun s5 _ k p12 c12 r_6=>k<|jA 1 u<|
  zG<|zJ u (jC<|zG<|zV<|zB<|wB 1 u u u<|fun x4 b4 o3=>wA false oL (gk 0) u<|fun p13 c13=>zA 1 u<|zC<|zG<|wL (fun s6 K=>K [1,5,7,8,9,10,12,63,64,65] [] [2,3,0,4,5,6] [(89, vb s6)] []) (qN<|zA 2 u<|
  qL zQw u (cq [0])<|fun r3 _ k=>k<|zA 2 u<|wF 73 u (zA 3 u<|wF 76 u (zA 3 u<|zD (vb true)<|zD (vb true)<|zA 7 u<|zD (vb true)<|zQ<|zH (gv (fun _ k=>k) [0,1] (gq [2,3,0,4,5,6])))<|zA 3 u<|
  zD (vb (decide (0 < (len x4))))<|zD (vb (decide (0 < (len x4))))<|zA 1 u<|wF 82 u (zA 6 u<|zD (vb true)<|zQ<|zH (gv (fun _ k=>k) [0,1] (gq [2,3,0,4,5,6])))<|qV 0 3 u u u<|zA 3 u<|
  qB .s [] [1] zMz u u u ⟨ck 4,ck 5,ck 6,cl 1 2,ck 0,⟨⟩⟩<|fun r4 _ k=>k<|zA 1 u<|zD (vb (!r4))<|zQ<|zH (gv (fun _ k=>k) [0,1] (gq [2,3,0,4,5,6])))<|zA 7 u<|zD (vb false)<|zA 1 u<|qV 0 3 u u u<|zA 3 u<|
  qB .s [] [1] zMz u u u ⟨ck 4,ck 5,ck 6,cl 1 2,ck 0,⟨⟩⟩<|fun r5 _ k=>k<|zA 1 u<|zD (vb (!r5))<|zQ<|zH (gv (fun _ k=>k) [0,1] (gq [2,3,0,4,5,6])))<|fun s6 _ k=>k<|zJ u (qT<|qQ<|qW<|zP<|jB 2 u<|
  qJ (gv (fun _ k=>k p12 c12 r_6) [0,1] (gq [0,1,3,4,5])))<|jC<|zB<|zA 3 u<|zL 1 u<|zS 0 u u u<|zA 1 u<|wB 4 u u u<|fun x5 b5 o4=>zL 4 u<|wA true yK (gs (gs (gs (gs (gk 0))))) u<|
  zD (.agg #[vi (-1), vi s4.2, sv p13 x4 c13, vb x5.2.2.2.2.1, vs x5.2.2.2.2.2])<|
  wT .s (e := wS) 95 [vi (-1), vi s4.2, sv p13 x4 c13, vb x5.2.2.2.2.1, vs x5.2.2.2.2.2] ([((-1), s4.2, x4, x5.2.2.2.2)] : List zI) (rC (vP vI (vP vI (vP (vL (gk 3)) (vP vB vS)))) rN)<|fun p14 c14=>
  wE .s 1 2 u (gk 0) u u<|fun x6 r_7 p15 c15=>zA 1 u<|zC<|jA 3 u<|zJ u (jA 2 u<|zK<|qO<|qA<|wU<|qO<|qO<|qA<|wU<|qO<|qA<|qO<|qA<|wU<|qO<|qA<|wW u (lT u (lT u lN)) (fun _ k=>k none 0) [] ⟨gn,⟨⟩⟩)<|wK<|
  qE<|zP<|jB 2 u<|qJ (gv (fun _ k=>k p15 c15 r_7) [0,1] (gq [0,4,6,7,8])))<|qT<|qQ<|qY<|qW<|qE<|zP<|jB 3 u<|qJ (gv (fun _ k=>k p12 c12 r_6) [0,1] (gq [0,2,3,4])))<|qT<|qQ<|qY<|qW<|zP<|jB 2 u<|qE<|zP<|jB 3 u<|
  qJ (gv (fun _ k=>k p9 c9 r_5) [0,1] (gq [0,1,2,3])))<|qT<|qQ<|qY<|qW<|zP<|jA 3 u<|zK<|wX 1 0 u u<|wW u (lT u (lT u lN)) (fun _ k=>k p8 c8) [] (gq [0])
theorem zRN {qd : Prop} {y0 : List zN} {y1 : zN} : qG qd prog 69 [sv p1 y0 c1, .agg #[vb y1.1, vs y1.2]] [] [Rl wN p1 c1 y0] (zHp y0 y1) fun r K=>∀ p2 c2,K (sv p2 r c2) [] [Rl wN p2 c2 r] :=
 qD call69 func69 u fun X=>zB<|wC .s u<|fun b1=>zA 1 u<|zC<|jA 1 u<|wL (fun s1 K=>K [0,3] [] [0] [(5, vi s1)] []) (zV<|qZ (fun s2 K=>K [0,3] [] [0] [(5, vi s2)] []) (gv (fun _ k=>k) [0] (gq [0]))<|fun s2 _ k=>k<|zG<|
  wL (fun s3 K=>K [0,3,5] [] [0] [(19, vb s3)] []) (yI [] [0] 13<|zT 8 [0,1,2,3,4] u<|wF 11 u (zT 6 [5,6] u<|vE 7 0 u u u u<|fun x1 b2 o1=>vD 8 true yK u (gk 0) u<|vQ 9 0 2 u u u u<|zX 10<|
  qB (.f u) [] [] zMG u u u ⟨⟩<|fun r1 _ k=>k<|zO<|zT 1 [11] u<|wD 12 (vb (decide (r1 < 0))) u<|qM<|zH (gv (fun _ k=>k) [0] (gq [1])))<|zT 1 [5,6,7,8,9,10,11] u<|wD 12 (vb false) u<|qM<|
  zH (gv (fun _ k=>k) [0] (gq [0])))<|fun s3 _ k=>k<|zJ u (jC<|zV<|jB 3 u<|qE<|qJ (gv (fun _ k=>k) [0] (gq [0])))<|qT<|qQ<|qY<|qW<|zH (gv (fun _ k=>k) [0] (gq [0])))<|fun s1 _ k=>k<|zG<|
  wL (fun s4 K=>K [0,3,5] [] [0] [(33, vb s4)] []) (yI [] [0] 12<|zT 7 [0,1,2,3,4] u<|wF 26 u (zT 5 [5,6] u<|vE 7 0 u u u u<|fun x2 b3 o2=>vD 8 true yK u (gk 0) u<|vQ 9 0 2 u u u u<|
  wD 10 (vb (x2 == y1)) u<|wD 11 (vb (x2 == y1)) u<|qM<|zH (gv (fun _ k=>k) [0] (gq [1])))<|zT 1 [5,6,7,8,9,10] u<|wD 11 (vb false) u<|qM<|zH (gv (fun _ k=>k) [0] (gq [0])))<|fun s4 _ k=>k<|zJ u (jA 2 u<|zK<|qA<|
  zR u u (fun _ k=>k p1 c1) [] (gq [0]))<|jC<|zB<|yP .s (e := wN) 52 [] ([] : List zN) rN<|fun r_1 p2 c2=>zA 2 u<|jsl (gk 1) u u u (.inl ⟨rfl, rfl⟩) (.inr ⟨_, rfl⟩)<|fun x3 p3 c3=>wE .s 1 1 u (gk 0) u u<|
  fun x4 r_2 p4 c4=>zA 1 u<|zC<|yE [] [0] 9<|zT 8 [0] u<|vQ 1 0 2 u u u u<|zT 5 [4,5] u<|jdw 6 u (gk 3) u u u (.inr ⟨_, rfl⟩) (.inl ⟨rfl, rfl⟩)<|fun x5 p5 c5=>zX 2<|
  wT (.f u) (e := wN) 52 [vb y1.1, vs y1.2] ([y1] : List zN) (rC (vP vB vS) rN)<|fun p6 c6=>zO<|zX 3<|wE (.f u) 1 2 u (gk 0) u u<|fun x6 r_3 p7 c7=>zO<|zX 7<|wE (.f u) 1 0 u (gk 2) u u<|
  fun x7 r_4 p8 c8=>zO<|zT 0 [8] u<|qM<|zP<|zK<|wX 1 0 u u<|zR u u (fun _ k=>k p8 c8) [] (gq [0])
theorem zNH {qd : Prop} {y0 : List zI} {y1 : List Int} : qG qd prog 31 [sv p1 y0 c1, sv p2 y1 c2] [] [Rl wS p1 c1 y0, Rl (zU .i64) p2 c2 y1] (zE8 y0 y1) fun r K=>∀ p3 c3,K (sv p3 r c3) [] [Rl wN p3 c3 r] :=
 qD call31 func31 u fun X=>jA 1 u<|jA 1 u<|zG<|jA 1 u<|zV<|qZ (fun s1 K=>∀ p3 c3,K [0,1] [] [0,1] [(5, sv p3 s1.1 c3), (6, vi s1.2)] [Rl wN p3 c3 s1.1]) (gv (fun _ k=>k none 0) [] ⟨gn,gk 0,gk 1,⟨⟩⟩)<|fun s1 _ k p3 c3=>k<|zG<|jA 4 u<|zJ u (jC<|
  zG<|zV<|wL (fun s2 K=>K [0,1,5,6] [] [1,2,0] [(26, vb s2)] []) (qN<|zA 2 u<|wB 2 u u u<|fun x1 b1 o1=>wA false oI (gk 0) u<|zA 2 u<|wF 18 u (zA 2 u<|wB 3 u u u<|fun x2 b2 o2=>wA false oI (gk 0) u<|
  zA 3 u<|zD (vb (decide (x2 < (len y0))))<|zQ<|zH (gv (fun _ k=>k) [] (gq [3,4,2])))<|zA 7 u<|zD (vb false)<|zQ<|zH (gv (fun _ k=>k) [] (gq [2,3,1])))<|fun s2 _ k=>k<|zJ u (qN<|zA 4 u<|wB 1 u u u<|fun x3 b3 o3=>
  wA false oI (gk 0) u<|wB 1 u u u<|fun x4 b4 o4=>zL 3 u<|wA true yK (gs (gs (gs (gk 0)))) u<|qL zRN u (cq [4])<|fun r1 _ k p4 c4=>k<|zA 1 u<|zQ<|qE<|zP<|jB 3 u<|
  qJ (gv (fun _ k=>k p4 c4) [] (gq [0,3,4])))<|wK<|qE<|zP<|jB 3 u<|qJ (gv (fun _ k=>k p3 c3) [] (gq [2,0,1])))<|qT<|qQ<|qY<|qW<|zP<|jA 2 u<|zK<|zR u u (fun _ k=>k p3 c3) [] (gq [0])
theorem zLO {qd : Prop} {y0 : List zI} {y1 : Int} : qG qd prog 180 [sv p1 y0 c1, vi y1] [] [Rl wS p1 c1 y0] (zEk y0 y1) fun r K=>∀ p2 c2,K (sv p2 r c2) [] [Rl (zU .i64) p2 c2 r] :=
 qD call180 func180 u fun X=>jA 1 u<|jA 1 u<|zG<|zB<|zA 2 u<|qL zMF u (cq [0])<|fun r1 _ k p2 c2=>k<|zA 2 u<|zC<|zV<|
  qZ (fun s1 K=>∀ p3 c3,K [0,10,11] [] [1,0] [(5, sv p3 s1.1 c3), (12, vi s1.2)] [Rl (zU .i64) p3 c3 s1.1]) (gv (fun _ k=>k none 0) [] ⟨gn,gk 1,gk 0,⟨⟩⟩)<|fun s1 _ k p3 c3=>k<|jA 1 u<|zG<|zJ u (jC<|zG<|zV<|zB<|wB 2 u u u<|
  fun x1 b1 o1=>wA false oI (gk 0) u<|zA 1 u<|zC<|zB<|zA 2 u<|wB 2 u u u<|fun x2 b2 o2=>zL 0 u<|wA false oI (gf (gk 0)) u<|zA 1 u<|zC<|zJ u (qN<|zA 3 u<|wB 3 u u u<|fun x3 b3 o3=>zL 0 u<|
  wA false oI (gf (gk 0)) u<|qL zKK u (cq [3])<|fun r2 _ k p4 c4=>k<|zA 1 u<|zQ<|qE<|zP<|jB 2 u<|qJ (gv (fun _ k=>k p4 c4) [] (gq [0,5,6])))<|wK<|qE<|zP<|jB 2 u<|qJ (gv (fun _ k=>k p3 c3) [] (gq [2,3,4])))<|
  qT<|qQ<|qY<|qW<|zP<|jA 2 u<|zK<|zR u u (fun _ k=>k p3 c3) [] (gq [0])
theorem zQ5 {qd : Prop} {y0 : zM} {y1 : List zI} {y2 : Int} : qG qd prog 121 [.agg #[sv p1 y0.1 c1, sv p2 y0.2.1 c2, sv p3 y0.2.2 c3], sv p4 y1 c4, vi y2] [] [Rl wO p1 c1 y0.1, Rl qP p2 c2 y0.2.1, Rl wJ p3 c3 y0.2.2, Rl wS p4 c4 y1] (zHD y0 y1 y2) fun r K=>K (vb r) [] [] :=
 qD call121 func121 u fun X=>zB<|wC .s u<|fun b1=>zA 1 u<|zC<|zG<|zB<|zA 2 u<|qL zLO u (cq [3])<|fun r1 _ k p5 c5=>k<|zA 2 u<|zC<|zV<|qZ (fun s1 K=>K [3,11,12] [] [0,1,2,3] [(13, vi s1)] []) (gv (fun _ k=>k) [0] (gq [0,1,2,3]))<|
  fun s1 _ k=>k<|jA 1 u<|zG<|zJ u (jC<|zG<|zV<|zB<|wB 0 u u u<|fun x1 b2 o1=>wA false oI (gk 0) u<|zA 1 u<|zC<|zB<|zL 0 u<|zS 0 u u u<|zA 1 u<|wB 2 u u u<|fun x2 b3 o2=>zL 2 u<|
  wA false oI (gf (gs (gk 0))) u<|zA 1 u<|zC<|zJ u (jA 1 u<|zK<|qO<|qA<|wU<|qO<|qA<|zR u u (fun _ k=>k) [] ⟨⟩)<|wK<|qE<|zP<|jB 2 u<|qJ (gv (fun _ k=>k) [0] (gq [2,3,4,5])))<|qT<|qQ<|qY<|qW<|zP<|jA 1 u<|
  zK<|zR u u (fun _ k=>k) [] ⟨⟩
theorem zP2 {qd : Prop} (k : Nat) :
    (∀ {y0 : zM} {p1 : Option Addr} {c1 : Nat} {p2 : Option Addr} {c2 : Nat} {p3 : Option Addr} {c3 : Nat} {y1 : List zI} {p4 : Option Addr} {c4 : Nat} {y2 : Int}, qG qd prog 182 [.agg #[sv p1 y0.1 c1, sv p2 y0.2.1 c2, sv p3 y0.2.2 c3], sv p4 y1 c4, vi y2] [] [Rl wO p1 c1 y0.1, Rl qP p2 c2 y0.2.1, Rl wJ p3 c3 y0.2.2, Rl wS p4 c4 y1] (zF9 k y0 y1 y2) fun r K=>∀ p5 c5,K (sv p5 r c5) [] [Rl (zU .i64) p5 c5 r]) := by
  induction k with
  | zero => exact zZS call182
  | succ k ih =>
    have ih_ref07_Last := @ih
    exact @fun y0 p1 c1 p2 c2 p3 c3 y1 p4 c4 y2=>qD (m1 := zJh (zF9 k) y0 y1 y2) call182 func182 u fun X=>zB<|wC .s u<|fun b1=>zA 1 u<|zC<|zG<|wL (fun s1 K=>K [1,2,3] [] [3,0,1,2] [(24, vb s1)] []) (qN<|zA 3 u<|wF 11 u (zA 4 u<|zD (vb true)<|zA 7 u<|zD (vb true)<|zQ<|zH (gv (fun _ k=>k) [0] (gq [3,0,1,2])))<|
  zA 4 u<|zD (vb (decide ((len y1) ≤ y2)))<|zA 1 u<|wF 17 u (zA 6 u<|zD (vb true)<|zQ<|zH (gv (fun _ k=>k) [0] (gq [3,0,1,2])))<|zA 2 u<|wB 3 u u u<|fun x1 b2 o1=>zL 1 u<|wA false oI (gf (gs (gk 0))) u<|
  zA 1 u<|zD (vb (decide (x1.2.1 < 0)))<|zQ<|zH (gv (fun _ k=>k) [0] (gq [4,1,2,3])))<|fun s1 _ k=>k<|zJ u (jA 1 u<|zK<|qA<|zR u u (fun _ k=>k none 0) [] ⟨gn,⟨⟩⟩)<|jC<|zG<|yE [] [0] 11<|qH 0 1 u u<|
  qS 1 0 u u u u<|zT 7 [2,3] u<|vE 4 0 u u u u<|fun x2 b3 o2=>qH 5 1 u u<|vD 6 false oI u (gf (gs (gk 0))) u<|vE 7 3 u u u u<|fun x3 b4 o3=>qH 8 1 u u<|vD 9 false oB u (gf (gs (gk 0))) u<|
  zT 0 [10] u<|qM<|zP<|zJ u (zB<|zA 2 u<|wB 2 u u u<|fun x4 b5 o4=>zL 1 u<|wA false oI (gf (gs (gk 0))) u<|wT .s (e := zU .i64) 3 [vi x4.2.1] ([x4.2.1] : List Int) (rC vI rN)<|fun p5 c5=>zA 1 u<|zC<|zK<|qA<|
  zR u u (fun _ k=>k p5 c5) [] (gq [0]))<|jC<|jA 1 u<|zG<|jA 1 u<|zV<|
  qZ (fun s2 K=>∀ p6 c6,K [1,2,3] [] [2,3,4,5] [(7, sv p6 s2.1 c6), (8, vi s2.2)] [Rl (zU .i64) p6 c6 s2.1]) (gv (fun _ k=>k none 0) [0] ⟨gn,gk 2,gk 3,gk 4,gk 5,⟨⟩⟩)<|fun s2 _ k p6 c6=>k<|zG<|zB<|zA 3 u<|wB 1 u u u<|
  fun x5 b6 o5=>zL 2 u<|wA false oL (gf (gs (gs (gk 0)))) u<|fun p7 c7=>zA 2 u<|zC<|zJ u (jC<|zG<|zV<|yI [] [0] 14<|zT 13 [0] u<|vQ 1 0 3 u u u u<|zT 9 [2,3,4] u<|vE 5 3 u u u u<|fun x6 b7 o6=>
  qH 6 2 u u<|vD 7 false oL u (gf (gs (gs (gk 0)))) u<|fun p8 c8=>zT 5 [8] u<|vE 9 0 u u u u<|fun x7 b8 o7=>vD 10 false oI u (gk 0) u<|zX 11<|qB (.f u) [] [] ih_ref07_Last u u u (cq [7,8,9,6])<|
  fun r1 _ k p9 c9=>k<|zO<|zX 12<|qB (.f u) [] [] zO2 u u u (cq [6,0])<|fun r2 _ k p10 c10=>k<|zO<|zT 0 [13] u<|qM<|qE<|zP<|jB 3 u<|qJ (gv (fun _ k=>k p10 c10) [0] (gq [0,8,9,10,11])))<|qT<|qQ<|qY<|qW<|zP<|
  jA 2 u<|zK<|zR u u (fun _ k=>k p6 c6) [] (gq [2])
theorem zTE {qd : Prop} {y0 : zM} {y1 : List zI} {y2 : Int} : qG qd prog 182 [.agg #[sv p1 y0.1 c1, sv p2 y0.2.1 c2, sv p3 y0.2.2 c3], sv p4 y1 c4, vi y2] [] [Rl wO p1 c1 y0.1, Rl qP p2 c2 y0.2.1, Rl wJ p3 c3 y0.2.2, Rl wS p4 c4 y1] (zLm y0 y1 y2) fun r K=>∀ p5 c5,K (sv p5 r c5) [] [Rl (zU .i64) p5 c5 r] := zOt fun k => (zP2 k)
theorem zKc {qd : Prop} {y0 : zM} {y1 : List zI} {y2 : Int} : qG qd prog 124 [.agg #[sv p1 y0.1 c1, sv p2 y0.2.1 c2, sv p3 y0.2.2 c3], sv p4 y1 c4, vi y2] [] [Rl wO p1 c1 y0.1, Rl qP p2 c2 y0.2.1, Rl wJ p3 c3 y0.2.2, Rl wS p4 c4 y1] (zDu y0 y1 y2) fun r K=>∀ p5 c5,K (sv p5 r c5) [] [Rl (zU .i64) p5 c5 r] :=
 qD call124 func124 u fun X=>zB<|wC .s u<|fun b1=>zA 1 u<|zC<|zB<|zA 1 u<|vV (zU .i64) 3<|zC<|zG<|zB<|qV 0 3 u u u<|zA 2 u<|qL zTE u (cq [1,2,3,4])<|fun r1 _ k p5 c5=>k<|zA 2 u<|zC<|zV<|
  qZ (fun s1 K=>∀ p6 c6 r_1,K [3,13,14] [(1, r_1)] [0,2,3,4] [(7, sv p6 s1.1 c6), (15, vi s1.2)] [Al (zU .i64) 3 r_1 p6 c6 s1.1]) (gv (fun _ k=>k none 0 []) [0,1] (gq [1,0,2,3,4]))<|fun s1 _ k p6 c6 r_1=>k<|jA 1 u<|zG<|zJ u (jC<|
  zG<|zV<|zB<|wB 1 u u u<|fun x1 b2 o1=>wA false oI (gk 0) u<|zA 1 u<|zC<|qN<|zA 1 u<|zL 1 u<|zS 0 u u u<|zA 1 u<|wB 4 u u u<|fun x2 b3 o2=>zL 2 u<|wA false oI (gf (gs (gs (gk 0)))) u<|
  wT .s (e := zU .i64) 3 [vi x2.2.2.1] ([x2.2.2.1] : List Int) (rC vI rN)<|fun p7 c7=>wE .s 1 3 u (gk 0) u u<|fun x3 r_2 p8 c8=>zA 1 u<|zQ<|qE<|zP<|jB 2 u<|qJ (gv (fun _ k=>k p8 c8 r_2) [0,1] (gq [0,5,6,7,8])))<|qT<|qQ<|
  qY<|qW<|zP<|jA 2 u<|zK<|wX 1 0 u u<|zR u u (fun _ k=>k p6 c6) [] (gq [0])
theorem zDe {qd : Prop} {y0 : zM} {y1 : List zI} {y2 : Int} : qG qd prog 123 [.agg #[sv p1 y0.1 c1, sv p2 y0.2.1 c2, sv p3 y0.2.2 c3], sv p4 y1 c4, vi y2] [] [Rl wO p1 c1 y0.1, Rl qP p2 c2 y0.2.1, Rl wJ p3 c3 y0.2.2, Rl wS p4 c4 y1] (zBM y0 y1 y2) fun r K=>∀ p5 c5,K (sv p5 r c5) [] [Rl (zU .i64) p5 c5 r] :=
 qD call123 func123 u fun X=>zB<|wC .s u<|fun b1=>zA 1 u<|zC<|zB<|zA 1 u<|vV (zU .i64) 3<|zC<|zG<|zB<|zA 2 u<|qL zLO u (cq [4])<|fun r1 _ k p5 c5=>k<|zA 2 u<|zC<|zV<|
  qZ (fun s1 K=>∀ p6 c6 r_1,K [3,12,13] [(1, r_1)] [0,2,3,4] [(7, sv p6 s1.1 c6), (14, vi s1.2)] [Al (zU .i64) 3 r_1 p6 c6 s1.1]) (gv (fun _ k=>k none 0 []) [0,1] (gq [1,0,2,3,4]))<|fun s1 _ k p6 c6 r_1=>k<|jA 1 u<|zG<|zJ u (jC<|
  zG<|zV<|zB<|wB 1 u u u<|fun x1 b2 o1=>wA false oI (gk 0) u<|zA 1 u<|zC<|zB<|zL 0 u<|zS 0 u u u<|zA 1 u<|wB 3 u u u<|fun x2 b3 o2=>zL 2 u<|wA false oI (gf (gs (gk 0))) u<|zC<|zV<|jA 2 u<|
  zJ u (qN<|zA 1 u<|zL 0 u<|zS 0 u u u<|zA 1 u<|wB 4 u u u<|fun x3 b4 o3=>zL 3 u<|wA false oI (gf (gs (gs (gk 0)))) u<|wT .s (e := zU .i64) 3 [vi x3.2.2.1] ([x3.2.2.1] : List Int) (rC vI rN)<|fun p7 c7=>
  wE .s 1 4 u (gk 0) u u<|fun x4 r_2 p8 c8=>zA 1 u<|zQ<|qE<|qE<|zP<|jB 2 u<|qJ (gv (fun _ k=>k p8 c8 r_2) [0,1] (gq [0,6,7,8,9])))<|jA 2 u<|zJ u (qN<|zA 1 u<|
  wT .s (e := zU .i64) 3 [vi (-1)] ([(-1)] : List Int) (rC vI rN)<|fun p9 c9=>wE .s 1 3 u (gk 0) u u<|fun x5 r_3 p10 c10=>zA 1 u<|zQ<|qE<|qE<|zP<|jB 2 u<|qJ (gv (fun _ k=>k p10 c10 r_3) [0,1] (gq [0,5,6,7,8])))<|wK<|qE<|
  qE<|zP<|jB 2 u<|qJ (gv (fun _ k=>k p6 c6 r_1) [0,1] (gq [2,3,4,5,6])))<|qT<|qQ<|qY<|qW<|zP<|jA 2 u<|zK<|wX 1 0 u u<|zR u u (fun _ k=>k p6 c6) [] (gq [0])
theorem zKU {qd : Prop} {y0 : zM} {y1 : List zI} {y2 : Int} : qG qd prog 125 [.agg #[sv p1 y0.1 c1, sv p2 y0.2.1 c2, sv p3 y0.2.2 c3], sv p4 y1 c4, vi y2] [] [Rl wO p1 c1 y0.1, Rl qP p2 c2 y0.2.1, Rl wJ p3 c3 y0.2.2, Rl wS p4 c4 y1] (zDs y0 y1 y2) fun r K=>∀ p5 c5,K (sv p5 r c5) [] [Rl (zU .i64) p5 c5 r] :=
 qD call125 func125 u fun X=>zB<|wC .s u<|fun b1=>zA 1 u<|zC<|zB<|zA 1 u<|vV (zU .i64) 3<|zC<|zG<|zB<|qV 0 3 u u u<|zA 2 u<|qL zHP u (cq [1,2,3,4])<|fun r1 _ k p5 c5=>k<|zA 2 u<|zC<|zV<|
  qZ (fun s1 K=>∀ p6 c6 r_1,K [3,13,14] [(1, r_1)] [0,2,3,4] [(7, sv p6 s1.1 c6), (15, vi s1.2)] [Al (zU .i64) 3 r_1 p6 c6 s1.1]) (gv (fun _ k=>k none 0 []) [0,1] (gq [1,0,2,3,4]))<|fun s1 _ k p6 c6 r_1=>k<|jA 1 u<|zG<|zJ u (jC<|
  zG<|zV<|zB<|wB 1 u u u<|fun x1 b2 o1=>wA false oI (gk 0) u<|zA 1 u<|zC<|qN<|zA 1 u<|zL 1 u<|zS 0 u u u<|zA 1 u<|wB 4 u u u<|fun x2 b3 o2=>zL 2 u<|wA false oI (gf (gs (gs (gk 0)))) u<|
  wT .s (e := zU .i64) 3 [vi x2.2.2.1] ([x2.2.2.1] : List Int) (rC vI rN)<|fun p7 c7=>wE .s 1 3 u (gk 0) u u<|fun x3 r_2 p8 c8=>zA 1 u<|zQ<|qE<|zP<|jB 2 u<|qJ (gv (fun _ k=>k p8 c8 r_2) [0,1] (gq [0,5,6,7,8])))<|qT<|qQ<|
  qY<|qW<|zP<|jA 2 u<|zK<|wX 1 0 u u<|zR u u (fun _ k=>k p6 c6) [] (gq [0])
theorem zLY {qd : Prop} {y0 : List Int} : qG qd prog 181 [sv p1 y0 c1] [] [Rl (zU .i64) p1 c1 y0] (zEp y0) fun r K=>K (.tuple #[vi r.1, vi r.2]) [] [] :=
 qD call181 func181 u fun X=>jA 2 u<|yE [] [] 8<|zT 7 [0] u<|vE 1 0 u u u u<|fun x1 b1 o1=>vD 2 false oI u (gk 0) u<|zT 4 [3] u<|vE 4 1 u u u u<|fun x2 b2 o2=>vD 5 false oI u (gk 0) u<|zT 0 [6,7] u<|qM<|zP<|zG<|jA 1 u<|zV<|
  qZ (fun s1 K=>K [0] [] [2] [(4, vi s1.1), (5, vi s1.2.1), (6, vi s1.2.2)] []) (gv (fun _ k=>k) [] (gq [2]))<|fun s1 _ k=>k<|zG<|jA 4 u<|zJ u (jC<|zG<|zV<|yI [] [] 14<|zT 11 [0,1,2] u<|vE 3 0 u u u u<|fun x3 b3 o3=>
  vD 4 false oI u (gk 0) u<|zT 5 [5,6,7,8] u<|vE 9 1 u u u u<|fun x4 b4 o4=>vD 10 false oI u (gk 0) u<|zT 0 [11,12,13] u<|qM<|qE<|zP<|jB 3 u<|qJ (gv (fun _ k=>k) [] (gq [2])))<|qT<|qQ<|qY<|qW<|zP<|
  jA 4 u<|zK<|wW u (lT u (lT u lN)) (fun _ k=>k) [] ⟨⟩
theorem zJG {qd : Prop} {y0 : List Int} {y1 : List Int} {y2 : Int} : qG qd prog 122 [sv p1 y0 c1, sv p2 y1 c2, vi y2] [] [Rl (zU .i64) p1 c1 y0, Rl (zU .i64) p2 c2 y1] (zDm y0 y1 y2) fun r K=>K (vb r) [] [] :=
 qD call122 func122 u fun X=>jA 1 u<|zG<|uN (fun K=>K [0,1,2] [] [0,1] [(21, vb (if y2 != 1 then (y2 != 2) || ((len y0) == 0) else (len y0) == 0))] []) (qN<|zA 3 u<|vR (b := y2 != 1) 13 u (fun hb1=>zA 2 u<|zD (vb (y2 != 2))<|zA 1 u<|
  vR (b := y2 != 2) 17 u (fun hb2=>zA 3 u<|zD (vb true)<|zQ<|wR 21 (vb (if y2 != 1 then (y2 != 2) || ((len y0) == 0) else (len y0) == 0)) u (by rw [hb1,hb2]; rfl)<|zH (gv (fun _ k=>k) [] (gq [0,1])))<|fun hb2=>zA 3 u<|
  zD (vb ((len y0) == 0))<|zQ<|wR 21 (vb (if y2 != 1 then (y2 != 2) || ((len y0) == 0) else (len y0) == 0)) u (by rw [hb1,hb2]; rfl)<|zH (gv (fun _ k=>k) [] (gq [0,1])))<|fun hb1=>zA 2 u<|zD (vb false)<|zA 4 u<|
  zD (vb ((len y0) == 0))<|zQ<|wR 21 (vb (if y2 != 1 then (y2 != 2) || ((len y0) == 0) else (len y0) == 0)) u (by rw [hb1]; rfl)<|zH (gv (fun _ k=>k) [] (gq [0,1])))<|fun _ k=>k<|zJ u (jA 1 u<|zK<|qA<|
  zR u u (fun _ k=>k) [] ⟨⟩)<|jC<|zG<|jA 3 u<|zJ u (jA 1 u<|zK<|qA<|zR u u (fun _ k=>k) [] ⟨⟩)<|jC<|zB<|zA 1 u<|qL zLY u (cq [0])<|fun r1 _ k=>k<|zA 5 u<|zC<|zB<|zA 1 u<|
  qL zLY u (cq [1])<|fun r2 _ k=>k<|zA 5 u<|zC<|zG<|jA 2 u<|zJ u (jA 4 u<|zK<|qA<|zR u u (fun _ k=>k) [] ⟨⟩)<|jC<|jA 4 u<|zK<|zR u u (fun _ k=>k) [] ⟨⟩
theorem zS8 {qd : Prop} {y0 : zM} {y1 : List zI} {y2 : Int} {y3 : Int} {y4 : vN} : qG qd prog 68 [.agg #[sv p1 y0.1 c1, sv p2 y0.2.1 c2, sv p3 y0.2.2 c3], sv p4 y1 c4, vi y2, vi y3, .agg #[vi y4.1, vi y4.2]] [] [Rl wO p1 c1 y0.1, Rl qP p2 c2 y0.2.1, Rl wJ p3 c3 y0.2.2, Rl wS p4 c4 y1] (zID y0 y1 y2 y3 y4) fun r K=>K (vb r) [] [] :=
 qD call68 func68 u fun X=>zB<|wC .s u<|fun b1=>wC .s u<|fun b2=>zA 1 u<|zC<|zG<|wL (fun s1 K=>K [1,2,3,5,9] [] [3,0,1,2] [(40, vb s1)] []) (qN<|zA 3 u<|wF 19 u (zA 4 u<|zD (vb true)<|zA 3 u<|zD (vb true)<|zA 5 u<|zD (vb true)<|
  zA 5 u<|zD (vb true)<|zQ<|zH (gv (fun _ k=>k) [0,1] (gq [3,0,1,2])))<|zA 4 u<|zD (vb (decide ((len y1) ≤ y2)))<|zA 1 u<|wF 25 u (zA 2 u<|zD (vb true)<|zA 5 u<|zD (vb true)<|zA 5 u<|zD (vb true)<|zQ<|
  zH (gv (fun _ k=>k) [0,1] (gq [3,0,1,2])))<|zA 2 u<|zD (vb (decide (y3 < 0)))<|zA 1 u<|wF 29 u (zA 4 u<|zD (vb true)<|zA 5 u<|zD (vb true)<|zQ<|zH (gv (fun _ k=>k) [0,1] (gq [3,0,1,2])))<|zA 4 u<|
  zD (vb (decide ((len y1) ≤ y3)))<|zA 1 u<|wF 35 u (zA 4 u<|zD (vb true)<|zQ<|zH (gv (fun _ k=>k) [0,1] (gq [3,0,1,2])))<|qV 0 3 u u u<|zA 2 u<|qL zQ5 u (cq [0,1,2,3])<|fun r1 _ k=>k<|zD (vb r1)<|zQ<|
  zH (gv (fun _ k=>k) [0,1] (gq [3,0,1,2])))<|fun s1 _ k=>k<|zJ u (jA 1 u<|zK<|qA<|zR u u (fun _ k=>k) [] ⟨⟩)<|jC<|yE [] [0, 1] 12<|vQ 0 0 3 u u u u<|zT 9 [1,2] u<|vQ 4 0 3 u u u u<|zT 6 [5,6] u<|
  qH 8 1 u u<|qS 9 1 u u u u<|zX 3<|qB (.f u) [] [] zDe u u u (cq [1,2,3,0])<|fun r2 _ k p5 c5=>k<|zO<|zX 7<|qB (.f u) [] [] zDe u u u (cq [2,3,4,1])<|fun r3 _ k p6 c6=>k<|
  zO<|zX 10<|qB (.f u) [] [] zJG u u u (cq [1,0])<|fun r4 _ k=>k<|zO<|zT 0 [11] u<|qM<|zP<|zG<|zB<|zL 0 u<|zS 1 u u u<|zC<|zV<|jA 2 u<|zJ u (yE [] [0] 10<|vQ 0 0 3 u u u u<|
  zT 7 [1,2] u<|vQ 4 0 3 u u u u<|zT 4 [5,6] u<|zX 3<|qB (.f u) [] [] zKc u u u (cq [3,4,5,2])<|fun r5 _ k p7 c7=>k<|zO<|zX 7<|qB (.f u) [] [] zKc u u u (cq [4,5,6,3])<|
  fun r6 _ k p8 c8=>k<|zO<|zT 0 [8,9] u<|qM<|zP<|jjn (fun s2 K=>K [(10, vb s2)] [[], []] []) (qN<|zA 2 u<|zL 1 u<|zS 1 u u u<|qL zJG u (cq [1,0])<|fun r7 _ k=>k<|zA 1 u<|wF 69 u (zA 11 u<|
  zD (vb true)<|zA 1 u<|zQ<|zH (gv (fun _ k=>k) [900,901] ⟨⟩))<|zA 4 u<|wF 73 u (zA 3 u<|zD (vb ((len r6) == 0))<|zA 1 u<|wF 78 u (zA 1 u<|zD (vb r4)<|zD (vb r4)<|zA 1 u<|zQ<|zH (gv (fun _ k=>k) [900,901] ⟨⟩)
  )<|zA 1 u<|zD (vb false)<|zD (vb false)<|zA 1 u<|zQ<|zH (gv (fun _ k=>k) [900,901] ⟨⟩))<|zA 3 u<|zD (vb false)<|zA 2 u<|zD (vb false)<|zD (vb false)<|zA 1 u<|zQ<|zH (gv (fun _ k=>k) [900,901] ⟨⟩))<|fun s2 _ k=>k<|
  zK<|qO<|qA<|zR u u (fun _ k=>k) [] ⟨⟩)<|jA 2 u<|zJ u (yE [] [0] 10<|vQ 0 0 3 u u u u<|zT 7 [1,2] u<|vQ 4 0 3 u u u u<|zT 4 [5,6] u<|zX 3<|
  qB (.f u) [] [] zKU u u u (cq [3,4,5,2])<|fun r8 _ k p9 c9=>k<|zO<|zX 7<|qB (.f u) [] [] zKU u u u (cq [4,5,6,3])<|fun r9 _ k p10 c10=>k<|zO<|zT 0 [8,9] u<|qM<|zP<|zG<|
  uN (fun K=>K [1,2,3,5,9,11,14,15] [] [4,1,0,5,6,7] [(99, vb (((len r8) == 0) && ((len r9) == 0)))] []) (qN<|zA 4 u<|vR (b := (len r8) == 0) 95 u (fun hb8=>zA 3 u<|zD (vb ((len r9) == 0))<|zQ<|
  wR 99 (vb (((len r8) == 0) && ((len r9) == 0))) u (by rw [hb8]; rfl)<|zH (gv (fun _ k=>k) [0,1] (gq [4,1,0,5,6,7])))<|fun hb8=>zA 3 u<|zD (vb false)<|zQ<|wR 99 (vb (((len r8) == 0) && ((len r9) == 0))) u (by rw [hb8]; rfl)<|
  zH (gv (fun _ k=>k) [0,1] (gq [4,1,0,5,6,7])))<|fun _ k=>k<|zJ u (jA 2 u<|zK<|qA<|qO<|qA<|zR u u (fun _ k=>k) [] ⟨⟩)<|jC<|zB<|zA 2 u<|zL 1 u<|zS 1 u u u<|qL zJG u (cq [1,2])<|fun r10 _ k=>k<|
  zA 1 u<|zC<|zG<|wL (fun s3 K=>K [11,16] [(0, []), (1, [])] [] [(119, vb s3)] []) (qN<|qV 0 3 u u u<|zA 2 u<|qL zDe u (cq [3,4,5,0])<|fun r11 _ k p11 c11=>k<|zA 3 u<|wF 112 u (qV 0 3 u u u<|
  zA 2 u<|qL zDe u (cq [4,5,6,1])<|fun r12 _ k p12 c12=>k<|zA 2 u<|zD (vb ((len r12) == 0))<|zQ<|zH (gv (fun _ k=>k) [900,901] ⟨⟩))<|zA 6 u<|zD (vb false)<|zQ<|zH (gv (fun _ k=>k) [900,901] ⟨⟩))<|
  fun s3 _ k=>k<|zJ u (jA 2 u<|zK<|qA<|qO<|qA<|zR u u (fun _ k=>k) [] ⟨⟩)<|jC<|jjp (fun K=>K [(10, vb (r4 && r10))] [[], []] []) (qN<|zA 2 u<|vR (b := r4) 122 u (fun hb10=>zA 1 u<|zD (vb r10)<|zA 1 u<|zQ<|
  wR 10 (vb (r4 && r10)) u (by rw [hb10]; rfl)<|zH (gv (fun _ k=>k) [900,901] ⟨⟩))<|fun hb10=>zA 1 u<|zD (vb false)<|zA 1 u<|zQ<|wR 10 (vb (r4 && r10)) u (by rw [hb10]; rfl)<|zH (gv (fun _ k=>k) [900,901] ⟨⟩))<|fun _ k=>k<|
  zK<|qO<|qA<|zR u u (fun _ k=>k) [] ⟨⟩)<|wK<|qE<|zP<|jA 1 u<|zK<|zR u u (fun _ k=>k) [] ⟨⟩
theorem zNe {qd : Prop} {y0 : zN} : qG qd prog 179 [.agg #[vb y0.1, vs y0.2]] [] [] (zGz y0) fun r K=>K (.agg #[vb r.1, vs r.2]) [] [] :=
 qD call179 func179 u fun X=>zB<|wC .s u<|fun b1=>wM .s (.agg #[vb false, vs []])<|fun b2=>zC<|zB<|zL 0 u<|zS 0 u u u<|zA 1 u<|zL 1 u<|zS 0 u u u<|zD (.agg #[vb (!y0.1), vs y0.2])<|qI .s 1 u u u<|zC<|zK<|
  wW u (lC 1 (.agg #[vb (!y0.1), vs y0.2]) u u lN) (fun _ k=>k) [] ⟨⟩
theorem zQe {qd : Prop} {y0 : zM} {y1 : List zI} {y2 : Int} {y3 : Int} {y4 : Int} : qG qd prog 120 [.agg #[sv p1 y0.1 c1, sv p2 y0.2.1 c2, sv p3 y0.2.2 c3], sv p4 y1 c4, vi y2, vi y3, vi y4] [] [Rl wO p1 c1 y0.1, Rl qP p2 c2 y0.2.1, Rl wJ p3 c3 y0.2.2, Rl wS p4 c4 y1] (zHE y0 y1 y2 y3 y4) fun r K=>K (vb r) [] [] :=
 qD call120 func120 u fun X=>zB<|wC .s u<|fun b1=>zA 1 u<|zC<|yE [] [] 13<|zT 11 [0,1] u<|vE 2 3 u u u u<|fun x1 b2 o1=>qH 3 3 u u<|vD 4 true yK u (gs (gs (gs (gk 0)))) u<|zT 6 [5,6] u<|vE 7 4 u u u u<|fun x2 b3 o2=>
  qH 8 3 u u<|vD 9 true yK u (gs (gs (gs (gk 0)))) u<|zX 10<|qB (.f u) [] [] zNe u u u ⟨⟩<|fun r1 _ k=>k<|zO<|wD 11 (vb (x1.2.2.2 == r1)) u<|zT 0 [12] u<|qM<|zP<|zG<|zB<|zA 2 u<|
  wB 5 u u u<|fun x3 b4 o3=>zL 1 u<|wA false oI (gf (gs (gk 0))) u<|zA 1 u<|zC<|zJ u (jjn (fun s1 K=>K [(10, vb s1)] [[]] []) (yI [] [0] 19<|zT 16 [0,1,2] u<|wF 33 u (qH 3 0 u u<|qS 4 0 u u u u<|
  zT 12 [5,6] u<|vE 7 6 u u u u<|fun x4 b5 o4=>qH 8 0 u u<|vD 9 false oI u (gf (gk 0)) u<|vE 10 4 u u u u<|fun x5 b6 o5=>qH 11 2 u u<|vD 12 false oI u (gf (gs (gk 0))) u<|zT 5 [13] u<|
  wD 14 (vb (x5.2.1 != 1)) u<|zT 3 [15] u<|wF 46 u (zT 2 [16] u<|wD 17 (vb (x1.2.2.2 == r1)) u<|zT 0 [18] u<|qM<|zH (gv (fun _ k=>k) [900] ⟨⟩))<|zT 2 [16] u<|wD 17 (vb false) u<|zT 0 [18] u<|qM<|
  zH (gv (fun _ k=>k) [900] ⟨⟩))<|zT 5 [3,4,5,6,7,8,9,10,11,12,13] u<|wD 14 (vb false) u<|zT 2 [15,16] u<|wD 17 (vb false) u<|zT 0 [18] u<|qM<|zH (gv (fun _ k=>k) [900] ⟨⟩))<|fun s1 _ k=>k<|zK<|qA<|
  zR u u (fun _ k=>k) [] ⟨⟩)<|jC<|yE [] [0] 11<|qH 0 1 u u<|qS 1 0 u u u u<|zT 7 [2,3] u<|vE 4 6 u u u u<|fun x6 b7 o6=>qH 5 1 u u<|vD 6 false oI u (gf (gs (gk 0))) u<|vE 7 5 u u u u<|
  fun x7 b8 o7=>vD 8 true zJK u (gk 0) u<|fun p5 c5=>zX 9<|wM (.f u) (.agg #[vs [], vb false, vi 0, .slice none 0 0, vb false, vs []])<|fun b9=>zO<|zX 10<|qI (o := 0) (.f u) 1 u u u<|zO<|qM<|zP<|zG<|jA 1 u<|zV<|
  jA 2 u<|zJ u (jjp (fun K=>K [(10, vb ((!x7.2.1) && (x1.2.2.2 == r1)))] [[], []] []) (qN<|zL 1 u<|zS 1 u u u<|zA 2 u<|vR (b := !x7.2.1) 64 u (fun hb3=>zA 1 u<|zD (vb (x1.2.2.2 == r1))<|zA 1 u<|zQ<|
  wR 10 (vb ((!x7.2.1) && (x1.2.2.2 == r1))) u (by rw [hb3]; rfl)<|zH (gv (fun _ k=>k) [900,901] ⟨⟩))<|fun hb3=>zA 1 u<|zD (vb false)<|zA 1 u<|zQ<|wR 10 (vb ((!x7.2.1) && (x1.2.2.2 == r1))) u (by rw [hb3]; rfl)<|
  zH (gv (fun _ k=>k) [900,901] ⟨⟩))<|fun _ k=>k<|zK<|qO<|qA<|zR u u (fun _ k=>k) [] ⟨⟩)<|jA 2 u<|zJ u (jjn (fun s2 K=>K [(10, vb s2)] [[], []] []) (yI [] [1] 15<|qH 0 1 u u<|qS 1 1 u u u u<|zT 11 [2,3] u<|
  wF 72 u (zT 9 [4,5] u<|vE 6 9 u u u u<|fun x8 b10 o8=>qH 7 3 u u<|vD 8 true yK u (gs (gs (gs (gk 0)))) u<|qH 9 0 u u<|qS 10 1 u u u u<|wD 11 (.agg #[vb true, vs x7.1]) u<|
  wD 12 (vb (x8.2.2.2 == (true, x7.1))) u<|wD 13 (vb (x8.2.2.2 == (true, x7.1))) u<|zT 0 [14] u<|qM<|zH (gv (fun _ k=>k) [900,901] ⟨⟩))<|zT 2 [4,5,6,7,8,9,10,11,12] u<|wD 13 (vb false) u<|zT 0 [14] u<|qM<|
  zH (gv (fun _ k=>k) [900,901] ⟨⟩))<|fun s2 _ k=>k<|zK<|qO<|qA<|zR u u (fun _ k=>k) [] ⟨⟩)<|wK<|qE<|zP<|jA 1 u<|zK<|zR u u (fun _ k=>k) [] ⟨⟩
theorem zQL {qd : Prop} {y0 : zM} {y1 : List zI} : qG qd prog 67 [.agg #[sv p1 y0.1 c1, sv p2 y0.2.1 c2, sv p3 y0.2.2 c3], sv p4 y1 c4] [] [Rl wO p1 c1 y0.1, Rl qP p2 c2 y0.2.1, Rl wJ p3 c3 y0.2.2, Rl wS p4 c4 y1] (zHW y0 y1) fun r K=>∀ p5 c5,K (sv p5 r c5) [] [Rl yX p5 c5 r] :=
 qD call67 func67 u fun X=>zB<|wC .s u<|fun b1=>zA 1 u<|zC<|zB<|zA 1 u<|vV yX 98<|zC<|zG<|jA 1 u<|zV<|
  qZ (fun s1 K=>∀ p5 c5 r_1,K [1,2] [(1, r_1)] [4,1,2,3] [(5, sv p5 s1.1 c5), (6, vi s1.2)] [Al yX 98 r_1 p5 c5 s1.1]) (gv (fun _ k=>k none 0 []) [0,1] (gq [0,4,1,2,3]))<|fun s1 _ k p5 c5 r_1=>k<|zG<|jA 4 u<|zJ u (jC<|zG<|zV<|
  jA 1 u<|zV<|qZ (fun s2 K=>∀ p6 c6 r_2,K [1,2,6] [(1, r_2)] [1,2,3,4] [(5, sv p6 s2.1 c6), (7, vi s2.2)] [Al yX 98 r_2 p6 c6 s2.1]) (gv (fun _ k=>k p5 c5 r_1) [0,1] (gq [0,1,2,3,4]))<|fun s2 _ k p6 c6 r_2=>k<|zG<|jA 4 u<|
  zJ u (jC<|zG<|zV<|zB<|zA 2 u<|qL zMF u (cq [1])<|fun r1 _ k p7 c7=>k<|zA 2 u<|zC<|zV<|
  qZ (fun s3 K=>∀ p8 c8 r_3,K [1,2,6,7,25,26] [(1, r_3)] [2,0,3,4,5] [(5, sv p8 s3.1 c8), (27, vi s3.2)] [Al yX 98 r_3 p8 c8 s3.1]) (gv (fun _ k=>k p6 c6 r_2) [0,1] (gq [1,2,0,3,4,5]))<|fun s3 _ k p8 c8 r_3=>k<|jA 1 u<|zG<|
  zJ u (jC<|zG<|zV<|zB<|wB 2 u u u<|fun x1 b2 o1=>wA false oI (gk 0) u<|zA 1 u<|zC<|jA 1 u<|zV<|
  qZ (fun s4 K=>∀ p9 c9 r_4,K [1,2,6,7,9,25,26,27] [(1, r_4)] [2,3,4,5,6] [(5, sv p9 s4.1 c9), (10, vi s4.2)] [Al yX 98 r_4 p9 c9 s4.1]) (gv (fun _ k=>k p8 c8 r_3) [0,1] (gq [1,2,3,4,5,6]))<|fun s4 _ k p9 c9 r_4=>k<|zG<|jA 2 u<|
  zJ u (jC<|zG<|zV<|zB<|qV 0 3 u u u<|zA 4 u<|qL zQe u (cq [3,4,5,1])<|fun r2 _ k=>k<|zC<|zJ u (qN<|zA 5 u<|zD (.agg #[vi s1.2, vi s2.2, vi x1, vi s4.2])<|
  wT .s (e := yX) 98 [vi s1.2, vi s2.2, vi x1, vi s4.2] ([(s1.2, s2.2, x1, s4.2)] : List qU) (rC (vP vI (vP vI (vP vI vI))) rN)<|fun p10 c10=>wE .s 1 1 u (gk 0) u u<|fun x2 r_5 p11 c11=>zA 1 u<|zQ<|qE<|zP<|jB 3 u<|
  qJ (gv (fun _ k=>k p11 c11 r_5) [0,1] (gq [0,3,4,5,6,7])))<|wK<|qE<|zP<|jB 3 u<|qJ (gv (fun _ k=>k p9 c9 r_4) [0,1] (gq [0,1,2,3,4,5])))<|qT<|qQ<|qY<|qW<|qE<|zP<|jB 2 u<|
  qJ (gv (fun _ k=>k p9 c9 r_4) [0,1] (gq [0,1,2,3,4,5])))<|qT<|qQ<|qY<|qW<|qE<|zP<|jB 3 u<|qJ (gv (fun _ k=>k p8 c8 r_3) [0,1] (gq [0,1,3,4,5])))<|qT<|qQ<|qY<|qW<|qE<|zP<|jB 3 u<|
  qJ (gv (fun _ k=>k p6 c6 r_2) [0,1] (gq [0,1,2,3,4])))<|qT<|qQ<|qY<|qW<|zP<|jA 2 u<|zK<|wX 1 0 u u<|zR u u (fun _ k=>k p5 c5) [] (gq [0])
theorem zLt {qd : Prop} {y0 : zM} {y1 : List zI} {y2 : vN} : qG qd prog 30 [.agg #[sv p1 y0.1 c1, sv p2 y0.2.1 c2, sv p3 y0.2.2 c3], sv p4 y1 c4, .agg #[vi y2.1, vi y2.2]] [] [Rl wO p1 c1 y0.1, Rl qP p2 c2 y0.2.1, Rl wJ p3 c3 y0.2.2, Rl wS p4 c4 y1] (zFc y0 y1 y2) fun r K=>∀ p5 c5,K (sv p5 r c5) [] [Rl yX p5 c5 r] :=
 qD call30 func30 u fun X=>zB<|wC .s u<|fun b1=>wC .s u<|fun b2=>zA 1 u<|zC<|zB<|zA 1 u<|vV yX 98<|zC<|zB<|qV 0 3 u u u<|zA 1 u<|qL zQL u (cq [1,2,3,4])<|fun r1 _ k p5 c5=>k<|zA 1 u<|zC<|zG<|jA 1 u<|zV<|
  qZ (fun s1 K=>∀ p6 c6 r_1,K [1,3,5,8] [(2, r_1)] [5,0,2,3,4] [(7, sv p6 s1.1 c6), (9, vi s1.2)] [Al yX 98 r_1 p6 c6 s1.1]) (gv (fun _ k=>k none 0 []) [0,1,2] (gq [1,5,0,2,3,4]))<|fun s1 _ k p6 c6 r_1=>k<|zG<|jA 4 u<|zJ u (jC<|
  zG<|zV<|wL (fun s2 K=>K [1,3,5,7,8,9] [] [1,0,2,3,4,5] [(41, vb s2)] []) (yI [] [0, 1] 23<|zT 21 [0,1] u<|vE 2 2 u u u u<|fun x1 b3 o1=>qH 3 3 u u<|vD 4 false oI u (gs (gs (gs (gk 0)))) u<|zT 16 [5,6] u<|
  wF 25 u (zT 1 [7,8,9,10,11,12,13,14,15,16,17,18,19,20,21] u<|wD 22 (vb true) u<|qM<|zH (gv (fun _ k=>k) [0,1,2] (gq [2,1,3,4,5,6])))<|vQ 7 0 3 u u u u<|zT 12 [8,9,10] u<|vE 11 3 u u u u<|fun x2 b4 o2=>
  qH 12 0 u u<|vD 13 false oI u (gf (gk 0)) u<|zT 7 [14,15] u<|vE 16 4 u u u u<|fun x3 b5 o3=>qH 17 2 u u<|vD 18 false oI u (gf (gs (gs (gk 0)))) u<|vQ 19 1 2 u u u u<|zX 20<|
  qB (.f u) [] [] zS8 u u u (cq [6,7,8,4])<|fun r2 _ k=>k<|zO<|zT 1 [21] u<|wD 22 (vb (!r2)) u<|qM<|zH (gv (fun _ k=>k) [0,1,2] (gq [4,3,5,6,7,8])))<|fun s2 _ k=>k<|zJ u (qN<|zA 3 u<|wB 2 u u u<|
  fun x4 b6 o4=>wA true zM2 (gk 0) u<|wT .s (e := yX) 98 [vi x4.1, vi x4.2.1, vi x4.2.2.1, vi x4.2.2.2] ([x4] : List qU) (rC (vP vI (vP vI (vP vI vI))) rN)<|fun p7 c7=>wE .s 2 3 u (gk 0) u u<|fun x5 r_2 p8 c8=>
  zA 1 u<|zQ<|qE<|zP<|jB 3 u<|qJ (gv (fun _ k=>k p8 c8 r_2) [0,1,2] (gq [0,3,5,6,7,8])))<|wK<|qE<|zP<|jB 3 u<|qJ (gv (fun _ k=>k p6 c6 r_1) [0,1,2] (gq [1,0,2,3,4,5])))<|qT<|qQ<|qY<|qW<|zP<|jA 2 u<|zK<|wX 2 0 u u<|
  zR u u (fun _ k=>k p6 c6) [] (gq [0])
theorem zNf {qd : Prop} {y0 : Int} {y1 : List qU} : qG qd prog 29 [vi y0, sv p1 y1 c1] [] [Rl yX p1 c1 y1] (zGx y0 y1) fun r K=>∀ p2 c2,K (.tuple #[.agg #[vi r.1.1, sv p2 r.1.2 c2], vi r.2]) [] [Rl yH p2 c2 r.1.2] :=
 qD call29 func29 u fun X=>zB<|wM .s (.agg #[vi 0, .slice none 0 0])<|fun b1=>zA 1 u<|zC<|zG<|uN (fun K=>K [0,1,4] [] [0] [(17, vb ((decide (y0 < 0)) || (decide (40 < y0))))] []) (qN<|zA 3 u<|vR (b := decide (y0 < 0)) 14 u (fun hb1=>zA 2 u<|
  zD (vb true)<|zQ<|wR 17 (vb ((decide (y0 < 0)) || (decide (40 < y0)))) u (by rw [hb1]; rfl)<|zH (gv (fun _ k=>k) [0] (gq [0])))<|fun hb1=>zA 2 u<|zD (vb (decide (40 < y0)))<|zQ<|
  wR 17 (vb ((decide (y0 < 0)) || (decide (40 < y0)))) u (by rw [hb1]; rfl)<|zH (gv (fun _ k=>k) [0] (gq [0])))<|fun _ k=>k<|zJ u (zB<|zD (.agg #[vi 0, .slice none 0 0])<|qI .s 0 u u u<|zA 1 u<|zC<|zK<|qA<|
  wW u (lC 0 (.agg #[vi 0, .slice none 0 0]) u u (lT u lN)) (fun _ k=>k none 0) [] ⟨gn,⟨⟩⟩)<|jC<|zTu (fun s1 K=>K [0,1,4] [] [0] [] []) (jA 1 u<|zV<|
  qZ (fun s2 K=>K [0,1,4] [] [0] [(6, vi s2)] []) (gv (fun _ k=>k) [0] (gq [0]))<|fun s2 _ k=>k<|zG<|jA 4 u<|zJ u (jC<|zG<|zV<|wL (fun s3 K=>K [0,1,4,6] [] [0] [(56, vb s3)] []) (qN<|zA 2 u<|wB 0 u u u<|fun x1 b2 o1=>
  zL 0 u<|wA false oI (gf (gk 0)) u<|zA 2 u<|wF 31 u (zA 7 u<|zD (vb true)<|zA 7 u<|zD (vb true)<|zA 8 u<|zD (vb true)<|zQ<|zH (gv (fun _ k=>k) [0] (gq [1])))<|zA 2 u<|wB 1 u u u<|fun x2 b3 o2=>zL 0 u<|
  wA false oI (gf (gk 0)) u<|zA 2 u<|zD (vb (decide (y0 ≤ x2.1)))<|zA 1 u<|wF 40 u (zA 6 u<|zD (vb true)<|zA 8 u<|zD (vb true)<|zQ<|zH (gv (fun _ k=>k) [0] (gq [2])))<|zA 2 u<|wB 2 u u u<|fun x3 b4 o3=>
  zL 1 u<|wA false oI (gf (gs (gk 0))) u<|zA 1 u<|zD (vb (decide (x3.2.1 < 0)))<|zA 1 u<|wF 48 u (zA 7 u<|zD (vb true)<|zQ<|zH (gv (fun _ k=>k) [0] (gq [3])))<|zA 2 u<|wB 3 u u u<|fun x4 b5 o4=>zL 1 u<|
  wA false oI (gf (gs (gk 0))) u<|zA 2 u<|zD (vb (decide (y0 ≤ x4.2.1)))<|zQ<|zH (gv (fun _ k=>k) [0] (gq [4])))<|fun s3 _ k=>k<|zJ u (zB<|zD (.agg #[vi 0, .slice none 0 0])<|qI .s 0 u u u<|zA 1 u<|zC<|zK<|qO<|qA<|
  wU<|qO<|wU<|wW u (lC 0 (.agg #[vi 0, .slice none 0 0]) u u (lT u lN)) (fun _ k=>k none 0) [] ⟨gn,⟨⟩⟩)<|wK<|qE<|zP<|jB 3 u<|qJ (gv (fun _ k=>k) [0] (gq [0])))<|qT<|qQ<|qY<|qW<|qJ (gv (fun _ k=>k) [0] (gq [0])))<|
  fun s1 _ k=>k<|zB<|zA 1 u<|zD (.agg #[vi y0, .slice none 0 0])<|vV yH 100<|wM .s (.agg #[vi 0, .slice none 0 0])<|fun b6=>qI .s 2 u u u<|zC<|
  wL (fun s4 K=>∀ p2 c2 r_1,K [4,7] [(1, r_1), (2, bx b6 42 [vi y0, sv p2 s4 c2])] [] [] [Al yH 100 r_1 p2 c2 s4]) (jA 1 u<|zV<|
  qZ (fun s5 K=>∀ p3 c3 r_2,K [0,1,4,7] [(1, r_2), (2, bx b6 42 [vi y0, sv p3 s5.2 c3])] [1] [(8, vi s5.1)] [Al yH 100 r_2 p3 c3 s5.2]) (gv (fun _ k=>k none 0 []) [0,1,2] (gq [0,1]))<|fun s5 _ k p3 c3 r_2=>k<|zG<|jA 3 u<|zJ u (
  jC<|zG<|zV<|jA 1 u<|zV<|qZ (fun s6 K=>∀ p4 c4 r_3,K [0,1,4,7,8] [(1, r_3), (2, bx b6 42 [vi y0, sv p4 s6.2 c4])] [1] [(9, vi s6.1)] [Al yH 100 r_3 p4 c4 s6.2]) (gv (fun _ k=>k p3 c3 r_2) [0,1,2] (gq [0,1]))<|
  fun s6 _ k p4 c4 r_3=>k<|zG<|jA 3 u<|zJ u (jC<|zG<|zV<|jA 1 u<|wL (fun s7 K=>K [0,1,4,7,8,9] [] [1,0] [(10, vb s7)] []) (jA 1 u<|zV<|
  qZ (fun s8 K=>K [0,1,4,7,8,9] [] [1,0] [(10, vb s8.1), (11, vi s8.2)] []) (gv (fun _ k=>k) [0,1,2] (gq [1,0]))<|fun s8 _ k=>k<|zG<|jA 4 u<|zJ u (jC<|zG<|zV<|jjcK (fun s9 K=>K [0,1,4,7,8,9,11] [] [0,1] [(10, vb s9)] []) (qN<|
  zA 2 u<|wF 77 u (zA 16 u<|zD (vb true)<|zA 1 u<|zQ<|zH (gv (fun _ k=>k) [0,1,2] (gq [0,1])))<|zA 2 u<|wB 0 u u u<|fun x5 b7 o5=>zL 0 u<|wA false oI (gf (gk 0)) u<|zA 3 u<|wF 85 u (zA 2 u<|
  wB 1 u u u<|fun x6 b8 o6=>zL 1 u<|wA false oI (gf (gs (gk 0))) u<|zA 2 u<|zD (vb (x6.2.1 == s6.1))<|zD (vb (x6.2.1 == s6.1))<|zA 1 u<|zQ<|zH (gv (fun _ k=>k) [0,1,2] (gq [2,3])))<|zA 7 u<|zD (vb false)<|
  zD (vb false)<|zA 1 u<|zQ<|zH (gv (fun _ k=>k) [0,1,2] (gq [1,2])))<|fun s9 _ k=>k<|qE<|zP<|jB 3 u<|qJ (gv (fun _ k=>k) [0,1,2] (gq [0,1])))<|qT<|qQ<|qY<|qW<|zH (gv (fun _ k=>k) [0,1,2] (gq [0,1])))<|fun s7 _ k=>k<|
  jA 1 u<|zJ u (qN<|zL 1 u<|zS 2 u u u<|zA 2 u<|zD (.agg #[vi s5.1, vi s6.1])<|wT .s (e := yH) 100 [vi s5.1, vi s6.1] ([(s5.1, s6.1)] : List wQ) (rC (vP vI vI) rN)<|fun p5 c5=>wE .s 1 2 u (gk 0) u u<|
  fun x7 r_4 p6 c6=>zL 1 u<|qI .s 2 u u u<|zQ<|qE<|zP<|jB 3 u<|qJ (gv (fun _ k=>k p6 c6 r_4) [0,1,2] (gq [0,2])))<|wK<|qE<|zP<|jB 3 u<|qJ (gv (fun _ k=>k p4 c4 r_3) [0,1,2] (gq [1,0])))<|qT<|qQ<|qY<|qW<|qE<|zP<|
  jB 3 u<|qJ (gv (fun _ k=>k p4 c4 r_3) [0,1,2] (gq [0,1])))<|qT<|qQ<|qY<|qW<|zH (gv (fun _ k=>k p3 c3 r_2) [0,1,2] (gq [0])))<|fun s4 _ k p2 c2 r_1=>k<|zB<|qV 2 2 u u u<|qI .s 0 u u u<|zA 1 u<|zC<|zK<|
  wX 1 0 u u<|wW u (lC 0 (.agg #[vi y0, sv p2 s4 c2]) u u (lT u lN)) (fun _ k=>k p2 c2) [] (gq [0])
theorem zSx {qd : Prop} {y0 : List Int} {y1 : Int} : qG qd prog 32 [sv p1 y0 c1, vi y1] [] [Rl (zU .i64) p1 c1 y0] (zLk y0 y1) fun r K=>∀ p2 c2,K (sv p2 r c2) [] [Rl (zU .i64) p2 c2 r] :=
 qD call32 func32 u fun X=>jA 1 u<|zB<|zA 1 u<|vV (zU .i64) 3<|zC<|zG<|jA 1 u<|zV<|qZ (fun s1 K=>∀ p2 c2 r_1,K [0,1] [(0, r_1)] [1] [(5, sv p2 s1.1 c2), (6, vi s1.2)] [Al (zU .i64) 3 r_1 p2 c2 s1.1]) (gv (fun _ k=>k none 0 []) [0] (gq [0,1]))<|
  fun s1 _ k p2 c2 r_1=>k<|zG<|jA 4 u<|zJ u (jC<|zG<|zV<|zB<|zA 2 u<|wB 1 u u u<|fun x1 b1 o1=>wA false oI (gk 0) u<|zA 2 u<|zC<|zJ u (qN<|zA 2 u<|
  wT .s (e := zU .i64) 3 [vi s1.2] ([s1.2] : List Int) (rC vI rN)<|fun p3 c3=>wE .s 0 2 u (gk 0) u u<|fun x2 r_2 p4 c4=>zA 1 u<|zQ<|qE<|zP<|jB 3 u<|qJ (gv (fun _ k=>k p4 c4 r_2) [0] (gq [0,4])))<|wK<|qE<|zP<|jB 3 u<|
  qJ (gv (fun _ k=>k p2 c2 r_1) [0] (gq [1,2])))<|qT<|qQ<|qY<|qW<|zP<|jA 2 u<|zK<|wX 0 0 u u<|zR u u (fun _ k=>k p2 c2) [] (gq [0])
theorem zP4 {qd : Prop} {y0 : wY} : qG qd prog 225 [.agg #[vi y0.1, sv p1 y0.2 c1]] [] [Rl yH p1 c1 y0.2] (zCw y0) fun r K=>K (vi r) [] [] :=
 qD call225 func225 u fun X=>zB<|wC .s u<|fun b1=>zA 1 u<|zC<|zG<|uN (fun K=>K [1] [] [0] [(12, vb ((decide (y0.1 < 0)) || (decide (40 < y0.1))))] []) (qN<|zL 0 u<|zS 0 u u u<|zA 2 u<|vR (b := decide (y0.1 < 0)) 8 u (fun hb1=>zA 3 u<|
  zD (vb true)<|zQ<|wR 12 (vb ((decide (y0.1 < 0)) || (decide (40 < y0.1)))) u (by rw [hb1]; rfl)<|zH (gv (fun _ k=>k) [0] (gq [0])))<|fun hb1=>zL 0 u<|zS 0 u u u<|zA 1 u<|zD (vb (decide (40 < y0.1)))<|zQ<|
  wR 12 (vb ((decide (y0.1 < 0)) || (decide (40 < y0.1)))) u (by rw [hb1]; rfl)<|zH (gv (fun _ k=>k) [0] (gq [0])))<|fun _ k=>k<|zJ u (jA 1 u<|zK<|qA<|zR u u (fun _ k=>k) [] ⟨⟩)<|jC<|zG<|jA 1 u<|zV<|
  qZ (fun s1 K=>K [1] [] [0] [(3, vi s1)] []) (gv (fun _ k=>k) [0] (gq [0]))<|fun s1 _ k=>k<|zG<|zB<|zA 1 u<|zL 1 u<|zS 0 u u u<|zA 2 u<|zC<|zJ u (jC<|zG<|zV<|zB<|zL 1 u<|zS 0 u u u<|zA 1 u<|
  wB 0 u u u<|fun x1 b2 o1=>wA true zL0 (gk 0) u<|wM .s (.agg #[vi 0, vi 0])<|fun b3=>qI .s 1 u u u<|zC<|zG<|
  uN (fun K=>K [1,3,4] [] [1] [(46, vb ((decide (x1.1 < 0)) || ((decide (y0.1 ≤ x1.1)) || ((decide (x1.2 < 0)) || (decide (y0.1 ≤ x1.2))))))] []) (qN<|zL 0 u<|zS 1 u u u<|zA 2 u<|vR (b := decide (x1.1 < 0)) 28 u (fun hb2=>
  zA 5 u<|zD (vb true)<|zA 4 u<|zD (vb true)<|zA 6 u<|zD (vb true)<|zQ<|wR 46 (vb ((decide (x1.1 < 0)) || ((decide (y0.1 ≤ x1.1)) || ((decide (x1.2 < 0)) || (decide (y0.1 ≤ x1.2)))))) u (by rw [hb2]; rfl)<|
  zH (gv (fun _ k=>k) [0,1] (gq [1])))<|fun hb2=>zL 0 u<|zS 1 u u u<|zL 0 u<|zS 0 u u u<|zA 1 u<|zD (vb (decide (y0.1 ≤ x1.1)))<|zA 1 u<|vR (b := decide (y0.1 ≤ x1.1)) 35 u (fun hb3=>zA 3 u<|zD (vb true)<|
  zA 6 u<|zD (vb true)<|zQ<|wR 46 (vb ((decide (x1.1 < 0)) || ((decide (y0.1 ≤ x1.1)) || ((decide (x1.2 < 0)) || (decide (y0.1 ≤ x1.2)))))) u (by rw [hb2,hb3]; rfl)<|zH (gv (fun _ k=>k) [0,1] (gq [1])))<|fun hb3=>zL 1 u<|
  zS 1 u u u<|zA 1 u<|zD (vb (decide (x1.2 < 0)))<|zA 1 u<|vR (b := decide (x1.2 < 0)) 40 u (fun hb4=>zA 5 u<|zD (vb true)<|zQ<|
  wR 46 (vb ((decide (x1.1 < 0)) || ((decide (y0.1 ≤ x1.1)) || ((decide (x1.2 < 0)) || (decide (y0.1 ≤ x1.2)))))) u (by rw [hb2,hb3,hb4]; rfl)<|zH (gv (fun _ k=>k) [0,1] (gq [1])))<|fun hb4=>zL 1 u<|zS 1 u u u<|zL 0 u<|
  zS 0 u u u<|zA 1 u<|zD (vb (decide (y0.1 ≤ x1.2)))<|zQ<|wR 46 (vb ((decide (x1.1 < 0)) || ((decide (y0.1 ≤ x1.1)) || ((decide (x1.2 < 0)) || (decide (y0.1 ≤ x1.2)))))) u (by rw [hb2,hb3,hb4]; rfl)<|
  zH (gv (fun _ k=>k) [0,1] (gq [1])))<|fun _ k=>k<|zJ u (jA 1 u<|zK<|qA<|qO<|qA<|wU<|qO<|qA<|zR u u (fun _ k=>k) [] ⟨⟩)<|jC<|wL (fun s2 K=>K [1,3] [(1, [])] [0] [(84, vb s2)] []) (yI [] [0, 1] 38<|zT 35 [0,1,2] u<|
  wF 49 u (qH 3 1 u u<|qS 4 0 u u u u<|zT 31 [5,6] u<|vE 7 0 u u u u<|fun x2 b4 o2=>qH 8 0 u u<|vD 9 false oI u (gf (gk 0)) u<|qH 10 0 u u<|qS 11 1 u u u u<|zT 24 [12,13] u<|wF 60 u (
  zT 2 [14,15,16,17,18,19,20,21,22,23,24,25,26,27,28,29,30,31,32,33,34,35] u<|wD 36 (vb true) u<|wD 37 (vb true) u<|qM<|zH (gv (fun _ k=>k) [0,901] (gq [1])))<|qH 14 1 u u<|qS 15 0 u u u u<|zT 20 [16,17] u<|
  vE 18 1 u u u u<|fun x3 b5 o3=>qH 19 0 u u<|vD 20 false oI u (gf (gk 0)) u<|qH 21 0 u u<|qS 22 1 u u u u<|zT 13 [23,24] u<|wF 71 u (qH 25 1 u u<|qS 26 0 u u u u<|zT 9 [27,28] u<|
  vE 29 2 u u u u<|fun x4 b6 o4=>qH 30 1 u u<|vD 31 false oI u (gs (gk 0)) u<|qH 32 1 u u<|qS 33 1 u u u u<|zT 3 [34] u<|wD 35 (vb (decide (x1.2 ≤ x4.2))) u<|wD 36 (vb (decide (x1.2 ≤ x4.2))) u<|
  wD 37 (vb (decide (x1.2 ≤ x4.2))) u<|qM<|zH (gv (fun _ k=>k) [0,901] (gq [3])))<|zT 3 [25,26,27,28,29,30,31,32,33,34] u<|wD 35 (vb false) u<|wD 36 (vb false) u<|wD 37 (vb false) u<|qM<|
  zH (gv (fun _ k=>k) [0,901] (gq [2])))<|zT 1 [3,4,5,6,7,8,9,10,11,12,13,14,15,16,17,18,19,20,21,22,23,24,25,26,27,28,29,30,31,32,33,34,35,36] u<|wD 37 (vb false) u<|qM<|zH (gv (fun _ k=>k) [0,901] (gq [0])))<|fun s2 _ k=>k<|
  zJ u (jA 1 u<|zK<|qO<|qA<|wU<|qO<|qA<|zR u u (fun _ k=>k) [] ⟨⟩)<|wK<|qE<|zP<|jB 3 u<|qJ (gv (fun _ k=>k) [0] (gq [0])))<|qT<|qQ<|qY<|qW<|zP<|jA 1 u<|zK<|zR u u (fun _ k=>k) [] ⟨⟩
theorem zSC {qd : Prop} {y0 : wY} : qG qd prog 183 [.agg #[vi y0.1, sv p1 y0.2 c1]] [] [Rl yH p1 c1 y0.2] (zIe y0) fun r K=>∀ p2 c2,K (.agg #[vi r.1, sv p2 r.2 c2]) [] [Rl yH p2 c2 r.2] :=
 qD call183 func183 u fun X=>zB<|wC .s u<|fun b1=>wM .s (.agg #[vi 0, .slice none 0 0])<|fun b2=>zC<|zG<|zB<|qV 0 2 u u u<|qL zP4 u (cq [0])<|fun r1 _ k=>k<|zA 1 u<|zC<|zJ u (zB<|zD (.agg #[vi 0, .slice none 0 0])<|
  qI .s 1 u u u<|zC<|zK<|qA<|wW u (lC 1 (.agg #[vi 0, .slice none 0 0]) u u lN) (fun _ k=>k none 0) [] ⟨gn,⟨⟩⟩)<|jC<|zB<|qV 0 2 u u u<|qI .s 1 u u u<|zC<|zK<|
  wW u (lC 1 (.agg #[vi y0.1, sv p1 y0.2 c1]) u u lN) (fun _ k=>k p1 c1) [] (gq [0])
theorem zK8 {qd : Prop} {y0 : wY} {y1 : Int} : qG qd prog 127 [.agg #[vi y0.1, sv p1 y0.2 c1], vi y1] [] [Rl yH p1 c1 y0.2] (zDk y0 y1) fun r K=>∀ p2 c2,K (sv p2 r c2) [] [Rl (zU .i64) p2 c2 r] :=
 qD call127 func127 u fun X=>zB<|wC .s u<|fun b1=>zA 1 u<|zC<|zB<|qV 0 2 u u u<|qL zSC u (cq [0])<|fun r1 _ k p2 c2=>k<|qI .s 0 u u u<|zC<|zB<|zA 1 u<|vV (zU .i64) 3<|zC<|zG<|jA 1 u<|zV<|
  qZ (fun s1 K=>∀ p3 c3 r_1,K [1,2] [(1, r_1)] [1] [(5, sv p3 s1.1 c3), (6, vi s1.2)] [Al (zU .i64) 3 r_1 p3 c3 s1.1]) (gv (fun _ k=>k none 0 []) [0,1] (gq [0,1]))<|fun s1 _ k p3 c3 r_1=>k<|zG<|zB<|zA 1 u<|zL 1 u<|
  zS 0 u u u<|zA 2 u<|zC<|zJ u (jC<|zG<|zV<|zB<|zL 1 u<|zS 0 u u u<|zA 1 u<|wB 1 u u u<|fun x1 b2 o1=>zL 1 u<|wA false oI (gs (gk 0)) u<|zA 2 u<|zC<|zJ u (qN<|zA 1 u<|zL 1 u<|
  zS 0 u u u<|zA 1 u<|wB 2 u u u<|fun x2 b3 o2=>zL 0 u<|wA false oI (gf (gk 0)) u<|wT .s (e := zU .i64) 3 [vi x2.1] ([x2.1] : List Int) (rC vI rN)<|fun p4 c4=>wE .s 1 3 u (gk 0) u u<|fun x3 r_2 p5 c5=>
  zA 1 u<|zQ<|qE<|zP<|jB 3 u<|qJ (gv (fun _ k=>k p5 c5 r_2) [0,1] (gq [0,5])))<|wK<|qE<|zP<|jB 3 u<|qJ (gv (fun _ k=>k p3 c3 r_1) [0,1] (gq [1,2])))<|qT<|qQ<|qY<|qW<|zP<|jA 2 u<|zK<|wX 1 0 u u<|
  zR u u (fun _ k=>k p3 c3) [] (gq [0])
theorem zST {qd : Prop} {y0 : wY} : qG qd prog 70 [.agg #[vi y0.1, sv p1 y0.2 c1]] [] [Rl yH p1 c1 y0.2] (zIg y0) fun r K=>∀ p2 c2 p3 c3,K (.tuple #[sv p2 r.1 c2, sv p3 r.2 c3]) [] [Rl (zU .i64) p2 c2 r.1, Rl (zU .i64) p3 c3 r.2] :=
 qD call70 func70 u fun X=>zB<|wC .s u<|fun b1=>zA 2 u<|zC<|zB<|zA 1 u<|vV (zU .i64) 3<|zA 1 u<|vV (zU .i64) 3<|zC<|
  wL (fun s1 K=>∀ p2 c2 r_1 p3 c3 r_2,K [1] [(1, r_1), (2, r_2)] [2] [(4, sv p2 s1.1 c2), (5, sv p3 s1.2 c3)] [Al (zU .i64) 3 r_1 p2 c2 s1.1, Al (zU .i64) 3 r_2 p3 c3 s1.2]) (jA 1 u<|zV<|
  qZ (fun s2 K=>∀ p4 c4 r_3 p5 c5 r_4,K [1] [(1, r_3), (2, r_4)] [2] [(4, sv p4 s2.1 c4), (5, sv p5 s2.2.1 c5), (6, vi s2.2.2)] [Al (zU .i64) 3 r_3 p4 c4 s2.1, Al (zU .i64) 3 r_4 p5 c5 s2.2.1]) (gv (fun _ k=>k none 0 [] none 0 []) [0,1,2] (gq [1,0,2]))<|
  fun s2 _ k p4 c4 r_3 p5 c5 r_4=>k<|zG<|zB<|zA 1 u<|zL 0 u<|zS 0 u u u<|zA 1 u<|zC<|zJ u (jC<|zG<|zV<|qN<|zA 1 u<|wT .s (e := zU .i64) 3 [vi 3] ([3] : List Int) (rC vI rN)<|fun p6 c6=>
  wE .s 1 1 u (gk 0) u u<|fun x1 r_5 p7 c7=>zA 1 u<|wT .s (e := zU .i64) 3 [vi 0] ([0] : List Int) (rC vI rN)<|fun p8 c8=>wE .s 2 4 u (gk 0) u u<|fun x2 r_6 p9 c9=>zA 2 u<|zQ<|qE<|zP<|jB 3 u<|
  qJ (gv (fun _ k=>k p7 c7 r_5 p9 c9 r_6) [0,1,2] (gq [2,0,6])))<|qT<|qQ<|qY<|qW<|zH (gv (fun _ k=>k p4 c4 r_3 p5 c5 r_4) [0,1,2] (gq [0,1,2])))<|fun s1 _ k p2 c2 r_1 p3 c3 r_2=>k<|jA 1 u<|zV<|
  qZ (fun s3 K=>∀ r_7 r_8,K [1] [(1, r_7), (2, r_8)] [2] [(4, .slice p2 (List.length s1.1) c2), (5, .slice p3 (List.length s1.2) c3), (7, vi s3.2.2)] [Ar (zU .i64) 3 r_7 p2 c2 (List.length s1.1) s3.1, Ar (zU .i64) 3 r_8 p3 c3 (List.length s1.2) s3.2.1]) (gv (fun _ k=>k r_1 r_2) [0,1,2] (gq [0,1,2]))<|
  fun s3 _ k r_7 r_8=>k<|zG<|zV<|jA 1 u<|zB<|yP .s (e := zU .i64) 3 [] ([] : List Int) rN<|fun r_9 p10 c10=>zA 1 u<|jao .s 3 1 0 1 u u u u<|fun x3 r_10 p11 c11=>zA 1 u<|zC<|
  wL (fun s4 K=>∀ r_11 r_12,K [1,4,5,7] [(1, r_11), (2, r_12), (3, [])] [4] [(8, vb s4.2.2)] [Ar (zU .i64) 3 r_11 p2 c2 (List.length s1.1) s4.1, Ar (zU .i64) 3 r_12 p3 c3 (List.length s1.2) s4.2.1]) (jA 1 u<|zV<|
  qZ (fun s5 K=>∀ r_13 r_14,K [1,4,5,7,9] [(1, r_13), (2, r_14)] [0,4] [(8, vb s5.2.2.1), (10, vi s5.2.2.2)] [Ar (zU .i64) 3 r_13 p2 c2 (List.length s1.1) s5.1, Ar (zU .i64) 3 r_14 p3 c3 (List.length s1.2) s5.2.1]) (gv (fun _ k=>k r_7 r_8) [0,1,2,3] (gq [2,3,0,4]))<|
  fun s5 _ k r_13 r_14=>k<|zG<|zB<|zA 1 u<|zL 0 u<|zS 0 u u u<|zA 1 u<|zC<|zJ u (jC<|zG<|zV<|zB<|zA 2 u<|uZ 2 u u u<|fun x4 h4 b2 hp1=>jlA 3 2 sI false oI u hp1 h4 u<|zA 2 u<|zC<|
  wL (fun s6 K=>K [1,4,5,7,8,9,10] [] [0,1,2,3] [(11, vb s6)] []) (zB<|qV 0 2 u u u<|zA 1 u<|qL zK8 u (cq [3])<|fun r1 _ k p12 c12=>k<|zA 2 u<|zC<|zV<|
  qZ (fun s7 K=>K [1,4,5,7,8,9,10,47,48] [] [1,2,3,0,4] [(11, vb s7.1), (49, vi s7.2)] []) (gv (fun _ k=>k) [0,1,2,3] (gq [1,2,3,0,4]))<|fun s7 _ k=>k<|jA 1 u<|zG<|zJ u (jC<|zG<|zV<|zB<|wB 3 u u u<|fun x5 b3 o1=>
  wA false oI (gk 0) u<|zA 1 u<|zC<|jjcK (fun s8 K=>K [1,4,5,7,8,9,10,47,48,49] [] [1,2,3,4,5] [(11, vb s8)] []) (qN<|zA 2 u<|wF 54 u (zA 2 u<|uZ 3 u u u<|fun x6 h5 b4 hp2=>jlA 3 3 sI false oI u hp2 h5 u<|
  zA 1 u<|zD (vb (x6 == 2))<|zA 1 u<|zQ<|zH (gv (fun _ k=>k) [0,1,2,3] (gq [1,2,3,4,5])))<|zA 5 u<|zD (vb false)<|zA 1 u<|zQ<|zH (gv (fun _ k=>k) [0,1,2,3] (gq [1,2,3,4,5])))<|fun s8 _ k=>k<|qE<|zP<|jB 2 u<|
  qJ (gv (fun _ k=>k) [0,1,2,3] (gq [0,1,2,3,4])))<|qT<|qQ<|qY<|qW<|zH (gv (fun _ k=>k) [0,1,2,3] (gq [0,1,2,4])))<|fun s6 _ k=>k<|jA 1 u<|zJ u (qN<|zA 5 u<|uZ 0 u u u<|fun x7 h6 b5 hp3=>
  xK .s 1 0 sI 1 false u hp3 h6 u u vI<|fun r_15=>uZ 2 u u u<|fun x8 h7 b6 hp4=>xK .s 2 2 sI s3.2.2 false u hp4 h7 u u vI<|fun r_16=>zA 1 u<|zQ<|qE<|zP<|jB 3 u<|
  qJ (gv (fun _ k=>k r_15 r_16) [0,1,2,3] (gq [1,0,4,5])))<|wK<|qE<|zP<|jB 3 u<|qJ (gv (fun _ k=>k r_13 r_14) [0,1,2,3] (gq [0,1,2,3])))<|qT<|qQ<|qY<|qW<|zH (gv (fun _ k=>k r_13 r_14) [0,1,2,903] (gq [0,1,3])))<|
  fun s4 _ k r_11 r_12=>k<|wL (fun s9 K=>∀ r_17 r_18,K [1,4,5,7,8] [(1, r_17), (2, r_18)] [2] [] [Ar (zU .i64) 3 r_17 p2 c2 (List.length s1.1) s9.1, Ar (zU .i64) 3 r_18 p3 c3 (List.length s1.2) s9.2]) (jA 1 u<|zV<|
  qZ (fun s10 K=>∀ r_19 r_20,K [1,4,5,7,8] [(1, r_19), (2, r_20)] [2] [(14, vi s10.2.2)] [Ar (zU .i64) 3 r_19 p2 c2 (List.length s1.1) s10.1, Ar (zU .i64) 3 r_20 p3 c3 (List.length s1.2) s10.2.1]) (gv (fun _ k=>k r_11 r_12) [0,1,2,903] (gq [0,1,2]))<|
  fun s10 _ k r_19 r_20=>k<|zG<|zB<|zA 1 u<|zL 0 u<|zS 0 u u u<|zA 1 u<|zC<|zJ u (jC<|zG<|zV<|zB<|qV 0 2 u u u<|zA 1 u<|qL zK8 u (cq [2])<|fun r2 _ k p13 c13=>k<|zA 2 u<|zC<|zV<|
  qZ (fun s11 K=>∀ r_21 r_22,K [1,4,5,7,8,14,78,79] [(1, r_21), (2, r_22)] [0,3] [(80, vi s11.2.2)] [Ar (zU .i64) 3 r_21 p2 c2 (List.length s1.1) s11.1, Ar (zU .i64) 3 r_22 p3 c3 (List.length s1.2) s11.2.1]) (gv (fun _ k=>k r_19 r_20) [0,1,2,903] (gq [1,2,0,3]))<|
  fun s11 _ k r_21 r_22=>k<|jA 1 u<|zG<|zJ u (jC<|zG<|zV<|zB<|wB 2 u u u<|fun x9 b7 o2=>wA false oI (gk 0) u<|zA 1 u<|zC<|wL (fun s12 K=>K [1,4,5,7,8,14,78,79,80] [] [1,2,3,4] [(103, vb s12)] []) (qN<|zA 2 u<|
  uZ 1 u u u<|fun x10 h8 b8 hp5=>jlA 1 1 sI false oI u hp5 h8 u<|zA 2 u<|wF 89 u (zA 2 u<|uZ 1 u u u<|fun x11 h9 b9 hp6=>jlA 1 1 sI false oI u hp6 h9 u<|zA 1 u<|zD (vb (x11 == 1))<|zA 1 u<|wF 96 u (
  zA 2 u<|uZ 2 u u u<|fun x12 h10 b10 hp7=>jlA 2 2 sI false oI u hp7 h10 u<|zA 2 u<|zD (vb (x12 == s3.2.2))<|zQ<|zH (gv (fun _ k=>k) [0,1,2,903] (gq [1,2,3,4])))<|zA 6 u<|zD (vb false)<|zQ<|
  zH (gv (fun _ k=>k) [0,1,2,903] (gq [1,2,3,4])))<|zA 5 u<|zD (vb false)<|zA 7 u<|zD (vb false)<|zQ<|zH (gv (fun _ k=>k) [0,1,2,903] (gq [1,2,3,4])))<|fun s12 _ k=>k<|zJ u (qN<|zA 5 u<|uZ 0 u u u<|
  fun x13 h11 b11 hp8=>xK .s 1 0 sI 2 false u hp8 h11 u u vI<|fun r_23=>uZ 2 u u u<|fun x14 h12 b12 hp9=>xK .s 2 2 sI s3.2.2 false u hp9 h12 u u vI<|fun r_24=>zQ<|qE<|zP<|jB 2 u<|
  qJ (gv (fun _ k=>k r_23 r_24) [0,1,2,903] (gq [1,0,4,5])))<|wK<|qE<|zP<|jB 2 u<|qJ (gv (fun _ k=>k r_21 r_22) [0,1,2,903] (gq [0,1,2,3])))<|qT<|qQ<|qY<|qW<|qE<|zP<|jB 3 u<|
  qJ (gv (fun _ k=>k r_21 r_22) [0,1,2,903] (gq [0,1,3])))<|qT<|qQ<|qY<|qW<|zH (gv (fun _ k=>k r_19 r_20) [0,1,2,903] (gq [0,1,2])))<|fun s9 _ k r_17 r_18=>k<|jA 2 u<|zJ u (jA 4 u<|zK<|qO<|qA<|wU<|qO<|wX 1 0 u u<|
  wX 2 2 u u<|jre 1 2 u u<|jre 1 3 u u<|wW u (lT u (lT u lN)) (fun _ k=>k p2 c2 p3 c3) [] (gq [1,0]))<|wK<|qE<|zP<|jB 3 u<|qJ (gv (fun _ k=>k r_17 r_18) [0,1,2] (gq [0,1,2]))
theorem zSD {qd : Prop} {y0 : wY} : qG qd prog 33 [.agg #[vi y0.1, sv p1 y0.2 c1]] [] [Rl yH p1 c1 y0.2] (zIj y0) fun r K=>∀ p2 c2,K (sv p2 r c2) [] [Rl (zU .i64) p2 c2 r] :=
 qD call33 func33 u fun X=>zB<|wC .s u<|fun b1=>zA 1 u<|zC<|zB<|qV 0 2 u u u<|qL zST u (cq [0])<|fun r1 _ k p2 c2 p3 c3=>k<|zA 5 u<|zC<|jA 2 u<|zK<|zR u u (fun _ k=>k p2 c2) [] (gq [0])
theorem zQo {qd : Prop} {y0 : zM} {y1 : vN} : qG qd prog 10 [.agg #[sv p1 y0.1 c1, sv p2 y0.2.1 c2, sv p3 y0.2.2 c3], .agg #[vi y1.1, vi y1.2]] [] [Rl wO p1 c1 y0.1, Rl qP p2 c2 y0.2.1, Rl wJ p3 c3 y0.2.2] (zFb y0 y1) fun r K=>∀ p4 c4 p5 c5 p6 c6 p7 c7 p8 c8 p9 c9,K (.tuple #[.agg #[sv p4 r.1.1.1 c4, sv p5 r.1.1.2.1 c5, sv p6 r.1.1.2.2 c6, sv p7 r.1.2.1 c7, sv p8 r.1.2.2.1 c8, vi r.1.2.2.2.1, sv p9 r.1.2.2.2.2 c9], vi r.2]) [] [Rl wO p4 c4 r.1.1.1, Rl qP p5 c5 r.1.1.2.1, Rl wJ p6 c6 r.1.1.2.2, Rl wS p7 c7 r.1.2.1, Rl yX p8 c8 r.1.2.2.1, Rl yH p9 c9 r.1.2.2.2.2] :=
 qD call10 func10 u fun X=>zB<|wC .s u<|fun b1=>wC .s u<|fun b2=>wM .s (.agg #[.slice none 0 0, .slice none 0 0, .slice none 0 0, .slice none 0 0, .slice none 0 0, vi 0, .slice none 0 0])<|fun b3=>zA 1 u<|zC<|zB<|qV 0 3 u u u<|
  qL zRn u (cq [0,1,2])<|fun r1 _ k p4 c4=>k<|zA 5 u<|zC<|zG<|jA 2 u<|zJ u (zB<|zD (.agg #[.slice none 0 0, .slice none 0 0, .slice none 0 0, .slice none 0 0, .slice none 0 0, vi 0, .slice none 0 0])<|zA 1 u<|
  qI .s 2 u u u<|zA 1 u<|zC<|zK<|qA<|
  wW u (lC 2 (.agg #[.slice none 0 0, .slice none 0 0, .slice none 0 0, .slice none 0 0, .slice none 0 0, vi 0, .slice none 0 0]) u u (lT u lN)) (fun _ k=>k none 0 none 0 none 0 none 0 none 0 none 0) [] ⟨gn,gn,gn,gn,gn,gn,⟨⟩⟩)<|jC<|
  zG<|uN (fun K=>K [2,3,4,6] [] [0,1,2,3] [(38, vb (if y1.1 != 1 then (y1.1 != 2) || ((y1.2 != 1) && (y1.2 != 2)) else (y1.2 != 1) && (y1.2 != 2)))] []) (qN<|zL 0 u<|zS 1 u u u<|zA 2 u<|vR (b := y1.1 != 1) 24 u (fun hb1=>
  zL 0 u<|zS 1 u u u<|zA 1 u<|zD (vb (y1.1 != 2))<|zA 1 u<|vR (b := y1.1 != 2) 29 u (fun hb2=>zA 8 u<|zD (vb true)<|zQ<|
  wR 38 (vb (if y1.1 != 1 then (y1.1 != 2) || ((y1.2 != 1) && (y1.2 != 2)) else (y1.2 != 1) && (y1.2 != 2))) u (by rw [hb1,hb2]; rfl)<|zH (gv (fun _ k=>k) [0,1,2] (gq [0,1,2,3])))<|fun hb2=>zL 1 u<|zS 1 u u u<|zA 2 u<|
  vR (b := y1.2 != 1) 33 u (fun hb3=>zL 1 u<|zS 1 u u u<|zA 1 u<|zD (vb (y1.2 != 2))<|zD (vb (y1.2 != 2))<|zQ<|
  wR 38 (vb (if y1.1 != 1 then (y1.1 != 2) || ((y1.2 != 1) && (y1.2 != 2)) else (y1.2 != 1) && (y1.2 != 2))) u (by rw [hb1,hb2,hb3]; rfl)<|zH (gv (fun _ k=>k) [0,1,2] (gq [0,1,2,3])))<|fun hb3=>zA 3 u<|zD (vb false)<|zD (vb false)<|
  zQ<|wR 38 (vb (if y1.1 != 1 then (y1.1 != 2) || ((y1.2 != 1) && (y1.2 != 2)) else (y1.2 != 1) && (y1.2 != 2))) u (by rw [hb1,hb2,hb3]; rfl)<|zH (gv (fun _ k=>k) [0,1,2] (gq [0,1,2,3])))<|fun hb1=>zA 3 u<|zD (vb false)<|zA 1 u<|
  zL 1 u<|zS 1 u u u<|zA 2 u<|vR (b := y1.2 != 1) 33 u (fun hb4=>zL 1 u<|zS 1 u u u<|zA 1 u<|zD (vb (y1.2 != 2))<|zD (vb (y1.2 != 2))<|zQ<|
  wR 38 (vb (if y1.1 != 1 then (y1.1 != 2) || ((y1.2 != 1) && (y1.2 != 2)) else (y1.2 != 1) && (y1.2 != 2))) u (by rw [hb1,hb4]; rfl)<|zH (gv (fun _ k=>k) [0,1,2] (gq [0,1,2,3])))<|fun hb4=>zA 3 u<|zD (vb false)<|zD (vb false)<|zQ<|
  wR 38 (vb (if y1.1 != 1 then (y1.1 != 2) || ((y1.2 != 1) && (y1.2 != 2)) else (y1.2 != 1) && (y1.2 != 2))) u (by rw [hb1,hb4]; rfl)<|zH (gv (fun _ k=>k) [0,1,2] (gq [0,1,2,3])))<|fun _ k=>k<|zJ u (zB<|
  zD (.agg #[.slice none 0 0, .slice none 0 0, .slice none 0 0, .slice none 0 0, .slice none 0 0, vi 0, .slice none 0 0])<|qI .s 2 u u u<|zA 1 u<|zC<|zK<|qA<|
  wW u (lC 2 (.agg #[.slice none 0 0, .slice none 0 0, .slice none 0 0, .slice none 0 0, .slice none 0 0, vi 0, .slice none 0 0]) u u (lT u lN)) (fun _ k=>k none 0 none 0 none 0 none 0 none 0 none 0) [] ⟨gn,gn,gn,gn,gn,gn,⟨⟩⟩)<|jC<|
  zB<|zA 2 u<|qV 0 3 u u u<|zA 1 u<|qV 1 2 u u u<|qL zLt u (cq [1,2,3,0])<|fun r2 _ k p5 c5=>k<|qL zNf u (cq [0])<|fun r3 _ k p6 c6=>k<|zA 3 u<|wM .s (.agg #[vi 0, .slice none 0 0])<|
  fun b4=>qI .s 3 u u u<|zA 1 u<|zC<|zB<|zA 1 u<|qV 3 2 u u u<|qL zSD u (cq [0])<|fun r4 _ k p7 c7=>k<|qL zSx u (cq [0])<|fun r5 _ k p8 c8=>k<|qL zNH u (cq [4,0])<|
  fun r6 _ k p9 c9=>k<|zA 1 u<|zC<|zB<|qV 0 3 u u u<|zA 1 u<|qL zQC u (cq [6,7,8,0])<|fun r7 _ k p10 c10 p11 c11 p12 c12=>k<|zA 1 u<|
  zD (.agg #[sv p10 r7.1 c10, sv p11 r7.2.1 c11, sv p12 r7.2.2 c12, sv p4 r1.1 c4, .slice none 0 0, vi 0, .slice none 0 0])<|
  wM .s (.agg #[.slice none 0 0, .slice none 0 0, .slice none 0 0, .slice none 0 0, .slice none 0 0, vi 0, .slice none 0 0])<|fun b5=>qI .s 4 u u u<|zC<|zB<|zL 0 u<|qV 4 3 u u u<|zA 1 u<|qV 1 2 u u u<|
  qL zLt u (cq [0,1,2,8])<|fun r8 _ k p13 c13=>k<|zL 4 u<|qI .s 4 u u u<|zC<|zB<|zA 2 u<|zL 4 u<|zS 4 u u u<|qL zNf u (cq [0])<|fun r9 _ k p14 c14=>k<|zA 3 u<|zL 5 u<|
  qI .s 4 u u u<|zC<|zB<|qV 4 7 u u u<|qI .s 2 u u u<|zA 1 u<|zC<|zK<|
  wW u (lC 2 (.agg #[sv p10 r7.1 c10, sv p11 r7.2.1 c11, sv p12 r7.2.2 c12, sv p4 r1.1 c4, sv p13 r8 c13, vi r9.1.1, sv p14 r9.1.2 c14]) u u (lT u lN)) (fun _ k=>k p10 c10 p11 c11 p12 c12 p4 c4 p13 c13 p14 c14) [] (gq [2,3,4,10,1,0])
theorem zTc {qd : Prop} {y0 : List zN} {y1 : List zN} : qG qd prog 73 [sv p1 y0 c1, sv p2 y1 c2] [] [Rl wN p1 c1 y0, Rl wN p2 c2 y1] (zJz y0 y1) fun r K=>K (vb r) [] [] :=
 qD call73 func73 u fun X=>jA 1 u<|zG<|jA 5 u<|zJ u (jA 1 u<|zK<|qA<|zR u u (fun _ k=>k) [] ⟨⟩)<|jC<|zG<|jA 1 u<|zV<|qZ (fun s1 K=>K [0,1] [] [0,1] [(5, vi s1)] []) (gv (fun _ k=>k) [] (gq [0,1]))<|fun s1 _ k=>k<|zG<|jA 4 u<|zJ u (jC<|
  zG<|zV<|yE [] [] 9<|zT 7 [0,1] u<|vE 2 0 u u u u<|fun x1 b1 o1=>vD 3 true yK u (gk 0) u<|zT 3 [4,5] u<|vE 6 2 u u u u<|fun x2 b2 o2=>vD 7 true yK u (gk 0) u<|wD 8 (vb (!(x1 == x2))) u<|
  qM<|zP<|zJ u (jA 1 u<|zK<|qO<|qA<|wU<|qO<|qA<|zR u u (fun _ k=>k) [] ⟨⟩)<|wK<|qE<|zP<|jB 3 u<|qJ (gv (fun _ k=>k) [] (gq [2,3])))<|qT<|qQ<|qY<|qW<|zP<|jA 1 u<|zK<|zR u u (fun _ k=>k) [] ⟨⟩
theorem zS4 {qd : Prop} {y0 : zM} {y1 : zM} : qG qd prog 35 [.agg #[sv p1 y0.1 c1, sv p2 y0.2.1 c2, sv p3 y0.2.2 c3], .agg #[sv p4 y1.1 c4, sv p5 y1.2.1 c5, sv p6 y1.2.2 c6]] [] [Rl wO p1 c1 y0.1, Rl qP p2 c2 y0.2.1, Rl wJ p3 c3 y0.2.2, Rl wO p4 c4 y1.1, Rl qP p5 c5 y1.2.1, Rl wJ p6 c6 y1.2.2] (zJm y0 y1) fun r K=>K (vb r) [] [] :=
 qD call35 func35 u fun X=>zB<|wC .s u<|fun b1=>wC .s u<|fun b2=>zA 1 u<|zC<|zG<|uN (fun K=>K [2,3] [] [0,1,2,3,4,5] [(34, vb (((len y0.1) != (len y1.1)) || (((len y0.2.1) != (len y1.2.1)) || ((len y0.2.2) != (len y1.2.2)))))] []) (qN<|zL 0 u<|
  zS 0 u u u<|zA 1 u<|zL 0 u<|zS 1 u u u<|zA 3 u<|vR (b := (len y0.1) != (len y1.1)) 17 u (fun hb1=>zA 7 u<|zD (vb true)<|zA 8 u<|zD (vb true)<|zQ<|
  wR 34 (vb (((len y0.1) != (len y1.1)) || (((len y0.2.1) != (len y1.2.1)) || ((len y0.2.2) != (len y1.2.2))))) u (by rw [hb1]; rfl)<|zH (gv (fun _ k=>k) [0,1] (gq [0,1,2,3,4,5])))<|fun hb1=>zL 1 u<|zS 0 u u u<|zA 1 u<|
  zL 1 u<|zS 1 u u u<|zA 2 u<|zD (vb ((len y0.2.1) != (len y1.2.1)))<|zA 1 u<|vR (b := (len y0.2.1) != (len y1.2.1)) 26 u (fun hb2=>zA 7 u<|zD (vb true)<|zQ<|
  wR 34 (vb (((len y0.1) != (len y1.1)) || (((len y0.2.1) != (len y1.2.1)) || ((len y0.2.2) != (len y1.2.2))))) u (by rw [hb1,hb2]; rfl)<|zH (gv (fun _ k=>k) [0,1] (gq [0,1,2,3,4,5])))<|fun hb2=>zL 2 u<|zS 0 u u u<|zA 1 u<|
  zL 2 u<|zS 1 u u u<|zA 2 u<|zD (vb ((len y0.2.2) != (len y1.2.2)))<|zQ<|wR 34 (vb (((len y0.1) != (len y1.1)) || (((len y0.2.1) != (len y1.2.1)) || ((len y0.2.2) != (len y1.2.2))))) u (by rw [hb1,hb2]; rfl)<|
  zH (gv (fun _ k=>k) [0,1] (gq [0,1,2,3,4,5])))<|fun _ k=>k<|zJ u (jA 1 u<|zK<|qA<|zR u u (fun _ k=>k) [] ⟨⟩)<|jC<|zTu (fun s1 K=>K [2,3] [] [0,1,2,3,4,5] [] []) (jA 1 u<|zV<|
  qZ (fun s2 K=>K [2,3] [] [0,1,2,3,4,5] [(5, vi s2)] []) (gv (fun _ k=>k) [0,1] (gq [0,1,2,3,4,5]))<|fun s2 _ k=>k<|zG<|zB<|zA 1 u<|zL 0 u<|zS 0 u u u<|zA 2 u<|zC<|zJ u (jC<|zG<|zV<|yE [] [0, 1] 11<|
  qH 0 0 u u<|qS 1 0 u u u u<|zT 8 [2] u<|vE 3 0 u u u u<|fun x1 b3 o1=>vD 4 true zHM u (gk 0) u<|qH 5 0 u u<|qS 6 1 u u u u<|zT 3 [7] u<|vE 8 4 u u u u<|fun x2 b4 o2=>
  vD 9 true zHM u (gk 0) u<|wD 10 (vb (!(x1 == x2))) u<|qM<|zP<|zJ u (jA 1 u<|zK<|qO<|qA<|wU<|qO<|wU<|zR u u (fun _ k=>k) [] ⟨⟩)<|wK<|qE<|zP<|jB 3 u<|qJ (gv (fun _ k=>k) [0,1] (gq [2,3,4,5,6,7])))<|qT<|
  qQ<|qY<|qW<|qJ (gv (fun _ k=>k) [0,1] (gq [0,1,2,3,4,5])))<|fun s1 _ k=>k<|zTu (fun s3 K=>K [2,3] [] [0,1,2,3,4,5] [] []) (jA 1 u<|zV<|
  qZ (fun s4 K=>K [2,3] [] [0,1,2,3,4,5] [(6, vi s4)] []) (gv (fun _ k=>k) [0,1] (gq [0,1,2,3,4,5]))<|fun s4 _ k=>k<|zG<|zB<|zA 1 u<|zL 1 u<|zS 0 u u u<|zA 2 u<|zC<|zJ u (jC<|zG<|zV<|
  wL (fun s5 K=>∀ b5 b6 p7 c7 p8 c8,K [2,3,6] [(2, bx b5 57 [vs s5.1.1, vb s5.1.2.1, vi s5.1.2.2.1, sv p7 s5.1.2.2.2.1 c7, vb s5.1.2.2.2.2.1, vs s5.1.2.2.2.2.2]), (3, bx b6 57 [vs s5.2.1, vb s5.2.2.1, vi s5.2.2.2.1, sv p8 s5.2.2.2.2.1 c8, vb s5.2.2.2.2.2.1, vs s5.2.2.2.2.2.2])] [0,1,2,3,4,5] [(7, pt b5 0), (8, pt b6 0)] [Rl wN p7 c7 s5.1.2.2.2.1, Rl wN p8 c8 s5.2.2.2.2.1]) (
  yI [] [0, 1] 14<|qH 0 1 u u<|qS 1 0 u u u u<|zT 11 [2] u<|vE 3 1 u u u u<|fun x3 b7 o3=>vD 4 true zJK u (gk 0) u<|fun p9 c9=>qH 5 1 u u<|qS 6 1 u u u u<|zT 6 [7] u<|
  vE 8 6 u u u u<|fun x4 b8 o4=>vD 9 true zJK u (gk 0) u<|fun p10 c10=>uR 10 11 (wM (.f u) (.agg #[vs [], vb false, vi 0, .slice none 0 0, vb false, vs []])<|fun b9=>zO<|zX 11<|
  wM (.f u) (.agg #[vs [], vb false, vi 0, .slice none 0 0, vb false, vs []])<|fun b10=>zO<|zX 12<|qI (o := 0) (.f u) 2 u u u<|zO<|zX 13<|qI (o := 0) (.f u) 3 u u u<|zO<|qM<|
  zH (gv (fun _ k=>k b9 b10 p9 c9 p10 c10) [0,1,2,3] (gq [2,0,4,5,6,7,8,9]))) <|wM (.f u) (.agg #[vs [], vb false, vi 0, .slice none 0 0, vb false, vs []])<|fun b11=>zO<|zX 10<|
  wM (.f u) (.agg #[vs [], vb false, vi 0, .slice none 0 0, vb false, vs []])<|fun b12=>zO<|zX 12<|qI (o := 0) (.f u) 3 u u u<|zO<|zX 13<|qI (o := 0) (.f u) 2 u u u<|zO<|qM<|
  zH (gv (fun _ k=>k b12 b11 p9 c9 p10 c10) [0,1,3,2] (gq [2,0,4,5,6,7,8,9])))<|fun s5 _ k b5 b6 p7 c7 p8 c8=>k<|wL (fun s6 K=>K [2,3,6] [(2, []), (3, [])] [2,3,4,5,6,7] [(103, vb s6)] []) (qN<|zL 0 u<|zS 2 u u u<|zL 0 u<|
  zS 3 u u u<|zA 2 u<|wF 75 u (zA 5 u<|zD (vb true)<|zA 6 u<|zD (vb true)<|zA 6 u<|zD (vb true)<|zA 7 u<|zD (vb true)<|zQ<|zH (gv (fun _ k=>k) [0,1,902,903] (gq [2,3,4,5,6,7])))<|zL 1 u<|zS 2 u u u<|
  zL 1 u<|zS 3 u u u<|zD (vb (!(s5.1.2.1 == s5.2.2.1)))<|zD (vb (!(s5.1.2.1 == s5.2.2.1)))<|zA 1 u<|wF 82 u (zA 5 u<|zD (vb true)<|zA 6 u<|zD (vb true)<|zA 7 u<|zD (vb true)<|zQ<|
  zH (gv (fun _ k=>k) [0,1,902,903] (gq [2,3,4,5,6,7])))<|zL 2 u<|zS 2 u u u<|zL 2 u<|zS 3 u u u<|zA 1 u<|zD (vb (s5.1.2.2.1 != s5.2.2.2.1))<|zA 1 u<|wF 89 u (zA 5 u<|zD (vb true)<|zA 7 u<|zD (vb true)<|
  zQ<|zH (gv (fun _ k=>k) [0,1,902,903] (gq [2,3,4,5,6,7])))<|zL 4 u<|qV 2 2 u u u<|zL 4 u<|qV 3 2 u u u<|zD (vb (!(s5.1.2.2.2.2 == s5.2.2.2.2.2)))<|zD (vb (!(s5.1.2.2.2.2 == s5.2.2.2.2.2)))<|zA 1 u<|wF 96 u (
  zA 6 u<|zD (vb true)<|zQ<|zH (gv (fun _ k=>k) [0,1,902,903] (gq [2,3,4,5,6,7])))<|zL 3 u<|zS 2 u u u<|zL 3 u<|zS 3 u u u<|qL zTc u (cq [0,1])<|fun r1 _ k=>k<|zA 1 u<|zD (vb (!r1))<|zQ<|
  zH (gv (fun _ k=>k) [0,1,902,903] (gq [2,3,4,5,6,7])))<|fun s6 _ k=>k<|zJ u (jA 1 u<|zK<|qO<|qA<|wU<|qO<|wU<|zR u u (fun _ k=>k) [] ⟨⟩)<|wK<|qE<|zP<|jB 3 u<|qJ (gv (fun _ k=>k) [0,1] (gq [0,1,2,3,4,5])))<|qT<|qQ<|
  qY<|qW<|qJ (gv (fun _ k=>k) [0,1] (gq [0,1,2,3,4,5])))<|fun s3 _ k=>k<|zG<|jA 1 u<|zV<|qZ (fun s7 K=>K [2,3] [] [0,1,2,3,4,5] [(9, vi s7)] []) (gv (fun _ k=>k) [0,1] (gq [0,1,2,3,4,5]))<|fun s7 _ k=>k<|zG<|zB<|zA 1 u<|
  zL 2 u<|zS 0 u u u<|zA 2 u<|zC<|zJ u (jC<|zG<|zV<|yE [] [0, 1] 11<|qH 0 2 u u<|qS 1 0 u u u u<|zT 8 [2] u<|vE 3 2 u u u u<|fun x5 b13 o5=>vD 4 true zGe u (gk 0) u<|qH 5 2 u u<|
  qS 6 1 u u u u<|zT 3 [7] u<|vE 8 6 u u u u<|fun x6 b14 o6=>vD 9 true zGe u (gk 0) u<|wD 10 (vb (!(x5 == x6))) u<|qM<|zP<|zJ u (jA 1 u<|zK<|qO<|qA<|wU<|qO<|qA<|zR u u (fun _ k=>k) [] ⟨⟩
  )<|wK<|qE<|zP<|jB 3 u<|qJ (gv (fun _ k=>k) [0,1] (gq [2,3,4,5,6,7])))<|qT<|qQ<|qY<|qW<|zP<|jA 1 u<|zK<|zR u u (fun _ k=>k) [] ⟨⟩
theorem zSv {qd : Prop} {y0 : List Int} {y1 : List Int} : qG qd prog 74 [sv p1 y0 c1, sv p2 y1 c2] [] [Rl (zU .i64) p1 c1 y0, Rl (zU .i64) p2 c2 y1] (zJq y0 y1) fun r K=>K (vb r) [] [] :=
 qD call74 func74 u fun X=>jA 1 u<|zG<|jA 5 u<|zJ u (jA 1 u<|zK<|qA<|zR u u (fun _ k=>k) [] ⟨⟩)<|jC<|zG<|jA 1 u<|zV<|qZ (fun s1 K=>K [0,1] [] [0,1] [(5, vi s1)] []) (gv (fun _ k=>k) [] (gq [0,1]))<|fun s1 _ k=>k<|zG<|jA 4 u<|zJ u (jC<|
  zG<|zV<|yE [] [] 9<|zT 7 [0,1] u<|vE 2 0 u u u u<|fun x1 b1 o1=>vD 3 false oI u (gk 0) u<|zT 3 [4,5] u<|vE 6 2 u u u u<|fun x2 b2 o2=>vD 7 false oI u (gk 0) u<|zT 0 [8] u<|qM<|zP<|zJ u (
  jA 1 u<|zK<|qO<|qA<|wU<|qO<|qA<|zR u u (fun _ k=>k) [] ⟨⟩)<|wK<|qE<|zP<|jB 3 u<|qJ (gv (fun _ k=>k) [] (gq [2,3])))<|qT<|qQ<|qY<|qW<|zP<|jA 1 u<|zK<|zR u u (fun _ k=>k) [] ⟨⟩
theorem zTG {qd : Prop} {y0 : List zI} {y1 : List zI} : qG qd prog 36 [sv p1 y0 c1, sv p2 y1 c2] [] [Rl wS p1 c1 y0, Rl wS p2 c2 y1] (zJe y0 y1) fun r K=>K (vb r) [] [] :=
 qD call36 func36 u fun X=>jA 1 u<|zG<|jA 5 u<|zJ u (jA 1 u<|zK<|qA<|zR u u (fun _ k=>k) [] ⟨⟩)<|jC<|zG<|jA 1 u<|zV<|qZ (fun s1 K=>K [0,1] [] [0,1] [(5, vi s1)] []) (gv (fun _ k=>k) [] (gq [0,1]))<|fun s1 _ k=>k<|zG<|jA 4 u<|zJ u (jC<|
  zG<|zV<|wL (fun s2 K=>K [0,1,5] [] [0,1] [(67, vb s2)] []) (yI [] [] 51<|zT 49 [0,1] u<|vE 2 0 u u u u<|fun x1 b1 o1=>qH 3 0 u u<|vD 4 false oI u (gf (gk 0)) u<|zT 44 [5,6] u<|vE 7 2 u u u u<|
  fun x2 b2 o2=>qH 8 0 u u<|vD 9 false oI u (gf (gk 0)) u<|zT 39 [10,11] u<|wF 28 u (zT 28 [12,13,14,15,16,17,18,19,20,21,22] u<|wD 23 (vb true) u<|zT 15 [24,25,26,27,28,29,30,31,32,33,34,35] u<|wD 36 (vb true) u<|
  zT 1 [37,38,39,40,41,42,43,44,45,46,47,48,49] u<|wD 50 (vb true) u<|qM<|zH (gv (fun _ k=>k) [] (gq [2,3])))<|zT 37 [12,13] u<|vE 14 2 u u u u<|fun x3 b3 o3=>qH 15 1 u u<|vD 16 false oI u (gf (gs (gk 0))) u<|
  zT 32 [17,18] u<|vE 19 4 u u u u<|fun x4 b4 o4=>qH 20 1 u u<|vD 21 false oI u (gf (gs (gk 0))) u<|zT 28 [22] u<|wD 23 (vb (x3.2.1 != x4.2.1)) u<|zT 26 [24] u<|wF 41 u (
  zT 15 [25,26,27,28,29,30,31,32,33,34,35] u<|wD 36 (vb true) u<|zT 1 [37,38,39,40,41,42,43,44,45,46,47,48,49] u<|wD 50 (vb true) u<|qM<|zH (gv (fun _ k=>k) [] (gq [4,5])))<|zT 24 [25,26] u<|vE 27 4 u u u u<|
  fun x5 b5 o5=>qH 28 3 u u<|vD 29 true yK u (gs (gs (gs (gk 0)))) u<|zT 19 [30,31] u<|vE 32 6 u u u u<|fun x6 b6 o6=>qH 33 3 u u<|vD 34 true yK u (gs (gs (gs (gk 0)))) u<|
  wD 35 (vb (!(x5.2.2.2 == x6.2.2.2))) u<|wD 36 (vb (!(x5.2.2.2 == x6.2.2.2))) u<|zT 13 [37] u<|wF 54 u (zT 1 [38,39,40,41,42,43,44,45,46,47,48,49] u<|wD 50 (vb true) u<|qM<|zH (gv (fun _ k=>k) [] (gq [6,7])))<|
  zT 11 [38,39] u<|vE 40 6 u u u u<|fun x7 b7 o7=>qH 41 2 u u<|vD 42 false oL u (gf (gs (gs (gk 0)))) u<|fun p3 c3=>zT 6 [43,44] u<|vE 45 9 u u u u<|fun x8 b8 o8=>qH 46 2 u u<|
  vD 47 false oL u (gf (gs (gs (gk 0)))) u<|fun p4 c4=>zX 48<|qB (.f u) [] [] zSv u u u (cq [2,0])<|fun r1 _ k=>k<|zO<|zT 1 [49] u<|wD 50 (vb (!r1)) u<|qM<|zH (gv (fun _ k=>k) [] (gq [10,11])))<|fun s2 _ k=>
  k<|zJ u (jA 1 u<|zK<|qO<|qA<|wU<|qO<|qA<|zR u u (fun _ k=>k) [] ⟨⟩)<|wK<|qE<|zP<|jB 3 u<|qJ (gv (fun _ k=>k) [] (gq [0,1])))<|qT<|qQ<|qY<|qW<|zP<|jA 1 u<|zK<|zR u u (fun _ k=>k) [] ⟨⟩
theorem zSk {qd : Prop} {y0 : List qU} {y1 : List qU} : qG qd prog 37 [sv p1 y0 c1, sv p2 y1 c2] [] [Rl yX p1 c1 y0, Rl yX p2 c2 y1] (zJt y0 y1) fun r K=>K (vb r) [] [] :=
 qD call37 func37 u fun X=>jA 1 u<|zG<|jA 5 u<|zJ u (jA 1 u<|zK<|qA<|zR u u (fun _ k=>k) [] ⟨⟩)<|jC<|zG<|jA 1 u<|zV<|qZ (fun s1 K=>K [0,1] [] [0,1] [(5, vi s1)] []) (gv (fun _ k=>k) [] (gq [0,1]))<|fun s1 _ k=>k<|zG<|jA 4 u<|zJ u (jC<|
  zG<|zV<|yE [] [] 9<|zT 7 [0,1] u<|vE 2 0 u u u u<|fun x1 b1 o1=>vD 3 true zM2 u (gk 0) u<|zT 3 [4,5] u<|vE 6 2 u u u u<|fun x2 b2 o2=>vD 7 true zM2 u (gk 0) u<|wD 8 (vb (!(x1 == x2))) u<|
  qM<|zP<|zJ u (jA 1 u<|zK<|qO<|qA<|wU<|qO<|qA<|zR u u (fun _ k=>k) [] ⟨⟩)<|wK<|qE<|zP<|jB 3 u<|qJ (gv (fun _ k=>k) [] (gq [2,3])))<|qT<|qQ<|qY<|qW<|zP<|jA 1 u<|zK<|zR u u (fun _ k=>k) [] ⟨⟩
theorem zSl {qd : Prop} {y0 : wY} {y1 : wY} : qG qd prog 38 [.agg #[vi y0.1, sv p1 y0.2 c1], .agg #[vi y1.1, sv p2 y1.2 c2]] [] [Rl yH p1 c1 y0.2, Rl yH p2 c2 y1.2] (zJl y0 y1) fun r K=>K (vb r) [] [] :=
 qD call38 func38 u fun X=>zB<|wC .s u<|fun b1=>wC .s u<|fun b2=>zA 1 u<|zC<|zG<|uN (fun K=>K [2,3] [] [0,1] [(19, vb ((y0.1 != y1.1) || ((len y0.2) != (len y1.2))))] []) (qN<|zL 0 u<|zS 0 u u u<|zL 0 u<|zS 1 u u u<|zA 2 u<|
  vR (b := y0.1 != y1.1) 11 u (fun hb1=>zA 7 u<|zD (vb true)<|zQ<|wR 19 (vb ((y0.1 != y1.1) || ((len y0.2) != (len y1.2)))) u (by rw [hb1]; rfl)<|zH (gv (fun _ k=>k) [0,1] (gq [0,1])))<|fun hb1=>zL 1 u<|zS 0 u u u<|
  zA 1 u<|zL 1 u<|zS 1 u u u<|zA 2 u<|zD (vb ((len y0.2) != (len y1.2)))<|zQ<|wR 19 (vb ((y0.1 != y1.1) || ((len y0.2) != (len y1.2)))) u (by rw [hb1]; rfl)<|zH (gv (fun _ k=>k) [0,1] (gq [0,1])))<|fun _ k=>k<|zJ u (
  jA 1 u<|zK<|qA<|zR u u (fun _ k=>k) [] ⟨⟩)<|jC<|zG<|jA 1 u<|zV<|qZ (fun s1 K=>K [2,3] [] [0,1] [(5, vi s1)] []) (gv (fun _ k=>k) [0,1] (gq [0,1]))<|fun s1 _ k=>k<|zG<|zB<|zA 1 u<|zL 1 u<|zS 0 u u u<|zA 2 u<|
  zC<|zJ u (jC<|zG<|zV<|yE [] [0, 1] 11<|qH 0 1 u u<|qS 1 0 u u u u<|zT 8 [2] u<|vE 3 0 u u u u<|fun x1 b3 o1=>vD 4 true zL0 u (gk 0) u<|qH 5 1 u u<|qS 6 1 u u u u<|zT 3 [7] u<|
  vE 8 2 u u u u<|fun x2 b4 o2=>vD 9 true zL0 u (gk 0) u<|wD 10 (vb (!(x1 == x2))) u<|qM<|zP<|zJ u (jA 1 u<|zK<|qO<|qA<|wU<|qO<|qA<|zR u u (fun _ k=>k) [] ⟨⟩)<|wK<|qE<|zP<|jB 3 u<|
  qJ (gv (fun _ k=>k) [0,1] (gq [2,3])))<|qT<|qQ<|qY<|qW<|zP<|jA 1 u<|zK<|zR u u (fun _ k=>k) [] ⟨⟩
theorem zMl {qd : Prop} {y0 : zBa} {y1 : zBa} : qG qd prog 11 [.agg #[sv p1 y0.1.1 c1, sv p2 y0.1.2.1 c2, sv p3 y0.1.2.2 c3, sv p4 y0.2.1 c4, sv p5 y0.2.2.1 c5, vi y0.2.2.2.1, sv p6 y0.2.2.2.2 c6], .agg #[sv p7 y1.1.1 c7, sv p8 y1.1.2.1 c8, sv p9 y1.1.2.2 c9, sv p10 y1.2.1 c10, sv p11 y1.2.2.1 c11, vi y1.2.2.2.1, sv p12 y1.2.2.2.2 c12]] [] [Rl wO p1 c1 y0.1.1, Rl qP p2 c2 y0.1.2.1, Rl wJ p3 c3 y0.1.2.2, Rl wS p4 c4 y0.2.1, Rl yX p5 c5 y0.2.2.1, Rl yH p6 c6 y0.2.2.2.2, Rl wO p7 c7 y1.1.1, Rl qP p8 c8 y1.1.2.1, Rl wJ p9 c9 y1.1.2.2, Rl wS p10 c10 y1.2.1, Rl yX p11 c11 y1.2.2.1, Rl yH p12 c12 y1.2.2.2.2] (zBb y0 y1) fun r K=>K (vb r) [] [] :=
 qD call11 func11 u fun X=>zB<|wC .s u<|fun b1=>wC .s u<|fun b2=>zA 1 u<|zC<|jjn (fun s1 K=>K [(4, vb s1)] [[], []] []) (qN<|zL 0 u<|qV 0 3 u u u<|zL 0 u<|qV 1 3 u u u<|qL zS4 u (cq [0,1,2,6,7,8])<|fun r1 _ k=>k<|
  zA 1 u<|wF 10 u (zL 3 u<|zS 0 u u u<|zL 3 u<|zS 1 u u u<|qL zTG u (cq [3,9])<|fun r2 _ k=>k<|zD (vb r2)<|zA 1 u<|wF 17 u (zL 4 u<|zS 0 u u u<|zL 4 u<|zS 1 u u u<|
  qL zSk u (cq [4,10])<|fun r3 _ k=>k<|zD (vb r3)<|zA 1 u<|wF 24 u (zL 5 u<|qV 0 2 u u u<|zL 5 u<|qV 1 2 u u u<|qL zSl u (cq [5,11])<|fun r4 _ k=>k<|zD (vb r4)<|zA 1 u<|zQ<|
  zH (gv (fun _ k=>k) [900,901] ⟨⟩))<|zA 5 u<|zD (vb false)<|zA 1 u<|zQ<|zH (gv (fun _ k=>k) [900,901] ⟨⟩))<|zA 5 u<|zD (vb false)<|zA 6 u<|zD (vb false)<|zA 1 u<|zQ<|zH (gv (fun _ k=>k) [900,901] ⟨⟩))<|zA 5 u<|
  zD (vb false)<|zA 6 u<|zD (vb false)<|zA 6 u<|zD (vb false)<|zA 1 u<|zQ<|zH (gv (fun _ k=>k) [900,901] ⟨⟩))<|fun s1 _ k=>k<|zK<|zR u u (fun _ k=>k) [] ⟨⟩
theorem zMQ {y0 : zM} {y1 : vN} {y2 : List Int} : qG False prog 3 [.agg #[sv p1 y0.1 c1, sv p2 y0.2.1 c2, sv p3 y0.2.2 c3], .agg #[vi y1.1, vi y1.2], sv p4 y2 c4] [] [Rl wO p1 c1 y0.1, Rl qP p2 c2 y0.2.1, Rl wJ p3 c3 y0.2.2, Rl (zU .i64) p4 c4 y2, Tb prog "strings.asciiSpace" .u8 Lib.asciiSpaceTab, Pt (uT 4 vM) 1 0 zAY, Wt 2, Pt (uT 64 (zU .u8)) 3 0 tJ, Tb prog "internal/strconv.uint64pow10" .u64 Lib.pow10Tab] (zBz y0 y1 y2) fun r K=>K (vb r) [] [] :=
 qD call3 func3 u fun X=>zB<|wC .s u<|fun b1=>wC .s u<|fun b2=>zA 1 u<|zC<|zG<|wL (fun s1 K=>K [2,3,4] [] [3,0,1,2,4,5,6,7,8] [(31, vb s1)] []) (qN<|qV 0 3 u u u<|qL zPQ u (cq [0,1,2])<|fun r1 _ k=>k<|zA 2 u<|wF 20 u (
  zA 4 u<|zD (vb true)<|zA 5 u<|zD (vb true)<|zQ<|zH (gv (fun _ k=>k) [0,1] (gq [3,0,1,2,4,5,6,7,8])))<|zL 1 u<|zS 0 u u u<|zA 2 u<|zD (vb (decide (10 < (len y0.2.1))))<|zA 1 u<|wF 26 u (zA 4 u<|
  zD (vb true)<|zQ<|zH (gv (fun _ k=>k) [0,1] (gq [3,0,1,2,4,5,6,7,8])))<|zL 0 u<|zS 0 u u u<|zA 2 u<|zD (vb (decide (10 < (len y0.1))))<|zQ<|zH (gv (fun _ k=>k) [0,1] (gq [3,0,1,2,4,5,6,7,8])))<|fun s1 _ k=>k<|zJ u (
  jA 1 u<|zK<|qA<|zR u u (fun _ k=>k) [] ⟨⟩)<|jC<|zB<|zA 1 u<|qL zVs u (cq [0])<|fun r2 _ k b3 p5 c5=>k<|zA 1 u<|zC<|zB<|zA 1 u<|qB .s [2] [] zQh u u u (cq [0])<|fun r3 _ k p6 c6 p7 c7 p8 c8=>
  k<|wM .s (.agg #[.slice none 0 0, .slice none 0 0, .slice none 0 0])<|fun b4=>qI .s 3 u u u<|zC<|zTu (fun s2 K=>K [] [(0, []), (1, []), (2, []), (3, [])] [8,9,10,11,12] [] []) (yE [] [0, 3] 8<|vQ 0 0 3 u u u u<|
  vQ 1 3 3 u u u u<|zT 5 [2] u<|vQ 3 3 3 u u u u<|zT 3 [7] u<|zX 4<|qB (.f u) [2] [] zMM u u u (cq [3,0,1,2])<|fun r4 _ k p9 c9 p10 c10 p11 c11=>k<|zO<|zX 5<|
  wT (.f u) (e := zRS) 26 [sv p1 y0.1 c1, sv p2 y0.2.1 c2, sv p3 y0.2.2 c3, sv p6 r3.1.1 c6, sv p7 r3.1.2.1 c7, sv p8 r3.1.2.2 c8, sv p9 r4.1.1 c9, sv p10 r4.1.2.1 c10, sv p11 r4.1.2.2 c11] ([y0, r3.1, r4.1] : List zM) (rC (vP (vL (gk 8)) (vP (vL (gk 9)) (vL (gk 10)))) (rC (vP (vL (gk 3)) (vP (vL (gk 4)) (vL (gk 5)))) (rC (vP (vL (gk 0)) (vP (vL (gk 1)) (vL (gk 2)))) rN)))<|
  fun p12 c12=>zO<|zT 0 [6] u<|qM<|zP<|zV<|qZ (fun s3 K=>K [4,41,42] [(0, []), (2, []), (3, [])] [0,12,13,14,15,16] [(43, vi s3)] []) (gv (fun _ k=>k) [900,1,902,903] (gq [0,12,13,14,15,16]))<|fun s3 _ k=>k<|jA 1 u<|zG<|zJ u (
  jC<|zG<|zV<|zB<|wB 0 u u u<|fun x1 b5 o1=>wA true zXR (gk 0) u<|fun p15 c15 p14 c14 p13 c13=>wM .s (.agg #[.slice none 0 0, .slice none 0 0, .slice none 0 0])<|fun b6=>qI .s 4 u u u<|zC<|
  wL (fun s4 K=>∀ p16 c16 r_1,K [4,10,41,42,43] [(5, r_1)] [4,0,1,2,5,6,7,8,9] [(50, sv p16 s4.1 c16), (51, vi s4.2.1), (52, vi s4.2.2)] [Al zGk 28 r_1 p16 c16 s4.1]) (yI [] [1] 6<|vQ 1 1 2 u u u u<|zT 4 [5] u<|uR 0 2 (
  qB (.f u) [] [] zLT u u u ⟨⟩<|fun r5 _ k p17 c17 r_2=>k<|zO<|zX 2<|wT (.f u) (e := zGk) 28 [vi y1.1, vi y1.2] ([y1] : List vN) (rC (vP vI vI) rN)<|fun p18 c18=>zO<|zX 3<|
  wE (.f u) 5 1 u (gk 0) u u<|fun x2 r_3 p19 c19=>zO<|zT 0 [4] u<|qM<|zH (gv (fun _ k=>k p19 c19 r_3) [900,1,902,903,4,5] (gq [0,7,3,4,5,8,9,10,11,12]))) <|
  wT (.f u) (e := zGk) 28 [vi y1.1, vi y1.2] ([y1] : List vN) (rC (vP vI vI) rN)<|fun p20 c20=>zO<|zX 0<|qB (.f u) [] [] zLT u u u ⟨⟩<|fun r6 _ k p21 c21 r_4=>k<|zO<|zX 3<|
  wE (.f u) 5 0 u (gk 1) u u<|fun x3 r_5 p22 c22=>zO<|zT 0 [4] u<|qM<|zH (gv (fun _ k=>k p22 c22 r_5) [900,1,902,903,4,5] (gq [0,7,3,4,5,8,9,10,11,12])))<|fun s4 _ k p16 c16 r_1=>k<|zV<|
  qZ (fun s5 K=>K [4,10,41,42,43,50,51] [] [1,0,2,3,4,5,6,7,8,9] [(52, vi s5)] []) (gv (fun _ k=>k) [900,1,902,903,4,5] (gq [1,0,2,3,4,5,6,7,8,9]))<|fun s5 _ k=>k<|jA 1 u<|zG<|zJ u (jC<|zG<|zV<|zB<|uZ 1 u u u<|
  fun x4 h3 b7 hp1=>jlA 5 1 sI true zVi u hp1 h3 u<|wM .s (.agg #[vi 0, vi 0])<|fun b8=>qI .s 6 u u u<|zC<|zB<|qV 4 3 u u u<|qV 6 2 u u u<|qL zLJ u (cq [2,3,4,8])<|
  fun r7 _ k p23 c23 p24 c24 p25 c25 p26 c26 p27 c27 p28 c28=>k<|zA 3 u<|wM .s (.agg #[.slice none 0 0, .slice none 0 0, .slice none 0 0, .slice none 0 0, .slice none 0 0, vi 0, .slice none 0 0])<|fun b9=>qI .s 7 u u u<|zA 1 u<|
  zC<|zB<|qV 4 3 u u u<|qV 6 2 u u u<|qL zQo u (cq [8,9,10])<|fun r8 _ k p29 c29 p30 c30 p31 c31 p32 c32 p33 c33 p34 c34=>k<|zA 3 u<|
  wM .s (.agg #[.slice none 0 0, .slice none 0 0, .slice none 0 0, .slice none 0 0, .slice none 0 0, vi 0, .slice none 0 0])<|fun b10=>qI .s 8 u u u<|zA 1 u<|zC<|
  wL (fun s6 K=>K [4,10,41,42,43,50,51,52] [(6, []), (7, []), (8, [])] [12,13,14,15,16,17,18,19,20,21] [(76, vb s6)] []) (qN<|zA 4 u<|wF 71 u (zA 4 u<|zD (vb true)<|zQ<|
  zH (gv (fun _ k=>k) [900,1,902,903,4,5,906,907,908] (gq [12,13,14,15,16,17,18,19,20,21])))<|qV 7 7 u u u<|qV 8 7 u u u<|qL zMl u (cq [6,7,8,9,10,11,0,1,2,3,4,5])<|fun r9 _ k=>k<|zA 1 u<|zD (vb (!r9))<|
  zQ<|zH (gv (fun _ k=>k) [900,1,902,903,4,5,906,907,908] (gq [12,13,14,15,16,17,18,19,20,21])))<|fun s6 _ k=>k<|zJ u (jA 1 u<|zK<|qO<|qA<|wU<|qO<|qO<|qA<|wU<|qO<|wU<|zR u u (fun _ k=>k) [] ⟨⟩)<|wK<|qE<|zP<|jB 2 u<|
  qJ (gv (fun _ k=>k) [900,1,902,903,4,5] (gq [0,1,2,3,4,5,6,7,8,9])))<|qT<|qQ<|qY<|qW<|qE<|zP<|jB 2 u<|qJ (gv (fun _ k=>k) [900,1,902,903] (gq [0,5,6,7,8,9])))<|qT<|qQ<|qY<|qW<|
  qJ (gv (fun _ k=>k) [900,901,902,903] (gq [1,2,3,4,5])))<|fun s2 _ k=>k<|zB<|qL zRu u (cq [0,1,2,3,4])<|fun r10 _ k=>k<|zA 1 u<|zC<|zK<|zR u u (fun _ k=>k) [] ⟨⟩
end Go.Proofs.YthlaikjapnddkaaGreatDoor
