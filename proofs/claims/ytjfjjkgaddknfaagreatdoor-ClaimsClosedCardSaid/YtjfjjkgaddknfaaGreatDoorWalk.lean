/- Part of the proof. Conditions: none. -/
import Derived.Test.YtjfjjkgaddknfaaGreatDoorWalk1
namespace Go.Proofs.YtjfjjkgaddknfaaGreatDoor
open Go Go.GD Tryz
set_option autoImplicit false
set_option linter.unusedVariables false
set_option maxRecDepth 100000
variable {p1 p2 p3 p4 p5 p6 p7 p8 p9 : Option Addr} {c1 c2 c3 c4 c5 c6 c7 c8 c9 : Nat} {b1 b2 b3 b4 b5 b6 b7 b8 b9 b10 b11 : Nat} {r_1 r_2 r_3 r_4 r_5 r_6 : zV}
theorem zO5 {y0 : qK} : qF False prog 167 [.agg #[vs y0.1, vb y0.2.1, vi y0.2.2.1, sv p1 y0.2.2.2.1 c1, vb y0.2.2.2.2.1, vs y0.2.2.2.2.2]] [] [Rl wI p1 c1 y0.2.2.2.1, Tb prog "internal/strconv.uint64pow10" .u64 Lib.pow10Tab] (zFG y0) fun r K=>K (vs r) [] [] :=
 qA call167 func167 u fun X=>zB<|qZ .s u<|fun b1=>zA 1 u<|zC<|zB<|zN 0 u<|zS 0 u u u<|yT fun x1 h1=>jv (fun h=>zPj h u u h1)<|
  xE .s (e := vM) 9 [vs [115, 116, 114, 105, 99, 116], vs x1] ([[115, 116, 114, 105, 99, 116], x1] : List qC) (rC vS (rC vS rN))<|fun r_1 p2 c2=>zA 2 u<|zC<|
  wK (fun s1 K=>∀ p3 c3 r_2,K [1] [(1, []), (2, r_2)] [1,2] [(3, sv p3 s1.1 c3), (4, vs s1.2)] [Al vM 9 r_2 p3 c3 s1.1]) (zB<|zN 1 u<|zS 0 u u u<|zA 1 u<|zC<|zK u (uT [] [0] 9<|qT 0 0 u u<|wH 1 0 u u u u<|
  qT 2 2 u u<|wH 3 0 u u u u<|qB 4<|zZ (.f u) [] [] zKg u u u (cq [2])<|fun r1 _ k=>k<|zX<|yT fun x2 h2=>tC 5 u (fun h=>zPj h u u h2)<|qB 6<|
  xE (.f u) (e := vM) 9 [vs [114, 117, 108, 101], vs y0.1, vs x2] ([[114, 117, 108, 101], y0.1, x2] : List qC) (rC vS (rC vS (rC vS rN)))<|fun r_3 p4 c4=>zX<|zY 0 [7,8] u<|qQ<|zL (gv (fun _ k=>k p4 c4 r_3) [0,901,2] (gq [0,2,3]))
  )<|wG<|zL (gv (fun _ k=>k p2 c2 r_1) [0,901,1] (gq [0,1,2])))<|fun s1 _ k p3 c3 r_2=>k<|wK (fun s2 K=>∀ p5 c5 r_4,K [1,4] [(2, r_4)] [1,2] [(3, sv p5 s2 c5)] [Al vM 9 r_4 p5 c5 s2]) (zB<|zN 3 u<|zS 0 u u u<|zA 2 u<|zC<|
  zT<|qW (fun s3 K=>∀ p6 c6 r_5,K [1,4,23,24] [(2, r_5)] [1,2] [(3, sv p6 s3.1 c6), (25, vi s3.2)] [Al vM 9 r_5 p6 c6 s3.1]) (gv (fun _ k=>k p3 c3 r_2) [0,901,2] (gq [0,1,2]))<|fun s3 _ k p6 c6 r_5=>k<|jA 1 u<|zG<|zK u (jC<|zG<|
  zT<|zB<|zA 1 u<|wC 1 u u u<|fun x3 b2 o1=>wA true yI (gk 0) u<|wN .s (.agg #[vb false, vs []])<|fun b3=>zA 1 u<|qJ .s 3 u u u<|zC<|zB<|qV 3 2 u u u<|qI zHB u ⟨⟩<|fun r2 _ k=>k<|
  zA 1 u<|zC<|wK (fun s4 K=>K [1,3,4,23,24,25] [(3, [])] [1,2,3] [(7, vs s4)] []) (zB<|zA 1 u<|zN 3 u<|zS 0 u u u<|zA 3 u<|zC<|zK u (qL<|zA 1 u<|yT fun x4 h3=>jv (fun h=>zPj h u u h3)<|zA 1 u<|zU<|
  zL (gv (fun _ k=>k) [0,901,2,903] (gq [1,2,3])))<|wG<|zL (gv (fun _ k=>k) [0,901,2,903] (gq [1,2,3])))<|fun s4 _ k=>k<|qL<|zA 2 u<|vD .s (e := vM) 9 [vs s4] ([s4] : List qC) (rC vS rN)<|fun p7 c7=>wL .s 2 1 u (gk 0) u u<|
  fun x5 r_6 p8 c8=>zA 1 u<|zU<|qG<|zP<|jB 2 u<|qH (gv (fun _ k=>k p8 c8 r_6) [0,901,2] (gq [0,3,4])))<|qS<|qP<|qU<|qR<|zL (gv (fun _ k=>k p6 c6 r_5) [0,901,2] (gq [0,1,2])))<|fun s2 _ k p5 c5 r_4=>k<|zB<|zA 2 u<|zN 4 u<|
  qV 0 2 u u u<|qI zHB u ⟨⟩<|fun r3 _ k=>k<|vD .s (e := vM) 9 [vs s1.2, vs r3] ([s1.2, r3] : List qC) (rC vS (rC vS rN))<|fun p9 c9=>wL .s 2 1 u (gk 0) u u<|fun x6 r_7 p10 c10=>
  zZ .s [] [2] zOP u u u ⟨cl 2 0,⟨⟩⟩<|fun r4 _ k=>k<|zA 1 u<|zC<|zJ<|zQ u u (fun _ k=>k) [] ⟨⟩
theorem zBZ {qd : Prop} {y0 : zAT} : qF qd prog 163 [pt b1 0] [bx b1 163 [sv p1 y0.1 c1, vb y0.2]] [Rl vM p1 c1 y0.1] (zBD y0) fun r K=>∀ p2 c2,K (vs r.1) [bx b1 163 [sv p2 r.2.1 c2, vb r.2.2]] [Rl vM p2 c2 r.2.1] :=
 qA call163 func163 u fun X=>jA 1 u<|zG<|zB<|zA 2 u<|zN 0 u<|zS 0 u u u<|zA 2 u<|zC<|zK u (zB<|zA 2 u<|zN 1 u<|qJ .s 0 u u u<|zC<|jA 1 u<|zJ<|qE<|zQ u u (fun _ k=>k p1 c1) [0] (gq [0]))<|jC<|zB<|zA 2 u<|zN 0 u<|
  zS 0 u u u<|wC 0 u u u<|fun x1 b2 o1=>wA false oS (gk 0) u<|zA 1 u<|zC<|zB<|zA 3 u<|zN 0 u<|zS 0 u u u<|jsl (gk 1) u u u (.inr ⟨_, rfl⟩) (.inl ⟨rfl, rfl⟩)<|fun x2 p2 c2=>zA 1 u<|zN 0 u<|
  qJ .s 0 u u u<|zC<|jA 2 u<|zJ<|zQ u u (fun _ k=>k p2 c2) [0] (gq [0])
theorem zRq {qd : Prop} {y0 : qC} : qF qd prog 299 [vs y0] [] [] (zHg y0) fun r K=>K (.tuple #[.agg #[vb r.1.1, vs r.1.2], vi r.2]) [] [] :=
 qA call299 func299 u fun X=>zB<|wN .s (.agg #[vb false, vs []])<|fun b1=>zA 1 u<|zC<|zB<|wN .s (.agg #[vb false, vs []])<|fun b2=>zC<|wK (fun s1 K=>K [2,4] [(1, bx b2 62 [vb s1.2, vs []])] [] [(0, vs s1.1)] []) (
  wK (fun s2 K=>K [0,2,4] [] [] [(12, vb s2)] []) (qL<|zA 4 u<|wM 8 u (zA 1 u<|yT fun x1 h1=>jv (fun h=>zIp h u u underlying9 h1)<|zA 1 u<|zI (vb (x1 == 126))<|zU<|zL (gv (fun _ k=>k) [0,1] ⟨⟩))<|zA 3 u<|
  zI (vb false)<|zU<|zL (gv (fun _ k=>k) [0,1] ⟨⟩))<|fun s2 _ k=>k<|zK u (zB<|zN 0 u<|qJ .s 1 u u u<|zC<|qL<|zA 1 u<|yT fun x2 h2=>jv (fun h=>zRD h u underlying9 u u (.inr ⟨_, rfl⟩) (.inl ⟨rfl, rfl⟩) h2)<|
  zA 1 u<|zU<|zL (gv (fun _ k=>k) [0,1] ⟨⟩))<|wG<|zL (gv (fun _ k=>k) [0,1] ⟨⟩))<|fun s1 _ k=>k<|zB<|zA 1 u<|zN 1 u<|qJ .s 1 u u u<|zC<|zG<|zB<|qV 1 2 u u u<|qI zEi u ⟨⟩<|fun r1 _ k=>k<|
  zA 1 u<|zC<|zK u (zB<|zI (.agg #[vb false, vs []])<|qJ .s 0 u u u<|zA 1 u<|zC<|zJ<|qE<|wQ u (lC 0 (.agg #[vb false, vs []]) u u (lT u lN)) (fun _ k=>k) [] ⟨⟩)<|jC<|zB<|qV 1 2 u u u<|
  qJ .s 0 u u u<|zA 1 u<|zC<|zJ<|wQ u (lC 0 (.agg #[vb s1.2, vs s1.1]) u u (lT u lN)) (fun _ k=>k) [] ⟨⟩
theorem zIF {qd : Prop} {y0 : qC} {y1 : qC} : qF qd prog 362 [vs y0, vs y1] [] [] (zEK y0 y1) fun r K=>K (vb r) [] [] :=
 qA call362 func362 u fun X=>jA 1 u<|jjn (fun s1 K=>K [(4, vb s1)] [] []) (qL<|zA 6 u<|wM 10 u (zA 6 u<|yT fun x1 h1=>jv (fun h=>zRD h u underlying9 u u (.inr ⟨_, rfl⟩) (.inl ⟨rfl, rfl⟩) h1)<|zA 2 u<|zI (vb (x1 == y1))<|zA 1 u<|zU<|
  zL (gv (fun _ k=>k) [] ⟨⟩))<|zA 9 u<|zI (vb false)<|zA 1 u<|zU<|zL (gv (fun _ k=>k) [] ⟨⟩))<|fun s1 _ k=>k<|zJ<|zQ u u (fun _ k=>k) [] ⟨⟩
theorem zIM {qd : Prop} {y0 : qC} {y1 : qC} : qF qd prog 339 [vs y0, vs y1] [] [] (zEJ y0 y1) fun r K=>K (.tuple #[vs r.1, vb r.2]) [] [] :=
 qA call339 func339 u fun X=>jA 2 u<|zG<|zB<|zA 2 u<|qI zIF u ⟨⟩<|fun r1 _ k=>k<|zA 1 u<|zC<|zK u (jA 3 u<|zJ<|qE<|wQ u (lT u (lT u lN)) (fun _ k=>k) [] ⟨⟩)<|jC<|zB<|zA 6 u<|yT fun x1 h1=>
  jv (fun h=>zRD h u underlying9 u u (.inl ⟨rfl, rfl⟩) (.inr ⟨_, rfl⟩) h1)<|zA 2 u<|zC<|zJ<|wQ u (lT u (lT u lN)) (fun _ k=>k) [] ⟨⟩
theorem zHR {qd : Prop} {y0 : qC} {y1 : qC} : qF qd prog 298 [vs y0, vs y1] [] [] (zFN y0 y1) fun r K=>K (.tuple #[vs r.1, vb r.2]) [] [] :=
 qA call298 func298 u fun X=>jA 2 u<|zB<|zA 2 u<|qI zIM u ⟨⟩<|fun r1 _ k=>k<|zA 4 u<|zC<|zJ<|wQ u (lT u (lT u lN)) (fun _ k=>k) [] ⟨⟩
theorem zCi {qd : Prop} {y0 : zAT} {y1 : qC} : qF qd prog 243 [pt b1 0, vs y1] [bx b1 163 [sv p1 y0.1 c1, vb y0.2]] [Rl vM p1 c1 y0.1] (zBB y0 y1) fun r K=>∀ p2 c2,K (.agg #[vb r.1.1, vs r.1.2]) [bx b1 163 [sv p2 r.2.1 c2, vb r.2.2]] [Rl vM p2 c2 r.2.1] :=
 qA call243 func243 u fun X=>zB<|wN .s (.agg #[vb false, vs []])<|fun b2=>zC<|zB<|zA 1 u<|zZ .s [0] [] zBZ u u u (cq [0])<|fun r1 _ k p2 c2=>k<|zA 1 u<|qI zHR u ⟨⟩<|fun r2 _ k=>k<|zA 5 u<|zC<|zB<|zA 1 u<|
  qI zRq u ⟨⟩<|fun r3 _ k=>k<|zA 3 u<|wN .s (.agg #[vb false, vs []])<|fun b3=>qJ .s 2 u u u<|zA 1 u<|zC<|wK (fun s1 K=>K [4,7] [(0, bx b1 163 [sv p2 r1.2.1 c2, vb s1])] [0] [] []) (qL<|zA 3 u<|zN 1 u<|
  zS 0 u u u<|zA 1 u<|wM 26 u (zA 2 u<|zI (vb true)<|zA 3 u<|zI (vb true)<|zA 1 u<|zN 1 u<|qJ .s 0 u u u<|zU<|zL (gv (fun _ k=>k) [0,1,2] (gq [0])))<|zA 2 u<|zI (vb (!r2.2))<|zA 1 u<|wM 30 u (
  zA 2 u<|zI (vb true)<|zA 1 u<|zN 1 u<|qJ .s 0 u u u<|zU<|zL (gv (fun _ k=>k) [0,1,2] (gq [0])))<|zA 2 u<|zI (vb (r3.2 != 0))<|zA 1 u<|zN 1 u<|qJ .s 0 u u u<|zU<|zL (gv (fun _ k=>k) [0,1,2] (gq [0])))<|
  fun s1 _ k=>k<|zB<|qV 2 2 u u u<|qJ .s 1 u u u<|zC<|zJ<|wQ u (lC 1 (.agg #[vb r3.1.1, vs r3.1.2]) u u lN) (fun _ k=>k p2 c2) [0] (gq [0])
theorem zDw {qd : Prop} {y0 : zAT} {y1 : qC} : qF qd prog 245 [pt b1 0, vs y1] [bx b1 163 [sv p1 y0.1 c1, vb y0.2]] [Rl vM p1 c1 y0.1] (zB0 y0 y1) fun r K=>∀ p2 c2,K (vs r.1) [bx b1 163 [sv p2 r.2.1 c2, vb r.2.2]] [Rl vM p2 c2 r.2.1] :=
 qA call245 func245 u fun X=>jA 1 u<|zB<|zA 1 u<|zZ .s [0] [] zBZ u u u (cq [0])<|fun r1 _ k p2 c2=>k<|zA 1 u<|qI zHR u ⟨⟩<|fun r2 _ k=>k<|zA 5 u<|zC<|
  wK (fun s1 K=>K [5] [(0, bx b1 163 [sv p2 r1.2.1 c2, vb s1])] [0] [] []) (qL<|zA 3 u<|zN 1 u<|zS 0 u u u<|zA 1 u<|wM 19 u (zA 2 u<|zI (vb true)<|zA 4 u<|zI (vb true)<|zA 1 u<|zN 1 u<|
  qJ .s 0 u u u<|zU<|zL (gv (fun _ k=>k) [0] (gq [0])))<|zA 2 u<|zI (vb (!r2.2))<|zA 1 u<|wM 23 u (zA 3 u<|zI (vb true)<|zA 1 u<|zN 1 u<|qJ .s 0 u u u<|zU<|zL (gv (fun _ k=>k) [0] (gq [0])))<|zA 1 u<|
  qI zFC u ⟨⟩<|fun r3 _ k=>k<|zA 1 u<|zI (vb (!r3))<|zA 1 u<|zN 1 u<|qJ .s 0 u u u<|zU<|zL (gv (fun _ k=>k) [0] (gq [0])))<|fun s1 _ k=>k<|jA 2 u<|zJ<|zQ u u (fun _ k=>k p2 c2) [0] (gq [0])
theorem zGH {qd : Prop} {y0 : zAT} {y1 : qC} : qF qd prog 244 [pt b1 0, vs y1] [bx b1 163 [sv p1 y0.1 c1, vb y0.2]] [Rl vM p1 c1 y0.1] (zDj y0 y1) fun r K=>∀ p2 c2,K (vi r.1) [bx b1 163 [sv p2 r.2.1 c2, vb r.2.2]] [Rl vM p2 c2 r.2.1] :=
 qA call244 func244 u fun X=>jA 1 u<|zB<|zA 1 u<|zZ .s [0] [] zBZ u u u (cq [0])<|fun r1 _ k p2 c2=>k<|zA 1 u<|qI zHR u ⟨⟩<|fun r2 _ k=>k<|zA 5 u<|zC<|zG<|wK (fun s1 K=>K [0,5] [] [0] [(30, vb s1)] []) (qL<|
  zA 3 u<|wM 16 u (zA 3 u<|zI (vb true)<|zA 4 u<|zI (vb true)<|zA 4 u<|zI (vb true)<|zU<|zL (gv (fun _ k=>k) [0] (gq [0])))<|zA 3 u<|zI (vb ((len r2.1) != 1))<|zA 1 u<|wM 21 u (zA 3 u<|zI (vb true)<|
  zA 4 u<|zI (vb true)<|zU<|zL (gv (fun _ k=>k) [0] (gq [0])))<|zA 1 u<|yT fun x1 h1=>jv (fun h=>zIp h u u underlying9 h1)<|zA 1 u<|zI (vb (decide (x1 < 48)))<|zA 1 u<|wM 26 u (zA 3 u<|zI (vb true)<|zU<|
  zL (gv (fun _ k=>k) [0] (gq [0])))<|zA 1 u<|yT fun x2 h2=>jv (fun h=>zIp h u u underlying9 h2)<|zA 1 u<|zI (vb (decide (57 < x2)))<|zU<|zL (gv (fun _ k=>k) [0] (gq [0])))<|fun s1 _ k=>k<|zK u (zB<|zA 2 u<|
  zN 1 u<|qJ .s 0 u u u<|zC<|jA 1 u<|zJ<|qE<|zQ u u (fun _ k=>k p2 c2) [0] (gq [0]))<|jC<|zB<|zA 1 u<|yT fun x3 h3=>jv (fun h=>zIp h u u underlying9 h3)<|zA 1 u<|
  zI (vi (zR (IntKind.u8.wrap (x3 - 48))))<|zA 1 u<|zC<|zJ<|zQ u u (fun _ k=>k p2 c2) [0] (gq [0])
theorem zLK {qd : Prop} {y0 : zAT} {y1 : Int} : qF qd prog 164 [pt b1 0, vi y1] [bx b1 163 [sv p1 y0.1 c1, vb y0.2]] [Rl vM p1 c1 y0.1] (zC6 y0 y1) fun r K=>∀ p2 c2,K (.agg #[vb r.1.1.1, vs r.1.1.2, vi r.1.2.1, vi r.1.2.2.1, vs r.1.2.2.2]) [bx b1 163 [sv p2 r.2.1 c2, vb r.2.2]] [Rl vM p2 c2 r.2.1] :=
 qA call164 func164 u fun X=>zB<|wN .s (.agg #[vb false, vs [], vi 0, vi 0, vs []])<|fun b2=>zC<|zB<|zA 2 u<|zZ .s [0] [] zCi u u u (cq [0])<|fun r1 _ k p2 c2=>k<|zI (.agg #[vb r1.1.1, vs r1.1.2, vi y1, vi 0, vs []])<|
  wN .s (.agg #[vb false, vs [], vi 0, vi 0, vs []])<|fun b3=>qJ .s 2 u u u<|zC<|
  wK (fun s1 K=>∀ p3 c3,K [0,4,5] [(0, bx b1 163 [sv p3 s1.1 c3, vb s1.2.1]), (2, bx b3 88 [vb r1.1.1, vs r1.1.2, vi y1, vi s1.2.2, vs []])] [] [] [Rl vM p3 c3 s1.1]) (jA 2 u<|zK u (qL<|zA 1 u<|
  zZ .s [0] [] zGH u u u (cq [0])<|fun r2 _ k p4 c4=>k<|zN 3 u<|qJ .s 2 u u u<|zU<|zL (gv (fun _ k=>k p4 c4) [0,1,2] (gq [0])))<|wG<|zL (gv (fun _ k=>k p2 c2) [0,1,2] (gq [0])))<|fun s1 _ k p3 c3=>k<|
  wK (fun s2 K=>∀ p5 c5,K [4,5] [(0, bx b1 163 [sv p5 s2.1 c5, vb s2.2.1]), (2, bx b3 88 [vb r1.1.1, vs r1.1.2, vi y1, vi s1.2.2, vs s2.2.2])] [] [] [Rl vM p5 c5 s2.1]) (zB<|zA 2 u<|zN 0 u<|zS 0 u u u<|zA 2 u<|zC<|
  zK u (wK (fun s3 K=>∀ p6 c6,K [0,4,5] [(0, bx b1 163 [sv p6 s3.1 c6, vb s3.2])] [] [] [Rl vM p6 c6 s3.1]) (qL<|zA 3 u<|zN 1 u<|zS 0 u u u<|zA 1 u<|wM 26 u (zA 3 u<|zI (vb true)<|zA 1 u<|zN 1 u<|
  qJ .s 0 u u u<|zU<|zL (gv (fun _ k=>k p3 c3) [0,1,2] (gq [0])))<|zA 1 u<|zZ .s [0] [] zBZ u u u (cq [0])<|fun r3 _ k p7 c7=>k<|zA 1 u<|zI (vb (!(r3.1 == [102, 114, 111, 109])))<|zA 1 u<|
  zN 1 u<|qJ .s 0 u u u<|zU<|zL (gv (fun _ k=>k p7 c7) [0,1,2] (gq [0])))<|fun s3 _ k p6 c6=>k<|qL<|zA 1 u<|zZ .s [0] [] zDw u u u (cq [0])<|fun r4 _ k p8 c8=>k<|zN 4 u<|qJ .s 2 u u u<|zU<|
  zL (gv (fun _ k=>k p8 c8) [0,1,2] (gq [0])))<|wG<|zL (gv (fun _ k=>k p3 c3) [0,1,2] (gq [0])))<|fun s2 _ k p5 c5=>k<|zB<|qV 2 5 u u u<|qJ .s 1 u u u<|zC<|zJ<|
  wQ u (lC 1 (.agg #[vb r1.1.1, vs r1.1.2, vi y1, vi s1.2.2, vs s2.2.2]) u u lN) (fun _ k=>k p5 c5) [0] (gq [0])
theorem zKH {qd : Prop} {y0 : zAT} : qF qd prog 168 [pt b1 0] [bx b1 163 [sv p1 y0.1 c1, vb y0.2]] [Rl vM p1 c1 y0.1] (zCM y0) fun r K=>∀ p2 c2,K (.agg #[vs r.1.1, vi r.1.2.1, vb r.1.2.2.1, vs r.1.2.2.2]) [bx b1 163 [sv p2 r.2.1 c2, vb r.2.2]] [Rl vM p2 c2 r.2.1] :=
 qA call168 func168 u fun X=>zB<|wN .s (.agg #[vs [], vi 0, vb false, vs []])<|fun b2=>zC<|zB<|zA 1 u<|zZ .s [0] [] zDw u u u (cq [0])<|fun r1 _ k p2 c2=>k<|zA 1 u<|zZ .s [0] [] zGH u u u (cq [0])<|
  fun r2 _ k p3 c3=>k<|zI (.agg #[vs r1.1, vi r2.1, vb false, vs []])<|wN .s (.agg #[vs [], vi 0, vb false, vs []])<|fun b3=>qJ .s 2 u u u<|zC<|
  wK (fun s1 K=>∀ p4 c4,K [0,2,3] [(0, bx b1 163 [sv p4 s1.1 c4, vb s1.2])] [] [] [Rl vM p4 c4 s1.1]) (qL<|zA 3 u<|zN 1 u<|zS 0 u u u<|zA 1 u<|wM 14 u (zA 3 u<|zI (vb true)<|zA 1 u<|zN 1 u<|
  qJ .s 0 u u u<|zU<|zL (gv (fun _ k=>k p3 c3) [0,1,2] (gq [0])))<|zA 1 u<|zZ .s [0] [] zBZ u u u (cq [0])<|fun r3 _ k p5 c5=>k<|zA 1 u<|zI (vb (!(r3.1 == [105, 102])))<|zA 1 u<|zN 1 u<|
  qJ .s 0 u u u<|zU<|zL (gv (fun _ k=>k p5 c5) [0,1,2] (gq [0])))<|fun s1 _ k p4 c4=>k<|zB<|zA 1 u<|zZ .s [0] [] zCi u u u (cq [0])<|fun r4 _ k p6 c6=>k<|zN 2 u<|qJ .s 2 u u u<|zC<|zB<|
  qV 2 4 u u u<|qJ .s 1 u u u<|zC<|zJ<|wQ u (lC 1 (.agg #[vs r1.1, vi r2.1, vb r4.1.1, vs r4.1.2]) u u lN) (fun _ k=>k p6 c6) [0] (gq [0])
theorem zMe {qd : Prop} {y0 : zAT} {y1 : Bool} : qF qd prog 166 [pt b1 0, vb y1] [bx b1 163 [sv p1 y0.1 c1, vb y0.2]] [Rl vM p1 c1 y0.1] (zDp y0 y1) fun r K=>∀ p2 c2 p3 c3,K (.agg #[vs r.1.1, vb r.1.2.1, vi r.1.2.2.1, sv p2 r.1.2.2.2.1 c2, vb r.1.2.2.2.2.1, vs r.1.2.2.2.2.2]) [bx b1 163 [sv p3 r.2.1 c3, vb r.2.2]] [Rl wI p2 c2 r.1.2.2.2.1, Rl vM p3 c3 r.2.1] :=
 qA call166 func166 u fun X=>zB<|wN .s (.agg #[vs [], vb false, vi 0, .slice none 0 0, vb false, vs []])<|fun b2=>zC<|zB<|zA 1 u<|zI (.agg #[vs [], vb y1, vi 0, .slice none 0 0, vb false, vs []])<|vT wI 62<|
  wN .s (.agg #[vs [], vb false, vi 0, .slice none 0 0, vb false, vs []])<|fun b3=>qJ .s 3 u u u<|zC<|jA 1 u<|
  wK (fun s1 K=>∀ p2 c2,K [0,4,5] [(0, bx b1 163 [sv p2 s1.2.1 c2, vb s1.2.2.1]), (3, bx b3 92 [vs s1.2.2.2.1, vb y1, vi s1.2.2.2.2, sv none ([] : List zF) 0, vb false, vs []])] [0] [(6, vs s1.1)] [Rl vM p2 c2 s1.2.1]) (jA 1 u<|
  zK u (qL<|zA 1 u<|zZ .s [0] [] zDw u u u (cq [1])<|fun r1 _ k p3 c3=>k<|zN 0 u<|qJ .s 3 u u u<|zU<|zL (gv (fun _ k=>k p3 c3) [0,1,2,3] (gq [0,1])))<|qL<|zA 1 u<|
  zZ .s [0] [] zDw u u u (cq [1])<|fun r2 _ k p4 c4=>k<|zA 1 u<|zZ .s [0] [] zGH u u u (cq [0])<|fun r3 _ k p5 c5=>k<|zN 0 u<|qJ .s 3 u u u<|zN 2 u<|qJ .s 3 u u u<|
  zA 1 u<|zU<|zL (gv (fun _ k=>k p5 c5) [0,1,2,3] (gq [0,2])))<|fun s1 _ k p2 c2=>k<|
  wK (fun s2 K=>∀ p6 c6 p7 c7 r_1,K [0,4,5,6] [(0, bx b1 163 [sv p6 s2.1 c6, vb s2.2.1]), (2, r_1), (3, bx b3 92 [vs s1.2.2.2.1, vb y1, vi s1.2.2.2.2, sv p7 s2.2.2 c7, vb false, vs []])] [] [] [Rl vM p6 c6 s2.1, Al wI 62 r_1 p7 c7 s2.2.2]) (
  zT<|
  qW (fun s3 K=>∀ p8 c8 p9 c9 r_2,K [0,4,5,6] [(0, bx b1 163 [sv p8 s3.1 c8, vb s3.2.1]), (2, r_2), (3, bx b3 92 [vs s1.2.2.2.1, vb y1, vi s1.2.2.2.2, sv p9 s3.2.2 c9, vb false, vs []])] [] [] [Rl vM p8 c8 s3.1, Al wI 62 r_2 p9 c9 s3.2.2]) (gv (fun _ k=>k p2 c2 none 0 []) [0,1,2,3] (gq [0,1]))<|
  fun s3 _ k p8 c8 p9 c9 r_2=>k<|zG<|tN (fun K=>K [0,4,5,6] [] [0,1] [(32, vb ((decide (2 < (len s3.1))) && (!s3.2.1)))] []) (qL<|zA 2 u<|zN 0 u<|zS 0 u u u<|zA 3 u<|yY (b := decide (2 < (len s3.1))) 26 u (fun hb1=>
  zA 2 u<|zN 1 u<|zS 0 u u u<|zA 1 u<|zI (vb (!s3.2.1))<|zU<|wW 32 (vb ((decide (2 < (len s3.1))) && (!s3.2.1))) u (by rw [hb1]; rfl)<|zL (gv (fun _ k=>k) [0,1,2,3] (gq [0,1])))<|fun hb1=>zA 5 u<|zI (vb false)<|zU<|
  wW 32 (vb ((decide (2 < (len s3.1))) && (!s3.2.1))) u (by rw [hb1]; rfl)<|zL (gv (fun _ k=>k) [0,1,2,3] (gq [0,1])))<|fun _ k=>k<|zK u (jC<|zT<|jA 1 u<|wK (fun s4 K=>K [0,4,5,6] [] [0,1] [(7, vs s4)] []) (zB<|zA 2 u<|
  zN 0 u<|zS 0 u u u<|zA 2 u<|zC<|zK u (jB 1 u<|zL (gv (fun _ k=>k) [0,1,2,3] (gq [0,1])))<|wG<|zL (gv (fun _ k=>k) [0,1,2,3] (gq [0,1])))<|fun s4 _ k=>k<|uT [8] [3] 9<|qT 0 3 u u<|wH 1 3 u u u u<|
  zY 5 [2,3] u<|qB 4<|zZ (.f u) [0] [] zCi u u u (cq [0])<|fun r4 _ k p10 c10=>k<|zX<|qB 5<|vD (.f u) (e := wI) 62 [vb r4.1.1, vs r4.1.2] ([r4.1] : List zF) (rC (vP vB vS) rN)<|
  fun p11 c11=>zX<|qB 6<|wL (.f u) 2 3 u (gk 0) u u<|fun x1 r_3 p12 c12=>zX<|qT 7 3 u u<|qB 8<|qJ (o := 3) (.f u) 3 u u u<|jdb [] [3]<|qQ<|qG<|qH (gv (fun _ k=>k p10 c10 p12 c12 r_3) [0,1,2,3] (gq [2,0])))<|qS<|
  qP<|qU<|qR<|zL (gv (fun _ k=>k p8 c8 p9 c9 r_2) [0,1,2,3] (gq [0,1])))<|fun s2 _ k p6 c6 p7 c7 r_1=>k<|wK (fun s5 K=>∀ p13 c13,K [0,4,5] [(0, bx b1 163 [sv p13 s5.1 c13, vb s5.2])] [1] [] [Rl vM p13 c13 s5.1]) (qL<|zA 3 u<|
  zN 1 u<|zS 0 u u u<|zA 1 u<|wM 52 u (zA 4 u<|zI (vb true)<|zA 1 u<|zN 1 u<|qJ .s 0 u u u<|zU<|zL (gv (fun _ k=>k p6 c6) [0,1,2,3] (gq [0,1])))<|zA 1 u<|
  zZ .s [0] [] zBZ u u u (cq [0])<|fun r5 _ k p14 c14=>k<|zA 2 u<|zI (vb (!(r5.1 == s1.1)))<|zA 1 u<|zN 1 u<|qJ .s 0 u u u<|zU<|zL (gv (fun _ k=>k p14 c14) [0,1,2,3] (gq [0,2])))<|
  fun s5 _ k p13 c13=>k<|zB<|zA 1 u<|zZ .s [0] [] zCi u u u (cq [0])<|fun r6 _ k p15 c15=>k<|zN 4 u<|qJ .s 3 u u u<|zC<|zB<|qV 3 6 u u u<|qJ .s 1 u u u<|zC<|zJ<|vF 2 2 u u<|
  wQ u (lC 1 (.agg #[vs s1.2.2.2.1, vb y1, vi s1.2.2.2.2, sv p7 s2.2.2 c7, vb r6.1.1, vs r6.1.2]) u u lN) (fun _ k=>k p7 c7 p15 c15) [0] (gq [0,1])
theorem zNm {y0 : zAT} {y1 : zM} : qF False prog 109 [pt b1 0, pt b2 0] [bx b1 163 [sv p1 y0.1 c1, vb y0.2], bx b2 29 [sv p2 y1.1 c2, sv p3 y1.2.1 c3, sv p4 y1.2.2 c4], r_1, r_2, r_3] [Rl vM p1 c1 y0.1, Al wP 88 r_1 p2 c2 y1.1, Al wF 92 r_2 p3 c3 y1.2.1, Al wO 105 r_3 p4 c4 y1.2.2, Pt (uK 4 vM) 1 0 zAd, Tb prog "internal/strconv.uint64pow10" .u64 Lib.pow10Tab] (zEZ y0 y1) fun r K=>∀ p5 c5 p6 c6 r_4 p7 c7 r_5 p8 c8 r_6,K (.tuple #[vi r.1, vs r.2.1]) [bx b1 163 [sv p5 r.2.2.1 c5, vb r.2.2.2.1], bx b2 29 [sv p6 r.2.2.2.2.1 c6, sv p7 r.2.2.2.2.2.1 c7, sv p8 r.2.2.2.2.2.2 c8], r_4, r_5, r_6] [Rl vM p5 c5 r.2.2.1, Al wP 88 r_4 p6 c6 r.2.2.2.2.1, Al wF 92 r_5 p7 c7 r.2.2.2.2.2.1, Al wO 105 r_6 p8 c8 r.2.2.2.2.2.2] :=
 qA call109 func109 u fun X=>jA 2 u<|zG<|zB<|zA 1 u<|zZ .s [0] [] zBZ u u u (cq [0])<|fun r1 _ k p5 c5=>k<|zA 1 u<|zC<|jA 1 u<|zT<|wK (fun s1 K=>K [0,1,6,15] [] [0,2,3,4,5,6] [(16, vb s1)] []) (jA 2 u<|zK u (wG<|
  zL (gv (fun _ k=>k) [0,1,2,3,4] (gq [0,2,3,4,5,6])))<|jA 2 u<|zK u (wG<|zL (gv (fun _ k=>k) [0,1,2,3,4] (gq [0,2,3,4,5,6])))<|jB 2 u<|zL (gv (fun _ k=>k) [0,1,2,3,4] (gq [0,2,3,4,5,6])))<|fun s1 _ k=>k<|zK u (jA 1 u<|
  wK (fun s2 K=>K [0,1] [] [0,1,2,3,4,5] [(7, vi s2)] []) (zB<|jlT (vs) (fun _ _ _ _ h=>h) (gk 4) u<|zA 1 u<|zC<|zT<|
  qW (fun s3 K=>K [0,1,6,20] [] [0,1,2,3,4,5] [(7, vi s3.1), (21, vi s3.2)] []) (gv (fun _ k=>k) [0,1,2,3,4] (gq [0,1,2,3,4,5]))<|fun s3 _ k=>k<|jA 1 u<|zG<|zK u (jC<|zG<|zT<|zB<|zA 1 u<|yT fun x1 h1=>
  jv (fun h=>r_aidx (l := zAd) (vs) h u u u underlying194 u (by kernel_rfl) h1)<|zA 2 u<|zC<|jA 3 u<|zK u (jB 2 u<|qG<|zP<|jB 2 u<|qH (gv (fun _ k=>k) [0,1,2,3,4] (gq [0,1,2,3,4,5])))<|wG<|qG<|
  zP<|jB 2 u<|qH (gv (fun _ k=>k) [0,1,2,3,4] (gq [0,1,2,3,4,5])))<|qS<|qP<|qU<|qR<|zL (gv (fun _ k=>k) [0,1,2,3,4] (gq [0,1,2,3,4,5])))<|fun s2 _ k=>k<|zB<|zA 2 u<|zZ .s [0] [] zLK u u u (cq [0])<|
  fun r2 _ k p6 c6=>k<|wN .s (.agg #[vb false, vs [], vi 0, vi 0, vs []])<|fun b3=>qJ .s 5 u u u<|zC<|yD [10] [1, 5] 11<|zY 8 [0,1,2] u<|qT 3 0 u u<|wH 4 1 u u u u<|vQ 5 5 5 u u u u<|qB 6<|
  vD (.f u) (e := wP) 88 [vb r2.1.1.1, vs r2.1.1.2, vi r2.1.2.1, vi r2.1.2.2.1, vs r2.1.2.2.2] ([r2.1] : List vO) (rC (vP (vP vB vS) (vP vI (vP vI vS))) rN)<|fun p7 c7=>zX<|qB 7<|wL (.f u) 2 3 u (gk 0) u u<|
  fun x2 r_4 p8 c8=>zX<|zY 2 [8] u<|qT 9 0 u u<|qB 10<|qJ (o := 0) (.f u) 1 u u u<|jdb [] [1, 5]<|qQ<|zP<|zB<|qV 5 5 u u u<|qI zM2 u (cq [7,8])<|fun r3 _ k=>k<|zA 2 u<|zC<|zJ<|qO<|qE<|
  wQ u (lT u (lT u lN)) (fun _ k=>k p6 c6 p8 c8 r_4 p3 c3 r_2 p4 c4 r_3) [0,1,2,3,4] (gq [2,0,5,6]))<|wK (fun s4 K=>K [0,1,6,15] [] [0,1,2,3,4,5] [(45, vb s4)] []) (jA 2 u<|zK u (wG<|
  zL (gv (fun _ k=>k) [0,1,2,3,4] (gq [0,1,2,3,4,5])))<|jB 2 u<|zL (gv (fun _ k=>k) [0,1,2,3,4] (gq [0,1,2,3,4,5])))<|fun s4 _ k=>k<|zK u (zB<|zA 3 u<|zZ .s [0] [] zMe u u u (cq [0])<|
  fun r4 _ k p9 c9 p10 c10=>k<|wN .s (.agg #[vs [], vb false, vi 0, .slice none 0 0, vb false, vs []])<|fun b4=>qJ .s 5 u u u<|zC<|yD [10] [1, 5] 11<|zY 8 [0,1,2] u<|qT 3 1 u u<|wH 4 1 u u u u<|
  vQ 5 5 6 u u u u<|qB 6<|
  vD (.f u) (e := wF) 92 [vs r4.1.1, vb r4.1.2.1, vi r4.1.2.2.1, sv p9 r4.1.2.2.2.1 c9, vb r4.1.2.2.2.2.1, vs r4.1.2.2.2.2.2] ([r4.1] : List qK) (rC (vP vS (vP vB (vP vI (vP (vL (gk 0)) (vP vB vS))))) rN)<|fun p11 c11=>zX<|qB 7<|
  wL (.f u) 3 5 u (gk 0) u u<|fun x3 r_5 p12 c12=>zX<|zY 2 [8] u<|qT 9 1 u u<|qB 10<|qJ (o := 1) (.f u) 1 u u u<|jdb [] [1, 5]<|qQ<|zP<|zB<|qV 5 6 u u u<|qI zO5 u (cq [2,9])<|
  fun r5 _ k=>k<|zA 2 u<|zC<|zJ<|qO<|qE<|wQ u (lT u (lT u lN)) (fun _ k=>k p10 c10 p2 c2 r_1 p12 c12 r_5 p4 c4 r_3) [0,1,2,3,4] (gq [3,5,0,7]))<|jA 2 u<|zK u (zB<|zA 1 u<|
  zZ .s [0] [] zKH u u u (cq [0])<|fun r6 _ k p13 c13=>k<|wN .s (.agg #[vs [], vi 0, vb false, vs []])<|fun b5=>qJ .s 5 u u u<|zC<|yD [10] [1, 5] 11<|zY 8 [0,1,2] u<|qT 3 2 u u<|
  wH 4 1 u u u u<|vQ 5 5 4 u u u u<|qB 6<|vD (.f u) (e := wO) 105 [vs r6.1.1, vi r6.1.2.1, vb r6.1.2.2.1, vs r6.1.2.2.2] ([r6.1] : List vN) (rC (vP vS (vP vI (vP vB vS))) rN)<|fun p14 c14=>zX<|qB 7<|
  wL (.f u) 4 5 u (gk 0) u u<|fun x4 r_6 p15 c15=>zX<|zY 2 [8] u<|qT 9 2 u u<|qB 10<|qJ (o := 2) (.f u) 1 u u u<|jdb [] [1, 5]<|qQ<|zP<|zB<|qV 5 4 u u u<|qI zLU u (cq [8])<|
  fun r7 _ k=>k<|zA 2 u<|zC<|zJ<|qO<|qE<|wQ u (lT u (lT u lN)) (fun _ k=>k p13 c13 p2 c2 r_1 p3 c3 r_2 p15 c15 r_6) [0,1,2,3,4] (gq [2,4,5,0]))<|wG<|qG<|zP<|jA 2 u<|zJ<|
  wQ u (lT u (lT u lN)) (fun _ k=>k p5 c5 p2 c2 r_1 p3 c3 r_2 p4 c4 r_3) [0,1,2,3,4] (gq [0,1,2,3])
theorem zJ6 {qd : Prop} {y0 : qC} {y1 : qC} : qF qd prog 241 [vs y0, vs y1] [] [] (zGB y0 y1) fun r K=>K (vi r) [] [] := zXb Go.Proofs.Tryz.lays219 call241
theorem zKQ {qd : Prop} {y0 : qC} {y1 : qC} : qF qd prog 160 [vs y0, vs y1] [] [] (zGi y0 y1) fun r K=>K (.tuple #[vs r.1, vs r.2.1, vb r.2.2]) [] [] :=
 qA call160 func160 u fun X=>jA 3 u<|zG<|zB<|zA 2 u<|qI zJ6 u ⟨⟩<|fun r1 _ k=>k<|zA 1 u<|zC<|jA 2 u<|zK u (yD [] [] 12<|zY 10 [0,1] u<|yT fun x1 h1=>
  tC 2 u (fun h=>zRD h u underlying9 u u (.inl ⟨rfl, rfl⟩) (.inr ⟨_, rfl⟩) h1)<|zY 4 [3,4,5,6,7] u<|yT fun x2 h2=>tC 8 u (fun h=>zRD h u underlying9 u u (.inr ⟨_, rfl⟩) (.inl ⟨rfl, rfl⟩) h2)<|
  zY 0 [9,10,11] u<|qQ<|zP<|zJ<|qE<|wQ u (lT u (lT u (lT u lN))) (fun _ k=>k) [] ⟨⟩)<|jC<|jA 4 u<|zJ<|wQ u (lT u (lT u (lT u lN))) (fun _ k=>k) [] ⟨⟩
theorem zTT {qd : Prop} {y0 : qC} {y1 : qC} : qF qd prog 107 [vs y0, vs y1] [] [] (zPD y0 y1) fun r K=>K (.tuple #[vs r.1, vs r.2.1, vb r.2.2]) [] [] :=
 qA call107 func107 u fun X=>jA 3 u<|zB<|zA 2 u<|qI zKQ u ⟨⟩<|fun r1 _ k=>k<|zA 6 u<|zC<|zJ<|wQ u (lT u (lT u (lT u lN))) (fun _ k=>k) [] ⟨⟩
theorem zQi {y0 : qC} : qF False prog 108 [vs y0] [] [Tb prog "strings.asciiSpace" .u8 Lib.asciiSpaceTab, Wt 2] (zMK y0) fun r K=>∀ p1 c1,K (sv p1 r c1) [] [Rl vM p1 c1 r] := zX6 Go.Proofs.Tryz.lays157 (by kernel_rfl) (by kernel_rfl) (by kernel_rfl) call108
theorem zQg {y0 : qC} : qF False prog 62 [vs y0] [] [Tb prog "strings.asciiSpace" .u8 Lib.asciiSpaceTab, Pt (uK 4 vM) 1 0 zAd, Wt 2, Tb prog "internal/strconv.uint64pow10" .u64 Lib.pow10Tab] (zHI y0) fun r K=>∀ p1 c1 p2 c2 p3 c3,K (.tuple #[.agg #[sv p1 r.1.1 c1, sv p2 r.1.2.1 c2, sv p3 r.1.2.2 c3], vi r.2.1, vi r.2.2]) [] [Rl wP p1 c1 r.1.1, Rl wF p2 c2 r.1.2.1, Rl wO p3 c3 r.1.2.2] :=
 qA call62 func62 u fun X=>zB<|wN .s (.agg #[.slice none 0 0, .slice none 0 0, .slice none 0 0])<|fun b1=>zA 2 u<|zC<|zG<|jA 3 u<|zK u (zB<|zI (.agg #[.slice none 0 0, .slice none 0 0, .slice none 0 0])<|qJ .s 0 u u u<|zA 2 u<|zC<|zJ<|qE<|
  wQ u (lC 0 (.agg #[.slice none 0 0, .slice none 0 0, .slice none 0 0]) u u (lT u (lT u lN))) (fun _ k=>k none 0 none 0 none 0) [] ⟨gn,gn,gn,⟨⟩⟩)<|jC<|zB<|wN .s (.agg #[.slice none 0 0, .slice none 0 0, .slice none 0 0])<|
  fun b2=>vT wP 88<|vT wF 92<|vT wO 105<|zC<|jA 1 u<|
  zX2 (fun s1 K=>∀ p1 c1 r_1 p2 c2 r_2 p3 c3 r_3,K [2,5] [(1, bx b2 29 [sv p1 s1.1 c1, sv p2 s1.2.1 c2, sv p3 s1.2.2 c3]), (2, r_1), (3, r_2), (4, r_3)] [3,4,5,6] [] [Al wP 88 r_1 p1 c1 s1.1, Al wF 92 r_2 p2 c2 s1.2.1, Al wO 105 r_3 p3 c3 s1.2.2]) (
  jA 1 u<|zT<|
  qW (fun s2 K=>∀ p4 c4 r_4 p5 c5 r_5 p6 c6 r_6,K [2,5] [(1, bx b2 29 [sv p4 s2.2.2.2.1 c4, sv p5 s2.2.2.2.2.1 c5, sv p6 s2.2.2.2.2.2 c6]), (2, r_4), (3, r_5), (4, r_6)] [3,4,5,6] [(0, vs s2.1), (6, vi s2.2.1), (7, vi s2.2.2.1)] [Al wP 88 r_4 p4 c4 s2.2.2.2.1, Al wF 92 r_5 p5 c5 s2.2.2.2.2.1, Al wO 105 r_6 p6 c6 s2.2.2.2.2.2]) (gv (fun _ k=>k none 0 [] none 0 [] none 0 []) [0,1,2,3,4] (gq [2,1,0,3,4,5,6]))<|
  fun s2 _ k p4 c4 r_4 p5 c5 r_5 p6 c6 r_6=>k<|zG<|jA 2 u<|zK u (jC<|zG<|zT<|zB<|zA 1 u<|qI zTT u ⟨⟩<|fun r1 _ k=>k<|zA 7 u<|zC<|zB<|zA 1 u<|qI zQi u (cq [3,5])<|fun r2 _ k p7 c7=>k<|
  zI (.agg #[sv p7 r2 c7, vb false])<|qZ .s u<|fun b3=>zA 1 u<|zC<|zB<|zA 1 u<|zZ .s [5, 1, 2, 3, 4] [] zNm u u u (cq [0,1,2,3,5,7])<|fun r3 _ k p8 c8 p9 c9 r_7 p10 c10 r_8 p11 c11 r_9=>k<|zA 5 u<|zC<|
  zG<|tN (fun K=>K [2,5,7,9,12] [(5, [])] [1,2,3,8,9,10,11] [(63, vb ((!r1.2.2) || (r3.2.2.2.1 || ((decide (0 < (len r3.2.2.1))) || ((!(r3.2.1 == r1.1)) || (decide (r3.1 < s2.2.1)))))))] []) (qL<|zA 3 u<|
  yY (b := !r1.2.2) 40 u (fun hb1=>zA 4 u<|zI (vb true)<|zA 7 u<|zI (vb true)<|zA 4 u<|zI (vb true)<|zA 4 u<|zI (vb true)<|zU<|
  wW 63 (vb ((!r1.2.2) || (r3.2.2.2.1 || ((decide (0 < (len r3.2.2.1))) || ((!(r3.2.1 == r1.1)) || (decide (r3.1 < s2.2.1))))))) u (by rw [hb1]; rfl)<|zL (gv (fun _ k=>k) [0,1,2,3,4,905] (gq [1,2,3,8,9,10,11])))<|fun hb1=>zA 2 u<|
  zN 1 u<|zS 5 u u u<|zI (vb r3.2.2.2.1)<|zA 1 u<|yY (b := r3.2.2.2.1) 46 u (fun hb2=>zA 6 u<|zI (vb true)<|zA 4 u<|zI (vb true)<|zA 4 u<|zI (vb true)<|zU<|
  wW 63 (vb ((!r1.2.2) || (r3.2.2.2.1 || ((decide (0 < (len r3.2.2.1))) || ((!(r3.2.1 == r1.1)) || (decide (r3.1 < s2.2.1))))))) u (by rw [hb1,hb2]; rfl)<|zL (gv (fun _ k=>k) [0,1,2,3,4,905] (gq [1,2,3,8,9,10,11])))<|fun hb2=>zA 2 u<|
  zN 0 u<|zS 5 u u u<|zA 2 u<|zI (vb (decide (0 < (len r3.2.2.1))))<|zA 1 u<|yY (b := decide (0 < (len r3.2.2.1))) 54 u (fun hb3=>zA 3 u<|zI (vb true)<|zA 4 u<|zI (vb true)<|zU<|
  wW 63 (vb ((!r1.2.2) || (r3.2.2.2.1 || ((decide (0 < (len r3.2.2.1))) || ((!(r3.2.1 == r1.1)) || (decide (r3.1 < s2.2.1))))))) u (by rw [hb1,hb2,hb3]; rfl)<|zL (gv (fun _ k=>k) [0,1,2,3,4,905] (gq [1,2,3,8,9,10,11])))<|fun hb3=>
  zA 3 u<|zI (vb (!(r3.2.1 == r1.1)))<|zA 1 u<|yY (b := !(r3.2.1 == r1.1)) 59 u (fun hb4=>zA 3 u<|zI (vb true)<|zU<|
  wW 63 (vb ((!r1.2.2) || (r3.2.2.2.1 || ((decide (0 < (len r3.2.2.1))) || ((!(r3.2.1 == r1.1)) || (decide (r3.1 < s2.2.1))))))) u (by rw [hb1,hb2,hb3,hb4]; rfl)<|zL (gv (fun _ k=>k) [0,1,2,3,4,905] (gq [1,2,3,8,9,10,11])))<|fun hb4=>
  zA 3 u<|zI (vb (decide (r3.1 < s2.2.1)))<|zU<|wW 63 (vb ((!r1.2.2) || (r3.2.2.2.1 || ((decide (0 < (len r3.2.2.1))) || ((!(r3.2.1 == r1.1)) || (decide (r3.1 < s2.2.1))))))) u (by rw [hb1,hb2,hb3,hb4]; rfl)<|
  zL (gv (fun _ k=>k) [0,1,2,3,4,905] (gq [1,2,3,8,9,10,11])))<|fun _ k=>k<|zK u (zB<|zI (.agg #[.slice none 0 0, .slice none 0 0, .slice none 0 0])<|zA 1 u<|qJ .s 0 u u u<|zA 2 u<|zC<|zJ<|qE<|qO<|qE<|wU<|qO<|wU<|
  wQ u (lC 0 (.agg #[.slice none 0 0, .slice none 0 0, .slice none 0 0]) u u (lT u (lT u lN))) (fun _ k=>k none 0 none 0 none 0) [] ⟨gn,gn,gn,⟨⟩⟩)<|jC<|jB 4 u<|qG<|zP<|jB 3 u<|
  qH (gv (fun _ k=>k p9 c9 r_7 p10 c10 r_8 p11 c11 r_9) [0,1,2,3,4] (gq [0,1,2,3,4,5,6])))<|qS<|qP<|qU<|qR<|qH (gv (fun _ k=>k p4 c4 r_4 p5 c5 r_5 p6 c6 r_6) [0,1,2,3,4] (gq [0,1,2,3,4,5,6])))<|fun s1 _ k p1 c1 r_1 p2 c2 r_2 p3 c3 r_3=>
  k<|zG<|zB<|qV 1 3 u u u<|zZ .s [] [2, 3, 4] zKG u u u ⟨cl 2 0,cl 3 1,cl 4 2,⟨⟩⟩<|fun r4 _ k=>k<|zA 1 u<|zC<|jA 2 u<|zK u (zB<|zI (.agg #[.slice none 0 0, .slice none 0 0, .slice none 0 0])<|
  zA 1 u<|qJ .s 0 u u u<|zA 2 u<|zC<|zJ<|qE<|wQ u (lC 0 (.agg #[.slice none 0 0, .slice none 0 0, .slice none 0 0]) u u (lT u (lT u lN))) (fun _ k=>k none 0 none 0 none 0) [] ⟨gn,gn,gn,⟨⟩⟩)<|jC<|zB<|
  qV 1 3 u u u<|qJ .s 0 u u u<|zA 2 u<|zC<|zJ<|vF 2 0 u u<|vF 3 2 u u<|vF 4 4 u u<|
  wQ u (lC 0 (.agg #[sv p1 s1.1 c1, sv p2 s1.2.1 c2, sv p3 s1.2.2 c3]) u u (lT u (lT u lN))) (fun _ k=>k p1 c1 p2 c2 p3 c3) [] (gq [2,1,0])
theorem zNZ {y0 : qC} : qF False prog 24 [vs y0] [] [Tb prog "strings.asciiSpace" .u8 Lib.asciiSpaceTab, Pt (uK 4 vM) 1 0 zAd, Wt 2, Tb prog "internal/strconv.uint64pow10" .u64 Lib.pow10Tab] (zHY y0) fun r K=>∀ p1 c1 p2 c2 p3 c3,K (.agg #[sv p1 r.1 c1, sv p2 r.2.1 c2, sv p3 r.2.2 c3]) [] [Rl wP p1 c1 r.1, Rl wF p2 c2 r.2.1, Rl wO p3 c3 r.2.2] :=
 qA call24 func24 u fun X=>zB<|wN .s (.agg #[.slice none 0 0, .slice none 0 0, .slice none 0 0])<|fun b1=>zC<|zB<|zA 1 u<|qI zQg u (cq [0,1,2,3])<|fun r1 _ k p1 c1 p2 c2 p3 c3=>k<|zA 4 u<|
  wN .s (.agg #[.slice none 0 0, .slice none 0 0, .slice none 0 0])<|fun b2=>qJ .s 1 u u u<|zA 2 u<|zC<|zB<|qV 1 3 u u u<|qJ .s 0 u u u<|zC<|zJ<|
  wQ u (lC 0 (.agg #[sv p1 r1.1.1 c1, sv p2 r1.1.2.1 c2, sv p3 r1.1.2.2 c3]) u u lN) (fun _ k=>k p1 c1 p2 c2 p3 c3) [] (gq [0,1,2])
theorem zLs : qF False prog 7 [] [] [Tb prog "strings.asciiSpace" .u8 Lib.asciiSpaceTab, Pt (uK 4 vM) 1 0 zAd, Wt 2, Pt (uK 64 (zO .u8)) 4 0 xL, Tb prog "internal/strconv.uint64pow10" .u64 Lib.pow10Tab] (zDd) fun r K=>K (vb r) [] [] :=
 qA call7 func7 u fun X=>jA 1 u<|zB<|zI (.agg #[vi 1, vi 1])<|wN .s (.agg #[vi 0, vi 0])<|fun b1=>qJ .s 0 u u u<|zC<|yD [] [0] 8<|vQ 1 0 2 u u u u<|qB 0<|zZ (.f u) [] [] zNZ u u u (cq [0,1,2,4])<|
  fun r1 _ k p1 c1 p2 c2 p3 c3=>k<|zX<|qB 2<|zZ (.f u) [] [] zJH u u u (cq [0,1,2,6])<|fun r2 _ k p4 c4=>k<|zX<|zY 0 [3,4,5,6,7] u<|qQ<|zP<|yD [] [0] 8<|vQ 1 0 2 u u u u<|qB 0<|
  zZ (.f u) [] [] zNZ u u u (cq [4,5,6,8])<|fun r3 _ k p5 c5 p6 c6 p7 c7=>k<|zX<|qB 2<|zZ (.f u) [] [] zJH u u u (cq [0,1,2,10])<|fun r4 _ k p8 c8=>k<|zX<|zY 0 [3,4,5,6,7] u<|qQ<|zP<|
  yD [] [0] 8<|vQ 1 0 2 u u u u<|qB 0<|zZ (.f u) [] [] zNZ u u u (cq [8,9,10,12])<|fun r5 _ k p9 c9 p10 c10 p11 c11=>k<|zX<|qB 2<|zZ (.f u) [] [] zJH u u u (cq [0,1,2,14])<|
  fun r6 _ k p12 c12=>k<|zX<|zY 0 [3,4,5,6,7] u<|qQ<|zP<|wK (fun s1 K=>K [] [(0, [])] [12,13,14,15,16] [(0, vb s1)] []) (qL<|zA 2 u<|wM 28 u (zA 3 u<|zI (vb ((len r2.1) == 1))<|zA 1 u<|wM 33 u (zA 1 u<|
  wC 8 u u u<|fun x1 b2 o1=>wA true yI (gk 0) u<|zI (.agg #[vb true, vs [112]])<|zI (vb (x1 == (true, [112])))<|zI (vb (x1 == (true, [112])))<|zA 1 u<|wM 40 u (zA 1 u<|zI (vb r4.2)<|zA 1 u<|wM 43 u (
  zA 3 u<|zI (vb ((len r4.1) == 2))<|zA 1 u<|wM 48 u (zA 1 u<|wC 5 u u u<|fun x2 b3 o2=>wA true yI (gk 0) u<|zI (.agg #[vb true, vs [113]])<|zI (vb (x2 == (true, [113])))<|zI (vb (x2 == (true, [113])))<|
  zA 1 u<|wM 55 u (zA 1 u<|zI (vb r6.2)<|zA 1 u<|wM 58 u (zA 3 u<|zI (vb ((len r6.1) == 0))<|zA 1 u<|zU<|zL (gv (fun _ k=>k) [900] (gq [14,15,16,17,18])))<|zA 3 u<|zI (vb false)<|zA 1 u<|zU<|
  zL (gv (fun _ k=>k) [900] (gq [14,15,16,17,18])))<|zA 1 u<|zI (vb false)<|zA 4 u<|zI (vb false)<|zA 1 u<|zU<|zL (gv (fun _ k=>k) [900] (gq [14,15,16,17,18])))<|zA 5 u<|zI (vb false)<|zA 2 u<|zI (vb false)<|zA 4 u<|
  zI (vb false)<|zA 1 u<|zU<|zL (gv (fun _ k=>k) [900] (gq [13,14,15,16,17])))<|zA 3 u<|zI (vb false)<|zA 6 u<|zI (vb false)<|zA 2 u<|zI (vb false)<|zA 4 u<|zI (vb false)<|zA 1 u<|zU<|
  zL (gv (fun _ k=>k) [900] (gq [13,14,15,16,17])))<|zA 1 u<|zI (vb false)<|zA 4 u<|zI (vb false)<|zA 6 u<|zI (vb false)<|zA 2 u<|zI (vb false)<|zA 4 u<|zI (vb false)<|zA 1 u<|zU<|
  zL (gv (fun _ k=>k) [900] (gq [13,14,15,16,17])))<|zA 5 u<|zI (vb false)<|zA 2 u<|zI (vb false)<|zA 4 u<|zI (vb false)<|zA 6 u<|zI (vb false)<|zA 2 u<|zI (vb false)<|zA 4 u<|zI (vb false)<|zA 1 u<|zU<|
  zL (gv (fun _ k=>k) [900] (gq [12,13,14,15,16])))<|zA 3 u<|zI (vb false)<|zA 6 u<|zI (vb false)<|zA 2 u<|zI (vb false)<|zA 4 u<|zI (vb false)<|zA 6 u<|zI (vb false)<|zA 2 u<|zI (vb false)<|zA 4 u<|
  zI (vb false)<|zA 1 u<|zU<|zL (gv (fun _ k=>k) [900] (gq [12,13,14,15,16])))<|fun s1 _ k=>k<|zJ<|zQ u u (fun _ k=>k) [] ⟨⟩
theorem zMl {qd : Prop} {y0 : Int} : qF qd prog 50 [vi y0] [] [] (zE3 y0) fun r K=>K (vs r) [] [] :=
 qA call50 func50 u fun X=>jA 1 u<|zB<|zA 1 u<|qI zSc u ⟨⟩<|fun r1 _ k=>k<|zA 1 u<|zI (.int .u8 (IntKind.u8.wrap (zR ((97 : Int) + r1))))<|
  vD .s (e := zO .u8) 5 [.int .u8 (IntKind.u8.wrap (zR ((97 : Int) + r1)))] ([IntKind.u8.wrap (zR ((97 : Int) + r1))] : List Int) (rC vI rN)<|fun p1 c1=>jsb .s (gk 0) u underlying150 underlying5 underlying9<|yT fun x1 h1=>
  jv (fun h=>zPj h u u h1)<|zA 1 u<|zC<|zJ<|zQ u u (fun _ k=>k) [] ⟨⟩
theorem zFv {qd : Prop} {y0 : uQ} {y1 : Int} : qF qd prog 47 [pt b1 0, vi y1] [bx b1 65 [sv p1 y0.1 c1, vi y0.2]] [Rl (zO .i64) p1 c1 y0.1] (zCE y0 y1) fun r K=>K (.agg #[vb r.1.1, vs r.1.2]) [bx b1 65 [sv p1 y0.1 c1, vi r.2]] [] :=
 qA call47 func47 u fun X=>zB<|wN .s (.agg #[vb false, vs []])<|fun b2=>zC<|zB<|zA 3 u<|zZ .s [0] [] zAl u u u (cq [0])<|fun r1 _ k=>k<|zA 1 u<|zC<|zB<|zA 4 u<|yT fun x1 h1=>jv (fun h=>z1u h u u h1)<|zA 1 u<|
  zI (.int .u8 (IntKind.u8.wrap (zR ((97 : Int) + x1))))<|vD .s (e := zO .u8) 5 [.int .u8 (IntKind.u8.wrap (zR ((97 : Int) + x1)))] ([IntKind.u8.wrap (zR ((97 : Int) + x1))] : List Int) (rC vI rN)<|fun p2 c2=>
  jsb .s (gk 0) u underlying150 underlying5 underlying9<|zI (.agg #[vb ((yG .i64 r1.1 1) == 1), vs (zQV ([IntKind.u8.wrap (zR ((97 : Int) + x1))] : List Int))])<|qJ .s 1 u u u<|zC<|zJ<|
  wQ u (lC 1 (.agg #[vb ((yG .i64 r1.1 1) == 1), vs (zQV ([IntKind.u8.wrap (zR ((97 : Int) + x1))] : List Int))]) u u lN) (fun _ k=>k) [0] ⟨⟩
theorem zOX {qd : Prop} {y0 : uQ} {y1 : Int} {y2 : Int} : qF qd prog 52 [pt b1 0, vi y1, vi y2] [bx b1 65 [sv p1 y0.1 c1, vi y0.2]] [Rl (zO .i64) p1 c1 y0.1] (zEz y0 y1 y2) fun r K=>∀ p2 c2,K (sv p2 r.1 c2) [bx b1 65 [sv p1 y0.1 c1, vi r.2]] [Rl wI p2 c2 r.1] :=
 qA call52 func52 u fun X=>jA 1 u<|zB<|zA 1 u<|vT wI 62<|zC<|zG<|zB<|zA 3 u<|zZ .s [0] [] zAl u u u (cq [1])<|fun r1 _ k=>k<|zA 1 u<|zC<|zT<|
  qW (fun s1 K=>∀ p2 c2 r_1,K [0,2] [(0, bx b1 65 [sv p1 y0.1 c1, vi s1.2.2]), (1, r_1)] [1] [(7, sv p2 s1.1 c2), (8, vi s1.2.1)] [Al wI 62 r_1 p2 c2 s1.1]) (gv (fun _ k=>k none 0 []) [0,1] (gq [0,1]))<|fun s1 _ k p2 c2 r_1=>k<|zG<|
  jA 2 u<|zK u (jC<|zG<|zT<|qL<|zA 3 u<|zZ .s [0] [] zFv u u u (cq [1])<|fun r2 _ k=>k<|vD .s (e := wI) 62 [vb r2.1.1, vs r2.1.2] ([r2.1] : List zF) (rC (vP vB vS) rN)<|fun p3 c3=>
  wL .s 1 1 u (gk 0) u u<|fun x1 r_2 p4 c4=>zA 1 u<|zU<|qG<|zP<|jB 3 u<|qH (gv (fun _ k=>k p4 c4 r_2) [0,1] (gq [0,3])))<|qS<|qP<|qU<|qR<|zP<|jA 2 u<|zJ<|vF 1 0 u u<|zQ u u (fun _ k=>k p2 c2) [0] (gq [0])
theorem zRQ {qd : Prop} {y0 : uQ} {y1 : List Int} : qF qd prog 48 [pt b1 0, sv p2 y1 c2] [bx b1 65 [sv p1 y0.1 c1, vi y0.2]] [Rl (zO .i64) p1 c1 y0.1, Rl (zO .i64) p2 c2 y1] (zHs y0 y1) fun r K=>K (vi r.1) [bx b1 65 [sv p1 y0.1 c1, vi r.2]] [] :=
 qA call48 func48 u fun X=>jA 1 u<|zB<|zA 4 u<|zZ .s [0] [] zAl u u u (cq [0])<|fun r1 _ k=>k<|wC 1 u u u<|fun x1 b2 o1=>wA false oI (gk 0) u<|zA 1 u<|zC<|zJ<|zQ u u (fun _ k=>k) [0] ⟨⟩
theorem zRV {qd : Prop} {y0 : uQ} {y1 : List qC} : qF qd prog 49 [pt b1 0, sv p2 y1 c2] [bx b1 65 [sv p1 y0.1 c1, vi y0.2]] [Rl (zO .i64) p1 c1 y0.1, Rl vM p2 c2 y1] (zHk y0 y1) fun r K=>K (vs r.1) [bx b1 65 [sv p1 y0.1 c1, vi r.2]] [] :=
 qA call49 func49 u fun X=>jA 1 u<|zB<|zA 4 u<|zZ .s [0] [] zAl u u u (cq [0])<|fun r1 _ k=>k<|wC 1 u u u<|fun x1 b2 o1=>wA false oS (gk 0) u<|zA 1 u<|zC<|zJ<|zQ u u (fun _ k=>k) [0] ⟨⟩
theorem zTe {qd : Prop} {y0 : List zF} : qF qd prog 51 [sv p1 y0 c1] [] [Rl wI p1 c1 y0] (zJ4 y0) fun r K=>∀ p2 c2,K (sv p2 r c2) [] [Rl wI p2 c2 r] :=
 qA call51 func51 u fun X=>jA 1 u<|zB<|zA 1 u<|vT wI 62<|zC<|zG<|jA 3 u<|zT<|qW (fun s1 K=>∀ p2 c2 r_1,K [7,8] [(0, r_1)] [1] [(3, sv p2 s1.1 c2), (9, vi s1.2)] [Al wI 62 r_1 p2 c2 s1.1]) (gv (fun _ k=>k none 0 []) [0] (gq [0,1]))<|
  fun s1 _ k p2 c2 r_1=>k<|jA 1 u<|zG<|zK u (jC<|zG<|zT<|zB<|wC 1 u u u<|fun x1 b1 o1=>wA true yI (gk 0) u<|wN .s (.agg #[vb false, vs []])<|fun b2=>qJ .s 1 u u u<|zC<|jA 1 u<|
  wK (fun s2 K=>K [3,5,7,8,9] [] [1,2] [(6, vi s2)] []) (zT<|qW (fun s3 K=>K [3,5,7,8,9] [] [1,2] [(6, vi s3)] []) (gv (fun _ k=>k) [0,1] (gq [1,2]))<|fun s3 _ k=>k<|zG<|wK (fun s4 K=>K [3,5,6,7,8,9] [] [0,1] [(48, vb s4)] []) (
  uT [] [0, 1] 36<|zY 31 [0,1,2,3,4] u<|wM 17 u (zY 29 [5,6] u<|jdI 7 0 u u u u<|fun x2 h1 b3 hp1=>qT 8 1 u u<|jdL 9 0 0 sI.snd false oS u u hp1 h1 u<|qT 10 1 u u<|wH 11 1 u u u u<|
  zY 22 [12,13] u<|wM 26 u (zY 2 [14,15,16,17,18,19,20,21,22,23,24,25,26,27,28,29,30,31,32,33] u<|wR 34 (vb true) u<|wR 35 (vb true) u<|qQ<|zL (gv (fun _ k=>k) [0,1] (gq [0,1])))<|zY 20 [14,15] u<|
  jdI 16 0 u u u u<|fun x3 h2 b4 hp2=>qT 17 1 u u<|jdL 18 0 0 sI.snd false oS u u hp2 h2 u<|qT 19 1 u u<|wH 20 1 u u u u<|zY 13 [21,22] u<|wM 35 u (zY 11 [23,24] u<|jdI 25 0 u u u u<|
  fun x4 h3 b5 hp3=>qT 26 0 u u<|jdL 27 0 0 sI.fst false oB u u hp3 h3 u<|zY 7 [28] u<|wR 29 (vb (!x4.1)) u<|zY 5 [30] u<|wM 43 u (qT 31 0 u u<|wH 32 1 u u u u<|wR 33 (vb x1.1) u<|wR 34 (vb x1.1) u<|
  wR 35 (vb x1.1) u<|qQ<|zL (gv (fun _ k=>k) [0,1] (gq [0,1])))<|zY 3 [31,32] u<|wR 33 (vb false) u<|wR 34 (vb false) u<|wR 35 (vb false) u<|qQ<|zL (gv (fun _ k=>k) [0,1] (gq [0,1])))<|zY 7 [23,24,25,26,27,28] u<|
  wR 29 (vb false) u<|zY 3 [30,31,32] u<|wR 33 (vb false) u<|wR 34 (vb false) u<|wR 35 (vb false) u<|qQ<|zL (gv (fun _ k=>k) [0,1] (gq [0,1])))<|
  zY 1 [5,6,7,8,9,10,11,12,13,14,15,16,17,18,19,20,21,22,23,24,25,26,27,28,29,30,31,32,33,34] u<|wR 35 (vb false) u<|qQ<|zL (gv (fun _ k=>k) [0,1] (gq [0,1])))<|fun s4 _ k=>k<|zK u (jC<|zT<|jB 3 u<|qG<|
  qH (gv (fun _ k=>k) [0,1] (gq [0,1])))<|qS<|qP<|qU<|qR<|zL (gv (fun _ k=>k) [0,1] (gq [0,1])))<|fun s2 _ k=>k<|zG<|wK (fun s5 K=>K [3,5,6,7,8,9] [] [0,1] [(62, vb s5)] []) (uT [] [0, 1] 12<|zY 7 [0,1,2,3,4] u<|wM 55 u (
  zY 5 [5,6] u<|jdI 7 0 u u u u<|fun x5 h4 b6 hp4=>jdL 8 0 0 sI true yI u u hp4 h4 u<|vQ 9 1 2 u u u u<|wR 10 (vb (x5 == x1)) u<|wR 11 (vb (x5 == x1)) u<|qQ<|zL (gv (fun _ k=>k) [0,1] (gq [0,1])))<|
  zY 1 [5,6,7,8,9,10] u<|wR 11 (vb false) u<|qQ<|zL (gv (fun _ k=>k) [0,1] (gq [0,1])))<|fun s5 _ k=>k<|zK u (qS<|qP<|qR<|zP<|jB 2 u<|qH (gv (fun _ k=>k p2 c2 r_1) [0] (gq [0,1])))<|jC<|zB<|zA 1 u<|
  zI (.agg #[vb false, vs []])<|vD .s (e := wI) 62 [vb false, vs []] ([(false, [])] : List zF) (rC (vP vB vS) rN)<|fun p3 c3=>wL .s 0 1 u (gk 0) u u<|fun x6 r_2 p4 c4=>zA 1 u<|zC<|yD [] [] 8<|zY 5 [0,1,2] u<|
  jdV 3 0 u u u u<|fun u1 p5 c5 f1=>zY 2 [4,5] u<|jdV 6 0 u u u u<|fun u2 p6 c6 f2=>qB 7<|jcp (.f u) 0 0 u (vwV f1) (srV 0 0 f2 u) u u<|fun r_3=>zX<|qQ<|zP<|qL<|zA 2 u<|qV 1 2 u u u<|
  jia 0 u u u<|fun x7 h6 b7 hp5=>jsA .s 0 0 sI x1 true u hp5 h6 u u (vP vB vS)<|fun r_4=>zU<|qG<|zP<|jB 2 u<|jrE 0 3 u u<|qH (gv (fun _ k=>k p4 c4 r_4) [0] (gq [0,6])))<|qS<|qP<|qU<|qR<|zP<|jA 2 u<|zJ<|
  vF 0 0 u u<|zQ u u (fun _ k=>k p2 c2) [] (gq [0])
theorem zRG {qd : Prop} {y0 : uQ} {y1 : Int} {y2 : Int} {y3 : Int} : qF qd prog 19 [pt b1 0, vi y1, vi y2, vi y3] [bx b1 65 [sv p1 y0.1 c1, vi y0.2]] [Rl (zO .i64) p1 c1 y0.1] (zHn y0 y1 y2 y3) fun r K=>∀ p2 c2 p3 c3 p4 c4,K (.agg #[sv p2 r.1.1 c2, sv p3 r.1.2.1 c3, sv p4 r.1.2.2 c4]) [bx b1 65 [sv p1 y0.1 c1, vi r.2]] [Rl wP p2 c2 r.1.1, Rl wF p3 c3 r.1.2.1, Rl wO p4 c4 r.1.2.2] :=
 qA call19 func19 u fun X=>zB<|wN .s (.agg #[.slice none 0 0, .slice none 0 0, .slice none 0 0])<|fun b2=>zC<|zB<|wN .s (.agg #[.slice none 0 0, .slice none 0 0, .slice none 0 0])<|fun b3=>vT wP 88<|vT wF 92<|vT wO 105<|zC<|
  wK (fun s1 K=>∀ p2 c2 r_1,K [0,1,3,8,9] [(0, bx b1 65 [sv p1 y0.1 c1, vi s1.1]), (2, bx b3 29 [sv p2 s1.2 c2, sv none ([] : List qK) 0, sv none ([] : List vN) 0]), (3, r_1)] [3,1,0] [] [Al wP 88 r_1 p2 c2 s1.2]) (zB<|
  zA 3 u<|zZ .s [0] [] zAl u u u (cq [3])<|fun r1 _ k=>k<|zA 1 u<|zC<|zT<|
  qW (fun s2 K=>∀ p3 c3 r_2,K [0,1,3,8,9] [(0, bx b1 65 [sv p1 y0.1 c1, vi s2.2.1]), (2, bx b3 29 [sv p3 s2.2.2 c3, sv none ([] : List qK) 0, sv none ([] : List vN) 0]), (3, r_2)] [3,1,0] [(10, vi s2.1)] [Al wP 88 r_2 p3 c3 s2.2.2]) (gv (fun _ k=>k none 0 []) [0,1,2,3,4,5] (gq [2,3,1,0]))<|
  fun s2 _ k p3 c3 r_2=>k<|zG<|jA 2 u<|zK u (jC<|zG<|zT<|zB<|zA 2 u<|zZ .s [0] [] zFv u u u (cq [1])<|fun r2 _ k=>k<|zA 1 u<|
  vD .s (e := zO .i64) 3 [vi 1, vi 2, vi 2, vi 2, vi 3] ([1, 2, 2, 2, 3] : List Int) (rC vI (rC vI (rC vI (rC vI (rC vI rN)))))<|fun p4 c4=>zZ .s [0] [] zRQ u u u (cq [2,0])<|fun r3 _ k=>k<|zA 1 u<|
  vD .s (e := vM) 9 [vs [], vs [], vs [97, 110, 110], vs [98, 111, 98]] ([[], [], [97, 110, 110], [98, 111, 98]] : List qC) (rC vS (rC vS (rC vS (rC vS rN))))<|fun p5 c5=>zZ .s [0] [] zRV u u u (cq [3,0])<|fun r4 _ k=>
  k<|zI (.agg #[vb r2.1.1, vs r2.1.2, vi r3.1, vi 0, vs r4.1])<|wN .s (.agg #[vb false, vs [], vi 0, vi 0, vs []])<|fun b4=>qJ .s 6 u u u<|zC<|
  wK (fun s3 K=>K [0,1,3,8,9,10,11] [(0, bx b1 65 [sv p1 y0.1 c1, vi s3.1]), (6, bx b4 88 [vb r2.1.1, vs r2.1.2, vi r3.1, vi s3.2, vs r4.1])] [3,2,4,5] [] []) (zB<|zN 2 u<|zS 6 u u u<|zA 1 u<|zC<|zK u (qL<|zA 1 u<|
  zZ .s [0] [] zAl u u u (cq [3])<|fun r5 _ k=>k<|zN 3 u<|qJ .s 6 u u u<|zU<|zL (gv (fun _ k=>k) [0,1,2,3,4,5,6] (gq [3,2,4,5])))<|wG<|zL (gv (fun _ k=>k) [0,1,2,3,4,5,6] (gq [3,2,4,5])))<|fun s3 _ k=>k<|
  jA 1 u<|wK (fun s4 K=>K [0,1,3,8,9,10,11] [] [0,1,2,3] [(12, vb s4)] []) (zB<|zN 0 u<|zS 2 u u u<|zA 2 u<|zC<|zT<|
  qW (fun s5 K=>K [0,1,3,8,9,10,11,44,45] [] [1,0,2,3] [(12, vb s5.1), (46, vi s5.2)] []) (gv (fun _ k=>k) [0,1,2,3,4,5,6] (gq [1,0,2,3]))<|fun s5 _ k=>k<|jA 1 u<|zG<|zK u (jC<|zG<|zT<|zB<|jia 0 u u u<|fun x1 h1 b5 hp1=>
  jlA 3 0 sI true zLa u hp1 h1 u<|wN .s (.agg #[vb false, vs [], vi 0, vi 0, vs []])<|fun b6=>qJ .s 7 u u u<|zC<|jjqK (fun K=>K [0,1,3,8,9,10,11,44,45,46] [(7, [])] [0,1,2,3] [(12, vb (s5.1 || (x1.1 == r2.1)))] []) (qL<|
  zA 2 u<|yY (b := s5.1) 51 u (fun hb1=>zA 5 u<|zI (vb true)<|zA 1 u<|zU<|wW 12 (vb (s5.1 || (x1.1 == r2.1))) u (by rw [hb1]; rfl)<|zL (gv (fun _ k=>k) [0,1,2,3,4,5,6,907] (gq [0,1,2,3])))<|fun hb1=>zN 0 u<|
  qV 7 2 u u u<|zN 0 u<|qV 6 2 u u u<|zI (vb (x1.1 == r2.1))<|zI (vb (x1.1 == r2.1))<|zA 1 u<|zU<|wW 12 (vb (s5.1 || (x1.1 == r2.1))) u (by rw [hb1]; rfl)<|zL (gv (fun _ k=>k) [0,1,2,3,4,5,6,907] (gq [0,1,2,3])))<|
  fun _ k=>k<|qG<|zP<|jB 2 u<|qH (gv (fun _ k=>k) [0,1,2,3,4,5,6] (gq [0,1,2,3])))<|qS<|qP<|qU<|qR<|zL (gv (fun _ k=>k) [0,1,2,3,4,5,6] (gq [1,0,2,3])))<|fun s4 _ k=>k<|jA 2 u<|zK u (qL<|zN 0 u<|zS 2 u u u<|
  qV 6 5 u u u<|vD .s (e := wP) 88 [vb r2.1.1, vs r2.1.2, vi r3.1, vi s3.2, vs r4.1] ([(r2.1, r3.1, s3.2, r4.1)] : List vO) (rC (vP (vP vB vS) (vP vI (vP vI vS))) rN)<|fun p6 c6=>wL .s 3 2 u (gk 0) u u<|
  fun x2 r_3 p7 c7=>zN 0 u<|qJ .s 2 u u u<|zU<|qG<|zP<|jB 3 u<|qH (gv (fun _ k=>k p7 c7 r_3) [0,1,2,3,4,5] (gq [0,2,4,5])))<|wG<|qG<|zP<|jB 3 u<|qH (gv (fun _ k=>k p3 c3 r_2) [0,1,2,3,4,5] (gq [1,0,2,3])))<|qS<|qP<|
  qU<|qR<|zL (gv (fun _ k=>k p3 c3 r_2) [0,1,2,3,4,5] (gq [0,1,2,3])))<|fun s1 _ k p2 c2 r_1=>k<|
  wK (fun s6 K=>∀ p8 c8 r_4,K [0,1,8,9] [(0, bx b1 65 [sv p1 y0.1 c1, vi s6.1]), (2, bx b3 29 [sv p2 s1.2 c2, sv p8 s6.2 c8, sv none ([] : List vN) 0]), (4, r_4)] [1,0,3] [] [Al wF 92 r_4 p8 c8 s6.2]) (zB<|zA 3 u<|
  zZ .s [0] [] zAl u u u (cq [1])<|fun r6 _ k=>k<|zA 1 u<|zC<|zT<|
  qW (fun s7 K=>∀ p9 c9 r_5,K [0,1,3,8,9] [(0, bx b1 65 [sv p1 y0.1 c1, vi s7.2.1]), (2, bx b3 29 [sv p2 s1.2 c2, sv p9 s7.2.2 c9, sv none ([] : List vN) 0]), (4, r_5)] [1,0,3] [(15, vi s7.1)] [Al wF 92 r_5 p9 c9 s7.2.2]) (gv (fun _ k=>k none 0 []) [0,1,2,3,4,5] (gq [2,1,0,3]))<|
  fun s7 _ k p9 c9 r_5=>k<|zG<|jA 2 u<|zK u (jC<|zG<|zT<|zB<|zN 1 u<|zS 2 u u u<|zA 1 u<|qI zMl u ⟨⟩<|fun r7 _ k=>k<|zA 1 u<|zZ .s [0] [] zAl u u u (cq [1])<|fun r8 _ k=>k<|zA 3 u<|
  zZ .s [0] [] zOX u u u (cq [1])<|fun r9 _ k p10 c10=>k<|qI zTe u (cq [0])<|fun r10 _ k p11 c11=>k<|zA 2 u<|zZ .s [0] [] zFv u u u (cq [3])<|fun r11 _ k=>k<|
  zI (.agg #[vs r7, vb (r8.1 == 0), vi 0, sv p11 r10 c11, vb r11.1.1, vs r11.1.2])<|wN .s (.agg #[vs [], vb false, vi 0, .slice none 0 0, vb false, vs []])<|fun b7=>qJ .s 6 u u u<|zC<|
  wK (fun s8 K=>K [0,1,3,8,9,15,16] [(0, bx b1 65 [sv p1 y0.1 c1, vi s8.1]), (6, bx b7 92 [vs r7, vb (r8.1 == 0), vi s8.2, sv p11 r10 c11, vb r11.1.1, vs r11.1.2])] [3,4,2,5,0] [] []) (zB<|zN 1 u<|zS 6 u u u<|zA 1 u<|zC<|
  zK u (qL<|zA 1 u<|zZ .s [0] [] zAl u u u (cq [3])<|fun r12 _ k=>k<|zN 2 u<|qJ .s 6 u u u<|zU<|zL (gv (fun _ k=>k) [0,1,2,3,4,5,6] (gq [3,4,2,5,0])))<|wG<|
  zL (gv (fun _ k=>k) [0,1,2,3,4,5,6] (gq [3,4,2,5,0])))<|fun s8 _ k=>k<|
  wK (fun s9 K=>K [0,1,3,8,9,15,16] [(0, bx b1 65 [sv p1 y0.1 c1, vi s9.1]), (6, bx b7 92 [vs r7, vb (r8.1 == 0), vi s8.2, sv p11 r10 c11, vb s9.2.1, vs s9.2.2])] [0,1,2,3,4] [] []) (zB<|zA 1 u<|
  zZ .s [0] [] zAl u u u (cq [0])<|fun r13 _ k=>k<|zA 1 u<|zC<|zK u (qL<|zA 1 u<|zZ .s [0] [] zAl u u u (cq [0])<|fun r14 _ k=>k<|zA 3 u<|zZ .s [0] [] zAl u u u (cq [0])<|
  fun r15 _ k=>k<|qI zMl u ⟨⟩<|fun r16 _ k=>k<|zI (.agg #[vb (decide (0 < r14.1)), vs r16])<|zN 4 u<|qJ .s 6 u u u<|zU<|zL (gv (fun _ k=>k) [0,1,2,3,4,5,6] (gq [0,1,2,3,4])))<|wG<|
  zL (gv (fun _ k=>k) [0,1,2,3,4,5,6] (gq [0,1,2,3,4])))<|fun s9 _ k=>k<|qL<|zN 1 u<|zS 2 u u u<|qV 6 6 u u u<|
  vD .s (e := wF) 92 [vs r7, vb (r8.1 == 0), vi s8.2, sv p11 r10 c11, vb s9.2.1, vs s9.2.2] ([(r7, r8.1 == 0, s8.2, r10, (s9.2.1, s9.2.2))] : List qK) (rC (vP vS (vP vB (vP vI (vP (vL (gk 4)) (vP vB vS))))) rN)<|fun p12 c12=>
  wL .s 4 3 u (gk 0) u u<|fun x3 r_6 p13 c13=>zN 1 u<|qJ .s 2 u u u<|zU<|qG<|zP<|jB 3 u<|qH (gv (fun _ k=>k p13 c13 r_6) [0,1,2,3,4,5] (gq [0,2,3,5])))<|qS<|qP<|qU<|qR<|
  zL (gv (fun _ k=>k p9 c9 r_5) [0,1,2,3,4,5] (gq [0,1,2,3])))<|fun s6 _ k p8 c8 r_4=>k<|
  wK (fun s10 K=>∀ p14 c14 r_7,K [8,9] [(0, bx b1 65 [sv p1 y0.1 c1, vi s10.1]), (2, bx b3 29 [sv p2 s1.2 c2, sv p8 s6.2 c8, sv p14 s10.2 c14]), (5, r_7)] [1,2,0] [] [Al wO 105 r_7 p14 c14 s10.2]) (zB<|zA 1 u<|
  zZ .s [0] [] zAl u u u (cq [1])<|fun r17 _ k=>k<|zA 1 u<|zC<|zT<|
  qW (fun s11 K=>∀ p15 c15 r_8,K [0,1,8,9] [(0, bx b1 65 [sv p1 y0.1 c1, vi s11.2.1]), (2, bx b3 29 [sv p2 s1.2 c2, sv p8 s6.2 c8, sv p15 s11.2.2 c15]), (5, r_8)] [1,2,0] [(17, vi s11.1)] [Al wO 105 r_8 p15 c15 s11.2.2]) (gv (fun _ k=>k none 0 []) [0,1,2,3,4,5] (gq [3,1,2,0]))<|
  fun s11 _ k p15 c15 r_8=>k<|zG<|tN (fun K=>K [0,1,8,9,17] [] [1,2,3,0] [(123, vb ((decide (0 < s11.1)) && (decide (0 < (len s6.2)))))] []) (qL<|zA 3 u<|yY (b := decide (0 < s11.1)) 118 u (fun hb2=>zN 1 u<|zS 2 u u u<|
  zA 2 u<|zI (vb (decide (0 < (len s6.2))))<|zU<|wW 123 (vb ((decide (0 < s11.1)) && (decide (0 < (len s6.2))))) u (by rw [hb2]; rfl)<|zL (gv (fun _ k=>k) [0,1,2,3,4,5] (gq [1,2,3,0])))<|fun hb2=>zA 4 u<|zI (vb false)<|zU<|
  wW 123 (vb ((decide (0 < s11.1)) && (decide (0 < (len s6.2))))) u (by rw [hb2]; rfl)<|zL (gv (fun _ k=>k) [0,1,2,3,4,5] (gq [1,2,3,0])))<|fun _ k=>k<|zK u (jC<|zG<|zT<|
  wK (fun s12 K=>∀ b8 p16 c16,K [0,1,8,9,17] [(0, bx b1 65 [sv p1 y0.1 c1, vi s12.1]), (6, bx b8 92 [vs s12.2.1, vb s12.2.2.1, vi s12.2.2.2.1, sv p16 s12.2.2.2.2.1 c16, vb s12.2.2.2.2.2.1, vs s12.2.2.2.2.2.2])] [0,1,2,3] [(18, pt b8 0)] [Rl wI p16 c16 s12.2.2.2.2.1]) (
  uT [] [2, 4] 11<|qT 0 1 u u<|wH 1 2 u u u u<|zY 8 [2] u<|qT 3 1 u u<|wH 4 2 u u u u<|zY 5 [5] u<|jd2 6 9 (zZ (.f u) [0] [] zAl u u u (cq [0])<|fun r18 _ k=>k<|zX<|
  jdI 7 2 u u u u<|fun x4 h4 b9 hp2=>jdL 8 4 2 sI true zL5 u u hp2 h4 u<|fun p17 c17=>qB 9<|wN (.f u) (.agg #[vs [], vb false, vi 0, .slice none 0 0, vb false, vs []])<|fun b10=>zX<|qB 10<|
  qJ (o := 0) (.f u) 6 u u u<|zX<|qQ<|zL (gv (fun _ k=>k b10 p17 c17) [0,1,2,3,4,5,6] (gq [0,1,2,3,4]))) <|wN (.f u) (.agg #[vs [], vb false, vi 0, .slice none 0 0, vb false, vs []])<|fun b11=>zX<|qB 6<|
  zZ (.f u) [0] [] zAl u u u (cq [0])<|fun r19 _ k=>k<|zX<|jdI 7 2 u u u u<|fun x5 h5 b12 hp3=>jdL 8 4 2 sI true zL5 u u hp3 h5 u<|fun p18 c18=>qB 10<|qJ (o := 0) (.f u) 6 u u u<|zX<|qQ<|
  zL (gv (fun _ k=>k b11 p18 c18) [0,1,2,3,4,5,6] (gq [0,1,2,3,4])))<|fun s12 _ k b8 p16 c16=>k<|zB<|zN 1 u<|zS 6 u u u<|zA 1 u<|zC<|zK u (uT [13] [2, 6] 14<|qT 0 2 u u<|wH 1 2 u u u u<|qT 2 0 u u<|
  wH 3 6 u u u u<|zY 7 [4,6,7] u<|qB 5<|zZ (.f u) [0] [] zAl u u u (cq [1])<|fun r20 _ k=>k<|zX<|qB 8<|zZ (.f u) [0] [] zFv u u u (cq [1])<|fun r21 _ k=>k<|zX<|
  wR 9 (.agg #[vs s12.2.1, vi r20.1, vb r21.1.1, vs r21.1.2]) u<|qB 10<|vD (.f u) (e := wO) 105 [vs s12.2.1, vi r20.1, vb r21.1.1, vs r21.1.2] ([(s12.2.1, r20.1, r21.1)] : List vN) (rC (vP vS (vP vI (vP vB vS))) rN)<|
  fun p19 c19=>zX<|qB 11<|wL (.f u) 5 5 u (gk 0) u u<|fun x6 r_9 p20 c20=>zX<|qT 12 2 u u<|qB 13<|qJ (o := 2) (.f u) 2 u u u<|jdb [] [2, 6]<|qQ<|qG<|zP<|jB 3 u<|
  qH (gv (fun _ k=>k p20 c20 r_9) [0,1,2,3,4,5] (gq [0,3,4,5])))<|wG<|qG<|zP<|jB 3 u<|qH (gv (fun _ k=>k p15 c15 r_8) [0,1,2,3,4,5] (gq [4,1,2,3])))<|qS<|qP<|qU<|qR<|zL (gv (fun _ k=>k p15 c15 r_8) [0,1,2,3,4,5] (gq [3,0,1,2])))<|
  fun s10 _ k p14 c14 r_7=>k<|zB<|qV 2 3 u u u<|qJ .s 1 u u u<|zC<|zJ<|vF 3 2 u u<|vF 4 4 u u<|vF 5 2 u u<|
  wQ u (lC 1 (.agg #[sv p2 s1.2 c2, sv p8 s6.2 c8, sv p14 s10.2 c14]) u u lN) (fun _ k=>k p2 c2 p8 c8 p14 c14) [0] (gq [2,1,0])
theorem zHr {qd : Prop} {y0 : zF} : qF qd prog 38 [.agg #[vb y0.1, vs y0.2]] [] [] (zCg y0) fun r K=>K (.agg #[vb r.1, vs r.2]) [] [] :=
 qA call38 func38 u fun X=>zB<|qZ .s u<|fun b1=>wN .s (.agg #[vb false, vs []])<|fun b2=>zC<|zB<|zN 0 u<|zS 0 u u u<|zA 1 u<|zN 1 u<|zS 0 u u u<|zI (.agg #[vb (!y0.1), vs y0.2])<|qJ .s 1 u u u<|zC<|zJ<|
  wQ u (lC 1 (.agg #[vb (!y0.1), vs y0.2]) u u lN) (fun _ k=>k) [] ⟨⟩
theorem zLq {qd : Prop} {y0 : List zF} {y1 : zF} : qF qd prog 18 [sv p1 y0 c1, .agg #[vb y1.1, vs y1.2]] [] [Rl wI p1 c1 y0] (zI0 y0 y1) fun r K=>K (vb r) [] [] :=
 qA call18 func18 u fun X=>zB<|qZ .s u<|fun b1=>zA 1 u<|zC<|zG<|jA 1 u<|zT<|qW (fun s1 K=>K [0,3] [] [0] [(5, vi s1)] []) (gv (fun _ k=>k) [0] (gq [0]))<|fun s1 _ k=>k<|zG<|jA 4 u<|zK u (jC<|zG<|zT<|yD [] [0] 6<|zY 4 [0,1] u<|
  yO 2 0 u u u u<|fun x1 b2 o1=>yK 3 true yI u (gk 0) u<|vQ 4 0 2 u u u u<|wR 5 (vb (x1 == y1)) u<|qQ<|zP<|zK u (jA 1 u<|zJ<|qO<|qE<|wU<|qO<|qE<|zQ u u (fun _ k=>k) [] ⟨⟩)<|wG<|qG<|zP<|
  jB 3 u<|qH (gv (fun _ k=>k) [0] (gq [1])))<|qS<|qP<|qU<|qR<|zP<|jA 1 u<|zJ<|zQ u u (fun _ k=>k) [] ⟨⟩
theorem zK7 {qd : Prop} {y0 : List zF} : qF qd prog 15 [sv p1 y0 c1] [] [Rl wI p1 c1 y0] (zFq y0) fun r K=>K (vb r) [] [] :=
 qA call15 func15 u fun X=>jA 1 u<|zG<|jA 1 u<|zT<|qW (fun s1 K=>K [0] [] [0] [(3, vi s1)] []) (gv (fun _ k=>k) [] (gq [0]))<|fun s1 _ k=>k<|zG<|jA 4 u<|zK u (jC<|zG<|zT<|zB<|zA 3 u<|wC 0 u u u<|fun x1 b1 o1=>wA true yI (gk 0) u<|
  qI zHr u ⟨⟩<|fun r1 _ k=>k<|qI zLq u (cq [1])<|fun r2 _ k=>k<|zC<|zK u (jA 1 u<|zJ<|qO<|qE<|wU<|qO<|qE<|zQ u u (fun _ k=>k) [] ⟨⟩)<|wG<|qG<|zP<|jB 3 u<|qH (gv (fun _ k=>k) [] (gq [1])))<|
  qS<|qP<|qU<|qR<|zP<|jA 1 u<|zJ<|zQ u u (fun _ k=>k) [] ⟨⟩
theorem zG2 {qd : Prop} {y0 : qC} : qF qd prog 157 [vs y0] [] [] (zCO y0) fun r K=>K (vb r) [] [] :=
 qA call157 func157 u fun X=>jA 1 u<|zG<|wK (fun s1 K=>K [0] [] [] [(21, vb s1)] []) (qL<|zA 4 u<|wM 7 u (zA 3 u<|zI (vb true)<|zA 4 u<|zI (vb true)<|zA 4 u<|zI (vb true)<|zU<|zL (gv (fun _ k=>k) [] ⟨⟩))<|zA 3 u<|
  zI (vb (decide (12 < (len y0))))<|zA 1 u<|wM 12 u (zA 3 u<|zI (vb true)<|zA 4 u<|zI (vb true)<|zU<|zL (gv (fun _ k=>k) [] ⟨⟩))<|zA 1 u<|yT fun x1 h1=>jv (fun h=>zIp h u u underlying9 h1)<|zA 1 u<|
  zI (vb (decide (x1 < 97)))<|zA 1 u<|wM 17 u (zA 3 u<|zI (vb true)<|zU<|zL (gv (fun _ k=>k) [] ⟨⟩))<|zA 1 u<|yT fun x2 h2=>jv (fun h=>zIp h u u underlying9 h2)<|zA 1 u<|zI (vb (decide (122 < x2)))<|zU<|
  zL (gv (fun _ k=>k) [] ⟨⟩))<|fun s1 _ k=>k<|zK u (jA 1 u<|zJ<|qE<|zQ u u (fun _ k=>k) [] ⟨⟩)<|jC<|zG<|jA 1 u<|zT<|qW (fun s2 K=>K [0] [] [] [(3, vi s2)] []) (gv (fun _ k=>k) [] ⟨⟩)<|fun s2 _ k=>k<|zG<|jA 4 u<|zK u (
  jC<|zG<|zT<|wK (fun s3 K=>K [0,3] [] [] [(55, vb s3)] []) (qL<|zA 2 u<|yT fun x3 h3=>jv (fun h=>zIp h u u underlying9 h3)<|zA 2 u<|wM 32 u (zA 4 u<|zI (vb true)<|zA 3 u<|yT fun x4 h4=>
  jv (fun h=>zIp h u u underlying9 h4)<|zA 2 u<|wM 43 u (zA 4 u<|zI (vb true)<|zI (vb true)<|zA 3 u<|yT fun x5 h5=>jv (fun h=>zIp h u u underlying9 h5)<|zA 1 u<|zI (vb (x5 != 95))<|zU<|
  zL (gv (fun _ k=>k) [] ⟨⟩))<|zA 2 u<|yT fun x6 h6=>jv (fun h=>zIp h u u underlying9 h6)<|zA 1 u<|zI (vb (decide (57 < x6)))<|zI (vb (decide (57 < x6)))<|zA 1 u<|wM 50 u (zA 2 u<|yT fun x7 h7=>
  jv (fun h=>zIp h u u underlying9 h7)<|zA 1 u<|zI (vb (x7 != 95))<|zU<|zL (gv (fun _ k=>k) [] ⟨⟩))<|zA 4 u<|zI (vb false)<|zU<|zL (gv (fun _ k=>k) [] ⟨⟩))<|zA 2 u<|yT fun x8 h8=>
  jv (fun h=>zIp h u u underlying9 h8)<|zA 1 u<|zI (vb (decide (122 < x8)))<|zA 1 u<|wM 38 u (zA 2 u<|yT fun x9 h9=>jv (fun h=>zIp h u u underlying9 h9)<|zA 2 u<|wM 43 u (zA 4 u<|zI (vb true)<|
  zI (vb true)<|zA 3 u<|yT fun x10 h10=>jv (fun h=>zIp h u u underlying9 h10)<|zA 1 u<|zI (vb (x10 != 95))<|zU<|zL (gv (fun _ k=>k) [] ⟨⟩))<|zA 2 u<|yT fun x11 h11=>
  jv (fun h=>zIp h u u underlying9 h11)<|zA 1 u<|zI (vb (decide (57 < x11)))<|zI (vb (decide (57 < x11)))<|zA 1 u<|wM 50 u (zA 2 u<|yT fun x12 h12=>jv (fun h=>zIp h u u underlying9 h12)<|zA 1 u<|
  zI (vb (x12 != 95))<|zU<|zL (gv (fun _ k=>k) [] ⟨⟩))<|zA 4 u<|zI (vb false)<|zU<|zL (gv (fun _ k=>k) [] ⟨⟩))<|zA 10 u<|zI (vb false)<|zA 5 u<|zI (vb false)<|zU<|zL (gv (fun _ k=>k) [] ⟨⟩))<|fun s3 _ k=>k<|zK u (
  jA 1 u<|zJ<|qO<|qE<|wU<|qO<|qE<|zQ u u (fun _ k=>k) [] ⟨⟩)<|wG<|qG<|zP<|jB 3 u<|qH (gv (fun _ k=>k) [] ⟨⟩))<|qS<|qP<|qU<|qR<|zP<|jA 1 u<|zJ<|zQ u u (fun _ k=>k) [] ⟨⟩
theorem zHe {qd : Prop} {y0 : zF} : qF qd prog 102 [.agg #[vb y0.1, vs y0.2]] [] [] (zDl y0) fun r K=>K (vb r) [] [] :=
 qA call102 func102 u fun X=>zB<|qZ .s u<|fun b1=>zA 1 u<|zC<|zB<|zN 1 u<|zS 0 u u u<|qI zG2 u ⟨⟩<|fun r1 _ k=>k<|zA 1 u<|zC<|zJ<|zQ u u (fun _ k=>k) [] ⟨⟩
theorem zNC {qd : Prop} {y0 : zM} {y1 : qC} : qF qd prog 100 [.agg #[sv p1 y0.1 c1, sv p2 y0.2.1 c2, sv p3 y0.2.2 c3], vs y1] [] [Rl wP p1 c1 y0.1, Rl wF p2 c2 y0.2.1, Rl wO p3 c3 y0.2.2] (zIm y0 y1) fun r K=>K (vi r) [] [] :=
 qA call100 func100 u fun X=>zB<|qZ .s u<|fun b1=>zA 1 u<|zC<|zG<|jA 1 u<|zT<|qW (fun s1 K=>K [1,2] [] [0,1,2] [(5, vi s1)] []) (gv (fun _ k=>k) [0] (gq [0,1,2]))<|fun s1 _ k=>k<|zG<|zB<|zA 1 u<|zN 1 u<|zS 0 u u u<|zA 2 u<|zC<|zK u (
  jC<|zG<|zT<|zB<|zN 1 u<|zS 0 u u u<|zA 1 u<|wC 1 u u u<|fun x1 b2 o1=>zN 0 u<|wA false oS (gf (gk 0)) u<|zA 2 u<|zC<|zK u (jA 2 u<|zJ<|qO<|qE<|wU<|qO<|qE<|zQ u u (fun _ k=>k) [] ⟨⟩)<|wG<|
  qG<|zP<|jB 3 u<|qH (gv (fun _ k=>k) [0] (gq [1,2,3])))<|qS<|qP<|qU<|qR<|zP<|jA 1 u<|zJ<|zQ u u (fun _ k=>k) [] ⟨⟩
theorem zR6 {qd : Prop} {y0 : zM} {y1 : zF} : qF qd prog 98 [.agg #[sv p1 y0.1 c1, sv p2 y0.2.1 c2, sv p3 y0.2.2 c3], .agg #[vb y1.1, vs y1.2]] [] [Rl wP p1 c1 y0.1, Rl wF p2 c2 y0.2.1, Rl wO p3 c3 y0.2.2] (zJu y0 y1) fun r K=>K (vi r) [] [] :=
 qA call98 func98 u fun X=>zB<|qZ .s u<|fun b1=>qZ .s u<|fun b2=>zA 1 u<|zC<|zG<|jA 1 u<|zT<|qW (fun s1 K=>K [2,3] [] [0,1,2] [(5, vi s1)] []) (gv (fun _ k=>k) [0,1] (gq [0,1,2]))<|fun s1 _ k=>k<|zG<|zB<|zA 1 u<|zN 0 u<|zS 0 u u u<|
  zA 2 u<|zC<|zK u (jC<|zG<|zT<|yD [] [0, 1] 8<|qT 0 0 u u<|wH 1 0 u u u u<|zY 5 [2] u<|yO 3 0 u u u u<|fun x1 b3 o1=>qT 4 0 u u<|yK 5 true yI u (gf (gk 0)) u<|vQ 6 1 2 u u u u<|
  wR 7 (vb (x1.1 == y1)) u<|qQ<|zP<|zK u (jA 2 u<|zJ<|qO<|qE<|wU<|qO<|qE<|zQ u u (fun _ k=>k) [] ⟨⟩)<|wG<|qG<|zP<|jB 3 u<|qH (gv (fun _ k=>k) [0,1] (gq [1,2,3])))<|qS<|qP<|qU<|qR<|zP<|jA 1 u<|zJ<|
  zQ u u (fun _ k=>k) [] ⟨⟩
theorem zNV {qd : Prop} {y0 : Int} : qF qd prog 101 [vi y0] [] [] (zGR y0) fun r K=>K (vb r) [] [] :=
 qA call101 func101 u fun X=>jA 1 u<|jjp (fun K=>K [(2, vb ((decide (0 ≤ y0)) && (decide (y0 ≤ 9))))] [] []) (qL<|zA 3 u<|yY (b := decide (0 ≤ y0)) 5 u (fun hb1=>zA 2 u<|zI (vb (decide (y0 ≤ 9)))<|zA 1 u<|zU<|
  wW 2 (vb ((decide (0 ≤ y0)) && (decide (y0 ≤ 9)))) u (by rw [hb1]; rfl)<|zL (gv (fun _ k=>k) [] ⟨⟩))<|fun hb1=>zA 2 u<|zI (vb false)<|zA 1 u<|zU<|wW 2 (vb ((decide (0 ≤ y0)) && (decide (y0 ≤ 9)))) u (by rw [hb1]; rfl)<|
  zL (gv (fun _ k=>k) [] ⟨⟩))<|fun _ k=>k<|zJ<|zQ u u (fun _ k=>k) [] ⟨⟩
theorem zRF {qd : Prop} {y0 : vO} : qF qd prog 97 [.agg #[vb y0.1.1, vs y0.1.2, vi y0.2.1, vi y0.2.2.1, vs y0.2.2.2]] [] [] (zID y0) fun r K=>K (vi r) [] [] :=
 qA call97 func97 u fun X=>zB<|qZ .s u<|fun b1=>zA 1 u<|zC<|zG<|tN (fun K=>K [1] [] [] [(10, vb ((decide (y0.2.1 < 1)) || (decide (3 < y0.2.1))))] []) (qL<|zN 2 u<|zS 0 u u u<|zA 2 u<|yY (b := decide (y0.2.1 < 1)) 6 u (fun hb1=>zA 3 u<|
  zI (vb true)<|zU<|wW 10 (vb ((decide (y0.2.1 < 1)) || (decide (3 < y0.2.1)))) u (by rw [hb1]; rfl)<|zL (gv (fun _ k=>k) [0] ⟨⟩))<|fun hb1=>zN 2 u<|zS 0 u u u<|zA 1 u<|zI (vb (decide (3 < y0.2.1)))<|zU<|
  wW 10 (vb ((decide (y0.2.1 < 1)) || (decide (3 < y0.2.1)))) u (by rw [hb1]; rfl)<|zL (gv (fun _ k=>k) [0] ⟨⟩))<|fun _ k=>k<|zK u (jA 1 u<|zJ<|qE<|zQ u u (fun _ k=>k) [] ⟨⟩)<|jC<|zG<|jjn (fun s1 K=>K [(41, vb s1)] [[]] []) (
  qL<|zN 0 u<|qV 0 2 u u u<|qI zHe u ⟨⟩<|fun r1 _ k=>k<|zA 2 u<|wM 15 u (zA 4 u<|zI (vb true)<|zA 9 u<|zI (vb true)<|zA 10 u<|zI (vb true)<|zU<|zL (gv (fun _ k=>k) [900] ⟨⟩))<|zN 3 u<|
  zS 0 u u u<|qI zNV u ⟨⟩<|fun r2 _ k=>k<|zA 1 u<|zI (vb (!r2))<|zA 1 u<|wM 21 u (zA 8 u<|zI (vb true)<|zA 10 u<|zI (vb true)<|zU<|zL (gv (fun _ k=>k) [900] ⟨⟩))<|zN 2 u<|zS 0 u u u<|
  zA 2 u<|wM 25 u (zN 3 u<|zS 0 u u u<|zA 1 u<|zI (vb (y0.2.2.1 != 0))<|zI (vb (y0.2.2.1 != 0))<|zA 1 u<|wM 31 u (zA 9 u<|zI (vb true)<|zU<|zL (gv (fun _ k=>k) [900] ⟨⟩))<|zN 4 u<|zS 0 u u u<|
  zA 2 u<|wM 35 u (zN 4 u<|zS 0 u u u<|qI zG2 u ⟨⟩<|fun r3 _ k=>k<|zA 1 u<|zI (vb (!r3))<|zI (vb (!r3))<|zU<|zL (gv (fun _ k=>k) [900] ⟨⟩))<|zA 4 u<|zI (vb false)<|zI (vb false)<|zU<|
  zL (gv (fun _ k=>k) [900] ⟨⟩))<|zA 3 u<|zI (vb false)<|zI (vb false)<|zA 1 u<|zN 4 u<|zS 0 u u u<|zA 2 u<|wM 35 u (zN 4 u<|zS 0 u u u<|qI zG2 u ⟨⟩<|fun r4 _ k=>k<|zA 1 u<|
  zI (vb (!r4))<|zI (vb (!r4))<|zU<|zL (gv (fun _ k=>k) [900] ⟨⟩))<|zA 4 u<|zI (vb false)<|zI (vb false)<|zU<|zL (gv (fun _ k=>k) [900] ⟨⟩))<|fun s1 _ k=>k<|zK u (jA 1 u<|zJ<|qE<|zQ u u (fun _ k=>k) [] ⟨⟩)<|jC<|
  jA 1 u<|zJ<|zQ u u (fun _ k=>k) [] ⟨⟩
theorem zNJ {qd : Prop} {y0 : zF} {y1 : zF} : qF qd prog 83 [.agg #[vb y0.1, vs y0.2], .agg #[vb y1.1, vs y1.2]] [] [] (zGK y0 y1) fun r K=>K (vi r) [] [] :=
 qA call83 func83 u fun X=>zB<|qZ .s u<|fun b1=>qZ .s u<|fun b2=>zA 1 u<|zC<|zG<|zT<|zB<|qV 0 2 u u u<|qV 1 2 u u u<|zI (vb (y0 == y1))<|zA 1 u<|zC<|zK u (jA 1 u<|zJ<|qO<|qE<|zQ u u (fun _ k=>k) [] ⟨⟩)<|
  jjp (fun K=>K [(9, vb ((uI y0.2 y1.2) || ((y0.2 == y1.2) && y1.1)))] [[], []] []) (qL<|zN 1 u<|zS 0 u u u<|zN 1 u<|zS 1 u u u<|zA 2 u<|yY (b := uI y0.2 y1.2) 15 u (fun hb1=>zA 9 u<|zI (vb true)<|
  zA 1 u<|zU<|wW 9 (vb ((uI y0.2 y1.2) || ((y0.2 == y1.2) && y1.1))) u (by rw [hb1]; rfl)<|zL (gv (fun _ k=>k) [900,901] ⟨⟩))<|fun hb1=>zN 1 u<|zS 0 u u u<|zN 1 u<|zS 1 u u u<|zA 2 u<|
  yY (b := y0.2 == y1.2) 21 u (fun hb2=>zN 0 u<|zS 1 u u u<|zI (vb y1.1)<|zI (vb y1.1)<|zA 1 u<|zU<|wW 9 (vb ((uI y0.2 y1.2) || ((y0.2 == y1.2) && y1.1))) u (by rw [hb1,hb2]; rfl)<|zL (gv (fun _ k=>k) [900,901] ⟨⟩)
  )<|fun hb2=>zA 2 u<|zI (vb false)<|zI (vb false)<|zA 1 u<|zU<|wW 9 (vb ((uI y0.2 y1.2) || ((y0.2 == y1.2) && y1.1))) u (by rw [hb1,hb2]; rfl)<|zL (gv (fun _ k=>k) [900,901] ⟨⟩))<|fun _ k=>k<|zK u (jA 1 u<|zJ<|qO<|
  qE<|zQ u u (fun _ k=>k) [] ⟨⟩)<|wG<|qG<|zP<|jA 1 u<|zJ<|zQ u u (fun _ k=>k) [] ⟨⟩
theorem zUZ {qd : Prop} {y0 : qK} : qF qd prog 99 [.agg #[vs y0.1, vb y0.2.1, vi y0.2.2.1, sv p1 y0.2.2.2.1 c1, vb y0.2.2.2.2.1, vs y0.2.2.2.2.2]] [] [Rl wI p1 c1 y0.2.2.2.1] (zK3 y0) fun r K=>K (vi r) [] [] :=
 qA call99 func99 u fun X=>zB<|qZ .s u<|fun b1=>zA 1 u<|zC<|zG<|zB<|zN 3 u<|zS 0 u u u<|zA 2 u<|zC<|zK u (jA 1 u<|zJ<|qE<|zQ u u (fun _ k=>k) [] ⟨⟩)<|jC<|wK (fun s1 K=>K [1] [] [0] [(3, vb s1)] []) (qL<|zN 0 u<|
  zS 0 u u u<|qI zG2 u ⟨⟩<|fun r1 _ k=>k<|zA 1 u<|wM 13 u (zN 2 u<|zS 0 u u u<|qI zNV u ⟨⟩<|fun r2 _ k=>k<|zI (vb r2)<|zA 1 u<|wM 18 u (zN 1 u<|zS 0 u u u<|zA 2 u<|
  wM 22 u (zA 3 u<|zI (vb true)<|zI (vb true)<|zA 1 u<|zN 4 u<|qV 0 2 u u u<|qI zHe u ⟨⟩<|fun r3 _ k=>k<|zI (vb r3)<|zA 1 u<|zU<|zL (gv (fun _ k=>k) [0] (gq [0])))<|zN 2 u<|zS 0 u u u<|
  zA 1 u<|zI (vb (y0.2.2.1 == 0))<|zI (vb (y0.2.2.1 == 0))<|zA 1 u<|wM 28 u (zN 4 u<|qV 0 2 u u u<|qI zHe u ⟨⟩<|fun r4 _ k=>k<|zI (vb r4)<|zA 1 u<|zU<|zL (gv (fun _ k=>k) [0] (gq [0])))<|zA 3 u<|
  zI (vb false)<|zA 1 u<|zU<|zL (gv (fun _ k=>k) [0] (gq [0])))<|zA 8 u<|zI (vb false)<|zA 4 u<|zI (vb false)<|zA 1 u<|zU<|zL (gv (fun _ k=>k) [0] (gq [0])))<|zA 3 u<|zI (vb false)<|zA 9 u<|zI (vb false)<|
  zA 4 u<|zI (vb false)<|zA 1 u<|zU<|zL (gv (fun _ k=>k) [0] (gq [0])))<|fun s1 _ k=>k<|wK (fun s2 K=>K [1] [] [0] [(3, vb s2)] []) (jA 1 u<|zT<|
  qW (fun s3 K=>K [1] [] [0] [(3, vb s3.1), (4, vi s3.2)] []) (gv (fun _ k=>k) [0] (gq [0]))<|fun s3 _ k=>k<|zG<|zB<|zA 1 u<|zN 3 u<|zS 0 u u u<|zA 2 u<|zC<|zK u (jC<|zG<|zT<|
  jjcK (fun s4 K=>K [1,4] [] [0] [(3, vb s4)] []) (qL<|zA 2 u<|wM 41 u (zN 3 u<|zS 0 u u u<|zA 1 u<|wC 0 u u u<|fun x1 b2 o1=>wA true yI (gk 0) u<|qI zHe u ⟨⟩<|fun r5 _ k=>k<|zI (vb r5)<|
  zA 1 u<|zU<|zL (gv (fun _ k=>k) [0] (gq [1])))<|zA 6 u<|zI (vb false)<|zA 1 u<|zU<|zL (gv (fun _ k=>k) [0] (gq [0])))<|fun s4 _ k=>k<|qG<|zP<|jB 3 u<|qH (gv (fun _ k=>k) [0] (gq [0])))<|qS<|qP<|qU<|qR<|
  zL (gv (fun _ k=>k) [0] (gq [0])))<|fun s2 _ k=>k<|zG<|jA 2 u<|zK u (jA 1 u<|zJ<|qE<|zQ u u (fun _ k=>k) [] ⟨⟩)<|jC<|zG<|jA 1 u<|zT<|qW (fun s5 K=>K [1] [] [0] [(5, vi s5)] []) (gv (fun _ k=>k) [0] (gq [0]))<|
  fun s5 _ k=>k<|zG<|zB<|zA 1 u<|zN 3 u<|zS 0 u u u<|zA 2 u<|zC<|zK u (jC<|zG<|zT<|yD [] [0] 13<|qT 0 3 u u<|wH 1 0 u u u u<|zY 9 [2,3] u<|yO 4 0 u u u u<|fun x2 b3 o2=>
  yK 5 true yI u (gk 0) u<|qT 6 3 u u<|wH 7 0 u u u u<|zY 4 [8] u<|yO 9 1 u u u u<|fun x3 b4 o3=>yK 10 true yI u (gk 0) u<|qB 11<|zZ (.f u) [] [] zNJ u u u ⟨⟩<|
  fun r6 _ k=>k<|zX<|zY 0 [12] u<|qQ<|zP<|zK u (jA 1 u<|zJ<|qO<|qE<|wU<|qO<|qE<|zQ u u (fun _ k=>k) [] ⟨⟩)<|wG<|qG<|zP<|jB 3 u<|qH (gv (fun _ k=>k) [0] (gq [2])))<|qS<|qP<|qU<|qR<|zP<|jA 1 u<|zJ<|
  zQ u u (fun _ k=>k) [] ⟨⟩
theorem zJB {qd : Prop} {y0 : zM} : qF qd prog 53 [.agg #[sv p1 y0.1 c1, sv p2 y0.2.1 c2, sv p3 y0.2.2 c3]] [] [Rl wP p1 c1 y0.1, Rl wF p2 c2 y0.2.1, Rl wO p3 c3 y0.2.2] (zCs y0) fun r K=>K (vi r) [] [] :=
 qA call53 func53 u fun X=>zB<|qZ .s u<|fun b1=>zA 1 u<|zC<|zG<|tN (fun K=>K [1] [] [0,1,2] [(25, vb ((decide (16 < (len y0.1))) || ((decide (24 < (len y0.2.1))) || (decide (8 < (len y0.2.2))))))] []) (qL<|zN 0 u<|zS 0 u u u<|zA 3 u<|
  yY (b := decide (16 < (len y0.1))) 14 u (fun hb1=>zA 4 u<|zI (vb true)<|zA 5 u<|zI (vb true)<|zU<|wW 25 (vb ((decide (16 < (len y0.1))) || ((decide (24 < (len y0.2.1))) || (decide (8 < (len y0.2.2)))))) u (by rw [hb1]; rfl)<|
  zL (gv (fun _ k=>k) [0] (gq [0,1,2])))<|fun hb1=>zN 1 u<|zS 0 u u u<|zA 2 u<|zI (vb (decide (24 < (len y0.2.1))))<|zA 1 u<|yY (b := decide (24 < (len y0.2.1))) 20 u (fun hb2=>zA 4 u<|zI (vb true)<|zU<|
  wW 25 (vb ((decide (16 < (len y0.1))) || ((decide (24 < (len y0.2.1))) || (decide (8 < (len y0.2.2)))))) u (by rw [hb1,hb2]; rfl)<|zL (gv (fun _ k=>k) [0] (gq [0,1,2])))<|fun hb2=>zN 2 u<|zS 0 u u u<|zA 2 u<|
  zI (vb (decide (8 < (len y0.2.2))))<|zU<|wW 25 (vb ((decide (16 < (len y0.1))) || ((decide (24 < (len y0.2.1))) || (decide (8 < (len y0.2.2)))))) u (by rw [hb1,hb2]; rfl)<|zL (gv (fun _ k=>k) [0] (gq [0,1,2])))<|fun _ k=>k<|zK u (
  jA 1 u<|zJ<|qE<|zQ u u (fun _ k=>k) [] ⟨⟩)<|jC<|zX2 (fun s1 K=>K [1] [] [0,1,2] [] []) (jA 1 u<|zT<|qW (fun s2 K=>K [1] [] [0,1,2] [(3, vi s2)] []) (gv (fun _ k=>k) [0] (gq [0,1,2]))<|fun s2 _ k=>k<|zG<|zB<|zA 1 u<|
  zN 0 u<|zS 0 u u u<|zA 2 u<|zC<|zK u (jC<|zG<|zT<|zG<|zB<|zN 0 u<|zS 0 u u u<|zA 1 u<|wC 0 u u u<|fun x1 b2 o1=>wA true zLa (gk 0) u<|qI zRF u ⟨⟩<|fun r1 _ k=>k<|zA 1 u<|
  zC<|jA 2 u<|zK u (jA 2 u<|zJ<|qE<|qO<|qE<|wU<|qO<|wU<|zQ u u (fun _ k=>k) [] ⟨⟩)<|jC<|yD [] [0] 10<|vQ 0 0 3 u u u u<|qT 1 0 u u<|wH 2 0 u u u u<|zY 6 [3] u<|yO 4 1 u u u u<|
  fun x2 b3 o2=>qT 5 0 u u<|yK 6 true yI u (gf (gk 0)) u<|zY 2 [8] u<|qB 7<|zZ (.f u) [] [] zR6 u u u (cq [2,3,4])<|fun r2 _ k=>k<|zX<|zY 0 [9] u<|qQ<|zP<|zK u (jA 1 u<|zJ<|qO<|qE<|wU<|
  qO<|wU<|zQ u u (fun _ k=>k) [] ⟨⟩)<|wG<|qG<|zP<|jB 3 u<|qH (gv (fun _ k=>k) [0] (gq [2,3,4])))<|qS<|qP<|qU<|qR<|qH (gv (fun _ k=>k) [0] (gq [0,1,2])))<|fun s1 _ k=>k<|zX2 (fun s3 K=>K [1] [] [0,1,2] [] []) (jA 1 u<|
  zT<|qW (fun s4 K=>K [1] [] [0,1,2] [(5, vi s4)] []) (gv (fun _ k=>k) [0] (gq [0,1,2]))<|fun s4 _ k=>k<|zG<|zB<|zA 1 u<|zN 1 u<|zS 0 u u u<|zA 2 u<|zC<|zK u (jC<|zG<|zT<|zG<|zB<|zN 1 u<|zS 0 u u u<|
  zA 1 u<|wC 1 u u u<|fun x3 b4 o3=>wA true zL5 (gk 0) u<|fun p4 c4=>qI zUZ u (cq [0])<|fun r3 _ k=>k<|zA 1 u<|zC<|jA 2 u<|zK u (jA 2 u<|zJ<|qE<|qO<|qE<|wU<|qO<|wU<|zQ u u (fun _ k=>k) [] ⟨⟩
  )<|jC<|yD [] [0] 10<|vQ 0 0 3 u u u u<|qT 1 1 u u<|wH 2 0 u u u u<|zY 6 [3] u<|yO 4 3 u u u u<|fun x4 b5 o4=>qT 5 0 u u<|yK 6 false oS u (gf (gk 0)) u<|zY 2 [8] u<|qB 7<|
  zZ (.f u) [] [] zNC u u u (cq [3,4,5])<|fun r4 _ k=>k<|zX<|zY 0 [9] u<|qQ<|zP<|zK u (jA 1 u<|zJ<|qO<|qE<|wU<|qO<|wU<|zQ u u (fun _ k=>k) [] ⟨⟩)<|wG<|qG<|zP<|jB 3 u<|
  qH (gv (fun _ k=>k) [0] (gq [3,4,5])))<|qS<|qP<|qU<|qR<|qH (gv (fun _ k=>k) [0] (gq [0,1,2])))<|fun s3 _ k=>k<|zG<|jA 1 u<|zT<|qW (fun s5 K=>K [1] [] [0,1,2] [(7, vi s5)] []) (gv (fun _ k=>k) [0] (gq [0,1,2]))<|fun s5 _ k=>k<|
  zG<|zB<|zA 1 u<|zN 2 u<|zS 0 u u u<|zA 2 u<|zC<|zK u (jC<|zG<|zT<|zB<|zN 2 u<|zS 0 u u u<|zA 1 u<|wC 2 u u u<|fun x5 b6 o5=>wA true zOY (gk 0) u<|
  wN .s (.agg #[vs [], vi 0, vb false, vs []])<|fun b7=>qJ .s 1 u u u<|zC<|zG<|wK (fun s6 K=>K [1,7,8] [] [1,2,3] [(99, vb s6)] []) (qL<|zN 1 u<|zS 1 u u u<|qI zNV u ⟨⟩<|fun r5 _ k=>k<|zA 2 u<|
  wM 94 u (zA 4 u<|zI (vb true)<|zU<|zL (gv (fun _ k=>k) [0,1] (gq [1,2,3])))<|zN 2 u<|qV 1 2 u u u<|qI zHe u ⟨⟩<|fun r6 _ k=>k<|zA 1 u<|zI (vb (!r6))<|zU<|zL (gv (fun _ k=>k) [0,1] (gq [1,2,3])))<|
  fun s6 _ k=>k<|zK u (jA 1 u<|zJ<|qE<|qO<|qE<|wU<|qO<|qE<|zQ u u (fun _ k=>k) [] ⟨⟩)<|jC<|zB<|qV 0 3 u u u<|zN 0 u<|zS 1 u u u<|qI zNC u (cq [0,1,2])<|fun r7 _ k=>k<|zA 1 u<|zC<|zG<|
  jA 2 u<|zK u (jA 1 u<|zJ<|qE<|qO<|qE<|wU<|qO<|qE<|zQ u u (fun _ k=>k) [] ⟨⟩)<|jC<|zB<|zN 1 u<|zS 0 u u u<|zA 1 u<|wC 1 u u u<|fun x6 b8 o6=>zN 1 u<|wA false oB (gf (gs (gk 0))) u<|zC<|zK u (
  jA 1 u<|zJ<|qO<|qE<|wU<|qO<|qE<|zQ u u (fun _ k=>k) [] ⟨⟩)<|wG<|qG<|zP<|jB 3 u<|qH (gv (fun _ k=>k) [0] (gq [1,2,3])))<|qS<|qP<|qU<|qR<|zP<|jA 1 u<|zJ<|zQ u u (fun _ k=>k) [] ⟨⟩
theorem zKh {qd : Prop} {y0 : List zF} {y1 : zF} : qF qd prog 35 [sv p1 y0 c1, .agg #[vb y1.1, vs y1.2]] [] [Rl wI p1 c1 y0] (zFe y0 y1) fun r K=>∀ p2 c2,K (sv p2 r c2) [] [Rl wI p2 c2 r] :=
 qA call35 func35 u fun X=>zB<|qZ .s u<|fun b1=>zA 1 u<|zC<|jA 1 u<|wK (fun s1 K=>K [0,3] [] [0] [(5, vi s1)] []) (zT<|qW (fun s2 K=>K [0,3] [] [0] [(5, vi s2)] []) (gv (fun _ k=>k) [0] (gq [0]))<|fun s2 _ k=>k<|zG<|
  wK (fun s3 K=>K [0,3,5] [] [0] [(19, vb s3)] []) (uT [] [0] 13<|zY 8 [0,1,2,3,4] u<|wM 11 u (zY 6 [5,6] u<|yO 7 0 u u u u<|fun x1 b2 o1=>yK 8 true yI u (gk 0) u<|vQ 9 0 2 u u u u<|qB 10<|
  zZ (.f u) [] [] zNJ u u u ⟨⟩<|fun r1 _ k=>k<|zX<|zY 1 [11] u<|wR 12 (vb (decide (r1 < 0))) u<|qQ<|zL (gv (fun _ k=>k) [0] (gq [1])))<|zY 1 [5,6,7,8,9,10,11] u<|wR 12 (vb false) u<|qQ<|
  zL (gv (fun _ k=>k) [0] (gq [0])))<|fun s3 _ k=>k<|zK u (jC<|zT<|jB 3 u<|qG<|qH (gv (fun _ k=>k) [0] (gq [0])))<|qS<|qP<|qU<|qR<|zL (gv (fun _ k=>k) [0] (gq [0])))<|fun s1 _ k=>k<|zG<|
  wK (fun s4 K=>K [0,3,5] [] [0] [(33, vb s4)] []) (uT [] [0] 12<|zY 7 [0,1,2,3,4] u<|wM 26 u (zY 5 [5,6] u<|yO 7 0 u u u u<|fun x2 b3 o2=>yK 8 true yI u (gk 0) u<|vQ 9 0 2 u u u u<|
  wR 10 (vb (x2 == y1)) u<|wR 11 (vb (x2 == y1)) u<|qQ<|zL (gv (fun _ k=>k) [0] (gq [1])))<|zY 1 [5,6,7,8,9,10] u<|wR 11 (vb false) u<|qQ<|zL (gv (fun _ k=>k) [0] (gq [0])))<|fun s4 _ k=>k<|zK u (jA 2 u<|zJ<|qE<|
  zQ u u (fun _ k=>k p1 c1) [] (gq [0]))<|jC<|zB<|xE .s (e := wI) 62 [] ([] : List zF) rN<|fun r_1 p2 c2=>zA 2 u<|jsl (gk 1) u u u (.inl ⟨rfl, rfl⟩) (.inr ⟨_, rfl⟩)<|fun x3 p3 c3=>wL .s 1 1 u (gk 0) u u<|
  fun x4 r_2 p4 c4=>zA 1 u<|zC<|yD [] [0] 9<|zY 8 [0] u<|vQ 1 0 2 u u u u<|zY 5 [4,5] u<|jdw 6 u (gk 3) u u u (.inr ⟨_, rfl⟩) (.inl ⟨rfl, rfl⟩)<|fun x5 p5 c5=>qB 2<|
  vD (.f u) (e := wI) 62 [vb y1.1, vs y1.2] ([y1] : List zF) (rC (vP vB vS) rN)<|fun p6 c6=>zX<|qB 3<|wL (.f u) 1 2 u (gk 0) u u<|fun x6 r_3 p7 c7=>zX<|qB 7<|wL (.f u) 1 0 u (gk 2) u u<|
  fun x7 r_4 p8 c8=>zX<|zY 0 [8] u<|qQ<|zP<|zJ<|vF 1 0 u u<|zQ u u (fun _ k=>k p8 c8) [] (gq [0])
theorem zOE {qd : Prop} {y0 : zM} : qF qd prog 12 [.agg #[sv p1 y0.1 c1, sv p2 y0.2.1 c2, sv p3 y0.2.2 c3]] [] [Rl wP p1 c1 y0.1, Rl wF p2 c2 y0.2.1, Rl wO p3 c3 y0.2.2] (zFi y0) fun r K=>∀ p4 c4,K (sv p4 r c4) [] [Rl wI p4 c4 r] :=
 qA call12 func12 u fun X=>zB<|qZ .s u<|fun b1=>zA 1 u<|zC<|jA 1 u<|zG<|jA 1 u<|zT<|qW (fun s1 K=>∀ p4 c4,K [1] [] [0,1,2] [(3, sv p4 s1.1 c4), (4, vi s1.2)] [Rl wI p4 c4 s1.1]) (gv (fun _ k=>k none 0) [0] ⟨gn,gk 0,gk 1,gk 2,⟨⟩⟩)<|
  fun s1 _ k p4 c4=>k<|zG<|zB<|zA 1 u<|zN 0 u<|zS 0 u u u<|zA 2 u<|zC<|zK u (jC<|zG<|zT<|zB<|zN 0 u<|zS 0 u u u<|zA 1 u<|wC 1 u u u<|fun x1 b2 o1=>zN 2 u<|wA false oI (gf (gs (gk 0))) u<|
  zA 1 u<|zC<|zK u (qL<|zA 1 u<|zN 0 u<|zS 0 u u u<|zA 1 u<|wC 2 u u u<|fun x2 b3 o2=>zN 0 u<|wA true yI (gf (gk 0)) u<|qI zKh u (cq [2])<|fun r1 _ k p5 c5=>k<|zA 1 u<|zU<|qG<|
  zP<|jB 3 u<|qH (gv (fun _ k=>k p5 c5) [0] (gq [0,4,5,6])))<|wG<|qG<|zP<|jB 3 u<|qH (gv (fun _ k=>k p4 c4) [0] (gq [1,2,3,4])))<|qS<|qP<|qU<|qR<|zP<|jA 2 u<|zJ<|zQ u u (fun _ k=>k p4 c4) [] (gq [0])
theorem zNU {qd : Prop} {y0 : List zF} {y1 : List zF} : qF qd prog 13 [sv p1 y0 c1, sv p2 y1 c2] [] [Rl wI p1 c1 y0, Rl wI p2 c2 y1] (zH5 y0 y1) fun r K=>K (vb r) [] [] :=
 qA call13 func13 u fun X=>jA 1 u<|zG<|jA 5 u<|zK u (jA 1 u<|zJ<|qE<|zQ u u (fun _ k=>k) [] ⟨⟩)<|jC<|zG<|jA 1 u<|zT<|qW (fun s1 K=>K [0,1] [] [0,1] [(5, vi s1)] []) (gv (fun _ k=>k) [] (gq [0,1]))<|fun s1 _ k=>k<|zG<|jA 4 u<|zK u (jC<|
  zG<|zT<|yD [] [] 9<|zY 7 [0,1] u<|yO 2 0 u u u u<|fun x1 b1 o1=>yK 3 true yI u (gk 0) u<|zY 3 [4,5] u<|yO 6 2 u u u u<|fun x2 b2 o2=>yK 7 true yI u (gk 0) u<|wR 8 (vb (!(x1 == x2))) u<|
  qQ<|zP<|zK u (jA 1 u<|zJ<|qO<|qE<|wU<|qO<|qE<|zQ u u (fun _ k=>k) [] ⟨⟩)<|wG<|qG<|zP<|jB 3 u<|qH (gv (fun _ k=>k) [] (gq [2,3])))<|qS<|qP<|qU<|qR<|zP<|jA 1 u<|zJ<|zQ u u (fun _ k=>k) [] ⟨⟩
theorem zOt {qd : Prop} {y0 : zM} {y1 : qK} : qF qd prog 56 [.agg #[sv p1 y0.1 c1, sv p2 y0.2.1 c2, sv p3 y0.2.2 c3], .agg #[vs y1.1, vb y1.2.1, vi y1.2.2.1, sv p4 y1.2.2.2.1 c4, vb y1.2.2.2.2.1, vs y1.2.2.2.2.2]] [] [Rl wP p1 c1 y0.1, Rl wF p2 c2 y0.2.1, Rl wO p3 c3 y0.2.2, Rl wI p4 c4 y1.2.2.2.1] (zJZ y0 y1) fun r K=>K (vb r) [] [] :=
 qA call56 func56 u fun X=>zB<|qZ .s u<|fun b1=>qZ .s u<|fun b2=>zA 1 u<|zC<|zG<|jA 1 u<|zT<|qW (fun s1 K=>K [2,3] [] [0,1,2,3] [(5, vi s1)] []) (gv (fun _ k=>k) [0,1] (gq [0,1,2,3]))<|fun s1 _ k=>k<|zG<|zB<|zA 1 u<|zN 1 u<|
  zS 0 u u u<|zA 2 u<|zC<|zK u (jC<|zG<|zT<|zB<|zN 1 u<|zS 0 u u u<|zA 1 u<|wC 1 u u u<|fun x1 b3 o1=>wA true zL5 (gk 0) u<|fun p5 c5=>
  wN .s (.agg #[vs [], vb false, vi 0, .slice none 0 0, vb false, vs []])<|fun b4=>qJ .s 2 u u u<|zC<|wK (fun s2 K=>K [2,3,5] [(2, [])] [2,3,4,5] [(34, vb s2)] []) (qL<|zN 1 u<|zS 2 u u u<|zA 1 u<|wM 21 u (
  zN 4 u<|qV 2 2 u u u<|zN 4 u<|qV 1 2 u u u<|zI (vb (x1.2.2.2.2 == y1.2.2.2.2))<|zI (vb (x1.2.2.2.2 == y1.2.2.2.2))<|zA 1 u<|wM 28 u (zN 3 u<|zS 2 u u u<|zN 3 u<|zS 1 u u u<|
  qI zNU u (cq [0,5])<|fun r1 _ k=>k<|zI (vb r1)<|zU<|zL (gv (fun _ k=>k) [0,1,902] (gq [2,3,4,5])))<|zA 5 u<|zI (vb false)<|zU<|zL (gv (fun _ k=>k) [0,1,902] (gq [2,3,4,5])))<|zA 5 u<|zI (vb false)<|zA 6 u<|
  zI (vb false)<|zU<|zL (gv (fun _ k=>k) [0,1,902] (gq [2,3,4,5])))<|fun s2 _ k=>k<|zK u (jA 1 u<|zJ<|qO<|qE<|wU<|qO<|qE<|zQ u u (fun _ k=>k) [] ⟨⟩)<|wG<|qG<|zP<|jB 3 u<|qH (gv (fun _ k=>k) [0,1] (gq [0,1,2,3])))<|
  qS<|qP<|qU<|qR<|zP<|jA 1 u<|zJ<|zQ u u (fun _ k=>k) [] ⟨⟩
theorem zOK {qd : Prop} {y0 : List zF} : qF qd prog 36 [sv p1 y0 c1] [] [Rl wI p1 c1 y0] (zIf y0) fun r K=>∀ p2 c2,K (sv p2 r c2) [] [Rl wI p2 c2 r] :=
 qA call36 func36 u fun X=>jA 1 u<|jA 1 u<|zG<|jA 1 u<|zT<|qW (fun s1 K=>∀ p2 c2,K [0] [] [0] [(3, sv p2 s1.1 c2), (4, vi s1.2)] [Rl wI p2 c2 s1.1]) (gv (fun _ k=>k none 0) [] ⟨gn,gk 0,⟨⟩⟩)<|fun s1 _ k p2 c2=>k<|zG<|jA 4 u<|zK u (jC<|zG<|zT<|
  qL<|zA 3 u<|wC 1 u u u<|fun x1 b1 o1=>wA true yI (gk 0) u<|qI zKh u (cq [1])<|fun r1 _ k p3 c3=>k<|zA 1 u<|zU<|qG<|zP<|jB 3 u<|qH (gv (fun _ k=>k p3 c3) [] (gq [0,3])))<|qS<|qP<|qU<|qR<|zP<|
  jA 2 u<|zJ<|zQ u u (fun _ k=>k p2 c2) [] (gq [0])
theorem zKw {qd : Prop} {y0 : qK} {y1 : Int} : qF qd prog 55 [.agg #[vs y0.1, vb y0.2.1, vi y0.2.2.1, sv p1 y0.2.2.2.1 c1, vb y0.2.2.2.2.1, vs y0.2.2.2.2.2], vi y1] [] [Rl wI p1 c1 y0.2.2.2.1] (zEq y0 y1) fun r K=>∀ p2 c2,K (.agg #[vs r.1, vb r.2.1, vi r.2.2.1, sv p2 r.2.2.2.1 c2, vb r.2.2.2.2.1, vs r.2.2.2.2.2]) [] [Rl wI p2 c2 r.2.2.2.1] :=
 qA call55 func55 u fun X=>zB<|qZ .s u<|fun b1=>wN .s (.agg #[vs [], vb false, vi 0, .slice none 0 0, vb false, vs []])<|fun b2=>zC<|zB<|zA 1 u<|vT wI 62<|zC<|
  wK (fun s1 K=>∀ p2 c2 r_1,K [1,2,4] [(2, r_1)] [1] [(5, sv p2 s1 c2)] [Al wI 62 r_1 p2 c2 s1]) (jA 1 u<|zT<|
  qW (fun s2 K=>∀ p3 c3 r_2,K [1,2,4] [(2, r_2)] [1] [(5, sv p3 s2.1 c3), (6, vi s2.2)] [Al wI 62 r_2 p3 c3 s2.1]) (gv (fun _ k=>k none 0 []) [0,1,2] (gq [0,1]))<|fun s2 _ k p3 c3 r_2=>k<|zG<|zB<|zA 1 u<|zN 3 u<|
  zS 0 u u u<|zA 2 u<|zC<|zK u (jC<|zG<|zT<|yD [] [0] 11<|qT 0 3 u u<|wH 1 0 u u u u<|zY 8 [2] u<|yO 3 1 u u u u<|fun x1 b3 o1=>yK 4 true yI u (gk 0) u<|qT 5 3 u u<|
  wH 6 0 u u u u<|zY 3 [7] u<|yO 8 2 u u u u<|fun x2 b4 o2=>yK 9 true yI u (gk 0) u<|wR 10 (vb (!(x1 == x2))) u<|qQ<|zP<|zK u (qL<|zA 1 u<|zN 3 u<|zS 0 u u u<|zA 1 u<|
  wC 3 u u u<|fun x3 b5 o3=>wA true yI (gk 0) u<|vD .s (e := wI) 62 [vb x3.1, vs x3.2] ([x3] : List zF) (rC (vP vB vS) rN)<|fun p4 c4=>wL .s 2 4 u (gk 0) u u<|fun x4 r_3 p5 c5=>zA 1 u<|zU<|qG<|zP<|
  jB 3 u<|qH (gv (fun _ k=>k p5 c5 r_3) [0,1,2] (gq [0,6])))<|wG<|qG<|zP<|jB 3 u<|qH (gv (fun _ k=>k p3 c3 r_2) [0,1,2] (gq [2,3])))<|qS<|qP<|qU<|qR<|zL (gv (fun _ k=>k p3 c3 r_2) [0,1,2] (gq [0,1])))<|fun s1 _ k p2 c2 r_1=>k<|
  zB<|zA 1 u<|zN 4 u<|qV 0 2 u u u<|qI zHr u ⟨⟩<|fun r1 _ k=>k<|vD .s (e := wI) 62 [vb r1.1, vs r1.2] ([r1] : List zF) (rC (vP vB vS) rN)<|fun p6 c6=>wL .s 2 1 u (gk 0) u u<|
  fun x5 r_4 p7 c7=>zA 1 u<|zC<|yD [] [0] 10<|zY 9 [0] u<|qT 2 3 u u<|wH 3 0 u u u u<|zY 6 [4] u<|yO 5 3 u u u u<|fun x6 b6 o4=>yK 6 true yI u (gk 0) u<|vF 2 1 u u<|qB 1<|
  zZ (.f u) [] [] zOK u u u (cq [0])<|fun r2 _ k p8 c8=>k<|zX<|qB 7<|zZ (.f u) [] [] zHr u u u ⟨⟩<|fun r3 _ k=>k<|zX<|wR 8 (.agg #[vs [], vb true, vi 0, sv p8 r2 c8, vb r3.1, vs r3.2]) u<|
  qB 9<|qJ (o := 0) (.f u) 1 u u u<|zX<|qQ<|zP<|zJ<|wQ u (lC 1 (.agg #[vs [], vb true, vi 0, sv p8 r2 c8, vb r3.1, vs r3.2]) u u lN) (fun _ k=>k p8 c8) [] (gq [0])
theorem zSJ {qd : Prop} {y0 : zM} : qF qd prog 61 [.agg #[sv p1 y0.1 c1, sv p2 y0.2.1 c2, sv p3 y0.2.2 c3]] [] [Rl wP p1 c1 y0.1, Rl wF p2 c2 y0.2.1, Rl wO p3 c3 y0.2.2] (zId y0) fun r K=>K (vb r) [] [] :=
 qA call61 func61 u fun X=>zB<|qZ .s u<|fun b1=>zA 1 u<|zC<|zG<|jA 1 u<|zT<|qW (fun s1 K=>K [1] [] [0,1,2] [(3, vi s1)] []) (gv (fun _ k=>k) [0] (gq [0,1,2]))<|fun s1 _ k=>k<|zG<|zB<|zA 1 u<|zN 1 u<|zS 0 u u u<|zA 2 u<|zC<|zK u (
  jC<|zG<|zT<|zB<|zN 1 u<|zS 0 u u u<|zA 1 u<|wC 1 u u u<|fun x1 b2 o1=>wA true zL5 (gk 0) u<|fun p4 c4=>wN .s (.agg #[vs [], vb false, vi 0, .slice none 0 0, vb false, vs []])<|fun b3=>qJ .s 1 u u u<|
  zC<|jA 1 u<|zT<|qW (fun s2 K=>K [1,3,4] [] [2,3,4,0] [(5, vi s2)] []) (gv (fun _ k=>k) [0,1] (gq [2,3,4,0]))<|fun s2 _ k=>k<|zG<|tN (fun K=>K [1,3,4,5] [] [0,1,2,3] [(26, vb ((decide (s2 < (len x1.2.2.2.1))) && x1.2.1))] []) (qL<|
  zA 1 u<|zN 3 u<|zS 1 u u u<|zA 3 u<|yY (b := decide (s2 < (len x1.2.2.2.1))) 23 u (fun hb1=>zN 1 u<|zS 1 u u u<|zI (vb x1.2.1)<|zU<|
  wW 26 (vb ((decide (s2 < (len x1.2.2.2.1))) && x1.2.1)) u (by rw [hb1]; rfl)<|zL (gv (fun _ k=>k) [0,1] (gq [0,1,2,3])))<|fun hb1=>zA 2 u<|zI (vb false)<|zU<|
  wW 26 (vb ((decide (s2 < (len x1.2.2.2.1))) && x1.2.1)) u (by rw [hb1]; rfl)<|zL (gv (fun _ k=>k) [0,1] (gq [0,1,2,3])))<|fun _ k=>k<|zK u (jC<|zG<|zT<|yD [] [0, 1] 6<|vQ 0 0 3 u u u u<|vQ 1 1 6 u u u u<|
  zY 3 [2] u<|qB 3<|zZ (.f u) [] [] zKw u u u (cq [3])<|fun r1 _ k p5 c5=>k<|zX<|qB 4<|zZ (.f u) [] [] zOt u u u (cq [1,2,3,0])<|fun r2 _ k=>k<|zX<|zY 0 [5] u<|qQ<|zP<|zK u (jA 1 u<|
  zJ<|qO<|qE<|wU<|qO<|qO<|qE<|wU<|qO<|qE<|zQ u u (fun _ k=>k) [] ⟨⟩)<|wG<|qG<|zP<|jB 3 u<|qH (gv (fun _ k=>k) [0,1] (gq [1,2,3,4])))<|qS<|qP<|qU<|qR<|qG<|zP<|jB 3 u<|qH (gv (fun _ k=>k) [0] (gq [0,1,2])))<|qS<|
  qP<|qU<|qR<|zP<|jA 1 u<|zJ<|zQ u u (fun _ k=>k) [] ⟨⟩
theorem zVx {qd : Prop} {y0 : List zF} {y1 : List zF} : qF qd prog 37 [sv p1 y0 c1, sv p2 y1 c2] [] [Rl wI p1 c1 y0, Rl wI p2 c2 y1] (zOZ y0 y1) fun r K=>K (vb r) [] [] :=
 qA call37 func37 u fun X=>jA 1 u<|zG<|jA 1 u<|zT<|qW (fun s1 K=>K [0,1] [] [0,1] [(5, vi s1)] []) (gv (fun _ k=>k) [] (gq [0,1]))<|fun s1 _ k=>k<|zG<|jA 4 u<|zK u (jC<|zG<|zT<|zB<|zA 3 u<|wC 1 u u u<|fun x1 b1 o1=>
  wA true yI (gk 0) u<|qI zLq u (cq [1])<|fun r1 _ k=>k<|zA 1 u<|zC<|zK u (jA 1 u<|zJ<|qO<|qE<|wU<|qO<|qE<|zQ u u (fun _ k=>k) [] ⟨⟩)<|wG<|qG<|zP<|jB 3 u<|qH (gv (fun _ k=>k) [] (gq [1,2])))<|
  qS<|qP<|qU<|qR<|zP<|jA 1 u<|zJ<|zQ u u (fun _ k=>k) [] ⟨⟩
theorem zJp {qd : Prop} {y0 : zM} {y1 : List zF} : qF qd prog 14 [.agg #[sv p1 y0.1 c1, sv p2 y0.2.1 c2, sv p3 y0.2.2 c3], sv p4 y1 c4] [] [Rl wP p1 c1 y0.1, Rl wF p2 c2 y0.2.1, Rl wO p3 c3 y0.2.2, Rl wI p4 c4 y1] (zC3 y0 y1) fun r K=>∀ p5 c5,K (sv p5 r c5) [] [Rl wI p5 c5 r] :=
 qA call14 func14 u fun X=>zB<|qZ .s u<|fun b1=>zA 1 u<|zC<|zB<|zA 1 u<|qI zOK u (cq [3])<|fun r1 _ k p5 c5=>k<|zA 1 u<|zC<|zG<|jA 1 u<|zT<|
  qW (fun s1 K=>∀ p6 c6,K [2] [] [1,2,3] [(5, sv p6 s1.1 c6), (6, vb s1.2)] [Rl wI p6 c6 s1.1]) (gv (fun _ k=>k p5 c5) [0] (gq [0,1,2,3]))<|fun s1 _ k p6 c6=>k<|zG<|jA 1 u<|zK u (jC<|zT<|jA 1 u<|jA 1 u<|zT<|
  qW (fun s2 K=>∀ p7 c7,K [2] [] [1,2,3] [(5, sv p7 s2.1 c7), (6, vb s2.2.1), (7, vi s2.2.2)] [Rl wI p7 c7 s2.1]) (gv (fun _ k=>k p6 c6) [0] (gq [0,1,2,3]))<|fun s2 _ k p7 c7=>k<|zG<|zB<|zA 1 u<|zN 1 u<|zS 0 u u u<|
  zA 2 u<|zC<|zK u (jC<|zG<|zT<|zB<|zN 1 u<|zS 0 u u u<|zA 1 u<|wC 2 u u u<|fun x1 b2 o1=>wA true zL5 (gk 0) u<|fun p8 c8=>wN .s (.agg #[vs [], vb false, vi 0, .slice none 0 0, vb false, vs []])<|fun b3=>
  qJ .s 1 u u u<|zC<|wK (fun s3 K=>K [2,5,6,7,8] [] [2,3,4,5,0] [(38, vb s3)] []) (qL<|zN 1 u<|zS 1 u u u<|zA 1 u<|wM 26 u (zA 1 u<|zN 3 u<|zS 1 u u u<|qI zVx u (cq [2,0])<|fun r2 _ k=>k<|
  zI (vb r2)<|zA 1 u<|wM 32 u (zA 1 u<|zN 4 u<|qV 1 2 u u u<|qI zLq u (cq [2])<|fun r3 _ k=>k<|zA 1 u<|zI (vb (!r3))<|zU<|zL (gv (fun _ k=>k) [0,1] (gq [2,3,4,5,0])))<|zA 5 u<|zI (vb false)<|zU<|
  zL (gv (fun _ k=>k) [0,1] (gq [2,3,4,5,0])))<|zA 4 u<|zI (vb false)<|zA 6 u<|zI (vb false)<|zU<|zL (gv (fun _ k=>k) [0,1] (gq [2,3,4,5,0])))<|fun s3 _ k=>k<|zK u (qL<|zA 1 u<|zN 4 u<|qV 1 2 u u u<|
  qI zKh u (cq [0])<|fun r4 _ k p9 c9=>k<|zA 2 u<|zU<|qG<|zP<|jB 3 u<|qH (gv (fun _ k=>k p9 c9) [0] (gq [0,2,3,4])))<|wG<|qG<|zP<|jB 3 u<|qH (gv (fun _ k=>k p7 c7) [0] (gq [0,1,2,3])))<|qS<|qP<|qU<|qR<|qG<|
  qH (gv (fun _ k=>k p7 c7) [0] (gq [0,1,2,3])))<|qS<|qP<|qU<|qR<|zP<|jA 2 u<|zJ<|zQ u u (fun _ k=>k p6 c6) [] (gq [0])
theorem zTQ {qd : Prop} {y0 : zM} : qF qd prog 22 [.agg #[sv p1 y0.1 c1, sv p2 y0.2.1 c2, sv p3 y0.2.2 c3]] [] [Rl wP p1 c1 y0.1, Rl wF p2 c2 y0.2.1, Rl wO p3 c3 y0.2.2] (zJ3 y0) fun r K=>K (vb r) [] [] :=
 qA call22 func22 u fun X=>zB<|qZ .s u<|fun b1=>zA 1 u<|zC<|jjn (fun s1 K=>K [(2, vb s1)] [[]] []) (uT [] [0] 15<|vQ 0 0 3 u u u u<|qB 1<|zZ (.f u) [] [] zJB u u u (cq [0,1,2])<|fun r1 _ k=>k<|zX<|zY 11 [2,3] u<|
  wM 6 u (vQ 4 0 3 u u u u<|qB 5<|zZ (.f u) [] [] zSJ u u u (cq [0,1,2])<|fun r2 _ k=>k<|zX<|wR 6 (vb r2) u<|zY 7 [7] u<|wM 10 u (vQ 8 0 3 u u u u<|vQ 9 0 3 u u u u<|qB 10<|
  zZ (.f u) [] [] zOE u u u (cq [0,1,2])<|fun r3 _ k p4 c4=>k<|zX<|qB 11<|zZ (.f u) [] [] zJp u u u (cq [1,2,3,0])<|fun r4 _ k p5 c5=>k<|zX<|qB 12<|
  zZ (.f u) [] [] zK7 u u u (cq [0])<|fun r5 _ k=>k<|zX<|wR 13 (vb r5) u<|zY 0 [14] u<|qQ<|zL (gv (fun _ k=>k) [900] ⟨⟩))<|zY 2 [8,9,10,11,12] u<|wR 13 (vb false) u<|zY 0 [14] u<|qQ<|
  zL (gv (fun _ k=>k) [900] ⟨⟩))<|zY 9 [4,5] u<|wR 6 (vb false) u<|zY 2 [7,8,9,10,11,12] u<|wR 13 (vb false) u<|zY 0 [14] u<|qQ<|zL (gv (fun _ k=>k) [900] ⟨⟩))<|fun s1 _ k=>k<|zJ<|zQ u u (fun _ k=>k) [] ⟨⟩
theorem zUO {qd : Prop} {y0 : zM} : qF qd prog 54 [.agg #[sv p1 y0.1 c1, sv p2 y0.2.1 c2, sv p3 y0.2.2 c3]] [] [Rl wP p1 c1 y0.1, Rl wF p2 c2 y0.2.1, Rl wO p3 c3 y0.2.2] (zKb y0) fun r K=>∀ p4 c4 p5 c5 r_1 p6 c6,K (.agg #[sv p4 r.1 c4, sv p5 r.2.1 c5, sv p6 r.2.2 c6]) [r_1] [Rl wP p4 c4 r.1, Al wF 92 r_1 p5 c5 r.2.1, Rl wO p6 c6 r.2.2] :=
 qA call54 func54 u fun X=>zB<|qZ .s u<|fun b1=>wN .s (.agg #[.slice none 0 0, .slice none 0 0, .slice none 0 0])<|fun b2=>zC<|
  wK (fun s1 K=>∀ b3 p4 c4 r_1 p5 c5 r_2 p6 c6 r_3,K [1,2] [(2, bx b3 29 [sv p4 s1.1 c4, sv p5 s1.2.1 c5, sv p6 s1.2.2 c6]), (3, r_1), (4, r_2), (5, r_3)] [0,1,2] [(3, pt b3 0)] [Al wP 88 r_1 p4 c4 s1.1, Al wF 92 r_2 p5 c5 s1.2.1, Al wO 105 r_3 p6 c6 s1.2.2]) (
  uT [] [0] 11<|qT 1 0 u u<|wH 2 0 u u u u<|qT 5 2 u u<|wH 6 0 u u u u<|jd3 0 4 9 (xE (.f u) (e := wP) 88 [] ([] : List vO) rN<|fun r_4 p7 c7=>zX<|jd3 3 4 9 (wL (.f u) 2 0 u (gk 1) u u<|
  fun x1 r_5 p8 c8=>zX<|jd2 4 9 (xE (.f u) (e := wO) 105 [] ([] : List vN) rN<|fun r_6 p9 c9=>zX<|jd2 7 9 (wL (.f u) 3 0 u (gk 5) u u<|fun x2 r_7 p10 c10=>zX<|
  wR 8 (.agg #[sv p8 x1 c8, .slice none 0 0, sv p10 x2 c10]) u<|vT wF 92<|qB 9<|wN (.f u) (.agg #[.slice none 0 0, .slice none 0 0, .slice none 0 0])<|fun b4=>zX<|qB 10<|qJ (o := 0) (.f u) 5 u u u<|zX<|qQ<|
  zL (gv (fun _ k=>k b4 p8 c8 r_5 none 0 [] p10 c10 r_7) [0,1,5,2,4,3] (gq [3,0,1,5,6,7]))) <|wN (.f u) (.agg #[.slice none 0 0, .slice none 0 0, .slice none 0 0])<|fun b5=>zX<|qB 7<|wL (.f u) 3 0 u (gk 5) u u<|
  fun x3 r_8 p11 c11=>zX<|wR 8 (.agg #[sv p8 x1 c8, .slice none 0 0, sv p11 x3 c11]) u<|vT wF 92<|qB 10<|qJ (o := 0) (.f u) 4 u u u<|zX<|qQ<|
  zL (gv (fun _ k=>k b5 p8 c8 r_5 none 0 [] p11 c11 r_8) [0,1,4,2,5,3] (gq [3,0,1,5,6,7]))) <|wN (.f u) (.agg #[.slice none 0 0, .slice none 0 0, .slice none 0 0])<|fun b6=>zX<|qB 4<|
  xE (.f u) (e := wO) 105 [] ([] : List vN) rN<|fun r_9 p12 c12=>zX<|qB 7<|wL (.f u) 4 0 u (gk 5) u u<|fun x4 r_10 p13 c13=>zX<|wR 8 (.agg #[sv p8 x1 c8, .slice none 0 0, sv p13 x4 c13]) u<|vT wF 92<|
  qB 10<|qJ (o := 0) (.f u) 3 u u u<|zX<|qQ<|zL (gv (fun _ k=>k b6 p8 c8 r_5 none 0 [] p13 c13 r_10) [0,1,3,2,5,4] (gq [3,0,1,5,6,7]))) (xE (.f u) (e := wO) 105 [] ([] : List vN) rN<|fun r_11 p14 c14=>zX<|
  jd2 3 9 (wL (.f u) 2 1 u (gk 2) u u<|fun x5 r_12 p15 c15=>zX<|jd2 7 9 (wL (.f u) 3 1 u (gk 5) u u<|fun x6 r_13 p16 c16=>zX<|wR 8 (.agg #[sv p15 x5 c15, .slice none 0 0, sv p16 x6 c16]) u<|vT wF 92<|qB 9<|
  wN (.f u) (.agg #[.slice none 0 0, .slice none 0 0, .slice none 0 0])<|fun b7=>zX<|qB 10<|qJ (o := 0) (.f u) 5 u u u<|zX<|qQ<|zL (gv (fun _ k=>k b7 p15 c15 r_12 none 0 [] p16 c16 r_13) [0,1,5,2,4,3] (gq [2,0,1,5,6,7]))) <|
  wN (.f u) (.agg #[.slice none 0 0, .slice none 0 0, .slice none 0 0])<|fun b8=>zX<|qB 7<|wL (.f u) 3 1 u (gk 5) u u<|fun x7 r_14 p17 c17=>zX<|wR 8 (.agg #[sv p15 x5 c15, .slice none 0 0, sv p17 x7 c17]) u<|vT wF 92<|
  qB 10<|qJ (o := 0) (.f u) 4 u u u<|zX<|qQ<|zL (gv (fun _ k=>k b8 p15 c15 r_12 none 0 [] p17 c17 r_14) [0,1,4,2,5,3] (gq [2,0,1,5,6,7]))) <|wN (.f u) (.agg #[.slice none 0 0, .slice none 0 0, .slice none 0 0])<|fun b9=>zX<|
  qB 3<|wL (.f u) 2 1 u (gk 2) u u<|fun x8 r_15 p18 c18=>zX<|qB 7<|wL (.f u) 3 1 u (gk 5) u u<|fun x9 r_16 p19 c19=>zX<|wR 8 (.agg #[sv p18 x8 c18, .slice none 0 0, sv p19 x9 c19]) u<|vT wF 92<|qB 10<|
  qJ (o := 0) (.f u) 4 u u u<|zX<|qQ<|zL (gv (fun _ k=>k b9 p18 c18 r_15 none 0 [] p19 c19 r_16) [0,1,4,2,5,3] (gq [2,0,1,5,6,7]))) <|wN (.f u) (.agg #[.slice none 0 0, .slice none 0 0, .slice none 0 0])<|fun b10=>zX<|jd2 3 4
  (wL (.f u) 2 0 u (gk 1) u u<|fun x10 r_17 p20 c20=>zX<|qB 4<|xE (.f u) (e := wO) 105 [] ([] : List vN) rN<|fun r_18 p21 c21=>zX<|qB 7<|wL (.f u) 4 0 u (gk 5) u u<|fun x11 r_19 p22 c22=>zX<|
  wR 8 (.agg #[sv p20 x10 c20, .slice none 0 0, sv p22 x11 c22]) u<|vT wF 92<|qB 10<|qJ (o := 0) (.f u) 3 u u u<|zX<|qQ<|zL (gv (fun _ k=>k b10 p20 c20 r_17 none 0 [] p22 c22 r_19) [0,1,3,2,5,4] (gq [3,0,1,5,6,7]))) <|
  xE (.f u) (e := wO) 105 [] ([] : List vN) rN<|fun r_20 p23 c23=>zX<|qB 3<|wL (.f u) 2 1 u (gk 2) u u<|fun x12 r_21 p24 c24=>zX<|qB 7<|wL (.f u) 4 1 u (gk 5) u u<|fun x13 r_22 p25 c25=>zX<|
  wR 8 (.agg #[sv p24 x12 c24, .slice none 0 0, sv p25 x13 c25]) u<|vT wF 92<|qB 10<|qJ (o := 0) (.f u) 3 u u u<|zX<|qQ<|zL (gv (fun _ k=>k b10 p24 c24 r_21 none 0 [] p25 c25 r_22) [0,1,3,2,5,4] (gq [2,0,1,5,6,7]))) (
  xE (.f u) (e := wO) 105 [] ([] : List vN) rN<|fun r_23 p26 c26=>zX<|jd2 0 9 (xE (.f u) (e := wP) 88 [] ([] : List vO) rN<|fun r_24 p27 c27=>zX<|jd2 3 9 (wL (.f u) 3 0 u (gk 2) u u<|
  fun x14 r_25 p28 c28=>zX<|jd2 7 9 (wL (.f u) 2 2 u (gk 5) u u<|fun x15 r_26 p29 c29=>zX<|wR 8 (.agg #[sv p28 x14 c28, .slice none 0 0, sv p29 x15 c29]) u<|vT wF 92<|qB 9<|
  wN (.f u) (.agg #[.slice none 0 0, .slice none 0 0, .slice none 0 0])<|fun b11=>zX<|qB 10<|qJ (o := 0) (.f u) 5 u u u<|zX<|qQ<|zL (gv (fun _ k=>k b11 p28 c28 r_25 none 0 [] p29 c29 r_26) [0,1,5,3,4,2] (gq [2,0,1,5,6,7])))
  <|wN (.f u) (.agg #[.slice none 0 0, .slice none 0 0, .slice none 0 0])<|fun b12=>zX<|qB 7<|wL (.f u) 2 2 u (gk 5) u u<|fun x16 r_27 p30 c30=>zX<|wR 8 (.agg #[sv p28 x14 c28, .slice none 0 0, sv p30 x16 c30]) u<|
  vT wF 92<|qB 10<|qJ (o := 0) (.f u) 4 u u u<|zX<|qQ<|zL (gv (fun _ k=>k b12 p28 c28 r_25 none 0 [] p30 c30 r_27) [0,1,4,3,5,2] (gq [2,0,1,5,6,7]))) <|
  wN (.f u) (.agg #[.slice none 0 0, .slice none 0 0, .slice none 0 0])<|fun b13=>zX<|qB 3<|wL (.f u) 3 0 u (gk 2) u u<|fun x17 r_28 p31 c31=>zX<|qB 7<|wL (.f u) 2 2 u (gk 5) u u<|fun x18 r_29 p32 c32=>zX<|
  wR 8 (.agg #[sv p31 x17 c31, .slice none 0 0, sv p32 x18 c32]) u<|vT wF 92<|qB 10<|qJ (o := 0) (.f u) 4 u u u<|zX<|qQ<|zL (gv (fun _ k=>k b13 p31 c31 r_28 none 0 [] p32 c32 r_29) [0,1,4,3,5,2] (gq [2,0,1,5,6,7]))) <|
  wN (.f u) (.agg #[.slice none 0 0, .slice none 0 0, .slice none 0 0])<|fun b14=>zX<|qB 0<|xE (.f u) (e := wP) 88 [] ([] : List vO) rN<|fun r_30 p33 c33=>zX<|qB 3<|wL (.f u) 4 0 u (gk 2) u u<|
  fun x19 r_31 p34 c34=>zX<|qB 7<|wL (.f u) 2 2 u (gk 5) u u<|fun x20 r_32 p35 c35=>zX<|wR 8 (.agg #[sv p34 x19 c34, .slice none 0 0, sv p35 x20 c35]) u<|vT wF 92<|qB 10<|qJ (o := 0) (.f u) 3 u u u<|zX<|qQ<|
  zL (gv (fun _ k=>k b14 p34 c34 r_31 none 0 [] p35 c35 r_32) [0,1,3,4,5,2] (gq [2,0,1,5,6,7]))) <|wN (.f u) (.agg #[.slice none 0 0, .slice none 0 0, .slice none 0 0])<|fun b15=>zX<|jd2 0 4 (
  xE (.f u) (e := wP) 88 [] ([] : List vO) rN<|fun r_33 p36 c36=>zX<|jd2 3 4 (wL (.f u) 3 0 u (gk 1) u u<|fun x21 r_34 p37 c37=>zX<|qB 4<|xE (.f u) (e := wO) 105 [] ([] : List vN) rN<|
  fun r_35 p38 c38=>zX<|qB 7<|wL (.f u) 4 0 u (gk 5) u u<|fun x22 r_36 p39 c39=>zX<|wR 8 (.agg #[sv p37 x21 c37, .slice none 0 0, sv p39 x22 c39]) u<|vT wF 92<|qB 10<|qJ (o := 0) (.f u) 2 u u u<|zX<|qQ<|
  zL (gv (fun _ k=>k b15 p37 c37 r_34 none 0 [] p39 c39 r_36) [0,1,2,3,5,4] (gq [3,0,1,5,6,7]))) <|xE (.f u) (e := wO) 105 [] ([] : List vN) rN<|fun r_37 p40 c40=>zX<|qB 3<|wL (.f u) 3 1 u (gk 2) u u<|
  fun x23 r_38 p41 c41=>zX<|qB 7<|wL (.f u) 4 1 u (gk 5) u u<|fun x24 r_39 p42 c42=>zX<|wR 8 (.agg #[sv p41 x23 c41, .slice none 0 0, sv p42 x24 c42]) u<|vT wF 92<|qB 10<|qJ (o := 0) (.f u) 2 u u u<|zX<|qQ<|
  zL (gv (fun _ k=>k b15 p41 c41 r_38 none 0 [] p42 c42 r_39) [0,1,2,3,5,4] (gq [2,0,1,5,6,7]))) <|xE (.f u) (e := wO) 105 [] ([] : List vN) rN<|fun r_40 p43 c43=>zX<|qB 0<|
  xE (.f u) (e := wP) 88 [] ([] : List vO) rN<|fun r_41 p44 c44=>zX<|qB 3<|wL (.f u) 4 0 u (gk 2) u u<|fun x25 r_42 p45 c45=>zX<|qB 7<|wL (.f u) 3 2 u (gk 5) u u<|fun x26 r_43 p46 c46=>zX<|
  wR 8 (.agg #[sv p45 x25 c45, .slice none 0 0, sv p46 x26 c46]) u<|vT wF 92<|qB 10<|qJ (o := 0) (.f u) 2 u u u<|zX<|qQ<|zL (gv (fun _ k=>k b15 p45 c45 r_42 none 0 [] p46 c46 r_43) [0,1,2,4,5,3] (gq [2,0,1,5,6,7])))<|
  fun s1 _ k b3 p4 c4 r_1 p5 c5 r_2 p6 c6 r_3=>k<|wK (fun s2 K=>∀ p47 c47 r_44,K [2,3] [(0, []), (2, bx b3 29 [sv p4 s1.1 c4, sv p47 s2 c47, sv p6 s1.2.2 c6]), (4, r_44)] [0,2] [] [Al wF 92 r_44 p47 c47 s2]) (jA 1 u<|zT<|
  qW (fun s3 K=>∀ p48 c48 r_45,K [1,2,3] [(2, bx b3 29 [sv p4 s1.1 c4, sv p48 s3.2 c48, sv p6 s1.2.2 c6]), (4, r_45)] [3,4,5,0,2] [(4, vi s3.1)] [Al wF 92 r_45 p48 c48 s3.2]) (gv (fun _ k=>k p5 c5 r_2) [0,1,2,3,4,5] (gq [1,3,4,5,0,2]))<|
  fun s3 _ k p48 c48 r_45=>k<|zG<|zB<|zA 1 u<|zN 1 u<|zS 0 u u u<|zA 2 u<|zC<|zK u (jC<|zG<|zT<|zB<|zN 1 u<|zS 0 u u u<|zA 1 u<|wC 2 u u u<|fun x27 b16 o1=>wA true zL5 (gk 0) u<|fun p49 c49=>
  wN .s (.agg #[vs [], vb false, vi 0, .slice none 0 0, vb false, vs []])<|fun b17=>qJ .s 6 u u u<|zC<|zB<|xE .s (e := wI) 62 [] ([] : List zF) rN<|fun r_46 p50 c50=>zN 3 u<|zS 6 u u u<|
  wL .s 7 0 u (gk 1) u u<|fun x28 r_47 p51 c51=>zN 3 u<|qJ .s 6 u u u<|zC<|qL<|zN 1 u<|zS 2 u u u<|qV 6 6 u u u<|vF 7 0 u u<|
  vD .s (e := wF) 92 [vs x27.1, vb x27.2.1, vi x27.2.2.1, sv p51 x28 c51, vb x27.2.2.2.2.1, vs x27.2.2.2.2.2] ([(x27.1, x27.2.1, x27.2.2.1, x28, x27.2.2.2.2)] : List qK) (rC (vP vS (vP vB (vP vI (vP (vL (gk 0)) (vP vB vS))))) rN)<|
  fun p52 c52=>wL .s 4 6 u (gk 0) u u<|fun x29 r_48 p53 c53=>zN 1 u<|qJ .s 2 u u u<|zU<|qG<|zP<|jB 3 u<|qH (gv (fun _ k=>k p53 c53 r_48) [0,1,2,3,4,5] (gq [0,8,9,10,11,12])))<|qS<|qP<|qU<|qR<|
  zL (gv (fun _ k=>k p48 c48 r_45) [900,1,2,3,4,5] (gq [0,4,5])))<|fun s2 _ k p47 c47 r_44=>k<|zB<|qV 2 3 u u u<|qJ .s 1 u u u<|zC<|zJ<|vF 3 1 u u<|vF 5 3 u u<|
  wQ u (lC 1 (.agg #[sv p4 s1.1 c4, sv p47 s2 c47, sv p6 s1.2.2 c6]) u u lN) (fun _ k=>k p4 c4 p47 c47 r_44 p6 c6) [4] (gq [1,2,0])
theorem zOg {qd : Prop} (k : Nat) :
    (∀ {y0 : Int}, qF qd prog 103 [vi y0] [] [] (zDU k y0) fun r K=>K (vs r) [] []) := by
  induction k with
  | zero => exact z07 call103
  | succ k ih =>
    have ih_ref06_decimal := @ih
    exact @fun y0=>qA (m1 := zEm (zDU k) y0) call103 func103 u fun X=>jA 1 u<|zG<|jA 2 u<|zK u (zB<|zA 3 u<|yT fun x1 h1=>jv (fun h=>zRD h u underlying9 u u (.inr ⟨_, rfl⟩) (.inr ⟨_, rfl⟩) h1)<|zA 1 u<|zC<|zJ<|qE<|zQ u u (fun _ k=>k) [] ⟨⟩)<|jC<|yD [] [] 11<|
  zY 10 [0] u<|yT fun x2 h2=>tC 1 u (fun h=>z1u h u u h2)<|zY 8 [3] u<|yT fun x3 h3=>tC 4 u (fun h=>zZG h u u h3)<|zY 6 [5] u<|yT fun x4 h4=>tC 6 u (fun h=>zZG h u u h4)<|zY 4 [7] u<|
  yT fun x5 h5=>tC 8 u (fun h=>zRD h u underlying9 u u (.inr ⟨_, rfl⟩) (.inr ⟨_, rfl⟩) h5)<|qB 2<|zZ (.f u) [] [] ih_ref06_decimal u u u ⟨⟩<|fun r1 _ k=>k<|zX<|yT fun x6 h6=>
  tC 9 u (fun h=>zPj h u u h6)<|zY 0 [10] u<|qQ<|zP<|zJ<|zQ u u (fun _ k=>k) [] ⟨⟩
theorem zNK {qd : Prop} {y0 : Int} : qF qd prog 103 [vi y0] [] [] (zHl y0) fun r K=>K (vs r) [] [] := zP3 fun k => (zOg k)
theorem zUy {qd : Prop} {y0 : zM} : qF qd prog 57 [.agg #[sv p1 y0.1 c1, sv p2 y0.2.1 c2, sv p3 y0.2.2 c3]] [] [Rl wP p1 c1 y0.1, Rl wF p2 c2 y0.2.1, Rl wO p3 c3 y0.2.2] (zK6 y0) fun r K=>K (vs r) [] [] :=
 qA call57 func57 u fun X=>zB<|qZ .s u<|fun b1=>zA 1 u<|zC<|jA 1 u<|jjn (fun s1 K=>K [(3, vi s1)] [[]] []) (zT<|qW (fun s2 K=>K [1] [] [0,1,2] [(3, vi s2)] []) (gv (fun _ k=>k) [0] (gq [0,1,2]))<|fun s2 _ k=>k<|zG<|yD [] [0] 6<|
  vQ 0 0 3 u u u u<|zY 4 [1] u<|qB 2<|zZ (.f u) [] [] zNK u u u ⟨⟩<|fun r1 _ k=>k<|zX<|yT fun x1 h1=>tC 3 u (fun h=>zPj h u u h1)<|qB 4<|zZ (.f u) [] [] zNC u u u (cq [0,1,2])<|
  fun r2 _ k=>k<|zX<|zY 0 [5] u<|qQ<|zP<|zK u (jC<|zT<|jB 3 u<|qG<|qH (gv (fun _ k=>k) [0] (gq [0,1,2])))<|qS<|qP<|qU<|qR<|zL (gv (fun _ k=>k) [900] ⟨⟩))<|fun s1 _ k=>k<|zB<|zA 1 u<|qI zNK u ⟨⟩<|
  fun r3 _ k=>k<|yT fun x2 h2=>jv (fun h=>zPj h u u h2)<|zA 1 u<|zC<|zJ<|zQ u u (fun _ k=>k) [] ⟨⟩
theorem zPl {qd : Prop} {y0 : zM} : qF qd prog 20 [.agg #[sv p1 y0.1 c1, sv p2 y0.2.1 c2, sv p3 y0.2.2 c3]] [] [Rl wP p1 c1 y0.1, Rl wF p2 c2 y0.2.1, Rl wO p3 c3 y0.2.2] (zGc y0) fun r K=>∀ p4 c4 p5 c5 p6 c6,K (.tuple #[.agg #[sv p4 r.1.1 c4, sv p5 r.1.2.1 c5, sv p6 r.1.2.2 c6], vi r.2]) [] [Rl wP p4 c4 r.1.1, Rl wF p5 c5 r.1.2.1, Rl wO p6 c6 r.1.2.2] :=
 qA call20 func20 u fun X=>zB<|qZ .s u<|fun b1=>wN .s (.agg #[.slice none 0 0, .slice none 0 0, .slice none 0 0])<|fun b2=>zA 1 u<|zC<|zG<|zB<|qV 0 3 u u u<|qI zJB u (cq [0,1,2])<|fun r1 _ k=>k<|zA 1 u<|zC<|jA 2 u<|zK u (
  zB<|zI (.agg #[.slice none 0 0, .slice none 0 0, .slice none 0 0])<|zA 1 u<|qJ .s 1 u u u<|zA 1 u<|zC<|zJ<|qE<|
  wQ u (lC 1 (.agg #[.slice none 0 0, .slice none 0 0, .slice none 0 0]) u u (lT u lN)) (fun _ k=>k none 0 none 0 none 0) [] ⟨gn,gn,gn,⟨⟩⟩)<|jC<|zB<|qV 0 3 u u u<|qI zUO u (cq [0,1,2])<|
  fun r2 _ k p4 c4 p5 c5 r_1 p6 c6=>k<|wN .s (.agg #[.slice none 0 0, .slice none 0 0, .slice none 0 0])<|fun b3=>qJ .s 3 u u u<|zC<|
  zX2 (fun s1 K=>∀ p7 c7 r_2,K [2,5] [(0, []), (2, r_2), (3, bx b3 29 [sv p4 r2.1 c4, sv p7 s1 c7, sv p6 r2.2.2 c6])] [0,2] [] [Al wF 92 r_2 p7 c7 s1]) (jA 1 u<|zT<|
  qW (fun s2 K=>∀ p8 c8 r_3,K [2,5] [(0, []), (2, r_3), (3, bx b3 29 [sv p4 r2.1 c4, sv p8 s2.2 c8, sv p6 r2.2.2 c6])] [0,2] [(6, vi s2.1)] [Al wF 92 r_3 p8 c8 s2.2]) (gv (fun _ k=>k p5 c5 r_1) [900,1,2,3] (gq [1,0,2]))<|
  fun s2 _ k p8 c8 r_3=>k<|zG<|zB<|zA 1 u<|zN 1 u<|zS 3 u u u<|zA 2 u<|zC<|zK u (jC<|zG<|zT<|zB<|zN 1 u<|zS 3 u u u<|zA 1 u<|jia 0 u u u<|fun x1 h1 b4 hp1=>jlA 2 0 sI true zL5 u hp1 h1 u<|
  fun p9 c9=>wN .s (.agg #[vs [], vb false, vi 0, .slice none 0 0, vb false, vs []])<|fun b5=>qJ .s 4 u u u<|zC<|jA 1 u<|zT<|
  qW (fun s3 K=>∀ p10 c10 r_4,K [2,5,6,7] [(2, r_4), (3, bx b3 29 [sv p4 r2.1 c4, sv p10 s3.2 c10, sv p6 r2.2.2 c6])] [2,3,0] [(8, vi s3.1)] [Al wF 92 r_4 p10 c10 s3.2]) (gv (fun _ k=>k p8 c8 r_3) [900,1,2,3,4] (gq [1,2,3,0]))<|
  fun s3 _ k p10 c10 r_4=>k<|zG<|tN (fun K=>K [2,5,6,7,8] [] [1,0,2,3] [(38, vb ((decide (s3.1 < (len x1.2.2.2.1))) && x1.2.1))] []) (qL<|zA 1 u<|zN 3 u<|zS 4 u u u<|zA 3 u<|
  yY (b := decide (s3.1 < (len x1.2.2.2.1))) 35 u (fun hb1=>zN 1 u<|zS 4 u u u<|zI (vb x1.2.1)<|zU<|wW 38 (vb ((decide (s3.1 < (len x1.2.2.2.1))) && x1.2.1)) u (by rw [hb1]; rfl)<|
  zL (gv (fun _ k=>k) [900,1,2,3,4] (gq [1,0,2,3])))<|fun hb1=>zA 2 u<|zI (vb false)<|zU<|wW 38 (vb ((decide (s3.1 < (len x1.2.2.2.1))) && x1.2.1)) u (by rw [hb1]; rfl)<|zL (gv (fun _ k=>k) [900,1,2,3,4] (gq [1,0,2,3])))<|fun _ k=>
  k<|zK u (jC<|zG<|zT<|zB<|qV 4 6 u u u<|zA 1 u<|qI zKw u (cq [3])<|fun r3 _ k p11 c11=>k<|wN .s (.agg #[vs [], vb false, vi 0, .slice none 0 0, vb false, vs []])<|fun b6=>qJ .s 5 u u u<|zC<|zG<|
  zB<|qV 3 3 u u u<|qV 5 6 u u u<|zZ .s [] [2] zOt u u u ⟨ck 1,cl 2 2,ck 3,ck 0,⟨⟩⟩<|fun r4 _ k=>k<|zC<|zK u (qS<|qP<|qR<|zP<|jB 3 u<|qH (gv (fun _ k=>k p10 c10 r_4) [900,1,2,3,4] (gq [2,1,3,4])))<|
  jC<|zG<|zB<|zN 1 u<|zS 3 u u u<|zA 2 u<|zC<|zK u (zB<|zI (.agg #[.slice none 0 0, .slice none 0 0, .slice none 0 0])<|qJ .s 1 u u u<|zA 1 u<|zC<|zJ<|qE<|qO<|qE<|wU<|qO<|qO<|qE<|wU<|qO<|wU<|
  wQ u (lC 1 (.agg #[.slice none 0 0, .slice none 0 0, .slice none 0 0]) u u (lT u lN)) (fun _ k=>k none 0 none 0 none 0) [] ⟨gn,gn,gn,⟨⟩⟩)<|jC<|zB<|qV 3 3 u u u<|
  zZ .s [] [2] zUy rfl u u ⟨ck 1,cl 2 2,ck 3,⟨⟩⟩<|fun r5 _ k=>k<|zN 0 u<|qJ .s 5 u u u<|zC<|qL<|zN 1 u<|zS 3 u u u<|qV 5 6 u u u<|
  vD .s (e := wF) 92 [vs r5, vb r3.2.1, vi r3.2.2.1, sv p11 r3.2.2.2.1 c11, vb r3.2.2.2.2.1, vs r3.2.2.2.2.2] ([(r5, r3.2.1, r3.2.2.1, r3.2.2.2.1, r3.2.2.2.2)] : List qK) (rC (vP vS (vP vB (vP vI (vP (vL (gk 0)) (vP vB vS))))) rN)<|
  fun p12 c12=>wL .s 2 3 u (gk 0) u u<|fun x2 r_5 p13 c13=>zN 1 u<|qJ .s 3 u u u<|zU<|qG<|zP<|jB 3 u<|qH (gv (fun _ k=>k p13 c13 r_5) [900,1,2,3,4] (gq [0,3,5,6])))<|qS<|qP<|qU<|qR<|qG<|zP<|jB 3 u<|
  qH (gv (fun _ k=>k p10 c10 r_4) [900,1,2,3] (gq [1,0,2])))<|qS<|qP<|qU<|qR<|qH (gv (fun _ k=>k p8 c8 r_3) [900,1,2,3] (gq [0,1,2])))<|fun s1 _ k p7 c7 r_2=>k<|zB<|qV 3 3 u u u<|qJ .s 1 u u u<|zA 1 u<|zC<|zJ<|
  vF 2 0 u u<|wQ u (lC 1 (.agg #[sv p4 r2.1 c4, sv p7 s1 c7, sv p6 r2.2.2 c6]) u u (lT u lN)) (fun _ k=>k p4 c4 p7 c7 p6 c6) [] (gq [2,0,3])
theorem zOM {qd : Prop} {y0 : List Int} {y1 : Int} : qF qd prog 159 [sv p1 y0 c1, vi y1] [] [Rl (zO .i64) p1 c1 y0] (zGy y0 y1) fun r K=>∀ p2 c2,K (sv p2 r c2) [] [Rl (zO .i64) p2 c2 r] :=
 qA call159 func159 u fun X=>jA 1 u<|jA 1 u<|wK (fun s1 K=>K [0,1] [] [0] [(5, vi s1)] []) (zT<|qW (fun s2 K=>K [0,1] [] [0] [(5, vi s2)] []) (gv (fun _ k=>k) [] (gq [0]))<|fun s2 _ k=>k<|zG<|wK (fun s3 K=>K [0,1,5] [] [0] [(18, vb s3)] []) (qL<|
  zA 5 u<|wM 11 u (zA 2 u<|wC 0 u u u<|fun x1 b1 o1=>wA false oI (gk 0) u<|zA 2 u<|zI (vb (decide (x1 < y1)))<|zU<|zL (gv (fun _ k=>k) [] (gq [1])))<|zA 6 u<|zI (vb false)<|zU<|zL (gv (fun _ k=>k) [] (gq [0]))
  )<|fun s3 _ k=>k<|zK u (jC<|zT<|jB 3 u<|qG<|qH (gv (fun _ k=>k) [] (gq [0])))<|qS<|qP<|qU<|qR<|zL (gv (fun _ k=>k) [] (gq [0])))<|fun s1 _ k=>k<|zG<|wK (fun s4 K=>K [0,1,5] [] [0] [(32, vb s4)] []) (qL<|zA 5 u<|
  wM 25 u (zA 2 u<|wC 0 u u u<|fun x2 b2 o2=>wA false oI (gk 0) u<|zA 2 u<|zI (vb (x2 == y1))<|zU<|zL (gv (fun _ k=>k) [] (gq [1])))<|zA 6 u<|zI (vb false)<|zU<|zL (gv (fun _ k=>k) [] (gq [0])))<|fun s4 _ k=>k<|
  zK u (jA 2 u<|zJ<|qE<|zQ u u (fun _ k=>k p1 c1) [] (gq [0]))<|jC<|zB<|xE .s (e := zO .i64) 3 [] ([] : List Int) rN<|fun r_1 p2 c2=>zA 2 u<|jsl (gk 1) u u u (.inl ⟨rfl, rfl⟩) (.inr ⟨_, rfl⟩)<|fun x3 p3 c3=>
  wL .s 0 1 u (gk 0) u u<|fun x4 r_2 p4 c4=>zA 1 u<|zC<|yD [] [] 9<|zY 5 [0,1,4,5] u<|jdw 6 u (gk 3) u u u (.inr ⟨_, rfl⟩) (.inl ⟨rfl, rfl⟩)<|fun x5 p5 c5=>qB 2<|
  vD (.f u) (e := zO .i64) 3 [vi y1] ([y1] : List Int) (rC vI rN)<|fun p6 c6=>zX<|qB 3<|wL (.f u) 0 2 u (gk 0) u u<|fun x6 r_3 p7 c7=>zX<|qB 7<|wL (.f u) 0 0 u (gk 2) u u<|fun x7 r_4 p8 c8=>zX<|zY 0 [8] u<|qQ<|
  zP<|zJ<|vF 0 0 u u<|zQ u u (fun _ k=>k p8 c8) [] (gq [0])
theorem zTR {qd : Prop} {y0 : List Int} {y1 : List Int} : qF qd prog 240 [sv p1 y0 c1, sv p2 y1 c2] [] [Rl (zO .i64) p1 c1 y0, Rl (zO .i64) p2 c2 y1] (zLl y0 y1) fun r K=>∀ p3 c3,K (sv p3 r c3) [] [Rl (zO .i64) p3 c3 r] :=
 qA call240 func240 u fun X=>jA 1 u<|zG<|jA 1 u<|zT<|qW (fun s1 K=>∀ p3 c3,K [1] [] [1] [(0, sv p3 s1.1 c3), (5, vi s1.2)] [Rl (zO .i64) p3 c3 s1.1]) (gv (fun _ k=>k p1 c1) [] (gq [0,1]))<|fun s1 _ k p3 c3=>k<|zG<|jA 4 u<|zK u (jC<|zG<|zT<|qL<|
  zA 3 u<|wC 1 u u u<|fun x1 b1 o1=>wA false oI (gk 0) u<|qI zOM u (cq [1])<|fun r1 _ k p4 c4=>k<|zA 1 u<|zU<|qG<|zP<|jB 3 u<|qH (gv (fun _ k=>k p4 c4) [] (gq [0,3])))<|qS<|qP<|qU<|qR<|zP<|jA 2 u<|
  zJ<|zQ u u (fun _ k=>k p3 c3) [] (gq [0])
theorem zQk {qd : Prop} (k : Nat) :
    (∀ {y0 : List zH} {p1 : Option Addr} {c1 : Nat} {y1 : Int}, qF qd prog 158 [sv p1 y0 c1, vi y1] [] [Rl wS p1 c1 y0] (zGW k y0 y1) fun r K=>∀ p2 c2,K (sv p2 r c2) [] [Rl (zO .i64) p2 c2 r]) := by
  induction k with
  | zero => exact z07 call158
  | succ k ih =>
    have ih_ref07_Subs := @ih
    exact @fun y0 p1 c1 y1=>qA (m1 := zKc (zGW k) y0 y1) call158 func158 u fun X=>jA 1 u<|zG<|tN (fun K=>K [0,1] [] [0] [(14, vb ((decide (y1 < 0)) || (decide ((len y0) ≤ y1))))] []) (qL<|zA 3 u<|yY (b := decide (y1 < 0)) 9 u (fun hb1=>zA 4 u<|zI (vb true)<|zU<|
  wW 14 (vb ((decide (y1 < 0)) || (decide ((len y0) ≤ y1)))) u (by rw [hb1]; rfl)<|zL (gv (fun _ k=>k) [] (gq [0])))<|fun hb1=>zA 4 u<|zI (vb (decide ((len y0) ≤ y1)))<|zU<|
  wW 14 (vb ((decide (y1 < 0)) || (decide ((len y0) ≤ y1)))) u (by rw [hb1]; rfl)<|zL (gv (fun _ k=>k) [] (gq [0])))<|fun _ k=>k<|zK u (jA 1 u<|zJ<|qE<|zQ u u (fun _ k=>k none 0) [] ⟨gn,⟨⟩⟩)<|jC<|zB<|zA 1 u<|
  vD .s (e := zO .i64) 3 [vi y1] ([y1] : List Int) (rC vI rN)<|fun p2 c2=>zA 1 u<|zC<|zG<|jA 1 u<|zT<|
  qW (fun s1 K=>∀ p3 c3,K [0,1] [] [1] [(5, sv p3 s1.1 c3), (6, vi s1.2)] [Rl (zO .i64) p3 c3 s1.1]) (gv (fun _ k=>k p2 c2) [] (gq [0,1]))<|fun s1 _ k p3 c3=>k<|zG<|zB<|zA 3 u<|wC 1 u u u<|fun x1 b1 o1=>zN 2 u<|
  wA false oL (gf (gs (gs (gk 0)))) u<|fun p4 c4=>zA 2 u<|zC<|zK u (jC<|zG<|zT<|qL<|zA 4 u<|wC 3 u u u<|fun x2 b2 o2=>zN 2 u<|wA false oL (gf (gs (gs (gk 0)))) u<|fun p5 c5=>zA 1 u<|wC 0 u u u<|
  fun x3 b3 o3=>wA false oI (gk 0) u<|qI ih_ref07_Subs u (cq [6])<|fun r1 _ k p6 c6=>k<|qI zTR u (cq [6,0])<|fun r2 _ k p7 c7=>k<|zA 1 u<|zU<|qG<|zP<|jB 3 u<|qH (gv (fun _ k=>k p7 c7) [] (gq [0,8])))<|qS<|qP<|
  qU<|qR<|zP<|jA 2 u<|zJ<|zQ u u (fun _ k=>k p3 c3) [] (gq [2])
theorem zUL {qd : Prop} {y0 : List zH} {y1 : Int} : qF qd prog 158 [sv p1 y0 c1, vi y1] [] [Rl wS p1 c1 y0] (zNP y0 y1) fun r K=>∀ p2 c2,K (sv p2 r c2) [] [Rl (zO .i64) p2 c2 r] := zP3 fun k => (zQk k)
theorem zKU {qd : Prop} {y0 : zM} {y1 : List zH} {y2 : Int} : qF qd prog 106 [.agg #[sv p1 y0.1 c1, sv p2 y0.2.1 c2, sv p3 y0.2.2 c3], sv p4 y1 c4, vi y2] [] [Rl wP p1 c1 y0.1, Rl wF p2 c2 y0.2.1, Rl wO p3 c3 y0.2.2, Rl wS p4 c4 y1] (zDm y0 y1 y2) fun r K=>∀ p5 c5,K (sv p5 r c5) [] [Rl (zO .i64) p5 c5 r] :=
 qA call106 func106 u fun X=>zB<|qZ .s u<|fun b1=>zA 1 u<|zC<|jA 1 u<|zG<|zB<|zA 2 u<|qI zUL u (cq [3])<|fun r1 _ k p5 c5=>k<|zA 2 u<|zC<|zT<|
  qW (fun s1 K=>∀ p6 c6,K [1,3,12,13] [] [4,0,1,2,3] [(7, sv p6 s1.1 c6), (14, vi s1.2)] [Rl (zO .i64) p6 c6 s1.1]) (gv (fun _ k=>k none 0) [0] ⟨gn,gk 4,gk 0,gk 1,gk 2,gk 3,⟨⟩⟩)<|fun s1 _ k p6 c6=>k<|jA 1 u<|zG<|zK u (jC<|zG<|zT<|
  zB<|wC 2 u u u<|fun x1 b2 o1=>wA false oI (gk 0) u<|zA 1 u<|zC<|wK (fun s2 K=>K [1,3,7,9,12,13,14] [] [2,1,3,4,5,6] [(36, vb s2)] []) (uT [] [0] 19<|zY 17 [0,1] u<|yO 2 2 u u u u<|fun x2 b3 o2=>
  qT 3 1 u u<|yK 4 false oI u (gf (gs (gk 0))) u<|zY 12 [5,6] u<|wM 24 u (qT 7 1 u u<|wH 8 0 u u u u<|zY 8 [9,10] u<|yO 11 3 u u u u<|fun x3 b4 o3=>qT 12 1 u u<|
  yK 13 false oI u (gf (gs (gk 0))) u<|yO 14 7 u u u u<|fun x4 b5 o4=>qT 15 1 u u<|yK 16 false oB u (gf (gs (gk 0))) u<|zY 1 [17] u<|wR 18 (vb (!x4.2.1)) u<|qQ<|zL (gv (fun _ k=>k) [0] (gq [5,4,6,7,8,9])))<|
  zY 1 [7,8,9,10,11,12,13,14,15,16,17] u<|wR 18 (vb false) u<|qQ<|zL (gv (fun _ k=>k) [0] (gq [3,2,4,5,6,7])))<|fun s2 _ k=>k<|zK u (qL<|zA 3 u<|wC 0 u u u<|fun x5 b6 o5=>zN 1 u<|wA false oI (gf (gs (gk 0))) u<|
  qI zOM u (cq [2])<|fun r2 _ k p7 c7=>k<|zA 1 u<|zU<|qG<|zP<|jB 2 u<|qH (gv (fun _ k=>k p7 c7) [0] (gq [0,2,4,5,6,7])))<|wG<|qG<|zP<|jB 2 u<|qH (gv (fun _ k=>k p6 c6) [0] (gq [1,0,2,3,4,5])))<|qS<|qP<|qU<|
  qR<|zP<|jA 2 u<|zJ<|zQ u u (fun _ k=>k p6 c6) [] (gq [0])
theorem zR0 {qd : Prop} (k : Nat) :
    (∀ {y0 : zM} {p1 : Option Addr} {c1 : Nat} {p2 : Option Addr} {c2 : Nat} {p3 : Option Addr} {c3 : Nat} {y1 : List zH} {p4 : Option Addr} {c4 : Nat} {y2 : Int}, qF qd prog 104 [.agg #[sv p1 y0.1 c1, sv p2 y0.2.1 c2, sv p3 y0.2.2 c3], sv p4 y1 c4, vi y2] [] [Rl wP p1 c1 y0.1, Rl wF p2 c2 y0.2.1, Rl wO p3 c3 y0.2.2, Rl wS p4 c4 y1] (zBU k y0 y1 y2) fun r K=>∀ p5 c5,K (sv p5 r c5) [] [Rl wI p5 c5 r]) := by
  induction k with
  | zero => exact z07 call104
  | succ k ih =>
    have ih_ref07_Run := @ih
    exact @fun y0 p1 c1 p2 c2 p3 c3 y1 p4 c4 y2=>qA (m1 := zFQ (zBU k) y0 y1 y2) call104 func104 u fun X=>zB<|qZ .s u<|fun b1=>zA 1 u<|zC<|zB<|zA 2 u<|wC 3 u u u<|fun x1 b2 o1=>zN 3 u<|wA true yI (gs (gs (gs (gk 0)))) u<|
  xE .s (e := wI) 62 [vb x1.2.2.2.1, vs x1.2.2.2.2] ([x1.2.2.2] : List zF) (rC (vP vB vS) rN)<|fun r_1 p5 c5=>zA 1 u<|zC<|zG<|wK (fun s1 K=>K [1,2,3,7] [] [5,0,2,3,4] [(32, vb s1)] []) (uT [] [0] 18<|zY 16 [0,1] u<|
  yO 2 5 u u u u<|fun x2 b3 o2=>qT 3 1 u u<|yK 4 false oI u (gf (gs (gk 0))) u<|zY 11 [5,6] u<|wM 21 u (qT 7 1 u u<|wH 8 0 u u u u<|zY 7 [9,10] u<|yO 11 6 u u u u<|fun x3 b4 o3=>
  qT 12 1 u u<|yK 13 false oI u (gf (gs (gk 0))) u<|yO 14 5 u u u u<|fun x4 b5 o4=>qT 15 1 u u<|yK 16 false oB u (gf (gs (gk 0))) u<|wR 17 (vb x4.2.1) u<|qQ<|zL (gv (fun _ k=>k) [0,1] (gq [8,3,5,6,7])))<|
  zY 1 [7,8,9,10,11,12,13,14,15,16] u<|wR 17 (vb false) u<|qQ<|zL (gv (fun _ k=>k) [0,1] (gq [6,1,3,4,5])))<|fun s1 _ k=>k<|zK u (jA 1 u<|zT<|
  qW (fun s2 K=>∀ p6 c6 r_2,K [1,2,3] [(1, r_2)] [0,2,3,4] [(7, sv p6 s2.1 c6), (8, vi s2.2)] [Al wI 62 r_2 p6 c6 s2.1]) (gv (fun _ k=>k p5 c5 r_1) [0,1] (gq [1,0,2,3,4]))<|fun s2 _ k p6 c6 r_2=>k<|zG<|zB<|zA 3 u<|
  wC 1 u u u<|fun x5 b6 o5=>zN 2 u<|wA false oL (gf (gs (gs (gk 0)))) u<|fun p7 c7=>zA 2 u<|zC<|zK u (jC<|zG<|zT<|uT [] [0] 14<|zY 13 [0] u<|vQ 1 0 3 u u u u<|zY 9 [2,3,4] u<|yO 5 3 u u u u<|
  fun x6 b7 o6=>qT 6 2 u u<|yK 7 false oL u (gf (gs (gs (gk 0)))) u<|fun p8 c8=>zY 5 [8] u<|yO 9 0 u u u u<|fun x7 b8 o7=>yK 10 false oI u (gk 0) u<|qB 11<|
  zZ (.f u) [] [] ih_ref07_Run u u u (cq [7,8,9,6])<|fun r1 _ k p9 c9=>k<|zX<|qB 12<|wL (.f u) 1 6 u (gk 0) u u<|fun x8 r_3 p10 c10=>zX<|zY 0 [13] u<|qQ<|qG<|zP<|jB 3 u<|
  qH (gv (fun _ k=>k p10 c10 r_3) [0,1] (gq [0,8,9,10,11])))<|qS<|qP<|qU<|qR<|zP<|jA 2 u<|zJ<|vF 1 2 u u<|zQ u u (fun _ k=>k p6 c6) [] (gq [0]))<|jC<|jA 2 u<|zJ<|vF 1 1 u u<|
  zQ u u (fun _ k=>k p5 c5) [] (gq [0])
theorem zWU {qd : Prop} {y0 : zM} {y1 : List zH} {y2 : Int} : qF qd prog 104 [.agg #[sv p1 y0.1 c1, sv p2 y0.2.1 c2, sv p3 y0.2.2 c3], sv p4 y1 c4, vi y2] [] [Rl wP p1 c1 y0.1, Rl wF p2 c2 y0.2.1, Rl wO p3 c3 y0.2.2, Rl wS p4 c4 y1] (zIY y0 y1 y2) fun r K=>∀ p5 c5,K (sv p5 r c5) [] [Rl wI p5 c5 r] := zP3 fun k => (zR0 k)
theorem zS8 {qd : Prop} {y0 : List Int} {y1 : Int} : qF qd prog 105 [sv p1 y0 c1, vi y1] [] [Rl (zO .i64) p1 c1 y0] (zN6 y0 y1) fun r K=>K (vb r) [] [] :=
 qA call105 func105 u fun X=>jA 1 u<|zG<|jA 1 u<|zT<|qW (fun s1 K=>K [0,1] [] [0] [(5, vi s1)] []) (gv (fun _ k=>k) [] (gq [0]))<|fun s1 _ k=>k<|zG<|jA 4 u<|zK u (jC<|zG<|zT<|zB<|zA 2 u<|wC 0 u u u<|fun x1 b1 o1=>wA false oI (gk 0) u<|
  zA 2 u<|zC<|zK u (jA 1 u<|zJ<|qO<|qE<|wU<|qO<|qE<|zQ u u (fun _ k=>k) [] ⟨⟩)<|wG<|qG<|zP<|jB 3 u<|qH (gv (fun _ k=>k) [] (gq [1])))<|qS<|qP<|qU<|qR<|zP<|jA 1 u<|zJ<|zQ u u (fun _ k=>k) [] ⟨⟩
theorem zOQ {qd : Prop} {y0 : zM} {y1 : List zH} {y2 : Int} {y3 : List Int} : qF qd prog 60 [.agg #[sv p1 y0.1 c1, sv p2 y0.2.1 c2, sv p3 y0.2.2 c3], sv p4 y1 c4, vi y2, sv p5 y3 c5] [] [Rl wP p1 c1 y0.1, Rl wF p2 c2 y0.2.1, Rl wO p3 c3 y0.2.2, Rl wS p4 c4 y1, Rl (zO .i64) p5 c5 y3] (zFd y0 y1 y2 y3) fun r K=>K (vb r) [] [] :=
 qA call60 func60 u fun X=>zB<|qZ .s u<|fun b1=>zA 1 u<|zC<|zB<|zN 1 u<|zS 0 u u u<|zA 1 u<|wC 1 u u u<|fun x1 b2 o1=>wA true zL5 (gk 0) u<|fun p6 c6=>wN .s (.agg #[vs [], vb false, vi 0, .slice none 0 0, vb false, vs []])<|
  fun b3=>qJ .s 1 u u u<|zC<|zG<|jA 1 u<|zT<|qW (fun s1 K=>K [1,2,3,4,9] [] [5,6,2,3,4,0] [(10, vi s1)] []) (gv (fun _ k=>k) [0,1] (gq [5,6,2,3,4,0]))<|fun s1 _ k=>k<|zG<|jA 4 u<|zK u (jC<|zG<|zT<|
  wK (fun s2 K=>K [1,2,3,4,9,10] [] [0,1,2,3,4,5] [(51, vb s2)] []) (uT [] [0, 1] 30<|qT 0 1 u u<|wH 1 1 u u u u<|zY 27 [2] u<|wM 24 u (vQ 3 0 3 u u u u<|zY 23 [4,5,6] u<|yO 7 1 u u u u<|
  fun x2 b4 o2=>yK 8 false oI u (gk 0) u<|qT 10 4 u u<|vQ 11 1 2 u u u u<|qB 9<|zZ (.f u) [] [] zWU u u u (cq [3,4,5,1])<|fun r1 _ k p7 c7=>k<|zX<|qB 12<|
  zZ (.f u) [] [] zLq u u u (cq [0])<|fun r2 _ k=>k<|zX<|wR 13 (vb r2) u<|zY 15 [14] u<|wM 36 u (zY 1 [15,16,17,18,19,20,21,22,23,24,25,26,27,28] u<|wR 29 (vb true) u<|qQ<|
  zL (gv (fun _ k=>k) [0,1] (gq [2,3,4,5,6,7])))<|qT 15 1 u u<|wH 16 1 u u u u<|zY 11 [17,18] u<|wM 40 u (vQ 19 0 3 u u u u<|zY 7 [20,21,22] u<|yO 23 3 u u u u<|fun x3 b5 o3=>
  yK 24 false oI u (gk 0) u<|zY 4 [26] u<|qB 25<|zZ (.f u) [] [] zKU u u u (cq [5,6,7,3])<|fun r3 _ k p8 c8=>k<|zX<|qB 27<|zZ (.f u) [] [] zS8 u u u (cq [0])<|fun r4 _ k=>k<|zX<|
  wR 28 (vb r4) u<|wR 29 (vb r4) u<|qQ<|zL (gv (fun _ k=>k) [0,1] (gq [4,5,6,7,8,9])))<|zY 2 [19,20,21,22,23,24,25,26,27] u<|wR 28 (vb false) u<|wR 29 (vb false) u<|qQ<|zL (gv (fun _ k=>k) [0,1] (gq [2,3,4,5,6,7])))<|
  zY 17 [3,4,5,6,7,8,9,10,11,12] u<|wR 13 (vb false) u<|zY 15 [14] u<|qT 15 1 u u<|wH 16 1 u u u u<|zY 11 [17,18] u<|wM 40 u (vQ 19 0 3 u u u u<|zY 7 [20,21,22] u<|yO 23 1 u u u u<|
  fun x4 b6 o4=>yK 24 false oI u (gk 0) u<|zY 4 [26] u<|qB 25<|zZ (.f u) [] [] zKU u u u (cq [3,4,5,1])<|fun r5 _ k p9 c9=>k<|zX<|qB 27<|zZ (.f u) [] [] zS8 u u u (cq [0])<|fun r6 _ k=>k<|
  zX<|wR 28 (vb r6) u<|wR 29 (vb r6) u<|qQ<|zL (gv (fun _ k=>k) [0,1] (gq [2,3,4,5,6,7])))<|zY 2 [19,20,21,22,23,24,25,26,27] u<|wR 28 (vb false) u<|wR 29 (vb false) u<|qQ<|zL (gv (fun _ k=>k) [0,1] (gq [0,1,2,3,4,5])))<|
  fun s2 _ k=>k<|zK u (jA 1 u<|zJ<|qO<|qE<|wU<|qO<|qE<|zQ u u (fun _ k=>k) [] ⟨⟩)<|wG<|qG<|zP<|jB 3 u<|qH (gv (fun _ k=>k) [0,1] (gq [0,1,2,3,4,5])))<|qS<|qP<|qU<|qR<|zP<|jA 1 u<|zJ<|
  zQ u u (fun _ k=>k) [] ⟨⟩
theorem zNR {qd : Prop} (k : Nat) :
    (∀ {y0 : List zH} {p1 : Option Addr} {c1 : Nat} {r_1 : zV} {y1 : Int} {y2 : List zF} {p2 : Option Addr} {c2 : Nat} {y3 : List Int} {p3 : Option Addr} {c3 : Nat}, qF qd prog 58 [sv p1 y0 c1, vi y1, sv p2 y2 c2, sv p3 y3 c3] [r_1] [Al wS 112 r_1 p1 c1 y0, Rl wI p2 c2 y2, Rl (zO .i64) p3 c3 y3] (zCP k y0 y1 y2 y3) fun r K=>∀ p4 c4,K (sv p4 r c4) [r_1] [Rl (wJ (zO .i64)) p4 c4 r]) := by
  induction k with
  | zero => exact z07 call58
  | succ k ih =>
    have ih_ref07_choices_2 := @ih
    exact @fun y0 p1 c1 r_1 y1 y2 p2 c2 y3 p3 c3=>qA (m1 := zGY (zCP k) y0 y1 y2 y3) call58 func58 u fun X=>jA 1 u<|zG<|jA 5 u<|zK u (zB<|xE .s (e := zO .i64) 3 [] ([] : List Int) rN<|fun r_2 p4 c4=>zA 1 u<|wL .s 1 0 u (gk 3) u u<|fun x1 r_3 p5 c5=>vF 1 0 u u<|
  vD .s (e := wJ (zO .i64)) 22 [sv p5 x1 c5] ([x1] : List (List Int)) (rC (vL (gk 0)) rN)<|fun p6 c6=>zA 1 u<|zC<|zJ<|qE<|zQ u u (fun _ k=>k p6 c6) [0] (gq [0]))<|jC<|zB<|zA 1 u<|vT (wJ (zO .i64)) 22<|zC<|zG<|
  jA 1 u<|zT<|qW (fun s1 K=>∀ p7 c7 r_4,K [0,1,2,3] [(1, r_4)] [1,2,3] [(9, sv p7 s1.1 c7), (10, vi s1.2)] [Al (wJ (zO .i64)) 22 r_4 p7 c7 s1.1]) (gv (fun _ k=>k none 0 []) [0,1] (gq [0,1,2,3]))<|fun s1 _ k p7 c7 r_4=>k<|zG<|
  jA 3 u<|zK u (jC<|zG<|zT<|yD [] [0] 11<|zY 9 [0,1] u<|jdI 2 1 u u u u<|fun x2 h2 b1 hp1=>qT 3 3 u u<|jdL 4 0 1 sI.snd.snd.snd true yI u u hp1 h2 u<|zY 3 [5,6,7] u<|yO 8 2 u u u u<|
  fun x3 b2 o1=>yK 9 true yI u (gk 0) u<|wR 10 (vb (x2.2.2.2 == x3)) u<|qQ<|zP<|zK u (qL<|zA 9 u<|jsF (gk 4) u u u u (.inl ⟨rfl, rfl⟩)<|fun x4 p8=>zA 1 u<|
  vD .s (e := zO .i64) 3 [vi s1.2] ([s1.2] : List Int) (rC vI rN)<|fun p9 c8=>jaf .s 3 (gk 1) (gk 0) u u<|fun x5 p10 c9=>zZ .s [0] [] ih_ref07_choices_2 u u u (cq [5,6,0])<|fun r1 _ k p11 c10=>k<|wL .s 1 5 u (gk 0) u u<|
  fun x6 r_5 p12 c11=>zA 1 u<|zU<|qG<|zP<|jB 3 u<|qH (gv (fun _ k=>k p12 c11 r_5) [0,1] (gq [0,7,8,9])))<|wG<|qG<|zP<|jB 3 u<|qH (gv (fun _ k=>k p7 c7 r_4) [0,1] (gq [1,2,3,4])))<|qS<|qP<|qU<|qR<|zP<|jA 2 u<|zJ<|
  vF 1 0 u u<|zQ u u (fun _ k=>k p7 c7) [0] (gq [0])
theorem zPx {qd : Prop} {y0 : List zH} {y1 : Int} {y2 : List zF} {y3 : List Int} : qF qd prog 58 [sv p1 y0 c1, vi y1, sv p2 y2 c2, sv p3 y3 c3] [r_1] [Al wS 112 r_1 p1 c1 y0, Rl wI p2 c2 y2, Rl (zO .i64) p3 c3 y3] (zIX y0 y1 y2 y3) fun r K=>∀ p4 c4,K (sv p4 r c4) [r_1] [Rl (wJ (zO .i64)) p4 c4 r] := zP3 fun k => (zNR k)
theorem zSG {qd : Prop} {y0 : List Int} {y1 : Int} : qF qd prog 59 [sv p1 y0 c1, vi y1] [] [Rl (zO .i64) p1 c1 y0] (zKo y0 y1) fun r K=>K (vb r) [] [] :=
 qA call59 func59 u fun X=>jA 1 u<|zG<|jA 1 u<|zT<|qW (fun s1 K=>K [0,1] [] [0] [(5, vi s1)] []) (gv (fun _ k=>k) [] (gq [0]))<|fun s1 _ k=>k<|zG<|jA 4 u<|zK u (jC<|zG<|zT<|zB<|zA 2 u<|wC 0 u u u<|fun x1 b1 o1=>wA false oI (gk 0) u<|
  zA 2 u<|zC<|zK u (jA 1 u<|zJ<|qO<|qE<|wU<|qO<|qE<|zQ u u (fun _ k=>k) [] ⟨⟩)<|wG<|qG<|zP<|jB 3 u<|qH (gv (fun _ k=>k) [] (gq [1])))<|qS<|qP<|qU<|qR<|zP<|jA 1 u<|zJ<|zQ u u (fun _ k=>k) [] ⟨⟩
theorem zTU {qd : Prop} {y0 : zM} : qF qd prog 21 [.agg #[sv p1 y0.1 c1, sv p2 y0.2.1 c2, sv p3 y0.2.2 c3]] [] [Rl wP p1 c1 y0.1, Rl wF p2 c2 y0.2.1, Rl wO p3 c3 y0.2.2] (zDC y0) fun r K=>∀ p4 c4,K (.tuple #[sv p4 r.1 c4, vi r.2]) [] [Rl wS p4 c4 r.1] :=
 qA call21 func21 u fun X=>zB<|qZ .s u<|fun b1=>zA 2 u<|zC<|zG<|zB<|qV 0 3 u u u<|qI zJB u (cq [0,1,2])<|fun r1 _ k=>k<|zA 1 u<|zC<|jA 2 u<|zK u (jA 3 u<|zJ<|qE<|
  wQ u (lT u (lT u lN)) (fun _ k=>k none 0) [] ⟨gn,⟨⟩⟩)<|jC<|zB<|zA 1 u<|vT wS 112<|zC<|wK (fun s1 K=>∀ p4 c4 r_1,K [1] [(1, r_1)] [1,2,3] [(5, sv p4 s1 c4)] [Al wS 112 r_1 p4 c4 s1]) (jA 1 u<|zT<|
  qW (fun s2 K=>∀ p5 c5 r_2,K [1] [(1, r_2)] [1,2,3] [(5, sv p5 s2.1 c5), (6, vi s2.2)] [Al wS 112 r_2 p5 c5 s2.1]) (gv (fun _ k=>k none 0 []) [0,1] (gq [0,1,2,3]))<|fun s2 _ k p5 c5 r_2=>k<|zG<|zB<|zA 1 u<|zN 0 u<|
  zS 0 u u u<|zA 2 u<|zC<|zK u (jC<|zG<|zT<|qL<|zA 2 u<|zN 0 u<|zS 0 u u u<|zA 1 u<|wC 1 u u u<|fun x1 b2 o1=>zN 0 u<|wA true yI (gf (gk 0)) u<|
  zI (.agg #[vi s2.2, vi (-1), .slice none 0 0, vb x1.1.1, vs x1.1.2])<|
  vD .s (e := wS) 112 [vi s2.2, vi (-1), .slice none 0 0, vb x1.1.1, vs x1.1.2] ([(s2.2, (-1), ([] : List Int), x1.1)] : List zH) (rC (vP vI (vP vI (vP (vL gn) (vP vB vS)))) rN)<|fun p6 c6=>wL .s 1 2 u (gk 0) u u<|
  fun x2 r_3 p7 c7=>zA 1 u<|zU<|qG<|zP<|jB 3 u<|qH (gv (fun _ k=>k p7 c7 r_3) [0,1] (gq [0,4,5,6])))<|qS<|qP<|qU<|qR<|zL (gv (fun _ k=>k p5 c5 r_2) [0,1] (gq [0,1,2,3])))<|fun s1 _ k p4 c4 r_1=>k<|jA 1 u<|zG<|jA 1 u<|zT<|
  qW (fun s3 K=>∀ p8 c8 r_4,K [1] [(1, r_4)] [1,2,3] [(5, sv p8 s3.1 c8), (7, vi s3.2.1), (8, vi s3.2.2)] [Al wS 112 r_4 p8 c8 s3.1]) (gv (fun _ k=>k p4 c4 r_1) [0,1] (gq [0,1,2,3]))<|fun s3 _ k p8 c8 r_4=>k<|zG<|
  tN (fun K=>K [1,5,7,8] [] [0,1,2,3] [(43, vb ((s3.2.2 == 1) || (decide (s3.2.1 < (len s3.1)))))] []) (qL<|zA 3 u<|yY (b := s3.2.2 == 1) 38 u (fun hb1=>zA 4 u<|zI (vb true)<|zU<|
  wW 43 (vb ((s3.2.2 == 1) || (decide (s3.2.1 < (len s3.1))))) u (by rw [hb1]; rfl)<|zL (gv (fun _ k=>k) [0,1] (gq [0,1,2,3])))<|fun hb1=>zA 4 u<|zI (vb (decide (s3.2.1 < (len s3.1))))<|zU<|
  wW 43 (vb ((s3.2.2 == 1) || (decide (s3.2.1 < (len s3.1))))) u (by rw [hb1]; rfl)<|zL (gv (fun _ k=>k) [0,1] (gq [0,1,2,3])))<|fun _ k=>k<|zK u (jC<|zG<|zT<|jA 3 u<|zG<|jA 1 u<|zT<|
  qW (fun s4 K=>∀ p9 c9 r_5,K [1,7,8,9] [(1, r_5)] [1,2,3] [(5, sv p9 s4.1 c9), (10, vi s4.2)] [Al wS 112 r_5 p9 c9 s4.1]) (gv (fun _ k=>k p8 c8 r_4) [0,1] (gq [0,1,2,3]))<|fun s4 _ k p9 c9 r_5=>k<|zG<|zB<|zA 1 u<|zN 1 u<|
  zS 0 u u u<|zA 2 u<|zC<|zK u (jC<|zG<|zT<|zB<|zA 2 u<|zN 1 u<|zS 0 u u u<|zA 1 u<|wC 2 u u u<|fun x3 b3 o2=>zN 3 u<|wA false oL (gf (gs (gs (gs (gk 0))))) u<|fun p10 c10=>
  zZ .s [1] [] zPx u u u ⟨ck 2,ck 0,cn,⟨⟩⟩<|fun r2 _ k p11 c11=>k<|zA 2 u<|zC<|zT<|
  qW (fun s5 K=>∀ p12 c12 r_6,K [1,7,8,9,10,63,64] [(1, r_6)] [0,4,5,6] [(5, sv p12 s5.1 c12), (65, vi s5.2)] [Al wS 112 r_6 p12 c12 s5.1]) (gv (fun _ k=>k p9 c9 r_5) [0,1] (gq [3,0,4,5,6]))<|fun s5 _ k p12 c12 r_6=>k<|jA 1 u<|
  zG<|zK u (jC<|zG<|zT<|zB<|wC 1 u u u<|fun x4 b4 o3=>wA false oL (gk 0) u<|fun p13 c13=>zA 1 u<|zC<|zG<|wK (fun s6 K=>K [1,5,7,8,9,10,12,63,64,65] [] [2,3,0,4,5,6] [(89, vb s6)] []) (qL<|zA 2 u<|
  qI zSG u (cq [0])<|fun r3 _ k=>k<|zA 2 u<|wM 73 u (zA 3 u<|wM 76 u (zA 3 u<|zI (vb true)<|zI (vb true)<|zA 7 u<|zI (vb true)<|zU<|zL (gv (fun _ k=>k) [0,1] (gq [2,3,0,4,5,6])))<|zA 3 u<|
  zI (vb (decide (0 < (len x4))))<|zI (vb (decide (0 < (len x4))))<|zA 1 u<|wM 82 u (zA 6 u<|zI (vb true)<|zU<|zL (gv (fun _ k=>k) [0,1] (gq [2,3,0,4,5,6])))<|qV 0 3 u u u<|zA 3 u<|
  zZ .s [] [1] zOQ u u u ⟨ck 4,ck 5,ck 6,cl 1 2,ck 0,⟨⟩⟩<|fun r4 _ k=>k<|zA 1 u<|zI (vb (!r4))<|zU<|zL (gv (fun _ k=>k) [0,1] (gq [2,3,0,4,5,6])))<|zA 7 u<|zI (vb false)<|zA 1 u<|qV 0 3 u u u<|zA 3 u<|
  zZ .s [] [1] zOQ u u u ⟨ck 4,ck 5,ck 6,cl 1 2,ck 0,⟨⟩⟩<|fun r5 _ k=>k<|zA 1 u<|zI (vb (!r5))<|zU<|zL (gv (fun _ k=>k) [0,1] (gq [2,3,0,4,5,6])))<|fun s6 _ k=>k<|zK u (qS<|qP<|qR<|zP<|jB 2 u<|
  qH (gv (fun _ k=>k p12 c12 r_6) [0,1] (gq [0,1,3,4,5])))<|jC<|zB<|zA 3 u<|zN 1 u<|zS 0 u u u<|zA 1 u<|wC 4 u u u<|fun x5 b5 o4=>zN 4 u<|wA true yI (gs (gs (gs (gs (gk 0))))) u<|
  zI (.agg #[vi (-1), vi s4.2, sv p13 x4 c13, vb x5.2.2.2.2.1, vs x5.2.2.2.2.2])<|
  vD .s (e := wS) 112 [vi (-1), vi s4.2, sv p13 x4 c13, vb x5.2.2.2.2.1, vs x5.2.2.2.2.2] ([((-1), s4.2, x4, x5.2.2.2.2)] : List zH) (rC (vP vI (vP vI (vP (vL (gk 3)) (vP vB vS)))) rN)<|fun p14 c14=>
  wL .s 1 2 u (gk 0) u u<|fun x6 r_7 p15 c15=>zA 1 u<|zC<|jA 3 u<|zK u (jA 2 u<|zJ<|qO<|qE<|wU<|qO<|qO<|qE<|wU<|qO<|qE<|qO<|qE<|wU<|qO<|qE<|wQ u (lT u (lT u lN)) (fun _ k=>k none 0) [] ⟨gn,⟨⟩⟩)<|wG<|
  qG<|zP<|jB 2 u<|qH (gv (fun _ k=>k p15 c15 r_7) [0,1] (gq [0,4,6,7,8])))<|qS<|qP<|qU<|qR<|qG<|zP<|jB 3 u<|qH (gv (fun _ k=>k p12 c12 r_6) [0,1] (gq [0,2,3,4])))<|qS<|qP<|qU<|qR<|zP<|jB 2 u<|qG<|zP<|jB 3 u<|
  qH (gv (fun _ k=>k p9 c9 r_5) [0,1] (gq [0,1,2,3])))<|qS<|qP<|qU<|qR<|zP<|jA 3 u<|zJ<|vF 1 0 u u<|wQ u (lT u (lT u lN)) (fun _ k=>k p8 c8) [] (gq [0])
theorem zTO {qd : Prop} {y0 : uQ} {y1 : Int} : qF qd prog 6 [pt b1 0, vi y1] [bx b1 65 [sv p1 y0.1 c1, vi y0.2]] [Rl (zO .i64) p1 c1 y0.1] (zJ0 y0 y1) fun r K=>∀ p2 c2 p3 c3 p4 c4,K (.tuple #[.agg #[sv p2 r.1.1 c2, sv p3 r.1.2.1 c3, sv p4 r.1.2.2 c4], vb r.2.1]) [bx b1 65 [sv p1 y0.1 c1, vi r.2.2]] [Rl wP p2 c2 r.1.1, Rl wF p3 c3 r.1.2.1, Rl wO p4 c4 r.1.2.2] :=
 qA call6 func6 u fun X=>zB<|wN .s (.agg #[.slice none 0 0, .slice none 0 0, .slice none 0 0])<|fun b2=>zA 1 u<|zC<|zB<|zA 2 u<|zZ .s [0] [] zRG u u u (cq [0])<|fun r1 _ k p2 c2 p3 c3 p4 c4=>k<|
  wN .s (.agg #[.slice none 0 0, .slice none 0 0, .slice none 0 0])<|fun b3=>qJ .s 2 u u u<|zC<|zT<|
  qW (fun s1 K=>∀ p5 c5 p6 c6,K [4,6] [(2, bx b3 29 [sv p2 r1.1.1 c2, sv p5 s1.1 c5, sv p6 s1.2 c6])] [3,0] [] [Rl wF p5 c5 s1.1, Rl wO p6 c6 s1.2]) (gv (fun _ k=>k p3 c3 p4 c4) [0,1,2] (gq [1,2,3,0]))<|fun s1 _ k p5 c5 p6 c6=>
  k<|zT<|zB<|qV 2 3 u u u<|qI zPl u (cq [3,0,1])<|fun r2 _ k p7 c7 p8 c8 p9 c9=>k<|zA 3 u<|wN .s (.agg #[.slice none 0 0, .slice none 0 0, .slice none 0 0])<|fun b4=>qJ .s 3 u u u<|zA 1 u<|zC<|zB<|
  qV 3 3 u u u<|qI zTU u (cq [0,1,2])<|fun r3 _ k p10 c10=>k<|zA 5 u<|zC<|zG<|wK (fun s2 K=>K [4,6,7] [] [6,7,4,5,1,2,3] [(38, vb s2)] []) (qL<|zA 3 u<|wM 26 u (zA 2 u<|zI (vb (r3.2 == 0))<|zA 1 u<|
  wM 30 u (qV 3 3 u u u<|qI zTQ u (cq [1,2,3])<|fun r4 _ k=>k<|zI (vb r4)<|zA 1 u<|wM 34 u (zA 3 u<|zI (vb (decide ((len r3.1) ≤ 16)))<|zU<|zL (gv (fun _ k=>k) [0,1,2,3] (gq [6,7,4,5,1,2,3])))<|zA 3 u<|
  zI (vb false)<|zU<|zL (gv (fun _ k=>k) [0,1,2,3] (gq [6,7,4,5,1,2,3])))<|zA 2 u<|zI (vb false)<|zA 4 u<|zI (vb false)<|zU<|zL (gv (fun _ k=>k) [0,1,2,3] (gq [6,7,4,5,1,2,3])))<|zA 2 u<|zI (vb false)<|zA 3 u<|
  zI (vb false)<|zA 4 u<|zI (vb false)<|zU<|zL (gv (fun _ k=>k) [0,1,2,3] (gq [6,7,4,5,1,2,3])))<|fun s2 _ k=>k<|zK u (zB<|qV 3 3 u u u<|qJ .s 1 u u u<|zA 1 u<|zC<|zJ<|qE<|qO<|wU<|qO<|
  wQ u (lC 1 (.agg #[sv p7 r2.1.1 c7, sv p8 r2.1.2.1 c8, sv p9 r2.1.2.2 c9]) u u (lT u lN)) (fun _ k=>k p7 c7 p8 c8 p9 c9) [0] (gq [4,5,6]))<|jC<|zB<|zN 2 u<|qJ .s 2 u u u<|zC<|zG<|zB<|zN 1 u<|zS 2 u u u<|
  zA 2 u<|zC<|zK u (zB<|qV 2 3 u u u<|qJ .s 1 u u u<|zA 1 u<|zC<|zJ<|qE<|qO<|wU<|qO<|
  wQ u (lC 1 (.agg #[sv p2 r1.1.1 c2, sv p5 s1.1 c5, .slice none 0 0]) u u (lT u lN)) (fun _ k=>k p2 c2 p5 c5 none 0) [0] ⟨gk 1,gk 2,gn,⟨⟩⟩)<|jC<|qL<|zN 1 u<|zS 2 u u u<|zN 1 u<|zS 2 u u u<|zA 2 u<|
  jsl (gk 2) u u u (.inl ⟨rfl, rfl⟩) (.inr ⟨_, rfl⟩)<|fun x1 p11 c11=>zN 1 u<|qJ .s 2 u u u<|zU<|qG<|qH (gv (fun _ k=>k p11 c11 none 0) [0,1,2] ⟨gk 0,gn,gk 1,gk 2,⟨⟩⟩)
theorem zNo {y0 : List Int} : qF False prog 3 [sv p1 y0 c1] [] [Rl (zO .i64) p1 c1 y0, Tb prog "strings.asciiSpace" .u8 Lib.asciiSpaceTab, Pt (uK 4 vM) 1 0 zAd, Wt 2, Pt (uK 64 (zO .u8)) 4 0 xL, Tb prog "internal/strconv.uint64pow10" .u64 Lib.pow10Tab] (zEX y0) fun r K=>K (vb r) [] [] :=
 qA call3 func3 u fun X=>jA 1 u<|zB<|zA 1 u<|qI zXZ u (cq [0])<|fun r1 _ k b1 p2 c2=>k<|zA 1 u<|zC<|zB<|zA 1 u<|zZ .s [0] [] zTO u u u (cq [0])<|fun r2 _ k p3 c3 p4 c4 p5 c5=>k<|zA 3 u<|
  wN .s (.agg #[.slice none 0 0, .slice none 0 0, .slice none 0 0])<|fun b2=>qJ .s 1 u u u<|zA 1 u<|zC<|zG<|jA 2 u<|zK u (zB<|qI zLs u (cq [5,6,7,8,9])<|fun r3 _ k=>k<|zA 1 u<|zC<|zJ<|qE<|
  zQ u u (fun _ k=>k) [] ⟨⟩)<|jC<|
  wK (fun s1 K=>∀ b3 p6 c6 p7 c7 p8 c8 p9 c9 p10 c10 p11 c11,K [4] [(0, []), (2, bx b3 39 [sv p6 s1.2.1.1 c6, sv p7 s1.2.1.2.1 c7, sv p8 s1.2.1.2.2 c8, sv p9 s1.2.2.1 c9, sv p10 s1.2.2.2.1 c10, vi s1.2.2.2.2.1, sv p11 s1.2.2.2.2.2 c11])] [0,1,2,5,6,7,8,9] [(6, pt b3 0), (7, vi s1.1)] [Rl wP p6 c6 s1.2.1.1, Rl wF p7 c7 s1.2.1.2.1, Rl wO p8 c8 s1.2.1.2.2, Rl wS p9 c9 s1.2.2.1, Rl tQ p10 c10 s1.2.2.2.1, Rl yJ p11 c11 s1.2.2.2.2.2]) (
  uT [] [1] 13<|vQ 0 1 3 u u u u<|zY 11 [2] u<|jd2 1 10 (zZ (.f u) [] [] zMN u u u ⟨⟩<|fun r4 _ k p12 c12=>k<|zX<|jd2 3 10 (zZ (.f u) [0] [] zAl u u u (cq [4])<|fun r5 _ k=>k<|zX<|
  yO 4 0 u u u u<|fun x1 b4 o1=>yK 5 true zPv u (gk 0) u<|jd2 6 10 (zZ (.f u) [] [] zFc u u u (cq [2,3,4,10])<|fun r6 _ k p13 c13 p14 c14 p15 c15 p16 c16 p17 c17 p18 c18=>k<|zX<|zY 3 [7,8,9] u<|
  qB 10<|wN (.f u) (.agg #[.slice none 0 0, .slice none 0 0, .slice none 0 0, .slice none 0 0, .slice none 0 0, vi 0, .slice none 0 0])<|fun b5=>zX<|qB 11<|qJ (o := 0) (.f u) 2 u u u<|zX<|zY 0 [12] u<|qQ<|
  zL (gv (fun _ k=>k b5 p13 c13 p14 c14 p15 c15 p16 c16 p17 c17 p18 c18) [900,1,2] (gq [0,1,2,3,4,5,8,9,10,13,14,15,16,17]))) <|
  wN (.f u) (.agg #[.slice none 0 0, .slice none 0 0, .slice none 0 0, .slice none 0 0, .slice none 0 0, vi 0, .slice none 0 0])<|fun b6=>zX<|qB 6<|zZ (.f u) [] [] zFc u u u (cq [2,3,4,10])<|
  fun r7 _ k p19 c19 p20 c20 p21 c21 p22 c22 p23 c23 p24 c24=>k<|zX<|zY 2 [7,8,9] u<|qB 11<|qJ (o := 0) (.f u) 2 u u u<|zX<|zY 0 [12] u<|qQ<|
  zL (gv (fun _ k=>k b6 p19 c19 p20 c20 p21 c21 p22 c22 p23 c23 p24 c24) [900,1,2] (gq [0,1,2,3,4,5,8,9,10,13,14,15,16,17]))) <|
  wN (.f u) (.agg #[.slice none 0 0, .slice none 0 0, .slice none 0 0, .slice none 0 0, .slice none 0 0, vi 0, .slice none 0 0])<|fun b7=>zX<|qB 3<|zZ (.f u) [0] [] zAl u u u (cq [4])<|fun r8 _ k=>k<|zX<|
  yO 4 0 u u u u<|fun x2 b8 o2=>yK 5 true zPv u (gk 0) u<|qB 6<|zZ (.f u) [] [] zFc u u u (cq [2,3,4,10])<|fun r9 _ k p25 c25 p26 c26 p27 c27 p28 c28 p29 c29 p30 c30=>k<|zX<|zY 2 [7,8,9] u<|
  qB 11<|qJ (o := 0) (.f u) 2 u u u<|zX<|zY 0 [12] u<|qQ<|zL (gv (fun _ k=>k b7 p25 c25 p26 c26 p27 c27 p28 c28 p29 c29 p30 c30) [900,1,2] (gq [0,1,2,3,4,5,8,9,10,13,14,15,16,17]))) <|
  wN (.f u) (.agg #[.slice none 0 0, .slice none 0 0, .slice none 0 0, .slice none 0 0, .slice none 0 0, vi 0, .slice none 0 0])<|fun b9=>zX<|qB 1<|zZ (.f u) [] [] zMN u u u ⟨⟩<|fun r10 _ k p31 c31=>k<|zX<|qB 3<|
  zZ (.f u) [0] [] zAl u u u (cq [4])<|fun r11 _ k=>k<|zX<|yO 4 0 u u u u<|fun x3 b10 o3=>yK 5 true zPv u (gk 0) u<|qB 6<|zZ (.f u) [] [] zFc u u u (cq [2,3,4,10])<|
  fun r12 _ k p32 c32 p33 c33 p34 c34 p35 c35 p36 c36 p37 c37=>k<|zX<|zY 2 [7,8,9] u<|qB 11<|qJ (o := 0) (.f u) 2 u u u<|zX<|zY 0 [12] u<|qQ<|
  zL (gv (fun _ k=>k b9 p32 c32 p33 c33 p34 c34 p35 c35 p36 c36 p37 c37) [900,1,2] (gq [0,1,2,3,4,5,8,9,10,13,14,15,16,17])))<|fun s1 _ k b3 p6 c6 p7 c7 p8 c8 p9 c9 p10 c10 p11 c11=>k<|zB<|qV 2 7 u u u<|
  qI zJY u (cq [0,1,2,3,4,5,12])<|fun r13 _ k p38 c38=>k<|zA 5 u<|zC<|zG<|tN (fun K=>K [4,8,9] [(2, [])] [0,7,8,9,10,11,12,13,14] [(46, vb ((s1.1 != 0) || ((r13.2 != 0) && (r13.2 != 2))))] []) (qL<|zA 3 u<|
  yY (b := s1.1 != 0) 39 u (fun hb1=>zA 6 u<|zI (vb true)<|zU<|wW 46 (vb ((s1.1 != 0) || ((r13.2 != 0) && (r13.2 != 2)))) u (by rw [hb1]; rfl)<|zL (gv (fun _ k=>k) [900,1,902] (gq [0,7,8,9,10,11,12,13,14])))<|fun hb1=>zA 3 u<|
  yY (b := r13.2 != 0) 42 u (fun hb2=>zA 2 u<|zI (vb (r13.2 != 2))<|zI (vb (r13.2 != 2))<|zU<|wW 46 (vb ((s1.1 != 0) || ((r13.2 != 0) && (r13.2 != 2)))) u (by rw [hb1,hb2]; rfl)<|
  zL (gv (fun _ k=>k) [900,1,902] (gq [0,7,8,9,10,11,12,13,14])))<|fun hb2=>zA 2 u<|zI (vb false)<|zI (vb false)<|zU<|wW 46 (vb ((s1.1 != 0) || ((r13.2 != 0) && (r13.2 != 2)))) u (by rw [hb1,hb2]; rfl)<|
  zL (gv (fun _ k=>k) [900,1,902] (gq [0,7,8,9,10,11,12,13,14])))<|fun _ k=>k<|zK u (jA 1 u<|zJ<|qE<|zQ u u (fun _ k=>k) [] ⟨⟩)<|jC<|zX2 (fun s2 K=>K [8,9] [(1, [])] [0,4,5,6,7,8] [] []) (jA 3 u<|zT<|
  qW (fun s3 K=>K [4,8,9,48] [] [0,1,2,3,4,5,6,7,8] [(49, vi s3)] []) (gv (fun _ k=>k) [900,1,902] (gq [0,1,2,3,4,5,6,7,8]))<|fun s3 _ k=>k<|jA 1 u<|zG<|zK u (jC<|zG<|zT<|jA 2 u<|yD [] [1] 10<|zY 8 [1,2] u<|
  yO 3 0 u u u u<|fun x4 b11 o4=>yK 4 false oL u (gk 0) u<|fun p39 c39=>vQ 6 1 3 u u u u<|qB 0<|xE (.f u) (e := wI) 62 [] ([] : List zF) rN<|fun r_1 p40 c40=>zX<|qB 5<|
  wL (.f u) 3 0 u (gk 1) u u<|fun x5 r_2 p41 c41=>zX<|qB 7<|zZ (.f u) [] [] zOE u u u (cq [5,6,7])<|fun r14 _ k p42 c42=>k<|zX<|qB 8<|wL (.f u) 3 1 u (gk 0) u u<|fun x6 r_3 p43 c43=>zX<|
  zY 0 [9] u<|qQ<|zP<|wK (fun s4 K=>K [4,8,9,48,49] [(3, [])] [6,7,8,9,10,11,12,13,14] [(91, vb s4)] []) (uT [] [1] 31<|vQ 0 1 3 u u u u<|zY 28 [1,2] u<|yO 3 6 u u u u<|fun x7 b12 o5=>
  yK 4 false oL u (gk 0) u<|fun p44 c44=>zY 24 [6,7] u<|yO 8 8 u u u u<|fun x8 b13 o6=>yK 9 false oL u (gk 0) u<|fun p45 c45=>qB 5<|zZ (.f u) [] [] zJp u u u (cq [11,12,13,2])<|fun r15 _ k p46 c46=>
  k<|zX<|qB 10<|zZ (.f u) [] [] zNU u u u (cq [0,1])<|fun r16 _ k=>k<|zX<|zY 18 [11,12] u<|wM 73 u (zY 9 [13,14,15,16,17,18,19,20,21] u<|wR 22 (vb true) u<|zY 1 [23,24,25,26,27,28,29] u<|
  wR 30 (vb true) u<|qQ<|zL (gv (fun _ k=>k) [900,1,902,903] (gq [11,12,13,14,15,16,17,18,19])))<|vQ 13 1 3 u u u u<|zY 14 [14,16,17] u<|yO 18 11 u u u u<|fun x9 b14 o7=>yK 19 false oL u (gk 0) u<|fun p47 c47=>
  vF 3 7 u u<|qB 15<|zZ (.f u) [] [] zJp u u u (cq [15,16,17,0])<|fun r17 _ k p48 c48=>k<|zX<|qB 20<|zZ (.f u) [] [] zNU u u u (cq [0,2])<|fun r18 _ k=>k<|zX<|zY 9 [21] u<|
  wR 22 (vb (!r18)) u<|zY 7 [23] u<|wM 84 u (zY 1 [24,25,26,27,28,29] u<|wR 30 (vb true) u<|qQ<|zL (gv (fun _ k=>k) [900,1,902,903] (gq [15,16,17,18,19,20,21,22,23])))<|zY 5 [24,25] u<|yO 26 15 u u u u<|
  fun x10 b15 o8=>yK 27 false oL u (gk 0) u<|fun p49 c49=>qB 28<|zZ (.f u) [] [] zK7 u u u (cq [0])<|fun r19 _ k=>k<|zX<|zY 1 [29] u<|wR 30 (vb (!r19)) u<|qQ<|
  zL (gv (fun _ k=>k) [900,1,902,903] (gq [17,18,19,20,21,22,23,24,25])))<|fun s4 _ k=>k<|zK u (jA 1 u<|zJ<|qO<|qE<|wU<|qO<|wU<|zQ u u (fun _ k=>k) [] ⟨⟩)<|wG<|qG<|zP<|jB 2 u<|
  qH (gv (fun _ k=>k) [900,1,902] (gq [0,1,2,3,4,5,6,7,8])))<|qS<|qP<|qU<|qR<|qH (gv (fun _ k=>k) [900,901,902] (gq [0,4,5,6,7,8])))<|fun s2 _ k=>k<|wK (fun s5 K=>K [] [] [1,2,3,4,5] [(2, vb s5)] []) (qL<|zA 3 u<|wM 95 u (
  zA 3 u<|zI (vb true)<|zA 1 u<|qI zLs u (cq [1,2,3,4,5])<|fun r20 _ k=>k<|zI (vb r20)<|zA 1 u<|zU<|zL (gv (fun _ k=>k) [900,901,902] (gq [1,2,3,4,5])))<|zA 3 u<|zI (vb (decide (0 < (len r13.1))))<|zA 1 u<|
  wM 100 u (qI zLs u (cq [1,2,3,4,5])<|fun r21 _ k=>k<|zI (vb r21)<|zA 1 u<|zU<|zL (gv (fun _ k=>k) [900,901,902] (gq [1,2,3,4,5])))<|zA 1 u<|zI (vb false)<|zA 1 u<|zU<|
  zL (gv (fun _ k=>k) [900,901,902] (gq [1,2,3,4,5])))<|fun s5 _ k=>k<|zJ<|zQ u u (fun _ k=>k) [] ⟨⟩
end Go.Proofs.YtjfjjkgaddknfaaGreatDoor
