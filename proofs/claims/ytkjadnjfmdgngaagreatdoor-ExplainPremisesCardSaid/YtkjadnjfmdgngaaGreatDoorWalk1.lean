/- Part of the proof. Conditions: none. -/
import Derived.Test.YtkjadnjfmdgngaaGreatDoorProg
import Derived.Test.YtkjadnjfmdgngaaGreatDoorOps5
import Derived.Test.YtkjadnjfmdgngaaGreatDoorModels
import Derived.Test.YtkjadnjfmdgngaaGreatDoorSort
import Derived.Test.YtkjadnjfmdgngaaGreatDoorSort2
import Derived.Test.YtkjadnjfmdgngaaGreatDoorSort3
import Derived.Test.YtkjadnjfmdgngaaGreatDoorShelfP
import Derived.Test.YtkjadnjfmdgngaaGreatDoorArrl
import Derived.Test.YtkjadnjfmdgngaaGreatDoorFsl
import Derived.Test.YtkjadnjfmdgngaaGreatDoorGro
namespace Go.Proofs.YtkjadnjfmdgngaaGreatDoor
open Go Go.GD Tryz
set_option autoImplicit false
set_option linter.unusedVariables false
set_option maxRecDepth 100000
variable {p1 p2 p3 p4 p5 p6 p7 p8 p9 : Option Addr} {c1 c2 c3 c4 c5 c6 c7 c8 c9 : Nat} {b1 b2 b3 b4 b5 b6 b7 b8 b9 b10 b11 : Nat} {r_1 r_2 r_3 : zZ}
abbrev zVR : E uO := vU (wO (zF .i64)) (zF .i64)
abbrev zZi : xW zVR := (oP oL oI)
abbrev vA : E zM := vU zRy zV4
abbrev yW : xW vA := (oP oB oS)
abbrev wN : E vM := vU vA (vU (zF .i64) (vU (zF .i64) zV4))
abbrev zIL : xW wN := (oP yW (oP oI (oP oI oS)))
abbrev wJ : E wK := vU zV4 (vU zRy (vU (zF .i64) (vU (wO vA) vA)))
abbrev zMU : xW wJ := (oP oS (oP oB (oP oI (oP oL yW))))
abbrev wQ : E yV := vU zV4 (vU (zF .i64) vA)
abbrev zKf : xW wQ := (oP oS (oP oI yW))
abbrev zXP : E zR := vU (wO wN) (vU (wO wJ) (wO wQ))
abbrev zY9 : xW zXP := (oP oL (oP oL oL))
abbrev zUm : E vF := vU (zF .i64) (zF .i64)
abbrev zZm : xW zUm := (oP oI oI)
abbrev wR : E zL := vU (zF .i64) (vU (zF .i64) (vU (wO (zF .i64)) vA))
abbrev zQ7 : xW wR := (oP oI (oP oI (oP oL yW)))
abbrev uN : E qZ := vU (zF .i64) (vU (zF .i64) (vU (zF .i64) (zF .i64)))
abbrev zOf : xW uN := (oP oI (oP oI (oP oI oI)))
abbrev vZ : E wH := vU (zF .i64) (zF .i64)
abbrev zLp : xW vZ := (oP oI oI)
abbrev zX1 : E wT := vU (zF .i64) (wO vZ)
abbrev zZg : xW zX1 := (oP oI oL)
abbrev zVB : E zBP := vU zXP (vU (wO wR) (vU (wO uN) zX1))
abbrev zZp : xW zVB := (oP zY9 (oP oL (oP oL zZg)))
abbrev zRE : E yK := vU (zF .u64) (vU (wO (zF .u64)) (wO (zF .u64)))
abbrev zYU : xW zRE := (oP oI (oP oL oL))
abbrev zNV : E zAA := vU zXP (vU (wO wR) (vU (wO wR) (zF .i64)))
abbrev zU9 : xW zNV := (oP zY9 (oP oL (oP oL oI)))
theorem zE3 {qd : Prop} {y0 : zAA} : yR qd prog 104 [pt b1 0] [bx b1 143 [sv p1 y0.1.1 c1, sv p2 y0.1.2.1 c2, sv p3 y0.1.2.2 c3, sv p4 y0.2.1 c4, sv p5 y0.2.2.1 c5, vi y0.2.2.2]] [Rl wN p1 c1 y0.1.1, Rl wJ p2 c2 y0.1.2.1, Rl wQ p3 c3 y0.1.2.2, Rl wR p4 c4 y0.2.1, Rl wR p5 c5 y0.2.2.1] (zAq y0) fun L r K=>K (vb r) L [] :=
 qB call104 func104 u fun X=>jA 1 u<|yM [] [0] 13<|zV 11 [0,1] u<|qN 2 3 u u<|qY 3 0 u u u u<|zV 6 [4,5,6] u<|qN 7 4 u u<|qY 8 0 u u u u<|zV 0 [9,10,11,12] u<|qQ<|zN<|zJ<|zP u u (fun _ k=>k) [0] ⟨⟩
theorem zHs {qd : Prop} {y0 : List zL} {y1 : Int} : qG qd prog 113 [sv p1 y0 c1, vi y1] [] [Rl wR p1 c1 y0] (zAb y0 y1) fun r K=>K (vb r) [] [] :=
 qB call113 func113 u fun X=>jA 1 u<|jjp (fun K=>K [(4, vb ((decide (0 ≤ y1)) && (decide (y1 < (len y0)))))] [] []) (qJ<|zA 3 u<|yC (b := decide (0 ≤ y1)) 7 u (fun hb1=>zA 4 u<|zI (vb (decide (y1 < (len y0))))<|zA 1 u<|zU<|
  wS 4 (vb ((decide (0 ≤ y1)) && (decide (y1 < (len y0))))) u (by rw [hb1]; rfl)<|zK (gv (fun _ k=>k) [] ⟨⟩))<|fun hb1=>zA 4 u<|zI (vb false)<|zA 1 u<|zU<|
  wS 4 (vb ((decide (0 ≤ y1)) && (decide (y1 < (len y0))))) u (by rw [hb1]; rfl)<|zK (gv (fun _ k=>k) [] ⟨⟩))<|fun _ k=>k<|zJ<|zP u u (fun _ k=>k) [] ⟨⟩
theorem zGP {qd : Prop} {y0 : List Int} : qG qd prog 221 [sv p1 y0 c1] [r_1] [Al (zF .i64) 3 r_1 p1 c1 y0] (zBR y0) fun r K=>∀ p2 c2,K (sv p2 r c2) [[]] [Rl (zF .i64) p2 c2 r] :=
 qB call221 func221 u fun X=>jA 1 u<|zD<|jA 3 u<|zH u (jA 2 u<|zJ<|qA<|wX 0 0 u u<|zP u u (fun _ k=>k p1 c1) [900] (gq [0]))<|jC<|zD<|jA 1 u<|zO<|qO (fun s1 K=>K [0] [] [0] [(3, vi s1)] []) (gv (fun _ k=>k) [0] (gq [0]))<|fun s1 _ k=>k<|
  zD<|jA 4 u<|zH u (jC<|zD<|zO<|yM [] [0] 10<|zV 8 [0,1] u<|tC 2 0 u u u u<|fun x1 h1 b1 hp1=>tD 3 0 0 sI false oI u u hp1 h1 u<|zV 3 [4,5,6] u<|tC 7 0 u u u u<|fun x2 h2 b2 hp2=>
  tD 8 0 0 sI false oI u u hp2 h2 u<|zV 0 [9] u<|qQ<|zN<|zH u (zB<|zA 2 u<|jsV 0 u u u<|fun u1 p2 c2 f1=>zA 1 u<|zC<|
  jjn (fun s2 K=>∀ r_2,K [(0, .slice p1 (List.length y0) c1), (3, vi s2.2)] [r_2] [Ar (zF .i64) 3 r_2 p1 c1 (List.length y0) s2.1]) (jA 1 u<|zO<|
  qO (fun s3 K=>∀ r_3,K [4] [(0, r_3)] [] [(0, .slice p1 (List.length y0) c1), (3, vi s3.2.1), (5, vi s3.2.2)] [Ar (zF .i64) 3 r_3 p1 c1 (List.length y0) s3.1]) (gv (fun _ k=>k r_1) [0] (gq [0]))<|fun s3 _ k r_3=>k<|zD<|jA 4 u<|
  zH u (jC<|zD<|zO<|yM [] [0] 10<|zV 8 [0,1] u<|jdX 2 0 u u f1 u u<|fun x3 b3 hp3 h3=>tD 3 0 0 sI false oI u u hp3 h3 u<|zV 3 [4,5,6] u<|jdX 7 0 u u f1 u u<|fun x4 b4 hp4 h4=>
  tD 8 0 0 sI false oI u u hp4 h4 u<|zV 0 [9] u<|qQ<|zN<|zH u (zB<|zA 4 u<|jiV 0 u f1 u u<|fun x5 b5 hp5 h5=>xD 0 0 sI false oI u hp5 h5 u<|yL 0 u u u<|fun x6 h6 b6 hp6=>
  xJ .s 0 0 sI x5 false u hp6 h6 u u vI<|fun r_4=>zC<|jB 3 u<|qC<|zN<|jB 3 u<|qD (gv (fun _ k=>k r_4) [0] (gq [0])))<|wC<|qC<|zN<|jB 3 u<|qD (gv (fun _ k=>k r_3) [0] (gq [0])))<|qM<|qK<|qP<|qL<|
  zK (gv (fun _ k=>k r_3) [0] (gq [0])))<|fun s2 _ k r_2=>k<|zB<|zA 2 u<|jsV 0 u u u<|fun u2 p3 c3 f2=>jcv .s 0 0 0 (vi 0) u f2 u vI<|fun r_5=>zC<|zB<|zA 2 u<|jsP 0 u u u<|fun x7=>zA 1 u<|zC<|zJ<|qT<|qA<|wY<|
  qT<|qA<|wX 0 0 u u<|zP u u (fun _ k=>k p1 c1) [900] (gq [0]))<|wC<|qC<|zN<|jB 3 u<|qD (gv (fun _ k=>k) [0] (gq [0])))<|qM<|qK<|qP<|qL<|zN<|jA 2 u<|zJ<|wX 0 0 u u<|zP u u (fun _ k=>k p1 c1) [900] (gq [0])
theorem zFu {qd : Prop} {y0 : List Int} : qG qd prog 220 [sv p1 y0 c1] [r_1] [Al (zF .i64) 3 r_1 p1 c1 y0] (zBK y0) fun r K=>∀ r_2,K (.tuple #[]) [r_2] [Ar (zF .i64) 3 r_2 p1 c1 (List.length y0) r] := ⟨call220, fun A w0 r hm hO hF => by
 have h := zYD (qd := qd) Tryz.sorts220 (te := 3) hO hF.1.1 hm
 change Calls prog 220 _ _ _ at h
 refine h.mono fun e w' h => ?_
 cases e with
 | returned v => obtain ⟨r', rfl, h1, h2, h3, h4⟩ := h; exact fun G k => k r' ⟨rfl, h1, h2, ⟨h3, h4.symm⟩, trivial⟩
 | panicked ch => exact h
 | outgrown => exact h⟩
theorem zMd {qd : Prop} (k : Nat) :
    (∀ {y0 : List zL} {p1 : Option Addr} {c1 : Nat} {y1 : Int}, qG qd prog 169 [sv p1 y0 c1, vi y1] [] [Rl wR p1 c1 y0] (zCV k y0 y1) fun r K=>∀ p2 c2,K (sv p2 r c2) [] [Rl (zF .i64) p2 c2 r]) := by
  induction k with
  | zero => exact zYc call169
  | succ k ih =>
    have ih_argument_Subs := @ih
    exact @fun y0 p1 c1 y1=>qB (m1 := zHQ (zCV k) y0 y1) call169 func169 u fun X=>jA 1 u<|zD<|zB<|zA 2 u<|qH zHs u (cq [0])<|fun r1 _ k=>k<|zA 1 u<|zC<|zH u (jA 1 u<|zJ<|qA<|zP u u (fun _ k=>k none 0) [] ⟨gn,⟨⟩⟩)<|jC<|zB<|zA 1 u<|
  xN .s (e := zF .i64) 3 [vi y1] ([y1] : List Int) (rC vI rN)<|fun r_1 p2 c2=>zA 1 u<|zC<|jjn (fun s1 K=>∀ p3 c3 r_2,K [(5, sv p3 s1 c3)] [r_2] [Al (zF .i64) 3 r_2 p3 c3 s1]) (zB<|zA 2 u<|qW 1 u u u<|fun x1 b1 o1=>
  zS 2 u<|qV false oL (gf (gs (gs (gk 0)))) u<|fun p4 c4=>zA 2 u<|zC<|zO<|
  qO (fun s2 K=>∀ p5 c5 r_3,K [0,18,19] [(0, r_3)] [3,0] [(5, sv p5 s2.1 c5), (20, vi s2.2)] [Al (zF .i64) 3 r_3 p5 c5 s2.1]) (gv (fun _ k=>k p2 c2 r_1) [0] (gq [2,3,0]))<|fun s2 _ k p5 c5 r_3=>k<|jA 1 u<|zD<|zH u (jC<|zD<|zO<|
  zB<|qW 2 u u u<|fun x2 b2 o2=>qV false oI (gk 0) u<|zA 1 u<|zC<|qJ<|zA 3 u<|qH ih_argument_Subs u (cq [2])<|fun r2 _ k p6 c6=>k<|wP .s 0 2 u (gk 0) u u<|fun x3 r_4 p7 c7=>zA 1 u<|zU<|qC<|zN<|jB 2 u<|
  qD (gv (fun _ k=>k p7 c7 r_4) [0] (gq [0,4,5])))<|qM<|qK<|qP<|qL<|zK (gv (fun _ k=>k p5 c5 r_3) [0] (gq [0])))<|fun s1 _ k p3 c3 r_2=>k<|zB<|zA 1 u<|qF .s [0] [] zFu u u u (cq [0])<|fun r3 _ k r_5=>k<|zC<|
  zB<|zA 1 u<|jrE 0 32 u u<|qF .s [0] [] zGP u u u (cq [0])<|fun r4 _ k p8 c8=>k<|zA 1 u<|zC<|zJ<|zP u u (fun _ k=>k p8 c8) [] (gq [0])
theorem zIy {qd : Prop} {y0 : List zL} {y1 : Int} : qG qd prog 169 [sv p1 y0 c1, vi y1] [] [Rl wR p1 c1 y0] (zFn y0 y1) fun r K=>∀ p2 c2,K (sv p2 r c2) [] [Rl (zF .i64) p2 c2 r] := zOJ fun k => (zMd k)
theorem zIM {qd : Prop} {y0 : zR} {y1 : List zL} {y2 : Int} : qG qd prog 210 [.agg #[sv p1 y0.1 c1, sv p2 y0.2.1 c2, sv p3 y0.2.2 c3], sv p4 y1 c4, vi y2] [] [Rl wN p1 c1 y0.1, Rl wJ p2 c2 y0.2.1, Rl wQ p3 c3 y0.2.2, Rl wR p4 c4 y1] (zBd y0 y1 y2) fun r K=>∀ p5 c5,K (sv p5 r c5) [] [Rl (zF .i64) p5 c5 r] :=
 qB call210 func210 u fun X=>zB<|qU .s u<|fun b1=>zA 1 u<|zC<|zB<|zA 1 u<|vK (zF .i64) 3<|zC<|jjn (fun s1 K=>∀ p5 c5 r_1,K [(7, sv p5 s1 c5)] [[], r_1] [Al (zF .i64) 3 r_1 p5 c5 s1]) (zB<|zA 2 u<|qH zIy rfl (cq [4])<|
  fun r1 _ k p6 c6=>k<|zA 2 u<|zC<|zO<|qO (fun s2 K=>∀ p7 c7 r_2,K [1,3,13,14] [(1, r_2)] [5,0,2,3,4] [(7, sv p7 s2.1 c7), (15, vi s2.2)] [Al (zF .i64) 3 r_2 p7 c7 s2.1]) (gv (fun _ k=>k none 0 []) [0,1] (gq [1,5,0,2,3,4]))<|
  fun s2 _ k p7 c7 r_2=>k<|jA 1 u<|zD<|zH u (jC<|zD<|zO<|zB<|qW 2 u u u<|fun x1 b2 o1=>qV false oI (gk 0) u<|zA 1 u<|zC<|zB<|zA 2 u<|qW 2 u u u<|fun x2 b3 o2=>zS 1 u<|qV false oI (gf (gs (gk 0))) u<|
  zA 1 u<|zC<|wF (fun s3 K=>K [1,3,7,10,13,14,15] [] [3,2,4,5,6,7] [(34, vb s3)] []) (qJ<|zA 3 u<|wG 26 u (zS 1 u<|zT 0 u u u<|zA 1 u<|qW 6 u u u<|fun x3 b4 o3=>zS 1 u<|qV false oB (gf (gs (gk 0))) u<|
  zA 1 u<|zI (vb (!x3.2.1))<|zU<|zK (gv (fun _ k=>k) [0,1] (gq [4,3,5,6,7,8])))<|zA 7 u<|zI (vb false)<|zU<|zK (gv (fun _ k=>k) [0,1] (gq [3,2,4,5,6,7])))<|fun s3 _ k=>k<|zH u (qJ<|zA 2 u<|
  vC .s (e := zF .i64) 3 [vi x2.2.1] ([x2.2.1] : List Int) (rC vI rN)<|fun p8 c8=>wP .s 1 2 u (gk 0) u u<|fun x4 r_3 p9 c9=>zA 1 u<|zU<|qC<|zN<|jB 2 u<|qD (gv (fun _ k=>k p9 c9 r_3) [0,1] (gq [0,2,4,5,6,7])))<|wC<|qC<|
  zN<|jB 2 u<|qD (gv (fun _ k=>k p7 c7 r_2) [0,1] (gq [1,0,2,3,4,5])))<|qM<|qK<|qP<|qL<|zK (gv (fun _ k=>k p7 c7 r_2) [900,1] (gq [0])))<|fun s1 _ k p5 c5 r_1=>k<|zB<|zA 1 u<|qF .s [1] [] zFu u u u (cq [0])<|
  fun r2 _ k r_4=>k<|zC<|zB<|zA 1 u<|jrE 0 42 u u<|qF .s [1] [] zGP u u u (cq [0])<|fun r3 _ k p10 c10=>k<|zA 1 u<|zC<|zJ<|zP u u (fun _ k=>k p10 c10) [] (gq [0])
theorem zNE {qd : Prop} (k : Nat) :
    (∀ {y0 : zR} {p1 : Option Addr} {c1 : Nat} {p2 : Option Addr} {c2 : Nat} {p3 : Option Addr} {c3 : Nat} {y1 : List zL} {p4 : Option Addr} {c4 : Nat} {y2 : Int}, qG qd prog 209 [.agg #[sv p1 y0.1 c1, sv p2 y0.2.1 c2, sv p3 y0.2.2 c3], sv p4 y1 c4, vi y2] [] [Rl wN p1 c1 y0.1, Rl wJ p2 c2 y0.2.1, Rl wQ p3 c3 y0.2.2, Rl wR p4 c4 y1] (zCK k y0 y1 y2) fun r K=>∀ p5 c5,K (sv p5 r c5) [] [Rl vA p5 c5 r]) := by
  induction k with
  | zero => exact zYc call209
  | succ k ih =>
    have ih_argument_run := @ih
    exact @fun y0 p1 c1 p2 c2 p3 c3 y1 p4 c4 y2=>qB (m1 := zIB (zCK k) y0 y1 y2) call209 func209 u fun X=>zB<|qU .s u<|fun b1=>zA 1 u<|zC<|zB<|zA 2 u<|qW 3 u u u<|fun x1 b2 o1=>zS 3 u<|qV true yW (gs (gs (gs (gk 0)))) u<|
  xN .s (e := vA) 30 [vb x1.2.2.2.1, vs x1.2.2.2.2] ([x1.2.2.2] : List zM) (rC (vP vB vS) rN)<|fun r_1 p5 c5=>zA 1 u<|zC<|zD<|zB<|zA 2 u<|qW 5 u u u<|fun x2 b3 o2=>zS 1 u<|qV false oI (gf (gs (gk 0))) u<|
  zA 1 u<|zC<|wF (fun s1 K=>K [1,2,3,7] [] [6,1,3,4,5] [(31, vb s1)] []) (qJ<|zA 3 u<|wG 24 u (zS 1 u<|zT 0 u u u<|zA 1 u<|qW 4 u u u<|fun x3 b4 o3=>zS 1 u<|qV false oB (gf (gs (gk 0))) u<|
  zI (vb x3.2.1)<|zU<|zK (gv (fun _ k=>k) [0,1] (gq [7,2,4,5,6])))<|zA 6 u<|zI (vb false)<|zU<|zK (gv (fun _ k=>k) [0,1] (gq [6,1,3,4,5])))<|fun s1 _ k=>k<|zH u (zB<|zA 2 u<|qW 0 u u u<|fun x4 b5 o4=>zS 2 u<|
  qV false oL (gf (gs (gs (gk 0)))) u<|fun p6 c6=>zA 2 u<|zC<|zO<|
  qO (fun s2 K=>∀ p7 c7 r_2,K [1,3,36,37] [(1, r_2)] [2,0,4,5,6] [(7, sv p7 s2.1 c7), (38, vi s2.2)] [Al vA 30 r_2 p7 c7 s2.1]) (gv (fun _ k=>k p5 c5 r_1) [0,1] (gq [3,2,0,4,5,6]))<|fun s2 _ k p7 c7 r_2=>k<|jA 1 u<|zD<|zH u (
  jC<|zD<|zO<|zB<|qW 2 u u u<|fun x5 b6 o5=>qV false oI (gk 0) u<|zA 1 u<|zC<|qJ<|zA 1 u<|qR 0 3 u u u<|zA 2 u<|qH ih_argument_run u (cq [4,5,6,2])<|fun r1 _ k p8 c8=>k<|wP .s 1 2 u (gk 0) u u<|
  fun x6 r_3 p9 c9=>zA 1 u<|zU<|qC<|zN<|jB 2 u<|qD (gv (fun _ k=>k p9 c9 r_3) [0,1] (gq [0,4,5,6,7,8])))<|qM<|qK<|qP<|qL<|zN<|jA 2 u<|zJ<|wX 1 0 u u<|zP u u (fun _ k=>k p7 c7) [] (gq [0]))<|jC<|jA 2 u<|zJ<|
  wX 1 1 u u<|zP u u (fun _ k=>k p5 c5) [] (gq [0])
theorem zPx {qd : Prop} {y0 : zR} {y1 : List zL} {y2 : Int} : qG qd prog 209 [.agg #[sv p1 y0.1 c1, sv p2 y0.2.1 c2, sv p3 y0.2.2 c3], sv p4 y1 c4, vi y2] [] [Rl wN p1 c1 y0.1, Rl wJ p2 c2 y0.2.1, Rl wQ p3 c3 y0.2.2, Rl wR p4 c4 y1] (zGZ y0 y1 y2) fun r K=>∀ p5 c5,K (sv p5 r c5) [] [Rl vA p5 c5 r] := zOJ fun k => (zNE k)
theorem zLM {qd : Prop} {y0 : List zM} {y1 : zM} : qG qd prog 190 [sv p1 y0 c1, .agg #[vb y1.1, vs y1.2]] [] [Rl vA p1 c1 y0] (zCa y0 y1) fun r K=>K (vi r) [] [] :=
 qB call190 func190 u fun X=>zB<|qU .s u<|fun b1=>zA 1 u<|zC<|zD<|jA 3 u<|zO<|qO (fun s1 K=>K [0,3,7] [] [0] [(8, vi s1)] []) (gv (fun _ k=>k) [0] (gq [0]))<|fun s1 _ k=>k<|jA 1 u<|zD<|zH u (jC<|zD<|zO<|jA 2 u<|yM [] [0] 6<|
  vQ 0 0 2 u u u u<|zV 3 [1,2] u<|vO 3 0 u u u u<|fun x1 b2 o1=>vN 4 true yW u (gk 0) u<|wB 5 (vb (y1 == x1)) u<|qQ<|zN<|zH u (jA 2 u<|zJ<|qT<|qA<|wY<|qT<|qA<|zP u u (fun _ k=>k) [] ⟨⟩)<|
  wC<|qC<|zN<|jB 2 u<|qD (gv (fun _ k=>k) [0] (gq [1])))<|qM<|qK<|qP<|qL<|zN<|jA 1 u<|zJ<|zP u u (fun _ k=>k) [] ⟨⟩
theorem zJn {qd : Prop} {y0 : List zM} {y1 : zM} : qG qd prog 127 [sv p1 y0 c1, .agg #[vb y1.1, vs y1.2]] [] [Rl vA p1 c1 y0] (zDT y0 y1) fun r K=>K (vb r) [] [] :=
 qB call127 func127 u fun X=>zB<|qU .s u<|fun b1=>zA 1 u<|zC<|zB<|zA 1 u<|qR 0 2 u u u<|qH zLM u (cq [0])<|fun r1 _ k=>k<|zA 2 u<|zC<|zJ<|zP u u (fun _ k=>k) [] ⟨⟩
theorem zIo {qd : Prop} {y0 : List zM} {y1 : zM} : qG qd prog 71 [sv p1 y0 c1, .agg #[vb y1.1, vs y1.2]] [] [Rl vA p1 c1 y0] (zEO y0 y1) fun r K=>K (vb r) [] [] :=
 qB call71 func71 u fun X=>zB<|qU .s u<|fun b1=>zA 1 u<|zC<|zB<|zA 1 u<|qR 0 2 u u u<|qH zJn u (cq [0])<|fun r1 _ k=>k<|zA 1 u<|zC<|zJ<|zP u u (fun _ k=>k) [] ⟨⟩
theorem zNd {qd : Prop} {y0 : List Int} {y1 : Int} : qG qd prog 120 [sv p1 y0 c1, vi y1] [] [Rl (zF .i64) p1 c1 y0] (zGy y0 y1) fun r K=>K (vi r) [] [] :=
 qB call120 func120 u fun X=>jA 1 u<|zD<|jA 3 u<|zO<|qO (fun s1 K=>K [0,1,7] [] [0] [(8, vi s1)] []) (gv (fun _ k=>k) [] (gq [0]))<|fun s1 _ k=>k<|jA 1 u<|zD<|zH u (jC<|zD<|zO<|jA 2 u<|zB<|zA 3 u<|qW 0 u u u<|fun x1 b1 o1=>
  qV false oI (gk 0) u<|zA 1 u<|zC<|zH u (jA 2 u<|zJ<|qT<|qA<|wY<|qT<|qA<|zP u u (fun _ k=>k) [] ⟨⟩)<|wC<|qC<|zN<|jB 2 u<|qD (gv (fun _ k=>k) [] (gq [1])))<|qM<|qK<|qP<|qL<|zN<|jA 1 u<|zJ<|
  zP u u (fun _ k=>k) [] ⟨⟩
theorem zF6 {qd : Prop} {y0 : List Int} {y1 : Int} : qG qd prog 69 [sv p1 y0 c1, vi y1] [] [Rl (zF .i64) p1 c1 y0] (zBG y0 y1) fun r K=>K (vb r) [] [] :=
 qB call69 func69 u fun X=>jA 1 u<|zB<|zA 2 u<|qH zNd u (cq [0])<|fun r1 _ k=>k<|zA 2 u<|zC<|zJ<|zP u u (fun _ k=>k) [] ⟨⟩
theorem zNw {qd : Prop} {y0 : zR} {y1 : List zL} {y2 : Int} {y3 : List Int} : qG qd prog 165 [.agg #[sv p1 y0.1 c1, sv p2 y0.2.1 c2, sv p3 y0.2.2 c3], sv p4 y1 c4, vi y2, sv p5 y3 c5] [] [Rl wN p1 c1 y0.1, Rl wJ p2 c2 y0.2.1, Rl wQ p3 c3 y0.2.2, Rl wR p4 c4 y1, Rl (zF .i64) p5 c5 y3] (zFv y0 y1 y2 y3) fun r K=>K (vb r) [] [] :=
 qB call165 func165 u fun X=>zB<|qU .s u<|fun b1=>zA 1 u<|zC<|zD<|jA 3 u<|zO<|qO (fun s1 K=>K [1,2,4,11,12] [] [3,4,0,1,2] [(13, vi s1)] []) (gv (fun _ k=>k) [0] (gq [3,4,0,1,2]))<|fun s1 _ k=>k<|jA 1 u<|zD<|zH u (jC<|zD<|zO<|zB<|
  qW 1 u u u<|fun x1 b2 o1=>qV false oI (gk 0) u<|zA 1 u<|zC<|zB<|zS 1 u<|zT 0 u u u<|zA 1 u<|qW 4 u u u<|fun x2 b3 o2=>zS 1 u<|qV false oB (gf (gs (gk 0))) u<|zC<|zH u (yM [] [0] 11<|
  vQ 0 0 3 u u u u<|zV 8 [1,2] u<|qN 4 1 u u<|qY 5 0 u u u u<|zV 5 [6] u<|vO 7 5 u u u u<|fun x3 b4 o3=>qN 8 4 u u<|vN 9 true yW u (gs (gs (gs (gs (gk 0))))) u<|qE 3<|
  qF (.f u) [] [] zPx u u u (cq [5,6,7,3])<|fun r1 _ k p6 c6=>k<|zY<|qE 10<|qF (.f u) [] [] zIo u u u (cq [0])<|fun r2 _ k=>k<|zY<|qQ<|zN<|zH u (jA 1 u<|zJ<|qT<|qA<|wY<|qT<|qA<|
  zP u u (fun _ k=>k) [] ⟨⟩)<|wC<|qC<|zN<|jB 2 u<|qD (gv (fun _ k=>k) [0] (gq [4,5,6,7,8])))<|zB<|qR 0 3 u u u<|zA 2 u<|qH zIM u (cq [4,5,6,2])<|fun r3 _ k p7 c7=>k<|zA 1 u<|
  qH zF6 u (cq [0])<|fun r4 _ k=>k<|zC<|zH u (jA 1 u<|zJ<|qT<|qA<|wY<|qT<|qA<|zP u u (fun _ k=>k) [] ⟨⟩)<|wC<|qC<|zN<|jB 2 u<|qD (gv (fun _ k=>k) [0] (gq [3,4,5,6,7])))<|qM<|qK<|qP<|qL<|zN<|
  jA 1 u<|zJ<|zP u u (fun _ k=>k) [] ⟨⟩
theorem zJj {qd : Prop} {y0 : List Int} : qG qd prog 162 [sv p1 y0 c1] [] [Rl (zF .i64) p1 c1 y0] (zF3 y0) fun r K=>∀ p2 c2 r_1,K (sv p2 r c2) [r_1] [Al (zF .i64) 3 r_1 p2 c2 r] :=
 qB call162 func162 u fun X=>jA 1 u<|zD<|zB<|zA 1 u<|jv (fun h=>zWj h u underlying31)<|zC<|jnl (m1 := some ([] : List Int)) u (gk 0) (fun h=>by first|(rw [h];done)|(rw [h];rfl)|(simp [h,wI];done)) (jA 1 u<|zJ<|qA<|vK (zF .i64) 3<|
  jrE 0 2 u u<|zP u u (fun _ k=>k none 0 []) [0] (gq [0]))<|jC<|zB<|xN .s (e := zF .i64) 3 [] ([] : List Int) rN<|fun r_1 p2 c2=>zA 1 u<|wP .s 0 0 u (gk 1) u u<|fun x1 r_2 p3 c3=>zA 1 u<|zC<|zJ<|
  zP u u (fun _ k=>k p3 c3 r_2) [0] (gq [0])
theorem zJW {qd : Prop} {y0 : Int} {y2 : zAA} : yR qd prog 164 [vi y0, pt b1 0] [bx b1 141 [pt b2 0], bx b2 143 [sv p1 y2.1.1 c1, sv p2 y2.1.2.1 c2, sv p3 y2.1.2.2 c3, sv p4 y2.2.1 c4, sv p5 y2.2.2.1 c5, vi y2.2.2.2]] [Rl wN p1 c1 y2.1.1, Rl wJ p2 c2 y2.1.2.1, Rl wQ p3 c3 y2.1.2.2, Rl wR p4 c4 y2.2.1, Rl wR p5 c5 y2.2.2.1] (zCq y0 y2) fun L r K=>K (vb r) L [] :=
 qB call164 func164 u fun X=>jA 1 u<|zB<|zA 1 u<|zT 0 u u u<|zA 1 u<|zS 5 u<|zT 1 u u u<|zA 2 u<|zC<|zJ<|zP u u (fun _ k=>k) [0,1] ⟨⟩
theorem zDF {qd : Prop} {y0 : List Int} {y2 : zAA} : yR qd prog 93 [sv p1 y0 c1, .func (.func 164) #[] #[pt b1 0]] [bx b1 141 [pt b2 0], bx b2 143 [sv p2 y2.1.1 c2, sv p3 y2.1.2.1 c3, sv p4 y2.1.2.2 c4, sv p5 y2.2.1 c5, sv p6 y2.2.2.1 c6, vi y2.2.2.2]] [Rl (zF .i64) p1 c1 y0, Rl wN p2 c2 y2.1.1, Rl wJ p3 c3 y2.1.2.1, Rl wQ p4 c4 y2.1.2.2, Rl wR p5 c5 y2.2.1, Rl wR p6 c6 y2.2.2.1] (zAU y0 y2) fun L r K=>K (vi r) L [] :=
 qB call93 func93 u fun X=>jA 1 u<|zD<|jA 3 u<|zO<|qO (fun s1 K=>K [0,1,7] [] [0,1,2,3,4,5] [(8, vi s1)] []) (gv (fun _ k=>k) [0,1] (gq [0,1,2,3,4,5]))<|fun s1 _ k=>k<|jA 1 u<|zD<|zH u (jC<|zD<|zO<|jA 2 u<|zB<|zA 3 u<|qW 0 u u u<|
  fun x1 b3 o1=>qV false oI (gk 0) u<|qF .s [0, 1] [] zJW u u u (cq [2,3,4,5,6])<|fun r1 _ k=>k<|zC<|zH u (jA 2 u<|zJ<|qT<|qA<|wY<|qT<|qA<|zP u u (fun _ k=>k) [0,1] ⟨⟩)<|wC<|qC<|zN<|
  jB 2 u<|qD (gv (fun _ k=>k) [0,1] (gq [1,2,3,4,5,6])))<|qM<|qK<|qP<|qL<|zN<|jA 1 u<|zJ<|zP u u (fun _ k=>k) [0,1] ⟨⟩
theorem zC4 {qd : Prop} {y0 : List Int} {y2 : zAA} : yR qd prog 163 [sv p1 y0 c1, .func (.func 164) #[] #[pt b1 0]] [bx b1 141 [pt b2 0], bx b2 143 [sv p2 y2.1.1 c2, sv p3 y2.1.2.1 c3, sv p4 y2.1.2.2 c4, sv p5 y2.2.1 c5, sv p6 y2.2.2.1 c6, vi y2.2.2.2]] [Rl (zF .i64) p1 c1 y0, Rl wN p2 c2 y2.1.1, Rl wJ p3 c3 y2.1.2.1, Rl wQ p4 c4 y2.1.2.2, Rl wR p5 c5 y2.2.1, Rl wR p6 c6 y2.2.2.1] (zAD y0 y2) fun L r K=>K (vb r) L [] :=
 qB call163 func163 u fun X=>jA 1 u<|zB<|zA 2 u<|qF .s [0, 1] [] zDF u u u (cq [0,1,2,3,4,5])<|fun r1 _ k=>k<|zA 2 u<|zC<|zJ<|zP u u (fun _ k=>k) [0,1] ⟨⟩
theorem zIJ {qd : Prop} (k : Nat) :
    (∀ {y0 : zAA} {b1 : Nat} {p1 : Option Addr} {c1 : Nat} {p2 : Option Addr} {c2 : Nat} {p3 : Option Addr} {c3 : Nat} {p4 : Option Addr} {c4 : Nat} {r_1 : zZ} {p5 : Option Addr} {c5 : Nat} {r_2 : zZ} {y1 : Int} {y2 : List Int} {p6 : Option Addr} {c6 : Nat}, qG qd prog 103 [pt b1 0, vi y1, sv p6 y2 c6] [bx b1 143 [sv p1 y0.1.1 c1, sv p2 y0.1.2.1 c2, sv p3 y0.1.2.2 c3, sv p4 y0.2.1 c4, sv p5 y0.2.2.1 c5, vi y0.2.2.2], r_1, r_2] [Rl wN p1 c1 y0.1.1, Rl wJ p2 c2 y0.1.2.1, Rl wQ p3 c3 y0.1.2.2, Al wR 94 r_1 p4 c4 y0.2.1, Al wR 94 r_2 p5 c5 y0.2.2.1, Rl (zF .i64) p6 c6 y2] (zAQ k y0 y1 y2) fun r K=>∀ p7 c7 r_3,K (.tuple #[]) [bx b1 143 [sv p1 y0.1.1 c1, sv p2 y0.1.2.1 c2, sv p3 y0.1.2.2 c3, sv p4 y0.2.1 c4, sv p7 r c7, vi y0.2.2.2], r_1, r_3] [Al wR 94 r_3 p7 c7 r]) := by
  induction k with
  | zero => exact zYc call103
  | succ k ih =>
    have ih_argument_builder_apply_2 := @ih
    exact @fun y0 b1 p1 c1 p2 c2 p3 c3 p4 c4 r_1 p5 c5 r_2 y1 y2 p6 c6=>qB (m1 := zBW (zAQ k) y0 y1 y2) call103 func103 u fun X=>zB<|qU .s u<|fun b2=>zC<|zB<|zT 3 u u u<|zA 1 u<|zS 0 u<|zS 1 u<|zT 0 u u u<|zA 1 u<|qW 1 u u u<|fun x1 b3 o1=>zS 3 u<|qV false oL (gf (gs (gs (gs (gk 0))))) u<|fun p7 c7=>zA 1 u<|zC<|zD<|
  zB<|zT 3 u u u<|qF .s [0] [1, 2] zE3 u u u ⟨ck 2,ck 3,ck 4,cl 1 5,cl 2 6,⟨⟩⟩<|fun r1 _ k=>k<|zC<|zH u (zJ<|qA<|wZ u lN (fun _ k=>k p5 c5 r_2) [0,1,2] (gq [6]))<|jC<|
  zUE (fun s1 K=>K [1,2,3] [] [7,2,3,4,5,6] [] []) (jA 5 u<|zH u (zD<|zB<|zT 3 u u u<|zA 1 u<|zS 3 u<|zT 0 u u u<|zA 2 u<|zC<|zO<|
  qO (fun s2 K=>∀ p8 c8 r_3,K [1,2,3,6,28,29] [(0, bx b1 143 [sv p1 y0.1.1 c1, sv p2 y0.1.2.1 c2, sv p3 y0.1.2.2 c3, sv p4 y0.2.1 c4, sv p8 s2.2 c8, vi y0.2.2.2]), (2, r_3)] [7,0,5,2,3,4] [(30, vi s2.1)] [Al wR 94 r_3 p8 c8 s2.2]) (gv (fun _ k=>k p5 c5 r_2) [0,1,2,3] (gq [6,7,0,5,2,3,4]))<|
  fun s2 _ k p8 c8 r_3=>k<|jA 1 u<|zD<|zH u (jC<|zD<|zO<|zB<|zA 1 u<|yL 3 u u u<|fun x2 h1 b4 hp1=>xD 1 3 sI true zQ7 u hp1 h1 u<|fun p9 c9=>wM .s (.agg #[vi 0, vi 0, .slice none 0 0, vb false, vs []])<|
  fun b5=>zA 1 u<|qS .s 4 u u u<|zC<|yM [] [4] 8<|qN 0 3 u u<|vQ 1 4 2 u u u u<|zV 3 [2,3,4] u<|vO 5 3 u u u u<|fun x3 b6 o2=>vN 6 true yW u (gk 0) u<|wB 7 (vb (x2.2.2.2 == x3)) u<|qQ<|
  zN<|zH u (
  jjcK (fun s3 K=>∀ p10 c10 r_4,K [1,2,3,6,28,29,30] [(0, bx b1 143 [sv p1 y0.1.1 c1, sv p2 y0.1.2.1 c2, sv p3 y0.1.2.2 c3, sv p4 y0.2.1 c4, sv p10 s3 c10, vi y0.2.2.2]), (2, r_4), (4, [])] [3,4,5,6,7,8] [] [Al wR 94 r_4 p10 c10 s3]) (
  yU [] [3] 8<|qY 0 3 u u u u<|zV 4 [1,2,4] u<|xU 3 5 (qF (.f u) [] [] zJj u u u (cq [3])<|fun r2 _ k p11 c11 r_5=>k<|zY<|qE 5<|vC (.f u) (e := zF .i64) 3 [vi s2.1] ([s2.1] : List Int) (rC vI rN)<|
  fun p12 c12=>zY<|qE 6<|wP (.f u) 5 1 u (gk 0) u u<|fun x4 r_6 p13 c13=>zY<|wX 5 0 u u<|qE 7<|qF (.f u) [0, 1, 2] [] ih_argument_builder_apply_2 u u u (cq [10,11,12,9,6,0])<|fun r3 _ k p14 c14 r_7=>k<|zY<|qQ<|
  zK (gv (fun _ k=>k p14 c14 r_7) [0,1,2,3,904] (gq [0,8,9,10,11,12,13]))) <|vC (.f u) (e := zF .i64) 3 [vi s2.1] ([s2.1] : List Int) (rC vI rN)<|fun p15 c15=>zY<|qE 3<|qF (.f u) [] [] zJj u u u (cq [4])<|
  fun r4 _ k p16 c16 r_8=>k<|zY<|qE 6<|wP (.f u) 5 0 u (gk 1) u u<|fun x5 r_9 p17 c17=>zY<|wX 5 0 u u<|qE 7<|qF (.f u) [0, 1, 2] [] ih_argument_builder_apply_2 u u u (cq [10,11,12,9,6,0])<|fun r5 _ k p18 c18 r_10=>
  k<|zY<|qQ<|zK (gv (fun _ k=>k p18 c18 r_10) [0,1,2,3,904] (gq [0,8,9,10,11,12,13])))<|fun s3 _ k p10 c10 r_4=>k<|qC<|zN<|jB 2 u<|qD (gv (fun _ k=>k p10 c10 r_4) [0,1,2,3] (gq [0,1,2,3,4,5,6])))<|wC<|qC<|zN<|jB 2 u<|
  qD (gv (fun _ k=>k p8 c8 r_3) [0,1,2,3] (gq [2,3,4,5,6,7,8])))<|qM<|qK<|qP<|qL<|zN<|zJ<|wY<|wZ u lN (fun _ k=>k p8 c8 r_3) [0,1,2] (gq [0]))<|wC<|qD (gv (fun _ k=>k) [0,1,2,3] (gq [7,2,3,4,5,6])))<|fun s1 _ k=>k<|
  wF (fun s4 K=>K [1,2,3] [] [0,1,2,3,4,5] [(67, vb s4)] []) (yU [] [0, 3] 16<|zV 14 [0,1] u<|qE 2<|qF (.f u) [3, 0] [1, 2] zC4 u u u ⟨ck 0,ck 1,ck 2,ck 3,cl 1 4,cl 2 5,⟨⟩⟩<|
  fun r6 _ k=>k<|zY<|zV 12 [3] u<|wG 55 u (qY 4 3 u u u u<|zV 10 [5] u<|qN 6 0 u u<|vQ 7 0 3 u u u u<|qY 8 3 u u u u<|zV 6 [9] u<|qN 10 3 u u<|qY 11 0 u u u u<|zV 2 [12,13] u<|
  qE 14<|qF (.f u) [] [1] zNw u u u ⟨ck 1,ck 2,ck 3,cl 1 4,ck 0,⟨⟩⟩<|fun r7 _ k=>k<|zY<|wB 15 (vb r7) u<|qQ<|zK (gv (fun _ k=>k) [0,1,2,3] (gq [0,1,2,3,4,5])))<|zV 1 [4,5,6,7,8,9,10,11,12,13,14] u<|
  wB 15 (vb false) u<|qQ<|zK (gv (fun _ k=>k) [0,1,2,3] (gq [0,1,2,3,4,5])))<|fun s4 _ k=>k<|zH u (yU [21] [0, 3] 22<|qY 0 3 u u u u<|qY 1 3 u u u u<|zV 19 [2] u<|qN 3 4 u u<|qY 4 0 u u u u<|
  zV 15 [5,6] u<|qY 7 3 u u u u<|zV 13 [8] u<|qN 9 0 u u<|qN 10 1 u u<|qY 11 0 u u u u<|zV 9 [12] u<|vO 13 2 u u u u<|fun x6 b7 o3=>qN 14 4 u u<|
  vN 15 true yW u (gs (gs (gs (gs (gk 0))))) u<|wB 16 (.agg #[vi (-1), vi y1, sv p6 y2 c6, vb x6.2.2.2.2.1, vs x6.2.2.2.2.2]) u<|qE 17<|
  vC (.f u) (e := wR) 94 [vi (-1), vi y1, sv p6 y2 c6, vb x6.2.2.2.2.1, vs x6.2.2.2.2.2] ([((-1), y1, y2, x6.2.2.2.2)] : List zL) (rC (vP vI (vP vI (vP (vL (gk 1)) (vP vB vS)))) rN)<|fun p19 c19=>zY<|qE 18<|
  wP (.f u) 2 7 u (gk 0) u u<|fun x7 r_11 p20 c20=>zY<|zV 2 [19] u<|qN 20 4 u u<|qE 21<|qS (o := 4) (.f u) 0 u u u<|jdb [] [0, 3]<|qQ<|jrn<|wZ u lN (fun _ k=>k p20 c20 r_11) [0,1,2] (gq [0]))<|wC<|jrn<|
  wZ u lN (fun _ k=>k p5 c5 r_2) [0,1,2] (gq [5])
theorem zJZ {qd : Prop} {y0 : zAA} {y1 : Int} {y2 : List Int} : qG qd prog 103 [pt b1 0, vi y1, sv p6 y2 c6] [bx b1 143 [sv p1 y0.1.1 c1, sv p2 y0.1.2.1 c2, sv p3 y0.1.2.2 c3, sv p4 y0.2.1 c4, sv p5 y0.2.2.1 c5, vi y0.2.2.2], r_1, r_2] [Rl wN p1 c1 y0.1.1, Rl wJ p2 c2 y0.1.2.1, Rl wQ p3 c3 y0.1.2.2, Al wR 94 r_1 p4 c4 y0.2.1, Al wR 94 r_2 p5 c5 y0.2.2.1, Rl (zF .i64) p6 c6 y2] (zBU y0 y1 y2) fun r K=>∀ p7 c7 r_3,K (.tuple #[]) [bx b1 143 [sv p1 y0.1.1 c1, sv p2 y0.1.2.1 c2, sv p3 y0.1.2.2 c3, sv p4 y0.2.1 c4, sv p7 r c7, vi y0.2.2.2], r_1, r_3] [Al wR 94 r_3 p7 c7 r] := zOJ fun k => (zIJ k)
theorem zNm {qd : Prop} {y0 : wK} {y1 : vD} : yR qd prog 208 [.agg #[vs y0.1, vb y0.2.1, vi y0.2.2.1, sv p1 y0.2.2.2.1 c1, vb y0.2.2.2.2.1, vs y0.2.2.2.2.2], pt b1 0] [bx b1 9 [vs y1]] [Rl vA p1 c1 y0.2.2.2.1] (zHn y0 y1) fun L r K=>K (vb r) L [] :=
 qB call208 func208 u fun X=>zB<|qU .s u<|fun b2=>zA 1 u<|zC<|zB<|zS 0 u<|zT 1 u u u<|zT 0 u u u<|zA 2 u<|zC<|zJ<|zP u u (fun _ k=>k) [0] ⟨⟩
theorem zF5 {qd : Prop} {y0 : List wK} {y1 : vD} : yR qd prog 207 [sv p1 y0 c1, .func (.func 208) #[] #[pt b1 0]] [bx b1 9 [vs y1]] [Rl wJ p1 c1 y0] (zAh y0 y1) fun L r K=>K (vi r) L [] :=
 qB call207 func207 u fun X=>jA 1 u<|zD<|jA 3 u<|zO<|qO (fun s1 K=>K [0,1,7] [] [0] [(8, vi s1)] []) (gv (fun _ k=>k) [0] (gq [0]))<|fun s1 _ k=>k<|jA 1 u<|zD<|zH u (jC<|zD<|zO<|jA 2 u<|zB<|zA 3 u<|qW 0 u u u<|fun x1 b2 o1=>
  qV true zMU (gk 0) u<|fun p2 c2=>qF .s [0] [] zNm u u u (cq [0])<|fun r1 _ k=>k<|zC<|zH u (jA 2 u<|zJ<|qT<|qA<|wY<|qT<|qA<|zP u u (fun _ k=>k) [0] ⟨⟩)<|wC<|qC<|zN<|jB 2 u<|
  qD (gv (fun _ k=>k) [0] (gq [2])))<|qM<|qK<|qP<|qL<|zN<|jA 1 u<|zJ<|zP u u (fun _ k=>k) [0] ⟨⟩
theorem zL7 {qd : Prop} {y0 : zR} {y1 : vD} : qG qd prog 160 [.agg #[sv p1 y0.1 c1, sv p2 y0.2.1 c2, sv p3 y0.2.2 c3], vs y1] [] [Rl wN p1 c1 y0.1, Rl wJ p2 c2 y0.2.1, Rl wQ p3 c3 y0.2.2] (zFe y0 y1) fun r K=>K (vi r) [] [] :=
 qB call160 func160 u fun X=>zB<|qU .s u<|fun b1=>qU .s u<|fun b2=>zA 1 u<|zC<|zB<|zS 1 u<|zT 0 u u u<|zA 1 u<|qF .s [1] [] zF5 u u u (cq [1])<|fun r1 _ k=>k<|zA 1 u<|zC<|zJ<|
  zP u u (fun _ k=>k) [] ⟨⟩
theorem zME {qd : Prop} {y0 : vM} {y1 : zM} : yR qd prog 206 [.agg #[vb y0.1.1, vs y0.1.2, vi y0.2.1, vi y0.2.2.1, vs y0.2.2.2], pt b1 0] [bx b1 30 [vb y1.1, vs y1.2]] [] (zGM y0 y1) fun L r K=>K (vb r) L [] :=
 qB call206 func206 u fun X=>zB<|qU .s u<|fun b2=>zA 1 u<|zC<|zB<|zS 0 u<|qR 1 2 u u u<|qR 0 2 u u u<|zI (vb (y0.1 == y1))<|zA 1 u<|zC<|zJ<|zP u u (fun _ k=>k) [0] ⟨⟩
theorem zDY {qd : Prop} {y0 : List vM} {y1 : zM} : yR qd prog 205 [sv p1 y0 c1, .func (.func 206) #[] #[pt b1 0]] [bx b1 30 [vb y1.1, vs y1.2]] [Rl wN p1 c1 y0] (zAV y0 y1) fun L r K=>K (vi r) L [] :=
 qB call205 func205 u fun X=>jA 1 u<|zD<|jA 3 u<|zO<|qO (fun s1 K=>K [0,1,7] [] [0] [(8, vi s1)] []) (gv (fun _ k=>k) [0] (gq [0]))<|fun s1 _ k=>k<|jA 1 u<|zD<|zH u (jC<|zD<|zO<|jA 2 u<|zB<|zA 3 u<|qW 0 u u u<|fun x1 b2 o1=>
  qV true zIL (gk 0) u<|qF .s [0] [] zME u u u ⟨⟩<|fun r1 _ k=>k<|zC<|zH u (jA 2 u<|zJ<|qT<|qA<|wY<|qT<|qA<|zP u u (fun _ k=>k) [0] ⟨⟩)<|wC<|qC<|zN<|jB 2 u<|
  qD (gv (fun _ k=>k) [0] (gq [1])))<|qM<|qK<|qP<|qL<|zN<|jA 1 u<|zJ<|zP u u (fun _ k=>k) [0] ⟨⟩
theorem zN0 {qd : Prop} {y0 : zR} {y1 : zM} : qG qd prog 158 [.agg #[sv p1 y0.1 c1, sv p2 y0.2.1 c2, sv p3 y0.2.2 c3], .agg #[vb y1.1, vs y1.2]] [] [Rl wN p1 c1 y0.1, Rl wJ p2 c2 y0.2.1, Rl wQ p3 c3 y0.2.2] (zF1 y0 y1) fun r K=>K (vi r) [] [] :=
 qB call158 func158 u fun X=>zB<|qU .s u<|fun b1=>qU .s u<|fun b2=>zA 1 u<|zC<|zB<|zS 0 u<|zT 0 u u u<|zA 1 u<|qF .s [1] [] zDY u u u (cq [0])<|fun r1 _ k=>k<|zA 1 u<|zC<|zJ<|
  zP u u (fun _ k=>k) [] ⟨⟩
theorem zGh {qd : Prop} {y0 : vD} : qG qd prog 68 [vs y0] [] [] (zB6 y0) fun r K=>K (vb r) [] [] :=
 qB call68 func68 u fun X=>jA 1 u<|zD<|xH (fun K=>K [0] [] [] [(12, vb (((len y0) == 0) || (decide (12 < (len y0)))))] []) (qJ<|zA 4 u<|yC (b := (len y0) == 0) 8 u (fun hb1=>zA 3 u<|zI (vb true)<|zU<|
  wS 12 (vb (((len y0) == 0) || (decide (12 < (len y0))))) u (by rw [hb1]; rfl)<|zK (gv (fun _ k=>k) [] ⟨⟩))<|fun hb1=>zA 3 u<|zI (vb (decide (12 < (len y0))))<|zU<|
  wS 12 (vb (((len y0) == 0) || (decide (12 < (len y0))))) u (by rw [hb1]; rfl)<|zK (gv (fun _ k=>k) [] ⟨⟩))<|fun _ k=>k<|zH u (jA 1 u<|zJ<|qA<|zP u u (fun _ k=>k) [] ⟨⟩)<|jC<|zD<|jA 3 u<|zO<|
  qO (fun s1 K=>K [0,14] [] [] [(15, vi s1)] []) (gv (fun _ k=>k) [] ⟨⟩)<|fun s1 _ k=>k<|jA 1 u<|zD<|zH u (jC<|zD<|zO<|jA 2 u<|zB<|zA 2 u<|tA fun x1 h1=>jv (fun h=>zKV h u u underlying9 h1)<|zA 1 u<|zC<|zO<|
  xH (fun K=>K [0,3,4,14,15] [] [] [(21, vb ((decide (97 ≤ x1)) && (decide (x1 ≤ 122))))] []) (qJ<|zA 3 u<|yC (b := decide (97 ≤ x1)) 24 u (fun hb2=>zA 2 u<|zI (vb (decide (x1 ≤ 122)))<|zA 1 u<|zU<|
  wS 21 (vb ((decide (97 ≤ x1)) && (decide (x1 ≤ 122)))) u (by rw [hb2]; rfl)<|zK (gv (fun _ k=>k) [] ⟨⟩))<|fun hb2=>zA 2 u<|zI (vb false)<|zA 1 u<|zU<|
  wS 21 (vb ((decide (97 ≤ x1)) && (decide (x1 ≤ 122)))) u (by rw [hb2]; rfl)<|zK (gv (fun _ k=>k) [] ⟨⟩))<|fun _ k=>k<|zH u (wC<|qC<|qC<|zN<|jB 2 u<|qD (gv (fun _ k=>k) [] ⟨⟩))<|
  xH (fun K=>K [0,14,15] [] [] [(28, vb ((decide (0 < s1)) && (if decide (48 ≤ x1) then (decide (x1 ≤ 57)) || (x1 == 95) else x1 == 95)))] []) (qJ<|zA 3 u<|yC (b := decide (0 < s1)) 31 u (fun hb3=>zA 3 u<|
  yC (b := decide (48 ≤ x1)) 34 u (fun hb4=>zA 2 u<|zI (vb (decide (x1 ≤ 57)))<|zA 1 u<|yC (b := decide (x1 ≤ 57)) 38 u (fun hb5=>zA 2 u<|zI (vb true)<|zI (vb true)<|zA 1 u<|zU<|
  wS 28 (vb ((decide (0 < s1)) && (if decide (48 ≤ x1) then (decide (x1 ≤ 57)) || (x1 == 95) else x1 == 95))) u (by rw [hb3,hb4,hb5]; rfl)<|zK (gv (fun _ k=>k) [] ⟨⟩))<|fun hb5=>zA 2 u<|zI (vb (x1 == 95))<|zI (vb (x1 == 95))<|
  zA 1 u<|zU<|wS 28 (vb ((decide (0 < s1)) && (if decide (48 ≤ x1) then (decide (x1 ≤ 57)) || (x1 == 95) else x1 == 95))) u (by rw [hb3,hb4,hb5]; rfl)<|zK (gv (fun _ k=>k) [] ⟨⟩))<|fun hb4=>zA 2 u<|zI (vb false)<|zA 3 u<|
  zI (vb (x1 == 95))<|zI (vb (x1 == 95))<|zA 1 u<|zU<|wS 28 (vb ((decide (0 < s1)) && (if decide (48 ≤ x1) then (decide (x1 ≤ 57)) || (x1 == 95) else x1 == 95))) u (by rw [hb3,hb4]; rfl)<|zK (gv (fun _ k=>k) [] ⟨⟩))<|fun hb3=>
  zA 10 u<|zI (vb false)<|zA 1 u<|zU<|wS 28 (vb ((decide (0 < s1)) && (if decide (48 ≤ x1) then (decide (x1 ≤ 57)) || (x1 == 95) else x1 == 95))) u (by rw [hb3]; rfl)<|zK (gv (fun _ k=>k) [] ⟨⟩))<|fun _ k=>k<|zH u (wC<|qC<|
  qC<|zN<|jB 2 u<|qD (gv (fun _ k=>k) [] ⟨⟩))<|jA 1 u<|zJ<|qT<|qT<|qA<|wY<|qT<|qA<|zP u u (fun _ k=>k) [] ⟨⟩)<|qM<|qK<|qP<|qL<|zN<|jA 1 u<|zJ<|zP u u (fun _ k=>k) [] ⟨⟩
theorem zF9 {qd : Prop} {y0 : zM} : qG qd prog 24 [.agg #[vb y0.1, vs y0.2]] [] [] (zBc y0) fun r K=>K (vb r) [] [] :=
 qB call24 func24 u fun X=>zB<|qU .s u<|fun b1=>zA 1 u<|zC<|zB<|zS 1 u<|zT 0 u u u<|qH zGh u ⟨⟩<|fun r1 _ k=>k<|zA 1 u<|zC<|zJ<|zP u u (fun _ k=>k) [] ⟨⟩
theorem zHq {qd : Prop} {y0 : Int} : qG qd prog 203 [vi y0] [] [] (zB7 y0) fun r K=>K (vb r) [] [] :=
 qB call203 func203 u fun X=>jA 1 u<|jjp (fun K=>K [(2, vb ((decide (0 ≤ y0)) && (decide (y0 ≤ 9))))] [] []) (qJ<|zA 3 u<|yC (b := decide (0 ≤ y0)) 5 u (fun hb1=>zA 2 u<|zI (vb (decide (y0 ≤ 9)))<|zA 1 u<|zU<|
  wS 2 (vb ((decide (0 ≤ y0)) && (decide (y0 ≤ 9)))) u (by rw [hb1]; rfl)<|zK (gv (fun _ k=>k) [] ⟨⟩))<|fun hb1=>zA 2 u<|zI (vb false)<|zA 1 u<|zU<|wS 2 (vb ((decide (0 ≤ y0)) && (decide (y0 ≤ 9)))) u (by rw [hb1]; rfl)<|
  zK (gv (fun _ k=>k) [] ⟨⟩))<|fun _ k=>k<|zJ<|zP u u (fun _ k=>k) [] ⟨⟩
theorem zMy {qd : Prop} {y0 : vD} : qG qd prog 204 [vs y0] [] [] (zHO y0) fun r K=>K (vb r) [] [] :=
 qB call204 func204 u fun X=>jA 1 u<|jjn (fun s1 K=>K [(2, vb s1)] [] []) (qJ<|zA 3 u<|wG 5 u (zA 2 u<|zI (vb true)<|zA 1 u<|zU<|zK (gv (fun _ k=>k) [] ⟨⟩))<|zA 1 u<|qH zGh u ⟨⟩<|fun r1 _ k=>k<|zI (vb r1)<|zA 1 u<|zU<|
  zK (gv (fun _ k=>k) [] ⟨⟩))<|fun s1 _ k=>k<|zJ<|zP u u (fun _ k=>k) [] ⟨⟩
theorem zMt {qd : Prop} {y0 : vM} : qG qd prog 157 [.agg #[vb y0.1.1, vs y0.1.2, vi y0.2.1, vi y0.2.2.1, vs y0.2.2.2]] [] [] (zFM y0) fun r K=>K (vi r) [] [] :=
 qB call157 func157 u fun X=>zB<|qU .s u<|fun b1=>zA 1 u<|zC<|zUE (fun s1 K=>K [1] [] [] [] []) (zB<|zS 2 u<|zT 0 u u u<|zC<|zO<|wF (fun s2 K=>K [1,4] [] [] [(5, vb s2)] []) (jA 2 u<|zH u (wC<|zK (gv (fun _ k=>k) [0] ⟨⟩))<|jB 2 u<|
  zK (gv (fun _ k=>k) [0] ⟨⟩))<|fun s2 _ k=>k<|zH u (zB<|zS 3 u<|zT 0 u u u<|zA 1 u<|zC<|zH u (jA 1 u<|zJ<|qT<|wY<|zP u u (fun _ k=>k) [] ⟨⟩)<|wC<|qC<|qD (gv (fun _ k=>k) [0] ⟨⟩))<|jA 2 u<|zH u (zB<|
  zS 3 u<|zT 0 u u u<|qH zHq u ⟨⟩<|fun r1 _ k=>k<|zA 1 u<|zC<|zH u (jA 1 u<|zJ<|qT<|wY<|zP u u (fun _ k=>k) [] ⟨⟩)<|wC<|qC<|qD (gv (fun _ k=>k) [0] ⟨⟩))<|jA 1 u<|zJ<|qT<|wY<|
  zP u u (fun _ k=>k) [] ⟨⟩)<|fun s1 _ k=>k<|zD<|jjn (fun s3 K=>K [(26, vb s3)] [[]] []) (qJ<|zS 0 u<|qR 0 2 u u u<|qH zF9 u ⟨⟩<|fun r2 _ k=>k<|zA 2 u<|wG 21 u (zA 4 u<|zI (vb true)<|zU<|
  zK (gv (fun _ k=>k) [900] ⟨⟩))<|zS 4 u<|zT 0 u u u<|qH zMy rfl ⟨⟩<|fun r3 _ k=>k<|zA 1 u<|zI (vb (!r3))<|zU<|zK (gv (fun _ k=>k) [900] ⟨⟩))<|fun s3 _ k=>k<|zH u (jA 1 u<|zJ<|qA<|
  zP u u (fun _ k=>k) [] ⟨⟩)<|jC<|jA 1 u<|zJ<|zP u u (fun _ k=>k) [] ⟨⟩
theorem zMP {qd : Prop} {y0 : zR} {y1 : yV} : qG qd prog 161 [.agg #[sv p1 y0.1 c1, sv p2 y0.2.1 c2, sv p3 y0.2.2 c3], .agg #[vs y1.1, vi y1.2.1, vb y1.2.2.1, vs y1.2.2.2]] [] [Rl wN p1 c1 y0.1, Rl wJ p2 c2 y0.2.1, Rl wQ p3 c3 y0.2.2] (zD9 y0 y1) fun r K=>K (vi r) [] [] :=
 qB call161 func161 u fun X=>zB<|qU .s u<|fun b1=>qU .s u<|fun b2=>zA 1 u<|zC<|zD<|wF (fun s1 K=>K [2,3] [] [0,1,2] [(15, vb s1)] []) (qJ<|zS 1 u<|zT 1 u u u<|qH zHq u ⟨⟩<|fun r1 _ k=>k<|zA 2 u<|wG 10 u (zA 4 u<|
  zI (vb true)<|zU<|zK (gv (fun _ k=>k) [0,1] (gq [0,1,2])))<|zS 2 u<|qR 1 2 u u u<|qH zF9 u ⟨⟩<|fun r2 _ k=>k<|zA 1 u<|zI (vb (!r2))<|zU<|zK (gv (fun _ k=>k) [0,1] (gq [0,1,2])))<|fun s1 _ k=>k<|zH u (
  jA 1 u<|zJ<|qA<|zP u u (fun _ k=>k) [] ⟨⟩)<|jC<|zD<|zB<|qR 0 3 u u u<|zS 0 u<|zT 1 u u u<|qH zL7 u (cq [0,1,2])<|fun r3 _ k=>k<|zA 1 u<|zC<|zO<|jA 3 u<|zH u (jA 1 u<|zJ<|qT<|qA<|
  zP u u (fun _ k=>k) [] ⟨⟩)<|zB<|zS 1 u<|zT 0 u u u<|zA 1 u<|qW 1 u u u<|fun x1 b3 o1=>zS 1 u<|qV false oB (gf (gs (gk 0))) u<|zA 1 u<|zC<|zH u (jA 1 u<|zJ<|qT<|qA<|zP u u (fun _ k=>k) [] ⟨⟩
  )<|wC<|qC<|zN<|jA 1 u<|zJ<|zP u u (fun _ k=>k) [] ⟨⟩
theorem zJl {qd : Prop} {y0 : vD} : qG qd prog 258 [vs y0] [] [] (zCz y0) fun r K=>K (vb r) [] [] :=
 qB call258 func258 u fun X=>jA 1 u<|jA 4 u<|zJ<|zP u u (fun _ k=>k) [] ⟨⟩
theorem zMM {qd : Prop} {y0 : vD} {y1 : vD} : qG qd prog 230 [vs y0, vs y1] [] [] (zD1 y0 y1) fun r K=>K (vi r) [] [] :=
 qB call230 func230 u fun X=>jA 1 u<|zB<|zA 1 u<|qH zJl u ⟨⟩<|fun r1 _ k=>k<|zA 1 u<|zC<|zB<|zA 1 u<|qH zJl u ⟨⟩<|fun r2 _ k=>k<|zA 1 u<|zC<|zD<|jA 1 u<|zH u (zD<|jA 1 u<|zH u (jA 1 u<|zJ<|qA<|qA<|
  zP u u (fun _ k=>k) [] ⟨⟩)<|jC<|jA 1 u<|zJ<|qA<|zP u u (fun _ k=>k) [] ⟨⟩)<|jC<|zD<|jA 1 u<|zH u (jA 1 u<|zJ<|qA<|zP u u (fun _ k=>k) [] ⟨⟩)<|jC<|zD<|jA 3 u<|zH u (jA 1 u<|zJ<|qA<|
  zP u u (fun _ k=>k) [] ⟨⟩)<|jC<|zD<|jA 3 u<|zH u (jA 1 u<|zJ<|qA<|zP u u (fun _ k=>k) [] ⟨⟩)<|jC<|jA 1 u<|zJ<|zP u u (fun _ k=>k) [] ⟨⟩
theorem zKJ {qd : Prop} {y0 : zM} {y1 : zM} : qG qd prog 182 [.agg #[vb y0.1, vs y0.2], .agg #[vb y1.1, vs y1.2]] [] [] (zAs y0 y1) fun r K=>K (vi r) [] [] :=
 qB call182 func182 u fun X=>zB<|qU .s u<|fun b1=>qU .s u<|fun b2=>zA 1 u<|zC<|zD<|zB<|zS 1 u<|zT 0 u u u<|zS 1 u<|zT 1 u u u<|qH zMM u ⟨⟩<|fun r1 _ k=>k<|zA 1 u<|zC<|
  xH (fun K=>K [3,5] [(0, [])] [] [(19, vb ((r1 != 0) || (y0.1 == y1.1)))] []) (qJ<|zA 3 u<|yC (b := r1 != 0) 13 u (fun hb1=>zA 5 u<|zI (vb true)<|zU<|wS 19 (vb ((r1 != 0) || (y0.1 == y1.1))) u (by rw [hb1]; rfl)<|
  zK (gv (fun _ k=>k) [900,1] ⟨⟩))<|fun hb1=>zS 0 u<|zT 0 u u u<|zS 0 u<|zT 1 u u u<|zI (vb (y0.1 == y1.1))<|zI (vb (y0.1 == y1.1))<|zU<|wS 19 (vb ((r1 != 0) || (y0.1 == y1.1))) u (by rw [hb1]; rfl)<|
  zK (gv (fun _ k=>k) [900,1] ⟨⟩))<|fun _ k=>k<|zH u (jA 2 u<|zJ<|qA<|zP u u (fun _ k=>k) [] ⟨⟩)<|jC<|zD<|zB<|zS 0 u<|zT 1 u u u<|zC<|zH u (jA 1 u<|zJ<|qA<|zP u u (fun _ k=>k) [] ⟨⟩)<|jC<|jA 1 u<|zJ<|
  zP u u (fun _ k=>k) [] ⟨⟩
theorem zPD {qd : Prop} {y0 : wK} : qG qd prog 159 [.agg #[vs y0.1, vb y0.2.1, vi y0.2.2.1, sv p1 y0.2.2.2.1 c1, vb y0.2.2.2.2.1, vs y0.2.2.2.2.2]] [] [Rl vA p1 c1 y0.2.2.2.1] (zHW y0) fun r K=>K (vi r) [] [] :=
 qB call159 func159 u fun X=>zB<|qU .s u<|fun b1=>zA 1 u<|zC<|zD<|zB<|zS 3 u<|zT 0 u u u<|zA 2 u<|zC<|zH u (jA 1 u<|zJ<|qA<|zP u u (fun _ k=>k) [] ⟨⟩)<|jC<|zD<|wF (fun s1 K=>K [1] [] [0] [(34, vb s1)] []) (qJ<|zS 0 u<|
  zT 0 u u u<|qH zGh u ⟨⟩<|fun r1 _ k=>k<|zA 2 u<|wG 14 u (zA 4 u<|zI (vb true)<|zA 5 u<|zI (vb true)<|zA 8 u<|zI (vb true)<|zU<|zK (gv (fun _ k=>k) [0] (gq [0])))<|zS 4 u<|
  qR 0 2 u u u<|qH zF9 u ⟨⟩<|fun r2 _ k=>k<|zA 1 u<|zI (vb (!r2))<|zA 1 u<|wG 20 u (zA 4 u<|zI (vb true)<|zA 8 u<|zI (vb true)<|zU<|zK (gv (fun _ k=>k) [0] (gq [0])))<|zS 2 u<|zT 0 u u u<|
  qH zHq u ⟨⟩<|fun r3 _ k=>k<|zA 1 u<|zI (vb (!r3))<|zA 1 u<|wG 26 u (zA 7 u<|zI (vb true)<|zU<|zK (gv (fun _ k=>k) [0] (gq [0])))<|zS 1 u<|zT 0 u u u<|zA 1 u<|wG 29 u (zS 2 u<|
  zT 0 u u u<|zA 1 u<|zI (vb (y0.2.2.1 != 0))<|zI (vb (y0.2.2.1 != 0))<|zU<|zK (gv (fun _ k=>k) [0] (gq [0])))<|zA 3 u<|zI (vb false)<|zI (vb false)<|zU<|zK (gv (fun _ k=>k) [0] (gq [0])))<|fun s1 _ k=>k<|zH u (
  jA 1 u<|zJ<|qA<|zP u u (fun _ k=>k) [] ⟨⟩)<|jC<|zUE (fun s2 K=>K [1] [] [0] [] []) (zB<|zS 3 u<|zT 0 u u u<|zA 2 u<|zC<|zO<|qO (fun s3 K=>K [1,36,37] [] [0] [(38, vi s3)] []) (gv (fun _ k=>k) [0] (gq [0]))<|
  fun s3 _ k=>k<|jA 1 u<|zD<|zH u (jC<|zD<|zO<|zB<|qW 0 u u u<|fun x1 b2 o1=>qV true yW (gk 0) u<|wM .s (.agg #[vb false, vs []])<|fun b3=>qS .s 1 u u u<|zC<|zB<|qR 1 2 u u u<|
  qH zF9 u ⟨⟩<|fun r4 _ k=>k<|zA 1 u<|zC<|zH u (jA 1 u<|zJ<|qT<|qA<|wY<|qT<|wY<|zP u u (fun _ k=>k) [] ⟨⟩)<|wC<|qC<|zN<|jB 2 u<|qD (gv (fun _ k=>k) [0] (gq [1])))<|qM<|qK<|qP<|qL<|
  qD (gv (fun _ k=>k) [0] (gq [0])))<|fun s2 _ k=>k<|zD<|jA 1 u<|zO<|qO (fun s4 K=>K [1] [] [0] [(5, vi s4)] []) (gv (fun _ k=>k) [0] (gq [0]))<|fun s4 _ k=>k<|zD<|zB<|zA 1 u<|zS 3 u<|zT 0 u u u<|zA 2 u<|zC<|
  zH u (jC<|zD<|zO<|yM [] [0] 13<|qN 0 3 u u<|qY 1 0 u u u u<|zV 9 [2,3] u<|vO 4 0 u u u u<|fun x2 b4 o2=>vN 5 true yW u (gk 0) u<|qN 6 3 u u<|qY 7 0 u u u u<|zV 4 [8] u<|
  vO 9 1 u u u u<|fun x3 b5 o3=>vN 10 true yW u (gk 0) u<|qE 11<|qF (.f u) [] [] zKJ u u u ⟨⟩<|fun r5 _ k=>k<|zY<|zV 0 [12] u<|qQ<|zN<|zH u (jA 1 u<|zJ<|qT<|qA<|wY<|qT<|qA<|
  zP u u (fun _ k=>k) [] ⟨⟩)<|wC<|qC<|zN<|jB 3 u<|qD (gv (fun _ k=>k) [0] (gq [2])))<|qM<|qK<|qP<|qL<|zN<|jA 1 u<|zJ<|zP u u (fun _ k=>k) [] ⟨⟩
theorem zM7 {qd : Prop} {y0 : zR} : qG qd prog 102 [.agg #[sv p1 y0.1 c1, sv p2 y0.2.1 c2, sv p3 y0.2.2 c3]] [] [Rl wN p1 c1 y0.1, Rl wJ p2 c2 y0.2.1, Rl wQ p3 c3 y0.2.2] (zCZ y0) fun r K=>K (vi r) [] [] :=
 qB call102 func102 u fun X=>zB<|qU .s u<|fun b1=>zA 1 u<|zC<|zD<|xH (fun K=>K [1] [] [0,1,2] [(27, vb ((decide (16 < (len y0.1))) || ((decide (24 < (len y0.2.1))) || (decide (8 < (len y0.2.2))))))] []) (qJ<|zS 0 u<|zT 0 u u u<|zA 3 u<|
  yC (b := decide (16 < (len y0.1))) 16 u (fun hb1=>zA 4 u<|zI (vb true)<|zA 5 u<|zI (vb true)<|zU<|wS 27 (vb ((decide (16 < (len y0.1))) || ((decide (24 < (len y0.2.1))) || (decide (8 < (len y0.2.2)))))) u (by rw [hb1]; rfl)<|
  zK (gv (fun _ k=>k) [0] (gq [0,1,2])))<|fun hb1=>zS 1 u<|zT 0 u u u<|zA 2 u<|zI (vb (decide (24 < (len y0.2.1))))<|zA 1 u<|yC (b := decide (24 < (len y0.2.1))) 22 u (fun hb2=>zA 4 u<|zI (vb true)<|zU<|
  wS 27 (vb ((decide (16 < (len y0.1))) || ((decide (24 < (len y0.2.1))) || (decide (8 < (len y0.2.2)))))) u (by rw [hb1,hb2]; rfl)<|zK (gv (fun _ k=>k) [0] (gq [0,1,2])))<|fun hb2=>zS 2 u<|zT 0 u u u<|zA 2 u<|
  zI (vb (decide (8 < (len y0.2.2))))<|zU<|wS 27 (vb ((decide (16 < (len y0.1))) || ((decide (24 < (len y0.2.1))) || (decide (8 < (len y0.2.2)))))) u (by rw [hb1,hb2]; rfl)<|zK (gv (fun _ k=>k) [0] (gq [0,1,2])))<|fun _ k=>k<|zH u (
  jA 1 u<|zJ<|qA<|zP u u (fun _ k=>k) [] ⟨⟩)<|jC<|zUE (fun s1 K=>K [1] [] [0,1,2] [] []) (zB<|zS 0 u<|zT 0 u u u<|zA 2 u<|zC<|zO<|
  qO (fun s2 K=>K [1,29,30] [] [0,1,2] [(31, vi s2)] []) (gv (fun _ k=>k) [0] (gq [0,1,2]))<|fun s2 _ k=>k<|jA 1 u<|zD<|zH u (jC<|zD<|zO<|zB<|zA 1 u<|qW 0 u u u<|fun x1 b2 o1=>qV true zIL (gk 0) u<|
  wM .s (.agg #[vb false, vs [], vi 0, vi 0, vs []])<|fun b3=>zA 1 u<|qS .s 1 u u u<|zC<|zD<|zB<|qR 1 5 u u u<|qH zMt u ⟨⟩<|fun r1 _ k=>k<|zA 1 u<|zC<|jA 2 u<|zH u (jA 2 u<|zJ<|qA<|qT<|
  qA<|wY<|qT<|wY<|zP u u (fun _ k=>k) [] ⟨⟩)<|jC<|zB<|qR 0 3 u u u<|zS 0 u<|qR 1 2 u u u<|qH zN0 u (cq [1,2,3])<|fun r2 _ k=>k<|zA 2 u<|zC<|zH u (jA 1 u<|zJ<|qT<|qA<|wY<|qT<|wY<|
  zP u u (fun _ k=>k) [] ⟨⟩)<|wC<|qC<|zN<|jB 2 u<|qD (gv (fun _ k=>k) [0] (gq [1,2,3])))<|qM<|qK<|qP<|qL<|qD (gv (fun _ k=>k) [0] (gq [0,1,2])))<|fun s1 _ k=>k<|zUE (fun s3 K=>K [1] [] [0,1,2] [] []) (zB<|zS 1 u<|
  zT 0 u u u<|zA 2 u<|zC<|zO<|qO (fun s4 K=>K [1,49,50] [] [1,0,2] [(51, vi s4)] []) (gv (fun _ k=>k) [0] (gq [1,0,2]))<|fun s4 _ k=>k<|jA 1 u<|zD<|zH u (jC<|zD<|zO<|zB<|zA 1 u<|qW 0 u u u<|fun x2 b4 o2=>
  qV true zMU (gk 0) u<|fun p4 c4=>wM .s (.agg #[vs [], vb false, vi 0, .slice none 0 0, vb false, vs []])<|fun b5=>zA 1 u<|qS .s 1 u u u<|zC<|zD<|zB<|qR 1 6 u u u<|qH zPD u (cq [0])<|fun r3 _ k=>k<|
  zA 1 u<|zC<|jA 2 u<|zH u (jA 2 u<|zJ<|qA<|qT<|qA<|wY<|qT<|wY<|zP u u (fun _ k=>k) [] ⟨⟩)<|jC<|zB<|qR 0 3 u u u<|zS 0 u<|zT 1 u u u<|qH zL7 u (cq [3,2,4])<|fun r4 _ k=>k<|zA 2 u<|
  zC<|zH u (jA 1 u<|zJ<|qT<|qA<|wY<|qT<|wY<|zP u u (fun _ k=>k) [] ⟨⟩)<|wC<|qC<|zN<|jB 2 u<|qD (gv (fun _ k=>k) [0] (gq [2,3,4])))<|qM<|qK<|qP<|qL<|qD (gv (fun _ k=>k) [0] (gq [1,0,2])))<|fun s3 _ k=>k<|zD<|zB<|
  zS 2 u<|zT 0 u u u<|zA 2 u<|zC<|zO<|qO (fun s5 K=>K [1,69,70] [] [2,0,1] [(71, vi s5)] []) (gv (fun _ k=>k) [0] (gq [2,0,1]))<|fun s5 _ k=>k<|jA 1 u<|zD<|zH u (jC<|zD<|zO<|zB<|qW 0 u u u<|fun x3 b6 o3=>
  qV true zKf (gk 0) u<|wM .s (.agg #[vs [], vi 0, vb false, vs []])<|fun b7=>qS .s 1 u u u<|zC<|zB<|qR 0 3 u u u<|qR 1 4 u u u<|qH zMP u (cq [2,3,1])<|fun r5 _ k=>k<|zA 1 u<|zC<|
  jA 2 u<|zH u (jA 2 u<|zJ<|qT<|qA<|wY<|qT<|qA<|zP u u (fun _ k=>k) [] ⟨⟩)<|wC<|qC<|zN<|jB 2 u<|qD (gv (fun _ k=>k) [0] (gq [1,2,3])))<|qM<|qK<|qP<|qL<|zN<|jA 1 u<|zJ<|zP u u (fun _ k=>k) [] ⟨⟩
theorem zO0 {qd : Prop} {y0 : zR} : qG qd prog 61 [.agg #[sv p1 y0.1 c1, sv p2 y0.2.1 c2, sv p3 y0.2.2 c3]] [] [Rl wN p1 c1 y0.1, Rl wJ p2 c2 y0.2.1, Rl wQ p3 c3 y0.2.2] (zCv y0) fun r K=>∀ p4 c4,K (.tuple #[sv p4 r.1 c4, vi r.2]) [] [Rl wR p4 c4 r.1] :=
 qB call61 func61 u fun X=>zB<|qU .s u<|fun b1=>zA 2 u<|zC<|jcs<|zD<|zB<|qR 0 3 u u u<|qH zM7 u (cq [0,1,2])<|fun r1 _ k=>k<|zA 1 u<|zC<|jA 2 u<|zH u (jA 3 u<|zJ<|qA<|jcr<|
  wZ u (lT u (lT u lN)) (fun _ k=>k none 0) [] ⟨gn,⟨⟩⟩)<|jC<|zB<|qR 0 3 u u u<|zI (.agg #[sv p1 y0.1 c1, sv p2 y0.2.1 c2, sv p3 y0.2.2 c3, .slice none 0 0, .slice none 0 0, vi 0])<|vK wR 94<|qU .s u<|fun b2=>
  zA 1 u<|zC<|wF (fun s1 K=>∀ p4 c4 r_1,K [1,5] [(1, r_1), (2, bx b2 143 [sv p1 y0.1 c1, sv p2 y0.2.1 c2, sv p3 y0.2.2 c3, sv p4 s1 c4, .slice none 0 0, vi 0])] [1,2,3] [] [Al wR 94 r_1 p4 c4 s1]) (zB<|zS 0 u<|
  zT 0 u u u<|zA 2 u<|zC<|zO<|
  qO (fun s2 K=>∀ p5 c5 r_2,K [1,5,20,21] [(1, r_2), (2, bx b2 143 [sv p1 y0.1 c1, sv p2 y0.2.1 c2, sv p3 y0.2.2 c3, sv p5 s2.2 c5, .slice none 0 0, vi 0])] [1,2,3] [(22, vi s2.1)] [Al wR 94 r_2 p5 c5 s2.2]) (gv (fun _ k=>k none 0 []) [0,1,2] (gq [0,1,2,3]))<|
  fun s2 _ k p5 c5 r_2=>k<|jA 1 u<|zD<|zH u (jC<|zD<|zO<|zB<|zA 1 u<|qW 1 u u u<|fun x1 b3 o1=>qV true zIL (gk 0) u<|wM .s (.agg #[vb false, vs [], vi 0, vi 0, vs []])<|fun b4=>zA 1 u<|qS .s 3 u u u<|
  zC<|yU [13] [2, 3] 14<|zV 11 [0,1,2] u<|qN 3 3 u u<|qY 4 2 u u u u<|zV 8 [5] u<|qN 6 0 u u<|vQ 7 3 2 u u u u<|wB 8 (.agg #[vi s2.1, vi (-1), .slice none 0 0, vb x1.1.1, vs x1.1.2]) u<|qE 9<|
  vC (.f u) (e := wR) 94 [vi s2.1, vi (-1), .slice none 0 0, vb x1.1.1, vs x1.1.2] ([(s2.1, (-1), ([] : List Int), x1.1)] : List zL) (rC (vP vI (vP vI (vP (vL gn) (vP vB vS)))) rN)<|fun p6 c6=>zY<|qE 10<|
  wP (.f u) 1 2 u (gk 0) u u<|fun x2 r_3 p7 c7=>zY<|zV 2 [11] u<|qN 12 3 u u<|qE 13<|qS (o := 3) (.f u) 2 u u u<|jdb [] [2, 3]<|qQ<|qC<|zN<|jB 2 u<|qD (gv (fun _ k=>k p7 c7 r_3) [0,1,2] (gq [0,4,5,6])))<|
  qM<|qK<|qP<|qL<|zK (gv (fun _ k=>k p5 c5 r_2) [0,1,2] (gq [0,1,2,3])))<|fun s1 _ k p4 c4 r_1=>k<|zD<|jlb<|zN<|
  wF (fun s3 K=>∀ p8 c8 r_4 p9 c9 r_5,K [5] [(0, []), (1, r_4), (2, bx b2 143 [sv p1 y0.1 c1, sv p2 y0.2.1 c2, sv p3 y0.2.2 c3, sv p8 s3.1 c8, sv p9 s3.2.1 c9, vi s3.2.2]), (3, r_5)] [1,2,3] [] [Al wR 94 r_4 p8 c8 s3.1, Al wR 94 r_5 p9 c9 s3.2.1]) (
  jA 1 u<|zO<|
  qO (fun s4 K=>∀ p10 c10 r_6 p11 c11,K [1,5] [(1, r_6), (2, bx b2 143 [sv p1 y0.1 c1, sv p2 y0.2.1 c2, sv p3 y0.2.2 c3, sv p10 s4.2.1 c10, sv p11 s4.2.2.1 c11, vi s4.2.2.2])] [1,2,3] [(8, vi s4.1)] [Al wR 94 r_6 p10 c10 s4.2.1, Rl wR p11 c11 s4.2.2.1]) (gv (fun _ k=>k p4 c4 r_1 none 0) [0,1,2] ⟨gk 0,gn,gk 1,gk 2,gk 3,⟨⟩⟩)<|
  fun s4 _ k p10 c10 r_6 p11 c11=>k<|zD<|zO<|zB<|zA 2 u<|zS 4 u<|vK wR 94<|qS .s 2 u u u<|zC<|
  zUE (fun s5 K=>∀ p12 c12 r_7,K [1,5,8] [(2, bx b2 143 [sv p1 y0.1 c1, sv p2 y0.2.1 c2, sv p3 y0.2.2 c3, sv p10 s4.2.1 c10, sv p12 s5 c12, vi s4.2.2.2]), (3, r_7)] [3,4,5,1] [] [Al wR 94 r_7 p12 c12 s5]) (zB<|zS 1 u<|
  zT 0 u u u<|zA 2 u<|zC<|zO<|
  qO (fun s6 K=>∀ p13 c13 r_8,K [1,5,8,47,48] [(2, bx b2 143 [sv p1 y0.1 c1, sv p2 y0.2.1 c2, sv p3 y0.2.2 c3, sv p10 s4.2.1 c10, sv p13 s6.2 c13, vi s4.2.2.2]), (3, r_8)] [4,3,5,1] [(49, vi s6.1)] [Al wR 94 r_8 p13 c13 s6.2]) (gv (fun _ k=>k none 0 []) [0,1,2,3] (gq [0,4,3,5,1]))<|
  fun s6 _ k p13 c13 r_8=>k<|jA 1 u<|zD<|zH u (jC<|zD<|zO<|zB<|zA 1 u<|qW 1 u u u<|fun x3 b5 o2=>qV true zMU (gk 0) u<|fun p14 c14=>wM .s (.agg #[vs [], vb false, vi 0, .slice none 0 0, vb false, vs []])<|fun b6=>
  zA 1 u<|qS .s 4 u u u<|zC<|
  wF (fun s7 K=>∀ p15 c15 r_9,K [1,5,8,47,48,49] [(2, bx b2 143 [sv p1 y0.1 c1, sv p2 y0.2.1 c2, sv p3 y0.2.2 c3, sv p10 s4.2.1 c10, sv p15 s7 c15, vi s4.2.2.2]), (3, r_9), (4, [])] [3,4,5,6] [] [Al wR 94 r_9 p15 c15 s7]) (zB<|
  zS 3 u<|zT 4 u u u<|zA 2 u<|zC<|zH u (qJ<|zA 2 u<|qF .s [2, 1, 3] [] zJZ u u u ⟨ck 4,ck 3,ck 5,ck 6,ck 2,cn,⟨⟩⟩<|fun r2 _ k p16 c16 r_10=>k<|zU<|
  zK (gv (fun _ k=>k p16 c16 r_10) [0,1,2,3,904] (gq [0,4,5,6,7])))<|jA 2 u<|zH u (yU [13] [2, 4] 14<|zV 11 [0,1,2] u<|qN 3 4 u u<|qY 4 2 u u u u<|zV 8 [5] u<|qN 6 4 u u<|vQ 7 4 2 u u u u<|
  wB 8 (.agg #[vi (-1), vi s6.1, .slice none 0 0, vb x3.2.2.2.2.1, vs x3.2.2.2.2.2]) u<|qE 9<|
  vC (.f u) (e := wR) 94 [vi (-1), vi s6.1, .slice none 0 0, vb x3.2.2.2.2.1, vs x3.2.2.2.2.2] ([((-1), s6.1, ([] : List Int), x3.2.2.2.2)] : List zL) (rC (vP vI (vP vI (vP (vL gn) (vP vB vS)))) rN)<|fun p17 c17=>zY<|
  qE 10<|wP (.f u) 3 3 u (gk 0) u u<|fun x4 r_11 p18 c18=>zY<|zV 2 [11] u<|qN 12 4 u u<|qE 13<|qS (o := 4) (.f u) 2 u u u<|jdb [] [2, 4]<|qQ<|zK (gv (fun _ k=>k p18 c18 r_11) [0,1,2,3,904] (gq [0,5,6,7,8])))<|
  wC<|zK (gv (fun _ k=>k p13 c13 r_8) [0,1,2,3,904] (gq [2,3,4,5,6])))<|fun s7 _ k p15 c15 r_9=>k<|zB<|zA 1 u<|qF .s [2] [1, 3] zE3 u u u ⟨ck 2,ck 1,ck 3,cl 1 4,cl 3 0,⟨⟩⟩<|fun r3 _ k=>k<|zC<|zH u (qM<|
  jbm<|qK<|qP<|jbm<|qP<|jbm<|qK<|qP<|qL<|zK (gv (fun _ k=>k p10 c10 r_6 p15 c15 r_9) [900,1,2,3] (gq [4,0,2,1,3])))<|wC<|qC<|zN<|jB 2 u<|qD (gv (fun _ k=>k p15 c15 r_9) [0,1,2,3] (gq [0,1,2,3,4])))<|qM<|qK<|qP<|qL<|
  qD (gv (fun _ k=>k p13 c13 r_8) [0,1,2,3] (gq [0,2,1,3,4])))<|fun s5 _ k p12 c12 r_7=>k<|zD<|zB<|zA 2 u<|zS 4 u<|zT 2 u u u<|zA 2 u<|zC<|zH u (qM<|qK<|jbm<|qK<|qP<|qL<|
  zK (gv (fun _ k=>k p10 c10 r_6 p12 c12 r_7) [900,1,2,3] (gq [4,0,1,2,3])))<|jC<|zB<|zA 3 u<|zS 3 u<|zT 2 u u u<|zA 2 u<|zS 5 u<|qS .s 2 u u u<|zC<|yU [12] [2] 13<|zV 10 [0,1,2] u<|qN 3 3 u u<|
  qY 4 2 u u u u<|zV 6 [5,6] u<|qN 7 4 u u<|qY 8 2 u u u u<|qE 9<|jao (.f u) 1 3 4 0 u u u u<|fun x5 r_12 p19 c19=>zY<|zV 2 [10] u<|qN 11 3 u u<|qE 12<|qS (o := 3) (.f u) 2 u u u<|
  jdb [] [2]<|qQ<|qC<|zN<|jB 3 u<|wX 3 1 u u<|qD (gv (fun _ k=>k p19 c19 r_12 p12 c12) [0,1,2] (gq [1,0,3,4,5])))<|fun s3 _ k p8 c8 r_4 p9 c9 r_5=>k<|zD<|zB<|zA 1 u<|
  qF .s [2] [1, 3] zE3 u u u ⟨ck 2,ck 3,ck 4,cl 1 0,cl 3 1,⟨⟩⟩<|fun r4 _ k=>k<|zC<|zH u (jA 2 u<|zJ<|qA<|jcr<|wZ u (lT u (lT u lN)) (fun _ k=>k none 0) [] ⟨gn,⟨⟩⟩)<|jC<|zB<|zA 2 u<|zS 3 u<|
  zT 2 u u u<|zA 2 u<|zC<|zJ<|jcr<|wX 1 0 u u<|wZ u (lT u (lT u lN)) (fun _ k=>k p8 c8) [] (gq [0])
theorem zHj {qd : Prop} {y0 : List zM} : qG qd prog 119 [sv p1 y0 c1] [] [Rl vA p1 c1 y0] (zBY y0) fun r K=>∀ p2 c2 r_1,K (sv p2 r c2) [r_1] [Al vA 30 r_1 p2 c2 r] :=
 qB call119 func119 u fun X=>jA 1 u<|zD<|zB<|zA 1 u<|jv (fun h=>zWj h u underlying69)<|zC<|jnl (m1 := some ([] : List zM)) u (gk 0) (fun h=>by first|(rw [h];done)|(rw [h];rfl)|(simp [h,wI];done)) (jA 1 u<|zJ<|qA<|vK vA 30<|
  jrE 0 2 u u<|zP u u (fun _ k=>k none 0 []) [0] (gq [0]))<|jC<|zB<|xN .s (e := vA) 30 [] ([] : List zM) rN<|fun r_1 p2 c2=>zA 1 u<|wP .s 0 0 u (gk 1) u u<|fun x1 r_2 p3 c3=>zA 1 u<|zC<|zJ<|
  zP u u (fun _ k=>k p3 c3 r_2) [0] (gq [0])
theorem zKE {qd : Prop} {y0 : List zM} : qG qd prog 183 [sv p1 y0 c1] [r_1] [Al vA 30 r_1 p1 c1 y0] (zBp y0) fun r K=>∀ p2 c2 r_2,K (sv p2 r c2) [[], r_2] [Al vA 30 r_2 p2 c2 r] :=
 qB call183 func183 u fun X=>jA 1 u<|zD<|jA 3 u<|zH u (jA 2 u<|zJ<|qA<|zP u u (fun _ k=>k p1 c1 r_1) [900,0] (gq [0]))<|jC<|zD<|jA 1 u<|zO<|qO (fun s1 K=>K [0] [] [0] [(3, vi s1)] []) (gv (fun _ k=>k) [0] (gq [0]))<|fun s1 _ k=>k<|zD<|jA 4 u<|
  zH u (jC<|zD<|zO<|yM [] [0] 10<|zV 8 [0,1] u<|tC 2 0 u u u u<|fun x1 h1 b1 hp1=>tD 3 0 0 sI true yW u u hp1 h1 u<|zV 3 [4,5,6] u<|tC 7 0 u u u u<|fun x2 h2 b2 hp2=>
  tD 8 0 0 sI true yW u u hp2 h2 u<|wB 9 (vb (x1 == x2)) u<|qQ<|zN<|zH u (zB<|zA 2 u<|jsV 0 u u u<|fun u1 p2 c2 f1=>zA 1 u<|zC<|
  jjn (fun s2 K=>∀ r_2,K [(0, .slice p1 (List.length y0) c1), (3, vi s2.2)] [r_2] [Ar vA 30 r_2 p1 c1 (List.length y0) s2.1]) (jA 1 u<|zO<|
  qO (fun s3 K=>∀ r_3,K [4] [(0, r_3)] [] [(0, .slice p1 (List.length y0) c1), (3, vi s3.2.1), (5, vi s3.2.2)] [Ar vA 30 r_3 p1 c1 (List.length y0) s3.1]) (gv (fun _ k=>k r_1) [0] (gq [0]))<|fun s3 _ k r_3=>k<|zD<|jA 4 u<|
  zH u (jC<|zD<|zO<|yM [] [0] 10<|zV 8 [0,1] u<|jdX 2 0 u u f1 u u<|fun x3 b3 hp3 h3=>tD 3 0 0 sI true yW u u hp3 h3 u<|zV 3 [4,5,6] u<|jdX 7 0 u u f1 u u<|fun x4 b4 hp4 h4=>
  tD 8 0 0 sI true yW u u hp4 h4 u<|wB 9 (vb (!(x3 == x4))) u<|qQ<|zN<|zH u (zB<|zA 4 u<|jiV 0 u f1 u u<|fun x5 b5 hp5 h5=>xD 0 0 sI true yW u hp5 h5 u<|yL 0 u u u<|fun x6 h6 b6 hp6=>
  xJ .s 0 0 sI x5 true u hp6 h6 u u (vP vB vS)<|fun r_4=>zC<|jB 3 u<|qC<|zN<|jB 3 u<|qD (gv (fun _ k=>k r_4) [0] (gq [0])))<|wC<|qC<|zN<|jB 3 u<|qD (gv (fun _ k=>k r_3) [0] (gq [0])))<|qM<|qK<|qP<|qL<|
  zK (gv (fun _ k=>k r_3) [0] (gq [0])))<|fun s2 _ k r_2=>k<|zB<|zA 2 u<|jsV 0 u u u<|fun u2 p3 c3 f2=>jcv .s 0 0 (false, []) (.agg #[vb false, vs []]) u f2 u (vP vB vS)<|fun r_5=>zC<|zB<|zA 2 u<|jsP 0 u u u<|
  fun x7=>zA 1 u<|zC<|zJ<|qT<|qA<|wY<|qT<|qA<|zP u u (fun _ k=>k p1 c1 r_5) [900,0] (gq [0]))<|wC<|qC<|zN<|jB 3 u<|qD (gv (fun _ k=>k) [0] (gq [0])))<|qM<|qK<|qP<|qL<|zN<|jA 2 u<|zJ<|
  zP u u (fun _ k=>k p1 c1 r_1) [900,0] (gq [0])
theorem zEs {qd : Prop} {y0 : List zM} : qG qd prog 181 [sv p1 y0 c1, .func (.func 182) #[] #[]] [r_1] [Al vA 30 r_1 p1 c1 y0] (zAN y0) fun r K=>∀ r_2,K (.tuple #[]) [r_2] [Ar vA 30 r_2 p1 c1 (List.length y0) r] := ⟨call181, fun A w0 r hm hO hF => by
 have h := zPg (qd := qd) Go.Proofs.Tryz.sort181 (uD.prod uD.bool uD.str) (te := 30) Tryz.isAgg30 Tryz.sizeOf30 zAs 182 (enters_of func182 (by kernel_rfl) u) (fun w x y n hn => ?_) hO hF.1.1 hm
 · change Calls prog 181 _ _ _ at h
   refine h.mono fun e w' h => ?_
   cases e with
   | returned v => obtain ⟨r', rfl, h1, h2, h3, h4⟩ := h; exact fun G k => k r' ⟨rfl, h1, h2, ⟨h3, h4.symm⟩, trivial⟩
   | panicked ch => exact h
   | outgrown => exact h
 · refine ((zKJ (qd := True) (y0 := x) (y1 := y)).go [] w n hn (wA.start (by simp)) trivial).mono fun e w' h => ?_
   cases e with
   | returned v => exact h _ fun ⟨e1, q⟩ => ⟨e1, q.e⟩
   | panicked ch => exact h
   | outgrown => exact h⟩
theorem zKu {qd : Prop} {y0 : List zM} : qG qd prog 114 [sv p1 y0 c1] [] [Rl vA p1 c1 y0] (zEa y0) fun r K=>∀ p2 c2 r_1,K (sv p2 r c2) [r_1] [Al vA 30 r_1 p2 c2 r] :=
 qB call114 func114 u fun X=>jA 1 u<|zB<|zA 1 u<|qH zHj u (cq [0])<|fun r1 _ k p2 c2 r_1=>k<|zA 1 u<|zC<|zB<|zA 1 u<|qF .s [0] [] zEs u u u (cq [0])<|fun r2 _ k r_2=>k<|zC<|zB<|
  zA 1 u<|jrE 0 8 u u<|qF .s [0] [] zKE u u u (cq [0])<|fun r3 _ k p3 c3 r_3=>k<|zA 1 u<|zC<|zJ<|zP u u (fun _ k=>k p3 c3 r_3) [1] (gq [0])
theorem zHh {qd : Prop} {y0 : List zL} {y1 : List Int} : qG qd prog 64 [sv p1 y0 c1, sv p2 y1 c2] [] [Rl wR p1 c1 y0, Rl (zF .i64) p2 c2 y1] (zB0 y0 y1) fun r K=>∀ p3 c3,K (sv p3 r c3) [] [Rl vA p3 c3 r] :=
 qB call64 func64 u fun X=>jA 1 u<|zB<|zA 1 u<|vK vA 30<|zC<|jjn (fun s1 K=>∀ p3 c3 r_1,K [(5, sv p3 s1 c3)] [r_1] [Al vA 30 r_1 p3 c3 s1]) (jA 3 u<|zO<|
  qO (fun s2 K=>∀ p4 c4 r_2,K [0,8,9] [(0, r_2)] [1,2] [(5, sv p4 s2.1 c4), (10, vi s2.2)] [Al vA 30 r_2 p4 c4 s2.1]) (gv (fun _ k=>k none 0 []) [0] (gq [0,1,2]))<|fun s2 _ k p4 c4 r_2=>k<|jA 1 u<|zD<|zH u (jC<|zD<|zO<|zB<|
  qW 2 u u u<|fun x1 b1 o1=>qV false oI (gk 0) u<|zA 1 u<|zC<|zB<|zA 2 u<|qH zHs u (cq [2])<|fun r1 _ k=>k<|zC<|zH u (qJ<|zA 3 u<|qW 2 u u u<|fun x2 b2 o2=>zS 3 u<|
  qV true yW (gs (gs (gs (gk 0)))) u<|vC .s (e := vA) 30 [vb x2.2.2.2.1, vs x2.2.2.2.2] ([x2.2.2.2] : List zM) (rC (vP vB vS) rN)<|fun p5 c5=>wP .s 0 3 u (gk 0) u u<|fun x3 r_3 p6 c6=>zA 1 u<|zU<|qC<|zN<|
  jB 2 u<|qD (gv (fun _ k=>k p6 c6 r_3) [0] (gq [0,5,6])))<|wC<|qC<|zN<|jB 2 u<|qD (gv (fun _ k=>k p4 c4 r_2) [0] (gq [1,2,3])))<|qM<|qK<|qP<|qL<|zK (gv (fun _ k=>k p4 c4 r_2) [0] (gq [0])))<|fun s1 _ k p3 c3 r_1=>k<|zB<|
  zA 1 u<|wX 0 0 u u<|qH zKu u (cq [0])<|fun r2 _ k p7 c7 r_4=>k<|zA 1 u<|zC<|zJ<|wX 1 0 u u<|zP u u (fun _ k=>k p7 c7) [] (gq [0])
theorem zMG {qd : Prop} {y0 : zM} : qG qd prog 219 [.agg #[vb y0.1, vs y0.2]] [] [] (zGL y0) fun r K=>K (.agg #[vb r.1, vs r.2]) [] [] :=
 qB call219 func219 u fun X=>zB<|qU .s u<|fun b1=>wM .s (.agg #[vb false, vs []])<|fun b2=>zC<|zB<|zS 0 u<|zT 0 u u u<|zA 1 u<|zS 0 u<|qS .s 0 u u u<|zC<|zB<|qR 0 2 u u u<|qS .s 1 u u u<|zC<|zJ<|
  wZ u (lC 1 (.agg #[vb (!y0.1), vs y0.2]) u u lN) (fun _ k=>k) [] ⟨⟩
theorem zQE {qd : Prop} {y0 : zR} {y1 : List zL} {y2 : Int} {y3 : Int} : qG qd prog 168 [.agg #[sv p1 y0.1 c1, sv p2 y0.2.1 c2, sv p3 y0.2.2 c3], sv p4 y1 c4, vi y2, vi y3] [] [Rl wN p1 c1 y0.1, Rl wJ p2 c2 y0.2.1, Rl wQ p3 c3 y0.2.2, Rl wR p4 c4 y1] (zIG y0 y1 y2 y3) fun r K=>∀ p5 c5,K (sv p5 r c5) [] [Rl (zF .i64) p5 c5 r] :=
 qB call168 func168 u fun X=>zB<|qU .s u<|fun b1=>zA 1 u<|zC<|zB<|zA 1 u<|vK (zF .i64) 3<|zC<|
  wF (fun s1 K=>∀ b2 b3 p5 c5,K [4,9] [(2, bx b2 30 [vb s1.1.1, vs s1.1.2]), (3, bx b3 94 [vi s1.2.1, vi s1.2.2.1, sv p5 s1.2.2.2.1 c5, vb s1.2.2.2.2.1, vs s1.2.2.2.2.2])] [0,1,2,3] [(10, pt b2 0), (11, pt b3 0)] [Rl (zF .i64) p5 c5 s1.2.2.2.1]) (
  yU [] [] 13<|zV 11 [0,1] u<|vO 2 4 u u u u<|fun x1 b4 o1=>qN 3 3 u u<|vN 4 true yW u (gs (gs (gs (gk 0)))) u<|zV 6 [5,6] u<|vO 7 5 u u u u<|fun x2 b5 o2=>vN 8 true zQ7 u (gk 0) u<|
  fun p6 c6=>xU 9 10 (wM (.f u) (.agg #[vb false, vs []])<|fun b6=>zY<|qE 10<|wM (.f u) (.agg #[vi 0, vi 0, .slice none 0 0, vb false, vs []])<|fun b7=>zY<|qE 11<|qS (o := 0) (.f u) 2 u u u<|zY<|qE 12<|
  qS (o := 0) (.f u) 3 u u u<|zY<|qQ<|zK (gv (fun _ k=>k b6 b7 p6 c6) [0,1,2,3] (gq [0,3,4,5,6]))) <|wM (.f u) (.agg #[vi 0, vi 0, .slice none 0 0, vb false, vs []])<|fun b8=>zY<|qE 9<|wM (.f u) (.agg #[vb false, vs []])<|
  fun b9=>zY<|qE 11<|qS (o := 0) (.f u) 3 u u u<|zY<|qE 12<|qS (o := 0) (.f u) 2 u u u<|zY<|qQ<|zK (gv (fun _ k=>k b9 b8 p6 c6) [0,1,3,2] (gq [0,3,4,5,6])))<|fun s1 _ k b2 b3 p5 c5=>k<|yM [] [2, 3] 6<|
  vQ 0 2 2 u u u u<|qN 1 3 u u<|vQ 2 3 2 u u u u<|qE 3<|qF (.f u) [] [] zMG u u u ⟨⟩<|fun r1 _ k=>k<|zY<|wB 4 (vb (s1.1 == r1)) u<|zV 0 [5] u<|qQ<|zN<|zD<|zO<|zB<|zS 0 u<|
  zT 3 u u u<|zA 2 u<|zC<|zH u (wF (fun s2 K=>K [9] [(0, []), (2, []), (3, [])] [1] [(41, vb s2)] []) (qJ<|zA 2 u<|wG 32 u (zS 0 u<|zT 0 u u u<|zS 0 u<|zT 3 u u u<|qW 2 u u u<|fun x3 b10 o3=>
  zS 2 u<|qV false oI (gf (gs (gk 0))) u<|zA 1 u<|zI (vb (x3.2.1 != 1))<|zU<|zK (gv (fun _ k=>k) [900,1,902,903] (gq [2])))<|zA 8 u<|zI (vb false)<|zU<|zK (gv (fun _ k=>k) [900,1,902,903] (gq [1])))<|fun s2 _ k=>k<|zH u (
  qJ<|zA 1 u<|vC .s (e := zF .i64) 3 [vi 1] ([1] : List Int) (rC vI rN)<|fun p7 c7=>wP .s 1 1 u (gk 0) u u<|fun x4 r_1 p8 c8=>zA 1 u<|zU<|qC<|zN<|jA 2 u<|zJ<|wX 1 0 u u<|zP u u (fun _ k=>k p8 c8) [] (gq [0])
  )<|wC<|qC<|zN<|jA 2 u<|zJ<|wX 1 0 u u<|zP u u (fun _ k=>k none 0) [] (gq [0]))<|zB<|zS 1 u<|zT 0 u u u<|zS 1 u<|zT 3 u u u<|qW 3 u u u<|fun x5 b11 o4=>zS 1 u<|
  qV false oB (gf (gs (gk 0))) u<|zA 2 u<|zC<|zH u (wF (fun s3 K=>∀ p9 c9 r_2,K [4,10,11] [(1, r_2)] [3,4,5,1] [(9, sv p9 s3 c9)] [Al (zF .i64) 3 r_2 p9 c9 s3]) (jA 1 u<|zH u (qJ<|zA 1 u<|
  vC .s (e := zF .i64) 3 [vi 2] ([2] : List Int) (rC vI rN)<|fun p10 c10=>wP .s 1 3 u (gk 0) u u<|fun x6 r_3 p11 c11=>zA 1 u<|zU<|zK (gv (fun _ k=>k p11 c11 r_3) [0,1,2,3] (gq [0,5,6,7,3])))<|wC<|
  zK (gv (fun _ k=>k none 0 []) [0,1,2,3] (gq [2,3,4,5,1])))<|fun s3 _ k p9 c9 r_2=>k<|wF (fun s4 K=>K [9] [(0, []), (2, []), (3, [])] [0] [(71, vb s4)] []) (yU [] [0, 2, 3] 14<|qN 0 0 u u<|qY 1 2 u u u u<|zV 11 [2] u<|
  wG 60 u (qN 3 1 u u<|qY 4 2 u u u u<|qN 5 1 u u<|qY 6 0 u u u u<|qN 7 1 u u<|qY 8 3 u u u u<|vO 9 2 u u u u<|fun x7 b12 o5=>qN 10 0 u u<|vN 11 false oS u (gf (gk 0)) u<|
  zV 1 [12] u<|wB 13 (vb (s1.1.2 == x7.1)) u<|qQ<|zK (gv (fun _ k=>k) [900,1,902,903] (gq [1])))<|zV 1 [3,4,5,6,7,8,9,10,11,12] u<|wB 13 (vb false) u<|qQ<|zK (gv (fun _ k=>k) [900,1,902,903] (gq [0])))<|fun s4 _ k=>k<|
  zH u (qJ<|zA 1 u<|vC .s (e := zF .i64) 3 [vi 3] ([3] : List Int) (rC vI rN)<|fun p12 c12=>wP .s 1 1 u (gk 0) u u<|fun x8 r_4 p13 c13=>zA 1 u<|zU<|qC<|zN<|jA 2 u<|zJ<|wX 1 0 u u<|
  zP u u (fun _ k=>k p13 c13) [] (gq [0]))<|wC<|qC<|zN<|jA 2 u<|zJ<|wX 1 0 u u<|zP u u (fun _ k=>k p9 c9) [] (gq [0]))<|wC<|qC<|zN<|jA 2 u<|zJ<|wX 1 2 u u<|zP u u (fun _ k=>k none 0) [] (gq [0])
theorem zLi {qd : Prop} {y0 : Int} : qG qd prog 156 [vi y0] [] [] (zFf y0) fun r K=>K (vb r) [] [] :=
 qB call156 func156 u fun X=>jA 1 u<|jA 4 u<|zJ<|zP u u (fun _ k=>k) [] ⟨⟩
theorem zAp {qd : Prop} {y0 : Int} {y1 : Int} : qG qd prog 101 [vi y0, vi y1] [] [] (zAR y0 y1) fun r K=>K (vi r) [] [] :=
 qB call101 func101 u fun X=>jA 1 u<|zB<|zA 1 u<|qH zLi u ⟨⟩<|fun r1 _ k=>k<|zA 1 u<|zC<|zB<|zA 1 u<|qH zLi u ⟨⟩<|fun r2 _ k=>k<|zA 1 u<|zC<|zD<|jA 1 u<|zH u (zD<|jA 1 u<|zH u (jA 1 u<|zJ<|qA<|qA<|
  zP u u (fun _ k=>k) [] ⟨⟩)<|jC<|jA 1 u<|zJ<|qA<|zP u u (fun _ k=>k) [] ⟨⟩)<|jC<|zD<|jA 1 u<|zH u (jA 1 u<|zJ<|qA<|zP u u (fun _ k=>k) [] ⟨⟩)<|jC<|zD<|jA 3 u<|zH u (jA 1 u<|zJ<|qA<|
  zP u u (fun _ k=>k) [] ⟨⟩)<|jC<|zD<|jA 3 u<|zH u (jA 1 u<|zJ<|qA<|zP u u (fun _ k=>k) [] ⟨⟩)<|jC<|jA 1 u<|zJ<|zP u u (fun _ k=>k) [] ⟨⟩
theorem zLS {qd : Prop} {y0 : List Int} : qG qd prog 107 [sv p1 y0 c1] [] [Rl (zF .i64) p1 c1 y0] (zFl y0) fun r K=>K (vi r) [] [] :=
 qB call107 func107 u fun X=>jA 1 u<|jA 1 u<|zD<|jA 3 u<|zO<|qO (fun s1 K=>K [3,6,7] [] [0] [(8, vi s1)] []) (gv (fun _ k=>k) [] (gq [0]))<|fun s1 _ k=>k<|jA 1 u<|zD<|zH u (jC<|zD<|zO<|zB<|qW 0 u u u<|fun x1 b1 o1=>qV false oI (gk 0) u<|
  zA 1 u<|zC<|jA 3 u<|zH u (jA 2 u<|zJ<|qT<|qA<|wY<|qT<|qA<|zP u u (fun _ k=>k) [] ⟨⟩)<|wC<|qC<|zN<|jB 2 u<|qD (gv (fun _ k=>k) [] (gq [1])))<|qM<|qK<|qP<|qL<|zN<|jA 2 u<|zJ<|zP u u (fun _ k=>k) [] ⟨⟩
theorem zN1 {qd : Prop} {y0 : qZ} {y1 : qZ} : qG qd prog 171 [.agg #[vi y0.1, vi y0.2.1, vi y0.2.2.1, vi y0.2.2.2], .agg #[vi y1.1, vi y1.2.1, vi y1.2.2.1, vi y1.2.2.2]] [] [] (zBn y0 y1) fun r K=>K (vi r) [] [] :=
 qB call171 func171 u fun X=>zB<|qU .s u<|fun b1=>qU .s u<|fun b2=>zA 1 u<|zC<|yM [] [0, 1] 23<|qN 0 0 u u<|qY 1 0 u u u u<|qN 2 0 u u<|qY 3 1 u u u u<|qN 5 1 u u<|qY 6 0 u u u u<|qN 7 1 u u<|
  qY 8 1 u u u u<|qN 10 2 u u<|qY 11 0 u u u u<|qN 12 2 u u<|qY 13 1 u u u u<|qN 15 3 u u<|qY 16 0 u u u u<|qN 17 3 u u<|qY 18 1 u u u u<|qE 4<|
  qF (.f u) [] [] zAp u u u ⟨⟩<|fun r1 _ k=>k<|zY<|qE 9<|qF (.f u) [] [] zAp u u u ⟨⟩<|fun r2 _ k=>k<|zY<|qE 14<|qF (.f u) [] [] zAp u u u ⟨⟩<|fun r3 _ k=>k<|zY<|
  qE 19<|qF (.f u) [] [] zAp u u u ⟨⟩<|fun r4 _ k=>k<|zY<|qE 20<|vC (.f u) (e := zF .i64) 3 [vi r1, vi r2, vi r3, vi r4] ([r1, r2, r3, r4] : List Int) (rC vI (rC vI (rC vI (rC vI rN))))<|fun p1 c1=>zY<|qE 21<|
  qF (.f u) [] [] zLS u u u (cq [0])<|fun r5 _ k=>k<|zY<|zV 0 [22] u<|qQ<|zN<|zJ<|zP u u (fun _ k=>k) [] ⟨⟩
theorem zE5 {qd : Prop} {y0 : List qZ} : qG qd prog 170 [sv p1 y0 c1, .func (.func 171) #[] #[]] [r_1] [Al uN 123 r_1 p1 c1 y0] (zAa y0) fun r K=>∀ r_2,K (.tuple #[]) [r_2] [Ar uN 123 r_2 p1 c1 (List.length y0) r] := ⟨call170, fun A w0 r hm hO hF => by
 have h := zPg (qd := qd) Go.Proofs.Tryz.sort170 (uD.prod (uD.int .i64) (uD.prod (uD.int .i64) (uD.prod (uD.int .i64) (uD.int .i64)))) (te := 123) Tryz.isAgg123 Tryz.sizeOf123 zBn 171 (enters_of func171 (by kernel_rfl) u) (fun w x y n hn => ?_) hO hF.1.1 hm
 · change Calls prog 170 _ _ _ at h
   refine h.mono fun e w' h => ?_
   cases e with
   | returned v => obtain ⟨r', rfl, h1, h2, h3, h4⟩ := h; exact fun G k => k r' ⟨rfl, h1, h2, ⟨h3, h4.symm⟩, trivial⟩
   | panicked ch => exact h
   | outgrown => exact h
 · refine ((zN1 (qd := True) (y0 := x) (y1 := y)).go [] w n hn (wA.start (by simp)) trivial).mono fun e w' h => ?_
   cases e with
   | returned v => exact h _ fun ⟨e1, q⟩ => ⟨e1, q.e⟩
   | panicked ch => exact h
   | outgrown => exact h⟩
theorem zOb {qd : Prop} {y0 : zR} {y1 : List zL} : qG qd prog 110 [.agg #[sv p1 y0.1 c1, sv p2 y0.2.1 c2, sv p3 y0.2.2 c3], sv p4 y1 c4] [] [Rl wN p1 c1 y0.1, Rl wJ p2 c2 y0.2.1, Rl wQ p3 c3 y0.2.2, Rl wR p4 c4 y1] (zG3 y0 y1) fun r K=>∀ p5 c5 r_1,K (sv p5 r c5) [r_1] [Al uN 123 r_1 p5 c5 r] :=
 qB call110 func110 u fun X=>zB<|qU .s u<|fun b1=>zA 1 u<|zC<|zB<|zA 1 u<|vK uN 123<|zC<|jjn (fun s1 K=>∀ p5 c5 r_1,K [(5, sv p5 s1 c5)] [[], r_1] [Al uN 123 r_1 p5 c5 s1]) (jA 3 u<|zO<|
  qO (fun s2 K=>∀ p6 c6 r_2,K [1,2,13] [(1, r_2)] [4,1,2,3] [(5, sv p6 s2.1 c6), (14, vi s2.2)] [Al uN 123 r_2 p6 c6 s2.1]) (gv (fun _ k=>k none 0 []) [0,1] (gq [0,4,1,2,3]))<|fun s2 _ k p6 c6 r_2=>k<|jA 1 u<|zD<|zH u (jC<|zD<|
  zO<|jA 2 u<|jA 3 u<|zO<|qO (fun s3 K=>∀ p7 c7 r_3,K [1,2,6,13,14,18] [(1, r_3)] [1,2,3,4] [(5, sv p7 s3.1 c7), (19, vi s3.2)] [Al uN 123 r_3 p7 c7 s3.1]) (gv (fun _ k=>k p6 c6 r_2) [0,1] (gq [0,1,2,3,4]))<|
  fun s3 _ k p7 c7 r_3=>k<|jA 1 u<|zD<|zH u (jC<|zD<|zO<|jA 2 u<|zB<|qR 0 3 u u u<|zA 3 u<|qH zQE u (cq [2,3,4,1])<|fun r1 _ k p8 c8=>k<|zA 1 u<|zC<|zD<|jA 3 u<|zH u (qM<|qK<|qL<|zN<|jB 2 u<|
  qD (gv (fun _ k=>k p7 c7 r_3) [0,1] (gq [1,2,3,4,5])))<|jC<|jA 3 u<|zO<|
  qO (fun s4 K=>∀ p9 c9 r_4,K [1,2,6,7,8,13,14,18,19,31] [(1, r_4)] [2,0,3,4,5] [(5, sv p9 s4.1 c9), (32, vi s4.2)] [Al uN 123 r_4 p9 c9 s4.1]) (gv (fun _ k=>k p7 c7 r_3) [0,1] (gq [1,2,0,3,4,5]))<|fun s4 _ k p9 c9 r_4=>k<|jA 1 u<|
  zD<|zH u (jC<|zD<|zO<|jA 2 u<|zD<|zB<|zA 2 u<|qH zIy rfl (cq [1])<|fun r2 _ k p10 c10=>k<|zA 1 u<|qH zF6 u (cq [0])<|fun r3 _ k=>k<|zA 1 u<|zC<|zH u (qM<|qK<|qL<|zN<|jB 2 u<|
  qD (gv (fun _ k=>k p9 c9 r_4) [0,1] (gq [1,2,3,4,5,6])))<|jC<|jA 3 u<|zO<|
  qO (fun s5 K=>∀ p11 c11 r_5,K [1,2,6,7,8,9,13,14,18,19,31,32,41,42] [(1, r_5)] [2,3,4,5,6] [(5, sv p11 s5.1 c11), (43, vi s5.2)] [Al uN 123 r_5 p11 c11 s5.1]) (gv (fun _ k=>k p9 c9 r_4) [0,1] (gq [1,2,3,4,5,6]))<|
  fun s5 _ k p11 c11 r_5=>k<|jA 1 u<|zD<|zH u (jC<|zD<|zO<|zB<|qW 2 u u u<|fun x1 b2 o1=>qV false oI (gk 0) u<|zA 1 u<|zC<|qJ<|zA 5 u<|zI (.agg #[vi s3.2, vi s4.2, vi s2.2, vi x1])<|
  vC .s (e := uN) 123 [vi s3.2, vi s4.2, vi s2.2, vi x1] ([(s3.2, s4.2, s2.2, x1)] : List qZ) (rC (vP vI (vP vI (vP vI vI))) rN)<|fun p12 c12=>wP .s 1 2 u (gk 0) u u<|fun x2 r_6 p13 c13=>zA 1 u<|zU<|qC<|zN<|
  jB 2 u<|qD (gv (fun _ k=>k p13 c13 r_6) [0,1] (gq [0,4,5,6,7,8])))<|qM<|qK<|qP<|qL<|qC<|zN<|jB 2 u<|qD (gv (fun _ k=>k p11 c11 r_5) [0,1] (gq [0,1,2,3,4,5])))<|qM<|qK<|qP<|qL<|qC<|zN<|jB 2 u<|
  qD (gv (fun _ k=>k p9 c9 r_4) [0,1] (gq [0,1,3,4,5])))<|qM<|qK<|qP<|qL<|qC<|zN<|jB 2 u<|qD (gv (fun _ k=>k p7 c7 r_3) [0,1] (gq [0,1,2,3,4])))<|qM<|qK<|qP<|qL<|zK (gv (fun _ k=>k p6 c6 r_2) [900,1] (gq [0])))<|
  fun s1 _ k p5 c5 r_1=>k<|zB<|zA 1 u<|qF .s [1] [] zE5 u u u (cq [0])<|fun r4 _ k r_7=>k<|zC<|jA 2 u<|zJ<|jrE 0 4 u u<|zP u u (fun _ k=>k p5 c5 r_7) [1] (gq [0])
theorem zJL {qd : Prop} {y0 : List zL} {y1 : Int} : qG qd prog 223 [sv p1 y0 c1, vi y1] [] [Rl wR p1 c1 y0] (zCX y0 y1) fun r K=>∀ p2 c2,K (sv p2 r c2) [] [Rl (zF .i64) p2 c2 r] :=
 qB call223 func223 u fun X=>jA 1 u<|zB<|zA 1 u<|vK (zF .i64) 3<|zC<|jjn (fun s1 K=>∀ p2 c2 r_1,K [(5, sv p2 s1 c2)] [r_1] [Al (zF .i64) 3 r_1 p2 c2 s1]) (zB<|zA 2 u<|qH zIy rfl (cq [1])<|fun r1 _ k p3 c3=>k<|zA 2 u<|zC<|zO<|
  qO (fun s2 K=>∀ p4 c4 r_2,K [0,10,11] [(0, r_2)] [2,0] [(5, sv p4 s2.1 c4), (12, vi s2.2)] [Al (zF .i64) 3 r_2 p4 c4 s2.1]) (gv (fun _ k=>k none 0 []) [0] (gq [1,2,0]))<|fun s2 _ k p4 c4 r_2=>k<|jA 1 u<|zD<|zH u (jC<|zD<|zO<|
  zB<|qW 2 u u u<|fun x1 b1 o1=>qV false oI (gk 0) u<|zA 1 u<|zC<|zB<|zA 2 u<|qW 2 u u u<|fun x2 b2 o2=>zS 0 u<|qV false oI (gf (gk 0)) u<|zA 1 u<|zC<|zH u (qJ<|zA 3 u<|qW 3 u u u<|
  fun x3 b3 o3=>zS 0 u<|qV false oI (gf (gk 0)) u<|vC .s (e := zF .i64) 3 [vi x3.1] ([x3.1] : List Int) (rC vI rN)<|fun p5 c5=>wP .s 0 4 u (gk 0) u u<|fun x4 r_3 p6 c6=>zA 1 u<|zU<|qC<|zN<|jB 2 u<|
  qD (gv (fun _ k=>k p6 c6 r_3) [0] (gq [0,6,7])))<|wC<|qC<|zN<|jB 2 u<|qD (gv (fun _ k=>k p4 c4 r_2) [0] (gq [2,3,4])))<|qM<|qK<|qP<|qL<|zK (gv (fun _ k=>k p4 c4 r_2) [0] (gq [0])))<|fun s1 _ k p2 c2 r_1=>k<|zB<|zA 1 u<|
  qF .s [0] [] zFu u u u (cq [0])<|fun r2 _ k r_4=>k<|zC<|jA 2 u<|zJ<|wX 0 0 u u<|jre 0 4 u u<|zP u u (fun _ k=>k p2 c2) [] (gq [0])
theorem zOW {qd : Prop} {y0 : Int} {y1 : zR} : yR qd prog 224 [vi y0, pt b1 0] [bx b1 26 [sv p1 y1.1 c1, sv p2 y1.2.1 c2, sv p3 y1.2.2 c3]] [Rl wN p1 c1 y1.1, Rl wJ p2 c2 y1.2.1, Rl wQ p3 c3 y1.2.2] (zGb y0 y1) fun L r K=>K (vb r) L [] :=
 qB call224 func224 u fun X=>jA 1 u<|zB<|zS 0 u<|zT 0 u u u<|zA 1 u<|qW 0 u u u<|fun x1 b2 o1=>zS 2 u<|qV false oI (gf (gs (gk 0))) u<|zA 2 u<|zC<|zJ<|zP u u (fun _ k=>k) [0] ⟨⟩
theorem zFz {qd : Prop} {y0 : List Int} {y1 : zR} : yR qd prog 93 [sv p1 y0 c1, .func (.func 224) #[] #[pt b1 0]] [bx b1 26 [sv p2 y1.1 c2, sv p3 y1.2.1 c3, sv p4 y1.2.2 c4]] [Rl (zF .i64) p1 c1 y0, Rl wN p2 c2 y1.1, Rl wJ p3 c3 y1.2.1, Rl wQ p4 c4 y1.2.2] (zAr y0 y1) fun L r K=>K (vi r) L [] :=
 qB call93 func93 u fun X=>jA 1 u<|zD<|jA 3 u<|zO<|qO (fun s1 K=>K [0,1,7] [] [0,1,2,3] [(8, vi s1)] []) (gv (fun _ k=>k) [0] (gq [0,1,2,3]))<|fun s1 _ k=>k<|jA 1 u<|zD<|zH u (jC<|zD<|zO<|jA 2 u<|zB<|zA 3 u<|qW 0 u u u<|fun x1 b2 o1=>
  qV false oI (gk 0) u<|qF .s [0] [] zOW u u u (cq [2,3,4])<|fun r1 _ k=>k<|zC<|zH u (jA 2 u<|zJ<|qT<|qA<|wY<|qT<|qA<|zP u u (fun _ k=>k) [0] ⟨⟩)<|wC<|qC<|zN<|jB 2 u<|
  qD (gv (fun _ k=>k) [0] (gq [1,2,3,4])))<|qM<|qK<|qP<|qL<|zN<|jA 1 u<|zJ<|zP u u (fun _ k=>k) [0] ⟨⟩
theorem zFG {qd : Prop} {y0 : List Int} {y1 : zR} : yR qd prog 163 [sv p1 y0 c1, .func (.func 224) #[] #[pt b1 0]] [bx b1 26 [sv p2 y1.1 c2, sv p3 y1.2.1 c3, sv p4 y1.2.2 c4]] [Rl (zF .i64) p1 c1 y0, Rl wN p2 c2 y1.1, Rl wJ p3 c3 y1.2.1, Rl wQ p4 c4 y1.2.2] (zAd y0 y1) fun L r K=>K (vb r) L [] :=
 qB call163 func163 u fun X=>jA 1 u<|zB<|zA 2 u<|qF .s [0] [] zFz u u u (cq [0,1,2,3])<|fun r1 _ k=>k<|zA 2 u<|zC<|zJ<|zP u u (fun _ k=>k) [0] ⟨⟩
theorem zQG {qd : Prop} {y0 : zR} {y1 : List zL} {y2 : Int} : qG qd prog 172 [.agg #[sv p1 y0.1 c1, sv p2 y0.2.1 c2, sv p3 y0.2.2 c3], sv p4 y1 c4, vi y2] [] [Rl wN p1 c1 y0.1, Rl wJ p2 c2 y0.2.1, Rl wQ p3 c3 y0.2.2, Rl wR p4 c4 y1] (zHv y0 y1 y2) fun r K=>K (vb r) [] [] :=
 qB call172 func172 u fun X=>zB<|qU .s u<|fun b1=>zA 1 u<|zC<|zB<|zA 2 u<|qH zJL u (cq [3])<|fun r1 _ k p5 c5=>k<|zA 1 u<|qF .s [0] [] zFG u u u (cq [0,1,2,3])<|fun r2 _ k=>k<|zA 1 u<|
  zC<|zJ<|zP u u (fun _ k=>k) [] ⟨⟩
theorem zM4 {qd : Prop} (k : Nat) :
    (∀ {y0 : zR} {p1 : Option Addr} {c1 : Nat} {p2 : Option Addr} {c2 : Nat} {p3 : Option Addr} {c3 : Nat} {y1 : List zL} {p4 : Option Addr} {c4 : Nat} {y2 : Int}, qG qd prog 228 [.agg #[sv p1 y0.1 c1, sv p2 y0.2.1 c2, sv p3 y0.2.2 c3], sv p4 y1 c4, vi y2] [] [Rl wN p1 c1 y0.1, Rl wJ p2 c2 y0.2.1, Rl wQ p3 c3 y0.2.2, Rl wR p4 c4 y1] (zC6 k y0 y1 y2) fun r K=>∀ p5 c5,K (sv p5 r c5) [] [Rl (zF .i64) p5 c5 r]) := by
  induction k with
  | zero => exact zYc call228
  | succ k ih =>
    have ih_argument_Last := @ih
    exact @fun y0 p1 c1 p2 c2 p3 c3 y1 p4 c4 y2=>qB (m1 := zHN (zC6 k) y0 y1 y2) call228 func228 u fun X=>zB<|qU .s u<|fun b1=>zA 1 u<|zC<|zD<|wF (fun s1 K=>K [1,2,3] [] [3,0,1,2] [(21, vb s1)] []) (qJ<|zA 2 u<|qH zHs u (cq [3])<|fun r1 _ k=>k<|zA 2 u<|wG 14 u (zA 6 u<|zI (vb true)<|zU<|
  zK (gv (fun _ k=>k) [0] (gq [3,0,1,2])))<|zA 2 u<|qW 3 u u u<|fun x1 b2 o1=>zS 1 u<|qV false oI (gf (gs (gk 0))) u<|zA 1 u<|zI (vb (decide (x1.2.1 < 0)))<|zU<|zK (gv (fun _ k=>k) [0] (gq [4,1,2,3])))<|fun s1 _ k=>k<|
  zH u (jA 1 u<|zJ<|qA<|zP u u (fun _ k=>k none 0) [] ⟨gn,⟨⟩⟩)<|jC<|zD<|yM [] [0] 11<|qN 0 1 u u<|qY 1 0 u u u u<|zV 7 [2,3] u<|vO 4 0 u u u u<|fun x2 b3 o2=>qN 5 1 u u<|
  vN 6 false oI u (gf (gs (gk 0))) u<|vO 7 3 u u u u<|fun x3 b4 o3=>qN 8 1 u u<|vN 9 false oB u (gf (gs (gk 0))) u<|zV 0 [10] u<|qQ<|zN<|zH u (zB<|zA 2 u<|qW 2 u u u<|fun x4 b5 o4=>zS 1 u<|
  qV false oI (gf (gs (gk 0))) u<|vC .s (e := zF .i64) 3 [vi x4.2.1] ([x4.2.1] : List Int) (rC vI rN)<|fun p5 c5=>zA 1 u<|zC<|zJ<|qA<|zP u u (fun _ k=>k p5 c5) [] (gq [0]))<|jC<|zB<|zA 1 u<|vK (zF .i64) 3<|zC<|
  jjn (fun s2 K=>∀ p6 c6 r_1,K [(7, sv p6 s2 c6)] [[], r_1] [Al (zF .i64) 3 r_1 p6 c6 s2]) (zB<|zA 2 u<|qW 3 u u u<|fun x5 b6 o5=>zS 2 u<|qV false oL (gf (gs (gs (gk 0)))) u<|fun p7 c7=>zA 2 u<|zC<|zO<|
  qO (fun s3 K=>∀ p8 c8 r_2,K [1,3,43,44] [(1, r_2)] [5,0,6,7,8] [(7, sv p8 s3.1 c8), (45, vi s3.2)] [Al (zF .i64) 3 r_2 p8 c8 s3.1]) (gv (fun _ k=>k none 0 []) [0,1] (gq [2,5,0,6,7,8]))<|fun s3 _ k p8 c8 r_2=>k<|jA 1 u<|zD<|zH u (
  jC<|zD<|zO<|zB<|qW 2 u u u<|fun x6 b7 o6=>qV false oI (gk 0) u<|zA 1 u<|zC<|qJ<|zA 1 u<|qR 0 3 u u u<|zA 2 u<|qH ih_argument_Last u (cq [4,5,6,2])<|fun r2 _ k p9 c9=>k<|wP .s 1 2 u (gk 0) u u<|
  fun x7 r_3 p10 c10=>zA 1 u<|zU<|qC<|zN<|jB 2 u<|qD (gv (fun _ k=>k p10 c10 r_3) [0,1] (gq [0,4,5,6,7,8])))<|qM<|qK<|qP<|qL<|zK (gv (fun _ k=>k p8 c8 r_2) [900,1] (gq [0])))<|fun s2 _ k p6 c6 r_1=>k<|zB<|zA 1 u<|
  qF .s [1] [] zFu u u u (cq [0])<|fun r3 _ k r_4=>k<|zC<|zB<|zA 1 u<|jrE 0 58 u u<|qF .s [1] [] zGP u u u (cq [0])<|fun r4 _ k p11 c11=>k<|zA 1 u<|zC<|zJ<|
  zP u u (fun _ k=>k p11 c11) [] (gq [0])
theorem zPA {qd : Prop} {y0 : zR} {y1 : List zL} {y2 : Int} : qG qd prog 228 [.agg #[sv p1 y0.1 c1, sv p2 y0.2.1 c2, sv p3 y0.2.2 c3], sv p4 y1 c4, vi y2] [] [Rl wN p1 c1 y0.1, Rl wJ p2 c2 y0.2.1, Rl wQ p3 c3 y0.2.2, Rl wR p4 c4 y1] (zJF y0 y1 y2) fun r K=>∀ p5 c5,K (sv p5 r c5) [] [Rl (zF .i64) p5 c5 r] := zOJ fun k => (zM4 k)
theorem zOD {qd : Prop} {y0 : zR} {y1 : List Int} : qG qd prog 227 [.agg #[sv p1 y0.1 c1, sv p2 y0.2.1 c2, sv p3 y0.2.2 c3], sv p4 y1 c4] [] [Rl wN p1 c1 y0.1, Rl wJ p2 c2 y0.2.1, Rl wQ p3 c3 y0.2.2, Rl (zF .i64) p4 c4 y1] (zJf y0 y1) fun r K=>∀ p5 c5,K (sv p5 r c5) [] [Rl (zF .i64) p5 c5 r] :=
 qB call227 func227 u fun X=>zB<|qU .s u<|fun b1=>zA 1 u<|zC<|zB<|zA 1 u<|vK (zF .i64) 3<|zC<|zD<|jA 3 u<|zO<|
  qO (fun s1 K=>∀ p5 c5 r_1,K [2,8,9] [(1, r_1)] [4,1,2,3] [(5, sv p5 s1.1 c5), (10, vi s1.2)] [Al (zF .i64) 3 r_1 p5 c5 s1.1]) (gv (fun _ k=>k none 0 []) [0,1] (gq [0,4,1,2,3]))<|fun s1 _ k p5 c5 r_1=>k<|jA 1 u<|zD<|zH u (jC<|zD<|
  zO<|zB<|qW 1 u u u<|fun x1 b2 o1=>qV false oI (gk 0) u<|zA 1 u<|zC<|qJ<|zA 1 u<|zS 1 u<|zT 0 u u u<|zA 1 u<|qW 4 u u u<|fun x2 b3 o2=>zS 2 u<|qV false oI (gf (gs (gs (gk 0)))) u<|
  vC .s (e := zF .i64) 3 [vi x2.2.2.1] ([x2.2.2.1] : List Int) (rC vI rN)<|fun p6 c6=>wP .s 1 3 u (gk 0) u u<|fun x3 r_2 p7 c7=>zA 1 u<|zU<|qC<|zN<|jB 2 u<|qD (gv (fun _ k=>k p7 c7 r_2) [0,1] (gq [0,5,6,7,8])))<|qM<|qK<|
  qP<|qL<|zN<|jA 2 u<|zJ<|wX 1 0 u u<|zP u u (fun _ k=>k p5 c5) [] (gq [0])
theorem zG2 {qd : Prop} {y0 : zR} {y1 : List zL} {y2 : Int} : qG qd prog 177 [.agg #[sv p1 y0.1 c1, sv p2 y0.2.1 c2, sv p3 y0.2.2 c3], sv p4 y1 c4, vi y2] [] [Rl wN p1 c1 y0.1, Rl wJ p2 c2 y0.2.1, Rl wQ p3 c3 y0.2.2, Rl wR p4 c4 y1] (zBt y0 y1 y2) fun r K=>∀ p5 c5,K (sv p5 r c5) [] [Rl (zF .i64) p5 c5 r] :=
 qB call177 func177 u fun X=>zB<|qU .s u<|fun b1=>zA 1 u<|zC<|yM [] [0] 7<|vQ 0 0 3 u u u u<|vQ 1 0 3 u u u u<|zV 3 [2,3] u<|qE 4<|qF (.f u) [] [] zPA u u u (cq [0,1,2,3])<|fun r1 _ k p5 c5=>k<|zY<|qE 5<|
  qF (.f u) [] [] zOD u u u (cq [1,2,3,0])<|fun r2 _ k p6 c6=>k<|zY<|zV 0 [6] u<|qQ<|zN<|zJ<|zP u u (fun _ k=>k p6 c6) [] (gq [0])
theorem zLA {qd : Prop} {y0 : List Int} : qG qd prog 226 [sv p1 y0 c1] [] [Rl (zF .i64) p1 c1 y0] (zFB y0) fun r K=>K (vi r) [] [] :=
 qB call226 func226 u fun X=>jA 1 u<|wF (fun s1 K=>K [0] [] [0] [] []) (jA 3 u<|zH u (qJ<|jno)<|wC<|zK (gv (fun _ k=>k) [] (gq [0])))<|fun s1 _ k=>k<|zB<|zA 1 u<|qW 0 u u u<|fun x1 b1 o1=>qV false oI (gk 0) u<|zA 1 u<|zC<|zD<|jA 1 u<|
  zO<|qO (fun s2 K=>K [0] [] [1] [(3, vi s2.1), (4, vi s2.2)] []) (gv (fun _ k=>k) [] (gq [1]))<|fun s2 _ k=>k<|zD<|jA 4 u<|zH u (jC<|zD<|zO<|qJ<|zA 3 u<|qW 0 u u u<|fun x2 b2 o2=>qV false oI (gk 0) u<|zA 2 u<|
  zU<|qC<|zN<|jB 3 u<|qD (gv (fun _ k=>k) [] (gq [1])))<|qM<|qK<|qP<|qL<|zN<|jA 2 u<|zJ<|zP u u (fun _ k=>k) [] ⟨⟩
theorem zLB {qd : Prop} {y0 : List Int} : qG qd prog 225 [sv p1 y0 c1] [] [Rl (zF .i64) p1 c1 y0] (zEu y0) fun r K=>K (vi r) [] [] :=
 qB call225 func225 u fun X=>jA 1 u<|wF (fun s1 K=>K [0] [] [0] [] []) (jA 3 u<|zH u (qJ<|jno)<|wC<|zK (gv (fun _ k=>k) [] (gq [0])))<|fun s1 _ k=>k<|zB<|zA 1 u<|qW 0 u u u<|fun x1 b1 o1=>qV false oI (gk 0) u<|zA 1 u<|zC<|zD<|jA 1 u<|
  zO<|qO (fun s2 K=>K [0] [] [1] [(3, vi s2.1), (4, vi s2.2)] []) (gv (fun _ k=>k) [] (gq [1]))<|fun s2 _ k=>k<|zD<|jA 4 u<|zH u (jC<|zD<|zO<|qJ<|zA 3 u<|qW 0 u u u<|fun x2 b2 o2=>qV false oI (gk 0) u<|zA 2 u<|
  zU<|qC<|zN<|jB 3 u<|qD (gv (fun _ k=>k) [] (gq [1])))<|qM<|qK<|qP<|qL<|zN<|jA 2 u<|zJ<|zP u u (fun _ k=>k) [] ⟨⟩
theorem zJq {qd : Prop} {y0 : List Int} {y1 : List Int} {y2 : Int} : qG qd prog 174 [sv p1 y0 c1, sv p2 y1 c2, vi y2] [] [Rl (zF .i64) p1 c1 y0, Rl (zF .i64) p2 c2 y1] (zFD y0 y1 y2) fun r K=>K (vb r) [] [] :=
 qB call174 func174 u fun X=>jA 1 u<|zD<|xH (fun K=>K [0,1,2] [] [0,1] [(17, vb (if y2 != 1 then (y2 != 2) || ((len y0) == 0) else (len y0) == 0))] []) (qJ<|zA 3 u<|yC (b := y2 != 1) 9 u (fun hb1=>zA 2 u<|zI (vb (y2 != 2))<|zA 1 u<|
  yC (b := y2 != 2) 13 u (fun hb2=>zA 3 u<|zI (vb true)<|zU<|wS 17 (vb (if y2 != 1 then (y2 != 2) || ((len y0) == 0) else (len y0) == 0)) u (by rw [hb1,hb2]; rfl)<|zK (gv (fun _ k=>k) [] (gq [0,1])))<|fun hb2=>zA 3 u<|
  zI (vb ((len y0) == 0))<|zU<|wS 17 (vb (if y2 != 1 then (y2 != 2) || ((len y0) == 0) else (len y0) == 0)) u (by rw [hb1,hb2]; rfl)<|zK (gv (fun _ k=>k) [] (gq [0,1])))<|fun hb1=>zA 2 u<|zI (vb false)<|zA 4 u<|
  zI (vb ((len y0) == 0))<|zU<|wS 17 (vb (if y2 != 1 then (y2 != 2) || ((len y0) == 0) else (len y0) == 0)) u (by rw [hb1]; rfl)<|zK (gv (fun _ k=>k) [] (gq [0,1])))<|fun _ k=>k<|zH u (jA 1 u<|zJ<|qA<|
  zP u u (fun _ k=>k) [] ⟨⟩)<|jC<|zD<|zO<|jA 4 u<|zH u (jA 1 u<|zJ<|qT<|qA<|zP u u (fun _ k=>k) [] ⟨⟩)<|jA 3 u<|zH u (zB<|zA 1 u<|qH zLB u (cq [0])<|fun r1 _ k=>k<|zA 1 u<|
  qH zLB u (cq [1])<|fun r2 _ k=>k<|zA 2 u<|zC<|zJ<|qT<|qA<|zP u u (fun _ k=>k) [] ⟨⟩)<|wC<|qC<|zN<|zB<|zA 1 u<|qH zLA u (cq [0])<|fun r3 _ k=>k<|zA 1 u<|
  qH zLA u (cq [1])<|fun r4 _ k=>k<|zA 2 u<|zC<|zJ<|zP u u (fun _ k=>k) [] ⟨⟩
theorem zI9 {qd : Prop} {y0 : zR} {y1 : List zL} {y2 : Int} {y3 : Int} {y4 : vF} : yR qd prog 173 [.func (.func 177) #[] #[], pt b1 0, pt b2 0, pt b3 0, pt b4 0, pt b5 0] [bx b1 26 [sv p1 y0.1 c1, sv p2 y0.2.1 c2, sv p3 y0.2.2 c3], bx b2 46 [sv p4 y1 c4], bx b3 3 [vi y2], bx b4 3 [vi y3], bx b5 28 [vi y4.1, vi y4.2]] [Rl wN p1 c1 y0.1, Rl wJ p2 c2 y0.2.1, Rl wQ p3 c3 y0.2.2, Rl wR p4 c4 y1] (zBC y0 y1 y2 y3 y4) fun L r K=>K (vb r) L [] :=
 qB call173 func173 u fun X=>jA 1 u<|yM [] [0, 1, 2, 3, 4] 14<|zV 13 [0] u<|vQ 1 0 3 u u u u<|qY 2 1 u u u u<|qY 3 2 u u u u<|zV 9 [5] u<|vQ 6 0 3 u u u u<|qY 7 1 u u u u<|qY 8 3 u u u u<|qN 10 1 u u<|
  qY 11 4 u u u u<|qE 4<|qF (.f u) [] [] zG2 u u u (cq [0,1,2,3])<|fun r1 _ k p5 c5=>k<|zY<|qE 9<|qF (.f u) [] [] zG2 u u u (cq [1,2,3,4])<|fun r2 _ k p6 c6=>k<|zY<|qE 12<|
  qF (.f u) [] [] zJq u u u (cq [1,0])<|fun r3 _ k=>k<|zY<|zV 0 [13] u<|qQ<|zN<|zJ<|zP u u (fun _ k=>k) [0,1,2,3,4] ⟨⟩
theorem zEJ {qd : Prop} {y0 : zR} {y1 : List zL} {y2 : Int} : qG qd prog 178 [.agg #[sv p1 y0.1 c1, sv p2 y0.2.1 c2, sv p3 y0.2.2 c3], sv p4 y1 c4, vi y2] [] [Rl wN p1 c1 y0.1, Rl wJ p2 c2 y0.2.1, Rl wQ p3 c3 y0.2.2, Rl wR p4 c4 y1] (zAl y0 y1 y2) fun r K=>∀ p5 c5,K (sv p5 r c5) [] [Rl (zF .i64) p5 c5 r] :=
 qB call178 func178 u fun X=>zB<|qU .s u<|fun b1=>zA 1 u<|zC<|zB<|zA 1 u<|vK (zF .i64) 3<|zC<|zD<|zB<|zA 2 u<|qH zJL u (cq [4])<|fun r1 _ k p5 c5=>k<|zA 2 u<|zC<|zO<|
  qO (fun s1 K=>∀ p6 c6 r_1,K [3,13,14] [(1, r_1)] [0,2,3,4] [(7, sv p6 s1.1 c6), (15, vi s1.2)] [Al (zF .i64) 3 r_1 p6 c6 s1.1]) (gv (fun _ k=>k none 0 []) [0,1] (gq [1,0,2,3,4]))<|fun s1 _ k p6 c6 r_1=>k<|jA 1 u<|zD<|zH u (jC<|
  zD<|zO<|zB<|qW 1 u u u<|fun x1 b2 o1=>qV false oI (gk 0) u<|zA 1 u<|zC<|zB<|zS 0 u<|zT 0 u u u<|zA 1 u<|qW 3 u u u<|fun x2 b3 o2=>qV true zIL (gk 0) u<|
  wM .s (.agg #[vb false, vs [], vi 0, vi 0, vs []])<|fun b4=>qS .s 2 u u u<|zC<|zB<|zS 2 u<|zT 2 u u u<|zC<|zO<|jA 2 u<|zH u (qJ<|zA 1 u<|zS 3 u<|zT 2 u u u<|
  vC .s (e := zF .i64) 3 [vi x2.2.2.1] ([x2.2.2.1] : List Int) (rC vI rN)<|fun p7 c7=>wP .s 1 3 u (gk 0) u u<|fun x3 r_2 p8 c8=>zA 1 u<|zU<|qC<|qC<|zN<|jB 2 u<|qD (gv (fun _ k=>k p8 c8 r_2) [0,1] (gq [0,5,6,7,8])))<|
  jA 2 u<|zH u (qJ<|zA 1 u<|vC .s (e := zF .i64) 3 [vi (-1)] ([(-1)] : List Int) (rC vI rN)<|fun p9 c9=>wP .s 1 3 u (gk 0) u u<|fun x4 r_3 p10 c10=>zA 1 u<|zU<|qC<|qC<|zN<|jB 2 u<|
  qD (gv (fun _ k=>k p10 c10 r_3) [0,1] (gq [0,5,6,7,8])))<|wC<|qC<|qC<|zN<|jB 2 u<|qD (gv (fun _ k=>k p6 c6 r_1) [0,1] (gq [2,3,4,5,6])))<|qM<|qK<|qP<|qL<|zN<|jA 2 u<|zJ<|wX 1 0 u u<|
  zP u u (fun _ k=>k p6 c6) [] (gq [0])
theorem zBS {qd : Prop} {y0 : zR} {y1 : List zL} {y2 : Int} {y3 : Int} {y4 : vF} : yR qd prog 173 [.func (.func 178) #[] #[], pt b1 0, pt b2 0, pt b3 0, pt b4 0, pt b5 0] [bx b1 26 [sv p1 y0.1 c1, sv p2 y0.2.1 c2, sv p3 y0.2.2 c3], bx b2 46 [sv p4 y1 c4], bx b3 3 [vi y2], bx b4 3 [vi y3], bx b5 28 [vi y4.1, vi y4.2]] [Rl wN p1 c1 y0.1, Rl wJ p2 c2 y0.2.1, Rl wQ p3 c3 y0.2.2, Rl wR p4 c4 y1] (zAI y0 y1 y2 y3 y4) fun L r K=>K (vb r) L [] :=
 qB call173 func173 u fun X=>jA 1 u<|yM [] [0, 1, 2, 3, 4] 14<|zV 13 [0] u<|vQ 1 0 3 u u u u<|qY 2 1 u u u u<|qY 3 2 u u u u<|zV 9 [5] u<|vQ 6 0 3 u u u u<|qY 7 1 u u u u<|qY 8 3 u u u u<|qN 10 1 u u<|
  qY 11 4 u u u u<|qE 4<|qF (.f u) [] [] zEJ u u u (cq [0,1,2,3])<|fun r1 _ k p5 c5=>k<|zY<|qE 9<|qF (.f u) [] [] zEJ u u u (cq [1,2,3,4])<|fun r2 _ k p6 c6=>k<|zY<|qE 12<|
  qF (.f u) [] [] zJq u u u (cq [1,0])<|fun r3 _ k=>k<|zY<|zV 0 [13] u<|qQ<|zN<|zJ<|zP u u (fun _ k=>k) [0,1,2,3,4] ⟨⟩
theorem zI4 {qd : Prop} {y0 : zR} {y1 : List zL} {y2 : Int} {y3 : Int} : yR qd prog 175 [.func (.func 177) #[] #[], pt b1 0, pt b2 0, pt b3 0, pt b4 0] [bx b1 26 [sv p1 y0.1 c1, sv p2 y0.2.1 c2, sv p3 y0.2.2 c3], bx b2 46 [sv p4 y1 c4], bx b3 3 [vi y2], bx b4 3 [vi y3]] [Rl wN p1 c1 y0.1, Rl wJ p2 c2 y0.2.1, Rl wQ p3 c3 y0.2.2, Rl wR p4 c4 y1] (zBB y0 y1 y2 y3) fun L r K=>K (vb r) L [] :=
 qB call175 func175 u fun X=>jA 1 u<|wF (fun s1 K=>K [] [] [0,1,2,3] [(6, vb s1)] []) (qJ<|zA 1 u<|qR 0 3 u u u<|zT 1 u u u<|zT 2 u u u<|qF .s [] [] zG2 u u u (cq [0,1,2,3])<|fun r1 _ k p5 c5=>k<|zA 3 u<|wG 14 u (
  zA 1 u<|qR 0 3 u u u<|zT 1 u u u<|zT 3 u u u<|qF .s [] [] zG2 u u u (cq [1,2,3,4])<|fun r2 _ k p6 c6=>k<|zA 2 u<|zI (vb ((len r2) == 0))<|zA 1 u<|zU<|
  zK (gv (fun _ k=>k) [0,1,2,3] (gq [2,3,4,5])))<|zA 7 u<|zI (vb false)<|zA 1 u<|zU<|zK (gv (fun _ k=>k) [0,1,2,3] (gq [1,2,3,4])))<|fun s1 _ k=>k<|zJ<|zP u u (fun _ k=>k) [0,1,2,3] ⟨⟩
theorem zJY {qd : Prop} {y1 : zR} {y2 : List zL} {y3 : Int} {y4 : Int} {y5 : vF} : yR qd prog 176 [pt b1 0, pt b7 0] [bx b1 194 [.func (.func 173) #[] #[pt b2 0, pt b3 0, pt b4 0, pt b5 0, pt b6 0]], bx b2 26 [sv p1 y1.1 c1, sv p2 y1.2.1 c2, sv p3 y1.2.2 c3], bx b3 46 [sv p4 y2 c4], bx b4 3 [vi y3], bx b5 3 [vi y4], bx b6 28 [vi y5.1, vi y5.2], bx b7 194 [.func (.func 175) #[] #[pt b2 0, pt b3 0, pt b4 0, pt b5 0]]] [Rl wN p1 c1 y1.1, Rl wJ p2 c2 y1.2.1, Rl wQ p3 c3 y1.2.2, Rl wR p4 c4 y2] (zCo y1 y2 y3 y4 y5) fun L r K=>K (vb r) L [] :=
 qB call176 func176 u fun X=>jA 1 u<|wF (fun s1 K=>K [] [] [0,1,2,3] [(2, vb s1)] []) (qJ<|zT 0 u u u<|qF .s [1, 2, 3, 4, 5] [] zI9 u u u (cq [0,1,2,3])<|fun r1 _ k=>k<|zA 1 u<|wG 5 u (zA 6 u<|zI (vb true)<|
  zA 1 u<|zU<|zK (gv (fun _ k=>k) [0,1,2,3,4,5,6] (gq [0,1,2,3])))<|zT 6 u u u<|qF .s [1, 2, 3, 4] [] zI4 u u u (cq [0,1,2,3])<|fun r2 _ k=>k<|zA 1 u<|wG 8 u (zT 0 u u u<|
  qF .s [1, 2, 3, 4, 5] [] zBS u u u (cq [0,1,2,3])<|fun r3 _ k=>k<|zI (vb r3)<|zI (vb r3)<|zA 1 u<|zU<|zK (gv (fun _ k=>k) [0,1,2,3,4,5,6] (gq [0,1,2,3])))<|zA 2 u<|zI (vb false)<|
  zI (vb false)<|zA 1 u<|zU<|zK (gv (fun _ k=>k) [0,1,2,3,4,5,6] (gq [0,1,2,3])))<|fun s1 _ k=>k<|zJ<|zP u u (fun _ k=>k) [0,1,2,3,4,5,6] ⟨⟩
theorem zG1 {qd : Prop} {y0 : zR} {y1 : List zL} {y2 : Int} : qG qd prog 180 [.agg #[sv p1 y0.1 c1, sv p2 y0.2.1 c2, sv p3 y0.2.2 c3], sv p4 y1 c4, vi y2] [] [Rl wN p1 c1 y0.1, Rl wJ p2 c2 y0.2.1, Rl wQ p3 c3 y0.2.2, Rl wR p4 c4 y1] (zBr y0 y1 y2) fun r K=>∀ p5 c5,K (sv p5 r c5) [] [Rl (zF .i64) p5 c5 r] :=
 qB call180 func180 u fun X=>zB<|qU .s u<|fun b1=>zA 1 u<|zC<|yM [] [0] 7<|vQ 0 0 3 u u u u<|vQ 1 0 3 u u u u<|zV 3 [2,3] u<|qE 4<|qF (.f u) [] [] zIM u u u (cq [0,1,2,3])<|fun r1 _ k p5 c5=>k<|zY<|qE 5<|
  qF (.f u) [] [] zOD u u u (cq [1,2,3,0])<|fun r2 _ k p6 c6=>k<|zY<|zV 0 [6] u<|qQ<|zN<|zJ<|zP u u (fun _ k=>k p6 c6) [] (gq [0])
theorem zFA {qd : Prop} {y0 : zR} {y1 : List zL} {y2 : Int} {y3 : Int} {y4 : vF} : yR qd prog 173 [.func (.func 180) #[] #[], pt b1 0, pt b2 0, pt b3 0, pt b4 0, pt b5 0] [bx b1 26 [sv p1 y0.1 c1, sv p2 y0.2.1 c2, sv p3 y0.2.2 c3], bx b2 46 [sv p4 y1 c4], bx b3 3 [vi y2], bx b4 3 [vi y3], bx b5 28 [vi y4.1, vi y4.2]] [Rl wN p1 c1 y0.1, Rl wJ p2 c2 y0.2.1, Rl wQ p3 c3 y0.2.2, Rl wR p4 c4 y1] (zA8 y0 y1 y2 y3 y4) fun L r K=>K (vb r) L [] :=
 qB call173 func173 u fun X=>jA 1 u<|yM [] [0, 1, 2, 3, 4] 14<|zV 13 [0] u<|vQ 1 0 3 u u u u<|qY 2 1 u u u u<|qY 3 2 u u u u<|zV 9 [5] u<|vQ 6 0 3 u u u u<|qY 7 1 u u u u<|qY 8 3 u u u u<|qN 10 1 u u<|
  qY 11 4 u u u u<|qE 4<|qF (.f u) [] [] zG1 u u u (cq [0,1,2,3])<|fun r1 _ k p5 c5=>k<|zY<|qE 9<|qF (.f u) [] [] zG1 u u u (cq [1,2,3,4])<|fun r2 _ k p6 c6=>k<|zY<|qE 12<|
  qF (.f u) [] [] zJq u u u (cq [1,0])<|fun r3 _ k=>k<|zY<|zV 0 [13] u<|qQ<|zN<|zJ<|zP u u (fun _ k=>k) [0,1,2,3,4] ⟨⟩
theorem zHf {qd : Prop} {y0 : zR} {y1 : List zL} {y2 : Int} {y3 : Int} : yR qd prog 175 [.func (.func 178) #[] #[], pt b1 0, pt b2 0, pt b3 0, pt b4 0] [bx b1 26 [sv p1 y0.1 c1, sv p2 y0.2.1 c2, sv p3 y0.2.2 c3], bx b2 46 [sv p4 y1 c4], bx b3 3 [vi y2], bx b4 3 [vi y3]] [Rl wN p1 c1 y0.1, Rl wJ p2 c2 y0.2.1, Rl wQ p3 c3 y0.2.2, Rl wR p4 c4 y1] (zAk y0 y1 y2 y3) fun L r K=>K (vb r) L [] :=
 qB call175 func175 u fun X=>jA 1 u<|wF (fun s1 K=>K [] [] [0,1,2,3] [(6, vb s1)] []) (qJ<|zA 1 u<|qR 0 3 u u u<|zT 1 u u u<|zT 2 u u u<|qF .s [] [] zEJ u u u (cq [0,1,2,3])<|fun r1 _ k p5 c5=>k<|zA 3 u<|
  wG 14 u (zA 1 u<|qR 0 3 u u u<|zT 1 u u u<|zT 3 u u u<|qF .s [] [] zEJ u u u (cq [1,2,3,4])<|fun r2 _ k p6 c6=>k<|zA 2 u<|zI (vb ((len r2) == 0))<|zA 1 u<|zU<|
  zK (gv (fun _ k=>k) [0,1,2,3] (gq [2,3,4,5])))<|zA 7 u<|zI (vb false)<|zA 1 u<|zU<|zK (gv (fun _ k=>k) [0,1,2,3] (gq [1,2,3,4])))<|fun s1 _ k=>k<|zJ<|zP u u (fun _ k=>k) [0,1,2,3] ⟨⟩
theorem zI7 {qd : Prop} {y0 : zR} {y1 : List zL} {y2 : Int} {y3 : Int} : yR qd prog 175 [.func (.func 180) #[] #[], pt b1 0, pt b2 0, pt b3 0, pt b4 0] [bx b1 26 [sv p1 y0.1 c1, sv p2 y0.2.1 c2, sv p3 y0.2.2 c3], bx b2 46 [sv p4 y1 c4], bx b3 3 [vi y2], bx b4 3 [vi y3]] [Rl wN p1 c1 y0.1, Rl wJ p2 c2 y0.2.1, Rl wQ p3 c3 y0.2.2, Rl wR p4 c4 y1] (zBA y0 y1 y2 y3) fun L r K=>K (vb r) L [] :=
 qB call175 func175 u fun X=>jA 1 u<|wF (fun s1 K=>K [] [] [0,1,2,3] [(6, vb s1)] []) (qJ<|zA 1 u<|qR 0 3 u u u<|zT 1 u u u<|zT 2 u u u<|qF .s [] [] zG1 u u u (cq [0,1,2,3])<|fun r1 _ k p5 c5=>k<|zA 3 u<|wG 14 u (
  zA 1 u<|qR 0 3 u u u<|zT 1 u u u<|zT 3 u u u<|qF .s [] [] zG1 u u u (cq [1,2,3,4])<|fun r2 _ k p6 c6=>k<|zA 2 u<|zI (vb ((len r2) == 0))<|zA 1 u<|zU<|
  zK (gv (fun _ k=>k) [0,1,2,3] (gq [2,3,4,5])))<|zA 7 u<|zI (vb false)<|zA 1 u<|zU<|zK (gv (fun _ k=>k) [0,1,2,3] (gq [1,2,3,4])))<|fun s1 _ k=>k<|zJ<|zP u u (fun _ k=>k) [0,1,2,3] ⟨⟩
theorem zJV {qd : Prop} {y1 : zR} {y2 : List zL} {y3 : Int} {y4 : Int} {y6 : vF} : yR qd prog 179 [pt b1 0, pt b6 0] [bx b1 194 [.func (.func 175) #[] #[pt b2 0, pt b3 0, pt b4 0, pt b5 0]], bx b2 26 [sv p1 y1.1 c1, sv p2 y1.2.1 c2, sv p3 y1.2.2 c3], bx b3 46 [sv p4 y2 c4], bx b4 3 [vi y3], bx b5 3 [vi y4], bx b6 194 [.func (.func 173) #[] #[pt b2 0, pt b3 0, pt b4 0, pt b5 0, pt b7 0]], bx b7 28 [vi y6.1, vi y6.2]] [Rl wN p1 c1 y1.1, Rl wJ p2 c2 y1.2.1, Rl wQ p3 c3 y1.2.2, Rl wR p4 c4 y2] (zCr y1 y2 y3 y4 y6) fun L r K=>K (vb r) L [] :=
 qB call179 func179 u fun X=>jA 1 u<|zD<|zO<|zB<|zT 0 u u u<|qF .s [1, 2, 3, 4] [] zI7 u u u (cq [0,1,2,3])<|fun r1 _ k=>k<|zA 1 u<|zC<|zH u (zB<|zT 5 u u u<|
  qF .s [1, 2, 3, 4, 6] [] zBS u u u (cq [0,1,2,3])<|fun r2 _ k=>k<|zA 1 u<|zC<|zJ<|qT<|qA<|zP u u (fun _ k=>k) [0,1,2,3,4,5,6] ⟨⟩)<|zB<|zT 0 u u u<|
  qF .s [1, 2, 3, 4] [] zHf u u u (cq [0,1,2,3])<|fun r3 _ k=>k<|zA 1 u<|zC<|zH u (zB<|zT 5 u u u<|qF .s [1, 2, 3, 4, 6] [] zFA u u u (cq [0,1,2,3])<|
  fun r4 _ k=>k<|zA 1 u<|zC<|zJ<|qT<|qA<|zP u u (fun _ k=>k) [0,1,2,3,4,5,6] ⟨⟩)<|wC<|qC<|zN<|wF (fun s1 K=>K [] [] [0,1,2,3] [(2, vb s1)] []) (qJ<|zT 5 u u u<|
  qF .s [1, 2, 3, 4, 6] [] zBS u u u (cq [0,1,2,3])<|fun r5 _ k=>k<|zA 1 u<|wG 15 u (zT 5 u u u<|qF .s [1, 2, 3, 4, 6] [] zFA u u u (cq [0,1,2,3])<|fun r6 _ k=>
  k<|zI (vb r6)<|zA 1 u<|zU<|zK (gv (fun _ k=>k) [0,1,2,3,4,5,6] (gq [0,1,2,3])))<|zA 2 u<|zI (vb false)<|zA 1 u<|zU<|zK (gv (fun _ k=>k) [0,1,2,3,4,5,6] (gq [0,1,2,3])))<|fun s1 _ k=>k<|zJ<|
  zP u u (fun _ k=>k) [0,1,2,3,4,5,6] ⟨⟩
theorem zTq {qd : Prop} {y0 : zR} {y1 : List zL} {y2 : Int} {y3 : Int} {y4 : vF} : qG qd prog 112 [.agg #[sv p1 y0.1 c1, sv p2 y0.2.1 c2, sv p3 y0.2.2 c3], sv p4 y1 c4, vi y2, vi y3, .agg #[vi y4.1, vi y4.2]] [] [Rl wN p1 c1 y0.1, Rl wJ p2 c2 y0.2.1, Rl wQ p3 c3 y0.2.2, Rl wR p4 c4 y1] (zKc y0 y1 y2 y3 y4) fun r K=>K (vb r) [] [] :=
 qB call112 func112 u fun X=>zB<|qU .s u<|fun b1=>qU .s u<|fun b2=>qU .s u<|fun b3=>qU .s u<|fun b4=>qU .s u<|fun b5=>zA 1 u<|zC<|zD<|wF (fun s1 K=>K [5,6,7,8,9] [] [0,1,2,3] [(31, vb s1)] []) (qJ<|zT 2 u u u<|zT 3 u u u<|
  zA 3 u<|wG 18 u (zA 6 u<|zI (vb true)<|zA 5 u<|zI (vb true)<|zU<|zK (gv (fun _ k=>k) [0,1,2,3,4] (gq [0,1,2,3])))<|zT 2 u u u<|zT 3 u u u<|zA 1 u<|zT 1 u u u<|zA 2 u<|
  zI (vb (decide ((len y1) ≤ (if y3 > y2 then y3 else y2))))<|zA 1 u<|wG 26 u (zA 4 u<|zI (vb true)<|zU<|zK (gv (fun _ k=>k) [0,1,2,3,4] (gq [0,1,2,3])))<|qR 0 3 u u u<|zT 1 u u u<|zT 3 u u u<|
  qH zQG u (cq [0,1,2,3])<|fun r1 _ k=>k<|zI (vb r1)<|zU<|zK (gv (fun _ k=>k) [0,1,2,3,4] (gq [0,1,2,3])))<|fun s1 _ k=>k<|zH u (jA 1 u<|zJ<|qA<|zP u u (fun _ k=>k) [] ⟨⟩)<|jC<|zB<|zA 1 u<|wM .s (.nilFunc)<|
  fun b6=>qS .s 5 u u u<|zC<|zB<|zA 1 u<|wM .s (.nilFunc)<|fun b7=>qS .s 6 u u u<|zC<|jA 1 u<|zD<|zB<|zS 0 u<|zT 4 u u u<|zC<|zO<|jA 2 u<|zH u (jB 2 u<|qC<|zN<|zB<|zA 1 u<|
  qF .s [5, 0, 1, 2, 3, 4, 6] [] zJY u u u (cq [0,1,2,3])<|fun r2 _ k=>k<|zA 1 u<|zC<|zJ<|zP u u (fun _ k=>k) [] ⟨⟩)<|jA 2 u<|zH u (jB 2 u<|qC<|zN<|zB<|zA 1 u<|
  qF .s [6, 0, 1, 2, 3, 5, 4] [] zJV u u u (cq [0,1,2,3])<|fun r3 _ k=>k<|zA 1 u<|zC<|zJ<|zP u u (fun _ k=>k) [] ⟨⟩)<|jA 1 u<|zJ<|qT<|qA<|zP u u (fun _ k=>k) [] ⟨⟩
theorem zJe {qd : Prop} {y0 : qZ} {y1 : zR} {y2 : List zL} {y3 : vF} : yR qd prog 111 [.agg #[vi y0.1, vi y0.2.1, vi y0.2.2.1, vi y0.2.2.2], pt b1 0, pt b2 0, pt b3 0] [bx b1 26 [sv p1 y1.1 c1, sv p2 y1.2.1 c2, sv p3 y1.2.2 c3], bx b2 46 [sv p4 y2 c4], bx b3 28 [vi y3.1, vi y3.2]] [Rl wN p1 c1 y1.1, Rl wJ p2 c2 y1.2.1, Rl wQ p3 c3 y1.2.2, Rl wR p4 c4 y2] (zBm y0 y1 y2 y3) fun L r K=>K (vb r) L [] :=
 qB call111 func111 u fun X=>zB<|qU .s u<|fun b4=>zA 1 u<|zC<|wF (fun s1 K=>K [] [(3, [])] [0,1,2,3] [(5, vb s1)] []) (qJ<|zS 3 u<|zT 3 u u u<|zA 2 u<|wG 9 u (qR 0 3 u u u<|zT 1 u u u<|zS 0 u<|zT 3 u u u<|zS 2 u<|
  zT 3 u u u<|qR 2 2 u u u<|qH zTq u (cq [0,1,2,3])<|fun r1 _ k=>k<|zI (vb r1)<|zA 1 u<|zU<|zK (gv (fun _ k=>k) [0,1,2,903] (gq [0,1,2,3])))<|zA 8 u<|zI (vb false)<|zA 1 u<|zU<|
  zK (gv (fun _ k=>k) [0,1,2,903] (gq [0,1,2,3])))<|fun s1 _ k=>k<|zJ<|zP u u (fun _ k=>k) [0,1,2] ⟨⟩
theorem zEY {qd : Prop} {y0 : List qZ} {y1 : zR} {y2 : List zL} {y3 : vF} : yR qd prog 167 [sv p1 y0 c1, .func (.func 111) #[] #[pt b1 0, pt b2 0, pt b3 0]] [bx b1 26 [sv p2 y1.1 c2, sv p3 y1.2.1 c3, sv p4 y1.2.2 c4], bx b2 46 [sv p5 y2 c5], bx b3 28 [vi y3.1, vi y3.2]] [Rl uN p1 c1 y0, Rl wN p2 c2 y1.1, Rl wJ p3 c3 y1.2.1, Rl wQ p4 c4 y1.2.2, Rl wR p5 c5 y2] (zBM y0 y1 y2 y3) fun L r K=>K (vi r) L [] :=
 qB call167 func167 u fun X=>jA 1 u<|zD<|jA 3 u<|zO<|qO (fun s1 K=>K [0,1,7] [] [0,1,2,3,4] [(8, vi s1)] []) (gv (fun _ k=>k) [0,1,2] (gq [0,1,2,3,4]))<|fun s1 _ k=>k<|jA 1 u<|zD<|zH u (jC<|zD<|zO<|jA 2 u<|zB<|zA 3 u<|qW 0 u u u<|
  fun x1 b4 o1=>qV true zOf (gk 0) u<|qF .s [0, 1, 2] [] zJe u u u (cq [2,3,4,5])<|fun r1 _ k=>k<|zC<|zH u (jA 2 u<|zJ<|qT<|qA<|wY<|qT<|qA<|zP u u (fun _ k=>k) [0,1,2] ⟨⟩)<|wC<|qC<|zN<|
  jB 2 u<|qD (gv (fun _ k=>k) [0,1,2] (gq [1,2,3,4,5])))<|qM<|qK<|qP<|qL<|zN<|jA 1 u<|zJ<|zP u u (fun _ k=>k) [0,1,2] ⟨⟩
theorem zED {qd : Prop} {y0 : List qZ} {y1 : zR} {y2 : List zL} {y3 : vF} : qG qd prog 109 [sv p1 y0 c1, .func (.func 111) #[] #[pt b1 0, pt b2 0, pt b3 0]] [r_1, bx b1 26 [sv p2 y1.1 c2, sv p3 y1.2.1 c3, sv p4 y1.2.2 c4], bx b2 46 [sv p5 y2 c5], bx b3 28 [vi y3.1, vi y3.2]] [Al uN 123 r_1 p1 c1 y0, Rl wN p2 c2 y1.1, Rl wJ p3 c3 y1.2.1, Rl wQ p4 c4 y1.2.2, Rl wR p5 c5 y2] (zAZ y0 y1 y2 y3) fun r K=>∀ p6 c6,K (sv p6 r c6) [[], bx b1 26 [sv p2 y1.1 c2, sv p3 y1.2.1 c3, sv p4 y1.2.2 c4], bx b2 46 [sv p5 y2 c5], bx b3 28 [vi y3.1, vi y3.2]] [Rl uN p6 c6 r] :=
 qB call109 func109 u fun X=>jA 1 u<|zB<|zA 2 u<|qF .s [1, 2, 3] [0] zEY u u u ⟨cl 0 0,ck 1,ck 2,ck 3,ck 4,⟨⟩⟩<|fun r1 _ k=>k<|zA 1 u<|zC<|zD<|jA 2 u<|zH u (jA 2 u<|zJ<|qA<|wX 0 0 u u<|
  zP u u (fun _ k=>k p1 c1) [900,1,2,3] (gq [0]))<|jC<|wF (fun s1 K=>∀ r_2,K [] [(0, r_2)] [1,2,3,4] [(0, .slice p1 (List.length y0) c1), (5, vi s1.2)] [Ar uN 123 r_2 p1 c1 (List.length y0) s1.1]) (jA 3 u<|zO<|
  qO (fun s2 K=>∀ r_3,K [1] [(0, r_3)] [1,2,3,4] [(0, .slice p1 (List.length y0) c1), (5, vi s2.2.1), (6, vi s2.2.2)] [Ar uN 123 r_3 p1 c1 (List.length y0) s2.1]) (gv (fun _ k=>k r_1) [0,1,2,3] (gq [0,1,2,3,4]))<|fun s2 _ k r_3=>k<|
  zD<|jA 4 u<|zH u (jC<|zD<|zO<|zB<|zA 2 u<|yL 0 u u u<|fun x1 h1 b4 hp1=>xD 0 0 sI true zOf u hp1 h1 u<|wM .s (.agg #[vi 0, vi 0, vi 0, vi 0])<|fun b5=>qS .s 4 u u u<|zC<|zB<|zA 1 u<|
  qR 4 4 u u u<|qF .s [1, 2, 3] [] zJe u u u (cq [1,2,3,4])<|fun r2 _ k=>k<|zA 1 u<|zC<|zH u (zB<|zA 2 u<|qR 4 4 u u u<|yL 0 u u u<|fun x2 h2 b6 hp2=>
  xJ .s 0 0 sI x1 true u hp2 h2 u u (vP vI (vP vI (vP vI vI)))<|fun r_4=>zC<|jB 3 u<|qC<|zN<|jB 3 u<|qD (gv (fun _ k=>k r_4) [0,1,2,3] (gq [0,2,3,4,5])))<|wC<|qC<|zN<|jB 3 u<|
  qD (gv (fun _ k=>k r_3) [0,1,2,3] (gq [0,1,2,3,4])))<|qM<|qK<|qP<|qL<|zK (gv (fun _ k=>k r_3) [0,1,2,3] (gq [0,1,2,3,4])))<|fun s1 _ k r_2=>k<|zB<|zA 2 u<|jsV 0 u u u<|fun u1 p6 c6 f1=>
  jcv .s 0 0 (0, 0, 0, 0) (.agg #[vi 0, vi 0, vi 0, vi 0]) u f1 u (vP vI (vP vI (vP vI vI)))<|fun r_5=>zC<|zB<|zA 2 u<|jsP 0 u u u<|fun x3=>zA 1 u<|zC<|zJ<|wX 0 0 u u<|
  zP u u (fun _ k=>k p1 c1) [900,1,2,3] (gq [0])
theorem zLG {qd : Prop} {y0 : zR} {y1 : List zL} {y2 : vF} : qG qd prog 63 [.agg #[sv p1 y0.1 c1, sv p2 y0.2.1 c2, sv p3 y0.2.2 c3], sv p4 y1 c4, .agg #[vi y2.1, vi y2.2]] [] [Rl wN p1 c1 y0.1, Rl wJ p2 c2 y0.2.1, Rl wQ p3 c3 y0.2.2, Rl wR p4 c4 y1] (zEd y0 y1 y2) fun r K=>∀ p5 c5,K (sv p5 r c5) [] [Rl uN p5 c5 r] :=
 qB call63 func63 u fun X=>zB<|qU .s u<|fun b1=>qU .s u<|fun b2=>qU .s u<|fun b3=>zA 1 u<|zC<|zB<|qR 0 3 u u u<|zT 1 u u u<|qH zOb u (cq [0,1,2,3])<|fun r1 _ k p5 c5 r_1=>k<|zA 1 u<|
  qF .s [3, 0, 1, 2] [] zED u u u (cq [0,1,2,3,4])<|fun r2 _ k p6 c6=>k<|zA 1 u<|zC<|zJ<|zP u u (fun _ k=>k p6 c6) [] (gq [0])
theorem zLk {qd : Prop} {y0 : List wH} : qG qd prog 108 [sv p1 y0 c1] [r_1] [Al vZ 58 r_1 p1 c1 y0] (zFm y0) fun r K=>∀ p2 c2,K (sv p2 r c2) [[]] [Rl vZ p2 c2 r] :=
 qB call108 func108 u fun X=>jA 1 u<|zD<|jA 3 u<|zH u (jA 2 u<|zJ<|qA<|wX 0 0 u u<|zP u u (fun _ k=>k p1 c1) [900] (gq [0]))<|jC<|zD<|jA 1 u<|zO<|qO (fun s1 K=>K [0] [] [0] [(3, vi s1)] []) (gv (fun _ k=>k) [0] (gq [0]))<|fun s1 _ k=>k<|
  zD<|jA 4 u<|zH u (jC<|zD<|zO<|yM [] [0] 10<|zV 8 [0,1] u<|tC 2 0 u u u u<|fun x1 h1 b1 hp1=>tD 3 0 0 sI true zLp u u hp1 h1 u<|zV 3 [4,5,6] u<|tC 7 0 u u u u<|fun x2 h2 b2 hp2=>
  tD 8 0 0 sI true zLp u u hp2 h2 u<|wB 9 (vb (x1 == x2)) u<|qQ<|zN<|zH u (zB<|zA 2 u<|jsV 0 u u u<|fun u1 p2 c2 f1=>zA 1 u<|zC<|
  jjn (fun s2 K=>∀ r_2,K [(0, .slice p1 (List.length y0) c1), (3, vi s2.2)] [r_2] [Ar vZ 58 r_2 p1 c1 (List.length y0) s2.1]) (jA 1 u<|zO<|
  qO (fun s3 K=>∀ r_3,K [4] [(0, r_3)] [] [(0, .slice p1 (List.length y0) c1), (3, vi s3.2.1), (5, vi s3.2.2)] [Ar vZ 58 r_3 p1 c1 (List.length y0) s3.1]) (gv (fun _ k=>k r_1) [0] (gq [0]))<|fun s3 _ k r_3=>k<|zD<|jA 4 u<|zH u (
  jC<|zD<|zO<|yM [] [0] 10<|zV 8 [0,1] u<|jdX 2 0 u u f1 u u<|fun x3 b3 hp3 h3=>tD 3 0 0 sI true zLp u u hp3 h3 u<|zV 3 [4,5,6] u<|jdX 7 0 u u f1 u u<|fun x4 b4 hp4 h4=>
  tD 8 0 0 sI true zLp u u hp4 h4 u<|wB 9 (vb (!(x3 == x4))) u<|qQ<|zN<|zH u (zB<|zA 4 u<|jiV 0 u f1 u u<|fun x5 b5 hp5 h5=>xD 0 0 sI true zLp u hp5 h5 u<|yL 0 u u u<|fun x6 h6 b6 hp6=>
  xJ .s 0 0 sI x5 true u hp6 h6 u u (vP vI vI)<|fun r_4=>zC<|jB 3 u<|qC<|zN<|jB 3 u<|qD (gv (fun _ k=>k r_4) [0] (gq [0])))<|wC<|qC<|zN<|jB 3 u<|qD (gv (fun _ k=>k r_3) [0] (gq [0])))<|qM<|qK<|qP<|qL<|
  zK (gv (fun _ k=>k r_3) [0] (gq [0])))<|fun s2 _ k r_2=>k<|zB<|zA 2 u<|jsV 0 u u u<|fun u2 p3 c3 f2=>jcv .s 0 0 (0, 0) (.agg #[vi 0, vi 0]) u f2 u (vP vI vI)<|fun r_5=>zC<|zB<|zA 2 u<|jsP 0 u u u<|fun x7=>
  zA 1 u<|zC<|zJ<|qT<|qA<|wY<|qT<|qA<|wX 0 0 u u<|zP u u (fun _ k=>k p1 c1) [900] (gq [0]))<|wC<|qC<|zN<|jB 3 u<|qD (gv (fun _ k=>k) [0] (gq [0])))<|qM<|qK<|qP<|qL<|zN<|jA 2 u<|zJ<|wX 0 0 u u<|
  zP u u (fun _ k=>k p1 c1) [900] (gq [0])
theorem zO5 {qd : Prop} {y0 : wH} {y1 : wH} : qG qd prog 106 [.agg #[vi y0.1, vi y0.2], .agg #[vi y1.1, vi y1.2]] [] [] (zCu y0 y1) fun r K=>K (vi r) [] [] :=
 qB call106 func106 u fun X=>zB<|qU .s u<|fun b1=>qU .s u<|fun b2=>zA 1 u<|zC<|yM [] [0, 1] 13<|qN 0 0 u u<|qY 1 0 u u u u<|qN 2 0 u u<|qY 3 1 u u u u<|qN 5 1 u u<|qY 6 0 u u u u<|qN 7 1 u u<|
  qY 8 1 u u u u<|qE 4<|qF (.f u) [] [] zAp u u u ⟨⟩<|fun r1 _ k=>k<|zY<|qE 9<|qF (.f u) [] [] zAp u u u ⟨⟩<|fun r2 _ k=>k<|zY<|qE 10<|
  vC (.f u) (e := zF .i64) 3 [vi r1, vi r2] ([r1, r2] : List Int) (rC vI (rC vI rN))<|fun p1 c1=>zY<|qE 11<|qF (.f u) [] [] zLS u u u (cq [0])<|fun r3 _ k=>k<|zY<|zV 0 [12] u<|qQ<|zN<|zJ<|
  zP u u (fun _ k=>k) [] ⟨⟩
theorem zGD {qd : Prop} {y0 : List wH} : qG qd prog 105 [sv p1 y0 c1, .func (.func 106) #[] #[]] [r_1] [Al vZ 58 r_1 p1 c1 y0] (zAo y0) fun r K=>∀ r_2,K (.tuple #[]) [r_2] [Ar vZ 58 r_2 p1 c1 (List.length y0) r] := ⟨call105, fun A w0 r hm hO hF => by
 have h := zPg (qd := qd) Go.Proofs.Tryz.sort105 (uD.prod (uD.int .i64) (uD.int .i64)) (te := 58) Tryz.isAgg58 Tryz.sizeOf58 zCu 106 (enters_of func106 (by kernel_rfl) u) (fun w x y n hn => ?_) hO hF.1.1 hm
 · change Calls prog 105 _ _ _ at h
   refine h.mono fun e w' h => ?_
   cases e with
   | returned v => obtain ⟨r', rfl, h1, h2, h3, h4⟩ := h; exact fun G k => k r' ⟨rfl, h1, h2, ⟨h3, h4.symm⟩, trivial⟩
   | panicked ch => exact h
   | outgrown => exact h
 · refine ((zO5 (qd := True) (y0 := x) (y1 := y)).go [] w n hn (wA.start (by simp)) trivial).mono fun e w' h => ?_
   cases e with
   | returned v => exact h _ fun ⟨e1, q⟩ => ⟨e1, q.e⟩
   | panicked ch => exact h
   | outgrown => exact h⟩
theorem zM0 {qd : Prop} {y0 : Int} {y1 : List qZ} : qG qd prog 62 [vi y0, sv p1 y1 c1] [] [Rl uN p1 c1 y1] (zGU y0 y1) fun r K=>∀ p2 c2,K (.tuple #[.agg #[vi r.1.1, sv p2 r.1.2 c2], vi r.2]) [] [Rl vZ p2 c2 r.1.2] :=
 qB call62 func62 u fun X=>zB<|wM .s (.agg #[vi 0, .slice none 0 0])<|fun b1=>zA 1 u<|zC<|zD<|xH (fun K=>K [0,1,4] [] [0] [(14, vb ((decide (y0 < 0)) || (decide (40 < y0))))] []) (qJ<|zA 3 u<|yC (b := decide (y0 < 0)) 11 u (fun hb1=>zA 2 u<|
  zI (vb true)<|zU<|wS 14 (vb ((decide (y0 < 0)) || (decide (40 < y0)))) u (by rw [hb1]; rfl)<|zK (gv (fun _ k=>k) [0] (gq [0])))<|fun hb1=>zA 2 u<|zI (vb (decide (40 < y0)))<|zU<|
  wS 14 (vb ((decide (y0 < 0)) || (decide (40 < y0)))) u (by rw [hb1]; rfl)<|zK (gv (fun _ k=>k) [0] (gq [0])))<|fun _ k=>k<|zH u (zB<|zI (.agg #[vi 0, .slice none 0 0])<|qS .s 0 u u u<|zA 1 u<|zC<|zJ<|qA<|
  wZ u (lC 0 (.agg #[vi 0, .slice none 0 0]) u u (lT u lN)) (fun _ k=>k none 0) [] ⟨gn,⟨⟩⟩)<|jC<|zB<|zA 1 u<|zI (.agg #[vi y0, .slice none 0 0])<|vK vZ 58<|wM .s (.agg #[vi 0, .slice none 0 0])<|fun b2=>
  qS .s 2 u u u<|zC<|zUE (fun s1 K=>∀ p2 c2 r_1,K [4,6] [(1, r_1), (2, bx b2 50 [vi y0, sv p2 s1 c2])] [] [] [Al vZ 58 r_1 p2 c2 s1]) (jA 3 u<|zO<|
  qO (fun s2 K=>∀ p3 c3 r_2,K [0,4,6,18,19] [(1, r_2), (2, bx b2 50 [vi y0, sv p3 s2.2 c3])] [1] [(20, vi s2.1)] [Al vZ 58 r_2 p3 c3 s2.2]) (gv (fun _ k=>k none 0 []) [0,1,2] (gq [0,1]))<|fun s2 _ k p3 c3 r_2=>k<|jA 1 u<|zD<|
  zH u (jC<|zD<|zO<|zB<|qW 1 u u u<|fun x1 b3 o1=>qV true zOf (gk 0) u<|wM .s (.agg #[vi 0, vi 0, vi 0, vi 0])<|fun b4=>qS .s 3 u u u<|zC<|zD<|
  xH (fun K=>K [0,4,6,8,18,19,20] [] [2,1] [(38, vb ((decide ((if x1.2.1 < x1.1 then x1.2.1 else x1.1) < 0)) || (decide (y0 ≤ (if x1.2.1 > x1.1 then x1.2.1 else x1.1)))))] []) (qJ<|zS 0 u<|zT 3 u u u<|zS 1 u<|
  zT 3 u u u<|zA 3 u<|yC (b := decide ((if x1.2.1 < x1.1 then x1.2.1 else x1.1) < 0)) 30 u (fun hb2=>zA 7 u<|zI (vb true)<|zU<|
  wS 38 (vb ((decide ((if x1.2.1 < x1.1 then x1.2.1 else x1.1) < 0)) || (decide (y0 ≤ (if x1.2.1 > x1.1 then x1.2.1 else x1.1))))) u (by rw [hb2]; rfl)<|zK (gv (fun _ k=>k) [0,1,2,3] (gq [2,1])))<|fun hb2=>zS 0 u<|zT 3 u u u<|
  zS 1 u<|zT 3 u u u<|zA 3 u<|zI (vb (decide (y0 ≤ (if x1.2.1 > x1.1 then x1.2.1 else x1.1))))<|zU<|
  wS 38 (vb ((decide ((if x1.2.1 < x1.1 then x1.2.1 else x1.1) < 0)) || (decide (y0 ≤ (if x1.2.1 > x1.1 then x1.2.1 else x1.1))))) u (by rw [hb2]; rfl)<|zK (gv (fun _ k=>k) [0,1,2,3] (gq [2,1])))<|fun _ k=>k<|zH u (zB<|
  zI (.agg #[vi 0, .slice none 0 0])<|qS .s 0 u u u<|zA 1 u<|zC<|zJ<|qA<|qT<|qA<|wY<|qT<|wY<|wZ u (lC 0 (.agg #[vi 0, .slice none 0 0]) u u (lT u lN)) (fun _ k=>k none 0) [] ⟨gn,⟨⟩⟩)<|jC<|qJ<|zS 1 u<|
  zT 2 u u u<|zS 0 u<|zT 3 u u u<|zS 1 u<|zT 3 u u u<|zI (.agg #[vi x1.1, vi x1.2.1])<|vC .s (e := vZ) 58 [vi x1.1, vi x1.2.1] ([(x1.1, x1.2.1)] : List wH) (rC (vP vI vI) rN)<|fun p4 c4=>
  wP .s 1 2 u (gk 0) u u<|fun x2 r_3 p5 c5=>zS 1 u<|qS .s 2 u u u<|zU<|qC<|zN<|jB 2 u<|qD (gv (fun _ k=>k p5 c5 r_3) [0,1,2] (gq [0,2])))<|qM<|qK<|qP<|qL<|qD (gv (fun _ k=>k p3 c3 r_2) [0,1,2] (gq [0])))<|
  fun s1 _ k p2 c2 r_1=>k<|zB<|zS 1 u<|zT 2 u u u<|qF .s [1] [] zGD u u u (cq [0])<|fun r1 _ k r_4=>k<|zC<|zB<|zS 1 u<|zT 2 u u u<|jrE 0 55 u u<|
  qF .s [1] [] zLk u u u (cq [0])<|fun r2 _ k p6 c6=>k<|zS 1 u<|qS .s 2 u u u<|zC<|zB<|qR 2 2 u u u<|qS .s 0 u u u<|zA 1 u<|zC<|zJ<|
  wZ u (lC 0 (.agg #[vi y0, sv p6 r2 c6]) u u (lT u lN)) (fun _ k=>k p6 c6) [] (gq [0])
theorem zFk {qd : Prop} {y0 : Int} : qG qd prog 94 [.int .u64 y0] [] [Pt (yS 64 (zF .u8)) 0 0 yQ] (zAm y0) fun r K=>K (vi r) [] [] :=
 qB call94 func94 u fun X=>jA 1 u<|zD<|jA 2 u<|zH u (jA 1 u<|zJ<|qA<|zP u u (fun _ k=>k) [] ⟨⟩)<|jC<|zB<|zA 5 u<|zI (.int .u64 (xA .u64 (IntKind.u64.wrap ((yF .u64 y0 (IntKind.u64.wrap (0 - y0))) * 285870213051353865)) 58))<|
  jgx (gk 0) u u<|fun x1=>qV false oI (gk 0) u<|zI (vi (zQ (x1)))<|zA 1 u<|zC<|zJ<|zP u u (fun _ k=>k) [] ⟨⟩
theorem zS6 {qd : Prop} {y0 : Int} : qG qd prog 233 [.int .u64 y0] [] [Pt (yS 64 (zF .u8)) 0 0 yQ] (zJ9 y0) fun r K=>∀ p1 c1,K (sv p1 r c1) [] [Rl (zF .i64) p1 c1 r] :=
 qB call233 func233 u fun X=>jA 1 u<|zB<|zA 1 u<|vK (zF .i64) 3<|zC<|zD<|zO<|qO (fun s1 K=>∀ p1 c1 r_1,K [] [(0, r_1)] [1] [(0, .int .u64 s1.1), (3, sv p1 s1.2 c1)] [Al (zF .i64) 3 r_1 p1 c1 s1.2]) (gv (fun _ k=>k none 0 []) [0] (gq [0,1]))<|
  fun s1 _ k p1 c1 r_1=>k<|zD<|jA 2 u<|zH u (jC<|zD<|zO<|qJ<|zA 2 u<|qH zFk u (cq [1])<|fun r1 _ k=>k<|vC .s (e := zF .i64) 3 [vi r1] ([r1] : List Int) (rC vI rN)<|fun p2 c2=>
  wP .s 0 1 u (gk 0) u u<|fun x1 r_2 p3 c3=>zA 1 u<|zU<|qC<|zN<|jB 5 u<|qD (gv (fun _ k=>k p3 c3 r_2) [0] (gq [0,3])))<|qM<|qK<|qP<|qL<|zN<|jA 2 u<|zJ<|wX 0 0 u u<|zP u u (fun _ k=>k p1 c1) [] (gq [0])
theorem zRZ {qd : Prop} {y0 : wT} : qG qd prog 234 [.agg #[vi y0.1, sv p1 y0.2 c1]] [] [Rl vZ p1 c1 y0.2] (zIr y0) fun r K=>∀ p2 c2,K (sv p2 r c2) [] [Rl (zF .u64) p2 c2 r] :=
 qB call234 func234 u fun X=>zB<|qU .s u<|fun b1=>zA 1 u<|zC<|zB<|zS 0 u<|zT 0 u u u<|xG .s (e := zF .u64) 97 (0 : Int) (.int .u64 0) vI u u<|fun x1 r_1 p2 c2=>zA 1 u<|zC<|zD<|zB<|zS 1 u<|zT 0 u u u<|zA 2 u<|zC<|zO<|
  qO (fun s1 K=>∀ r_2,K [10,11] [(0, []), (1, r_2)] [1] [(3, .slice p2 (List.length x1) c2), (12, vi s1.2)] [Ar (zF .u64) 97 r_2 p2 c2 (List.length x1) s1.1]) (gv (fun _ k=>k r_1) [900,1] (gq [0,1]))<|fun s1 _ k r_2=>k<|jA 1 u<|zD<|
  zH u (jC<|zD<|zO<|zB<|qW 1 u u u<|fun x2 b2 o1=>qV true zLp (gk 0) u<|wM .s (.agg #[vi 0, vi 0])<|fun b3=>qS .s 2 u u u<|zC<|yU [10] [1, 2] 11<|zV 10 [0] u<|qN 1 0 u u<|qY 2 2 u u u u<|
  tC 3 1 u u u u<|fun x3 h1 b4 hp1=>tD 4 1 1 sI false oI u u hp1 h1 u<|qN 5 1 u u<|qY 6 2 u u u u<|tA fun x4 h2=>jdv 7 u (fun h=>zS1 h u u h2)<|zV 2 [8] u<|tC 9 1 u u u u<|fun x5 h3 b5 hp2=>
  qE 10<|xJ (.f u) 1 1 sI (bor .u64 x3 x4) false u hp2 h3 u u vI<|fun r_3=>jdb [] [1, 2]<|qQ<|qC<|zN<|jB 2 u<|qD (gv (fun _ k=>k r_3) [900,1] (gq [0,3])))<|qM<|qK<|qP<|qL<|zN<|jA 2 u<|zJ<|wX 1 0 u u<|
  jre 0 2 u u<|zP u u (fun _ k=>k p2 c2) [] (gq [0])
theorem zPL {qd : Prop} {y0 : wH} {y1 : wH} : qG qd prog 87 [.agg #[vi y0.1, vi y0.2], .agg #[vi y1.1, vi y1.2]] [] [] (zDh y0 y1) fun r K=>K (vi r) [] [] :=
 qB call87 func87 u fun X=>zB<|qU .s u<|fun b1=>qU .s u<|fun b2=>zA 1 u<|zC<|yM [] [0, 1] 13<|qN 0 0 u u<|qY 1 0 u u u u<|qN 2 0 u u<|qY 3 1 u u u u<|qN 5 1 u u<|qY 6 0 u u u u<|qN 7 1 u u<|
  qY 8 1 u u u u<|qE 4<|qF (.f u) [] [] zAp u u u ⟨⟩<|fun r1 _ k=>k<|zY<|qE 9<|qF (.f u) [] [] zAp u u u ⟨⟩<|fun r2 _ k=>k<|zY<|qE 10<|
  vC (.f u) (e := zF .i64) 3 [vi r1, vi r2] ([r1, r2] : List Int) (rC vI (rC vI rN))<|fun p1 c1=>zY<|qE 11<|qF (.f u) [] [] zLS u u u (cq [0])<|fun r3 _ k=>k<|zY<|zV 0 [12] u<|qQ<|zN<|zJ<|
  zP u u (fun _ k=>k) [] ⟨⟩
theorem zG0 {qd : Prop} {y0 : wT} : qG qd prog 40 [.agg #[vi y0.1, sv p1 y0.2 c1]] [] [Rl vZ p1 c1 y0.2] (zAS y0) fun r K=>K (vi r) [] [] :=
 qB call40 func40 u fun X=>zB<|qU .s u<|fun b1=>zA 1 u<|zC<|zD<|xH (fun K=>K [1] [] [0] [(12, vb ((decide (y0.1 < 0)) || (decide (40 < y0.1))))] []) (qJ<|zS 0 u<|zT 0 u u u<|zA 2 u<|yC (b := decide (y0.1 < 0)) 8 u (fun hb1=>zA 3 u<|
  zI (vb true)<|zU<|wS 12 (vb ((decide (y0.1 < 0)) || (decide (40 < y0.1)))) u (by rw [hb1]; rfl)<|zK (gv (fun _ k=>k) [0] (gq [0])))<|fun hb1=>zS 0 u<|zT 0 u u u<|zA 1 u<|zI (vb (decide (40 < y0.1)))<|zU<|
  wS 12 (vb ((decide (y0.1 < 0)) || (decide (40 < y0.1)))) u (by rw [hb1]; rfl)<|zK (gv (fun _ k=>k) [0] (gq [0])))<|fun _ k=>k<|zH u (jA 1 u<|zJ<|qA<|zP u u (fun _ k=>k) [] ⟨⟩)<|jC<|zD<|zB<|zS 1 u<|zT 0 u u u<|
  zA 2 u<|zC<|zO<|qO (fun s1 K=>K [1,14,15] [] [0] [(16, vi s1)] []) (gv (fun _ k=>k) [0] (gq [0]))<|fun s1 _ k=>k<|jA 1 u<|zD<|zH u (jC<|zD<|zO<|zB<|zA 1 u<|qW 0 u u u<|fun x1 b2 o1=>qV true zLp (gk 0) u<|
  wM .s (.agg #[vi 0, vi 0])<|fun b3=>zA 1 u<|qS .s 1 u u u<|zC<|zD<|
  xH (fun K=>K [1,3,4,14,15,16] [] [1] [(36, vb ((decide ((if x1.2 < x1.1 then x1.2 else x1.1) < 0)) || (decide (y0.1 ≤ (if x1.2 > x1.1 then x1.2 else x1.1)))))] []) (qJ<|zS 0 u<|zT 1 u u u<|zS 1 u<|zT 1 u u u<|
  zA 3 u<|yC (b := decide ((if x1.2 < x1.1 then x1.2 else x1.1) < 0)) 27 u (fun hb2=>zA 8 u<|zI (vb true)<|zU<|
  wS 36 (vb ((decide ((if x1.2 < x1.1 then x1.2 else x1.1) < 0)) || (decide (y0.1 ≤ (if x1.2 > x1.1 then x1.2 else x1.1))))) u (by rw [hb2]; rfl)<|zK (gv (fun _ k=>k) [0,1] (gq [1])))<|fun hb2=>zS 0 u<|zT 1 u u u<|zS 1 u<|
  zT 1 u u u<|zA 1 u<|zS 0 u<|zT 0 u u u<|zA 1 u<|zI (vb (decide (y0.1 ≤ (if x1.2 > x1.1 then x1.2 else x1.1))))<|zU<|
  wS 36 (vb ((decide ((if x1.2 < x1.1 then x1.2 else x1.1) < 0)) || (decide (y0.1 ≤ (if x1.2 > x1.1 then x1.2 else x1.1))))) u (by rw [hb2]; rfl)<|zK (gv (fun _ k=>k) [0,1] (gq [1])))<|fun _ k=>k<|zH u (jA 1 u<|zJ<|qA<|qT<|qA<|
  wY<|qT<|qA<|zP u u (fun _ k=>k) [] ⟨⟩)<|jC<|wF (fun s2 K=>K [1,14,15,16] [(1, [])] [0] [(49, vb s2)] []) (yU [] [0, 1] 13<|zV 10 [0,1,2] u<|wG 39 u (qN 3 1 u u<|qY 4 0 u u u u<|zV 6 [5,6] u<|
  vO 7 0 u u u u<|fun x2 b4 o2=>vN 8 true zLp u (gk 0) u<|vQ 9 1 2 u u u u<|qE 10<|qF (.f u) [] [] zPL u u u ⟨⟩<|fun r1 _ k=>k<|zY<|zV 1 [11] u<|wB 12 (vb (decide (0 ≤ r1))) u<|qQ<|
  zK (gv (fun _ k=>k) [0,901] (gq [1])))<|zV 1 [3,4,5,6,7,8,9,10,11] u<|wB 12 (vb false) u<|qQ<|zK (gv (fun _ k=>k) [0,901] (gq [0])))<|fun s2 _ k=>k<|zH u (jA 1 u<|zJ<|qT<|qA<|wY<|qT<|qA<|zP u u (fun _ k=>k) [] ⟨⟩)<|
  wC<|qC<|zN<|jB 2 u<|qD (gv (fun _ k=>k) [0] (gq [0])))<|qM<|qK<|qP<|qL<|zN<|jA 1 u<|zJ<|zP u u (fun _ k=>k) [] ⟨⟩
theorem zPw {qd : Prop} {y0 : wT} : qG qd prog 232 [.agg #[vi y0.1, sv p1 y0.2 c1]] [] [Rl vZ p1 c1 y0.2] (zHu y0) fun r K=>∀ p2 c2,K (.agg #[vi r.1, sv p2 r.2 c2]) [] [Rl vZ p2 c2 r.2] :=
 qB call232 func232 u fun X=>zB<|qU .s u<|fun b1=>wM .s (.agg #[vi 0, .slice none 0 0])<|fun b2=>zC<|zD<|zB<|qR 0 2 u u u<|qH zG0 u (cq [0])<|fun r1 _ k=>k<|zA 1 u<|zC<|zH u (zB<|zI (.agg #[vi 0, .slice none 0 0])<|
  qS .s 1 u u u<|zC<|zJ<|qA<|wZ u (lC 1 (.agg #[vi 0, .slice none 0 0]) u u lN) (fun _ k=>k none 0) [] ⟨gn,⟨⟩⟩)<|jC<|zB<|qR 0 2 u u u<|qS .s 1 u u u<|zC<|zJ<|
  wZ u (lC 1 (.agg #[vi y0.1, sv p1 y0.2 c1]) u u lN) (fun _ k=>k p1 c1) [] (gq [0])
theorem zLC {qd : Prop} {y0 : wT} {y1 : Int} : qG qd prog 185 [.agg #[vi y0.1, sv p1 y0.2 c1], vi y1] [] [Rl vZ p1 c1 y0.2, Pt (yS 64 (zF .u8)) 0 0 yQ] (zEr y0 y1) fun r K=>∀ p2 c2,K (sv p2 r c2) [] [Rl (zF .i64) p2 c2 r] :=
 qB call185 func185 u fun X=>zB<|qU .s u<|fun b1=>zA 1 u<|zC<|zB<|qR 0 2 u u u<|qH zPw u (cq [0])<|fun r1 _ k p2 c2=>k<|qS .s 0 u u u<|zC<|zD<|
  xH (fun K=>K [1,2] [] [0,2] [(14, vb ((decide (y1 < 0)) || (decide (r1.1 ≤ y1))))] []) (qJ<|zA 3 u<|yC (b := decide (y1 < 0)) 9 u (fun hb1=>zA 4 u<|zI (vb true)<|zU<|
  wS 14 (vb ((decide (y1 < 0)) || (decide (r1.1 ≤ y1)))) u (by rw [hb1]; rfl)<|zK (gv (fun _ k=>k) [0] (gq [0,2])))<|fun hb1=>zA 1 u<|zS 0 u<|zT 0 u u u<|zA 1 u<|zI (vb (decide (r1.1 ≤ y1)))<|zU<|
  wS 14 (vb ((decide (y1 < 0)) || (decide (r1.1 ≤ y1)))) u (by rw [hb1]; rfl)<|zK (gv (fun _ k=>k) [0] (gq [0,2])))<|fun _ k=>k<|zH u (jA 1 u<|zJ<|qA<|zP u u (fun _ k=>k none 0) [] ⟨gn,⟨⟩⟩)<|jC<|zB<|qR 0 2 u u u<|
  qH zRZ u (cq [0])<|fun r2 _ k p3 c3=>k<|zA 1 u<|qW 0 u u u<|fun x1 b2 o1=>qV false oI (gk 0) u<|qH zS6 u (cq [3])<|fun r3 _ k p4 c4=>k<|zA 1 u<|zC<|zJ<|zP u u (fun _ k=>k p4 c4) [] (gq [0])
theorem zNu {qd : Prop} {y0 : Int} {y1 : Int} : qG qd prog 260 [.int .u64 y0, .int .u64 y1] [] [] (zKS y0 y1) fun r K=>K (.tuple #[.int .u64 r.1, .int .u64 r.2]) [] [] :=
 qB call260 func260 u fun X=>jA 2 u<|jA 3 u<|zB<|zA 1 u<|zI (.int .u64 (xA .u64 y0 32))<|zA 1 u<|zC<|jA 3 u<|zB<|zA 1 u<|zI (.int .u64 (xA .u64 y1 32))<|zA 1 u<|zC<|jA 4 u<|zB<|zA 4 u<|
  zI (.int .u64 (xA .u64 (IntKind.u64.wrap ((yF .u64 y0 4294967295) * (yF .u64 y1 4294967295))) 32))<|zA 2 u<|zC<|jA 3 u<|zB<|zA 1 u<|
  zI (.int .u64 (xA .u64 (IntKind.u64.wrap ((IntKind.u64.wrap ((xA .u64 y0 32) * (yF .u64 y1 4294967295))) + (xA .u64 (IntKind.u64.wrap ((yF .u64 y0 4294967295) * (yF .u64 y1 4294967295))) 32))) 32))<|zA 1 u<|zC<|jA 6 u<|zB<|
  zA 6 u<|
  zI (.int .u64 (xA .u64 (IntKind.u64.wrap ((yF .u64 (IntKind.u64.wrap ((IntKind.u64.wrap ((xA .u64 y0 32) * (yF .u64 y1 4294967295))) + (xA .u64 (IntKind.u64.wrap ((yF .u64 y0 4294967295) * (yF .u64 y1 4294967295))) 32))) 4294967295) + (IntKind.u64.wrap ((yF .u64 y0 4294967295) * (xA .u64 y1 32))))) 32))<|
  zA 2 u<|zC<|jA 4 u<|zJ<|wZ u (lT u (lT u lN)) (fun _ k=>k) [] ⟨⟩
theorem zPn {qd : Prop} {y0 : Int} {y1 : Int} : qG qd prog 231 [.int .u64 y0, .int .u64 y1] [] [] (zJI y0 y1) fun r K=>K (.tuple #[.int .u64 r.1, .int .u64 r.2]) [] [] :=
 qB call231 func231 u fun X=>jA 2 u<|zD<|jcf u<|jC<|zB<|zA 2 u<|qH zNu u ⟨⟩<|fun r1 _ k=>k<|zA 5 u<|zC<|jA 4 u<|zJ<|wZ u (lT u (lT u lN)) (fun _ k=>k) [] ⟨⟩
theorem zGf {qd : Prop} {y0 : List Int} {y1 : Int} : qG qd prog 184 [sv p1 y0 c1, vi y1] [] [Rl (zF .i64) p1 c1 y0] (zE0 y0 y1) fun r K=>∀ p2 c2 r_1,K (sv p2 r c2) [r_1] [Al (zF .i64) 3 r_1 p2 c2 r] :=
 qB call184 func184 u fun X=>jA 1 u<|wF (fun s1 K=>K [0,1] [] [0] [] []) (jA 2 u<|zH u (qJ<|jno)<|wC<|zK (gv (fun _ k=>k) [] (gq [0])))<|fun s1 _ k=>k<|zB<|zA 2 u<|zI (.int .u64 (IntKind.u64.wrap (len y0)))<|zA 1 u<|
  zI (.int .u64 (IntKind.u64.wrap (y1)))<|qH zPn u ⟨⟩<|fun r1 _ k=>k<|zA 5 u<|zC<|wF (fun s2 K=>K [0,6] [] [0] [] []) (
  xH (fun K=>K [0,6] [] [0] [(26, vb ((decide (0 < r1.1)) || (decide (9223372036854775807 < r1.2))))] []) (qJ<|zA 3 u<|yC (b := decide (0 < r1.1)) 23 u (fun hb1=>zA 2 u<|zI (vb true)<|zU<|
  wS 26 (vb ((decide (0 < r1.1)) || (decide (9223372036854775807 < r1.2)))) u (by rw [hb1]; rfl)<|zK (gv (fun _ k=>k) [] (gq [0])))<|fun hb1=>zA 2 u<|zI (vb (decide (9223372036854775807 < r1.2)))<|zU<|
  wS 26 (vb ((decide (0 < r1.1)) || (decide (9223372036854775807 < r1.2)))) u (by rw [hb1]; rfl)<|zK (gv (fun _ k=>k) [] (gq [0])))<|fun _ k=>k<|zH u (qJ<|jno)<|wC<|zK (gv (fun _ k=>k) [] (gq [0])))<|fun s2 _ k=>k<|zB<|zA 1 u<|
  zI (vi (zQ (r1.2)))<|xG .s (e := zF .i64) 3 (0 : Int) (vi 0) vI u u<|fun x1 r_1 p2 c2=>zA 1 u<|zC<|zB<|zA 2 u<|jcp .s 0 0 u (vwW 0 u) (srR (gk 1)) u u<|fun r_2=>zA 1 u<|zC<|zD<|zO<|
  qO (fun s3 K=>∀ r_3,K [7] [(0, r_3)] [] [(8, vi s3.2)] [Ar (zF .i64) 3 r_3 p2 c2 (List.length x1) s3.1]) (gv (fun _ k=>k r_2) [0] (gq [0]))<|fun s3 _ k r_3=>k<|zD<|jA 4 u<|zH u (jC<|zO<|yU [] [] 10<|zV 7 [0,1,2] u<|
  jdV 3 0 u u u u<|fun u1 p3 c3 f1=>zV 4 [4,5] u<|jdW 6 0 u u u u<|fun x2=>qE 7<|jcp (.f u) 0 1 u (vwV f1) (srA 0 0 u) u u<|fun r_4=>zY<|zV 0 [8,9] u<|qQ<|qC<|qD (gv (fun _ k=>k r_4) [0] (gq [0])))<|qM<|
  qK<|qP<|qL<|zN<|jA 2 u<|zJ<|jrE 0 4 u u<|zP u u (fun _ k=>k p2 c2 r_3) [0] (gq [0])
theorem zO6 {qd : Prop} {y0 : wT} : qG qd prog 115 [.agg #[vi y0.1, sv p1 y0.2 c1]] [] [Rl vZ p1 c1 y0.2, Pt (yS 64 (zF .u8)) 0 0 yQ] (zG9 y0) fun r K=>∀ p2 c2 p3 c3,K (.tuple #[sv p2 r.1 c2, sv p3 r.2 c3]) [] [Rl (zF .i64) p2 c2 r.1, Rl (zF .i64) p3 c3 r.2] :=
 qB call115 func115 u fun X=>zB<|qU .s u<|fun b1=>zA 2 u<|zC<|wF (fun s1 K=>∀ p2 c2 r_1 p3 c3 r_2,K [1] [(1, r_1), (2, r_2)] [0,1] [(2, sv p2 s1.1 c2), (3, sv p3 s1.2 c3)] [Al (zF .i64) 3 r_1 p2 c2 s1.1, Al (zF .i64) 3 r_2 p3 c3 s1.2]) (yU [] [0] 9<|
  qN 1 0 u u<|qY 2 0 u u u u<|qN 4 0 u u<|qY 5 0 u u u u<|xU 0 6 (vC (.f u) (e := zF .i64) 3 [vi 3] ([3] : List Int) (rC vI rN)<|fun p4 c4=>zY<|xU 3 6 (
  qF (.f u) [] [] zGf u u u (cq [0])<|fun r1 _ k p5 c5 r_3=>k<|zY<|zV 2 [7] u<|qE 6<|xG (.f u) (e := zF .i64) 3 (0 : Int) (vi 0) vI u u<|fun x1 r_4 p6 c6=>zY<|zV 0 [8] u<|qQ<|
  zK (gv (fun _ k=>k p5 c5 r_3 p6 c6 r_4) [0,1,2] (gq [1,0,3,4]))) <|jcm<|xG (.f u) (e := zF .i64) 3 (0 : Int) (vi 0) vI u u<|fun x2 r_5 p7 c7=>zY<|qE 3<|qF (.f u) [] [] zGf u u u (cq [1])<|
  fun r2 _ k p8 c8 r_6=>k<|zY<|zV 0 [7,8] u<|qQ<|zK (gv (fun _ k=>k p8 c8 r_6 p7 c7 r_5) [0,2,1] (gq [0,1,3,4]))) <|jcm<|xG (.f u) (e := zF .i64) 3 (0 : Int) (vi 0) vI u u<|fun x3 r_7 p9 c9=>zY<|qE 0<|
  vC (.f u) (e := zF .i64) 3 [vi 3] ([3] : List Int) (rC vI rN)<|fun p10 c10=>zY<|qE 3<|qF (.f u) [] [] zGf u u u (cq [0])<|fun r3 _ k p11 c11 r_8=>k<|zY<|zV 0 [7,8] u<|qQ<|
  zK (gv (fun _ k=>k p11 c11 r_8 p9 c9 r_7) [0,2,1] (gq [0,2,3,4])))<|fun s1 _ k p2 c2 r_1 p3 c3 r_2=>k<|zB<|jalA .s (zX8 [] 40 (List.replicate 40 (0 : Int)) [])<|fun b2=>zC<|
  wF (fun s2 K=>K [1,2,3,4] [(3, bx b2 196 (zX8 [] 40 s2 []))] [0,1,2,3] [] []) (zB<|zS 1 u<|zT 0 u u u<|zA 2 u<|zC<|zO<|
  qO (fun s3 K=>K [1,2,3,4,27,28] [(3, bx b2 196 (zX8 [] 40 s3.2 []))] [0,1,2,3] [(29, vi s3.1)] []) (gv (fun _ k=>k) [0,1,2,3] (gq [0,1,2,3]))<|fun s3 _ k=>k<|jA 1 u<|zD<|zH u (jC<|zD<|zO<|zB<|qW 2 u u u<|fun x4 b3 o1=>
  qV true zLp (gk 0) u<|wM .s (.agg #[vi 0, vi 0])<|fun b4=>qS .s 4 u u u<|zC<|qJ<|zS 1 u<|zT 4 u u u<|jiL 40 u u<|fun u1 h1=>jlL 3 40 s3.2 [] [] h1 u u<|zA 1 u<|jiL 40 u u<|fun u2 h2=>
  jsL (zQ ((zUh s3.2 x4.2) + 1)) .s 3 40 s3.2 [] [] h2 u u u<|zU<|qC<|zN<|jB 2 u<|qD (gv (fun _ k=>k) [0,1,2,3] (gq [1,2,3,4])))<|qM<|qK<|qP<|qL<|zK (gv (fun _ k=>k) [0,1,2,3] (gq [0,1,2,3])))<|fun s2 _ k=>k<|zB<|
  zA 1 u<|vK (zF .i64) 3<|zC<|wF (fun s4 K=>∀ p12 c12 r_9,K [1,2,3,4] [(4, r_9)] [1,2,3,4] [(7, sv p12 s4 c12)] [Al (zF .i64) 3 r_9 p12 c12 s4]) (zB<|zS 0 u<|zT 0 u u u<|zA 1 u<|zC<|zO<|
  qO (fun s5 K=>∀ p13 c13 r_10,K [1,2,3,4,41] [(4, r_10)] [1,2,3,4] [(7, sv p13 s5.1 c13), (42, vi s5.2)] [Al (zF .i64) 3 r_10 p13 c13 s5.1]) (gv (fun _ k=>k none 0 []) [0,1,2,3,4] (gq [0,1,2,3,4]))<|fun s5 _ k p13 c13 r_10=>k<|jA 1 u<|
  zD<|zH u (jC<|zD<|zO<|jA 2 u<|zB<|zA 1 u<|jiL 40 u u<|fun u3 h3=>jlL 3 40 s2 [] [] h3 u u<|zA 1 u<|zC<|zH u (qJ<|zA 2 u<|vC .s (e := zF .i64) 3 [vi s5.2] ([s5.2] : List Int) (rC vI rN)<|fun p14 c14=>
  wP .s 4 1 u (gk 0) u u<|fun x5 r_11 p15 c15=>zA 1 u<|zU<|qC<|zN<|jB 2 u<|qD (gv (fun _ k=>k p15 c15 r_11) [0,1,2,3,4] (gq [0,3,4,5,6])))<|wC<|qC<|zN<|jB 2 u<|
  qD (gv (fun _ k=>k p13 c13 r_10) [0,1,2,3,4] (gq [0,1,2,3,4])))<|qM<|qK<|qP<|qL<|zK (gv (fun _ k=>k p13 c13 r_10) [0,1,2,3,4] (gq [0,1,2,3,4])))<|fun s4 _ k p12 c12 r_9=>k<|zD<|jA 1 u<|zO<|
  qO (fun s6 K=>∀ r_12 r_13 p16 c16 r_14,K [1,4] [(1, r_12), (2, r_13), (3, bx b2 196 (zX8 [] 40 s6.2.2.2.2 [])), (4, r_14)] [3,4] [(2, .slice p2 (List.length s1.1) c2), (3, .slice p3 (List.length s1.2) c3), (7, sv p16 s6.2.2.1 c16), (9, vi s6.2.2.2.1)] [Ar (zF .i64) 3 r_12 p2 c2 (List.length s1.1) s6.1, Ar (zF .i64) 3 r_13 p3 c3 (List.length s1.2) s6.2.1, Al (zF .i64) 3 r_14 p16 c16 s6.2.2.1]) (gv (fun _ k=>k r_1 r_2 p12 c12 r_9) [0,1,2,3,4] (gq [1,2,0,3,4]))<|
  fun s6 _ k r_12 r_13 p16 c16 r_14=>k<|zD<|jA 3 u<|zH u (jC<|zD<|zO<|
  wF (fun s7 K=>∀ r_15 r_16,K [1,2,3,4,7,9] [(1, r_15), (2, r_16)] [2,3,4] [] [Ar (zF .i64) 3 r_15 p2 c2 (List.length s1.1) s7.1, Ar (zF .i64) 3 r_16 p3 c3 (List.length s1.2) s7.2]) (jA 3 u<|zO<|
  qO (fun s8 K=>∀ r_17 r_18,K [1,2,3,4,7,9,59,60] [(1, r_17), (2, r_18)] [2,3,4] [(61, vi s8.2.2)] [Ar (zF .i64) 3 r_17 p2 c2 (List.length s1.1) s8.1, Ar (zF .i64) 3 r_18 p3 c3 (List.length s1.2) s8.2.1]) (gv (fun _ k=>k r_12 r_13) [0,1,2,3,4] (gq [0,1,2,3,4]))<|
  fun s8 _ k r_17 r_18=>k<|jA 1 u<|zD<|zH u (jC<|zD<|zO<|zB<|yL 2 u u u<|fun x6 h5 b5 hp1=>xD 4 2 sI false oI u hp1 h5 u<|zA 1 u<|zC<|qJ<|zA 5 u<|yL 0 u u u<|fun x7 h6 b6 hp2=>
  xJ .s 1 0 sI 1 false u hp2 h6 u u vI<|fun r_19=>yL 2 u u u<|fun x8 h7 b7 hp3=>xJ .s 2 2 sI s6.2.2.2.1 false u hp3 h7 u u vI<|fun r_20=>zU<|qC<|zN<|jB 2 u<|
  qD (gv (fun _ k=>k r_19 r_20) [0,1,2,3,4] (gq [1,0,4,5,6])))<|qM<|qK<|qP<|qL<|zK (gv (fun _ k=>k r_17 r_18) [0,1,2,3,4] (gq [0,1,2,3,4])))<|fun s7 _ k r_15 r_16=>k<|zB<|zA 1 u<|vK (zF .i64) 3<|zC<|zD<|jA 3 u<|zO<|
  qO (fun s9 K=>∀ r_21 r_22 p17 c17 r_23,K [1,2,3,4,9,73,74] [(1, r_21), (2, r_22), (3, bx b2 196 (zX8 [] 40 s9.2.2.2.2 [])), (5, r_23)] [3,4,5] [(12, sv p17 s9.2.2.1 c17), (75, vi s9.2.2.2.1)] [Ar (zF .i64) 3 r_21 p2 c2 (List.length s1.1) s9.1, Ar (zF .i64) 3 r_22 p3 c3 (List.length s1.2) s9.2.1, Al (zF .i64) 3 r_23 p17 c17 s9.2.2.1]) (gv (fun _ k=>k r_15 r_16 none 0 []) [0,1,2,3,4,5] (gq [1,2,0,3,4,5]))<|
  fun s9 _ k r_21 r_22 p17 c17 r_23=>k<|jA 1 u<|zD<|zH u (jC<|zD<|zO<|zB<|yL 3 u u u<|fun x9 h8 b8 hp4=>xD 4 3 sI false oI u hp4 h8 u<|zA 1 u<|zC<|zB<|qR 0 2 u u u<|zA 1 u<|
  qH zLC u (cq [4,5])<|fun r4 _ k p18 c18=>k<|zA 2 u<|zC<|zO<|
  qO (fun s10 K=>∀ r_24 r_25 p19 c19 r_26,K [1,2,3,4,9,73,74,75,81,82] [(1, r_24), (2, r_25), (3, bx b2 196 (zX8 [] 40 s10.2.2.2.2 [])), (5, r_26)] [4,0,5,6] [(12, sv p19 s10.2.2.1 c19), (83, vi s10.2.2.2.1)] [Ar (zF .i64) 3 r_24 p2 c2 (List.length s1.1) s10.1, Ar (zF .i64) 3 r_25 p3 c3 (List.length s1.2) s10.2.1, Al (zF .i64) 3 r_26 p19 c19 s10.2.2.1]) (gv (fun _ k=>k r_21 r_22 p17 c17 r_23) [0,1,2,3,4,5] (gq [1,2,3,4,0,5,6]))<|
  fun s10 _ k r_24 r_25 p19 c19 r_26=>k<|jA 1 u<|zD<|zH u (jC<|zD<|zO<|zB<|qW 4 u u u<|fun x10 b9 o2=>qV false oI (gk 0) u<|zA 1 u<|zC<|zD<|zB<|zA 2 u<|yL 1 u u u<|fun x11 h9 b10 hp5=>
  xD 1 1 sI false oI u hp5 h9 u<|zA 1 u<|zC<|zH u (qM<|qK<|qL<|zN<|jB 2 u<|qD (gv (fun _ k=>k r_24 r_25 p19 c19 r_26) [0,1,2,3,4,5] (gq [1,2,3,4,5,6,7])))<|jC<|zB<|zA 5 u<|yL 1 u u u<|fun x12 h10 b11 hp6=>
  xJ .s 1 1 sI 2 false u hp6 h10 u u vI<|fun r_27=>yL 3 u u u<|fun x13 h11 b12 hp7=>xJ .s 2 3 sI s6.2.2.2.1 false u hp7 h11 u u vI<|fun r_28=>zC<|zB<|qR 0 2 u u u<|zA 1 u<|qH zLC u (cq [8,9])<|
  fun r5 _ k p20 c20=>k<|zA 2 u<|zC<|zO<|
  qO (fun s11 K=>∀ p21 c21 r_29,K [1,2,3,4,9,73,74,75,81,82,83,101,102] [(3, bx b2 196 (zX8 [] 40 s11.2.2 [])), (5, r_29)] [2,1,7,8,0,9,10] [(12, sv p21 s11.1 c21), (103, vi s11.2.1)] [Al (zF .i64) 3 r_29 p21 c21 s11.1]) (gv (fun _ k=>k p19 c19 r_26) [0,1,2,3,4,5] (gq [6,2,1,7,8,0,9,10]))<|
  fun s11 _ k p21 c21 r_29=>k<|jA 1 u<|zD<|zH u (jC<|zD<|zO<|zB<|qW 5 u u u<|fun x14 b13 o3=>qV false oI (gk 0) u<|zA 1 u<|zC<|zB<|zA 1 u<|jiL 40 u u<|fun u4 h12=>jlL 3 40 s11.2.2 [] [] h12 u u<|zA 1 u<|
  jiL 40 u u<|fun u5 h13=>jsL (zQ ((zUh s11.2.2 x14) - 1)) .s 3 40 s11.2.2 [] [] h13 u u u<|zC<|wF (fun s12 K=>K [1,2,3,4,9,12,18,73,74,75,81,82,83,101,102,103] [] [2,3,1,4,5,6,7,8] [(122, vb s12)] []) (qJ<|zA 1 u<|
  jiL 40 u u<|fun u6 h14=>jlL 3 40 (zTy 40 s11.2.2 x14 (zQ ((zUh s11.2.2 x14) - 1))) [] [] h14 u u<|zA 2 u<|wG 116 u (zA 2 u<|yL 2 u u u<|fun x15 h15 b14 hp8=>xD 1 2 sI false oI u hp8 h15 u<|zA 1 u<|
  zI (vb (x15 == 3))<|zU<|zK (gv (fun _ k=>k) [0,1,2,3,4,5] (gq [2,3,1,4,5,6,7,8])))<|zA 5 u<|zI (vb false)<|zU<|zK (gv (fun _ k=>k) [0,1,2,3,4,5] (gq [2,3,1,4,5,6,7,8])))<|fun s12 _ k=>k<|zH u (qJ<|zA 2 u<|
  vC .s (e := zF .i64) 3 [vi x14] ([x14] : List Int) (rC vI rN)<|fun p22 c22=>wP .s 5 3 u (gk 0) u u<|fun x16 r_30 p23 c23=>zA 1 u<|zU<|qC<|zN<|jB 2 u<|qD (gv (fun _ k=>k p23 c23 r_30) [0,1,2,3,4,5] (gq [0,2,3,5,6,7,8,9]))
  )<|wC<|qC<|zN<|jB 2 u<|qD (gv (fun _ k=>k p21 c21 r_29) [0,1,2,3,4,5] (gq [2,0,1,3,4,5,6,7])))<|qM<|qK<|qP<|qL<|qC<|zN<|jB 2 u<|qD (gv (fun _ k=>k r_27 r_28 p21 c21 r_29) [0,1,2,3,4,5] (gq [1,2,0,3,4,6,7])))<|qM<|qK<|qP<|
  qL<|qC<|zN<|jB 2 u<|qD (gv (fun _ k=>k r_24 r_25 p19 c19 r_26) [0,1,2,3,4,5] (gq [0,1,2,3,5,6])))<|qM<|qK<|qP<|qL<|zN<|jB 2 u<|qC<|zN<|jB 3 u<|qD (gv (fun _ k=>k r_21 r_22 p17 c17 r_23) [0,1,2,3,5] (gq [0,1,2,4,5])))<|
  qM<|qK<|qP<|qL<|zN<|jA 4 u<|zJ<|wX 1 0 u u<|wX 2 2 u u<|jre 1 2 u u<|jre 1 3 u u<|wZ u (lT u (lT u lN)) (fun _ k=>k p2 c2 p3 c3) [] (gq [1,0])
theorem zKv {qd : Prop} {y0 : wT} : qG qd prog 66 [.agg #[vi y0.1, sv p1 y0.2 c1]] [] [Rl vZ p1 c1 y0.2, Pt (yS 64 (zF .u8)) 0 0 yQ] (zEn y0) fun r K=>∀ p2 c2,K (sv p2 r c2) [] [Rl (zF .i64) p2 c2 r] :=
 qB call66 func66 u fun X=>zB<|qU .s u<|fun b1=>zA 1 u<|zC<|zB<|qR 0 2 u u u<|qH zO6 u (cq [0,1])<|fun r1 _ k p2 c2 p3 c3=>k<|zA 5 u<|zC<|jA 2 u<|zJ<|zP u u (fun _ k=>k p2 c2) [] (gq [0])
theorem zG6 {qd : Prop} {y0 : List Int} {y1 : Int} : qG qd prog 65 [sv p1 y0 c1, vi y1] [] [Rl (zF .i64) p1 c1 y0] (zBw y0 y1) fun r K=>∀ p2 c2,K (sv p2 r c2) [] [Rl (zF .i64) p2 c2 r] :=
 qB call65 func65 u fun X=>jA 1 u<|zB<|zA 1 u<|vK (zF .i64) 3<|zC<|zD<|jA 3 u<|zO<|qO (fun s1 K=>∀ p2 c2 r_1,K [1,8,9] [(0, r_1)] [1] [(5, sv p2 s1.1 c2), (10, vi s1.2)] [Al (zF .i64) 3 r_1 p2 c2 s1.1]) (gv (fun _ k=>k none 0 []) [0] (gq [0,1]))<|
  fun s1 _ k p2 c2 r_1=>k<|jA 1 u<|zD<|zH u (jC<|zD<|zO<|zB<|zA 1 u<|qW 1 u u u<|fun x1 b1 o1=>qV false oI (gk 0) u<|zA 2 u<|zC<|jA 3 u<|zH u (qJ<|zA 2 u<|
  vC .s (e := zF .i64) 3 [vi s1.2] ([s1.2] : List Int) (rC vI rN)<|fun p3 c3=>wP .s 0 2 u (gk 0) u u<|fun x2 r_2 p4 c4=>zA 1 u<|zU<|qC<|zN<|jB 2 u<|qD (gv (fun _ k=>k p4 c4 r_2) [0] (gq [0,4])))<|wC<|qC<|zN<|jB 2 u<|
  qD (gv (fun _ k=>k p2 c2 r_1) [0] (gq [1,2])))<|qM<|qK<|qP<|qL<|zN<|jA 2 u<|zJ<|wX 0 0 u u<|zP u u (fun _ k=>k p2 c2) [] (gq [0])
theorem zHg {qd : Prop} {y0 : List vM} : qG qd prog 116 [sv p1 y0 c1] [] [Rl wN p1 c1 y0] (zCd y0) fun r K=>∀ p2 c2,K (sv p2 r c2) [] [Rl wN p2 c2 r] :=
 qB call116 func116 u fun X=>jA 1 u<|zD<|zB<|zA 1 u<|jv (fun h=>zWj h u underlying22)<|zC<|jnl (m1 := some ([] : List vM)) u (gk 0) (fun h=>by first|(rw [h];done)|(rw [h];rfl)|(simp [h,wI];done)) (jA 1 u<|zJ<|qA<|
  zP u u (fun _ k=>k none 0) [] ⟨gn,⟨⟩⟩)<|jC<|zB<|xN .s (e := wN) 67 [] ([] : List vM) rN<|fun r_1 p2 c2=>zA 1 u<|wP .s 0 0 u (gk 1) u u<|fun x1 r_2 p3 c3=>zA 1 u<|zC<|zJ<|wX 0 0 u u<|
  zP u u (fun _ k=>k p3 c3) [] (gq [0])
theorem zBg {qd : Prop} {y0 : List yV} : qG qd prog 118 [sv p1 y0 c1] [] [Rl wQ p1 c1 y0] (zBo y0) fun r K=>∀ p2 c2,K (sv p2 r c2) [] [Rl wQ p2 c2 r] :=
 qB call118 func118 u fun X=>jA 1 u<|zD<|zB<|zA 1 u<|jv (fun h=>zWj h u underlying24)<|zC<|jnl (m1 := some ([] : List yV)) u (gk 0) (fun h=>by first|(rw [h];done)|(rw [h];rfl)|(simp [h,wI];done)) (jA 1 u<|zJ<|qA<|
  zP u u (fun _ k=>k none 0) [] ⟨gn,⟨⟩⟩)<|jC<|zB<|xN .s (e := wQ) 75 [] ([] : List yV) rN<|fun r_1 p2 c2=>zA 1 u<|wP .s 0 0 u (gk 1) u u<|fun x1 r_2 p3 c3=>zA 1 u<|zC<|zJ<|wX 0 0 u u<|
  zP u u (fun _ k=>k p3 c3) [] (gq [0])
theorem zGd {qd : Prop} {y0 : List wK} : qG qd prog 117 [sv p1 y0 c1] [] [Rl wJ p1 c1 y0] (zEP y0) fun r K=>∀ p2 c2 r_1,K (sv p2 r c2) [r_1] [Al wJ 73 r_1 p2 c2 r] :=
 qB call117 func117 u fun X=>jA 1 u<|zD<|zB<|zA 1 u<|jv (fun h=>zWj h u underlying23)<|zC<|jnl (m1 := some ([] : List wK)) u (gk 0) (fun h=>by first|(rw [h];done)|(rw [h];rfl)|(simp [h,wI];done)) (jA 1 u<|zJ<|qA<|vK wJ 73<|
  jrE 0 2 u u<|zP u u (fun _ k=>k none 0 []) [0] (gq [0]))<|jC<|zB<|xN .s (e := wJ) 73 [] ([] : List wK) rN<|fun r_1 p2 c2=>zA 1 u<|wP .s 0 0 u (gk 1) u u<|fun x1 r_2 p3 c3=>zA 1 u<|zC<|zJ<|
  zP u u (fun _ k=>k p3 c3 r_2) [0] (gq [0])
theorem zNI {qd : Prop} {y0 : zR} {y1 : List zM} : qG qd prog 67 [.agg #[sv p1 y0.1 c1, sv p2 y0.2.1 c2, sv p3 y0.2.2 c3], sv p4 y1 c4] [] [Rl wN p1 c1 y0.1, Rl wJ p2 c2 y0.2.1, Rl wQ p3 c3 y0.2.2, Rl vA p4 c4 y1] (zFT y0 y1) fun r K=>∀ p5 c5 p6 c6 p7 c7,K (.agg #[sv p5 r.1 c5, sv p6 r.2.1 c6, sv p7 r.2.2 c7]) [] [Rl wN p5 c5 r.1, Rl wJ p6 c6 r.2.1, Rl wQ p7 c7 r.2.2] :=
 qB call67 func67 u fun X=>zB<|qU .s u<|fun b1=>wM .s (.agg #[.slice none 0 0, .slice none 0 0, .slice none 0 0])<|fun b2=>zC<|
  wF (fun s1 K=>∀ b3 p5 c5 p6 c6 r_1 p7 c7,K [1,2,4] [(2, bx b3 26 [sv p5 s1.1 c5, sv p6 s1.2.1 c6, sv p7 s1.2.2 c7]), (3, r_1)] [3,0,1,2] [(5, pt b3 0)] [Rl wN p5 c5 s1.1, Al wJ 73 r_1 p6 c6 s1.2.1, Rl wQ p7 c7 s1.2.2]) (
  yU [] [0] 12<|qN 0 0 u u<|qY 1 0 u u u u<|qN 3 1 u u<|qY 4 0 u u u u<|qN 6 2 u u<|qY 7 0 u u u u<|xU 2 10 (qF (.f u) [] [] zHg u u u (cq [0])<|fun r1 _ k p8 c8=>k<|
  zY<|xU 5 10 (qF (.f u) [] [] zGd u u u (cq [2])<|fun r2 _ k p9 c9 r_2=>k<|zY<|xU 8 10 (qF (.f u) [] [] zBg u u u (cq [4])<|fun r3 _ k p10 c10=>k<|zY<|
  wB 9 (.agg #[sv p8 r1 c8, sv p9 r2 c9, sv p10 r3 c10]) u<|qE 10<|wM (.f u) (.agg #[.slice none 0 0, .slice none 0 0, .slice none 0 0])<|fun b4=>zY<|qE 11<|qS (o := 0) (.f u) 3 u u u<|zY<|qQ<|
  zK (gv (fun _ k=>k b4 p8 c8 p9 c9 r_2 p10 c10) [0,1,3,2] (gq [2,1,0,6,3,4,5]))) <|wM (.f u) (.agg #[.slice none 0 0, .slice none 0 0, .slice none 0 0])<|fun b5=>zY<|qE 8<|
  qF (.f u) [] [] zBg u u u (cq [4])<|fun r4 _ k p11 c11=>k<|zY<|wB 9 (.agg #[sv p8 r1 c8, sv p9 r2 c9, sv p11 r4 c11]) u<|qE 11<|qS (o := 0) (.f u) 3 u u u<|zY<|qQ<|
  zK (gv (fun _ k=>k b5 p8 c8 p9 c9 r_2 p11 c11) [0,1,3,2] (gq [2,1,0,6,3,4,5]))) <|wM (.f u) (.agg #[.slice none 0 0, .slice none 0 0, .slice none 0 0])<|fun b6=>zY<|qE 5<|qF (.f u) [] [] zGd u u u (cq [2])<|
  fun r5 _ k p12 c12 r_3=>k<|zY<|qE 8<|qF (.f u) [] [] zBg u u u (cq [4])<|fun r6 _ k p13 c13=>k<|zY<|wB 9 (.agg #[sv p8 r1 c8, sv p12 r5 c12, sv p13 r6 c13]) u<|qE 11<|
  qS (o := 0) (.f u) 2 u u u<|zY<|qQ<|zK (gv (fun _ k=>k b6 p8 c8 p12 c12 r_3 p13 c13) [0,1,2,3] (gq [2,1,0,6,3,4,5]))) <|wM (.f u) (.agg #[.slice none 0 0, .slice none 0 0, .slice none 0 0])<|fun b7=>zY<|qE 2<|
  qF (.f u) [] [] zHg u u u (cq [0])<|fun r7 _ k p14 c14=>k<|zY<|qE 5<|qF (.f u) [] [] zGd u u u (cq [2])<|fun r8 _ k p15 c15 r_4=>k<|zY<|qE 8<|
  qF (.f u) [] [] zBg u u u (cq [4])<|fun r9 _ k p16 c16=>k<|zY<|wB 9 (.agg #[sv p14 r7 c14, sv p15 r8 c15, sv p16 r9 c16]) u<|qE 11<|qS (o := 0) (.f u) 2 u u u<|zY<|qQ<|
  zK (gv (fun _ k=>k b7 p14 c14 p15 c15 r_4 p16 c16) [0,1,2,3] (gq [2,1,0,6,3,4,5])))<|fun s1 _ k b3 p5 c5 p6 c6 r_1 p7 c7=>k<|
  wF (fun s2 K=>∀ p17 c17 r_5,K [4,5] [(0, []), (2, bx b3 26 [sv p5 s1.1 c5, sv p17 s2 c17, sv p7 s1.2.2 c7]), (3, r_5)] [0,2] [] [Al wJ 73 r_5 p17 c17 s2]) (zB<|zS 1 u<|zT 0 u u u<|zA 2 u<|zC<|zO<|
  qO (fun s3 K=>∀ p18 c18 r_6,K [1,2,4,5,21,22] [(2, bx b3 26 [sv p5 s1.1 c5, sv p18 s3.2 c18, sv p7 s1.2.2 c7]), (3, r_6)] [3,5,4,6,0,2] [(23, vi s3.1)] [Al wJ 73 r_6 p18 c18 s3.2]) (gv (fun _ k=>k p6 c6 r_1) [0,1,2,3] (gq [1,3,5,4,6,0,2]))<|
  fun s3 _ k p18 c18 r_6=>k<|jA 1 u<|zD<|zH u (jC<|zD<|zO<|zB<|zA 1 u<|qW 2 u u u<|fun x1 b8 o1=>qV true zMU (gk 0) u<|fun p19 c19=>wM .s (.agg #[vs [], vb false, vi 0, .slice none 0 0, vb false, vs []])<|fun b9=>
  zA 1 u<|qS .s 4 u u u<|zC<|yM [] [2, 4] 9<|qN 0 1 u u<|qY 1 2 u u u u<|zV 6 [2] u<|qN 3 3 u u<|qY 4 4 u u u u<|qE 5<|qF (.f u) [] [] zHj u u u (cq [0])<|
  fun r10 _ k p20 c20 r_7=>k<|zY<|tC 6 3 u u u u<|fun x2 h1 b10 hp1=>qN 7 3 u u<|wX 5 0 u u<|qE 8<|xJ (.f u) 3 4 sI.snd.snd.snd.fst r10 false u hp1 h1 u u (vL (gk 0))<|fun r_8=>zY<|qQ<|zN<|zB<|zS 2 u<|
  zT 0 u u u<|zA 2 u<|zC<|zO<|
  jbL (fun q_=>[bx b1 26 [sv p1 y0.1 c1, sv p2 y0.2.1 c2, sv p3 y0.2.2 c3], bx b2 26 [.slice none 0 0, .slice none 0 0, .slice none 0 0], bx b3 26 [sv p5 s1.1 c5, .slice p18 q_ c18, sv p7 s1.2.2 c7], r_8, bx b9 73 [vs x1.1, vb x1.2.1, vi x1.2.2.1, sv p19 x1.2.2.2.1 c19, vb x1.2.2.2.2.1, vs x1.2.2.2.2.2], []]) (gk 0) u<|
  qO (fun s4 K=>∀ p21 c21 r_9,K [1,2,4,5,6,7,21,22,23,37,38] [(2, bx b3 26 [sv p5 s1.1 c5, sv p21 s4.2 c21, sv p7 s1.2.2 c7]), (3, r_9)] [7,8,10,9,11,12,4] [(39, vi s4.1)] [Al wJ 73 r_9 p21 c21 s4.2]) (gv (fun _ k=>k p18 c18 r_8) [0,1,2,3,4,905] (gq [0,7,8,10,9,11,12,4]))<|
  fun s4 _ k p21 c21 r_9=>k<|jA 1 u<|zD<|zH u (jC<|zD<|zO<|zB<|qW 3 u u u<|fun x3 b11 o2=>qV true zKf (gk 0) u<|wM .s (.agg #[vs [], vi 0, vb false, vs []])<|fun b12=>qS .s 6 u u u<|zC<|
  wF (fun s5 K=>K [1,2,4,5,6,7,9,21,22,23,37,38,39] [] [2,3,4,5,6,1,7,8] [(58, vb s5)] []) (qJ<|zS 1 u<|zT 4 u u u<|zA 2 u<|wG 46 u (zS 0 u<|zT 6 u u u<|zS 0 u<|zT 4 u u u<|zA 1 u<|
  zI (vb (x3.1 == x1.1))<|zA 1 u<|wG 53 u (zA 1 u<|zS 2 u<|qR 6 2 u u u<|qH zIo u (cq [2])<|fun r11 _ k=>k<|zI (vb r11)<|zU<|zK (gv (fun _ k=>k) [0,1,2,3,4,905,6] (gq [2,3,4,5,6,1,7,8])))<|zA 4 u<|
  zI (vb false)<|zU<|zK (gv (fun _ k=>k) [0,1,2,3,4,905,6] (gq [2,3,4,5,6,1,7,8])))<|zA 5 u<|zI (vb false)<|zA 5 u<|zI (vb false)<|zU<|zK (gv (fun _ k=>k) [0,1,2,3,4,905,6] (gq [2,3,4,5,6,1,7,8])))<|fun s5 _ k=>k<|zH u (qJ<|
  zS 1 u<|zT 2 u u u<|zA 1 u<|zS 1 u<|zT 6 u u u<|yL 5 u u u<|fun x4 h2 b13 hp2=>zS 2 u<|xJ .s 3 5 sI.snd.snd.fst x3.2.1 false u hp2 h2 u u vI<|fun r_10=>zU<|qC<|zN<|jB 2 u<|
  jbL (fun q_=>[bx b1 26 [sv p1 y0.1 c1, sv p2 y0.2.1 c2, sv p3 y0.2.2 c3], bx b2 26 [.slice none 0 0, .slice none 0 0, .slice none 0 0], bx b3 26 [sv p5 s1.1 c5, .slice p21 q_ c21, sv p7 s1.2.2 c7], r_10, bx b9 73 [vs x1.1, vb x1.2.1, vi x1.2.2.1, sv p19 x1.2.2.2.1 c19, vb x1.2.2.2.2.1, vs x1.2.2.2.2.2], [], bx b12 75 [vs x3.1, vi x3.2.1, vb x3.2.2.1, vs x3.2.2.2]]) (gk 0) u<|
  qD (gv (fun _ k=>k p21 c21 r_10) [0,1,2,3,4,905] (gq [0,2,3,4,5,6,8,9])))<|wC<|qC<|zN<|jB 2 u<|qD (gv (fun _ k=>k p21 c21 r_9) [0,1,2,3,4,905] (gq [5,0,1,2,3,4,6,7])))<|qM<|qK<|qP<|qL<|qC<|zN<|jB 2 u<|
  qD (gv (fun _ k=>k p21 c21 r_9) [0,1,2,3] (gq [0,1,2,4,3,5,6])))<|qM<|qK<|qP<|qL<|zK (gv (fun _ k=>k p18 c18 r_6) [900,1,2,3] (gq [0,5,6])))<|fun s2 _ k p17 c17 r_5=>k<|zB<|qR 2 3 u u u<|qS .s 1 u u u<|zC<|zJ<|
  wX 3 0 u u<|wZ u (lC 1 (.agg #[sv p5 s1.1 c5, sv p17 s2 c17, sv p7 s1.2.2 c7]) u u lN) (fun _ k=>k p5 c5 p17 c17 p7 c7) [] (gq [2,0,3])
theorem zLD {qd : Prop} {y0 : zR} {y1 : vF} : qG qd prog 23 [.agg #[sv p1 y0.1 c1, sv p2 y0.2.1 c2, sv p3 y0.2.2 c3], .agg #[vi y1.1, vi y1.2]] [] [Rl wN p1 c1 y0.1, Rl wJ p2 c2 y0.2.1, Rl wQ p3 c3 y0.2.2, Pt (yS 64 (zF .u8)) 0 0 yQ] (zCw y0 y1) fun r K=>∀ p4 c4 p5 c5 p6 c6 p7 c7 p8 c8 p9 c9,K (.tuple #[.agg #[sv p4 r.1.1.1 c4, sv p5 r.1.1.2.1 c5, sv p6 r.1.1.2.2 c6, sv p7 r.1.2.1 c7, sv p8 r.1.2.2.1 c8, vi r.1.2.2.2.1, sv p9 r.1.2.2.2.2 c9], vi r.2]) [] [Rl wN p4 c4 r.1.1.1, Rl wJ p5 c5 r.1.1.2.1, Rl wQ p6 c6 r.1.1.2.2, Rl wR p7 c7 r.1.2.1, Rl uN p8 c8 r.1.2.2.1, Rl vZ p9 c9 r.1.2.2.2.2] :=
 qB call23 func23 u fun X=>zB<|qU .s u<|fun b1=>qU .s u<|fun b2=>wM .s (.agg #[.slice none 0 0, .slice none 0 0, .slice none 0 0, .slice none 0 0, .slice none 0 0, vi 0, .slice none 0 0])<|fun b3=>zA 1 u<|zC<|zB<|qR 0 3 u u u<|
  qH zO0 u (cq [0,1,2])<|fun r1 _ k p4 c4=>k<|zA 5 u<|zC<|zD<|jA 2 u<|zH u (zB<|zI (.agg #[.slice none 0 0, .slice none 0 0, .slice none 0 0, .slice none 0 0, .slice none 0 0, vi 0, .slice none 0 0])<|zA 1 u<|
  qS .s 2 u u u<|zA 1 u<|zC<|zJ<|qA<|
  wZ u (lC 2 (.agg #[.slice none 0 0, .slice none 0 0, .slice none 0 0, .slice none 0 0, .slice none 0 0, vi 0, .slice none 0 0]) u u (lT u lN)) (fun _ k=>k none 0 none 0 none 0 none 0 none 0 none 0) [] ⟨gn,gn,gn,gn,gn,gn,⟨⟩⟩)<|jC<|
  zD<|xH (fun K=>K [2,3,4,6] [] [0,1,2,3,4] [(37, vb (if y1.1 != 1 then (y1.1 != 2) || ((y1.2 != 1) && (y1.2 != 2)) else (y1.2 != 1) && (y1.2 != 2)))] []) (qJ<|zS 0 u<|zT 1 u u u<|zA 2 u<|
  yC (b := y1.1 != 1) 23 u (fun hb1=>zS 0 u<|zT 1 u u u<|zA 1 u<|zI (vb (y1.1 != 2))<|zA 1 u<|yC (b := y1.1 != 2) 28 u (fun hb2=>zA 8 u<|zI (vb true)<|zU<|
  wS 37 (vb (if y1.1 != 1 then (y1.1 != 2) || ((y1.2 != 1) && (y1.2 != 2)) else (y1.2 != 1) && (y1.2 != 2))) u (by rw [hb1,hb2]; rfl)<|zK (gv (fun _ k=>k) [0,1,2] (gq [0,1,2,3,4])))<|fun hb2=>zS 1 u<|zT 1 u u u<|zA 2 u<|
  yC (b := y1.2 != 1) 32 u (fun hb3=>zS 1 u<|zT 1 u u u<|zA 1 u<|zI (vb (y1.2 != 2))<|zI (vb (y1.2 != 2))<|zU<|
  wS 37 (vb (if y1.1 != 1 then (y1.1 != 2) || ((y1.2 != 1) && (y1.2 != 2)) else (y1.2 != 1) && (y1.2 != 2))) u (by rw [hb1,hb2,hb3]; rfl)<|zK (gv (fun _ k=>k) [0,1,2] (gq [0,1,2,3,4])))<|fun hb3=>zA 3 u<|zI (vb false)<|
  zI (vb false)<|zU<|wS 37 (vb (if y1.1 != 1 then (y1.1 != 2) || ((y1.2 != 1) && (y1.2 != 2)) else (y1.2 != 1) && (y1.2 != 2))) u (by rw [hb1,hb2,hb3]; rfl)<|zK (gv (fun _ k=>k) [0,1,2] (gq [0,1,2,3,4])))<|fun hb1=>zA 3 u<|
  zI (vb false)<|zA 1 u<|zS 1 u<|zT 1 u u u<|zA 2 u<|yC (b := y1.2 != 1) 32 u (fun hb4=>zS 1 u<|zT 1 u u u<|zA 1 u<|zI (vb (y1.2 != 2))<|zI (vb (y1.2 != 2))<|zU<|
  wS 37 (vb (if y1.1 != 1 then (y1.1 != 2) || ((y1.2 != 1) && (y1.2 != 2)) else (y1.2 != 1) && (y1.2 != 2))) u (by rw [hb1,hb4]; rfl)<|zK (gv (fun _ k=>k) [0,1,2] (gq [0,1,2,3,4])))<|fun hb4=>zA 3 u<|zI (vb false)<|zI (vb false)<|
  zU<|wS 37 (vb (if y1.1 != 1 then (y1.1 != 2) || ((y1.2 != 1) && (y1.2 != 2)) else (y1.2 != 1) && (y1.2 != 2))) u (by rw [hb1,hb4]; rfl)<|zK (gv (fun _ k=>k) [0,1,2] (gq [0,1,2,3,4])))<|fun _ k=>k<|zH u (zB<|
  zI (.agg #[.slice none 0 0, .slice none 0 0, .slice none 0 0, .slice none 0 0, .slice none 0 0, vi 0, .slice none 0 0])<|qS .s 2 u u u<|zA 1 u<|zC<|zJ<|qA<|
  wZ u (lC 2 (.agg #[.slice none 0 0, .slice none 0 0, .slice none 0 0, .slice none 0 0, .slice none 0 0, vi 0, .slice none 0 0]) u u (lT u lN)) (fun _ k=>k none 0 none 0 none 0 none 0 none 0 none 0) [] ⟨gn,gn,gn,gn,gn,gn,⟨⟩⟩)<|jC<|
  zB<|zA 2 u<|qR 0 3 u u u<|zA 1 u<|qR 1 2 u u u<|qH zLG u (cq [1,2,3,0])<|fun r2 _ k p5 c5=>k<|qH zM0 u (cq [0])<|fun r3 _ k p6 c6=>k<|zA 3 u<|wM .s (.agg #[vi 0, .slice none 0 0])<|
  fun b4=>qS .s 3 u u u<|zA 1 u<|zC<|zD<|jA 2 u<|zH u (zB<|zI (.agg #[.slice none 0 0, .slice none 0 0, .slice none 0 0, .slice none 0 0, .slice none 0 0, vi 0, .slice none 0 0])<|zA 1 u<|qS .s 2 u u u<|
  zA 1 u<|zC<|zJ<|qA<|
  wZ u (lC 2 (.agg #[.slice none 0 0, .slice none 0 0, .slice none 0 0, .slice none 0 0, .slice none 0 0, vi 0, .slice none 0 0]) u u (lT u lN)) (fun _ k=>k none 0 none 0 none 0 none 0 none 0 none 0) [] ⟨gn,gn,gn,gn,gn,gn,⟨⟩⟩)<|jC<|
  zB<|zA 1 u<|qR 3 2 u u u<|qH zKv u (cq [0,6])<|fun r4 _ k p7 c7=>k<|qH zG6 u (cq [0])<|fun r5 _ k p8 c8=>k<|qH zHh u (cq [4,0])<|fun r6 _ k p9 c9=>k<|zA 1 u<|zC<|zB<|
  qR 0 3 u u u<|zA 1 u<|qH zNI u (cq [6,7,8,0])<|fun r7 _ k p10 c10 p11 c11 p12 c12=>k<|zA 1 u<|
  zI (.agg #[sv p10 r7.1 c10, sv p11 r7.2.1 c11, sv p12 r7.2.2 c12, sv p4 r1.1 c4, .slice none 0 0, vi 0, .slice none 0 0])<|
  wM .s (.agg #[.slice none 0 0, .slice none 0 0, .slice none 0 0, .slice none 0 0, .slice none 0 0, vi 0, .slice none 0 0])<|fun b5=>qS .s 4 u u u<|zC<|zB<|zS 0 u<|qR 4 3 u u u<|zA 1 u<|qR 1 2 u u u<|
  qH zLG u (cq [0,1,2,8])<|fun r8 _ k p13 c13=>k<|zS 4 u<|qS .s 4 u u u<|zC<|zD<|zB<|zA 2 u<|zS 4 u<|zT 4 u u u<|qH zM0 u (cq [0])<|fun r9 _ k p14 c14=>k<|zA 3 u<|zS 5 u<|
  qS .s 4 u u u<|zA 1 u<|zC<|jA 2 u<|zH u (zB<|zI (.agg #[.slice none 0 0, .slice none 0 0, .slice none 0 0, .slice none 0 0, .slice none 0 0, vi 0, .slice none 0 0])<|zA 1 u<|qS .s 2 u u u<|zA 1 u<|zC<|zJ<|
  qA<|wZ u (lC 2 (.agg #[.slice none 0 0, .slice none 0 0, .slice none 0 0, .slice none 0 0, .slice none 0 0, vi 0, .slice none 0 0]) u u (lT u lN)) (fun _ k=>k none 0 none 0 none 0 none 0 none 0 none 0) [] ⟨gn,gn,gn,gn,gn,gn,⟨⟩⟩
  )<|jC<|zB<|qR 4 7 u u u<|qS .s 2 u u u<|zA 1 u<|zC<|zJ<|
  wZ u (lC 2 (.agg #[sv p10 r7.1 c10, sv p11 r7.2.1 c11, sv p12 r7.2.2 c12, sv p4 r1.1 c4, sv p13 r8 c13, vi r9.1.1, sv p14 r9.1.2 c14]) u u (lT u lN)) (fun _ k=>k p10 c10 p11 c11 p12 c12 p4 c4 p13 c13 p14 c14) [] (gq [2,3,4,10,1,0])
theorem zGu {qd : Prop} : qG qd prog 263 [.func (.func 265) #[] #[]] [] [] (zCl) fun r K=>∀ b1,K (.func (.func 289) #[] #[pt b1 0]) [bx b1 233 [.func (.func 265) #[] #[]]] [] :=
 qB call263 func263 u fun X=>zB<|qU .s u<|fun b1=>zA 1 u<|zC<|jA 2 u<|zJ<|zP u u (fun _ k=>k b1) [0] ⟨⟩
theorem zGk {qd : Prop} : qG qd prog 263 [.func (.func 267) #[] #[]] [] [] (zCQ) fun r K=>∀ b1,K (.func (.func 289) #[] #[pt b1 0]) [bx b1 233 [.func (.func 267) #[] #[]]] [] :=
 qB call263 func263 u fun X=>zB<|qU .s u<|fun b1=>zA 1 u<|zC<|jA 2 u<|zJ<|zP u u (fun _ k=>k b1) [0] ⟨⟩
theorem zHt {qd : Prop} : qG qd prog 263 [.func (.func 266) #[] #[]] [] [] (zDu) fun r K=>∀ b1,K (.func (.func 289) #[] #[pt b1 0]) [bx b1 233 [.func (.func 266) #[] #[]]] [] :=
 qB call263 func263 u fun X=>zB<|qU .s u<|fun b1=>zA 1 u<|zC<|jA 2 u<|zJ<|zP u u (fun _ k=>k b1) [0] ⟨⟩
theorem zIX {qd : Prop} : qG qd prog 263 [.func (.func 264) #[] #[]] [] [] (zEE) fun r K=>∀ b1,K (.func (.func 289) #[] #[pt b1 0]) [bx b1 233 [.func (.func 264) #[] #[]]] [] :=
 qB call263 func263 u fun X=>zB<|qU .s u<|fun b1=>zA 1 u<|zC<|jA 2 u<|zJ<|zP u u (fun _ k=>k b1) [0] ⟨⟩
theorem zIZ {qd : Prop} : qG qd prog 263 [.func (.func 288) #[] #[pt b1 0]] [bx b1 254 [.func (.func 262) #[] #[]]] [] (zEF) fun r K=>∀ b2,K (.func (.func 289) #[] #[pt b2 0]) [bx b1 254 [.func (.func 262) #[] #[]], bx b2 233 [.func (.func 288) #[] #[pt b1 0]]] [] :=
 qB call263 func263 u fun X=>zB<|qU .s u<|fun b2=>zA 1 u<|zC<|jA 2 u<|zJ<|zP u u (fun _ k=>k b2) [0,1] ⟨⟩
theorem zHF {qd : Prop} : qG qd prog 261 [.func (.func 262) #[] #[]] [] [] (zDC) fun r K=>∀ b1 b2,K (.func (.func 289) #[] #[pt b1 0]) [bx b1 233 [.func (.func 288) #[] #[pt b2 0]], bx b2 254 [.func (.func 262) #[] #[]]] [] :=
 qB call261 func261 u fun X=>zB<|qU .s u<|fun b1=>zA 1 u<|zC<|zB<|zA 1 u<|qF .s [0] [] zIZ u u u ⟨⟩<|fun r1 _ k b2=>k<|zA 1 u<|zC<|zJ<|zP u u (fun _ k=>k b2 b1) [1,0] ⟨⟩
theorem zHb {qd : Prop} : qG qd prog 263 [.func (.func 288) #[] #[pt b1 0]] [bx b1 254 [.func (.func 269) #[] #[]]] [] (zDU) fun r K=>∀ b2,K (.func (.func 289) #[] #[pt b2 0]) [bx b1 254 [.func (.func 269) #[] #[]], bx b2 233 [.func (.func 288) #[] #[pt b1 0]]] [] :=
 qB call263 func263 u fun X=>zB<|qU .s u<|fun b2=>zA 1 u<|zC<|jA 2 u<|zJ<|zP u u (fun _ k=>k b2) [0,1] ⟨⟩
theorem zJH {qd : Prop} : qG qd prog 261 [.func (.func 269) #[] #[]] [] [] (zF8) fun r K=>∀ b1 b2,K (.func (.func 289) #[] #[pt b1 0]) [bx b1 233 [.func (.func 288) #[] #[pt b2 0]], bx b2 254 [.func (.func 269) #[] #[]]] [] :=
 qB call261 func261 u fun X=>zB<|qU .s u<|fun b1=>zA 1 u<|zC<|zB<|zA 1 u<|qF .s [0] [] zHb u u u ⟨⟩<|fun r1 _ k b2=>k<|zA 1 u<|zC<|zJ<|zP u u (fun _ k=>k b2 b1) [1,0] ⟨⟩
theorem zHd {qd : Prop} : qG qd prog 263 [.func (.func 288) #[] #[pt b1 0]] [bx b1 254 [.func (.func 268) #[] #[]]] [] (zDV) fun r K=>∀ b2,K (.func (.func 289) #[] #[pt b2 0]) [bx b1 254 [.func (.func 268) #[] #[]], bx b2 233 [.func (.func 288) #[] #[pt b1 0]]] [] :=
 qB call263 func263 u fun X=>zB<|qU .s u<|fun b2=>zA 1 u<|zC<|jA 2 u<|zJ<|zP u u (fun _ k=>k b2) [0,1] ⟨⟩
theorem zJU {qd : Prop} : qG qd prog 261 [.func (.func 268) #[] #[]] [] [] (zFj) fun r K=>∀ b1 b2,K (.func (.func 289) #[] #[pt b1 0]) [bx b1 233 [.func (.func 288) #[] #[pt b2 0]], bx b2 254 [.func (.func 268) #[] #[]]] [] :=
 qB call261 func261 u fun X=>zB<|qU .s u<|fun b1=>zA 1 u<|zC<|zB<|zA 1 u<|qF .s [0] [] zHd u u u ⟨⟩<|fun r1 _ k b2=>k<|zA 1 u<|zC<|zJ<|zP u u (fun _ k=>k b2 b1) [1,0] ⟨⟩
theorem zO4 {qd : Prop} : qG qd prog 235 [] [] [] (zI6) fun r K=>∀ b1 b2 b3 b4 b5 b6 b7 b8 b9 b10 b11,K (.slice (some ⟨b1, 0, none⟩) 10 10) [bx b1 233 [.nilFunc, .func (.func 289) #[] #[pt b2 0], .func (.func 289) #[] #[pt b4 0], .func (.func 289) #[] #[pt b5 0], .func (.func 289) #[] #[pt b6 0], .func (.func 289) #[] #[pt b7 0], .func (.func 289) #[] #[pt b8 0], .func (.func 289) #[] #[pt b10 0], .func (.func 270) #[] #[], .func (.func 271) #[] #[]], bx b2 233 [.func (.func 288) #[] #[pt b3 0]], bx b3 254 [.func (.func 262) #[] #[]], bx b4 233 [.func (.func 264) #[] #[]], bx b5 233 [.func (.func 265) #[] #[]], bx b6 233 [.func (.func 266) #[] #[]], bx b7 233 [.func (.func 267) #[] #[]], bx b8 233 [.func (.func 288) #[] #[pt b9 0]], bx b9 254 [.func (.func 268) #[] #[]], bx b10 233 [.func (.func 288) #[] #[pt b11 0]], bx b11 254 [.func (.func 269) #[] #[]]] [] :=
 qB call235 func235 u fun X=>jA 1 u<|zB<|qH zHF u ⟨⟩<|fun r1 _ k b1 b2=>k<|qH zIX u ⟨⟩<|fun r2 _ k b3=>k<|qH zGu u ⟨⟩<|fun r3 _ k b4=>k<|
  qH zHt u ⟨⟩<|fun r4 _ k b5=>k<|qH zGk u ⟨⟩<|fun r5 _ k b6=>k<|qH zJU u ⟨⟩<|fun r6 _ k b7 b8=>k<|qH zJH u ⟨⟩<|
  fun r7 _ k b9 b10=>k<|
  jbF .s 233 [.nilFunc, .func (.func 289) #[] #[pt b1 0], .func (.func 289) #[] #[pt b3 0], .func (.func 289) #[] #[pt b4 0], .func (.func 289) #[] #[pt b5 0], .func (.func 289) #[] #[pt b6 0], .func (.func 289) #[] #[pt b7 0], .func (.func 289) #[] #[pt b9 0], .func (.func 270) #[] #[], .func (.func 271) #[] #[]]<|
  fun b11=>zA 1 u<|zC<|zJ<|zP u u (fun _ k=>k b11 b1 b2 b3 b4 b5 b6 b7 b8 b9 b10) [10,0,1,2,3,4,5,6,7,8,9] ⟨⟩
theorem zN2 {qd : Prop} {y0 : wT} : qG qd prog 262 [.agg #[vi y0.1, sv p1 y0.2 c1]] [] [Rl vZ p1 c1 y0.2, Pt (yS 64 (zF .u8)) 0 0 yQ] (zH7 y0) fun r K=>∀ p2 c2,K (.tuple #[sv p2 r.1 c2, vi r.2]) [] [Rl (zF .i64) p2 c2 r.1] :=
 qB call262 func262 u fun X=>zB<|qU .s u<|fun b1=>zA 2 u<|zC<|zB<|qR 0 2 u u u<|qH zKv u (cq [0,1])<|fun r1 _ k p2 c2=>k<|zA 2 u<|zC<|zJ<|wZ u (lT u (lT u lN)) (fun _ k=>k p2 c2) [] (gq [0])
theorem zGg {qd : Prop} {y0 : wT} : yR qd prog 288 [.agg #[vi y0.1, sv p1 y0.2 c1], pt b1 0] [bx b1 254 [.func (.func 262) #[] #[]]] [Rl vZ p1 c1 y0.2, Pt (yS 64 (zF .u8)) 0 0 yQ] (zA3 y0) fun L r K=>∀ p2 c2,K (.tuple #[sv p2 r.1 c2, vi r.2]) L [Rl (wO (zF .i64)) p2 c2 r.1] :=
 qB call288 func288 u fun X=>zB<|qU .s u<|fun b2=>zA 2 u<|zC<|zB<|zT 0 u u u<|qR 1 2 u u u<|qF .s [] [] zN2 u u u (cq [0,1])<|fun r1 _ k p2 c2=>k<|zA 5 u<|zC<|zD<|jA 2 u<|zH u (jA 3 u<|zJ<|qA<|
  wZ u (lT u (lT u lN)) (fun _ k=>k none 0) [0] ⟨gn,⟨⟩⟩)<|jC<|zB<|zA 1 u<|vC .s (e := wO (zF .i64)) 31 [sv p2 r1.1 c2] ([r1.1] : List (List Int)) (rC (vL (gk 0)) rN)<|fun p3 c3=>zA 2 u<|zC<|zJ<|
  wZ u (lT u (lT u lN)) (fun _ k=>k p3 c3) [0] (gq [0])
theorem zHe {qd : Prop} {y0 : wT} : yR qd prog 289 [.agg #[vi y0.1, sv p1 y0.2 c1], pt b1 0] [bx b1 233 [.func (.func 288) #[] #[pt b2 0]], bx b2 254 [.func (.func 262) #[] #[]]] [Rl vZ p1 c1 y0.2, Pt (yS 64 (zF .u8)) 0 0 yQ] (zAi y0) fun L r K=>∀ p2 c2,K (.tuple #[sv p2 r.1 c2, vi r.2]) L [Rl (wO (zF .i64)) p2 c2 r.1] :=
 qB call289 func289 u fun X=>zB<|qU .s u<|fun b3=>zA 2 u<|zC<|zB<|zT 0 u u u<|qR 2 2 u u u<|qF .s [1] [] zGg u u u (cq [0,1])<|fun r1 _ k p2 c2=>k<|zA 5 u<|zC<|zD<|jA 2 u<|zH u (jA 3 u<|zJ<|
  qA<|wZ u (lT u (lT u lN)) (fun _ k=>k none 0) [0,1] ⟨gn,⟨⟩⟩)<|jC<|zB<|zA 1 u<|vK (wO (zF .i64)) 31<|zC<|zD<|jA 3 u<|zO<|
  qO (fun s1 K=>∀ p3 c3 r_1,K [19,20] [(2, []), (3, r_1)] [1,3] [(7, sv p3 s1.1 c3), (21, vi s1.2)] [Al (wO (zF .i64)) 31 r_1 p3 c3 s1.1]) (gv (fun _ k=>k none 0 []) [0,1,902,3] (gq [0,1,3]))<|fun s1 _ k p3 c3 r_1=>k<|jA 1 u<|zD<|
  zH u (jC<|zD<|zO<|zB<|qW 1 u u u<|fun x1 b4 o1=>qV false oL (gk 0) u<|fun p4 c4=>zA 1 u<|zC<|qJ<|zA 2 u<|qH zG6 u (cq [0])<|fun r2 _ k p5 c5=>k<|
  vC .s (e := wO (zF .i64)) 31 [sv p5 r2 c5] ([r2] : List (List Int)) (rC (vL (gk 0)) rN)<|fun p6 c6=>wP .s 3 4 u (gk 0) u u<|fun x2 r_2 p7 c7=>zA 1 u<|zU<|qC<|zN<|jB 2 u<|
  qD (gv (fun _ k=>k p7 c7 r_2) [0,1,902,3] (gq [0,6,7])))<|qM<|qK<|qP<|qL<|zN<|jA 3 u<|zJ<|wX 3 0 u u<|wZ u (lT u (lT u lN)) (fun _ k=>k p3 c3) [0,1] (gq [0])
theorem zIa {qd : Prop} {y0 : wT} : yR qd prog 288 [.agg #[vi y0.1, sv p1 y0.2 c1], pt b1 0] [bx b1 254 [.func (.func 268) #[] #[]]] [Rl vZ p1 c1 y0.2] (zEh y0) fun L r K=>∀ p2 c2,K (.tuple #[sv p2 r.1 c2, vi r.2]) L [Rl (wO (zF .i64)) p2 c2 r.1] :=
 qB call288 func288 u fun X=>zB<|qU .s u<|fun b2=>zA 2 u<|zC<|zB<|zT 0 u u u<|qR 1 2 u u u<|jno
theorem zGv {qd : Prop} {y0 : wT} : yR qd prog 289 [.agg #[vi y0.1, sv p1 y0.2 c1], pt b1 0] [bx b1 233 [.func (.func 288) #[] #[pt b2 0]], bx b2 254 [.func (.func 268) #[] #[]]] [Rl vZ p1 c1 y0.2] (zCn y0) fun L r K=>∀ p2 c2,K (.tuple #[sv p2 r.1 c2, vi r.2]) L [Rl (wO (zF .i64)) p2 c2 r.1] :=
 qB call289 func289 u fun X=>zB<|qU .s u<|fun b3=>zA 2 u<|zC<|zB<|zT 0 u u u<|qR 2 2 u u u<|qF .s [1] [] zIa u u u (cq [0])<|fun r1 _ k p2 c2=>k<|zA 5 u<|zC<|zD<|jA 2 u<|zH u (jA 3 u<|zJ<|qA<|
  wZ u (lT u (lT u lN)) (fun _ k=>k none 0) [0,1] ⟨gn,⟨⟩⟩)<|jC<|zB<|zA 1 u<|vK (wO (zF .i64)) 31<|zC<|zD<|jA 3 u<|zO<|
  qO (fun s1 K=>∀ p3 c3 r_1,K [19,20] [(2, []), (3, r_1)] [1] [(7, sv p3 s1.1 c3), (21, vi s1.2)] [Al (wO (zF .i64)) 31 r_1 p3 c3 s1.1]) (gv (fun _ k=>k none 0 []) [0,1,902,3] (gq [0,1]))<|fun s1 _ k p3 c3 r_1=>k<|jA 1 u<|zD<|
  zH u (jC<|zD<|zO<|zB<|qW 1 u u u<|fun x1 b4 o1=>qV false oL (gk 0) u<|fun p4 c4=>zA 1 u<|zC<|qJ<|zA 2 u<|qH zG6 u (cq [0])<|fun r2 _ k p5 c5=>k<|
  vC .s (e := wO (zF .i64)) 31 [sv p5 r2 c5] ([r2] : List (List Int)) (rC (vL (gk 0)) rN)<|fun p6 c6=>wP .s 3 4 u (gk 0) u u<|fun x2 r_2 p7 c7=>zA 1 u<|zU<|qC<|zN<|jB 2 u<|
  qD (gv (fun _ k=>k p7 c7 r_2) [0,1,902,3] (gq [0,6])))<|qM<|qK<|qP<|qL<|zN<|jA 3 u<|zJ<|wX 3 0 u u<|wZ u (lT u (lT u lN)) (fun _ k=>k p3 c3) [0,1] (gq [0])
theorem zI8 {qd : Prop} {y0 : wT} : yR qd prog 288 [.agg #[vi y0.1, sv p1 y0.2 c1], pt b1 0] [bx b1 254 [.func (.func 269) #[] #[]]] [Rl vZ p1 c1 y0.2] (zEi y0) fun L r K=>∀ p2 c2,K (.tuple #[sv p2 r.1 c2, vi r.2]) L [Rl (wO (zF .i64)) p2 c2 r.1] :=
 qB call288 func288 u fun X=>zB<|qU .s u<|fun b2=>zA 2 u<|zC<|zB<|zT 0 u u u<|qR 1 2 u u u<|jno
theorem zGw {qd : Prop} {y0 : wT} : yR qd prog 289 [.agg #[vi y0.1, sv p1 y0.2 c1], pt b1 0] [bx b1 233 [.func (.func 288) #[] #[pt b2 0]], bx b2 254 [.func (.func 269) #[] #[]]] [Rl vZ p1 c1 y0.2] (zCm y0) fun L r K=>∀ p2 c2,K (.tuple #[sv p2 r.1 c2, vi r.2]) L [Rl (wO (zF .i64)) p2 c2 r.1] :=
 qB call289 func289 u fun X=>zB<|qU .s u<|fun b3=>zA 2 u<|zC<|zB<|zT 0 u u u<|qR 2 2 u u u<|qF .s [1] [] zI8 u u u (cq [0])<|fun r1 _ k p2 c2=>k<|zA 5 u<|zC<|zD<|jA 2 u<|zH u (jA 3 u<|zJ<|qA<|
  wZ u (lT u (lT u lN)) (fun _ k=>k none 0) [0,1] ⟨gn,⟨⟩⟩)<|jC<|zB<|zA 1 u<|vK (wO (zF .i64)) 31<|zC<|zD<|jA 3 u<|zO<|
  qO (fun s1 K=>∀ p3 c3 r_1,K [19,20] [(2, []), (3, r_1)] [1] [(7, sv p3 s1.1 c3), (21, vi s1.2)] [Al (wO (zF .i64)) 31 r_1 p3 c3 s1.1]) (gv (fun _ k=>k none 0 []) [0,1,902,3] (gq [0,1]))<|fun s1 _ k p3 c3 r_1=>k<|jA 1 u<|zD<|
  zH u (jC<|zD<|zO<|zB<|qW 1 u u u<|fun x1 b4 o1=>qV false oL (gk 0) u<|fun p4 c4=>zA 1 u<|zC<|qJ<|zA 2 u<|qH zG6 u (cq [0])<|fun r2 _ k p5 c5=>k<|
  vC .s (e := wO (zF .i64)) 31 [sv p5 r2 c5] ([r2] : List (List Int)) (rC (vL (gk 0)) rN)<|fun p6 c6=>wP .s 3 4 u (gk 0) u u<|fun x2 r_2 p7 c7=>zA 1 u<|zU<|qC<|zN<|jB 2 u<|
  qD (gv (fun _ k=>k p7 c7 r_2) [0,1,902,3] (gq [0,6])))<|qM<|qK<|qP<|qL<|zN<|jA 3 u<|zJ<|wX 3 0 u u<|wZ u (lT u (lT u lN)) (fun _ k=>k p3 c3) [0,1] (gq [0])
theorem zGS {qd : Prop} {y0 : wT} : yR qd prog 289 [.agg #[vi y0.1, sv p1 y0.2 c1], pt b1 0] [bx b1 233 [.func (.func 265) #[] #[]]] [Rl vZ p1 c1 y0.2] (zCL y0) fun L r K=>∀ p2 c2,K (.tuple #[sv p2 r.1 c2, vi r.2]) L [Rl (wO (zF .i64)) p2 c2 r.1] :=
 qB call289 func289 u fun X=>zB<|qU .s u<|fun b2=>zA 2 u<|zC<|zB<|zT 0 u u u<|qR 1 2 u u u<|jno
theorem zGN {qd : Prop} {y0 : wT} : yR qd prog 289 [.agg #[vi y0.1, sv p1 y0.2 c1], pt b1 0] [bx b1 233 [.func (.func 267) #[] #[]]] [Rl vZ p1 c1 y0.2] (zBz y0) fun L r K=>∀ p2 c2,K (.tuple #[sv p2 r.1 c2, vi r.2]) L [Rl (wO (zF .i64)) p2 c2 r.1] :=
 qB call289 func289 u fun X=>zB<|qU .s u<|fun b2=>zA 2 u<|zC<|zB<|zT 0 u u u<|qR 1 2 u u u<|jno
theorem zH5 {qd : Prop} {y0 : wT} : yR qd prog 289 [.agg #[vi y0.1, sv p1 y0.2 c1], pt b1 0] [bx b1 233 [.func (.func 266) #[] #[]]] [Rl vZ p1 c1 y0.2] (zCx y0) fun L r K=>∀ p2 c2,K (.tuple #[sv p2 r.1 c2, vi r.2]) L [Rl (wO (zF .i64)) p2 c2 r.1] :=
 qB call289 func289 u fun X=>zB<|qU .s u<|fun b2=>zA 2 u<|zC<|zB<|zT 0 u u u<|qR 1 2 u u u<|jno
theorem zHa {qd : Prop} {y0 : wT} : yR qd prog 289 [.agg #[vi y0.1, sv p1 y0.2 c1], pt b1 0] [bx b1 233 [.func (.func 264) #[] #[]]] [Rl vZ p1 c1 y0.2] (zDW y0) fun L r K=>∀ p2 c2,K (.tuple #[sv p2 r.1 c2, vi r.2]) L [Rl (wO (zF .i64)) p2 c2 r.1] :=
 qB call289 func289 u fun X=>zB<|qU .s u<|fun b2=>zA 2 u<|zC<|zB<|zT 0 u u u<|qR 1 2 u u u<|jno
theorem zM8 {qd : Prop} {y0 : wT} {y1 : Int} : qG qd prog 186 [.agg #[vi y0.1, sv p1 y0.2 c1], vi y1] [] [Rl vZ p1 c1 y0.2, Pt (yS 64 (zF .u8)) 0 0 yQ] (zBE y0 y1) fun r K=>∀ p2 c2,K (.tuple #[sv p2 r.1 c2, vi r.2]) [] [Rl (wO (zF .i64)) p2 c2 r.1] :=
 qB call186 func186 u fun X=>zB<|qU .s u<|fun b1=>zA 2 u<|zC<|zD<|zB<|qR 0 2 u u u<|qH zG0 u (cq [0])<|fun r1 _ k=>k<|zA 1 u<|zC<|jA 2 u<|zH u (jA 3 u<|zJ<|qA<|wZ u (lT u (lT u lN)) (fun _ k=>k none 0) [] ⟨gn,⟨⟩⟩)<|
  jC<|zB<|qH zO4 u ⟨⟩<|fun r2 _ k b2 b3 b4 b5 b6 b7 b8 b9 b10 b11 b12=>k<|zA 1 u<|zC<|zD<|xH (fun K=>K [1,2,7] [] [0,1] [(21, vb ((decide (y1 < 1)) || (decide (((10 : Nat) : Int) ≤ y1))))] []) (qJ<|zA 3 u<|
  yC (b := decide (y1 < 1)) 16 u (fun hb1=>zA 4 u<|zI (vb true)<|zU<|wS 21 (vb ((decide (y1 < 1)) || (decide (((10 : Nat) : Int) ≤ y1)))) u (by rw [hb1]; rfl)<|zK (gv (fun _ k=>k) [0,1,2,3,4,5,6,7,8,9,10,11] (gq [0,1]))
  )<|fun hb1=>zA 4 u<|zI (vb (decide (((10 : Nat) : Int) ≤ y1)))<|zU<|wS 21 (vb ((decide (y1 < 1)) || (decide (((10 : Nat) : Int) ≤ y1)))) u (by rw [hb1]; rfl)<|zK (gv (fun _ k=>k) [0,1,2,3,4,5,6,7,8,9,10,11] (gq [0,1])))<|fun _ k=>
  k<|zH u (jA 2 u<|zJ<|qA<|wZ u (lT u (lT u lN)) (fun _ k=>k none 0) [] ⟨gn,⟨⟩⟩)<|jC<|
  jjn (fun s1 K=>∀ p2 c2,K [(4, sv p2 s1.1 c2), (5, vi s1.2)] [[], [], [], [], [], [], [], [], [], [], [], []] [Rl (wO (zF .i64)) p2 c2 s1.1, Pt (yS 64 (zF .u8)) 0 0 yQ]) (yU [] [0, 1] 10<|zV 8 [0,1] u<|
  zXm (c := 1) (fun hb2=>wS 23 (vi 1) u (by rw [hb2])<|jdv (v := pt b2 1) 2 u (fun h=>zNF h u u (by decide) (by kernel_rfl) u)<|qY 3 1 u u u u<|vQ 4 0 2 u u u u<|qE 5<|
  qF (.f u) [2, 3] [] zHe u u u (cq [0,1])<|fun r3 _ k p3 c3=>k<|zY<|zV 0 [6,7,8,9] u<|qQ<|zK (gv (fun _ k=>k p3 c3) [900,901,902,903,904,905,906,907,908,909,910,911] (gq [0,2])))<|
  zXm (c := 2) (fun hb3=>wS 23 (vi 2) u (by rw [hb3])<|jdv (v := pt b2 2) 2 u (fun h=>zNF h u u (by decide) (by kernel_rfl) u)<|qY 3 1 u u u u<|vQ 4 0 2 u u u u<|qE 5<|
  qF (.f u) [4] [] zHa u u u (cq [0])<|fun r4 _ k p4 c4=>k<|zY<|zV 0 [6,7,8,9] u<|qQ<|zK (gv (fun _ k=>k p4 c4) [900,901,902,903,904,905,906,907,908,909,910,911] (gq [0,2])))<|
  zXm (c := 3) (fun hb4=>wS 23 (vi 3) u (by rw [hb4])<|jdv (v := pt b2 3) 2 u (fun h=>zNF h u u (by decide) (by kernel_rfl) u)<|qY 3 1 u u u u<|vQ 4 0 2 u u u u<|qE 5<|
  qF (.f u) [5] [] zGS u u u (cq [0])<|fun r5 _ k p5 c5=>k<|zY<|zV 0 [6,7,8,9] u<|qQ<|zK (gv (fun _ k=>k p5 c5) [900,901,902,903,904,905,906,907,908,909,910,911] (gq [0,2])))<|
  zXm (c := 4) (fun hb5=>wS 23 (vi 4) u (by rw [hb5])<|jdv (v := pt b2 4) 2 u (fun h=>zNF h u u (by decide) (by kernel_rfl) u)<|qY 3 1 u u u u<|vQ 4 0 2 u u u u<|qE 5<|
  qF (.f u) [6] [] zH5 u u u (cq [0])<|fun r6 _ k p6 c6=>k<|zY<|zV 0 [6,7,8,9] u<|qQ<|zK (gv (fun _ k=>k p6 c6) [900,901,902,903,904,905,906,907,908,909,910,911] (gq [0,2])))<|
  zXm (c := 5) (fun hb6=>wS 23 (vi 5) u (by rw [hb6])<|jdv (v := pt b2 5) 2 u (fun h=>zNF h u u (by decide) (by kernel_rfl) u)<|qY 3 1 u u u u<|vQ 4 0 2 u u u u<|qE 5<|
  qF (.f u) [7] [] zGN u u u (cq [0])<|fun r7 _ k p7 c7=>k<|zY<|zV 0 [6,7,8,9] u<|qQ<|zK (gv (fun _ k=>k p7 c7) [900,901,902,903,904,905,906,907,908,909,910,911] (gq [0,2])))<|
  zXm (c := 6) (fun hb7=>wS 23 (vi 6) u (by rw [hb7])<|jdv (v := pt b2 6) 2 u (fun h=>zNF h u u (by decide) (by kernel_rfl) u)<|qY 3 1 u u u u<|vQ 4 0 2 u u u u<|qE 5<|
  qF (.f u) [8, 9] [] zGv u u u (cq [0])<|fun r8 _ k p8 c8=>k<|zY<|zV 0 [6,7,8,9] u<|qQ<|zK (gv (fun _ k=>k p8 c8) [900,901,902,903,904,905,906,907,908,909,910,911] (gq [0,2])))<|
  zXm (c := 7) (fun hb8=>wS 23 (vi 7) u (by rw [hb8])<|jdv (v := pt b2 7) 2 u (fun h=>zNF h u u (by decide) (by kernel_rfl) u)<|qY 3 1 u u u u<|vQ 4 0 2 u u u u<|qE 5<|
  qF (.f u) [10, 11] [] zGw u u u (cq [0])<|fun r9 _ k p9 c9=>k<|zY<|zV 0 [6,7,8,9] u<|qQ<|zK (gv (fun _ k=>k p9 c9) [900,901,902,903,904,905,906,907,908,909,910,911] (gq [0,2])))<|
  zXm (c := 8) (fun hb9=>wS 23 (vi 8) u (by rw [hb9])<|jdv (v := pt b2 8) 2 u (fun h=>zNF h u u (by decide) (by kernel_rfl) u)<|qY 3 1 u u u u<|vQ 4 0 2 u u u u<|jno)<|zXm (c := 9) (fun hb10=>
  wS 23 (vi 9) u (by rw [hb10])<|jdv (v := pt b2 9) 2 u (fun h=>zNF h u u (by decide) (by kernel_rfl) u)<|qY 3 1 u u u u<|vQ 4 0 2 u u u u<|jno)<|jno)<|fun s1 _ k p2 c2=>k<|zJ<|
  wZ u (lT u (lT u lN)) (fun _ k=>k p2 c2) [] (gq [0])
theorem zML {qd : Prop} {y0 : zBP} {y1 : Int} : qG qd prog 121 [.agg #[sv p1 y0.1.1 c1, sv p2 y0.1.2.1 c2, sv p3 y0.1.2.2 c3, sv p4 y0.2.1 c4, sv p5 y0.2.2.1 c5, vi y0.2.2.2.1, sv p6 y0.2.2.2.2 c6], vi y1] [] [Rl wN p1 c1 y0.1.1, Rl wJ p2 c2 y0.1.2.1, Rl wQ p3 c3 y0.1.2.2, Rl wR p4 c4 y0.2.1, Rl uN p5 c5 y0.2.2.1, Rl vZ p6 c6 y0.2.2.2.2, Pt (yS 64 (zF .u8)) 0 0 yQ] (zD4 y0 y1) fun r K=>∀ p7 c7,K (.tuple #[sv p7 r.1 c7, vi r.2]) [] [Rl (wO vA) p7 c7 r.1] :=
 qB call121 func121 u fun X=>zB<|qU .s u<|fun b1=>zA 2 u<|zC<|zB<|zS 5 u<|qR 0 2 u u u<|zA 1 u<|qH zM8 u (cq [5,6])<|fun r1 _ k p7 c7=>k<|zA 5 u<|zC<|zD<|jA 2 u<|zH u (jA 3 u<|zJ<|qA<|
  wZ u (lT u (lT u lN)) (fun _ k=>k none 0) [] ⟨gn,⟨⟩⟩)<|jC<|zB<|zA 1 u<|vK (wO vA) 69<|zC<|zD<|jA 3 u<|zO<|
  qO (fun s1 K=>∀ p8 c8 r_1,K [2,21,22] [(1, r_1)] [1,2,3,4,5,6,7,8] [(8, sv p8 s1.1 c8), (23, vi s1.2)] [Al (wO vA) 69 r_1 p8 c8 s1.1]) (gv (fun _ k=>k none 0 []) [0,1] (gq [0,1,2,3,4,5,6,7,8]))<|fun s1 _ k p8 c8 r_1=>k<|
  jA 1 u<|zD<|zH u (jC<|zD<|zO<|zB<|qW 1 u u u<|fun x1 b2 o1=>qV false oL (gk 0) u<|fun p9 c9=>zA 1 u<|zC<|qJ<|zA 1 u<|zS 3 u<|zT 0 u u u<|zA 1 u<|qH zHh u (cq [7,0])<|
  fun r2 _ k p10 c10=>k<|vC .s (e := wO vA) 69 [sv p10 r2 c10] ([r2] : List (List zM)) (rC (vL (gk 0)) rN)<|fun p11 c11=>wP .s 1 4 u (gk 0) u u<|fun x2 r_2 p12 c12=>zA 1 u<|zU<|qC<|zN<|jB 2 u<|
  qD (gv (fun _ k=>k p12 c12 r_2) [0,1] (gq [0,6,7,8,9,10,11,12,13])))<|qM<|qK<|qP<|qL<|zN<|jA 3 u<|zJ<|wX 1 0 u u<|wZ u (lT u (lT u lN)) (fun _ k=>k p8 c8) [] (gq [0])
theorem zKs {qd : Prop} {y0 : Int} : qG qd prog 187 [.slice none 0 0, vi y0] [] [] (zCJ y0) fun r K=>∀ p1 c1 r_1,K (sv p1 r c1) [r_1] [Al vA 30 r_1 p1 c1 r] :=
 qB call187 func187 u fun X=>vK vA 30<|jA 1 u<|wF (fun s1 K=>K [0,1] [] [0] [] []) (jA 2 u<|zH u (qJ<|jno)<|wC<|zK (gv (fun _ k=>k) [0] (gq [0])))<|fun s1 _ k=>k<|zD<|zB<|zA 2 u<|
  jv (v := vi ((0 : Nat) : Int)) (fun h=>r_cap h u underlying69)<|zA 5 u<|zC<|jA 2 u<|zH u (qJ<|zA 2 u<|jv (v := vi ((0 : Nat) : Int)) (fun h=>r_cap h u underlying69)<|
  jv (v := .slice none 0 0) (fun h=>zZL (e := vA) h u u (by kernel_rfl))<|zA 1 u<|jaz .s (e := vA) (h2 := underlying3) 0 0 30 ((false, []) : zM) (.agg #[vb false, vs []]) u (vP vB vS) u u<|
  fun x1 r_1 p1 c1=>zA 2 u<|jsP 0 u u u<|fun x2=>zA 1 u<|zU<|zN<|jA 2 u<|zJ<|zP u u (fun _ k=>k p1 c1 r_1) [0] (gq [0]))<|jC<|jA 2 u<|zJ<|zP u u (fun _ k=>k none 0 []) [0] (gq [0])
theorem zKb {qd : Prop} {y0 : List (List zM)} : qG qd prog 122 [sv p1 y0 c1] [] [Rl (wO vA) p1 c1 y0] (zCF y0) fun r K=>∀ p2 c2,K (sv p2 r c2) [] [Rl vA p2 c2 r] :=
 qB call122 func122 u fun X=>jA 1 u<|jA 1 u<|wF (fun s1 K=>K [0] [] [0] [(3, vi s1)] []) (jA 3 u<|zO<|qO (fun s2 K=>K [0,9,10] [] [0] [(3, vi s2.1), (11, vi s2.2)] []) (gv (fun _ k=>k) [] (gq [0]))<|fun s2 _ k=>k<|jA 1 u<|zD<|zH u (jC<|zD<|zO<|zB<|
  qW 0 u u u<|fun x1 b1 o1=>qV false oL (gk 0) u<|fun p2 c2=>zA 1 u<|zC<|jA 5 u<|jA 2 u<|zH u (qJ<|jno)<|wC<|qC<|zN<|jB 2 u<|qD (gv (fun _ k=>k) [] (gq [2])))<|qM<|qK<|qP<|qL<|zK (gv (fun _ k=>k) [] (gq [0]))
  )<|fun s1 _ k=>k<|zB<|zA 1 u<|qH zKs u ⟨⟩<|fun r1 _ k p3 c3 r_1=>k<|zA 1 u<|zC<|zD<|jA 3 u<|zO<|
  qO (fun s3 K=>∀ p4 c4 r_2,K [25,26] [(0, r_2)] [1] [(6, sv p4 s3.1 c4), (27, vi s3.2)] [Al vA 30 r_2 p4 c4 s3.1]) (gv (fun _ k=>k p3 c3 r_1) [0] (gq [0,1]))<|fun s3 _ k p4 c4 r_2=>k<|jA 1 u<|zD<|zH u (jC<|zD<|zO<|zB<|
  qW 1 u u u<|fun x2 b2 o2=>qV false oL (gk 0) u<|fun p5 c5=>zA 1 u<|zC<|qJ<|zA 2 u<|wP .s 0 2 u (gk 0) u u<|fun x3 r_3 p6 c6=>zA 1 u<|zU<|qC<|zN<|jB 2 u<|qD (gv (fun _ k=>k p6 c6 r_3) [0] (gq [0,4])))<|qM<|
  qK<|qP<|qL<|zN<|jA 2 u<|zJ<|wX 0 0 u u<|zP u u (fun _ k=>k p4 c4) [] (gq [0])
theorem zL8 {qd : Prop} {y0 : List zM} {y1 : zM} : yR qd prog 126 [sv p1 y0 c1, pt b1 0] [bx b1 30 [vb y1.1, vs y1.2]] [Rl vA p1 c1 y0] (zDN y0 y1) fun L r K=>K (vb r) L [] :=
 qB call126 func126 u fun X=>jA 1 u<|zB<|zA 1 u<|qR 0 2 u u u<|qH zIo u (cq [0])<|fun r1 _ k=>k<|zA 2 u<|zC<|zJ<|zP u u (fun _ k=>k) [0] ⟨⟩
theorem zDS {qd : Prop} {y0 : List (List zM)} {y1 : zM} : yR qd prog 189 [sv p1 y0 c1, .func (.func 126) #[] #[pt b1 0]] [bx b1 30 [vb y1.1, vs y1.2]] [Rl (wO vA) p1 c1 y0] (zAy y0 y1) fun L r K=>K (vi r) L [] :=
 qB call189 func189 u fun X=>jA 1 u<|zD<|jA 3 u<|zO<|qO (fun s1 K=>K [0,1,7] [] [0] [(8, vi s1)] []) (gv (fun _ k=>k) [0] (gq [0]))<|fun s1 _ k=>k<|jA 1 u<|zD<|zH u (jC<|zD<|zO<|jA 2 u<|zB<|zA 3 u<|qW 0 u u u<|fun x1 b2 o1=>
  qV false oL (gk 0) u<|fun p2 c2=>qF .s [0] [] zL8 u u u (cq [0])<|fun r1 _ k=>k<|zC<|zH u (jA 2 u<|zJ<|qT<|qA<|wY<|qT<|qA<|zP u u (fun _ k=>k) [0] ⟨⟩)<|wC<|qC<|zN<|jB 2 u<|
  qD (gv (fun _ k=>k) [0] (gq [2])))<|qM<|qK<|qP<|qL<|zN<|jA 1 u<|zJ<|zP u u (fun _ k=>k) [0] ⟨⟩
theorem zCk {qd : Prop} {y0 : List (List zM)} {y1 : zM} : yR qd prog 125 [sv p1 y0 c1, .func (.func 126) #[] #[pt b1 0]] [bx b1 30 [vb y1.1, vs y1.2]] [Rl (wO vA) p1 c1 y0] (zAP y0 y1) fun L r K=>K (vb r) L [] :=
 qB call125 func125 u fun X=>jA 1 u<|zB<|zA 2 u<|qF .s [0] [] zDS u u u (cq [0])<|fun r1 _ k=>k<|zA 2 u<|zC<|zJ<|zP u u (fun _ k=>k) [0] ⟨⟩
theorem zJN {qd : Prop} {y0 : zM} {y1 : Bool} {y2 : List (List zM)} : yR qd prog 124 [.agg #[vb y0.1, vs y0.2], pt b1 0, pt b2 0] [bx b1 4 [vb y1], bx b2 155 [sv p1 y2 c1]] [Rl (wO vA) p1 c1 y2] (zBa y0 y1 y2) fun L r K=>K (vb r) L [] :=
 qB call124 func124 u fun X=>zB<|qU .s u<|fun b3=>zA 1 u<|zC<|wF (fun s1 K=>K [] [(2, [])] [0] [(4, vb s1)] []) (qJ<|zT 0 u u u<|zA 1 u<|wG 6 u (zT 1 u u u<|zA 1 u<|
  qF .s [2] [] zCk u u u (cq [0])<|fun r1 _ k=>k<|zI (vb r1)<|zA 1 u<|zU<|zK (gv (fun _ k=>k) [0,1,902] (gq [0])))<|zA 3 u<|zI (vb false)<|zA 1 u<|zU<|
  zK (gv (fun _ k=>k) [0,1,902] (gq [0])))<|fun s1 _ k=>k<|zJ<|zP u u (fun _ k=>k) [0,1] ⟨⟩
theorem zDi {qd : Prop} {y0 : List zM} {y1 : Bool} {y2 : List (List zM)} : yR qd prog 188 [sv p1 y0 c1, .func (.func 124) #[] #[pt b1 0, pt b2 0]] [bx b1 4 [vb y1], bx b2 155 [sv p2 y2 c2]] [Rl vA p1 c1 y0, Rl (wO vA) p2 c2 y2] (zBI y0 y1 y2) fun L r K=>K (vi r) L [] :=
 qB call188 func188 u fun X=>jA 1 u<|zD<|jA 3 u<|zO<|qO (fun s1 K=>K [0,1,7] [] [0,1] [(8, vi s1)] []) (gv (fun _ k=>k) [0,1] (gq [0,1]))<|fun s1 _ k=>k<|jA 1 u<|zD<|zH u (jC<|zD<|zO<|jA 2 u<|zB<|zA 3 u<|qW 0 u u u<|fun x1 b3 o1=>
  qV true yW (gk 0) u<|qF .s [0, 1] [] zJN u u u (cq [2])<|fun r1 _ k=>k<|zC<|zH u (jA 2 u<|zJ<|qT<|qA<|wY<|qT<|qA<|zP u u (fun _ k=>k) [0,1] ⟨⟩)<|wC<|qC<|zN<|jB 2 u<|
  qD (gv (fun _ k=>k) [0,1] (gq [1,2])))<|qM<|qK<|qP<|qL<|zN<|jA 1 u<|zJ<|zP u u (fun _ k=>k) [0,1] ⟨⟩
theorem zDZ {qd : Prop} {y0 : List zM} {y1 : Bool} {y2 : List (List zM)} : qG qd prog 123 [sv p1 y0 c1, .func (.func 124) #[] #[pt b1 0, pt b2 0]] [r_1, bx b1 4 [vb y1], bx b2 155 [sv p2 y2 c2]] [Al vA 30 r_1 p1 c1 y0, Rl (wO vA) p2 c2 y2] (zAW y0 y1 y2) fun r K=>∀ p3 c3,K (sv p3 r c3) [[], bx b1 4 [vb y1], bx b2 155 [sv p2 y2 c2]] [Rl vA p3 c3 r] :=
 qB call123 func123 u fun X=>jA 1 u<|zB<|zA 2 u<|qF .s [1, 2] [0] zDi u u u ⟨cl 0 0,ck 1,⟨⟩⟩<|fun r1 _ k=>k<|zA 1 u<|zC<|zD<|jA 2 u<|zH u (jA 2 u<|zJ<|qA<|wX 0 0 u u<|
  zP u u (fun _ k=>k p1 c1) [900,1,2] (gq [0]))<|jC<|wF (fun s1 K=>∀ r_2,K [] [(0, r_2)] [1] [(0, .slice p1 (List.length y0) c1), (5, vi s1.2)] [Ar vA 30 r_2 p1 c1 (List.length y0) s1.1]) (jA 3 u<|zO<|
  qO (fun s2 K=>∀ r_3,K [1] [(0, r_3)] [1] [(0, .slice p1 (List.length y0) c1), (5, vi s2.2.1), (6, vi s2.2.2)] [Ar vA 30 r_3 p1 c1 (List.length y0) s2.1]) (gv (fun _ k=>k r_1) [0,1,2] (gq [0,1]))<|fun s2 _ k r_3=>k<|zD<|jA 4 u<|
  zH u (jC<|zD<|zO<|zB<|zA 2 u<|yL 0 u u u<|fun x1 h1 b3 hp1=>xD 0 0 sI true yW u hp1 h1 u<|wM .s (.agg #[vb false, vs []])<|fun b4=>qS .s 3 u u u<|zC<|zB<|zA 1 u<|qR 3 2 u u u<|
  qF .s [1, 2] [] zJN u u u (cq [1])<|fun r2 _ k=>k<|zA 1 u<|zC<|zH u (zB<|zA 2 u<|qR 3 2 u u u<|yL 0 u u u<|fun x2 h2 b5 hp2=>xJ .s 0 0 sI x1 true u hp2 h2 u u (vP vB vS)<|fun r_4=>zC<|
  jB 3 u<|qC<|zN<|jB 3 u<|qD (gv (fun _ k=>k r_4) [0,1,2] (gq [0,2])))<|wC<|qC<|zN<|jB 3 u<|qD (gv (fun _ k=>k r_3) [0,1,2] (gq [0,1])))<|qM<|qK<|qP<|qL<|zK (gv (fun _ k=>k r_3) [0,1,2] (gq [0,1])))<|fun s1 _ k r_2=>k<|zB<|
  zA 2 u<|jsV 0 u u u<|fun u1 p3 c3 f1=>jcv .s 0 0 (false, []) (.agg #[vb false, vs []]) u f1 u (vP vB vS)<|fun r_5=>zC<|zB<|zA 2 u<|jsP 0 u u u<|fun x3=>zA 1 u<|zC<|zJ<|wX 0 0 u u<|
  zP u u (fun _ k=>k p1 c1) [900,1,2] (gq [0])
theorem zNh {qd : Prop} {y0 : zBP} {y1 : Int} {y2 : Bool} : qG qd prog 70 [.agg #[sv p1 y0.1.1 c1, sv p2 y0.1.2.1 c2, sv p3 y0.1.2.2 c3, sv p4 y0.2.1 c4, sv p5 y0.2.2.1 c5, vi y0.2.2.2.1, sv p6 y0.2.2.2.2 c6], vi y1, vb y2] [] [Rl wN p1 c1 y0.1.1, Rl wJ p2 c2 y0.1.2.1, Rl wQ p3 c3 y0.1.2.2, Rl wR p4 c4 y0.2.1, Rl uN p5 c5 y0.2.2.1, Rl vZ p6 c6 y0.2.2.2.2, Pt (yS 64 (zF .u8)) 0 0 yQ] (zEA y0 y1 y2) fun r K=>∀ p7 c7,K (.tuple #[sv p7 r.1 c7, vi r.2]) [] [Rl vA p7 c7 r.1] :=
 qB call70 func70 u fun X=>zB<|qU .s u<|fun b1=>qU .s u<|fun b2=>zA 2 u<|zC<|zB<|qR 0 7 u u u<|zA 1 u<|qH zML u (cq [0,1,2,3,4,5,6])<|fun r1 _ k p7 c7=>k<|zA 3 u<|wM .s (.slice none 0 0)<|fun b3=>qS .s 2 u u u<|
  zA 1 u<|zC<|zD<|jA 2 u<|zH u (jA 3 u<|zJ<|qA<|wZ u (lT u (lT u lN)) (fun _ k=>k none 0) [] ⟨gn,⟨⟩⟩)<|jC<|zB<|zT 2 u u u<|qH zKb u (cq [0])<|fun r2 _ k p8 c8=>k<|
  qH zKu u (cq [0])<|fun r3 _ k p9 c9 r_1=>k<|zA 1 u<|zC<|zB<|zA 2 u<|qF .s [3, 1, 2] [] zDZ u u u (cq [0,2])<|fun r4 _ k p10 c10=>k<|zA 2 u<|zC<|zJ<|
  wZ u (lT u (lT u lN)) (fun _ k=>k p10 c10) [] (gq [0])
theorem zJb {qd : Prop} {y0 : zR} {y1 : vF} {y2 : zM} {y3 : List Int} : qG qd prog 25 [.agg #[sv p1 y0.1 c1, sv p2 y0.2.1 c2, sv p3 y0.2.2 c3], .agg #[vi y1.1, vi y1.2], .agg #[vb y2.1, vs y2.2], sv p4 y3 c4] [] [Rl wN p1 c1 y0.1, Rl wJ p2 c2 y0.2.1, Rl wQ p3 c3 y0.2.2, Rl (zF .i64) p4 c4 y3, Pt (yS 64 (zF .u8)) 0 0 yQ] (zCy y0 y1 y2 y3) fun r K=>K (vb r) [] [] :=
 qB call25 func25 u fun X=>zB<|qU .s u<|fun b1=>qU .s u<|fun b2=>qU .s u<|fun b3=>zA 1 u<|zC<|zB<|qR 0 3 u u u<|wM .s (.agg #[.slice none 0 0, .slice none 0 0, .slice none 0 0])<|fun b4=>qS .s 3 u u u<|zC<|zB<|zS 0 u<|
  vK wN 67<|qS .s 3 u u u<|zC<|wF (fun s1 K=>∀ p5 c5 r_1,K [5,6,9] [(0, []), (3, bx b4 26 [sv p5 s1 c5, sv p2 y0.2.1 c2, sv p3 y0.2.2 c3]), (4, r_1)] [2,3,5] [] [Al wN 67 r_1 p5 c5 s1]) (zB<|zS 0 u<|
  zT 0 u u u<|zA 2 u<|zC<|zO<|
  qO (fun s2 K=>∀ p6 c6 r_2,K [3,5,6,9,18,19] [(0, []), (3, bx b4 26 [sv p6 s2.2 c6, sv p2 y0.2.1 c2, sv p3 y0.2.2 c3]), (4, r_2)] [4,1,2,3,5] [(20, vi s2.1)] [Al wN 67 r_2 p6 c6 s2.2]) (gv (fun _ k=>k none 0 []) [900,1,2,3,4] (gq [0,4,1,2,3,5]))<|
  fun s2 _ k p6 c6 r_2=>k<|jA 1 u<|zD<|zH u (jC<|zD<|zO<|zB<|zA 1 u<|qW 2 u u u<|fun x1 b5 o1=>qV true zIL (gk 0) u<|wM .s (.agg #[vb false, vs [], vi 0, vi 0, vs []])<|fun b6=>zA 1 u<|qS .s 5 u u u<|
  zC<|zB<|zA 2 u<|qH zF6 u (cq [2])<|fun r1 _ k=>k<|zA 1 u<|zC<|zH u (qJ<|zS 0 u<|zT 3 u u u<|qR 5 5 u u u<|
  vC .s (e := wN) 67 [vb x1.1.1, vs x1.1.2, vi x1.2.1, vi x1.2.2.1, vs x1.2.2.2] ([x1] : List vM) (rC (vP (vP vB vS) (vP vI (vP vI vS))) rN)<|fun p7 c7=>wP .s 4 2 u (gk 0) u u<|fun x2 r_3 p8 c8=>zS 0 u<|
  qS .s 3 u u u<|zU<|qC<|zN<|jB 2 u<|qD (gv (fun _ k=>k p8 c8 r_3) [900,1,2,3,4] (gq [0,4,5,6,7,8])))<|wC<|qC<|zN<|jB 2 u<|qD (gv (fun _ k=>k p6 c6 r_2) [900,1,2,3,4] (gq [1,2,3,4,5,6])))<|qM<|qK<|qP<|qL<|
  zK (gv (fun _ k=>k p6 c6 r_2) [900,1,2,3,4] (gq [0,3,4,5])))<|fun s1 _ k p5 c5 r_1=>k<|zB<|qR 3 3 u u u<|qR 1 2 u u u<|wX 4 0 u u<|qH zLD u (cq [0,2,3,4])<|
  fun r2 _ k p9 c9 p10 c10 p11 c11 p12 c12 p13 c13 p14 c14=>k<|zA 3 u<|wM .s (.agg #[.slice none 0 0, .slice none 0 0, .slice none 0 0, .slice none 0 0, .slice none 0 0, vi 0, .slice none 0 0])<|fun b7=>qS .s 5 u u u<|zA 1 u<|
  zC<|zD<|jA 2 u<|zH u (jA 1 u<|zJ<|qA<|zP u u (fun _ k=>k) [] ⟨⟩)<|jC<|zB<|qR 5 7 u u u<|qH zNh u (cq [0,1,2,3,4,5,10])<|fun r3 _ k p15 c15=>k<|zA 5 u<|zC<|
  wF (fun s3 K=>K [] [(1, []), (2, []), (3, []), (5, [])] [11] [(8, vb s3)] []) (qJ<|zA 3 u<|wG 51 u (zA 1 u<|qR 2 2 u u u<|qH zIo u (cq [0])<|fun r4 _ k=>k<|zI (vb r4)<|zA 1 u<|zU<|
  zK (gv (fun _ k=>k) [900,901,902,903,904,905] (gq [11])))<|zA 3 u<|zI (vb false)<|zA 1 u<|zU<|zK (gv (fun _ k=>k) [900,901,902,903,904,905] (gq [11])))<|fun s3 _ k=>k<|zJ<|zP u u (fun _ k=>k) [] ⟨⟩
theorem zJi {qd : Prop} {y0 : List Int} {y1 : zR} {y2 : vF} {y3 : zM} {y4 : Bool} : yR qd prog 27 [sv p1 y0 c1, pt b1 0, pt b2 0, pt b3 0, pt b4 0] [bx b1 26 [sv p2 y1.1 c2, sv p3 y1.2.1 c3, sv p4 y1.2.2 c4], bx b2 28 [vi y2.1, vi y2.2], bx b3 30 [vb y3.1, vs y3.2], bx b4 4 [vb y4]] [Rl (zF .i64) p1 c1 y0, Rl wN p2 c2 y1.1, Rl wJ p3 c3 y1.2.1, Rl wQ p4 c4 y1.2.2, Pt (yS 64 (zF .u8)) 0 0 yQ] (zDM y0 y1 y2 y3 y4) fun L r K=>K (vb r) L [] :=
 qB call27 func27 u fun X=>jA 1 u<|yM [] [0, 1, 2, 3] 8<|vQ 0 0 3 u u u u<|vQ 1 1 2 u u u u<|vQ 2 2 2 u u u u<|zV 4 [3] u<|qY 5 3 u u u u<|qE 4<|qF (.f u) [] [] zJb u u u (cq [1,2,3,0,4])<|
  fun r1 _ k=>k<|zY<|wB 6 (vb (!(r1 == y4))) u<|zV 0 [7] u<|qQ<|zN<|zJ<|zP u u (fun _ k=>k) [0,1,2,3] ⟨⟩
theorem zGi {qd : Prop} {y0 : List Int} {y1 : List (List Int)} {y3 : zR} {y4 : vF} {y5 : zM} {y6 : Bool} : qG qd prog 72 [sv p1 y0 c1, pt b1 0, pt b2 0] [bx b1 40 [sv p2 y1 c2], r_1, bx b2 55 [.func (.func 27) #[] #[pt b3 0, pt b4 0, pt b5 0, pt b6 0]], bx b3 26 [sv p3 y3.1 c3, sv p4 y3.2.1 c4, sv p5 y3.2.2 c5], bx b4 28 [vi y4.1, vi y4.2], bx b5 30 [vb y5.1, vs y5.2], bx b6 4 [vb y6]] [Rl (zF .i64) p1 c1 y0, Al (wO (zF .i64)) 31 r_1 p2 c2 y1, Rl wN p3 c3 y3.1, Rl wJ p4 c4 y3.2.1, Rl wQ p5 c5 y3.2.2, Pt (yS 64 (zF .u8)) 0 0 yQ] (zA7 y0 y1 y3 y4 y5 y6) fun r K=>∀ p6 c6 r_2,K (.tuple #[]) [bx b1 40 [sv p6 r c6], r_2, bx b2 55 [.func (.func 27) #[] #[pt b3 0, pt b4 0, pt b5 0, pt b6 0]], bx b3 26 [sv p3 y3.1 c3, sv p4 y3.2.1 c4, sv p5 y3.2.2 c5], bx b4 28 [vi y4.1, vi y4.2], bx b5 30 [vb y5.1, vs y5.2], bx b6 4 [vb y6]] [Al (wO (zF .i64)) 31 r_2 p6 c6 r] :=
 qB call72 func72 u fun X=>zD<|wF (fun s1 K=>K [0,1] [] [0,1,2,3,4,5] [(21, vb s1)] []) (qJ<|zT 0 u u u<|zA 3 u<|wG 7 u (zA 2 u<|zT 0 u u u<|yL 1 u u u<|fun x1 h1 b7 hp1=>xD 1 1 sI false oL u hp1 h1 u<|fun p6 c6=>zA 2 u<|
  zI (vb (decide ((len x1) < (len y0))))<|zA 1 u<|wG 16 u (zA 4 u<|zI (vb true)<|zU<|zK (gv (fun _ k=>k) [0,1,2,3,4,5,6] (gq [1,2,3,4,5,6])))<|zT 2 u u u<|zA 1 u<|
  qF .s [3, 4, 5, 6] [] zJi u u u (cq [1,3,4,5,6])<|fun r1 _ k=>k<|zA 1 u<|zI (vb (!r1))<|zU<|zK (gv (fun _ k=>k) [0,1,2,3,4,5,6] (gq [1,2,3,4,5,6])))<|zA 7 u<|zI (vb false)<|zA 1 u<|zT 2 u u u<|
  zA 1 u<|qF .s [3, 4, 5, 6] [] zJi u u u (cq [0,2,3,4,5])<|fun r2 _ k=>k<|zA 1 u<|zI (vb (!r2))<|zU<|zK (gv (fun _ k=>k) [0,1,2,3,4,5,6] (gq [0,1,2,3,4,5])))<|fun s1 _ k=>k<|zH u (zJ<|qA<|
  wZ u lN (fun _ k=>k p2 c2 r_1) [0,1,2,3,4,5,6] (gq [1]))<|jC<|wF (fun s2 K=>∀ p7 c7 r_2,K [0,1] [(0, bx b1 40 [sv p7 s2 c7]), (1, []), (7, r_2)] [0,2,3,4,5] [] [Al (wO (zF .i64)) 31 r_2 p7 c7 s2]) (
  wF (fun s3 K=>K [0,1] [] [0,1,2,3,4,5] [(33, vb s3)] []) (qJ<|zT 0 u u u<|zA 3 u<|wG 25 u (zA 2 u<|zT 0 u u u<|yL 1 u u u<|fun x2 h2 b8 hp2=>xD 1 1 sI false oL u hp2 h2 u<|fun p8 c8=>zA 2 u<|
  zI (vb (decide ((len y0) < (len x2))))<|zU<|zK (gv (fun _ k=>k) [0,1,2,3,4,5,6] (gq [1,2,3,4,5,6])))<|zA 7 u<|zI (vb false)<|zU<|zK (gv (fun _ k=>k) [0,1,2,3,4,5,6] (gq [0,1,2,3,4,5])))<|fun s3 _ k=>k<|zH u (qJ<|
  vK (wO (zF .i64)) 31<|qS .s 0 u u u<|zU<|zK (gv (fun _ k=>k none 0 []) [0,901,2,3,4,5,6,7] (gq [0,1,3,4,5,6])))<|wC<|zK (gv (fun _ k=>k p2 c2 r_1) [0,901,2,3,4,5,6,1] (gq [1,0,2,3,4,5])))<|fun s2 _ k p7 c7 r_2=>k<|qJ<|
  zT 0 u u u<|zA 1 u<|vC .s (e := wO (zF .i64)) 31 [sv p1 y0 c1] ([y0] : List (List Int)) (rC (vL (gk 1)) rN)<|fun p9 c9=>wP .s 7 1 u (gk 0) u u<|fun x3 r_3 p10 c10=>qS .s 0 u u u<|zU<|jrn<|
  wZ u lN (fun _ k=>k p10 c10 r_3) [0,7,2,3,4,5,6] (gq [0])
theorem zHc {qd : Prop} {y0 : List Int} {y1 : List (List Int)} {y3 : zR} {y4 : vF} {y5 : zM} {y6 : Bool} : qG qd prog 50 [sv p1 y0 c1, .func (.func 72) #[] #[pt b1 0, pt b2 0]] [bx b1 40 [sv p2 y1 c2], r_1, bx b2 55 [.func (.func 27) #[] #[pt b3 0, pt b4 0, pt b5 0, pt b6 0]], bx b3 26 [sv p3 y3.1 c3, sv p4 y3.2.1 c4, sv p5 y3.2.2 c5], bx b4 28 [vi y4.1, vi y4.2], bx b5 30 [vb y5.1, vs y5.2], bx b6 4 [vb y6]] [Rl (zF .i64) p1 c1 y0, Al (wO (zF .i64)) 31 r_1 p2 c2 y1, Rl wN p3 c3 y3.1, Rl wJ p4 c4 y3.2.1, Rl wQ p5 c5 y3.2.2, Pt (yS 64 (zF .u8)) 0 0 yQ] (zAj y0 y1 y3 y4 y5 y6) fun r K=>∀ p6 c6 r_2,K (.tuple #[]) [bx b1 40 [sv p6 r c6], r_2, bx b2 55 [.func (.func 27) #[] #[pt b3 0, pt b4 0, pt b5 0, pt b6 0]], bx b3 26 [sv p3 y3.1 c3, sv p4 y3.2.1 c4, sv p5 y3.2.2 c5], bx b4 28 [vi y4.1, vi y4.2], bx b5 30 [vb y5.1, vs y5.2], bx b6 4 [vb y6]] [Al (wO (zF .i64)) 31 r_2 p6 c6 r] :=
 qB call50 func50 u fun X=>zB<|zA 2 u<|tA fun x1 h1=>jv (fun h=>zS1 h u u h1)<|zA 1 u<|zC<|zO<|
  qO (fun s1 K=>∀ p6 c6 r_2,K [0,1,10] [(0, bx b1 40 [sv p6 s1.2 c6]), (1, r_2)] [0,2,3,4,5] [(11, vi s1.1)] [Al (wO (zF .i64)) 31 r_2 p6 c6 s1.2]) (gv (fun _ k=>k p2 c2 r_1) [0,1,2,3,4,5,6] (gq [1,0,2,3,4,5]))<|fun s1 _ k p6 c6 r_2=>
  k<|jA 1 u<|zD<|zH u (jC<|zD<|zO<|jA 2 u<|zB<|zA 1 u<|vK (zF .i64) 3<|zC<|wF (fun s2 K=>∀ p7 c7 r_3,K [0,1,10,11] [(7, r_3)] [2,1,3,4,5,6] [(5, sv p7 s2 c7)] [Al (zF .i64) 3 r_3 p7 c7 s2]) (jA 3 u<|zO<|
  qO (fun s3 K=>∀ p8 c8 r_4,K [0,1,4,10,11,14,15] [(7, r_4)] [2,1,3,4,5,6] [(5, sv p8 s3.1 c8), (16, vi s3.2)] [Al (zF .i64) 3 r_4 p8 c8 s3.1]) (gv (fun _ k=>k none 0 []) [0,1,2,3,4,5,6,7] (gq [0,2,1,3,4,5,6]))<|fun s3 _ k p8 c8 r_4=>k<|
  jA 1 u<|zD<|zH u (jC<|zD<|zO<|zB<|zA 1 u<|qW 1 u u u<|fun x2 b7 o1=>qV false oI (gk 0) u<|zA 2 u<|zC<|zB<|zA 2 u<|tA fun x3 h2=>jv (fun h=>zUD h u u h2)<|zA 2 u<|zC<|zH u (qJ<|zA 2 u<|
  vC .s (e := zF .i64) 3 [vi x2] ([x2] : List Int) (rC vI rN)<|fun p9 c9=>wP .s 7 2 u (gk 0) u u<|fun x4 r_5 p10 c10=>zA 1 u<|zU<|qC<|zN<|jB 2 u<|qD (gv (fun _ k=>k p10 c10 r_5) [0,1,2,3,4,5,6,7] (gq [0,4,5,6,7,8,9])))<|
  wC<|qC<|zN<|jB 2 u<|qD (gv (fun _ k=>k p8 c8 r_4) [0,1,2,3,4,5,6,7] (gq [1,2,3,4,5,6,7])))<|qM<|qK<|qP<|qL<|zK (gv (fun _ k=>k p8 c8 r_4) [0,1,2,3,4,5,6,7] (gq [0,1,2,3,4,5,6])))<|fun s2 _ k p7 c7 r_3=>k<|qJ<|zA 2 u<|
  wX 7 0 u u<|qF .s [0, 1, 2, 3, 4, 5, 6] [] zGi u u u (cq [0,3,4,5,6,7])<|fun r1 _ k p11 c11 r_6=>k<|zU<|qC<|zN<|jB 2 u<|qD (gv (fun _ k=>k p11 c11 r_6) [0,1,2,3,4,5,6] (gq [0,3,5,6,7,8])))<|
  qM<|qK<|qP<|qL<|jrn<|wZ u lN (fun _ k=>k p6 c6 r_2) [0,1,2,3,4,5,6] (gq [0])
theorem zIe {qd : Prop} {y0 : List Int} {y1 : List Int} : qG qd prog 58 [sv p1 y0 c1, sv p2 y1 c2] [] [Rl (zF .i64) p1 c1 y0, Rl (zF .i64) p2 c2 y1] (zAH y0 y1) fun r K=>K (vi r) [] [] :=
 qB call58 func58 u fun X=>jA 1 u<|zUE (fun s1 K=>K [0,1] [] [0,1] [] []) (jA 3 u<|zO<|qO (fun s2 K=>K [0,1,9,10] [] [0,1] [(11, vi s2)] []) (gv (fun _ k=>k) [] (gq [0,1]))<|fun s2 _ k=>k<|jA 1 u<|zD<|zH u (jC<|zD<|zO<|zB<|zA 1 u<|
  qW 0 u u u<|fun x1 b1 o1=>qV false oI (gk 0) u<|zA 2 u<|zC<|zD<|jA 4 u<|zH u (jA 1 u<|zJ<|qA<|qT<|qA<|wY<|qT<|wY<|zP u u (fun _ k=>k) [] ⟨⟩)<|jC<|zB<|zA 2 u<|qW 2 u u u<|fun x2 b2 o2=>
  qV false oI (gk 0) u<|zA 1 u<|zC<|zB<|zA 2 u<|qH zAp u ⟨⟩<|fun r1 _ k=>k<|zA 1 u<|zC<|jA 2 u<|zH u (jA 2 u<|zJ<|qT<|qA<|wY<|qT<|wY<|zP u u (fun _ k=>k) [] ⟨⟩)<|wC<|qC<|zN<|jB 2 u<|
  qD (gv (fun _ k=>k) [] (gq [2,3])))<|qM<|qK<|qP<|qL<|qD (gv (fun _ k=>k) [] (gq [0,1])))<|fun s1 _ k=>k<|zD<|jA 5 u<|zH u (jA 1 u<|zJ<|qA<|zP u u (fun _ k=>k) [] ⟨⟩)<|jC<|jA 1 u<|zJ<|zP u u (fun _ k=>k) [] ⟨⟩
theorem zNs {qd : Prop} {y0 : List Int} {y1 : List Int} : qG qd prog 73 [sv p1 y0 c1, sv p2 y1 c2] [] [Rl (zF .i64) p1 c1 y0, Rl (zF .i64) p2 c2 y1] (zCM y0 y1) fun r K=>K (vi r) [] [] :=
 qB call73 func73 u fun X=>jA 1 u<|zB<|zA 2 u<|qH zIe u (cq [0,1])<|fun r1 _ k=>k<|zA 1 u<|zC<|zJ<|zP u u (fun _ k=>k) [] ⟨⟩
theorem zBk {qd : Prop} {y0 : List (List Int)} : qG qd prog 56 [sv p1 y0 c1, .func (.func 73) #[] #[]] [r_1] [Al (wO (zF .i64)) 31 r_1 p1 c1 y0] (zAB y0) fun r K=>∀ r_2,K (.tuple #[]) [r_2] [Ar (wO (zF .i64)) 31 r_2 p1 c1 (List.length y0) r] := ⟨call56, fun A w0 r hm hO hF => by
 have h := zXG (qd := qd) Go.Proofs.Tryz.sort56 (e := wO (zF .i64)) u (te := 31) zCM 73 (enters_of func73 (by kernel_rfl) u) (fun A w vx vy x y n hn hO hx hy => ?_) hO hF.1.1 hm
 · change Calls prog 56 _ _ _ at h
   refine h.mono fun e w' h => ?_
   cases e with
   | returned v => obtain ⟨r', rfl, h1, h2, h3, h4⟩ := h; exact fun G k => k r' ⟨rfl, h1, h2, ⟨h3, h4.symm⟩, trivial⟩
   | panicked ch => exact h
   | outgrown => exact h
 · obtain ⟨q1, d1, e1, k1⟩ := hx
   obtain ⟨q2, d2, e2, k2⟩ := hy
   cases e1
   cases e2
   refine ((zNs (qd := True) (y0 := x) (y1 := y)).go A w n hn hO ⟨R.of k1, R.of k2, trivial⟩).mono fun e w' h => ?_
   cases e with
   | returned v => exact h _ fun ⟨e1, q⟩ => ⟨e1, q.e⟩
   | panicked ch => exact h
   | outgrown => exact h⟩
theorem zH1 {qd : Prop} {y0 : List Int} {y1 : zR} {y2 : vF} {y3 : zM} {y4 : Bool} : yR qd prog 26 [sv p1 y0 c1, .func (.func 27) #[] #[pt b1 0, pt b2 0, pt b3 0, pt b4 0]] [bx b1 26 [sv p2 y1.1 c2, sv p3 y1.2.1 c3, sv p4 y1.2.2 c4], bx b2 28 [vi y2.1, vi y2.2], bx b3 30 [vb y3.1, vs y3.2], bx b4 4 [vb y4]] [Rl (zF .i64) p1 c1 y0, Rl wN p2 c2 y1.1, Rl wJ p3 c3 y1.2.1, Rl wQ p4 c4 y1.2.2, Pt (yS 64 (zF .u8)) 0 0 yQ] (zBL y0 y1 y2 y3 y4) fun L r K=>∀ p5 c5,K (sv p5 r c5) L [Rl (wO (zF .i64)) p5 c5 r] :=
 qB call26 func26 u fun X=>zB<|qU .s u<|fun b5=>zA 1 u<|zC<|zB<|wM .s (.slice none 0 0)<|fun b6=>vK (wO (zF .i64)) 31<|zC<|zB<|zA 2 u<|qF .s [5, 6, 4, 0, 1, 2, 3] [] zHc u u u (cq [1,0,2,3,4,5])<|
  fun r1 _ k p5 c5 r_1=>k<|zC<|zB<|zT 5 u u u<|qF .s [6] [] zBk u u u (cq [0])<|fun r2 _ k r_2=>k<|zC<|zB<|zT 5 u u u<|zA 1 u<|zC<|zJ<|wX 6 0 u u<|jre 0 4 u u<|
  zP u u (fun _ k=>k p5 c5) [0,1,2,3] (gq [0])
theorem zO2 {qd : Prop} {y0 : zR} {y1 : vF} {y2 : zM} : qG qd prog 10 [.agg #[sv p1 y0.1 c1, sv p2 y0.2.1 c2, sv p3 y0.2.2 c3], .agg #[vi y1.1, vi y1.2], .agg #[vb y2.1, vs y2.2]] [] [Rl wN p1 c1 y0.1, Rl wJ p2 c2 y0.2.1, Rl wQ p3 c3 y0.2.2, Pt (yS 64 (zF .u8)) 0 0 yQ] (zBu y0 y1 y2) fun r K=>∀ p4 c4,K (.tuple #[sv p4 r.1 c4, vi r.2]) [] [Rl (wO (zF .i64)) p4 c4 r.1] :=
 qB call10 func10 u fun X=>zB<|qU .s u<|fun b1=>qU .s u<|fun b2=>qU .s u<|fun b3=>zA 2 u<|zC<|zD<|zB<|qR 0 3 u u u<|qR 1 2 u u u<|qH zLD u (cq [0,1,2,3])<|fun r1 _ k p4 c4 p5 c5 p6 c6 p7 c7 p8 c8 p9 c9=>k<|zA 3 u<|
  wM .s (.agg #[.slice none 0 0, .slice none 0 0, .slice none 0 0, .slice none 0 0, .slice none 0 0, vi 0, .slice none 0 0])<|fun b4=>qS .s 3 u u u<|zA 1 u<|zC<|jA 2 u<|zH u (jA 3 u<|zJ<|qA<|
  wZ u (lT u (lT u lN)) (fun _ k=>k none 0) [] ⟨gn,⟨⟩⟩)<|jC<|zD<|zO<|zB<|qR 2 2 u u u<|qH zF9 u ⟨⟩<|fun r2 _ k=>k<|zA 2 u<|zC<|zH u (jA 2 u<|zJ<|qT<|qA<|
  wZ u (lT u (lT u lN)) (fun _ k=>k none 0) [] ⟨gn,⟨⟩⟩)<|zB<|zS 0 u<|zT 0 u u u<|zA 3 u<|zC<|zH u (jA 2 u<|zJ<|qT<|qA<|wZ u (lT u (lT u lN)) (fun _ k=>k none 0) [] ⟨gn,⟨⟩⟩)<|wC<|qC<|zN<|zB<|
  zA 1 u<|vK (zF .i64) 3<|zC<|wF (fun s1 K=>∀ p10 c10 r_1,K [3,4,5] [(3, []), (4, r_1)] [7,8,9,10] [(10, sv p10 s1 c10)] [Al (zF .i64) 3 r_1 p10 c10 s1]) (zB<|zS 0 u<|zT 0 u u u<|zA 2 u<|zC<|zO<|
  qO (fun s2 K=>∀ p11 c11 r_2,K [3,4,5,34] [(3, []), (4, r_2)] [7,8,9,10] [(10, sv p11 s2.1 c11), (35, vi s2.2)] [Al (zF .i64) 3 r_2 p11 c11 s2.1]) (gv (fun _ k=>k none 0 []) [0,1,2,903,4] (gq [0,7,8,9,10]))<|fun s2 _ k p11 c11 r_2=>k<|
  jA 1 u<|zD<|zH u (jC<|zD<|zO<|jA 2 u<|qJ<|zA 2 u<|vC .s (e := zF .i64) 3 [vi s2.2] ([s2.2] : List Int) (rC vI rN)<|fun p12 c12=>wP .s 4 1 u (gk 0) u u<|fun x1 r_3 p13 c13=>zA 1 u<|zU<|qC<|zN<|jB 2 u<|
  qD (gv (fun _ k=>k p13 c13 r_3) [0,1,2,903,4] (gq [0,3,4,5,6])))<|qM<|qK<|qP<|qL<|zK (gv (fun _ k=>k p11 c11 r_2) [0,1,2,903,4] (gq [0,1,2,3,4])))<|fun s1 _ k p10 c10 r_1=>k<|zB<|qR 0 3 u u u<|qR 1 2 u u u<|
  qR 2 2 u u u<|qH zJb u ⟨ck 1,ck 2,ck 3,cn,ck 4,⟨⟩⟩<|fun r3 _ k=>k<|wM .s (vb false)<|fun b5=>qS .s 5 u u u<|zC<|zB<|zA 2 u<|wX 4 0 u u<|
  qF .s [0, 1, 2, 5] [] zH1 u u u (cq [0,2,3,4,5])<|fun r4 _ k p14 c14=>k<|zA 1 u<|zC<|zD<|jA 3 u<|zH u (jA 2 u<|zJ<|qA<|wZ u (lT u (lT u lN)) (fun _ k=>k none 0) [] ⟨gn,⟨⟩⟩)<|jC<|
  jA 3 u<|zJ<|wZ u (lT u (lT u lN)) (fun _ k=>k p14 c14) [] (gq [0])
theorem zVN {qd : Prop} {y0 : List Int} : qG qd prog 6 [sv p1 y0 c1] [] [Rl (zF .i64) p1 c1 y0] (zLz y0) fun r K=>∀ b1 p2 c2,K (pt b1 0) [bx b1 61 [sv p2 r.1 c2, vi r.2]] [Rl (zF .i64) p2 c2 r.1] :=
 qB call6 func6 u fun X=>jA 1 u<|zB<|zA 4 u<|jsl (gk 0) u u u (.inl ⟨rfl, rfl⟩) (.inr ⟨_, rfl⟩)<|fun x1 p2 c2=>zI (.agg #[sv p2 x1 c2, vi 0])<|qU .s u<|fun b1=>zA 1 u<|zC<|zJ<|zP u u (fun _ k=>k b1 p2 c2) [0] (gq [0])
theorem zQY {qd : Prop} {y0 : Int} {y1 : Int} : qG qd prog 59 [vi y0, vi y1] [] [] (zIw y0 y1) fun r K=>K (vi r) [] [] :=
 qB call59 func59 u fun X=>jA 1 u<|zD<|jA 2 u<|zH u (jA 1 u<|zJ<|qA<|zP u u (fun _ k=>k) [] ⟨⟩)<|jC<|zB<|zA 2 u<|tA fun x1 h1=>jv (fun h=>r_remK h u u h1)<|zA 1 u<|zC<|zD<|jA 2 u<|zH u (jB 4 u<|zN<|jA 2 u<|zJ<|
  zP u u (fun _ k=>k) [] ⟨⟩)<|jC<|jA 2 u<|zJ<|zP u u (fun _ k=>k) [] ⟨⟩
theorem zL5 {qd : Prop} {y0 : Int} : qG qd prog 20 [vi y0] [] [] (zDg y0) fun r K=>K (vs r) [] [] :=
 qB call20 func20 u fun X=>jA 1 u<|zB<|zA 1 u<|qH zQY u ⟨⟩<|fun r1 _ k=>k<|zA 1 u<|zI (.int .u8 (IntKind.u8.wrap (zQ ((97 : Int) + r1))))<|
  vC .s (e := zF .u8) 5 [.int .u8 (IntKind.u8.wrap (zQ ((97 : Int) + r1)))] ([IntKind.u8.wrap (zQ ((97 : Int) + r1))] : List Int) (rC vI rN)<|fun p1 c1=>jsb .s (gk 0) u underlying76 underlying5 underlying9<|tA fun x1 h1=>
  jv (fun h=>r_cat h u u h1)<|zA 1 u<|zC<|zJ<|zP u u (fun _ k=>k) [] ⟨⟩
theorem zPz {qd : Prop} {y0 : uO} : qG qd prog 60 [pt b1 0] [bx b1 61 [sv p1 y0.1 c1, vi y0.2]] [Rl (zF .i64) p1 c1 y0.1] (zHw y0) fun r K=>K (vi r.1) [bx b1 61 [sv p1 y0.1 c1, vi r.2]] [] :=
 qB call60 func60 u fun X=>jA 1 u<|zD<|yM [] [0] 10<|zV 8 [0,1] u<|qN 2 1 u u<|qY 3 0 u u u u<|zV 4 [4,5] u<|qN 6 0 u u<|qY 7 0 u u u u<|zV 0 [8,9] u<|qQ<|zN<|zH u (jA 1 u<|zJ<|qA<|zP u u (fun _ k=>k) [0] ⟨⟩)<|
  jC<|zB<|zA 2 u<|zS 1 u<|zT 0 u u u<|zA 2 u<|zS 1 u<|qS .s 0 u u u<|zC<|yM [] [0] 12<|zV 10 [0,1] u<|qN 2 0 u u<|qY 3 0 u u u u<|zV 6 [4,5] u<|qN 6 1 u u<|qY 7 0 u u u u<|
  zV 3 [8] u<|vO 9 0 u u u u<|fun x1 b2 o1=>vN 10 false oI u (gk 0) u<|zV 0 [11] u<|qQ<|zN<|zJ<|zP u u (fun _ k=>k) [0] ⟨⟩
theorem zA0 {qd : Prop} {y0 : uO} {y1 : Int} : qG qd prog 17 [pt b1 0, vi y1] [bx b1 61 [sv p1 y0.1 c1, vi y0.2]] [Rl (zF .i64) p1 c1 y0.1] (xQ y0 y1) fun r K=>K (vi r.1) [bx b1 61 [sv p1 y0.1 c1, vi r.2]] [] :=
 qB call17 func17 u fun X=>jA 1 u<|zB<|zA 1 u<|qF .s [0] [] zPz u u u (cq [0])<|fun r1 _ k=>k<|zA 1 u<|qH zQY u ⟨⟩<|fun r2 _ k=>k<|zA 1 u<|zC<|zJ<|zP u u (fun _ k=>k) [0] ⟨⟩
theorem zDH {qd : Prop} {y0 : uO} {y1 : Int} : qG qd prog 9 [pt b1 0, vi y1] [bx b1 61 [sv p1 y0.1 c1, vi y0.2]] [Rl (zF .i64) p1 c1 y0.1] (zAg y0 y1) fun r K=>K (.agg #[vb r.1.1, vs r.1.2]) [bx b1 61 [sv p1 y0.1 c1, vi r.2]] [] :=
 qB call9 func9 u fun X=>zB<|wM .s (.agg #[vb false, vs []])<|fun b2=>zC<|zB<|zA 3 u<|qF .s [0] [] zA0 u u u (cq [0])<|fun r1 _ k=>k<|zA 1 u<|zC<|zB<|zA 4 u<|tA fun x1 h1=>jv (fun h=>r_quoK h u u h1)<|zA 1 u<|
  zI (.int .u8 (IntKind.u8.wrap (zQ ((97 : Int) + x1))))<|vC .s (e := zF .u8) 5 [.int .u8 (IntKind.u8.wrap (zQ ((97 : Int) + x1)))] ([IntKind.u8.wrap (zQ ((97 : Int) + x1))] : List Int) (rC vI rN)<|fun p2 c2=>
  jsb .s (gk 0) u underlying76 underlying5 underlying9<|zI (.agg #[vb ((yF .i64 r1.1 1) == 1), vs (zOY ([IntKind.u8.wrap (zQ ((97 : Int) + x1))] : List Int))])<|qS .s 1 u u u<|zC<|zJ<|
  wZ u (lC 1 (.agg #[vb ((yF .i64 r1.1 1) == 1), vs (zOY ([IntKind.u8.wrap (zQ ((97 : Int) + x1))] : List Int))]) u u lN) (fun _ k=>k) [0] ⟨⟩
theorem zM3 {qd : Prop} {y0 : uO} {y1 : Int} {y2 : Int} : qG qd prog 22 [pt b1 0, vi y1, vi y2] [bx b1 61 [sv p1 y0.1 c1, vi y0.2]] [Rl (zF .i64) p1 c1 y0.1] (zE2 y0 y1 y2) fun r K=>∀ p2 c2,K (sv p2 r.1 c2) [bx b1 61 [sv p1 y0.1 c1, vi r.2]] [Rl vA p2 c2 r.1] :=
 qB call22 func22 u fun X=>jA 1 u<|zB<|zA 1 u<|vK vA 30<|zC<|zD<|zB<|zA 3 u<|qF .s [0] [] zA0 u u u (cq [1])<|fun r1 _ k=>k<|zA 1 u<|zC<|zO<|
  qO (fun s1 K=>∀ p2 c2 r_1,K [0,2] [(0, bx b1 61 [sv p1 y0.1 c1, vi s1.2.2]), (1, r_1)] [1] [(7, sv p2 s1.1 c2), (8, vi s1.2.1)] [Al vA 30 r_1 p2 c2 s1.1]) (gv (fun _ k=>k none 0 []) [0,1] (gq [0,1]))<|fun s1 _ k p2 c2 r_1=>k<|zD<|
  jA 2 u<|zH u (jC<|zD<|zO<|qJ<|zA 3 u<|qF .s [0] [] zDH u u u (cq [1])<|fun r2 _ k=>k<|vC .s (e := vA) 30 [vb r2.1.1, vs r2.1.2] ([r2.1] : List zM) (rC (vP vB vS) rN)<|fun p3 c3=>
  wP .s 1 1 u (gk 0) u u<|fun x1 r_2 p4 c4=>zA 1 u<|zU<|qC<|zN<|jB 3 u<|qD (gv (fun _ k=>k p4 c4 r_2) [0,1] (gq [0,3])))<|qM<|qK<|qP<|qL<|zN<|jA 2 u<|zJ<|wX 1 0 u u<|zP u u (fun _ k=>k p2 c2) [0] (gq [0])
theorem zP7 {qd : Prop} {y0 : uO} {y1 : List Int} : qG qd prog 18 [pt b1 0, sv p2 y1 c2] [bx b1 61 [sv p1 y0.1 c1, vi y0.2]] [Rl (zF .i64) p1 c1 y0.1, Rl (zF .i64) p2 c2 y1] (zGz y0 y1) fun r K=>K (vi r.1) [bx b1 61 [sv p1 y0.1 c1, vi r.2]] [] :=
 qB call18 func18 u fun X=>jA 1 u<|zB<|zA 4 u<|qF .s [0] [] zA0 u u u (cq [0])<|fun r1 _ k=>k<|qW 1 u u u<|fun x1 b2 o1=>qV false oI (gk 0) u<|zA 1 u<|zC<|zJ<|zP u u (fun _ k=>k) [0] ⟨⟩
theorem zPZ {qd : Prop} {y0 : uO} {y1 : List vD} : qG qd prog 19 [pt b1 0, sv p2 y1 c2] [bx b1 61 [sv p1 y0.1 c1, vi y0.2]] [Rl (zF .i64) p1 c1 y0.1, Rl zV4 p2 c2 y1] (zHU y0 y1) fun r K=>K (vs r.1) [bx b1 61 [sv p1 y0.1 c1, vi r.2]] [] :=
 qB call19 func19 u fun X=>jA 1 u<|zB<|zA 4 u<|qF .s [0] [] zA0 u u u (cq [0])<|fun r1 _ k=>k<|qW 1 u u u<|fun x1 b2 o1=>qV false oS (gk 0) u<|zA 1 u<|zC<|zJ<|zP u u (fun _ k=>k) [0] ⟨⟩
theorem zQn {qd : Prop} {y0 : List zM} : qG qd prog 21 [sv p1 y0 c1] [] [Rl vA p1 c1 y0] (zIm y0) fun r K=>∀ p2 c2,K (sv p2 r c2) [] [Rl vA p2 c2 r] :=
 qB call21 func21 u fun X=>jA 1 u<|zB<|zA 1 u<|vK vA 30<|zC<|zD<|jA 3 u<|zO<|qO (fun s1 K=>∀ p2 c2 r_1,K [7,8] [(0, r_1)] [1] [(3, sv p2 s1.1 c2), (9, vi s1.2)] [Al vA 30 r_1 p2 c2 s1.1]) (gv (fun _ k=>k none 0 []) [0] (gq [0,1]))<|
  fun s1 _ k p2 c2 r_1=>k<|jA 1 u<|zD<|zH u (jC<|zD<|zO<|zB<|qW 1 u u u<|fun x1 b1 o1=>qV true yW (gk 0) u<|wM .s (.agg #[vb false, vs []])<|fun b2=>qS .s 1 u u u<|zC<|jA 1 u<|
  wF (fun s2 K=>K [3,5,7,8,9] [] [1,2] [(6, vi s2)] []) (zO<|qO (fun s3 K=>K [3,5,7,8,9] [] [1,2] [(6, vi s3)] []) (gv (fun _ k=>k) [0,1] (gq [1,2]))<|fun s3 _ k=>k<|zD<|wF (fun s4 K=>K [3,5,6,7,8,9] [] [0,1] [(48, vb s4)] []) (
  yU [] [0, 1] 36<|zV 31 [0,1,2,3,4] u<|wG 17 u (zV 29 [5,6] u<|tC 7 0 u u u u<|fun x2 h1 b3 hp1=>qN 8 1 u u<|tD 9 0 0 sI.snd false oS u u hp1 h1 u<|qN 10 1 u u<|qY 11 1 u u u u<|
  zV 22 [12,13] u<|wG 26 u (zV 2 [14,15,16,17,18,19,20,21,22,23,24,25,26,27,28,29,30,31,32,33] u<|wB 34 (vb true) u<|wB 35 (vb true) u<|qQ<|zK (gv (fun _ k=>k) [0,1] (gq [0,1])))<|zV 20 [14,15] u<|
  tC 16 0 u u u u<|fun x3 h2 b4 hp2=>qN 17 1 u u<|tD 18 0 0 sI.snd false oS u u hp2 h2 u<|qN 19 1 u u<|qY 20 1 u u u u<|zV 13 [21,22] u<|wG 35 u (zV 11 [23,24] u<|tC 25 0 u u u u<|
  fun x4 h3 b5 hp3=>qN 26 0 u u<|tD 27 0 0 sI.fst false oB u u hp3 h3 u<|zV 7 [28] u<|wB 29 (vb (!x4.1)) u<|zV 5 [30] u<|wG 43 u (qN 31 0 u u<|qY 32 1 u u u u<|wB 33 (vb x1.1) u<|wB 34 (vb x1.1) u<|
  wB 35 (vb x1.1) u<|qQ<|zK (gv (fun _ k=>k) [0,1] (gq [0,1])))<|zV 3 [31,32] u<|wB 33 (vb false) u<|wB 34 (vb false) u<|wB 35 (vb false) u<|qQ<|zK (gv (fun _ k=>k) [0,1] (gq [0,1])))<|zV 7 [23,24,25,26,27,28] u<|
  wB 29 (vb false) u<|zV 3 [30,31,32] u<|wB 33 (vb false) u<|wB 34 (vb false) u<|wB 35 (vb false) u<|qQ<|zK (gv (fun _ k=>k) [0,1] (gq [0,1])))<|
  zV 1 [5,6,7,8,9,10,11,12,13,14,15,16,17,18,19,20,21,22,23,24,25,26,27,28,29,30,31,32,33,34] u<|wB 35 (vb false) u<|qQ<|zK (gv (fun _ k=>k) [0,1] (gq [0,1])))<|fun s4 _ k=>k<|zH u (jC<|zO<|jB 3 u<|qC<|
  qD (gv (fun _ k=>k) [0,1] (gq [0,1])))<|qM<|qK<|qP<|qL<|zK (gv (fun _ k=>k) [0,1] (gq [0,1])))<|fun s2 _ k=>k<|zD<|wF (fun s5 K=>K [3,5,6,7,8,9] [] [0,1] [(62, vb s5)] []) (yU [] [0, 1] 12<|zV 7 [0,1,2,3,4] u<|wG 55 u (
  zV 5 [5,6] u<|tC 7 0 u u u u<|fun x5 h4 b6 hp4=>tD 8 0 0 sI true yW u u hp4 h4 u<|vQ 9 1 2 u u u u<|wB 10 (vb (x5 == x1)) u<|wB 11 (vb (x5 == x1)) u<|qQ<|zK (gv (fun _ k=>k) [0,1] (gq [0,1])))<|
  zV 1 [5,6,7,8,9,10] u<|wB 11 (vb false) u<|qQ<|zK (gv (fun _ k=>k) [0,1] (gq [0,1])))<|fun s5 _ k=>k<|zH u (qM<|qK<|qL<|zN<|jB 2 u<|qD (gv (fun _ k=>k p2 c2 r_1) [0] (gq [0,1])))<|jC<|zB<|zA 1 u<|
  zI (.agg #[vb false, vs []])<|vC .s (e := vA) 30 [vb false, vs []] ([(false, [])] : List zM) (rC (vP vB vS) rN)<|fun p3 c3=>wP .s 0 1 u (gk 0) u u<|fun x6 r_2 p4 c4=>zA 1 u<|zC<|yM [] [] 8<|zV 5 [0,1,2] u<|
  jdV 3 0 u u u u<|fun u1 p5 c5 f1=>zV 2 [4,5] u<|jdV 6 0 u u u u<|fun u2 p6 c6 f2=>qE 7<|jcp (.f u) 0 0 u (vwV f1) (srV 0 0 f2 u) u u<|fun r_3=>zY<|qQ<|zN<|qJ<|zA 2 u<|qR 1 2 u u u<|
  yL 0 u u u<|fun x7 h6 b7 hp5=>xJ .s 0 0 sI x1 true u hp5 h6 u u (vP vB vS)<|fun r_4=>zU<|qC<|zN<|jB 2 u<|jrE 0 3 u u<|qD (gv (fun _ k=>k p4 c4 r_4) [0] (gq [0,6])))<|qM<|qK<|qP<|qL<|zN<|jA 2 u<|zJ<|
  wX 0 0 u u<|zP u u (fun _ k=>k p2 c2) [] (gq [0])
theorem zPB {qd : Prop} {y0 : uO} {y1 : Int} {y2 : Int} {y3 : Int} : qG qd prog 7 [pt b1 0, vi y1, vi y2, vi y3] [bx b1 61 [sv p1 y0.1 c1, vi y0.2]] [Rl (zF .i64) p1 c1 y0.1] (zHT y0 y1 y2 y3) fun r K=>∀ p2 c2 p3 c3 p4 c4,K (.agg #[sv p2 r.1.1 c2, sv p3 r.1.2.1 c3, sv p4 r.1.2.2 c4]) [bx b1 61 [sv p1 y0.1 c1, vi r.2]] [Rl wN p2 c2 r.1.1, Rl wJ p3 c3 r.1.2.1, Rl wQ p4 c4 r.1.2.2] :=
 qB call7 func7 u fun X=>zB<|wM .s (.agg #[.slice none 0 0, .slice none 0 0, .slice none 0 0])<|fun b2=>zC<|zB<|wM .s (.agg #[.slice none 0 0, .slice none 0 0, .slice none 0 0])<|fun b3=>vK wN 67<|vK wJ 73<|vK wQ 75<|zC<|
  wF (fun s1 K=>∀ p2 c2 r_1,K [0,1,3,8,9] [(0, bx b1 61 [sv p1 y0.1 c1, vi s1.1]), (2, bx b3 26 [sv p2 s1.2 c2, sv none ([] : List wK) 0, sv none ([] : List yV) 0]), (3, r_1)] [3,1,0] [] [Al wN 67 r_1 p2 c2 s1.2]) (zB<|
  zA 3 u<|qF .s [0] [] zA0 u u u (cq [3])<|fun r1 _ k=>k<|zA 1 u<|zC<|zO<|
  qO (fun s2 K=>∀ p3 c3 r_2,K [0,1,3,8,9] [(0, bx b1 61 [sv p1 y0.1 c1, vi s2.2.1]), (2, bx b3 26 [sv p3 s2.2.2 c3, sv none ([] : List wK) 0, sv none ([] : List yV) 0]), (3, r_2)] [3,1,0] [(10, vi s2.1)] [Al wN 67 r_2 p3 c3 s2.2.2]) (gv (fun _ k=>k none 0 []) [0,1,2,3,4,5] (gq [2,3,1,0]))<|
  fun s2 _ k p3 c3 r_2=>k<|zD<|jA 2 u<|zH u (jC<|zD<|zO<|zB<|zA 2 u<|qF .s [0] [] zDH u u u (cq [1])<|fun r2 _ k=>k<|zA 1 u<|
  vC .s (e := zF .i64) 3 [vi 1, vi 2, vi 2, vi 2, vi 3] ([1, 2, 2, 2, 3] : List Int) (rC vI (rC vI (rC vI (rC vI (rC vI rN)))))<|fun p4 c4=>qF .s [0] [] zP7 u u u (cq [2,0])<|fun r3 _ k=>k<|zA 1 u<|
  vC .s (e := zV4) 9 [vs [], vs [], vs [97, 110, 110], vs [98, 111, 98]] ([[], [], [97, 110, 110], [98, 111, 98]] : List vD) (rC vS (rC vS (rC vS (rC vS rN))))<|fun p5 c5=>qF .s [0] [] zPZ u u u (cq [3,0])<|fun r4 _ k=>
  k<|zI (.agg #[vb r2.1.1, vs r2.1.2, vi r3.1, vi 0, vs r4.1])<|wM .s (.agg #[vb false, vs [], vi 0, vi 0, vs []])<|fun b4=>qS .s 6 u u u<|zC<|
  wF (fun s3 K=>K [0,1,3,8,9,10,11] [(0, bx b1 61 [sv p1 y0.1 c1, vi s3.1]), (6, bx b4 67 [vb r2.1.1, vs r2.1.2, vi r3.1, vi s3.2, vs r4.1])] [3,2,4,5] [] []) (zB<|zS 2 u<|zT 6 u u u<|zA 1 u<|zC<|zH u (qJ<|zA 1 u<|
  qF .s [0] [] zA0 u u u (cq [3])<|fun r5 _ k=>k<|zS 3 u<|qS .s 6 u u u<|zU<|zK (gv (fun _ k=>k) [0,1,2,3,4,5,6] (gq [3,2,4,5])))<|wC<|zK (gv (fun _ k=>k) [0,1,2,3,4,5,6] (gq [3,2,4,5])))<|fun s3 _ k=>k<|
  jA 1 u<|wF (fun s4 K=>K [0,1,3,8,9,10,11] [] [0,1,2,3] [(12, vb s4)] []) (zB<|zS 0 u<|zT 2 u u u<|zA 2 u<|zC<|zO<|
  qO (fun s5 K=>K [0,1,3,8,9,10,11,44,45] [] [1,0,2,3] [(12, vb s5.1), (46, vi s5.2)] []) (gv (fun _ k=>k) [0,1,2,3,4,5,6] (gq [1,0,2,3]))<|fun s5 _ k=>k<|jA 1 u<|zD<|zH u (jC<|zD<|zO<|zB<|yL 0 u u u<|fun x1 h1 b5 hp1=>
  xD 3 0 sI true zIL u hp1 h1 u<|wM .s (.agg #[vb false, vs [], vi 0, vi 0, vs []])<|fun b6=>qS .s 7 u u u<|zC<|jjqK (fun K=>K [0,1,3,8,9,10,11,44,45,46] [(7, [])] [0,1,2,3] [(12, vb (s5.1 || (x1.1 == r2.1)))] []) (qJ<|
  zA 2 u<|yC (b := s5.1) 51 u (fun hb1=>zA 5 u<|zI (vb true)<|zA 1 u<|zU<|wS 12 (vb (s5.1 || (x1.1 == r2.1))) u (by rw [hb1]; rfl)<|zK (gv (fun _ k=>k) [0,1,2,3,4,5,6,907] (gq [0,1,2,3])))<|fun hb1=>zS 0 u<|
  qR 7 2 u u u<|zS 0 u<|qR 6 2 u u u<|zI (vb (x1.1 == r2.1))<|zI (vb (x1.1 == r2.1))<|zA 1 u<|zU<|wS 12 (vb (s5.1 || (x1.1 == r2.1))) u (by rw [hb1]; rfl)<|zK (gv (fun _ k=>k) [0,1,2,3,4,5,6,907] (gq [0,1,2,3])))<|
  fun _ k=>k<|qC<|zN<|jB 2 u<|qD (gv (fun _ k=>k) [0,1,2,3,4,5,6] (gq [0,1,2,3])))<|qM<|qK<|qP<|qL<|zK (gv (fun _ k=>k) [0,1,2,3,4,5,6] (gq [1,0,2,3])))<|fun s4 _ k=>k<|jA 2 u<|zH u (qJ<|zS 0 u<|zT 2 u u u<|
  qR 6 5 u u u<|vC .s (e := wN) 67 [vb r2.1.1, vs r2.1.2, vi r3.1, vi s3.2, vs r4.1] ([(r2.1, r3.1, s3.2, r4.1)] : List vM) (rC (vP (vP vB vS) (vP vI (vP vI vS))) rN)<|fun p6 c6=>wP .s 3 2 u (gk 0) u u<|
  fun x2 r_3 p7 c7=>zS 0 u<|qS .s 2 u u u<|zU<|qC<|zN<|jB 3 u<|qD (gv (fun _ k=>k p7 c7 r_3) [0,1,2,3,4,5] (gq [0,2,4,5])))<|wC<|qC<|zN<|jB 3 u<|qD (gv (fun _ k=>k p3 c3 r_2) [0,1,2,3,4,5] (gq [1,0,2,3])))<|qM<|qK<|
  qP<|qL<|zK (gv (fun _ k=>k p3 c3 r_2) [0,1,2,3,4,5] (gq [0,1,2,3])))<|fun s1 _ k p2 c2 r_1=>k<|
  wF (fun s6 K=>∀ p8 c8 r_4,K [0,1,8,9] [(0, bx b1 61 [sv p1 y0.1 c1, vi s6.1]), (2, bx b3 26 [sv p2 s1.2 c2, sv p8 s6.2 c8, sv none ([] : List yV) 0]), (4, r_4)] [1,0,3] [] [Al wJ 73 r_4 p8 c8 s6.2]) (zB<|zA 3 u<|
  qF .s [0] [] zA0 u u u (cq [1])<|fun r6 _ k=>k<|zA 1 u<|zC<|zO<|
  qO (fun s7 K=>∀ p9 c9 r_5,K [0,1,3,8,9] [(0, bx b1 61 [sv p1 y0.1 c1, vi s7.2.1]), (2, bx b3 26 [sv p2 s1.2 c2, sv p9 s7.2.2 c9, sv none ([] : List yV) 0]), (4, r_5)] [1,0,3] [(15, vi s7.1)] [Al wJ 73 r_5 p9 c9 s7.2.2]) (gv (fun _ k=>k none 0 []) [0,1,2,3,4,5] (gq [2,1,0,3]))<|
  fun s7 _ k p9 c9 r_5=>k<|zD<|jA 2 u<|zH u (jC<|zD<|zO<|zB<|zS 1 u<|zT 2 u u u<|zA 1 u<|qH zL5 u ⟨⟩<|fun r7 _ k=>k<|zA 1 u<|qF .s [0] [] zA0 u u u (cq [1])<|fun r8 _ k=>k<|zA 3 u<|
  qF .s [0] [] zM3 u u u (cq [1])<|fun r9 _ k p10 c10=>k<|qH zQn u (cq [0])<|fun r10 _ k p11 c11=>k<|zA 2 u<|qF .s [0] [] zDH u u u (cq [3])<|fun r11 _ k=>k<|
  zI (.agg #[vs r7, vb (r8.1 == 0), vi 0, sv p11 r10 c11, vb r11.1.1, vs r11.1.2])<|wM .s (.agg #[vs [], vb false, vi 0, .slice none 0 0, vb false, vs []])<|fun b7=>qS .s 6 u u u<|zC<|
  wF (fun s8 K=>K [0,1,3,8,9,15,16] [(0, bx b1 61 [sv p1 y0.1 c1, vi s8.1]), (6, bx b7 73 [vs r7, vb (r8.1 == 0), vi s8.2, sv p11 r10 c11, vb r11.1.1, vs r11.1.2])] [3,4,2,5,0] [] []) (zB<|zS 1 u<|zT 6 u u u<|zA 1 u<|zC<|
  zH u (qJ<|zA 1 u<|qF .s [0] [] zA0 u u u (cq [3])<|fun r12 _ k=>k<|zS 2 u<|qS .s 6 u u u<|zU<|zK (gv (fun _ k=>k) [0,1,2,3,4,5,6] (gq [3,4,2,5,0])))<|wC<|
  zK (gv (fun _ k=>k) [0,1,2,3,4,5,6] (gq [3,4,2,5,0])))<|fun s8 _ k=>k<|
  wF (fun s9 K=>K [0,1,3,8,9,15,16] [(0, bx b1 61 [sv p1 y0.1 c1, vi s9.1]), (6, bx b7 73 [vs r7, vb (r8.1 == 0), vi s8.2, sv p11 r10 c11, vb s9.2.1, vs s9.2.2])] [0,1,2,3,4] [] []) (zB<|zA 1 u<|
  qF .s [0] [] zA0 u u u (cq [0])<|fun r13 _ k=>k<|zA 1 u<|zC<|zH u (qJ<|zA 1 u<|qF .s [0] [] zA0 u u u (cq [0])<|fun r14 _ k=>k<|zA 3 u<|qF .s [0] [] zA0 u u u (cq [0])<|
  fun r15 _ k=>k<|qH zL5 u ⟨⟩<|fun r16 _ k=>k<|zI (.agg #[vb (decide (0 < r14.1)), vs r16])<|zS 4 u<|qS .s 6 u u u<|zU<|zK (gv (fun _ k=>k) [0,1,2,3,4,5,6] (gq [0,1,2,3,4])))<|wC<|
  zK (gv (fun _ k=>k) [0,1,2,3,4,5,6] (gq [0,1,2,3,4])))<|fun s9 _ k=>k<|qJ<|zS 1 u<|zT 2 u u u<|qR 6 6 u u u<|
  vC .s (e := wJ) 73 [vs r7, vb (r8.1 == 0), vi s8.2, sv p11 r10 c11, vb s9.2.1, vs s9.2.2] ([(r7, r8.1 == 0, s8.2, r10, (s9.2.1, s9.2.2))] : List wK) (rC (vP vS (vP vB (vP vI (vP (vL (gk 4)) (vP vB vS))))) rN)<|fun p12 c12=>
  wP .s 4 3 u (gk 0) u u<|fun x3 r_6 p13 c13=>zS 1 u<|qS .s 2 u u u<|zU<|qC<|zN<|jB 3 u<|qD (gv (fun _ k=>k p13 c13 r_6) [0,1,2,3,4,5] (gq [0,2,3,5])))<|qM<|qK<|qP<|qL<|
  zK (gv (fun _ k=>k p9 c9 r_5) [0,1,2,3,4,5] (gq [0,1,2,3])))<|fun s6 _ k p8 c8 r_4=>k<|
  wF (fun s10 K=>∀ p14 c14 r_7,K [8,9] [(0, bx b1 61 [sv p1 y0.1 c1, vi s10.1]), (2, bx b3 26 [sv p2 s1.2 c2, sv p8 s6.2 c8, sv p14 s10.2 c14]), (5, r_7)] [1,2,0] [] [Al wQ 75 r_7 p14 c14 s10.2]) (zB<|zA 1 u<|
  qF .s [0] [] zA0 u u u (cq [1])<|fun r17 _ k=>k<|zA 1 u<|zC<|zO<|
  qO (fun s11 K=>∀ p15 c15 r_8,K [0,1,8,9] [(0, bx b1 61 [sv p1 y0.1 c1, vi s11.2.1]), (2, bx b3 26 [sv p2 s1.2 c2, sv p8 s6.2 c8, sv p15 s11.2.2 c15]), (5, r_8)] [1,2,0] [(17, vi s11.1)] [Al wQ 75 r_8 p15 c15 s11.2.2]) (gv (fun _ k=>k none 0 []) [0,1,2,3,4,5] (gq [3,1,2,0]))<|
  fun s11 _ k p15 c15 r_8=>k<|zD<|xH (fun K=>K [0,1,8,9,17] [] [1,2,3,0] [(123, vb ((decide (0 < s11.1)) && (decide (0 < (len s6.2)))))] []) (qJ<|zA 3 u<|yC (b := decide (0 < s11.1)) 118 u (fun hb2=>zS 1 u<|zT 2 u u u<|
  zA 2 u<|zI (vb (decide (0 < (len s6.2))))<|zU<|wS 123 (vb ((decide (0 < s11.1)) && (decide (0 < (len s6.2))))) u (by rw [hb2]; rfl)<|zK (gv (fun _ k=>k) [0,1,2,3,4,5] (gq [1,2,3,0])))<|fun hb2=>zA 4 u<|zI (vb false)<|zU<|
  wS 123 (vb ((decide (0 < s11.1)) && (decide (0 < (len s6.2))))) u (by rw [hb2]; rfl)<|zK (gv (fun _ k=>k) [0,1,2,3,4,5] (gq [1,2,3,0])))<|fun _ k=>k<|zH u (jC<|zD<|zO<|
  wF (fun s12 K=>∀ b8 p16 c16,K [0,1,8,9,17] [(0, bx b1 61 [sv p1 y0.1 c1, vi s12.1]), (6, bx b8 73 [vs s12.2.1, vb s12.2.2.1, vi s12.2.2.2.1, sv p16 s12.2.2.2.2.1 c16, vb s12.2.2.2.2.2.1, vs s12.2.2.2.2.2.2])] [0,1,2,3] [(18, pt b8 0)] [Rl vA p16 c16 s12.2.2.2.2.1]) (
  yU [] [2, 4] 11<|qN 0 1 u u<|qY 1 2 u u u u<|zV 8 [2] u<|qN 3 1 u u<|qY 4 2 u u u u<|zV 5 [5] u<|xU 6 9 (qF (.f u) [0] [] zA0 u u u (cq [0])<|fun r18 _ k=>k<|zY<|
  tC 7 2 u u u u<|fun x4 h4 b9 hp2=>tD 8 4 2 sI true zMU u u hp2 h4 u<|fun p17 c17=>qE 9<|wM (.f u) (.agg #[vs [], vb false, vi 0, .slice none 0 0, vb false, vs []])<|fun b10=>zY<|qE 10<|
  qS (o := 0) (.f u) 6 u u u<|zY<|qQ<|zK (gv (fun _ k=>k b10 p17 c17) [0,1,2,3,4,5,6] (gq [0,1,2,3,4]))) <|wM (.f u) (.agg #[vs [], vb false, vi 0, .slice none 0 0, vb false, vs []])<|fun b11=>zY<|qE 6<|
  qF (.f u) [0] [] zA0 u u u (cq [0])<|fun r19 _ k=>k<|zY<|tC 7 2 u u u u<|fun x5 h5 b12 hp3=>tD 8 4 2 sI true zMU u u hp3 h5 u<|fun p18 c18=>qE 10<|qS (o := 0) (.f u) 6 u u u<|zY<|qQ<|
  zK (gv (fun _ k=>k b11 p18 c18) [0,1,2,3,4,5,6] (gq [0,1,2,3,4])))<|fun s12 _ k b8 p16 c16=>k<|zB<|zS 1 u<|zT 6 u u u<|zA 1 u<|zC<|zH u (yU [13] [2, 6] 14<|qN 0 2 u u<|qY 1 2 u u u u<|qN 2 0 u u<|
  qY 3 6 u u u u<|zV 7 [4,6,7] u<|qE 5<|qF (.f u) [0] [] zA0 u u u (cq [1])<|fun r20 _ k=>k<|zY<|qE 8<|qF (.f u) [0] [] zDH u u u (cq [1])<|fun r21 _ k=>k<|zY<|
  wB 9 (.agg #[vs s12.2.1, vi r20.1, vb r21.1.1, vs r21.1.2]) u<|qE 10<|vC (.f u) (e := wQ) 75 [vs s12.2.1, vi r20.1, vb r21.1.1, vs r21.1.2] ([(s12.2.1, r20.1, r21.1)] : List yV) (rC (vP vS (vP vI (vP vB vS))) rN)<|
  fun p19 c19=>zY<|qE 11<|wP (.f u) 5 5 u (gk 0) u u<|fun x6 r_9 p20 c20=>zY<|qN 12 2 u u<|qE 13<|qS (o := 2) (.f u) 2 u u u<|jdb [] [2, 6]<|qQ<|qC<|zN<|jB 3 u<|
  qD (gv (fun _ k=>k p20 c20 r_9) [0,1,2,3,4,5] (gq [0,3,4,5])))<|wC<|qC<|zN<|jB 3 u<|qD (gv (fun _ k=>k p15 c15 r_8) [0,1,2,3,4,5] (gq [4,1,2,3])))<|qM<|qK<|qP<|qL<|zK (gv (fun _ k=>k p15 c15 r_8) [0,1,2,3,4,5] (gq [3,0,1,2])))<|
  fun s10 _ k p14 c14 r_7=>k<|zB<|qR 2 3 u u u<|qS .s 1 u u u<|zC<|zJ<|wX 3 2 u u<|wX 4 4 u u<|wX 5 2 u u<|
  wZ u (lC 1 (.agg #[sv p2 s1.2 c2, sv p8 s6.2 c8, sv p14 s10.2 c14]) u u lN) (fun _ k=>k p2 c2 p8 c8 p14 c14) [0] (gq [2,1,0])
theorem zKx {qd : Prop} {y0 : uO} {y1 : Int} {y2 : Int} : qG qd prog 8 [pt b1 0, vi y1, vi y2] [bx b1 61 [sv p1 y0.1 c1, vi y0.2]] [Rl (zF .i64) p1 c1 y0.1] (zBs y0 y1 y2) fun r K=>K (vi r.1) [bx b1 61 [sv p1 y0.1 c1, vi r.2]] [] :=
 qB call8 func8 u fun X=>jA 1 u<|zB<|zA 6 u<|qF .s [0] [] zA0 u u u (cq [0])<|fun r1 _ k=>k<|zA 2 u<|zC<|zJ<|zP u u (fun _ k=>k) [0] ⟨⟩
theorem zBh {qd : Prop} {y0 : Int} : qG qd prog 45 [.int .u64 y0] [] [Pt (yS 64 (zF .u8)) 0 0 yQ] (zAe y0) fun r K=>∀ p1 c1 r_1,K (sv p1 r c1) [r_1] [Al (zF .i64) 3 r_1 p1 c1 r] :=
 qB call45 func45 u fun X=>jA 1 u<|zB<|zA 1 u<|vK (zF .i64) 3<|zC<|zD<|zO<|qO (fun s1 K=>∀ p1 c1 r_1,K [] [(0, r_1)] [1] [(0, .int .u64 s1.1), (3, sv p1 s1.2 c1)] [Al (zF .i64) 3 r_1 p1 c1 s1.2]) (gv (fun _ k=>k none 0 []) [0] (gq [0,1]))<|
  fun s1 _ k p1 c1 r_1=>k<|zD<|jA 2 u<|zH u (jC<|zD<|zO<|qJ<|zA 2 u<|qH zFk u (cq [1])<|fun r1 _ k=>k<|vC .s (e := zF .i64) 3 [vi r1] ([r1] : List Int) (rC vI rN)<|fun p2 c2=>
  wP .s 0 1 u (gk 0) u u<|fun x1 r_2 p3 c3=>zA 1 u<|zU<|qC<|zN<|jB 5 u<|qD (gv (fun _ k=>k p3 c3 r_2) [0] (gq [0,3])))<|qM<|qK<|qP<|qL<|zN<|jA 2 u<|zJ<|zP u u (fun _ k=>k p1 c1 r_1) [0] (gq [0])
theorem zKh {qd : Prop} {y0 : yK} {y1 : Int} : qG qd prog 96 [.agg #[.int .u64 y0.1, sv p1 y0.2.1 c1, sv p2 y0.2.2 c2], .int .u64 y1] [] [Rl (zF .u64) p1 c1 y0.2.1, Rl (zF .u64) p2 c2 y0.2.2, Pt (yS 64 (zF .u8)) 0 0 yQ] (zCE y0 y1) fun r K=>K (.int .u64 r) [] [] :=
 qB call96 func96 u fun X=>zB<|qU .s u<|fun b1=>zA 1 u<|zC<|jA 1 u<|zD<|zB<|zA 1 u<|qH zBh u (cq [2])<|fun r1 _ k p3 c3 r_1=>k<|zA 2 u<|zC<|zO<|
  qO (fun s1 K=>K [2,9,10] [] [0,1,2,3] [(5, .int .u64 s1.1), (11, vi s1.2)] []) (gv (fun _ k=>k) [0,1] (gq [0,1,2,3]))<|fun s1 _ k=>k<|jA 1 u<|zD<|zH u (jC<|zD<|zO<|zB<|yL 0 u u u<|fun x1 h1 b2 hp1=>
  xD 1 0 sI false oI u hp1 h1 u<|zA 1 u<|zC<|qJ<|zA 1 u<|zS 1 u<|zT 0 u u u<|zA 1 u<|qW 1 u u u<|fun x2 b3 o1=>qV false oI (gk 0) u<|zA 2 u<|zU<|qC<|zN<|jB 2 u<|
  qD (gv (fun _ k=>k) [0,1] (gq [1,2,3,4])))<|qM<|qK<|qP<|qL<|zN<|jA 2 u<|zJ<|zP u u (fun _ k=>k) [] ⟨⟩
theorem zFt {qd : Prop} {y0 : yK} {y1 : Int} : qG qd prog 97 [.agg #[.int .u64 y0.1, sv p1 y0.2.1 c1, sv p2 y0.2.2 c2], .int .u64 y1] [] [Rl (zF .u64) p1 c1 y0.2.1, Rl (zF .u64) p2 c2 y0.2.2, Pt (yS 64 (zF .u8)) 0 0 yQ] (zB5 y0 y1) fun r K=>K (.int .u64 r) [] [] :=
 qB call97 func97 u fun X=>zB<|qU .s u<|fun b1=>zA 1 u<|zC<|jA 1 u<|zD<|zB<|zA 1 u<|qH zBh u (cq [2])<|fun r1 _ k p3 c3 r_1=>k<|zA 2 u<|zC<|zO<|
  qO (fun s1 K=>K [2,9,10] [] [0,1,2,3] [(5, .int .u64 s1.1), (11, vi s1.2)] []) (gv (fun _ k=>k) [0,1] (gq [0,1,2,3]))<|fun s1 _ k=>k<|jA 1 u<|zD<|zH u (jC<|zD<|zO<|zB<|yL 0 u u u<|fun x1 h1 b2 hp1=>
  xD 1 0 sI false oI u hp1 h1 u<|zA 1 u<|zC<|qJ<|zA 1 u<|zS 2 u<|zT 0 u u u<|zA 1 u<|qW 2 u u u<|fun x2 b3 o1=>qV false oI (gk 0) u<|zA 2 u<|zU<|qC<|zN<|jB 2 u<|
  qD (gv (fun _ k=>k) [0,1] (gq [1,2,3,4])))<|qM<|qK<|qP<|qL<|zN<|jA 2 u<|zJ<|zP u u (fun _ k=>k) [] ⟨⟩
theorem zJ2 {qd : Prop} {y0 : yK} {y1 : Int} : qG qd prog 95 [.agg #[.int .u64 y0.1, sv p1 y0.2.1 c1, sv p2 y0.2.2 c2], .int .u64 y1] [] [Rl (zF .u64) p1 c1 y0.2.1, Rl (zF .u64) p2 c2 y0.2.2, Pt (yS 64 (zF .u8)) 0 0 yQ] (zDI y0 y1) fun r K=>K (vb r) [] [] :=
 qB call95 func95 u fun X=>zB<|qU .s u<|fun b1=>zA 1 u<|zC<|zB<|qR 0 3 u u u<|zA 1 u<|qH zFt u (cq [0,1,2])<|fun r1 _ k=>k<|zA 4 u<|zC<|zJ<|zP u u (fun _ k=>k) [] ⟨⟩
theorem zGt {qd : Prop} {y0 : yK} {y1 : Int} : qG qd prog 53 [.agg #[.int .u64 y0.1, sv p1 y0.2.1 c1, sv p2 y0.2.2 c2], .int .u64 y1] [] [Rl (zF .u64) p1 c1 y0.2.1, Rl (zF .u64) p2 c2 y0.2.2, Pt (yS 64 (zF .u8)) 0 0 yQ] (zBH y0 y1) fun r K=>K (vb r) [] [] :=
 qB call53 func53 u fun X=>zB<|qU .s u<|fun b1=>zA 1 u<|zC<|wF (fun s1 K=>K [] [(0, [])] [2] [(4, vb s1)] []) (yU [] [0] 14<|vQ 0 0 3 u u u u<|zV 12 [1] u<|qE 2<|qF (.f u) [] [] zJ2 u u u (cq [0,1,2])<|fun r1 _ k=>k<|
  zY<|zV 10 [3] u<|wG 8 u (vQ 4 0 3 u u u u<|zV 8 [5] u<|vQ 7 0 3 u u u u<|zV 6 [8] u<|qE 6<|qF (.f u) [] [] zKh u u u (cq [0,1,2])<|fun r2 _ k=>k<|zY<|qE 9<|
  qF (.f u) [] [] zFt u u u (cq [0,1,2])<|fun r3 _ k=>k<|zY<|zV 2 [10,11] u<|wB 12 (vb ((zGK .u64 r2 r3) == 0)) u<|zV 0 [13] u<|qQ<|zK (gv (fun _ k=>k) [900] (gq [2])))<|zV 2 [4,5,6,7,8,9,10,11] u<|
  wB 12 (vb false) u<|zV 0 [13] u<|qQ<|zK (gv (fun _ k=>k) [900] (gq [2])))<|fun s1 _ k=>k<|zJ<|zP u u (fun _ k=>k) [] ⟨⟩
theorem zDL {qd : Prop} {y0 : Int} {y1 : Int} : qG qd prog 88 [.int .u64 y0, vi y1] [] [] (zBq y0 y1) fun r K=>K (.int .u64 r) [] [] :=
 qB call88 func88 u fun X=>jA 1 u<|zB<|zA 2 u<|zI (.int .u64 (IntKind.u64.wrap (y1)))<|tA fun x1 h1=>jv (fun h=>zS1 h u u h1)<|zA 2 u<|zC<|zJ<|zP u u (fun _ k=>k) [] ⟨⟩
theorem zOO {qd : Prop} {y0 : List Int} : qG qd prog 49 [sv p1 y0 c1] [] [Rl (zF .i64) p1 c1 y0] (zIN y0) fun r K=>K (.int .u64 r) [] [] :=
 qB call49 func49 u fun X=>jA 1 u<|jA 1 u<|zD<|jA 3 u<|zO<|qO (fun s1 K=>K [6,7] [] [0] [(3, .int .u64 s1.1), (8, vi s1.2)] []) (gv (fun _ k=>k) [] (gq [0]))<|fun s1 _ k=>k<|jA 1 u<|zD<|zH u (jC<|zD<|zO<|zB<|qW 0 u u u<|fun x1 b1 o1=>
  qV false oI (gk 0) u<|zA 1 u<|zC<|qJ<|zA 2 u<|qH zDL u ⟨⟩<|fun r1 _ k=>k<|zA 1 u<|zU<|qC<|zN<|jB 2 u<|qD (gv (fun _ k=>k) [] (gq [1])))<|qM<|qK<|qP<|qL<|zN<|jA 2 u<|zJ<|
  zP u u (fun _ k=>k) [] ⟨⟩
theorem zGE {qd : Prop} {y0 : Int} {y1 : Int} : qG qd prog 52 [.int .u64 y0, vi y1] [] [] (zEB y0 y1) fun r K=>K (vb r) [] [] :=
 qB call52 func52 u fun X=>jA 1 u<|zB<|zA 2 u<|zI (.int .u64 (IntKind.u64.wrap (y1)))<|tA fun x1 h1=>jv (fun h=>zUD h u u h1)<|zA 3 u<|zC<|zJ<|zP u u (fun _ k=>k) [] ⟨⟩
end Go.Proofs.YtkjadnjfmdgngaaGreatDoor
