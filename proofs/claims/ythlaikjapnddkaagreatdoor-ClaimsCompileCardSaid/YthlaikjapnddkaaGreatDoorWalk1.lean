/- Part of the proof. Conditions: none. -/
import Derived.Test.YthlaikjapnddkaaGreatDoorProg
import Derived.Test.YthlaikjapnddkaaGreatDoorNest
import Derived.Test.YthlaikjapnddkaaGreatDoorModels
import Derived.Test.YthlaikjapnddkaaGreatDoorSort
import Derived.Test.YthlaikjapnddkaaGreatDoorSort2
import Derived.Test.YthlaikjapnddkaaGreatDoorShelfP
import Derived.Test.YthlaikjapnddkaaGreatDoorArrl
import Derived.Test.YthlaikjapnddkaaGreatDoorSb4
import Derived.Test.YthlaikjapnddkaaGreatDoorFsl
import Derived.Test.YthlaikjapnddkaaGreatDoorGro
namespace Go.Proofs.YthlaikjapnddkaaGreatDoor
open Go Go.GD Tryz
set_option autoImplicit false
set_option linter.unusedVariables false
set_option maxRecDepth 100000
variable {p1 p2 p3 p4 p5 p6 p7 p8 p9 p10 p11 p12 : Option Addr} {c1 c2 c3 c4 c5 c6 c7 c8 c9 c10 c11 c12 : Nat} {b1 b2 b3 b4 b5 b6 b7 b8 b9 b10 b11 : Nat} {r_1 r_2 r_3 r_4 r_5 r_6 : zY}
abbrev wN : E zN := vX zQu vM
abbrev yK : xX wN := (oP oB oS)
abbrev wO : E vO := vX wN (vX (zU .i64) (vX (zU .i64) vM))
abbrev zHM : xX wO := (oP yK (oP oI (oP oI oS)))
abbrev qP : E qR := vX vM (vX zQu (vX (zU .i64) (vX (vJ wN) wN)))
abbrev zJK : xX qP := (oP oS (oP oB (oP oI (oP oL yK))))
abbrev wJ : E vH := vX vM (vX (zU .i64) wN)
abbrev zGe : xX wJ := (oP oS (oP oI yK))
abbrev zRS : E zM := vX (vJ wO) (vX (vJ qP) (vJ wJ))
abbrev zXR : xX zRS := (oP oL (oP oL oL))
abbrev zGk : E vN := vX (zU .i64) (zU .i64)
abbrev zVi : xX zGk := (oP oI oI)
abbrev zVg : E uD := vX (vJ (zU .i64)) (zU .i64)
abbrev z09 : xX zVg := (oP oL oI)
abbrev wS : E zI := vX (zU .i64) (vX (zU .i64) (vX (vJ (zU .i64)) wN))
abbrev zRU : xX wS := (oP oI (oP oI (oP oL yK)))
abbrev yX : E qU := vX (zU .i64) (vX (zU .i64) (vX (zU .i64) (zU .i64)))
abbrev zM2 : xX yX := (oP oI (oP oI (oP oI oI)))
abbrev yH : E wQ := vX (zU .i64) (zU .i64)
abbrev zL0 : xX yH := (oP oI oI)
abbrev zXr : E wY := vX (zU .i64) (vJ yH)
abbrev zZr : xX zXr := (oP oI oL)
abbrev zWE : E zBa := vX zRS (vX (vJ wS) (vX (vJ yX) zXr))
abbrev z0a : xX zWE := (oP zXR (oP oL (oP oL zZr)))
abbrev zOP : E uP := vX zRS (vX (vJ wS) (vX (vJ wS) (zU .i64)))
abbrev zVC : xX zOP := (oP zXR (oP oL (oP oL oI)))
abbrev zPW : E zAJ := vX (vJ vM) zQu
abbrev zW3 : xX zPW := (oP oL oB)
theorem zES {qd : Prop} {y0 : uP} : uH qd prog 45 [pt b1 0] [bx b1 93 [sv p1 y0.1.1 c1, sv p2 y0.1.2.1 c2, sv p3 y0.1.2.2 c3, sv p4 y0.2.1 c4, sv p5 y0.2.2.1 c5, vi y0.2.2.2]] [Rl wO p1 c1 y0.1.1, Rl qP p2 c2 y0.1.2.1, Rl wJ p3 c3 y0.1.2.2, Rl wS p4 c4 y0.2.1, Rl wS p5 c5 y0.2.2.1] (zAj y0) fun L r K=>K (vb r) L [] :=
 qD call45 func45 u fun X=>jA 1 u<|yE [] [0] 13<|zT 11 [0,1] u<|qH 2 3 u u<|qS 3 0 u u u u<|zT 6 [4,5,6] u<|qH 7 4 u u<|qS 8 0 u u u u<|zT 0 [9,10,11,12] u<|qM<|zP<|zK<|zR u u (fun _ k=>k) [0] ⟨⟩
theorem zHl {qd : Prop} {y0 : List zI} {y1 : Int} : qG qd prog 55 [sv p1 y0 c1, vi y1] [] [Rl wS p1 c1 y0] (zA2 y0 y1) fun r K=>K (vb r) [] [] :=
 qD call55 func55 u fun X=>jA 1 u<|jjp (fun K=>K [(4, vb ((decide (0 ≤ y1)) && (decide (y1 < (len y0)))))] [] []) (qN<|zA 3 u<|vR (b := decide (0 ≤ y1)) 7 u (fun hb1=>zA 4 u<|zD (vb (decide (y1 < (len y0))))<|zA 1 u<|zQ<|
  wR 4 (vb ((decide (0 ≤ y1)) && (decide (y1 < (len y0))))) u (by rw [hb1]; rfl)<|zH (gv (fun _ k=>k) [] ⟨⟩))<|fun hb1=>zA 4 u<|zD (vb false)<|zA 1 u<|zQ<|
  wR 4 (vb ((decide (0 ≤ y1)) && (decide (y1 < (len y0))))) u (by rw [hb1]; rfl)<|zH (gv (fun _ k=>k) [] ⟨⟩))<|fun _ k=>k<|zK<|zR u u (fun _ k=>k) [] ⟨⟩
theorem zGI {qd : Prop} {y0 : List Int} : qG qd prog 161 [sv p1 y0 c1] [r_1] [Al (zU .i64) 3 r_1 p1 c1 y0] (zAb y0) fun r K=>∀ p2 c2,K (sv p2 r c2) [[]] [Rl (zU .i64) p2 c2 r] :=
 qD call161 func161 u fun X=>jA 1 u<|zG<|jA 3 u<|zJ u (jA 2 u<|zK<|qA<|wX 0 0 u u<|zR u u (fun _ k=>k p1 c1) [900] (gq [0]))<|jC<|zG<|jA 1 u<|zV<|qZ (fun s1 K=>K [0] [] [0] [(3, vi s1)] []) (gv (fun _ k=>k) [0] (gq [0]))<|fun s1 _ k=>k<|
  zG<|jA 4 u<|zJ u (jC<|zG<|zV<|yE [] [0] 10<|zT 8 [0,1] u<|uU 2 0 u u u u<|fun x1 h1 b1 hp1=>xY 3 0 0 sI false oI u u hp1 h1 u<|zT 3 [4,5,6] u<|uU 7 0 u u u u<|fun x2 h2 b2 hp2=>
  xY 8 0 0 sI false oI u u hp2 h2 u<|zT 0 [9] u<|qM<|zP<|zJ u (zB<|zA 2 u<|jsV 0 u u u<|fun u1 p2 c2 f1=>zA 1 u<|zC<|
  jjn (fun s2 K=>∀ r_2,K [(0, .slice p1 (List.length y0) c1), (3, vi s2.2)] [r_2] [Ar (zU .i64) 3 r_2 p1 c1 (List.length y0) s2.1]) (jA 1 u<|zV<|
  qZ (fun s3 K=>∀ r_3,K [4] [(0, r_3)] [] [(0, .slice p1 (List.length y0) c1), (3, vi s3.2.1), (5, vi s3.2.2)] [Ar (zU .i64) 3 r_3 p1 c1 (List.length y0) s3.1]) (gv (fun _ k=>k r_1) [0] (gq [0]))<|fun s3 _ k r_3=>k<|zG<|jA 4 u<|
  zJ u (jC<|zG<|zV<|yE [] [0] 10<|zT 8 [0,1] u<|jdX 2 0 u u f1 u u<|fun x3 b3 hp3 h3=>xY 3 0 0 sI false oI u u hp3 h3 u<|zT 3 [4,5,6] u<|jdX 7 0 u u f1 u u<|fun x4 b4 hp4 h4=>
  xY 8 0 0 sI false oI u u hp4 h4 u<|zT 0 [9] u<|qM<|zP<|zJ u (zB<|zA 4 u<|jiV 0 u f1 u u<|fun x5 b5 hp5 h5=>jlA 0 0 sI false oI u hp5 h5 u<|uZ 0 u u u<|fun x6 h6 b6 hp6=>
  xK .s 0 0 sI x5 false u hp6 h6 u u vI<|fun r_4=>zC<|jB 3 u<|qE<|zP<|jB 3 u<|qJ (gv (fun _ k=>k r_4) [0] (gq [0])))<|wK<|qE<|zP<|jB 3 u<|qJ (gv (fun _ k=>k r_3) [0] (gq [0])))<|qT<|qQ<|qY<|qW<|
  zH (gv (fun _ k=>k r_3) [0] (gq [0])))<|fun s2 _ k r_2=>k<|zB<|zA 2 u<|jsV 0 u u u<|fun u2 p3 c3 f2=>jcv .s 0 0 0 (vi 0) u f2 u vI<|fun r_5=>zC<|zB<|zA 2 u<|jsP 0 u u u<|fun x7=>zA 1 u<|zC<|zK<|qO<|qA<|wU<|
  qO<|qA<|wX 0 0 u u<|zR u u (fun _ k=>k p1 c1) [900] (gq [0]))<|wK<|qE<|zP<|jB 3 u<|qJ (gv (fun _ k=>k) [0] (gq [0])))<|qT<|qQ<|qY<|qW<|zP<|jA 2 u<|zK<|wX 0 0 u u<|zR u u (fun _ k=>k p1 c1) [900] (gq [0])
theorem zGB {qd : Prop} {y0 : List Int} : qG qd prog 160 [sv p1 y0 c1] [r_1] [Al (zU .i64) 3 r_1 p1 c1 y0] (zAd y0) fun r K=>∀ r_2,K (.tuple #[]) [r_2] [Ar (zU .i64) 3 r_2 p1 c1 (List.length y0) r] := ⟨call160, fun A w0 r hm hO hF => by
 have h := zY4 (qd := qd) Tryz.sorts160 (te := 3) hO hF.1.1 hm
 change Calls prog 160 _ _ _ at h
 refine h.mono fun e w' h => ?_
 cases e with
 | returned v => obtain ⟨r', rfl, h1, h2, h3, h4⟩ := h; exact fun G k => k r' ⟨rfl, h1, h2, ⟨h3, h4.symm⟩, trivial⟩
 | panicked ch => exact h
 | outgrown => exact h⟩
theorem zN4 {qd : Prop} (k : Nat) :
    (∀ {y0 : List zI} {p1 : Option Addr} {c1 : Nat} {y1 : Int}, qG qd prog 92 [sv p1 y0 c1, vi y1] [] [Rl wS p1 c1 y0] (zCA k y0 y1) fun r K=>∀ p2 c2,K (sv p2 r c2) [] [Rl (zU .i64) p2 c2 r]) := by
  induction k with
  | zero => exact zZS call92
  | succ k ih =>
    have ih_argument_Subs := @ih
    exact @fun y0 p1 c1 y1=>qD (m1 := zDp (zCA k) y0 y1) call92 func92 u fun X=>jA 1 u<|zG<|zB<|zA 2 u<|qL zHl u (cq [0])<|fun r1 _ k=>k<|zA 1 u<|zC<|zJ u (jA 1 u<|zK<|qA<|zR u u (fun _ k=>k none 0) [] ⟨gn,⟨⟩⟩)<|jC<|zB<|zA 1 u<|
  yP .s (e := zU .i64) 3 [vi y1] ([y1] : List Int) (rC vI rN)<|fun r_1 p2 c2=>zA 1 u<|zC<|jjn (fun s1 K=>∀ p3 c3 r_2,K [(5, sv p3 s1 c3)] [r_2] [Al (zU .i64) 3 r_2 p3 c3 s1]) (zB<|zA 2 u<|wB 1 u u u<|fun x1 b1 o1=>
  zL 2 u<|wA false oL (gf (gs (gs (gk 0)))) u<|fun p4 c4=>zA 2 u<|zC<|zV<|
  qZ (fun s2 K=>∀ p5 c5 r_3,K [0,18,19] [(0, r_3)] [3,0] [(5, sv p5 s2.1 c5), (20, vi s2.2)] [Al (zU .i64) 3 r_3 p5 c5 s2.1]) (gv (fun _ k=>k p2 c2 r_1) [0] (gq [2,3,0]))<|fun s2 _ k p5 c5 r_3=>k<|jA 1 u<|zG<|zJ u (jC<|zG<|zV<|
  zB<|wB 2 u u u<|fun x2 b2 o2=>wA false oI (gk 0) u<|zA 1 u<|zC<|qN<|zA 3 u<|qL ih_argument_Subs u (cq [2])<|fun r2 _ k p6 c6=>k<|wE .s 0 2 u (gk 0) u u<|fun x3 r_4 p7 c7=>zA 1 u<|zQ<|qE<|zP<|jB 2 u<|
  qJ (gv (fun _ k=>k p7 c7 r_4) [0] (gq [0,4,5])))<|qT<|qQ<|qY<|qW<|zH (gv (fun _ k=>k p5 c5 r_3) [0] (gq [0])))<|fun s1 _ k p3 c3 r_2=>k<|zB<|zA 1 u<|qB .s [0] [] zGB u u u (cq [0])<|fun r3 _ k r_5=>k<|zC<|
  zB<|zA 1 u<|jrE 0 32 u u<|qB .s [0] [] zGI u u u (cq [0])<|fun r4 _ k p8 c8=>k<|zA 1 u<|zC<|zK<|zR u u (fun _ k=>k p8 c8) [] (gq [0])
theorem zIz {qd : Prop} {y0 : List zI} {y1 : Int} : qG qd prog 92 [sv p1 y0 c1, vi y1] [] [Rl wS p1 c1 y0] (zC6 y0 y1) fun r K=>∀ p2 c2,K (sv p2 r c2) [] [Rl (zU .i64) p2 c2 r] := zOt fun k => (zN4 k)
theorem zIE {qd : Prop} {y0 : zM} {y1 : List zI} {y2 : Int} : qG qd prog 147 [.agg #[sv p1 y0.1 c1, sv p2 y0.2.1 c2, sv p3 y0.2.2 c3], sv p4 y1 c4, vi y2] [] [Rl wO p1 c1 y0.1, Rl qP p2 c2 y0.2.1, Rl wJ p3 c3 y0.2.2, Rl wS p4 c4 y1] (zBB y0 y1 y2) fun r K=>∀ p5 c5,K (sv p5 r c5) [] [Rl (zU .i64) p5 c5 r] :=
 qD call147 func147 u fun X=>zB<|wC .s u<|fun b1=>zA 1 u<|zC<|zB<|zA 1 u<|vV (zU .i64) 3<|zC<|jjn (fun s1 K=>∀ p5 c5 r_1,K [(7, sv p5 s1 c5)] [[], r_1] [Al (zU .i64) 3 r_1 p5 c5 s1]) (zB<|zA 2 u<|qL zIz u (cq [4])<|
  fun r1 _ k p6 c6=>k<|zA 2 u<|zC<|zV<|qZ (fun s2 K=>∀ p7 c7 r_2,K [1,3,13,14] [(1, r_2)] [5,0,2,3,4] [(7, sv p7 s2.1 c7), (15, vi s2.2)] [Al (zU .i64) 3 r_2 p7 c7 s2.1]) (gv (fun _ k=>k none 0 []) [0,1] (gq [1,5,0,2,3,4]))<|
  fun s2 _ k p7 c7 r_2=>k<|jA 1 u<|zG<|zJ u (jC<|zG<|zV<|zB<|wB 2 u u u<|fun x1 b2 o1=>wA false oI (gk 0) u<|zA 1 u<|zC<|zB<|zA 2 u<|wB 2 u u u<|fun x2 b3 o2=>zL 1 u<|wA false oI (gf (gs (gk 0))) u<|
  zA 1 u<|zC<|wL (fun s3 K=>K [1,3,7,10,13,14,15] [] [3,2,4,5,6,7] [(34, vb s3)] []) (qN<|zA 3 u<|wF 26 u (zL 1 u<|zS 0 u u u<|zA 1 u<|wB 6 u u u<|fun x3 b4 o3=>zL 1 u<|wA false oB (gf (gs (gk 0))) u<|
  zA 1 u<|zD (vb (!x3.2.1))<|zQ<|zH (gv (fun _ k=>k) [0,1] (gq [4,3,5,6,7,8])))<|zA 7 u<|zD (vb false)<|zQ<|zH (gv (fun _ k=>k) [0,1] (gq [3,2,4,5,6,7])))<|fun s3 _ k=>k<|zJ u (qN<|zA 2 u<|
  wT .s (e := zU .i64) 3 [vi x2.2.1] ([x2.2.1] : List Int) (rC vI rN)<|fun p8 c8=>wE .s 1 2 u (gk 0) u u<|fun x4 r_3 p9 c9=>zA 1 u<|zQ<|qE<|zP<|jB 2 u<|qJ (gv (fun _ k=>k p9 c9 r_3) [0,1] (gq [0,2,4,5,6,7])))<|wK<|qE<|
  zP<|jB 2 u<|qJ (gv (fun _ k=>k p7 c7 r_2) [0,1] (gq [1,0,2,3,4,5])))<|qT<|qQ<|qY<|qW<|zH (gv (fun _ k=>k p7 c7 r_2) [900,1] (gq [0])))<|fun s1 _ k p5 c5 r_1=>k<|zB<|zA 1 u<|qB .s [1] [] zGB u u u (cq [0])<|
  fun r2 _ k r_4=>k<|zC<|zB<|zA 1 u<|jrE 0 42 u u<|qB .s [1] [] zGI u u u (cq [0])<|fun r3 _ k p10 c10=>k<|zA 1 u<|zC<|zK<|zR u u (fun _ k=>k p10 c10) [] (gq [0])
theorem zOB {qd : Prop} (k : Nat) :
    (∀ {y0 : zM} {p1 : Option Addr} {c1 : Nat} {p2 : Option Addr} {c2 : Nat} {p3 : Option Addr} {c3 : Nat} {y1 : List zI} {p4 : Option Addr} {c4 : Nat} {y2 : Int}, qG qd prog 146 [.agg #[sv p1 y0.1 c1, sv p2 y0.2.1 c2, sv p3 y0.2.2 c3], sv p4 y1 c4, vi y2] [] [Rl wO p1 c1 y0.1, Rl qP p2 c2 y0.2.1, Rl wJ p3 c3 y0.2.2, Rl wS p4 c4 y1] (zBs k y0 y1 y2) fun r K=>∀ p5 c5,K (sv p5 r c5) [] [Rl wN p5 c5 r]) := by
  induction k with
  | zero => exact zZS call146
  | succ k ih =>
    have ih_argument_run := @ih
    exact @fun y0 p1 c1 p2 c2 p3 c3 y1 p4 c4 y2=>qD (m1 := zFG (zBs k) y0 y1 y2) call146 func146 u fun X=>zB<|wC .s u<|fun b1=>zA 1 u<|zC<|zB<|zA 2 u<|wB 3 u u u<|fun x1 b2 o1=>zL 3 u<|wA true yK (gs (gs (gs (gk 0)))) u<|
  yP .s (e := wN) 52 [vb x1.2.2.2.1, vs x1.2.2.2.2] ([x1.2.2.2] : List zN) (rC (vP vB vS) rN)<|fun r_1 p5 c5=>zA 1 u<|zC<|zG<|zB<|zA 2 u<|wB 5 u u u<|fun x2 b3 o2=>zL 1 u<|wA false oI (gf (gs (gk 0))) u<|
  zA 1 u<|zC<|wL (fun s1 K=>K [1,2,3,7] [] [6,1,3,4,5] [(31, vb s1)] []) (qN<|zA 3 u<|wF 24 u (zL 1 u<|zS 0 u u u<|zA 1 u<|wB 4 u u u<|fun x3 b4 o3=>zL 1 u<|wA false oB (gf (gs (gk 0))) u<|
  zD (vb x3.2.1)<|zQ<|zH (gv (fun _ k=>k) [0,1] (gq [7,2,4,5,6])))<|zA 6 u<|zD (vb false)<|zQ<|zH (gv (fun _ k=>k) [0,1] (gq [6,1,3,4,5])))<|fun s1 _ k=>k<|zJ u (zB<|zA 2 u<|wB 0 u u u<|fun x4 b5 o4=>zL 2 u<|
  wA false oL (gf (gs (gs (gk 0)))) u<|fun p6 c6=>zA 2 u<|zC<|zV<|
  qZ (fun s2 K=>∀ p7 c7 r_2,K [1,3,36,37] [(1, r_2)] [2,0,4,5,6] [(7, sv p7 s2.1 c7), (38, vi s2.2)] [Al wN 52 r_2 p7 c7 s2.1]) (gv (fun _ k=>k p5 c5 r_1) [0,1] (gq [3,2,0,4,5,6]))<|fun s2 _ k p7 c7 r_2=>k<|jA 1 u<|zG<|zJ u (
  jC<|zG<|zV<|zB<|wB 2 u u u<|fun x5 b6 o5=>wA false oI (gk 0) u<|zA 1 u<|zC<|qN<|zA 1 u<|qV 0 3 u u u<|zA 2 u<|qL ih_argument_run u (cq [4,5,6,2])<|fun r1 _ k p8 c8=>k<|wE .s 1 2 u (gk 0) u u<|
  fun x6 r_3 p9 c9=>zA 1 u<|zQ<|qE<|zP<|jB 2 u<|qJ (gv (fun _ k=>k p9 c9 r_3) [0,1] (gq [0,4,5,6,7,8])))<|qT<|qQ<|qY<|qW<|zP<|jA 2 u<|zK<|wX 1 0 u u<|zR u u (fun _ k=>k p7 c7) [] (gq [0]))<|jC<|jA 2 u<|zK<|
  wX 1 1 u u<|zR u u (fun _ k=>k p5 c5) [] (gq [0])
theorem zRD {qd : Prop} {y0 : zM} {y1 : List zI} {y2 : Int} : qG qd prog 146 [.agg #[sv p1 y0.1 c1, sv p2 y0.2.1 c2, sv p3 y0.2.2 c3], sv p4 y1 c4, vi y2] [] [Rl wO p1 c1 y0.1, Rl qP p2 c2 y0.2.1, Rl wJ p3 c3 y0.2.2, Rl wS p4 c4 y1] (zDV y0 y1 y2) fun r K=>∀ p5 c5,K (sv p5 r c5) [] [Rl wN p5 c5 r] := zOt fun k => (zOB k)
theorem zL7 {qd : Prop} {y0 : List zN} {y1 : zN} : qG qd prog 175 [sv p1 y0 c1, .agg #[vb y1.1, vs y1.2]] [] [Rl wN p1 c1 y0] (zBQ y0 y1) fun r K=>K (vi r) [] [] :=
 qD call175 func175 u fun X=>zB<|wC .s u<|fun b1=>zA 1 u<|zC<|zG<|jA 3 u<|zV<|qZ (fun s1 K=>K [0,3,7] [] [0] [(8, vi s1)] []) (gv (fun _ k=>k) [0] (gq [0]))<|fun s1 _ k=>k<|jA 1 u<|zG<|zJ u (jC<|zG<|zV<|jA 2 u<|yE [] [0] 6<|
  vQ 0 0 2 u u u u<|zT 3 [1,2] u<|vE 3 0 u u u u<|fun x1 b2 o1=>vD 4 true yK u (gk 0) u<|wD 5 (vb (y1 == x1)) u<|qM<|zP<|zJ u (jA 2 u<|zK<|qO<|qA<|wU<|qO<|qA<|zR u u (fun _ k=>k) [] ⟨⟩)<|
  wK<|qE<|zP<|jB 2 u<|qJ (gv (fun _ k=>k) [0] (gq [1])))<|qT<|qQ<|qY<|qW<|zP<|jA 1 u<|zK<|zR u u (fun _ k=>k) [] ⟨⟩
theorem zKD {qd : Prop} {y0 : List zN} {y1 : zN} : qG qd prog 109 [sv p1 y0 c1, .agg #[vb y1.1, vs y1.2]] [] [Rl wN p1 c1 y0] (zBV y0 y1) fun r K=>K (vb r) [] [] :=
 qD call109 func109 u fun X=>zB<|wC .s u<|fun b1=>zA 1 u<|zC<|zB<|zA 1 u<|qV 0 2 u u u<|qL zL7 u (cq [0])<|fun r1 _ k=>k<|zA 2 u<|zC<|zK<|zR u u (fun _ k=>k) [] ⟨⟩
theorem zLD {qd : Prop} {y0 : List zN} {y1 : zN} : qG qd prog 62 [sv p1 y0 c1, .agg #[vb y1.1, vs y1.2]] [] [Rl wN p1 c1 y0] (zDG y0 y1) fun r K=>K (vb r) [] [] :=
 qD call62 func62 u fun X=>zB<|wC .s u<|fun b1=>zA 1 u<|zC<|zB<|zA 1 u<|qV 0 2 u u u<|qL zKD u (cq [0])<|fun r1 _ k=>k<|zA 1 u<|zC<|zK<|zR u u (fun _ k=>k) [] ⟨⟩
theorem zN9 {qd : Prop} {y0 : List Int} {y1 : Int} : qG qd prog 159 [sv p1 y0 c1, vi y1] [] [Rl (zU .i64) p1 c1 y0] (zDT y0 y1) fun r K=>K (vi r) [] [] :=
 qD call159 func159 u fun X=>jA 1 u<|zG<|jA 3 u<|zV<|qZ (fun s1 K=>K [0,1,7] [] [0] [(8, vi s1)] []) (gv (fun _ k=>k) [] (gq [0]))<|fun s1 _ k=>k<|jA 1 u<|zG<|zJ u (jC<|zG<|zV<|jA 2 u<|zB<|zA 3 u<|wB 0 u u u<|fun x1 b1 o1=>
  wA false oI (gk 0) u<|zA 1 u<|zC<|zJ u (jA 2 u<|zK<|qO<|qA<|wU<|qO<|qA<|zR u u (fun _ k=>k) [] ⟨⟩)<|wK<|qE<|zP<|jB 2 u<|qJ (gv (fun _ k=>k) [] (gq [1])))<|qT<|qQ<|qY<|qW<|zP<|jA 1 u<|zK<|
  zR u u (fun _ k=>k) [] ⟨⟩
theorem zIC {qd : Prop} {y0 : List Int} {y1 : Int} : qG qd prog 91 [sv p1 y0 c1, vi y1] [] [Rl (zU .i64) p1 c1 y0] (zBG y0 y1) fun r K=>K (vb r) [] [] :=
 qD call91 func91 u fun X=>jA 1 u<|zB<|zA 2 u<|qL zN9 u (cq [0])<|fun r1 _ k=>k<|zA 2 u<|zC<|zK<|zR u u (fun _ k=>k) [] ⟨⟩
theorem zOj {qd : Prop} {y0 : zM} {y1 : List zI} {y2 : Int} {y3 : List Int} : qG qd prog 85 [.agg #[sv p1 y0.1 c1, sv p2 y0.2.1 c2, sv p3 y0.2.2 c3], sv p4 y1 c4, vi y2, sv p5 y3 c5] [] [Rl wO p1 c1 y0.1, Rl qP p2 c2 y0.2.1, Rl wJ p3 c3 y0.2.2, Rl wS p4 c4 y1, Rl (zU .i64) p5 c5 y3] (zBo y0 y1 y2 y3) fun r K=>K (vb r) [] [] :=
 qD call85 func85 u fun X=>zB<|wC .s u<|fun b1=>zA 1 u<|zC<|zG<|jA 3 u<|zV<|qZ (fun s1 K=>K [1,2,4,11,12] [] [3,4,0,1,2] [(13, vi s1)] []) (gv (fun _ k=>k) [0] (gq [3,4,0,1,2]))<|fun s1 _ k=>k<|jA 1 u<|zG<|zJ u (jC<|zG<|zV<|zB<|
  wB 1 u u u<|fun x1 b2 o1=>wA false oI (gk 0) u<|zA 1 u<|zC<|zB<|zL 1 u<|zS 0 u u u<|zA 1 u<|wB 4 u u u<|fun x2 b3 o2=>zL 1 u<|wA false oB (gf (gs (gk 0))) u<|zC<|zJ u (yE [] [0] 11<|
  vQ 0 0 3 u u u u<|zT 8 [1,2] u<|qH 4 1 u u<|qS 5 0 u u u u<|zT 5 [6] u<|vE 7 5 u u u u<|fun x3 b4 o3=>qH 8 4 u u<|vD 9 true yK u (gs (gs (gs (gs (gk 0))))) u<|zX 3<|
  qB (.f u) [] [] zRD u u u (cq [5,6,7,3])<|fun r1 _ k p6 c6=>k<|zO<|zX 10<|qB (.f u) [] [] zLD u u u (cq [0])<|fun r2 _ k=>k<|zO<|qM<|zP<|zJ u (jA 1 u<|zK<|qO<|qA<|wU<|qO<|qA<|
  zR u u (fun _ k=>k) [] ⟨⟩)<|wK<|qE<|zP<|jB 2 u<|qJ (gv (fun _ k=>k) [0] (gq [4,5,6,7,8])))<|zB<|qV 0 3 u u u<|zA 2 u<|qL zIE u (cq [4,5,6,2])<|fun r3 _ k p7 c7=>k<|zA 1 u<|
  qL zIC u (cq [0])<|fun r4 _ k=>k<|zC<|zJ u (jA 1 u<|zK<|qO<|qA<|wU<|qO<|qA<|zR u u (fun _ k=>k) [] ⟨⟩)<|wK<|qE<|zP<|jB 2 u<|qJ (gv (fun _ k=>k) [0] (gq [3,4,5,6,7])))<|qT<|qQ<|qY<|qW<|zP<|
  jA 1 u<|zK<|zR u u (fun _ k=>k) [] ⟨⟩
theorem zKA {qd : Prop} {y0 : List Int} : qG qd prog 82 [sv p1 y0 c1] [] [Rl (zU .i64) p1 c1 y0] (zDN y0) fun r K=>∀ p2 c2 r_1,K (sv p2 r c2) [r_1] [Al (zU .i64) 3 r_1 p2 c2 r] :=
 qD call82 func82 u fun X=>jA 1 u<|zG<|zB<|zA 1 u<|jv (fun h=>zXB h u underlying29)<|zC<|jnl (m1 := some ([] : List Int)) u (gk 0) (fun h=>by first|(rw [h];done)|(rw [h];rfl)|(simp [h,wI];done)) (jA 1 u<|zK<|qA<|vV (zU .i64) 3<|
  jrE 0 2 u u<|zR u u (fun _ k=>k none 0 []) [0] (gq [0]))<|jC<|zB<|yP .s (e := zU .i64) 3 [] ([] : List Int) rN<|fun r_1 p2 c2=>zA 1 u<|wE .s 0 0 u (gk 1) u u<|fun x1 r_2 p3 c3=>zA 1 u<|zC<|zK<|
  zR u u (fun _ k=>k p3 c3 r_2) [0] (gq [0])
theorem zJ8 {qd : Prop} {y0 : Int} {y2 : uP} : uH qd prog 84 [vi y0, pt b1 0] [bx b1 91 [pt b2 0], bx b2 93 [sv p1 y2.1.1 c1, sv p2 y2.1.2.1 c2, sv p3 y2.1.2.2 c3, sv p4 y2.2.1 c4, sv p5 y2.2.2.1 c5, vi y2.2.2.2]] [Rl wO p1 c1 y2.1.1, Rl qP p2 c2 y2.1.2.1, Rl wJ p3 c3 y2.1.2.2, Rl wS p4 c4 y2.2.1, Rl wS p5 c5 y2.2.2.1] (zCu y0 y2) fun L r K=>K (vb r) L [] :=
 qD call84 func84 u fun X=>jA 1 u<|zB<|zA 1 u<|zS 0 u u u<|zA 1 u<|zL 5 u<|zS 1 u u u<|zA 2 u<|zC<|zK<|zR u u (fun _ k=>k) [0,1] ⟨⟩
theorem zDE {qd : Prop} {y0 : List Int} {y2 : uP} : uH qd prog 145 [sv p1 y0 c1, .func (.func 84) #[] #[pt b1 0]] [bx b1 91 [pt b2 0], bx b2 93 [sv p2 y2.1.1 c2, sv p3 y2.1.2.1 c3, sv p4 y2.1.2.2 c4, sv p5 y2.2.1 c5, sv p6 y2.2.2.1 c6, vi y2.2.2.2]] [Rl (zU .i64) p1 c1 y0, Rl wO p2 c2 y2.1.1, Rl qP p3 c3 y2.1.2.1, Rl wJ p4 c4 y2.1.2.2, Rl wS p5 c5 y2.2.1, Rl wS p6 c6 y2.2.2.1] (zAC y0 y2) fun L r K=>K (vi r) L [] :=
 qD call145 func145 u fun X=>jA 1 u<|zG<|jA 3 u<|zV<|qZ (fun s1 K=>K [0,1,7] [] [0,1,2,3,4,5] [(8, vi s1)] []) (gv (fun _ k=>k) [0,1] (gq [0,1,2,3,4,5]))<|fun s1 _ k=>k<|jA 1 u<|zG<|zJ u (jC<|zG<|zV<|jA 2 u<|zB<|zA 3 u<|wB 0 u u u<|
  fun x1 b3 o1=>wA false oI (gk 0) u<|qB .s [0, 1] [] zJ8 u u u (cq [2,3,4,5,6])<|fun r1 _ k=>k<|zC<|zJ u (jA 2 u<|zK<|qO<|qA<|wU<|qO<|qA<|zR u u (fun _ k=>k) [0,1] ⟨⟩)<|wK<|qE<|zP<|
  jB 2 u<|qJ (gv (fun _ k=>k) [0,1] (gq [1,2,3,4,5,6])))<|qT<|qQ<|qY<|qW<|zP<|jA 1 u<|zK<|zR u u (fun _ k=>k) [0,1] ⟨⟩
theorem zCh {qd : Prop} {y0 : List Int} {y2 : uP} : uH qd prog 83 [sv p1 y0 c1, .func (.func 84) #[] #[pt b1 0]] [bx b1 91 [pt b2 0], bx b2 93 [sv p2 y2.1.1 c2, sv p3 y2.1.2.1 c3, sv p4 y2.1.2.2 c4, sv p5 y2.2.1 c5, sv p6 y2.2.2.1 c6, vi y2.2.2.2]] [Rl (zU .i64) p1 c1 y0, Rl wO p2 c2 y2.1.1, Rl qP p3 c3 y2.1.2.1, Rl wJ p4 c4 y2.1.2.2, Rl wS p5 c5 y2.2.1, Rl wS p6 c6 y2.2.2.1] (zAA y0 y2) fun L r K=>K (vb r) L [] :=
 qD call83 func83 u fun X=>jA 1 u<|zB<|zA 2 u<|qB .s [0, 1] [] zDE u u u (cq [0,1,2,3,4,5])<|fun r1 _ k=>k<|zA 2 u<|zC<|zK<|zR u u (fun _ k=>k) [0,1] ⟨⟩
theorem zIH {qd : Prop} (k : Nat) :
    (∀ {y0 : uP} {b1 : Nat} {p1 : Option Addr} {c1 : Nat} {p2 : Option Addr} {c2 : Nat} {p3 : Option Addr} {c3 : Nat} {p4 : Option Addr} {c4 : Nat} {r_1 : zY} {p5 : Option Addr} {c5 : Nat} {r_2 : zY} {y1 : Int} {y2 : List Int} {p6 : Option Addr} {c6 : Nat}, qG qd prog 44 [pt b1 0, vi y1, sv p6 y2 c6] [bx b1 93 [sv p1 y0.1.1 c1, sv p2 y0.1.2.1 c2, sv p3 y0.1.2.2 c3, sv p4 y0.2.1 c4, sv p5 y0.2.2.1 c5, vi y0.2.2.2], r_1, r_2] [Rl wO p1 c1 y0.1.1, Rl qP p2 c2 y0.1.2.1, Rl wJ p3 c3 y0.1.2.2, Al wS 95 r_1 p4 c4 y0.2.1, Al wS 95 r_2 p5 c5 y0.2.2.1, Rl (zU .i64) p6 c6 y2] (zAU k y0 y1 y2) fun r K=>∀ p7 c7 r_3,K (.tuple #[]) [bx b1 93 [sv p1 y0.1.1 c1, sv p2 y0.1.2.1 c2, sv p3 y0.1.2.2 c3, sv p4 y0.2.1 c4, sv p7 r c7, vi y0.2.2.2], r_1, r_3] [Al wS 95 r_3 p7 c7 r]) := by
  induction k with
  | zero => exact zZS call44
  | succ k ih =>
    have ih_argument_builder_apply_2 := @ih
    exact @fun y0 b1 p1 c1 p2 c2 p3 c3 p4 c4 r_1 p5 c5 r_2 y1 y2 p6 c6=>qD (m1 := zAi (zAU k) y0 y1 y2) call44 func44 u fun X=>zB<|wC .s u<|fun b2=>zC<|zB<|zS 3 u u u<|zA 1 u<|zL 0 u<|zL 1 u<|zS 0 u u u<|zA 1 u<|wB 1 u u u<|fun x1 b3 o1=>zL 3 u<|wA false oL (gf (gs (gs (gs (gk 0))))) u<|fun p7 c7=>zA 1 u<|zC<|zG<|
  zB<|zS 3 u u u<|qB .s [0] [1, 2] zES u u u ⟨ck 2,ck 3,ck 4,cl 1 5,cl 2 6,⟨⟩⟩<|fun r1 _ k=>k<|zC<|zJ u (zK<|qA<|wW u lN (fun _ k=>k p5 c5 r_2) [0,1,2] (gq [6]))<|jC<|
  zTu (fun s1 K=>K [1,2,3] [] [7,2,3,4,5,6] [] []) (jA 5 u<|zJ u (zG<|zB<|zS 3 u u u<|zA 1 u<|zL 3 u<|zS 0 u u u<|zA 2 u<|zC<|zV<|
  qZ (fun s2 K=>∀ p8 c8 r_3,K [1,2,3,6,28,29] [(0, bx b1 93 [sv p1 y0.1.1 c1, sv p2 y0.1.2.1 c2, sv p3 y0.1.2.2 c3, sv p4 y0.2.1 c4, sv p8 s2.2 c8, vi y0.2.2.2]), (2, r_3)] [7,0,5,2,3,4] [(30, vi s2.1)] [Al wS 95 r_3 p8 c8 s2.2]) (gv (fun _ k=>k p5 c5 r_2) [0,1,2,3] (gq [6,7,0,5,2,3,4]))<|
  fun s2 _ k p8 c8 r_3=>k<|jA 1 u<|zG<|zJ u (jC<|zG<|zV<|zB<|zA 1 u<|uZ 3 u u u<|fun x2 h1 b4 hp1=>jlA 1 3 sI true zRU u hp1 h1 u<|fun p9 c9=>wM .s (.agg #[vi 0, vi 0, .slice none 0 0, vb false, vs []])<|
  fun b5=>zA 1 u<|qI .s 4 u u u<|zC<|yE [] [4] 8<|qH 0 3 u u<|vQ 1 4 2 u u u u<|zT 3 [2,3,4] u<|vE 5 3 u u u u<|fun x3 b6 o2=>vD 6 true yK u (gk 0) u<|wD 7 (vb (x2.2.2.2 == x3)) u<|qM<|
  zP<|zJ u (
  jjcK (fun s3 K=>∀ p10 c10 r_4,K [1,2,3,6,28,29,30] [(0, bx b1 93 [sv p1 y0.1.1 c1, sv p2 y0.1.2.1 c2, sv p3 y0.1.2.2 c3, sv p4 y0.2.1 c4, sv p10 s3 c10, vi y0.2.2.2]), (2, r_4), (4, [])] [3,4,5,6,7,8] [] [Al wS 95 r_4 p10 c10 s3]) (
  yI [] [3] 8<|qS 0 3 u u u u<|zT 4 [1,2,4] u<|uR 3 5 (qB (.f u) [] [] zKA u u u (cq [3])<|fun r2 _ k p11 c11 r_5=>k<|zO<|zX 5<|wT (.f u) (e := zU .i64) 3 [vi s2.1] ([s2.1] : List Int) (rC vI rN)<|
  fun p12 c12=>zO<|zX 6<|wE (.f u) 5 1 u (gk 0) u u<|fun x4 r_6 p13 c13=>zO<|wX 5 0 u u<|zX 7<|qB (.f u) [0, 1, 2] [] ih_argument_builder_apply_2 u u u (cq [10,11,12,9,6,0])<|fun r3 _ k p14 c14 r_7=>k<|zO<|qM<|
  zH (gv (fun _ k=>k p14 c14 r_7) [0,1,2,3,904] (gq [0,8,9,10,11,12,13]))) <|wT (.f u) (e := zU .i64) 3 [vi s2.1] ([s2.1] : List Int) (rC vI rN)<|fun p15 c15=>zO<|zX 3<|qB (.f u) [] [] zKA u u u (cq [4])<|
  fun r4 _ k p16 c16 r_8=>k<|zO<|zX 6<|wE (.f u) 5 0 u (gk 1) u u<|fun x5 r_9 p17 c17=>zO<|wX 5 0 u u<|zX 7<|qB (.f u) [0, 1, 2] [] ih_argument_builder_apply_2 u u u (cq [10,11,12,9,6,0])<|fun r5 _ k p18 c18 r_10=>
  k<|zO<|qM<|zH (gv (fun _ k=>k p18 c18 r_10) [0,1,2,3,904] (gq [0,8,9,10,11,12,13])))<|fun s3 _ k p10 c10 r_4=>k<|qE<|zP<|jB 2 u<|qJ (gv (fun _ k=>k p10 c10 r_4) [0,1,2,3] (gq [0,1,2,3,4,5,6])))<|wK<|qE<|zP<|jB 2 u<|
  qJ (gv (fun _ k=>k p8 c8 r_3) [0,1,2,3] (gq [2,3,4,5,6,7,8])))<|qT<|qQ<|qY<|qW<|zP<|zK<|wU<|wW u lN (fun _ k=>k p8 c8 r_3) [0,1,2] (gq [0]))<|wK<|qJ (gv (fun _ k=>k) [0,1,2,3] (gq [7,2,3,4,5,6])))<|fun s1 _ k=>k<|
  wL (fun s4 K=>K [1,2,3] [] [0,1,2,3,4,5] [(67, vb s4)] []) (yI [] [0, 3] 16<|zT 14 [0,1] u<|zX 2<|qB (.f u) [3, 0] [1, 2] zCh u u u ⟨ck 0,ck 1,ck 2,ck 3,cl 1 4,cl 2 5,⟨⟩⟩<|
  fun r6 _ k=>k<|zO<|zT 12 [3] u<|wF 55 u (qS 4 3 u u u u<|zT 10 [5] u<|qH 6 0 u u<|vQ 7 0 3 u u u u<|qS 8 3 u u u u<|zT 6 [9] u<|qH 10 3 u u<|qS 11 0 u u u u<|zT 2 [12,13] u<|
  zX 14<|qB (.f u) [] [1] zOj u u u ⟨ck 1,ck 2,ck 3,cl 1 4,ck 0,⟨⟩⟩<|fun r7 _ k=>k<|zO<|wD 15 (vb r7) u<|qM<|zH (gv (fun _ k=>k) [0,1,2,3] (gq [0,1,2,3,4,5])))<|zT 1 [4,5,6,7,8,9,10,11,12,13,14] u<|
  wD 15 (vb false) u<|qM<|zH (gv (fun _ k=>k) [0,1,2,3] (gq [0,1,2,3,4,5])))<|fun s4 _ k=>k<|zJ u (yI [21] [0, 3] 22<|qS 0 3 u u u u<|qS 1 3 u u u u<|zT 19 [2] u<|qH 3 4 u u<|qS 4 0 u u u u<|
  zT 15 [5,6] u<|qS 7 3 u u u u<|zT 13 [8] u<|qH 9 0 u u<|qH 10 1 u u<|qS 11 0 u u u u<|zT 9 [12] u<|vE 13 2 u u u u<|fun x6 b7 o3=>qH 14 4 u u<|
  vD 15 true yK u (gs (gs (gs (gs (gk 0))))) u<|wD 16 (.agg #[vi (-1), vi y1, sv p6 y2 c6, vb x6.2.2.2.2.1, vs x6.2.2.2.2.2]) u<|zX 17<|
  wT (.f u) (e := wS) 95 [vi (-1), vi y1, sv p6 y2 c6, vb x6.2.2.2.2.1, vs x6.2.2.2.2.2] ([((-1), y1, y2, x6.2.2.2.2)] : List zI) (rC (vP vI (vP vI (vP (vL (gk 1)) (vP vB vS)))) rN)<|fun p19 c19=>zO<|zX 18<|
  wE (.f u) 2 7 u (gk 0) u u<|fun x7 r_11 p20 c20=>zO<|zT 2 [19] u<|qH 20 4 u u<|zX 21<|qI (o := 4) (.f u) 0 u u u<|jdb [] [0, 3]<|qM<|jrn<|wW u lN (fun _ k=>k p20 c20 r_11) [0,1,2] (gq [0]))<|wK<|jrn<|
  wW u lN (fun _ k=>k p5 c5 r_2) [0,1,2] (gq [5])
theorem zJ2 {qd : Prop} {y0 : uP} {y1 : Int} {y2 : List Int} : qG qd prog 44 [pt b1 0, vi y1, sv p6 y2 c6] [bx b1 93 [sv p1 y0.1.1 c1, sv p2 y0.1.2.1 c2, sv p3 y0.1.2.2 c3, sv p4 y0.2.1 c4, sv p5 y0.2.2.1 c5, vi y0.2.2.2], r_1, r_2] [Rl wO p1 c1 y0.1.1, Rl qP p2 c2 y0.1.2.1, Rl wJ p3 c3 y0.1.2.2, Al wS 95 r_1 p4 c4 y0.2.1, Al wS 95 r_2 p5 c5 y0.2.2.1, Rl (zU .i64) p6 c6 y2] (zAh y0 y1 y2) fun r K=>∀ p7 c7 r_3,K (.tuple #[]) [bx b1 93 [sv p1 y0.1.1 c1, sv p2 y0.1.2.1 c2, sv p3 y0.1.2.2 c3, sv p4 y0.2.1 c4, sv p7 r c7, vi y0.2.2.2], r_1, r_3] [Al wS 95 r_3 p7 c7 r] := zOt fun k => (zIH k)
theorem zOo {qd : Prop} {y0 : qR} {y1 : qC} : uH qd prog 144 [.agg #[vs y0.1, vb y0.2.1, vi y0.2.2.1, sv p1 y0.2.2.2.1 c1, vb y0.2.2.2.2.1, vs y0.2.2.2.2.2], pt b1 0] [bx b1 9 [vs y1]] [Rl wN p1 c1 y0.2.2.2.1] (zHm y0 y1) fun L r K=>K (vb r) L [] :=
 qD call144 func144 u fun X=>zB<|wC .s u<|fun b2=>zA 1 u<|zC<|zB<|zL 0 u<|zS 1 u u u<|zS 0 u u u<|zA 2 u<|zC<|zK<|zR u u (fun _ k=>k) [0] ⟨⟩
theorem zF5 {qd : Prop} {y0 : List qR} {y1 : qC} : uH qd prog 143 [sv p1 y0 c1, .func (.func 144) #[] #[pt b1 0]] [bx b1 9 [vs y1]] [Rl qP p1 c1 y0] (zAN y0 y1) fun L r K=>K (vi r) L [] :=
 qD call143 func143 u fun X=>jA 1 u<|zG<|jA 3 u<|zV<|qZ (fun s1 K=>K [0,1,7] [] [0] [(8, vi s1)] []) (gv (fun _ k=>k) [0] (gq [0]))<|fun s1 _ k=>k<|jA 1 u<|zG<|zJ u (jC<|zG<|zV<|jA 2 u<|zB<|zA 3 u<|wB 0 u u u<|fun x1 b2 o1=>
  wA true zJK (gk 0) u<|fun p2 c2=>qB .s [0] [] zOo u u u (cq [0])<|fun r1 _ k=>k<|zC<|zJ u (jA 2 u<|zK<|qO<|qA<|wU<|qO<|qA<|zR u u (fun _ k=>k) [0] ⟨⟩)<|wK<|qE<|zP<|jB 2 u<|
  qJ (gv (fun _ k=>k) [0] (gq [2])))<|qT<|qQ<|qY<|qW<|zP<|jA 1 u<|zK<|zR u u (fun _ k=>k) [0] ⟨⟩
theorem zLp {qd : Prop} {y0 : zM} {y1 : qC} : qG qd prog 80 [.agg #[sv p1 y0.1 c1, sv p2 y0.2.1 c2, sv p3 y0.2.2 c3], vs y1] [] [Rl wO p1 c1 y0.1, Rl qP p2 c2 y0.2.1, Rl wJ p3 c3 y0.2.2] (zCe y0 y1) fun r K=>K (vi r) [] [] :=
 qD call80 func80 u fun X=>zB<|wC .s u<|fun b1=>wC .s u<|fun b2=>zA 1 u<|zC<|zB<|zL 1 u<|zS 0 u u u<|zA 1 u<|qB .s [1] [] zF5 u u u (cq [1])<|fun r1 _ k=>k<|zA 1 u<|zC<|zK<|
  zR u u (fun _ k=>k) [] ⟨⟩
theorem zMi {qd : Prop} {y0 : vO} {y1 : zN} : uH qd prog 141 [.agg #[vb y0.1.1, vs y0.1.2, vi y0.2.1, vi y0.2.2.1, vs y0.2.2.2], pt b1 0] [bx b1 52 [vb y1.1, vs y1.2]] [] (zGM y0 y1) fun L r K=>K (vb r) L [] :=
 qD call141 func141 u fun X=>zB<|wC .s u<|fun b2=>zA 1 u<|zC<|zB<|zL 0 u<|qV 1 2 u u u<|qV 0 2 u u u<|zD (vb (y0.1 == y1))<|zA 1 u<|zC<|zK<|zR u u (fun _ k=>k) [0] ⟨⟩
theorem zD9 {qd : Prop} {y0 : List vO} {y1 : zN} : uH qd prog 140 [sv p1 y0 c1, .func (.func 141) #[] #[pt b1 0]] [bx b1 52 [vb y1.1, vs y1.2]] [Rl wO p1 c1 y0] (zAE y0 y1) fun L r K=>K (vi r) L [] :=
 qD call140 func140 u fun X=>jA 1 u<|zG<|jA 3 u<|zV<|qZ (fun s1 K=>K [0,1,7] [] [0] [(8, vi s1)] []) (gv (fun _ k=>k) [0] (gq [0]))<|fun s1 _ k=>k<|jA 1 u<|zG<|zJ u (jC<|zG<|zV<|jA 2 u<|zB<|zA 3 u<|wB 0 u u u<|fun x1 b2 o1=>
  wA true zHM (gk 0) u<|qB .s [0] [] zMi u u u ⟨⟩<|fun r1 _ k=>k<|zC<|zJ u (jA 2 u<|zK<|qO<|qA<|wU<|qO<|qA<|zR u u (fun _ k=>k) [0] ⟨⟩)<|wK<|qE<|zP<|jB 2 u<|
  qJ (gv (fun _ k=>k) [0] (gq [1])))<|qT<|qQ<|qY<|qW<|zP<|jA 1 u<|zK<|zR u u (fun _ k=>k) [0] ⟨⟩
theorem zOR {qd : Prop} {y0 : zM} {y1 : zN} : qG qd prog 78 [.agg #[sv p1 y0.1 c1, sv p2 y0.2.1 c2, sv p3 y0.2.2 c3], .agg #[vb y1.1, vs y1.2]] [] [Rl wO p1 c1 y0.1, Rl qP p2 c2 y0.2.1, Rl wJ p3 c3 y0.2.2] (zCH y0 y1) fun r K=>K (vi r) [] [] :=
 qD call78 func78 u fun X=>zB<|wC .s u<|fun b1=>wC .s u<|fun b2=>zA 1 u<|zC<|zB<|zL 0 u<|zS 0 u u u<|zA 1 u<|qB .s [1] [] zD9 u u u (cq [0])<|fun r1 _ k=>k<|zA 1 u<|zC<|zK<|
  zR u u (fun _ k=>k) [] ⟨⟩
theorem zE0 {qd : Prop} {y0 : qC} : qG qd prog 142 [vs y0] [] [] (zAl y0) fun r K=>K (vb r) [] [] :=
 qD call142 func142 u fun X=>jA 1 u<|zG<|uN (fun K=>K [0] [] [] [(12, vb (((len y0) == 0) || (decide (12 < (len y0)))))] []) (qN<|zA 4 u<|vR (b := (len y0) == 0) 8 u (fun hb1=>zA 3 u<|zD (vb true)<|zQ<|
  wR 12 (vb (((len y0) == 0) || (decide (12 < (len y0))))) u (by rw [hb1]; rfl)<|zH (gv (fun _ k=>k) [] ⟨⟩))<|fun hb1=>zA 3 u<|zD (vb (decide (12 < (len y0))))<|zQ<|
  wR 12 (vb (((len y0) == 0) || (decide (12 < (len y0))))) u (by rw [hb1]; rfl)<|zH (gv (fun _ k=>k) [] ⟨⟩))<|fun _ k=>k<|zJ u (jA 1 u<|zK<|qA<|zR u u (fun _ k=>k) [] ⟨⟩)<|jC<|zG<|jA 3 u<|zV<|
  qZ (fun s1 K=>K [0,14] [] [] [(15, vi s1)] []) (gv (fun _ k=>k) [] ⟨⟩)<|fun s1 _ k=>k<|jA 1 u<|zG<|zJ u (jC<|zG<|zV<|jA 2 u<|zB<|zA 2 u<|uF fun x1 h1=>jv (fun h=>zIS h u u underlying9 h1)<|zA 1 u<|zC<|zV<|
  uN (fun K=>K [0,3,4,14,15] [] [] [(21, vb ((decide (97 ≤ x1)) && (decide (x1 ≤ 122))))] []) (qN<|zA 3 u<|vR (b := decide (97 ≤ x1)) 24 u (fun hb2=>zA 2 u<|zD (vb (decide (x1 ≤ 122)))<|zA 1 u<|zQ<|
  wR 21 (vb ((decide (97 ≤ x1)) && (decide (x1 ≤ 122)))) u (by rw [hb2]; rfl)<|zH (gv (fun _ k=>k) [] ⟨⟩))<|fun hb2=>zA 2 u<|zD (vb false)<|zA 1 u<|zQ<|
  wR 21 (vb ((decide (97 ≤ x1)) && (decide (x1 ≤ 122)))) u (by rw [hb2]; rfl)<|zH (gv (fun _ k=>k) [] ⟨⟩))<|fun _ k=>k<|zJ u (wK<|qE<|qE<|zP<|jB 2 u<|qJ (gv (fun _ k=>k) [] ⟨⟩))<|
  uN (fun K=>K [0,14,15] [] [] [(28, vb ((decide (0 < s1)) && (if decide (48 ≤ x1) then (decide (x1 ≤ 57)) || (x1 == 95) else x1 == 95)))] []) (qN<|zA 3 u<|vR (b := decide (0 < s1)) 31 u (fun hb3=>zA 3 u<|
  vR (b := decide (48 ≤ x1)) 34 u (fun hb4=>zA 2 u<|zD (vb (decide (x1 ≤ 57)))<|zA 1 u<|vR (b := decide (x1 ≤ 57)) 38 u (fun hb5=>zA 2 u<|zD (vb true)<|zD (vb true)<|zA 1 u<|zQ<|
  wR 28 (vb ((decide (0 < s1)) && (if decide (48 ≤ x1) then (decide (x1 ≤ 57)) || (x1 == 95) else x1 == 95))) u (by rw [hb3,hb4,hb5]; rfl)<|zH (gv (fun _ k=>k) [] ⟨⟩))<|fun hb5=>zA 2 u<|zD (vb (x1 == 95))<|zD (vb (x1 == 95))<|
  zA 1 u<|zQ<|wR 28 (vb ((decide (0 < s1)) && (if decide (48 ≤ x1) then (decide (x1 ≤ 57)) || (x1 == 95) else x1 == 95))) u (by rw [hb3,hb4,hb5]; rfl)<|zH (gv (fun _ k=>k) [] ⟨⟩))<|fun hb4=>zA 2 u<|zD (vb false)<|zA 3 u<|
  zD (vb (x1 == 95))<|zD (vb (x1 == 95))<|zA 1 u<|zQ<|wR 28 (vb ((decide (0 < s1)) && (if decide (48 ≤ x1) then (decide (x1 ≤ 57)) || (x1 == 95) else x1 == 95))) u (by rw [hb3,hb4]; rfl)<|zH (gv (fun _ k=>k) [] ⟨⟩))<|fun hb3=>
  zA 10 u<|zD (vb false)<|zA 1 u<|zQ<|wR 28 (vb ((decide (0 < s1)) && (if decide (48 ≤ x1) then (decide (x1 ≤ 57)) || (x1 == 95) else x1 == 95))) u (by rw [hb3]; rfl)<|zH (gv (fun _ k=>k) [] ⟨⟩))<|fun _ k=>k<|zJ u (wK<|qE<|
  qE<|zP<|jB 2 u<|qJ (gv (fun _ k=>k) [] ⟨⟩))<|jA 1 u<|zK<|qO<|qO<|qA<|wU<|qO<|qA<|zR u u (fun _ k=>k) [] ⟨⟩)<|qT<|qQ<|qY<|qW<|zP<|jA 1 u<|zK<|zR u u (fun _ k=>k) [] ⟨⟩
theorem zEC {qd : Prop} {y0 : zN} : qG qd prog 138 [.agg #[vb y0.1, vs y0.2]] [] [] (zAy y0) fun r K=>K (vb r) [] [] :=
 qD call138 func138 u fun X=>zB<|wC .s u<|fun b1=>zA 1 u<|zC<|zB<|zL 1 u<|zS 0 u u u<|qL zE0 u ⟨⟩<|fun r1 _ k=>k<|zA 1 u<|zC<|zK<|zR u u (fun _ k=>k) [] ⟨⟩
theorem zHf {qd : Prop} {y0 : Int} : qG qd prog 137 [vi y0] [] [] (zBk y0) fun r K=>K (vb r) [] [] :=
 qD call137 func137 u fun X=>jA 1 u<|jjp (fun K=>K [(2, vb ((decide (0 ≤ y0)) && (decide (y0 ≤ 9))))] [] []) (qN<|zA 3 u<|vR (b := decide (0 ≤ y0)) 5 u (fun hb1=>zA 2 u<|zD (vb (decide (y0 ≤ 9)))<|zA 1 u<|zQ<|
  wR 2 (vb ((decide (0 ≤ y0)) && (decide (y0 ≤ 9)))) u (by rw [hb1]; rfl)<|zH (gv (fun _ k=>k) [] ⟨⟩))<|fun hb1=>zA 2 u<|zD (vb false)<|zA 1 u<|zQ<|wR 2 (vb ((decide (0 ≤ y0)) && (decide (y0 ≤ 9)))) u (by rw [hb1]; rfl)<|
  zH (gv (fun _ k=>k) [] ⟨⟩))<|fun _ k=>k<|zK<|zR u u (fun _ k=>k) [] ⟨⟩
theorem zNn {qd : Prop} {y0 : qC} : qG qd prog 139 [vs y0] [] [] (zDH y0) fun r K=>K (vb r) [] [] :=
 qD call139 func139 u fun X=>jA 1 u<|jjn (fun s1 K=>K [(2, vb s1)] [] []) (qN<|zA 3 u<|wF 5 u (zA 2 u<|zD (vb true)<|zA 1 u<|zQ<|zH (gv (fun _ k=>k) [] ⟨⟩))<|zA 1 u<|qL zE0 u ⟨⟩<|fun r1 _ k=>k<|zD (vb r1)<|zA 1 u<|zQ<|
  zH (gv (fun _ k=>k) [] ⟨⟩))<|fun s1 _ k=>k<|zK<|zR u u (fun _ k=>k) [] ⟨⟩
theorem zNd {qd : Prop} {y0 : vO} : qG qd prog 77 [.agg #[vb y0.1.1, vs y0.1.2, vi y0.2.1, vi y0.2.2.1, vs y0.2.2.2]] [] [] (zCK y0) fun r K=>K (vi r) [] [] :=
 qD call77 func77 u fun X=>zB<|wC .s u<|fun b1=>zA 1 u<|zC<|zTu (fun s1 K=>K [1] [] [] [] []) (zB<|zL 2 u<|zS 0 u u u<|zC<|zV<|wL (fun s2 K=>K [1,4] [] [] [(5, vb s2)] []) (jA 2 u<|zJ u (wK<|zH (gv (fun _ k=>k) [0] ⟨⟩))<|jB 2 u<|
  zH (gv (fun _ k=>k) [0] ⟨⟩))<|fun s2 _ k=>k<|zJ u (zB<|zL 3 u<|zS 0 u u u<|zA 1 u<|zC<|zJ u (jA 1 u<|zK<|qO<|wU<|zR u u (fun _ k=>k) [] ⟨⟩)<|wK<|qE<|qJ (gv (fun _ k=>k) [0] ⟨⟩))<|jA 2 u<|zJ u (zB<|
  zL 3 u<|zS 0 u u u<|qL zHf u ⟨⟩<|fun r1 _ k=>k<|zA 1 u<|zC<|zJ u (jA 1 u<|zK<|qO<|wU<|zR u u (fun _ k=>k) [] ⟨⟩)<|wK<|qE<|qJ (gv (fun _ k=>k) [0] ⟨⟩))<|jA 1 u<|zK<|qO<|wU<|
  zR u u (fun _ k=>k) [] ⟨⟩)<|fun s1 _ k=>k<|zG<|jjn (fun s3 K=>K [(26, vb s3)] [[]] []) (qN<|zL 0 u<|qV 0 2 u u u<|qL zEC u ⟨⟩<|fun r2 _ k=>k<|zA 2 u<|wF 21 u (zA 4 u<|zD (vb true)<|zQ<|
  zH (gv (fun _ k=>k) [900] ⟨⟩))<|zL 4 u<|zS 0 u u u<|qL zNn u ⟨⟩<|fun r3 _ k=>k<|zA 1 u<|zD (vb (!r3))<|zQ<|zH (gv (fun _ k=>k) [900] ⟨⟩))<|fun s3 _ k=>k<|zJ u (jA 1 u<|zK<|qA<|
  zR u u (fun _ k=>k) [] ⟨⟩)<|jC<|jA 1 u<|zK<|zR u u (fun _ k=>k) [] ⟨⟩
theorem zMh {qd : Prop} {y0 : zM} {y1 : vH} : qG qd prog 81 [.agg #[sv p1 y0.1 c1, sv p2 y0.2.1 c2, sv p3 y0.2.2 c3], .agg #[vs y1.1, vi y1.2.1, vb y1.2.2.1, vs y1.2.2.2]] [] [Rl wO p1 c1 y0.1, Rl qP p2 c2 y0.2.1, Rl wJ p3 c3 y0.2.2] (zBd y0 y1) fun r K=>K (vi r) [] [] :=
 qD call81 func81 u fun X=>zB<|wC .s u<|fun b1=>wC .s u<|fun b2=>zA 1 u<|zC<|zG<|wL (fun s1 K=>K [2,3] [] [0,1,2] [(15, vb s1)] []) (qN<|zL 1 u<|zS 1 u u u<|qL zHf u ⟨⟩<|fun r1 _ k=>k<|zA 2 u<|wF 10 u (zA 4 u<|
  zD (vb true)<|zQ<|zH (gv (fun _ k=>k) [0,1] (gq [0,1,2])))<|zL 2 u<|qV 1 2 u u u<|qL zEC u ⟨⟩<|fun r2 _ k=>k<|zA 1 u<|zD (vb (!r2))<|zQ<|zH (gv (fun _ k=>k) [0,1] (gq [0,1,2])))<|fun s1 _ k=>k<|zJ u (
  jA 1 u<|zK<|qA<|zR u u (fun _ k=>k) [] ⟨⟩)<|jC<|zG<|zB<|qV 0 3 u u u<|zL 0 u<|zS 1 u u u<|qL zLp u (cq [0,1,2])<|fun r3 _ k=>k<|zA 1 u<|zC<|zV<|jA 3 u<|zJ u (jA 1 u<|zK<|qO<|qA<|
  zR u u (fun _ k=>k) [] ⟨⟩)<|zB<|zL 1 u<|zS 0 u u u<|zA 1 u<|wB 1 u u u<|fun x1 b3 o1=>zL 1 u<|wA false oB (gf (gs (gk 0))) u<|zA 1 u<|zC<|zJ u (jA 1 u<|zK<|qO<|qA<|zR u u (fun _ k=>k) [] ⟨⟩
  )<|wK<|qE<|zP<|jA 1 u<|zK<|zR u u (fun _ k=>k) [] ⟨⟩
theorem zJi {qd : Prop} {y0 : qC} : qG qd prog 220 [vs y0] [] [] (zDS y0) fun r K=>K (vb r) [] [] :=
 qD call220 func220 u fun X=>jA 1 u<|jA 4 u<|zK<|zR u u (fun _ k=>k) [] ⟨⟩
theorem zMm {qd : Prop} {y0 : qC} {y1 : qC} : qG qd prog 170 [vs y0, vs y1] [] [] (zDg y0 y1) fun r K=>K (vi r) [] [] :=
 qD call170 func170 u fun X=>jA 1 u<|zB<|zA 1 u<|qL zJi u ⟨⟩<|fun r1 _ k=>k<|zA 1 u<|zC<|zB<|zA 1 u<|qL zJi u ⟨⟩<|fun r2 _ k=>k<|zA 1 u<|zC<|zG<|jA 1 u<|zJ u (zG<|jA 1 u<|zJ u (jA 1 u<|zK<|qA<|qA<|
  zR u u (fun _ k=>k) [] ⟨⟩)<|jC<|jA 1 u<|zK<|qA<|zR u u (fun _ k=>k) [] ⟨⟩)<|jC<|zG<|jA 1 u<|zJ u (jA 1 u<|zK<|qA<|zR u u (fun _ k=>k) [] ⟨⟩)<|jC<|zG<|jA 3 u<|zJ u (jA 1 u<|zK<|qA<|
  zR u u (fun _ k=>k) [] ⟨⟩)<|jC<|zG<|jA 3 u<|zJ u (jA 1 u<|zK<|qA<|zR u u (fun _ k=>k) [] ⟨⟩)<|jC<|jA 1 u<|zK<|zR u u (fun _ k=>k) [] ⟨⟩
theorem zK2 {qd : Prop} {y0 : zN} {y1 : zN} : qG qd prog 105 [.agg #[vb y0.1, vs y0.2], .agg #[vb y1.1, vs y1.2]] [] [] (zBH y0 y1) fun r K=>K (vi r) [] [] :=
 qD call105 func105 u fun X=>zB<|wC .s u<|fun b1=>wC .s u<|fun b2=>zA 1 u<|zC<|zG<|zB<|zL 1 u<|zS 0 u u u<|zL 1 u<|zS 1 u u u<|qL zMm u ⟨⟩<|fun r1 _ k=>k<|zA 1 u<|zC<|
  uN (fun K=>K [3,5] [(0, [])] [] [(19, vb ((r1 != 0) || (y0.1 == y1.1)))] []) (qN<|zA 3 u<|vR (b := r1 != 0) 13 u (fun hb1=>zA 5 u<|zD (vb true)<|zQ<|wR 19 (vb ((r1 != 0) || (y0.1 == y1.1))) u (by rw [hb1]; rfl)<|
  zH (gv (fun _ k=>k) [900,1] ⟨⟩))<|fun hb1=>zL 0 u<|zS 0 u u u<|zL 0 u<|zS 1 u u u<|zD (vb (y0.1 == y1.1))<|zD (vb (y0.1 == y1.1))<|zQ<|wR 19 (vb ((r1 != 0) || (y0.1 == y1.1))) u (by rw [hb1]; rfl)<|
  zH (gv (fun _ k=>k) [900,1] ⟨⟩))<|fun _ k=>k<|zJ u (jA 2 u<|zK<|qA<|zR u u (fun _ k=>k) [] ⟨⟩)<|jC<|zG<|zB<|zL 0 u<|zS 1 u u u<|zC<|zJ u (jA 1 u<|zK<|qA<|zR u u (fun _ k=>k) [] ⟨⟩)<|jC<|jA 1 u<|zK<|
  zR u u (fun _ k=>k) [] ⟨⟩
theorem zPp {qd : Prop} {y0 : qR} : qG qd prog 79 [.agg #[vs y0.1, vb y0.2.1, vi y0.2.2.1, sv p1 y0.2.2.2.1 c1, vb y0.2.2.2.2.1, vs y0.2.2.2.2.2]] [] [Rl wN p1 c1 y0.2.2.2.1] (zEH y0) fun r K=>K (vi r) [] [] :=
 qD call79 func79 u fun X=>zB<|wC .s u<|fun b1=>zA 1 u<|zC<|zG<|zB<|zL 3 u<|zS 0 u u u<|zA 2 u<|zC<|zJ u (jA 1 u<|zK<|qA<|zR u u (fun _ k=>k) [] ⟨⟩)<|jC<|zG<|wL (fun s1 K=>K [1] [] [0] [(34, vb s1)] []) (qN<|zL 0 u<|
  zS 0 u u u<|qL zE0 u ⟨⟩<|fun r1 _ k=>k<|zA 2 u<|wF 14 u (zA 4 u<|zD (vb true)<|zA 5 u<|zD (vb true)<|zA 8 u<|zD (vb true)<|zQ<|zH (gv (fun _ k=>k) [0] (gq [0])))<|zL 4 u<|
  qV 0 2 u u u<|qL zEC u ⟨⟩<|fun r2 _ k=>k<|zA 1 u<|zD (vb (!r2))<|zA 1 u<|wF 20 u (zA 4 u<|zD (vb true)<|zA 8 u<|zD (vb true)<|zQ<|zH (gv (fun _ k=>k) [0] (gq [0])))<|zL 2 u<|zS 0 u u u<|
  qL zHf u ⟨⟩<|fun r3 _ k=>k<|zA 1 u<|zD (vb (!r3))<|zA 1 u<|wF 26 u (zA 7 u<|zD (vb true)<|zQ<|zH (gv (fun _ k=>k) [0] (gq [0])))<|zL 1 u<|zS 0 u u u<|zA 1 u<|wF 29 u (zL 2 u<|
  zS 0 u u u<|zA 1 u<|zD (vb (y0.2.2.1 != 0))<|zD (vb (y0.2.2.1 != 0))<|zQ<|zH (gv (fun _ k=>k) [0] (gq [0])))<|zA 3 u<|zD (vb false)<|zD (vb false)<|zQ<|zH (gv (fun _ k=>k) [0] (gq [0])))<|fun s1 _ k=>k<|zJ u (
  jA 1 u<|zK<|qA<|zR u u (fun _ k=>k) [] ⟨⟩)<|jC<|zTu (fun s2 K=>K [1] [] [0] [] []) (zB<|zL 3 u<|zS 0 u u u<|zA 2 u<|zC<|zV<|qZ (fun s3 K=>K [1,36,37] [] [0] [(38, vi s3)] []) (gv (fun _ k=>k) [0] (gq [0]))<|
  fun s3 _ k=>k<|jA 1 u<|zG<|zJ u (jC<|zG<|zV<|zB<|wB 0 u u u<|fun x1 b2 o1=>wA true yK (gk 0) u<|wM .s (.agg #[vb false, vs []])<|fun b3=>qI .s 1 u u u<|zC<|zB<|qV 1 2 u u u<|
  qL zEC u ⟨⟩<|fun r4 _ k=>k<|zA 1 u<|zC<|zJ u (jA 1 u<|zK<|qO<|qA<|wU<|qO<|wU<|zR u u (fun _ k=>k) [] ⟨⟩)<|wK<|qE<|zP<|jB 2 u<|qJ (gv (fun _ k=>k) [0] (gq [1])))<|qT<|qQ<|qY<|qW<|
  qJ (gv (fun _ k=>k) [0] (gq [0])))<|fun s2 _ k=>k<|zG<|jA 1 u<|zV<|qZ (fun s4 K=>K [1] [] [0] [(5, vi s4)] []) (gv (fun _ k=>k) [0] (gq [0]))<|fun s4 _ k=>k<|zG<|zB<|zA 1 u<|zL 3 u<|zS 0 u u u<|zA 2 u<|zC<|
  zJ u (jC<|zG<|zV<|yE [] [0] 13<|qH 0 3 u u<|qS 1 0 u u u u<|zT 9 [2,3] u<|vE 4 0 u u u u<|fun x2 b4 o2=>vD 5 true yK u (gk 0) u<|qH 6 3 u u<|qS 7 0 u u u u<|zT 4 [8] u<|
  vE 9 1 u u u u<|fun x3 b5 o3=>vD 10 true yK u (gk 0) u<|zX 11<|qB (.f u) [] [] zK2 u u u ⟨⟩<|fun r5 _ k=>k<|zO<|zT 0 [12] u<|qM<|zP<|zJ u (jA 1 u<|zK<|qO<|qA<|wU<|qO<|qA<|
  zR u u (fun _ k=>k) [] ⟨⟩)<|wK<|qE<|zP<|jB 3 u<|qJ (gv (fun _ k=>k) [0] (gq [2])))<|qT<|qQ<|qY<|qW<|zP<|jA 1 u<|zK<|zR u u (fun _ k=>k) [] ⟨⟩
theorem zJ1 {qd : Prop} {y0 : zM} : qG qd prog 43 [.agg #[sv p1 y0.1 c1, sv p2 y0.2.1 c2, sv p3 y0.2.2 c3]] [] [Rl wO p1 c1 y0.1, Rl qP p2 c2 y0.2.1, Rl wJ p3 c3 y0.2.2] (zBC y0) fun r K=>K (vi r) [] [] :=
 qD call43 func43 u fun X=>zB<|wC .s u<|fun b1=>zA 1 u<|zC<|zG<|uN (fun K=>K [1] [] [0,1,2] [(27, vb ((decide (16 < (len y0.1))) || ((decide (24 < (len y0.2.1))) || (decide (8 < (len y0.2.2))))))] []) (qN<|zL 0 u<|zS 0 u u u<|zA 3 u<|
  vR (b := decide (16 < (len y0.1))) 16 u (fun hb1=>zA 4 u<|zD (vb true)<|zA 5 u<|zD (vb true)<|zQ<|wR 27 (vb ((decide (16 < (len y0.1))) || ((decide (24 < (len y0.2.1))) || (decide (8 < (len y0.2.2)))))) u (by rw [hb1]; rfl)<|
  zH (gv (fun _ k=>k) [0] (gq [0,1,2])))<|fun hb1=>zL 1 u<|zS 0 u u u<|zA 2 u<|zD (vb (decide (24 < (len y0.2.1))))<|zA 1 u<|vR (b := decide (24 < (len y0.2.1))) 22 u (fun hb2=>zA 4 u<|zD (vb true)<|zQ<|
  wR 27 (vb ((decide (16 < (len y0.1))) || ((decide (24 < (len y0.2.1))) || (decide (8 < (len y0.2.2)))))) u (by rw [hb1,hb2]; rfl)<|zH (gv (fun _ k=>k) [0] (gq [0,1,2])))<|fun hb2=>zL 2 u<|zS 0 u u u<|zA 2 u<|
  zD (vb (decide (8 < (len y0.2.2))))<|zQ<|wR 27 (vb ((decide (16 < (len y0.1))) || ((decide (24 < (len y0.2.1))) || (decide (8 < (len y0.2.2)))))) u (by rw [hb1,hb2]; rfl)<|zH (gv (fun _ k=>k) [0] (gq [0,1,2])))<|fun _ k=>k<|zJ u (
  jA 1 u<|zK<|qA<|zR u u (fun _ k=>k) [] ⟨⟩)<|jC<|zTu (fun s1 K=>K [1] [] [0,1,2] [] []) (zB<|zL 0 u<|zS 0 u u u<|zA 2 u<|zC<|zV<|
  qZ (fun s2 K=>K [1,29,30] [] [0,1,2] [(31, vi s2)] []) (gv (fun _ k=>k) [0] (gq [0,1,2]))<|fun s2 _ k=>k<|jA 1 u<|zG<|zJ u (jC<|zG<|zV<|zB<|zA 1 u<|wB 0 u u u<|fun x1 b2 o1=>wA true zHM (gk 0) u<|
  wM .s (.agg #[vb false, vs [], vi 0, vi 0, vs []])<|fun b3=>zA 1 u<|qI .s 1 u u u<|zC<|zG<|zB<|qV 1 5 u u u<|qL zNd u ⟨⟩<|fun r1 _ k=>k<|zA 1 u<|zC<|jA 2 u<|zJ u (jA 2 u<|zK<|qA<|qO<|
  qA<|wU<|qO<|wU<|zR u u (fun _ k=>k) [] ⟨⟩)<|jC<|zB<|qV 0 3 u u u<|zL 0 u<|qV 1 2 u u u<|qL zOR u (cq [1,2,3])<|fun r2 _ k=>k<|zA 2 u<|zC<|zJ u (jA 1 u<|zK<|qO<|qA<|wU<|qO<|wU<|
  zR u u (fun _ k=>k) [] ⟨⟩)<|wK<|qE<|zP<|jB 2 u<|qJ (gv (fun _ k=>k) [0] (gq [1,2,3])))<|qT<|qQ<|qY<|qW<|qJ (gv (fun _ k=>k) [0] (gq [0,1,2])))<|fun s1 _ k=>k<|zTu (fun s3 K=>K [1] [] [0,1,2] [] []) (zB<|zL 1 u<|
  zS 0 u u u<|zA 2 u<|zC<|zV<|qZ (fun s4 K=>K [1,49,50] [] [1,0,2] [(51, vi s4)] []) (gv (fun _ k=>k) [0] (gq [1,0,2]))<|fun s4 _ k=>k<|jA 1 u<|zG<|zJ u (jC<|zG<|zV<|zB<|zA 1 u<|wB 0 u u u<|fun x2 b4 o2=>
  wA true zJK (gk 0) u<|fun p4 c4=>wM .s (.agg #[vs [], vb false, vi 0, .slice none 0 0, vb false, vs []])<|fun b5=>zA 1 u<|qI .s 1 u u u<|zC<|zG<|zB<|qV 1 6 u u u<|qL zPp u (cq [0])<|fun r3 _ k=>k<|
  zA 1 u<|zC<|jA 2 u<|zJ u (jA 2 u<|zK<|qA<|qO<|qA<|wU<|qO<|wU<|zR u u (fun _ k=>k) [] ⟨⟩)<|jC<|zB<|qV 0 3 u u u<|zL 0 u<|zS 1 u u u<|qL zLp u (cq [3,2,4])<|fun r4 _ k=>k<|zA 2 u<|
  zC<|zJ u (jA 1 u<|zK<|qO<|qA<|wU<|qO<|wU<|zR u u (fun _ k=>k) [] ⟨⟩)<|wK<|qE<|zP<|jB 2 u<|qJ (gv (fun _ k=>k) [0] (gq [2,3,4])))<|qT<|qQ<|qY<|qW<|qJ (gv (fun _ k=>k) [0] (gq [1,0,2])))<|fun s3 _ k=>k<|zG<|zB<|
  zL 2 u<|zS 0 u u u<|zA 2 u<|zC<|zV<|qZ (fun s5 K=>K [1,69,70] [] [2,0,1] [(71, vi s5)] []) (gv (fun _ k=>k) [0] (gq [2,0,1]))<|fun s5 _ k=>k<|jA 1 u<|zG<|zJ u (jC<|zG<|zV<|zB<|wB 0 u u u<|fun x3 b6 o3=>
  wA true zGe (gk 0) u<|wM .s (.agg #[vs [], vi 0, vb false, vs []])<|fun b7=>qI .s 1 u u u<|zC<|zB<|qV 0 3 u u u<|qV 1 4 u u u<|qL zMh u (cq [2,3,1])<|fun r5 _ k=>k<|zA 1 u<|zC<|
  jA 2 u<|zJ u (jA 2 u<|zK<|qO<|qA<|wU<|qO<|qA<|zR u u (fun _ k=>k) [] ⟨⟩)<|wK<|qE<|zP<|jB 2 u<|qJ (gv (fun _ k=>k) [0] (gq [1,2,3])))<|qT<|qQ<|qY<|qW<|zP<|jA 1 u<|zK<|zR u u (fun _ k=>k) [] ⟨⟩
theorem zPV {qd : Prop} {y0 : zM} : qG qd prog 21 [.agg #[sv p1 y0.1 c1, sv p2 y0.2.1 c2, sv p3 y0.2.2 c3]] [] [Rl wO p1 c1 y0.1, Rl qP p2 c2 y0.2.1, Rl wJ p3 c3 y0.2.2] (zBf y0) fun r K=>∀ p4 c4,K (.tuple #[sv p4 r.1 c4, vi r.2]) [] [Rl wS p4 c4 r.1] :=
 qD call21 func21 u fun X=>zB<|wC .s u<|fun b1=>zA 2 u<|zC<|jcs<|zG<|zB<|qV 0 3 u u u<|qL zJ1 u (cq [0,1,2])<|fun r1 _ k=>k<|zA 1 u<|zC<|jA 2 u<|zJ u (jA 3 u<|zK<|qA<|jcr<|
  wW u (lT u (lT u lN)) (fun _ k=>k none 0) [] ⟨gn,⟨⟩⟩)<|jC<|zB<|qV 0 3 u u u<|zD (.agg #[sv p1 y0.1 c1, sv p2 y0.2.1 c2, sv p3 y0.2.2 c3, .slice none 0 0, .slice none 0 0, vi 0])<|vV wS 95<|wC .s u<|fun b2=>
  zA 1 u<|zC<|wL (fun s1 K=>∀ p4 c4 r_1,K [1,5] [(1, r_1), (2, bx b2 93 [sv p1 y0.1 c1, sv p2 y0.2.1 c2, sv p3 y0.2.2 c3, sv p4 s1 c4, .slice none 0 0, vi 0])] [1,2,3] [] [Al wS 95 r_1 p4 c4 s1]) (zB<|zL 0 u<|
  zS 0 u u u<|zA 2 u<|zC<|zV<|
  qZ (fun s2 K=>∀ p5 c5 r_2,K [1,5,20,21] [(1, r_2), (2, bx b2 93 [sv p1 y0.1 c1, sv p2 y0.2.1 c2, sv p3 y0.2.2 c3, sv p5 s2.2 c5, .slice none 0 0, vi 0])] [1,2,3] [(22, vi s2.1)] [Al wS 95 r_2 p5 c5 s2.2]) (gv (fun _ k=>k none 0 []) [0,1,2] (gq [0,1,2,3]))<|
  fun s2 _ k p5 c5 r_2=>k<|jA 1 u<|zG<|zJ u (jC<|zG<|zV<|zB<|zA 1 u<|wB 1 u u u<|fun x1 b3 o1=>wA true zHM (gk 0) u<|wM .s (.agg #[vb false, vs [], vi 0, vi 0, vs []])<|fun b4=>zA 1 u<|qI .s 3 u u u<|
  zC<|yI [13] [2, 3] 14<|zT 11 [0,1,2] u<|qH 3 3 u u<|qS 4 2 u u u u<|zT 8 [5] u<|qH 6 0 u u<|vQ 7 3 2 u u u u<|wD 8 (.agg #[vi s2.1, vi (-1), .slice none 0 0, vb x1.1.1, vs x1.1.2]) u<|zX 9<|
  wT (.f u) (e := wS) 95 [vi s2.1, vi (-1), .slice none 0 0, vb x1.1.1, vs x1.1.2] ([(s2.1, (-1), ([] : List Int), x1.1)] : List zI) (rC (vP vI (vP vI (vP (vL gn) (vP vB vS)))) rN)<|fun p6 c6=>zO<|zX 10<|
  wE (.f u) 1 2 u (gk 0) u u<|fun x2 r_3 p7 c7=>zO<|zT 2 [11] u<|qH 12 3 u u<|zX 13<|qI (o := 3) (.f u) 2 u u u<|jdb [] [2, 3]<|qM<|qE<|zP<|jB 2 u<|qJ (gv (fun _ k=>k p7 c7 r_3) [0,1,2] (gq [0,4,5,6])))<|
  qT<|qQ<|qY<|qW<|zH (gv (fun _ k=>k p5 c5 r_2) [0,1,2] (gq [0,1,2,3])))<|fun s1 _ k p4 c4 r_1=>k<|zG<|jlb<|zP<|
  wL (fun s3 K=>∀ p8 c8 r_4 p9 c9 r_5,K [5] [(0, []), (1, r_4), (2, bx b2 93 [sv p1 y0.1 c1, sv p2 y0.2.1 c2, sv p3 y0.2.2 c3, sv p8 s3.1 c8, sv p9 s3.2.1 c9, vi s3.2.2]), (3, r_5)] [1,2,3] [] [Al wS 95 r_4 p8 c8 s3.1, Al wS 95 r_5 p9 c9 s3.2.1]) (
  jA 1 u<|zV<|
  qZ (fun s4 K=>∀ p10 c10 r_6 p11 c11,K [1,5] [(1, r_6), (2, bx b2 93 [sv p1 y0.1 c1, sv p2 y0.2.1 c2, sv p3 y0.2.2 c3, sv p10 s4.2.1 c10, sv p11 s4.2.2.1 c11, vi s4.2.2.2])] [1,2,3] [(8, vi s4.1)] [Al wS 95 r_6 p10 c10 s4.2.1, Rl wS p11 c11 s4.2.2.1]) (gv (fun _ k=>k p4 c4 r_1 none 0) [0,1,2] ⟨gk 0,gn,gk 1,gk 2,gk 3,⟨⟩⟩)<|
  fun s4 _ k p10 c10 r_6 p11 c11=>k<|zG<|zV<|zB<|zA 2 u<|zL 4 u<|vV wS 95<|qI .s 2 u u u<|zC<|
  zTu (fun s5 K=>∀ p12 c12 r_7,K [1,5,8] [(2, bx b2 93 [sv p1 y0.1 c1, sv p2 y0.2.1 c2, sv p3 y0.2.2 c3, sv p10 s4.2.1 c10, sv p12 s5 c12, vi s4.2.2.2]), (3, r_7)] [3,4,5,1] [] [Al wS 95 r_7 p12 c12 s5]) (zB<|zL 1 u<|
  zS 0 u u u<|zA 2 u<|zC<|zV<|
  qZ (fun s6 K=>∀ p13 c13 r_8,K [1,5,8,47,48] [(2, bx b2 93 [sv p1 y0.1 c1, sv p2 y0.2.1 c2, sv p3 y0.2.2 c3, sv p10 s4.2.1 c10, sv p13 s6.2 c13, vi s4.2.2.2]), (3, r_8)] [4,3,5,1] [(49, vi s6.1)] [Al wS 95 r_8 p13 c13 s6.2]) (gv (fun _ k=>k none 0 []) [0,1,2,3] (gq [0,4,3,5,1]))<|
  fun s6 _ k p13 c13 r_8=>k<|jA 1 u<|zG<|zJ u (jC<|zG<|zV<|zB<|zA 1 u<|wB 1 u u u<|fun x3 b5 o2=>wA true zJK (gk 0) u<|fun p14 c14=>wM .s (.agg #[vs [], vb false, vi 0, .slice none 0 0, vb false, vs []])<|fun b6=>
  zA 1 u<|qI .s 4 u u u<|zC<|
  wL (fun s7 K=>∀ p15 c15 r_9,K [1,5,8,47,48,49] [(2, bx b2 93 [sv p1 y0.1 c1, sv p2 y0.2.1 c2, sv p3 y0.2.2 c3, sv p10 s4.2.1 c10, sv p15 s7 c15, vi s4.2.2.2]), (3, r_9), (4, [])] [3,4,5,6] [] [Al wS 95 r_9 p15 c15 s7]) (zB<|
  zL 3 u<|zS 4 u u u<|zA 2 u<|zC<|zJ u (qN<|zA 2 u<|qB .s [2, 1, 3] [] zJ2 u u u ⟨ck 4,ck 3,ck 5,ck 6,ck 2,cn,⟨⟩⟩<|fun r2 _ k p16 c16 r_10=>k<|zQ<|
  zH (gv (fun _ k=>k p16 c16 r_10) [0,1,2,3,904] (gq [0,4,5,6,7])))<|jA 2 u<|zJ u (yI [13] [2, 4] 14<|zT 11 [0,1,2] u<|qH 3 4 u u<|qS 4 2 u u u u<|zT 8 [5] u<|qH 6 4 u u<|vQ 7 4 2 u u u u<|
  wD 8 (.agg #[vi (-1), vi s6.1, .slice none 0 0, vb x3.2.2.2.2.1, vs x3.2.2.2.2.2]) u<|zX 9<|
  wT (.f u) (e := wS) 95 [vi (-1), vi s6.1, .slice none 0 0, vb x3.2.2.2.2.1, vs x3.2.2.2.2.2] ([((-1), s6.1, ([] : List Int), x3.2.2.2.2)] : List zI) (rC (vP vI (vP vI (vP (vL gn) (vP vB vS)))) rN)<|fun p17 c17=>zO<|
  zX 10<|wE (.f u) 3 3 u (gk 0) u u<|fun x4 r_11 p18 c18=>zO<|zT 2 [11] u<|qH 12 4 u u<|zX 13<|qI (o := 4) (.f u) 2 u u u<|jdb [] [2, 4]<|qM<|zH (gv (fun _ k=>k p18 c18 r_11) [0,1,2,3,904] (gq [0,5,6,7,8])))<|
  wK<|zH (gv (fun _ k=>k p13 c13 r_8) [0,1,2,3,904] (gq [2,3,4,5,6])))<|fun s7 _ k p15 c15 r_9=>k<|zB<|zA 1 u<|qB .s [2] [1, 3] zES u u u ⟨ck 2,ck 1,ck 3,cl 1 4,cl 3 0,⟨⟩⟩<|fun r3 _ k=>k<|zC<|zJ u (qT<|
  jbm<|qQ<|qY<|jbm<|qY<|jbm<|qQ<|qY<|qW<|zH (gv (fun _ k=>k p10 c10 r_6 p15 c15 r_9) [900,1,2,3] (gq [4,0,2,1,3])))<|wK<|qE<|zP<|jB 2 u<|qJ (gv (fun _ k=>k p15 c15 r_9) [0,1,2,3] (gq [0,1,2,3,4])))<|qT<|qQ<|qY<|qW<|
  qJ (gv (fun _ k=>k p13 c13 r_8) [0,1,2,3] (gq [0,2,1,3,4])))<|fun s5 _ k p12 c12 r_7=>k<|zG<|zB<|zA 2 u<|zL 4 u<|zS 2 u u u<|zA 2 u<|zC<|zJ u (qT<|qQ<|jbm<|qQ<|qY<|qW<|
  zH (gv (fun _ k=>k p10 c10 r_6 p12 c12 r_7) [900,1,2,3] (gq [4,0,1,2,3])))<|jC<|zB<|zA 3 u<|zL 3 u<|zS 2 u u u<|zA 2 u<|zL 5 u<|qI .s 2 u u u<|zC<|yI [12] [2] 13<|zT 10 [0,1,2] u<|qH 3 3 u u<|
  qS 4 2 u u u u<|zT 6 [5,6] u<|qH 7 4 u u<|qS 8 2 u u u u<|zX 9<|jao (.f u) 1 3 4 0 u u u u<|fun x5 r_12 p19 c19=>zO<|zT 2 [10] u<|qH 11 3 u u<|zX 12<|qI (o := 3) (.f u) 2 u u u<|
  jdb [] [2]<|qM<|qE<|zP<|jB 3 u<|wX 3 1 u u<|qJ (gv (fun _ k=>k p19 c19 r_12 p12 c12) [0,1,2] (gq [1,0,3,4,5])))<|fun s3 _ k p8 c8 r_4 p9 c9 r_5=>k<|zG<|zB<|zA 1 u<|
  qB .s [2] [1, 3] zES u u u ⟨ck 2,ck 3,ck 4,cl 1 0,cl 3 1,⟨⟩⟩<|fun r4 _ k=>k<|zC<|zJ u (jA 2 u<|zK<|qA<|jcr<|wW u (lT u (lT u lN)) (fun _ k=>k none 0) [] ⟨gn,⟨⟩⟩)<|jC<|zB<|zA 2 u<|zL 3 u<|
  zS 2 u u u<|zA 2 u<|zC<|zK<|jcr<|wX 1 0 u u<|wW u (lT u (lT u lN)) (fun _ k=>k p8 c8) [] (gq [0])
theorem zH9 {qd : Prop} {y0 : List zN} : qG qd prog 61 [sv p1 y0 c1] [] [Rl wN p1 c1 y0] (zBj y0) fun r K=>∀ p2 c2 r_1,K (sv p2 r c2) [r_1] [Al wN 52 r_1 p2 c2 r] :=
 qD call61 func61 u fun X=>jA 1 u<|zG<|zB<|zA 1 u<|jv (fun h=>zXB h u underlying55)<|zC<|jnl (m1 := some ([] : List zN)) u (gk 0) (fun h=>by first|(rw [h];done)|(rw [h];rfl)|(simp [h,wI];done)) (jA 1 u<|zK<|qA<|vV wN 52<|
  jrE 0 2 u u<|zR u u (fun _ k=>k none 0 []) [0] (gq [0]))<|jC<|zB<|yP .s (e := wN) 52 [] ([] : List zN) rN<|fun r_1 p2 c2=>zA 1 u<|wE .s 0 0 u (gk 1) u u<|fun x1 r_2 p3 c3=>zA 1 u<|zC<|zK<|
  zR u u (fun _ k=>k p3 c3 r_2) [0] (gq [0])
theorem zKZ {qd : Prop} {y0 : List zN} : qG qd prog 106 [sv p1 y0 c1] [r_1] [Al wN 52 r_1 p1 c1 y0] (zAw y0) fun r K=>∀ p2 c2 r_2,K (sv p2 r c2) [[], r_2] [Al wN 52 r_2 p2 c2 r] :=
 qD call106 func106 u fun X=>jA 1 u<|zG<|jA 3 u<|zJ u (jA 2 u<|zK<|qA<|zR u u (fun _ k=>k p1 c1 r_1) [900,0] (gq [0]))<|jC<|zG<|jA 1 u<|zV<|qZ (fun s1 K=>K [0] [] [0] [(3, vi s1)] []) (gv (fun _ k=>k) [0] (gq [0]))<|fun s1 _ k=>k<|zG<|jA 4 u<|
  zJ u (jC<|zG<|zV<|yE [] [0] 10<|zT 8 [0,1] u<|uU 2 0 u u u u<|fun x1 h1 b1 hp1=>xY 3 0 0 sI true yK u u hp1 h1 u<|zT 3 [4,5,6] u<|uU 7 0 u u u u<|fun x2 h2 b2 hp2=>
  xY 8 0 0 sI true yK u u hp2 h2 u<|wD 9 (vb (x1 == x2)) u<|qM<|zP<|zJ u (zB<|zA 2 u<|jsV 0 u u u<|fun u1 p2 c2 f1=>zA 1 u<|zC<|
  jjn (fun s2 K=>∀ r_2,K [(0, .slice p1 (List.length y0) c1), (3, vi s2.2)] [r_2] [Ar wN 52 r_2 p1 c1 (List.length y0) s2.1]) (jA 1 u<|zV<|
  qZ (fun s3 K=>∀ r_3,K [4] [(0, r_3)] [] [(0, .slice p1 (List.length y0) c1), (3, vi s3.2.1), (5, vi s3.2.2)] [Ar wN 52 r_3 p1 c1 (List.length y0) s3.1]) (gv (fun _ k=>k r_1) [0] (gq [0]))<|fun s3 _ k r_3=>k<|zG<|jA 4 u<|
  zJ u (jC<|zG<|zV<|yE [] [0] 10<|zT 8 [0,1] u<|jdX 2 0 u u f1 u u<|fun x3 b3 hp3 h3=>xY 3 0 0 sI true yK u u hp3 h3 u<|zT 3 [4,5,6] u<|jdX 7 0 u u f1 u u<|fun x4 b4 hp4 h4=>
  xY 8 0 0 sI true yK u u hp4 h4 u<|wD 9 (vb (!(x3 == x4))) u<|qM<|zP<|zJ u (zB<|zA 4 u<|jiV 0 u f1 u u<|fun x5 b5 hp5 h5=>jlA 0 0 sI true yK u hp5 h5 u<|uZ 0 u u u<|fun x6 h6 b6 hp6=>
  xK .s 0 0 sI x5 true u hp6 h6 u u (vP vB vS)<|fun r_4=>zC<|jB 3 u<|qE<|zP<|jB 3 u<|qJ (gv (fun _ k=>k r_4) [0] (gq [0])))<|wK<|qE<|zP<|jB 3 u<|qJ (gv (fun _ k=>k r_3) [0] (gq [0])))<|qT<|qQ<|qY<|qW<|
  zH (gv (fun _ k=>k r_3) [0] (gq [0])))<|fun s2 _ k r_2=>k<|zB<|zA 2 u<|jsV 0 u u u<|fun u2 p3 c3 f2=>jcv .s 0 0 (false, []) (.agg #[vb false, vs []]) u f2 u (vP vB vS)<|fun r_5=>zC<|zB<|zA 2 u<|jsP 0 u u u<|
  fun x7=>zA 1 u<|zC<|zK<|qO<|qA<|wU<|qO<|qA<|zR u u (fun _ k=>k p1 c1 r_5) [900,0] (gq [0]))<|wK<|qE<|zP<|jB 3 u<|qJ (gv (fun _ k=>k) [0] (gq [0])))<|qT<|qQ<|qY<|qW<|zP<|jA 2 u<|zK<|
  zR u u (fun _ k=>k p1 c1 r_1) [900,0] (gq [0])
theorem zEn {qd : Prop} {y0 : List zN} : qG qd prog 104 [sv p1 y0 c1, .func (.func 105) #[] #[]] [r_1] [Al wN 52 r_1 p1 c1 y0] (zAB y0) fun r K=>∀ r_2,K (.tuple #[]) [r_2] [Ar wN 52 r_2 p1 c1 (List.length y0) r] := ⟨call104, fun A w0 r hm hO hF => by
 have h := zPl (qd := qd) Go.Proofs.Tryz.sort104 (uE.prod uE.bool uE.str) (te := 52) Tryz.isAgg52 Tryz.sizeOf52 zBH 105 (enters_of func105 (by kernel_rfl) u) (fun w x y n hn => ?_) hO hF.1.1 hm
 · change Calls prog 104 _ _ _ at h
   refine h.mono fun e w' h => ?_
   cases e with
   | returned v => obtain ⟨r', rfl, h1, h2, h3, h4⟩ := h; exact fun G k => k r' ⟨rfl, h1, h2, ⟨h3, h4.symm⟩, trivial⟩
   | panicked ch => exact h
   | outgrown => exact h
 · refine ((zK2 (qd := True) (y0 := x) (y1 := y)).go [] w n hn (wG.start (by simp)) trivial).mono fun e w' h => ?_
   cases e with
   | returned v => exact h _ fun ⟨e1, q⟩ => ⟨e1, q.e⟩
   | panicked ch => exact h
   | outgrown => exact h⟩
theorem zL1 {qd : Prop} {y0 : List zN} : qG qd prog 56 [sv p1 y0 c1] [] [Rl wN p1 c1 y0] (zCY y0) fun r K=>∀ p2 c2 r_1,K (sv p2 r c2) [r_1] [Al wN 52 r_1 p2 c2 r] :=
 qD call56 func56 u fun X=>jA 1 u<|zB<|zA 1 u<|qL zH9 u (cq [0])<|fun r1 _ k p2 c2 r_1=>k<|zA 1 u<|zC<|zB<|zA 1 u<|qB .s [0] [] zEn u u u (cq [0])<|fun r2 _ k r_2=>k<|zC<|zB<|
  zA 1 u<|jrE 0 8 u u<|qB .s [0] [] zKZ u u u (cq [0])<|fun r3 _ k p3 c3 r_3=>k<|zA 1 u<|zC<|zK<|zR u u (fun _ k=>k p3 c3 r_3) [1] (gq [0])
theorem zHb {qd : Prop} {y0 : List zI} {y1 : List Int} : qG qd prog 24 [sv p1 y0 c1, sv p2 y1 c2] [] [Rl wS p1 c1 y0, Rl (zU .i64) p2 c2 y1] (zAu y0 y1) fun r K=>∀ p3 c3,K (sv p3 r c3) [] [Rl wN p3 c3 r] :=
 qD call24 func24 u fun X=>jA 1 u<|zB<|zA 1 u<|vV wN 52<|zC<|jjn (fun s1 K=>∀ p3 c3 r_1,K [(5, sv p3 s1 c3)] [r_1] [Al wN 52 r_1 p3 c3 s1]) (jA 3 u<|zV<|
  qZ (fun s2 K=>∀ p4 c4 r_2,K [0,8,9] [(0, r_2)] [1,2] [(5, sv p4 s2.1 c4), (10, vi s2.2)] [Al wN 52 r_2 p4 c4 s2.1]) (gv (fun _ k=>k none 0 []) [0] (gq [0,1,2]))<|fun s2 _ k p4 c4 r_2=>k<|jA 1 u<|zG<|zJ u (jC<|zG<|zV<|zB<|
  wB 2 u u u<|fun x1 b1 o1=>wA false oI (gk 0) u<|zA 1 u<|zC<|zB<|zA 2 u<|qL zHl u (cq [2])<|fun r1 _ k=>k<|zC<|zJ u (qN<|zA 3 u<|wB 2 u u u<|fun x2 b2 o2=>zL 3 u<|
  wA true yK (gs (gs (gs (gk 0)))) u<|wT .s (e := wN) 52 [vb x2.2.2.2.1, vs x2.2.2.2.2] ([x2.2.2.2] : List zN) (rC (vP vB vS) rN)<|fun p5 c5=>wE .s 0 3 u (gk 0) u u<|fun x3 r_3 p6 c6=>zA 1 u<|zQ<|qE<|zP<|
  jB 2 u<|qJ (gv (fun _ k=>k p6 c6 r_3) [0] (gq [0,5,6])))<|wK<|qE<|zP<|jB 2 u<|qJ (gv (fun _ k=>k p4 c4 r_2) [0] (gq [1,2,3])))<|qT<|qQ<|qY<|qW<|zH (gv (fun _ k=>k p4 c4 r_2) [0] (gq [0])))<|fun s1 _ k p3 c3 r_1=>k<|zB<|
  zA 1 u<|wX 0 0 u u<|qL zL1 u (cq [0])<|fun r2 _ k p7 c7 r_4=>k<|zA 1 u<|zC<|zK<|wX 1 0 u u<|zR u u (fun _ k=>k p7 c7) [] (gq [0])
theorem zMp {qd : Prop} {y0 : zN} : qG qd prog 158 [.agg #[vb y0.1, vs y0.2]] [] [] (zGK y0) fun r K=>K (.agg #[vb r.1, vs r.2]) [] [] :=
 qD call158 func158 u fun X=>zB<|wC .s u<|fun b1=>wM .s (.agg #[vb false, vs []])<|fun b2=>zC<|zB<|zL 0 u<|zS 0 u u u<|zA 1 u<|zL 0 u<|qI .s 0 u u u<|zC<|zB<|qV 0 2 u u u<|qI .s 1 u u u<|zC<|zK<|
  wW u (lC 1 (.agg #[vb (!y0.1), vs y0.2]) u u lN) (fun _ k=>k) [] ⟨⟩
theorem zRK {qd : Prop} {y0 : zM} {y1 : List zI} {y2 : Int} {y3 : Int} : qG qd prog 90 [.agg #[sv p1 y0.1 c1, sv p2 y0.2.1 c2, sv p3 y0.2.2 c3], sv p4 y1 c4, vi y2, vi y3] [] [Rl wO p1 c1 y0.1, Rl qP p2 c2 y0.2.1, Rl wJ p3 c3 y0.2.2, Rl wS p4 c4 y1] (zHr y0 y1 y2 y3) fun r K=>∀ p5 c5,K (sv p5 r c5) [] [Rl (zU .i64) p5 c5 r] :=
 qD call90 func90 u fun X=>zB<|wC .s u<|fun b1=>zA 1 u<|zC<|zB<|zA 1 u<|vV (zU .i64) 3<|zC<|
  wL (fun s1 K=>∀ b2 b3 p5 c5,K [4,9] [(2, bx b2 52 [vb s1.1.1, vs s1.1.2]), (3, bx b3 95 [vi s1.2.1, vi s1.2.2.1, sv p5 s1.2.2.2.1 c5, vb s1.2.2.2.2.1, vs s1.2.2.2.2.2])] [0,1,2,3] [(10, pt b2 0), (11, pt b3 0)] [Rl (zU .i64) p5 c5 s1.2.2.2.1]) (
  yI [] [] 13<|zT 11 [0,1] u<|vE 2 4 u u u u<|fun x1 b4 o1=>qH 3 3 u u<|vD 4 true yK u (gs (gs (gs (gk 0)))) u<|zT 6 [5,6] u<|vE 7 5 u u u u<|fun x2 b5 o2=>vD 8 true zRU u (gk 0) u<|
  fun p6 c6=>uR 9 10 (wM (.f u) (.agg #[vb false, vs []])<|fun b6=>zO<|zX 10<|wM (.f u) (.agg #[vi 0, vi 0, .slice none 0 0, vb false, vs []])<|fun b7=>zO<|zX 11<|qI (o := 0) (.f u) 2 u u u<|zO<|zX 12<|
  qI (o := 0) (.f u) 3 u u u<|zO<|qM<|zH (gv (fun _ k=>k b6 b7 p6 c6) [0,1,2,3] (gq [0,3,4,5,6]))) <|wM (.f u) (.agg #[vi 0, vi 0, .slice none 0 0, vb false, vs []])<|fun b8=>zO<|zX 9<|wM (.f u) (.agg #[vb false, vs []])<|
  fun b9=>zO<|zX 11<|qI (o := 0) (.f u) 3 u u u<|zO<|zX 12<|qI (o := 0) (.f u) 2 u u u<|zO<|qM<|zH (gv (fun _ k=>k b9 b8 p6 c6) [0,1,3,2] (gq [0,3,4,5,6])))<|fun s1 _ k b2 b3 p5 c5=>k<|yE [] [2, 3] 6<|
  vQ 0 2 2 u u u u<|qH 1 3 u u<|vQ 2 3 2 u u u u<|zX 3<|qB (.f u) [] [] zMp u u u ⟨⟩<|fun r1 _ k=>k<|zO<|wD 4 (vb (s1.1 == r1)) u<|zT 0 [5] u<|qM<|zP<|zG<|zV<|zB<|zL 0 u<|
  zS 3 u u u<|zA 2 u<|zC<|zJ u (wL (fun s2 K=>K [9] [(0, []), (2, []), (3, [])] [1] [(41, vb s2)] []) (qN<|zA 2 u<|wF 32 u (zL 0 u<|zS 0 u u u<|zL 0 u<|zS 3 u u u<|wB 2 u u u<|fun x3 b10 o3=>
  zL 2 u<|wA false oI (gf (gs (gk 0))) u<|zA 1 u<|zD (vb (x3.2.1 != 1))<|zQ<|zH (gv (fun _ k=>k) [900,1,902,903] (gq [2])))<|zA 8 u<|zD (vb false)<|zQ<|zH (gv (fun _ k=>k) [900,1,902,903] (gq [1])))<|fun s2 _ k=>k<|zJ u (
  qN<|zA 1 u<|wT .s (e := zU .i64) 3 [vi 1] ([1] : List Int) (rC vI rN)<|fun p7 c7=>wE .s 1 1 u (gk 0) u u<|fun x4 r_1 p8 c8=>zA 1 u<|zQ<|qE<|zP<|jA 2 u<|zK<|wX 1 0 u u<|zR u u (fun _ k=>k p8 c8) [] (gq [0])
  )<|wK<|qE<|zP<|jA 2 u<|zK<|wX 1 0 u u<|zR u u (fun _ k=>k none 0) [] (gq [0]))<|zB<|zL 1 u<|zS 0 u u u<|zL 1 u<|zS 3 u u u<|wB 3 u u u<|fun x5 b11 o4=>zL 1 u<|
  wA false oB (gf (gs (gk 0))) u<|zA 2 u<|zC<|zJ u (wL (fun s3 K=>∀ p9 c9 r_2,K [4,10,11] [(1, r_2)] [3,4,5,1] [(9, sv p9 s3 c9)] [Al (zU .i64) 3 r_2 p9 c9 s3]) (jA 1 u<|zJ u (qN<|zA 1 u<|
  wT .s (e := zU .i64) 3 [vi 2] ([2] : List Int) (rC vI rN)<|fun p10 c10=>wE .s 1 3 u (gk 0) u u<|fun x6 r_3 p11 c11=>zA 1 u<|zQ<|zH (gv (fun _ k=>k p11 c11 r_3) [0,1,2,3] (gq [0,5,6,7,3])))<|wK<|
  zH (gv (fun _ k=>k none 0 []) [0,1,2,3] (gq [2,3,4,5,1])))<|fun s3 _ k p9 c9 r_2=>k<|wL (fun s4 K=>K [9] [(0, []), (2, []), (3, [])] [0] [(71, vb s4)] []) (yI [] [0, 2, 3] 14<|qH 0 0 u u<|qS 1 2 u u u u<|zT 11 [2] u<|
  wF 60 u (qH 3 1 u u<|qS 4 2 u u u u<|qH 5 1 u u<|qS 6 0 u u u u<|qH 7 1 u u<|qS 8 3 u u u u<|vE 9 2 u u u u<|fun x7 b12 o5=>qH 10 0 u u<|vD 11 false oS u (gf (gk 0)) u<|
  zT 1 [12] u<|wD 13 (vb (s1.1.2 == x7.1)) u<|qM<|zH (gv (fun _ k=>k) [900,1,902,903] (gq [1])))<|zT 1 [3,4,5,6,7,8,9,10,11,12] u<|wD 13 (vb false) u<|qM<|zH (gv (fun _ k=>k) [900,1,902,903] (gq [0])))<|fun s4 _ k=>k<|
  zJ u (qN<|zA 1 u<|wT .s (e := zU .i64) 3 [vi 3] ([3] : List Int) (rC vI rN)<|fun p12 c12=>wE .s 1 1 u (gk 0) u u<|fun x8 r_4 p13 c13=>zA 1 u<|zQ<|qE<|zP<|jA 2 u<|zK<|wX 1 0 u u<|
  zR u u (fun _ k=>k p13 c13) [] (gq [0]))<|wK<|qE<|zP<|jA 2 u<|zK<|wX 1 0 u u<|zR u u (fun _ k=>k p9 c9) [] (gq [0]))<|wK<|qE<|zP<|jA 2 u<|zK<|wX 1 2 u u<|zR u u (fun _ k=>k none 0) [] (gq [0])
theorem zLj {qd : Prop} {y0 : Int} : qG qd prog 88 [vi y0] [] [] (zF8 y0) fun r K=>K (vb r) [] [] :=
 qD call88 func88 u fun X=>jA 1 u<|jA 4 u<|zK<|zR u u (fun _ k=>k) [] ⟨⟩
theorem zB4 {qd : Prop} {y0 : Int} {y1 : Int} : qG qd prog 49 [vi y0, vi y1] [] [] (zAe y0 y1) fun r K=>K (vi r) [] [] :=
 qD call49 func49 u fun X=>jA 1 u<|zB<|zA 1 u<|qL zLj u ⟨⟩<|fun r1 _ k=>k<|zA 1 u<|zC<|zB<|zA 1 u<|qL zLj u ⟨⟩<|fun r2 _ k=>k<|zA 1 u<|zC<|zG<|jA 1 u<|zJ u (zG<|jA 1 u<|zJ u (jA 1 u<|zK<|qA<|qA<|
  zR u u (fun _ k=>k) [] ⟨⟩)<|jC<|jA 1 u<|zK<|qA<|zR u u (fun _ k=>k) [] ⟨⟩)<|jC<|zG<|jA 1 u<|zJ u (jA 1 u<|zK<|qA<|zR u u (fun _ k=>k) [] ⟨⟩)<|jC<|zG<|jA 3 u<|zJ u (jA 1 u<|zK<|qA<|
  zR u u (fun _ k=>k) [] ⟨⟩)<|jC<|zG<|jA 3 u<|zJ u (jA 1 u<|zK<|qA<|zR u u (fun _ k=>k) [] ⟨⟩)<|jC<|jA 1 u<|zK<|zR u u (fun _ k=>k) [] ⟨⟩
theorem zLy {qd : Prop} {y0 : List Int} : qG qd prog 48 [sv p1 y0 c1] [] [Rl (zU .i64) p1 c1 y0] (zFd y0) fun r K=>K (vi r) [] [] :=
 qD call48 func48 u fun X=>jA 1 u<|jA 1 u<|zG<|jA 3 u<|zV<|qZ (fun s1 K=>K [3,6,7] [] [0] [(8, vi s1)] []) (gv (fun _ k=>k) [] (gq [0]))<|fun s1 _ k=>k<|jA 1 u<|zG<|zJ u (jC<|zG<|zV<|zB<|wB 0 u u u<|fun x1 b1 o1=>wA false oI (gk 0) u<|
  zA 1 u<|zC<|jA 3 u<|zJ u (jA 2 u<|zK<|qO<|qA<|wU<|qO<|qA<|zR u u (fun _ k=>k) [] ⟨⟩)<|wK<|qE<|zP<|jB 2 u<|qJ (gv (fun _ k=>k) [] (gq [1])))<|qT<|qQ<|qY<|qW<|zP<|jA 2 u<|zK<|zR u u (fun _ k=>k) [] ⟨⟩
theorem zNm {qd : Prop} {y0 : qU} {y1 : qU} : qG qd prog 94 [.agg #[vi y0.1, vi y0.2.1, vi y0.2.2.1, vi y0.2.2.2], .agg #[vi y1.1, vi y1.2.1, vi y1.2.2.1, vi y1.2.2.2]] [] [] (zCG y0 y1) fun r K=>K (vi r) [] [] :=
 qD call94 func94 u fun X=>zB<|wC .s u<|fun b1=>wC .s u<|fun b2=>zA 1 u<|zC<|yE [] [0, 1] 23<|qH 0 0 u u<|qS 1 0 u u u u<|qH 2 0 u u<|qS 3 1 u u u u<|qH 5 1 u u<|qS 6 0 u u u u<|qH 7 1 u u<|
  qS 8 1 u u u u<|qH 10 2 u u<|qS 11 0 u u u u<|qH 12 2 u u<|qS 13 1 u u u u<|qH 15 3 u u<|qS 16 0 u u u u<|qH 17 3 u u<|qS 18 1 u u u u<|zX 4<|
  qB (.f u) [] [] zB4 u u u ⟨⟩<|fun r1 _ k=>k<|zO<|zX 9<|qB (.f u) [] [] zB4 u u u ⟨⟩<|fun r2 _ k=>k<|zO<|zX 14<|qB (.f u) [] [] zB4 u u u ⟨⟩<|fun r3 _ k=>k<|zO<|
  zX 19<|qB (.f u) [] [] zB4 u u u ⟨⟩<|fun r4 _ k=>k<|zO<|zX 20<|wT (.f u) (e := zU .i64) 3 [vi r1, vi r2, vi r3, vi r4] ([r1, r2, r3, r4] : List Int) (rC vI (rC vI (rC vI (rC vI rN))))<|fun p1 c1=>zO<|zX 21<|
  qB (.f u) [] [] zLy rfl u u (cq [0])<|fun r5 _ k=>k<|zO<|zT 0 [22] u<|qM<|zP<|zK<|zR u u (fun _ k=>k) [] ⟨⟩
theorem zEx {qd : Prop} {y0 : List qU} : qG qd prog 93 [sv p1 y0 c1, .func (.func 94) #[] #[]] [r_1] [Al yX 98 r_1 p1 c1 y0] (zAI y0) fun r K=>∀ r_2,K (.tuple #[]) [r_2] [Ar yX 98 r_2 p1 c1 (List.length y0) r] := ⟨call93, fun A w0 r hm hO hF => by
 have h := zPl (qd := qd) Go.Proofs.Tryz.sort93 (uE.prod (uE.int .i64) (uE.prod (uE.int .i64) (uE.prod (uE.int .i64) (uE.int .i64)))) (te := 98) Tryz.isAgg98 Tryz.sizeOf98 zCG 94 (enters_of func94 (by kernel_rfl) u) (fun w x y n hn => ?_) hO hF.1.1 hm
 · change Calls prog 93 _ _ _ at h
   refine h.mono fun e w' h => ?_
   cases e with
   | returned v => obtain ⟨r', rfl, h1, h2, h3, h4⟩ := h; exact fun G k => k r' ⟨rfl, h1, h2, ⟨h3, h4.symm⟩, trivial⟩
   | panicked ch => exact h
   | outgrown => exact h
 · refine ((zNm (qd := True) (y0 := x) (y1 := y)).go [] w n hn (wG.start (by simp)) trivial).mono fun e w' h => ?_
   cases e with
   | returned v => exact h _ fun ⟨e1, q⟩ => ⟨e1, q.e⟩
   | panicked ch => exact h
   | outgrown => exact h⟩
theorem zPL {qd : Prop} {y0 : zM} {y1 : List zI} : qG qd prog 52 [.agg #[sv p1 y0.1 c1, sv p2 y0.2.1 c2, sv p3 y0.2.2 c3], sv p4 y1 c4] [] [Rl wO p1 c1 y0.1, Rl qP p2 c2 y0.2.1, Rl wJ p3 c3 y0.2.2, Rl wS p4 c4 y1] (zCy y0 y1) fun r K=>∀ p5 c5 r_1,K (sv p5 r c5) [r_1] [Al yX 98 r_1 p5 c5 r] :=
 qD call52 func52 u fun X=>zB<|wC .s u<|fun b1=>zA 1 u<|zC<|zB<|zA 1 u<|vV yX 98<|zC<|jjn (fun s1 K=>∀ p5 c5 r_1,K [(5, sv p5 s1 c5)] [[], r_1] [Al yX 98 r_1 p5 c5 s1]) (jA 3 u<|zV<|
  qZ (fun s2 K=>∀ p6 c6 r_2,K [1,2,13] [(1, r_2)] [4,1,2,3] [(5, sv p6 s2.1 c6), (14, vi s2.2)] [Al yX 98 r_2 p6 c6 s2.1]) (gv (fun _ k=>k none 0 []) [0,1] (gq [0,4,1,2,3]))<|fun s2 _ k p6 c6 r_2=>k<|jA 1 u<|zG<|zJ u (jC<|zG<|
  zV<|jA 2 u<|jA 3 u<|zV<|qZ (fun s3 K=>∀ p7 c7 r_3,K [1,2,6,13,14,18] [(1, r_3)] [1,2,3,4] [(5, sv p7 s3.1 c7), (19, vi s3.2)] [Al yX 98 r_3 p7 c7 s3.1]) (gv (fun _ k=>k p6 c6 r_2) [0,1] (gq [0,1,2,3,4]))<|
  fun s3 _ k p7 c7 r_3=>k<|jA 1 u<|zG<|zJ u (jC<|zG<|zV<|jA 2 u<|zB<|qV 0 3 u u u<|zA 3 u<|qL zRK u (cq [2,3,4,1])<|fun r1 _ k p8 c8=>k<|zA 1 u<|zC<|zG<|jA 3 u<|zJ u (qT<|qQ<|qW<|zP<|jB 2 u<|
  qJ (gv (fun _ k=>k p7 c7 r_3) [0,1] (gq [1,2,3,4,5])))<|jC<|jA 3 u<|zV<|
  qZ (fun s4 K=>∀ p9 c9 r_4,K [1,2,6,7,8,13,14,18,19,31] [(1, r_4)] [2,0,3,4,5] [(5, sv p9 s4.1 c9), (32, vi s4.2)] [Al yX 98 r_4 p9 c9 s4.1]) (gv (fun _ k=>k p7 c7 r_3) [0,1] (gq [1,2,0,3,4,5]))<|fun s4 _ k p9 c9 r_4=>k<|jA 1 u<|
  zG<|zJ u (jC<|zG<|zV<|jA 2 u<|zG<|zB<|zA 2 u<|qL zIz u (cq [1])<|fun r2 _ k p10 c10=>k<|zA 1 u<|qL zIC u (cq [0])<|fun r3 _ k=>k<|zA 1 u<|zC<|zJ u (qT<|qQ<|qW<|zP<|jB 2 u<|
  qJ (gv (fun _ k=>k p9 c9 r_4) [0,1] (gq [1,2,3,4,5,6])))<|jC<|jA 3 u<|zV<|
  qZ (fun s5 K=>∀ p11 c11 r_5,K [1,2,6,7,8,9,13,14,18,19,31,32,41,42] [(1, r_5)] [2,3,4,5,6] [(5, sv p11 s5.1 c11), (43, vi s5.2)] [Al yX 98 r_5 p11 c11 s5.1]) (gv (fun _ k=>k p9 c9 r_4) [0,1] (gq [1,2,3,4,5,6]))<|
  fun s5 _ k p11 c11 r_5=>k<|jA 1 u<|zG<|zJ u (jC<|zG<|zV<|zB<|wB 2 u u u<|fun x1 b2 o1=>wA false oI (gk 0) u<|zA 1 u<|zC<|qN<|zA 5 u<|zD (.agg #[vi s3.2, vi s4.2, vi s2.2, vi x1])<|
  wT .s (e := yX) 98 [vi s3.2, vi s4.2, vi s2.2, vi x1] ([(s3.2, s4.2, s2.2, x1)] : List qU) (rC (vP vI (vP vI (vP vI vI))) rN)<|fun p12 c12=>wE .s 1 2 u (gk 0) u u<|fun x2 r_6 p13 c13=>zA 1 u<|zQ<|qE<|zP<|jB 2 u<|
  qJ (gv (fun _ k=>k p13 c13 r_6) [0,1] (gq [0,4,5,6,7,8])))<|qT<|qQ<|qY<|qW<|qE<|zP<|jB 2 u<|qJ (gv (fun _ k=>k p11 c11 r_5) [0,1] (gq [0,1,2,3,4,5])))<|qT<|qQ<|qY<|qW<|qE<|zP<|jB 2 u<|
  qJ (gv (fun _ k=>k p9 c9 r_4) [0,1] (gq [0,1,3,4,5])))<|qT<|qQ<|qY<|qW<|qE<|zP<|jB 2 u<|qJ (gv (fun _ k=>k p7 c7 r_3) [0,1] (gq [0,1,2,3,4])))<|qT<|qQ<|qY<|qW<|zH (gv (fun _ k=>k p6 c6 r_2) [900,1] (gq [0])))<|
  fun s1 _ k p5 c5 r_1=>k<|zB<|zA 1 u<|qB .s [1] [] zEx u u u (cq [0])<|fun r4 _ k r_7=>k<|zC<|jA 2 u<|zK<|jrE 0 4 u u<|zR u u (fun _ k=>k p5 c5 r_7) [1] (gq [0])
theorem zJU {qd : Prop} {y0 : List zI} {y1 : Int} : qG qd prog 163 [sv p1 y0 c1, vi y1] [] [Rl wS p1 c1 y0] (zB3 y0 y1) fun r K=>∀ p2 c2,K (sv p2 r c2) [] [Rl (zU .i64) p2 c2 r] :=
 qD call163 func163 u fun X=>jA 1 u<|zB<|zA 1 u<|vV (zU .i64) 3<|zC<|jjn (fun s1 K=>∀ p2 c2 r_1,K [(5, sv p2 s1 c2)] [r_1] [Al (zU .i64) 3 r_1 p2 c2 s1]) (zB<|zA 2 u<|qL zIz u (cq [1])<|fun r1 _ k p3 c3=>k<|zA 2 u<|zC<|zV<|
  qZ (fun s2 K=>∀ p4 c4 r_2,K [0,10,11] [(0, r_2)] [2,0] [(5, sv p4 s2.1 c4), (12, vi s2.2)] [Al (zU .i64) 3 r_2 p4 c4 s2.1]) (gv (fun _ k=>k none 0 []) [0] (gq [1,2,0]))<|fun s2 _ k p4 c4 r_2=>k<|jA 1 u<|zG<|zJ u (jC<|zG<|zV<|
  zB<|wB 2 u u u<|fun x1 b1 o1=>wA false oI (gk 0) u<|zA 1 u<|zC<|zB<|zA 2 u<|wB 2 u u u<|fun x2 b2 o2=>zL 0 u<|wA false oI (gf (gk 0)) u<|zA 1 u<|zC<|zJ u (qN<|zA 3 u<|wB 3 u u u<|
  fun x3 b3 o3=>zL 0 u<|wA false oI (gf (gk 0)) u<|wT .s (e := zU .i64) 3 [vi x3.1] ([x3.1] : List Int) (rC vI rN)<|fun p5 c5=>wE .s 0 4 u (gk 0) u u<|fun x4 r_3 p6 c6=>zA 1 u<|zQ<|qE<|zP<|jB 2 u<|
  qJ (gv (fun _ k=>k p6 c6 r_3) [0] (gq [0,6,7])))<|wK<|qE<|zP<|jB 2 u<|qJ (gv (fun _ k=>k p4 c4 r_2) [0] (gq [2,3,4])))<|qT<|qQ<|qY<|qW<|zH (gv (fun _ k=>k p4 c4 r_2) [0] (gq [0])))<|fun s1 _ k p2 c2 r_1=>k<|zB<|zA 1 u<|
  qB .s [0] [] zGB u u u (cq [0])<|fun r2 _ k r_4=>k<|zC<|jA 2 u<|zK<|wX 0 0 u u<|jre 0 4 u u<|zR u u (fun _ k=>k p2 c2) [] (gq [0])
theorem zPO {qd : Prop} {y0 : Int} {y1 : zM} : uH qd prog 164 [vi y0, pt b1 0] [bx b1 26 [sv p1 y1.1 c1, sv p2 y1.2.1 c2, sv p3 y1.2.2 c3]] [Rl wO p1 c1 y1.1, Rl qP p2 c2 y1.2.1, Rl wJ p3 c3 y1.2.2] (zG0 y0 y1) fun L r K=>K (vb r) L [] :=
 qD call164 func164 u fun X=>jA 1 u<|zB<|zL 0 u<|zS 0 u u u<|zA 1 u<|wB 0 u u u<|fun x1 b2 o1=>zL 2 u<|wA false oI (gf (gs (gk 0))) u<|zA 2 u<|zC<|zK<|zR u u (fun _ k=>k) [0] ⟨⟩
theorem zFn {qd : Prop} {y0 : List Int} {y1 : zM} : uH qd prog 145 [sv p1 y0 c1, .func (.func 164) #[] #[pt b1 0]] [bx b1 26 [sv p2 y1.1 c2, sv p3 y1.2.1 c3, sv p4 y1.2.2 c4]] [Rl (zU .i64) p1 c1 y0, Rl wO p2 c2 y1.1, Rl qP p3 c3 y1.2.1, Rl wJ p4 c4 y1.2.2] (zAQ y0 y1) fun L r K=>K (vi r) L [] :=
 qD call145 func145 u fun X=>jA 1 u<|zG<|jA 3 u<|zV<|qZ (fun s1 K=>K [0,1,7] [] [0,1,2,3] [(8, vi s1)] []) (gv (fun _ k=>k) [0] (gq [0,1,2,3]))<|fun s1 _ k=>k<|jA 1 u<|zG<|zJ u (jC<|zG<|zV<|jA 2 u<|zB<|zA 3 u<|wB 0 u u u<|fun x1 b2 o1=>
  wA false oI (gk 0) u<|qB .s [0] [] zPO u u u (cq [2,3,4])<|fun r1 _ k=>k<|zC<|zJ u (jA 2 u<|zK<|qO<|qA<|wU<|qO<|qA<|zR u u (fun _ k=>k) [0] ⟨⟩)<|wK<|qE<|zP<|jB 2 u<|
  qJ (gv (fun _ k=>k) [0] (gq [1,2,3,4])))<|qT<|qQ<|qY<|qW<|zP<|jA 1 u<|zK<|zR u u (fun _ k=>k) [0] ⟨⟩
theorem zFL {qd : Prop} {y0 : List Int} {y1 : zM} : uH qd prog 83 [sv p1 y0 c1, .func (.func 164) #[] #[pt b1 0]] [bx b1 26 [sv p2 y1.1 c2, sv p3 y1.2.1 c3, sv p4 y1.2.2 c4]] [Rl (zU .i64) p1 c1 y0, Rl wO p2 c2 y1.1, Rl qP p3 c3 y1.2.1, Rl wJ p4 c4 y1.2.2] (zAM y0 y1) fun L r K=>K (vb r) L [] :=
 qD call83 func83 u fun X=>jA 1 u<|zB<|zA 2 u<|qB .s [0] [] zFn u u u (cq [0,1,2,3])<|fun r1 _ k=>k<|zA 2 u<|zC<|zK<|zR u u (fun _ k=>k) [0] ⟨⟩
theorem zRQ {qd : Prop} {y0 : zM} {y1 : List zI} {y2 : Int} : qG qd prog 95 [.agg #[sv p1 y0.1 c1, sv p2 y0.2.1 c2, sv p3 y0.2.2 c3], sv p4 y1 c4, vi y2] [] [Rl wO p1 c1 y0.1, Rl qP p2 c2 y0.2.1, Rl wJ p3 c3 y0.2.2, Rl wS p4 c4 y1] (zFJ y0 y1 y2) fun r K=>K (vb r) [] [] :=
 qD call95 func95 u fun X=>zB<|wC .s u<|fun b1=>zA 1 u<|zC<|zB<|zA 2 u<|qL zJU u (cq [3])<|fun r1 _ k p5 c5=>k<|zA 1 u<|qB .s [0] [] zFL u u u (cq [0,1,2,3])<|fun r2 _ k=>k<|zA 1 u<|
  zC<|zK<|zR u u (fun _ k=>k) [] ⟨⟩
theorem zNO {qd : Prop} (k : Nat) :
    (∀ {y0 : zM} {p1 : Option Addr} {c1 : Nat} {p2 : Option Addr} {c2 : Nat} {p3 : Option Addr} {c3 : Nat} {y1 : List zI} {p4 : Option Addr} {c4 : Nat} {y2 : Int}, qG qd prog 168 [.agg #[sv p1 y0.1 c1, sv p2 y0.2.1 c2, sv p3 y0.2.2 c3], sv p4 y1 c4, vi y2] [] [Rl wO p1 c1 y0.1, Rl qP p2 c2 y0.2.1, Rl wJ p3 c3 y0.2.2, Rl wS p4 c4 y1] (zBu k y0 y1 y2) fun r K=>∀ p5 c5,K (sv p5 r c5) [] [Rl (zU .i64) p5 c5 r]) := by
  induction k with
  | zero => exact zZS call168
  | succ k ih =>
    have ih_argument_Last := @ih
    exact @fun y0 p1 c1 p2 c2 p3 c3 y1 p4 c4 y2=>qD (m1 := zEG (zBu k) y0 y1 y2) call168 func168 u fun X=>zB<|wC .s u<|fun b1=>zA 1 u<|zC<|zG<|wL (fun s1 K=>K [1,2,3] [] [3,0,1,2] [(21, vb s1)] []) (qN<|zA 2 u<|qL zHl u (cq [3])<|fun r1 _ k=>k<|zA 2 u<|wF 14 u (zA 6 u<|zD (vb true)<|zQ<|
  zH (gv (fun _ k=>k) [0] (gq [3,0,1,2])))<|zA 2 u<|wB 3 u u u<|fun x1 b2 o1=>zL 1 u<|wA false oI (gf (gs (gk 0))) u<|zA 1 u<|zD (vb (decide (x1.2.1 < 0)))<|zQ<|zH (gv (fun _ k=>k) [0] (gq [4,1,2,3])))<|fun s1 _ k=>k<|
  zJ u (jA 1 u<|zK<|qA<|zR u u (fun _ k=>k none 0) [] ⟨gn,⟨⟩⟩)<|jC<|zG<|yE [] [0] 11<|qH 0 1 u u<|qS 1 0 u u u u<|zT 7 [2,3] u<|vE 4 0 u u u u<|fun x2 b3 o2=>qH 5 1 u u<|
  vD 6 false oI u (gf (gs (gk 0))) u<|vE 7 3 u u u u<|fun x3 b4 o3=>qH 8 1 u u<|vD 9 false oB u (gf (gs (gk 0))) u<|zT 0 [10] u<|qM<|zP<|zJ u (zB<|zA 2 u<|wB 2 u u u<|fun x4 b5 o4=>zL 1 u<|
  wA false oI (gf (gs (gk 0))) u<|wT .s (e := zU .i64) 3 [vi x4.2.1] ([x4.2.1] : List Int) (rC vI rN)<|fun p5 c5=>zA 1 u<|zC<|zK<|qA<|zR u u (fun _ k=>k p5 c5) [] (gq [0]))<|jC<|zB<|zA 1 u<|vV (zU .i64) 3<|zC<|
  jjn (fun s2 K=>∀ p6 c6 r_1,K [(7, sv p6 s2 c6)] [[], r_1] [Al (zU .i64) 3 r_1 p6 c6 s2]) (zB<|zA 2 u<|wB 3 u u u<|fun x5 b6 o5=>zL 2 u<|wA false oL (gf (gs (gs (gk 0)))) u<|fun p7 c7=>zA 2 u<|zC<|zV<|
  qZ (fun s3 K=>∀ p8 c8 r_2,K [1,3,43,44] [(1, r_2)] [5,0,6,7,8] [(7, sv p8 s3.1 c8), (45, vi s3.2)] [Al (zU .i64) 3 r_2 p8 c8 s3.1]) (gv (fun _ k=>k none 0 []) [0,1] (gq [2,5,0,6,7,8]))<|fun s3 _ k p8 c8 r_2=>k<|jA 1 u<|zG<|zJ u (
  jC<|zG<|zV<|zB<|wB 2 u u u<|fun x6 b7 o6=>wA false oI (gk 0) u<|zA 1 u<|zC<|qN<|zA 1 u<|qV 0 3 u u u<|zA 2 u<|qL ih_argument_Last u (cq [4,5,6,2])<|fun r2 _ k p9 c9=>k<|wE .s 1 2 u (gk 0) u u<|
  fun x7 r_3 p10 c10=>zA 1 u<|zQ<|qE<|zP<|jB 2 u<|qJ (gv (fun _ k=>k p10 c10 r_3) [0,1] (gq [0,4,5,6,7,8])))<|qT<|qQ<|qY<|qW<|zH (gv (fun _ k=>k p8 c8 r_2) [900,1] (gq [0])))<|fun s2 _ k p6 c6 r_1=>k<|zB<|zA 1 u<|
  qB .s [1] [] zGB u u u (cq [0])<|fun r3 _ k r_4=>k<|zC<|zB<|zA 1 u<|jrE 0 58 u u<|qB .s [1] [] zGI u u u (cq [0])<|fun r4 _ k p11 c11=>k<|zA 1 u<|zC<|zK<|
  zR u u (fun _ k=>k p11 c11) [] (gq [0])
theorem zQD {qd : Prop} {y0 : zM} {y1 : List zI} {y2 : Int} : qG qd prog 168 [.agg #[sv p1 y0.1 c1, sv p2 y0.2.1 c2, sv p3 y0.2.2 c3], sv p4 y1 c4, vi y2] [] [Rl wO p1 c1 y0.1, Rl qP p2 c2 y0.2.1, Rl wJ p3 c3 y0.2.2, Rl wS p4 c4 y1] (zFh y0 y1 y2) fun r K=>∀ p5 c5,K (sv p5 r c5) [] [Rl (zU .i64) p5 c5 r] := zOt fun k => (zNO k)
theorem zOw {qd : Prop} {y0 : zM} {y1 : List Int} : qG qd prog 167 [.agg #[sv p1 y0.1 c1, sv p2 y0.2.1 c2, sv p3 y0.2.2 c3], sv p4 y1 c4] [] [Rl wO p1 c1 y0.1, Rl qP p2 c2 y0.2.1, Rl wJ p3 c3 y0.2.2, Rl (zU .i64) p4 c4 y1] (zGm y0 y1) fun r K=>∀ p5 c5,K (sv p5 r c5) [] [Rl (zU .i64) p5 c5 r] :=
 qD call167 func167 u fun X=>zB<|wC .s u<|fun b1=>zA 1 u<|zC<|zB<|zA 1 u<|vV (zU .i64) 3<|zC<|zG<|jA 3 u<|zV<|
  qZ (fun s1 K=>∀ p5 c5 r_1,K [2,8,9] [(1, r_1)] [4,1,2,3] [(5, sv p5 s1.1 c5), (10, vi s1.2)] [Al (zU .i64) 3 r_1 p5 c5 s1.1]) (gv (fun _ k=>k none 0 []) [0,1] (gq [0,4,1,2,3]))<|fun s1 _ k p5 c5 r_1=>k<|jA 1 u<|zG<|zJ u (jC<|zG<|
  zV<|zB<|wB 1 u u u<|fun x1 b2 o1=>wA false oI (gk 0) u<|zA 1 u<|zC<|qN<|zA 1 u<|zL 1 u<|zS 0 u u u<|zA 1 u<|wB 4 u u u<|fun x2 b3 o2=>zL 2 u<|wA false oI (gf (gs (gs (gk 0)))) u<|
  wT .s (e := zU .i64) 3 [vi x2.2.2.1] ([x2.2.2.1] : List Int) (rC vI rN)<|fun p6 c6=>wE .s 1 3 u (gk 0) u u<|fun x3 r_2 p7 c7=>zA 1 u<|zQ<|qE<|zP<|jB 2 u<|qJ (gv (fun _ k=>k p7 c7 r_2) [0,1] (gq [0,5,6,7,8])))<|qT<|qQ<|
  qY<|qW<|zP<|jA 2 u<|zK<|wX 1 0 u u<|zR u u (fun _ k=>k p5 c5) [] (gq [0])
theorem zGY {qd : Prop} {y0 : zM} {y1 : List zI} {y2 : Int} : qG qd prog 100 [.agg #[sv p1 y0.1 c1, sv p2 y0.2.1 c2, sv p3 y0.2.2 c3], sv p4 y1 c4, vi y2] [] [Rl wO p1 c1 y0.1, Rl qP p2 c2 y0.2.1, Rl wJ p3 c3 y0.2.2, Rl wS p4 c4 y1] (zBW y0 y1 y2) fun r K=>∀ p5 c5,K (sv p5 r c5) [] [Rl (zU .i64) p5 c5 r] :=
 qD call100 func100 u fun X=>zB<|wC .s u<|fun b1=>zA 1 u<|zC<|yE [] [0] 7<|vQ 0 0 3 u u u u<|vQ 1 0 3 u u u u<|zT 3 [2,3] u<|zX 4<|qB (.f u) [] [] zQD u u u (cq [0,1,2,3])<|fun r1 _ k p5 c5=>k<|zO<|zX 5<|
  qB (.f u) [] [] zOw u u u (cq [1,2,3,0])<|fun r2 _ k p6 c6=>k<|zO<|zT 0 [6] u<|qM<|zP<|zK<|zR u u (fun _ k=>k p6 c6) [] (gq [0])
theorem zL4 {qd : Prop} {y0 : List Int} : qG qd prog 166 [sv p1 y0 c1] [] [Rl (zU .i64) p1 c1 y0] (zCT y0) fun r K=>K (vi r) [] [] :=
 qD call166 func166 u fun X=>jA 1 u<|wL (fun s1 K=>K [0] [] [0] [] []) (jA 3 u<|zJ u (qN<|jno)<|wK<|zH (gv (fun _ k=>k) [] (gq [0])))<|fun s1 _ k=>k<|zB<|zA 1 u<|wB 0 u u u<|fun x1 b1 o1=>wA false oI (gk 0) u<|zA 1 u<|zC<|zG<|jA 1 u<|
  zV<|qZ (fun s2 K=>K [0] [] [1] [(3, vi s2.1), (4, vi s2.2)] []) (gv (fun _ k=>k) [] (gq [1]))<|fun s2 _ k=>k<|zG<|jA 4 u<|zJ u (jC<|zG<|zV<|qN<|zA 3 u<|wB 0 u u u<|fun x2 b2 o2=>wA false oI (gk 0) u<|zA 2 u<|
  zQ<|qE<|zP<|jB 3 u<|qJ (gv (fun _ k=>k) [] (gq [1])))<|qT<|qQ<|qY<|qW<|zP<|jA 2 u<|zK<|zR u u (fun _ k=>k) [] ⟨⟩
theorem zLQ {qd : Prop} {y0 : List Int} : qG qd prog 165 [sv p1 y0 c1] [] [Rl (zU .i64) p1 c1 y0] (zCU y0) fun r K=>K (vi r) [] [] :=
 qD call165 func165 u fun X=>jA 1 u<|wL (fun s1 K=>K [0] [] [0] [] []) (jA 3 u<|zJ u (qN<|jno)<|wK<|zH (gv (fun _ k=>k) [] (gq [0])))<|fun s1 _ k=>k<|zB<|zA 1 u<|wB 0 u u u<|fun x1 b1 o1=>wA false oI (gk 0) u<|zA 1 u<|zC<|zG<|jA 1 u<|
  zV<|qZ (fun s2 K=>K [0] [] [1] [(3, vi s2.1), (4, vi s2.2)] []) (gv (fun _ k=>k) [] (gq [1]))<|fun s2 _ k=>k<|zG<|jA 4 u<|zJ u (jC<|zG<|zV<|qN<|zA 3 u<|wB 0 u u u<|fun x2 b2 o2=>wA false oI (gk 0) u<|zA 2 u<|
  zQ<|qE<|zP<|jB 3 u<|qJ (gv (fun _ k=>k) [] (gq [1])))<|qT<|qQ<|qY<|qW<|zP<|jA 2 u<|zK<|zR u u (fun _ k=>k) [] ⟨⟩
theorem zKG {qd : Prop} {y0 : List Int} {y1 : List Int} {y2 : Int} : qG qd prog 97 [sv p1 y0 c1, sv p2 y1 c2, vi y2] [] [Rl (zU .i64) p1 c1 y0, Rl (zU .i64) p2 c2 y1] (zC2 y0 y1 y2) fun r K=>K (vb r) [] [] :=
 qD call97 func97 u fun X=>jA 1 u<|zG<|uN (fun K=>K [0,1,2] [] [0,1] [(17, vb (if y2 != 1 then (y2 != 2) || ((len y0) == 0) else (len y0) == 0))] []) (qN<|zA 3 u<|vR (b := y2 != 1) 9 u (fun hb1=>zA 2 u<|zD (vb (y2 != 2))<|zA 1 u<|
  vR (b := y2 != 2) 13 u (fun hb2=>zA 3 u<|zD (vb true)<|zQ<|wR 17 (vb (if y2 != 1 then (y2 != 2) || ((len y0) == 0) else (len y0) == 0)) u (by rw [hb1,hb2]; rfl)<|zH (gv (fun _ k=>k) [] (gq [0,1])))<|fun hb2=>zA 3 u<|
  zD (vb ((len y0) == 0))<|zQ<|wR 17 (vb (if y2 != 1 then (y2 != 2) || ((len y0) == 0) else (len y0) == 0)) u (by rw [hb1,hb2]; rfl)<|zH (gv (fun _ k=>k) [] (gq [0,1])))<|fun hb1=>zA 2 u<|zD (vb false)<|zA 4 u<|
  zD (vb ((len y0) == 0))<|zQ<|wR 17 (vb (if y2 != 1 then (y2 != 2) || ((len y0) == 0) else (len y0) == 0)) u (by rw [hb1]; rfl)<|zH (gv (fun _ k=>k) [] (gq [0,1])))<|fun _ k=>k<|zJ u (jA 1 u<|zK<|qA<|
  zR u u (fun _ k=>k) [] ⟨⟩)<|jC<|zG<|zV<|jA 4 u<|zJ u (jA 1 u<|zK<|qO<|qA<|zR u u (fun _ k=>k) [] ⟨⟩)<|jA 3 u<|zJ u (zB<|zA 1 u<|qL zLQ u (cq [0])<|fun r1 _ k=>k<|zA 1 u<|
  qL zLQ u (cq [1])<|fun r2 _ k=>k<|zA 2 u<|zC<|zK<|qO<|qA<|zR u u (fun _ k=>k) [] ⟨⟩)<|wK<|qE<|zP<|zB<|zA 1 u<|qL zL4 u (cq [0])<|fun r3 _ k=>k<|zA 1 u<|
  qL zL4 u (cq [1])<|fun r4 _ k=>k<|zA 2 u<|zC<|zK<|zR u u (fun _ k=>k) [] ⟨⟩
theorem zI0 {qd : Prop} {y0 : zM} {y1 : List zI} {y2 : Int} {y3 : Int} {y4 : vN} : uH qd prog 96 [.func (.func 100) #[] #[], pt b1 0, pt b2 0, pt b3 0, pt b4 0, pt b5 0] [bx b1 26 [sv p1 y0.1 c1, sv p2 y0.2.1 c2, sv p3 y0.2.2 c3], bx b2 38 [sv p4 y1 c4], bx b3 3 [vi y2], bx b4 3 [vi y3], bx b5 28 [vi y4.1, vi y4.2]] [Rl wO p1 c1 y0.1, Rl qP p2 c2 y0.2.1, Rl wJ p3 c3 y0.2.2, Rl wS p4 c4 y1] (zA5 y0 y1 y2 y3 y4) fun L r K=>K (vb r) L [] :=
 qD call96 func96 u fun X=>jA 1 u<|yE [] [0, 1, 2, 3, 4] 14<|zT 13 [0] u<|vQ 1 0 3 u u u u<|qS 2 1 u u u u<|qS 3 2 u u u u<|zT 9 [5] u<|vQ 6 0 3 u u u u<|qS 7 1 u u u u<|qS 8 3 u u u u<|qH 10 1 u u<|
  qS 11 4 u u u u<|zX 4<|qB (.f u) [] [] zGY u u u (cq [0,1,2,3])<|fun r1 _ k p5 c5=>k<|zO<|zX 9<|qB (.f u) [] [] zGY u u u (cq [1,2,3,4])<|fun r2 _ k p6 c6=>k<|zO<|zX 12<|
  qB (.f u) [] [] zKG u u u (cq [1,0])<|fun r3 _ k=>k<|zO<|zT 0 [13] u<|qM<|zP<|zK<|zR u u (fun _ k=>k) [0,1,2,3,4] ⟨⟩
theorem zEW {qd : Prop} {y0 : zM} {y1 : List zI} {y2 : Int} : qG qd prog 101 [.agg #[sv p1 y0.1 c1, sv p2 y0.2.1 c2, sv p3 y0.2.2 c3], sv p4 y1 c4, vi y2] [] [Rl wO p1 c1 y0.1, Rl qP p2 c2 y0.2.1, Rl wJ p3 c3 y0.2.2, Rl wS p4 c4 y1] (zA9 y0 y1 y2) fun r K=>∀ p5 c5,K (sv p5 r c5) [] [Rl (zU .i64) p5 c5 r] :=
 qD call101 func101 u fun X=>zB<|wC .s u<|fun b1=>zA 1 u<|zC<|zB<|zA 1 u<|vV (zU .i64) 3<|zC<|zG<|zB<|zA 2 u<|qL zJU u (cq [4])<|fun r1 _ k p5 c5=>k<|zA 2 u<|zC<|zV<|
  qZ (fun s1 K=>∀ p6 c6 r_1,K [3,13,14] [(1, r_1)] [0,2,3,4] [(7, sv p6 s1.1 c6), (15, vi s1.2)] [Al (zU .i64) 3 r_1 p6 c6 s1.1]) (gv (fun _ k=>k none 0 []) [0,1] (gq [1,0,2,3,4]))<|fun s1 _ k p6 c6 r_1=>k<|jA 1 u<|zG<|zJ u (jC<|
  zG<|zV<|zB<|wB 1 u u u<|fun x1 b2 o1=>wA false oI (gk 0) u<|zA 1 u<|zC<|zB<|zL 0 u<|zS 0 u u u<|zA 1 u<|wB 3 u u u<|fun x2 b3 o2=>wA true zHM (gk 0) u<|
  wM .s (.agg #[vb false, vs [], vi 0, vi 0, vs []])<|fun b4=>qI .s 2 u u u<|zC<|zB<|zL 2 u<|zS 2 u u u<|zC<|zV<|jA 2 u<|zJ u (qN<|zA 1 u<|zL 3 u<|zS 2 u u u<|
  wT .s (e := zU .i64) 3 [vi x2.2.2.1] ([x2.2.2.1] : List Int) (rC vI rN)<|fun p7 c7=>wE .s 1 3 u (gk 0) u u<|fun x3 r_2 p8 c8=>zA 1 u<|zQ<|qE<|qE<|zP<|jB 2 u<|qJ (gv (fun _ k=>k p8 c8 r_2) [0,1] (gq [0,5,6,7,8])))<|
  jA 2 u<|zJ u (qN<|zA 1 u<|wT .s (e := zU .i64) 3 [vi (-1)] ([(-1)] : List Int) (rC vI rN)<|fun p9 c9=>wE .s 1 3 u (gk 0) u u<|fun x4 r_3 p10 c10=>zA 1 u<|zQ<|qE<|qE<|zP<|jB 2 u<|
  qJ (gv (fun _ k=>k p10 c10 r_3) [0,1] (gq [0,5,6,7,8])))<|wK<|qE<|qE<|zP<|jB 2 u<|qJ (gv (fun _ k=>k p6 c6 r_1) [0,1] (gq [2,3,4,5,6])))<|qT<|qQ<|qY<|qW<|zP<|jA 2 u<|zK<|wX 1 0 u u<|
  zR u u (fun _ k=>k p6 c6) [] (gq [0])
theorem zBg {qd : Prop} {y0 : zM} {y1 : List zI} {y2 : Int} {y3 : Int} {y4 : vN} : uH qd prog 96 [.func (.func 101) #[] #[], pt b1 0, pt b2 0, pt b3 0, pt b4 0, pt b5 0] [bx b1 26 [sv p1 y0.1 c1, sv p2 y0.2.1 c2, sv p3 y0.2.2 c3], bx b2 38 [sv p4 y1 c4], bx b3 3 [vi y2], bx b4 3 [vi y3], bx b5 28 [vi y4.1, vi y4.2]] [Rl wO p1 c1 y0.1, Rl qP p2 c2 y0.2.1, Rl wJ p3 c3 y0.2.2, Rl wS p4 c4 y1] (zAD y0 y1 y2 y3 y4) fun L r K=>K (vb r) L [] :=
 qD call96 func96 u fun X=>jA 1 u<|yE [] [0, 1, 2, 3, 4] 14<|zT 13 [0] u<|vQ 1 0 3 u u u u<|qS 2 1 u u u u<|qS 3 2 u u u u<|zT 9 [5] u<|vQ 6 0 3 u u u u<|qS 7 1 u u u u<|qS 8 3 u u u u<|qH 10 1 u u<|
  qS 11 4 u u u u<|zX 4<|qB (.f u) [] [] zEW u u u (cq [0,1,2,3])<|fun r1 _ k p5 c5=>k<|zO<|zX 9<|qB (.f u) [] [] zEW u u u (cq [1,2,3,4])<|fun r2 _ k p6 c6=>k<|zO<|zX 12<|
  qB (.f u) [] [] zKG u u u (cq [1,0])<|fun r3 _ k=>k<|zO<|zT 0 [13] u<|qM<|zP<|zK<|zR u u (fun _ k=>k) [0,1,2,3,4] ⟨⟩
theorem zIZ {qd : Prop} {y0 : zM} {y1 : List zI} {y2 : Int} {y3 : Int} : uH qd prog 98 [.func (.func 100) #[] #[], pt b1 0, pt b2 0, pt b3 0, pt b4 0] [bx b1 26 [sv p1 y0.1 c1, sv p2 y0.2.1 c2, sv p3 y0.2.2 c3], bx b2 38 [sv p4 y1 c4], bx b3 3 [vi y2], bx b4 3 [vi y3]] [Rl wO p1 c1 y0.1, Rl qP p2 c2 y0.2.1, Rl wJ p3 c3 y0.2.2, Rl wS p4 c4 y1] (zA4 y0 y1 y2 y3) fun L r K=>K (vb r) L [] :=
 qD call98 func98 u fun X=>jA 1 u<|wL (fun s1 K=>K [] [] [0,1,2,3] [(6, vb s1)] []) (qN<|zA 1 u<|qV 0 3 u u u<|zS 1 u u u<|zS 2 u u u<|qB .s [] [] zGY u u u (cq [0,1,2,3])<|fun r1 _ k p5 c5=>k<|zA 3 u<|wF 14 u (
  zA 1 u<|qV 0 3 u u u<|zS 1 u u u<|zS 3 u u u<|qB .s [] [] zGY u u u (cq [1,2,3,4])<|fun r2 _ k p6 c6=>k<|zA 2 u<|zD (vb ((len r2) == 0))<|zA 1 u<|zQ<|
  zH (gv (fun _ k=>k) [0,1,2,3] (gq [2,3,4,5])))<|zA 7 u<|zD (vb false)<|zA 1 u<|zQ<|zH (gv (fun _ k=>k) [0,1,2,3] (gq [1,2,3,4])))<|fun s1 _ k=>k<|zK<|zR u u (fun _ k=>k) [0,1,2,3] ⟨⟩
theorem zJ7 {qd : Prop} {y1 : zM} {y2 : List zI} {y3 : Int} {y4 : Int} {y5 : vN} : uH qd prog 99 [pt b1 0, pt b7 0] [bx b1 146 [.func (.func 96) #[] #[pt b2 0, pt b3 0, pt b4 0, pt b5 0, pt b6 0]], bx b2 26 [sv p1 y1.1 c1, sv p2 y1.2.1 c2, sv p3 y1.2.2 c3], bx b3 38 [sv p4 y2 c4], bx b4 3 [vi y3], bx b5 3 [vi y4], bx b6 28 [vi y5.1, vi y5.2], bx b7 146 [.func (.func 98) #[] #[pt b2 0, pt b3 0, pt b4 0, pt b5 0]]] [Rl wO p1 c1 y1.1, Rl qP p2 c2 y1.2.1, Rl wJ p3 c3 y1.2.2, Rl wS p4 c4 y2] (zBK y1 y2 y3 y4 y5) fun L r K=>K (vb r) L [] :=
 qD call99 func99 u fun X=>jA 1 u<|wL (fun s1 K=>K [] [] [0,1,2,3] [(2, vb s1)] []) (qN<|zS 0 u u u<|qB .s [1, 2, 3, 4, 5] [] zI0 u u u (cq [0,1,2,3])<|fun r1 _ k=>k<|zA 1 u<|wF 5 u (zA 6 u<|zD (vb true)<|
  zA 1 u<|zQ<|zH (gv (fun _ k=>k) [0,1,2,3,4,5,6] (gq [0,1,2,3])))<|zS 6 u u u<|qB .s [1, 2, 3, 4] [] zIZ u u u (cq [0,1,2,3])<|fun r2 _ k=>k<|zA 1 u<|wF 8 u (zS 0 u u u<|
  qB .s [1, 2, 3, 4, 5] [] zBg u u u (cq [0,1,2,3])<|fun r3 _ k=>k<|zD (vb r3)<|zD (vb r3)<|zA 1 u<|zQ<|zH (gv (fun _ k=>k) [0,1,2,3,4,5,6] (gq [0,1,2,3])))<|zA 2 u<|zD (vb false)<|
  zD (vb false)<|zA 1 u<|zQ<|zH (gv (fun _ k=>k) [0,1,2,3,4,5,6] (gq [0,1,2,3])))<|fun s1 _ k=>k<|zK<|zR u u (fun _ k=>k) [0,1,2,3,4,5,6] ⟨⟩
theorem zGU {qd : Prop} {y0 : zM} {y1 : List zI} {y2 : Int} : qG qd prog 103 [.agg #[sv p1 y0.1 c1, sv p2 y0.2.1 c2, sv p3 y0.2.2 c3], sv p4 y1 c4, vi y2] [] [Rl wO p1 c1 y0.1, Rl qP p2 c2 y0.2.1, Rl wJ p3 c3 y0.2.2, Rl wS p4 c4 y1] (zBY y0 y1 y2) fun r K=>∀ p5 c5,K (sv p5 r c5) [] [Rl (zU .i64) p5 c5 r] :=
 qD call103 func103 u fun X=>zB<|wC .s u<|fun b1=>zA 1 u<|zC<|yE [] [0] 7<|vQ 0 0 3 u u u u<|vQ 1 0 3 u u u u<|zT 3 [2,3] u<|zX 4<|qB (.f u) [] [] zIE u u u (cq [0,1,2,3])<|fun r1 _ k p5 c5=>k<|zO<|zX 5<|
  qB (.f u) [] [] zOw u u u (cq [1,2,3,0])<|fun r2 _ k p6 c6=>k<|zO<|zT 0 [6] u<|qM<|zP<|zK<|zR u u (fun _ k=>k p6 c6) [] (gq [0])
theorem zEv {qd : Prop} {y0 : zM} {y1 : List zI} {y2 : Int} {y3 : Int} {y4 : vN} : uH qd prog 96 [.func (.func 103) #[] #[], pt b1 0, pt b2 0, pt b3 0, pt b4 0, pt b5 0] [bx b1 26 [sv p1 y0.1 c1, sv p2 y0.2.1 c2, sv p3 y0.2.2 c3], bx b2 38 [sv p4 y1 c4], bx b3 3 [vi y2], bx b4 3 [vi y3], bx b5 28 [vi y4.1, vi y4.2]] [Rl wO p1 c1 y0.1, Rl qP p2 c2 y0.2.1, Rl wJ p3 c3 y0.2.2, Rl wS p4 c4 y1] (zAT y0 y1 y2 y3 y4) fun L r K=>K (vb r) L [] :=
 qD call96 func96 u fun X=>jA 1 u<|yE [] [0, 1, 2, 3, 4] 14<|zT 13 [0] u<|vQ 1 0 3 u u u u<|qS 2 1 u u u u<|qS 3 2 u u u u<|zT 9 [5] u<|vQ 6 0 3 u u u u<|qS 7 1 u u u u<|qS 8 3 u u u u<|qH 10 1 u u<|
  qS 11 4 u u u u<|zX 4<|qB (.f u) [] [] zGU u u u (cq [0,1,2,3])<|fun r1 _ k p5 c5=>k<|zO<|zX 9<|qB (.f u) [] [] zGU u u u (cq [1,2,3,4])<|fun r2 _ k p6 c6=>k<|zO<|zX 12<|
  qB (.f u) [] [] zKG u u u (cq [1,0])<|fun r3 _ k=>k<|zO<|zT 0 [13] u<|qM<|zP<|zK<|zR u u (fun _ k=>k) [0,1,2,3,4] ⟨⟩
theorem zH1 {qd : Prop} {y0 : zM} {y1 : List zI} {y2 : Int} {y3 : Int} : uH qd prog 98 [.func (.func 101) #[] #[], pt b1 0, pt b2 0, pt b3 0, pt b4 0] [bx b1 26 [sv p1 y0.1 c1, sv p2 y0.2.1 c2, sv p3 y0.2.2 c3], bx b2 38 [sv p4 y1 c4], bx b3 3 [vi y2], bx b4 3 [vi y3]] [Rl wO p1 c1 y0.1, Rl qP p2 c2 y0.2.1, Rl wJ p3 c3 y0.2.2, Rl wS p4 c4 y1] (zAV y0 y1 y2 y3) fun L r K=>K (vb r) L [] :=
 qD call98 func98 u fun X=>jA 1 u<|wL (fun s1 K=>K [] [] [0,1,2,3] [(6, vb s1)] []) (qN<|zA 1 u<|qV 0 3 u u u<|zS 1 u u u<|zS 2 u u u<|qB .s [] [] zEW u u u (cq [0,1,2,3])<|fun r1 _ k p5 c5=>k<|zA 3 u<|
  wF 14 u (zA 1 u<|qV 0 3 u u u<|zS 1 u u u<|zS 3 u u u<|qB .s [] [] zEW u u u (cq [1,2,3,4])<|fun r2 _ k p6 c6=>k<|zA 2 u<|zD (vb ((len r2) == 0))<|zA 1 u<|zQ<|
  zH (gv (fun _ k=>k) [0,1,2,3] (gq [2,3,4,5])))<|zA 7 u<|zD (vb false)<|zA 1 u<|zQ<|zH (gv (fun _ k=>k) [0,1,2,3] (gq [1,2,3,4])))<|fun s1 _ k=>k<|zK<|zR u u (fun _ k=>k) [0,1,2,3] ⟨⟩
theorem zIU {qd : Prop} {y0 : zM} {y1 : List zI} {y2 : Int} {y3 : Int} : uH qd prog 98 [.func (.func 103) #[] #[], pt b1 0, pt b2 0, pt b3 0, pt b4 0] [bx b1 26 [sv p1 y0.1 c1, sv p2 y0.2.1 c2, sv p3 y0.2.2 c3], bx b2 38 [sv p4 y1 c4], bx b3 3 [vi y2], bx b4 3 [vi y3]] [Rl wO p1 c1 y0.1, Rl qP p2 c2 y0.2.1, Rl wJ p3 c3 y0.2.2, Rl wS p4 c4 y1] (zA3 y0 y1 y2 y3) fun L r K=>K (vb r) L [] :=
 qD call98 func98 u fun X=>jA 1 u<|wL (fun s1 K=>K [] [] [0,1,2,3] [(6, vb s1)] []) (qN<|zA 1 u<|qV 0 3 u u u<|zS 1 u u u<|zS 2 u u u<|qB .s [] [] zGU u u u (cq [0,1,2,3])<|fun r1 _ k p5 c5=>k<|zA 3 u<|wF 14 u (
  zA 1 u<|qV 0 3 u u u<|zS 1 u u u<|zS 3 u u u<|qB .s [] [] zGU u u u (cq [1,2,3,4])<|fun r2 _ k p6 c6=>k<|zA 2 u<|zD (vb ((len r2) == 0))<|zA 1 u<|zQ<|
  zH (gv (fun _ k=>k) [0,1,2,3] (gq [2,3,4,5])))<|zA 7 u<|zD (vb false)<|zA 1 u<|zQ<|zH (gv (fun _ k=>k) [0,1,2,3] (gq [1,2,3,4])))<|fun s1 _ k=>k<|zK<|zR u u (fun _ k=>k) [0,1,2,3] ⟨⟩
theorem zJ3 {qd : Prop} {y1 : zM} {y2 : List zI} {y3 : Int} {y4 : Int} {y6 : vN} : uH qd prog 102 [pt b1 0, pt b6 0] [bx b1 146 [.func (.func 98) #[] #[pt b2 0, pt b3 0, pt b4 0, pt b5 0]], bx b2 26 [sv p1 y1.1 c1, sv p2 y1.2.1 c2, sv p3 y1.2.2 c3], bx b3 38 [sv p4 y2 c4], bx b4 3 [vi y3], bx b5 3 [vi y4], bx b6 146 [.func (.func 96) #[] #[pt b2 0, pt b3 0, pt b4 0, pt b5 0, pt b7 0]], bx b7 28 [vi y6.1, vi y6.2]] [Rl wO p1 c1 y1.1, Rl qP p2 c2 y1.2.1, Rl wJ p3 c3 y1.2.2, Rl wS p4 c4 y2] (zBJ y1 y2 y3 y4 y6) fun L r K=>K (vb r) L [] :=
 qD call102 func102 u fun X=>jA 1 u<|zG<|zV<|zB<|zS 0 u u u<|qB .s [1, 2, 3, 4] [] zIU u u u (cq [0,1,2,3])<|fun r1 _ k=>k<|zA 1 u<|zC<|zJ u (zB<|zS 5 u u u<|
  qB .s [1, 2, 3, 4, 6] [] zBg u u u (cq [0,1,2,3])<|fun r2 _ k=>k<|zA 1 u<|zC<|zK<|qO<|qA<|zR u u (fun _ k=>k) [0,1,2,3,4,5,6] ⟨⟩)<|zB<|zS 0 u u u<|
  qB .s [1, 2, 3, 4] [] zH1 u u u (cq [0,1,2,3])<|fun r3 _ k=>k<|zA 1 u<|zC<|zJ u (zB<|zS 5 u u u<|qB .s [1, 2, 3, 4, 6] [] zEv u u u (cq [0,1,2,3])<|
  fun r4 _ k=>k<|zA 1 u<|zC<|zK<|qO<|qA<|zR u u (fun _ k=>k) [0,1,2,3,4,5,6] ⟨⟩)<|wK<|qE<|zP<|wL (fun s1 K=>K [] [] [0,1,2,3] [(2, vb s1)] []) (qN<|zS 5 u u u<|
  qB .s [1, 2, 3, 4, 6] [] zBg u u u (cq [0,1,2,3])<|fun r5 _ k=>k<|zA 1 u<|wF 15 u (zS 5 u u u<|qB .s [1, 2, 3, 4, 6] [] zEv u u u (cq [0,1,2,3])<|fun r6 _ k=>
  k<|zD (vb r6)<|zA 1 u<|zQ<|zH (gv (fun _ k=>k) [0,1,2,3,4,5,6] (gq [0,1,2,3])))<|zA 2 u<|zD (vb false)<|zA 1 u<|zQ<|zH (gv (fun _ k=>k) [0,1,2,3,4,5,6] (gq [0,1,2,3])))<|fun s1 _ k=>k<|zK<|
  zR u u (fun _ k=>k) [0,1,2,3,4,5,6] ⟨⟩
theorem zUE {qd : Prop} {y0 : zM} {y1 : List zI} {y2 : Int} {y3 : Int} {y4 : vN} : qG qd prog 54 [.agg #[sv p1 y0.1 c1, sv p2 y0.2.1 c2, sv p3 y0.2.2 c3], sv p4 y1 c4, vi y2, vi y3, .agg #[vi y4.1, vi y4.2]] [] [Rl wO p1 c1 y0.1, Rl qP p2 c2 y0.2.1, Rl wJ p3 c3 y0.2.2, Rl wS p4 c4 y1] (zHe y0 y1 y2 y3 y4) fun r K=>K (vb r) [] [] :=
 qD call54 func54 u fun X=>zB<|wC .s u<|fun b1=>wC .s u<|fun b2=>wC .s u<|fun b3=>wC .s u<|fun b4=>wC .s u<|fun b5=>zA 1 u<|zC<|zG<|wL (fun s1 K=>K [5,6,7,8,9] [] [0,1,2,3] [(31, vb s1)] []) (qN<|zS 2 u u u<|zS 3 u u u<|
  zA 3 u<|wF 18 u (zA 6 u<|zD (vb true)<|zA 5 u<|zD (vb true)<|zQ<|zH (gv (fun _ k=>k) [0,1,2,3,4] (gq [0,1,2,3])))<|zS 2 u u u<|zS 3 u u u<|zA 1 u<|zS 1 u u u<|zA 2 u<|
  zD (vb (decide ((len y1) ≤ (if y3 > y2 then y3 else y2))))<|zA 1 u<|wF 26 u (zA 4 u<|zD (vb true)<|zQ<|zH (gv (fun _ k=>k) [0,1,2,3,4] (gq [0,1,2,3])))<|qV 0 3 u u u<|zS 1 u u u<|zS 3 u u u<|
  qL zRQ u (cq [0,1,2,3])<|fun r1 _ k=>k<|zD (vb r1)<|zQ<|zH (gv (fun _ k=>k) [0,1,2,3,4] (gq [0,1,2,3])))<|fun s1 _ k=>k<|zJ u (jA 1 u<|zK<|qA<|zR u u (fun _ k=>k) [] ⟨⟩)<|jC<|zB<|zA 1 u<|wM .s (.nilFunc)<|
  fun b6=>qI .s 5 u u u<|zC<|zB<|zA 1 u<|wM .s (.nilFunc)<|fun b7=>qI .s 6 u u u<|zC<|jA 1 u<|zG<|zB<|zL 0 u<|zS 4 u u u<|zC<|zV<|jA 2 u<|zJ u (jB 2 u<|qE<|zP<|zB<|zA 1 u<|
  qB .s [5, 0, 1, 2, 3, 4, 6] [] zJ7 u u u (cq [0,1,2,3])<|fun r2 _ k=>k<|zA 1 u<|zC<|zK<|zR u u (fun _ k=>k) [] ⟨⟩)<|jA 2 u<|zJ u (jB 2 u<|qE<|zP<|zB<|zA 1 u<|
  qB .s [6, 0, 1, 2, 3, 5, 4] [] zJ3 u u u (cq [0,1,2,3])<|fun r3 _ k=>k<|zA 1 u<|zC<|zK<|zR u u (fun _ k=>k) [] ⟨⟩)<|jA 1 u<|zK<|qO<|qA<|zR u u (fun _ k=>k) [] ⟨⟩
theorem zJr {qd : Prop} {y0 : qU} {y1 : zM} {y2 : List zI} {y3 : vN} : uH qd prog 53 [.agg #[vi y0.1, vi y0.2.1, vi y0.2.2.1, vi y0.2.2.2], pt b1 0, pt b2 0, pt b3 0] [bx b1 26 [sv p1 y1.1 c1, sv p2 y1.2.1 c2, sv p3 y1.2.2 c3], bx b2 38 [sv p4 y2 c4], bx b3 28 [vi y3.1, vi y3.2]] [Rl wO p1 c1 y1.1, Rl qP p2 c2 y1.2.1, Rl wJ p3 c3 y1.2.2, Rl wS p4 c4 y2] (zBP y0 y1 y2 y3) fun L r K=>K (vb r) L [] :=
 qD call53 func53 u fun X=>zB<|wC .s u<|fun b4=>zA 1 u<|zC<|wL (fun s1 K=>K [] [(3, [])] [0,1,2,3] [(5, vb s1)] []) (qN<|zL 3 u<|zS 3 u u u<|zA 2 u<|wF 9 u (qV 0 3 u u u<|zS 1 u u u<|zL 0 u<|zS 3 u u u<|zL 2 u<|
  zS 3 u u u<|qV 2 2 u u u<|qL zUE u (cq [0,1,2,3])<|fun r1 _ k=>k<|zD (vb r1)<|zA 1 u<|zQ<|zH (gv (fun _ k=>k) [0,1,2,903] (gq [0,1,2,3])))<|zA 8 u<|zD (vb false)<|zA 1 u<|zQ<|
  zH (gv (fun _ k=>k) [0,1,2,903] (gq [0,1,2,3])))<|fun s1 _ k=>k<|zK<|zR u u (fun _ k=>k) [0,1,2] ⟨⟩
theorem zE6 {qd : Prop} {y0 : List qU} {y1 : zM} {y2 : List zI} {y3 : vN} : uH qd prog 89 [sv p1 y0 c1, .func (.func 53) #[] #[pt b1 0, pt b2 0, pt b3 0]] [bx b1 26 [sv p2 y1.1 c2, sv p3 y1.2.1 c3, sv p4 y1.2.2 c4], bx b2 38 [sv p5 y2 c5], bx b3 28 [vi y3.1, vi y3.2]] [Rl yX p1 c1 y0, Rl wO p2 c2 y1.1, Rl qP p3 c3 y1.2.1, Rl wJ p4 c4 y1.2.2, Rl wS p5 c5 y2] (zAX y0 y1 y2 y3) fun L r K=>K (vi r) L [] :=
 qD call89 func89 u fun X=>jA 1 u<|zG<|jA 3 u<|zV<|qZ (fun s1 K=>K [0,1,7] [] [0,1,2,3,4] [(8, vi s1)] []) (gv (fun _ k=>k) [0,1,2] (gq [0,1,2,3,4]))<|fun s1 _ k=>k<|jA 1 u<|zG<|zJ u (jC<|zG<|zV<|jA 2 u<|zB<|zA 3 u<|wB 0 u u u<|
  fun x1 b4 o1=>wA true zM2 (gk 0) u<|qB .s [0, 1, 2] [] zJr u u u (cq [2,3,4,5])<|fun r1 _ k=>k<|zC<|zJ u (jA 2 u<|zK<|qO<|qA<|wU<|qO<|qA<|zR u u (fun _ k=>k) [0,1,2] ⟨⟩)<|wK<|qE<|zP<|
  jB 2 u<|qJ (gv (fun _ k=>k) [0,1,2] (gq [1,2,3,4,5])))<|qT<|qQ<|qY<|qW<|zP<|jA 1 u<|zK<|zR u u (fun _ k=>k) [0,1,2] ⟨⟩
theorem zEL {qd : Prop} {y0 : List qU} {y1 : zM} {y2 : List zI} {y3 : vN} : qG qd prog 51 [sv p1 y0 c1, .func (.func 53) #[] #[pt b1 0, pt b2 0, pt b3 0]] [r_1, bx b1 26 [sv p2 y1.1 c2, sv p3 y1.2.1 c3, sv p4 y1.2.2 c4], bx b2 38 [sv p5 y2 c5], bx b3 28 [vi y3.1, vi y3.2]] [Al yX 98 r_1 p1 c1 y0, Rl wO p2 c2 y1.1, Rl qP p3 c3 y1.2.1, Rl wJ p4 c4 y1.2.2, Rl wS p5 c5 y2] (zAF y0 y1 y2 y3) fun r K=>∀ p6 c6,K (sv p6 r c6) [[], bx b1 26 [sv p2 y1.1 c2, sv p3 y1.2.1 c3, sv p4 y1.2.2 c4], bx b2 38 [sv p5 y2 c5], bx b3 28 [vi y3.1, vi y3.2]] [Rl yX p6 c6 r] :=
 qD call51 func51 u fun X=>jA 1 u<|zB<|zA 2 u<|qB .s [1, 2, 3] [0] zE6 u u u ⟨cl 0 0,ck 1,ck 2,ck 3,ck 4,⟨⟩⟩<|fun r1 _ k=>k<|zA 1 u<|zC<|zG<|jA 2 u<|zJ u (jA 2 u<|zK<|qA<|wX 0 0 u u<|
  zR u u (fun _ k=>k p1 c1) [900,1,2,3] (gq [0]))<|jC<|wL (fun s1 K=>∀ r_2,K [] [(0, r_2)] [1,2,3,4] [(0, .slice p1 (List.length y0) c1), (5, vi s1.2)] [Ar yX 98 r_2 p1 c1 (List.length y0) s1.1]) (jA 3 u<|zV<|
  qZ (fun s2 K=>∀ r_3,K [1] [(0, r_3)] [1,2,3,4] [(0, .slice p1 (List.length y0) c1), (5, vi s2.2.1), (6, vi s2.2.2)] [Ar yX 98 r_3 p1 c1 (List.length y0) s2.1]) (gv (fun _ k=>k r_1) [0,1,2,3] (gq [0,1,2,3,4]))<|fun s2 _ k r_3=>k<|
  zG<|jA 4 u<|zJ u (jC<|zG<|zV<|zB<|zA 2 u<|uZ 0 u u u<|fun x1 h1 b4 hp1=>jlA 0 0 sI true zM2 u hp1 h1 u<|wM .s (.agg #[vi 0, vi 0, vi 0, vi 0])<|fun b5=>qI .s 4 u u u<|zC<|zB<|zA 1 u<|
  qV 4 4 u u u<|qB .s [1, 2, 3] [] zJr u u u (cq [1,2,3,4])<|fun r2 _ k=>k<|zA 1 u<|zC<|zJ u (zB<|zA 2 u<|qV 4 4 u u u<|uZ 0 u u u<|fun x2 h2 b6 hp2=>
  xK .s 0 0 sI x1 true u hp2 h2 u u (vP vI (vP vI (vP vI vI)))<|fun r_4=>zC<|jB 3 u<|qE<|zP<|jB 3 u<|qJ (gv (fun _ k=>k r_4) [0,1,2,3] (gq [0,2,3,4,5])))<|wK<|qE<|zP<|jB 3 u<|
  qJ (gv (fun _ k=>k r_3) [0,1,2,3] (gq [0,1,2,3,4])))<|qT<|qQ<|qY<|qW<|zH (gv (fun _ k=>k r_3) [0,1,2,3] (gq [0,1,2,3,4])))<|fun s1 _ k r_2=>k<|zB<|zA 2 u<|jsV 0 u u u<|fun u1 p6 c6 f1=>
  jcv .s 0 0 (0, 0, 0, 0) (.agg #[vi 0, vi 0, vi 0, vi 0]) u f1 u (vP vI (vP vI (vP vI vI)))<|fun r_5=>zC<|zB<|zA 2 u<|jsP 0 u u u<|fun x3=>zA 1 u<|zC<|zK<|wX 0 0 u u<|
  zR u u (fun _ k=>k p1 c1) [900,1,2,3] (gq [0])
theorem zL3 {qd : Prop} {y0 : zM} {y1 : List zI} {y2 : vN} : qG qd prog 23 [.agg #[sv p1 y0.1 c1, sv p2 y0.2.1 c2, sv p3 y0.2.2 c3], sv p4 y1 c4, .agg #[vi y2.1, vi y2.2]] [] [Rl wO p1 c1 y0.1, Rl qP p2 c2 y0.2.1, Rl wJ p3 c3 y0.2.2, Rl wS p4 c4 y1] (zCV y0 y1 y2) fun r K=>∀ p5 c5,K (sv p5 r c5) [] [Rl yX p5 c5 r] :=
 qD call23 func23 u fun X=>zB<|wC .s u<|fun b1=>wC .s u<|fun b2=>wC .s u<|fun b3=>zA 1 u<|zC<|zB<|qV 0 3 u u u<|zS 1 u u u<|qL zPL u (cq [0,1,2,3])<|fun r1 _ k p5 c5 r_1=>k<|zA 1 u<|
  qB .s [3, 0, 1, 2] [] zEL u u u (cq [0,1,2,3,4])<|fun r2 _ k p6 c6=>k<|zA 1 u<|zC<|zK<|zR u u (fun _ k=>k p6 c6) [] (gq [0])
theorem zMI {qd : Prop} {y0 : List wQ} : qG qd prog 50 [sv p1 y0 c1] [r_1] [Al yH 100 r_1 p1 c1 y0] (zBw y0) fun r K=>∀ p2 c2,K (sv p2 r c2) [[]] [Rl yH p2 c2 r] :=
 qD call50 func50 u fun X=>jA 1 u<|zG<|jA 3 u<|zJ u (jA 2 u<|zK<|qA<|wX 0 0 u u<|zR u u (fun _ k=>k p1 c1) [900] (gq [0]))<|jC<|zG<|jA 1 u<|zV<|qZ (fun s1 K=>K [0] [] [0] [(3, vi s1)] []) (gv (fun _ k=>k) [0] (gq [0]))<|fun s1 _ k=>k<|
  zG<|jA 4 u<|zJ u (jC<|zG<|zV<|yE [] [0] 10<|zT 8 [0,1] u<|uU 2 0 u u u u<|fun x1 h1 b1 hp1=>xY 3 0 0 sI true zL0 u u hp1 h1 u<|zT 3 [4,5,6] u<|uU 7 0 u u u u<|fun x2 h2 b2 hp2=>
  xY 8 0 0 sI true zL0 u u hp2 h2 u<|wD 9 (vb (x1 == x2)) u<|qM<|zP<|zJ u (zB<|zA 2 u<|jsV 0 u u u<|fun u1 p2 c2 f1=>zA 1 u<|zC<|
  jjn (fun s2 K=>∀ r_2,K [(0, .slice p1 (List.length y0) c1), (3, vi s2.2)] [r_2] [Ar yH 100 r_2 p1 c1 (List.length y0) s2.1]) (jA 1 u<|zV<|
  qZ (fun s3 K=>∀ r_3,K [4] [(0, r_3)] [] [(0, .slice p1 (List.length y0) c1), (3, vi s3.2.1), (5, vi s3.2.2)] [Ar yH 100 r_3 p1 c1 (List.length y0) s3.1]) (gv (fun _ k=>k r_1) [0] (gq [0]))<|fun s3 _ k r_3=>k<|zG<|jA 4 u<|zJ u (
  jC<|zG<|zV<|yE [] [0] 10<|zT 8 [0,1] u<|jdX 2 0 u u f1 u u<|fun x3 b3 hp3 h3=>xY 3 0 0 sI true zL0 u u hp3 h3 u<|zT 3 [4,5,6] u<|jdX 7 0 u u f1 u u<|fun x4 b4 hp4 h4=>
  xY 8 0 0 sI true zL0 u u hp4 h4 u<|wD 9 (vb (!(x3 == x4))) u<|qM<|zP<|zJ u (zB<|zA 4 u<|jiV 0 u f1 u u<|fun x5 b5 hp5 h5=>jlA 0 0 sI true zL0 u hp5 h5 u<|uZ 0 u u u<|fun x6 h6 b6 hp6=>
  xK .s 0 0 sI x5 true u hp6 h6 u u (vP vI vI)<|fun r_4=>zC<|jB 3 u<|qE<|zP<|jB 3 u<|qJ (gv (fun _ k=>k r_4) [0] (gq [0])))<|wK<|qE<|zP<|jB 3 u<|qJ (gv (fun _ k=>k r_3) [0] (gq [0])))<|qT<|qQ<|qY<|qW<|
  zH (gv (fun _ k=>k r_3) [0] (gq [0])))<|fun s2 _ k r_2=>k<|zB<|zA 2 u<|jsV 0 u u u<|fun u2 p3 c3 f2=>jcv .s 0 0 (0, 0) (.agg #[vi 0, vi 0]) u f2 u (vP vI vI)<|fun r_5=>zC<|zB<|zA 2 u<|jsP 0 u u u<|fun x7=>
  zA 1 u<|zC<|zK<|qO<|qA<|wU<|qO<|qA<|wX 0 0 u u<|zR u u (fun _ k=>k p1 c1) [900] (gq [0]))<|wK<|qE<|zP<|jB 3 u<|qJ (gv (fun _ k=>k) [0] (gq [0])))<|qT<|qQ<|qY<|qW<|zP<|jA 2 u<|zK<|wX 0 0 u u<|
  zR u u (fun _ k=>k p1 c1) [900] (gq [0])
theorem zPa {qd : Prop} {y0 : wQ} {y1 : wQ} : qG qd prog 47 [.agg #[vi y0.1, vi y0.2], .agg #[vi y1.1, vi y1.2]] [] [] (zCz y0 y1) fun r K=>K (vi r) [] [] :=
 qD call47 func47 u fun X=>zB<|wC .s u<|fun b1=>wC .s u<|fun b2=>zA 1 u<|zC<|yE [] [0, 1] 13<|qH 0 0 u u<|qS 1 0 u u u u<|qH 2 0 u u<|qS 3 1 u u u u<|qH 5 1 u u<|qS 6 0 u u u u<|qH 7 1 u u<|
  qS 8 1 u u u u<|zX 4<|qB (.f u) [] [] zB4 u u u ⟨⟩<|fun r1 _ k=>k<|zO<|zX 9<|qB (.f u) [] [] zB4 u u u ⟨⟩<|fun r2 _ k=>k<|zO<|zX 10<|
  wT (.f u) (e := zU .i64) 3 [vi r1, vi r2] ([r1, r2] : List Int) (rC vI (rC vI rN))<|fun p1 c1=>zO<|zX 11<|qB (.f u) [] [] zLy rfl u u (cq [0])<|fun r3 _ k=>k<|zO<|zT 0 [12] u<|qM<|zP<|zK<|
  zR u u (fun _ k=>k) [] ⟨⟩
theorem zFs {qd : Prop} {y0 : List wQ} : qG qd prog 46 [sv p1 y0 c1, .func (.func 47) #[] #[]] [r_1] [Al yH 100 r_1 p1 c1 y0] (zAR y0) fun r K=>∀ r_2,K (.tuple #[]) [r_2] [Ar yH 100 r_2 p1 c1 (List.length y0) r] := ⟨call46, fun A w0 r hm hO hF => by
 have h := zPl (qd := qd) Go.Proofs.Tryz.sort46 (uE.prod (uE.int .i64) (uE.int .i64)) (te := 100) Tryz.isAgg100 Tryz.sizeOf100 zCz 47 (enters_of func47 (by kernel_rfl) u) (fun w x y n hn => ?_) hO hF.1.1 hm
 · change Calls prog 46 _ _ _ at h
   refine h.mono fun e w' h => ?_
   cases e with
   | returned v => obtain ⟨r', rfl, h1, h2, h3, h4⟩ := h; exact fun G k => k r' ⟨rfl, h1, h2, ⟨h3, h4.symm⟩, trivial⟩
   | panicked ch => exact h
   | outgrown => exact h
 · refine ((zPa (qd := True) (y0 := x) (y1 := y)).go [] w n hn (wG.start (by simp)) trivial).mono fun e w' h => ?_
   cases e with
   | returned v => exact h _ fun ⟨e1, q⟩ => ⟨e1, q.e⟩
   | panicked ch => exact h
   | outgrown => exact h⟩
theorem zNA {qd : Prop} {y0 : Int} {y1 : List qU} : qG qd prog 22 [vi y0, sv p1 y1 c1] [] [Rl yX p1 c1 y1] (zDY y0 y1) fun r K=>∀ p2 c2,K (.tuple #[.agg #[vi r.1.1, sv p2 r.1.2 c2], vi r.2]) [] [Rl yH p2 c2 r.1.2] :=
 qD call22 func22 u fun X=>zB<|wM .s (.agg #[vi 0, .slice none 0 0])<|fun b1=>zA 1 u<|zC<|zG<|uN (fun K=>K [0,1,4] [] [0] [(14, vb ((decide (y0 < 0)) || (decide (40 < y0))))] []) (qN<|zA 3 u<|vR (b := decide (y0 < 0)) 11 u (fun hb1=>zA 2 u<|
  zD (vb true)<|zQ<|wR 14 (vb ((decide (y0 < 0)) || (decide (40 < y0)))) u (by rw [hb1]; rfl)<|zH (gv (fun _ k=>k) [0] (gq [0])))<|fun hb1=>zA 2 u<|zD (vb (decide (40 < y0)))<|zQ<|
  wR 14 (vb ((decide (y0 < 0)) || (decide (40 < y0)))) u (by rw [hb1]; rfl)<|zH (gv (fun _ k=>k) [0] (gq [0])))<|fun _ k=>k<|zJ u (zB<|zD (.agg #[vi 0, .slice none 0 0])<|qI .s 0 u u u<|zA 1 u<|zC<|zK<|qA<|
  wW u (lC 0 (.agg #[vi 0, .slice none 0 0]) u u (lT u lN)) (fun _ k=>k none 0) [] ⟨gn,⟨⟩⟩)<|jC<|zB<|zA 1 u<|zD (.agg #[vi y0, .slice none 0 0])<|vV yH 100<|wM .s (.agg #[vi 0, .slice none 0 0])<|fun b2=>
  qI .s 2 u u u<|zC<|zTu (fun s1 K=>∀ p2 c2 r_1,K [4,6] [(1, r_1), (2, bx b2 42 [vi y0, sv p2 s1 c2])] [] [] [Al yH 100 r_1 p2 c2 s1]) (jA 3 u<|zV<|
  qZ (fun s2 K=>∀ p3 c3 r_2,K [0,4,6,18,19] [(1, r_2), (2, bx b2 42 [vi y0, sv p3 s2.2 c3])] [1] [(20, vi s2.1)] [Al yH 100 r_2 p3 c3 s2.2]) (gv (fun _ k=>k none 0 []) [0,1,2] (gq [0,1]))<|fun s2 _ k p3 c3 r_2=>k<|jA 1 u<|zG<|
  zJ u (jC<|zG<|zV<|zB<|wB 1 u u u<|fun x1 b3 o1=>wA true zM2 (gk 0) u<|wM .s (.agg #[vi 0, vi 0, vi 0, vi 0])<|fun b4=>qI .s 3 u u u<|zC<|zG<|
  uN (fun K=>K [0,4,6,8,18,19,20] [] [2,1] [(38, vb ((decide ((if x1.2.1 < x1.1 then x1.2.1 else x1.1) < 0)) || (decide (y0 ≤ (if x1.2.1 > x1.1 then x1.2.1 else x1.1)))))] []) (qN<|zL 0 u<|zS 3 u u u<|zL 1 u<|
  zS 3 u u u<|zA 3 u<|vR (b := decide ((if x1.2.1 < x1.1 then x1.2.1 else x1.1) < 0)) 30 u (fun hb2=>zA 7 u<|zD (vb true)<|zQ<|
  wR 38 (vb ((decide ((if x1.2.1 < x1.1 then x1.2.1 else x1.1) < 0)) || (decide (y0 ≤ (if x1.2.1 > x1.1 then x1.2.1 else x1.1))))) u (by rw [hb2]; rfl)<|zH (gv (fun _ k=>k) [0,1,2,3] (gq [2,1])))<|fun hb2=>zL 0 u<|zS 3 u u u<|
  zL 1 u<|zS 3 u u u<|zA 3 u<|zD (vb (decide (y0 ≤ (if x1.2.1 > x1.1 then x1.2.1 else x1.1))))<|zQ<|
  wR 38 (vb ((decide ((if x1.2.1 < x1.1 then x1.2.1 else x1.1) < 0)) || (decide (y0 ≤ (if x1.2.1 > x1.1 then x1.2.1 else x1.1))))) u (by rw [hb2]; rfl)<|zH (gv (fun _ k=>k) [0,1,2,3] (gq [2,1])))<|fun _ k=>k<|zJ u (zB<|
  zD (.agg #[vi 0, .slice none 0 0])<|qI .s 0 u u u<|zA 1 u<|zC<|zK<|qA<|qO<|qA<|wU<|qO<|wU<|wW u (lC 0 (.agg #[vi 0, .slice none 0 0]) u u (lT u lN)) (fun _ k=>k none 0) [] ⟨gn,⟨⟩⟩)<|jC<|qN<|zL 1 u<|
  zS 2 u u u<|zL 0 u<|zS 3 u u u<|zL 1 u<|zS 3 u u u<|zD (.agg #[vi x1.1, vi x1.2.1])<|wT .s (e := yH) 100 [vi x1.1, vi x1.2.1] ([(x1.1, x1.2.1)] : List wQ) (rC (vP vI vI) rN)<|fun p4 c4=>
  wE .s 1 2 u (gk 0) u u<|fun x2 r_3 p5 c5=>zL 1 u<|qI .s 2 u u u<|zQ<|qE<|zP<|jB 2 u<|qJ (gv (fun _ k=>k p5 c5 r_3) [0,1,2] (gq [0,2])))<|qT<|qQ<|qY<|qW<|qJ (gv (fun _ k=>k p3 c3 r_2) [0,1,2] (gq [0])))<|
  fun s1 _ k p2 c2 r_1=>k<|zB<|zL 1 u<|zS 2 u u u<|qB .s [1] [] zFs u u u (cq [0])<|fun r1 _ k r_4=>k<|zC<|zB<|zL 1 u<|zS 2 u u u<|jrE 0 55 u u<|
  qB .s [1] [] zMI u u u (cq [0])<|fun r2 _ k p6 c6=>k<|zL 1 u<|qI .s 2 u u u<|zC<|zB<|qV 2 2 u u u<|qI .s 0 u u u<|zA 1 u<|zC<|zK<|
  wW u (lC 0 (.agg #[vi y0, sv p6 r2 c6]) u u (lT u lN)) (fun _ k=>k p6 c6) [] (gq [0])
theorem zJD {qd : Prop} {y0 : Int} : qG qd prog 224 [.int .u64 y0] [] [Pt (uT 64 (zU .u8)) 3 0 tJ] (zB9 y0) fun r K=>K (vi r) [] [] :=
 qD call224 func224 u fun X=>jA 1 u<|zG<|jA 2 u<|zJ u (jA 1 u<|zK<|qA<|zR u u (fun _ k=>k) [] ⟨⟩)<|jC<|zB<|zA 5 u<|zD (.int .u64 (xO .u64 (IntKind.u64.wrap ((xA .u64 y0 (IntKind.u64.wrap (0 - y0))) * 285870213051353865)) 58))<|
  jgx (gk 0) u u<|fun x1=>wA false oI (gk 0) u<|zD (vi (zW (x1)))<|zA 1 u<|zC<|zK<|zR u u (fun _ k=>k) [] ⟨⟩
theorem zTD {qd : Prop} {y0 : Int} : qG qd prog 173 [.int .u64 y0] [] [Pt (uT 64 (zU .u8)) 3 0 tJ] (zGj y0) fun r K=>∀ p1 c1,K (sv p1 r c1) [] [Rl (zU .i64) p1 c1 r] :=
 qD call173 func173 u fun X=>jA 1 u<|zB<|zA 1 u<|vV (zU .i64) 3<|zC<|zG<|zV<|qZ (fun s1 K=>∀ p1 c1 r_1,K [] [(0, r_1)] [1] [(0, .int .u64 s1.1), (3, sv p1 s1.2 c1)] [Al (zU .i64) 3 r_1 p1 c1 s1.2]) (gv (fun _ k=>k none 0 []) [0] (gq [0,1]))<|
  fun s1 _ k p1 c1 r_1=>k<|zG<|jA 2 u<|zJ u (jC<|zG<|zV<|qN<|zA 2 u<|qL zJD u (cq [1])<|fun r1 _ k=>k<|wT .s (e := zU .i64) 3 [vi r1] ([r1] : List Int) (rC vI rN)<|fun p2 c2=>
  wE .s 0 1 u (gk 0) u u<|fun x1 r_2 p3 c3=>zA 1 u<|zQ<|qE<|zP<|jB 5 u<|qJ (gv (fun _ k=>k p3 c3 r_2) [0] (gq [0,3])))<|qT<|qQ<|qY<|qW<|zP<|jA 2 u<|zK<|wX 0 0 u u<|zR u u (fun _ k=>k p1 c1) [] (gq [0])
theorem zRo {qd : Prop} {y0 : wY} : qG qd prog 174 [.agg #[vi y0.1, sv p1 y0.2 c1]] [] [Rl yH p1 c1 y0.2] (zFm y0) fun r K=>∀ p2 c2,K (sv p2 r c2) [] [Rl (zU .u64) p2 c2 r] :=
 qD call174 func174 u fun X=>zB<|wC .s u<|fun b1=>zA 1 u<|zC<|zB<|zL 0 u<|zS 0 u u u<|jmk .s (e := zU .u64) 187 (0 : Int) (.int .u64 0) vI u u<|fun x1 r_1 p2 c2=>zA 1 u<|zC<|zG<|zB<|zL 1 u<|zS 0 u u u<|zA 2 u<|zC<|zV<|
  qZ (fun s1 K=>∀ r_2,K [10,11] [(0, []), (1, r_2)] [1] [(3, .slice p2 (List.length x1) c2), (12, vi s1.2)] [Ar (zU .u64) 187 r_2 p2 c2 (List.length x1) s1.1]) (gv (fun _ k=>k r_1) [900,1] (gq [0,1]))<|fun s1 _ k r_2=>k<|jA 1 u<|zG<|
  zJ u (jC<|zG<|zV<|zB<|wB 1 u u u<|fun x2 b2 o1=>wA true zL0 (gk 0) u<|wM .s (.agg #[vi 0, vi 0])<|fun b3=>qI .s 2 u u u<|zC<|yI [10] [1, 2] 11<|zT 10 [0] u<|qH 1 0 u u<|qS 2 2 u u u u<|
  uU 3 1 u u u u<|fun x3 h1 b4 hp1=>xY 4 1 1 sI false oI u u hp1 h1 u<|qH 5 1 u u<|qS 6 2 u u u u<|uF fun x4 h2=>jdv 7 u (fun h=>r_shlK h u u h2)<|zT 2 [8] u<|uU 9 1 u u u u<|fun x5 h3 b5 hp2=>
  zX 10<|xK (.f u) 1 1 sI (bor .u64 x3 x4) false u hp2 h3 u u vI<|fun r_3=>jdb [] [1, 2]<|qM<|qE<|zP<|jB 2 u<|qJ (gv (fun _ k=>k r_3) [900,1] (gq [0,3])))<|qT<|qQ<|qY<|qW<|zP<|jA 2 u<|zK<|wX 1 0 u u<|
  jre 0 2 u u<|zR u u (fun _ k=>k p2 c2) [] (gq [0])
theorem zPr {qd : Prop} {y0 : wQ} {y1 : wQ} : qG qd prog 251 [.agg #[vi y0.1, vi y0.2], .agg #[vi y1.1, vi y1.2]] [] [] (zEB y0 y1) fun r K=>K (vi r) [] [] :=
 qD call251 func251 u fun X=>zB<|wC .s u<|fun b1=>wC .s u<|fun b2=>zA 1 u<|zC<|yE [] [0, 1] 13<|qH 0 0 u u<|qS 1 0 u u u u<|qH 2 0 u u<|qS 3 1 u u u u<|qH 5 1 u u<|qS 6 0 u u u u<|qH 7 1 u u<|
  qS 8 1 u u u u<|zX 4<|qB (.f u) [] [] zB4 u u u ⟨⟩<|fun r1 _ k=>k<|zO<|zX 9<|qB (.f u) [] [] zB4 u u u ⟨⟩<|fun r2 _ k=>k<|zO<|zX 10<|
  wT (.f u) (e := zU .i64) 3 [vi r1, vi r2] ([r1, r2] : List Int) (rC vI (rC vI rN))<|fun p1 c1=>zO<|zX 11<|qB (.f u) [] [] zLy rfl u u (cq [0])<|fun r3 _ k=>k<|zO<|zT 0 [12] u<|qM<|zP<|zK<|
  zR u u (fun _ k=>k) [] ⟨⟩
theorem zLU {qd : Prop} {y0 : wY} : qG qd prog 223 [.agg #[vi y0.1, sv p1 y0.2 c1]] [] [Rl yH p1 c1 y0.2] (zAq y0) fun r K=>K (vi r) [] [] :=
 qD call223 func223 u fun X=>zB<|wC .s u<|fun b1=>zA 1 u<|zC<|zG<|uN (fun K=>K [1] [] [0] [(12, vb ((decide (y0.1 < 0)) || (decide (40 < y0.1))))] []) (qN<|zL 0 u<|zS 0 u u u<|zA 2 u<|vR (b := decide (y0.1 < 0)) 8 u (fun hb1=>zA 3 u<|
  zD (vb true)<|zQ<|wR 12 (vb ((decide (y0.1 < 0)) || (decide (40 < y0.1)))) u (by rw [hb1]; rfl)<|zH (gv (fun _ k=>k) [0] (gq [0])))<|fun hb1=>zL 0 u<|zS 0 u u u<|zA 1 u<|zD (vb (decide (40 < y0.1)))<|zQ<|
  wR 12 (vb ((decide (y0.1 < 0)) || (decide (40 < y0.1)))) u (by rw [hb1]; rfl)<|zH (gv (fun _ k=>k) [0] (gq [0])))<|fun _ k=>k<|zJ u (jA 1 u<|zK<|qA<|zR u u (fun _ k=>k) [] ⟨⟩)<|jC<|zG<|zB<|zL 1 u<|zS 0 u u u<|
  zA 2 u<|zC<|zV<|qZ (fun s1 K=>K [1,14,15] [] [0] [(16, vi s1)] []) (gv (fun _ k=>k) [0] (gq [0]))<|fun s1 _ k=>k<|jA 1 u<|zG<|zJ u (jC<|zG<|zV<|zB<|zA 1 u<|wB 0 u u u<|fun x1 b2 o1=>wA true zL0 (gk 0) u<|
  wM .s (.agg #[vi 0, vi 0])<|fun b3=>zA 1 u<|qI .s 1 u u u<|zC<|zG<|
  uN (fun K=>K [1,3,4,14,15,16] [] [1] [(36, vb ((decide ((if x1.2 < x1.1 then x1.2 else x1.1) < 0)) || (decide (y0.1 ≤ (if x1.2 > x1.1 then x1.2 else x1.1)))))] []) (qN<|zL 0 u<|zS 1 u u u<|zL 1 u<|zS 1 u u u<|
  zA 3 u<|vR (b := decide ((if x1.2 < x1.1 then x1.2 else x1.1) < 0)) 27 u (fun hb2=>zA 8 u<|zD (vb true)<|zQ<|
  wR 36 (vb ((decide ((if x1.2 < x1.1 then x1.2 else x1.1) < 0)) || (decide (y0.1 ≤ (if x1.2 > x1.1 then x1.2 else x1.1))))) u (by rw [hb2]; rfl)<|zH (gv (fun _ k=>k) [0,1] (gq [1])))<|fun hb2=>zL 0 u<|zS 1 u u u<|zL 1 u<|
  zS 1 u u u<|zA 1 u<|zL 0 u<|zS 0 u u u<|zA 1 u<|zD (vb (decide (y0.1 ≤ (if x1.2 > x1.1 then x1.2 else x1.1))))<|zQ<|
  wR 36 (vb ((decide ((if x1.2 < x1.1 then x1.2 else x1.1) < 0)) || (decide (y0.1 ≤ (if x1.2 > x1.1 then x1.2 else x1.1))))) u (by rw [hb2]; rfl)<|zH (gv (fun _ k=>k) [0,1] (gq [1])))<|fun _ k=>k<|zJ u (jA 1 u<|zK<|qA<|qO<|qA<|
  wU<|qO<|qA<|zR u u (fun _ k=>k) [] ⟨⟩)<|jC<|wL (fun s2 K=>K [1,14,15,16] [(1, [])] [0] [(49, vb s2)] []) (yI [] [0, 1] 13<|zT 10 [0,1,2] u<|wF 39 u (qH 3 1 u u<|qS 4 0 u u u u<|zT 6 [5,6] u<|
  vE 7 0 u u u u<|fun x2 b4 o2=>vD 8 true zL0 u (gk 0) u<|vQ 9 1 2 u u u u<|zX 10<|qB (.f u) [] [] zPr u u u ⟨⟩<|fun r1 _ k=>k<|zO<|zT 1 [11] u<|wD 12 (vb (decide (0 ≤ r1))) u<|qM<|
  zH (gv (fun _ k=>k) [0,901] (gq [1])))<|zT 1 [3,4,5,6,7,8,9,10,11] u<|wD 12 (vb false) u<|qM<|zH (gv (fun _ k=>k) [0,901] (gq [0])))<|fun s2 _ k=>k<|zJ u (jA 1 u<|zK<|qO<|qA<|wU<|qO<|qA<|zR u u (fun _ k=>k) [] ⟨⟩)<|
  wK<|qE<|zP<|jB 2 u<|qJ (gv (fun _ k=>k) [0] (gq [0])))<|qT<|qQ<|qY<|qW<|zP<|jA 1 u<|zK<|zR u u (fun _ k=>k) [] ⟨⟩
theorem zQt {qd : Prop} {y0 : wY} : qG qd prog 172 [.agg #[vi y0.1, sv p1 y0.2 c1]] [] [Rl yH p1 c1 y0.2] (zFF y0) fun r K=>∀ p2 c2,K (.agg #[vi r.1, sv p2 r.2 c2]) [] [Rl yH p2 c2 r.2] :=
 qD call172 func172 u fun X=>zB<|wC .s u<|fun b1=>wM .s (.agg #[vi 0, .slice none 0 0])<|fun b2=>zC<|zG<|zB<|qV 0 2 u u u<|qL zLU u (cq [0])<|fun r1 _ k=>k<|zA 1 u<|zC<|zJ u (zB<|zD (.agg #[vi 0, .slice none 0 0])<|
  qI .s 1 u u u<|zC<|zK<|qA<|wW u (lC 1 (.agg #[vi 0, .slice none 0 0]) u u lN) (fun _ k=>k none 0) [] ⟨gn,⟨⟩⟩)<|jC<|zB<|qV 0 2 u u u<|qI .s 1 u u u<|zC<|zK<|
  wW u (lC 1 (.agg #[vi y0.1, sv p1 y0.2 c1]) u u lN) (fun _ k=>k p1 c1) [] (gq [0])
theorem zLN {qd : Prop} {y0 : wY} {y1 : Int} : qG qd prog 108 [.agg #[vi y0.1, sv p1 y0.2 c1], vi y1] [] [Rl yH p1 c1 y0.2, Pt (uT 64 (zU .u8)) 3 0 tJ] (zCW y0 y1) fun r K=>∀ p2 c2,K (sv p2 r c2) [] [Rl (zU .i64) p2 c2 r] :=
 qD call108 func108 u fun X=>zB<|wC .s u<|fun b1=>zA 1 u<|zC<|zB<|qV 0 2 u u u<|qL zQt u (cq [0])<|fun r1 _ k p2 c2=>k<|qI .s 0 u u u<|zC<|zG<|
  uN (fun K=>K [1,2] [] [0,2] [(14, vb ((decide (y1 < 0)) || (decide (r1.1 ≤ y1))))] []) (qN<|zA 3 u<|vR (b := decide (y1 < 0)) 9 u (fun hb1=>zA 4 u<|zD (vb true)<|zQ<|
  wR 14 (vb ((decide (y1 < 0)) || (decide (r1.1 ≤ y1)))) u (by rw [hb1]; rfl)<|zH (gv (fun _ k=>k) [0] (gq [0,2])))<|fun hb1=>zA 1 u<|zL 0 u<|zS 0 u u u<|zA 1 u<|zD (vb (decide (r1.1 ≤ y1)))<|zQ<|
  wR 14 (vb ((decide (y1 < 0)) || (decide (r1.1 ≤ y1)))) u (by rw [hb1]; rfl)<|zH (gv (fun _ k=>k) [0] (gq [0,2])))<|fun _ k=>k<|zJ u (jA 1 u<|zK<|qA<|zR u u (fun _ k=>k none 0) [] ⟨gn,⟨⟩⟩)<|jC<|zB<|qV 0 2 u u u<|
  qL zRo u (cq [0])<|fun r2 _ k p3 c3=>k<|zA 1 u<|wB 0 u u u<|fun x1 b2 o1=>wA false oI (gk 0) u<|qL zTD u (cq [3])<|fun r3 _ k p4 c4=>k<|zA 1 u<|zC<|zK<|zR u u (fun _ k=>k p4 c4) [] (gq [0])
theorem zOb {qd : Prop} {y0 : Int} {y1 : Int} : qG qd prog 222 [.int .u64 y0, .int .u64 y1] [] [] (zKT y0 y1) fun r K=>K (.tuple #[.int .u64 r.1, .int .u64 r.2]) [] [] :=
 qD call222 func222 u fun X=>jA 2 u<|jA 3 u<|zB<|zA 1 u<|zD (.int .u64 (xO .u64 y0 32))<|zA 1 u<|zC<|jA 3 u<|zB<|zA 1 u<|zD (.int .u64 (xO .u64 y1 32))<|zA 1 u<|zC<|jA 4 u<|zB<|zA 4 u<|
  zD (.int .u64 (xO .u64 (IntKind.u64.wrap ((xA .u64 y0 4294967295) * (xA .u64 y1 4294967295))) 32))<|zA 2 u<|zC<|jA 3 u<|zB<|zA 1 u<|
  zD (.int .u64 (xO .u64 (IntKind.u64.wrap ((IntKind.u64.wrap ((xO .u64 y0 32) * (xA .u64 y1 4294967295))) + (xO .u64 (IntKind.u64.wrap ((xA .u64 y0 4294967295) * (xA .u64 y1 4294967295))) 32))) 32))<|zA 1 u<|zC<|jA 6 u<|zB<|
  zA 6 u<|
  zD (.int .u64 (xO .u64 (IntKind.u64.wrap ((xA .u64 (IntKind.u64.wrap ((IntKind.u64.wrap ((xO .u64 y0 32) * (xA .u64 y1 4294967295))) + (xO .u64 (IntKind.u64.wrap ((xA .u64 y0 4294967295) * (xA .u64 y1 4294967295))) 32))) 4294967295) + (IntKind.u64.wrap ((xA .u64 y0 4294967295) * (xO .u64 y1 32))))) 32))<|
  zA 2 u<|zC<|jA 4 u<|zK<|wW u (lT u (lT u lN)) (fun _ k=>k) [] ⟨⟩
theorem zQM {qd : Prop} {y0 : Int} {y1 : Int} : qG qd prog 171 [.int .u64 y0, .int .u64 y1] [] [] (zIu y0 y1) fun r K=>K (.tuple #[.int .u64 r.1, .int .u64 r.2]) [] [] :=
 qD call171 func171 u fun X=>jA 2 u<|zG<|jcf u<|jC<|zB<|zA 2 u<|qL zOb u ⟨⟩<|fun r1 _ k=>k<|zA 5 u<|zC<|jA 4 u<|zK<|wW u (lT u (lT u lN)) (fun _ k=>k) [] ⟨⟩
theorem zGf {qd : Prop} {y0 : List Int} {y1 : Int} : qG qd prog 107 [sv p1 y0 c1, vi y1] [] [Rl (zU .i64) p1 c1 y0] (zBq y0 y1) fun r K=>∀ p2 c2 r_1,K (sv p2 r c2) [r_1] [Al (zU .i64) 3 r_1 p2 c2 r] :=
 qD call107 func107 u fun X=>jA 1 u<|wL (fun s1 K=>K [0,1] [] [0] [] []) (jA 2 u<|zJ u (qN<|jno)<|wK<|zH (gv (fun _ k=>k) [] (gq [0])))<|fun s1 _ k=>k<|zB<|zA 2 u<|zD (.int .u64 (IntKind.u64.wrap (len y0)))<|zA 1 u<|
  zD (.int .u64 (IntKind.u64.wrap (y1)))<|qL zQM u ⟨⟩<|fun r1 _ k=>k<|zA 5 u<|zC<|wL (fun s2 K=>K [0,6] [] [0] [] []) (
  uN (fun K=>K [0,6] [] [0] [(26, vb ((decide (0 < r1.1)) || (decide (9223372036854775807 < r1.2))))] []) (qN<|zA 3 u<|vR (b := decide (0 < r1.1)) 23 u (fun hb1=>zA 2 u<|zD (vb true)<|zQ<|
  wR 26 (vb ((decide (0 < r1.1)) || (decide (9223372036854775807 < r1.2)))) u (by rw [hb1]; rfl)<|zH (gv (fun _ k=>k) [] (gq [0])))<|fun hb1=>zA 2 u<|zD (vb (decide (9223372036854775807 < r1.2)))<|zQ<|
  wR 26 (vb ((decide (0 < r1.1)) || (decide (9223372036854775807 < r1.2)))) u (by rw [hb1]; rfl)<|zH (gv (fun _ k=>k) [] (gq [0])))<|fun _ k=>k<|zJ u (qN<|jno)<|wK<|zH (gv (fun _ k=>k) [] (gq [0])))<|fun s2 _ k=>k<|zB<|zA 1 u<|
  zD (vi (zW (r1.2)))<|jmk .s (e := zU .i64) 3 (0 : Int) (vi 0) vI u u<|fun x1 r_1 p2 c2=>zA 1 u<|zC<|zB<|zA 2 u<|jcp .s 0 0 u (vwW 0 u) (srR (gk 1)) u u<|fun r_2=>zA 1 u<|zC<|zG<|zV<|
  qZ (fun s3 K=>∀ r_3,K [7] [(0, r_3)] [] [(8, vi s3.2)] [Ar (zU .i64) 3 r_3 p2 c2 (List.length x1) s3.1]) (gv (fun _ k=>k r_2) [0] (gq [0]))<|fun s3 _ k r_3=>k<|zG<|jA 4 u<|zJ u (jC<|zV<|yI [] [] 10<|zT 7 [0,1,2] u<|
  jdV 3 0 u u u u<|fun u1 p3 c3 f1=>zT 4 [4,5] u<|jdW 6 0 u u u u<|fun x2=>zX 7<|jcp (.f u) 0 1 u (vwV f1) (srA 0 0 u) u u<|fun r_4=>zO<|zT 0 [8,9] u<|qM<|qE<|qJ (gv (fun _ k=>k r_4) [0] (gq [0])))<|qT<|
  qQ<|qY<|qW<|zP<|jA 2 u<|zK<|jrE 0 4 u u<|zR u u (fun _ k=>k p2 c2 r_3) [0] (gq [0])
theorem zP7 {qd : Prop} {y0 : wY} : qG qd prog 57 [.agg #[vi y0.1, sv p1 y0.2 c1]] [] [Rl yH p1 c1 y0.2, Pt (uT 64 (zU .u8)) 3 0 tJ] (zCx y0) fun r K=>∀ p2 c2 p3 c3,K (.tuple #[sv p2 r.1 c2, sv p3 r.2 c3]) [] [Rl (zU .i64) p2 c2 r.1, Rl (zU .i64) p3 c3 r.2] :=
 qD call57 func57 u fun X=>zB<|wC .s u<|fun b1=>zA 2 u<|zC<|wL (fun s1 K=>∀ p2 c2 r_1 p3 c3 r_2,K [1] [(1, r_1), (2, r_2)] [0,1] [(2, sv p2 s1.1 c2), (3, sv p3 s1.2 c3)] [Al (zU .i64) 3 r_1 p2 c2 s1.1, Al (zU .i64) 3 r_2 p3 c3 s1.2]) (yI [] [0] 9<|
  qH 1 0 u u<|qS 2 0 u u u u<|qH 4 0 u u<|qS 5 0 u u u u<|uR 0 6 (wT (.f u) (e := zU .i64) 3 [vi 3] ([3] : List Int) (rC vI rN)<|fun p4 c4=>zO<|uR 3 6 (
  qB (.f u) [] [] zGf u u u (cq [0])<|fun r1 _ k p5 c5 r_3=>k<|zO<|zT 2 [7] u<|zX 6<|jmk (.f u) (e := zU .i64) 3 (0 : Int) (vi 0) vI u u<|fun x1 r_4 p6 c6=>zO<|zT 0 [8] u<|qM<|
  zH (gv (fun _ k=>k p5 c5 r_3 p6 c6 r_4) [0,1,2] (gq [1,0,3,4]))) <|jcm<|jmk (.f u) (e := zU .i64) 3 (0 : Int) (vi 0) vI u u<|fun x2 r_5 p7 c7=>zO<|zX 3<|qB (.f u) [] [] zGf u u u (cq [1])<|
  fun r2 _ k p8 c8 r_6=>k<|zO<|zT 0 [7,8] u<|qM<|zH (gv (fun _ k=>k p8 c8 r_6 p7 c7 r_5) [0,2,1] (gq [0,1,3,4]))) <|jcm<|jmk (.f u) (e := zU .i64) 3 (0 : Int) (vi 0) vI u u<|fun x3 r_7 p9 c9=>zO<|zX 0<|
  wT (.f u) (e := zU .i64) 3 [vi 3] ([3] : List Int) (rC vI rN)<|fun p10 c10=>zO<|zX 3<|qB (.f u) [] [] zGf u u u (cq [0])<|fun r3 _ k p11 c11 r_8=>k<|zO<|zT 0 [7,8] u<|qM<|
  zH (gv (fun _ k=>k p11 c11 r_8 p9 c9 r_7) [0,2,1] (gq [0,2,3,4])))<|fun s1 _ k p2 c2 r_1 p3 c3 r_2=>k<|zB<|jalA .s (zYQ [] 40 (List.replicate 40 (0 : Int)) [])<|fun b2=>zC<|
  wL (fun s2 K=>K [1,2,3,4] [(3, bx b2 149 (zYQ [] 40 s2 []))] [0,1,2,3] [] []) (zB<|zL 1 u<|zS 0 u u u<|zA 2 u<|zC<|zV<|
  qZ (fun s3 K=>K [1,2,3,4,27,28] [(3, bx b2 149 (zYQ [] 40 s3.2 []))] [0,1,2,3] [(29, vi s3.1)] []) (gv (fun _ k=>k) [0,1,2,3] (gq [0,1,2,3]))<|fun s3 _ k=>k<|jA 1 u<|zG<|zJ u (jC<|zG<|zV<|zB<|wB 2 u u u<|fun x4 b3 o1=>
  wA true zL0 (gk 0) u<|wM .s (.agg #[vi 0, vi 0])<|fun b4=>qI .s 4 u u u<|zC<|qN<|zL 1 u<|zS 4 u u u<|jiL 40 u u<|fun u1 h1=>jlL 3 40 s3.2 [] [] h1 u u<|zA 1 u<|jiL 40 u u<|fun u2 h2=>
  jsL (zW ((zVP s3.2 x4.2) + 1)) .s 3 40 s3.2 [] [] h2 u u u<|zQ<|qE<|zP<|jB 2 u<|qJ (gv (fun _ k=>k) [0,1,2,3] (gq [1,2,3,4])))<|qT<|qQ<|qY<|qW<|zH (gv (fun _ k=>k) [0,1,2,3] (gq [0,1,2,3])))<|fun s2 _ k=>k<|zB<|
  zA 1 u<|vV (zU .i64) 3<|zC<|wL (fun s4 K=>∀ p12 c12 r_9,K [1,2,3,4] [(4, r_9)] [1,2,3,4] [(7, sv p12 s4 c12)] [Al (zU .i64) 3 r_9 p12 c12 s4]) (zB<|zL 0 u<|zS 0 u u u<|zA 1 u<|zC<|zV<|
  qZ (fun s5 K=>∀ p13 c13 r_10,K [1,2,3,4,41] [(4, r_10)] [1,2,3,4] [(7, sv p13 s5.1 c13), (42, vi s5.2)] [Al (zU .i64) 3 r_10 p13 c13 s5.1]) (gv (fun _ k=>k none 0 []) [0,1,2,3,4] (gq [0,1,2,3,4]))<|fun s5 _ k p13 c13 r_10=>k<|jA 1 u<|
  zG<|zJ u (jC<|zG<|zV<|jA 2 u<|zB<|zA 1 u<|jiL 40 u u<|fun u3 h3=>jlL 3 40 s2 [] [] h3 u u<|zA 1 u<|zC<|zJ u (qN<|zA 2 u<|wT .s (e := zU .i64) 3 [vi s5.2] ([s5.2] : List Int) (rC vI rN)<|fun p14 c14=>
  wE .s 4 1 u (gk 0) u u<|fun x5 r_11 p15 c15=>zA 1 u<|zQ<|qE<|zP<|jB 2 u<|qJ (gv (fun _ k=>k p15 c15 r_11) [0,1,2,3,4] (gq [0,3,4,5,6])))<|wK<|qE<|zP<|jB 2 u<|
  qJ (gv (fun _ k=>k p13 c13 r_10) [0,1,2,3,4] (gq [0,1,2,3,4])))<|qT<|qQ<|qY<|qW<|zH (gv (fun _ k=>k p13 c13 r_10) [0,1,2,3,4] (gq [0,1,2,3,4])))<|fun s4 _ k p12 c12 r_9=>k<|zG<|jA 1 u<|zV<|
  qZ (fun s6 K=>∀ r_12 r_13 p16 c16 r_14,K [1,4] [(1, r_12), (2, r_13), (3, bx b2 149 (zYQ [] 40 s6.2.2.2.2 [])), (4, r_14)] [3,4] [(2, .slice p2 (List.length s1.1) c2), (3, .slice p3 (List.length s1.2) c3), (7, sv p16 s6.2.2.1 c16), (9, vi s6.2.2.2.1)] [Ar (zU .i64) 3 r_12 p2 c2 (List.length s1.1) s6.1, Ar (zU .i64) 3 r_13 p3 c3 (List.length s1.2) s6.2.1, Al (zU .i64) 3 r_14 p16 c16 s6.2.2.1]) (gv (fun _ k=>k r_1 r_2 p12 c12 r_9) [0,1,2,3,4] (gq [1,2,0,3,4]))<|
  fun s6 _ k r_12 r_13 p16 c16 r_14=>k<|zG<|jA 3 u<|zJ u (jC<|zG<|zV<|
  wL (fun s7 K=>∀ r_15 r_16,K [1,2,3,4,7,9] [(1, r_15), (2, r_16)] [2,3,4] [] [Ar (zU .i64) 3 r_15 p2 c2 (List.length s1.1) s7.1, Ar (zU .i64) 3 r_16 p3 c3 (List.length s1.2) s7.2]) (jA 3 u<|zV<|
  qZ (fun s8 K=>∀ r_17 r_18,K [1,2,3,4,7,9,59,60] [(1, r_17), (2, r_18)] [2,3,4] [(61, vi s8.2.2)] [Ar (zU .i64) 3 r_17 p2 c2 (List.length s1.1) s8.1, Ar (zU .i64) 3 r_18 p3 c3 (List.length s1.2) s8.2.1]) (gv (fun _ k=>k r_12 r_13) [0,1,2,3,4] (gq [0,1,2,3,4]))<|
  fun s8 _ k r_17 r_18=>k<|jA 1 u<|zG<|zJ u (jC<|zG<|zV<|zB<|uZ 2 u u u<|fun x6 h5 b5 hp1=>jlA 4 2 sI false oI u hp1 h5 u<|zA 1 u<|zC<|qN<|zA 5 u<|uZ 0 u u u<|fun x7 h6 b6 hp2=>
  xK .s 1 0 sI 1 false u hp2 h6 u u vI<|fun r_19=>uZ 2 u u u<|fun x8 h7 b7 hp3=>xK .s 2 2 sI s6.2.2.2.1 false u hp3 h7 u u vI<|fun r_20=>zQ<|qE<|zP<|jB 2 u<|
  qJ (gv (fun _ k=>k r_19 r_20) [0,1,2,3,4] (gq [1,0,4,5,6])))<|qT<|qQ<|qY<|qW<|zH (gv (fun _ k=>k r_17 r_18) [0,1,2,3,4] (gq [0,1,2,3,4])))<|fun s7 _ k r_15 r_16=>k<|zB<|zA 1 u<|vV (zU .i64) 3<|zC<|zG<|jA 3 u<|zV<|
  qZ (fun s9 K=>∀ r_21 r_22 p17 c17 r_23,K [1,2,3,4,9,73,74] [(1, r_21), (2, r_22), (3, bx b2 149 (zYQ [] 40 s9.2.2.2.2 [])), (5, r_23)] [3,4,5] [(12, sv p17 s9.2.2.1 c17), (75, vi s9.2.2.2.1)] [Ar (zU .i64) 3 r_21 p2 c2 (List.length s1.1) s9.1, Ar (zU .i64) 3 r_22 p3 c3 (List.length s1.2) s9.2.1, Al (zU .i64) 3 r_23 p17 c17 s9.2.2.1]) (gv (fun _ k=>k r_15 r_16 none 0 []) [0,1,2,3,4,5] (gq [1,2,0,3,4,5]))<|
  fun s9 _ k r_21 r_22 p17 c17 r_23=>k<|jA 1 u<|zG<|zJ u (jC<|zG<|zV<|zB<|uZ 3 u u u<|fun x9 h8 b8 hp4=>jlA 4 3 sI false oI u hp4 h8 u<|zA 1 u<|zC<|zB<|qV 0 2 u u u<|zA 1 u<|
  qL zLN u (cq [4,5])<|fun r4 _ k p18 c18=>k<|zA 2 u<|zC<|zV<|
  qZ (fun s10 K=>∀ r_24 r_25 p19 c19 r_26,K [1,2,3,4,9,73,74,75,81,82] [(1, r_24), (2, r_25), (3, bx b2 149 (zYQ [] 40 s10.2.2.2.2 [])), (5, r_26)] [4,0,5,6] [(12, sv p19 s10.2.2.1 c19), (83, vi s10.2.2.2.1)] [Ar (zU .i64) 3 r_24 p2 c2 (List.length s1.1) s10.1, Ar (zU .i64) 3 r_25 p3 c3 (List.length s1.2) s10.2.1, Al (zU .i64) 3 r_26 p19 c19 s10.2.2.1]) (gv (fun _ k=>k r_21 r_22 p17 c17 r_23) [0,1,2,3,4,5] (gq [1,2,3,4,0,5,6]))<|
  fun s10 _ k r_24 r_25 p19 c19 r_26=>k<|jA 1 u<|zG<|zJ u (jC<|zG<|zV<|zB<|wB 4 u u u<|fun x10 b9 o2=>wA false oI (gk 0) u<|zA 1 u<|zC<|zG<|zB<|zA 2 u<|uZ 1 u u u<|fun x11 h9 b10 hp5=>
  jlA 1 1 sI false oI u hp5 h9 u<|zA 1 u<|zC<|zJ u (qT<|qQ<|qW<|zP<|jB 2 u<|qJ (gv (fun _ k=>k r_24 r_25 p19 c19 r_26) [0,1,2,3,4,5] (gq [1,2,3,4,5,6,7])))<|jC<|zB<|zA 5 u<|uZ 1 u u u<|fun x12 h10 b11 hp6=>
  xK .s 1 1 sI 2 false u hp6 h10 u u vI<|fun r_27=>uZ 3 u u u<|fun x13 h11 b12 hp7=>xK .s 2 3 sI s6.2.2.2.1 false u hp7 h11 u u vI<|fun r_28=>zC<|zB<|qV 0 2 u u u<|zA 1 u<|qL zLN u (cq [8,9])<|
  fun r5 _ k p20 c20=>k<|zA 2 u<|zC<|zV<|
  qZ (fun s11 K=>∀ p21 c21 r_29,K [1,2,3,4,9,73,74,75,81,82,83,101,102] [(3, bx b2 149 (zYQ [] 40 s11.2.2 [])), (5, r_29)] [2,1,7,8,0,9,10] [(12, sv p21 s11.1 c21), (103, vi s11.2.1)] [Al (zU .i64) 3 r_29 p21 c21 s11.1]) (gv (fun _ k=>k p19 c19 r_26) [0,1,2,3,4,5] (gq [6,2,1,7,8,0,9,10]))<|
  fun s11 _ k p21 c21 r_29=>k<|jA 1 u<|zG<|zJ u (jC<|zG<|zV<|zB<|wB 5 u u u<|fun x14 b13 o3=>wA false oI (gk 0) u<|zA 1 u<|zC<|zB<|zA 1 u<|jiL 40 u u<|fun u4 h12=>jlL 3 40 s11.2.2 [] [] h12 u u<|zA 1 u<|
  jiL 40 u u<|fun u5 h13=>jsL (zW ((zVP s11.2.2 x14) - 1)) .s 3 40 s11.2.2 [] [] h13 u u u<|zC<|wL (fun s12 K=>K [1,2,3,4,9,12,18,73,74,75,81,82,83,101,102,103] [] [2,3,1,4,5,6,7,8] [(122, vb s12)] []) (qN<|zA 1 u<|
  jiL 40 u u<|fun u6 h14=>jlL 3 40 (zV6 40 s11.2.2 x14 (zW ((zVP s11.2.2 x14) - 1))) [] [] h14 u u<|zA 2 u<|wF 116 u (zA 2 u<|uZ 2 u u u<|fun x15 h15 b14 hp8=>jlA 1 2 sI false oI u hp8 h15 u<|zA 1 u<|
  zD (vb (x15 == 3))<|zQ<|zH (gv (fun _ k=>k) [0,1,2,3,4,5] (gq [2,3,1,4,5,6,7,8])))<|zA 5 u<|zD (vb false)<|zQ<|zH (gv (fun _ k=>k) [0,1,2,3,4,5] (gq [2,3,1,4,5,6,7,8])))<|fun s12 _ k=>k<|zJ u (qN<|zA 2 u<|
  wT .s (e := zU .i64) 3 [vi x14] ([x14] : List Int) (rC vI rN)<|fun p22 c22=>wE .s 5 3 u (gk 0) u u<|fun x16 r_30 p23 c23=>zA 1 u<|zQ<|qE<|zP<|jB 2 u<|qJ (gv (fun _ k=>k p23 c23 r_30) [0,1,2,3,4,5] (gq [0,2,3,5,6,7,8,9]))
  )<|wK<|qE<|zP<|jB 2 u<|qJ (gv (fun _ k=>k p21 c21 r_29) [0,1,2,3,4,5] (gq [2,0,1,3,4,5,6,7])))<|qT<|qQ<|qY<|qW<|qE<|zP<|jB 2 u<|qJ (gv (fun _ k=>k r_27 r_28 p21 c21 r_29) [0,1,2,3,4,5] (gq [1,2,0,3,4,6,7])))<|qT<|qQ<|qY<|
  qW<|qE<|zP<|jB 2 u<|qJ (gv (fun _ k=>k r_24 r_25 p19 c19 r_26) [0,1,2,3,4,5] (gq [0,1,2,3,5,6])))<|qT<|qQ<|qY<|qW<|zP<|jB 2 u<|qE<|zP<|jB 3 u<|qJ (gv (fun _ k=>k r_21 r_22 p17 c17 r_23) [0,1,2,3,5] (gq [0,1,2,4,5])))<|
  qT<|qQ<|qY<|qW<|zP<|jA 4 u<|zK<|wX 1 0 u u<|wX 2 2 u u<|jre 1 2 u u<|jre 1 3 u u<|wW u (lT u (lT u lN)) (fun _ k=>k p2 c2 p3 c3) [] (gq [1,0])
theorem zLM {qd : Prop} {y0 : wY} : qG qd prog 26 [.agg #[vi y0.1, sv p1 y0.2 c1]] [] [Rl yH p1 c1 y0.2, Pt (uT 64 (zU .u8)) 3 0 tJ] (zCR y0) fun r K=>∀ p2 c2,K (sv p2 r c2) [] [Rl (zU .i64) p2 c2 r] :=
 qD call26 func26 u fun X=>zB<|wC .s u<|fun b1=>zA 1 u<|zC<|zB<|qV 0 2 u u u<|qL zP7 u (cq [0,1])<|fun r1 _ k p2 c2 p3 c3=>k<|zA 5 u<|zC<|jA 2 u<|zK<|zR u u (fun _ k=>k p2 c2) [] (gq [0])
theorem zGZ {qd : Prop} {y0 : List Int} {y1 : Int} : qG qd prog 25 [sv p1 y0 c1, vi y1] [] [Rl (zU .i64) p1 c1 y0] (zBX y0 y1) fun r K=>∀ p2 c2,K (sv p2 r c2) [] [Rl (zU .i64) p2 c2 r] :=
 qD call25 func25 u fun X=>jA 1 u<|zB<|zA 1 u<|vV (zU .i64) 3<|zC<|zG<|jA 3 u<|zV<|qZ (fun s1 K=>∀ p2 c2 r_1,K [1,8,9] [(0, r_1)] [1] [(5, sv p2 s1.1 c2), (10, vi s1.2)] [Al (zU .i64) 3 r_1 p2 c2 s1.1]) (gv (fun _ k=>k none 0 []) [0] (gq [0,1]))<|
  fun s1 _ k p2 c2 r_1=>k<|jA 1 u<|zG<|zJ u (jC<|zG<|zV<|zB<|zA 1 u<|wB 1 u u u<|fun x1 b1 o1=>wA false oI (gk 0) u<|zA 2 u<|zC<|jA 3 u<|zJ u (qN<|zA 2 u<|
  wT .s (e := zU .i64) 3 [vi s1.2] ([s1.2] : List Int) (rC vI rN)<|fun p3 c3=>wE .s 0 2 u (gk 0) u u<|fun x2 r_2 p4 c4=>zA 1 u<|zQ<|qE<|zP<|jB 2 u<|qJ (gv (fun _ k=>k p4 c4 r_2) [0] (gq [0,4])))<|wK<|qE<|zP<|jB 2 u<|
  qJ (gv (fun _ k=>k p2 c2 r_1) [0] (gq [1,2])))<|qT<|qQ<|qY<|qW<|zP<|jA 2 u<|zK<|wX 0 0 u u<|zR u u (fun _ k=>k p2 c2) [] (gq [0])
theorem zHc {qd : Prop} {y0 : List vO} : qG qd prog 58 [sv p1 y0 c1] [] [Rl wO p1 c1 y0] (zCk y0) fun r K=>∀ p2 c2,K (sv p2 r c2) [] [Rl wO p2 c2 r] :=
 qD call58 func58 u fun X=>jA 1 u<|zG<|zB<|zA 1 u<|jv (fun h=>zXB h u underlying22)<|zC<|jnl (m1 := some ([] : List vO)) u (gk 0) (fun h=>by first|(rw [h];done)|(rw [h];rfl)|(simp [h,wI];done)) (jA 1 u<|zK<|qA<|
  zR u u (fun _ k=>k none 0) [] ⟨gn,⟨⟩⟩)<|jC<|zB<|yP .s (e := wO) 54 [] ([] : List vO) rN<|fun r_1 p2 c2=>zA 1 u<|wE .s 0 0 u (gk 1) u u<|fun x1 r_2 p3 c3=>zA 1 u<|zC<|zK<|wX 0 0 u u<|
  zR u u (fun _ k=>k p3 c3) [] (gq [0])
theorem zCM {qd : Prop} {y0 : List vH} : qG qd prog 60 [sv p1 y0 c1] [] [Rl wJ p1 c1 y0] (zCO y0) fun r K=>∀ p2 c2,K (sv p2 r c2) [] [Rl wJ p2 c2 r] :=
 qD call60 func60 u fun X=>jA 1 u<|zG<|zB<|zA 1 u<|jv (fun h=>zXB h u underlying24)<|zC<|jnl (m1 := some ([] : List vH)) u (gk 0) (fun h=>by first|(rw [h];done)|(rw [h];rfl)|(simp [h,wI];done)) (jA 1 u<|zK<|qA<|
  zR u u (fun _ k=>k none 0) [] ⟨gn,⟨⟩⟩)<|jC<|zB<|yP .s (e := wJ) 59 [] ([] : List vH) rN<|fun r_1 p2 c2=>zA 1 u<|wE .s 0 0 u (gk 1) u u<|fun x1 r_2 p3 c3=>zA 1 u<|zC<|zK<|wX 0 0 u u<|
  zR u u (fun _ k=>k p3 c3) [] (gq [0])
theorem zG9 {qd : Prop} {y0 : List qR} : qG qd prog 59 [sv p1 y0 c1] [] [Rl qP p1 c1 y0] (zE2 y0) fun r K=>∀ p2 c2 r_1,K (sv p2 r c2) [r_1] [Al qP 57 r_1 p2 c2 r] :=
 qD call59 func59 u fun X=>jA 1 u<|zG<|zB<|zA 1 u<|jv (fun h=>zXB h u underlying23)<|zC<|jnl (m1 := some ([] : List qR)) u (gk 0) (fun h=>by first|(rw [h];done)|(rw [h];rfl)|(simp [h,wI];done)) (jA 1 u<|zK<|qA<|vV qP 57<|
  jrE 0 2 u u<|zR u u (fun _ k=>k none 0 []) [0] (gq [0]))<|jC<|zB<|yP .s (e := qP) 57 [] ([] : List qR) rN<|fun r_1 p2 c2=>zA 1 u<|wE .s 0 0 u (gk 1) u u<|fun x1 r_2 p3 c3=>zA 1 u<|zC<|zK<|
  zR u u (fun _ k=>k p3 c3 r_2) [0] (gq [0])
theorem zNb {qd : Prop} {y0 : zM} {y1 : List zN} : qG qd prog 27 [.agg #[sv p1 y0.1 c1, sv p2 y0.2.1 c2, sv p3 y0.2.2 c3], sv p4 y1 c4] [] [Rl wO p1 c1 y0.1, Rl qP p2 c2 y0.2.1, Rl wJ p3 c3 y0.2.2, Rl wN p4 c4 y1] (zCD y0 y1) fun r K=>∀ p5 c5 p6 c6 p7 c7,K (.agg #[sv p5 r.1 c5, sv p6 r.2.1 c6, sv p7 r.2.2 c7]) [] [Rl wO p5 c5 r.1, Rl qP p6 c6 r.2.1, Rl wJ p7 c7 r.2.2] :=
 qD call27 func27 u fun X=>zB<|wC .s u<|fun b1=>wM .s (.agg #[.slice none 0 0, .slice none 0 0, .slice none 0 0])<|fun b2=>zC<|
  wL (fun s1 K=>∀ b3 p5 c5 p6 c6 r_1 p7 c7,K [1,2,4] [(2, bx b3 26 [sv p5 s1.1 c5, sv p6 s1.2.1 c6, sv p7 s1.2.2 c7]), (3, r_1)] [3,0,1,2] [(5, pt b3 0)] [Rl wO p5 c5 s1.1, Al qP 57 r_1 p6 c6 s1.2.1, Rl wJ p7 c7 s1.2.2]) (
  yI [] [0] 12<|qH 0 0 u u<|qS 1 0 u u u u<|qH 3 1 u u<|qS 4 0 u u u u<|qH 6 2 u u<|qS 7 0 u u u u<|uR 2 10 (qB (.f u) [] [] zHc u u u (cq [0])<|fun r1 _ k p8 c8=>k<|
  zO<|uR 5 10 (qB (.f u) [] [] zG9 u u u (cq [2])<|fun r2 _ k p9 c9 r_2=>k<|zO<|uR 8 10 (qB (.f u) [] [] zCM u u u (cq [4])<|fun r3 _ k p10 c10=>k<|zO<|
  wD 9 (.agg #[sv p8 r1 c8, sv p9 r2 c9, sv p10 r3 c10]) u<|zX 10<|wM (.f u) (.agg #[.slice none 0 0, .slice none 0 0, .slice none 0 0])<|fun b4=>zO<|zX 11<|qI (o := 0) (.f u) 3 u u u<|zO<|qM<|
  zH (gv (fun _ k=>k b4 p8 c8 p9 c9 r_2 p10 c10) [0,1,3,2] (gq [2,1,0,6,3,4,5]))) <|wM (.f u) (.agg #[.slice none 0 0, .slice none 0 0, .slice none 0 0])<|fun b5=>zO<|zX 8<|
  qB (.f u) [] [] zCM u u u (cq [4])<|fun r4 _ k p11 c11=>k<|zO<|wD 9 (.agg #[sv p8 r1 c8, sv p9 r2 c9, sv p11 r4 c11]) u<|zX 11<|qI (o := 0) (.f u) 3 u u u<|zO<|qM<|
  zH (gv (fun _ k=>k b5 p8 c8 p9 c9 r_2 p11 c11) [0,1,3,2] (gq [2,1,0,6,3,4,5]))) <|wM (.f u) (.agg #[.slice none 0 0, .slice none 0 0, .slice none 0 0])<|fun b6=>zO<|zX 5<|qB (.f u) [] [] zG9 u u u (cq [2])<|
  fun r5 _ k p12 c12 r_3=>k<|zO<|zX 8<|qB (.f u) [] [] zCM u u u (cq [4])<|fun r6 _ k p13 c13=>k<|zO<|wD 9 (.agg #[sv p8 r1 c8, sv p12 r5 c12, sv p13 r6 c13]) u<|zX 11<|
  qI (o := 0) (.f u) 2 u u u<|zO<|qM<|zH (gv (fun _ k=>k b6 p8 c8 p12 c12 r_3 p13 c13) [0,1,2,3] (gq [2,1,0,6,3,4,5]))) <|wM (.f u) (.agg #[.slice none 0 0, .slice none 0 0, .slice none 0 0])<|fun b7=>zO<|zX 2<|
  qB (.f u) [] [] zHc u u u (cq [0])<|fun r7 _ k p14 c14=>k<|zO<|zX 5<|qB (.f u) [] [] zG9 u u u (cq [2])<|fun r8 _ k p15 c15 r_4=>k<|zO<|zX 8<|
  qB (.f u) [] [] zCM u u u (cq [4])<|fun r9 _ k p16 c16=>k<|zO<|wD 9 (.agg #[sv p14 r7 c14, sv p15 r8 c15, sv p16 r9 c16]) u<|zX 11<|qI (o := 0) (.f u) 2 u u u<|zO<|qM<|
  zH (gv (fun _ k=>k b7 p14 c14 p15 c15 r_4 p16 c16) [0,1,2,3] (gq [2,1,0,6,3,4,5])))<|fun s1 _ k b3 p5 c5 p6 c6 r_1 p7 c7=>k<|
  wL (fun s2 K=>∀ p17 c17 r_5,K [4,5] [(0, []), (2, bx b3 26 [sv p5 s1.1 c5, sv p17 s2 c17, sv p7 s1.2.2 c7]), (3, r_5)] [0,2] [] [Al qP 57 r_5 p17 c17 s2]) (zB<|zL 1 u<|zS 0 u u u<|zA 2 u<|zC<|zV<|
  qZ (fun s3 K=>∀ p18 c18 r_6,K [1,2,4,5,21,22] [(2, bx b3 26 [sv p5 s1.1 c5, sv p18 s3.2 c18, sv p7 s1.2.2 c7]), (3, r_6)] [3,5,4,6,0,2] [(23, vi s3.1)] [Al qP 57 r_6 p18 c18 s3.2]) (gv (fun _ k=>k p6 c6 r_1) [0,1,2,3] (gq [1,3,5,4,6,0,2]))<|
  fun s3 _ k p18 c18 r_6=>k<|jA 1 u<|zG<|zJ u (jC<|zG<|zV<|zB<|zA 1 u<|wB 2 u u u<|fun x1 b8 o1=>wA true zJK (gk 0) u<|fun p19 c19=>wM .s (.agg #[vs [], vb false, vi 0, .slice none 0 0, vb false, vs []])<|fun b9=>
  zA 1 u<|qI .s 4 u u u<|zC<|yE [] [2, 4] 9<|qH 0 1 u u<|qS 1 2 u u u u<|zT 6 [2] u<|qH 3 3 u u<|qS 4 4 u u u u<|zX 5<|qB (.f u) [] [] zH9 u u u (cq [0])<|
  fun r10 _ k p20 c20 r_7=>k<|zO<|uU 6 3 u u u u<|fun x2 h1 b10 hp1=>qH 7 3 u u<|wX 5 0 u u<|zX 8<|xK (.f u) 3 4 sI.snd.snd.snd.fst r10 false u hp1 h1 u u (vL (gk 0))<|fun r_8=>zO<|qM<|zP<|zB<|zL 2 u<|
  zS 0 u u u<|zA 2 u<|zC<|zV<|
  jbL (fun q_=>[bx b1 26 [sv p1 y0.1 c1, sv p2 y0.2.1 c2, sv p3 y0.2.2 c3], bx b2 26 [.slice none 0 0, .slice none 0 0, .slice none 0 0], bx b3 26 [sv p5 s1.1 c5, .slice p18 q_ c18, sv p7 s1.2.2 c7], r_8, bx b9 57 [vs x1.1, vb x1.2.1, vi x1.2.2.1, sv p19 x1.2.2.2.1 c19, vb x1.2.2.2.2.1, vs x1.2.2.2.2.2], []]) (gk 0) u<|
  qZ (fun s4 K=>∀ p21 c21 r_9,K [1,2,4,5,6,7,21,22,23,37,38] [(2, bx b3 26 [sv p5 s1.1 c5, sv p21 s4.2 c21, sv p7 s1.2.2 c7]), (3, r_9)] [7,8,10,9,11,12,4] [(39, vi s4.1)] [Al qP 57 r_9 p21 c21 s4.2]) (gv (fun _ k=>k p18 c18 r_8) [0,1,2,3,4,905] (gq [0,7,8,10,9,11,12,4]))<|
  fun s4 _ k p21 c21 r_9=>k<|jA 1 u<|zG<|zJ u (jC<|zG<|zV<|zB<|wB 3 u u u<|fun x3 b11 o2=>wA true zGe (gk 0) u<|wM .s (.agg #[vs [], vi 0, vb false, vs []])<|fun b12=>qI .s 6 u u u<|zC<|
  wL (fun s5 K=>K [1,2,4,5,6,7,9,21,22,23,37,38,39] [] [2,3,4,5,6,1,7,8] [(58, vb s5)] []) (qN<|zL 1 u<|zS 4 u u u<|zA 2 u<|wF 46 u (zL 0 u<|zS 6 u u u<|zL 0 u<|zS 4 u u u<|zA 1 u<|
  zD (vb (x3.1 == x1.1))<|zA 1 u<|wF 53 u (zA 1 u<|zL 2 u<|qV 6 2 u u u<|qL zLD u (cq [2])<|fun r11 _ k=>k<|zD (vb r11)<|zQ<|zH (gv (fun _ k=>k) [0,1,2,3,4,905,6] (gq [2,3,4,5,6,1,7,8])))<|zA 4 u<|
  zD (vb false)<|zQ<|zH (gv (fun _ k=>k) [0,1,2,3,4,905,6] (gq [2,3,4,5,6,1,7,8])))<|zA 5 u<|zD (vb false)<|zA 5 u<|zD (vb false)<|zQ<|zH (gv (fun _ k=>k) [0,1,2,3,4,905,6] (gq [2,3,4,5,6,1,7,8])))<|fun s5 _ k=>k<|zJ u (qN<|
  zL 1 u<|zS 2 u u u<|zA 1 u<|zL 1 u<|zS 6 u u u<|uZ 5 u u u<|fun x4 h2 b13 hp2=>zL 2 u<|xK .s 3 5 sI.snd.snd.fst x3.2.1 false u hp2 h2 u u vI<|fun r_10=>zQ<|qE<|zP<|jB 2 u<|
  jbL (fun q_=>[bx b1 26 [sv p1 y0.1 c1, sv p2 y0.2.1 c2, sv p3 y0.2.2 c3], bx b2 26 [.slice none 0 0, .slice none 0 0, .slice none 0 0], bx b3 26 [sv p5 s1.1 c5, .slice p21 q_ c21, sv p7 s1.2.2 c7], r_10, bx b9 57 [vs x1.1, vb x1.2.1, vi x1.2.2.1, sv p19 x1.2.2.2.1 c19, vb x1.2.2.2.2.1, vs x1.2.2.2.2.2], [], bx b12 59 [vs x3.1, vi x3.2.1, vb x3.2.2.1, vs x3.2.2.2]]) (gk 0) u<|
  qJ (gv (fun _ k=>k p21 c21 r_10) [0,1,2,3,4,905] (gq [0,2,3,4,5,6,8,9])))<|wK<|qE<|zP<|jB 2 u<|qJ (gv (fun _ k=>k p21 c21 r_9) [0,1,2,3,4,905] (gq [5,0,1,2,3,4,6,7])))<|qT<|qQ<|qY<|qW<|qE<|zP<|jB 2 u<|
  qJ (gv (fun _ k=>k p21 c21 r_9) [0,1,2,3] (gq [0,1,2,4,3,5,6])))<|qT<|qQ<|qY<|qW<|zH (gv (fun _ k=>k p18 c18 r_6) [900,1,2,3] (gq [0,5,6])))<|fun s2 _ k p17 c17 r_5=>k<|zB<|qV 2 3 u u u<|qI .s 1 u u u<|zC<|zK<|
  wX 3 0 u u<|wW u (lC 1 (.agg #[sv p5 s1.1 c5, sv p17 s2 c17, sv p7 s1.2.2 c7]) u u lN) (fun _ k=>k p5 c5 p17 c17 p7 c7) [] (gq [2,0,3])
theorem zLJ {qd : Prop} {y0 : zM} {y1 : vN} : qG qd prog 9 [.agg #[sv p1 y0.1 c1, sv p2 y0.2.1 c2, sv p3 y0.2.2 c3], .agg #[vi y1.1, vi y1.2]] [] [Rl wO p1 c1 y0.1, Rl qP p2 c2 y0.2.1, Rl wJ p3 c3 y0.2.2, Pt (uT 64 (zU .u8)) 3 0 tJ] (zBe y0 y1) fun r K=>∀ p4 c4 p5 c5 p6 c6 p7 c7 p8 c8 p9 c9,K (.tuple #[.agg #[sv p4 r.1.1.1 c4, sv p5 r.1.1.2.1 c5, sv p6 r.1.1.2.2 c6, sv p7 r.1.2.1 c7, sv p8 r.1.2.2.1 c8, vi r.1.2.2.2.1, sv p9 r.1.2.2.2.2 c9], vi r.2]) [] [Rl wO p4 c4 r.1.1.1, Rl qP p5 c5 r.1.1.2.1, Rl wJ p6 c6 r.1.1.2.2, Rl wS p7 c7 r.1.2.1, Rl yX p8 c8 r.1.2.2.1, Rl yH p9 c9 r.1.2.2.2.2] :=
 qD call9 func9 u fun X=>zB<|wC .s u<|fun b1=>wC .s u<|fun b2=>wM .s (.agg #[.slice none 0 0, .slice none 0 0, .slice none 0 0, .slice none 0 0, .slice none 0 0, vi 0, .slice none 0 0])<|fun b3=>zA 1 u<|zC<|zB<|qV 0 3 u u u<|
  qL zPV u (cq [0,1,2])<|fun r1 _ k p4 c4=>k<|zA 5 u<|zC<|zG<|jA 2 u<|zJ u (zB<|zD (.agg #[.slice none 0 0, .slice none 0 0, .slice none 0 0, .slice none 0 0, .slice none 0 0, vi 0, .slice none 0 0])<|zA 1 u<|
  qI .s 2 u u u<|zA 1 u<|zC<|zK<|qA<|
  wW u (lC 2 (.agg #[.slice none 0 0, .slice none 0 0, .slice none 0 0, .slice none 0 0, .slice none 0 0, vi 0, .slice none 0 0]) u u (lT u lN)) (fun _ k=>k none 0 none 0 none 0 none 0 none 0 none 0) [] ⟨gn,gn,gn,gn,gn,gn,⟨⟩⟩)<|jC<|
  zG<|uN (fun K=>K [2,3,4,6] [] [0,1,2,3,4] [(37, vb (if y1.1 != 1 then (y1.1 != 2) || ((y1.2 != 1) && (y1.2 != 2)) else (y1.2 != 1) && (y1.2 != 2)))] []) (qN<|zL 0 u<|zS 1 u u u<|zA 2 u<|
  vR (b := y1.1 != 1) 23 u (fun hb1=>zL 0 u<|zS 1 u u u<|zA 1 u<|zD (vb (y1.1 != 2))<|zA 1 u<|vR (b := y1.1 != 2) 28 u (fun hb2=>zA 8 u<|zD (vb true)<|zQ<|
  wR 37 (vb (if y1.1 != 1 then (y1.1 != 2) || ((y1.2 != 1) && (y1.2 != 2)) else (y1.2 != 1) && (y1.2 != 2))) u (by rw [hb1,hb2]; rfl)<|zH (gv (fun _ k=>k) [0,1,2] (gq [0,1,2,3,4])))<|fun hb2=>zL 1 u<|zS 1 u u u<|zA 2 u<|
  vR (b := y1.2 != 1) 32 u (fun hb3=>zL 1 u<|zS 1 u u u<|zA 1 u<|zD (vb (y1.2 != 2))<|zD (vb (y1.2 != 2))<|zQ<|
  wR 37 (vb (if y1.1 != 1 then (y1.1 != 2) || ((y1.2 != 1) && (y1.2 != 2)) else (y1.2 != 1) && (y1.2 != 2))) u (by rw [hb1,hb2,hb3]; rfl)<|zH (gv (fun _ k=>k) [0,1,2] (gq [0,1,2,3,4])))<|fun hb3=>zA 3 u<|zD (vb false)<|
  zD (vb false)<|zQ<|wR 37 (vb (if y1.1 != 1 then (y1.1 != 2) || ((y1.2 != 1) && (y1.2 != 2)) else (y1.2 != 1) && (y1.2 != 2))) u (by rw [hb1,hb2,hb3]; rfl)<|zH (gv (fun _ k=>k) [0,1,2] (gq [0,1,2,3,4])))<|fun hb1=>zA 3 u<|
  zD (vb false)<|zA 1 u<|zL 1 u<|zS 1 u u u<|zA 2 u<|vR (b := y1.2 != 1) 32 u (fun hb4=>zL 1 u<|zS 1 u u u<|zA 1 u<|zD (vb (y1.2 != 2))<|zD (vb (y1.2 != 2))<|zQ<|
  wR 37 (vb (if y1.1 != 1 then (y1.1 != 2) || ((y1.2 != 1) && (y1.2 != 2)) else (y1.2 != 1) && (y1.2 != 2))) u (by rw [hb1,hb4]; rfl)<|zH (gv (fun _ k=>k) [0,1,2] (gq [0,1,2,3,4])))<|fun hb4=>zA 3 u<|zD (vb false)<|zD (vb false)<|
  zQ<|wR 37 (vb (if y1.1 != 1 then (y1.1 != 2) || ((y1.2 != 1) && (y1.2 != 2)) else (y1.2 != 1) && (y1.2 != 2))) u (by rw [hb1,hb4]; rfl)<|zH (gv (fun _ k=>k) [0,1,2] (gq [0,1,2,3,4])))<|fun _ k=>k<|zJ u (zB<|
  zD (.agg #[.slice none 0 0, .slice none 0 0, .slice none 0 0, .slice none 0 0, .slice none 0 0, vi 0, .slice none 0 0])<|qI .s 2 u u u<|zA 1 u<|zC<|zK<|qA<|
  wW u (lC 2 (.agg #[.slice none 0 0, .slice none 0 0, .slice none 0 0, .slice none 0 0, .slice none 0 0, vi 0, .slice none 0 0]) u u (lT u lN)) (fun _ k=>k none 0 none 0 none 0 none 0 none 0 none 0) [] ⟨gn,gn,gn,gn,gn,gn,⟨⟩⟩)<|jC<|
  zB<|zA 2 u<|qV 0 3 u u u<|zA 1 u<|qV 1 2 u u u<|qL zL3 u (cq [1,2,3,0])<|fun r2 _ k p5 c5=>k<|qL zNA u (cq [0])<|fun r3 _ k p6 c6=>k<|zA 3 u<|wM .s (.agg #[vi 0, .slice none 0 0])<|
  fun b4=>qI .s 3 u u u<|zA 1 u<|zC<|zG<|jA 2 u<|zJ u (zB<|zD (.agg #[.slice none 0 0, .slice none 0 0, .slice none 0 0, .slice none 0 0, .slice none 0 0, vi 0, .slice none 0 0])<|zA 1 u<|qI .s 2 u u u<|
  zA 1 u<|zC<|zK<|qA<|
  wW u (lC 2 (.agg #[.slice none 0 0, .slice none 0 0, .slice none 0 0, .slice none 0 0, .slice none 0 0, vi 0, .slice none 0 0]) u u (lT u lN)) (fun _ k=>k none 0 none 0 none 0 none 0 none 0 none 0) [] ⟨gn,gn,gn,gn,gn,gn,⟨⟩⟩)<|jC<|
  zB<|zA 1 u<|qV 3 2 u u u<|qL zLM u (cq [0,6])<|fun r4 _ k p7 c7=>k<|qL zGZ u (cq [0])<|fun r5 _ k p8 c8=>k<|qL zHb u (cq [4,0])<|fun r6 _ k p9 c9=>k<|zA 1 u<|zC<|zB<|
  qV 0 3 u u u<|zA 1 u<|qL zNb u (cq [6,7,8,0])<|fun r7 _ k p10 c10 p11 c11 p12 c12=>k<|zA 1 u<|
  zD (.agg #[sv p10 r7.1 c10, sv p11 r7.2.1 c11, sv p12 r7.2.2 c12, sv p4 r1.1 c4, .slice none 0 0, vi 0, .slice none 0 0])<|
  wM .s (.agg #[.slice none 0 0, .slice none 0 0, .slice none 0 0, .slice none 0 0, .slice none 0 0, vi 0, .slice none 0 0])<|fun b5=>qI .s 4 u u u<|zC<|zB<|zL 0 u<|qV 4 3 u u u<|zA 1 u<|qV 1 2 u u u<|
  qL zL3 u (cq [0,1,2,8])<|fun r8 _ k p13 c13=>k<|zL 4 u<|qI .s 4 u u u<|zC<|zG<|zB<|zA 2 u<|zL 4 u<|zS 4 u u u<|qL zNA u (cq [0])<|fun r9 _ k p14 c14=>k<|zA 3 u<|zL 5 u<|
  qI .s 4 u u u<|zA 1 u<|zC<|jA 2 u<|zJ u (zB<|zD (.agg #[.slice none 0 0, .slice none 0 0, .slice none 0 0, .slice none 0 0, .slice none 0 0, vi 0, .slice none 0 0])<|zA 1 u<|qI .s 2 u u u<|zA 1 u<|zC<|zK<|
  qA<|wW u (lC 2 (.agg #[.slice none 0 0, .slice none 0 0, .slice none 0 0, .slice none 0 0, .slice none 0 0, vi 0, .slice none 0 0]) u u (lT u lN)) (fun _ k=>k none 0 none 0 none 0 none 0 none 0 none 0) [] ⟨gn,gn,gn,gn,gn,gn,⟨⟩⟩
  )<|jC<|zB<|qV 4 7 u u u<|qI .s 2 u u u<|zA 1 u<|zC<|zK<|
  wW u (lC 2 (.agg #[sv p10 r7.1 c10, sv p11 r7.2.1 c11, sv p12 r7.2.2 c12, sv p4 r1.1 c4, sv p13 r8 c13, vi r9.1.1, sv p14 r9.1.2 c14]) u u (lT u lN)) (fun _ k=>k p10 c10 p11 c11 p12 c12 p4 c4 p13 c13 p14 c14) [] (gq [2,3,4,10,1,0])
theorem zVs {qd : Prop} {y0 : List Int} : qG qd prog 5 [sv p1 y0 c1] [] [Rl (zU .i64) p1 c1 y0] (zM9 y0) fun r K=>∀ b1 p2 c2,K (pt b1 0) [bx b1 61 [sv p2 r.1 c2, vi r.2]] [Rl (zU .i64) p2 c2 r.1] :=
 qD call5 func5 u fun X=>jA 1 u<|zB<|zA 4 u<|jsl (gk 0) u u u (.inl ⟨rfl, rfl⟩) (.inr ⟨_, rfl⟩)<|fun x1 p2 c2=>zD (.agg #[sv p2 x1 c2, vi 0])<|wC .s u<|fun b1=>zA 1 u<|zC<|zK<|zR u u (fun _ k=>k b1 p2 c2) [0] (gq [0])
theorem zLT {qd : Prop} : qG qd prog 8 [] [] [] (zIY) fun r K=>∀ p1 c1 r_1,K (sv p1 r c1) [r_1] [Al zGk 28 r_1 p1 c1 r] :=
 qD call8 func8 u fun X=>jA 1 u<|zB<|zD (.agg #[vi 1, vi 1])<|zD (.agg #[vi 1, vi 2])<|zD (.agg #[vi 2, vi 1])<|zD (.agg #[vi 2, vi 2])<|
  yP .s (e := zGk) 28 [vi 1, vi 1, vi 1, vi 2, vi 2, vi 1, vi 2, vi 2] ([(1, 1), (1, 2), (2, 1), (2, 2)] : List vN) (rC (vP vI vI) (rC (vP vI vI) (rC (vP vI vI) (rC (vP vI vI) rN))))<|fun r_1 p1 c1=>zA 1 u<|zC<|zK<|
  zR u u (fun _ k=>k p1 c1 r_1) [0] (gq [0])
theorem zPQ {qd : Prop} {y0 : zM} : qG qd prog 4 [.agg #[sv p1 y0.1 c1, sv p2 y0.2.1 c2, sv p3 y0.2.2 c3]] [] [Rl wO p1 c1 y0.1, Rl qP p2 c2 y0.2.1, Rl wJ p3 c3 y0.2.2] (zG2 y0) fun r K=>K (vb r) [] [] :=
 qD call4 func4 u fun X=>zB<|wC .s u<|fun b1=>zA 1 u<|zC<|zG<|uN (fun K=>K [1] [] [0,1,2] [(26, vb ((decide (30 < (len y0.1))) || ((decide (30 < (len y0.2.1))) || (decide (20 < (len y0.2.2))))))] []) (qN<|zL 0 u<|zS 0 u u u<|zA 3 u<|
  vR (b := decide (30 < (len y0.1))) 15 u (fun hb1=>zA 4 u<|zD (vb true)<|zA 5 u<|zD (vb true)<|zQ<|
  wR 26 (vb ((decide (30 < (len y0.1))) || ((decide (30 < (len y0.2.1))) || (decide (20 < (len y0.2.2)))))) u (by rw [hb1]; rfl)<|zH (gv (fun _ k=>k) [0] (gq [0,1,2])))<|fun hb1=>zL 1 u<|zS 0 u u u<|zA 2 u<|
  zD (vb (decide (30 < (len y0.2.1))))<|zA 1 u<|vR (b := decide (30 < (len y0.2.1))) 21 u (fun hb2=>zA 4 u<|zD (vb true)<|zQ<|
  wR 26 (vb ((decide (30 < (len y0.1))) || ((decide (30 < (len y0.2.1))) || (decide (20 < (len y0.2.2)))))) u (by rw [hb1,hb2]; rfl)<|zH (gv (fun _ k=>k) [0] (gq [0,1,2])))<|fun hb2=>zL 2 u<|zS 0 u u u<|zA 2 u<|
  zD (vb (decide (20 < (len y0.2.2))))<|zQ<|wR 26 (vb ((decide (30 < (len y0.1))) || ((decide (30 < (len y0.2.1))) || (decide (20 < (len y0.2.2)))))) u (by rw [hb1,hb2]; rfl)<|zH (gv (fun _ k=>k) [0] (gq [0,1,2])))<|fun _ k=>k<|
  zJ u (jA 1 u<|zK<|qA<|zR u u (fun _ k=>k) [] ⟨⟩)<|jC<|zTu (fun s1 K=>K [1] [] [0,1,2] [] []) (zB<|zL 0 u<|zS 0 u u u<|zA 2 u<|zC<|zV<|
  qZ (fun s2 K=>K [1,28,29] [] [0,1,2] [(30, vi s2)] []) (gv (fun _ k=>k) [0] (gq [0,1,2]))<|fun s2 _ k=>k<|jA 1 u<|zG<|zJ u (jC<|zG<|zV<|zB<|wB 0 u u u<|fun x1 b2 o1=>wA true zHM (gk 0) u<|
  wM .s (.agg #[vb false, vs [], vi 0, vi 0, vs []])<|fun b3=>qI .s 1 u u u<|zC<|uN (fun K=>K [1,28,29,30] [(1, [])] [1,2,3] [(44, vb ((decide (50 < (len x1.1.2))) || (decide (50 < (len x1.2.2.2)))))] []) (qN<|zL 0 u<|
  zL 1 u<|zS 1 u u u<|zA 3 u<|vR (b := decide (50 < (len x1.1.2))) 39 u (fun hb3=>zA 4 u<|zD (vb true)<|zQ<|wR 44 (vb ((decide (50 < (len x1.1.2))) || (decide (50 < (len x1.2.2.2))))) u (by rw [hb3]; rfl)<|
  zH (gv (fun _ k=>k) [0,901] (gq [1,2,3])))<|fun hb3=>zL 4 u<|zS 1 u u u<|zA 2 u<|zD (vb (decide (50 < (len x1.2.2.2))))<|zQ<|
  wR 44 (vb ((decide (50 < (len x1.1.2))) || (decide (50 < (len x1.2.2.2))))) u (by rw [hb3]; rfl)<|zH (gv (fun _ k=>k) [0,901] (gq [1,2,3])))<|fun _ k=>k<|zJ u (jA 1 u<|zK<|qO<|qA<|wU<|qO<|wU<|zR u u (fun _ k=>k) [] ⟨⟩)<|
  wK<|qE<|zP<|jB 2 u<|qJ (gv (fun _ k=>k) [0] (gq [0,1,2])))<|qT<|qQ<|qY<|qW<|qJ (gv (fun _ k=>k) [0] (gq [0,1,2])))<|fun s1 _ k=>k<|zTu (fun s3 K=>K [1] [] [0,1,2] [] []) (zB<|zL 1 u<|zS 0 u u u<|zA 2 u<|zC<|zV<|
  qZ (fun s4 K=>K [1,47,48] [] [1,0,2] [(49, vi s4)] []) (gv (fun _ k=>k) [0] (gq [1,0,2]))<|fun s4 _ k=>k<|jA 1 u<|zG<|zJ u (jC<|zG<|zV<|zB<|wB 0 u u u<|fun x2 b4 o2=>wA true zJK (gk 0) u<|fun p4 c4=>
  wM .s (.agg #[vs [], vb false, vi 0, .slice none 0 0, vb false, vs []])<|fun b5=>qI .s 1 u u u<|zC<|zG<|
  uN (fun K=>K [1,6,47,48,49] [] [2,3,4,0] [(69, vb ((decide (8 < (len x2.2.2.2.1))) || ((decide (50 < (len x2.1))) || (decide (50 < (len x2.2.2.2.2.2))))))] []) (qN<|zL 3 u<|zS 1 u u u<|zA 3 u<|
  vR (b := decide (8 < (len x2.2.2.2.1))) 57 u (fun hb4=>zA 4 u<|zD (vb true)<|zA 6 u<|zD (vb true)<|zQ<|
  wR 69 (vb ((decide (8 < (len x2.2.2.2.1))) || ((decide (50 < (len x2.1))) || (decide (50 < (len x2.2.2.2.2.2)))))) u (by rw [hb4]; rfl)<|zH (gv (fun _ k=>k) [0,1] (gq [2,3,4,0])))<|fun hb4=>zL 0 u<|zS 1 u u u<|zA 2 u<|
  zD (vb (decide (50 < (len x2.1))))<|zA 1 u<|vR (b := decide (50 < (len x2.1))) 63 u (fun hb5=>zA 5 u<|zD (vb true)<|zQ<|
  wR 69 (vb ((decide (8 < (len x2.2.2.2.1))) || ((decide (50 < (len x2.1))) || (decide (50 < (len x2.2.2.2.2.2)))))) u (by rw [hb4,hb5]; rfl)<|zH (gv (fun _ k=>k) [0,1] (gq [2,3,4,0])))<|fun hb5=>zL 4 u<|zL 1 u<|zS 1 u u u<|
  zA 2 u<|zD (vb (decide (50 < (len x2.2.2.2.2.2))))<|zQ<|wR 69 (vb ((decide (8 < (len x2.2.2.2.1))) || ((decide (50 < (len x2.1))) || (decide (50 < (len x2.2.2.2.2.2)))))) u (by rw [hb4,hb5]; rfl)<|
  zH (gv (fun _ k=>k) [0,1] (gq [2,3,4,0])))<|fun _ k=>k<|zJ u (jA 1 u<|zK<|qA<|qO<|qA<|wU<|qO<|wU<|zR u u (fun _ k=>k) [] ⟨⟩)<|jC<|zB<|zL 3 u<|zS 1 u u u<|zA 2 u<|zC<|zV<|
  qZ (fun s5 K=>K [1,47,48,49,71,72] [(1, [])] [0,3,1,2] [(73, vi s5)] []) (gv (fun _ k=>k) [0,901] (gq [0,3,1,2]))<|fun s5 _ k=>k<|jA 1 u<|zG<|zJ u (jC<|zG<|zV<|zB<|wB 1 u u u<|fun x3 b6 o3=>wA true yK (gk 0) u<|
  wM .s (.agg #[vb false, vs []])<|fun b7=>qI .s 2 u u u<|zC<|zB<|zL 1 u<|zS 2 u u u<|zA 2 u<|zC<|zJ u (jA 1 u<|zK<|qO<|qA<|wU<|qO<|qO<|qA<|wU<|qO<|wU<|zR u u (fun _ k=>k) [] ⟨⟩)<|wK<|qE<|zP<|
  jB 2 u<|qJ (gv (fun _ k=>k) [0,901] (gq [1,2,3,4])))<|qT<|qQ<|qY<|qW<|qE<|zP<|jB 2 u<|qJ (gv (fun _ k=>k) [0] (gq [0,2,3])))<|qT<|qQ<|qY<|qW<|qJ (gv (fun _ k=>k) [0] (gq [1,0,2])))<|fun s3 _ k=>k<|zG<|zB<|zL 2 u<|
  zS 0 u u u<|zA 2 u<|zC<|zV<|qZ (fun s6 K=>K [84,85] [(0, [])] [2] [(86, vi s6)] []) (gv (fun _ k=>k) [900] (gq [2]))<|fun s6 _ k=>k<|jA 1 u<|zG<|zJ u (jC<|zG<|zV<|zB<|wB 0 u u u<|fun x4 b8 o4=>
  wA true zGe (gk 0) u<|wM .s (.agg #[vs [], vi 0, vb false, vs []])<|fun b9=>qI .s 1 u u u<|zC<|uN (fun K=>K [84,85,86] [(1, [])] [1] [(100, vb ((decide (50 < (len x4.1))) || (decide (50 < (len x4.2.2.2)))))] []) (qN<|
  zL 0 u<|zS 1 u u u<|zA 3 u<|vR (b := decide (50 < (len x4.1))) 94 u (fun hb6=>zA 5 u<|zD (vb true)<|zQ<|wR 100 (vb ((decide (50 < (len x4.1))) || (decide (50 < (len x4.2.2.2))))) u (by rw [hb6]; rfl)<|
  zH (gv (fun _ k=>k) [900,901] (gq [1])))<|fun hb6=>zL 2 u<|zL 1 u<|zS 1 u u u<|zA 2 u<|zD (vb (decide (50 < (len x4.2.2.2))))<|zQ<|
  wR 100 (vb ((decide (50 < (len x4.1))) || (decide (50 < (len x4.2.2.2))))) u (by rw [hb6]; rfl)<|zH (gv (fun _ k=>k) [900,901] (gq [1])))<|fun _ k=>k<|zJ u (jA 1 u<|zK<|qO<|qA<|wU<|qO<|qA<|zR u u (fun _ k=>k) [] ⟨⟩)<|
  wK<|qE<|zP<|jB 2 u<|qJ (gv (fun _ k=>k) [900] (gq [0])))<|qT<|qQ<|qY<|qW<|zP<|jA 1 u<|zK<|zR u u (fun _ k=>k) [] ⟨⟩
theorem zRZ {qd : Prop} {y0 : Int} {y1 : Int} : qG qd prog 41 [vi y0, vi y1] [] [] (zIm y0 y1) fun r K=>K (vi r) [] [] :=
 qD call41 func41 u fun X=>jA 1 u<|zG<|jA 2 u<|zJ u (jA 1 u<|zK<|qA<|zR u u (fun _ k=>k) [] ⟨⟩)<|jC<|zB<|zA 2 u<|uF fun x1 h1=>jv (fun h=>r_remK h u u h1)<|zA 1 u<|zC<|zG<|jA 2 u<|zJ u (jB 4 u<|zP<|jA 2 u<|zK<|
  zR u u (fun _ k=>k) [] ⟨⟩)<|jC<|jA 2 u<|zK<|zR u u (fun _ k=>k) [] ⟨⟩
theorem zLr {qd : Prop} {y0 : Int} : qG qd prog 17 [vi y0] [] [] (zEJ y0) fun r K=>K (vs r) [] [] :=
 qD call17 func17 u fun X=>jA 1 u<|zB<|zA 1 u<|qL zRZ u ⟨⟩<|fun r1 _ k=>k<|zA 1 u<|zD (.int .u8 (IntKind.u8.wrap (zW ((97 : Int) + r1))))<|
  wT .s (e := zU .u8) 5 [.int .u8 (IntKind.u8.wrap (zW ((97 : Int) + r1)))] ([IntKind.u8.wrap (zW ((97 : Int) + r1))] : List Int) (rC vI rN)<|fun p1 c1=>jsb .s (gk 0) u underlying89 underlying5 underlying9<|uF fun x1 h1=>
  jv (fun h=>zQr h u u h1)<|zA 1 u<|zC<|zK<|zR u u (fun _ k=>k) [] ⟨⟩
theorem zRL {qd : Prop} {y0 : uD} : qG qd prog 42 [pt b1 0] [bx b1 61 [sv p1 y0.1 c1, vi y0.2]] [Rl (zU .i64) p1 c1 y0.1] (zHn y0) fun r K=>K (vi r.1) [bx b1 61 [sv p1 y0.1 c1, vi r.2]] [] :=
 qD call42 func42 u fun X=>jA 1 u<|zG<|yE [] [0] 10<|zT 8 [0,1] u<|qH 2 1 u u<|qS 3 0 u u u u<|zT 4 [4,5] u<|qH 6 0 u u<|qS 7 0 u u u u<|zT 0 [8,9] u<|qM<|zP<|zJ u (jA 1 u<|zK<|qA<|zR u u (fun _ k=>k) [0] ⟨⟩)<|
  jC<|zB<|zA 2 u<|zL 1 u<|zS 0 u u u<|zA 2 u<|zL 1 u<|qI .s 0 u u u<|zC<|yE [] [0] 12<|zT 10 [0,1] u<|qH 2 0 u u<|qS 3 0 u u u u<|zT 6 [4,5] u<|qH 6 1 u u<|qS 7 0 u u u u<|
  zT 3 [8] u<|vE 9 0 u u u u<|fun x1 b2 o1=>vD 10 false oI u (gk 0) u<|zT 0 [11] u<|qM<|zP<|zK<|zR u u (fun _ k=>k) [0] ⟨⟩
theorem tC {qd : Prop} {y0 : uD} {y1 : Int} : qG qd prog 13 [pt b1 0, vi y1] [bx b1 61 [sv p1 y0.1 c1, vi y0.2]] [Rl (zU .i64) p1 c1 y0.1] (uM y0 y1) fun r K=>K (vi r.1) [bx b1 61 [sv p1 y0.1 c1, vi r.2]] [] :=
 qD call13 func13 u fun X=>jA 1 u<|zB<|zA 1 u<|qB .s [0] [] zRL u u u (cq [0])<|fun r1 _ k=>k<|zA 1 u<|qL zRZ u ⟨⟩<|fun r2 _ k=>k<|zA 1 u<|zC<|zK<|zR u u (fun _ k=>k) [0] ⟨⟩
theorem zBO {qd : Prop} {y0 : uD} {y1 : Int} : qG qd prog 14 [pt b1 0, vi y1] [bx b1 61 [sv p1 y0.1 c1, vi y0.2]] [Rl (zU .i64) p1 c1 y0.1] (zAf y0 y1) fun r K=>K (.agg #[vb r.1.1, vs r.1.2]) [bx b1 61 [sv p1 y0.1 c1, vi r.2]] [] :=
 qD call14 func14 u fun X=>zB<|wM .s (.agg #[vb false, vs []])<|fun b2=>zC<|zB<|zA 3 u<|qB .s [0] [] tC u u u (cq [0])<|fun r1 _ k=>k<|zA 1 u<|zC<|zB<|zA 4 u<|uF fun x1 h1=>jv (fun h=>r_quoK h u u h1)<|zA 1 u<|
  zD (.int .u8 (IntKind.u8.wrap (zW ((97 : Int) + x1))))<|wT .s (e := zU .u8) 5 [.int .u8 (IntKind.u8.wrap (zW ((97 : Int) + x1)))] ([IntKind.u8.wrap (zW ((97 : Int) + x1))] : List Int) (rC vI rN)<|fun p2 c2=>
  jsb .s (gk 0) u underlying89 underlying5 underlying9<|zD (.agg #[vb ((xA .i64 r1.1 1) == 1), vs (zPR ([IntKind.u8.wrap (zW ((97 : Int) + x1))] : List Int))])<|qI .s 1 u u u<|zC<|zK<|
  wW u (lC 1 (.agg #[vb ((xA .i64 r1.1 1) == 1), vs (zPR ([IntKind.u8.wrap (zW ((97 : Int) + x1))] : List Int))]) u u lN) (fun _ k=>k) [0] ⟨⟩
theorem zJX {qd : Prop} {y0 : uD} {y1 : Int} {y2 : Int} : qG qd prog 19 [pt b1 0, vi y1, vi y2] [bx b1 61 [sv p1 y0.1 c1, vi y0.2]] [Rl (zU .i64) p1 c1 y0.1] (zBn y0 y1 y2) fun r K=>∀ p2 c2,K (sv p2 r.1 c2) [bx b1 61 [sv p1 y0.1 c1, vi r.2]] [Rl wN p2 c2 r.1] :=
 qD call19 func19 u fun X=>jA 1 u<|zB<|zA 1 u<|vV wN 52<|zC<|zG<|zB<|zA 3 u<|qB .s [0] [] tC u u u (cq [1])<|fun r1 _ k=>k<|zA 1 u<|zC<|zV<|
  qZ (fun s1 K=>∀ p2 c2 r_1,K [0,2] [(0, bx b1 61 [sv p1 y0.1 c1, vi s1.2.2]), (1, r_1)] [1] [(7, sv p2 s1.1 c2), (8, vi s1.2.1)] [Al wN 52 r_1 p2 c2 s1.1]) (gv (fun _ k=>k none 0 []) [0,1] (gq [0,1]))<|fun s1 _ k p2 c2 r_1=>k<|zG<|
  jA 2 u<|zJ u (jC<|zG<|zV<|qN<|zA 3 u<|qB .s [0] [] zBO u u u (cq [1])<|fun r2 _ k=>k<|wT .s (e := wN) 52 [vb r2.1.1, vs r2.1.2] ([r2.1] : List zN) (rC (vP vB vS) rN)<|fun p3 c3=>
  wE .s 1 1 u (gk 0) u u<|fun x1 r_2 p4 c4=>zA 1 u<|zQ<|qE<|zP<|jB 3 u<|qJ (gv (fun _ k=>k p4 c4 r_2) [0,1] (gq [0,3])))<|qT<|qQ<|qY<|qW<|zP<|jA 2 u<|zK<|wX 1 0 u u<|zR u u (fun _ k=>k p2 c2) [0] (gq [0])
theorem zDj {qd : Prop} {y0 : uD} {y1 : List Int} : qG qd prog 15 [pt b1 0, sv p2 y1 c2] [bx b1 61 [sv p1 y0.1 c1, vi y0.2]] [Rl (zU .i64) p1 c1 y0.1, Rl (zU .i64) p2 c2 y1] (zBy y0 y1) fun r K=>K (vi r.1) [bx b1 61 [sv p1 y0.1 c1, vi r.2]] [] :=
 qD call15 func15 u fun X=>jA 1 u<|zB<|zA 4 u<|qB .s [0] [] tC u u u (cq [0])<|fun r1 _ k=>k<|wB 1 u u u<|fun x1 b2 o1=>wA false oI (gk 0) u<|zA 1 u<|zC<|zK<|zR u u (fun _ k=>k) [0] ⟨⟩
theorem zCj {qd : Prop} {y0 : uD} {y1 : List qC} : qG qd prog 16 [pt b1 0, sv p2 y1 c2] [bx b1 61 [sv p1 y0.1 c1, vi y0.2]] [Rl (zU .i64) p1 c1 y0.1, Rl vM p2 c2 y1] (zB8 y0 y1) fun r K=>K (vs r.1) [bx b1 61 [sv p1 y0.1 c1, vi r.2]] [] :=
 qD call16 func16 u fun X=>jA 1 u<|zB<|zA 4 u<|qB .s [0] [] tC u u u (cq [0])<|fun r1 _ k=>k<|wB 1 u u u<|fun x1 b2 o1=>wA false oS (gk 0) u<|zA 1 u<|zC<|zK<|zR u u (fun _ k=>k) [0] ⟨⟩
theorem zSN {qd : Prop} {y0 : List zN} : qG qd prog 18 [sv p1 y0 c1] [] [Rl wN p1 c1 y0] (zIc y0) fun r K=>∀ p2 c2,K (sv p2 r c2) [] [Rl wN p2 c2 r] :=
 qD call18 func18 u fun X=>jA 1 u<|zB<|zA 1 u<|vV wN 52<|zC<|zG<|jA 3 u<|zV<|qZ (fun s1 K=>∀ p2 c2 r_1,K [7,8] [(0, r_1)] [1] [(3, sv p2 s1.1 c2), (9, vi s1.2)] [Al wN 52 r_1 p2 c2 s1.1]) (gv (fun _ k=>k none 0 []) [0] (gq [0,1]))<|
  fun s1 _ k p2 c2 r_1=>k<|jA 1 u<|zG<|zJ u (jC<|zG<|zV<|zB<|wB 1 u u u<|fun x1 b1 o1=>wA true yK (gk 0) u<|wM .s (.agg #[vb false, vs []])<|fun b2=>qI .s 1 u u u<|zC<|jA 1 u<|
  wL (fun s2 K=>K [3,5,7,8,9] [] [1,2] [(6, vi s2)] []) (zV<|qZ (fun s3 K=>K [3,5,7,8,9] [] [1,2] [(6, vi s3)] []) (gv (fun _ k=>k) [0,1] (gq [1,2]))<|fun s3 _ k=>k<|zG<|wL (fun s4 K=>K [3,5,6,7,8,9] [] [0,1] [(48, vb s4)] []) (
  yI [] [0, 1] 36<|zT 31 [0,1,2,3,4] u<|wF 17 u (zT 29 [5,6] u<|uU 7 0 u u u u<|fun x2 h1 b3 hp1=>qH 8 1 u u<|xY 9 0 0 sI.snd false oS u u hp1 h1 u<|qH 10 1 u u<|qS 11 1 u u u u<|
  zT 22 [12,13] u<|wF 26 u (zT 2 [14,15,16,17,18,19,20,21,22,23,24,25,26,27,28,29,30,31,32,33] u<|wD 34 (vb true) u<|wD 35 (vb true) u<|qM<|zH (gv (fun _ k=>k) [0,1] (gq [0,1])))<|zT 20 [14,15] u<|
  uU 16 0 u u u u<|fun x3 h2 b4 hp2=>qH 17 1 u u<|xY 18 0 0 sI.snd false oS u u hp2 h2 u<|qH 19 1 u u<|qS 20 1 u u u u<|zT 13 [21,22] u<|wF 35 u (zT 11 [23,24] u<|uU 25 0 u u u u<|
  fun x4 h3 b5 hp3=>qH 26 0 u u<|xY 27 0 0 sI.fst false oB u u hp3 h3 u<|zT 7 [28] u<|wD 29 (vb (!x4.1)) u<|zT 5 [30] u<|wF 43 u (qH 31 0 u u<|qS 32 1 u u u u<|wD 33 (vb x1.1) u<|wD 34 (vb x1.1) u<|
  wD 35 (vb x1.1) u<|qM<|zH (gv (fun _ k=>k) [0,1] (gq [0,1])))<|zT 3 [31,32] u<|wD 33 (vb false) u<|wD 34 (vb false) u<|wD 35 (vb false) u<|qM<|zH (gv (fun _ k=>k) [0,1] (gq [0,1])))<|zT 7 [23,24,25,26,27,28] u<|
  wD 29 (vb false) u<|zT 3 [30,31,32] u<|wD 33 (vb false) u<|wD 34 (vb false) u<|wD 35 (vb false) u<|qM<|zH (gv (fun _ k=>k) [0,1] (gq [0,1])))<|
  zT 1 [5,6,7,8,9,10,11,12,13,14,15,16,17,18,19,20,21,22,23,24,25,26,27,28,29,30,31,32,33,34] u<|wD 35 (vb false) u<|qM<|zH (gv (fun _ k=>k) [0,1] (gq [0,1])))<|fun s4 _ k=>k<|zJ u (jC<|zV<|jB 3 u<|qE<|
  qJ (gv (fun _ k=>k) [0,1] (gq [0,1])))<|qT<|qQ<|qY<|qW<|zH (gv (fun _ k=>k) [0,1] (gq [0,1])))<|fun s2 _ k=>k<|zG<|wL (fun s5 K=>K [3,5,6,7,8,9] [] [0,1] [(62, vb s5)] []) (yI [] [0, 1] 12<|zT 7 [0,1,2,3,4] u<|wF 55 u (
  zT 5 [5,6] u<|uU 7 0 u u u u<|fun x5 h4 b6 hp4=>xY 8 0 0 sI true yK u u hp4 h4 u<|vQ 9 1 2 u u u u<|wD 10 (vb (x5 == x1)) u<|wD 11 (vb (x5 == x1)) u<|qM<|zH (gv (fun _ k=>k) [0,1] (gq [0,1])))<|
  zT 1 [5,6,7,8,9,10] u<|wD 11 (vb false) u<|qM<|zH (gv (fun _ k=>k) [0,1] (gq [0,1])))<|fun s5 _ k=>k<|zJ u (qT<|qQ<|qW<|zP<|jB 2 u<|qJ (gv (fun _ k=>k p2 c2 r_1) [0] (gq [0,1])))<|jC<|zB<|zA 1 u<|
  zD (.agg #[vb false, vs []])<|wT .s (e := wN) 52 [vb false, vs []] ([(false, [])] : List zN) (rC (vP vB vS) rN)<|fun p3 c3=>wE .s 0 1 u (gk 0) u u<|fun x6 r_2 p4 c4=>zA 1 u<|zC<|yE [] [] 8<|zT 5 [0,1,2] u<|
  jdV 3 0 u u u u<|fun u1 p5 c5 f1=>zT 2 [4,5] u<|jdV 6 0 u u u u<|fun u2 p6 c6 f2=>zX 7<|jcp (.f u) 0 0 u (vwV f1) (srV 0 0 f2 u) u u<|fun r_3=>zO<|qM<|zP<|qN<|zA 2 u<|qV 1 2 u u u<|
  uZ 0 u u u<|fun x7 h6 b7 hp5=>xK .s 0 0 sI x1 true u hp5 h6 u u (vP vB vS)<|fun r_4=>zQ<|qE<|zP<|jB 2 u<|jrE 0 3 u u<|qJ (gv (fun _ k=>k p4 c4 r_4) [0] (gq [0,6])))<|qT<|qQ<|qY<|qW<|zP<|jA 2 u<|zK<|
  wX 0 0 u u<|zR u u (fun _ k=>k p2 c2) [] (gq [0])
theorem zQh {qd : Prop} {y0 : uD} {y1 : Int} {y2 : Int} {y3 : Int} : qG qd prog 6 [pt b1 0, vi y1, vi y2, vi y3] [bx b1 61 [sv p1 y0.1 c1, vi y0.2]] [Rl (zU .i64) p1 c1 y0.1] (zHN y0 y1 y2 y3) fun r K=>∀ p2 c2 p3 c3 p4 c4,K (.agg #[sv p2 r.1.1 c2, sv p3 r.1.2.1 c3, sv p4 r.1.2.2 c4]) [bx b1 61 [sv p1 y0.1 c1, vi r.2]] [Rl wO p2 c2 r.1.1, Rl qP p3 c3 r.1.2.1, Rl wJ p4 c4 r.1.2.2] :=
 qD call6 func6 u fun X=>zB<|wM .s (.agg #[.slice none 0 0, .slice none 0 0, .slice none 0 0])<|fun b2=>zC<|zB<|wM .s (.agg #[.slice none 0 0, .slice none 0 0, .slice none 0 0])<|fun b3=>vV wO 54<|vV qP 57<|vV wJ 59<|zC<|
  wL (fun s1 K=>∀ p2 c2 r_1,K [0,1,3,8,9] [(0, bx b1 61 [sv p1 y0.1 c1, vi s1.1]), (2, bx b3 26 [sv p2 s1.2 c2, sv none ([] : List qR) 0, sv none ([] : List vH) 0]), (3, r_1)] [3,1,0] [] [Al wO 54 r_1 p2 c2 s1.2]) (zB<|
  zA 3 u<|qB .s [0] [] tC u u u (cq [3])<|fun r1 _ k=>k<|zA 1 u<|zC<|zV<|
  qZ (fun s2 K=>∀ p3 c3 r_2,K [0,1,3,8,9] [(0, bx b1 61 [sv p1 y0.1 c1, vi s2.2.1]), (2, bx b3 26 [sv p3 s2.2.2 c3, sv none ([] : List qR) 0, sv none ([] : List vH) 0]), (3, r_2)] [3,1,0] [(10, vi s2.1)] [Al wO 54 r_2 p3 c3 s2.2.2]) (gv (fun _ k=>k none 0 []) [0,1,2,3,4,5] (gq [2,3,1,0]))<|
  fun s2 _ k p3 c3 r_2=>k<|zG<|jA 2 u<|zJ u (jC<|zG<|zV<|zB<|zA 2 u<|qB .s [0] [] zBO u u u (cq [1])<|fun r2 _ k=>k<|zA 1 u<|
  wT .s (e := zU .i64) 3 [vi 1, vi 2, vi 2, vi 2, vi 3] ([1, 2, 2, 2, 3] : List Int) (rC vI (rC vI (rC vI (rC vI (rC vI rN)))))<|fun p4 c4=>qB .s [0] [] zDj u u u (cq [2,0])<|fun r3 _ k=>k<|zA 1 u<|
  wT .s (e := vM) 9 [vs [], vs [], vs [97, 110, 110], vs [98, 111, 98]] ([[], [], [97, 110, 110], [98, 111, 98]] : List qC) (rC vS (rC vS (rC vS (rC vS rN))))<|fun p5 c5=>qB .s [0] [] zCj u u u (cq [3,0])<|fun r4 _ k=>
  k<|zD (.agg #[vb r2.1.1, vs r2.1.2, vi r3.1, vi 0, vs r4.1])<|wM .s (.agg #[vb false, vs [], vi 0, vi 0, vs []])<|fun b4=>qI .s 6 u u u<|zC<|
  wL (fun s3 K=>K [0,1,3,8,9,10,11] [(0, bx b1 61 [sv p1 y0.1 c1, vi s3.1]), (6, bx b4 54 [vb r2.1.1, vs r2.1.2, vi r3.1, vi s3.2, vs r4.1])] [3,2,4,5] [] []) (zB<|zL 2 u<|zS 6 u u u<|zA 1 u<|zC<|zJ u (qN<|zA 1 u<|
  qB .s [0] [] tC u u u (cq [3])<|fun r5 _ k=>k<|zL 3 u<|qI .s 6 u u u<|zQ<|zH (gv (fun _ k=>k) [0,1,2,3,4,5,6] (gq [3,2,4,5])))<|wK<|zH (gv (fun _ k=>k) [0,1,2,3,4,5,6] (gq [3,2,4,5])))<|fun s3 _ k=>k<|
  jA 1 u<|wL (fun s4 K=>K [0,1,3,8,9,10,11] [] [0,1,2,3] [(12, vb s4)] []) (zB<|zL 0 u<|zS 2 u u u<|zA 2 u<|zC<|zV<|
  qZ (fun s5 K=>K [0,1,3,8,9,10,11,44,45] [] [1,0,2,3] [(12, vb s5.1), (46, vi s5.2)] []) (gv (fun _ k=>k) [0,1,2,3,4,5,6] (gq [1,0,2,3]))<|fun s5 _ k=>k<|jA 1 u<|zG<|zJ u (jC<|zG<|zV<|zB<|uZ 0 u u u<|fun x1 h1 b5 hp1=>
  jlA 3 0 sI true zHM u hp1 h1 u<|wM .s (.agg #[vb false, vs [], vi 0, vi 0, vs []])<|fun b6=>qI .s 7 u u u<|zC<|jjqK (fun K=>K [0,1,3,8,9,10,11,44,45,46] [(7, [])] [0,1,2,3] [(12, vb (s5.1 || (x1.1 == r2.1)))] []) (qN<|
  zA 2 u<|vR (b := s5.1) 51 u (fun hb1=>zA 5 u<|zD (vb true)<|zA 1 u<|zQ<|wR 12 (vb (s5.1 || (x1.1 == r2.1))) u (by rw [hb1]; rfl)<|zH (gv (fun _ k=>k) [0,1,2,3,4,5,6,907] (gq [0,1,2,3])))<|fun hb1=>zL 0 u<|
  qV 7 2 u u u<|zL 0 u<|qV 6 2 u u u<|zD (vb (x1.1 == r2.1))<|zD (vb (x1.1 == r2.1))<|zA 1 u<|zQ<|wR 12 (vb (s5.1 || (x1.1 == r2.1))) u (by rw [hb1]; rfl)<|zH (gv (fun _ k=>k) [0,1,2,3,4,5,6,907] (gq [0,1,2,3])))<|
  fun _ k=>k<|qE<|zP<|jB 2 u<|qJ (gv (fun _ k=>k) [0,1,2,3,4,5,6] (gq [0,1,2,3])))<|qT<|qQ<|qY<|qW<|zH (gv (fun _ k=>k) [0,1,2,3,4,5,6] (gq [1,0,2,3])))<|fun s4 _ k=>k<|jA 2 u<|zJ u (qN<|zL 0 u<|zS 2 u u u<|
  qV 6 5 u u u<|wT .s (e := wO) 54 [vb r2.1.1, vs r2.1.2, vi r3.1, vi s3.2, vs r4.1] ([(r2.1, r3.1, s3.2, r4.1)] : List vO) (rC (vP (vP vB vS) (vP vI (vP vI vS))) rN)<|fun p6 c6=>wE .s 3 2 u (gk 0) u u<|
  fun x2 r_3 p7 c7=>zL 0 u<|qI .s 2 u u u<|zQ<|qE<|zP<|jB 3 u<|qJ (gv (fun _ k=>k p7 c7 r_3) [0,1,2,3,4,5] (gq [0,2,4,5])))<|wK<|qE<|zP<|jB 3 u<|qJ (gv (fun _ k=>k p3 c3 r_2) [0,1,2,3,4,5] (gq [1,0,2,3])))<|qT<|qQ<|
  qY<|qW<|zH (gv (fun _ k=>k p3 c3 r_2) [0,1,2,3,4,5] (gq [0,1,2,3])))<|fun s1 _ k p2 c2 r_1=>k<|
  wL (fun s6 K=>∀ p8 c8 r_4,K [0,1,8,9] [(0, bx b1 61 [sv p1 y0.1 c1, vi s6.1]), (2, bx b3 26 [sv p2 s1.2 c2, sv p8 s6.2 c8, sv none ([] : List vH) 0]), (4, r_4)] [1,0,3] [] [Al qP 57 r_4 p8 c8 s6.2]) (zB<|zA 3 u<|
  qB .s [0] [] tC u u u (cq [1])<|fun r6 _ k=>k<|zA 1 u<|zC<|zV<|
  qZ (fun s7 K=>∀ p9 c9 r_5,K [0,1,3,8,9] [(0, bx b1 61 [sv p1 y0.1 c1, vi s7.2.1]), (2, bx b3 26 [sv p2 s1.2 c2, sv p9 s7.2.2 c9, sv none ([] : List vH) 0]), (4, r_5)] [1,0,3] [(15, vi s7.1)] [Al qP 57 r_5 p9 c9 s7.2.2]) (gv (fun _ k=>k none 0 []) [0,1,2,3,4,5] (gq [2,1,0,3]))<|
  fun s7 _ k p9 c9 r_5=>k<|zG<|jA 2 u<|zJ u (jC<|zG<|zV<|zB<|zL 1 u<|zS 2 u u u<|zA 1 u<|qL zLr u ⟨⟩<|fun r7 _ k=>k<|zA 1 u<|qB .s [0] [] tC u u u (cq [1])<|fun r8 _ k=>k<|zA 3 u<|
  qB .s [0] [] zJX u u u (cq [1])<|fun r9 _ k p10 c10=>k<|qL zSN u (cq [0])<|fun r10 _ k p11 c11=>k<|zA 2 u<|qB .s [0] [] zBO u u u (cq [3])<|fun r11 _ k=>k<|
  zD (.agg #[vs r7, vb (r8.1 == 0), vi 0, sv p11 r10 c11, vb r11.1.1, vs r11.1.2])<|wM .s (.agg #[vs [], vb false, vi 0, .slice none 0 0, vb false, vs []])<|fun b7=>qI .s 6 u u u<|zC<|
  wL (fun s8 K=>K [0,1,3,8,9,15,16] [(0, bx b1 61 [sv p1 y0.1 c1, vi s8.1]), (6, bx b7 57 [vs r7, vb (r8.1 == 0), vi s8.2, sv p11 r10 c11, vb r11.1.1, vs r11.1.2])] [3,4,2,5,0] [] []) (zB<|zL 1 u<|zS 6 u u u<|zA 1 u<|zC<|
  zJ u (qN<|zA 1 u<|qB .s [0] [] tC u u u (cq [3])<|fun r12 _ k=>k<|zL 2 u<|qI .s 6 u u u<|zQ<|zH (gv (fun _ k=>k) [0,1,2,3,4,5,6] (gq [3,4,2,5,0])))<|wK<|
  zH (gv (fun _ k=>k) [0,1,2,3,4,5,6] (gq [3,4,2,5,0])))<|fun s8 _ k=>k<|
  wL (fun s9 K=>K [0,1,3,8,9,15,16] [(0, bx b1 61 [sv p1 y0.1 c1, vi s9.1]), (6, bx b7 57 [vs r7, vb (r8.1 == 0), vi s8.2, sv p11 r10 c11, vb s9.2.1, vs s9.2.2])] [0,1,2,3,4] [] []) (zB<|zA 1 u<|
  qB .s [0] [] tC u u u (cq [0])<|fun r13 _ k=>k<|zA 1 u<|zC<|zJ u (qN<|zA 1 u<|qB .s [0] [] tC u u u (cq [0])<|fun r14 _ k=>k<|zA 3 u<|qB .s [0] [] tC u u u (cq [0])<|
  fun r15 _ k=>k<|qL zLr u ⟨⟩<|fun r16 _ k=>k<|zD (.agg #[vb (decide (0 < r14.1)), vs r16])<|zL 4 u<|qI .s 6 u u u<|zQ<|zH (gv (fun _ k=>k) [0,1,2,3,4,5,6] (gq [0,1,2,3,4])))<|wK<|
  zH (gv (fun _ k=>k) [0,1,2,3,4,5,6] (gq [0,1,2,3,4])))<|fun s9 _ k=>k<|qN<|zL 1 u<|zS 2 u u u<|qV 6 6 u u u<|
  wT .s (e := qP) 57 [vs r7, vb (r8.1 == 0), vi s8.2, sv p11 r10 c11, vb s9.2.1, vs s9.2.2] ([(r7, r8.1 == 0, s8.2, r10, (s9.2.1, s9.2.2))] : List qR) (rC (vP vS (vP vB (vP vI (vP (vL (gk 4)) (vP vB vS))))) rN)<|fun p12 c12=>
  wE .s 4 3 u (gk 0) u u<|fun x3 r_6 p13 c13=>zL 1 u<|qI .s 2 u u u<|zQ<|qE<|zP<|jB 3 u<|qJ (gv (fun _ k=>k p13 c13 r_6) [0,1,2,3,4,5] (gq [0,2,3,5])))<|qT<|qQ<|qY<|qW<|
  zH (gv (fun _ k=>k p9 c9 r_5) [0,1,2,3,4,5] (gq [0,1,2,3])))<|fun s6 _ k p8 c8 r_4=>k<|
  wL (fun s10 K=>∀ p14 c14 r_7,K [8,9] [(0, bx b1 61 [sv p1 y0.1 c1, vi s10.1]), (2, bx b3 26 [sv p2 s1.2 c2, sv p8 s6.2 c8, sv p14 s10.2 c14]), (5, r_7)] [1,2,0] [] [Al wJ 59 r_7 p14 c14 s10.2]) (zB<|zA 1 u<|
  qB .s [0] [] tC u u u (cq [1])<|fun r17 _ k=>k<|zA 1 u<|zC<|zV<|
  qZ (fun s11 K=>∀ p15 c15 r_8,K [0,1,8,9] [(0, bx b1 61 [sv p1 y0.1 c1, vi s11.2.1]), (2, bx b3 26 [sv p2 s1.2 c2, sv p8 s6.2 c8, sv p15 s11.2.2 c15]), (5, r_8)] [1,2,0] [(17, vi s11.1)] [Al wJ 59 r_8 p15 c15 s11.2.2]) (gv (fun _ k=>k none 0 []) [0,1,2,3,4,5] (gq [3,1,2,0]))<|
  fun s11 _ k p15 c15 r_8=>k<|zG<|uN (fun K=>K [0,1,8,9,17] [] [1,2,3,0] [(123, vb ((decide (0 < s11.1)) && (decide (0 < (len s6.2)))))] []) (qN<|zA 3 u<|vR (b := decide (0 < s11.1)) 118 u (fun hb2=>zL 1 u<|zS 2 u u u<|
  zA 2 u<|zD (vb (decide (0 < (len s6.2))))<|zQ<|wR 123 (vb ((decide (0 < s11.1)) && (decide (0 < (len s6.2))))) u (by rw [hb2]; rfl)<|zH (gv (fun _ k=>k) [0,1,2,3,4,5] (gq [1,2,3,0])))<|fun hb2=>zA 4 u<|zD (vb false)<|zQ<|
  wR 123 (vb ((decide (0 < s11.1)) && (decide (0 < (len s6.2))))) u (by rw [hb2]; rfl)<|zH (gv (fun _ k=>k) [0,1,2,3,4,5] (gq [1,2,3,0])))<|fun _ k=>k<|zJ u (jC<|zG<|zV<|
  wL (fun s12 K=>∀ b8 p16 c16,K [0,1,8,9,17] [(0, bx b1 61 [sv p1 y0.1 c1, vi s12.1]), (6, bx b8 57 [vs s12.2.1, vb s12.2.2.1, vi s12.2.2.2.1, sv p16 s12.2.2.2.2.1 c16, vb s12.2.2.2.2.2.1, vs s12.2.2.2.2.2.2])] [0,1,2,3] [(18, pt b8 0)] [Rl wN p16 c16 s12.2.2.2.2.1]) (
  yI [] [2, 4] 11<|qH 0 1 u u<|qS 1 2 u u u u<|zT 8 [2] u<|qH 3 1 u u<|qS 4 2 u u u u<|zT 5 [5] u<|uR 6 9 (qB (.f u) [0] [] tC u u u (cq [0])<|fun r18 _ k=>k<|zO<|
  uU 7 2 u u u u<|fun x4 h4 b9 hp2=>xY 8 4 2 sI true zJK u u hp2 h4 u<|fun p17 c17=>zX 9<|wM (.f u) (.agg #[vs [], vb false, vi 0, .slice none 0 0, vb false, vs []])<|fun b10=>zO<|zX 10<|
  qI (o := 0) (.f u) 6 u u u<|zO<|qM<|zH (gv (fun _ k=>k b10 p17 c17) [0,1,2,3,4,5,6] (gq [0,1,2,3,4]))) <|wM (.f u) (.agg #[vs [], vb false, vi 0, .slice none 0 0, vb false, vs []])<|fun b11=>zO<|zX 6<|
  qB (.f u) [0] [] tC u u u (cq [0])<|fun r19 _ k=>k<|zO<|uU 7 2 u u u u<|fun x5 h5 b12 hp3=>xY 8 4 2 sI true zJK u u hp3 h5 u<|fun p18 c18=>zX 10<|qI (o := 0) (.f u) 6 u u u<|zO<|qM<|
  zH (gv (fun _ k=>k b11 p18 c18) [0,1,2,3,4,5,6] (gq [0,1,2,3,4])))<|fun s12 _ k b8 p16 c16=>k<|zB<|zL 1 u<|zS 6 u u u<|zA 1 u<|zC<|zJ u (yI [13] [2, 6] 14<|qH 0 2 u u<|qS 1 2 u u u u<|qH 2 0 u u<|
  qS 3 6 u u u u<|zT 7 [4,6,7] u<|zX 5<|qB (.f u) [0] [] tC u u u (cq [1])<|fun r20 _ k=>k<|zO<|zX 8<|qB (.f u) [0] [] zBO u u u (cq [1])<|fun r21 _ k=>k<|zO<|
  wD 9 (.agg #[vs s12.2.1, vi r20.1, vb r21.1.1, vs r21.1.2]) u<|zX 10<|wT (.f u) (e := wJ) 59 [vs s12.2.1, vi r20.1, vb r21.1.1, vs r21.1.2] ([(s12.2.1, r20.1, r21.1)] : List vH) (rC (vP vS (vP vI (vP vB vS))) rN)<|
  fun p19 c19=>zO<|zX 11<|wE (.f u) 5 5 u (gk 0) u u<|fun x6 r_9 p20 c20=>zO<|qH 12 2 u u<|zX 13<|qI (o := 2) (.f u) 2 u u u<|jdb [] [2, 6]<|qM<|qE<|zP<|jB 3 u<|
  qJ (gv (fun _ k=>k p20 c20 r_9) [0,1,2,3,4,5] (gq [0,3,4,5])))<|wK<|qE<|zP<|jB 3 u<|qJ (gv (fun _ k=>k p15 c15 r_8) [0,1,2,3,4,5] (gq [4,1,2,3])))<|qT<|qQ<|qY<|qW<|zH (gv (fun _ k=>k p15 c15 r_8) [0,1,2,3,4,5] (gq [3,0,1,2])))<|
  fun s10 _ k p14 c14 r_7=>k<|zB<|qV 2 3 u u u<|qI .s 1 u u u<|zC<|zK<|wX 3 2 u u<|wX 4 4 u u<|wX 5 2 u u<|
  wW u (lC 1 (.agg #[sv p2 s1.2 c2, sv p8 s6.2 c8, sv p14 s10.2 c14]) u u lN) (fun _ k=>k p2 c2 p8 c8 p14 c14) [0] (gq [2,1,0])
theorem zMs {qd : Prop} {y0 : uD} : qG qd prog 20 [pt b1 0] [bx b1 61 [sv p1 y0.1 c1, vi y0.2]] [Rl (zU .i64) p1 c1 y0.1] (zFI y0) fun r K=>K (.agg #[vb r.1.1, vs r.1.2]) [bx b1 61 [sv p1 y0.1 c1, vi r.2]] [] :=
 qD call20 func20 u fun X=>zB<|wM .s (.agg #[vb false, vs []])<|fun b2=>zC<|zB<|zA 1 u<|qB .s [0] [] tC u u u (cq [0])<|fun r1 _ k=>k<|zA 2 u<|
  wT .s (e := vM) 9 [vs [], vs [97], vs [65], vs [97, 49, 95], vs [49, 97], vs [95, 97], vs [97, 98, 99, 100, 101, 102, 103, 104, 105, 106, 107, 108], vs [97, 98, 99, 100, 101, 102, 103, 104, 105, 106, 107, 108, 109], vs [97, 126], vs [126, 97], vs [97, 32, 98]] ([[], [97], [65], [97, 49, 95], [49, 97], [95, 97], [97, 98, 99, 100, 101, 102, 103, 104, 105, 106, 107, 108], [97, 98, 99, 100, 101, 102, 103, 104, 105, 106, 107, 108, 109], [97, 126], [126, 97], [97, 32, 98]] : List qC) (rC vS (rC vS (rC vS (rC vS (rC vS (rC vS (rC vS (rC vS (rC vS (rC vS (rC vS rN)))))))))))<|
  fun p2 c2=>qB .s [0] [] zCj u u u (cq [1,0])<|fun r2 _ k=>k<|zD (.agg #[vb (r1.1 == 1), vs r2.1])<|qI .s 1 u u u<|zC<|zK<|wW u (lC 1 (.agg #[vb (r1.1 == 1), vs r2.1]) u u lN) (fun _ k=>k) [0] ⟨⟩
theorem zMM {qd : Prop} {y0 : uD} {y1 : zM} : qG qd prog 7 [pt b1 0, .agg #[sv p2 y1.1 c2, sv p3 y1.2.1 c3, sv p4 y1.2.2 c4]] [bx b1 61 [sv p1 y0.1 c1, vi y0.2]] [Rl (zU .i64) p1 c1 y0.1, Rl wO p2 c2 y1.1, Rl qP p3 c3 y1.2.1, Rl wJ p4 c4 y1.2.2] (zDR y0 y1) fun r K=>∀ p5 c5 p6 c6 p7 c7,K (.agg #[sv p5 r.1.1 c5, sv p6 r.1.2.1 c6, sv p7 r.1.2.2 c7]) [bx b1 61 [sv p1 y0.1 c1, vi r.2]] [Rl wO p5 c5 r.1.1, Rl qP p6 c6 r.1.2.1, Rl wJ p7 c7 r.1.2.2] :=
 qD call7 func7 u fun X=>zB<|wC .s u<|fun b2=>wM .s (.agg #[.slice none 0 0, .slice none 0 0, .slice none 0 0])<|fun b3=>zC<|
  wL (fun s1 K=>∀ b4 p5 c5 r_1 p6 c6 r_2 p7 c7 r_3,K [0,3,4] [(3, bx b4 26 [sv p5 s1.1 c5, sv p6 s1.2.1 c6, sv p7 s1.2.2 c7]), (4, r_1), (5, r_2), (6, r_3)] [0,1,2,3] [(5, pt b4 0)] [Al wO 54 r_1 p5 c5 s1.1, Nst (e := qP) (f := wN) sI.snd.snd.snd.fst 57 52 r_2 p6 c6 (List.length s1.2.1) s1.2.1, Al wJ 59 r_3 p7 c7 s1.2.2]) (
  yI [] [1] 11<|qH 1 0 u u<|qS 2 1 u u u u<|qH 5 2 u u<|qS 6 1 u u u u<|jd3 0 4 9 (yP (.f u) (e := wO) 54 [] ([] : List vO) rN<|fun r_4 p8 c8=>zO<|jd3 3 4 9 (wE (.f u) 3 0 u (gk 2) u u<|
  fun x1 r_5 p9 c9=>zO<|uR 4 9 (yP (.f u) (e := wJ) 59 [] ([] : List vH) rN<|fun r_6 p10 c10=>zO<|uR 7 9 (wE (.f u) 4 0 u (gk 6) u u<|fun x2 r_7 p11 c11=>zO<|
  wD 8 (.agg #[sv p9 x1 c9, .slice none 0 0, sv p11 x2 c11]) u<|jnR (e := qP) (f := wN) sI.snd.snd.snd.fst 57 52<|zX 9<|wM (.f u) (.agg #[.slice none 0 0, .slice none 0 0, .slice none 0 0])<|fun b5=>zO<|zX 10<|
  qI (o := 0) (.f u) 6 u u u<|zO<|qM<|zH (gv (fun _ k=>k b5 p9 c9 r_5 none 0 [] p11 c11 r_7) [0,1,2,6,3,5,4] (gq [3,0,1,5,6,7,8]))) <|wM (.f u) (.agg #[.slice none 0 0, .slice none 0 0, .slice none 0 0])<|fun b6=>zO<|zX 7<|
  wE (.f u) 4 0 u (gk 6) u u<|fun x3 r_8 p12 c12=>zO<|wD 8 (.agg #[sv p9 x1 c9, .slice none 0 0, sv p12 x3 c12]) u<|jnR (e := qP) (f := wN) sI.snd.snd.snd.fst 57 52<|zX 10<|qI (o := 0) (.f u) 5 u u u<|zO<|
  qM<|zH (gv (fun _ k=>k b6 p9 c9 r_5 none 0 [] p12 c12 r_8) [0,1,2,5,3,6,4] (gq [3,0,1,5,6,7,8]))) <|wM (.f u) (.agg #[.slice none 0 0, .slice none 0 0, .slice none 0 0])<|fun b7=>zO<|zX 4<|
  yP (.f u) (e := wJ) 59 [] ([] : List vH) rN<|fun r_9 p13 c13=>zO<|zX 7<|wE (.f u) 5 0 u (gk 6) u u<|fun x4 r_10 p14 c14=>zO<|wD 8 (.agg #[sv p9 x1 c9, .slice none 0 0, sv p14 x4 c14]) u<|
  jnR (e := qP) (f := wN) sI.snd.snd.snd.fst 57 52<|zX 10<|qI (o := 0) (.f u) 4 u u u<|zO<|qM<|zH (gv (fun _ k=>k b7 p9 c9 r_5 none 0 [] p14 c14 r_10) [0,1,2,4,3,6,5] (gq [3,0,1,5,6,7,8]))) (
  yP (.f u) (e := wJ) 59 [] ([] : List vH) rN<|fun r_11 p15 c15=>zO<|uR 3 9 (wE (.f u) 3 1 u (gk 3) u u<|fun x5 r_12 p16 c16=>zO<|uR 7 9 (wE (.f u) 4 1 u (gk 6) u u<|fun x6 r_13 p17 c17=>zO<|
  wD 8 (.agg #[sv p16 x5 c16, .slice none 0 0, sv p17 x6 c17]) u<|jnR (e := qP) (f := wN) sI.snd.snd.snd.fst 57 52<|zX 9<|wM (.f u) (.agg #[.slice none 0 0, .slice none 0 0, .slice none 0 0])<|fun b8=>zO<|zX 10<|
  qI (o := 0) (.f u) 6 u u u<|zO<|qM<|zH (gv (fun _ k=>k b8 p16 c16 r_12 none 0 [] p17 c17 r_13) [0,1,2,6,3,5,4] (gq [2,0,1,5,6,7,8]))) <|wM (.f u) (.agg #[.slice none 0 0, .slice none 0 0, .slice none 0 0])<|fun b9=>zO<|
  zX 7<|wE (.f u) 4 1 u (gk 6) u u<|fun x7 r_14 p18 c18=>zO<|wD 8 (.agg #[sv p16 x5 c16, .slice none 0 0, sv p18 x7 c18]) u<|jnR (e := qP) (f := wN) sI.snd.snd.snd.fst 57 52<|zX 10<|
  qI (o := 0) (.f u) 5 u u u<|zO<|qM<|zH (gv (fun _ k=>k b9 p16 c16 r_12 none 0 [] p18 c18 r_14) [0,1,2,5,3,6,4] (gq [2,0,1,5,6,7,8]))) <|wM (.f u) (.agg #[.slice none 0 0, .slice none 0 0, .slice none 0 0])<|fun b10=>zO<|
  zX 3<|wE (.f u) 3 1 u (gk 3) u u<|fun x8 r_15 p19 c19=>zO<|zX 7<|wE (.f u) 4 1 u (gk 6) u u<|fun x9 r_16 p20 c20=>zO<|wD 8 (.agg #[sv p19 x8 c19, .slice none 0 0, sv p20 x9 c20]) u<|
  jnR (e := qP) (f := wN) sI.snd.snd.snd.fst 57 52<|zX 10<|qI (o := 0) (.f u) 5 u u u<|zO<|qM<|zH (gv (fun _ k=>k b10 p19 c19 r_15 none 0 [] p20 c20 r_16) [0,1,2,5,3,6,4] (gq [2,0,1,5,6,7,8]))) <|
  wM (.f u) (.agg #[.slice none 0 0, .slice none 0 0, .slice none 0 0])<|fun b11=>zO<|uR 3 4 (wE (.f u) 3 0 u (gk 2) u u<|fun x10 r_17 p21 c21=>zO<|zX 4<|yP (.f u) (e := wJ) 59 [] ([] : List vH) rN<|
  fun r_18 p22 c22=>zO<|zX 7<|wE (.f u) 5 0 u (gk 6) u u<|fun x11 r_19 p23 c23=>zO<|wD 8 (.agg #[sv p21 x10 c21, .slice none 0 0, sv p23 x11 c23]) u<|jnR (e := qP) (f := wN) sI.snd.snd.snd.fst 57 52<|zX 10<|
  qI (o := 0) (.f u) 4 u u u<|zO<|qM<|zH (gv (fun _ k=>k b11 p21 c21 r_17 none 0 [] p23 c23 r_19) [0,1,2,4,3,6,5] (gq [3,0,1,5,6,7,8]))) <|yP (.f u) (e := wJ) 59 [] ([] : List vH) rN<|fun r_20 p24 c24=>zO<|
  zX 3<|wE (.f u) 3 1 u (gk 3) u u<|fun x12 r_21 p25 c25=>zO<|zX 7<|wE (.f u) 5 1 u (gk 6) u u<|fun x13 r_22 p26 c26=>zO<|wD 8 (.agg #[sv p25 x12 c25, .slice none 0 0, sv p26 x13 c26]) u<|
  jnR (e := qP) (f := wN) sI.snd.snd.snd.fst 57 52<|zX 10<|qI (o := 0) (.f u) 4 u u u<|zO<|qM<|zH (gv (fun _ k=>k b11 p25 c25 r_21 none 0 [] p26 c26 r_22) [0,1,2,4,3,6,5] (gq [2,0,1,5,6,7,8]))) (
  yP (.f u) (e := wJ) 59 [] ([] : List vH) rN<|fun r_23 p27 c27=>zO<|uR 0 9 (yP (.f u) (e := wO) 54 [] ([] : List vO) rN<|fun r_24 p28 c28=>zO<|uR 3 9 (wE (.f u) 4 0 u (gk 3) u u<|
  fun x14 r_25 p29 c29=>zO<|uR 7 9 (wE (.f u) 3 2 u (gk 6) u u<|fun x15 r_26 p30 c30=>zO<|wD 8 (.agg #[sv p29 x14 c29, .slice none 0 0, sv p30 x15 c30]) u<|jnR (e := qP) (f := wN) sI.snd.snd.snd.fst 57 52<|zX 9<|
  wM (.f u) (.agg #[.slice none 0 0, .slice none 0 0, .slice none 0 0])<|fun b12=>zO<|zX 10<|qI (o := 0) (.f u) 6 u u u<|zO<|qM<|
  zH (gv (fun _ k=>k b12 p29 c29 r_25 none 0 [] p30 c30 r_26) [0,1,2,6,4,5,3] (gq [2,0,1,5,6,7,8]))) <|wM (.f u) (.agg #[.slice none 0 0, .slice none 0 0, .slice none 0 0])<|fun b13=>zO<|zX 7<|wE (.f u) 3 2 u (gk 6) u u<|
  fun x16 r_27 p31 c31=>zO<|wD 8 (.agg #[sv p29 x14 c29, .slice none 0 0, sv p31 x16 c31]) u<|jnR (e := qP) (f := wN) sI.snd.snd.snd.fst 57 52<|zX 10<|qI (o := 0) (.f u) 5 u u u<|zO<|qM<|
  zH (gv (fun _ k=>k b13 p29 c29 r_25 none 0 [] p31 c31 r_27) [0,1,2,5,4,6,3] (gq [2,0,1,5,6,7,8]))) <|wM (.f u) (.agg #[.slice none 0 0, .slice none 0 0, .slice none 0 0])<|fun b14=>zO<|zX 3<|wE (.f u) 4 0 u (gk 3) u u<|
  fun x17 r_28 p32 c32=>zO<|zX 7<|wE (.f u) 3 2 u (gk 6) u u<|fun x18 r_29 p33 c33=>zO<|wD 8 (.agg #[sv p32 x17 c32, .slice none 0 0, sv p33 x18 c33]) u<|jnR (e := qP) (f := wN) sI.snd.snd.snd.fst 57 52<|zX 10<|
  qI (o := 0) (.f u) 5 u u u<|zO<|qM<|zH (gv (fun _ k=>k b14 p32 c32 r_28 none 0 [] p33 c33 r_29) [0,1,2,5,4,6,3] (gq [2,0,1,5,6,7,8]))) <|wM (.f u) (.agg #[.slice none 0 0, .slice none 0 0, .slice none 0 0])<|fun b15=>zO<|
  zX 0<|yP (.f u) (e := wO) 54 [] ([] : List vO) rN<|fun r_30 p34 c34=>zO<|zX 3<|wE (.f u) 5 0 u (gk 3) u u<|fun x19 r_31 p35 c35=>zO<|zX 7<|wE (.f u) 3 2 u (gk 6) u u<|fun x20 r_32 p36 c36=>zO<|
  wD 8 (.agg #[sv p35 x19 c35, .slice none 0 0, sv p36 x20 c36]) u<|jnR (e := qP) (f := wN) sI.snd.snd.snd.fst 57 52<|zX 10<|qI (o := 0) (.f u) 4 u u u<|zO<|qM<|
  zH (gv (fun _ k=>k b15 p35 c35 r_31 none 0 [] p36 c36 r_32) [0,1,2,4,5,6,3] (gq [2,0,1,5,6,7,8]))) <|wM (.f u) (.agg #[.slice none 0 0, .slice none 0 0, .slice none 0 0])<|fun b16=>zO<|uR 0 4 (
  yP (.f u) (e := wO) 54 [] ([] : List vO) rN<|fun r_33 p37 c37=>zO<|uR 3 4 (wE (.f u) 4 0 u (gk 2) u u<|fun x21 r_34 p38 c38=>zO<|zX 4<|yP (.f u) (e := wJ) 59 [] ([] : List vH) rN<|
  fun r_35 p39 c39=>zO<|zX 7<|wE (.f u) 5 0 u (gk 6) u u<|fun x22 r_36 p40 c40=>zO<|wD 8 (.agg #[sv p38 x21 c38, .slice none 0 0, sv p40 x22 c40]) u<|jnR (e := qP) (f := wN) sI.snd.snd.snd.fst 57 52<|zX 10<|
  qI (o := 0) (.f u) 3 u u u<|zO<|qM<|zH (gv (fun _ k=>k b16 p38 c38 r_34 none 0 [] p40 c40 r_36) [0,1,2,3,4,6,5] (gq [3,0,1,5,6,7,8]))) <|yP (.f u) (e := wJ) 59 [] ([] : List vH) rN<|fun r_37 p41 c41=>zO<|
  zX 3<|wE (.f u) 4 1 u (gk 3) u u<|fun x23 r_38 p42 c42=>zO<|zX 7<|wE (.f u) 5 1 u (gk 6) u u<|fun x24 r_39 p43 c43=>zO<|wD 8 (.agg #[sv p42 x23 c42, .slice none 0 0, sv p43 x24 c43]) u<|
  jnR (e := qP) (f := wN) sI.snd.snd.snd.fst 57 52<|zX 10<|qI (o := 0) (.f u) 3 u u u<|zO<|qM<|zH (gv (fun _ k=>k b16 p42 c42 r_38 none 0 [] p43 c43 r_39) [0,1,2,3,4,6,5] (gq [2,0,1,5,6,7,8]))) <|
  yP (.f u) (e := wJ) 59 [] ([] : List vH) rN<|fun r_40 p44 c44=>zO<|zX 0<|yP (.f u) (e := wO) 54 [] ([] : List vO) rN<|fun r_41 p45 c45=>zO<|zX 3<|wE (.f u) 5 0 u (gk 3) u u<|
  fun x25 r_42 p46 c46=>zO<|zX 7<|wE (.f u) 4 2 u (gk 6) u u<|fun x26 r_43 p47 c47=>zO<|wD 8 (.agg #[sv p46 x25 c46, .slice none 0 0, sv p47 x26 c47]) u<|jnR (e := qP) (f := wN) sI.snd.snd.snd.fst 57 52<|zX 10<|
  qI (o := 0) (.f u) 3 u u u<|zO<|qM<|zH (gv (fun _ k=>k b16 p46 c46 r_42 none 0 [] p47 c47 r_43) [0,1,2,3,5,6,4] (gq [2,0,1,5,6,7,8])))<|fun s1 _ k b4 p5 c5 r_1 p6 c6 r_2 p7 c7 r_3=>k<|
  wL (fun s2 K=>∀ p48 c48 r_44,K [0,4,5] [(1, []), (3, bx b4 26 [sv p5 s1.1 c5, sv p48 s2 c48, sv p7 s1.2.2 c7]), (5, r_44)] [3,0,2] [] [Nst (e := qP) (f := wN) sI.snd.snd.snd.fst 57 52 r_44 p48 c48 (List.length s2) s2]) (zB<|
  zL 1 u<|zS 1 u u u<|zA 2 u<|zC<|zV<|
  qZ (fun s3 K=>∀ p49 c49 r_45,K [0,4,5,20,21] [(1, []), (3, bx b4 26 [sv p5 s1.1 c5, sv p49 s3.2 c49, sv p7 s1.2.2 c7]), (5, r_45)] [5,3,0,2] [(22, vi s3.1)] [Nst (e := qP) (f := wN) sI.snd.snd.snd.fst 57 52 r_45 p49 c49 (List.length s3.2) s3.2]) (gv (fun _ k=>k p6 c6 r_2) [0,901,2,3,4,5,6] (gq [1,5,3,0,2]))<|
  fun s3 _ k p49 c49 r_45=>k<|jA 1 u<|zG<|zJ u (jC<|zG<|zV<|zB<|wB 1 u u u<|fun x27 b17 o1=>wA true zJK (gk 0) u<|fun p50 c50=>wM .s (.agg #[vs [], vb false, vi 0, .slice none 0 0, vb false, vs []])<|fun b18=>
  qI .s 7 u u u<|zC<|zB<|yP .s (e := wN) 52 [] ([] : List zN) rN<|fun r_46 p51 c51=>zL 3 u<|zS 7 u u u<|wE .s 8 0 u (gk 1) u u<|fun x28 r_47 p52 c52=>zL 3 u<|qI .s 7 u u u<|zC<|qN<|
  zL 1 u<|zS 3 u u u<|qV 7 6 u u u<|
  wT .s (e := zTw 6) 57 [vs x27.1, vb x27.2.1, vi x27.2.2.1, sv p52 x28 c52, vb x27.2.2.2.2.1, vs x27.2.2.2.2.2] [[vs x27.1, vb x27.2.1, vi x27.2.2.1, sv p52 x28 c52, vb x27.2.2.2.2.1, vs x27.2.2.2.2.2]] (rC (rw1 (e := qP)) rN)<|
  fun p53 c53=>jnA .s (u0 := (x27.1, x27.2.1, x27.2.2.1, x28, x27.2.2.2.2)) 5 8 5 1 u (gk 0) u (vP vS (vP vB (vP vI (vP (vL gn) (vP vB vS))))) u u u<|fun x29 r_48 p54 c54=>zL 1 u<|qI .s 3 u u u<|zQ<|qE<|zP<|jB 2 u<|
  qJ (gv (fun _ k=>k p54 c54 r_48) [0,901,2,3,4,5,6] (gq [0,7,8,9,10])))<|qT<|qQ<|qY<|qW<|zH (gv (fun _ k=>k p49 c49 r_45) [0,901,2,3,4,5,6] (gq [0,2,3,4])))<|fun s2 _ k p48 c48 r_44=>k<|zG<|zB<|zA 1 u<|zL 0 u<|
  zS 3 u u u<|zA 1 u<|qB .s [0] [] tC u u u (cq [1])<|fun r1 _ k=>k<|zA 1 u<|zC<|wL (fun s4 K=>K [0,4,5,8] [(0, bx b1 61 [sv p1 y0.1 c1, vi s4.2])] [1,2,0,3] [(51, vb s4.1)] []) (qN<|zL 0 u<|
  zS 3 u u u<|zA 3 u<|wF 47 u (zA 1 u<|qB .s [0] [] tC u u u (cq [1])<|fun r2 _ k=>k<|zA 1 u<|zD (vb (r2.1 == 0))<|zQ<|zH (gv (fun _ k=>k) [0,901,2,3,4,5,6] (gq [1,2,0,3])))<|zA 3 u<|zD (vb false)<|
  zQ<|zH (gv (fun _ k=>k) [0,901,2,3,4,5,6] (gq [1,2,0,3])))<|fun s4 _ k=>k<|zJ u (
  wL (fun s5 K=>∀ p55 c55 r_49 p56 c56 r_50,K [4,5] [(0, bx b1 61 [sv p1 y0.1 c1, vi s5.1]), (3, bx b4 26 [sv p55 s5.2.1 c55, sv p56 s5.2.2 c56, sv p7 s1.2.2 c7]), (4, r_49), (5, r_50)] [0,3] [] [Al wO 54 r_49 p55 c55 s5.2.1, Al qP 57 r_50 p56 c56 s5.2.2]) (
  zB<|zA 1 u<|qB .s [0] [] tC u u u (cq [0])<|fun r3 _ k=>k<|zC<|zV<|jA 2 u<|zJ u (jun ⟨fun _ _=>rfl,fun _=>rfl⟩ 5 2 u<|fun r_51=>yI [] [3] 9<|qH 0 0 u u<|qS 1 3 u u u u<|zT 5 [2,3] u<|zX 4<|
  qB (.f u) [0] [] tC u u u (cq [1])<|fun r4 _ k=>k<|zO<|zT 3 [5] u<|uU 6 2 u u u u<|fun x30 h29 b19 hp1=>qH 7 2 u u<|zX 8<|xK (.f u) 4 2 sI.snd.fst (zW (r4.1 - 1)) false u hp1 h29 u u vI<|
  fun r_52=>zO<|qM<|qE<|jbL (fun q_=>[bx b1 61 [sv p1 y0.1 c1, vi r4.2], [], bx b3 26 [.slice none 0 0, .slice none 0 0, .slice none 0 0], bx b4 26 [.slice p5 q_ c5, sv p48 s2 c48, sv p7 s1.2.2 c7], r_52, r_51, r_3]) (gk 0) u<|
  zH (gv (fun _ k=>k p5 c5 r_52 p48 c48 r_51) [0,901,2,3,4,5,6] (gq [0,2,3,6])))<|jA 2 u<|zJ u (jun ⟨fun _ _=>rfl,fun _=>rfl⟩ 5 2 u<|fun r_53=>yI [] [3] 9<|qH 0 0 u u<|qS 1 3 u u u u<|zT 5 [2,3] u<|zX 4<|
  wT (.f u) (e := zU .i64) 3 [vi (-1), vi 0, vi 9, vi 10] ([(-1), 0, 9, 10] : List Int) (rC vI (rC vI (rC vI (rC vI rN))))<|fun p57 c57=>zO<|zX 5<|qB (.f u) [0] [] zDj u u u (cq [2,0])<|fun r5 _ k=>k<|zO<|
  uU 6 3 u u u u<|fun x31 h30 b20 hp2=>qH 7 3 u u<|zX 8<|xK (.f u) 4 3 sI.snd.snd.fst r5.1 false u hp2 h30 u u vI<|fun r_54=>zO<|qM<|qE<|
  jbL (fun q_=>[bx b1 61 [sv p1 y0.1 c1, vi r5.2], [], bx b3 26 [.slice none 0 0, .slice none 0 0, .slice none 0 0], bx b4 26 [.slice p5 q_ c5, sv p48 s2 c48, sv p7 s1.2.2 c7], r_54, r_53, r_3]) (gk 0) u<|
  zH (gv (fun _ k=>k p5 c5 r_54 p48 c48 r_53) [0,901,2,3,4,5,6] (gq [0,3,4,7])))<|jA 2 u<|zJ u (jun ⟨fun _ _=>rfl,fun _=>rfl⟩ 5 2 u<|fun r_55=>yI [] [3] 8<|qH 0 0 u u<|qS 1 3 u u u u<|zT 4 [2,3] u<|zX 4<|
  qB (.f u) [0] [] zMs u u u (cq [1])<|fun r6 _ k=>k<|zO<|uU 5 2 u u u u<|fun x32 h31 b21 hp3=>qH 6 0 u u<|zX 7<|xK (.f u) 4 2 sI.fst r6.1 true u hp3 h31 u u (vP vB vS)<|fun r_56=>zO<|qM<|qE<|
  jbL (fun q_=>[bx b1 61 [sv p1 y0.1 c1, vi r6.2], [], bx b3 26 [.slice none 0 0, .slice none 0 0, .slice none 0 0], bx b4 26 [.slice p5 q_ c5, sv p48 s2 c48, sv p7 s1.2.2 c7], r_56, r_55, r_3]) (gk 0) u<|
  zH (gv (fun _ k=>k p5 c5 r_56 p48 c48 r_55) [0,901,2,3,4,5,6] (gq [0,2,3,6])))<|jA 2 u<|zJ u (jun ⟨fun _ _=>rfl,fun _=>rfl⟩ 5 2 u<|fun r_57=>yI [] [3] 9<|qH 0 0 u u<|qS 1 3 u u u u<|zT 5 [2,3] u<|zX 4<|
  wT (.f u) (e := vM) 9 [vs [65], vs [], vs [97]] ([[65], [], [97]] : List qC) (rC vS (rC vS (rC vS rN)))<|fun p58 c58=>zO<|zX 5<|qB (.f u) [0] [] zCj u u u (cq [2,0])<|fun r7 _ k=>k<|zO<|
  uU 6 3 u u u u<|fun x33 h32 b22 hp4=>qH 7 4 u u<|zX 8<|xK (.f u) 4 3 sI.snd.snd.snd r7.1 false u hp4 h32 u u vS<|fun r_58=>zO<|qM<|qE<|
  jbL (fun q_=>[bx b1 61 [sv p1 y0.1 c1, vi r7.2], [], bx b3 26 [.slice none 0 0, .slice none 0 0, .slice none 0 0], bx b4 26 [.slice p5 q_ c5, sv p48 s2 c48, sv p7 s1.2.2 c7], r_58, r_57, r_3]) (gk 0) u<|
  zH (gv (fun _ k=>k p5 c5 r_58 p48 c48 r_57) [0,901,2,3,4,5,6] (gq [0,3,4,7])))<|jun ⟨fun _ _=>rfl,fun _=>rfl⟩ 5 2 u<|fun r_59=>yI [10] [3, 4] 11<|qH 0 0 u u<|qS 1 3 u u u u<|zT 8 [2] u<|qH 3 0 u u<|
  qS 4 3 u u u u<|uU 5 2 u u u u<|fun x34 h33 b23 hp5=>qH 6 0 u u<|xY 7 4 2 sI.fst true yK u u hp5 h33 u<|uU 8 2 u u u u<|fun x35 h34 b24 hp6=>qH 9 0 u u<|zX 10<|
  xK (.f u) 4 2 sI.fst x34.1 true u hp6 h34 u u (vP vB vS)<|fun r_60=>jdb [] [3, 4]<|qM<|qE<|
  jbL (fun q_=>[bx b1 61 [sv p1 y0.1 c1, vi r3.2], [], bx b3 26 [.slice none 0 0, .slice none 0 0, .slice none 0 0], bx b4 26 [.slice p5 q_ c5, sv p48 s2 c48, sv p7 s1.2.2 c7], r_60, r_59, r_3]) (gk 0) u<|
  zH (gv (fun _ k=>k p5 c5 r_60 p48 c48 r_59) [0,901,2,3,4,5,6] (gq [0,2,3,6])))<|fun s5 _ k p55 c55 r_49 p56 c56 r_50=>k<|zB<|qV 3 3 u u u<|qI .s 2 u u u<|zC<|zK<|qA<|wX 4 0 u u<|wX 5 2 u u<|wX 6 5 u u<|
  wW u (lC 2 (.agg #[sv p55 s5.2.1 c55, sv p56 s5.2.2 c56, sv p7 s1.2.2 c7]) u u lN) (fun _ k=>k p55 c55 p56 c56 p7 c7) [0] (gq [2,1,0]))<|jC<|zG<|zB<|zA 1 u<|zL 1 u<|zS 3 u u u<|zA 1 u<|
  qB .s [0] [] tC u u u (cq [0])<|fun r8 _ k=>k<|zA 1 u<|zC<|wL (fun s6 K=>K [0,4,5,9] [(0, bx b1 61 [sv p1 y0.1 c1, vi s6.2])] [0,1,2,3] [(117, vb s6.1)] []) (qN<|zL 1 u<|zS 3 u u u<|zA 3 u<|wF 113 u (
  zA 1 u<|qB .s [0] [] tC u u u (cq [0])<|fun r9 _ k=>k<|zA 1 u<|zD (vb (decide (0 < r9.1)))<|zQ<|zH (gv (fun _ k=>k) [0,901,2,3,4,5,6] (gq [0,1,2,3])))<|zA 3 u<|zD (vb false)<|zQ<|
  zH (gv (fun _ k=>k) [0,901,2,3,4,5,6] (gq [0,1,2,3])))<|fun s6 _ k=>k<|zJ u (
  wL (fun s7 K=>∀ p59 c59 r_61,K [4,5] [(0, bx b1 61 [sv p1 y0.1 c1, vi s7.1]), (3, bx b4 26 [sv p5 s1.1 c5, sv p59 s7.2 c59, sv p7 s1.2.2 c7]), (5, r_61)] [0,1,3] [] [Al qP 57 r_61 p59 c59 s7.2]) (zB<|zA 1 u<|
  qB .s [0] [] tC u u u (cq [0])<|fun r10 _ k=>k<|zC<|zV<|jA 2 u<|zJ u (jun ⟨fun _ _=>rfl,fun _=>rfl⟩ 5 2 u<|fun r_62=>yI [] [3] 9<|qH 0 1 u u<|qS 1 3 u u u u<|zT 5 [2,3] u<|zX 4<|
  wT (.f u) (e := vM) 9 [vs [], vs [114, 97], vs [82], vs [114, 98]] ([[], [114, 97], [82], [114, 98]] : List qC) (rC vS (rC vS (rC vS (rC vS rN))))<|fun p60 c60=>zO<|zX 5<|qB (.f u) [0] [] zCj u u u (cq [2,0])<|
  fun r11 _ k=>k<|zO<|uU 6 1 u u u u<|fun x36 h35 b25 hp7=>qH 7 0 u u<|zX 8<|xK (.f u) 5 1 sI.fst r11.1 false u hp7 h35 u u vS<|fun r_63=>zO<|qM<|qE<|
  jbL (fun q_=>[bx b1 61 [sv p1 y0.1 c1, vi r11.2], [], bx b3 26 [.slice none 0 0, .slice none 0 0, .slice none 0 0], bx b4 26 [sv p5 s1.1 c5, .slice p48 q_ c48, sv p7 s1.2.2 c7], r_1, r_63, r_3]) (gk 0) u<|
  zH (gv (fun _ k=>k p48 c48 r_63) [0,901,2,3,4,5,6] (gq [0,4,5,7])))<|jA 2 u<|zJ u (jun ⟨fun _ _=>rfl,fun _=>rfl⟩ 5 2 u<|fun r_64=>yI [] [3] 9<|qH 0 1 u u<|qS 1 3 u u u u<|zT 5 [2,3] u<|zX 4<|
  wT (.f u) (e := zU .i64) 3 [vi (-1), vi 0, vi 1, vi 9, vi 10] ([(-1), 0, 1, 9, 10] : List Int) (rC vI (rC vI (rC vI (rC vI (rC vI rN)))))<|fun p61 c61=>zO<|zX 5<|qB (.f u) [0] [] zDj u u u (cq [2,0])<|
  fun r12 _ k=>k<|zO<|uU 6 1 u u u u<|fun x37 h36 b26 hp8=>qH 7 2 u u<|zX 8<|xK (.f u) 5 1 sI.snd.snd.fst r12.1 false u hp8 h36 u u vI<|fun r_65=>zO<|qM<|qE<|
  jbL (fun q_=>[bx b1 61 [sv p1 y0.1 c1, vi r12.2], [], bx b3 26 [.slice none 0 0, .slice none 0 0, .slice none 0 0], bx b4 26 [sv p5 s1.1 c5, .slice p48 q_ c48, sv p7 s1.2.2 c7], r_1, r_65, r_3]) (gk 0) u<|
  zH (gv (fun _ k=>k p48 c48 r_65) [0,901,2,3,4,5,6] (gq [0,4,5,7])))<|jA 2 u<|zJ u (jun ⟨fun _ _=>rfl,fun _=>rfl⟩ 5 2 u<|fun r_66=>yI [12] [3, 5] 13<|qH 0 1 u u<|qS 1 3 u u u u<|zT 10 [2] u<|qH 3 1 u u<|
  qS 4 3 u u u u<|zT 7 [5] u<|uU 6 0 u u u u<|fun x38 h37 b27 hp9=>qH 7 1 u u<|xY 8 5 0 sI.snd.fst false oB u u hp9 h37 u<|zT 3 [9] u<|uU 10 0 u u u u<|fun x39 h38 b28 hp10=>qH 11 1 u u<|
  zX 12<|xK (.f u) 5 0 sI.snd.fst (!x38.2.1) false u hp10 h38 u u vB<|fun r_67=>jdb [] [3, 5]<|qM<|qE<|
  jbL (fun q_=>[bx b1 61 [sv p1 y0.1 c1, vi r10.2], [], bx b3 26 [.slice none 0 0, .slice none 0 0, .slice none 0 0], bx b4 26 [sv p5 s1.1 c5, .slice p48 q_ c48, sv p7 s1.2.2 c7], r_1, r_67, r_3]) (gk 0) u<|
  zH (gv (fun _ k=>k p48 c48 r_67) [0,901,2,3,4,5,6] (gq [0,3,4,6])))<|jA 2 u<|zJ u (jun ⟨fun _ _=>rfl,fun _=>rfl⟩ 5 2 u<|fun r_68=>yI [] [3] 8<|qH 0 1 u u<|qS 1 3 u u u u<|zT 4 [2,3] u<|zX 4<|
  qB (.f u) [0] [] zMs u u u (cq [1])<|fun r13 _ k=>k<|zO<|uU 5 0 u u u u<|fun x40 h39 b29 hp11=>qH 6 4 u u<|zX 7<|xK (.f u) 5 0 sI.snd.snd.snd.snd r13.1 true u hp11 h39 u u (vP vB vS)<|fun r_69=>
  zO<|qM<|qE<|jbL (fun q_=>[bx b1 61 [sv p1 y0.1 c1, vi r13.2], [], bx b3 26 [.slice none 0 0, .slice none 0 0, .slice none 0 0], bx b4 26 [sv p5 s1.1 c5, .slice p48 q_ c48, sv p7 s1.2.2 c7], r_1, r_69, r_3]) (gk 0) u<|
  zH (gv (fun _ k=>k p48 c48 r_69) [0,901,2,3,4,5,6] (gq [0,3,4,6])))<|jA 2 u<|zJ u (jnO ⟨fun _ _=>rfl,fun _=>rfl⟩ 5 2 r8.1 u<|fun x41 h40 r_70 r_71 p62 c62=>yI [15] [3, 5] 16<|qH 0 1 u u<|qS 1 3 u u u u<|
  zT 13 [2] u<|qH 3 1 u u<|qS 4 3 u u u u<|zT 10 [5] u<|jdH 6 0 u u u u<|fun x42 h41 b30 hp12=>qH 7 3 u u<|jdHL 8 5 0 ⟨fun _ _=>rfl,fun _=>rfl⟩ u u hp12 h40 u<|zT 6 [9] u<|zX 10<|
  qB (.f u) [0] [] zBO u u u (cq [2])<|fun r14 _ k=>k<|zO<|zX 11<|wT (.f u) (e := wN) 52 [vb r14.1.1, vs r14.1.2] ([r14.1] : List zN) (rC (vP vB vS) rN)<|fun p63 c63=>zO<|zX 12<|
  wE (.f u) 7 2 u (gk 0) u u<|fun x43 r_72 p64 c64=>zO<|jdH 13 2 u u u u<|fun x44 h43 b31 hp13=>qH 14 3 u u<|wX 7 0 u u<|zX 15<|jnS (.f u) 5 3 ⟨fun _ _=>rfl,fun _=>rfl⟩ u hp13 h40 u u (gk 0)<|fun r_73=>
  jdb [] [3, 5]<|qM<|qE<|jbL (fun q_=>[bx b1 61 [sv p1 y0.1 c1, vi r14.2], [], bx b3 26 [.slice none 0 0, .slice none 0 0, .slice none 0 0], bx b4 26 [sv p5 s1.1 c5, .slice p48 q_ c48, sv p7 s1.2.2 c7], r_1, r_73, r_3, []]) (gk 0) u<|
  zH (gv (fun _ k=>k p48 c48 r_73) [0,901,2,3,4,5,6] (gq [0,7,8,10])))<|jA 2 u<|zJ u (jun ⟨fun _ _=>rfl,fun _=>rfl⟩ 5 2 u<|fun r_74=>yI [] [3] 8<|qH 0 1 u u<|qS 1 3 u u u u<|zT 4 [2,3] u<|zX 4<|
  qB (.f u) [0] [] zJX u u u (cq [1])<|fun r15 _ k p65 c65=>k<|zO<|uU 5 1 u u u u<|fun x45 h44 b32 hp14=>qH 6 3 u u<|zX 7<|
  xK (.f u) 5 1 sI.snd.snd.snd.fst r15.1 false u hp14 h44 u u (vL (gk 0))<|fun r_75=>zO<|qM<|qE<|
  jbL (fun q_=>[bx b1 61 [sv p1 y0.1 c1, vi r15.2], [], bx b3 26 [.slice none 0 0, .slice none 0 0, .slice none 0 0], bx b4 26 [sv p5 s1.1 c5, .slice p48 q_ c48, sv p7 s1.2.2 c7], r_1, r_75, r_3]) (gk 0) u<|
  zH (gv (fun _ k=>k p48 c48 r_75) [0,901,2,3,4,5,6] (gq [0,4,5,7])))<|jun ⟨fun _ _=>rfl,fun _=>rfl⟩ 5 2 u<|fun r_76=>yI [8, 10] [3, 5] 11<|qH 0 1 u u<|qS 1 3 u u u u<|qH 2 1 u u<|qS 3 3 u u u u<|
  zT 6 [4] u<|uU 5 0 u u u u<|fun x46 h45 b33 hp15=>xY 6 5 0 sI true zJK u u hp15 h45 u<|fun p66 c66=>zX 7<|
  wT (.f u) (e := qP) 57 [vs x46.1, vb x46.2.1, vi x46.2.2.1, sv p66 x46.2.2.2.1 c66, vb x46.2.2.2.2.1, vs x46.2.2.2.2.2] ([x46] : List qR) (rC (vP vS (vP vB (vP vI (vP (vL (gk 0)) (vP vB vS))))) rN)<|fun p67 c67=>zO<|zX 8<|
  wE (.f u) 5 2 u (gk 0) u u<|fun x47 r_77 p68 c68=>jdb [10] [3, 5]<|qH 9 1 u u<|zX 10<|qI (o := 1) (.f u) 3 u u u<|jdb [] [3, 5]<|qM<|qE<|zH (gv (fun _ k=>k p68 c68 r_77) [0,901,2,3,4,5,6] (gq [0,4,5,7])))<|
  fun s7 _ k p59 c59 r_61=>k<|zB<|qV 3 3 u u u<|qI .s 2 u u u<|zC<|zK<|qA<|wX 4 2 u u<|wX 5 1 u u<|wX 6 5 u u<|
  wW u (lC 2 (.agg #[sv p5 s1.1 c5, sv p59 s7.2 c59, sv p7 s1.2.2 c7]) u u lN) (fun _ k=>k p5 c5 p59 c59 p7 c7) [0] (gq [2,1,0]))<|jC<|jun ⟨fun _ _=>rfl,fun _=>rfl⟩ 5 2 u<|fun r_78=>
  wL (fun s8 K=>∀ p69 c69 r_79,K [4,5] [(0, bx b1 61 [sv p1 y0.1 c1, vi s8.1]), (3, bx b4 26 [sv p5 s1.1 c5, sv p48 s2 c48, sv p69 s8.2 c69]), (6, r_79)] [1,2,0] [] [Al wJ 59 r_79 p69 c69 s8.2]) (yI [14] [3] 15<|qH 0 2 u u<|
  qS 1 3 u u u u<|zT 10 [2,5,8] u<|uR 3 6 (wT (.f u) (e := vM) 9 [vs [114, 97], vs [114, 98], vs [120], vs []] ([[114, 97], [114, 98], [120], []] : List qC) (rC vS (rC vS (rC vS (rC vS rN))))<|fun p70 c70=>zO<|uR 4 6 (
  qB (.f u) [0] [] zCj u u u (cq [2,0])<|fun r16 _ k=>k<|zO<|zX 6<|wT (.f u) (e := zU .i64) 3 [vi (-1), vi 0, vi 9, vi 10] ([(-1), 0, 9, 10] : List Int) (rC vI (rC vI (rC vI (rC vI rN))))<|fun p71 c71=>zO<|zX 7<|
  qB (.f u) [0] [] zDj u u u (cq [3,0])<|fun r17 _ k=>k<|zO<|zX 9<|qB (.f u) [0] [] zBO u u u (cq [3])<|fun r18 _ k=>k<|zO<|wD 10 (.agg #[vs r16.1, vi r17.1, vb r18.1.1, vs r18.1.2]) u<|
  zX 11<|wT (.f u) (e := wJ) 59 [vs r16.1, vi r17.1, vb r18.1.1, vs r18.1.2] ([(r16.1, r17.1, r18.1)] : List vH) (rC (vP vS (vP vI (vP vB vS))) rN)<|fun p72 c72=>zO<|zX 12<|wE (.f u) 6 7 u (gk 0) u u<|
  fun x48 r_80 p73 c73=>zO<|qH 13 2 u u<|zX 14<|qI (o := 2) (.f u) 3 u u u<|jdb [] [3]<|qM<|zH (gv (fun _ k=>k p73 c73 r_80) [0,901,2,3,4,5,6] (gq [0,5,6,4]))) <|
  wT (.f u) (e := zU .i64) 3 [vi (-1), vi 0, vi 9, vi 10] ([(-1), 0, 9, 10] : List Int) (rC vI (rC vI (rC vI (rC vI rN))))<|fun p74 c74=>zO<|zX 4<|qB (.f u) [0] [] zCj u u u (cq [3,1])<|fun r19 _ k=>k<|zO<|zX 7<|
  qB (.f u) [0] [] zDj u u u (cq [3,0])<|fun r20 _ k=>k<|zO<|zX 9<|qB (.f u) [0] [] zBO u u u (cq [3])<|fun r21 _ k=>k<|zO<|wD 10 (.agg #[vs r19.1, vi r20.1, vb r21.1.1, vs r21.1.2]) u<|
  zX 11<|wT (.f u) (e := wJ) 59 [vs r19.1, vi r20.1, vb r21.1.1, vs r21.1.2] ([(r19.1, r20.1, r21.1)] : List vH) (rC (vP vS (vP vI (vP vB vS))) rN)<|fun p75 c75=>zO<|zX 12<|wE (.f u) 6 7 u (gk 0) u u<|
  fun x49 r_81 p76 c76=>zO<|qH 13 2 u u<|zX 14<|qI (o := 2) (.f u) 3 u u u<|jdb [] [3]<|qM<|zH (gv (fun _ k=>k p76 c76 r_81) [0,901,2,3,4,5,6] (gq [0,5,6,4]))) <|
  wT (.f u) (e := zU .i64) 3 [vi (-1), vi 0, vi 9, vi 10] ([(-1), 0, 9, 10] : List Int) (rC vI (rC vI (rC vI (rC vI rN))))<|fun p77 c77=>zO<|zX 3<|
  wT (.f u) (e := vM) 9 [vs [114, 97], vs [114, 98], vs [120], vs []] ([[114, 97], [114, 98], [120], []] : List qC) (rC vS (rC vS (rC vS (rC vS rN))))<|fun p78 c78=>zO<|zX 4<|
  qB (.f u) [0] [] zCj u u u (cq [3,0])<|fun r22 _ k=>k<|zO<|zX 7<|qB (.f u) [0] [] zDj u u u (cq [3,1])<|fun r23 _ k=>k<|zO<|zX 9<|qB (.f u) [0] [] zBO u u u (cq [3])<|
  fun r24 _ k=>k<|zO<|wD 10 (.agg #[vs r22.1, vi r23.1, vb r24.1.1, vs r24.1.2]) u<|zX 11<|
  wT (.f u) (e := wJ) 59 [vs r22.1, vi r23.1, vb r24.1.1, vs r24.1.2] ([(r22.1, r23.1, r24.1)] : List vH) (rC (vP vS (vP vI (vP vB vS))) rN)<|fun p79 c79=>zO<|zX 12<|wE (.f u) 6 7 u (gk 0) u u<|
  fun x50 r_82 p80 c80=>zO<|qH 13 2 u u<|zX 14<|qI (o := 2) (.f u) 3 u u u<|jdb [] [3]<|qM<|zH (gv (fun _ k=>k p80 c80 r_82) [0,901,2,3,4,5,6] (gq [0,5,6,4])))<|fun s8 _ k p69 c69 r_79=>k<|zB<|qV 3 3 u u u<|
  qI .s 2 u u u<|zC<|zK<|wX 4 2 u u<|wX 5 4 u u<|wX 6 2 u u<|wW u (lC 2 (.agg #[sv p5 s1.1 c5, sv p48 s2 c48, sv p69 s8.2 c69]) u u lN) (fun _ k=>k p5 c5 p48 c48 p69 c69) [0] (gq [2,1,0])
theorem zGr {qd : Prop} : qG qd prog 254 [.func (.func 256) #[] #[]] [] [] (zCs) fun r K=>∀ b1,K (.func (.func 281) #[] #[pt b1 0]) [bx b1 246 [.func (.func 256) #[] #[]]] [] :=
 qD call254 func254 u fun X=>zB<|wC .s u<|fun b1=>zA 1 u<|zC<|jA 2 u<|zK<|zR u u (fun _ k=>k b1) [0] ⟨⟩
theorem zG7 {qd : Prop} : qG qd prog 254 [.func (.func 258) #[] #[]] [] [] (zCg) fun r K=>∀ b1,K (.func (.func 281) #[] #[pt b1 0]) [bx b1 246 [.func (.func 258) #[] #[]]] [] :=
 qD call254 func254 u fun X=>zB<|wC .s u<|fun b1=>zA 1 u<|zC<|jA 2 u<|zK<|zR u u (fun _ k=>k b1) [0] ⟨⟩
theorem zHh {qd : Prop} : qG qd prog 254 [.func (.func 257) #[] #[]] [] [] (zDx) fun r K=>∀ b1,K (.func (.func 281) #[] #[pt b1 0]) [bx b1 246 [.func (.func 257) #[] #[]]] [] :=
 qD call254 func254 u fun X=>zB<|wC .s u<|fun b1=>zA 1 u<|zC<|jA 2 u<|zK<|zR u u (fun _ k=>k b1) [0] ⟨⟩
theorem zIA {qd : Prop} : qG qd prog 254 [.func (.func 255) #[] #[]] [] [] (zEN) fun r K=>∀ b1,K (.func (.func 281) #[] #[pt b1 0]) [bx b1 246 [.func (.func 255) #[] #[]]] [] :=
 qD call254 func254 u fun X=>zB<|wC .s u<|fun b1=>zA 1 u<|zC<|jA 2 u<|zK<|zR u u (fun _ k=>k b1) [0] ⟨⟩
theorem zIG {qd : Prop} : qG qd prog 254 [.func (.func 280) #[] #[pt b1 0]] [bx b1 271 [.func (.func 253) #[] #[]]] [] (zEM) fun r K=>∀ b2,K (.func (.func 281) #[] #[pt b2 0]) [bx b1 271 [.func (.func 253) #[] #[]], bx b2 246 [.func (.func 280) #[] #[pt b1 0]]] [] :=
 qD call254 func254 u fun X=>zB<|wC .s u<|fun b2=>zA 1 u<|zC<|jA 2 u<|zK<|zR u u (fun _ k=>k b2) [0,1] ⟨⟩
theorem zHT {qd : Prop} : qG qd prog 252 [.func (.func 253) #[] #[]] [] [] (zDB) fun r K=>∀ b1 b2,K (.func (.func 281) #[] #[pt b1 0]) [bx b1 246 [.func (.func 280) #[] #[pt b2 0]], bx b2 271 [.func (.func 253) #[] #[]]] [] :=
 qD call252 func252 u fun X=>zB<|wC .s u<|fun b1=>zA 1 u<|zC<|zB<|zA 1 u<|qB .s [0] [] zIG u u u ⟨⟩<|fun r1 _ k b2=>k<|zA 1 u<|zC<|zK<|zR u u (fun _ k=>k b2 b1) [1,0] ⟨⟩
theorem zH0 {qd : Prop} : qG qd prog 254 [.func (.func 280) #[] #[pt b1 0]] [bx b1 271 [.func (.func 260) #[] #[]]] [] (zD0) fun r K=>∀ b2,K (.func (.func 281) #[] #[pt b2 0]) [bx b1 271 [.func (.func 260) #[] #[]], bx b2 246 [.func (.func 280) #[] #[pt b1 0]]] [] :=
 qD call254 func254 u fun X=>zB<|wC .s u<|fun b2=>zA 1 u<|zC<|jA 2 u<|zK<|zR u u (fun _ k=>k b2) [0,1] ⟨⟩
theorem zJF {qd : Prop} : qG qd prog 252 [.func (.func 260) #[] #[]] [] [] (zFj) fun r K=>∀ b1 b2,K (.func (.func 281) #[] #[pt b1 0]) [bx b1 246 [.func (.func 280) #[] #[pt b2 0]], bx b2 271 [.func (.func 260) #[] #[]]] [] :=
 qD call252 func252 u fun X=>zB<|wC .s u<|fun b1=>zA 1 u<|zC<|zB<|zA 1 u<|qB .s [0] [] zH0 u u u ⟨⟩<|fun r1 _ k b2=>k<|zA 1 u<|zC<|zK<|zR u u (fun _ k=>k b2 b1) [1,0] ⟨⟩
theorem zH4 {qd : Prop} : qG qd prog 254 [.func (.func 280) #[] #[pt b1 0]] [bx b1 271 [.func (.func 259) #[] #[]]] [] (zD5) fun r K=>∀ b2,K (.func (.func 281) #[] #[pt b2 0]) [bx b1 271 [.func (.func 259) #[] #[]], bx b2 246 [.func (.func 280) #[] #[pt b1 0]]] [] :=
 qD call254 func254 u fun X=>zB<|wC .s u<|fun b2=>zA 1 u<|zC<|jA 2 u<|zK<|zR u u (fun _ k=>k b2) [0,1] ⟨⟩
theorem zJV {qd : Prop} : qG qd prog 252 [.func (.func 259) #[] #[]] [] [] (zFi) fun r K=>∀ b1 b2,K (.func (.func 281) #[] #[pt b1 0]) [bx b1 246 [.func (.func 280) #[] #[pt b2 0]], bx b2 271 [.func (.func 259) #[] #[]]] [] :=
 qD call252 func252 u fun X=>zB<|wC .s u<|fun b1=>zA 1 u<|zC<|zB<|zA 1 u<|qB .s [0] [] zH4 u u u ⟨⟩<|fun r1 _ k b2=>k<|zA 1 u<|zC<|zK<|zR u u (fun _ k=>k b2 b1) [1,0] ⟨⟩
theorem zPP {qd : Prop} : qG qd prog 226 [] [] [] (zLZ) fun r K=>∀ b1 b2 b3 b4 b5 b6 b7 b8 b9 b10 b11,K (.slice (some ⟨b1, 0, none⟩) 10 10) [bx b1 246 [.nilFunc, .func (.func 281) #[] #[pt b2 0], .func (.func 281) #[] #[pt b4 0], .func (.func 281) #[] #[pt b5 0], .func (.func 281) #[] #[pt b6 0], .func (.func 281) #[] #[pt b7 0], .func (.func 281) #[] #[pt b8 0], .func (.func 281) #[] #[pt b10 0], .func (.func 261) #[] #[], .func (.func 262) #[] #[]], bx b2 246 [.func (.func 280) #[] #[pt b3 0]], bx b3 271 [.func (.func 253) #[] #[]], bx b4 246 [.func (.func 255) #[] #[]], bx b5 246 [.func (.func 256) #[] #[]], bx b6 246 [.func (.func 257) #[] #[]], bx b7 246 [.func (.func 258) #[] #[]], bx b8 246 [.func (.func 280) #[] #[pt b9 0]], bx b9 271 [.func (.func 259) #[] #[]], bx b10 246 [.func (.func 280) #[] #[pt b11 0]], bx b11 271 [.func (.func 260) #[] #[]]] [] :=
 qD call226 func226 u fun X=>jA 1 u<|zB<|qL zHT u ⟨⟩<|fun r1 _ k b1 b2=>k<|qL zIA u ⟨⟩<|fun r2 _ k b3=>k<|qL zGr u ⟨⟩<|fun r3 _ k b4=>k<|
  qL zHh u ⟨⟩<|fun r4 _ k b5=>k<|qL zG7 u ⟨⟩<|fun r5 _ k b6=>k<|qL zJV u ⟨⟩<|fun r6 _ k b7 b8=>k<|qL zJF u ⟨⟩<|
  fun r7 _ k b9 b10=>k<|
  jbF .s 246 [.nilFunc, .func (.func 281) #[] #[pt b1 0], .func (.func 281) #[] #[pt b3 0], .func (.func 281) #[] #[pt b4 0], .func (.func 281) #[] #[pt b5 0], .func (.func 281) #[] #[pt b6 0], .func (.func 281) #[] #[pt b7 0], .func (.func 281) #[] #[pt b9 0], .func (.func 261) #[] #[], .func (.func 262) #[] #[]]<|
  fun b11=>zA 1 u<|zC<|zK<|zR u u (fun _ k=>k b11 b1 b2 b3 b4 b5 b6 b7 b8 b9 b10) [10,0,1,2,3,4,5,6,7,8,9] ⟨⟩
theorem zOE {qd : Prop} {y0 : wY} : qG qd prog 253 [.agg #[vi y0.1, sv p1 y0.2 c1]] [] [Rl yH p1 c1 y0.2, Pt (uT 64 (zU .u8)) 3 0 tJ] (zF2 y0) fun r K=>∀ p2 c2,K (.tuple #[sv p2 r.1 c2, vi r.2]) [] [Rl (zU .i64) p2 c2 r.1] :=
 qD call253 func253 u fun X=>zB<|wC .s u<|fun b1=>zA 2 u<|zC<|zB<|qV 0 2 u u u<|qL zLM u (cq [0,1])<|fun r1 _ k p2 c2=>k<|zA 2 u<|zC<|zK<|wW u (lT u (lT u lN)) (fun _ k=>k p2 c2) [] (gq [0])
theorem zGi {qd : Prop} {y0 : wY} : uH qd prog 280 [.agg #[vi y0.1, sv p1 y0.2 c1], pt b1 0] [bx b1 271 [.func (.func 253) #[] #[]]] [Rl yH p1 c1 y0.2, Pt (uT 64 (zU .u8)) 3 0 tJ] (zAm y0) fun L r K=>∀ p2 c2,K (.tuple #[sv p2 r.1 c2, vi r.2]) L [Rl (vJ (zU .i64)) p2 c2 r.1] :=
 qD call280 func280 u fun X=>zB<|wC .s u<|fun b2=>zA 2 u<|zC<|zB<|zS 0 u u u<|qV 1 2 u u u<|qB .s [] [] zOE u u u (cq [0,1])<|fun r1 _ k p2 c2=>k<|zA 5 u<|zC<|zG<|jA 2 u<|zJ u (jA 3 u<|zK<|qA<|
  wW u (lT u (lT u lN)) (fun _ k=>k none 0) [0] ⟨gn,⟨⟩⟩)<|jC<|zB<|zA 1 u<|wT .s (e := vJ (zU .i64)) 29 [sv p2 r1.1 c2] ([r1.1] : List (List Int)) (rC (vL (gk 0)) rN)<|fun p3 c3=>zA 2 u<|zC<|zK<|
  wW u (lT u (lT u lN)) (fun _ k=>k p3 c3) [0] (gq [0])
theorem zHY {qd : Prop} {y0 : wY} : uH qd prog 281 [.agg #[vi y0.1, sv p1 y0.2 c1], pt b1 0] [bx b1 246 [.func (.func 280) #[] #[pt b2 0]], bx b2 271 [.func (.func 253) #[] #[]]] [Rl yH p1 c1 y0.2, Pt (uT 64 (zU .u8)) 3 0 tJ] (zAx y0) fun L r K=>∀ p2 c2,K (.tuple #[sv p2 r.1 c2, vi r.2]) L [Rl (vJ (zU .i64)) p2 c2 r.1] :=
 qD call281 func281 u fun X=>zB<|wC .s u<|fun b3=>zA 2 u<|zC<|zB<|zS 0 u u u<|qV 2 2 u u u<|qB .s [1] [] zGi u u u (cq [0,1])<|fun r1 _ k p2 c2=>k<|zA 5 u<|zC<|zG<|jA 2 u<|zJ u (jA 3 u<|zK<|
  qA<|wW u (lT u (lT u lN)) (fun _ k=>k none 0) [0,1] ⟨gn,⟨⟩⟩)<|jC<|zB<|zA 1 u<|vV (vJ (zU .i64)) 29<|zC<|zG<|jA 3 u<|zV<|
  qZ (fun s1 K=>∀ p3 c3 r_1,K [19,20] [(2, []), (3, r_1)] [1,3] [(7, sv p3 s1.1 c3), (21, vi s1.2)] [Al (vJ (zU .i64)) 29 r_1 p3 c3 s1.1]) (gv (fun _ k=>k none 0 []) [0,1,902,3] (gq [0,1,3]))<|fun s1 _ k p3 c3 r_1=>k<|jA 1 u<|zG<|
  zJ u (jC<|zG<|zV<|zB<|wB 1 u u u<|fun x1 b4 o1=>wA false oL (gk 0) u<|fun p4 c4=>zA 1 u<|zC<|qN<|zA 2 u<|qL zGZ u (cq [0])<|fun r2 _ k p5 c5=>k<|
  wT .s (e := vJ (zU .i64)) 29 [sv p5 r2 c5] ([r2] : List (List Int)) (rC (vL (gk 0)) rN)<|fun p6 c6=>wE .s 3 4 u (gk 0) u u<|fun x2 r_2 p7 c7=>zA 1 u<|zQ<|qE<|zP<|jB 2 u<|
  qJ (gv (fun _ k=>k p7 c7 r_2) [0,1,902,3] (gq [0,6,7])))<|qT<|qQ<|qY<|qW<|zP<|jA 3 u<|zK<|wX 3 0 u u<|wW u (lT u (lT u lN)) (fun _ k=>k p3 c3) [0,1] (gq [0])
theorem zI7 {qd : Prop} {y0 : wY} : uH qd prog 280 [.agg #[vi y0.1, sv p1 y0.2 c1], pt b1 0] [bx b1 271 [.func (.func 259) #[] #[]]] [Rl yH p1 c1 y0.2] (zFA y0) fun L r K=>∀ p2 c2,K (.tuple #[sv p2 r.1 c2, vi r.2]) L [Rl (vJ (zU .i64)) p2 c2 r.1] :=
 qD call280 func280 u fun X=>zB<|wC .s u<|fun b2=>zA 2 u<|zC<|zB<|zS 0 u u u<|qV 1 2 u u u<|jno
theorem zGt {qd : Prop} {y0 : wY} : uH qd prog 281 [.agg #[vi y0.1, sv p1 y0.2 c1], pt b1 0] [bx b1 246 [.func (.func 280) #[] #[pt b2 0]], bx b2 271 [.func (.func 259) #[] #[]]] [Rl yH p1 c1 y0.2] (zAs y0) fun L r K=>∀ p2 c2,K (.tuple #[sv p2 r.1 c2, vi r.2]) L [Rl (vJ (zU .i64)) p2 c2 r.1] :=
 qD call281 func281 u fun X=>zB<|wC .s u<|fun b3=>zA 2 u<|zC<|zB<|zS 0 u u u<|qV 2 2 u u u<|qB .s [1] [] zI7 u u u (cq [0])<|fun r1 _ k p2 c2=>k<|zA 5 u<|zC<|zG<|jA 2 u<|zJ u (jA 3 u<|zK<|qA<|
  wW u (lT u (lT u lN)) (fun _ k=>k none 0) [0,1] ⟨gn,⟨⟩⟩)<|jC<|zB<|zA 1 u<|vV (vJ (zU .i64)) 29<|zC<|zG<|jA 3 u<|zV<|
  qZ (fun s1 K=>∀ p3 c3 r_1,K [19,20] [(2, []), (3, r_1)] [1] [(7, sv p3 s1.1 c3), (21, vi s1.2)] [Al (vJ (zU .i64)) 29 r_1 p3 c3 s1.1]) (gv (fun _ k=>k none 0 []) [0,1,902,3] (gq [0,1]))<|fun s1 _ k p3 c3 r_1=>k<|jA 1 u<|zG<|
  zJ u (jC<|zG<|zV<|zB<|wB 1 u u u<|fun x1 b4 o1=>wA false oL (gk 0) u<|fun p4 c4=>zA 1 u<|zC<|qN<|zA 2 u<|qL zGZ u (cq [0])<|fun r2 _ k p5 c5=>k<|
  wT .s (e := vJ (zU .i64)) 29 [sv p5 r2 c5] ([r2] : List (List Int)) (rC (vL (gk 0)) rN)<|fun p6 c6=>wE .s 3 4 u (gk 0) u u<|fun x2 r_2 p7 c7=>zA 1 u<|zQ<|qE<|zP<|jB 2 u<|
  qJ (gv (fun _ k=>k p7 c7 r_2) [0,1,902,3] (gq [0,6])))<|qT<|qQ<|qY<|qW<|zP<|jA 3 u<|zK<|wX 3 0 u u<|wW u (lT u (lT u lN)) (fun _ k=>k p3 c3) [0,1] (gq [0])
theorem zIW {qd : Prop} {y0 : wY} : uH qd prog 280 [.agg #[vi y0.1, sv p1 y0.2 c1], pt b1 0] [bx b1 271 [.func (.func 260) #[] #[]]] [Rl yH p1 c1 y0.2] (zEf y0) fun L r K=>∀ p2 c2,K (.tuple #[sv p2 r.1 c2, vi r.2]) L [Rl (vJ (zU .i64)) p2 c2 r.1] :=
 qD call280 func280 u fun X=>zB<|wC .s u<|fun b2=>zA 2 u<|zC<|zB<|zS 0 u u u<|qV 1 2 u u u<|jno
theorem zGs {qd : Prop} {y0 : wY} : uH qd prog 281 [.agg #[vi y0.1, sv p1 y0.2 c1], pt b1 0] [bx b1 246 [.func (.func 280) #[] #[pt b2 0]], bx b2 271 [.func (.func 260) #[] #[]]] [Rl yH p1 c1 y0.2] (zAt y0) fun L r K=>∀ p2 c2,K (.tuple #[sv p2 r.1 c2, vi r.2]) L [Rl (vJ (zU .i64)) p2 c2 r.1] :=
 qD call281 func281 u fun X=>zB<|wC .s u<|fun b3=>zA 2 u<|zC<|zB<|zS 0 u u u<|qV 2 2 u u u<|qB .s [1] [] zIW u u u (cq [0])<|fun r1 _ k p2 c2=>k<|zA 5 u<|zC<|zG<|jA 2 u<|zJ u (jA 3 u<|zK<|qA<|
  wW u (lT u (lT u lN)) (fun _ k=>k none 0) [0,1] ⟨gn,⟨⟩⟩)<|jC<|zB<|zA 1 u<|vV (vJ (zU .i64)) 29<|zC<|zG<|jA 3 u<|zV<|
  qZ (fun s1 K=>∀ p3 c3 r_1,K [19,20] [(2, []), (3, r_1)] [1] [(7, sv p3 s1.1 c3), (21, vi s1.2)] [Al (vJ (zU .i64)) 29 r_1 p3 c3 s1.1]) (gv (fun _ k=>k none 0 []) [0,1,902,3] (gq [0,1]))<|fun s1 _ k p3 c3 r_1=>k<|jA 1 u<|zG<|
  zJ u (jC<|zG<|zV<|zB<|wB 1 u u u<|fun x1 b4 o1=>wA false oL (gk 0) u<|fun p4 c4=>zA 1 u<|zC<|qN<|zA 2 u<|qL zGZ u (cq [0])<|fun r2 _ k p5 c5=>k<|
  wT .s (e := vJ (zU .i64)) 29 [sv p5 r2 c5] ([r2] : List (List Int)) (rC (vL (gk 0)) rN)<|fun p6 c6=>wE .s 3 4 u (gk 0) u u<|fun x2 r_2 p7 c7=>zA 1 u<|zQ<|qE<|zP<|jB 2 u<|
  qJ (gv (fun _ k=>k p7 c7 r_2) [0,1,902,3] (gq [0,6])))<|qT<|qQ<|qY<|qW<|zP<|jA 3 u<|zK<|wX 3 0 u u<|wW u (lT u (lT u lN)) (fun _ k=>k p3 c3) [0,1] (gq [0])
theorem zGP {qd : Prop} {y0 : wY} : uH qd prog 281 [.agg #[vi y0.1, sv p1 y0.2 c1], pt b1 0] [bx b1 246 [.func (.func 256) #[] #[]]] [Rl yH p1 c1 y0.2] (zC3 y0) fun L r K=>∀ p2 c2,K (.tuple #[sv p2 r.1 c2, vi r.2]) L [Rl (vJ (zU .i64)) p2 c2 r.1] :=
 qD call281 func281 u fun X=>zB<|wC .s u<|fun b2=>zA 2 u<|zC<|zB<|zS 0 u u u<|qV 1 2 u u u<|jno
theorem zGF {qd : Prop} {y0 : wY} : uH qd prog 281 [.agg #[vi y0.1, sv p1 y0.2 c1], pt b1 0] [bx b1 246 [.func (.func 258) #[] #[]]] [Rl yH p1 c1 y0.2] (zC0 y0) fun L r K=>∀ p2 c2,K (.tuple #[sv p2 r.1 c2, vi r.2]) L [Rl (vJ (zU .i64)) p2 c2 r.1] :=
 qD call281 func281 u fun X=>zB<|wC .s u<|fun b2=>zA 2 u<|zC<|zB<|zS 0 u u u<|qV 1 2 u u u<|jno
theorem zGv {qd : Prop} {y0 : wY} : uH qd prog 281 [.agg #[vi y0.1, sv p1 y0.2 c1], pt b1 0] [bx b1 246 [.func (.func 257) #[] #[]]] [Rl yH p1 c1 y0.2] (zDJ y0) fun L r K=>∀ p2 c2,K (.tuple #[sv p2 r.1 c2, vi r.2]) L [Rl (vJ (zU .i64)) p2 c2 r.1] :=
 qD call281 func281 u fun X=>zB<|wC .s u<|fun b2=>zA 2 u<|zC<|zB<|zS 0 u u u<|qV 1 2 u u u<|jno
theorem zH3 {qd : Prop} {y0 : wY} : uH qd prog 281 [.agg #[vi y0.1, sv p1 y0.2 c1], pt b1 0] [bx b1 246 [.func (.func 255) #[] #[]]] [Rl yH p1 c1 y0.2] (zD2 y0) fun L r K=>∀ p2 c2,K (.tuple #[sv p2 r.1 c2, vi r.2]) L [Rl (vJ (zU .i64)) p2 c2 r.1] :=
 qD call281 func281 u fun X=>zB<|wC .s u<|fun b2=>zA 2 u<|zC<|zB<|zS 0 u u u<|qV 1 2 u u u<|jno
theorem zN2 {qd : Prop} {y0 : wY} {y1 : Int} : qG qd prog 184 [.agg #[vi y0.1, sv p1 y0.2 c1], vi y1] [] [Rl yH p1 c1 y0.2, Pt (uT 64 (zU .u8)) 3 0 tJ] (zEY y0 y1) fun r K=>∀ p2 c2,K (.tuple #[sv p2 r.1 c2, vi r.2]) [] [Rl (vJ (zU .i64)) p2 c2 r.1] :=
 qD call184 func184 u fun X=>zB<|wC .s u<|fun b1=>zA 2 u<|zC<|zG<|zB<|qV 0 2 u u u<|qL zLU u (cq [0])<|fun r1 _ k=>k<|zA 1 u<|zC<|jA 2 u<|zJ u (jA 3 u<|zK<|qA<|wW u (lT u (lT u lN)) (fun _ k=>k none 0) [] ⟨gn,⟨⟩⟩)<|
  jC<|zB<|qL zPP u ⟨⟩<|fun r2 _ k b2 b3 b4 b5 b6 b7 b8 b9 b10 b11 b12=>k<|zA 1 u<|zC<|zG<|uN (fun K=>K [1,2,7] [] [0,1] [(21, vb ((decide (y1 < 1)) || (decide (((10 : Nat) : Int) ≤ y1))))] []) (qN<|zA 3 u<|
  vR (b := decide (y1 < 1)) 16 u (fun hb1=>zA 4 u<|zD (vb true)<|zQ<|wR 21 (vb ((decide (y1 < 1)) || (decide (((10 : Nat) : Int) ≤ y1)))) u (by rw [hb1]; rfl)<|zH (gv (fun _ k=>k) [0,1,2,3,4,5,6,7,8,9,10,11] (gq [0,1]))
  )<|fun hb1=>zA 4 u<|zD (vb (decide (((10 : Nat) : Int) ≤ y1)))<|zQ<|wR 21 (vb ((decide (y1 < 1)) || (decide (((10 : Nat) : Int) ≤ y1)))) u (by rw [hb1]; rfl)<|zH (gv (fun _ k=>k) [0,1,2,3,4,5,6,7,8,9,10,11] (gq [0,1])))<|fun _ k=>
  k<|zJ u (jA 2 u<|zK<|qA<|wW u (lT u (lT u lN)) (fun _ k=>k none 0) [] ⟨gn,⟨⟩⟩)<|jC<|
  jjn (fun s1 K=>∀ p2 c2,K [(4, sv p2 s1.1 c2), (5, vi s1.2)] [[], [], [], [], [], [], [], [], [], [], [], []] [Rl (vJ (zU .i64)) p2 c2 s1.1, Pt (uT 64 (zU .u8)) 3 0 tJ]) (yI [] [0, 1] 10<|zT 8 [0,1] u<|
  zYT (c := 1) (fun hb2=>wR 23 (vi 1) u (by rw [hb2])<|jdv (v := pt b2 1) 2 u (fun h=>zOG h u u (by decide) (by kernel_rfl) u)<|qS 3 1 u u u u<|vQ 4 0 2 u u u u<|zX 5<|
  qB (.f u) [2, 3] [] zHY u u u (cq [0,1])<|fun r3 _ k p3 c3=>k<|zO<|zT 0 [6,7,8,9] u<|qM<|zH (gv (fun _ k=>k p3 c3) [900,901,902,903,904,905,906,907,908,909,910,911] (gq [0,2])))<|
  zYT (c := 2) (fun hb3=>wR 23 (vi 2) u (by rw [hb3])<|jdv (v := pt b2 2) 2 u (fun h=>zOG h u u (by decide) (by kernel_rfl) u)<|qS 3 1 u u u u<|vQ 4 0 2 u u u u<|zX 5<|
  qB (.f u) [4] [] zH3 u u u (cq [0])<|fun r4 _ k p4 c4=>k<|zO<|zT 0 [6,7,8,9] u<|qM<|zH (gv (fun _ k=>k p4 c4) [900,901,902,903,904,905,906,907,908,909,910,911] (gq [0,2])))<|
  zYT (c := 3) (fun hb4=>wR 23 (vi 3) u (by rw [hb4])<|jdv (v := pt b2 3) 2 u (fun h=>zOG h u u (by decide) (by kernel_rfl) u)<|qS 3 1 u u u u<|vQ 4 0 2 u u u u<|zX 5<|
  qB (.f u) [5] [] zGP u u u (cq [0])<|fun r5 _ k p5 c5=>k<|zO<|zT 0 [6,7,8,9] u<|qM<|zH (gv (fun _ k=>k p5 c5) [900,901,902,903,904,905,906,907,908,909,910,911] (gq [0,2])))<|
  zYT (c := 4) (fun hb5=>wR 23 (vi 4) u (by rw [hb5])<|jdv (v := pt b2 4) 2 u (fun h=>zOG h u u (by decide) (by kernel_rfl) u)<|qS 3 1 u u u u<|vQ 4 0 2 u u u u<|zX 5<|
  qB (.f u) [6] [] zGv u u u (cq [0])<|fun r6 _ k p6 c6=>k<|zO<|zT 0 [6,7,8,9] u<|qM<|zH (gv (fun _ k=>k p6 c6) [900,901,902,903,904,905,906,907,908,909,910,911] (gq [0,2])))<|
  zYT (c := 5) (fun hb6=>wR 23 (vi 5) u (by rw [hb6])<|jdv (v := pt b2 5) 2 u (fun h=>zOG h u u (by decide) (by kernel_rfl) u)<|qS 3 1 u u u u<|vQ 4 0 2 u u u u<|zX 5<|
  qB (.f u) [7] [] zGF u u u (cq [0])<|fun r7 _ k p7 c7=>k<|zO<|zT 0 [6,7,8,9] u<|qM<|zH (gv (fun _ k=>k p7 c7) [900,901,902,903,904,905,906,907,908,909,910,911] (gq [0,2])))<|
  zYT (c := 6) (fun hb7=>wR 23 (vi 6) u (by rw [hb7])<|jdv (v := pt b2 6) 2 u (fun h=>zOG h u u (by decide) (by kernel_rfl) u)<|qS 3 1 u u u u<|vQ 4 0 2 u u u u<|zX 5<|
  qB (.f u) [8, 9] [] zGt u u u (cq [0])<|fun r8 _ k p8 c8=>k<|zO<|zT 0 [6,7,8,9] u<|qM<|zH (gv (fun _ k=>k p8 c8) [900,901,902,903,904,905,906,907,908,909,910,911] (gq [0,2])))<|
  zYT (c := 7) (fun hb8=>wR 23 (vi 7) u (by rw [hb8])<|jdv (v := pt b2 7) 2 u (fun h=>zOG h u u (by decide) (by kernel_rfl) u)<|qS 3 1 u u u u<|vQ 4 0 2 u u u u<|zX 5<|
  qB (.f u) [10, 11] [] zGs u u u (cq [0])<|fun r9 _ k p9 c9=>k<|zO<|zT 0 [6,7,8,9] u<|qM<|zH (gv (fun _ k=>k p9 c9) [900,901,902,903,904,905,906,907,908,909,910,911] (gq [0,2])))<|
  zYT (c := 8) (fun hb9=>wR 23 (vi 8) u (by rw [hb9])<|jdv (v := pt b2 8) 2 u (fun h=>zOG h u u (by decide) (by kernel_rfl) u)<|qS 3 1 u u u u<|vQ 4 0 2 u u u u<|jno)<|zYT (c := 9) (fun hb10=>
  wR 23 (vi 9) u (by rw [hb10])<|jdv (v := pt b2 9) 2 u (fun h=>zOG h u u (by decide) (by kernel_rfl) u)<|qS 3 1 u u u u<|vQ 4 0 2 u u u u<|jno)<|jno)<|fun s1 _ k p2 c2=>k<|zK<|
  wW u (lT u (lT u lN)) (fun _ k=>k p2 c2) [] (gq [0])
end Go.Proofs.YthlaikjapnddkaaGreatDoor
