/- Part of the proof. Conditions: none. -/
import Derived.Test.YtjfjjkgaddknfaaGreatDoorProg
import Derived.Test.YtjfjjkgaddknfaaGreatDoorOps5
import Derived.Test.YtjfjjkgaddknfaaGreatDoorModels
import Derived.Test.YtjfjjkgaddknfaaGreatDoorSort
import Derived.Test.YtjfjjkgaddknfaaGreatDoorSort2
import Derived.Test.YtjfjjkgaddknfaaGreatDoorShelfP
import Derived.Test.YtjfjjkgaddknfaaGreatDoorArrl
import Derived.Test.YtjfjjkgaddknfaaGreatDoorSb4
import Derived.Test.YtjfjjkgaddknfaaGreatDoorFsl
import Derived.Test.YtjfjjkgaddknfaaGreatDoorArrw
import Derived.Test.YtjfjjkgaddknfaaGreatDoorGro
namespace Go.Proofs.YtjfjjkgaddknfaaGreatDoor
open Go Go.GD Tryz
set_option autoImplicit false
set_option linter.unusedVariables false
set_option maxRecDepth 100000
variable {p1 p2 p3 p4 p5 p6 p7 p8 p9 : Option Addr} {c1 c2 c3 c4 c5 c6 c7 c8 c9 : Nat} {b1 b2 b3 b4 b5 b6 b7 b8 b9 b10 b11 : Nat} {r_1 r_2 r_3 r_4 r_5 r_6 : zV}
abbrev zYJ : E uQ := vU (wJ (zO .i64)) (zO .i64)
abbrev z3G : tB zYJ := (oP oL oI)
abbrev wI : E zF := vU zT6 vM
abbrev yI : tB wI := (oP oB oS)
abbrev wP : E vO := vU wI (vU (zO .i64) (vU (zO .i64) vM))
abbrev zLa : tB wP := (oP yI (oP oI (oP oI oS)))
abbrev wF : E qK := vU vM (vU zT6 (vU (zO .i64) (vU (wJ wI) wI)))
abbrev zL5 : tB wF := (oP oS (oP oB (oP oI (oP oL yI))))
abbrev wO : E vN := vU vM (vU (zO .i64) wI)
abbrev zOY : tB wO := (oP oS (oP oI yI))
abbrev zYg : E zM := vU (wJ wP) (vU (wJ wF) (wJ wO))
abbrev z1g : tB zYg := (oP oL (oP oL oL))
abbrev wS : E zH := vU (zO .i64) (vU (zO .i64) (vU (wJ (zO .i64)) wI))
abbrev zSe : tB wS := (oP oI (oP oI (oP oL yI)))
abbrev zQX : E zAT := vU (wJ vM) zT6
abbrev zYP : tB zQX := (oP oL oB)
abbrev zPh : E yH := vU (zO .i64) (zO .i64)
abbrev zPv : tB zPh := (oP oI oI)
abbrev tQ : E wT := vU (zO .i64) (vU (zO .i64) (vU (zO .i64) (zO .i64)))
abbrev zTS : tB tQ := (oP oI (oP oI (oP oI oI)))
abbrev yJ : E wD := vU (zO .i64) (zO .i64)
abbrev zOL : tB yJ := (oP oI oI)
abbrev z0G : E vH := vU (zO .i64) (wJ yJ)
abbrev z1z : tB z0G := (oP oI oL)
abbrev zX9 : E zFh := vU zYg (vU (wJ wS) (vU (wJ tQ) z0G))
abbrev z3H : tB zX9 := (oP z1g (oP oL (oP oL z1z)))
abbrev zPc : E uW := vU zYg (vU (wJ wS) (vU (wJ wS) (zO .i64)))
abbrev zWd : tB zPc := (oP z1g (oP oL (oP oL oI)))
theorem zFA {qd : Prop} {y0 : uW} : yQ qd prog 65 [pt b1 0] [bx b1 120 [sv p1 y0.1.1 c1, sv p2 y0.1.2.1 c2, sv p3 y0.1.2.2 c3, sv p4 y0.2.1 c4, sv p5 y0.2.2.1 c5, vi y0.2.2.2]] [Rl wP p1 c1 y0.1.1, Rl wF p2 c2 y0.1.2.1, Rl wO p3 c3 y0.1.2.2, Rl wS p4 c4 y0.2.1, Rl wS p5 c5 y0.2.2.1] (zBI y0) fun L r K=>K (vb r) L [] :=
 qA call65 func65 u fun X=>jA 1 u<|yD [] [0] 13<|zY 11 [0,1] u<|qT 2 3 u u<|wH 3 0 u u u u<|zY 6 [4,5,6] u<|qT 7 4 u u<|wH 8 0 u u u u<|zY 0 [9,10,11,12] u<|qQ<|zP<|zJ<|zQ u u (fun _ k=>k) [0] ⟨⟩
theorem zI6 {qd : Prop} {y0 : List zH} {y1 : Int} : qF qd prog 75 [sv p1 y0 c1, vi y1] [] [Rl wS p1 c1 y0] (zAi y0 y1) fun r K=>K (vb r) [] [] :=
 qA call75 func75 u fun X=>jA 1 u<|jjp (fun K=>K [(4, vb ((decide (0 ≤ y1)) && (decide (y1 < (len y0)))))] [] []) (qL<|zA 3 u<|yY (b := decide (0 ≤ y1)) 7 u (fun hb1=>zA 4 u<|zI (vb (decide (y1 < (len y0))))<|zA 1 u<|zU<|
  wW 4 (vb ((decide (0 ≤ y1)) && (decide (y1 < (len y0))))) u (by rw [hb1]; rfl)<|zL (gv (fun _ k=>k) [] ⟨⟩))<|fun hb1=>zA 4 u<|zI (vb false)<|zA 1 u<|zU<|
  wW 4 (vb ((decide (0 ≤ y1)) && (decide (y1 < (len y0))))) u (by rw [hb1]; rfl)<|zL (gv (fun _ k=>k) [] ⟨⟩))<|fun _ k=>k<|zJ<|zQ u u (fun _ k=>k) [] ⟨⟩
theorem zGt {qd : Prop} {y0 : List Int} : qF qd prog 194 [sv p1 y0 c1] [r_1] [Al (zO .i64) 3 r_1 p1 c1 y0] (zAu y0) fun r K=>∀ p2 c2,K (sv p2 r c2) [[]] [Rl (zO .i64) p2 c2 r] :=
 qA call194 func194 u fun X=>jA 1 u<|zG<|jA 3 u<|zK u (jA 2 u<|zJ<|qE<|vF 0 0 u u<|zQ u u (fun _ k=>k p1 c1) [900] (gq [0]))<|jC<|zG<|jA 1 u<|zT<|qW (fun s1 K=>K [0] [] [0] [(3, vi s1)] []) (gv (fun _ k=>k) [0] (gq [0]))<|fun s1 _ k=>k<|
  zG<|jA 4 u<|zK u (jC<|zG<|zT<|yD [] [0] 10<|zY 8 [0,1] u<|jdI 2 0 u u u u<|fun x1 h1 b1 hp1=>jdL 3 0 0 sI false oI u u hp1 h1 u<|zY 3 [4,5,6] u<|jdI 7 0 u u u u<|fun x2 h2 b2 hp2=>
  jdL 8 0 0 sI false oI u u hp2 h2 u<|zY 0 [9] u<|qQ<|zP<|zK u (zB<|zA 2 u<|jsV 0 u u u<|fun u1 p2 c2 f1=>zA 1 u<|zC<|
  jjn (fun s2 K=>∀ r_2,K [(0, .slice p1 (List.length y0) c1), (3, vi s2.2)] [r_2] [Ar (zO .i64) 3 r_2 p1 c1 (List.length y0) s2.1]) (jA 1 u<|zT<|
  qW (fun s3 K=>∀ r_3,K [4] [(0, r_3)] [] [(0, .slice p1 (List.length y0) c1), (3, vi s3.2.1), (5, vi s3.2.2)] [Ar (zO .i64) 3 r_3 p1 c1 (List.length y0) s3.1]) (gv (fun _ k=>k r_1) [0] (gq [0]))<|fun s3 _ k r_3=>k<|zG<|jA 4 u<|
  zK u (jC<|zG<|zT<|yD [] [0] 10<|zY 8 [0,1] u<|jdX 2 0 u u f1 u u<|fun x3 b3 hp3 h3=>jdL 3 0 0 sI false oI u u hp3 h3 u<|zY 3 [4,5,6] u<|jdX 7 0 u u f1 u u<|fun x4 b4 hp4 h4=>
  jdL 8 0 0 sI false oI u u hp4 h4 u<|zY 0 [9] u<|qQ<|zP<|zK u (zB<|zA 4 u<|jiV 0 u f1 u u<|fun x5 b5 hp5 h5=>jlA 0 0 sI false oI u hp5 h5 u<|jia 0 u u u<|fun x6 h6 b6 hp6=>
  jsA .s 0 0 sI x5 false u hp6 h6 u u vI<|fun r_4=>zC<|jB 3 u<|qG<|zP<|jB 3 u<|qH (gv (fun _ k=>k r_4) [0] (gq [0])))<|wG<|qG<|zP<|jB 3 u<|qH (gv (fun _ k=>k r_3) [0] (gq [0])))<|qS<|qP<|qU<|qR<|
  zL (gv (fun _ k=>k r_3) [0] (gq [0])))<|fun s2 _ k r_2=>k<|zB<|zA 2 u<|jsV 0 u u u<|fun u2 p3 c3 f2=>jcv .s 0 0 0 (vi 0) u f2 u vI<|fun r_5=>zC<|zB<|zA 2 u<|jsP 0 u u u<|fun x7=>zA 1 u<|zC<|zJ<|qO<|qE<|wU<|
  qO<|qE<|vF 0 0 u u<|zQ u u (fun _ k=>k p1 c1) [900] (gq [0]))<|wG<|qG<|zP<|jB 3 u<|qH (gv (fun _ k=>k) [0] (gq [0])))<|qS<|qP<|qU<|qR<|zP<|jA 2 u<|zJ<|vF 0 0 u u<|zQ u u (fun _ k=>k p1 c1) [900] (gq [0])
theorem zGe {qd : Prop} {y0 : List Int} : qF qd prog 193 [sv p1 y0 c1] [r_1] [Al (zO .i64) 3 r_1 p1 c1 y0] (zBC y0) fun r K=>∀ r_2,K (.tuple #[]) [r_2] [Ar (zO .i64) 3 r_2 p1 c1 (List.length y0) r] := ⟨call193, fun A w0 r hm hO hF => by
 have h := z04 (qd := qd) Tryz.sorts193 (te := 3) hO hF.1.1 hm
 change Calls prog 193 _ _ _ at h
 refine h.mono fun e w' h => ?_
 cases e with
 | returned v => obtain ⟨r', rfl, h1, h2, h3, h4⟩ := h; exact fun G k => k r' ⟨rfl, h1, h2, ⟨h3, h4.symm⟩, trivial⟩
 | panicked ch => exact h
 | outgrown => exact h⟩
theorem zO2 {qd : Prop} (k : Nat) :
    (∀ {y0 : List zH} {p1 : Option Addr} {c1 : Nat} {y1 : Int}, qF qd prog 125 [sv p1 y0 c1, vi y1] [] [Rl wS p1 c1 y0] (zC5 k y0 y1) fun r K=>∀ p2 c2,K (sv p2 r c2) [] [Rl (zO .i64) p2 c2 r]) := by
  induction k with
  | zero => exact z07 call125
  | succ k ih =>
    have ih_argument_Subs := @ih
    exact @fun y0 p1 c1 y1=>qA (m1 := zEl (zC5 k) y0 y1) call125 func125 u fun X=>jA 1 u<|zG<|zB<|zA 2 u<|qI zI6 u (cq [0])<|fun r1 _ k=>k<|zA 1 u<|zC<|zK u (jA 1 u<|zJ<|qE<|zQ u u (fun _ k=>k none 0) [] ⟨gn,⟨⟩⟩)<|jC<|zB<|zA 1 u<|
  xE .s (e := zO .i64) 3 [vi y1] ([y1] : List Int) (rC vI rN)<|fun r_1 p2 c2=>zA 1 u<|zC<|jjn (fun s1 K=>∀ p3 c3 r_2,K [(5, sv p3 s1 c3)] [r_2] [Al (zO .i64) 3 r_2 p3 c3 s1]) (zB<|zA 2 u<|wC 1 u u u<|fun x1 b1 o1=>
  zN 2 u<|wA false oL (gf (gs (gs (gk 0)))) u<|fun p4 c4=>zA 2 u<|zC<|zT<|
  qW (fun s2 K=>∀ p5 c5 r_3,K [0,18,19] [(0, r_3)] [3,0] [(5, sv p5 s2.1 c5), (20, vi s2.2)] [Al (zO .i64) 3 r_3 p5 c5 s2.1]) (gv (fun _ k=>k p2 c2 r_1) [0] (gq [2,3,0]))<|fun s2 _ k p5 c5 r_3=>k<|jA 1 u<|zG<|zK u (jC<|zG<|zT<|
  zB<|wC 2 u u u<|fun x2 b2 o2=>wA false oI (gk 0) u<|zA 1 u<|zC<|qL<|zA 3 u<|qI ih_argument_Subs u (cq [2])<|fun r2 _ k p6 c6=>k<|wL .s 0 2 u (gk 0) u u<|fun x3 r_4 p7 c7=>zA 1 u<|zU<|qG<|zP<|jB 2 u<|
  qH (gv (fun _ k=>k p7 c7 r_4) [0] (gq [0,4,5])))<|qS<|qP<|qU<|qR<|zL (gv (fun _ k=>k p5 c5 r_3) [0] (gq [0])))<|fun s1 _ k p3 c3 r_2=>k<|zB<|zA 1 u<|zZ .s [0] [] zGe u u u (cq [0])<|fun r3 _ k r_5=>k<|zC<|
  zB<|zA 1 u<|jrE 0 32 u u<|zZ .s [0] [] zGt u u u (cq [0])<|fun r4 _ k p8 c8=>k<|zA 1 u<|zC<|zJ<|zQ u u (fun _ k=>k p8 c8) [] (gq [0])
theorem zJm {qd : Prop} {y0 : List zH} {y1 : Int} : qF qd prog 125 [sv p1 y0 c1, vi y1] [] [Rl wS p1 c1 y0] (zDI y0 y1) fun r K=>∀ p2 c2,K (sv p2 r c2) [] [Rl (zO .i64) p2 c2 r] := zP3 fun k => (zO2 k)
theorem zIl {qd : Prop} {y0 : zM} {y1 : List zH} {y2 : Int} : qF qd prog 180 [.agg #[sv p1 y0.1 c1, sv p2 y0.2.1 c2, sv p3 y0.2.2 c3], sv p4 y1 c4, vi y2] [] [Rl wP p1 c1 y0.1, Rl wF p2 c2 y0.2.1, Rl wO p3 c3 y0.2.2, Rl wS p4 c4 y1] (zB7 y0 y1 y2) fun r K=>∀ p5 c5,K (sv p5 r c5) [] [Rl (zO .i64) p5 c5 r] :=
 qA call180 func180 u fun X=>zB<|qZ .s u<|fun b1=>zA 1 u<|zC<|zB<|zA 1 u<|vT (zO .i64) 3<|zC<|jjn (fun s1 K=>∀ p5 c5 r_1,K [(7, sv p5 s1 c5)] [[], r_1] [Al (zO .i64) 3 r_1 p5 c5 s1]) (zB<|zA 2 u<|qI zJm u (cq [4])<|
  fun r1 _ k p6 c6=>k<|zA 2 u<|zC<|zT<|qW (fun s2 K=>∀ p7 c7 r_2,K [1,3,13,14] [(1, r_2)] [5,0,2,3,4] [(7, sv p7 s2.1 c7), (15, vi s2.2)] [Al (zO .i64) 3 r_2 p7 c7 s2.1]) (gv (fun _ k=>k none 0 []) [0,1] (gq [1,5,0,2,3,4]))<|
  fun s2 _ k p7 c7 r_2=>k<|jA 1 u<|zG<|zK u (jC<|zG<|zT<|zB<|wC 2 u u u<|fun x1 b2 o1=>wA false oI (gk 0) u<|zA 1 u<|zC<|zB<|zA 2 u<|wC 2 u u u<|fun x2 b3 o2=>zN 1 u<|wA false oI (gf (gs (gk 0))) u<|
  zA 1 u<|zC<|wK (fun s3 K=>K [1,3,7,10,13,14,15] [] [3,2,4,5,6,7] [(34, vb s3)] []) (qL<|zA 3 u<|wM 26 u (zN 1 u<|zS 0 u u u<|zA 1 u<|wC 6 u u u<|fun x3 b4 o3=>zN 1 u<|wA false oB (gf (gs (gk 0))) u<|
  zA 1 u<|zI (vb (!x3.2.1))<|zU<|zL (gv (fun _ k=>k) [0,1] (gq [4,3,5,6,7,8])))<|zA 7 u<|zI (vb false)<|zU<|zL (gv (fun _ k=>k) [0,1] (gq [3,2,4,5,6,7])))<|fun s3 _ k=>k<|zK u (qL<|zA 2 u<|
  vD .s (e := zO .i64) 3 [vi x2.2.1] ([x2.2.1] : List Int) (rC vI rN)<|fun p8 c8=>wL .s 1 2 u (gk 0) u u<|fun x4 r_3 p9 c9=>zA 1 u<|zU<|qG<|zP<|jB 2 u<|qH (gv (fun _ k=>k p9 c9 r_3) [0,1] (gq [0,2,4,5,6,7])))<|wG<|qG<|
  zP<|jB 2 u<|qH (gv (fun _ k=>k p7 c7 r_2) [0,1] (gq [1,0,2,3,4,5])))<|qS<|qP<|qU<|qR<|zL (gv (fun _ k=>k p7 c7 r_2) [900,1] (gq [0])))<|fun s1 _ k p5 c5 r_1=>k<|zB<|zA 1 u<|zZ .s [1] [] zGe u u u (cq [0])<|
  fun r2 _ k r_4=>k<|zC<|zB<|zA 1 u<|jrE 0 42 u u<|zZ .s [1] [] zGt u u u (cq [0])<|fun r3 _ k p10 c10=>k<|zA 1 u<|zC<|zJ<|zQ u u (fun _ k=>k p10 c10) [] (gq [0])
theorem zP2 {qd : Prop} (k : Nat) :
    (∀ {y0 : zM} {p1 : Option Addr} {c1 : Nat} {p2 : Option Addr} {c2 : Nat} {p3 : Option Addr} {c3 : Nat} {y1 : List zH} {p4 : Option Addr} {c4 : Nat} {y2 : Int}, qF qd prog 179 [.agg #[sv p1 y0.1 c1, sv p2 y0.2.1 c2, sv p3 y0.2.2 c3], sv p4 y1 c4, vi y2] [] [Rl wP p1 c1 y0.1, Rl wF p2 c2 y0.2.1, Rl wO p3 c3 y0.2.2, Rl wS p4 c4 y1] (zCX k y0 y1 y2) fun r K=>∀ p5 c5,K (sv p5 r c5) [] [Rl wI p5 c5 r]) := by
  induction k with
  | zero => exact z07 call179
  | succ k ih =>
    have ih_argument_run := @ih
    exact @fun y0 p1 c1 p2 c2 p3 c3 y1 p4 c4 y2=>qA (m1 := zFg (zCX k) y0 y1 y2) call179 func179 u fun X=>zB<|qZ .s u<|fun b1=>zA 1 u<|zC<|zB<|zA 2 u<|wC 3 u u u<|fun x1 b2 o1=>zN 3 u<|wA true yI (gs (gs (gs (gk 0)))) u<|
  xE .s (e := wI) 62 [vb x1.2.2.2.1, vs x1.2.2.2.2] ([x1.2.2.2] : List zF) (rC (vP vB vS) rN)<|fun r_1 p5 c5=>zA 1 u<|zC<|zG<|zB<|zA 2 u<|wC 5 u u u<|fun x2 b3 o2=>zN 1 u<|wA false oI (gf (gs (gk 0))) u<|
  zA 1 u<|zC<|wK (fun s1 K=>K [1,2,3,7] [] [6,1,3,4,5] [(31, vb s1)] []) (qL<|zA 3 u<|wM 24 u (zN 1 u<|zS 0 u u u<|zA 1 u<|wC 4 u u u<|fun x3 b4 o3=>zN 1 u<|wA false oB (gf (gs (gk 0))) u<|
  zI (vb x3.2.1)<|zU<|zL (gv (fun _ k=>k) [0,1] (gq [7,2,4,5,6])))<|zA 6 u<|zI (vb false)<|zU<|zL (gv (fun _ k=>k) [0,1] (gq [6,1,3,4,5])))<|fun s1 _ k=>k<|zK u (zB<|zA 2 u<|wC 0 u u u<|fun x4 b5 o4=>zN 2 u<|
  wA false oL (gf (gs (gs (gk 0)))) u<|fun p6 c6=>zA 2 u<|zC<|zT<|
  qW (fun s2 K=>∀ p7 c7 r_2,K [1,3,36,37] [(1, r_2)] [2,0,4,5,6] [(7, sv p7 s2.1 c7), (38, vi s2.2)] [Al wI 62 r_2 p7 c7 s2.1]) (gv (fun _ k=>k p5 c5 r_1) [0,1] (gq [3,2,0,4,5,6]))<|fun s2 _ k p7 c7 r_2=>k<|jA 1 u<|zG<|zK u (
  jC<|zG<|zT<|zB<|wC 2 u u u<|fun x5 b6 o5=>wA false oI (gk 0) u<|zA 1 u<|zC<|qL<|zA 1 u<|qV 0 3 u u u<|zA 2 u<|qI ih_argument_run u (cq [4,5,6,2])<|fun r1 _ k p8 c8=>k<|wL .s 1 2 u (gk 0) u u<|
  fun x6 r_3 p9 c9=>zA 1 u<|zU<|qG<|zP<|jB 2 u<|qH (gv (fun _ k=>k p9 c9 r_3) [0,1] (gq [0,4,5,6,7,8])))<|qS<|qP<|qU<|qR<|zP<|jA 2 u<|zJ<|vF 1 0 u u<|zQ u u (fun _ k=>k p7 c7) [] (gq [0]))<|jC<|jA 2 u<|zJ<|
  vF 1 1 u u<|zQ u u (fun _ k=>k p5 c5) [] (gq [0])
theorem zSY {qd : Prop} {y0 : zM} {y1 : List zH} {y2 : Int} : qF qd prog 179 [.agg #[sv p1 y0.1 c1, sv p2 y0.2.1 c2, sv p3 y0.2.2 c3], sv p4 y1 c4, vi y2] [] [Rl wP p1 c1 y0.1, Rl wF p2 c2 y0.2.1, Rl wO p3 c3 y0.2.2, Rl wS p4 c4 y1] (zEI y0 y1 y2) fun r K=>∀ p5 c5,K (sv p5 r c5) [] [Rl wI p5 c5 r] := zP3 fun k => (zP2 k)
theorem zMW {qd : Prop} {y0 : List zF} {y1 : zF} : qF qd prog 156 [sv p1 y0 c1, .agg #[vb y1.1, vs y1.2]] [] [Rl wI p1 c1 y0] (zBp y0 y1) fun r K=>K (vi r) [] [] :=
 qA call156 func156 u fun X=>zB<|qZ .s u<|fun b1=>zA 1 u<|zC<|zG<|jA 3 u<|zT<|qW (fun s1 K=>K [0,3,7] [] [0] [(8, vi s1)] []) (gv (fun _ k=>k) [0] (gq [0]))<|fun s1 _ k=>k<|jA 1 u<|zG<|zK u (jC<|zG<|zT<|jA 2 u<|yD [] [0] 6<|
  vQ 0 0 2 u u u u<|zY 3 [1,2] u<|yO 3 0 u u u u<|fun x1 b2 o1=>yK 4 true yI u (gk 0) u<|wR 5 (vb (y1 == x1)) u<|qQ<|zP<|zK u (jA 2 u<|zJ<|qO<|qE<|wU<|qO<|qE<|zQ u u (fun _ k=>k) [] ⟨⟩)<|
  wG<|qG<|zP<|jB 2 u<|qH (gv (fun _ k=>k) [0] (gq [1])))<|qS<|qP<|qU<|qR<|zP<|jA 1 u<|zJ<|zQ u u (fun _ k=>k) [] ⟨⟩
theorem zKi {qd : Prop} {y0 : List zF} {y1 : zF} : qF qd prog 96 [sv p1 y0 c1, .agg #[vb y1.1, vs y1.2]] [] [Rl wI p1 c1 y0] (zBr y0 y1) fun r K=>K (vb r) [] [] :=
 qA call96 func96 u fun X=>zB<|qZ .s u<|fun b1=>zA 1 u<|zC<|zB<|zA 1 u<|qV 0 2 u u u<|qI zMW u (cq [0])<|fun r1 _ k=>k<|zA 2 u<|zC<|zJ<|zQ u u (fun _ k=>k) [] ⟨⟩
theorem zMG {qd : Prop} {y0 : List zF} {y1 : zF} : qF qd prog 46 [sv p1 y0 c1, .agg #[vb y1.1, vs y1.2]] [] [Rl wI p1 c1 y0] (zDf y0 y1) fun r K=>K (vb r) [] [] :=
 qA call46 func46 u fun X=>zB<|qZ .s u<|fun b1=>zA 1 u<|zC<|zB<|zA 1 u<|qV 0 2 u u u<|qI zKi u (cq [0])<|fun r1 _ k=>k<|zA 1 u<|zC<|zJ<|zQ u u (fun _ k=>k) [] ⟨⟩
theorem zP9 {qd : Prop} {y0 : List Int} {y1 : Int} : qF qd prog 192 [sv p1 y0 c1, vi y1] [] [Rl (zO .i64) p1 c1 y0] (zDh y0 y1) fun r K=>K (vi r) [] [] :=
 qA call192 func192 u fun X=>jA 1 u<|zG<|jA 3 u<|zT<|qW (fun s1 K=>K [0,1,7] [] [0] [(8, vi s1)] []) (gv (fun _ k=>k) [] (gq [0]))<|fun s1 _ k=>k<|jA 1 u<|zG<|zK u (jC<|zG<|zT<|jA 2 u<|zB<|zA 3 u<|wC 0 u u u<|fun x1 b1 o1=>
  wA false oI (gk 0) u<|zA 1 u<|zC<|zK u (jA 2 u<|zJ<|qO<|qE<|wU<|qO<|qE<|zQ u u (fun _ k=>k) [] ⟨⟩)<|wG<|qG<|zP<|jB 2 u<|qH (gv (fun _ k=>k) [] (gq [1])))<|qS<|qP<|qU<|qR<|zP<|jA 1 u<|zJ<|
  zQ u u (fun _ k=>k) [] ⟨⟩
theorem zDk {qd : Prop} {y0 : List Int} {y1 : Int} : qF qd prog 124 [sv p1 y0 c1, vi y1] [] [Rl (zO .i64) p1 c1 y0] (zAn y0 y1) fun r K=>K (vb r) [] [] :=
 qA call124 func124 u fun X=>jA 1 u<|zB<|zA 2 u<|qI zP9 u (cq [0])<|fun r1 _ k=>k<|zA 2 u<|zC<|zJ<|zQ u u (fun _ k=>k) [] ⟨⟩
theorem zQD {qd : Prop} {y0 : zM} {y1 : List zH} {y2 : Int} {y3 : List Int} : qF qd prog 118 [.agg #[sv p1 y0.1 c1, sv p2 y0.2.1 c2, sv p3 y0.2.2 c3], sv p4 y1 c4, vi y2, sv p5 y3 c5] [] [Rl wP p1 c1 y0.1, Rl wF p2 c2 y0.2.1, Rl wO p3 c3 y0.2.2, Rl wS p4 c4 y1, Rl (zO .i64) p5 c5 y3] (zCU y0 y1 y2 y3) fun r K=>K (vb r) [] [] :=
 qA call118 func118 u fun X=>zB<|qZ .s u<|fun b1=>zA 1 u<|zC<|zG<|jA 3 u<|zT<|qW (fun s1 K=>K [1,2,4,11,12] [] [3,4,0,1,2] [(13, vi s1)] []) (gv (fun _ k=>k) [0] (gq [3,4,0,1,2]))<|fun s1 _ k=>k<|jA 1 u<|zG<|zK u (jC<|zG<|zT<|zB<|
  wC 1 u u u<|fun x1 b2 o1=>wA false oI (gk 0) u<|zA 1 u<|zC<|zB<|zN 1 u<|zS 0 u u u<|zA 1 u<|wC 4 u u u<|fun x2 b3 o2=>zN 1 u<|wA false oB (gf (gs (gk 0))) u<|zC<|zK u (yD [] [0] 11<|
  vQ 0 0 3 u u u u<|zY 8 [1,2] u<|qT 4 1 u u<|wH 5 0 u u u u<|zY 5 [6] u<|yO 7 5 u u u u<|fun x3 b4 o3=>qT 8 4 u u<|yK 9 true yI u (gs (gs (gs (gs (gk 0))))) u<|qB 3<|
  zZ (.f u) [] [] zSY u u u (cq [5,6,7,3])<|fun r1 _ k p6 c6=>k<|zX<|qB 10<|zZ (.f u) [] [] zMG u u u (cq [0])<|fun r2 _ k=>k<|zX<|qQ<|zP<|zK u (jA 1 u<|zJ<|qO<|qE<|wU<|qO<|qE<|
  zQ u u (fun _ k=>k) [] ⟨⟩)<|wG<|qG<|zP<|jB 2 u<|qH (gv (fun _ k=>k) [0] (gq [4,5,6,7,8])))<|zB<|qV 0 3 u u u<|zA 2 u<|qI zIl u (cq [4,5,6,2])<|fun r3 _ k p7 c7=>k<|zA 1 u<|
  qI zDk u (cq [0])<|fun r4 _ k=>k<|zC<|zK u (jA 1 u<|zJ<|qO<|qE<|wU<|qO<|qE<|zQ u u (fun _ k=>k) [] ⟨⟩)<|wG<|qG<|zP<|jB 2 u<|qH (gv (fun _ k=>k) [0] (gq [3,4,5,6,7])))<|qS<|qP<|qU<|qR<|zP<|
  jA 1 u<|zJ<|zQ u u (fun _ k=>k) [] ⟨⟩
theorem zK9 {qd : Prop} {y0 : List Int} : qF qd prog 115 [sv p1 y0 c1] [] [Rl (zO .i64) p1 c1 y0] (zDi y0) fun r K=>∀ p2 c2 r_1,K (sv p2 r c2) [r_1] [Al (zO .i64) 3 r_1 p2 c2 r] :=
 qA call115 func115 u fun X=>jA 1 u<|zG<|zB<|zA 1 u<|jv (fun h=>zZU h u underlying22)<|zC<|jnl (m1 := some ([] : List Int)) u (gk 0) (fun h=>by first|(rw [h];done)|(rw [h];rfl)|(simp [h,wB];done)) (jA 1 u<|zJ<|qE<|vT (zO .i64) 3<|
  jrE 0 2 u u<|zQ u u (fun _ k=>k none 0 []) [0] (gq [0]))<|jC<|zB<|xE .s (e := zO .i64) 3 [] ([] : List Int) rN<|fun r_1 p2 c2=>zA 1 u<|wL .s 0 0 u (gk 1) u u<|fun x1 r_2 p3 c3=>zA 1 u<|zC<|zJ<|
  zQ u u (fun _ k=>k p3 c3 r_2) [0] (gq [0])
theorem zKK {qd : Prop} {y0 : Int} {y2 : uW} : yQ qd prog 117 [vi y0, pt b1 0] [bx b1 118 [pt b2 0], bx b2 120 [sv p1 y2.1.1 c1, sv p2 y2.1.2.1 c2, sv p3 y2.1.2.2 c3, sv p4 y2.2.1 c4, sv p5 y2.2.2.1 c5, vi y2.2.2.2]] [Rl wP p1 c1 y2.1.1, Rl wF p2 c2 y2.1.2.1, Rl wO p3 c3 y2.1.2.2, Rl wS p4 c4 y2.2.1, Rl wS p5 c5 y2.2.2.1] (zD5 y0 y2) fun L r K=>K (vb r) L [] :=
 qA call117 func117 u fun X=>jA 1 u<|zB<|zA 1 u<|zS 0 u u u<|zA 1 u<|zN 5 u<|zS 1 u u u<|zA 2 u<|zC<|zJ<|zQ u u (fun _ k=>k) [0,1] ⟨⟩
theorem zDn {qd : Prop} {y0 : List Int} {y2 : uW} : yQ qd prog 178 [sv p1 y0 c1, .func (.func 117) #[] #[pt b1 0]] [bx b1 118 [pt b2 0], bx b2 120 [sv p2 y2.1.1 c2, sv p3 y2.1.2.1 c3, sv p4 y2.1.2.2 c4, sv p5 y2.2.1 c5, sv p6 y2.2.2.1 c6, vi y2.2.2.2]] [Rl (zO .i64) p1 c1 y0, Rl wP p2 c2 y2.1.1, Rl wF p3 c3 y2.1.2.1, Rl wO p4 c4 y2.1.2.2, Rl wS p5 c5 y2.2.1, Rl wS p6 c6 y2.2.2.1] (zAF y0 y2) fun L r K=>K (vi r) L [] :=
 qA call178 func178 u fun X=>jA 1 u<|zG<|jA 3 u<|zT<|qW (fun s1 K=>K [0,1,7] [] [0,1,2,3,4,5] [(8, vi s1)] []) (gv (fun _ k=>k) [0,1] (gq [0,1,2,3,4,5]))<|fun s1 _ k=>k<|jA 1 u<|zG<|zK u (jC<|zG<|zT<|jA 2 u<|zB<|zA 3 u<|wC 0 u u u<|
  fun x1 b3 o1=>wA false oI (gk 0) u<|zZ .s [0, 1] [] zKK u u u (cq [2,3,4,5,6])<|fun r1 _ k=>k<|zC<|zK u (jA 2 u<|zJ<|qO<|qE<|wU<|qO<|qE<|zQ u u (fun _ k=>k) [0,1] ⟨⟩)<|wG<|qG<|zP<|
  jB 2 u<|qH (gv (fun _ k=>k) [0,1] (gq [1,2,3,4,5,6])))<|qS<|qP<|qU<|qR<|zP<|jA 1 u<|zJ<|zQ u u (fun _ k=>k) [0,1] ⟨⟩
theorem zDJ {qd : Prop} {y0 : List Int} {y2 : uW} : yQ qd prog 116 [sv p1 y0 c1, .func (.func 117) #[] #[pt b1 0]] [bx b1 118 [pt b2 0], bx b2 120 [sv p2 y2.1.1 c2, sv p3 y2.1.2.1 c3, sv p4 y2.1.2.2 c4, sv p5 y2.2.1 c5, sv p6 y2.2.2.1 c6, vi y2.2.2.2]] [Rl (zO .i64) p1 c1 y0, Rl wP p2 c2 y2.1.1, Rl wF p3 c3 y2.1.2.1, Rl wO p4 c4 y2.1.2.2, Rl wS p5 c5 y2.2.1, Rl wS p6 c6 y2.2.2.1] (zAA y0 y2) fun L r K=>K (vb r) L [] :=
 qA call116 func116 u fun X=>jA 1 u<|zB<|zA 2 u<|zZ .s [0, 1] [] zDn u u u (cq [0,1,2,3,4,5])<|fun r1 _ k=>k<|zA 2 u<|zC<|zJ<|zQ u u (fun _ k=>k) [0,1] ⟨⟩
theorem zIq {qd : Prop} (k : Nat) :
    (∀ {y0 : uW} {b1 : Nat} {p1 : Option Addr} {c1 : Nat} {p2 : Option Addr} {c2 : Nat} {p3 : Option Addr} {c3 : Nat} {p4 : Option Addr} {c4 : Nat} {r_1 : zV} {p5 : Option Addr} {c5 : Nat} {r_2 : zV} {y1 : Int} {y2 : List Int} {p6 : Option Addr} {c6 : Nat}, qF qd prog 64 [pt b1 0, vi y1, sv p6 y2 c6] [bx b1 120 [sv p1 y0.1.1 c1, sv p2 y0.1.2.1 c2, sv p3 y0.1.2.2 c3, sv p4 y0.2.1 c4, sv p5 y0.2.2.1 c5, vi y0.2.2.2], r_1, r_2] [Rl wP p1 c1 y0.1.1, Rl wF p2 c2 y0.1.2.1, Rl wO p3 c3 y0.1.2.2, Al wS 112 r_1 p4 c4 y0.2.1, Al wS 112 r_2 p5 c5 y0.2.2.1, Rl (zO .i64) p6 c6 y2] (zA7 k y0 y1 y2) fun r K=>∀ p7 c7 r_3,K (.tuple #[]) [bx b1 120 [sv p1 y0.1.1 c1, sv p2 y0.1.2.1 c2, sv p3 y0.1.2.2 c3, sv p4 y0.2.1 c4, sv p7 r c7, vi y0.2.2.2], r_1, r_3] [Al wS 112 r_3 p7 c7 r]) := by
  induction k with
  | zero => exact z07 call64
  | succ k ih =>
    have ih_argument_builder_apply_2 := @ih
    exact @fun y0 b1 p1 c1 p2 c2 p3 c3 p4 c4 r_1 p5 c5 r_2 y1 y2 p6 c6=>qA (m1 := zBE (zA7 k) y0 y1 y2) call64 func64 u fun X=>zB<|qZ .s u<|fun b2=>zC<|zB<|zS 3 u u u<|zA 1 u<|zN 0 u<|zN 1 u<|zS 0 u u u<|zA 1 u<|wC 1 u u u<|fun x1 b3 o1=>zN 3 u<|wA false oL (gf (gs (gs (gs (gk 0))))) u<|fun p7 c7=>zA 1 u<|zC<|zG<|
  zB<|zS 3 u u u<|zZ .s [0] [1, 2] zFA u u u ⟨ck 2,ck 3,ck 4,cl 1 5,cl 2 6,⟨⟩⟩<|fun r1 _ k=>k<|zC<|zK u (zJ<|qE<|wQ u lN (fun _ k=>k p5 c5 r_2) [0,1,2] (gq [6]))<|jC<|
  zX2 (fun s1 K=>K [1,2,3] [] [7,2,3,4,5,6] [] []) (jA 5 u<|zK u (zG<|zB<|zS 3 u u u<|zA 1 u<|zN 3 u<|zS 0 u u u<|zA 2 u<|zC<|zT<|
  qW (fun s2 K=>∀ p8 c8 r_3,K [1,2,3,6,28,29] [(0, bx b1 120 [sv p1 y0.1.1 c1, sv p2 y0.1.2.1 c2, sv p3 y0.1.2.2 c3, sv p4 y0.2.1 c4, sv p8 s2.2 c8, vi y0.2.2.2]), (2, r_3)] [7,0,5,2,3,4] [(30, vi s2.1)] [Al wS 112 r_3 p8 c8 s2.2]) (gv (fun _ k=>k p5 c5 r_2) [0,1,2,3] (gq [6,7,0,5,2,3,4]))<|
  fun s2 _ k p8 c8 r_3=>k<|jA 1 u<|zG<|zK u (jC<|zG<|zT<|zB<|zA 1 u<|jia 3 u u u<|fun x2 h1 b4 hp1=>jlA 1 3 sI true zSe u hp1 h1 u<|fun p9 c9=>wN .s (.agg #[vi 0, vi 0, .slice none 0 0, vb false, vs []])<|
  fun b5=>zA 1 u<|qJ .s 4 u u u<|zC<|yD [] [4] 8<|qT 0 3 u u<|vQ 1 4 2 u u u u<|zY 3 [2,3,4] u<|yO 5 3 u u u u<|fun x3 b6 o2=>yK 6 true yI u (gk 0) u<|wR 7 (vb (x2.2.2.2 == x3)) u<|qQ<|
  zP<|zK u (
  jjcK (fun s3 K=>∀ p10 c10 r_4,K [1,2,3,6,28,29,30] [(0, bx b1 120 [sv p1 y0.1.1 c1, sv p2 y0.1.2.1 c2, sv p3 y0.1.2.2 c3, sv p4 y0.2.1 c4, sv p10 s3 c10, vi y0.2.2.2]), (2, r_4), (4, [])] [3,4,5,6,7,8] [] [Al wS 112 r_4 p10 c10 s3]) (
  uT [] [3] 8<|wH 0 3 u u u u<|zY 4 [1,2,4] u<|jd2 3 5 (zZ (.f u) [] [] zK9 u u u (cq [3])<|fun r2 _ k p11 c11 r_5=>k<|zX<|qB 5<|vD (.f u) (e := zO .i64) 3 [vi s2.1] ([s2.1] : List Int) (rC vI rN)<|
  fun p12 c12=>zX<|qB 6<|wL (.f u) 5 1 u (gk 0) u u<|fun x4 r_6 p13 c13=>zX<|vF 5 0 u u<|qB 7<|zZ (.f u) [0, 1, 2] [] ih_argument_builder_apply_2 u u u (cq [10,11,12,9,6,0])<|fun r3 _ k p14 c14 r_7=>k<|zX<|qQ<|
  zL (gv (fun _ k=>k p14 c14 r_7) [0,1,2,3,904] (gq [0,8,9,10,11,12,13]))) <|vD (.f u) (e := zO .i64) 3 [vi s2.1] ([s2.1] : List Int) (rC vI rN)<|fun p15 c15=>zX<|qB 3<|zZ (.f u) [] [] zK9 u u u (cq [4])<|
  fun r4 _ k p16 c16 r_8=>k<|zX<|qB 6<|wL (.f u) 5 0 u (gk 1) u u<|fun x5 r_9 p17 c17=>zX<|vF 5 0 u u<|qB 7<|zZ (.f u) [0, 1, 2] [] ih_argument_builder_apply_2 u u u (cq [10,11,12,9,6,0])<|fun r5 _ k p18 c18 r_10=>
  k<|zX<|qQ<|zL (gv (fun _ k=>k p18 c18 r_10) [0,1,2,3,904] (gq [0,8,9,10,11,12,13])))<|fun s3 _ k p10 c10 r_4=>k<|qG<|zP<|jB 2 u<|qH (gv (fun _ k=>k p10 c10 r_4) [0,1,2,3] (gq [0,1,2,3,4,5,6])))<|wG<|qG<|zP<|jB 2 u<|
  qH (gv (fun _ k=>k p8 c8 r_3) [0,1,2,3] (gq [2,3,4,5,6,7,8])))<|qS<|qP<|qU<|qR<|zP<|zJ<|wU<|wQ u lN (fun _ k=>k p8 c8 r_3) [0,1,2] (gq [0]))<|wG<|qH (gv (fun _ k=>k) [0,1,2,3] (gq [7,2,3,4,5,6])))<|fun s1 _ k=>k<|
  wK (fun s4 K=>K [1,2,3] [] [0,1,2,3,4,5] [(67, vb s4)] []) (uT [] [0, 3] 16<|zY 14 [0,1] u<|qB 2<|zZ (.f u) [3, 0] [1, 2] zDJ u u u ⟨ck 0,ck 1,ck 2,ck 3,cl 1 4,cl 2 5,⟨⟩⟩<|
  fun r6 _ k=>k<|zX<|zY 12 [3] u<|wM 55 u (wH 4 3 u u u u<|zY 10 [5] u<|qT 6 0 u u<|vQ 7 0 3 u u u u<|wH 8 3 u u u u<|zY 6 [9] u<|qT 10 3 u u<|wH 11 0 u u u u<|zY 2 [12,13] u<|
  qB 14<|zZ (.f u) [] [1] zQD u u u ⟨ck 1,ck 2,ck 3,cl 1 4,ck 0,⟨⟩⟩<|fun r7 _ k=>k<|zX<|wR 15 (vb r7) u<|qQ<|zL (gv (fun _ k=>k) [0,1,2,3] (gq [0,1,2,3,4,5])))<|zY 1 [4,5,6,7,8,9,10,11,12,13,14] u<|
  wR 15 (vb false) u<|qQ<|zL (gv (fun _ k=>k) [0,1,2,3] (gq [0,1,2,3,4,5])))<|fun s4 _ k=>k<|zK u (uT [21] [0, 3] 22<|wH 0 3 u u u u<|wH 1 3 u u u u<|zY 19 [2] u<|qT 3 4 u u<|wH 4 0 u u u u<|
  zY 15 [5,6] u<|wH 7 3 u u u u<|zY 13 [8] u<|qT 9 0 u u<|qT 10 1 u u<|wH 11 0 u u u u<|zY 9 [12] u<|yO 13 2 u u u u<|fun x6 b7 o3=>qT 14 4 u u<|
  yK 15 true yI u (gs (gs (gs (gs (gk 0))))) u<|wR 16 (.agg #[vi (-1), vi y1, sv p6 y2 c6, vb x6.2.2.2.2.1, vs x6.2.2.2.2.2]) u<|qB 17<|
  vD (.f u) (e := wS) 112 [vi (-1), vi y1, sv p6 y2 c6, vb x6.2.2.2.2.1, vs x6.2.2.2.2.2] ([((-1), y1, y2, x6.2.2.2.2)] : List zH) (rC (vP vI (vP vI (vP (vL (gk 1)) (vP vB vS)))) rN)<|fun p19 c19=>zX<|qB 18<|
  wL (.f u) 2 7 u (gk 0) u u<|fun x7 r_11 p20 c20=>zX<|zY 2 [19] u<|qT 20 4 u u<|qB 21<|qJ (o := 4) (.f u) 0 u u u<|jdb [] [0, 3]<|qQ<|jrn<|wQ u lN (fun _ k=>k p20 c20 r_11) [0,1,2] (gq [0]))<|wG<|jrn<|
  wQ u lN (fun _ k=>k p5 c5 r_2) [0,1,2] (gq [5])
theorem zKR {qd : Prop} {y0 : uW} {y1 : Int} {y2 : List Int} : qF qd prog 64 [pt b1 0, vi y1, sv p6 y2 c6] [bx b1 120 [sv p1 y0.1.1 c1, sv p2 y0.1.2.1 c2, sv p3 y0.1.2.2 c3, sv p4 y0.2.1 c4, sv p5 y0.2.2.1 c5, vi y0.2.2.2], r_1, r_2] [Rl wP p1 c1 y0.1.1, Rl wF p2 c2 y0.1.2.1, Rl wO p3 c3 y0.1.2.2, Al wS 112 r_1 p4 c4 y0.2.1, Al wS 112 r_2 p5 c5 y0.2.2.1, Rl (zO .i64) p6 c6 y2] (zBF y0 y1 y2) fun r K=>∀ p7 c7 r_3,K (.tuple #[]) [bx b1 120 [sv p1 y0.1.1 c1, sv p2 y0.1.2.1 c2, sv p3 y0.1.2.2 c3, sv p4 y0.2.1 c4, sv p7 r c7, vi y0.2.2.2], r_1, r_3] [Al wS 112 r_3 p7 c7 r] := zP3 fun k => (zIq k)
theorem zPp {qd : Prop} {y0 : qK} {y1 : qC} : yQ qd prog 177 [.agg #[vs y0.1, vb y0.2.1, vi y0.2.2.1, sv p1 y0.2.2.2.1 c1, vb y0.2.2.2.2.1, vs y0.2.2.2.2.2], pt b1 0] [bx b1 9 [vs y1]] [Rl wI p1 c1 y0.2.2.2.1] (zI1 y0 y1) fun L r K=>K (vb r) L [] :=
 qA call177 func177 u fun X=>zB<|qZ .s u<|fun b2=>zA 1 u<|zC<|zB<|zN 0 u<|zS 1 u u u<|zS 0 u u u<|zA 2 u<|zC<|zJ<|zQ u u (fun _ k=>k) [0] ⟨⟩
theorem zGE {qd : Prop} {y0 : List qK} {y1 : qC} : yQ qd prog 176 [sv p1 y0 c1, .func (.func 177) #[] #[pt b1 0]] [bx b1 9 [vs y1]] [Rl wF p1 c1 y0] (zAZ y0 y1) fun L r K=>K (vi r) L [] :=
 qA call176 func176 u fun X=>jA 1 u<|zG<|jA 3 u<|zT<|qW (fun s1 K=>K [0,1,7] [] [0] [(8, vi s1)] []) (gv (fun _ k=>k) [0] (gq [0]))<|fun s1 _ k=>k<|jA 1 u<|zG<|zK u (jC<|zG<|zT<|jA 2 u<|zB<|zA 3 u<|wC 0 u u u<|fun x1 b2 o1=>
  wA true zL5 (gk 0) u<|fun p2 c2=>zZ .s [0] [] zPp u u u (cq [0])<|fun r1 _ k=>k<|zC<|zK u (jA 2 u<|zJ<|qO<|qE<|wU<|qO<|qE<|zQ u u (fun _ k=>k) [0] ⟨⟩)<|wG<|qG<|zP<|jB 2 u<|
  qH (gv (fun _ k=>k) [0] (gq [2])))<|qS<|qP<|qU<|qR<|zP<|jA 1 u<|zJ<|zQ u u (fun _ k=>k) [0] ⟨⟩
theorem zNL {qd : Prop} {y0 : zM} {y1 : qC} : qF qd prog 113 [.agg #[sv p1 y0.1 c1, sv p2 y0.2.1 c2, sv p3 y0.2.2 c3], vs y1] [] [Rl wP p1 c1 y0.1, Rl wF p2 c2 y0.2.1, Rl wO p3 c3 y0.2.2] (zDQ y0 y1) fun r K=>K (vi r) [] [] :=
 qA call113 func113 u fun X=>zB<|qZ .s u<|fun b1=>qZ .s u<|fun b2=>zA 1 u<|zC<|zB<|zN 1 u<|zS 0 u u u<|zA 1 u<|zZ .s [1] [] zGE u u u (cq [1])<|fun r1 _ k=>k<|zA 1 u<|zC<|zJ<|
  zQ u u (fun _ k=>k) [] ⟨⟩
theorem zNt {qd : Prop} {y0 : vO} {y1 : zF} : yQ qd prog 174 [.agg #[vb y0.1.1, vs y0.1.2, vi y0.2.1, vi y0.2.2.1, vs y0.2.2.2], pt b1 0] [bx b1 62 [vb y1.1, vs y1.2]] [] (zGq y0 y1) fun L r K=>K (vb r) L [] :=
 qA call174 func174 u fun X=>zB<|qZ .s u<|fun b2=>zA 1 u<|zC<|zB<|zN 0 u<|qV 1 2 u u u<|qV 0 2 u u u<|zI (vb (y0.1 == y1))<|zA 1 u<|zC<|zJ<|zQ u u (fun _ k=>k) [0] ⟨⟩
theorem zEO {qd : Prop} {y0 : List vO} {y1 : zF} : yQ qd prog 173 [sv p1 y0 c1, .func (.func 174) #[] #[pt b1 0]] [bx b1 62 [vb y1.1, vs y1.2]] [Rl wP p1 c1 y0] (zAJ y0 y1) fun L r K=>K (vi r) L [] :=
 qA call173 func173 u fun X=>jA 1 u<|zG<|jA 3 u<|zT<|qW (fun s1 K=>K [0,1,7] [] [0] [(8, vi s1)] []) (gv (fun _ k=>k) [0] (gq [0]))<|fun s1 _ k=>k<|jA 1 u<|zG<|zK u (jC<|zG<|zT<|jA 2 u<|zB<|zA 3 u<|wC 0 u u u<|fun x1 b2 o1=>
  wA true zLa (gk 0) u<|zZ .s [0] [] zNt u u u ⟨⟩<|fun r1 _ k=>k<|zC<|zK u (jA 2 u<|zJ<|qO<|qE<|wU<|qO<|qE<|zQ u u (fun _ k=>k) [0] ⟨⟩)<|wG<|qG<|zP<|jB 2 u<|
  qH (gv (fun _ k=>k) [0] (gq [1])))<|qS<|qP<|qU<|qR<|zP<|jA 1 u<|zJ<|zQ u u (fun _ k=>k) [0] ⟨⟩
theorem zOw {qd : Prop} {y0 : zM} {y1 : zF} : qF qd prog 111 [.agg #[sv p1 y0.1 c1, sv p2 y0.2.1 c2, sv p3 y0.2.2 c3], .agg #[vb y1.1, vs y1.2]] [] [Rl wP p1 c1 y0.1, Rl wF p2 c2 y0.2.1, Rl wO p3 c3 y0.2.2] (zCd y0 y1) fun r K=>K (vi r) [] [] :=
 qA call111 func111 u fun X=>zB<|qZ .s u<|fun b1=>qZ .s u<|fun b2=>zA 1 u<|zC<|zB<|zN 0 u<|zS 0 u u u<|zA 1 u<|zZ .s [1] [] zEO u u u (cq [0])<|fun r1 _ k=>k<|zA 1 u<|zC<|zJ<|
  zQ u u (fun _ k=>k) [] ⟨⟩
theorem zFC {qd : Prop} {y0 : qC} : qF qd prog 175 [vs y0] [] [] (zBK y0) fun r K=>K (vb r) [] [] :=
 qA call175 func175 u fun X=>jA 1 u<|zG<|tN (fun K=>K [0] [] [] [(12, vb (((len y0) == 0) || (decide (12 < (len y0)))))] []) (qL<|zA 4 u<|yY (b := (len y0) == 0) 8 u (fun hb1=>zA 3 u<|zI (vb true)<|zU<|
  wW 12 (vb (((len y0) == 0) || (decide (12 < (len y0))))) u (by rw [hb1]; rfl)<|zL (gv (fun _ k=>k) [] ⟨⟩))<|fun hb1=>zA 3 u<|zI (vb (decide (12 < (len y0))))<|zU<|
  wW 12 (vb (((len y0) == 0) || (decide (12 < (len y0))))) u (by rw [hb1]; rfl)<|zL (gv (fun _ k=>k) [] ⟨⟩))<|fun _ k=>k<|zK u (jA 1 u<|zJ<|qE<|zQ u u (fun _ k=>k) [] ⟨⟩)<|jC<|zG<|jA 3 u<|zT<|
  qW (fun s1 K=>K [0,14] [] [] [(15, vi s1)] []) (gv (fun _ k=>k) [] ⟨⟩)<|fun s1 _ k=>k<|jA 1 u<|zG<|zK u (jC<|zG<|zT<|jA 2 u<|zB<|zA 2 u<|yT fun x1 h1=>jv (fun h=>zIp h u u underlying9 h1)<|zA 1 u<|zC<|zT<|
  tN (fun K=>K [0,3,4,14,15] [] [] [(21, vb ((decide (97 ≤ x1)) && (decide (x1 ≤ 122))))] []) (qL<|zA 3 u<|yY (b := decide (97 ≤ x1)) 24 u (fun hb2=>zA 2 u<|zI (vb (decide (x1 ≤ 122)))<|zA 1 u<|zU<|
  wW 21 (vb ((decide (97 ≤ x1)) && (decide (x1 ≤ 122)))) u (by rw [hb2]; rfl)<|zL (gv (fun _ k=>k) [] ⟨⟩))<|fun hb2=>zA 2 u<|zI (vb false)<|zA 1 u<|zU<|
  wW 21 (vb ((decide (97 ≤ x1)) && (decide (x1 ≤ 122)))) u (by rw [hb2]; rfl)<|zL (gv (fun _ k=>k) [] ⟨⟩))<|fun _ k=>k<|zK u (wG<|qG<|qG<|zP<|jB 2 u<|qH (gv (fun _ k=>k) [] ⟨⟩))<|
  tN (fun K=>K [0,14,15] [] [] [(28, vb ((decide (0 < s1)) && (if decide (48 ≤ x1) then (decide (x1 ≤ 57)) || (x1 == 95) else x1 == 95)))] []) (qL<|zA 3 u<|yY (b := decide (0 < s1)) 31 u (fun hb3=>zA 3 u<|
  yY (b := decide (48 ≤ x1)) 34 u (fun hb4=>zA 2 u<|zI (vb (decide (x1 ≤ 57)))<|zA 1 u<|yY (b := decide (x1 ≤ 57)) 38 u (fun hb5=>zA 2 u<|zI (vb true)<|zI (vb true)<|zA 1 u<|zU<|
  wW 28 (vb ((decide (0 < s1)) && (if decide (48 ≤ x1) then (decide (x1 ≤ 57)) || (x1 == 95) else x1 == 95))) u (by rw [hb3,hb4,hb5]; rfl)<|zL (gv (fun _ k=>k) [] ⟨⟩))<|fun hb5=>zA 2 u<|zI (vb (x1 == 95))<|zI (vb (x1 == 95))<|
  zA 1 u<|zU<|wW 28 (vb ((decide (0 < s1)) && (if decide (48 ≤ x1) then (decide (x1 ≤ 57)) || (x1 == 95) else x1 == 95))) u (by rw [hb3,hb4,hb5]; rfl)<|zL (gv (fun _ k=>k) [] ⟨⟩))<|fun hb4=>zA 2 u<|zI (vb false)<|zA 3 u<|
  zI (vb (x1 == 95))<|zI (vb (x1 == 95))<|zA 1 u<|zU<|wW 28 (vb ((decide (0 < s1)) && (if decide (48 ≤ x1) then (decide (x1 ≤ 57)) || (x1 == 95) else x1 == 95))) u (by rw [hb3,hb4]; rfl)<|zL (gv (fun _ k=>k) [] ⟨⟩))<|fun hb3=>
  zA 10 u<|zI (vb false)<|zA 1 u<|zU<|wW 28 (vb ((decide (0 < s1)) && (if decide (48 ≤ x1) then (decide (x1 ≤ 57)) || (x1 == 95) else x1 == 95))) u (by rw [hb3]; rfl)<|zL (gv (fun _ k=>k) [] ⟨⟩))<|fun _ k=>k<|zK u (wG<|qG<|
  qG<|zP<|jB 2 u<|qH (gv (fun _ k=>k) [] ⟨⟩))<|jA 1 u<|zJ<|qO<|qO<|qE<|wU<|qO<|qE<|zQ u u (fun _ k=>k) [] ⟨⟩)<|qS<|qP<|qU<|qR<|zP<|jA 1 u<|zJ<|zQ u u (fun _ k=>k) [] ⟨⟩
theorem zEi {qd : Prop} {y0 : zF} : qF qd prog 171 [.agg #[vb y0.1, vs y0.2]] [] [] (zB6 y0) fun r K=>K (vb r) [] [] :=
 qA call171 func171 u fun X=>zB<|qZ .s u<|fun b1=>zA 1 u<|zC<|zB<|zN 1 u<|zS 0 u u u<|qI zFC u ⟨⟩<|fun r1 _ k=>k<|zA 1 u<|zC<|zJ<|zQ u u (fun _ k=>k) [] ⟨⟩
theorem zI8 {qd : Prop} {y0 : Int} : qF qd prog 170 [vi y0] [] [] (zCV y0) fun r K=>K (vb r) [] [] :=
 qA call170 func170 u fun X=>jA 1 u<|jjp (fun K=>K [(2, vb ((decide (0 ≤ y0)) && (decide (y0 ≤ 9))))] [] []) (qL<|zA 3 u<|yY (b := decide (0 ≤ y0)) 5 u (fun hb1=>zA 2 u<|zI (vb (decide (y0 ≤ 9)))<|zA 1 u<|zU<|
  wW 2 (vb ((decide (0 ≤ y0)) && (decide (y0 ≤ 9)))) u (by rw [hb1]; rfl)<|zL (gv (fun _ k=>k) [] ⟨⟩))<|fun hb1=>zA 2 u<|zI (vb false)<|zA 1 u<|zU<|wW 2 (vb ((decide (0 ≤ y0)) && (decide (y0 ≤ 9)))) u (by rw [hb1]; rfl)<|
  zL (gv (fun _ k=>k) [] ⟨⟩))<|fun _ k=>k<|zJ<|zQ u u (fun _ k=>k) [] ⟨⟩
theorem zPQ {qd : Prop} {y0 : qC} : qF qd prog 172 [vs y0] [] [] (zDs y0) fun r K=>K (vb r) [] [] :=
 qA call172 func172 u fun X=>jA 1 u<|jjn (fun s1 K=>K [(2, vb s1)] [] []) (qL<|zA 3 u<|wM 5 u (zA 2 u<|zI (vb true)<|zA 1 u<|zU<|zL (gv (fun _ k=>k) [] ⟨⟩))<|zA 1 u<|qI zFC u ⟨⟩<|fun r1 _ k=>k<|zI (vb r1)<|zA 1 u<|zU<|
  zL (gv (fun _ k=>k) [] ⟨⟩))<|fun s1 _ k=>k<|zJ<|zQ u u (fun _ k=>k) [] ⟨⟩
theorem zPN {qd : Prop} {y0 : vO} : qF qd prog 110 [.agg #[vb y0.1.1, vs y0.1.2, vi y0.2.1, vi y0.2.2.1, vs y0.2.2.2]] [] [] (zC7 y0) fun r K=>K (vi r) [] [] :=
 qA call110 func110 u fun X=>zB<|qZ .s u<|fun b1=>zA 1 u<|zC<|zX2 (fun s1 K=>K [1] [] [] [] []) (zB<|zN 2 u<|zS 0 u u u<|zC<|zT<|wK (fun s2 K=>K [1,4] [] [] [(5, vb s2)] []) (jA 2 u<|zK u (wG<|zL (gv (fun _ k=>k) [0] ⟨⟩))<|jB 2 u<|
  zL (gv (fun _ k=>k) [0] ⟨⟩))<|fun s2 _ k=>k<|zK u (zB<|zN 3 u<|zS 0 u u u<|zA 1 u<|zC<|zK u (jA 1 u<|zJ<|qO<|wU<|zQ u u (fun _ k=>k) [] ⟨⟩)<|wG<|qG<|qH (gv (fun _ k=>k) [0] ⟨⟩))<|jA 2 u<|zK u (zB<|
  zN 3 u<|zS 0 u u u<|qI zI8 u ⟨⟩<|fun r1 _ k=>k<|zA 1 u<|zC<|zK u (jA 1 u<|zJ<|qO<|wU<|zQ u u (fun _ k=>k) [] ⟨⟩)<|wG<|qG<|qH (gv (fun _ k=>k) [0] ⟨⟩))<|jA 1 u<|zJ<|qO<|wU<|
  zQ u u (fun _ k=>k) [] ⟨⟩)<|fun s1 _ k=>k<|zG<|jjn (fun s3 K=>K [(26, vb s3)] [[]] []) (qL<|zN 0 u<|qV 0 2 u u u<|qI zEi u ⟨⟩<|fun r2 _ k=>k<|zA 2 u<|wM 21 u (zA 4 u<|zI (vb true)<|zU<|
  zL (gv (fun _ k=>k) [900] ⟨⟩))<|zN 4 u<|zS 0 u u u<|qI zPQ u ⟨⟩<|fun r3 _ k=>k<|zA 1 u<|zI (vb (!r3))<|zU<|zL (gv (fun _ k=>k) [900] ⟨⟩))<|fun s3 _ k=>k<|zK u (jA 1 u<|zJ<|qE<|
  zQ u u (fun _ k=>k) [] ⟨⟩)<|jC<|jA 1 u<|zJ<|zQ u u (fun _ k=>k) [] ⟨⟩
theorem zNy {qd : Prop} {y0 : zM} {y1 : vN} : qF qd prog 114 [.agg #[sv p1 y0.1 c1, sv p2 y0.2.1 c2, sv p3 y0.2.2 c3], .agg #[vs y1.1, vi y1.2.1, vb y1.2.2.1, vs y1.2.2.2]] [] [Rl wP p1 c1 y0.1, Rl wF p2 c2 y0.2.1, Rl wO p3 c3 y0.2.2] (zCI y0 y1) fun r K=>K (vi r) [] [] :=
 qA call114 func114 u fun X=>zB<|qZ .s u<|fun b1=>qZ .s u<|fun b2=>zA 1 u<|zC<|zG<|wK (fun s1 K=>K [2,3] [] [0,1,2] [(15, vb s1)] []) (qL<|zN 1 u<|zS 1 u u u<|qI zI8 u ⟨⟩<|fun r1 _ k=>k<|zA 2 u<|wM 10 u (zA 4 u<|
  zI (vb true)<|zU<|zL (gv (fun _ k=>k) [0,1] (gq [0,1,2])))<|zN 2 u<|qV 1 2 u u u<|qI zEi u ⟨⟩<|fun r2 _ k=>k<|zA 1 u<|zI (vb (!r2))<|zU<|zL (gv (fun _ k=>k) [0,1] (gq [0,1,2])))<|fun s1 _ k=>k<|zK u (
  jA 1 u<|zJ<|qE<|zQ u u (fun _ k=>k) [] ⟨⟩)<|jC<|zG<|zB<|qV 0 3 u u u<|zN 0 u<|zS 1 u u u<|qI zNL u (cq [0,1,2])<|fun r3 _ k=>k<|zA 1 u<|zC<|zT<|jA 3 u<|zK u (jA 1 u<|zJ<|qO<|qE<|
  zQ u u (fun _ k=>k) [] ⟨⟩)<|zB<|zN 1 u<|zS 0 u u u<|zA 1 u<|wC 1 u u u<|fun x1 b3 o1=>zN 1 u<|wA false oB (gf (gs (gk 0))) u<|zA 1 u<|zC<|zK u (jA 1 u<|zJ<|qO<|qE<|zQ u u (fun _ k=>k) [] ⟨⟩
  )<|wG<|qG<|zP<|jA 1 u<|zJ<|zQ u u (fun _ k=>k) [] ⟨⟩
theorem zKX {qd : Prop} {y0 : qC} : qF qd prog 239 [vs y0] [] [] (zDe y0) fun r K=>K (vb r) [] [] :=
 qA call239 func239 u fun X=>jA 1 u<|jA 4 u<|zJ<|zQ u u (fun _ k=>k) [] ⟨⟩
theorem zNs {qd : Prop} {y0 : qC} {y1 : qC} : qF qd prog 155 [vs y0, vs y1] [] [] (zEW y0 y1) fun r K=>K (vi r) [] [] :=
 qA call155 func155 u fun X=>jA 1 u<|zB<|zA 1 u<|qI zKX u ⟨⟩<|fun r1 _ k=>k<|zA 1 u<|zC<|zB<|zA 1 u<|qI zKX u ⟨⟩<|fun r2 _ k=>k<|zA 1 u<|zC<|zG<|jA 1 u<|zK u (zG<|jA 1 u<|zK u (jA 1 u<|zJ<|qE<|qE<|
  zQ u u (fun _ k=>k) [] ⟨⟩)<|jC<|jA 1 u<|zJ<|qE<|zQ u u (fun _ k=>k) [] ⟨⟩)<|jC<|zG<|jA 1 u<|zK u (jA 1 u<|zJ<|qE<|zQ u u (fun _ k=>k) [] ⟨⟩)<|jC<|zG<|jA 3 u<|zK u (jA 1 u<|zJ<|qE<|
  zQ u u (fun _ k=>k) [] ⟨⟩)<|jC<|zG<|jA 3 u<|zK u (jA 1 u<|zJ<|qE<|zQ u u (fun _ k=>k) [] ⟨⟩)<|jC<|jA 1 u<|zJ<|zQ u u (fun _ k=>k) [] ⟨⟩
theorem zLO {qd : Prop} {y0 : zF} {y1 : zF} : qF qd prog 91 [.agg #[vb y0.1, vs y0.2], .agg #[vb y1.1, vs y1.2]] [] [] (zB9 y0 y1) fun r K=>K (vi r) [] [] :=
 qA call91 func91 u fun X=>zB<|qZ .s u<|fun b1=>qZ .s u<|fun b2=>zA 1 u<|zC<|zG<|zB<|zN 1 u<|zS 0 u u u<|zN 1 u<|zS 1 u u u<|qI zNs u ⟨⟩<|fun r1 _ k=>k<|zA 1 u<|zC<|
  tN (fun K=>K [3,5] [(0, [])] [] [(19, vb ((r1 != 0) || (y0.1 == y1.1)))] []) (qL<|zA 3 u<|yY (b := r1 != 0) 13 u (fun hb1=>zA 5 u<|zI (vb true)<|zU<|wW 19 (vb ((r1 != 0) || (y0.1 == y1.1))) u (by rw [hb1]; rfl)<|
  zL (gv (fun _ k=>k) [900,1] ⟨⟩))<|fun hb1=>zN 0 u<|zS 0 u u u<|zN 0 u<|zS 1 u u u<|zI (vb (y0.1 == y1.1))<|zI (vb (y0.1 == y1.1))<|zU<|wW 19 (vb ((r1 != 0) || (y0.1 == y1.1))) u (by rw [hb1]; rfl)<|
  zL (gv (fun _ k=>k) [900,1] ⟨⟩))<|fun _ k=>k<|zK u (jA 2 u<|zJ<|qE<|zQ u u (fun _ k=>k) [] ⟨⟩)<|jC<|zG<|zB<|zN 0 u<|zS 1 u u u<|zC<|zK u (jA 1 u<|zJ<|qE<|zQ u u (fun _ k=>k) [] ⟨⟩)<|jC<|jA 1 u<|zJ<|
  zQ u u (fun _ k=>k) [] ⟨⟩
theorem zQx {qd : Prop} {y0 : qK} : qF qd prog 112 [.agg #[vs y0.1, vb y0.2.1, vi y0.2.2.1, sv p1 y0.2.2.2.1 c1, vb y0.2.2.2.2.1, vs y0.2.2.2.2.2]] [] [Rl wI p1 c1 y0.2.2.2.1] (zEe y0) fun r K=>K (vi r) [] [] :=
 qA call112 func112 u fun X=>zB<|qZ .s u<|fun b1=>zA 1 u<|zC<|zG<|zB<|zN 3 u<|zS 0 u u u<|zA 2 u<|zC<|zK u (jA 1 u<|zJ<|qE<|zQ u u (fun _ k=>k) [] ⟨⟩)<|jC<|zG<|wK (fun s1 K=>K [1] [] [0] [(34, vb s1)] []) (qL<|zN 0 u<|
  zS 0 u u u<|qI zFC u ⟨⟩<|fun r1 _ k=>k<|zA 2 u<|wM 14 u (zA 4 u<|zI (vb true)<|zA 5 u<|zI (vb true)<|zA 8 u<|zI (vb true)<|zU<|zL (gv (fun _ k=>k) [0] (gq [0])))<|zN 4 u<|
  qV 0 2 u u u<|qI zEi u ⟨⟩<|fun r2 _ k=>k<|zA 1 u<|zI (vb (!r2))<|zA 1 u<|wM 20 u (zA 4 u<|zI (vb true)<|zA 8 u<|zI (vb true)<|zU<|zL (gv (fun _ k=>k) [0] (gq [0])))<|zN 2 u<|zS 0 u u u<|
  qI zI8 u ⟨⟩<|fun r3 _ k=>k<|zA 1 u<|zI (vb (!r3))<|zA 1 u<|wM 26 u (zA 7 u<|zI (vb true)<|zU<|zL (gv (fun _ k=>k) [0] (gq [0])))<|zN 1 u<|zS 0 u u u<|zA 1 u<|wM 29 u (zN 2 u<|
  zS 0 u u u<|zA 1 u<|zI (vb (y0.2.2.1 != 0))<|zI (vb (y0.2.2.1 != 0))<|zU<|zL (gv (fun _ k=>k) [0] (gq [0])))<|zA 3 u<|zI (vb false)<|zI (vb false)<|zU<|zL (gv (fun _ k=>k) [0] (gq [0])))<|fun s1 _ k=>k<|zK u (
  jA 1 u<|zJ<|qE<|zQ u u (fun _ k=>k) [] ⟨⟩)<|jC<|zX2 (fun s2 K=>K [1] [] [0] [] []) (zB<|zN 3 u<|zS 0 u u u<|zA 2 u<|zC<|zT<|qW (fun s3 K=>K [1,36,37] [] [0] [(38, vi s3)] []) (gv (fun _ k=>k) [0] (gq [0]))<|
  fun s3 _ k=>k<|jA 1 u<|zG<|zK u (jC<|zG<|zT<|zB<|wC 0 u u u<|fun x1 b2 o1=>wA true yI (gk 0) u<|wN .s (.agg #[vb false, vs []])<|fun b3=>qJ .s 1 u u u<|zC<|zB<|qV 1 2 u u u<|
  qI zEi u ⟨⟩<|fun r4 _ k=>k<|zA 1 u<|zC<|zK u (jA 1 u<|zJ<|qO<|qE<|wU<|qO<|wU<|zQ u u (fun _ k=>k) [] ⟨⟩)<|wG<|qG<|zP<|jB 2 u<|qH (gv (fun _ k=>k) [0] (gq [1])))<|qS<|qP<|qU<|qR<|
  qH (gv (fun _ k=>k) [0] (gq [0])))<|fun s2 _ k=>k<|zG<|jA 1 u<|zT<|qW (fun s4 K=>K [1] [] [0] [(5, vi s4)] []) (gv (fun _ k=>k) [0] (gq [0]))<|fun s4 _ k=>k<|zG<|zB<|zA 1 u<|zN 3 u<|zS 0 u u u<|zA 2 u<|zC<|
  zK u (jC<|zG<|zT<|yD [] [0] 13<|qT 0 3 u u<|wH 1 0 u u u u<|zY 9 [2,3] u<|yO 4 0 u u u u<|fun x2 b4 o2=>yK 5 true yI u (gk 0) u<|qT 6 3 u u<|wH 7 0 u u u u<|zY 4 [8] u<|
  yO 9 1 u u u u<|fun x3 b5 o3=>yK 10 true yI u (gk 0) u<|qB 11<|zZ (.f u) [] [] zLO u u u ⟨⟩<|fun r5 _ k=>k<|zX<|zY 0 [12] u<|qQ<|zP<|zK u (jA 1 u<|zJ<|qO<|qE<|wU<|qO<|qE<|
  zQ u u (fun _ k=>k) [] ⟨⟩)<|wG<|qG<|zP<|jB 3 u<|qH (gv (fun _ k=>k) [0] (gq [2])))<|qS<|qP<|qU<|qR<|zP<|jA 1 u<|zJ<|zQ u u (fun _ k=>k) [] ⟨⟩
theorem zKG {qd : Prop} {y0 : zM} : qF qd prog 63 [.agg #[sv p1 y0.1 c1, sv p2 y0.2.1 c2, sv p3 y0.2.2 c3]] [] [Rl wP p1 c1 y0.1, Rl wF p2 c2 y0.2.1, Rl wO p3 c3 y0.2.2] (zB5 y0) fun r K=>K (vi r) [] [] :=
 qA call63 func63 u fun X=>zB<|qZ .s u<|fun b1=>zA 1 u<|zC<|zG<|tN (fun K=>K [1] [] [0,1,2] [(27, vb ((decide (16 < (len y0.1))) || ((decide (24 < (len y0.2.1))) || (decide (8 < (len y0.2.2))))))] []) (qL<|zN 0 u<|zS 0 u u u<|zA 3 u<|
  yY (b := decide (16 < (len y0.1))) 16 u (fun hb1=>zA 4 u<|zI (vb true)<|zA 5 u<|zI (vb true)<|zU<|wW 27 (vb ((decide (16 < (len y0.1))) || ((decide (24 < (len y0.2.1))) || (decide (8 < (len y0.2.2)))))) u (by rw [hb1]; rfl)<|
  zL (gv (fun _ k=>k) [0] (gq [0,1,2])))<|fun hb1=>zN 1 u<|zS 0 u u u<|zA 2 u<|zI (vb (decide (24 < (len y0.2.1))))<|zA 1 u<|yY (b := decide (24 < (len y0.2.1))) 22 u (fun hb2=>zA 4 u<|zI (vb true)<|zU<|
  wW 27 (vb ((decide (16 < (len y0.1))) || ((decide (24 < (len y0.2.1))) || (decide (8 < (len y0.2.2)))))) u (by rw [hb1,hb2]; rfl)<|zL (gv (fun _ k=>k) [0] (gq [0,1,2])))<|fun hb2=>zN 2 u<|zS 0 u u u<|zA 2 u<|
  zI (vb (decide (8 < (len y0.2.2))))<|zU<|wW 27 (vb ((decide (16 < (len y0.1))) || ((decide (24 < (len y0.2.1))) || (decide (8 < (len y0.2.2)))))) u (by rw [hb1,hb2]; rfl)<|zL (gv (fun _ k=>k) [0] (gq [0,1,2])))<|fun _ k=>k<|zK u (
  jA 1 u<|zJ<|qE<|zQ u u (fun _ k=>k) [] ⟨⟩)<|jC<|zX2 (fun s1 K=>K [1] [] [0,1,2] [] []) (zB<|zN 0 u<|zS 0 u u u<|zA 2 u<|zC<|zT<|
  qW (fun s2 K=>K [1,29,30] [] [0,1,2] [(31, vi s2)] []) (gv (fun _ k=>k) [0] (gq [0,1,2]))<|fun s2 _ k=>k<|jA 1 u<|zG<|zK u (jC<|zG<|zT<|zB<|zA 1 u<|wC 0 u u u<|fun x1 b2 o1=>wA true zLa (gk 0) u<|
  wN .s (.agg #[vb false, vs [], vi 0, vi 0, vs []])<|fun b3=>zA 1 u<|qJ .s 1 u u u<|zC<|zG<|zB<|qV 1 5 u u u<|qI zPN u ⟨⟩<|fun r1 _ k=>k<|zA 1 u<|zC<|jA 2 u<|zK u (jA 2 u<|zJ<|qE<|qO<|
  qE<|wU<|qO<|wU<|zQ u u (fun _ k=>k) [] ⟨⟩)<|jC<|zB<|qV 0 3 u u u<|zN 0 u<|qV 1 2 u u u<|qI zOw u (cq [1,2,3])<|fun r2 _ k=>k<|zA 2 u<|zC<|zK u (jA 1 u<|zJ<|qO<|qE<|wU<|qO<|wU<|
  zQ u u (fun _ k=>k) [] ⟨⟩)<|wG<|qG<|zP<|jB 2 u<|qH (gv (fun _ k=>k) [0] (gq [1,2,3])))<|qS<|qP<|qU<|qR<|qH (gv (fun _ k=>k) [0] (gq [0,1,2])))<|fun s1 _ k=>k<|zX2 (fun s3 K=>K [1] [] [0,1,2] [] []) (zB<|zN 1 u<|
  zS 0 u u u<|zA 2 u<|zC<|zT<|qW (fun s4 K=>K [1,49,50] [] [1,0,2] [(51, vi s4)] []) (gv (fun _ k=>k) [0] (gq [1,0,2]))<|fun s4 _ k=>k<|jA 1 u<|zG<|zK u (jC<|zG<|zT<|zB<|zA 1 u<|wC 0 u u u<|fun x2 b4 o2=>
  wA true zL5 (gk 0) u<|fun p4 c4=>wN .s (.agg #[vs [], vb false, vi 0, .slice none 0 0, vb false, vs []])<|fun b5=>zA 1 u<|qJ .s 1 u u u<|zC<|zG<|zB<|qV 1 6 u u u<|qI zQx u (cq [0])<|fun r3 _ k=>k<|
  zA 1 u<|zC<|jA 2 u<|zK u (jA 2 u<|zJ<|qE<|qO<|qE<|wU<|qO<|wU<|zQ u u (fun _ k=>k) [] ⟨⟩)<|jC<|zB<|qV 0 3 u u u<|zN 0 u<|zS 1 u u u<|qI zNL u (cq [3,2,4])<|fun r4 _ k=>k<|zA 2 u<|
  zC<|zK u (jA 1 u<|zJ<|qO<|qE<|wU<|qO<|wU<|zQ u u (fun _ k=>k) [] ⟨⟩)<|wG<|qG<|zP<|jB 2 u<|qH (gv (fun _ k=>k) [0] (gq [2,3,4])))<|qS<|qP<|qU<|qR<|qH (gv (fun _ k=>k) [0] (gq [1,0,2])))<|fun s3 _ k=>k<|zG<|zB<|
  zN 2 u<|zS 0 u u u<|zA 2 u<|zC<|zT<|qW (fun s5 K=>K [1,69,70] [] [2,0,1] [(71, vi s5)] []) (gv (fun _ k=>k) [0] (gq [2,0,1]))<|fun s5 _ k=>k<|jA 1 u<|zG<|zK u (jC<|zG<|zT<|zB<|wC 0 u u u<|fun x3 b6 o3=>
  wA true zOY (gk 0) u<|wN .s (.agg #[vs [], vi 0, vb false, vs []])<|fun b7=>qJ .s 1 u u u<|zC<|zB<|qV 0 3 u u u<|qV 1 4 u u u<|qI zNy rfl (cq [2,3,1])<|fun r5 _ k=>k<|zA 1 u<|zC<|
  jA 2 u<|zK u (jA 2 u<|zJ<|qO<|qE<|wU<|qO<|qE<|zQ u u (fun _ k=>k) [] ⟨⟩)<|wG<|qG<|zP<|jB 2 u<|qH (gv (fun _ k=>k) [0] (gq [1,2,3])))<|qS<|qP<|qU<|qR<|zP<|jA 1 u<|zJ<|zQ u u (fun _ k=>k) [] ⟨⟩
theorem zQj {qd : Prop} {y0 : zM} : qF qd prog 25 [.agg #[sv p1 y0.1 c1, sv p2 y0.2.1 c2, sv p3 y0.2.2 c3]] [] [Rl wP p1 c1 y0.1, Rl wF p2 c2 y0.2.1, Rl wO p3 c3 y0.2.2] (zD9 y0) fun r K=>∀ p4 c4,K (.tuple #[sv p4 r.1 c4, vi r.2]) [] [Rl wS p4 c4 r.1] :=
 qA call25 func25 u fun X=>zB<|qZ .s u<|fun b1=>zA 2 u<|zC<|jcs<|zG<|zB<|qV 0 3 u u u<|qI zKG u (cq [0,1,2])<|fun r1 _ k=>k<|zA 1 u<|zC<|jA 2 u<|zK u (jA 3 u<|zJ<|qE<|jcr<|
  wQ u (lT u (lT u lN)) (fun _ k=>k none 0) [] ⟨gn,⟨⟩⟩)<|jC<|zB<|qV 0 3 u u u<|zI (.agg #[sv p1 y0.1 c1, sv p2 y0.2.1 c2, sv p3 y0.2.2 c3, .slice none 0 0, .slice none 0 0, vi 0])<|vT wS 112<|qZ .s u<|fun b2=>
  zA 1 u<|zC<|wK (fun s1 K=>∀ p4 c4 r_1,K [1,5] [(1, r_1), (2, bx b2 120 [sv p1 y0.1 c1, sv p2 y0.2.1 c2, sv p3 y0.2.2 c3, sv p4 s1 c4, .slice none 0 0, vi 0])] [1,2,3] [] [Al wS 112 r_1 p4 c4 s1]) (zB<|zN 0 u<|
  zS 0 u u u<|zA 2 u<|zC<|zT<|
  qW (fun s2 K=>∀ p5 c5 r_2,K [1,5,20,21] [(1, r_2), (2, bx b2 120 [sv p1 y0.1 c1, sv p2 y0.2.1 c2, sv p3 y0.2.2 c3, sv p5 s2.2 c5, .slice none 0 0, vi 0])] [1,2,3] [(22, vi s2.1)] [Al wS 112 r_2 p5 c5 s2.2]) (gv (fun _ k=>k none 0 []) [0,1,2] (gq [0,1,2,3]))<|
  fun s2 _ k p5 c5 r_2=>k<|jA 1 u<|zG<|zK u (jC<|zG<|zT<|zB<|zA 1 u<|wC 1 u u u<|fun x1 b3 o1=>wA true zLa (gk 0) u<|wN .s (.agg #[vb false, vs [], vi 0, vi 0, vs []])<|fun b4=>zA 1 u<|qJ .s 3 u u u<|
  zC<|uT [13] [2, 3] 14<|zY 11 [0,1,2] u<|qT 3 3 u u<|wH 4 2 u u u u<|zY 8 [5] u<|qT 6 0 u u<|vQ 7 3 2 u u u u<|wR 8 (.agg #[vi s2.1, vi (-1), .slice none 0 0, vb x1.1.1, vs x1.1.2]) u<|qB 9<|
  vD (.f u) (e := wS) 112 [vi s2.1, vi (-1), .slice none 0 0, vb x1.1.1, vs x1.1.2] ([(s2.1, (-1), ([] : List Int), x1.1)] : List zH) (rC (vP vI (vP vI (vP (vL gn) (vP vB vS)))) rN)<|fun p6 c6=>zX<|qB 10<|
  wL (.f u) 1 2 u (gk 0) u u<|fun x2 r_3 p7 c7=>zX<|zY 2 [11] u<|qT 12 3 u u<|qB 13<|qJ (o := 3) (.f u) 2 u u u<|jdb [] [2, 3]<|qQ<|qG<|zP<|jB 2 u<|qH (gv (fun _ k=>k p7 c7 r_3) [0,1,2] (gq [0,4,5,6])))<|
  qS<|qP<|qU<|qR<|zL (gv (fun _ k=>k p5 c5 r_2) [0,1,2] (gq [0,1,2,3])))<|fun s1 _ k p4 c4 r_1=>k<|zG<|jlb<|zP<|
  wK (fun s3 K=>∀ p8 c8 r_4 p9 c9 r_5,K [5] [(0, []), (1, r_4), (2, bx b2 120 [sv p1 y0.1 c1, sv p2 y0.2.1 c2, sv p3 y0.2.2 c3, sv p8 s3.1 c8, sv p9 s3.2.1 c9, vi s3.2.2]), (3, r_5)] [1,2,3] [] [Al wS 112 r_4 p8 c8 s3.1, Al wS 112 r_5 p9 c9 s3.2.1]) (
  jA 1 u<|zT<|
  qW (fun s4 K=>∀ p10 c10 r_6 p11 c11,K [1,5] [(1, r_6), (2, bx b2 120 [sv p1 y0.1 c1, sv p2 y0.2.1 c2, sv p3 y0.2.2 c3, sv p10 s4.2.1 c10, sv p11 s4.2.2.1 c11, vi s4.2.2.2])] [1,2,3] [(8, vi s4.1)] [Al wS 112 r_6 p10 c10 s4.2.1, Rl wS p11 c11 s4.2.2.1]) (gv (fun _ k=>k p4 c4 r_1 none 0) [0,1,2] ⟨gk 0,gn,gk 1,gk 2,gk 3,⟨⟩⟩)<|
  fun s4 _ k p10 c10 r_6 p11 c11=>k<|zG<|zT<|zB<|zA 2 u<|zN 4 u<|vT wS 112<|qJ .s 2 u u u<|zC<|
  zX2 (fun s5 K=>∀ p12 c12 r_7,K [1,5,8] [(2, bx b2 120 [sv p1 y0.1 c1, sv p2 y0.2.1 c2, sv p3 y0.2.2 c3, sv p10 s4.2.1 c10, sv p12 s5 c12, vi s4.2.2.2]), (3, r_7)] [3,4,5,1] [] [Al wS 112 r_7 p12 c12 s5]) (zB<|zN 1 u<|
  zS 0 u u u<|zA 2 u<|zC<|zT<|
  qW (fun s6 K=>∀ p13 c13 r_8,K [1,5,8,47,48] [(2, bx b2 120 [sv p1 y0.1 c1, sv p2 y0.2.1 c2, sv p3 y0.2.2 c3, sv p10 s4.2.1 c10, sv p13 s6.2 c13, vi s4.2.2.2]), (3, r_8)] [4,3,5,1] [(49, vi s6.1)] [Al wS 112 r_8 p13 c13 s6.2]) (gv (fun _ k=>k none 0 []) [0,1,2,3] (gq [0,4,3,5,1]))<|
  fun s6 _ k p13 c13 r_8=>k<|jA 1 u<|zG<|zK u (jC<|zG<|zT<|zB<|zA 1 u<|wC 1 u u u<|fun x3 b5 o2=>wA true zL5 (gk 0) u<|fun p14 c14=>wN .s (.agg #[vs [], vb false, vi 0, .slice none 0 0, vb false, vs []])<|fun b6=>
  zA 1 u<|qJ .s 4 u u u<|zC<|
  wK (fun s7 K=>∀ p15 c15 r_9,K [1,5,8,47,48,49] [(2, bx b2 120 [sv p1 y0.1 c1, sv p2 y0.2.1 c2, sv p3 y0.2.2 c3, sv p10 s4.2.1 c10, sv p15 s7 c15, vi s4.2.2.2]), (3, r_9), (4, [])] [3,4,5,6] [] [Al wS 112 r_9 p15 c15 s7]) (zB<|
  zN 3 u<|zS 4 u u u<|zA 2 u<|zC<|zK u (qL<|zA 2 u<|zZ .s [2, 1, 3] [] zKR u u u ⟨ck 4,ck 3,ck 5,ck 6,ck 2,cn,⟨⟩⟩<|fun r2 _ k p16 c16 r_10=>k<|zU<|
  zL (gv (fun _ k=>k p16 c16 r_10) [0,1,2,3,904] (gq [0,4,5,6,7])))<|jA 2 u<|zK u (uT [13] [2, 4] 14<|zY 11 [0,1,2] u<|qT 3 4 u u<|wH 4 2 u u u u<|zY 8 [5] u<|qT 6 4 u u<|vQ 7 4 2 u u u u<|
  wR 8 (.agg #[vi (-1), vi s6.1, .slice none 0 0, vb x3.2.2.2.2.1, vs x3.2.2.2.2.2]) u<|qB 9<|
  vD (.f u) (e := wS) 112 [vi (-1), vi s6.1, .slice none 0 0, vb x3.2.2.2.2.1, vs x3.2.2.2.2.2] ([((-1), s6.1, ([] : List Int), x3.2.2.2.2)] : List zH) (rC (vP vI (vP vI (vP (vL gn) (vP vB vS)))) rN)<|fun p17 c17=>zX<|
  qB 10<|wL (.f u) 3 3 u (gk 0) u u<|fun x4 r_11 p18 c18=>zX<|zY 2 [11] u<|qT 12 4 u u<|qB 13<|qJ (o := 4) (.f u) 2 u u u<|jdb [] [2, 4]<|qQ<|zL (gv (fun _ k=>k p18 c18 r_11) [0,1,2,3,904] (gq [0,5,6,7,8])))<|
  wG<|zL (gv (fun _ k=>k p13 c13 r_8) [0,1,2,3,904] (gq [2,3,4,5,6])))<|fun s7 _ k p15 c15 r_9=>k<|zB<|zA 1 u<|zZ .s [2] [1, 3] zFA u u u ⟨ck 2,ck 1,ck 3,cl 1 4,cl 3 0,⟨⟩⟩<|fun r3 _ k=>k<|zC<|zK u (qS<|
  jbm<|qP<|qU<|jbm<|qU<|jbm<|qP<|qU<|qR<|zL (gv (fun _ k=>k p10 c10 r_6 p15 c15 r_9) [900,1,2,3] (gq [4,0,2,1,3])))<|wG<|qG<|zP<|jB 2 u<|qH (gv (fun _ k=>k p15 c15 r_9) [0,1,2,3] (gq [0,1,2,3,4])))<|qS<|qP<|qU<|qR<|
  qH (gv (fun _ k=>k p13 c13 r_8) [0,1,2,3] (gq [0,2,1,3,4])))<|fun s5 _ k p12 c12 r_7=>k<|zG<|zB<|zA 2 u<|zN 4 u<|zS 2 u u u<|zA 2 u<|zC<|zK u (qS<|qP<|jbm<|qP<|qU<|qR<|
  zL (gv (fun _ k=>k p10 c10 r_6 p12 c12 r_7) [900,1,2,3] (gq [4,0,1,2,3])))<|jC<|zB<|zA 3 u<|zN 3 u<|zS 2 u u u<|zA 2 u<|zN 5 u<|qJ .s 2 u u u<|zC<|uT [12] [2] 13<|zY 10 [0,1,2] u<|qT 3 3 u u<|
  wH 4 2 u u u u<|zY 6 [5,6] u<|qT 7 4 u u<|wH 8 2 u u u u<|qB 9<|jao (.f u) 1 3 4 0 u u u u<|fun x5 r_12 p19 c19=>zX<|zY 2 [10] u<|qT 11 3 u u<|qB 12<|qJ (o := 3) (.f u) 2 u u u<|
  jdb [] [2]<|qQ<|qG<|zP<|jB 3 u<|vF 3 1 u u<|qH (gv (fun _ k=>k p19 c19 r_12 p12 c12) [0,1,2] (gq [1,0,3,4,5])))<|fun s3 _ k p8 c8 r_4 p9 c9 r_5=>k<|zG<|zB<|zA 1 u<|
  zZ .s [2] [1, 3] zFA u u u ⟨ck 2,ck 3,ck 4,cl 1 0,cl 3 1,⟨⟩⟩<|fun r4 _ k=>k<|zC<|zK u (jA 2 u<|zJ<|qE<|jcr<|wQ u (lT u (lT u lN)) (fun _ k=>k none 0) [] ⟨gn,⟨⟩⟩)<|jC<|zB<|zA 2 u<|zN 3 u<|
  zS 2 u u u<|zA 2 u<|zC<|zJ<|jcr<|vF 1 0 u u<|wQ u (lT u (lT u lN)) (fun _ k=>k p8 c8) [] (gq [0])
theorem zIT {qd : Prop} {y0 : List zF} : qF qd prog 80 [sv p1 y0 c1] [] [Rl wI p1 c1 y0] (zCN y0) fun r K=>∀ p2 c2 r_1,K (sv p2 r c2) [r_1] [Al wI 62 r_1 p2 c2 r] :=
 qA call80 func80 u fun X=>jA 1 u<|zG<|zB<|zA 1 u<|jv (fun h=>zZU h u underlying51)<|zC<|jnl (m1 := some ([] : List zF)) u (gk 0) (fun h=>by first|(rw [h];done)|(rw [h];rfl)|(simp [h,wB];done)) (jA 1 u<|zJ<|qE<|vT wI 62<|
  jrE 0 2 u u<|zQ u u (fun _ k=>k none 0 []) [0] (gq [0]))<|jC<|zB<|xE .s (e := wI) 62 [] ([] : List zF) rN<|fun r_1 p2 c2=>zA 1 u<|wL .s 0 0 u (gk 1) u u<|fun x1 r_2 p3 c3=>zA 1 u<|zC<|zJ<|
  zQ u u (fun _ k=>k p3 c3 r_2) [0] (gq [0])
theorem zLS {qd : Prop} {y0 : List zF} : qF qd prog 92 [sv p1 y0 c1] [r_1] [Al wI 62 r_1 p1 c1 y0] (zBW y0) fun r K=>∀ p2 c2 r_2,K (sv p2 r c2) [[], r_2] [Al wI 62 r_2 p2 c2 r] :=
 qA call92 func92 u fun X=>jA 1 u<|zG<|jA 3 u<|zK u (jA 2 u<|zJ<|qE<|zQ u u (fun _ k=>k p1 c1 r_1) [900,0] (gq [0]))<|jC<|zG<|jA 1 u<|zT<|qW (fun s1 K=>K [0] [] [0] [(3, vi s1)] []) (gv (fun _ k=>k) [0] (gq [0]))<|fun s1 _ k=>k<|zG<|jA 4 u<|
  zK u (jC<|zG<|zT<|yD [] [0] 10<|zY 8 [0,1] u<|jdI 2 0 u u u u<|fun x1 h1 b1 hp1=>jdL 3 0 0 sI true yI u u hp1 h1 u<|zY 3 [4,5,6] u<|jdI 7 0 u u u u<|fun x2 h2 b2 hp2=>
  jdL 8 0 0 sI true yI u u hp2 h2 u<|wR 9 (vb (x1 == x2)) u<|qQ<|zP<|zK u (zB<|zA 2 u<|jsV 0 u u u<|fun u1 p2 c2 f1=>zA 1 u<|zC<|
  jjn (fun s2 K=>∀ r_2,K [(0, .slice p1 (List.length y0) c1), (3, vi s2.2)] [r_2] [Ar wI 62 r_2 p1 c1 (List.length y0) s2.1]) (jA 1 u<|zT<|
  qW (fun s3 K=>∀ r_3,K [4] [(0, r_3)] [] [(0, .slice p1 (List.length y0) c1), (3, vi s3.2.1), (5, vi s3.2.2)] [Ar wI 62 r_3 p1 c1 (List.length y0) s3.1]) (gv (fun _ k=>k r_1) [0] (gq [0]))<|fun s3 _ k r_3=>k<|zG<|jA 4 u<|
  zK u (jC<|zG<|zT<|yD [] [0] 10<|zY 8 [0,1] u<|jdX 2 0 u u f1 u u<|fun x3 b3 hp3 h3=>jdL 3 0 0 sI true yI u u hp3 h3 u<|zY 3 [4,5,6] u<|jdX 7 0 u u f1 u u<|fun x4 b4 hp4 h4=>
  jdL 8 0 0 sI true yI u u hp4 h4 u<|wR 9 (vb (!(x3 == x4))) u<|qQ<|zP<|zK u (zB<|zA 4 u<|jiV 0 u f1 u u<|fun x5 b5 hp5 h5=>jlA 0 0 sI true yI u hp5 h5 u<|jia 0 u u u<|fun x6 h6 b6 hp6=>
  jsA .s 0 0 sI x5 true u hp6 h6 u u (vP vB vS)<|fun r_4=>zC<|jB 3 u<|qG<|zP<|jB 3 u<|qH (gv (fun _ k=>k r_4) [0] (gq [0])))<|wG<|qG<|zP<|jB 3 u<|qH (gv (fun _ k=>k r_3) [0] (gq [0])))<|qS<|qP<|qU<|qR<|
  zL (gv (fun _ k=>k r_3) [0] (gq [0])))<|fun s2 _ k r_2=>k<|zB<|zA 2 u<|jsV 0 u u u<|fun u2 p3 c3 f2=>jcv .s 0 0 (false, []) (.agg #[vb false, vs []]) u f2 u (vP vB vS)<|fun r_5=>zC<|zB<|zA 2 u<|jsP 0 u u u<|
  fun x7=>zA 1 u<|zC<|zJ<|qO<|qE<|wU<|qO<|qE<|zQ u u (fun _ k=>k p1 c1 r_5) [900,0] (gq [0]))<|wG<|qG<|zP<|jB 3 u<|qH (gv (fun _ k=>k) [0] (gq [0])))<|qS<|qP<|qU<|qR<|zP<|jA 2 u<|zJ<|
  zQ u u (fun _ k=>k p1 c1 r_1) [900,0] (gq [0])
theorem zF7 {qd : Prop} {y0 : List zF} : qF qd prog 90 [sv p1 y0 c1, .func (.func 91) #[] #[]] [r_1] [Al wI 62 r_1 p1 c1 y0] (zAE y0) fun r K=>∀ r_2,K (.tuple #[]) [r_2] [Ar wI 62 r_2 p1 c1 (List.length y0) r] := ⟨call90, fun A w0 r hm hO hF => by
 have h := zOr (qd := qd) Go.Proofs.Tryz.sort90 (uF.prod uF.bool uF.str) (te := 62) Tryz.isAgg62 Tryz.sizeOf62 zB9 91 (enters_of func91 (by kernel_rfl) u) (fun w x y n hn => ?_) hO hF.1.1 hm
 · change Calls prog 90 _ _ _ at h
   refine h.mono fun e w' h => ?_
   cases e with
   | returned v => obtain ⟨r', rfl, h1, h2, h3, h4⟩ := h; exact fun G k => k r' ⟨rfl, h1, h2, ⟨h3, h4.symm⟩, trivial⟩
   | panicked ch => exact h
   | outgrown => exact h
 · refine ((zLO (qd := True) (y0 := x) (y1 := y)).go [] w n hn (qY.start (by simp)) trivial).mono fun e w' h => ?_
   cases e with
   | returned v => exact h _ fun ⟨e1, q⟩ => ⟨e1, q.e⟩
   | panicked ch => exact h
   | outgrown => exact h⟩
theorem zMO {qd : Prop} {y0 : List zF} : qF qd prog 40 [sv p1 y0 c1] [] [Rl wI p1 c1 y0] (zCq y0) fun r K=>∀ p2 c2 r_1,K (sv p2 r c2) [r_1] [Al wI 62 r_1 p2 c2 r] :=
 qA call40 func40 u fun X=>jA 1 u<|zB<|zA 1 u<|qI zIT u (cq [0])<|fun r1 _ k p2 c2 r_1=>k<|zA 1 u<|zC<|zB<|zA 1 u<|zZ .s [0] [] zF7 u u u (cq [0])<|fun r2 _ k r_2=>k<|zC<|zB<|
  zA 1 u<|jrE 0 8 u u<|zZ .s [0] [] zLS u u u (cq [0])<|fun r3 _ k p3 c3 r_3=>k<|zA 1 u<|zC<|zJ<|zQ u u (fun _ k=>k p3 c3 r_3) [1] (gq [0])
theorem zIU {qd : Prop} {y0 : List zH} {y1 : List Int} : qF qd prog 28 [sv p1 y0 c1, sv p2 y1 c2] [] [Rl wS p1 c1 y0, Rl (zO .i64) p2 c2 y1] (zBT y0 y1) fun r K=>∀ p3 c3,K (sv p3 r c3) [] [Rl wI p3 c3 r] :=
 qA call28 func28 u fun X=>jA 1 u<|zB<|zA 1 u<|vT wI 62<|zC<|jjn (fun s1 K=>∀ p3 c3 r_1,K [(5, sv p3 s1 c3)] [r_1] [Al wI 62 r_1 p3 c3 s1]) (jA 3 u<|zT<|
  qW (fun s2 K=>∀ p4 c4 r_2,K [0,8,9] [(0, r_2)] [1,2] [(5, sv p4 s2.1 c4), (10, vi s2.2)] [Al wI 62 r_2 p4 c4 s2.1]) (gv (fun _ k=>k none 0 []) [0] (gq [0,1,2]))<|fun s2 _ k p4 c4 r_2=>k<|jA 1 u<|zG<|zK u (jC<|zG<|zT<|zB<|
  wC 2 u u u<|fun x1 b1 o1=>wA false oI (gk 0) u<|zA 1 u<|zC<|zB<|zA 2 u<|qI zI6 u (cq [2])<|fun r1 _ k=>k<|zC<|zK u (qL<|zA 3 u<|wC 2 u u u<|fun x2 b2 o2=>zN 3 u<|
  wA true yI (gs (gs (gs (gk 0)))) u<|vD .s (e := wI) 62 [vb x2.2.2.2.1, vs x2.2.2.2.2] ([x2.2.2.2] : List zF) (rC (vP vB vS) rN)<|fun p5 c5=>wL .s 0 3 u (gk 0) u u<|fun x3 r_3 p6 c6=>zA 1 u<|zU<|qG<|zP<|
  jB 2 u<|qH (gv (fun _ k=>k p6 c6 r_3) [0] (gq [0,5,6])))<|wG<|qG<|zP<|jB 2 u<|qH (gv (fun _ k=>k p4 c4 r_2) [0] (gq [1,2,3])))<|qS<|qP<|qU<|qR<|zL (gv (fun _ k=>k p4 c4 r_2) [0] (gq [0])))<|fun s1 _ k p3 c3 r_1=>k<|zB<|
  zA 1 u<|vF 0 0 u u<|qI zMO u (cq [0])<|fun r2 _ k p7 c7 r_4=>k<|zA 1 u<|zC<|zJ<|vF 1 0 u u<|zQ u u (fun _ k=>k p7 c7) [] (gq [0])
theorem zNu {qd : Prop} {y0 : zF} : qF qd prog 191 [.agg #[vb y0.1, vs y0.2]] [] [] (zGo y0) fun r K=>K (.agg #[vb r.1, vs r.2]) [] [] :=
 qA call191 func191 u fun X=>zB<|qZ .s u<|fun b1=>wN .s (.agg #[vb false, vs []])<|fun b2=>zC<|zB<|zN 0 u<|zS 0 u u u<|zA 1 u<|zN 0 u<|qJ .s 0 u u u<|zC<|zB<|qV 0 2 u u u<|qJ .s 1 u u u<|zC<|zJ<|
  wQ u (lC 1 (.agg #[vb (!y0.1), vs y0.2]) u u lN) (fun _ k=>k) [] ⟨⟩
theorem zSS {qd : Prop} {y0 : zM} {y1 : List zH} {y2 : Int} {y3 : Int} : qF qd prog 123 [.agg #[sv p1 y0.1 c1, sv p2 y0.2.1 c2, sv p3 y0.2.2 c3], sv p4 y1 c4, vi y2, vi y3] [] [Rl wP p1 c1 y0.1, Rl wF p2 c2 y0.2.1, Rl wO p3 c3 y0.2.2, Rl wS p4 c4 y1] (zIh y0 y1 y2 y3) fun r K=>∀ p5 c5,K (sv p5 r c5) [] [Rl (zO .i64) p5 c5 r] :=
 qA call123 func123 u fun X=>zB<|qZ .s u<|fun b1=>zA 1 u<|zC<|zB<|zA 1 u<|vT (zO .i64) 3<|zC<|
  wK (fun s1 K=>∀ b2 b3 p5 c5,K [4,9] [(2, bx b2 62 [vb s1.1.1, vs s1.1.2]), (3, bx b3 112 [vi s1.2.1, vi s1.2.2.1, sv p5 s1.2.2.2.1 c5, vb s1.2.2.2.2.1, vs s1.2.2.2.2.2])] [0,1,2,3] [(10, pt b2 0), (11, pt b3 0)] [Rl (zO .i64) p5 c5 s1.2.2.2.1]) (
  uT [] [] 13<|zY 11 [0,1] u<|yO 2 4 u u u u<|fun x1 b4 o1=>qT 3 3 u u<|yK 4 true yI u (gs (gs (gs (gk 0)))) u<|zY 6 [5,6] u<|yO 7 5 u u u u<|fun x2 b5 o2=>yK 8 true zSe u (gk 0) u<|
  fun p6 c6=>jd2 9 10 (wN (.f u) (.agg #[vb false, vs []])<|fun b6=>zX<|qB 10<|wN (.f u) (.agg #[vi 0, vi 0, .slice none 0 0, vb false, vs []])<|fun b7=>zX<|qB 11<|qJ (o := 0) (.f u) 2 u u u<|zX<|qB 12<|
  qJ (o := 0) (.f u) 3 u u u<|zX<|qQ<|zL (gv (fun _ k=>k b6 b7 p6 c6) [0,1,2,3] (gq [0,3,4,5,6]))) <|wN (.f u) (.agg #[vi 0, vi 0, .slice none 0 0, vb false, vs []])<|fun b8=>zX<|qB 9<|wN (.f u) (.agg #[vb false, vs []])<|
  fun b9=>zX<|qB 11<|qJ (o := 0) (.f u) 3 u u u<|zX<|qB 12<|qJ (o := 0) (.f u) 2 u u u<|zX<|qQ<|zL (gv (fun _ k=>k b9 b8 p6 c6) [0,1,3,2] (gq [0,3,4,5,6])))<|fun s1 _ k b2 b3 p5 c5=>k<|yD [] [2, 3] 6<|
  vQ 0 2 2 u u u u<|qT 1 3 u u<|vQ 2 3 2 u u u u<|qB 3<|zZ (.f u) [] [] zNu u u u ⟨⟩<|fun r1 _ k=>k<|zX<|wR 4 (vb (s1.1 == r1)) u<|zY 0 [5] u<|qQ<|zP<|zG<|zT<|zB<|zN 0 u<|
  zS 3 u u u<|zA 2 u<|zC<|zK u (wK (fun s2 K=>K [9] [(0, []), (2, []), (3, [])] [1] [(41, vb s2)] []) (qL<|zA 2 u<|wM 32 u (zN 0 u<|zS 0 u u u<|zN 0 u<|zS 3 u u u<|wC 2 u u u<|fun x3 b10 o3=>
  zN 2 u<|wA false oI (gf (gs (gk 0))) u<|zA 1 u<|zI (vb (x3.2.1 != 1))<|zU<|zL (gv (fun _ k=>k) [900,1,902,903] (gq [2])))<|zA 8 u<|zI (vb false)<|zU<|zL (gv (fun _ k=>k) [900,1,902,903] (gq [1])))<|fun s2 _ k=>k<|zK u (
  qL<|zA 1 u<|vD .s (e := zO .i64) 3 [vi 1] ([1] : List Int) (rC vI rN)<|fun p7 c7=>wL .s 1 1 u (gk 0) u u<|fun x4 r_1 p8 c8=>zA 1 u<|zU<|qG<|zP<|jA 2 u<|zJ<|vF 1 0 u u<|zQ u u (fun _ k=>k p8 c8) [] (gq [0])
  )<|wG<|qG<|zP<|jA 2 u<|zJ<|vF 1 0 u u<|zQ u u (fun _ k=>k none 0) [] (gq [0]))<|zB<|zN 1 u<|zS 0 u u u<|zN 1 u<|zS 3 u u u<|wC 3 u u u<|fun x5 b11 o4=>zN 1 u<|
  wA false oB (gf (gs (gk 0))) u<|zA 2 u<|zC<|zK u (wK (fun s3 K=>∀ p9 c9 r_2,K [4,10,11] [(1, r_2)] [3,4,5,1] [(9, sv p9 s3 c9)] [Al (zO .i64) 3 r_2 p9 c9 s3]) (jA 1 u<|zK u (qL<|zA 1 u<|
  vD .s (e := zO .i64) 3 [vi 2] ([2] : List Int) (rC vI rN)<|fun p10 c10=>wL .s 1 3 u (gk 0) u u<|fun x6 r_3 p11 c11=>zA 1 u<|zU<|zL (gv (fun _ k=>k p11 c11 r_3) [0,1,2,3] (gq [0,5,6,7,3])))<|wG<|
  zL (gv (fun _ k=>k none 0 []) [0,1,2,3] (gq [2,3,4,5,1])))<|fun s3 _ k p9 c9 r_2=>k<|wK (fun s4 K=>K [9] [(0, []), (2, []), (3, [])] [0] [(71, vb s4)] []) (uT [] [0, 2, 3] 14<|qT 0 0 u u<|wH 1 2 u u u u<|zY 11 [2] u<|
  wM 60 u (qT 3 1 u u<|wH 4 2 u u u u<|qT 5 1 u u<|wH 6 0 u u u u<|qT 7 1 u u<|wH 8 3 u u u u<|yO 9 2 u u u u<|fun x7 b12 o5=>qT 10 0 u u<|yK 11 false oS u (gf (gk 0)) u<|
  zY 1 [12] u<|wR 13 (vb (s1.1.2 == x7.1)) u<|qQ<|zL (gv (fun _ k=>k) [900,1,902,903] (gq [1])))<|zY 1 [3,4,5,6,7,8,9,10,11,12] u<|wR 13 (vb false) u<|qQ<|zL (gv (fun _ k=>k) [900,1,902,903] (gq [0])))<|fun s4 _ k=>k<|
  zK u (qL<|zA 1 u<|vD .s (e := zO .i64) 3 [vi 3] ([3] : List Int) (rC vI rN)<|fun p12 c12=>wL .s 1 1 u (gk 0) u u<|fun x8 r_4 p13 c13=>zA 1 u<|zU<|qG<|zP<|jA 2 u<|zJ<|vF 1 0 u u<|
  zQ u u (fun _ k=>k p13 c13) [] (gq [0]))<|wG<|qG<|zP<|jA 2 u<|zJ<|vF 1 0 u u<|zQ u u (fun _ k=>k p9 c9) [] (gq [0]))<|wG<|qG<|zP<|jA 2 u<|zJ<|vF 1 2 u u<|zQ u u (fun _ k=>k none 0) [] (gq [0])
theorem zM9 {qd : Prop} {y0 : Int} : qF qd prog 121 [vi y0] [] [] (zGI y0) fun r K=>K (vb r) [] [] :=
 qA call121 func121 u fun X=>jA 1 u<|jA 4 u<|zJ<|zQ u u (fun _ k=>k) [] ⟨⟩
theorem zCD {qd : Prop} {y0 : Int} {y1 : Int} : qF qd prog 69 [vi y0, vi y1] [] [] (zAy y0 y1) fun r K=>K (vi r) [] [] :=
 qA call69 func69 u fun X=>jA 1 u<|zB<|zA 1 u<|qI zM9 u ⟨⟩<|fun r1 _ k=>k<|zA 1 u<|zC<|zB<|zA 1 u<|qI zM9 u ⟨⟩<|fun r2 _ k=>k<|zA 1 u<|zC<|zG<|jA 1 u<|zK u (zG<|jA 1 u<|zK u (jA 1 u<|zJ<|qE<|qE<|
  zQ u u (fun _ k=>k) [] ⟨⟩)<|jC<|jA 1 u<|zJ<|qE<|zQ u u (fun _ k=>k) [] ⟨⟩)<|jC<|zG<|jA 1 u<|zK u (jA 1 u<|zJ<|qE<|zQ u u (fun _ k=>k) [] ⟨⟩)<|jC<|zG<|jA 3 u<|zK u (jA 1 u<|zJ<|qE<|
  zQ u u (fun _ k=>k) [] ⟨⟩)<|jC<|zG<|jA 3 u<|zK u (jA 1 u<|zJ<|qE<|zQ u u (fun _ k=>k) [] ⟨⟩)<|jC<|jA 1 u<|zJ<|zQ u u (fun _ k=>k) [] ⟨⟩
theorem zNH {qd : Prop} {y0 : List Int} : qF qd prog 68 [sv p1 y0 c1] [] [Rl (zO .i64) p1 c1 y0] (zGN y0) fun r K=>K (vi r) [] [] :=
 qA call68 func68 u fun X=>jA 1 u<|jA 1 u<|zG<|jA 3 u<|zT<|qW (fun s1 K=>K [3,6,7] [] [0] [(8, vi s1)] []) (gv (fun _ k=>k) [] (gq [0]))<|fun s1 _ k=>k<|jA 1 u<|zG<|zK u (jC<|zG<|zT<|zB<|wC 0 u u u<|fun x1 b1 o1=>wA false oI (gk 0) u<|
  zA 1 u<|zC<|jA 3 u<|zK u (jA 2 u<|zJ<|qO<|qE<|wU<|qO<|qE<|zQ u u (fun _ k=>k) [] ⟨⟩)<|wG<|qG<|zP<|jB 2 u<|qH (gv (fun _ k=>k) [] (gq [1])))<|qS<|qP<|qU<|qR<|zP<|jA 2 u<|zJ<|zQ u u (fun _ k=>k) [] ⟨⟩
theorem zP7 {qd : Prop} {y0 : wT} {y1 : wT} : qF qd prog 127 [.agg #[vi y0.1, vi y0.2.1, vi y0.2.2.1, vi y0.2.2.2], .agg #[vi y1.1, vi y1.2.1, vi y1.2.2.1, vi y1.2.2.2]] [] [] (zCh y0 y1) fun r K=>K (vi r) [] [] :=
 qA call127 func127 u fun X=>zB<|qZ .s u<|fun b1=>qZ .s u<|fun b2=>zA 1 u<|zC<|yD [] [0, 1] 23<|qT 0 0 u u<|wH 1 0 u u u u<|qT 2 0 u u<|wH 3 1 u u u u<|qT 5 1 u u<|wH 6 0 u u u u<|qT 7 1 u u<|
  wH 8 1 u u u u<|qT 10 2 u u<|wH 11 0 u u u u<|qT 12 2 u u<|wH 13 1 u u u u<|qT 15 3 u u<|wH 16 0 u u u u<|qT 17 3 u u<|wH 18 1 u u u u<|qB 4<|
  zZ (.f u) [] [] zCD u u u ⟨⟩<|fun r1 _ k=>k<|zX<|qB 9<|zZ (.f u) [] [] zCD u u u ⟨⟩<|fun r2 _ k=>k<|zX<|qB 14<|zZ (.f u) [] [] zCD u u u ⟨⟩<|fun r3 _ k=>k<|zX<|
  qB 19<|zZ (.f u) [] [] zCD u u u ⟨⟩<|fun r4 _ k=>k<|zX<|qB 20<|vD (.f u) (e := zO .i64) 3 [vi r1, vi r2, vi r3, vi r4] ([r1, r2, r3, r4] : List Int) (rC vI (rC vI (rC vI (rC vI rN))))<|fun p1 c1=>zX<|qB 21<|
  zZ (.f u) [] [] zNH u u u (cq [0])<|fun r5 _ k=>k<|zX<|zY 0 [22] u<|qQ<|zP<|zJ<|zQ u u (fun _ k=>k) [] ⟨⟩
theorem zF2 {qd : Prop} {y0 : List wT} : qF qd prog 126 [sv p1 y0 c1, .func (.func 127) #[] #[]] [r_1] [Al tQ 123 r_1 p1 c1 y0] (zAS y0) fun r K=>∀ r_2,K (.tuple #[]) [r_2] [Ar tQ 123 r_2 p1 c1 (List.length y0) r] := ⟨call126, fun A w0 r hm hO hF => by
 have h := zOr (qd := qd) Go.Proofs.Tryz.sort126 (uF.prod (uF.int .i64) (uF.prod (uF.int .i64) (uF.prod (uF.int .i64) (uF.int .i64)))) (te := 123) Tryz.isAgg123 Tryz.sizeOf123 zCh 127 (enters_of func127 (by kernel_rfl) u) (fun w x y n hn => ?_) hO hF.1.1 hm
 · change Calls prog 126 _ _ _ at h
   refine h.mono fun e w' h => ?_
   cases e with
   | returned v => obtain ⟨r', rfl, h1, h2, h3, h4⟩ := h; exact fun G k => k r' ⟨rfl, h1, h2, ⟨h3, h4.symm⟩, trivial⟩
   | panicked ch => exact h
   | outgrown => exact h
 · refine ((zP7 (qd := True) (y0 := x) (y1 := y)).go [] w n hn (qY.start (by simp)) trivial).mono fun e w' h => ?_
   cases e with
   | returned v => exact h _ fun ⟨e1, q⟩ => ⟨e1, q.e⟩
   | panicked ch => exact h
   | outgrown => exact h⟩
theorem zQY {qd : Prop} {y0 : zM} {y1 : List zH} : qF qd prog 72 [.agg #[sv p1 y0.1 c1, sv p2 y0.2.1 c2, sv p3 y0.2.2 c3], sv p4 y1 c4] [] [Rl wP p1 c1 y0.1, Rl wF p2 c2 y0.2.1, Rl wO p3 c3 y0.2.2, Rl wS p4 c4 y1] (zD7 y0 y1) fun r K=>∀ p5 c5 r_1,K (sv p5 r c5) [r_1] [Al tQ 123 r_1 p5 c5 r] :=
 qA call72 func72 u fun X=>zB<|qZ .s u<|fun b1=>zA 1 u<|zC<|zB<|zA 1 u<|vT tQ 123<|zC<|jjn (fun s1 K=>∀ p5 c5 r_1,K [(5, sv p5 s1 c5)] [[], r_1] [Al tQ 123 r_1 p5 c5 s1]) (jA 3 u<|zT<|
  qW (fun s2 K=>∀ p6 c6 r_2,K [1,2,13] [(1, r_2)] [4,1,2,3] [(5, sv p6 s2.1 c6), (14, vi s2.2)] [Al tQ 123 r_2 p6 c6 s2.1]) (gv (fun _ k=>k none 0 []) [0,1] (gq [0,4,1,2,3]))<|fun s2 _ k p6 c6 r_2=>k<|jA 1 u<|zG<|zK u (jC<|zG<|
  zT<|jA 2 u<|jA 3 u<|zT<|qW (fun s3 K=>∀ p7 c7 r_3,K [1,2,6,13,14,18] [(1, r_3)] [1,2,3,4] [(5, sv p7 s3.1 c7), (19, vi s3.2)] [Al tQ 123 r_3 p7 c7 s3.1]) (gv (fun _ k=>k p6 c6 r_2) [0,1] (gq [0,1,2,3,4]))<|
  fun s3 _ k p7 c7 r_3=>k<|jA 1 u<|zG<|zK u (jC<|zG<|zT<|jA 2 u<|zB<|qV 0 3 u u u<|zA 3 u<|qI zSS u (cq [2,3,4,1])<|fun r1 _ k p8 c8=>k<|zA 1 u<|zC<|zG<|jA 3 u<|zK u (qS<|qP<|qR<|zP<|jB 2 u<|
  qH (gv (fun _ k=>k p7 c7 r_3) [0,1] (gq [1,2,3,4,5])))<|jC<|jA 3 u<|zT<|
  qW (fun s4 K=>∀ p9 c9 r_4,K [1,2,6,7,8,13,14,18,19,31] [(1, r_4)] [2,0,3,4,5] [(5, sv p9 s4.1 c9), (32, vi s4.2)] [Al tQ 123 r_4 p9 c9 s4.1]) (gv (fun _ k=>k p7 c7 r_3) [0,1] (gq [1,2,0,3,4,5]))<|fun s4 _ k p9 c9 r_4=>k<|jA 1 u<|
  zG<|zK u (jC<|zG<|zT<|jA 2 u<|zG<|zB<|zA 2 u<|qI zJm u (cq [1])<|fun r2 _ k p10 c10=>k<|zA 1 u<|qI zDk u (cq [0])<|fun r3 _ k=>k<|zA 1 u<|zC<|zK u (qS<|qP<|qR<|zP<|jB 2 u<|
  qH (gv (fun _ k=>k p9 c9 r_4) [0,1] (gq [1,2,3,4,5,6])))<|jC<|jA 3 u<|zT<|
  qW (fun s5 K=>∀ p11 c11 r_5,K [1,2,6,7,8,9,13,14,18,19,31,32,41,42] [(1, r_5)] [2,3,4,5,6] [(5, sv p11 s5.1 c11), (43, vi s5.2)] [Al tQ 123 r_5 p11 c11 s5.1]) (gv (fun _ k=>k p9 c9 r_4) [0,1] (gq [1,2,3,4,5,6]))<|
  fun s5 _ k p11 c11 r_5=>k<|jA 1 u<|zG<|zK u (jC<|zG<|zT<|zB<|wC 2 u u u<|fun x1 b2 o1=>wA false oI (gk 0) u<|zA 1 u<|zC<|qL<|zA 5 u<|zI (.agg #[vi s3.2, vi s4.2, vi s2.2, vi x1])<|
  vD .s (e := tQ) 123 [vi s3.2, vi s4.2, vi s2.2, vi x1] ([(s3.2, s4.2, s2.2, x1)] : List wT) (rC (vP vI (vP vI (vP vI vI))) rN)<|fun p12 c12=>wL .s 1 2 u (gk 0) u u<|fun x2 r_6 p13 c13=>zA 1 u<|zU<|qG<|zP<|
  jB 2 u<|qH (gv (fun _ k=>k p13 c13 r_6) [0,1] (gq [0,4,5,6,7,8])))<|qS<|qP<|qU<|qR<|qG<|zP<|jB 2 u<|qH (gv (fun _ k=>k p11 c11 r_5) [0,1] (gq [0,1,2,3,4,5])))<|qS<|qP<|qU<|qR<|qG<|zP<|jB 2 u<|
  qH (gv (fun _ k=>k p9 c9 r_4) [0,1] (gq [0,1,3,4,5])))<|qS<|qP<|qU<|qR<|qG<|zP<|jB 2 u<|qH (gv (fun _ k=>k p7 c7 r_3) [0,1] (gq [0,1,2,3,4])))<|qS<|qP<|qU<|qR<|zL (gv (fun _ k=>k p6 c6 r_2) [900,1] (gq [0])))<|
  fun s1 _ k p5 c5 r_1=>k<|zB<|zA 1 u<|zZ .s [1] [] zF2 u u u (cq [0])<|fun r4 _ k r_7=>k<|zC<|jA 2 u<|zJ<|jrE 0 4 u u<|zQ u u (fun _ k=>k p5 c5 r_7) [1] (gq [0])
theorem zJn {qd : Prop} {y0 : List zH} {y1 : Int} : qF qd prog 196 [sv p1 y0 c1, vi y1] [] [Rl wS p1 c1 y0] (zBu y0 y1) fun r K=>∀ p2 c2,K (sv p2 r c2) [] [Rl (zO .i64) p2 c2 r] :=
 qA call196 func196 u fun X=>jA 1 u<|zB<|zA 1 u<|vT (zO .i64) 3<|zC<|jjn (fun s1 K=>∀ p2 c2 r_1,K [(5, sv p2 s1 c2)] [r_1] [Al (zO .i64) 3 r_1 p2 c2 s1]) (zB<|zA 2 u<|qI zJm u (cq [1])<|fun r1 _ k p3 c3=>k<|zA 2 u<|zC<|zT<|
  qW (fun s2 K=>∀ p4 c4 r_2,K [0,10,11] [(0, r_2)] [2,0] [(5, sv p4 s2.1 c4), (12, vi s2.2)] [Al (zO .i64) 3 r_2 p4 c4 s2.1]) (gv (fun _ k=>k none 0 []) [0] (gq [1,2,0]))<|fun s2 _ k p4 c4 r_2=>k<|jA 1 u<|zG<|zK u (jC<|zG<|zT<|
  zB<|wC 2 u u u<|fun x1 b1 o1=>wA false oI (gk 0) u<|zA 1 u<|zC<|zB<|zA 2 u<|wC 2 u u u<|fun x2 b2 o2=>zN 0 u<|wA false oI (gf (gk 0)) u<|zA 1 u<|zC<|zK u (qL<|zA 3 u<|wC 3 u u u<|
  fun x3 b3 o3=>zN 0 u<|wA false oI (gf (gk 0)) u<|vD .s (e := zO .i64) 3 [vi x3.1] ([x3.1] : List Int) (rC vI rN)<|fun p5 c5=>wL .s 0 4 u (gk 0) u u<|fun x4 r_3 p6 c6=>zA 1 u<|zU<|qG<|zP<|jB 2 u<|
  qH (gv (fun _ k=>k p6 c6 r_3) [0] (gq [0,6,7])))<|wG<|qG<|zP<|jB 2 u<|qH (gv (fun _ k=>k p4 c4 r_2) [0] (gq [2,3,4])))<|qS<|qP<|qU<|qR<|zL (gv (fun _ k=>k p4 c4 r_2) [0] (gq [0])))<|fun s1 _ k p2 c2 r_1=>k<|zB<|zA 1 u<|
  zZ .s [0] [] zGe u u u (cq [0])<|fun r2 _ k r_4=>k<|zC<|jA 2 u<|zJ<|vF 0 0 u u<|jre 0 4 u u<|zQ u u (fun _ k=>k p2 c2) [] (gq [0])
theorem zQc {qd : Prop} {y0 : Int} {y1 : zM} : yQ qd prog 197 [vi y0, pt b1 0] [bx b1 29 [sv p1 y1.1 c1, sv p2 y1.2.1 c2, sv p3 y1.2.2 c3]] [Rl wP p1 c1 y1.1, Rl wF p2 c2 y1.2.1, Rl wO p3 c3 y1.2.2] (zHF y0 y1) fun L r K=>K (vb r) L [] :=
 qA call197 func197 u fun X=>jA 1 u<|zB<|zN 0 u<|zS 0 u u u<|zA 1 u<|wC 0 u u u<|fun x1 b2 o1=>zN 2 u<|wA false oI (gf (gs (gk 0))) u<|zA 2 u<|zC<|zJ<|zQ u u (fun _ k=>k) [0] ⟨⟩
theorem zGb {qd : Prop} {y0 : List Int} {y1 : zM} : yQ qd prog 178 [sv p1 y0 c1, .func (.func 197) #[] #[pt b1 0]] [bx b1 29 [sv p2 y1.1 c2, sv p3 y1.2.1 c3, sv p4 y1.2.2 c4]] [Rl (zO .i64) p1 c1 y0, Rl wP p2 c2 y1.1, Rl wF p3 c3 y1.2.1, Rl wO p4 c4 y1.2.2] (zA3 y0 y1) fun L r K=>K (vi r) L [] :=
 qA call178 func178 u fun X=>jA 1 u<|zG<|jA 3 u<|zT<|qW (fun s1 K=>K [0,1,7] [] [0,1,2,3] [(8, vi s1)] []) (gv (fun _ k=>k) [0] (gq [0,1,2,3]))<|fun s1 _ k=>k<|jA 1 u<|zG<|zK u (jC<|zG<|zT<|jA 2 u<|zB<|zA 3 u<|wC 0 u u u<|fun x1 b2 o1=>
  wA false oI (gk 0) u<|zZ .s [0] [] zQc u u u (cq [2,3,4])<|fun r1 _ k=>k<|zC<|zK u (jA 2 u<|zJ<|qO<|qE<|wU<|qO<|qE<|zQ u u (fun _ k=>k) [0] ⟨⟩)<|wG<|qG<|zP<|jB 2 u<|
  qH (gv (fun _ k=>k) [0] (gq [1,2,3,4])))<|qS<|qP<|qU<|qR<|zP<|jA 1 u<|zJ<|zQ u u (fun _ k=>k) [0] ⟨⟩
theorem zFo {qd : Prop} {y0 : List Int} {y1 : zM} : yQ qd prog 116 [sv p1 y0 c1, .func (.func 197) #[] #[pt b1 0]] [bx b1 29 [sv p2 y1.1 c2, sv p3 y1.2.1 c3, sv p4 y1.2.2 c4]] [Rl (zO .i64) p1 c1 y0, Rl wP p2 c2 y1.1, Rl wF p3 c3 y1.2.1, Rl wO p4 c4 y1.2.2] (zAX y0 y1) fun L r K=>K (vb r) L [] :=
 qA call116 func116 u fun X=>jA 1 u<|zB<|zA 2 u<|zZ .s [0] [] zGb u u u (cq [0,1,2,3])<|fun r1 _ k=>k<|zA 2 u<|zC<|zJ<|zQ u u (fun _ k=>k) [0] ⟨⟩
theorem zSI {qd : Prop} {y0 : zM} {y1 : List zH} {y2 : Int} : qF qd prog 128 [.agg #[sv p1 y0.1 c1, sv p2 y0.2.1 c2, sv p3 y0.2.2 c3], sv p4 y1 c4, vi y2] [] [Rl wP p1 c1 y0.1, Rl wF p2 c2 y0.2.1, Rl wO p3 c3 y0.2.2, Rl wS p4 c4 y1] (zFf y0 y1 y2) fun r K=>K (vb r) [] [] :=
 qA call128 func128 u fun X=>zB<|qZ .s u<|fun b1=>zA 1 u<|zC<|zB<|zA 2 u<|qI zJn u (cq [3])<|fun r1 _ k p5 c5=>k<|zA 1 u<|zZ .s [0] [] zFo u u u (cq [0,1,2,3])<|fun r2 _ k=>k<|zA 1 u<|
  zC<|zJ<|zQ u u (fun _ k=>k) [] ⟨⟩
theorem zOb {qd : Prop} (k : Nat) :
    (∀ {y0 : zM} {p1 : Option Addr} {c1 : Nat} {p2 : Option Addr} {c2 : Nat} {p3 : Option Addr} {c3 : Nat} {y1 : List zH} {p4 : Option Addr} {c4 : Nat} {y2 : Int}, qF qd prog 201 [.agg #[sv p1 y0.1 c1, sv p2 y0.2.1 c2, sv p3 y0.2.2 c3], sv p4 y1 c4, vi y2] [] [Rl wP p1 c1 y0.1, Rl wF p2 c2 y0.2.1, Rl wO p3 c3 y0.2.2, Rl wS p4 c4 y1] (zC0 k y0 y1 y2) fun r K=>∀ p5 c5,K (sv p5 r c5) [] [Rl (zO .i64) p5 c5 r]) := by
  induction k with
  | zero => exact z07 call201
  | succ k ih =>
    have ih_argument_Last := @ih
    exact @fun y0 p1 c1 p2 c2 p3 c3 y1 p4 c4 y2=>qA (m1 := zEn (zC0 k) y0 y1 y2) call201 func201 u fun X=>zB<|qZ .s u<|fun b1=>zA 1 u<|zC<|zG<|wK (fun s1 K=>K [1,2,3] [] [3,0,1,2] [(21, vb s1)] []) (qL<|zA 2 u<|qI zI6 u (cq [3])<|fun r1 _ k=>k<|zA 2 u<|wM 14 u (zA 6 u<|zI (vb true)<|zU<|
  zL (gv (fun _ k=>k) [0] (gq [3,0,1,2])))<|zA 2 u<|wC 3 u u u<|fun x1 b2 o1=>zN 1 u<|wA false oI (gf (gs (gk 0))) u<|zA 1 u<|zI (vb (decide (x1.2.1 < 0)))<|zU<|zL (gv (fun _ k=>k) [0] (gq [4,1,2,3])))<|fun s1 _ k=>k<|
  zK u (jA 1 u<|zJ<|qE<|zQ u u (fun _ k=>k none 0) [] ⟨gn,⟨⟩⟩)<|jC<|zG<|yD [] [0] 11<|qT 0 1 u u<|wH 1 0 u u u u<|zY 7 [2,3] u<|yO 4 0 u u u u<|fun x2 b3 o2=>qT 5 1 u u<|
  yK 6 false oI u (gf (gs (gk 0))) u<|yO 7 3 u u u u<|fun x3 b4 o3=>qT 8 1 u u<|yK 9 false oB u (gf (gs (gk 0))) u<|zY 0 [10] u<|qQ<|zP<|zK u (zB<|zA 2 u<|wC 2 u u u<|fun x4 b5 o4=>zN 1 u<|
  wA false oI (gf (gs (gk 0))) u<|vD .s (e := zO .i64) 3 [vi x4.2.1] ([x4.2.1] : List Int) (rC vI rN)<|fun p5 c5=>zA 1 u<|zC<|zJ<|qE<|zQ u u (fun _ k=>k p5 c5) [] (gq [0]))<|jC<|zB<|zA 1 u<|vT (zO .i64) 3<|zC<|
  jjn (fun s2 K=>∀ p6 c6 r_1,K [(7, sv p6 s2 c6)] [[], r_1] [Al (zO .i64) 3 r_1 p6 c6 s2]) (zB<|zA 2 u<|wC 3 u u u<|fun x5 b6 o5=>zN 2 u<|wA false oL (gf (gs (gs (gk 0)))) u<|fun p7 c7=>zA 2 u<|zC<|zT<|
  qW (fun s3 K=>∀ p8 c8 r_2,K [1,3,43,44] [(1, r_2)] [5,0,6,7,8] [(7, sv p8 s3.1 c8), (45, vi s3.2)] [Al (zO .i64) 3 r_2 p8 c8 s3.1]) (gv (fun _ k=>k none 0 []) [0,1] (gq [2,5,0,6,7,8]))<|fun s3 _ k p8 c8 r_2=>k<|jA 1 u<|zG<|zK u (
  jC<|zG<|zT<|zB<|wC 2 u u u<|fun x6 b7 o6=>wA false oI (gk 0) u<|zA 1 u<|zC<|qL<|zA 1 u<|qV 0 3 u u u<|zA 2 u<|qI ih_argument_Last u (cq [4,5,6,2])<|fun r2 _ k p9 c9=>k<|wL .s 1 2 u (gk 0) u u<|
  fun x7 r_3 p10 c10=>zA 1 u<|zU<|qG<|zP<|jB 2 u<|qH (gv (fun _ k=>k p10 c10 r_3) [0,1] (gq [0,4,5,6,7,8])))<|qS<|qP<|qU<|qR<|zL (gv (fun _ k=>k p8 c8 r_2) [900,1] (gq [0])))<|fun s2 _ k p6 c6 r_1=>k<|zB<|zA 1 u<|
  zZ .s [1] [] zGe u u u (cq [0])<|fun r3 _ k r_4=>k<|zC<|zB<|zA 1 u<|jrE 0 58 u u<|zZ .s [1] [] zGt u u u (cq [0])<|fun r4 _ k p11 c11=>k<|zA 1 u<|zC<|zJ<|
  zQ u u (fun _ k=>k p11 c11) [] (gq [0])
theorem zRt {qd : Prop} {y0 : zM} {y1 : List zH} {y2 : Int} : qF qd prog 201 [.agg #[sv p1 y0.1 c1, sv p2 y0.2.1 c2, sv p3 y0.2.2 c3], sv p4 y1 c4, vi y2] [] [Rl wP p1 c1 y0.1, Rl wF p2 c2 y0.2.1, Rl wO p3 c3 y0.2.2, Rl wS p4 c4 y1] (zGJ y0 y1 y2) fun r K=>∀ p5 c5,K (sv p5 r c5) [] [Rl (zO .i64) p5 c5 r] := zP3 fun k => (zOb k)
theorem zQO {qd : Prop} {y0 : zM} {y1 : List Int} : qF qd prog 200 [.agg #[sv p1 y0.1 c1, sv p2 y0.2.1 c2, sv p3 y0.2.2 c3], sv p4 y1 c4] [] [Rl wP p1 c1 y0.1, Rl wF p2 c2 y0.2.1, Rl wO p3 c3 y0.2.2, Rl (zO .i64) p4 c4 y1] (zHZ y0 y1) fun r K=>∀ p5 c5,K (sv p5 r c5) [] [Rl (zO .i64) p5 c5 r] :=
 qA call200 func200 u fun X=>zB<|qZ .s u<|fun b1=>zA 1 u<|zC<|zB<|zA 1 u<|vT (zO .i64) 3<|zC<|zG<|jA 3 u<|zT<|
  qW (fun s1 K=>∀ p5 c5 r_1,K [2,8,9] [(1, r_1)] [4,1,2,3] [(5, sv p5 s1.1 c5), (10, vi s1.2)] [Al (zO .i64) 3 r_1 p5 c5 s1.1]) (gv (fun _ k=>k none 0 []) [0,1] (gq [0,4,1,2,3]))<|fun s1 _ k p5 c5 r_1=>k<|jA 1 u<|zG<|zK u (jC<|zG<|
  zT<|zB<|wC 1 u u u<|fun x1 b2 o1=>wA false oI (gk 0) u<|zA 1 u<|zC<|qL<|zA 1 u<|zN 1 u<|zS 0 u u u<|zA 1 u<|wC 4 u u u<|fun x2 b3 o2=>zN 2 u<|wA false oI (gf (gs (gs (gk 0)))) u<|
  vD .s (e := zO .i64) 3 [vi x2.2.2.1] ([x2.2.2.1] : List Int) (rC vI rN)<|fun p6 c6=>wL .s 1 3 u (gk 0) u u<|fun x3 r_2 p7 c7=>zA 1 u<|zU<|qG<|zP<|jB 2 u<|qH (gv (fun _ k=>k p7 c7 r_2) [0,1] (gq [0,5,6,7,8])))<|qS<|qP<|
  qU<|qR<|zP<|jA 2 u<|zJ<|vF 1 0 u u<|zQ u u (fun _ k=>k p5 c5) [] (gq [0])
theorem zHE {qd : Prop} {y0 : zM} {y1 : List zH} {y2 : Int} : qF qd prog 133 [.agg #[sv p1 y0.1 c1, sv p2 y0.2.1 c2, sv p3 y0.2.2 c3], sv p4 y1 c4, vi y2] [] [Rl wP p1 c1 y0.1, Rl wF p2 c2 y0.2.1, Rl wO p3 c3 y0.2.2, Rl wS p4 c4 y1] (zBt y0 y1 y2) fun r K=>∀ p5 c5,K (sv p5 r c5) [] [Rl (zO .i64) p5 c5 r] :=
 qA call133 func133 u fun X=>zB<|qZ .s u<|fun b1=>zA 1 u<|zC<|yD [] [0] 7<|vQ 0 0 3 u u u u<|vQ 1 0 3 u u u u<|zY 3 [2,3] u<|qB 4<|zZ (.f u) [] [] zRt u u u (cq [0,1,2,3])<|fun r1 _ k p5 c5=>k<|zX<|qB 5<|
  zZ (.f u) [] [] zQO u u u (cq [1,2,3,0])<|fun r2 _ k p6 c6=>k<|zX<|zY 0 [6] u<|qQ<|zP<|zJ<|zQ u u (fun _ k=>k p6 c6) [] (gq [0])
theorem zMP {qd : Prop} {y0 : List Int} : qF qd prog 199 [sv p1 y0 c1] [] [Rl (zO .i64) p1 c1 y0] (zCu y0) fun r K=>K (vi r) [] [] :=
 qA call199 func199 u fun X=>jA 1 u<|wK (fun s1 K=>K [0] [] [0] [] []) (jA 3 u<|zK u (qL<|jno)<|wG<|zL (gv (fun _ k=>k) [] (gq [0])))<|fun s1 _ k=>k<|zB<|zA 1 u<|wC 0 u u u<|fun x1 b1 o1=>wA false oI (gk 0) u<|zA 1 u<|zC<|zG<|jA 1 u<|
  zT<|qW (fun s2 K=>K [0] [] [1] [(3, vi s2.1), (4, vi s2.2)] []) (gv (fun _ k=>k) [] (gq [1]))<|fun s2 _ k=>k<|zG<|jA 4 u<|zK u (jC<|zG<|zT<|qL<|zA 3 u<|wC 0 u u u<|fun x2 b2 o2=>wA false oI (gk 0) u<|zA 2 u<|
  zU<|qG<|zP<|jB 3 u<|qH (gv (fun _ k=>k) [] (gq [1])))<|qS<|qP<|qU<|qR<|zP<|jA 2 u<|zJ<|zQ u u (fun _ k=>k) [] ⟨⟩
theorem zML {qd : Prop} {y0 : List Int} : qF qd prog 198 [sv p1 y0 c1] [] [Rl (zO .i64) p1 c1 y0] (zCp y0) fun r K=>K (vi r) [] [] :=
 qA call198 func198 u fun X=>jA 1 u<|wK (fun s1 K=>K [0] [] [0] [] []) (jA 3 u<|zK u (qL<|jno)<|wG<|zL (gv (fun _ k=>k) [] (gq [0])))<|fun s1 _ k=>k<|zB<|zA 1 u<|wC 0 u u u<|fun x1 b1 o1=>wA false oI (gk 0) u<|zA 1 u<|zC<|zG<|jA 1 u<|
  zT<|qW (fun s2 K=>K [0] [] [1] [(3, vi s2.1), (4, vi s2.2)] []) (gv (fun _ k=>k) [] (gq [1]))<|fun s2 _ k=>k<|zG<|jA 4 u<|zK u (jC<|zG<|zT<|qL<|zA 3 u<|wC 0 u u u<|fun x2 b2 o2=>wA false oI (gk 0) u<|zA 2 u<|
  zU<|qG<|zP<|jB 3 u<|qH (gv (fun _ k=>k) [] (gq [1])))<|qS<|qP<|qU<|qR<|zP<|jA 2 u<|zJ<|zQ u u (fun _ k=>k) [] ⟨⟩
theorem zKm {qd : Prop} {y0 : List Int} {y1 : List Int} {y2 : Int} : qF qd prog 130 [sv p1 y0 c1, sv p2 y1 c2, vi y2] [] [Rl (zO .i64) p1 c1 y0, Rl (zO .i64) p2 c2 y1] (zDE y0 y1 y2) fun r K=>K (vb r) [] [] :=
 qA call130 func130 u fun X=>jA 1 u<|zG<|tN (fun K=>K [0,1,2] [] [0,1] [(17, vb (if y2 != 1 then (y2 != 2) || ((len y0) == 0) else (len y0) == 0))] []) (qL<|zA 3 u<|yY (b := y2 != 1) 9 u (fun hb1=>zA 2 u<|zI (vb (y2 != 2))<|zA 1 u<|
  yY (b := y2 != 2) 13 u (fun hb2=>zA 3 u<|zI (vb true)<|zU<|wW 17 (vb (if y2 != 1 then (y2 != 2) || ((len y0) == 0) else (len y0) == 0)) u (by rw [hb1,hb2]; rfl)<|zL (gv (fun _ k=>k) [] (gq [0,1])))<|fun hb2=>zA 3 u<|
  zI (vb ((len y0) == 0))<|zU<|wW 17 (vb (if y2 != 1 then (y2 != 2) || ((len y0) == 0) else (len y0) == 0)) u (by rw [hb1,hb2]; rfl)<|zL (gv (fun _ k=>k) [] (gq [0,1])))<|fun hb1=>zA 2 u<|zI (vb false)<|zA 4 u<|
  zI (vb ((len y0) == 0))<|zU<|wW 17 (vb (if y2 != 1 then (y2 != 2) || ((len y0) == 0) else (len y0) == 0)) u (by rw [hb1]; rfl)<|zL (gv (fun _ k=>k) [] (gq [0,1])))<|fun _ k=>k<|zK u (jA 1 u<|zJ<|qE<|
  zQ u u (fun _ k=>k) [] ⟨⟩)<|jC<|zG<|zT<|jA 4 u<|zK u (jA 1 u<|zJ<|qO<|qE<|zQ u u (fun _ k=>k) [] ⟨⟩)<|jA 3 u<|zK u (zB<|zA 1 u<|qI zML u (cq [0])<|fun r1 _ k=>k<|zA 1 u<|
  qI zML u (cq [1])<|fun r2 _ k=>k<|zA 2 u<|zC<|zJ<|qO<|qE<|zQ u u (fun _ k=>k) [] ⟨⟩)<|wG<|qG<|zP<|zB<|zA 1 u<|qI zMP u (cq [0])<|fun r3 _ k=>k<|zA 1 u<|
  qI zMP u (cq [1])<|fun r4 _ k=>k<|zA 2 u<|zC<|zJ<|zQ u u (fun _ k=>k) [] ⟨⟩
theorem zJM {qd : Prop} {y0 : zM} {y1 : List zH} {y2 : Int} {y3 : Int} {y4 : yH} : yQ qd prog 129 [.func (.func 133) #[] #[], pt b1 0, pt b2 0, pt b3 0, pt b4 0, pt b5 0] [bx b1 29 [sv p1 y0.1 c1, sv p2 y0.2.1 c2, sv p3 y0.2.2 c3], bx b2 33 [sv p4 y1 c4], bx b3 3 [vi y2], bx b4 3 [vi y3], bx b5 44 [vi y4.1, vi y4.2]] [Rl wP p1 c1 y0.1, Rl wF p2 c2 y0.2.1, Rl wO p3 c3 y0.2.2, Rl wS p4 c4 y1] (zAh y0 y1 y2 y3 y4) fun L r K=>K (vb r) L [] :=
 qA call129 func129 u fun X=>jA 1 u<|yD [] [0, 1, 2, 3, 4] 14<|zY 13 [0] u<|vQ 1 0 3 u u u u<|wH 2 1 u u u u<|wH 3 2 u u u u<|zY 9 [5] u<|vQ 6 0 3 u u u u<|wH 7 1 u u u u<|wH 8 3 u u u u<|qT 10 1 u u<|
  wH 11 4 u u u u<|qB 4<|zZ (.f u) [] [] zHE u u u (cq [0,1,2,3])<|fun r1 _ k p5 c5=>k<|zX<|qB 9<|zZ (.f u) [] [] zHE u u u (cq [1,2,3,4])<|fun r2 _ k p6 c6=>k<|zX<|qB 12<|
  zZ (.f u) [] [] zKm u u u (cq [1,0])<|fun r3 _ k=>k<|zX<|zY 0 [13] u<|qQ<|zP<|zJ<|zQ u u (fun _ k=>k) [0,1,2,3,4] ⟨⟩
theorem zEx {qd : Prop} {y0 : zM} {y1 : List zH} {y2 : Int} : qF qd prog 134 [.agg #[sv p1 y0.1 c1, sv p2 y0.2.1 c2, sv p3 y0.2.2 c3], sv p4 y1 c4, vi y2] [] [Rl wP p1 c1 y0.1, Rl wF p2 c2 y0.2.1, Rl wO p3 c3 y0.2.2, Rl wS p4 c4 y1] (zBM y0 y1 y2) fun r K=>∀ p5 c5,K (sv p5 r c5) [] [Rl (zO .i64) p5 c5 r] :=
 qA call134 func134 u fun X=>zB<|qZ .s u<|fun b1=>zA 1 u<|zC<|zB<|zA 1 u<|vT (zO .i64) 3<|zC<|zG<|zB<|zA 2 u<|qI zJn u (cq [4])<|fun r1 _ k p5 c5=>k<|zA 2 u<|zC<|zT<|
  qW (fun s1 K=>∀ p6 c6 r_1,K [3,13,14] [(1, r_1)] [0,2,3,4] [(7, sv p6 s1.1 c6), (15, vi s1.2)] [Al (zO .i64) 3 r_1 p6 c6 s1.1]) (gv (fun _ k=>k none 0 []) [0,1] (gq [1,0,2,3,4]))<|fun s1 _ k p6 c6 r_1=>k<|jA 1 u<|zG<|zK u (jC<|
  zG<|zT<|zB<|wC 1 u u u<|fun x1 b2 o1=>wA false oI (gk 0) u<|zA 1 u<|zC<|zB<|zN 0 u<|zS 0 u u u<|zA 1 u<|wC 3 u u u<|fun x2 b3 o2=>wA true zLa (gk 0) u<|
  wN .s (.agg #[vb false, vs [], vi 0, vi 0, vs []])<|fun b4=>qJ .s 2 u u u<|zC<|zB<|zN 2 u<|zS 2 u u u<|zC<|zT<|jA 2 u<|zK u (qL<|zA 1 u<|zN 3 u<|zS 2 u u u<|
  vD .s (e := zO .i64) 3 [vi x2.2.2.1] ([x2.2.2.1] : List Int) (rC vI rN)<|fun p7 c7=>wL .s 1 3 u (gk 0) u u<|fun x3 r_2 p8 c8=>zA 1 u<|zU<|qG<|qG<|zP<|jB 2 u<|qH (gv (fun _ k=>k p8 c8 r_2) [0,1] (gq [0,5,6,7,8])))<|
  jA 2 u<|zK u (qL<|zA 1 u<|vD .s (e := zO .i64) 3 [vi (-1)] ([(-1)] : List Int) (rC vI rN)<|fun p9 c9=>wL .s 1 3 u (gk 0) u u<|fun x4 r_3 p10 c10=>zA 1 u<|zU<|qG<|qG<|zP<|jB 2 u<|
  qH (gv (fun _ k=>k p10 c10 r_3) [0,1] (gq [0,5,6,7,8])))<|wG<|qG<|qG<|zP<|jB 2 u<|qH (gv (fun _ k=>k p6 c6 r_1) [0,1] (gq [2,3,4,5,6])))<|qS<|qP<|qU<|qR<|zP<|jA 2 u<|zJ<|vF 1 0 u u<|
  zQ u u (fun _ k=>k p6 c6) [] (gq [0])
theorem zCL {qd : Prop} {y0 : zM} {y1 : List zH} {y2 : Int} {y3 : Int} {y4 : yH} : yQ qd prog 129 [.func (.func 134) #[] #[], pt b1 0, pt b2 0, pt b3 0, pt b4 0, pt b5 0] [bx b1 29 [sv p1 y0.1 c1, sv p2 y0.2.1 c2, sv p3 y0.2.2 c3], bx b2 33 [sv p4 y1 c4], bx b3 3 [vi y2], bx b4 3 [vi y3], bx b5 44 [vi y4.1, vi y4.2]] [Rl wP p1 c1 y0.1, Rl wF p2 c2 y0.2.1, Rl wO p3 c3 y0.2.2, Rl wS p4 c4 y1] (zAI y0 y1 y2 y3 y4) fun L r K=>K (vb r) L [] :=
 qA call129 func129 u fun X=>jA 1 u<|yD [] [0, 1, 2, 3, 4] 14<|zY 13 [0] u<|vQ 1 0 3 u u u u<|wH 2 1 u u u u<|wH 3 2 u u u u<|zY 9 [5] u<|vQ 6 0 3 u u u u<|wH 7 1 u u u u<|wH 8 3 u u u u<|qT 10 1 u u<|
  wH 11 4 u u u u<|qB 4<|zZ (.f u) [] [] zEx u u u (cq [0,1,2,3])<|fun r1 _ k p5 c5=>k<|zX<|qB 9<|zZ (.f u) [] [] zEx u u u (cq [1,2,3,4])<|fun r2 _ k p6 c6=>k<|zX<|qB 12<|
  zZ (.f u) [] [] zKm u u u (cq [1,0])<|fun r3 _ k=>k<|zX<|zY 0 [13] u<|qQ<|zP<|zJ<|zQ u u (fun _ k=>k) [0,1,2,3,4] ⟨⟩
theorem zIx {qd : Prop} {y0 : zM} {y1 : List zH} {y2 : Int} {y3 : Int} : yQ qd prog 131 [.func (.func 133) #[] #[], pt b1 0, pt b2 0, pt b3 0, pt b4 0] [bx b1 29 [sv p1 y0.1 c1, sv p2 y0.2.1 c2, sv p3 y0.2.2 c3], bx b2 33 [sv p4 y1 c4], bx b3 3 [vi y2], bx b4 3 [vi y3]] [Rl wP p1 c1 y0.1, Rl wF p2 c2 y0.2.1, Rl wO p3 c3 y0.2.2, Rl wS p4 c4 y1] (zAk y0 y1 y2 y3) fun L r K=>K (vb r) L [] :=
 qA call131 func131 u fun X=>jA 1 u<|wK (fun s1 K=>K [] [] [0,1,2,3] [(6, vb s1)] []) (qL<|zA 1 u<|qV 0 3 u u u<|zS 1 u u u<|zS 2 u u u<|zZ .s [] [] zHE u u u (cq [0,1,2,3])<|fun r1 _ k p5 c5=>k<|zA 3 u<|wM 14 u (
  zA 1 u<|qV 0 3 u u u<|zS 1 u u u<|zS 3 u u u<|zZ .s [] [] zHE u u u (cq [1,2,3,4])<|fun r2 _ k p6 c6=>k<|zA 2 u<|zI (vb ((len r2) == 0))<|zA 1 u<|zU<|
  zL (gv (fun _ k=>k) [0,1,2,3] (gq [2,3,4,5])))<|zA 7 u<|zI (vb false)<|zA 1 u<|zU<|zL (gv (fun _ k=>k) [0,1,2,3] (gq [1,2,3,4])))<|fun s1 _ k=>k<|zJ<|zQ u u (fun _ k=>k) [0,1,2,3] ⟨⟩
theorem zKP {qd : Prop} {y1 : zM} {y2 : List zH} {y3 : Int} {y4 : Int} {y5 : yH} : yQ qd prog 132 [pt b1 0, pt b7 0] [bx b1 180 [.func (.func 129) #[] #[pt b2 0, pt b3 0, pt b4 0, pt b5 0, pt b6 0]], bx b2 29 [sv p1 y1.1 c1, sv p2 y1.2.1 c2, sv p3 y1.2.2 c3], bx b3 33 [sv p4 y2 c4], bx b4 3 [vi y3], bx b5 3 [vi y4], bx b6 44 [vi y5.1, vi y5.2], bx b7 180 [.func (.func 131) #[] #[pt b2 0, pt b3 0, pt b4 0, pt b5 0]]] [Rl wP p1 c1 y1.1, Rl wF p2 c2 y1.2.1, Rl wO p3 c3 y1.2.2, Rl wS p4 c4 y2] (zBf y1 y2 y3 y4 y5) fun L r K=>K (vb r) L [] :=
 qA call132 func132 u fun X=>jA 1 u<|wK (fun s1 K=>K [] [] [0,1,2,3] [(2, vb s1)] []) (qL<|zS 0 u u u<|zZ .s [1, 2, 3, 4, 5] [] zJM u u u (cq [0,1,2,3])<|fun r1 _ k=>k<|zA 1 u<|wM 5 u (zA 6 u<|zI (vb true)<|
  zA 1 u<|zU<|zL (gv (fun _ k=>k) [0,1,2,3,4,5,6] (gq [0,1,2,3])))<|zS 6 u u u<|zZ .s [1, 2, 3, 4] [] zIx u u u (cq [0,1,2,3])<|fun r2 _ k=>k<|zA 1 u<|wM 8 u (zS 0 u u u<|
  zZ .s [1, 2, 3, 4, 5] [] zCL u u u (cq [0,1,2,3])<|fun r3 _ k=>k<|zI (vb r3)<|zI (vb r3)<|zA 1 u<|zU<|zL (gv (fun _ k=>k) [0,1,2,3,4,5,6] (gq [0,1,2,3])))<|zA 2 u<|zI (vb false)<|
  zI (vb false)<|zA 1 u<|zU<|zL (gv (fun _ k=>k) [0,1,2,3,4,5,6] (gq [0,1,2,3])))<|fun s1 _ k=>k<|zJ<|zQ u u (fun _ k=>k) [0,1,2,3,4,5,6] ⟨⟩
theorem zHG {qd : Prop} {y0 : zM} {y1 : List zH} {y2 : Int} : qF qd prog 136 [.agg #[sv p1 y0.1 c1, sv p2 y0.2.1 c2, sv p3 y0.2.2 c3], sv p4 y1 c4, vi y2] [] [Rl wP p1 c1 y0.1, Rl wF p2 c2 y0.2.1, Rl wO p3 c3 y0.2.2, Rl wS p4 c4 y1] (zBs y0 y1 y2) fun r K=>∀ p5 c5,K (sv p5 r c5) [] [Rl (zO .i64) p5 c5 r] :=
 qA call136 func136 u fun X=>zB<|qZ .s u<|fun b1=>zA 1 u<|zC<|yD [] [0] 7<|vQ 0 0 3 u u u u<|vQ 1 0 3 u u u u<|zY 3 [2,3] u<|qB 4<|zZ (.f u) [] [] zIl u u u (cq [0,1,2,3])<|fun r1 _ k p5 c5=>k<|zX<|qB 5<|
  zZ (.f u) [] [] zQO u u u (cq [1,2,3,0])<|fun r2 _ k p6 c6=>k<|zX<|zY 0 [6] u<|qQ<|zP<|zJ<|zQ u u (fun _ k=>k p6 c6) [] (gq [0])
theorem zF8 {qd : Prop} {y0 : zM} {y1 : List zH} {y2 : Int} {y3 : Int} {y4 : yH} : yQ qd prog 129 [.func (.func 136) #[] #[], pt b1 0, pt b2 0, pt b3 0, pt b4 0, pt b5 0] [bx b1 29 [sv p1 y0.1 c1, sv p2 y0.2.1 c2, sv p3 y0.2.2 c3], bx b2 33 [sv p4 y1 c4], bx b3 3 [vi y2], bx b4 3 [vi y3], bx b5 44 [vi y4.1, vi y4.2]] [Rl wP p1 c1 y0.1, Rl wF p2 c2 y0.2.1, Rl wO p3 c3 y0.2.2, Rl wS p4 c4 y1] (zA6 y0 y1 y2 y3 y4) fun L r K=>K (vb r) L [] :=
 qA call129 func129 u fun X=>jA 1 u<|yD [] [0, 1, 2, 3, 4] 14<|zY 13 [0] u<|vQ 1 0 3 u u u u<|wH 2 1 u u u u<|wH 3 2 u u u u<|zY 9 [5] u<|vQ 6 0 3 u u u u<|wH 7 1 u u u u<|wH 8 3 u u u u<|qT 10 1 u u<|
  wH 11 4 u u u u<|qB 4<|zZ (.f u) [] [] zHG u u u (cq [0,1,2,3])<|fun r1 _ k p5 c5=>k<|zX<|qB 9<|zZ (.f u) [] [] zHG u u u (cq [1,2,3,4])<|fun r2 _ k p6 c6=>k<|zX<|qB 12<|
  zZ (.f u) [] [] zKm u u u (cq [1,0])<|fun r3 _ k=>k<|zX<|zY 0 [13] u<|qQ<|zP<|zJ<|zQ u u (fun _ k=>k) [0,1,2,3,4] ⟨⟩
theorem zIG {qd : Prop} {y0 : zM} {y1 : List zH} {y2 : Int} {y3 : Int} : yQ qd prog 131 [.func (.func 134) #[] #[], pt b1 0, pt b2 0, pt b3 0, pt b4 0] [bx b1 29 [sv p1 y0.1 c1, sv p2 y0.2.1 c2, sv p3 y0.2.2 c3], bx b2 33 [sv p4 y1 c4], bx b3 3 [vi y2], bx b4 3 [vi y3]] [Rl wP p1 c1 y0.1, Rl wF p2 c2 y0.2.1, Rl wO p3 c3 y0.2.2, Rl wS p4 c4 y1] (zAa y0 y1 y2 y3) fun L r K=>K (vb r) L [] :=
 qA call131 func131 u fun X=>jA 1 u<|wK (fun s1 K=>K [] [] [0,1,2,3] [(6, vb s1)] []) (qL<|zA 1 u<|qV 0 3 u u u<|zS 1 u u u<|zS 2 u u u<|zZ .s [] [] zEx u u u (cq [0,1,2,3])<|fun r1 _ k p5 c5=>k<|zA 3 u<|
  wM 14 u (zA 1 u<|qV 0 3 u u u<|zS 1 u u u<|zS 3 u u u<|zZ .s [] [] zEx u u u (cq [1,2,3,4])<|fun r2 _ k p6 c6=>k<|zA 2 u<|zI (vb ((len r2) == 0))<|zA 1 u<|zU<|
  zL (gv (fun _ k=>k) [0,1,2,3] (gq [2,3,4,5])))<|zA 7 u<|zI (vb false)<|zA 1 u<|zU<|zL (gv (fun _ k=>k) [0,1,2,3] (gq [1,2,3,4])))<|fun s1 _ k=>k<|zJ<|zQ u u (fun _ k=>k) [0,1,2,3] ⟨⟩
theorem zJP {qd : Prop} {y0 : zM} {y1 : List zH} {y2 : Int} {y3 : Int} : yQ qd prog 131 [.func (.func 136) #[] #[], pt b1 0, pt b2 0, pt b3 0, pt b4 0] [bx b1 29 [sv p1 y0.1 c1, sv p2 y0.2.1 c2, sv p3 y0.2.2 c3], bx b2 33 [sv p4 y1 c4], bx b3 3 [vi y2], bx b4 3 [vi y3]] [Rl wP p1 c1 y0.1, Rl wF p2 c2 y0.2.1, Rl wO p3 c3 y0.2.2, Rl wS p4 c4 y1] (zAj y0 y1 y2 y3) fun L r K=>K (vb r) L [] :=
 qA call131 func131 u fun X=>jA 1 u<|wK (fun s1 K=>K [] [] [0,1,2,3] [(6, vb s1)] []) (qL<|zA 1 u<|qV 0 3 u u u<|zS 1 u u u<|zS 2 u u u<|zZ .s [] [] zHG u u u (cq [0,1,2,3])<|fun r1 _ k p5 c5=>k<|zA 3 u<|wM 14 u (
  zA 1 u<|qV 0 3 u u u<|zS 1 u u u<|zS 3 u u u<|zZ .s [] [] zHG u u u (cq [1,2,3,4])<|fun r2 _ k p6 c6=>k<|zA 2 u<|zI (vb ((len r2) == 0))<|zA 1 u<|zU<|
  zL (gv (fun _ k=>k) [0,1,2,3] (gq [2,3,4,5])))<|zA 7 u<|zI (vb false)<|zA 1 u<|zU<|zL (gv (fun _ k=>k) [0,1,2,3] (gq [1,2,3,4])))<|fun s1 _ k=>k<|zJ<|zQ u u (fun _ k=>k) [0,1,2,3] ⟨⟩
theorem zKN {qd : Prop} {y1 : zM} {y2 : List zH} {y3 : Int} {y4 : Int} {y6 : yH} : yQ qd prog 135 [pt b1 0, pt b6 0] [bx b1 180 [.func (.func 131) #[] #[pt b2 0, pt b3 0, pt b4 0, pt b5 0]], bx b2 29 [sv p1 y1.1 c1, sv p2 y1.2.1 c2, sv p3 y1.2.2 c3], bx b3 33 [sv p4 y2 c4], bx b4 3 [vi y3], bx b5 3 [vi y4], bx b6 180 [.func (.func 129) #[] #[pt b2 0, pt b3 0, pt b4 0, pt b5 0, pt b7 0]], bx b7 44 [vi y6.1, vi y6.2]] [Rl wP p1 c1 y1.1, Rl wF p2 c2 y1.2.1, Rl wO p3 c3 y1.2.2, Rl wS p4 c4 y2] (zBi y1 y2 y3 y4 y6) fun L r K=>K (vb r) L [] :=
 qA call135 func135 u fun X=>jA 1 u<|zG<|zT<|zB<|zS 0 u u u<|zZ .s [1, 2, 3, 4] [] zJP u u u (cq [0,1,2,3])<|fun r1 _ k=>k<|zA 1 u<|zC<|zK u (zB<|zS 5 u u u<|
  zZ .s [1, 2, 3, 4, 6] [] zCL u u u (cq [0,1,2,3])<|fun r2 _ k=>k<|zA 1 u<|zC<|zJ<|qO<|qE<|zQ u u (fun _ k=>k) [0,1,2,3,4,5,6] ⟨⟩)<|zB<|zS 0 u u u<|
  zZ .s [1, 2, 3, 4] [] zIG u u u (cq [0,1,2,3])<|fun r3 _ k=>k<|zA 1 u<|zC<|zK u (zB<|zS 5 u u u<|zZ .s [1, 2, 3, 4, 6] [] zF8 u u u (cq [0,1,2,3])<|
  fun r4 _ k=>k<|zA 1 u<|zC<|zJ<|qO<|qE<|zQ u u (fun _ k=>k) [0,1,2,3,4,5,6] ⟨⟩)<|wG<|qG<|zP<|wK (fun s1 K=>K [] [] [0,1,2,3] [(2, vb s1)] []) (qL<|zS 5 u u u<|
  zZ .s [1, 2, 3, 4, 6] [] zCL u u u (cq [0,1,2,3])<|fun r5 _ k=>k<|zA 1 u<|wM 15 u (zS 5 u u u<|zZ .s [1, 2, 3, 4, 6] [] zF8 u u u (cq [0,1,2,3])<|fun r6 _ k=>
  k<|zI (vb r6)<|zA 1 u<|zU<|zL (gv (fun _ k=>k) [0,1,2,3,4,5,6] (gq [0,1,2,3])))<|zA 2 u<|zI (vb false)<|zA 1 u<|zU<|zL (gv (fun _ k=>k) [0,1,2,3,4,5,6] (gq [0,1,2,3])))<|fun s1 _ k=>k<|zJ<|
  zQ u u (fun _ k=>k) [0,1,2,3,4,5,6] ⟨⟩
theorem zVd {qd : Prop} {y0 : zM} {y1 : List zH} {y2 : Int} {y3 : Int} {y4 : yH} : qF qd prog 74 [.agg #[sv p1 y0.1 c1, sv p2 y0.2.1 c2, sv p3 y0.2.2 c3], sv p4 y1 c4, vi y2, vi y3, .agg #[vi y4.1, vi y4.2]] [] [Rl wP p1 c1 y0.1, Rl wF p2 c2 y0.2.1, Rl wO p3 c3 y0.2.2, Rl wS p4 c4 y1] (zI2 y0 y1 y2 y3 y4) fun r K=>K (vb r) [] [] :=
 qA call74 func74 u fun X=>zB<|qZ .s u<|fun b1=>qZ .s u<|fun b2=>qZ .s u<|fun b3=>qZ .s u<|fun b4=>qZ .s u<|fun b5=>zA 1 u<|zC<|zG<|wK (fun s1 K=>K [5,6,7,8,9] [] [0,1,2,3] [(31, vb s1)] []) (qL<|zS 2 u u u<|zS 3 u u u<|
  zA 3 u<|wM 18 u (zA 6 u<|zI (vb true)<|zA 5 u<|zI (vb true)<|zU<|zL (gv (fun _ k=>k) [0,1,2,3,4] (gq [0,1,2,3])))<|zS 2 u u u<|zS 3 u u u<|zA 1 u<|zS 1 u u u<|zA 2 u<|
  zI (vb (decide ((len y1) ≤ (if y3 > y2 then y3 else y2))))<|zA 1 u<|wM 26 u (zA 4 u<|zI (vb true)<|zU<|zL (gv (fun _ k=>k) [0,1,2,3,4] (gq [0,1,2,3])))<|qV 0 3 u u u<|zS 1 u u u<|zS 3 u u u<|
  qI zSI u (cq [0,1,2,3])<|fun r1 _ k=>k<|zI (vb r1)<|zU<|zL (gv (fun _ k=>k) [0,1,2,3,4] (gq [0,1,2,3])))<|fun s1 _ k=>k<|zK u (jA 1 u<|zJ<|qE<|zQ u u (fun _ k=>k) [] ⟨⟩)<|jC<|zB<|zA 1 u<|wN .s (.nilFunc)<|
  fun b6=>qJ .s 5 u u u<|zC<|zB<|zA 1 u<|wN .s (.nilFunc)<|fun b7=>qJ .s 6 u u u<|zC<|jA 1 u<|zG<|zB<|zN 0 u<|zS 4 u u u<|zC<|zT<|jA 2 u<|zK u (jB 2 u<|qG<|zP<|zB<|zA 1 u<|
  zZ .s [5, 0, 1, 2, 3, 4, 6] [] zKP u u u (cq [0,1,2,3])<|fun r2 _ k=>k<|zA 1 u<|zC<|zJ<|zQ u u (fun _ k=>k) [] ⟨⟩)<|jA 2 u<|zK u (jB 2 u<|qG<|zP<|zB<|zA 1 u<|
  zZ .s [6, 0, 1, 2, 3, 5, 4] [] zKN u u u (cq [0,1,2,3])<|fun r3 _ k=>k<|zA 1 u<|zC<|zJ<|zQ u u (fun _ k=>k) [] ⟨⟩)<|jA 1 u<|zJ<|qO<|qE<|zQ u u (fun _ k=>k) [] ⟨⟩
theorem zK2 {qd : Prop} {y0 : wT} {y1 : zM} {y2 : List zH} {y3 : yH} : yQ qd prog 73 [.agg #[vi y0.1, vi y0.2.1, vi y0.2.2.1, vi y0.2.2.2], pt b1 0, pt b2 0, pt b3 0] [bx b1 29 [sv p1 y1.1 c1, sv p2 y1.2.1 c2, sv p3 y1.2.2 c3], bx b2 33 [sv p4 y2 c4], bx b3 44 [vi y3.1, vi y3.2]] [Rl wP p1 c1 y1.1, Rl wF p2 c2 y1.2.1, Rl wO p3 c3 y1.2.2, Rl wS p4 c4 y2] (zBl y0 y1 y2 y3) fun L r K=>K (vb r) L [] :=
 qA call73 func73 u fun X=>zB<|qZ .s u<|fun b4=>zA 1 u<|zC<|wK (fun s1 K=>K [] [(3, [])] [0,1,2,3] [(5, vb s1)] []) (qL<|zN 3 u<|zS 3 u u u<|zA 2 u<|wM 9 u (qV 0 3 u u u<|zS 1 u u u<|zN 0 u<|zS 3 u u u<|zN 2 u<|
  zS 3 u u u<|qV 2 2 u u u<|qI zVd u (cq [0,1,2,3])<|fun r1 _ k=>k<|zI (vb r1)<|zA 1 u<|zU<|zL (gv (fun _ k=>k) [0,1,2,903] (gq [0,1,2,3])))<|zA 8 u<|zI (vb false)<|zA 1 u<|zU<|
  zL (gv (fun _ k=>k) [0,1,2,903] (gq [0,1,2,3])))<|fun s1 _ k=>k<|zJ<|zQ u u (fun _ k=>k) [0,1,2] ⟨⟩
theorem zFB {qd : Prop} {y0 : List wT} {y1 : zM} {y2 : List zH} {y3 : yH} : yQ qd prog 122 [sv p1 y0 c1, .func (.func 73) #[] #[pt b1 0, pt b2 0, pt b3 0]] [bx b1 29 [sv p2 y1.1 c2, sv p3 y1.2.1 c3, sv p4 y1.2.2 c4], bx b2 33 [sv p5 y2 c5], bx b3 44 [vi y3.1, vi y3.2]] [Rl tQ p1 c1 y0, Rl wP p2 c2 y1.1, Rl wF p3 c3 y1.2.1, Rl wO p4 c4 y1.2.2, Rl wS p5 c5 y2] (zAc y0 y1 y2 y3) fun L r K=>K (vi r) L [] :=
 qA call122 func122 u fun X=>jA 1 u<|zG<|jA 3 u<|zT<|qW (fun s1 K=>K [0,1,7] [] [0,1,2,3,4] [(8, vi s1)] []) (gv (fun _ k=>k) [0,1,2] (gq [0,1,2,3,4]))<|fun s1 _ k=>k<|jA 1 u<|zG<|zK u (jC<|zG<|zT<|jA 2 u<|zB<|zA 3 u<|wC 0 u u u<|
  fun x1 b4 o1=>wA true zTS (gk 0) u<|zZ .s [0, 1, 2] [] zK2 u u u (cq [2,3,4,5])<|fun r1 _ k=>k<|zC<|zK u (jA 2 u<|zJ<|qO<|qE<|wU<|qO<|qE<|zQ u u (fun _ k=>k) [0,1,2] ⟨⟩)<|wG<|qG<|zP<|
  jB 2 u<|qH (gv (fun _ k=>k) [0,1,2] (gq [1,2,3,4,5])))<|qS<|qP<|qU<|qR<|zP<|jA 1 u<|zJ<|zQ u u (fun _ k=>k) [0,1,2] ⟨⟩
theorem zEs {qd : Prop} {y0 : List wT} {y1 : zM} {y2 : List zH} {y3 : yH} : qF qd prog 71 [sv p1 y0 c1, .func (.func 73) #[] #[pt b1 0, pt b2 0, pt b3 0]] [r_1, bx b1 29 [sv p2 y1.1 c2, sv p3 y1.2.1 c3, sv p4 y1.2.2 c4], bx b2 33 [sv p5 y2 c5], bx b3 44 [vi y3.1, vi y3.2]] [Al tQ 123 r_1 p1 c1 y0, Rl wP p2 c2 y1.1, Rl wF p3 c3 y1.2.1, Rl wO p4 c4 y1.2.2, Rl wS p5 c5 y2] (zAN y0 y1 y2 y3) fun r K=>∀ p6 c6,K (sv p6 r c6) [[], bx b1 29 [sv p2 y1.1 c2, sv p3 y1.2.1 c3, sv p4 y1.2.2 c4], bx b2 33 [sv p5 y2 c5], bx b3 44 [vi y3.1, vi y3.2]] [Rl tQ p6 c6 r] :=
 qA call71 func71 u fun X=>jA 1 u<|zB<|zA 2 u<|zZ .s [1, 2, 3] [0] zFB u u u ⟨cl 0 0,ck 1,ck 2,ck 3,ck 4,⟨⟩⟩<|fun r1 _ k=>k<|zA 1 u<|zC<|zG<|jA 2 u<|zK u (jA 2 u<|zJ<|qE<|vF 0 0 u u<|
  zQ u u (fun _ k=>k p1 c1) [900,1,2,3] (gq [0]))<|jC<|wK (fun s1 K=>∀ r_2,K [] [(0, r_2)] [1,2,3,4] [(0, .slice p1 (List.length y0) c1), (5, vi s1.2)] [Ar tQ 123 r_2 p1 c1 (List.length y0) s1.1]) (jA 3 u<|zT<|
  qW (fun s2 K=>∀ r_3,K [1] [(0, r_3)] [1,2,3,4] [(0, .slice p1 (List.length y0) c1), (5, vi s2.2.1), (6, vi s2.2.2)] [Ar tQ 123 r_3 p1 c1 (List.length y0) s2.1]) (gv (fun _ k=>k r_1) [0,1,2,3] (gq [0,1,2,3,4]))<|fun s2 _ k r_3=>k<|
  zG<|jA 4 u<|zK u (jC<|zG<|zT<|zB<|zA 2 u<|jia 0 u u u<|fun x1 h1 b4 hp1=>jlA 0 0 sI true zTS u hp1 h1 u<|wN .s (.agg #[vi 0, vi 0, vi 0, vi 0])<|fun b5=>qJ .s 4 u u u<|zC<|zB<|zA 1 u<|
  qV 4 4 u u u<|zZ .s [1, 2, 3] [] zK2 u u u (cq [1,2,3,4])<|fun r2 _ k=>k<|zA 1 u<|zC<|zK u (zB<|zA 2 u<|qV 4 4 u u u<|jia 0 u u u<|fun x2 h2 b6 hp2=>
  jsA .s 0 0 sI x1 true u hp2 h2 u u (vP vI (vP vI (vP vI vI)))<|fun r_4=>zC<|jB 3 u<|qG<|zP<|jB 3 u<|qH (gv (fun _ k=>k r_4) [0,1,2,3] (gq [0,2,3,4,5])))<|wG<|qG<|zP<|jB 3 u<|
  qH (gv (fun _ k=>k r_3) [0,1,2,3] (gq [0,1,2,3,4])))<|qS<|qP<|qU<|qR<|zL (gv (fun _ k=>k r_3) [0,1,2,3] (gq [0,1,2,3,4])))<|fun s1 _ k r_2=>k<|zB<|zA 2 u<|jsV 0 u u u<|fun u1 p6 c6 f1=>
  jcv .s 0 0 (0, 0, 0, 0) (.agg #[vi 0, vi 0, vi 0, vi 0]) u f1 u (vP vI (vP vI (vP vI vI)))<|fun r_5=>zC<|zB<|zA 2 u<|jsP 0 u u u<|fun x3=>zA 1 u<|zC<|zJ<|vF 0 0 u u<|
  zQ u u (fun _ k=>k p1 c1) [900,1,2,3] (gq [0])
theorem zMU {qd : Prop} {y0 : zM} {y1 : List zH} {y2 : yH} : qF qd prog 27 [.agg #[sv p1 y0.1 c1, sv p2 y0.2.1 c2, sv p3 y0.2.2 c3], sv p4 y1 c4, .agg #[vi y2.1, vi y2.2]] [] [Rl wP p1 c1 y0.1, Rl wF p2 c2 y0.2.1, Rl wO p3 c3 y0.2.2, Rl wS p4 c4 y1] (zCm y0 y1 y2) fun r K=>∀ p5 c5,K (sv p5 r c5) [] [Rl tQ p5 c5 r] :=
 qA call27 func27 u fun X=>zB<|qZ .s u<|fun b1=>qZ .s u<|fun b2=>qZ .s u<|fun b3=>zA 1 u<|zC<|zB<|qV 0 3 u u u<|zS 1 u u u<|qI zQY u (cq [0,1,2,3])<|fun r1 _ k p5 c5 r_1=>k<|zA 1 u<|
  zZ .s [3, 0, 1, 2] [] zEs u u u (cq [0,1,2,3,4])<|fun r2 _ k p6 c6=>k<|zA 1 u<|zC<|zJ<|zQ u u (fun _ k=>k p6 c6) [] (gq [0])
theorem zMj {qd : Prop} {y0 : List wD} : qF qd prog 70 [sv p1 y0 c1] [r_1] [Al yJ 125 r_1 p1 c1 y0] (zCZ y0) fun r K=>∀ p2 c2,K (sv p2 r c2) [[]] [Rl yJ p2 c2 r] :=
 qA call70 func70 u fun X=>jA 1 u<|zG<|jA 3 u<|zK u (jA 2 u<|zJ<|qE<|vF 0 0 u u<|zQ u u (fun _ k=>k p1 c1) [900] (gq [0]))<|jC<|zG<|jA 1 u<|zT<|qW (fun s1 K=>K [0] [] [0] [(3, vi s1)] []) (gv (fun _ k=>k) [0] (gq [0]))<|fun s1 _ k=>k<|
  zG<|jA 4 u<|zK u (jC<|zG<|zT<|yD [] [0] 10<|zY 8 [0,1] u<|jdI 2 0 u u u u<|fun x1 h1 b1 hp1=>jdL 3 0 0 sI true zOL u u hp1 h1 u<|zY 3 [4,5,6] u<|jdI 7 0 u u u u<|fun x2 h2 b2 hp2=>
  jdL 8 0 0 sI true zOL u u hp2 h2 u<|wR 9 (vb (x1 == x2)) u<|qQ<|zP<|zK u (zB<|zA 2 u<|jsV 0 u u u<|fun u1 p2 c2 f1=>zA 1 u<|zC<|
  jjn (fun s2 K=>∀ r_2,K [(0, .slice p1 (List.length y0) c1), (3, vi s2.2)] [r_2] [Ar yJ 125 r_2 p1 c1 (List.length y0) s2.1]) (jA 1 u<|zT<|
  qW (fun s3 K=>∀ r_3,K [4] [(0, r_3)] [] [(0, .slice p1 (List.length y0) c1), (3, vi s3.2.1), (5, vi s3.2.2)] [Ar yJ 125 r_3 p1 c1 (List.length y0) s3.1]) (gv (fun _ k=>k r_1) [0] (gq [0]))<|fun s3 _ k r_3=>k<|zG<|jA 4 u<|zK u (
  jC<|zG<|zT<|yD [] [0] 10<|zY 8 [0,1] u<|jdX 2 0 u u f1 u u<|fun x3 b3 hp3 h3=>jdL 3 0 0 sI true zOL u u hp3 h3 u<|zY 3 [4,5,6] u<|jdX 7 0 u u f1 u u<|fun x4 b4 hp4 h4=>
  jdL 8 0 0 sI true zOL u u hp4 h4 u<|wR 9 (vb (!(x3 == x4))) u<|qQ<|zP<|zK u (zB<|zA 4 u<|jiV 0 u f1 u u<|fun x5 b5 hp5 h5=>jlA 0 0 sI true zOL u hp5 h5 u<|jia 0 u u u<|fun x6 h6 b6 hp6=>
  jsA .s 0 0 sI x5 true u hp6 h6 u u (vP vI vI)<|fun r_4=>zC<|jB 3 u<|qG<|zP<|jB 3 u<|qH (gv (fun _ k=>k r_4) [0] (gq [0])))<|wG<|qG<|zP<|jB 3 u<|qH (gv (fun _ k=>k r_3) [0] (gq [0])))<|qS<|qP<|qU<|qR<|
  zL (gv (fun _ k=>k r_3) [0] (gq [0])))<|fun s2 _ k r_2=>k<|zB<|zA 2 u<|jsV 0 u u u<|fun u2 p3 c3 f2=>jcv .s 0 0 (0, 0) (.agg #[vi 0, vi 0]) u f2 u (vP vI vI)<|fun r_5=>zC<|zB<|zA 2 u<|jsP 0 u u u<|fun x7=>
  zA 1 u<|zC<|zJ<|qO<|qE<|wU<|qO<|qE<|vF 0 0 u u<|zQ u u (fun _ k=>k p1 c1) [900] (gq [0]))<|wG<|qG<|zP<|jB 3 u<|qH (gv (fun _ k=>k) [0] (gq [0])))<|qS<|qP<|qU<|qR<|zP<|jA 2 u<|zJ<|vF 0 0 u u<|
  zQ u u (fun _ k=>k p1 c1) [900] (gq [0])
theorem zQ5 {qd : Prop} {y0 : wD} {y1 : wD} : qF qd prog 67 [.agg #[vi y0.1, vi y0.2], .agg #[vi y1.1, vi y1.2]] [] [] (zDc y0 y1) fun r K=>K (vi r) [] [] :=
 qA call67 func67 u fun X=>zB<|qZ .s u<|fun b1=>qZ .s u<|fun b2=>zA 1 u<|zC<|yD [] [0, 1] 13<|qT 0 0 u u<|wH 1 0 u u u u<|qT 2 0 u u<|wH 3 1 u u u u<|qT 5 1 u u<|wH 6 0 u u u u<|qT 7 1 u u<|
  wH 8 1 u u u u<|qB 4<|zZ (.f u) [] [] zCD u u u ⟨⟩<|fun r1 _ k=>k<|zX<|qB 9<|zZ (.f u) [] [] zCD u u u ⟨⟩<|fun r2 _ k=>k<|zX<|qB 10<|
  vD (.f u) (e := zO .i64) 3 [vi r1, vi r2] ([r1, r2] : List Int) (rC vI (rC vI rN))<|fun p1 c1=>zX<|qB 11<|zZ (.f u) [] [] zNH u u u (cq [0])<|fun r3 _ k=>k<|zX<|zY 0 [12] u<|qQ<|zP<|zJ<|
  zQ u u (fun _ k=>k) [] ⟨⟩
theorem zG1 {qd : Prop} {y0 : List wD} : qF qd prog 66 [sv p1 y0 c1, .func (.func 67) #[] #[]] [r_1] [Al yJ 125 r_1 p1 c1 y0] (zA5 y0) fun r K=>∀ r_2,K (.tuple #[]) [r_2] [Ar yJ 125 r_2 p1 c1 (List.length y0) r] := ⟨call66, fun A w0 r hm hO hF => by
 have h := zOr (qd := qd) Go.Proofs.Tryz.sort66 (uF.prod (uF.int .i64) (uF.int .i64)) (te := 125) Tryz.isAgg125 Tryz.sizeOf125 zDc 67 (enters_of func67 (by kernel_rfl) u) (fun w x y n hn => ?_) hO hF.1.1 hm
 · change Calls prog 66 _ _ _ at h
   refine h.mono fun e w' h => ?_
   cases e with
   | returned v => obtain ⟨r', rfl, h1, h2, h3, h4⟩ := h; exact fun G k => k r' ⟨rfl, h1, h2, ⟨h3, h4.symm⟩, trivial⟩
   | panicked ch => exact h
   | outgrown => exact h
 · refine ((zQ5 (qd := True) (y0 := x) (y1 := y)).go [] w n hn (qY.start (by simp)) trivial).mono fun e w' h => ?_
   cases e with
   | returned v => exact h _ fun ⟨e1, q⟩ => ⟨e1, q.e⟩
   | panicked ch => exact h
   | outgrown => exact h⟩
theorem zOJ {qd : Prop} {y0 : Int} {y1 : List wT} : qF qd prog 26 [vi y0, sv p1 y1 c1] [] [Rl tQ p1 c1 y1] (zEG y0 y1) fun r K=>∀ p2 c2,K (.tuple #[.agg #[vi r.1.1, sv p2 r.1.2 c2], vi r.2]) [] [Rl yJ p2 c2 r.1.2] :=
 qA call26 func26 u fun X=>zB<|wN .s (.agg #[vi 0, .slice none 0 0])<|fun b1=>zA 1 u<|zC<|zG<|tN (fun K=>K [0,1,4] [] [0] [(14, vb ((decide (y0 < 0)) || (decide (40 < y0))))] []) (qL<|zA 3 u<|yY (b := decide (y0 < 0)) 11 u (fun hb1=>zA 2 u<|
  zI (vb true)<|zU<|wW 14 (vb ((decide (y0 < 0)) || (decide (40 < y0)))) u (by rw [hb1]; rfl)<|zL (gv (fun _ k=>k) [0] (gq [0])))<|fun hb1=>zA 2 u<|zI (vb (decide (40 < y0)))<|zU<|
  wW 14 (vb ((decide (y0 < 0)) || (decide (40 < y0)))) u (by rw [hb1]; rfl)<|zL (gv (fun _ k=>k) [0] (gq [0])))<|fun _ k=>k<|zK u (zB<|zI (.agg #[vi 0, .slice none 0 0])<|qJ .s 0 u u u<|zA 1 u<|zC<|zJ<|qE<|
  wQ u (lC 0 (.agg #[vi 0, .slice none 0 0]) u u (lT u lN)) (fun _ k=>k none 0) [] ⟨gn,⟨⟩⟩)<|jC<|zB<|zA 1 u<|zI (.agg #[vi y0, .slice none 0 0])<|vT yJ 125<|wN .s (.agg #[vi 0, .slice none 0 0])<|fun b2=>
  qJ .s 2 u u u<|zC<|zX2 (fun s1 K=>∀ p2 c2 r_1,K [4,6] [(1, r_1), (2, bx b2 37 [vi y0, sv p2 s1 c2])] [] [] [Al yJ 125 r_1 p2 c2 s1]) (jA 3 u<|zT<|
  qW (fun s2 K=>∀ p3 c3 r_2,K [0,4,6,18,19] [(1, r_2), (2, bx b2 37 [vi y0, sv p3 s2.2 c3])] [1] [(20, vi s2.1)] [Al yJ 125 r_2 p3 c3 s2.2]) (gv (fun _ k=>k none 0 []) [0,1,2] (gq [0,1]))<|fun s2 _ k p3 c3 r_2=>k<|jA 1 u<|zG<|
  zK u (jC<|zG<|zT<|zB<|wC 1 u u u<|fun x1 b3 o1=>wA true zTS (gk 0) u<|wN .s (.agg #[vi 0, vi 0, vi 0, vi 0])<|fun b4=>qJ .s 3 u u u<|zC<|zG<|
  tN (fun K=>K [0,4,6,8,18,19,20] [] [2,1] [(38, vb ((decide ((if x1.2.1 < x1.1 then x1.2.1 else x1.1) < 0)) || (decide (y0 ≤ (if x1.2.1 > x1.1 then x1.2.1 else x1.1)))))] []) (qL<|zN 0 u<|zS 3 u u u<|zN 1 u<|
  zS 3 u u u<|zA 3 u<|yY (b := decide ((if x1.2.1 < x1.1 then x1.2.1 else x1.1) < 0)) 30 u (fun hb2=>zA 7 u<|zI (vb true)<|zU<|
  wW 38 (vb ((decide ((if x1.2.1 < x1.1 then x1.2.1 else x1.1) < 0)) || (decide (y0 ≤ (if x1.2.1 > x1.1 then x1.2.1 else x1.1))))) u (by rw [hb2]; rfl)<|zL (gv (fun _ k=>k) [0,1,2,3] (gq [2,1])))<|fun hb2=>zN 0 u<|zS 3 u u u<|
  zN 1 u<|zS 3 u u u<|zA 3 u<|zI (vb (decide (y0 ≤ (if x1.2.1 > x1.1 then x1.2.1 else x1.1))))<|zU<|
  wW 38 (vb ((decide ((if x1.2.1 < x1.1 then x1.2.1 else x1.1) < 0)) || (decide (y0 ≤ (if x1.2.1 > x1.1 then x1.2.1 else x1.1))))) u (by rw [hb2]; rfl)<|zL (gv (fun _ k=>k) [0,1,2,3] (gq [2,1])))<|fun _ k=>k<|zK u (zB<|
  zI (.agg #[vi 0, .slice none 0 0])<|qJ .s 0 u u u<|zA 1 u<|zC<|zJ<|qE<|qO<|qE<|wU<|qO<|wU<|wQ u (lC 0 (.agg #[vi 0, .slice none 0 0]) u u (lT u lN)) (fun _ k=>k none 0) [] ⟨gn,⟨⟩⟩)<|jC<|qL<|zN 1 u<|
  zS 2 u u u<|zN 0 u<|zS 3 u u u<|zN 1 u<|zS 3 u u u<|zI (.agg #[vi x1.1, vi x1.2.1])<|vD .s (e := yJ) 125 [vi x1.1, vi x1.2.1] ([(x1.1, x1.2.1)] : List wD) (rC (vP vI vI) rN)<|fun p4 c4=>
  wL .s 1 2 u (gk 0) u u<|fun x2 r_3 p5 c5=>zN 1 u<|qJ .s 2 u u u<|zU<|qG<|zP<|jB 2 u<|qH (gv (fun _ k=>k p5 c5 r_3) [0,1,2] (gq [0,2])))<|qS<|qP<|qU<|qR<|qH (gv (fun _ k=>k p3 c3 r_2) [0,1,2] (gq [0])))<|
  fun s1 _ k p2 c2 r_1=>k<|zB<|zN 1 u<|zS 2 u u u<|zZ .s [1] [] zG1 u u u (cq [0])<|fun r1 _ k r_4=>k<|zC<|zB<|zN 1 u<|zS 2 u u u<|jrE 0 55 u u<|
  zZ .s [1] [] zMj u u u (cq [0])<|fun r2 _ k p6 c6=>k<|zN 1 u<|qJ .s 2 u u u<|zC<|zB<|qV 2 2 u u u<|qJ .s 0 u u u<|zA 1 u<|zC<|zJ<|
  wQ u (lC 0 (.agg #[vi y0, sv p6 r2 c6]) u u (lT u lN)) (fun _ k=>k p6 c6) [] (gq [0])
theorem zKE {qd : Prop} {y0 : Int} : qF qd prog 265 [.int .u64 y0] [] [Pt (uK 64 (zO .u8)) 4 0 xL] (zCF y0) fun r K=>K (vi r) [] [] :=
 qA call265 func265 u fun X=>jA 1 u<|zG<|jA 2 u<|zK u (jA 1 u<|zJ<|qE<|zQ u u (fun _ k=>k) [] ⟨⟩)<|jC<|zB<|zA 5 u<|zI (.int .u64 (xR .u64 (IntKind.u64.wrap ((yG .u64 y0 (IntKind.u64.wrap (0 - y0))) * 285870213051353865)) 58))<|
  jgx (gk 0) u u<|fun x1=>wA false oI (gk 0) u<|zI (vi (zR (x1)))<|zA 1 u<|zC<|zJ<|zQ u u (fun _ k=>k) [] ⟨⟩
theorem zU8 {qd : Prop} {y0 : Int} : qF qd prog 204 [.int .u64 y0] [] [Pt (uK 64 (zO .u8)) 4 0 xL] (zH6 y0) fun r K=>∀ p1 c1,K (sv p1 r c1) [] [Rl (zO .i64) p1 c1 r] :=
 qA call204 func204 u fun X=>jA 1 u<|zB<|zA 1 u<|vT (zO .i64) 3<|zC<|zG<|zT<|qW (fun s1 K=>∀ p1 c1 r_1,K [] [(0, r_1)] [1] [(0, .int .u64 s1.1), (3, sv p1 s1.2 c1)] [Al (zO .i64) 3 r_1 p1 c1 s1.2]) (gv (fun _ k=>k none 0 []) [0] (gq [0,1]))<|
  fun s1 _ k p1 c1 r_1=>k<|zG<|jA 2 u<|zK u (jC<|zG<|zT<|qL<|zA 2 u<|qI zKE u (cq [1])<|fun r1 _ k=>k<|vD .s (e := zO .i64) 3 [vi r1] ([r1] : List Int) (rC vI rN)<|fun p2 c2=>
  wL .s 0 1 u (gk 0) u u<|fun x1 r_2 p3 c3=>zA 1 u<|zU<|qG<|zP<|jB 5 u<|qH (gv (fun _ k=>k p3 c3 r_2) [0] (gq [0,3])))<|qS<|qP<|qU<|qR<|zP<|jA 2 u<|zJ<|vF 0 0 u u<|zQ u u (fun _ k=>k p1 c1) [] (gq [0])
theorem zTc {qd : Prop} {y0 : vH} : qF qd prog 205 [.agg #[vi y0.1, sv p1 y0.2 c1]] [] [Rl yJ p1 c1 y0.2] (zG8 y0) fun r K=>∀ p2 c2,K (sv p2 r c2) [] [Rl (zO .u64) p2 c2 r] :=
 qA call205 func205 u fun X=>zB<|qZ .s u<|fun b1=>zA 1 u<|zC<|zB<|zN 0 u<|zS 0 u u u<|jmk .s (e := zO .u64) 217 (0 : Int) (.int .u64 0) vI u u<|fun x1 r_1 p2 c2=>zA 1 u<|zC<|zG<|zB<|zN 1 u<|zS 0 u u u<|zA 2 u<|zC<|zT<|
  qW (fun s1 K=>∀ r_2,K [10,11] [(0, []), (1, r_2)] [1] [(3, .slice p2 (List.length x1) c2), (12, vi s1.2)] [Ar (zO .u64) 217 r_2 p2 c2 (List.length x1) s1.1]) (gv (fun _ k=>k r_1) [900,1] (gq [0,1]))<|fun s1 _ k r_2=>k<|jA 1 u<|zG<|
  zK u (jC<|zG<|zT<|zB<|wC 1 u u u<|fun x2 b2 o1=>wA true zOL (gk 0) u<|wN .s (.agg #[vi 0, vi 0])<|fun b3=>qJ .s 2 u u u<|zC<|uT [10] [1, 2] 11<|zY 10 [0] u<|qT 1 0 u u<|wH 2 2 u u u u<|
  jdI 3 1 u u u u<|fun x3 h1 b4 hp1=>jdL 4 1 1 sI false oI u u hp1 h1 u<|qT 5 1 u u<|wH 6 2 u u u u<|yT fun x4 h2=>tC 7 u (fun h=>r_shlK h u u h2)<|zY 2 [8] u<|jdI 9 1 u u u u<|fun x5 h3 b5 hp2=>
  qB 10<|jsA (.f u) 1 1 sI (bor .u64 x3 x4) false u hp2 h3 u u vI<|fun r_3=>jdb [] [1, 2]<|qQ<|qG<|zP<|jB 2 u<|qH (gv (fun _ k=>k r_3) [900,1] (gq [0,3])))<|qS<|qP<|qU<|qR<|zP<|jA 2 u<|zJ<|vF 1 0 u u<|
  jre 0 2 u u<|zQ u u (fun _ k=>k p2 c2) [] (gq [0])
theorem zMf {qd : Prop} {y0 : wD} {y1 : wD} : qF qd prog 139 [.agg #[vi y0.1, vi y0.2], .agg #[vi y1.1, vi y1.2]] [] [] (zCG y0 y1) fun r K=>K (vi r) [] [] :=
 qA call139 func139 u fun X=>zB<|qZ .s u<|fun b1=>qZ .s u<|fun b2=>zA 1 u<|zC<|yD [] [0, 1] 13<|qT 0 0 u u<|wH 1 0 u u u u<|qT 2 0 u u<|wH 3 1 u u u u<|qT 5 1 u u<|wH 6 0 u u u u<|qT 7 1 u u<|
  wH 8 1 u u u u<|qB 4<|zZ (.f u) [] [] zCD u u u ⟨⟩<|fun r1 _ k=>k<|zX<|qB 9<|zZ (.f u) [] [] zCD u u u ⟨⟩<|fun r2 _ k=>k<|zX<|qB 10<|
  vD (.f u) (e := zO .i64) 3 [vi r1, vi r2] ([r1, r2] : List Int) (rC vI (rC vI rN))<|fun p1 c1=>zX<|qB 11<|zZ (.f u) [] [] zNH u u u (cq [0])<|fun r3 _ k=>k<|zX<|zY 0 [12] u<|qQ<|zP<|zJ<|
  zQ u u (fun _ k=>k) [] ⟨⟩
theorem zJG {qd : Prop} {y0 : vH} : qF qd prog 81 [.agg #[vi y0.1, sv p1 y0.2 c1]] [] [Rl yJ p1 c1 y0.2] (zAx y0) fun r K=>K (vi r) [] [] :=
 qA call81 func81 u fun X=>zB<|qZ .s u<|fun b1=>zA 1 u<|zC<|zG<|tN (fun K=>K [1] [] [0] [(12, vb ((decide (y0.1 < 0)) || (decide (40 < y0.1))))] []) (qL<|zN 0 u<|zS 0 u u u<|zA 2 u<|yY (b := decide (y0.1 < 0)) 8 u (fun hb1=>zA 3 u<|
  zI (vb true)<|zU<|wW 12 (vb ((decide (y0.1 < 0)) || (decide (40 < y0.1)))) u (by rw [hb1]; rfl)<|zL (gv (fun _ k=>k) [0] (gq [0])))<|fun hb1=>zN 0 u<|zS 0 u u u<|zA 1 u<|zI (vb (decide (40 < y0.1)))<|zU<|
  wW 12 (vb ((decide (y0.1 < 0)) || (decide (40 < y0.1)))) u (by rw [hb1]; rfl)<|zL (gv (fun _ k=>k) [0] (gq [0])))<|fun _ k=>k<|zK u (jA 1 u<|zJ<|qE<|zQ u u (fun _ k=>k) [] ⟨⟩)<|jC<|zG<|zB<|zN 1 u<|zS 0 u u u<|
  zA 2 u<|zC<|zT<|qW (fun s1 K=>K [1,14,15] [] [0] [(16, vi s1)] []) (gv (fun _ k=>k) [0] (gq [0]))<|fun s1 _ k=>k<|jA 1 u<|zG<|zK u (jC<|zG<|zT<|zB<|zA 1 u<|wC 0 u u u<|fun x1 b2 o1=>wA true zOL (gk 0) u<|
  wN .s (.agg #[vi 0, vi 0])<|fun b3=>zA 1 u<|qJ .s 1 u u u<|zC<|zG<|
  tN (fun K=>K [1,3,4,14,15,16] [] [1] [(36, vb ((decide ((if x1.2 < x1.1 then x1.2 else x1.1) < 0)) || (decide (y0.1 ≤ (if x1.2 > x1.1 then x1.2 else x1.1)))))] []) (qL<|zN 0 u<|zS 1 u u u<|zN 1 u<|zS 1 u u u<|
  zA 3 u<|yY (b := decide ((if x1.2 < x1.1 then x1.2 else x1.1) < 0)) 27 u (fun hb2=>zA 8 u<|zI (vb true)<|zU<|
  wW 36 (vb ((decide ((if x1.2 < x1.1 then x1.2 else x1.1) < 0)) || (decide (y0.1 ≤ (if x1.2 > x1.1 then x1.2 else x1.1))))) u (by rw [hb2]; rfl)<|zL (gv (fun _ k=>k) [0,1] (gq [1])))<|fun hb2=>zN 0 u<|zS 1 u u u<|zN 1 u<|
  zS 1 u u u<|zA 1 u<|zN 0 u<|zS 0 u u u<|zA 1 u<|zI (vb (decide (y0.1 ≤ (if x1.2 > x1.1 then x1.2 else x1.1))))<|zU<|
  wW 36 (vb ((decide ((if x1.2 < x1.1 then x1.2 else x1.1) < 0)) || (decide (y0.1 ≤ (if x1.2 > x1.1 then x1.2 else x1.1))))) u (by rw [hb2]; rfl)<|zL (gv (fun _ k=>k) [0,1] (gq [1])))<|fun _ k=>k<|zK u (jA 1 u<|zJ<|qE<|qO<|qE<|
  wU<|qO<|qE<|zQ u u (fun _ k=>k) [] ⟨⟩)<|jC<|wK (fun s2 K=>K [1,14,15,16] [(1, [])] [0] [(49, vb s2)] []) (uT [] [0, 1] 13<|zY 10 [0,1,2] u<|wM 39 u (qT 3 1 u u<|wH 4 0 u u u u<|zY 6 [5,6] u<|
  yO 7 0 u u u u<|fun x2 b4 o2=>yK 8 true zOL u (gk 0) u<|vQ 9 1 2 u u u u<|qB 10<|zZ (.f u) [] [] zMf u u u ⟨⟩<|fun r1 _ k=>k<|zX<|zY 1 [11] u<|wR 12 (vb (decide (0 ≤ r1))) u<|qQ<|
  zL (gv (fun _ k=>k) [0,901] (gq [1])))<|zY 1 [3,4,5,6,7,8,9,10,11] u<|wR 12 (vb false) u<|qQ<|zL (gv (fun _ k=>k) [0,901] (gq [0])))<|fun s2 _ k=>k<|zK u (jA 1 u<|zJ<|qO<|qE<|wU<|qO<|qE<|zQ u u (fun _ k=>k) [] ⟨⟩)<|
  wG<|qG<|zP<|jB 2 u<|qH (gv (fun _ k=>k) [0] (gq [0])))<|qS<|qP<|qU<|qR<|zP<|jA 1 u<|zJ<|zQ u u (fun _ k=>k) [] ⟨⟩
theorem zOO {qd : Prop} {y0 : vH} : qF qd prog 203 [.agg #[vi y0.1, sv p1 y0.2 c1]] [] [Rl yJ p1 c1 y0.2] (zEF y0) fun r K=>∀ p2 c2,K (.agg #[vi r.1, sv p2 r.2 c2]) [] [Rl yJ p2 c2 r.2] :=
 qA call203 func203 u fun X=>zB<|qZ .s u<|fun b1=>wN .s (.agg #[vi 0, .slice none 0 0])<|fun b2=>zC<|zG<|zB<|qV 0 2 u u u<|qI zJG u (cq [0])<|fun r1 _ k=>k<|zA 1 u<|zC<|zK u (zB<|zI (.agg #[vi 0, .slice none 0 0])<|
  qJ .s 1 u u u<|zC<|zJ<|qE<|wQ u (lC 1 (.agg #[vi 0, .slice none 0 0]) u u lN) (fun _ k=>k none 0) [] ⟨gn,⟨⟩⟩)<|jC<|zB<|qV 0 2 u u u<|qJ .s 1 u u u<|zC<|zJ<|
  wQ u (lC 1 (.agg #[vi y0.1, sv p1 y0.2 c1]) u u lN) (fun _ k=>k p1 c1) [] (gq [0])
theorem zJL {qd : Prop} {y0 : vH} {y1 : Int} : qF qd prog 138 [.agg #[vi y0.1, sv p1 y0.2 c1], vi y1] [] [Rl yJ p1 c1 y0.2, Pt (uK 64 (zO .u8)) 4 0 xL] (zCK y0 y1) fun r K=>∀ p2 c2,K (sv p2 r c2) [] [Rl (zO .i64) p2 c2 r] :=
 qA call138 func138 u fun X=>zB<|qZ .s u<|fun b1=>zA 1 u<|zC<|zB<|qV 0 2 u u u<|qI zOO u (cq [0])<|fun r1 _ k p2 c2=>k<|qJ .s 0 u u u<|zC<|zG<|
  tN (fun K=>K [1,2] [] [0,2] [(14, vb ((decide (y1 < 0)) || (decide (r1.1 ≤ y1))))] []) (qL<|zA 3 u<|yY (b := decide (y1 < 0)) 9 u (fun hb1=>zA 4 u<|zI (vb true)<|zU<|
  wW 14 (vb ((decide (y1 < 0)) || (decide (r1.1 ≤ y1)))) u (by rw [hb1]; rfl)<|zL (gv (fun _ k=>k) [0] (gq [0,2])))<|fun hb1=>zA 1 u<|zN 0 u<|zS 0 u u u<|zA 1 u<|zI (vb (decide (r1.1 ≤ y1)))<|zU<|
  wW 14 (vb ((decide (y1 < 0)) || (decide (r1.1 ≤ y1)))) u (by rw [hb1]; rfl)<|zL (gv (fun _ k=>k) [0] (gq [0,2])))<|fun _ k=>k<|zK u (jA 1 u<|zJ<|qE<|zQ u u (fun _ k=>k none 0) [] ⟨gn,⟨⟩⟩)<|jC<|zB<|qV 0 2 u u u<|
  qI zTc u (cq [0])<|fun r2 _ k p3 c3=>k<|zA 1 u<|wC 0 u u u<|fun x1 b2 o1=>wA false oI (gk 0) u<|qI zU8 u (cq [3])<|fun r3 _ k p4 c4=>k<|zA 1 u<|zC<|zJ<|zQ u u (fun _ k=>k p4 c4) [] (gq [0])
theorem zPm {qd : Prop} {y0 : Int} {y1 : Int} : qF qd prog 264 [.int .u64 y0, .int .u64 y1] [] [] (zL2 y0 y1) fun r K=>K (.tuple #[.int .u64 r.1, .int .u64 r.2]) [] [] :=
 qA call264 func264 u fun X=>jA 2 u<|jA 3 u<|zB<|zA 1 u<|zI (.int .u64 (xR .u64 y0 32))<|zA 1 u<|zC<|jA 3 u<|zB<|zA 1 u<|zI (.int .u64 (xR .u64 y1 32))<|zA 1 u<|zC<|jA 4 u<|zB<|zA 4 u<|
  zI (.int .u64 (xR .u64 (IntKind.u64.wrap ((yG .u64 y0 4294967295) * (yG .u64 y1 4294967295))) 32))<|zA 2 u<|zC<|jA 3 u<|zB<|zA 1 u<|
  zI (.int .u64 (xR .u64 (IntKind.u64.wrap ((IntKind.u64.wrap ((xR .u64 y0 32) * (yG .u64 y1 4294967295))) + (xR .u64 (IntKind.u64.wrap ((yG .u64 y0 4294967295) * (yG .u64 y1 4294967295))) 32))) 32))<|zA 1 u<|zC<|jA 6 u<|zB<|
  zA 6 u<|
  zI (.int .u64 (xR .u64 (IntKind.u64.wrap ((yG .u64 (IntKind.u64.wrap ((IntKind.u64.wrap ((xR .u64 y0 32) * (yG .u64 y1 4294967295))) + (xR .u64 (IntKind.u64.wrap ((yG .u64 y0 4294967295) * (yG .u64 y1 4294967295))) 32))) 4294967295) + (IntKind.u64.wrap ((yG .u64 y0 4294967295) * (xR .u64 y1 32))))) 32))<|
  zA 2 u<|zC<|jA 4 u<|zJ<|wQ u (lT u (lT u lN)) (fun _ k=>k) [] ⟨⟩
theorem zRy {qd : Prop} {y0 : Int} {y1 : Int} : qF qd prog 202 [.int .u64 y0, .int .u64 y1] [] [] (zJi y0 y1) fun r K=>K (.tuple #[.int .u64 r.1, .int .u64 r.2]) [] [] :=
 qA call202 func202 u fun X=>jA 2 u<|zG<|jcf u<|jC<|zB<|zA 2 u<|qI zPm u ⟨⟩<|fun r1 _ k=>k<|zA 5 u<|zC<|jA 4 u<|zJ<|wQ u (lT u (lT u lN)) (fun _ k=>k) [] ⟨⟩
theorem zHO {qd : Prop} {y0 : List Int} {y1 : Int} : qF qd prog 137 [sv p1 y0 c1, vi y1] [] [Rl (zO .i64) p1 c1 y0] (zCQ y0 y1) fun r K=>∀ p2 c2 r_1,K (sv p2 r c2) [r_1] [Al (zO .i64) 3 r_1 p2 c2 r] :=
 qA call137 func137 u fun X=>jA 1 u<|wK (fun s1 K=>K [0,1] [] [0] [] []) (jA 2 u<|zK u (qL<|jno)<|wG<|zL (gv (fun _ k=>k) [] (gq [0])))<|fun s1 _ k=>k<|zB<|zA 2 u<|zI (.int .u64 (IntKind.u64.wrap (len y0)))<|zA 1 u<|
  zI (.int .u64 (IntKind.u64.wrap (y1)))<|qI zRy rfl ⟨⟩<|fun r1 _ k=>k<|zA 5 u<|zC<|wK (fun s2 K=>K [0,6] [] [0] [] []) (
  tN (fun K=>K [0,6] [] [0] [(26, vb ((decide (0 < r1.1)) || (decide (9223372036854775807 < r1.2))))] []) (qL<|zA 3 u<|yY (b := decide (0 < r1.1)) 23 u (fun hb1=>zA 2 u<|zI (vb true)<|zU<|
  wW 26 (vb ((decide (0 < r1.1)) || (decide (9223372036854775807 < r1.2)))) u (by rw [hb1]; rfl)<|zL (gv (fun _ k=>k) [] (gq [0])))<|fun hb1=>zA 2 u<|zI (vb (decide (9223372036854775807 < r1.2)))<|zU<|
  wW 26 (vb ((decide (0 < r1.1)) || (decide (9223372036854775807 < r1.2)))) u (by rw [hb1]; rfl)<|zL (gv (fun _ k=>k) [] (gq [0])))<|fun _ k=>k<|zK u (qL<|jno)<|wG<|zL (gv (fun _ k=>k) [] (gq [0])))<|fun s2 _ k=>k<|zB<|zA 1 u<|
  zI (vi (zR (r1.2)))<|jmk .s (e := zO .i64) 3 (0 : Int) (vi 0) vI u u<|fun x1 r_1 p2 c2=>zA 1 u<|zC<|zB<|zA 2 u<|jcp .s 0 0 u (vwW 0 u) (srR (gk 1)) u u<|fun r_2=>zA 1 u<|zC<|zG<|zT<|
  qW (fun s3 K=>∀ r_3,K [7] [(0, r_3)] [] [(8, vi s3.2)] [Ar (zO .i64) 3 r_3 p2 c2 (List.length x1) s3.1]) (gv (fun _ k=>k r_2) [0] (gq [0]))<|fun s3 _ k r_3=>k<|zG<|jA 4 u<|zK u (jC<|zT<|uT [] [] 10<|zY 7 [0,1,2] u<|
  jdV 3 0 u u u u<|fun u1 p3 c3 f1=>zY 4 [4,5] u<|jdW 6 0 u u u u<|fun x2=>qB 7<|jcp (.f u) 0 1 u (vwV f1) (srA 0 0 u) u u<|fun r_4=>zX<|zY 0 [8,9] u<|qQ<|qG<|qH (gv (fun _ k=>k r_4) [0] (gq [0])))<|qS<|
  qP<|qU<|qR<|zP<|jA 2 u<|zJ<|jrE 0 4 u u<|zQ u u (fun _ k=>k p2 c2 r_3) [0] (gq [0])
theorem zQl {qd : Prop} {y0 : vH} : qF qd prog 76 [.agg #[vi y0.1, sv p1 y0.2 c1]] [] [Rl yJ p1 c1 y0.2, Pt (uK 64 (zO .u8)) 4 0 xL] (zDb y0) fun r K=>∀ p2 c2 p3 c3,K (.tuple #[sv p2 r.1 c2, sv p3 r.2 c3]) [] [Rl (zO .i64) p2 c2 r.1, Rl (zO .i64) p3 c3 r.2] :=
 qA call76 func76 u fun X=>zB<|qZ .s u<|fun b1=>zA 2 u<|zC<|wK (fun s1 K=>∀ p2 c2 r_1 p3 c3 r_2,K [1] [(1, r_1), (2, r_2)] [0,1] [(2, sv p2 s1.1 c2), (3, sv p3 s1.2 c3)] [Al (zO .i64) 3 r_1 p2 c2 s1.1, Al (zO .i64) 3 r_2 p3 c3 s1.2]) (uT [] [0] 9<|
  qT 1 0 u u<|wH 2 0 u u u u<|qT 4 0 u u<|wH 5 0 u u u u<|jd2 0 6 (vD (.f u) (e := zO .i64) 3 [vi 3] ([3] : List Int) (rC vI rN)<|fun p4 c4=>zX<|jd2 3 6 (
  zZ (.f u) [] [] zHO u u u (cq [0])<|fun r1 _ k p5 c5 r_3=>k<|zX<|zY 2 [7] u<|qB 6<|jmk (.f u) (e := zO .i64) 3 (0 : Int) (vi 0) vI u u<|fun x1 r_4 p6 c6=>zX<|zY 0 [8] u<|qQ<|
  zL (gv (fun _ k=>k p5 c5 r_3 p6 c6 r_4) [0,1,2] (gq [1,0,3,4]))) <|jcm<|jmk (.f u) (e := zO .i64) 3 (0 : Int) (vi 0) vI u u<|fun x2 r_5 p7 c7=>zX<|qB 3<|zZ (.f u) [] [] zHO u u u (cq [1])<|
  fun r2 _ k p8 c8 r_6=>k<|zX<|zY 0 [7,8] u<|qQ<|zL (gv (fun _ k=>k p8 c8 r_6 p7 c7 r_5) [0,2,1] (gq [0,1,3,4]))) <|jcm<|jmk (.f u) (e := zO .i64) 3 (0 : Int) (vi 0) vI u u<|fun x3 r_7 p9 c9=>zX<|qB 0<|
  vD (.f u) (e := zO .i64) 3 [vi 3] ([3] : List Int) (rC vI rN)<|fun p10 c10=>zX<|qB 3<|zZ (.f u) [] [] zHO u u u (cq [0])<|fun r3 _ k p11 c11 r_8=>k<|zX<|zY 0 [7,8] u<|qQ<|
  zL (gv (fun _ k=>k p11 c11 r_8 p9 c9 r_7) [0,2,1] (gq [0,2,3,4])))<|fun s1 _ k p2 c2 r_1 p3 c3 r_2=>k<|zB<|jalA .s (uC [] 40 (List.replicate 40 (0 : Int)) [])<|fun b2=>zC<|
  wK (fun s2 K=>K [1,2,3,4] [(3, bx b2 181 (uC [] 40 s2 []))] [0,1,2,3] [] []) (zB<|zN 1 u<|zS 0 u u u<|zA 2 u<|zC<|zT<|
  qW (fun s3 K=>K [1,2,3,4,27,28] [(3, bx b2 181 (uC [] 40 s3.2 []))] [0,1,2,3] [(29, vi s3.1)] []) (gv (fun _ k=>k) [0,1,2,3] (gq [0,1,2,3]))<|fun s3 _ k=>k<|jA 1 u<|zG<|zK u (jC<|zG<|zT<|zB<|wC 2 u u u<|fun x4 b3 o1=>
  wA true zOL (gk 0) u<|wN .s (.agg #[vi 0, vi 0])<|fun b4=>qJ .s 4 u u u<|zC<|qL<|zN 1 u<|zS 4 u u u<|jiL 40 u u<|fun u1 h1=>jlL 3 40 s3.2 [] [] h1 u u<|zA 1 u<|jiL 40 u u<|fun u2 h2=>
  jsL (zR ((yM s3.2 x4.2) + 1)) .s 3 40 s3.2 [] [] h2 u u u<|zU<|qG<|zP<|jB 2 u<|qH (gv (fun _ k=>k) [0,1,2,3] (gq [1,2,3,4])))<|qS<|qP<|qU<|qR<|zL (gv (fun _ k=>k) [0,1,2,3] (gq [0,1,2,3])))<|fun s2 _ k=>k<|zB<|
  zA 1 u<|vT (zO .i64) 3<|zC<|wK (fun s4 K=>∀ p12 c12 r_9,K [1,2,3,4] [(4, r_9)] [1,2,3,4] [(7, sv p12 s4 c12)] [Al (zO .i64) 3 r_9 p12 c12 s4]) (zB<|zN 0 u<|zS 0 u u u<|zA 1 u<|zC<|zT<|
  qW (fun s5 K=>∀ p13 c13 r_10,K [1,2,3,4,41] [(4, r_10)] [1,2,3,4] [(7, sv p13 s5.1 c13), (42, vi s5.2)] [Al (zO .i64) 3 r_10 p13 c13 s5.1]) (gv (fun _ k=>k none 0 []) [0,1,2,3,4] (gq [0,1,2,3,4]))<|fun s5 _ k p13 c13 r_10=>k<|jA 1 u<|
  zG<|zK u (jC<|zG<|zT<|jA 2 u<|zB<|zA 1 u<|jiL 40 u u<|fun u3 h3=>jlL 3 40 s2 [] [] h3 u u<|zA 1 u<|zC<|zK u (qL<|zA 2 u<|vD .s (e := zO .i64) 3 [vi s5.2] ([s5.2] : List Int) (rC vI rN)<|fun p14 c14=>
  wL .s 4 1 u (gk 0) u u<|fun x5 r_11 p15 c15=>zA 1 u<|zU<|qG<|zP<|jB 2 u<|qH (gv (fun _ k=>k p15 c15 r_11) [0,1,2,3,4] (gq [0,3,4,5,6])))<|wG<|qG<|zP<|jB 2 u<|
  qH (gv (fun _ k=>k p13 c13 r_10) [0,1,2,3,4] (gq [0,1,2,3,4])))<|qS<|qP<|qU<|qR<|zL (gv (fun _ k=>k p13 c13 r_10) [0,1,2,3,4] (gq [0,1,2,3,4])))<|fun s4 _ k p12 c12 r_9=>k<|zG<|jA 1 u<|zT<|
  qW (fun s6 K=>∀ r_12 r_13 p16 c16 r_14,K [1,4] [(1, r_12), (2, r_13), (3, bx b2 181 (uC [] 40 s6.2.2.2.2 [])), (4, r_14)] [3,4] [(2, .slice p2 (List.length s1.1) c2), (3, .slice p3 (List.length s1.2) c3), (7, sv p16 s6.2.2.1 c16), (9, vi s6.2.2.2.1)] [Ar (zO .i64) 3 r_12 p2 c2 (List.length s1.1) s6.1, Ar (zO .i64) 3 r_13 p3 c3 (List.length s1.2) s6.2.1, Al (zO .i64) 3 r_14 p16 c16 s6.2.2.1]) (gv (fun _ k=>k r_1 r_2 p12 c12 r_9) [0,1,2,3,4] (gq [1,2,0,3,4]))<|
  fun s6 _ k r_12 r_13 p16 c16 r_14=>k<|zG<|jA 3 u<|zK u (jC<|zG<|zT<|
  wK (fun s7 K=>∀ r_15 r_16,K [1,2,3,4,7,9] [(1, r_15), (2, r_16)] [2,3,4] [] [Ar (zO .i64) 3 r_15 p2 c2 (List.length s1.1) s7.1, Ar (zO .i64) 3 r_16 p3 c3 (List.length s1.2) s7.2]) (jA 3 u<|zT<|
  qW (fun s8 K=>∀ r_17 r_18,K [1,2,3,4,7,9,59,60] [(1, r_17), (2, r_18)] [2,3,4] [(61, vi s8.2.2)] [Ar (zO .i64) 3 r_17 p2 c2 (List.length s1.1) s8.1, Ar (zO .i64) 3 r_18 p3 c3 (List.length s1.2) s8.2.1]) (gv (fun _ k=>k r_12 r_13) [0,1,2,3,4] (gq [0,1,2,3,4]))<|
  fun s8 _ k r_17 r_18=>k<|jA 1 u<|zG<|zK u (jC<|zG<|zT<|zB<|jia 2 u u u<|fun x6 h5 b5 hp1=>jlA 4 2 sI false oI u hp1 h5 u<|zA 1 u<|zC<|qL<|zA 5 u<|jia 0 u u u<|fun x7 h6 b6 hp2=>
  jsA .s 1 0 sI 1 false u hp2 h6 u u vI<|fun r_19=>jia 2 u u u<|fun x8 h7 b7 hp3=>jsA .s 2 2 sI s6.2.2.2.1 false u hp3 h7 u u vI<|fun r_20=>zU<|qG<|zP<|jB 2 u<|
  qH (gv (fun _ k=>k r_19 r_20) [0,1,2,3,4] (gq [1,0,4,5,6])))<|qS<|qP<|qU<|qR<|zL (gv (fun _ k=>k r_17 r_18) [0,1,2,3,4] (gq [0,1,2,3,4])))<|fun s7 _ k r_15 r_16=>k<|zB<|zA 1 u<|vT (zO .i64) 3<|zC<|zG<|jA 3 u<|zT<|
  qW (fun s9 K=>∀ r_21 r_22 p17 c17 r_23,K [1,2,3,4,9,73,74] [(1, r_21), (2, r_22), (3, bx b2 181 (uC [] 40 s9.2.2.2.2 [])), (5, r_23)] [3,4,5] [(12, sv p17 s9.2.2.1 c17), (75, vi s9.2.2.2.1)] [Ar (zO .i64) 3 r_21 p2 c2 (List.length s1.1) s9.1, Ar (zO .i64) 3 r_22 p3 c3 (List.length s1.2) s9.2.1, Al (zO .i64) 3 r_23 p17 c17 s9.2.2.1]) (gv (fun _ k=>k r_15 r_16 none 0 []) [0,1,2,3,4,5] (gq [1,2,0,3,4,5]))<|
  fun s9 _ k r_21 r_22 p17 c17 r_23=>k<|jA 1 u<|zG<|zK u (jC<|zG<|zT<|zB<|jia 3 u u u<|fun x9 h8 b8 hp4=>jlA 4 3 sI false oI u hp4 h8 u<|zA 1 u<|zC<|zB<|qV 0 2 u u u<|zA 1 u<|
  qI zJL u (cq [4,5])<|fun r4 _ k p18 c18=>k<|zA 2 u<|zC<|zT<|
  qW (fun s10 K=>∀ r_24 r_25 p19 c19 r_26,K [1,2,3,4,9,73,74,75,81,82] [(1, r_24), (2, r_25), (3, bx b2 181 (uC [] 40 s10.2.2.2.2 [])), (5, r_26)] [4,0,5,6] [(12, sv p19 s10.2.2.1 c19), (83, vi s10.2.2.2.1)] [Ar (zO .i64) 3 r_24 p2 c2 (List.length s1.1) s10.1, Ar (zO .i64) 3 r_25 p3 c3 (List.length s1.2) s10.2.1, Al (zO .i64) 3 r_26 p19 c19 s10.2.2.1]) (gv (fun _ k=>k r_21 r_22 p17 c17 r_23) [0,1,2,3,4,5] (gq [1,2,3,4,0,5,6]))<|
  fun s10 _ k r_24 r_25 p19 c19 r_26=>k<|jA 1 u<|zG<|zK u (jC<|zG<|zT<|zB<|wC 4 u u u<|fun x10 b9 o2=>wA false oI (gk 0) u<|zA 1 u<|zC<|zG<|zB<|zA 2 u<|jia 1 u u u<|fun x11 h9 b10 hp5=>
  jlA 1 1 sI false oI u hp5 h9 u<|zA 1 u<|zC<|zK u (qS<|qP<|qR<|zP<|jB 2 u<|qH (gv (fun _ k=>k r_24 r_25 p19 c19 r_26) [0,1,2,3,4,5] (gq [1,2,3,4,5,6,7])))<|jC<|zB<|zA 5 u<|jia 1 u u u<|fun x12 h10 b11 hp6=>
  jsA .s 1 1 sI 2 false u hp6 h10 u u vI<|fun r_27=>jia 3 u u u<|fun x13 h11 b12 hp7=>jsA .s 2 3 sI s6.2.2.2.1 false u hp7 h11 u u vI<|fun r_28=>zC<|zB<|qV 0 2 u u u<|zA 1 u<|qI zJL u (cq [8,9])<|
  fun r5 _ k p20 c20=>k<|zA 2 u<|zC<|zT<|
  qW (fun s11 K=>∀ p21 c21 r_29,K [1,2,3,4,9,73,74,75,81,82,83,101,102] [(3, bx b2 181 (uC [] 40 s11.2.2 [])), (5, r_29)] [2,1,7,8,0,9,10] [(12, sv p21 s11.1 c21), (103, vi s11.2.1)] [Al (zO .i64) 3 r_29 p21 c21 s11.1]) (gv (fun _ k=>k p19 c19 r_26) [0,1,2,3,4,5] (gq [6,2,1,7,8,0,9,10]))<|
  fun s11 _ k p21 c21 r_29=>k<|jA 1 u<|zG<|zK u (jC<|zG<|zT<|zB<|wC 5 u u u<|fun x14 b13 o3=>wA false oI (gk 0) u<|zA 1 u<|zC<|zB<|zA 1 u<|jiL 40 u u<|fun u4 h12=>jlL 3 40 s11.2.2 [] [] h12 u u<|zA 1 u<|
  jiL 40 u u<|fun u5 h13=>jsL (zR ((yM s11.2.2 x14) - 1)) .s 3 40 s11.2.2 [] [] h13 u u u<|zC<|wK (fun s12 K=>K [1,2,3,4,9,12,18,73,74,75,81,82,83,101,102,103] [] [2,3,1,4,5,6,7,8] [(122, vb s12)] []) (qL<|zA 1 u<|
  jiL 40 u u<|fun u6 h14=>jlL 3 40 (xO 40 s11.2.2 x14 (zR ((yM s11.2.2 x14) - 1))) [] [] h14 u u<|zA 2 u<|wM 116 u (zA 2 u<|jia 2 u u u<|fun x15 h15 b14 hp8=>jlA 1 2 sI false oI u hp8 h15 u<|zA 1 u<|
  zI (vb (x15 == 3))<|zU<|zL (gv (fun _ k=>k) [0,1,2,3,4,5] (gq [2,3,1,4,5,6,7,8])))<|zA 5 u<|zI (vb false)<|zU<|zL (gv (fun _ k=>k) [0,1,2,3,4,5] (gq [2,3,1,4,5,6,7,8])))<|fun s12 _ k=>k<|zK u (qL<|zA 2 u<|
  vD .s (e := zO .i64) 3 [vi x14] ([x14] : List Int) (rC vI rN)<|fun p22 c22=>wL .s 5 3 u (gk 0) u u<|fun x16 r_30 p23 c23=>zA 1 u<|zU<|qG<|zP<|jB 2 u<|qH (gv (fun _ k=>k p23 c23 r_30) [0,1,2,3,4,5] (gq [0,2,3,5,6,7,8,9]))
  )<|wG<|qG<|zP<|jB 2 u<|qH (gv (fun _ k=>k p21 c21 r_29) [0,1,2,3,4,5] (gq [2,0,1,3,4,5,6,7])))<|qS<|qP<|qU<|qR<|qG<|zP<|jB 2 u<|qH (gv (fun _ k=>k r_27 r_28 p21 c21 r_29) [0,1,2,3,4,5] (gq [1,2,0,3,4,6,7])))<|qS<|qP<|qU<|
  qR<|qG<|zP<|jB 2 u<|qH (gv (fun _ k=>k r_24 r_25 p19 c19 r_26) [0,1,2,3,4,5] (gq [0,1,2,3,5,6])))<|qS<|qP<|qU<|qR<|zP<|jB 2 u<|qG<|zP<|jB 3 u<|qH (gv (fun _ k=>k r_21 r_22 p17 c17 r_23) [0,1,2,3,5] (gq [0,1,2,4,5])))<|
  qS<|qP<|qU<|qR<|zP<|jA 4 u<|zJ<|vF 1 0 u u<|vF 2 2 u u<|jre 1 2 u u<|jre 1 3 u u<|wQ u (lT u (lT u lN)) (fun _ k=>k p2 c2 p3 c3) [] (gq [1,0])
theorem zMM {qd : Prop} {y0 : vH} : qF qd prog 30 [.agg #[vi y0.1, sv p1 y0.2 c1]] [] [Rl yJ p1 c1 y0.2, Pt (uK 64 (zO .u8)) 4 0 xL] (zCo y0) fun r K=>∀ p2 c2,K (sv p2 r c2) [] [Rl (zO .i64) p2 c2 r] :=
 qA call30 func30 u fun X=>zB<|qZ .s u<|fun b1=>zA 1 u<|zC<|zB<|qV 0 2 u u u<|qI zQl u (cq [0,1])<|fun r1 _ k p2 c2 p3 c3=>k<|zA 5 u<|zC<|jA 2 u<|zJ<|zQ u u (fun _ k=>k p2 c2) [] (gq [0])
theorem zCw {qd : Prop} {y0 : List Int} {y1 : Int} : qF qd prog 29 [sv p1 y0 c1, vi y1] [] [Rl (zO .i64) p1 c1 y0] (zAw y0 y1) fun r K=>∀ p2 c2,K (sv p2 r c2) [] [Rl (zO .i64) p2 c2 r] :=
 qA call29 func29 u fun X=>jA 1 u<|zB<|zA 1 u<|vT (zO .i64) 3<|zC<|zG<|jA 3 u<|zT<|qW (fun s1 K=>∀ p2 c2 r_1,K [1,8,9] [(0, r_1)] [1] [(5, sv p2 s1.1 c2), (10, vi s1.2)] [Al (zO .i64) 3 r_1 p2 c2 s1.1]) (gv (fun _ k=>k none 0 []) [0] (gq [0,1]))<|
  fun s1 _ k p2 c2 r_1=>k<|jA 1 u<|zG<|zK u (jC<|zG<|zT<|zB<|zA 1 u<|wC 1 u u u<|fun x1 b1 o1=>wA false oI (gk 0) u<|zA 2 u<|zC<|jA 3 u<|zK u (qL<|zA 2 u<|
  vD .s (e := zO .i64) 3 [vi s1.2] ([s1.2] : List Int) (rC vI rN)<|fun p3 c3=>wL .s 0 2 u (gk 0) u u<|fun x2 r_2 p4 c4=>zA 1 u<|zU<|qG<|zP<|jB 2 u<|qH (gv (fun _ k=>k p4 c4 r_2) [0] (gq [0,4])))<|wG<|qG<|zP<|jB 2 u<|
  qH (gv (fun _ k=>k p2 c2 r_1) [0] (gq [1,2])))<|qS<|qP<|qU<|qR<|zP<|jA 2 u<|zJ<|vF 0 0 u u<|zQ u u (fun _ k=>k p2 c2) [] (gq [0])
theorem zIQ {qd : Prop} {y0 : List vO} : qF qd prog 77 [sv p1 y0 c1] [] [Rl wP p1 c1 y0] (zDX y0) fun r K=>∀ p2 c2,K (sv p2 r c2) [] [Rl wP p2 c2 r] :=
 qA call77 func77 u fun X=>jA 1 u<|zG<|zB<|zA 1 u<|jv (fun h=>zZU h u underlying25)<|zC<|jnl (m1 := some ([] : List vO)) u (gk 0) (fun h=>by first|(rw [h];done)|(rw [h];rfl)|(simp [h,wB];done)) (jA 1 u<|zJ<|qE<|
  zQ u u (fun _ k=>k none 0) [] ⟨gn,⟨⟩⟩)<|jC<|zB<|xE .s (e := wP) 88 [] ([] : List vO) rN<|fun r_1 p2 c2=>zA 1 u<|wL .s 0 0 u (gk 1) u u<|fun x1 r_2 p3 c3=>zA 1 u<|zC<|zJ<|vF 0 0 u u<|
  zQ u u (fun _ k=>k p3 c3) [] (gq [0])
theorem zCb {qd : Prop} {y0 : List vN} : qF qd prog 79 [sv p1 y0 c1] [] [Rl wO p1 c1 y0] (zCj y0) fun r K=>∀ p2 c2,K (sv p2 r c2) [] [Rl wO p2 c2 r] :=
 qA call79 func79 u fun X=>jA 1 u<|zG<|zB<|zA 1 u<|jv (fun h=>zZU h u underlying27)<|zC<|jnl (m1 := some ([] : List vN)) u (gk 0) (fun h=>by first|(rw [h];done)|(rw [h];rfl)|(simp [h,wB];done)) (jA 1 u<|zJ<|qE<|
  zQ u u (fun _ k=>k none 0) [] ⟨gn,⟨⟩⟩)<|jC<|zB<|xE .s (e := wO) 105 [] ([] : List vN) rN<|fun r_1 p2 c2=>zA 1 u<|wL .s 0 0 u (gk 1) u u<|fun x1 r_2 p3 c3=>zA 1 u<|zC<|zJ<|vF 0 0 u u<|
  zQ u u (fun _ k=>k p3 c3) [] (gq [0])
theorem zHQ {qd : Prop} {y0 : List qK} : qF qd prog 78 [sv p1 y0 c1] [] [Rl wF p1 c1 y0] (zFO y0) fun r K=>∀ p2 c2 r_1,K (sv p2 r c2) [r_1] [Al wF 92 r_1 p2 c2 r] :=
 qA call78 func78 u fun X=>jA 1 u<|zG<|zB<|zA 1 u<|jv (fun h=>zZU h u underlying26)<|zC<|jnl (m1 := some ([] : List qK)) u (gk 0) (fun h=>by first|(rw [h];done)|(rw [h];rfl)|(simp [h,wB];done)) (jA 1 u<|zJ<|qE<|vT wF 92<|
  jrE 0 2 u u<|zQ u u (fun _ k=>k none 0 []) [0] (gq [0]))<|jC<|zB<|xE .s (e := wF) 92 [] ([] : List qK) rN<|fun r_1 p2 c2=>zA 1 u<|wL .s 0 0 u (gk 1) u u<|fun x1 r_2 p3 c3=>zA 1 u<|zC<|zJ<|
  zQ u u (fun _ k=>k p3 c3 r_2) [0] (gq [0])
theorem zPE {qd : Prop} {y0 : zM} {y1 : List zF} : qF qd prog 31 [.agg #[sv p1 y0.1 c1, sv p2 y0.2.1 c2, sv p3 y0.2.2 c3], sv p4 y1 c4] [] [Rl wP p1 c1 y0.1, Rl wF p2 c2 y0.2.1, Rl wO p3 c3 y0.2.2, Rl wI p4 c4 y1] (zC9 y0 y1) fun r K=>∀ p5 c5 p6 c6 p7 c7,K (.agg #[sv p5 r.1 c5, sv p6 r.2.1 c6, sv p7 r.2.2 c7]) [] [Rl wP p5 c5 r.1, Rl wF p6 c6 r.2.1, Rl wO p7 c7 r.2.2] :=
 qA call31 func31 u fun X=>zB<|qZ .s u<|fun b1=>wN .s (.agg #[.slice none 0 0, .slice none 0 0, .slice none 0 0])<|fun b2=>zC<|
  wK (fun s1 K=>∀ b3 p5 c5 p6 c6 r_1 p7 c7,K [1,2,4] [(2, bx b3 29 [sv p5 s1.1 c5, sv p6 s1.2.1 c6, sv p7 s1.2.2 c7]), (3, r_1)] [3,0,1,2] [(5, pt b3 0)] [Rl wP p5 c5 s1.1, Al wF 92 r_1 p6 c6 s1.2.1, Rl wO p7 c7 s1.2.2]) (
  uT [] [0] 12<|qT 0 0 u u<|wH 1 0 u u u u<|qT 3 1 u u<|wH 4 0 u u u u<|qT 6 2 u u<|wH 7 0 u u u u<|jd2 2 10 (zZ (.f u) [] [] zIQ u u u (cq [0])<|fun r1 _ k p8 c8=>k<|
  zX<|jd2 5 10 (zZ (.f u) [] [] zHQ u u u (cq [2])<|fun r2 _ k p9 c9 r_2=>k<|zX<|jd2 8 10 (zZ (.f u) [] [] zCb u u u (cq [4])<|fun r3 _ k p10 c10=>k<|zX<|
  wR 9 (.agg #[sv p8 r1 c8, sv p9 r2 c9, sv p10 r3 c10]) u<|qB 10<|wN (.f u) (.agg #[.slice none 0 0, .slice none 0 0, .slice none 0 0])<|fun b4=>zX<|qB 11<|qJ (o := 0) (.f u) 3 u u u<|zX<|qQ<|
  zL (gv (fun _ k=>k b4 p8 c8 p9 c9 r_2 p10 c10) [0,1,3,2] (gq [2,1,0,6,3,4,5]))) <|wN (.f u) (.agg #[.slice none 0 0, .slice none 0 0, .slice none 0 0])<|fun b5=>zX<|qB 8<|
  zZ (.f u) [] [] zCb u u u (cq [4])<|fun r4 _ k p11 c11=>k<|zX<|wR 9 (.agg #[sv p8 r1 c8, sv p9 r2 c9, sv p11 r4 c11]) u<|qB 11<|qJ (o := 0) (.f u) 3 u u u<|zX<|qQ<|
  zL (gv (fun _ k=>k b5 p8 c8 p9 c9 r_2 p11 c11) [0,1,3,2] (gq [2,1,0,6,3,4,5]))) <|wN (.f u) (.agg #[.slice none 0 0, .slice none 0 0, .slice none 0 0])<|fun b6=>zX<|qB 5<|zZ (.f u) [] [] zHQ u u u (cq [2])<|
  fun r5 _ k p12 c12 r_3=>k<|zX<|qB 8<|zZ (.f u) [] [] zCb u u u (cq [4])<|fun r6 _ k p13 c13=>k<|zX<|wR 9 (.agg #[sv p8 r1 c8, sv p12 r5 c12, sv p13 r6 c13]) u<|qB 11<|
  qJ (o := 0) (.f u) 2 u u u<|zX<|qQ<|zL (gv (fun _ k=>k b6 p8 c8 p12 c12 r_3 p13 c13) [0,1,2,3] (gq [2,1,0,6,3,4,5]))) <|wN (.f u) (.agg #[.slice none 0 0, .slice none 0 0, .slice none 0 0])<|fun b7=>zX<|qB 2<|
  zZ (.f u) [] [] zIQ u u u (cq [0])<|fun r7 _ k p14 c14=>k<|zX<|qB 5<|zZ (.f u) [] [] zHQ u u u (cq [2])<|fun r8 _ k p15 c15 r_4=>k<|zX<|qB 8<|
  zZ (.f u) [] [] zCb u u u (cq [4])<|fun r9 _ k p16 c16=>k<|zX<|wR 9 (.agg #[sv p14 r7 c14, sv p15 r8 c15, sv p16 r9 c16]) u<|qB 11<|qJ (o := 0) (.f u) 2 u u u<|zX<|qQ<|
  zL (gv (fun _ k=>k b7 p14 c14 p15 c15 r_4 p16 c16) [0,1,2,3] (gq [2,1,0,6,3,4,5])))<|fun s1 _ k b3 p5 c5 p6 c6 r_1 p7 c7=>k<|
  wK (fun s2 K=>∀ p17 c17 r_5,K [4,5] [(0, []), (2, bx b3 29 [sv p5 s1.1 c5, sv p17 s2 c17, sv p7 s1.2.2 c7]), (3, r_5)] [0,2] [] [Al wF 92 r_5 p17 c17 s2]) (zB<|zN 1 u<|zS 0 u u u<|zA 2 u<|zC<|zT<|
  qW (fun s3 K=>∀ p18 c18 r_6,K [1,2,4,5,21,22] [(2, bx b3 29 [sv p5 s1.1 c5, sv p18 s3.2 c18, sv p7 s1.2.2 c7]), (3, r_6)] [3,5,4,6,0,2] [(23, vi s3.1)] [Al wF 92 r_6 p18 c18 s3.2]) (gv (fun _ k=>k p6 c6 r_1) [0,1,2,3] (gq [1,3,5,4,6,0,2]))<|
  fun s3 _ k p18 c18 r_6=>k<|jA 1 u<|zG<|zK u (jC<|zG<|zT<|zB<|zA 1 u<|wC 2 u u u<|fun x1 b8 o1=>wA true zL5 (gk 0) u<|fun p19 c19=>wN .s (.agg #[vs [], vb false, vi 0, .slice none 0 0, vb false, vs []])<|fun b9=>
  zA 1 u<|qJ .s 4 u u u<|zC<|yD [] [2, 4] 9<|qT 0 1 u u<|wH 1 2 u u u u<|zY 6 [2] u<|qT 3 3 u u<|wH 4 4 u u u u<|qB 5<|zZ (.f u) [] [] zIT u u u (cq [0])<|
  fun r10 _ k p20 c20 r_7=>k<|zX<|jdI 6 3 u u u u<|fun x2 h1 b10 hp1=>qT 7 3 u u<|vF 5 0 u u<|qB 8<|jsA (.f u) 3 4 sI.snd.snd.snd.fst r10 false u hp1 h1 u u (vL (gk 0))<|fun r_8=>zX<|qQ<|zP<|zB<|zN 2 u<|
  zS 0 u u u<|zA 2 u<|zC<|zT<|
  jbL (fun q_=>[bx b1 29 [sv p1 y0.1 c1, sv p2 y0.2.1 c2, sv p3 y0.2.2 c3], bx b2 29 [.slice none 0 0, .slice none 0 0, .slice none 0 0], bx b3 29 [sv p5 s1.1 c5, .slice p18 q_ c18, sv p7 s1.2.2 c7], r_8, bx b9 92 [vs x1.1, vb x1.2.1, vi x1.2.2.1, sv p19 x1.2.2.2.1 c19, vb x1.2.2.2.2.1, vs x1.2.2.2.2.2], []]) (gk 0) u<|
  qW (fun s4 K=>∀ p21 c21 r_9,K [1,2,4,5,6,7,21,22,23,37,38] [(2, bx b3 29 [sv p5 s1.1 c5, sv p21 s4.2 c21, sv p7 s1.2.2 c7]), (3, r_9)] [7,8,10,9,11,12,4] [(39, vi s4.1)] [Al wF 92 r_9 p21 c21 s4.2]) (gv (fun _ k=>k p18 c18 r_8) [0,1,2,3,4,905] (gq [0,7,8,10,9,11,12,4]))<|
  fun s4 _ k p21 c21 r_9=>k<|jA 1 u<|zG<|zK u (jC<|zG<|zT<|zB<|wC 3 u u u<|fun x3 b11 o2=>wA true zOY (gk 0) u<|wN .s (.agg #[vs [], vi 0, vb false, vs []])<|fun b12=>qJ .s 6 u u u<|zC<|
  wK (fun s5 K=>K [1,2,4,5,6,7,9,21,22,23,37,38,39] [] [2,3,4,5,6,1,7,8] [(58, vb s5)] []) (qL<|zN 1 u<|zS 4 u u u<|zA 2 u<|wM 46 u (zN 0 u<|zS 6 u u u<|zN 0 u<|zS 4 u u u<|zA 1 u<|
  zI (vb (x3.1 == x1.1))<|zA 1 u<|wM 53 u (zA 1 u<|zN 2 u<|qV 6 2 u u u<|qI zMG u (cq [2])<|fun r11 _ k=>k<|zI (vb r11)<|zU<|zL (gv (fun _ k=>k) [0,1,2,3,4,905,6] (gq [2,3,4,5,6,1,7,8])))<|zA 4 u<|
  zI (vb false)<|zU<|zL (gv (fun _ k=>k) [0,1,2,3,4,905,6] (gq [2,3,4,5,6,1,7,8])))<|zA 5 u<|zI (vb false)<|zA 5 u<|zI (vb false)<|zU<|zL (gv (fun _ k=>k) [0,1,2,3,4,905,6] (gq [2,3,4,5,6,1,7,8])))<|fun s5 _ k=>k<|zK u (qL<|
  zN 1 u<|zS 2 u u u<|zA 1 u<|zN 1 u<|zS 6 u u u<|jia 5 u u u<|fun x4 h2 b13 hp2=>zN 2 u<|jsA .s 3 5 sI.snd.snd.fst x3.2.1 false u hp2 h2 u u vI<|fun r_10=>zU<|qG<|zP<|jB 2 u<|
  jbL (fun q_=>[bx b1 29 [sv p1 y0.1 c1, sv p2 y0.2.1 c2, sv p3 y0.2.2 c3], bx b2 29 [.slice none 0 0, .slice none 0 0, .slice none 0 0], bx b3 29 [sv p5 s1.1 c5, .slice p21 q_ c21, sv p7 s1.2.2 c7], r_10, bx b9 92 [vs x1.1, vb x1.2.1, vi x1.2.2.1, sv p19 x1.2.2.2.1 c19, vb x1.2.2.2.2.1, vs x1.2.2.2.2.2], [], bx b12 105 [vs x3.1, vi x3.2.1, vb x3.2.2.1, vs x3.2.2.2]]) (gk 0) u<|
  qH (gv (fun _ k=>k p21 c21 r_10) [0,1,2,3,4,905] (gq [0,2,3,4,5,6,8,9])))<|wG<|qG<|zP<|jB 2 u<|qH (gv (fun _ k=>k p21 c21 r_9) [0,1,2,3,4,905] (gq [5,0,1,2,3,4,6,7])))<|qS<|qP<|qU<|qR<|qG<|zP<|jB 2 u<|
  qH (gv (fun _ k=>k p21 c21 r_9) [0,1,2,3] (gq [0,1,2,4,3,5,6])))<|qS<|qP<|qU<|qR<|zL (gv (fun _ k=>k p18 c18 r_6) [900,1,2,3] (gq [0,5,6])))<|fun s2 _ k p17 c17 r_5=>k<|zB<|qV 2 3 u u u<|qJ .s 1 u u u<|zC<|zJ<|
  vF 3 0 u u<|wQ u (lC 1 (.agg #[sv p5 s1.1 c5, sv p17 s2 c17, sv p7 s1.2.2 c7]) u u lN) (fun _ k=>k p5 c5 p17 c17 p7 c7) [] (gq [2,0,3])
theorem zFc {qd : Prop} {y0 : zM} {y1 : yH} : qF qd prog 8 [.agg #[sv p1 y0.1 c1, sv p2 y0.2.1 c2, sv p3 y0.2.2 c3], .agg #[vi y1.1, vi y1.2]] [] [Rl wP p1 c1 y0.1, Rl wF p2 c2 y0.2.1, Rl wO p3 c3 y0.2.2, Pt (uK 64 (zO .u8)) 4 0 xL] (zCr y0 y1) fun r K=>∀ p4 c4 p5 c5 p6 c6 p7 c7 p8 c8 p9 c9,K (.tuple #[.agg #[sv p4 r.1.1.1 c4, sv p5 r.1.1.2.1 c5, sv p6 r.1.1.2.2 c6, sv p7 r.1.2.1 c7, sv p8 r.1.2.2.1 c8, vi r.1.2.2.2.1, sv p9 r.1.2.2.2.2 c9], vi r.2]) [] [Rl wP p4 c4 r.1.1.1, Rl wF p5 c5 r.1.1.2.1, Rl wO p6 c6 r.1.1.2.2, Rl wS p7 c7 r.1.2.1, Rl tQ p8 c8 r.1.2.2.1, Rl yJ p9 c9 r.1.2.2.2.2] :=
 qA call8 func8 u fun X=>zB<|qZ .s u<|fun b1=>qZ .s u<|fun b2=>wN .s (.agg #[.slice none 0 0, .slice none 0 0, .slice none 0 0, .slice none 0 0, .slice none 0 0, vi 0, .slice none 0 0])<|fun b3=>zA 1 u<|zC<|zB<|qV 0 3 u u u<|
  qI zQj u (cq [0,1,2])<|fun r1 _ k p4 c4=>k<|zA 5 u<|zC<|zG<|jA 2 u<|zK u (zB<|zI (.agg #[.slice none 0 0, .slice none 0 0, .slice none 0 0, .slice none 0 0, .slice none 0 0, vi 0, .slice none 0 0])<|zA 1 u<|
  qJ .s 2 u u u<|zA 1 u<|zC<|zJ<|qE<|
  wQ u (lC 2 (.agg #[.slice none 0 0, .slice none 0 0, .slice none 0 0, .slice none 0 0, .slice none 0 0, vi 0, .slice none 0 0]) u u (lT u lN)) (fun _ k=>k none 0 none 0 none 0 none 0 none 0 none 0) [] ⟨gn,gn,gn,gn,gn,gn,⟨⟩⟩)<|jC<|
  zG<|tN (fun K=>K [2,3,4,6] [] [0,1,2,3,4] [(37, vb (if y1.1 != 1 then (y1.1 != 2) || ((y1.2 != 1) && (y1.2 != 2)) else (y1.2 != 1) && (y1.2 != 2)))] []) (qL<|zN 0 u<|zS 1 u u u<|zA 2 u<|
  yY (b := y1.1 != 1) 23 u (fun hb1=>zN 0 u<|zS 1 u u u<|zA 1 u<|zI (vb (y1.1 != 2))<|zA 1 u<|yY (b := y1.1 != 2) 28 u (fun hb2=>zA 8 u<|zI (vb true)<|zU<|
  wW 37 (vb (if y1.1 != 1 then (y1.1 != 2) || ((y1.2 != 1) && (y1.2 != 2)) else (y1.2 != 1) && (y1.2 != 2))) u (by rw [hb1,hb2]; rfl)<|zL (gv (fun _ k=>k) [0,1,2] (gq [0,1,2,3,4])))<|fun hb2=>zN 1 u<|zS 1 u u u<|zA 2 u<|
  yY (b := y1.2 != 1) 32 u (fun hb3=>zN 1 u<|zS 1 u u u<|zA 1 u<|zI (vb (y1.2 != 2))<|zI (vb (y1.2 != 2))<|zU<|
  wW 37 (vb (if y1.1 != 1 then (y1.1 != 2) || ((y1.2 != 1) && (y1.2 != 2)) else (y1.2 != 1) && (y1.2 != 2))) u (by rw [hb1,hb2,hb3]; rfl)<|zL (gv (fun _ k=>k) [0,1,2] (gq [0,1,2,3,4])))<|fun hb3=>zA 3 u<|zI (vb false)<|
  zI (vb false)<|zU<|wW 37 (vb (if y1.1 != 1 then (y1.1 != 2) || ((y1.2 != 1) && (y1.2 != 2)) else (y1.2 != 1) && (y1.2 != 2))) u (by rw [hb1,hb2,hb3]; rfl)<|zL (gv (fun _ k=>k) [0,1,2] (gq [0,1,2,3,4])))<|fun hb1=>zA 3 u<|
  zI (vb false)<|zA 1 u<|zN 1 u<|zS 1 u u u<|zA 2 u<|yY (b := y1.2 != 1) 32 u (fun hb4=>zN 1 u<|zS 1 u u u<|zA 1 u<|zI (vb (y1.2 != 2))<|zI (vb (y1.2 != 2))<|zU<|
  wW 37 (vb (if y1.1 != 1 then (y1.1 != 2) || ((y1.2 != 1) && (y1.2 != 2)) else (y1.2 != 1) && (y1.2 != 2))) u (by rw [hb1,hb4]; rfl)<|zL (gv (fun _ k=>k) [0,1,2] (gq [0,1,2,3,4])))<|fun hb4=>zA 3 u<|zI (vb false)<|zI (vb false)<|
  zU<|wW 37 (vb (if y1.1 != 1 then (y1.1 != 2) || ((y1.2 != 1) && (y1.2 != 2)) else (y1.2 != 1) && (y1.2 != 2))) u (by rw [hb1,hb4]; rfl)<|zL (gv (fun _ k=>k) [0,1,2] (gq [0,1,2,3,4])))<|fun _ k=>k<|zK u (zB<|
  zI (.agg #[.slice none 0 0, .slice none 0 0, .slice none 0 0, .slice none 0 0, .slice none 0 0, vi 0, .slice none 0 0])<|qJ .s 2 u u u<|zA 1 u<|zC<|zJ<|qE<|
  wQ u (lC 2 (.agg #[.slice none 0 0, .slice none 0 0, .slice none 0 0, .slice none 0 0, .slice none 0 0, vi 0, .slice none 0 0]) u u (lT u lN)) (fun _ k=>k none 0 none 0 none 0 none 0 none 0 none 0) [] ⟨gn,gn,gn,gn,gn,gn,⟨⟩⟩)<|jC<|
  zB<|zA 2 u<|qV 0 3 u u u<|zA 1 u<|qV 1 2 u u u<|qI zMU u (cq [1,2,3,0])<|fun r2 _ k p5 c5=>k<|qI zOJ u (cq [0])<|fun r3 _ k p6 c6=>k<|zA 3 u<|wN .s (.agg #[vi 0, .slice none 0 0])<|
  fun b4=>qJ .s 3 u u u<|zA 1 u<|zC<|zG<|jA 2 u<|zK u (zB<|zI (.agg #[.slice none 0 0, .slice none 0 0, .slice none 0 0, .slice none 0 0, .slice none 0 0, vi 0, .slice none 0 0])<|zA 1 u<|qJ .s 2 u u u<|
  zA 1 u<|zC<|zJ<|qE<|
  wQ u (lC 2 (.agg #[.slice none 0 0, .slice none 0 0, .slice none 0 0, .slice none 0 0, .slice none 0 0, vi 0, .slice none 0 0]) u u (lT u lN)) (fun _ k=>k none 0 none 0 none 0 none 0 none 0 none 0) [] ⟨gn,gn,gn,gn,gn,gn,⟨⟩⟩)<|jC<|
  zB<|zA 1 u<|qV 3 2 u u u<|qI zMM u (cq [0,6])<|fun r4 _ k p7 c7=>k<|qI zCw u (cq [0])<|fun r5 _ k p8 c8=>k<|qI zIU u (cq [4,0])<|fun r6 _ k p9 c9=>k<|zA 1 u<|zC<|zB<|
  qV 0 3 u u u<|zA 1 u<|qI zPE u (cq [6,7,8,0])<|fun r7 _ k p10 c10 p11 c11 p12 c12=>k<|zA 1 u<|
  zI (.agg #[sv p10 r7.1 c10, sv p11 r7.2.1 c11, sv p12 r7.2.2 c12, sv p4 r1.1 c4, .slice none 0 0, vi 0, .slice none 0 0])<|
  wN .s (.agg #[.slice none 0 0, .slice none 0 0, .slice none 0 0, .slice none 0 0, .slice none 0 0, vi 0, .slice none 0 0])<|fun b5=>qJ .s 4 u u u<|zC<|zB<|zN 0 u<|qV 4 3 u u u<|zA 1 u<|qV 1 2 u u u<|
  qI zMU u (cq [0,1,2,8])<|fun r8 _ k p13 c13=>k<|zN 4 u<|qJ .s 4 u u u<|zC<|zG<|zB<|zA 2 u<|zN 4 u<|zS 4 u u u<|qI zOJ u (cq [0])<|fun r9 _ k p14 c14=>k<|zA 3 u<|zN 5 u<|
  qJ .s 4 u u u<|zA 1 u<|zC<|jA 2 u<|zK u (zB<|zI (.agg #[.slice none 0 0, .slice none 0 0, .slice none 0 0, .slice none 0 0, .slice none 0 0, vi 0, .slice none 0 0])<|zA 1 u<|qJ .s 2 u u u<|zA 1 u<|zC<|zJ<|
  qE<|wQ u (lC 2 (.agg #[.slice none 0 0, .slice none 0 0, .slice none 0 0, .slice none 0 0, .slice none 0 0, vi 0, .slice none 0 0]) u u (lT u lN)) (fun _ k=>k none 0 none 0 none 0 none 0 none 0 none 0) [] ⟨gn,gn,gn,gn,gn,gn,⟨⟩⟩
  )<|jC<|zB<|qV 4 7 u u u<|qJ .s 2 u u u<|zA 1 u<|zC<|zJ<|
  wQ u (lC 2 (.agg #[sv p10 r7.1 c10, sv p11 r7.2.1 c11, sv p12 r7.2.2 c12, sv p4 r1.1 c4, sv p13 r8 c13, vi r9.1.1, sv p14 r9.1.2 c14]) u u (lT u lN)) (fun _ k=>k p10 c10 p11 c11 p12 c12 p4 c4 p13 c13 p14 c14) [] (gq [2,3,4,10,1,0])
theorem zH9 {qd : Prop} : qF qd prog 142 [.func (.func 144) #[] #[]] [] [] (zD4) fun r K=>∀ b1,K (.func (.func 207) #[] #[pt b1 0]) [bx b1 144 [.func (.func 144) #[] #[]]] [] :=
 qA call142 func142 u fun X=>zB<|qZ .s u<|fun b1=>zA 1 u<|zC<|jA 2 u<|zJ<|zQ u u (fun _ k=>k b1) [0] ⟨⟩
theorem zHS {qd : Prop} : qF qd prog 142 [.func (.func 146) #[] #[]] [] [] (zDO) fun r K=>∀ b1,K (.func (.func 207) #[] #[pt b1 0]) [bx b1 144 [.func (.func 146) #[] #[]]] [] :=
 qA call142 func142 u fun X=>zB<|qZ .s u<|fun b1=>zA 1 u<|zC<|jA 2 u<|zJ<|zQ u u (fun _ k=>k b1) [0] ⟨⟩
theorem zI9 {qd : Prop} : qF qd prog 142 [.func (.func 145) #[] #[]] [] [] (zEc) fun r K=>∀ b1,K (.func (.func 207) #[] #[pt b1 0]) [bx b1 144 [.func (.func 145) #[] #[]]] [] :=
 qA call142 func142 u fun X=>zB<|qZ .s u<|fun b1=>zA 1 u<|zC<|jA 2 u<|zJ<|zQ u u (fun _ k=>k b1) [0] ⟨⟩
theorem zIo {qd : Prop} : qF qd prog 142 [.func (.func 143) #[] #[]] [] [] (zEu) fun r K=>∀ b1,K (.func (.func 207) #[] #[pt b1 0]) [bx b1 144 [.func (.func 143) #[] #[]]] [] :=
 qA call142 func142 u fun X=>zB<|qZ .s u<|fun b1=>zA 1 u<|zC<|jA 2 u<|zJ<|zQ u u (fun _ k=>k b1) [0] ⟨⟩
theorem zIr {qd : Prop} : qF qd prog 142 [.func (.func 206) #[] #[pt b1 0]] [bx b1 184 [.func (.func 141) #[] #[]]] [] (zEt) fun r K=>∀ b2,K (.func (.func 207) #[] #[pt b2 0]) [bx b1 184 [.func (.func 141) #[] #[]], bx b2 144 [.func (.func 206) #[] #[pt b1 0]]] [] :=
 qA call142 func142 u fun X=>zB<|qZ .s u<|fun b2=>zA 1 u<|zC<|jA 2 u<|zJ<|zQ u u (fun _ k=>k b2) [0,1] ⟨⟩
theorem zHj {qd : Prop} : qF qd prog 140 [.func (.func 141) #[] #[]] [] [] (zEA) fun r K=>∀ b1 b2,K (.func (.func 207) #[] #[pt b1 0]) [bx b1 144 [.func (.func 206) #[] #[pt b2 0]], bx b2 184 [.func (.func 141) #[] #[]]] [] :=
 qA call140 func140 u fun X=>zB<|qZ .s u<|fun b1=>zA 1 u<|zC<|zB<|zA 1 u<|zZ .s [0] [] zIr u u u ⟨⟩<|fun r1 _ k b2=>k<|zA 1 u<|zC<|zJ<|zQ u u (fun _ k=>k b2 b1) [1,0] ⟨⟩
theorem zIN {qd : Prop} : qF qd prog 142 [.func (.func 206) #[] #[pt b1 0]] [bx b1 184 [.func (.func 148) #[] #[]]] [] (zEN) fun r K=>∀ b2,K (.func (.func 207) #[] #[pt b2 0]) [bx b1 184 [.func (.func 148) #[] #[]], bx b2 144 [.func (.func 206) #[] #[pt b1 0]]] [] :=
 qA call142 func142 u fun X=>zB<|qZ .s u<|fun b2=>zA 1 u<|zC<|jA 2 u<|zJ<|zQ u u (fun _ k=>k b2) [0,1] ⟨⟩
theorem zJz {qd : Prop} : qF qd prog 140 [.func (.func 148) #[] #[]] [] [] (zGQ) fun r K=>∀ b1 b2,K (.func (.func 207) #[] #[pt b1 0]) [bx b1 144 [.func (.func 206) #[] #[pt b2 0]], bx b2 184 [.func (.func 148) #[] #[]]] [] :=
 qA call140 func140 u fun X=>zB<|qZ .s u<|fun b1=>zA 1 u<|zC<|zB<|zA 1 u<|zZ .s [0] [] zIN u u u ⟨⟩<|fun r1 _ k b2=>k<|zA 1 u<|zC<|zJ<|zQ u u (fun _ k=>k b2 b1) [1,0] ⟨⟩
theorem zIJ {qd : Prop} : qF qd prog 142 [.func (.func 206) #[] #[pt b1 0]] [bx b1 184 [.func (.func 147) #[] #[]]] [] (zEL) fun r K=>∀ b2,K (.func (.func 207) #[] #[pt b2 0]) [bx b1 184 [.func (.func 147) #[] #[]], bx b2 144 [.func (.func 206) #[] #[pt b1 0]]] [] :=
 qA call142 func142 u fun X=>zB<|qZ .s u<|fun b2=>zA 1 u<|zC<|jA 2 u<|zJ<|zQ u u (fun _ k=>k b2) [0,1] ⟨⟩
theorem zJv {qd : Prop} : qF qd prog 140 [.func (.func 147) #[] #[]] [] [] (zGS) fun r K=>∀ b1 b2,K (.func (.func 207) #[] #[pt b1 0]) [bx b1 144 [.func (.func 206) #[] #[pt b2 0]], bx b2 184 [.func (.func 147) #[] #[]]] [] :=
 qA call140 func140 u fun X=>zB<|qZ .s u<|fun b1=>zA 1 u<|zC<|zB<|zA 1 u<|zZ .s [0] [] zIJ u u u ⟨⟩<|fun r1 _ k b2=>k<|zA 1 u<|zC<|zJ<|zQ u u (fun _ k=>k b2 b1) [1,0] ⟨⟩
theorem zQ3 {qd : Prop} : qF qd prog 82 [] [] [] (zJO) fun r K=>∀ b1 b2 b3 b4 b5 b6 b7 b8 b9 b10 b11,K (.slice (some ⟨b1, 0, none⟩) 10 10) [bx b1 144 [.nilFunc, .func (.func 207) #[] #[pt b2 0], .func (.func 207) #[] #[pt b4 0], .func (.func 207) #[] #[pt b5 0], .func (.func 207) #[] #[pt b6 0], .func (.func 207) #[] #[pt b7 0], .func (.func 207) #[] #[pt b8 0], .func (.func 207) #[] #[pt b10 0], .func (.func 149) #[] #[], .func (.func 150) #[] #[]], bx b2 144 [.func (.func 206) #[] #[pt b3 0]], bx b3 184 [.func (.func 141) #[] #[]], bx b4 144 [.func (.func 143) #[] #[]], bx b5 144 [.func (.func 144) #[] #[]], bx b6 144 [.func (.func 145) #[] #[]], bx b7 144 [.func (.func 146) #[] #[]], bx b8 144 [.func (.func 206) #[] #[pt b9 0]], bx b9 184 [.func (.func 147) #[] #[]], bx b10 144 [.func (.func 206) #[] #[pt b11 0]], bx b11 184 [.func (.func 148) #[] #[]]] [] :=
 qA call82 func82 u fun X=>jA 1 u<|zB<|qI zHj u ⟨⟩<|fun r1 _ k b1 b2=>k<|qI zIo u ⟨⟩<|fun r2 _ k b3=>k<|qI zH9 u ⟨⟩<|fun r3 _ k b4=>k<|
  qI zI9 u ⟨⟩<|fun r4 _ k b5=>k<|qI zHS u ⟨⟩<|fun r5 _ k b6=>k<|qI zJv u ⟨⟩<|fun r6 _ k b7 b8=>k<|qI zJz u ⟨⟩<|
  fun r7 _ k b9 b10=>k<|
  jbF .s 144 [.nilFunc, .func (.func 207) #[] #[pt b1 0], .func (.func 207) #[] #[pt b3 0], .func (.func 207) #[] #[pt b4 0], .func (.func 207) #[] #[pt b5 0], .func (.func 207) #[] #[pt b6 0], .func (.func 207) #[] #[pt b7 0], .func (.func 207) #[] #[pt b9 0], .func (.func 149) #[] #[], .func (.func 150) #[] #[]]<|
  fun b11=>zA 1 u<|zC<|zJ<|zQ u u (fun _ k=>k b11 b1 b2 b3 b4 b5 b6 b7 b8 b9 b10) [10,0,1,2,3,4,5,6,7,8,9] ⟨⟩
theorem zP4 {qd : Prop} {y0 : vH} : qF qd prog 141 [.agg #[vi y0.1, sv p1 y0.2 c1]] [] [Rl yJ p1 c1 y0.2, Pt (uK 64 (zO .u8)) 4 0 xL] (zGA y0) fun r K=>∀ p2 c2,K (.tuple #[sv p2 r.1 c2, vi r.2]) [] [Rl (zO .i64) p2 c2 r.1] :=
 qA call141 func141 u fun X=>zB<|qZ .s u<|fun b1=>zA 2 u<|zC<|zB<|qV 0 2 u u u<|qI zMM u (cq [0,1])<|fun r1 _ k p2 c2=>k<|zA 2 u<|zC<|zJ<|wQ u (lT u (lT u lN)) (fun _ k=>k p2 c2) [] (gq [0])
theorem zHM {qd : Prop} {y0 : vH} : yQ qd prog 206 [.agg #[vi y0.1, sv p1 y0.2 c1], pt b1 0] [bx b1 184 [.func (.func 141) #[] #[]]] [Rl yJ p1 c1 y0.2, Pt (uK 64 (zO .u8)) 4 0 xL] (zBN y0) fun L r K=>∀ p2 c2,K (.tuple #[sv p2 r.1 c2, vi r.2]) L [Rl (wJ (zO .i64)) p2 c2 r.1] :=
 qA call206 func206 u fun X=>zB<|qZ .s u<|fun b2=>zA 2 u<|zC<|zB<|zS 0 u u u<|qV 1 2 u u u<|zZ .s [] [] zP4 u u u (cq [0,1])<|fun r1 _ k p2 c2=>k<|zA 5 u<|zC<|zG<|jA 2 u<|zK u (jA 3 u<|zJ<|qE<|
  wQ u (lT u (lT u lN)) (fun _ k=>k none 0) [0] ⟨gn,⟨⟩⟩)<|jC<|zB<|zA 1 u<|vD .s (e := wJ (zO .i64)) 22 [sv p2 r1.1 c2] ([r1.1] : List (List Int)) (rC (vL (gk 0)) rN)<|fun p3 c3=>zA 2 u<|zC<|zJ<|
  wQ u (lT u (lT u lN)) (fun _ k=>k p3 c3) [0] (gq [0])
theorem zII {qd : Prop} {y0 : vH} : yQ qd prog 207 [.agg #[vi y0.1, sv p1 y0.2 c1], pt b1 0] [bx b1 144 [.func (.func 206) #[] #[pt b2 0]], bx b2 184 [.func (.func 141) #[] #[]]] [Rl yJ p1 c1 y0.2, Pt (uK 64 (zO .u8)) 4 0 xL] (zBY y0) fun L r K=>∀ p2 c2,K (.tuple #[sv p2 r.1 c2, vi r.2]) L [Rl (wJ (zO .i64)) p2 c2 r.1] :=
 qA call207 func207 u fun X=>zB<|qZ .s u<|fun b3=>zA 2 u<|zC<|zB<|zS 0 u u u<|qV 2 2 u u u<|zZ .s [1] [] zHM u u u (cq [0,1])<|fun r1 _ k p2 c2=>k<|zA 5 u<|zC<|zG<|jA 2 u<|zK u (jA 3 u<|zJ<|
  qE<|wQ u (lT u (lT u lN)) (fun _ k=>k none 0) [0,1] ⟨gn,⟨⟩⟩)<|jC<|zB<|zA 1 u<|vT (wJ (zO .i64)) 22<|zC<|zG<|jA 3 u<|zT<|
  qW (fun s1 K=>∀ p3 c3 r_1,K [19,20] [(2, []), (3, r_1)] [1,3] [(7, sv p3 s1.1 c3), (21, vi s1.2)] [Al (wJ (zO .i64)) 22 r_1 p3 c3 s1.1]) (gv (fun _ k=>k none 0 []) [0,1,902,3] (gq [0,1,3]))<|fun s1 _ k p3 c3 r_1=>k<|jA 1 u<|zG<|
  zK u (jC<|zG<|zT<|zB<|wC 1 u u u<|fun x1 b4 o1=>wA false oL (gk 0) u<|fun p4 c4=>zA 1 u<|zC<|qL<|zA 2 u<|qI zCw u (cq [0])<|fun r2 _ k p5 c5=>k<|
  vD .s (e := wJ (zO .i64)) 22 [sv p5 r2 c5] ([r2] : List (List Int)) (rC (vL (gk 0)) rN)<|fun p6 c6=>wL .s 3 4 u (gk 0) u u<|fun x2 r_2 p7 c7=>zA 1 u<|zU<|qG<|zP<|jB 2 u<|
  qH (gv (fun _ k=>k p7 c7 r_2) [0,1,902,3] (gq [0,6,7])))<|qS<|qP<|qU<|qR<|zP<|jA 3 u<|zJ<|vF 3 0 u u<|wQ u (lT u (lT u lN)) (fun _ k=>k p3 c3) [0,1] (gq [0])
theorem zJA {qd : Prop} {y0 : vH} : yQ qd prog 206 [.agg #[vi y0.1, sv p1 y0.2 c1], pt b1 0] [bx b1 184 [.func (.func 147) #[] #[]]] [Rl yJ p1 c1 y0.2] (zF1 y0) fun L r K=>∀ p2 c2,K (.tuple #[sv p2 r.1 c2, vi r.2]) L [Rl (wJ (zO .i64)) p2 c2 r.1] :=
 qA call206 func206 u fun X=>zB<|qZ .s u<|fun b2=>zA 2 u<|zC<|zB<|zS 0 u u u<|qV 1 2 u u u<|jno
theorem zH7 {qd : Prop} {y0 : vH} : yQ qd prog 207 [.agg #[vi y0.1, sv p1 y0.2 c1], pt b1 0] [bx b1 144 [.func (.func 206) #[] #[pt b2 0]], bx b2 184 [.func (.func 147) #[] #[]]] [Rl yJ p1 c1 y0.2] (zBQ y0) fun L r K=>∀ p2 c2,K (.tuple #[sv p2 r.1 c2, vi r.2]) L [Rl (wJ (zO .i64)) p2 c2 r.1] :=
 qA call207 func207 u fun X=>zB<|qZ .s u<|fun b3=>zA 2 u<|zC<|zB<|zS 0 u u u<|qV 2 2 u u u<|zZ .s [1] [] zJA u u u (cq [0])<|fun r1 _ k p2 c2=>k<|zA 5 u<|zC<|zG<|jA 2 u<|zK u (jA 3 u<|zJ<|qE<|
  wQ u (lT u (lT u lN)) (fun _ k=>k none 0) [0,1] ⟨gn,⟨⟩⟩)<|jC<|zB<|zA 1 u<|vT (wJ (zO .i64)) 22<|zC<|zG<|jA 3 u<|zT<|
  qW (fun s1 K=>∀ p3 c3 r_1,K [19,20] [(2, []), (3, r_1)] [1] [(7, sv p3 s1.1 c3), (21, vi s1.2)] [Al (wJ (zO .i64)) 22 r_1 p3 c3 s1.1]) (gv (fun _ k=>k none 0 []) [0,1,902,3] (gq [0,1]))<|fun s1 _ k p3 c3 r_1=>k<|jA 1 u<|zG<|
  zK u (jC<|zG<|zT<|zB<|wC 1 u u u<|fun x1 b4 o1=>wA false oL (gk 0) u<|fun p4 c4=>zA 1 u<|zC<|qL<|zA 2 u<|qI zCw u (cq [0])<|fun r2 _ k p5 c5=>k<|
  vD .s (e := wJ (zO .i64)) 22 [sv p5 r2 c5] ([r2] : List (List Int)) (rC (vL (gk 0)) rN)<|fun p6 c6=>wL .s 3 4 u (gk 0) u u<|fun x2 r_2 p7 c7=>zA 1 u<|zU<|qG<|zP<|jB 2 u<|
  qH (gv (fun _ k=>k p7 c7 r_2) [0,1,902,3] (gq [0,6])))<|qS<|qP<|qU<|qR<|zP<|jA 3 u<|zJ<|vF 3 0 u u<|wQ u (lT u (lT u lN)) (fun _ k=>k p3 c3) [0,1] (gq [0])
theorem zJT {qd : Prop} {y0 : vH} : yQ qd prog 206 [.agg #[vi y0.1, sv p1 y0.2 c1], pt b1 0] [bx b1 184 [.func (.func 148) #[] #[]]] [Rl yJ p1 c1 y0.2] (zFY y0) fun L r K=>∀ p2 c2,K (.tuple #[sv p2 r.1 c2, vi r.2]) L [Rl (wJ (zO .i64)) p2 c2 r.1] :=
 qA call206 func206 u fun X=>zB<|qZ .s u<|fun b2=>zA 2 u<|zC<|zB<|zS 0 u u u<|qV 1 2 u u u<|jno
theorem zH8 {qd : Prop} {y0 : vH} : yQ qd prog 207 [.agg #[vi y0.1, sv p1 y0.2 c1], pt b1 0] [bx b1 144 [.func (.func 206) #[] #[pt b2 0]], bx b2 184 [.func (.func 148) #[] #[]]] [Rl yJ p1 c1 y0.2] (zBR y0) fun L r K=>∀ p2 c2,K (.tuple #[sv p2 r.1 c2, vi r.2]) L [Rl (wJ (zO .i64)) p2 c2 r.1] :=
 qA call207 func207 u fun X=>zB<|qZ .s u<|fun b3=>zA 2 u<|zC<|zB<|zS 0 u u u<|qV 2 2 u u u<|zZ .s [1] [] zJT u u u (cq [0])<|fun r1 _ k p2 c2=>k<|zA 5 u<|zC<|zG<|jA 2 u<|zK u (jA 3 u<|zJ<|qE<|
  wQ u (lT u (lT u lN)) (fun _ k=>k none 0) [0,1] ⟨gn,⟨⟩⟩)<|jC<|zB<|zA 1 u<|vT (wJ (zO .i64)) 22<|zC<|zG<|jA 3 u<|zT<|
  qW (fun s1 K=>∀ p3 c3 r_1,K [19,20] [(2, []), (3, r_1)] [1] [(7, sv p3 s1.1 c3), (21, vi s1.2)] [Al (wJ (zO .i64)) 22 r_1 p3 c3 s1.1]) (gv (fun _ k=>k none 0 []) [0,1,902,3] (gq [0,1]))<|fun s1 _ k p3 c3 r_1=>k<|jA 1 u<|zG<|
  zK u (jC<|zG<|zT<|zB<|wC 1 u u u<|fun x1 b4 o1=>wA false oL (gk 0) u<|fun p4 c4=>zA 1 u<|zC<|qL<|zA 2 u<|qI zCw u (cq [0])<|fun r2 _ k p5 c5=>k<|
  vD .s (e := wJ (zO .i64)) 22 [sv p5 r2 c5] ([r2] : List (List Int)) (rC (vL (gk 0)) rN)<|fun p6 c6=>wL .s 3 4 u (gk 0) u u<|fun x2 r_2 p7 c7=>zA 1 u<|zU<|qG<|zP<|jB 2 u<|
  qH (gv (fun _ k=>k p7 c7 r_2) [0,1,902,3] (gq [0,6])))<|qS<|qP<|qU<|qR<|zP<|jA 3 u<|zJ<|vF 3 0 u u<|wQ u (lT u (lT u lN)) (fun _ k=>k p3 c3) [0,1] (gq [0])
theorem zGr {qd : Prop} {y0 : List wD} : qF qd prog 66 [sv p1 y0 c1, .func (.func 139) #[] #[]] [r_1] [Al yJ 125 r_1 p1 c1 y0] (zA8 y0) fun r K=>∀ r_2,K (.tuple #[]) [r_2] [Ar yJ 125 r_2 p1 c1 (List.length y0) r] := ⟨call66, fun A w0 r hm hO hF => by
 have h := zOr (qd := qd) Go.Proofs.Tryz.sort66 (uF.prod (uF.int .i64) (uF.int .i64)) (te := 125) Tryz.isAgg125 Tryz.sizeOf125 zCG 139 (enters_of func139 (by kernel_rfl) u) (fun w x y n hn => ?_) hO hF.1.1 hm
 · change Calls prog 66 _ _ _ at h
   refine h.mono fun e w' h => ?_
   cases e with
   | returned v => obtain ⟨r', rfl, h1, h2, h3, h4⟩ := h; exact fun G k => k r' ⟨rfl, h1, h2, ⟨h3, h4.symm⟩, trivial⟩
   | panicked ch => exact h
   | outgrown => exact h
 · refine ((zMf (qd := True) (y0 := x) (y1 := y)).go [] w n hn (qY.start (by simp)) trivial).mono fun e w' h => ?_
   cases e with
   | returned v => exact h _ fun ⟨e1, q⟩ => ⟨e1, q.e⟩
   | panicked ch => exact h
   | outgrown => exact h⟩
theorem zSB {qd : Prop} {y0 : vH} : qF qd prog 266 [.agg #[vi y0.1, sv p1 y0.2 c1]] [] [Rl yJ p1 c1 y0.2] (zE4 y0) fun r K=>∀ p2 c2,K (.agg #[vi r.1, sv p2 r.2 c2]) [] [Rl yJ p2 c2 r.2] :=
 qA call266 func266 u fun X=>zB<|qZ .s u<|fun b1=>wN .s (.agg #[vi 0, .slice none 0 0])<|fun b2=>zC<|zB<|qV 0 2 u u u<|qI zOO u (cq [0])<|fun r1 _ k p2 c2=>k<|qJ .s 0 u u u<|zC<|zB<|zN 0 u<|zS 0 u u u<|
  zI (.agg #[vi r1.1, .slice none 0 0])<|vT yJ 125<|wN .s (.agg #[vi 0, .slice none 0 0])<|fun b3=>qJ .s 3 u u u<|zC<|
  wK (fun s1 K=>∀ p3 c3 r_1,K [2,3] [(0, []), (2, r_1), (3, bx b3 37 [vi r1.1, sv p3 s1 c3])] [] [] [Al yJ 125 r_1 p3 c3 s1]) (zB<|zN 1 u<|zS 0 u u u<|zA 2 u<|zC<|zT<|
  qW (fun s2 K=>∀ p4 c4 r_2,K [2,3,12,13] [(0, []), (2, r_2), (3, bx b3 37 [vi r1.1, sv p4 s2.2 c4])] [1] [(14, vi s2.1)] [Al yJ 125 r_2 p4 c4 s2.2]) (gv (fun _ k=>k none 0 []) [900,1,2,3] (gq [0,1]))<|fun s2 _ k p4 c4 r_2=>k<|
  jA 1 u<|zG<|zK u (jC<|zG<|zT<|zB<|wC 1 u u u<|fun x1 b4 o1=>wA true zOL (gk 0) u<|wN .s (.agg #[vi 0, vi 0])<|fun b5=>qJ .s 4 u u u<|zC<|qL<|zN 1 u<|zS 3 u u u<|zN 1 u<|zS 4 u u u<|
  zN 0 u<|zS 4 u u u<|zI (.agg #[vi x1.2, vi x1.1])<|vD .s (e := yJ) 125 [vi x1.2, vi x1.1] ([(x1.2, x1.1)] : List wD) (rC (vP vI vI) rN)<|fun p5 c5=>wL .s 2 2 u (gk 0) u u<|fun x2 r_3 p6 c6=>zN 1 u<|
  qJ .s 3 u u u<|zU<|qG<|zP<|jB 2 u<|qH (gv (fun _ k=>k p6 c6 r_3) [900,1,2,3] (gq [0,4])))<|qS<|qP<|qU<|qR<|zL (gv (fun _ k=>k p4 c4 r_2) [900,1,2,3] (gq [0])))<|fun s1 _ k p3 c3 r_1=>k<|zB<|zN 1 u<|zS 3 u u u<|
  zZ .s [2] [] zGr u u u (cq [0])<|fun r2 _ k r_4=>k<|zC<|zB<|jbL (fun q_=>[[], bx b2 37 [vi 0, .slice none 0 0], r_4, bx b3 37 [vi r1.1, .slice p3 q_ c3]]) (gk 0) u<|qV 3 2 u u u<|
  qJ .s 1 u u u<|zC<|zJ<|vF 2 0 u u<|wQ u (lC 1 (.agg #[vi r1.1, sv p3 r2 c3]) u u lN) (fun _ k=>k p3 c3) [] (gq [0])
theorem zQG {qd : Prop} {y0 : vH} {y1 : Int} : qF qd prog 208 [.agg #[vi y0.1, sv p1 y0.2 c1], vi y1] [] [Rl yJ p1 c1 y0.2, Pt (uK 64 (zO .u8)) 4 0 xL] (zDG y0 y1) fun r K=>∀ p2 c2,K (sv p2 r c2) [] [Rl (zO .i64) p2 c2 r] :=
 qA call208 func208 u fun X=>zB<|qZ .s u<|fun b1=>zA 1 u<|zC<|zB<|qV 0 2 u u u<|qI zSB u (cq [0])<|fun r1 _ k p2 c2=>k<|zA 1 u<|qI zJL u (cq [0,2])<|fun r2 _ k p3 c3=>k<|zA 1 u<|zC<|zJ<|
  zQ u u (fun _ k=>k p3 c3) [] (gq [0])
theorem zL4 {qd : Prop} {y0 : uE} : yQ qd prog 268 [pt b1 0] [bx b1 232 (uC [vi y0.1, sv p1 y0.2.1 c1] 40 y0.2.2.1 [sv p2 y0.2.2.2.1 c2, vb y0.2.2.2.2]), r_1] [Rl (wJ (zO .i64)) p1 c1 y0.2.1, Al (wJ (zO .i64)) 22 r_1 p2 c2 y0.2.2.2.1] (zBA y0) fun L r K=>∀ p3 c3,K (.tuple #[sv p3 r.1 c3, vi r.2]) L [Rl (zO .i64) p3 c3 r.1] :=
 qA call268 func268 u fun X=>jA 2 u<|zB<|zA 1 u<|vT (zO .i64) 3<|zC<|zG<|zB<|zA 2 u<|zN 0 u<|zS 0 u u u<|zA 1 u<|zC<|zT<|
  qW (fun s1 K=>∀ p3 c3 r_2,K [0,9] [(2, r_2)] [1,2] [(4, sv p3 s1.1 c3), (10, vi s1.2)] [Al (zO .i64) 3 r_2 p3 c3 s1.1]) (gv (fun _ k=>k none 0 []) [0,1,2] (gq [0,1,2]))<|fun s1 _ k p3 c3 r_2=>k<|jA 1 u<|zG<|zK u (jC<|zG<|zT<|
  jA 2 u<|zB<|zA 3 u<|zN 2 u<|jiL 40 u u<|fun u1 h1=>jlL 0 40 y0.2.2.1 [vi y0.1, sv p1 y0.2.1 c1] [sv p2 y0.2.2.2.1 c2, vb y0.2.2.2.2] h1 u u<|zC<|zT<|jA 2 u<|zK u (qL<|zA 1 u<|
  vD .s (e := zO .i64) 3 [vi 1] ([1] : List Int) (rC vI rN)<|fun p4 c4=>wL .s 2 1 u (gk 0) u u<|fun x1 r_3 p5 c5=>zA 1 u<|zU<|qG<|qG<|zP<|jB 2 u<|qH (gv (fun _ k=>k p5 c5 r_3) [0,1,2] (gq [0,3,4])))<|jA 2 u<|zK u (
  qL<|zA 1 u<|vD .s (e := zO .i64) 3 [vi 2] ([2] : List Int) (rC vI rN)<|fun p6 c6=>wL .s 2 1 u (gk 0) u u<|fun x2 r_4 p7 c7=>zA 1 u<|zU<|qG<|qG<|zP<|jB 2 u<|qH (gv (fun _ k=>k p7 c7 r_4) [0,1,2] (gq [0,3,4])))<|
  jA 2 u<|zK u (qL<|zA 1 u<|vD .s (e := zO .i64) 3 [vi 3] ([3] : List Int) (rC vI rN)<|fun p8 c8=>wL .s 2 1 u (gk 0) u u<|fun x3 r_5 p9 c9=>zA 1 u<|zU<|qG<|qG<|zP<|jB 2 u<|
  qH (gv (fun _ k=>k p9 c9 r_5) [0,1,2] (gq [0,3,4])))<|jA 3 u<|zJ<|qO<|qO<|qE<|wU<|qO<|qE<|wQ u (lT u (lT u lN)) (fun _ k=>k none 0) [0,1] ⟨gn,⟨⟩⟩)<|qS<|qP<|qU<|qR<|zP<|jA 3 u<|zJ<|vF 2 0 u u<|
  wQ u (lT u (lT u lN)) (fun _ k=>k p3 c3) [0,1] (gq [0])
theorem zMd {qd : Prop} {y0 : uE} {y1 : List Int} {y2 : Int} : yQ qd prog 347 [pt b1 0, sv p3 y1 c3, vi y2] [bx b1 232 (uC [vi y0.1, sv p1 y0.2.1 c1] 40 y0.2.2.1 [sv p2 y0.2.2.2.1 c2, vb y0.2.2.2.2]), r_1] [Rl (wJ (zO .i64)) p1 c1 y0.2.1, Al (wJ (zO .i64)) 22 r_1 p2 c2 y0.2.2.2.1, Rl (zO .i64) p3 c3 y1] (zC2 y0 y1 y2) fun L r K=>∀ p4 c4,K (sv p4 r c4) L [Rl (zO .i64) p4 c4 r] :=
 qA call347 func347 u fun X=>jA 1 u<|zB<|zA 1 u<|vT (zO .i64) 3<|zC<|zG<|jA 3 u<|zT<|
  qW (fun s1 K=>∀ p4 c4 r_2,K [0,2,10,11] [(2, r_2)] [3,1,2] [(7, sv p4 s1.1 c4), (12, vi s1.2)] [Al (zO .i64) 3 r_2 p4 c4 s1.1]) (gv (fun _ k=>k none 0 []) [0,1,2] (gq [0,3,1,2]))<|fun s1 _ k p4 c4 r_2=>k<|jA 1 u<|zG<|zK u (jC<|
  zG<|zT<|zB<|wC 1 u u u<|fun x1 b2 o1=>wA false oI (gk 0) u<|zA 1 u<|zC<|zB<|zA 3 u<|zN 2 u<|jiL 40 u u<|fun u1 h1=>jlL 0 40 y0.2.2.1 [vi y0.1, sv p1 y0.2.1 c1] [sv p2 y0.2.2.2.1 c2, vb y0.2.2.2.2] h1 u u<|
  zA 3 u<|zC<|zK u (qL<|zA 2 u<|vD .s (e := zO .i64) 3 [vi x1] ([x1] : List Int) (rC vI rN)<|fun p5 c5=>wL .s 2 2 u (gk 0) u u<|fun x2 r_3 p6 c6=>zA 1 u<|zU<|qG<|zP<|jB 2 u<|
  qH (gv (fun _ k=>k p6 c6 r_3) [0,1,2] (gq [0,4,5,6])))<|wG<|qG<|zP<|jB 2 u<|qH (gv (fun _ k=>k p4 c4 r_2) [0,1,2] (gq [1,2,3,4])))<|qS<|qP<|qU<|qR<|zP<|jA 2 u<|zJ<|vF 2 0 u u<|
  zQ u u (fun _ k=>k p4 c4) [0,1] (gq [0])
theorem zLt {qd : Prop} {y0 : uE} {y1 : Int} : qF qd prog 318 [pt b1 0, vi y1] [bx b1 232 (uC [vi y0.1, sv p1 y0.2.1 c1] 40 y0.2.2.1 [sv p2 y0.2.2.2.1 c2, vb y0.2.2.2.2]), r_1] [Rl (wJ (zO .i64)) p1 c1 y0.2.1, Al (wJ (zO .i64)) 22 r_1 p2 c2 y0.2.2.2.1] (zBa y0 y1) fun r K=>∀ p3 c3 r_2,K (.tuple #[]) [bx b1 232 (uC [vi y0.1, sv p1 y0.2.1 c1] 40 r.1 [sv p3 r.2 c3, vb y0.2.2.2.2]), r_2] [Al (wJ (zO .i64)) 22 r_2 p3 c3 r.2] :=
 qA call318 func318 u fun X=>zB<|zA 2 u<|zN 1 u<|zS 0 u u u<|zA 1 u<|wC 0 u u u<|fun x1 b2 o1=>wA false oL (gk 0) u<|fun p3 c3=>zA 2 u<|zC<|
  wK (fun s1 K=>K [0,4] [(0, bx b1 232 (uC [vi y0.1, sv p1 y0.2.1 c1] 40 s1.2 [sv p2 y0.2.2.2.1 c2, vb y0.2.2.2.2]))] [0,2,3] [(5, vi s1.1)] []) (zB<|zA 3 u<|zN 2 u<|jiL 40 u u<|fun u1 h1=>
  jlL 0 40 y0.2.2.1 [vi y0.1, sv p1 y0.2.1 c1] [sv p2 y0.2.2.2.1 c2, vb y0.2.2.2.2] h1 u u<|zC<|zT<|jA 2 u<|zK u (jA 3 u<|zT<|
  qW (fun s2 K=>K [0,4,5,26,27] [(0, bx b1 232 (uC [vi y0.1, sv p1 y0.2.1 c1] 40 s2.2 [sv p2 y0.2.2.2.1 c2, vb y0.2.2.2.2]))] [0,2,3] [(28, vi s2.1)] []) (gv (fun _ k=>k) [0,1] (gq [0,2,3]))<|fun s2 _ k=>k<|jA 1 u<|zG<|zK u (jC<|
  zG<|zT<|zB<|wC 0 u u u<|fun x2 b3 o2=>wA false oI (gk 0) u<|zA 1 u<|zC<|uT [10] [0] 11<|zY 8 [0,1,2] u<|qT 3 2 u u<|z1p 40 4 u u u<|fun u2 h2=>
  jdlL 5 0 40 s2.2 [vi y0.1, sv p1 y0.2.1 c1] [sv p2 y0.2.2.2.1 c2, vb y0.2.2.2.2] h2 u u u<|zY 3 [6,7] u<|qT 8 2 u u<|z1p 40 9 u u u<|fun u3 h3=>qB 10<|
  jsL (yG .i64 (yM s2.2 x2) 4) (.f u) 0 40 s2.2 [vi y0.1, sv p1 y0.2.1 c1] [sv p2 y0.2.2.2.1 c2, vb y0.2.2.2.2] h3 u u u<|jdb [] [0]<|qQ<|qG<|zP<|jB 2 u<|qH (gv (fun _ k=>k) [0,1] (gq [1,2,3])))<|qS<|qP<|qU<|qR<|qG<|
  zL (gv (fun _ k=>k) [0,1] (gq [0,1,2])))<|jA 2 u<|zK u (jB 1 u<|qG<|zL (gv (fun _ k=>k) [0,1] (gq [0,2,3])))<|jA 2 u<|zK u (
  wK (fun s3 K=>K [0,4] [(0, bx b1 232 (uC [vi y0.1, sv p1 y0.2.1 c1] 40 s3 [sv p2 y0.2.2.2.1 c2, vb y0.2.2.2.2]))] [0,2,3] [] []) (jA 3 u<|zT<|
  qW (fun s4 K=>K [0,4,47,48] [(0, bx b1 232 (uC [vi y0.1, sv p1 y0.2.1 c1] 40 s4.2 [sv p2 y0.2.2.2.1 c2, vb y0.2.2.2.2]))] [0,2,3] [(49, vi s4.1)] []) (gv (fun _ k=>k) [0,1] (gq [0,2,3]))<|fun s4 _ k=>k<|jA 1 u<|zG<|zK u (jC<|zG<|
  zT<|zB<|wC 0 u u u<|fun x3 b4 o3=>wA false oI (gk 0) u<|zA 1 u<|zC<|uT [10] [0] 11<|zY 8 [0,1,2] u<|qT 3 2 u u<|z1p 40 4 u u u<|fun u4 h4=>
  jdlL 5 0 40 s4.2 [vi y0.1, sv p1 y0.2.1 c1] [sv p2 y0.2.2.2.1 c2, vb y0.2.2.2.2] h4 u u u<|zY 3 [6,7] u<|qT 8 2 u u<|z1p 40 9 u u u<|fun u5 h5=>qB 10<|
  jsL (yG .i64 (yM s4.2 x3) 12) (.f u) 0 40 s4.2 [vi y0.1, sv p1 y0.2.1 c1] [sv p2 y0.2.2.2.1 c2, vb y0.2.2.2.2] h5 u u u<|jdb [] [0]<|qQ<|qG<|zP<|jB 2 u<|qH (gv (fun _ k=>k) [0,1] (gq [1,2,3])))<|qS<|qP<|qU<|qR<|
  zL (gv (fun _ k=>k) [0,1] (gq [0,1,2])))<|fun s3 _ k=>k<|jB 1 u<|qG<|zL (gv (fun _ k=>k) [0,1] (gq [0,1,2])))<|wG<|qG<|zL (gv (fun _ k=>k) [0,1] (gq [0,2,3])))<|fun s1 _ k=>k<|zB<|zA 3 u<|
  zZ .s [0, 1] [] zMd u u u (cq [1,2,0])<|fun r1 _ k p4 c4=>k<|zA 1 u<|zC<|jA 3 u<|zK u (uT [13] [0] 14<|zY 12 [0,1] u<|yO 2 0 u u u u<|fun x4 b5 o4=>yK 3 false oI u (gk 0) u<|
  zY 9 [4] u<|qT 5 2 u u<|z1p 40 6 u u u<|fun u6 h6=>jdlL 7 0 40 s1.2 [vi y0.1, sv p1 y0.2.1 c1] [sv p2 y0.2.2.2.1 c2, vb y0.2.2.2.2] h6 u u u<|zY 3 [8,9,10] u<|qT 11 2 u u<|z1p 40 12 u u u<|fun u7 h7=>
  qB 13<|jsL (yG .i64 (yM s1.2 x4) s1.1) (.f u) 0 40 s1.2 [vi y0.1, sv p1 y0.2.1 c1] [sv p2 y0.2.2.2.1 c2, vb y0.2.2.2.2] h7 u u u<|jdb [] [0]<|qQ<|jrn<|wQ u lN (fun _ k=>k p2 c2 r_1) [0,1] (gq [4]))<|wG<|jrn<|
  wQ u lN (fun _ k=>k p2 c2 r_1) [0,1] (gq [3])
theorem zFE {qd : Prop} {y0 : uE} {y1 : List Int} {y2 : Int} : yQ qd prog 347 [pt b1 0, sv p3 y1 c3, vi y2] [bx b1 232 (uC [vi y0.1, sv p1 y0.2.1 c1] 40 y0.2.2.1 [sv p2 y0.2.2.2.1 c2, vb y0.2.2.2.2])] [Rl (wJ (zO .i64)) p1 c1 y0.2.1, Rl (wJ (zO .i64)) p2 c2 y0.2.2.2.1, Rl (zO .i64) p3 c3 y1] (zAr y0 y1 y2) fun L r K=>∀ p4 c4,K (sv p4 r c4) L [Rl (zO .i64) p4 c4 r] :=
 qA call347 func347 u fun X=>jA 1 u<|zB<|zA 1 u<|vT (zO .i64) 3<|zC<|zG<|jA 3 u<|zT<|
  qW (fun s1 K=>∀ p4 c4 r_1,K [0,2,10,11] [(1, r_1)] [3,1,2] [(7, sv p4 s1.1 c4), (12, vi s1.2)] [Al (zO .i64) 3 r_1 p4 c4 s1.1]) (gv (fun _ k=>k none 0 []) [0,1] (gq [0,3,1,2]))<|fun s1 _ k p4 c4 r_1=>k<|jA 1 u<|zG<|zK u (jC<|zG<|
  zT<|zB<|wC 1 u u u<|fun x1 b2 o1=>wA false oI (gk 0) u<|zA 1 u<|zC<|zB<|zA 3 u<|zN 2 u<|jiL 40 u u<|fun u1 h1=>jlL 0 40 y0.2.2.1 [vi y0.1, sv p1 y0.2.1 c1] [sv p2 y0.2.2.2.1 c2, vb y0.2.2.2.2] h1 u u<|
  zA 3 u<|zC<|zK u (qL<|zA 2 u<|vD .s (e := zO .i64) 3 [vi x1] ([x1] : List Int) (rC vI rN)<|fun p5 c5=>wL .s 1 2 u (gk 0) u u<|fun x2 r_2 p6 c6=>zA 1 u<|zU<|qG<|zP<|jB 2 u<|
  qH (gv (fun _ k=>k p6 c6 r_2) [0,1] (gq [0,4,5,6])))<|wG<|qG<|zP<|jB 2 u<|qH (gv (fun _ k=>k p4 c4 r_1) [0,1] (gq [1,2,3,4])))<|qS<|qP<|qU<|qR<|zP<|jA 2 u<|zJ<|vF 1 0 u u<|zQ u u (fun _ k=>k p4 c4) [0] (gq [0])
theorem zLN {qd : Prop} {y0 : uE} {y1 : Int} : yQ qd prog 317 [pt b1 0, vi y1] [bx b1 232 (uC [vi y0.1, sv p1 y0.2.1 c1] 40 y0.2.2.1 [sv p2 y0.2.2.2.1 c2, vb y0.2.2.2.2])] [Rl (wJ (zO .i64)) p1 c1 y0.2.1, Rl (wJ (zO .i64)) p2 c2 y0.2.2.2.1] (zBV y0 y1) fun L r K=>K (vi r) L [] :=
 qA call317 func317 u fun X=>jA 1 u<|zB<|zA 2 u<|zN 1 u<|zS 0 u u u<|zA 1 u<|wC 0 u u u<|fun x1 b2 o1=>wA false oL (gk 0) u<|fun p3 c3=>zA 2 u<|zC<|wK (fun s1 K=>K [0,5] [] [0,2,3] [(6, vi s1)] []) (zB<|zA 2 u<|
  zZ .s [0] [] zFE u u u (cq [2,3,0])<|fun r1 _ k p4 c4=>k<|zA 4 u<|zC<|zK u (jB 3 u<|zL (gv (fun _ k=>k) [0] (gq [1,3,4])))<|wG<|zL (gv (fun _ k=>k) [0] (gq [1,3,4])))<|fun s1 _ k=>k<|
  wK (fun s2 K=>K [0,5] [] [0,1,2] [(6, vi s2)] []) (zB<|zA 2 u<|zZ .s [0] [] zFE u u u (cq [1,2,0])<|fun r2 _ k p5 c5=>k<|zA 2 u<|zC<|zK u (jB 3 u<|zL (gv (fun _ k=>k) [0] (gq [1,2,3])))<|wG<|
  zL (gv (fun _ k=>k) [0] (gq [1,2,3])))<|fun s2 _ k=>k<|zG<|wK (fun s3 K=>K [6] [] [1,2] [(43, vb s3)] []) (qL<|zA 2 u<|zZ .s [0] [] zFE u u u (cq [1,2,0])<|fun r3 _ k p6 c6=>k<|zA 5 u<|wM 37 u (
  zA 5 u<|zI (vb true)<|zU<|zL (gv (fun _ k=>k) [0] (gq [2,3])))<|zA 2 u<|zZ .s [0] [] zFE u u u (cq [2,3,1])<|fun r4 _ k p7 c7=>k<|zA 2 u<|zI (vb ((len r4) == 0))<|zU<|zL (gv (fun _ k=>k) [0] (gq [3,4]))
  )<|fun s3 _ k=>k<|zK u (jB 3 u<|zP<|jA 2 u<|zJ<|zQ u u (fun _ k=>k) [0] ⟨⟩)<|jC<|jA 2 u<|zJ<|zQ u u (fun _ k=>k) [0] ⟨⟩
theorem zLJ {qd : Prop} {y0 : uE} : qF qd prog 267 [pt b1 0] [bx b1 232 (uC [vi y0.1, sv p1 y0.2.1 c1] 40 y0.2.2.1 [sv p2 y0.2.2.2.1 c2, vb y0.2.2.2.2]), r_1] [Rl (wJ (zO .i64)) p1 c1 y0.2.1, Al (wJ (zO .i64)) 22 r_1 p2 c2 y0.2.2.2.1] (zAz y0) fun r K=>∀ p3 c3 r_2,K (vb r.1) [bx b1 232 (uC [vi y0.1, sv p1 y0.2.1 c1] 40 r.2.1 [sv p3 r.2.2 c3, vb y0.2.2.2.2]), r_2] [Al (wJ (zO .i64)) 22 r_2 p3 c3 r.2.2] :=
 qA call267 func267 u fun X=>jA 1 u<|zT<|
  qW (fun s1 K=>∀ p3 c3 r_2,K [0] [(0, bx b1 232 (uC [vi y0.1, sv p1 y0.2.1 c1] 40 s1.1 [sv p3 s1.2 c3, vb y0.2.2.2.2])), (1, r_2)] [0] [] [Al (wJ (zO .i64)) 22 r_2 p3 c3 s1.2]) (gv (fun _ k=>k p2 c2 r_1) [0,1] (gq [1,0]))<|
  fun s1 _ k p3 c3 r_2=>k<|zT<|zB<|zA 2 u<|zN 2 u<|jlW 0 40 s1.1 [vi y0.1, sv p1 y0.2.1 c1] [sv p3 s1.2 c3, vb y0.2.2.2.2] u u<|jalA .s (uC [] 40 (List.replicate 40 (0 : Int)) [])<|fun b2=>
  jsW s1.1 .s 2 40 (List.replicate 40 (0 : Int)) [] [] u u u<|zC<|
  zX2 (fun s2 K=>∀ p4 c4 r_3,K [0,3] [(0, bx b1 232 (uC [vi y0.1, sv p1 y0.2.1 c1] 40 s2.1 [sv p4 s2.2 c4, vb y0.2.2.2.2])), (1, r_3)] [1] [] [Al (wJ (zO .i64)) 22 r_3 p4 c4 s2.2]) (zB<|zA 2 u<|zN 0 u<|zS 0 u u u<|
  zA 1 u<|zC<|zT<|
  qW (fun s3 K=>∀ p5 c5 r_4,K [0,3,12] [(0, bx b1 232 (uC [vi y0.1, sv p1 y0.2.1 c1] 40 s3.2.1 [sv p5 s3.2.2 c5, vb y0.2.2.2.2])), (1, r_4)] [1] [(13, vi s3.1)] [Al (wJ (zO .i64)) 22 r_4 p5 c5 s3.2.2]) (gv (fun _ k=>k p3 c3 r_2) [0,1,2] (gq [0,1]))<|
  fun s3 _ k p5 c5 r_4=>k<|jA 1 u<|zG<|zK u (jC<|zG<|zT<|jA 2 u<|zG<|yD [13] [0] 14<|zY 11 [0,1,2] u<|qT 3 2 u u<|z1p 40 4 u u u<|fun u1 h1=>
  jdlL 5 0 40 s3.2.1 [vi y0.1, sv p1 y0.2.1 c1] [sv p5 s3.2.2 c5, vb y0.2.2.2.2] h1 u u u<|zY 5 [6,7,10] u<|qT 11 2 u u<|qB 8<|zZ (.f u) [0] [1] zLN u u u ⟨ck 1,cl 1 0,⟨⟩⟩<|fun r1 _ k=>k<|zX<|
  zY 2 [9] u<|z1p 40 12 u u u<|fun u2 h2=>qB 13<|jsL (yG .i64 (yM s3.2.1 s3.1) r1) (.f u) 0 40 s3.2.1 [vi y0.1, sv p1 y0.2.1 c1] [sv p5 s3.2.2 c5, vb y0.2.2.2.2] h2 u u u<|jdb [] [0]<|qQ<|zP<|zB<|zA 3 u<|
  zN 2 u<|jiL 40 u u<|fun u3 h3=>jlL 0 40 (xO 40 s3.2.1 s3.1 (yG .i64 (yM s3.2.1 s3.1) r1)) [vi y0.1, sv p1 y0.2.1 c1] [sv p5 s3.2.2 c5, vb y0.2.2.2.2] h3 u u<|zA 1 u<|zC<|zK u (jA 1 u<|zJ<|qE<|qO<|qE<|wU<|qO<|
  wU<|qO<|wU<|qO<|zQ u u (fun _ k=>k p5 c5 r_4) [0,1] (gq [0]))<|jC<|qL<|zA 2 u<|zZ .s [0, 1] [] zLt u u u (cq [1,0])<|fun r2 _ k p6 c6 r_5=>k<|zU<|qG<|zP<|jB 2 u<|
  qH (gv (fun _ k=>k p6 c6 r_5) [0,1,2] (gq [0,2])))<|qS<|qP<|qU<|qR<|qH (gv (fun _ k=>k p5 c5 r_4) [0,1,2] (gq [0,1])))<|fun s2 _ k p4 c4 r_3=>k<|zG<|yD [] [0] 9<|zY 7 [0,1] u<|qT 2 2 u u<|zY 4 [3,4] u<|qT 5 0 u u<|
  wH 6 0 u u u u<|jdasl (k := 40) 7 s2.1 u u u<|fun x1 h4=>qB 8<|zZ (.f u) [] [0] zDk u u u ⟨cA 0 40 s2.1 [vi y0.1, sv p1 y0.2.1 c1] [sv p4 s2.2 c4, vb y0.2.2.2.2] h4 rfl,⟨⟩⟩<|fun r3 _ k=>k<|zX<|
  qQ<|zP<|zK u (jA 1 u<|zJ<|qE<|qO<|wU<|qO<|zQ u u (fun _ k=>k p4 c4 r_3) [0,1] (gq [0]))<|jC<|yD [] [0, 2] 6<|zY 4 [0,1] u<|qT 2 2 u u<|
  jdlW 3 0 40 s2.1 [vi y0.1, sv p1 y0.2.1 c1] [sv p4 s2.2 c4, vb y0.2.2.2.2] u u u<|jdlW 4 2 40 s1.1 [] [] u u u<|
  tC (v := vb (aeq 40 s2.1 s1.1)) 5 u (fun h=>z2A h u u underlying230 underlying3 (by kernel_rfl) (by kernel_rfl) (by kernel_rfl) (by kernel_rfl))<|qQ<|zP<|zK u (jA 1 u<|zJ<|qO<|wU<|qO<|
  zQ u u (fun _ k=>k p4 c4 r_3) [0,1] (gq [0]))<|wG<|qG<|qH (gv (fun _ k=>k p4 c4 r_3) [0,1] (gq [0,1]))
theorem zLL {qd : Prop} (k : Nat) :
    (∀ {y0 : uE} {b1 : Nat} {p1 : Option Addr} {c1 : Nat} {p2 : Option Addr} {c2 : Nat} {r_1 : zV}, qF qd prog 209 [pt b1 0] [bx b1 232 (uC [vi y0.1, sv p1 y0.2.1 c1] 40 y0.2.2.1 [sv p2 y0.2.2.2.1 c2, vb y0.2.2.2.2]), r_1] [Rl (wJ (zO .i64)) p1 c1 y0.2.1, Al (wJ (zO .i64)) 22 r_1 p2 c2 y0.2.2.2.1] (zAv k y0) fun r K=>∀ p3 c3 r_2,K (.tuple #[]) [bx b1 232 (uC [vi y0.1, sv p1 y0.2.1 c1] 40 r.1 [sv p3 r.2.1 c3, vb r.2.2]), r_2] [Al (wJ (zO .i64)) 22 r_2 p3 c3 r.2.1]) := by
  induction k with
  | zero => exact z07 call209
  | succ k ih =>
    have ih_search_finder_find := @ih
    exact @fun y0 b1 p1 c1 p2 c2 r_1=>qA (m1 := zA9 (zAv k) y0) call209 func209 u fun X=>zG<|wK (fun s1 K=>∀ p3 c3 r_2,K [0] [(0, bx b1 232 (uC [vi y0.1, sv p1 y0.2.1 c1] 40 s1.2.1 [sv p3 s1.2.2 c3, vb y0.2.2.2.2])), (1, r_2)] [0] [(15, vb s1.1)] [Al (wJ (zO .i64)) 22 r_2 p3 c3 s1.2.2]) (qL<|zA 2 u<|zN 43 u<|
  zS 0 u u u<|zA 1 u<|wM 11 u (zA 3 u<|zI (vb true)<|zU<|zL (gv (fun _ k=>k p2 c2 r_1) [0,1] (gq [1,0])))<|zA 1 u<|zZ .s [0, 1] [] zLJ u u u (cq [0,1])<|fun r1 _ k p4 c4 r_3=>k<|zA 1 u<|
  zI (vb (!r1.1))<|zU<|zL (gv (fun _ k=>k p4 c4 r_3) [0,1] (gq [0,1])))<|fun s1 _ k p3 c3 r_2=>k<|zK u (zJ<|qE<|wQ u lN (fun _ k=>k p3 c3 r_2) [0,1] (gq [0]))<|jC<|zB<|zA 1 u<|
  zZ .s [0, 1] [] zL4 u u u (cq [1,0])<|fun r2 _ k p5 c5=>k<|zA 5 u<|zC<|zG<|jA 2 u<|zK u (zB<|zA 3 u<|zN 42 u<|zS 0 u u u<|zA 3 u<|zN 43 u<|qJ .s 0 u u u<|zC<|zB<|zA 3 u<|
  zN 42 u<|zS 0 u u u<|zA 1 u<|vD .s (e := wJ (zO .i64)) 22 [sv p5 r2.1 c5] ([r2.1] : List (List Int)) (rC (vL (gk 0)) rN)<|fun p6 c6=>wL .s 1 2 u (gk 0) u u<|fun x1 r_4 p7 c7=>zA 1 u<|zN 42 u<|
  qJ .s 0 u u u<|zC<|zJ<|qE<|wQ u lN (fun _ k=>k p7 c7 r_4) [0,1] (gq [0]))<|jC<|zB<|zA 2 u<|zN 2 u<|jlW 0 40 s1.2.1 [vi y0.1, sv p1 y0.2.1 c1] [sv p3 s1.2.2 c3, vb y0.2.2.2.2] u u<|
  jalA .s (uC [] 40 (List.replicate 40 (0 : Int)) [])<|fun b2=>jsW s1.2.1 .s 2 40 (List.replicate 40 (0 : Int)) [] [] u u u<|zC<|zB<|vD .s (e := zO .i64) 3 [vi 2, vi 4, vi 8] ([2, 4, 8] : List Int) (rC vI (rC vI (rC vI rN)))<|
  fun p8 c8=>zA 2 u<|zC<|zT<|
  qW (fun s2 K=>∀ p9 c9 r_5,K [0,3,4,46,47] [(0, bx b1 232 (uC [vi y0.1, sv p1 y0.2.1 c1] 40 s1.2.1 [sv p9 s2.2.1 c9, vb s2.2.2])), (1, r_5)] [0,3] [(48, vi s2.1)] [Al (wJ (zO .i64)) 22 r_5 p9 c9 s2.2.1]) (gv (fun _ k=>k p3 c3 r_2) [0,1,2] (gq [2,0,3]))<|
  fun s2 _ k p9 c9 r_5=>k<|jA 1 u<|zG<|zK u (jC<|zG<|zT<|zB<|wC 1 u u u<|fun x2 b3 o1=>wA false oI (gk 0) u<|zA 1 u<|zC<|zB<|zA 1 u<|jiL 40 u u<|fun u1 h2=>jlL 2 40 s1.2.1 [] [] h2 u u<|zA 3 u<|zC<|
  zK u (zB<|zA 4 u<|zN 2 u<|jiL 40 u u<|fun u2 h3=>jsL x2 .s 0 40 s1.2.1 [vi y0.1, sv p1 y0.2.1 c1] [sv p9 s2.2.1 c9, vb s2.2.2] h3 u u u<|zC<|zB<|zA 1 u<|
  zZ .s [0, 1] [] ih_search_finder_find u u u (cq [3,1])<|fun r3 _ k p10 c10 r_6=>k<|zC<|qL<|zA 1 u<|jlW 2 40 s1.2.1 [] [] u u<|zA 1 u<|zN 2 u<|
  jsW s1.2.1 .s 0 40 r3.1 [vi y0.1, sv p1 y0.2.1 c1] [sv p10 r3.2.1 c10, vb r3.2.2] u u u<|zU<|qG<|zP<|jB 2 u<|qH (gv (fun _ k=>k p10 c10 r_6) [0,1,2] (gq [0,3,4])))<|wG<|qG<|zP<|jB 2 u<|
  qH (gv (fun _ k=>k p9 c9 r_5) [0,1,2] (gq [1,2,3])))<|qS<|qP<|qU<|qR<|jrn<|wQ u lN (fun _ k=>k p9 c9 r_5) [0,1] (gq [0])
theorem zNz {qd : Prop} {y0 : uE} : qF qd prog 209 [pt b1 0] [bx b1 232 (uC [vi y0.1, sv p1 y0.2.1 c1] 40 y0.2.2.1 [sv p2 y0.2.2.2.1 c2, vb y0.2.2.2.2]), r_1] [Rl (wJ (zO .i64)) p1 c1 y0.2.1, Al (wJ (zO .i64)) 22 r_1 p2 c2 y0.2.2.2.1] (zCx y0) fun r K=>∀ p3 c3 r_2,K (.tuple #[]) [bx b1 232 (uC [vi y0.1, sv p1 y0.2.1 c1] 40 r.1 [sv p3 r.2.1 c3, vb r.2.2]), r_2] [Al (wJ (zO .i64)) 22 r_2 p3 c3 r.2.1] := zP3 fun k => (zLL k)
theorem zL1 {qd : Prop} {y0 : vH} : qF qd prog 143 [.agg #[vi y0.1, sv p1 y0.2 c1]] [] [Rl yJ p1 c1 y0.2, Pt (uK 64 (zO .u8)) 4 0 xL] (zCC y0) fun r K=>∀ p2 c2,K (.tuple #[sv p2 r.1 c2, vi r.2]) [] [Rl (wJ (zO .i64)) p2 c2 r.1] :=
 qA call143 func143 u fun X=>zB<|qZ .s u<|fun b1=>zA 2 u<|zC<|zG<|zB<|qV 0 2 u u u<|qI zJG u (cq [0])<|fun r1 _ k=>k<|zA 1 u<|zC<|jA 2 u<|zK u (jA 3 u<|zJ<|qE<|wQ u (lT u (lT u lN)) (fun _ k=>k none 0) [] ⟨gn,⟨⟩⟩)<|
  jC<|zB<|zN 0 u<|zS 0 u u u<|zI (.agg (uC [vi y0.1, .slice none 0 0] 40 (List.replicate 40 (0 : Int)) [.slice none 0 0, vb false]).toArray)<|vT (wJ (zO .i64)) 22<|vT (wJ (zO .i64)) 22<|qZ .s u<|fun b2=>
  zA 1 u<|zC<|wK (fun s1 K=>∀ p2 c2 r_1,K [5] [(0, []), (1, r_1), (3, bx b2 232 (uC [vi y0.1, sv p2 s1.1 c2] 40 s1.2 [sv none ([] : List (List Int)) 0, vb false]))] [0,3] [] [Al (wJ (zO .i64)) 22 r_1 p2 c2 s1.1]) (zB<|
  zN 0 u<|zS 0 u u u<|zA 1 u<|zC<|zT<|
  qW (fun s2 K=>∀ p3 c3 r_2,K [1,5,17] [(1, r_2), (3, bx b2 232 (uC [vi y0.1, sv p3 s2.2.1 c3] 40 s2.2.2 [sv none ([] : List (List Int)) 0, vb false]))] [2,0,3] [(18, vi s2.1)] [Al (wJ (zO .i64)) 22 r_2 p3 c3 s2.2.1]) (gv (fun _ k=>k none 0 []) [0,1,2,3] (gq [1,2,0,3]))<|
  fun s2 _ k p3 c3 r_2=>k<|jA 1 u<|zG<|zK u (jC<|zG<|zT<|jA 2 u<|yD [12] [0, 3] 13<|zY 10 [0,1,2] u<|qT 3 1 u u<|wH 4 3 u u u u<|vQ 5 0 2 u u u u<|zY 6 [6] u<|qB 7<|
  zZ (.f u) [] [] zQG u u u (cq [1,3])<|fun r2 _ k p4 c4=>k<|zX<|qB 8<|vD (.f u) (e := wJ (zO .i64)) 22 [sv p4 r2 c4] ([r2] : List (List Int)) (rC (vL (gk 0)) rN)<|fun p5 c5=>zX<|qB 9<|
  wL (.f u) 1 2 u (gk 0) u u<|fun x1 r_3 p6 c6=>zX<|zY 2 [10] u<|qT 11 1 u u<|qB 12<|qJ (o := 1) (.f u) 3 u u u<|jdb [] [0, 3]<|qQ<|zP<|qL<|zA 3 u<|zN 2 u<|jiL 40 u u<|fun u1 h2=>
  jsL 14 .s 3 40 s2.2.2 [vi y0.1, sv p6 x1 c6] [sv none ([] : List (List Int)) 0, vb false] h2 u u u<|zU<|qG<|zP<|jB 2 u<|qH (gv (fun _ k=>k p6 c6 r_3) [0,1,2,3] (gq [0,4,5,6])))<|qS<|qP<|qU<|qR<|
  zL (gv (fun _ k=>k p3 c3 r_2) [900,1,2,3] (gq [0,2,3])))<|fun s1 _ k p2 c2 r_1=>k<|zB<|zA 1 u<|vF 1 0 u u<|zZ .s [3, 2] [] zNz u u u (cq [0,2])<|fun r3 _ k p7 c7 r_4=>k<|zC<|zG<|zB<|zA 2 u<|
  zN 43 u<|zS 3 u u u<|zC<|zK u (jA 2 u<|zJ<|qE<|wQ u (lT u (lT u lN)) (fun _ k=>k none 0) [] ⟨gn,⟨⟩⟩)<|jC<|zB<|zA 2 u<|zN 42 u<|zS 3 u u u<|zA 2 u<|zC<|zJ<|vF 2 0 u u<|
  wQ u (lT u (lT u lN)) (fun _ k=>k p7 c7) [] (gq [0])
theorem zKY {qd : Prop} {y0 : List Int} {y1 : List Int} : qF qd prog 213 [sv p1 y0 c1, sv p2 y1 c2] [] [Rl (zO .i64) p1 c1 y0, Rl (zO .i64) p2 c2 y1] (zCH y0 y1) fun r K=>∀ p3 c3,K (sv p3 r c3) [] [Rl (zO .i64) p3 c3 r] :=
 qA call213 func213 u fun X=>jA 1 u<|zB<|zA 1 u<|vT (zO .i64) 3<|zC<|zG<|jA 3 u<|zT<|
  qW (fun s1 K=>∀ p3 c3 r_1,K [0,8,9] [(0, r_1)] [1,2] [(5, sv p3 s1.1 c3), (10, vi s1.2)] [Al (zO .i64) 3 r_1 p3 c3 s1.1]) (gv (fun _ k=>k none 0 []) [0] (gq [0,1,2]))<|fun s1 _ k p3 c3 r_1=>k<|jA 1 u<|zG<|zK u (jC<|zG<|zT<|zB<|
  wC 2 u u u<|fun x1 b1 o1=>wA false oI (gk 0) u<|zA 1 u<|zC<|qL<|zA 3 u<|qI zCw u (cq [2])<|fun r1 _ k p4 c4=>k<|wL .s 0 2 u (gk 0) u u<|fun x2 r_2 p5 c5=>zA 1 u<|zU<|qG<|zP<|jB 2 u<|
  qH (gv (fun _ k=>k p5 c5 r_2) [0] (gq [0,4,5])))<|qS<|qP<|qU<|qR<|zP<|jA 2 u<|zJ<|vF 0 0 u u<|zQ u u (fun _ k=>k p3 c3) [] (gq [0])
theorem zNr {qd : Prop} {y0 : Int} {y1 : List Int} : yQ qd prog 270 [vi y0, pt b1 0] [bx b1 22 [sv p1 y1 c1]] [Rl (zO .i64) p1 c1 y1] (zCz y0 y1) fun L r K=>K (vb r) L [] :=
 qA call270 func270 u fun X=>jA 1 u<|zB<|zS 0 u u u<|zA 1 u<|qI zDk u (cq [0])<|fun r1 _ k=>k<|zA 2 u<|zC<|zJ<|zQ u u (fun _ k=>k) [0] ⟨⟩
theorem zFX {qd : Prop} {y0 : List Int} {y1 : List Int} : yQ qd prog 178 [sv p1 y0 c1, .func (.func 270) #[] #[pt b1 0]] [bx b1 22 [sv p2 y1 c2]] [Rl (zO .i64) p1 c1 y0, Rl (zO .i64) p2 c2 y1] (zAR y0 y1) fun L r K=>K (vi r) L [] :=
 qA call178 func178 u fun X=>jA 1 u<|zG<|jA 3 u<|zT<|qW (fun s1 K=>K [0,1,7] [] [0,1] [(8, vi s1)] []) (gv (fun _ k=>k) [0] (gq [0,1]))<|fun s1 _ k=>k<|jA 1 u<|zG<|zK u (jC<|zG<|zT<|jA 2 u<|zB<|zA 3 u<|wC 0 u u u<|fun x1 b2 o1=>
  wA false oI (gk 0) u<|zZ .s [0] [] zNr u u u (cq [2])<|fun r1 _ k=>k<|zC<|zK u (jA 2 u<|zJ<|qO<|qE<|wU<|qO<|qE<|zQ u u (fun _ k=>k) [0] ⟨⟩)<|wG<|qG<|zP<|jB 2 u<|
  qH (gv (fun _ k=>k) [0] (gq [1,2])))<|qS<|qP<|qU<|qR<|zP<|jA 1 u<|zJ<|zQ u u (fun _ k=>k) [0] ⟨⟩
theorem zE2 {qd : Prop} {y0 : List Int} {y1 : List Int} : yQ qd prog 116 [sv p1 y0 c1, .func (.func 270) #[] #[pt b1 0]] [bx b1 22 [sv p2 y1 c2]] [Rl (zO .i64) p1 c1 y0, Rl (zO .i64) p2 c2 y1] (zAC y0 y1) fun L r K=>K (vb r) L [] :=
 qA call116 func116 u fun X=>jA 1 u<|zB<|zA 2 u<|zZ .s [0] [] zFX u u u (cq [0,1])<|fun r1 _ k=>k<|zA 2 u<|zC<|zJ<|zQ u u (fun _ k=>k) [0] ⟨⟩
theorem zPF {qd : Prop} {y0 : List Int} {y1 : List Int} : qF qd prog 212 [sv p1 y0 c1, sv p2 y1 c2] [] [Rl (zO .i64) p1 c1 y0, Rl (zO .i64) p2 c2 y1] (zCc y0 y1) fun r K=>K (vb r) [] [] :=
 qA call212 func212 u fun X=>zB<|qZ .s u<|fun b1=>zA 1 u<|zC<|jjn (fun s1 K=>K [(4, vb s1)] [[]] []) (qL<|zA 2 u<|zS 0 u u u<|zA 3 u<|wM 10 u (zA 2 u<|zZ .s [0] [] zE2 u u u (cq [0,1])<|
  fun r1 _ k=>k<|zA 1 u<|zI (vb (!r1))<|zA 1 u<|zU<|zL (gv (fun _ k=>k) [900] ⟨⟩))<|zA 4 u<|zI (vb false)<|zA 1 u<|zU<|zL (gv (fun _ k=>k) [900] ⟨⟩))<|fun s1 _ k=>k<|zJ<|zQ u u (fun _ k=>k) [] ⟨⟩
theorem zLw {qd : Prop} {y0 : List Int} {y1 : List Int} : qF qd prog 211 [sv p1 y0 c1, sv p2 y1 c2] [] [Rl (zO .i64) p1 c1 y0, Rl (zO .i64) p2 c2 y1] (zBb y0 y1) fun r K=>K (vb r) [] [] :=
 qA call211 func211 u fun X=>jA 1 u<|zB<|zA 1 u<|vD .s (e := zO .i64) 3 [vi 1] ([1] : List Int) (rC vI rN)<|fun p3 c3=>qI zKY u (cq [2,0])<|fun r1 _ k p4 c4=>k<|zA 1 u<|vD .s (e := zO .i64) 3 [vi 1] ([1] : List Int) (rC vI rN)<|
  fun p5 c5=>qI zKY u (cq [3,0])<|fun r2 _ k p6 c6=>k<|qI zPF u (cq [2,0])<|fun r3 _ k=>k<|zA 1 u<|zC<|zJ<|zQ u u (fun _ k=>k) [] ⟨⟩
theorem zFp {qd : Prop} {y0 : List Int} {y2 : List Int} : yQ qd prog 269 [sv p1 y0 c1, pt b1 0, pt b2 0] [bx b1 234 [.func (.func 211) #[] #[]], bx b2 22 [sv p2 y2 c2]] [Rl (zO .i64) p1 c1 y0, Rl (zO .i64) p2 c2 y2] (zAW y0 y2) fun L r K=>K (vb r) L [] :=
 qA call269 func269 u fun X=>jA 1 u<|zB<|zS 0 u u u<|zA 1 u<|zS 1 u u u<|zZ .s [] [] zLw u u u (cq [0,1])<|fun r1 _ k=>k<|zA 1 u<|zC<|zJ<|zQ u u (fun _ k=>k) [0,1] ⟨⟩
theorem zGF {qd : Prop} {y0 : List (List Int)} {y2 : List Int} : yQ qd prog 275 [sv p1 y0 c1, .func (.func 269) #[] #[pt b1 0, pt b2 0]] [bx b1 234 [.func (.func 211) #[] #[]], bx b2 22 [sv p2 y2 c2]] [Rl (wJ (zO .i64)) p1 c1 y0, Rl (zO .i64) p2 c2 y2] (zAY y0 y2) fun L r K=>K (vi r) L [] :=
 qA call275 func275 u fun X=>jA 1 u<|zG<|jA 3 u<|zT<|qW (fun s1 K=>K [0,1,7] [] [0,1] [(8, vi s1)] []) (gv (fun _ k=>k) [0,1] (gq [0,1]))<|fun s1 _ k=>k<|jA 1 u<|zG<|zK u (jC<|zG<|zT<|jA 2 u<|zB<|zA 3 u<|wC 0 u u u<|fun x1 b3 o1=>
  wA false oL (gk 0) u<|fun p3 c3=>zZ .s [0, 1] [] zFp u u u (cq [0,3])<|fun r1 _ k=>k<|zC<|zK u (jA 2 u<|zJ<|qO<|qE<|wU<|qO<|qE<|zQ u u (fun _ k=>k) [0,1] ⟨⟩)<|wG<|qG<|zP<|
  jB 2 u<|qH (gv (fun _ k=>k) [0,1] (gq [2,3])))<|qS<|qP<|qU<|qR<|zP<|jA 1 u<|zJ<|zQ u u (fun _ k=>k) [0,1] ⟨⟩
theorem zFU {qd : Prop} {y0 : List (List Int)} {y2 : List Int} : yQ qd prog 218 [sv p1 y0 c1, .func (.func 269) #[] #[pt b1 0, pt b2 0]] [bx b1 234 [.func (.func 211) #[] #[]], bx b2 22 [sv p2 y2 c2]] [Rl (wJ (zO .i64)) p1 c1 y0, Rl (zO .i64) p2 c2 y2] (zAD y0 y2) fun L r K=>K (vb r) L [] :=
 qA call218 func218 u fun X=>jA 1 u<|zB<|zA 2 u<|zZ .s [0, 1] [] zGF u u u (cq [0,1])<|fun r1 _ k=>k<|zA 2 u<|zC<|zJ<|zQ u u (fun _ k=>k) [0,1] ⟨⟩
theorem zGX {qd : Prop} {y0 : vH} : qF qd prog 210 [.agg #[vi y0.1, sv p1 y0.2 c1], .func (.func 211) #[] #[]] [] [Rl yJ p1 c1 y0.2, Pt (uK 64 (zO .u8)) 4 0 xL] (zAK y0) fun r K=>∀ p2 c2,K (.tuple #[sv p2 r.1 c2, vi r.2]) [] [Rl (wJ (zO .i64)) p2 c2 r.1] :=
 qA call210 func210 u fun X=>zB<|qZ .s u<|fun b1=>qZ .s u<|fun b2=>zA 2 u<|zC<|zB<|qV 0 2 u u u<|qI zL1 u (cq [0,1])<|fun r1 _ k p2 c2=>k<|zA 5 u<|zC<|zG<|jA 2 u<|zK u (jA 3 u<|zJ<|qE<|
  wQ u (lT u (lT u lN)) (fun _ k=>k none 0) [] ⟨gn,⟨⟩⟩)<|jC<|zB<|zA 1 u<|vT (wJ (zO .i64)) 22<|zC<|zG<|jA 3 u<|zT<|
  qW (fun s1 K=>∀ p3 c3 r_1,K [3,6,19,20] [(0, []), (2, r_1)] [1,3] [(8, sv p3 s1.1 c3), (21, vi s1.2)] [Al (wJ (zO .i64)) 22 r_1 p3 c3 s1.1]) (gv (fun _ k=>k none 0 []) [900,1,2] (gq [0,1,3]))<|fun s1 _ k p3 c3 r_1=>k<|jA 1 u<|
  zG<|zK u (jC<|zG<|zT<|zB<|wC 1 u u u<|fun x1 b3 o1=>wA false oL (gk 0) u<|fun p4 c4=>wN .s (.slice none 0 0)<|fun b4=>qJ .s 3 u u u<|zC<|zB<|zA 2 u<|
  zZ .s [1, 3] [] zFU u u u (cq [3,0])<|fun r2 _ k=>k<|zA 1 u<|zC<|zK u (qL<|zA 1 u<|zS 3 u u u<|
  vD .s (e := wJ (zO .i64)) 22 [sv p4 x1 c4] ([x1] : List (List Int)) (rC (vL (gk 0)) rN)<|fun p5 c5=>wL .s 2 3 u (gk 0) u u<|fun x2 r_2 p6 c6=>zA 1 u<|zU<|qG<|zP<|jB 2 u<|
  qH (gv (fun _ k=>k p6 c6 r_2) [900,1,2] (gq [0,5,6])))<|wG<|qG<|zP<|jB 2 u<|qH (gv (fun _ k=>k p3 c3 r_1) [900,1,2] (gq [2,3,4])))<|qS<|qP<|qU<|qR<|zP<|jA 3 u<|zJ<|vF 2 0 u u<|
  wQ u (lT u (lT u lN)) (fun _ k=>k p3 c3) [] (gq [0])
theorem zNE {qd : Prop} {y0 : vH} : qF qd prog 144 [.agg #[vi y0.1, sv p1 y0.2 c1]] [] [Rl yJ p1 c1 y0.2, Pt (uK 64 (zO .u8)) 4 0 xL] (zB8 y0) fun r K=>∀ p2 c2,K (.tuple #[sv p2 r.1 c2, vi r.2]) [] [Rl (wJ (zO .i64)) p2 c2 r.1] :=
 qA call144 func144 u fun X=>zB<|qZ .s u<|fun b1=>zA 2 u<|zC<|zB<|qV 0 2 u u u<|qI zGX u (cq [0,1])<|fun r1 _ k p2 c2=>k<|zA 4 u<|zC<|zJ<|wQ u (lT u (lT u lN)) (fun _ k=>k p2 c2) [] (gq [0])
theorem zGu {qd : Prop} {y0 : vH} : yQ qd prog 207 [.agg #[vi y0.1, sv p1 y0.2 c1], pt b1 0] [bx b1 144 [.func (.func 144) #[] #[]]] [Rl yJ p1 c1 y0.2, Pt (uK 64 (zO .u8)) 4 0 xL] (zAG y0) fun L r K=>∀ p2 c2,K (.tuple #[sv p2 r.1 c2, vi r.2]) L [Rl (wJ (zO .i64)) p2 c2 r.1] :=
 qA call207 func207 u fun X=>zB<|qZ .s u<|fun b2=>zA 2 u<|zC<|zB<|zS 0 u u u<|qV 1 2 u u u<|zZ .s [] [] zNE u u u (cq [0,1])<|fun r1 _ k p2 c2=>k<|zA 5 u<|zC<|zG<|jA 2 u<|zK u (jA 3 u<|zJ<|qE<|
  wQ u (lT u (lT u lN)) (fun _ k=>k none 0) [0] ⟨gn,⟨⟩⟩)<|jC<|zB<|zA 1 u<|vT (wJ (zO .i64)) 22<|zC<|zG<|jA 3 u<|zT<|
  qW (fun s1 K=>∀ p3 c3 r_1,K [19,20] [(1, []), (2, r_1)] [1,3] [(7, sv p3 s1.1 c3), (21, vi s1.2)] [Al (wJ (zO .i64)) 22 r_1 p3 c3 s1.1]) (gv (fun _ k=>k none 0 []) [0,901,2] (gq [0,1,3]))<|fun s1 _ k p3 c3 r_1=>k<|jA 1 u<|zG<|
  zK u (jC<|zG<|zT<|zB<|wC 1 u u u<|fun x1 b3 o1=>wA false oL (gk 0) u<|fun p4 c4=>zA 1 u<|zC<|qL<|zA 2 u<|qI zCw u (cq [0])<|fun r2 _ k p5 c5=>k<|
  vD .s (e := wJ (zO .i64)) 22 [sv p5 r2 c5] ([r2] : List (List Int)) (rC (vL (gk 0)) rN)<|fun p6 c6=>wL .s 2 4 u (gk 0) u u<|fun x2 r_2 p7 c7=>zA 1 u<|zU<|qG<|zP<|jB 2 u<|
  qH (gv (fun _ k=>k p7 c7 r_2) [0,901,2] (gq [0,6,7])))<|qS<|qP<|qU<|qR<|zP<|jA 3 u<|zJ<|vF 2 0 u u<|wQ u (lT u (lT u lN)) (fun _ k=>k p3 c3) [0] (gq [0])
theorem zGn {qd : Prop} {y0 : vH} : yQ qd prog 207 [.agg #[vi y0.1, sv p1 y0.2 c1], pt b1 0] [bx b1 144 [.func (.func 146) #[] #[]]] [Rl yJ p1 c1 y0.2] (zDB y0) fun L r K=>∀ p2 c2,K (.tuple #[sv p2 r.1 c2, vi r.2]) L [Rl (wJ (zO .i64)) p2 c2 r.1] :=
 qA call207 func207 u fun X=>zB<|qZ .s u<|fun b2=>zA 2 u<|zC<|zB<|zS 0 u u u<|qV 1 2 u u u<|jno
theorem zHw {qd : Prop} {y0 : vH} : yQ qd prog 207 [.agg #[vi y0.1, sv p1 y0.2 c1], pt b1 0] [bx b1 144 [.func (.func 145) #[] #[]]] [Rl yJ p1 c1 y0.2] (zDq y0) fun L r K=>∀ p2 c2,K (.tuple #[sv p2 r.1 c2, vi r.2]) L [Rl (wJ (zO .i64)) p2 c2 r.1] :=
 qA call207 func207 u fun X=>zB<|qZ .s u<|fun b2=>zA 2 u<|zC<|zB<|zS 0 u u u<|qV 1 2 u u u<|jno
theorem zIK {qd : Prop} {y0 : vH} : yQ qd prog 207 [.agg #[vi y0.1, sv p1 y0.2 c1], pt b1 0] [bx b1 144 [.func (.func 143) #[] #[]]] [Rl yJ p1 c1 y0.2, Pt (uK 64 (zO .u8)) 4 0 xL] (zBX y0) fun L r K=>∀ p2 c2,K (.tuple #[sv p2 r.1 c2, vi r.2]) L [Rl (wJ (zO .i64)) p2 c2 r.1] :=
 qA call207 func207 u fun X=>zB<|qZ .s u<|fun b2=>zA 2 u<|zC<|zB<|zS 0 u u u<|qV 1 2 u u u<|zZ .s [] [] zL1 u u u (cq [0,1])<|fun r1 _ k p2 c2=>k<|zA 5 u<|zC<|zG<|jA 2 u<|zK u (jA 3 u<|zJ<|qE<|
  wQ u (lT u (lT u lN)) (fun _ k=>k none 0) [0] ⟨gn,⟨⟩⟩)<|jC<|zB<|zA 1 u<|vT (wJ (zO .i64)) 22<|zC<|zG<|jA 3 u<|zT<|
  qW (fun s1 K=>∀ p3 c3 r_1,K [19,20] [(1, []), (2, r_1)] [1,3] [(7, sv p3 s1.1 c3), (21, vi s1.2)] [Al (wJ (zO .i64)) 22 r_1 p3 c3 s1.1]) (gv (fun _ k=>k none 0 []) [0,901,2] (gq [0,1,3]))<|fun s1 _ k p3 c3 r_1=>k<|jA 1 u<|zG<|
  zK u (jC<|zG<|zT<|zB<|wC 1 u u u<|fun x1 b3 o1=>wA false oL (gk 0) u<|fun p4 c4=>zA 1 u<|zC<|qL<|zA 2 u<|qI zCw u (cq [0])<|fun r2 _ k p5 c5=>k<|
  vD .s (e := wJ (zO .i64)) 22 [sv p5 r2 c5] ([r2] : List (List Int)) (rC (vL (gk 0)) rN)<|fun p6 c6=>wL .s 2 4 u (gk 0) u u<|fun x2 r_2 p7 c7=>zA 1 u<|zU<|qG<|zP<|jB 2 u<|
  qH (gv (fun _ k=>k p7 c7 r_2) [0,901,2] (gq [0,6,7])))<|qS<|qP<|qU<|qR<|zP<|jA 3 u<|zJ<|vF 2 0 u u<|wQ u (lT u (lT u lN)) (fun _ k=>k p3 c3) [0] (gq [0])
theorem zOd {qd : Prop} {y0 : vH} {y1 : Int} : qF qd prog 34 [.agg #[vi y0.1, sv p1 y0.2 c1], vi y1] [] [Rl yJ p1 c1 y0.2, Pt (uK 64 (zO .u8)) 4 0 xL] (zBG y0 y1) fun r K=>∀ p2 c2,K (.tuple #[sv p2 r.1 c2, vi r.2]) [] [Rl (wJ (zO .i64)) p2 c2 r.1] :=
 qA call34 func34 u fun X=>zB<|qZ .s u<|fun b1=>zA 2 u<|zC<|zG<|zB<|qV 0 2 u u u<|qI zJG u (cq [0])<|fun r1 _ k=>k<|zA 1 u<|zC<|jA 2 u<|zK u (jA 3 u<|zJ<|qE<|wQ u (lT u (lT u lN)) (fun _ k=>k none 0) [] ⟨gn,⟨⟩⟩)<|
  jC<|zB<|qI zQ3 u ⟨⟩<|fun r2 _ k b2 b3 b4 b5 b6 b7 b8 b9 b10 b11 b12=>k<|zA 1 u<|zC<|zG<|tN (fun K=>K [1,2,7] [] [0,1] [(21, vb ((decide (y1 < 1)) || (decide (((10 : Nat) : Int) ≤ y1))))] []) (qL<|zA 3 u<|
  yY (b := decide (y1 < 1)) 16 u (fun hb1=>zA 4 u<|zI (vb true)<|zU<|wW 21 (vb ((decide (y1 < 1)) || (decide (((10 : Nat) : Int) ≤ y1)))) u (by rw [hb1]; rfl)<|zL (gv (fun _ k=>k) [0,1,2,3,4,5,6,7,8,9,10,11] (gq [0,1]))
  )<|fun hb1=>zA 4 u<|zI (vb (decide (((10 : Nat) : Int) ≤ y1)))<|zU<|wW 21 (vb ((decide (y1 < 1)) || (decide (((10 : Nat) : Int) ≤ y1)))) u (by rw [hb1]; rfl)<|zL (gv (fun _ k=>k) [0,1,2,3,4,5,6,7,8,9,10,11] (gq [0,1])))<|fun _ k=>
  k<|zK u (jA 2 u<|zJ<|qE<|wQ u (lT u (lT u lN)) (fun _ k=>k none 0) [] ⟨gn,⟨⟩⟩)<|jC<|
  jjn (fun s1 K=>∀ p2 c2,K [(4, sv p2 s1.1 c2), (5, vi s1.2)] [[], [], [], [], [], [], [], [], [], [], [], []] [Rl (wJ (zO .i64)) p2 c2 s1.1, Pt (uK 64 (zO .u8)) 4 0 xL]) (uT [] [0, 1] 10<|zY 8 [0,1] u<|
  z0y (c := 1) (fun hb2=>wW 23 (vi 1) u (by rw [hb2])<|tC (v := pt b2 1) 2 u (fun h=>zPC h u u (by decide) (by kernel_rfl) u)<|wH 3 1 u u u u<|vQ 4 0 2 u u u u<|qB 5<|
  zZ (.f u) [2, 3] [] zII u u u (cq [0,1])<|fun r3 _ k p3 c3=>k<|zX<|zY 0 [6,7,8,9] u<|qQ<|zL (gv (fun _ k=>k p3 c3) [900,901,902,903,904,905,906,907,908,909,910,911] (gq [0,2])))<|
  z0y (c := 2) (fun hb3=>wW 23 (vi 2) u (by rw [hb3])<|tC (v := pt b2 2) 2 u (fun h=>zPC h u u (by decide) (by kernel_rfl) u)<|wH 3 1 u u u u<|vQ 4 0 2 u u u u<|qB 5<|
  zZ (.f u) [4] [] zIK u u u (cq [0,1])<|fun r4 _ k p4 c4=>k<|zX<|zY 0 [6,7,8,9] u<|qQ<|zL (gv (fun _ k=>k p4 c4) [900,901,902,903,904,905,906,907,908,909,910,911] (gq [0,2])))<|
  z0y (c := 3) (fun hb4=>wW 23 (vi 3) u (by rw [hb4])<|tC (v := pt b2 3) 2 u (fun h=>zPC h u u (by decide) (by kernel_rfl) u)<|wH 3 1 u u u u<|vQ 4 0 2 u u u u<|qB 5<|
  zZ (.f u) [5] [] zGu u u u (cq [0,1])<|fun r5 _ k p5 c5=>k<|zX<|zY 0 [6,7,8,9] u<|qQ<|zL (gv (fun _ k=>k p5 c5) [900,901,902,903,904,905,906,907,908,909,910,911] (gq [0,2])))<|
  z0y (c := 4) (fun hb5=>wW 23 (vi 4) u (by rw [hb5])<|tC (v := pt b2 4) 2 u (fun h=>zPC h u u (by decide) (by kernel_rfl) u)<|wH 3 1 u u u u<|vQ 4 0 2 u u u u<|qB 5<|
  zZ (.f u) [6] [] zHw u u u (cq [0])<|fun r6 _ k p6 c6=>k<|zX<|zY 0 [6,7,8,9] u<|qQ<|zL (gv (fun _ k=>k p6 c6) [900,901,902,903,904,905,906,907,908,909,910,911] (gq [0,2])))<|
  z0y (c := 5) (fun hb6=>wW 23 (vi 5) u (by rw [hb6])<|tC (v := pt b2 5) 2 u (fun h=>zPC h u u (by decide) (by kernel_rfl) u)<|wH 3 1 u u u u<|vQ 4 0 2 u u u u<|qB 5<|
  zZ (.f u) [7] [] zGn u u u (cq [0])<|fun r7 _ k p7 c7=>k<|zX<|zY 0 [6,7,8,9] u<|qQ<|zL (gv (fun _ k=>k p7 c7) [900,901,902,903,904,905,906,907,908,909,910,911] (gq [0,2])))<|
  z0y (c := 6) (fun hb7=>wW 23 (vi 6) u (by rw [hb7])<|tC (v := pt b2 6) 2 u (fun h=>zPC h u u (by decide) (by kernel_rfl) u)<|wH 3 1 u u u u<|vQ 4 0 2 u u u u<|qB 5<|
  zZ (.f u) [8, 9] [] zH7 u u u (cq [0])<|fun r8 _ k p8 c8=>k<|zX<|zY 0 [6,7,8,9] u<|qQ<|zL (gv (fun _ k=>k p8 c8) [900,901,902,903,904,905,906,907,908,909,910,911] (gq [0,2])))<|
  z0y (c := 7) (fun hb8=>wW 23 (vi 7) u (by rw [hb8])<|tC (v := pt b2 7) 2 u (fun h=>zPC h u u (by decide) (by kernel_rfl) u)<|wH 3 1 u u u u<|vQ 4 0 2 u u u u<|qB 5<|
  zZ (.f u) [10, 11] [] zH8 u u u (cq [0])<|fun r9 _ k p9 c9=>k<|zX<|zY 0 [6,7,8,9] u<|qQ<|zL (gv (fun _ k=>k p9 c9) [900,901,902,903,904,905,906,907,908,909,910,911] (gq [0,2])))<|
  z0y (c := 8) (fun hb9=>wW 23 (vi 8) u (by rw [hb9])<|tC (v := pt b2 8) 2 u (fun h=>zPC h u u (by decide) (by kernel_rfl) u)<|wH 3 1 u u u u<|vQ 4 0 2 u u u u<|jno)<|z0y (c := 9) (fun hb10=>
  wW 23 (vi 9) u (by rw [hb10])<|tC (v := pt b2 9) 2 u (fun h=>zPC h u u (by decide) (by kernel_rfl) u)<|wH 3 1 u u u u<|vQ 4 0 2 u u u u<|jno)<|jno)<|fun s1 _ k p2 c2=>k<|zJ<|
  wQ u (lT u (lT u lN)) (fun _ k=>k p2 c2) [] (gq [0])
theorem zJY {qd : Prop} {y0 : zFh} {y1 : Int} : qF qd prog 11 [.agg #[sv p1 y0.1.1 c1, sv p2 y0.1.2.1 c2, sv p3 y0.1.2.2 c3, sv p4 y0.2.1 c4, sv p5 y0.2.2.1 c5, vi y0.2.2.2.1, sv p6 y0.2.2.2.2 c6], vi y1] [] [Rl wP p1 c1 y0.1.1, Rl wF p2 c2 y0.1.2.1, Rl wO p3 c3 y0.1.2.2, Rl wS p4 c4 y0.2.1, Rl tQ p5 c5 y0.2.2.1, Rl yJ p6 c6 y0.2.2.2.2, Pt (uK 64 (zO .u8)) 4 0 xL] (zAt y0 y1) fun r K=>∀ p7 c7,K (.tuple #[sv p7 r.1 c7, vi r.2]) [] [Rl (wJ wI) p7 c7 r.1] :=
 qA call11 func11 u fun X=>zB<|qZ .s u<|fun b1=>zA 2 u<|zC<|zB<|zN 5 u<|qV 0 2 u u u<|zA 1 u<|qI zOd u (cq [5,6])<|fun r1 _ k p7 c7=>k<|zA 5 u<|zC<|zG<|jA 2 u<|zK u (jA 3 u<|zJ<|qE<|
  wQ u (lT u (lT u lN)) (fun _ k=>k none 0) [] ⟨gn,⟨⟩⟩)<|jC<|zB<|zA 1 u<|vT (wJ wI) 51<|zC<|zG<|jA 3 u<|zT<|
  qW (fun s1 K=>∀ p8 c8 r_1,K [2,21,22] [(1, r_1)] [1,2,3,4,5,6,7,8] [(8, sv p8 s1.1 c8), (23, vi s1.2)] [Al (wJ wI) 51 r_1 p8 c8 s1.1]) (gv (fun _ k=>k none 0 []) [0,1] (gq [0,1,2,3,4,5,6,7,8]))<|fun s1 _ k p8 c8 r_1=>k<|
  jA 1 u<|zG<|zK u (jC<|zG<|zT<|zB<|wC 1 u u u<|fun x1 b2 o1=>wA false oL (gk 0) u<|fun p9 c9=>zA 1 u<|zC<|qL<|zA 1 u<|zN 3 u<|zS 0 u u u<|zA 1 u<|qI zIU u (cq [7,0])<|
  fun r2 _ k p10 c10=>k<|vD .s (e := wJ wI) 51 [sv p10 r2 c10] ([r2] : List (List zF)) (rC (vL (gk 0)) rN)<|fun p11 c11=>wL .s 1 4 u (gk 0) u u<|fun x2 r_2 p12 c12=>zA 1 u<|zU<|qG<|zP<|jB 2 u<|
  qH (gv (fun _ k=>k p12 c12 r_2) [0,1] (gq [0,6,7,8,9,10,11,12,13])))<|qS<|qP<|qU<|qR<|zP<|jA 3 u<|zJ<|vF 1 0 u u<|wQ u (lT u (lT u lN)) (fun _ k=>k p8 c8) [] (gq [0])
theorem zXZ {qd : Prop} {y0 : List Int} : qF qd prog 5 [sv p1 y0 c1] [] [Rl (zO .i64) p1 c1 y0] (zNa y0) fun r K=>∀ b1 p2 c2,K (pt b1 0) [bx b1 65 [sv p2 r.1 c2, vi r.2]] [Rl (zO .i64) p2 c2 r.1] :=
 qA call5 func5 u fun X=>jA 1 u<|zB<|zA 4 u<|jsl (gk 0) u u u (.inl ⟨rfl, rfl⟩) (.inr ⟨_, rfl⟩)<|fun x1 p2 c2=>zI (.agg #[sv p2 x1 c2, vi 0])<|qZ .s u<|fun b1=>zA 1 u<|zC<|zJ<|zQ u u (fun _ k=>k b1 p2 c2) [0] (gq [0])
theorem zMN {qd : Prop} : qF qd prog 9 [] [] [] (zJQ) fun r K=>∀ p1 c1,K (sv p1 r c1) [] [Rl zPh p1 c1 r] :=
 qA call9 func9 u fun X=>jA 1 u<|zB<|zI (.agg #[vi 1, vi 1])<|zI (.agg #[vi 1, vi 2])<|zI (.agg #[vi 2, vi 1])<|zI (.agg #[vi 2, vi 2])<|
  vD .s (e := zPh) 44 [vi 1, vi 1, vi 1, vi 2, vi 2, vi 1, vi 2, vi 2] ([(1, 1), (1, 2), (2, 1), (2, 2)] : List yH) (rC (vP vI vI) (rC (vP vI vI) (rC (vP vI vI) (rC (vP vI vI) rN))))<|fun p1 c1=>zA 1 u<|zC<|zJ<|
  zQ u u (fun _ k=>k p1 c1) [] (gq [0])
theorem zSc {qd : Prop} {y0 : Int} {y1 : Int} : qF qd prog 32 [vi y0, vi y1] [] [] (zJa y0 y1) fun r K=>K (vi r) [] [] :=
 qA call32 func32 u fun X=>jA 1 u<|zG<|jA 2 u<|zK u (jA 1 u<|zJ<|qE<|zQ u u (fun _ k=>k) [] ⟨⟩)<|jC<|zB<|zA 2 u<|yT fun x1 h1=>jv (fun h=>zZG h u u h1)<|zA 1 u<|zC<|zG<|jA 2 u<|zK u (jB 4 u<|zP<|jA 2 u<|zJ<|
  zQ u u (fun _ k=>k) [] ⟨⟩)<|jC<|jA 2 u<|zJ<|zQ u u (fun _ k=>k) [] ⟨⟩
theorem zSX {qd : Prop} {y0 : uQ} : qF qd prog 33 [pt b1 0] [bx b1 65 [sv p1 y0.1 c1, vi y0.2]] [Rl (zO .i64) p1 c1 y0.1] (zIc y0) fun r K=>K (vi r.1) [bx b1 65 [sv p1 y0.1 c1, vi r.2]] [] :=
 qA call33 func33 u fun X=>jA 1 u<|zG<|yD [] [0] 10<|zY 8 [0,1] u<|qT 2 1 u u<|wH 3 0 u u u u<|zY 4 [4,5] u<|qT 6 0 u u<|wH 7 0 u u u u<|zY 0 [8,9] u<|qQ<|zP<|zK u (jA 1 u<|zJ<|qE<|zQ u u (fun _ k=>k) [0] ⟨⟩)<|
  jC<|zB<|zA 2 u<|zN 1 u<|zS 0 u u u<|zA 2 u<|zN 1 u<|qJ .s 0 u u u<|zC<|yD [] [0] 12<|zY 10 [0,1] u<|qT 2 0 u u<|wH 3 0 u u u u<|zY 6 [4,5] u<|qT 6 1 u u<|wH 7 0 u u u u<|
  zY 3 [8] u<|yO 9 0 u u u u<|fun x1 b2 o1=>yK 10 false oI u (gk 0) u<|zY 0 [11] u<|qQ<|zP<|zJ<|zQ u u (fun _ k=>k) [0] ⟨⟩
theorem zAl {qd : Prop} {y0 : uQ} {y1 : Int} : qF qd prog 10 [pt b1 0, vi y1] [bx b1 65 [sv p1 y0.1 c1, vi y0.2]] [Rl (zO .i64) p1 c1 y0.1] (xN y0 y1) fun r K=>K (vi r.1) [bx b1 65 [sv p1 y0.1 c1, vi r.2]] [] :=
 qA call10 func10 u fun X=>jA 1 u<|zB<|zA 1 u<|zZ .s [0] [] zSX u u u (cq [0])<|fun r1 _ k=>k<|zA 1 u<|qI zSc u ⟨⟩<|fun r2 _ k=>k<|zA 1 u<|zC<|zJ<|zQ u u (fun _ k=>k) [0] ⟨⟩
theorem zMH {qd : Prop} {y0 : Int} : qF qd prog 93 [.slice none 0 0, vi y0] [] [] (zHz y0) fun r K=>∀ p1 c1 r_1,K (sv p1 r c1) [r_1] [Al wI 62 r_1 p1 c1 r] :=
 qA call93 func93 u fun X=>vT wI 62<|jA 1 u<|wK (fun s1 K=>K [0,1] [] [0] [] []) (jA 2 u<|zK u (qL<|jno)<|wG<|zL (gv (fun _ k=>k) [0] (gq [0])))<|fun s1 _ k=>k<|zG<|zB<|zA 2 u<|
  jv (v := vi ((0 : Nat) : Int)) (fun h=>r_cap h u underlying51)<|zA 5 u<|zC<|jA 2 u<|zK u (qL<|zA 2 u<|jv (v := vi ((0 : Nat) : Int)) (fun h=>r_cap h u underlying51)<|
  jv (v := .slice none 0 0) (fun h=>z2a (e := wI) h u u (by kernel_rfl))<|zA 1 u<|jaz .s (e := wI) (h2 := underlying3) 0 0 62 ((false, []) : zF) (.agg #[vb false, vs []]) u (vP vB vS) u u<|
  fun x1 r_1 p1 c1=>zA 2 u<|jsP 0 u u u<|fun x2=>zA 1 u<|zU<|zP<|jA 2 u<|zJ<|zQ u u (fun _ k=>k p1 c1 r_1) [0] (gq [0]))<|jC<|jA 2 u<|zJ<|zQ u u (fun _ k=>k none 0 []) [0] (gq [0])
theorem zLe {qd : Prop} {y0 : List (List zF)} : qF qd prog 41 [sv p1 y0 c1] [] [Rl (wJ wI) p1 c1 y0] (zDD y0) fun r K=>∀ p2 c2,K (sv p2 r c2) [] [Rl wI p2 c2 r] :=
 qA call41 func41 u fun X=>jA 1 u<|jA 1 u<|wK (fun s1 K=>K [0] [] [0] [(3, vi s1)] []) (jA 3 u<|zT<|qW (fun s2 K=>K [0,9,10] [] [0] [(3, vi s2.1), (11, vi s2.2)] []) (gv (fun _ k=>k) [] (gq [0]))<|fun s2 _ k=>k<|jA 1 u<|zG<|zK u (jC<|zG<|zT<|zB<|
  wC 0 u u u<|fun x1 b1 o1=>wA false oL (gk 0) u<|fun p2 c2=>zA 1 u<|zC<|jA 5 u<|jA 2 u<|zK u (qL<|jno)<|wG<|qG<|zP<|jB 2 u<|qH (gv (fun _ k=>k) [] (gq [2])))<|qS<|qP<|qU<|qR<|zL (gv (fun _ k=>k) [] (gq [0]))
  )<|fun s1 _ k=>k<|zB<|zA 1 u<|qI zMH u ⟨⟩<|fun r1 _ k p3 c3 r_1=>k<|zA 1 u<|zC<|zG<|jA 3 u<|zT<|
  qW (fun s3 K=>∀ p4 c4 r_2,K [25,26] [(0, r_2)] [1] [(6, sv p4 s3.1 c4), (27, vi s3.2)] [Al wI 62 r_2 p4 c4 s3.1]) (gv (fun _ k=>k p3 c3 r_1) [0] (gq [0,1]))<|fun s3 _ k p4 c4 r_2=>k<|jA 1 u<|zG<|zK u (jC<|zG<|zT<|zB<|
  wC 1 u u u<|fun x2 b2 o2=>wA false oL (gk 0) u<|fun p5 c5=>zA 1 u<|zC<|qL<|zA 2 u<|wL .s 0 2 u (gk 0) u u<|fun x3 r_3 p6 c6=>zA 1 u<|zU<|qG<|zP<|jB 2 u<|qH (gv (fun _ k=>k p6 c6 r_3) [0] (gq [0,4])))<|qS<|
  qP<|qU<|qR<|zP<|jA 2 u<|zJ<|vF 0 0 u u<|zQ u u (fun _ k=>k p4 c4) [] (gq [0])
theorem zNY {qd : Prop} {y0 : List zF} {y1 : zF} : yQ qd prog 45 [sv p1 y0 c1, pt b1 0] [bx b1 62 [vb y1.1, vs y1.2]] [Rl wI p1 c1 y0] (zDu y0 y1) fun L r K=>K (vb r) L [] :=
 qA call45 func45 u fun X=>jA 1 u<|zB<|zA 1 u<|qV 0 2 u u u<|qI zMG u (cq [0])<|fun r1 _ k=>k<|zA 2 u<|zC<|zJ<|zQ u u (fun _ k=>k) [0] ⟨⟩
theorem zED {qd : Prop} {y0 : List (List zF)} {y1 : zF} : yQ qd prog 95 [sv p1 y0 c1, .func (.func 45) #[] #[pt b1 0]] [bx b1 62 [vb y1.1, vs y1.2]] [Rl (wJ wI) p1 c1 y0] (zA0 y0 y1) fun L r K=>K (vi r) L [] :=
 qA call95 func95 u fun X=>jA 1 u<|zG<|jA 3 u<|zT<|qW (fun s1 K=>K [0,1,7] [] [0] [(8, vi s1)] []) (gv (fun _ k=>k) [0] (gq [0]))<|fun s1 _ k=>k<|jA 1 u<|zG<|zK u (jC<|zG<|zT<|jA 2 u<|zB<|zA 3 u<|wC 0 u u u<|fun x1 b2 o1=>
  wA false oL (gk 0) u<|fun p2 c2=>zZ .s [0] [] zNY u u u (cq [0])<|fun r1 _ k=>k<|zC<|zK u (jA 2 u<|zJ<|qO<|qE<|wU<|qO<|qE<|zQ u u (fun _ k=>k) [0] ⟨⟩)<|wG<|qG<|zP<|jB 2 u<|
  qH (gv (fun _ k=>k) [0] (gq [2])))<|qS<|qP<|qU<|qR<|zP<|jA 1 u<|zJ<|zQ u u (fun _ k=>k) [0] ⟨⟩
theorem zD1 {qd : Prop} {y0 : List (List zF)} {y1 : zF} : yQ qd prog 44 [sv p1 y0 c1, .func (.func 45) #[] #[pt b1 0]] [bx b1 62 [vb y1.1, vs y1.2]] [Rl (wJ wI) p1 c1 y0] (zAQ y0 y1) fun L r K=>K (vb r) L [] :=
 qA call44 func44 u fun X=>jA 1 u<|zB<|zA 2 u<|zZ .s [0] [] zED u u u (cq [0])<|fun r1 _ k=>k<|zA 2 u<|zC<|zJ<|zQ u u (fun _ k=>k) [0] ⟨⟩
theorem zKC {qd : Prop} {y0 : zF} {y1 : Bool} {y2 : List (List zF)} : yQ qd prog 43 [.agg #[vb y0.1, vs y0.2], pt b1 0, pt b2 0] [bx b1 4 [vb y1], bx b2 48 [sv p1 y2 c1]] [Rl (wJ wI) p1 c1 y2] (zDK y0 y1 y2) fun L r K=>K (vb r) L [] :=
 qA call43 func43 u fun X=>zB<|qZ .s u<|fun b3=>zA 1 u<|zC<|wK (fun s1 K=>K [] [(2, [])] [0] [(4, vb s1)] []) (qL<|zS 0 u u u<|zA 1 u<|wM 6 u (zS 1 u u u<|zA 1 u<|
  zZ .s [2] [] zD1 u u u (cq [0])<|fun r1 _ k=>k<|zI (vb r1)<|zA 1 u<|zU<|zL (gv (fun _ k=>k) [0,1,902] (gq [0])))<|zA 3 u<|zI (vb false)<|zA 1 u<|zU<|
  zL (gv (fun _ k=>k) [0,1,902] (gq [0])))<|fun s1 _ k=>k<|zJ<|zQ u u (fun _ k=>k) [0,1] ⟨⟩
theorem zE5 {qd : Prop} {y0 : List zF} {y1 : Bool} {y2 : List (List zF)} : yQ qd prog 94 [sv p1 y0 c1, .func (.func 43) #[] #[pt b1 0, pt b2 0]] [bx b1 4 [vb y1], bx b2 48 [sv p2 y2 c2]] [Rl wI p1 c1 y0, Rl (wJ wI) p2 c2 y2] (zA4 y0 y1 y2) fun L r K=>K (vi r) L [] :=
 qA call94 func94 u fun X=>jA 1 u<|zG<|jA 3 u<|zT<|qW (fun s1 K=>K [0,1,7] [] [0,1] [(8, vi s1)] []) (gv (fun _ k=>k) [0,1] (gq [0,1]))<|fun s1 _ k=>k<|jA 1 u<|zG<|zK u (jC<|zG<|zT<|jA 2 u<|zB<|zA 3 u<|wC 0 u u u<|fun x1 b3 o1=>
  wA true yI (gk 0) u<|zZ .s [0, 1] [] zKC u u u (cq [2])<|fun r1 _ k=>k<|zC<|zK u (jA 2 u<|zJ<|qO<|qE<|wU<|qO<|qE<|zQ u u (fun _ k=>k) [0,1] ⟨⟩)<|wG<|qG<|zP<|jB 2 u<|
  qH (gv (fun _ k=>k) [0,1] (gq [1,2])))<|qS<|qP<|qU<|qR<|zP<|jA 1 u<|zJ<|zQ u u (fun _ k=>k) [0,1] ⟨⟩
theorem zES {qd : Prop} {y0 : List zF} {y1 : Bool} {y2 : List (List zF)} : qF qd prog 42 [sv p1 y0 c1, .func (.func 43) #[] #[pt b1 0, pt b2 0]] [r_1, bx b1 4 [vb y1], bx b2 48 [sv p2 y2 c2]] [Al wI 62 r_1 p1 c1 y0, Rl (wJ wI) p2 c2 y2] (zA2 y0 y1 y2) fun r K=>∀ p3 c3,K (sv p3 r c3) [[], bx b1 4 [vb y1], bx b2 48 [sv p2 y2 c2]] [Rl wI p3 c3 r] :=
 qA call42 func42 u fun X=>jA 1 u<|zB<|zA 2 u<|zZ .s [1, 2] [0] zE5 u u u ⟨cl 0 0,ck 1,⟨⟩⟩<|fun r1 _ k=>k<|zA 1 u<|zC<|zG<|jA 2 u<|zK u (jA 2 u<|zJ<|qE<|vF 0 0 u u<|
  zQ u u (fun _ k=>k p1 c1) [900,1,2] (gq [0]))<|jC<|wK (fun s1 K=>∀ r_2,K [] [(0, r_2)] [1] [(0, .slice p1 (List.length y0) c1), (5, vi s1.2)] [Ar wI 62 r_2 p1 c1 (List.length y0) s1.1]) (jA 3 u<|zT<|
  qW (fun s2 K=>∀ r_3,K [1] [(0, r_3)] [1] [(0, .slice p1 (List.length y0) c1), (5, vi s2.2.1), (6, vi s2.2.2)] [Ar wI 62 r_3 p1 c1 (List.length y0) s2.1]) (gv (fun _ k=>k r_1) [0,1,2] (gq [0,1]))<|fun s2 _ k r_3=>k<|zG<|jA 4 u<|
  zK u (jC<|zG<|zT<|zB<|zA 2 u<|jia 0 u u u<|fun x1 h1 b3 hp1=>jlA 0 0 sI true yI u hp1 h1 u<|wN .s (.agg #[vb false, vs []])<|fun b4=>qJ .s 3 u u u<|zC<|zB<|zA 1 u<|qV 3 2 u u u<|
  zZ .s [1, 2] [] zKC u u u (cq [1])<|fun r2 _ k=>k<|zA 1 u<|zC<|zK u (zB<|zA 2 u<|qV 3 2 u u u<|jia 0 u u u<|fun x2 h2 b5 hp2=>jsA .s 0 0 sI x1 true u hp2 h2 u u (vP vB vS)<|fun r_4=>zC<|
  jB 3 u<|qG<|zP<|jB 3 u<|qH (gv (fun _ k=>k r_4) [0,1,2] (gq [0,2])))<|wG<|qG<|zP<|jB 3 u<|qH (gv (fun _ k=>k r_3) [0,1,2] (gq [0,1])))<|qS<|qP<|qU<|qR<|zL (gv (fun _ k=>k r_3) [0,1,2] (gq [0,1])))<|fun s1 _ k r_2=>k<|zB<|
  zA 2 u<|jsV 0 u u u<|fun u1 p3 c3 f1=>jcv .s 0 0 (false, []) (.agg #[vb false, vs []]) u f1 u (vP vB vS)<|fun r_5=>zC<|zB<|zA 2 u<|jsP 0 u u u<|fun x3=>zA 1 u<|zC<|zJ<|vF 0 0 u u<|
  zQ u u (fun _ k=>k p1 c1) [900,1,2] (gq [0])
theorem zPq {qd : Prop} {y0 : zFh} {y1 : Int} {y2 : Bool} : qF qd prog 17 [.agg #[sv p1 y0.1.1 c1, sv p2 y0.1.2.1 c2, sv p3 y0.1.2.2 c3, sv p4 y0.2.1 c4, sv p5 y0.2.2.1 c5, vi y0.2.2.2.1, sv p6 y0.2.2.2.2 c6], vi y1, vb y2] [] [Rl wP p1 c1 y0.1.1, Rl wF p2 c2 y0.1.2.1, Rl wO p3 c3 y0.1.2.2, Rl wS p4 c4 y0.2.1, Rl tQ p5 c5 y0.2.2.1, Rl yJ p6 c6 y0.2.2.2.2, Pt (uK 64 (zO .u8)) 4 0 xL] (zGf y0 y1 y2) fun r K=>∀ p7 c7,K (.tuple #[sv p7 r.1 c7, vi r.2]) [] [Rl wI p7 c7 r.1] :=
 qA call17 func17 u fun X=>zB<|qZ .s u<|fun b1=>qZ .s u<|fun b2=>zA 2 u<|zC<|zB<|qV 0 7 u u u<|zA 1 u<|qI zJY u (cq [0,1,2,3,4,5,6])<|fun r1 _ k p7 c7=>k<|zA 3 u<|wN .s (.slice none 0 0)<|fun b3=>qJ .s 2 u u u<|
  zA 1 u<|zC<|zG<|jA 2 u<|zK u (jA 3 u<|zJ<|qE<|wQ u (lT u (lT u lN)) (fun _ k=>k none 0) [] ⟨gn,⟨⟩⟩)<|jC<|zB<|zS 2 u u u<|qI zLe u (cq [0])<|fun r2 _ k p8 c8=>k<|
  qI zMO u (cq [0])<|fun r3 _ k p9 c9 r_1=>k<|zA 1 u<|zC<|zB<|zA 2 u<|zZ .s [3, 1, 2] [] zES u u u (cq [0,2])<|fun r4 _ k p10 c10=>k<|zA 2 u<|zC<|zJ<|
  wQ u (lT u (lT u lN)) (fun _ k=>k p10 c10) [] (gq [0])
theorem zJH {qd : Prop} {y0 : zM} {y1 : yH} : qF qd prog 23 [.agg #[sv p1 y0.1 c1, sv p2 y0.2.1 c2, sv p3 y0.2.2 c3], .agg #[vi y1.1, vi y1.2]] [] [Rl wP p1 c1 y0.1, Rl wF p2 c2 y0.2.1, Rl wO p3 c3 y0.2.2, Pt (uK 64 (zO .u8)) 4 0 xL] (zD8 y0 y1) fun r K=>∀ p4 c4,K (.tuple #[sv p4 r.1 c4, vb r.2]) [] [Rl wI p4 c4 r.1] :=
 qA call23 func23 u fun X=>zB<|qZ .s u<|fun b1=>qZ .s u<|fun b2=>zA 2 u<|zC<|zB<|qV 0 3 u u u<|qV 1 2 u u u<|qI zFc u (cq [0,1,2,3])<|fun r1 _ k p4 c4 p5 c5 p6 c6 p7 c7 p8 c8 p9 c9=>k<|zA 3 u<|
  wN .s (.agg #[.slice none 0 0, .slice none 0 0, .slice none 0 0, .slice none 0 0, .slice none 0 0, vi 0, .slice none 0 0])<|fun b3=>qJ .s 2 u u u<|zA 1 u<|zC<|zB<|qV 2 7 u u u<|
  qI zPq u (cq [0,1,2,3,4,5,9])<|fun r2 _ k p10 c10=>k<|zA 5 u<|zC<|wK (fun s1 K=>∀ p11 c11,K [] [(0, []), (1, []), (2, [])] [10] [(4, sv p11 s1.1 c11), (5, vb s1.2)] [Rl wI p11 c11 s1.1]) (qL<|zA 4 u<|
  wM 24 u (zA 2 u<|zI (vb (r2.2 == 0))<|zA 2 u<|zU<|zL (gv (fun _ k=>k p10 c10) [900,901,902] (gq [0,10])))<|zA 2 u<|zI (vb false)<|zA 2 u<|zU<|zL (gv (fun _ k=>k p10 c10) [900,901,902] (gq [0,10])))<|fun s1 _ k p11 c11=>
  k<|zJ<|wQ u (lT u (lT u lN)) (fun _ k=>k p11 c11) [] (gq [0])
theorem zHB {qd : Prop} {y0 : zF} : qF qd prog 246 [.agg #[vb y0.1, vs y0.2]] [] [] (zCv y0) fun r K=>K (vs r) [] [] :=
 qA call246 func246 u fun X=>zB<|qZ .s u<|fun b1=>zA 1 u<|zC<|zG<|zT<|zB<|qV 0 2 u u u<|qI zEi u ⟨⟩<|fun r1 _ k=>k<|zA 2 u<|zC<|zK u (jA 1 u<|zJ<|qO<|qE<|zQ u u (fun _ k=>k) [] ⟨⟩)<|zB<|zN 0 u<|zS 0 u u u<|
  zA 1 u<|zC<|zK u (zB<|zN 1 u<|zS 0 u u u<|yT fun x1 h1=>jv (fun h=>zPj h u u h1)<|zA 1 u<|zC<|zJ<|qO<|qE<|zQ u u (fun _ k=>k) [] ⟨⟩)<|wG<|qG<|zP<|zB<|zN 1 u<|zS 0 u u u<|zA 1 u<|zC<|
  zJ<|zQ u u (fun _ k=>k) [] ⟨⟩
theorem zJ1 {qd : Prop} {y0 : Int} {y1 : Int} : qF qd prog 340 [vi y0, vi y1] [] [Tb prog "internal/strconv.uint64pow10" .u64 Lib.pow10Tab] (zFw y0 y1) fun r K=>K (vs r) [] [] := zZQ Go.Proofs.Tryz.lays246 call340
theorem zLr {qd : Prop} {y0 : Int} : qF qd prog 300 [vi y0] [] [Tb prog "internal/strconv.uint64pow10" .u64 Lib.pow10Tab] (zHp y0) fun r K=>K (vs r) [] [] :=
 qA call300 func300 u fun X=>jA 1 u<|zB<|zA 1 u<|qI zJ1 u (cq [0])<|fun r1 _ k=>k<|zA 1 u<|zC<|zJ<|zQ u u (fun _ k=>k) [] ⟨⟩
theorem zKg {qd : Prop} {y0 : Int} : qF qd prog 247 [vi y0] [] [Tb prog "internal/strconv.uint64pow10" .u64 Lib.pow10Tab] (zIj y0) fun r K=>K (vs r) [] [] :=
 qA call247 func247 u fun X=>jA 1 u<|zB<|zA 1 u<|qI zLr u (cq [0])<|fun r1 _ k=>k<|zA 1 u<|zC<|zJ<|zQ u u (fun _ k=>k) [] ⟨⟩
theorem zOP {y0 : List qC} {y1 : qC} : qF False prog 248 [sv p1 y0 c1, vs y1] [] [Rl vM p1 c1 y0] (zKr y0 y1) fun r K=>K (vs r) [] [] := z1J Go.Proofs.Tryz.lays156 Go.Proofs.Tryz.Builder_Extra_156 call248
theorem zM2 {y0 : vO} : qF False prog 165 [.agg #[vb y0.1.1, vs y0.1.2, vi y0.2.1, vi y0.2.2.1, vs y0.2.2.2]] [] [Pt (uK 4 vM) 1 0 zAd, Tb prog "internal/strconv.uint64pow10" .u64 Lib.pow10Tab] (zDV y0) fun r K=>K (vs r) [] [] :=
 qA call165 func165 u fun X=>zB<|qZ .s u<|fun b1=>zA 1 u<|zC<|yD [] [0] 9<|qT 0 2 u u<|wH 1 0 u u u u<|jdgx 2 u (gk 0) u u<|fun x1=>yK 3 false oS u (gk 0) u<|qT 4 0 u u<|vQ 5 0 2 u u u u<|qB 6<|
  zZ (.f u) [] [] zHB u u u ⟨⟩<|fun r1 _ k=>k<|zX<|qB 7<|xE (.f u) (e := vM) 9 [vs x1, vs r1] ([x1, r1] : List qC) (rC vS (rC vS rN))<|fun r_1 p1 c1=>zX<|zY 0 [8] u<|qQ<|zP<|
  wK (fun s1 K=>∀ p2 c2 r_2,K [1] [(1, r_2)] [2,3] [(3, sv p2 s1 c2)] [Al vM 9 r_2 p2 c2 s1]) (zB<|zN 2 u<|zS 0 u u u<|zA 1 u<|zC<|zK u (qL<|zA 1 u<|zN 3 u<|zS 0 u u u<|qI zKg u (cq [3])<|
  fun r2 _ k=>k<|vD .s (e := vM) 9 [vs r2] ([r2] : List qC) (rC vS rN)<|fun p3 c3=>wL .s 1 1 u (gk 0) u u<|fun x2 r_3 p4 c4=>zA 1 u<|zU<|zL (gv (fun _ k=>k p4 c4 r_3) [0,1] (gq [0,4,5])))<|wG<|
  zL (gv (fun _ k=>k p1 c1 r_1) [0,1] (gq [0,2,3])))<|fun s1 _ k p2 c2 r_2=>k<|wK (fun s2 K=>∀ p5 c5 r_4,K [] [(0, []), (1, r_4)] [1,2] [(3, sv p5 s2 c5)] [Al vM 9 r_4 p5 c5 s2]) (zB<|zN 4 u<|zS 0 u u u<|zA 1 u<|zC<|
  zK u (qL<|zA 1 u<|zN 4 u<|zS 0 u u u<|vD .s (e := vM) 9 [vs [102, 114, 111, 109], vs y0.2.2.2] ([[102, 114, 111, 109], y0.2.2.2] : List qC) (rC vS (rC vS rN))<|fun p6 c6=>wL .s 1 1 u (gk 0) u u<|
  fun x3 r_5 p7 c7=>zA 1 u<|zU<|zL (gv (fun _ k=>k p7 c7 r_5) [900,1] (gq [0,3,4])))<|wG<|zL (gv (fun _ k=>k p2 c2 r_2) [900,1] (gq [0,1,2])))<|fun s2 _ k p5 c5 r_4=>k<|zB<|zA 1 u<|
  zZ .s [] [1] zOP u u u ⟨cl 1 0,⟨⟩⟩<|fun r3 _ k=>k<|zA 1 u<|zC<|zJ<|zQ u u (fun _ k=>k) [] ⟨⟩
theorem zLU {qd : Prop} {y0 : vN} : qF qd prog 169 [.agg #[vs y0.1, vi y0.2.1, vb y0.2.2.1, vs y0.2.2.2]] [] [Tb prog "internal/strconv.uint64pow10" .u64 Lib.pow10Tab] (zCk y0) fun r K=>K (vs r) [] [] :=
 qA call169 func169 u fun X=>zB<|qZ .s u<|fun b1=>zA 1 u<|zC<|yD [] [0] 14<|qT 0 0 u u<|wH 1 0 u u u u<|yT fun x1 h1=>tC 2 u (fun h=>zPj h u u h1)<|yT fun x2 h2=>tC 3 u (fun h=>zPj h u u h2)<|qT 4 1 u u<|
  wH 5 0 u u u u<|qT 9 2 u u<|vQ 10 0 2 u u u u<|qB 6<|zZ (.f u) [] [] zKg u u u (cq [0])<|fun r1 _ k=>k<|zX<|yT fun x3 h3=>tC 7 u (fun h=>zPj h u u h3)<|yT fun x4 h4=>
  tC 8 u (fun h=>zPj h u u h4)<|qB 11<|zZ (.f u) [] [] zHB u u u ⟨⟩<|fun r2 _ k=>k<|zX<|yT fun x5 h5=>tC 12 u (fun h=>zPj h u u h5)<|zY 0 [13] u<|qQ<|zP<|zJ<|zQ u u (fun _ k=>k) [] ⟨⟩
end Go.Proofs.YtjfjjkgaddknfaaGreatDoor
