/- A part. Conditions: none. -/
import Derived.Test.YtjfjjkgaddknfaaGreatDoorProg
import Derived.Test.YtjfjjkgaddknfaaGreatDoorOps5
import Derived.Test.YtjfjjkgaddknfaaGreatDoorModels
import Derived.Test.YtjfjjkgaddknfaaGreatDoorSort
import Derived.Test.YtjfjjkgaddknfaaGreatDoorSort2
import Derived.Test.YtjfjjkgaddknfaaGreatDoorShelfP
import Derived.Test.YtjfjjkgaddknfaaGreatDoorArrl
import Derived.Test.YtjfjjkgaddknfaaGreatDoorSb4
import Derived.Test.YtjfjjkgaddknfaaGreatDoorFsl
import Derived.Test.YtjfjjkgaddknfaaGreatDoorArrw
import Derived.Test.YtjfjjkgaddknfaaGreatDoorGro
namespace Go.Proofs.YtjfjjkgaddknfaaGreatDoor
open Go Go.GD Tryz
set_option autoImplicit false
set_option linter.unusedVariables false
set_option maxRecDepth 100000
variable {p1 p2 p3 p4 p5 p6 p7 p8 p9 : Option Addr} {c1 c2 c3 c4 c5 c6 c7 c8 c9 : Nat} {b1 b2 b3 b4 b5 b6 b7 b8 b9 b10 b11 : Nat} {r_1 r_2 r_3 r_4 r_5 r_6 : zY}
abbrev zZx : E uQ := vX (wB (zH .i64)) (zH .i64)
abbrev z5e : xW zZx := (oP oL oI)
abbrev zHl (y : uQ) (p1 : Option Addr) (c1 : Nat) : List Value := [sv p1 y.1 c1, vi y.2]
abbrev zHg (y : uQ) (p1 : Option Addr) (c1 : Nat) (t : List PP) : List PP := Rl (zH .i64) p1 c1 y.1 :: t
abbrev wX : E zO := vX zWC vO
abbrev yU : xW wX := (oP oB oS)
abbrev xL : E vU := vX wX (vX (zH .i64) (vX (zH .i64) vO))
abbrev zMt : xW xL := (oP yU (oP oI (oP oI oS)))
abbrev yQ : E wC := vX vO (vX zWC (vX (zH .i64) (vX (wB wX) wX)))
abbrev zQF : xW yQ := (oP oS (oP oB (oP oI (oP oL yU))))
abbrev zSe (y : wC) (p1 : Option Addr) (c1 : Nat) : List Value := [vs y.1, vb y.2.1, vi y.2.2.1, sv p1 y.2.2.2.1 c1, vb y.2.2.2.2.1, vs y.2.2.2.2.2]
abbrev zVU (y : wC) (p1 : Option Addr) (c1 : Nat) (t : List PP) : List PP := Rl wX p1 c1 y.2.2.2.1 :: t
abbrev uV : E vG := vX vO (vX (zH .i64) wX)
abbrev zNi : xW uV := (oP oS (oP oI yU))
abbrev z1P : E zT := vX (wB xL) (vX (wB yQ) (wB uV))
abbrev z4D : xW z1P := (oP oL (oP oL oL))
abbrev vJ (y : zT) (p1 : Option Addr) (c1 : Nat) (p2 : Option Addr) (c2 : Nat) (p3 : Option Addr) (c3 : Nat) : List Value := [sv p1 y.1 c1, sv p2 y.2.1 c2, sv p3 y.2.2 c3]
abbrev vR (y : zT) (p1 : Option Addr) (c1 : Nat) (p2 : Option Addr) (c2 : Nat) (p3 : Option Addr) (c3 : Nat) (t : List PP) : List PP := Rl xL p1 c1 y.1 :: Rl yQ p2 c2 y.2.1 :: Rl uV p3 c3 y.2.2 :: t
abbrev wS : E zK := vX (zH .i64) (vX (zH .i64) (vX (wB (zH .i64)) wX))
abbrev zVZ : xW wS := (oP oI (oP oI (oP oL yU)))
abbrev z0a (y : zK) (p1 : Option Addr) (c1 : Nat) : List Value := [vi y.1, vi y.2.1, sv p1 y.2.2.1 c1, vb y.2.2.2.1, vs y.2.2.2.2]
abbrev z07 (y : zK) (p1 : Option Addr) (c1 : Nat) (t : List PP) : List PP := Rl (zH .i64) p1 c1 y.2.2.1 :: t
abbrev uU : E wA := vX (zH .i64) (vX (zH .i64) (vX (zH .i64) (zH .i64)))
abbrev zTR : xW uU := (oP oI (oP oI (oP oI oI)))
abbrev vA : E qW := vX (zH .i64) (zH .i64)
abbrev zMr : xW vA := (oP oI oI)
abbrev z28 : E wH := vX (zH .i64) (wB vA)
abbrev z54 : xW z28 := (oP oI oL)
abbrev yM (y : wH) (p1 : Option Addr) (c1 : Nat) : List Value := [vi y.1, sv p1 y.2 c1]
abbrev f_Graph (y : wH) (p1 : Option Addr) (c1 : Nat) (t : List PP) : List PP := Rl vA p1 c1 y.2 :: t
abbrev z05 : E tZ := vX z1P (vX (wB wS) (vX (wB uU) z28))
abbrev z5c : xW z05 := (oP z4D (oP oL (oP oL z54)))
abbrev zNF (y : tZ) (p1 : Option Addr) (c1 : Nat) (p2 : Option Addr) (c2 : Nat) (p3 : Option Addr) (c3 : Nat) (p4 : Option Addr) (c4 : Nat) (p5 : Option Addr) (c5 : Nat) (p6 : Option Addr) (c6 : Nat) : List Value := [sv p1 y.1.1 c1, sv p2 y.1.2.1 c2, sv p3 y.1.2.2 c3, sv p4 y.2.1 c4, sv p5 y.2.2.1 c5, vi y.2.2.2.1, sv p6 y.2.2.2.2 c6]
abbrev zMx (y : tZ) (p1 : Option Addr) (c1 : Nat) (p2 : Option Addr) (c2 : Nat) (p3 : Option Addr) (c3 : Nat) (p4 : Option Addr) (c4 : Nat) (p5 : Option Addr) (c5 : Nat) (p6 : Option Addr) (c6 : Nat) (t : List PP) : List PP := Rl xL p1 c1 y.1.1 :: Rl yQ p2 c2 y.1.2.1 :: Rl uV p3 c3 y.1.2.2 :: Rl wS p4 c4 y.2.1 :: Rl uU p5 c5 y.2.2.1 :: Rl vA p6 c6 y.2.2.2.2 :: t
abbrev zRv : E yB := vX (zH .i64) (zH .i64)
abbrev z00 : xW zRv := (oP oI oI)
abbrev zSu : E zAP := vX (wB vO) zWC
abbrev z0j : xW zSu := (oP oL oB)
abbrev zC4 (y : zAP) (p1 : Option Addr) (c1 : Nat) : List Value := [sv p1 y.1 c1, vb y.2]
abbrev z0f (y : zAP) (p1 : Option Addr) (c1 : Nat) (t : List PP) : List PP := Rl vO p1 c1 y.1 :: t
abbrev zRe : E uT := vX z1P (vX (wB wS) (vX (wB wS) (zH .i64)))
abbrev zZY : xW zRe := (oP z4D (oP oL (oP oL oI)))
abbrev zGi (y : uT) (p1 : Option Addr) (c1 : Nat) (p2 : Option Addr) (c2 : Nat) (p3 : Option Addr) (c3 : Nat) (p4 : Option Addr) (c4 : Nat) (p5 : Option Addr) (c5 : Nat) : List Value := [sv p1 y.1.1 c1, sv p2 y.1.2.1 c2, sv p3 y.1.2.2 c3, sv p4 y.2.1 c4, sv p5 y.2.2.1 c5, vi y.2.2.2]
abbrev zGf (y : uT) (p1 : Option Addr) (c1 : Nat) (p2 : Option Addr) (c2 : Nat) (p3 : Option Addr) (c3 : Nat) (p4 : Option Addr) (c4 : Nat) (p5 : Option Addr) (c5 : Nat) (t : List PP) : List PP := Rl xL p1 c1 y.1.1 :: Rl yQ p2 c2 y.1.2.1 :: Rl uV p3 c3 y.1.2.2 :: Rl wS p4 c4 y.2.1 :: Rl wS p5 c5 y.2.2.1 :: t
theorem zJx {qd : Prop} {y0 : List zK} {y1 : Int} : qC qd prog 75 [sv p1 y0 c1, vi y1] [] [Rl wS p1 c1 y0] (zB0 y0 y1) fun r K=>K (vb r) [] [] :=
 zX call75 func75 u fun X=>jA 1 u<|jjp (fun K=>K [(4, vb ((decide (0 ≤ y1)) && (decide (y1 < (len y0)))))] [] []) (qK<|zA 3 u<|yA (b := decide (0 ≤ y1)) 7 u (fun hb1=>zA 4 u<|zF (vb (decide (y1 < (len y0))))<|zA 1 u<|zS<|
  wQ 4 (vb ((decide (0 ≤ y1)) && (decide (y1 < (len y0))))) u (by rw [hb1]; rfl)<|zL (gv kk [] d))<|fun hb1=>zA 4 u<|zF (vb false)<|zA 1 u<|zS<|
  wQ 4 (vb ((decide (0 ≤ y1)) && (decide (y1 < (len y0))))) u (by rw [hb1]; rfl)<|zL (gv kk [] d))<|fun _ k=>k<|zG<|zP u u kk [] d
theorem zJm {qd : Prop} {y0 : List zO} : qC qd prog 80 [sv p1 y0 c1] [] [Rl wX p1 c1 y0] (zCd y0) fun r K=>∀ p2 c2 r_1,K (sv p2 r c2) [r_1] [Al wX 62 r_1 p2 c2 r] :=
 zX call80 func80 u fun X=>jA 1 u<|zD<|zC<|zA 1 u<|jv (fun h=>z1u h u underlying51)<|zB<|jnl (m1 := some ([] : List zO)) u (gk 0) (fun h=>by first|(rw [h];done)|(rw [h];rfl)|(simp [h,wE];done)) (jA 1 u<|zG<|qA<|vE wX 62<|
  jrE 0 2 u u<|zP u u (fun _ k=>k none 0 []) [0] (gq [0]))<|jC<|zC<|xH .s (e := wX) 62 [] ([] : List zO) rN<|fun r_1 p2 c2=>zA 1 u<|wN .s 0 0 u (gk 1) u u<|fun x1 r_2 p3 c3=>zA 1 u<|zB<|zG<|
  zP u u (fun _ k=>k p3 c3 r_2) [0] (gq [0])
theorem zMy {qd : Prop} {y0 : List zO} : qC qd prog 92 [sv p1 y0 c1] [r_1] [Al wX 62 r_1 p1 c1 y0] (zBg y0) fun r K=>∀ p2 c2 r_2,K (sv p2 r c2) [[], r_2] [Al wX 62 r_2 p2 c2 r] :=
 zX call92 func92 u fun X=>jA 1 u<|zD<|jA 3 u<|zJ u (jA 2 u<|zG<|qA<|zP u u (fun _ k=>k p1 c1 r_1) [900,0] (gq [0]))<|jC<|zD<|jA 1 u<|zQ<|qT (fun s1 K=>K [0] [] [0] [(3, vi s1)] []) (gv kk [0] (gq [0]))<|fun s1 _ k=>k<|zD<|jA 4 u<|
  zJ u (jC<|zD<|zQ<|yC [] [0] 10<|zW 8 [0,1] u<|jdI 2 0 u u u u<|fun x1 h1 b1 hp1=>tJ 3 0 0 sI true yU u u hp1 h1 u<|zW 3 [4,5,6] u<|jdI 7 0 u u u u<|fun x2 h2 b2 hp2=>
  tJ 8 0 0 sI true yU u u hp2 h2 u<|wP 9 (vb (x1 == x2)) u<|qY<|zN<|zJ u (zC<|zA 2 u<|jsV 0 u u u<|fun u1 p2 c2 f1=>zA 1 u<|zB<|
  jjn (fun s2 K=>∀ r_2,K [(0, .slice p1 (List.length y0) c1), (3, vi s2.2)] [r_2] [Ar wX 62 r_2 p1 c1 (List.length y0) s2.1]) (jA 1 u<|zQ<|
  qT (fun s3 K=>∀ r_3,K [4] [(0, r_3)] [] [(0, .slice p1 (List.length y0) c1), (3, vi s3.2.1), (5, vi s3.2.2)] [Ar wX 62 r_3 p1 c1 (List.length y0) s3.1]) (gv (fun _ k=>k r_1) [0] (gq [0]))<|fun s3 _ k r_3=>k<|zD<|jA 4 u<|
  zJ u (jC<|zD<|zQ<|yC [] [0] 10<|zW 8 [0,1] u<|jdX 2 0 u u f1 u u<|fun x3 b3 hp3 h3=>tJ 3 0 0 sI true yU u u hp3 h3 u<|zW 3 [4,5,6] u<|jdX 7 0 u u f1 u u<|fun x4 b4 hp4 h4=>
  tJ 8 0 0 sI true yU u u hp4 h4 u<|wP 9 (vb (!(x3 == x4))) u<|qY<|zN<|zJ u (zC<|zA 4 u<|jiV 0 u f1 u u<|fun x5 b5 hp5 h5=>jlA 0 0 sI true yU u hp5 h5 u<|xE 0 u u u<|fun x6 h6 b6 hp6=>
  jsA .s 0 0 sI x5 true u hp6 h6 u u (vP vB vS)<|fun r_4=>zB<|jB 3 u<|qB<|zN<|jB 3 u<|qE (gv (fun _ k=>k r_4) [0] (gq [0])))<|wD<|qB<|zN<|jB 3 u<|qE (gv (fun _ k=>k r_3) [0] (gq [0])))<|qN<|qM<|qS<|qO<|
  zL (gv (fun _ k=>k r_3) [0] (gq [0])))<|fun s2 _ k r_2=>k<|zC<|zA 2 u<|jsV 0 u u u<|fun u2 p3 c3 f2=>jcv .s 0 0 (false, []) (.agg #[vb false, vs []]) u f2 u (vP vB vS)<|fun r_5=>zB<|zC<|zA 2 u<|jsP 0 u u u<|
  fun x7=>zA 1 u<|zB<|zG<|qV<|qA<|wT<|qV<|qA<|zP u u (fun _ k=>k p1 c1 r_5) [900,0] (gq [0]))<|wD<|qB<|zN<|jB 3 u<|qE (gv kk [0] (gq [0])))<|qN<|qM<|qS<|qO<|zN<|jA 2 u<|zG<|
  zP u u (fun _ k=>k p1 c1 r_1) [900,0] (gq [0])
theorem zMF {qd : Prop} {y0 : qI} : qC qd prog 239 [vs y0] [] [] (zEI y0) fun r K=>K (vb r) [] [] :=
 zX call239 func239 u fun X=>jA 1 u<|jA 4 u<|zG<|zP u u kk [] d
theorem zPy {qd : Prop} {y0 : qI} {y1 : qI} : qC qd prog 155 [vs y0, vs y1] [] [] (zE6 y0 y1) fun r K=>K (vi r) [] [] :=
 zX call155 func155 u fun X=>jA 1 u<|zC<|zA 1 u<|qF zMF u d<|fun r1 _ k=>k<|zA 1 u<|zB<|zC<|zA 1 u<|qF zMF u d<|fun r2 _ k=>k<|zA 1 u<|zB<|zD<|jA 1 u<|zJ u (zD<|jA 1 u<|zJ u (jA 1 u<|zG<|qA<|qA<|
  zP u u kk [] d)<|jC<|jA 1 u<|zG<|qA<|zP u u kk [] d)<|jC<|zD<|jA 1 u<|zJ u (jA 1 u<|zG<|qA<|zP u u kk [] d)<|jC<|zD<|jA 3 u<|zJ u (jA 1 u<|zG<|qA<|
  zP u u kk [] d)<|jC<|zD<|jA 3 u<|zJ u (jA 1 u<|zG<|qA<|zP u u kk [] d)<|jC<|jA 1 u<|zG<|zP u u kk [] d
theorem zMw {qd : Prop} {y0 : zO} {y1 : zO} : qC qd prog 91 [.agg #[vb y0.1, vs y0.2], .agg #[vb y1.1, vs y1.2]] [] [] (zBz y0 y1) fun r K=>K (vi r) [] [] :=
 zX call91 func91 u fun X=>zC<|qX .s u<|fun b1=>qX .s u<|fun b2=>zA 1 u<|zB<|zD<|zC<|zM 1 u<|zU 0 u u u<|zM 1 u<|zU 1 u u u<|qF zPy rfl d<|fun r1 _ k=>k<|zA 1 u<|zB<|
  xG (fun K=>K [3,5] [(0, [])] [] [(19, vb ((r1 != 0) || (y0.1 == y1.1)))] []) (qK<|zA 3 u<|yA (b := r1 != 0) 13 u (fun hb1=>zA 5 u<|zF (vb true)<|zS<|wQ 19 (vb ((r1 != 0) || (y0.1 == y1.1))) u (by rw [hb1]; rfl)<|
  zL (gv kk [900,1] d))<|fun hb1=>zM 0 u<|zU 0 u u u<|zM 0 u<|zU 1 u u u<|zF (vb (y0.1 == y1.1))<|zF (vb (y0.1 == y1.1))<|zS<|wQ 19 (vb ((r1 != 0) || (y0.1 == y1.1))) u (by rw [hb1]; rfl)<|
  zL (gv kk [900,1] d))<|fun _ k=>k<|zJ u (jA 2 u<|zG<|qA<|zP u u kk [] d)<|jC<|zD<|zC<|zM 0 u<|zU 1 u u u<|zB<|zJ u (jA 1 u<|zG<|qA<|zP u u kk [] d)<|jC<|jA 1 u<|zG<|
  zP u u kk [] d
theorem zGA {qd : Prop} {y0 : List zO} : qC qd prog 90 [sv p1 y0 c1, .func (.func 91) #[] #[]] [r_1] [Al wX 62 r_1 p1 c1 y0] (zAJ y0) fun r K=>∀ r_2,K (.tuple #[]) [r_2] [Ar wX 62 r_2 p1 c1 (List.length y0) r] := ⟨call90, fun A w0 r hm hO hF => by
 have h := zQv (qd := qd) Go.Proofs.Tryz.sort90 (uD.prod uD.bool uD.str) (te := 62) Tryz.isAgg62 Tryz.sizeOf62 zBz 91 (enters_of func91 (by kernel_rfl) u) (fun w x y n hn => ?_) hO hF.1.1 hm
 · change Calls prog 90 _ _ _ at h
   refine h.mono fun e w' h => ?_
   cases e with
   | returned v => obtain ⟨r', rfl, h1, h2, h3, h4⟩ := h; exact fun G k => k r' ⟨rfl, h1, h2, ⟨h3, h4.symm⟩, trivial⟩
   | panicked ch => exact h
   | outgrown => exact h
 · refine ((zMw (qd := True) (y0 := x) (y1 := y)).go [] w n hn (wG.start (by simp)) trivial).mono fun e w' h => ?_
   cases e with
   | returned v => exact h _ fun ⟨e1, q⟩ => ⟨e1, q.e⟩
   | panicked ch => exact h
   | outgrown => exact h⟩
theorem zOD {qd : Prop} {y0 : List zO} : qC qd prog 40 [sv p1 y0 c1] [] [Rl wX p1 c1 y0] (zDE y0) fun r K=>∀ p2 c2 r_1,K (sv p2 r c2) [r_1] [Al wX 62 r_1 p2 c2 r] :=
 zX call40 func40 u fun X=>jA 1 u<|zC<|zA 1 u<|qF zJm u (cq [0])<|fun r1 _ k p2 c2 r_1=>k<|zA 1 u<|zB<|zC<|zA 1 u<|zZ .s [0] [] zGA u u u (cq [0])<|fun r2 _ k r_2=>k<|zB<|zC<|
  zA 1 u<|jrE 0 8 u u<|zZ .s [0] [] zMy rfl u u (cq [0])<|fun r3 _ k p3 c3 r_3=>k<|zA 1 u<|zB<|zG<|zP u u (fun _ k=>k p3 c3 r_3) [1] (gq [0])
theorem zJu {qd : Prop} {y0 : List zK} {y1 : List Int} : qC qd prog 28 [sv p1 y0 c1, sv p2 y1 c2] [] [Rl wS p1 c1 y0, Rl (zH .i64) p2 c2 y1] (zBe y0 y1) fun r K=>∀ p3 c3,K (sv p3 r c3) [] [Rl wX p3 c3 r] :=
 zX call28 func28 u fun X=>jA 1 u<|zC<|zA 1 u<|vE wX 62<|zB<|jjn (fun s1 K=>∀ p3 c3 r_1,K [(5, sv p3 s1 c3)] [r_1] [Al wX 62 r_1 p3 c3 s1]) (jA 3 u<|zQ<|
  qT (fun s2 K=>∀ p4 c4 r_2,K [0,8,9] [(0, r_2)] [1,2] [(5, sv p4 s2.1 c4), (10, vi s2.2)] [Al wX 62 r_2 p4 c4 s2.1]) (gv (fun _ k=>k none 0 []) [0] (gq [0,1,2]))<|fun s2 _ k p4 c4 r_2=>k<|jA 1 u<|zD<|zJ u (jC<|zD<|zQ<|zC<|
  qQ 2 u u u<|fun x1 b1 o1=>qP false oI (gk 0) u<|zA 1 u<|zB<|zC<|zA 2 u<|qF zJx u (cq [2])<|fun r1 _ k=>k<|zB<|zJ u (qK<|zA 3 u<|qQ 2 u u u<|fun x2 b2 o2=>zM 3 u<|
  qP true yU (gs (gs (gs (gk 0)))) u<|wR .s (e := wX) 62 [vb x2.2.2.2.1, vs x2.2.2.2.2] ([x2.2.2.2] : List zO) (rC (vP vB vS) rN)<|fun p5 c5=>wN .s 0 3 u (gk 0) u u<|fun x3 r_3 p6 c6=>zA 1 u<|zS<|qB<|zN<|
  jB 2 u<|qE (gv (fun _ k=>k p6 c6 r_3) [0] (gq [0,5,6])))<|wD<|qB<|zN<|jB 2 u<|qE (gv (fun _ k=>k p4 c4 r_2) [0] (gq [1,2,3])))<|qN<|qM<|qS<|qO<|zL (gv (fun _ k=>k p4 c4 r_2) [0] (gq [0])))<|fun s1 _ k p3 c3 r_1=>k<|zC<|
  zA 1 u<|wW 0 0 u u<|qF zOD u (cq [0])<|fun r2 _ k p7 c7 r_4=>k<|zA 1 u<|zB<|zG<|wW 1 0 u u<|zP u u (fun _ k=>k p7 c7) [] (gq [0])
theorem zIr {qd : Prop} : qC qd prog 142 [.func (.func 144) #[] #[]] [] [] (zDg) fun r K=>∀ b1,K (.func (.func 207) #[] #[pt b1 0]) [bx b1 144 [.func (.func 144) #[] #[]]] [] :=
 zX call142 func142 u fun X=>zC<|qX .s u<|fun b1=>zA 1 u<|zB<|jA 2 u<|zG<|zP u u (fun _ k=>k b1) [0] d
theorem zI4 {qd : Prop} : qC qd prog 142 [.func (.func 146) #[] #[]] [] [] (zDX) fun r K=>∀ b1,K (.func (.func 207) #[] #[pt b1 0]) [bx b1 144 [.func (.func 146) #[] #[]]] [] :=
 zX call142 func142 u fun X=>zC<|qX .s u<|fun b1=>zA 1 u<|zB<|jA 2 u<|zG<|zP u u (fun _ k=>k b1) [0] d
theorem zJy {qd : Prop} : qC qd prog 142 [.func (.func 145) #[] #[]] [] [] (zEg) fun r K=>∀ b1,K (.func (.func 207) #[] #[pt b1 0]) [bx b1 144 [.func (.func 145) #[] #[]]] [] :=
 zX call142 func142 u fun X=>zC<|qX .s u<|fun b1=>zA 1 u<|zB<|jA 2 u<|zG<|zP u u (fun _ k=>k b1) [0] d
theorem zKV {qd : Prop} : qC qd prog 142 [.func (.func 143) #[] #[]] [] [] (zFK) fun r K=>∀ b1,K (.func (.func 207) #[] #[pt b1 0]) [bx b1 144 [.func (.func 143) #[] #[]]] [] :=
 zX call142 func142 u fun X=>zC<|qX .s u<|fun b1=>zA 1 u<|zB<|jA 2 u<|zG<|zP u u (fun _ k=>k b1) [0] d
theorem zKU {qd : Prop} : qC qd prog 142 [.func (.func 206) #[] #[pt b1 0]] [bx b1 184 [.func (.func 141) #[] #[]]] [] (zFL) fun r K=>∀ b2,K (.func (.func 207) #[] #[pt b2 0]) [bx b1 184 [.func (.func 141) #[] #[]], bx b2 144 [.func (.func 206) #[] #[pt b1 0]]] [] :=
 zX call142 func142 u fun X=>zC<|qX .s u<|fun b2=>zA 1 u<|zB<|jA 2 u<|zG<|zP u u (fun _ k=>k b2) [0,1] d
theorem zJP {qd : Prop} : qC qd prog 140 [.func (.func 141) #[] #[]] [] [] (zEB) fun r K=>∀ b1 b2,K (.func (.func 207) #[] #[pt b1 0]) [bx b1 144 [.func (.func 206) #[] #[pt b2 0]], bx b2 184 [.func (.func 141) #[] #[]]] [] :=
 zX call140 func140 u fun X=>zC<|qX .s u<|fun b1=>zA 1 u<|zB<|zC<|zA 1 u<|zZ .s [0] [] zKU u u u d<|fun r1 _ k b2=>k<|zA 1 u<|zB<|zG<|zP u u (fun _ k=>k b2 b1) [1,0] d
theorem zJi {qd : Prop} : qC qd prog 142 [.func (.func 206) #[] #[pt b1 0]] [bx b1 184 [.func (.func 148) #[] #[]]] [] (zEQ) fun r K=>∀ b2,K (.func (.func 207) #[] #[pt b2 0]) [bx b1 184 [.func (.func 148) #[] #[]], bx b2 144 [.func (.func 206) #[] #[pt b1 0]]] [] :=
 zX call142 func142 u fun X=>zC<|qX .s u<|fun b2=>zA 1 u<|zB<|jA 2 u<|zG<|zP u u (fun _ k=>k b2) [0,1] d
theorem zLt {qd : Prop} : qC qd prog 140 [.func (.func 148) #[] #[]] [] [] (zHX) fun r K=>∀ b1 b2,K (.func (.func 207) #[] #[pt b1 0]) [bx b1 144 [.func (.func 206) #[] #[pt b2 0]], bx b2 184 [.func (.func 148) #[] #[]]] [] :=
 zX call140 func140 u fun X=>zC<|qX .s u<|fun b1=>zA 1 u<|zB<|zC<|zA 1 u<|zZ .s [0] [] zJi u u u d<|fun r1 _ k b2=>k<|zA 1 u<|zB<|zG<|zP u u (fun _ k=>k b2 b1) [1,0] d
theorem zJc {qd : Prop} : qC qd prog 142 [.func (.func 206) #[] #[pt b1 0]] [bx b1 184 [.func (.func 147) #[] #[]]] [] (zET) fun r K=>∀ b2,K (.func (.func 207) #[] #[pt b2 0]) [bx b1 184 [.func (.func 147) #[] #[]], bx b2 144 [.func (.func 206) #[] #[pt b1 0]]] [] :=
 zX call142 func142 u fun X=>zC<|qX .s u<|fun b2=>zA 1 u<|zB<|jA 2 u<|zG<|zP u u (fun _ k=>k b2) [0,1] d
theorem zLZ {qd : Prop} : qC qd prog 140 [.func (.func 147) #[] #[]] [] [] (zH1) fun r K=>∀ b1 b2,K (.func (.func 207) #[] #[pt b1 0]) [bx b1 144 [.func (.func 206) #[] #[pt b2 0]], bx b2 184 [.func (.func 147) #[] #[]]] [] :=
 zX call140 func140 u fun X=>zC<|qX .s u<|fun b1=>zA 1 u<|zB<|zC<|zA 1 u<|zZ .s [0] [] zJc u u u d<|fun r1 _ k b2=>k<|zA 1 u<|zB<|zG<|zP u u (fun _ k=>k b2 b1) [1,0] d
theorem zTJ {qd : Prop} : qC qd prog 82 [] [] [] (zKa) fun r K=>∀ b1 b2 b3 b4 b5 b6 b7 b8 b9 b10 b11,K (.slice (some ⟨b1, 0, none⟩) 10 10) [bx b1 144 [.nilFunc, .func (.func 207) #[] #[pt b2 0], .func (.func 207) #[] #[pt b4 0], .func (.func 207) #[] #[pt b5 0], .func (.func 207) #[] #[pt b6 0], .func (.func 207) #[] #[pt b7 0], .func (.func 207) #[] #[pt b8 0], .func (.func 207) #[] #[pt b10 0], .func (.func 149) #[] #[], .func (.func 150) #[] #[]], bx b2 144 [.func (.func 206) #[] #[pt b3 0]], bx b3 184 [.func (.func 141) #[] #[]], bx b4 144 [.func (.func 143) #[] #[]], bx b5 144 [.func (.func 144) #[] #[]], bx b6 144 [.func (.func 145) #[] #[]], bx b7 144 [.func (.func 146) #[] #[]], bx b8 144 [.func (.func 206) #[] #[pt b9 0]], bx b9 184 [.func (.func 147) #[] #[]], bx b10 144 [.func (.func 206) #[] #[pt b11 0]], bx b11 184 [.func (.func 148) #[] #[]]] [] :=
 zX call82 func82 u fun X=>jA 1 u<|zC<|qF zJP u d<|fun r1 _ k b1 b2=>k<|qF zKV u d<|fun r2 _ k b3=>k<|qF zIr u d<|fun r3 _ k b4=>k<|
  qF zJy rfl d<|fun r4 _ k b5=>k<|qF zI4 u d<|fun r5 _ k b6=>k<|qF zLZ u d<|fun r6 _ k b7 b8=>k<|qF zLt u d<|
  fun r7 _ k b9 b10=>k<|
  jbF .s 144 [.nilFunc, .func (.func 207) #[] #[pt b1 0], .func (.func 207) #[] #[pt b3 0], .func (.func 207) #[] #[pt b4 0], .func (.func 207) #[] #[pt b5 0], .func (.func 207) #[] #[pt b6 0], .func (.func 207) #[] #[pt b7 0], .func (.func 207) #[] #[pt b9 0], .func (.func 149) #[] #[], .func (.func 150) #[] #[]]<|
  fun b11=>zA 1 u<|zB<|zG<|zP u u (fun _ k=>k b11 b1 b2 b3 b4 b5 b6 b7 b8 b9 b10) [10,0,1,2,3,4,5,6,7,8,9] d
theorem zHC {qd : Prop} {y0 : Int} : qC qd prog 265 [.int .u64 y0] [] [Pt (yK 64 (zH .u8)) 4 0 yY] (zBs y0) fun r K=>K (vi r) [] [] :=
 zX call265 func265 u fun X=>jA 1 u<|zD<|jA 2 u<|zJ u (jA 1 u<|zG<|qA<|zP u u kk [] d)<|jC<|zC<|zA 5 u<|zF (.int .u64 (xC .u64 (IntKind.u64.wrap ((yE .u64 y0 (IntKind.u64.wrap (0 - y0))) * 285870213051353865)) 58))<|
  jgx (gk 0) u u<|fun x1=>qP false oI (gk 0) u<|zF (vi (zR (x1)))<|zA 1 u<|zB<|zG<|zP u u kk [] d
theorem zXJ {qd : Prop} {y0 : Int} : qC qd prog 204 [.int .u64 y0] [] [Pt (yK 64 (zH .u8)) 4 0 yY] (zH6 y0) fun r K=>∀ p1 c1,K (sv p1 r c1) [] [Rl (zH .i64) p1 c1 r] :=
 zX call204 func204 u fun X=>jA 1 u<|zC<|zA 1 u<|vE (zH .i64) 3<|zB<|zD<|zQ<|qT (fun s1 K=>∀ p1 c1 r_1,K [] [(0, r_1)] [1] [(0, .int .u64 s1.1), (3, sv p1 s1.2 c1)] [Al (zH .i64) 3 r_1 p1 c1 s1.2]) (gv (fun _ k=>k none 0 []) [0] (gq [0,1]))<|
  fun s1 _ k p1 c1 r_1=>k<|zD<|jA 2 u<|zJ u (jC<|zD<|zQ<|qK<|zA 2 u<|qF zHC u (cq [1])<|fun r1 _ k=>k<|wR .s (e := zH .i64) 3 [vi r1] ([r1] : List Int) (rC vI rN)<|fun p2 c2=>
  wN .s 0 1 u (gk 0) u u<|fun x1 r_2 p3 c3=>zA 1 u<|zS<|qB<|zN<|jB 5 u<|qE (gv (fun _ k=>k p3 c3 r_2) [0] (gq [0,3])))<|qN<|qM<|qS<|qO<|zN<|jA 2 u<|zG<|wW 0 0 u u<|zP u u (fun _ k=>k p1 c1) [] (gq [0])
theorem zW3 {qd : Prop} {y0 : wH} : qC qd prog 205 [.agg (yM y0 p1 c1).toArray] [] [Rl vA p1 c1 y0.2] (zHm y0) fun r K=>∀ p2 c2,K (sv p2 r c2) [] [Rl (zH .u64) p2 c2 r] :=
 zX call205 func205 u fun X=>zC<|qX .s u<|fun b1=>zA 1 u<|zB<|zC<|zM 0 u<|zU 0 u u u<|jmk .s (e := zH .u64) 217 (0 : Int) (.int .u64 0) vI u u<|fun x1 r_1 p2 c2=>zA 1 u<|zB<|zD<|zC<|zM 1 u<|zU 0 u u u<|zA 2 u<|zB<|zQ<|
  qT (fun s1 K=>∀ r_2,K [10,11] [(0, []), (1, r_2)] [1] [(3, .slice p2 (List.length x1) c2), (12, vi s1.2)] [Ar (zH .u64) 217 r_2 p2 c2 (List.length x1) s1.1]) (gv (fun _ k=>k r_1) [900,1] (gq [0,1]))<|fun s1 _ k r_2=>k<|jA 1 u<|zD<|
  zJ u (jC<|zD<|zQ<|zC<|qQ 1 u u u<|fun x2 b2 o1=>qP true zMr (gk 0) u<|wO .s (.agg #[vi 0, vi 0])<|fun b3=>qL .s 2 u u u<|zB<|uO [10] [1, 2] 11<|zW 10 [0] u<|qR 1 0 u u<|wI 2 2 u u u u<|
  jdI 3 1 u u u u<|fun x3 h1 b4 hp1=>tJ 4 1 1 sI false oI u u hp1 h1 u<|qR 5 1 u u<|wI 6 2 u u u u<|uH fun x4 h2=>tU 7 u (fun h=>zZU h u u h2)<|zW 2 [8] u<|jdI 9 1 u u u u<|fun x5 h3 b5 hp2=>
  qH 10<|jsA (.f u) 1 1 sI (bor .u64 x3 x4) false u hp2 h3 u u vI<|fun r_3=>jdb [] [1, 2]<|qY<|qB<|zN<|jB 2 u<|qE (gv (fun _ k=>k r_3) [900,1] (gq [0,3])))<|qN<|qM<|qS<|qO<|zN<|jA 2 u<|zG<|wW 1 0 u u<|
  jre 0 2 u u<|zP u u (fun _ k=>k p2 c2) [] (gq [0])
theorem zOt {qd : Prop} {y0 : Int} : qC qd prog 121 [vi y0] [] [] (zHD y0) fun r K=>K (vb r) [] [] :=
 zX call121 func121 u fun X=>jA 1 u<|jA 4 u<|zG<|zP u u kk [] d
theorem zCV {qd : Prop} {y0 : Int} {y1 : Int} : qC qd prog 69 [vi y0, vi y1] [] [] (zB2 y0 y1) fun r K=>K (vi r) [] [] :=
 zX call69 func69 u fun X=>jA 1 u<|zC<|zA 1 u<|qF zOt u d<|fun r1 _ k=>k<|zA 1 u<|zB<|zC<|zA 1 u<|qF zOt u d<|fun r2 _ k=>k<|zA 1 u<|zB<|zD<|jA 1 u<|zJ u (zD<|jA 1 u<|zJ u (jA 1 u<|zG<|qA<|qA<|
  zP u u kk [] d)<|jC<|jA 1 u<|zG<|qA<|zP u u kk [] d)<|jC<|zD<|jA 1 u<|zJ u (jA 1 u<|zG<|qA<|zP u u kk [] d)<|jC<|zD<|jA 3 u<|zJ u (jA 1 u<|zG<|qA<|
  zP u u kk [] d)<|jC<|zD<|jA 3 u<|zJ u (jA 1 u<|zG<|qA<|zP u u kk [] d)<|jC<|jA 1 u<|zG<|zP u u kk [] d
theorem zPG {qd : Prop} {y0 : List Int} : qC qd prog 68 [sv p1 y0 c1] [] [Rl (zH .i64) p1 c1 y0] (zHE y0) fun r K=>K (vi r) [] [] :=
 zX call68 func68 u fun X=>jA 1 u<|jA 1 u<|zD<|jA 3 u<|zQ<|qT (fun s1 K=>K [3,6,7] [] [0] [(8, vi s1)] []) (gv kk [] (gq [0]))<|fun s1 _ k=>k<|jA 1 u<|zD<|zJ u (jC<|zD<|zQ<|zC<|qQ 0 u u u<|fun x1 b1 o1=>qP false oI (gk 0) u<|
  zA 1 u<|zB<|jA 3 u<|zJ u (jA 2 u<|zG<|qV<|qA<|wT<|qV<|qA<|zP u u kk [] d)<|wD<|qB<|zN<|jB 2 u<|qE (gv kk [] (gq [1])))<|qN<|qM<|qS<|qO<|zN<|jA 2 u<|zG<|zP u u kk [] d
theorem zOe {qd : Prop} {y0 : qW} {y1 : qW} : qC qd prog 139 [.agg #[vi y0.1, vi y0.2], .agg #[vi y1.1, vi y1.2]] [] [] (zC0 y0 y1) fun r K=>K (vi r) [] [] :=
 zX call139 func139 u fun X=>zC<|qX .s u<|fun b1=>qX .s u<|fun b2=>zA 1 u<|zB<|yC [] [0, 1] 13<|qR 0 0 u u<|wI 1 0 u u u u<|qR 2 0 u u<|wI 3 1 u u u u<|qR 5 1 u u<|wI 6 0 u u u u<|qR 7 1 u u<|
  wI 8 1 u u u u<|qH 4<|zZ (.f u) [] [] zCV u u u d<|fun r1 _ k=>k<|qD<|qH 9<|zZ (.f u) [] [] zCV u u u d<|fun r2 _ k=>k<|qD<|qH 10<|
  wR (.f u) (e := zH .i64) 3 [vi r1, vi r2] ([r1, r2] : List Int) (rC vI (rC vI rN))<|fun p1 c1=>qD<|qH 11<|zZ (.f u) [] [] zPG u u u (cq [0])<|fun r3 _ k=>k<|qD<|zW 0 [12] u<|qY<|zN<|zG<|
  zP u u kk [] d
theorem zKs {qd : Prop} {y0 : wH} : qC qd prog 81 [.agg (yM y0 p1 c1).toArray] [] [Rl vA p1 c1 y0.2] (zBW y0) fun r K=>K (vi r) [] [] :=
 zX call81 func81 u fun X=>zC<|qX .s u<|fun b1=>zA 1 u<|zB<|zD<|xG (fun K=>K [1] [] [0] [(12, vb ((decide (y0.1 < 0)) || (decide (40 < y0.1))))] []) (qK<|zM 0 u<|zU 0 u u u<|zA 2 u<|yA (b := decide (y0.1 < 0)) 8 u (fun hb1=>zA 3 u<|
  zF (vb true)<|zS<|wQ 12 (vb ((decide (y0.1 < 0)) || (decide (40 < y0.1)))) u (by rw [hb1]; rfl)<|zL (gv kk [0] (gq [0])))<|fun hb1=>zM 0 u<|zU 0 u u u<|zA 1 u<|zF (vb (decide (40 < y0.1)))<|zS<|
  wQ 12 (vb ((decide (y0.1 < 0)) || (decide (40 < y0.1)))) u (by rw [hb1]; rfl)<|zL (gv kk [0] (gq [0])))<|fun _ k=>k<|zJ u (jA 1 u<|zG<|qA<|zP u u kk [] d)<|jC<|zD<|zC<|zM 1 u<|zU 0 u u u<|
  zA 2 u<|zB<|zQ<|qT (fun s1 K=>K [1,14,15] [] [0] [(16, vi s1)] []) (gv kk [0] (gq [0]))<|fun s1 _ k=>k<|jA 1 u<|zD<|zJ u (jC<|zD<|zQ<|zC<|zA 1 u<|qQ 0 u u u<|fun x1 b2 o1=>qP true zMr (gk 0) u<|
  wO .s (.agg #[vi 0, vi 0])<|fun b3=>zA 1 u<|qL .s 1 u u u<|zB<|zD<|
  xG (fun K=>K [1,3,4,14,15,16] [] [1] [(36, vb ((decide ((if x1.2 < x1.1 then x1.2 else x1.1) < 0)) || (decide (y0.1 ≤ (if x1.2 > x1.1 then x1.2 else x1.1)))))] []) (qK<|zM 0 u<|zU 1 u u u<|zM 1 u<|zU 1 u u u<|
  zA 3 u<|yA (b := decide ((if x1.2 < x1.1 then x1.2 else x1.1) < 0)) 27 u (fun hb2=>zA 8 u<|zF (vb true)<|zS<|
  wQ 36 (vb ((decide ((if x1.2 < x1.1 then x1.2 else x1.1) < 0)) || (decide (y0.1 ≤ (if x1.2 > x1.1 then x1.2 else x1.1))))) u (by rw [hb2]; rfl)<|zL (gv kk [0,1] (gq [1])))<|fun hb2=>zM 0 u<|zU 1 u u u<|zM 1 u<|
  zU 1 u u u<|zA 1 u<|zM 0 u<|zU 0 u u u<|zA 1 u<|zF (vb (decide (y0.1 ≤ (if x1.2 > x1.1 then x1.2 else x1.1))))<|zS<|
  wQ 36 (vb ((decide ((if x1.2 < x1.1 then x1.2 else x1.1) < 0)) || (decide (y0.1 ≤ (if x1.2 > x1.1 then x1.2 else x1.1))))) u (by rw [hb2]; rfl)<|zL (gv kk [0,1] (gq [1])))<|fun _ k=>k<|zJ u (jA 1 u<|zG<|qA<|qV<|qA<|
  wT<|qV<|qA<|zP u u kk [] d)<|jC<|wL (fun s2 K=>K [1,14,15,16] [(1, [])] [0] [(49, vb s2)] []) (uO [] [0, 1] 13<|zW 10 [0,1,2] u<|wJ 39 u (qR 3 1 u u<|wI 4 0 u u u u<|zW 6 [5,6] u<|
  yF 7 0 u u u u<|fun x2 b4 o2=>yD 8 true zMr u (gk 0) u<|vM 9 1 2 u u u u<|qH 10<|zZ (.f u) [] [] zOe u u u d<|fun r1 _ k=>k<|qD<|zW 1 [11] u<|wP 12 (vb (decide (0 ≤ r1))) u<|qY<|
  zL (gv kk [0,901] (gq [1])))<|zW 1 [3,4,5,6,7,8,9,10,11] u<|wP 12 (vb false) u<|qY<|zL (gv kk [0,901] (gq [0])))<|fun s2 _ k=>k<|zJ u (jA 1 u<|zG<|qV<|qA<|wT<|qV<|qA<|zP u u kk [] d)<|
  wD<|qB<|zN<|jB 2 u<|qE (gv kk [0] (gq [0])))<|qN<|qM<|qS<|qO<|zN<|jA 1 u<|zG<|zP u u kk [] d
theorem zQN {qd : Prop} {y0 : wH} : qC qd prog 203 [.agg (yM y0 p1 c1).toArray] [] [Rl vA p1 c1 y0.2] (zEN y0) fun r K=>∀ p2 c2,K (.agg (yM r p2 c2).toArray) [] [Rl vA p2 c2 r.2] :=
 zX call203 func203 u fun X=>zC<|qX .s u<|fun b1=>wO .s (.agg #[vi 0, .slice none 0 0])<|fun b2=>zB<|zD<|zC<|qU 0 2 u u u<|qF zKs u (cq [0])<|fun r1 _ k=>k<|zA 1 u<|zB<|zJ u (zC<|zF (.agg #[vi 0, .slice none 0 0])<|
  qL .s 1 u u u<|zB<|zG<|qA<|wK u (lC 1 (.agg #[vi 0, .slice none 0 0]) u u lN) (fun _ k=>k none 0) [] ⟨gn,d⟩)<|jC<|zC<|qU 0 2 u u u<|qL .s 1 u u u<|zB<|zG<|
  wK u (lC 1 (.agg (yM y0 p1 c1).toArray) u u lN) (fun _ k=>k p1 c1) [] (gq [0])
theorem zKg {qd : Prop} {y0 : wH} {y1 : Int} : qC qd prog 138 [.agg (yM y0 p1 c1).toArray, vi y1] [] [Rl vA p1 c1 y0.2, Pt (yK 64 (zH .u8)) 4 0 yY] (zC5 y0 y1) fun r K=>∀ p2 c2,K (sv p2 r c2) [] [Rl (zH .i64) p2 c2 r] :=
 zX call138 func138 u fun X=>zC<|qX .s u<|fun b1=>zA 1 u<|zB<|zC<|qU 0 2 u u u<|qF zQN u (cq [0])<|fun r1 _ k p2 c2=>k<|qL .s 0 u u u<|zB<|zD<|
  xG (fun K=>K [1,2] [] [0,2] [(14, vb ((decide (y1 < 0)) || (decide (r1.1 ≤ y1))))] []) (qK<|zA 3 u<|yA (b := decide (y1 < 0)) 9 u (fun hb1=>zA 4 u<|zF (vb true)<|zS<|
  wQ 14 (vb ((decide (y1 < 0)) || (decide (r1.1 ≤ y1)))) u (by rw [hb1]; rfl)<|zL (gv kk [0] (gq [0,2])))<|fun hb1=>zA 1 u<|zM 0 u<|zU 0 u u u<|zA 1 u<|zF (vb (decide (r1.1 ≤ y1)))<|zS<|
  wQ 14 (vb ((decide (y1 < 0)) || (decide (r1.1 ≤ y1)))) u (by rw [hb1]; rfl)<|zL (gv kk [0] (gq [0,2])))<|fun _ k=>k<|zJ u (jA 1 u<|zG<|qA<|zP u u (fun _ k=>k none 0) [] ⟨gn,d⟩)<|jC<|zC<|qU 0 2 u u u<|
  qF zW3 u (cq [0])<|fun r2 _ k p3 c3=>k<|zA 1 u<|qQ 0 u u u<|fun x1 b2 o1=>qP false oI (gk 0) u<|qF zXJ u (cq [3])<|fun r3 _ k p4 c4=>k<|zA 1 u<|zB<|zG<|zP u u (fun _ k=>k p4 c4) [] (gq [0])
theorem zRq {qd : Prop} {y0 : Int} {y1 : Int} : qC qd prog 264 [.int .u64 y0, .int .u64 y1] [] [] (zNX y0 y1) fun r K=>K (.tuple #[.int .u64 r.1, .int .u64 r.2]) [] [] :=
 zX call264 func264 u fun X=>jA 2 u<|jA 3 u<|zC<|zA 1 u<|zF (.int .u64 (xC .u64 y0 32))<|zA 1 u<|zB<|jA 3 u<|zC<|zA 1 u<|zF (.int .u64 (xC .u64 y1 32))<|zA 1 u<|zB<|jA 4 u<|zC<|zA 4 u<|
  zF (.int .u64 (xC .u64 (IntKind.u64.wrap ((yE .u64 y0 4294967295) * (yE .u64 y1 4294967295))) 32))<|zA 2 u<|zB<|jA 3 u<|zC<|zA 1 u<|
  zF (.int .u64 (xC .u64 (IntKind.u64.wrap ((IntKind.u64.wrap ((xC .u64 y0 32) * (yE .u64 y1 4294967295))) + (xC .u64 (IntKind.u64.wrap ((yE .u64 y0 4294967295) * (yE .u64 y1 4294967295))) 32))) 32))<|zA 1 u<|zB<|jA 6 u<|zC<|
  zA 6 u<|
  zF (.int .u64 (xC .u64 (IntKind.u64.wrap ((yE .u64 (IntKind.u64.wrap ((IntKind.u64.wrap ((xC .u64 y0 32) * (yE .u64 y1 4294967295))) + (xC .u64 (IntKind.u64.wrap ((yE .u64 y0 4294967295) * (yE .u64 y1 4294967295))) 32))) 4294967295) + (IntKind.u64.wrap ((yE .u64 y0 4294967295) * (xC .u64 y1 32))))) 32))<|
  zA 2 u<|zB<|jA 4 u<|zG<|wK u (lT u (lT u lN)) kk [] d
theorem zT1 {qd : Prop} {y0 : Int} {y1 : Int} : qC qd prog 202 [.int .u64 y0, .int .u64 y1] [] [] (zLU y0 y1) fun r K=>K (.tuple #[.int .u64 r.1, .int .u64 r.2]) [] [] :=
 zX call202 func202 u fun X=>jA 2 u<|zD<|jcf u<|jC<|zC<|zA 2 u<|qF zRq u d<|fun r1 _ k=>k<|zA 5 u<|zB<|jA 4 u<|zG<|wK u (lT u (lT u lN)) kk [] d
theorem zFT {qd : Prop} {y0 : List Int} {y1 : Int} : qC qd prog 137 [sv p1 y0 c1, vi y1] [] [Rl (zH .i64) p1 c1 y0] (zCS y0 y1) fun r K=>∀ p2 c2 r_1,K (sv p2 r c2) [r_1] [Al (zH .i64) 3 r_1 p2 c2 r] :=
 zX call137 func137 u fun X=>jA 1 u<|wL (fun s1 K=>K [0,1] [] [0] [] []) (jA 2 u<|zJ u (qK<|jno)<|wD<|zL (gv kk [] (gq [0])))<|fun s1 _ k=>k<|zC<|zA 2 u<|zF (.int .u64 (IntKind.u64.wrap (len y0)))<|zA 1 u<|
  zF (.int .u64 (IntKind.u64.wrap (y1)))<|qF zT1 u d<|fun r1 _ k=>k<|zA 5 u<|zB<|wL (fun s2 K=>K [0,6] [] [0] [] []) (
  xG (fun K=>K [0,6] [] [0] [(26, vb ((decide (0 < r1.1)) || (decide (9223372036854775807 < r1.2))))] []) (qK<|zA 3 u<|yA (b := decide (0 < r1.1)) 23 u (fun hb1=>zA 2 u<|zF (vb true)<|zS<|
  wQ 26 (vb ((decide (0 < r1.1)) || (decide (9223372036854775807 < r1.2)))) u (by rw [hb1]; rfl)<|zL (gv kk [] (gq [0])))<|fun hb1=>zA 2 u<|zF (vb (decide (9223372036854775807 < r1.2)))<|zS<|
  wQ 26 (vb ((decide (0 < r1.1)) || (decide (9223372036854775807 < r1.2)))) u (by rw [hb1]; rfl)<|zL (gv kk [] (gq [0])))<|fun _ k=>k<|zJ u (qK<|jno)<|wD<|zL (gv kk [] (gq [0])))<|fun s2 _ k=>k<|zC<|zA 1 u<|
  zF (vi (zR (r1.2)))<|jmk .s (e := zH .i64) 3 (0 : Int) (vi 0) vI u u<|fun x1 r_1 p2 c2=>zA 1 u<|zB<|zC<|zA 2 u<|jcp .s 0 0 u (vwW 0 u) (srR (gk 1)) u u<|fun r_2=>zA 1 u<|zB<|zD<|zQ<|
  qT (fun s3 K=>∀ r_3,K [7] [(0, r_3)] [] [(8, vi s3.2)] [Ar (zH .i64) 3 r_3 p2 c2 (List.length x1) s3.1]) (gv (fun _ k=>k r_2) [0] (gq [0]))<|fun s3 _ k r_3=>k<|zD<|jA 4 u<|zJ u (jC<|zQ<|uO [] [] 10<|zW 7 [0,1,2] u<|
  jdV 3 0 u u u u<|fun u1 p3 c3 f1=>zW 4 [4,5] u<|jdW 6 0 u u u u<|fun x2=>qH 7<|jcp (.f u) 0 1 u (vwV f1) (srA 0 0 u) u u<|fun r_4=>qD<|zW 0 [8,9] u<|qY<|qB<|qE (gv (fun _ k=>k r_4) [0] (gq [0])))<|qN<|
  qM<|qS<|qO<|zN<|jA 2 u<|zG<|jrE 0 4 u u<|zP u u (fun _ k=>k p2 c2 r_3) [0] (gq [0])
theorem zSs {qd : Prop} {y0 : wH} : qC qd prog 76 [.agg (yM y0 p1 c1).toArray] [] [Rl vA p1 c1 y0.2, Pt (yK 64 (zH .u8)) 4 0 yY] (zDn y0) fun r K=>∀ p2 c2 p3 c3,K (.tuple #[sv p2 r.1 c2, sv p3 r.2 c3]) [] [Rl (zH .i64) p2 c2 r.1, Rl (zH .i64) p3 c3 r.2] :=
 zX call76 func76 u fun X=>zC<|qX .s u<|fun b1=>zA 2 u<|zB<|wL (fun s1 K=>∀ p2 c2 r_1 p3 c3 r_2,K [1] [(1, r_1), (2, r_2)] [0,1] [(2, sv p2 s1.1 c2), (3, sv p3 s1.2 c3)] [Al (zH .i64) 3 r_1 p2 c2 s1.1, Al (zH .i64) 3 r_2 p3 c3 s1.2]) (uO [] [0] 9<|
  qR 1 0 u u<|wI 2 0 u u u u<|qR 4 0 u u<|wI 5 0 u u u u<|jd2 0 6 (wR (.f u) (e := zH .i64) 3 [vi 3] ([3] : List Int) (rC vI rN)<|fun p4 c4=>qD<|jd2 3 6 (
  zZ (.f u) [] [] zFT u u u (cq [0])<|fun r1 _ k p5 c5 r_3=>k<|qD<|zW 2 [7] u<|qH 6<|jmk (.f u) (e := zH .i64) 3 (0 : Int) (vi 0) vI u u<|fun x1 r_4 p6 c6=>qD<|zW 0 [8] u<|qY<|
  zL (gv (fun _ k=>k p5 c5 r_3 p6 c6 r_4) [0,1,2] (gq [1,0,3,4]))) <|jcm<|jmk (.f u) (e := zH .i64) 3 (0 : Int) (vi 0) vI u u<|fun x2 r_5 p7 c7=>qD<|qH 3<|zZ (.f u) [] [] zFT u u u (cq [1])<|
  fun r2 _ k p8 c8 r_6=>k<|qD<|zW 0 [7,8] u<|qY<|zL (gv (fun _ k=>k p8 c8 r_6 p7 c7 r_5) [0,2,1] (gq [0,1,3,4]))) <|jcm<|jmk (.f u) (e := zH .i64) 3 (0 : Int) (vi 0) vI u u<|fun x3 r_7 p9 c9=>qD<|qH 0<|
  wR (.f u) (e := zH .i64) 3 [vi 3] ([3] : List Int) (rC vI rN)<|fun p10 c10=>qD<|qH 3<|zZ (.f u) [] [] zFT u u u (cq [0])<|fun r3 _ k p11 c11 r_8=>k<|qD<|zW 0 [7,8] u<|qY<|
  zL (gv (fun _ k=>k p11 c11 r_8 p9 c9 r_7) [0,2,1] (gq [0,2,3,4])))<|fun s1 _ k p2 c2 r_1 p3 c3 r_2=>k<|zC<|jalA .s (uB [] 40 (List.replicate 40 (0 : Int)) [])<|fun b2=>zB<|
  wL (fun s2 K=>K [1,2,3,4] [(3, bx b2 181 (uB [] 40 s2 []))] [0,1,2,3] [] []) (zC<|zM 1 u<|zU 0 u u u<|zA 2 u<|zB<|zQ<|
  qT (fun s3 K=>K [1,2,3,4,27,28] [(3, bx b2 181 (uB [] 40 s3.2 []))] [0,1,2,3] [(29, vi s3.1)] []) (gv kk [0,1,2,3] (gq [0,1,2,3]))<|fun s3 _ k=>k<|jA 1 u<|zD<|zJ u (jC<|zD<|zQ<|zC<|qQ 2 u u u<|fun x4 b3 o1=>
  qP true zMr (gk 0) u<|wO .s (.agg #[vi 0, vi 0])<|fun b4=>qL .s 4 u u u<|zB<|qK<|zM 1 u<|zU 4 u u u<|jiL 40 u u<|fun u1 h1=>jlL 3 40 s3.2 [] [] h1 u u<|zA 1 u<|jiL 40 u u<|fun u2 h2=>
  jsL (zR ((yT s3.2 x4.2) + 1)) .s 3 40 s3.2 [] [] h2 u u u<|zS<|qB<|zN<|jB 2 u<|qE (gv kk [0,1,2,3] (gq [1,2,3,4])))<|qN<|qM<|qS<|qO<|zL (gv kk [0,1,2,3] (gq [0,1,2,3])))<|fun s2 _ k=>k<|zC<|
  zA 1 u<|vE (zH .i64) 3<|zB<|wL (fun s4 K=>∀ p12 c12 r_9,K [1,2,3,4] [(4, r_9)] [1,2,3,4] [(7, sv p12 s4 c12)] [Al (zH .i64) 3 r_9 p12 c12 s4]) (zC<|zM 0 u<|zU 0 u u u<|zA 1 u<|zB<|zQ<|
  qT (fun s5 K=>∀ p13 c13 r_10,K [1,2,3,4,41] [(4, r_10)] [1,2,3,4] [(7, sv p13 s5.1 c13), (42, vi s5.2)] [Al (zH .i64) 3 r_10 p13 c13 s5.1]) (gv (fun _ k=>k none 0 []) [0,1,2,3,4] (gq [0,1,2,3,4]))<|fun s5 _ k p13 c13 r_10=>k<|jA 1 u<|
  zD<|zJ u (jC<|zD<|zQ<|jA 2 u<|zC<|zA 1 u<|jiL 40 u u<|fun u3 h3=>jlL 3 40 s2 [] [] h3 u u<|zA 1 u<|zB<|zJ u (qK<|zA 2 u<|wR .s (e := zH .i64) 3 [vi s5.2] ([s5.2] : List Int) (rC vI rN)<|fun p14 c14=>
  wN .s 4 1 u (gk 0) u u<|fun x5 r_11 p15 c15=>zA 1 u<|zS<|qB<|zN<|jB 2 u<|qE (gv (fun _ k=>k p15 c15 r_11) [0,1,2,3,4] (gq [0,3,4,5,6])))<|wD<|qB<|zN<|jB 2 u<|
  qE (gv (fun _ k=>k p13 c13 r_10) [0,1,2,3,4] (gq [0,1,2,3,4])))<|qN<|qM<|qS<|qO<|zL (gv (fun _ k=>k p13 c13 r_10) [0,1,2,3,4] (gq [0,1,2,3,4])))<|fun s4 _ k p12 c12 r_9=>k<|zD<|jA 1 u<|zQ<|
  qT (fun s6 K=>∀ r_12 r_13 p16 c16 r_14,K [1,4] [(1, r_12), (2, r_13), (3, bx b2 181 (uB [] 40 s6.2.2.2.2 [])), (4, r_14)] [3,4] [(2, .slice p2 (List.length s1.1) c2), (3, .slice p3 (List.length s1.2) c3), (7, sv p16 s6.2.2.1 c16), (9, vi s6.2.2.2.1)] [Ar (zH .i64) 3 r_12 p2 c2 (List.length s1.1) s6.1, Ar (zH .i64) 3 r_13 p3 c3 (List.length s1.2) s6.2.1, Al (zH .i64) 3 r_14 p16 c16 s6.2.2.1]) (gv (fun _ k=>k r_1 r_2 p12 c12 r_9) [0,1,2,3,4] (gq [1,2,0,3,4]))<|
  fun s6 _ k r_12 r_13 p16 c16 r_14=>k<|zD<|jA 3 u<|zJ u (jC<|zD<|zQ<|
  wL (fun s7 K=>∀ r_15 r_16,K [1,2,3,4,7,9] [(1, r_15), (2, r_16)] [2,3,4] [] [Ar (zH .i64) 3 r_15 p2 c2 (List.length s1.1) s7.1, Ar (zH .i64) 3 r_16 p3 c3 (List.length s1.2) s7.2]) (jA 3 u<|zQ<|
  qT (fun s8 K=>∀ r_17 r_18,K [1,2,3,4,7,9,59,60] [(1, r_17), (2, r_18)] [2,3,4] [(61, vi s8.2.2)] [Ar (zH .i64) 3 r_17 p2 c2 (List.length s1.1) s8.1, Ar (zH .i64) 3 r_18 p3 c3 (List.length s1.2) s8.2.1]) (gv (fun _ k=>k r_12 r_13) [0,1,2,3,4] (gq [0,1,2,3,4]))<|
  fun s8 _ k r_17 r_18=>k<|jA 1 u<|zD<|zJ u (jC<|zD<|zQ<|zC<|xE 2 u u u<|fun x6 h5 b5 hp1=>jlA 4 2 sI false oI u hp1 h5 u<|zA 1 u<|zB<|qK<|zA 5 u<|xE 0 u u u<|fun x7 h6 b6 hp2=>
  jsA .s 1 0 sI 1 false u hp2 h6 u u vI<|fun r_19=>xE 2 u u u<|fun x8 h7 b7 hp3=>jsA .s 2 2 sI s6.2.2.2.1 false u hp3 h7 u u vI<|fun r_20=>zS<|qB<|zN<|jB 2 u<|
  qE (gv (fun _ k=>k r_19 r_20) [0,1,2,3,4] (gq [1,0,4,5,6])))<|qN<|qM<|qS<|qO<|zL (gv (fun _ k=>k r_17 r_18) [0,1,2,3,4] (gq [0,1,2,3,4])))<|fun s7 _ k r_15 r_16=>k<|zC<|zA 1 u<|vE (zH .i64) 3<|zB<|zD<|jA 3 u<|zQ<|
  qT (fun s9 K=>∀ r_21 r_22 p17 c17 r_23,K [1,2,3,4,9,73,74] [(1, r_21), (2, r_22), (3, bx b2 181 (uB [] 40 s9.2.2.2.2 [])), (5, r_23)] [3,4,5] [(12, sv p17 s9.2.2.1 c17), (75, vi s9.2.2.2.1)] [Ar (zH .i64) 3 r_21 p2 c2 (List.length s1.1) s9.1, Ar (zH .i64) 3 r_22 p3 c3 (List.length s1.2) s9.2.1, Al (zH .i64) 3 r_23 p17 c17 s9.2.2.1]) (gv (fun _ k=>k r_15 r_16 none 0 []) [0,1,2,3,4,5] (gq [1,2,0,3,4,5]))<|
  fun s9 _ k r_21 r_22 p17 c17 r_23=>k<|jA 1 u<|zD<|zJ u (jC<|zD<|zQ<|zC<|xE 3 u u u<|fun x9 h8 b8 hp4=>jlA 4 3 sI false oI u hp4 h8 u<|zA 1 u<|zB<|zC<|qU 0 2 u u u<|zA 1 u<|
  qF zKg u (cq [4,5])<|fun r4 _ k p18 c18=>k<|zA 2 u<|zB<|zQ<|
  qT (fun s10 K=>∀ r_24 r_25 p19 c19 r_26,K [1,2,3,4,9,73,74,75,81,82] [(1, r_24), (2, r_25), (3, bx b2 181 (uB [] 40 s10.2.2.2.2 [])), (5, r_26)] [4,0,5,6] [(12, sv p19 s10.2.2.1 c19), (83, vi s10.2.2.2.1)] [Ar (zH .i64) 3 r_24 p2 c2 (List.length s1.1) s10.1, Ar (zH .i64) 3 r_25 p3 c3 (List.length s1.2) s10.2.1, Al (zH .i64) 3 r_26 p19 c19 s10.2.2.1]) (gv (fun _ k=>k r_21 r_22 p17 c17 r_23) [0,1,2,3,4,5] (gq [1,2,3,4,0,5,6]))<|
  fun s10 _ k r_24 r_25 p19 c19 r_26=>k<|jA 1 u<|zD<|zJ u (jC<|zD<|zQ<|zC<|qQ 4 u u u<|fun x10 b9 o2=>qP false oI (gk 0) u<|zA 1 u<|zB<|zD<|zC<|zA 2 u<|xE 1 u u u<|fun x11 h9 b10 hp5=>
  jlA 1 1 sI false oI u hp5 h9 u<|zA 1 u<|zB<|zJ u (qN<|qM<|qO<|zN<|jB 2 u<|qE (gv (fun _ k=>k r_24 r_25 p19 c19 r_26) [0,1,2,3,4,5] (gq [1,2,3,4,5,6,7])))<|jC<|zC<|zA 5 u<|xE 1 u u u<|fun x12 h10 b11 hp6=>
  jsA .s 1 1 sI 2 false u hp6 h10 u u vI<|fun r_27=>xE 3 u u u<|fun x13 h11 b12 hp7=>jsA .s 2 3 sI s6.2.2.2.1 false u hp7 h11 u u vI<|fun r_28=>zB<|zC<|qU 0 2 u u u<|zA 1 u<|qF zKg u (cq [8,9])<|
  fun r5 _ k p20 c20=>k<|zA 2 u<|zB<|zQ<|
  qT (fun s11 K=>∀ p21 c21 r_29,K [1,2,3,4,9,73,74,75,81,82,83,101,102] [(3, bx b2 181 (uB [] 40 s11.2.2 [])), (5, r_29)] [2,1,7,8,0,9,10] [(12, sv p21 s11.1 c21), (103, vi s11.2.1)] [Al (zH .i64) 3 r_29 p21 c21 s11.1]) (gv (fun _ k=>k p19 c19 r_26) [0,1,2,3,4,5] (gq [6,2,1,7,8,0,9,10]))<|
  fun s11 _ k p21 c21 r_29=>k<|jA 1 u<|zD<|zJ u (jC<|zD<|zQ<|zC<|qQ 5 u u u<|fun x14 b13 o3=>qP false oI (gk 0) u<|zA 1 u<|zB<|zC<|zA 1 u<|jiL 40 u u<|fun u4 h12=>jlL 3 40 s11.2.2 [] [] h12 u u<|zA 1 u<|
  jiL 40 u u<|fun u5 h13=>jsL (zR ((yT s11.2.2 x14) - 1)) .s 3 40 s11.2.2 [] [] h13 u u u<|zB<|wL (fun s12 K=>K [1,2,3,4,9,12,18,73,74,75,81,82,83,101,102,103] [] [2,3,1,4,5,6,7,8] [(122, vb s12)] []) (qK<|zA 1 u<|
  jiL 40 u u<|fun u6 h14=>jlL 3 40 (xS 40 s11.2.2 x14 (zR ((yT s11.2.2 x14) - 1))) [] [] h14 u u<|zA 2 u<|wJ 116 u (zA 2 u<|xE 2 u u u<|fun x15 h15 b14 hp8=>jlA 1 2 sI false oI u hp8 h15 u<|zA 1 u<|
  zF (vb (x15 == 3))<|zS<|zL (gv kk [0,1,2,3,4,5] (gq [2,3,1,4,5,6,7,8])))<|zA 5 u<|zF (vb false)<|zS<|zL (gv kk [0,1,2,3,4,5] (gq [2,3,1,4,5,6,7,8])))<|fun s12 _ k=>k<|zJ u (qK<|zA 2 u<|
  wR .s (e := zH .i64) 3 [vi x14] ([x14] : List Int) (rC vI rN)<|fun p22 c22=>wN .s 5 3 u (gk 0) u u<|fun x16 r_30 p23 c23=>zA 1 u<|zS<|qB<|zN<|jB 2 u<|qE (gv (fun _ k=>k p23 c23 r_30) [0,1,2,3,4,5] (gq [0,2,3,5,6,7,8,9]))
  )<|wD<|qB<|zN<|jB 2 u<|qE (gv (fun _ k=>k p21 c21 r_29) [0,1,2,3,4,5] (gq [2,0,1,3,4,5,6,7])))<|qN<|qM<|qS<|qO<|qB<|zN<|jB 2 u<|qE (gv (fun _ k=>k r_27 r_28 p21 c21 r_29) [0,1,2,3,4,5] (gq [1,2,0,3,4,6,7])))<|qN<|qM<|qS<|
  qO<|qB<|zN<|jB 2 u<|qE (gv (fun _ k=>k r_24 r_25 p19 c19 r_26) [0,1,2,3,4,5] (gq [0,1,2,3,5,6])))<|qN<|qM<|qS<|qO<|zN<|jB 2 u<|qB<|zN<|jB 3 u<|qE (gv (fun _ k=>k r_21 r_22 p17 c17 r_23) [0,1,2,3,5] (gq [0,1,2,4,5])))<|
  qN<|qM<|qS<|qO<|zN<|jA 4 u<|zG<|wW 1 0 u u<|wW 2 2 u u<|jre 1 2 u u<|jre 1 3 u u<|wK u (lT u (lT u lN)) (fun _ k=>k p2 c2 p3 c3) [] (gq [1,0])
theorem zOP {qd : Prop} {y0 : wH} : qC qd prog 30 [.agg (yM y0 p1 c1).toArray] [] [Rl vA p1 c1 y0.2, Pt (yK 64 (zH .u8)) 4 0 yY] (zDB y0) fun r K=>∀ p2 c2,K (sv p2 r c2) [] [Rl (zH .i64) p2 c2 r] :=
 zX call30 func30 u fun X=>zC<|qX .s u<|fun b1=>zA 1 u<|zB<|zC<|qU 0 2 u u u<|qF zSs u (cq [0,1])<|fun r1 _ k p2 c2 p3 c3=>k<|zA 5 u<|zB<|jA 2 u<|zG<|zP u u (fun _ k=>k p2 c2) [] (gq [0])
theorem zQu {qd : Prop} {y0 : wH} : qC qd prog 141 [.agg (yM y0 p1 c1).toArray] [] [Rl vA p1 c1 y0.2, Pt (yK 64 (zH .u8)) 4 0 yY] (zDq y0) fun r K=>∀ p2 c2,K (.tuple #[sv p2 r.1 c2, vi r.2]) [] [Rl (zH .i64) p2 c2 r.1] :=
 zX call141 func141 u fun X=>zC<|qX .s u<|fun b1=>zA 2 u<|zB<|zC<|qU 0 2 u u u<|qF zOP u (cq [0,1])<|fun r1 _ k p2 c2=>k<|zA 2 u<|zB<|zG<|wK u (lT u (lT u lN)) (fun _ k=>k p2 c2) [] (gq [0])
theorem zIb {qd : Prop} {y0 : wH} : vZ qd prog 206 [.agg (yM y0 p1 c1).toArray, pt b1 0] [bx b1 184 [.func (.func 141) #[] #[]]] [Rl vA p1 c1 y0.2, Pt (yK 64 (zH .u8)) 4 0 yY] (zAf y0) fun L r K=>∀ p2 c2,K (.tuple #[sv p2 r.1 c2, vi r.2]) L [Rl (wB (zH .i64)) p2 c2 r.1] :=
 zX call206 func206 u fun X=>zC<|qX .s u<|fun b2=>zA 2 u<|zB<|zC<|zU 0 u u u<|qU 1 2 u u u<|zZ .s [] [] zQu u u u (cq [0,1])<|fun r1 _ k p2 c2=>k<|zA 5 u<|zB<|zD<|jA 2 u<|zJ u (jA 3 u<|zG<|qA<|
  wK u (lT u (lT u lN)) (fun _ k=>k none 0) [0] ⟨gn,d⟩)<|jC<|zC<|zA 1 u<|wR .s (e := wB (zH .i64)) 22 [sv p2 r1.1 c2] ([r1.1] : List (List Int)) (rC (vL (gk 0)) rN)<|fun p3 c3=>zA 2 u<|zB<|zG<|
  wK u (lT u (lT u lN)) (fun _ k=>k p3 c3) [0] (gq [0])
theorem zCM {qd : Prop} {y0 : List Int} {y1 : Int} : qC qd prog 29 [sv p1 y0 c1, vi y1] [] [Rl (zH .i64) p1 c1 y0] (zBC y0 y1) fun r K=>∀ p2 c2,K (sv p2 r c2) [] [Rl (zH .i64) p2 c2 r] :=
 zX call29 func29 u fun X=>jA 1 u<|zC<|zA 1 u<|vE (zH .i64) 3<|zB<|zD<|jA 3 u<|zQ<|qT (fun s1 K=>∀ p2 c2 r_1,K [1,8,9] [(0, r_1)] [1] [(5, sv p2 s1.1 c2), (10, vi s1.2)] [Al (zH .i64) 3 r_1 p2 c2 s1.1]) (gv (fun _ k=>k none 0 []) [0] (gq [0,1]))<|
  fun s1 _ k p2 c2 r_1=>k<|jA 1 u<|zD<|zJ u (jC<|zD<|zQ<|zC<|zA 1 u<|qQ 1 u u u<|fun x1 b1 o1=>qP false oI (gk 0) u<|zA 2 u<|zB<|jA 3 u<|zJ u (qK<|zA 2 u<|
  wR .s (e := zH .i64) 3 [vi s1.2] ([s1.2] : List Int) (rC vI rN)<|fun p3 c3=>wN .s 0 2 u (gk 0) u u<|fun x2 r_2 p4 c4=>zA 1 u<|zS<|qB<|zN<|jB 2 u<|qE (gv (fun _ k=>k p4 c4 r_2) [0] (gq [0,4])))<|wD<|qB<|zN<|jB 2 u<|
  qE (gv (fun _ k=>k p2 c2 r_1) [0] (gq [1,2])))<|qN<|qM<|qS<|qO<|zN<|jA 2 u<|zG<|wW 0 0 u u<|zP u u (fun _ k=>k p2 c2) [] (gq [0])
theorem zJe {qd : Prop} {y0 : wH} : vZ qd prog 207 [.agg (yM y0 p1 c1).toArray, pt b1 0] [bx b1 144 [.func (.func 206) #[] #[pt b2 0]], bx b2 184 [.func (.func 141) #[] #[]]] [Rl vA p1 c1 y0.2, Pt (yK 64 (zH .u8)) 4 0 yY] (zAw y0) fun L r K=>∀ p2 c2,K (.tuple #[sv p2 r.1 c2, vi r.2]) L [Rl (wB (zH .i64)) p2 c2 r.1] :=
 zX call207 func207 u fun X=>zC<|qX .s u<|fun b3=>zA 2 u<|zB<|zC<|zU 0 u u u<|qU 2 2 u u u<|zZ .s [1] [] zIb u u u (cq [0,1])<|fun r1 _ k p2 c2=>k<|zA 5 u<|zB<|zD<|jA 2 u<|zJ u (jA 3 u<|zG<|
  qA<|wK u (lT u (lT u lN)) (fun _ k=>k none 0) [0,1] ⟨gn,d⟩)<|jC<|zC<|zA 1 u<|vE (wB (zH .i64)) 22<|zB<|zD<|jA 3 u<|zQ<|
  qT (fun s1 K=>∀ p3 c3 r_1,K [19,20] [(2, []), (3, r_1)] [1,3] [(7, sv p3 s1.1 c3), (21, vi s1.2)] [Al (wB (zH .i64)) 22 r_1 p3 c3 s1.1]) (gv (fun _ k=>k none 0 []) [0,1,902,3] (gq [0,1,3]))<|fun s1 _ k p3 c3 r_1=>k<|jA 1 u<|zD<|
  zJ u (jC<|zD<|zQ<|zC<|qQ 1 u u u<|fun x1 b4 o1=>qP false oL (gk 0) u<|fun p4 c4=>zA 1 u<|zB<|qK<|zA 2 u<|qF zCM u (cq [0])<|fun r2 _ k p5 c5=>k<|
  wR .s (e := wB (zH .i64)) 22 [sv p5 r2 c5] ([r2] : List (List Int)) (rC (vL (gk 0)) rN)<|fun p6 c6=>wN .s 3 4 u (gk 0) u u<|fun x2 r_2 p7 c7=>zA 1 u<|zS<|qB<|zN<|jB 2 u<|
  qE (gv (fun _ k=>k p7 c7 r_2) [0,1,902,3] (gq [0,6,7])))<|qN<|qM<|qS<|qO<|zN<|jA 3 u<|zG<|wW 3 0 u u<|wK u (lT u (lT u lN)) (fun _ k=>k p3 c3) [0,1] (gq [0])
theorem zQn {qd : Prop} {y0 : wH} {y1 : List Int} : qC qd prog 277 [.agg (yM y0 p1 c1).toArray, sv p2 y1 c2] [] [Rl vA p1 c1 y0.2, Rl (zH .i64) p2 c2 y1] (zEJ y0 y1) fun r K=>K (vb r) [] [] :=
 zX call277 func277 u fun X=>zC<|qX .s u<|fun b1=>zA 1 u<|zB<|zD<|jA 3 u<|zQ<|qT (fun s1 K=>K [1,2,7,8] [] [1,0] [(9, vi s1)] []) (gv kk [0] (gq [1,0]))<|fun s1 _ k=>k<|jA 1 u<|zD<|zJ u (jC<|zD<|zQ<|zC<|zA 1 u<|qQ 0 u u u<|
  fun x1 b2 o1=>qP false oI (gk 0) u<|zA 2 u<|zB<|wL (fun s2 K=>K [1,2,7,8,9] [] [1,2] [(34, vb s2)] []) (qK<|zA 3 u<|wJ 16 u (zA 4 u<|zF (vb true)<|zA 12 u<|zF (vb true)<|zS<|zL (gv kk [0] (gq [1,2])))<|
  zA 1 u<|zM 0 u<|zU 0 u u u<|zA 1 u<|zF (vb (decide (y0.1 ≤ x1)))<|zA 1 u<|wJ 22 u (zA 11 u<|zF (vb true)<|zS<|zL (gv kk [0] (gq [1,2])))<|zA 3 u<|wJ 25 u (zA 3 u<|qQ 1 u u u<|
  fun x2 b3 o2=>qP false oI (gk 0) u<|zA 2 u<|zF (vb (decide (x1 ≤ x2)))<|zF (vb (decide (x1 ≤ x2)))<|zS<|zL (gv kk [0] (gq [2,3])))<|zA 7 u<|zF (vb false)<|zF (vb false)<|zS<|zL (gv kk [0] (gq [1,2])))<|
  fun s2 _ k=>k<|zJ u (jA 1 u<|zG<|qV<|qA<|wT<|qV<|qA<|zP u u kk [] d)<|wD<|qB<|zN<|jB 2 u<|qE (gv kk [0] (gq [0,1])))<|qN<|qM<|qS<|qO<|zN<|jA 1 u<|zG<|zP u u kk [] d
theorem zHP {qd : Prop} {y0 : wH} {y1 : Int} : qC qd prog 280 [.agg (yM y0 p1 c1).toArray, .int .u64 y1] [] [Rl vA p1 c1 y0.2] (zBm y0 y1) fun r K=>K (.int .u64 r) [] [] :=
 zX call280 func280 u fun X=>zC<|qX .s u<|fun b1=>zA 1 u<|zB<|jA 1 u<|zD<|zC<|zM 1 u<|zU 0 u u u<|zA 2 u<|zB<|zQ<|qT (fun s1 K=>K [1,9,10] [(0, [])] [0] [(5, .int .u64 s1.1), (11, vi s1.2)] []) (gv kk [900] (gq [0]))<|fun s1 _ k=>
  k<|jA 1 u<|zD<|zJ u (jC<|zD<|zQ<|zC<|qQ 0 u u u<|fun x1 b2 o1=>qP true zMr (gk 0) u<|wO .s (.agg #[vi 0, vi 0])<|fun b3=>qL .s 1 u u u<|zB<|uO [] [1] 11<|zW 9 [0,1] u<|qR 2 0 u u<|
  wI 3 1 u u u u<|uH fun x2 h1=>tU 4 u (fun h=>r_shrK h u u h1)<|zW 5 [5] u<|qR 6 1 u u<|wI 7 1 u u u u<|uH fun x3 h2=>tU 8 u (fun h=>zZU h u u h2)<|zW 0 [9,10] u<|qY<|qB<|zN<|jB 2 u<|
  qE (gv kk [900] (gq [1])))<|qN<|qM<|qS<|qO<|zN<|jA 2 u<|zG<|zP u u kk [] d
theorem zRx {qd : Prop} {y0 : wH} {y1 : Int} : qC qd prog 319 [.agg (yM y0 p1 c1).toArray, .int .u64 y1] [] [Rl vA p1 c1 y0.2] (zFA y0 y1) fun r K=>K (vb r) [] [] :=
 zX call319 func319 u fun X=>zC<|qX .s u<|fun b1=>zA 1 u<|zB<|zC<|qU 0 2 u u u<|zA 1 u<|qF zHP u (cq [0])<|fun r1 _ k=>k<|zA 4 u<|zB<|zG<|zP u u kk [] d
theorem zSE {qd : Prop} {y0 : Int} : qC qd prog 278 [.int .u64 y0] [] [Pt (yK 64 (zH .u8)) 4 0 yY] (zDQ y0) fun r K=>∀ p1 c1,K (sv p1 r c1) [] [Rl (zH .i64) p1 c1 r] :=
 zX call278 func278 u fun X=>jA 1 u<|zC<|zA 1 u<|vE (zH .i64) 3<|zB<|zD<|zQ<|qT (fun s1 K=>∀ p1 c1 r_1,K [] [(0, r_1)] [1] [(0, .int .u64 s1.1), (3, sv p1 s1.2 c1)] [Al (zH .i64) 3 r_1 p1 c1 s1.2]) (gv (fun _ k=>k none 0 []) [0] (gq [0,1]))<|
  fun s1 _ k p1 c1 r_1=>k<|zD<|jA 2 u<|zJ u (jC<|zD<|zQ<|qK<|zA 2 u<|qF zHC u (cq [1])<|fun r1 _ k=>k<|wR .s (e := zH .i64) 3 [vi r1] ([r1] : List Int) (rC vI rN)<|fun p2 c2=>
  wN .s 0 1 u (gk 0) u u<|fun x1 r_2 p3 c3=>zA 1 u<|zS<|qB<|zN<|jB 5 u<|qE (gv (fun _ k=>k p3 c3 r_2) [0] (gq [0,3])))<|qN<|qM<|qS<|qO<|zN<|jA 2 u<|zG<|wW 0 0 u u<|zP u u (fun _ k=>k p1 c1) [] (gq [0])
theorem zSG {qd : Prop} {y0 : List Int} : qC qd prog 279 [sv p1 y0 c1] [] [Rl (zH .i64) p1 c1 y0] (zEf y0) fun r K=>K (.int .u64 r) [] [] :=
 zX call279 func279 u fun X=>jA 1 u<|jA 1 u<|zD<|jA 3 u<|zQ<|qT (fun s1 K=>K [6,7] [] [0] [(3, .int .u64 s1.1), (8, vi s1.2)] []) (gv kk [] (gq [0]))<|fun s1 _ k=>k<|jA 1 u<|zD<|zJ u (jC<|zD<|zQ<|zC<|qQ 0 u u u<|fun x1 b1 o1=>
  qP false oI (gk 0) u<|zA 1 u<|zB<|qK<|zA 2 u<|uH fun x2 h1=>jv (fun h=>zZU h u u h1)<|zA 2 u<|zS<|qB<|zN<|jB 2 u<|qE (gv kk [] (gq [1])))<|qN<|qM<|qS<|qO<|zN<|jA 2 u<|zG<|
  zP u u kk [] d
theorem zMG {qd : Prop} {y0 : wH} : qC qd prog 348 [.agg (yM y0 p1 c1).toArray] [] [Rl vA p1 c1 y0.2] (zDr y0) fun r K=>K (.int .u64 r) [] [] :=
 zX call348 func348 u fun X=>zC<|qX .s u<|fun b1=>zA 1 u<|zB<|zC<|zM 0 u<|zU 0 u u u<|uH fun x1 h1=>jv (fun h=>zZU h u u h1)<|zA 2 u<|zB<|zG<|zP u u kk [] d
theorem zSP {qd : Prop} {y0 : wH} {y1 : Int} : qC qd prog 322 [.agg (yM y0 p1 c1).toArray, .int .u64 y1] [] [Rl vA p1 c1 y0.2] (zDS y0 y1) fun r K=>K (.int .u64 r) [] [] :=
 zX call322 func322 u fun X=>zC<|qX .s u<|fun b1=>zA 1 u<|zB<|yC [] [0] 12<|vM 0 0 2 u u u u<|vM 2 0 2 u u u u<|vM 3 0 2 u u u u<|vM 5 0 2 u u u u<|zW 7 [6] u<|qH 1<|
  zZ (.f u) [] [] zMG u u u (cq [0])<|fun r1 _ k=>k<|qD<|qH 4<|zZ (.f u) [] [] zMG u u u (cq [0])<|fun r2 _ k=>k<|qD<|qH 7<|zZ (.f u) [] [] zHP u u u (cq [0])<|
  fun r3 _ k=>k<|qD<|zW 3 [8] u<|qH 9<|zZ (.f u) [] [] zHP u u u (cq [0])<|fun r4 _ k=>k<|qD<|zW 0 [10,11] u<|qY<|zN<|zG<|zP u u kk [] d
theorem zOz {qd : Prop} {y0 : Int} {y1 : wH} : vZ qd prog 321 [.int .u64 y0, pt b1 0] [bx b1 37 (yM y1 p1 c1)] [Rl vA p1 c1 y1.2] (zCT y0 y1) fun L r K=>K (.int .u64 r) L [] :=
 zX call321 func321 u fun X=>jA 1 u<|zC<|zA 1 u<|qU 0 2 u u u<|zA 1 u<|qF zSP u (cq [0])<|fun r1 _ k=>k<|zA 2 u<|zB<|zG<|zP u u kk [0] d
theorem zH2 {qd : Prop} {y0 : Int} {y1 : wH} : vZ qd prog 320 [.int .u64 y0, .func (.func 321) #[] #[pt b1 0]] [bx b1 37 (yM y1 p1 c1)] [Rl vA p1 c1 y1.2] (zAl y0 y1) fun L r K=>K (.int .u64 r) L [] :=
 zX call320 func320 u fun X=>jA 1 u<|zQ<|qT (fun s1 K=>K [1] [] [0] [(0, .int .u64 s1)] []) (gv kk [0] (gq [0]))<|fun s1 _ k=>k<|zQ<|zC<|zA 2 u<|zZ .s [0] [] zOz u u u (cq [0])<|fun r1 _ k=>k<|zA 1 u<|zB<|zD<|jA 3 u<|
  zJ u (jA 2 u<|zG<|qA<|qV<|wT<|qV<|zP u u kk [0] d)<|jC<|jB 2 u<|qB<|qE (gv kk [0] (gq [0]))
theorem zLh {qd : Prop} {y0 : wH} {y1 : List Int} : qC qd prog 271 [.agg (yM y0 p1 c1).toArray, sv p2 y1 c2] [] [Rl vA p1 c1 y0.2, Rl (zH .i64) p2 c2 y1, Pt (yK 64 (zH .u8)) 4 0 yY] (zBj y0 y1) fun r K=>∀ p3 c3,K (.tuple #[sv p3 r.1 c3, vi r.2]) [] [Rl (zH .i64) p3 c3 r.1] :=
 zX call271 func271 u fun X=>zC<|qX .s u<|fun b1=>zA 2 u<|zB<|zD<|zC<|qU 0 2 u u u<|zA 1 u<|qF zQn u (cq [0,1])<|fun r1 _ k=>k<|zA 1 u<|zB<|zJ u (jA 2 u<|zG<|qA<|
  wK u (lT u (lT u lN)) (fun _ k=>k none 0) [] ⟨gn,d⟩)<|jC<|zC<|zA 1 u<|qF zSG u (cq [1])<|fun r2 _ k=>k<|zA 1 u<|zB<|zD<|zC<|qU 0 2 u u u<|zA 1 u<|qF zRx u (cq [0])<|fun r3 _ k=>
  k<|zA 1 u<|zB<|zJ u (jA 2 u<|zG<|qA<|wK u (lT u (lT u lN)) (fun _ k=>k none 0) [] ⟨gn,d⟩)<|jC<|zC<|zA 2 u<|zZ .s [0] [] zH2 u u u (cq [0])<|fun r4 _ k=>k<|
  qF zSE u (cq [2])<|fun r5 _ k p3 c3=>k<|zA 2 u<|zB<|zG<|wK u (lT u (lT u lN)) (fun _ k=>k p3 c3) [] (gq [0])
theorem zUp {qd : Prop} {y0 : List Int} {y1 : Int} : qC qd prog 350 [sv p1 y0 c1, vi y1] [] [Rl (zH .i64) p1 c1 y0] (zKG y0 y1) fun r K=>K (vb r) [] [] :=
 zX call350 func350 u fun X=>jA 1 u<|jjn (fun s1 K=>K [(4, vb s1)] [] []) (qK<|zA 3 u<|wJ 7 u (zA 4 u<|zF (vb (decide (y1 < (len y0))))<|zA 1 u<|wJ 13 u (zA 2 u<|qQ 0 u u u<|fun x1 b1 o1=>qP false oI (gk 0) u<|zA 1 u<|
  zF (vb (x1 == 1))<|zA 1 u<|zS<|zL (gv kk [] d))<|zA 5 u<|zF (vb false)<|zA 1 u<|zS<|zL (gv kk [] d))<|zA 4 u<|zF (vb false)<|zA 6 u<|zF (vb false)<|zA 1 u<|zS<|zL (gv kk [] d))<|
  fun s1 _ k=>k<|zG<|zP u u kk [] d
theorem zSW {qd : Prop} {y0 : List Int} {y1 : Int} : vZ qd prog 349 [sv p1 y0 c1, pt b1 0] [bx b1 3 [vi y1]] [Rl (zH .i64) p1 c1 y0] (zKE y0 y1) fun L r K=>K (vb r) L [] :=
 zX call349 func349 u fun X=>jA 1 u<|zC<|zA 1 u<|zU 0 u u u<|qF zUp u (cq [0])<|fun r1 _ k=>k<|zA 2 u<|zB<|zG<|zP u u kk [0] d
theorem zHB {qd : Prop} {y0 : List (List Int)} {y1 : Int} : vZ qd prog 275 [sv p1 y0 c1, .func (.func 349) #[] #[pt b1 0]] [bx b1 3 [vi y1]] [Rl (wB (zH .i64)) p1 c1 y0] (zAj y0 y1) fun L r K=>K (vi r) L [] :=
 zX call275 func275 u fun X=>jA 1 u<|zD<|jA 3 u<|zQ<|qT (fun s1 K=>K [0,1,7] [] [0] [(8, vi s1)] []) (gv kk [0] (gq [0]))<|fun s1 _ k=>k<|jA 1 u<|zD<|zJ u (jC<|zD<|zQ<|jA 2 u<|zC<|zA 3 u<|qQ 0 u u u<|fun x1 b2 o1=>
  qP false oL (gk 0) u<|fun p2 c2=>zZ .s [0] [] zSW u u u (cq [0])<|fun r1 _ k=>k<|zB<|zJ u (jA 2 u<|zG<|qV<|qA<|wT<|qV<|qA<|zP u u kk [0] d)<|wD<|qB<|zN<|jB 2 u<|
  qE (gv kk [0] (gq [2])))<|qN<|qM<|qS<|qO<|zN<|jA 1 u<|zG<|zP u u kk [0] d
theorem zGO {qd : Prop} {y0 : List (List Int)} {y1 : Int} : vZ qd prog 218 [sv p1 y0 c1, .func (.func 349) #[] #[pt b1 0]] [bx b1 3 [vi y1]] [Rl (wB (zH .i64)) p1 c1 y0] (zAL y0 y1) fun L r K=>K (vb r) L [] :=
 zX call218 func218 u fun X=>jA 1 u<|zC<|zA 2 u<|zZ .s [0] [] zHB u u u (cq [0])<|fun r1 _ k=>k<|zA 2 u<|zB<|zG<|zP u u kk [0] d
theorem zUK {qd : Prop} {y0 : List (List Int)} {y1 : Int} : qC qd prog 323 [sv p1 y0 c1, vi y1] [] [Rl (wB (zH .i64)) p1 c1 y0] (zEy y0 y1) fun r K=>K (vb r) [] [] :=
 zX call323 func323 u fun X=>zC<|qX .s u<|fun b1=>zA 1 u<|zB<|zC<|zA 2 u<|zZ .s [0] [] zGO u u u (cq [0])<|fun r1 _ k=>k<|zA 2 u<|zB<|zG<|zP u u kk [] d
theorem zR8 {qd : Prop} {y0 : List (List Int)} : qC qd prog 272 [sv p1 y0 c1] [] [Rl (wB (zH .i64)) p1 c1 y0] (zFY y0) fun r K=>∀ p2 c2,K (sv p2 r c2) [] [Rl (zH .i64) p2 c2 r] :=
 zX call272 func272 u fun X=>jA 1 u<|zD<|jA 3 u<|zJ u (jA 1 u<|zG<|qA<|zP u u (fun _ k=>k none 0) [] ⟨gn,d⟩)<|jC<|zC<|zA 1 u<|vE (zH .i64) 3<|zB<|zD<|zC<|zA 1 u<|qQ 1 u u u<|fun x1 b1 o1=>qP false oL (gk 0) u<|fun p2 c2=>
  zA 2 u<|zB<|zQ<|qT (fun s1 K=>∀ p3 c3 r_1,K [0,11] [(0, r_1)] [3] [(3, sv p3 s1.1 c3), (12, vi s1.2)] [Al (zH .i64) 3 r_1 p3 c3 s1.1]) (gv (fun _ k=>k none 0 []) [0] (gq [2,3]))<|fun s1 _ k p3 c3 r_1=>k<|jA 1 u<|zD<|zJ u (
  jC<|zD<|zQ<|jA 2 u<|zC<|zA 2 u<|qF zUK u (cq [1])<|fun r1 _ k=>k<|zB<|zJ u (qK<|zA 2 u<|wR .s (e := zH .i64) 3 [vi s1.2] ([s1.2] : List Int) (rC vI rN)<|fun p4 c4=>wN .s 0 1 u (gk 0) u u<|
  fun x2 r_2 p5 c5=>zA 1 u<|zS<|qB<|zN<|jB 2 u<|qE (gv (fun _ k=>k p5 c5 r_2) [0] (gq [0,3])))<|wD<|qB<|zN<|jB 2 u<|qE (gv (fun _ k=>k p3 c3 r_1) [0] (gq [0,1])))<|qN<|qM<|qS<|qO<|zN<|jA 2 u<|zG<|wW 0 0 u u<|
  zP u u (fun _ k=>k p3 c3) [] (gq [0])
theorem zIA {qd : Prop} {y0 : List qW} : qC qd prog 66 [sv p1 y0 c1, .func (.func 139) #[] #[]] [r_1] [Al vA 125 r_1 p1 c1 y0] (zAt y0) fun r K=>∀ r_2,K (.tuple #[]) [r_2] [Ar vA 125 r_2 p1 c1 (List.length y0) r] := ⟨call66, fun A w0 r hm hO hF => by
 have h := zQv (qd := qd) Go.Proofs.Tryz.sort66 (uD.prod (uD.int .i64) (uD.int .i64)) (te := 125) Tryz.isAgg125 Tryz.sizeOf125 zC0 139 (enters_of func139 (by kernel_rfl) u) (fun w x y n hn => ?_) hO hF.1.1 hm
 · change Calls prog 66 _ _ _ at h
   refine h.mono fun e w' h => ?_
   cases e with
   | returned v => obtain ⟨r', rfl, h1, h2, h3, h4⟩ := h; exact fun G k => k r' ⟨rfl, h1, h2, ⟨h3, h4.symm⟩, trivial⟩
   | panicked ch => exact h
   | outgrown => exact h
 · refine ((zOe (qd := True) (y0 := x) (y1 := y)).go [] w n hn (wG.start (by simp)) trivial).mono fun e w' h => ?_
   cases e with
   | returned v => exact h _ fun ⟨e1, q⟩ => ⟨e1, q.e⟩
   | panicked ch => exact h
   | outgrown => exact h⟩
theorem zUB {qd : Prop} {y0 : wH} : qC qd prog 266 [.agg (yM y0 p1 c1).toArray] [] [Rl vA p1 c1 y0.2] (zEq y0) fun r K=>∀ p2 c2,K (.agg (yM r p2 c2).toArray) [] [Rl vA p2 c2 r.2] :=
 zX call266 func266 u fun X=>zC<|qX .s u<|fun b1=>wO .s (.agg #[vi 0, .slice none 0 0])<|fun b2=>zB<|zC<|qU 0 2 u u u<|qF zQN u (cq [0])<|fun r1 _ k p2 c2=>k<|qL .s 0 u u u<|zB<|zC<|zM 0 u<|zU 0 u u u<|
  zF (.agg #[vi r1.1, .slice none 0 0])<|vE vA 125<|wO .s (.agg #[vi 0, .slice none 0 0])<|fun b3=>qL .s 3 u u u<|zB<|
  wL (fun s1 K=>∀ p3 c3 r_1,K [2,3] [(0, []), (2, r_1), (3, bx b3 37 [vi r1.1, sv p3 s1 c3])] [] [] [Al vA 125 r_1 p3 c3 s1]) (zC<|zM 1 u<|zU 0 u u u<|zA 2 u<|zB<|zQ<|
  qT (fun s2 K=>∀ p4 c4 r_2,K [2,3,12,13] [(0, []), (2, r_2), (3, bx b3 37 [vi r1.1, sv p4 s2.2 c4])] [1] [(14, vi s2.1)] [Al vA 125 r_2 p4 c4 s2.2]) (gv (fun _ k=>k none 0 []) [900,1,2,3] (gq [0,1]))<|fun s2 _ k p4 c4 r_2=>k<|
  jA 1 u<|zD<|zJ u (jC<|zD<|zQ<|zC<|qQ 1 u u u<|fun x1 b4 o1=>qP true zMr (gk 0) u<|wO .s (.agg #[vi 0, vi 0])<|fun b5=>qL .s 4 u u u<|zB<|qK<|zM 1 u<|zU 3 u u u<|zM 1 u<|zU 4 u u u<|
  zM 0 u<|zU 4 u u u<|zF (.agg #[vi x1.2, vi x1.1])<|wR .s (e := vA) 125 [vi x1.2, vi x1.1] ([(x1.2, x1.1)] : List qW) (rC (vP vI vI) rN)<|fun p5 c5=>wN .s 2 2 u (gk 0) u u<|fun x2 r_3 p6 c6=>zM 1 u<|
  qL .s 3 u u u<|zS<|qB<|zN<|jB 2 u<|qE (gv (fun _ k=>k p6 c6 r_3) [900,1,2,3] (gq [0,4])))<|qN<|qM<|qS<|qO<|zL (gv (fun _ k=>k p4 c4 r_2) [900,1,2,3] (gq [0])))<|fun s1 _ k p3 c3 r_1=>k<|zC<|zM 1 u<|zU 3 u u u<|
  zZ .s [2] [] zIA u u u (cq [0])<|fun r2 _ k r_4=>k<|zB<|zC<|jbL (fun q_=>[[], bx b2 37 [vi 0, .slice none 0 0], r_4, bx b3 37 [vi r1.1, .slice p3 q_ c3]]) (gk 0) u<|qU 3 2 u u u<|
  qL .s 1 u u u<|zB<|zG<|wW 2 0 u u<|wK u (lC 1 (.agg #[vi r1.1, sv p3 r2 c3]) u u lN) (fun _ k=>k p3 c3) [] (gq [0])
theorem zSV {qd : Prop} {y0 : wH} {y1 : Int} : qC qd prog 208 [.agg (yM y0 p1 c1).toArray, vi y1] [] [Rl vA p1 c1 y0.2, Pt (yK 64 (zH .u8)) 4 0 yY] (zDU y0 y1) fun r K=>∀ p2 c2,K (sv p2 r c2) [] [Rl (zH .i64) p2 c2 r] :=
 zX call208 func208 u fun X=>zC<|qX .s u<|fun b1=>zA 1 u<|zB<|zC<|qU 0 2 u u u<|qF zUB u (cq [0])<|fun r1 _ k p2 c2=>k<|zA 1 u<|qF zKg u (cq [0,2])<|fun r2 _ k p3 c3=>k<|zA 1 u<|zB<|zG<|
  zP u u (fun _ k=>k p3 c3) [] (gq [0])
theorem zNA {qd : Prop} {y0 : uE} : vZ qd prog 268 [pt b1 0] [bx b1 232 (uB [vi y0.1, sv p1 y0.2.1 c1] 40 y0.2.2.1 [sv p2 y0.2.2.2.1 c2, vb y0.2.2.2.2]), r_1] [Rl (wB (zH .i64)) p1 c1 y0.2.1, Al (wB (zH .i64)) 22 r_1 p2 c2 y0.2.2.2.1] (zB1 y0) fun L r K=>∀ p3 c3,K (.tuple #[sv p3 r.1 c3, vi r.2]) L [Rl (zH .i64) p3 c3 r.1] :=
 zX call268 func268 u fun X=>jA 2 u<|zC<|zA 1 u<|vE (zH .i64) 3<|zB<|zD<|zC<|zA 2 u<|zM 0 u<|zU 0 u u u<|zA 1 u<|zB<|zQ<|
  qT (fun s1 K=>∀ p3 c3 r_2,K [0,9] [(2, r_2)] [1,2] [(4, sv p3 s1.1 c3), (10, vi s1.2)] [Al (zH .i64) 3 r_2 p3 c3 s1.1]) (gv (fun _ k=>k none 0 []) [0,1,2] (gq [0,1,2]))<|fun s1 _ k p3 c3 r_2=>k<|jA 1 u<|zD<|zJ u (jC<|zD<|zQ<|
  jA 2 u<|zC<|zA 3 u<|zM 2 u<|jiL 40 u u<|fun u1 h1=>jlL 0 40 y0.2.2.1 [vi y0.1, sv p1 y0.2.1 c1] [sv p2 y0.2.2.2.1 c2, vb y0.2.2.2.2] h1 u u<|zB<|zQ<|jA 2 u<|zJ u (qK<|zA 1 u<|
  wR .s (e := zH .i64) 3 [vi 1] ([1] : List Int) (rC vI rN)<|fun p4 c4=>wN .s 2 1 u (gk 0) u u<|fun x1 r_3 p5 c5=>zA 1 u<|zS<|qB<|qB<|zN<|jB 2 u<|qE (gv (fun _ k=>k p5 c5 r_3) [0,1,2] (gq [0,3,4])))<|jA 2 u<|zJ u (
  qK<|zA 1 u<|wR .s (e := zH .i64) 3 [vi 2] ([2] : List Int) (rC vI rN)<|fun p6 c6=>wN .s 2 1 u (gk 0) u u<|fun x2 r_4 p7 c7=>zA 1 u<|zS<|qB<|qB<|zN<|jB 2 u<|qE (gv (fun _ k=>k p7 c7 r_4) [0,1,2] (gq [0,3,4])))<|
  jA 2 u<|zJ u (qK<|zA 1 u<|wR .s (e := zH .i64) 3 [vi 3] ([3] : List Int) (rC vI rN)<|fun p8 c8=>wN .s 2 1 u (gk 0) u u<|fun x3 r_5 p9 c9=>zA 1 u<|zS<|qB<|qB<|zN<|jB 2 u<|
  qE (gv (fun _ k=>k p9 c9 r_5) [0,1,2] (gq [0,3,4])))<|jA 3 u<|zG<|qV<|qV<|qA<|wT<|qV<|qA<|wK u (lT u (lT u lN)) (fun _ k=>k none 0) [0,1] ⟨gn,d⟩)<|qN<|qM<|qS<|qO<|zN<|jA 3 u<|zG<|wW 2 0 u u<|
  wK u (lT u (lT u lN)) (fun _ k=>k p3 c3) [0,1] (gq [0])
theorem zOl {qd : Prop} {y0 : uE} {y1 : List Int} {y2 : Int} : vZ qd prog 347 [pt b1 0, sv p3 y1 c3, vi y2] [bx b1 232 (uB [vi y0.1, sv p1 y0.2.1 c1] 40 y0.2.2.1 [sv p2 y0.2.2.2.1 c2, vb y0.2.2.2.2]), r_1] [Rl (wB (zH .i64)) p1 c1 y0.2.1, Al (wB (zH .i64)) 22 r_1 p2 c2 y0.2.2.2.1, Rl (zH .i64) p3 c3 y1] (zCl y0 y1 y2) fun L r K=>∀ p4 c4,K (sv p4 r c4) L [Rl (zH .i64) p4 c4 r] :=
 zX call347 func347 u fun X=>jA 1 u<|zC<|zA 1 u<|vE (zH .i64) 3<|zB<|zD<|jA 3 u<|zQ<|
  qT (fun s1 K=>∀ p4 c4 r_2,K [0,2,10,11] [(2, r_2)] [3,1,2] [(7, sv p4 s1.1 c4), (12, vi s1.2)] [Al (zH .i64) 3 r_2 p4 c4 s1.1]) (gv (fun _ k=>k none 0 []) [0,1,2] (gq [0,3,1,2]))<|fun s1 _ k p4 c4 r_2=>k<|jA 1 u<|zD<|zJ u (jC<|
  zD<|zQ<|zC<|qQ 1 u u u<|fun x1 b2 o1=>qP false oI (gk 0) u<|zA 1 u<|zB<|zC<|zA 3 u<|zM 2 u<|jiL 40 u u<|fun u1 h1=>jlL 0 40 y0.2.2.1 [vi y0.1, sv p1 y0.2.1 c1] [sv p2 y0.2.2.2.1 c2, vb y0.2.2.2.2] h1 u u<|
  zA 3 u<|zB<|zJ u (qK<|zA 2 u<|wR .s (e := zH .i64) 3 [vi x1] ([x1] : List Int) (rC vI rN)<|fun p5 c5=>wN .s 2 2 u (gk 0) u u<|fun x2 r_3 p6 c6=>zA 1 u<|zS<|qB<|zN<|jB 2 u<|
  qE (gv (fun _ k=>k p6 c6 r_3) [0,1,2] (gq [0,4,5,6])))<|wD<|qB<|zN<|jB 2 u<|qE (gv (fun _ k=>k p4 c4 r_2) [0,1,2] (gq [1,2,3,4])))<|qN<|qM<|qS<|qO<|zN<|jA 2 u<|zG<|wW 2 0 u u<|
  zP u u (fun _ k=>k p4 c4) [0,1] (gq [0])
theorem zNe {qd : Prop} {y0 : uE} {y1 : Int} : qC qd prog 318 [pt b1 0, vi y1] [bx b1 232 (uB [vi y0.1, sv p1 y0.2.1 c1] 40 y0.2.2.1 [sv p2 y0.2.2.2.1 c2, vb y0.2.2.2.2]), r_1] [Rl (wB (zH .i64)) p1 c1 y0.2.1, Al (wB (zH .i64)) 22 r_1 p2 c2 y0.2.2.2.1] (zBx y0 y1) fun r K=>∀ p3 c3 r_2,K (.tuple #[]) [bx b1 232 (uB [vi y0.1, sv p1 y0.2.1 c1] 40 r.1 [sv p3 r.2 c3, vb y0.2.2.2.2]), r_2] [Al (wB (zH .i64)) 22 r_2 p3 c3 r.2] :=
 zX call318 func318 u fun X=>zC<|zA 2 u<|zM 1 u<|zU 0 u u u<|zA 1 u<|qQ 0 u u u<|fun x1 b2 o1=>qP false oL (gk 0) u<|fun p3 c3=>zA 2 u<|zB<|
  wL (fun s1 K=>K [0,4] [(0, bx b1 232 (uB [vi y0.1, sv p1 y0.2.1 c1] 40 s1.2 [sv p2 y0.2.2.2.1 c2, vb y0.2.2.2.2]))] [0,2,3] [(5, vi s1.1)] []) (zC<|zA 3 u<|zM 2 u<|jiL 40 u u<|fun u1 h1=>
  jlL 0 40 y0.2.2.1 [vi y0.1, sv p1 y0.2.1 c1] [sv p2 y0.2.2.2.1 c2, vb y0.2.2.2.2] h1 u u<|zB<|zQ<|jA 2 u<|zJ u (jA 3 u<|zQ<|
  qT (fun s2 K=>K [0,4,5,26,27] [(0, bx b1 232 (uB [vi y0.1, sv p1 y0.2.1 c1] 40 s2.2 [sv p2 y0.2.2.2.1 c2, vb y0.2.2.2.2]))] [0,2,3] [(28, vi s2.1)] []) (gv kk [0,1] (gq [0,2,3]))<|fun s2 _ k=>k<|jA 1 u<|zD<|zJ u (jC<|
  zD<|zQ<|zC<|qQ 0 u u u<|fun x2 b3 o2=>qP false oI (gk 0) u<|zA 1 u<|zB<|uO [10] [0] 11<|zW 8 [0,1,2] u<|qR 3 2 u u<|z4Q 40 4 u u u<|fun u2 h2=>
  jdlL 5 0 40 s2.2 [vi y0.1, sv p1 y0.2.1 c1] [sv p2 y0.2.2.2.1 c2, vb y0.2.2.2.2] h2 u u u<|zW 3 [6,7] u<|qR 8 2 u u<|z4Q 40 9 u u u<|fun u3 h3=>qH 10<|
  jsL (yE .i64 (yT s2.2 x2) 4) (.f u) 0 40 s2.2 [vi y0.1, sv p1 y0.2.1 c1] [sv p2 y0.2.2.2.1 c2, vb y0.2.2.2.2] h3 u u u<|jdb [] [0]<|qY<|qB<|zN<|jB 2 u<|qE (gv kk [0,1] (gq [1,2,3])))<|qN<|qM<|qS<|qO<|qB<|
  zL (gv kk [0,1] (gq [0,1,2])))<|jA 2 u<|zJ u (jB 1 u<|qB<|zL (gv kk [0,1] (gq [0,2,3])))<|jA 2 u<|zJ u (
  wL (fun s3 K=>K [0,4] [(0, bx b1 232 (uB [vi y0.1, sv p1 y0.2.1 c1] 40 s3 [sv p2 y0.2.2.2.1 c2, vb y0.2.2.2.2]))] [0,2,3] [] []) (jA 3 u<|zQ<|
  qT (fun s4 K=>K [0,4,47,48] [(0, bx b1 232 (uB [vi y0.1, sv p1 y0.2.1 c1] 40 s4.2 [sv p2 y0.2.2.2.1 c2, vb y0.2.2.2.2]))] [0,2,3] [(49, vi s4.1)] []) (gv kk [0,1] (gq [0,2,3]))<|fun s4 _ k=>k<|jA 1 u<|zD<|zJ u (jC<|zD<|
  zQ<|zC<|qQ 0 u u u<|fun x3 b4 o3=>qP false oI (gk 0) u<|zA 1 u<|zB<|uO [10] [0] 11<|zW 8 [0,1,2] u<|qR 3 2 u u<|z4Q 40 4 u u u<|fun u4 h4=>
  jdlL 5 0 40 s4.2 [vi y0.1, sv p1 y0.2.1 c1] [sv p2 y0.2.2.2.1 c2, vb y0.2.2.2.2] h4 u u u<|zW 3 [6,7] u<|qR 8 2 u u<|z4Q 40 9 u u u<|fun u5 h5=>qH 10<|
  jsL (yE .i64 (yT s4.2 x3) 12) (.f u) 0 40 s4.2 [vi y0.1, sv p1 y0.2.1 c1] [sv p2 y0.2.2.2.1 c2, vb y0.2.2.2.2] h5 u u u<|jdb [] [0]<|qY<|qB<|zN<|jB 2 u<|qE (gv kk [0,1] (gq [1,2,3])))<|qN<|qM<|qS<|qO<|
  zL (gv kk [0,1] (gq [0,1,2])))<|fun s3 _ k=>k<|jB 1 u<|qB<|zL (gv kk [0,1] (gq [0,1,2])))<|wD<|qB<|zL (gv kk [0,1] (gq [0,2,3])))<|fun s1 _ k=>k<|zC<|zA 3 u<|
  zZ .s [0, 1] [] zOl u u u (cq [1,2,0])<|fun r1 _ k p4 c4=>k<|zA 1 u<|zB<|jA 3 u<|zJ u (uO [13] [0] 14<|zW 12 [0,1] u<|yF 2 0 u u u u<|fun x4 b5 o4=>yD 3 false oI u (gk 0) u<|
  zW 9 [4] u<|qR 5 2 u u<|z4Q 40 6 u u u<|fun u6 h6=>jdlL 7 0 40 s1.2 [vi y0.1, sv p1 y0.2.1 c1] [sv p2 y0.2.2.2.1 c2, vb y0.2.2.2.2] h6 u u u<|zW 3 [8,9,10] u<|qR 11 2 u u<|z4Q 40 12 u u u<|fun u7 h7=>
  qH 13<|jsL (yE .i64 (yT s1.2 x4) s1.1) (.f u) 0 40 s1.2 [vi y0.1, sv p1 y0.2.1 c1] [sv p2 y0.2.2.2.1 c2, vb y0.2.2.2.2] h7 u u u<|jdb [] [0]<|qY<|jrn<|wK u lN (fun _ k=>k p2 c2 r_1) [0,1] (gq [4]))<|wD<|jrn<|
  wK u lN (fun _ k=>k p2 c2 r_1) [0,1] (gq [3])
theorem zF2 {qd : Prop} {y0 : uE} {y1 : List Int} {y2 : Int} : vZ qd prog 347 [pt b1 0, sv p3 y1 c3, vi y2] [bx b1 232 (uB [vi y0.1, sv p1 y0.2.1 c1] 40 y0.2.2.1 [sv p2 y0.2.2.2.1 c2, vb y0.2.2.2.2])] [Rl (wB (zH .i64)) p1 c1 y0.2.1, Rl (wB (zH .i64)) p2 c2 y0.2.2.2.1, Rl (zH .i64) p3 c3 y1] (zBO y0 y1 y2) fun L r K=>∀ p4 c4,K (sv p4 r c4) L [Rl (zH .i64) p4 c4 r] :=
 zX call347 func347 u fun X=>jA 1 u<|zC<|zA 1 u<|vE (zH .i64) 3<|zB<|zD<|jA 3 u<|zQ<|
  qT (fun s1 K=>∀ p4 c4 r_1,K [0,2,10,11] [(1, r_1)] [3,1,2] [(7, sv p4 s1.1 c4), (12, vi s1.2)] [Al (zH .i64) 3 r_1 p4 c4 s1.1]) (gv (fun _ k=>k none 0 []) [0,1] (gq [0,3,1,2]))<|fun s1 _ k p4 c4 r_1=>k<|jA 1 u<|zD<|zJ u (jC<|zD<|
  zQ<|zC<|qQ 1 u u u<|fun x1 b2 o1=>qP false oI (gk 0) u<|zA 1 u<|zB<|zC<|zA 3 u<|zM 2 u<|jiL 40 u u<|fun u1 h1=>jlL 0 40 y0.2.2.1 [vi y0.1, sv p1 y0.2.1 c1] [sv p2 y0.2.2.2.1 c2, vb y0.2.2.2.2] h1 u u<|
  zA 3 u<|zB<|zJ u (qK<|zA 2 u<|wR .s (e := zH .i64) 3 [vi x1] ([x1] : List Int) (rC vI rN)<|fun p5 c5=>wN .s 1 2 u (gk 0) u u<|fun x2 r_2 p6 c6=>zA 1 u<|zS<|qB<|zN<|jB 2 u<|
  qE (gv (fun _ k=>k p6 c6 r_2) [0,1] (gq [0,4,5,6])))<|wD<|qB<|zN<|jB 2 u<|qE (gv (fun _ k=>k p4 c4 r_1) [0,1] (gq [1,2,3,4])))<|qN<|qM<|qS<|qO<|zN<|jA 2 u<|zG<|wW 1 0 u u<|zP u u (fun _ k=>k p4 c4) [0] (gq [0])
theorem zMh {qd : Prop} {y0 : uE} {y1 : Int} : vZ qd prog 317 [pt b1 0, vi y1] [bx b1 232 (uB [vi y0.1, sv p1 y0.2.1 c1] 40 y0.2.2.1 [sv p2 y0.2.2.2.1 c2, vb y0.2.2.2.2])] [Rl (wB (zH .i64)) p1 c1 y0.2.1, Rl (wB (zH .i64)) p2 c2 y0.2.2.2.1] (zBh y0 y1) fun L r K=>K (vi r) L [] :=
 zX call317 func317 u fun X=>jA 1 u<|zC<|zA 2 u<|zM 1 u<|zU 0 u u u<|zA 1 u<|qQ 0 u u u<|fun x1 b2 o1=>qP false oL (gk 0) u<|fun p3 c3=>zA 2 u<|zB<|wL (fun s1 K=>K [0,5] [] [0,2,3] [(6, vi s1)] []) (zC<|zA 2 u<|
  zZ .s [0] [] zF2 u u u (cq [2,3,0])<|fun r1 _ k p4 c4=>k<|zA 4 u<|zB<|zJ u (jB 3 u<|zL (gv kk [0] (gq [1,3,4])))<|wD<|zL (gv kk [0] (gq [1,3,4])))<|fun s1 _ k=>k<|
  wL (fun s2 K=>K [0,5] [] [0,1,2] [(6, vi s2)] []) (zC<|zA 2 u<|zZ .s [0] [] zF2 u u u (cq [1,2,0])<|fun r2 _ k p5 c5=>k<|zA 2 u<|zB<|zJ u (jB 3 u<|zL (gv kk [0] (gq [1,2,3])))<|wD<|
  zL (gv kk [0] (gq [1,2,3])))<|fun s2 _ k=>k<|zD<|wL (fun s3 K=>K [6] [] [1,2] [(43, vb s3)] []) (qK<|zA 2 u<|zZ .s [0] [] zF2 u u u (cq [1,2,0])<|fun r3 _ k p6 c6=>k<|zA 5 u<|wJ 37 u (
  zA 5 u<|zF (vb true)<|zS<|zL (gv kk [0] (gq [2,3])))<|zA 2 u<|zZ .s [0] [] zF2 u u u (cq [2,3,1])<|fun r4 _ k p7 c7=>k<|zA 2 u<|zF (vb ((len r4) == 0))<|zS<|zL (gv kk [0] (gq [3,4]))
  )<|fun s3 _ k=>k<|zJ u (jB 3 u<|zN<|jA 2 u<|zG<|zP u u kk [0] d)<|jC<|jA 2 u<|zG<|zP u u kk [0] d
theorem zRN {qd : Prop} {y0 : List Int} {y1 : Int} : qC qd prog 192 [sv p1 y0 c1, vi y1] [] [Rl (zH .i64) p1 c1 y0] (zDx y0 y1) fun r K=>K (vi r) [] [] :=
 zX call192 func192 u fun X=>jA 1 u<|zD<|jA 3 u<|zQ<|qT (fun s1 K=>K [0,1,7] [] [0] [(8, vi s1)] []) (gv kk [] (gq [0]))<|fun s1 _ k=>k<|jA 1 u<|zD<|zJ u (jC<|zD<|zQ<|jA 2 u<|zC<|zA 3 u<|qQ 0 u u u<|fun x1 b1 o1=>
  qP false oI (gk 0) u<|zA 1 u<|zB<|zJ u (jA 2 u<|zG<|qV<|qA<|wT<|qV<|qA<|zP u u kk [] d)<|wD<|qB<|zN<|jB 2 u<|qE (gv kk [] (gq [1])))<|qN<|qM<|qS<|qO<|zN<|jA 1 u<|zG<|
  zP u u kk [] d
theorem zCm {qd : Prop} {y0 : List Int} {y1 : Int} : qC qd prog 124 [sv p1 y0 c1, vi y1] [] [Rl (zH .i64) p1 c1 y0] (zBA y0 y1) fun r K=>K (vb r) [] [] :=
 zX call124 func124 u fun X=>jA 1 u<|zC<|zA 2 u<|qF zRN u (cq [0])<|fun r1 _ k=>k<|zA 2 u<|zB<|zG<|zP u u kk [] d
theorem zND {qd : Prop} {y0 : uE} : qC qd prog 267 [pt b1 0] [bx b1 232 (uB [vi y0.1, sv p1 y0.2.1 c1] 40 y0.2.2.1 [sv p2 y0.2.2.2.1 c2, vb y0.2.2.2.2]), r_1] [Rl (wB (zH .i64)) p1 c1 y0.2.1, Al (wB (zH .i64)) 22 r_1 p2 c2 y0.2.2.2.1] (zBZ y0) fun r K=>∀ p3 c3 r_2,K (vb r.1) [bx b1 232 (uB [vi y0.1, sv p1 y0.2.1 c1] 40 r.2.1 [sv p3 r.2.2 c3, vb y0.2.2.2.2]), r_2] [Al (wB (zH .i64)) 22 r_2 p3 c3 r.2.2] :=
 zX call267 func267 u fun X=>jA 1 u<|zQ<|
  qT (fun s1 K=>∀ p3 c3 r_2,K [0] [(0, bx b1 232 (uB [vi y0.1, sv p1 y0.2.1 c1] 40 s1.1 [sv p3 s1.2 c3, vb y0.2.2.2.2])), (1, r_2)] [0] [] [Al (wB (zH .i64)) 22 r_2 p3 c3 s1.2]) (gv (fun _ k=>k p2 c2 r_1) [0,1] (gq [1,0]))<|
  fun s1 _ k p3 c3 r_2=>k<|zQ<|zC<|zA 2 u<|zM 2 u<|jlW 0 40 s1.1 [vi y0.1, sv p1 y0.2.1 c1] [sv p3 s1.2 c3, vb y0.2.2.2.2] u u<|jalA .s (uB [] 40 (List.replicate 40 (0 : Int)) [])<|fun b2=>
  jsW s1.1 .s 2 40 (List.replicate 40 (0 : Int)) [] [] u u u<|zB<|
  zY8 (fun s2 K=>∀ p4 c4 r_3,K [0,3] [(0, bx b1 232 (uB [vi y0.1, sv p1 y0.2.1 c1] 40 s2.1 [sv p4 s2.2 c4, vb y0.2.2.2.2])), (1, r_3)] [1] [] [Al (wB (zH .i64)) 22 r_3 p4 c4 s2.2]) (zC<|zA 2 u<|zM 0 u<|zU 0 u u u<|
  zA 1 u<|zB<|zQ<|
  qT (fun s3 K=>∀ p5 c5 r_4,K [0,3,12] [(0, bx b1 232 (uB [vi y0.1, sv p1 y0.2.1 c1] 40 s3.2.1 [sv p5 s3.2.2 c5, vb y0.2.2.2.2])), (1, r_4)] [1] [(13, vi s3.1)] [Al (wB (zH .i64)) 22 r_4 p5 c5 s3.2.2]) (gv (fun _ k=>k p3 c3 r_2) [0,1,2] (gq [0,1]))<|
  fun s3 _ k p5 c5 r_4=>k<|jA 1 u<|zD<|zJ u (jC<|zD<|zQ<|jA 2 u<|zD<|yC [13] [0] 14<|zW 11 [0,1,2] u<|qR 3 2 u u<|z4Q 40 4 u u u<|fun u1 h1=>
  jdlL 5 0 40 s3.2.1 [vi y0.1, sv p1 y0.2.1 c1] [sv p5 s3.2.2 c5, vb y0.2.2.2.2] h1 u u u<|zW 5 [6,7,10] u<|qR 11 2 u u<|qH 8<|zZ (.f u) [0] [1] zMh u u u ⟨ck 1,cl 1 0,d⟩<|fun r1 _ k=>k<|qD<|
  zW 2 [9] u<|z4Q 40 12 u u u<|fun u2 h2=>qH 13<|jsL (yE .i64 (yT s3.2.1 s3.1) r1) (.f u) 0 40 s3.2.1 [vi y0.1, sv p1 y0.2.1 c1] [sv p5 s3.2.2 c5, vb y0.2.2.2.2] h2 u u u<|jdb [] [0]<|qY<|zN<|zC<|zA 3 u<|
  zM 2 u<|jiL 40 u u<|fun u3 h3=>jlL 0 40 (xS 40 s3.2.1 s3.1 (yE .i64 (yT s3.2.1 s3.1) r1)) [vi y0.1, sv p1 y0.2.1 c1] [sv p5 s3.2.2 c5, vb y0.2.2.2.2] h3 u u<|zA 1 u<|zB<|zJ u (jA 1 u<|zG<|qA<|qV<|qA<|wT<|qV<|
  wT<|qV<|wT<|qV<|zP u u (fun _ k=>k p5 c5 r_4) [0,1] (gq [0]))<|jC<|qK<|zA 2 u<|zZ .s [0, 1] [] zNe u u u (cq [1,0])<|fun r2 _ k p6 c6 r_5=>k<|zS<|qB<|zN<|jB 2 u<|
  qE (gv (fun _ k=>k p6 c6 r_5) [0,1,2] (gq [0,2])))<|qN<|qM<|qS<|qO<|qE (gv (fun _ k=>k p5 c5 r_4) [0,1,2] (gq [0,1])))<|fun s2 _ k p4 c4 r_3=>k<|zD<|yC [] [0] 9<|zW 7 [0,1] u<|qR 2 2 u u<|zW 4 [3,4] u<|qR 5 0 u u<|
  wI 6 0 u u u u<|jdasl (k := 40) 7 s2.1 u u u<|fun x1 h4=>qH 8<|zZ (.f u) [] [0] zCm u u u ⟨cA 0 40 s2.1 [vi y0.1, sv p1 y0.2.1 c1] [sv p4 s2.2 c4, vb y0.2.2.2.2] h4 rfl,d⟩<|fun r3 _ k=>k<|qD<|
  qY<|zN<|zJ u (jA 1 u<|zG<|qA<|qV<|wT<|qV<|zP u u (fun _ k=>k p4 c4 r_3) [0,1] (gq [0]))<|jC<|yC [] [0, 2] 6<|zW 4 [0,1] u<|qR 2 2 u u<|
  jdlW 3 0 40 s2.1 [vi y0.1, sv p1 y0.2.1 c1] [sv p4 s2.2 c4, vb y0.2.2.2.2] u u u<|jdlW 4 2 40 s1.1 [] [] u u u<|
  tU (v := vb (aeq 40 s2.1 s1.1)) 5 u (fun h=>z5U h u u underlying230 underlying3 (by kernel_rfl) (by kernel_rfl) (by kernel_rfl) (by kernel_rfl))<|qY<|zN<|zJ u (jA 1 u<|zG<|qV<|wT<|qV<|
  zP u u (fun _ k=>k p4 c4 r_3) [0,1] (gq [0]))<|wD<|qB<|qE (gv (fun _ k=>k p4 c4 r_3) [0,1] (gq [0,1]))
theorem zMg {qd : Prop} (k : Nat) :
    (∀ {y0 : uE} {b1 : Nat} {p1 : Option Addr} {c1 : Nat} {p2 : Option Addr} {c2 : Nat} {r_1 : zY}, qC qd prog 209 [pt b1 0] [bx b1 232 (uB [vi y0.1, sv p1 y0.2.1 c1] 40 y0.2.2.1 [sv p2 y0.2.2.2.1 c2, vb y0.2.2.2.2]), r_1] [Rl (wB (zH .i64)) p1 c1 y0.2.1, Al (wB (zH .i64)) 22 r_1 p2 c2 y0.2.2.2.1] (zBV k y0) fun r K=>∀ p3 c3 r_2,K (.tuple #[]) [bx b1 232 (uB [vi y0.1, sv p1 y0.2.1 c1] 40 r.1 [sv p3 r.2.1 c3, vb r.2.2]), r_2] [Al (wB (zH .i64)) 22 r_2 p3 c3 r.2.1]) := by
  induction k with
  | zero => exact z2q call209
  | succ k ih =>
    have ih_search_finder_find := @ih
    exact @fun y0 b1 p1 c1 p2 c2 r_1=>zX (m1 := zAu (zBV k) y0) call209 func209 u fun X=>zD<|wL (fun s1 K=>∀ p3 c3 r_2,K [0] [(0, bx b1 232 (uB [vi y0.1, sv p1 y0.2.1 c1] 40 s1.2.1 [sv p3 s1.2.2 c3, vb y0.2.2.2.2])), (1, r_2)] [0] [(15, vb s1.1)] [Al (wB (zH .i64)) 22 r_2 p3 c3 s1.2.2]) (qK<|zA 2 u<|zM 43 u<|
  zU 0 u u u<|zA 1 u<|wJ 11 u (zA 3 u<|zF (vb true)<|zS<|zL (gv (fun _ k=>k p2 c2 r_1) [0,1] (gq [1,0])))<|zA 1 u<|zZ .s [0, 1] [] zND u u u (cq [0,1])<|fun r1 _ k p4 c4 r_3=>k<|zA 1 u<|
  zF (vb (!r1.1))<|zS<|zL (gv (fun _ k=>k p4 c4 r_3) [0,1] (gq [0,1])))<|fun s1 _ k p3 c3 r_2=>k<|zJ u (zG<|qA<|wK u lN (fun _ k=>k p3 c3 r_2) [0,1] (gq [0]))<|jC<|zC<|zA 1 u<|
  zZ .s [0, 1] [] zNA u u u (cq [1,0])<|fun r2 _ k p5 c5=>k<|zA 5 u<|zB<|zD<|jA 2 u<|zJ u (zC<|zA 3 u<|zM 42 u<|zU 0 u u u<|zA 3 u<|zM 43 u<|qL .s 0 u u u<|zB<|zC<|zA 3 u<|
  zM 42 u<|zU 0 u u u<|zA 1 u<|wR .s (e := wB (zH .i64)) 22 [sv p5 r2.1 c5] ([r2.1] : List (List Int)) (rC (vL (gk 0)) rN)<|fun p6 c6=>wN .s 1 2 u (gk 0) u u<|fun x1 r_4 p7 c7=>zA 1 u<|zM 42 u<|
  qL .s 0 u u u<|zB<|zG<|qA<|wK u lN (fun _ k=>k p7 c7 r_4) [0,1] (gq [0]))<|jC<|zC<|zA 2 u<|zM 2 u<|jlW 0 40 s1.2.1 [vi y0.1, sv p1 y0.2.1 c1] [sv p3 s1.2.2 c3, vb y0.2.2.2.2] u u<|
  jalA .s (uB [] 40 (List.replicate 40 (0 : Int)) [])<|fun b2=>jsW s1.2.1 .s 2 40 (List.replicate 40 (0 : Int)) [] [] u u u<|zB<|zC<|wR .s (e := zH .i64) 3 [vi 2, vi 4, vi 8] ([2, 4, 8] : List Int) (rC vI (rC vI (rC vI rN)))<|
  fun p8 c8=>zA 2 u<|zB<|zQ<|
  qT (fun s2 K=>∀ p9 c9 r_5,K [0,3,4,46,47] [(0, bx b1 232 (uB [vi y0.1, sv p1 y0.2.1 c1] 40 s1.2.1 [sv p9 s2.2.1 c9, vb s2.2.2])), (1, r_5)] [0,3] [(48, vi s2.1)] [Al (wB (zH .i64)) 22 r_5 p9 c9 s2.2.1]) (gv (fun _ k=>k p3 c3 r_2) [0,1,2] (gq [2,0,3]))<|
  fun s2 _ k p9 c9 r_5=>k<|jA 1 u<|zD<|zJ u (jC<|zD<|zQ<|zC<|qQ 1 u u u<|fun x2 b3 o1=>qP false oI (gk 0) u<|zA 1 u<|zB<|zC<|zA 1 u<|jiL 40 u u<|fun u1 h2=>jlL 2 40 s1.2.1 [] [] h2 u u<|zA 3 u<|zB<|
  zJ u (zC<|zA 4 u<|zM 2 u<|jiL 40 u u<|fun u2 h3=>jsL x2 .s 0 40 s1.2.1 [vi y0.1, sv p1 y0.2.1 c1] [sv p9 s2.2.1 c9, vb s2.2.2] h3 u u u<|zB<|zC<|zA 1 u<|
  zZ .s [0, 1] [] ih_search_finder_find u u u (cq [3,1])<|fun r3 _ k p10 c10 r_6=>k<|zB<|qK<|zA 1 u<|jlW 2 40 s1.2.1 [] [] u u<|zA 1 u<|zM 2 u<|
  jsW s1.2.1 .s 0 40 r3.1 [vi y0.1, sv p1 y0.2.1 c1] [sv p10 r3.2.1 c10, vb r3.2.2] u u u<|zS<|qB<|zN<|jB 2 u<|qE (gv (fun _ k=>k p10 c10 r_6) [0,1,2] (gq [0,3,4])))<|wD<|qB<|zN<|jB 2 u<|
  qE (gv (fun _ k=>k p9 c9 r_5) [0,1,2] (gq [1,2,3])))<|qN<|qM<|qS<|qO<|jrn<|wK u lN (fun _ k=>k p9 c9 r_5) [0,1] (gq [0])
theorem zPz {qd : Prop} {y0 : uE} : qC qd prog 209 [pt b1 0] [bx b1 232 (uB [vi y0.1, sv p1 y0.2.1 c1] 40 y0.2.2.1 [sv p2 y0.2.2.2.1 c2, vb y0.2.2.2.2]), r_1] [Rl (wB (zH .i64)) p1 c1 y0.2.1, Al (wB (zH .i64)) 22 r_1 p2 c2 y0.2.2.2.1] (zDK y0) fun r K=>∀ p3 c3 r_2,K (.tuple #[]) [bx b1 232 (uB [vi y0.1, sv p1 y0.2.1 c1] 40 r.1 [sv p3 r.2.1 c3, vb r.2.2]), r_2] [Al (wB (zH .i64)) 22 r_2 p3 c3 r.2.1] := zQr fun k => (zMg k)
theorem zH8 {qd : Prop} {y0 : wH} : qC qd prog 143 [.agg (yM y0 p1 c1).toArray] [] [Rl vA p1 c1 y0.2, Pt (yK 64 (zH .u8)) 4 0 yY] (zAd y0) fun r K=>∀ p2 c2,K (.tuple #[sv p2 r.1 c2, vi r.2]) [] [Rl (wB (zH .i64)) p2 c2 r.1] :=
 zX call143 func143 u fun X=>zC<|qX .s u<|fun b1=>zA 2 u<|zB<|zD<|zC<|qU 0 2 u u u<|qF zKs u (cq [0])<|fun r1 _ k=>k<|zA 1 u<|zB<|jA 2 u<|zJ u (jA 3 u<|zG<|qA<|wK u (lT u (lT u lN)) (fun _ k=>k none 0) [] ⟨gn,d⟩)<|
  jC<|zC<|zM 0 u<|zU 0 u u u<|zF (.agg (uB [vi y0.1, .slice none 0 0] 40 (List.replicate 40 (0 : Int)) [.slice none 0 0, vb false]).toArray)<|vE (wB (zH .i64)) 22<|vE (wB (zH .i64)) 22<|qX .s u<|fun b2=>
  zA 1 u<|zB<|wL (fun s1 K=>∀ p2 c2 r_1,K [5] [(0, []), (1, r_1), (3, bx b2 232 (uB [vi y0.1, sv p2 s1.1 c2] 40 s1.2 [sv none ([] : List (List Int)) 0, vb false]))] [0,3] [] [Al (wB (zH .i64)) 22 r_1 p2 c2 s1.1]) (zC<|
  zM 0 u<|zU 0 u u u<|zA 1 u<|zB<|zQ<|
  qT (fun s2 K=>∀ p3 c3 r_2,K [1,5,17] [(1, r_2), (3, bx b2 232 (uB [vi y0.1, sv p3 s2.2.1 c3] 40 s2.2.2 [sv none ([] : List (List Int)) 0, vb false]))] [2,0,3] [(18, vi s2.1)] [Al (wB (zH .i64)) 22 r_2 p3 c3 s2.2.1]) (gv (fun _ k=>k none 0 []) [0,1,2,3] (gq [1,2,0,3]))<|
  fun s2 _ k p3 c3 r_2=>k<|jA 1 u<|zD<|zJ u (jC<|zD<|zQ<|jA 2 u<|yC [12] [0, 3] 13<|zW 10 [0,1,2] u<|qR 3 1 u u<|wI 4 3 u u u u<|vM 5 0 2 u u u u<|zW 6 [6] u<|qH 7<|
  zZ (.f u) [] [] zSV u u u (cq [1,3])<|fun r2 _ k p4 c4=>k<|qD<|qH 8<|wR (.f u) (e := wB (zH .i64)) 22 [sv p4 r2 c4] ([r2] : List (List Int)) (rC (vL (gk 0)) rN)<|fun p5 c5=>qD<|qH 9<|
  wN (.f u) 1 2 u (gk 0) u u<|fun x1 r_3 p6 c6=>qD<|zW 2 [10] u<|qR 11 1 u u<|qH 12<|qL (o := 1) (.f u) 3 u u u<|jdb [] [0, 3]<|qY<|zN<|qK<|zA 3 u<|zM 2 u<|jiL 40 u u<|fun u1 h2=>
  jsL 14 .s 3 40 s2.2.2 [vi y0.1, sv p6 x1 c6] [sv none ([] : List (List Int)) 0, vb false] h2 u u u<|zS<|qB<|zN<|jB 2 u<|qE (gv (fun _ k=>k p6 c6 r_3) [0,1,2,3] (gq [0,4,5,6])))<|qN<|qM<|qS<|qO<|
  zL (gv (fun _ k=>k p3 c3 r_2) [900,1,2,3] (gq [0,2,3])))<|fun s1 _ k p2 c2 r_1=>k<|zC<|zA 1 u<|wW 1 0 u u<|zZ .s [3, 2] [] zPz u u u (cq [0,2])<|fun r3 _ k p7 c7 r_4=>k<|zB<|zD<|zC<|zA 2 u<|
  zM 43 u<|zU 3 u u u<|zB<|zJ u (jA 2 u<|zG<|qA<|wK u (lT u (lT u lN)) (fun _ k=>k none 0) [] ⟨gn,d⟩)<|jC<|zC<|zA 2 u<|zM 42 u<|zU 3 u u u<|zA 2 u<|zB<|zG<|wW 2 0 u u<|
  wK u (lT u (lT u lN)) (fun _ k=>k p7 c7) [] (gq [0])
theorem zEE {qd : Prop} {y0 : List Int} {y1 : List Int} : qC qd prog 213 [sv p1 y0 c1, sv p2 y1 c2] [] [Rl (zH .i64) p1 c1 y0, Rl (zH .i64) p2 c2 y1] (zB3 y0 y1) fun r K=>∀ p3 c3,K (sv p3 r c3) [] [Rl (zH .i64) p3 c3 r] :=
 zX call213 func213 u fun X=>jA 1 u<|zC<|zA 1 u<|vE (zH .i64) 3<|zB<|zD<|jA 3 u<|zQ<|
  qT (fun s1 K=>∀ p3 c3 r_1,K [0,8,9] [(0, r_1)] [1,2] [(5, sv p3 s1.1 c3), (10, vi s1.2)] [Al (zH .i64) 3 r_1 p3 c3 s1.1]) (gv (fun _ k=>k none 0 []) [0] (gq [0,1,2]))<|fun s1 _ k p3 c3 r_1=>k<|jA 1 u<|zD<|zJ u (jC<|zD<|zQ<|zC<|
  qQ 2 u u u<|fun x1 b1 o1=>qP false oI (gk 0) u<|zA 1 u<|zB<|qK<|zA 3 u<|qF zCM u (cq [2])<|fun r1 _ k p4 c4=>k<|wN .s 0 2 u (gk 0) u u<|fun x2 r_2 p5 c5=>zA 1 u<|zS<|qB<|zN<|jB 2 u<|
  qE (gv (fun _ k=>k p5 c5 r_2) [0] (gq [0,4,5])))<|qN<|qM<|qS<|qO<|zN<|jA 2 u<|zG<|wW 0 0 u u<|zP u u (fun _ k=>k p3 c3) [] (gq [0])
theorem zPg {qd : Prop} {y0 : Int} {y1 : List Int} : vZ qd prog 270 [vi y0, pt b1 0] [bx b1 22 [sv p1 y1 c1]] [Rl (zH .i64) p1 c1 y1] (zDL y0 y1) fun L r K=>K (vb r) L [] :=
 zX call270 func270 u fun X=>jA 1 u<|zC<|zU 0 u u u<|zA 1 u<|qF zCm u (cq [0])<|fun r1 _ k=>k<|zA 2 u<|zB<|zG<|zP u u kk [0] d
theorem zGC {qd : Prop} {y0 : List Int} {y1 : List Int} : vZ qd prog 178 [sv p1 y0 c1, .func (.func 270) #[] #[pt b1 0]] [bx b1 22 [sv p2 y1 c2]] [Rl (zH .i64) p1 c1 y0, Rl (zH .i64) p2 c2 y1] (zA5 y0 y1) fun L r K=>K (vi r) L [] :=
 zX call178 func178 u fun X=>jA 1 u<|zD<|jA 3 u<|zQ<|qT (fun s1 K=>K [0,1,7] [] [0,1] [(8, vi s1)] []) (gv kk [0] (gq [0,1]))<|fun s1 _ k=>k<|jA 1 u<|zD<|zJ u (jC<|zD<|zQ<|jA 2 u<|zC<|zA 3 u<|qQ 0 u u u<|fun x1 b2 o1=>
  qP false oI (gk 0) u<|zZ .s [0] [] zPg u u u (cq [2])<|fun r1 _ k=>k<|zB<|zJ u (jA 2 u<|zG<|qV<|qA<|wT<|qV<|qA<|zP u u kk [0] d)<|wD<|qB<|zN<|jB 2 u<|
  qE (gv kk [0] (gq [1,2])))<|qN<|qM<|qS<|qO<|zN<|jA 1 u<|zG<|zP u u kk [0] d
theorem zEj {qd : Prop} {y0 : List Int} {y1 : List Int} : vZ qd prog 116 [sv p1 y0 c1, .func (.func 270) #[] #[pt b1 0]] [bx b1 22 [sv p2 y1 c2]] [Rl (zH .i64) p1 c1 y0, Rl (zH .i64) p2 c2 y1] (zAC y0 y1) fun L r K=>K (vb r) L [] :=
 zX call116 func116 u fun X=>jA 1 u<|zC<|zA 2 u<|zZ .s [0] [] zGC u u u (cq [0,1])<|fun r1 _ k=>k<|zA 2 u<|zB<|zG<|zP u u kk [0] d
theorem zMP {qd : Prop} {y0 : List Int} {y1 : List Int} : qC qd prog 212 [sv p1 y0 c1, sv p2 y1 c2] [] [Rl (zH .i64) p1 c1 y0, Rl (zH .i64) p2 c2 y1] (zCX y0 y1) fun r K=>K (vb r) [] [] :=
 zX call212 func212 u fun X=>zC<|qX .s u<|fun b1=>zA 1 u<|zB<|jjn (fun s1 K=>K [(4, vb s1)] [[]] []) (qK<|zA 2 u<|zU 0 u u u<|zA 3 u<|wJ 10 u (zA 2 u<|zZ .s [0] [] zEj u u u (cq [0,1])<|
  fun r1 _ k=>k<|zA 1 u<|zF (vb (!r1))<|zA 1 u<|zS<|zL (gv kk [900] d))<|zA 4 u<|zF (vb false)<|zA 1 u<|zS<|zL (gv kk [900] d))<|fun s1 _ k=>k<|zG<|zP u u kk [] d
theorem zNx {qd : Prop} {y0 : List Int} {y1 : List Int} : qC qd prog 211 [sv p1 y0 c1, sv p2 y1 c2] [] [Rl (zH .i64) p1 c1 y0, Rl (zH .i64) p2 c2 y1] (zBy y0 y1) fun r K=>K (vb r) [] [] :=
 zX call211 func211 u fun X=>jA 1 u<|zC<|zA 1 u<|wR .s (e := zH .i64) 3 [vi 1] ([1] : List Int) (rC vI rN)<|fun p3 c3=>qF zEE u (cq [2,0])<|fun r1 _ k p4 c4=>k<|zA 1 u<|wR .s (e := zH .i64) 3 [vi 1] ([1] : List Int) (rC vI rN)<|
  fun p5 c5=>qF zEE u (cq [3,0])<|fun r2 _ k p6 c6=>k<|qF zMP u (cq [2,0])<|fun r3 _ k=>k<|zA 1 u<|zB<|zG<|zP u u kk [] d
theorem zG7 {qd : Prop} {y0 : List Int} {y2 : List Int} : vZ qd prog 269 [sv p1 y0 c1, pt b1 0, pt b2 0] [bx b1 234 [.func (.func 211) #[] #[]], bx b2 22 [sv p2 y2 c2]] [Rl (zH .i64) p1 c1 y0, Rl (zH .i64) p2 c2 y2] (zAa y0 y2) fun L r K=>K (vb r) L [] :=
 zX call269 func269 u fun X=>jA 1 u<|zC<|zU 0 u u u<|zA 1 u<|zU 1 u u u<|zZ .s [] [] zNx u u u (cq [0,1])<|fun r1 _ k=>k<|zA 1 u<|zB<|zG<|zP u u kk [0,1] d
theorem zGz {qd : Prop} {y0 : List (List Int)} {y2 : List Int} : vZ qd prog 275 [sv p1 y0 c1, .func (.func 269) #[] #[pt b1 0, pt b2 0]] [bx b1 234 [.func (.func 211) #[] #[]], bx b2 22 [sv p2 y2 c2]] [Rl (wB (zH .i64)) p1 c1 y0, Rl (zH .i64) p2 c2 y2] (zAg y0 y2) fun L r K=>K (vi r) L [] :=
 zX call275 func275 u fun X=>jA 1 u<|zD<|jA 3 u<|zQ<|qT (fun s1 K=>K [0,1,7] [] [0,1] [(8, vi s1)] []) (gv kk [0,1] (gq [0,1]))<|fun s1 _ k=>k<|jA 1 u<|zD<|zJ u (jC<|zD<|zQ<|jA 2 u<|zC<|zA 3 u<|qQ 0 u u u<|fun x1 b3 o1=>
  qP false oL (gk 0) u<|fun p3 c3=>zZ .s [0, 1] [] zG7 u u u (cq [0,3])<|fun r1 _ k=>k<|zB<|zJ u (jA 2 u<|zG<|qV<|qA<|wT<|qV<|qA<|zP u u kk [0,1] d)<|wD<|qB<|zN<|
  jB 2 u<|qE (gv kk [0,1] (gq [2,3])))<|qN<|qM<|qS<|qO<|zN<|jA 1 u<|zG<|zP u u kk [0,1] d
theorem zFQ {qd : Prop} {y0 : List (List Int)} {y2 : List Int} : vZ qd prog 218 [sv p1 y0 c1, .func (.func 269) #[] #[pt b1 0, pt b2 0]] [bx b1 234 [.func (.func 211) #[] #[]], bx b2 22 [sv p2 y2 c2]] [Rl (wB (zH .i64)) p1 c1 y0, Rl (zH .i64) p2 c2 y2] (zAI y0 y2) fun L r K=>K (vb r) L [] :=
 zX call218 func218 u fun X=>jA 1 u<|zC<|zA 2 u<|zZ .s [0, 1] [] zGz u u u (cq [0,1])<|fun r1 _ k=>k<|zA 2 u<|zB<|zG<|zP u u kk [0,1] d
theorem zHI {qd : Prop} {y0 : wH} : qC qd prog 210 [.agg (yM y0 p1 c1).toArray, .func (.func 211) #[] #[]] [] [Rl vA p1 c1 y0.2, Pt (yK 64 (zH .u8)) 4 0 yY] (zAm y0) fun r K=>∀ p2 c2,K (.tuple #[sv p2 r.1 c2, vi r.2]) [] [Rl (wB (zH .i64)) p2 c2 r.1] :=
 zX call210 func210 u fun X=>zC<|qX .s u<|fun b1=>qX .s u<|fun b2=>zA 2 u<|zB<|zC<|qU 0 2 u u u<|qF zH8 u (cq [0,1])<|fun r1 _ k p2 c2=>k<|zA 5 u<|zB<|zD<|jA 2 u<|zJ u (jA 3 u<|zG<|qA<|
  wK u (lT u (lT u lN)) (fun _ k=>k none 0) [] ⟨gn,d⟩)<|jC<|zC<|zA 1 u<|vE (wB (zH .i64)) 22<|zB<|zD<|jA 3 u<|zQ<|
  qT (fun s1 K=>∀ p3 c3 r_1,K [3,6,19,20] [(0, []), (2, r_1)] [1,3] [(8, sv p3 s1.1 c3), (21, vi s1.2)] [Al (wB (zH .i64)) 22 r_1 p3 c3 s1.1]) (gv (fun _ k=>k none 0 []) [900,1,2] (gq [0,1,3]))<|fun s1 _ k p3 c3 r_1=>k<|jA 1 u<|
  zD<|zJ u (jC<|zD<|zQ<|zC<|qQ 1 u u u<|fun x1 b3 o1=>qP false oL (gk 0) u<|fun p4 c4=>wO .s (.slice none 0 0)<|fun b4=>qL .s 3 u u u<|zB<|zC<|zA 2 u<|
  zZ .s [1, 3] [] zFQ u u u (cq [3,0])<|fun r2 _ k=>k<|zA 1 u<|zB<|zJ u (qK<|zA 1 u<|zU 3 u u u<|
  wR .s (e := wB (zH .i64)) 22 [sv p4 x1 c4] ([x1] : List (List Int)) (rC (vL (gk 0)) rN)<|fun p5 c5=>wN .s 2 3 u (gk 0) u u<|fun x2 r_2 p6 c6=>zA 1 u<|zS<|qB<|zN<|jB 2 u<|
  qE (gv (fun _ k=>k p6 c6 r_2) [900,1,2] (gq [0,5,6])))<|wD<|qB<|zN<|jB 2 u<|qE (gv (fun _ k=>k p3 c3 r_1) [900,1,2] (gq [2,3,4])))<|qN<|qM<|qS<|qO<|zN<|jA 3 u<|zG<|wW 2 0 u u<|
  wK u (lT u (lT u lN)) (fun _ k=>k p3 c3) [] (gq [0])
theorem zKS {qd : Prop} {y0 : wH} : qC qd prog 144 [.agg (yM y0 p1 c1).toArray] [] [Rl vA p1 c1 y0.2, Pt (yK 64 (zH .u8)) 4 0 yY] (zBN y0) fun r K=>∀ p2 c2,K (.tuple #[sv p2 r.1 c2, vi r.2]) [] [Rl (wB (zH .i64)) p2 c2 r.1] :=
 zX call144 func144 u fun X=>zC<|qX .s u<|fun b1=>zA 2 u<|zB<|zC<|qU 0 2 u u u<|qF zHI u (cq [0,1])<|fun r1 _ k p2 c2=>k<|zA 4 u<|zB<|zG<|wK u (lT u (lT u lN)) (fun _ k=>k p2 c2) [] (gq [0])
theorem zLe {qd : Prop} {y0 : wH} {y1 : List Int} : qC qd prog 273 [.agg (yM y0 p1 c1).toArray, sv p2 y1 c2] [] [Rl vA p1 c1 y0.2, Rl (zH .i64) p2 c2 y1] (zBq y0 y1) fun r K=>∀ p3 c3,K (sv p3 r c3) [] [Rl (zH .i64) p3 c3 r] :=
 zX call273 func273 u fun X=>zC<|qX .s u<|fun b1=>zA 1 u<|zB<|zC<|wR .s (e := zH .i64) 3 [vi 3] ([3] : List Int) (rC vI rN)<|fun p3 c3=>zM 0 u<|zU 0 u u u<|qF zFT u (cq [0])<|fun r1 _ k p4 c4 r_1=>k<|zA 1 u<|zB<|
  wL (fun s1 K=>∀ r_2,K [1,2] [(1, r_2)] [3,2] [(5, .slice p4 (List.length r1) c4)] [Ar (zH .i64) 3 r_2 p4 c4 (List.length r1) s1]) (zC<|zM 1 u<|zU 0 u u u<|zA 2 u<|zB<|zQ<|
  qT (fun s2 K=>∀ r_3,K [1,2,15,16] [(1, r_3)] [3,2] [(5, .slice p4 (List.length r1) c4), (17, vi s2.2)] [Ar (zH .i64) 3 r_3 p4 c4 (List.length r1) s2.1]) (gv (fun _ k=>k r_1) [0,1] (gq [0,3,2]))<|fun s2 _ k r_3=>k<|jA 1 u<|zD<|
  zJ u (jC<|zD<|zQ<|zC<|qQ 2 u u u<|fun x1 b2 o1=>qP true zMr (gk 0) u<|wO .s (.agg #[vi 0, vi 0])<|fun b3=>qL .s 2 u u u<|zB<|zC<|zA 1 u<|zM 0 u<|zU 2 u u u<|qF zCm u (cq [2])<|
  fun r2 _ k=>k<|zB<|zJ u (qK<|zA 1 u<|zM 1 u<|zU 2 u u u<|xE 1 u u u<|fun x2 h1 b4 hp1=>jsA .s 1 1 sI 2 false u hp1 h1 u u vI<|fun r_4=>zS<|qB<|zN<|jB 2 u<|qE (gv (fun _ k=>k r_4) [0,1] (gq [0,3,4])))<|
  wD<|qB<|zN<|jB 2 u<|qE (gv (fun _ k=>k r_3) [0,1] (gq [1,2,3])))<|qN<|qM<|qS<|qO<|zL (gv (fun _ k=>k r_3) [0,1] (gq [0,1,2])))<|fun s1 _ k r_2=>k<|zD<|jA 3 u<|zQ<|
  qT (fun s3 K=>∀ r_5,K [2,5,30,31] [(1, r_5)] [1,2] [(32, vi s3.2)] [Ar (zH .i64) 3 r_5 p4 c4 (List.length r1) s3.1]) (gv (fun _ k=>k r_2) [0,1] (gq [0,1,2]))<|fun s3 _ k r_5=>k<|jA 1 u<|zD<|zJ u (jC<|zD<|zQ<|zC<|
  qQ 1 u u u<|fun x3 b5 o2=>qP false oI (gk 0) u<|zA 1 u<|zB<|xG (fun K=>K [2,5,9,30,31,32] [] [1,2,3] [(43, vb ((decide (0 ≤ x3)) && (decide (x3 < y0.1))))] []) (qK<|zA 3 u<|yA (b := decide (0 ≤ x3)) 38 u (fun hb1=>
  zA 1 u<|zM 0 u<|zU 0 u u u<|zA 1 u<|zF (vb (decide (x3 < y0.1)))<|zS<|wQ 43 (vb ((decide (0 ≤ x3)) && (decide (x3 < y0.1)))) u (by rw [hb1]; rfl)<|zL (gv kk [0,1] (gq [1,2,3])))<|fun hb1=>zA 4 u<|
  zF (vb false)<|zS<|wQ 43 (vb ((decide (0 ≤ x3)) && (decide (x3 < y0.1)))) u (by rw [hb1]; rfl)<|zL (gv kk [0,1] (gq [1,2,3])))<|fun _ k=>k<|zJ u (qK<|zA 2 u<|xE 0 u u u<|fun x4 h2 b6 hp2=>
  jsA .s 1 0 sI 1 false u hp2 h2 u u vI<|fun r_6=>zS<|qB<|zN<|jB 2 u<|qE (gv (fun _ k=>k r_6) [0,1] (gq [0,2,3])))<|wD<|qB<|zN<|jB 2 u<|qE (gv (fun _ k=>k r_5) [0,1] (gq [0,1,2])))<|qN<|qM<|qS<|qO<|zN<|jA 2 u<|zG<|
  wW 1 0 u u<|jre 0 4 u u<|zP u u (fun _ k=>k p4 c4) [] (gq [0])
theorem zIJ {qd : Prop} {y0 : wH} : qC qd prog 216 [.agg (yM y0 p1 c1).toArray, .func (.func 144) #[] #[]] [] [Rl vA p1 c1 y0.2, Pt (yK 64 (zH .u8)) 4 0 yY] (zAy y0) fun r K=>∀ p2 c2,K (.tuple #[sv p2 r.1 c2, vi r.2]) [] [Rl (zH .i64) p2 c2 r.1] :=
 zX call216 func216 u fun X=>zC<|qX .s u<|fun b1=>zA 2 u<|zB<|zC<|zA 1 u<|qU 0 2 u u u<|zZ .s [] [] zKS u u u (cq [0,1])<|fun r1 _ k p2 c2=>k<|zA 5 u<|zB<|zD<|jA 2 u<|zJ u (jA 3 u<|zG<|qA<|
  wK u (lT u (lT u lN)) (fun _ k=>k none 0) [] ⟨gn,d⟩)<|jC<|yC [] [0] 9<|vM 0 0 2 u u u u<|zW 7 [1] u<|qH 2<|zZ (.f u) [] [] zR8 u u u (cq [0])<|fun r2 _ k p3 c3=>k<|qD<|qH 3<|
  zZ (.f u) [] [] zLh u u u (cq [2,0,3])<|fun r3 _ k p4 c4=>k<|qD<|zW 0 [4,5,6,7,8] u<|qY<|zN<|zD<|jA 2 u<|zJ u (jA 3 u<|zG<|qA<|wK u (lT u (lT u lN)) (fun _ k=>k none 0) [] ⟨gn,d⟩)<|jC<|zC<|
  qU 0 2 u u u<|zA 1 u<|qF zLe u (cq [3,0])<|fun r4 _ k p5 c5=>k<|zA 2 u<|zB<|zG<|wK u (lT u (lT u lN)) (fun _ k=>k p5 c5) [] (gq [0])
theorem zWo {qd : Prop} {y0 : wH} : qC qd prog 147 [.agg (yM y0 p1 c1).toArray] [] [Rl vA p1 c1 y0.2, Pt (yK 64 (zH .u8)) 4 0 yY] (zHK y0) fun r K=>∀ p2 c2,K (.tuple #[sv p2 r.1 c2, vi r.2]) [] [Rl (zH .i64) p2 c2 r.1] :=
 zX call147 func147 u fun X=>zC<|qX .s u<|fun b1=>zA 2 u<|zB<|zC<|qU 0 2 u u u<|qF zIJ u (cq [0,1])<|fun r1 _ k p2 c2=>k<|zA 4 u<|zB<|zG<|wK u (lT u (lT u lN)) (fun _ k=>k p2 c2) [] (gq [0])
theorem zKj {qd : Prop} {y0 : wH} : vZ qd prog 206 [.agg (yM y0 p1 c1).toArray, pt b1 0] [bx b1 184 [.func (.func 147) #[] #[]]] [Rl vA p1 c1 y0.2, Pt (yK 64 (zH .u8)) 4 0 yY] (zBK y0) fun L r K=>∀ p2 c2,K (.tuple #[sv p2 r.1 c2, vi r.2]) L [Rl (wB (zH .i64)) p2 c2 r.1] :=
 zX call206 func206 u fun X=>zC<|qX .s u<|fun b2=>zA 2 u<|zB<|zC<|zU 0 u u u<|qU 1 2 u u u<|zZ .s [] [] zWo u u u (cq [0,1])<|fun r1 _ k p2 c2=>k<|zA 5 u<|zB<|zD<|jA 2 u<|zJ u (jA 3 u<|zG<|qA<|
  wK u (lT u (lT u lN)) (fun _ k=>k none 0) [0] ⟨gn,d⟩)<|jC<|zC<|zA 1 u<|wR .s (e := wB (zH .i64)) 22 [sv p2 r1.1 c2] ([r1.1] : List (List Int)) (rC (vL (gk 0)) rN)<|fun p3 c3=>zA 2 u<|zB<|zG<|
  wK u (lT u (lT u lN)) (fun _ k=>k p3 c3) [0] (gq [0])
theorem zIs {qd : Prop} {y0 : wH} : vZ qd prog 207 [.agg (yM y0 p1 c1).toArray, pt b1 0] [bx b1 144 [.func (.func 206) #[] #[pt b2 0]], bx b2 184 [.func (.func 147) #[] #[]]] [Rl vA p1 c1 y0.2, Pt (yK 64 (zH .u8)) 4 0 yY] (zAW y0) fun L r K=>∀ p2 c2,K (.tuple #[sv p2 r.1 c2, vi r.2]) L [Rl (wB (zH .i64)) p2 c2 r.1] :=
 zX call207 func207 u fun X=>zC<|qX .s u<|fun b3=>zA 2 u<|zB<|zC<|zU 0 u u u<|qU 2 2 u u u<|zZ .s [1] [] zKj u u u (cq [0,1])<|fun r1 _ k p2 c2=>k<|zA 5 u<|zB<|zD<|jA 2 u<|zJ u (jA 3 u<|zG<|qA<|
  wK u (lT u (lT u lN)) (fun _ k=>k none 0) [0,1] ⟨gn,d⟩)<|jC<|zC<|zA 1 u<|vE (wB (zH .i64)) 22<|zB<|zD<|jA 3 u<|zQ<|
  qT (fun s1 K=>∀ p3 c3 r_1,K [19,20] [(2, []), (3, r_1)] [1,3] [(7, sv p3 s1.1 c3), (21, vi s1.2)] [Al (wB (zH .i64)) 22 r_1 p3 c3 s1.1]) (gv (fun _ k=>k none 0 []) [0,1,902,3] (gq [0,1,3]))<|fun s1 _ k p3 c3 r_1=>k<|jA 1 u<|zD<|
  zJ u (jC<|zD<|zQ<|zC<|qQ 1 u u u<|fun x1 b4 o1=>qP false oL (gk 0) u<|fun p4 c4=>zA 1 u<|zB<|qK<|zA 2 u<|qF zCM u (cq [0])<|fun r2 _ k p5 c5=>k<|
  wR .s (e := wB (zH .i64)) 22 [sv p5 r2 c5] ([r2] : List (List Int)) (rC (vL (gk 0)) rN)<|fun p6 c6=>wN .s 3 4 u (gk 0) u u<|fun x2 r_2 p7 c7=>zA 1 u<|zS<|qB<|zN<|jB 2 u<|
  qE (gv (fun _ k=>k p7 c7 r_2) [0,1,902,3] (gq [0,6,7])))<|qN<|qM<|qS<|qO<|zN<|jA 3 u<|zG<|wW 3 0 u u<|wK u (lT u (lT u lN)) (fun _ k=>k p3 c3) [0,1] (gq [0])
theorem zMj {qd : Prop} {y0 : List Int} {y1 : List Int} : qC qd prog 215 [sv p1 y0 c1, sv p2 y1 c2] [] [Rl (zH .i64) p1 c1 y0, Rl (zH .i64) p2 c2 y1] (zBf y0 y1) fun r K=>K (vb r) [] [] :=
 zX call215 func215 u fun X=>jA 1 u<|zC<|zA 1 u<|wR .s (e := zH .i64) 3 [vi 3] ([3] : List Int) (rC vI rN)<|fun p3 c3=>qF zEE u (cq [1,0])<|fun r1 _ k p4 c4=>k<|zA 1 u<|wR .s (e := zH .i64) 3 [vi 3] ([3] : List Int) (rC vI rN)<|
  fun p5 c5=>qF zEE u (cq [4,0])<|fun r2 _ k p6 c6=>k<|qF zMP u (cq [2,0])<|fun r3 _ k=>k<|zA 1 u<|zB<|zG<|zP u u kk [] d
theorem zFp {qd : Prop} {y0 : List Int} {y2 : List Int} : vZ qd prog 269 [sv p1 y0 c1, pt b1 0, pt b2 0] [bx b1 234 [.func (.func 215) #[] #[]], bx b2 22 [sv p2 y2 c2]] [Rl (zH .i64) p1 c1 y0, Rl (zH .i64) p2 c2 y2] (zA6 y0 y2) fun L r K=>K (vb r) L [] :=
 zX call269 func269 u fun X=>jA 1 u<|zC<|zU 0 u u u<|zA 1 u<|zU 1 u u u<|zZ .s [] [] zMj u u u (cq [0,1])<|fun r1 _ k=>k<|zA 1 u<|zB<|zG<|zP u u kk [0,1] d
theorem zFv {qd : Prop} {y0 : List (List Int)} {y2 : List Int} : vZ qd prog 275 [sv p1 y0 c1, .func (.func 269) #[] #[pt b1 0, pt b2 0]] [bx b1 234 [.func (.func 215) #[] #[]], bx b2 22 [sv p2 y2 c2]] [Rl (wB (zH .i64)) p1 c1 y0, Rl (zH .i64) p2 c2 y2] (zA3 y0 y2) fun L r K=>K (vi r) L [] :=
 zX call275 func275 u fun X=>jA 1 u<|zD<|jA 3 u<|zQ<|qT (fun s1 K=>K [0,1,7] [] [0,1] [(8, vi s1)] []) (gv kk [0,1] (gq [0,1]))<|fun s1 _ k=>k<|jA 1 u<|zD<|zJ u (jC<|zD<|zQ<|jA 2 u<|zC<|zA 3 u<|qQ 0 u u u<|fun x1 b3 o1=>
  qP false oL (gk 0) u<|fun p3 c3=>zZ .s [0, 1] [] zFp u u u (cq [0,3])<|fun r1 _ k=>k<|zB<|zJ u (jA 2 u<|zG<|qV<|qA<|wT<|qV<|qA<|zP u u kk [0,1] d)<|wD<|qB<|zN<|
  jB 2 u<|qE (gv kk [0,1] (gq [2,3])))<|qN<|qM<|qS<|qO<|zN<|jA 1 u<|zG<|zP u u kk [0,1] d
theorem zEz {qd : Prop} {y0 : List (List Int)} {y2 : List Int} : vZ qd prog 218 [sv p1 y0 c1, .func (.func 269) #[] #[pt b1 0, pt b2 0]] [bx b1 234 [.func (.func 215) #[] #[]], bx b2 22 [sv p2 y2 c2]] [Rl (wB (zH .i64)) p1 c1 y0, Rl (zH .i64) p2 c2 y2] (zAD y0 y2) fun L r K=>K (vb r) L [] :=
 zX call218 func218 u fun X=>jA 1 u<|zC<|zA 2 u<|zZ .s [0, 1] [] zFv u u u (cq [0,1])<|fun r1 _ k=>k<|zA 2 u<|zB<|zG<|zP u u kk [0,1] d
theorem zGt {qd : Prop} {y0 : wH} : qC qd prog 210 [.agg (yM y0 p1 c1).toArray, .func (.func 215) #[] #[]] [] [Rl vA p1 c1 y0.2, Pt (yK 64 (zH .u8)) 4 0 yY] (zAh y0) fun r K=>∀ p2 c2,K (.tuple #[sv p2 r.1 c2, vi r.2]) [] [Rl (wB (zH .i64)) p2 c2 r.1] :=
 zX call210 func210 u fun X=>zC<|qX .s u<|fun b1=>qX .s u<|fun b2=>zA 2 u<|zB<|zC<|qU 0 2 u u u<|qF zH8 u (cq [0,1])<|fun r1 _ k p2 c2=>k<|zA 5 u<|zB<|zD<|jA 2 u<|zJ u (jA 3 u<|zG<|qA<|
  wK u (lT u (lT u lN)) (fun _ k=>k none 0) [] ⟨gn,d⟩)<|jC<|zC<|zA 1 u<|vE (wB (zH .i64)) 22<|zB<|zD<|jA 3 u<|zQ<|
  qT (fun s1 K=>∀ p3 c3 r_1,K [3,6,19,20] [(0, []), (2, r_1)] [1,3] [(8, sv p3 s1.1 c3), (21, vi s1.2)] [Al (wB (zH .i64)) 22 r_1 p3 c3 s1.1]) (gv (fun _ k=>k none 0 []) [900,1,2] (gq [0,1,3]))<|fun s1 _ k p3 c3 r_1=>k<|jA 1 u<|
  zD<|zJ u (jC<|zD<|zQ<|zC<|qQ 1 u u u<|fun x1 b3 o1=>qP false oL (gk 0) u<|fun p4 c4=>wO .s (.slice none 0 0)<|fun b4=>qL .s 3 u u u<|zB<|zC<|zA 2 u<|
  zZ .s [1, 3] [] zEz u u u (cq [3,0])<|fun r2 _ k=>k<|zA 1 u<|zB<|zJ u (qK<|zA 1 u<|zU 3 u u u<|
  wR .s (e := wB (zH .i64)) 22 [sv p4 x1 c4] ([x1] : List (List Int)) (rC (vL (gk 0)) rN)<|fun p5 c5=>wN .s 2 3 u (gk 0) u u<|fun x2 r_2 p6 c6=>zA 1 u<|zS<|qB<|zN<|jB 2 u<|
  qE (gv (fun _ k=>k p6 c6 r_2) [900,1,2] (gq [0,5,6])))<|wD<|qB<|zN<|jB 2 u<|qE (gv (fun _ k=>k p3 c3 r_1) [900,1,2] (gq [2,3,4])))<|qN<|qM<|qS<|qO<|zN<|jA 3 u<|zG<|wW 2 0 u u<|
  wK u (lT u (lT u lN)) (fun _ k=>k p3 c3) [] (gq [0])
theorem zJs {qd : Prop} {y0 : wH} : qC qd prog 146 [.agg (yM y0 p1 c1).toArray] [] [Rl vA p1 c1 y0.2, Pt (yK 64 (zH .u8)) 4 0 yY] (zBF y0) fun r K=>∀ p2 c2,K (.tuple #[sv p2 r.1 c2, vi r.2]) [] [Rl (wB (zH .i64)) p2 c2 r.1] :=
 zX call146 func146 u fun X=>zC<|qX .s u<|fun b1=>zA 2 u<|zB<|zC<|qU 0 2 u u u<|qF zGt u (cq [0,1])<|fun r1 _ k p2 c2=>k<|zA 4 u<|zB<|zG<|wK u (lT u (lT u lN)) (fun _ k=>k p2 c2) [] (gq [0])
theorem zHy {qd : Prop} {y0 : wH} : qC qd prog 216 [.agg (yM y0 p1 c1).toArray, .func (.func 146) #[] #[]] [] [Rl vA p1 c1 y0.2, Pt (yK 64 (zH .u8)) 4 0 yY] (zAs y0) fun r K=>∀ p2 c2,K (.tuple #[sv p2 r.1 c2, vi r.2]) [] [Rl (zH .i64) p2 c2 r.1] :=
 zX call216 func216 u fun X=>zC<|qX .s u<|fun b1=>zA 2 u<|zB<|zC<|zA 1 u<|qU 0 2 u u u<|zZ .s [] [] zJs u u u (cq [0,1])<|fun r1 _ k p2 c2=>k<|zA 5 u<|zB<|zD<|jA 2 u<|zJ u (jA 3 u<|zG<|qA<|
  wK u (lT u (lT u lN)) (fun _ k=>k none 0) [] ⟨gn,d⟩)<|jC<|yC [] [0] 9<|vM 0 0 2 u u u u<|zW 7 [1] u<|qH 2<|zZ (.f u) [] [] zR8 u u u (cq [0])<|fun r2 _ k p3 c3=>k<|qD<|qH 3<|
  zZ (.f u) [] [] zLh u u u (cq [2,0,3])<|fun r3 _ k p4 c4=>k<|qD<|zW 0 [4,5,6,7,8] u<|qY<|zN<|zD<|jA 2 u<|zJ u (jA 3 u<|zG<|qA<|wK u (lT u (lT u lN)) (fun _ k=>k none 0) [] ⟨gn,d⟩)<|jC<|zC<|
  qU 0 2 u u u<|zA 1 u<|qF zLe u (cq [3,0])<|fun r4 _ k p5 c5=>k<|zA 2 u<|zB<|zG<|wK u (lT u (lT u lN)) (fun _ k=>k p5 c5) [] (gq [0])
theorem zX3 {qd : Prop} {y0 : wH} : qC qd prog 148 [.agg (yM y0 p1 c1).toArray] [] [Rl vA p1 c1 y0.2, Pt (yK 64 (zH .u8)) 4 0 yY] (zHM y0) fun r K=>∀ p2 c2,K (.tuple #[sv p2 r.1 c2, vi r.2]) [] [Rl (zH .i64) p2 c2 r.1] :=
 zX call148 func148 u fun X=>zC<|qX .s u<|fun b1=>zA 2 u<|zB<|zC<|qU 0 2 u u u<|qF zHy rfl (cq [0,1])<|fun r1 _ k p2 c2=>k<|zA 4 u<|zB<|zG<|wK u (lT u (lT u lN)) (fun _ k=>k p2 c2) [] (gq [0])
theorem zKp {qd : Prop} {y0 : wH} : vZ qd prog 206 [.agg (yM y0 p1 c1).toArray, pt b1 0] [bx b1 184 [.func (.func 148) #[] #[]]] [Rl vA p1 c1 y0.2, Pt (yK 64 (zH .u8)) 4 0 yY] (zBJ y0) fun L r K=>∀ p2 c2,K (.tuple #[sv p2 r.1 c2, vi r.2]) L [Rl (wB (zH .i64)) p2 c2 r.1] :=
 zX call206 func206 u fun X=>zC<|qX .s u<|fun b2=>zA 2 u<|zB<|zC<|zU 0 u u u<|qU 1 2 u u u<|zZ .s [] [] zX3 u u u (cq [0,1])<|fun r1 _ k p2 c2=>k<|zA 5 u<|zB<|zD<|jA 2 u<|zJ u (jA 3 u<|zG<|qA<|
  wK u (lT u (lT u lN)) (fun _ k=>k none 0) [0] ⟨gn,d⟩)<|jC<|zC<|zA 1 u<|wR .s (e := wB (zH .i64)) 22 [sv p2 r1.1 c2] ([r1.1] : List (List Int)) (rC (vL (gk 0)) rN)<|fun p3 c3=>zA 2 u<|zB<|zG<|
  wK u (lT u (lT u lN)) (fun _ k=>k p3 c3) [0] (gq [0])
theorem zIu {qd : Prop} {y0 : wH} : vZ qd prog 207 [.agg (yM y0 p1 c1).toArray, pt b1 0] [bx b1 144 [.func (.func 206) #[] #[pt b2 0]], bx b2 184 [.func (.func 148) #[] #[]]] [Rl vA p1 c1 y0.2, Pt (yK 64 (zH .u8)) 4 0 yY] (zAX y0) fun L r K=>∀ p2 c2,K (.tuple #[sv p2 r.1 c2, vi r.2]) L [Rl (wB (zH .i64)) p2 c2 r.1] :=
 zX call207 func207 u fun X=>zC<|qX .s u<|fun b3=>zA 2 u<|zB<|zC<|zU 0 u u u<|qU 2 2 u u u<|zZ .s [1] [] zKp u u u (cq [0,1])<|fun r1 _ k p2 c2=>k<|zA 5 u<|zB<|zD<|jA 2 u<|zJ u (jA 3 u<|zG<|qA<|
  wK u (lT u (lT u lN)) (fun _ k=>k none 0) [0,1] ⟨gn,d⟩)<|jC<|zC<|zA 1 u<|vE (wB (zH .i64)) 22<|zB<|zD<|jA 3 u<|zQ<|
  qT (fun s1 K=>∀ p3 c3 r_1,K [19,20] [(2, []), (3, r_1)] [1,3] [(7, sv p3 s1.1 c3), (21, vi s1.2)] [Al (wB (zH .i64)) 22 r_1 p3 c3 s1.1]) (gv (fun _ k=>k none 0 []) [0,1,902,3] (gq [0,1,3]))<|fun s1 _ k p3 c3 r_1=>k<|jA 1 u<|zD<|
  zJ u (jC<|zD<|zQ<|zC<|qQ 1 u u u<|fun x1 b4 o1=>qP false oL (gk 0) u<|fun p4 c4=>zA 1 u<|zB<|qK<|zA 2 u<|qF zCM u (cq [0])<|fun r2 _ k p5 c5=>k<|
  wR .s (e := wB (zH .i64)) 22 [sv p5 r2 c5] ([r2] : List (List Int)) (rC (vL (gk 0)) rN)<|fun p6 c6=>wN .s 3 4 u (gk 0) u u<|fun x2 r_2 p7 c7=>zA 1 u<|zS<|qB<|zN<|jB 2 u<|
  qE (gv (fun _ k=>k p7 c7 r_2) [0,1,902,3] (gq [0,6,7])))<|qN<|qM<|qS<|qO<|zN<|jA 3 u<|zG<|wW 3 0 u u<|wK u (lT u (lT u lN)) (fun _ k=>k p3 c3) [0,1] (gq [0])
theorem zIN {qd : Prop} {y0 : wH} : vZ qd prog 207 [.agg (yM y0 p1 c1).toArray, pt b1 0] [bx b1 144 [.func (.func 144) #[] #[]]] [Rl vA p1 c1 y0.2, Pt (yK 64 (zH .u8)) 4 0 yY] (zAO y0) fun L r K=>∀ p2 c2,K (.tuple #[sv p2 r.1 c2, vi r.2]) L [Rl (wB (zH .i64)) p2 c2 r.1] :=
 zX call207 func207 u fun X=>zC<|qX .s u<|fun b2=>zA 2 u<|zB<|zC<|zU 0 u u u<|qU 1 2 u u u<|zZ .s [] [] zKS u u u (cq [0,1])<|fun r1 _ k p2 c2=>k<|zA 5 u<|zB<|zD<|jA 2 u<|zJ u (jA 3 u<|zG<|qA<|
  wK u (lT u (lT u lN)) (fun _ k=>k none 0) [0] ⟨gn,d⟩)<|jC<|zC<|zA 1 u<|vE (wB (zH .i64)) 22<|zB<|zD<|jA 3 u<|zQ<|
  qT (fun s1 K=>∀ p3 c3 r_1,K [19,20] [(1, []), (2, r_1)] [1,3] [(7, sv p3 s1.1 c3), (21, vi s1.2)] [Al (wB (zH .i64)) 22 r_1 p3 c3 s1.1]) (gv (fun _ k=>k none 0 []) [0,901,2] (gq [0,1,3]))<|fun s1 _ k p3 c3 r_1=>k<|jA 1 u<|zD<|
  zJ u (jC<|zD<|zQ<|zC<|qQ 1 u u u<|fun x1 b3 o1=>qP false oL (gk 0) u<|fun p4 c4=>zA 1 u<|zB<|qK<|zA 2 u<|qF zCM u (cq [0])<|fun r2 _ k p5 c5=>k<|
  wR .s (e := wB (zH .i64)) 22 [sv p5 r2 c5] ([r2] : List (List Int)) (rC (vL (gk 0)) rN)<|fun p6 c6=>wN .s 2 4 u (gk 0) u u<|fun x2 r_2 p7 c7=>zA 1 u<|zS<|qB<|zN<|jB 2 u<|
  qE (gv (fun _ k=>k p7 c7 r_2) [0,901,2] (gq [0,6,7])))<|qN<|qM<|qS<|qO<|zN<|jA 3 u<|zG<|wW 2 0 u u<|wK u (lT u (lT u lN)) (fun _ k=>k p3 c3) [0] (gq [0])
theorem zHv {qd : Prop} {y0 : wH} : vZ qd prog 207 [.agg (yM y0 p1 c1).toArray, pt b1 0] [bx b1 144 [.func (.func 146) #[] #[]]] [Rl vA p1 c1 y0.2, Pt (yK 64 (zH .u8)) 4 0 yY] (zAM y0) fun L r K=>∀ p2 c2,K (.tuple #[sv p2 r.1 c2, vi r.2]) L [Rl (wB (zH .i64)) p2 c2 r.1] :=
 zX call207 func207 u fun X=>zC<|qX .s u<|fun b2=>zA 2 u<|zB<|zC<|zU 0 u u u<|qU 1 2 u u u<|zZ .s [] [] zJs u u u (cq [0,1])<|fun r1 _ k p2 c2=>k<|zA 5 u<|zB<|zD<|jA 2 u<|zJ u (jA 3 u<|zG<|qA<|
  wK u (lT u (lT u lN)) (fun _ k=>k none 0) [0] ⟨gn,d⟩)<|jC<|zC<|zA 1 u<|vE (wB (zH .i64)) 22<|zB<|zD<|jA 3 u<|zQ<|
  qT (fun s1 K=>∀ p3 c3 r_1,K [19,20] [(1, []), (2, r_1)] [1,3] [(7, sv p3 s1.1 c3), (21, vi s1.2)] [Al (wB (zH .i64)) 22 r_1 p3 c3 s1.1]) (gv (fun _ k=>k none 0 []) [0,901,2] (gq [0,1,3]))<|fun s1 _ k p3 c3 r_1=>k<|jA 1 u<|zD<|
  zJ u (jC<|zD<|zQ<|zC<|qQ 1 u u u<|fun x1 b3 o1=>qP false oL (gk 0) u<|fun p4 c4=>zA 1 u<|zB<|qK<|zA 2 u<|qF zCM u (cq [0])<|fun r2 _ k p5 c5=>k<|
  wR .s (e := wB (zH .i64)) 22 [sv p5 r2 c5] ([r2] : List (List Int)) (rC (vL (gk 0)) rN)<|fun p6 c6=>wN .s 2 4 u (gk 0) u u<|fun x2 r_2 p7 c7=>zA 1 u<|zS<|qB<|zN<|jB 2 u<|
  qE (gv (fun _ k=>k p7 c7 r_2) [0,901,2] (gq [0,6,7])))<|qN<|qM<|qS<|qO<|zN<|jA 3 u<|zG<|wW 2 0 u u<|wK u (lT u (lT u lN)) (fun _ k=>k p3 c3) [0] (gq [0])
theorem zPt {qd : Prop} {y0 : List Int} {y1 : List Int} : qC qd prog 214 [sv p1 y0 c1, sv p2 y1 c2] [] [Rl (zH .i64) p1 c1 y0, Rl (zH .i64) p2 c2 y1] (zC3 y0 y1) fun r K=>K (vb r) [] [] :=
 zX call214 func214 u fun X=>jA 1 u<|zC<|zA 1 u<|wR .s (e := zH .i64) 3 [vi 3] ([3] : List Int) (rC vI rN)<|fun p3 c3=>qF zEE u (cq [2,0])<|fun r1 _ k p4 c4=>k<|zA 3 u<|zB<|zG<|zP u u kk [] d
theorem zH7 {qd : Prop} {y0 : List Int} {y2 : List Int} : vZ qd prog 269 [sv p1 y0 c1, pt b1 0, pt b2 0] [bx b1 234 [.func (.func 214) #[] #[]], bx b2 22 [sv p2 y2 c2]] [Rl (zH .i64) p1 c1 y0, Rl (zH .i64) p2 c2 y2] (zAq y0 y2) fun L r K=>K (vb r) L [] :=
 zX call269 func269 u fun X=>jA 1 u<|zC<|zU 0 u u u<|zA 1 u<|zU 1 u u u<|zZ .s [] [] zPt u u u (cq [0,1])<|fun r1 _ k=>k<|zA 1 u<|zB<|zG<|zP u u kk [0,1] d
theorem zGP {qd : Prop} {y0 : List (List Int)} {y2 : List Int} : vZ qd prog 275 [sv p1 y0 c1, .func (.func 269) #[] #[pt b1 0, pt b2 0]] [bx b1 234 [.func (.func 214) #[] #[]], bx b2 22 [sv p2 y2 c2]] [Rl (wB (zH .i64)) p1 c1 y0, Rl (zH .i64) p2 c2 y2] (zA7 y0 y2) fun L r K=>K (vi r) L [] :=
 zX call275 func275 u fun X=>jA 1 u<|zD<|jA 3 u<|zQ<|qT (fun s1 K=>K [0,1,7] [] [0,1] [(8, vi s1)] []) (gv kk [0,1] (gq [0,1]))<|fun s1 _ k=>k<|jA 1 u<|zD<|zJ u (jC<|zD<|zQ<|jA 2 u<|zC<|zA 3 u<|qQ 0 u u u<|fun x1 b3 o1=>
  qP false oL (gk 0) u<|fun p3 c3=>zZ .s [0, 1] [] zH7 u u u (cq [0,3])<|fun r1 _ k=>k<|zB<|zJ u (jA 2 u<|zG<|qV<|qA<|wT<|qV<|qA<|zP u u kk [0,1] d)<|wD<|qB<|zN<|
  jB 2 u<|qE (gv kk [0,1] (gq [2,3])))<|qN<|qM<|qS<|qO<|zN<|jA 1 u<|zG<|zP u u kk [0,1] d
theorem zFD {qd : Prop} {y0 : List (List Int)} {y2 : List Int} : vZ qd prog 218 [sv p1 y0 c1, .func (.func 269) #[] #[pt b1 0, pt b2 0]] [bx b1 234 [.func (.func 214) #[] #[]], bx b2 22 [sv p2 y2 c2]] [Rl (wB (zH .i64)) p1 c1 y0, Rl (zH .i64) p2 c2 y2] (zAE y0 y2) fun L r K=>K (vb r) L [] :=
 zX call218 func218 u fun X=>jA 1 u<|zC<|zA 2 u<|zZ .s [0, 1] [] zGP u u u (cq [0,1])<|fun r1 _ k=>k<|zA 2 u<|zB<|zG<|zP u u kk [0,1] d
theorem zIM {qd : Prop} {y0 : wH} : qC qd prog 210 [.agg (yM y0 p1 c1).toArray, .func (.func 214) #[] #[]] [] [Rl vA p1 c1 y0.2, Pt (yK 64 (zH .u8)) 4 0 yY] (zAz y0) fun r K=>∀ p2 c2,K (.tuple #[sv p2 r.1 c2, vi r.2]) [] [Rl (wB (zH .i64)) p2 c2 r.1] :=
 zX call210 func210 u fun X=>zC<|qX .s u<|fun b1=>qX .s u<|fun b2=>zA 2 u<|zB<|zC<|qU 0 2 u u u<|qF zH8 u (cq [0,1])<|fun r1 _ k p2 c2=>k<|zA 5 u<|zB<|zD<|jA 2 u<|zJ u (jA 3 u<|zG<|qA<|
  wK u (lT u (lT u lN)) (fun _ k=>k none 0) [] ⟨gn,d⟩)<|jC<|zC<|zA 1 u<|vE (wB (zH .i64)) 22<|zB<|zD<|jA 3 u<|zQ<|
  qT (fun s1 K=>∀ p3 c3 r_1,K [3,6,19,20] [(0, []), (2, r_1)] [1,3] [(8, sv p3 s1.1 c3), (21, vi s1.2)] [Al (wB (zH .i64)) 22 r_1 p3 c3 s1.1]) (gv (fun _ k=>k none 0 []) [900,1,2] (gq [0,1,3]))<|fun s1 _ k p3 c3 r_1=>k<|jA 1 u<|
  zD<|zJ u (jC<|zD<|zQ<|zC<|qQ 1 u u u<|fun x1 b3 o1=>qP false oL (gk 0) u<|fun p4 c4=>wO .s (.slice none 0 0)<|fun b4=>qL .s 3 u u u<|zB<|zC<|zA 2 u<|
  zZ .s [1, 3] [] zFD u u u (cq [3,0])<|fun r2 _ k=>k<|zA 1 u<|zB<|zJ u (qK<|zA 1 u<|zU 3 u u u<|
  wR .s (e := wB (zH .i64)) 22 [sv p4 x1 c4] ([x1] : List (List Int)) (rC (vL (gk 0)) rN)<|fun p5 c5=>wN .s 2 3 u (gk 0) u u<|fun x2 r_2 p6 c6=>zA 1 u<|zS<|qB<|zN<|jB 2 u<|
  qE (gv (fun _ k=>k p6 c6 r_2) [900,1,2] (gq [0,5,6])))<|wD<|qB<|zN<|jB 2 u<|qE (gv (fun _ k=>k p3 c3 r_1) [900,1,2] (gq [2,3,4])))<|qN<|qM<|qS<|qO<|zN<|jA 3 u<|zG<|wW 2 0 u u<|
  wK u (lT u (lT u lN)) (fun _ k=>k p3 c3) [] (gq [0])
theorem zRC {qd : Prop} {y0 : wH} : qC qd prog 145 [.agg (yM y0 p1 c1).toArray] [] [Rl vA p1 c1 y0.2, Pt (yK 64 (zH .u8)) 4 0 yY] (zCY y0) fun r K=>∀ p2 c2,K (.tuple #[sv p2 r.1 c2, vi r.2]) [] [Rl (wB (zH .i64)) p2 c2 r.1] :=
 zX call145 func145 u fun X=>zC<|qX .s u<|fun b1=>zA 2 u<|zB<|zC<|qU 0 2 u u u<|qF zIM u (cq [0,1])<|fun r1 _ k p2 c2=>k<|zA 4 u<|zB<|zG<|wK u (lT u (lT u lN)) (fun _ k=>k p2 c2) [] (gq [0])
theorem zJ8 {qd : Prop} {y0 : wH} : vZ qd prog 207 [.agg (yM y0 p1 c1).toArray, pt b1 0] [bx b1 144 [.func (.func 145) #[] #[]]] [Rl vA p1 c1 y0.2, Pt (yK 64 (zH .u8)) 4 0 yY] (zAY y0) fun L r K=>∀ p2 c2,K (.tuple #[sv p2 r.1 c2, vi r.2]) L [Rl (wB (zH .i64)) p2 c2 r.1] :=
 zX call207 func207 u fun X=>zC<|qX .s u<|fun b2=>zA 2 u<|zB<|zC<|zU 0 u u u<|qU 1 2 u u u<|zZ .s [] [] zRC u u u (cq [0,1])<|fun r1 _ k p2 c2=>k<|zA 5 u<|zB<|zD<|jA 2 u<|zJ u (jA 3 u<|zG<|qA<|
  wK u (lT u (lT u lN)) (fun _ k=>k none 0) [0] ⟨gn,d⟩)<|jC<|zC<|zA 1 u<|vE (wB (zH .i64)) 22<|zB<|zD<|jA 3 u<|zQ<|
  qT (fun s1 K=>∀ p3 c3 r_1,K [19,20] [(1, []), (2, r_1)] [1,3] [(7, sv p3 s1.1 c3), (21, vi s1.2)] [Al (wB (zH .i64)) 22 r_1 p3 c3 s1.1]) (gv (fun _ k=>k none 0 []) [0,901,2] (gq [0,1,3]))<|fun s1 _ k p3 c3 r_1=>k<|jA 1 u<|zD<|
  zJ u (jC<|zD<|zQ<|zC<|qQ 1 u u u<|fun x1 b3 o1=>qP false oL (gk 0) u<|fun p4 c4=>zA 1 u<|zB<|qK<|zA 2 u<|qF zCM u (cq [0])<|fun r2 _ k p5 c5=>k<|
  wR .s (e := wB (zH .i64)) 22 [sv p5 r2 c5] ([r2] : List (List Int)) (rC (vL (gk 0)) rN)<|fun p6 c6=>wN .s 2 4 u (gk 0) u u<|fun x2 r_2 p7 c7=>zA 1 u<|zS<|qB<|zN<|jB 2 u<|
  qE (gv (fun _ k=>k p7 c7 r_2) [0,901,2] (gq [0,6,7])))<|qN<|qM<|qS<|qO<|zN<|jA 3 u<|zG<|wW 2 0 u u<|wK u (lT u (lT u lN)) (fun _ k=>k p3 c3) [0] (gq [0])
theorem zJh {qd : Prop} {y0 : wH} : vZ qd prog 207 [.agg (yM y0 p1 c1).toArray, pt b1 0] [bx b1 144 [.func (.func 143) #[] #[]]] [Rl vA p1 c1 y0.2, Pt (yK 64 (zH .u8)) 4 0 yY] (zA8 y0) fun L r K=>∀ p2 c2,K (.tuple #[sv p2 r.1 c2, vi r.2]) L [Rl (wB (zH .i64)) p2 c2 r.1] :=
 zX call207 func207 u fun X=>zC<|qX .s u<|fun b2=>zA 2 u<|zB<|zC<|zU 0 u u u<|qU 1 2 u u u<|zZ .s [] [] zH8 u u u (cq [0,1])<|fun r1 _ k p2 c2=>k<|zA 5 u<|zB<|zD<|jA 2 u<|zJ u (jA 3 u<|zG<|qA<|
  wK u (lT u (lT u lN)) (fun _ k=>k none 0) [0] ⟨gn,d⟩)<|jC<|zC<|zA 1 u<|vE (wB (zH .i64)) 22<|zB<|zD<|jA 3 u<|zQ<|
  qT (fun s1 K=>∀ p3 c3 r_1,K [19,20] [(1, []), (2, r_1)] [1,3] [(7, sv p3 s1.1 c3), (21, vi s1.2)] [Al (wB (zH .i64)) 22 r_1 p3 c3 s1.1]) (gv (fun _ k=>k none 0 []) [0,901,2] (gq [0,1,3]))<|fun s1 _ k p3 c3 r_1=>k<|jA 1 u<|zD<|
  zJ u (jC<|zD<|zQ<|zC<|qQ 1 u u u<|fun x1 b3 o1=>qP false oL (gk 0) u<|fun p4 c4=>zA 1 u<|zB<|qK<|zA 2 u<|qF zCM u (cq [0])<|fun r2 _ k p5 c5=>k<|
  wR .s (e := wB (zH .i64)) 22 [sv p5 r2 c5] ([r2] : List (List Int)) (rC (vL (gk 0)) rN)<|fun p6 c6=>wN .s 2 4 u (gk 0) u u<|fun x2 r_2 p7 c7=>zA 1 u<|zS<|qB<|zN<|jB 2 u<|
  qE (gv (fun _ k=>k p7 c7 r_2) [0,901,2] (gq [0,6,7])))<|qN<|qM<|qS<|qO<|zN<|jA 3 u<|zG<|wW 2 0 u u<|wK u (lT u (lT u lN)) (fun _ k=>k p3 c3) [0] (gq [0])
theorem zQP {qd : Prop} {y0 : wH} {y1 : Int} : qC qd prog 34 [.agg (yM y0 p1 c1).toArray, vi y1] [] [Rl vA p1 c1 y0.2, Pt (yK 64 (zH .u8)) 4 0 yY] (zA0 y0 y1) fun r K=>∀ p2 c2,K (.tuple #[sv p2 r.1 c2, vi r.2]) [] [Rl (wB (zH .i64)) p2 c2 r.1] :=
 zX call34 func34 u fun X=>zC<|qX .s u<|fun b1=>zA 2 u<|zB<|zD<|zC<|qU 0 2 u u u<|qF zKs u (cq [0])<|fun r1 _ k=>k<|zA 1 u<|zB<|jA 2 u<|zJ u (jA 3 u<|zG<|qA<|wK u (lT u (lT u lN)) (fun _ k=>k none 0) [] ⟨gn,d⟩)<|
  jC<|zC<|qF zTJ u d<|fun r2 _ k b2 b3 b4 b5 b6 b7 b8 b9 b10 b11 b12=>k<|zA 1 u<|zB<|zD<|xG (fun K=>K [1,2,7] [] [0,1] [(21, vb ((decide (y1 < 1)) || (decide (((10 : Nat) : Int) ≤ y1))))] []) (qK<|zA 3 u<|
  yA (b := decide (y1 < 1)) 16 u (fun hb1=>zA 4 u<|zF (vb true)<|zS<|wQ 21 (vb ((decide (y1 < 1)) || (decide (((10 : Nat) : Int) ≤ y1)))) u (by rw [hb1]; rfl)<|zL (gv kk [0,1,2,3,4,5,6,7,8,9,10,11] (gq [0,1]))
  )<|fun hb1=>zA 4 u<|zF (vb (decide (((10 : Nat) : Int) ≤ y1)))<|zS<|wQ 21 (vb ((decide (y1 < 1)) || (decide (((10 : Nat) : Int) ≤ y1)))) u (by rw [hb1]; rfl)<|zL (gv kk [0,1,2,3,4,5,6,7,8,9,10,11] (gq [0,1])))<|fun _ k=>
  k<|zJ u (jA 2 u<|zG<|qA<|wK u (lT u (lT u lN)) (fun _ k=>k none 0) [] ⟨gn,d⟩)<|jC<|
  jjn (fun s1 K=>∀ p2 c2,K [(4, sv p2 s1.1 c2), (5, vi s1.2)] [[], [], [], [], [], [], [], [], [], [], [], []] [Rl (wB (zH .i64)) p2 c2 s1.1, Pt (yK 64 (zH .u8)) 4 0 yY]) (uO [] [0, 1] 10<|zW 8 [0,1] u<|
  z3Z (c := 1) (fun hb2=>wQ 23 (vi 1) u (by rw [hb2])<|tU (v := pt b2 1) 2 u (fun h=>zRU h u u (by decide) (by kernel_rfl) u)<|wI 3 1 u u u u<|vM 4 0 2 u u u u<|qH 5<|
  zZ (.f u) [2, 3] [] zJe u u u (cq [0,1])<|fun r3 _ k p3 c3=>k<|qD<|zW 0 [6,7,8,9] u<|qY<|zL (gv (fun _ k=>k p3 c3) [900,901,902,903,904,905,906,907,908,909,910,911] (gq [0,2])))<|
  z3Z (c := 2) (fun hb3=>wQ 23 (vi 2) u (by rw [hb3])<|tU (v := pt b2 2) 2 u (fun h=>zRU h u u (by decide) (by kernel_rfl) u)<|wI 3 1 u u u u<|vM 4 0 2 u u u u<|qH 5<|
  zZ (.f u) [4] [] zJh u u u (cq [0,1])<|fun r4 _ k p4 c4=>k<|qD<|zW 0 [6,7,8,9] u<|qY<|zL (gv (fun _ k=>k p4 c4) [900,901,902,903,904,905,906,907,908,909,910,911] (gq [0,2])))<|
  z3Z (c := 3) (fun hb4=>wQ 23 (vi 3) u (by rw [hb4])<|tU (v := pt b2 3) 2 u (fun h=>zRU h u u (by decide) (by kernel_rfl) u)<|wI 3 1 u u u u<|vM 4 0 2 u u u u<|qH 5<|
  zZ (.f u) [5] [] zIN u u u (cq [0,1])<|fun r5 _ k p5 c5=>k<|qD<|zW 0 [6,7,8,9] u<|qY<|zL (gv (fun _ k=>k p5 c5) [900,901,902,903,904,905,906,907,908,909,910,911] (gq [0,2])))<|
  z3Z (c := 4) (fun hb5=>wQ 23 (vi 4) u (by rw [hb5])<|tU (v := pt b2 4) 2 u (fun h=>zRU h u u (by decide) (by kernel_rfl) u)<|wI 3 1 u u u u<|vM 4 0 2 u u u u<|qH 5<|
  zZ (.f u) [6] [] zJ8 u u u (cq [0,1])<|fun r6 _ k p6 c6=>k<|qD<|zW 0 [6,7,8,9] u<|qY<|zL (gv (fun _ k=>k p6 c6) [900,901,902,903,904,905,906,907,908,909,910,911] (gq [0,2])))<|
  z3Z (c := 5) (fun hb6=>wQ 23 (vi 5) u (by rw [hb6])<|tU (v := pt b2 5) 2 u (fun h=>zRU h u u (by decide) (by kernel_rfl) u)<|wI 3 1 u u u u<|vM 4 0 2 u u u u<|qH 5<|
  zZ (.f u) [7] [] zHv u u u (cq [0,1])<|fun r7 _ k p7 c7=>k<|qD<|zW 0 [6,7,8,9] u<|qY<|zL (gv (fun _ k=>k p7 c7) [900,901,902,903,904,905,906,907,908,909,910,911] (gq [0,2])))<|
  z3Z (c := 6) (fun hb7=>wQ 23 (vi 6) u (by rw [hb7])<|tU (v := pt b2 6) 2 u (fun h=>zRU h u u (by decide) (by kernel_rfl) u)<|wI 3 1 u u u u<|vM 4 0 2 u u u u<|qH 5<|
  zZ (.f u) [8, 9] [] zIs u u u (cq [0,1])<|fun r8 _ k p8 c8=>k<|qD<|zW 0 [6,7,8,9] u<|qY<|zL (gv (fun _ k=>k p8 c8) [900,901,902,903,904,905,906,907,908,909,910,911] (gq [0,2])))<|
  z3Z (c := 7) (fun hb8=>wQ 23 (vi 7) u (by rw [hb8])<|tU (v := pt b2 7) 2 u (fun h=>zRU h u u (by decide) (by kernel_rfl) u)<|wI 3 1 u u u u<|vM 4 0 2 u u u u<|qH 5<|
  zZ (.f u) [10, 11] [] zIu u u u (cq [0,1])<|fun r9 _ k p9 c9=>k<|qD<|zW 0 [6,7,8,9] u<|qY<|zL (gv (fun _ k=>k p9 c9) [900,901,902,903,904,905,906,907,908,909,910,911] (gq [0,2])))<|
  z3Z (c := 8) (fun hb9=>wQ 23 (vi 8) u (by rw [hb9])<|tU (v := pt b2 8) 2 u (fun h=>zRU h u u (by decide) (by kernel_rfl) u)<|wI 3 1 u u u u<|vM 4 0 2 u u u u<|jno)<|z3Z (c := 9) (fun hb10=>
  wQ 23 (vi 9) u (by rw [hb10])<|tU (v := pt b2 9) 2 u (fun h=>zRU h u u (by decide) (by kernel_rfl) u)<|wI 3 1 u u u u<|vM 4 0 2 u u u u<|jno)<|jno)<|fun s1 _ k p2 c2=>k<|zG<|
  wK u (lT u (lT u lN)) (fun _ k=>k p2 c2) [] (gq [0])
theorem zKx {qd : Prop} {y0 : tZ} {y1 : Int} : qC qd prog 11 [.agg (zNF y0 p1 c1 p2 c2 p3 c3 p4 c4 p5 c5 p6 c6).toArray, vi y1] [] (zMx y0 p1 c1 p2 c2 p3 c3 p4 c4 p5 c5 p6 c6 [Pt (yK 64 (zH .u8)) 4 0 yY]) (zBT y0 y1) fun r K=>∀ p7 c7,K (.tuple #[sv p7 r.1 c7, vi r.2]) [] [Rl (wB wX) p7 c7 r.1] :=
 zX call11 func11 u fun X=>zC<|qX .s u<|fun b1=>zA 2 u<|zB<|zC<|zM 5 u<|qU 0 2 u u u<|zA 1 u<|qF zQP u (cq [5,6])<|fun r1 _ k p7 c7=>k<|zA 5 u<|zB<|zD<|jA 2 u<|zJ u (jA 3 u<|zG<|qA<|
  wK u (lT u (lT u lN)) (fun _ k=>k none 0) [] ⟨gn,d⟩)<|jC<|zC<|zA 1 u<|vE (wB wX) 51<|zB<|zD<|jA 3 u<|zQ<|
  qT (fun s1 K=>∀ p8 c8 r_1,K [2,21,22] [(1, r_1)] [1,2,3,4,5,6,7,8] [(8, sv p8 s1.1 c8), (23, vi s1.2)] [Al (wB wX) 51 r_1 p8 c8 s1.1]) (gv (fun _ k=>k none 0 []) [0,1] (gq [0,1,2,3,4,5,6,7,8]))<|fun s1 _ k p8 c8 r_1=>k<|
  jA 1 u<|zD<|zJ u (jC<|zD<|zQ<|zC<|qQ 1 u u u<|fun x1 b2 o1=>qP false oL (gk 0) u<|fun p9 c9=>zA 1 u<|zB<|qK<|zA 1 u<|zM 3 u<|zU 0 u u u<|zA 1 u<|qF zJu u (cq [7,0])<|
  fun r2 _ k p10 c10=>k<|wR .s (e := wB wX) 51 [sv p10 r2 c10] ([r2] : List (List zO)) (rC (vL (gk 0)) rN)<|fun p11 c11=>wN .s 1 4 u (gk 0) u u<|fun x2 r_2 p12 c12=>zA 1 u<|zS<|qB<|zN<|jB 2 u<|
  qE (gv (fun _ k=>k p12 c12 r_2) [0,1] (gq [0,6,7,8,9,10,11,12,13])))<|qN<|qM<|qS<|qO<|zN<|jA 3 u<|zG<|wW 1 0 u u<|wK u (lT u (lT u lN)) (fun _ k=>k p8 c8) [] (gq [0])
theorem zNc {qd : Prop} {y0 : Int} : qC qd prog 93 [.slice none 0 0, vi y0] [] [] (zDO y0) fun r K=>∀ p1 c1 r_1,K (sv p1 r c1) [r_1] [Al wX 62 r_1 p1 c1 r] :=
 zX call93 func93 u fun X=>vE wX 62<|jA 1 u<|wL (fun s1 K=>K [0,1] [] [0] [] []) (jA 2 u<|zJ u (qK<|jno)<|wD<|zL (gv kk [0] (gq [0])))<|fun s1 _ k=>k<|zD<|zC<|zA 2 u<|
  jv (v := vi ((0 : Nat) : Int)) (fun h=>r_cap h u underlying51)<|zA 5 u<|zB<|jA 2 u<|zJ u (qK<|zA 2 u<|jv (v := vi ((0 : Nat) : Int)) (fun h=>r_cap h u underlying51)<|
  jv (v := .slice none 0 0) (fun h=>z4e (e := wX) h u u (by kernel_rfl))<|zA 1 u<|jaz .s (e := wX) (h2 := underlying3) 0 0 62 ((false, []) : zO) (.agg #[vb false, vs []]) u (vP vB vS) u u<|
  fun x1 r_1 p1 c1=>zA 2 u<|jsP 0 u u u<|fun x2=>zA 1 u<|zS<|zN<|jA 2 u<|zG<|zP u u (fun _ k=>k p1 c1 r_1) [0] (gq [0]))<|jC<|jA 2 u<|zG<|zP u u (fun _ k=>k none 0 []) [0] (gq [0])
theorem zNt {qd : Prop} {y0 : List (List zO)} : qC qd prog 41 [sv p1 y0 c1] [] [Rl (wB wX) p1 c1 y0] (zBu y0) fun r K=>∀ p2 c2,K (sv p2 r c2) [] [Rl wX p2 c2 r] :=
 zX call41 func41 u fun X=>jA 1 u<|jA 1 u<|wL (fun s1 K=>K [0] [] [0] [(3, vi s1)] []) (jA 3 u<|zQ<|qT (fun s2 K=>K [0,9,10] [] [0] [(3, vi s2.1), (11, vi s2.2)] []) (gv kk [] (gq [0]))<|fun s2 _ k=>k<|jA 1 u<|zD<|zJ u (jC<|zD<|zQ<|zC<|
  qQ 0 u u u<|fun x1 b1 o1=>qP false oL (gk 0) u<|fun p2 c2=>zA 1 u<|zB<|jA 5 u<|jA 2 u<|zJ u (qK<|jno)<|wD<|qB<|zN<|jB 2 u<|qE (gv kk [] (gq [2])))<|qN<|qM<|qS<|qO<|zL (gv kk [] (gq [0]))
  )<|fun s1 _ k=>k<|zC<|zA 1 u<|qF zNc u d<|fun r1 _ k p3 c3 r_1=>k<|zA 1 u<|zB<|zD<|jA 3 u<|zQ<|
  qT (fun s3 K=>∀ p4 c4 r_2,K [25,26] [(0, r_2)] [1] [(6, sv p4 s3.1 c4), (27, vi s3.2)] [Al wX 62 r_2 p4 c4 s3.1]) (gv (fun _ k=>k p3 c3 r_1) [0] (gq [0,1]))<|fun s3 _ k p4 c4 r_2=>k<|jA 1 u<|zD<|zJ u (jC<|zD<|zQ<|zC<|
  qQ 1 u u u<|fun x2 b2 o2=>qP false oL (gk 0) u<|fun p5 c5=>zA 1 u<|zB<|qK<|zA 2 u<|wN .s 0 2 u (gk 0) u u<|fun x3 r_3 p6 c6=>zA 1 u<|zS<|qB<|zN<|jB 2 u<|qE (gv (fun _ k=>k p6 c6 r_3) [0] (gq [0,4])))<|qN<|
  qM<|qS<|qO<|zN<|jA 2 u<|zG<|wW 0 0 u u<|zP u u (fun _ k=>k p4 c4) [] (gq [0])
theorem zOT {qd : Prop} {y0 : List zO} {y1 : zO} : qC qd prog 156 [sv p1 y0 c1, .agg #[vb y1.1, vs y1.2]] [] [Rl wX p1 c1 y0] (zCI y0 y1) fun r K=>K (vi r) [] [] :=
 zX call156 func156 u fun X=>zC<|qX .s u<|fun b1=>zA 1 u<|zB<|zD<|jA 3 u<|zQ<|qT (fun s1 K=>K [0,3,7] [] [0] [(8, vi s1)] []) (gv kk [0] (gq [0]))<|fun s1 _ k=>k<|jA 1 u<|zD<|zJ u (jC<|zD<|zQ<|jA 2 u<|yC [] [0] 6<|
  vM 0 0 2 u u u u<|zW 3 [1,2] u<|yF 3 0 u u u u<|fun x1 b2 o1=>yD 4 true yU u (gk 0) u<|wP 5 (vb (y1 == x1)) u<|qY<|zN<|zJ u (jA 2 u<|zG<|qV<|qA<|wT<|qV<|qA<|zP u u kk [] d)<|
  wD<|qB<|zN<|jB 2 u<|qE (gv kk [0] (gq [1])))<|qN<|qM<|qS<|qO<|zN<|jA 1 u<|zG<|zP u u kk [] d
theorem zMb {qd : Prop} {y0 : List zO} {y1 : zO} : qC qd prog 96 [sv p1 y0 c1, .agg #[vb y1.1, vs y1.2]] [] [Rl wX p1 c1 y0] (zCJ y0 y1) fun r K=>K (vb r) [] [] :=
 zX call96 func96 u fun X=>zC<|qX .s u<|fun b1=>zA 1 u<|zB<|zC<|zA 1 u<|qU 0 2 u u u<|qF zOT u (cq [0])<|fun r1 _ k=>k<|zA 2 u<|zB<|zG<|zP u u kk [] d
theorem zN1 {qd : Prop} {y0 : List zO} {y1 : zO} : qC qd prog 46 [sv p1 y0 c1, .agg #[vb y1.1, vs y1.2]] [] [Rl wX p1 c1 y0] (zDz y0 y1) fun r K=>K (vb r) [] [] :=
 zX call46 func46 u fun X=>zC<|qX .s u<|fun b1=>zA 1 u<|zB<|zC<|zA 1 u<|qU 0 2 u u u<|qF zMb u (cq [0])<|fun r1 _ k=>k<|zA 1 u<|zB<|zG<|zP u u kk [] d
theorem zPR {qd : Prop} {y0 : List zO} {y1 : zO} : vZ qd prog 45 [sv p1 y0 c1, pt b1 0] [bx b1 62 [vb y1.1, vs y1.2]] [Rl wX p1 c1 y0] (zCU y0 y1) fun L r K=>K (vb r) L [] :=
 zX call45 func45 u fun X=>jA 1 u<|zC<|zA 1 u<|qU 0 2 u u u<|qF zN1 u (cq [0])<|fun r1 _ k=>k<|zA 2 u<|zB<|zG<|zP u u kk [0] d
theorem zEO {qd : Prop} {y0 : List (List zO)} {y1 : zO} : vZ qd prog 95 [sv p1 y0 c1, .func (.func 45) #[] #[pt b1 0]] [bx b1 62 [vb y1.1, vs y1.2]] [Rl (wB wX) p1 c1 y0] (zAi y0 y1) fun L r K=>K (vi r) L [] :=
 zX call95 func95 u fun X=>jA 1 u<|zD<|jA 3 u<|zQ<|qT (fun s1 K=>K [0,1,7] [] [0] [(8, vi s1)] []) (gv kk [0] (gq [0]))<|fun s1 _ k=>k<|jA 1 u<|zD<|zJ u (jC<|zD<|zQ<|jA 2 u<|zC<|zA 3 u<|qQ 0 u u u<|fun x1 b2 o1=>
  qP false oL (gk 0) u<|fun p2 c2=>zZ .s [0] [] zPR u u u (cq [0])<|fun r1 _ k=>k<|zB<|zJ u (jA 2 u<|zG<|qV<|qA<|wT<|qV<|qA<|zP u u kk [0] d)<|wD<|qB<|zN<|jB 2 u<|
  qE (gv kk [0] (gq [2])))<|qN<|qM<|qS<|qO<|zN<|jA 1 u<|zG<|zP u u kk [0] d
theorem zDe {qd : Prop} {y0 : List (List zO)} {y1 : zO} : vZ qd prog 44 [sv p1 y0 c1, .func (.func 45) #[] #[pt b1 0]] [bx b1 62 [vb y1.1, vs y1.2]] [Rl (wB wX) p1 c1 y0] (zAH y0 y1) fun L r K=>K (vb r) L [] :=
 zX call44 func44 u fun X=>jA 1 u<|zC<|zA 2 u<|zZ .s [0] [] zEO u u u (cq [0])<|fun r1 _ k=>k<|zA 2 u<|zB<|zG<|zP u u kk [0] d
theorem zLl {qd : Prop} {y0 : zO} {y1 : Bool} {y2 : List (List zO)} : vZ qd prog 43 [.agg #[vb y0.1, vs y0.2], pt b1 0, pt b2 0] [bx b1 4 [vb y1], bx b2 48 [sv p1 y2 c1]] [Rl (wB wX) p1 c1 y2] (zBo y0 y1 y2) fun L r K=>K (vb r) L [] :=
 zX call43 func43 u fun X=>zC<|qX .s u<|fun b3=>zA 1 u<|zB<|wL (fun s1 K=>K [] [(2, [])] [0] [(4, vb s1)] []) (qK<|zU 0 u u u<|zA 1 u<|wJ 6 u (zU 1 u u u<|zA 1 u<|
  zZ .s [2] [] zDe u u u (cq [0])<|fun r1 _ k=>k<|zF (vb r1)<|zA 1 u<|zS<|zL (gv kk [0,1,902] (gq [0])))<|zA 3 u<|zF (vb false)<|zA 1 u<|zS<|
  zL (gv kk [0,1,902] (gq [0])))<|fun s1 _ k=>k<|zG<|zP u u kk [0,1] d
theorem zEh {qd : Prop} {y0 : List zO} {y1 : Bool} {y2 : List (List zO)} : vZ qd prog 94 [sv p1 y0 c1, .func (.func 43) #[] #[pt b1 0, pt b2 0]] [bx b1 4 [vb y1], bx b2 48 [sv p2 y2 c2]] [Rl wX p1 c1 y0, Rl (wB wX) p2 c2 y2] (zAo y0 y1 y2) fun L r K=>K (vi r) L [] :=
 zX call94 func94 u fun X=>jA 1 u<|zD<|jA 3 u<|zQ<|qT (fun s1 K=>K [0,1,7] [] [0,1] [(8, vi s1)] []) (gv kk [0,1] (gq [0,1]))<|fun s1 _ k=>k<|jA 1 u<|zD<|zJ u (jC<|zD<|zQ<|jA 2 u<|zC<|zA 3 u<|qQ 0 u u u<|fun x1 b3 o1=>
  qP true yU (gk 0) u<|zZ .s [0, 1] [] zLl u u u (cq [2])<|fun r1 _ k=>k<|zB<|zJ u (jA 2 u<|zG<|qV<|qA<|wT<|qV<|qA<|zP u u kk [0,1] d)<|wD<|qB<|zN<|jB 2 u<|
  qE (gv kk [0,1] (gq [1,2])))<|qN<|qM<|qS<|qO<|zN<|jA 1 u<|zG<|zP u u kk [0,1] d
theorem zEU {qd : Prop} {y0 : List zO} {y1 : Bool} {y2 : List (List zO)} : qC qd prog 42 [sv p1 y0 c1, .func (.func 43) #[] #[pt b1 0, pt b2 0]] [r_1, bx b1 4 [vb y1], bx b2 48 [sv p2 y2 c2]] [Al wX 62 r_1 p1 c1 y0, Rl (wB wX) p2 c2 y2] (zAR y0 y1 y2) fun r K=>∀ p3 c3,K (sv p3 r c3) [[], bx b1 4 [vb y1], bx b2 48 [sv p2 y2 c2]] [Rl wX p3 c3 r] :=
 zX call42 func42 u fun X=>jA 1 u<|zC<|zA 2 u<|zZ .s [1, 2] [0] zEh u u u ⟨cl 0 0,ck 1,d⟩<|fun r1 _ k=>k<|zA 1 u<|zB<|zD<|jA 2 u<|zJ u (jA 2 u<|zG<|qA<|wW 0 0 u u<|
  zP u u (fun _ k=>k p1 c1) [900,1,2] (gq [0]))<|jC<|wL (fun s1 K=>∀ r_2,K [] [(0, r_2)] [1] [(0, .slice p1 (List.length y0) c1), (5, vi s1.2)] [Ar wX 62 r_2 p1 c1 (List.length y0) s1.1]) (jA 3 u<|zQ<|
  qT (fun s2 K=>∀ r_3,K [1] [(0, r_3)] [1] [(0, .slice p1 (List.length y0) c1), (5, vi s2.2.1), (6, vi s2.2.2)] [Ar wX 62 r_3 p1 c1 (List.length y0) s2.1]) (gv (fun _ k=>k r_1) [0,1,2] (gq [0,1]))<|fun s2 _ k r_3=>k<|zD<|jA 4 u<|
  zJ u (jC<|zD<|zQ<|zC<|zA 2 u<|xE 0 u u u<|fun x1 h1 b3 hp1=>jlA 0 0 sI true yU u hp1 h1 u<|wO .s (.agg #[vb false, vs []])<|fun b4=>qL .s 3 u u u<|zB<|zC<|zA 1 u<|qU 3 2 u u u<|
  zZ .s [1, 2] [] zLl u u u (cq [1])<|fun r2 _ k=>k<|zA 1 u<|zB<|zJ u (zC<|zA 2 u<|qU 3 2 u u u<|xE 0 u u u<|fun x2 h2 b5 hp2=>jsA .s 0 0 sI x1 true u hp2 h2 u u (vP vB vS)<|fun r_4=>zB<|
  jB 3 u<|qB<|zN<|jB 3 u<|qE (gv (fun _ k=>k r_4) [0,1,2] (gq [0,2])))<|wD<|qB<|zN<|jB 3 u<|qE (gv (fun _ k=>k r_3) [0,1,2] (gq [0,1])))<|qN<|qM<|qS<|qO<|zL (gv (fun _ k=>k r_3) [0,1,2] (gq [0,1])))<|fun s1 _ k r_2=>k<|zC<|
  zA 2 u<|jsV 0 u u u<|fun u1 p3 c3 f1=>jcv .s 0 0 (false, []) (.agg #[vb false, vs []]) u f1 u (vP vB vS)<|fun r_5=>zB<|zC<|zA 2 u<|jsP 0 u u u<|fun x3=>zA 1 u<|zB<|zG<|wW 0 0 u u<|
  zP u u (fun _ k=>k p1 c1) [900,1,2] (gq [0])
theorem zHf {qd : Prop} {y0 : tZ} {y1 : Int} {y2 : Bool} : qC qd prog 17 [.agg (zNF y0 p1 c1 p2 c2 p3 c3 p4 c4 p5 c5 p6 c6).toArray, vi y1, vb y2] [] (zMx y0 p1 c1 p2 c2 p3 c3 p4 c4 p5 c5 p6 c6 [Pt (yK 64 (zH .u8)) 4 0 yY]) (zBB y0 y1 y2) fun r K=>∀ p7 c7,K (.tuple #[sv p7 r.1 c7, vi r.2]) [] [Rl wX p7 c7 r.1] :=
 zX call17 func17 u fun X=>zC<|qX .s u<|fun b1=>qX .s u<|fun b2=>zA 2 u<|zB<|zC<|qU 0 7 u u u<|zA 1 u<|qF zKx u (cq [0,1,2,3,4,5,6])<|fun r1 _ k p7 c7=>k<|zA 3 u<|wO .s (.slice none 0 0)<|fun b3=>qL .s 2 u u u<|
  zA 1 u<|zB<|zD<|jA 2 u<|zJ u (jA 3 u<|zG<|qA<|wK u (lT u (lT u lN)) (fun _ k=>k none 0) [] ⟨gn,d⟩)<|jC<|zC<|zU 2 u u u<|qF zNt u (cq [0])<|fun r2 _ k p8 c8=>k<|
  qF zOD u (cq [0])<|fun r3 _ k p9 c9 r_1=>k<|zA 1 u<|zB<|zC<|zA 2 u<|zZ .s [3, 1, 2] [] zEU u u u (cq [0,2])<|fun r4 _ k p10 c10=>k<|zA 2 u<|zB<|zG<|
  wK u (lT u (lT u lN)) (fun _ k=>k p10 c10) [] (gq [0])
theorem z0M {qd : Prop} {y0 : List Int} : qC qd prog 5 [sv p1 y0 c1] [] [Rl (zH .i64) p1 c1 y0] (zPc y0) fun r K=>∀ b1 p2 c2,K (pt b1 0) [bx b1 65 (zHl r p2 c2)] (zHg r p2 c2 []) :=
 zX call5 func5 u fun X=>jA 1 u<|zC<|zA 4 u<|jsl (gk 0) u u u (.inl ⟨rfl, rfl⟩) (.inr ⟨_, rfl⟩)<|fun x1 p2 c2=>zF (.agg #[sv p2 x1 c2, vi 0])<|qX .s u<|fun b1=>zA 1 u<|zB<|zG<|zP u u (fun _ k=>k b1 p2 c2) [0] (gq [0])
theorem zFS {qd : Prop} {y0 : uT} : vZ qd prog 65 [pt b1 0] [bx b1 120 (zGi y0 p1 c1 p2 c2 p3 c3 p4 c4 p5 c5)] (zGf y0 p1 c1 p2 c2 p3 c3 p4 c4 p5 c5 []) (zC2 y0) fun L r K=>K (vb r) L [] :=
 zX call65 func65 u fun X=>jA 1 u<|yC [] [0] 13<|zW 11 [0,1] u<|qR 2 3 u u<|wI 3 0 u u u u<|zW 6 [4,5,6] u<|qR 7 4 u u<|wI 8 0 u u u u<|zW 0 [9,10,11,12] u<|qY<|zN<|zG<|zP u u kk [0] d
theorem zHw {qd : Prop} {y0 : List Int} : qC qd prog 194 [sv p1 y0 c1] [r_1] [Al (zH .i64) 3 r_1 p1 c1 y0] (zBU y0) fun r K=>∀ p2 c2,K (sv p2 r c2) [[]] [Rl (zH .i64) p2 c2 r] :=
 zX call194 func194 u fun X=>jA 1 u<|zD<|jA 3 u<|zJ u (jA 2 u<|zG<|qA<|wW 0 0 u u<|zP u u (fun _ k=>k p1 c1) [900] (gq [0]))<|jC<|zD<|jA 1 u<|zQ<|qT (fun s1 K=>K [0] [] [0] [(3, vi s1)] []) (gv kk [0] (gq [0]))<|fun s1 _ k=>k<|
  zD<|jA 4 u<|zJ u (jC<|zD<|zQ<|yC [] [0] 10<|zW 8 [0,1] u<|jdI 2 0 u u u u<|fun x1 h1 b1 hp1=>tJ 3 0 0 sI false oI u u hp1 h1 u<|zW 3 [4,5,6] u<|jdI 7 0 u u u u<|fun x2 h2 b2 hp2=>
  tJ 8 0 0 sI false oI u u hp2 h2 u<|zW 0 [9] u<|qY<|zN<|zJ u (zC<|zA 2 u<|jsV 0 u u u<|fun u1 p2 c2 f1=>zA 1 u<|zB<|
  jjn (fun s2 K=>∀ r_2,K [(0, .slice p1 (List.length y0) c1), (3, vi s2.2)] [r_2] [Ar (zH .i64) 3 r_2 p1 c1 (List.length y0) s2.1]) (jA 1 u<|zQ<|
  qT (fun s3 K=>∀ r_3,K [4] [(0, r_3)] [] [(0, .slice p1 (List.length y0) c1), (3, vi s3.2.1), (5, vi s3.2.2)] [Ar (zH .i64) 3 r_3 p1 c1 (List.length y0) s3.1]) (gv (fun _ k=>k r_1) [0] (gq [0]))<|fun s3 _ k r_3=>k<|zD<|jA 4 u<|
  zJ u (jC<|zD<|zQ<|yC [] [0] 10<|zW 8 [0,1] u<|jdX 2 0 u u f1 u u<|fun x3 b3 hp3 h3=>tJ 3 0 0 sI false oI u u hp3 h3 u<|zW 3 [4,5,6] u<|jdX 7 0 u u f1 u u<|fun x4 b4 hp4 h4=>
  tJ 8 0 0 sI false oI u u hp4 h4 u<|zW 0 [9] u<|qY<|zN<|zJ u (zC<|zA 4 u<|jiV 0 u f1 u u<|fun x5 b5 hp5 h5=>jlA 0 0 sI false oI u hp5 h5 u<|xE 0 u u u<|fun x6 h6 b6 hp6=>
  jsA .s 0 0 sI x5 false u hp6 h6 u u vI<|fun r_4=>zB<|jB 3 u<|qB<|zN<|jB 3 u<|qE (gv (fun _ k=>k r_4) [0] (gq [0])))<|wD<|qB<|zN<|jB 3 u<|qE (gv (fun _ k=>k r_3) [0] (gq [0])))<|qN<|qM<|qS<|qO<|
  zL (gv (fun _ k=>k r_3) [0] (gq [0])))<|fun s2 _ k r_2=>k<|zC<|zA 2 u<|jsV 0 u u u<|fun u2 p3 c3 f2=>jcv .s 0 0 0 (vi 0) u f2 u vI<|fun r_5=>zB<|zC<|zA 2 u<|jsP 0 u u u<|fun x7=>zA 1 u<|zB<|zG<|qV<|qA<|wT<|
  qV<|qA<|wW 0 0 u u<|zP u u (fun _ k=>k p1 c1) [900] (gq [0]))<|wD<|qB<|zN<|jB 3 u<|qE (gv kk [0] (gq [0])))<|qN<|qM<|qS<|qO<|zN<|jA 2 u<|zG<|wW 0 0 u u<|zP u u (fun _ k=>k p1 c1) [900] (gq [0])
theorem zHd {qd : Prop} {y0 : List Int} : qC qd prog 193 [sv p1 y0 c1] [r_1] [Al (zH .i64) 3 r_1 p1 c1 y0] (zBY y0) fun r K=>∀ r_2,K (.tuple #[]) [r_2] [Ar (zH .i64) 3 r_2 p1 c1 (List.length y0) r] := ⟨call193, fun A w0 r hm hO hF => by
 have h := z3u (qd := qd) Tryz.sorts193 (te := 3) hO hF.1.1 hm
 change Calls prog 193 _ _ _ at h
 refine h.mono fun e w' h => ?_
 cases e with
 | returned v => obtain ⟨r', rfl, h1, h2, h3, h4⟩ := h; exact fun G k => k r' ⟨rfl, h1, h2, ⟨h3, h4.symm⟩, trivial⟩
 | panicked ch => exact h
 | outgrown => exact h⟩
theorem zQ3 {qd : Prop} (k : Nat) :
    (∀ {y0 : List zK} {p1 : Option Addr} {c1 : Nat} {y1 : Int}, qC qd prog 125 [sv p1 y0 c1, vi y1] [] [Rl wS p1 c1 y0] (zCp k y0 y1) fun r K=>∀ p2 c2,K (sv p2 r c2) [] [Rl (zH .i64) p2 c2 r]) := by
  induction k with
  | zero => exact z2q call125
  | succ k ih =>
    have ih_argument_Subs := @ih
    exact @fun y0 p1 c1 y1=>zX (m1 := zEw (zCp k) y0 y1) call125 func125 u fun X=>jA 1 u<|zD<|zC<|zA 2 u<|qF zJx u (cq [0])<|fun r1 _ k=>k<|zA 1 u<|zB<|zJ u (jA 1 u<|zG<|qA<|zP u u (fun _ k=>k none 0) [] ⟨gn,d⟩)<|jC<|zC<|zA 1 u<|
  xH .s (e := zH .i64) 3 [vi y1] ([y1] : List Int) (rC vI rN)<|fun r_1 p2 c2=>zA 1 u<|zB<|jjn (fun s1 K=>∀ p3 c3 r_2,K [(5, sv p3 s1 c3)] [r_2] [Al (zH .i64) 3 r_2 p3 c3 s1]) (zC<|zA 2 u<|qQ 1 u u u<|fun x1 b1 o1=>
  zM 2 u<|qP false oL (gf (gs (gs (gk 0)))) u<|fun p4 c4=>zA 2 u<|zB<|zQ<|
  qT (fun s2 K=>∀ p5 c5 r_3,K [0,18,19] [(0, r_3)] [3,0] [(5, sv p5 s2.1 c5), (20, vi s2.2)] [Al (zH .i64) 3 r_3 p5 c5 s2.1]) (gv (fun _ k=>k p2 c2 r_1) [0] (gq [2,3,0]))<|fun s2 _ k p5 c5 r_3=>k<|jA 1 u<|zD<|zJ u (jC<|zD<|zQ<|
  zC<|qQ 2 u u u<|fun x2 b2 o2=>qP false oI (gk 0) u<|zA 1 u<|zB<|qK<|zA 3 u<|qF ih_argument_Subs u (cq [2])<|fun r2 _ k p6 c6=>k<|wN .s 0 2 u (gk 0) u u<|fun x3 r_4 p7 c7=>zA 1 u<|zS<|qB<|zN<|jB 2 u<|
  qE (gv (fun _ k=>k p7 c7 r_4) [0] (gq [0,4,5])))<|qN<|qM<|qS<|qO<|zL (gv (fun _ k=>k p5 c5 r_3) [0] (gq [0])))<|fun s1 _ k p3 c3 r_2=>k<|zC<|zA 1 u<|zZ .s [0] [] zHd u u u (cq [0])<|fun r3 _ k r_5=>k<|zB<|
  zC<|zA 1 u<|jrE 0 32 u u<|zZ .s [0] [] zHw u u u (cq [0])<|fun r4 _ k p8 c8=>k<|zA 1 u<|zB<|zG<|zP u u (fun _ k=>k p8 c8) [] (gq [0])
theorem zLa {qd : Prop} {y0 : List zK} {y1 : Int} : qC qd prog 125 [sv p1 y0 c1, vi y1] [] [Rl wS p1 c1 y0] (zD7 y0 y1) fun r K=>∀ p2 c2,K (sv p2 r c2) [] [Rl (zH .i64) p2 c2 r] := zQr fun k => (zQ3 k)
theorem zKY {qd : Prop} {y0 : zT} {y1 : List zK} {y2 : Int} : qC qd prog 180 [.agg (vJ y0 p1 c1 p2 c2 p3 c3).toArray, sv p4 y1 c4, vi y2] [] (vR y0 p1 c1 p2 c2 p3 c3 [Rl wS p4 c4 y1]) (zCo y0 y1 y2) fun r K=>∀ p5 c5,K (sv p5 r c5) [] [Rl (zH .i64) p5 c5 r] :=
 zX call180 func180 u fun X=>zC<|qX .s u<|fun b1=>zA 1 u<|zB<|zC<|zA 1 u<|vE (zH .i64) 3<|zB<|jjn (fun s1 K=>∀ p5 c5 r_1,K [(7, sv p5 s1 c5)] [[], r_1] [Al (zH .i64) 3 r_1 p5 c5 s1]) (zC<|zA 2 u<|qF zLa u (cq [4])<|
  fun r1 _ k p6 c6=>k<|zA 2 u<|zB<|zQ<|qT (fun s2 K=>∀ p7 c7 r_2,K [1,3,13,14] [(1, r_2)] [5,0,2,3,4] [(7, sv p7 s2.1 c7), (15, vi s2.2)] [Al (zH .i64) 3 r_2 p7 c7 s2.1]) (gv (fun _ k=>k none 0 []) [0,1] (gq [1,5,0,2,3,4]))<|
  fun s2 _ k p7 c7 r_2=>k<|jA 1 u<|zD<|zJ u (jC<|zD<|zQ<|zC<|qQ 2 u u u<|fun x1 b2 o1=>qP false oI (gk 0) u<|zA 1 u<|zB<|zC<|zA 2 u<|qQ 2 u u u<|fun x2 b3 o2=>zM 1 u<|qP false oI (gf (gs (gk 0))) u<|
  zA 1 u<|zB<|wL (fun s3 K=>K [1,3,7,10,13,14,15] [] [3,2,4,5,6,7] [(34, vb s3)] []) (qK<|zA 3 u<|wJ 26 u (zM 1 u<|zU 0 u u u<|zA 1 u<|qQ 6 u u u<|fun x3 b4 o3=>zM 1 u<|qP false oB (gf (gs (gk 0))) u<|
  zA 1 u<|zF (vb (!x3.2.1))<|zS<|zL (gv kk [0,1] (gq [4,3,5,6,7,8])))<|zA 7 u<|zF (vb false)<|zS<|zL (gv kk [0,1] (gq [3,2,4,5,6,7])))<|fun s3 _ k=>k<|zJ u (qK<|zA 2 u<|
  wR .s (e := zH .i64) 3 [vi x2.2.1] ([x2.2.1] : List Int) (rC vI rN)<|fun p8 c8=>wN .s 1 2 u (gk 0) u u<|fun x4 r_3 p9 c9=>zA 1 u<|zS<|qB<|zN<|jB 2 u<|qE (gv (fun _ k=>k p9 c9 r_3) [0,1] (gq [0,2,4,5,6,7])))<|wD<|qB<|
  zN<|jB 2 u<|qE (gv (fun _ k=>k p7 c7 r_2) [0,1] (gq [1,0,2,3,4,5])))<|qN<|qM<|qS<|qO<|zL (gv (fun _ k=>k p7 c7 r_2) [900,1] (gq [0])))<|fun s1 _ k p5 c5 r_1=>k<|zC<|zA 1 u<|zZ .s [1] [] zHd u u u (cq [0])<|
  fun r2 _ k r_4=>k<|zB<|zC<|zA 1 u<|jrE 0 42 u u<|zZ .s [1] [] zHw u u u (cq [0])<|fun r3 _ k p10 c10=>k<|zA 1 u<|zB<|zG<|zP u u (fun _ k=>k p10 c10) [] (gq [0])
theorem zRZ {qd : Prop} (k : Nat) :
    (∀ {y0 : zT} {p1 : Option Addr} {c1 : Nat} {p2 : Option Addr} {c2 : Nat} {p3 : Option Addr} {c3 : Nat} {y1 : List zK} {p4 : Option Addr} {c4 : Nat} {y2 : Int}, qC qd prog 179 [.agg (vJ y0 p1 c1 p2 c2 p3 c3).toArray, sv p4 y1 c4, vi y2] [] (vR y0 p1 c1 p2 c2 p3 c3 [Rl wS p4 c4 y1]) (zIG k y0 y1 y2) fun r K=>∀ p5 c5,K (sv p5 r c5) [] [Rl wX p5 c5 r]) := by
  induction k with
  | zero => exact z2q call179
  | succ k ih =>
    have ih_argument_run := @ih
    exact @fun y0 p1 c1 p2 c2 p3 c3 y1 p4 c4 y2=>zX (m1 := zKN (zIG k) y0 y1 y2) call179 func179 u fun X=>zC<|qX .s u<|fun b1=>zA 1 u<|zB<|zC<|zA 2 u<|qQ 3 u u u<|fun x1 b2 o1=>zM 3 u<|qP true yU (gs (gs (gs (gk 0)))) u<|
  xH .s (e := wX) 62 [vb x1.2.2.2.1, vs x1.2.2.2.2] ([x1.2.2.2] : List zO) (rC (vP vB vS) rN)<|fun r_1 p5 c5=>zA 1 u<|zB<|zD<|zC<|zA 2 u<|qQ 5 u u u<|fun x2 b3 o2=>zM 1 u<|qP false oI (gf (gs (gk 0))) u<|
  zA 1 u<|zB<|wL (fun s1 K=>K [1,2,3,7] [] [6,1,3,4,5] [(31, vb s1)] []) (qK<|zA 3 u<|wJ 24 u (zM 1 u<|zU 0 u u u<|zA 1 u<|qQ 4 u u u<|fun x3 b4 o3=>zM 1 u<|qP false oB (gf (gs (gk 0))) u<|
  zF (vb x3.2.1)<|zS<|zL (gv kk [0,1] (gq [7,2,4,5,6])))<|zA 6 u<|zF (vb false)<|zS<|zL (gv kk [0,1] (gq [6,1,3,4,5])))<|fun s1 _ k=>k<|zJ u (zC<|zA 2 u<|qQ 0 u u u<|fun x4 b5 o4=>zM 2 u<|
  qP false oL (gf (gs (gs (gk 0)))) u<|fun p6 c6=>zA 2 u<|zB<|zQ<|
  qT (fun s2 K=>∀ p7 c7 r_2,K [1,3,36,37] [(1, r_2)] [2,0,4,5,6] [(7, sv p7 s2.1 c7), (38, vi s2.2)] [Al wX 62 r_2 p7 c7 s2.1]) (gv (fun _ k=>k p5 c5 r_1) [0,1] (gq [3,2,0,4,5,6]))<|fun s2 _ k p7 c7 r_2=>k<|jA 1 u<|zD<|zJ u (
  jC<|zD<|zQ<|zC<|qQ 2 u u u<|fun x5 b6 o5=>qP false oI (gk 0) u<|zA 1 u<|zB<|qK<|zA 1 u<|qU 0 3 u u u<|zA 2 u<|qF ih_argument_run u (cq [4,5,6,2])<|fun r1 _ k p8 c8=>k<|wN .s 1 2 u (gk 0) u u<|
  fun x6 r_3 p9 c9=>zA 1 u<|zS<|qB<|zN<|jB 2 u<|qE (gv (fun _ k=>k p9 c9 r_3) [0,1] (gq [0,4,5,6,7,8])))<|qN<|qM<|qS<|qO<|zN<|jA 2 u<|zG<|wW 1 0 u u<|zP u u (fun _ k=>k p7 c7) [] (gq [0]))<|jC<|jA 2 u<|zG<|
  wW 1 1 u u<|zP u u (fun _ k=>k p5 c5) [] (gq [0])
theorem zUf {qd : Prop} {y0 : zT} {y1 : List zK} {y2 : Int} : qC qd prog 179 [.agg (vJ y0 p1 c1 p2 c2 p3 c3).toArray, sv p4 y1 c4, vi y2] [] (vR y0 p1 c1 p2 c2 p3 c3 [Rl wS p4 c4 y1]) (zKF y0 y1 y2) fun r K=>∀ p5 c5,K (sv p5 r c5) [] [Rl wX p5 c5 r] := zQr fun k => (zRZ k)
theorem zSD {qd : Prop} {y0 : zT} {y1 : List zK} {y2 : Int} {y3 : List Int} : qC qd prog 118 [.agg (vJ y0 p1 c1 p2 c2 p3 c3).toArray, sv p4 y1 c4, vi y2, sv p5 y3 c5] [] (vR y0 p1 c1 p2 c2 p3 c3 [Rl wS p4 c4 y1, Rl (zH .i64) p5 c5 y3]) (zEe y0 y1 y2 y3) fun r K=>K (vb r) [] [] :=
 zX call118 func118 u fun X=>zC<|qX .s u<|fun b1=>zA 1 u<|zB<|zD<|jA 3 u<|zQ<|qT (fun s1 K=>K [1,2,4,11,12] [] [3,4,0,1,2] [(13, vi s1)] []) (gv kk [0] (gq [3,4,0,1,2]))<|fun s1 _ k=>k<|jA 1 u<|zD<|zJ u (jC<|zD<|zQ<|zC<|
  qQ 1 u u u<|fun x1 b2 o1=>qP false oI (gk 0) u<|zA 1 u<|zB<|zC<|zM 1 u<|zU 0 u u u<|zA 1 u<|qQ 4 u u u<|fun x2 b3 o2=>zM 1 u<|qP false oB (gf (gs (gk 0))) u<|zB<|zJ u (yC [] [0] 11<|
  vM 0 0 3 u u u u<|zW 8 [1,2] u<|qR 4 1 u u<|wI 5 0 u u u u<|zW 5 [6] u<|yF 7 5 u u u u<|fun x3 b4 o3=>qR 8 4 u u<|yD 9 true yU u (gs (gs (gs (gs (gk 0))))) u<|qH 3<|
  zZ (.f u) [] [] zUf u u u (cq [5,6,7,3])<|fun r1 _ k p6 c6=>k<|qD<|qH 10<|zZ (.f u) [] [] zN1 u u u (cq [0])<|fun r2 _ k=>k<|qD<|qY<|zN<|zJ u (jA 1 u<|zG<|qV<|qA<|wT<|qV<|qA<|
  zP u u kk [] d)<|wD<|qB<|zN<|jB 2 u<|qE (gv kk [0] (gq [4,5,6,7,8])))<|zC<|qU 0 3 u u u<|zA 2 u<|qF zKY u (cq [4,5,6,2])<|fun r3 _ k p7 c7=>k<|zA 1 u<|
  qF zCm u (cq [0])<|fun r4 _ k=>k<|zB<|zJ u (jA 1 u<|zG<|qV<|qA<|wT<|qV<|qA<|zP u u kk [] d)<|wD<|qB<|zN<|jB 2 u<|qE (gv kk [0] (gq [3,4,5,6,7])))<|qN<|qM<|qS<|qO<|zN<|
  jA 1 u<|zG<|zP u u kk [] d
theorem zMN {qd : Prop} {y0 : List Int} : qC qd prog 115 [sv p1 y0 c1] [] [Rl (zH .i64) p1 c1 y0] (zJ9 y0) fun r K=>∀ p2 c2 r_1,K (sv p2 r c2) [r_1] [Al (zH .i64) 3 r_1 p2 c2 r] :=
 zX call115 func115 u fun X=>jA 1 u<|zD<|zC<|zA 1 u<|jv (fun h=>z1u h u underlying22)<|zB<|jnl (m1 := some ([] : List Int)) u (gk 0) (fun h=>by first|(rw [h];done)|(rw [h];rfl)|(simp [h,wE];done)) (jA 1 u<|zG<|qA<|vE (zH .i64) 3<|
  jrE 0 2 u u<|zP u u (fun _ k=>k none 0 []) [0] (gq [0]))<|jC<|zC<|xH .s (e := zH .i64) 3 [] ([] : List Int) rN<|fun r_1 p2 c2=>zA 1 u<|wN .s 0 0 u (gk 1) u u<|fun x1 r_2 p3 c3=>zA 1 u<|zB<|zG<|
  zP u u (fun _ k=>k p3 c3 r_2) [0] (gq [0])
theorem zLz {qd : Prop} {y0 : Int} {y2 : uT} : vZ qd prog 117 [vi y0, pt b1 0] [bx b1 118 [pt b2 0], bx b2 120 (zGi y2 p1 c1 p2 c2 p3 c3 p4 c4 p5 c5)] (zGf y2 p1 c1 p2 c2 p3 c3 p4 c4 p5 c5 []) (zHs y0 y2) fun L r K=>K (vb r) L [] :=
 zX call117 func117 u fun X=>jA 1 u<|zC<|zA 1 u<|zU 0 u u u<|zA 1 u<|zM 5 u<|zU 1 u u u<|zA 2 u<|zB<|zG<|zP u u kk [0,1] d
theorem zEA {qd : Prop} {y0 : List Int} {y2 : uT} : vZ qd prog 178 [sv p1 y0 c1, .func (.func 117) #[] #[pt b1 0]] [bx b1 118 [pt b2 0], bx b2 120 (zGi y2 p2 c2 p3 c3 p4 c4 p5 c5 p6 c6)] (Rl (zH .i64) p1 c1 y0 :: (zGf y2 p2 c2 p3 c3 p4 c4 p5 c5 p6 c6 [])) (zAb y0 y2) fun L r K=>K (vi r) L [] :=
 zX call178 func178 u fun X=>jA 1 u<|zD<|jA 3 u<|zQ<|qT (fun s1 K=>K [0,1,7] [] [0,1,2,3,4,5] [(8, vi s1)] []) (gv kk [0,1] (gq [0,1,2,3,4,5]))<|fun s1 _ k=>k<|jA 1 u<|zD<|zJ u (jC<|zD<|zQ<|jA 2 u<|zC<|zA 3 u<|qQ 0 u u u<|
  fun x1 b3 o1=>qP false oI (gk 0) u<|zZ .s [0, 1] [] zLz u u u (cq [2,3,4,5,6])<|fun r1 _ k=>k<|zB<|zJ u (jA 2 u<|zG<|qV<|qA<|wT<|qV<|qA<|zP u u kk [0,1] d)<|wD<|qB<|zN<|
  jB 2 u<|qE (gv kk [0,1] (gq [1,2,3,4,5,6])))<|qN<|qM<|qS<|qO<|zN<|jA 1 u<|zG<|zP u u kk [0,1] d
theorem zDW {qd : Prop} {y0 : List Int} {y2 : uT} : vZ qd prog 116 [sv p1 y0 c1, .func (.func 117) #[] #[pt b1 0]] [bx b1 118 [pt b2 0], bx b2 120 (zGi y2 p2 c2 p3 c3 p4 c4 p5 c5 p6 c6)] (Rl (zH .i64) p1 c1 y0 :: (zGf y2 p2 c2 p3 c3 p4 c4 p5 c5 p6 c6 [])) (zAG y0 y2) fun L r K=>K (vb r) L [] :=
 zX call116 func116 u fun X=>jA 1 u<|zC<|zA 2 u<|zZ .s [0, 1] [] zEA u u u (cq [0,1,2,3,4,5])<|fun r1 _ k=>k<|zA 2 u<|zB<|zG<|zP u u kk [0,1] d
theorem zKQ {qd : Prop} (k : Nat) :
    (∀ {y0 : uT} {b1 : Nat} {p1 : Option Addr} {c1 : Nat} {p2 : Option Addr} {c2 : Nat} {p3 : Option Addr} {c3 : Nat} {p4 : Option Addr} {c4 : Nat} {r_1 : zY} {p5 : Option Addr} {c5 : Nat} {r_2 : zY} {y1 : Int} {y2 : List Int} {p6 : Option Addr} {c6 : Nat}, qC qd prog 64 [pt b1 0, vi y1, sv p6 y2 c6] [bx b1 120 [sv p1 y0.1.1 c1, sv p2 y0.1.2.1 c2, sv p3 y0.1.2.2 c3, sv p4 y0.2.1 c4, sv p5 y0.2.2.1 c5, vi y0.2.2.2], r_1, r_2] (vR y0.1 p1 c1 p2 c2 p3 c3 [Al wS 112 r_1 p4 c4 y0.2.1, Al wS 112 r_2 p5 c5 y0.2.2.1, Rl (zH .i64) p6 c6 y2]) (zCD k y0 y1 y2) fun r K=>∀ p7 c7 r_3,K (.tuple #[]) [bx b1 120 [sv p1 y0.1.1 c1, sv p2 y0.1.2.1 c2, sv p3 y0.1.2.2 c3, sv p4 y0.2.1 c4, sv p7 r c7, vi y0.2.2.2], r_1, r_3] [Al wS 112 r_3 p7 c7 r]) := by
  induction k with
  | zero => exact z2q call64
  | succ k ih =>
    have ih_argument_builder_apply_2 := @ih
    exact @fun y0 b1 p1 c1 p2 c2 p3 c3 p4 c4 r_1 p5 c5 r_2 y1 y2 p6 c6=>zX (m1 := zCc (zCD k) y0 y1 y2) call64 func64 u fun X=>zC<|qX .s u<|fun b2=>zB<|zC<|zU 3 u u u<|zA 1 u<|zM 0 u<|zM 1 u<|zU 0 u u u<|zA 1 u<|qQ 1 u u u<|fun x1 b3 o1=>zM 3 u<|qP false oL (gf (gs (gs (gs (gk 0))))) u<|fun p7 c7=>zA 1 u<|zB<|zD<|
  zC<|zU 3 u u u<|zZ .s [0] [1, 2] zFS u u u ⟨ck 2,ck 3,ck 4,cl 1 5,cl 2 6,d⟩<|fun r1 _ k=>k<|zB<|zJ u (zG<|qA<|wK u lN (fun _ k=>k p5 c5 r_2) [0,1,2] (gq [6]))<|jC<|
  zY8 (fun s1 K=>K [1,2,3] [] [7,2,3,4,5,6] [] []) (jA 5 u<|zJ u (zD<|zC<|zU 3 u u u<|zA 1 u<|zM 3 u<|zU 0 u u u<|zA 2 u<|zB<|zQ<|
  qT (fun s2 K=>∀ p8 c8 r_3,K [1,2,3,6,28,29] [(0, bx b1 120 [sv p1 y0.1.1 c1, sv p2 y0.1.2.1 c2, sv p3 y0.1.2.2 c3, sv p4 y0.2.1 c4, sv p8 s2.2 c8, vi y0.2.2.2]), (2, r_3)] [7,0,5,2,3,4] [(30, vi s2.1)] [Al wS 112 r_3 p8 c8 s2.2]) (gv (fun _ k=>k p5 c5 r_2) [0,1,2,3] (gq [6,7,0,5,2,3,4]))<|
  fun s2 _ k p8 c8 r_3=>k<|jA 1 u<|zD<|zJ u (jC<|zD<|zQ<|zC<|zA 1 u<|xE 3 u u u<|fun x2 h1 b4 hp1=>jlA 1 3 sI true zVZ u hp1 h1 u<|fun p9 c9=>wO .s (.agg #[vi 0, vi 0, .slice none 0 0, vb false, vs []])<|
  fun b5=>zA 1 u<|qL .s 4 u u u<|zB<|yC [] [4] 8<|qR 0 3 u u<|vM 1 4 2 u u u u<|zW 3 [2,3,4] u<|yF 5 3 u u u u<|fun x3 b6 o2=>yD 6 true yU u (gk 0) u<|wP 7 (vb (x2.2.2.2 == x3)) u<|qY<|
  zN<|zJ u (
  jjcK (fun s3 K=>∀ p10 c10 r_4,K [1,2,3,6,28,29,30] [(0, bx b1 120 [sv p1 y0.1.1 c1, sv p2 y0.1.2.1 c2, sv p3 y0.1.2.2 c3, sv p4 y0.2.1 c4, sv p10 s3 c10, vi y0.2.2.2]), (2, r_4), (4, [])] [3,4,5,6,7,8] [] [Al wS 112 r_4 p10 c10 s3]) (
  uO [] [3] 8<|wI 0 3 u u u u<|zW 4 [1,2,4] u<|jd2 3 5 (zZ (.f u) [] [] zMN u u u (cq [3])<|fun r2 _ k p11 c11 r_5=>k<|qD<|qH 5<|wR (.f u) (e := zH .i64) 3 [vi s2.1] ([s2.1] : List Int) (rC vI rN)<|
  fun p12 c12=>qD<|qH 6<|wN (.f u) 5 1 u (gk 0) u u<|fun x4 r_6 p13 c13=>qD<|wW 5 0 u u<|qH 7<|zZ (.f u) [0, 1, 2] [] ih_argument_builder_apply_2 u u u (cq [10,11,12,9,6,0])<|fun r3 _ k p14 c14 r_7=>k<|qD<|qY<|
  zL (gv (fun _ k=>k p14 c14 r_7) [0,1,2,3,904] (gq [0,8,9,10,11,12,13]))) <|wR (.f u) (e := zH .i64) 3 [vi s2.1] ([s2.1] : List Int) (rC vI rN)<|fun p15 c15=>qD<|qH 3<|zZ (.f u) [] [] zMN u u u (cq [4])<|
  fun r4 _ k p16 c16 r_8=>k<|qD<|qH 6<|wN (.f u) 5 0 u (gk 1) u u<|fun x5 r_9 p17 c17=>qD<|wW 5 0 u u<|qH 7<|zZ (.f u) [0, 1, 2] [] ih_argument_builder_apply_2 u u u (cq [10,11,12,9,6,0])<|fun r5 _ k p18 c18 r_10=>
  k<|qD<|qY<|zL (gv (fun _ k=>k p18 c18 r_10) [0,1,2,3,904] (gq [0,8,9,10,11,12,13])))<|fun s3 _ k p10 c10 r_4=>k<|qB<|zN<|jB 2 u<|qE (gv (fun _ k=>k p10 c10 r_4) [0,1,2,3] (gq [0,1,2,3,4,5,6])))<|wD<|qB<|zN<|jB 2 u<|
  qE (gv (fun _ k=>k p8 c8 r_3) [0,1,2,3] (gq [2,3,4,5,6,7,8])))<|qN<|qM<|qS<|qO<|zN<|zG<|wT<|wK u lN (fun _ k=>k p8 c8 r_3) [0,1,2] (gq [0]))<|wD<|qE (gv kk [0,1,2,3] (gq [7,2,3,4,5,6])))<|fun s1 _ k=>k<|
  wL (fun s4 K=>K [1,2,3] [] [0,1,2,3,4,5] [(67, vb s4)] []) (uO [] [0, 3] 16<|zW 14 [0,1] u<|qH 2<|zZ (.f u) [3, 0] [1, 2] zDW u u u ⟨ck 0,ck 1,ck 2,ck 3,cl 1 4,cl 2 5,d⟩<|
  fun r6 _ k=>k<|qD<|zW 12 [3] u<|wJ 55 u (wI 4 3 u u u u<|zW 10 [5] u<|qR 6 0 u u<|vM 7 0 3 u u u u<|wI 8 3 u u u u<|zW 6 [9] u<|qR 10 3 u u<|wI 11 0 u u u u<|zW 2 [12,13] u<|
  qH 14<|zZ (.f u) [] [1] zSD u u u ⟨ck 1,ck 2,ck 3,cl 1 4,ck 0,d⟩<|fun r7 _ k=>k<|qD<|wP 15 (vb r7) u<|qY<|zL (gv kk [0,1,2,3] (gq [0,1,2,3,4,5])))<|zW 1 [4,5,6,7,8,9,10,11,12,13,14] u<|
  wP 15 (vb false) u<|qY<|zL (gv kk [0,1,2,3] (gq [0,1,2,3,4,5])))<|fun s4 _ k=>k<|zJ u (uO [21] [0, 3] 22<|wI 0 3 u u u u<|wI 1 3 u u u u<|zW 19 [2] u<|qR 3 4 u u<|wI 4 0 u u u u<|
  zW 15 [5,6] u<|wI 7 3 u u u u<|zW 13 [8] u<|qR 9 0 u u<|qR 10 1 u u<|wI 11 0 u u u u<|zW 9 [12] u<|yF 13 2 u u u u<|fun x6 b7 o3=>qR 14 4 u u<|
  yD 15 true yU u (gs (gs (gs (gs (gk 0))))) u<|wP 16 (.agg #[vi (-1), vi y1, sv p6 y2 c6, vb x6.2.2.2.2.1, vs x6.2.2.2.2.2]) u<|qH 17<|
  wR (.f u) (e := wS) 112 [vi (-1), vi y1, sv p6 y2 c6, vb x6.2.2.2.2.1, vs x6.2.2.2.2.2] ([((-1), y1, y2, x6.2.2.2.2)] : List zK) (rC (vP vI (vP vI (vP (vL (gk 1)) (vP vB vS)))) rN)<|fun p19 c19=>qD<|qH 18<|
  wN (.f u) 2 7 u (gk 0) u u<|fun x7 r_11 p20 c20=>qD<|zW 2 [19] u<|qR 20 4 u u<|qH 21<|qL (o := 4) (.f u) 0 u u u<|jdb [] [0, 3]<|qY<|jrn<|wK u lN (fun _ k=>k p20 c20 r_11) [0,1,2] (gq [0]))<|wD<|jrn<|
  wK u lN (fun _ k=>k p5 c5 r_2) [0,1,2] (gq [5])
theorem zLy {qd : Prop} {y0 : uT} {y1 : Int} {y2 : List Int} : qC qd prog 64 [pt b1 0, vi y1, sv p6 y2 c6] [bx b1 120 [sv p1 y0.1.1 c1, sv p2 y0.1.2.1 c2, sv p3 y0.1.2.2 c3, sv p4 y0.2.1 c4, sv p5 y0.2.2.1 c5, vi y0.2.2.2], r_1, r_2] (vR y0.1 p1 c1 p2 c2 p3 c3 [Al wS 112 r_1 p4 c4 y0.2.1, Al wS 112 r_2 p5 c5 y0.2.2.1, Rl (zH .i64) p6 c6 y2]) (zC7 y0 y1 y2) fun r K=>∀ p7 c7 r_3,K (.tuple #[]) [bx b1 120 [sv p1 y0.1.1 c1, sv p2 y0.1.2.1 c2, sv p3 y0.1.2.2 c3, sv p4 y0.2.1 c4, sv p7 r c7, vi y0.2.2.2], r_1, r_3] [Al wS 112 r_3 p7 c7 r] := zQr fun k => (zKQ k)
theorem zRz {qd : Prop} {y0 : wC} {y1 : qI} : vZ qd prog 177 [.agg (zSe y0 p1 c1).toArray, pt b1 0] [bx b1 9 [vs y1]] (zVU y0 p1 c1 []) (zMk y0 y1) fun L r K=>K (vb r) L [] :=
 zX call177 func177 u fun X=>zC<|qX .s u<|fun b2=>zA 1 u<|zB<|zC<|zM 0 u<|zU 1 u u u<|zU 0 u u u<|zA 2 u<|zB<|zG<|zP u u kk [0] d
theorem zGx {qd : Prop} {y0 : List wC} {y1 : qI} : vZ qd prog 176 [sv p1 y0 c1, .func (.func 177) #[] #[pt b1 0]] [bx b1 9 [vs y1]] [Rl yQ p1 c1 y0] (zBH y0 y1) fun L r K=>K (vi r) L [] :=
 zX call176 func176 u fun X=>jA 1 u<|zD<|jA 3 u<|zQ<|qT (fun s1 K=>K [0,1,7] [] [0] [(8, vi s1)] []) (gv kk [0] (gq [0]))<|fun s1 _ k=>k<|jA 1 u<|zD<|zJ u (jC<|zD<|zQ<|jA 2 u<|zC<|zA 3 u<|qQ 0 u u u<|fun x1 b2 o1=>
  qP true zQF (gk 0) u<|fun p2 c2=>zZ .s [0] [] zRz u u u (cq [0])<|fun r1 _ k=>k<|zB<|zJ u (jA 2 u<|zG<|qV<|qA<|wT<|qV<|qA<|zP u u kk [0] d)<|wD<|qB<|zN<|jB 2 u<|
  qE (gv kk [0] (gq [2])))<|qN<|qM<|qS<|qO<|zN<|jA 1 u<|zG<|zP u u kk [0] d
theorem zOj {qd : Prop} {y0 : zT} {y1 : qI} : qC qd prog 113 [.agg (vJ y0 p1 c1 p2 c2 p3 c3).toArray, vs y1] [] (vR y0 p1 c1 p2 c2 p3 c3 []) (zHG y0 y1) fun r K=>K (vi r) [] [] :=
 zX call113 func113 u fun X=>zC<|qX .s u<|fun b1=>qX .s u<|fun b2=>zA 1 u<|zB<|zC<|zM 1 u<|zU 0 u u u<|zA 1 u<|zZ .s [1] [] zGx u u u (cq [1])<|fun r1 _ k=>k<|zA 1 u<|zB<|zG<|
  zP u u kk [] d
theorem zPl {qd : Prop} {y0 : vU} {y1 : zO} : vZ qd prog 174 [.agg #[vb y0.1.1, vs y0.1.2, vi y0.2.1, vi y0.2.2.1, vs y0.2.2.2], pt b1 0] [bx b1 62 [vb y1.1, vs y1.2]] [] (zKw y0 y1) fun L r K=>K (vb r) L [] :=
 zX call174 func174 u fun X=>zC<|qX .s u<|fun b2=>zA 1 u<|zB<|zC<|zM 0 u<|qU 1 2 u u u<|qU 0 2 u u u<|zF (vb (y0.1 == y1))<|zA 1 u<|zB<|zG<|zP u u kk [0] d
theorem zEX {qd : Prop} {y0 : List vU} {y1 : zO} : vZ qd prog 173 [sv p1 y0 c1, .func (.func 174) #[] #[pt b1 0]] [bx b1 62 [vb y1.1, vs y1.2]] [Rl xL p1 c1 y0] (zAn y0 y1) fun L r K=>K (vi r) L [] :=
 zX call173 func173 u fun X=>jA 1 u<|zD<|jA 3 u<|zQ<|qT (fun s1 K=>K [0,1,7] [] [0] [(8, vi s1)] []) (gv kk [0] (gq [0]))<|fun s1 _ k=>k<|jA 1 u<|zD<|zJ u (jC<|zD<|zQ<|jA 2 u<|zC<|zA 3 u<|qQ 0 u u u<|fun x1 b2 o1=>
  qP true zMt (gk 0) u<|zZ .s [0] [] zPl u u u d<|fun r1 _ k=>k<|zB<|zJ u (jA 2 u<|zG<|qV<|qA<|wT<|qV<|qA<|zP u u kk [0] d)<|wD<|qB<|zN<|jB 2 u<|
  qE (gv kk [0] (gq [1])))<|qN<|qM<|qS<|qO<|zN<|jA 1 u<|zG<|zP u u kk [0] d
theorem zQw {qd : Prop} {y0 : zT} {y1 : zO} : qC qd prog 111 [.agg (vJ y0 p1 c1 p2 c2 p3 c3).toArray, .agg #[vb y1.1, vs y1.2]] [] (vR y0 p1 c1 p2 c2 p3 c3 []) (zGn y0 y1) fun r K=>K (vi r) [] [] :=
 zX call111 func111 u fun X=>zC<|qX .s u<|fun b1=>qX .s u<|fun b2=>zA 1 u<|zB<|zC<|zM 0 u<|zU 0 u u u<|zA 1 u<|zZ .s [1] [] zEX u u u (cq [0])<|fun r1 _ k=>k<|zA 1 u<|zB<|zG<|
  zP u u kk [] d
theorem zFf {qd : Prop} {y0 : qI} : qC qd prog 175 [vs y0] [] [] (zCR y0) fun r K=>K (vb r) [] [] :=
 zX call175 func175 u fun X=>jA 1 u<|zD<|xG (fun K=>K [0] [] [] [(12, vb (((len y0) == 0) || (decide (12 < (len y0)))))] []) (qK<|zA 4 u<|yA (b := (len y0) == 0) 8 u (fun hb1=>zA 3 u<|zF (vb true)<|zS<|
  wQ 12 (vb (((len y0) == 0) || (decide (12 < (len y0))))) u (by rw [hb1]; rfl)<|zL (gv kk [] d))<|fun hb1=>zA 3 u<|zF (vb (decide (12 < (len y0))))<|zS<|
  wQ 12 (vb (((len y0) == 0) || (decide (12 < (len y0))))) u (by rw [hb1]; rfl)<|zL (gv kk [] d))<|fun _ k=>k<|zJ u (jA 1 u<|zG<|qA<|zP u u kk [] d)<|jC<|zD<|jA 3 u<|zQ<|
  qT (fun s1 K=>K [0,14] [] [] [(15, vi s1)] []) (gv kk [] d)<|fun s1 _ k=>k<|jA 1 u<|zD<|zJ u (jC<|zD<|zQ<|jA 2 u<|zC<|zA 2 u<|uH fun x1 h1=>jv (fun h=>zKZ h u u underlying9 h1)<|zA 1 u<|zB<|zQ<|
  xG (fun K=>K [0,3,4,14,15] [] [] [(21, vb ((decide (97 ≤ x1)) && (decide (x1 ≤ 122))))] []) (qK<|zA 3 u<|yA (b := decide (97 ≤ x1)) 24 u (fun hb2=>zA 2 u<|zF (vb (decide (x1 ≤ 122)))<|zA 1 u<|zS<|
  wQ 21 (vb ((decide (97 ≤ x1)) && (decide (x1 ≤ 122)))) u (by rw [hb2]; rfl)<|zL (gv kk [] d))<|fun hb2=>zA 2 u<|zF (vb false)<|zA 1 u<|zS<|
  wQ 21 (vb ((decide (97 ≤ x1)) && (decide (x1 ≤ 122)))) u (by rw [hb2]; rfl)<|zL (gv kk [] d))<|fun _ k=>k<|zJ u (wD<|qB<|qB<|zN<|jB 2 u<|qE (gv kk [] d))<|
  xG (fun K=>K [0,14,15] [] [] [(28, vb ((decide (0 < s1)) && (if decide (48 ≤ x1) then (decide (x1 ≤ 57)) || (x1 == 95) else x1 == 95)))] []) (qK<|zA 3 u<|yA (b := decide (0 < s1)) 31 u (fun hb3=>zA 3 u<|
  yA (b := decide (48 ≤ x1)) 34 u (fun hb4=>zA 2 u<|zF (vb (decide (x1 ≤ 57)))<|zA 1 u<|yA (b := decide (x1 ≤ 57)) 38 u (fun hb5=>zA 2 u<|zF (vb true)<|zF (vb true)<|zA 1 u<|zS<|
  wQ 28 (vb ((decide (0 < s1)) && (if decide (48 ≤ x1) then (decide (x1 ≤ 57)) || (x1 == 95) else x1 == 95))) u (by rw [hb3,hb4,hb5]; rfl)<|zL (gv kk [] d))<|fun hb5=>zA 2 u<|zF (vb (x1 == 95))<|zF (vb (x1 == 95))<|
  zA 1 u<|zS<|wQ 28 (vb ((decide (0 < s1)) && (if decide (48 ≤ x1) then (decide (x1 ≤ 57)) || (x1 == 95) else x1 == 95))) u (by rw [hb3,hb4,hb5]; rfl)<|zL (gv kk [] d))<|fun hb4=>zA 2 u<|zF (vb false)<|zA 3 u<|
  zF (vb (x1 == 95))<|zF (vb (x1 == 95))<|zA 1 u<|zS<|wQ 28 (vb ((decide (0 < s1)) && (if decide (48 ≤ x1) then (decide (x1 ≤ 57)) || (x1 == 95) else x1 == 95))) u (by rw [hb3,hb4]; rfl)<|zL (gv kk [] d))<|fun hb3=>
  zA 10 u<|zF (vb false)<|zA 1 u<|zS<|wQ 28 (vb ((decide (0 < s1)) && (if decide (48 ≤ x1) then (decide (x1 ≤ 57)) || (x1 == 95) else x1 == 95))) u (by rw [hb3]; rfl)<|zL (gv kk [] d))<|fun _ k=>k<|zJ u (wD<|qB<|
  qB<|zN<|jB 2 u<|qE (gv kk [] d))<|jA 1 u<|zG<|qV<|qV<|qA<|wT<|qV<|qA<|zP u u kk [] d)<|qN<|qM<|qS<|qO<|zN<|jA 1 u<|zG<|zP u u kk [] d
theorem zEp {qd : Prop} {y0 : zO} : qC qd prog 171 [.agg #[vb y0.1, vs y0.2]] [] [] (zCZ y0) fun r K=>K (vb r) [] [] :=
 zX call171 func171 u fun X=>zC<|qX .s u<|fun b1=>zA 1 u<|zB<|zC<|zM 1 u<|zU 0 u u u<|qF zFf u d<|fun r1 _ k=>k<|zA 1 u<|zB<|zG<|zP u u kk [] d
theorem zJw {qd : Prop} {y0 : Int} : qC qd prog 170 [vi y0] [] [] (zHj y0) fun r K=>K (vb r) [] [] :=
 zX call170 func170 u fun X=>jA 1 u<|jjp (fun K=>K [(2, vb ((decide (0 ≤ y0)) && (decide (y0 ≤ 9))))] [] []) (qK<|zA 3 u<|yA (b := decide (0 ≤ y0)) 5 u (fun hb1=>zA 2 u<|zF (vb (decide (y0 ≤ 9)))<|zA 1 u<|zS<|
  wQ 2 (vb ((decide (0 ≤ y0)) && (decide (y0 ≤ 9)))) u (by rw [hb1]; rfl)<|zL (gv kk [] d))<|fun hb1=>zA 2 u<|zF (vb false)<|zA 1 u<|zS<|wQ 2 (vb ((decide (0 ≤ y0)) && (decide (y0 ≤ 9)))) u (by rw [hb1]; rfl)<|
  zL (gv kk [] d))<|fun _ k=>k<|zG<|zP u u kk [] d
theorem zRf {qd : Prop} {y0 : qI} : qC qd prog 172 [vs y0] [] [] (zGc y0) fun r K=>K (vb r) [] [] :=
 zX call172 func172 u fun X=>jA 1 u<|jjn (fun s1 K=>K [(2, vb s1)] [] []) (qK<|zA 3 u<|wJ 5 u (zA 2 u<|zF (vb true)<|zA 1 u<|zS<|zL (gv kk [] d))<|zA 1 u<|qF zFf u d<|fun r1 _ k=>k<|zF (vb r1)<|zA 1 u<|zS<|
  zL (gv kk [] d))<|fun s1 _ k=>k<|zG<|zP u u kk [] d
theorem zRQ {qd : Prop} {y0 : vU} : qC qd prog 110 [.agg #[vb y0.1.1, vs y0.1.2, vi y0.2.1, vi y0.2.2.1, vs y0.2.2.2]] [] [] (zG8 y0) fun r K=>K (vi r) [] [] :=
 zX call110 func110 u fun X=>zC<|qX .s u<|fun b1=>zA 1 u<|zB<|zY8 (fun s1 K=>K [1] [] [] [] []) (zC<|zM 2 u<|zU 0 u u u<|zB<|zQ<|wL (fun s2 K=>K [1,4] [] [] [(5, vb s2)] []) (jA 2 u<|zJ u (wD<|zL (gv kk [0] d))<|jB 2 u<|
  zL (gv kk [0] d))<|fun s2 _ k=>k<|zJ u (zC<|zM 3 u<|zU 0 u u u<|zA 1 u<|zB<|zJ u (jA 1 u<|zG<|qV<|wT<|zP u u kk [] d)<|wD<|qB<|qE (gv kk [0] d))<|jA 2 u<|zJ u (zC<|
  zM 3 u<|zU 0 u u u<|qF zJw u d<|fun r1 _ k=>k<|zA 1 u<|zB<|zJ u (jA 1 u<|zG<|qV<|wT<|zP u u kk [] d)<|wD<|qB<|qE (gv kk [0] d))<|jA 1 u<|zG<|qV<|wT<|
  zP u u kk [] d)<|fun s1 _ k=>k<|zD<|jjn (fun s3 K=>K [(26, vb s3)] [[]] []) (qK<|zM 0 u<|qU 0 2 u u u<|qF zEp u d<|fun r2 _ k=>k<|zA 2 u<|wJ 21 u (zA 4 u<|zF (vb true)<|zS<|
  zL (gv kk [900] d))<|zM 4 u<|zU 0 u u u<|qF zRf u d<|fun r3 _ k=>k<|zA 1 u<|zF (vb (!r3))<|zS<|zL (gv kk [900] d))<|fun s3 _ k=>k<|zJ u (jA 1 u<|zG<|qA<|
  zP u u kk [] d)<|jC<|jA 1 u<|zG<|zP u u kk [] d
theorem zPe {qd : Prop} {y0 : zT} {y1 : vG} : qC qd prog 114 [.agg (vJ y0 p1 c1 p2 c2 p3 c3).toArray, .agg #[vs y1.1, vi y1.2.1, vb y1.2.2.1, vs y1.2.2.2]] [] (vR y0 p1 c1 p2 c2 p3 c3 []) (zE5 y0 y1) fun r K=>K (vi r) [] [] :=
 zX call114 func114 u fun X=>zC<|qX .s u<|fun b1=>qX .s u<|fun b2=>zA 1 u<|zB<|zD<|wL (fun s1 K=>K [2,3] [] [0,1,2] [(15, vb s1)] []) (qK<|zM 1 u<|zU 1 u u u<|qF zJw u d<|fun r1 _ k=>k<|zA 2 u<|wJ 10 u (zA 4 u<|
  zF (vb true)<|zS<|zL (gv kk [0,1] (gq [0,1,2])))<|zM 2 u<|qU 1 2 u u u<|qF zEp u d<|fun r2 _ k=>k<|zA 1 u<|zF (vb (!r2))<|zS<|zL (gv kk [0,1] (gq [0,1,2])))<|fun s1 _ k=>k<|zJ u (
  jA 1 u<|zG<|qA<|zP u u kk [] d)<|jC<|zD<|zC<|qU 0 3 u u u<|zM 0 u<|zU 1 u u u<|qF zOj u (cq [0,1,2])<|fun r3 _ k=>k<|zA 1 u<|zB<|zQ<|jA 3 u<|zJ u (jA 1 u<|zG<|qV<|qA<|
  zP u u kk [] d)<|zC<|zM 1 u<|zU 0 u u u<|zA 1 u<|qQ 1 u u u<|fun x1 b3 o1=>zM 1 u<|qP false oB (gf (gs (gk 0))) u<|zA 1 u<|zB<|zJ u (jA 1 u<|zG<|qV<|qA<|zP u u kk [] d
  )<|wD<|qB<|zN<|jA 1 u<|zG<|zP u u kk [] d
theorem zU8 {qd : Prop} {y0 : wC} : qC qd prog 112 [.agg (zSe y0 p1 c1).toArray] [] (zVU y0 p1 c1 []) (zJU y0) fun r K=>K (vi r) [] [] :=
 zX call112 func112 u fun X=>zC<|qX .s u<|fun b1=>zA 1 u<|zB<|zD<|zC<|zM 3 u<|zU 0 u u u<|zA 2 u<|zB<|zJ u (jA 1 u<|zG<|qA<|zP u u kk [] d)<|jC<|zD<|wL (fun s1 K=>K [1] [] [0] [(34, vb s1)] []) (qK<|zM 0 u<|
  zU 0 u u u<|qF zFf u d<|fun r1 _ k=>k<|zA 2 u<|wJ 14 u (zA 4 u<|zF (vb true)<|zA 5 u<|zF (vb true)<|zA 8 u<|zF (vb true)<|zS<|zL (gv kk [0] (gq [0])))<|zM 4 u<|
  qU 0 2 u u u<|qF zEp u d<|fun r2 _ k=>k<|zA 1 u<|zF (vb (!r2))<|zA 1 u<|wJ 20 u (zA 4 u<|zF (vb true)<|zA 8 u<|zF (vb true)<|zS<|zL (gv kk [0] (gq [0])))<|zM 2 u<|zU 0 u u u<|
  qF zJw u d<|fun r3 _ k=>k<|zA 1 u<|zF (vb (!r3))<|zA 1 u<|wJ 26 u (zA 7 u<|zF (vb true)<|zS<|zL (gv kk [0] (gq [0])))<|zM 1 u<|zU 0 u u u<|zA 1 u<|wJ 29 u (zM 2 u<|
  zU 0 u u u<|zA 1 u<|zF (vb (y0.2.2.1 != 0))<|zF (vb (y0.2.2.1 != 0))<|zS<|zL (gv kk [0] (gq [0])))<|zA 3 u<|zF (vb false)<|zF (vb false)<|zS<|zL (gv kk [0] (gq [0])))<|fun s1 _ k=>k<|zJ u (
  jA 1 u<|zG<|qA<|zP u u kk [] d)<|jC<|zY8 (fun s2 K=>K [1] [] [0] [] []) (zC<|zM 3 u<|zU 0 u u u<|zA 2 u<|zB<|zQ<|qT (fun s3 K=>K [1,36,37] [] [0] [(38, vi s3)] []) (gv kk [0] (gq [0]))<|
  fun s3 _ k=>k<|jA 1 u<|zD<|zJ u (jC<|zD<|zQ<|zC<|qQ 0 u u u<|fun x1 b2 o1=>qP true yU (gk 0) u<|wO .s (.agg #[vb false, vs []])<|fun b3=>qL .s 1 u u u<|zB<|zC<|qU 1 2 u u u<|
  qF zEp u d<|fun r4 _ k=>k<|zA 1 u<|zB<|zJ u (jA 1 u<|zG<|qV<|qA<|wT<|qV<|wT<|zP u u kk [] d)<|wD<|qB<|zN<|jB 2 u<|qE (gv kk [0] (gq [1])))<|qN<|qM<|qS<|qO<|
  qE (gv kk [0] (gq [0])))<|fun s2 _ k=>k<|zD<|jA 1 u<|zQ<|qT (fun s4 K=>K [1] [] [0] [(5, vi s4)] []) (gv kk [0] (gq [0]))<|fun s4 _ k=>k<|zD<|zC<|zA 1 u<|zM 3 u<|zU 0 u u u<|zA 2 u<|zB<|
  zJ u (jC<|zD<|zQ<|yC [] [0] 13<|qR 0 3 u u<|wI 1 0 u u u u<|zW 9 [2,3] u<|yF 4 0 u u u u<|fun x2 b4 o2=>yD 5 true yU u (gk 0) u<|qR 6 3 u u<|wI 7 0 u u u u<|zW 4 [8] u<|
  yF 9 1 u u u u<|fun x3 b5 o3=>yD 10 true yU u (gk 0) u<|qH 11<|zZ (.f u) [] [] zMw u u u d<|fun r5 _ k=>k<|qD<|zW 0 [12] u<|qY<|zN<|zJ u (jA 1 u<|zG<|qV<|qA<|wT<|qV<|qA<|
  zP u u kk [] d)<|wD<|qB<|zN<|jB 3 u<|qE (gv kk [0] (gq [2])))<|qN<|qM<|qS<|qO<|zN<|jA 1 u<|zG<|zP u u kk [] d
theorem zLc {qd : Prop} {y0 : zT} : qC qd prog 63 [.agg (vJ y0 p1 c1 p2 c2 p3 c3).toArray] [] (vR y0 p1 c1 p2 c2 p3 c3 []) (zD2 y0) fun r K=>K (vi r) [] [] :=
 zX call63 func63 u fun X=>zC<|qX .s u<|fun b1=>zA 1 u<|zB<|zD<|xG (fun K=>K [1] [] [0,1,2] [(27, vb ((decide (16 < (len y0.1))) || ((decide (24 < (len y0.2.1))) || (decide (8 < (len y0.2.2))))))] []) (qK<|zM 0 u<|zU 0 u u u<|zA 3 u<|
  yA (b := decide (16 < (len y0.1))) 16 u (fun hb1=>zA 4 u<|zF (vb true)<|zA 5 u<|zF (vb true)<|zS<|wQ 27 (vb ((decide (16 < (len y0.1))) || ((decide (24 < (len y0.2.1))) || (decide (8 < (len y0.2.2)))))) u (by rw [hb1]; rfl)<|
  zL (gv kk [0] (gq [0,1,2])))<|fun hb1=>zM 1 u<|zU 0 u u u<|zA 2 u<|zF (vb (decide (24 < (len y0.2.1))))<|zA 1 u<|yA (b := decide (24 < (len y0.2.1))) 22 u (fun hb2=>zA 4 u<|zF (vb true)<|zS<|
  wQ 27 (vb ((decide (16 < (len y0.1))) || ((decide (24 < (len y0.2.1))) || (decide (8 < (len y0.2.2)))))) u (by rw [hb1,hb2]; rfl)<|zL (gv kk [0] (gq [0,1,2])))<|fun hb2=>zM 2 u<|zU 0 u u u<|zA 2 u<|
  zF (vb (decide (8 < (len y0.2.2))))<|zS<|wQ 27 (vb ((decide (16 < (len y0.1))) || ((decide (24 < (len y0.2.1))) || (decide (8 < (len y0.2.2)))))) u (by rw [hb1,hb2]; rfl)<|zL (gv kk [0] (gq [0,1,2])))<|fun _ k=>k<|zJ u (
  jA 1 u<|zG<|qA<|zP u u kk [] d)<|jC<|zY8 (fun s1 K=>K [1] [] [0,1,2] [] []) (zC<|zM 0 u<|zU 0 u u u<|zA 2 u<|zB<|zQ<|
  qT (fun s2 K=>K [1,29,30] [] [0,1,2] [(31, vi s2)] []) (gv kk [0] (gq [0,1,2]))<|fun s2 _ k=>k<|jA 1 u<|zD<|zJ u (jC<|zD<|zQ<|zC<|zA 1 u<|qQ 0 u u u<|fun x1 b2 o1=>qP true zMt (gk 0) u<|
  wO .s (.agg #[vb false, vs [], vi 0, vi 0, vs []])<|fun b3=>zA 1 u<|qL .s 1 u u u<|zB<|zD<|zC<|qU 1 5 u u u<|qF zRQ u d<|fun r1 _ k=>k<|zA 1 u<|zB<|jA 2 u<|zJ u (jA 2 u<|zG<|qA<|qV<|
  qA<|wT<|qV<|wT<|zP u u kk [] d)<|jC<|zC<|qU 0 3 u u u<|zM 0 u<|qU 1 2 u u u<|qF zQw u (cq [1,2,3])<|fun r2 _ k=>k<|zA 2 u<|zB<|zJ u (jA 1 u<|zG<|qV<|qA<|wT<|qV<|wT<|
  zP u u kk [] d)<|wD<|qB<|zN<|jB 2 u<|qE (gv kk [0] (gq [1,2,3])))<|qN<|qM<|qS<|qO<|qE (gv kk [0] (gq [0,1,2])))<|fun s1 _ k=>k<|zY8 (fun s3 K=>K [1] [] [0,1,2] [] []) (zC<|zM 1 u<|
  zU 0 u u u<|zA 2 u<|zB<|zQ<|qT (fun s4 K=>K [1,49,50] [] [1,0,2] [(51, vi s4)] []) (gv kk [0] (gq [1,0,2]))<|fun s4 _ k=>k<|jA 1 u<|zD<|zJ u (jC<|zD<|zQ<|zC<|zA 1 u<|qQ 0 u u u<|fun x2 b4 o2=>
  qP true zQF (gk 0) u<|fun p4 c4=>wO .s (.agg #[vs [], vb false, vi 0, .slice none 0 0, vb false, vs []])<|fun b5=>zA 1 u<|qL .s 1 u u u<|zB<|zD<|zC<|qU 1 6 u u u<|qF zU8 u (cq [0])<|fun r3 _ k=>k<|
  zA 1 u<|zB<|jA 2 u<|zJ u (jA 2 u<|zG<|qA<|qV<|qA<|wT<|qV<|wT<|zP u u kk [] d)<|jC<|zC<|qU 0 3 u u u<|zM 0 u<|zU 1 u u u<|qF zOj u (cq [3,2,4])<|fun r4 _ k=>k<|zA 2 u<|
  zB<|zJ u (jA 1 u<|zG<|qV<|qA<|wT<|qV<|wT<|zP u u kk [] d)<|wD<|qB<|zN<|jB 2 u<|qE (gv kk [0] (gq [2,3,4])))<|qN<|qM<|qS<|qO<|qE (gv kk [0] (gq [1,0,2])))<|fun s3 _ k=>k<|zD<|zC<|
  zM 2 u<|zU 0 u u u<|zA 2 u<|zB<|zQ<|qT (fun s5 K=>K [1,69,70] [] [2,0,1] [(71, vi s5)] []) (gv kk [0] (gq [2,0,1]))<|fun s5 _ k=>k<|jA 1 u<|zD<|zJ u (jC<|zD<|zQ<|zC<|qQ 0 u u u<|fun x3 b6 o3=>
  qP true zNi (gk 0) u<|wO .s (.agg #[vs [], vi 0, vb false, vs []])<|fun b7=>qL .s 1 u u u<|zB<|zC<|qU 0 3 u u u<|qU 1 4 u u u<|qF zPe u (cq [2,3,1])<|fun r5 _ k=>k<|zA 1 u<|zB<|
  jA 2 u<|zJ u (jA 2 u<|zG<|qV<|qA<|wT<|qV<|qA<|zP u u kk [] d)<|wD<|qB<|zN<|jB 2 u<|qE (gv kk [0] (gq [1,2,3])))<|qN<|qM<|qS<|qO<|zN<|jA 1 u<|zG<|zP u u kk [] d
theorem zSp {qd : Prop} {y0 : zT} : qC qd prog 25 [.agg (vJ y0 p1 c1 p2 c2 p3 c3).toArray] [] (vR y0 p1 c1 p2 c2 p3 c3 []) (zI2 y0) fun r K=>∀ p4 c4,K (.tuple #[sv p4 r.1 c4, vi r.2]) [] [Rl wS p4 c4 r.1] :=
 zX call25 func25 u fun X=>zC<|qX .s u<|fun b1=>zA 2 u<|zB<|jcs<|zD<|zC<|qU 0 3 u u u<|qF zLc u (cq [0,1,2])<|fun r1 _ k=>k<|zA 1 u<|zB<|jA 2 u<|zJ u (jA 3 u<|zG<|qA<|jcr<|
  wK u (lT u (lT u lN)) (fun _ k=>k none 0) [] ⟨gn,d⟩)<|jC<|zC<|qU 0 3 u u u<|zF (.agg #[sv p1 y0.1 c1, sv p2 y0.2.1 c2, sv p3 y0.2.2 c3, .slice none 0 0, .slice none 0 0, vi 0])<|vE wS 112<|qX .s u<|fun b2=>
  zA 1 u<|zB<|wL (fun s1 K=>∀ p4 c4 r_1,K [1,5] [(1, r_1), (2, bx b2 120 [sv p1 y0.1 c1, sv p2 y0.2.1 c2, sv p3 y0.2.2 c3, sv p4 s1 c4, .slice none 0 0, vi 0])] [1,2,3] [] [Al wS 112 r_1 p4 c4 s1]) (zC<|zM 0 u<|
  zU 0 u u u<|zA 2 u<|zB<|zQ<|
  qT (fun s2 K=>∀ p5 c5 r_2,K [1,5,20,21] [(1, r_2), (2, bx b2 120 [sv p1 y0.1 c1, sv p2 y0.2.1 c2, sv p3 y0.2.2 c3, sv p5 s2.2 c5, .slice none 0 0, vi 0])] [1,2,3] [(22, vi s2.1)] [Al wS 112 r_2 p5 c5 s2.2]) (gv (fun _ k=>k none 0 []) [0,1,2] (gq [0,1,2,3]))<|
  fun s2 _ k p5 c5 r_2=>k<|jA 1 u<|zD<|zJ u (jC<|zD<|zQ<|zC<|zA 1 u<|qQ 1 u u u<|fun x1 b3 o1=>qP true zMt (gk 0) u<|wO .s (.agg #[vb false, vs [], vi 0, vi 0, vs []])<|fun b4=>zA 1 u<|qL .s 3 u u u<|
  zB<|uO [13] [2, 3] 14<|zW 11 [0,1,2] u<|qR 3 3 u u<|wI 4 2 u u u u<|zW 8 [5] u<|qR 6 0 u u<|vM 7 3 2 u u u u<|wP 8 (.agg #[vi s2.1, vi (-1), .slice none 0 0, vb x1.1.1, vs x1.1.2]) u<|qH 9<|
  wR (.f u) (e := wS) 112 [vi s2.1, vi (-1), .slice none 0 0, vb x1.1.1, vs x1.1.2] ([(s2.1, (-1), ([] : List Int), x1.1)] : List zK) (rC (vP vI (vP vI (vP (vL gn) (vP vB vS)))) rN)<|fun p6 c6=>qD<|qH 10<|
  wN (.f u) 1 2 u (gk 0) u u<|fun x2 r_3 p7 c7=>qD<|zW 2 [11] u<|qR 12 3 u u<|qH 13<|qL (o := 3) (.f u) 2 u u u<|jdb [] [2, 3]<|qY<|qB<|zN<|jB 2 u<|qE (gv (fun _ k=>k p7 c7 r_3) [0,1,2] (gq [0,4,5,6])))<|
  qN<|qM<|qS<|qO<|zL (gv (fun _ k=>k p5 c5 r_2) [0,1,2] (gq [0,1,2,3])))<|fun s1 _ k p4 c4 r_1=>k<|zD<|jlb<|zN<|
  wL (fun s3 K=>∀ p8 c8 r_4 p9 c9 r_5,K [5] [(0, []), (1, r_4), (2, bx b2 120 [sv p1 y0.1 c1, sv p2 y0.2.1 c2, sv p3 y0.2.2 c3, sv p8 s3.1 c8, sv p9 s3.2.1 c9, vi s3.2.2]), (3, r_5)] [1,2,3] [] [Al wS 112 r_4 p8 c8 s3.1, Al wS 112 r_5 p9 c9 s3.2.1]) (
  jA 1 u<|zQ<|
  qT (fun s4 K=>∀ p10 c10 r_6 p11 c11,K [1,5] [(1, r_6), (2, bx b2 120 [sv p1 y0.1 c1, sv p2 y0.2.1 c2, sv p3 y0.2.2 c3, sv p10 s4.2.1 c10, sv p11 s4.2.2.1 c11, vi s4.2.2.2])] [1,2,3] [(8, vi s4.1)] [Al wS 112 r_6 p10 c10 s4.2.1, Rl wS p11 c11 s4.2.2.1]) (gv (fun _ k=>k p4 c4 r_1 none 0) [0,1,2] ⟨gk 0,gn,gk 1,gk 2,gk 3,d⟩)<|
  fun s4 _ k p10 c10 r_6 p11 c11=>k<|zD<|zQ<|zC<|zA 2 u<|zM 4 u<|vE wS 112<|qL .s 2 u u u<|zB<|
  zY8 (fun s5 K=>∀ p12 c12 r_7,K [1,5,8] [(2, bx b2 120 [sv p1 y0.1 c1, sv p2 y0.2.1 c2, sv p3 y0.2.2 c3, sv p10 s4.2.1 c10, sv p12 s5 c12, vi s4.2.2.2]), (3, r_7)] [3,4,5,1] [] [Al wS 112 r_7 p12 c12 s5]) (zC<|zM 1 u<|
  zU 0 u u u<|zA 2 u<|zB<|zQ<|
  qT (fun s6 K=>∀ p13 c13 r_8,K [1,5,8,47,48] [(2, bx b2 120 [sv p1 y0.1 c1, sv p2 y0.2.1 c2, sv p3 y0.2.2 c3, sv p10 s4.2.1 c10, sv p13 s6.2 c13, vi s4.2.2.2]), (3, r_8)] [4,3,5,1] [(49, vi s6.1)] [Al wS 112 r_8 p13 c13 s6.2]) (gv (fun _ k=>k none 0 []) [0,1,2,3] (gq [0,4,3,5,1]))<|
  fun s6 _ k p13 c13 r_8=>k<|jA 1 u<|zD<|zJ u (jC<|zD<|zQ<|zC<|zA 1 u<|qQ 1 u u u<|fun x3 b5 o2=>qP true zQF (gk 0) u<|fun p14 c14=>wO .s (.agg #[vs [], vb false, vi 0, .slice none 0 0, vb false, vs []])<|fun b6=>
  zA 1 u<|qL .s 4 u u u<|zB<|
  wL (fun s7 K=>∀ p15 c15 r_9,K [1,5,8,47,48,49] [(2, bx b2 120 [sv p1 y0.1 c1, sv p2 y0.2.1 c2, sv p3 y0.2.2 c3, sv p10 s4.2.1 c10, sv p15 s7 c15, vi s4.2.2.2]), (3, r_9), (4, [])] [3,4,5,6] [] [Al wS 112 r_9 p15 c15 s7]) (zC<|
  zM 3 u<|zU 4 u u u<|zA 2 u<|zB<|zJ u (qK<|zA 2 u<|zZ .s [2, 1, 3] [] zLy rfl u u ⟨ck 4,ck 3,ck 5,ck 6,ck 2,cn,d⟩<|fun r2 _ k p16 c16 r_10=>k<|zS<|
  zL (gv (fun _ k=>k p16 c16 r_10) [0,1,2,3,904] (gq [0,4,5,6,7])))<|jA 2 u<|zJ u (uO [13] [2, 4] 14<|zW 11 [0,1,2] u<|qR 3 4 u u<|wI 4 2 u u u u<|zW 8 [5] u<|qR 6 4 u u<|vM 7 4 2 u u u u<|
  wP 8 (.agg #[vi (-1), vi s6.1, .slice none 0 0, vb x3.2.2.2.2.1, vs x3.2.2.2.2.2]) u<|qH 9<|
  wR (.f u) (e := wS) 112 [vi (-1), vi s6.1, .slice none 0 0, vb x3.2.2.2.2.1, vs x3.2.2.2.2.2] ([((-1), s6.1, ([] : List Int), x3.2.2.2.2)] : List zK) (rC (vP vI (vP vI (vP (vL gn) (vP vB vS)))) rN)<|fun p17 c17=>qD<|
  qH 10<|wN (.f u) 3 3 u (gk 0) u u<|fun x4 r_11 p18 c18=>qD<|zW 2 [11] u<|qR 12 4 u u<|qH 13<|qL (o := 4) (.f u) 2 u u u<|jdb [] [2, 4]<|qY<|zL (gv (fun _ k=>k p18 c18 r_11) [0,1,2,3,904] (gq [0,5,6,7,8])))<|
  wD<|zL (gv (fun _ k=>k p13 c13 r_8) [0,1,2,3,904] (gq [2,3,4,5,6])))<|fun s7 _ k p15 c15 r_9=>k<|zC<|zA 1 u<|zZ .s [2] [1, 3] zFS u u u ⟨ck 2,ck 1,ck 3,cl 1 4,cl 3 0,d⟩<|fun r3 _ k=>k<|zB<|zJ u (qN<|
  jbm<|qM<|qS<|jbm<|qS<|jbm<|qM<|qS<|qO<|zL (gv (fun _ k=>k p10 c10 r_6 p15 c15 r_9) [900,1,2,3] (gq [4,0,2,1,3])))<|wD<|qB<|zN<|jB 2 u<|qE (gv (fun _ k=>k p15 c15 r_9) [0,1,2,3] (gq [0,1,2,3,4])))<|qN<|qM<|qS<|qO<|
  qE (gv (fun _ k=>k p13 c13 r_8) [0,1,2,3] (gq [0,2,1,3,4])))<|fun s5 _ k p12 c12 r_7=>k<|zD<|zC<|zA 2 u<|zM 4 u<|zU 2 u u u<|zA 2 u<|zB<|zJ u (qN<|qM<|jbm<|qM<|qS<|qO<|
  zL (gv (fun _ k=>k p10 c10 r_6 p12 c12 r_7) [900,1,2,3] (gq [4,0,1,2,3])))<|jC<|zC<|zA 3 u<|zM 3 u<|zU 2 u u u<|zA 2 u<|zM 5 u<|qL .s 2 u u u<|zB<|uO [12] [2] 13<|zW 10 [0,1,2] u<|qR 3 3 u u<|
  wI 4 2 u u u u<|zW 6 [5,6] u<|qR 7 4 u u<|wI 8 2 u u u u<|qH 9<|jao (.f u) 1 3 4 0 u u u u<|fun x5 r_12 p19 c19=>qD<|zW 2 [10] u<|qR 11 3 u u<|qH 12<|qL (o := 3) (.f u) 2 u u u<|
  jdb [] [2]<|qY<|qB<|zN<|jB 3 u<|wW 3 1 u u<|qE (gv (fun _ k=>k p19 c19 r_12 p12 c12) [0,1,2] (gq [1,0,3,4,5])))<|fun s3 _ k p8 c8 r_4 p9 c9 r_5=>k<|zD<|zC<|zA 1 u<|
  zZ .s [2] [1, 3] zFS u u u ⟨ck 2,ck 3,ck 4,cl 1 0,cl 3 1,d⟩<|fun r4 _ k=>k<|zB<|zJ u (jA 2 u<|zG<|qA<|jcr<|wK u (lT u (lT u lN)) (fun _ k=>k none 0) [] ⟨gn,d⟩)<|jC<|zC<|zA 2 u<|zM 3 u<|
  zU 2 u u u<|zA 2 u<|zB<|zG<|jcr<|wW 1 0 u u<|wK u (lT u (lT u lN)) (fun _ k=>k p8 c8) [] (gq [0])
theorem zPf {qd : Prop} {y0 : zO} : qC qd prog 191 [.agg #[vb y0.1, vs y0.2]] [] [] (zLC y0) fun r K=>K (.agg #[vb r.1, vs r.2]) [] [] :=
 zX call191 func191 u fun X=>zC<|qX .s u<|fun b1=>wO .s (.agg #[vb false, vs []])<|fun b2=>zB<|zC<|zM 0 u<|zU 0 u u u<|zA 1 u<|zM 0 u<|qL .s 0 u u u<|zB<|zC<|qU 0 2 u u u<|qL .s 1 u u u<|zB<|zG<|
  wK u (lC 1 (.agg #[vb (!y0.1), vs y0.2]) u u lN) kk [] d
theorem zUy {qd : Prop} {y0 : zT} {y1 : List zK} {y2 : Int} {y3 : Int} : qC qd prog 123 [.agg (vJ y0 p1 c1 p2 c2 p3 c3).toArray, sv p4 y1 c4, vi y2, vi y3] [] (vR y0 p1 c1 p2 c2 p3 c3 [Rl wS p4 c4 y1]) (zQK y0 y1 y2 y3) fun r K=>∀ p5 c5,K (sv p5 r c5) [] [Rl (zH .i64) p5 c5 r] :=
 zX call123 func123 u fun X=>zC<|qX .s u<|fun b1=>zA 1 u<|zB<|zC<|zA 1 u<|vE (zH .i64) 3<|zB<|
  wL (fun s1 K=>∀ b2 b3 p5 c5,K [4,9] [(2, bx b2 62 [vb s1.1.1, vs s1.1.2]), (3, bx b3 112 (z0a s1.2 p5 c5))] [0,1,2,3] [(10, pt b2 0), (11, pt b3 0)] (z07 s1.2 p5 c5 [])) (uO [] [] 13<|zW 11 [0,1] u<|
  yF 2 4 u u u u<|fun x1 b4 o1=>qR 3 3 u u<|yD 4 true yU u (gs (gs (gs (gk 0)))) u<|zW 6 [5,6] u<|yF 7 5 u u u u<|fun x2 b5 o2=>yD 8 true zVZ u (gk 0) u<|fun p6 c6=>jd2 9 10 (
  wO (.f u) (.agg #[vb false, vs []])<|fun b6=>qD<|qH 10<|wO (.f u) (.agg #[vi 0, vi 0, .slice none 0 0, vb false, vs []])<|fun b7=>qD<|qH 11<|qL (o := 0) (.f u) 2 u u u<|qD<|qH 12<|qL (o := 0) (.f u) 3 u u u<|
  qD<|qY<|zL (gv (fun _ k=>k b6 b7 p6 c6) [0,1,2,3] (gq [0,3,4,5,6]))) <|wO (.f u) (.agg #[vi 0, vi 0, .slice none 0 0, vb false, vs []])<|fun b8=>qD<|qH 9<|wO (.f u) (.agg #[vb false, vs []])<|fun b9=>qD<|qH 11<|
  qL (o := 0) (.f u) 3 u u u<|qD<|qH 12<|qL (o := 0) (.f u) 2 u u u<|qD<|qY<|zL (gv (fun _ k=>k b9 b8 p6 c6) [0,1,3,2] (gq [0,3,4,5,6])))<|fun s1 _ k b2 b3 p5 c5=>k<|yC [] [2, 3] 6<|vM 0 2 2 u u u u<|
  qR 1 3 u u<|vM 2 3 2 u u u u<|qH 3<|zZ (.f u) [] [] zPf u u u d<|fun r1 _ k=>k<|qD<|wP 4 (vb (s1.1 == r1)) u<|zW 0 [5] u<|qY<|zN<|zD<|zQ<|zC<|zM 0 u<|zU 3 u u u<|zA 2 u<|
  zB<|zJ u (wL (fun s2 K=>K [9] [(0, []), (2, []), (3, [])] [1] [(41, vb s2)] []) (qK<|zA 2 u<|wJ 32 u (zM 0 u<|zU 0 u u u<|zM 0 u<|zU 3 u u u<|qQ 2 u u u<|fun x3 b10 o3=>zM 2 u<|
  qP false oI (gf (gs (gk 0))) u<|zA 1 u<|zF (vb (x3.2.1 != 1))<|zS<|zL (gv kk [900,1,902,903] (gq [2])))<|zA 8 u<|zF (vb false)<|zS<|zL (gv kk [900,1,902,903] (gq [1])))<|fun s2 _ k=>k<|zJ u (qK<|
  zA 1 u<|wR .s (e := zH .i64) 3 [vi 1] ([1] : List Int) (rC vI rN)<|fun p7 c7=>wN .s 1 1 u (gk 0) u u<|fun x4 r_1 p8 c8=>zA 1 u<|zS<|qB<|zN<|jA 2 u<|zG<|wW 1 0 u u<|zP u u (fun _ k=>k p8 c8) [] (gq [0]))<|
  wD<|qB<|zN<|jA 2 u<|zG<|wW 1 0 u u<|zP u u (fun _ k=>k none 0) [] (gq [0]))<|zC<|zM 1 u<|zU 0 u u u<|zM 1 u<|zU 3 u u u<|qQ 3 u u u<|fun x5 b11 o4=>zM 1 u<|qP false oB (gf (gs (gk 0))) u<|
  zA 2 u<|zB<|zJ u (wL (fun s3 K=>∀ p9 c9 r_2,K [4,10,11] [(1, r_2)] [3,4,5,1] [(9, sv p9 s3 c9)] [Al (zH .i64) 3 r_2 p9 c9 s3]) (jA 1 u<|zJ u (qK<|zA 1 u<|wR .s (e := zH .i64) 3 [vi 2] ([2] : List Int) (rC vI rN)<|
  fun p10 c10=>wN .s 1 3 u (gk 0) u u<|fun x6 r_3 p11 c11=>zA 1 u<|zS<|zL (gv (fun _ k=>k p11 c11 r_3) [0,1,2,3] (gq [0,5,6,7,3])))<|wD<|zL (gv (fun _ k=>k none 0 []) [0,1,2,3] (gq [2,3,4,5,1])))<|fun s3 _ k p9 c9 r_2=>k<|
  wL (fun s4 K=>K [9] [(0, []), (2, []), (3, [])] [0] [(71, vb s4)] []) (uO [] [0, 2, 3] 14<|qR 0 0 u u<|wI 1 2 u u u u<|zW 11 [2] u<|wJ 60 u (qR 3 1 u u<|wI 4 2 u u u u<|qR 5 1 u u<|
  wI 6 0 u u u u<|qR 7 1 u u<|wI 8 3 u u u u<|yF 9 2 u u u u<|fun x7 b12 o5=>qR 10 0 u u<|yD 11 false oS u (gf (gk 0)) u<|zW 1 [12] u<|wP 13 (vb (s1.1.2 == x7.1)) u<|qY<|
  zL (gv kk [900,1,902,903] (gq [1])))<|zW 1 [3,4,5,6,7,8,9,10,11,12] u<|wP 13 (vb false) u<|qY<|zL (gv kk [900,1,902,903] (gq [0])))<|fun s4 _ k=>k<|zJ u (qK<|zA 1 u<|
  wR .s (e := zH .i64) 3 [vi 3] ([3] : List Int) (rC vI rN)<|fun p12 c12=>wN .s 1 1 u (gk 0) u u<|fun x8 r_4 p13 c13=>zA 1 u<|zS<|qB<|zN<|jA 2 u<|zG<|wW 1 0 u u<|zP u u (fun _ k=>k p13 c13) [] (gq [0]))<|wD<|
  qB<|zN<|jA 2 u<|zG<|wW 1 0 u u<|zP u u (fun _ k=>k p9 c9) [] (gq [0]))<|wD<|qB<|zN<|jA 2 u<|zG<|wW 1 2 u u<|zP u u (fun _ k=>k none 0) [] (gq [0])
theorem zR2 {qd : Prop} {y0 : wA} {y1 : wA} : qC qd prog 127 [.agg #[vi y0.1, vi y0.2.1, vi y0.2.2.1, vi y0.2.2.2], .agg #[vi y1.1, vi y1.2.1, vi y1.2.2.1, vi y1.2.2.2]] [] [] (zCx y0 y1) fun r K=>K (vi r) [] [] :=
 zX call127 func127 u fun X=>zC<|qX .s u<|fun b1=>qX .s u<|fun b2=>zA 1 u<|zB<|yC [] [0, 1] 23<|qR 0 0 u u<|wI 1 0 u u u u<|qR 2 0 u u<|wI 3 1 u u u u<|qR 5 1 u u<|wI 6 0 u u u u<|qR 7 1 u u<|
  wI 8 1 u u u u<|qR 10 2 u u<|wI 11 0 u u u u<|qR 12 2 u u<|wI 13 1 u u u u<|qR 15 3 u u<|wI 16 0 u u u u<|qR 17 3 u u<|wI 18 1 u u u u<|qH 4<|
  zZ (.f u) [] [] zCV u u u d<|fun r1 _ k=>k<|qD<|qH 9<|zZ (.f u) [] [] zCV u u u d<|fun r2 _ k=>k<|qD<|qH 14<|zZ (.f u) [] [] zCV u u u d<|fun r3 _ k=>k<|qD<|
  qH 19<|zZ (.f u) [] [] zCV u u u d<|fun r4 _ k=>k<|qD<|qH 20<|wR (.f u) (e := zH .i64) 3 [vi r1, vi r2, vi r3, vi r4] ([r1, r2, r3, r4] : List Int) (rC vI (rC vI (rC vI (rC vI rN))))<|fun p1 c1=>qD<|qH 21<|
  zZ (.f u) [] [] zPG u u u (cq [0])<|fun r5 _ k=>k<|qD<|zW 0 [22] u<|qY<|zN<|zG<|zP u u kk [] d
theorem zGS {qd : Prop} {y0 : List wA} : qC qd prog 126 [sv p1 y0 c1, .func (.func 127) #[] #[]] [r_1] [Al uU 123 r_1 p1 c1 y0] (zA4 y0) fun r K=>∀ r_2,K (.tuple #[]) [r_2] [Ar uU 123 r_2 p1 c1 (List.length y0) r] := ⟨call126, fun A w0 r hm hO hF => by
 have h := zQv (qd := qd) Go.Proofs.Tryz.sort126 (uD.prod (uD.int .i64) (uD.prod (uD.int .i64) (uD.prod (uD.int .i64) (uD.int .i64)))) (te := 123) Tryz.isAgg123 Tryz.sizeOf123 zCx 127 (enters_of func127 (by kernel_rfl) u) (fun w x y n hn => ?_) hO hF.1.1 hm
 · change Calls prog 126 _ _ _ at h
   refine h.mono fun e w' h => ?_
   cases e with
   | returned v => obtain ⟨r', rfl, h1, h2, h3, h4⟩ := h; exact fun G k => k r' ⟨rfl, h1, h2, ⟨h3, h4.symm⟩, trivial⟩
   | panicked ch => exact h
   | outgrown => exact h
 · refine ((zR2 (qd := True) (y0 := x) (y1 := y)).go [] w n hn (wG.start (by simp)) trivial).mono fun e w' h => ?_
   cases e with
   | returned v => exact h _ fun ⟨e1, q⟩ => ⟨e1, q.e⟩
   | panicked ch => exact h
   | outgrown => exact h⟩
theorem zTO {qd : Prop} {y0 : zT} {y1 : List zK} : qC qd prog 72 [.agg (vJ y0 p1 c1 p2 c2 p3 c3).toArray, sv p4 y1 c4] [] (vR y0 p1 c1 p2 c2 p3 c3 [Rl wS p4 c4 y1]) (zIT y0 y1) fun r K=>∀ p5 c5 r_1,K (sv p5 r c5) [r_1] [Al uU 123 r_1 p5 c5 r] :=
 zX call72 func72 u fun X=>zC<|qX .s u<|fun b1=>zA 1 u<|zB<|zC<|zA 1 u<|vE uU 123<|zB<|jjn (fun s1 K=>∀ p5 c5 r_1,K [(5, sv p5 s1 c5)] [[], r_1] [Al uU 123 r_1 p5 c5 s1]) (jA 3 u<|zQ<|
  qT (fun s2 K=>∀ p6 c6 r_2,K [1,2,13] [(1, r_2)] [4,1,2,3] [(5, sv p6 s2.1 c6), (14, vi s2.2)] [Al uU 123 r_2 p6 c6 s2.1]) (gv (fun _ k=>k none 0 []) [0,1] (gq [0,4,1,2,3]))<|fun s2 _ k p6 c6 r_2=>k<|jA 1 u<|zD<|zJ u (jC<|zD<|
  zQ<|jA 2 u<|jA 3 u<|zQ<|qT (fun s3 K=>∀ p7 c7 r_3,K [1,2,6,13,14,18] [(1, r_3)] [1,2,3,4] [(5, sv p7 s3.1 c7), (19, vi s3.2)] [Al uU 123 r_3 p7 c7 s3.1]) (gv (fun _ k=>k p6 c6 r_2) [0,1] (gq [0,1,2,3,4]))<|
  fun s3 _ k p7 c7 r_3=>k<|jA 1 u<|zD<|zJ u (jC<|zD<|zQ<|jA 2 u<|zC<|qU 0 3 u u u<|zA 3 u<|qF zUy rfl (cq [2,3,4,1])<|fun r1 _ k p8 c8=>k<|zA 1 u<|zB<|zD<|jA 3 u<|zJ u (qN<|qM<|qO<|zN<|jB 2 u<|
  qE (gv (fun _ k=>k p7 c7 r_3) [0,1] (gq [1,2,3,4,5])))<|jC<|jA 3 u<|zQ<|
  qT (fun s4 K=>∀ p9 c9 r_4,K [1,2,6,7,8,13,14,18,19,31] [(1, r_4)] [2,0,3,4,5] [(5, sv p9 s4.1 c9), (32, vi s4.2)] [Al uU 123 r_4 p9 c9 s4.1]) (gv (fun _ k=>k p7 c7 r_3) [0,1] (gq [1,2,0,3,4,5]))<|fun s4 _ k p9 c9 r_4=>k<|jA 1 u<|
  zD<|zJ u (jC<|zD<|zQ<|jA 2 u<|zD<|zC<|zA 2 u<|qF zLa u (cq [1])<|fun r2 _ k p10 c10=>k<|zA 1 u<|qF zCm u (cq [0])<|fun r3 _ k=>k<|zA 1 u<|zB<|zJ u (qN<|qM<|qO<|zN<|jB 2 u<|
  qE (gv (fun _ k=>k p9 c9 r_4) [0,1] (gq [1,2,3,4,5,6])))<|jC<|jA 3 u<|zQ<|
  qT (fun s5 K=>∀ p11 c11 r_5,K [1,2,6,7,8,9,13,14,18,19,31,32,41,42] [(1, r_5)] [2,3,4,5,6] [(5, sv p11 s5.1 c11), (43, vi s5.2)] [Al uU 123 r_5 p11 c11 s5.1]) (gv (fun _ k=>k p9 c9 r_4) [0,1] (gq [1,2,3,4,5,6]))<|
  fun s5 _ k p11 c11 r_5=>k<|jA 1 u<|zD<|zJ u (jC<|zD<|zQ<|zC<|qQ 2 u u u<|fun x1 b2 o1=>qP false oI (gk 0) u<|zA 1 u<|zB<|qK<|zA 5 u<|zF (.agg #[vi s3.2, vi s4.2, vi s2.2, vi x1])<|
  wR .s (e := uU) 123 [vi s3.2, vi s4.2, vi s2.2, vi x1] ([(s3.2, s4.2, s2.2, x1)] : List wA) (rC (vP vI (vP vI (vP vI vI))) rN)<|fun p12 c12=>wN .s 1 2 u (gk 0) u u<|fun x2 r_6 p13 c13=>zA 1 u<|zS<|qB<|zN<|
  jB 2 u<|qE (gv (fun _ k=>k p13 c13 r_6) [0,1] (gq [0,4,5,6,7,8])))<|qN<|qM<|qS<|qO<|qB<|zN<|jB 2 u<|qE (gv (fun _ k=>k p11 c11 r_5) [0,1] (gq [0,1,2,3,4,5])))<|qN<|qM<|qS<|qO<|qB<|zN<|jB 2 u<|
  qE (gv (fun _ k=>k p9 c9 r_4) [0,1] (gq [0,1,3,4,5])))<|qN<|qM<|qS<|qO<|qB<|zN<|jB 2 u<|qE (gv (fun _ k=>k p7 c7 r_3) [0,1] (gq [0,1,2,3,4])))<|qN<|qM<|qS<|qO<|zL (gv (fun _ k=>k p6 c6 r_2) [900,1] (gq [0])))<|
  fun s1 _ k p5 c5 r_1=>k<|zC<|zA 1 u<|zZ .s [1] [] zGS u u u (cq [0])<|fun r4 _ k r_7=>k<|zB<|jA 2 u<|zG<|jrE 0 4 u u<|zP u u (fun _ k=>k p5 c5 r_7) [1] (gq [0])
theorem zLj {qd : Prop} {y0 : List zK} {y1 : Int} : qC qd prog 196 [sv p1 y0 c1, vi y1] [] [Rl wS p1 c1 y0] (zCQ y0 y1) fun r K=>∀ p2 c2,K (sv p2 r c2) [] [Rl (zH .i64) p2 c2 r] :=
 zX call196 func196 u fun X=>jA 1 u<|zC<|zA 1 u<|vE (zH .i64) 3<|zB<|jjn (fun s1 K=>∀ p2 c2 r_1,K [(5, sv p2 s1 c2)] [r_1] [Al (zH .i64) 3 r_1 p2 c2 s1]) (zC<|zA 2 u<|qF zLa u (cq [1])<|fun r1 _ k p3 c3=>k<|zA 2 u<|zB<|zQ<|
  qT (fun s2 K=>∀ p4 c4 r_2,K [0,10,11] [(0, r_2)] [2,0] [(5, sv p4 s2.1 c4), (12, vi s2.2)] [Al (zH .i64) 3 r_2 p4 c4 s2.1]) (gv (fun _ k=>k none 0 []) [0] (gq [1,2,0]))<|fun s2 _ k p4 c4 r_2=>k<|jA 1 u<|zD<|zJ u (jC<|zD<|zQ<|
  zC<|qQ 2 u u u<|fun x1 b1 o1=>qP false oI (gk 0) u<|zA 1 u<|zB<|zC<|zA 2 u<|qQ 2 u u u<|fun x2 b2 o2=>zM 0 u<|qP false oI (gf (gk 0)) u<|zA 1 u<|zB<|zJ u (qK<|zA 3 u<|qQ 3 u u u<|
  fun x3 b3 o3=>zM 0 u<|qP false oI (gf (gk 0)) u<|wR .s (e := zH .i64) 3 [vi x3.1] ([x3.1] : List Int) (rC vI rN)<|fun p5 c5=>wN .s 0 4 u (gk 0) u u<|fun x4 r_3 p6 c6=>zA 1 u<|zS<|qB<|zN<|jB 2 u<|
  qE (gv (fun _ k=>k p6 c6 r_3) [0] (gq [0,6,7])))<|wD<|qB<|zN<|jB 2 u<|qE (gv (fun _ k=>k p4 c4 r_2) [0] (gq [2,3,4])))<|qN<|qM<|qS<|qO<|zL (gv (fun _ k=>k p4 c4 r_2) [0] (gq [0])))<|fun s1 _ k p2 c2 r_1=>k<|zC<|zA 1 u<|
  zZ .s [0] [] zHd u u u (cq [0])<|fun r2 _ k r_4=>k<|zB<|jA 2 u<|zG<|wW 0 0 u u<|jre 0 4 u u<|zP u u (fun _ k=>k p2 c2) [] (gq [0])
theorem zSq {qd : Prop} {y0 : Int} {y1 : zT} : vZ qd prog 197 [vi y0, pt b1 0] [bx b1 29 (vJ y1 p1 c1 p2 c2 p3 c3)] (vR y1 p1 c1 p2 c2 p3 c3 []) (zOI y0 y1) fun L r K=>K (vb r) L [] :=
 zX call197 func197 u fun X=>jA 1 u<|zC<|zM 0 u<|zU 0 u u u<|zA 1 u<|qQ 0 u u u<|fun x1 b2 o1=>zM 2 u<|qP false oI (gf (gs (gk 0))) u<|zA 2 u<|zB<|zG<|zP u u kk [0] d
theorem zHh {qd : Prop} {y0 : List Int} {y1 : zT} : vZ qd prog 178 [sv p1 y0 c1, .func (.func 197) #[] #[pt b1 0]] [bx b1 29 (vJ y1 p2 c2 p3 c3 p4 c4)] (Rl (zH .i64) p1 c1 y0 :: (vR y1 p2 c2 p3 c3 p4 c4 [])) (zBR y0 y1) fun L r K=>K (vi r) L [] :=
 zX call178 func178 u fun X=>jA 1 u<|zD<|jA 3 u<|zQ<|qT (fun s1 K=>K [0,1,7] [] [0,1,2,3] [(8, vi s1)] []) (gv kk [0] (gq [0,1,2,3]))<|fun s1 _ k=>k<|jA 1 u<|zD<|zJ u (jC<|zD<|zQ<|jA 2 u<|zC<|zA 3 u<|qQ 0 u u u<|fun x1 b2 o1=>
  qP false oI (gk 0) u<|zZ .s [0] [] zSq u u u (cq [2,3,4])<|fun r1 _ k=>k<|zB<|zJ u (jA 2 u<|zG<|qV<|qA<|wT<|qV<|qA<|zP u u kk [0] d)<|wD<|qB<|zN<|jB 2 u<|
  qE (gv kk [0] (gq [1,2,3,4])))<|qN<|qM<|qS<|qO<|zN<|jA 1 u<|zG<|zP u u kk [0] d
theorem zG4 {qd : Prop} {y0 : List Int} {y1 : zT} : vZ qd prog 116 [sv p1 y0 c1, .func (.func 197) #[] #[pt b1 0]] [bx b1 29 (vJ y1 p2 c2 p3 c3 p4 c4)] (Rl (zH .i64) p1 c1 y0 :: (vR y1 p2 c2 p3 c3 p4 c4 [])) (zBE y0 y1) fun L r K=>K (vb r) L [] :=
 zX call116 func116 u fun X=>jA 1 u<|zC<|zA 2 u<|zZ .s [0] [] zHh u u u (cq [0,1,2,3])<|fun r1 _ k=>k<|zA 2 u<|zB<|zG<|zP u u kk [0] d
theorem zUv {qd : Prop} {y0 : zT} {y1 : List zK} {y2 : Int} : qC qd prog 128 [.agg (vJ y0 p1 c1 p2 c2 p3 c3).toArray, sv p4 y1 c4, vi y2] [] (vR y0 p1 c1 p2 c2 p3 c3 [Rl wS p4 c4 y1]) (zKJ y0 y1 y2) fun r K=>K (vb r) [] [] :=
 zX call128 func128 u fun X=>zC<|qX .s u<|fun b1=>zA 1 u<|zB<|zC<|zA 2 u<|qF zLj u (cq [3])<|fun r1 _ k p5 c5=>k<|zA 1 u<|zZ .s [0] [] zG4 u u u (cq [0,1,2,3])<|fun r2 _ k=>k<|zA 1 u<|
  zB<|zG<|zP u u kk [] d
theorem zQX {qd : Prop} (k : Nat) :
    (∀ {y0 : zT} {p1 : Option Addr} {c1 : Nat} {p2 : Option Addr} {c2 : Nat} {p3 : Option Addr} {c3 : Nat} {y1 : List zK} {p4 : Option Addr} {c4 : Nat} {y2 : Int}, qC qd prog 201 [.agg (vJ y0 p1 c1 p2 c2 p3 c3).toArray, sv p4 y1 c4, vi y2] [] (vR y0 p1 c1 p2 c2 p3 c3 [Rl wS p4 c4 y1]) (zHZ k y0 y1 y2) fun r K=>∀ p5 c5,K (sv p5 r c5) [] [Rl (zH .i64) p5 c5 r]) := by
  induction k with
  | zero => exact z2q call201
  | succ k ih =>
    have ih_argument_Last := @ih
    exact @fun y0 p1 c1 p2 c2 p3 c3 y1 p4 c4 y2=>zX (m1 := zJF (zHZ k) y0 y1 y2) call201 func201 u fun X=>zC<|qX .s u<|fun b1=>zA 1 u<|zB<|zD<|wL (fun s1 K=>K [1,2,3] [] [3,0,1,2] [(21, vb s1)] []) (qK<|zA 2 u<|qF zJx u (cq [3])<|fun r1 _ k=>k<|zA 2 u<|wJ 14 u (zA 6 u<|zF (vb true)<|zS<|
  zL (gv kk [0] (gq [3,0,1,2])))<|zA 2 u<|qQ 3 u u u<|fun x1 b2 o1=>zM 1 u<|qP false oI (gf (gs (gk 0))) u<|zA 1 u<|zF (vb (decide (x1.2.1 < 0)))<|zS<|zL (gv kk [0] (gq [4,1,2,3])))<|fun s1 _ k=>k<|
  zJ u (jA 1 u<|zG<|qA<|zP u u (fun _ k=>k none 0) [] ⟨gn,d⟩)<|jC<|zD<|yC [] [0] 11<|qR 0 1 u u<|wI 1 0 u u u u<|zW 7 [2,3] u<|yF 4 0 u u u u<|fun x2 b3 o2=>qR 5 1 u u<|
  yD 6 false oI u (gf (gs (gk 0))) u<|yF 7 3 u u u u<|fun x3 b4 o3=>qR 8 1 u u<|yD 9 false oB u (gf (gs (gk 0))) u<|zW 0 [10] u<|qY<|zN<|zJ u (zC<|zA 2 u<|qQ 2 u u u<|fun x4 b5 o4=>zM 1 u<|
  qP false oI (gf (gs (gk 0))) u<|wR .s (e := zH .i64) 3 [vi x4.2.1] ([x4.2.1] : List Int) (rC vI rN)<|fun p5 c5=>zA 1 u<|zB<|zG<|qA<|zP u u (fun _ k=>k p5 c5) [] (gq [0]))<|jC<|zC<|zA 1 u<|vE (zH .i64) 3<|zB<|
  jjn (fun s2 K=>∀ p6 c6 r_1,K [(7, sv p6 s2 c6)] [[], r_1] [Al (zH .i64) 3 r_1 p6 c6 s2]) (zC<|zA 2 u<|qQ 3 u u u<|fun x5 b6 o5=>zM 2 u<|qP false oL (gf (gs (gs (gk 0)))) u<|fun p7 c7=>zA 2 u<|zB<|zQ<|
  qT (fun s3 K=>∀ p8 c8 r_2,K [1,3,43,44] [(1, r_2)] [5,0,6,7,8] [(7, sv p8 s3.1 c8), (45, vi s3.2)] [Al (zH .i64) 3 r_2 p8 c8 s3.1]) (gv (fun _ k=>k none 0 []) [0,1] (gq [2,5,0,6,7,8]))<|fun s3 _ k p8 c8 r_2=>k<|jA 1 u<|zD<|zJ u (
  jC<|zD<|zQ<|zC<|qQ 2 u u u<|fun x6 b7 o6=>qP false oI (gk 0) u<|zA 1 u<|zB<|qK<|zA 1 u<|qU 0 3 u u u<|zA 2 u<|qF ih_argument_Last u (cq [4,5,6,2])<|fun r2 _ k p9 c9=>k<|wN .s 1 2 u (gk 0) u u<|
  fun x7 r_3 p10 c10=>zA 1 u<|zS<|qB<|zN<|jB 2 u<|qE (gv (fun _ k=>k p10 c10 r_3) [0,1] (gq [0,4,5,6,7,8])))<|qN<|qM<|qS<|qO<|zL (gv (fun _ k=>k p8 c8 r_2) [900,1] (gq [0])))<|fun s2 _ k p6 c6 r_1=>k<|zC<|zA 1 u<|
  zZ .s [1] [] zHd u u u (cq [0])<|fun r3 _ k r_4=>k<|zB<|zC<|zA 1 u<|jrE 0 58 u u<|zZ .s [1] [] zHw u u u (cq [0])<|fun r4 _ k p11 c11=>k<|zA 1 u<|zB<|zG<|
  zP u u (fun _ k=>k p11 c11) [] (gq [0])
theorem zUJ {qd : Prop} {y0 : zT} {y1 : List zK} {y2 : Int} : qC qd prog 201 [.agg (vJ y0 p1 c1 p2 c2 p3 c3).toArray, sv p4 y1 c4, vi y2] [] (vR y0 p1 c1 p2 c2 p3 c3 [Rl wS p4 c4 y1]) (zJS y0 y1 y2) fun r K=>∀ p5 c5,K (sv p5 r c5) [] [Rl (zH .i64) p5 c5 r] := zQr fun k => (zQX k)
theorem zSc {qd : Prop} {y0 : zT} {y1 : List Int} : qC qd prog 200 [.agg (vJ y0 p1 c1 p2 c2 p3 c3).toArray, sv p4 y1 c4] [] (vR y0 p1 c1 p2 c2 p3 c3 [Rl (zH .i64) p4 c4 y1]) (zIl y0 y1) fun r K=>∀ p5 c5,K (sv p5 r c5) [] [Rl (zH .i64) p5 c5 r] :=
 zX call200 func200 u fun X=>zC<|qX .s u<|fun b1=>zA 1 u<|zB<|zC<|zA 1 u<|vE (zH .i64) 3<|zB<|zD<|jA 3 u<|zQ<|
  qT (fun s1 K=>∀ p5 c5 r_1,K [2,8,9] [(1, r_1)] [4,1,2,3] [(5, sv p5 s1.1 c5), (10, vi s1.2)] [Al (zH .i64) 3 r_1 p5 c5 s1.1]) (gv (fun _ k=>k none 0 []) [0,1] (gq [0,4,1,2,3]))<|fun s1 _ k p5 c5 r_1=>k<|jA 1 u<|zD<|zJ u (jC<|zD<|
  zQ<|zC<|qQ 1 u u u<|fun x1 b2 o1=>qP false oI (gk 0) u<|zA 1 u<|zB<|qK<|zA 1 u<|zM 1 u<|zU 0 u u u<|zA 1 u<|qQ 4 u u u<|fun x2 b3 o2=>zM 2 u<|qP false oI (gf (gs (gs (gk 0)))) u<|
  wR .s (e := zH .i64) 3 [vi x2.2.2.1] ([x2.2.2.1] : List Int) (rC vI rN)<|fun p6 c6=>wN .s 1 3 u (gk 0) u u<|fun x3 r_2 p7 c7=>zA 1 u<|zS<|qB<|zN<|jB 2 u<|qE (gv (fun _ k=>k p7 c7 r_2) [0,1] (gq [0,5,6,7,8])))<|qN<|qM<|
  qS<|qO<|zN<|jA 2 u<|zG<|wW 1 0 u u<|zP u u (fun _ k=>k p5 c5) [] (gq [0])
theorem zI0 {qd : Prop} {y0 : zT} {y1 : List zK} {y2 : Int} : qC qd prog 133 [.agg (vJ y0 p1 c1 p2 c2 p3 c3).toArray, sv p4 y1 c4, vi y2] [] (vR y0 p1 c1 p2 c2 p3 c3 [Rl wS p4 c4 y1]) (zDG y0 y1 y2) fun r K=>∀ p5 c5,K (sv p5 r c5) [] [Rl (zH .i64) p5 c5 r] :=
 zX call133 func133 u fun X=>zC<|qX .s u<|fun b1=>zA 1 u<|zB<|yC [] [0] 7<|vM 0 0 3 u u u u<|vM 1 0 3 u u u u<|zW 3 [2,3] u<|qH 4<|zZ (.f u) [] [] zUJ u u u (cq [0,1,2,3])<|fun r1 _ k p5 c5=>k<|qD<|qH 5<|
  zZ (.f u) [] [] zSc u u u (cq [1,2,3,0])<|fun r2 _ k p6 c6=>k<|qD<|zW 0 [6] u<|qY<|zN<|zG<|zP u u (fun _ k=>k p6 c6) [] (gq [0])
theorem zOE {qd : Prop} {y0 : List Int} : qC qd prog 199 [sv p1 y0 c1] [] [Rl (zH .i64) p1 c1 y0] (zFm y0) fun r K=>K (vi r) [] [] :=
 zX call199 func199 u fun X=>jA 1 u<|wL (fun s1 K=>K [0] [] [0] [] []) (jA 3 u<|zJ u (qK<|jno)<|wD<|zL (gv kk [] (gq [0])))<|fun s1 _ k=>k<|zC<|zA 1 u<|qQ 0 u u u<|fun x1 b1 o1=>qP false oI (gk 0) u<|zA 1 u<|zB<|zD<|jA 1 u<|
  zQ<|qT (fun s2 K=>K [0] [] [1] [(3, vi s2.1), (4, vi s2.2)] []) (gv kk [] (gq [1]))<|fun s2 _ k=>k<|zD<|jA 4 u<|zJ u (jC<|zD<|zQ<|qK<|zA 3 u<|qQ 0 u u u<|fun x2 b2 o2=>qP false oI (gk 0) u<|zA 2 u<|
  zS<|qB<|zN<|jB 3 u<|qE (gv kk [] (gq [1])))<|qN<|qM<|qS<|qO<|zN<|jA 2 u<|zG<|zP u u kk [] d
theorem zOO {qd : Prop} {y0 : List Int} : qC qd prog 198 [sv p1 y0 c1] [] [Rl (zH .i64) p1 c1 y0] (zFz y0) fun r K=>K (vi r) [] [] :=
 zX call198 func198 u fun X=>jA 1 u<|wL (fun s1 K=>K [0] [] [0] [] []) (jA 3 u<|zJ u (qK<|jno)<|wD<|zL (gv kk [] (gq [0])))<|fun s1 _ k=>k<|zC<|zA 1 u<|qQ 0 u u u<|fun x1 b1 o1=>qP false oI (gk 0) u<|zA 1 u<|zB<|zD<|jA 1 u<|
  zQ<|qT (fun s2 K=>K [0] [] [1] [(3, vi s2.1), (4, vi s2.2)] []) (gv kk [] (gq [1]))<|fun s2 _ k=>k<|zD<|jA 4 u<|zJ u (jC<|zD<|zQ<|qK<|zA 3 u<|qQ 0 u u u<|fun x2 b2 o2=>qP false oI (gk 0) u<|zA 2 u<|
  zS<|qB<|zN<|jB 3 u<|qE (gv kk [] (gq [1])))<|qN<|qM<|qS<|qO<|zN<|jA 2 u<|zG<|zP u u kk [] d
theorem zM5 {qd : Prop} {y0 : List Int} {y1 : List Int} {y2 : Int} : qC qd prog 130 [sv p1 y0 c1, sv p2 y1 c2, vi y2] [] [Rl (zH .i64) p1 c1 y0, Rl (zH .i64) p2 c2 y1] (zGT y0 y1 y2) fun r K=>K (vb r) [] [] :=
 zX call130 func130 u fun X=>jA 1 u<|zD<|xG (fun K=>K [0,1,2] [] [0,1] [(17, vb (if y2 != 1 then (y2 != 2) || ((len y0) == 0) else (len y0) == 0))] []) (qK<|zA 3 u<|yA (b := y2 != 1) 9 u (fun hb1=>zA 2 u<|zF (vb (y2 != 2))<|zA 1 u<|
  yA (b := y2 != 2) 13 u (fun hb2=>zA 3 u<|zF (vb true)<|zS<|wQ 17 (vb (if y2 != 1 then (y2 != 2) || ((len y0) == 0) else (len y0) == 0)) u (by rw [hb1,hb2]; rfl)<|zL (gv kk [] (gq [0,1])))<|fun hb2=>zA 3 u<|
  zF (vb ((len y0) == 0))<|zS<|wQ 17 (vb (if y2 != 1 then (y2 != 2) || ((len y0) == 0) else (len y0) == 0)) u (by rw [hb1,hb2]; rfl)<|zL (gv kk [] (gq [0,1])))<|fun hb1=>zA 2 u<|zF (vb false)<|zA 4 u<|
  zF (vb ((len y0) == 0))<|zS<|wQ 17 (vb (if y2 != 1 then (y2 != 2) || ((len y0) == 0) else (len y0) == 0)) u (by rw [hb1]; rfl)<|zL (gv kk [] (gq [0,1])))<|fun _ k=>k<|zJ u (jA 1 u<|zG<|qA<|
  zP u u kk [] d)<|jC<|zD<|zQ<|jA 4 u<|zJ u (jA 1 u<|zG<|qV<|qA<|zP u u kk [] d)<|jA 3 u<|zJ u (zC<|zA 1 u<|qF zOO u (cq [0])<|fun r1 _ k=>k<|zA 1 u<|
  qF zOO u (cq [1])<|fun r2 _ k=>k<|zA 2 u<|zB<|zG<|qV<|qA<|zP u u kk [] d)<|wD<|qB<|zN<|zC<|zA 1 u<|qF zOE u (cq [0])<|fun r3 _ k=>k<|zA 1 u<|
  qF zOE u (cq [1])<|fun r4 _ k=>k<|zA 2 u<|zB<|zG<|zP u u kk [] d
theorem zKl {qd : Prop} {y0 : zT} {y1 : List zK} {y2 : Int} {y3 : Int} {y4 : yB} : vZ qd prog 129 [.func (.func 133) #[] #[], pt b1 0, pt b2 0, pt b3 0, pt b4 0, pt b5 0] [bx b1 29 (vJ y0 p1 c1 p2 c2 p3 c3), bx b2 33 [sv p4 y1 c4], bx b3 3 [vi y2], bx b4 3 [vi y3], bx b5 44 [vi y4.1, vi y4.2]] (vR y0 p1 c1 p2 c2 p3 c3 [Rl wS p4 c4 y1]) (zCN y0 y1 y2 y3 y4) fun L r K=>K (vb r) L [] :=
 zX call129 func129 u fun X=>jA 1 u<|yC [] [0, 1, 2, 3, 4] 14<|zW 13 [0] u<|vM 1 0 3 u u u u<|wI 2 1 u u u u<|wI 3 2 u u u u<|zW 9 [5] u<|vM 6 0 3 u u u u<|wI 7 1 u u u u<|wI 8 3 u u u u<|qR 10 1 u u<|
  wI 11 4 u u u u<|qH 4<|zZ (.f u) [] [] zI0 u u u (cq [0,1,2,3])<|fun r1 _ k p5 c5=>k<|qD<|qH 9<|zZ (.f u) [] [] zI0 u u u (cq [1,2,3,4])<|fun r2 _ k p6 c6=>k<|qD<|qH 12<|
  zZ (.f u) [] [] zM5 u u u (cq [1,0])<|fun r3 _ k=>k<|qD<|zW 0 [13] u<|qY<|zN<|zG<|zP u u kk [0,1,2,3,4] d
theorem zFR {qd : Prop} {y0 : zT} {y1 : List zK} {y2 : Int} : qC qd prog 134 [.agg (vJ y0 p1 c1 p2 c2 p3 c3).toArray, sv p4 y1 c4, vi y2] [] (vR y0 p1 c1 p2 c2 p3 c3 [Rl wS p4 c4 y1]) (zBP y0 y1 y2) fun r K=>∀ p5 c5,K (sv p5 r c5) [] [Rl (zH .i64) p5 c5 r] :=
 zX call134 func134 u fun X=>zC<|qX .s u<|fun b1=>zA 1 u<|zB<|zC<|zA 1 u<|vE (zH .i64) 3<|zB<|zD<|zC<|zA 2 u<|qF zLj u (cq [4])<|fun r1 _ k p5 c5=>k<|zA 2 u<|zB<|zQ<|
  qT (fun s1 K=>∀ p6 c6 r_1,K [3,13,14] [(1, r_1)] [0,2,3,4] [(7, sv p6 s1.1 c6), (15, vi s1.2)] [Al (zH .i64) 3 r_1 p6 c6 s1.1]) (gv (fun _ k=>k none 0 []) [0,1] (gq [1,0,2,3,4]))<|fun s1 _ k p6 c6 r_1=>k<|jA 1 u<|zD<|zJ u (jC<|
  zD<|zQ<|zC<|qQ 1 u u u<|fun x1 b2 o1=>qP false oI (gk 0) u<|zA 1 u<|zB<|zC<|zM 0 u<|zU 0 u u u<|zA 1 u<|qQ 3 u u u<|fun x2 b3 o2=>qP true zMt (gk 0) u<|
  wO .s (.agg #[vb false, vs [], vi 0, vi 0, vs []])<|fun b4=>qL .s 2 u u u<|zB<|zC<|zM 2 u<|zU 2 u u u<|zB<|zQ<|jA 2 u<|zJ u (qK<|zA 1 u<|zM 3 u<|zU 2 u u u<|
  wR .s (e := zH .i64) 3 [vi x2.2.2.1] ([x2.2.2.1] : List Int) (rC vI rN)<|fun p7 c7=>wN .s 1 3 u (gk 0) u u<|fun x3 r_2 p8 c8=>zA 1 u<|zS<|qB<|qB<|zN<|jB 2 u<|qE (gv (fun _ k=>k p8 c8 r_2) [0,1] (gq [0,5,6,7,8])))<|
  jA 2 u<|zJ u (qK<|zA 1 u<|wR .s (e := zH .i64) 3 [vi (-1)] ([(-1)] : List Int) (rC vI rN)<|fun p9 c9=>wN .s 1 3 u (gk 0) u u<|fun x4 r_3 p10 c10=>zA 1 u<|zS<|qB<|qB<|zN<|jB 2 u<|
  qE (gv (fun _ k=>k p10 c10 r_3) [0,1] (gq [0,5,6,7,8])))<|wD<|qB<|qB<|zN<|jB 2 u<|qE (gv (fun _ k=>k p6 c6 r_1) [0,1] (gq [2,3,4,5,6])))<|qN<|qM<|qS<|qO<|zN<|jA 2 u<|zG<|wW 1 0 u u<|
  zP u u (fun _ k=>k p6 c6) [] (gq [0])
theorem zC6 {qd : Prop} {y0 : zT} {y1 : List zK} {y2 : Int} {y3 : Int} {y4 : yB} : vZ qd prog 129 [.func (.func 134) #[] #[], pt b1 0, pt b2 0, pt b3 0, pt b4 0, pt b5 0] [bx b1 29 (vJ y0 p1 c1 p2 c2 p3 c3), bx b2 33 [sv p4 y1 c4], bx b3 3 [vi y2], bx b4 3 [vi y3], bx b5 44 [vi y4.1, vi y4.2]] (vR y0 p1 c1 p2 c2 p3 c3 [Rl wS p4 c4 y1]) (zAv y0 y1 y2 y3 y4) fun L r K=>K (vb r) L [] :=
 zX call129 func129 u fun X=>jA 1 u<|yC [] [0, 1, 2, 3, 4] 14<|zW 13 [0] u<|vM 1 0 3 u u u u<|wI 2 1 u u u u<|wI 3 2 u u u u<|zW 9 [5] u<|vM 6 0 3 u u u u<|wI 7 1 u u u u<|wI 8 3 u u u u<|qR 10 1 u u<|
  wI 11 4 u u u u<|qH 4<|zZ (.f u) [] [] zFR u u u (cq [0,1,2,3])<|fun r1 _ k p5 c5=>k<|qD<|qH 9<|zZ (.f u) [] [] zFR u u u (cq [1,2,3,4])<|fun r2 _ k p6 c6=>k<|qD<|qH 12<|
  zZ (.f u) [] [] zM5 u u u (cq [1,0])<|fun r3 _ k=>k<|qD<|zW 0 [13] u<|qY<|zN<|zG<|zP u u kk [0,1,2,3,4] d
theorem zKc {qd : Prop} {y0 : zT} {y1 : List zK} {y2 : Int} {y3 : Int} : vZ qd prog 131 [.func (.func 133) #[] #[], pt b1 0, pt b2 0, pt b3 0, pt b4 0] [bx b1 29 (vJ y0 p1 c1 p2 c2 p3 c3), bx b2 33 [sv p4 y1 c4], bx b3 3 [vi y2], bx b4 3 [vi y3]] (vR y0 p1 c1 p2 c2 p3 c3 [Rl wS p4 c4 y1]) (zCO y0 y1 y2 y3) fun L r K=>K (vb r) L [] :=
 zX call131 func131 u fun X=>jA 1 u<|wL (fun s1 K=>K [] [] [0,1,2,3] [(6, vb s1)] []) (qK<|zA 1 u<|qU 0 3 u u u<|zU 1 u u u<|zU 2 u u u<|zZ .s [] [] zI0 u u u (cq [0,1,2,3])<|fun r1 _ k p5 c5=>k<|zA 3 u<|wJ 14 u (
  zA 1 u<|qU 0 3 u u u<|zU 1 u u u<|zU 3 u u u<|zZ .s [] [] zI0 u u u (cq [1,2,3,4])<|fun r2 _ k p6 c6=>k<|zA 2 u<|zF (vb ((len r2) == 0))<|zA 1 u<|zS<|
  zL (gv kk [0,1,2,3] (gq [2,3,4,5])))<|zA 7 u<|zF (vb false)<|zA 1 u<|zS<|zL (gv kk [0,1,2,3] (gq [1,2,3,4])))<|fun s1 _ k=>k<|zG<|zP u u kk [0,1,2,3] d
theorem zME {qd : Prop} {y1 : zT} {y2 : List zK} {y3 : Int} {y4 : Int} {y5 : yB} : vZ qd prog 132 [pt b1 0, pt b7 0] [bx b1 180 [.func (.func 129) #[] #[pt b2 0, pt b3 0, pt b4 0, pt b5 0, pt b6 0]], bx b2 29 (vJ y1 p1 c1 p2 c2 p3 c3), bx b3 33 [sv p4 y2 c4], bx b4 3 [vi y3], bx b5 3 [vi y4], bx b6 44 [vi y5.1, vi y5.2], bx b7 180 [.func (.func 131) #[] #[pt b2 0, pt b3 0, pt b4 0, pt b5 0]]] (vR y1 p1 c1 p2 c2 p3 c3 [Rl wS p4 c4 y2]) (zC8 y1 y2 y3 y4 y5) fun L r K=>K (vb r) L [] :=
 zX call132 func132 u fun X=>jA 1 u<|wL (fun s1 K=>K [] [] [0,1,2,3] [(2, vb s1)] []) (qK<|zU 0 u u u<|zZ .s [1, 2, 3, 4, 5] [] zKl u u u (cq [0,1,2,3])<|fun r1 _ k=>k<|zA 1 u<|wJ 5 u (zA 6 u<|zF (vb true)<|
  zA 1 u<|zS<|zL (gv kk [0,1,2,3,4,5,6] (gq [0,1,2,3])))<|zU 6 u u u<|zZ .s [1, 2, 3, 4] [] zKc u u u (cq [0,1,2,3])<|fun r2 _ k=>k<|zA 1 u<|wJ 8 u (zU 0 u u u<|
  zZ .s [1, 2, 3, 4, 5] [] zC6 u u u (cq [0,1,2,3])<|fun r3 _ k=>k<|zF (vb r3)<|zF (vb r3)<|zA 1 u<|zS<|zL (gv kk [0,1,2,3,4,5,6] (gq [0,1,2,3])))<|zA 2 u<|zF (vb false)<|
  zF (vb false)<|zA 1 u<|zS<|zL (gv kk [0,1,2,3,4,5,6] (gq [0,1,2,3])))<|fun s1 _ k=>k<|zG<|zP u u kk [0,1,2,3,4,5,6] d
theorem zIW {qd : Prop} {y0 : zT} {y1 : List zK} {y2 : Int} : qC qd prog 136 [.agg (vJ y0 p1 c1 p2 c2 p3 c3).toArray, sv p4 y1 c4, vi y2] [] (vR y0 p1 c1 p2 c2 p3 c3 [Rl wS p4 c4 y1]) (zDD y0 y1 y2) fun r K=>∀ p5 c5,K (sv p5 r c5) [] [Rl (zH .i64) p5 c5 r] :=
 zX call136 func136 u fun X=>zC<|qX .s u<|fun b1=>zA 1 u<|zB<|yC [] [0] 7<|vM 0 0 3 u u u u<|vM 1 0 3 u u u u<|zW 3 [2,3] u<|qH 4<|zZ (.f u) [] [] zKY u u u (cq [0,1,2,3])<|fun r1 _ k p5 c5=>k<|qD<|qH 5<|
  zZ (.f u) [] [] zSc u u u (cq [1,2,3,0])<|fun r2 _ k p6 c6=>k<|qD<|zW 0 [6] u<|qY<|zN<|zG<|zP u u (fun _ k=>k p6 c6) [] (gq [0])
theorem zGG {qd : Prop} {y0 : zT} {y1 : List zK} {y2 : Int} {y3 : Int} {y4 : yB} : vZ qd prog 129 [.func (.func 136) #[] #[], pt b1 0, pt b2 0, pt b3 0, pt b4 0, pt b5 0] [bx b1 29 (vJ y0 p1 c1 p2 c2 p3 c3), bx b2 33 [sv p4 y1 c4], bx b3 3 [vi y2], bx b4 3 [vi y3], bx b5 44 [vi y4.1, vi y4.2]] (vR y0 p1 c1 p2 c2 p3 c3 [Rl wS p4 c4 y1]) (zBa y0 y1 y2 y3 y4) fun L r K=>K (vb r) L [] :=
 zX call129 func129 u fun X=>jA 1 u<|yC [] [0, 1, 2, 3, 4] 14<|zW 13 [0] u<|vM 1 0 3 u u u u<|wI 2 1 u u u u<|wI 3 2 u u u u<|zW 9 [5] u<|vM 6 0 3 u u u u<|wI 7 1 u u u u<|wI 8 3 u u u u<|qR 10 1 u u<|
  wI 11 4 u u u u<|qH 4<|zZ (.f u) [] [] zIW u u u (cq [0,1,2,3])<|fun r1 _ k p5 c5=>k<|qD<|qH 9<|zZ (.f u) [] [] zIW u u u (cq [1,2,3,4])<|fun r2 _ k p6 c6=>k<|qD<|qH 12<|
  zZ (.f u) [] [] zM5 u u u (cq [1,0])<|fun r3 _ k=>k<|qD<|zW 0 [13] u<|qY<|zN<|zG<|zP u u kk [0,1,2,3,4] d
theorem zJd {qd : Prop} {y0 : zT} {y1 : List zK} {y2 : Int} {y3 : Int} : vZ qd prog 131 [.func (.func 134) #[] #[], pt b1 0, pt b2 0, pt b3 0, pt b4 0] [bx b1 29 (vJ y0 p1 c1 p2 c2 p3 c3), bx b2 33 [sv p4 y1 c4], bx b3 3 [vi y2], bx b4 3 [vi y3]] (vR y0 p1 c1 p2 c2 p3 c3 [Rl wS p4 c4 y1]) (zBi y0 y1 y2 y3) fun L r K=>K (vb r) L [] :=
 zX call131 func131 u fun X=>jA 1 u<|wL (fun s1 K=>K [] [] [0,1,2,3] [(6, vb s1)] []) (qK<|zA 1 u<|qU 0 3 u u u<|zU 1 u u u<|zU 2 u u u<|zZ .s [] [] zFR u u u (cq [0,1,2,3])<|fun r1 _ k p5 c5=>k<|zA 3 u<|
  wJ 14 u (zA 1 u<|qU 0 3 u u u<|zU 1 u u u<|zU 3 u u u<|zZ .s [] [] zFR u u u (cq [1,2,3,4])<|fun r2 _ k p6 c6=>k<|zA 2 u<|zF (vb ((len r2) == 0))<|zA 1 u<|zS<|
  zL (gv kk [0,1,2,3] (gq [2,3,4,5])))<|zA 7 u<|zF (vb false)<|zA 1 u<|zS<|zL (gv kk [0,1,2,3] (gq [1,2,3,4])))<|fun s1 _ k=>k<|zG<|zP u u kk [0,1,2,3] d
theorem zK9 {qd : Prop} {y0 : zT} {y1 : List zK} {y2 : Int} {y3 : Int} : vZ qd prog 131 [.func (.func 136) #[] #[], pt b1 0, pt b2 0, pt b3 0, pt b4 0] [bx b1 29 (vJ y0 p1 c1 p2 c2 p3 c3), bx b2 33 [sv p4 y1 c4], bx b3 3 [vi y2], bx b4 3 [vi y3]] (vR y0 p1 c1 p2 c2 p3 c3 [Rl wS p4 c4 y1]) (zCL y0 y1 y2 y3) fun L r K=>K (vb r) L [] :=
 zX call131 func131 u fun X=>jA 1 u<|wL (fun s1 K=>K [] [] [0,1,2,3] [(6, vb s1)] []) (qK<|zA 1 u<|qU 0 3 u u u<|zU 1 u u u<|zU 2 u u u<|zZ .s [] [] zIW u u u (cq [0,1,2,3])<|fun r1 _ k p5 c5=>k<|zA 3 u<|wJ 14 u (
  zA 1 u<|qU 0 3 u u u<|zU 1 u u u<|zU 3 u u u<|zZ .s [] [] zIW u u u (cq [1,2,3,4])<|fun r2 _ k p6 c6=>k<|zA 2 u<|zF (vb ((len r2) == 0))<|zA 1 u<|zS<|
  zL (gv kk [0,1,2,3] (gq [2,3,4,5])))<|zA 7 u<|zF (vb false)<|zA 1 u<|zS<|zL (gv kk [0,1,2,3] (gq [1,2,3,4])))<|fun s1 _ k=>k<|zG<|zP u u kk [0,1,2,3] d
theorem zLx {qd : Prop} {y1 : zT} {y2 : List zK} {y3 : Int} {y4 : Int} {y6 : yB} : vZ qd prog 135 [pt b1 0, pt b6 0] [bx b1 180 [.func (.func 131) #[] #[pt b2 0, pt b3 0, pt b4 0, pt b5 0]], bx b2 29 (vJ y1 p1 c1 p2 c2 p3 c3), bx b3 33 [sv p4 y2 c4], bx b4 3 [vi y3], bx b5 3 [vi y4], bx b6 180 [.func (.func 129) #[] #[pt b2 0, pt b3 0, pt b4 0, pt b5 0, pt b7 0]], bx b7 44 [vi y6.1, vi y6.2]] (vR y1 p1 c1 p2 c2 p3 c3 [Rl wS p4 c4 y2]) (zC9 y1 y2 y3 y4 y6) fun L r K=>K (vb r) L [] :=
 zX call135 func135 u fun X=>jA 1 u<|zD<|zQ<|zC<|zU 0 u u u<|zZ .s [1, 2, 3, 4] [] zK9 u u u (cq [0,1,2,3])<|fun r1 _ k=>k<|zA 1 u<|zB<|zJ u (zC<|zU 5 u u u<|
  zZ .s [1, 2, 3, 4, 6] [] zC6 u u u (cq [0,1,2,3])<|fun r2 _ k=>k<|zA 1 u<|zB<|zG<|qV<|qA<|zP u u kk [0,1,2,3,4,5,6] d)<|zC<|zU 0 u u u<|
  zZ .s [1, 2, 3, 4] [] zJd u u u (cq [0,1,2,3])<|fun r3 _ k=>k<|zA 1 u<|zB<|zJ u (zC<|zU 5 u u u<|zZ .s [1, 2, 3, 4, 6] [] zGG u u u (cq [0,1,2,3])<|
  fun r4 _ k=>k<|zA 1 u<|zB<|zG<|qV<|qA<|zP u u kk [0,1,2,3,4,5,6] d)<|wD<|qB<|zN<|wL (fun s1 K=>K [] [] [0,1,2,3] [(2, vb s1)] []) (qK<|zU 5 u u u<|
  zZ .s [1, 2, 3, 4, 6] [] zC6 u u u (cq [0,1,2,3])<|fun r5 _ k=>k<|zA 1 u<|wJ 15 u (zU 5 u u u<|zZ .s [1, 2, 3, 4, 6] [] zGG u u u (cq [0,1,2,3])<|fun r6 _ k=>
  k<|zF (vb r6)<|zA 1 u<|zS<|zL (gv kk [0,1,2,3,4,5,6] (gq [0,1,2,3])))<|zA 2 u<|zF (vb false)<|zA 1 u<|zS<|zL (gv kk [0,1,2,3,4,5,6] (gq [0,1,2,3])))<|fun s1 _ k=>k<|zG<|
  zP u u kk [0,1,2,3,4,5,6] d
theorem zYT {qd : Prop} {y0 : zT} {y1 : List zK} {y2 : Int} {y3 : Int} {y4 : yB} : qC qd prog 74 [.agg (vJ y0 p1 c1 p2 c2 p3 c3).toArray, sv p4 y1 c4, vi y2, vi y3, .agg #[vi y4.1, vi y4.2]] [] (vR y0 p1 c1 p2 c2 p3 c3 [Rl wS p4 c4 y1]) (zNj y0 y1 y2 y3 y4) fun r K=>K (vb r) [] [] :=
 zX call74 func74 u fun X=>zC<|qX .s u<|fun b1=>qX .s u<|fun b2=>qX .s u<|fun b3=>qX .s u<|fun b4=>qX .s u<|fun b5=>zA 1 u<|zB<|zD<|wL (fun s1 K=>K [5,6,7,8,9] [] [0,1,2,3] [(31, vb s1)] []) (qK<|zU 2 u u u<|zU 3 u u u<|
  zA 3 u<|wJ 18 u (zA 6 u<|zF (vb true)<|zA 5 u<|zF (vb true)<|zS<|zL (gv kk [0,1,2,3,4] (gq [0,1,2,3])))<|zU 2 u u u<|zU 3 u u u<|zA 1 u<|zU 1 u u u<|zA 2 u<|
  zF (vb (decide ((len y1) ≤ (if y3 > y2 then y3 else y2))))<|zA 1 u<|wJ 26 u (zA 4 u<|zF (vb true)<|zS<|zL (gv kk [0,1,2,3,4] (gq [0,1,2,3])))<|qU 0 3 u u u<|zU 1 u u u<|zU 3 u u u<|
  qF zUv u (cq [0,1,2,3])<|fun r1 _ k=>k<|zF (vb r1)<|zS<|zL (gv kk [0,1,2,3,4] (gq [0,1,2,3])))<|fun s1 _ k=>k<|zJ u (jA 1 u<|zG<|qA<|zP u u kk [] d)<|jC<|zC<|zA 1 u<|wO .s (.nilFunc)<|
  fun b6=>qL .s 5 u u u<|zB<|zC<|zA 1 u<|wO .s (.nilFunc)<|fun b7=>qL .s 6 u u u<|zB<|jA 1 u<|zD<|zC<|zM 0 u<|zU 4 u u u<|zB<|zQ<|jA 2 u<|zJ u (jB 2 u<|qB<|zN<|zC<|zA 1 u<|
  zZ .s [5, 0, 1, 2, 3, 4, 6] [] zME u u u (cq [0,1,2,3])<|fun r2 _ k=>k<|zA 1 u<|zB<|zG<|zP u u kk [] d)<|jA 2 u<|zJ u (jB 2 u<|qB<|zN<|zC<|zA 1 u<|
  zZ .s [6, 0, 1, 2, 3, 5, 4] [] zLx u u u (cq [0,1,2,3])<|fun r3 _ k=>k<|zA 1 u<|zB<|zG<|zP u u kk [] d)<|jA 1 u<|zG<|qV<|qA<|zP u u kk [] d
theorem zMJ {qd : Prop} {y0 : wA} {y1 : zT} {y2 : List zK} {y3 : yB} : vZ qd prog 73 [.agg #[vi y0.1, vi y0.2.1, vi y0.2.2.1, vi y0.2.2.2], pt b1 0, pt b2 0, pt b3 0] [bx b1 29 (vJ y1 p1 c1 p2 c2 p3 c3), bx b2 33 [sv p4 y2 c4], bx b3 44 [vi y3.1, vi y3.2]] (vR y1 p1 c1 p2 c2 p3 c3 [Rl wS p4 c4 y2]) (zDp y0 y1 y2 y3) fun L r K=>K (vb r) L [] :=
 zX call73 func73 u fun X=>zC<|qX .s u<|fun b4=>zA 1 u<|zB<|wL (fun s1 K=>K [] [(3, [])] [0,1,2,3] [(5, vb s1)] []) (qK<|zM 3 u<|zU 3 u u u<|zA 2 u<|wJ 9 u (qU 0 3 u u u<|zU 1 u u u<|zM 0 u<|zU 3 u u u<|zM 2 u<|
  zU 3 u u u<|qU 2 2 u u u<|qF zYT u (cq [0,1,2,3])<|fun r1 _ k=>k<|zF (vb r1)<|zA 1 u<|zS<|zL (gv kk [0,1,2,903] (gq [0,1,2,3])))<|zA 8 u<|zF (vb false)<|zA 1 u<|zS<|
  zL (gv kk [0,1,2,903] (gq [0,1,2,3])))<|fun s1 _ k=>k<|zG<|zP u u kk [0,1,2] d
theorem zFW {qd : Prop} {y0 : List wA} {y1 : zT} {y2 : List zK} {y3 : yB} : vZ qd prog 122 [sv p1 y0 c1, .func (.func 73) #[] #[pt b1 0, pt b2 0, pt b3 0]] [bx b1 29 (vJ y1 p2 c2 p3 c3 p4 c4), bx b2 33 [sv p5 y2 c5], bx b3 44 [vi y3.1, vi y3.2]] (Rl uU p1 c1 y0 :: (vR y1 p2 c2 p3 c3 p4 c4 [Rl wS p5 c5 y2])) (zAx y0 y1 y2 y3) fun L r K=>K (vi r) L [] :=
 zX call122 func122 u fun X=>jA 1 u<|zD<|jA 3 u<|zQ<|qT (fun s1 K=>K [0,1,7] [] [0,1,2,3,4] [(8, vi s1)] []) (gv kk [0,1,2] (gq [0,1,2,3,4]))<|fun s1 _ k=>k<|jA 1 u<|zD<|zJ u (jC<|zD<|zQ<|jA 2 u<|zC<|zA 3 u<|qQ 0 u u u<|
  fun x1 b4 o1=>qP true zTR (gk 0) u<|zZ .s [0, 1, 2] [] zMJ u u u (cq [2,3,4,5])<|fun r1 _ k=>k<|zB<|zJ u (jA 2 u<|zG<|qV<|qA<|wT<|qV<|qA<|zP u u kk [0,1,2] d)<|wD<|qB<|zN<|
  jB 2 u<|qE (gv kk [0,1,2] (gq [1,2,3,4,5])))<|qN<|qM<|qS<|qO<|zN<|jA 1 u<|zG<|zP u u kk [0,1,2] d
theorem zFJ {qd : Prop} {y0 : List wA} {y1 : zT} {y2 : List zK} {y3 : yB} : qC qd prog 71 [sv p1 y0 c1, .func (.func 73) #[] #[pt b1 0, pt b2 0, pt b3 0]] [r_1, bx b1 29 (vJ y1 p2 c2 p3 c3 p4 c4), bx b2 33 [sv p5 y2 c5], bx b3 44 [vi y3.1, vi y3.2]] (Al uU 123 r_1 p1 c1 y0 :: (vR y1 p2 c2 p3 c3 p4 c4 [Rl wS p5 c5 y2])) (zAr y0 y1 y2 y3) fun r K=>∀ p6 c6,K (sv p6 r c6) [[], bx b1 29 (vJ y1 p2 c2 p3 c3 p4 c4), bx b2 33 [sv p5 y2 c5], bx b3 44 [vi y3.1, vi y3.2]] [Rl uU p6 c6 r] :=
 zX call71 func71 u fun X=>jA 1 u<|zC<|zA 2 u<|zZ .s [1, 2, 3] [0] zFW u u u ⟨cl 0 0,ck 1,ck 2,ck 3,ck 4,d⟩<|fun r1 _ k=>k<|zA 1 u<|zB<|zD<|jA 2 u<|zJ u (jA 2 u<|zG<|qA<|wW 0 0 u u<|
  zP u u (fun _ k=>k p1 c1) [900,1,2,3] (gq [0]))<|jC<|wL (fun s1 K=>∀ r_2,K [] [(0, r_2)] [1,2,3,4] [(0, .slice p1 (List.length y0) c1), (5, vi s1.2)] [Ar uU 123 r_2 p1 c1 (List.length y0) s1.1]) (jA 3 u<|zQ<|
  qT (fun s2 K=>∀ r_3,K [1] [(0, r_3)] [1,2,3,4] [(0, .slice p1 (List.length y0) c1), (5, vi s2.2.1), (6, vi s2.2.2)] [Ar uU 123 r_3 p1 c1 (List.length y0) s2.1]) (gv (fun _ k=>k r_1) [0,1,2,3] (gq [0,1,2,3,4]))<|fun s2 _ k r_3=>k<|
  zD<|jA 4 u<|zJ u (jC<|zD<|zQ<|zC<|zA 2 u<|xE 0 u u u<|fun x1 h1 b4 hp1=>jlA 0 0 sI true zTR u hp1 h1 u<|wO .s (.agg #[vi 0, vi 0, vi 0, vi 0])<|fun b5=>qL .s 4 u u u<|zB<|zC<|zA 1 u<|
  qU 4 4 u u u<|zZ .s [1, 2, 3] [] zMJ u u u (cq [1,2,3,4])<|fun r2 _ k=>k<|zA 1 u<|zB<|zJ u (zC<|zA 2 u<|qU 4 4 u u u<|xE 0 u u u<|fun x2 h2 b6 hp2=>
  jsA .s 0 0 sI x1 true u hp2 h2 u u (vP vI (vP vI (vP vI vI)))<|fun r_4=>zB<|jB 3 u<|qB<|zN<|jB 3 u<|qE (gv (fun _ k=>k r_4) [0,1,2,3] (gq [0,2,3,4,5])))<|wD<|qB<|zN<|jB 3 u<|
  qE (gv (fun _ k=>k r_3) [0,1,2,3] (gq [0,1,2,3,4])))<|qN<|qM<|qS<|qO<|zL (gv (fun _ k=>k r_3) [0,1,2,3] (gq [0,1,2,3,4])))<|fun s1 _ k r_2=>k<|zC<|zA 2 u<|jsV 0 u u u<|fun u1 p6 c6 f1=>
  jcv .s 0 0 (0, 0, 0, 0) (.agg #[vi 0, vi 0, vi 0, vi 0]) u f1 u (vP vI (vP vI (vP vI vI)))<|fun r_5=>zB<|zC<|zA 2 u<|jsP 0 u u u<|fun x3=>zA 1 u<|zB<|zG<|wW 0 0 u u<|
  zP u u (fun _ k=>k p1 c1) [900,1,2,3] (gq [0])
theorem zOF {qd : Prop} {y0 : zT} {y1 : List zK} {y2 : yB} : qC qd prog 27 [.agg (vJ y0 p1 c1 p2 c2 p3 c3).toArray, sv p4 y1 c4, .agg #[vi y2.1, vi y2.2]] [] (vR y0 p1 c1 p2 c2 p3 c3 [Rl wS p4 c4 y1]) (zFx y0 y1 y2) fun r K=>∀ p5 c5,K (sv p5 r c5) [] [Rl uU p5 c5 r] :=
 zX call27 func27 u fun X=>zC<|qX .s u<|fun b1=>qX .s u<|fun b2=>qX .s u<|fun b3=>zA 1 u<|zB<|zC<|qU 0 3 u u u<|zU 1 u u u<|qF zTO u (cq [0,1,2,3])<|fun r1 _ k p5 c5 r_1=>k<|zA 1 u<|
  zZ .s [3, 0, 1, 2] [] zFJ u u u (cq [0,1,2,3,4])<|fun r2 _ k p6 c6=>k<|zA 1 u<|zB<|zG<|zP u u (fun _ k=>k p6 c6) [] (gq [0])
end Go.Proofs.YtjfjjkgaddknfaaGreatDoor
