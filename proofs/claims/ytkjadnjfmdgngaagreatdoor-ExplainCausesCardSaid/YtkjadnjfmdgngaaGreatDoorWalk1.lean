/- Part of the proof. Conditions: none. -/
import Derived.Test.YtkjadnjfmdgngaaGreatDoorProg
import Derived.Test.YtkjadnjfmdgngaaGreatDoorOps5
import Derived.Test.YtkjadnjfmdgngaaGreatDoorModels
import Derived.Test.YtkjadnjfmdgngaaGreatDoorSort
import Derived.Test.YtkjadnjfmdgngaaGreatDoorSort2
import Derived.Test.YtkjadnjfmdgngaaGreatDoorSort3
import Derived.Test.YtkjadnjfmdgngaaGreatDoorShelfP
import Derived.Test.YtkjadnjfmdgngaaGreatDoorArrl
import Derived.Test.YtkjadnjfmdgngaaGreatDoorFsl
import Derived.Test.YtkjadnjfmdgngaaGreatDoorGro
namespace Go.Proofs.YtkjadnjfmdgngaaGreatDoor
open Go Go.GD Tryz
set_option autoImplicit false
set_option linter.unusedVariables false
set_option maxRecDepth 100000
variable {p1 p2 p3 p4 p5 p6 p7 p8 p9 : Option Addr} {c1 c2 c3 c4 c5 c6 c7 c8 c9 : Nat} {b1 b2 b3 b4 b5 b6 b7 b8 b9 b10 b11 : Nat} {r_1 r_2 r_3 : qB}
abbrev e_Literal : E zO := vG eBool eStr
abbrev yM : xK e_Literal := (oP oB oS)
abbrev e_Premise : E vE := vG e_Literal (vG (eInt .i64) (vG (eInt .i64) eStr))
abbrev zIV : xK e_Premise := (oP yM (oP oI (oP oI oS)))
abbrev e_Rule : E wD := vG eStr (vG eBool (vG (eInt .i64) (vG (eSlice e_Literal) e_Literal)))
abbrev zMN : xK e_Rule := (oP oS (oP oB (oP oI (oP oL yM))))
abbrev e_Promotion : E vQ := vG eStr (vG (eInt .i64) e_Literal)
abbrev zKP : xK e_Promotion := (oP oS (oP oI yM))
abbrev e_Base : E zT := vG (eSlice e_Premise) (vG (eSlice e_Rule) (eSlice e_Promotion))
abbrev zVi : xK e_Base := (oP oL (oP oL oL))
abbrev e_Ordering : E wQ := vG (eInt .i64) (eInt .i64)
abbrev zUc : xK e_Ordering := (oP oI oI)
abbrev wF : E wI := vG (eInt .i64) (eInt .i64)
abbrev zL6 : xK wF := (oP oI oI)
abbrev zW1 : E wO := vG (eInt .i64) (eSlice wF)
abbrev zZT : xK zW1 := (oP oI oL)
abbrev zQ1 : E yG := vG (eInt .u64) (vG (eSlice (eInt .u64)) (eSlice (eInt .u64)))
abbrev zYL : xK zQ1 := (oP oI (oP oL oL))
abbrev zU5 : E uC := vG (eSlice (eInt .i64)) (eInt .i64)
abbrev zZ3 : xK zU5 := (oP oL oI)
abbrev qR : E zP := vG (eInt .i64) (vG (eInt .i64) (vG (eSlice (eInt .i64)) e_Literal))
abbrev zQB : xK qR := (oP oI (oP oI (oP oL yM)))
abbrev vW : E wB := vG (eInt .i64) (vG (eInt .i64) (vG (eInt .i64) (eInt .i64)))
abbrev zO5 : xK vW := (oP oI (oP oI (oP oI oI)))
abbrev zVA : E zBP := vG e_Base (vG (eSlice qR) (vG (eSlice vW) zW1))
abbrev zZZ : xK zVA := (oP zVi (oP oL (oP oL zZT)))
abbrev zMq : E zAA := vG e_Base (vG (eSlice qR) (vG (eSlice qR) (eInt .i64)))
abbrev zUU : xK zMq := (oP zVi (oP oL (oP oL oI)))
theorem zER {qd : Prop} {y0 : zAA} : qA qd prog 104 [pt b1 0] [bx b1 143 [sv p1 y0.1.1 c1, sv p2 y0.1.2.1 c2, sv p3 y0.1.2.2 c3, sv p4 y0.2.1 c4, sv p5 y0.2.2.1 c5, vi y0.2.2.2]] [Rl e_Premise p1 c1 y0.1.1, Rl e_Rule p2 c2 y0.1.2.1, Rl e_Promotion p3 c3 y0.1.2.2, Rl qR p4 c4 y0.2.1, Rl qR p5 c5 y0.2.2.1] (zAr y0) fun r K=>K (vb r) [bx b1 143 [sv p1 y0.1.1 c1, sv p2 y0.1.2.1 c2, sv p3 y0.1.2.2 c3, sv p4 y0.2.1 c4, sv p5 y0.2.2.1 c5, vi y0.2.2.2]] [] :=
 qE call104 func104 u fun X=>zB<|zA 1 u<|zC<|yK [] [0] 13<|zX 11 [0,1] u<|qQ 2 3 u u<|qZ 3 0 u u u u<|zX 6 [4,5,6] u<|qQ 7 4 u u<|qZ 8 0 u u u u<|zX 0 [9,10,11,12] u<|qS<|zD<|zK<|zS u u kk [0] d
theorem zHl {qd : Prop} {y0 : List zP} {y1 : Int} : qA qd prog 113 [sv p1 y0 c1, vi y1] [] [Rl qR p1 c1 y0] (zAa y0 y1) fun r K=>K (vb r) [] [] :=
 qE call113 func113 u fun X=>zB<|zA 1 u<|zC<|yW (fun K=>K [(4, vb ((decide (0 ≤ y1)) && (decide (y1 < (len y0)))))] [] []) (zM<|zA 3 u<|vY (b := decide (0 ≤ y1)) 7 u (fun hb1=>zA 4 u<|zJ (vb (decide (y1 < (len y0))))<|zA 1 u<|zF<|
  wN 4 (vb ((decide (0 ≤ y1)) && (decide (y1 < (len y0))))) u (by rw [hb1]; rfl)<|zN (gv kk [] d))<|fun hb1=>zA 4 u<|zJ (vb false)<|zA 1 u<|zF<|
  wN 4 (vb ((decide (0 ≤ y1)) && (decide (y1 < (len y0))))) u (by rw [hb1]; rfl)<|zN (gv kk [] d))<|fun _ k=>k<|zK<|zS u u kk [] d
theorem zGG {qd : Prop} {y0 : List Int} : qA qd prog 221 [sv p1 y0 c1] [r_1] [Al (eInt .i64) 3 r_1 p1 c1 y0] (zBO y0) fun r K=>∀ p2 c2,K (sv p2 r c2) [[]] [Rl (eInt .i64) p2 c2 r] :=
 qE call221 func221 u fun X=>zB<|zA 1 u<|zC<|zG<|zB<|zA 3 u<|zC<|zI u (zB<|zA 2 u<|zC<|zK<|qC<|wS 0 0 u u<|zS u u (fun _ k=>k p1 c1) [900] ⟨gk 0,d⟩)<|zL<|zD<|zG<|zB<|zA 1 u<|zC<|zQ<|
  qP (fun s1 K=>K [(0, sv p1 y0 c1), (3, vi s1)] [r_1] [Al (eInt .i64) 3 r_1 p1 c1 y0]) (gv kk [0] ⟨gk 0,d⟩)<|fun s1 _ k=>k<|zG<|zB<|zA 4 u<|zC<|zI u (zL<|zD<|zG<|zQ<|yK [] [0] 10<|zX 8 [0,1] u<|
  xW 2 0 u u u u<|fun x1 h1 b1 hp1=>xU 3 0 0 sI false oI u u hp1 h1 u<|zX 3 [4,5,6] u<|xW 7 0 u u u u<|fun x2 h2 b2 hp2=>xU 8 0 0 sI false oI u u hp2 h2 u<|zX 0 [9] u<|qS<|zD<|zI u (zB<|zA 2 u<|
  jsV 0 u u u<|fun u1 p2 c2 f1=>zA 1 u<|zC<|wA (fun s2 K=>∀ r_2,K [(0, .slice p1 (List.length y0) c1), (3, vi s2.2)] [r_2] [Ar (eInt .i64) 3 r_2 p1 c1 (List.length y0) s2.1]) (zB<|zA 1 u<|zC<|zQ<|
  qP (fun s3 K=>∀ r_3,K [(0, .slice p1 (List.length y0) c1), (3, vi s3.2.1), (4, .slice p2 (Int.toNat (((List.length y0 : Nat) : Int) - s1)) c2), (5, vi s3.2.2)] [r_3] [Ar (eInt .i64) 3 r_3 p1 c1 (List.length y0) s3.1]) (gv (fun _ k=>k r_1) [0] ⟨gk 0,d⟩)<|
  fun s3 _ k r_3=>k<|zG<|zB<|zA 4 u<|zC<|zI u (zL<|zD<|zG<|zQ<|yK [] [0] 10<|zX 8 [0,1] u<|jdX 2 0 u u f1 u u<|fun x3 b3 hp3 h3=>xU 3 0 0 sI false oI u u hp3 h3 u<|zX 3 [4,5,6] u<|
  jdX 7 0 u u f1 u u<|fun x4 b4 hp4 h4=>xU 8 0 0 sI false oI u u hp4 h4 u<|zX 0 [9] u<|qS<|zD<|zI u (zB<|zA 4 u<|jiV 0 u f1 u u<|fun x5 b5 hp5 h5=>uV 0 0 sI false oI u hp5 h5 u<|yH 0 u u u<|
  fun x6 h6 b6 hp6=>uX .s 0 0 sI x5 false u hp6 h6 u u vI<|fun r_4=>zC<|zM<|zA 3 u<|zF<|qD<|zD<|zM<|zA 3 u<|zF<|qF (gv (fun _ k=>k r_4) [0] ⟨gk 0,d⟩))<|zL<|qD<|zD<|zM<|zA 3 u<|zF<|
  qF (gv (fun _ k=>k r_3) [0] ⟨gk 0,d⟩))<|qM<|qL<|qO<|qN<|zN (gv (fun _ k=>k r_3) [0] ⟨gk 0,d⟩))<|fun s2 _ k r_2=>k<|zB<|zA 2 u<|jsV 0 u u u<|fun u2 p3 c3 f2=>jcv .s 0 0 0 (vi 0) u f2 u vI<|fun r_5=>zC<|zB<|zA 2 u<|
  jsP 0 u u u<|fun x7=>zA 1 u<|zC<|zK<|qV<|qC<|wX<|qV<|qC<|wS 0 0 u u<|zS u u (fun _ k=>k p1 c1) [900] ⟨gk 0,d⟩)<|zL<|qD<|zD<|zM<|zA 3 u<|zF<|qF (gv kk [0] ⟨gk 0,d⟩))<|qM<|qL<|qO<|qN<|zD<|
  zB<|zA 2 u<|zC<|zK<|wS 0 0 u u<|zS u u (fun _ k=>k p1 c1) [900] ⟨gk 0,d⟩
theorem zGA {qd : Prop} {y0 : List Int} : qA qd prog 220 [sv p1 y0 c1] [r_1] [Al (eInt .i64) 3 r_1 p1 c1 y0] (zBG y0) fun r K=>∀ r_2,K (.tuple #[]) [r_2] [Ar (eInt .i64) 3 r_2 p1 c1 (List.length y0) r] := ⟨call220, fun A w0 r hm hO hF => by
 have h := zXh (qd := qd) Tryz.sorts220 (te := 3) hO hF.1.1 hm
 change Calls prog 220 _ _ _ at h
 refine h.mono fun e w' h => ?_
 cases e with
 | returned v => obtain ⟨r', rfl, h1, h2, h3, h4⟩ := h; exact fun G k => k r' ⟨rfl, h1, h2, ⟨h3, h4.symm⟩, trivial⟩
 | panicked ch => exact h
 | outgrown => exact h⟩
theorem zM5 {qd : Prop} (k : Nat) :
    (∀ {y0 : List zP} {p1 : Option Addr} {c1 : Nat} {y1 : Int}, qA qd prog 169 [sv p1 y0 c1, vi y1] [] [Rl qR p1 c1 y0] (zCQ k y0 y1) fun r K=>∀ p2 c2,K (sv p2 r c2) [] [Rl (eInt .i64) p2 c2 r]) := by
  induction k with
  | zero => exact zXp call169
  | succ k ih =>
    have ih_argument_Subs := @ih
    exact @fun y0 p1 c1 y1=>qE (m1 := zHT (zCQ k) y0 y1) call169 func169 u fun X=>zB<|zA 1 u<|zC<|zG<|zB<|zA 2 u<|qI zHl u ⟨ck 0,d⟩<|fun r1 _ k=>k<|zA 1 u<|zC<|zI u (zB<|zA 1 u<|zC<|zK<|qC<|zS u u (fun _ k=>k none 0) [] ⟨gn,d⟩)<|zL<|zD<|zB<|zA 1 u<|
  uY .s (e := eInt .i64) 3 [vi y1] ([y1] : List Int) (rC vI rN)<|fun r_1 p2 c2=>zA 1 u<|zC<|wA (fun s1 K=>∀ p3 c3 r_2,K [(5, sv p3 s1 c3)] [r_2] [Al (eInt .i64) 3 r_2 p3 c3 s1]) (zB<|zA 2 u<|qX 1 u u u<|fun x1 b1 o1=>
  zU 2 u<|qW false oL (gf (gs (gs (gk 0)))) u<|fun p4 c4=>zA 2 u<|zC<|zQ<|
  qP (fun s2 K=>∀ p5 c5 r_3,K [(0, sv p1 y0 c1), (5, sv p5 s2.1 c5), (18, sv p4 x1.2.2.1 c4), (19, vi (len x1.2.2.1)), (20, vi s2.2)] [r_3] [Al (eInt .i64) 3 r_3 p5 c5 s2.1, Rl qR p1 c1 y0, Rl (eInt .i64) p4 c4 x1.2.2.1]) (gv (fun _ k=>k p2 c2 r_1) [0] ⟨gk 2,gk 3,gk 0,d⟩)<|
  fun s2 _ k p5 c5 r_3=>k<|zB<|zA 1 u<|zC<|zG<|zI u (zL<|zD<|zG<|zQ<|zB<|qX 2 u u u<|fun x2 b2 o2=>qW false oI (gk 0) u<|zA 1 u<|zC<|zM<|zA 3 u<|qI ih_argument_Subs u ⟨ck 2,d⟩<|fun r2 _ k p6 c6=>k<|
  wM .s 0 2 u (gk 0) u u<|fun x3 r_4 p7 c7=>zA 1 u<|zF<|qD<|zD<|zM<|zA 2 u<|zF<|qF (gv (fun _ k=>k p7 c7 r_4) [0] ⟨gk 0,gk 4,gk 5,d⟩))<|qM<|qL<|qO<|qN<|zN (gv (fun _ k=>k p5 c5 r_3) [0] ⟨gk 0,d⟩))<|
  fun s1 _ k p3 c3 r_2=>k<|zB<|zA 1 u<|qH .s [0] [] zGA u u u ⟨ck 0,d⟩<|fun r3 _ k r_5=>k<|zC<|zB<|zA 1 u<|jrE 0 32 u u<|qH .s [0] [] zGG u u u ⟨ck 0,d⟩<|fun r4 _ k p8 c8=>k<|
  zA 1 u<|zC<|zK<|zS u u (fun _ k=>k p8 c8) [] ⟨gk 0,d⟩
theorem zIv {qd : Prop} {y0 : List zP} {y1 : Int} : qA qd prog 169 [sv p1 y0 c1, vi y1] [] [Rl qR p1 c1 y0] (zFo y0 y1) fun r K=>∀ p2 c2,K (sv p2 r c2) [] [Rl (eInt .i64) p2 c2 r] := zNB fun k => (zM5 k)
theorem zIG {qd : Prop} {y0 : zT} {y1 : List zP} {y2 : Int} : qA qd prog 210 [.agg #[sv p1 y0.1 c1, sv p2 y0.2.1 c2, sv p3 y0.2.2 c3], sv p4 y1 c4, vi y2] [] [Rl e_Premise p1 c1 y0.1, Rl e_Rule p2 c2 y0.2.1, Rl e_Promotion p3 c3 y0.2.2, Rl qR p4 c4 y1] (zBa y0 y1 y2) fun r K=>∀ p5 c5,K (sv p5 r c5) [] [Rl (eInt .i64) p5 c5 r] :=
 qE call210 func210 u fun X=>zB<|qT .s u<|fun b1=>zA 1 u<|zC<|zB<|zA 1 u<|vD (eInt .i64) 3<|zC<|wA (fun s1 K=>∀ p5 c5 r_1,K [(7, sv p5 s1 c5)] [[], r_1] [Al (eInt .i64) 3 r_1 p5 c5 s1]) (zB<|zA 2 u<|qI zIv u ⟨ck 4,d⟩<|
  fun r1 _ k p6 c6=>k<|zA 2 u<|zC<|zQ<|
  qP (fun s2 K=>∀ p7 c7 r_2,K [(1, sv p4 y1 c4), (3, pt b1 0), (7, sv p7 s2.1 c7), (13, sv p6 r1 c6), (14, vi (len r1)), (15, vi s2.2)] [bx b1 26 [sv p1 y0.1 c1, sv p2 y0.2.1 c2, sv p3 y0.2.2 c3], r_2] [Al (eInt .i64) 3 r_2 p7 c7 s2.1, Rl qR p4 c4 y1, Rl (eInt .i64) p6 c6 r1, Rl e_Premise p1 c1 y0.1, Rl e_Rule p2 c2 y0.2.1, Rl e_Promotion p3 c3 y0.2.2]) (gv (fun _ k=>k none 0 []) [0,1] ⟨gk 1,gk 5,gk 0,gk 2,gk 3,gk 4,d⟩)<|
  fun s2 _ k p7 c7 r_2=>k<|zB<|zA 1 u<|zC<|zG<|zI u (zL<|zD<|zG<|zQ<|zB<|qX 2 u u u<|fun x1 b2 o1=>qW false oI (gk 0) u<|zA 1 u<|zC<|zB<|zA 2 u<|qX 2 u u u<|fun x2 b3 o2=>zU 1 u<|
  qW false oI (gf (gs (gk 0))) u<|zA 1 u<|zC<|
  wA (fun s3 K=>K [(1, sv p4 y1 c4), (3, pt b1 0), (7, sv p7 s2.1 c7), (10, vi x2.2.1), (13, sv p6 r1 c6), (14, vi (len r1)), (15, vi s2.2), (34, vb s3)] [bx b1 26 [sv p1 y0.1 c1, sv p2 y0.2.1 c2, sv p3 y0.2.2 c3], r_2] [Rl qR p4 c4 y1, Al (eInt .i64) 3 r_2 p7 c7 s2.1, Rl (eInt .i64) p6 c6 r1, Rl e_Premise p1 c1 y0.1, Rl e_Rule p2 c2 y0.2.1, Rl e_Promotion p3 c3 y0.2.2]) (
  zM<|zA 3 u<|wH 26 u (zU 1 u<|zV 0 u u u<|zA 1 u<|qX 6 u u u<|fun x3 b4 o3=>zU 1 u<|qW false oB (gf (gs (gk 0))) u<|zA 1 u<|zJ (vb (!x3.2.1))<|zF<|
  zN (gv kk [0,1] ⟨gk 4,gk 3,gk 5,gk 6,gk 7,gk 8,d⟩))<|zA 7 u<|zJ (vb false)<|zF<|zN (gv kk [0,1] ⟨gk 3,gk 2,gk 4,gk 5,gk 6,gk 7,d⟩))<|fun s3 _ k=>k<|zI u (zM<|zA 2 u<|
  wV .s (e := eInt .i64) 3 [vi x2.2.1] ([x2.2.1] : List Int) (rC vI rN)<|fun p8 c8=>wM .s 1 2 u (gk 0) u u<|fun x4 r_3 p9 c9=>zA 1 u<|zF<|qD<|zD<|zM<|zA 2 u<|zF<|
  qF (gv (fun _ k=>k p9 c9 r_3) [0,1] ⟨gk 0,gk 2,gk 4,gk 5,gk 6,gk 7,d⟩))<|zL<|qD<|zD<|zM<|zA 2 u<|zF<|qF (gv (fun _ k=>k p7 c7 r_2) [0,1] ⟨gk 1,gk 0,gk 2,gk 3,gk 4,gk 5,d⟩))<|qM<|qL<|qO<|qN<|
  zN (gv (fun _ k=>k p7 c7 r_2) [900,1] ⟨gk 0,d⟩))<|fun s1 _ k p5 c5 r_1=>k<|zB<|zA 1 u<|qH .s [1] [] zGA u u u ⟨ck 0,d⟩<|fun r2 _ k r_4=>k<|zC<|zB<|zA 1 u<|jrE 0 42 u u<|
  qH .s [1] [] zGG u u u ⟨ck 0,d⟩<|fun r3 _ k p10 c10=>k<|zA 1 u<|zC<|zK<|zS u u (fun _ k=>k p10 c10) [] ⟨gk 0,d⟩
theorem zMr {qd : Prop} (k : Nat) :
    (∀ {y0 : zT} {p1 : Option Addr} {c1 : Nat} {p2 : Option Addr} {c2 : Nat} {p3 : Option Addr} {c3 : Nat} {y1 : List zP} {p4 : Option Addr} {c4 : Nat} {y2 : Int}, qA qd prog 209 [.agg #[sv p1 y0.1 c1, sv p2 y0.2.1 c2, sv p3 y0.2.2 c3], sv p4 y1 c4, vi y2] [] [Rl e_Premise p1 c1 y0.1, Rl e_Rule p2 c2 y0.2.1, Rl e_Promotion p3 c3 y0.2.2, Rl qR p4 c4 y1] (zCG k y0 y1 y2) fun r K=>∀ p5 c5,K (sv p5 r c5) [] [Rl e_Literal p5 c5 r]) := by
  induction k with
  | zero => exact zXp call209
  | succ k ih =>
    have ih_argument_run := @ih
    exact @fun y0 p1 c1 p2 c2 p3 c3 y1 p4 c4 y2=>qE (m1 := zHx (zCG k) y0 y1 y2) call209 func209 u fun X=>zB<|qT .s u<|fun b1=>zA 1 u<|zC<|zB<|zA 2 u<|qX 3 u u u<|fun x1 b2 o1=>zU 3 u<|qW true yM (gs (gs (gs (gk 0)))) u<|
  uY .s (e := e_Literal) 30 [vb x1.2.2.2.1, vs x1.2.2.2.2] ([x1.2.2.2] : List zO) (rC (vP vB vS) rN)<|fun r_1 p5 c5=>zA 1 u<|zC<|zG<|zB<|zA 2 u<|qX 5 u u u<|fun x2 b3 o2=>zU 1 u<|qW false oI (gf (gs (gk 0))) u<|
  zA 1 u<|zC<|
  wA (fun s1 K=>K [(1, sv p4 y1 c4), (2, vi y2), (3, pt b1 0), (7, sv p5 ([x1.2.2.2] : List zO) c5), (31, vb s1)] [bx b1 26 [sv p1 y0.1 c1, sv p2 y0.2.1 c2, sv p3 y0.2.2 c3], r_1] [Rl qR p4 c4 y1, Al e_Literal 30 r_1 p5 c5 ([x1.2.2.2] : List zO), Rl e_Premise p1 c1 y0.1, Rl e_Rule p2 c2 y0.2.1, Rl e_Promotion p3 c3 y0.2.2]) (
  zM<|zA 3 u<|wH 24 u (zU 1 u<|zV 0 u u u<|zA 1 u<|qX 4 u u u<|fun x3 b4 o3=>zU 1 u<|qW false oB (gf (gs (gk 0))) u<|zJ (vb x3.2.1)<|zF<|zN (gv kk [0,1] ⟨gk 7,gk 2,gk 4,gk 5,gk 6,d⟩))<|
  zA 6 u<|zJ (vb false)<|zF<|zN (gv kk [0,1] ⟨gk 6,gk 1,gk 3,gk 4,gk 5,d⟩))<|fun s1 _ k=>k<|zI u (zB<|zA 2 u<|qX 0 u u u<|fun x4 b5 o4=>zU 2 u<|qW false oL (gf (gs (gs (gk 0)))) u<|fun p6 c6=>zA 2 u<|
  zC<|zQ<|
  qP (fun s2 K=>∀ p7 c7 r_2,K [(1, sv p4 y1 c4), (3, pt b1 0), (7, sv p7 s2.1 c7), (36, sv p6 x4.2.2.1 c6), (37, vi (len x4.2.2.1)), (38, vi s2.2)] [bx b1 26 [sv p1 y0.1 c1, sv p2 y0.2.1 c2, sv p3 y0.2.2 c3], r_2] [Al e_Literal 30 r_2 p7 c7 s2.1, Rl qR p4 c4 y1, Rl (eInt .i64) p6 c6 x4.2.2.1, Rl e_Premise p1 c1 y0.1, Rl e_Rule p2 c2 y0.2.1, Rl e_Promotion p3 c3 y0.2.2]) (gv (fun _ k=>k p5 c5 r_1) [0,1] ⟨gk 3,gk 2,gk 0,gk 4,gk 5,gk 6,d⟩)<|
  fun s2 _ k p7 c7 r_2=>k<|zB<|zA 1 u<|zC<|zG<|zI u (zL<|zD<|zG<|zQ<|zB<|qX 2 u u u<|fun x5 b6 o5=>qW false oI (gk 0) u<|zA 1 u<|zC<|zM<|zA 1 u<|qK 0 3 u u u<|zA 2 u<|
  qI ih_argument_run u ⟨ck 4,ck 5,ck 6,ck 2,d⟩<|fun r1 _ k p8 c8=>k<|wM .s 1 2 u (gk 0) u u<|fun x6 r_3 p9 c9=>zA 1 u<|zF<|qD<|zD<|zM<|zA 2 u<|zF<|qF (gv (fun _ k=>k p9 c9 r_3) [0,1] ⟨gk 0,gk 4,gk 5,gk 6,gk 7,gk 8,d⟩)
  )<|qM<|qL<|qO<|qN<|zD<|zB<|zA 2 u<|zC<|zK<|wS 1 0 u u<|zS u u (fun _ k=>k p7 c7) [] ⟨gk 0,d⟩)<|zL<|zD<|zB<|zA 2 u<|zC<|zK<|wS 1 1 u u<|zS u u (fun _ k=>k p5 c5) [] ⟨gk 0,d⟩
theorem zPk {qd : Prop} {y0 : zT} {y1 : List zP} {y2 : Int} : qA qd prog 209 [.agg #[sv p1 y0.1 c1, sv p2 y0.2.1 c2, sv p3 y0.2.2 c3], sv p4 y1 c4, vi y2] [] [Rl e_Premise p1 c1 y0.1, Rl e_Rule p2 c2 y0.2.1, Rl e_Promotion p3 c3 y0.2.2, Rl qR p4 c4 y1] (zGR y0 y1 y2) fun r K=>∀ p5 c5,K (sv p5 r c5) [] [Rl e_Literal p5 c5 r] := zNB fun k => (zMr k)
theorem zLA {qd : Prop} {y0 : List zO} {y1 : zO} : qA qd prog 190 [sv p1 y0 c1, .agg #[vb y1.1, vs y1.2]] [] [Rl e_Literal p1 c1 y0] (zCa y0 y1) fun r K=>K (vi r) [] [] :=
 qE call190 func190 u fun X=>zB<|qT .s u<|fun b1=>zA 1 u<|zC<|zG<|zB<|zA 3 u<|zC<|zQ<|qP (fun s1 K=>K [(0, sv p1 y0 c1), (3, pt b1 0), (7, vi (len y0)), (8, vi s1)] [bx b1 30 [vb y1.1, vs y1.2]] [Rl e_Literal p1 c1 y0]) (gv kk [0] ⟨gk 0,d⟩)<|
  fun s1 _ k=>k<|zB<|zA 1 u<|zC<|zG<|zI u (zL<|zD<|zG<|zQ<|zB<|zA 2 u<|zC<|yK [] [0] 6<|vM 0 0 2 u u u u<|zX 3 [1,2] u<|vJ 3 0 u u u u<|fun x1 b2 o1=>vH 4 true yM u (gk 0) u<|
  wC 5 (vb (y1 == x1)) u<|qS<|zD<|zI u (zB<|zA 2 u<|zC<|zK<|qV<|qC<|wX<|qV<|qC<|zS u u kk [] d)<|zL<|qD<|zD<|zM<|zA 2 u<|zF<|qF (gv kk [0] ⟨gk 1,d⟩))<|qM<|qL<|qO<|qN<|zD<|zB<|
  zA 1 u<|zC<|zK<|zS u u kk [] d
theorem zJl {qd : Prop} {y0 : List zO} {y1 : zO} : qA qd prog 127 [sv p1 y0 c1, .agg #[vb y1.1, vs y1.2]] [] [Rl e_Literal p1 c1 y0] (zDJ y0 y1) fun r K=>K (vb r) [] [] :=
 qE call127 func127 u fun X=>zB<|qT .s u<|fun b1=>zA 1 u<|zC<|zB<|zA 1 u<|qK 0 2 u u u<|qI zLA u ⟨ck 0,d⟩<|fun r1 _ k=>k<|zA 2 u<|zC<|zK<|zS u u kk [] d
theorem zIg {qd : Prop} {y0 : List zO} {y1 : zO} : qA qd prog 71 [sv p1 y0 c1, .agg #[vb y1.1, vs y1.2]] [] [Rl e_Literal p1 c1 y0] (zEQ y0 y1) fun r K=>K (vb r) [] [] :=
 qE call71 func71 u fun X=>zB<|qT .s u<|fun b1=>zA 1 u<|zC<|zB<|zA 1 u<|qK 0 2 u u u<|qI zJl u ⟨ck 0,d⟩<|fun r1 _ k=>k<|zA 1 u<|zC<|zK<|zS u u kk [] d
theorem zNN {qd : Prop} {y0 : List Int} {y1 : Int} : qA qd prog 120 [sv p1 y0 c1, vi y1] [] [Rl (eInt .i64) p1 c1 y0] (zHE y0 y1) fun r K=>K (vi r) [] [] :=
 qE call120 func120 u fun X=>zB<|zA 1 u<|zC<|zG<|zB<|zA 3 u<|zC<|zQ<|qP (fun s1 K=>K [(0, sv p1 y0 c1), (1, vi y1), (7, vi (len y0)), (8, vi s1)] [] [Rl (eInt .i64) p1 c1 y0]) (gv kk [] ⟨gk 0,d⟩)<|fun s1 _ k=>k<|zB<|zA 1 u<|zC<|zG<|
  zI u (zL<|zD<|zG<|zQ<|zB<|zA 2 u<|zC<|zB<|zA 3 u<|qX 0 u u u<|fun x1 b1 o1=>qW false oI (gk 0) u<|zA 1 u<|zC<|zI u (zB<|zA 2 u<|zC<|zK<|qV<|qC<|wX<|qV<|qC<|zS u u kk [] d)<|zL<|
  qD<|zD<|zM<|zA 2 u<|zF<|qF (gv kk [] ⟨gk 1,d⟩))<|qM<|qL<|qO<|qN<|zD<|zB<|zA 1 u<|zC<|zK<|zS u u kk [] d
theorem zFg {qd : Prop} {y0 : List Int} {y1 : Int} : qA qd prog 69 [sv p1 y0 c1, vi y1] [] [Rl (eInt .i64) p1 c1 y0] (zBF y0 y1) fun r K=>K (vb r) [] [] :=
 qE call69 func69 u fun X=>zB<|zA 1 u<|zC<|zB<|zA 2 u<|qI zNN u ⟨ck 0,d⟩<|fun r1 _ k=>k<|zA 2 u<|zC<|zK<|zS u u kk [] d
theorem zNj {qd : Prop} {y0 : zT} {y1 : List zP} {y2 : Int} {y3 : List Int} : qA qd prog 165 [.agg #[sv p1 y0.1 c1, sv p2 y0.2.1 c2, sv p3 y0.2.2 c3], sv p4 y1 c4, vi y2, sv p5 y3 c5] [] [Rl e_Premise p1 c1 y0.1, Rl e_Rule p2 c2 y0.2.1, Rl e_Promotion p3 c3 y0.2.2, Rl qR p4 c4 y1, Rl (eInt .i64) p5 c5 y3] (zFt y0 y1 y2 y3) fun r K=>K (vb r) [] [] :=
 qE call165 func165 u fun X=>zB<|qT .s u<|fun b1=>zA 1 u<|zC<|zG<|zB<|zA 3 u<|zC<|zQ<|
  qP (fun s1 K=>K [(1, sv p4 y1 c4), (2, vi y2), (4, pt b1 0), (11, sv p5 y3 c5), (12, vi (len y3)), (13, vi s1)] [bx b1 26 [sv p1 y0.1 c1, sv p2 y0.2.1 c2, sv p3 y0.2.2 c3]] [Rl qR p4 c4 y1, Rl (eInt .i64) p5 c5 y3, Rl e_Premise p1 c1 y0.1, Rl e_Rule p2 c2 y0.2.1, Rl e_Promotion p3 c3 y0.2.2]) (gv kk [0] ⟨gk 3,gk 4,gk 0,gk 1,gk 2,d⟩)<|
  fun s1 _ k=>k<|zB<|zA 1 u<|zC<|zG<|zI u (zL<|zD<|zG<|zQ<|zB<|qX 1 u u u<|fun x1 b2 o1=>qW false oI (gk 0) u<|zA 1 u<|zC<|zB<|zU 1 u<|zV 0 u u u<|zA 1 u<|qX 4 u u u<|fun x2 b3 o2=>zU 1 u<|
  qW false oB (gf (gs (gk 0))) u<|zC<|zI u (yK [] [0] 11<|vM 0 0 3 u u u u<|zX 8 [1,2] u<|qQ 4 1 u u<|qZ 5 0 u u u u<|zX 5 [6] u<|vJ 7 5 u u u u<|fun x3 b4 o3=>qQ 8 4 u u<|
  vH 9 true yM u (gs (gs (gs (gs (gk 0))))) u<|qG 3<|qH (.f u) [] [] zPk u u u ⟨ck 5,ck 6,ck 7,ck 3,d⟩<|fun r1 _ k p6 c6=>k<|zZ<|qG 10<|qH (.f u) [] [] zIg u u u ⟨ck 0,d⟩<|fun r2 _ k=>
  k<|zZ<|qS<|zD<|zI u (zB<|zA 1 u<|zC<|zK<|qV<|qC<|wX<|qV<|qC<|zS u u kk [] d)<|zL<|qD<|zD<|zM<|zA 2 u<|zF<|qF (gv kk [0] ⟨gk 4,gk 5,gk 6,gk 7,gk 8,d⟩))<|zB<|qK 0 3 u u u<|
  zA 2 u<|qI zIG u ⟨ck 4,ck 5,ck 6,ck 2,d⟩<|fun r3 _ k p7 c7=>k<|zA 1 u<|qI zFg u ⟨ck 0,d⟩<|fun r4 _ k=>k<|zC<|zI u (zB<|zA 1 u<|zC<|zK<|qV<|qC<|wX<|qV<|qC<|
  zS u u kk [] d)<|zL<|qD<|zD<|zM<|zA 2 u<|zF<|qF (gv kk [0] ⟨gk 3,gk 4,gk 5,gk 6,gk 7,d⟩))<|qM<|qL<|qO<|qN<|zD<|zB<|zA 1 u<|zC<|zK<|zS u u kk [] d
theorem zJb {qd : Prop} {y0 : List Int} : qA qd prog 162 [sv p1 y0 c1] [] [Rl (eInt .i64) p1 c1 y0] (zFK y0) fun r K=>∀ p2 c2 r_1,K (sv p2 r c2) [r_1] [Al (eInt .i64) 3 r_1 p2 c2 r] :=
 qE call162 func162 u fun X=>zB<|zA 1 u<|zC<|zG<|zB<|zA 1 u<|jv (fun h=>zVk h u underlying31)<|zC<|jnl (m1 := some ([] : List Int)) u (gk 0) (fun h=>by first|(rw [h];done)|(rw [h];rfl)|(simp [h,wJ];done)) (zB<|zA 1 u<|zC<|zK<|qC<|
  vD (eInt .i64) 3<|jrE 0 2 u u<|zS u u (fun _ k=>k none 0 []) [0] ⟨gk 0,d⟩)<|zL<|zD<|zB<|uY .s (e := eInt .i64) 3 [] ([] : List Int) rN<|fun r_1 p2 c2=>zA 1 u<|wM .s 0 0 u (gk 1) u u<|fun x1 r_2 p3 c3=>zA 1 u<|
  zC<|zK<|zS u u (fun _ k=>k p3 c3 r_2) [0] ⟨gk 0,d⟩
theorem zJP {qd : Prop} {y0 : Int} {y2 : zAA} : qA qd prog 164 [vi y0, pt b1 0] [bx b1 141 [pt b2 0], bx b2 143 [sv p1 y2.1.1 c1, sv p2 y2.1.2.1 c2, sv p3 y2.1.2.2 c3, sv p4 y2.2.1 c4, sv p5 y2.2.2.1 c5, vi y2.2.2.2]] [Rl e_Premise p1 c1 y2.1.1, Rl e_Rule p2 c2 y2.1.2.1, Rl e_Promotion p3 c3 y2.1.2.2, Rl qR p4 c4 y2.2.1, Rl qR p5 c5 y2.2.2.1] (zCl y0 y2) fun r K=>K (vb r) [bx b1 141 [pt b2 0], bx b2 143 [sv p1 y2.1.1 c1, sv p2 y2.1.2.1 c2, sv p3 y2.1.2.2 c3, sv p4 y2.2.1 c4, sv p5 y2.2.2.1 c5, vi y2.2.2.2]] [] :=
 qE call164 func164 u fun X=>zB<|zA 1 u<|zC<|zB<|zA 1 u<|zV 0 u u u<|zA 1 u<|zU 5 u<|zV 1 u u u<|zA 2 u<|zC<|zK<|zS u u kk [0,1] d
theorem zDI {qd : Prop} {y0 : List Int} {y2 : zAA} : qA qd prog 93 [sv p1 y0 c1, .func (.func 164) #[] #[pt b1 0]] [bx b1 141 [pt b2 0], bx b2 143 [sv p2 y2.1.1 c2, sv p3 y2.1.2.1 c3, sv p4 y2.1.2.2 c4, sv p5 y2.2.1 c5, sv p6 y2.2.2.1 c6, vi y2.2.2.2]] [Rl (eInt .i64) p1 c1 y0, Rl e_Premise p2 c2 y2.1.1, Rl e_Rule p3 c3 y2.1.2.1, Rl e_Promotion p4 c4 y2.1.2.2, Rl qR p5 c5 y2.2.1, Rl qR p6 c6 y2.2.2.1] (zAT y0 y2) fun r K=>K (vi r) [bx b1 141 [pt b2 0], bx b2 143 [sv p2 y2.1.1 c2, sv p3 y2.1.2.1 c3, sv p4 y2.1.2.2 c4, sv p5 y2.2.1 c5, sv p6 y2.2.2.1 c6, vi y2.2.2.2]] [] :=
 qE call93 func93 u fun X=>zB<|zA 1 u<|zC<|zG<|zB<|zA 3 u<|zC<|zQ<|
  qP (fun s1 K=>K [(0, sv p1 y0 c1), (1, .func (.func 164) #[] #[pt b1 0]), (7, vi (len y0)), (8, vi s1)] [bx b1 141 [pt b2 0], bx b2 143 [sv p2 y2.1.1 c2, sv p3 y2.1.2.1 c3, sv p4 y2.1.2.2 c4, sv p5 y2.2.1 c5, sv p6 y2.2.2.1 c6, vi y2.2.2.2]] [Rl (eInt .i64) p1 c1 y0, Rl e_Premise p2 c2 y2.1.1, Rl e_Rule p3 c3 y2.1.2.1, Rl e_Promotion p4 c4 y2.1.2.2, Rl qR p5 c5 y2.2.1, Rl qR p6 c6 y2.2.2.1]) (gv kk [0,1] ⟨gk 0,gk 1,gk 2,gk 3,gk 4,gk 5,d⟩)<|
  fun s1 _ k=>k<|zB<|zA 1 u<|zC<|zG<|zI u (zL<|zD<|zG<|zQ<|zB<|zA 2 u<|zC<|zB<|zA 3 u<|qX 0 u u u<|fun x1 b3 o1=>qW false oI (gk 0) u<|
  qH .s [0, 1] [] zJP u u u ⟨ck 2,ck 3,ck 4,ck 5,ck 6,d⟩<|fun r1 _ k=>k<|zC<|zI u (zB<|zA 2 u<|zC<|zK<|qV<|qC<|wX<|qV<|qC<|zS u u kk [0,1] d)<|zL<|qD<|zD<|zM<|zA 2 u<|zF<|
  qF (gv kk [0,1] ⟨gk 1,gk 2,gk 3,gk 4,gk 5,gk 6,d⟩))<|qM<|qL<|qO<|qN<|zD<|zB<|zA 1 u<|zC<|zK<|zS u u kk [0,1] d
theorem zCP {qd : Prop} {y0 : List Int} {y2 : zAA} : qA qd prog 163 [sv p1 y0 c1, .func (.func 164) #[] #[pt b1 0]] [bx b1 141 [pt b2 0], bx b2 143 [sv p2 y2.1.1 c2, sv p3 y2.1.2.1 c3, sv p4 y2.1.2.2 c4, sv p5 y2.2.1 c5, sv p6 y2.2.2.1 c6, vi y2.2.2.2]] [Rl (eInt .i64) p1 c1 y0, Rl e_Premise p2 c2 y2.1.1, Rl e_Rule p3 c3 y2.1.2.1, Rl e_Promotion p4 c4 y2.1.2.2, Rl qR p5 c5 y2.2.1, Rl qR p6 c6 y2.2.2.1] (zAC y0 y2) fun r K=>K (vb r) [bx b1 141 [pt b2 0], bx b2 143 [sv p2 y2.1.1 c2, sv p3 y2.1.2.1 c3, sv p4 y2.1.2.2 c4, sv p5 y2.2.1 c5, sv p6 y2.2.2.1 c6, vi y2.2.2.2]] [] :=
 qE call163 func163 u fun X=>zB<|zA 1 u<|zC<|zB<|zA 2 u<|qH .s [0, 1] [] zDI u u u ⟨ck 0,ck 1,ck 2,ck 3,ck 4,ck 5,d⟩<|fun r1 _ k=>k<|zA 2 u<|zC<|zK<|zS u u kk [0,1] d
theorem zIL {qd : Prop} (k : Nat) :
    (∀ {y0 : zAA} {b1 : Nat} {p1 : Option Addr} {c1 : Nat} {p2 : Option Addr} {c2 : Nat} {p3 : Option Addr} {c3 : Nat} {p4 : Option Addr} {c4 : Nat} {r_1 : qB} {p5 : Option Addr} {c5 : Nat} {r_2 : qB} {y1 : Int} {y2 : List Int} {p6 : Option Addr} {c6 : Nat}, qA qd prog 103 [pt b1 0, vi y1, sv p6 y2 c6] [bx b1 143 [sv p1 y0.1.1 c1, sv p2 y0.1.2.1 c2, sv p3 y0.1.2.2 c3, sv p4 y0.2.1 c4, sv p5 y0.2.2.1 c5, vi y0.2.2.2], r_1, r_2] [Rl e_Premise p1 c1 y0.1.1, Rl e_Rule p2 c2 y0.1.2.1, Rl e_Promotion p3 c3 y0.1.2.2, Al qR 94 r_1 p4 c4 y0.2.1, Al qR 94 r_2 p5 c5 y0.2.2.1, Rl (eInt .i64) p6 c6 y2] (zAQ k y0 y1 y2) fun r K=>∀ p7 c7 r_3,K (.tuple #[]) [bx b1 143 [sv p1 y0.1.1 c1, sv p2 y0.1.2.1 c2, sv p3 y0.1.2.2 c3, sv p4 y0.2.1 c4, sv p7 r c7, vi y0.2.2.2], r_1, r_3] [Al qR 94 r_3 p7 c7 r]) := by
  induction k with
  | zero => exact zXp call103
  | succ k ih =>
    have ih_argument_builder_apply_2 := @ih
    exact @fun y0 b1 p1 c1 p2 c2 p3 c3 p4 c4 r_1 p5 c5 r_2 y1 y2 p6 c6=>qE (m1 := zBS (zAQ k) y0 y1 y2) call103 func103 u fun X=>zB<|qT .s u<|fun b2=>zC<|zB<|zV 3 u u u<|zA 1 u<|zU 0 u<|zU 1 u<|zV 0 u u u<|zA 1 u<|qX 1 u u u<|fun x1 b3 o1=>zU 3 u<|qW false oL (gf (gs (gs (gs (gk 0))))) u<|fun p7 c7=>zA 1 u<|zC<|zG<|
  zB<|zV 3 u u u<|qH .s [0] [1, 2] zER u u u ⟨ck 2,ck 3,ck 4,cl 1 5,cl 2 6,d⟩<|fun r1 _ k=>k<|zC<|zI u (zK<|qC<|wR u lN (fun _ k=>k p5 c5 r_2) [0,1,2] ⟨gk 6,d⟩)<|zL<|zD<|
  jjo (fun s1 K=>K [(1, vi y1), (2, sv p6 y2 c6), (3, pt b2 0)] [bx b1 143 [sv p1 y0.1.1 c1, sv p2 y0.1.2.1 c2, sv p3 y0.1.2.2 c3, sv p4 y0.2.1 c4, sv p5 y0.2.2.1 c5, vi y0.2.2.2], r_1, r_2, bx b2 141 [pt b1 0]] [Rl (eInt .i64) p6 c6 y2, Rl e_Premise p1 c1 y0.1.1, Rl e_Rule p2 c2 y0.1.2.1, Rl e_Promotion p3 c3 y0.1.2.2, Al qR 94 r_1 p4 c4 y0.2.1, Al qR 94 r_2 p5 c5 y0.2.2.1]) (
  zB<|zA 5 u<|zC<|zI u (zG<|zB<|zV 3 u u u<|zA 1 u<|zU 3 u<|zV 0 u u u<|zA 2 u<|zC<|zQ<|
  qP (fun s2 K=>∀ p8 c8 r_3,K [(1, vi y1), (2, sv p6 y2 c6), (3, pt b2 0), (6, sv p7 x1.2.2.2.1 c7), (28, sv p4 y0.2.1 c4), (29, vi (len y0.2.1)), (30, vi s2.1)] [bx b1 143 [sv p1 y0.1.1 c1, sv p2 y0.1.2.1 c2, sv p3 y0.1.2.2 c3, sv p4 y0.2.1 c4, sv p8 s2.2 c8, vi y0.2.2.2], r_1, r_3, bx b2 141 [pt b1 0]] [Al qR 94 r_3 p8 c8 s2.2, Rl (eInt .i64) p6 c6 y2, Rl e_Literal p7 c7 x1.2.2.2.1, Al qR 94 r_1 p4 c4 y0.2.1, Rl e_Premise p1 c1 y0.1.1, Rl e_Rule p2 c2 y0.1.2.1, Rl e_Promotion p3 c3 y0.1.2.2]) (gv (fun _ k=>k p5 c5 r_2) [0,1,2,3] ⟨gk 6,gk 7,gk 0,gk 5,gk 2,gk 3,gk 4,d⟩)<|
  fun s2 _ k p8 c8 r_3=>k<|zB<|zA 1 u<|zC<|zG<|zI u (zL<|zD<|zG<|zQ<|zB<|zA 1 u<|yH 3 u u u<|fun x2 h1 b4 hp1=>uV 1 3 sI true zQB u hp1 h1 u<|fun p9 c9=>
  wL .s (.agg #[vi 0, vi 0, .slice none 0 0, vb false, vs []])<|fun b5=>zA 1 u<|qU .s 4 u u u<|zC<|yK [] [4] 8<|qQ 0 3 u u<|vM 1 4 2 u u u u<|zX 3 [2,3,4] u<|vJ 5 3 u u u u<|fun x3 b6 o2=>
  vH 6 true yM u (gk 0) u<|wC 7 (vb (x2.2.2.2 == x3)) u<|qS<|zD<|zI u (
  jjc (fun s3 K=>∀ p10 c10 r_4,K [(1, vi y1), (2, sv p6 y2 c6), (3, pt b2 0), (6, sv p7 x1.2.2.2.1 c7), (28, sv p4 y0.2.1 c4), (29, vi (len y0.2.1)), (30, vi s2.1)] [bx b1 143 [sv p1 y0.1.1 c1, sv p2 y0.1.2.1 c2, sv p3 y0.1.2.2 c3, sv p4 y0.2.1 c4, sv p10 s3 c10, vi y0.2.2.2], r_1, r_4, bx b2 141 [pt b1 0], []] [Al qR 94 r_4 p10 c10 s3, Rl (eInt .i64) p6 c6 y2, Rl e_Literal p7 c7 x1.2.2.2.1, Al qR 94 r_1 p4 c4 y0.2.1, Rl e_Premise p1 c1 y0.1.1, Rl e_Rule p2 c2 y0.1.2.1, Rl e_Promotion p3 c3 y0.1.2.2]) (
  yN [] [3] 8<|qZ 0 3 u u u u<|zX 4 [1,2,4] u<|xM 3 5 (qH (.f u) [] [] zJb u u u ⟨ck 3,d⟩<|fun r2 _ k p11 c11 r_5=>k<|zZ<|qG 5<|
  wV (.f u) (e := eInt .i64) 3 [vi s2.1] ([s2.1] : List Int) (rC vI rN)<|fun p12 c12=>zZ<|qG 6<|wM (.f u) 5 1 u (gk 0) u u<|fun x4 r_6 p13 c13=>zZ<|wS 5 0 u u<|qG 7<|
  qH (.f u) [0, 1, 2] [] ih_argument_builder_apply_2 u u u ⟨ck 10,ck 11,ck 12,ck 9,ck 6,ck 0,d⟩<|fun r3 _ k p14 c14 r_7=>k<|zZ<|qS<|zN (gv (fun _ k=>k p14 c14 r_7) [0,1,2,3,904] ⟨gk 0,gk 8,gk 9,gk 10,gk 11,gk 12,gk 13,d⟩)) <|
  wV (.f u) (e := eInt .i64) 3 [vi s2.1] ([s2.1] : List Int) (rC vI rN)<|fun p15 c15=>zZ<|qG 3<|qH (.f u) [] [] zJb u u u ⟨ck 4,d⟩<|fun r4 _ k p16 c16 r_8=>k<|zZ<|qG 6<|wM (.f u) 5 0 u (gk 1) u u<|
  fun x5 r_9 p17 c17=>zZ<|wS 5 0 u u<|qG 7<|qH (.f u) [0, 1, 2] [] ih_argument_builder_apply_2 u u u ⟨ck 10,ck 11,ck 12,ck 9,ck 6,ck 0,d⟩<|fun r5 _ k p18 c18 r_10=>k<|zZ<|qS<|
  zN (gv (fun _ k=>k p18 c18 r_10) [0,1,2,3,904] ⟨gk 0,gk 8,gk 9,gk 10,gk 11,gk 12,gk 13,d⟩))<|fun s3 _ k p10 c10 r_4=>k<|qD<|zD<|zM<|zA 2 u<|zF<|qF (gv (fun _ k=>k p10 c10 r_4) [0,1,2,3] ⟨gk 0,gk 1,gk 2,gk 3,gk 4,gk 5,gk 6,d⟩))<|
  zL<|qD<|zD<|zM<|zA 2 u<|zF<|qF (gv (fun _ k=>k p8 c8 r_3) [0,1,2,3] ⟨gk 2,gk 3,gk 4,gk 5,gk 6,gk 7,gk 8,d⟩))<|qM<|qL<|qO<|qN<|zD<|zK<|wX<|wR u lN (fun _ k=>k p8 c8 r_3) [0,1,2] ⟨gk 0,d⟩)<|zL<|
  qF (gv kk [0,1,2,3] ⟨gk 7,gk 2,gk 3,gk 4,gk 5,gk 6,d⟩))<|fun s1 _ k=>k<|
  wA (fun s4 K=>K [(1, vi y1), (2, sv p6 y2 c6), (3, pt b2 0), (67, vb s4)] [bx b1 143 [sv p1 y0.1.1 c1, sv p2 y0.1.2.1 c2, sv p3 y0.1.2.2 c3, sv p4 y0.2.1 c4, sv p5 y0.2.2.1 c5, vi y0.2.2.2], r_1, r_2, bx b2 141 [pt b1 0]] [Rl (eInt .i64) p6 c6 y2, Rl e_Premise p1 c1 y0.1.1, Rl e_Rule p2 c2 y0.1.2.1, Rl e_Promotion p3 c3 y0.1.2.2, Al qR 94 r_1 p4 c4 y0.2.1, Al qR 94 r_2 p5 c5 y0.2.2.1]) (
  yN [2] [0, 3] 16<|zX 14 [0,1] u<|qG 2<|qH (.f u) [3, 0] [1, 2] zCP u u u ⟨ck 0,ck 1,ck 2,ck 3,cl 1 4,cl 2 5,d⟩<|fun r6 _ k=>k<|jdb [] [0, 3]<|zX 12 [3] u<|wH 55 u (
  qZ 4 3 u u u u<|zX 10 [5] u<|qQ 6 0 u u<|vM 7 0 3 u u u u<|qZ 8 3 u u u u<|zX 6 [9] u<|qQ 10 3 u u<|qZ 11 0 u u u u<|zX 2 [12,13] u<|qG 14<|
  qH (.f u) [] [1] zNj u u u ⟨ck 1,ck 2,ck 3,cl 1 4,ck 0,d⟩<|fun r7 _ k=>k<|zZ<|wC 15 (vb r7) u<|qS<|zN (gv kk [0,1,2,3] ⟨gk 0,gk 1,gk 2,gk 3,gk 4,gk 5,d⟩))<|zX 1 [4,5,6,7,8,9,10,11,12,13,14] u<|
  wC 15 (vb false) u<|qS<|zN (gv kk [0,1,2,3] ⟨gk 0,gk 1,gk 2,gk 3,gk 4,gk 5,d⟩))<|fun s4 _ k=>k<|zI u (yN [21] [0, 3] 22<|qZ 0 3 u u u u<|qZ 1 3 u u u u<|zX 19 [2] u<|qQ 3 4 u u<|
  qZ 4 0 u u u u<|zX 15 [5,6] u<|qZ 7 3 u u u u<|zX 13 [8] u<|qQ 9 0 u u<|qQ 10 1 u u<|qZ 11 0 u u u u<|zX 9 [12] u<|vJ 13 2 u u u u<|fun x6 b7 o3=>qQ 14 4 u u<|
  vH 15 true yM u (gs (gs (gs (gs (gk 0))))) u<|wC 16 (.agg #[vi (-1), vi y1, sv p6 y2 c6, vb x6.2.2.2.2.1, vs x6.2.2.2.2.2]) u<|qG 17<|
  wV (.f u) (e := qR) 94 [vi (-1), vi y1, sv p6 y2 c6, vb x6.2.2.2.2.1, vs x6.2.2.2.2.2] ([((-1), y1, y2, x6.2.2.2.2)] : List zP) (rC (vP vI (vP vI (vP (vL (gk 1)) (vP vB vS)))) rN)<|fun p19 c19=>zZ<|qG 18<|
  wM (.f u) 2 7 u (gk 0) u u<|fun x7 r_11 p20 c20=>zZ<|zX 2 [19] u<|qQ 20 4 u u<|qG 21<|qU (o := 4) (.f u) 0 u u u<|jdb [] [0, 3]<|qS<|jrn<|wR u lN (fun _ k=>k p20 c20 r_11) [0,1,2] ⟨gk 0,d⟩)<|zL<|jrn<|
  wR u lN (fun _ k=>k p5 c5 r_2) [0,1,2] ⟨gk 5,d⟩
theorem zJR {qd : Prop} {y0 : zAA} {y1 : Int} {y2 : List Int} : qA qd prog 103 [pt b1 0, vi y1, sv p6 y2 c6] [bx b1 143 [sv p1 y0.1.1 c1, sv p2 y0.1.2.1 c2, sv p3 y0.1.2.2 c3, sv p4 y0.2.1 c4, sv p5 y0.2.2.1 c5, vi y0.2.2.2], r_1, r_2] [Rl e_Premise p1 c1 y0.1.1, Rl e_Rule p2 c2 y0.1.2.1, Rl e_Promotion p3 c3 y0.1.2.2, Al qR 94 r_1 p4 c4 y0.2.1, Al qR 94 r_2 p5 c5 y0.2.2.1, Rl (eInt .i64) p6 c6 y2] (zBR y0 y1 y2) fun r K=>∀ p7 c7 r_3,K (.tuple #[]) [bx b1 143 [sv p1 y0.1.1 c1, sv p2 y0.1.2.1 c2, sv p3 y0.1.2.2 c3, sv p4 y0.2.1 c4, sv p7 r c7, vi y0.2.2.2], r_1, r_3] [Al qR 94 r_3 p7 c7 r] := zNB fun k => (zIL k)
theorem zNk {qd : Prop} {y0 : wD} {y1 : wZ} : qA qd prog 208 [.agg #[vs y0.1, vb y0.2.1, vi y0.2.2.1, sv p1 y0.2.2.2.1 c1, vb y0.2.2.2.2.1, vs y0.2.2.2.2.2], pt b1 0] [bx b1 9 [vs y1]] [Rl e_Literal p1 c1 y0.2.2.2.1] (zHi y0 y1) fun r K=>K (vb r) [bx b1 9 [vs y1]] [] :=
 qE call208 func208 u fun X=>zB<|qT .s u<|fun b2=>zA 1 u<|zC<|zB<|zU 0 u<|zV 1 u u u<|zV 0 u u u<|zA 2 u<|zC<|zK<|zS u u kk [0] d
theorem zF4 {qd : Prop} {y0 : List wD} {y1 : wZ} : qA qd prog 207 [sv p1 y0 c1, .func (.func 208) #[] #[pt b1 0]] [bx b1 9 [vs y1]] [Rl e_Rule p1 c1 y0] (zAg y0 y1) fun r K=>K (vi r) [bx b1 9 [vs y1]] [] :=
 qE call207 func207 u fun X=>zB<|zA 1 u<|zC<|zG<|zB<|zA 3 u<|zC<|zQ<|qP (fun s1 K=>K [(0, sv p1 y0 c1), (1, .func (.func 208) #[] #[pt b1 0]), (7, vi (len y0)), (8, vi s1)] [bx b1 9 [vs y1]] [Rl e_Rule p1 c1 y0]) (gv kk [0] ⟨gk 0,d⟩)<|
  fun s1 _ k=>k<|zB<|zA 1 u<|zC<|zG<|zI u (zL<|zD<|zG<|zQ<|zB<|zA 2 u<|zC<|zB<|zA 3 u<|qX 0 u u u<|fun x1 b2 o1=>qW true zMN (gk 0) u<|fun p2 c2=>qH .s [0] [] zNk u u u ⟨ck 0,d⟩<|
  fun r1 _ k=>k<|zC<|zI u (zB<|zA 2 u<|zC<|zK<|qV<|qC<|wX<|qV<|qC<|zS u u kk [0] d)<|zL<|qD<|zD<|zM<|zA 2 u<|zF<|qF (gv kk [0] ⟨gk 2,d⟩))<|qM<|qL<|qO<|qN<|zD<|zB<|zA 1 u<|zC<|zK<|
  zS u u kk [0] d
theorem zL2 {qd : Prop} {y0 : zT} {y1 : wZ} : qA qd prog 160 [.agg #[sv p1 y0.1 c1, sv p2 y0.2.1 c2, sv p3 y0.2.2 c3], vs y1] [] [Rl e_Premise p1 c1 y0.1, Rl e_Rule p2 c2 y0.2.1, Rl e_Promotion p3 c3 y0.2.2] (zF9 y0 y1) fun r K=>K (vi r) [] [] :=
 qE call160 func160 u fun X=>zB<|qT .s u<|fun b1=>qT .s u<|fun b2=>zA 1 u<|zC<|zB<|zU 1 u<|zV 0 u u u<|zA 1 u<|qH .s [1] [] zF4 u u u ⟨ck 1,d⟩<|fun r1 _ k=>k<|zA 1 u<|zC<|zK<|
  zS u u kk [] d
theorem zLx {qd : Prop} {y0 : vE} {y1 : zO} : qA qd prog 206 [.agg #[vb y0.1.1, vs y0.1.2, vi y0.2.1, vi y0.2.2.1, vs y0.2.2.2], pt b1 0] [bx b1 30 [vb y1.1, vs y1.2]] [] (zGM y0 y1) fun r K=>K (vb r) [bx b1 30 [vb y1.1, vs y1.2]] [] :=
 qE call206 func206 u fun X=>zB<|qT .s u<|fun b2=>zA 1 u<|zC<|zB<|zU 0 u<|qK 1 2 u u u<|qK 0 2 u u u<|zJ (vb (y0.1 == y1))<|zA 1 u<|zC<|zK<|zS u u kk [0] d
theorem zDU {qd : Prop} {y0 : List vE} {y1 : zO} : qA qd prog 205 [sv p1 y0 c1, .func (.func 206) #[] #[pt b1 0]] [bx b1 30 [vb y1.1, vs y1.2]] [Rl e_Premise p1 c1 y0] (zAV y0 y1) fun r K=>K (vi r) [bx b1 30 [vb y1.1, vs y1.2]] [] :=
 qE call205 func205 u fun X=>zB<|zA 1 u<|zC<|zG<|zB<|zA 3 u<|zC<|zQ<|
  qP (fun s1 K=>K [(0, sv p1 y0 c1), (1, .func (.func 206) #[] #[pt b1 0]), (7, vi (len y0)), (8, vi s1)] [bx b1 30 [vb y1.1, vs y1.2]] [Rl e_Premise p1 c1 y0]) (gv kk [0] ⟨gk 0,d⟩)<|fun s1 _ k=>k<|zB<|zA 1 u<|zC<|zG<|
  zI u (zL<|zD<|zG<|zQ<|zB<|zA 2 u<|zC<|zB<|zA 3 u<|qX 0 u u u<|fun x1 b2 o1=>qW true zIV (gk 0) u<|qH .s [0] [] zLx u u u d<|fun r1 _ k=>k<|zC<|zI u (zB<|zA 2 u<|zC<|zK<|
  qV<|qC<|wX<|qV<|qC<|zS u u kk [0] d)<|zL<|qD<|zD<|zM<|zA 2 u<|zF<|qF (gv kk [0] ⟨gk 1,d⟩))<|qM<|qL<|qO<|qN<|zD<|zB<|zA 1 u<|zC<|zK<|zS u u kk [0] d
theorem zNV {qd : Prop} {y0 : zT} {y1 : zO} : qA qd prog 158 [.agg #[sv p1 y0.1 c1, sv p2 y0.2.1 c2, sv p3 y0.2.2 c3], .agg #[vb y1.1, vs y1.2]] [] [Rl e_Premise p1 c1 y0.1, Rl e_Rule p2 c2 y0.2.1, Rl e_Promotion p3 c3 y0.2.2] (zFT y0 y1) fun r K=>K (vi r) [] [] :=
 qE call158 func158 u fun X=>zB<|qT .s u<|fun b1=>qT .s u<|fun b2=>zA 1 u<|zC<|zB<|zU 0 u<|zV 0 u u u<|zA 1 u<|qH .s [1] [] zDU u u u ⟨ck 0,d⟩<|fun r1 _ k=>k<|zA 1 u<|zC<|zK<|
  zS u u kk [] d
theorem zGc {qd : Prop} {y0 : wZ} : qA qd prog 68 [vs y0] [] [] (zB3 y0) fun r K=>K (vb r) [] [] :=
 qE call68 func68 u fun X=>zB<|zA 1 u<|zC<|zG<|yW (fun K=>K [(0, vs y0), (12, vb (((len y0) == 0) || (decide (12 < (len y0)))))] [] []) (zM<|zA 4 u<|vY (b := (len y0) == 0) 8 u (fun hb1=>zA 3 u<|zJ (vb true)<|zF<|
  wN 12 (vb (((len y0) == 0) || (decide (12 < (len y0))))) u (by rw [hb1]; rfl)<|zN (gv kk [] d))<|fun hb1=>zA 3 u<|zJ (vb (decide (12 < (len y0))))<|zF<|
  wN 12 (vb (((len y0) == 0) || (decide (12 < (len y0))))) u (by rw [hb1]; rfl)<|zN (gv kk [] d))<|fun _ k=>k<|zI u (zB<|zA 1 u<|zC<|zK<|qC<|zS u u kk [] d)<|zL<|zD<|zG<|zB<|zA 3 u<|zC<|zQ<|
  qP (fun s1 K=>K [(0, vs y0), (14, vi (len y0)), (15, vi s1)] [] []) (gv kk [] d)<|fun s1 _ k=>k<|zB<|zA 1 u<|zC<|zG<|zI u (zL<|zD<|zG<|zQ<|zB<|zA 2 u<|zC<|zB<|zA 2 u<|xO fun x1 h1=>
  jv (fun h=>zJy h u u underlying9 h1)<|zA 1 u<|zC<|zQ<|yW (fun K=>K [(0, vs y0), (3, vi s1), (4, .int .u8 x1), (14, vi (len y0)), (15, vi s1), (21, vb ((decide (97 ≤ x1)) && (decide (x1 ≤ 122))))] [] []) (zM<|zA 3 u<|
  vY (b := decide (97 ≤ x1)) 24 u (fun hb2=>zA 2 u<|zJ (vb (decide (x1 ≤ 122)))<|zA 1 u<|zF<|wN 21 (vb ((decide (97 ≤ x1)) && (decide (x1 ≤ 122)))) u (by rw [hb2]; rfl)<|zN (gv kk [] d))<|fun hb2=>zA 2 u<|
  zJ (vb false)<|zA 1 u<|zF<|wN 21 (vb ((decide (97 ≤ x1)) && (decide (x1 ≤ 122)))) u (by rw [hb2]; rfl)<|zN (gv kk [] d))<|fun _ k=>k<|zI u (zL<|qD<|qD<|zD<|zM<|zA 2 u<|zF<|qF (gv kk [] d))<|
  yW (fun K=>K [(0, vs y0), (14, vi (len y0)), (15, vi s1), (28, vb ((decide (0 < s1)) && (if decide (48 ≤ x1) then (decide (x1 ≤ 57)) || (x1 == 95) else x1 == 95)))] [] []) (zM<|zA 3 u<|vY (b := decide (0 < s1)) 31 u (fun hb3=>
  zA 3 u<|vY (b := decide (48 ≤ x1)) 34 u (fun hb4=>zA 2 u<|zJ (vb (decide (x1 ≤ 57)))<|zA 1 u<|vY (b := decide (x1 ≤ 57)) 38 u (fun hb5=>zA 2 u<|zJ (vb true)<|zJ (vb true)<|zA 1 u<|zF<|
  wN 28 (vb ((decide (0 < s1)) && (if decide (48 ≤ x1) then (decide (x1 ≤ 57)) || (x1 == 95) else x1 == 95))) u (by rw [hb3,hb4,hb5]; rfl)<|zN (gv kk [] d))<|fun hb5=>zA 2 u<|zJ (vb (x1 == 95))<|zJ (vb (x1 == 95))<|
  zA 1 u<|zF<|wN 28 (vb ((decide (0 < s1)) && (if decide (48 ≤ x1) then (decide (x1 ≤ 57)) || (x1 == 95) else x1 == 95))) u (by rw [hb3,hb4,hb5]; rfl)<|zN (gv kk [] d))<|fun hb4=>zA 2 u<|zJ (vb false)<|zA 3 u<|
  zJ (vb (x1 == 95))<|zJ (vb (x1 == 95))<|zA 1 u<|zF<|wN 28 (vb ((decide (0 < s1)) && (if decide (48 ≤ x1) then (decide (x1 ≤ 57)) || (x1 == 95) else x1 == 95))) u (by rw [hb3,hb4]; rfl)<|zN (gv kk [] d))<|fun hb3=>
  zA 10 u<|zJ (vb false)<|zA 1 u<|zF<|wN 28 (vb ((decide (0 < s1)) && (if decide (48 ≤ x1) then (decide (x1 ≤ 57)) || (x1 == 95) else x1 == 95))) u (by rw [hb3]; rfl)<|zN (gv kk [] d))<|fun _ k=>k<|zI u (zL<|qD<|
  qD<|zD<|zM<|zA 2 u<|zF<|qF (gv kk [] d))<|zB<|zA 1 u<|zC<|zK<|qV<|qV<|qC<|wX<|qV<|qC<|zS u u kk [] d)<|qM<|qL<|qO<|qN<|zD<|zB<|zA 1 u<|zC<|zK<|zS u u kk [] d
theorem zFk {qd : Prop} {y0 : zO} : qA qd prog 24 [.agg #[vb y0.1, vs y0.2]] [] [] (zB8 y0) fun r K=>K (vb r) [] [] :=
 qE call24 func24 u fun X=>zB<|qT .s u<|fun b1=>zA 1 u<|zC<|zB<|zU 1 u<|zV 0 u u u<|qI zGc u d<|fun r1 _ k=>k<|zA 1 u<|zC<|zK<|zS u u kk [] d
theorem zHk {qd : Prop} {y0 : Int} : qA qd prog 203 [vi y0] [] [] (zB0 y0) fun r K=>K (vb r) [] [] :=
 qE call203 func203 u fun X=>zB<|zA 1 u<|zC<|yW (fun K=>K [(2, vb ((decide (0 ≤ y0)) && (decide (y0 ≤ 9))))] [] []) (zM<|zA 3 u<|vY (b := decide (0 ≤ y0)) 5 u (fun hb1=>zA 2 u<|zJ (vb (decide (y0 ≤ 9)))<|zA 1 u<|zF<|
  wN 2 (vb ((decide (0 ≤ y0)) && (decide (y0 ≤ 9)))) u (by rw [hb1]; rfl)<|zN (gv kk [] d))<|fun hb1=>zA 2 u<|zJ (vb false)<|zA 1 u<|zF<|wN 2 (vb ((decide (0 ≤ y0)) && (decide (y0 ≤ 9)))) u (by rw [hb1]; rfl)<|
  zN (gv kk [] d))<|fun _ k=>k<|zK<|zS u u kk [] d
theorem zNY {qd : Prop} {y0 : wZ} : qA qd prog 204 [vs y0] [] [] (zHM y0) fun r K=>K (vb r) [] [] :=
 qE call204 func204 u fun X=>zB<|zA 1 u<|zC<|wA (fun s1 K=>K [(2, vb s1)] [] []) (zM<|zA 3 u<|wH 5 u (zA 2 u<|zJ (vb true)<|zA 1 u<|zF<|zN (gv kk [] d))<|zA 1 u<|qI zGc u d<|fun r1 _ k=>k<|zJ (vb r1)<|zA 1 u<|
  zF<|zN (gv kk [] d))<|fun s1 _ k=>k<|zK<|zS u u kk [] d
theorem zNC {qd : Prop} {y0 : vE} : qA qd prog 157 [.agg #[vb y0.1.1, vs y0.1.2, vi y0.2.1, vi y0.2.2.1, vs y0.2.2.2]] [] [] (zFQ y0) fun r K=>K (vi r) [] [] :=
 qE call157 func157 u fun X=>zB<|qT .s u<|fun b1=>zA 1 u<|zC<|jjo (fun s1 K=>K [(1, pt b1 0)] [bx b1 67 [vb y0.1.1, vs y0.1.2, vi y0.2.1, vi y0.2.2.1, vs y0.2.2.2]] []) (zB<|zU 2 u<|zV 0 u u u<|zC<|zQ<|
  wA (fun s2 K=>K [(1, pt b1 0), (4, vi y0.2.1), (5, vb s2)] [bx b1 67 [vb y0.1.1, vs y0.1.2, vi y0.2.1, vi y0.2.2.1, vs y0.2.2.2]] []) (zB<|zA 2 u<|zC<|zI u (zL<|zN (gv kk [0] d))<|zM<|zA 2 u<|zF<|
  zN (gv kk [0] d))<|fun s2 _ k=>k<|zI u (zB<|zU 3 u<|zV 0 u u u<|zA 1 u<|zC<|zI u (zB<|zA 1 u<|zC<|zK<|qV<|wX<|zS u u kk [] d)<|zL<|qD<|qF (gv kk [0] d))<|zB<|
  zA 2 u<|zC<|zI u (zB<|zU 3 u<|zV 0 u u u<|qI zHk u d<|fun r1 _ k=>k<|zA 1 u<|zC<|zI u (zB<|zA 1 u<|zC<|zK<|qV<|wX<|zS u u kk [] d)<|zL<|qD<|qF (gv kk [0] d))<|
  zB<|zA 1 u<|zC<|zK<|qV<|wX<|zS u u kk [] d)<|fun s1 _ k=>k<|zG<|wA (fun s3 K=>K [(26, vb s3)] [[]] []) (zM<|zU 0 u<|qK 0 2 u u u<|qI zFk u d<|fun r2 _ k=>k<|zA 2 u<|wH 21 u (
  zA 4 u<|zJ (vb true)<|zF<|zN (gv kk [900] d))<|zU 4 u<|zV 0 u u u<|qI zNY u d<|fun r3 _ k=>k<|zA 1 u<|zJ (vb (!r3))<|zF<|zN (gv kk [900] d))<|fun s3 _ k=>k<|zI u (zB<|
  zA 1 u<|zC<|zK<|qC<|zS u u kk [] d)<|zL<|zD<|zB<|zA 1 u<|zC<|zK<|zS u u kk [] d
theorem zME {qd : Prop} {y0 : zT} {y1 : vQ} : qA qd prog 161 [.agg #[sv p1 y0.1 c1, sv p2 y0.2.1 c2, sv p3 y0.2.2 c3], .agg #[vs y1.1, vi y1.2.1, vb y1.2.2.1, vs y1.2.2.2]] [] [Rl e_Premise p1 c1 y0.1, Rl e_Rule p2 c2 y0.2.1, Rl e_Promotion p3 c3 y0.2.2] (zDZ y0 y1) fun r K=>K (vi r) [] [] :=
 qE call161 func161 u fun X=>zB<|qT .s u<|fun b1=>qT .s u<|fun b2=>zA 1 u<|zC<|zG<|
  wA (fun s1 K=>K [(2, pt b1 0), (3, pt b2 0), (15, vb s1)] [bx b1 26 [sv p1 y0.1 c1, sv p2 y0.2.1 c2, sv p3 y0.2.2 c3], bx b2 75 [vs y1.1, vi y1.2.1, vb y1.2.2.1, vs y1.2.2.2]] [Rl e_Premise p1 c1 y0.1, Rl e_Rule p2 c2 y0.2.1, Rl e_Promotion p3 c3 y0.2.2]) (
  zM<|zU 1 u<|zV 1 u u u<|qI zHk u d<|fun r1 _ k=>k<|zA 2 u<|wH 10 u (zA 4 u<|zJ (vb true)<|zF<|zN (gv kk [0,1] ⟨gk 0,gk 1,gk 2,d⟩))<|zU 2 u<|qK 1 2 u u u<|
  qI zFk u d<|fun r2 _ k=>k<|zA 1 u<|zJ (vb (!r2))<|zF<|zN (gv kk [0,1] ⟨gk 0,gk 1,gk 2,d⟩))<|fun s1 _ k=>k<|zI u (zB<|zA 1 u<|zC<|zK<|qC<|zS u u kk [] d)<|zL<|zD<|zG<|zB<|
  qK 0 3 u u u<|zU 0 u<|zV 1 u u u<|qI zL2 u ⟨ck 0,ck 1,ck 2,d⟩<|fun r3 _ k=>k<|zA 1 u<|zC<|zQ<|zB<|zA 3 u<|zC<|zI u (zB<|zA 1 u<|zC<|zK<|qV<|qC<|zS u u kk [] d)<|zB<|
  zU 1 u<|zV 0 u u u<|zA 1 u<|qX 1 u u u<|fun x1 b3 o1=>zU 1 u<|qW false oB (gf (gs (gk 0))) u<|zA 1 u<|zC<|zI u (zB<|zA 1 u<|zC<|zK<|qV<|qC<|zS u u kk [] d)<|zL<|qD<|zD<|zB<|
  zA 1 u<|zC<|zK<|zS u u kk [] d
theorem zJZ {qd : Prop} {y0 : wZ} : qA qd prog 258 [vs y0] [] [] (zCy y0) fun r K=>K (vb r) [] [] :=
 qE call258 func258 u fun X=>zB<|zA 1 u<|zC<|zB<|zA 4 u<|zC<|zK<|zS u u kk [] d
theorem zLy {qd : Prop} {y0 : wZ} {y1 : wZ} : qA qd prog 230 [vs y0, vs y1] [] [] (zD2 y0 y1) fun r K=>K (vi r) [] [] :=
 qE call230 func230 u fun X=>zB<|zA 1 u<|zC<|zB<|zA 1 u<|qI zJZ u d<|fun r1 _ k=>k<|zA 1 u<|zC<|zB<|zA 1 u<|qI zJZ u d<|fun r2 _ k=>k<|zA 1 u<|zC<|zG<|zB<|zA 1 u<|zC<|zI u (zG<|zB<|zA 1 u<|zC<|
  zI u (zB<|zA 1 u<|zC<|zK<|qC<|qC<|zS u u kk [] d)<|zL<|zD<|zB<|zA 1 u<|zC<|zK<|qC<|zS u u kk [] d)<|zL<|zD<|zG<|zB<|zA 1 u<|zC<|zI u (zB<|zA 1 u<|zC<|zK<|qC<|
  zS u u kk [] d)<|zL<|zD<|zG<|zB<|zA 3 u<|zC<|zI u (zB<|zA 1 u<|zC<|zK<|qC<|zS u u kk [] d)<|zL<|zD<|zG<|zB<|zA 3 u<|zC<|zI u (zB<|zA 1 u<|zC<|zK<|qC<|
  zS u u kk [] d)<|zL<|zD<|zB<|zA 1 u<|zC<|zK<|zS u u kk [] d
theorem zKA {qd : Prop} {y0 : zO} {y1 : zO} : qA qd prog 182 [.agg #[vb y0.1, vs y0.2], .agg #[vb y1.1, vs y1.2]] [] [] (zAn y0 y1) fun r K=>K (vi r) [] [] :=
 qE call182 func182 u fun X=>zB<|qT .s u<|fun b1=>qT .s u<|fun b2=>zA 1 u<|zC<|zG<|zB<|zU 1 u<|zV 0 u u u<|zU 1 u<|zV 1 u u u<|qI zLy rfl d<|fun r1 _ k=>k<|zA 1 u<|zC<|
  yW (fun K=>K [(3, pt b2 0), (5, vi r1), (19, vb ((r1 != 0) || (y0.1 == y1.1)))] [[], bx b2 30 [vb y1.1, vs y1.2]] []) (zM<|zA 3 u<|vY (b := r1 != 0) 13 u (fun hb1=>zA 5 u<|zJ (vb true)<|zF<|
  wN 19 (vb ((r1 != 0) || (y0.1 == y1.1))) u (by rw [hb1]; rfl)<|zN (gv kk [900,1] d))<|fun hb1=>zU 0 u<|zV 0 u u u<|zU 0 u<|zV 1 u u u<|zJ (vb (y0.1 == y1.1))<|zJ (vb (y0.1 == y1.1))<|zF<|
  wN 19 (vb ((r1 != 0) || (y0.1 == y1.1))) u (by rw [hb1]; rfl)<|zN (gv kk [900,1] d))<|fun _ k=>k<|zI u (zB<|zA 2 u<|zC<|zK<|qC<|zS u u kk [] d)<|zL<|zD<|zG<|zB<|zU 0 u<|zV 1 u u u<|
  zC<|zI u (zB<|zA 1 u<|zC<|zK<|qC<|zS u u kk [] d)<|zL<|zD<|zB<|zA 1 u<|zC<|zK<|zS u u kk [] d
theorem zPC {qd : Prop} {y0 : wD} : qA qd prog 159 [.agg #[vs y0.1, vb y0.2.1, vi y0.2.2.1, sv p1 y0.2.2.2.1 c1, vb y0.2.2.2.2.1, vs y0.2.2.2.2.2]] [] [Rl e_Literal p1 c1 y0.2.2.2.1] (zHK y0) fun r K=>K (vi r) [] [] :=
 qE call159 func159 u fun X=>zB<|qT .s u<|fun b1=>zA 1 u<|zC<|zG<|zB<|zU 3 u<|zV 0 u u u<|zA 2 u<|zC<|zI u (zB<|zA 1 u<|zC<|zK<|qC<|zS u u kk [] d)<|zL<|zD<|zG<|
  wA (fun s1 K=>K [(1, pt b1 0), (34, vb s1)] [bx b1 73 [vs y0.1, vb y0.2.1, vi y0.2.2.1, sv p1 y0.2.2.2.1 c1, vb y0.2.2.2.2.1, vs y0.2.2.2.2.2]] [Rl e_Literal p1 c1 y0.2.2.2.1]) (zM<|zU 0 u<|zV 0 u u u<|
  qI zGc u d<|fun r1 _ k=>k<|zA 2 u<|wH 14 u (zA 4 u<|zJ (vb true)<|zA 5 u<|zJ (vb true)<|zA 8 u<|zJ (vb true)<|zF<|zN (gv kk [0] ⟨gk 0,d⟩))<|zU 4 u<|qK 0 2 u u u<|
  qI zFk u d<|fun r2 _ k=>k<|zA 1 u<|zJ (vb (!r2))<|zA 1 u<|wH 20 u (zA 4 u<|zJ (vb true)<|zA 8 u<|zJ (vb true)<|zF<|zN (gv kk [0] ⟨gk 0,d⟩))<|zU 2 u<|zV 0 u u u<|
  qI zHk u d<|fun r3 _ k=>k<|zA 1 u<|zJ (vb (!r3))<|zA 1 u<|wH 26 u (zA 7 u<|zJ (vb true)<|zF<|zN (gv kk [0] ⟨gk 0,d⟩))<|zU 1 u<|zV 0 u u u<|zA 1 u<|wH 29 u (zU 2 u<|
  zV 0 u u u<|zA 1 u<|zJ (vb (y0.2.2.1 != 0))<|zJ (vb (y0.2.2.1 != 0))<|zF<|zN (gv kk [0] ⟨gk 0,d⟩))<|zA 3 u<|zJ (vb false)<|zJ (vb false)<|zF<|zN (gv kk [0] ⟨gk 0,d⟩))<|fun s1 _ k=>k<|zI u (zB<|
  zA 1 u<|zC<|zK<|qC<|zS u u kk [] d)<|zL<|zD<|jjo (fun s2 K=>K [(1, pt b1 0)] [bx b1 73 [vs y0.1, vb y0.2.1, vi y0.2.2.1, sv p1 y0.2.2.2.1 c1, vb y0.2.2.2.2.1, vs y0.2.2.2.2.2]] [Rl e_Literal p1 c1 y0.2.2.2.1]) (zB<|
  zU 3 u<|zV 0 u u u<|zA 2 u<|zC<|zQ<|
  qP (fun s3 K=>K [(1, pt b1 0), (36, sv p1 y0.2.2.2.1 c1), (37, vi (len y0.2.2.2.1)), (38, vi s3)] [bx b1 73 [vs y0.1, vb y0.2.1, vi y0.2.2.1, sv p1 y0.2.2.2.1 c1, vb y0.2.2.2.2.1, vs y0.2.2.2.2.2]] [Rl e_Literal p1 c1 y0.2.2.2.1]) (gv kk [0] ⟨gk 0,d⟩)<|
  fun s3 _ k=>k<|zB<|zA 1 u<|zC<|zG<|zI u (zL<|zD<|zG<|zQ<|zB<|qX 0 u u u<|fun x1 b2 o1=>qW true yM (gk 0) u<|wL .s (.agg #[vb false, vs []])<|fun b3=>qU .s 1 u u u<|zC<|zB<|qK 1 2 u u u<|
  qI zFk u d<|fun r4 _ k=>k<|zA 1 u<|zC<|zI u (zB<|zA 1 u<|zC<|zK<|qV<|qC<|wX<|qV<|wX<|zS u u kk [] d)<|zL<|qD<|zD<|zM<|zA 2 u<|zF<|qF (gv kk [0] ⟨gk 1,d⟩))<|qM<|qL<|
  qO<|qN<|qF (gv kk [0] ⟨gk 0,d⟩))<|fun s2 _ k=>k<|zG<|zB<|zA 1 u<|zC<|zQ<|
  qP (fun s4 K=>K [(1, pt b1 0), (5, vi s4)] [bx b1 73 [vs y0.1, vb y0.2.1, vi y0.2.2.1, sv p1 y0.2.2.2.1 c1, vb y0.2.2.2.2.1, vs y0.2.2.2.2.2]] [Rl e_Literal p1 c1 y0.2.2.2.1]) (gv kk [0] ⟨gk 0,d⟩)<|fun s4 _ k=>k<|zG<|zB<|
  zA 1 u<|zU 3 u<|zV 0 u u u<|zA 2 u<|zC<|zI u (zL<|zD<|zG<|zQ<|yK [] [0] 13<|qQ 0 3 u u<|qZ 1 0 u u u u<|zX 9 [2,3] u<|vJ 4 0 u u u u<|fun x2 b4 o2=>vH 5 true yM u (gk 0) u<|
  qQ 6 3 u u<|qZ 7 0 u u u u<|zX 4 [8] u<|vJ 9 1 u u u u<|fun x3 b5 o3=>vH 10 true yM u (gk 0) u<|qG 11<|qH (.f u) [] [] zKA u u u d<|fun r5 _ k=>k<|zZ<|zX 0 [12] u<|qS<|
  zD<|zI u (zB<|zA 1 u<|zC<|zK<|qV<|qC<|wX<|qV<|qC<|zS u u kk [] d)<|zL<|qD<|zD<|zM<|zA 3 u<|zF<|qF (gv kk [0] ⟨gk 2,d⟩))<|qM<|qL<|qO<|qN<|zD<|zB<|zA 1 u<|zC<|zK<|
  zS u u kk [] d
theorem zM7 {qd : Prop} {y0 : zT} : qA qd prog 102 [.agg #[sv p1 y0.1 c1, sv p2 y0.2.1 c2, sv p3 y0.2.2 c3]] [] [Rl e_Premise p1 c1 y0.1, Rl e_Rule p2 c2 y0.2.1, Rl e_Promotion p3 c3 y0.2.2] (zC2 y0) fun r K=>K (vi r) [] [] :=
 qE call102 func102 u fun X=>zB<|qT .s u<|fun b1=>zA 1 u<|zC<|zG<|
  yW (fun K=>K [(1, pt b1 0), (27, vb ((decide (16 < (len y0.1))) || ((decide (24 < (len y0.2.1))) || (decide (8 < (len y0.2.2))))))] [bx b1 26 [sv p1 y0.1 c1, sv p2 y0.2.1 c2, sv p3 y0.2.2 c3]] [Rl e_Premise p1 c1 y0.1, Rl e_Rule p2 c2 y0.2.1, Rl e_Promotion p3 c3 y0.2.2]) (
  zM<|zU 0 u<|zV 0 u u u<|zA 3 u<|vY (b := decide (16 < (len y0.1))) 16 u (fun hb1=>zA 4 u<|zJ (vb true)<|zA 5 u<|zJ (vb true)<|zF<|
  wN 27 (vb ((decide (16 < (len y0.1))) || ((decide (24 < (len y0.2.1))) || (decide (8 < (len y0.2.2)))))) u (by rw [hb1]; rfl)<|zN (gv kk [0] ⟨gk 0,gk 1,gk 2,d⟩))<|fun hb1=>zU 1 u<|zV 0 u u u<|zA 2 u<|
  zJ (vb (decide (24 < (len y0.2.1))))<|zA 1 u<|vY (b := decide (24 < (len y0.2.1))) 22 u (fun hb2=>zA 4 u<|zJ (vb true)<|zF<|
  wN 27 (vb ((decide (16 < (len y0.1))) || ((decide (24 < (len y0.2.1))) || (decide (8 < (len y0.2.2)))))) u (by rw [hb1,hb2]; rfl)<|zN (gv kk [0] ⟨gk 0,gk 1,gk 2,d⟩))<|fun hb2=>zU 2 u<|zV 0 u u u<|zA 2 u<|
  zJ (vb (decide (8 < (len y0.2.2))))<|zF<|wN 27 (vb ((decide (16 < (len y0.1))) || ((decide (24 < (len y0.2.1))) || (decide (8 < (len y0.2.2)))))) u (by rw [hb1,hb2]; rfl)<|zN (gv kk [0] ⟨gk 0,gk 1,gk 2,d⟩))<|fun _ k=>k<|
  zI u (zB<|zA 1 u<|zC<|zK<|qC<|zS u u kk [] d)<|zL<|zD<|
  jjo (fun s1 K=>K [(1, pt b1 0)] [bx b1 26 [sv p1 y0.1 c1, sv p2 y0.2.1 c2, sv p3 y0.2.2 c3]] [Rl e_Premise p1 c1 y0.1, Rl e_Rule p2 c2 y0.2.1, Rl e_Promotion p3 c3 y0.2.2]) (zB<|zU 0 u<|zV 0 u u u<|zA 2 u<|zC<|zQ<|
  qP (fun s2 K=>K [(1, pt b1 0), (29, sv p1 y0.1 c1), (30, vi (len y0.1)), (31, vi s2)] [bx b1 26 [sv p1 y0.1 c1, sv p2 y0.2.1 c2, sv p3 y0.2.2 c3]] [Rl e_Premise p1 c1 y0.1, Rl e_Rule p2 c2 y0.2.1, Rl e_Promotion p3 c3 y0.2.2]) (gv kk [0] ⟨gk 0,gk 1,gk 2,d⟩)<|
  fun s2 _ k=>k<|zB<|zA 1 u<|zC<|zG<|zI u (zL<|zD<|zG<|zQ<|zB<|zA 1 u<|qX 0 u u u<|fun x1 b2 o1=>qW true zIV (gk 0) u<|wL .s (.agg #[vb false, vs [], vi 0, vi 0, vs []])<|fun b3=>zA 1 u<|
  qU .s 1 u u u<|zC<|zG<|zB<|qK 1 5 u u u<|qI zNC u d<|fun r1 _ k=>k<|zA 1 u<|zC<|zB<|zA 2 u<|zC<|zI u (zB<|zA 2 u<|zC<|zK<|qC<|qV<|qC<|wX<|qV<|wX<|zS u u kk [] d)<|
  zL<|zD<|zB<|qK 0 3 u u u<|zU 0 u<|qK 1 2 u u u<|qI zNV u ⟨ck 1,ck 2,ck 3,d⟩<|fun r2 _ k=>k<|zA 2 u<|zC<|zI u (zB<|zA 1 u<|zC<|zK<|qV<|qC<|wX<|qV<|wX<|zS u u kk [] d)<|
  zL<|qD<|zD<|zM<|zA 2 u<|zF<|qF (gv kk [0] ⟨gk 1,gk 2,gk 3,d⟩))<|qM<|qL<|qO<|qN<|qF (gv kk [0] ⟨gk 0,gk 1,gk 2,d⟩))<|fun s1 _ k=>k<|
  jjo (fun s3 K=>K [(1, pt b1 0)] [bx b1 26 [sv p1 y0.1 c1, sv p2 y0.2.1 c2, sv p3 y0.2.2 c3]] [Rl e_Premise p1 c1 y0.1, Rl e_Rule p2 c2 y0.2.1, Rl e_Promotion p3 c3 y0.2.2]) (zB<|zU 1 u<|zV 0 u u u<|zA 2 u<|zC<|zQ<|
  qP (fun s4 K=>K [(1, pt b1 0), (49, sv p2 y0.2.1 c2), (50, vi (len y0.2.1)), (51, vi s4)] [bx b1 26 [sv p1 y0.1 c1, sv p2 y0.2.1 c2, sv p3 y0.2.2 c3]] [Rl e_Rule p2 c2 y0.2.1, Rl e_Premise p1 c1 y0.1, Rl e_Promotion p3 c3 y0.2.2]) (gv kk [0] ⟨gk 1,gk 0,gk 2,d⟩)<|
  fun s4 _ k=>k<|zB<|zA 1 u<|zC<|zG<|zI u (zL<|zD<|zG<|zQ<|zB<|zA 1 u<|qX 0 u u u<|fun x2 b4 o2=>qW true zMN (gk 0) u<|fun p4 c4=>wL .s (.agg #[vs [], vb false, vi 0, .slice none 0 0, vb false, vs []])<|fun b5=>
  zA 1 u<|qU .s 1 u u u<|zC<|zG<|zB<|qK 1 6 u u u<|qI zPC u ⟨ck 0,d⟩<|fun r3 _ k=>k<|zA 1 u<|zC<|zB<|zA 2 u<|zC<|zI u (zB<|zA 2 u<|zC<|zK<|qC<|qV<|qC<|wX<|qV<|wX<|
  zS u u kk [] d)<|zL<|zD<|zB<|qK 0 3 u u u<|zU 0 u<|zV 1 u u u<|qI zL2 u ⟨ck 3,ck 2,ck 4,d⟩<|fun r4 _ k=>k<|zA 2 u<|zC<|zI u (zB<|zA 1 u<|zC<|zK<|qV<|qC<|wX<|qV<|wX<|
  zS u u kk [] d)<|zL<|qD<|zD<|zM<|zA 2 u<|zF<|qF (gv kk [0] ⟨gk 2,gk 3,gk 4,d⟩))<|qM<|qL<|qO<|qN<|qF (gv kk [0] ⟨gk 1,gk 0,gk 2,d⟩))<|fun s3 _ k=>k<|zG<|zB<|zU 2 u<|zV 0 u u u<|
  zA 2 u<|zC<|zQ<|
  qP (fun s5 K=>K [(1, pt b1 0), (69, sv p3 y0.2.2 c3), (70, vi (len y0.2.2)), (71, vi s5)] [bx b1 26 [sv p1 y0.1 c1, sv p2 y0.2.1 c2, sv p3 y0.2.2 c3]] [Rl e_Promotion p3 c3 y0.2.2, Rl e_Premise p1 c1 y0.1, Rl e_Rule p2 c2 y0.2.1]) (gv kk [0] ⟨gk 2,gk 0,gk 1,d⟩)<|
  fun s5 _ k=>k<|zB<|zA 1 u<|zC<|zG<|zI u (zL<|zD<|zG<|zQ<|zB<|qX 0 u u u<|fun x3 b6 o3=>qW true zKP (gk 0) u<|wL .s (.agg #[vs [], vi 0, vb false, vs []])<|fun b7=>qU .s 1 u u u<|zC<|zB<|
  qK 0 3 u u u<|qK 1 4 u u u<|qI zME u ⟨ck 2,ck 3,ck 1,d⟩<|fun r5 _ k=>k<|zA 1 u<|zC<|zB<|zA 2 u<|zC<|zI u (zB<|zA 2 u<|zC<|zK<|qV<|qC<|wX<|qV<|qC<|zS u u kk [] d)<|
  zL<|qD<|zD<|zM<|zA 2 u<|zF<|qF (gv kk [0] ⟨gk 1,gk 2,gk 3,d⟩))<|qM<|qL<|qO<|qN<|zD<|zB<|zA 1 u<|zC<|zK<|zS u u kk [] d
theorem zOF {qd : Prop} {y0 : zT} : qA qd prog 61 [.agg #[sv p1 y0.1 c1, sv p2 y0.2.1 c2, sv p3 y0.2.2 c3]] [] [Rl e_Premise p1 c1 y0.1, Rl e_Rule p2 c2 y0.2.1, Rl e_Promotion p3 c3 y0.2.2] (zCo y0) fun r K=>∀ p4 c4,K (.tuple #[sv p4 r.1 c4, vi r.2]) [] [Rl qR p4 c4 r.1] :=
 qE call61 func61 u fun X=>zB<|qT .s u<|fun b1=>zA 2 u<|zC<|jcs<|zG<|zB<|qK 0 3 u u u<|qI zM7 u ⟨ck 0,ck 1,ck 2,d⟩<|fun r1 _ k=>k<|zA 1 u<|zC<|zB<|zA 2 u<|zC<|zI u (zB<|zA 3 u<|zC<|zK<|qC<|jcr<|
  wR u (lT u (lT u lN)) (fun _ k=>k none 0) [] ⟨gn,d⟩)<|zL<|zD<|zB<|qK 0 3 u u u<|zJ (.agg #[sv p1 y0.1 c1, sv p2 y0.2.1 c2, sv p3 y0.2.2 c3, .slice none 0 0, .slice none 0 0, vi 0])<|vD qR 94<|qT .s u<|
  fun b2=>zA 1 u<|zC<|
  wA (fun s1 K=>∀ p4 c4 r_1,K [(1, pt b1 0), (5, pt b2 0)] [bx b1 26 [sv p1 y0.1 c1, sv p2 y0.2.1 c2, sv p3 y0.2.2 c3], r_1, bx b2 143 [sv p1 y0.1 c1, sv p2 y0.2.1 c2, sv p3 y0.2.2 c3, sv p4 s1 c4, .slice none 0 0, vi 0]] [Al qR 94 r_1 p4 c4 s1, Rl e_Premise p1 c1 y0.1, Rl e_Rule p2 c2 y0.2.1, Rl e_Promotion p3 c3 y0.2.2]) (
  zB<|zU 0 u<|zV 0 u u u<|zA 2 u<|zC<|zQ<|
  qP (fun s2 K=>∀ p5 c5 r_2,K [(1, pt b1 0), (5, pt b2 0), (20, sv p1 y0.1 c1), (21, vi (len y0.1)), (22, vi s2.1)] [bx b1 26 [sv p1 y0.1 c1, sv p2 y0.2.1 c2, sv p3 y0.2.2 c3], r_2, bx b2 143 [sv p1 y0.1 c1, sv p2 y0.2.1 c2, sv p3 y0.2.2 c3, sv p5 s2.2 c5, .slice none 0 0, vi 0]] [Al qR 94 r_2 p5 c5 s2.2, Rl e_Premise p1 c1 y0.1, Rl e_Rule p2 c2 y0.2.1, Rl e_Promotion p3 c3 y0.2.2]) (gv (fun _ k=>k none 0 []) [0,1,2] ⟨gk 0,gk 1,gk 2,gk 3,d⟩)<|
  fun s2 _ k p5 c5 r_2=>k<|zB<|zA 1 u<|zC<|zG<|zI u (zL<|zD<|zG<|zQ<|zB<|zA 1 u<|qX 1 u u u<|fun x1 b3 o1=>qW true zIV (gk 0) u<|wL .s (.agg #[vb false, vs [], vi 0, vi 0, vs []])<|fun b4=>zA 1 u<|
  qU .s 3 u u u<|zC<|yN [13] [2, 3] 14<|zX 11 [0,1,2] u<|qQ 3 3 u u<|qZ 4 2 u u u u<|zX 8 [5] u<|qQ 6 0 u u<|vM 7 3 2 u u u u<|
  wC 8 (.agg #[vi s2.1, vi (-1), .slice none 0 0, vb x1.1.1, vs x1.1.2]) u<|qG 9<|
  wV (.f u) (e := qR) 94 [vi s2.1, vi (-1), .slice none 0 0, vb x1.1.1, vs x1.1.2] ([(s2.1, (-1), ([] : List Int), x1.1)] : List zP) (rC (vP vI (vP vI (vP (vL gn) (vP vB vS)))) rN)<|fun p6 c6=>zZ<|qG 10<|
  wM (.f u) 1 2 u (gk 0) u u<|fun x2 r_3 p7 c7=>zZ<|zX 2 [11] u<|qQ 12 3 u u<|qG 13<|qU (o := 3) (.f u) 2 u u u<|jdb [] [2, 3]<|qS<|qD<|zD<|zM<|zA 2 u<|zF<|
  qF (gv (fun _ k=>k p7 c7 r_3) [0,1,2] ⟨gk 0,gk 4,gk 5,gk 6,d⟩))<|qM<|qL<|qO<|qN<|zN (gv (fun _ k=>k p5 c5 r_2) [0,1,2] ⟨gk 0,gk 1,gk 2,gk 3,d⟩))<|fun s1 _ k p4 c4 r_1=>k<|zG<|jlb<|zD<|
  wA (fun s3 K=>∀ p8 c8 r_4 p9 c9 r_5,K [(5, pt b2 0)] [[], r_4, bx b2 143 [sv p1 y0.1 c1, sv p2 y0.2.1 c2, sv p3 y0.2.2 c3, sv p8 s3.1 c8, sv p9 s3.2.1 c9, vi s3.2.2], r_5] [Al qR 94 r_4 p8 c8 s3.1, Al qR 94 r_5 p9 c9 s3.2.1, Rl e_Premise p1 c1 y0.1, Rl e_Rule p2 c2 y0.2.1, Rl e_Promotion p3 c3 y0.2.2]) (
  zB<|zA 1 u<|zC<|zQ<|
  qP (fun s4 K=>∀ p10 c10 r_6 p11 c11,K [(1, pt b1 0), (5, pt b2 0), (8, vi s4.1)] [bx b1 26 [sv p1 y0.1 c1, sv p2 y0.2.1 c2, sv p3 y0.2.2 c3], r_6, bx b2 143 [sv p1 y0.1 c1, sv p2 y0.2.1 c2, sv p3 y0.2.2 c3, sv p10 s4.2.1 c10, sv p11 s4.2.2.1 c11, vi s4.2.2.2]] [Al qR 94 r_6 p10 c10 s4.2.1, Rl qR p11 c11 s4.2.2.1, Rl e_Premise p1 c1 y0.1, Rl e_Rule p2 c2 y0.2.1, Rl e_Promotion p3 c3 y0.2.2]) (gv (fun _ k=>k p4 c4 r_1 none 0) [0,1,2] ⟨gk 0,gn,gk 1,gk 2,gk 3,d⟩)<|
  fun s4 _ k p10 c10 r_6 p11 c11=>k<|zG<|zQ<|zB<|zA 2 u<|zU 4 u<|vD qR 94<|qU .s 2 u u u<|zC<|
  jjo (fun s5 K=>∀ p12 c12 r_7,K [(1, pt b1 0), (5, pt b2 0), (8, vi s4.1)] [bx b1 26 [sv p1 y0.1 c1, sv p2 y0.2.1 c2, sv p3 y0.2.2 c3], r_6, bx b2 143 [sv p1 y0.1 c1, sv p2 y0.2.1 c2, sv p3 y0.2.2 c3, sv p10 s4.2.1 c10, sv p12 s5 c12, vi s4.2.2.2], r_7] [Al qR 94 r_7 p12 c12 s5, Rl e_Premise p1 c1 y0.1, Rl e_Rule p2 c2 y0.2.1, Rl e_Promotion p3 c3 y0.2.2, Al qR 94 r_6 p10 c10 s4.2.1]) (
  zB<|zU 1 u<|zV 0 u u u<|zA 2 u<|zC<|zQ<|
  qP (fun s6 K=>∀ p13 c13 r_8,K [(1, pt b1 0), (5, pt b2 0), (8, vi s4.1), (47, sv p2 y0.2.1 c2), (48, vi (len y0.2.1)), (49, vi s6.1)] [bx b1 26 [sv p1 y0.1 c1, sv p2 y0.2.1 c2, sv p3 y0.2.2 c3], r_6, bx b2 143 [sv p1 y0.1 c1, sv p2 y0.2.1 c2, sv p3 y0.2.2 c3, sv p10 s4.2.1 c10, sv p13 s6.2 c13, vi s4.2.2.2], r_8] [Al qR 94 r_8 p13 c13 s6.2, Rl e_Rule p2 c2 y0.2.1, Rl e_Premise p1 c1 y0.1, Rl e_Promotion p3 c3 y0.2.2, Al qR 94 r_6 p10 c10 s4.2.1]) (gv (fun _ k=>k none 0 []) [0,1,2,3] ⟨gk 0,gk 4,gk 3,gk 5,gk 1,d⟩)<|
  fun s6 _ k p13 c13 r_8=>k<|zB<|zA 1 u<|zC<|zG<|zI u (zL<|zD<|zG<|zQ<|zB<|zA 1 u<|qX 1 u u u<|fun x3 b5 o2=>qW true zMN (gk 0) u<|fun p14 c14=>
  wL .s (.agg #[vs [], vb false, vi 0, .slice none 0 0, vb false, vs []])<|fun b6=>zA 1 u<|qU .s 4 u u u<|zC<|
  wA (fun s7 K=>∀ p15 c15 r_9,K [(1, pt b1 0), (5, pt b2 0), (8, vi s4.1), (47, sv p2 y0.2.1 c2), (48, vi (len y0.2.1)), (49, vi s6.1)] [bx b1 26 [sv p1 y0.1 c1, sv p2 y0.2.1 c2, sv p3 y0.2.2 c3], r_6, bx b2 143 [sv p1 y0.1 c1, sv p2 y0.2.1 c2, sv p3 y0.2.2 c3, sv p10 s4.2.1 c10, sv p15 s7 c15, vi s4.2.2.2], r_9, []] [Al qR 94 r_9 p15 c15 s7, Rl e_Rule p2 c2 y0.2.1, Rl e_Premise p1 c1 y0.1, Rl e_Promotion p3 c3 y0.2.2, Al qR 94 r_6 p10 c10 s4.2.1]) (
  zB<|zU 3 u<|zV 4 u u u<|zA 2 u<|zC<|zI u (zM<|zA 2 u<|qH .s [2, 1, 3] [] zJR u u u ⟨ck 4,ck 3,ck 5,ck 6,ck 2,cn,d⟩<|fun r2 _ k p16 c16 r_10=>k<|zF<|
  zN (gv (fun _ k=>k p16 c16 r_10) [0,1,2,3,904] ⟨gk 0,gk 4,gk 5,gk 6,gk 7,d⟩))<|zB<|zA 2 u<|zC<|zI u (yN [13] [2, 4] 14<|zX 11 [0,1,2] u<|qQ 3 4 u u<|qZ 4 2 u u u u<|zX 8 [5] u<|qQ 6 4 u u<|
  vM 7 4 2 u u u u<|wC 8 (.agg #[vi (-1), vi s6.1, .slice none 0 0, vb x3.2.2.2.2.1, vs x3.2.2.2.2.2]) u<|qG 9<|
  wV (.f u) (e := qR) 94 [vi (-1), vi s6.1, .slice none 0 0, vb x3.2.2.2.2.1, vs x3.2.2.2.2.2] ([((-1), s6.1, ([] : List Int), x3.2.2.2.2)] : List zP) (rC (vP vI (vP vI (vP (vL gn) (vP vB vS)))) rN)<|fun p17 c17=>zZ<|
  qG 10<|wM (.f u) 3 3 u (gk 0) u u<|fun x4 r_11 p18 c18=>zZ<|zX 2 [11] u<|qQ 12 4 u u<|qG 13<|qU (o := 4) (.f u) 2 u u u<|jdb [] [2, 4]<|qS<|
  zN (gv (fun _ k=>k p18 c18 r_11) [0,1,2,3,904] ⟨gk 0,gk 5,gk 6,gk 7,gk 8,d⟩))<|zL<|zN (gv (fun _ k=>k p13 c13 r_8) [0,1,2,3,904] ⟨gk 2,gk 3,gk 4,gk 5,gk 6,d⟩))<|fun s7 _ k p15 c15 r_9=>k<|zB<|zA 1 u<|
  qH .s [2] [1, 3] zER u u u ⟨ck 2,ck 1,ck 3,cl 1 4,cl 3 0,d⟩<|fun r3 _ k=>k<|zC<|zI u (qM<|jbm<|qL<|qO<|jbm<|qO<|jbm<|qL<|qO<|qN<|
  zN (gv (fun _ k=>k p10 c10 r_6 p15 c15 r_9) [900,1,2,3] ⟨gk 4,gk 0,gk 2,gk 1,gk 3,d⟩))<|zL<|qD<|zD<|zM<|zA 2 u<|zF<|qF (gv (fun _ k=>k p15 c15 r_9) [0,1,2,3] ⟨gk 0,gk 1,gk 2,gk 3,gk 4,d⟩))<|qM<|qL<|qO<|qN<|
  qF (gv (fun _ k=>k p13 c13 r_8) [0,1,2,3] ⟨gk 0,gk 2,gk 1,gk 3,gk 4,d⟩))<|fun s5 _ k p12 c12 r_7=>k<|zG<|zB<|zA 2 u<|zU 4 u<|zV 2 u u u<|zA 2 u<|zC<|zI u (qM<|qL<|jbm<|qL<|qO<|qN<|
  zN (gv (fun _ k=>k p10 c10 r_6 p12 c12 r_7) [900,1,2,3] ⟨gk 4,gk 0,gk 1,gk 2,gk 3,d⟩))<|zL<|zD<|zB<|zA 3 u<|zU 3 u<|zV 2 u u u<|zA 2 u<|zU 5 u<|qU .s 2 u u u<|zC<|yN [12] [2] 13<|zX 10 [0,1,2] u<|
  qQ 3 3 u u<|qZ 4 2 u u u u<|zX 6 [5,6] u<|qQ 7 4 u u<|qZ 8 2 u u u u<|qG 9<|jao (.f u) 1 3 4 0 u u u u<|fun x5 r_12 p19 c19=>zZ<|zX 2 [10] u<|qQ 11 3 u u<|qG 12<|
  qU (o := 3) (.f u) 2 u u u<|jdb [] [2]<|qS<|qD<|zD<|zM<|zA 3 u<|zF<|wS 3 1 u u<|qF (gv (fun _ k=>k p19 c19 r_12 p12 c12) [0,1,2] ⟨gk 1,gk 0,gk 3,gk 4,gk 5,d⟩))<|fun s3 _ k p8 c8 r_4 p9 c9 r_5=>k<|zG<|zB<|
  zA 1 u<|qH .s [2] [1, 3] zER u u u ⟨ck 2,ck 3,ck 4,cl 1 0,cl 3 1,d⟩<|fun r4 _ k=>k<|zC<|zI u (zB<|zA 2 u<|zC<|zK<|qC<|jcr<|wR u (lT u (lT u lN)) (fun _ k=>k none 0) [] ⟨gn,d⟩)<|zL<|zD<|
  zB<|zA 2 u<|zU 3 u<|zV 2 u u u<|zA 2 u<|zC<|zK<|jcr<|wS 1 0 u u<|wR u (lT u (lT u lN)) (fun _ k=>k p8 c8) [] ⟨gk 0,d⟩
theorem zHf {qd : Prop} {y0 : List zO} : qA qd prog 119 [sv p1 y0 c1] [] [Rl e_Literal p1 c1 y0] (zBV y0) fun r K=>∀ p2 c2 r_1,K (sv p2 r c2) [r_1] [Al e_Literal 30 r_1 p2 c2 r] :=
 qE call119 func119 u fun X=>zB<|zA 1 u<|zC<|zG<|zB<|zA 1 u<|jv (fun h=>zVk h u underlying69)<|zC<|jnl (m1 := some ([] : List zO)) u (gk 0) (fun h=>by first|(rw [h];done)|(rw [h];rfl)|(simp [h,wJ];done)) (zB<|zA 1 u<|zC<|zK<|qC<|
  vD e_Literal 30<|jrE 0 2 u u<|zS u u (fun _ k=>k none 0 []) [0] ⟨gk 0,d⟩)<|zL<|zD<|zB<|uY .s (e := e_Literal) 30 [] ([] : List zO) rN<|fun r_1 p2 c2=>zA 1 u<|wM .s 0 0 u (gk 1) u u<|fun x1 r_2 p3 c3=>
  zA 1 u<|zC<|zK<|zS u u (fun _ k=>k p3 c3 r_2) [0] ⟨gk 0,d⟩
theorem zJq {qd : Prop} {y0 : List zO} : qA qd prog 183 [sv p1 y0 c1] [r_1] [Al e_Literal 30 r_1 p1 c1 y0] (zBj y0) fun r K=>∀ p2 c2 r_2,K (sv p2 r c2) [[], r_2] [Al e_Literal 30 r_2 p2 c2 r] :=
 qE call183 func183 u fun X=>zB<|zA 1 u<|zC<|zG<|zB<|zA 3 u<|zC<|zI u (zB<|zA 2 u<|zC<|zK<|qC<|zS u u (fun _ k=>k p1 c1 r_1) [900,0] ⟨gk 0,d⟩)<|zL<|zD<|zG<|zB<|zA 1 u<|zC<|zQ<|
  qP (fun s1 K=>K [(0, sv p1 y0 c1), (3, vi s1)] [r_1] [Al e_Literal 30 r_1 p1 c1 y0]) (gv kk [0] ⟨gk 0,d⟩)<|fun s1 _ k=>k<|zG<|zB<|zA 4 u<|zC<|zI u (zL<|zD<|zG<|zQ<|yK [] [0] 10<|zX 8 [0,1] u<|
  xW 2 0 u u u u<|fun x1 h1 b1 hp1=>xU 3 0 0 sI true yM u u hp1 h1 u<|zX 3 [4,5,6] u<|xW 7 0 u u u u<|fun x2 h2 b2 hp2=>xU 8 0 0 sI true yM u u hp2 h2 u<|wC 9 (vb (x1 == x2)) u<|qS<|zD<|
  zI u (zB<|zA 2 u<|jsV 0 u u u<|fun u1 p2 c2 f1=>zA 1 u<|zC<|wA (fun s2 K=>∀ r_2,K [(0, .slice p1 (List.length y0) c1), (3, vi s2.2)] [r_2] [Ar e_Literal 30 r_2 p1 c1 (List.length y0) s2.1]) (zB<|zA 1 u<|zC<|zQ<|
  qP (fun s3 K=>∀ r_3,K [(0, .slice p1 (List.length y0) c1), (3, vi s3.2.1), (4, .slice p2 (Int.toNat (((List.length y0 : Nat) : Int) - s1)) c2), (5, vi s3.2.2)] [r_3] [Ar e_Literal 30 r_3 p1 c1 (List.length y0) s3.1]) (gv (fun _ k=>k r_1) [0] ⟨gk 0,d⟩)<|
  fun s3 _ k r_3=>k<|zG<|zB<|zA 4 u<|zC<|zI u (zL<|zD<|zG<|zQ<|yK [] [0] 10<|zX 8 [0,1] u<|jdX 2 0 u u f1 u u<|fun x3 b3 hp3 h3=>xU 3 0 0 sI true yM u u hp3 h3 u<|zX 3 [4,5,6] u<|
  jdX 7 0 u u f1 u u<|fun x4 b4 hp4 h4=>xU 8 0 0 sI true yM u u hp4 h4 u<|wC 9 (vb (!(x3 == x4))) u<|qS<|zD<|zI u (zB<|zA 4 u<|jiV 0 u f1 u u<|fun x5 b5 hp5 h5=>
  uV 0 0 sI true yM u hp5 h5 u<|yH 0 u u u<|fun x6 h6 b6 hp6=>uX .s 0 0 sI x5 true u hp6 h6 u u (vP vB vS)<|fun r_4=>zC<|zM<|zA 3 u<|zF<|qD<|zD<|zM<|zA 3 u<|zF<|qF (gv (fun _ k=>k r_4) [0] ⟨gk 0,d⟩))<|
  zL<|qD<|zD<|zM<|zA 3 u<|zF<|qF (gv (fun _ k=>k r_3) [0] ⟨gk 0,d⟩))<|qM<|qL<|qO<|qN<|zN (gv (fun _ k=>k r_3) [0] ⟨gk 0,d⟩))<|fun s2 _ k r_2=>k<|zB<|zA 2 u<|jsV 0 u u u<|fun u2 p3 c3 f2=>
  jcv .s 0 0 (false, []) (.agg #[vb false, vs []]) u f2 u (vP vB vS)<|fun r_5=>zC<|zB<|zA 2 u<|jsP 0 u u u<|fun x7=>zA 1 u<|zC<|zK<|qV<|qC<|wX<|qV<|qC<|zS u u (fun _ k=>k p1 c1 r_5) [900,0] ⟨gk 0,d⟩)<|zL<|qD<|
  zD<|zM<|zA 3 u<|zF<|qF (gv kk [0] ⟨gk 0,d⟩))<|qM<|qL<|qO<|qN<|zD<|zB<|zA 2 u<|zC<|zK<|zS u u (fun _ k=>k p1 c1 r_1) [900,0] ⟨gk 0,d⟩
theorem zEq {qd : Prop} {y0 : List zO} : qA qd prog 181 [sv p1 y0 c1, .func (.func 182) #[] #[]] [r_1] [Al e_Literal 30 r_1 p1 c1 y0] (zAM y0) fun r K=>∀ r_2,K (.tuple #[]) [r_2] [Ar e_Literal 30 r_2 p1 c1 (List.length y0) r] := ⟨call181, fun A w0 r hm hO hF => by
 have h := zPS (qd := qd) Go.Proofs.Tryz.sort181 (yU.prod yU.bool yU.str) (te := 30) Tryz.isAgg30 Tryz.sizeOf30 zAn 182 (enters_of func182 (by kernel_rfl) u) (fun w x y n hn => ?_) hO hF.1.1 hm
 · change Calls prog 181 _ _ _ at h
   refine h.mono fun e w' h => ?_
   cases e with
   | returned v => obtain ⟨r', rfl, h1, h2, h3, h4⟩ := h; exact fun G k => k r' ⟨rfl, h1, h2, ⟨h3, h4.symm⟩, trivial⟩
   | panicked ch => exact h
   | outgrown => exact h
 · refine ((zKA (qd := True) (y0 := x) (y1 := y)).go [] w n hn (Own.start (by simp)) trivial).mono fun e w' h => ?_
   cases e with
   | returned v => exact h _ fun ⟨e1, q⟩ => ⟨e1, q.e⟩
   | panicked ch => exact h
   | outgrown => exact h⟩
theorem zKl {qd : Prop} {y0 : List zO} : qA qd prog 114 [sv p1 y0 c1] [] [Rl e_Literal p1 c1 y0] (zEp y0) fun r K=>∀ p2 c2 r_1,K (sv p2 r c2) [r_1] [Al e_Literal 30 r_1 p2 c2 r] :=
 qE call114 func114 u fun X=>zB<|zA 1 u<|zC<|zB<|zA 1 u<|qI zHf u ⟨ck 0,d⟩<|fun r1 _ k p2 c2 r_1=>k<|zA 1 u<|zC<|zB<|zA 1 u<|qH .s [0] [] zEq u u u ⟨ck 0,d⟩<|fun r2 _ k r_2=>k<|zC<|
  zB<|zA 1 u<|jrE 0 8 u u<|qH .s [0] [] zJq u u u ⟨ck 0,d⟩<|fun r3 _ k p3 c3 r_3=>k<|zA 1 u<|zC<|zK<|zS u u (fun _ k=>k p3 c3 r_3) [1] ⟨gk 0,d⟩
theorem zHd {qd : Prop} {y0 : List zP} {y1 : List Int} : qA qd prog 64 [sv p1 y0 c1, sv p2 y1 c2] [] [Rl qR p1 c1 y0, Rl (eInt .i64) p2 c2 y1] (zBY y0 y1) fun r K=>∀ p3 c3,K (sv p3 r c3) [] [Rl e_Literal p3 c3 r] :=
 qE call64 func64 u fun X=>zB<|zA 1 u<|zC<|zB<|zA 1 u<|vD e_Literal 30<|zC<|wA (fun s1 K=>∀ p3 c3 r_1,K [(5, sv p3 s1 c3)] [r_1] [Al e_Literal 30 r_1 p3 c3 s1]) (zB<|zA 3 u<|zC<|zQ<|
  qP (fun s2 K=>∀ p4 c4 r_2,K [(0, sv p1 y0 c1), (5, sv p4 s2.1 c4), (8, sv p2 y1 c2), (9, vi (len y1)), (10, vi s2.2)] [r_2] [Al e_Literal 30 r_2 p4 c4 s2.1, Rl qR p1 c1 y0, Rl (eInt .i64) p2 c2 y1]) (gv (fun _ k=>k none 0 []) [0] ⟨gk 0,gk 1,gk 2,d⟩)<|
  fun s2 _ k p4 c4 r_2=>k<|zB<|zA 1 u<|zC<|zG<|zI u (zL<|zD<|zG<|zQ<|zB<|qX 2 u u u<|fun x1 b1 o1=>qW false oI (gk 0) u<|zA 1 u<|zC<|zB<|zA 2 u<|qI zHl u ⟨ck 2,d⟩<|fun r1 _ k=>k<|zC<|
  zI u (zM<|zA 3 u<|qX 2 u u u<|fun x2 b2 o2=>zU 3 u<|qW true yM (gs (gs (gs (gk 0)))) u<|wV .s (e := e_Literal) 30 [vb x2.2.2.2.1, vs x2.2.2.2.2] ([x2.2.2.2] : List zO) (rC (vP vB vS) rN)<|fun p5 c5=>
  wM .s 0 3 u (gk 0) u u<|fun x3 r_3 p6 c6=>zA 1 u<|zF<|qD<|zD<|zM<|zA 2 u<|zF<|qF (gv (fun _ k=>k p6 c6 r_3) [0] ⟨gk 0,gk 5,gk 6,d⟩))<|zL<|qD<|zD<|zM<|zA 2 u<|zF<|
  qF (gv (fun _ k=>k p4 c4 r_2) [0] ⟨gk 1,gk 2,gk 3,d⟩))<|qM<|qL<|qO<|qN<|zN (gv (fun _ k=>k p4 c4 r_2) [0] ⟨gk 0,d⟩))<|fun s1 _ k p3 c3 r_1=>k<|zB<|zA 1 u<|wS 0 0 u u<|qI zKl u ⟨ck 0,d⟩<|
  fun r2 _ k p7 c7 r_4=>k<|zA 1 u<|zC<|zK<|wS 1 0 u u<|zS u u (fun _ k=>k p7 c7) [] ⟨gk 0,d⟩
theorem zMB {qd : Prop} {y0 : zO} : qA qd prog 219 [.agg #[vb y0.1, vs y0.2]] [] [] (zGJ y0) fun r K=>K (.agg #[vb r.1, vs r.2]) [] [] :=
 qE call219 func219 u fun X=>zB<|qT .s u<|fun b1=>wL .s (.agg #[vb false, vs []])<|fun b2=>zC<|zB<|zU 0 u<|zV 0 u u u<|zA 1 u<|zU 0 u<|qU .s 0 u u u<|zC<|zB<|qK 0 2 u u u<|qU .s 1 u u u<|zC<|zK<|
  wR u (lC 1 (.agg #[vb (!y0.1), vs y0.2]) u u lN) kk [] d
theorem zPy {qd : Prop} {y0 : zT} {y1 : List zP} {y2 : Int} {y3 : Int} : qA qd prog 168 [.agg #[sv p1 y0.1 c1, sv p2 y0.2.1 c2, sv p3 y0.2.2 c3], sv p4 y1 c4, vi y2, vi y3] [] [Rl e_Premise p1 c1 y0.1, Rl e_Rule p2 c2 y0.2.1, Rl e_Promotion p3 c3 y0.2.2, Rl qR p4 c4 y1] (zHt y0 y1 y2 y3) fun r K=>∀ p5 c5,K (sv p5 r c5) [] [Rl (eInt .i64) p5 c5 r] :=
 qE call168 func168 u fun X=>zB<|qT .s u<|fun b1=>zA 1 u<|zC<|zB<|zA 1 u<|vD (eInt .i64) 3<|zC<|
  wA (fun s1 K=>∀ b2 b3 p5 c5,K [(4, pt b1 0), (9, sv none ([] : List Int) 0), (10, pt b2 0), (11, pt b3 0)] [bx b1 26 [sv p1 y0.1 c1, sv p2 y0.2.1 c2, sv p3 y0.2.2 c3], [], bx b2 30 [vb s1.1.1, vs s1.1.2], bx b3 94 [vi s1.2.1, vi s1.2.2.1, sv p5 s1.2.2.2.1 c5, vb s1.2.2.2.2.1, vs s1.2.2.2.2.2]] [Rl (eInt .i64) p5 c5 s1.2.2.2.1, Al (eInt .i64) 3 [] none 0 ([] : List Int), Rl e_Premise p1 c1 y0.1, Rl e_Rule p2 c2 y0.2.1, Rl e_Promotion p3 c3 y0.2.2]) (
  yN [] [] 13<|zX 11 [0,1] u<|vJ 2 4 u u u u<|fun x1 b4 o1=>qQ 3 3 u u<|vH 4 true yM u (gs (gs (gs (gk 0)))) u<|zX 6 [5,6] u<|vJ 7 5 u u u u<|fun x2 b5 o2=>vH 8 true zQB u (gk 0) u<|
  fun p6 c6=>xM 9 10 (wL (.f u) (.agg #[vb false, vs []])<|fun b6=>zZ<|qG 10<|wL (.f u) (.agg #[vi 0, vi 0, .slice none 0 0, vb false, vs []])<|fun b7=>zZ<|qG 11<|qU (o := 0) (.f u) 2 u u u<|zZ<|qG 12<|
  qU (o := 0) (.f u) 3 u u u<|zZ<|qS<|zN (gv (fun _ k=>k b6 b7 p6 c6) [0,1,2,3] ⟨gk 0,gk 3,gk 4,gk 5,gk 6,d⟩)) <|wL (.f u) (.agg #[vi 0, vi 0, .slice none 0 0, vb false, vs []])<|fun b8=>zZ<|qG 9<|
  wL (.f u) (.agg #[vb false, vs []])<|fun b9=>zZ<|qG 11<|qU (o := 0) (.f u) 3 u u u<|zZ<|qG 12<|qU (o := 0) (.f u) 2 u u u<|zZ<|qS<|zN (gv (fun _ k=>k b9 b8 p6 c6) [0,1,3,2] ⟨gk 0,gk 3,gk 4,gk 5,gk 6,d⟩))<|
  fun s1 _ k b2 b3 p5 c5=>k<|yK [] [2, 3] 6<|vM 0 2 2 u u u u<|qQ 1 3 u u<|vM 2 3 2 u u u u<|qG 3<|qH (.f u) [] [] zMB u u u d<|fun r1 _ k=>k<|zZ<|wC 4 (vb (s1.1 == r1)) u<|
  zX 0 [5] u<|qS<|zD<|zG<|zQ<|zB<|zU 0 u<|zV 3 u u u<|zA 2 u<|zC<|zI u (wA (fun s2 K=>K [(9, sv none ([] : List Int) 0), (41, vb s2)] [[], [], [], []] [Al (eInt .i64) 3 [] none 0 ([] : List Int)]) (zM<|zA 2 u<|
  wH 32 u (zU 0 u<|zV 0 u u u<|zU 0 u<|zV 3 u u u<|qX 2 u u u<|fun x3 b10 o3=>zU 2 u<|qW false oI (gf (gs (gk 0))) u<|zA 1 u<|zJ (vb (x3.2.1 != 1))<|zF<|zN (gv kk [900,1,902,903] ⟨gk 2,d⟩)
  )<|zA 8 u<|zJ (vb false)<|zF<|zN (gv kk [900,1,902,903] ⟨gk 1,d⟩))<|fun s2 _ k=>k<|zI u (zM<|zA 1 u<|wV .s (e := eInt .i64) 3 [vi 1] ([1] : List Int) (rC vI rN)<|fun p7 c7=>wM .s 1 1 u (gk 0) u u<|
  fun x4 r_1 p8 c8=>zA 1 u<|zF<|qD<|zD<|zB<|zA 2 u<|zC<|zK<|wS 1 0 u u<|zS u u (fun _ k=>k p8 c8) [] ⟨gk 0,d⟩)<|zL<|qD<|zD<|zB<|zA 2 u<|zC<|zK<|wS 1 0 u u<|zS u u (fun _ k=>k none 0) [] ⟨gk 0,d⟩)<|
  zB<|zU 1 u<|zV 0 u u u<|zU 1 u<|zV 3 u u u<|qX 3 u u u<|fun x5 b11 o4=>zU 1 u<|qW false oB (gf (gs (gk 0))) u<|zA 2 u<|zC<|zI u (
  wA (fun s3 K=>∀ p9 c9 r_2,K [(4, pt b1 0), (9, sv p9 s3 c9), (10, pt b2 0), (11, pt b3 0)] [bx b1 26 [sv p1 y0.1 c1, sv p2 y0.2.1 c2, sv p3 y0.2.2 c3], r_2, bx b2 30 [vb s1.1.1, vs s1.1.2], bx b3 94 [vi s1.2.1, vi s1.2.2.1, sv p5 s1.2.2.2.1 c5, vb s1.2.2.2.2.1, vs s1.2.2.2.2.2]] [Al (eInt .i64) 3 r_2 p9 c9 s3, Rl e_Premise p1 c1 y0.1, Rl e_Rule p2 c2 y0.2.1, Rl e_Promotion p3 c3 y0.2.2, Rl (eInt .i64) p5 c5 s1.2.2.2.1]) (
  zB<|zA 1 u<|zC<|zI u (zM<|zA 1 u<|wV .s (e := eInt .i64) 3 [vi 2] ([2] : List Int) (rC vI rN)<|fun p10 c10=>wM .s 1 3 u (gk 0) u u<|fun x6 r_3 p11 c11=>zA 1 u<|zF<|
  zN (gv (fun _ k=>k p11 c11 r_3) [0,1,2,3] ⟨gk 0,gk 5,gk 6,gk 7,gk 3,d⟩))<|zL<|zN (gv (fun _ k=>k none 0 []) [0,1,2,3] ⟨gk 2,gk 3,gk 4,gk 5,gk 1,d⟩))<|fun s3 _ k p9 c9 r_2=>k<|
  wA (fun s4 K=>K [(9, sv p9 s3 c9), (71, vb s4)] [[], r_2, [], []] [Al (eInt .i64) 3 r_2 p9 c9 s3]) (yN [] [0, 2, 3] 14<|qQ 0 0 u u<|qZ 1 2 u u u u<|zX 11 [2] u<|wH 60 u (qQ 3 1 u u<|qZ 4 2 u u u u<|
  qQ 5 1 u u<|qZ 6 0 u u u u<|qQ 7 1 u u<|qZ 8 3 u u u u<|vJ 9 2 u u u u<|fun x7 b12 o5=>qQ 10 0 u u<|vH 11 false oS u (gf (gk 0)) u<|zX 1 [12] u<|wC 13 (vb (s1.1.2 == x7.1)) u<|qS<|
  zN (gv kk [900,1,902,903] ⟨gk 1,d⟩))<|zX 1 [3,4,5,6,7,8,9,10,11,12] u<|wC 13 (vb false) u<|qS<|zN (gv kk [900,1,902,903] ⟨gk 0,d⟩))<|fun s4 _ k=>k<|zI u (zM<|zA 1 u<|
  wV .s (e := eInt .i64) 3 [vi 3] ([3] : List Int) (rC vI rN)<|fun p12 c12=>wM .s 1 1 u (gk 0) u u<|fun x8 r_4 p13 c13=>zA 1 u<|zF<|qD<|zD<|zB<|zA 2 u<|zC<|zK<|wS 1 0 u u<|zS u u (fun _ k=>k p13 c13) [] ⟨gk 0,d⟩
  )<|zL<|qD<|zD<|zB<|zA 2 u<|zC<|zK<|wS 1 0 u u<|zS u u (fun _ k=>k p9 c9) [] ⟨gk 0,d⟩)<|zL<|qD<|zD<|zB<|zA 2 u<|zC<|zK<|wS 1 2 u u<|zS u u (fun _ k=>k none 0) [] ⟨gk 0,d⟩
theorem zLU {qd : Prop} {y0 : Int} : qA qd prog 156 [vi y0] [] [] (zFn y0) fun r K=>K (vb r) [] [] :=
 qE call156 func156 u fun X=>zB<|zA 1 u<|zC<|zB<|zA 4 u<|zC<|zK<|zS u u kk [] d
theorem zAq {qd : Prop} {y0 : Int} {y1 : Int} : qA qd prog 101 [vi y0, vi y1] [] [] (zAR y0 y1) fun r K=>K (vi r) [] [] :=
 qE call101 func101 u fun X=>zB<|zA 1 u<|zC<|zB<|zA 1 u<|qI zLU u d<|fun r1 _ k=>k<|zA 1 u<|zC<|zB<|zA 1 u<|qI zLU u d<|fun r2 _ k=>k<|zA 1 u<|zC<|zG<|zB<|zA 1 u<|zC<|zI u (zG<|zB<|zA 1 u<|zC<|
  zI u (zB<|zA 1 u<|zC<|zK<|qC<|qC<|zS u u kk [] d)<|zL<|zD<|zB<|zA 1 u<|zC<|zK<|qC<|zS u u kk [] d)<|zL<|zD<|zG<|zB<|zA 1 u<|zC<|zI u (zB<|zA 1 u<|zC<|zK<|qC<|
  zS u u kk [] d)<|zL<|zD<|zG<|zB<|zA 3 u<|zC<|zI u (zB<|zA 1 u<|zC<|zK<|qC<|zS u u kk [] d)<|zL<|zD<|zG<|zB<|zA 3 u<|zC<|zI u (zB<|zA 1 u<|zC<|zK<|qC<|
  zS u u kk [] d)<|zL<|zD<|zB<|zA 1 u<|zC<|zK<|zS u u kk [] d
theorem zLM {qd : Prop} {y0 : List Int} : qA qd prog 107 [sv p1 y0 c1] [] [Rl (eInt .i64) p1 c1 y0] (zFi y0) fun r K=>K (vi r) [] [] :=
 qE call107 func107 u fun X=>zB<|zA 1 u<|zC<|zB<|zA 1 u<|zC<|zG<|zB<|zA 3 u<|zC<|zQ<|qP (fun s1 K=>K [(3, vi 0), (6, sv p1 y0 c1), (7, vi (len y0)), (8, vi s1)] [] [Rl (eInt .i64) p1 c1 y0]) (gv kk [] ⟨gk 0,d⟩)<|fun s1 _ k=>k<|zB<|
  zA 1 u<|zC<|zG<|zI u (zL<|zD<|zG<|zQ<|zB<|qX 0 u u u<|fun x1 b1 o1=>qW false oI (gk 0) u<|zA 1 u<|zC<|zB<|zA 3 u<|zC<|zI u (zB<|zA 2 u<|zC<|zK<|qV<|qC<|wX<|qV<|qC<|zS u u kk [] d
  )<|zL<|qD<|zD<|zM<|zA 2 u<|zF<|qF (gv kk [] ⟨gk 1,d⟩))<|qM<|qL<|qO<|qN<|zD<|zB<|zA 2 u<|zC<|zK<|zS u u kk [] d
theorem zNH {qd : Prop} {y0 : wB} {y1 : wB} : qA qd prog 171 [.agg #[vi y0.1, vi y0.2.1, vi y0.2.2.1, vi y0.2.2.2], .agg #[vi y1.1, vi y1.2.1, vi y1.2.2.1, vi y1.2.2.2]] [] [] (zBe y0 y1) fun r K=>K (vi r) [] [] :=
 qE call171 func171 u fun X=>zB<|qT .s u<|fun b1=>qT .s u<|fun b2=>zA 1 u<|zC<|yK [] [0, 1] 23<|qQ 0 0 u u<|qZ 1 0 u u u u<|qQ 2 0 u u<|qZ 3 1 u u u u<|qQ 5 1 u u<|qZ 6 0 u u u u<|qQ 7 1 u u<|
  qZ 8 1 u u u u<|qQ 10 2 u u<|qZ 11 0 u u u u<|qQ 12 2 u u<|qZ 13 1 u u u u<|qQ 15 3 u u<|qZ 16 0 u u u u<|qQ 17 3 u u<|qZ 18 1 u u u u<|qG 4<|
  qH (.f u) [] [] zAq u u u d<|fun r1 _ k=>k<|zZ<|qG 9<|qH (.f u) [] [] zAq u u u d<|fun r2 _ k=>k<|zZ<|qG 14<|qH (.f u) [] [] zAq u u u d<|fun r3 _ k=>k<|zZ<|
  qG 19<|qH (.f u) [] [] zAq u u u d<|fun r4 _ k=>k<|zZ<|qG 20<|wV (.f u) (e := eInt .i64) 3 [vi r1, vi r2, vi r3, vi r4] ([r1, r2, r3, r4] : List Int) (rC vI (rC vI (rC vI (rC vI rN))))<|fun p1 c1=>zZ<|qG 21<|
  qH (.f u) [] [] zLM u u u ⟨ck 0,d⟩<|fun r5 _ k=>k<|zZ<|zX 0 [22] u<|qS<|zD<|zK<|zS u u kk [] d
theorem zE8 {qd : Prop} {y0 : List wB} : qA qd prog 170 [sv p1 y0 c1, .func (.func 171) #[] #[]] [r_1] [Al vW 123 r_1 p1 c1 y0] (zA8 y0) fun r K=>∀ r_2,K (.tuple #[]) [r_2] [Ar vW 123 r_2 p1 c1 (List.length y0) r] := ⟨call170, fun A w0 r hm hO hF => by
 have h := zPS (qd := qd) Go.Proofs.Tryz.sort170 (yU.prod (yU.int .i64) (yU.prod (yU.int .i64) (yU.prod (yU.int .i64) (yU.int .i64)))) (te := 123) Tryz.isAgg123 Tryz.sizeOf123 zBe 171 (enters_of func171 (by kernel_rfl) u) (fun w x y n hn => ?_) hO hF.1.1 hm
 · change Calls prog 170 _ _ _ at h
   refine h.mono fun e w' h => ?_
   cases e with
   | returned v => obtain ⟨r', rfl, h1, h2, h3, h4⟩ := h; exact fun G k => k r' ⟨rfl, h1, h2, ⟨h3, h4.symm⟩, trivial⟩
   | panicked ch => exact h
   | outgrown => exact h
 · refine ((zNH (qd := True) (y0 := x) (y1 := y)).go [] w n hn (Own.start (by simp)) trivial).mono fun e w' h => ?_
   cases e with
   | returned v => exact h _ fun ⟨e1, q⟩ => ⟨e1, q.e⟩
   | panicked ch => exact h
   | outgrown => exact h⟩
theorem zOK {qd : Prop} {y0 : zT} {y1 : List zP} : qA qd prog 110 [.agg #[sv p1 y0.1 c1, sv p2 y0.2.1 c2, sv p3 y0.2.2 c3], sv p4 y1 c4] [] [Rl e_Premise p1 c1 y0.1, Rl e_Rule p2 c2 y0.2.1, Rl e_Promotion p3 c3 y0.2.2, Rl qR p4 c4 y1] (zG2 y0 y1) fun r K=>∀ p5 c5 r_1,K (sv p5 r c5) [r_1] [Al vW 123 r_1 p5 c5 r] :=
 qE call110 func110 u fun X=>zB<|qT .s u<|fun b1=>zA 1 u<|zC<|zB<|zA 1 u<|vD vW 123<|zC<|wA (fun s1 K=>∀ p5 c5 r_1,K [(5, sv p5 s1 c5)] [[], r_1] [Al vW 123 r_1 p5 c5 s1]) (zB<|zA 3 u<|zC<|zQ<|
  qP (fun s2 K=>∀ p6 c6 r_2,K [(1, sv p4 y1 c4), (2, pt b1 0), (5, sv p6 s2.1 c6), (13, vi (len y1)), (14, vi s2.2)] [bx b1 26 [sv p1 y0.1 c1, sv p2 y0.2.1 c2, sv p3 y0.2.2 c3], r_2] [Al vW 123 r_2 p6 c6 s2.1, Rl qR p4 c4 y1, Rl e_Premise p1 c1 y0.1, Rl e_Rule p2 c2 y0.2.1, Rl e_Promotion p3 c3 y0.2.2]) (gv (fun _ k=>k none 0 []) [0,1] ⟨gk 0,gk 4,gk 1,gk 2,gk 3,d⟩)<|
  fun s2 _ k p6 c6 r_2=>k<|zB<|zA 1 u<|zC<|zG<|zI u (zL<|zD<|zG<|zQ<|zB<|zA 2 u<|zC<|zB<|zA 3 u<|zC<|zQ<|
  qP (fun s3 K=>∀ p7 c7 r_3,K [(1, sv p4 y1 c4), (2, pt b1 0), (5, sv p7 s3.1 c7), (6, vi s2.2), (13, vi (len y1)), (14, vi s2.2), (18, vi (len y1)), (19, vi s3.2)] [bx b1 26 [sv p1 y0.1 c1, sv p2 y0.2.1 c2, sv p3 y0.2.2 c3], r_3] [Al vW 123 r_3 p7 c7 s3.1, Rl qR p4 c4 y1, Rl e_Premise p1 c1 y0.1, Rl e_Rule p2 c2 y0.2.1, Rl e_Promotion p3 c3 y0.2.2]) (gv (fun _ k=>k p6 c6 r_2) [0,1] ⟨gk 0,gk 1,gk 2,gk 3,gk 4,d⟩)<|
  fun s3 _ k p7 c7 r_3=>k<|zB<|zA 1 u<|zC<|zG<|zI u (zL<|zD<|zG<|zQ<|zB<|zA 2 u<|zC<|zB<|qK 0 3 u u u<|zA 3 u<|qI zPy rfl ⟨ck 2,ck 3,ck 4,ck 1,d⟩<|fun r1 _ k p8 c8=>k<|zA 1 u<|zC<|zG<|zB<|
  zA 3 u<|zC<|zI u (qM<|qL<|qN<|zD<|zM<|zA 2 u<|zF<|qF (gv (fun _ k=>k p7 c7 r_3) [0,1] ⟨gk 1,gk 2,gk 3,gk 4,gk 5,d⟩))<|zL<|zD<|zB<|zA 3 u<|zC<|zQ<|
  qP (fun s4 K=>∀ p9 c9 r_4,K [(1, sv p4 y1 c4), (2, pt b1 0), (5, sv p9 s4.1 c9), (6, vi s2.2), (7, vi s3.2), (8, sv p8 r1 c8), (13, vi (len y1)), (14, vi s2.2), (18, vi (len y1)), (19, vi s3.2), (31, vi (len y1)), (32, vi s4.2)] [bx b1 26 [sv p1 y0.1 c1, sv p2 y0.2.1 c2, sv p3 y0.2.2 c3], r_4] [Al vW 123 r_4 p9 c9 s4.1, Rl qR p4 c4 y1, Rl (eInt .i64) p8 c8 r1, Rl e_Premise p1 c1 y0.1, Rl e_Rule p2 c2 y0.2.1, Rl e_Promotion p3 c3 y0.2.2]) (gv (fun _ k=>k p7 c7 r_3) [0,1] ⟨gk 1,gk 2,gk 0,gk 3,gk 4,gk 5,d⟩)<|
  fun s4 _ k p9 c9 r_4=>k<|zB<|zA 1 u<|zC<|zG<|zI u (zL<|zD<|zG<|zQ<|zB<|zA 2 u<|zC<|zG<|zB<|zA 2 u<|qI zIv u ⟨ck 1,d⟩<|fun r2 _ k p10 c10=>k<|zA 1 u<|qI zFg u ⟨ck 0,d⟩<|
  fun r3 _ k=>k<|zA 1 u<|zC<|zI u (qM<|qL<|qN<|zD<|zM<|zA 2 u<|zF<|qF (gv (fun _ k=>k p9 c9 r_4) [0,1] ⟨gk 1,gk 2,gk 3,gk 4,gk 5,gk 6,d⟩))<|zL<|zD<|zB<|zA 3 u<|zC<|zQ<|
  qP (fun s5 K=>∀ p11 c11 r_5,K [(1, sv p4 y1 c4), (2, pt b1 0), (5, sv p11 s5.1 c11), (6, vi s2.2), (7, vi s3.2), (8, sv p8 r1 c8), (9, vi s4.2), (13, vi (len y1)), (14, vi s2.2), (18, vi (len y1)), (19, vi s3.2), (31, vi (len y1)), (32, vi s4.2), (41, sv p8 r1 c8), (42, vi (len r1)), (43, vi s5.2)] [bx b1 26 [sv p1 y0.1 c1, sv p2 y0.2.1 c2, sv p3 y0.2.2 c3], r_5] [Al vW 123 r_5 p11 c11 s5.1, Rl qR p4 c4 y1, Rl (eInt .i64) p8 c8 r1, Rl e_Premise p1 c1 y0.1, Rl e_Rule p2 c2 y0.2.1, Rl e_Promotion p3 c3 y0.2.2]) (gv (fun _ k=>k p9 c9 r_4) [0,1] ⟨gk 1,gk 2,gk 3,gk 4,gk 5,gk 6,d⟩)<|
  fun s5 _ k p11 c11 r_5=>k<|zB<|zA 1 u<|zC<|zG<|zI u (zL<|zD<|zG<|zQ<|zB<|qX 2 u u u<|fun x1 b2 o1=>qW false oI (gk 0) u<|zA 1 u<|zC<|zM<|zA 5 u<|zJ (.agg #[vi s3.2, vi s4.2, vi s2.2, vi x1])<|
  wV .s (e := vW) 123 [vi s3.2, vi s4.2, vi s2.2, vi x1] ([(s3.2, s4.2, s2.2, x1)] : List wB) (rC (vP vI (vP vI (vP vI vI))) rN)<|fun p12 c12=>wM .s 1 2 u (gk 0) u u<|fun x2 r_6 p13 c13=>zA 1 u<|zF<|qD<|zD<|zM<|
  zA 2 u<|zF<|qF (gv (fun _ k=>k p13 c13 r_6) [0,1] ⟨gk 0,gk 4,gk 5,gk 6,gk 7,gk 8,d⟩))<|qM<|qL<|qO<|qN<|qD<|zD<|zM<|zA 2 u<|zF<|qF (gv (fun _ k=>k p11 c11 r_5) [0,1] ⟨gk 0,gk 1,gk 2,gk 3,gk 4,gk 5,d⟩))<|qM<|qL<|qO<|
  qN<|qD<|zD<|zM<|zA 2 u<|zF<|qF (gv (fun _ k=>k p9 c9 r_4) [0,1] ⟨gk 0,gk 1,gk 3,gk 4,gk 5,d⟩))<|qM<|qL<|qO<|qN<|qD<|zD<|zM<|zA 2 u<|zF<|qF (gv (fun _ k=>k p7 c7 r_3) [0,1] ⟨gk 0,gk 1,gk 2,gk 3,gk 4,d⟩))<|qM<|qL<|
  qO<|qN<|zN (gv (fun _ k=>k p6 c6 r_2) [900,1] ⟨gk 0,d⟩))<|fun s1 _ k p5 c5 r_1=>k<|zB<|zA 1 u<|qH .s [1] [] zE8 u u u ⟨ck 0,d⟩<|fun r4 _ k r_7=>k<|zC<|zB<|zA 2 u<|zC<|zK<|
  jrE 0 4 u u<|zS u u (fun _ k=>k p5 c5 r_7) [1] ⟨gk 0,d⟩
theorem zJK {qd : Prop} {y0 : List zP} {y1 : Int} : qA qd prog 223 [sv p1 y0 c1, vi y1] [] [Rl qR p1 c1 y0] (zCR y0 y1) fun r K=>∀ p2 c2,K (sv p2 r c2) [] [Rl (eInt .i64) p2 c2 r] :=
 qE call223 func223 u fun X=>zB<|zA 1 u<|zC<|zB<|zA 1 u<|vD (eInt .i64) 3<|zC<|wA (fun s1 K=>∀ p2 c2 r_1,K [(5, sv p2 s1 c2)] [r_1] [Al (eInt .i64) 3 r_1 p2 c2 s1]) (zB<|zA 2 u<|qI zIv u ⟨ck 1,d⟩<|fun r1 _ k p3 c3=>k<|zA 2 u<|zC<|
  zQ<|
  qP (fun s2 K=>∀ p4 c4 r_2,K [(0, sv p1 y0 c1), (5, sv p4 s2.1 c4), (10, sv p3 r1 c3), (11, vi (len r1)), (12, vi s2.2)] [r_2] [Al (eInt .i64) 3 r_2 p4 c4 s2.1, Rl qR p1 c1 y0, Rl (eInt .i64) p3 c3 r1]) (gv (fun _ k=>k none 0 []) [0] ⟨gk 1,gk 2,gk 0,d⟩)<|
  fun s2 _ k p4 c4 r_2=>k<|zB<|zA 1 u<|zC<|zG<|zI u (zL<|zD<|zG<|zQ<|zB<|qX 2 u u u<|fun x1 b1 o1=>qW false oI (gk 0) u<|zA 1 u<|zC<|zB<|zA 2 u<|qX 2 u u u<|fun x2 b2 o2=>zU 0 u<|
  qW false oI (gf (gk 0)) u<|zA 1 u<|zC<|zI u (zM<|zA 3 u<|qX 3 u u u<|fun x3 b3 o3=>zU 0 u<|qW false oI (gf (gk 0)) u<|wV .s (e := eInt .i64) 3 [vi x3.1] ([x3.1] : List Int) (rC vI rN)<|fun p5 c5=>
  wM .s 0 4 u (gk 0) u u<|fun x4 r_3 p6 c6=>zA 1 u<|zF<|qD<|zD<|zM<|zA 2 u<|zF<|qF (gv (fun _ k=>k p6 c6 r_3) [0] ⟨gk 0,gk 6,gk 7,d⟩))<|zL<|qD<|zD<|zM<|zA 2 u<|zF<|
  qF (gv (fun _ k=>k p4 c4 r_2) [0] ⟨gk 2,gk 3,gk 4,d⟩))<|qM<|qL<|qO<|qN<|zN (gv (fun _ k=>k p4 c4 r_2) [0] ⟨gk 0,d⟩))<|fun s1 _ k p2 c2 r_1=>k<|zB<|zA 1 u<|qH .s [0] [] zGA u u u ⟨ck 0,d⟩<|fun r2 _ k r_4=>
  k<|zC<|zB<|zA 2 u<|zC<|zK<|wS 0 0 u u<|jre 0 4 u u<|zS u u (fun _ k=>k p2 c2) [] ⟨gk 0,d⟩
theorem zOH {qd : Prop} {y0 : Int} {y1 : zT} : qA qd prog 224 [vi y0, pt b1 0] [bx b1 26 [sv p1 y1.1 c1, sv p2 y1.2.1 c2, sv p3 y1.2.2 c3]] [Rl e_Premise p1 c1 y1.1, Rl e_Rule p2 c2 y1.2.1, Rl e_Promotion p3 c3 y1.2.2] (zGW y0 y1) fun r K=>K (vb r) [bx b1 26 [sv p1 y1.1 c1, sv p2 y1.2.1 c2, sv p3 y1.2.2 c3]] [] :=
 qE call224 func224 u fun X=>zB<|zA 1 u<|zC<|zB<|zU 0 u<|zV 0 u u u<|zA 1 u<|qX 0 u u u<|fun x1 b2 o1=>zU 2 u<|qW false oI (gf (gs (gk 0))) u<|zA 2 u<|zC<|zK<|zS u u kk [0] d
theorem zGD {qd : Prop} {y0 : List Int} {y1 : zT} : qA qd prog 93 [sv p1 y0 c1, .func (.func 224) #[] #[pt b1 0]] [bx b1 26 [sv p2 y1.1 c2, sv p3 y1.2.1 c3, sv p4 y1.2.2 c4]] [Rl (eInt .i64) p1 c1 y0, Rl e_Premise p2 c2 y1.1, Rl e_Rule p3 c3 y1.2.1, Rl e_Promotion p4 c4 y1.2.2] (zAp y0 y1) fun r K=>K (vi r) [bx b1 26 [sv p2 y1.1 c2, sv p3 y1.2.1 c3, sv p4 y1.2.2 c4]] [] :=
 qE call93 func93 u fun X=>zB<|zA 1 u<|zC<|zG<|zB<|zA 3 u<|zC<|zQ<|
  qP (fun s1 K=>K [(0, sv p1 y0 c1), (1, .func (.func 224) #[] #[pt b1 0]), (7, vi (len y0)), (8, vi s1)] [bx b1 26 [sv p2 y1.1 c2, sv p3 y1.2.1 c3, sv p4 y1.2.2 c4]] [Rl (eInt .i64) p1 c1 y0, Rl e_Premise p2 c2 y1.1, Rl e_Rule p3 c3 y1.2.1, Rl e_Promotion p4 c4 y1.2.2]) (gv kk [0] ⟨gk 0,gk 1,gk 2,gk 3,d⟩)<|
  fun s1 _ k=>k<|zB<|zA 1 u<|zC<|zG<|zI u (zL<|zD<|zG<|zQ<|zB<|zA 2 u<|zC<|zB<|zA 3 u<|qX 0 u u u<|fun x1 b2 o1=>qW false oI (gk 0) u<|qH .s [0] [] zOH u u u ⟨ck 2,ck 3,ck 4,d⟩<|
  fun r1 _ k=>k<|zC<|zI u (zB<|zA 2 u<|zC<|zK<|qV<|qC<|wX<|qV<|qC<|zS u u kk [0] d)<|zL<|qD<|zD<|zM<|zA 2 u<|zF<|qF (gv kk [0] ⟨gk 1,gk 2,gk 3,gk 4,d⟩))<|qM<|qL<|qO<|qN<|zD<|zB<|
  zA 1 u<|zC<|zK<|zS u u kk [0] d
theorem zFI {qd : Prop} {y0 : List Int} {y1 : zT} : qA qd prog 163 [sv p1 y0 c1, .func (.func 224) #[] #[pt b1 0]] [bx b1 26 [sv p2 y1.1 c2, sv p3 y1.2.1 c3, sv p4 y1.2.2 c4]] [Rl (eInt .i64) p1 c1 y0, Rl e_Premise p2 c2 y1.1, Rl e_Rule p3 c3 y1.2.1, Rl e_Promotion p4 c4 y1.2.2] (zAc y0 y1) fun r K=>K (vb r) [bx b1 26 [sv p2 y1.1 c2, sv p3 y1.2.1 c3, sv p4 y1.2.2 c4]] [] :=
 qE call163 func163 u fun X=>zB<|zA 1 u<|zC<|zB<|zA 2 u<|qH .s [0] [] zGD u u u ⟨ck 0,ck 1,ck 2,ck 3,d⟩<|fun r1 _ k=>k<|zA 2 u<|zC<|zK<|zS u u kk [0] d
theorem zPx {qd : Prop} {y0 : zT} {y1 : List zP} {y2 : Int} : qA qd prog 172 [.agg #[sv p1 y0.1 c1, sv p2 y0.2.1 c2, sv p3 y0.2.2 c3], sv p4 y1 c4, vi y2] [] [Rl e_Premise p1 c1 y0.1, Rl e_Rule p2 c2 y0.2.1, Rl e_Promotion p3 c3 y0.2.2, Rl qR p4 c4 y1] (zID y0 y1 y2) fun r K=>K (vb r) [] [] :=
 qE call172 func172 u fun X=>zB<|qT .s u<|fun b1=>zA 1 u<|zC<|zB<|zA 2 u<|qI zJK u ⟨ck 3,d⟩<|fun r1 _ k p5 c5=>k<|zA 1 u<|qH .s [0] [] zFI u u u ⟨ck 0,ck 1,ck 2,ck 3,d⟩<|fun r2 _ k=>k<|
  zA 1 u<|zC<|zK<|zS u u kk [] d
theorem zM8 {qd : Prop} (k : Nat) :
    (∀ {y0 : zT} {p1 : Option Addr} {c1 : Nat} {p2 : Option Addr} {c2 : Nat} {p3 : Option Addr} {c3 : Nat} {y1 : List zP} {p4 : Option Addr} {c4 : Nat} {y2 : Int}, qA qd prog 228 [.agg #[sv p1 y0.1 c1, sv p2 y0.2.1 c2, sv p3 y0.2.2 c3], sv p4 y1 c4, vi y2] [] [Rl e_Premise p1 c1 y0.1, Rl e_Rule p2 c2 y0.2.1, Rl e_Promotion p3 c3 y0.2.2, Rl qR p4 c4 y1] (zC1 k y0 y1 y2) fun r K=>∀ p5 c5,K (sv p5 r c5) [] [Rl (eInt .i64) p5 c5 r]) := by
  induction k with
  | zero => exact zXp call228
  | succ k ih =>
    have ih_argument_Last := @ih
    exact @fun y0 p1 c1 p2 c2 p3 c3 y1 p4 c4 y2=>qE (m1 := zHW (zC1 k) y0 y1 y2) call228 func228 u fun X=>zB<|qT .s u<|fun b1=>zA 1 u<|zC<|zG<|
  wA (fun s1 K=>K [(1, sv p4 y1 c4), (2, vi y2), (3, pt b1 0), (21, vb s1)] [bx b1 26 [sv p1 y0.1 c1, sv p2 y0.2.1 c2, sv p3 y0.2.2 c3]] [Rl qR p4 c4 y1, Rl e_Premise p1 c1 y0.1, Rl e_Rule p2 c2 y0.2.1, Rl e_Promotion p3 c3 y0.2.2]) (
  zM<|zA 2 u<|qI zHl u ⟨ck 3,d⟩<|fun r1 _ k=>k<|zA 2 u<|wH 14 u (zA 6 u<|zJ (vb true)<|zF<|zN (gv kk [0] ⟨gk 3,gk 0,gk 1,gk 2,d⟩))<|zA 2 u<|qX 3 u u u<|fun x1 b2 o1=>zU 1 u<|
  qW false oI (gf (gs (gk 0))) u<|zA 1 u<|zJ (vb (decide (x1.2.1 < 0)))<|zF<|zN (gv kk [0] ⟨gk 4,gk 1,gk 2,gk 3,d⟩))<|fun s1 _ k=>k<|zI u (zB<|zA 1 u<|zC<|zK<|qC<|zS u u (fun _ k=>k none 0) [] ⟨gn,d⟩)<|
  zL<|zD<|zG<|yK [] [0] 11<|qQ 0 1 u u<|qZ 1 0 u u u u<|zX 7 [2,3] u<|vJ 4 0 u u u u<|fun x2 b3 o2=>qQ 5 1 u u<|vH 6 false oI u (gf (gs (gk 0))) u<|vJ 7 3 u u u u<|fun x3 b4 o3=>
  qQ 8 1 u u<|vH 9 false oB u (gf (gs (gk 0))) u<|zX 0 [10] u<|qS<|zD<|zI u (zB<|zA 2 u<|qX 2 u u u<|fun x4 b5 o4=>zU 1 u<|qW false oI (gf (gs (gk 0))) u<|
  wV .s (e := eInt .i64) 3 [vi x4.2.1] ([x4.2.1] : List Int) (rC vI rN)<|fun p5 c5=>zA 1 u<|zC<|zK<|qC<|zS u u (fun _ k=>k p5 c5) [] ⟨gk 0,d⟩)<|zL<|zD<|zB<|zA 1 u<|vD (eInt .i64) 3<|zC<|
  wA (fun s2 K=>∀ p6 c6 r_1,K [(7, sv p6 s2 c6)] [[], r_1] [Al (eInt .i64) 3 r_1 p6 c6 s2]) (zB<|zA 2 u<|qX 3 u u u<|fun x5 b6 o5=>zU 2 u<|qW false oL (gf (gs (gs (gk 0)))) u<|fun p7 c7=>zA 2 u<|zC<|zQ<|
  qP (fun s3 K=>∀ p8 c8 r_2,K [(1, sv p4 y1 c4), (3, pt b1 0), (7, sv p8 s3.1 c8), (43, sv p7 x5.2.2.1 c7), (44, vi (len x5.2.2.1)), (45, vi s3.2)] [bx b1 26 [sv p1 y0.1 c1, sv p2 y0.2.1 c2, sv p3 y0.2.2 c3], r_2] [Al (eInt .i64) 3 r_2 p8 c8 s3.1, Rl qR p4 c4 y1, Rl (eInt .i64) p7 c7 x5.2.2.1, Rl e_Premise p1 c1 y0.1, Rl e_Rule p2 c2 y0.2.1, Rl e_Promotion p3 c3 y0.2.2]) (gv (fun _ k=>k none 0 []) [0,1] ⟨gk 2,gk 5,gk 0,gk 6,gk 7,gk 8,d⟩)<|
  fun s3 _ k p8 c8 r_2=>k<|zB<|zA 1 u<|zC<|zG<|zI u (zL<|zD<|zG<|zQ<|zB<|qX 2 u u u<|fun x6 b7 o6=>qW false oI (gk 0) u<|zA 1 u<|zC<|zM<|zA 1 u<|qK 0 3 u u u<|zA 2 u<|
  qI ih_argument_Last u ⟨ck 4,ck 5,ck 6,ck 2,d⟩<|fun r2 _ k p9 c9=>k<|wM .s 1 2 u (gk 0) u u<|fun x7 r_3 p10 c10=>zA 1 u<|zF<|qD<|zD<|zM<|zA 2 u<|zF<|
  qF (gv (fun _ k=>k p10 c10 r_3) [0,1] ⟨gk 0,gk 4,gk 5,gk 6,gk 7,gk 8,d⟩))<|qM<|qL<|qO<|qN<|zN (gv (fun _ k=>k p8 c8 r_2) [900,1] ⟨gk 0,d⟩))<|fun s2 _ k p6 c6 r_1=>k<|zB<|zA 1 u<|
  qH .s [1] [] zGA u u u ⟨ck 0,d⟩<|fun r3 _ k r_4=>k<|zC<|zB<|zA 1 u<|jrE 0 58 u u<|qH .s [1] [] zGG u u u ⟨ck 0,d⟩<|fun r4 _ k p11 c11=>k<|zA 1 u<|zC<|zK<|
  zS u u (fun _ k=>k p11 c11) [] ⟨gk 0,d⟩
theorem zOc {qd : Prop} {y0 : zT} {y1 : List zP} {y2 : Int} : qA qd prog 228 [.agg #[sv p1 y0.1 c1, sv p2 y0.2.1 c2, sv p3 y0.2.2 c3], sv p4 y1 c4, vi y2] [] [Rl e_Premise p1 c1 y0.1, Rl e_Rule p2 c2 y0.2.1, Rl e_Promotion p3 c3 y0.2.2, Rl qR p4 c4 y1] (zJM y0 y1 y2) fun r K=>∀ p5 c5,K (sv p5 r c5) [] [Rl (eInt .i64) p5 c5 r] := zNB fun k => (zM8 k)
theorem zNo {qd : Prop} {y0 : zT} {y1 : List Int} : qA qd prog 227 [.agg #[sv p1 y0.1 c1, sv p2 y0.2.1 c2, sv p3 y0.2.2 c3], sv p4 y1 c4] [] [Rl e_Premise p1 c1 y0.1, Rl e_Rule p2 c2 y0.2.1, Rl e_Promotion p3 c3 y0.2.2, Rl (eInt .i64) p4 c4 y1] (zJV y0 y1) fun r K=>∀ p5 c5,K (sv p5 r c5) [] [Rl (eInt .i64) p5 c5 r] :=
 qE call227 func227 u fun X=>zB<|qT .s u<|fun b1=>zA 1 u<|zC<|zB<|zA 1 u<|vD (eInt .i64) 3<|zC<|zG<|zB<|zA 3 u<|zC<|zQ<|
  qP (fun s1 K=>∀ p5 c5 r_1,K [(2, pt b1 0), (5, sv p5 s1.1 c5), (8, sv p4 y1 c4), (9, vi (len y1)), (10, vi s1.2)] [bx b1 26 [sv p1 y0.1 c1, sv p2 y0.2.1 c2, sv p3 y0.2.2 c3], r_1] [Al (eInt .i64) 3 r_1 p5 c5 s1.1, Rl (eInt .i64) p4 c4 y1, Rl e_Premise p1 c1 y0.1, Rl e_Rule p2 c2 y0.2.1, Rl e_Promotion p3 c3 y0.2.2]) (gv (fun _ k=>k none 0 []) [0,1] ⟨gk 0,gk 4,gk 1,gk 2,gk 3,d⟩)<|
  fun s1 _ k p5 c5 r_1=>k<|zB<|zA 1 u<|zC<|zG<|zI u (zL<|zD<|zG<|zQ<|zB<|qX 1 u u u<|fun x1 b2 o1=>qW false oI (gk 0) u<|zA 1 u<|zC<|zM<|zA 1 u<|zU 1 u<|zV 0 u u u<|zA 1 u<|qX 4 u u u<|
  fun x2 b3 o2=>zU 2 u<|qW false oI (gf (gs (gs (gk 0)))) u<|wV .s (e := eInt .i64) 3 [vi x2.2.2.1] ([x2.2.2.1] : List Int) (rC vI rN)<|fun p6 c6=>wM .s 1 3 u (gk 0) u u<|fun x3 r_2 p7 c7=>zA 1 u<|zF<|qD<|zD<|zM<|
  zA 2 u<|zF<|qF (gv (fun _ k=>k p7 c7 r_2) [0,1] ⟨gk 0,gk 5,gk 6,gk 7,gk 8,d⟩))<|qM<|qL<|qO<|qN<|zD<|zB<|zA 2 u<|zC<|zK<|wS 1 0 u u<|zS u u (fun _ k=>k p5 c5) [] ⟨gk 0,d⟩
theorem zG1 {qd : Prop} {y0 : zT} {y1 : List zP} {y2 : Int} : qA qd prog 177 [.agg #[sv p1 y0.1 c1, sv p2 y0.2.1 c2, sv p3 y0.2.2 c3], sv p4 y1 c4, vi y2] [] [Rl e_Premise p1 c1 y0.1, Rl e_Rule p2 c2 y0.2.1, Rl e_Promotion p3 c3 y0.2.2, Rl qR p4 c4 y1] (zBt y0 y1 y2) fun r K=>∀ p5 c5,K (sv p5 r c5) [] [Rl (eInt .i64) p5 c5 r] :=
 qE call177 func177 u fun X=>zB<|qT .s u<|fun b1=>zA 1 u<|zC<|yK [] [0] 7<|vM 0 0 3 u u u u<|vM 1 0 3 u u u u<|zX 3 [2,3] u<|qG 4<|qH (.f u) [] [] zOc u u u ⟨ck 0,ck 1,ck 2,ck 3,d⟩<|fun r1 _ k p5 c5=>k<|zZ<|qG 5<|
  qH (.f u) [] [] zNo u u u ⟨ck 1,ck 2,ck 3,ck 0,d⟩<|fun r2 _ k p6 c6=>k<|zZ<|zX 0 [6] u<|qS<|zD<|zK<|zS u u (fun _ k=>k p6 c6) [] ⟨gk 0,d⟩
theorem zKk {qd : Prop} {y0 : List Int} : qA qd prog 226 [sv p1 y0 c1] [] [Rl (eInt .i64) p1 c1 y0] (zEj y0) fun r K=>K (vi r) [] [] :=
 qE call226 func226 u fun X=>zB<|zA 1 u<|zC<|wA (fun s1 K=>K [(0, sv p1 y0 c1)] [] [Rl (eInt .i64) p1 c1 y0]) (zB<|zA 3 u<|zC<|zI u (zM<|jno)<|zL<|zN (gv kk [] ⟨gk 0,d⟩))<|fun s1 _ k=>k<|zB<|zA 1 u<|qX 0 u u u<|fun x1 b1 o1=>
  qW false oI (gk 0) u<|zA 1 u<|zC<|zG<|zB<|zA 1 u<|zC<|zQ<|qP (fun s2 K=>K [(0, sv p1 y0 c1), (3, vi s2.1), (4, vi s2.2)] [] [Rl (eInt .i64) p1 c1 y0]) (gv kk [] ⟨gk 1,d⟩)<|fun s2 _ k=>k<|zG<|zB<|zA 4 u<|zC<|
  zI u (zL<|zD<|zG<|zQ<|zM<|zA 3 u<|qX 0 u u u<|fun x2 b2 o2=>qW false oI (gk 0) u<|zA 2 u<|zF<|qD<|zD<|zM<|zA 3 u<|zF<|qF (gv kk [] ⟨gk 1,d⟩))<|qM<|qL<|qO<|qN<|zD<|zB<|zA 2 u<|zC<|zK<|
  zS u u kk [] d
theorem zKj {qd : Prop} {y0 : List Int} : qA qd prog 225 [sv p1 y0 c1] [] [Rl (eInt .i64) p1 c1 y0] (zEg y0) fun r K=>K (vi r) [] [] :=
 qE call225 func225 u fun X=>zB<|zA 1 u<|zC<|wA (fun s1 K=>K [(0, sv p1 y0 c1)] [] [Rl (eInt .i64) p1 c1 y0]) (zB<|zA 3 u<|zC<|zI u (zM<|jno)<|zL<|zN (gv kk [] ⟨gk 0,d⟩))<|fun s1 _ k=>k<|zB<|zA 1 u<|qX 0 u u u<|fun x1 b1 o1=>
  qW false oI (gk 0) u<|zA 1 u<|zC<|zG<|zB<|zA 1 u<|zC<|zQ<|qP (fun s2 K=>K [(0, sv p1 y0 c1), (3, vi s2.1), (4, vi s2.2)] [] [Rl (eInt .i64) p1 c1 y0]) (gv kk [] ⟨gk 1,d⟩)<|fun s2 _ k=>k<|zG<|zB<|zA 4 u<|zC<|
  zI u (zL<|zD<|zG<|zQ<|zM<|zA 3 u<|qX 0 u u u<|fun x2 b2 o2=>qW false oI (gk 0) u<|zA 2 u<|zF<|qD<|zD<|zM<|zA 3 u<|zF<|qF (gv kk [] ⟨gk 1,d⟩))<|qM<|qL<|qO<|qN<|zD<|zB<|zA 2 u<|zC<|zK<|
  zS u u kk [] d
theorem zJh {qd : Prop} {y0 : List Int} {y1 : List Int} {y2 : Int} : qA qd prog 174 [sv p1 y0 c1, sv p2 y1 c2, vi y2] [] [Rl (eInt .i64) p1 c1 y0, Rl (eInt .i64) p2 c2 y1] (zFC y0 y1 y2) fun r K=>K (vb r) [] [] :=
 qE call174 func174 u fun X=>zB<|zA 1 u<|zC<|zG<|yW (fun K=>K [(0, sv p1 y0 c1), (1, sv p2 y1 c2), (2, vi y2), (17, vb (if y2 != 1 then (y2 != 2) || ((len y0) == 0) else (len y0) == 0))] [] [Rl (eInt .i64) p1 c1 y0, Rl (eInt .i64) p2 c2 y1]) (zM<|zA 3 u<|
  vY (b := y2 != 1) 9 u (fun hb1=>zA 2 u<|zJ (vb (y2 != 2))<|zA 1 u<|vY (b := y2 != 2) 13 u (fun hb2=>zA 3 u<|zJ (vb true)<|zF<|
  wN 17 (vb (if y2 != 1 then (y2 != 2) || ((len y0) == 0) else (len y0) == 0)) u (by rw [hb1,hb2]; rfl)<|zN (gv kk [] ⟨gk 0,gk 1,d⟩))<|fun hb2=>zA 3 u<|zJ (vb ((len y0) == 0))<|zF<|
  wN 17 (vb (if y2 != 1 then (y2 != 2) || ((len y0) == 0) else (len y0) == 0)) u (by rw [hb1,hb2]; rfl)<|zN (gv kk [] ⟨gk 0,gk 1,d⟩))<|fun hb1=>zA 2 u<|zJ (vb false)<|zA 4 u<|zJ (vb ((len y0) == 0))<|zF<|
  wN 17 (vb (if y2 != 1 then (y2 != 2) || ((len y0) == 0) else (len y0) == 0)) u (by rw [hb1]; rfl)<|zN (gv kk [] ⟨gk 0,gk 1,d⟩))<|fun _ k=>k<|zI u (zB<|zA 1 u<|zC<|zK<|qC<|zS u u kk [] d)<|zL<|zD<|
  zG<|zQ<|zB<|zA 4 u<|zC<|zI u (zB<|zA 1 u<|zC<|zK<|qV<|qC<|zS u u kk [] d)<|zB<|zA 3 u<|zC<|zI u (zB<|zA 1 u<|qI zKj u ⟨ck 0,d⟩<|fun r1 _ k=>k<|zA 1 u<|
  qI zKj u ⟨ck 1,d⟩<|fun r2 _ k=>k<|zA 2 u<|zC<|zK<|qV<|qC<|zS u u kk [] d)<|zL<|qD<|zD<|zB<|zA 1 u<|qI zKk u ⟨ck 0,d⟩<|fun r3 _ k=>k<|zA 1 u<|
  qI zKk u ⟨ck 1,d⟩<|fun r4 _ k=>k<|zA 2 u<|zC<|zK<|zS u u kk [] d
theorem zI3 {qd : Prop} {y0 : zT} {y1 : List zP} {y2 : Int} {y3 : Int} {y4 : wQ} : qA qd prog 173 [.func (.func 177) #[] #[], pt b1 0, pt b2 0, pt b3 0, pt b4 0, pt b5 0] [bx b1 26 [sv p1 y0.1 c1, sv p2 y0.2.1 c2, sv p3 y0.2.2 c3], bx b2 46 [sv p4 y1 c4], bx b3 3 [vi y2], bx b4 3 [vi y3], bx b5 28 [vi y4.1, vi y4.2]] [Rl e_Premise p1 c1 y0.1, Rl e_Rule p2 c2 y0.2.1, Rl e_Promotion p3 c3 y0.2.2, Rl qR p4 c4 y1] (zBA y0 y1 y2 y3 y4) fun r K=>K (vb r) [bx b1 26 [sv p1 y0.1 c1, sv p2 y0.2.1 c2, sv p3 y0.2.2 c3], bx b2 46 [sv p4 y1 c4], bx b3 3 [vi y2], bx b4 3 [vi y3], bx b5 28 [vi y4.1, vi y4.2]] [] :=
 qE call173 func173 u fun X=>zB<|zA 1 u<|zC<|yK [] [0, 1, 2, 3, 4] 14<|zX 13 [0] u<|vM 1 0 3 u u u u<|qZ 2 1 u u u u<|qZ 3 2 u u u u<|zX 9 [5] u<|vM 6 0 3 u u u u<|qZ 7 1 u u u u<|qZ 8 3 u u u u<|
  qQ 10 1 u u<|qZ 11 4 u u u u<|qG 4<|qH (.f u) [] [] zG1 u u u ⟨ck 0,ck 1,ck 2,ck 3,d⟩<|fun r1 _ k p5 c5=>k<|zZ<|qG 9<|qH (.f u) [] [] zG1 u u u ⟨ck 1,ck 2,ck 3,ck 4,d⟩<|
  fun r2 _ k p6 c6=>k<|zZ<|qG 12<|qH (.f u) [] [] zJh u u u ⟨ck 1,ck 0,d⟩<|fun r3 _ k=>k<|zZ<|zX 0 [13] u<|qS<|zD<|zK<|zS u u kk [0,1,2,3,4] d
theorem zES {qd : Prop} {y0 : zT} {y1 : List zP} {y2 : Int} : qA qd prog 178 [.agg #[sv p1 y0.1 c1, sv p2 y0.2.1 c2, sv p3 y0.2.2 c3], sv p4 y1 c4, vi y2] [] [Rl e_Premise p1 c1 y0.1, Rl e_Rule p2 c2 y0.2.1, Rl e_Promotion p3 c3 y0.2.2, Rl qR p4 c4 y1] (zAl y0 y1 y2) fun r K=>∀ p5 c5,K (sv p5 r c5) [] [Rl (eInt .i64) p5 c5 r] :=
 qE call178 func178 u fun X=>zB<|qT .s u<|fun b1=>zA 1 u<|zC<|zB<|zA 1 u<|vD (eInt .i64) 3<|zC<|zG<|zB<|zA 2 u<|qI zJK u ⟨ck 4,d⟩<|fun r1 _ k p5 c5=>k<|zA 2 u<|zC<|zQ<|
  qP (fun s1 K=>∀ p6 c6 r_1,K [(3, pt b1 0), (7, sv p6 s1.1 c6), (13, sv p5 r1 c5), (14, vi (len r1)), (15, vi s1.2)] [bx b1 26 [sv p1 y0.1 c1, sv p2 y0.2.1 c2, sv p3 y0.2.2 c3], r_1] [Al (eInt .i64) 3 r_1 p6 c6 s1.1, Rl (eInt .i64) p5 c5 r1, Rl e_Premise p1 c1 y0.1, Rl e_Rule p2 c2 y0.2.1, Rl e_Promotion p3 c3 y0.2.2]) (gv (fun _ k=>k none 0 []) [0,1] ⟨gk 1,gk 0,gk 2,gk 3,gk 4,d⟩)<|
  fun s1 _ k p6 c6 r_1=>k<|zB<|zA 1 u<|zC<|zG<|zI u (zL<|zD<|zG<|zQ<|zB<|qX 1 u u u<|fun x1 b2 o1=>qW false oI (gk 0) u<|zA 1 u<|zC<|zB<|zU 0 u<|zV 0 u u u<|zA 1 u<|qX 3 u u u<|fun x2 b3 o2=>
  qW true zIV (gk 0) u<|wL .s (.agg #[vb false, vs [], vi 0, vi 0, vs []])<|fun b4=>qU .s 2 u u u<|zC<|zB<|zU 2 u<|zV 2 u u u<|zC<|zQ<|zB<|zA 2 u<|zC<|zI u (zM<|zA 1 u<|zU 3 u<|zV 2 u u u<|
  wV .s (e := eInt .i64) 3 [vi x2.2.2.1] ([x2.2.2.1] : List Int) (rC vI rN)<|fun p7 c7=>wM .s 1 3 u (gk 0) u u<|fun x3 r_2 p8 c8=>zA 1 u<|zF<|qD<|qD<|zD<|zM<|zA 2 u<|zF<|
  qF (gv (fun _ k=>k p8 c8 r_2) [0,1] ⟨gk 0,gk 5,gk 6,gk 7,gk 8,d⟩))<|zB<|zA 2 u<|zC<|zI u (zM<|zA 1 u<|wV .s (e := eInt .i64) 3 [vi (-1)] ([(-1)] : List Int) (rC vI rN)<|fun p9 c9=>wM .s 1 3 u (gk 0) u u<|
  fun x4 r_3 p10 c10=>zA 1 u<|zF<|qD<|qD<|zD<|zM<|zA 2 u<|zF<|qF (gv (fun _ k=>k p10 c10 r_3) [0,1] ⟨gk 0,gk 5,gk 6,gk 7,gk 8,d⟩))<|zL<|qD<|qD<|zD<|zM<|zA 2 u<|zF<|
  qF (gv (fun _ k=>k p6 c6 r_1) [0,1] ⟨gk 2,gk 3,gk 4,gk 5,gk 6,d⟩))<|qM<|qL<|qO<|qN<|zD<|zB<|zA 2 u<|zC<|zK<|wS 1 0 u u<|zS u u (fun _ k=>k p6 c6) [] ⟨gk 0,d⟩
theorem zBQ {qd : Prop} {y0 : zT} {y1 : List zP} {y2 : Int} {y3 : Int} {y4 : wQ} : qA qd prog 173 [.func (.func 178) #[] #[], pt b1 0, pt b2 0, pt b3 0, pt b4 0, pt b5 0] [bx b1 26 [sv p1 y0.1 c1, sv p2 y0.2.1 c2, sv p3 y0.2.2 c3], bx b2 46 [sv p4 y1 c4], bx b3 3 [vi y2], bx b4 3 [vi y3], bx b5 28 [vi y4.1, vi y4.2]] [Rl e_Premise p1 c1 y0.1, Rl e_Rule p2 c2 y0.2.1, Rl e_Promotion p3 c3 y0.2.2, Rl qR p4 c4 y1] (zAI y0 y1 y2 y3 y4) fun r K=>K (vb r) [bx b1 26 [sv p1 y0.1 c1, sv p2 y0.2.1 c2, sv p3 y0.2.2 c3], bx b2 46 [sv p4 y1 c4], bx b3 3 [vi y2], bx b4 3 [vi y3], bx b5 28 [vi y4.1, vi y4.2]] [] :=
 qE call173 func173 u fun X=>zB<|zA 1 u<|zC<|yK [] [0, 1, 2, 3, 4] 14<|zX 13 [0] u<|vM 1 0 3 u u u u<|qZ 2 1 u u u u<|qZ 3 2 u u u u<|zX 9 [5] u<|vM 6 0 3 u u u u<|qZ 7 1 u u u u<|qZ 8 3 u u u u<|
  qQ 10 1 u u<|qZ 11 4 u u u u<|qG 4<|qH (.f u) [] [] zES u u u ⟨ck 0,ck 1,ck 2,ck 3,d⟩<|fun r1 _ k p5 c5=>k<|zZ<|qG 9<|qH (.f u) [] [] zES u u u ⟨ck 1,ck 2,ck 3,ck 4,d⟩<|
  fun r2 _ k p6 c6=>k<|zZ<|qG 12<|qH (.f u) [] [] zJh u u u ⟨ck 1,ck 0,d⟩<|fun r3 _ k=>k<|zZ<|zX 0 [13] u<|qS<|zD<|zK<|zS u u kk [0,1,2,3,4] d
theorem zI2 {qd : Prop} {y0 : zT} {y1 : List zP} {y2 : Int} {y3 : Int} : qA qd prog 175 [.func (.func 177) #[] #[], pt b1 0, pt b2 0, pt b3 0, pt b4 0] [bx b1 26 [sv p1 y0.1 c1, sv p2 y0.2.1 c2, sv p3 y0.2.2 c3], bx b2 46 [sv p4 y1 c4], bx b3 3 [vi y2], bx b4 3 [vi y3]] [Rl e_Premise p1 c1 y0.1, Rl e_Rule p2 c2 y0.2.1, Rl e_Promotion p3 c3 y0.2.2, Rl qR p4 c4 y1] (zAz y0 y1 y2 y3) fun r K=>K (vb r) [bx b1 26 [sv p1 y0.1 c1, sv p2 y0.2.1 c2, sv p3 y0.2.2 c3], bx b2 46 [sv p4 y1 c4], bx b3 3 [vi y2], bx b4 3 [vi y3]] [] :=
 qE call175 func175 u fun X=>zB<|zA 1 u<|zC<|
  wA (fun s1 K=>K [(6, vb s1)] [bx b1 26 [sv p1 y0.1 c1, sv p2 y0.2.1 c2, sv p3 y0.2.2 c3], bx b2 46 [sv p4 y1 c4], bx b3 3 [vi y2], bx b4 3 [vi y3]] [Rl e_Premise p1 c1 y0.1, Rl e_Rule p2 c2 y0.2.1, Rl e_Promotion p3 c3 y0.2.2, Rl qR p4 c4 y1]) (
  zM<|zA 1 u<|qK 0 3 u u u<|zV 1 u u u<|zV 2 u u u<|qH .s [] [] zG1 u u u ⟨ck 0,ck 1,ck 2,ck 3,d⟩<|fun r1 _ k p5 c5=>k<|zA 3 u<|wH 14 u (zA 1 u<|qK 0 3 u u u<|zV 1 u u u<|
  zV 3 u u u<|qH .s [] [] zG1 u u u ⟨ck 1,ck 2,ck 3,ck 4,d⟩<|fun r2 _ k p6 c6=>k<|zA 2 u<|zJ (vb ((len r2) == 0))<|zA 1 u<|zF<|zN (gv kk [0,1,2,3] ⟨gk 2,gk 3,gk 4,gk 5,d⟩))<|zA 7 u<|
  zJ (vb false)<|zA 1 u<|zF<|zN (gv kk [0,1,2,3] ⟨gk 1,gk 2,gk 3,gk 4,d⟩))<|fun s1 _ k=>k<|zK<|zS u u kk [0,1,2,3] d
theorem zJS {qd : Prop} {y1 : zT} {y2 : List zP} {y3 : Int} {y4 : Int} {y5 : wQ} : qA qd prog 176 [pt b1 0, pt b7 0] [bx b1 194 [.func (.func 173) #[] #[pt b2 0, pt b3 0, pt b4 0, pt b5 0, pt b6 0]], bx b2 26 [sv p1 y1.1 c1, sv p2 y1.2.1 c2, sv p3 y1.2.2 c3], bx b3 46 [sv p4 y2 c4], bx b4 3 [vi y3], bx b5 3 [vi y4], bx b6 28 [vi y5.1, vi y5.2], bx b7 194 [.func (.func 175) #[] #[pt b2 0, pt b3 0, pt b4 0, pt b5 0]]] [Rl e_Premise p1 c1 y1.1, Rl e_Rule p2 c2 y1.2.1, Rl e_Promotion p3 c3 y1.2.2, Rl qR p4 c4 y2] (zCk y1 y2 y3 y4 y5) fun r K=>K (vb r) [bx b1 194 [.func (.func 173) #[] #[pt b2 0, pt b3 0, pt b4 0, pt b5 0, pt b6 0]], bx b2 26 [sv p1 y1.1 c1, sv p2 y1.2.1 c2, sv p3 y1.2.2 c3], bx b3 46 [sv p4 y2 c4], bx b4 3 [vi y3], bx b5 3 [vi y4], bx b6 28 [vi y5.1, vi y5.2], bx b7 194 [.func (.func 175) #[] #[pt b2 0, pt b3 0, pt b4 0, pt b5 0]]] [] :=
 qE call176 func176 u fun X=>zB<|zA 1 u<|zC<|
  wA (fun s1 K=>K [(2, vb s1)] [bx b1 194 [.func (.func 173) #[] #[pt b2 0, pt b3 0, pt b4 0, pt b5 0, pt b6 0]], bx b2 26 [sv p1 y1.1 c1, sv p2 y1.2.1 c2, sv p3 y1.2.2 c3], bx b3 46 [sv p4 y2 c4], bx b4 3 [vi y3], bx b5 3 [vi y4], bx b6 28 [vi y5.1, vi y5.2], bx b7 194 [.func (.func 175) #[] #[pt b2 0, pt b3 0, pt b4 0, pt b5 0]]] [Rl e_Premise p1 c1 y1.1, Rl e_Rule p2 c2 y1.2.1, Rl e_Promotion p3 c3 y1.2.2, Rl qR p4 c4 y2]) (
  zM<|zV 0 u u u<|qH .s [1, 2, 3, 4, 5] [] zI3 u u u ⟨ck 0,ck 1,ck 2,ck 3,d⟩<|fun r1 _ k=>k<|zA 1 u<|wH 5 u (zA 6 u<|zJ (vb true)<|zA 1 u<|zF<|
  zN (gv kk [0,1,2,3,4,5,6] ⟨gk 0,gk 1,gk 2,gk 3,d⟩))<|zV 6 u u u<|qH .s [1, 2, 3, 4] [] zI2 u u u ⟨ck 0,ck 1,ck 2,ck 3,d⟩<|fun r2 _ k=>k<|zA 1 u<|wH 8 u (zV 0 u u u<|
  qH .s [1, 2, 3, 4, 5] [] zBQ u u u ⟨ck 0,ck 1,ck 2,ck 3,d⟩<|fun r3 _ k=>k<|zJ (vb r3)<|zJ (vb r3)<|zA 1 u<|zF<|zN (gv kk [0,1,2,3,4,5,6] ⟨gk 0,gk 1,gk 2,gk 3,d⟩))<|zA 2 u<|
  zJ (vb false)<|zJ (vb false)<|zA 1 u<|zF<|zN (gv kk [0,1,2,3,4,5,6] ⟨gk 0,gk 1,gk 2,gk 3,d⟩))<|fun s1 _ k=>k<|zK<|zS u u kk [0,1,2,3,4,5,6] d
theorem zG5 {qd : Prop} {y0 : zT} {y1 : List zP} {y2 : Int} : qA qd prog 180 [.agg #[sv p1 y0.1 c1, sv p2 y0.2.1 c2, sv p3 y0.2.2 c3], sv p4 y1 c4, vi y2] [] [Rl e_Premise p1 c1 y0.1, Rl e_Rule p2 c2 y0.2.1, Rl e_Promotion p3 c3 y0.2.2, Rl qR p4 c4 y1] (zBp y0 y1 y2) fun r K=>∀ p5 c5,K (sv p5 r c5) [] [Rl (eInt .i64) p5 c5 r] :=
 qE call180 func180 u fun X=>zB<|qT .s u<|fun b1=>zA 1 u<|zC<|yK [] [0] 7<|vM 0 0 3 u u u u<|vM 1 0 3 u u u u<|zX 3 [2,3] u<|qG 4<|qH (.f u) [] [] zIG u u u ⟨ck 0,ck 1,ck 2,ck 3,d⟩<|fun r1 _ k p5 c5=>k<|zZ<|
  qG 5<|qH (.f u) [] [] zNo u u u ⟨ck 1,ck 2,ck 3,ck 0,d⟩<|fun r2 _ k p6 c6=>k<|zZ<|zX 0 [6] u<|qS<|zD<|zK<|zS u u (fun _ k=>k p6 c6) [] ⟨gk 0,d⟩
theorem zEy {qd : Prop} {y0 : zT} {y1 : List zP} {y2 : Int} {y3 : Int} {y4 : wQ} : qA qd prog 173 [.func (.func 180) #[] #[], pt b1 0, pt b2 0, pt b3 0, pt b4 0, pt b5 0] [bx b1 26 [sv p1 y0.1 c1, sv p2 y0.2.1 c2, sv p3 y0.2.2 c3], bx b2 46 [sv p4 y1 c4], bx b3 3 [vi y2], bx b4 3 [vi y3], bx b5 28 [vi y4.1, vi y4.2]] [Rl e_Premise p1 c1 y0.1, Rl e_Rule p2 c2 y0.2.1, Rl e_Promotion p3 c3 y0.2.2, Rl qR p4 c4 y1] (zA7 y0 y1 y2 y3 y4) fun r K=>K (vb r) [bx b1 26 [sv p1 y0.1 c1, sv p2 y0.2.1 c2, sv p3 y0.2.2 c3], bx b2 46 [sv p4 y1 c4], bx b3 3 [vi y2], bx b4 3 [vi y3], bx b5 28 [vi y4.1, vi y4.2]] [] :=
 qE call173 func173 u fun X=>zB<|zA 1 u<|zC<|yK [] [0, 1, 2, 3, 4] 14<|zX 13 [0] u<|vM 1 0 3 u u u u<|qZ 2 1 u u u u<|qZ 3 2 u u u u<|zX 9 [5] u<|vM 6 0 3 u u u u<|qZ 7 1 u u u u<|qZ 8 3 u u u u<|
  qQ 10 1 u u<|qZ 11 4 u u u u<|qG 4<|qH (.f u) [] [] zG5 u u u ⟨ck 0,ck 1,ck 2,ck 3,d⟩<|fun r1 _ k p5 c5=>k<|zZ<|qG 9<|qH (.f u) [] [] zG5 u u u ⟨ck 1,ck 2,ck 3,ck 4,d⟩<|
  fun r2 _ k p6 c6=>k<|zZ<|qG 12<|qH (.f u) [] [] zJh u u u ⟨ck 1,ck 0,d⟩<|fun r3 _ k=>k<|zZ<|zX 0 [13] u<|qS<|zD<|zK<|zS u u kk [0,1,2,3,4] d
theorem zH6 {qd : Prop} {y0 : zT} {y1 : List zP} {y2 : Int} {y3 : Int} : qA qd prog 175 [.func (.func 178) #[] #[], pt b1 0, pt b2 0, pt b3 0, pt b4 0] [bx b1 26 [sv p1 y0.1 c1, sv p2 y0.2.1 c2, sv p3 y0.2.2 c3], bx b2 46 [sv p4 y1 c4], bx b3 3 [vi y2], bx b4 3 [vi y3]] [Rl e_Premise p1 c1 y0.1, Rl e_Rule p2 c2 y0.2.1, Rl e_Promotion p3 c3 y0.2.2, Rl qR p4 c4 y1] (zAh y0 y1 y2 y3) fun r K=>K (vb r) [bx b1 26 [sv p1 y0.1 c1, sv p2 y0.2.1 c2, sv p3 y0.2.2 c3], bx b2 46 [sv p4 y1 c4], bx b3 3 [vi y2], bx b4 3 [vi y3]] [] :=
 qE call175 func175 u fun X=>zB<|zA 1 u<|zC<|
  wA (fun s1 K=>K [(6, vb s1)] [bx b1 26 [sv p1 y0.1 c1, sv p2 y0.2.1 c2, sv p3 y0.2.2 c3], bx b2 46 [sv p4 y1 c4], bx b3 3 [vi y2], bx b4 3 [vi y3]] [Rl e_Premise p1 c1 y0.1, Rl e_Rule p2 c2 y0.2.1, Rl e_Promotion p3 c3 y0.2.2, Rl qR p4 c4 y1]) (
  zM<|zA 1 u<|qK 0 3 u u u<|zV 1 u u u<|zV 2 u u u<|qH .s [] [] zES u u u ⟨ck 0,ck 1,ck 2,ck 3,d⟩<|fun r1 _ k p5 c5=>k<|zA 3 u<|wH 14 u (zA 1 u<|qK 0 3 u u u<|
  zV 1 u u u<|zV 3 u u u<|qH .s [] [] zES u u u ⟨ck 1,ck 2,ck 3,ck 4,d⟩<|fun r2 _ k p6 c6=>k<|zA 2 u<|zJ (vb ((len r2) == 0))<|zA 1 u<|zF<|zN (gv kk [0,1,2,3] ⟨gk 2,gk 3,gk 4,gk 5,d⟩)
  )<|zA 7 u<|zJ (vb false)<|zA 1 u<|zF<|zN (gv kk [0,1,2,3] ⟨gk 1,gk 2,gk 3,gk 4,d⟩))<|fun s1 _ k=>k<|zK<|zS u u kk [0,1,2,3] d
theorem zI4 {qd : Prop} {y0 : zT} {y1 : List zP} {y2 : Int} {y3 : Int} : qA qd prog 175 [.func (.func 180) #[] #[], pt b1 0, pt b2 0, pt b3 0, pt b4 0] [bx b1 26 [sv p1 y0.1 c1, sv p2 y0.2.1 c2, sv p3 y0.2.2 c3], bx b2 46 [sv p4 y1 c4], bx b3 3 [vi y2], bx b4 3 [vi y3]] [Rl e_Premise p1 c1 y0.1, Rl e_Rule p2 c2 y0.2.1, Rl e_Promotion p3 c3 y0.2.2, Rl qR p4 c4 y1] (zBB y0 y1 y2 y3) fun r K=>K (vb r) [bx b1 26 [sv p1 y0.1 c1, sv p2 y0.2.1 c2, sv p3 y0.2.2 c3], bx b2 46 [sv p4 y1 c4], bx b3 3 [vi y2], bx b4 3 [vi y3]] [] :=
 qE call175 func175 u fun X=>zB<|zA 1 u<|zC<|
  wA (fun s1 K=>K [(6, vb s1)] [bx b1 26 [sv p1 y0.1 c1, sv p2 y0.2.1 c2, sv p3 y0.2.2 c3], bx b2 46 [sv p4 y1 c4], bx b3 3 [vi y2], bx b4 3 [vi y3]] [Rl e_Premise p1 c1 y0.1, Rl e_Rule p2 c2 y0.2.1, Rl e_Promotion p3 c3 y0.2.2, Rl qR p4 c4 y1]) (
  zM<|zA 1 u<|qK 0 3 u u u<|zV 1 u u u<|zV 2 u u u<|qH .s [] [] zG5 u u u ⟨ck 0,ck 1,ck 2,ck 3,d⟩<|fun r1 _ k p5 c5=>k<|zA 3 u<|wH 14 u (zA 1 u<|qK 0 3 u u u<|zV 1 u u u<|
  zV 3 u u u<|qH .s [] [] zG5 u u u ⟨ck 1,ck 2,ck 3,ck 4,d⟩<|fun r2 _ k p6 c6=>k<|zA 2 u<|zJ (vb ((len r2) == 0))<|zA 1 u<|zF<|zN (gv kk [0,1,2,3] ⟨gk 2,gk 3,gk 4,gk 5,d⟩))<|zA 7 u<|
  zJ (vb false)<|zA 1 u<|zF<|zN (gv kk [0,1,2,3] ⟨gk 1,gk 2,gk 3,gk 4,d⟩))<|fun s1 _ k=>k<|zK<|zS u u kk [0,1,2,3] d
theorem zJO {qd : Prop} {y1 : zT} {y2 : List zP} {y3 : Int} {y4 : Int} {y6 : wQ} : qA qd prog 179 [pt b1 0, pt b6 0] [bx b1 194 [.func (.func 175) #[] #[pt b2 0, pt b3 0, pt b4 0, pt b5 0]], bx b2 26 [sv p1 y1.1 c1, sv p2 y1.2.1 c2, sv p3 y1.2.2 c3], bx b3 46 [sv p4 y2 c4], bx b4 3 [vi y3], bx b5 3 [vi y4], bx b6 194 [.func (.func 173) #[] #[pt b2 0, pt b3 0, pt b4 0, pt b5 0, pt b7 0]], bx b7 28 [vi y6.1, vi y6.2]] [Rl e_Premise p1 c1 y1.1, Rl e_Rule p2 c2 y1.2.1, Rl e_Promotion p3 c3 y1.2.2, Rl qR p4 c4 y2] (zCi y1 y2 y3 y4 y6) fun r K=>K (vb r) [bx b1 194 [.func (.func 175) #[] #[pt b2 0, pt b3 0, pt b4 0, pt b5 0]], bx b2 26 [sv p1 y1.1 c1, sv p2 y1.2.1 c2, sv p3 y1.2.2 c3], bx b3 46 [sv p4 y2 c4], bx b4 3 [vi y3], bx b5 3 [vi y4], bx b6 194 [.func (.func 173) #[] #[pt b2 0, pt b3 0, pt b4 0, pt b5 0, pt b7 0]], bx b7 28 [vi y6.1, vi y6.2]] [] :=
 qE call179 func179 u fun X=>zB<|zA 1 u<|zC<|zG<|zQ<|zB<|zV 0 u u u<|qH .s [1, 2, 3, 4] [] zI4 u u u ⟨ck 0,ck 1,ck 2,ck 3,d⟩<|fun r1 _ k=>k<|zA 1 u<|zC<|zI u (zB<|zV 5 u u u<|
  qH .s [1, 2, 3, 4, 6] [] zBQ u u u ⟨ck 0,ck 1,ck 2,ck 3,d⟩<|fun r2 _ k=>k<|zA 1 u<|zC<|zK<|qV<|qC<|zS u u kk [0,1,2,3,4,5,6] d)<|zB<|zV 0 u u u<|
  qH .s [1, 2, 3, 4] [] zH6 u u u ⟨ck 0,ck 1,ck 2,ck 3,d⟩<|fun r3 _ k=>k<|zA 1 u<|zC<|zI u (zB<|zV 5 u u u<|
  qH .s [1, 2, 3, 4, 6] [] zEy rfl u u ⟨ck 0,ck 1,ck 2,ck 3,d⟩<|fun r4 _ k=>k<|zA 1 u<|zC<|zK<|qV<|qC<|zS u u kk [0,1,2,3,4,5,6] d)<|zL<|qD<|zD<|
  wA (fun s1 K=>K [(2, vb s1)] [bx b1 194 [.func (.func 175) #[] #[pt b2 0, pt b3 0, pt b4 0, pt b5 0]], bx b2 26 [sv p1 y1.1 c1, sv p2 y1.2.1 c2, sv p3 y1.2.2 c3], bx b3 46 [sv p4 y2 c4], bx b4 3 [vi y3], bx b5 3 [vi y4], bx b6 194 [.func (.func 173) #[] #[pt b2 0, pt b3 0, pt b4 0, pt b5 0, pt b7 0]], bx b7 28 [vi y6.1, vi y6.2]] [Rl e_Premise p1 c1 y1.1, Rl e_Rule p2 c2 y1.2.1, Rl e_Promotion p3 c3 y1.2.2, Rl qR p4 c4 y2]) (
  zM<|zV 5 u u u<|qH .s [1, 2, 3, 4, 6] [] zBQ u u u ⟨ck 0,ck 1,ck 2,ck 3,d⟩<|fun r5 _ k=>k<|zA 1 u<|wH 15 u (zV 5 u u u<|
  qH .s [1, 2, 3, 4, 6] [] zEy rfl u u ⟨ck 0,ck 1,ck 2,ck 3,d⟩<|fun r6 _ k=>k<|zJ (vb r6)<|zA 1 u<|zF<|zN (gv kk [0,1,2,3,4,5,6] ⟨gk 0,gk 1,gk 2,gk 3,d⟩))<|zA 2 u<|zJ (vb false)<|
  zA 1 u<|zF<|zN (gv kk [0,1,2,3,4,5,6] ⟨gk 0,gk 1,gk 2,gk 3,d⟩))<|fun s1 _ k=>k<|zK<|zS u u kk [0,1,2,3,4,5,6] d
theorem zT3 {qd : Prop} {y0 : zT} {y1 : List zP} {y2 : Int} {y3 : Int} {y4 : wQ} : qA qd prog 112 [.agg #[sv p1 y0.1 c1, sv p2 y0.2.1 c2, sv p3 y0.2.2 c3], sv p4 y1 c4, vi y2, vi y3, .agg #[vi y4.1, vi y4.2]] [] [Rl e_Premise p1 c1 y0.1, Rl e_Rule p2 c2 y0.2.1, Rl e_Promotion p3 c3 y0.2.2, Rl qR p4 c4 y1] (zK4 y0 y1 y2 y3 y4) fun r K=>K (vb r) [] [] :=
 qE call112 func112 u fun X=>zB<|qT .s u<|fun b1=>qT .s u<|fun b2=>qT .s u<|fun b3=>qT .s u<|fun b4=>qT .s u<|fun b5=>zA 1 u<|zC<|zG<|
  wA (fun s1 K=>K [(5, pt b1 0), (6, pt b2 0), (7, pt b3 0), (8, pt b4 0), (9, pt b5 0), (31, vb s1)] [bx b1 26 [sv p1 y0.1 c1, sv p2 y0.2.1 c2, sv p3 y0.2.2 c3], bx b2 46 [sv p4 y1 c4], bx b3 3 [vi y2], bx b4 3 [vi y3], bx b5 28 [vi y4.1, vi y4.2]] [Rl e_Premise p1 c1 y0.1, Rl e_Rule p2 c2 y0.2.1, Rl e_Promotion p3 c3 y0.2.2, Rl qR p4 c4 y1]) (
  zM<|zV 2 u u u<|zV 3 u u u<|zA 3 u<|wH 18 u (zA 6 u<|zJ (vb true)<|zA 5 u<|zJ (vb true)<|zF<|zN (gv kk [0,1,2,3,4] ⟨gk 0,gk 1,gk 2,gk 3,d⟩))<|zV 2 u u u<|zV 3 u u u<|zA 1 u<|
  zV 1 u u u<|zA 2 u<|zJ (vb (decide ((len y1) ≤ (if y3 > y2 then y3 else y2))))<|zA 1 u<|wH 26 u (zA 4 u<|zJ (vb true)<|zF<|zN (gv kk [0,1,2,3,4] ⟨gk 0,gk 1,gk 2,gk 3,d⟩))<|qK 0 3 u u u<|
  zV 1 u u u<|zV 3 u u u<|qI zPx u ⟨ck 0,ck 1,ck 2,ck 3,d⟩<|fun r1 _ k=>k<|zJ (vb r1)<|zF<|zN (gv kk [0,1,2,3,4] ⟨gk 0,gk 1,gk 2,gk 3,d⟩))<|fun s1 _ k=>k<|zI u (zB<|zA 1 u<|zC<|zK<|qC<|
  zS u u kk [] d)<|zL<|zD<|zB<|zA 1 u<|wL .s (.nilFunc)<|fun b6=>qU .s 5 u u u<|zC<|zB<|zA 1 u<|wL .s (.nilFunc)<|fun b7=>qU .s 6 u u u<|zC<|zB<|zA 1 u<|zC<|zG<|zB<|zU 0 u<|
  zV 4 u u u<|zC<|zQ<|zB<|zA 2 u<|zC<|zI u (zM<|zA 2 u<|zF<|qD<|zD<|zB<|zA 1 u<|qH .s [5, 0, 1, 2, 3, 4, 6] [] zJS u u u ⟨ck 0,ck 1,ck 2,ck 3,d⟩<|fun r2 _ k=>k<|zA 1 u<|zC<|zK<|
  zS u u kk [] d)<|zB<|zA 2 u<|zC<|zI u (zM<|zA 2 u<|zF<|qD<|zD<|zB<|zA 1 u<|qH .s [6, 0, 1, 2, 3, 5, 4] [] zJO u u u ⟨ck 0,ck 1,ck 2,ck 3,d⟩<|fun r3 _ k=>k<|zA 1 u<|zC<|
  zK<|zS u u kk [] d)<|zB<|zA 1 u<|zC<|zK<|qV<|qC<|zS u u kk [] d
theorem zJ2 {qd : Prop} {y0 : wB} {y1 : zT} {y2 : List zP} {y3 : wQ} : qA qd prog 111 [.agg #[vi y0.1, vi y0.2.1, vi y0.2.2.1, vi y0.2.2.2], pt b1 0, pt b2 0, pt b3 0] [bx b1 26 [sv p1 y1.1 c1, sv p2 y1.2.1 c2, sv p3 y1.2.2 c3], bx b2 46 [sv p4 y2 c4], bx b3 28 [vi y3.1, vi y3.2]] [Rl e_Premise p1 c1 y1.1, Rl e_Rule p2 c2 y1.2.1, Rl e_Promotion p3 c3 y1.2.2, Rl qR p4 c4 y2] (zBd y0 y1 y2 y3) fun r K=>K (vb r) [bx b1 26 [sv p1 y1.1 c1, sv p2 y1.2.1 c2, sv p3 y1.2.2 c3], bx b2 46 [sv p4 y2 c4], bx b3 28 [vi y3.1, vi y3.2]] [] :=
 qE call111 func111 u fun X=>zB<|qT .s u<|fun b4=>zA 1 u<|zC<|
  wA (fun s1 K=>K [(5, vb s1)] [bx b1 26 [sv p1 y1.1 c1, sv p2 y1.2.1 c2, sv p3 y1.2.2 c3], bx b2 46 [sv p4 y2 c4], bx b3 28 [vi y3.1, vi y3.2], []] [Rl e_Premise p1 c1 y1.1, Rl e_Rule p2 c2 y1.2.1, Rl e_Promotion p3 c3 y1.2.2, Rl qR p4 c4 y2]) (
  zM<|zU 3 u<|zV 3 u u u<|zA 2 u<|wH 9 u (qK 0 3 u u u<|zV 1 u u u<|zU 0 u<|zV 3 u u u<|zU 2 u<|zV 3 u u u<|qK 2 2 u u u<|qI zT3 u ⟨ck 0,ck 1,ck 2,ck 3,d⟩<|fun r1 _ k=>k<|
  zJ (vb r1)<|zA 1 u<|zF<|zN (gv kk [0,1,2,903] ⟨gk 0,gk 1,gk 2,gk 3,d⟩))<|zA 8 u<|zJ (vb false)<|zA 1 u<|zF<|zN (gv kk [0,1,2,903] ⟨gk 0,gk 1,gk 2,gk 3,d⟩))<|fun s1 _ k=>k<|zK<|
  zS u u kk [0,1,2] d
theorem zE0 {qd : Prop} {y0 : List wB} {y1 : zT} {y2 : List zP} {y3 : wQ} : qA qd prog 167 [sv p1 y0 c1, .func (.func 111) #[] #[pt b1 0, pt b2 0, pt b3 0]] [bx b1 26 [sv p2 y1.1 c2, sv p3 y1.2.1 c3, sv p4 y1.2.2 c4], bx b2 46 [sv p5 y2 c5], bx b3 28 [vi y3.1, vi y3.2]] [Rl vW p1 c1 y0, Rl e_Premise p2 c2 y1.1, Rl e_Rule p3 c3 y1.2.1, Rl e_Promotion p4 c4 y1.2.2, Rl qR p5 c5 y2] (zBL y0 y1 y2 y3) fun r K=>K (vi r) [bx b1 26 [sv p2 y1.1 c2, sv p3 y1.2.1 c3, sv p4 y1.2.2 c4], bx b2 46 [sv p5 y2 c5], bx b3 28 [vi y3.1, vi y3.2]] [] :=
 qE call167 func167 u fun X=>zB<|zA 1 u<|zC<|zG<|zB<|zA 3 u<|zC<|zQ<|
  qP (fun s1 K=>K [(0, sv p1 y0 c1), (1, .func (.func 111) #[] #[pt b1 0, pt b2 0, pt b3 0]), (7, vi (len y0)), (8, vi s1)] [bx b1 26 [sv p2 y1.1 c2, sv p3 y1.2.1 c3, sv p4 y1.2.2 c4], bx b2 46 [sv p5 y2 c5], bx b3 28 [vi y3.1, vi y3.2]] [Rl vW p1 c1 y0, Rl e_Premise p2 c2 y1.1, Rl e_Rule p3 c3 y1.2.1, Rl e_Promotion p4 c4 y1.2.2, Rl qR p5 c5 y2]) (gv kk [0,1,2] ⟨gk 0,gk 1,gk 2,gk 3,gk 4,d⟩)<|
  fun s1 _ k=>k<|zB<|zA 1 u<|zC<|zG<|zI u (zL<|zD<|zG<|zQ<|zB<|zA 2 u<|zC<|zB<|zA 3 u<|qX 0 u u u<|fun x1 b4 o1=>qW true zO5 (gk 0) u<|
  qH .s [0, 1, 2] [] zJ2 u u u ⟨ck 2,ck 3,ck 4,ck 5,d⟩<|fun r1 _ k=>k<|zC<|zI u (zB<|zA 2 u<|zC<|zK<|qV<|qC<|wX<|qV<|qC<|zS u u kk [0,1,2] d)<|zL<|qD<|zD<|zM<|zA 2 u<|zF<|
  qF (gv kk [0,1,2] ⟨gk 1,gk 2,gk 3,gk 4,gk 5,d⟩))<|qM<|qL<|qO<|qN<|zD<|zB<|zA 1 u<|zC<|zK<|zS u u kk [0,1,2] d
theorem zEB {qd : Prop} {y0 : List wB} {y1 : zT} {y2 : List zP} {y3 : wQ} : qA qd prog 109 [sv p1 y0 c1, .func (.func 111) #[] #[pt b1 0, pt b2 0, pt b3 0]] [r_1, bx b1 26 [sv p2 y1.1 c2, sv p3 y1.2.1 c3, sv p4 y1.2.2 c4], bx b2 46 [sv p5 y2 c5], bx b3 28 [vi y3.1, vi y3.2]] [Al vW 123 r_1 p1 c1 y0, Rl e_Premise p2 c2 y1.1, Rl e_Rule p3 c3 y1.2.1, Rl e_Promotion p4 c4 y1.2.2, Rl qR p5 c5 y2] (zAY y0 y1 y2 y3) fun r K=>∀ p6 c6,K (sv p6 r c6) [[], bx b1 26 [sv p2 y1.1 c2, sv p3 y1.2.1 c3, sv p4 y1.2.2 c4], bx b2 46 [sv p5 y2 c5], bx b3 28 [vi y3.1, vi y3.2]] [Rl vW p6 c6 r] :=
 qE call109 func109 u fun X=>zB<|zA 1 u<|zC<|zB<|zA 2 u<|qH .s [1, 2, 3] [0] zE0 u u u ⟨cl 0 0,ck 1,ck 2,ck 3,ck 4,d⟩<|fun r1 _ k=>k<|zA 1 u<|zC<|zG<|zB<|zA 2 u<|zC<|zI u (zB<|zA 2 u<|zC<|zK<|
  qC<|wS 0 0 u u<|zS u u (fun _ k=>k p1 c1) [900,1,2,3] ⟨gk 0,d⟩)<|zL<|zD<|
  wA (fun s1 K=>∀ r_2,K [(0, .slice p1 (List.length y0) c1), (5, vi s1.2)] [r_2, bx b1 26 [sv p2 y1.1 c2, sv p3 y1.2.1 c3, sv p4 y1.2.2 c4], bx b2 46 [sv p5 y2 c5], bx b3 28 [vi y3.1, vi y3.2]] [Ar vW 123 r_2 p1 c1 (List.length y0) s1.1, Rl e_Premise p2 c2 y1.1, Rl e_Rule p3 c3 y1.2.1, Rl e_Promotion p4 c4 y1.2.2, Rl qR p5 c5 y2]) (
  zB<|zA 3 u<|zC<|zQ<|
  qP (fun s2 K=>∀ r_3,K [(0, .slice p1 (List.length y0) c1), (1, .func (.func 111) #[] #[pt b1 0, pt b2 0, pt b3 0]), (5, vi s2.2.1), (6, vi s2.2.2)] [r_3, bx b1 26 [sv p2 y1.1 c2, sv p3 y1.2.1 c3, sv p4 y1.2.2 c4], bx b2 46 [sv p5 y2 c5], bx b3 28 [vi y3.1, vi y3.2]] [Ar vW 123 r_3 p1 c1 (List.length y0) s2.1, Rl e_Premise p2 c2 y1.1, Rl e_Rule p3 c3 y1.2.1, Rl e_Promotion p4 c4 y1.2.2, Rl qR p5 c5 y2]) (gv (fun _ k=>k r_1) [0,1,2,3] ⟨gk 0,gk 1,gk 2,gk 3,gk 4,d⟩)<|
  fun s2 _ k r_3=>k<|zG<|zB<|zA 4 u<|zC<|zI u (zL<|zD<|zG<|zQ<|zB<|zA 2 u<|yH 0 u u u<|fun x1 h1 b4 hp1=>uV 0 0 sI true zO5 u hp1 h1 u<|wL .s (.agg #[vi 0, vi 0, vi 0, vi 0])<|fun b5=>qU .s 4 u u u<|
  zC<|zB<|zA 1 u<|qK 4 4 u u u<|qH .s [1, 2, 3] [] zJ2 u u u ⟨ck 1,ck 2,ck 3,ck 4,d⟩<|fun r2 _ k=>k<|zA 1 u<|zC<|zI u (zB<|zA 2 u<|qK 4 4 u u u<|yH 0 u u u<|fun x2 h2 b6 hp2=>
  uX .s 0 0 sI x1 true u hp2 h2 u u (vP vI (vP vI (vP vI vI)))<|fun r_4=>zC<|zM<|zA 3 u<|zF<|qD<|zD<|zM<|zA 3 u<|zF<|qF (gv (fun _ k=>k r_4) [0,1,2,3] ⟨gk 0,gk 2,gk 3,gk 4,gk 5,d⟩))<|zL<|qD<|zD<|zM<|zA 3 u<|zF<|
  qF (gv (fun _ k=>k r_3) [0,1,2,3] ⟨gk 0,gk 1,gk 2,gk 3,gk 4,d⟩))<|qM<|qL<|qO<|qN<|zN (gv (fun _ k=>k r_3) [0,1,2,3] ⟨gk 0,gk 1,gk 2,gk 3,gk 4,d⟩))<|fun s1 _ k r_2=>k<|zB<|zA 2 u<|jsV 0 u u u<|fun u1 p6 c6 f1=>
  jcv .s 0 0 (0, 0, 0, 0) (.agg #[vi 0, vi 0, vi 0, vi 0]) u f1 u (vP vI (vP vI (vP vI vI)))<|fun r_5=>zC<|zB<|zA 2 u<|jsP 0 u u u<|fun x3=>zA 1 u<|zC<|zK<|wS 0 0 u u<|
  zS u u (fun _ k=>k p1 c1) [900,1,2,3] ⟨gk 0,d⟩
theorem zKn {qd : Prop} {y0 : zT} {y1 : List zP} {y2 : wQ} : qA qd prog 63 [.agg #[sv p1 y0.1 c1, sv p2 y0.2.1 c2, sv p3 y0.2.2 c3], sv p4 y1 c4, .agg #[vi y2.1, vi y2.2]] [] [Rl e_Premise p1 c1 y0.1, Rl e_Rule p2 c2 y0.2.1, Rl e_Promotion p3 c3 y0.2.2, Rl qR p4 c4 y1] (zEz y0 y1 y2) fun r K=>∀ p5 c5,K (sv p5 r c5) [] [Rl vW p5 c5 r] :=
 qE call63 func63 u fun X=>zB<|qT .s u<|fun b1=>qT .s u<|fun b2=>qT .s u<|fun b3=>zA 1 u<|zC<|zB<|qK 0 3 u u u<|zV 1 u u u<|qI zOK u ⟨ck 0,ck 1,ck 2,ck 3,d⟩<|fun r1 _ k p5 c5 r_1=>k<|zA 1 u<|
  qH .s [3, 0, 1, 2] [] zEB u u u ⟨ck 0,ck 1,ck 2,ck 3,ck 4,d⟩<|fun r2 _ k p6 c6=>k<|zA 1 u<|zC<|zK<|zS u u (fun _ k=>k p6 c6) [] ⟨gk 0,d⟩
theorem zLC {qd : Prop} {y0 : List wI} : qA qd prog 108 [sv p1 y0 c1] [r_1] [Al wF 58 r_1 p1 c1 y0] (zFm y0) fun r K=>∀ p2 c2,K (sv p2 r c2) [[]] [Rl wF p2 c2 r] :=
 qE call108 func108 u fun X=>zB<|zA 1 u<|zC<|zG<|zB<|zA 3 u<|zC<|zI u (zB<|zA 2 u<|zC<|zK<|qC<|wS 0 0 u u<|zS u u (fun _ k=>k p1 c1) [900] ⟨gk 0,d⟩)<|zL<|zD<|zG<|zB<|zA 1 u<|zC<|zQ<|
  qP (fun s1 K=>K [(0, sv p1 y0 c1), (3, vi s1)] [r_1] [Al wF 58 r_1 p1 c1 y0]) (gv kk [0] ⟨gk 0,d⟩)<|fun s1 _ k=>k<|zG<|zB<|zA 4 u<|zC<|zI u (zL<|zD<|zG<|zQ<|yK [] [0] 10<|zX 8 [0,1] u<|
  xW 2 0 u u u u<|fun x1 h1 b1 hp1=>xU 3 0 0 sI true zL6 u u hp1 h1 u<|zX 3 [4,5,6] u<|xW 7 0 u u u u<|fun x2 h2 b2 hp2=>xU 8 0 0 sI true zL6 u u hp2 h2 u<|wC 9 (vb (x1 == x2)) u<|qS<|zD<|
  zI u (zB<|zA 2 u<|jsV 0 u u u<|fun u1 p2 c2 f1=>zA 1 u<|zC<|wA (fun s2 K=>∀ r_2,K [(0, .slice p1 (List.length y0) c1), (3, vi s2.2)] [r_2] [Ar wF 58 r_2 p1 c1 (List.length y0) s2.1]) (zB<|zA 1 u<|zC<|zQ<|
  qP (fun s3 K=>∀ r_3,K [(0, .slice p1 (List.length y0) c1), (3, vi s3.2.1), (4, .slice p2 (Int.toNat (((List.length y0 : Nat) : Int) - s1)) c2), (5, vi s3.2.2)] [r_3] [Ar wF 58 r_3 p1 c1 (List.length y0) s3.1]) (gv (fun _ k=>k r_1) [0] ⟨gk 0,d⟩)<|
  fun s3 _ k r_3=>k<|zG<|zB<|zA 4 u<|zC<|zI u (zL<|zD<|zG<|zQ<|yK [] [0] 10<|zX 8 [0,1] u<|jdX 2 0 u u f1 u u<|fun x3 b3 hp3 h3=>xU 3 0 0 sI true zL6 u u hp3 h3 u<|zX 3 [4,5,6] u<|
  jdX 7 0 u u f1 u u<|fun x4 b4 hp4 h4=>xU 8 0 0 sI true zL6 u u hp4 h4 u<|wC 9 (vb (!(x3 == x4))) u<|qS<|zD<|zI u (zB<|zA 4 u<|jiV 0 u f1 u u<|fun x5 b5 hp5 h5=>uV 0 0 sI true zL6 u hp5 h5 u<|
  yH 0 u u u<|fun x6 h6 b6 hp6=>uX .s 0 0 sI x5 true u hp6 h6 u u (vP vI vI)<|fun r_4=>zC<|zM<|zA 3 u<|zF<|qD<|zD<|zM<|zA 3 u<|zF<|qF (gv (fun _ k=>k r_4) [0] ⟨gk 0,d⟩))<|zL<|qD<|zD<|zM<|zA 3 u<|zF<|
  qF (gv (fun _ k=>k r_3) [0] ⟨gk 0,d⟩))<|qM<|qL<|qO<|qN<|zN (gv (fun _ k=>k r_3) [0] ⟨gk 0,d⟩))<|fun s2 _ k r_2=>k<|zB<|zA 2 u<|jsV 0 u u u<|fun u2 p3 c3 f2=>jcv .s 0 0 (0, 0) (.agg #[vi 0, vi 0]) u f2 u (vP vI vI)<|
  fun r_5=>zC<|zB<|zA 2 u<|jsP 0 u u u<|fun x7=>zA 1 u<|zC<|zK<|qV<|qC<|wX<|qV<|qC<|wS 0 0 u u<|zS u u (fun _ k=>k p1 c1) [900] ⟨gk 0,d⟩)<|zL<|qD<|zD<|zM<|zA 3 u<|zF<|qF (gv kk [0] ⟨gk 0,d⟩)
  )<|qM<|qL<|qO<|qN<|zD<|zB<|zA 2 u<|zC<|zK<|wS 0 0 u u<|zS u u (fun _ k=>k p1 c1) [900] ⟨gk 0,d⟩
theorem zOW {qd : Prop} {y0 : wI} {y1 : wI} : qA qd prog 106 [.agg #[vi y0.1, vi y0.2], .agg #[vi y1.1, vi y1.2]] [] [] (zCm y0 y1) fun r K=>K (vi r) [] [] :=
 qE call106 func106 u fun X=>zB<|qT .s u<|fun b1=>qT .s u<|fun b2=>zA 1 u<|zC<|yK [] [0, 1] 13<|qQ 0 0 u u<|qZ 1 0 u u u u<|qQ 2 0 u u<|qZ 3 1 u u u u<|qQ 5 1 u u<|qZ 6 0 u u u u<|qQ 7 1 u u<|
  qZ 8 1 u u u u<|qG 4<|qH (.f u) [] [] zAq u u u d<|fun r1 _ k=>k<|zZ<|qG 9<|qH (.f u) [] [] zAq u u u d<|fun r2 _ k=>k<|zZ<|qG 10<|
  wV (.f u) (e := eInt .i64) 3 [vi r1, vi r2] ([r1, r2] : List Int) (rC vI (rC vI rN))<|fun p1 c1=>zZ<|qG 11<|qH (.f u) [] [] zLM u u u ⟨ck 0,d⟩<|fun r3 _ k=>k<|zZ<|zX 0 [12] u<|qS<|zD<|zK<|
  zS u u kk [] d
theorem zFz {qd : Prop} {y0 : List wI} : qA qd prog 105 [sv p1 y0 c1, .func (.func 106) #[] #[]] [r_1] [Al wF 58 r_1 p1 c1 y0] (zAo y0) fun r K=>∀ r_2,K (.tuple #[]) [r_2] [Ar wF 58 r_2 p1 c1 (List.length y0) r] := ⟨call105, fun A w0 r hm hO hF => by
 have h := zPS (qd := qd) Go.Proofs.Tryz.sort105 (yU.prod (yU.int .i64) (yU.int .i64)) (te := 58) Tryz.isAgg58 Tryz.sizeOf58 zCm 106 (enters_of func106 (by kernel_rfl) u) (fun w x y n hn => ?_) hO hF.1.1 hm
 · change Calls prog 105 _ _ _ at h
   refine h.mono fun e w' h => ?_
   cases e with
   | returned v => obtain ⟨r', rfl, h1, h2, h3, h4⟩ := h; exact fun G k => k r' ⟨rfl, h1, h2, ⟨h3, h4.symm⟩, trivial⟩
   | panicked ch => exact h
   | outgrown => exact h
 · refine ((zOW (qd := True) (y0 := x) (y1 := y)).go [] w n hn (Own.start (by simp)) trivial).mono fun e w' h => ?_
   cases e with
   | returned v => exact h _ fun ⟨e1, q⟩ => ⟨e1, q.e⟩
   | panicked ch => exact h
   | outgrown => exact h⟩
theorem zMK {qd : Prop} {y0 : Int} {y1 : List wB} : qA qd prog 62 [vi y0, sv p1 y1 c1] [] [Rl vW p1 c1 y1] (zGT y0 y1) fun r K=>∀ p2 c2,K (.tuple #[.agg #[vi r.1.1, sv p2 r.1.2 c2], vi r.2]) [] [Rl wF p2 c2 r.1.2] :=
 qE call62 func62 u fun X=>zB<|wL .s (.agg #[vi 0, .slice none 0 0])<|fun b1=>zA 1 u<|zC<|zG<|
  yW (fun K=>K [(0, vi y0), (1, sv p1 y1 c1), (4, pt b1 0), (14, vb ((decide (y0 < 0)) || (decide (40 < y0))))] [bx b1 50 [vi 0, .slice none 0 0]] [Rl vW p1 c1 y1]) (zM<|zA 3 u<|vY (b := decide (y0 < 0)) 11 u (fun hb1=>
  zA 2 u<|zJ (vb true)<|zF<|wN 14 (vb ((decide (y0 < 0)) || (decide (40 < y0)))) u (by rw [hb1]; rfl)<|zN (gv kk [0] ⟨gk 0,d⟩))<|fun hb1=>zA 2 u<|zJ (vb (decide (40 < y0)))<|zF<|
  wN 14 (vb ((decide (y0 < 0)) || (decide (40 < y0)))) u (by rw [hb1]; rfl)<|zN (gv kk [0] ⟨gk 0,d⟩))<|fun _ k=>k<|zI u (zB<|zJ (.agg #[vi 0, .slice none 0 0])<|qU .s 0 u u u<|zA 1 u<|zC<|zK<|qC<|
  wR u (lC 0 (.agg #[vi 0, .slice none 0 0]) u u (lT u lN)) (fun _ k=>k none 0) [] ⟨gn,d⟩)<|zL<|zD<|zB<|zA 1 u<|zJ (.agg #[vi y0, .slice none 0 0])<|vD wF 58<|wL .s (.agg #[vi 0, .slice none 0 0])<|fun b2=>
  qU .s 2 u u u<|zC<|jjo (fun s1 K=>∀ p2 c2 r_1,K [(4, pt b1 0), (6, pt b2 0)] [bx b1 50 [vi 0, .slice none 0 0], r_1, bx b2 50 [vi y0, sv p2 s1 c2]] [Al wF 58 r_1 p2 c2 s1]) (zB<|zA 3 u<|zC<|zQ<|
  qP (fun s2 K=>∀ p3 c3 r_2,K [(0, vi y0), (4, pt b1 0), (6, pt b2 0), (18, sv p1 y1 c1), (19, vi (len y1)), (20, vi s2.1)] [bx b1 50 [vi 0, .slice none 0 0], r_2, bx b2 50 [vi y0, sv p3 s2.2 c3]] [Al wF 58 r_2 p3 c3 s2.2, Rl vW p1 c1 y1]) (gv (fun _ k=>k none 0 []) [0,1,2] ⟨gk 0,gk 1,d⟩)<|
  fun s2 _ k p3 c3 r_2=>k<|zB<|zA 1 u<|zC<|zG<|zI u (zL<|zD<|zG<|zQ<|zB<|qX 1 u u u<|fun x1 b3 o1=>qW true zO5 (gk 0) u<|wL .s (.agg #[vi 0, vi 0, vi 0, vi 0])<|fun b4=>qU .s 3 u u u<|zC<|zG<|
  yW (fun K=>K [(0, vi y0), (4, pt b1 0), (6, pt b2 0), (8, pt b4 0), (18, sv p1 y1 c1), (19, vi (len y1)), (20, vi s2.1), (38, vb ((decide ((if x1.2.1 < x1.1 then x1.2.1 else x1.1) < 0)) || (decide (y0 ≤ (if x1.2.1 > x1.1 then x1.2.1 else x1.1)))))] [bx b1 50 [vi 0, .slice none 0 0], r_2, bx b2 50 [vi y0, sv p3 s2.2 c3], bx b4 123 [vi x1.1, vi x1.2.1, vi x1.2.2.1, vi x1.2.2.2]] [Rl vW p1 c1 y1, Al wF 58 r_2 p3 c3 s2.2]) (
  zM<|zU 0 u<|zV 3 u u u<|zU 1 u<|zV 3 u u u<|zA 3 u<|vY (b := decide ((if x1.2.1 < x1.1 then x1.2.1 else x1.1) < 0)) 30 u (fun hb2=>zA 7 u<|zJ (vb true)<|zF<|
  wN 38 (vb ((decide ((if x1.2.1 < x1.1 then x1.2.1 else x1.1) < 0)) || (decide (y0 ≤ (if x1.2.1 > x1.1 then x1.2.1 else x1.1))))) u (by rw [hb2]; rfl)<|zN (gv kk [0,1,2,3] ⟨gk 2,gk 1,d⟩))<|fun hb2=>zU 0 u<|
  zV 3 u u u<|zU 1 u<|zV 3 u u u<|zA 3 u<|zJ (vb (decide (y0 ≤ (if x1.2.1 > x1.1 then x1.2.1 else x1.1))))<|zF<|
  wN 38 (vb ((decide ((if x1.2.1 < x1.1 then x1.2.1 else x1.1) < 0)) || (decide (y0 ≤ (if x1.2.1 > x1.1 then x1.2.1 else x1.1))))) u (by rw [hb2]; rfl)<|zN (gv kk [0,1,2,3] ⟨gk 2,gk 1,d⟩))<|fun _ k=>k<|zI u (zB<|
  zJ (.agg #[vi 0, .slice none 0 0])<|qU .s 0 u u u<|zA 1 u<|zC<|zK<|qC<|qV<|qC<|wX<|qV<|wX<|wR u (lC 0 (.agg #[vi 0, .slice none 0 0]) u u (lT u lN)) (fun _ k=>k none 0) [] ⟨gn,d⟩)<|zL<|zD<|zM<|zU 1 u<|
  zV 2 u u u<|zU 0 u<|zV 3 u u u<|zU 1 u<|zV 3 u u u<|zJ (.agg #[vi x1.1, vi x1.2.1])<|wV .s (e := wF) 58 [vi x1.1, vi x1.2.1] ([(x1.1, x1.2.1)] : List wI) (rC (vP vI vI) rN)<|fun p4 c4=>
  wM .s 1 2 u (gk 0) u u<|fun x2 r_3 p5 c5=>zU 1 u<|qU .s 2 u u u<|zF<|qD<|zD<|zM<|zA 2 u<|zF<|qF (gv (fun _ k=>k p5 c5 r_3) [0,1,2] ⟨gk 0,gk 2,d⟩))<|qM<|qL<|qO<|qN<|
  qF (gv (fun _ k=>k p3 c3 r_2) [0,1,2] ⟨gk 0,d⟩))<|fun s1 _ k p2 c2 r_1=>k<|zB<|zU 1 u<|zV 2 u u u<|qH .s [1] [] zFz u u u ⟨ck 0,d⟩<|fun r1 _ k r_4=>k<|zC<|zB<|zU 1 u<|
  zV 2 u u u<|jrE 0 55 u u<|qH .s [1] [] zLC u u u ⟨ck 0,d⟩<|fun r2 _ k p6 c6=>k<|zU 1 u<|qU .s 2 u u u<|zC<|zB<|qK 2 2 u u u<|qU .s 0 u u u<|zA 1 u<|zC<|zK<|
  wR u (lC 0 (.agg #[vi y0, sv p6 r2 c6]) u u (lT u lN)) (fun _ k=>k p6 c6) [] ⟨gk 0,d⟩
theorem zFh {qd : Prop} {y0 : Int} : qA qd prog 94 [.int .u64 y0] [] [Pt (eArr 64 (eInt .u8)) 0 0 tab_math_bits_deBruijn64tab] (zAk y0) fun r K=>K (vi r) [] [] :=
 qE call94 func94 u fun X=>zB<|zA 1 u<|zC<|zG<|zB<|zA 2 u<|zC<|zI u (zB<|zA 1 u<|zC<|zK<|qC<|zS u u kk [] d)<|zL<|zD<|zB<|zA 5 u<|
  zJ (.int .u64 (uR .u64 (IntKind.u64.wrap ((vZ .u64 y0 (IntKind.u64.wrap (0 - y0))) * 285870213051353865)) 58))<|jgx (gk 0) u u<|fun x1=>qW false oI (gk 0) u<|zJ (vi (zR (x1)))<|zA 1 u<|zC<|zK<|
  zS u u kk [] d
theorem zRm {qd : Prop} {y0 : Int} : qA qd prog 233 [.int .u64 y0] [] [Pt (eArr 64 (eInt .u8)) 0 0 tab_math_bits_deBruijn64tab] (zJe y0) fun r K=>∀ p1 c1,K (sv p1 r c1) [] [Rl (eInt .i64) p1 c1 r] :=
 qE call233 func233 u fun X=>zB<|zA 1 u<|zC<|zB<|zA 1 u<|vD (eInt .i64) 3<|zC<|zG<|zQ<|
  qP (fun s1 K=>∀ p1 c1 r_1,K [(0, .int .u64 s1.1), (3, sv p1 s1.2 c1)] [r_1] [Al (eInt .i64) 3 r_1 p1 c1 s1.2, Pt (eArr 64 (eInt .u8)) 0 0 tab_math_bits_deBruijn64tab]) (gv (fun _ k=>k none 0 []) [0] ⟨gk 0,gk 1,d⟩)<|fun s1 _ k p1 c1 r_1=>
  k<|zG<|zB<|zA 2 u<|zC<|zI u (zL<|zD<|zG<|zQ<|zM<|zA 2 u<|qI zFh u ⟨ck 1,d⟩<|fun r1 _ k=>k<|wV .s (e := eInt .i64) 3 [vi r1] ([r1] : List Int) (rC vI rN)<|fun p2 c2=>
  wM .s 0 1 u (gk 0) u u<|fun x1 r_2 p3 c3=>zA 1 u<|zF<|qD<|zD<|zM<|zA 5 u<|zF<|qF (gv (fun _ k=>k p3 c3 r_2) [0] ⟨gk 0,gk 3,d⟩))<|qM<|qL<|qO<|qN<|zD<|zB<|zA 2 u<|zC<|zK<|wS 0 0 u u<|
  zS u u (fun _ k=>k p1 c1) [] ⟨gk 0,d⟩
theorem zQh {qd : Prop} {y0 : wO} : qA qd prog 234 [.agg #[vi y0.1, sv p1 y0.2 c1]] [] [Rl wF p1 c1 y0.2] (zIj y0) fun r K=>∀ p2 c2,K (sv p2 r c2) [] [Rl (eInt .u64) p2 c2 r] :=
 qE call234 func234 u fun X=>zB<|qT .s u<|fun b1=>zA 1 u<|zC<|zB<|zU 0 u<|zV 0 u u u<|uU .s (e := eInt .u64) 97 (0 : Int) (.int .u64 0) vI u u<|fun x1 r_1 p2 c2=>zA 1 u<|zC<|zG<|zB<|zU 1 u<|zV 0 u u u<|zA 2 u<|zC<|zQ<|
  qP (fun s1 K=>∀ r_2,K [(3, .slice p2 (List.length x1) c2), (10, sv p1 y0.2 c1), (11, vi (len y0.2)), (12, vi s1.2)] [[], r_2] [Ar (eInt .u64) 97 r_2 p2 c2 (List.length x1) s1.1, Rl wF p1 c1 y0.2]) (gv (fun _ k=>k r_1) [900,1] ⟨gk 0,gk 1,d⟩)<|
  fun s1 _ k r_2=>k<|zB<|zA 1 u<|zC<|zG<|zI u (zL<|zD<|zG<|zQ<|zB<|qX 1 u u u<|fun x2 b2 o1=>qW true zL6 (gk 0) u<|wL .s (.agg #[vi 0, vi 0])<|fun b3=>qU .s 2 u u u<|zC<|yN [10] [1, 2] 11<|zX 10 [0] u<|
  qQ 1 0 u u<|qZ 2 2 u u u u<|xW 3 1 u u u u<|fun x3 h1 b4 hp1=>xU 4 1 1 sI false oI u u hp1 h1 u<|qQ 5 1 u u<|qZ 6 2 u u u u<|xO fun x4 h2=>jdv 7 u (fun h=>zS8 h u u h2)<|zX 2 [8] u<|
  xW 9 1 u u u u<|fun x5 h3 b5 hp2=>qG 10<|uX (.f u) 1 1 sI (bor .u64 x3 x4) false u hp2 h3 u u vI<|fun r_3=>jdb [] [1, 2]<|qS<|qD<|zD<|zM<|zA 2 u<|zF<|qF (gv (fun _ k=>k r_3) [900,1] ⟨gk 0,gk 3,d⟩))<|qM<|qL<|
  qO<|qN<|zD<|zB<|zA 2 u<|zC<|zK<|wS 1 0 u u<|jre 0 2 u u<|zS u u (fun _ k=>k p2 c2) [] ⟨gk 0,d⟩
theorem zOt {qd : Prop} {y0 : wI} {y1 : wI} : qA qd prog 87 [.agg #[vi y0.1, vi y0.2], .agg #[vi y1.1, vi y1.2]] [] [] (zDm y0 y1) fun r K=>K (vi r) [] [] :=
 qE call87 func87 u fun X=>zB<|qT .s u<|fun b1=>qT .s u<|fun b2=>zA 1 u<|zC<|yK [] [0, 1] 13<|qQ 0 0 u u<|qZ 1 0 u u u u<|qQ 2 0 u u<|qZ 3 1 u u u u<|qQ 5 1 u u<|qZ 6 0 u u u u<|qQ 7 1 u u<|
  qZ 8 1 u u u u<|qG 4<|qH (.f u) [] [] zAq u u u d<|fun r1 _ k=>k<|zZ<|qG 9<|qH (.f u) [] [] zAq u u u d<|fun r2 _ k=>k<|zZ<|qG 10<|
  wV (.f u) (e := eInt .i64) 3 [vi r1, vi r2] ([r1, r2] : List Int) (rC vI (rC vI rN))<|fun p1 c1=>zZ<|qG 11<|qH (.f u) [] [] zLM u u u ⟨ck 0,d⟩<|fun r3 _ k=>k<|zZ<|zX 0 [12] u<|qS<|zD<|zK<|
  zS u u kk [] d
theorem zG7 {qd : Prop} {y0 : wO} : qA qd prog 40 [.agg #[vi y0.1, sv p1 y0.2 c1]] [] [Rl wF p1 c1 y0.2] (zAS y0) fun r K=>K (vi r) [] [] :=
 qE call40 func40 u fun X=>zB<|qT .s u<|fun b1=>zA 1 u<|zC<|zG<|yW (fun K=>K [(1, pt b1 0), (12, vb ((decide (y0.1 < 0)) || (decide (40 < y0.1))))] [bx b1 50 [vi y0.1, sv p1 y0.2 c1]] [Rl wF p1 c1 y0.2]) (zM<|zU 0 u<|zV 0 u u u<|zA 2 u<|
  vY (b := decide (y0.1 < 0)) 8 u (fun hb1=>zA 3 u<|zJ (vb true)<|zF<|wN 12 (vb ((decide (y0.1 < 0)) || (decide (40 < y0.1)))) u (by rw [hb1]; rfl)<|zN (gv kk [0] ⟨gk 0,d⟩))<|fun hb1=>zU 0 u<|zV 0 u u u<|
  zA 1 u<|zJ (vb (decide (40 < y0.1)))<|zF<|wN 12 (vb ((decide (y0.1 < 0)) || (decide (40 < y0.1)))) u (by rw [hb1]; rfl)<|zN (gv kk [0] ⟨gk 0,d⟩))<|fun _ k=>k<|zI u (zB<|zA 1 u<|zC<|zK<|qC<|
  zS u u kk [] d)<|zL<|zD<|zG<|zB<|zU 1 u<|zV 0 u u u<|zA 2 u<|zC<|zQ<|
  qP (fun s1 K=>K [(1, pt b1 0), (14, sv p1 y0.2 c1), (15, vi (len y0.2)), (16, vi s1)] [bx b1 50 [vi y0.1, sv p1 y0.2 c1]] [Rl wF p1 c1 y0.2]) (gv kk [0] ⟨gk 0,d⟩)<|fun s1 _ k=>k<|zB<|zA 1 u<|zC<|zG<|zI u (zL<|zD<|
  zG<|zQ<|zB<|zA 1 u<|qX 0 u u u<|fun x1 b2 o1=>qW true zL6 (gk 0) u<|wL .s (.agg #[vi 0, vi 0])<|fun b3=>zA 1 u<|qU .s 1 u u u<|zC<|zG<|
  yW (fun K=>K [(1, pt b1 0), (3, vi s1), (4, pt b3 0), (14, sv p1 y0.2 c1), (15, vi (len y0.2)), (16, vi s1), (36, vb ((decide ((if x1.2 < x1.1 then x1.2 else x1.1) < 0)) || (decide (y0.1 ≤ (if x1.2 > x1.1 then x1.2 else x1.1)))))] [bx b1 50 [vi y0.1, sv p1 y0.2 c1], bx b3 58 [vi x1.1, vi x1.2]] [Rl wF p1 c1 y0.2]) (
  zM<|zU 0 u<|zV 1 u u u<|zU 1 u<|zV 1 u u u<|zA 3 u<|vY (b := decide ((if x1.2 < x1.1 then x1.2 else x1.1) < 0)) 27 u (fun hb2=>zA 8 u<|zJ (vb true)<|zF<|
  wN 36 (vb ((decide ((if x1.2 < x1.1 then x1.2 else x1.1) < 0)) || (decide (y0.1 ≤ (if x1.2 > x1.1 then x1.2 else x1.1))))) u (by rw [hb2]; rfl)<|zN (gv kk [0,1] ⟨gk 1,d⟩))<|fun hb2=>zU 0 u<|zV 1 u u u<|zU 1 u<|
  zV 1 u u u<|zA 1 u<|zU 0 u<|zV 0 u u u<|zA 1 u<|zJ (vb (decide (y0.1 ≤ (if x1.2 > x1.1 then x1.2 else x1.1))))<|zF<|
  wN 36 (vb ((decide ((if x1.2 < x1.1 then x1.2 else x1.1) < 0)) || (decide (y0.1 ≤ (if x1.2 > x1.1 then x1.2 else x1.1))))) u (by rw [hb2]; rfl)<|zN (gv kk [0,1] ⟨gk 1,d⟩))<|fun _ k=>k<|zI u (zB<|zA 1 u<|zC<|zK<|qC<|
  qV<|qC<|wX<|qV<|qC<|zS u u kk [] d)<|zL<|zD<|wA (fun s2 K=>K [(1, pt b1 0), (14, sv p1 y0.2 c1), (15, vi (len y0.2)), (16, vi s1), (49, vb s2)] [bx b1 50 [vi y0.1, sv p1 y0.2 c1], []] [Rl wF p1 c1 y0.2]) (
  yN [] [0, 1] 13<|zX 10 [0,1,2] u<|wH 39 u (qQ 3 1 u u<|qZ 4 0 u u u u<|zX 6 [5,6] u<|vJ 7 0 u u u u<|fun x2 b4 o2=>vH 8 true zL6 u (gk 0) u<|vM 9 1 2 u u u u<|qG 10<|
  qH (.f u) [] [] zOt u u u d<|fun r1 _ k=>k<|zZ<|zX 1 [11] u<|wC 12 (vb (decide (0 ≤ r1))) u<|qS<|zN (gv kk [0,901] ⟨gk 1,d⟩))<|zX 1 [3,4,5,6,7,8,9,10,11] u<|wC 12 (vb false) u<|qS<|
  zN (gv kk [0,901] ⟨gk 0,d⟩))<|fun s2 _ k=>k<|zI u (zB<|zA 1 u<|zC<|zK<|qV<|qC<|wX<|qV<|qC<|zS u u kk [] d)<|zL<|qD<|zD<|zM<|zA 2 u<|zF<|qF (gv kk [0] ⟨gk 0,d⟩))<|qM<|qL<|qO<|
  qN<|zD<|zB<|zA 1 u<|zC<|zK<|zS u u kk [] d
theorem zPt {qd : Prop} {y0 : wO} : qA qd prog 232 [.agg #[vi y0.1, sv p1 y0.2 c1]] [] [Rl wF p1 c1 y0.2] (zIE y0) fun r K=>∀ p2 c2,K (.agg #[vi r.1, sv p2 r.2 c2]) [] [Rl wF p2 c2 r.2] :=
 qE call232 func232 u fun X=>zB<|qT .s u<|fun b1=>wL .s (.agg #[vi 0, .slice none 0 0])<|fun b2=>zC<|zG<|zB<|qK 0 2 u u u<|qI zG7 u ⟨ck 0,d⟩<|fun r1 _ k=>k<|zA 1 u<|zC<|zI u (zB<|zJ (.agg #[vi 0, .slice none 0 0])<|
  qU .s 1 u u u<|zC<|zK<|qC<|wR u (lC 1 (.agg #[vi 0, .slice none 0 0]) u u lN) (fun _ k=>k none 0) [] ⟨gn,d⟩)<|zL<|zD<|zB<|qK 0 2 u u u<|qU .s 1 u u u<|zC<|zK<|
  wR u (lC 1 (.agg #[vi y0.1, sv p1 y0.2 c1]) u u lN) (fun _ k=>k p1 c1) [] ⟨gk 0,d⟩
theorem zKs {qd : Prop} {y0 : wO} {y1 : Int} : qA qd prog 185 [.agg #[vi y0.1, sv p1 y0.2 c1], vi y1] [] [Rl wF p1 c1 y0.2, Pt (eArr 64 (eInt .u8)) 0 0 tab_math_bits_deBruijn64tab] (zEx y0 y1) fun r K=>∀ p2 c2,K (sv p2 r c2) [] [Rl (eInt .i64) p2 c2 r] :=
 qE call185 func185 u fun X=>zB<|qT .s u<|fun b1=>zA 1 u<|zC<|zB<|qK 0 2 u u u<|qI zPt u ⟨ck 0,d⟩<|fun r1 _ k p2 c2=>k<|qU .s 0 u u u<|zC<|zG<|
  yW (fun K=>K [(1, vi y1), (2, pt b1 0), (14, vb ((decide (y1 < 0)) || (decide (r1.1 ≤ y1))))] [bx b1 50 [vi r1.1, sv p2 r1.2 c2]] [Rl wF p2 c2 r1.2, Pt (eArr 64 (eInt .u8)) 0 0 tab_math_bits_deBruijn64tab]) (zM<|zA 3 u<|
  vY (b := decide (y1 < 0)) 9 u (fun hb1=>zA 4 u<|zJ (vb true)<|zF<|wN 14 (vb ((decide (y1 < 0)) || (decide (r1.1 ≤ y1)))) u (by rw [hb1]; rfl)<|zN (gv kk [0] ⟨gk 0,gk 2,d⟩))<|fun hb1=>zA 1 u<|zU 0 u<|
  zV 0 u u u<|zA 1 u<|zJ (vb (decide (r1.1 ≤ y1)))<|zF<|wN 14 (vb ((decide (y1 < 0)) || (decide (r1.1 ≤ y1)))) u (by rw [hb1]; rfl)<|zN (gv kk [0] ⟨gk 0,gk 2,d⟩))<|fun _ k=>k<|zI u (zB<|zA 1 u<|zC<|zK<|
  qC<|zS u u (fun _ k=>k none 0) [] ⟨gn,d⟩)<|zL<|zD<|zB<|qK 0 2 u u u<|qI zQh u ⟨ck 0,d⟩<|fun r2 _ k p3 c3=>k<|zA 1 u<|qX 0 u u u<|fun x1 b2 o1=>qW false oI (gk 0) u<|
  qI zRm u ⟨ck 3,d⟩<|fun r3 _ k p4 c4=>k<|zA 1 u<|zC<|zK<|zS u u (fun _ k=>k p4 c4) [] ⟨gk 0,d⟩
theorem zNi {qd : Prop} {y0 : Int} {y1 : Int} : qA qd prog 260 [.int .u64 y0, .int .u64 y1] [] [] (zJr y0 y1) fun r K=>K (.tuple #[.int .u64 r.1, .int .u64 r.2]) [] [] :=
 qE call260 func260 u fun X=>zB<|zA 2 u<|zC<|zB<|zA 3 u<|zC<|zB<|zA 1 u<|zJ (.int .u64 (uR .u64 y0 32))<|zA 1 u<|zC<|zB<|zA 3 u<|zC<|zB<|zA 1 u<|zJ (.int .u64 (uR .u64 y1 32))<|zA 1 u<|zC<|zB<|zA 4 u<|zC<|zB<|zA 4 u<|
  zJ (.int .u64 (uR .u64 (IntKind.u64.wrap ((vZ .u64 y0 4294967295) * (vZ .u64 y1 4294967295))) 32))<|zA 2 u<|zC<|zB<|zA 3 u<|zC<|zB<|zA 1 u<|
  zJ (.int .u64 (uR .u64 (IntKind.u64.wrap ((IntKind.u64.wrap ((uR .u64 y0 32) * (vZ .u64 y1 4294967295))) + (uR .u64 (IntKind.u64.wrap ((vZ .u64 y0 4294967295) * (vZ .u64 y1 4294967295))) 32))) 32))<|zA 1 u<|zC<|zB<|
  zA 6 u<|zC<|zB<|zA 6 u<|
  zJ (.int .u64 (uR .u64 (IntKind.u64.wrap ((vZ .u64 (IntKind.u64.wrap ((IntKind.u64.wrap ((uR .u64 y0 32) * (vZ .u64 y1 4294967295))) + (uR .u64 (IntKind.u64.wrap ((vZ .u64 y0 4294967295) * (vZ .u64 y1 4294967295))) 32))) 4294967295) + (IntKind.u64.wrap ((vZ .u64 y0 4294967295) * (uR .u64 y1 32))))) 32))<|
  zA 2 u<|zC<|zB<|zA 4 u<|zC<|zK<|wR u (lT u (lT u lN)) kk [] d
theorem zP8 {qd : Prop} {y0 : Int} {y1 : Int} : qA qd prog 231 [.int .u64 y0, .int .u64 y1] [] [] (zIw y0 y1) fun r K=>K (.tuple #[.int .u64 r.1, .int .u64 r.2]) [] [] :=
 qE call231 func231 u fun X=>zB<|zA 2 u<|zC<|zG<|jcf u<|zL<|zD<|zB<|zA 2 u<|qI zNi u d<|fun r1 _ k=>k<|zA 5 u<|zC<|zB<|zA 4 u<|zC<|zK<|wR u (lT u (lT u lN)) kk [] d
theorem zGb {qd : Prop} {y0 : List Int} {y1 : Int} : qA qd prog 184 [sv p1 y0 c1, vi y1] [] [Rl (eInt .i64) p1 c1 y0] (zEI y0 y1) fun r K=>∀ p2 c2 r_1,K (sv p2 r c2) [r_1] [Al (eInt .i64) 3 r_1 p2 c2 r] :=
 qE call184 func184 u fun X=>zB<|zA 1 u<|zC<|wA (fun s1 K=>K [(0, sv p1 y0 c1), (1, vi y1)] [] [Rl (eInt .i64) p1 c1 y0]) (zB<|zA 2 u<|zC<|zI u (zM<|jno)<|zL<|zN (gv kk [] ⟨gk 0,d⟩))<|fun s1 _ k=>k<|zB<|zA 2 u<|
  zJ (.int .u64 (IntKind.u64.wrap (len y0)))<|zA 1 u<|zJ (.int .u64 (IntKind.u64.wrap (y1)))<|qI zP8 u d<|fun r1 _ k=>k<|zA 5 u<|zC<|
  wA (fun s2 K=>K [(0, sv p1 y0 c1), (6, .int .u64 r1.2)] [] [Rl (eInt .i64) p1 c1 y0]) (
  yW (fun K=>K [(0, sv p1 y0 c1), (6, .int .u64 r1.2), (26, vb ((decide (0 < r1.1)) || (decide (9223372036854775807 < r1.2))))] [] [Rl (eInt .i64) p1 c1 y0]) (zM<|zA 3 u<|vY (b := decide (0 < r1.1)) 23 u (fun hb1=>zA 2 u<|
  zJ (vb true)<|zF<|wN 26 (vb ((decide (0 < r1.1)) || (decide (9223372036854775807 < r1.2)))) u (by rw [hb1]; rfl)<|zN (gv kk [] ⟨gk 0,d⟩))<|fun hb1=>zA 2 u<|zJ (vb (decide (9223372036854775807 < r1.2)))<|zF<|
  wN 26 (vb ((decide (0 < r1.1)) || (decide (9223372036854775807 < r1.2)))) u (by rw [hb1]; rfl)<|zN (gv kk [] ⟨gk 0,d⟩))<|fun _ k=>k<|zI u (zM<|jno)<|zL<|zN (gv kk [] ⟨gk 0,d⟩))<|fun s2 _ k=>k<|zB<|
  zA 1 u<|zJ (vi (zR (r1.2)))<|uU .s (e := eInt .i64) 3 (0 : Int) (vi 0) vI u u<|fun x1 r_1 p2 c2=>zA 1 u<|zC<|zB<|zA 2 u<|jcp .s 0 0 u (vwW 0 u) (srR (gk 1)) u u<|fun r_2=>zA 1 u<|zC<|zG<|zQ<|
  qP (fun s3 K=>∀ r_3,K [(7, .slice p2 (List.length x1) c2), (8, vi s3.2)] [r_3] [Ar (eInt .i64) 3 r_3 p2 c2 (List.length x1) s3.1]) (gv (fun _ k=>k r_2) [0] ⟨gk 0,d⟩)<|fun s3 _ k r_3=>k<|zG<|zB<|zA 4 u<|zC<|zI u (zL<|zD<|zQ<|
  yN [] [] 10<|zX 7 [0,1,2] u<|jdV 3 0 u u u u<|fun u1 p3 c3 f1=>zX 4 [4,5] u<|jdW 6 0 u u u u<|fun x2=>qG 7<|jcp (.f u) 0 1 u (vwV f1) (srA 0 0 u) u u<|fun r_4=>zZ<|zX 0 [8,9] u<|qS<|qD<|
  qF (gv (fun _ k=>k r_4) [0] ⟨gk 0,d⟩))<|qM<|qL<|qO<|qN<|zD<|zB<|zA 2 u<|zC<|zK<|jrE 0 4 u u<|zS u u (fun _ k=>k p2 c2 r_3) [0] ⟨gk 0,d⟩
theorem zON {qd : Prop} {y0 : wO} : qA qd prog 115 [.agg #[vi y0.1, sv p1 y0.2 c1]] [] [Rl wF p1 c1 y0.2, Pt (eArr 64 (eInt .u8)) 0 0 tab_math_bits_deBruijn64tab] (zG3 y0) fun r K=>∀ p2 c2 p3 c3,K (.tuple #[sv p2 r.1 c2, sv p3 r.2 c3]) [] [Rl (eInt .i64) p2 c2 r.1, Rl (eInt .i64) p3 c3 r.2] :=
 qE call115 func115 u fun X=>zB<|qT .s u<|fun b1=>zA 2 u<|zC<|
  wA (fun s1 K=>∀ p2 c2 r_1 p3 c3 r_2,K [(1, pt b1 0), (2, sv p2 s1.1 c2), (3, sv p3 s1.2 c3)] [bx b1 50 [vi y0.1, sv p1 y0.2 c1], r_1, r_2] [Al (eInt .i64) 3 r_1 p2 c2 s1.1, Al (eInt .i64) 3 r_2 p3 c3 s1.2, Rl wF p1 c1 y0.2, Pt (eArr 64 (eInt .u8)) 0 0 tab_math_bits_deBruijn64tab]) (
  yN [] [0] 9<|qQ 1 0 u u<|qZ 2 0 u u u u<|qQ 4 0 u u<|qZ 5 0 u u u u<|xM 0 6 (wV (.f u) (e := eInt .i64) 3 [vi 3] ([3] : List Int) (rC vI rN)<|fun p4 c4=>zZ<|xM 3 6 (
  qH (.f u) [] [] zGb u u u ⟨ck 0,d⟩<|fun r1 _ k p5 c5 r_3=>k<|zZ<|zX 2 [7] u<|qG 6<|uU (.f u) (e := eInt .i64) 3 (0 : Int) (vi 0) vI u u<|fun x1 r_4 p6 c6=>zZ<|zX 0 [8] u<|qS<|
  zN (gv (fun _ k=>k p5 c5 r_3 p6 c6 r_4) [0,1,2] ⟨gk 1,gk 0,gk 3,gk 4,d⟩)) <|jcm<|uU (.f u) (e := eInt .i64) 3 (0 : Int) (vi 0) vI u u<|fun x2 r_5 p7 c7=>zZ<|qG 3<|qH (.f u) [] [] zGb u u u ⟨ck 1,d⟩<|
  fun r2 _ k p8 c8 r_6=>k<|zZ<|zX 0 [7,8] u<|qS<|zN (gv (fun _ k=>k p8 c8 r_6 p7 c7 r_5) [0,2,1] ⟨gk 0,gk 1,gk 3,gk 4,d⟩)) <|jcm<|uU (.f u) (e := eInt .i64) 3 (0 : Int) (vi 0) vI u u<|fun x3 r_7 p9 c9=>zZ<|qG 0<|
  wV (.f u) (e := eInt .i64) 3 [vi 3] ([3] : List Int) (rC vI rN)<|fun p10 c10=>zZ<|qG 3<|qH (.f u) [] [] zGb u u u ⟨ck 0,d⟩<|fun r3 _ k p11 c11 r_8=>k<|zZ<|zX 0 [7,8] u<|qS<|
  zN (gv (fun _ k=>k p11 c11 r_8 p9 c9 r_7) [0,2,1] ⟨gk 0,gk 2,gk 3,gk 4,d⟩))<|fun s1 _ k p2 c2 r_1 p3 c3 r_2=>k<|zB<|jalA .s (zTK [] 40 (List.replicate 40 (0 : Int)) [])<|fun b2=>zC<|
  wA (fun s2 K=>K [(1, pt b1 0), (2, sv p2 s1.1 c2), (3, sv p3 s1.2 c3), (4, pt b2 0)] [bx b1 50 [vi y0.1, sv p1 y0.2 c1], r_1, r_2, bx b2 196 (zTK [] 40 s2 [])] [Al (eInt .i64) 3 r_1 p2 c2 s1.1, Al (eInt .i64) 3 r_2 p3 c3 s1.2, Rl wF p1 c1 y0.2, Pt (eArr 64 (eInt .u8)) 0 0 tab_math_bits_deBruijn64tab]) (
  zB<|zU 1 u<|zV 0 u u u<|zA 2 u<|zC<|zQ<|
  qP (fun s3 K=>K [(1, pt b1 0), (2, sv p2 s1.1 c2), (3, sv p3 s1.2 c3), (4, pt b2 0), (27, sv p1 y0.2 c1), (28, vi (len y0.2)), (29, vi s3.1)] [bx b1 50 [vi y0.1, sv p1 y0.2 c1], r_1, r_2, bx b2 196 (zTK [] 40 s3.2 [])] [Al (eInt .i64) 3 r_1 p2 c2 s1.1, Al (eInt .i64) 3 r_2 p3 c3 s1.2, Rl wF p1 c1 y0.2, Pt (eArr 64 (eInt .u8)) 0 0 tab_math_bits_deBruijn64tab]) (gv kk [0,1,2,3] ⟨gk 0,gk 1,gk 2,gk 3,d⟩)<|
  fun s3 _ k=>k<|zB<|zA 1 u<|zC<|zG<|zI u (zL<|zD<|zG<|zQ<|zB<|qX 2 u u u<|fun x4 b3 o1=>qW true zL6 (gk 0) u<|wL .s (.agg #[vi 0, vi 0])<|fun b4=>qU .s 4 u u u<|zC<|zM<|zU 1 u<|zV 4 u u u<|
  jiL 40 u u<|fun u1 h1=>jlL 3 40 s3.2 [] [] h1 u u<|zA 1 u<|jiL 40 u u<|fun u2 h2=>jsL (zR ((zTF s3.2 x4.2) + 1)) .s 3 40 s3.2 [] [] h2 u u u<|zF<|qD<|zD<|zM<|zA 2 u<|zF<|
  qF (gv kk [0,1,2,3] ⟨gk 1,gk 2,gk 3,gk 4,d⟩))<|qM<|qL<|qO<|qN<|zN (gv kk [0,1,2,3] ⟨gk 0,gk 1,gk 2,gk 3,d⟩))<|fun s2 _ k=>k<|zB<|zA 1 u<|vD (eInt .i64) 3<|zC<|
  wA (fun s4 K=>∀ p12 c12 r_9,K [(1, pt b1 0), (2, sv p2 s1.1 c2), (3, sv p3 s1.2 c3), (4, pt b2 0), (7, sv p12 s4 c12)] [bx b1 50 [vi y0.1, sv p1 y0.2 c1], r_1, r_2, bx b2 196 (zTK [] 40 s2 []), r_9] [Al (eInt .i64) 3 r_9 p12 c12 s4, Al (eInt .i64) 3 r_1 p2 c2 s1.1, Al (eInt .i64) 3 r_2 p3 c3 s1.2, Rl wF p1 c1 y0.2, Pt (eArr 64 (eInt .u8)) 0 0 tab_math_bits_deBruijn64tab]) (
  zB<|zU 0 u<|zV 0 u u u<|zA 1 u<|zC<|zQ<|
  qP (fun s5 K=>∀ p13 c13 r_10,K [(1, pt b1 0), (2, sv p2 s1.1 c2), (3, sv p3 s1.2 c3), (4, pt b2 0), (7, sv p13 s5.1 c13), (41, vi y0.1), (42, vi s5.2)] [bx b1 50 [vi y0.1, sv p1 y0.2 c1], r_1, r_2, bx b2 196 (zTK [] 40 s2 []), r_10] [Al (eInt .i64) 3 r_10 p13 c13 s5.1, Al (eInt .i64) 3 r_1 p2 c2 s1.1, Al (eInt .i64) 3 r_2 p3 c3 s1.2, Rl wF p1 c1 y0.2, Pt (eArr 64 (eInt .u8)) 0 0 tab_math_bits_deBruijn64tab]) (gv (fun _ k=>k none 0 []) [0,1,2,3,4] ⟨gk 0,gk 1,gk 2,gk 3,gk 4,d⟩)<|
  fun s5 _ k p13 c13 r_10=>k<|zB<|zA 1 u<|zC<|zG<|zI u (zL<|zD<|zG<|zQ<|zB<|zA 2 u<|zC<|zB<|zA 1 u<|jiL 40 u u<|fun u3 h3=>jlL 3 40 s2 [] [] h3 u u<|zA 1 u<|zC<|zI u (zM<|zA 2 u<|
  wV .s (e := eInt .i64) 3 [vi s5.2] ([s5.2] : List Int) (rC vI rN)<|fun p14 c14=>wM .s 4 1 u (gk 0) u u<|fun x5 r_11 p15 c15=>zA 1 u<|zF<|qD<|zD<|zM<|zA 2 u<|zF<|
  qF (gv (fun _ k=>k p15 c15 r_11) [0,1,2,3,4] ⟨gk 0,gk 3,gk 4,gk 5,gk 6,d⟩))<|zL<|qD<|zD<|zM<|zA 2 u<|zF<|qF (gv (fun _ k=>k p13 c13 r_10) [0,1,2,3,4] ⟨gk 0,gk 1,gk 2,gk 3,gk 4,d⟩))<|qM<|qL<|qO<|qN<|
  zN (gv (fun _ k=>k p13 c13 r_10) [0,1,2,3,4] ⟨gk 0,gk 1,gk 2,gk 3,gk 4,d⟩))<|fun s4 _ k p12 c12 r_9=>k<|zG<|zB<|zA 1 u<|zC<|zQ<|
  qP (fun s6 K=>∀ r_12 r_13 p16 c16 r_14,K [(1, pt b1 0), (2, .slice p2 (List.length s1.1) c2), (3, .slice p3 (List.length s1.2) c3), (4, pt b2 0), (7, sv p16 s6.2.2.1 c16), (9, vi s6.2.2.2.1)] [bx b1 50 [vi y0.1, sv p1 y0.2 c1], r_12, r_13, bx b2 196 (zTK [] 40 s6.2.2.2.2 []), r_14] [Ar (eInt .i64) 3 r_12 p2 c2 (List.length s1.1) s6.1, Ar (eInt .i64) 3 r_13 p3 c3 (List.length s1.2) s6.2.1, Al (eInt .i64) 3 r_14 p16 c16 s6.2.2.1, Rl wF p1 c1 y0.2, Pt (eArr 64 (eInt .u8)) 0 0 tab_math_bits_deBruijn64tab]) (gv (fun _ k=>k r_1 r_2 p12 c12 r_9) [0,1,2,3,4] ⟨gk 1,gk 2,gk 0,gk 3,gk 4,d⟩)<|
  fun s6 _ k r_12 r_13 p16 c16 r_14=>k<|zG<|zB<|zA 3 u<|zC<|zI u (zL<|zD<|zG<|zQ<|
  wA (fun s7 K=>∀ r_15 r_16,K [(1, pt b1 0), (2, .slice p2 (List.length s1.1) c2), (3, .slice p3 (List.length s1.2) c3), (4, pt b2 0), (7, sv p16 s6.2.2.1 c16), (9, vi s6.2.2.2.1)] [bx b1 50 [vi y0.1, sv p1 y0.2 c1], r_15, r_16, bx b2 196 (zTK [] 40 s6.2.2.2.2 []), r_14] [Ar (eInt .i64) 3 r_15 p2 c2 (List.length s1.1) s7.1, Ar (eInt .i64) 3 r_16 p3 c3 (List.length s1.2) s7.2, Al (eInt .i64) 3 r_14 p16 c16 s6.2.2.1, Rl wF p1 c1 y0.2, Pt (eArr 64 (eInt .u8)) 0 0 tab_math_bits_deBruijn64tab]) (
  zB<|zA 3 u<|zC<|zQ<|
  qP (fun s8 K=>∀ r_17 r_18,K [(1, pt b1 0), (2, .slice p2 (List.length s1.1) c2), (3, .slice p3 (List.length s1.2) c3), (4, pt b2 0), (7, sv p16 s6.2.2.1 c16), (9, vi s6.2.2.2.1), (59, sv p16 s6.2.2.1 c16), (60, vi (len s6.2.2.1)), (61, vi s8.2.2)] [bx b1 50 [vi y0.1, sv p1 y0.2 c1], r_17, r_18, bx b2 196 (zTK [] 40 s6.2.2.2.2 []), r_14] [Ar (eInt .i64) 3 r_17 p2 c2 (List.length s1.1) s8.1, Ar (eInt .i64) 3 r_18 p3 c3 (List.length s1.2) s8.2.1, Al (eInt .i64) 3 r_14 p16 c16 s6.2.2.1, Rl wF p1 c1 y0.2, Pt (eArr 64 (eInt .u8)) 0 0 tab_math_bits_deBruijn64tab]) (gv (fun _ k=>k r_12 r_13) [0,1,2,3,4] ⟨gk 0,gk 1,gk 2,gk 3,gk 4,d⟩)<|
  fun s8 _ k r_17 r_18=>k<|zB<|zA 1 u<|zC<|zG<|zI u (zL<|zD<|zG<|zQ<|zB<|yH 2 u u u<|fun x6 h5 b5 hp1=>uV 4 2 sI false oI u hp1 h5 u<|zA 1 u<|zC<|zM<|zA 5 u<|yH 0 u u u<|fun x7 h6 b6 hp2=>
  uX .s 1 0 sI 1 false u hp2 h6 u u vI<|fun r_19=>yH 2 u u u<|fun x8 h7 b7 hp3=>uX .s 2 2 sI s6.2.2.2.1 false u hp3 h7 u u vI<|fun r_20=>zF<|qD<|zD<|zM<|zA 2 u<|zF<|
  qF (gv (fun _ k=>k r_19 r_20) [0,1,2,3,4] ⟨gk 1,gk 0,gk 4,gk 5,gk 6,d⟩))<|qM<|qL<|qO<|qN<|zN (gv (fun _ k=>k r_17 r_18) [0,1,2,3,4] ⟨gk 0,gk 1,gk 2,gk 3,gk 4,d⟩))<|fun s7 _ k r_15 r_16=>k<|zB<|zA 1 u<|vD (eInt .i64) 3<|zC<|
  zG<|zB<|zA 3 u<|zC<|zQ<|
  qP (fun s9 K=>∀ r_21 r_22 p17 c17 r_23,K [(1, pt b1 0), (2, .slice p2 (List.length s1.1) c2), (3, .slice p3 (List.length s1.2) c3), (4, pt b2 0), (9, vi s6.2.2.2.1), (12, sv p17 s9.2.2.1 c17), (73, sv p16 s6.2.2.1 c16), (74, vi (len s6.2.2.1)), (75, vi s9.2.2.2.1)] [bx b1 50 [vi y0.1, sv p1 y0.2 c1], r_21, r_22, bx b2 196 (zTK [] 40 s9.2.2.2.2 []), r_14, r_23] [Ar (eInt .i64) 3 r_21 p2 c2 (List.length s1.1) s9.1, Ar (eInt .i64) 3 r_22 p3 c3 (List.length s1.2) s9.2.1, Al (eInt .i64) 3 r_23 p17 c17 s9.2.2.1, Al (eInt .i64) 3 r_14 p16 c16 s6.2.2.1, Rl wF p1 c1 y0.2, Pt (eArr 64 (eInt .u8)) 0 0 tab_math_bits_deBruijn64tab]) (gv (fun _ k=>k r_15 r_16 none 0 []) [0,1,2,3,4,5] ⟨gk 1,gk 2,gk 0,gk 3,gk 4,gk 5,d⟩)<|
  fun s9 _ k r_21 r_22 p17 c17 r_23=>k<|zB<|zA 1 u<|zC<|zG<|zI u (zL<|zD<|zG<|zQ<|zB<|yH 3 u u u<|fun x9 h8 b8 hp4=>uV 4 3 sI false oI u hp4 h8 u<|zA 1 u<|zC<|zB<|qK 0 2 u u u<|zA 1 u<|
  qI zKs u ⟨ck 4,ck 5,d⟩<|fun r4 _ k p18 c18=>k<|zA 2 u<|zC<|zQ<|
  qP (fun s10 K=>∀ r_24 r_25 p19 c19 r_26,K [(1, pt b1 0), (2, .slice p2 (List.length s1.1) c2), (3, .slice p3 (List.length s1.2) c3), (4, pt b2 0), (9, vi s6.2.2.2.1), (12, sv p19 s10.2.2.1 c19), (73, sv p16 s6.2.2.1 c16), (74, vi (len s6.2.2.1)), (75, vi s9.2.2.2.1), (81, sv p18 r4 c18), (82, vi (len r4)), (83, vi s10.2.2.2.1)] [bx b1 50 [vi y0.1, sv p1 y0.2 c1], r_24, r_25, bx b2 196 (zTK [] 40 s10.2.2.2.2 []), r_14, r_26] [Ar (eInt .i64) 3 r_24 p2 c2 (List.length s1.1) s10.1, Ar (eInt .i64) 3 r_25 p3 c3 (List.length s1.2) s10.2.1, Al (eInt .i64) 3 r_26 p19 c19 s10.2.2.1, Al (eInt .i64) 3 r_14 p16 c16 s6.2.2.1, Rl (eInt .i64) p18 c18 r4, Rl wF p1 c1 y0.2, Pt (eArr 64 (eInt .u8)) 0 0 tab_math_bits_deBruijn64tab]) (gv (fun _ k=>k r_21 r_22 p17 c17 r_23) [0,1,2,3,4,5] ⟨gk 1,gk 2,gk 3,gk 4,gk 0,gk 5,gk 6,d⟩)<|
  fun s10 _ k r_24 r_25 p19 c19 r_26=>k<|zB<|zA 1 u<|zC<|zG<|zI u (zL<|zD<|zG<|zQ<|zB<|qX 4 u u u<|fun x10 b9 o2=>qW false oI (gk 0) u<|zA 1 u<|zC<|zG<|zB<|zA 2 u<|yH 1 u u u<|fun x11 h9 b10 hp5=>
  uV 1 1 sI false oI u hp5 h9 u<|zA 1 u<|zC<|zI u (qM<|qL<|qN<|zD<|zM<|zA 2 u<|zF<|qF (gv (fun _ k=>k r_24 r_25 p19 c19 r_26) [0,1,2,3,4,5] ⟨gk 1,gk 2,gk 3,gk 4,gk 5,gk 6,gk 7,d⟩))<|zL<|zD<|zB<|zA 5 u<|
  yH 1 u u u<|fun x12 h10 b11 hp6=>uX .s 1 1 sI 2 false u hp6 h10 u u vI<|fun r_27=>yH 3 u u u<|fun x13 h11 b12 hp7=>uX .s 2 3 sI s6.2.2.2.1 false u hp7 h11 u u vI<|fun r_28=>zC<|zB<|qK 0 2 u u u<|
  zA 1 u<|qI zKs u ⟨ck 8,ck 9,d⟩<|fun r5 _ k p20 c20=>k<|zA 2 u<|zC<|zQ<|
  qP (fun s11 K=>∀ p21 c21 r_29,K [(1, pt b1 0), (2, .slice p2 (List.length s1.1) c2), (3, .slice p3 (List.length s1.2) c3), (4, pt b2 0), (9, vi s6.2.2.2.1), (12, sv p21 s11.1 c21), (73, sv p16 s6.2.2.1 c16), (74, vi (len s6.2.2.1)), (75, vi s9.2.2.2.1), (81, sv p18 r4 c18), (82, vi (len r4)), (83, vi s10.2.2.2.1), (101, sv p20 r5 c20), (102, vi (len r5)), (103, vi s11.2.1)] [bx b1 50 [vi y0.1, sv p1 y0.2 c1], r_27, r_28, bx b2 196 (zTK [] 40 s11.2.2 []), r_14, r_29] [Al (eInt .i64) 3 r_29 p21 c21 s11.1, Ar (eInt .i64) 3 r_27 p2 c2 (List.length s1.1) (List.set s10.1 (Int.toNat x10) 2), Ar (eInt .i64) 3 r_28 p3 c3 (List.length s1.2) (List.set s10.2.1 (Int.toNat x10) s6.2.2.2.1), Al (eInt .i64) 3 r_14 p16 c16 s6.2.2.1, Rl (eInt .i64) p18 c18 r4, Rl (eInt .i64) p20 c20 r5, Rl wF p1 c1 y0.2, Pt (eArr 64 (eInt .u8)) 0 0 tab_math_bits_deBruijn64tab]) (gv (fun _ k=>k p19 c19 r_26) [0,1,2,3,4,5] ⟨gk 6,gk 2,gk 1,gk 7,gk 8,gk 0,gk 9,gk 10,d⟩)<|
  fun s11 _ k p21 c21 r_29=>k<|zB<|zA 1 u<|zC<|zG<|zI u (zL<|zD<|zG<|zQ<|zB<|qX 5 u u u<|fun x14 b13 o3=>qW false oI (gk 0) u<|zA 1 u<|zC<|zB<|zA 1 u<|jiL 40 u u<|fun u4 h12=>
  jlL 3 40 s11.2.2 [] [] h12 u u<|zA 1 u<|jiL 40 u u<|fun u5 h13=>jsL (zR ((zTF s11.2.2 x14) - 1)) .s 3 40 s11.2.2 [] [] h13 u u u<|zC<|
  wA (fun s12 K=>K [(1, pt b1 0), (2, .slice p2 (List.length s1.1) c2), (3, .slice p3 (List.length s1.2) c3), (4, pt b2 0), (9, vi s6.2.2.2.1), (12, sv p21 s11.1 c21), (18, vi x14), (73, sv p16 s6.2.2.1 c16), (74, vi (len s6.2.2.1)), (75, vi s9.2.2.2.1), (81, sv p18 r4 c18), (82, vi (len r4)), (83, vi s10.2.2.2.1), (101, sv p20 r5 c20), (102, vi (len r5)), (103, vi s11.2.1), (122, vb s12)] [bx b1 50 [vi y0.1, sv p1 y0.2 c1], r_27, r_28, bx b2 196 (zTK [] 40 (zTU 40 s11.2.2 x14 (zR ((zTF s11.2.2 x14) - 1))) []), r_14, r_29] [Ar (eInt .i64) 3 r_27 p2 c2 (List.length s1.1) (List.set s10.1 (Int.toNat x10) 2), Ar (eInt .i64) 3 r_28 p3 c3 (List.length s1.2) (List.set s10.2.1 (Int.toNat x10) s6.2.2.2.1), Al (eInt .i64) 3 r_29 p21 c21 s11.1, Al (eInt .i64) 3 r_14 p16 c16 s6.2.2.1, Rl (eInt .i64) p18 c18 r4, Rl (eInt .i64) p20 c20 r5, Rl wF p1 c1 y0.2, Pt (eArr 64 (eInt .u8)) 0 0 tab_math_bits_deBruijn64tab]) (
  zM<|zA 1 u<|jiL 40 u u<|fun u6 h14=>jlL 3 40 (zTU 40 s11.2.2 x14 (zR ((zTF s11.2.2 x14) - 1))) [] [] h14 u u<|zA 2 u<|wH 116 u (zA 2 u<|yH 2 u u u<|fun x15 h15 b14 hp8=>uV 1 2 sI false oI u hp8 h15 u<|
  zA 1 u<|zJ (vb (x15 == 3))<|zF<|zN (gv kk [0,1,2,3,4,5] ⟨gk 2,gk 3,gk 1,gk 4,gk 5,gk 6,gk 7,gk 8,d⟩))<|zA 5 u<|zJ (vb false)<|zF<|zN (gv kk [0,1,2,3,4,5] ⟨gk 2,gk 3,gk 1,gk 4,gk 5,gk 6,gk 7,gk 8,d⟩))<|
  fun s12 _ k=>k<|zI u (zM<|zA 2 u<|wV .s (e := eInt .i64) 3 [vi x14] ([x14] : List Int) (rC vI rN)<|fun p22 c22=>wM .s 5 3 u (gk 0) u u<|fun x16 r_30 p23 c23=>zA 1 u<|zF<|qD<|zD<|zM<|zA 2 u<|zF<|
  qF (gv (fun _ k=>k p23 c23 r_30) [0,1,2,3,4,5] ⟨gk 0,gk 2,gk 3,gk 5,gk 6,gk 7,gk 8,gk 9,d⟩))<|zL<|qD<|zD<|zM<|zA 2 u<|zF<|qF (gv (fun _ k=>k p21 c21 r_29) [0,1,2,3,4,5] ⟨gk 2,gk 0,gk 1,gk 3,gk 4,gk 5,gk 6,gk 7,d⟩))<|qM<|qL<|
  qO<|qN<|qD<|zD<|zM<|zA 2 u<|zF<|qF (gv (fun _ k=>k r_27 r_28 p21 c21 r_29) [0,1,2,3,4,5] ⟨gk 1,gk 2,gk 0,gk 3,gk 4,gk 6,gk 7,d⟩))<|qM<|qL<|qO<|qN<|qD<|zD<|zM<|zA 2 u<|zF<|
  qF (gv (fun _ k=>k r_24 r_25 p19 c19 r_26) [0,1,2,3,4,5] ⟨gk 0,gk 1,gk 2,gk 3,gk 5,gk 6,d⟩))<|qM<|qL<|qO<|qN<|zD<|zM<|zA 2 u<|zF<|qD<|zD<|zM<|zA 3 u<|zF<|
  qF (gv (fun _ k=>k r_21 r_22 p17 c17 r_23) [0,1,2,3,5] ⟨gk 0,gk 1,gk 2,gk 4,gk 5,d⟩))<|qM<|qL<|qO<|qN<|zD<|zB<|zA 4 u<|zC<|zK<|wS 1 0 u u<|wS 2 2 u u<|jre 1 2 u u<|jre 1 3 u u<|
  wR u (lT u (lT u lN)) (fun _ k=>k p2 c2 p3 c3) [] ⟨gk 1,gk 0,d⟩
theorem zKf {qd : Prop} {y0 : wO} : qA qd prog 66 [.agg #[vi y0.1, sv p1 y0.2 c1]] [] [Rl wF p1 c1 y0.2, Pt (eArr 64 (eInt .u8)) 0 0 tab_math_bits_deBruijn64tab] (zEr y0) fun r K=>∀ p2 c2,K (sv p2 r c2) [] [Rl (eInt .i64) p2 c2 r] :=
 qE call66 func66 u fun X=>zB<|qT .s u<|fun b1=>zA 1 u<|zC<|zB<|qK 0 2 u u u<|qI zON u ⟨ck 0,ck 1,d⟩<|fun r1 _ k p2 c2 p3 c3=>k<|zA 5 u<|zC<|zB<|zA 2 u<|zC<|zK<|zS u u (fun _ k=>k p2 c2) [] ⟨gk 0,d⟩
theorem zG8 {qd : Prop} {y0 : List Int} {y1 : Int} : qA qd prog 65 [sv p1 y0 c1, vi y1] [] [Rl (eInt .i64) p1 c1 y0] (zBo y0 y1) fun r K=>∀ p2 c2,K (sv p2 r c2) [] [Rl (eInt .i64) p2 c2 r] :=
 qE call65 func65 u fun X=>zB<|zA 1 u<|zC<|zB<|zA 1 u<|vD (eInt .i64) 3<|zC<|zG<|zB<|zA 3 u<|zC<|zQ<|
  qP (fun s1 K=>∀ p2 c2 r_1,K [(1, vi y1), (5, sv p2 s1.1 c2), (8, sv p1 y0 c1), (9, vi (len y0)), (10, vi s1.2)] [r_1] [Al (eInt .i64) 3 r_1 p2 c2 s1.1, Rl (eInt .i64) p1 c1 y0]) (gv (fun _ k=>k none 0 []) [0] ⟨gk 0,gk 1,d⟩)<|
  fun s1 _ k p2 c2 r_1=>k<|zB<|zA 1 u<|zC<|zG<|zI u (zL<|zD<|zG<|zQ<|zB<|zA 1 u<|qX 1 u u u<|fun x1 b1 o1=>qW false oI (gk 0) u<|zA 2 u<|zC<|zB<|zA 3 u<|zC<|zI u (zM<|zA 2 u<|
  wV .s (e := eInt .i64) 3 [vi s1.2] ([s1.2] : List Int) (rC vI rN)<|fun p3 c3=>wM .s 0 2 u (gk 0) u u<|fun x2 r_2 p4 c4=>zA 1 u<|zF<|qD<|zD<|zM<|zA 2 u<|zF<|qF (gv (fun _ k=>k p4 c4 r_2) [0] ⟨gk 0,gk 4,d⟩))<|zL<|qD<|
  zD<|zM<|zA 2 u<|zF<|qF (gv (fun _ k=>k p2 c2 r_1) [0] ⟨gk 1,gk 2,d⟩))<|qM<|qL<|qO<|qN<|zD<|zB<|zA 2 u<|zC<|zK<|wS 0 0 u u<|zS u u (fun _ k=>k p2 c2) [] ⟨gk 0,d⟩
theorem zHe {qd : Prop} {y0 : List vE} : qA qd prog 116 [sv p1 y0 c1] [] [Rl e_Premise p1 c1 y0] (zC8 y0) fun r K=>∀ p2 c2,K (sv p2 r c2) [] [Rl e_Premise p2 c2 r] :=
 qE call116 func116 u fun X=>zB<|zA 1 u<|zC<|zG<|zB<|zA 1 u<|jv (fun h=>zVk h u underlying22)<|zC<|jnl (m1 := some ([] : List vE)) u (gk 0) (fun h=>by first|(rw [h];done)|(rw [h];rfl)|(simp [h,wJ];done)) (zB<|zA 1 u<|zC<|zK<|qC<|
  zS u u (fun _ k=>k none 0) [] ⟨gn,d⟩)<|zL<|zD<|zB<|uY .s (e := e_Premise) 67 [] ([] : List vE) rN<|fun r_1 p2 c2=>zA 1 u<|wM .s 0 0 u (gk 1) u u<|fun x1 r_2 p3 c3=>zA 1 u<|zC<|zK<|wS 0 0 u u<|
  zS u u (fun _ k=>k p3 c3) [] ⟨gk 0,d⟩
theorem zBk {qd : Prop} {y0 : List vQ} : qA qd prog 118 [sv p1 y0 c1] [] [Rl e_Promotion p1 c1 y0] (zBg y0) fun r K=>∀ p2 c2,K (sv p2 r c2) [] [Rl e_Promotion p2 c2 r] :=
 qE call118 func118 u fun X=>zB<|zA 1 u<|zC<|zG<|zB<|zA 1 u<|jv (fun h=>zVk h u underlying24)<|zC<|jnl (m1 := some ([] : List vQ)) u (gk 0) (fun h=>by first|(rw [h];done)|(rw [h];rfl)|(simp [h,wJ];done)) (zB<|zA 1 u<|zC<|zK<|qC<|
  zS u u (fun _ k=>k none 0) [] ⟨gn,d⟩)<|zL<|zD<|zB<|uY .s (e := e_Promotion) 75 [] ([] : List vQ) rN<|fun r_1 p2 c2=>zA 1 u<|wM .s 0 0 u (gk 1) u u<|fun x1 r_2 p3 c3=>zA 1 u<|zC<|zK<|wS 0 0 u u<|
  zS u u (fun _ k=>k p3 c3) [] ⟨gk 0,d⟩
theorem zGf {qd : Prop} {y0 : List wD} : qA qd prog 117 [sv p1 y0 c1] [] [Rl e_Rule p1 c1 y0] (zEM y0) fun r K=>∀ p2 c2 r_1,K (sv p2 r c2) [r_1] [Al e_Rule 73 r_1 p2 c2 r] :=
 qE call117 func117 u fun X=>zB<|zA 1 u<|zC<|zG<|zB<|zA 1 u<|jv (fun h=>zVk h u underlying23)<|zC<|jnl (m1 := some ([] : List wD)) u (gk 0) (fun h=>by first|(rw [h];done)|(rw [h];rfl)|(simp [h,wJ];done)) (zB<|zA 1 u<|zC<|zK<|qC<|
  vD e_Rule 73<|jrE 0 2 u u<|zS u u (fun _ k=>k none 0 []) [0] ⟨gk 0,d⟩)<|zL<|zD<|zB<|uY .s (e := e_Rule) 73 [] ([] : List wD) rN<|fun r_1 p2 c2=>zA 1 u<|wM .s 0 0 u (gk 1) u u<|fun x1 r_2 p3 c3=>zA 1 u<|zC<|
  zK<|zS u u (fun _ k=>k p3 c3 r_2) [0] ⟨gk 0,d⟩
theorem zMg {qd : Prop} {y0 : zT} {y1 : List zO} : qA qd prog 67 [.agg #[sv p1 y0.1 c1, sv p2 y0.2.1 c2, sv p3 y0.2.2 c3], sv p4 y1 c4] [] [Rl e_Premise p1 c1 y0.1, Rl e_Rule p2 c2 y0.2.1, Rl e_Promotion p3 c3 y0.2.2, Rl e_Literal p4 c4 y1] (zFP y0 y1) fun r K=>∀ p5 c5 p6 c6 p7 c7,K (.agg #[sv p5 r.1 c5, sv p6 r.2.1 c6, sv p7 r.2.2 c7]) [] [Rl e_Premise p5 c5 r.1, Rl e_Rule p6 c6 r.2.1, Rl e_Promotion p7 c7 r.2.2] :=
 qE call67 func67 u fun X=>zB<|qT .s u<|fun b1=>wL .s (.agg #[.slice none 0 0, .slice none 0 0, .slice none 0 0])<|fun b2=>zC<|
  wA (fun s1 K=>∀ b3 p5 c5 p6 c6 r_1 p7 c7,K [(1, sv p4 y1 c4), (2, pt b1 0), (4, pt b2 0), (5, pt b3 0)] [bx b1 26 [sv p1 y0.1 c1, sv p2 y0.2.1 c2, sv p3 y0.2.2 c3], bx b2 26 [.slice none 0 0, .slice none 0 0, .slice none 0 0], bx b3 26 [sv p5 s1.1 c5, sv p6 s1.2.1 c6, sv p7 s1.2.2 c7], r_1] [Rl e_Premise p5 c5 s1.1, Al e_Rule 73 r_1 p6 c6 s1.2.1, Rl e_Promotion p7 c7 s1.2.2, Rl e_Literal p4 c4 y1, Rl e_Premise p1 c1 y0.1, Rl e_Rule p2 c2 y0.2.1, Rl e_Promotion p3 c3 y0.2.2]) (
  yN [] [0] 12<|qQ 0 0 u u<|qZ 1 0 u u u u<|qQ 3 1 u u<|qZ 4 0 u u u u<|qQ 6 2 u u<|qZ 7 0 u u u u<|xM 2 10 (qH (.f u) [] [] zHe u u u ⟨ck 0,d⟩<|fun r1 _ k p8 c8=>k<|
  zZ<|xM 5 10 (qH (.f u) [] [] zGf u u u ⟨ck 2,d⟩<|fun r2 _ k p9 c9 r_2=>k<|zZ<|xM 8 10 (qH (.f u) [] [] zBk u u u ⟨ck 4,d⟩<|fun r3 _ k p10 c10=>k<|zZ<|
  wC 9 (.agg #[sv p8 r1 c8, sv p9 r2 c9, sv p10 r3 c10]) u<|qG 10<|wL (.f u) (.agg #[.slice none 0 0, .slice none 0 0, .slice none 0 0])<|fun b4=>zZ<|qG 11<|qU (o := 0) (.f u) 3 u u u<|zZ<|qS<|
  zN (gv (fun _ k=>k b4 p8 c8 p9 c9 r_2 p10 c10) [0,1,3,2] ⟨gk 2,gk 1,gk 0,gk 6,gk 3,gk 4,gk 5,d⟩)) <|wL (.f u) (.agg #[.slice none 0 0, .slice none 0 0, .slice none 0 0])<|fun b5=>zZ<|qG 8<|
  qH (.f u) [] [] zBk u u u ⟨ck 4,d⟩<|fun r4 _ k p11 c11=>k<|zZ<|wC 9 (.agg #[sv p8 r1 c8, sv p9 r2 c9, sv p11 r4 c11]) u<|qG 11<|qU (o := 0) (.f u) 3 u u u<|zZ<|qS<|
  zN (gv (fun _ k=>k b5 p8 c8 p9 c9 r_2 p11 c11) [0,1,3,2] ⟨gk 2,gk 1,gk 0,gk 6,gk 3,gk 4,gk 5,d⟩)) <|wL (.f u) (.agg #[.slice none 0 0, .slice none 0 0, .slice none 0 0])<|fun b6=>zZ<|qG 5<|
  qH (.f u) [] [] zGf u u u ⟨ck 2,d⟩<|fun r5 _ k p12 c12 r_3=>k<|zZ<|qG 8<|qH (.f u) [] [] zBk u u u ⟨ck 4,d⟩<|fun r6 _ k p13 c13=>k<|zZ<|
  wC 9 (.agg #[sv p8 r1 c8, sv p12 r5 c12, sv p13 r6 c13]) u<|qG 11<|qU (o := 0) (.f u) 2 u u u<|zZ<|qS<|zN (gv (fun _ k=>k b6 p8 c8 p12 c12 r_3 p13 c13) [0,1,2,3] ⟨gk 2,gk 1,gk 0,gk 6,gk 3,gk 4,gk 5,d⟩)) <|
  wL (.f u) (.agg #[.slice none 0 0, .slice none 0 0, .slice none 0 0])<|fun b7=>zZ<|qG 2<|qH (.f u) [] [] zHe u u u ⟨ck 0,d⟩<|fun r7 _ k p14 c14=>k<|zZ<|qG 5<|
  qH (.f u) [] [] zGf u u u ⟨ck 2,d⟩<|fun r8 _ k p15 c15 r_4=>k<|zZ<|qG 8<|qH (.f u) [] [] zBk u u u ⟨ck 4,d⟩<|fun r9 _ k p16 c16=>k<|zZ<|
  wC 9 (.agg #[sv p14 r7 c14, sv p15 r8 c15, sv p16 r9 c16]) u<|qG 11<|qU (o := 0) (.f u) 2 u u u<|zZ<|qS<|zN (gv (fun _ k=>k b7 p14 c14 p15 c15 r_4 p16 c16) [0,1,2,3] ⟨gk 2,gk 1,gk 0,gk 6,gk 3,gk 4,gk 5,d⟩))<|
  fun s1 _ k b3 p5 c5 p6 c6 r_1 p7 c7=>k<|
  wA (fun s2 K=>∀ p17 c17 r_5,K [(4, pt b2 0), (5, pt b3 0)] [[], bx b2 26 [.slice none 0 0, .slice none 0 0, .slice none 0 0], bx b3 26 [sv p5 s1.1 c5, sv p17 s2 c17, sv p7 s1.2.2 c7], r_5] [Al e_Rule 73 r_5 p17 c17 s2, Rl e_Premise p5 c5 s1.1, Rl e_Promotion p7 c7 s1.2.2]) (
  zB<|zU 1 u<|zV 0 u u u<|zA 2 u<|zC<|zQ<|
  qP (fun s3 K=>∀ p18 c18 r_6,K [(1, sv p4 y1 c4), (2, pt b1 0), (4, pt b2 0), (5, pt b3 0), (21, sv p2 y0.2.1 c2), (22, vi (len y0.2.1)), (23, vi s3.1)] [bx b1 26 [sv p1 y0.1 c1, sv p2 y0.2.1 c2, sv p3 y0.2.2 c3], bx b2 26 [.slice none 0 0, .slice none 0 0, .slice none 0 0], bx b3 26 [sv p5 s1.1 c5, sv p18 s3.2 c18, sv p7 s1.2.2 c7], r_6] [Al e_Rule 73 r_6 p18 c18 s3.2, Rl e_Literal p4 c4 y1, Rl e_Rule p2 c2 y0.2.1, Rl e_Premise p1 c1 y0.1, Rl e_Promotion p3 c3 y0.2.2, Rl e_Premise p5 c5 s1.1, Rl e_Promotion p7 c7 s1.2.2]) (gv (fun _ k=>k p6 c6 r_1) [0,1,2,3] ⟨gk 1,gk 3,gk 5,gk 4,gk 6,gk 0,gk 2,d⟩)<|
  fun s3 _ k p18 c18 r_6=>k<|zB<|zA 1 u<|zC<|zG<|zI u (zL<|zD<|zG<|zQ<|zB<|zA 1 u<|qX 2 u u u<|fun x1 b8 o1=>qW true zMN (gk 0) u<|fun p19 c19=>
  wL .s (.agg #[vs [], vb false, vi 0, .slice none 0 0, vb false, vs []])<|fun b9=>zA 1 u<|qU .s 4 u u u<|zC<|yK [] [2, 4] 9<|qQ 0 1 u u<|qZ 1 2 u u u u<|zX 6 [2] u<|qQ 3 3 u u<|qZ 4 4 u u u u<|
  qG 5<|qH (.f u) [] [] zHf u u u ⟨ck 0,d⟩<|fun r10 _ k p20 c20 r_7=>k<|zZ<|xW 6 3 u u u u<|fun x2 h1 b10 hp1=>qQ 7 3 u u<|wS 5 0 u u<|qG 8<|
  uX (.f u) 3 4 sI.snd.snd.snd.fst r10 false u hp1 h1 u u (vL (gk 0))<|fun r_8=>zZ<|qS<|zD<|zB<|zU 2 u<|zV 0 u u u<|zA 2 u<|zC<|zQ<|
  jbL (fun q_=>[bx b1 26 [sv p1 y0.1 c1, sv p2 y0.2.1 c2, sv p3 y0.2.2 c3], bx b2 26 [.slice none 0 0, .slice none 0 0, .slice none 0 0], bx b3 26 [sv p5 s1.1 c5, .slice p18 q_ c18, sv p7 s1.2.2 c7], r_8, bx b9 73 [vs x1.1, vb x1.2.1, vi x1.2.2.1, sv p19 x1.2.2.2.1 c19, vb x1.2.2.2.2.1, vs x1.2.2.2.2.2], []]) (gk 0) u<|
  qP (fun s4 K=>∀ p21 c21 r_9,K [(1, sv p4 y1 c4), (2, pt b1 0), (4, pt b2 0), (5, pt b3 0), (6, vi s3.1), (7, pt b9 0), (21, sv p2 y0.2.1 c2), (22, vi (len y0.2.1)), (23, vi s3.1), (37, sv p3 y0.2.2 c3), (38, vi (len y0.2.2)), (39, vi s4.1)] [bx b1 26 [sv p1 y0.1 c1, sv p2 y0.2.1 c2, sv p3 y0.2.2 c3], bx b2 26 [.slice none 0 0, .slice none 0 0, .slice none 0 0], bx b3 26 [sv p5 s1.1 c5, sv p21 s4.2 c21, sv p7 s1.2.2 c7], r_9, bx b9 73 [vs x1.1, vb x1.2.1, vi x1.2.2.1, sv p19 x1.2.2.2.1 c19, vb x1.2.2.2.2.1, vs x1.2.2.2.2.2], []] [Al e_Rule 73 r_9 p21 c21 s4.2, Rl e_Literal p4 c4 y1, Rl e_Rule p2 c2 y0.2.1, Rl e_Promotion p3 c3 y0.2.2, Rl e_Premise p1 c1 y0.1, Rl e_Premise p5 c5 s1.1, Rl e_Promotion p7 c7 s1.2.2, Rl e_Literal p19 c19 x1.2.2.2.1]) (gv (fun _ k=>k p18 c18 r_8) [0,1,2,3,4,905] ⟨gk 0,gk 7,gk 8,gk 10,gk 9,gk 11,gk 12,gk 4,d⟩)<|
  fun s4 _ k p21 c21 r_9=>k<|zB<|zA 1 u<|zC<|zG<|zI u (zL<|zD<|zG<|zQ<|zB<|qX 3 u u u<|fun x3 b11 o2=>qW true zKP (gk 0) u<|wL .s (.agg #[vs [], vi 0, vb false, vs []])<|fun b12=>qU .s 6 u u u<|zC<|
  wA (fun s5 K=>K [(1, sv p4 y1 c4), (2, pt b1 0), (4, pt b2 0), (5, pt b3 0), (6, vi s3.1), (7, pt b9 0), (9, pt b12 0), (21, sv p2 y0.2.1 c2), (22, vi (len y0.2.1)), (23, vi s3.1), (37, sv p3 y0.2.2 c3), (38, vi (len y0.2.2)), (39, vi s4.1), (58, vb s5)] [bx b1 26 [sv p1 y0.1 c1, sv p2 y0.2.1 c2, sv p3 y0.2.2 c3], bx b2 26 [.slice none 0 0, .slice none 0 0, .slice none 0 0], bx b3 26 [sv p5 s1.1 c5, sv p21 s4.2 c21, sv p7 s1.2.2 c7], r_9, bx b9 73 [vs x1.1, vb x1.2.1, vi x1.2.2.1, sv p19 x1.2.2.2.1 c19, vb x1.2.2.2.2.1, vs x1.2.2.2.2.2], [], bx b12 75 [vs x3.1, vi x3.2.1, vb x3.2.2.1, vs x3.2.2.2]] [Rl e_Literal p4 c4 y1, Rl e_Rule p2 c2 y0.2.1, Rl e_Promotion p3 c3 y0.2.2, Rl e_Premise p1 c1 y0.1, Rl e_Premise p5 c5 s1.1, Al e_Rule 73 r_9 p21 c21 s4.2, Rl e_Promotion p7 c7 s1.2.2, Rl e_Literal p19 c19 x1.2.2.2.1]) (
  zM<|zU 1 u<|zV 4 u u u<|zA 2 u<|wH 46 u (zU 0 u<|zV 6 u u u<|zU 0 u<|zV 4 u u u<|zA 1 u<|zJ (vb (x3.1 == x1.1))<|zA 1 u<|wH 53 u (zA 1 u<|zU 2 u<|qK 6 2 u u u<|
  qI zIg u ⟨ck 2,d⟩<|fun r11 _ k=>k<|zJ (vb r11)<|zF<|zN (gv kk [0,1,2,3,4,905,6] ⟨gk 2,gk 3,gk 4,gk 5,gk 6,gk 1,gk 7,gk 8,d⟩))<|zA 4 u<|zJ (vb false)<|zF<|
  zN (gv kk [0,1,2,3,4,905,6] ⟨gk 2,gk 3,gk 4,gk 5,gk 6,gk 1,gk 7,gk 8,d⟩))<|zA 5 u<|zJ (vb false)<|zA 5 u<|zJ (vb false)<|zF<|zN (gv kk [0,1,2,3,4,905,6] ⟨gk 2,gk 3,gk 4,gk 5,gk 6,gk 1,gk 7,gk 8,d⟩))<|
  fun s5 _ k=>k<|zI u (zM<|zU 1 u<|zV 2 u u u<|zA 1 u<|zU 1 u<|zV 6 u u u<|yH 5 u u u<|fun x4 h2 b13 hp2=>zU 2 u<|uX .s 3 5 sI.snd.snd.fst x3.2.1 false u hp2 h2 u u vI<|fun r_10=>zF<|qD<|zD<|
  zM<|zA 2 u<|zF<|
  jbL (fun q_=>[bx b1 26 [sv p1 y0.1 c1, sv p2 y0.2.1 c2, sv p3 y0.2.2 c3], bx b2 26 [.slice none 0 0, .slice none 0 0, .slice none 0 0], bx b3 26 [sv p5 s1.1 c5, .slice p21 q_ c21, sv p7 s1.2.2 c7], r_10, bx b9 73 [vs x1.1, vb x1.2.1, vi x1.2.2.1, sv p19 x1.2.2.2.1 c19, vb x1.2.2.2.2.1, vs x1.2.2.2.2.2], [], bx b12 75 [vs x3.1, vi x3.2.1, vb x3.2.2.1, vs x3.2.2.2]]) (gk 0) u<|
  qF (gv (fun _ k=>k p21 c21 r_10) [0,1,2,3,4,905] ⟨gk 0,gk 2,gk 3,gk 4,gk 5,gk 6,gk 8,gk 9,d⟩))<|zL<|qD<|zD<|zM<|zA 2 u<|zF<|qF (gv (fun _ k=>k p21 c21 r_9) [0,1,2,3,4,905] ⟨gk 5,gk 0,gk 1,gk 2,gk 3,gk 4,gk 6,gk 7,d⟩))<|qM<|
  qL<|qO<|qN<|qD<|zD<|zM<|zA 2 u<|zF<|qF (gv (fun _ k=>k p21 c21 r_9) [0,1,2,3] ⟨gk 0,gk 1,gk 2,gk 4,gk 3,gk 5,gk 6,d⟩))<|qM<|qL<|qO<|qN<|zN (gv (fun _ k=>k p18 c18 r_6) [900,1,2,3] ⟨gk 0,gk 5,gk 6,d⟩))<|
  fun s2 _ k p17 c17 r_5=>k<|zB<|qK 2 3 u u u<|qU .s 1 u u u<|zC<|zK<|wS 3 0 u u<|wR u (lC 1 (.agg #[sv p5 s1.1 c5, sv p17 s2 c17, sv p7 s1.2.2 c7]) u u lN) (fun _ k=>k p5 c5 p17 c17 p7 c7) [] ⟨gk 2,gk 0,gk 3,d⟩
theorem zKg {qd : Prop} {y0 : zT} {y1 : wQ} : qA qd prog 23 [.agg #[sv p1 y0.1 c1, sv p2 y0.2.1 c2, sv p3 y0.2.2 c3], .agg #[vi y1.1, vi y1.2]] [] [Rl e_Premise p1 c1 y0.1, Rl e_Rule p2 c2 y0.2.1, Rl e_Promotion p3 c3 y0.2.2, Pt (eArr 64 (eInt .u8)) 0 0 tab_math_bits_deBruijn64tab] (zCq y0 y1) fun r K=>∀ p4 c4 p5 c5 p6 c6 p7 c7 p8 c8 p9 c9,K (.tuple #[.agg #[sv p4 r.1.1.1 c4, sv p5 r.1.1.2.1 c5, sv p6 r.1.1.2.2 c6, sv p7 r.1.2.1 c7, sv p8 r.1.2.2.1 c8, vi r.1.2.2.2.1, sv p9 r.1.2.2.2.2 c9], vi r.2]) [] [Rl e_Premise p4 c4 r.1.1.1, Rl e_Rule p5 c5 r.1.1.2.1, Rl e_Promotion p6 c6 r.1.1.2.2, Rl qR p7 c7 r.1.2.1, Rl vW p8 c8 r.1.2.2.1, Rl wF p9 c9 r.1.2.2.2.2] :=
 qE call23 func23 u fun X=>zB<|qT .s u<|fun b1=>qT .s u<|fun b2=>wL .s (.agg #[.slice none 0 0, .slice none 0 0, .slice none 0 0, .slice none 0 0, .slice none 0 0, vi 0, .slice none 0 0])<|fun b3=>zA 1 u<|zC<|zB<|qK 0 3 u u u<|
  qI zOF u ⟨ck 0,ck 1,ck 2,d⟩<|fun r1 _ k p4 c4=>k<|zA 5 u<|zC<|zG<|zB<|zA 2 u<|zC<|zI u (zB<|
  zJ (.agg #[.slice none 0 0, .slice none 0 0, .slice none 0 0, .slice none 0 0, .slice none 0 0, vi 0, .slice none 0 0])<|zA 1 u<|qU .s 2 u u u<|zA 1 u<|zC<|zK<|qC<|
  wR u (lC 2 (.agg #[.slice none 0 0, .slice none 0 0, .slice none 0 0, .slice none 0 0, .slice none 0 0, vi 0, .slice none 0 0]) u u (lT u lN)) (fun _ k=>k none 0 none 0 none 0 none 0 none 0 none 0) [] ⟨gn,gn,gn,gn,gn,gn,d⟩)<|
  zL<|zD<|zG<|
  yW (fun K=>K [(2, pt b1 0), (3, pt b2 0), (4, pt b3 0), (6, sv p4 r1.1 c4), (37, vb (if y1.1 != 1 then (y1.1 != 2) || ((y1.2 != 1) && (y1.2 != 2)) else (y1.2 != 1) && (y1.2 != 2)))] [bx b1 26 [sv p1 y0.1 c1, sv p2 y0.2.1 c2, sv p3 y0.2.2 c3], bx b2 28 [vi y1.1, vi y1.2], bx b3 52 [.slice none 0 0, .slice none 0 0, .slice none 0 0, .slice none 0 0, .slice none 0 0, vi 0, .slice none 0 0]] [Rl qR p4 c4 r1.1, Rl e_Premise p1 c1 y0.1, Rl e_Rule p2 c2 y0.2.1, Rl e_Promotion p3 c3 y0.2.2, Pt (eArr 64 (eInt .u8)) 0 0 tab_math_bits_deBruijn64tab]) (
  zM<|zU 0 u<|zV 1 u u u<|zA 2 u<|vY (b := y1.1 != 1) 23 u (fun hb1=>zU 0 u<|zV 1 u u u<|zA 1 u<|zJ (vb (y1.1 != 2))<|zA 1 u<|vY (b := y1.1 != 2) 28 u (fun hb2=>zA 8 u<|zJ (vb true)<|zF<|
  wN 37 (vb (if y1.1 != 1 then (y1.1 != 2) || ((y1.2 != 1) && (y1.2 != 2)) else (y1.2 != 1) && (y1.2 != 2))) u (by rw [hb1,hb2]; rfl)<|zN (gv kk [0,1,2] ⟨gk 0,gk 1,gk 2,gk 3,gk 4,d⟩))<|fun hb2=>zU 1 u<|zV 1 u u u<|
  zA 2 u<|vY (b := y1.2 != 1) 32 u (fun hb3=>zU 1 u<|zV 1 u u u<|zA 1 u<|zJ (vb (y1.2 != 2))<|zJ (vb (y1.2 != 2))<|zF<|
  wN 37 (vb (if y1.1 != 1 then (y1.1 != 2) || ((y1.2 != 1) && (y1.2 != 2)) else (y1.2 != 1) && (y1.2 != 2))) u (by rw [hb1,hb2,hb3]; rfl)<|zN (gv kk [0,1,2] ⟨gk 0,gk 1,gk 2,gk 3,gk 4,d⟩))<|fun hb3=>zA 3 u<|zJ (vb false)<|
  zJ (vb false)<|zF<|wN 37 (vb (if y1.1 != 1 then (y1.1 != 2) || ((y1.2 != 1) && (y1.2 != 2)) else (y1.2 != 1) && (y1.2 != 2))) u (by rw [hb1,hb2,hb3]; rfl)<|zN (gv kk [0,1,2] ⟨gk 0,gk 1,gk 2,gk 3,gk 4,d⟩))<|fun hb1=>
  zA 3 u<|zJ (vb false)<|zA 1 u<|zU 1 u<|zV 1 u u u<|zA 2 u<|vY (b := y1.2 != 1) 32 u (fun hb4=>zU 1 u<|zV 1 u u u<|zA 1 u<|zJ (vb (y1.2 != 2))<|zJ (vb (y1.2 != 2))<|zF<|
  wN 37 (vb (if y1.1 != 1 then (y1.1 != 2) || ((y1.2 != 1) && (y1.2 != 2)) else (y1.2 != 1) && (y1.2 != 2))) u (by rw [hb1,hb4]; rfl)<|zN (gv kk [0,1,2] ⟨gk 0,gk 1,gk 2,gk 3,gk 4,d⟩))<|fun hb4=>zA 3 u<|zJ (vb false)<|
  zJ (vb false)<|zF<|wN 37 (vb (if y1.1 != 1 then (y1.1 != 2) || ((y1.2 != 1) && (y1.2 != 2)) else (y1.2 != 1) && (y1.2 != 2))) u (by rw [hb1,hb4]; rfl)<|zN (gv kk [0,1,2] ⟨gk 0,gk 1,gk 2,gk 3,gk 4,d⟩))<|fun _ k=>k<|zI u (
  zB<|zJ (.agg #[.slice none 0 0, .slice none 0 0, .slice none 0 0, .slice none 0 0, .slice none 0 0, vi 0, .slice none 0 0])<|qU .s 2 u u u<|zA 1 u<|zC<|zK<|qC<|
  wR u (lC 2 (.agg #[.slice none 0 0, .slice none 0 0, .slice none 0 0, .slice none 0 0, .slice none 0 0, vi 0, .slice none 0 0]) u u (lT u lN)) (fun _ k=>k none 0 none 0 none 0 none 0 none 0 none 0) [] ⟨gn,gn,gn,gn,gn,gn,d⟩)<|
  zL<|zD<|zB<|zA 2 u<|qK 0 3 u u u<|zA 1 u<|qK 1 2 u u u<|qI zKn u ⟨ck 1,ck 2,ck 3,ck 0,d⟩<|fun r2 _ k p5 c5=>k<|qI zMK u ⟨ck 0,d⟩<|fun r3 _ k p6 c6=>k<|zA 3 u<|
  wL .s (.agg #[vi 0, .slice none 0 0])<|fun b4=>qU .s 3 u u u<|zA 1 u<|zC<|zG<|zB<|zA 2 u<|zC<|zI u (zB<|
  zJ (.agg #[.slice none 0 0, .slice none 0 0, .slice none 0 0, .slice none 0 0, .slice none 0 0, vi 0, .slice none 0 0])<|zA 1 u<|qU .s 2 u u u<|zA 1 u<|zC<|zK<|qC<|
  wR u (lC 2 (.agg #[.slice none 0 0, .slice none 0 0, .slice none 0 0, .slice none 0 0, .slice none 0 0, vi 0, .slice none 0 0]) u u (lT u lN)) (fun _ k=>k none 0 none 0 none 0 none 0 none 0 none 0) [] ⟨gn,gn,gn,gn,gn,gn,d⟩)<|
  zL<|zD<|zB<|zA 1 u<|qK 3 2 u u u<|qI zKf u ⟨ck 0,ck 6,d⟩<|fun r4 _ k p7 c7=>k<|qI zG8 u ⟨ck 0,d⟩<|fun r5 _ k p8 c8=>k<|qI zHd u ⟨ck 4,ck 0,d⟩<|fun r6 _ k p9 c9=>k<|
  zA 1 u<|zC<|zB<|qK 0 3 u u u<|zA 1 u<|qI zMg u ⟨ck 6,ck 7,ck 8,ck 0,d⟩<|fun r7 _ k p10 c10 p11 c11 p12 c12=>k<|zA 1 u<|
  zJ (.agg #[sv p10 r7.1 c10, sv p11 r7.2.1 c11, sv p12 r7.2.2 c12, sv p4 r1.1 c4, .slice none 0 0, vi 0, .slice none 0 0])<|
  wL .s (.agg #[.slice none 0 0, .slice none 0 0, .slice none 0 0, .slice none 0 0, .slice none 0 0, vi 0, .slice none 0 0])<|fun b5=>qU .s 4 u u u<|zC<|zB<|zU 0 u<|qK 4 3 u u u<|zA 1 u<|qK 1 2 u u u<|
  qI zKn u ⟨ck 0,ck 1,ck 2,ck 8,d⟩<|fun r8 _ k p13 c13=>k<|zU 4 u<|qU .s 4 u u u<|zC<|zG<|zB<|zA 2 u<|zU 4 u<|zV 4 u u u<|qI zMK u ⟨ck 0,d⟩<|fun r9 _ k p14 c14=>k<|zA 3 u<|
  zU 5 u<|qU .s 4 u u u<|zA 1 u<|zC<|zB<|zA 2 u<|zC<|zI u (zB<|zJ (.agg #[.slice none 0 0, .slice none 0 0, .slice none 0 0, .slice none 0 0, .slice none 0 0, vi 0, .slice none 0 0])<|zA 1 u<|qU .s 2 u u u<|
  zA 1 u<|zC<|zK<|qC<|
  wR u (lC 2 (.agg #[.slice none 0 0, .slice none 0 0, .slice none 0 0, .slice none 0 0, .slice none 0 0, vi 0, .slice none 0 0]) u u (lT u lN)) (fun _ k=>k none 0 none 0 none 0 none 0 none 0 none 0) [] ⟨gn,gn,gn,gn,gn,gn,d⟩)<|
  zL<|zD<|zB<|qK 4 7 u u u<|qU .s 2 u u u<|zA 1 u<|zC<|zK<|
  wR u (lC 2 (.agg #[sv p10 r7.1 c10, sv p11 r7.2.1 c11, sv p12 r7.2.2 c12, sv p4 r1.1 c4, sv p13 r8 c13, vi r9.1.1, sv p14 r9.1.2 c14]) u u (lT u lN)) (fun _ k=>k p10 c10 p11 c11 p12 c12 p4 c4 p13 c13 p14 c14) [] ⟨gk 2,gk 3,gk 4,gk 10,gk 1,gk 0,d⟩
theorem zGq {qd : Prop} : qA qd prog 263 [.func (.func 265) #[] #[]] [] [] (zCh) fun r K=>∀ b1,K (.func (.func 289) #[] #[pt b1 0]) [bx b1 233 [.func (.func 265) #[] #[]]] [] :=
 qE call263 func263 u fun X=>zB<|qT .s u<|fun b1=>zA 1 u<|zC<|zB<|zA 2 u<|zC<|zK<|zS u u (fun _ k=>k b1) [0] d
theorem zGe {qd : Prop} : qA qd prog 263 [.func (.func 267) #[] #[]] [] [] (zC0) fun r K=>∀ b1,K (.func (.func 289) #[] #[pt b1 0]) [bx b1 233 [.func (.func 267) #[] #[]]] [] :=
 qE call263 func263 u fun X=>zB<|qT .s u<|fun b1=>zA 1 u<|zC<|zB<|zA 2 u<|zC<|zK<|zS u u (fun _ k=>k b1) [0] d
theorem zHh {qd : Prop} : qA qd prog 263 [.func (.func 266) #[] #[]] [] [] (zDs) fun r K=>∀ b1,K (.func (.func 289) #[] #[pt b1 0]) [bx b1 233 [.func (.func 266) #[] #[]]] [] :=
 qE call263 func263 u fun X=>zB<|qT .s u<|fun b1=>zA 1 u<|zC<|zB<|zA 2 u<|zC<|zK<|zS u u (fun _ k=>k b1) [0] d
theorem zIY {qd : Prop} : qA qd prog 263 [.func (.func 264) #[] #[]] [] [] (zEE) fun r K=>∀ b1,K (.func (.func 289) #[] #[pt b1 0]) [bx b1 233 [.func (.func 264) #[] #[]]] [] :=
 qE call263 func263 u fun X=>zB<|qT .s u<|fun b1=>zA 1 u<|zC<|zB<|zA 2 u<|zC<|zK<|zS u u (fun _ k=>k b1) [0] d
theorem zIT {qd : Prop} : qA qd prog 263 [.func (.func 288) #[] #[pt b1 0]] [bx b1 254 [.func (.func 262) #[] #[]]] [] (zEC) fun r K=>∀ b2,K (.func (.func 289) #[] #[pt b2 0]) [bx b1 254 [.func (.func 262) #[] #[]], bx b2 233 [.func (.func 288) #[] #[pt b1 0]]] [] :=
 qE call263 func263 u fun X=>zB<|qT .s u<|fun b2=>zA 1 u<|zC<|zB<|zA 2 u<|zC<|zK<|zS u u (fun _ k=>k b2) [0,1] d
theorem zGu {qd : Prop} : qA qd prog 261 [.func (.func 262) #[] #[]] [] [] (zCv) fun r K=>∀ b1 b2,K (.func (.func 289) #[] #[pt b1 0]) [bx b1 233 [.func (.func 288) #[] #[pt b2 0]], bx b2 254 [.func (.func 262) #[] #[]]] [] :=
 qE call261 func261 u fun X=>zB<|qT .s u<|fun b1=>zA 1 u<|zC<|zB<|zA 1 u<|qH .s [0] [] zIT u u u d<|fun r1 _ k b2=>k<|zA 1 u<|zC<|zK<|zS u u (fun _ k=>k b2 b1) [1,0] d
theorem zHa {qd : Prop} : qA qd prog 263 [.func (.func 288) #[] #[pt b1 0]] [bx b1 254 [.func (.func 269) #[] #[]]] [] (zDQ) fun r K=>∀ b2,K (.func (.func 289) #[] #[pt b2 0]) [bx b1 254 [.func (.func 269) #[] #[]], bx b2 233 [.func (.func 288) #[] #[pt b1 0]]] [] :=
 qE call263 func263 u fun X=>zB<|qT .s u<|fun b2=>zA 1 u<|zC<|zB<|zA 2 u<|zC<|zK<|zS u u (fun _ k=>k b2) [0,1] d
theorem zJI {qd : Prop} : qA qd prog 261 [.func (.func 269) #[] #[]] [] [] (zF6) fun r K=>∀ b1 b2,K (.func (.func 289) #[] #[pt b1 0]) [bx b1 233 [.func (.func 288) #[] #[pt b2 0]], bx b2 254 [.func (.func 269) #[] #[]]] [] :=
 qE call261 func261 u fun X=>zB<|qT .s u<|fun b1=>zA 1 u<|zC<|zB<|zA 1 u<|qH .s [0] [] zHa u u u d<|fun r1 _ k b2=>k<|zA 1 u<|zC<|zK<|zS u u (fun _ k=>k b2 b1) [1,0] d
theorem zHb {qd : Prop} : qA qd prog 263 [.func (.func 288) #[] #[pt b1 0]] [bx b1 254 [.func (.func 268) #[] #[]]] [] (zDR) fun r K=>∀ b2,K (.func (.func 289) #[] #[pt b2 0]) [bx b1 254 [.func (.func 268) #[] #[]], bx b2 233 [.func (.func 288) #[] #[pt b1 0]]] [] :=
 qE call263 func263 u fun X=>zB<|qT .s u<|fun b2=>zA 1 u<|zC<|zB<|zA 2 u<|zC<|zK<|zS u u (fun _ k=>k b2) [0,1] d
theorem zIy {qd : Prop} : qA qd prog 261 [.func (.func 268) #[] #[]] [] [] (zFe) fun r K=>∀ b1 b2,K (.func (.func 289) #[] #[pt b1 0]) [bx b1 233 [.func (.func 288) #[] #[pt b2 0]], bx b2 254 [.func (.func 268) #[] #[]]] [] :=
 qE call261 func261 u fun X=>zB<|qT .s u<|fun b1=>zA 1 u<|zC<|zB<|zA 1 u<|qH .s [0] [] zHb u u u d<|fun r1 _ k b2=>k<|zA 1 u<|zC<|zK<|zS u u (fun _ k=>k b2 b1) [1,0] d
theorem zOG {qd : Prop} : qA qd prog 235 [] [] [] (zI0) fun r K=>∀ b1 b2 b3 b4 b5 b6 b7 b8 b9 b10 b11,K (.slice (some ⟨b1, 0, none⟩) 10 10) [bx b1 233 [.nilFunc, .func (.func 289) #[] #[pt b2 0], .func (.func 289) #[] #[pt b4 0], .func (.func 289) #[] #[pt b5 0], .func (.func 289) #[] #[pt b6 0], .func (.func 289) #[] #[pt b7 0], .func (.func 289) #[] #[pt b8 0], .func (.func 289) #[] #[pt b10 0], .func (.func 270) #[] #[], .func (.func 271) #[] #[]], bx b2 233 [.func (.func 288) #[] #[pt b3 0]], bx b3 254 [.func (.func 262) #[] #[]], bx b4 233 [.func (.func 264) #[] #[]], bx b5 233 [.func (.func 265) #[] #[]], bx b6 233 [.func (.func 266) #[] #[]], bx b7 233 [.func (.func 267) #[] #[]], bx b8 233 [.func (.func 288) #[] #[pt b9 0]], bx b9 254 [.func (.func 268) #[] #[]], bx b10 233 [.func (.func 288) #[] #[pt b11 0]], bx b11 254 [.func (.func 269) #[] #[]]] [] :=
 qE call235 func235 u fun X=>zB<|zA 1 u<|zC<|zB<|qI zGu u d<|fun r1 _ k b1 b2=>k<|qI zIY u d<|fun r2 _ k b3=>k<|qI zGq u d<|fun r3 _ k b4=>k<|
  qI zHh u d<|fun r4 _ k b5=>k<|qI zGe u d<|fun r5 _ k b6=>k<|qI zIy rfl d<|fun r6 _ k b7 b8=>k<|qI zJI u d<|
  fun r7 _ k b9 b10=>k<|
  jbF .s 233 [.nilFunc, .func (.func 289) #[] #[pt b1 0], .func (.func 289) #[] #[pt b3 0], .func (.func 289) #[] #[pt b4 0], .func (.func 289) #[] #[pt b5 0], .func (.func 289) #[] #[pt b6 0], .func (.func 289) #[] #[pt b7 0], .func (.func 289) #[] #[pt b9 0], .func (.func 270) #[] #[], .func (.func 271) #[] #[]]<|
  fun b11=>zA 1 u<|zC<|zK<|zS u u (fun _ k=>k b11 b1 b2 b3 b4 b5 b6 b7 b8 b9 b10) [10,0,1,2,3,4,5,6,7,8,9] d
theorem zNA {qd : Prop} {y0 : wO} : qA qd prog 262 [.agg #[vi y0.1, sv p1 y0.2 c1]] [] [Rl wF p1 c1 y0.2, Pt (eArr 64 (eInt .u8)) 0 0 tab_math_bits_deBruijn64tab] (zHX y0) fun r K=>∀ p2 c2,K (.tuple #[sv p2 r.1 c2, vi r.2]) [] [Rl (eInt .i64) p2 c2 r.1] :=
 qE call262 func262 u fun X=>zB<|qT .s u<|fun b1=>zA 2 u<|zC<|zB<|qK 0 2 u u u<|qI zKf u ⟨ck 0,ck 1,d⟩<|fun r1 _ k p2 c2=>k<|zA 2 u<|zC<|zK<|wR u (lT u (lT u lN)) (fun _ k=>k p2 c2) [] ⟨gk 0,d⟩
theorem zGh {qd : Prop} {y0 : wO} : qA qd prog 288 [.agg #[vi y0.1, sv p1 y0.2 c1], pt b1 0] [bx b1 254 [.func (.func 262) #[] #[]]] [Rl wF p1 c1 y0.2, Pt (eArr 64 (eInt .u8)) 0 0 tab_math_bits_deBruijn64tab] (zA4 y0) fun r K=>∀ p2 c2,K (.tuple #[sv p2 r.1 c2, vi r.2]) [bx b1 254 [.func (.func 262) #[] #[]]] [Rl (eSlice (eInt .i64)) p2 c2 r.1] :=
 qE call288 func288 u fun X=>zB<|qT .s u<|fun b2=>zA 2 u<|zC<|zB<|zV 0 u u u<|qK 1 2 u u u<|qH .s [] [] zNA u u u ⟨ck 0,ck 1,d⟩<|fun r1 _ k p2 c2=>k<|zA 5 u<|zC<|zG<|zB<|zA 2 u<|zC<|zI u (zB<|zA 3 u<|zC<|
  zK<|qC<|wR u (lT u (lT u lN)) (fun _ k=>k none 0) [0] ⟨gn,d⟩)<|zL<|zD<|zB<|zA 1 u<|wV .s (e := eSlice (eInt .i64)) 31 [sv p2 r1.1 c2] ([r1.1] : List (List Int)) (rC (vL (gk 0)) rN)<|fun p3 c3=>zA 2 u<|zC<|zK<|
  wR u (lT u (lT u lN)) (fun _ k=>k p3 c3) [0] ⟨gk 0,d⟩
theorem zH8 {qd : Prop} {y0 : wO} : qA qd prog 289 [.agg #[vi y0.1, sv p1 y0.2 c1], pt b1 0] [bx b1 233 [.func (.func 288) #[] #[pt b2 0]], bx b2 254 [.func (.func 262) #[] #[]]] [Rl wF p1 c1 y0.2, Pt (eArr 64 (eInt .u8)) 0 0 tab_math_bits_deBruijn64tab] (zAj y0) fun r K=>∀ p2 c2,K (.tuple #[sv p2 r.1 c2, vi r.2]) [bx b1 233 [.func (.func 288) #[] #[pt b2 0]], bx b2 254 [.func (.func 262) #[] #[]]] [Rl (eSlice (eInt .i64)) p2 c2 r.1] :=
 qE call289 func289 u fun X=>zB<|qT .s u<|fun b3=>zA 2 u<|zC<|zB<|zV 0 u u u<|qK 2 2 u u u<|qH .s [1] [] zGh u u u ⟨ck 0,ck 1,d⟩<|fun r1 _ k p2 c2=>k<|zA 5 u<|zC<|zG<|zB<|zA 2 u<|zC<|zI u (
  zB<|zA 3 u<|zC<|zK<|qC<|wR u (lT u (lT u lN)) (fun _ k=>k none 0) [0,1] ⟨gn,d⟩)<|zL<|zD<|zB<|zA 1 u<|vD (eSlice (eInt .i64)) 31<|zC<|zG<|zB<|zA 3 u<|zC<|zQ<|
  qP (fun s1 K=>∀ p3 c3 r_1,K [(7, sv p3 s1.1 c3), (19, sv p2 r1.1 c2), (20, vi (len r1.1)), (21, vi s1.2)] [bx b1 233 [.func (.func 288) #[] #[pt b2 0]], bx b2 254 [.func (.func 262) #[] #[]], [], r_1] [Al (eSlice (eInt .i64)) 31 r_1 p3 c3 s1.1, Rl (eSlice (eInt .i64)) p2 c2 r1.1, Pt (eArr 64 (eInt .u8)) 0 0 tab_math_bits_deBruijn64tab]) (gv (fun _ k=>k none 0 []) [0,1,902,3] ⟨gk 0,gk 1,gk 3,d⟩)<|
  fun s1 _ k p3 c3 r_1=>k<|zB<|zA 1 u<|zC<|zG<|zI u (zL<|zD<|zG<|zQ<|zB<|qX 1 u u u<|fun x1 b4 o1=>qW false oL (gk 0) u<|fun p4 c4=>zA 1 u<|zC<|zM<|zA 2 u<|qI zG8 u ⟨ck 0,d⟩<|fun r2 _ k p5 c5=>
  k<|wV .s (e := eSlice (eInt .i64)) 31 [sv p5 r2 c5] ([r2] : List (List Int)) (rC (vL (gk 0)) rN)<|fun p6 c6=>wM .s 3 4 u (gk 0) u u<|fun x2 r_2 p7 c7=>zA 1 u<|zF<|qD<|zD<|zM<|zA 2 u<|zF<|
  qF (gv (fun _ k=>k p7 c7 r_2) [0,1,902,3] ⟨gk 0,gk 6,gk 7,d⟩))<|qM<|qL<|qO<|qN<|zD<|zB<|zA 3 u<|zC<|zK<|wS 3 0 u u<|wR u (lT u (lT u lN)) (fun _ k=>k p3 c3) [0,1] ⟨gk 0,d⟩
theorem zI5 {qd : Prop} {y0 : wO} : qA qd prog 288 [.agg #[vi y0.1, sv p1 y0.2 c1], pt b1 0] [bx b1 254 [.func (.func 268) #[] #[]]] [Rl wF p1 c1 y0.2] (zEd y0) fun r K=>∀ p2 c2,K (.tuple #[sv p2 r.1 c2, vi r.2]) [bx b1 254 [.func (.func 268) #[] #[]]] [Rl (eSlice (eInt .i64)) p2 c2 r.1] :=
 qE call288 func288 u fun X=>zB<|qT .s u<|fun b2=>zA 2 u<|zC<|zB<|zV 0 u u u<|qK 1 2 u u u<|jno
theorem zGo {qd : Prop} {y0 : wO} : qA qd prog 289 [.agg #[vi y0.1, sv p1 y0.2 c1], pt b1 0] [bx b1 233 [.func (.func 288) #[] #[pt b2 0]], bx b2 254 [.func (.func 268) #[] #[]]] [Rl wF p1 c1 y0.2] (zCf y0) fun r K=>∀ p2 c2,K (.tuple #[sv p2 r.1 c2, vi r.2]) [bx b1 233 [.func (.func 288) #[] #[pt b2 0]], bx b2 254 [.func (.func 268) #[] #[]]] [Rl (eSlice (eInt .i64)) p2 c2 r.1] :=
 qE call289 func289 u fun X=>zB<|qT .s u<|fun b3=>zA 2 u<|zC<|zB<|zV 0 u u u<|qK 2 2 u u u<|qH .s [1] [] zI5 u u u ⟨ck 0,d⟩<|fun r1 _ k p2 c2=>k<|zA 5 u<|zC<|zG<|zB<|zA 2 u<|zC<|zI u (zB<|
  zA 3 u<|zC<|zK<|qC<|wR u (lT u (lT u lN)) (fun _ k=>k none 0) [0,1] ⟨gn,d⟩)<|zL<|zD<|zB<|zA 1 u<|vD (eSlice (eInt .i64)) 31<|zC<|zG<|zB<|zA 3 u<|zC<|zQ<|
  qP (fun s1 K=>∀ p3 c3 r_1,K [(7, sv p3 s1.1 c3), (19, sv p2 r1.1 c2), (20, vi (len r1.1)), (21, vi s1.2)] [bx b1 233 [.func (.func 288) #[] #[pt b2 0]], bx b2 254 [.func (.func 268) #[] #[]], [], r_1] [Al (eSlice (eInt .i64)) 31 r_1 p3 c3 s1.1, Rl (eSlice (eInt .i64)) p2 c2 r1.1]) (gv (fun _ k=>k none 0 []) [0,1,902,3] ⟨gk 0,gk 1,d⟩)<|
  fun s1 _ k p3 c3 r_1=>k<|zB<|zA 1 u<|zC<|zG<|zI u (zL<|zD<|zG<|zQ<|zB<|qX 1 u u u<|fun x1 b4 o1=>qW false oL (gk 0) u<|fun p4 c4=>zA 1 u<|zC<|zM<|zA 2 u<|qI zG8 u ⟨ck 0,d⟩<|fun r2 _ k p5 c5=>
  k<|wV .s (e := eSlice (eInt .i64)) 31 [sv p5 r2 c5] ([r2] : List (List Int)) (rC (vL (gk 0)) rN)<|fun p6 c6=>wM .s 3 4 u (gk 0) u u<|fun x2 r_2 p7 c7=>zA 1 u<|zF<|qD<|zD<|zM<|zA 2 u<|zF<|
  qF (gv (fun _ k=>k p7 c7 r_2) [0,1,902,3] ⟨gk 0,gk 6,d⟩))<|qM<|qL<|qO<|qN<|zD<|zB<|zA 3 u<|zC<|zK<|wS 3 0 u u<|wR u (lT u (lT u lN)) (fun _ k=>k p3 c3) [0,1] ⟨gk 0,d⟩
theorem zI1 {qd : Prop} {y0 : wO} : qA qd prog 288 [.agg #[vi y0.1, sv p1 y0.2 c1], pt b1 0] [bx b1 254 [.func (.func 269) #[] #[]]] [Rl wF p1 c1 y0.2] (zEv y0) fun r K=>∀ p2 c2,K (.tuple #[sv p2 r.1 c2, vi r.2]) [bx b1 254 [.func (.func 269) #[] #[]]] [Rl (eSlice (eInt .i64)) p2 c2 r.1] :=
 qE call288 func288 u fun X=>zB<|qT .s u<|fun b2=>zA 2 u<|zC<|zB<|zV 0 u u u<|qK 1 2 u u u<|jno
theorem zGp {qd : Prop} {y0 : wO} : qA qd prog 289 [.agg #[vi y0.1, sv p1 y0.2 c1], pt b1 0] [bx b1 233 [.func (.func 288) #[] #[pt b2 0]], bx b2 254 [.func (.func 269) #[] #[]]] [Rl wF p1 c1 y0.2] (zCg y0) fun r K=>∀ p2 c2,K (.tuple #[sv p2 r.1 c2, vi r.2]) [bx b1 233 [.func (.func 288) #[] #[pt b2 0]], bx b2 254 [.func (.func 269) #[] #[]]] [Rl (eSlice (eInt .i64)) p2 c2 r.1] :=
 qE call289 func289 u fun X=>zB<|qT .s u<|fun b3=>zA 2 u<|zC<|zB<|zV 0 u u u<|qK 2 2 u u u<|qH .s [1] [] zI1 u u u ⟨ck 0,d⟩<|fun r1 _ k p2 c2=>k<|zA 5 u<|zC<|zG<|zB<|zA 2 u<|zC<|zI u (zB<|
  zA 3 u<|zC<|zK<|qC<|wR u (lT u (lT u lN)) (fun _ k=>k none 0) [0,1] ⟨gn,d⟩)<|zL<|zD<|zB<|zA 1 u<|vD (eSlice (eInt .i64)) 31<|zC<|zG<|zB<|zA 3 u<|zC<|zQ<|
  qP (fun s1 K=>∀ p3 c3 r_1,K [(7, sv p3 s1.1 c3), (19, sv p2 r1.1 c2), (20, vi (len r1.1)), (21, vi s1.2)] [bx b1 233 [.func (.func 288) #[] #[pt b2 0]], bx b2 254 [.func (.func 269) #[] #[]], [], r_1] [Al (eSlice (eInt .i64)) 31 r_1 p3 c3 s1.1, Rl (eSlice (eInt .i64)) p2 c2 r1.1]) (gv (fun _ k=>k none 0 []) [0,1,902,3] ⟨gk 0,gk 1,d⟩)<|
  fun s1 _ k p3 c3 r_1=>k<|zB<|zA 1 u<|zC<|zG<|zI u (zL<|zD<|zG<|zQ<|zB<|qX 1 u u u<|fun x1 b4 o1=>qW false oL (gk 0) u<|fun p4 c4=>zA 1 u<|zC<|zM<|zA 2 u<|qI zG8 u ⟨ck 0,d⟩<|fun r2 _ k p5 c5=>
  k<|wV .s (e := eSlice (eInt .i64)) 31 [sv p5 r2 c5] ([r2] : List (List Int)) (rC (vL (gk 0)) rN)<|fun p6 c6=>wM .s 3 4 u (gk 0) u u<|fun x2 r_2 p7 c7=>zA 1 u<|zF<|qD<|zD<|zM<|zA 2 u<|zF<|
  qF (gv (fun _ k=>k p7 c7 r_2) [0,1,902,3] ⟨gk 0,gk 6,d⟩))<|qM<|qL<|qO<|qN<|zD<|zB<|zA 3 u<|zC<|zK<|wS 3 0 u u<|wR u (lT u (lT u lN)) (fun _ k=>k p3 c3) [0,1] ⟨gk 0,d⟩
theorem zGQ {qd : Prop} {y0 : wO} : qA qd prog 289 [.agg #[vi y0.1, sv p1 y0.2 c1], pt b1 0] [bx b1 233 [.func (.func 265) #[] #[]]] [Rl wF p1 c1 y0.2] (zCH y0) fun r K=>∀ p2 c2,K (.tuple #[sv p2 r.1 c2, vi r.2]) [bx b1 233 [.func (.func 265) #[] #[]]] [Rl (eSlice (eInt .i64)) p2 c2 r.1] :=
 qE call289 func289 u fun X=>zB<|qT .s u<|fun b2=>zA 2 u<|zC<|zB<|zV 0 u u u<|qK 1 2 u u u<|jno
theorem zGL {qd : Prop} {y0 : wO} : qA qd prog 289 [.agg #[vi y0.1, sv p1 y0.2 c1], pt b1 0] [bx b1 233 [.func (.func 267) #[] #[]]] [Rl wF p1 c1 y0.2] (zBx y0) fun r K=>∀ p2 c2,K (.tuple #[sv p2 r.1 c2, vi r.2]) [bx b1 233 [.func (.func 267) #[] #[]]] [Rl (eSlice (eInt .i64)) p2 c2 r.1] :=
 qE call289 func289 u fun X=>zB<|qT .s u<|fun b2=>zA 2 u<|zC<|zB<|zV 0 u u u<|qK 1 2 u u u<|jno
theorem zGr {qd : Prop} {y0 : wO} : qA qd prog 289 [.agg #[vi y0.1, sv p1 y0.2 c1], pt b1 0] [bx b1 233 [.func (.func 266) #[] #[]]] [Rl wF p1 c1 y0.2] (zCs y0) fun r K=>∀ p2 c2,K (.tuple #[sv p2 r.1 c2, vi r.2]) [bx b1 233 [.func (.func 266) #[] #[]]] [Rl (eSlice (eInt .i64)) p2 c2 r.1] :=
 qE call289 func289 u fun X=>zB<|qT .s u<|fun b2=>zA 2 u<|zC<|zB<|zV 0 u u u<|qK 1 2 u u u<|jno
theorem zH7 {qd : Prop} {y0 : wO} : qA qd prog 289 [.agg #[vi y0.1, sv p1 y0.2 c1], pt b1 0] [bx b1 233 [.func (.func 264) #[] #[]]] [Rl wF p1 c1 y0.2] (zDP y0) fun r K=>∀ p2 c2,K (.tuple #[sv p2 r.1 c2, vi r.2]) [bx b1 233 [.func (.func 264) #[] #[]]] [Rl (eSlice (eInt .i64)) p2 c2 r.1] :=
 qE call289 func289 u fun X=>zB<|qT .s u<|fun b2=>zA 2 u<|zC<|zB<|zV 0 u u u<|qK 1 2 u u u<|jno
theorem zMU {qd : Prop} {y0 : wO} {y1 : Int} : qA qd prog 186 [.agg #[vi y0.1, sv p1 y0.2 c1], vi y1] [] [Rl wF p1 c1 y0.2, Pt (eArr 64 (eInt .u8)) 0 0 tab_math_bits_deBruijn64tab] (zBD y0 y1) fun r K=>∀ p2 c2,K (.tuple #[sv p2 r.1 c2, vi r.2]) [] [Rl (eSlice (eInt .i64)) p2 c2 r.1] :=
 qE call186 func186 u fun X=>zB<|qT .s u<|fun b1=>zA 2 u<|zC<|zG<|zB<|qK 0 2 u u u<|qI zG7 u ⟨ck 0,d⟩<|fun r1 _ k=>k<|zA 1 u<|zC<|zB<|zA 2 u<|zC<|zI u (zB<|zA 3 u<|zC<|zK<|qC<|
  wR u (lT u (lT u lN)) (fun _ k=>k none 0) [] ⟨gn,d⟩)<|zL<|zD<|zB<|qI zOG u d<|fun r2 _ k b2 b3 b4 b5 b6 b7 b8 b9 b10 b11 b12=>k<|zA 1 u<|zC<|zG<|
  yW (fun K=>K [(1, vi y1), (2, pt b1 0), (7, .slice (some ⟨b2, 0, none⟩) 10 10), (21, vb ((decide (y1 < 1)) || (decide (((10 : Nat) : Int) ≤ y1))))] [bx b1 50 [vi y0.1, sv p1 y0.2 c1], bx b2 233 [.nilFunc, .func (.func 289) #[] #[pt b3 0], .func (.func 289) #[] #[pt b5 0], .func (.func 289) #[] #[pt b6 0], .func (.func 289) #[] #[pt b7 0], .func (.func 289) #[] #[pt b8 0], .func (.func 289) #[] #[pt b9 0], .func (.func 289) #[] #[pt b11 0], .func (.func 270) #[] #[], .func (.func 271) #[] #[]], bx b3 233 [.func (.func 288) #[] #[pt b4 0]], bx b4 254 [.func (.func 262) #[] #[]], bx b5 233 [.func (.func 264) #[] #[]], bx b6 233 [.func (.func 265) #[] #[]], bx b7 233 [.func (.func 266) #[] #[]], bx b8 233 [.func (.func 267) #[] #[]], bx b9 233 [.func (.func 288) #[] #[pt b10 0]], bx b10 254 [.func (.func 268) #[] #[]], bx b11 233 [.func (.func 288) #[] #[pt b12 0]], bx b12 254 [.func (.func 269) #[] #[]]] [Rl wF p1 c1 y0.2, Pt (eArr 64 (eInt .u8)) 0 0 tab_math_bits_deBruijn64tab]) (
  zM<|zA 3 u<|vY (b := decide (y1 < 1)) 16 u (fun hb1=>zA 4 u<|zJ (vb true)<|zF<|wN 21 (vb ((decide (y1 < 1)) || (decide (((10 : Nat) : Int) ≤ y1)))) u (by rw [hb1]; rfl)<|
  zN (gv kk [0,1,2,3,4,5,6,7,8,9,10,11] ⟨gk 0,gk 1,d⟩))<|fun hb1=>zA 4 u<|zJ (vb (decide (((10 : Nat) : Int) ≤ y1)))<|zF<|wN 21 (vb ((decide (y1 < 1)) || (decide (((10 : Nat) : Int) ≤ y1)))) u (by rw [hb1]; rfl)<|
  zN (gv kk [0,1,2,3,4,5,6,7,8,9,10,11] ⟨gk 0,gk 1,d⟩))<|fun _ k=>k<|zI u (zB<|zA 2 u<|zC<|zK<|qC<|wR u (lT u (lT u lN)) (fun _ k=>k none 0) [] ⟨gn,d⟩)<|zL<|zD<|
  wA (fun s1 K=>∀ p2 c2,K [(4, sv p2 s1.1 c2), (5, vi s1.2)] [[], [], [], [], [], [], [], [], [], [], [], []] [Rl (eSlice (eInt .i64)) p2 c2 s1.1, Pt (eArr 64 (eInt .u8)) 0 0 tab_math_bits_deBruijn64tab]) (yN [] [0, 1] 10<|zX 8 [0,1] u<|
  zYJ (c := 1) (fun hb2=>wN 23 (vi 1) u (by rw [hb2])<|jdv (v := pt b2 1) 2 u (fun h=>zN2 h u u (by decide) (by kernel_rfl) u)<|qZ 3 1 u u u u<|vM 4 0 2 u u u u<|qG 5<|
  qH (.f u) [2, 3] [] zH8 u u u ⟨ck 0,ck 1,d⟩<|fun r3 _ k p3 c3=>k<|zZ<|zX 0 [6,7,8,9] u<|qS<|zN (gv (fun _ k=>k p3 c3) [900,901,902,903,904,905,906,907,908,909,910,911] ⟨gk 0,gk 2,d⟩))<|
  zYJ (c := 2) (fun hb3=>wN 23 (vi 2) u (by rw [hb3])<|jdv (v := pt b2 2) 2 u (fun h=>zN2 h u u (by decide) (by kernel_rfl) u)<|qZ 3 1 u u u u<|vM 4 0 2 u u u u<|qG 5<|
  qH (.f u) [4] [] zH7 u u u ⟨ck 0,d⟩<|fun r4 _ k p4 c4=>k<|zZ<|zX 0 [6,7,8,9] u<|qS<|zN (gv (fun _ k=>k p4 c4) [900,901,902,903,904,905,906,907,908,909,910,911] ⟨gk 0,gk 2,d⟩))<|
  zYJ (c := 3) (fun hb4=>wN 23 (vi 3) u (by rw [hb4])<|jdv (v := pt b2 3) 2 u (fun h=>zN2 h u u (by decide) (by kernel_rfl) u)<|qZ 3 1 u u u u<|vM 4 0 2 u u u u<|qG 5<|
  qH (.f u) [5] [] zGQ u u u ⟨ck 0,d⟩<|fun r5 _ k p5 c5=>k<|zZ<|zX 0 [6,7,8,9] u<|qS<|zN (gv (fun _ k=>k p5 c5) [900,901,902,903,904,905,906,907,908,909,910,911] ⟨gk 0,gk 2,d⟩))<|
  zYJ (c := 4) (fun hb5=>wN 23 (vi 4) u (by rw [hb5])<|jdv (v := pt b2 4) 2 u (fun h=>zN2 h u u (by decide) (by kernel_rfl) u)<|qZ 3 1 u u u u<|vM 4 0 2 u u u u<|qG 5<|
  qH (.f u) [6] [] zGr u u u ⟨ck 0,d⟩<|fun r6 _ k p6 c6=>k<|zZ<|zX 0 [6,7,8,9] u<|qS<|zN (gv (fun _ k=>k p6 c6) [900,901,902,903,904,905,906,907,908,909,910,911] ⟨gk 0,gk 2,d⟩))<|
  zYJ (c := 5) (fun hb6=>wN 23 (vi 5) u (by rw [hb6])<|jdv (v := pt b2 5) 2 u (fun h=>zN2 h u u (by decide) (by kernel_rfl) u)<|qZ 3 1 u u u u<|vM 4 0 2 u u u u<|qG 5<|
  qH (.f u) [7] [] zGL u u u ⟨ck 0,d⟩<|fun r7 _ k p7 c7=>k<|zZ<|zX 0 [6,7,8,9] u<|qS<|zN (gv (fun _ k=>k p7 c7) [900,901,902,903,904,905,906,907,908,909,910,911] ⟨gk 0,gk 2,d⟩))<|
  zYJ (c := 6) (fun hb7=>wN 23 (vi 6) u (by rw [hb7])<|jdv (v := pt b2 6) 2 u (fun h=>zN2 h u u (by decide) (by kernel_rfl) u)<|qZ 3 1 u u u u<|vM 4 0 2 u u u u<|qG 5<|
  qH (.f u) [8, 9] [] zGo u u u ⟨ck 0,d⟩<|fun r8 _ k p8 c8=>k<|zZ<|zX 0 [6,7,8,9] u<|qS<|zN (gv (fun _ k=>k p8 c8) [900,901,902,903,904,905,906,907,908,909,910,911] ⟨gk 0,gk 2,d⟩))<|
  zYJ (c := 7) (fun hb8=>wN 23 (vi 7) u (by rw [hb8])<|jdv (v := pt b2 7) 2 u (fun h=>zN2 h u u (by decide) (by kernel_rfl) u)<|qZ 3 1 u u u u<|vM 4 0 2 u u u u<|qG 5<|
  qH (.f u) [10, 11] [] zGp u u u ⟨ck 0,d⟩<|fun r9 _ k p9 c9=>k<|zZ<|zX 0 [6,7,8,9] u<|qS<|zN (gv (fun _ k=>k p9 c9) [900,901,902,903,904,905,906,907,908,909,910,911] ⟨gk 0,gk 2,d⟩))<|
  zYJ (c := 8) (fun hb9=>wN 23 (vi 8) u (by rw [hb9])<|jdv (v := pt b2 8) 2 u (fun h=>zN2 h u u (by decide) (by kernel_rfl) u)<|qZ 3 1 u u u u<|vM 4 0 2 u u u u<|jno)<|zYJ (c := 9) (fun hb10=>
  wN 23 (vi 9) u (by rw [hb10])<|jdv (v := pt b2 9) 2 u (fun h=>zN2 h u u (by decide) (by kernel_rfl) u)<|qZ 3 1 u u u u<|vM 4 0 2 u u u u<|jno)<|jno)<|fun s1 _ k p2 c2=>k<|zK<|
  wR u (lT u (lT u lN)) (fun _ k=>k p2 c2) [] ⟨gk 0,d⟩
theorem zLz {qd : Prop} {y0 : zBP} {y1 : Int} : qA qd prog 121 [.agg #[sv p1 y0.1.1 c1, sv p2 y0.1.2.1 c2, sv p3 y0.1.2.2 c3, sv p4 y0.2.1 c4, sv p5 y0.2.2.1 c5, vi y0.2.2.2.1, sv p6 y0.2.2.2.2 c6], vi y1] [] [Rl e_Premise p1 c1 y0.1.1, Rl e_Rule p2 c2 y0.1.2.1, Rl e_Promotion p3 c3 y0.1.2.2, Rl qR p4 c4 y0.2.1, Rl vW p5 c5 y0.2.2.1, Rl wF p6 c6 y0.2.2.2.2, Pt (eArr 64 (eInt .u8)) 0 0 tab_math_bits_deBruijn64tab] (zDW y0 y1) fun r K=>∀ p7 c7,K (.tuple #[sv p7 r.1 c7, vi r.2]) [] [Rl (eSlice e_Literal) p7 c7 r.1] :=
 qE call121 func121 u fun X=>zB<|qT .s u<|fun b1=>zA 2 u<|zC<|zB<|zU 5 u<|qK 0 2 u u u<|zA 1 u<|qI zMU u ⟨ck 5,ck 6,d⟩<|fun r1 _ k p7 c7=>k<|zA 5 u<|zC<|zG<|zB<|zA 2 u<|zC<|zI u (zB<|zA 3 u<|zC<|zK<|qC<|
  wR u (lT u (lT u lN)) (fun _ k=>k none 0) [] ⟨gn,d⟩)<|zL<|zD<|zB<|zA 1 u<|vD (eSlice e_Literal) 69<|zC<|zG<|zB<|zA 3 u<|zC<|zQ<|
  qP (fun s1 K=>∀ p8 c8 r_1,K [(2, pt b1 0), (8, sv p8 s1.1 c8), (21, sv p7 r1.1 c7), (22, vi (len r1.1)), (23, vi s1.2)] [bx b1 52 [sv p1 y0.1.1 c1, sv p2 y0.1.2.1 c2, sv p3 y0.1.2.2 c3, sv p4 y0.2.1 c4, sv p5 y0.2.2.1 c5, vi y0.2.2.2.1, sv p6 y0.2.2.2.2 c6], r_1] [Al (eSlice e_Literal) 69 r_1 p8 c8 s1.1, Rl (eSlice (eInt .i64)) p7 c7 r1.1, Rl e_Premise p1 c1 y0.1.1, Rl e_Rule p2 c2 y0.1.2.1, Rl e_Promotion p3 c3 y0.1.2.2, Rl qR p4 c4 y0.2.1, Rl vW p5 c5 y0.2.2.1, Rl wF p6 c6 y0.2.2.2.2, Pt (eArr 64 (eInt .u8)) 0 0 tab_math_bits_deBruijn64tab]) (gv (fun _ k=>k none 0 []) [0,1] ⟨gk 0,gk 1,gk 2,gk 3,gk 4,gk 5,gk 6,gk 7,gk 8,d⟩)<|
  fun s1 _ k p8 c8 r_1=>k<|zB<|zA 1 u<|zC<|zG<|zI u (zL<|zD<|zG<|zQ<|zB<|qX 1 u u u<|fun x1 b2 o1=>qW false oL (gk 0) u<|fun p9 c9=>zA 1 u<|zC<|zM<|zA 1 u<|zU 3 u<|zV 0 u u u<|zA 1 u<|
  qI zHd u ⟨ck 7,ck 0,d⟩<|fun r2 _ k p10 c10=>k<|wV .s (e := eSlice e_Literal) 69 [sv p10 r2 c10] ([r2] : List (List zO)) (rC (vL (gk 0)) rN)<|fun p11 c11=>wM .s 1 4 u (gk 0) u u<|fun x2 r_2 p12 c12=>
  zA 1 u<|zF<|qD<|zD<|zM<|zA 2 u<|zF<|qF (gv (fun _ k=>k p12 c12 r_2) [0,1] ⟨gk 0,gk 6,gk 7,gk 8,gk 9,gk 10,gk 11,gk 12,gk 13,d⟩))<|qM<|qL<|qO<|qN<|zD<|zB<|zA 3 u<|zC<|zK<|wS 1 0 u u<|
  wR u (lT u (lT u lN)) (fun _ k=>k p8 c8) [] ⟨gk 0,d⟩
theorem zK5 {qd : Prop} {y0 : Int} : qA qd prog 187 [.slice none 0 0, vi y0] [] [] (zCF y0) fun r K=>∀ p1 c1 r_1,K (sv p1 r c1) [r_1] [Al e_Literal 30 r_1 p1 c1 r] :=
 qE call187 func187 u fun X=>vD e_Literal 30<|zB<|zA 1 u<|zC<|wA (fun s1 K=>K [(0, sv none ([] : List zO) 0), (1, vi y0)] [[]] [Al e_Literal 30 [] none 0 ([] : List zO)]) (zB<|zA 2 u<|zC<|zI u (zM<|jno)<|zL<|
  zN (gv kk [0] ⟨gk 0,d⟩))<|fun s1 _ k=>k<|zG<|zB<|zA 2 u<|jv (v := vi ((0 : Nat) : Int)) (fun h=>r_cap h u underlying69)<|zA 5 u<|zC<|zB<|zA 2 u<|zC<|zI u (zM<|zA 2 u<|
  jv (v := vi ((0 : Nat) : Int)) (fun h=>r_cap h u underlying69)<|jv (v := .slice none 0 0) (fun h=>zYo (e := e_Literal) h u u (by kernel_rfl))<|zA 1 u<|
  jaz .s (e := e_Literal) (h2 := underlying3) 0 0 30 ((false, []) : zO) (.agg #[vb false, vs []]) u (vP vB vS) u u<|fun x1 r_1 p1 c1=>zA 2 u<|jsP 0 u u u<|fun x2=>zA 1 u<|zF<|zD<|zB<|zA 2 u<|zC<|zK<|
  zS u u (fun _ k=>k p1 c1 r_1) [0] ⟨gk 0,d⟩)<|zL<|zD<|zB<|zA 2 u<|zC<|zK<|zS u u (fun _ k=>k none 0 []) [0] ⟨gk 0,d⟩
theorem zKe {qd : Prop} {y0 : List (List zO)} : qA qd prog 122 [sv p1 y0 c1] [] [Rl (eSlice e_Literal) p1 c1 y0] (zCE y0) fun r K=>∀ p2 c2,K (sv p2 r c2) [] [Rl e_Literal p2 c2 r] :=
 qE call122 func122 u fun X=>zB<|zA 1 u<|zC<|zB<|zA 1 u<|zC<|wA (fun s1 K=>K [(0, sv p1 y0 c1), (3, vi s1)] [] [Rl (eSlice e_Literal) p1 c1 y0]) (zB<|zA 3 u<|zC<|zQ<|
  qP (fun s2 K=>K [(0, sv p1 y0 c1), (3, vi s2.1), (9, sv p1 y0 c1), (10, vi (len y0)), (11, vi s2.2)] [] [Rl (eSlice e_Literal) p1 c1 y0]) (gv kk [] ⟨gk 0,d⟩)<|fun s2 _ k=>k<|zB<|zA 1 u<|zC<|zG<|zI u (zL<|zD<|zG<|
  zQ<|zB<|qX 0 u u u<|fun x1 b1 o1=>qW false oL (gk 0) u<|fun p2 c2=>zA 1 u<|zC<|zB<|zA 5 u<|zC<|zB<|zA 2 u<|zC<|zI u (zM<|jno)<|zL<|qD<|zD<|zM<|zA 2 u<|zF<|qF (gv kk [] ⟨gk 2,d⟩))<|qM<|qL<|
  qO<|qN<|zN (gv kk [] ⟨gk 0,d⟩))<|fun s1 _ k=>k<|zB<|zA 1 u<|qI zK5 u d<|fun r1 _ k p3 c3 r_1=>k<|zA 1 u<|zC<|zG<|zB<|zA 3 u<|zC<|zQ<|
  qP (fun s3 K=>∀ p4 c4 r_2,K [(6, sv p4 s3.1 c4), (25, sv p1 y0 c1), (26, vi (len y0)), (27, vi s3.2)] [r_2] [Al e_Literal 30 r_2 p4 c4 s3.1, Rl (eSlice e_Literal) p1 c1 y0]) (gv (fun _ k=>k p3 c3 r_1) [0] ⟨gk 0,gk 1,d⟩)<|
  fun s3 _ k p4 c4 r_2=>k<|zB<|zA 1 u<|zC<|zG<|zI u (zL<|zD<|zG<|zQ<|zB<|qX 1 u u u<|fun x2 b2 o2=>qW false oL (gk 0) u<|fun p5 c5=>zA 1 u<|zC<|zM<|zA 2 u<|wM .s 0 2 u (gk 0) u u<|fun x3 r_3 p6 c6=>
  zA 1 u<|zF<|qD<|zD<|zM<|zA 2 u<|zF<|qF (gv (fun _ k=>k p6 c6 r_3) [0] ⟨gk 0,gk 4,d⟩))<|qM<|qL<|qO<|qN<|zD<|zB<|zA 2 u<|zC<|zK<|wS 0 0 u u<|zS u u (fun _ k=>k p4 c4) [] ⟨gk 0,d⟩
theorem zL5 {qd : Prop} {y0 : List zO} {y1 : zO} : qA qd prog 126 [sv p1 y0 c1, pt b1 0] [bx b1 30 [vb y1.1, vs y1.2]] [Rl e_Literal p1 c1 y0] (zDH y0 y1) fun r K=>K (vb r) [bx b1 30 [vb y1.1, vs y1.2]] [] :=
 qE call126 func126 u fun X=>zB<|zA 1 u<|zC<|zB<|zA 1 u<|qK 0 2 u u u<|qI zIg u ⟨ck 0,d⟩<|fun r1 _ k=>k<|zA 2 u<|zC<|zK<|zS u u kk [0] d
theorem zDK {qd : Prop} {y0 : List (List zO)} {y1 : zO} : qA qd prog 189 [sv p1 y0 c1, .func (.func 126) #[] #[pt b1 0]] [bx b1 30 [vb y1.1, vs y1.2]] [Rl (eSlice e_Literal) p1 c1 y0] (zAx y0 y1) fun r K=>K (vi r) [bx b1 30 [vb y1.1, vs y1.2]] [] :=
 qE call189 func189 u fun X=>zB<|zA 1 u<|zC<|zG<|zB<|zA 3 u<|zC<|zQ<|
  qP (fun s1 K=>K [(0, sv p1 y0 c1), (1, .func (.func 126) #[] #[pt b1 0]), (7, vi (len y0)), (8, vi s1)] [bx b1 30 [vb y1.1, vs y1.2]] [Rl (eSlice e_Literal) p1 c1 y0]) (gv kk [0] ⟨gk 0,d⟩)<|fun s1 _ k=>k<|zB<|zA 1 u<|zC<|
  zG<|zI u (zL<|zD<|zG<|zQ<|zB<|zA 2 u<|zC<|zB<|zA 3 u<|qX 0 u u u<|fun x1 b2 o1=>qW false oL (gk 0) u<|fun p2 c2=>qH .s [0] [] zL5 u u u ⟨ck 0,d⟩<|fun r1 _ k=>k<|zC<|zI u (zB<|
  zA 2 u<|zC<|zK<|qV<|qC<|wX<|qV<|qC<|zS u u kk [0] d)<|zL<|qD<|zD<|zM<|zA 2 u<|zF<|qF (gv kk [0] ⟨gk 2,d⟩))<|qM<|qL<|qO<|qN<|zD<|zB<|zA 1 u<|zC<|zK<|zS u u kk [0] d
theorem zCd {qd : Prop} {y0 : List (List zO)} {y1 : zO} : qA qd prog 125 [sv p1 y0 c1, .func (.func 126) #[] #[pt b1 0]] [bx b1 30 [vb y1.1, vs y1.2]] [Rl (eSlice e_Literal) p1 c1 y0] (zAP y0 y1) fun r K=>K (vb r) [bx b1 30 [vb y1.1, vs y1.2]] [] :=
 qE call125 func125 u fun X=>zB<|zA 1 u<|zC<|zB<|zA 2 u<|qH .s [0] [] zDK u u u ⟨ck 0,d⟩<|fun r1 _ k=>k<|zA 2 u<|zC<|zK<|zS u u kk [0] d
theorem zJJ {qd : Prop} {y0 : zO} {y1 : Bool} {y2 : List (List zO)} : qA qd prog 124 [.agg #[vb y0.1, vs y0.2], pt b1 0, pt b2 0] [bx b1 4 [vb y1], bx b2 155 [sv p1 y2 c1]] [Rl (eSlice e_Literal) p1 c1 y2] (zB6 y0 y1 y2) fun r K=>K (vb r) [bx b1 4 [vb y1], bx b2 155 [sv p1 y2 c1]] [] :=
 qE call124 func124 u fun X=>zB<|qT .s u<|fun b3=>zA 1 u<|zC<|wA (fun s1 K=>K [(4, vb s1)] [bx b1 4 [vb y1], bx b2 155 [sv p1 y2 c1], []] [Rl (eSlice e_Literal) p1 c1 y2]) (zM<|zV 0 u u u<|zA 1 u<|wH 6 u (zV 1 u u u<|zA 1 u<|
  qH .s [2] [] zCd u u u ⟨ck 0,d⟩<|fun r1 _ k=>k<|zJ (vb r1)<|zA 1 u<|zF<|zN (gv kk [0,1,902] ⟨gk 0,d⟩))<|zA 3 u<|zJ (vb false)<|zA 1 u<|zF<|
  zN (gv kk [0,1,902] ⟨gk 0,d⟩))<|fun s1 _ k=>k<|zK<|zS u u kk [0,1] d
theorem zDt {qd : Prop} {y0 : List zO} {y1 : Bool} {y2 : List (List zO)} : qA qd prog 188 [sv p1 y0 c1, .func (.func 124) #[] #[pt b1 0, pt b2 0]] [bx b1 4 [vb y1], bx b2 155 [sv p2 y2 c2]] [Rl e_Literal p1 c1 y0, Rl (eSlice e_Literal) p2 c2 y2] (zBE y0 y1 y2) fun r K=>K (vi r) [bx b1 4 [vb y1], bx b2 155 [sv p2 y2 c2]] [] :=
 qE call188 func188 u fun X=>zB<|zA 1 u<|zC<|zG<|zB<|zA 3 u<|zC<|zQ<|
  qP (fun s1 K=>K [(0, sv p1 y0 c1), (1, .func (.func 124) #[] #[pt b1 0, pt b2 0]), (7, vi (len y0)), (8, vi s1)] [bx b1 4 [vb y1], bx b2 155 [sv p2 y2 c2]] [Rl e_Literal p1 c1 y0, Rl (eSlice e_Literal) p2 c2 y2]) (gv kk [0,1] ⟨gk 0,gk 1,d⟩)<|
  fun s1 _ k=>k<|zB<|zA 1 u<|zC<|zG<|zI u (zL<|zD<|zG<|zQ<|zB<|zA 2 u<|zC<|zB<|zA 3 u<|qX 0 u u u<|fun x1 b3 o1=>qW true yM (gk 0) u<|qH .s [0, 1] [] zJJ u u u ⟨ck 2,d⟩<|
  fun r1 _ k=>k<|zC<|zI u (zB<|zA 2 u<|zC<|zK<|qV<|qC<|wX<|qV<|qC<|zS u u kk [0,1] d)<|zL<|qD<|zD<|zM<|zA 2 u<|zF<|qF (gv kk [0,1] ⟨gk 1,gk 2,d⟩))<|qM<|qL<|qO<|qN<|zD<|zB<|zA 1 u<|
  zC<|zK<|zS u u kk [0,1] d
theorem zDV {qd : Prop} {y0 : List zO} {y1 : Bool} {y2 : List (List zO)} : qA qd prog 123 [sv p1 y0 c1, .func (.func 124) #[] #[pt b1 0, pt b2 0]] [r_1, bx b1 4 [vb y1], bx b2 155 [sv p2 y2 c2]] [Al e_Literal 30 r_1 p1 c1 y0, Rl (eSlice e_Literal) p2 c2 y2] (zAW y0 y1 y2) fun r K=>∀ p3 c3,K (sv p3 r c3) [[], bx b1 4 [vb y1], bx b2 155 [sv p2 y2 c2]] [Rl e_Literal p3 c3 r] :=
 qE call123 func123 u fun X=>zB<|zA 1 u<|zC<|zB<|zA 2 u<|qH .s [1, 2] [0] zDt u u u ⟨cl 0 0,ck 1,d⟩<|fun r1 _ k=>k<|zA 1 u<|zC<|zG<|zB<|zA 2 u<|zC<|zI u (zB<|zA 2 u<|zC<|zK<|qC<|
  wS 0 0 u u<|zS u u (fun _ k=>k p1 c1) [900,1,2] ⟨gk 0,d⟩)<|zL<|zD<|
  wA (fun s1 K=>∀ r_2,K [(0, .slice p1 (List.length y0) c1), (5, vi s1.2)] [r_2, bx b1 4 [vb y1], bx b2 155 [sv p2 y2 c2]] [Ar e_Literal 30 r_2 p1 c1 (List.length y0) s1.1, Rl (eSlice e_Literal) p2 c2 y2]) (zB<|zA 3 u<|zC<|zQ<|
  qP (fun s2 K=>∀ r_3,K [(0, .slice p1 (List.length y0) c1), (1, .func (.func 124) #[] #[pt b1 0, pt b2 0]), (5, vi s2.2.1), (6, vi s2.2.2)] [r_3, bx b1 4 [vb y1], bx b2 155 [sv p2 y2 c2]] [Ar e_Literal 30 r_3 p1 c1 (List.length y0) s2.1, Rl (eSlice e_Literal) p2 c2 y2]) (gv (fun _ k=>k r_1) [0,1,2] ⟨gk 0,gk 1,d⟩)<|
  fun s2 _ k r_3=>k<|zG<|zB<|zA 4 u<|zC<|zI u (zL<|zD<|zG<|zQ<|zB<|zA 2 u<|yH 0 u u u<|fun x1 h1 b3 hp1=>uV 0 0 sI true yM u hp1 h1 u<|wL .s (.agg #[vb false, vs []])<|fun b4=>qU .s 3 u u u<|zC<|
  zB<|zA 1 u<|qK 3 2 u u u<|qH .s [1, 2] [] zJJ u u u ⟨ck 1,d⟩<|fun r2 _ k=>k<|zA 1 u<|zC<|zI u (zB<|zA 2 u<|qK 3 2 u u u<|yH 0 u u u<|fun x2 h2 b5 hp2=>
  uX .s 0 0 sI x1 true u hp2 h2 u u (vP vB vS)<|fun r_4=>zC<|zM<|zA 3 u<|zF<|qD<|zD<|zM<|zA 3 u<|zF<|qF (gv (fun _ k=>k r_4) [0,1,2] ⟨gk 0,gk 2,d⟩))<|zL<|qD<|zD<|zM<|zA 3 u<|zF<|
  qF (gv (fun _ k=>k r_3) [0,1,2] ⟨gk 0,gk 1,d⟩))<|qM<|qL<|qO<|qN<|zN (gv (fun _ k=>k r_3) [0,1,2] ⟨gk 0,gk 1,d⟩))<|fun s1 _ k r_2=>k<|zB<|zA 2 u<|jsV 0 u u u<|fun u1 p3 c3 f1=>
  jcv .s 0 0 (false, []) (.agg #[vb false, vs []]) u f1 u (vP vB vS)<|fun r_5=>zC<|zB<|zA 2 u<|jsP 0 u u u<|fun x3=>zA 1 u<|zC<|zK<|wS 0 0 u u<|zS u u (fun _ k=>k p1 c1) [900,1,2] ⟨gk 0,d⟩
theorem zNg {qd : Prop} {y0 : zBP} {y1 : Int} {y2 : Bool} : qA qd prog 70 [.agg #[sv p1 y0.1.1 c1, sv p2 y0.1.2.1 c2, sv p3 y0.1.2.2 c3, sv p4 y0.2.1 c4, sv p5 y0.2.2.1 c5, vi y0.2.2.2.1, sv p6 y0.2.2.2.2 c6], vi y1, vb y2] [] [Rl e_Premise p1 c1 y0.1.1, Rl e_Rule p2 c2 y0.1.2.1, Rl e_Promotion p3 c3 y0.1.2.2, Rl qR p4 c4 y0.2.1, Rl vW p5 c5 y0.2.2.1, Rl wF p6 c6 y0.2.2.2.2, Pt (eArr 64 (eInt .u8)) 0 0 tab_math_bits_deBruijn64tab] (zDw y0 y1 y2) fun r K=>∀ p7 c7,K (.tuple #[sv p7 r.1 c7, vi r.2]) [] [Rl e_Literal p7 c7 r.1] :=
 qE call70 func70 u fun X=>zB<|qT .s u<|fun b1=>qT .s u<|fun b2=>zA 2 u<|zC<|zB<|qK 0 7 u u u<|zA 1 u<|qI zLz u ⟨ck 0,ck 1,ck 2,ck 3,ck 4,ck 5,ck 6,d⟩<|fun r1 _ k p7 c7=>k<|zA 3 u<|wL .s (.slice none 0 0)<|fun b3=>
  qU .s 2 u u u<|zA 1 u<|zC<|zG<|zB<|zA 2 u<|zC<|zI u (zB<|zA 3 u<|zC<|zK<|qC<|wR u (lT u (lT u lN)) (fun _ k=>k none 0) [] ⟨gn,d⟩)<|zL<|zD<|zB<|zV 2 u u u<|
  qI zKe u ⟨ck 0,d⟩<|fun r2 _ k p8 c8=>k<|qI zKl u ⟨ck 0,d⟩<|fun r3 _ k p9 c9 r_1=>k<|zA 1 u<|zC<|zB<|zA 2 u<|
  qH .s [3, 1, 2] [] zDV u u u ⟨ck 0,ck 2,d⟩<|fun r4 _ k p10 c10=>k<|zA 2 u<|zC<|zK<|wR u (lT u (lT u lN)) (fun _ k=>k p10 c10) [] ⟨gk 0,d⟩
theorem zJ7 {qd : Prop} {y0 : zT} {y1 : wQ} {y2 : zO} {y3 : List Int} : qA qd prog 25 [.agg #[sv p1 y0.1 c1, sv p2 y0.2.1 c2, sv p3 y0.2.2 c3], .agg #[vi y1.1, vi y1.2], .agg #[vb y2.1, vs y2.2], sv p4 y3 c4] [] [Rl e_Premise p1 c1 y0.1, Rl e_Rule p2 c2 y0.2.1, Rl e_Promotion p3 c3 y0.2.2, Rl (eInt .i64) p4 c4 y3, Pt (eArr 64 (eInt .u8)) 0 0 tab_math_bits_deBruijn64tab] (zDE y0 y1 y2 y3) fun r K=>K (vb r) [] [] :=
 qE call25 func25 u fun X=>zB<|qT .s u<|fun b1=>qT .s u<|fun b2=>qT .s u<|fun b3=>zA 1 u<|zC<|zB<|qK 0 3 u u u<|wL .s (.agg #[.slice none 0 0, .slice none 0 0, .slice none 0 0])<|fun b4=>qU .s 3 u u u<|zC<|zB<|zU 0 u<|
  vD e_Premise 67<|qU .s 3 u u u<|zC<|
  wA (fun s1 K=>∀ p5 c5 r_1,K [(5, pt b2 0), (6, pt b3 0), (9, pt b4 0)] [[], bx b2 28 [vi y1.1, vi y1.2], bx b3 30 [vb y2.1, vs y2.2], bx b4 26 [sv p5 s1 c5, sv p2 y0.2.1 c2, sv p3 y0.2.2 c3], r_1] [Al e_Premise 67 r_1 p5 c5 s1, Rl e_Rule p2 c2 y0.2.1, Rl e_Promotion p3 c3 y0.2.2, Pt (eArr 64 (eInt .u8)) 0 0 tab_math_bits_deBruijn64tab]) (
  zB<|zU 0 u<|zV 0 u u u<|zA 2 u<|zC<|zQ<|
  qP (fun s2 K=>∀ p6 c6 r_2,K [(3, sv p4 y3 c4), (5, pt b2 0), (6, pt b3 0), (9, pt b4 0), (18, sv p1 y0.1 c1), (19, vi (len y0.1)), (20, vi s2.1)] [[], bx b2 28 [vi y1.1, vi y1.2], bx b3 30 [vb y2.1, vs y2.2], bx b4 26 [sv p6 s2.2 c6, sv p2 y0.2.1 c2, sv p3 y0.2.2 c3], r_2] [Al e_Premise 67 r_2 p6 c6 s2.2, Rl (eInt .i64) p4 c4 y3, Rl e_Premise p1 c1 y0.1, Rl e_Rule p2 c2 y0.2.1, Rl e_Promotion p3 c3 y0.2.2, Pt (eArr 64 (eInt .u8)) 0 0 tab_math_bits_deBruijn64tab]) (gv (fun _ k=>k none 0 []) [900,1,2,3,4] ⟨gk 0,gk 4,gk 1,gk 2,gk 3,gk 5,d⟩)<|
  fun s2 _ k p6 c6 r_2=>k<|zB<|zA 1 u<|zC<|zG<|zI u (zL<|zD<|zG<|zQ<|zB<|zA 1 u<|qX 2 u u u<|fun x1 b5 o1=>qW true zIV (gk 0) u<|wL .s (.agg #[vb false, vs [], vi 0, vi 0, vs []])<|fun b6=>zA 1 u<|
  qU .s 5 u u u<|zC<|zB<|zA 2 u<|qI zFg u ⟨ck 2,d⟩<|fun r1 _ k=>k<|zA 1 u<|zC<|zI u (zM<|zU 0 u<|zV 3 u u u<|qK 5 5 u u u<|
  wV .s (e := e_Premise) 67 [vb x1.1.1, vs x1.1.2, vi x1.2.1, vi x1.2.2.1, vs x1.2.2.2] ([x1] : List vE) (rC (vP (vP vB vS) (vP vI (vP vI vS))) rN)<|fun p7 c7=>wM .s 4 2 u (gk 0) u u<|fun x2 r_3 p8 c8=>zU 0 u<|
  qU .s 3 u u u<|zF<|qD<|zD<|zM<|zA 2 u<|zF<|qF (gv (fun _ k=>k p8 c8 r_3) [900,1,2,3,4] ⟨gk 0,gk 4,gk 5,gk 6,gk 7,gk 8,d⟩))<|zL<|qD<|zD<|zM<|zA 2 u<|zF<|
  qF (gv (fun _ k=>k p6 c6 r_2) [900,1,2,3,4] ⟨gk 1,gk 2,gk 3,gk 4,gk 5,gk 6,d⟩))<|qM<|qL<|qO<|qN<|zN (gv (fun _ k=>k p6 c6 r_2) [900,1,2,3,4] ⟨gk 0,gk 3,gk 4,gk 5,d⟩))<|fun s1 _ k p5 c5 r_1=>k<|zB<|qK 3 3 u u u<|
  qK 1 2 u u u<|wS 4 0 u u<|qI zKg u ⟨ck 0,ck 2,ck 3,ck 4,d⟩<|fun r2 _ k p9 c9 p10 c10 p11 c11 p12 c12 p13 c13 p14 c14=>k<|zA 3 u<|
  wL .s (.agg #[.slice none 0 0, .slice none 0 0, .slice none 0 0, .slice none 0 0, .slice none 0 0, vi 0, .slice none 0 0])<|fun b7=>qU .s 5 u u u<|zA 1 u<|zC<|zG<|zB<|zA 2 u<|zC<|zI u (zB<|zA 1 u<|zC<|zK<|qC<|
  zS u u kk [] d)<|zL<|zD<|zB<|qK 5 7 u u u<|qI zNg u ⟨ck 0,ck 1,ck 2,ck 3,ck 4,ck 5,ck 10,d⟩<|fun r3 _ k p15 c15=>k<|zA 5 u<|zC<|
  wA (fun s3 K=>K [(8, vb s3)] [[], [], [], [], [], []] [Pt (eArr 64 (eInt .u8)) 0 0 tab_math_bits_deBruijn64tab]) (zM<|zA 3 u<|wH 51 u (zA 1 u<|qK 2 2 u u u<|qI zIg u ⟨ck 0,d⟩<|fun r4 _ k=>k<|zJ (vb r4)<|
  zA 1 u<|zF<|zN (gv kk [900,901,902,903,904,905] ⟨gk 11,d⟩))<|zA 3 u<|zJ (vb false)<|zA 1 u<|zF<|zN (gv kk [900,901,902,903,904,905] ⟨gk 11,d⟩))<|fun s3 _ k=>k<|zK<|zS u u kk [] d
theorem zJ4 {qd : Prop} {y0 : List Int} {y1 : zT} {y2 : wQ} {y3 : zO} {y4 : Bool} : qA qd prog 27 [sv p1 y0 c1, pt b1 0, pt b2 0, pt b3 0, pt b4 0] [bx b1 26 [sv p2 y1.1 c2, sv p3 y1.2.1 c3, sv p4 y1.2.2 c4], bx b2 28 [vi y2.1, vi y2.2], bx b3 30 [vb y3.1, vs y3.2], bx b4 4 [vb y4]] [Rl (eInt .i64) p1 c1 y0, Rl e_Premise p2 c2 y1.1, Rl e_Rule p3 c3 y1.2.1, Rl e_Promotion p4 c4 y1.2.2, Pt (eArr 64 (eInt .u8)) 0 0 tab_math_bits_deBruijn64tab] (zCx y0 y1 y2 y3 y4) fun r K=>K (vb r) [bx b1 26 [sv p2 y1.1 c2, sv p3 y1.2.1 c3, sv p4 y1.2.2 c4], bx b2 28 [vi y2.1, vi y2.2], bx b3 30 [vb y3.1, vs y3.2], bx b4 4 [vb y4]] [] :=
 qE call27 func27 u fun X=>zB<|zA 1 u<|zC<|yK [] [0, 1, 2, 3] 8<|vM 0 0 3 u u u u<|vM 1 1 2 u u u u<|vM 2 2 2 u u u u<|zX 4 [3] u<|qZ 5 3 u u u u<|qG 4<|
  qH (.f u) [] [] zJ7 u u u ⟨ck 1,ck 2,ck 3,ck 0,ck 4,d⟩<|fun r1 _ k=>k<|zZ<|wC 6 (vb (!(r1 == y4))) u<|zX 0 [7] u<|qS<|zD<|zK<|zS u u kk [0,1,2,3] d
end Go.Proofs.YtkjadnjfmdgngaaGreatDoor
