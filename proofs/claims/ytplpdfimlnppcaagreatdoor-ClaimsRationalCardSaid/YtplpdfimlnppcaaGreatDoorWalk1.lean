/- A part. Conditions: none. -/
import Derived.Test.YtplpdfimlnppcaaGreatDoorProg
import Derived.Test.YtplpdfimlnppcaaGreatDoorOps5
import Derived.Test.YtplpdfimlnppcaaGreatDoorModels
import Derived.Test.YtplpdfimlnppcaaGreatDoorSort
import Derived.Test.YtplpdfimlnppcaaGreatDoorSort2
import Derived.Test.YtplpdfimlnppcaaGreatDoorShelfP
import Derived.Test.YtplpdfimlnppcaaGreatDoorArrl
import Derived.Test.YtplpdfimlnppcaaGreatDoorSb4
import Derived.Test.YtplpdfimlnppcaaGreatDoorFsl
import Derived.Test.YtplpdfimlnppcaaGreatDoorArrw
import Derived.Test.YtplpdfimlnppcaaGreatDoorItr
import Derived.Test.YtplpdfimlnppcaaGreatDoorGro
namespace Go.Proofs.YtplpdfimlnppcaaGreatDoor
open Go Go.GD Tryz
set_option autoImplicit false
set_option linter.unusedVariables false
set_option maxRecDepth 100000
variable {yl1 : Nat} {p1 p2 p3 p4 p5 p6 p7 p8 p9 p10 p11 p12 p13 p14 : Option Addr} {c1 c2 c3 c4 c5 c6 c7 c8 c9 c10 c11 c12 c13 c14 : Nat} {b1 b2 b3 b4 b5 b6 b7 b8 b9 b10 b11 : Nat} {r_1 r_2 r_3 r_4 r_5 r_6 : zW}
abbrev z1V : E uO := vR (qZ (zK .i64)) (zK .i64)
abbrev z6v : xX z1V := (oP oL oI)
abbrev zIC (y : uO) (p1 : Option Addr) (c1 : Nat) : List Value := [sv p1 y.1 c1, vi y.2]
abbrev zHz (y : uO) (p1 : Option Addr) (c1 : Nat) (t : List PP) : List PP := Rl (zK .i64) p1 c1 y.1 :: t
abbrev wO : E zG := vR zW2 vK
abbrev yI : xX wO := (oP oB oS)
abbrev xU : E vT := vR wO (vR (zK .i64) (vR (zK .i64) vK))
abbrev zNM : xX xU := (oP yI (oP oI (oP oI oS)))
abbrev yO : E qL := vR vK (vR zW2 (vR (zK .i64) (vR (qZ wO) wO)))
abbrev zM4 : xX yO := (oP oS (oP oB (oP oI (oP oL yI))))
abbrev zOv (y : qL) (p1 : Option Addr) (c1 : Nat) : List Value := [vs y.1, vb y.2.1, vi y.2.2.1, sv p1 y.2.2.2.1 c1, vb y.2.2.2.2.1, vs y.2.2.2.2.2]
abbrev zRz (y : qL) (p1 : Option Addr) (c1 : Nat) (t : List PP) : List PP := Rl wO p1 c1 y.2.2.2.1 :: t
abbrev xI : E vQ := vR vK (vR (zK .i64) wO)
abbrev zQw : xX xI := (oP oS (oP oI yI))
abbrev z1j : E zO := vR (qZ xU) (vR (qZ yO) (qZ xI))
abbrev z5f : xX z1j := (oP oL (oP oL oL))
abbrev vN (y : zO) (p1 : Option Addr) (c1 : Nat) (p2 : Option Addr) (c2 : Nat) (p3 : Option Addr) (c3 : Nat) : List Value := [sv p1 y.1 c1, sv p2 y.2.1 c2, sv p3 y.2.2 c3]
abbrev vV (y : zO) (p1 : Option Addr) (c1 : Nat) (p2 : Option Addr) (c2 : Nat) (p3 : Option Addr) (c3 : Nat) (t : List PP) : List PP := Rl xU p1 c1 y.1 :: Rl yO p2 c2 y.2.1 :: Rl xI p3 c3 y.2.2 :: t
abbrev vC : E zI := vR (zK .i64) (vR (zK .i64) (vR (qZ (zK .i64)) wO))
abbrev zVd : xX vC := (oP oI (oP oI (oP oL yI)))
abbrev z1O (y : zI) (p1 : Option Addr) (c1 : Nat) : List Value := [vi y.1, vi y.2.1, sv p1 y.2.2.1 c1, vb y.2.2.2.1, vs y.2.2.2.2]
abbrev z1P (y : zI) (p1 : Option Addr) (c1 : Nat) (t : List PP) : List PP := Rl (zK .i64) p1 c1 y.2.2.1 :: t
abbrev zTH : E zAX := vR (qZ vK) zW2
abbrev z14 : xX zTH := (oP oL oB)
abbrev zCr (y : zAX) (p1 : Option Addr) (c1 : Nat) : List Value := [sv p1 y.1 c1, vb y.2]
abbrev z13 (y : zAX) (p1 : Option Addr) (c1 : Nat) (t : List PP) : List PP := Rl vK p1 c1 y.1 :: t
abbrev zSD : E yN := vR (zK .i64) (zK .i64)
abbrev z1D : xX zSD := (oP oI oI)
abbrev zDU : E wV := vR (zK .i64) (vR (zK .i64) (vR (zK .i64) (zK .i64)))
abbrev zVt : xX zDU := (oP oI (oP oI (oP oI oI)))
abbrev vO : E wD := vR (zK .i64) (zK .i64)
abbrev zOR : xX vO := (oP oI oI)
abbrev z3Y : E wJ := vR (zK .i64) (qZ vO)
abbrev z6k : xX z3Y := (oP oI oL)
abbrev yY (y : wJ) (p1 : Option Addr) (c1 : Nat) : List Value := [vi y.1, sv p1 y.2 c1]
abbrev f_Graph (y : wJ) (p1 : Option Addr) (c1 : Nat) (t : List PP) : List PP := Rl vO p1 c1 y.2 :: t
abbrev z1N : E zBu := vR z1j (vR (qZ vC) (vR (qZ zDU) z3Y))
abbrev z6s : xX z1N := (oP z5f (oP oL (oP oL z6k)))
abbrev zKM (y : zBu) (p1 : Option Addr) (c1 : Nat) (p2 : Option Addr) (c2 : Nat) (p3 : Option Addr) (c3 : Nat) (p4 : Option Addr) (c4 : Nat) (p5 : Option Addr) (c5 : Nat) (p6 : Option Addr) (c6 : Nat) : List Value := [sv p1 y.1.1 c1, sv p2 y.1.2.1 c2, sv p3 y.1.2.2 c3, sv p4 y.2.1 c4, sv p5 y.2.2.1 c5, vi y.2.2.2.1, sv p6 y.2.2.2.2 c6]
abbrev zK0 (y : zBu) (p1 : Option Addr) (c1 : Nat) (p2 : Option Addr) (c2 : Nat) (p3 : Option Addr) (c3 : Nat) (p4 : Option Addr) (c4 : Nat) (p5 : Option Addr) (c5 : Nat) (p6 : Option Addr) (c6 : Nat) (t : List PP) : List PP := Rl xU p1 c1 y.1.1 :: Rl yO p2 c2 y.1.2.1 :: Rl xI p3 c3 y.1.2.2 :: Rl vC p4 c4 y.2.1 :: Rl zDU p5 c5 y.2.2.1 :: Rl vO p6 c6 y.2.2.2.2 :: t
abbrev zRc : E uU := vR z1j (vR (qZ vC) (vR (qZ vC) (zK .i64)))
abbrev z0V : xX zRc := (oP z5f (oP oL (oP oL oI)))
abbrev zHY (y : uU) (p1 : Option Addr) (c1 : Nat) (p2 : Option Addr) (c2 : Nat) (p3 : Option Addr) (c3 : Nat) (p4 : Option Addr) (c4 : Nat) (p5 : Option Addr) (c5 : Nat) : List Value := [sv p1 y.1.1 c1, sv p2 y.1.2.1 c2, sv p3 y.1.2.2 c3, sv p4 y.2.1 c4, sv p5 y.2.2.1 c5, vi y.2.2.2]
abbrev zHW (y : uU) (p1 : Option Addr) (c1 : Nat) (p2 : Option Addr) (c2 : Nat) (p3 : Option Addr) (c3 : Nat) (p4 : Option Addr) (c4 : Nat) (p5 : Option Addr) (c5 : Nat) (t : List PP) : List PP := Rl xU p1 c1 y.1.1 :: Rl yO p2 c2 y.1.2.1 :: Rl xI p3 c3 y.1.2.2 :: Rl vC p4 c4 y.2.1 :: Rl vC p5 c5 y.2.2.1 :: t
abbrev zU4 : E zQx := vR (zK .i64) (vR (zK .i64) (vR (zK .i64) wO))
abbrev z6T : xX zU4 := (oP oI (oP oI (oP oI yI)))
theorem zG7 {qd : Prop} {y0 : uU} : vU qd prog 50 [pt b1 0] [bx b1 117 (zHY y0 p1 c1 p2 c2 p3 c3 p4 c4 p5 c5)] (zHW y0 p1 c1 p2 c2 p3 c3 p4 c4 p5 c5 []) (zBp y0) fun L r K=>K (vb r) L [] :=
 zY call50 func50 u fun X=>jA 1 u<|yA [] [0] 13<|qA 11 [0,1] u<|qY 2 3 u u<|wI 3 0 u u u u<|qA 6 [4,5,6] u<|qY 7 4 u u<|wI 8 0 u u u u<|qA 0 [9,10,11,12] u<|wA<|zP<|zH<|zQ u u kk [0] d
theorem zKV {qd : Prop} {y0 : List zI} {y1 : Int} : qC qd prog 60 [sv p1 y0 c1, vi y1] [] [Rl vC p1 c1 y0] (zBY y0 y1) fun r K=>K (vb r) [] [] :=
 zY call60 func60 u fun X=>jA 1 u<|jjp (fun K=>K [(4, vb ((decide (0 ≤ y1)) && (decide (y1 < (len y0)))))] [] []) (qM<|zA 3 u<|uF (b := decide (0 ≤ y1)) 7 u (fun hb1=>zA 4 u<|zL (vb (decide (y1 < (len y0))))<|zA 1 u<|zV<|
  wX 4 (vb ((decide (0 ≤ y1)) && (decide (y1 < (len y0))))) u (by rw [hb1]; rfl)<|zM (gv kk [] d))<|fun hb1=>zA 4 u<|zL (vb false)<|zA 1 u<|zV<|
  wX 4 (vb ((decide (0 ≤ y1)) && (decide (y1 < (len y0))))) u (by rw [hb1]; rfl)<|zM (gv kk [] d))<|fun _ k=>k<|zH<|zQ u u kk [] d
theorem zFV {qd : Prop} {y0 : List Int} : qC qd prog 86 [sv p1 y0 c1] [r_1] [Al (zK .i64) 3 r_1 p1 c1 y0] (zBV y0) fun r K=>∀ p2 c2,K (sv p2 r c2) [[]] [Rl (zK .i64) p2 c2 r] :=
 zY call86 func86 u fun X=>jA 1 u<|zD<|jA 3 u<|zJ u (jA 2 u<|zH<|zZ<|wY 0 0 u u<|zQ u u (fun _ k=>k p1 c1) [900] (gq [0]))<|jC<|zD<|jA 1 u<|zR<|qR (fun s1 K=>K [0] [] [0] [(3, vi s1)] []) (gv kk [0] (gq [0]))<|fun s1 _ k=>k<|
  zD<|jA 4 u<|zJ u (jC<|zD<|zR<|yA [] [0] 10<|qA 8 [0,1] u<|jdI 2 0 u u u u<|fun x1 h1 b1 hp1=>jdL 3 0 0 sI false oI u u hp1 h1 u<|qA 3 [4,5,6] u<|jdI 7 0 u u u u<|fun x2 h2 b2 hp2=>
  jdL 8 0 0 sI false oI u u hp2 h2 u<|qA 0 [9] u<|wA<|zP<|zJ u (zC<|zA 2 u<|jsV 0 u u u<|fun u1 p2 c2 f1=>zA 1 u<|zB<|
  jjn (fun s2 K=>∀ r_2,K [(0, .slice p1 (List.length y0) c1), (3, vi s2.2)] [r_2] [Ar (zK .i64) 3 r_2 p1 c1 (List.length y0) s2.1]) (jA 1 u<|zR<|
  qR (fun s3 K=>∀ r_3,K [4] [(0, r_3)] [] [(0, .slice p1 (List.length y0) c1), (3, vi s3.2.1), (5, vi s3.2.2)] [Ar (zK .i64) 3 r_3 p1 c1 (List.length y0) s3.1]) (gv (fun _ k=>k r_1) [0] (gq [0]))<|fun s3 _ k r_3=>k<|zD<|jA 4 u<|
  zJ u (jC<|zD<|zR<|yA [] [0] 10<|qA 8 [0,1] u<|jdX 2 0 u u f1 u u<|fun x3 b3 hp3 h3=>jdL 3 0 0 sI false oI u u hp3 h3 u<|qA 3 [4,5,6] u<|jdX 7 0 u u f1 u u<|fun x4 b4 hp4 h4=>
  jdL 8 0 0 sI false oI u u hp4 h4 u<|qA 0 [9] u<|wA<|zP<|zJ u (zC<|zA 4 u<|jiV 0 u f1 u u<|fun x5 b5 hp5 h5=>jlA 0 0 sI false oI u hp5 h5 u<|tV 0 u u u<|fun x6 h6 b6 hp6=>
  jsA .s 0 0 sI x5 false u hp6 h6 u u vI<|fun r_4=>zB<|jB 3 u<|qF<|zP<|jB 3 u<|qG (gv (fun _ k=>k r_4) [0] (gq [0])))<|wF<|qF<|zP<|jB 3 u<|qG (gv (fun _ k=>k r_3) [0] (gq [0])))<|qO<|qN<|qQ<|qP<|
  zM (gv (fun _ k=>k r_3) [0] (gq [0])))<|fun s2 _ k r_2=>k<|zC<|zA 2 u<|jsV 0 u u u<|fun u2 p3 c3 f2=>jcv .s 0 0 0 (vi 0) u f2 u vI<|fun r_5=>zB<|zC<|zA 2 u<|jsP 0 u u u<|fun x7=>zA 1 u<|zB<|zH<|qK<|zZ<|wQ<|
  qK<|zZ<|wY 0 0 u u<|zQ u u (fun _ k=>k p1 c1) [900] (gq [0]))<|wF<|qF<|zP<|jB 3 u<|qG (gv kk [0] (gq [0])))<|qO<|qN<|qQ<|qP<|zP<|jA 2 u<|zH<|wY 0 0 u u<|zQ u u (fun _ k=>k p1 c1) [900] (gq [0])
theorem zF1 {qd : Prop} {y0 : List Int} : qC qd prog 85 [sv p1 y0 c1] [r_1] [Al (zK .i64) 3 r_1 p1 c1 y0] (zBQ y0) fun r K=>∀ r_2,K (.tuple #[]) [r_2] [Ar (zK .i64) 3 r_2 p1 c1 (List.length y0) r] := ⟨call85, fun A w0 r hm hO hF => by
 have h := z4N (qd := qd) Tryz.sorts85 (te := 3) hO hF.1.1 hm
 change Calls prog 85 _ _ _ at h
 refine h.mono fun e w' h => ?_
 cases e with
 | returned v => obtain ⟨r', rfl, h1, h2, h3, h4⟩ := h; exact fun G k => k r' ⟨rfl, h1, h2, ⟨h3, h4.symm⟩, trivial⟩
 | panicked ch => exact h
 | outgrown => exact h⟩
theorem zQb {qd : Prop} (k : Nat) :
    (∀ {y0 : List zI} {p1 : Option Addr} {c1 : Nat} {y1 : Int}, qC qd prog 84 [sv p1 y0 c1, vi y1] [] [Rl vC p1 c1 y0] (zDM k y0 y1) fun r K=>∀ p2 c2,K (sv p2 r c2) [] [Rl (zK .i64) p2 c2 r]) := by
  induction k with
  | zero => exact z42 call84
  | succ k ih =>
    have ih_argument_Subs := @ih
    exact @fun y0 p1 c1 y1=>zY (m1 := zFa (zDM k) y0 y1) call84 func84 u fun X=>jA 1 u<|zD<|zC<|zA 2 u<|qI zKV u (cq [0])<|fun r1 _ k=>k<|zA 1 u<|zB<|zJ u (jA 1 u<|zH<|zZ<|zQ u u (fun _ k=>k none 0) [] ⟨gn,d⟩)<|jC<|zC<|zA 1 u<|
  xN .s (e := zK .i64) 3 [vi y1] ([y1] : List Int) (rC vI rN)<|fun r_1 p2 c2=>zA 1 u<|zB<|jjn (fun s1 K=>∀ p3 c3 r_2,K [(5, sv p3 s1 c3)] [r_2] [Al (zK .i64) 3 r_2 p3 c3 s1]) (zC<|zA 2 u<|qX 1 u u u<|fun x1 b1 o1=>
  zN 2 u<|qW false oL (gf (gs (gs (gk 0)))) u<|fun p4 c4=>zA 2 u<|zB<|zR<|
  qR (fun s2 K=>∀ p5 c5 r_3,K [0,18,19] [(0, r_3)] [3,0] [(5, sv p5 s2.1 c5), (20, vi s2.2)] [Al (zK .i64) 3 r_3 p5 c5 s2.1]) (gv (fun _ k=>k p2 c2 r_1) [0] (gq [2,3,0]))<|fun s2 _ k p5 c5 r_3=>k<|jA 1 u<|zD<|zJ u (jC<|zD<|zR<|
  zC<|qX 2 u u u<|fun x2 b2 o2=>qW false oI (gk 0) u<|zA 1 u<|zB<|qM<|zA 3 u<|qI ih_argument_Subs u (cq [2])<|fun r2 _ k p6 c6=>k<|wM .s 0 2 u (gk 0) u u<|fun x3 r_4 p7 c7=>zA 1 u<|zV<|qF<|zP<|jB 2 u<|
  qG (gv (fun _ k=>k p7 c7 r_4) [0] (gq [0,4,5])))<|qO<|qN<|qQ<|qP<|zM (gv (fun _ k=>k p5 c5 r_3) [0] (gq [0])))<|fun s1 _ k p3 c3 r_2=>k<|zC<|zA 1 u<|zX .s [0] [] zF1 u u u (cq [0])<|fun r3 _ k r_5=>k<|zB<|
  zC<|zA 1 u<|jrE 0 32 u u<|zX .s [0] [] zFV u u u (cq [0])<|fun r4 _ k p8 c8=>k<|zA 1 u<|zB<|zH<|zQ u u (fun _ k=>k p8 c8) [] (gq [0])
theorem zJk {qd : Prop} {y0 : List zI} {y1 : Int} : qC qd prog 84 [sv p1 y0 c1, vi y1] [] [Rl vC p1 c1 y0] (zDN y0 y1) fun r K=>∀ p2 c2,K (sv p2 r c2) [] [Rl (zK .i64) p2 c2 r] := zRo fun k => (zQb k)
theorem zKo {qd : Prop} {y0 : zO} {y1 : List zI} {y2 : Int} : qC qd prog 193 [.agg (vN y0 p1 c1 p2 c2 p3 c3).toArray, sv p4 y1 c4, vi y2] [] (vV y0 p1 c1 p2 c2 p3 c3 [Rl vC p4 c4 y1]) (zCG y0 y1 y2) fun r K=>∀ p5 c5,K (sv p5 r c5) [] [Rl (zK .i64) p5 c5 r] :=
 zY call193 func193 u fun X=>zC<|qV .s u<|fun b1=>zA 1 u<|zB<|zC<|zA 1 u<|vJ (zK .i64) 3<|zB<|jjn (fun s1 K=>∀ p5 c5 r_1,K [(7, sv p5 s1 c5)] [[], r_1] [Al (zK .i64) 3 r_1 p5 c5 s1]) (zC<|zA 2 u<|qI zJk u (cq [4])<|
  fun r1 _ k p6 c6=>k<|zA 2 u<|zB<|zR<|qR (fun s2 K=>∀ p7 c7 r_2,K [1,3,13,14] [(1, r_2)] [5,0,2,3,4] [(7, sv p7 s2.1 c7), (15, vi s2.2)] [Al (zK .i64) 3 r_2 p7 c7 s2.1]) (gv (fun _ k=>k none 0 []) [0,1] (gq [1,5,0,2,3,4]))<|
  fun s2 _ k p7 c7 r_2=>k<|jA 1 u<|zD<|zJ u (jC<|zD<|zR<|zC<|qX 2 u u u<|fun x1 b2 o1=>qW false oI (gk 0) u<|zA 1 u<|zB<|zC<|zA 2 u<|qX 2 u u u<|fun x2 b3 o2=>zN 1 u<|qW false oI (gf (gs (gk 0))) u<|
  zA 1 u<|zB<|wK (fun s3 K=>K [1,3,7,10,13,14,15] [] [3,2,4,5,6,7] [(34, vb s3)] []) (qM<|zA 3 u<|wL 26 u (zN 1 u<|zT 0 u u u<|zA 1 u<|qX 6 u u u<|fun x3 b4 o3=>zN 1 u<|qW false oB (gf (gs (gk 0))) u<|
  zA 1 u<|zL (vb (!x3.2.1))<|zV<|zM (gv kk [0,1] (gq [4,3,5,6,7,8])))<|zA 7 u<|zL (vb false)<|zV<|zM (gv kk [0,1] (gq [3,2,4,5,6,7])))<|fun s3 _ k=>k<|zJ u (qM<|zA 2 u<|
  wT .s (e := zK .i64) 3 [vi x2.2.1] ([x2.2.1] : List Int) (rC vI rN)<|fun p8 c8=>wM .s 1 2 u (gk 0) u u<|fun x4 r_3 p9 c9=>zA 1 u<|zV<|qF<|zP<|jB 2 u<|qG (gv (fun _ k=>k p9 c9 r_3) [0,1] (gq [0,2,4,5,6,7])))<|wF<|qF<|
  zP<|jB 2 u<|qG (gv (fun _ k=>k p7 c7 r_2) [0,1] (gq [1,0,2,3,4,5])))<|qO<|qN<|qQ<|qP<|zM (gv (fun _ k=>k p7 c7 r_2) [900,1] (gq [0])))<|fun s1 _ k p5 c5 r_1=>k<|zC<|zA 1 u<|zX .s [1] [] zF1 u u u (cq [0])<|
  fun r2 _ k r_4=>k<|zB<|zC<|zA 1 u<|jrE 0 42 u u<|zX .s [1] [] zFV u u u (cq [0])<|fun r3 _ k p10 c10=>k<|zA 1 u<|zB<|zH<|zQ u u (fun _ k=>k p10 c10) [] (gq [0])
theorem zR8 {qd : Prop} (k : Nat) :
    (∀ {y0 : zO} {p1 : Option Addr} {c1 : Nat} {p2 : Option Addr} {c2 : Nat} {p3 : Option Addr} {c3 : Nat} {y1 : List zI} {p4 : Option Addr} {c4 : Nat} {y2 : Int}, qC qd prog 192 [.agg (vN y0 p1 c1 p2 c2 p3 c3).toArray, sv p4 y1 c4, vi y2] [] (vV y0 p1 c1 p2 c2 p3 c3 [Rl vC p4 c4 y1]) (zDC k y0 y1 y2) fun r K=>∀ p5 c5,K (sv p5 r c5) [] [Rl wO p5 c5 r]) := by
  induction k with
  | zero => exact z42 call192
  | succ k ih =>
    have ih_argument_run := @ih
    exact @fun y0 p1 c1 p2 c2 p3 c3 y1 p4 c4 y2=>zY (m1 := zHD (zDC k) y0 y1 y2) call192 func192 u fun X=>zC<|qV .s u<|fun b1=>zA 1 u<|zB<|zC<|zA 2 u<|qX 3 u u u<|fun x1 b2 o1=>zN 3 u<|qW true yI (gs (gs (gs (gk 0)))) u<|
  xN .s (e := wO) 66 [vb x1.2.2.2.1, vs x1.2.2.2.2] ([x1.2.2.2] : List zG) (rC (vP vB vS) rN)<|fun r_1 p5 c5=>zA 1 u<|zB<|zD<|zC<|zA 2 u<|qX 5 u u u<|fun x2 b3 o2=>zN 1 u<|qW false oI (gf (gs (gk 0))) u<|
  zA 1 u<|zB<|wK (fun s1 K=>K [1,2,3,7] [] [6,1,3,4,5] [(31, vb s1)] []) (qM<|zA 3 u<|wL 24 u (zN 1 u<|zT 0 u u u<|zA 1 u<|qX 4 u u u<|fun x3 b4 o3=>zN 1 u<|qW false oB (gf (gs (gk 0))) u<|
  zL (vb x3.2.1)<|zV<|zM (gv kk [0,1] (gq [7,2,4,5,6])))<|zA 6 u<|zL (vb false)<|zV<|zM (gv kk [0,1] (gq [6,1,3,4,5])))<|fun s1 _ k=>k<|zJ u (zC<|zA 2 u<|qX 0 u u u<|fun x4 b5 o4=>zN 2 u<|
  qW false oL (gf (gs (gs (gk 0)))) u<|fun p6 c6=>zA 2 u<|zB<|zR<|
  qR (fun s2 K=>∀ p7 c7 r_2,K [1,3,36,37] [(1, r_2)] [2,0,4,5,6] [(7, sv p7 s2.1 c7), (38, vi s2.2)] [Al wO 66 r_2 p7 c7 s2.1]) (gv (fun _ k=>k p5 c5 r_1) [0,1] (gq [3,2,0,4,5,6]))<|fun s2 _ k p7 c7 r_2=>k<|jA 1 u<|zD<|zJ u (
  jC<|zD<|zR<|zC<|qX 2 u u u<|fun x5 b6 o5=>qW false oI (gk 0) u<|zA 1 u<|zB<|qM<|zA 1 u<|qS 0 3 u u u<|zA 2 u<|qI ih_argument_run u (cq [4,5,6,2])<|fun r1 _ k p8 c8=>k<|wM .s 1 2 u (gk 0) u u<|
  fun x6 r_3 p9 c9=>zA 1 u<|zV<|qF<|zP<|jB 2 u<|qG (gv (fun _ k=>k p9 c9 r_3) [0,1] (gq [0,4,5,6,7,8])))<|qO<|qN<|qQ<|qP<|zP<|jA 2 u<|zH<|wY 1 0 u u<|zQ u u (fun _ k=>k p7 c7) [] (gq [0]))<|jC<|jA 2 u<|zH<|
  wY 1 1 u u<|zQ u u (fun _ k=>k p5 c5) [] (gq [0])
theorem zVM {qd : Prop} {y0 : zO} {y1 : List zI} {y2 : Int} : qC qd prog 192 [.agg (vN y0 p1 c1 p2 c2 p3 c3).toArray, sv p4 y1 c4, vi y2] [] (vV y0 p1 c1 p2 c2 p3 c3 [Rl vC p4 c4 y1]) (zFB y0 y1 y2) fun r K=>∀ p5 c5,K (sv p5 r c5) [] [Rl wO p5 c5 r] := zRo fun k => (zR8 k)
theorem zOc {qd : Prop} {y0 : List zG} {y1 : zG} : qC qd prog 217 [sv p1 y0 c1, .agg #[vb y1.1, vs y1.2]] [] [Rl wO p1 c1 y0] (zC0 y0 y1) fun r K=>K (vi r) [] [] :=
 zY call217 func217 u fun X=>zC<|qV .s u<|fun b1=>zA 1 u<|zB<|zD<|jA 3 u<|zR<|qR (fun s1 K=>K [0,3,7] [] [0] [(8, vi s1)] []) (gv kk [0] (gq [0]))<|fun s1 _ k=>k<|jA 1 u<|zD<|zJ u (jC<|zD<|zR<|jA 2 u<|yA [] [0] 6<|
  vM 0 0 2 u u u u<|qA 3 [1,2] u<|uJ 3 0 u u u u<|fun x1 b2 o1=>uI 4 true yI u (gk 0) u<|wU 5 (vb (y1 == x1)) u<|wA<|zP<|zJ u (jA 2 u<|zH<|qK<|zZ<|wQ<|qK<|zZ<|zQ u u kk [] d)<|
  wF<|qF<|zP<|jB 2 u<|qG (gv kk [0] (gq [1])))<|qO<|qN<|qQ<|qP<|zP<|jA 1 u<|zH<|zQ u u kk [] d
theorem zMp {qd : Prop} {y0 : List zG} {y1 : zG} : qC qd prog 145 [sv p1 y0 c1, .agg #[vb y1.1, vs y1.2]] [] [Rl wO p1 c1 y0] (zC5 y0 y1) fun r K=>K (vb r) [] [] :=
 zY call145 func145 u fun X=>zC<|qV .s u<|fun b1=>zA 1 u<|zB<|zC<|zA 1 u<|qS 0 2 u u u<|qI zOc u (cq [0])<|fun r1 _ k=>k<|zA 2 u<|zB<|zH<|zQ u u kk [] d
theorem zL5 {qd : Prop} {y0 : List zG} {y1 : zG} : qC qd prog 67 [sv p1 y0 c1, .agg #[vb y1.1, vs y1.2]] [] [Rl wO p1 c1 y0] (zDr y0 y1) fun r K=>K (vb r) [] [] :=
 zY call67 func67 u fun X=>zC<|qV .s u<|fun b1=>zA 1 u<|zB<|zC<|zA 1 u<|qS 0 2 u u u<|qI zMp u (cq [0])<|fun r1 _ k=>k<|zA 1 u<|zB<|zH<|zQ u u kk [] d
theorem zRm {qd : Prop} {y0 : List Int} {y1 : Int} : qC qd prog 166 [sv p1 y0 c1, vi y1] [] [Rl (zK .i64) p1 c1 y0] (zEr y0 y1) fun r K=>K (vi r) [] [] :=
 zY call166 func166 u fun X=>jA 1 u<|zD<|jA 3 u<|zR<|qR (fun s1 K=>K [0,1,7] [] [0] [(8, vi s1)] []) (gv kk [] (gq [0]))<|fun s1 _ k=>k<|jA 1 u<|zD<|zJ u (jC<|zD<|zR<|jA 2 u<|zC<|zA 3 u<|qX 0 u u u<|fun x1 b1 o1=>
  qW false oI (gk 0) u<|zA 1 u<|zB<|zJ u (jA 2 u<|zH<|qK<|zZ<|wQ<|qK<|zZ<|zQ u u kk [] d)<|wF<|qF<|zP<|jB 2 u<|qG (gv kk [] (gq [1])))<|qO<|qN<|qQ<|qP<|zP<|jA 1 u<|zH<|
  zQ u u kk [] d
theorem zCg {qd : Prop} {y0 : List Int} {y1 : Int} : qC qd prog 87 [sv p1 y0 c1, vi y1] [] [Rl (zK .i64) p1 c1 y0] (zAx y0 y1) fun r K=>K (vb r) [] [] :=
 zY call87 func87 u fun X=>jA 1 u<|zC<|zA 2 u<|qI zRm u (cq [0])<|fun r1 _ k=>k<|zA 2 u<|zB<|zH<|zQ u u kk [] d
theorem zSW {qd : Prop} {y0 : zO} {y1 : List zI} {y2 : Int} {y3 : List Int} : qC qd prog 123 [.agg (vN y0 p1 c1 p2 c2 p3 c3).toArray, sv p4 y1 c4, vi y2, sv p5 y3 c5] [] (vV y0 p1 c1 p2 c2 p3 c3 [Rl vC p4 c4 y1, Rl (zK .i64) p5 c5 y3]) (zCz y0 y1 y2 y3) fun r K=>K (vb r) [] [] :=
 zY call123 func123 u fun X=>zC<|qV .s u<|fun b1=>zA 1 u<|zB<|zD<|jA 3 u<|zR<|qR (fun s1 K=>K [1,2,4,11,12] [] [3,4,0,1,2] [(13, vi s1)] []) (gv kk [0] (gq [3,4,0,1,2]))<|fun s1 _ k=>k<|jA 1 u<|zD<|zJ u (jC<|zD<|zR<|zC<|
  qX 1 u u u<|fun x1 b2 o1=>qW false oI (gk 0) u<|zA 1 u<|zB<|zC<|zN 1 u<|zT 0 u u u<|zA 1 u<|qX 4 u u u<|fun x2 b3 o2=>zN 1 u<|qW false oB (gf (gs (gk 0))) u<|zB<|zJ u (yA [] [0] 11<|
  vM 0 0 3 u u u u<|qA 8 [1,2] u<|qY 4 1 u u<|wI 5 0 u u u u<|qA 5 [6] u<|uJ 7 5 u u u u<|fun x3 b4 o3=>qY 8 4 u u<|uI 9 true yI u (gs (gs (gs (gs (gk 0))))) u<|qH 3<|
  zX (.f u) [] [] zVM u u u (cq [5,6,7,3])<|fun r1 _ k p6 c6=>k<|qB<|qH 10<|zX (.f u) [] [] zL5 u u u (cq [0])<|fun r2 _ k=>k<|qB<|wA<|zP<|zJ u (jA 1 u<|zH<|qK<|zZ<|wQ<|qK<|zZ<|
  zQ u u kk [] d)<|wF<|qF<|zP<|jB 2 u<|qG (gv kk [0] (gq [4,5,6,7,8])))<|zC<|qS 0 3 u u u<|zA 2 u<|qI zKo u (cq [4,5,6,2])<|fun r3 _ k p7 c7=>k<|zA 1 u<|
  qI zCg u (cq [0])<|fun r4 _ k=>k<|zB<|zJ u (jA 1 u<|zH<|qK<|zZ<|wQ<|qK<|zZ<|zQ u u kk [] d)<|wF<|qF<|zP<|jB 2 u<|qG (gv kk [0] (gq [3,4,5,6,7])))<|qO<|qN<|qQ<|qP<|zP<|
  jA 1 u<|zH<|zQ u u kk [] d
theorem zM0 {qd : Prop} {y0 : List Int} : qC qd prog 120 [sv p1 y0 c1] [] [Rl (zK .i64) p1 c1 y0] (zEh y0) fun r K=>∀ p2 c2 r_1,K (sv p2 r c2) [r_1] [Al (zK .i64) 3 r_1 p2 c2 r] :=
 zY call120 func120 u fun X=>jA 1 u<|zD<|zC<|zA 1 u<|jv (fun h=>z3A h u underlying22)<|zB<|jnl (m1 := some ([] : List Int)) u (gk 0) (fun h=>by first|(rw [h];done)|(rw [h];rfl)|(simp [h,wE];done)) (jA 1 u<|zH<|zZ<|vJ (zK .i64) 3<|
  jrE 0 2 u u<|zQ u u (fun _ k=>k none 0 []) [0] (gq [0]))<|jC<|zC<|xN .s (e := zK .i64) 3 [] ([] : List Int) rN<|fun r_1 p2 c2=>zA 1 u<|wM .s 0 0 u (gk 1) u u<|fun x1 r_2 p3 c3=>zA 1 u<|zB<|zH<|
  zQ u u (fun _ k=>k p3 c3 r_2) [0] (gq [0])
theorem zMR {qd : Prop} {y0 : Int} {y2 : uU} : vU qd prog 122 [vi y0, pt b1 0] [bx b1 115 [pt b2 0], bx b2 117 (zHY y2 p1 c1 p2 c2 p3 c3 p4 c4 p5 c5)] (zHW y2 p1 c1 p2 c2 p3 c3 p4 c4 p5 c5 []) (zE0 y0 y2) fun L r K=>K (vb r) L [] :=
 zY call122 func122 u fun X=>jA 1 u<|zC<|zA 1 u<|zT 0 u u u<|zA 1 u<|zN 5 u<|zT 1 u u u<|zA 2 u<|zB<|zH<|zQ u u kk [0,1] d
theorem zEo {qd : Prop} {y0 : List Int} {y2 : uU} : vU qd prog 191 [sv p1 y0 c1, .func (.func 122) #[] #[pt b1 0]] [bx b1 115 [pt b2 0], bx b2 117 (zHY y2 p2 c2 p3 c3 p4 c4 p5 c5 p6 c6)] (Rl (zK .i64) p1 c1 y0 :: (zHW y2 p2 c2 p3 c3 p4 c4 p5 c5 p6 c6 [])) (zAT y0 y2) fun L r K=>K (vi r) L [] :=
 zY call191 func191 u fun X=>jA 1 u<|zD<|jA 3 u<|zR<|qR (fun s1 K=>K [0,1,7] [] [0,1,2,3,4,5] [(8, vi s1)] []) (gv kk [0,1] (gq [0,1,2,3,4,5]))<|fun s1 _ k=>k<|jA 1 u<|zD<|zJ u (jC<|zD<|zR<|jA 2 u<|zC<|zA 3 u<|qX 0 u u u<|
  fun x1 b3 o1=>qW false oI (gk 0) u<|zX .s [0, 1] [] zMR u u u (cq [2,3,4,5,6])<|fun r1 _ k=>k<|zB<|zJ u (jA 2 u<|zH<|qK<|zZ<|wQ<|qK<|zZ<|zQ u u kk [0,1] d)<|wF<|qF<|zP<|
  jB 2 u<|qG (gv kk [0,1] (gq [1,2,3,4,5,6])))<|qO<|qN<|qQ<|qP<|zP<|jA 1 u<|zH<|zQ u u kk [0,1] d
theorem zEB {qd : Prop} {y0 : List Int} {y2 : uU} : vU qd prog 121 [sv p1 y0 c1, .func (.func 122) #[] #[pt b1 0]] [bx b1 115 [pt b2 0], bx b2 117 (zHY y2 p2 c2 p3 c3 p4 c4 p5 c5 p6 c6)] (Rl (zK .i64) p1 c1 y0 :: (zHW y2 p2 c2 p3 c3 p4 c4 p5 c5 p6 c6 [])) (zAA y0 y2) fun L r K=>K (vb r) L [] :=
 zY call121 func121 u fun X=>jA 1 u<|zC<|zA 2 u<|zX .s [0, 1] [] zEo u u u (cq [0,1,2,3,4,5])<|fun r1 _ k=>k<|zA 2 u<|zB<|zH<|zQ u u kk [0,1] d
theorem zKs {qd : Prop} (k : Nat) :
    (∀ {y0 : uU} {b1 : Nat} {p1 : Option Addr} {c1 : Nat} {p2 : Option Addr} {c2 : Nat} {p3 : Option Addr} {c3 : Nat} {p4 : Option Addr} {c4 : Nat} {r_1 : zW} {p5 : Option Addr} {c5 : Nat} {r_2 : zW} {y1 : Int} {y2 : List Int} {p6 : Option Addr} {c6 : Nat}, qC qd prog 49 [pt b1 0, vi y1, sv p6 y2 c6] [bx b1 117 [sv p1 y0.1.1 c1, sv p2 y0.1.2.1 c2, sv p3 y0.1.2.2 c3, sv p4 y0.2.1 c4, sv p5 y0.2.2.1 c5, vi y0.2.2.2], r_1, r_2] (vV y0.1 p1 c1 p2 c2 p3 c3 [Al vC 104 r_1 p4 c4 y0.2.1, Al vC 104 r_2 p5 c5 y0.2.2.1, Rl (zK .i64) p6 c6 y2]) (zBI k y0 y1 y2) fun r K=>∀ p7 c7 r_3,K (.tuple #[]) [bx b1 117 [sv p1 y0.1.1 c1, sv p2 y0.1.2.1 c2, sv p3 y0.1.2.2 c3, sv p4 y0.2.1 c4, sv p7 r c7, vi y0.2.2.2], r_1, r_3] [Al vC 104 r_3 p7 c7 r]) := by
  induction k with
  | zero => exact z42 call49
  | succ k ih =>
    have ih_argument_builder_apply_2 := @ih
    exact @fun y0 b1 p1 c1 p2 c2 p3 c3 p4 c4 r_1 p5 c5 r_2 y1 y2 p6 c6=>zY (m1 := zBj (zBI k) y0 y1 y2) call49 func49 u fun X=>zC<|qV .s u<|fun b2=>zB<|zC<|zT 3 u u u<|zA 1 u<|zN 0 u<|zN 1 u<|zT 0 u u u<|zA 1 u<|qX 1 u u u<|fun x1 b3 o1=>zN 3 u<|qW false oL (gf (gs (gs (gs (gk 0))))) u<|fun p7 c7=>zA 1 u<|zB<|zD<|
  zC<|zT 3 u u u<|zX .s [0] [1, 2] zG7 u u u ⟨ck 2,ck 3,ck 4,cl 1 5,cl 2 6,d⟩<|fun r1 _ k=>k<|zB<|zJ u (zH<|zZ<|wG u lN (fun _ k=>k p5 c5 r_2) [0,1,2] (gq [6]))<|jC<|
  zYy (fun s1 K=>K [1,2,3] [] [7,2,3,4,5,6] [] []) (jA 5 u<|zJ u (zD<|zC<|zT 3 u u u<|zA 1 u<|zN 3 u<|zT 0 u u u<|zA 2 u<|zB<|zR<|
  qR (fun s2 K=>∀ p8 c8 r_3,K [1,2,3,6,28,29] [(0, bx b1 117 [sv p1 y0.1.1 c1, sv p2 y0.1.2.1 c2, sv p3 y0.1.2.2 c3, sv p4 y0.2.1 c4, sv p8 s2.2 c8, vi y0.2.2.2]), (2, r_3)] [7,0,5,2,3,4] [(30, vi s2.1)] [Al vC 104 r_3 p8 c8 s2.2]) (gv (fun _ k=>k p5 c5 r_2) [0,1,2,3] (gq [6,7,0,5,2,3,4]))<|
  fun s2 _ k p8 c8 r_3=>k<|jA 1 u<|zD<|zJ u (jC<|zD<|zR<|zC<|zA 1 u<|tV 3 u u u<|fun x2 h1 b4 hp1=>jlA 1 3 sI true zVd u hp1 h1 u<|fun p9 c9=>wN .s (.agg #[vi 0, vi 0, .slice none 0 0, vb false, vs []])<|
  fun b5=>zA 1 u<|qJ .s 4 u u u<|zB<|yA [] [4] 8<|qY 0 3 u u<|vM 1 4 2 u u u u<|qA 3 [2,3,4] u<|uJ 5 3 u u u u<|fun x3 b6 o2=>uI 6 true yI u (gk 0) u<|wU 7 (vb (x2.2.2.2 == x3)) u<|wA<|
  zP<|zJ u (
  jjcK (fun s3 K=>∀ p10 c10 r_4,K [1,2,3,6,28,29,30] [(0, bx b1 117 [sv p1 y0.1.1 c1, sv p2 y0.1.2.1 c2, sv p3 y0.1.2.2 c3, sv p4 y0.2.1 c4, sv p10 s3 c10, vi y0.2.2.2]), (2, r_4), (4, [])] [3,4,5,6,7,8] [] [Al vC 104 r_4 p10 c10 s3]) (
  xB [] [3] 8<|wI 0 3 u u u u<|qA 4 [1,2,4] u<|jd2 3 5 (zX (.f u) [] [] zM0 u u u (cq [3])<|fun r2 _ k p11 c11 r_5=>k<|qB<|qH 5<|wT (.f u) (e := zK .i64) 3 [vi s2.1] ([s2.1] : List Int) (rC vI rN)<|
  fun p12 c12=>qB<|qH 6<|wM (.f u) 5 1 u (gk 0) u u<|fun x4 r_6 p13 c13=>qB<|wY 5 0 u u<|qH 7<|zX (.f u) [0, 1, 2] [] ih_argument_builder_apply_2 u u u (cq [10,11,12,9,6,0])<|fun r3 _ k p14 c14 r_7=>k<|qB<|wA<|
  zM (gv (fun _ k=>k p14 c14 r_7) [0,1,2,3,904] (gq [0,8,9,10,11,12,13]))) <|wT (.f u) (e := zK .i64) 3 [vi s2.1] ([s2.1] : List Int) (rC vI rN)<|fun p15 c15=>qB<|qH 3<|zX (.f u) [] [] zM0 u u u (cq [4])<|
  fun r4 _ k p16 c16 r_8=>k<|qB<|qH 6<|wM (.f u) 5 0 u (gk 1) u u<|fun x5 r_9 p17 c17=>qB<|wY 5 0 u u<|qH 7<|zX (.f u) [0, 1, 2] [] ih_argument_builder_apply_2 u u u (cq [10,11,12,9,6,0])<|fun r5 _ k p18 c18 r_10=>
  k<|qB<|wA<|zM (gv (fun _ k=>k p18 c18 r_10) [0,1,2,3,904] (gq [0,8,9,10,11,12,13])))<|fun s3 _ k p10 c10 r_4=>k<|qF<|zP<|jB 2 u<|qG (gv (fun _ k=>k p10 c10 r_4) [0,1,2,3] (gq [0,1,2,3,4,5,6])))<|wF<|qF<|zP<|jB 2 u<|
  qG (gv (fun _ k=>k p8 c8 r_3) [0,1,2,3] (gq [2,3,4,5,6,7,8])))<|qO<|qN<|qQ<|qP<|zP<|zH<|wQ<|wG u lN (fun _ k=>k p8 c8 r_3) [0,1,2] (gq [0]))<|wF<|qG (gv kk [0,1,2,3] (gq [7,2,3,4,5,6])))<|fun s1 _ k=>k<|
  wK (fun s4 K=>K [1,2,3] [] [0,1,2,3,4,5] [(67, vb s4)] []) (xB [] [0, 3] 16<|qA 14 [0,1] u<|qH 2<|zX (.f u) [3, 0] [1, 2] zEB u u u ⟨ck 0,ck 1,ck 2,ck 3,cl 1 4,cl 2 5,d⟩<|
  fun r6 _ k=>k<|qB<|qA 12 [3] u<|wL 55 u (wI 4 3 u u u u<|qA 10 [5] u<|qY 6 0 u u<|vM 7 0 3 u u u u<|wI 8 3 u u u u<|qA 6 [9] u<|qY 10 3 u u<|wI 11 0 u u u u<|qA 2 [12,13] u<|
  qH 14<|zX (.f u) [] [1] zSW u u u ⟨ck 1,ck 2,ck 3,cl 1 4,ck 0,d⟩<|fun r7 _ k=>k<|qB<|wU 15 (vb r7) u<|wA<|zM (gv kk [0,1,2,3] (gq [0,1,2,3,4,5])))<|qA 1 [4,5,6,7,8,9,10,11,12,13,14] u<|
  wU 15 (vb false) u<|wA<|zM (gv kk [0,1,2,3] (gq [0,1,2,3,4,5])))<|fun s4 _ k=>k<|zJ u (xB [21] [0, 3] 22<|wI 0 3 u u u u<|wI 1 3 u u u u<|qA 19 [2] u<|qY 3 4 u u<|wI 4 0 u u u u<|
  qA 15 [5,6] u<|wI 7 3 u u u u<|qA 13 [8] u<|qY 9 0 u u<|qY 10 1 u u<|wI 11 0 u u u u<|qA 9 [12] u<|uJ 13 2 u u u u<|fun x6 b7 o3=>qY 14 4 u u<|
  uI 15 true yI u (gs (gs (gs (gs (gk 0))))) u<|wU 16 (.agg #[vi (-1), vi y1, sv p6 y2 c6, vb x6.2.2.2.2.1, vs x6.2.2.2.2.2]) u<|qH 17<|
  wT (.f u) (e := vC) 104 [vi (-1), vi y1, sv p6 y2 c6, vb x6.2.2.2.2.1, vs x6.2.2.2.2.2] ([((-1), y1, y2, x6.2.2.2.2)] : List zI) (rC (vP vI (vP vI (vP (vL (gk 1)) (vP vB vS)))) rN)<|fun p19 c19=>qB<|qH 18<|
  wM (.f u) 2 7 u (gk 0) u u<|fun x7 r_11 p20 c20=>qB<|qA 2 [19] u<|qY 20 4 u u<|qH 21<|qJ (o := 4) (.f u) 0 u u u<|jdb [] [0, 3]<|wA<|jrn<|wG u lN (fun _ k=>k p20 c20 r_11) [0,1,2] (gq [0]))<|wF<|jrn<|
  wG u lN (fun _ k=>k p5 c5 r_2) [0,1,2] (gq [5])
theorem zMP {qd : Prop} {y0 : uU} {y1 : Int} {y2 : List Int} : qC qd prog 49 [pt b1 0, vi y1, sv p6 y2 c6] [bx b1 117 [sv p1 y0.1.1 c1, sv p2 y0.1.2.1 c2, sv p3 y0.1.2.2 c3, sv p4 y0.2.1 c4, sv p5 y0.2.2.1 c5, vi y0.2.2.2], r_1, r_2] (vV y0.1 p1 c1 p2 c2 p3 c3 [Al vC 104 r_1 p4 c4 y0.2.1, Al vC 104 r_2 p5 c5 y0.2.2.1, Rl (zK .i64) p6 c6 y2]) (zBi y0 y1 y2) fun r K=>∀ p7 c7 r_3,K (.tuple #[]) [bx b1 117 [sv p1 y0.1.1 c1, sv p2 y0.1.2.1 c2, sv p3 y0.1.2.2 c3, sv p4 y0.2.1 c4, sv p7 r c7, vi y0.2.2.2], r_1, r_3] [Al vC 104 r_3 p7 c7 r] := zRo fun k => (zKs k)
theorem zSb {qd : Prop} {y0 : qL} {y1 : qD} : vU qd prog 190 [.agg (zOv y0 p1 c1).toArray, pt b1 0] [bx b1 9 [vs y1]] (zRz y0 p1 c1 []) (zKN y0 y1) fun L r K=>K (vb r) L [] :=
 zY call190 func190 u fun X=>zC<|qV .s u<|fun b2=>zA 1 u<|zB<|zC<|zN 0 u<|zT 1 u u u<|zT 0 u u u<|zA 2 u<|zB<|zH<|zQ u u kk [0] d
theorem zH2 {qd : Prop} {y0 : List qL} {y1 : qD} : vU qd prog 189 [sv p1 y0 c1, .func (.func 190) #[] #[pt b1 0]] [bx b1 9 [vs y1]] [Rl yO p1 c1 y0] (zAr y0 y1) fun L r K=>K (vi r) L [] :=
 zY call189 func189 u fun X=>jA 1 u<|zD<|jA 3 u<|zR<|qR (fun s1 K=>K [0,1,7] [] [0] [(8, vi s1)] []) (gv kk [0] (gq [0]))<|fun s1 _ k=>k<|jA 1 u<|zD<|zJ u (jC<|zD<|zR<|jA 2 u<|zC<|zA 3 u<|qX 0 u u u<|fun x1 b2 o1=>
  qW true zM4 (gk 0) u<|fun p2 c2=>zX .s [0] [] zSb u u u (cq [0])<|fun r1 _ k=>k<|zB<|zJ u (jA 2 u<|zH<|qK<|zZ<|wQ<|qK<|zZ<|zQ u u kk [0] d)<|wF<|qF<|zP<|jB 2 u<|
  qG (gv kk [0] (gq [2])))<|qO<|qN<|qQ<|qP<|zP<|jA 1 u<|zH<|zQ u u kk [0] d
theorem zPD {qd : Prop} {y0 : zO} {y1 : qD} : qC qd prog 118 [.agg (vN y0 p1 c1 p2 c2 p3 c3).toArray, vs y1] [] (vV y0 p1 c1 p2 c2 p3 c3 []) (zEI y0 y1) fun r K=>K (vi r) [] [] :=
 zY call118 func118 u fun X=>zC<|qV .s u<|fun b1=>qV .s u<|fun b2=>zA 1 u<|zB<|zC<|zN 1 u<|zT 0 u u u<|zA 1 u<|zX .s [1] [] zH2 u u u (cq [1])<|fun r1 _ k=>k<|zA 1 u<|zB<|zH<|
  zQ u u kk [] d
theorem zQN {qd : Prop} {y0 : vT} {y1 : zG} : vU qd prog 187 [.agg #[vb y0.1.1, vs y0.1.2, vi y0.2.1, vi y0.2.2.1, vs y0.2.2.2], pt b1 0] [bx b1 66 [vb y1.1, vs y1.2]] [] (zIY y0 y1) fun L r K=>K (vb r) L [] :=
 zY call187 func187 u fun X=>zC<|qV .s u<|fun b2=>zA 1 u<|zB<|zC<|zN 0 u<|qS 1 2 u u u<|qS 0 2 u u u<|zL (vb (y0.1 == y1))<|zA 1 u<|zB<|zH<|zQ u u kk [0] d
theorem zFN {qd : Prop} {y0 : List vT} {y1 : zG} : vU qd prog 186 [sv p1 y0 c1, .func (.func 187) #[] #[pt b1 0]] [bx b1 66 [vb y1.1, vs y1.2]] [Rl xU p1 c1 y0] (zAZ y0 y1) fun L r K=>K (vi r) L [] :=
 zY call186 func186 u fun X=>jA 1 u<|zD<|jA 3 u<|zR<|qR (fun s1 K=>K [0,1,7] [] [0] [(8, vi s1)] []) (gv kk [0] (gq [0]))<|fun s1 _ k=>k<|jA 1 u<|zD<|zJ u (jC<|zD<|zR<|jA 2 u<|zC<|zA 3 u<|qX 0 u u u<|fun x1 b2 o1=>
  qW true zNM (gk 0) u<|zX .s [0] [] zQN u u u d<|fun r1 _ k=>k<|zB<|zJ u (jA 2 u<|zH<|qK<|zZ<|wQ<|qK<|zZ<|zQ u u kk [0] d)<|wF<|qF<|zP<|jB 2 u<|
  qG (gv kk [0] (gq [1])))<|qO<|qN<|qQ<|qP<|zP<|jA 1 u<|zH<|zQ u u kk [0] d
theorem zRH {qd : Prop} {y0 : zO} {y1 : zG} : qC qd prog 116 [.agg (vN y0 p1 c1 p2 c2 p3 c3).toArray, .agg #[vb y1.1, vs y1.2]] [] (vV y0 p1 c1 p2 c2 p3 c3 []) (zDQ y0 y1) fun r K=>K (vi r) [] [] :=
 zY call116 func116 u fun X=>zC<|qV .s u<|fun b1=>qV .s u<|fun b2=>zA 1 u<|zB<|zC<|zN 0 u<|zT 0 u u u<|zA 1 u<|zX .s [1] [] zFN u u u (cq [0])<|fun r1 _ k=>k<|zA 1 u<|zB<|zH<|
  zQ u u kk [] d
theorem zGF {qd : Prop} {y0 : qD} : qC qd prog 188 [vs y0] [] [] (zBq y0) fun r K=>K (vb r) [] [] :=
 zY call188 func188 u fun X=>jA 1 u<|zD<|tK (fun K=>K [0] [] [] [(12, vb (((len y0) == 0) || (decide (12 < (len y0)))))] []) (qM<|zA 4 u<|uF (b := (len y0) == 0) 8 u (fun hb1=>zA 3 u<|zL (vb true)<|zV<|
  wX 12 (vb (((len y0) == 0) || (decide (12 < (len y0))))) u (by rw [hb1]; rfl)<|zM (gv kk [] d))<|fun hb1=>zA 3 u<|zL (vb (decide (12 < (len y0))))<|zV<|
  wX 12 (vb (((len y0) == 0) || (decide (12 < (len y0))))) u (by rw [hb1]; rfl)<|zM (gv kk [] d))<|fun _ k=>k<|zJ u (jA 1 u<|zH<|zZ<|zQ u u kk [] d)<|jC<|zD<|jA 3 u<|zR<|
  qR (fun s1 K=>K [0,14] [] [] [(15, vi s1)] []) (gv kk [] d)<|fun s1 _ k=>k<|jA 1 u<|zD<|zJ u (jC<|zD<|zR<|jA 2 u<|zC<|zA 2 u<|yP fun x1 h1=>jv (fun h=>zKn h u u underlying9 h1)<|zA 1 u<|zB<|zR<|
  tK (fun K=>K [0,3,4,14,15] [] [] [(21, vb ((decide (97 ≤ x1)) && (decide (x1 ≤ 122))))] []) (qM<|zA 3 u<|uF (b := decide (97 ≤ x1)) 24 u (fun hb2=>zA 2 u<|zL (vb (decide (x1 ≤ 122)))<|zA 1 u<|zV<|
  wX 21 (vb ((decide (97 ≤ x1)) && (decide (x1 ≤ 122)))) u (by rw [hb2]; rfl)<|zM (gv kk [] d))<|fun hb2=>zA 2 u<|zL (vb false)<|zA 1 u<|zV<|
  wX 21 (vb ((decide (97 ≤ x1)) && (decide (x1 ≤ 122)))) u (by rw [hb2]; rfl)<|zM (gv kk [] d))<|fun _ k=>k<|zJ u (wF<|qF<|qF<|zP<|jB 2 u<|qG (gv kk [] d))<|
  tK (fun K=>K [0,14,15] [] [] [(28, vb ((decide (0 < s1)) && (if decide (48 ≤ x1) then (decide (x1 ≤ 57)) || (x1 == 95) else x1 == 95)))] []) (qM<|zA 3 u<|uF (b := decide (0 < s1)) 31 u (fun hb3=>zA 3 u<|
  uF (b := decide (48 ≤ x1)) 34 u (fun hb4=>zA 2 u<|zL (vb (decide (x1 ≤ 57)))<|zA 1 u<|uF (b := decide (x1 ≤ 57)) 38 u (fun hb5=>zA 2 u<|zL (vb true)<|zL (vb true)<|zA 1 u<|zV<|
  wX 28 (vb ((decide (0 < s1)) && (if decide (48 ≤ x1) then (decide (x1 ≤ 57)) || (x1 == 95) else x1 == 95))) u (by rw [hb3,hb4,hb5]; rfl)<|zM (gv kk [] d))<|fun hb5=>zA 2 u<|zL (vb (x1 == 95))<|zL (vb (x1 == 95))<|
  zA 1 u<|zV<|wX 28 (vb ((decide (0 < s1)) && (if decide (48 ≤ x1) then (decide (x1 ≤ 57)) || (x1 == 95) else x1 == 95))) u (by rw [hb3,hb4,hb5]; rfl)<|zM (gv kk [] d))<|fun hb4=>zA 2 u<|zL (vb false)<|zA 3 u<|
  zL (vb (x1 == 95))<|zL (vb (x1 == 95))<|zA 1 u<|zV<|wX 28 (vb ((decide (0 < s1)) && (if decide (48 ≤ x1) then (decide (x1 ≤ 57)) || (x1 == 95) else x1 == 95))) u (by rw [hb3,hb4]; rfl)<|zM (gv kk [] d))<|fun hb3=>
  zA 10 u<|zL (vb false)<|zA 1 u<|zV<|wX 28 (vb ((decide (0 < s1)) && (if decide (48 ≤ x1) then (decide (x1 ≤ 57)) || (x1 == 95) else x1 == 95))) u (by rw [hb3]; rfl)<|zM (gv kk [] d))<|fun _ k=>k<|zJ u (wF<|qF<|
  qF<|zP<|jB 2 u<|qG (gv kk [] d))<|jA 1 u<|zH<|qK<|qK<|zZ<|wQ<|qK<|zZ<|zQ u u kk [] d)<|qO<|qN<|qQ<|qP<|zP<|jA 1 u<|zH<|zQ u u kk [] d
theorem zFf {qd : Prop} {y0 : zG} : qC qd prog 184 [.agg #[vb y0.1, vs y0.2]] [] [] (zCI y0) fun r K=>K (vb r) [] [] :=
 zY call184 func184 u fun X=>zC<|qV .s u<|fun b1=>zA 1 u<|zB<|zC<|zN 1 u<|zT 0 u u u<|qI zGF u d<|fun r1 _ k=>k<|zA 1 u<|zB<|zH<|zQ u u kk [] d
theorem zKP {qd : Prop} {y0 : Int} : qC qd prog 183 [vi y0] [] [] (zCw y0) fun r K=>K (vb r) [] [] :=
 zY call183 func183 u fun X=>jA 1 u<|jjp (fun K=>K [(2, vb ((decide (0 ≤ y0)) && (decide (y0 ≤ 9))))] [] []) (qM<|zA 3 u<|uF (b := decide (0 ≤ y0)) 5 u (fun hb1=>zA 2 u<|zL (vb (decide (y0 ≤ 9)))<|zA 1 u<|zV<|
  wX 2 (vb ((decide (0 ≤ y0)) && (decide (y0 ≤ 9)))) u (by rw [hb1]; rfl)<|zM (gv kk [] d))<|fun hb1=>zA 2 u<|zL (vb false)<|zA 1 u<|zV<|wX 2 (vb ((decide (0 ≤ y0)) && (decide (y0 ≤ 9)))) u (by rw [hb1]; rfl)<|
  zM (gv kk [] d))<|fun _ k=>k<|zH<|zQ u u kk [] d
theorem zRM {qd : Prop} {y0 : qD} : qC qd prog 185 [vs y0] [] [] (zEl y0) fun r K=>K (vb r) [] [] :=
 zY call185 func185 u fun X=>jA 1 u<|jjn (fun s1 K=>K [(2, vb s1)] [] []) (qM<|zA 3 u<|wL 5 u (zA 2 u<|zL (vb true)<|zA 1 u<|zV<|zM (gv kk [] d))<|zA 1 u<|qI zGF u d<|fun r1 _ k=>k<|zL (vb r1)<|zA 1 u<|zV<|
  zM (gv kk [] d))<|fun s1 _ k=>k<|zH<|zQ u u kk [] d
theorem zRk {qd : Prop} {y0 : vT} : qC qd prog 115 [.agg #[vb y0.1.1, vs y0.1.2, vi y0.2.1, vi y0.2.2.1, vs y0.2.2.2]] [] [] (zD9 y0) fun r K=>K (vi r) [] [] :=
 zY call115 func115 u fun X=>zC<|qV .s u<|fun b1=>zA 1 u<|zB<|zYy (fun s1 K=>K [1] [] [] [] []) (zC<|zN 2 u<|zT 0 u u u<|zB<|zR<|wK (fun s2 K=>K [1,4] [] [] [(5, vb s2)] []) (jA 2 u<|zJ u (wF<|zM (gv kk [0] d))<|jB 2 u<|
  zM (gv kk [0] d))<|fun s2 _ k=>k<|zJ u (zC<|zN 3 u<|zT 0 u u u<|zA 1 u<|zB<|zJ u (jA 1 u<|zH<|qK<|wQ<|zQ u u kk [] d)<|wF<|qF<|qG (gv kk [0] d))<|jA 2 u<|zJ u (zC<|
  zN 3 u<|zT 0 u u u<|qI zKP u d<|fun r1 _ k=>k<|zA 1 u<|zB<|zJ u (jA 1 u<|zH<|qK<|wQ<|zQ u u kk [] d)<|wF<|qF<|qG (gv kk [0] d))<|jA 1 u<|zH<|qK<|wQ<|
  zQ u u kk [] d)<|fun s1 _ k=>k<|zD<|jjn (fun s3 K=>K [(26, vb s3)] [[]] []) (qM<|zN 0 u<|qS 0 2 u u u<|qI zFf u d<|fun r2 _ k=>k<|zA 2 u<|wL 21 u (zA 4 u<|zL (vb true)<|zV<|
  zM (gv kk [900] d))<|zN 4 u<|zT 0 u u u<|qI zRM u d<|fun r3 _ k=>k<|zA 1 u<|zL (vb (!r3))<|zV<|zM (gv kk [900] d))<|fun s3 _ k=>k<|zJ u (jA 1 u<|zH<|zZ<|
  zQ u u kk [] d)<|jC<|jA 1 u<|zH<|zQ u u kk [] d
theorem zQP {qd : Prop} {y0 : zO} {y1 : vQ} : qC qd prog 119 [.agg (vN y0 p1 c1 p2 c2 p3 c3).toArray, .agg #[vs y1.1, vi y1.2.1, vb y1.2.2.1, vs y1.2.2.2]] [] (vV y0 p1 c1 p2 c2 p3 c3 []) (zCn y0 y1) fun r K=>K (vi r) [] [] :=
 zY call119 func119 u fun X=>zC<|qV .s u<|fun b1=>qV .s u<|fun b2=>zA 1 u<|zB<|zD<|wK (fun s1 K=>K [2,3] [] [0,1,2] [(15, vb s1)] []) (qM<|zN 1 u<|zT 1 u u u<|qI zKP u d<|fun r1 _ k=>k<|zA 2 u<|wL 10 u (zA 4 u<|
  zL (vb true)<|zV<|zM (gv kk [0,1] (gq [0,1,2])))<|zN 2 u<|qS 1 2 u u u<|qI zFf u d<|fun r2 _ k=>k<|zA 1 u<|zL (vb (!r2))<|zV<|zM (gv kk [0,1] (gq [0,1,2])))<|fun s1 _ k=>k<|zJ u (
  jA 1 u<|zH<|zZ<|zQ u u kk [] d)<|jC<|zD<|zC<|qS 0 3 u u u<|zN 0 u<|zT 1 u u u<|qI zPD u (cq [0,1,2])<|fun r3 _ k=>k<|zA 1 u<|zB<|zR<|jA 3 u<|zJ u (jA 1 u<|zH<|qK<|zZ<|
  zQ u u kk [] d)<|zC<|zN 1 u<|zT 0 u u u<|zA 1 u<|qX 1 u u u<|fun x1 b3 o1=>zN 1 u<|qW false oB (gf (gs (gk 0))) u<|zA 1 u<|zB<|zJ u (jA 1 u<|zH<|qK<|zZ<|zQ u u kk [] d
  )<|wF<|qF<|zP<|jA 1 u<|zH<|zQ u u kk [] d
theorem zM2 {qd : Prop} {y0 : qD} : qC qd prog 276 [vs y0] [] [] (zEb y0) fun r K=>K (vb r) [] [] :=
 zY call276 func276 u fun X=>jA 1 u<|jA 4 u<|zH<|zQ u u kk [] d
theorem zQO {qd : Prop} {y0 : qD} {y1 : qD} : qC qd prog 212 [vs y0, vs y1] [] [] (zFU y0 y1) fun r K=>K (vi r) [] [] :=
 zY call212 func212 u fun X=>jA 1 u<|zC<|zA 1 u<|qI zM2 u d<|fun r1 _ k=>k<|zA 1 u<|zB<|zC<|zA 1 u<|qI zM2 u d<|fun r2 _ k=>k<|zA 1 u<|zB<|zD<|jA 1 u<|zJ u (zD<|jA 1 u<|zJ u (jA 1 u<|zH<|zZ<|zZ<|
  zQ u u kk [] d)<|jC<|jA 1 u<|zH<|zZ<|zQ u u kk [] d)<|jC<|zD<|jA 1 u<|zJ u (jA 1 u<|zH<|zZ<|zQ u u kk [] d)<|jC<|zD<|jA 3 u<|zJ u (jA 1 u<|zH<|zZ<|
  zQ u u kk [] d)<|jC<|zD<|jA 3 u<|zJ u (jA 1 u<|zH<|zZ<|zQ u u kk [] d)<|jC<|jA 1 u<|zH<|zQ u u kk [] d
theorem zNL {qd : Prop} {y0 : zG} {y1 : zG} : qC qd prog 141 [.agg #[vb y0.1, vs y0.2], .agg #[vb y1.1, vs y1.2]] [] [] (zCR y0 y1) fun r K=>K (vi r) [] [] :=
 zY call141 func141 u fun X=>zC<|qV .s u<|fun b1=>qV .s u<|fun b2=>zA 1 u<|zB<|zD<|zC<|zN 1 u<|zT 0 u u u<|zN 1 u<|zT 1 u u u<|qI zQO u d<|fun r1 _ k=>k<|zA 1 u<|zB<|
  tK (fun K=>K [3,5] [(0, [])] [] [(19, vb ((r1 != 0) || (y0.1 == y1.1)))] []) (qM<|zA 3 u<|uF (b := r1 != 0) 13 u (fun hb1=>zA 5 u<|zL (vb true)<|zV<|wX 19 (vb ((r1 != 0) || (y0.1 == y1.1))) u (by rw [hb1]; rfl)<|
  zM (gv kk [900,1] d))<|fun hb1=>zN 0 u<|zT 0 u u u<|zN 0 u<|zT 1 u u u<|zL (vb (y0.1 == y1.1))<|zL (vb (y0.1 == y1.1))<|zV<|wX 19 (vb ((r1 != 0) || (y0.1 == y1.1))) u (by rw [hb1]; rfl)<|
  zM (gv kk [900,1] d))<|fun _ k=>k<|zJ u (jA 2 u<|zH<|zZ<|zQ u u kk [] d)<|jC<|zD<|zC<|zN 0 u<|zT 1 u u u<|zB<|zJ u (jA 1 u<|zH<|zZ<|zQ u u kk [] d)<|jC<|jA 1 u<|zH<|
  zQ u u kk [] d
theorem zTh {qd : Prop} {y0 : qL} : qC qd prog 117 [.agg (zOv y0 p1 c1).toArray] [] (zRz y0 p1 c1 []) (zFr y0) fun r K=>K (vi r) [] [] :=
 zY call117 func117 u fun X=>zC<|qV .s u<|fun b1=>zA 1 u<|zB<|zD<|zC<|zN 3 u<|zT 0 u u u<|zA 2 u<|zB<|zJ u (jA 1 u<|zH<|zZ<|zQ u u kk [] d)<|jC<|zD<|wK (fun s1 K=>K [1] [] [0] [(34, vb s1)] []) (qM<|zN 0 u<|
  zT 0 u u u<|qI zGF u d<|fun r1 _ k=>k<|zA 2 u<|wL 14 u (zA 4 u<|zL (vb true)<|zA 5 u<|zL (vb true)<|zA 8 u<|zL (vb true)<|zV<|zM (gv kk [0] (gq [0])))<|zN 4 u<|
  qS 0 2 u u u<|qI zFf u d<|fun r2 _ k=>k<|zA 1 u<|zL (vb (!r2))<|zA 1 u<|wL 20 u (zA 4 u<|zL (vb true)<|zA 8 u<|zL (vb true)<|zV<|zM (gv kk [0] (gq [0])))<|zN 2 u<|zT 0 u u u<|
  qI zKP u d<|fun r3 _ k=>k<|zA 1 u<|zL (vb (!r3))<|zA 1 u<|wL 26 u (zA 7 u<|zL (vb true)<|zV<|zM (gv kk [0] (gq [0])))<|zN 1 u<|zT 0 u u u<|zA 1 u<|wL 29 u (zN 2 u<|
  zT 0 u u u<|zA 1 u<|zL (vb (y0.2.2.1 != 0))<|zL (vb (y0.2.2.1 != 0))<|zV<|zM (gv kk [0] (gq [0])))<|zA 3 u<|zL (vb false)<|zL (vb false)<|zV<|zM (gv kk [0] (gq [0])))<|fun s1 _ k=>k<|zJ u (
  jA 1 u<|zH<|zZ<|zQ u u kk [] d)<|jC<|zYy (fun s2 K=>K [1] [] [0] [] []) (zC<|zN 3 u<|zT 0 u u u<|zA 2 u<|zB<|zR<|qR (fun s3 K=>K [1,36,37] [] [0] [(38, vi s3)] []) (gv kk [0] (gq [0]))<|
  fun s3 _ k=>k<|jA 1 u<|zD<|zJ u (jC<|zD<|zR<|zC<|qX 0 u u u<|fun x1 b2 o1=>qW true yI (gk 0) u<|wN .s (.agg #[vb false, vs []])<|fun b3=>qJ .s 1 u u u<|zB<|zC<|qS 1 2 u u u<|
  qI zFf u d<|fun r4 _ k=>k<|zA 1 u<|zB<|zJ u (jA 1 u<|zH<|qK<|zZ<|wQ<|qK<|wQ<|zQ u u kk [] d)<|wF<|qF<|zP<|jB 2 u<|qG (gv kk [0] (gq [1])))<|qO<|qN<|qQ<|qP<|
  qG (gv kk [0] (gq [0])))<|fun s2 _ k=>k<|zD<|jA 1 u<|zR<|qR (fun s4 K=>K [1] [] [0] [(5, vi s4)] []) (gv kk [0] (gq [0]))<|fun s4 _ k=>k<|zD<|zC<|zA 1 u<|zN 3 u<|zT 0 u u u<|zA 2 u<|zB<|
  zJ u (jC<|zD<|zR<|yA [] [0] 13<|qY 0 3 u u<|wI 1 0 u u u u<|qA 9 [2,3] u<|uJ 4 0 u u u u<|fun x2 b4 o2=>uI 5 true yI u (gk 0) u<|qY 6 3 u u<|wI 7 0 u u u u<|qA 4 [8] u<|
  uJ 9 1 u u u u<|fun x3 b5 o3=>uI 10 true yI u (gk 0) u<|qH 11<|zX (.f u) [] [] zNL u u u d<|fun r5 _ k=>k<|qB<|qA 0 [12] u<|wA<|zP<|zJ u (jA 1 u<|zH<|qK<|zZ<|wQ<|qK<|zZ<|
  zQ u u kk [] d)<|wF<|qF<|zP<|jB 3 u<|qG (gv kk [0] (gq [2])))<|qO<|qN<|qQ<|qP<|zP<|jA 1 u<|zH<|zQ u u kk [] d
theorem zMJ {qd : Prop} {y0 : zO} : qC qd prog 48 [.agg (vN y0 p1 c1 p2 c2 p3 c3).toArray] [] (vV y0 p1 c1 p2 c2 p3 c3 []) (zCC y0) fun r K=>K (vi r) [] [] :=
 zY call48 func48 u fun X=>zC<|qV .s u<|fun b1=>zA 1 u<|zB<|zD<|tK (fun K=>K [1] [] [0,1,2] [(27, vb ((decide (16 < (len y0.1))) || ((decide (24 < (len y0.2.1))) || (decide (8 < (len y0.2.2))))))] []) (qM<|zN 0 u<|zT 0 u u u<|zA 3 u<|
  uF (b := decide (16 < (len y0.1))) 16 u (fun hb1=>zA 4 u<|zL (vb true)<|zA 5 u<|zL (vb true)<|zV<|wX 27 (vb ((decide (16 < (len y0.1))) || ((decide (24 < (len y0.2.1))) || (decide (8 < (len y0.2.2)))))) u (by rw [hb1]; rfl)<|
  zM (gv kk [0] (gq [0,1,2])))<|fun hb1=>zN 1 u<|zT 0 u u u<|zA 2 u<|zL (vb (decide (24 < (len y0.2.1))))<|zA 1 u<|uF (b := decide (24 < (len y0.2.1))) 22 u (fun hb2=>zA 4 u<|zL (vb true)<|zV<|
  wX 27 (vb ((decide (16 < (len y0.1))) || ((decide (24 < (len y0.2.1))) || (decide (8 < (len y0.2.2)))))) u (by rw [hb1,hb2]; rfl)<|zM (gv kk [0] (gq [0,1,2])))<|fun hb2=>zN 2 u<|zT 0 u u u<|zA 2 u<|
  zL (vb (decide (8 < (len y0.2.2))))<|zV<|wX 27 (vb ((decide (16 < (len y0.1))) || ((decide (24 < (len y0.2.1))) || (decide (8 < (len y0.2.2)))))) u (by rw [hb1,hb2]; rfl)<|zM (gv kk [0] (gq [0,1,2])))<|fun _ k=>k<|zJ u (
  jA 1 u<|zH<|zZ<|zQ u u kk [] d)<|jC<|zYy (fun s1 K=>K [1] [] [0,1,2] [] []) (zC<|zN 0 u<|zT 0 u u u<|zA 2 u<|zB<|zR<|
  qR (fun s2 K=>K [1,29,30] [] [0,1,2] [(31, vi s2)] []) (gv kk [0] (gq [0,1,2]))<|fun s2 _ k=>k<|jA 1 u<|zD<|zJ u (jC<|zD<|zR<|zC<|zA 1 u<|qX 0 u u u<|fun x1 b2 o1=>qW true zNM (gk 0) u<|
  wN .s (.agg #[vb false, vs [], vi 0, vi 0, vs []])<|fun b3=>zA 1 u<|qJ .s 1 u u u<|zB<|zD<|zC<|qS 1 5 u u u<|qI zRk u d<|fun r1 _ k=>k<|zA 1 u<|zB<|jA 2 u<|zJ u (jA 2 u<|zH<|zZ<|qK<|
  zZ<|wQ<|qK<|wQ<|zQ u u kk [] d)<|jC<|zC<|qS 0 3 u u u<|zN 0 u<|qS 1 2 u u u<|qI zRH u (cq [1,2,3])<|fun r2 _ k=>k<|zA 2 u<|zB<|zJ u (jA 1 u<|zH<|qK<|zZ<|wQ<|qK<|wQ<|
  zQ u u kk [] d)<|wF<|qF<|zP<|jB 2 u<|qG (gv kk [0] (gq [1,2,3])))<|qO<|qN<|qQ<|qP<|qG (gv kk [0] (gq [0,1,2])))<|fun s1 _ k=>k<|zYy (fun s3 K=>K [1] [] [0,1,2] [] []) (zC<|zN 1 u<|
  zT 0 u u u<|zA 2 u<|zB<|zR<|qR (fun s4 K=>K [1,49,50] [] [1,0,2] [(51, vi s4)] []) (gv kk [0] (gq [1,0,2]))<|fun s4 _ k=>k<|jA 1 u<|zD<|zJ u (jC<|zD<|zR<|zC<|zA 1 u<|qX 0 u u u<|fun x2 b4 o2=>
  qW true zM4 (gk 0) u<|fun p4 c4=>wN .s (.agg #[vs [], vb false, vi 0, .slice none 0 0, vb false, vs []])<|fun b5=>zA 1 u<|qJ .s 1 u u u<|zB<|zD<|zC<|qS 1 6 u u u<|qI zTh u (cq [0])<|fun r3 _ k=>k<|
  zA 1 u<|zB<|jA 2 u<|zJ u (jA 2 u<|zH<|zZ<|qK<|zZ<|wQ<|qK<|wQ<|zQ u u kk [] d)<|jC<|zC<|qS 0 3 u u u<|zN 0 u<|zT 1 u u u<|qI zPD u (cq [3,2,4])<|fun r4 _ k=>k<|zA 2 u<|
  zB<|zJ u (jA 1 u<|zH<|qK<|zZ<|wQ<|qK<|wQ<|zQ u u kk [] d)<|wF<|qF<|zP<|jB 2 u<|qG (gv kk [0] (gq [2,3,4])))<|qO<|qN<|qQ<|qP<|qG (gv kk [0] (gq [1,0,2])))<|fun s3 _ k=>k<|zD<|zC<|
  zN 2 u<|zT 0 u u u<|zA 2 u<|zB<|zR<|qR (fun s5 K=>K [1,69,70] [] [2,0,1] [(71, vi s5)] []) (gv kk [0] (gq [2,0,1]))<|fun s5 _ k=>k<|jA 1 u<|zD<|zJ u (jC<|zD<|zR<|zC<|qX 0 u u u<|fun x3 b6 o3=>
  qW true zQw (gk 0) u<|wN .s (.agg #[vs [], vi 0, vb false, vs []])<|fun b7=>qJ .s 1 u u u<|zB<|zC<|qS 0 3 u u u<|qS 1 4 u u u<|qI zQP u (cq [2,3,1])<|fun r5 _ k=>k<|zA 1 u<|zB<|
  jA 2 u<|zJ u (jA 2 u<|zH<|qK<|zZ<|wQ<|qK<|zZ<|zQ u u kk [] d)<|wF<|qF<|zP<|jB 2 u<|qG (gv kk [0] (gq [1,2,3])))<|qO<|qN<|qQ<|qP<|zP<|jA 1 u<|zH<|zQ u u kk [] d
theorem zTV {qd : Prop} {y0 : zO} : qC qd prog 17 [.agg (vN y0 p1 c1 p2 c2 p3 c3).toArray] [] (vV y0 p1 c1 p2 c2 p3 c3 []) (zE6 y0) fun r K=>∀ p4 c4,K (.tuple #[sv p4 r.1 c4, vi r.2]) [] [Rl vC p4 c4 r.1] :=
 zY call17 func17 u fun X=>zC<|qV .s u<|fun b1=>zA 2 u<|zB<|jcs<|zD<|zC<|qS 0 3 u u u<|qI zMJ u (cq [0,1,2])<|fun r1 _ k=>k<|zA 1 u<|zB<|jA 2 u<|zJ u (jA 3 u<|zH<|zZ<|jcr<|
  wG u (lT u (lT u lN)) (fun _ k=>k none 0) [] ⟨gn,d⟩)<|jC<|zC<|qS 0 3 u u u<|zL (.agg #[sv p1 y0.1 c1, sv p2 y0.2.1 c2, sv p3 y0.2.2 c3, .slice none 0 0, .slice none 0 0, vi 0])<|vJ vC 104<|qV .s u<|fun b2=>
  zA 1 u<|zB<|wK (fun s1 K=>∀ p4 c4 r_1,K [1,5] [(1, r_1), (2, bx b2 117 [sv p1 y0.1 c1, sv p2 y0.2.1 c2, sv p3 y0.2.2 c3, sv p4 s1 c4, .slice none 0 0, vi 0])] [1,2,3] [] [Al vC 104 r_1 p4 c4 s1]) (zC<|zN 0 u<|
  zT 0 u u u<|zA 2 u<|zB<|zR<|
  qR (fun s2 K=>∀ p5 c5 r_2,K [1,5,20,21] [(1, r_2), (2, bx b2 117 [sv p1 y0.1 c1, sv p2 y0.2.1 c2, sv p3 y0.2.2 c3, sv p5 s2.2 c5, .slice none 0 0, vi 0])] [1,2,3] [(22, vi s2.1)] [Al vC 104 r_2 p5 c5 s2.2]) (gv (fun _ k=>k none 0 []) [0,1,2] (gq [0,1,2,3]))<|
  fun s2 _ k p5 c5 r_2=>k<|jA 1 u<|zD<|zJ u (jC<|zD<|zR<|zC<|zA 1 u<|qX 1 u u u<|fun x1 b3 o1=>qW true zNM (gk 0) u<|wN .s (.agg #[vb false, vs [], vi 0, vi 0, vs []])<|fun b4=>zA 1 u<|qJ .s 3 u u u<|
  zB<|xB [13] [2, 3] 14<|qA 11 [0,1,2] u<|qY 3 3 u u<|wI 4 2 u u u u<|qA 8 [5] u<|qY 6 0 u u<|vM 7 3 2 u u u u<|wU 8 (.agg #[vi s2.1, vi (-1), .slice none 0 0, vb x1.1.1, vs x1.1.2]) u<|qH 9<|
  wT (.f u) (e := vC) 104 [vi s2.1, vi (-1), .slice none 0 0, vb x1.1.1, vs x1.1.2] ([(s2.1, (-1), ([] : List Int), x1.1)] : List zI) (rC (vP vI (vP vI (vP (vL gn) (vP vB vS)))) rN)<|fun p6 c6=>qB<|qH 10<|
  wM (.f u) 1 2 u (gk 0) u u<|fun x2 r_3 p7 c7=>qB<|qA 2 [11] u<|qY 12 3 u u<|qH 13<|qJ (o := 3) (.f u) 2 u u u<|jdb [] [2, 3]<|wA<|qF<|zP<|jB 2 u<|qG (gv (fun _ k=>k p7 c7 r_3) [0,1,2] (gq [0,4,5,6])))<|
  qO<|qN<|qQ<|qP<|zM (gv (fun _ k=>k p5 c5 r_2) [0,1,2] (gq [0,1,2,3])))<|fun s1 _ k p4 c4 r_1=>k<|zD<|jlb<|zP<|
  wK (fun s3 K=>∀ p8 c8 r_4 p9 c9 r_5,K [5] [(0, []), (1, r_4), (2, bx b2 117 [sv p1 y0.1 c1, sv p2 y0.2.1 c2, sv p3 y0.2.2 c3, sv p8 s3.1 c8, sv p9 s3.2.1 c9, vi s3.2.2]), (3, r_5)] [1,2,3] [] [Al vC 104 r_4 p8 c8 s3.1, Al vC 104 r_5 p9 c9 s3.2.1]) (
  jA 1 u<|zR<|
  qR (fun s4 K=>∀ p10 c10 r_6 p11 c11,K [1,5] [(1, r_6), (2, bx b2 117 [sv p1 y0.1 c1, sv p2 y0.2.1 c2, sv p3 y0.2.2 c3, sv p10 s4.2.1 c10, sv p11 s4.2.2.1 c11, vi s4.2.2.2])] [1,2,3] [(8, vi s4.1)] [Al vC 104 r_6 p10 c10 s4.2.1, Rl vC p11 c11 s4.2.2.1]) (gv (fun _ k=>k p4 c4 r_1 none 0) [0,1,2] ⟨gk 0,gn,gk 1,gk 2,gk 3,d⟩)<|
  fun s4 _ k p10 c10 r_6 p11 c11=>k<|zD<|zR<|zC<|zA 2 u<|zN 4 u<|vJ vC 104<|qJ .s 2 u u u<|zB<|
  zYy (fun s5 K=>∀ p12 c12 r_7,K [1,5,8] [(2, bx b2 117 [sv p1 y0.1 c1, sv p2 y0.2.1 c2, sv p3 y0.2.2 c3, sv p10 s4.2.1 c10, sv p12 s5 c12, vi s4.2.2.2]), (3, r_7)] [3,4,5,1] [] [Al vC 104 r_7 p12 c12 s5]) (zC<|zN 1 u<|
  zT 0 u u u<|zA 2 u<|zB<|zR<|
  qR (fun s6 K=>∀ p13 c13 r_8,K [1,5,8,47,48] [(2, bx b2 117 [sv p1 y0.1 c1, sv p2 y0.2.1 c2, sv p3 y0.2.2 c3, sv p10 s4.2.1 c10, sv p13 s6.2 c13, vi s4.2.2.2]), (3, r_8)] [4,3,5,1] [(49, vi s6.1)] [Al vC 104 r_8 p13 c13 s6.2]) (gv (fun _ k=>k none 0 []) [0,1,2,3] (gq [0,4,3,5,1]))<|
  fun s6 _ k p13 c13 r_8=>k<|jA 1 u<|zD<|zJ u (jC<|zD<|zR<|zC<|zA 1 u<|qX 1 u u u<|fun x3 b5 o2=>qW true zM4 (gk 0) u<|fun p14 c14=>wN .s (.agg #[vs [], vb false, vi 0, .slice none 0 0, vb false, vs []])<|fun b6=>
  zA 1 u<|qJ .s 4 u u u<|zB<|
  wK (fun s7 K=>∀ p15 c15 r_9,K [1,5,8,47,48,49] [(2, bx b2 117 [sv p1 y0.1 c1, sv p2 y0.2.1 c2, sv p3 y0.2.2 c3, sv p10 s4.2.1 c10, sv p15 s7 c15, vi s4.2.2.2]), (3, r_9), (4, [])] [3,4,5,6] [] [Al vC 104 r_9 p15 c15 s7]) (zC<|
  zN 3 u<|zT 4 u u u<|zA 2 u<|zB<|zJ u (qM<|zA 2 u<|zX .s [2, 1, 3] [] zMP u u u ⟨ck 4,ck 3,ck 5,ck 6,ck 2,cn,d⟩<|fun r2 _ k p16 c16 r_10=>k<|zV<|
  zM (gv (fun _ k=>k p16 c16 r_10) [0,1,2,3,904] (gq [0,4,5,6,7])))<|jA 2 u<|zJ u (xB [13] [2, 4] 14<|qA 11 [0,1,2] u<|qY 3 4 u u<|wI 4 2 u u u u<|qA 8 [5] u<|qY 6 4 u u<|vM 7 4 2 u u u u<|
  wU 8 (.agg #[vi (-1), vi s6.1, .slice none 0 0, vb x3.2.2.2.2.1, vs x3.2.2.2.2.2]) u<|qH 9<|
  wT (.f u) (e := vC) 104 [vi (-1), vi s6.1, .slice none 0 0, vb x3.2.2.2.2.1, vs x3.2.2.2.2.2] ([((-1), s6.1, ([] : List Int), x3.2.2.2.2)] : List zI) (rC (vP vI (vP vI (vP (vL gn) (vP vB vS)))) rN)<|fun p17 c17=>qB<|
  qH 10<|wM (.f u) 3 3 u (gk 0) u u<|fun x4 r_11 p18 c18=>qB<|qA 2 [11] u<|qY 12 4 u u<|qH 13<|qJ (o := 4) (.f u) 2 u u u<|jdb [] [2, 4]<|wA<|zM (gv (fun _ k=>k p18 c18 r_11) [0,1,2,3,904] (gq [0,5,6,7,8])))<|
  wF<|zM (gv (fun _ k=>k p13 c13 r_8) [0,1,2,3,904] (gq [2,3,4,5,6])))<|fun s7 _ k p15 c15 r_9=>k<|zC<|zA 1 u<|zX .s [2] [1, 3] zG7 u u u ⟨ck 2,ck 1,ck 3,cl 1 4,cl 3 0,d⟩<|fun r3 _ k=>k<|zB<|zJ u (qO<|
  jbm<|qN<|qQ<|jbm<|qQ<|jbm<|qN<|qQ<|qP<|zM (gv (fun _ k=>k p10 c10 r_6 p15 c15 r_9) [900,1,2,3] (gq [4,0,2,1,3])))<|wF<|qF<|zP<|jB 2 u<|qG (gv (fun _ k=>k p15 c15 r_9) [0,1,2,3] (gq [0,1,2,3,4])))<|qO<|qN<|qQ<|qP<|
  qG (gv (fun _ k=>k p13 c13 r_8) [0,1,2,3] (gq [0,2,1,3,4])))<|fun s5 _ k p12 c12 r_7=>k<|zD<|zC<|zA 2 u<|zN 4 u<|zT 2 u u u<|zA 2 u<|zB<|zJ u (qO<|qN<|jbm<|qN<|qQ<|qP<|
  zM (gv (fun _ k=>k p10 c10 r_6 p12 c12 r_7) [900,1,2,3] (gq [4,0,1,2,3])))<|jC<|zC<|zA 3 u<|zN 3 u<|zT 2 u u u<|zA 2 u<|zN 5 u<|qJ .s 2 u u u<|zB<|xB [12] [2] 13<|qA 10 [0,1,2] u<|qY 3 3 u u<|
  wI 4 2 u u u u<|qA 6 [5,6] u<|qY 7 4 u u<|wI 8 2 u u u u<|qH 9<|jao (.f u) 1 3 4 0 u u u u<|fun x5 r_12 p19 c19=>qB<|qA 2 [10] u<|qY 11 3 u u<|qH 12<|qJ (o := 3) (.f u) 2 u u u<|
  jdb [] [2]<|wA<|qF<|zP<|jB 3 u<|wY 3 1 u u<|qG (gv (fun _ k=>k p19 c19 r_12 p12 c12) [0,1,2] (gq [1,0,3,4,5])))<|fun s3 _ k p8 c8 r_4 p9 c9 r_5=>k<|zD<|zC<|zA 1 u<|
  zX .s [2] [1, 3] zG7 u u u ⟨ck 2,ck 3,ck 4,cl 1 0,cl 3 1,d⟩<|fun r4 _ k=>k<|zB<|zJ u (jA 2 u<|zH<|zZ<|jcr<|wG u (lT u (lT u lN)) (fun _ k=>k none 0) [] ⟨gn,d⟩)<|jC<|zC<|zA 2 u<|zN 3 u<|
  zT 2 u u u<|zA 2 u<|zB<|zH<|jcr<|wY 1 0 u u<|wG u (lT u (lT u lN)) (fun _ k=>k p8 c8) [] (gq [0])
theorem zKH {qd : Prop} {y0 : List zG} : qC qd prog 66 [sv p1 y0 c1] [] [Rl wO p1 c1 y0] (zCu y0) fun r K=>∀ p2 c2 r_1,K (sv p2 r c2) [r_1] [Al wO 66 r_1 p2 c2 r] :=
 zY call66 func66 u fun X=>jA 1 u<|zD<|zC<|zA 1 u<|jv (fun h=>z3A h u underlying61)<|zB<|jnl (m1 := some ([] : List zG)) u (gk 0) (fun h=>by first|(rw [h];done)|(rw [h];rfl)|(simp [h,wE];done)) (jA 1 u<|zH<|zZ<|vJ wO 66<|
  jrE 0 2 u u<|zQ u u (fun _ k=>k none 0 []) [0] (gq [0]))<|jC<|zC<|xN .s (e := wO) 66 [] ([] : List zG) rN<|fun r_1 p2 c2=>zA 1 u<|wM .s 0 0 u (gk 1) u u<|fun x1 r_2 p3 c3=>zA 1 u<|zB<|zH<|
  zQ u u (fun _ k=>k p3 c3 r_2) [0] (gq [0])
theorem zNI {qd : Prop} {y0 : List zG} : qC qd prog 142 [sv p1 y0 c1] [r_1] [Al wO 66 r_1 p1 c1 y0] (zBy y0) fun r K=>∀ p2 c2 r_2,K (sv p2 r c2) [[], r_2] [Al wO 66 r_2 p2 c2 r] :=
 zY call142 func142 u fun X=>jA 1 u<|zD<|jA 3 u<|zJ u (jA 2 u<|zH<|zZ<|zQ u u (fun _ k=>k p1 c1 r_1) [900,0] (gq [0]))<|jC<|zD<|jA 1 u<|zR<|qR (fun s1 K=>K [0] [] [0] [(3, vi s1)] []) (gv kk [0] (gq [0]))<|fun s1 _ k=>k<|zD<|jA 4 u<|
  zJ u (jC<|zD<|zR<|yA [] [0] 10<|qA 8 [0,1] u<|jdI 2 0 u u u u<|fun x1 h1 b1 hp1=>jdL 3 0 0 sI true yI u u hp1 h1 u<|qA 3 [4,5,6] u<|jdI 7 0 u u u u<|fun x2 h2 b2 hp2=>
  jdL 8 0 0 sI true yI u u hp2 h2 u<|wU 9 (vb (x1 == x2)) u<|wA<|zP<|zJ u (zC<|zA 2 u<|jsV 0 u u u<|fun u1 p2 c2 f1=>zA 1 u<|zB<|
  jjn (fun s2 K=>∀ r_2,K [(0, .slice p1 (List.length y0) c1), (3, vi s2.2)] [r_2] [Ar wO 66 r_2 p1 c1 (List.length y0) s2.1]) (jA 1 u<|zR<|
  qR (fun s3 K=>∀ r_3,K [4] [(0, r_3)] [] [(0, .slice p1 (List.length y0) c1), (3, vi s3.2.1), (5, vi s3.2.2)] [Ar wO 66 r_3 p1 c1 (List.length y0) s3.1]) (gv (fun _ k=>k r_1) [0] (gq [0]))<|fun s3 _ k r_3=>k<|zD<|jA 4 u<|
  zJ u (jC<|zD<|zR<|yA [] [0] 10<|qA 8 [0,1] u<|jdX 2 0 u u f1 u u<|fun x3 b3 hp3 h3=>jdL 3 0 0 sI true yI u u hp3 h3 u<|qA 3 [4,5,6] u<|jdX 7 0 u u f1 u u<|fun x4 b4 hp4 h4=>
  jdL 8 0 0 sI true yI u u hp4 h4 u<|wU 9 (vb (!(x3 == x4))) u<|wA<|zP<|zJ u (zC<|zA 4 u<|jiV 0 u f1 u u<|fun x5 b5 hp5 h5=>jlA 0 0 sI true yI u hp5 h5 u<|tV 0 u u u<|fun x6 h6 b6 hp6=>
  jsA .s 0 0 sI x5 true u hp6 h6 u u (vP vB vS)<|fun r_4=>zB<|jB 3 u<|qF<|zP<|jB 3 u<|qG (gv (fun _ k=>k r_4) [0] (gq [0])))<|wF<|qF<|zP<|jB 3 u<|qG (gv (fun _ k=>k r_3) [0] (gq [0])))<|qO<|qN<|qQ<|qP<|
  zM (gv (fun _ k=>k r_3) [0] (gq [0])))<|fun s2 _ k r_2=>k<|zC<|zA 2 u<|jsV 0 u u u<|fun u2 p3 c3 f2=>jcv .s 0 0 (false, []) (.agg #[vb false, vs []]) u f2 u (vP vB vS)<|fun r_5=>zB<|zC<|zA 2 u<|jsP 0 u u u<|
  fun x7=>zA 1 u<|zB<|zH<|qK<|zZ<|wQ<|qK<|zZ<|zQ u u (fun _ k=>k p1 c1 r_5) [900,0] (gq [0]))<|wF<|qF<|zP<|jB 3 u<|qG (gv kk [0] (gq [0])))<|qO<|qN<|qQ<|qP<|zP<|jA 2 u<|zH<|
  zQ u u (fun _ k=>k p1 c1 r_1) [900,0] (gq [0])
theorem zGn {qd : Prop} {y0 : List zG} : qC qd prog 140 [sv p1 y0 c1, .func (.func 141) #[] #[]] [r_1] [Al wO 66 r_1 p1 c1 y0] (zAR y0) fun r K=>∀ r_2,K (.tuple #[]) [r_2] [Ar wO 66 r_2 p1 c1 (List.length y0) r] := ⟨call140, fun A w0 r hm hO hF => by
 have h := zRO (qd := qd) Go.Proofs.Tryz.sort140 (uH.prod uH.bool uH.str) (te := 66) Tryz.isAgg66 Tryz.sizeOf66 zCR 141 (enters_of func141 (by kernel_rfl) u) (fun w x y n hn => ?_) hO hF.1.1 hm
 · change Calls prog 140 _ _ _ at h
   refine h.mono fun e w' h => ?_
   cases e with
   | returned v => obtain ⟨r', rfl, h1, h2, h3, h4⟩ := h; exact fun G k => k r' ⟨rfl, h1, h2, ⟨h3, h4.symm⟩, trivial⟩
   | panicked ch => exact h
   | outgrown => exact h
 · refine ((zNL (qd := True) (y0 := x) (y1 := y)).go [] w n hn (wC.start (by simp)) trivial).mono fun e w' h => ?_
   cases e with
   | returned v => exact h _ fun ⟨e1, q⟩ => ⟨e1, q.e⟩
   | panicked ch => exact h
   | outgrown => exact h⟩
theorem zOT {qd : Prop} {y0 : List zG} : qC qd prog 61 [sv p1 y0 c1] [] [Rl wO p1 c1 y0] (zDe y0) fun r K=>∀ p2 c2 r_1,K (sv p2 r c2) [r_1] [Al wO 66 r_1 p2 c2 r] :=
 zY call61 func61 u fun X=>jA 1 u<|zC<|zA 1 u<|qI zKH u (cq [0])<|fun r1 _ k p2 c2 r_1=>k<|zA 1 u<|zB<|zC<|zA 1 u<|zX .s [0] [] zGn u u u (cq [0])<|fun r2 _ k r_2=>k<|zB<|zC<|
  zA 1 u<|jrE 0 8 u u<|zX .s [0] [] zNI u u u (cq [0])<|fun r3 _ k p3 c3 r_3=>k<|zA 1 u<|zB<|zH<|zQ u u (fun _ k=>k p3 c3 r_3) [1] (gq [0])
theorem zHH {qd : Prop} {y0 : List zI} {y1 : List Int} : qC qd prog 20 [sv p1 y0 c1, sv p2 y1 c2] [] [Rl vC p1 c1 y0, Rl (zK .i64) p2 c2 y1] (zB9 y0 y1) fun r K=>∀ p3 c3,K (sv p3 r c3) [] [Rl wO p3 c3 r] :=
 zY call20 func20 u fun X=>jA 1 u<|zC<|zA 1 u<|vJ wO 66<|zB<|jjn (fun s1 K=>∀ p3 c3 r_1,K [(5, sv p3 s1 c3)] [r_1] [Al wO 66 r_1 p3 c3 s1]) (jA 3 u<|zR<|
  qR (fun s2 K=>∀ p4 c4 r_2,K [0,8,9] [(0, r_2)] [1,2] [(5, sv p4 s2.1 c4), (10, vi s2.2)] [Al wO 66 r_2 p4 c4 s2.1]) (gv (fun _ k=>k none 0 []) [0] (gq [0,1,2]))<|fun s2 _ k p4 c4 r_2=>k<|jA 1 u<|zD<|zJ u (jC<|zD<|zR<|zC<|
  qX 2 u u u<|fun x1 b1 o1=>qW false oI (gk 0) u<|zA 1 u<|zB<|zC<|zA 2 u<|qI zKV u (cq [2])<|fun r1 _ k=>k<|zB<|zJ u (qM<|zA 3 u<|qX 2 u u u<|fun x2 b2 o2=>zN 3 u<|
  qW true yI (gs (gs (gs (gk 0)))) u<|wT .s (e := wO) 66 [vb x2.2.2.2.1, vs x2.2.2.2.2] ([x2.2.2.2] : List zG) (rC (vP vB vS) rN)<|fun p5 c5=>wM .s 0 3 u (gk 0) u u<|fun x3 r_3 p6 c6=>zA 1 u<|zV<|qF<|zP<|
  jB 2 u<|qG (gv (fun _ k=>k p6 c6 r_3) [0] (gq [0,5,6])))<|wF<|qF<|zP<|jB 2 u<|qG (gv (fun _ k=>k p4 c4 r_2) [0] (gq [1,2,3])))<|qO<|qN<|qQ<|qP<|zM (gv (fun _ k=>k p4 c4 r_2) [0] (gq [0])))<|fun s1 _ k p3 c3 r_1=>k<|zC<|
  zA 1 u<|wY 0 0 u u<|qI zOT u (cq [0])<|fun r2 _ k p7 c7 r_4=>k<|zA 1 u<|zB<|zH<|wY 1 0 u u<|zQ u u (fun _ k=>k p7 c7) [] (gq [0])
theorem zLS {qd : Prop} {y0 : zG} : qC qd prog 83 [.agg #[vb y0.1, vs y0.2]] [] [] (zDk y0) fun r K=>K (.agg #[vb r.1, vs r.2]) [] [] :=
 zY call83 func83 u fun X=>zC<|qV .s u<|fun b1=>wN .s (.agg #[vb false, vs []])<|fun b2=>zB<|zC<|zN 0 u<|zT 0 u u u<|zA 1 u<|zN 0 u<|qJ .s 0 u u u<|zB<|zC<|qS 0 2 u u u<|qJ .s 1 u u u<|zB<|zH<|
  wG u (lC 1 (.agg #[vb (!y0.1), vs y0.2]) u u lN) kk [] d
theorem zUx {qd : Prop} {y0 : zO} {y1 : List zI} {y2 : Int} {y3 : Int} : qC qd prog 128 [.agg (vN y0 p1 c1 p2 c2 p3 c3).toArray, sv p4 y1 c4, vi y2, vi y3] [] (vV y0 p1 c1 p2 c2 p3 c3 [Rl vC p4 c4 y1]) (zK8 y0 y1 y2 y3) fun r K=>∀ p5 c5,K (sv p5 r c5) [] [Rl (zK .i64) p5 c5 r] :=
 zY call128 func128 u fun X=>zC<|qV .s u<|fun b1=>zA 1 u<|zB<|zC<|zA 1 u<|vJ (zK .i64) 3<|zB<|
  wK (fun s1 K=>∀ b2 b3 p5 c5,K [4,9] [(2, bx b2 66 [vb s1.1.1, vs s1.1.2]), (3, bx b3 104 (z1O s1.2 p5 c5))] [0,1,2,3] [(10, pt b2 0), (11, pt b3 0)] (z1P s1.2 p5 c5 [])) (xB [] [] 13<|qA 11 [0,1] u<|
  uJ 2 4 u u u u<|fun x1 b4 o1=>qY 3 3 u u<|uI 4 true yI u (gs (gs (gs (gk 0)))) u<|qA 6 [5,6] u<|uJ 7 5 u u u u<|fun x2 b5 o2=>uI 8 true zVd u (gk 0) u<|fun p6 c6=>jd2 9 10 (
  wN (.f u) (.agg #[vb false, vs []])<|fun b6=>qB<|qH 10<|wN (.f u) (.agg #[vi 0, vi 0, .slice none 0 0, vb false, vs []])<|fun b7=>qB<|qH 11<|qJ (o := 0) (.f u) 2 u u u<|qB<|qH 12<|qJ (o := 0) (.f u) 3 u u u<|
  qB<|wA<|zM (gv (fun _ k=>k b6 b7 p6 c6) [0,1,2,3] (gq [0,3,4,5,6]))) <|wN (.f u) (.agg #[vi 0, vi 0, .slice none 0 0, vb false, vs []])<|fun b8=>qB<|qH 9<|wN (.f u) (.agg #[vb false, vs []])<|fun b9=>qB<|qH 11<|
  qJ (o := 0) (.f u) 3 u u u<|qB<|qH 12<|qJ (o := 0) (.f u) 2 u u u<|qB<|wA<|zM (gv (fun _ k=>k b9 b8 p6 c6) [0,1,3,2] (gq [0,3,4,5,6])))<|fun s1 _ k b2 b3 p5 c5=>k<|yA [] [2, 3] 6<|vM 0 2 2 u u u u<|
  qY 1 3 u u<|vM 2 3 2 u u u u<|qH 3<|zX (.f u) [] [] zLS u u u d<|fun r1 _ k=>k<|qB<|wU 4 (vb (s1.1 == r1)) u<|qA 0 [5] u<|wA<|zP<|zD<|zR<|zC<|zN 0 u<|zT 3 u u u<|zA 2 u<|
  zB<|zJ u (wK (fun s2 K=>K [9] [(0, []), (2, []), (3, [])] [1] [(41, vb s2)] []) (qM<|zA 2 u<|wL 32 u (zN 0 u<|zT 0 u u u<|zN 0 u<|zT 3 u u u<|qX 2 u u u<|fun x3 b10 o3=>zN 2 u<|
  qW false oI (gf (gs (gk 0))) u<|zA 1 u<|zL (vb (x3.2.1 != 1))<|zV<|zM (gv kk [900,1,902,903] (gq [2])))<|zA 8 u<|zL (vb false)<|zV<|zM (gv kk [900,1,902,903] (gq [1])))<|fun s2 _ k=>k<|zJ u (qM<|
  zA 1 u<|wT .s (e := zK .i64) 3 [vi 1] ([1] : List Int) (rC vI rN)<|fun p7 c7=>wM .s 1 1 u (gk 0) u u<|fun x4 r_1 p8 c8=>zA 1 u<|zV<|qF<|zP<|jA 2 u<|zH<|wY 1 0 u u<|zQ u u (fun _ k=>k p8 c8) [] (gq [0]))<|
  wF<|qF<|zP<|jA 2 u<|zH<|wY 1 0 u u<|zQ u u (fun _ k=>k none 0) [] (gq [0]))<|zC<|zN 1 u<|zT 0 u u u<|zN 1 u<|zT 3 u u u<|qX 3 u u u<|fun x5 b11 o4=>zN 1 u<|qW false oB (gf (gs (gk 0))) u<|
  zA 2 u<|zB<|zJ u (wK (fun s3 K=>∀ p9 c9 r_2,K [4,10,11] [(1, r_2)] [3,4,5,1] [(9, sv p9 s3 c9)] [Al (zK .i64) 3 r_2 p9 c9 s3]) (jA 1 u<|zJ u (qM<|zA 1 u<|wT .s (e := zK .i64) 3 [vi 2] ([2] : List Int) (rC vI rN)<|
  fun p10 c10=>wM .s 1 3 u (gk 0) u u<|fun x6 r_3 p11 c11=>zA 1 u<|zV<|zM (gv (fun _ k=>k p11 c11 r_3) [0,1,2,3] (gq [0,5,6,7,3])))<|wF<|zM (gv (fun _ k=>k none 0 []) [0,1,2,3] (gq [2,3,4,5,1])))<|fun s3 _ k p9 c9 r_2=>k<|
  wK (fun s4 K=>K [9] [(0, []), (2, []), (3, [])] [0] [(71, vb s4)] []) (xB [] [0, 2, 3] 14<|qY 0 0 u u<|wI 1 2 u u u u<|qA 11 [2] u<|wL 60 u (qY 3 1 u u<|wI 4 2 u u u u<|qY 5 1 u u<|
  wI 6 0 u u u u<|qY 7 1 u u<|wI 8 3 u u u u<|uJ 9 2 u u u u<|fun x7 b12 o5=>qY 10 0 u u<|uI 11 false oS u (gf (gk 0)) u<|qA 1 [12] u<|wU 13 (vb (s1.1.2 == x7.1)) u<|wA<|
  zM (gv kk [900,1,902,903] (gq [1])))<|qA 1 [3,4,5,6,7,8,9,10,11,12] u<|wU 13 (vb false) u<|wA<|zM (gv kk [900,1,902,903] (gq [0])))<|fun s4 _ k=>k<|zJ u (qM<|zA 1 u<|
  wT .s (e := zK .i64) 3 [vi 3] ([3] : List Int) (rC vI rN)<|fun p12 c12=>wM .s 1 1 u (gk 0) u u<|fun x8 r_4 p13 c13=>zA 1 u<|zV<|qF<|zP<|jA 2 u<|zH<|wY 1 0 u u<|zQ u u (fun _ k=>k p13 c13) [] (gq [0]))<|wF<|
  qF<|zP<|jA 2 u<|zH<|wY 1 0 u u<|zQ u u (fun _ k=>k p9 c9) [] (gq [0]))<|wF<|qF<|zP<|jA 2 u<|zH<|wY 1 2 u u<|zQ u u (fun _ k=>k none 0) [] (gq [0])
theorem zPS {qd : Prop} {y0 : Int} : qC qd prog 126 [vi y0] [] [] (zHd y0) fun r K=>K (vb r) [] [] :=
 zY call126 func126 u fun X=>jA 1 u<|jA 4 u<|zH<|zQ u u kk [] d
theorem zCi {qd : Prop} {y0 : Int} {y1 : Int} : qC qd prog 54 [vi y0, vi y1] [] [] (zBf y0 y1) fun r K=>K (vi r) [] [] :=
 zY call54 func54 u fun X=>jA 1 u<|zC<|zA 1 u<|qI zPS u d<|fun r1 _ k=>k<|zA 1 u<|zB<|zC<|zA 1 u<|qI zPS u d<|fun r2 _ k=>k<|zA 1 u<|zB<|zD<|jA 1 u<|zJ u (zD<|jA 1 u<|zJ u (jA 1 u<|zH<|zZ<|zZ<|
  zQ u u kk [] d)<|jC<|jA 1 u<|zH<|zZ<|zQ u u kk [] d)<|jC<|zD<|jA 1 u<|zJ u (jA 1 u<|zH<|zZ<|zQ u u kk [] d)<|jC<|zD<|jA 3 u<|zJ u (jA 1 u<|zH<|zZ<|
  zQ u u kk [] d)<|jC<|zD<|jA 3 u<|zJ u (jA 1 u<|zH<|zZ<|zQ u u kk [] d)<|jC<|jA 1 u<|zH<|zQ u u kk [] d
theorem zOn {qd : Prop} {y0 : List Int} : qC qd prog 53 [sv p1 y0 c1] [] [Rl (zK .i64) p1 c1 y0] (zHc y0) fun r K=>K (vi r) [] [] :=
 zY call53 func53 u fun X=>jA 1 u<|jA 1 u<|zD<|jA 3 u<|zR<|qR (fun s1 K=>K [3,6,7] [] [0] [(8, vi s1)] []) (gv kk [] (gq [0]))<|fun s1 _ k=>k<|jA 1 u<|zD<|zJ u (jC<|zD<|zR<|zC<|qX 0 u u u<|fun x1 b1 o1=>qW false oI (gk 0) u<|
  zA 1 u<|zB<|jA 3 u<|zJ u (jA 2 u<|zH<|qK<|zZ<|wQ<|qK<|zZ<|zQ u u kk [] d)<|wF<|qF<|zP<|jB 2 u<|qG (gv kk [] (gq [1])))<|qO<|qN<|qQ<|qP<|zP<|jA 2 u<|zH<|zQ u u kk [] d
theorem zRb {qd : Prop} {y0 : wV} {y1 : wV} : qC qd prog 130 [.agg #[vi y0.1, vi y0.2.1, vi y0.2.2.1, vi y0.2.2.2], .agg #[vi y1.1, vi y1.2.1, vi y1.2.2.1, vi y1.2.2.2]] [] [] (zD5 y0 y1) fun r K=>K (vi r) [] [] :=
 zY call130 func130 u fun X=>zC<|qV .s u<|fun b1=>qV .s u<|fun b2=>zA 1 u<|zB<|yA [] [0, 1] 23<|qY 0 0 u u<|wI 1 0 u u u u<|qY 2 0 u u<|wI 3 1 u u u u<|qY 5 1 u u<|wI 6 0 u u u u<|qY 7 1 u u<|
  wI 8 1 u u u u<|qY 10 2 u u<|wI 11 0 u u u u<|qY 12 2 u u<|wI 13 1 u u u u<|qY 15 3 u u<|wI 16 0 u u u u<|qY 17 3 u u<|wI 18 1 u u u u<|qH 4<|
  zX (.f u) [] [] zCi u u u d<|fun r1 _ k=>k<|qB<|qH 9<|zX (.f u) [] [] zCi u u u d<|fun r2 _ k=>k<|qB<|qH 14<|zX (.f u) [] [] zCi u u u d<|fun r3 _ k=>k<|qB<|
  qH 19<|zX (.f u) [] [] zCi u u u d<|fun r4 _ k=>k<|qB<|qH 20<|wT (.f u) (e := zK .i64) 3 [vi r1, vi r2, vi r3, vi r4] ([r1, r2, r3, r4] : List Int) (rC vI (rC vI (rC vI (rC vI rN))))<|fun p1 c1=>qB<|qH 21<|
  zX (.f u) [] [] zOn u u u (cq [0])<|fun r5 _ k=>k<|qB<|qA 0 [22] u<|wA<|zP<|zH<|zQ u u kk [] d
theorem zGg {qd : Prop} {y0 : List wV} : qC qd prog 129 [sv p1 y0 c1, .func (.func 130) #[] #[]] [r_1] [Al zDU 120 r_1 p1 c1 y0] (zAc y0) fun r K=>∀ r_2,K (.tuple #[]) [r_2] [Ar zDU 120 r_2 p1 c1 (List.length y0) r] := ⟨call129, fun A w0 r hm hO hF => by
 have h := zRO (qd := qd) Go.Proofs.Tryz.sort129 (uH.prod (uH.int .i64) (uH.prod (uH.int .i64) (uH.prod (uH.int .i64) (uH.int .i64)))) (te := 120) Tryz.isAgg120 Tryz.sizeOf120 zD5 130 (enters_of func130 (by kernel_rfl) u) (fun w x y n hn => ?_) hO hF.1.1 hm
 · change Calls prog 129 _ _ _ at h
   refine h.mono fun e w' h => ?_
   cases e with
   | returned v => obtain ⟨r', rfl, h1, h2, h3, h4⟩ := h; exact fun G k => k r' ⟨rfl, h1, h2, ⟨h3, h4.symm⟩, trivial⟩
   | panicked ch => exact h
   | outgrown => exact h
 · refine ((zRb (qd := True) (y0 := x) (y1 := y)).go [] w n hn (wC.start (by simp)) trivial).mono fun e w' h => ?_
   cases e with
   | returned v => exact h _ fun ⟨e1, q⟩ => ⟨e1, q.e⟩
   | panicked ch => exact h
   | outgrown => exact h⟩
theorem zTI {qd : Prop} {y0 : zO} {y1 : List zI} : qC qd prog 57 [.agg (vN y0 p1 c1 p2 c2 p3 c3).toArray, sv p4 y1 c4] [] (vV y0 p1 c1 p2 c2 p3 c3 [Rl vC p4 c4 y1]) (zE3 y0 y1) fun r K=>∀ p5 c5 r_1,K (sv p5 r c5) [r_1] [Al zDU 120 r_1 p5 c5 r] :=
 zY call57 func57 u fun X=>zC<|qV .s u<|fun b1=>zA 1 u<|zB<|zC<|zA 1 u<|vJ zDU 120<|zB<|jjn (fun s1 K=>∀ p5 c5 r_1,K [(5, sv p5 s1 c5)] [[], r_1] [Al zDU 120 r_1 p5 c5 s1]) (jA 3 u<|zR<|
  qR (fun s2 K=>∀ p6 c6 r_2,K [1,2,13] [(1, r_2)] [4,1,2,3] [(5, sv p6 s2.1 c6), (14, vi s2.2)] [Al zDU 120 r_2 p6 c6 s2.1]) (gv (fun _ k=>k none 0 []) [0,1] (gq [0,4,1,2,3]))<|fun s2 _ k p6 c6 r_2=>k<|jA 1 u<|zD<|zJ u (jC<|zD<|
  zR<|jA 2 u<|jA 3 u<|zR<|qR (fun s3 K=>∀ p7 c7 r_3,K [1,2,6,13,14,18] [(1, r_3)] [1,2,3,4] [(5, sv p7 s3.1 c7), (19, vi s3.2)] [Al zDU 120 r_3 p7 c7 s3.1]) (gv (fun _ k=>k p6 c6 r_2) [0,1] (gq [0,1,2,3,4]))<|
  fun s3 _ k p7 c7 r_3=>k<|jA 1 u<|zD<|zJ u (jC<|zD<|zR<|jA 2 u<|zC<|qS 0 3 u u u<|zA 3 u<|qI zUx u (cq [2,3,4,1])<|fun r1 _ k p8 c8=>k<|zA 1 u<|zB<|zD<|jA 3 u<|zJ u (qO<|qN<|qP<|zP<|jB 2 u<|
  qG (gv (fun _ k=>k p7 c7 r_3) [0,1] (gq [1,2,3,4,5])))<|jC<|jA 3 u<|zR<|
  qR (fun s4 K=>∀ p9 c9 r_4,K [1,2,6,7,8,13,14,18,19,31] [(1, r_4)] [2,0,3,4,5] [(5, sv p9 s4.1 c9), (32, vi s4.2)] [Al zDU 120 r_4 p9 c9 s4.1]) (gv (fun _ k=>k p7 c7 r_3) [0,1] (gq [1,2,0,3,4,5]))<|fun s4 _ k p9 c9 r_4=>k<|jA 1 u<|
  zD<|zJ u (jC<|zD<|zR<|jA 2 u<|zD<|zC<|zA 2 u<|qI zJk u (cq [1])<|fun r2 _ k p10 c10=>k<|zA 1 u<|qI zCg u (cq [0])<|fun r3 _ k=>k<|zA 1 u<|zB<|zJ u (qO<|qN<|qP<|zP<|jB 2 u<|
  qG (gv (fun _ k=>k p9 c9 r_4) [0,1] (gq [1,2,3,4,5,6])))<|jC<|jA 3 u<|zR<|
  qR (fun s5 K=>∀ p11 c11 r_5,K [1,2,6,7,8,9,13,14,18,19,31,32,41,42] [(1, r_5)] [2,3,4,5,6] [(5, sv p11 s5.1 c11), (43, vi s5.2)] [Al zDU 120 r_5 p11 c11 s5.1]) (gv (fun _ k=>k p9 c9 r_4) [0,1] (gq [1,2,3,4,5,6]))<|
  fun s5 _ k p11 c11 r_5=>k<|jA 1 u<|zD<|zJ u (jC<|zD<|zR<|zC<|qX 2 u u u<|fun x1 b2 o1=>qW false oI (gk 0) u<|zA 1 u<|zB<|qM<|zA 5 u<|zL (.agg #[vi s3.2, vi s4.2, vi s2.2, vi x1])<|
  wT .s (e := zDU) 120 [vi s3.2, vi s4.2, vi s2.2, vi x1] ([(s3.2, s4.2, s2.2, x1)] : List wV) (rC (vP vI (vP vI (vP vI vI))) rN)<|fun p12 c12=>wM .s 1 2 u (gk 0) u u<|fun x2 r_6 p13 c13=>zA 1 u<|zV<|qF<|zP<|
  jB 2 u<|qG (gv (fun _ k=>k p13 c13 r_6) [0,1] (gq [0,4,5,6,7,8])))<|qO<|qN<|qQ<|qP<|qF<|zP<|jB 2 u<|qG (gv (fun _ k=>k p11 c11 r_5) [0,1] (gq [0,1,2,3,4,5])))<|qO<|qN<|qQ<|qP<|qF<|zP<|jB 2 u<|
  qG (gv (fun _ k=>k p9 c9 r_4) [0,1] (gq [0,1,3,4,5])))<|qO<|qN<|qQ<|qP<|qF<|zP<|jB 2 u<|qG (gv (fun _ k=>k p7 c7 r_3) [0,1] (gq [0,1,2,3,4])))<|qO<|qN<|qQ<|qP<|zM (gv (fun _ k=>k p6 c6 r_2) [900,1] (gq [0])))<|
  fun s1 _ k p5 c5 r_1=>k<|zC<|zA 1 u<|zX .s [1] [] zGg u u u (cq [0])<|fun r4 _ k r_7=>k<|zB<|jA 2 u<|zH<|jrE 0 4 u u<|zQ u u (fun _ k=>k p5 c5 r_7) [1] (gq [0])
theorem zLo {qd : Prop} {y0 : List zI} {y1 : Int} : qC qd prog 205 [sv p1 y0 c1, vi y1] [] [Rl vC p1 c1 y0] (zCe y0 y1) fun r K=>∀ p2 c2,K (sv p2 r c2) [] [Rl (zK .i64) p2 c2 r] :=
 zY call205 func205 u fun X=>jA 1 u<|zC<|zA 1 u<|vJ (zK .i64) 3<|zB<|jjn (fun s1 K=>∀ p2 c2 r_1,K [(5, sv p2 s1 c2)] [r_1] [Al (zK .i64) 3 r_1 p2 c2 s1]) (zC<|zA 2 u<|qI zJk u (cq [1])<|fun r1 _ k p3 c3=>k<|zA 2 u<|zB<|zR<|
  qR (fun s2 K=>∀ p4 c4 r_2,K [0,10,11] [(0, r_2)] [2,0] [(5, sv p4 s2.1 c4), (12, vi s2.2)] [Al (zK .i64) 3 r_2 p4 c4 s2.1]) (gv (fun _ k=>k none 0 []) [0] (gq [1,2,0]))<|fun s2 _ k p4 c4 r_2=>k<|jA 1 u<|zD<|zJ u (jC<|zD<|zR<|
  zC<|qX 2 u u u<|fun x1 b1 o1=>qW false oI (gk 0) u<|zA 1 u<|zB<|zC<|zA 2 u<|qX 2 u u u<|fun x2 b2 o2=>zN 0 u<|qW false oI (gf (gk 0)) u<|zA 1 u<|zB<|zJ u (qM<|zA 3 u<|qX 3 u u u<|
  fun x3 b3 o3=>zN 0 u<|qW false oI (gf (gk 0)) u<|wT .s (e := zK .i64) 3 [vi x3.1] ([x3.1] : List Int) (rC vI rN)<|fun p5 c5=>wM .s 0 4 u (gk 0) u u<|fun x4 r_3 p6 c6=>zA 1 u<|zV<|qF<|zP<|jB 2 u<|
  qG (gv (fun _ k=>k p6 c6 r_3) [0] (gq [0,6,7])))<|wF<|qF<|zP<|jB 2 u<|qG (gv (fun _ k=>k p4 c4 r_2) [0] (gq [2,3,4])))<|qO<|qN<|qQ<|qP<|zM (gv (fun _ k=>k p4 c4 r_2) [0] (gq [0])))<|fun s1 _ k p2 c2 r_1=>k<|zC<|zA 1 u<|
  zX .s [0] [] zF1 u u u (cq [0])<|fun r2 _ k r_4=>k<|zB<|jA 2 u<|zH<|wY 0 0 u u<|jre 0 4 u u<|zQ u u (fun _ k=>k p2 c2) [] (gq [0])
theorem zTZ {qd : Prop} {y0 : Int} {y1 : zO} : vU qd prog 206 [vi y0, pt b1 0] [bx b1 29 (vN y1 p1 c1 p2 c2 p3 c3)] (vV y1 p1 c1 p2 c2 p3 c3 []) (zIt y0 y1) fun L r K=>K (vb r) L [] :=
 zY call206 func206 u fun X=>jA 1 u<|zC<|zN 0 u<|zT 0 u u u<|zA 1 u<|qX 0 u u u<|fun x1 b2 o1=>zN 2 u<|qW false oI (gf (gs (gk 0))) u<|zA 2 u<|zB<|zH<|zQ u u kk [0] d
theorem zIF {qd : Prop} {y0 : List Int} {y1 : zO} : vU qd prog 191 [sv p1 y0 c1, .func (.func 206) #[] #[pt b1 0]] [bx b1 29 (vN y1 p2 c2 p3 c3 p4 c4)] (Rl (zK .i64) p1 c1 y0 :: (vV y1 p2 c2 p3 c3 p4 c4 [])) (zBA y0 y1) fun L r K=>K (vi r) L [] :=
 zY call191 func191 u fun X=>jA 1 u<|zD<|jA 3 u<|zR<|qR (fun s1 K=>K [0,1,7] [] [0,1,2,3] [(8, vi s1)] []) (gv kk [0] (gq [0,1,2,3]))<|fun s1 _ k=>k<|jA 1 u<|zD<|zJ u (jC<|zD<|zR<|jA 2 u<|zC<|zA 3 u<|qX 0 u u u<|fun x1 b2 o1=>
  qW false oI (gk 0) u<|zX .s [0] [] zTZ u u u (cq [2,3,4])<|fun r1 _ k=>k<|zB<|zJ u (jA 2 u<|zH<|qK<|zZ<|wQ<|qK<|zZ<|zQ u u kk [0] d)<|wF<|qF<|zP<|jB 2 u<|
  qG (gv kk [0] (gq [1,2,3,4])))<|qO<|qN<|qQ<|qP<|zP<|jA 1 u<|zH<|zQ u u kk [0] d
theorem zHL {qd : Prop} {y0 : List Int} {y1 : zO} : vU qd prog 121 [sv p1 y0 c1, .func (.func 206) #[] #[pt b1 0]] [bx b1 29 (vN y1 p2 c2 p3 c3 p4 c4)] (Rl (zK .i64) p1 c1 y0 :: (vV y1 p2 c2 p3 c3 p4 c4 [])) (zAn y0 y1) fun L r K=>K (vb r) L [] :=
 zY call121 func121 u fun X=>jA 1 u<|zC<|zA 2 u<|zX .s [0] [] zIF u u u (cq [0,1,2,3])<|fun r1 _ k=>k<|zA 2 u<|zB<|zH<|zQ u u kk [0] d
theorem zVP {qd : Prop} {y0 : zO} {y1 : List zI} {y2 : Int} : qC qd prog 131 [.agg (vN y0 p1 c1 p2 c2 p3 c3).toArray, sv p4 y1 c4, vi y2] [] (vV y0 p1 c1 p2 c2 p3 c3 [Rl vC p4 c4 y1]) (zHC y0 y1 y2) fun r K=>K (vb r) [] [] :=
 zY call131 func131 u fun X=>zC<|qV .s u<|fun b1=>zA 1 u<|zB<|zC<|zA 2 u<|qI zLo u (cq [3])<|fun r1 _ k p5 c5=>k<|zA 1 u<|zX .s [0] [] zHL u u u (cq [0,1,2,3])<|fun r2 _ k=>k<|zA 1 u<|
  zB<|zH<|zQ u u kk [] d
theorem zQl {qd : Prop} (k : Nat) :
    (∀ {y0 : zO} {p1 : Option Addr} {c1 : Nat} {p2 : Option Addr} {c2 : Nat} {p3 : Option Addr} {c3 : Nat} {y1 : List zI} {p4 : Option Addr} {c4 : Nat} {y2 : Int}, qC qd prog 210 [.agg (vN y0 p1 c1 p2 c2 p3 c3).toArray, sv p4 y1 c4, vi y2] [] (vV y0 p1 c1 p2 c2 p3 c3 [Rl vC p4 c4 y1]) (zDO k y0 y1 y2) fun r K=>∀ p5 c5,K (sv p5 r c5) [] [Rl (zK .i64) p5 c5 r]) := by
  induction k with
  | zero => exact z42 call210
  | succ k ih =>
    have ih_argument_Last := @ih
    exact @fun y0 p1 c1 p2 c2 p3 c3 y1 p4 c4 y2=>zY (m1 := zFp (zDO k) y0 y1 y2) call210 func210 u fun X=>zC<|qV .s u<|fun b1=>zA 1 u<|zB<|zD<|wK (fun s1 K=>K [1,2,3] [] [3,0,1,2] [(21, vb s1)] []) (qM<|zA 2 u<|qI zKV u (cq [3])<|fun r1 _ k=>k<|zA 2 u<|wL 14 u (zA 6 u<|zL (vb true)<|zV<|
  zM (gv kk [0] (gq [3,0,1,2])))<|zA 2 u<|qX 3 u u u<|fun x1 b2 o1=>zN 1 u<|qW false oI (gf (gs (gk 0))) u<|zA 1 u<|zL (vb (decide (x1.2.1 < 0)))<|zV<|zM (gv kk [0] (gq [4,1,2,3])))<|fun s1 _ k=>k<|
  zJ u (jA 1 u<|zH<|zZ<|zQ u u (fun _ k=>k none 0) [] ⟨gn,d⟩)<|jC<|zD<|yA [] [0] 11<|qY 0 1 u u<|wI 1 0 u u u u<|qA 7 [2,3] u<|uJ 4 0 u u u u<|fun x2 b3 o2=>qY 5 1 u u<|
  uI 6 false oI u (gf (gs (gk 0))) u<|uJ 7 3 u u u u<|fun x3 b4 o3=>qY 8 1 u u<|uI 9 false oB u (gf (gs (gk 0))) u<|qA 0 [10] u<|wA<|zP<|zJ u (zC<|zA 2 u<|qX 2 u u u<|fun x4 b5 o4=>zN 1 u<|
  qW false oI (gf (gs (gk 0))) u<|wT .s (e := zK .i64) 3 [vi x4.2.1] ([x4.2.1] : List Int) (rC vI rN)<|fun p5 c5=>zA 1 u<|zB<|zH<|zZ<|zQ u u (fun _ k=>k p5 c5) [] (gq [0]))<|jC<|zC<|zA 1 u<|vJ (zK .i64) 3<|zB<|
  jjn (fun s2 K=>∀ p6 c6 r_1,K [(7, sv p6 s2 c6)] [[], r_1] [Al (zK .i64) 3 r_1 p6 c6 s2]) (zC<|zA 2 u<|qX 3 u u u<|fun x5 b6 o5=>zN 2 u<|qW false oL (gf (gs (gs (gk 0)))) u<|fun p7 c7=>zA 2 u<|zB<|zR<|
  qR (fun s3 K=>∀ p8 c8 r_2,K [1,3,43,44] [(1, r_2)] [5,0,6,7,8] [(7, sv p8 s3.1 c8), (45, vi s3.2)] [Al (zK .i64) 3 r_2 p8 c8 s3.1]) (gv (fun _ k=>k none 0 []) [0,1] (gq [2,5,0,6,7,8]))<|fun s3 _ k p8 c8 r_2=>k<|jA 1 u<|zD<|zJ u (
  jC<|zD<|zR<|zC<|qX 2 u u u<|fun x6 b7 o6=>qW false oI (gk 0) u<|zA 1 u<|zB<|qM<|zA 1 u<|qS 0 3 u u u<|zA 2 u<|qI ih_argument_Last u (cq [4,5,6,2])<|fun r2 _ k p9 c9=>k<|wM .s 1 2 u (gk 0) u u<|
  fun x7 r_3 p10 c10=>zA 1 u<|zV<|qF<|zP<|jB 2 u<|qG (gv (fun _ k=>k p10 c10 r_3) [0,1] (gq [0,4,5,6,7,8])))<|qO<|qN<|qQ<|qP<|zM (gv (fun _ k=>k p8 c8 r_2) [900,1] (gq [0])))<|fun s2 _ k p6 c6 r_1=>k<|zC<|zA 1 u<|
  zX .s [1] [] zF1 u u u (cq [0])<|fun r3 _ k r_4=>k<|zB<|zC<|zA 1 u<|jrE 0 58 u u<|zX .s [1] [] zFV u u u (cq [0])<|fun r4 _ k p11 c11=>k<|zA 1 u<|zB<|zH<|
  zQ u u (fun _ k=>k p11 c11) [] (gq [0])
theorem zUB {qd : Prop} {y0 : zO} {y1 : List zI} {y2 : Int} : qC qd prog 210 [.agg (vN y0 p1 c1 p2 c2 p3 c3).toArray, sv p4 y1 c4, vi y2] [] (vV y0 p1 c1 p2 c2 p3 c3 [Rl vC p4 c4 y1]) (zHp y0 y1 y2) fun r K=>∀ p5 c5,K (sv p5 r c5) [] [Rl (zK .i64) p5 c5 r] := zRo fun k => (zQl k)
theorem zSo {qd : Prop} {y0 : zO} {y1 : List Int} : qC qd prog 209 [.agg (vN y0 p1 c1 p2 c2 p3 c3).toArray, sv p4 y1 c4] [] (vV y0 p1 c1 p2 c2 p3 c3 [Rl (zK .i64) p4 c4 y1]) (zJH y0 y1) fun r K=>∀ p5 c5,K (sv p5 r c5) [] [Rl (zK .i64) p5 c5 r] :=
 zY call209 func209 u fun X=>zC<|qV .s u<|fun b1=>zA 1 u<|zB<|zC<|zA 1 u<|vJ (zK .i64) 3<|zB<|zD<|jA 3 u<|zR<|
  qR (fun s1 K=>∀ p5 c5 r_1,K [2,8,9] [(1, r_1)] [4,1,2,3] [(5, sv p5 s1.1 c5), (10, vi s1.2)] [Al (zK .i64) 3 r_1 p5 c5 s1.1]) (gv (fun _ k=>k none 0 []) [0,1] (gq [0,4,1,2,3]))<|fun s1 _ k p5 c5 r_1=>k<|jA 1 u<|zD<|zJ u (jC<|zD<|
  zR<|zC<|qX 1 u u u<|fun x1 b2 o1=>qW false oI (gk 0) u<|zA 1 u<|zB<|qM<|zA 1 u<|zN 1 u<|zT 0 u u u<|zA 1 u<|qX 4 u u u<|fun x2 b3 o2=>zN 2 u<|qW false oI (gf (gs (gs (gk 0)))) u<|
  wT .s (e := zK .i64) 3 [vi x2.2.2.1] ([x2.2.2.1] : List Int) (rC vI rN)<|fun p6 c6=>wM .s 1 3 u (gk 0) u u<|fun x3 r_2 p7 c7=>zA 1 u<|zV<|qF<|zP<|jB 2 u<|qG (gv (fun _ k=>k p7 c7 r_2) [0,1] (gq [0,5,6,7,8])))<|qO<|qN<|
  qQ<|qP<|zP<|jA 2 u<|zH<|wY 1 0 u u<|zQ u u (fun _ k=>k p5 c5) [] (gq [0])
theorem zIl {qd : Prop} {y0 : zO} {y1 : List zI} {y2 : Int} : qC qd prog 136 [.agg (vN y0 p1 c1 p2 c2 p3 c3).toArray, sv p4 y1 c4, vi y2] [] (vV y0 p1 c1 p2 c2 p3 c3 [Rl vC p4 c4 y1]) (zC8 y0 y1 y2) fun r K=>∀ p5 c5,K (sv p5 r c5) [] [Rl (zK .i64) p5 c5 r] :=
 zY call136 func136 u fun X=>zC<|qV .s u<|fun b1=>zA 1 u<|zB<|yA [] [0] 7<|vM 0 0 3 u u u u<|vM 1 0 3 u u u u<|qA 3 [2,3] u<|qH 4<|zX (.f u) [] [] zUB u u u (cq [0,1,2,3])<|fun r1 _ k p5 c5=>k<|qB<|qH 5<|
  zX (.f u) [] [] zSo u u u (cq [1,2,3,0])<|fun r2 _ k p6 c6=>k<|qB<|qA 0 [6] u<|wA<|zP<|zH<|zQ u u (fun _ k=>k p6 c6) [] (gq [0])
theorem zOV {qd : Prop} {y0 : List Int} : qC qd prog 208 [sv p1 y0 c1] [] [Rl (zK .i64) p1 c1 y0] (zDi y0) fun r K=>K (vi r) [] [] :=
 zY call208 func208 u fun X=>jA 1 u<|wK (fun s1 K=>K [0] [] [0] [] []) (jA 3 u<|zJ u (qM<|jno)<|wF<|zM (gv kk [] (gq [0])))<|fun s1 _ k=>k<|zC<|zA 1 u<|qX 0 u u u<|fun x1 b1 o1=>qW false oI (gk 0) u<|zA 1 u<|zB<|zD<|jA 1 u<|
  zR<|qR (fun s2 K=>K [0] [] [1] [(3, vi s2.1), (4, vi s2.2)] []) (gv kk [] (gq [1]))<|fun s2 _ k=>k<|zD<|jA 4 u<|zJ u (jC<|zD<|zR<|qM<|zA 3 u<|qX 0 u u u<|fun x2 b2 o2=>qW false oI (gk 0) u<|zA 2 u<|
  zV<|qF<|zP<|jB 3 u<|qG (gv kk [] (gq [1])))<|qO<|qN<|qQ<|qP<|zP<|jA 2 u<|zH<|zQ u u kk [] d
theorem zOY {qd : Prop} {y0 : List Int} : qC qd prog 207 [sv p1 y0 c1] [] [Rl (zK .i64) p1 c1 y0] (zDc y0) fun r K=>K (vi r) [] [] :=
 zY call207 func207 u fun X=>jA 1 u<|wK (fun s1 K=>K [0] [] [0] [] []) (jA 3 u<|zJ u (qM<|jno)<|wF<|zM (gv kk [] (gq [0])))<|fun s1 _ k=>k<|zC<|zA 1 u<|qX 0 u u u<|fun x1 b1 o1=>qW false oI (gk 0) u<|zA 1 u<|zB<|zD<|jA 1 u<|
  zR<|qR (fun s2 K=>K [0] [] [1] [(3, vi s2.1), (4, vi s2.2)] []) (gv kk [] (gq [1]))<|fun s2 _ k=>k<|zD<|jA 4 u<|zJ u (jC<|zD<|zR<|qM<|zA 3 u<|qX 0 u u u<|fun x2 b2 o2=>qW false oI (gk 0) u<|zA 2 u<|
  zV<|qF<|zP<|jB 3 u<|qG (gv kk [] (gq [1])))<|qO<|qN<|qQ<|qP<|zP<|jA 2 u<|zH<|zQ u u kk [] d
theorem zMn {qd : Prop} {y0 : List Int} {y1 : List Int} {y2 : Int} : qC qd prog 133 [sv p1 y0 c1, sv p2 y1 c2, vi y2] [] [Rl (zK .i64) p1 c1 y0, Rl (zK .i64) p2 c2 y1] (zDs y0 y1 y2) fun r K=>K (vb r) [] [] :=
 zY call133 func133 u fun X=>jA 1 u<|zD<|tK (fun K=>K [0,1,2] [] [0,1] [(17, vb (if y2 != 1 then (y2 != 2) || ((len y0) == 0) else (len y0) == 0))] []) (qM<|zA 3 u<|uF (b := y2 != 1) 9 u (fun hb1=>zA 2 u<|zL (vb (y2 != 2))<|zA 1 u<|
  uF (b := y2 != 2) 13 u (fun hb2=>zA 3 u<|zL (vb true)<|zV<|wX 17 (vb (if y2 != 1 then (y2 != 2) || ((len y0) == 0) else (len y0) == 0)) u (by rw [hb1,hb2]; rfl)<|zM (gv kk [] (gq [0,1])))<|fun hb2=>zA 3 u<|
  zL (vb ((len y0) == 0))<|zV<|wX 17 (vb (if y2 != 1 then (y2 != 2) || ((len y0) == 0) else (len y0) == 0)) u (by rw [hb1,hb2]; rfl)<|zM (gv kk [] (gq [0,1])))<|fun hb1=>zA 2 u<|zL (vb false)<|zA 4 u<|
  zL (vb ((len y0) == 0))<|zV<|wX 17 (vb (if y2 != 1 then (y2 != 2) || ((len y0) == 0) else (len y0) == 0)) u (by rw [hb1]; rfl)<|zM (gv kk [] (gq [0,1])))<|fun _ k=>k<|zJ u (jA 1 u<|zH<|zZ<|
  zQ u u kk [] d)<|jC<|zD<|zR<|jA 4 u<|zJ u (jA 1 u<|zH<|qK<|zZ<|zQ u u kk [] d)<|jA 3 u<|zJ u (zC<|zA 1 u<|qI zOY u (cq [0])<|fun r1 _ k=>k<|zA 1 u<|
  qI zOY u (cq [1])<|fun r2 _ k=>k<|zA 2 u<|zB<|zH<|qK<|zZ<|zQ u u kk [] d)<|wF<|qF<|zP<|zC<|zA 1 u<|qI zOV u (cq [0])<|fun r3 _ k=>k<|zA 1 u<|
  qI zOV u (cq [1])<|fun r4 _ k=>k<|zA 2 u<|zB<|zH<|zQ u u kk [] d
theorem zLB {qd : Prop} {y0 : zO} {y1 : List zI} {y2 : Int} {y3 : Int} {y4 : yN} : vU qd prog 132 [.func (.func 136) #[] #[], pt b1 0, pt b2 0, pt b3 0, pt b4 0, pt b5 0] [bx b1 29 (vN y0 p1 c1 p2 c2 p3 c3), bx b2 37 [sv p4 y1 c4], bx b3 3 [vi y2], bx b4 3 [vi y3], bx b5 36 [vi y4.1, vi y4.2]] (vV y0 p1 c1 p2 c2 p3 c3 [Rl vC p4 c4 y1]) (zB0 y0 y1 y2 y3 y4) fun L r K=>K (vb r) L [] :=
 zY call132 func132 u fun X=>jA 1 u<|yA [] [0, 1, 2, 3, 4] 14<|qA 13 [0] u<|vM 1 0 3 u u u u<|wI 2 1 u u u u<|wI 3 2 u u u u<|qA 9 [5] u<|vM 6 0 3 u u u u<|wI 7 1 u u u u<|wI 8 3 u u u u<|qY 10 1 u u<|
  wI 11 4 u u u u<|qH 4<|zX (.f u) [] [] zIl u u u (cq [0,1,2,3])<|fun r1 _ k p5 c5=>k<|qB<|qH 9<|zX (.f u) [] [] zIl u u u (cq [1,2,3,4])<|fun r2 _ k p6 c6=>k<|qB<|qH 12<|
  zX (.f u) [] [] zMn u u u (cq [1,0])<|fun r3 _ k=>k<|qB<|qA 0 [13] u<|wA<|zP<|zH<|zQ u u kk [0,1,2,3,4] d
theorem zGN {qd : Prop} {y0 : zO} {y1 : List zI} {y2 : Int} : qC qd prog 137 [.agg (vN y0 p1 c1 p2 c2 p3 c3).toArray, sv p4 y1 c4, vi y2] [] (vV y0 p1 c1 p2 c2 p3 c3 [Rl vC p4 c4 y1]) (zBl y0 y1 y2) fun r K=>∀ p5 c5,K (sv p5 r c5) [] [Rl (zK .i64) p5 c5 r] :=
 zY call137 func137 u fun X=>zC<|qV .s u<|fun b1=>zA 1 u<|zB<|zC<|zA 1 u<|vJ (zK .i64) 3<|zB<|zD<|zC<|zA 2 u<|qI zLo u (cq [4])<|fun r1 _ k p5 c5=>k<|zA 2 u<|zB<|zR<|
  qR (fun s1 K=>∀ p6 c6 r_1,K [3,13,14] [(1, r_1)] [0,2,3,4] [(7, sv p6 s1.1 c6), (15, vi s1.2)] [Al (zK .i64) 3 r_1 p6 c6 s1.1]) (gv (fun _ k=>k none 0 []) [0,1] (gq [1,0,2,3,4]))<|fun s1 _ k p6 c6 r_1=>k<|jA 1 u<|zD<|zJ u (jC<|
  zD<|zR<|zC<|qX 1 u u u<|fun x1 b2 o1=>qW false oI (gk 0) u<|zA 1 u<|zB<|zC<|zN 0 u<|zT 0 u u u<|zA 1 u<|qX 3 u u u<|fun x2 b3 o2=>qW true zNM (gk 0) u<|
  wN .s (.agg #[vb false, vs [], vi 0, vi 0, vs []])<|fun b4=>qJ .s 2 u u u<|zB<|zC<|zN 2 u<|zT 2 u u u<|zB<|zR<|jA 2 u<|zJ u (qM<|zA 1 u<|zN 3 u<|zT 2 u u u<|
  wT .s (e := zK .i64) 3 [vi x2.2.2.1] ([x2.2.2.1] : List Int) (rC vI rN)<|fun p7 c7=>wM .s 1 3 u (gk 0) u u<|fun x3 r_2 p8 c8=>zA 1 u<|zV<|qF<|qF<|zP<|jB 2 u<|qG (gv (fun _ k=>k p8 c8 r_2) [0,1] (gq [0,5,6,7,8])))<|
  jA 2 u<|zJ u (qM<|zA 1 u<|wT .s (e := zK .i64) 3 [vi (-1)] ([(-1)] : List Int) (rC vI rN)<|fun p9 c9=>wM .s 1 3 u (gk 0) u u<|fun x4 r_3 p10 c10=>zA 1 u<|zV<|qF<|qF<|zP<|jB 2 u<|
  qG (gv (fun _ k=>k p10 c10 r_3) [0,1] (gq [0,5,6,7,8])))<|wF<|qF<|qF<|zP<|jB 2 u<|qG (gv (fun _ k=>k p6 c6 r_1) [0,1] (gq [2,3,4,5,6])))<|qO<|qN<|qQ<|qP<|zP<|jA 2 u<|zH<|wY 1 0 u u<|
  zQ u u (fun _ k=>k p6 c6) [] (gq [0])
theorem zCs {qd : Prop} {y0 : zO} {y1 : List zI} {y2 : Int} {y3 : Int} {y4 : yN} : vU qd prog 132 [.func (.func 137) #[] #[], pt b1 0, pt b2 0, pt b3 0, pt b4 0, pt b5 0] [bx b1 29 (vN y0 p1 c1 p2 c2 p3 c3), bx b2 37 [sv p4 y1 c4], bx b3 3 [vi y2], bx b4 3 [vi y3], bx b5 36 [vi y4.1, vi y4.2]] (vV y0 p1 c1 p2 c2 p3 c3 [Rl vC p4 c4 y1]) (zAV y0 y1 y2 y3 y4) fun L r K=>K (vb r) L [] :=
 zY call132 func132 u fun X=>jA 1 u<|yA [] [0, 1, 2, 3, 4] 14<|qA 13 [0] u<|vM 1 0 3 u u u u<|wI 2 1 u u u u<|wI 3 2 u u u u<|qA 9 [5] u<|vM 6 0 3 u u u u<|wI 7 1 u u u u<|wI 8 3 u u u u<|qY 10 1 u u<|
  wI 11 4 u u u u<|qH 4<|zX (.f u) [] [] zGN u u u (cq [0,1,2,3])<|fun r1 _ k p5 c5=>k<|qB<|qH 9<|zX (.f u) [] [] zGN u u u (cq [1,2,3,4])<|fun r2 _ k p6 c6=>k<|qB<|qH 12<|
  zX (.f u) [] [] zMn u u u (cq [1,0])<|fun r3 _ k=>k<|qB<|qA 0 [13] u<|wA<|zP<|zH<|zQ u u kk [0,1,2,3,4] d
theorem zLL {qd : Prop} {y0 : zO} {y1 : List zI} {y2 : Int} {y3 : Int} : vU qd prog 134 [.func (.func 136) #[] #[], pt b1 0, pt b2 0, pt b3 0, pt b4 0] [bx b1 29 (vN y0 p1 c1 p2 c2 p3 c3), bx b2 37 [sv p4 y1 c4], bx b3 3 [vi y2], bx b4 3 [vi y3]] (vV y0 p1 c1 p2 c2 p3 c3 [Rl vC p4 c4 y1]) (zBZ y0 y1 y2 y3) fun L r K=>K (vb r) L [] :=
 zY call134 func134 u fun X=>jA 1 u<|wK (fun s1 K=>K [] [] [0,1,2,3] [(6, vb s1)] []) (qM<|zA 1 u<|qS 0 3 u u u<|zT 1 u u u<|zT 2 u u u<|zX .s [] [] zIl u u u (cq [0,1,2,3])<|fun r1 _ k p5 c5=>k<|zA 3 u<|wL 14 u (
  zA 1 u<|qS 0 3 u u u<|zT 1 u u u<|zT 3 u u u<|zX .s [] [] zIl u u u (cq [1,2,3,4])<|fun r2 _ k p6 c6=>k<|zA 2 u<|zL (vb ((len r2) == 0))<|zA 1 u<|zV<|
  zM (gv kk [0,1,2,3] (gq [2,3,4,5])))<|zA 7 u<|zL (vb false)<|zA 1 u<|zV<|zM (gv kk [0,1,2,3] (gq [1,2,3,4])))<|fun s1 _ k=>k<|zH<|zQ u u kk [0,1,2,3] d
theorem zMT {qd : Prop} {y1 : zO} {y2 : List zI} {y3 : Int} {y4 : Int} {y5 : yN} : vU qd prog 135 [pt b1 0, pt b7 0] [bx b1 186 [.func (.func 132) #[] #[pt b2 0, pt b3 0, pt b4 0, pt b5 0, pt b6 0]], bx b2 29 (vN y1 p1 c1 p2 c2 p3 c3), bx b3 37 [sv p4 y2 c4], bx b4 3 [vi y3], bx b5 3 [vi y4], bx b6 36 [vi y5.1, vi y5.2], bx b7 186 [.func (.func 134) #[] #[pt b2 0, pt b3 0, pt b4 0, pt b5 0]]] (vV y1 p1 c1 p2 c2 p3 c3 [Rl vC p4 c4 y2]) (zCV y1 y2 y3 y4 y5) fun L r K=>K (vb r) L [] :=
 zY call135 func135 u fun X=>jA 1 u<|wK (fun s1 K=>K [] [] [0,1,2,3] [(2, vb s1)] []) (qM<|zT 0 u u u<|zX .s [1, 2, 3, 4, 5] [] zLB u u u (cq [0,1,2,3])<|fun r1 _ k=>k<|zA 1 u<|wL 5 u (zA 6 u<|zL (vb true)<|
  zA 1 u<|zV<|zM (gv kk [0,1,2,3,4,5,6] (gq [0,1,2,3])))<|zT 6 u u u<|zX .s [1, 2, 3, 4] [] zLL u u u (cq [0,1,2,3])<|fun r2 _ k=>k<|zA 1 u<|wL 8 u (zT 0 u u u<|
  zX .s [1, 2, 3, 4, 5] [] zCs u u u (cq [0,1,2,3])<|fun r3 _ k=>k<|zL (vb r3)<|zL (vb r3)<|zA 1 u<|zV<|zM (gv kk [0,1,2,3,4,5,6] (gq [0,1,2,3])))<|zA 2 u<|zL (vb false)<|
  zL (vb false)<|zA 1 u<|zV<|zM (gv kk [0,1,2,3,4,5,6] (gq [0,1,2,3])))<|fun s1 _ k=>k<|zH<|zQ u u kk [0,1,2,3,4,5,6] d
theorem zIn {qd : Prop} {y0 : zO} {y1 : List zI} {y2 : Int} : qC qd prog 139 [.agg (vN y0 p1 c1 p2 c2 p3 c3).toArray, sv p4 y1 c4, vi y2] [] (vV y0 p1 c1 p2 c2 p3 c3 [Rl vC p4 c4 y1]) (zCa y0 y1 y2) fun r K=>∀ p5 c5,K (sv p5 r c5) [] [Rl (zK .i64) p5 c5 r] :=
 zY call139 func139 u fun X=>zC<|qV .s u<|fun b1=>zA 1 u<|zB<|yA [] [0] 7<|vM 0 0 3 u u u u<|vM 1 0 3 u u u u<|qA 3 [2,3] u<|qH 4<|zX (.f u) [] [] zKo u u u (cq [0,1,2,3])<|fun r1 _ k p5 c5=>k<|qB<|qH 5<|
  zX (.f u) [] [] zSo u u u (cq [1,2,3,0])<|fun r2 _ k p6 c6=>k<|qB<|qA 0 [6] u<|wA<|zP<|zH<|zQ u u (fun _ k=>k p6 c6) [] (gq [0])
theorem zGy {qd : Prop} {y0 : zO} {y1 : List zI} {y2 : Int} {y3 : Int} {y4 : yN} : vU qd prog 132 [.func (.func 139) #[] #[], pt b1 0, pt b2 0, pt b3 0, pt b4 0, pt b5 0] [bx b1 29 (vN y0 p1 c1 p2 c2 p3 c3), bx b2 37 [sv p4 y1 c4], bx b3 3 [vi y2], bx b4 3 [vi y3], bx b5 36 [vi y4.1, vi y4.2]] (vV y0 p1 c1 p2 c2 p3 c3 [Rl vC p4 c4 y1]) (zBH y0 y1 y2 y3 y4) fun L r K=>K (vb r) L [] :=
 zY call132 func132 u fun X=>jA 1 u<|yA [] [0, 1, 2, 3, 4] 14<|qA 13 [0] u<|vM 1 0 3 u u u u<|wI 2 1 u u u u<|wI 3 2 u u u u<|qA 9 [5] u<|vM 6 0 3 u u u u<|wI 7 1 u u u u<|wI 8 3 u u u u<|qY 10 1 u u<|
  wI 11 4 u u u u<|qH 4<|zX (.f u) [] [] zIn u u u (cq [0,1,2,3])<|fun r1 _ k p5 c5=>k<|qB<|qH 9<|zX (.f u) [] [] zIn u u u (cq [1,2,3,4])<|fun r2 _ k p6 c6=>k<|qB<|qH 12<|
  zX (.f u) [] [] zMn u u u (cq [1,0])<|fun r3 _ k=>k<|qB<|qA 0 [13] u<|wA<|zP<|zH<|zQ u u kk [0,1,2,3,4] d
theorem zJt {qd : Prop} {y0 : zO} {y1 : List zI} {y2 : Int} {y3 : Int} : vU qd prog 134 [.func (.func 137) #[] #[], pt b1 0, pt b2 0, pt b3 0, pt b4 0] [bx b1 29 (vN y0 p1 c1 p2 c2 p3 c3), bx b2 37 [sv p4 y1 c4], bx b3 3 [vi y2], bx b4 3 [vi y3]] (vV y0 p1 c1 p2 c2 p3 c3 [Rl vC p4 c4 y1]) (zBL y0 y1 y2 y3) fun L r K=>K (vb r) L [] :=
 zY call134 func134 u fun X=>jA 1 u<|wK (fun s1 K=>K [] [] [0,1,2,3] [(6, vb s1)] []) (qM<|zA 1 u<|qS 0 3 u u u<|zT 1 u u u<|zT 2 u u u<|zX .s [] [] zGN u u u (cq [0,1,2,3])<|fun r1 _ k p5 c5=>k<|zA 3 u<|
  wL 14 u (zA 1 u<|qS 0 3 u u u<|zT 1 u u u<|zT 3 u u u<|zX .s [] [] zGN u u u (cq [1,2,3,4])<|fun r2 _ k p6 c6=>k<|zA 2 u<|zL (vb ((len r2) == 0))<|zA 1 u<|zV<|
  zM (gv kk [0,1,2,3] (gq [2,3,4,5])))<|zA 7 u<|zL (vb false)<|zA 1 u<|zV<|zM (gv kk [0,1,2,3] (gq [1,2,3,4])))<|fun s1 _ k=>k<|zH<|zQ u u kk [0,1,2,3] d
theorem zLG {qd : Prop} {y0 : zO} {y1 : List zI} {y2 : Int} {y3 : Int} : vU qd prog 134 [.func (.func 139) #[] #[], pt b1 0, pt b2 0, pt b3 0, pt b4 0] [bx b1 29 (vN y0 p1 c1 p2 c2 p3 c3), bx b2 37 [sv p4 y1 c4], bx b3 3 [vi y2], bx b4 3 [vi y3]] (vV y0 p1 c1 p2 c2 p3 c3 [Rl vC p4 c4 y1]) (zB1 y0 y1 y2 y3) fun L r K=>K (vb r) L [] :=
 zY call134 func134 u fun X=>jA 1 u<|wK (fun s1 K=>K [] [] [0,1,2,3] [(6, vb s1)] []) (qM<|zA 1 u<|qS 0 3 u u u<|zT 1 u u u<|zT 2 u u u<|zX .s [] [] zIn u u u (cq [0,1,2,3])<|fun r1 _ k p5 c5=>k<|zA 3 u<|wL 14 u (
  zA 1 u<|qS 0 3 u u u<|zT 1 u u u<|zT 3 u u u<|zX .s [] [] zIn u u u (cq [1,2,3,4])<|fun r2 _ k p6 c6=>k<|zA 2 u<|zL (vb ((len r2) == 0))<|zA 1 u<|zV<|
  zM (gv kk [0,1,2,3] (gq [2,3,4,5])))<|zA 7 u<|zL (vb false)<|zA 1 u<|zV<|zM (gv kk [0,1,2,3] (gq [1,2,3,4])))<|fun s1 _ k=>k<|zH<|zQ u u kk [0,1,2,3] d
theorem zMS {qd : Prop} {y1 : zO} {y2 : List zI} {y3 : Int} {y4 : Int} {y6 : yN} : vU qd prog 138 [pt b1 0, pt b6 0] [bx b1 186 [.func (.func 134) #[] #[pt b2 0, pt b3 0, pt b4 0, pt b5 0]], bx b2 29 (vN y1 p1 c1 p2 c2 p3 c3), bx b3 37 [sv p4 y2 c4], bx b4 3 [vi y3], bx b5 3 [vi y4], bx b6 186 [.func (.func 132) #[] #[pt b2 0, pt b3 0, pt b4 0, pt b5 0, pt b7 0]], bx b7 36 [vi y6.1, vi y6.2]] (vV y1 p1 c1 p2 c2 p3 c3 [Rl vC p4 c4 y2]) (zCU y1 y2 y3 y4 y6) fun L r K=>K (vb r) L [] :=
 zY call138 func138 u fun X=>jA 1 u<|zD<|zR<|zC<|zT 0 u u u<|zX .s [1, 2, 3, 4] [] zLG u u u (cq [0,1,2,3])<|fun r1 _ k=>k<|zA 1 u<|zB<|zJ u (zC<|zT 5 u u u<|
  zX .s [1, 2, 3, 4, 6] [] zCs u u u (cq [0,1,2,3])<|fun r2 _ k=>k<|zA 1 u<|zB<|zH<|qK<|zZ<|zQ u u kk [0,1,2,3,4,5,6] d)<|zC<|zT 0 u u u<|
  zX .s [1, 2, 3, 4] [] zJt u u u (cq [0,1,2,3])<|fun r3 _ k=>k<|zA 1 u<|zB<|zJ u (zC<|zT 5 u u u<|zX .s [1, 2, 3, 4, 6] [] zGy rfl u u (cq [0,1,2,3])<|
  fun r4 _ k=>k<|zA 1 u<|zB<|zH<|qK<|zZ<|zQ u u kk [0,1,2,3,4,5,6] d)<|wF<|qF<|zP<|wK (fun s1 K=>K [] [] [0,1,2,3] [(2, vb s1)] []) (qM<|zT 5 u u u<|
  zX .s [1, 2, 3, 4, 6] [] zCs u u u (cq [0,1,2,3])<|fun r5 _ k=>k<|zA 1 u<|wL 15 u (zT 5 u u u<|zX .s [1, 2, 3, 4, 6] [] zGy rfl u u (cq [0,1,2,3])<|fun r6 _ k=>
  k<|zL (vb r6)<|zA 1 u<|zV<|zM (gv kk [0,1,2,3,4,5,6] (gq [0,1,2,3])))<|zA 2 u<|zL (vb false)<|zA 1 u<|zV<|zM (gv kk [0,1,2,3,4,5,6] (gq [0,1,2,3])))<|fun s1 _ k=>k<|zH<|
  zQ u u kk [0,1,2,3,4,5,6] d
theorem zYp {qd : Prop} {y0 : zO} {y1 : List zI} {y2 : Int} {y3 : Int} {y4 : yN} : qC qd prog 59 [.agg (vN y0 p1 c1 p2 c2 p3 c3).toArray, sv p4 y1 c4, vi y2, vi y3, .agg #[vi y4.1, vi y4.2]] [] (vV y0 p1 c1 p2 c2 p3 c3 [Rl vC p4 c4 y1]) (zKZ y0 y1 y2 y3 y4) fun r K=>K (vb r) [] [] :=
 zY call59 func59 u fun X=>zC<|qV .s u<|fun b1=>qV .s u<|fun b2=>qV .s u<|fun b3=>qV .s u<|fun b4=>qV .s u<|fun b5=>zA 1 u<|zB<|zD<|wK (fun s1 K=>K [5,6,7,8,9] [] [0,1,2,3] [(31, vb s1)] []) (qM<|zT 2 u u u<|zT 3 u u u<|
  zA 3 u<|wL 18 u (zA 6 u<|zL (vb true)<|zA 5 u<|zL (vb true)<|zV<|zM (gv kk [0,1,2,3,4] (gq [0,1,2,3])))<|zT 2 u u u<|zT 3 u u u<|zA 1 u<|zT 1 u u u<|zA 2 u<|
  zL (vb (decide ((len y1) ≤ (if y3 > y2 then y3 else y2))))<|zA 1 u<|wL 26 u (zA 4 u<|zL (vb true)<|zV<|zM (gv kk [0,1,2,3,4] (gq [0,1,2,3])))<|qS 0 3 u u u<|zT 1 u u u<|zT 3 u u u<|
  qI zVP u (cq [0,1,2,3])<|fun r1 _ k=>k<|zL (vb r1)<|zV<|zM (gv kk [0,1,2,3,4] (gq [0,1,2,3])))<|fun s1 _ k=>k<|zJ u (jA 1 u<|zH<|zZ<|zQ u u kk [] d)<|jC<|zC<|zA 1 u<|wN .s (.nilFunc)<|
  fun b6=>qJ .s 5 u u u<|zB<|zC<|zA 1 u<|wN .s (.nilFunc)<|fun b7=>qJ .s 6 u u u<|zB<|jA 1 u<|zD<|zC<|zN 0 u<|zT 4 u u u<|zB<|zR<|jA 2 u<|zJ u (jB 2 u<|qF<|zP<|zC<|zA 1 u<|
  zX .s [5, 0, 1, 2, 3, 4, 6] [] zMT u u u (cq [0,1,2,3])<|fun r2 _ k=>k<|zA 1 u<|zB<|zH<|zQ u u kk [] d)<|jA 2 u<|zJ u (jB 2 u<|qF<|zP<|zC<|zA 1 u<|
  zX .s [6, 0, 1, 2, 3, 5, 4] [] zMS u u u (cq [0,1,2,3])<|fun r3 _ k=>k<|zA 1 u<|zB<|zH<|zQ u u kk [] d)<|jA 1 u<|zH<|qK<|zZ<|zQ u u kk [] d
theorem zMY {qd : Prop} {y0 : wV} {y1 : zO} {y2 : List zI} {y3 : yN} : vU qd prog 58 [.agg #[vi y0.1, vi y0.2.1, vi y0.2.2.1, vi y0.2.2.2], pt b1 0, pt b2 0, pt b3 0] [bx b1 29 (vN y1 p1 c1 p2 c2 p3 c3), bx b2 37 [sv p4 y2 c4], bx b3 36 [vi y3.1, vi y3.2]] (vV y1 p1 c1 p2 c2 p3 c3 [Rl vC p4 c4 y2]) (zCX y0 y1 y2 y3) fun L r K=>K (vb r) L [] :=
 zY call58 func58 u fun X=>zC<|qV .s u<|fun b4=>zA 1 u<|zB<|wK (fun s1 K=>K [] [(3, [])] [0,1,2,3] [(5, vb s1)] []) (qM<|zN 3 u<|zT 3 u u u<|zA 2 u<|wL 9 u (qS 0 3 u u u<|zT 1 u u u<|zN 0 u<|zT 3 u u u<|zN 2 u<|
  zT 3 u u u<|qS 2 2 u u u<|qI zYp u (cq [0,1,2,3])<|fun r1 _ k=>k<|zL (vb r1)<|zA 1 u<|zV<|zM (gv kk [0,1,2,903] (gq [0,1,2,3])))<|zA 8 u<|zL (vb false)<|zA 1 u<|zV<|
  zM (gv kk [0,1,2,903] (gq [0,1,2,3])))<|fun s1 _ k=>k<|zH<|zQ u u kk [0,1,2] d
theorem zG6 {qd : Prop} {y0 : List wV} {y1 : zO} {y2 : List zI} {y3 : yN} : vU qd prog 127 [sv p1 y0 c1, .func (.func 58) #[] #[pt b1 0, pt b2 0, pt b3 0]] [bx b1 29 (vN y1 p2 c2 p3 c3 p4 c4), bx b2 37 [sv p5 y2 c5], bx b3 36 [vi y3.1, vi y3.2]] (Rl zDU p1 c1 y0 :: (vV y1 p2 c2 p3 c3 p4 c4 [Rl vC p5 c5 y2])) (zBO y0 y1 y2 y3) fun L r K=>K (vi r) L [] :=
 zY call127 func127 u fun X=>jA 1 u<|zD<|jA 3 u<|zR<|qR (fun s1 K=>K [0,1,7] [] [0,1,2,3,4] [(8, vi s1)] []) (gv kk [0,1,2] (gq [0,1,2,3,4]))<|fun s1 _ k=>k<|jA 1 u<|zD<|zJ u (jC<|zD<|zR<|jA 2 u<|zC<|zA 3 u<|qX 0 u u u<|
  fun x1 b4 o1=>qW true zVt (gk 0) u<|zX .s [0, 1, 2] [] zMY u u u (cq [2,3,4,5])<|fun r1 _ k=>k<|zB<|zJ u (jA 2 u<|zH<|qK<|zZ<|wQ<|qK<|zZ<|zQ u u kk [0,1,2] d)<|wF<|qF<|zP<|
  jB 2 u<|qG (gv kk [0,1,2] (gq [1,2,3,4,5])))<|qO<|qN<|qQ<|qP<|zP<|jA 1 u<|zH<|zQ u u kk [0,1,2] d
theorem zFz {qd : Prop} {y0 : List wV} {y1 : zO} {y2 : List zI} {y3 : yN} : qC qd prog 56 [sv p1 y0 c1, .func (.func 58) #[] #[pt b1 0, pt b2 0, pt b3 0]] [r_1, bx b1 29 (vN y1 p2 c2 p3 c3 p4 c4), bx b2 37 [sv p5 y2 c5], bx b3 36 [vi y3.1, vi y3.2]] (Al zDU 120 r_1 p1 c1 y0 :: (vV y1 p2 c2 p3 c3 p4 c4 [Rl vC p5 c5 y2])) (zA4 y0 y1 y2 y3) fun r K=>∀ p6 c6,K (sv p6 r c6) [[], bx b1 29 (vN y1 p2 c2 p3 c3 p4 c4), bx b2 37 [sv p5 y2 c5], bx b3 36 [vi y3.1, vi y3.2]] [Rl zDU p6 c6 r] :=
 zY call56 func56 u fun X=>jA 1 u<|zC<|zA 2 u<|zX .s [1, 2, 3] [0] zG6 u u u ⟨cl 0 0,ck 1,ck 2,ck 3,ck 4,d⟩<|fun r1 _ k=>k<|zA 1 u<|zB<|zD<|jA 2 u<|zJ u (jA 2 u<|zH<|zZ<|wY 0 0 u u<|
  zQ u u (fun _ k=>k p1 c1) [900,1,2,3] (gq [0]))<|jC<|wK (fun s1 K=>∀ r_2,K [] [(0, r_2)] [1,2,3,4] [(0, .slice p1 (List.length y0) c1), (5, vi s1.2)] [Ar zDU 120 r_2 p1 c1 (List.length y0) s1.1]) (jA 3 u<|zR<|
  qR (fun s2 K=>∀ r_3,K [1] [(0, r_3)] [1,2,3,4] [(0, .slice p1 (List.length y0) c1), (5, vi s2.2.1), (6, vi s2.2.2)] [Ar zDU 120 r_3 p1 c1 (List.length y0) s2.1]) (gv (fun _ k=>k r_1) [0,1,2,3] (gq [0,1,2,3,4]))<|fun s2 _ k r_3=>k<|
  zD<|jA 4 u<|zJ u (jC<|zD<|zR<|zC<|zA 2 u<|tV 0 u u u<|fun x1 h1 b4 hp1=>jlA 0 0 sI true zVt u hp1 h1 u<|wN .s (.agg #[vi 0, vi 0, vi 0, vi 0])<|fun b5=>qJ .s 4 u u u<|zB<|zC<|zA 1 u<|
  qS 4 4 u u u<|zX .s [1, 2, 3] [] zMY u u u (cq [1,2,3,4])<|fun r2 _ k=>k<|zA 1 u<|zB<|zJ u (zC<|zA 2 u<|qS 4 4 u u u<|tV 0 u u u<|fun x2 h2 b6 hp2=>
  jsA .s 0 0 sI x1 true u hp2 h2 u u (vP vI (vP vI (vP vI vI)))<|fun r_4=>zB<|jB 3 u<|qF<|zP<|jB 3 u<|qG (gv (fun _ k=>k r_4) [0,1,2,3] (gq [0,2,3,4,5])))<|wF<|qF<|zP<|jB 3 u<|
  qG (gv (fun _ k=>k r_3) [0,1,2,3] (gq [0,1,2,3,4])))<|qO<|qN<|qQ<|qP<|zM (gv (fun _ k=>k r_3) [0,1,2,3] (gq [0,1,2,3,4])))<|fun s1 _ k r_2=>k<|zC<|zA 2 u<|jsV 0 u u u<|fun u1 p6 c6 f1=>
  jcv .s 0 0 (0, 0, 0, 0) (.agg #[vi 0, vi 0, vi 0, vi 0]) u f1 u (vP vI (vP vI (vP vI vI)))<|fun r_5=>zB<|zC<|zA 2 u<|jsP 0 u u u<|fun x3=>zA 1 u<|zB<|zH<|wY 0 0 u u<|
  zQ u u (fun _ k=>k p1 c1) [900,1,2,3] (gq [0])
theorem zO1 {qd : Prop} {y0 : zO} {y1 : List zI} {y2 : yN} : qC qd prog 19 [.agg (vN y0 p1 c1 p2 c2 p3 c3).toArray, sv p4 y1 c4, .agg #[vi y2.1, vi y2.2]] [] (vV y0 p1 c1 p2 c2 p3 c3 [Rl vC p4 c4 y1]) (zDj y0 y1 y2) fun r K=>∀ p5 c5,K (sv p5 r c5) [] [Rl zDU p5 c5 r] :=
 zY call19 func19 u fun X=>zC<|qV .s u<|fun b1=>qV .s u<|fun b2=>qV .s u<|fun b3=>zA 1 u<|zB<|zC<|qS 0 3 u u u<|zT 1 u u u<|qI zTI u (cq [0,1,2,3])<|fun r1 _ k p5 c5 r_1=>k<|zA 1 u<|
  zX .s [3, 0, 1, 2] [] zFz u u u (cq [0,1,2,3,4])<|fun r2 _ k p6 c6=>k<|zA 1 u<|zB<|zH<|zQ u u (fun _ k=>k p6 c6) [] (gq [0])
theorem zOo {qd : Prop} {y0 : List wD} : qC qd prog 55 [sv p1 y0 c1] [r_1] [Al vO 122 r_1 p1 c1 y0] (zDL y0) fun r K=>∀ p2 c2,K (sv p2 r c2) [[]] [Rl vO p2 c2 r] :=
 zY call55 func55 u fun X=>jA 1 u<|zD<|jA 3 u<|zJ u (jA 2 u<|zH<|zZ<|wY 0 0 u u<|zQ u u (fun _ k=>k p1 c1) [900] (gq [0]))<|jC<|zD<|jA 1 u<|zR<|qR (fun s1 K=>K [0] [] [0] [(3, vi s1)] []) (gv kk [0] (gq [0]))<|fun s1 _ k=>k<|
  zD<|jA 4 u<|zJ u (jC<|zD<|zR<|yA [] [0] 10<|qA 8 [0,1] u<|jdI 2 0 u u u u<|fun x1 h1 b1 hp1=>jdL 3 0 0 sI true zOR u u hp1 h1 u<|qA 3 [4,5,6] u<|jdI 7 0 u u u u<|fun x2 h2 b2 hp2=>
  jdL 8 0 0 sI true zOR u u hp2 h2 u<|wU 9 (vb (x1 == x2)) u<|wA<|zP<|zJ u (zC<|zA 2 u<|jsV 0 u u u<|fun u1 p2 c2 f1=>zA 1 u<|zB<|
  jjn (fun s2 K=>∀ r_2,K [(0, .slice p1 (List.length y0) c1), (3, vi s2.2)] [r_2] [Ar vO 122 r_2 p1 c1 (List.length y0) s2.1]) (jA 1 u<|zR<|
  qR (fun s3 K=>∀ r_3,K [4] [(0, r_3)] [] [(0, .slice p1 (List.length y0) c1), (3, vi s3.2.1), (5, vi s3.2.2)] [Ar vO 122 r_3 p1 c1 (List.length y0) s3.1]) (gv (fun _ k=>k r_1) [0] (gq [0]))<|fun s3 _ k r_3=>k<|zD<|jA 4 u<|zJ u (
  jC<|zD<|zR<|yA [] [0] 10<|qA 8 [0,1] u<|jdX 2 0 u u f1 u u<|fun x3 b3 hp3 h3=>jdL 3 0 0 sI true zOR u u hp3 h3 u<|qA 3 [4,5,6] u<|jdX 7 0 u u f1 u u<|fun x4 b4 hp4 h4=>
  jdL 8 0 0 sI true zOR u u hp4 h4 u<|wU 9 (vb (!(x3 == x4))) u<|wA<|zP<|zJ u (zC<|zA 4 u<|jiV 0 u f1 u u<|fun x5 b5 hp5 h5=>jlA 0 0 sI true zOR u hp5 h5 u<|tV 0 u u u<|fun x6 h6 b6 hp6=>
  jsA .s 0 0 sI x5 true u hp6 h6 u u (vP vI vI)<|fun r_4=>zB<|jB 3 u<|qF<|zP<|jB 3 u<|qG (gv (fun _ k=>k r_4) [0] (gq [0])))<|wF<|qF<|zP<|jB 3 u<|qG (gv (fun _ k=>k r_3) [0] (gq [0])))<|qO<|qN<|qQ<|qP<|
  zM (gv (fun _ k=>k r_3) [0] (gq [0])))<|fun s2 _ k r_2=>k<|zC<|zA 2 u<|jsV 0 u u u<|fun u2 p3 c3 f2=>jcv .s 0 0 (0, 0) (.agg #[vi 0, vi 0]) u f2 u (vP vI vI)<|fun r_5=>zB<|zC<|zA 2 u<|jsP 0 u u u<|fun x7=>
  zA 1 u<|zB<|zH<|qK<|zZ<|wQ<|qK<|zZ<|wY 0 0 u u<|zQ u u (fun _ k=>k p1 c1) [900] (gq [0]))<|wF<|qF<|zP<|jB 3 u<|qG (gv kk [0] (gq [0])))<|qO<|qN<|qQ<|qP<|zP<|jA 2 u<|zH<|wY 0 0 u u<|
  zQ u u (fun _ k=>k p1 c1) [900] (gq [0])
theorem zTN {qd : Prop} {y0 : wD} {y1 : wD} : qC qd prog 52 [.agg #[vi y0.1, vi y0.2], .agg #[vi y1.1, vi y1.2]] [] [] (zE2 y0 y1) fun r K=>K (vi r) [] [] :=
 zY call52 func52 u fun X=>zC<|qV .s u<|fun b1=>qV .s u<|fun b2=>zA 1 u<|zB<|yA [] [0, 1] 13<|qY 0 0 u u<|wI 1 0 u u u u<|qY 2 0 u u<|wI 3 1 u u u u<|qY 5 1 u u<|wI 6 0 u u u u<|qY 7 1 u u<|
  wI 8 1 u u u u<|qH 4<|zX (.f u) [] [] zCi u u u d<|fun r1 _ k=>k<|qB<|qH 9<|zX (.f u) [] [] zCi u u u d<|fun r2 _ k=>k<|qB<|qH 10<|
  wT (.f u) (e := zK .i64) 3 [vi r1, vi r2] ([r1, r2] : List Int) (rC vI (rC vI rN))<|fun p1 c1=>qB<|qH 11<|zX (.f u) [] [] zOn u u u (cq [0])<|fun r3 _ k=>k<|qB<|qA 0 [12] u<|wA<|zP<|zH<|
  zQ u u kk [] d
theorem zIR {qd : Prop} {y0 : List wD} : qC qd prog 51 [sv p1 y0 c1, .func (.func 52) #[] #[]] [r_1] [Al vO 122 r_1 p1 c1 y0] (zBE y0) fun r K=>∀ r_2,K (.tuple #[]) [r_2] [Ar vO 122 r_2 p1 c1 (List.length y0) r] := ⟨call51, fun A w0 r hm hO hF => by
 have h := zRO (qd := qd) Go.Proofs.Tryz.sort51 (uH.prod (uH.int .i64) (uH.int .i64)) (te := 122) Tryz.isAgg122 Tryz.sizeOf122 zE2 52 (enters_of func52 (by kernel_rfl) u) (fun w x y n hn => ?_) hO hF.1.1 hm
 · change Calls prog 51 _ _ _ at h
   refine h.mono fun e w' h => ?_
   cases e with
   | returned v => obtain ⟨r', rfl, h1, h2, h3, h4⟩ := h; exact fun G k => k r' ⟨rfl, h1, h2, ⟨h3, h4.symm⟩, trivial⟩
   | panicked ch => exact h
   | outgrown => exact h
 · refine ((zTN (qd := True) (y0 := x) (y1 := y)).go [] w n hn (wC.start (by simp)) trivial).mono fun e w' h => ?_
   cases e with
   | returned v => exact h _ fun ⟨e1, q⟩ => ⟨e1, q.e⟩
   | panicked ch => exact h
   | outgrown => exact h⟩
theorem zQ2 {qd : Prop} {y0 : Int} {y1 : List wV} : qC qd prog 18 [vi y0, sv p1 y1 c1] [] [Rl zDU p1 c1 y1] (zFC y0 y1) fun r K=>∀ p2 c2,K (.tuple #[.agg (yY r.1 p2 c2).toArray, vi r.2]) [] [Rl vO p2 c2 r.1.2] :=
 zY call18 func18 u fun X=>zC<|wN .s (.agg #[vi 0, .slice none 0 0])<|fun b1=>zA 1 u<|zB<|zD<|tK (fun K=>K [0,1,4] [] [0] [(14, vb ((decide (y0 < 0)) || (decide (40 < y0))))] []) (qM<|zA 3 u<|uF (b := decide (y0 < 0)) 11 u (fun hb1=>zA 2 u<|
  zL (vb true)<|zV<|wX 14 (vb ((decide (y0 < 0)) || (decide (40 < y0)))) u (by rw [hb1]; rfl)<|zM (gv kk [0] (gq [0])))<|fun hb1=>zA 2 u<|zL (vb (decide (40 < y0)))<|zV<|
  wX 14 (vb ((decide (y0 < 0)) || (decide (40 < y0)))) u (by rw [hb1]; rfl)<|zM (gv kk [0] (gq [0])))<|fun _ k=>k<|zJ u (zC<|zL (.agg #[vi 0, .slice none 0 0])<|qJ .s 0 u u u<|zA 1 u<|zB<|zH<|zZ<|
  wG u (lC 0 (.agg #[vi 0, .slice none 0 0]) u u (lT u lN)) (fun _ k=>k none 0) [] ⟨gn,d⟩)<|jC<|zC<|zA 1 u<|zL (.agg #[vi y0, .slice none 0 0])<|vJ vO 122<|wN .s (.agg #[vi 0, .slice none 0 0])<|fun b2=>
  qJ .s 2 u u u<|zB<|zYy (fun s1 K=>∀ p2 c2 r_1,K [4,6] [(1, r_1), (2, bx b2 41 [vi y0, sv p2 s1 c2])] [] [] [Al vO 122 r_1 p2 c2 s1]) (jA 3 u<|zR<|
  qR (fun s2 K=>∀ p3 c3 r_2,K [0,4,6,18,19] [(1, r_2), (2, bx b2 41 [vi y0, sv p3 s2.2 c3])] [1] [(20, vi s2.1)] [Al vO 122 r_2 p3 c3 s2.2]) (gv (fun _ k=>k none 0 []) [0,1,2] (gq [0,1]))<|fun s2 _ k p3 c3 r_2=>k<|jA 1 u<|zD<|
  zJ u (jC<|zD<|zR<|zC<|qX 1 u u u<|fun x1 b3 o1=>qW true zVt (gk 0) u<|wN .s (.agg #[vi 0, vi 0, vi 0, vi 0])<|fun b4=>qJ .s 3 u u u<|zB<|zD<|
  tK (fun K=>K [0,4,6,8,18,19,20] [] [2,1] [(38, vb ((decide ((if x1.2.1 < x1.1 then x1.2.1 else x1.1) < 0)) || (decide (y0 ≤ (if x1.2.1 > x1.1 then x1.2.1 else x1.1)))))] []) (qM<|zN 0 u<|zT 3 u u u<|zN 1 u<|
  zT 3 u u u<|zA 3 u<|uF (b := decide ((if x1.2.1 < x1.1 then x1.2.1 else x1.1) < 0)) 30 u (fun hb2=>zA 7 u<|zL (vb true)<|zV<|
  wX 38 (vb ((decide ((if x1.2.1 < x1.1 then x1.2.1 else x1.1) < 0)) || (decide (y0 ≤ (if x1.2.1 > x1.1 then x1.2.1 else x1.1))))) u (by rw [hb2]; rfl)<|zM (gv kk [0,1,2,3] (gq [2,1])))<|fun hb2=>zN 0 u<|zT 3 u u u<|
  zN 1 u<|zT 3 u u u<|zA 3 u<|zL (vb (decide (y0 ≤ (if x1.2.1 > x1.1 then x1.2.1 else x1.1))))<|zV<|
  wX 38 (vb ((decide ((if x1.2.1 < x1.1 then x1.2.1 else x1.1) < 0)) || (decide (y0 ≤ (if x1.2.1 > x1.1 then x1.2.1 else x1.1))))) u (by rw [hb2]; rfl)<|zM (gv kk [0,1,2,3] (gq [2,1])))<|fun _ k=>k<|zJ u (zC<|
  zL (.agg #[vi 0, .slice none 0 0])<|qJ .s 0 u u u<|zA 1 u<|zB<|zH<|zZ<|qK<|zZ<|wQ<|qK<|wQ<|wG u (lC 0 (.agg #[vi 0, .slice none 0 0]) u u (lT u lN)) (fun _ k=>k none 0) [] ⟨gn,d⟩)<|jC<|qM<|zN 1 u<|
  zT 2 u u u<|zN 0 u<|zT 3 u u u<|zN 1 u<|zT 3 u u u<|zL (.agg #[vi x1.1, vi x1.2.1])<|wT .s (e := vO) 122 [vi x1.1, vi x1.2.1] ([(x1.1, x1.2.1)] : List wD) (rC (vP vI vI) rN)<|fun p4 c4=>
  wM .s 1 2 u (gk 0) u u<|fun x2 r_3 p5 c5=>zN 1 u<|qJ .s 2 u u u<|zV<|qF<|zP<|jB 2 u<|qG (gv (fun _ k=>k p5 c5 r_3) [0,1,2] (gq [0,2])))<|qO<|qN<|qQ<|qP<|qG (gv (fun _ k=>k p3 c3 r_2) [0,1,2] (gq [0])))<|
  fun s1 _ k p2 c2 r_1=>k<|zC<|zN 1 u<|zT 2 u u u<|zX .s [1] [] zIR u u u (cq [0])<|fun r1 _ k r_4=>k<|zB<|zC<|zN 1 u<|zT 2 u u u<|jrE 0 55 u u<|
  zX .s [1] [] zOo u u u (cq [0])<|fun r2 _ k p6 c6=>k<|zN 1 u<|qJ .s 2 u u u<|zB<|zC<|qS 2 2 u u u<|qJ .s 0 u u u<|zA 1 u<|zB<|zH<|
  wG u (lC 0 (.agg #[vi y0, sv p6 r2 c6]) u u (lT u lN)) (fun _ k=>k p6 c6) [] (gq [0])
theorem zH6 {qd : Prop} {y0 : Int} : qC qd prog 279 [.int .u64 y0] [] [Pt (yH 64 (zK .u8)) 4 0 yW] (zCB y0) fun r K=>K (vi r) [] [] :=
 zY call279 func279 u fun X=>jA 1 u<|zD<|jA 2 u<|zJ u (jA 1 u<|zH<|zZ<|zQ u u kk [] d)<|jC<|zC<|zA 5 u<|zL (.int .u64 (xH .u64 (IntKind.u64.wrap ((yE .u64 y0 (IntKind.u64.wrap (0 - y0))) * 285870213051353865)) 58))<|
  jgx (gk 0) u u<|fun x1=>qW false oI (gk 0) u<|zL (vi (zS (x1)))<|zA 1 u<|zB<|zH<|zQ u u kk [] d
theorem zYD {qd : Prop} {y0 : Int} : qC qd prog 215 [.int .u64 y0] [] [Pt (yH 64 (zK .u8)) 4 0 yW] (zHf y0) fun r K=>∀ p1 c1,K (sv p1 r c1) [] [Rl (zK .i64) p1 c1 r] :=
 zY call215 func215 u fun X=>jA 1 u<|zC<|zA 1 u<|vJ (zK .i64) 3<|zB<|zD<|zR<|qR (fun s1 K=>∀ p1 c1 r_1,K [] [(0, r_1)] [1] [(0, .int .u64 s1.1), (3, sv p1 s1.2 c1)] [Al (zK .i64) 3 r_1 p1 c1 s1.2]) (gv (fun _ k=>k none 0 []) [0] (gq [0,1]))<|
  fun s1 _ k p1 c1 r_1=>k<|zD<|jA 2 u<|zJ u (jC<|zD<|zR<|qM<|zA 2 u<|qI zH6 u (cq [1])<|fun r1 _ k=>k<|wT .s (e := zK .i64) 3 [vi r1] ([r1] : List Int) (rC vI rN)<|fun p2 c2=>
  wM .s 0 1 u (gk 0) u u<|fun x1 r_2 p3 c3=>zA 1 u<|zV<|qF<|zP<|jB 5 u<|qG (gv (fun _ k=>k p3 c3 r_2) [0] (gq [0,3])))<|qO<|qN<|qQ<|qP<|zP<|jA 2 u<|zH<|wY 0 0 u u<|zQ u u (fun _ k=>k p1 c1) [] (gq [0])
theorem zWl {qd : Prop} {y0 : wJ} : qC qd prog 216 [.agg (yY y0 p1 c1).toArray] [] [Rl vO p1 c1 y0.2] (zHy y0) fun r K=>∀ p2 c2,K (sv p2 r c2) [] [Rl (zK .u64) p2 c2 r] :=
 zY call216 func216 u fun X=>zC<|qV .s u<|fun b1=>zA 1 u<|zB<|zC<|zN 0 u<|zT 0 u u u<|jmk .s (e := zK .u64) 237 (0 : Int) (.int .u64 0) vI u u<|fun x1 r_1 p2 c2=>zA 1 u<|zB<|zD<|zC<|zN 1 u<|zT 0 u u u<|zA 2 u<|zB<|zR<|
  qR (fun s1 K=>∀ r_2,K [10,11] [(0, []), (1, r_2)] [1] [(3, .slice p2 (List.length x1) c2), (12, vi s1.2)] [Ar (zK .u64) 237 r_2 p2 c2 (List.length x1) s1.1]) (gv (fun _ k=>k r_1) [900,1] (gq [0,1]))<|fun s1 _ k r_2=>k<|jA 1 u<|zD<|
  zJ u (jC<|zD<|zR<|zC<|qX 1 u u u<|fun x2 b2 o1=>qW true zOR (gk 0) u<|wN .s (.agg #[vi 0, vi 0])<|fun b3=>qJ .s 2 u u u<|zB<|xB [10] [1, 2] 11<|qA 10 [0] u<|qY 1 0 u u<|wI 2 2 u u u u<|
  jdI 3 1 u u u u<|fun x3 h1 b4 hp1=>jdL 4 1 1 sI false oI u u hp1 h1 u<|qY 5 1 u u<|wI 6 2 u u u u<|yP fun x4 h2=>xS 7 u (fun h=>z0Y h u u h2)<|qA 2 [8] u<|jdI 9 1 u u u u<|fun x5 h3 b5 hp2=>
  qH 10<|jsA (.f u) 1 1 sI (bor .u64 x3 x4) false u hp2 h3 u u vI<|fun r_3=>jdb [] [1, 2]<|wA<|qF<|zP<|jB 2 u<|qG (gv (fun _ k=>k r_3) [900,1] (gq [0,3])))<|qO<|qN<|qQ<|qP<|zP<|jA 2 u<|zH<|wY 1 0 u u<|
  jre 0 2 u u<|zQ u u (fun _ k=>k p2 c2) [] (gq [0])
theorem zOz {qd : Prop} {y0 : wD} {y1 : wD} : qC qd prog 68 [.agg #[vi y0.1, vi y0.2], .agg #[vi y1.1, vi y1.2]] [] [] (zCl y0 y1) fun r K=>K (vi r) [] [] :=
 zY call68 func68 u fun X=>zC<|qV .s u<|fun b1=>qV .s u<|fun b2=>zA 1 u<|zB<|yA [] [0, 1] 13<|qY 0 0 u u<|wI 1 0 u u u u<|qY 2 0 u u<|wI 3 1 u u u u<|qY 5 1 u u<|wI 6 0 u u u u<|qY 7 1 u u<|
  wI 8 1 u u u u<|qH 4<|zX (.f u) [] [] zCi u u u d<|fun r1 _ k=>k<|qB<|qH 9<|zX (.f u) [] [] zCi u u u d<|fun r2 _ k=>k<|qB<|qH 10<|
  wT (.f u) (e := zK .i64) 3 [vi r1, vi r2] ([r1, r2] : List Int) (rC vI (rC vI rN))<|fun p1 c1=>qB<|qH 11<|zX (.f u) [] [] zOn u u u (cq [0])<|fun r3 _ k=>k<|qB<|qA 0 [12] u<|wA<|zP<|zH<|
  zQ u u kk [] d
theorem zKz {qd : Prop} {y0 : wJ} : qC qd prog 24 [.agg (yY y0 p1 c1).toArray] [] [Rl vO p1 c1 y0.2] (zBb y0) fun r K=>K (vi r) [] [] :=
 zY call24 func24 u fun X=>zC<|qV .s u<|fun b1=>zA 1 u<|zB<|zD<|tK (fun K=>K [1] [] [0] [(12, vb ((decide (y0.1 < 0)) || (decide (40 < y0.1))))] []) (qM<|zN 0 u<|zT 0 u u u<|zA 2 u<|uF (b := decide (y0.1 < 0)) 8 u (fun hb1=>zA 3 u<|
  zL (vb true)<|zV<|wX 12 (vb ((decide (y0.1 < 0)) || (decide (40 < y0.1)))) u (by rw [hb1]; rfl)<|zM (gv kk [0] (gq [0])))<|fun hb1=>zN 0 u<|zT 0 u u u<|zA 1 u<|zL (vb (decide (40 < y0.1)))<|zV<|
  wX 12 (vb ((decide (y0.1 < 0)) || (decide (40 < y0.1)))) u (by rw [hb1]; rfl)<|zM (gv kk [0] (gq [0])))<|fun _ k=>k<|zJ u (jA 1 u<|zH<|zZ<|zQ u u kk [] d)<|jC<|zD<|zC<|zN 1 u<|zT 0 u u u<|
  zA 2 u<|zB<|zR<|qR (fun s1 K=>K [1,14,15] [] [0] [(16, vi s1)] []) (gv kk [0] (gq [0]))<|fun s1 _ k=>k<|jA 1 u<|zD<|zJ u (jC<|zD<|zR<|zC<|zA 1 u<|qX 0 u u u<|fun x1 b2 o1=>qW true zOR (gk 0) u<|
  wN .s (.agg #[vi 0, vi 0])<|fun b3=>zA 1 u<|qJ .s 1 u u u<|zB<|zD<|
  tK (fun K=>K [1,3,4,14,15,16] [] [1] [(36, vb ((decide ((if x1.2 < x1.1 then x1.2 else x1.1) < 0)) || (decide (y0.1 ≤ (if x1.2 > x1.1 then x1.2 else x1.1)))))] []) (qM<|zN 0 u<|zT 1 u u u<|zN 1 u<|zT 1 u u u<|
  zA 3 u<|uF (b := decide ((if x1.2 < x1.1 then x1.2 else x1.1) < 0)) 27 u (fun hb2=>zA 8 u<|zL (vb true)<|zV<|
  wX 36 (vb ((decide ((if x1.2 < x1.1 then x1.2 else x1.1) < 0)) || (decide (y0.1 ≤ (if x1.2 > x1.1 then x1.2 else x1.1))))) u (by rw [hb2]; rfl)<|zM (gv kk [0,1] (gq [1])))<|fun hb2=>zN 0 u<|zT 1 u u u<|zN 1 u<|
  zT 1 u u u<|zA 1 u<|zN 0 u<|zT 0 u u u<|zA 1 u<|zL (vb (decide (y0.1 ≤ (if x1.2 > x1.1 then x1.2 else x1.1))))<|zV<|
  wX 36 (vb ((decide ((if x1.2 < x1.1 then x1.2 else x1.1) < 0)) || (decide (y0.1 ≤ (if x1.2 > x1.1 then x1.2 else x1.1))))) u (by rw [hb2]; rfl)<|zM (gv kk [0,1] (gq [1])))<|fun _ k=>k<|zJ u (jA 1 u<|zH<|zZ<|qK<|zZ<|
  wQ<|qK<|zZ<|zQ u u kk [] d)<|jC<|wK (fun s2 K=>K [1,14,15,16] [(1, [])] [0] [(49, vb s2)] []) (xB [] [0, 1] 13<|qA 10 [0,1,2] u<|wL 39 u (qY 3 1 u u<|wI 4 0 u u u u<|qA 6 [5,6] u<|
  uJ 7 0 u u u u<|fun x2 b4 o2=>uI 8 true zOR u (gk 0) u<|vM 9 1 2 u u u u<|qH 10<|zX (.f u) [] [] zOz u u u d<|fun r1 _ k=>k<|qB<|qA 1 [11] u<|wU 12 (vb (decide (0 ≤ r1))) u<|wA<|
  zM (gv kk [0,901] (gq [1])))<|qA 1 [3,4,5,6,7,8,9,10,11] u<|wU 12 (vb false) u<|wA<|zM (gv kk [0,901] (gq [0])))<|fun s2 _ k=>k<|zJ u (jA 1 u<|zH<|qK<|zZ<|wQ<|qK<|zZ<|zQ u u kk [] d)<|
  wF<|qF<|zP<|jB 2 u<|qG (gv kk [0] (gq [0])))<|qO<|qN<|qQ<|qP<|zP<|jA 1 u<|zH<|zQ u u kk [] d
theorem zQZ {qd : Prop} {y0 : wJ} : qC qd prog 214 [.agg (yY y0 p1 c1).toArray] [] [Rl vO p1 c1 y0.2] (zEz y0) fun r K=>∀ p2 c2,K (.agg (yY r p2 c2).toArray) [] [Rl vO p2 c2 r.2] :=
 zY call214 func214 u fun X=>zC<|qV .s u<|fun b1=>wN .s (.agg #[vi 0, .slice none 0 0])<|fun b2=>zB<|zD<|zC<|qS 0 2 u u u<|qI zKz u (cq [0])<|fun r1 _ k=>k<|zA 1 u<|zB<|zJ u (zC<|zL (.agg #[vi 0, .slice none 0 0])<|
  qJ .s 1 u u u<|zB<|zH<|zZ<|wG u (lC 1 (.agg #[vi 0, .slice none 0 0]) u u lN) (fun _ k=>k none 0) [] ⟨gn,d⟩)<|jC<|zC<|qS 0 2 u u u<|qJ .s 1 u u u<|zB<|zH<|
  wG u (lC 1 (.agg (yY y0 p1 c1).toArray) u u lN) (fun _ k=>k p1 c1) [] (gq [0])
theorem zLN {qd : Prop} {y0 : wJ} {y1 : Int} : qC qd prog 144 [.agg (yY y0 p1 c1).toArray, vi y1] [] [Rl vO p1 c1 y0.2, Pt (yH 64 (zK .u8)) 4 0 yW] (zCq y0 y1) fun r K=>∀ p2 c2,K (sv p2 r c2) [] [Rl (zK .i64) p2 c2 r] :=
 zY call144 func144 u fun X=>zC<|qV .s u<|fun b1=>zA 1 u<|zB<|zC<|qS 0 2 u u u<|qI zQZ u (cq [0])<|fun r1 _ k p2 c2=>k<|qJ .s 0 u u u<|zB<|zD<|
  tK (fun K=>K [1,2] [] [0,2] [(14, vb ((decide (y1 < 0)) || (decide (r1.1 ≤ y1))))] []) (qM<|zA 3 u<|uF (b := decide (y1 < 0)) 9 u (fun hb1=>zA 4 u<|zL (vb true)<|zV<|
  wX 14 (vb ((decide (y1 < 0)) || (decide (r1.1 ≤ y1)))) u (by rw [hb1]; rfl)<|zM (gv kk [0] (gq [0,2])))<|fun hb1=>zA 1 u<|zN 0 u<|zT 0 u u u<|zA 1 u<|zL (vb (decide (r1.1 ≤ y1)))<|zV<|
  wX 14 (vb ((decide (y1 < 0)) || (decide (r1.1 ≤ y1)))) u (by rw [hb1]; rfl)<|zM (gv kk [0] (gq [0,2])))<|fun _ k=>k<|zJ u (jA 1 u<|zH<|zZ<|zQ u u (fun _ k=>k none 0) [] ⟨gn,d⟩)<|jC<|zC<|qS 0 2 u u u<|
  qI zWl u (cq [0])<|fun r2 _ k p3 c3=>k<|zA 1 u<|qX 0 u u u<|fun x1 b2 o1=>qW false oI (gk 0) u<|qI zYD u (cq [3])<|fun r3 _ k p4 c4=>k<|zA 1 u<|zB<|zH<|zQ u u (fun _ k=>k p4 c4) [] (gq [0])
theorem zSc {qd : Prop} {y0 : Int} {y1 : Int} : qC qd prog 278 [.int .u64 y0, .int .u64 y1] [] [] (zNU y0 y1) fun r K=>K (.tuple #[.int .u64 r.1, .int .u64 r.2]) [] [] :=
 zY call278 func278 u fun X=>jA 2 u<|jA 3 u<|zC<|zA 1 u<|zL (.int .u64 (xH .u64 y0 32))<|zA 1 u<|zB<|jA 3 u<|zC<|zA 1 u<|zL (.int .u64 (xH .u64 y1 32))<|zA 1 u<|zB<|jA 4 u<|zC<|zA 4 u<|
  zL (.int .u64 (xH .u64 (IntKind.u64.wrap ((yE .u64 y0 4294967295) * (yE .u64 y1 4294967295))) 32))<|zA 2 u<|zB<|jA 3 u<|zC<|zA 1 u<|
  zL (.int .u64 (xH .u64 (IntKind.u64.wrap ((IntKind.u64.wrap ((xH .u64 y0 32) * (yE .u64 y1 4294967295))) + (xH .u64 (IntKind.u64.wrap ((yE .u64 y0 4294967295) * (yE .u64 y1 4294967295))) 32))) 32))<|zA 1 u<|zB<|jA 6 u<|zC<|
  zA 6 u<|
  zL (.int .u64 (xH .u64 (IntKind.u64.wrap ((yE .u64 (IntKind.u64.wrap ((IntKind.u64.wrap ((xH .u64 y0 32) * (yE .u64 y1 4294967295))) + (xH .u64 (IntKind.u64.wrap ((yE .u64 y0 4294967295) * (yE .u64 y1 4294967295))) 32))) 4294967295) + (IntKind.u64.wrap ((yE .u64 y0 4294967295) * (xH .u64 y1 32))))) 32))<|
  zA 2 u<|zB<|jA 4 u<|zH<|wG u (lT u (lT u lN)) kk [] d
theorem zUL {qd : Prop} {y0 : Int} {y1 : Int} : qC qd prog 213 [.int .u64 y0, .int .u64 y1] [] [] (zLk y0 y1) fun r K=>K (.tuple #[.int .u64 r.1, .int .u64 r.2]) [] [] :=
 zY call213 func213 u fun X=>jA 2 u<|zD<|jcf u<|jC<|zC<|zA 2 u<|qI zSc u d<|fun r1 _ k=>k<|zA 5 u<|zB<|jA 4 u<|zH<|wG u (lT u (lT u lN)) kk [] d
theorem zGW {qd : Prop} {y0 : List Int} {y1 : Int} : qC qd prog 143 [sv p1 y0 c1, vi y1] [] [Rl (zK .i64) p1 c1 y0] (zCb y0 y1) fun r K=>∀ p2 c2 r_1,K (sv p2 r c2) [r_1] [Al (zK .i64) 3 r_1 p2 c2 r] :=
 zY call143 func143 u fun X=>jA 1 u<|wK (fun s1 K=>K [0,1] [] [0] [] []) (jA 2 u<|zJ u (qM<|jno)<|wF<|zM (gv kk [] (gq [0])))<|fun s1 _ k=>k<|zC<|zA 2 u<|zL (.int .u64 (IntKind.u64.wrap (len y0)))<|zA 1 u<|
  zL (.int .u64 (IntKind.u64.wrap (y1)))<|qI zUL u d<|fun r1 _ k=>k<|zA 5 u<|zB<|wK (fun s2 K=>K [0,6] [] [0] [] []) (
  tK (fun K=>K [0,6] [] [0] [(26, vb ((decide (0 < r1.1)) || (decide (9223372036854775807 < r1.2))))] []) (qM<|zA 3 u<|uF (b := decide (0 < r1.1)) 23 u (fun hb1=>zA 2 u<|zL (vb true)<|zV<|
  wX 26 (vb ((decide (0 < r1.1)) || (decide (9223372036854775807 < r1.2)))) u (by rw [hb1]; rfl)<|zM (gv kk [] (gq [0])))<|fun hb1=>zA 2 u<|zL (vb (decide (9223372036854775807 < r1.2)))<|zV<|
  wX 26 (vb ((decide (0 < r1.1)) || (decide (9223372036854775807 < r1.2)))) u (by rw [hb1]; rfl)<|zM (gv kk [] (gq [0])))<|fun _ k=>k<|zJ u (qM<|jno)<|wF<|zM (gv kk [] (gq [0])))<|fun s2 _ k=>k<|zC<|zA 1 u<|
  zL (vi (zS (r1.2)))<|jmk .s (e := zK .i64) 3 (0 : Int) (vi 0) vI u u<|fun x1 r_1 p2 c2=>zA 1 u<|zB<|zC<|zA 2 u<|jcp .s 0 0 u (vwW 0 u) (srR (gk 1)) u u<|fun r_2=>zA 1 u<|zB<|zD<|zR<|
  qR (fun s3 K=>∀ r_3,K [7] [(0, r_3)] [] [(8, vi s3.2)] [Ar (zK .i64) 3 r_3 p2 c2 (List.length x1) s3.1]) (gv (fun _ k=>k r_2) [0] (gq [0]))<|fun s3 _ k r_3=>k<|zD<|jA 4 u<|zJ u (jC<|zR<|xB [] [] 10<|qA 7 [0,1,2] u<|
  jdV 3 0 u u u u<|fun u1 p3 c3 f1=>qA 4 [4,5] u<|jdW 6 0 u u u u<|fun x2=>qH 7<|jcp (.f u) 0 1 u (vwV f1) (srA 0 0 u) u u<|fun r_4=>qB<|qA 0 [8,9] u<|wA<|qF<|qG (gv (fun _ k=>k r_4) [0] (gq [0])))<|qO<|
  qN<|qQ<|qP<|zP<|jA 2 u<|zH<|jrE 0 4 u u<|zQ u u (fun _ k=>k p2 c2 r_3) [0] (gq [0])
theorem zTY {qd : Prop} {y0 : wJ} : qC qd prog 62 [.agg (yY y0 p1 c1).toArray] [] [Rl vO p1 c1 y0.2, Pt (yH 64 (zK .u8)) 4 0 yW] (zE4 y0) fun r K=>∀ p2 c2 p3 c3,K (.tuple #[sv p2 r.1 c2, sv p3 r.2 c3]) [] [Rl (zK .i64) p2 c2 r.1, Rl (zK .i64) p3 c3 r.2] :=
 zY call62 func62 u fun X=>zC<|qV .s u<|fun b1=>zA 2 u<|zB<|wK (fun s1 K=>∀ p2 c2 r_1 p3 c3 r_2,K [1] [(1, r_1), (2, r_2)] [0,1] [(2, sv p2 s1.1 c2), (3, sv p3 s1.2 c3)] [Al (zK .i64) 3 r_1 p2 c2 s1.1, Al (zK .i64) 3 r_2 p3 c3 s1.2]) (xB [] [0] 9<|
  qY 1 0 u u<|wI 2 0 u u u u<|qY 4 0 u u<|wI 5 0 u u u u<|jd2 0 6 (wT (.f u) (e := zK .i64) 3 [vi 3] ([3] : List Int) (rC vI rN)<|fun p4 c4=>qB<|jd2 3 6 (
  zX (.f u) [] [] zGW u u u (cq [0])<|fun r1 _ k p5 c5 r_3=>k<|qB<|qA 2 [7] u<|qH 6<|jmk (.f u) (e := zK .i64) 3 (0 : Int) (vi 0) vI u u<|fun x1 r_4 p6 c6=>qB<|qA 0 [8] u<|wA<|
  zM (gv (fun _ k=>k p5 c5 r_3 p6 c6 r_4) [0,1,2] (gq [1,0,3,4]))) <|jcm<|jmk (.f u) (e := zK .i64) 3 (0 : Int) (vi 0) vI u u<|fun x2 r_5 p7 c7=>qB<|qH 3<|zX (.f u) [] [] zGW u u u (cq [1])<|
  fun r2 _ k p8 c8 r_6=>k<|qB<|qA 0 [7,8] u<|wA<|zM (gv (fun _ k=>k p8 c8 r_6 p7 c7 r_5) [0,2,1] (gq [0,1,3,4]))) <|jcm<|jmk (.f u) (e := zK .i64) 3 (0 : Int) (vi 0) vI u u<|fun x3 r_7 p9 c9=>qB<|qH 0<|
  wT (.f u) (e := zK .i64) 3 [vi 3] ([3] : List Int) (rC vI rN)<|fun p10 c10=>qB<|qH 3<|zX (.f u) [] [] zGW u u u (cq [0])<|fun r3 _ k p11 c11 r_8=>k<|qB<|qA 0 [7,8] u<|wA<|
  zM (gv (fun _ k=>k p11 c11 r_8 p9 c9 r_7) [0,2,1] (gq [0,2,3,4])))<|fun s1 _ k p2 c2 r_1 p3 c3 r_2=>k<|zC<|jalA .s (uC [] 40 (List.replicate 40 (0 : Int)) [])<|fun b2=>zB<|
  wK (fun s2 K=>K [1,2,3,4] [(3, bx b2 189 (uC [] 40 s2 []))] [0,1,2,3] [] []) (zC<|zN 1 u<|zT 0 u u u<|zA 2 u<|zB<|zR<|
  qR (fun s3 K=>K [1,2,3,4,27,28] [(3, bx b2 189 (uC [] 40 s3.2 []))] [0,1,2,3] [(29, vi s3.1)] []) (gv kk [0,1,2,3] (gq [0,1,2,3]))<|fun s3 _ k=>k<|jA 1 u<|zD<|zJ u (jC<|zD<|zR<|zC<|qX 2 u u u<|fun x4 b3 o1=>
  qW true zOR (gk 0) u<|wN .s (.agg #[vi 0, vi 0])<|fun b4=>qJ .s 4 u u u<|zB<|qM<|zN 1 u<|zT 4 u u u<|jiL 40 u u<|fun u1 h1=>jlL 3 40 s3.2 [] [] h1 u u<|zA 1 u<|jiL 40 u u<|fun u2 h2=>
  jsL (zS ((yR s3.2 x4.2) + 1)) .s 3 40 s3.2 [] [] h2 u u u<|zV<|qF<|zP<|jB 2 u<|qG (gv kk [0,1,2,3] (gq [1,2,3,4])))<|qO<|qN<|qQ<|qP<|zM (gv kk [0,1,2,3] (gq [0,1,2,3])))<|fun s2 _ k=>k<|zC<|
  zA 1 u<|vJ (zK .i64) 3<|zB<|wK (fun s4 K=>∀ p12 c12 r_9,K [1,2,3,4] [(4, r_9)] [1,2,3,4] [(7, sv p12 s4 c12)] [Al (zK .i64) 3 r_9 p12 c12 s4]) (zC<|zN 0 u<|zT 0 u u u<|zA 1 u<|zB<|zR<|
  qR (fun s5 K=>∀ p13 c13 r_10,K [1,2,3,4,41] [(4, r_10)] [1,2,3,4] [(7, sv p13 s5.1 c13), (42, vi s5.2)] [Al (zK .i64) 3 r_10 p13 c13 s5.1]) (gv (fun _ k=>k none 0 []) [0,1,2,3,4] (gq [0,1,2,3,4]))<|fun s5 _ k p13 c13 r_10=>k<|jA 1 u<|
  zD<|zJ u (jC<|zD<|zR<|jA 2 u<|zC<|zA 1 u<|jiL 40 u u<|fun u3 h3=>jlL 3 40 s2 [] [] h3 u u<|zA 1 u<|zB<|zJ u (qM<|zA 2 u<|wT .s (e := zK .i64) 3 [vi s5.2] ([s5.2] : List Int) (rC vI rN)<|fun p14 c14=>
  wM .s 4 1 u (gk 0) u u<|fun x5 r_11 p15 c15=>zA 1 u<|zV<|qF<|zP<|jB 2 u<|qG (gv (fun _ k=>k p15 c15 r_11) [0,1,2,3,4] (gq [0,3,4,5,6])))<|wF<|qF<|zP<|jB 2 u<|
  qG (gv (fun _ k=>k p13 c13 r_10) [0,1,2,3,4] (gq [0,1,2,3,4])))<|qO<|qN<|qQ<|qP<|zM (gv (fun _ k=>k p13 c13 r_10) [0,1,2,3,4] (gq [0,1,2,3,4])))<|fun s4 _ k p12 c12 r_9=>k<|zD<|jA 1 u<|zR<|
  qR (fun s6 K=>∀ r_12 r_13 p16 c16 r_14,K [1,4] [(1, r_12), (2, r_13), (3, bx b2 189 (uC [] 40 s6.2.2.2.2 [])), (4, r_14)] [3,4] [(2, .slice p2 (List.length s1.1) c2), (3, .slice p3 (List.length s1.2) c3), (7, sv p16 s6.2.2.1 c16), (9, vi s6.2.2.2.1)] [Ar (zK .i64) 3 r_12 p2 c2 (List.length s1.1) s6.1, Ar (zK .i64) 3 r_13 p3 c3 (List.length s1.2) s6.2.1, Al (zK .i64) 3 r_14 p16 c16 s6.2.2.1]) (gv (fun _ k=>k r_1 r_2 p12 c12 r_9) [0,1,2,3,4] (gq [1,2,0,3,4]))<|
  fun s6 _ k r_12 r_13 p16 c16 r_14=>k<|zD<|jA 3 u<|zJ u (jC<|zD<|zR<|
  wK (fun s7 K=>∀ r_15 r_16,K [1,2,3,4,7,9] [(1, r_15), (2, r_16)] [2,3,4] [] [Ar (zK .i64) 3 r_15 p2 c2 (List.length s1.1) s7.1, Ar (zK .i64) 3 r_16 p3 c3 (List.length s1.2) s7.2]) (jA 3 u<|zR<|
  qR (fun s8 K=>∀ r_17 r_18,K [1,2,3,4,7,9,59,60] [(1, r_17), (2, r_18)] [2,3,4] [(61, vi s8.2.2)] [Ar (zK .i64) 3 r_17 p2 c2 (List.length s1.1) s8.1, Ar (zK .i64) 3 r_18 p3 c3 (List.length s1.2) s8.2.1]) (gv (fun _ k=>k r_12 r_13) [0,1,2,3,4] (gq [0,1,2,3,4]))<|
  fun s8 _ k r_17 r_18=>k<|jA 1 u<|zD<|zJ u (jC<|zD<|zR<|zC<|tV 2 u u u<|fun x6 h5 b5 hp1=>jlA 4 2 sI false oI u hp1 h5 u<|zA 1 u<|zB<|qM<|zA 5 u<|tV 0 u u u<|fun x7 h6 b6 hp2=>
  jsA .s 1 0 sI 1 false u hp2 h6 u u vI<|fun r_19=>tV 2 u u u<|fun x8 h7 b7 hp3=>jsA .s 2 2 sI s6.2.2.2.1 false u hp3 h7 u u vI<|fun r_20=>zV<|qF<|zP<|jB 2 u<|
  qG (gv (fun _ k=>k r_19 r_20) [0,1,2,3,4] (gq [1,0,4,5,6])))<|qO<|qN<|qQ<|qP<|zM (gv (fun _ k=>k r_17 r_18) [0,1,2,3,4] (gq [0,1,2,3,4])))<|fun s7 _ k r_15 r_16=>k<|zC<|zA 1 u<|vJ (zK .i64) 3<|zB<|zD<|jA 3 u<|zR<|
  qR (fun s9 K=>∀ r_21 r_22 p17 c17 r_23,K [1,2,3,4,9,73,74] [(1, r_21), (2, r_22), (3, bx b2 189 (uC [] 40 s9.2.2.2.2 [])), (5, r_23)] [3,4,5] [(12, sv p17 s9.2.2.1 c17), (75, vi s9.2.2.2.1)] [Ar (zK .i64) 3 r_21 p2 c2 (List.length s1.1) s9.1, Ar (zK .i64) 3 r_22 p3 c3 (List.length s1.2) s9.2.1, Al (zK .i64) 3 r_23 p17 c17 s9.2.2.1]) (gv (fun _ k=>k r_15 r_16 none 0 []) [0,1,2,3,4,5] (gq [1,2,0,3,4,5]))<|
  fun s9 _ k r_21 r_22 p17 c17 r_23=>k<|jA 1 u<|zD<|zJ u (jC<|zD<|zR<|zC<|tV 3 u u u<|fun x9 h8 b8 hp4=>jlA 4 3 sI false oI u hp4 h8 u<|zA 1 u<|zB<|zC<|qS 0 2 u u u<|zA 1 u<|
  qI zLN u (cq [4,5])<|fun r4 _ k p18 c18=>k<|zA 2 u<|zB<|zR<|
  qR (fun s10 K=>∀ r_24 r_25 p19 c19 r_26,K [1,2,3,4,9,73,74,75,81,82] [(1, r_24), (2, r_25), (3, bx b2 189 (uC [] 40 s10.2.2.2.2 [])), (5, r_26)] [4,0,5,6] [(12, sv p19 s10.2.2.1 c19), (83, vi s10.2.2.2.1)] [Ar (zK .i64) 3 r_24 p2 c2 (List.length s1.1) s10.1, Ar (zK .i64) 3 r_25 p3 c3 (List.length s1.2) s10.2.1, Al (zK .i64) 3 r_26 p19 c19 s10.2.2.1]) (gv (fun _ k=>k r_21 r_22 p17 c17 r_23) [0,1,2,3,4,5] (gq [1,2,3,4,0,5,6]))<|
  fun s10 _ k r_24 r_25 p19 c19 r_26=>k<|jA 1 u<|zD<|zJ u (jC<|zD<|zR<|zC<|qX 4 u u u<|fun x10 b9 o2=>qW false oI (gk 0) u<|zA 1 u<|zB<|zD<|zC<|zA 2 u<|tV 1 u u u<|fun x11 h9 b10 hp5=>
  jlA 1 1 sI false oI u hp5 h9 u<|zA 1 u<|zB<|zJ u (qO<|qN<|qP<|zP<|jB 2 u<|qG (gv (fun _ k=>k r_24 r_25 p19 c19 r_26) [0,1,2,3,4,5] (gq [1,2,3,4,5,6,7])))<|jC<|zC<|zA 5 u<|tV 1 u u u<|fun x12 h10 b11 hp6=>
  jsA .s 1 1 sI 2 false u hp6 h10 u u vI<|fun r_27=>tV 3 u u u<|fun x13 h11 b12 hp7=>jsA .s 2 3 sI s6.2.2.2.1 false u hp7 h11 u u vI<|fun r_28=>zB<|zC<|qS 0 2 u u u<|zA 1 u<|qI zLN u (cq [8,9])<|
  fun r5 _ k p20 c20=>k<|zA 2 u<|zB<|zR<|
  qR (fun s11 K=>∀ p21 c21 r_29,K [1,2,3,4,9,73,74,75,81,82,83,101,102] [(3, bx b2 189 (uC [] 40 s11.2.2 [])), (5, r_29)] [2,1,7,8,0,9,10] [(12, sv p21 s11.1 c21), (103, vi s11.2.1)] [Al (zK .i64) 3 r_29 p21 c21 s11.1]) (gv (fun _ k=>k p19 c19 r_26) [0,1,2,3,4,5] (gq [6,2,1,7,8,0,9,10]))<|
  fun s11 _ k p21 c21 r_29=>k<|jA 1 u<|zD<|zJ u (jC<|zD<|zR<|zC<|qX 5 u u u<|fun x14 b13 o3=>qW false oI (gk 0) u<|zA 1 u<|zB<|zC<|zA 1 u<|jiL 40 u u<|fun u4 h12=>jlL 3 40 s11.2.2 [] [] h12 u u<|zA 1 u<|
  jiL 40 u u<|fun u5 h13=>jsL (zS ((yR s11.2.2 x14) - 1)) .s 3 40 s11.2.2 [] [] h13 u u u<|zB<|wK (fun s12 K=>K [1,2,3,4,9,12,18,73,74,75,81,82,83,101,102,103] [] [2,3,1,4,5,6,7,8] [(122, vb s12)] []) (qM<|zA 1 u<|
  jiL 40 u u<|fun u6 h14=>jlL 3 40 (xR 40 s11.2.2 x14 (zS ((yR s11.2.2 x14) - 1))) [] [] h14 u u<|zA 2 u<|wL 116 u (zA 2 u<|tV 2 u u u<|fun x15 h15 b14 hp8=>jlA 1 2 sI false oI u hp8 h15 u<|zA 1 u<|
  zL (vb (x15 == 3))<|zV<|zM (gv kk [0,1,2,3,4,5] (gq [2,3,1,4,5,6,7,8])))<|zA 5 u<|zL (vb false)<|zV<|zM (gv kk [0,1,2,3,4,5] (gq [2,3,1,4,5,6,7,8])))<|fun s12 _ k=>k<|zJ u (qM<|zA 2 u<|
  wT .s (e := zK .i64) 3 [vi x14] ([x14] : List Int) (rC vI rN)<|fun p22 c22=>wM .s 5 3 u (gk 0) u u<|fun x16 r_30 p23 c23=>zA 1 u<|zV<|qF<|zP<|jB 2 u<|qG (gv (fun _ k=>k p23 c23 r_30) [0,1,2,3,4,5] (gq [0,2,3,5,6,7,8,9]))
  )<|wF<|qF<|zP<|jB 2 u<|qG (gv (fun _ k=>k p21 c21 r_29) [0,1,2,3,4,5] (gq [2,0,1,3,4,5,6,7])))<|qO<|qN<|qQ<|qP<|qF<|zP<|jB 2 u<|qG (gv (fun _ k=>k r_27 r_28 p21 c21 r_29) [0,1,2,3,4,5] (gq [1,2,0,3,4,6,7])))<|qO<|qN<|qQ<|
  qP<|qF<|zP<|jB 2 u<|qG (gv (fun _ k=>k r_24 r_25 p19 c19 r_26) [0,1,2,3,4,5] (gq [0,1,2,3,5,6])))<|qO<|qN<|qQ<|qP<|zP<|jB 2 u<|qF<|zP<|jB 3 u<|qG (gv (fun _ k=>k r_21 r_22 p17 c17 r_23) [0,1,2,3,5] (gq [0,1,2,4,5])))<|
  qO<|qN<|qQ<|qP<|zP<|jA 4 u<|zH<|wY 1 0 u u<|wY 2 2 u u<|jre 1 2 u u<|jre 1 3 u u<|wG u (lT u (lT u lN)) (fun _ k=>k p2 c2 p3 c3) [] (gq [1,0])
theorem zO4 {qd : Prop} {y0 : wJ} : qC qd prog 22 [.agg (yY y0 p1 c1).toArray] [] [Rl vO p1 c1 y0.2, Pt (yH 64 (zK .u8)) 4 0 yW] (zDd y0) fun r K=>∀ p2 c2,K (sv p2 r c2) [] [Rl (zK .i64) p2 c2 r] :=
 zY call22 func22 u fun X=>zC<|qV .s u<|fun b1=>zA 1 u<|zB<|zC<|qS 0 2 u u u<|qI zTY u (cq [0,1])<|fun r1 _ k p2 c2 p3 c3=>k<|zA 5 u<|zB<|jA 2 u<|zH<|zQ u u (fun _ k=>k p2 c2) [] (gq [0])
theorem zC9 {qd : Prop} {y0 : List Int} {y1 : Int} : qC qd prog 21 [sv p1 y0 c1, vi y1] [] [Rl (zK .i64) p1 c1 y0] (zBR y0 y1) fun r K=>∀ p2 c2,K (sv p2 r c2) [] [Rl (zK .i64) p2 c2 r] :=
 zY call21 func21 u fun X=>jA 1 u<|zC<|zA 1 u<|vJ (zK .i64) 3<|zB<|zD<|jA 3 u<|zR<|qR (fun s1 K=>∀ p2 c2 r_1,K [1,8,9] [(0, r_1)] [1] [(5, sv p2 s1.1 c2), (10, vi s1.2)] [Al (zK .i64) 3 r_1 p2 c2 s1.1]) (gv (fun _ k=>k none 0 []) [0] (gq [0,1]))<|
  fun s1 _ k p2 c2 r_1=>k<|jA 1 u<|zD<|zJ u (jC<|zD<|zR<|zC<|zA 1 u<|qX 1 u u u<|fun x1 b1 o1=>qW false oI (gk 0) u<|zA 2 u<|zB<|jA 3 u<|zJ u (qM<|zA 2 u<|
  wT .s (e := zK .i64) 3 [vi s1.2] ([s1.2] : List Int) (rC vI rN)<|fun p3 c3=>wM .s 0 2 u (gk 0) u u<|fun x2 r_2 p4 c4=>zA 1 u<|zV<|qF<|zP<|jB 2 u<|qG (gv (fun _ k=>k p4 c4 r_2) [0] (gq [0,4])))<|wF<|qF<|zP<|jB 2 u<|
  qG (gv (fun _ k=>k p2 c2 r_1) [0] (gq [1,2])))<|qO<|qN<|qQ<|qP<|zP<|jA 2 u<|zH<|wY 0 0 u u<|zQ u u (fun _ k=>k p2 c2) [] (gq [0])
theorem zKJ {qd : Prop} {y0 : List vT} : qC qd prog 63 [sv p1 y0 c1] [] [Rl xU p1 c1 y0] (zEQ y0) fun r K=>∀ p2 c2,K (sv p2 r c2) [] [Rl xU p2 c2 r] :=
 zY call63 func63 u fun X=>jA 1 u<|zD<|zC<|zA 1 u<|jv (fun h=>z3A h u underlying25)<|zB<|jnl (m1 := some ([] : List vT)) u (gk 0) (fun h=>by first|(rw [h];done)|(rw [h];rfl)|(simp [h,wE];done)) (jA 1 u<|zH<|zZ<|
  zQ u u (fun _ k=>k none 0) [] ⟨gn,d⟩)<|jC<|zC<|xN .s (e := xU) 90 [] ([] : List vT) rN<|fun r_1 p2 c2=>zA 1 u<|wM .s 0 0 u (gk 1) u u<|fun x1 r_2 p3 c3=>zA 1 u<|zB<|zH<|wY 0 0 u u<|
  zQ u u (fun _ k=>k p3 c3) [] (gq [0])
theorem zDR {qd : Prop} {y0 : List vQ} : qC qd prog 65 [sv p1 y0 c1] [] [Rl xI p1 c1 y0] (zDa y0) fun r K=>∀ p2 c2,K (sv p2 r c2) [] [Rl xI p2 c2 r] :=
 zY call65 func65 u fun X=>jA 1 u<|zD<|zC<|zA 1 u<|jv (fun h=>z3A h u underlying27)<|zB<|jnl (m1 := some ([] : List vQ)) u (gk 0) (fun h=>by first|(rw [h];done)|(rw [h];rfl)|(simp [h,wE];done)) (jA 1 u<|zH<|zZ<|
  zQ u u (fun _ k=>k none 0) [] ⟨gn,d⟩)<|jC<|zC<|xN .s (e := xI) 97 [] ([] : List vQ) rN<|fun r_1 p2 c2=>zA 1 u<|wM .s 0 0 u (gk 1) u u<|fun x1 r_2 p3 c3=>zA 1 u<|zB<|zH<|wY 0 0 u u<|
  zQ u u (fun _ k=>k p3 c3) [] (gq [0])
theorem zJC {qd : Prop} {y0 : List qL} : qC qd prog 64 [sv p1 y0 c1] [] [Rl yO p1 c1 y0] (zGX y0) fun r K=>∀ p2 c2 r_1,K (sv p2 r c2) [r_1] [Al yO 95 r_1 p2 c2 r] :=
 zY call64 func64 u fun X=>jA 1 u<|zD<|zC<|zA 1 u<|jv (fun h=>z3A h u underlying26)<|zB<|jnl (m1 := some ([] : List qL)) u (gk 0) (fun h=>by first|(rw [h];done)|(rw [h];rfl)|(simp [h,wE];done)) (jA 1 u<|zH<|zZ<|vJ yO 95<|
  jrE 0 2 u u<|zQ u u (fun _ k=>k none 0 []) [0] (gq [0]))<|jC<|zC<|xN .s (e := yO) 95 [] ([] : List qL) rN<|fun r_1 p2 c2=>zA 1 u<|wM .s 0 0 u (gk 1) u u<|fun x1 r_2 p3 c3=>zA 1 u<|zB<|zH<|
  zQ u u (fun _ k=>k p3 c3 r_2) [0] (gq [0])
theorem zRN {qd : Prop} {y0 : zO} {y1 : List zG} : qC qd prog 23 [.agg (vN y0 p1 c1 p2 c2 p3 c3).toArray, sv p4 y1 c4] [] (vV y0 p1 c1 p2 c2 p3 c3 [Rl wO p4 c4 y1]) (zD4 y0 y1) fun r K=>∀ p5 c5 p6 c6 p7 c7,K (.agg (vN r p5 c5 p6 c6 p7 c7).toArray) [] (vV r p5 c5 p6 c6 p7 c7 []) :=
 zY call23 func23 u fun X=>zC<|qV .s u<|fun b1=>wN .s (.agg #[.slice none 0 0, .slice none 0 0, .slice none 0 0])<|fun b2=>zB<|
  wK (fun s1 K=>∀ b3 p5 c5 p6 c6 r_1 p7 c7,K [1,2,4] [(2, bx b3 29 [sv p5 s1.1 c5, sv p6 s1.2.1 c6, sv p7 s1.2.2 c7]), (3, r_1)] [3,0,1,2] [(5, pt b3 0)] [Rl xU p5 c5 s1.1, Al yO 95 r_1 p6 c6 s1.2.1, Rl xI p7 c7 s1.2.2]) (
  xB [] [0] 12<|qY 0 0 u u<|wI 1 0 u u u u<|qY 3 1 u u<|wI 4 0 u u u u<|qY 6 2 u u<|wI 7 0 u u u u<|jd2 2 10 (zX (.f u) [] [] zKJ u u u (cq [0])<|fun r1 _ k p8 c8=>k<|
  qB<|jd2 5 10 (zX (.f u) [] [] zJC u u u (cq [2])<|fun r2 _ k p9 c9 r_2=>k<|qB<|jd2 8 10 (zX (.f u) [] [] zDR u u u (cq [4])<|fun r3 _ k p10 c10=>k<|qB<|
  wU 9 (.agg #[sv p8 r1 c8, sv p9 r2 c9, sv p10 r3 c10]) u<|qH 10<|wN (.f u) (.agg #[.slice none 0 0, .slice none 0 0, .slice none 0 0])<|fun b4=>qB<|qH 11<|qJ (o := 0) (.f u) 3 u u u<|qB<|wA<|
  zM (gv (fun _ k=>k b4 p8 c8 p9 c9 r_2 p10 c10) [0,1,3,2] (gq [2,1,0,6,3,4,5]))) <|wN (.f u) (.agg #[.slice none 0 0, .slice none 0 0, .slice none 0 0])<|fun b5=>qB<|qH 8<|
  zX (.f u) [] [] zDR u u u (cq [4])<|fun r4 _ k p11 c11=>k<|qB<|wU 9 (.agg #[sv p8 r1 c8, sv p9 r2 c9, sv p11 r4 c11]) u<|qH 11<|qJ (o := 0) (.f u) 3 u u u<|qB<|wA<|
  zM (gv (fun _ k=>k b5 p8 c8 p9 c9 r_2 p11 c11) [0,1,3,2] (gq [2,1,0,6,3,4,5]))) <|wN (.f u) (.agg #[.slice none 0 0, .slice none 0 0, .slice none 0 0])<|fun b6=>qB<|qH 5<|zX (.f u) [] [] zJC u u u (cq [2])<|
  fun r5 _ k p12 c12 r_3=>k<|qB<|qH 8<|zX (.f u) [] [] zDR u u u (cq [4])<|fun r6 _ k p13 c13=>k<|qB<|wU 9 (.agg #[sv p8 r1 c8, sv p12 r5 c12, sv p13 r6 c13]) u<|qH 11<|
  qJ (o := 0) (.f u) 2 u u u<|qB<|wA<|zM (gv (fun _ k=>k b6 p8 c8 p12 c12 r_3 p13 c13) [0,1,2,3] (gq [2,1,0,6,3,4,5]))) <|wN (.f u) (.agg #[.slice none 0 0, .slice none 0 0, .slice none 0 0])<|fun b7=>qB<|qH 2<|
  zX (.f u) [] [] zKJ u u u (cq [0])<|fun r7 _ k p14 c14=>k<|qB<|qH 5<|zX (.f u) [] [] zJC u u u (cq [2])<|fun r8 _ k p15 c15 r_4=>k<|qB<|qH 8<|
  zX (.f u) [] [] zDR u u u (cq [4])<|fun r9 _ k p16 c16=>k<|qB<|wU 9 (.agg #[sv p14 r7 c14, sv p15 r8 c15, sv p16 r9 c16]) u<|qH 11<|qJ (o := 0) (.f u) 2 u u u<|qB<|wA<|
  zM (gv (fun _ k=>k b7 p14 c14 p15 c15 r_4 p16 c16) [0,1,2,3] (gq [2,1,0,6,3,4,5])))<|fun s1 _ k b3 p5 c5 p6 c6 r_1 p7 c7=>k<|
  wK (fun s2 K=>∀ p17 c17 r_5,K [4,5] [(0, []), (2, bx b3 29 [sv p5 s1.1 c5, sv p17 s2 c17, sv p7 s1.2.2 c7]), (3, r_5)] [0,2] [] [Al yO 95 r_5 p17 c17 s2]) (zC<|zN 1 u<|zT 0 u u u<|zA 2 u<|zB<|zR<|
  qR (fun s3 K=>∀ p18 c18 r_6,K [1,2,4,5,21,22] [(2, bx b3 29 [sv p5 s1.1 c5, sv p18 s3.2 c18, sv p7 s1.2.2 c7]), (3, r_6)] [3,5,4,6,0,2] [(23, vi s3.1)] [Al yO 95 r_6 p18 c18 s3.2]) (gv (fun _ k=>k p6 c6 r_1) [0,1,2,3] (gq [1,3,5,4,6,0,2]))<|
  fun s3 _ k p18 c18 r_6=>k<|jA 1 u<|zD<|zJ u (jC<|zD<|zR<|zC<|zA 1 u<|qX 2 u u u<|fun x1 b8 o1=>qW true zM4 (gk 0) u<|fun p19 c19=>wN .s (.agg #[vs [], vb false, vi 0, .slice none 0 0, vb false, vs []])<|fun b9=>
  zA 1 u<|qJ .s 4 u u u<|zB<|yA [] [2, 4] 9<|qY 0 1 u u<|wI 1 2 u u u u<|qA 6 [2] u<|qY 3 3 u u<|wI 4 4 u u u u<|qH 5<|zX (.f u) [] [] zKH u u u (cq [0])<|
  fun r10 _ k p20 c20 r_7=>k<|qB<|jdI 6 3 u u u u<|fun x2 h1 b10 hp1=>qY 7 3 u u<|wY 5 0 u u<|qH 8<|jsA (.f u) 3 4 sI.snd.snd.snd.fst r10 false u hp1 h1 u u (vL (gk 0))<|fun r_8=>qB<|wA<|zP<|zC<|zN 2 u<|
  zT 0 u u u<|zA 2 u<|zB<|zR<|
  jbL (fun q_=>[bx b1 29 (vN y0 p1 c1 p2 c2 p3 c3), bx b2 29 [.slice none 0 0, .slice none 0 0, .slice none 0 0], bx b3 29 [sv p5 s1.1 c5, .slice p18 q_ c18, sv p7 s1.2.2 c7], r_8, bx b9 95 (zOv x1 p19 c19), []]) (gk 0) u<|
  qR (fun s4 K=>∀ p21 c21 r_9,K [1,2,4,5,6,7,21,22,23,37,38] [(2, bx b3 29 [sv p5 s1.1 c5, sv p21 s4.2 c21, sv p7 s1.2.2 c7]), (3, r_9)] [7,8,10,9,11,12,4] [(39, vi s4.1)] [Al yO 95 r_9 p21 c21 s4.2]) (gv (fun _ k=>k p18 c18 r_8) [0,1,2,3,4,905] (gq [0,7,8,10,9,11,12,4]))<|
  fun s4 _ k p21 c21 r_9=>k<|jA 1 u<|zD<|zJ u (jC<|zD<|zR<|zC<|qX 3 u u u<|fun x3 b11 o2=>qW true zQw (gk 0) u<|wN .s (.agg #[vs [], vi 0, vb false, vs []])<|fun b12=>qJ .s 6 u u u<|zB<|
  wK (fun s5 K=>K [1,2,4,5,6,7,9,21,22,23,37,38,39] [] [2,3,4,5,6,1,7,8] [(58, vb s5)] []) (qM<|zN 1 u<|zT 4 u u u<|zA 2 u<|wL 46 u (zN 0 u<|zT 6 u u u<|zN 0 u<|zT 4 u u u<|zA 1 u<|
  zL (vb (x3.1 == x1.1))<|zA 1 u<|wL 53 u (zA 1 u<|zN 2 u<|qS 6 2 u u u<|qI zL5 u (cq [2])<|fun r11 _ k=>k<|zL (vb r11)<|zV<|zM (gv kk [0,1,2,3,4,905,6] (gq [2,3,4,5,6,1,7,8])))<|zA 4 u<|
  zL (vb false)<|zV<|zM (gv kk [0,1,2,3,4,905,6] (gq [2,3,4,5,6,1,7,8])))<|zA 5 u<|zL (vb false)<|zA 5 u<|zL (vb false)<|zV<|zM (gv kk [0,1,2,3,4,905,6] (gq [2,3,4,5,6,1,7,8])))<|fun s5 _ k=>k<|zJ u (qM<|
  zN 1 u<|zT 2 u u u<|zA 1 u<|zN 1 u<|zT 6 u u u<|tV 5 u u u<|fun x4 h2 b13 hp2=>zN 2 u<|jsA .s 3 5 sI.snd.snd.fst x3.2.1 false u hp2 h2 u u vI<|fun r_10=>zV<|qF<|zP<|jB 2 u<|
  jbL (fun q_=>[bx b1 29 (vN y0 p1 c1 p2 c2 p3 c3), bx b2 29 [.slice none 0 0, .slice none 0 0, .slice none 0 0], bx b3 29 [sv p5 s1.1 c5, .slice p21 q_ c21, sv p7 s1.2.2 c7], r_10, bx b9 95 (zOv x1 p19 c19), [], bx b12 97 [vs x3.1, vi x3.2.1, vb x3.2.2.1, vs x3.2.2.2]]) (gk 0) u<|
  qG (gv (fun _ k=>k p21 c21 r_10) [0,1,2,3,4,905] (gq [0,2,3,4,5,6,8,9])))<|wF<|qF<|zP<|jB 2 u<|qG (gv (fun _ k=>k p21 c21 r_9) [0,1,2,3,4,905] (gq [5,0,1,2,3,4,6,7])))<|qO<|qN<|qQ<|qP<|qF<|zP<|jB 2 u<|
  qG (gv (fun _ k=>k p21 c21 r_9) [0,1,2,3] (gq [0,1,2,4,3,5,6])))<|qO<|qN<|qQ<|qP<|zM (gv (fun _ k=>k p18 c18 r_6) [900,1,2,3] (gq [0,5,6])))<|fun s2 _ k p17 c17 r_5=>k<|zC<|qS 2 3 u u u<|qJ .s 1 u u u<|zB<|zH<|
  wY 3 0 u u<|wG u (lC 1 (.agg #[sv p5 s1.1 c5, sv p17 s2 c17, sv p7 s1.2.2 c7]) u u lN) (fun _ k=>k p5 c5 p17 c17 p7 c7) [] (gq [2,0,3])
theorem zOU {qd : Prop} {y0 : zO} {y1 : yN} : qC qd prog 8 [.agg (vN y0 p1 c1 p2 c2 p3 c3).toArray, .agg #[vi y1.1, vi y1.2]] [] (vV y0 p1 c1 p2 c2 p3 c3 [Pt (yH 64 (zK .u8)) 4 0 yW]) (zDh y0 y1) fun r K=>∀ p4 c4 p5 c5 p6 c6 p7 c7 p8 c8 p9 c9,K (.tuple #[.agg (zKM r.1 p4 c4 p5 c5 p6 c6 p7 c7 p8 c8 p9 c9).toArray, vi r.2]) [] (zK0 r.1 p4 c4 p5 c5 p6 c6 p7 c7 p8 c8 p9 c9 []) :=
 zY call8 func8 u fun X=>zC<|qV .s u<|fun b1=>qV .s u<|fun b2=>wN .s (.agg #[.slice none 0 0, .slice none 0 0, .slice none 0 0, .slice none 0 0, .slice none 0 0, vi 0, .slice none 0 0])<|fun b3=>zA 1 u<|zB<|zC<|qS 0 3 u u u<|
  qI zTV u (cq [0,1,2])<|fun r1 _ k p4 c4=>k<|zA 5 u<|zB<|zD<|jA 2 u<|zJ u (zC<|zL (.agg #[.slice none 0 0, .slice none 0 0, .slice none 0 0, .slice none 0 0, .slice none 0 0, vi 0, .slice none 0 0])<|zA 1 u<|
  qJ .s 2 u u u<|zA 1 u<|zB<|zH<|zZ<|
  wG u (lC 2 (.agg #[.slice none 0 0, .slice none 0 0, .slice none 0 0, .slice none 0 0, .slice none 0 0, vi 0, .slice none 0 0]) u u (lT u lN)) (fun _ k=>k none 0 none 0 none 0 none 0 none 0 none 0) [] ⟨gn,gn,gn,gn,gn,gn,d⟩)<|jC<|
  zD<|tK (fun K=>K [2,3,4,6] [] [0,1,2,3,4] [(37, vb (if y1.1 != 1 then (y1.1 != 2) || ((y1.2 != 1) && (y1.2 != 2)) else (y1.2 != 1) && (y1.2 != 2)))] []) (qM<|zN 0 u<|zT 1 u u u<|zA 2 u<|
  uF (b := y1.1 != 1) 23 u (fun hb1=>zN 0 u<|zT 1 u u u<|zA 1 u<|zL (vb (y1.1 != 2))<|zA 1 u<|uF (b := y1.1 != 2) 28 u (fun hb2=>zA 8 u<|zL (vb true)<|zV<|
  wX 37 (vb (if y1.1 != 1 then (y1.1 != 2) || ((y1.2 != 1) && (y1.2 != 2)) else (y1.2 != 1) && (y1.2 != 2))) u (by rw [hb1,hb2]; rfl)<|zM (gv kk [0,1,2] (gq [0,1,2,3,4])))<|fun hb2=>zN 1 u<|zT 1 u u u<|zA 2 u<|
  uF (b := y1.2 != 1) 32 u (fun hb3=>zN 1 u<|zT 1 u u u<|zA 1 u<|zL (vb (y1.2 != 2))<|zL (vb (y1.2 != 2))<|zV<|
  wX 37 (vb (if y1.1 != 1 then (y1.1 != 2) || ((y1.2 != 1) && (y1.2 != 2)) else (y1.2 != 1) && (y1.2 != 2))) u (by rw [hb1,hb2,hb3]; rfl)<|zM (gv kk [0,1,2] (gq [0,1,2,3,4])))<|fun hb3=>zA 3 u<|zL (vb false)<|
  zL (vb false)<|zV<|wX 37 (vb (if y1.1 != 1 then (y1.1 != 2) || ((y1.2 != 1) && (y1.2 != 2)) else (y1.2 != 1) && (y1.2 != 2))) u (by rw [hb1,hb2,hb3]; rfl)<|zM (gv kk [0,1,2] (gq [0,1,2,3,4])))<|fun hb1=>zA 3 u<|
  zL (vb false)<|zA 1 u<|zN 1 u<|zT 1 u u u<|zA 2 u<|uF (b := y1.2 != 1) 32 u (fun hb4=>zN 1 u<|zT 1 u u u<|zA 1 u<|zL (vb (y1.2 != 2))<|zL (vb (y1.2 != 2))<|zV<|
  wX 37 (vb (if y1.1 != 1 then (y1.1 != 2) || ((y1.2 != 1) && (y1.2 != 2)) else (y1.2 != 1) && (y1.2 != 2))) u (by rw [hb1,hb4]; rfl)<|zM (gv kk [0,1,2] (gq [0,1,2,3,4])))<|fun hb4=>zA 3 u<|zL (vb false)<|zL (vb false)<|
  zV<|wX 37 (vb (if y1.1 != 1 then (y1.1 != 2) || ((y1.2 != 1) && (y1.2 != 2)) else (y1.2 != 1) && (y1.2 != 2))) u (by rw [hb1,hb4]; rfl)<|zM (gv kk [0,1,2] (gq [0,1,2,3,4])))<|fun _ k=>k<|zJ u (zC<|
  zL (.agg #[.slice none 0 0, .slice none 0 0, .slice none 0 0, .slice none 0 0, .slice none 0 0, vi 0, .slice none 0 0])<|qJ .s 2 u u u<|zA 1 u<|zB<|zH<|zZ<|
  wG u (lC 2 (.agg #[.slice none 0 0, .slice none 0 0, .slice none 0 0, .slice none 0 0, .slice none 0 0, vi 0, .slice none 0 0]) u u (lT u lN)) (fun _ k=>k none 0 none 0 none 0 none 0 none 0 none 0) [] ⟨gn,gn,gn,gn,gn,gn,d⟩)<|jC<|
  zC<|zA 2 u<|qS 0 3 u u u<|zA 1 u<|qS 1 2 u u u<|qI zO1 u (cq [1,2,3,0])<|fun r2 _ k p5 c5=>k<|qI zQ2 u (cq [0])<|fun r3 _ k p6 c6=>k<|zA 3 u<|wN .s (.agg #[vi 0, .slice none 0 0])<|
  fun b4=>qJ .s 3 u u u<|zA 1 u<|zB<|zD<|jA 2 u<|zJ u (zC<|zL (.agg #[.slice none 0 0, .slice none 0 0, .slice none 0 0, .slice none 0 0, .slice none 0 0, vi 0, .slice none 0 0])<|zA 1 u<|qJ .s 2 u u u<|
  zA 1 u<|zB<|zH<|zZ<|
  wG u (lC 2 (.agg #[.slice none 0 0, .slice none 0 0, .slice none 0 0, .slice none 0 0, .slice none 0 0, vi 0, .slice none 0 0]) u u (lT u lN)) (fun _ k=>k none 0 none 0 none 0 none 0 none 0 none 0) [] ⟨gn,gn,gn,gn,gn,gn,d⟩)<|jC<|
  zC<|zA 1 u<|qS 3 2 u u u<|qI zO4 u (cq [0,6])<|fun r4 _ k p7 c7=>k<|qI zC9 u (cq [0])<|fun r5 _ k p8 c8=>k<|qI zHH u (cq [4,0])<|fun r6 _ k p9 c9=>k<|zA 1 u<|zB<|zC<|
  qS 0 3 u u u<|zA 1 u<|qI zRN u (cq [6,7,8,0])<|fun r7 _ k p10 c10 p11 c11 p12 c12=>k<|zA 1 u<|
  zL (.agg #[sv p10 r7.1 c10, sv p11 r7.2.1 c11, sv p12 r7.2.2 c12, sv p4 r1.1 c4, .slice none 0 0, vi 0, .slice none 0 0])<|
  wN .s (.agg #[.slice none 0 0, .slice none 0 0, .slice none 0 0, .slice none 0 0, .slice none 0 0, vi 0, .slice none 0 0])<|fun b5=>qJ .s 4 u u u<|zB<|zC<|zN 0 u<|qS 4 3 u u u<|zA 1 u<|qS 1 2 u u u<|
  qI zO1 u (cq [0,1,2,8])<|fun r8 _ k p13 c13=>k<|zN 4 u<|qJ .s 4 u u u<|zB<|zD<|zC<|zA 2 u<|zN 4 u<|zT 4 u u u<|qI zQ2 u (cq [0])<|fun r9 _ k p14 c14=>k<|zA 3 u<|zN 5 u<|
  qJ .s 4 u u u<|zA 1 u<|zB<|jA 2 u<|zJ u (zC<|zL (.agg #[.slice none 0 0, .slice none 0 0, .slice none 0 0, .slice none 0 0, .slice none 0 0, vi 0, .slice none 0 0])<|zA 1 u<|qJ .s 2 u u u<|zA 1 u<|zB<|zH<|
  zZ<|wG u (lC 2 (.agg #[.slice none 0 0, .slice none 0 0, .slice none 0 0, .slice none 0 0, .slice none 0 0, vi 0, .slice none 0 0]) u u (lT u lN)) (fun _ k=>k none 0 none 0 none 0 none 0 none 0 none 0) [] ⟨gn,gn,gn,gn,gn,gn,d⟩
  )<|jC<|zC<|qS 4 7 u u u<|qJ .s 2 u u u<|zA 1 u<|zB<|zH<|
  wG u (lC 2 (.agg #[sv p10 r7.1 c10, sv p11 r7.2.1 c11, sv p12 r7.2.2 c12, sv p4 r1.1 c4, sv p13 r8 c13, vi r9.1.1, sv p14 r9.1.2 c14]) u u (lT u lN)) (fun _ k=>k p10 c10 p11 c11 p12 c12 p4 c4 p13 c13 p14 c14) [] (gq [2,3,4,10,1,0])
theorem zJR {qd : Prop} : qC qd prog 71 [.func (.func 73) #[] #[]] [] [] (zEY) fun r K=>∀ b1,K (.func (.func 147) #[] #[pt b1 0]) [bx b1 78 [.func (.func 73) #[] #[]]] [] :=
 zY call71 func71 u fun X=>zC<|qV .s u<|fun b1=>zA 1 u<|zB<|jA 2 u<|zH<|zQ u u (fun _ k=>k b1) [0] d
theorem zJA {qd : Prop} : qC qd prog 71 [.func (.func 75) #[] #[]] [] [] (zEE) fun r K=>∀ b1,K (.func (.func 147) #[] #[pt b1 0]) [bx b1 78 [.func (.func 75) #[] #[]]] [] :=
 zY call71 func71 u fun X=>zC<|qV .s u<|fun b1=>zA 1 u<|zB<|jA 2 u<|zH<|zQ u u (fun _ k=>k b1) [0] d
theorem zKX {qd : Prop} : qC qd prog 71 [.func (.func 74) #[] #[]] [] [] (zFd) fun r K=>∀ b1,K (.func (.func 147) #[] #[pt b1 0]) [bx b1 78 [.func (.func 74) #[] #[]]] [] :=
 zY call71 func71 u fun X=>zC<|qV .s u<|fun b1=>zA 1 u<|zB<|jA 2 u<|zH<|zQ u u (fun _ k=>k b1) [0] d
theorem zKm {qd : Prop} : qC qd prog 71 [.func (.func 72) #[] #[]] [] [] (zGC) fun r K=>∀ b1,K (.func (.func 147) #[] #[pt b1 0]) [bx b1 78 [.func (.func 72) #[] #[]]] [] :=
 zY call71 func71 u fun X=>zC<|qV .s u<|fun b1=>zA 1 u<|zB<|jA 2 u<|zH<|zQ u u (fun _ k=>k b1) [0] d
theorem zKl {qd : Prop} : qC qd prog 71 [.func (.func 146) #[] #[pt b1 0]] [bx b1 140 [.func (.func 70) #[] #[]]] [] (zGD) fun r K=>∀ b2,K (.func (.func 147) #[] #[pt b2 0]) [bx b1 140 [.func (.func 70) #[] #[]], bx b2 78 [.func (.func 146) #[] #[pt b1 0]]] [] :=
 zY call71 func71 u fun X=>zC<|qV .s u<|fun b2=>zA 1 u<|zB<|jA 2 u<|zH<|zQ u u (fun _ k=>k b2) [0,1] d
theorem zJl {qd : Prop} : qC qd prog 69 [.func (.func 70) #[] #[]] [] [] (zEp) fun r K=>∀ b1 b2,K (.func (.func 147) #[] #[pt b1 0]) [bx b1 78 [.func (.func 146) #[] #[pt b2 0]], bx b2 140 [.func (.func 70) #[] #[]]] [] :=
 zY call69 func69 u fun X=>zC<|qV .s u<|fun b1=>zA 1 u<|zB<|zC<|zA 1 u<|zX .s [0] [] zKl u u u d<|fun r1 _ k b2=>k<|zA 1 u<|zB<|zH<|zQ u u (fun _ k=>k b2 b1) [1,0] d
theorem zJx {qd : Prop} : qC qd prog 71 [.func (.func 146) #[] #[pt b1 0]] [bx b1 140 [.func (.func 77) #[] #[]]] [] (zFF) fun r K=>∀ b2,K (.func (.func 147) #[] #[pt b2 0]) [bx b1 140 [.func (.func 77) #[] #[]], bx b2 78 [.func (.func 146) #[] #[pt b1 0]]] [] :=
 zY call71 func71 u fun X=>zC<|qV .s u<|fun b2=>zA 1 u<|zB<|jA 2 u<|zH<|zQ u u (fun _ k=>k b2) [0,1] d
theorem zLd {qd : Prop} : qC qd prog 69 [.func (.func 77) #[] #[]] [] [] (zHm) fun r K=>∀ b1 b2,K (.func (.func 147) #[] #[pt b1 0]) [bx b1 78 [.func (.func 146) #[] #[pt b2 0]], bx b2 140 [.func (.func 77) #[] #[]]] [] :=
 zY call69 func69 u fun X=>zC<|qV .s u<|fun b1=>zA 1 u<|zB<|zC<|zA 1 u<|zX .s [0] [] zJx u u u d<|fun r1 _ k b2=>k<|zA 1 u<|zB<|zH<|zQ u u (fun _ k=>k b2 b1) [1,0] d
theorem zJw {qd : Prop} : qC qd prog 71 [.func (.func 146) #[] #[pt b1 0]] [bx b1 140 [.func (.func 76) #[] #[]]] [] (zFI) fun r K=>∀ b2,K (.func (.func 147) #[] #[pt b2 0]) [bx b1 140 [.func (.func 76) #[] #[]], bx b2 78 [.func (.func 146) #[] #[pt b1 0]]] [] :=
 zY call71 func71 u fun X=>zC<|qV .s u<|fun b2=>zA 1 u<|zB<|jA 2 u<|zH<|zQ u u (fun _ k=>k b2) [0,1] d
theorem zLg {qd : Prop} : qC qd prog 69 [.func (.func 76) #[] #[]] [] [] (zHh) fun r K=>∀ b1 b2,K (.func (.func 147) #[] #[pt b1 0]) [bx b1 78 [.func (.func 146) #[] #[pt b2 0]], bx b2 140 [.func (.func 76) #[] #[]]] [] :=
 zY call69 func69 u fun X=>zC<|qV .s u<|fun b1=>zA 1 u<|zB<|zC<|zA 1 u<|zX .s [0] [] zJw u u u d<|fun r1 _ k b2=>k<|zA 1 u<|zB<|zH<|zQ u u (fun _ k=>k b2 b1) [1,0] d
theorem zSx {qd : Prop} : qC qd prog 25 [] [] [] (zLQ) fun r K=>∀ b1 b2 b3 b4 b5 b6 b7 b8 b9 b10 b11,K (.slice (some ⟨b1, 0, none⟩) 10 10) [bx b1 78 [.nilFunc, .func (.func 147) #[] #[pt b2 0], .func (.func 147) #[] #[pt b4 0], .func (.func 147) #[] #[pt b5 0], .func (.func 147) #[] #[pt b6 0], .func (.func 147) #[] #[pt b7 0], .func (.func 147) #[] #[pt b8 0], .func (.func 147) #[] #[pt b10 0], .func (.func 78) #[] #[], .func (.func 79) #[] #[]], bx b2 78 [.func (.func 146) #[] #[pt b3 0]], bx b3 140 [.func (.func 70) #[] #[]], bx b4 78 [.func (.func 72) #[] #[]], bx b5 78 [.func (.func 73) #[] #[]], bx b6 78 [.func (.func 74) #[] #[]], bx b7 78 [.func (.func 75) #[] #[]], bx b8 78 [.func (.func 146) #[] #[pt b9 0]], bx b9 140 [.func (.func 76) #[] #[]], bx b10 78 [.func (.func 146) #[] #[pt b11 0]], bx b11 140 [.func (.func 77) #[] #[]]] [] :=
 zY call25 func25 u fun X=>jA 1 u<|zC<|qI zJl u d<|fun r1 _ k b1 b2=>k<|qI zKm u d<|fun r2 _ k b3=>k<|qI zJR u d<|fun r3 _ k b4=>k<|
  qI zKX u d<|fun r4 _ k b5=>k<|qI zJA u d<|fun r5 _ k b6=>k<|qI zLg u d<|fun r6 _ k b7 b8=>k<|qI zLd u d<|
  fun r7 _ k b9 b10=>k<|
  jbF .s 78 [.nilFunc, .func (.func 147) #[] #[pt b1 0], .func (.func 147) #[] #[pt b3 0], .func (.func 147) #[] #[pt b4 0], .func (.func 147) #[] #[pt b5 0], .func (.func 147) #[] #[pt b6 0], .func (.func 147) #[] #[pt b7 0], .func (.func 147) #[] #[pt b9 0], .func (.func 78) #[] #[], .func (.func 79) #[] #[]]<|
  fun b11=>zA 1 u<|zB<|zH<|zQ u u (fun _ k=>k b11 b1 b2 b3 b4 b5 b6 b7 b8 b9 b10) [10,0,1,2,3,4,5,6,7,8,9] d
theorem zR4 {qd : Prop} {y0 : wJ} : qC qd prog 70 [.agg (yY y0 p1 c1).toArray] [] [Rl vO p1 c1 y0.2, Pt (yH 64 (zK .u8)) 4 0 yW] (zEm y0) fun r K=>∀ p2 c2,K (.tuple #[sv p2 r.1 c2, vi r.2]) [] [Rl (zK .i64) p2 c2 r.1] :=
 zY call70 func70 u fun X=>zC<|qV .s u<|fun b1=>zA 2 u<|zB<|zC<|qS 0 2 u u u<|qI zO4 u (cq [0,1])<|fun r1 _ k p2 c2=>k<|zA 2 u<|zB<|zH<|wG u (lT u (lT u lN)) (fun _ k=>k p2 c2) [] (gq [0])
theorem zJE {qd : Prop} {y0 : wJ} : vU qd prog 146 [.agg (yY y0 p1 c1).toArray, pt b1 0] [bx b1 140 [.func (.func 70) #[] #[]]] [Rl vO p1 c1 y0.2, Pt (yH 64 (zK .u8)) 4 0 yW] (zAo y0) fun L r K=>∀ p2 c2,K (.tuple #[sv p2 r.1 c2, vi r.2]) L [Rl (qZ (zK .i64)) p2 c2 r.1] :=
 zY call146 func146 u fun X=>zC<|qV .s u<|fun b2=>zA 2 u<|zB<|zC<|zT 0 u u u<|qS 1 2 u u u<|zX .s [] [] zR4 u u u (cq [0,1])<|fun r1 _ k p2 c2=>k<|zA 5 u<|zB<|zD<|jA 2 u<|zJ u (jA 3 u<|zH<|zZ<|
  wG u (lT u (lT u lN)) (fun _ k=>k none 0) [0] ⟨gn,d⟩)<|jC<|zC<|zA 1 u<|wT .s (e := qZ (zK .i64)) 22 [sv p2 r1.1 c2] ([r1.1] : List (List Int)) (rC (vL (gk 0)) rN)<|fun p3 c3=>zA 2 u<|zB<|zH<|
  wG u (lT u (lT u lN)) (fun _ k=>k p3 c3) [0] (gq [0])
theorem zKA {qd : Prop} {y0 : wJ} : vU qd prog 147 [.agg (yY y0 p1 c1).toArray, pt b1 0] [bx b1 78 [.func (.func 146) #[] #[pt b2 0]], bx b2 140 [.func (.func 70) #[] #[]]] [Rl vO p1 c1 y0.2, Pt (yH 64 (zK .u8)) 4 0 yW] (zBM y0) fun L r K=>∀ p2 c2,K (.tuple #[sv p2 r.1 c2, vi r.2]) L [Rl (qZ (zK .i64)) p2 c2 r.1] :=
 zY call147 func147 u fun X=>zC<|qV .s u<|fun b3=>zA 2 u<|zB<|zC<|zT 0 u u u<|qS 2 2 u u u<|zX .s [1] [] zJE u u u (cq [0,1])<|fun r1 _ k p2 c2=>k<|zA 5 u<|zB<|zD<|jA 2 u<|zJ u (jA 3 u<|zH<|
  zZ<|wG u (lT u (lT u lN)) (fun _ k=>k none 0) [0,1] ⟨gn,d⟩)<|jC<|zC<|zA 1 u<|vJ (qZ (zK .i64)) 22<|zB<|zD<|jA 3 u<|zR<|
  qR (fun s1 K=>∀ p3 c3 r_1,K [19,20] [(2, []), (3, r_1)] [1,3] [(7, sv p3 s1.1 c3), (21, vi s1.2)] [Al (qZ (zK .i64)) 22 r_1 p3 c3 s1.1]) (gv (fun _ k=>k none 0 []) [0,1,902,3] (gq [0,1,3]))<|fun s1 _ k p3 c3 r_1=>k<|jA 1 u<|zD<|
  zJ u (jC<|zD<|zR<|zC<|qX 1 u u u<|fun x1 b4 o1=>qW false oL (gk 0) u<|fun p4 c4=>zA 1 u<|zB<|qM<|zA 2 u<|qI zC9 u (cq [0])<|fun r2 _ k p5 c5=>k<|
  wT .s (e := qZ (zK .i64)) 22 [sv p5 r2 c5] ([r2] : List (List Int)) (rC (vL (gk 0)) rN)<|fun p6 c6=>wM .s 3 4 u (gk 0) u u<|fun x2 r_2 p7 c7=>zA 1 u<|zV<|qF<|zP<|jB 2 u<|
  qG (gv (fun _ k=>k p7 c7 r_2) [0,1,902,3] (gq [0,6,7])))<|qO<|qN<|qQ<|qP<|zP<|jA 3 u<|zH<|wY 3 0 u u<|wG u (lT u (lT u lN)) (fun _ k=>k p3 c3) [0,1] (gq [0])
theorem zRp {qd : Prop} {y0 : wJ} {y1 : List Int} : qC qd prog 229 [.agg (yY y0 p1 c1).toArray, sv p2 y1 c2] [] [Rl vO p1 c1 y0.2, Rl (zK .i64) p2 c2 y1] (zEj y0 y1) fun r K=>K (vb r) [] [] :=
 zY call229 func229 u fun X=>zC<|qV .s u<|fun b1=>zA 1 u<|zB<|zD<|jA 3 u<|zR<|qR (fun s1 K=>K [1,2,7,8] [] [1,0] [(9, vi s1)] []) (gv kk [0] (gq [1,0]))<|fun s1 _ k=>k<|jA 1 u<|zD<|zJ u (jC<|zD<|zR<|zC<|zA 1 u<|qX 0 u u u<|
  fun x1 b2 o1=>qW false oI (gk 0) u<|zA 2 u<|zB<|wK (fun s2 K=>K [1,2,7,8,9] [] [1,2] [(34, vb s2)] []) (qM<|zA 3 u<|wL 16 u (zA 4 u<|zL (vb true)<|zA 12 u<|zL (vb true)<|zV<|zM (gv kk [0] (gq [1,2])))<|
  zA 1 u<|zN 0 u<|zT 0 u u u<|zA 1 u<|zL (vb (decide (y0.1 ≤ x1)))<|zA 1 u<|wL 22 u (zA 11 u<|zL (vb true)<|zV<|zM (gv kk [0] (gq [1,2])))<|zA 3 u<|wL 25 u (zA 3 u<|qX 1 u u u<|
  fun x2 b3 o2=>qW false oI (gk 0) u<|zA 2 u<|zL (vb (decide (x1 ≤ x2)))<|zL (vb (decide (x1 ≤ x2)))<|zV<|zM (gv kk [0] (gq [2,3])))<|zA 7 u<|zL (vb false)<|zL (vb false)<|zV<|zM (gv kk [0] (gq [1,2])))<|
  fun s2 _ k=>k<|zJ u (jA 1 u<|zH<|qK<|zZ<|wQ<|qK<|zZ<|zQ u u kk [] d)<|wF<|qF<|zP<|jB 2 u<|qG (gv kk [0] (gq [0,1])))<|qO<|qN<|qQ<|qP<|zP<|jA 1 u<|zH<|zQ u u kk [] d
theorem zHt {qd : Prop} {y0 : wJ} {y1 : Int} : qC qd prog 232 [.agg (yY y0 p1 c1).toArray, .int .u64 y1] [] [Rl vO p1 c1 y0.2] (zCE y0 y1) fun r K=>K (.int .u64 r) [] [] :=
 zY call232 func232 u fun X=>zC<|qV .s u<|fun b1=>zA 1 u<|zB<|jA 1 u<|zD<|zC<|zN 1 u<|zT 0 u u u<|zA 2 u<|zB<|zR<|qR (fun s1 K=>K [1,9,10] [(0, [])] [0] [(5, .int .u64 s1.1), (11, vi s1.2)] []) (gv kk [900] (gq [0]))<|fun s1 _ k=>
  k<|jA 1 u<|zD<|zJ u (jC<|zD<|zR<|zC<|qX 0 u u u<|fun x1 b2 o1=>qW true zOR (gk 0) u<|wN .s (.agg #[vi 0, vi 0])<|fun b3=>qJ .s 1 u u u<|zB<|xB [] [1] 11<|qA 9 [0,1] u<|qY 2 0 u u<|
  wI 3 1 u u u u<|yP fun x2 h1=>xS 4 u (fun h=>r_shrK h u u h1)<|qA 5 [5] u<|qY 6 1 u u<|wI 7 1 u u u u<|yP fun x3 h2=>xS 8 u (fun h=>z0Y h u u h2)<|qA 0 [9,10] u<|wA<|qF<|zP<|jB 2 u<|
  qG (gv kk [900] (gq [1])))<|qO<|qN<|qQ<|qP<|zP<|jA 2 u<|zH<|zQ u u kk [] d
theorem zSf {qd : Prop} {y0 : wJ} {y1 : Int} : qC qd prog 282 [.agg (yY y0 p1 c1).toArray, .int .u64 y1] [] [Rl vO p1 c1 y0.2] (zF0 y0 y1) fun r K=>K (vb r) [] [] :=
 zY call282 func282 u fun X=>zC<|qV .s u<|fun b1=>zA 1 u<|zB<|zC<|qS 0 2 u u u<|zA 1 u<|qI zHt u (cq [0])<|fun r1 _ k=>k<|zA 4 u<|zB<|zH<|zQ u u kk [] d
theorem zST {qd : Prop} {y0 : Int} : qC qd prog 230 [.int .u64 y0] [] [Pt (yH 64 (zK .u8)) 4 0 yW] (zDv y0) fun r K=>∀ p1 c1,K (sv p1 r c1) [] [Rl (zK .i64) p1 c1 r] :=
 zY call230 func230 u fun X=>jA 1 u<|zC<|zA 1 u<|vJ (zK .i64) 3<|zB<|zD<|zR<|qR (fun s1 K=>∀ p1 c1 r_1,K [] [(0, r_1)] [1] [(0, .int .u64 s1.1), (3, sv p1 s1.2 c1)] [Al (zK .i64) 3 r_1 p1 c1 s1.2]) (gv (fun _ k=>k none 0 []) [0] (gq [0,1]))<|
  fun s1 _ k p1 c1 r_1=>k<|zD<|jA 2 u<|zJ u (jC<|zD<|zR<|qM<|zA 2 u<|qI zH6 u (cq [1])<|fun r1 _ k=>k<|wT .s (e := zK .i64) 3 [vi r1] ([r1] : List Int) (rC vI rN)<|fun p2 c2=>
  wM .s 0 1 u (gk 0) u u<|fun x1 r_2 p3 c3=>zA 1 u<|zV<|qF<|zP<|jB 5 u<|qG (gv (fun _ k=>k p3 c3 r_2) [0] (gq [0,3])))<|qO<|qN<|qQ<|qP<|zP<|jA 2 u<|zH<|wY 0 0 u u<|zQ u u (fun _ k=>k p1 c1) [] (gq [0])
theorem zSQ {qd : Prop} {y0 : List Int} : qC qd prog 231 [sv p1 y0 c1] [] [Rl (zK .i64) p1 c1 y0] (zFw y0) fun r K=>K (.int .u64 r) [] [] :=
 zY call231 func231 u fun X=>jA 1 u<|jA 1 u<|zD<|jA 3 u<|zR<|qR (fun s1 K=>K [6,7] [] [0] [(3, .int .u64 s1.1), (8, vi s1.2)] []) (gv kk [] (gq [0]))<|fun s1 _ k=>k<|jA 1 u<|zD<|zJ u (jC<|zD<|zR<|zC<|qX 0 u u u<|fun x1 b1 o1=>
  qW false oI (gk 0) u<|zA 1 u<|zB<|qM<|zA 2 u<|yP fun x2 h1=>jv (fun h=>z0Y h u u h1)<|zA 2 u<|zV<|qF<|zP<|jB 2 u<|qG (gv kk [] (gq [1])))<|qO<|qN<|qQ<|qP<|zP<|jA 2 u<|zH<|
  zQ u u kk [] d
theorem zMj {qd : Prop} {y0 : wJ} : qC qd prog 321 [.agg (yY y0 p1 c1).toArray] [] [Rl vO p1 c1 y0.2] (zEs y0) fun r K=>K (.int .u64 r) [] [] :=
 zY call321 func321 u fun X=>zC<|qV .s u<|fun b1=>zA 1 u<|zB<|zC<|zN 0 u<|zT 0 u u u<|yP fun x1 h1=>jv (fun h=>z0Y h u u h1)<|zA 2 u<|zB<|zH<|zQ u u kk [] d
theorem zS5 {qd : Prop} {y0 : wJ} {y1 : Int} : qC qd prog 285 [.agg (yY y0 p1 c1).toArray, .int .u64 y1] [] [Rl vO p1 c1 y0.2] (zDx y0 y1) fun r K=>K (.int .u64 r) [] [] :=
 zY call285 func285 u fun X=>zC<|qV .s u<|fun b1=>zA 1 u<|zB<|yA [] [0] 12<|vM 0 0 2 u u u u<|vM 2 0 2 u u u u<|vM 3 0 2 u u u u<|vM 5 0 2 u u u u<|qA 7 [6] u<|qH 1<|
  zX (.f u) [] [] zMj u u u (cq [0])<|fun r1 _ k=>k<|qB<|qH 4<|zX (.f u) [] [] zMj u u u (cq [0])<|fun r2 _ k=>k<|qB<|qH 7<|zX (.f u) [] [] zHt u u u (cq [0])<|
  fun r3 _ k=>k<|qB<|qA 3 [8] u<|qH 9<|zX (.f u) [] [] zHt u u u (cq [0])<|fun r4 _ k=>k<|qB<|qA 0 [10,11] u<|wA<|zP<|zH<|zQ u u kk [] d
theorem zPB {qd : Prop} {y0 : Int} {y1 : wJ} : vU qd prog 284 [.int .u64 y0, pt b1 0] [bx b1 41 (yY y1 p1 c1)] [Rl vO p1 c1 y1.2] (zCh y0 y1) fun L r K=>K (.int .u64 r) L [] :=
 zY call284 func284 u fun X=>jA 1 u<|zC<|zA 1 u<|qS 0 2 u u u<|zA 1 u<|qI zS5 u (cq [0])<|fun r1 _ k=>k<|zA 2 u<|zB<|zH<|zQ u u kk [0] d
theorem zH8 {qd : Prop} {y0 : Int} {y1 : wJ} : vU qd prog 283 [.int .u64 y0, .func (.func 284) #[] #[pt b1 0]] [bx b1 41 (yY y1 p1 c1)] [Rl vO p1 c1 y1.2] (zAw y0 y1) fun L r K=>K (.int .u64 r) L [] :=
 zY call283 func283 u fun X=>jA 1 u<|zR<|qR (fun s1 K=>K [1] [] [0] [(0, .int .u64 s1)] []) (gv kk [0] (gq [0]))<|fun s1 _ k=>k<|zR<|zC<|zA 2 u<|zX .s [0] [] zPB u u u (cq [0])<|fun r1 _ k=>k<|zA 1 u<|zB<|zD<|jA 3 u<|
  zJ u (jA 2 u<|zH<|zZ<|qK<|wQ<|qK<|zQ u u kk [0] d)<|jC<|jB 2 u<|qF<|qG (gv kk [0] (gq [0]))
theorem zLl {qd : Prop} {y0 : wJ} {y1 : List Int} : qC qd prog 223 [.agg (yY y0 p1 c1).toArray, sv p2 y1 c2] [] [Rl vO p1 c1 y0.2, Rl (zK .i64) p2 c2 y1, Pt (yH 64 (zK .u8)) 4 0 yW] (zCH y0 y1) fun r K=>∀ p3 c3,K (.tuple #[sv p3 r.1 c3, vi r.2]) [] [Rl (zK .i64) p3 c3 r.1] :=
 zY call223 func223 u fun X=>zC<|qV .s u<|fun b1=>zA 2 u<|zB<|zD<|zC<|qS 0 2 u u u<|zA 1 u<|qI zRp u (cq [0,1])<|fun r1 _ k=>k<|zA 1 u<|zB<|zJ u (jA 2 u<|zH<|zZ<|
  wG u (lT u (lT u lN)) (fun _ k=>k none 0) [] ⟨gn,d⟩)<|jC<|zC<|zA 1 u<|qI zSQ u (cq [1])<|fun r2 _ k=>k<|zA 1 u<|zB<|zD<|zC<|qS 0 2 u u u<|zA 1 u<|qI zSf u (cq [0])<|fun r3 _ k=>
  k<|zA 1 u<|zB<|zJ u (jA 2 u<|zH<|zZ<|wG u (lT u (lT u lN)) (fun _ k=>k none 0) [] ⟨gn,d⟩)<|jC<|zC<|zA 2 u<|zX .s [0] [] zH8 u u u (cq [0])<|fun r4 _ k=>k<|
  qI zST u (cq [2])<|fun r5 _ k p3 c3=>k<|zA 2 u<|zB<|zH<|wG u (lT u (lT u lN)) (fun _ k=>k p3 c3) [] (gq [0])
theorem zVQ {qd : Prop} {y0 : List Int} {y1 : Int} : qC qd prog 323 [sv p1 y0 c1, vi y1] [] [Rl (zK .i64) p1 c1 y0] (zKb y0 y1) fun r K=>K (vb r) [] [] :=
 zY call323 func323 u fun X=>jA 1 u<|jjn (fun s1 K=>K [(4, vb s1)] [] []) (qM<|zA 3 u<|wL 7 u (zA 4 u<|zL (vb (decide (y1 < (len y0))))<|zA 1 u<|wL 13 u (zA 2 u<|qX 0 u u u<|fun x1 b1 o1=>qW false oI (gk 0) u<|zA 1 u<|
  zL (vb (x1 == 1))<|zA 1 u<|zV<|zM (gv kk [] d))<|zA 5 u<|zL (vb false)<|zA 1 u<|zV<|zM (gv kk [] d))<|zA 4 u<|zL (vb false)<|zA 6 u<|zL (vb false)<|zA 1 u<|zV<|zM (gv kk [] d))<|
  fun s1 _ k=>k<|zH<|zQ u u kk [] d
theorem zS2 {qd : Prop} {y0 : List Int} {y1 : Int} : vU qd prog 322 [sv p1 y0 c1, pt b1 0] [bx b1 3 [vi y1]] [Rl (zK .i64) p1 c1 y0] (zKW y0 y1) fun L r K=>K (vb r) L [] :=
 zY call322 func322 u fun X=>jA 1 u<|zC<|zA 1 u<|zT 0 u u u<|qI zVQ u (cq [0])<|fun r1 _ k=>k<|zA 2 u<|zB<|zH<|zQ u u kk [0] d
theorem zHv {qd : Prop} {y0 : List (List Int)} {y1 : Int} : vU qd prog 227 [sv p1 y0 c1, .func (.func 322) #[] #[pt b1 0]] [bx b1 3 [vi y1]] [Rl (qZ (zK .i64)) p1 c1 y0] (zAy y0 y1) fun L r K=>K (vi r) L [] :=
 zY call227 func227 u fun X=>jA 1 u<|zD<|jA 3 u<|zR<|qR (fun s1 K=>K [0,1,7] [] [0] [(8, vi s1)] []) (gv kk [0] (gq [0]))<|fun s1 _ k=>k<|jA 1 u<|zD<|zJ u (jC<|zD<|zR<|jA 2 u<|zC<|zA 3 u<|qX 0 u u u<|fun x1 b2 o1=>
  qW false oL (gk 0) u<|fun p2 c2=>zX .s [0] [] zS2 u u u (cq [0])<|fun r1 _ k=>k<|zB<|zJ u (jA 2 u<|zH<|qK<|zZ<|wQ<|qK<|zZ<|zQ u u kk [0] d)<|wF<|qF<|zP<|jB 2 u<|
  qG (gv kk [0] (gq [2])))<|qO<|qN<|qQ<|qP<|zP<|jA 1 u<|zH<|zQ u u kk [0] d
theorem zGu {qd : Prop} {y0 : List (List Int)} {y1 : Int} : vU qd prog 158 [sv p1 y0 c1, .func (.func 322) #[] #[pt b1 0]] [bx b1 3 [vi y1]] [Rl (qZ (zK .i64)) p1 c1 y0] (zAP y0 y1) fun L r K=>K (vb r) L [] :=
 zY call158 func158 u fun X=>jA 1 u<|zC<|zA 2 u<|zX .s [0] [] zHv u u u (cq [0])<|fun r1 _ k=>k<|zA 2 u<|zB<|zH<|zQ u u kk [0] d
theorem zUp {qd : Prop} {y0 : List (List Int)} {y1 : Int} : qC qd prog 286 [sv p1 y0 c1, vi y1] [] [Rl (qZ (zK .i64)) p1 c1 y0] (zF4 y0 y1) fun r K=>K (vb r) [] [] :=
 zY call286 func286 u fun X=>zC<|qV .s u<|fun b1=>zA 1 u<|zB<|zC<|zA 2 u<|zX .s [0] [] zGu u u u (cq [0])<|fun r1 _ k=>k<|zA 2 u<|zB<|zH<|zQ u u kk [] d
theorem zRF {qd : Prop} {y0 : List (List Int)} : qC qd prog 224 [sv p1 y0 c1] [] [Rl (qZ (zK .i64)) p1 c1 y0] (zGL y0) fun r K=>∀ p2 c2,K (sv p2 r c2) [] [Rl (zK .i64) p2 c2 r] :=
 zY call224 func224 u fun X=>jA 1 u<|zD<|jA 3 u<|zJ u (jA 1 u<|zH<|zZ<|zQ u u (fun _ k=>k none 0) [] ⟨gn,d⟩)<|jC<|zC<|zA 1 u<|vJ (zK .i64) 3<|zB<|zD<|zC<|zA 1 u<|qX 1 u u u<|fun x1 b1 o1=>qW false oL (gk 0) u<|fun p2 c2=>
  zA 2 u<|zB<|zR<|qR (fun s1 K=>∀ p3 c3 r_1,K [0,11] [(0, r_1)] [3] [(3, sv p3 s1.1 c3), (12, vi s1.2)] [Al (zK .i64) 3 r_1 p3 c3 s1.1]) (gv (fun _ k=>k none 0 []) [0] (gq [2,3]))<|fun s1 _ k p3 c3 r_1=>k<|jA 1 u<|zD<|zJ u (
  jC<|zD<|zR<|jA 2 u<|zC<|zA 2 u<|qI zUp u (cq [1])<|fun r1 _ k=>k<|zB<|zJ u (qM<|zA 2 u<|wT .s (e := zK .i64) 3 [vi s1.2] ([s1.2] : List Int) (rC vI rN)<|fun p4 c4=>wM .s 0 1 u (gk 0) u u<|
  fun x2 r_2 p5 c5=>zA 1 u<|zV<|qF<|zP<|jB 2 u<|qG (gv (fun _ k=>k p5 c5 r_2) [0] (gq [0,3])))<|wF<|qF<|zP<|jB 2 u<|qG (gv (fun _ k=>k p3 c3 r_1) [0] (gq [0,1])))<|qO<|qN<|qQ<|qP<|zP<|jA 2 u<|zH<|wY 0 0 u u<|
  zQ u u (fun _ k=>k p3 c3) [] (gq [0])
theorem zIZ {qd : Prop} {y0 : List wD} : qC qd prog 51 [sv p1 y0 c1, .func (.func 68) #[] #[]] [r_1] [Al vO 122 r_1 p1 c1 y0] (zBJ y0) fun r K=>∀ r_2,K (.tuple #[]) [r_2] [Ar vO 122 r_2 p1 c1 (List.length y0) r] := ⟨call51, fun A w0 r hm hO hF => by
 have h := zRO (qd := qd) Go.Proofs.Tryz.sort51 (uH.prod (uH.int .i64) (uH.int .i64)) (te := 122) Tryz.isAgg122 Tryz.sizeOf122 zCl 68 (enters_of func68 (by kernel_rfl) u) (fun w x y n hn => ?_) hO hF.1.1 hm
 · change Calls prog 51 _ _ _ at h
   refine h.mono fun e w' h => ?_
   cases e with
   | returned v => obtain ⟨r', rfl, h1, h2, h3, h4⟩ := h; exact fun G k => k r' ⟨rfl, h1, h2, ⟨h3, h4.symm⟩, trivial⟩
   | panicked ch => exact h
   | outgrown => exact h
 · refine ((zOz (qd := True) (y0 := x) (y1 := y)).go [] w n hn (wC.start (by simp)) trivial).mono fun e w' h => ?_
   cases e with
   | returned v => exact h _ fun ⟨e1, q⟩ => ⟨e1, q.e⟩
   | panicked ch => exact h
   | outgrown => exact h⟩
theorem zUq {qd : Prop} {y0 : wJ} : qC qd prog 218 [.agg (yY y0 p1 c1).toArray] [] [Rl vO p1 c1 y0.2] (zFo y0) fun r K=>∀ p2 c2,K (.agg (yY r p2 c2).toArray) [] [Rl vO p2 c2 r.2] :=
 zY call218 func218 u fun X=>zC<|qV .s u<|fun b1=>wN .s (.agg #[vi 0, .slice none 0 0])<|fun b2=>zB<|zC<|qS 0 2 u u u<|qI zQZ u (cq [0])<|fun r1 _ k p2 c2=>k<|qJ .s 0 u u u<|zB<|zC<|zN 0 u<|zT 0 u u u<|
  zL (.agg #[vi r1.1, .slice none 0 0])<|vJ vO 122<|wN .s (.agg #[vi 0, .slice none 0 0])<|fun b3=>qJ .s 3 u u u<|zB<|
  wK (fun s1 K=>∀ p3 c3 r_1,K [2,3] [(0, []), (2, r_1), (3, bx b3 41 [vi r1.1, sv p3 s1 c3])] [] [] [Al vO 122 r_1 p3 c3 s1]) (zC<|zN 1 u<|zT 0 u u u<|zA 2 u<|zB<|zR<|
  qR (fun s2 K=>∀ p4 c4 r_2,K [2,3,12,13] [(0, []), (2, r_2), (3, bx b3 41 [vi r1.1, sv p4 s2.2 c4])] [1] [(14, vi s2.1)] [Al vO 122 r_2 p4 c4 s2.2]) (gv (fun _ k=>k none 0 []) [900,1,2,3] (gq [0,1]))<|fun s2 _ k p4 c4 r_2=>k<|
  jA 1 u<|zD<|zJ u (jC<|zD<|zR<|zC<|qX 1 u u u<|fun x1 b4 o1=>qW true zOR (gk 0) u<|wN .s (.agg #[vi 0, vi 0])<|fun b5=>qJ .s 4 u u u<|zB<|qM<|zN 1 u<|zT 3 u u u<|zN 1 u<|zT 4 u u u<|
  zN 0 u<|zT 4 u u u<|zL (.agg #[vi x1.2, vi x1.1])<|wT .s (e := vO) 122 [vi x1.2, vi x1.1] ([(x1.2, x1.1)] : List wD) (rC (vP vI vI) rN)<|fun p5 c5=>wM .s 2 2 u (gk 0) u u<|fun x2 r_3 p6 c6=>zN 1 u<|
  qJ .s 3 u u u<|zV<|qF<|zP<|jB 2 u<|qG (gv (fun _ k=>k p6 c6 r_3) [900,1,2,3] (gq [0,4])))<|qO<|qN<|qQ<|qP<|zM (gv (fun _ k=>k p4 c4 r_2) [900,1,2,3] (gq [0])))<|fun s1 _ k p3 c3 r_1=>k<|zC<|zN 1 u<|zT 3 u u u<|
  zX .s [2] [] zIZ u u u (cq [0])<|fun r2 _ k r_4=>k<|zB<|zC<|jbL (fun q_=>[[], bx b2 41 [vi 0, .slice none 0 0], r_4, bx b3 41 [vi r1.1, .slice p3 q_ c3]]) (gk 0) u<|qS 3 2 u u u<|
  qJ .s 1 u u u<|zB<|zH<|wY 2 0 u u<|wG u (lC 1 (.agg #[vi r1.1, sv p3 r2 c3]) u u lN) (fun _ k=>k p3 c3) [] (gq [0])
theorem zSM {qd : Prop} {y0 : wJ} {y1 : Int} : qC qd prog 148 [.agg (yY y0 p1 c1).toArray, vi y1] [] [Rl vO p1 c1 y0.2, Pt (yH 64 (zK .u8)) 4 0 yW] (zDw y0 y1) fun r K=>∀ p2 c2,K (sv p2 r c2) [] [Rl (zK .i64) p2 c2 r] :=
 zY call148 func148 u fun X=>zC<|qV .s u<|fun b1=>zA 1 u<|zB<|zC<|qS 0 2 u u u<|qI zUq u (cq [0])<|fun r1 _ k p2 c2=>k<|zA 1 u<|qI zLN u (cq [0,2])<|fun r2 _ k p3 c3=>k<|zA 1 u<|zB<|zH<|
  zQ u u (fun _ k=>k p3 c3) [] (gq [0])
theorem zNW {qd : Prop} {y0 : uG} : vU qd prog 220 [pt b1 0] [bx b1 195 (uC [vi y0.1, sv p1 y0.2.1 c1] 40 y0.2.2.1 [sv p2 y0.2.2.2.1 c2, vb y0.2.2.2.2]), r_1] [Rl (qZ (zK .i64)) p1 c1 y0.2.1, Al (qZ (zK .i64)) 22 r_1 p2 c2 y0.2.2.2.1] (zBd y0) fun L r K=>∀ p3 c3,K (.tuple #[sv p3 r.1 c3, vi r.2]) L [Rl (zK .i64) p3 c3 r.1] :=
 zY call220 func220 u fun X=>jA 2 u<|zC<|zA 1 u<|vJ (zK .i64) 3<|zB<|zD<|zC<|zA 2 u<|zN 0 u<|zT 0 u u u<|zA 1 u<|zB<|zR<|
  qR (fun s1 K=>∀ p3 c3 r_2,K [0,9] [(2, r_2)] [1,2] [(4, sv p3 s1.1 c3), (10, vi s1.2)] [Al (zK .i64) 3 r_2 p3 c3 s1.1]) (gv (fun _ k=>k none 0 []) [0,1,2] (gq [0,1,2]))<|fun s1 _ k p3 c3 r_2=>k<|jA 1 u<|zD<|zJ u (jC<|zD<|zR<|
  jA 2 u<|zC<|zA 3 u<|zN 2 u<|jiL 40 u u<|fun u1 h1=>jlL 0 40 y0.2.2.1 [vi y0.1, sv p1 y0.2.1 c1] [sv p2 y0.2.2.2.1 c2, vb y0.2.2.2.2] h1 u u<|zB<|zR<|jA 2 u<|zJ u (qM<|zA 1 u<|
  wT .s (e := zK .i64) 3 [vi 1] ([1] : List Int) (rC vI rN)<|fun p4 c4=>wM .s 2 1 u (gk 0) u u<|fun x1 r_3 p5 c5=>zA 1 u<|zV<|qF<|qF<|zP<|jB 2 u<|qG (gv (fun _ k=>k p5 c5 r_3) [0,1,2] (gq [0,3,4])))<|jA 2 u<|zJ u (
  qM<|zA 1 u<|wT .s (e := zK .i64) 3 [vi 2] ([2] : List Int) (rC vI rN)<|fun p6 c6=>wM .s 2 1 u (gk 0) u u<|fun x2 r_4 p7 c7=>zA 1 u<|zV<|qF<|qF<|zP<|jB 2 u<|qG (gv (fun _ k=>k p7 c7 r_4) [0,1,2] (gq [0,3,4])))<|
  jA 2 u<|zJ u (qM<|zA 1 u<|wT .s (e := zK .i64) 3 [vi 3] ([3] : List Int) (rC vI rN)<|fun p8 c8=>wM .s 2 1 u (gk 0) u u<|fun x3 r_5 p9 c9=>zA 1 u<|zV<|qF<|qF<|zP<|jB 2 u<|
  qG (gv (fun _ k=>k p9 c9 r_5) [0,1,2] (gq [0,3,4])))<|jA 3 u<|zH<|qK<|qK<|zZ<|wQ<|qK<|zZ<|wG u (lT u (lT u lN)) (fun _ k=>k none 0) [0,1] ⟨gn,d⟩)<|qO<|qN<|qQ<|qP<|zP<|jA 3 u<|zH<|wY 2 0 u u<|
  wG u (lT u (lT u lN)) (fun _ k=>k p3 c3) [0,1] (gq [0])
theorem zPk {qd : Prop} {y0 : uG} {y1 : List Int} {y2 : Int} : vU qd prog 320 [pt b1 0, sv p3 y1 c3, vi y2] [bx b1 195 (uC [vi y0.1, sv p1 y0.2.1 c1] 40 y0.2.2.1 [sv p2 y0.2.2.2.1 c2, vb y0.2.2.2.2]), r_1] [Rl (qZ (zK .i64)) p1 c1 y0.2.1, Al (qZ (zK .i64)) 22 r_1 p2 c2 y0.2.2.2.1, Rl (zK .i64) p3 c3 y1] (zDH y0 y1 y2) fun L r K=>∀ p4 c4,K (sv p4 r c4) L [Rl (zK .i64) p4 c4 r] :=
 zY call320 func320 u fun X=>jA 1 u<|zC<|zA 1 u<|vJ (zK .i64) 3<|zB<|zD<|jA 3 u<|zR<|
  qR (fun s1 K=>∀ p4 c4 r_2,K [0,2,10,11] [(2, r_2)] [3,1,2] [(7, sv p4 s1.1 c4), (12, vi s1.2)] [Al (zK .i64) 3 r_2 p4 c4 s1.1]) (gv (fun _ k=>k none 0 []) [0,1,2] (gq [0,3,1,2]))<|fun s1 _ k p4 c4 r_2=>k<|jA 1 u<|zD<|zJ u (jC<|
  zD<|zR<|zC<|qX 1 u u u<|fun x1 b2 o1=>qW false oI (gk 0) u<|zA 1 u<|zB<|zC<|zA 3 u<|zN 2 u<|jiL 40 u u<|fun u1 h1=>jlL 0 40 y0.2.2.1 [vi y0.1, sv p1 y0.2.1 c1] [sv p2 y0.2.2.2.1 c2, vb y0.2.2.2.2] h1 u u<|
  zA 3 u<|zB<|zJ u (qM<|zA 2 u<|wT .s (e := zK .i64) 3 [vi x1] ([x1] : List Int) (rC vI rN)<|fun p5 c5=>wM .s 2 2 u (gk 0) u u<|fun x2 r_3 p6 c6=>zA 1 u<|zV<|qF<|zP<|jB 2 u<|
  qG (gv (fun _ k=>k p6 c6 r_3) [0,1,2] (gq [0,4,5,6])))<|wF<|qF<|zP<|jB 2 u<|qG (gv (fun _ k=>k p4 c4 r_2) [0,1,2] (gq [1,2,3,4])))<|qO<|qN<|qQ<|qP<|zP<|jA 2 u<|zH<|wY 2 0 u u<|
  zQ u u (fun _ k=>k p4 c4) [0,1] (gq [0])
theorem zNo {qd : Prop} {y0 : uG} {y1 : Int} : qC qd prog 281 [pt b1 0, vi y1] [bx b1 195 (uC [vi y0.1, sv p1 y0.2.1 c1] 40 y0.2.2.1 [sv p2 y0.2.2.2.1 c2, vb y0.2.2.2.2]), r_1] [Rl (qZ (zK .i64)) p1 c1 y0.2.1, Al (qZ (zK .i64)) 22 r_1 p2 c2 y0.2.2.2.1] (zCO y0 y1) fun r K=>∀ p3 c3 r_2,K (.tuple #[]) [bx b1 195 (uC [vi y0.1, sv p1 y0.2.1 c1] 40 r.1 [sv p3 r.2 c3, vb y0.2.2.2.2]), r_2] [Al (qZ (zK .i64)) 22 r_2 p3 c3 r.2] :=
 zY call281 func281 u fun X=>zC<|zA 2 u<|zN 1 u<|zT 0 u u u<|zA 1 u<|qX 0 u u u<|fun x1 b2 o1=>qW false oL (gk 0) u<|fun p3 c3=>zA 2 u<|zB<|
  wK (fun s1 K=>K [0,4] [(0, bx b1 195 (uC [vi y0.1, sv p1 y0.2.1 c1] 40 s1.2 [sv p2 y0.2.2.2.1 c2, vb y0.2.2.2.2]))] [0,2,3] [(5, vi s1.1)] []) (zC<|zA 3 u<|zN 2 u<|jiL 40 u u<|fun u1 h1=>
  jlL 0 40 y0.2.2.1 [vi y0.1, sv p1 y0.2.1 c1] [sv p2 y0.2.2.2.1 c2, vb y0.2.2.2.2] h1 u u<|zB<|zR<|jA 2 u<|zJ u (jA 3 u<|zR<|
  qR (fun s2 K=>K [0,4,5,26,27] [(0, bx b1 195 (uC [vi y0.1, sv p1 y0.2.1 c1] 40 s2.2 [sv p2 y0.2.2.2.1 c2, vb y0.2.2.2.2]))] [0,2,3] [(28, vi s2.1)] []) (gv kk [0,1] (gq [0,2,3]))<|fun s2 _ k=>k<|jA 1 u<|zD<|zJ u (jC<|
  zD<|zR<|zC<|qX 0 u u u<|fun x2 b3 o2=>qW false oI (gk 0) u<|zA 1 u<|zB<|xB [10] [0] 11<|qA 8 [0,1,2] u<|qY 3 2 u u<|z5Z 40 4 u u u<|fun u2 h2=>
  jdlL 5 0 40 s2.2 [vi y0.1, sv p1 y0.2.1 c1] [sv p2 y0.2.2.2.1 c2, vb y0.2.2.2.2] h2 u u u<|qA 3 [6,7] u<|qY 8 2 u u<|z5Z 40 9 u u u<|fun u3 h3=>qH 10<|
  jsL (yE .i64 (yR s2.2 x2) 4) (.f u) 0 40 s2.2 [vi y0.1, sv p1 y0.2.1 c1] [sv p2 y0.2.2.2.1 c2, vb y0.2.2.2.2] h3 u u u<|jdb [] [0]<|wA<|qF<|zP<|jB 2 u<|qG (gv kk [0,1] (gq [1,2,3])))<|qO<|qN<|qQ<|qP<|qF<|
  zM (gv kk [0,1] (gq [0,1,2])))<|jA 2 u<|zJ u (jB 1 u<|qF<|zM (gv kk [0,1] (gq [0,2,3])))<|jA 2 u<|zJ u (
  wK (fun s3 K=>K [0,4] [(0, bx b1 195 (uC [vi y0.1, sv p1 y0.2.1 c1] 40 s3 [sv p2 y0.2.2.2.1 c2, vb y0.2.2.2.2]))] [0,2,3] [] []) (jA 3 u<|zR<|
  qR (fun s4 K=>K [0,4,47,48] [(0, bx b1 195 (uC [vi y0.1, sv p1 y0.2.1 c1] 40 s4.2 [sv p2 y0.2.2.2.1 c2, vb y0.2.2.2.2]))] [0,2,3] [(49, vi s4.1)] []) (gv kk [0,1] (gq [0,2,3]))<|fun s4 _ k=>k<|jA 1 u<|zD<|zJ u (jC<|zD<|
  zR<|zC<|qX 0 u u u<|fun x3 b4 o3=>qW false oI (gk 0) u<|zA 1 u<|zB<|xB [10] [0] 11<|qA 8 [0,1,2] u<|qY 3 2 u u<|z5Z 40 4 u u u<|fun u4 h4=>
  jdlL 5 0 40 s4.2 [vi y0.1, sv p1 y0.2.1 c1] [sv p2 y0.2.2.2.1 c2, vb y0.2.2.2.2] h4 u u u<|qA 3 [6,7] u<|qY 8 2 u u<|z5Z 40 9 u u u<|fun u5 h5=>qH 10<|
  jsL (yE .i64 (yR s4.2 x3) 12) (.f u) 0 40 s4.2 [vi y0.1, sv p1 y0.2.1 c1] [sv p2 y0.2.2.2.1 c2, vb y0.2.2.2.2] h5 u u u<|jdb [] [0]<|wA<|qF<|zP<|jB 2 u<|qG (gv kk [0,1] (gq [1,2,3])))<|qO<|qN<|qQ<|qP<|
  zM (gv kk [0,1] (gq [0,1,2])))<|fun s3 _ k=>k<|jB 1 u<|qF<|zM (gv kk [0,1] (gq [0,1,2])))<|wF<|qF<|zM (gv kk [0,1] (gq [0,2,3])))<|fun s1 _ k=>k<|zC<|zA 3 u<|
  zX .s [0, 1] [] zPk u u u (cq [1,2,0])<|fun r1 _ k p4 c4=>k<|zA 1 u<|zB<|jA 3 u<|zJ u (xB [13] [0] 14<|qA 12 [0,1] u<|uJ 2 0 u u u u<|fun x4 b5 o4=>uI 3 false oI u (gk 0) u<|
  qA 9 [4] u<|qY 5 2 u u<|z5Z 40 6 u u u<|fun u6 h6=>jdlL 7 0 40 s1.2 [vi y0.1, sv p1 y0.2.1 c1] [sv p2 y0.2.2.2.1 c2, vb y0.2.2.2.2] h6 u u u<|qA 3 [8,9,10] u<|qY 11 2 u u<|z5Z 40 12 u u u<|fun u7 h7=>
  qH 13<|jsL (yE .i64 (yR s1.2 x4) s1.1) (.f u) 0 40 s1.2 [vi y0.1, sv p1 y0.2.1 c1] [sv p2 y0.2.2.2.1 c2, vb y0.2.2.2.2] h7 u u u<|jdb [] [0]<|wA<|jrn<|wG u lN (fun _ k=>k p2 c2 r_1) [0,1] (gq [4]))<|wF<|jrn<|
  wG u lN (fun _ k=>k p2 c2 r_1) [0,1] (gq [3])
theorem zGP {qd : Prop} {y0 : uG} {y1 : List Int} {y2 : Int} : vU qd prog 320 [pt b1 0, sv p3 y1 c3, vi y2] [bx b1 195 (uC [vi y0.1, sv p1 y0.2.1 c1] 40 y0.2.2.1 [sv p2 y0.2.2.2.1 c2, vb y0.2.2.2.2])] [Rl (qZ (zK .i64)) p1 c1 y0.2.1, Rl (qZ (zK .i64)) p2 c2 y0.2.2.2.1, Rl (zK .i64) p3 c3 y1] (zB7 y0 y1 y2) fun L r K=>∀ p4 c4,K (sv p4 r c4) L [Rl (zK .i64) p4 c4 r] :=
 zY call320 func320 u fun X=>jA 1 u<|zC<|zA 1 u<|vJ (zK .i64) 3<|zB<|zD<|jA 3 u<|zR<|
  qR (fun s1 K=>∀ p4 c4 r_1,K [0,2,10,11] [(1, r_1)] [3,1,2] [(7, sv p4 s1.1 c4), (12, vi s1.2)] [Al (zK .i64) 3 r_1 p4 c4 s1.1]) (gv (fun _ k=>k none 0 []) [0,1] (gq [0,3,1,2]))<|fun s1 _ k p4 c4 r_1=>k<|jA 1 u<|zD<|zJ u (jC<|zD<|
  zR<|zC<|qX 1 u u u<|fun x1 b2 o1=>qW false oI (gk 0) u<|zA 1 u<|zB<|zC<|zA 3 u<|zN 2 u<|jiL 40 u u<|fun u1 h1=>jlL 0 40 y0.2.2.1 [vi y0.1, sv p1 y0.2.1 c1] [sv p2 y0.2.2.2.1 c2, vb y0.2.2.2.2] h1 u u<|
  zA 3 u<|zB<|zJ u (qM<|zA 2 u<|wT .s (e := zK .i64) 3 [vi x1] ([x1] : List Int) (rC vI rN)<|fun p5 c5=>wM .s 1 2 u (gk 0) u u<|fun x2 r_2 p6 c6=>zA 1 u<|zV<|qF<|zP<|jB 2 u<|
  qG (gv (fun _ k=>k p6 c6 r_2) [0,1] (gq [0,4,5,6])))<|wF<|qF<|zP<|jB 2 u<|qG (gv (fun _ k=>k p4 c4 r_1) [0,1] (gq [1,2,3,4])))<|qO<|qN<|qQ<|qP<|zP<|jA 2 u<|zH<|wY 1 0 u u<|zQ u u (fun _ k=>k p4 c4) [0] (gq [0])
theorem zNg {qd : Prop} {y0 : uG} {y1 : Int} : vU qd prog 280 [pt b1 0, vi y1] [bx b1 195 (uC [vi y0.1, sv p1 y0.2.1 c1] 40 y0.2.2.1 [sv p2 y0.2.2.2.1 c2, vb y0.2.2.2.2])] [Rl (qZ (zK .i64)) p1 c1 y0.2.1, Rl (qZ (zK .i64)) p2 c2 y0.2.2.2.1] (zCA y0 y1) fun L r K=>K (vi r) L [] :=
 zY call280 func280 u fun X=>jA 1 u<|zC<|zA 2 u<|zN 1 u<|zT 0 u u u<|zA 1 u<|qX 0 u u u<|fun x1 b2 o1=>qW false oL (gk 0) u<|fun p3 c3=>zA 2 u<|zB<|wK (fun s1 K=>K [0,5] [] [0,2,3] [(6, vi s1)] []) (zC<|zA 2 u<|
  zX .s [0] [] zGP u u u (cq [2,3,0])<|fun r1 _ k p4 c4=>k<|zA 4 u<|zB<|zJ u (jB 3 u<|zM (gv kk [0] (gq [1,3,4])))<|wF<|zM (gv kk [0] (gq [1,3,4])))<|fun s1 _ k=>k<|
  wK (fun s2 K=>K [0,5] [] [0,1,2] [(6, vi s2)] []) (zC<|zA 2 u<|zX .s [0] [] zGP u u u (cq [1,2,0])<|fun r2 _ k p5 c5=>k<|zA 2 u<|zB<|zJ u (jB 3 u<|zM (gv kk [0] (gq [1,2,3])))<|wF<|
  zM (gv kk [0] (gq [1,2,3])))<|fun s2 _ k=>k<|zD<|wK (fun s3 K=>K [6] [] [1,2] [(43, vb s3)] []) (qM<|zA 2 u<|zX .s [0] [] zGP u u u (cq [1,2,0])<|fun r3 _ k p6 c6=>k<|zA 5 u<|wL 37 u (
  zA 5 u<|zL (vb true)<|zV<|zM (gv kk [0] (gq [2,3])))<|zA 2 u<|zX .s [0] [] zGP u u u (cq [2,3,1])<|fun r4 _ k p7 c7=>k<|zA 2 u<|zL (vb ((len r4) == 0))<|zV<|zM (gv kk [0] (gq [3,4]))
  )<|fun s3 _ k=>k<|zJ u (jB 3 u<|zP<|jA 2 u<|zH<|zQ u u kk [0] d)<|jC<|jA 2 u<|zH<|zQ u u kk [0] d
theorem zN7 {qd : Prop} {y0 : uG} : qC qd prog 219 [pt b1 0] [bx b1 195 (uC [vi y0.1, sv p1 y0.2.1 c1] 40 y0.2.2.1 [sv p2 y0.2.2.2.1 c2, vb y0.2.2.2.2]), r_1] [Rl (qZ (zK .i64)) p1 c1 y0.2.1, Al (qZ (zK .i64)) 22 r_1 p2 c2 y0.2.2.2.1] (zBe y0) fun r K=>∀ p3 c3 r_2,K (vb r.1) [bx b1 195 (uC [vi y0.1, sv p1 y0.2.1 c1] 40 r.2.1 [sv p3 r.2.2 c3, vb y0.2.2.2.2]), r_2] [Al (qZ (zK .i64)) 22 r_2 p3 c3 r.2.2] :=
 zY call219 func219 u fun X=>jA 1 u<|zR<|
  qR (fun s1 K=>∀ p3 c3 r_2,K [0] [(0, bx b1 195 (uC [vi y0.1, sv p1 y0.2.1 c1] 40 s1.1 [sv p3 s1.2 c3, vb y0.2.2.2.2])), (1, r_2)] [0] [] [Al (qZ (zK .i64)) 22 r_2 p3 c3 s1.2]) (gv (fun _ k=>k p2 c2 r_1) [0,1] (gq [1,0]))<|
  fun s1 _ k p3 c3 r_2=>k<|zR<|zC<|zA 2 u<|zN 2 u<|jlW 0 40 s1.1 [vi y0.1, sv p1 y0.2.1 c1] [sv p3 s1.2 c3, vb y0.2.2.2.2] u u<|jalA .s (uC [] 40 (List.replicate 40 (0 : Int)) [])<|fun b2=>
  jsW s1.1 .s 2 40 (List.replicate 40 (0 : Int)) [] [] u u u<|zB<|
  zYy (fun s2 K=>∀ p4 c4 r_3,K [0,3] [(0, bx b1 195 (uC [vi y0.1, sv p1 y0.2.1 c1] 40 s2.1 [sv p4 s2.2 c4, vb y0.2.2.2.2])), (1, r_3)] [1] [] [Al (qZ (zK .i64)) 22 r_3 p4 c4 s2.2]) (zC<|zA 2 u<|zN 0 u<|zT 0 u u u<|
  zA 1 u<|zB<|zR<|
  qR (fun s3 K=>∀ p5 c5 r_4,K [0,3,12] [(0, bx b1 195 (uC [vi y0.1, sv p1 y0.2.1 c1] 40 s3.2.1 [sv p5 s3.2.2 c5, vb y0.2.2.2.2])), (1, r_4)] [1] [(13, vi s3.1)] [Al (qZ (zK .i64)) 22 r_4 p5 c5 s3.2.2]) (gv (fun _ k=>k p3 c3 r_2) [0,1,2] (gq [0,1]))<|
  fun s3 _ k p5 c5 r_4=>k<|jA 1 u<|zD<|zJ u (jC<|zD<|zR<|jA 2 u<|zD<|yA [13] [0] 14<|qA 11 [0,1,2] u<|qY 3 2 u u<|z5Z 40 4 u u u<|fun u1 h1=>
  jdlL 5 0 40 s3.2.1 [vi y0.1, sv p1 y0.2.1 c1] [sv p5 s3.2.2 c5, vb y0.2.2.2.2] h1 u u u<|qA 5 [6,7,10] u<|qY 11 2 u u<|qH 8<|zX (.f u) [0] [1] zNg u u u ⟨ck 1,cl 1 0,d⟩<|fun r1 _ k=>k<|qB<|
  qA 2 [9] u<|z5Z 40 12 u u u<|fun u2 h2=>qH 13<|jsL (yE .i64 (yR s3.2.1 s3.1) r1) (.f u) 0 40 s3.2.1 [vi y0.1, sv p1 y0.2.1 c1] [sv p5 s3.2.2 c5, vb y0.2.2.2.2] h2 u u u<|jdb [] [0]<|wA<|zP<|zC<|zA 3 u<|
  zN 2 u<|jiL 40 u u<|fun u3 h3=>jlL 0 40 (xR 40 s3.2.1 s3.1 (yE .i64 (yR s3.2.1 s3.1) r1)) [vi y0.1, sv p1 y0.2.1 c1] [sv p5 s3.2.2 c5, vb y0.2.2.2.2] h3 u u<|zA 1 u<|zB<|zJ u (jA 1 u<|zH<|zZ<|qK<|zZ<|wQ<|qK<|
  wQ<|qK<|wQ<|qK<|zQ u u (fun _ k=>k p5 c5 r_4) [0,1] (gq [0]))<|jC<|qM<|zA 2 u<|zX .s [0, 1] [] zNo u u u (cq [1,0])<|fun r2 _ k p6 c6 r_5=>k<|zV<|qF<|zP<|jB 2 u<|
  qG (gv (fun _ k=>k p6 c6 r_5) [0,1,2] (gq [0,2])))<|qO<|qN<|qQ<|qP<|qG (gv (fun _ k=>k p5 c5 r_4) [0,1,2] (gq [0,1])))<|fun s2 _ k p4 c4 r_3=>k<|zD<|yA [] [0] 9<|qA 7 [0,1] u<|qY 2 2 u u<|qA 4 [3,4] u<|qY 5 0 u u<|
  wI 6 0 u u u u<|jdasl (k := 40) 7 s2.1 u u u<|fun x1 h4=>qH 8<|zX (.f u) [] [0] zCg u u u ⟨cA 0 40 s2.1 [vi y0.1, sv p1 y0.2.1 c1] [sv p4 s2.2 c4, vb y0.2.2.2.2] h4 rfl,d⟩<|fun r3 _ k=>k<|qB<|
  wA<|zP<|zJ u (jA 1 u<|zH<|zZ<|qK<|wQ<|qK<|zQ u u (fun _ k=>k p4 c4 r_3) [0,1] (gq [0]))<|jC<|yA [] [0, 2] 6<|qA 4 [0,1] u<|qY 2 2 u u<|
  jdlW 3 0 40 s2.1 [vi y0.1, sv p1 y0.2.1 c1] [sv p4 s2.2 c4, vb y0.2.2.2.2] u u u<|jdlW 4 2 40 s1.1 [] [] u u u<|
  xS (v := vb (aeq 40 s2.1 s1.1)) 5 u (fun h=>z5p h u u underlying193 underlying3 (by kernel_rfl) (by kernel_rfl) (by kernel_rfl) (by kernel_rfl))<|wA<|zP<|zJ u (jA 1 u<|zH<|qK<|wQ<|qK<|
  zQ u u (fun _ k=>k p4 c4 r_3) [0,1] (gq [0]))<|wF<|qF<|qG (gv (fun _ k=>k p4 c4 r_3) [0,1] (gq [0,1]))
theorem zNY {qd : Prop} (k : Nat) :
    (∀ {y0 : uG} {b1 : Nat} {p1 : Option Addr} {c1 : Nat} {p2 : Option Addr} {c2 : Nat} {r_1 : zW}, qC qd prog 149 [pt b1 0] [bx b1 195 (uC [vi y0.1, sv p1 y0.2.1 c1] 40 y0.2.2.1 [sv p2 y0.2.2.2.1 c2, vb y0.2.2.2.2]), r_1] [Rl (qZ (zK .i64)) p1 c1 y0.2.1, Al (qZ (zK .i64)) 22 r_1 p2 c2 y0.2.2.2.1] (zBa k y0) fun r K=>∀ p3 c3 r_2,K (.tuple #[]) [bx b1 195 (uC [vi y0.1, sv p1 y0.2.1 c1] 40 r.1 [sv p3 r.2.1 c3, vb r.2.2]), r_2] [Al (qZ (zK .i64)) 22 r_2 p3 c3 r.2.1]) := by
  induction k with
  | zero => exact z42 call149
  | succ k ih =>
    have ih_search_finder_find := @ih
    exact @fun y0 b1 p1 c1 p2 c2 r_1=>zY (m1 := zBK (zBa k) y0) call149 func149 u fun X=>zD<|wK (fun s1 K=>∀ p3 c3 r_2,K [0] [(0, bx b1 195 (uC [vi y0.1, sv p1 y0.2.1 c1] 40 s1.2.1 [sv p3 s1.2.2 c3, vb y0.2.2.2.2])), (1, r_2)] [0] [(15, vb s1.1)] [Al (qZ (zK .i64)) 22 r_2 p3 c3 s1.2.2]) (qM<|zA 2 u<|zN 43 u<|
  zT 0 u u u<|zA 1 u<|wL 11 u (zA 3 u<|zL (vb true)<|zV<|zM (gv (fun _ k=>k p2 c2 r_1) [0,1] (gq [1,0])))<|zA 1 u<|zX .s [0, 1] [] zN7 u u u (cq [0,1])<|fun r1 _ k p4 c4 r_3=>k<|zA 1 u<|
  zL (vb (!r1.1))<|zV<|zM (gv (fun _ k=>k p4 c4 r_3) [0,1] (gq [0,1])))<|fun s1 _ k p3 c3 r_2=>k<|zJ u (zH<|zZ<|wG u lN (fun _ k=>k p3 c3 r_2) [0,1] (gq [0]))<|jC<|zC<|zA 1 u<|
  zX .s [0, 1] [] zNW u u u (cq [1,0])<|fun r2 _ k p5 c5=>k<|zA 5 u<|zB<|zD<|jA 2 u<|zJ u (zC<|zA 3 u<|zN 42 u<|zT 0 u u u<|zA 3 u<|zN 43 u<|qJ .s 0 u u u<|zB<|zC<|zA 3 u<|
  zN 42 u<|zT 0 u u u<|zA 1 u<|wT .s (e := qZ (zK .i64)) 22 [sv p5 r2.1 c5] ([r2.1] : List (List Int)) (rC (vL (gk 0)) rN)<|fun p6 c6=>wM .s 1 2 u (gk 0) u u<|fun x1 r_4 p7 c7=>zA 1 u<|zN 42 u<|
  qJ .s 0 u u u<|zB<|zH<|zZ<|wG u lN (fun _ k=>k p7 c7 r_4) [0,1] (gq [0]))<|jC<|zC<|zA 2 u<|zN 2 u<|jlW 0 40 s1.2.1 [vi y0.1, sv p1 y0.2.1 c1] [sv p3 s1.2.2 c3, vb y0.2.2.2.2] u u<|
  jalA .s (uC [] 40 (List.replicate 40 (0 : Int)) [])<|fun b2=>jsW s1.2.1 .s 2 40 (List.replicate 40 (0 : Int)) [] [] u u u<|zB<|zC<|wT .s (e := zK .i64) 3 [vi 2, vi 4, vi 8] ([2, 4, 8] : List Int) (rC vI (rC vI (rC vI rN)))<|
  fun p8 c8=>zA 2 u<|zB<|zR<|
  qR (fun s2 K=>∀ p9 c9 r_5,K [0,3,4,46,47] [(0, bx b1 195 (uC [vi y0.1, sv p1 y0.2.1 c1] 40 s1.2.1 [sv p9 s2.2.1 c9, vb s2.2.2])), (1, r_5)] [0,3] [(48, vi s2.1)] [Al (qZ (zK .i64)) 22 r_5 p9 c9 s2.2.1]) (gv (fun _ k=>k p3 c3 r_2) [0,1,2] (gq [2,0,3]))<|
  fun s2 _ k p9 c9 r_5=>k<|jA 1 u<|zD<|zJ u (jC<|zD<|zR<|zC<|qX 1 u u u<|fun x2 b3 o1=>qW false oI (gk 0) u<|zA 1 u<|zB<|zC<|zA 1 u<|jiL 40 u u<|fun u1 h2=>jlL 2 40 s1.2.1 [] [] h2 u u<|zA 3 u<|zB<|
  zJ u (zC<|zA 4 u<|zN 2 u<|jiL 40 u u<|fun u2 h3=>jsL x2 .s 0 40 s1.2.1 [vi y0.1, sv p1 y0.2.1 c1] [sv p9 s2.2.1 c9, vb s2.2.2] h3 u u u<|zB<|zC<|zA 1 u<|
  zX .s [0, 1] [] ih_search_finder_find u u u (cq [3,1])<|fun r3 _ k p10 c10 r_6=>k<|zB<|qM<|zA 1 u<|jlW 2 40 s1.2.1 [] [] u u<|zA 1 u<|zN 2 u<|
  jsW s1.2.1 .s 0 40 r3.1 [vi y0.1, sv p1 y0.2.1 c1] [sv p10 r3.2.1 c10, vb r3.2.2] u u u<|zV<|qF<|zP<|jB 2 u<|qG (gv (fun _ k=>k p10 c10 r_6) [0,1,2] (gq [0,3,4])))<|wF<|qF<|zP<|jB 2 u<|
  qG (gv (fun _ k=>k p9 c9 r_5) [0,1,2] (gq [1,2,3])))<|qO<|qN<|qQ<|qP<|jrn<|wG u lN (fun _ k=>k p9 c9 r_5) [0,1] (gq [0])
theorem zQG {qd : Prop} {y0 : uG} : qC qd prog 149 [pt b1 0] [bx b1 195 (uC [vi y0.1, sv p1 y0.2.1 c1] 40 y0.2.2.1 [sv p2 y0.2.2.2.1 c2, vb y0.2.2.2.2]), r_1] [Rl (qZ (zK .i64)) p1 c1 y0.2.1, Al (qZ (zK .i64)) 22 r_1 p2 c2 y0.2.2.2.1] (zDl y0) fun r K=>∀ p3 c3 r_2,K (.tuple #[]) [bx b1 195 (uC [vi y0.1, sv p1 y0.2.1 c1] 40 r.1 [sv p3 r.2.1 c3, vb r.2.2]), r_2] [Al (qZ (zK .i64)) 22 r_2 p3 c3 r.2.1] := zRo fun k => (zNY k)
theorem zII {qd : Prop} {y0 : wJ} : qC qd prog 72 [.agg (yY y0 p1 c1).toArray] [] [Rl vO p1 c1 y0.2, Pt (yH 64 (zK .u8)) 4 0 yW] (zBB y0) fun r K=>∀ p2 c2,K (.tuple #[sv p2 r.1 c2, vi r.2]) [] [Rl (qZ (zK .i64)) p2 c2 r.1] :=
 zY call72 func72 u fun X=>zC<|qV .s u<|fun b1=>zA 2 u<|zB<|zD<|zC<|qS 0 2 u u u<|qI zKz u (cq [0])<|fun r1 _ k=>k<|zA 1 u<|zB<|jA 2 u<|zJ u (jA 3 u<|zH<|zZ<|wG u (lT u (lT u lN)) (fun _ k=>k none 0) [] ⟨gn,d⟩)<|
  jC<|zC<|zN 0 u<|zT 0 u u u<|zL (.agg (uC [vi y0.1, .slice none 0 0] 40 (List.replicate 40 (0 : Int)) [.slice none 0 0, vb false]).toArray)<|vJ (qZ (zK .i64)) 22<|vJ (qZ (zK .i64)) 22<|qV .s u<|fun b2=>
  zA 1 u<|zB<|wK (fun s1 K=>∀ p2 c2 r_1,K [5] [(0, []), (1, r_1), (3, bx b2 195 (uC [vi y0.1, sv p2 s1.1 c2] 40 s1.2 [sv none ([] : List (List Int)) 0, vb false]))] [0,3] [] [Al (qZ (zK .i64)) 22 r_1 p2 c2 s1.1]) (zC<|
  zN 0 u<|zT 0 u u u<|zA 1 u<|zB<|zR<|
  qR (fun s2 K=>∀ p3 c3 r_2,K [1,5,17] [(1, r_2), (3, bx b2 195 (uC [vi y0.1, sv p3 s2.2.1 c3] 40 s2.2.2 [sv none ([] : List (List Int)) 0, vb false]))] [2,0,3] [(18, vi s2.1)] [Al (qZ (zK .i64)) 22 r_2 p3 c3 s2.2.1]) (gv (fun _ k=>k none 0 []) [0,1,2,3] (gq [1,2,0,3]))<|
  fun s2 _ k p3 c3 r_2=>k<|jA 1 u<|zD<|zJ u (jC<|zD<|zR<|jA 2 u<|yA [12] [0, 3] 13<|qA 10 [0,1,2] u<|qY 3 1 u u<|wI 4 3 u u u u<|vM 5 0 2 u u u u<|qA 6 [6] u<|qH 7<|
  zX (.f u) [] [] zSM u u u (cq [1,3])<|fun r2 _ k p4 c4=>k<|qB<|qH 8<|wT (.f u) (e := qZ (zK .i64)) 22 [sv p4 r2 c4] ([r2] : List (List Int)) (rC (vL (gk 0)) rN)<|fun p5 c5=>qB<|qH 9<|
  wM (.f u) 1 2 u (gk 0) u u<|fun x1 r_3 p6 c6=>qB<|qA 2 [10] u<|qY 11 1 u u<|qH 12<|qJ (o := 1) (.f u) 3 u u u<|jdb [] [0, 3]<|wA<|zP<|qM<|zA 3 u<|zN 2 u<|jiL 40 u u<|fun u1 h2=>
  jsL 14 .s 3 40 s2.2.2 [vi y0.1, sv p6 x1 c6] [sv none ([] : List (List Int)) 0, vb false] h2 u u u<|zV<|qF<|zP<|jB 2 u<|qG (gv (fun _ k=>k p6 c6 r_3) [0,1,2,3] (gq [0,4,5,6])))<|qO<|qN<|qQ<|qP<|
  zM (gv (fun _ k=>k p3 c3 r_2) [900,1,2,3] (gq [0,2,3])))<|fun s1 _ k p2 c2 r_1=>k<|zC<|zA 1 u<|wY 1 0 u u<|zX .s [3, 2] [] zQG u u u (cq [0,2])<|fun r3 _ k p7 c7 r_4=>k<|zB<|zD<|zC<|zA 2 u<|
  zN 43 u<|zT 3 u u u<|zB<|zJ u (jA 2 u<|zH<|zZ<|wG u (lT u (lT u lN)) (fun _ k=>k none 0) [] ⟨gn,d⟩)<|jC<|zC<|zA 2 u<|zN 42 u<|zT 3 u u u<|zA 2 u<|zB<|zH<|wY 2 0 u u<|
  wG u (lT u (lT u lN)) (fun _ k=>k p7 c7) [] (gq [0])
theorem zEe {qd : Prop} {y0 : List Int} {y1 : List Int} : qC qd prog 153 [sv p1 y0 c1, sv p2 y1 c2] [] [Rl (zK .i64) p1 c1 y0, Rl (zK .i64) p2 c2 y1] (zBg y0 y1) fun r K=>∀ p3 c3,K (sv p3 r c3) [] [Rl (zK .i64) p3 c3 r] :=
 zY call153 func153 u fun X=>jA 1 u<|zC<|zA 1 u<|vJ (zK .i64) 3<|zB<|zD<|jA 3 u<|zR<|
  qR (fun s1 K=>∀ p3 c3 r_1,K [0,8,9] [(0, r_1)] [1,2] [(5, sv p3 s1.1 c3), (10, vi s1.2)] [Al (zK .i64) 3 r_1 p3 c3 s1.1]) (gv (fun _ k=>k none 0 []) [0] (gq [0,1,2]))<|fun s1 _ k p3 c3 r_1=>k<|jA 1 u<|zD<|zJ u (jC<|zD<|zR<|zC<|
  qX 2 u u u<|fun x1 b1 o1=>qW false oI (gk 0) u<|zA 1 u<|zB<|qM<|zA 3 u<|qI zC9 u (cq [2])<|fun r1 _ k p4 c4=>k<|wM .s 0 2 u (gk 0) u u<|fun x2 r_2 p5 c5=>zA 1 u<|zV<|qF<|zP<|jB 2 u<|
  qG (gv (fun _ k=>k p5 c5 r_2) [0] (gq [0,4,5])))<|qO<|qN<|qQ<|qP<|zP<|jA 2 u<|zH<|wY 0 0 u u<|zQ u u (fun _ k=>k p3 c3) [] (gq [0])
theorem zQU {qd : Prop} {y0 : Int} {y1 : List Int} : vU qd prog 222 [vi y0, pt b1 0] [bx b1 22 [sv p1 y1 c1]] [Rl (zK .i64) p1 c1 y1] (zDn y0 y1) fun L r K=>K (vb r) L [] :=
 zY call222 func222 u fun X=>jA 1 u<|zC<|zT 0 u u u<|zA 1 u<|qI zCg u (cq [0])<|fun r1 _ k=>k<|zA 2 u<|zB<|zH<|zQ u u kk [0] d
theorem zGp {qd : Prop} {y0 : List Int} {y1 : List Int} : vU qd prog 191 [sv p1 y0 c1, .func (.func 222) #[] #[pt b1 0]] [bx b1 22 [sv p2 y1 c2]] [Rl (zK .i64) p1 c1 y0, Rl (zK .i64) p2 c2 y1] (zAe y0 y1) fun L r K=>K (vi r) L [] :=
 zY call191 func191 u fun X=>jA 1 u<|zD<|jA 3 u<|zR<|qR (fun s1 K=>K [0,1,7] [] [0,1] [(8, vi s1)] []) (gv kk [0] (gq [0,1]))<|fun s1 _ k=>k<|jA 1 u<|zD<|zJ u (jC<|zD<|zR<|jA 2 u<|zC<|zA 3 u<|qX 0 u u u<|fun x1 b2 o1=>
  qW false oI (gk 0) u<|zX .s [0] [] zQU u u u (cq [2])<|fun r1 _ k=>k<|zB<|zJ u (jA 2 u<|zH<|qK<|zZ<|wQ<|qK<|zZ<|zQ u u kk [0] d)<|wF<|qF<|zP<|jB 2 u<|
  qG (gv kk [0] (gq [1,2])))<|qO<|qN<|qQ<|qP<|zP<|jA 1 u<|zH<|zQ u u kk [0] d
theorem zFZ {qd : Prop} {y0 : List Int} {y1 : List Int} : vU qd prog 121 [sv p1 y0 c1, .func (.func 222) #[] #[pt b1 0]] [bx b1 22 [sv p2 y1 c2]] [Rl (zK .i64) p1 c1 y0, Rl (zK .i64) p2 c2 y1] (zAG y0 y1) fun L r K=>K (vb r) L [] :=
 zY call121 func121 u fun X=>jA 1 u<|zC<|zA 2 u<|zX .s [0] [] zGp u u u (cq [0,1])<|fun r1 _ k=>k<|zA 2 u<|zB<|zH<|zQ u u kk [0] d
theorem zM9 {qd : Prop} {y0 : List Int} {y1 : List Int} : qC qd prog 152 [sv p1 y0 c1, sv p2 y1 c2] [] [Rl (zK .i64) p1 c1 y0, Rl (zK .i64) p2 c2 y1] (zCk y0 y1) fun r K=>K (vb r) [] [] :=
 zY call152 func152 u fun X=>zC<|qV .s u<|fun b1=>zA 1 u<|zB<|jjn (fun s1 K=>K [(4, vb s1)] [[]] []) (qM<|zA 2 u<|zT 0 u u u<|zA 3 u<|wL 10 u (zA 2 u<|zX .s [0] [] zFZ u u u (cq [0,1])<|
  fun r1 _ k=>k<|zA 1 u<|zL (vb (!r1))<|zA 1 u<|zV<|zM (gv kk [900] d))<|zA 4 u<|zL (vb false)<|zA 1 u<|zV<|zM (gv kk [900] d))<|fun s1 _ k=>k<|zH<|zQ u u kk [] d
theorem zOH {qd : Prop} {y0 : List Int} {y1 : List Int} : qC qd prog 151 [sv p1 y0 c1, sv p2 y1 c2] [] [Rl (zK .i64) p1 c1 y0, Rl (zK .i64) p2 c2 y1] (zCQ y0 y1) fun r K=>K (vb r) [] [] :=
 zY call151 func151 u fun X=>jA 1 u<|zC<|zA 1 u<|wT .s (e := zK .i64) 3 [vi 1] ([1] : List Int) (rC vI rN)<|fun p3 c3=>qI zEe u (cq [2,0])<|fun r1 _ k p4 c4=>k<|zA 1 u<|wT .s (e := zK .i64) 3 [vi 1] ([1] : List Int) (rC vI rN)<|
  fun p5 c5=>qI zEe u (cq [3,0])<|fun r2 _ k p6 c6=>k<|qI zM9 u (cq [2,0])<|fun r3 _ k=>k<|zA 1 u<|zB<|zH<|zQ u u kk [] d
theorem zHJ {qd : Prop} {y0 : List Int} {y2 : List Int} : vU qd prog 221 [sv p1 y0 c1, pt b1 0, pt b2 0] [bx b1 197 [.func (.func 151) #[] #[]], bx b2 22 [sv p2 y2 c2]] [Rl (zK .i64) p1 c1 y0, Rl (zK .i64) p2 c2 y2] (zAm y0 y2) fun L r K=>K (vb r) L [] :=
 zY call221 func221 u fun X=>jA 1 u<|zC<|zT 0 u u u<|zA 1 u<|zT 1 u u u<|zX .s [] [] zOH u u u (cq [0,1])<|fun r1 _ k=>k<|zA 1 u<|zB<|zH<|zQ u u kk [0,1] d
theorem zH0 {qd : Prop} {y0 : List (List Int)} {y2 : List Int} : vU qd prog 227 [sv p1 y0 c1, .func (.func 221) #[] #[pt b1 0, pt b2 0]] [bx b1 197 [.func (.func 151) #[] #[]], bx b2 22 [sv p2 y2 c2]] [Rl (qZ (zK .i64)) p1 c1 y0, Rl (zK .i64) p2 c2 y2] (zAs y0 y2) fun L r K=>K (vi r) L [] :=
 zY call227 func227 u fun X=>jA 1 u<|zD<|jA 3 u<|zR<|qR (fun s1 K=>K [0,1,7] [] [0,1] [(8, vi s1)] []) (gv kk [0,1] (gq [0,1]))<|fun s1 _ k=>k<|jA 1 u<|zD<|zJ u (jC<|zD<|zR<|jA 2 u<|zC<|zA 3 u<|qX 0 u u u<|fun x1 b3 o1=>
  qW false oL (gk 0) u<|fun p3 c3=>zX .s [0, 1] [] zHJ u u u (cq [0,3])<|fun r1 _ k=>k<|zB<|zJ u (jA 2 u<|zH<|qK<|zZ<|wQ<|qK<|zZ<|zQ u u kk [0,1] d)<|wF<|qF<|zP<|
  jB 2 u<|qG (gv kk [0,1] (gq [2,3])))<|qO<|qN<|qQ<|qP<|zP<|jA 1 u<|zH<|zQ u u kk [0,1] d
theorem zGM {qd : Prop} {y0 : List (List Int)} {y2 : List Int} : vU qd prog 158 [sv p1 y0 c1, .func (.func 221) #[] #[pt b1 0, pt b2 0]] [bx b1 197 [.func (.func 151) #[] #[]], bx b2 22 [sv p2 y2 c2]] [Rl (qZ (zK .i64)) p1 c1 y0, Rl (zK .i64) p2 c2 y2] (zAM y0 y2) fun L r K=>K (vb r) L [] :=
 zY call158 func158 u fun X=>jA 1 u<|zC<|zA 2 u<|zX .s [0, 1] [] zH0 u u u (cq [0,1])<|fun r1 _ k=>k<|zA 2 u<|zB<|zH<|zQ u u kk [0,1] d
theorem zH9 {qd : Prop} {y0 : wJ} : qC qd prog 150 [.agg (yY y0 p1 c1).toArray, .func (.func 151) #[] #[]] [] [Rl vO p1 c1 y0.2, Pt (yH 64 (zK .u8)) 4 0 yW] (zAK y0) fun r K=>∀ p2 c2,K (.tuple #[sv p2 r.1 c2, vi r.2]) [] [Rl (qZ (zK .i64)) p2 c2 r.1] :=
 zY call150 func150 u fun X=>zC<|qV .s u<|fun b1=>qV .s u<|fun b2=>zA 2 u<|zB<|zC<|qS 0 2 u u u<|qI zII u (cq [0,1])<|fun r1 _ k p2 c2=>k<|zA 5 u<|zB<|zD<|jA 2 u<|zJ u (jA 3 u<|zH<|zZ<|
  wG u (lT u (lT u lN)) (fun _ k=>k none 0) [] ⟨gn,d⟩)<|jC<|zC<|zA 1 u<|vJ (qZ (zK .i64)) 22<|zB<|zD<|jA 3 u<|zR<|
  qR (fun s1 K=>∀ p3 c3 r_1,K [3,6,19,20] [(0, []), (2, r_1)] [1,3] [(8, sv p3 s1.1 c3), (21, vi s1.2)] [Al (qZ (zK .i64)) 22 r_1 p3 c3 s1.1]) (gv (fun _ k=>k none 0 []) [900,1,2] (gq [0,1,3]))<|fun s1 _ k p3 c3 r_1=>k<|jA 1 u<|
  zD<|zJ u (jC<|zD<|zR<|zC<|qX 1 u u u<|fun x1 b3 o1=>qW false oL (gk 0) u<|fun p4 c4=>wN .s (.slice none 0 0)<|fun b4=>qJ .s 3 u u u<|zB<|zC<|zA 2 u<|
  zX .s [1, 3] [] zGM u u u (cq [3,0])<|fun r2 _ k=>k<|zA 1 u<|zB<|zJ u (qM<|zA 1 u<|zT 3 u u u<|
  wT .s (e := qZ (zK .i64)) 22 [sv p4 x1 c4] ([x1] : List (List Int)) (rC (vL (gk 0)) rN)<|fun p5 c5=>wM .s 2 3 u (gk 0) u u<|fun x2 r_2 p6 c6=>zA 1 u<|zV<|qF<|zP<|jB 2 u<|
  qG (gv (fun _ k=>k p6 c6 r_2) [900,1,2] (gq [0,5,6])))<|wF<|qF<|zP<|jB 2 u<|qG (gv (fun _ k=>k p3 c3 r_1) [900,1,2] (gq [2,3,4])))<|qO<|qN<|qQ<|qP<|zP<|jA 3 u<|zH<|wY 2 0 u u<|
  wG u (lT u (lT u lN)) (fun _ k=>k p3 c3) [] (gq [0])
theorem zKi {qd : Prop} {y0 : wJ} : qC qd prog 73 [.agg (yY y0 p1 c1).toArray] [] [Rl vO p1 c1 y0.2, Pt (yH 64 (zK .u8)) 4 0 yW] (zAv y0) fun r K=>∀ p2 c2,K (.tuple #[sv p2 r.1 c2, vi r.2]) [] [Rl (qZ (zK .i64)) p2 c2 r.1] :=
 zY call73 func73 u fun X=>zC<|qV .s u<|fun b1=>zA 2 u<|zB<|zC<|qS 0 2 u u u<|qI zH9 u (cq [0,1])<|fun r1 _ k p2 c2=>k<|zA 4 u<|zB<|zH<|wG u (lT u (lT u lN)) (fun _ k=>k p2 c2) [] (gq [0])
theorem zLf {qd : Prop} {y0 : wJ} {y1 : List Int} : qC qd prog 225 [.agg (yY y0 p1 c1).toArray, sv p2 y1 c2] [] [Rl vO p1 c1 y0.2, Rl (zK .i64) p2 c2 y1] (zCN y0 y1) fun r K=>∀ p3 c3,K (sv p3 r c3) [] [Rl (zK .i64) p3 c3 r] :=
 zY call225 func225 u fun X=>zC<|qV .s u<|fun b1=>zA 1 u<|zB<|zC<|wT .s (e := zK .i64) 3 [vi 3] ([3] : List Int) (rC vI rN)<|fun p3 c3=>zN 0 u<|zT 0 u u u<|qI zGW u (cq [0])<|fun r1 _ k p4 c4 r_1=>k<|zA 1 u<|zB<|
  wK (fun s1 K=>∀ r_2,K [1,2] [(1, r_2)] [3,2] [(5, .slice p4 (List.length r1) c4)] [Ar (zK .i64) 3 r_2 p4 c4 (List.length r1) s1]) (zC<|zN 1 u<|zT 0 u u u<|zA 2 u<|zB<|zR<|
  qR (fun s2 K=>∀ r_3,K [1,2,15,16] [(1, r_3)] [3,2] [(5, .slice p4 (List.length r1) c4), (17, vi s2.2)] [Ar (zK .i64) 3 r_3 p4 c4 (List.length r1) s2.1]) (gv (fun _ k=>k r_1) [0,1] (gq [0,3,2]))<|fun s2 _ k r_3=>k<|jA 1 u<|zD<|
  zJ u (jC<|zD<|zR<|zC<|qX 2 u u u<|fun x1 b2 o1=>qW true zOR (gk 0) u<|wN .s (.agg #[vi 0, vi 0])<|fun b3=>qJ .s 2 u u u<|zB<|zC<|zA 1 u<|zN 0 u<|zT 2 u u u<|qI zCg u (cq [2])<|
  fun r2 _ k=>k<|zB<|zJ u (qM<|zA 1 u<|zN 1 u<|zT 2 u u u<|tV 1 u u u<|fun x2 h1 b4 hp1=>jsA .s 1 1 sI 2 false u hp1 h1 u u vI<|fun r_4=>zV<|qF<|zP<|jB 2 u<|qG (gv (fun _ k=>k r_4) [0,1] (gq [0,3,4])))<|
  wF<|qF<|zP<|jB 2 u<|qG (gv (fun _ k=>k r_3) [0,1] (gq [1,2,3])))<|qO<|qN<|qQ<|qP<|zM (gv (fun _ k=>k r_3) [0,1] (gq [0,1,2])))<|fun s1 _ k r_2=>k<|zD<|jA 3 u<|zR<|
  qR (fun s3 K=>∀ r_5,K [2,5,30,31] [(1, r_5)] [1,2] [(32, vi s3.2)] [Ar (zK .i64) 3 r_5 p4 c4 (List.length r1) s3.1]) (gv (fun _ k=>k r_2) [0,1] (gq [0,1,2]))<|fun s3 _ k r_5=>k<|jA 1 u<|zD<|zJ u (jC<|zD<|zR<|zC<|
  qX 1 u u u<|fun x3 b5 o2=>qW false oI (gk 0) u<|zA 1 u<|zB<|tK (fun K=>K [2,5,9,30,31,32] [] [1,2,3] [(43, vb ((decide (0 ≤ x3)) && (decide (x3 < y0.1))))] []) (qM<|zA 3 u<|uF (b := decide (0 ≤ x3)) 38 u (fun hb1=>
  zA 1 u<|zN 0 u<|zT 0 u u u<|zA 1 u<|zL (vb (decide (x3 < y0.1)))<|zV<|wX 43 (vb ((decide (0 ≤ x3)) && (decide (x3 < y0.1)))) u (by rw [hb1]; rfl)<|zM (gv kk [0,1] (gq [1,2,3])))<|fun hb1=>zA 4 u<|
  zL (vb false)<|zV<|wX 43 (vb ((decide (0 ≤ x3)) && (decide (x3 < y0.1)))) u (by rw [hb1]; rfl)<|zM (gv kk [0,1] (gq [1,2,3])))<|fun _ k=>k<|zJ u (qM<|zA 2 u<|tV 0 u u u<|fun x4 h2 b6 hp2=>
  jsA .s 1 0 sI 1 false u hp2 h2 u u vI<|fun r_6=>zV<|qF<|zP<|jB 2 u<|qG (gv (fun _ k=>k r_6) [0,1] (gq [0,2,3])))<|wF<|qF<|zP<|jB 2 u<|qG (gv (fun _ k=>k r_5) [0,1] (gq [0,1,2])))<|qO<|qN<|qQ<|qP<|zP<|jA 2 u<|zH<|
  wY 1 0 u u<|jre 0 4 u u<|zQ u u (fun _ k=>k p4 c4) [] (gq [0])
theorem zI9 {qd : Prop} {y0 : wJ} : qC qd prog 156 [.agg (yY y0 p1 c1).toArray, .func (.func 73) #[] #[]] [] [Rl vO p1 c1 y0.2, Pt (yH 64 (zK .u8)) 4 0 yW] (zAi y0) fun r K=>∀ p2 c2,K (.tuple #[sv p2 r.1 c2, vi r.2]) [] [Rl (zK .i64) p2 c2 r.1] :=
 zY call156 func156 u fun X=>zC<|qV .s u<|fun b1=>zA 2 u<|zB<|zC<|zA 1 u<|qS 0 2 u u u<|zX .s [] [] zKi u u u (cq [0,1])<|fun r1 _ k p2 c2=>k<|zA 5 u<|zB<|zD<|jA 2 u<|zJ u (jA 3 u<|zH<|zZ<|
  wG u (lT u (lT u lN)) (fun _ k=>k none 0) [] ⟨gn,d⟩)<|jC<|yA [] [0] 9<|vM 0 0 2 u u u u<|qA 7 [1] u<|qH 2<|zX (.f u) [] [] zRF u u u (cq [0])<|fun r2 _ k p3 c3=>k<|qB<|qH 3<|
  zX (.f u) [] [] zLl u u u (cq [2,0,3])<|fun r3 _ k p4 c4=>k<|qB<|qA 0 [4,5,6,7,8] u<|wA<|zP<|zD<|jA 2 u<|zJ u (jA 3 u<|zH<|zZ<|wG u (lT u (lT u lN)) (fun _ k=>k none 0) [] ⟨gn,d⟩)<|jC<|zC<|
  qS 0 2 u u u<|zA 1 u<|qI zLf u (cq [3,0])<|fun r4 _ k p5 c5=>k<|zA 2 u<|zB<|zH<|wG u (lT u (lT u lN)) (fun _ k=>k p5 c5) [] (gq [0])
theorem zYF {qd : Prop} {y0 : wJ} : qC qd prog 76 [.agg (yY y0 p1 c1).toArray] [] [Rl vO p1 c1 y0.2, Pt (yH 64 (zK .u8)) 4 0 yW] (zGB y0) fun r K=>∀ p2 c2,K (.tuple #[sv p2 r.1 c2, vi r.2]) [] [Rl (zK .i64) p2 c2 r.1] :=
 zY call76 func76 u fun X=>zC<|qV .s u<|fun b1=>zA 2 u<|zB<|zC<|qS 0 2 u u u<|qI zI9 u (cq [0,1])<|fun r1 _ k p2 c2=>k<|zA 4 u<|zB<|zH<|wG u (lT u (lT u lN)) (fun _ k=>k p2 c2) [] (gq [0])
theorem zLC {qd : Prop} {y0 : wJ} : vU qd prog 146 [.agg (yY y0 p1 c1).toArray, pt b1 0] [bx b1 140 [.func (.func 76) #[] #[]]] [Rl vO p1 c1 y0.2, Pt (yH 64 (zK .u8)) 4 0 yW] (zBG y0) fun L r K=>∀ p2 c2,K (.tuple #[sv p2 r.1 c2, vi r.2]) L [Rl (qZ (zK .i64)) p2 c2 r.1] :=
 zY call146 func146 u fun X=>zC<|qV .s u<|fun b2=>zA 2 u<|zB<|zC<|zT 0 u u u<|qS 1 2 u u u<|zX .s [] [] zYF u u u (cq [0,1])<|fun r1 _ k p2 c2=>k<|zA 5 u<|zB<|zD<|jA 2 u<|zJ u (jA 3 u<|zH<|zZ<|
  wG u (lT u (lT u lN)) (fun _ k=>k none 0) [0] ⟨gn,d⟩)<|jC<|zC<|zA 1 u<|wT .s (e := qZ (zK .i64)) 22 [sv p2 r1.1 c2] ([r1.1] : List (List Int)) (rC (vL (gk 0)) rN)<|fun p3 c3=>zA 2 u<|zB<|zH<|
  wG u (lT u (lT u lN)) (fun _ k=>k p3 c3) [0] (gq [0])
theorem zJT {qd : Prop} {y0 : wJ} : vU qd prog 147 [.agg (yY y0 p1 c1).toArray, pt b1 0] [bx b1 78 [.func (.func 146) #[] #[pt b2 0]], bx b2 140 [.func (.func 76) #[] #[]]] [Rl vO p1 c1 y0.2, Pt (yH 64 (zK .u8)) 4 0 yW] (zAN y0) fun L r K=>∀ p2 c2,K (.tuple #[sv p2 r.1 c2, vi r.2]) L [Rl (qZ (zK .i64)) p2 c2 r.1] :=
 zY call147 func147 u fun X=>zC<|qV .s u<|fun b3=>zA 2 u<|zB<|zC<|zT 0 u u u<|qS 2 2 u u u<|zX .s [1] [] zLC u u u (cq [0,1])<|fun r1 _ k p2 c2=>k<|zA 5 u<|zB<|zD<|jA 2 u<|zJ u (jA 3 u<|zH<|zZ<|
  wG u (lT u (lT u lN)) (fun _ k=>k none 0) [0,1] ⟨gn,d⟩)<|jC<|zC<|zA 1 u<|vJ (qZ (zK .i64)) 22<|zB<|zD<|jA 3 u<|zR<|
  qR (fun s1 K=>∀ p3 c3 r_1,K [19,20] [(2, []), (3, r_1)] [1,3] [(7, sv p3 s1.1 c3), (21, vi s1.2)] [Al (qZ (zK .i64)) 22 r_1 p3 c3 s1.1]) (gv (fun _ k=>k none 0 []) [0,1,902,3] (gq [0,1,3]))<|fun s1 _ k p3 c3 r_1=>k<|jA 1 u<|zD<|
  zJ u (jC<|zD<|zR<|zC<|qX 1 u u u<|fun x1 b4 o1=>qW false oL (gk 0) u<|fun p4 c4=>zA 1 u<|zB<|qM<|zA 2 u<|qI zC9 u (cq [0])<|fun r2 _ k p5 c5=>k<|
  wT .s (e := qZ (zK .i64)) 22 [sv p5 r2 c5] ([r2] : List (List Int)) (rC (vL (gk 0)) rN)<|fun p6 c6=>wM .s 3 4 u (gk 0) u u<|fun x2 r_2 p7 c7=>zA 1 u<|zV<|qF<|zP<|jB 2 u<|
  qG (gv (fun _ k=>k p7 c7 r_2) [0,1,902,3] (gq [0,6,7])))<|qO<|qN<|qQ<|qP<|zP<|jA 3 u<|zH<|wY 3 0 u u<|wG u (lT u (lT u lN)) (fun _ k=>k p3 c3) [0,1] (gq [0])
theorem zNZ {qd : Prop} {y0 : List Int} {y1 : List Int} : qC qd prog 155 [sv p1 y0 c1, sv p2 y1 c2] [] [Rl (zK .i64) p1 c1 y0, Rl (zK .i64) p2 c2 y1] (zBz y0 y1) fun r K=>K (vb r) [] [] :=
 zY call155 func155 u fun X=>jA 1 u<|zC<|zA 1 u<|wT .s (e := zK .i64) 3 [vi 3] ([3] : List Int) (rC vI rN)<|fun p3 c3=>qI zEe u (cq [1,0])<|fun r1 _ k p4 c4=>k<|zA 1 u<|wT .s (e := zK .i64) 3 [vi 3] ([3] : List Int) (rC vI rN)<|
  fun p5 c5=>qI zEe u (cq [4,0])<|fun r2 _ k p6 c6=>k<|qI zM9 u (cq [2,0])<|fun r3 _ k=>k<|zA 1 u<|zB<|zH<|zQ u u kk [] d
theorem zGd {qd : Prop} {y0 : List Int} {y2 : List Int} : vU qd prog 221 [sv p1 y0 c1, pt b1 0, pt b2 0] [bx b1 197 [.func (.func 155) #[] #[]], bx b2 22 [sv p2 y2 c2]] [Rl (zK .i64) p1 c1 y0, Rl (zK .i64) p2 c2 y2] (zAf y0 y2) fun L r K=>K (vb r) L [] :=
 zY call221 func221 u fun X=>jA 1 u<|zC<|zT 0 u u u<|zA 1 u<|zT 1 u u u<|zX .s [] [] zNZ u u u (cq [0,1])<|fun r1 _ k=>k<|zA 1 u<|zB<|zH<|zQ u u kk [0,1] d
theorem zGt {qd : Prop} {y0 : List (List Int)} {y2 : List Int} : vU qd prog 227 [sv p1 y0 c1, .func (.func 221) #[] #[pt b1 0, pt b2 0]] [bx b1 197 [.func (.func 155) #[] #[]], bx b2 22 [sv p2 y2 c2]] [Rl (qZ (zK .i64)) p1 c1 y0, Rl (zK .i64) p2 c2 y2] (zAd y0 y2) fun L r K=>K (vi r) L [] :=
 zY call227 func227 u fun X=>jA 1 u<|zD<|jA 3 u<|zR<|qR (fun s1 K=>K [0,1,7] [] [0,1] [(8, vi s1)] []) (gv kk [0,1] (gq [0,1]))<|fun s1 _ k=>k<|jA 1 u<|zD<|zJ u (jC<|zD<|zR<|jA 2 u<|zC<|zA 3 u<|qX 0 u u u<|fun x1 b3 o1=>
  qW false oL (gk 0) u<|fun p3 c3=>zX .s [0, 1] [] zGd u u u (cq [0,3])<|fun r1 _ k=>k<|zB<|zJ u (jA 2 u<|zH<|qK<|zZ<|wQ<|qK<|zZ<|zQ u u kk [0,1] d)<|wF<|qF<|zP<|
  jB 2 u<|qG (gv kk [0,1] (gq [2,3])))<|qO<|qN<|qQ<|qP<|zP<|jA 1 u<|zH<|zQ u u kk [0,1] d
theorem zF7 {qd : Prop} {y0 : List (List Int)} {y2 : List Int} : vU qd prog 158 [sv p1 y0 c1, .func (.func 221) #[] #[pt b1 0, pt b2 0]] [bx b1 197 [.func (.func 155) #[] #[]], bx b2 22 [sv p2 y2 c2]] [Rl (qZ (zK .i64)) p1 c1 y0, Rl (zK .i64) p2 c2 y2] (zAJ y0 y2) fun L r K=>K (vb r) L [] :=
 zY call158 func158 u fun X=>jA 1 u<|zC<|zA 2 u<|zX .s [0, 1] [] zGt u u u (cq [0,1])<|fun r1 _ k=>k<|zA 2 u<|zB<|zH<|zQ u u kk [0,1] d
theorem zH3 {qd : Prop} {y0 : wJ} : qC qd prog 150 [.agg (yY y0 p1 c1).toArray, .func (.func 155) #[] #[]] [] [Rl vO p1 c1 y0.2, Pt (yH 64 (zK .u8)) 4 0 yW] (zAF y0) fun r K=>∀ p2 c2,K (.tuple #[sv p2 r.1 c2, vi r.2]) [] [Rl (qZ (zK .i64)) p2 c2 r.1] :=
 zY call150 func150 u fun X=>zC<|qV .s u<|fun b1=>qV .s u<|fun b2=>zA 2 u<|zB<|zC<|qS 0 2 u u u<|qI zII u (cq [0,1])<|fun r1 _ k p2 c2=>k<|zA 5 u<|zB<|zD<|jA 2 u<|zJ u (jA 3 u<|zH<|zZ<|
  wG u (lT u (lT u lN)) (fun _ k=>k none 0) [] ⟨gn,d⟩)<|jC<|zC<|zA 1 u<|vJ (qZ (zK .i64)) 22<|zB<|zD<|jA 3 u<|zR<|
  qR (fun s1 K=>∀ p3 c3 r_1,K [3,6,19,20] [(0, []), (2, r_1)] [1,3] [(8, sv p3 s1.1 c3), (21, vi s1.2)] [Al (qZ (zK .i64)) 22 r_1 p3 c3 s1.1]) (gv (fun _ k=>k none 0 []) [900,1,2] (gq [0,1,3]))<|fun s1 _ k p3 c3 r_1=>k<|jA 1 u<|
  zD<|zJ u (jC<|zD<|zR<|zC<|qX 1 u u u<|fun x1 b3 o1=>qW false oL (gk 0) u<|fun p4 c4=>wN .s (.slice none 0 0)<|fun b4=>qJ .s 3 u u u<|zB<|zC<|zA 2 u<|
  zX .s [1, 3] [] zF7 u u u (cq [3,0])<|fun r2 _ k=>k<|zA 1 u<|zB<|zJ u (qM<|zA 1 u<|zT 3 u u u<|
  wT .s (e := qZ (zK .i64)) 22 [sv p4 x1 c4] ([x1] : List (List Int)) (rC (vL (gk 0)) rN)<|fun p5 c5=>wM .s 2 3 u (gk 0) u u<|fun x2 r_2 p6 c6=>zA 1 u<|zV<|qF<|zP<|jB 2 u<|
  qG (gv (fun _ k=>k p6 c6 r_2) [900,1,2] (gq [0,5,6])))<|wF<|qF<|zP<|jB 2 u<|qG (gv (fun _ k=>k p3 c3 r_1) [900,1,2] (gq [2,3,4])))<|qO<|qN<|qQ<|qP<|zP<|jA 3 u<|zH<|wY 2 0 u u<|
  wG u (lT u (lT u lN)) (fun _ k=>k p3 c3) [] (gq [0])
theorem zKG {qd : Prop} {y0 : wJ} : qC qd prog 75 [.agg (yY y0 p1 c1).toArray] [] [Rl vO p1 c1 y0.2, Pt (yH 64 (zK .u8)) 4 0 yW] (zAk y0) fun r K=>∀ p2 c2,K (.tuple #[sv p2 r.1 c2, vi r.2]) [] [Rl (qZ (zK .i64)) p2 c2 r.1] :=
 zY call75 func75 u fun X=>zC<|qV .s u<|fun b1=>zA 2 u<|zB<|zC<|qS 0 2 u u u<|qI zH3 u (cq [0,1])<|fun r1 _ k p2 c2=>k<|zA 4 u<|zB<|zH<|wG u (lT u (lT u lN)) (fun _ k=>k p2 c2) [] (gq [0])
theorem zI5 {qd : Prop} {y0 : wJ} : qC qd prog 156 [.agg (yY y0 p1 c1).toArray, .func (.func 75) #[] #[]] [] [Rl vO p1 c1 y0.2, Pt (yH 64 (zK .u8)) 4 0 yW] (zA7 y0) fun r K=>∀ p2 c2,K (.tuple #[sv p2 r.1 c2, vi r.2]) [] [Rl (zK .i64) p2 c2 r.1] :=
 zY call156 func156 u fun X=>zC<|qV .s u<|fun b1=>zA 2 u<|zB<|zC<|zA 1 u<|qS 0 2 u u u<|zX .s [] [] zKG u u u (cq [0,1])<|fun r1 _ k p2 c2=>k<|zA 5 u<|zB<|zD<|jA 2 u<|zJ u (jA 3 u<|zH<|zZ<|
  wG u (lT u (lT u lN)) (fun _ k=>k none 0) [] ⟨gn,d⟩)<|jC<|yA [] [0] 9<|vM 0 0 2 u u u u<|qA 7 [1] u<|qH 2<|zX (.f u) [] [] zRF u u u (cq [0])<|fun r2 _ k p3 c3=>k<|qB<|qH 3<|
  zX (.f u) [] [] zLl u u u (cq [2,0,3])<|fun r3 _ k p4 c4=>k<|qB<|qA 0 [4,5,6,7,8] u<|wA<|zP<|zD<|jA 2 u<|zJ u (jA 3 u<|zH<|zZ<|wG u (lT u (lT u lN)) (fun _ k=>k none 0) [] ⟨gn,d⟩)<|jC<|zC<|
  qS 0 2 u u u<|zA 1 u<|qI zLf u (cq [3,0])<|fun r4 _ k p5 c5=>k<|zA 2 u<|zB<|zH<|wG u (lT u (lT u lN)) (fun _ k=>k p5 c5) [] (gq [0])
theorem zXS {qd : Prop} {y0 : wJ} : qC qd prog 77 [.agg (yY y0 p1 c1).toArray] [] [Rl vO p1 c1 y0.2, Pt (yH 64 (zK .u8)) 4 0 yW] (zGA y0) fun r K=>∀ p2 c2,K (.tuple #[sv p2 r.1 c2, vi r.2]) [] [Rl (zK .i64) p2 c2 r.1] :=
 zY call77 func77 u fun X=>zC<|qV .s u<|fun b1=>zA 2 u<|zB<|zC<|qS 0 2 u u u<|qI zI5 u (cq [0,1])<|fun r1 _ k p2 c2=>k<|zA 4 u<|zB<|zH<|wG u (lT u (lT u lN)) (fun _ k=>k p2 c2) [] (gq [0])
theorem zLA {qd : Prop} {y0 : wJ} : vU qd prog 146 [.agg (yY y0 p1 c1).toArray, pt b1 0] [bx b1 140 [.func (.func 77) #[] #[]]] [Rl vO p1 c1 y0.2, Pt (yH 64 (zK .u8)) 4 0 yW] (zBF y0) fun L r K=>∀ p2 c2,K (.tuple #[sv p2 r.1 c2, vi r.2]) L [Rl (qZ (zK .i64)) p2 c2 r.1] :=
 zY call146 func146 u fun X=>zC<|qV .s u<|fun b2=>zA 2 u<|zB<|zC<|zT 0 u u u<|qS 1 2 u u u<|zX .s [] [] zXS u u u (cq [0,1])<|fun r1 _ k p2 c2=>k<|zA 5 u<|zB<|zD<|jA 2 u<|zJ u (jA 3 u<|zH<|zZ<|
  wG u (lT u (lT u lN)) (fun _ k=>k none 0) [0] ⟨gn,d⟩)<|jC<|zC<|zA 1 u<|wT .s (e := qZ (zK .i64)) 22 [sv p2 r1.1 c2] ([r1.1] : List (List Int)) (rC (vL (gk 0)) rN)<|fun p3 c3=>zA 2 u<|zB<|zH<|
  wG u (lT u (lT u lN)) (fun _ k=>k p3 c3) [0] (gq [0])
theorem zJQ {qd : Prop} {y0 : wJ} : vU qd prog 147 [.agg (yY y0 p1 c1).toArray, pt b1 0] [bx b1 78 [.func (.func 146) #[] #[pt b2 0]], bx b2 140 [.func (.func 77) #[] #[]]] [Rl vO p1 c1 y0.2, Pt (yH 64 (zK .u8)) 4 0 yW] (zAO y0) fun L r K=>∀ p2 c2,K (.tuple #[sv p2 r.1 c2, vi r.2]) L [Rl (qZ (zK .i64)) p2 c2 r.1] :=
 zY call147 func147 u fun X=>zC<|qV .s u<|fun b3=>zA 2 u<|zB<|zC<|zT 0 u u u<|qS 2 2 u u u<|zX .s [1] [] zLA u u u (cq [0,1])<|fun r1 _ k p2 c2=>k<|zA 5 u<|zB<|zD<|jA 2 u<|zJ u (jA 3 u<|zH<|zZ<|
  wG u (lT u (lT u lN)) (fun _ k=>k none 0) [0,1] ⟨gn,d⟩)<|jC<|zC<|zA 1 u<|vJ (qZ (zK .i64)) 22<|zB<|zD<|jA 3 u<|zR<|
  qR (fun s1 K=>∀ p3 c3 r_1,K [19,20] [(2, []), (3, r_1)] [1,3] [(7, sv p3 s1.1 c3), (21, vi s1.2)] [Al (qZ (zK .i64)) 22 r_1 p3 c3 s1.1]) (gv (fun _ k=>k none 0 []) [0,1,902,3] (gq [0,1,3]))<|fun s1 _ k p3 c3 r_1=>k<|jA 1 u<|zD<|
  zJ u (jC<|zD<|zR<|zC<|qX 1 u u u<|fun x1 b4 o1=>qW false oL (gk 0) u<|fun p4 c4=>zA 1 u<|zB<|qM<|zA 2 u<|qI zC9 u (cq [0])<|fun r2 _ k p5 c5=>k<|
  wT .s (e := qZ (zK .i64)) 22 [sv p5 r2 c5] ([r2] : List (List Int)) (rC (vL (gk 0)) rN)<|fun p6 c6=>wM .s 3 4 u (gk 0) u u<|fun x2 r_2 p7 c7=>zA 1 u<|zV<|qF<|zP<|jB 2 u<|
  qG (gv (fun _ k=>k p7 c7 r_2) [0,1,902,3] (gq [0,6,7])))<|qO<|qN<|qQ<|qP<|zP<|jA 3 u<|zH<|wY 3 0 u u<|wG u (lT u (lT u lN)) (fun _ k=>k p3 c3) [0,1] (gq [0])
theorem zIf {qd : Prop} {y0 : wJ} : vU qd prog 147 [.agg (yY y0 p1 c1).toArray, pt b1 0] [bx b1 78 [.func (.func 73) #[] #[]]] [Rl vO p1 c1 y0.2, Pt (yH 64 (zK .u8)) 4 0 yW] (zAE y0) fun L r K=>∀ p2 c2,K (.tuple #[sv p2 r.1 c2, vi r.2]) L [Rl (qZ (zK .i64)) p2 c2 r.1] :=
 zY call147 func147 u fun X=>zC<|qV .s u<|fun b2=>zA 2 u<|zB<|zC<|zT 0 u u u<|qS 1 2 u u u<|zX .s [] [] zKi u u u (cq [0,1])<|fun r1 _ k p2 c2=>k<|zA 5 u<|zB<|zD<|jA 2 u<|zJ u (jA 3 u<|zH<|zZ<|
  wG u (lT u (lT u lN)) (fun _ k=>k none 0) [0] ⟨gn,d⟩)<|jC<|zC<|zA 1 u<|vJ (qZ (zK .i64)) 22<|zB<|zD<|jA 3 u<|zR<|
  qR (fun s1 K=>∀ p3 c3 r_1,K [19,20] [(1, []), (2, r_1)] [1,3] [(7, sv p3 s1.1 c3), (21, vi s1.2)] [Al (qZ (zK .i64)) 22 r_1 p3 c3 s1.1]) (gv (fun _ k=>k none 0 []) [0,901,2] (gq [0,1,3]))<|fun s1 _ k p3 c3 r_1=>k<|jA 1 u<|zD<|
  zJ u (jC<|zD<|zR<|zC<|qX 1 u u u<|fun x1 b3 o1=>qW false oL (gk 0) u<|fun p4 c4=>zA 1 u<|zB<|qM<|zA 2 u<|qI zC9 u (cq [0])<|fun r2 _ k p5 c5=>k<|
  wT .s (e := qZ (zK .i64)) 22 [sv p5 r2 c5] ([r2] : List (List Int)) (rC (vL (gk 0)) rN)<|fun p6 c6=>wM .s 2 4 u (gk 0) u u<|fun x2 r_2 p7 c7=>zA 1 u<|zV<|qF<|zP<|jB 2 u<|
  qG (gv (fun _ k=>k p7 c7 r_2) [0,901,2] (gq [0,6,7])))<|qO<|qN<|qQ<|qP<|zP<|jA 3 u<|zH<|wY 2 0 u u<|wG u (lT u (lT u lN)) (fun _ k=>k p3 c3) [0] (gq [0])
theorem zI3 {qd : Prop} {y0 : wJ} : vU qd prog 147 [.agg (yY y0 p1 c1).toArray, pt b1 0] [bx b1 78 [.func (.func 75) #[] #[]]] [Rl vO p1 c1 y0.2, Pt (yH 64 (zK .u8)) 4 0 yW] (zAD y0) fun L r K=>∀ p2 c2,K (.tuple #[sv p2 r.1 c2, vi r.2]) L [Rl (qZ (zK .i64)) p2 c2 r.1] :=
 zY call147 func147 u fun X=>zC<|qV .s u<|fun b2=>zA 2 u<|zB<|zC<|zT 0 u u u<|qS 1 2 u u u<|zX .s [] [] zKG u u u (cq [0,1])<|fun r1 _ k p2 c2=>k<|zA 5 u<|zB<|zD<|jA 2 u<|zJ u (jA 3 u<|zH<|zZ<|
  wG u (lT u (lT u lN)) (fun _ k=>k none 0) [0] ⟨gn,d⟩)<|jC<|zC<|zA 1 u<|vJ (qZ (zK .i64)) 22<|zB<|zD<|jA 3 u<|zR<|
  qR (fun s1 K=>∀ p3 c3 r_1,K [19,20] [(1, []), (2, r_1)] [1,3] [(7, sv p3 s1.1 c3), (21, vi s1.2)] [Al (qZ (zK .i64)) 22 r_1 p3 c3 s1.1]) (gv (fun _ k=>k none 0 []) [0,901,2] (gq [0,1,3]))<|fun s1 _ k p3 c3 r_1=>k<|jA 1 u<|zD<|
  zJ u (jC<|zD<|zR<|zC<|qX 1 u u u<|fun x1 b3 o1=>qW false oL (gk 0) u<|fun p4 c4=>zA 1 u<|zB<|qM<|zA 2 u<|qI zC9 u (cq [0])<|fun r2 _ k p5 c5=>k<|
  wT .s (e := qZ (zK .i64)) 22 [sv p5 r2 c5] ([r2] : List (List Int)) (rC (vL (gk 0)) rN)<|fun p6 c6=>wM .s 2 4 u (gk 0) u u<|fun x2 r_2 p7 c7=>zA 1 u<|zV<|qF<|zP<|jB 2 u<|
  qG (gv (fun _ k=>k p7 c7 r_2) [0,901,2] (gq [0,6,7])))<|qO<|qN<|qQ<|qP<|zP<|jA 3 u<|zH<|wY 2 0 u u<|wG u (lT u (lT u lN)) (fun _ k=>k p3 c3) [0] (gq [0])
theorem zQK {qd : Prop} {y0 : List Int} {y1 : List Int} : qC qd prog 154 [sv p1 y0 c1, sv p2 y1 c2] [] [Rl (zK .i64) p1 c1 y0, Rl (zK .i64) p2 c2 y1] (zCo y0 y1) fun r K=>K (vb r) [] [] :=
 zY call154 func154 u fun X=>jA 1 u<|zC<|zA 1 u<|wT .s (e := zK .i64) 3 [vi 3] ([3] : List Int) (rC vI rN)<|fun p3 c3=>qI zEe u (cq [2,0])<|fun r1 _ k p4 c4=>k<|zA 3 u<|zB<|zH<|zQ u u kk [] d
theorem zID {qd : Prop} {y0 : List Int} {y2 : List Int} : vU qd prog 221 [sv p1 y0 c1, pt b1 0, pt b2 0] [bx b1 197 [.func (.func 154) #[] #[]], bx b2 22 [sv p2 y2 c2]] [Rl (zK .i64) p1 c1 y0, Rl (zK .i64) p2 c2 y2] (zBD y0 y2) fun L r K=>K (vb r) L [] :=
 zY call221 func221 u fun X=>jA 1 u<|zC<|zT 0 u u u<|zA 1 u<|zT 1 u u u<|zX .s [] [] zQK u u u (cq [0,1])<|fun r1 _ k=>k<|zA 1 u<|zB<|zH<|zQ u u kk [0,1] d
theorem zGf {qd : Prop} {y0 : List (List Int)} {y2 : List Int} : vU qd prog 227 [sv p1 y0 c1, .func (.func 221) #[] #[pt b1 0, pt b2 0]] [bx b1 197 [.func (.func 154) #[] #[]], bx b2 22 [sv p2 y2 c2]] [Rl (qZ (zK .i64)) p1 c1 y0, Rl (zK .i64) p2 c2 y2] (zAb y0 y2) fun L r K=>K (vi r) L [] :=
 zY call227 func227 u fun X=>jA 1 u<|zD<|jA 3 u<|zR<|qR (fun s1 K=>K [0,1,7] [] [0,1] [(8, vi s1)] []) (gv kk [0,1] (gq [0,1]))<|fun s1 _ k=>k<|jA 1 u<|zD<|zJ u (jC<|zD<|zR<|jA 2 u<|zC<|zA 3 u<|qX 0 u u u<|fun x1 b3 o1=>
  qW false oL (gk 0) u<|fun p3 c3=>zX .s [0, 1] [] zID u u u (cq [0,3])<|fun r1 _ k=>k<|zB<|zJ u (jA 2 u<|zH<|qK<|zZ<|wQ<|qK<|zZ<|zQ u u kk [0,1] d)<|wF<|qF<|zP<|
  jB 2 u<|qG (gv kk [0,1] (gq [2,3])))<|qO<|qN<|qQ<|qP<|zP<|jA 1 u<|zH<|zQ u u kk [0,1] d
theorem zFl {qd : Prop} {y0 : List (List Int)} {y2 : List Int} : vU qd prog 158 [sv p1 y0 c1, .func (.func 221) #[] #[pt b1 0, pt b2 0]] [bx b1 197 [.func (.func 154) #[] #[]], bx b2 22 [sv p2 y2 c2]] [Rl (qZ (zK .i64)) p1 c1 y0, Rl (zK .i64) p2 c2 y2] (zAI y0 y2) fun L r K=>K (vb r) L [] :=
 zY call158 func158 u fun X=>jA 1 u<|zC<|zA 2 u<|zX .s [0, 1] [] zGf u u u (cq [0,1])<|fun r1 _ k=>k<|zA 2 u<|zB<|zH<|zQ u u kk [0,1] d
end Go.Proofs.YtplpdfimlnppcaaGreatDoor
