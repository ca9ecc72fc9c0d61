/- A part. Conditions: none. -/
import Derived.Test.YtjfjjkgaddknfaaGreatDoorWalk1
namespace Go.Proofs.YtjfjjkgaddknfaaGreatDoor
open Go Go.GD Tryz
set_option autoImplicit false
set_option linter.unusedVariables false
set_option maxRecDepth 100000
variable {p1 p2 p3 p4 p5 p6 p7 p8 p9 : Option Addr} {c1 c2 c3 c4 c5 c6 c7 c8 c9 : Nat} {b1 b2 b3 b4 b5 b6 b7 b8 b9 b10 b11 : Nat} {r_1 r_2 r_3 r_4 r_5 r_6 : zY}
theorem zOq {qd : Prop} {y0 : List qW} : qC qd prog 70 [sv p1 y0 c1] [r_1] [Al vA 125 r_1 p1 c1 y0] (zEF y0) fun r K=>∀ p2 c2,K (sv p2 r c2) [[]] [Rl vA p2 c2 r] :=
 zX call70 func70 u fun X=>jA 1 u<|zD<|jA 3 u<|zJ u (jA 2 u<|zG<|qA<|wW 0 0 u u<|zP u u (fun _ k=>k p1 c1) [900] (gq [0]))<|jC<|zD<|jA 1 u<|zQ<|qT (fun s1 K=>K [0] [] [0] [(3, vi s1)] []) (gv kk [0] (gq [0]))<|fun s1 _ k=>k<|
  zD<|jA 4 u<|zJ u (jC<|zD<|zQ<|yC [] [0] 10<|zW 8 [0,1] u<|jdI 2 0 u u u u<|fun x1 h1 b1 hp1=>tJ 3 0 0 sI true zMr u u hp1 h1 u<|zW 3 [4,5,6] u<|jdI 7 0 u u u u<|fun x2 h2 b2 hp2=>
  tJ 8 0 0 sI true zMr u u hp2 h2 u<|wP 9 (vb (x1 == x2)) u<|qY<|zN<|zJ u (zC<|zA 2 u<|jsV 0 u u u<|fun u1 p2 c2 f1=>zA 1 u<|zB<|
  jjn (fun s2 K=>∀ r_2,K [(0, .slice p1 (List.length y0) c1), (3, vi s2.2)] [r_2] [Ar vA 125 r_2 p1 c1 (List.length y0) s2.1]) (jA 1 u<|zQ<|
  qT (fun s3 K=>∀ r_3,K [4] [(0, r_3)] [] [(0, .slice p1 (List.length y0) c1), (3, vi s3.2.1), (5, vi s3.2.2)] [Ar vA 125 r_3 p1 c1 (List.length y0) s3.1]) (gv (fun _ k=>k r_1) [0] (gq [0]))<|fun s3 _ k r_3=>k<|zD<|jA 4 u<|zJ u (
  jC<|zD<|zQ<|yC [] [0] 10<|zW 8 [0,1] u<|jdX 2 0 u u f1 u u<|fun x3 b3 hp3 h3=>tJ 3 0 0 sI true zMr u u hp3 h3 u<|zW 3 [4,5,6] u<|jdX 7 0 u u f1 u u<|fun x4 b4 hp4 h4=>
  tJ 8 0 0 sI true zMr u u hp4 h4 u<|wP 9 (vb (!(x3 == x4))) u<|qY<|zN<|zJ u (zC<|zA 4 u<|jiV 0 u f1 u u<|fun x5 b5 hp5 h5=>jlA 0 0 sI true zMr u hp5 h5 u<|xE 0 u u u<|fun x6 h6 b6 hp6=>
  jsA .s 0 0 sI x5 true u hp6 h6 u u (vP vI vI)<|fun r_4=>zB<|jB 3 u<|qB<|zN<|jB 3 u<|qE (gv (fun _ k=>k r_4) [0] (gq [0])))<|wD<|qB<|zN<|jB 3 u<|qE (gv (fun _ k=>k r_3) [0] (gq [0])))<|qN<|qM<|qS<|qO<|
  zL (gv (fun _ k=>k r_3) [0] (gq [0])))<|fun s2 _ k r_2=>k<|zC<|zA 2 u<|jsV 0 u u u<|fun u2 p3 c3 f2=>jcv .s 0 0 (0, 0) (.agg #[vi 0, vi 0]) u f2 u (vP vI vI)<|fun r_5=>zB<|zC<|zA 2 u<|jsP 0 u u u<|fun x7=>
  zA 1 u<|zB<|zG<|qV<|qA<|wT<|qV<|qA<|wW 0 0 u u<|zP u u (fun _ k=>k p1 c1) [900] (gq [0]))<|wD<|qB<|zN<|jB 3 u<|qE (gv kk [0] (gq [0])))<|qN<|qM<|qS<|qO<|zN<|jA 2 u<|zG<|wW 0 0 u u<|
  zP u u (fun _ k=>k p1 c1) [900] (gq [0])
theorem zSo {qd : Prop} {y0 : qW} {y1 : qW} : qC qd prog 67 [.agg #[vi y0.1, vi y0.2], .agg #[vi y1.1, vi y1.2]] [] [] (zDk y0 y1) fun r K=>K (vi r) [] [] :=
 zX call67 func67 u fun X=>zC<|qX .s u<|fun b1=>qX .s u<|fun b2=>zA 1 u<|zB<|yC [] [0, 1] 13<|qR 0 0 u u<|wI 1 0 u u u u<|qR 2 0 u u<|wI 3 1 u u u u<|qR 5 1 u u<|wI 6 0 u u u u<|qR 7 1 u u<|
  wI 8 1 u u u u<|qH 4<|zZ (.f u) [] [] zCV u u u d<|fun r1 _ k=>k<|qD<|qH 9<|zZ (.f u) [] [] zCV u u u d<|fun r2 _ k=>k<|qD<|qH 10<|
  wR (.f u) (e := zH .i64) 3 [vi r1, vi r2] ([r1, r2] : List Int) (rC vI (rC vI rN))<|fun p1 c1=>qD<|qH 11<|zZ (.f u) [] [] zPG u u u (cq [0])<|fun r3 _ k=>k<|qD<|zW 0 [12] u<|qY<|zN<|zG<|
  zP u u kk [] d
theorem zH9 {qd : Prop} {y0 : List qW} : qC qd prog 66 [sv p1 y0 c1, .func (.func 67) #[] #[]] [r_1] [Al vA 125 r_1 p1 c1 y0] (zAp y0) fun r K=>∀ r_2,K (.tuple #[]) [r_2] [Ar vA 125 r_2 p1 c1 (List.length y0) r] := ⟨call66, fun A w0 r hm hO hF => by
 have h := zQv (qd := qd) Go.Proofs.Tryz.sort66 (uD.prod (uD.int .i64) (uD.int .i64)) (te := 125) Tryz.isAgg125 Tryz.sizeOf125 zDk 67 (enters_of func67 (by kernel_rfl) u) (fun w x y n hn => ?_) hO hF.1.1 hm
 · change Calls prog 66 _ _ _ at h
   refine h.mono fun e w' h => ?_
   cases e with
   | returned v => obtain ⟨r', rfl, h1, h2, h3, h4⟩ := h; exact fun G k => k r' ⟨rfl, h1, h2, ⟨h3, h4.symm⟩, trivial⟩
   | panicked ch => exact h
   | outgrown => exact h
 · refine ((zSo (qd := True) (y0 := x) (y1 := y)).go [] w n hn (wG.start (by simp)) trivial).mono fun e w' h => ?_
   cases e with
   | returned v => exact h _ fun ⟨e1, q⟩ => ⟨e1, q.e⟩
   | panicked ch => exact h
   | outgrown => exact h⟩
theorem zQJ {qd : Prop} {y0 : Int} {y1 : List wA} : qC qd prog 26 [vi y0, sv p1 y1 c1] [] [Rl uU p1 c1 y1] (zIK y0 y1) fun r K=>∀ p2 c2,K (.tuple #[.agg (yM r.1 p2 c2).toArray, vi r.2]) [] [Rl vA p2 c2 r.1.2] :=
 zX call26 func26 u fun X=>zC<|wO .s (.agg #[vi 0, .slice none 0 0])<|fun b1=>zA 1 u<|zB<|zD<|xG (fun K=>K [0,1,4] [] [0] [(14, vb ((decide (y0 < 0)) || (decide (40 < y0))))] []) (qK<|zA 3 u<|yA (b := decide (y0 < 0)) 11 u (fun hb1=>zA 2 u<|
  zF (vb true)<|zS<|wQ 14 (vb ((decide (y0 < 0)) || (decide (40 < y0)))) u (by rw [hb1]; rfl)<|zL (gv kk [0] (gq [0])))<|fun hb1=>zA 2 u<|zF (vb (decide (40 < y0)))<|zS<|
  wQ 14 (vb ((decide (y0 < 0)) || (decide (40 < y0)))) u (by rw [hb1]; rfl)<|zL (gv kk [0] (gq [0])))<|fun _ k=>k<|zJ u (zC<|zF (.agg #[vi 0, .slice none 0 0])<|qL .s 0 u u u<|zA 1 u<|zB<|zG<|qA<|
  wK u (lC 0 (.agg #[vi 0, .slice none 0 0]) u u (lT u lN)) (fun _ k=>k none 0) [] ⟨gn,d⟩)<|jC<|zC<|zA 1 u<|zF (.agg #[vi y0, .slice none 0 0])<|vE vA 125<|wO .s (.agg #[vi 0, .slice none 0 0])<|fun b2=>
  qL .s 2 u u u<|zB<|zY8 (fun s1 K=>∀ p2 c2 r_1,K [4,6] [(1, r_1), (2, bx b2 37 [vi y0, sv p2 s1 c2])] [] [] [Al vA 125 r_1 p2 c2 s1]) (jA 3 u<|zQ<|
  qT (fun s2 K=>∀ p3 c3 r_2,K [0,4,6,18,19] [(1, r_2), (2, bx b2 37 [vi y0, sv p3 s2.2 c3])] [1] [(20, vi s2.1)] [Al vA 125 r_2 p3 c3 s2.2]) (gv (fun _ k=>k none 0 []) [0,1,2] (gq [0,1]))<|fun s2 _ k p3 c3 r_2=>k<|jA 1 u<|zD<|
  zJ u (jC<|zD<|zQ<|zC<|qQ 1 u u u<|fun x1 b3 o1=>qP true zTR (gk 0) u<|wO .s (.agg #[vi 0, vi 0, vi 0, vi 0])<|fun b4=>qL .s 3 u u u<|zB<|zD<|
  xG (fun K=>K [0,4,6,8,18,19,20] [] [2,1] [(38, vb ((decide ((if x1.2.1 < x1.1 then x1.2.1 else x1.1) < 0)) || (decide (y0 ≤ (if x1.2.1 > x1.1 then x1.2.1 else x1.1)))))] []) (qK<|zM 0 u<|zU 3 u u u<|zM 1 u<|
  zU 3 u u u<|zA 3 u<|yA (b := decide ((if x1.2.1 < x1.1 then x1.2.1 else x1.1) < 0)) 30 u (fun hb2=>zA 7 u<|zF (vb true)<|zS<|
  wQ 38 (vb ((decide ((if x1.2.1 < x1.1 then x1.2.1 else x1.1) < 0)) || (decide (y0 ≤ (if x1.2.1 > x1.1 then x1.2.1 else x1.1))))) u (by rw [hb2]; rfl)<|zL (gv kk [0,1,2,3] (gq [2,1])))<|fun hb2=>zM 0 u<|zU 3 u u u<|
  zM 1 u<|zU 3 u u u<|zA 3 u<|zF (vb (decide (y0 ≤ (if x1.2.1 > x1.1 then x1.2.1 else x1.1))))<|zS<|
  wQ 38 (vb ((decide ((if x1.2.1 < x1.1 then x1.2.1 else x1.1) < 0)) || (decide (y0 ≤ (if x1.2.1 > x1.1 then x1.2.1 else x1.1))))) u (by rw [hb2]; rfl)<|zL (gv kk [0,1,2,3] (gq [2,1])))<|fun _ k=>k<|zJ u (zC<|
  zF (.agg #[vi 0, .slice none 0 0])<|qL .s 0 u u u<|zA 1 u<|zB<|zG<|qA<|qV<|qA<|wT<|qV<|wT<|wK u (lC 0 (.agg #[vi 0, .slice none 0 0]) u u (lT u lN)) (fun _ k=>k none 0) [] ⟨gn,d⟩)<|jC<|qK<|zM 1 u<|
  zU 2 u u u<|zM 0 u<|zU 3 u u u<|zM 1 u<|zU 3 u u u<|zF (.agg #[vi x1.1, vi x1.2.1])<|wR .s (e := vA) 125 [vi x1.1, vi x1.2.1] ([(x1.1, x1.2.1)] : List qW) (rC (vP vI vI) rN)<|fun p4 c4=>
  wN .s 1 2 u (gk 0) u u<|fun x2 r_3 p5 c5=>zM 1 u<|qL .s 2 u u u<|zS<|qB<|zN<|jB 2 u<|qE (gv (fun _ k=>k p5 c5 r_3) [0,1,2] (gq [0,2])))<|qN<|qM<|qS<|qO<|qE (gv (fun _ k=>k p3 c3 r_2) [0,1,2] (gq [0])))<|
  fun s1 _ k p2 c2 r_1=>k<|zC<|zM 1 u<|zU 2 u u u<|zZ .s [1] [] zH9 u u u (cq [0])<|fun r1 _ k r_4=>k<|zB<|zC<|zM 1 u<|zU 2 u u u<|jrE 0 55 u u<|
  zZ .s [1] [] zOq u u u (cq [0])<|fun r2 _ k p6 c6=>k<|zM 1 u<|qL .s 2 u u u<|zB<|zC<|qU 2 2 u u u<|qL .s 0 u u u<|zA 1 u<|zB<|zG<|
  wK u (lC 0 (.agg #[vi y0, sv p6 r2 c6]) u u (lT u lN)) (fun _ k=>k p6 c6) [] (gq [0])
theorem zJo {qd : Prop} {y0 : List vU} : qC qd prog 77 [sv p1 y0 c1] [] [Rl xL p1 c1 y0] (zJt y0) fun r K=>∀ p2 c2,K (sv p2 r c2) [] [Rl xL p2 c2 r] :=
 zX call77 func77 u fun X=>jA 1 u<|zD<|zC<|zA 1 u<|jv (fun h=>z1u h u underlying25)<|zB<|jnl (m1 := some ([] : List vU)) u (gk 0) (fun h=>by first|(rw [h];done)|(rw [h];rfl)|(simp [h,wE];done)) (jA 1 u<|zG<|qA<|
  zP u u (fun _ k=>k none 0) [] ⟨gn,d⟩)<|jC<|zC<|xH .s (e := xL) 88 [] ([] : List vU) rN<|fun r_1 p2 c2=>zA 1 u<|wN .s 0 0 u (gk 1) u u<|fun x1 r_2 p3 c3=>zA 1 u<|zB<|zG<|wW 0 0 u u<|
  zP u u (fun _ k=>k p3 c3) [] (gq [0])
theorem zCw {qd : Prop} {y0 : List vG} : qC qd prog 79 [sv p1 y0 c1] [] [Rl uV p1 c1 y0] (zIh y0) fun r K=>∀ p2 c2,K (sv p2 r c2) [] [Rl uV p2 c2 r] :=
 zX call79 func79 u fun X=>jA 1 u<|zD<|zC<|zA 1 u<|jv (fun h=>z1u h u underlying27)<|zB<|jnl (m1 := some ([] : List vG)) u (gk 0) (fun h=>by first|(rw [h];done)|(rw [h];rfl)|(simp [h,wE];done)) (jA 1 u<|zG<|qA<|
  zP u u (fun _ k=>k none 0) [] ⟨gn,d⟩)<|jC<|zC<|xH .s (e := uV) 105 [] ([] : List vG) rN<|fun r_1 p2 c2=>zA 1 u<|wN .s 0 0 u (gk 1) u u<|fun x1 r_2 p3 c3=>zA 1 u<|zB<|zG<|wW 0 0 u u<|
  zP u u (fun _ k=>k p3 c3) [] (gq [0])
theorem zI8 {qd : Prop} {y0 : List wC} : qC qd prog 78 [sv p1 y0 c1] [] [Rl yQ p1 c1 y0] (zL0 y0) fun r K=>∀ p2 c2 r_1,K (sv p2 r c2) [r_1] [Al yQ 92 r_1 p2 c2 r] :=
 zX call78 func78 u fun X=>jA 1 u<|zD<|zC<|zA 1 u<|jv (fun h=>z1u h u underlying26)<|zB<|jnl (m1 := some ([] : List wC)) u (gk 0) (fun h=>by first|(rw [h];done)|(rw [h];rfl)|(simp [h,wE];done)) (jA 1 u<|zG<|qA<|vE yQ 92<|
  jrE 0 2 u u<|zP u u (fun _ k=>k none 0 []) [0] (gq [0]))<|jC<|zC<|xH .s (e := yQ) 92 [] ([] : List wC) rN<|fun r_1 p2 c2=>zA 1 u<|wN .s 0 0 u (gk 1) u u<|fun x1 r_2 p3 c3=>zA 1 u<|zB<|zG<|
  zP u u (fun _ k=>k p3 c3 r_2) [0] (gq [0])
theorem zR9 {qd : Prop} {y0 : zT} {y1 : List zO} : qC qd prog 31 [.agg (vJ y0 p1 c1 p2 c2 p3 c3).toArray, sv p4 y1 c4] [] (vR y0 p1 c1 p2 c2 p3 c3 [Rl wX p4 c4 y1]) (zGa y0 y1) fun r K=>∀ p5 c5 p6 c6 p7 c7,K (.agg (vJ r p5 c5 p6 c6 p7 c7).toArray) [] (vR r p5 c5 p6 c6 p7 c7 []) :=
 zX call31 func31 u fun X=>zC<|qX .s u<|fun b1=>wO .s (.agg #[.slice none 0 0, .slice none 0 0, .slice none 0 0])<|fun b2=>zB<|
  wL (fun s1 K=>∀ b3 p5 c5 p6 c6 r_1 p7 c7,K [1,2,4] [(2, bx b3 29 [sv p5 s1.1 c5, sv p6 s1.2.1 c6, sv p7 s1.2.2 c7]), (3, r_1)] [3,0,1,2] [(5, pt b3 0)] [Rl xL p5 c5 s1.1, Al yQ 92 r_1 p6 c6 s1.2.1, Rl uV p7 c7 s1.2.2]) (
  uO [] [0] 12<|qR 0 0 u u<|wI 1 0 u u u u<|qR 3 1 u u<|wI 4 0 u u u u<|qR 6 2 u u<|wI 7 0 u u u u<|jd2 2 10 (zZ (.f u) [] [] zJo u u u (cq [0])<|fun r1 _ k p8 c8=>k<|
  qD<|jd2 5 10 (zZ (.f u) [] [] zI8 u u u (cq [2])<|fun r2 _ k p9 c9 r_2=>k<|qD<|jd2 8 10 (zZ (.f u) [] [] zCw u u u (cq [4])<|fun r3 _ k p10 c10=>k<|qD<|
  wP 9 (.agg #[sv p8 r1 c8, sv p9 r2 c9, sv p10 r3 c10]) u<|qH 10<|wO (.f u) (.agg #[.slice none 0 0, .slice none 0 0, .slice none 0 0])<|fun b4=>qD<|qH 11<|qL (o := 0) (.f u) 3 u u u<|qD<|qY<|
  zL (gv (fun _ k=>k b4 p8 c8 p9 c9 r_2 p10 c10) [0,1,3,2] (gq [2,1,0,6,3,4,5]))) <|wO (.f u) (.agg #[.slice none 0 0, .slice none 0 0, .slice none 0 0])<|fun b5=>qD<|qH 8<|
  zZ (.f u) [] [] zCw u u u (cq [4])<|fun r4 _ k p11 c11=>k<|qD<|wP 9 (.agg #[sv p8 r1 c8, sv p9 r2 c9, sv p11 r4 c11]) u<|qH 11<|qL (o := 0) (.f u) 3 u u u<|qD<|qY<|
  zL (gv (fun _ k=>k b5 p8 c8 p9 c9 r_2 p11 c11) [0,1,3,2] (gq [2,1,0,6,3,4,5]))) <|wO (.f u) (.agg #[.slice none 0 0, .slice none 0 0, .slice none 0 0])<|fun b6=>qD<|qH 5<|zZ (.f u) [] [] zI8 u u u (cq [2])<|
  fun r5 _ k p12 c12 r_3=>k<|qD<|qH 8<|zZ (.f u) [] [] zCw u u u (cq [4])<|fun r6 _ k p13 c13=>k<|qD<|wP 9 (.agg #[sv p8 r1 c8, sv p12 r5 c12, sv p13 r6 c13]) u<|qH 11<|
  qL (o := 0) (.f u) 2 u u u<|qD<|qY<|zL (gv (fun _ k=>k b6 p8 c8 p12 c12 r_3 p13 c13) [0,1,2,3] (gq [2,1,0,6,3,4,5]))) <|wO (.f u) (.agg #[.slice none 0 0, .slice none 0 0, .slice none 0 0])<|fun b7=>qD<|qH 2<|
  zZ (.f u) [] [] zJo u u u (cq [0])<|fun r7 _ k p14 c14=>k<|qD<|qH 5<|zZ (.f u) [] [] zI8 u u u (cq [2])<|fun r8 _ k p15 c15 r_4=>k<|qD<|qH 8<|
  zZ (.f u) [] [] zCw u u u (cq [4])<|fun r9 _ k p16 c16=>k<|qD<|wP 9 (.agg #[sv p14 r7 c14, sv p15 r8 c15, sv p16 r9 c16]) u<|qH 11<|qL (o := 0) (.f u) 2 u u u<|qD<|qY<|
  zL (gv (fun _ k=>k b7 p14 c14 p15 c15 r_4 p16 c16) [0,1,2,3] (gq [2,1,0,6,3,4,5])))<|fun s1 _ k b3 p5 c5 p6 c6 r_1 p7 c7=>k<|
  wL (fun s2 K=>∀ p17 c17 r_5,K [4,5] [(0, []), (2, bx b3 29 [sv p5 s1.1 c5, sv p17 s2 c17, sv p7 s1.2.2 c7]), (3, r_5)] [0,2] [] [Al yQ 92 r_5 p17 c17 s2]) (zC<|zM 1 u<|zU 0 u u u<|zA 2 u<|zB<|zQ<|
  qT (fun s3 K=>∀ p18 c18 r_6,K [1,2,4,5,21,22] [(2, bx b3 29 [sv p5 s1.1 c5, sv p18 s3.2 c18, sv p7 s1.2.2 c7]), (3, r_6)] [3,5,4,6,0,2] [(23, vi s3.1)] [Al yQ 92 r_6 p18 c18 s3.2]) (gv (fun _ k=>k p6 c6 r_1) [0,1,2,3] (gq [1,3,5,4,6,0,2]))<|
  fun s3 _ k p18 c18 r_6=>k<|jA 1 u<|zD<|zJ u (jC<|zD<|zQ<|zC<|zA 1 u<|qQ 2 u u u<|fun x1 b8 o1=>qP true zQF (gk 0) u<|fun p19 c19=>wO .s (.agg #[vs [], vb false, vi 0, .slice none 0 0, vb false, vs []])<|fun b9=>
  zA 1 u<|qL .s 4 u u u<|zB<|yC [] [2, 4] 9<|qR 0 1 u u<|wI 1 2 u u u u<|zW 6 [2] u<|qR 3 3 u u<|wI 4 4 u u u u<|qH 5<|zZ (.f u) [] [] zJm u u u (cq [0])<|
  fun r10 _ k p20 c20 r_7=>k<|qD<|jdI 6 3 u u u u<|fun x2 h1 b10 hp1=>qR 7 3 u u<|wW 5 0 u u<|qH 8<|jsA (.f u) 3 4 sI.snd.snd.snd.fst r10 false u hp1 h1 u u (vL (gk 0))<|fun r_8=>qD<|qY<|zN<|zC<|zM 2 u<|
  zU 0 u u u<|zA 2 u<|zB<|zQ<|
  jbL (fun q_=>[bx b1 29 (vJ y0 p1 c1 p2 c2 p3 c3), bx b2 29 [.slice none 0 0, .slice none 0 0, .slice none 0 0], bx b3 29 [sv p5 s1.1 c5, .slice p18 q_ c18, sv p7 s1.2.2 c7], r_8, bx b9 92 (zSe x1 p19 c19), []]) (gk 0) u<|
  qT (fun s4 K=>∀ p21 c21 r_9,K [1,2,4,5,6,7,21,22,23,37,38] [(2, bx b3 29 [sv p5 s1.1 c5, sv p21 s4.2 c21, sv p7 s1.2.2 c7]), (3, r_9)] [7,8,10,9,11,12,4] [(39, vi s4.1)] [Al yQ 92 r_9 p21 c21 s4.2]) (gv (fun _ k=>k p18 c18 r_8) [0,1,2,3,4,905] (gq [0,7,8,10,9,11,12,4]))<|
  fun s4 _ k p21 c21 r_9=>k<|jA 1 u<|zD<|zJ u (jC<|zD<|zQ<|zC<|qQ 3 u u u<|fun x3 b11 o2=>qP true zNi (gk 0) u<|wO .s (.agg #[vs [], vi 0, vb false, vs []])<|fun b12=>qL .s 6 u u u<|zB<|
  wL (fun s5 K=>K [1,2,4,5,6,7,9,21,22,23,37,38,39] [] [2,3,4,5,6,1,7,8] [(58, vb s5)] []) (qK<|zM 1 u<|zU 4 u u u<|zA 2 u<|wJ 46 u (zM 0 u<|zU 6 u u u<|zM 0 u<|zU 4 u u u<|zA 1 u<|
  zF (vb (x3.1 == x1.1))<|zA 1 u<|wJ 53 u (zA 1 u<|zM 2 u<|qU 6 2 u u u<|qF zN1 u (cq [2])<|fun r11 _ k=>k<|zF (vb r11)<|zS<|zL (gv kk [0,1,2,3,4,905,6] (gq [2,3,4,5,6,1,7,8])))<|zA 4 u<|
  zF (vb false)<|zS<|zL (gv kk [0,1,2,3,4,905,6] (gq [2,3,4,5,6,1,7,8])))<|zA 5 u<|zF (vb false)<|zA 5 u<|zF (vb false)<|zS<|zL (gv kk [0,1,2,3,4,905,6] (gq [2,3,4,5,6,1,7,8])))<|fun s5 _ k=>k<|zJ u (qK<|
  zM 1 u<|zU 2 u u u<|zA 1 u<|zM 1 u<|zU 6 u u u<|xE 5 u u u<|fun x4 h2 b13 hp2=>zM 2 u<|jsA .s 3 5 sI.snd.snd.fst x3.2.1 false u hp2 h2 u u vI<|fun r_10=>zS<|qB<|zN<|jB 2 u<|
  jbL (fun q_=>[bx b1 29 (vJ y0 p1 c1 p2 c2 p3 c3), bx b2 29 [.slice none 0 0, .slice none 0 0, .slice none 0 0], bx b3 29 [sv p5 s1.1 c5, .slice p21 q_ c21, sv p7 s1.2.2 c7], r_10, bx b9 92 (zSe x1 p19 c19), [], bx b12 105 [vs x3.1, vi x3.2.1, vb x3.2.2.1, vs x3.2.2.2]]) (gk 0) u<|
  qE (gv (fun _ k=>k p21 c21 r_10) [0,1,2,3,4,905] (gq [0,2,3,4,5,6,8,9])))<|wD<|qB<|zN<|jB 2 u<|qE (gv (fun _ k=>k p21 c21 r_9) [0,1,2,3,4,905] (gq [5,0,1,2,3,4,6,7])))<|qN<|qM<|qS<|qO<|qB<|zN<|jB 2 u<|
  qE (gv (fun _ k=>k p21 c21 r_9) [0,1,2,3] (gq [0,1,2,4,3,5,6])))<|qN<|qM<|qS<|qO<|zL (gv (fun _ k=>k p18 c18 r_6) [900,1,2,3] (gq [0,5,6])))<|fun s2 _ k p17 c17 r_5=>k<|zC<|qU 2 3 u u u<|qL .s 1 u u u<|zB<|zG<|
  wW 3 0 u u<|wK u (lC 1 (.agg #[sv p5 s1.1 c5, sv p17 s2 c17, sv p7 s1.2.2 c7]) u u lN) (fun _ k=>k p5 c5 p17 c17 p7 c7) [] (gq [2,0,3])
theorem zSl {qd : Prop} {y0 : zT} {y1 : yB} : qC qd prog 8 [.agg (vJ y0 p1 c1 p2 c2 p3 c3).toArray, .agg #[vi y1.1, vi y1.2]] [] (vR y0 p1 c1 p2 c2 p3 c3 [Pt (yK 64 (zH .u8)) 4 0 yY]) (zIY y0 y1) fun r K=>∀ p4 c4 p5 c5 p6 c6 p7 c7 p8 c8 p9 c9,K (.tuple #[.agg (zNF r.1 p4 c4 p5 c5 p6 c6 p7 c7 p8 c8 p9 c9).toArray, vi r.2]) [] (zMx r.1 p4 c4 p5 c5 p6 c6 p7 c7 p8 c8 p9 c9 []) :=
 zX call8 func8 u fun X=>zC<|qX .s u<|fun b1=>qX .s u<|fun b2=>wO .s (.agg #[.slice none 0 0, .slice none 0 0, .slice none 0 0, .slice none 0 0, .slice none 0 0, vi 0, .slice none 0 0])<|fun b3=>zA 1 u<|zB<|zC<|qU 0 3 u u u<|
  qF zSp u (cq [0,1,2])<|fun r1 _ k p4 c4=>k<|zA 5 u<|zB<|zD<|jA 2 u<|zJ u (zC<|zF (.agg #[.slice none 0 0, .slice none 0 0, .slice none 0 0, .slice none 0 0, .slice none 0 0, vi 0, .slice none 0 0])<|zA 1 u<|
  qL .s 2 u u u<|zA 1 u<|zB<|zG<|qA<|
  wK u (lC 2 (.agg #[.slice none 0 0, .slice none 0 0, .slice none 0 0, .slice none 0 0, .slice none 0 0, vi 0, .slice none 0 0]) u u (lT u lN)) (fun _ k=>k none 0 none 0 none 0 none 0 none 0 none 0) [] ⟨gn,gn,gn,gn,gn,gn,d⟩)<|jC<|
  zD<|xG (fun K=>K [2,3,4,6] [] [0,1,2,3,4] [(37, vb (if y1.1 != 1 then (y1.1 != 2) || ((y1.2 != 1) && (y1.2 != 2)) else (y1.2 != 1) && (y1.2 != 2)))] []) (qK<|zM 0 u<|zU 1 u u u<|zA 2 u<|
  yA (b := y1.1 != 1) 23 u (fun hb1=>zM 0 u<|zU 1 u u u<|zA 1 u<|zF (vb (y1.1 != 2))<|zA 1 u<|yA (b := y1.1 != 2) 28 u (fun hb2=>zA 8 u<|zF (vb true)<|zS<|
  wQ 37 (vb (if y1.1 != 1 then (y1.1 != 2) || ((y1.2 != 1) && (y1.2 != 2)) else (y1.2 != 1) && (y1.2 != 2))) u (by rw [hb1,hb2]; rfl)<|zL (gv kk [0,1,2] (gq [0,1,2,3,4])))<|fun hb2=>zM 1 u<|zU 1 u u u<|zA 2 u<|
  yA (b := y1.2 != 1) 32 u (fun hb3=>zM 1 u<|zU 1 u u u<|zA 1 u<|zF (vb (y1.2 != 2))<|zF (vb (y1.2 != 2))<|zS<|
  wQ 37 (vb (if y1.1 != 1 then (y1.1 != 2) || ((y1.2 != 1) && (y1.2 != 2)) else (y1.2 != 1) && (y1.2 != 2))) u (by rw [hb1,hb2,hb3]; rfl)<|zL (gv kk [0,1,2] (gq [0,1,2,3,4])))<|fun hb3=>zA 3 u<|zF (vb false)<|
  zF (vb false)<|zS<|wQ 37 (vb (if y1.1 != 1 then (y1.1 != 2) || ((y1.2 != 1) && (y1.2 != 2)) else (y1.2 != 1) && (y1.2 != 2))) u (by rw [hb1,hb2,hb3]; rfl)<|zL (gv kk [0,1,2] (gq [0,1,2,3,4])))<|fun hb1=>zA 3 u<|
  zF (vb false)<|zA 1 u<|zM 1 u<|zU 1 u u u<|zA 2 u<|yA (b := y1.2 != 1) 32 u (fun hb4=>zM 1 u<|zU 1 u u u<|zA 1 u<|zF (vb (y1.2 != 2))<|zF (vb (y1.2 != 2))<|zS<|
  wQ 37 (vb (if y1.1 != 1 then (y1.1 != 2) || ((y1.2 != 1) && (y1.2 != 2)) else (y1.2 != 1) && (y1.2 != 2))) u (by rw [hb1,hb4]; rfl)<|zL (gv kk [0,1,2] (gq [0,1,2,3,4])))<|fun hb4=>zA 3 u<|zF (vb false)<|zF (vb false)<|
  zS<|wQ 37 (vb (if y1.1 != 1 then (y1.1 != 2) || ((y1.2 != 1) && (y1.2 != 2)) else (y1.2 != 1) && (y1.2 != 2))) u (by rw [hb1,hb4]; rfl)<|zL (gv kk [0,1,2] (gq [0,1,2,3,4])))<|fun _ k=>k<|zJ u (zC<|
  zF (.agg #[.slice none 0 0, .slice none 0 0, .slice none 0 0, .slice none 0 0, .slice none 0 0, vi 0, .slice none 0 0])<|qL .s 2 u u u<|zA 1 u<|zB<|zG<|qA<|
  wK u (lC 2 (.agg #[.slice none 0 0, .slice none 0 0, .slice none 0 0, .slice none 0 0, .slice none 0 0, vi 0, .slice none 0 0]) u u (lT u lN)) (fun _ k=>k none 0 none 0 none 0 none 0 none 0 none 0) [] ⟨gn,gn,gn,gn,gn,gn,d⟩)<|jC<|
  zC<|zA 2 u<|qU 0 3 u u u<|zA 1 u<|qU 1 2 u u u<|qF zOF u (cq [1,2,3,0])<|fun r2 _ k p5 c5=>k<|qF zQJ u (cq [0])<|fun r3 _ k p6 c6=>k<|zA 3 u<|wO .s (.agg #[vi 0, .slice none 0 0])<|
  fun b4=>qL .s 3 u u u<|zA 1 u<|zB<|zD<|jA 2 u<|zJ u (zC<|zF (.agg #[.slice none 0 0, .slice none 0 0, .slice none 0 0, .slice none 0 0, .slice none 0 0, vi 0, .slice none 0 0])<|zA 1 u<|qL .s 2 u u u<|
  zA 1 u<|zB<|zG<|qA<|
  wK u (lC 2 (.agg #[.slice none 0 0, .slice none 0 0, .slice none 0 0, .slice none 0 0, .slice none 0 0, vi 0, .slice none 0 0]) u u (lT u lN)) (fun _ k=>k none 0 none 0 none 0 none 0 none 0 none 0) [] ⟨gn,gn,gn,gn,gn,gn,d⟩)<|jC<|
  zC<|zA 1 u<|qU 3 2 u u u<|qF zOP u (cq [0,6])<|fun r4 _ k p7 c7=>k<|qF zCM u (cq [0])<|fun r5 _ k p8 c8=>k<|qF zJu u (cq [4,0])<|fun r6 _ k p9 c9=>k<|zA 1 u<|zB<|zC<|
  qU 0 3 u u u<|zA 1 u<|qF zR9 u (cq [6,7,8,0])<|fun r7 _ k p10 c10 p11 c11 p12 c12=>k<|zA 1 u<|
  zF (.agg #[sv p10 r7.1 c10, sv p11 r7.2.1 c11, sv p12 r7.2.2 c12, sv p4 r1.1 c4, .slice none 0 0, vi 0, .slice none 0 0])<|
  wO .s (.agg #[.slice none 0 0, .slice none 0 0, .slice none 0 0, .slice none 0 0, .slice none 0 0, vi 0, .slice none 0 0])<|fun b5=>qL .s 4 u u u<|zB<|zC<|zM 0 u<|qU 4 3 u u u<|zA 1 u<|qU 1 2 u u u<|
  qF zOF u (cq [0,1,2,8])<|fun r8 _ k p13 c13=>k<|zM 4 u<|qL .s 4 u u u<|zB<|zD<|zC<|zA 2 u<|zM 4 u<|zU 4 u u u<|qF zQJ u (cq [0])<|fun r9 _ k p14 c14=>k<|zA 3 u<|zM 5 u<|
  qL .s 4 u u u<|zA 1 u<|zB<|jA 2 u<|zJ u (zC<|zF (.agg #[.slice none 0 0, .slice none 0 0, .slice none 0 0, .slice none 0 0, .slice none 0 0, vi 0, .slice none 0 0])<|zA 1 u<|qL .s 2 u u u<|zA 1 u<|zB<|zG<|
  qA<|wK u (lC 2 (.agg #[.slice none 0 0, .slice none 0 0, .slice none 0 0, .slice none 0 0, .slice none 0 0, vi 0, .slice none 0 0]) u u (lT u lN)) (fun _ k=>k none 0 none 0 none 0 none 0 none 0 none 0) [] ⟨gn,gn,gn,gn,gn,gn,d⟩
  )<|jC<|zC<|qU 4 7 u u u<|qL .s 2 u u u<|zA 1 u<|zB<|zG<|
  wK u (lC 2 (.agg #[sv p10 r7.1 c10, sv p11 r7.2.1 c11, sv p12 r7.2.2 c12, sv p4 r1.1 c4, sv p13 r8 c13, vi r9.1.1, sv p14 r9.1.2 c14]) u u (lT u lN)) (fun _ k=>k p10 c10 p11 c11 p12 c12 p4 c4 p13 c13 p14 c14) [] (gq [2,3,4,10,1,0])
theorem zKi {qd : Prop} {y0 : zT} {y1 : yB} : qC qd prog 23 [.agg (vJ y0 p1 c1 p2 c2 p3 c3).toArray, .agg #[vi y1.1, vi y1.2]] [] (vR y0 p1 c1 p2 c2 p3 c3 [Pt (yK 64 (zH .u8)) 4 0 yY]) (zDj y0 y1) fun r K=>∀ p4 c4,K (.tuple #[sv p4 r.1 c4, vb r.2]) [] [Rl wX p4 c4 r.1] :=
 zX call23 func23 u fun X=>zC<|qX .s u<|fun b1=>qX .s u<|fun b2=>zA 2 u<|zB<|zC<|qU 0 3 u u u<|qU 1 2 u u u<|qF zSl u (cq [0,1,2,3])<|fun r1 _ k p4 c4 p5 c5 p6 c6 p7 c7 p8 c8 p9 c9=>k<|zA 3 u<|
  wO .s (.agg #[.slice none 0 0, .slice none 0 0, .slice none 0 0, .slice none 0 0, .slice none 0 0, vi 0, .slice none 0 0])<|fun b3=>qL .s 2 u u u<|zA 1 u<|zB<|zC<|qU 2 7 u u u<|
  qF zHf u (cq [0,1,2,3,4,5,9])<|fun r2 _ k p10 c10=>k<|zA 5 u<|zB<|wL (fun s1 K=>∀ p11 c11,K [] [(0, []), (1, []), (2, [])] [10] [(4, sv p11 s1.1 c11), (5, vb s1.2)] [Rl wX p11 c11 s1.1]) (qK<|zA 4 u<|
  wJ 24 u (zA 2 u<|zF (vb (r2.2 == 0))<|zA 2 u<|zS<|zL (gv (fun _ k=>k p10 c10) [900,901,902] (gq [0,10])))<|zA 2 u<|zF (vb false)<|zA 2 u<|zS<|zL (gv (fun _ k=>k p10 c10) [900,901,902] (gq [0,10])))<|fun s1 _ k p11 c11=>
  k<|zG<|wK u (lT u (lT u lN)) (fun _ k=>k p11 c11) [] (gq [0])
theorem zIR {qd : Prop} {y0 : zO} : qC qd prog 246 [.agg #[vb y0.1, vs y0.2]] [] [] (zDF y0) fun r K=>K (vs r) [] [] :=
 zX call246 func246 u fun X=>zC<|qX .s u<|fun b1=>zA 1 u<|zB<|zD<|zQ<|zC<|qU 0 2 u u u<|qF zEp u d<|fun r1 _ k=>k<|zA 2 u<|zB<|zJ u (jA 1 u<|zG<|qV<|qA<|zP u u kk [] d)<|zC<|zM 0 u<|zU 0 u u u<|
  zA 1 u<|zB<|zJ u (zC<|zM 1 u<|zU 0 u u u<|uH fun x1 h1=>jv (fun h=>zVC h u u h1)<|zA 1 u<|zB<|zG<|qV<|qA<|zP u u kk [] d)<|wD<|qB<|zN<|zC<|zM 1 u<|zU 0 u u u<|zA 1 u<|zB<|
  zG<|zP u u kk [] d
theorem zLL {qd : Prop} {y0 : Int} {y1 : Int} : qC qd prog 340 [vi y0, vi y1] [] [Tb prog "internal/strconv.uint64pow10" .u64 Lib.pow10Tab] (zGh y0 y1) fun r K=>K (vs r) [] [] := z1B Go.Proofs.Tryz.lays246 call340
theorem zNy {qd : Prop} {y0 : Int} : qC qd prog 300 [vi y0] [] [Tb prog "internal/strconv.uint64pow10" .u64 Lib.pow10Tab] (zJ4 y0) fun r K=>K (vs r) [] [] :=
 zX call300 func300 u fun X=>jA 1 u<|zC<|zA 1 u<|qF zLL u (cq [0])<|fun r1 _ k=>k<|zA 1 u<|zB<|zG<|zP u u kk [] d
theorem zM0 {qd : Prop} {y0 : Int} : qC qd prog 247 [vi y0] [] [Tb prog "internal/strconv.uint64pow10" .u64 Lib.pow10Tab] (zKO y0) fun r K=>K (vs r) [] [] :=
 zX call247 func247 u fun X=>jA 1 u<|zC<|zA 1 u<|qF zNy rfl (cq [0])<|fun r1 _ k=>k<|zA 1 u<|zB<|zG<|zP u u kk [] d
theorem zQE {y0 : List qI} {y1 : qI} : qC False prog 248 [sv p1 y0 c1, vs y1] [] [Rl vO p1 c1 y0] (zM1 y0 y1) fun r K=>K (vs r) [] [] := z3S Go.Proofs.Tryz.lays156 Go.Proofs.Tryz.Builder_Extra_156 call248
theorem zO1 {y0 : vU} : qC False prog 165 [.agg #[vb y0.1.1, vs y0.1.2, vi y0.2.1, vi y0.2.2.1, vs y0.2.2.2]] [] [Pt (yK 4 vO) 1 0 zBD, Tb prog "internal/strconv.uint64pow10" .u64 Lib.pow10Tab] (zD9 y0) fun r K=>K (vs r) [] [] :=
 zX call165 func165 u fun X=>zC<|qX .s u<|fun b1=>zA 1 u<|zB<|yC [] [0] 9<|qR 0 2 u u<|wI 1 0 u u u u<|jdgx 2 u (gk 0) u u<|fun x1=>yD 3 false oS u (gk 0) u<|qR 4 0 u u<|vM 5 0 2 u u u u<|qH 6<|
  zZ (.f u) [] [] zIR u u u d<|fun r1 _ k=>k<|qD<|qH 7<|xH (.f u) (e := vO) 9 [vs x1, vs r1] ([x1, r1] : List qI) (rC vS (rC vS rN))<|fun r_1 p1 c1=>qD<|zW 0 [8] u<|qY<|zN<|
  wL (fun s1 K=>∀ p2 c2 r_2,K [1] [(1, r_2)] [2,3] [(3, sv p2 s1 c2)] [Al vO 9 r_2 p2 c2 s1]) (zC<|zM 2 u<|zU 0 u u u<|zA 1 u<|zB<|zJ u (qK<|zA 1 u<|zM 3 u<|zU 0 u u u<|qF zM0 u (cq [3])<|
  fun r2 _ k=>k<|wR .s (e := vO) 9 [vs r2] ([r2] : List qI) (rC vS rN)<|fun p3 c3=>wN .s 1 1 u (gk 0) u u<|fun x2 r_3 p4 c4=>zA 1 u<|zS<|zL (gv (fun _ k=>k p4 c4 r_3) [0,1] (gq [0,4,5])))<|wD<|
  zL (gv (fun _ k=>k p1 c1 r_1) [0,1] (gq [0,2,3])))<|fun s1 _ k p2 c2 r_2=>k<|wL (fun s2 K=>∀ p5 c5 r_4,K [] [(0, []), (1, r_4)] [1,2] [(3, sv p5 s2 c5)] [Al vO 9 r_4 p5 c5 s2]) (zC<|zM 4 u<|zU 0 u u u<|zA 1 u<|zB<|
  zJ u (qK<|zA 1 u<|zM 4 u<|zU 0 u u u<|wR .s (e := vO) 9 [vs [102, 114, 111, 109], vs y0.2.2.2] ([[102, 114, 111, 109], y0.2.2.2] : List qI) (rC vS (rC vS rN))<|fun p6 c6=>wN .s 1 1 u (gk 0) u u<|
  fun x3 r_5 p7 c7=>zA 1 u<|zS<|zL (gv (fun _ k=>k p7 c7 r_5) [900,1] (gq [0,3,4])))<|wD<|zL (gv (fun _ k=>k p2 c2 r_2) [900,1] (gq [0,1,2])))<|fun s2 _ k p5 c5 r_4=>k<|zC<|zA 1 u<|
  zZ .s [] [1] zQE u u u ⟨cl 1 0,d⟩<|fun r3 _ k=>k<|zA 1 u<|zB<|zG<|zP u u kk [] d
theorem zNI {qd : Prop} {y0 : vG} : qC qd prog 169 [.agg #[vs y0.1, vi y0.2.1, vb y0.2.2.1, vs y0.2.2.2]] [] [Tb prog "internal/strconv.uint64pow10" .u64 Lib.pow10Tab] (zCy y0) fun r K=>K (vs r) [] [] :=
 zX call169 func169 u fun X=>zC<|qX .s u<|fun b1=>zA 1 u<|zB<|yC [] [0] 14<|qR 0 0 u u<|wI 1 0 u u u u<|uH fun x1 h1=>tU 2 u (fun h=>zVC h u u h1)<|uH fun x2 h2=>tU 3 u (fun h=>zVC h u u h2)<|qR 4 1 u u<|
  wI 5 0 u u u u<|qR 9 2 u u<|vM 10 0 2 u u u u<|qH 6<|zZ (.f u) [] [] zM0 u u u (cq [0])<|fun r1 _ k=>k<|qD<|uH fun x3 h3=>tU 7 u (fun h=>zVC h u u h3)<|uH fun x4 h4=>
  tU 8 u (fun h=>zVC h u u h4)<|qH 11<|zZ (.f u) [] [] zIR u u u d<|fun r2 _ k=>k<|qD<|uH fun x5 h5=>tU 12 u (fun h=>zVC h u u h5)<|zW 0 [13] u<|qY<|zN<|zG<|zP u u kk [] d
theorem zQZ {y0 : wC} : qC False prog 167 [.agg (zSe y0 p1 c1).toArray] [] (zVU y0 p1 c1 [Tb prog "internal/strconv.uint64pow10" .u64 Lib.pow10Tab]) (zFV y0) fun r K=>K (vs r) [] [] :=
 zX call167 func167 u fun X=>zC<|qX .s u<|fun b1=>zA 1 u<|zB<|zC<|zM 0 u<|zU 0 u u u<|uH fun x1 h1=>jv (fun h=>zVC h u u h1)<|
  xH .s (e := vO) 9 [vs [115, 116, 114, 105, 99, 116], vs x1] ([[115, 116, 114, 105, 99, 116], x1] : List qI) (rC vS (rC vS rN))<|fun r_1 p2 c2=>zA 2 u<|zB<|
  wL (fun s1 K=>∀ p3 c3 r_2,K [1] [(1, []), (2, r_2)] [1,2] [(3, sv p3 s1.1 c3), (4, vs s1.2)] [Al vO 9 r_2 p3 c3 s1.1]) (zC<|zM 1 u<|zU 0 u u u<|zA 1 u<|zB<|zJ u (uO [] [0] 9<|qR 0 0 u u<|wI 1 0 u u u u<|
  qR 2 2 u u<|wI 3 0 u u u u<|qH 4<|zZ (.f u) [] [] zM0 u u u (cq [2])<|fun r1 _ k=>k<|qD<|uH fun x2 h2=>tU 5 u (fun h=>zVC h u u h2)<|qH 6<|
  xH (.f u) (e := vO) 9 [vs [114, 117, 108, 101], vs y0.1, vs x2] ([[114, 117, 108, 101], y0.1, x2] : List qI) (rC vS (rC vS (rC vS rN)))<|fun r_3 p4 c4=>qD<|zW 0 [7,8] u<|qY<|zL (gv (fun _ k=>k p4 c4 r_3) [0,901,2] (gq [0,2,3]))
  )<|wD<|zL (gv (fun _ k=>k p2 c2 r_1) [0,901,1] (gq [0,1,2])))<|fun s1 _ k p3 c3 r_2=>k<|wL (fun s2 K=>∀ p5 c5 r_4,K [1,4] [(2, r_4)] [1,2] [(3, sv p5 s2 c5)] [Al vO 9 r_4 p5 c5 s2]) (zC<|zM 3 u<|zU 0 u u u<|zA 2 u<|zB<|
  zQ<|qT (fun s3 K=>∀ p6 c6 r_5,K [1,4,23,24] [(2, r_5)] [1,2] [(3, sv p6 s3.1 c6), (25, vi s3.2)] [Al vO 9 r_5 p6 c6 s3.1]) (gv (fun _ k=>k p3 c3 r_2) [0,901,2] (gq [0,1,2]))<|fun s3 _ k p6 c6 r_5=>k<|jA 1 u<|zD<|zJ u (jC<|zD<|
  zQ<|zC<|zA 1 u<|qQ 1 u u u<|fun x3 b2 o1=>qP true yU (gk 0) u<|wO .s (.agg #[vb false, vs []])<|fun b3=>zA 1 u<|qL .s 3 u u u<|zB<|zC<|qU 3 2 u u u<|qF zIR u d<|fun r2 _ k=>k<|
  zA 1 u<|zB<|wL (fun s4 K=>K [1,3,4,23,24,25] [(3, [])] [1,2,3] [(7, vs s4)] []) (zC<|zA 1 u<|zM 3 u<|zU 0 u u u<|zA 3 u<|zB<|zJ u (qK<|zA 1 u<|uH fun x4 h3=>jv (fun h=>zVC h u u h3)<|zA 1 u<|zS<|
  zL (gv kk [0,901,2,903] (gq [1,2,3])))<|wD<|zL (gv kk [0,901,2,903] (gq [1,2,3])))<|fun s4 _ k=>k<|qK<|zA 2 u<|wR .s (e := vO) 9 [vs s4] ([s4] : List qI) (rC vS rN)<|fun p7 c7=>wN .s 2 1 u (gk 0) u u<|
  fun x5 r_6 p8 c8=>zA 1 u<|zS<|qB<|zN<|jB 2 u<|qE (gv (fun _ k=>k p8 c8 r_6) [0,901,2] (gq [0,3,4])))<|qN<|qM<|qS<|qO<|zL (gv (fun _ k=>k p6 c6 r_5) [0,901,2] (gq [0,1,2])))<|fun s2 _ k p5 c5 r_4=>k<|zC<|zA 2 u<|zM 4 u<|
  qU 0 2 u u u<|qF zIR u d<|fun r3 _ k=>k<|wR .s (e := vO) 9 [vs s1.2, vs r3] ([s1.2, r3] : List qI) (rC vS (rC vS rN))<|fun p9 c9=>wN .s 2 1 u (gk 0) u u<|fun x6 r_7 p10 c10=>
  zZ .s [] [2] zQE u u u ⟨cl 2 0,d⟩<|fun r4 _ k=>k<|zA 1 u<|zB<|zG<|zP u u kk [] d
theorem zBk {qd : Prop} {y0 : zAP} : qC qd prog 163 [pt b1 0] [bx b1 163 (zC4 y0 p1 c1)] [Rl vO p1 c1 y0.1] (zB5 y0) fun r K=>∀ p2 c2,K (vs r.1) [bx b1 163 [sv p2 r.2.1 c2, vb r.2.2]] [Rl vO p2 c2 r.2.1] :=
 zX call163 func163 u fun X=>jA 1 u<|zD<|zC<|zA 2 u<|zM 0 u<|zU 0 u u u<|zA 2 u<|zB<|zJ u (zC<|zA 2 u<|zM 1 u<|qL .s 0 u u u<|zB<|jA 1 u<|zG<|qA<|zP u u (fun _ k=>k p1 c1) [0] (gq [0]))<|jC<|zC<|zA 2 u<|zM 0 u<|
  zU 0 u u u<|qQ 0 u u u<|fun x1 b2 o1=>qP false oS (gk 0) u<|zA 1 u<|zB<|zC<|zA 3 u<|zM 0 u<|zU 0 u u u<|jsl (gk 1) u u u (.inr ⟨_, rfl⟩) (.inl ⟨rfl, rfl⟩)<|fun x2 p2 c2=>zA 1 u<|zM 0 u<|
  qL .s 0 u u u<|zB<|jA 2 u<|zG<|zP u u (fun _ k=>k p2 c2) [0] (gq [0])
theorem zUF {qd : Prop} {y0 : qI} : qC qd prog 299 [vs y0] [] [] (zJY y0) fun r K=>K (.tuple #[.agg #[vb r.1.1, vs r.1.2], vi r.2]) [] [] :=
 zX call299 func299 u fun X=>zC<|wO .s (.agg #[vb false, vs []])<|fun b1=>zA 1 u<|zB<|zC<|wO .s (.agg #[vb false, vs []])<|fun b2=>zB<|wL (fun s1 K=>K [2,4] [(1, bx b2 62 [vb s1.2, vs []])] [] [(0, vs s1.1)] []) (
  wL (fun s2 K=>K [0,2,4] [] [] [(12, vb s2)] []) (qK<|zA 4 u<|wJ 8 u (zA 1 u<|uH fun x1 h1=>jv (fun h=>zKZ h u u underlying9 h1)<|zA 1 u<|zF (vb (x1 == 126))<|zS<|zL (gv kk [0,1] d))<|zA 3 u<|
  zF (vb false)<|zS<|zL (gv kk [0,1] d))<|fun s2 _ k=>k<|zJ u (zC<|zM 0 u<|qL .s 1 u u u<|zB<|qK<|zA 1 u<|uH fun x2 h2=>jv (fun h=>zXn h u underlying9 u u (.inr ⟨_, rfl⟩) (.inl ⟨rfl, rfl⟩) h2)<|
  zA 1 u<|zS<|zL (gv kk [0,1] d))<|wD<|zL (gv kk [0,1] d))<|fun s1 _ k=>k<|zC<|zA 1 u<|zM 1 u<|qL .s 1 u u u<|zB<|zD<|zC<|qU 1 2 u u u<|qF zEp u d<|fun r1 _ k=>k<|
  zA 1 u<|zB<|zJ u (zC<|zF (.agg #[vb false, vs []])<|qL .s 0 u u u<|zA 1 u<|zB<|zG<|qA<|wK u (lC 0 (.agg #[vb false, vs []]) u u (lT u lN)) kk [] d)<|jC<|zC<|qU 1 2 u u u<|
  qL .s 0 u u u<|zA 1 u<|zB<|zG<|wK u (lC 0 (.agg #[vb s1.2, vs s1.1]) u u (lT u lN)) kk [] d
theorem zJj {qd : Prop} {y0 : qI} {y1 : qI} : qC qd prog 362 [vs y0, vs y1] [] [] (zER y0 y1) fun r K=>K (vb r) [] [] :=
 zX call362 func362 u fun X=>jA 1 u<|jjn (fun s1 K=>K [(4, vb s1)] [] []) (qK<|zA 6 u<|wJ 10 u (zA 6 u<|uH fun x1 h1=>jv (fun h=>zXn h u underlying9 u u (.inr ⟨_, rfl⟩) (.inl ⟨rfl, rfl⟩) h1)<|zA 2 u<|zF (vb (x1 == y1))<|zA 1 u<|zS<|
  zL (gv kk [] d))<|zA 9 u<|zF (vb false)<|zA 1 u<|zS<|zL (gv kk [] d))<|fun s1 _ k=>k<|zG<|zP u u kk [] d
theorem zJg {qd : Prop} {y0 : qI} {y1 : qI} : qC qd prog 339 [vs y0, vs y1] [] [] (zES y0 y1) fun r K=>K (.tuple #[vs r.1, vb r.2]) [] [] :=
 zX call339 func339 u fun X=>jA 2 u<|zD<|zC<|zA 2 u<|qF zJj u d<|fun r1 _ k=>k<|zA 1 u<|zB<|zJ u (jA 3 u<|zG<|qA<|wK u (lT u (lT u lN)) kk [] d)<|jC<|zC<|zA 6 u<|uH fun x1 h1=>
  jv (fun h=>zXn h u underlying9 u u (.inl ⟨rfl, rfl⟩) (.inr ⟨_, rfl⟩) h1)<|zA 2 u<|zB<|zG<|wK u (lT u (lT u lN)) kk [] d
theorem zI5 {qd : Prop} {y0 : qI} {y1 : qI} : qC qd prog 298 [vs y0, vs y1] [] [] (zF3 y0 y1) fun r K=>K (.tuple #[vs r.1, vb r.2]) [] [] :=
 zX call298 func298 u fun X=>jA 2 u<|zC<|zA 2 u<|qF zJg u d<|fun r1 _ k=>k<|zA 4 u<|zB<|zG<|wK u (lT u (lT u lN)) kk [] d
theorem zCv {qd : Prop} {y0 : zAP} {y1 : qI} : qC qd prog 243 [pt b1 0, vs y1] [bx b1 163 (zC4 y0 p1 c1)] [Rl vO p1 c1 y0.1] (zBX y0 y1) fun r K=>∀ p2 c2,K (.agg #[vb r.1.1, vs r.1.2]) [bx b1 163 [sv p2 r.2.1 c2, vb r.2.2]] [Rl vO p2 c2 r.2.1] :=
 zX call243 func243 u fun X=>zC<|wO .s (.agg #[vb false, vs []])<|fun b2=>zB<|zC<|zA 1 u<|zZ .s [0] [] zBk u u u (cq [0])<|fun r1 _ k p2 c2=>k<|zA 1 u<|qF zI5 u d<|fun r2 _ k=>k<|zA 5 u<|zB<|zC<|zA 1 u<|
  qF zUF u d<|fun r3 _ k=>k<|zA 3 u<|wO .s (.agg #[vb false, vs []])<|fun b3=>qL .s 2 u u u<|zA 1 u<|zB<|wL (fun s1 K=>K [4,7] [(0, bx b1 163 [sv p2 r1.2.1 c2, vb s1])] [0] [] []) (qK<|zA 3 u<|zM 1 u<|
  zU 0 u u u<|zA 1 u<|wJ 26 u (zA 2 u<|zF (vb true)<|zA 3 u<|zF (vb true)<|zA 1 u<|zM 1 u<|qL .s 0 u u u<|zS<|zL (gv kk [0,1,2] (gq [0])))<|zA 2 u<|zF (vb (!r2.2))<|zA 1 u<|wJ 30 u (
  zA 2 u<|zF (vb true)<|zA 1 u<|zM 1 u<|qL .s 0 u u u<|zS<|zL (gv kk [0,1,2] (gq [0])))<|zA 2 u<|zF (vb (r3.2 != 0))<|zA 1 u<|zM 1 u<|qL .s 0 u u u<|zS<|zL (gv kk [0,1,2] (gq [0])))<|
  fun s1 _ k=>k<|zC<|qU 2 2 u u u<|qL .s 1 u u u<|zB<|zG<|wK u (lC 1 (.agg #[vb r3.1.1, vs r3.1.2]) u u lN) (fun _ k=>k p2 c2) [0] (gq [0])
theorem zDw {qd : Prop} {y0 : zAP} {y1 : qI} : qC qd prog 245 [pt b1 0, vs y1] [bx b1 163 (zC4 y0 p1 c1)] [Rl vO p1 c1 y0.1] (zBn y0 y1) fun r K=>∀ p2 c2,K (vs r.1) [bx b1 163 [sv p2 r.2.1 c2, vb r.2.2]] [Rl vO p2 c2 r.2.1] :=
 zX call245 func245 u fun X=>jA 1 u<|zC<|zA 1 u<|zZ .s [0] [] zBk u u u (cq [0])<|fun r1 _ k p2 c2=>k<|zA 1 u<|qF zI5 u d<|fun r2 _ k=>k<|zA 5 u<|zB<|
  wL (fun s1 K=>K [5] [(0, bx b1 163 [sv p2 r1.2.1 c2, vb s1])] [0] [] []) (qK<|zA 3 u<|zM 1 u<|zU 0 u u u<|zA 1 u<|wJ 19 u (zA 2 u<|zF (vb true)<|zA 4 u<|zF (vb true)<|zA 1 u<|zM 1 u<|
  qL .s 0 u u u<|zS<|zL (gv kk [0] (gq [0])))<|zA 2 u<|zF (vb (!r2.2))<|zA 1 u<|wJ 23 u (zA 3 u<|zF (vb true)<|zA 1 u<|zM 1 u<|qL .s 0 u u u<|zS<|zL (gv kk [0] (gq [0])))<|zA 1 u<|
  qF zFf u d<|fun r3 _ k=>k<|zA 1 u<|zF (vb (!r3))<|zA 1 u<|zM 1 u<|qL .s 0 u u u<|zS<|zL (gv kk [0] (gq [0])))<|fun s1 _ k=>k<|jA 2 u<|zG<|zP u u (fun _ k=>k p2 c2) [0] (gq [0])
theorem zHQ {qd : Prop} {y0 : zAP} {y1 : qI} : qC qd prog 244 [pt b1 0, vs y1] [bx b1 163 (zC4 y0 p1 c1)] [Rl vO p1 c1 y0.1] (zEH y0 y1) fun r K=>∀ p2 c2,K (vi r.1) [bx b1 163 [sv p2 r.2.1 c2, vb r.2.2]] [Rl vO p2 c2 r.2.1] :=
 zX call244 func244 u fun X=>jA 1 u<|zC<|zA 1 u<|zZ .s [0] [] zBk u u u (cq [0])<|fun r1 _ k p2 c2=>k<|zA 1 u<|qF zI5 u d<|fun r2 _ k=>k<|zA 5 u<|zB<|zD<|wL (fun s1 K=>K [0,5] [] [0] [(30, vb s1)] []) (qK<|
  zA 3 u<|wJ 16 u (zA 3 u<|zF (vb true)<|zA 4 u<|zF (vb true)<|zA 4 u<|zF (vb true)<|zS<|zL (gv kk [0] (gq [0])))<|zA 3 u<|zF (vb ((len r2.1) != 1))<|zA 1 u<|wJ 21 u (zA 3 u<|zF (vb true)<|
  zA 4 u<|zF (vb true)<|zS<|zL (gv kk [0] (gq [0])))<|zA 1 u<|uH fun x1 h1=>jv (fun h=>zKZ h u u underlying9 h1)<|zA 1 u<|zF (vb (decide (x1 < 48)))<|zA 1 u<|wJ 26 u (zA 3 u<|zF (vb true)<|zS<|
  zL (gv kk [0] (gq [0])))<|zA 1 u<|uH fun x2 h2=>jv (fun h=>zKZ h u u underlying9 h2)<|zA 1 u<|zF (vb (decide (57 < x2)))<|zS<|zL (gv kk [0] (gq [0])))<|fun s1 _ k=>k<|zJ u (zC<|zA 2 u<|
  zM 1 u<|qL .s 0 u u u<|zB<|jA 1 u<|zG<|qA<|zP u u (fun _ k=>k p2 c2) [0] (gq [0]))<|jC<|zC<|zA 1 u<|uH fun x3 h3=>jv (fun h=>zKZ h u u underlying9 h3)<|zA 1 u<|
  zF (vi (zR (IntKind.u8.wrap (x3 - 48))))<|zA 1 u<|zB<|zG<|zP u u (fun _ k=>k p2 c2) [0] (gq [0])
theorem zNL {qd : Prop} {y0 : zAP} {y1 : Int} : qC qd prog 164 [pt b1 0, vi y1] [bx b1 163 (zC4 y0 p1 c1)] [Rl vO p1 c1 y0.1] (zCz y0 y1) fun r K=>∀ p2 c2,K (.agg #[vb r.1.1.1, vs r.1.1.2, vi r.1.2.1, vi r.1.2.2.1, vs r.1.2.2.2]) [bx b1 163 [sv p2 r.2.1 c2, vb r.2.2]] [Rl vO p2 c2 r.2.1] :=
 zX call164 func164 u fun X=>zC<|wO .s (.agg #[vb false, vs [], vi 0, vi 0, vs []])<|fun b2=>zB<|zC<|zA 2 u<|zZ .s [0] [] zCv u u u (cq [0])<|fun r1 _ k p2 c2=>k<|zF (.agg #[vb r1.1.1, vs r1.1.2, vi y1, vi 0, vs []])<|
  wO .s (.agg #[vb false, vs [], vi 0, vi 0, vs []])<|fun b3=>qL .s 2 u u u<|zB<|
  wL (fun s1 K=>∀ p3 c3,K [0,4,5] [(0, bx b1 163 [sv p3 s1.1 c3, vb s1.2.1]), (2, bx b3 88 [vb r1.1.1, vs r1.1.2, vi y1, vi s1.2.2, vs []])] [] [] [Rl vO p3 c3 s1.1]) (jA 2 u<|zJ u (qK<|zA 1 u<|
  zZ .s [0] [] zHQ u u u (cq [0])<|fun r2 _ k p4 c4=>k<|zM 3 u<|qL .s 2 u u u<|zS<|zL (gv (fun _ k=>k p4 c4) [0,1,2] (gq [0])))<|wD<|zL (gv (fun _ k=>k p2 c2) [0,1,2] (gq [0])))<|fun s1 _ k p3 c3=>k<|
  wL (fun s2 K=>∀ p5 c5,K [4,5] [(0, bx b1 163 [sv p5 s2.1 c5, vb s2.2.1]), (2, bx b3 88 [vb r1.1.1, vs r1.1.2, vi y1, vi s1.2.2, vs s2.2.2])] [] [] [Rl vO p5 c5 s2.1]) (zC<|zA 2 u<|zM 0 u<|zU 0 u u u<|zA 2 u<|zB<|
  zJ u (wL (fun s3 K=>∀ p6 c6,K [0,4,5] [(0, bx b1 163 [sv p6 s3.1 c6, vb s3.2])] [] [] [Rl vO p6 c6 s3.1]) (qK<|zA 3 u<|zM 1 u<|zU 0 u u u<|zA 1 u<|wJ 26 u (zA 3 u<|zF (vb true)<|zA 1 u<|zM 1 u<|
  qL .s 0 u u u<|zS<|zL (gv (fun _ k=>k p3 c3) [0,1,2] (gq [0])))<|zA 1 u<|zZ .s [0] [] zBk u u u (cq [0])<|fun r3 _ k p7 c7=>k<|zA 1 u<|zF (vb (!(r3.1 == [102, 114, 111, 109])))<|zA 1 u<|
  zM 1 u<|qL .s 0 u u u<|zS<|zL (gv (fun _ k=>k p7 c7) [0,1,2] (gq [0])))<|fun s3 _ k p6 c6=>k<|qK<|zA 1 u<|zZ .s [0] [] zDw u u u (cq [0])<|fun r4 _ k p8 c8=>k<|zM 4 u<|qL .s 2 u u u<|zS<|
  zL (gv (fun _ k=>k p8 c8) [0,1,2] (gq [0])))<|wD<|zL (gv (fun _ k=>k p3 c3) [0,1,2] (gq [0])))<|fun s2 _ k p5 c5=>k<|zC<|qU 2 5 u u u<|qL .s 1 u u u<|zB<|zG<|
  wK u (lC 1 (.agg #[vb r1.1.1, vs r1.1.2, vi y1, vi s1.2.2, vs s2.2.2]) u u lN) (fun _ k=>k p5 c5) [0] (gq [0])
theorem zLv {qd : Prop} {y0 : zAP} : qC qd prog 168 [pt b1 0] [bx b1 163 (zC4 y0 p1 c1)] [Rl vO p1 c1 y0.1] (zCa y0) fun r K=>∀ p2 c2,K (.agg #[vs r.1.1, vi r.1.2.1, vb r.1.2.2.1, vs r.1.2.2.2]) [bx b1 163 [sv p2 r.2.1 c2, vb r.2.2]] [Rl vO p2 c2 r.2.1] :=
 zX call168 func168 u fun X=>zC<|wO .s (.agg #[vs [], vi 0, vb false, vs []])<|fun b2=>zB<|zC<|zA 1 u<|zZ .s [0] [] zDw u u u (cq [0])<|fun r1 _ k p2 c2=>k<|zA 1 u<|zZ .s [0] [] zHQ u u u (cq [0])<|
  fun r2 _ k p3 c3=>k<|zF (.agg #[vs r1.1, vi r2.1, vb false, vs []])<|wO .s (.agg #[vs [], vi 0, vb false, vs []])<|fun b3=>qL .s 2 u u u<|zB<|
  wL (fun s1 K=>∀ p4 c4,K [0,2,3] [(0, bx b1 163 [sv p4 s1.1 c4, vb s1.2])] [] [] [Rl vO p4 c4 s1.1]) (qK<|zA 3 u<|zM 1 u<|zU 0 u u u<|zA 1 u<|wJ 14 u (zA 3 u<|zF (vb true)<|zA 1 u<|zM 1 u<|
  qL .s 0 u u u<|zS<|zL (gv (fun _ k=>k p3 c3) [0,1,2] (gq [0])))<|zA 1 u<|zZ .s [0] [] zBk u u u (cq [0])<|fun r3 _ k p5 c5=>k<|zA 1 u<|zF (vb (!(r3.1 == [105, 102])))<|zA 1 u<|zM 1 u<|
  qL .s 0 u u u<|zS<|zL (gv (fun _ k=>k p5 c5) [0,1,2] (gq [0])))<|fun s1 _ k p4 c4=>k<|zC<|zA 1 u<|zZ .s [0] [] zCv u u u (cq [0])<|fun r4 _ k p6 c6=>k<|zM 2 u<|qL .s 2 u u u<|zB<|zC<|
  qU 2 4 u u u<|qL .s 1 u u u<|zB<|zG<|wK u (lC 1 (.agg #[vs r1.1, vi r2.1, vb r4.1.1, vs r4.1.2]) u u lN) (fun _ k=>k p6 c6) [0] (gq [0])
theorem zPB {qd : Prop} {y0 : zAP} {y1 : Bool} : qC qd prog 166 [pt b1 0, vb y1] [bx b1 163 (zC4 y0 p1 c1)] [Rl vO p1 c1 y0.1] (zEG y0 y1) fun r K=>∀ p2 c2 p3 c3,K (.agg (zSe r.1 p2 c2).toArray) [bx b1 163 [sv p3 r.2.1 c3, vb r.2.2]] (zVU r.1 p2 c2 [Rl vO p3 c3 r.2.1]) :=
 zX call166 func166 u fun X=>zC<|wO .s (.agg #[vs [], vb false, vi 0, .slice none 0 0, vb false, vs []])<|fun b2=>zB<|zC<|zA 1 u<|zF (.agg #[vs [], vb y1, vi 0, .slice none 0 0, vb false, vs []])<|vE wX 62<|
  wO .s (.agg #[vs [], vb false, vi 0, .slice none 0 0, vb false, vs []])<|fun b3=>qL .s 3 u u u<|zB<|jA 1 u<|
  wL (fun s1 K=>∀ p2 c2,K [0,4,5] [(0, bx b1 163 [sv p2 s1.2.1 c2, vb s1.2.2.1]), (3, bx b3 92 [vs s1.2.2.2.1, vb y1, vi s1.2.2.2.2, sv none ([] : List zO) 0, vb false, vs []])] [0] [(6, vs s1.1)] [Rl vO p2 c2 s1.2.1]) (jA 1 u<|
  zJ u (qK<|zA 1 u<|zZ .s [0] [] zDw u u u (cq [1])<|fun r1 _ k p3 c3=>k<|zM 0 u<|qL .s 3 u u u<|zS<|zL (gv (fun _ k=>k p3 c3) [0,1,2,3] (gq [0,1])))<|qK<|zA 1 u<|
  zZ .s [0] [] zDw u u u (cq [1])<|fun r2 _ k p4 c4=>k<|zA 1 u<|zZ .s [0] [] zHQ u u u (cq [0])<|fun r3 _ k p5 c5=>k<|zM 0 u<|qL .s 3 u u u<|zM 2 u<|qL .s 3 u u u<|
  zA 1 u<|zS<|zL (gv (fun _ k=>k p5 c5) [0,1,2,3] (gq [0,2])))<|fun s1 _ k p2 c2=>k<|
  wL (fun s2 K=>∀ p6 c6 p7 c7 r_1,K [0,4,5,6] [(0, bx b1 163 [sv p6 s2.1 c6, vb s2.2.1]), (2, r_1), (3, bx b3 92 [vs s1.2.2.2.1, vb y1, vi s1.2.2.2.2, sv p7 s2.2.2 c7, vb false, vs []])] [] [] [Rl vO p6 c6 s2.1, Al wX 62 r_1 p7 c7 s2.2.2]) (
  zQ<|
  qT (fun s3 K=>∀ p8 c8 p9 c9 r_2,K [0,4,5,6] [(0, bx b1 163 [sv p8 s3.1 c8, vb s3.2.1]), (2, r_2), (3, bx b3 92 [vs s1.2.2.2.1, vb y1, vi s1.2.2.2.2, sv p9 s3.2.2 c9, vb false, vs []])] [] [] [Rl vO p8 c8 s3.1, Al wX 62 r_2 p9 c9 s3.2.2]) (gv (fun _ k=>k p2 c2 none 0 []) [0,1,2,3] (gq [0,1]))<|
  fun s3 _ k p8 c8 p9 c9 r_2=>k<|zD<|xG (fun K=>K [0,4,5,6] [] [0,1] [(32, vb ((decide (2 < (len s3.1))) && (!s3.2.1)))] []) (qK<|zA 2 u<|zM 0 u<|zU 0 u u u<|zA 3 u<|yA (b := decide (2 < (len s3.1))) 26 u (fun hb1=>
  zA 2 u<|zM 1 u<|zU 0 u u u<|zA 1 u<|zF (vb (!s3.2.1))<|zS<|wQ 32 (vb ((decide (2 < (len s3.1))) && (!s3.2.1))) u (by rw [hb1]; rfl)<|zL (gv kk [0,1,2,3] (gq [0,1])))<|fun hb1=>zA 5 u<|zF (vb false)<|zS<|
  wQ 32 (vb ((decide (2 < (len s3.1))) && (!s3.2.1))) u (by rw [hb1]; rfl)<|zL (gv kk [0,1,2,3] (gq [0,1])))<|fun _ k=>k<|zJ u (jC<|zQ<|jA 1 u<|wL (fun s4 K=>K [0,4,5,6] [] [0,1] [(7, vs s4)] []) (zC<|zA 2 u<|
  zM 0 u<|zU 0 u u u<|zA 2 u<|zB<|zJ u (jB 1 u<|zL (gv kk [0,1,2,3] (gq [0,1])))<|wD<|zL (gv kk [0,1,2,3] (gq [0,1])))<|fun s4 _ k=>k<|uO [8] [3] 9<|qR 0 3 u u<|wI 1 3 u u u u<|
  zW 5 [2,3] u<|qH 4<|zZ (.f u) [0] [] zCv u u u (cq [0])<|fun r4 _ k p10 c10=>k<|qD<|qH 5<|wR (.f u) (e := wX) 62 [vb r4.1.1, vs r4.1.2] ([r4.1] : List zO) (rC (vP vB vS) rN)<|
  fun p11 c11=>qD<|qH 6<|wN (.f u) 2 3 u (gk 0) u u<|fun x1 r_3 p12 c12=>qD<|qR 7 3 u u<|qH 8<|qL (o := 3) (.f u) 3 u u u<|jdb [] [3]<|qY<|qB<|qE (gv (fun _ k=>k p10 c10 p12 c12 r_3) [0,1,2,3] (gq [2,0])))<|qN<|
  qM<|qS<|qO<|zL (gv (fun _ k=>k p8 c8 p9 c9 r_2) [0,1,2,3] (gq [0,1])))<|fun s2 _ k p6 c6 p7 c7 r_1=>k<|wL (fun s5 K=>∀ p13 c13,K [0,4,5] [(0, bx b1 163 [sv p13 s5.1 c13, vb s5.2])] [1] [] [Rl vO p13 c13 s5.1]) (qK<|zA 3 u<|
  zM 1 u<|zU 0 u u u<|zA 1 u<|wJ 52 u (zA 4 u<|zF (vb true)<|zA 1 u<|zM 1 u<|qL .s 0 u u u<|zS<|zL (gv (fun _ k=>k p6 c6) [0,1,2,3] (gq [0,1])))<|zA 1 u<|
  zZ .s [0] [] zBk u u u (cq [0])<|fun r5 _ k p14 c14=>k<|zA 2 u<|zF (vb (!(r5.1 == s1.1)))<|zA 1 u<|zM 1 u<|qL .s 0 u u u<|zS<|zL (gv (fun _ k=>k p14 c14) [0,1,2,3] (gq [0,2])))<|
  fun s5 _ k p13 c13=>k<|zC<|zA 1 u<|zZ .s [0] [] zCv u u u (cq [0])<|fun r6 _ k p15 c15=>k<|zM 4 u<|qL .s 3 u u u<|zB<|zC<|qU 3 6 u u u<|qL .s 1 u u u<|zB<|zG<|wW 2 2 u u<|
  wK u (lC 1 (.agg #[vs s1.2.2.2.1, vb y1, vi s1.2.2.2.2, sv p7 s2.2.2 c7, vb r6.1.1, vs r6.1.2]) u u lN) (fun _ k=>k p7 c7 p15 c15) [0] (gq [0,1])
theorem zPq {y0 : zAP} {y1 : zT} : qC False prog 109 [pt b1 0, pt b2 0] [bx b1 163 (zC4 y0 p1 c1), bx b2 29 [sv p2 y1.1 c2, sv p3 y1.2.1 c3, sv p4 y1.2.2 c4], r_1, r_2, r_3] [Rl vO p1 c1 y0.1, Al xL 88 r_1 p2 c2 y1.1, Al yQ 92 r_2 p3 c3 y1.2.1, Al uV 105 r_3 p4 c4 y1.2.2, Pt (yK 4 vO) 1 0 zBD, Tb prog "internal/strconv.uint64pow10" .u64 Lib.pow10Tab] (zE0 y0 y1) fun r K=>∀ p5 c5 p6 c6 r_4 p7 c7 r_5 p8 c8 r_6,K (.tuple #[vi r.1, vs r.2.1]) [bx b1 163 [sv p5 r.2.2.1 c5, vb r.2.2.2.1], bx b2 29 [sv p6 r.2.2.2.2.1 c6, sv p7 r.2.2.2.2.2.1 c7, sv p8 r.2.2.2.2.2.2 c8], r_4, r_5, r_6] [Rl vO p5 c5 r.2.2.1, Al xL 88 r_4 p6 c6 r.2.2.2.2.1, Al yQ 92 r_5 p7 c7 r.2.2.2.2.2.1, Al uV 105 r_6 p8 c8 r.2.2.2.2.2.2] :=
 zX call109 func109 u fun X=>jA 2 u<|zD<|zC<|zA 1 u<|zZ .s [0] [] zBk u u u (cq [0])<|fun r1 _ k p5 c5=>k<|zA 1 u<|zB<|jA 1 u<|zQ<|wL (fun s1 K=>K [0,1,6,15] [] [0,2,3,4,5,6] [(16, vb s1)] []) (jA 2 u<|zJ u (wD<|
  zL (gv kk [0,1,2,3,4] (gq [0,2,3,4,5,6])))<|jA 2 u<|zJ u (wD<|zL (gv kk [0,1,2,3,4] (gq [0,2,3,4,5,6])))<|jB 2 u<|zL (gv kk [0,1,2,3,4] (gq [0,2,3,4,5,6])))<|fun s1 _ k=>k<|zJ u (jA 1 u<|
  wL (fun s2 K=>K [0,1] [] [0,1,2,3,4,5] [(7, vi s2)] []) (zC<|jlT (vs) (fun _ _ _ _ h=>h) (gk 4) u<|zA 1 u<|zB<|zQ<|
  qT (fun s3 K=>K [0,1,6,20] [] [0,1,2,3,4,5] [(7, vi s3.1), (21, vi s3.2)] []) (gv kk [0,1,2,3,4] (gq [0,1,2,3,4,5]))<|fun s3 _ k=>k<|jA 1 u<|zD<|zJ u (jC<|zD<|zQ<|zC<|zA 1 u<|uH fun x1 h1=>
  jv (fun h=>r_aidx (l := zBD) (vs) h u u u underlying194 u (by kernel_rfl) h1)<|zA 2 u<|zB<|jA 3 u<|zJ u (jB 2 u<|qB<|zN<|jB 2 u<|qE (gv kk [0,1,2,3,4] (gq [0,1,2,3,4,5])))<|wD<|qB<|
  zN<|jB 2 u<|qE (gv kk [0,1,2,3,4] (gq [0,1,2,3,4,5])))<|qN<|qM<|qS<|qO<|zL (gv kk [0,1,2,3,4] (gq [0,1,2,3,4,5])))<|fun s2 _ k=>k<|zC<|zA 2 u<|zZ .s [0] [] zNL u u u (cq [0])<|
  fun r2 _ k p6 c6=>k<|wO .s (.agg #[vb false, vs [], vi 0, vi 0, vs []])<|fun b3=>qL .s 5 u u u<|zB<|yC [10] [1, 5] 11<|zW 8 [0,1,2] u<|qR 3 0 u u<|wI 4 1 u u u u<|vM 5 5 5 u u u u<|qH 6<|
  wR (.f u) (e := xL) 88 [vb r2.1.1.1, vs r2.1.1.2, vi r2.1.2.1, vi r2.1.2.2.1, vs r2.1.2.2.2] ([r2.1] : List vU) (rC (vP (vP vB vS) (vP vI (vP vI vS))) rN)<|fun p7 c7=>qD<|qH 7<|wN (.f u) 2 3 u (gk 0) u u<|
  fun x2 r_4 p8 c8=>qD<|zW 2 [8] u<|qR 9 0 u u<|qH 10<|qL (o := 0) (.f u) 1 u u u<|jdb [] [1, 5]<|qY<|zN<|zC<|qU 5 5 u u u<|qF zO1 u (cq [7,8])<|fun r3 _ k=>k<|zA 2 u<|zB<|zG<|qV<|qA<|
  wK u (lT u (lT u lN)) (fun _ k=>k p6 c6 p8 c8 r_4 p3 c3 r_2 p4 c4 r_3) [0,1,2,3,4] (gq [2,0,5,6]))<|wL (fun s4 K=>K [0,1,6,15] [] [0,1,2,3,4,5] [(45, vb s4)] []) (jA 2 u<|zJ u (wD<|
  zL (gv kk [0,1,2,3,4] (gq [0,1,2,3,4,5])))<|jB 2 u<|zL (gv kk [0,1,2,3,4] (gq [0,1,2,3,4,5])))<|fun s4 _ k=>k<|zJ u (zC<|zA 3 u<|zZ .s [0] [] zPB u u u (cq [0])<|
  fun r4 _ k p9 c9 p10 c10=>k<|wO .s (.agg #[vs [], vb false, vi 0, .slice none 0 0, vb false, vs []])<|fun b4=>qL .s 5 u u u<|zB<|yC [10] [1, 5] 11<|zW 8 [0,1,2] u<|qR 3 1 u u<|wI 4 1 u u u u<|
  vM 5 5 6 u u u u<|qH 6<|
  wR (.f u) (e := yQ) 92 [vs r4.1.1, vb r4.1.2.1, vi r4.1.2.2.1, sv p9 r4.1.2.2.2.1 c9, vb r4.1.2.2.2.2.1, vs r4.1.2.2.2.2.2] ([r4.1] : List wC) (rC (vP vS (vP vB (vP vI (vP (vL (gk 0)) (vP vB vS))))) rN)<|fun p11 c11=>qD<|qH 7<|
  wN (.f u) 3 5 u (gk 0) u u<|fun x3 r_5 p12 c12=>qD<|zW 2 [8] u<|qR 9 1 u u<|qH 10<|qL (o := 1) (.f u) 1 u u u<|jdb [] [1, 5]<|qY<|zN<|zC<|qU 5 6 u u u<|qF zQZ u (cq [2,9])<|
  fun r5 _ k=>k<|zA 2 u<|zB<|zG<|qV<|qA<|wK u (lT u (lT u lN)) (fun _ k=>k p10 c10 p2 c2 r_1 p12 c12 r_5 p4 c4 r_3) [0,1,2,3,4] (gq [3,5,0,7]))<|jA 2 u<|zJ u (zC<|zA 1 u<|
  zZ .s [0] [] zLv u u u (cq [0])<|fun r6 _ k p13 c13=>k<|wO .s (.agg #[vs [], vi 0, vb false, vs []])<|fun b5=>qL .s 5 u u u<|zB<|yC [10] [1, 5] 11<|zW 8 [0,1,2] u<|qR 3 2 u u<|
  wI 4 1 u u u u<|vM 5 5 4 u u u u<|qH 6<|wR (.f u) (e := uV) 105 [vs r6.1.1, vi r6.1.2.1, vb r6.1.2.2.1, vs r6.1.2.2.2] ([r6.1] : List vG) (rC (vP vS (vP vI (vP vB vS))) rN)<|fun p14 c14=>qD<|qH 7<|
  wN (.f u) 4 5 u (gk 0) u u<|fun x4 r_6 p15 c15=>qD<|zW 2 [8] u<|qR 9 2 u u<|qH 10<|qL (o := 2) (.f u) 1 u u u<|jdb [] [1, 5]<|qY<|zN<|zC<|qU 5 4 u u u<|qF zNI u (cq [8])<|
  fun r7 _ k=>k<|zA 2 u<|zB<|zG<|qV<|qA<|wK u (lT u (lT u lN)) (fun _ k=>k p13 c13 p2 c2 r_1 p3 c3 r_2 p15 c15 r_6) [0,1,2,3,4] (gq [2,4,5,0]))<|wD<|qB<|zN<|jA 2 u<|zG<|
  wK u (lT u (lT u lN)) (fun _ k=>k p5 c5 p2 c2 r_1 p3 c3 r_2 p4 c4 r_3) [0,1,2,3,4] (gq [0,1,2,3])
theorem zLH {qd : Prop} {y0 : qI} {y1 : qI} : qC qd prog 241 [vs y0, vs y1] [] [] (zGo y0 y1) fun r K=>K (vi r) [] [] := z0R Go.Proofs.Tryz.lays219 call241
theorem zMC {qd : Prop} {y0 : qI} {y1 : qI} : qC qd prog 160 [vs y0, vs y1] [] [] (zHr y0 y1) fun r K=>K (.tuple #[vs r.1, vs r.2.1, vb r.2.2]) [] [] :=
 zX call160 func160 u fun X=>jA 3 u<|zD<|zC<|zA 2 u<|qF zLH u d<|fun r1 _ k=>k<|zA 1 u<|zB<|jA 2 u<|zJ u (yC [] [] 12<|zW 10 [0,1] u<|uH fun x1 h1=>
  tU 2 u (fun h=>zXn h u underlying9 u u (.inl ⟨rfl, rfl⟩) (.inr ⟨_, rfl⟩) h1)<|zW 4 [3,4,5,6,7] u<|uH fun x2 h2=>tU 8 u (fun h=>zXn h u underlying9 u u (.inr ⟨_, rfl⟩) (.inl ⟨rfl, rfl⟩) h2)<|
  zW 0 [9,10,11] u<|qY<|zN<|zG<|qA<|wK u (lT u (lT u (lT u lN))) kk [] d)<|jC<|jA 4 u<|zG<|wK u (lT u (lT u (lT u lN))) kk [] d
theorem zWT {qd : Prop} {y0 : qI} {y1 : qI} : qC qd prog 107 [vs y0, vs y1] [] [] (zRm y0 y1) fun r K=>K (.tuple #[vs r.1, vs r.2.1, vb r.2.2]) [] [] :=
 zX call107 func107 u fun X=>jA 3 u<|zC<|zA 2 u<|qF zMC u d<|fun r1 _ k=>k<|zA 6 u<|zB<|zG<|wK u (lT u (lT u (lT u lN))) kk [] d
theorem zSk {y0 : qI} : qC False prog 108 [vs y0] [] [Tb prog "strings.asciiSpace" .u8 Lib.asciiSpaceTab, Wt 2] (zOB y0) fun r K=>∀ p1 c1,K (sv p1 r c1) [] [Rl vO p1 c1 r] := z06 Go.Proofs.Tryz.lays157 (by kernel_rfl) (by kernel_rfl) (by kernel_rfl) call108
theorem zTD {y0 : qI} : qC False prog 62 [vs y0] [] [Tb prog "strings.asciiSpace" .u8 Lib.asciiSpaceTab, Pt (yK 4 vO) 1 0 zBD, Wt 2, Tb prog "internal/strconv.uint64pow10" .u64 Lib.pow10Tab] (zIV y0) fun r K=>∀ p1 c1 p2 c2 p3 c3,K (.tuple #[.agg (vJ r.1 p1 c1 p2 c2 p3 c3).toArray, vi r.2.1, vi r.2.2]) [] (vR r.1 p1 c1 p2 c2 p3 c3 []) :=
 zX call62 func62 u fun X=>zC<|wO .s (.agg #[.slice none 0 0, .slice none 0 0, .slice none 0 0])<|fun b1=>zA 2 u<|zB<|zD<|jA 3 u<|zJ u (zC<|zF (.agg #[.slice none 0 0, .slice none 0 0, .slice none 0 0])<|qL .s 0 u u u<|zA 2 u<|zB<|zG<|qA<|
  wK u (lC 0 (.agg #[.slice none 0 0, .slice none 0 0, .slice none 0 0]) u u (lT u (lT u lN))) (fun _ k=>k none 0 none 0 none 0) [] ⟨gn,gn,gn,d⟩)<|jC<|zC<|wO .s (.agg #[.slice none 0 0, .slice none 0 0, .slice none 0 0])<|
  fun b2=>vE xL 88<|vE yQ 92<|vE uV 105<|zB<|jA 1 u<|
  zY8 (fun s1 K=>∀ p1 c1 r_1 p2 c2 r_2 p3 c3 r_3,K [2,5] [(1, bx b2 29 [sv p1 s1.1 c1, sv p2 s1.2.1 c2, sv p3 s1.2.2 c3]), (2, r_1), (3, r_2), (4, r_3)] [3,4,5,6] [] [Al xL 88 r_1 p1 c1 s1.1, Al yQ 92 r_2 p2 c2 s1.2.1, Al uV 105 r_3 p3 c3 s1.2.2]) (
  jA 1 u<|zQ<|
  qT (fun s2 K=>∀ p4 c4 r_4 p5 c5 r_5 p6 c6 r_6,K [2,5] [(1, bx b2 29 [sv p4 s2.2.2.2.1 c4, sv p5 s2.2.2.2.2.1 c5, sv p6 s2.2.2.2.2.2 c6]), (2, r_4), (3, r_5), (4, r_6)] [3,4,5,6] [(0, vs s2.1), (6, vi s2.2.1), (7, vi s2.2.2.1)] [Al xL 88 r_4 p4 c4 s2.2.2.2.1, Al yQ 92 r_5 p5 c5 s2.2.2.2.2.1, Al uV 105 r_6 p6 c6 s2.2.2.2.2.2]) (gv (fun _ k=>k none 0 [] none 0 [] none 0 []) [0,1,2,3,4] (gq [2,1,0,3,4,5,6]))<|
  fun s2 _ k p4 c4 r_4 p5 c5 r_5 p6 c6 r_6=>k<|zD<|jA 2 u<|zJ u (jC<|zD<|zQ<|zC<|zA 1 u<|qF zWT u d<|fun r1 _ k=>k<|zA 7 u<|zB<|zC<|zA 1 u<|qF zSk u (cq [3,5])<|fun r2 _ k p7 c7=>k<|
  zF (.agg #[sv p7 r2 c7, vb false])<|qX .s u<|fun b3=>zA 1 u<|zB<|zC<|zA 1 u<|zZ .s [5, 1, 2, 3, 4] [] zPq u u u (cq [0,1,2,3,5,7])<|fun r3 _ k p8 c8 p9 c9 r_7 p10 c10 r_8 p11 c11 r_9=>k<|zA 5 u<|zB<|
  zD<|xG (fun K=>K [2,5,7,9,12] [(5, [])] [1,2,3,8,9,10,11] [(63, vb ((!r1.2.2) || (r3.2.2.2.1 || ((decide (0 < (len r3.2.2.1))) || ((!(r3.2.1 == r1.1)) || (decide (r3.1 < s2.2.1)))))))] []) (qK<|zA 3 u<|
  yA (b := !r1.2.2) 40 u (fun hb1=>zA 4 u<|zF (vb true)<|zA 7 u<|zF (vb true)<|zA 4 u<|zF (vb true)<|zA 4 u<|zF (vb true)<|zS<|
  wQ 63 (vb ((!r1.2.2) || (r3.2.2.2.1 || ((decide (0 < (len r3.2.2.1))) || ((!(r3.2.1 == r1.1)) || (decide (r3.1 < s2.2.1))))))) u (by rw [hb1]; rfl)<|zL (gv kk [0,1,2,3,4,905] (gq [1,2,3,8,9,10,11])))<|fun hb1=>zA 2 u<|
  zM 1 u<|zU 5 u u u<|zF (vb r3.2.2.2.1)<|zA 1 u<|yA (b := r3.2.2.2.1) 46 u (fun hb2=>zA 6 u<|zF (vb true)<|zA 4 u<|zF (vb true)<|zA 4 u<|zF (vb true)<|zS<|
  wQ 63 (vb ((!r1.2.2) || (r3.2.2.2.1 || ((decide (0 < (len r3.2.2.1))) || ((!(r3.2.1 == r1.1)) || (decide (r3.1 < s2.2.1))))))) u (by rw [hb1,hb2]; rfl)<|zL (gv kk [0,1,2,3,4,905] (gq [1,2,3,8,9,10,11])))<|fun hb2=>zA 2 u<|
  zM 0 u<|zU 5 u u u<|zA 2 u<|zF (vb (decide (0 < (len r3.2.2.1))))<|zA 1 u<|yA (b := decide (0 < (len r3.2.2.1))) 54 u (fun hb3=>zA 3 u<|zF (vb true)<|zA 4 u<|zF (vb true)<|zS<|
  wQ 63 (vb ((!r1.2.2) || (r3.2.2.2.1 || ((decide (0 < (len r3.2.2.1))) || ((!(r3.2.1 == r1.1)) || (decide (r3.1 < s2.2.1))))))) u (by rw [hb1,hb2,hb3]; rfl)<|zL (gv kk [0,1,2,3,4,905] (gq [1,2,3,8,9,10,11])))<|fun hb3=>
  zA 3 u<|zF (vb (!(r3.2.1 == r1.1)))<|zA 1 u<|yA (b := !(r3.2.1 == r1.1)) 59 u (fun hb4=>zA 3 u<|zF (vb true)<|zS<|
  wQ 63 (vb ((!r1.2.2) || (r3.2.2.2.1 || ((decide (0 < (len r3.2.2.1))) || ((!(r3.2.1 == r1.1)) || (decide (r3.1 < s2.2.1))))))) u (by rw [hb1,hb2,hb3,hb4]; rfl)<|zL (gv kk [0,1,2,3,4,905] (gq [1,2,3,8,9,10,11])))<|fun hb4=>
  zA 3 u<|zF (vb (decide (r3.1 < s2.2.1)))<|zS<|wQ 63 (vb ((!r1.2.2) || (r3.2.2.2.1 || ((decide (0 < (len r3.2.2.1))) || ((!(r3.2.1 == r1.1)) || (decide (r3.1 < s2.2.1))))))) u (by rw [hb1,hb2,hb3,hb4]; rfl)<|
  zL (gv kk [0,1,2,3,4,905] (gq [1,2,3,8,9,10,11])))<|fun _ k=>k<|zJ u (zC<|zF (.agg #[.slice none 0 0, .slice none 0 0, .slice none 0 0])<|zA 1 u<|qL .s 0 u u u<|zA 2 u<|zB<|zG<|qA<|qV<|qA<|wT<|qV<|wT<|
  wK u (lC 0 (.agg #[.slice none 0 0, .slice none 0 0, .slice none 0 0]) u u (lT u (lT u lN))) (fun _ k=>k none 0 none 0 none 0) [] ⟨gn,gn,gn,d⟩)<|jC<|jB 4 u<|qB<|zN<|jB 3 u<|
  qE (gv (fun _ k=>k p9 c9 r_7 p10 c10 r_8 p11 c11 r_9) [0,1,2,3,4] (gq [0,1,2,3,4,5,6])))<|qN<|qM<|qS<|qO<|qE (gv (fun _ k=>k p4 c4 r_4 p5 c5 r_5 p6 c6 r_6) [0,1,2,3,4] (gq [0,1,2,3,4,5,6])))<|fun s1 _ k p1 c1 r_1 p2 c2 r_2 p3 c3 r_3=>
  k<|zD<|zC<|qU 1 3 u u u<|zZ .s [] [2, 3, 4] zLc u u u ⟨cl 2 0,cl 3 1,cl 4 2,d⟩<|fun r4 _ k=>k<|zA 1 u<|zB<|jA 2 u<|zJ u (zC<|zF (.agg #[.slice none 0 0, .slice none 0 0, .slice none 0 0])<|
  zA 1 u<|qL .s 0 u u u<|zA 2 u<|zB<|zG<|qA<|wK u (lC 0 (.agg #[.slice none 0 0, .slice none 0 0, .slice none 0 0]) u u (lT u (lT u lN))) (fun _ k=>k none 0 none 0 none 0) [] ⟨gn,gn,gn,d⟩)<|jC<|zC<|
  qU 1 3 u u u<|qL .s 0 u u u<|zA 2 u<|zB<|zG<|wW 2 0 u u<|wW 3 2 u u<|wW 4 4 u u<|
  wK u (lC 0 (.agg #[sv p1 s1.1 c1, sv p2 s1.2.1 c2, sv p3 s1.2.2 c3]) u u (lT u (lT u lN))) (fun _ k=>k p1 c1 p2 c2 p3 c3) [] (gq [2,1,0])
theorem zPH {y0 : qI} : qC False prog 24 [vs y0] [] [Tb prog "strings.asciiSpace" .u8 Lib.asciiSpaceTab, Pt (yK 4 vO) 1 0 zBD, Wt 2, Tb prog "internal/strconv.uint64pow10" .u64 Lib.pow10Tab] (zIm y0) fun r K=>∀ p1 c1 p2 c2 p3 c3,K (.agg (vJ r p1 c1 p2 c2 p3 c3).toArray) [] (vR r p1 c1 p2 c2 p3 c3 []) :=
 zX call24 func24 u fun X=>zC<|wO .s (.agg #[.slice none 0 0, .slice none 0 0, .slice none 0 0])<|fun b1=>zB<|zC<|zA 1 u<|qF zTD u (cq [0,1,2,3])<|fun r1 _ k p1 c1 p2 c2 p3 c3=>k<|zA 4 u<|
  wO .s (.agg #[.slice none 0 0, .slice none 0 0, .slice none 0 0])<|fun b2=>qL .s 1 u u u<|zA 2 u<|zB<|zC<|qU 1 3 u u u<|qL .s 0 u u u<|zB<|zG<|
  wK u (lC 0 (.agg (vJ r1.1 p1 c1 p2 c2 p3 c3).toArray) u u lN) (fun _ k=>k p1 c1 p2 c2 p3 c3) [] (gq [0,1,2])
theorem zQy : qC False prog 7 [] [] [Tb prog "strings.asciiSpace" .u8 Lib.asciiSpaceTab, Pt (yK 4 vO) 1 0 zBD, Wt 2, Pt (yK 64 (zH .u8)) 4 0 yY, Tb prog "internal/strconv.uint64pow10" .u64 Lib.pow10Tab] (zED) fun r K=>K (vb r) [] [] :=
 zX call7 func7 u fun X=>jA 1 u<|zC<|zF (.agg #[vi 1, vi 1])<|wO .s (.agg #[vi 0, vi 0])<|fun b1=>qL .s 0 u u u<|zB<|yC [] [0] 8<|vM 1 0 2 u u u u<|qH 0<|zZ (.f u) [] [] zPH u u u (cq [0,1,2,4])<|
  fun r1 _ k p1 c1 p2 c2 p3 c3=>k<|qD<|qH 2<|zZ (.f u) [] [] zKi u u u (cq [0,1,2,6])<|fun r2 _ k p4 c4=>k<|qD<|zW 0 [3,4,5,6,7] u<|qY<|zN<|yC [] [0] 8<|vM 1 0 2 u u u u<|qH 0<|
  zZ (.f u) [] [] zPH u u u (cq [4,5,6,8])<|fun r3 _ k p5 c5 p6 c6 p7 c7=>k<|qD<|qH 2<|zZ (.f u) [] [] zKi u u u (cq [0,1,2,10])<|fun r4 _ k p8 c8=>k<|qD<|zW 0 [3,4,5,6,7] u<|qY<|zN<|
  yC [] [0] 8<|vM 1 0 2 u u u u<|qH 0<|zZ (.f u) [] [] zPH u u u (cq [8,9,10,12])<|fun r5 _ k p9 c9 p10 c10 p11 c11=>k<|qD<|qH 2<|zZ (.f u) [] [] zKi u u u (cq [0,1,2,14])<|
  fun r6 _ k p12 c12=>k<|qD<|zW 0 [3,4,5,6,7] u<|qY<|zN<|wL (fun s1 K=>K [] [(0, [])] [12,13,14,15,16] [(0, vb s1)] []) (qK<|zA 2 u<|wJ 28 u (zA 3 u<|zF (vb ((len r2.1) == 1))<|zA 1 u<|wJ 33 u (zA 1 u<|
  qQ 8 u u u<|fun x1 b2 o1=>qP true yU (gk 0) u<|zF (.agg #[vb true, vs [112]])<|zF (vb (x1 == (true, [112])))<|zF (vb (x1 == (true, [112])))<|zA 1 u<|wJ 40 u (zA 1 u<|zF (vb r4.2)<|zA 1 u<|wJ 43 u (
  zA 3 u<|zF (vb ((len r4.1) == 2))<|zA 1 u<|wJ 48 u (zA 1 u<|qQ 5 u u u<|fun x2 b3 o2=>qP true yU (gk 0) u<|zF (.agg #[vb true, vs [113]])<|zF (vb (x2 == (true, [113])))<|zF (vb (x2 == (true, [113])))<|
  zA 1 u<|wJ 55 u (zA 1 u<|zF (vb r6.2)<|zA 1 u<|wJ 58 u (zA 3 u<|zF (vb ((len r6.1) == 0))<|zA 1 u<|zS<|zL (gv kk [900] (gq [14,15,16,17,18])))<|zA 3 u<|zF (vb false)<|zA 1 u<|zS<|
  zL (gv kk [900] (gq [14,15,16,17,18])))<|zA 1 u<|zF (vb false)<|zA 4 u<|zF (vb false)<|zA 1 u<|zS<|zL (gv kk [900] (gq [14,15,16,17,18])))<|zA 5 u<|zF (vb false)<|zA 2 u<|zF (vb false)<|zA 4 u<|
  zF (vb false)<|zA 1 u<|zS<|zL (gv kk [900] (gq [13,14,15,16,17])))<|zA 3 u<|zF (vb false)<|zA 6 u<|zF (vb false)<|zA 2 u<|zF (vb false)<|zA 4 u<|zF (vb false)<|zA 1 u<|zS<|
  zL (gv kk [900] (gq [13,14,15,16,17])))<|zA 1 u<|zF (vb false)<|zA 4 u<|zF (vb false)<|zA 6 u<|zF (vb false)<|zA 2 u<|zF (vb false)<|zA 4 u<|zF (vb false)<|zA 1 u<|zS<|
  zL (gv kk [900] (gq [13,14,15,16,17])))<|zA 5 u<|zF (vb false)<|zA 2 u<|zF (vb false)<|zA 4 u<|zF (vb false)<|zA 6 u<|zF (vb false)<|zA 2 u<|zF (vb false)<|zA 4 u<|zF (vb false)<|zA 1 u<|zS<|
  zL (gv kk [900] (gq [12,13,14,15,16])))<|zA 3 u<|zF (vb false)<|zA 6 u<|zF (vb false)<|zA 2 u<|zF (vb false)<|zA 4 u<|zF (vb false)<|zA 6 u<|zF (vb false)<|zA 2 u<|zF (vb false)<|zA 4 u<|
  zF (vb false)<|zA 1 u<|zS<|zL (gv kk [900] (gq [12,13,14,15,16])))<|fun s1 _ k=>k<|zG<|zP u u kk [] d
theorem zTF {qd : Prop} : qC qd prog 9 [] [] [] (zKn) fun r K=>∀ p1 c1,K (sv p1 r c1) [] [Rl zRv p1 c1 r] :=
 zX call9 func9 u fun X=>jA 1 u<|zC<|zF (.agg #[vi 1, vi 1])<|zF (.agg #[vi 1, vi 2])<|zF (.agg #[vi 2, vi 1])<|zF (.agg #[vi 2, vi 2])<|
  wR .s (e := zRv) 44 [vi 1, vi 1, vi 1, vi 2, vi 2, vi 1, vi 2, vi 2] ([(1, 1), (1, 2), (2, 1), (2, 2)] : List yB) (rC (vP vI vI) (rC (vP vI vI) (rC (vP vI vI) (rC (vP vI vI) rN))))<|fun p1 c1=>zA 1 u<|zB<|zG<|
  zP u u (fun _ k=>k p1 c1) [] (gq [0])
theorem zV6 {qd : Prop} {y0 : Int} {y1 : Int} : qC qd prog 32 [vi y0, vi y1] [] [] (zLQ y0 y1) fun r K=>K (vi r) [] [] :=
 zX call32 func32 u fun X=>jA 1 u<|zD<|jA 2 u<|zJ u (jA 1 u<|zG<|qA<|zP u u kk [] d)<|jC<|zC<|zA 2 u<|uH fun x1 h1=>jv (fun h=>r_remK h u u h1)<|zA 1 u<|zB<|zD<|jA 2 u<|zJ u (jB 4 u<|zN<|jA 2 u<|zG<|
  zP u u kk [] d)<|jC<|jA 2 u<|zG<|zP u u kk [] d
theorem zOr {qd : Prop} {y0 : Int} : qC qd prog 50 [vi y0] [] [] (zEn y0) fun r K=>K (vs r) [] [] :=
 zX call50 func50 u fun X=>jA 1 u<|zC<|zA 1 u<|qF zV6 u d<|fun r1 _ k=>k<|zA 1 u<|zF (.int .u8 (IntKind.u8.wrap (zR ((97 : Int) + r1))))<|
  wR .s (e := zH .u8) 5 [.int .u8 (IntKind.u8.wrap (zR ((97 : Int) + r1)))] ([IntKind.u8.wrap (zR ((97 : Int) + r1))] : List Int) (rC vI rN)<|fun p1 c1=>jsb .s (gk 0) u underlying150 underlying5 underlying9<|uH fun x1 h1=>
  jv (fun h=>zVC h u u h1)<|zA 1 u<|zB<|zG<|zP u u kk [] d
theorem zUc {qd : Prop} {y0 : uQ} : qC qd prog 33 [pt b1 0] [bx b1 65 (zHl y0 p1 c1)] (zHg y0 p1 c1 []) (zKI y0) fun r K=>K (vi r.1) [bx b1 65 [sv p1 y0.1 c1, vi r.2]] [] :=
 zX call33 func33 u fun X=>jA 1 u<|zD<|yC [] [0] 10<|zW 8 [0,1] u<|qR 2 1 u u<|wI 3 0 u u u u<|zW 4 [4,5] u<|qR 6 0 u u<|wI 7 0 u u u u<|zW 0 [8,9] u<|qY<|zN<|zJ u (jA 1 u<|zG<|qA<|zP u u kk [0] d)<|
  jC<|zC<|zA 2 u<|zM 1 u<|zU 0 u u u<|zA 2 u<|zM 1 u<|qL .s 0 u u u<|zB<|yC [] [0] 12<|zW 10 [0,1] u<|qR 2 0 u u<|wI 3 0 u u u u<|zW 6 [4,5] u<|qR 6 1 u u<|wI 7 0 u u u u<|
  zW 3 [8] u<|yF 9 0 u u u u<|fun x1 b2 o1=>yD 10 false oI u (gk 0) u<|zW 0 [11] u<|qY<|zN<|zG<|zP u u kk [0] d
theorem zB4 {qd : Prop} {y0 : uQ} {y1 : Int} : qC qd prog 10 [pt b1 0, vi y1] [bx b1 65 (zHl y0 p1 c1)] (zHg y0 p1 c1 []) (xR y0 y1) fun r K=>K (vi r.1) [bx b1 65 [sv p1 y0.1 c1, vi r.2]] [] :=
 zX call10 func10 u fun X=>jA 1 u<|zC<|zA 1 u<|zZ .s [0] [] zUc u u u (cq [0])<|fun r1 _ k=>k<|zA 1 u<|qF zV6 u d<|fun r2 _ k=>k<|zA 1 u<|zB<|zG<|zP u u kk [0] d
theorem zGr {qd : Prop} {y0 : uQ} {y1 : Int} : qC qd prog 47 [pt b1 0, vi y1] [bx b1 65 (zHl y0 p1 c1)] (zHg y0 p1 c1 []) (zCW y0 y1) fun r K=>K (.agg #[vb r.1.1, vs r.1.2]) [bx b1 65 [sv p1 y0.1 c1, vi r.2]] [] :=
 zX call47 func47 u fun X=>zC<|wO .s (.agg #[vb false, vs []])<|fun b2=>zB<|zC<|zA 3 u<|zZ .s [0] [] zB4 u u u (cq [0])<|fun r1 _ k=>k<|zA 1 u<|zB<|zC<|zA 4 u<|uH fun x1 h1=>jv (fun h=>r_quoK h u u h1)<|zA 1 u<|
  zF (.int .u8 (IntKind.u8.wrap (zR ((97 : Int) + x1))))<|wR .s (e := zH .u8) 5 [.int .u8 (IntKind.u8.wrap (zR ((97 : Int) + x1)))] ([IntKind.u8.wrap (zR ((97 : Int) + x1))] : List Int) (rC vI rN)<|fun p2 c2=>
  jsb .s (gk 0) u underlying150 underlying5 underlying9<|zF (.agg #[vb ((yE .i64 r1.1 1) == 1), vs (zTA ([IntKind.u8.wrap (zR ((97 : Int) + x1))] : List Int))])<|qL .s 1 u u u<|zB<|zG<|
  wK u (lC 1 (.agg #[vb ((yE .i64 r1.1 1) == 1), vs (zTA ([IntKind.u8.wrap (zR ((97 : Int) + x1))] : List Int))]) u u lN) kk [0] d
theorem zQ0 {qd : Prop} {y0 : uQ} {y1 : Int} {y2 : Int} : qC qd prog 52 [pt b1 0, vi y1, vi y2] [bx b1 65 (zHl y0 p1 c1)] (zHg y0 p1 c1 []) (zF6 y0 y1 y2) fun r K=>∀ p2 c2,K (sv p2 r.1 c2) [bx b1 65 [sv p1 y0.1 c1, vi r.2]] [Rl wX p2 c2 r.1] :=
 zX call52 func52 u fun X=>jA 1 u<|zC<|zA 1 u<|vE wX 62<|zB<|zD<|zC<|zA 3 u<|zZ .s [0] [] zB4 u u u (cq [1])<|fun r1 _ k=>k<|zA 1 u<|zB<|zQ<|
  qT (fun s1 K=>∀ p2 c2 r_1,K [0,2] [(0, bx b1 65 [sv p1 y0.1 c1, vi s1.2.2]), (1, r_1)] [1] [(7, sv p2 s1.1 c2), (8, vi s1.2.1)] [Al wX 62 r_1 p2 c2 s1.1]) (gv (fun _ k=>k none 0 []) [0,1] (gq [0,1]))<|fun s1 _ k p2 c2 r_1=>k<|zD<|
  jA 2 u<|zJ u (jC<|zD<|zQ<|qK<|zA 3 u<|zZ .s [0] [] zGr u u u (cq [1])<|fun r2 _ k=>k<|wR .s (e := wX) 62 [vb r2.1.1, vs r2.1.2] ([r2.1] : List zO) (rC (vP vB vS) rN)<|fun p3 c3=>
  wN .s 1 1 u (gk 0) u u<|fun x1 r_2 p4 c4=>zA 1 u<|zS<|qB<|zN<|jB 3 u<|qE (gv (fun _ k=>k p4 c4 r_2) [0,1] (gq [0,3])))<|qN<|qM<|qS<|qO<|zN<|jA 2 u<|zG<|wW 1 0 u u<|zP u u (fun _ k=>k p2 c2) [0] (gq [0])
theorem zU3 {qd : Prop} {y0 : uQ} {y1 : List Int} : qC qd prog 48 [pt b1 0, sv p2 y1 c2] [bx b1 65 (zHl y0 p1 c1)] (zHg y0 p1 c1 [Rl (zH .i64) p2 c2 y1]) (zIw y0 y1) fun r K=>K (vi r.1) [bx b1 65 [sv p1 y0.1 c1, vi r.2]] [] :=
 zX call48 func48 u fun X=>jA 1 u<|zC<|zA 4 u<|zZ .s [0] [] zB4 u u u (cq [0])<|fun r1 _ k=>k<|qQ 1 u u u<|fun x1 b2 o1=>qP false oI (gk 0) u<|zA 1 u<|zB<|zG<|zP u u kk [0] d
theorem zUG {qd : Prop} {y0 : uQ} {y1 : List qI} : qC qd prog 49 [pt b1 0, sv p2 y1 c2] [bx b1 65 (zHl y0 p1 c1)] (zHg y0 p1 c1 [Rl vO p2 c2 y1]) (zJ0 y0 y1) fun r K=>K (vs r.1) [bx b1 65 [sv p1 y0.1 c1, vi r.2]] [] :=
 zX call49 func49 u fun X=>jA 1 u<|zC<|zA 4 u<|zZ .s [0] [] zB4 u u u (cq [0])<|fun r1 _ k=>k<|qQ 1 u u u<|fun x1 b2 o1=>qP false oS (gk 0) u<|zA 1 u<|zB<|zG<|zP u u kk [0] d
theorem zVk {qd : Prop} {y0 : List zO} : qC qd prog 51 [sv p1 y0 c1] [] [Rl wX p1 c1 y0] (zLP y0) fun r K=>∀ p2 c2,K (sv p2 r c2) [] [Rl wX p2 c2 r] :=
 zX call51 func51 u fun X=>jA 1 u<|zC<|zA 1 u<|vE wX 62<|zB<|zD<|jA 3 u<|zQ<|qT (fun s1 K=>∀ p2 c2 r_1,K [7,8] [(0, r_1)] [1] [(3, sv p2 s1.1 c2), (9, vi s1.2)] [Al wX 62 r_1 p2 c2 s1.1]) (gv (fun _ k=>k none 0 []) [0] (gq [0,1]))<|
  fun s1 _ k p2 c2 r_1=>k<|jA 1 u<|zD<|zJ u (jC<|zD<|zQ<|zC<|qQ 1 u u u<|fun x1 b1 o1=>qP true yU (gk 0) u<|wO .s (.agg #[vb false, vs []])<|fun b2=>qL .s 1 u u u<|zB<|jA 1 u<|
  wL (fun s2 K=>K [3,5,7,8,9] [] [1,2] [(6, vi s2)] []) (zQ<|qT (fun s3 K=>K [3,5,7,8,9] [] [1,2] [(6, vi s3)] []) (gv kk [0,1] (gq [1,2]))<|fun s3 _ k=>k<|zD<|wL (fun s4 K=>K [3,5,6,7,8,9] [] [0,1] [(48, vb s4)] []) (
  uO [] [0, 1] 36<|zW 31 [0,1,2,3,4] u<|wJ 17 u (zW 29 [5,6] u<|jdI 7 0 u u u u<|fun x2 h1 b3 hp1=>qR 8 1 u u<|tJ 9 0 0 sI.snd false oS u u hp1 h1 u<|qR 10 1 u u<|wI 11 1 u u u u<|
  zW 22 [12,13] u<|wJ 26 u (zW 2 [14,15,16,17,18,19,20,21,22,23,24,25,26,27,28,29,30,31,32,33] u<|wP 34 (vb true) u<|wP 35 (vb true) u<|qY<|zL (gv kk [0,1] (gq [0,1])))<|zW 20 [14,15] u<|
  jdI 16 0 u u u u<|fun x3 h2 b4 hp2=>qR 17 1 u u<|tJ 18 0 0 sI.snd false oS u u hp2 h2 u<|qR 19 1 u u<|wI 20 1 u u u u<|zW 13 [21,22] u<|wJ 35 u (zW 11 [23,24] u<|jdI 25 0 u u u u<|
  fun x4 h3 b5 hp3=>qR 26 0 u u<|tJ 27 0 0 sI.fst false oB u u hp3 h3 u<|zW 7 [28] u<|wP 29 (vb (!x4.1)) u<|zW 5 [30] u<|wJ 43 u (qR 31 0 u u<|wI 32 1 u u u u<|wP 33 (vb x1.1) u<|wP 34 (vb x1.1) u<|
  wP 35 (vb x1.1) u<|qY<|zL (gv kk [0,1] (gq [0,1])))<|zW 3 [31,32] u<|wP 33 (vb false) u<|wP 34 (vb false) u<|wP 35 (vb false) u<|qY<|zL (gv kk [0,1] (gq [0,1])))<|zW 7 [23,24,25,26,27,28] u<|
  wP 29 (vb false) u<|zW 3 [30,31,32] u<|wP 33 (vb false) u<|wP 34 (vb false) u<|wP 35 (vb false) u<|qY<|zL (gv kk [0,1] (gq [0,1])))<|
  zW 1 [5,6,7,8,9,10,11,12,13,14,15,16,17,18,19,20,21,22,23,24,25,26,27,28,29,30,31,32,33,34] u<|wP 35 (vb false) u<|qY<|zL (gv kk [0,1] (gq [0,1])))<|fun s4 _ k=>k<|zJ u (jC<|zQ<|jB 3 u<|qB<|
  qE (gv kk [0,1] (gq [0,1])))<|qN<|qM<|qS<|qO<|zL (gv kk [0,1] (gq [0,1])))<|fun s2 _ k=>k<|zD<|wL (fun s5 K=>K [3,5,6,7,8,9] [] [0,1] [(62, vb s5)] []) (uO [] [0, 1] 12<|zW 7 [0,1,2,3,4] u<|wJ 55 u (
  zW 5 [5,6] u<|jdI 7 0 u u u u<|fun x5 h4 b6 hp4=>tJ 8 0 0 sI true yU u u hp4 h4 u<|vM 9 1 2 u u u u<|wP 10 (vb (x5 == x1)) u<|wP 11 (vb (x5 == x1)) u<|qY<|zL (gv kk [0,1] (gq [0,1])))<|
  zW 1 [5,6,7,8,9,10] u<|wP 11 (vb false) u<|qY<|zL (gv kk [0,1] (gq [0,1])))<|fun s5 _ k=>k<|zJ u (qN<|qM<|qO<|zN<|jB 2 u<|qE (gv (fun _ k=>k p2 c2 r_1) [0] (gq [0,1])))<|jC<|zC<|zA 1 u<|
  zF (.agg #[vb false, vs []])<|wR .s (e := wX) 62 [vb false, vs []] ([(false, [])] : List zO) (rC (vP vB vS) rN)<|fun p3 c3=>wN .s 0 1 u (gk 0) u u<|fun x6 r_2 p4 c4=>zA 1 u<|zB<|yC [] [] 8<|zW 5 [0,1,2] u<|
  jdV 3 0 u u u u<|fun u1 p5 c5 f1=>zW 2 [4,5] u<|jdV 6 0 u u u u<|fun u2 p6 c6 f2=>qH 7<|jcp (.f u) 0 0 u (vwV f1) (srV 0 0 f2 u) u u<|fun r_3=>qD<|qY<|zN<|qK<|zA 2 u<|qU 1 2 u u u<|
  xE 0 u u u<|fun x7 h6 b7 hp5=>jsA .s 0 0 sI x1 true u hp5 h6 u u (vP vB vS)<|fun r_4=>zS<|qB<|zN<|jB 2 u<|jrE 0 3 u u<|qE (gv (fun _ k=>k p4 c4 r_4) [0] (gq [0,6])))<|qN<|qM<|qS<|qO<|zN<|jA 2 u<|zG<|
  wW 0 0 u u<|zP u u (fun _ k=>k p2 c2) [] (gq [0])
theorem zTc {qd : Prop} {y0 : uQ} {y1 : Int} {y2 : Int} {y3 : Int} : qC qd prog 19 [pt b1 0, vi y1, vi y2, vi y3] [bx b1 65 (zHl y0 p1 c1)] (zHg y0 p1 c1 []) (zJO y0 y1 y2 y3) fun r K=>∀ p2 c2 p3 c3 p4 c4,K (.agg (vJ r.1 p2 c2 p3 c3 p4 c4).toArray) [bx b1 65 [sv p1 y0.1 c1, vi r.2]] (vR r.1 p2 c2 p3 c3 p4 c4 []) :=
 zX call19 func19 u fun X=>zC<|wO .s (.agg #[.slice none 0 0, .slice none 0 0, .slice none 0 0])<|fun b2=>zB<|zC<|wO .s (.agg #[.slice none 0 0, .slice none 0 0, .slice none 0 0])<|fun b3=>vE xL 88<|vE yQ 92<|vE uV 105<|zB<|
  wL (fun s1 K=>∀ p2 c2 r_1,K [0,1,3,8,9] [(0, bx b1 65 [sv p1 y0.1 c1, vi s1.1]), (2, bx b3 29 [sv p2 s1.2 c2, sv none ([] : List wC) 0, sv none ([] : List vG) 0]), (3, r_1)] [3,1,0] [] [Al xL 88 r_1 p2 c2 s1.2]) (zC<|
  zA 3 u<|zZ .s [0] [] zB4 u u u (cq [3])<|fun r1 _ k=>k<|zA 1 u<|zB<|zQ<|
  qT (fun s2 K=>∀ p3 c3 r_2,K [0,1,3,8,9] [(0, bx b1 65 [sv p1 y0.1 c1, vi s2.2.1]), (2, bx b3 29 [sv p3 s2.2.2 c3, sv none ([] : List wC) 0, sv none ([] : List vG) 0]), (3, r_2)] [3,1,0] [(10, vi s2.1)] [Al xL 88 r_2 p3 c3 s2.2.2]) (gv (fun _ k=>k none 0 []) [0,1,2,3,4,5] (gq [2,3,1,0]))<|
  fun s2 _ k p3 c3 r_2=>k<|zD<|jA 2 u<|zJ u (jC<|zD<|zQ<|zC<|zA 2 u<|zZ .s [0] [] zGr u u u (cq [1])<|fun r2 _ k=>k<|zA 1 u<|
  wR .s (e := zH .i64) 3 [vi 1, vi 2, vi 2, vi 2, vi 3] ([1, 2, 2, 2, 3] : List Int) (rC vI (rC vI (rC vI (rC vI (rC vI rN)))))<|fun p4 c4=>zZ .s [0] [] zU3 u u u (cq [2,0])<|fun r3 _ k=>k<|zA 1 u<|
  wR .s (e := vO) 9 [vs [], vs [], vs [97, 110, 110], vs [98, 111, 98]] ([[], [], [97, 110, 110], [98, 111, 98]] : List qI) (rC vS (rC vS (rC vS (rC vS rN))))<|fun p5 c5=>zZ .s [0] [] zUG u u u (cq [3,0])<|fun r4 _ k=>
  k<|zF (.agg #[vb r2.1.1, vs r2.1.2, vi r3.1, vi 0, vs r4.1])<|wO .s (.agg #[vb false, vs [], vi 0, vi 0, vs []])<|fun b4=>qL .s 6 u u u<|zB<|
  wL (fun s3 K=>K [0,1,3,8,9,10,11] [(0, bx b1 65 [sv p1 y0.1 c1, vi s3.1]), (6, bx b4 88 [vb r2.1.1, vs r2.1.2, vi r3.1, vi s3.2, vs r4.1])] [3,2,4,5] [] []) (zC<|zM 2 u<|zU 6 u u u<|zA 1 u<|zB<|zJ u (qK<|zA 1 u<|
  zZ .s [0] [] zB4 u u u (cq [3])<|fun r5 _ k=>k<|zM 3 u<|qL .s 6 u u u<|zS<|zL (gv kk [0,1,2,3,4,5,6] (gq [3,2,4,5])))<|wD<|zL (gv kk [0,1,2,3,4,5,6] (gq [3,2,4,5])))<|fun s3 _ k=>k<|
  jA 1 u<|wL (fun s4 K=>K [0,1,3,8,9,10,11] [] [0,1,2,3] [(12, vb s4)] []) (zC<|zM 0 u<|zU 2 u u u<|zA 2 u<|zB<|zQ<|
  qT (fun s5 K=>K [0,1,3,8,9,10,11,44,45] [] [1,0,2,3] [(12, vb s5.1), (46, vi s5.2)] []) (gv kk [0,1,2,3,4,5,6] (gq [1,0,2,3]))<|fun s5 _ k=>k<|jA 1 u<|zD<|zJ u (jC<|zD<|zQ<|zC<|xE 0 u u u<|fun x1 h1 b5 hp1=>
  jlA 3 0 sI true zMt u hp1 h1 u<|wO .s (.agg #[vb false, vs [], vi 0, vi 0, vs []])<|fun b6=>qL .s 7 u u u<|zB<|jjqK (fun K=>K [0,1,3,8,9,10,11,44,45,46] [(7, [])] [0,1,2,3] [(12, vb (s5.1 || (x1.1 == r2.1)))] []) (qK<|
  zA 2 u<|yA (b := s5.1) 51 u (fun hb1=>zA 5 u<|zF (vb true)<|zA 1 u<|zS<|wQ 12 (vb (s5.1 || (x1.1 == r2.1))) u (by rw [hb1]; rfl)<|zL (gv kk [0,1,2,3,4,5,6,907] (gq [0,1,2,3])))<|fun hb1=>zM 0 u<|
  qU 7 2 u u u<|zM 0 u<|qU 6 2 u u u<|zF (vb (x1.1 == r2.1))<|zF (vb (x1.1 == r2.1))<|zA 1 u<|zS<|wQ 12 (vb (s5.1 || (x1.1 == r2.1))) u (by rw [hb1]; rfl)<|zL (gv kk [0,1,2,3,4,5,6,907] (gq [0,1,2,3])))<|
  fun _ k=>k<|qB<|zN<|jB 2 u<|qE (gv kk [0,1,2,3,4,5,6] (gq [0,1,2,3])))<|qN<|qM<|qS<|qO<|zL (gv kk [0,1,2,3,4,5,6] (gq [1,0,2,3])))<|fun s4 _ k=>k<|jA 2 u<|zJ u (qK<|zM 0 u<|zU 2 u u u<|
  qU 6 5 u u u<|wR .s (e := xL) 88 [vb r2.1.1, vs r2.1.2, vi r3.1, vi s3.2, vs r4.1] ([(r2.1, r3.1, s3.2, r4.1)] : List vU) (rC (vP (vP vB vS) (vP vI (vP vI vS))) rN)<|fun p6 c6=>wN .s 3 2 u (gk 0) u u<|
  fun x2 r_3 p7 c7=>zM 0 u<|qL .s 2 u u u<|zS<|qB<|zN<|jB 3 u<|qE (gv (fun _ k=>k p7 c7 r_3) [0,1,2,3,4,5] (gq [0,2,4,5])))<|wD<|qB<|zN<|jB 3 u<|qE (gv (fun _ k=>k p3 c3 r_2) [0,1,2,3,4,5] (gq [1,0,2,3])))<|qN<|qM<|
  qS<|qO<|zL (gv (fun _ k=>k p3 c3 r_2) [0,1,2,3,4,5] (gq [0,1,2,3])))<|fun s1 _ k p2 c2 r_1=>k<|
  wL (fun s6 K=>∀ p8 c8 r_4,K [0,1,8,9] [(0, bx b1 65 [sv p1 y0.1 c1, vi s6.1]), (2, bx b3 29 [sv p2 s1.2 c2, sv p8 s6.2 c8, sv none ([] : List vG) 0]), (4, r_4)] [1,0,3] [] [Al yQ 92 r_4 p8 c8 s6.2]) (zC<|zA 3 u<|
  zZ .s [0] [] zB4 u u u (cq [1])<|fun r6 _ k=>k<|zA 1 u<|zB<|zQ<|
  qT (fun s7 K=>∀ p9 c9 r_5,K [0,1,3,8,9] [(0, bx b1 65 [sv p1 y0.1 c1, vi s7.2.1]), (2, bx b3 29 [sv p2 s1.2 c2, sv p9 s7.2.2 c9, sv none ([] : List vG) 0]), (4, r_5)] [1,0,3] [(15, vi s7.1)] [Al yQ 92 r_5 p9 c9 s7.2.2]) (gv (fun _ k=>k none 0 []) [0,1,2,3,4,5] (gq [2,1,0,3]))<|
  fun s7 _ k p9 c9 r_5=>k<|zD<|jA 2 u<|zJ u (jC<|zD<|zQ<|zC<|zM 1 u<|zU 2 u u u<|zA 1 u<|qF zOr u d<|fun r7 _ k=>k<|zA 1 u<|zZ .s [0] [] zB4 u u u (cq [1])<|fun r8 _ k=>k<|zA 3 u<|
  zZ .s [0] [] zQ0 u u u (cq [1])<|fun r9 _ k p10 c10=>k<|qF zVk u (cq [0])<|fun r10 _ k p11 c11=>k<|zA 2 u<|zZ .s [0] [] zGr u u u (cq [3])<|fun r11 _ k=>k<|
  zF (.agg #[vs r7, vb (r8.1 == 0), vi 0, sv p11 r10 c11, vb r11.1.1, vs r11.1.2])<|wO .s (.agg #[vs [], vb false, vi 0, .slice none 0 0, vb false, vs []])<|fun b7=>qL .s 6 u u u<|zB<|
  wL (fun s8 K=>K [0,1,3,8,9,15,16] [(0, bx b1 65 [sv p1 y0.1 c1, vi s8.1]), (6, bx b7 92 [vs r7, vb (r8.1 == 0), vi s8.2, sv p11 r10 c11, vb r11.1.1, vs r11.1.2])] [3,4,2,5,0] [] []) (zC<|zM 1 u<|zU 6 u u u<|zA 1 u<|zB<|
  zJ u (qK<|zA 1 u<|zZ .s [0] [] zB4 u u u (cq [3])<|fun r12 _ k=>k<|zM 2 u<|qL .s 6 u u u<|zS<|zL (gv kk [0,1,2,3,4,5,6] (gq [3,4,2,5,0])))<|wD<|
  zL (gv kk [0,1,2,3,4,5,6] (gq [3,4,2,5,0])))<|fun s8 _ k=>k<|
  wL (fun s9 K=>K [0,1,3,8,9,15,16] [(0, bx b1 65 [sv p1 y0.1 c1, vi s9.1]), (6, bx b7 92 [vs r7, vb (r8.1 == 0), vi s8.2, sv p11 r10 c11, vb s9.2.1, vs s9.2.2])] [0,1,2,3,4] [] []) (zC<|zA 1 u<|
  zZ .s [0] [] zB4 u u u (cq [0])<|fun r13 _ k=>k<|zA 1 u<|zB<|zJ u (qK<|zA 1 u<|zZ .s [0] [] zB4 u u u (cq [0])<|fun r14 _ k=>k<|zA 3 u<|zZ .s [0] [] zB4 u u u (cq [0])<|
  fun r15 _ k=>k<|qF zOr u d<|fun r16 _ k=>k<|zF (.agg #[vb (decide (0 < r14.1)), vs r16])<|zM 4 u<|qL .s 6 u u u<|zS<|zL (gv kk [0,1,2,3,4,5,6] (gq [0,1,2,3,4])))<|wD<|
  zL (gv kk [0,1,2,3,4,5,6] (gq [0,1,2,3,4])))<|fun s9 _ k=>k<|qK<|zM 1 u<|zU 2 u u u<|qU 6 6 u u u<|
  wR .s (e := yQ) 92 [vs r7, vb (r8.1 == 0), vi s8.2, sv p11 r10 c11, vb s9.2.1, vs s9.2.2] ([(r7, r8.1 == 0, s8.2, r10, (s9.2.1, s9.2.2))] : List wC) (rC (vP vS (vP vB (vP vI (vP (vL (gk 4)) (vP vB vS))))) rN)<|fun p12 c12=>
  wN .s 4 3 u (gk 0) u u<|fun x3 r_6 p13 c13=>zM 1 u<|qL .s 2 u u u<|zS<|qB<|zN<|jB 3 u<|qE (gv (fun _ k=>k p13 c13 r_6) [0,1,2,3,4,5] (gq [0,2,3,5])))<|qN<|qM<|qS<|qO<|
  zL (gv (fun _ k=>k p9 c9 r_5) [0,1,2,3,4,5] (gq [0,1,2,3])))<|fun s6 _ k p8 c8 r_4=>k<|
  wL (fun s10 K=>∀ p14 c14 r_7,K [8,9] [(0, bx b1 65 [sv p1 y0.1 c1, vi s10.1]), (2, bx b3 29 [sv p2 s1.2 c2, sv p8 s6.2 c8, sv p14 s10.2 c14]), (5, r_7)] [1,2,0] [] [Al uV 105 r_7 p14 c14 s10.2]) (zC<|zA 1 u<|
  zZ .s [0] [] zB4 u u u (cq [1])<|fun r17 _ k=>k<|zA 1 u<|zB<|zQ<|
  qT (fun s11 K=>∀ p15 c15 r_8,K [0,1,8,9] [(0, bx b1 65 [sv p1 y0.1 c1, vi s11.2.1]), (2, bx b3 29 [sv p2 s1.2 c2, sv p8 s6.2 c8, sv p15 s11.2.2 c15]), (5, r_8)] [1,2,0] [(17, vi s11.1)] [Al uV 105 r_8 p15 c15 s11.2.2]) (gv (fun _ k=>k none 0 []) [0,1,2,3,4,5] (gq [3,1,2,0]))<|
  fun s11 _ k p15 c15 r_8=>k<|zD<|xG (fun K=>K [0,1,8,9,17] [] [1,2,3,0] [(123, vb ((decide (0 < s11.1)) && (decide (0 < (len s6.2)))))] []) (qK<|zA 3 u<|yA (b := decide (0 < s11.1)) 118 u (fun hb2=>zM 1 u<|zU 2 u u u<|
  zA 2 u<|zF (vb (decide (0 < (len s6.2))))<|zS<|wQ 123 (vb ((decide (0 < s11.1)) && (decide (0 < (len s6.2))))) u (by rw [hb2]; rfl)<|zL (gv kk [0,1,2,3,4,5] (gq [1,2,3,0])))<|fun hb2=>zA 4 u<|zF (vb false)<|zS<|
  wQ 123 (vb ((decide (0 < s11.1)) && (decide (0 < (len s6.2))))) u (by rw [hb2]; rfl)<|zL (gv kk [0,1,2,3,4,5] (gq [1,2,3,0])))<|fun _ k=>k<|zJ u (jC<|zD<|zQ<|
  wL (fun s12 K=>∀ b8 p16 c16,K [0,1,8,9,17] [(0, bx b1 65 [sv p1 y0.1 c1, vi s12.1]), (6, bx b8 92 (zSe s12.2 p16 c16))] [0,1,2,3] [(18, pt b8 0)] (zVU s12.2 p16 c16 [])) (uO [] [2, 4] 11<|qR 0 1 u u<|wI 1 2 u u u u<|
  zW 8 [2] u<|qR 3 1 u u<|wI 4 2 u u u u<|zW 5 [5] u<|jd2 6 9 (zZ (.f u) [0] [] zB4 u u u (cq [0])<|fun r18 _ k=>k<|qD<|jdI 7 2 u u u u<|fun x4 h4 b9 hp2=>
  tJ 8 4 2 sI true zQF u u hp2 h4 u<|fun p17 c17=>qH 9<|wO (.f u) (.agg #[vs [], vb false, vi 0, .slice none 0 0, vb false, vs []])<|fun b10=>qD<|qH 10<|qL (o := 0) (.f u) 6 u u u<|qD<|qY<|
  zL (gv (fun _ k=>k b10 p17 c17) [0,1,2,3,4,5,6] (gq [0,1,2,3,4]))) <|wO (.f u) (.agg #[vs [], vb false, vi 0, .slice none 0 0, vb false, vs []])<|fun b11=>qD<|qH 6<|zZ (.f u) [0] [] zB4 u u u (cq [0])<|fun r19 _ k=>
  k<|qD<|jdI 7 2 u u u u<|fun x5 h5 b12 hp3=>tJ 8 4 2 sI true zQF u u hp3 h5 u<|fun p18 c18=>qH 10<|qL (o := 0) (.f u) 6 u u u<|qD<|qY<|zL (gv (fun _ k=>k b11 p18 c18) [0,1,2,3,4,5,6] (gq [0,1,2,3,4])))<|
  fun s12 _ k b8 p16 c16=>k<|zC<|zM 1 u<|zU 6 u u u<|zA 1 u<|zB<|zJ u (uO [13] [2, 6] 14<|qR 0 2 u u<|wI 1 2 u u u u<|qR 2 0 u u<|wI 3 6 u u u u<|zW 7 [4,6,7] u<|qH 5<|
  zZ (.f u) [0] [] zB4 u u u (cq [1])<|fun r20 _ k=>k<|qD<|qH 8<|zZ (.f u) [0] [] zGr u u u (cq [1])<|fun r21 _ k=>k<|qD<|wP 9 (.agg #[vs s12.2.1, vi r20.1, vb r21.1.1, vs r21.1.2]) u<|qH 10<|
  wR (.f u) (e := uV) 105 [vs s12.2.1, vi r20.1, vb r21.1.1, vs r21.1.2] ([(s12.2.1, r20.1, r21.1)] : List vG) (rC (vP vS (vP vI (vP vB vS))) rN)<|fun p19 c19=>qD<|qH 11<|wN (.f u) 5 5 u (gk 0) u u<|
  fun x6 r_9 p20 c20=>qD<|qR 12 2 u u<|qH 13<|qL (o := 2) (.f u) 2 u u u<|jdb [] [2, 6]<|qY<|qB<|zN<|jB 3 u<|qE (gv (fun _ k=>k p20 c20 r_9) [0,1,2,3,4,5] (gq [0,3,4,5])))<|wD<|qB<|zN<|jB 3 u<|
  qE (gv (fun _ k=>k p15 c15 r_8) [0,1,2,3,4,5] (gq [4,1,2,3])))<|qN<|qM<|qS<|qO<|zL (gv (fun _ k=>k p15 c15 r_8) [0,1,2,3,4,5] (gq [3,0,1,2])))<|fun s10 _ k p14 c14 r_7=>k<|zC<|qU 2 3 u u u<|qL .s 1 u u u<|zB<|zG<|
  wW 3 2 u u<|wW 4 4 u u<|wW 5 2 u u<|wK u (lC 1 (.agg #[sv p2 s1.2 c2, sv p8 s6.2 c8, sv p14 s10.2 c14]) u u lN) (fun _ k=>k p2 c2 p8 c8 p14 c14) [0] (gq [2,1,0])
theorem zL3 {qd : Prop} {y0 : List zO} {y1 : zO} : qC qd prog 18 [sv p1 y0 c1, .agg #[vb y1.1, vs y1.2]] [] [Rl wX p1 c1 y0] (zHS y0 y1) fun r K=>K (vb r) [] [] :=
 zX call18 func18 u fun X=>zC<|qX .s u<|fun b1=>zA 1 u<|zB<|zD<|jA 1 u<|zQ<|qT (fun s1 K=>K [0,3] [] [0] [(5, vi s1)] []) (gv kk [0] (gq [0]))<|fun s1 _ k=>k<|zD<|jA 4 u<|zJ u (jC<|zD<|zQ<|yC [] [0] 6<|zW 4 [0,1] u<|
  yF 2 0 u u u u<|fun x1 b2 o1=>yD 3 true yU u (gk 0) u<|vM 4 0 2 u u u u<|wP 5 (vb (x1 == y1)) u<|qY<|zN<|zJ u (jA 1 u<|zG<|qV<|qA<|wT<|qV<|qA<|zP u u kk [] d)<|wD<|qB<|zN<|
  jB 3 u<|qE (gv kk [0] (gq [1])))<|qN<|qM<|qS<|qO<|zN<|jA 1 u<|zG<|zP u u kk [] d
theorem zX8 {qd : Prop} {y0 : zT} : qC qd prog 54 [.agg (vJ y0 p1 c1 p2 c2 p3 c3).toArray] [] (vR y0 p1 c1 p2 c2 p3 c3 []) (zMR y0) fun r K=>∀ p4 c4 p5 c5 r_1 p6 c6,K (.agg #[sv p4 r.1 c4, sv p5 r.2.1 c5, sv p6 r.2.2 c6]) [r_1] [Rl xL p4 c4 r.1, Al yQ 92 r_1 p5 c5 r.2.1, Rl uV p6 c6 r.2.2] :=
 zX call54 func54 u fun X=>zC<|qX .s u<|fun b1=>wO .s (.agg #[.slice none 0 0, .slice none 0 0, .slice none 0 0])<|fun b2=>zB<|
  wL (fun s1 K=>∀ b3 p4 c4 r_1 p5 c5 r_2 p6 c6 r_3,K [1,2] [(2, bx b3 29 [sv p4 s1.1 c4, sv p5 s1.2.1 c5, sv p6 s1.2.2 c6]), (3, r_1), (4, r_2), (5, r_3)] [0,1,2] [(3, pt b3 0)] [Al xL 88 r_1 p4 c4 s1.1, Al yQ 92 r_2 p5 c5 s1.2.1, Al uV 105 r_3 p6 c6 s1.2.2]) (
  uO [] [0] 11<|qR 1 0 u u<|wI 2 0 u u u u<|qR 5 2 u u<|wI 6 0 u u u u<|jd3 0 4 9 (xH (.f u) (e := xL) 88 [] ([] : List vU) rN<|fun r_4 p7 c7=>qD<|jd3 3 4 9 (wN (.f u) 2 0 u (gk 1) u u<|
  fun x1 r_5 p8 c8=>qD<|jd2 4 9 (xH (.f u) (e := uV) 105 [] ([] : List vG) rN<|fun r_6 p9 c9=>qD<|jd2 7 9 (wN (.f u) 3 0 u (gk 5) u u<|fun x2 r_7 p10 c10=>qD<|
  wP 8 (.agg #[sv p8 x1 c8, .slice none 0 0, sv p10 x2 c10]) u<|vE yQ 92<|qH 9<|wO (.f u) (.agg #[.slice none 0 0, .slice none 0 0, .slice none 0 0])<|fun b4=>qD<|qH 10<|qL (o := 0) (.f u) 5 u u u<|qD<|qY<|
  zL (gv (fun _ k=>k b4 p8 c8 r_5 none 0 [] p10 c10 r_7) [0,1,5,2,4,3] (gq [3,0,1,5,6,7]))) <|wO (.f u) (.agg #[.slice none 0 0, .slice none 0 0, .slice none 0 0])<|fun b5=>qD<|qH 7<|wN (.f u) 3 0 u (gk 5) u u<|
  fun x3 r_8 p11 c11=>qD<|wP 8 (.agg #[sv p8 x1 c8, .slice none 0 0, sv p11 x3 c11]) u<|vE yQ 92<|qH 10<|qL (o := 0) (.f u) 4 u u u<|qD<|qY<|
  zL (gv (fun _ k=>k b5 p8 c8 r_5 none 0 [] p11 c11 r_8) [0,1,4,2,5,3] (gq [3,0,1,5,6,7]))) <|wO (.f u) (.agg #[.slice none 0 0, .slice none 0 0, .slice none 0 0])<|fun b6=>qD<|qH 4<|
  xH (.f u) (e := uV) 105 [] ([] : List vG) rN<|fun r_9 p12 c12=>qD<|qH 7<|wN (.f u) 4 0 u (gk 5) u u<|fun x4 r_10 p13 c13=>qD<|wP 8 (.agg #[sv p8 x1 c8, .slice none 0 0, sv p13 x4 c13]) u<|vE yQ 92<|
  qH 10<|qL (o := 0) (.f u) 3 u u u<|qD<|qY<|zL (gv (fun _ k=>k b6 p8 c8 r_5 none 0 [] p13 c13 r_10) [0,1,3,2,5,4] (gq [3,0,1,5,6,7]))) (xH (.f u) (e := uV) 105 [] ([] : List vG) rN<|fun r_11 p14 c14=>qD<|
  jd2 3 9 (wN (.f u) 2 1 u (gk 2) u u<|fun x5 r_12 p15 c15=>qD<|jd2 7 9 (wN (.f u) 3 1 u (gk 5) u u<|fun x6 r_13 p16 c16=>qD<|wP 8 (.agg #[sv p15 x5 c15, .slice none 0 0, sv p16 x6 c16]) u<|vE yQ 92<|qH 9<|
  wO (.f u) (.agg #[.slice none 0 0, .slice none 0 0, .slice none 0 0])<|fun b7=>qD<|qH 10<|qL (o := 0) (.f u) 5 u u u<|qD<|qY<|zL (gv (fun _ k=>k b7 p15 c15 r_12 none 0 [] p16 c16 r_13) [0,1,5,2,4,3] (gq [2,0,1,5,6,7]))) <|
  wO (.f u) (.agg #[.slice none 0 0, .slice none 0 0, .slice none 0 0])<|fun b8=>qD<|qH 7<|wN (.f u) 3 1 u (gk 5) u u<|fun x7 r_14 p17 c17=>qD<|wP 8 (.agg #[sv p15 x5 c15, .slice none 0 0, sv p17 x7 c17]) u<|vE yQ 92<|
  qH 10<|qL (o := 0) (.f u) 4 u u u<|qD<|qY<|zL (gv (fun _ k=>k b8 p15 c15 r_12 none 0 [] p17 c17 r_14) [0,1,4,2,5,3] (gq [2,0,1,5,6,7]))) <|wO (.f u) (.agg #[.slice none 0 0, .slice none 0 0, .slice none 0 0])<|fun b9=>qD<|
  qH 3<|wN (.f u) 2 1 u (gk 2) u u<|fun x8 r_15 p18 c18=>qD<|qH 7<|wN (.f u) 3 1 u (gk 5) u u<|fun x9 r_16 p19 c19=>qD<|wP 8 (.agg #[sv p18 x8 c18, .slice none 0 0, sv p19 x9 c19]) u<|vE yQ 92<|qH 10<|
  qL (o := 0) (.f u) 4 u u u<|qD<|qY<|zL (gv (fun _ k=>k b9 p18 c18 r_15 none 0 [] p19 c19 r_16) [0,1,4,2,5,3] (gq [2,0,1,5,6,7]))) <|wO (.f u) (.agg #[.slice none 0 0, .slice none 0 0, .slice none 0 0])<|fun b10=>qD<|jd2 3 4
  (wN (.f u) 2 0 u (gk 1) u u<|fun x10 r_17 p20 c20=>qD<|qH 4<|xH (.f u) (e := uV) 105 [] ([] : List vG) rN<|fun r_18 p21 c21=>qD<|qH 7<|wN (.f u) 4 0 u (gk 5) u u<|fun x11 r_19 p22 c22=>qD<|
  wP 8 (.agg #[sv p20 x10 c20, .slice none 0 0, sv p22 x11 c22]) u<|vE yQ 92<|qH 10<|qL (o := 0) (.f u) 3 u u u<|qD<|qY<|zL (gv (fun _ k=>k b10 p20 c20 r_17 none 0 [] p22 c22 r_19) [0,1,3,2,5,4] (gq [3,0,1,5,6,7]))) <|
  xH (.f u) (e := uV) 105 [] ([] : List vG) rN<|fun r_20 p23 c23=>qD<|qH 3<|wN (.f u) 2 1 u (gk 2) u u<|fun x12 r_21 p24 c24=>qD<|qH 7<|wN (.f u) 4 1 u (gk 5) u u<|fun x13 r_22 p25 c25=>qD<|
  wP 8 (.agg #[sv p24 x12 c24, .slice none 0 0, sv p25 x13 c25]) u<|vE yQ 92<|qH 10<|qL (o := 0) (.f u) 3 u u u<|qD<|qY<|zL (gv (fun _ k=>k b10 p24 c24 r_21 none 0 [] p25 c25 r_22) [0,1,3,2,5,4] (gq [2,0,1,5,6,7]))) (
  xH (.f u) (e := uV) 105 [] ([] : List vG) rN<|fun r_23 p26 c26=>qD<|jd2 0 9 (xH (.f u) (e := xL) 88 [] ([] : List vU) rN<|fun r_24 p27 c27=>qD<|jd2 3 9 (wN (.f u) 3 0 u (gk 2) u u<|
  fun x14 r_25 p28 c28=>qD<|jd2 7 9 (wN (.f u) 2 2 u (gk 5) u u<|fun x15 r_26 p29 c29=>qD<|wP 8 (.agg #[sv p28 x14 c28, .slice none 0 0, sv p29 x15 c29]) u<|vE yQ 92<|qH 9<|
  wO (.f u) (.agg #[.slice none 0 0, .slice none 0 0, .slice none 0 0])<|fun b11=>qD<|qH 10<|qL (o := 0) (.f u) 5 u u u<|qD<|qY<|zL (gv (fun _ k=>k b11 p28 c28 r_25 none 0 [] p29 c29 r_26) [0,1,5,3,4,2] (gq [2,0,1,5,6,7])))
  <|wO (.f u) (.agg #[.slice none 0 0, .slice none 0 0, .slice none 0 0])<|fun b12=>qD<|qH 7<|wN (.f u) 2 2 u (gk 5) u u<|fun x16 r_27 p30 c30=>qD<|wP 8 (.agg #[sv p28 x14 c28, .slice none 0 0, sv p30 x16 c30]) u<|
  vE yQ 92<|qH 10<|qL (o := 0) (.f u) 4 u u u<|qD<|qY<|zL (gv (fun _ k=>k b12 p28 c28 r_25 none 0 [] p30 c30 r_27) [0,1,4,3,5,2] (gq [2,0,1,5,6,7]))) <|
  wO (.f u) (.agg #[.slice none 0 0, .slice none 0 0, .slice none 0 0])<|fun b13=>qD<|qH 3<|wN (.f u) 3 0 u (gk 2) u u<|fun x17 r_28 p31 c31=>qD<|qH 7<|wN (.f u) 2 2 u (gk 5) u u<|fun x18 r_29 p32 c32=>qD<|
  wP 8 (.agg #[sv p31 x17 c31, .slice none 0 0, sv p32 x18 c32]) u<|vE yQ 92<|qH 10<|qL (o := 0) (.f u) 4 u u u<|qD<|qY<|zL (gv (fun _ k=>k b13 p31 c31 r_28 none 0 [] p32 c32 r_29) [0,1,4,3,5,2] (gq [2,0,1,5,6,7]))) <|
  wO (.f u) (.agg #[.slice none 0 0, .slice none 0 0, .slice none 0 0])<|fun b14=>qD<|qH 0<|xH (.f u) (e := xL) 88 [] ([] : List vU) rN<|fun r_30 p33 c33=>qD<|qH 3<|wN (.f u) 4 0 u (gk 2) u u<|
  fun x19 r_31 p34 c34=>qD<|qH 7<|wN (.f u) 2 2 u (gk 5) u u<|fun x20 r_32 p35 c35=>qD<|wP 8 (.agg #[sv p34 x19 c34, .slice none 0 0, sv p35 x20 c35]) u<|vE yQ 92<|qH 10<|qL (o := 0) (.f u) 3 u u u<|qD<|qY<|
  zL (gv (fun _ k=>k b14 p34 c34 r_31 none 0 [] p35 c35 r_32) [0,1,3,4,5,2] (gq [2,0,1,5,6,7]))) <|wO (.f u) (.agg #[.slice none 0 0, .slice none 0 0, .slice none 0 0])<|fun b15=>qD<|jd2 0 4 (
  xH (.f u) (e := xL) 88 [] ([] : List vU) rN<|fun r_33 p36 c36=>qD<|jd2 3 4 (wN (.f u) 3 0 u (gk 1) u u<|fun x21 r_34 p37 c37=>qD<|qH 4<|xH (.f u) (e := uV) 105 [] ([] : List vG) rN<|
  fun r_35 p38 c38=>qD<|qH 7<|wN (.f u) 4 0 u (gk 5) u u<|fun x22 r_36 p39 c39=>qD<|wP 8 (.agg #[sv p37 x21 c37, .slice none 0 0, sv p39 x22 c39]) u<|vE yQ 92<|qH 10<|qL (o := 0) (.f u) 2 u u u<|qD<|qY<|
  zL (gv (fun _ k=>k b15 p37 c37 r_34 none 0 [] p39 c39 r_36) [0,1,2,3,5,4] (gq [3,0,1,5,6,7]))) <|xH (.f u) (e := uV) 105 [] ([] : List vG) rN<|fun r_37 p40 c40=>qD<|qH 3<|wN (.f u) 3 1 u (gk 2) u u<|
  fun x23 r_38 p41 c41=>qD<|qH 7<|wN (.f u) 4 1 u (gk 5) u u<|fun x24 r_39 p42 c42=>qD<|wP 8 (.agg #[sv p41 x23 c41, .slice none 0 0, sv p42 x24 c42]) u<|vE yQ 92<|qH 10<|qL (o := 0) (.f u) 2 u u u<|qD<|qY<|
  zL (gv (fun _ k=>k b15 p41 c41 r_38 none 0 [] p42 c42 r_39) [0,1,2,3,5,4] (gq [2,0,1,5,6,7]))) <|xH (.f u) (e := uV) 105 [] ([] : List vG) rN<|fun r_40 p43 c43=>qD<|qH 0<|
  xH (.f u) (e := xL) 88 [] ([] : List vU) rN<|fun r_41 p44 c44=>qD<|qH 3<|wN (.f u) 4 0 u (gk 2) u u<|fun x25 r_42 p45 c45=>qD<|qH 7<|wN (.f u) 3 2 u (gk 5) u u<|fun x26 r_43 p46 c46=>qD<|
  wP 8 (.agg #[sv p45 x25 c45, .slice none 0 0, sv p46 x26 c46]) u<|vE yQ 92<|qH 10<|qL (o := 0) (.f u) 2 u u u<|qD<|qY<|zL (gv (fun _ k=>k b15 p45 c45 r_42 none 0 [] p46 c46 r_43) [0,1,2,4,5,3] (gq [2,0,1,5,6,7])))<|
  fun s1 _ k b3 p4 c4 r_1 p5 c5 r_2 p6 c6 r_3=>k<|wL (fun s2 K=>∀ p47 c47 r_44,K [2,3] [(0, []), (2, bx b3 29 [sv p4 s1.1 c4, sv p47 s2 c47, sv p6 s1.2.2 c6]), (4, r_44)] [0,2] [] [Al yQ 92 r_44 p47 c47 s2]) (jA 1 u<|zQ<|
  qT (fun s3 K=>∀ p48 c48 r_45,K [1,2,3] [(2, bx b3 29 [sv p4 s1.1 c4, sv p48 s3.2 c48, sv p6 s1.2.2 c6]), (4, r_45)] [3,4,5,0,2] [(4, vi s3.1)] [Al yQ 92 r_45 p48 c48 s3.2]) (gv (fun _ k=>k p5 c5 r_2) [0,1,2,3,4,5] (gq [1,3,4,5,0,2]))<|
  fun s3 _ k p48 c48 r_45=>k<|zD<|zC<|zA 1 u<|zM 1 u<|zU 0 u u u<|zA 2 u<|zB<|zJ u (jC<|zD<|zQ<|zC<|zM 1 u<|zU 0 u u u<|zA 1 u<|qQ 2 u u u<|fun x27 b16 o1=>qP true zQF (gk 0) u<|fun p49 c49=>
  wO .s (.agg #[vs [], vb false, vi 0, .slice none 0 0, vb false, vs []])<|fun b17=>qL .s 6 u u u<|zB<|zC<|xH .s (e := wX) 62 [] ([] : List zO) rN<|fun r_46 p50 c50=>zM 3 u<|zU 6 u u u<|
  wN .s 7 0 u (gk 1) u u<|fun x28 r_47 p51 c51=>zM 3 u<|qL .s 6 u u u<|zB<|qK<|zM 1 u<|zU 2 u u u<|qU 6 6 u u u<|wW 7 0 u u<|
  wR .s (e := yQ) 92 [vs x27.1, vb x27.2.1, vi x27.2.2.1, sv p51 x28 c51, vb x27.2.2.2.2.1, vs x27.2.2.2.2.2] ([(x27.1, x27.2.1, x27.2.2.1, x28, x27.2.2.2.2)] : List wC) (rC (vP vS (vP vB (vP vI (vP (vL (gk 0)) (vP vB vS))))) rN)<|
  fun p52 c52=>wN .s 4 6 u (gk 0) u u<|fun x29 r_48 p53 c53=>zM 1 u<|qL .s 2 u u u<|zS<|qB<|zN<|jB 3 u<|qE (gv (fun _ k=>k p53 c53 r_48) [0,1,2,3,4,5] (gq [0,8,9,10,11,12])))<|qN<|qM<|qS<|qO<|
  zL (gv (fun _ k=>k p48 c48 r_45) [900,1,2,3,4,5] (gq [0,4,5])))<|fun s2 _ k p47 c47 r_44=>k<|zC<|qU 2 3 u u u<|qL .s 1 u u u<|zB<|zG<|wW 3 1 u u<|wW 5 3 u u<|
  wK u (lC 1 (.agg #[sv p4 s1.1 c4, sv p47 s2 c47, sv p6 s1.2.2 c6]) u u lN) (fun _ k=>k p4 c4 p47 c47 r_44 p6 c6) [4] (gq [1,2,0])
theorem zUN {qd : Prop} {y0 : zT} {y1 : List zO} : qC qd prog 89 [.agg (vJ y0 p1 c1 p2 c2 p3 c3).toArray, sv p4 y1 c4] [] (vR y0 p1 c1 p2 c2 p3 c3 [Rl wX p4 c4 y1]) (zJ1 y0 y1) fun r K=>∀ p5 c5 p6 c6 p7 c7,K (.agg (vJ r p5 c5 p6 c6 p7 c7).toArray) [] (vR r p5 c5 p6 c6 p7 c7 []) :=
 zX call89 func89 u fun X=>zC<|qX .s u<|fun b1=>wO .s (.agg #[.slice none 0 0, .slice none 0 0, .slice none 0 0])<|fun b2=>zB<|zC<|qU 0 3 u u u<|qF zX8 u (cq [0,1,2])<|fun r1 _ k p5 c5 p6 c6 r_1 p7 c7=>k<|
  wO .s (.agg #[.slice none 0 0, .slice none 0 0, .slice none 0 0])<|fun b3=>qL .s 3 u u u<|zB<|
  wL (fun s1 K=>∀ p8 c8 r_2,K [4,5] [(0, []), (2, r_2), (3, bx b3 29 [sv p5 r1.1 c5, sv p8 s1 c8, sv p7 r1.2.2 c7])] [0,2] [] [Al yQ 92 r_2 p8 c8 s1]) (jA 1 u<|zQ<|
  qT (fun s2 K=>∀ p9 c9 r_3,K [1,2,4,5] [(2, r_3), (3, bx b3 29 [sv p5 r1.1 c5, sv p9 s2.2 c9, sv p7 r1.2.2 c7])] [6,3,4,5,0,2] [(6, vi s2.1)] [Al yQ 92 r_3 p9 c9 s2.2]) (gv (fun _ k=>k p6 c6 r_1) [0,1,2,3] (gq [1,6,3,4,5,0,2]))<|
  fun s2 _ k p9 c9 r_3=>k<|zD<|zC<|zA 1 u<|zM 1 u<|zU 3 u u u<|zA 2 u<|zB<|zJ u (jC<|zD<|zQ<|jA 1 u<|zQ<|
  qT (fun s3 K=>∀ p10 c10 r_4,K [1,2,4,5,6] [(2, r_4), (3, bx b3 29 [sv p5 r1.1 c5, sv p10 s3.2 c10, sv p7 r1.2.2 c7])] [1,2,3,4,5,6] [(7, vi s3.1)] [Al yQ 92 r_4 p10 c10 s3.2]) (gv (fun _ k=>k p9 c9 r_3) [0,1,2,3] (gq [0,1,2,3,4,5,6]))<|
  fun s3 _ k p10 c10 r_4=>k<|zD<|zC<|zA 1 u<|zM 2 u<|zU 0 u u u<|zA 2 u<|zB<|zJ u (jC<|zD<|zQ<|zC<|zM 2 u<|zU 0 u u u<|zA 1 u<|qQ 4 u u u<|fun x1 b4 o1=>qP true zNi (gk 0) u<|
  wO .s (.agg #[vs [], vi 0, vb false, vs []])<|fun b5=>qL .s 4 u u u<|zB<|wL (fun s4 K=>K [1,2,4,5,6,7,8] [] [2,3,4,5,6,1,7] [(53, vb s4)] []) (uO [] [2, 3, 4] 24<|qR 0 0 u u<|wI 1 4 u u u u<|qR 2 1 u u<|
  wI 3 3 u u u u<|zW 19 [4] u<|jdI 5 1 u u u u<|fun x2 h1 b6 hp1=>qR 6 0 u u<|tJ 7 2 1 sI.fst false oS u u hp1 h1 u<|zW 14 [8,9] u<|wJ 39 u (qR 10 1 u u<|wI 11 3 u u u u<|zW 11 [12] u<|
  jdI 13 1 u u u u<|fun x3 h2 b7 hp2=>qR 14 1 u u<|tJ 15 2 1 sI.snd.fst false oB u u hp2 h2 u<|zW 7 [16] u<|wP 17 (vb (!x3.2.1)) u<|zW 5 [18] u<|wJ 48 u (zW 4 [19] u<|qR 20 2 u u<|
  vM 21 4 2 u u u u<|qH 22<|zZ (.f u) [] [] zL3 u u u (cq [2])<|fun r2 _ k=>k<|qD<|wP 23 (vb r2) u<|qY<|zL (gv kk [0,1,2,3,4] (gq [2,3,4,5,6,1,7])))<|zW 1 [19,20,21,22] u<|wP 23 (vb false) u<|
  qY<|zL (gv kk [0,1,2,3,4] (gq [2,3,4,5,6,1,7])))<|zW 7 [10,11,12,13,14,15,16] u<|wP 17 (vb false) u<|zW 1 [18,19,20,21,22] u<|wP 23 (vb false) u<|qY<|zL (gv kk [0,1,2,3,4] (gq [2,3,4,5,6,1,7])))<|
  fun s4 _ k=>k<|zJ u (qK<|zM 1 u<|zU 3 u u u<|zA 1 u<|zM 1 u<|zU 4 u u u<|xE 5 u u u<|fun x4 h3 b8 hp3=>zM 2 u<|jsA .s 2 5 sI.snd.snd.fst x1.2.1 false u hp3 h3 u u vI<|fun r_5=>zS<|qB<|zN<|
  jB 3 u<|
  jbL (fun q_=>[bx b1 29 (vJ y0 p1 c1 p2 c2 p3 c3), bx b2 29 [.slice none 0 0, .slice none 0 0, .slice none 0 0], r_5, bx b3 29 [sv p5 r1.1 c5, .slice p10 q_ c10, sv p7 r1.2.2 c7], bx b5 105 [vs x1.1, vi x1.2.1, vb x1.2.2.1, vs x1.2.2.2]]) (gk 0) u<|
  qE (gv (fun _ k=>k p10 c10 r_5) [0,1,2,3] (gq [0,2,3,4,5,6,8])))<|wD<|qB<|zN<|jB 3 u<|qE (gv (fun _ k=>k p10 c10 r_4) [0,1,2,3] (gq [5,0,1,2,3,4,6])))<|qN<|qM<|qS<|qO<|qB<|zN<|jB 3 u<|
  qE (gv (fun _ k=>k p10 c10 r_4) [0,1,2,3] (gq [0,1,2,3,4,5,6])))<|qN<|qM<|qS<|qO<|zL (gv (fun _ k=>k p9 c9 r_3) [900,1,2,3] (gq [0,5,6])))<|fun s1 _ k p8 c8 r_2=>k<|zC<|qU 3 3 u u u<|qL .s 1 u u u<|zB<|zG<|
  wW 2 0 u u<|wK u (lC 1 (.agg #[sv p5 r1.1 c5, sv p8 s1 c8, sv p7 r1.2.2 c7]) u u lN) (fun _ k=>k p5 c5 p8 c8 p7 c7) [] (gq [2,0,3])
theorem zHb {qd : Prop} {y0 : qI} : qC qd prog 157 [vs y0] [] [] (zCi y0) fun r K=>K (vb r) [] [] :=
 zX call157 func157 u fun X=>jA 1 u<|zD<|wL (fun s1 K=>K [0] [] [] [(21, vb s1)] []) (qK<|zA 4 u<|wJ 7 u (zA 3 u<|zF (vb true)<|zA 4 u<|zF (vb true)<|zA 4 u<|zF (vb true)<|zS<|zL (gv kk [] d))<|zA 3 u<|
  zF (vb (decide (12 < (len y0))))<|zA 1 u<|wJ 12 u (zA 3 u<|zF (vb true)<|zA 4 u<|zF (vb true)<|zS<|zL (gv kk [] d))<|zA 1 u<|uH fun x1 h1=>jv (fun h=>zKZ h u u underlying9 h1)<|zA 1 u<|
  zF (vb (decide (x1 < 97)))<|zA 1 u<|wJ 17 u (zA 3 u<|zF (vb true)<|zS<|zL (gv kk [] d))<|zA 1 u<|uH fun x2 h2=>jv (fun h=>zKZ h u u underlying9 h2)<|zA 1 u<|zF (vb (decide (122 < x2)))<|zS<|
  zL (gv kk [] d))<|fun s1 _ k=>k<|zJ u (jA 1 u<|zG<|qA<|zP u u kk [] d)<|jC<|zD<|jA 1 u<|zQ<|qT (fun s2 K=>K [0] [] [] [(3, vi s2)] []) (gv kk [] d)<|fun s2 _ k=>k<|zD<|jA 4 u<|zJ u (
  jC<|zD<|zQ<|wL (fun s3 K=>K [0,3] [] [] [(55, vb s3)] []) (qK<|zA 2 u<|uH fun x3 h3=>jv (fun h=>zKZ h u u underlying9 h3)<|zA 2 u<|wJ 32 u (zA 4 u<|zF (vb true)<|zA 3 u<|uH fun x4 h4=>
  jv (fun h=>zKZ h u u underlying9 h4)<|zA 2 u<|wJ 43 u (zA 4 u<|zF (vb true)<|zF (vb true)<|zA 3 u<|uH fun x5 h5=>jv (fun h=>zKZ h u u underlying9 h5)<|zA 1 u<|zF (vb (x5 != 95))<|zS<|
  zL (gv kk [] d))<|zA 2 u<|uH fun x6 h6=>jv (fun h=>zKZ h u u underlying9 h6)<|zA 1 u<|zF (vb (decide (57 < x6)))<|zF (vb (decide (57 < x6)))<|zA 1 u<|wJ 50 u (zA 2 u<|uH fun x7 h7=>
  jv (fun h=>zKZ h u u underlying9 h7)<|zA 1 u<|zF (vb (x7 != 95))<|zS<|zL (gv kk [] d))<|zA 4 u<|zF (vb false)<|zS<|zL (gv kk [] d))<|zA 2 u<|uH fun x8 h8=>
  jv (fun h=>zKZ h u u underlying9 h8)<|zA 1 u<|zF (vb (decide (122 < x8)))<|zA 1 u<|wJ 38 u (zA 2 u<|uH fun x9 h9=>jv (fun h=>zKZ h u u underlying9 h9)<|zA 2 u<|wJ 43 u (zA 4 u<|zF (vb true)<|
  zF (vb true)<|zA 3 u<|uH fun x10 h10=>jv (fun h=>zKZ h u u underlying9 h10)<|zA 1 u<|zF (vb (x10 != 95))<|zS<|zL (gv kk [] d))<|zA 2 u<|uH fun x11 h11=>
  jv (fun h=>zKZ h u u underlying9 h11)<|zA 1 u<|zF (vb (decide (57 < x11)))<|zF (vb (decide (57 < x11)))<|zA 1 u<|wJ 50 u (zA 2 u<|uH fun x12 h12=>jv (fun h=>zKZ h u u underlying9 h12)<|zA 1 u<|
  zF (vb (x12 != 95))<|zS<|zL (gv kk [] d))<|zA 4 u<|zF (vb false)<|zS<|zL (gv kk [] d))<|zA 10 u<|zF (vb false)<|zA 5 u<|zF (vb false)<|zS<|zL (gv kk [] d))<|fun s3 _ k=>k<|zJ u (
  jA 1 u<|zG<|qV<|qA<|wT<|qV<|qA<|zP u u kk [] d)<|wD<|qB<|zN<|jB 3 u<|qE (gv kk [] d))<|qN<|qM<|qS<|qO<|zN<|jA 1 u<|zG<|zP u u kk [] d
theorem zJ2 {qd : Prop} {y0 : zO} : qC qd prog 102 [.agg #[vb y0.1, vs y0.2]] [] [] (zDy y0) fun r K=>K (vb r) [] [] :=
 zX call102 func102 u fun X=>zC<|qX .s u<|fun b1=>zA 1 u<|zB<|zC<|zM 1 u<|zU 0 u u u<|qF zHb u d<|fun r1 _ k=>k<|zA 1 u<|zB<|zG<|zP u u kk [] d
theorem zSb {qd : Prop} {y0 : zT} {y1 : qI} : qC qd prog 100 [.agg (vJ y0 p1 c1 p2 c2 p3 c3).toArray, vs y1] [] (vR y0 p1 c1 p2 c2 p3 c3 []) (zMW y0 y1) fun r K=>K (vi r) [] [] :=
 zX call100 func100 u fun X=>zC<|qX .s u<|fun b1=>zA 1 u<|zB<|zD<|jA 1 u<|zQ<|qT (fun s1 K=>K [1,2] [] [0,1,2] [(5, vi s1)] []) (gv kk [0] (gq [0,1,2]))<|fun s1 _ k=>k<|zD<|zC<|zA 1 u<|zM 1 u<|zU 0 u u u<|zA 2 u<|zB<|zJ u (
  jC<|zD<|zQ<|zC<|zM 1 u<|zU 0 u u u<|zA 1 u<|qQ 1 u u u<|fun x1 b2 o1=>zM 0 u<|qP false oS (gf (gk 0)) u<|zA 2 u<|zB<|zJ u (jA 2 u<|zG<|qV<|qA<|wT<|qV<|qA<|zP u u kk [] d)<|wD<|
  qB<|zN<|jB 3 u<|qE (gv kk [0] (gq [1,2,3])))<|qN<|qM<|qS<|qO<|zN<|jA 1 u<|zG<|zP u u kk [] d
theorem zTf {qd : Prop} {y0 : zT} {y1 : zO} : qC qd prog 98 [.agg (vJ y0 p1 c1 p2 c2 p3 c3).toArray, .agg #[vb y1.1, vs y1.2]] [] (vR y0 p1 c1 p2 c2 p3 c3 []) (zLV y0 y1) fun r K=>K (vi r) [] [] :=
 zX call98 func98 u fun X=>zC<|qX .s u<|fun b1=>qX .s u<|fun b2=>zA 1 u<|zB<|zD<|jA 1 u<|zQ<|qT (fun s1 K=>K [2,3] [] [0,1,2] [(5, vi s1)] []) (gv kk [0,1] (gq [0,1,2]))<|fun s1 _ k=>k<|zD<|zC<|zA 1 u<|zM 0 u<|zU 0 u u u<|
  zA 2 u<|zB<|zJ u (jC<|zD<|zQ<|yC [] [0, 1] 8<|qR 0 0 u u<|wI 1 0 u u u u<|zW 5 [2] u<|yF 3 0 u u u u<|fun x1 b3 o1=>qR 4 0 u u<|yD 5 true yU u (gf (gk 0)) u<|vM 6 1 2 u u u u<|
  wP 7 (vb (x1.1 == y1)) u<|qY<|zN<|zJ u (jA 2 u<|zG<|qV<|qA<|wT<|qV<|qA<|zP u u kk [] d)<|wD<|qB<|zN<|jB 3 u<|qE (gv kk [0,1] (gq [1,2,3])))<|qN<|qM<|qS<|qO<|zN<|jA 1 u<|zG<|
  zP u u kk [] d
theorem zOa {qd : Prop} {y0 : Int} : qC qd prog 101 [vi y0] [] [] (zHL y0) fun r K=>K (vb r) [] [] :=
 zX call101 func101 u fun X=>jA 1 u<|jjp (fun K=>K [(2, vb ((decide (0 ≤ y0)) && (decide (y0 ≤ 9))))] [] []) (qK<|zA 3 u<|yA (b := decide (0 ≤ y0)) 5 u (fun hb1=>zA 2 u<|zF (vb (decide (y0 ≤ 9)))<|zA 1 u<|zS<|
  wQ 2 (vb ((decide (0 ≤ y0)) && (decide (y0 ≤ 9)))) u (by rw [hb1]; rfl)<|zL (gv kk [] d))<|fun hb1=>zA 2 u<|zF (vb false)<|zA 1 u<|zS<|wQ 2 (vb ((decide (0 ≤ y0)) && (decide (y0 ≤ 9)))) u (by rw [hb1]; rfl)<|
  zL (gv kk [] d))<|fun _ k=>k<|zG<|zP u u kk [] d
theorem zTw {qd : Prop} {y0 : vU} : qC qd prog 97 [.agg #[vb y0.1.1, vs y0.1.2, vi y0.2.1, vi y0.2.2.1, vs y0.2.2.2]] [] [] (zIx y0) fun r K=>K (vi r) [] [] :=
 zX call97 func97 u fun X=>zC<|qX .s u<|fun b1=>zA 1 u<|zB<|zD<|xG (fun K=>K [1] [] [] [(10, vb ((decide (y0.2.1 < 1)) || (decide (3 < y0.2.1))))] []) (qK<|zM 2 u<|zU 0 u u u<|zA 2 u<|yA (b := decide (y0.2.1 < 1)) 6 u (fun hb1=>zA 3 u<|
  zF (vb true)<|zS<|wQ 10 (vb ((decide (y0.2.1 < 1)) || (decide (3 < y0.2.1)))) u (by rw [hb1]; rfl)<|zL (gv kk [0] d))<|fun hb1=>zM 2 u<|zU 0 u u u<|zA 1 u<|zF (vb (decide (3 < y0.2.1)))<|zS<|
  wQ 10 (vb ((decide (y0.2.1 < 1)) || (decide (3 < y0.2.1)))) u (by rw [hb1]; rfl)<|zL (gv kk [0] d))<|fun _ k=>k<|zJ u (jA 1 u<|zG<|qA<|zP u u kk [] d)<|jC<|zD<|jjn (fun s1 K=>K [(41, vb s1)] [[]] []) (
  qK<|zM 0 u<|qU 0 2 u u u<|qF zJ2 u d<|fun r1 _ k=>k<|zA 2 u<|wJ 15 u (zA 4 u<|zF (vb true)<|zA 9 u<|zF (vb true)<|zA 10 u<|zF (vb true)<|zS<|zL (gv kk [900] d))<|zM 3 u<|
  zU 0 u u u<|qF zOa u d<|fun r2 _ k=>k<|zA 1 u<|zF (vb (!r2))<|zA 1 u<|wJ 21 u (zA 8 u<|zF (vb true)<|zA 10 u<|zF (vb true)<|zS<|zL (gv kk [900] d))<|zM 2 u<|zU 0 u u u<|
  zA 2 u<|wJ 25 u (zM 3 u<|zU 0 u u u<|zA 1 u<|zF (vb (y0.2.2.1 != 0))<|zF (vb (y0.2.2.1 != 0))<|zA 1 u<|wJ 31 u (zA 9 u<|zF (vb true)<|zS<|zL (gv kk [900] d))<|zM 4 u<|zU 0 u u u<|
  zA 2 u<|wJ 35 u (zM 4 u<|zU 0 u u u<|qF zHb u d<|fun r3 _ k=>k<|zA 1 u<|zF (vb (!r3))<|zF (vb (!r3))<|zS<|zL (gv kk [900] d))<|zA 4 u<|zF (vb false)<|zF (vb false)<|zS<|
  zL (gv kk [900] d))<|zA 3 u<|zF (vb false)<|zF (vb false)<|zA 1 u<|zM 4 u<|zU 0 u u u<|zA 2 u<|wJ 35 u (zM 4 u<|zU 0 u u u<|qF zHb u d<|fun r4 _ k=>k<|zA 1 u<|
  zF (vb (!r4))<|zF (vb (!r4))<|zS<|zL (gv kk [900] d))<|zA 4 u<|zF (vb false)<|zF (vb false)<|zS<|zL (gv kk [900] d))<|fun s1 _ k=>k<|zJ u (jA 1 u<|zG<|qA<|zP u u kk [] d)<|jC<|
  jA 1 u<|zG<|zP u u kk [] d
theorem zOc {qd : Prop} {y0 : zO} {y1 : zO} : qC qd prog 83 [.agg #[vb y0.1, vs y0.2], .agg #[vb y1.1, vs y1.2]] [] [] (zHU y0 y1) fun r K=>K (vi r) [] [] :=
 zX call83 func83 u fun X=>zC<|qX .s u<|fun b1=>qX .s u<|fun b2=>zA 1 u<|zB<|zD<|zQ<|zC<|qU 0 2 u u u<|qU 1 2 u u u<|zF (vb (y0 == y1))<|zA 1 u<|zB<|zJ u (jA 1 u<|zG<|qV<|qA<|zP u u kk [] d)<|
  jjp (fun K=>K [(9, vb ((uM y0.2 y1.2) || ((y0.2 == y1.2) && y1.1)))] [[], []] []) (qK<|zM 1 u<|zU 0 u u u<|zM 1 u<|zU 1 u u u<|zA 2 u<|yA (b := uM y0.2 y1.2) 15 u (fun hb1=>zA 9 u<|zF (vb true)<|
  zA 1 u<|zS<|wQ 9 (vb ((uM y0.2 y1.2) || ((y0.2 == y1.2) && y1.1))) u (by rw [hb1]; rfl)<|zL (gv kk [900,901] d))<|fun hb1=>zM 1 u<|zU 0 u u u<|zM 1 u<|zU 1 u u u<|zA 2 u<|
  yA (b := y0.2 == y1.2) 21 u (fun hb2=>zM 0 u<|zU 1 u u u<|zF (vb y1.1)<|zF (vb y1.1)<|zA 1 u<|zS<|wQ 9 (vb ((uM y0.2 y1.2) || ((y0.2 == y1.2) && y1.1))) u (by rw [hb1,hb2]; rfl)<|zL (gv kk [900,901] d)
  )<|fun hb2=>zA 2 u<|zF (vb false)<|zF (vb false)<|zA 1 u<|zS<|wQ 9 (vb ((uM y0.2 y1.2) || ((y0.2 == y1.2) && y1.1))) u (by rw [hb1,hb2]; rfl)<|zL (gv kk [900,901] d))<|fun _ k=>k<|zJ u (jA 1 u<|zG<|qV<|
  qA<|zP u u kk [] d)<|wD<|qB<|zN<|jA 1 u<|zG<|zP u u kk [] d
theorem zX9 {qd : Prop} {y0 : wC} : qC qd prog 99 [.agg (zSe y0 p1 c1).toArray] [] (zVU y0 p1 c1 []) (zMY y0) fun r K=>K (vi r) [] [] :=
 zX call99 func99 u fun X=>zC<|qX .s u<|fun b1=>zA 1 u<|zB<|zD<|zC<|zM 3 u<|zU 0 u u u<|zA 2 u<|zB<|zJ u (jA 1 u<|zG<|qA<|zP u u kk [] d)<|jC<|wL (fun s1 K=>K [1] [] [0] [(3, vb s1)] []) (qK<|zM 0 u<|
  zU 0 u u u<|qF zHb u d<|fun r1 _ k=>k<|zA 1 u<|wJ 13 u (zM 2 u<|zU 0 u u u<|qF zOa u d<|fun r2 _ k=>k<|zF (vb r2)<|zA 1 u<|wJ 18 u (zM 1 u<|zU 0 u u u<|zA 2 u<|
  wJ 22 u (zA 3 u<|zF (vb true)<|zF (vb true)<|zA 1 u<|zM 4 u<|qU 0 2 u u u<|qF zJ2 u d<|fun r3 _ k=>k<|zF (vb r3)<|zA 1 u<|zS<|zL (gv kk [0] (gq [0])))<|zM 2 u<|zU 0 u u u<|
  zA 1 u<|zF (vb (y0.2.2.1 == 0))<|zF (vb (y0.2.2.1 == 0))<|zA 1 u<|wJ 28 u (zM 4 u<|qU 0 2 u u u<|qF zJ2 u d<|fun r4 _ k=>k<|zF (vb r4)<|zA 1 u<|zS<|zL (gv kk [0] (gq [0])))<|zA 3 u<|
  zF (vb false)<|zA 1 u<|zS<|zL (gv kk [0] (gq [0])))<|zA 8 u<|zF (vb false)<|zA 4 u<|zF (vb false)<|zA 1 u<|zS<|zL (gv kk [0] (gq [0])))<|zA 3 u<|zF (vb false)<|zA 9 u<|zF (vb false)<|
  zA 4 u<|zF (vb false)<|zA 1 u<|zS<|zL (gv kk [0] (gq [0])))<|fun s1 _ k=>k<|wL (fun s2 K=>K [1] [] [0] [(3, vb s2)] []) (jA 1 u<|zQ<|
  qT (fun s3 K=>K [1] [] [0] [(3, vb s3.1), (4, vi s3.2)] []) (gv kk [0] (gq [0]))<|fun s3 _ k=>k<|zD<|zC<|zA 1 u<|zM 3 u<|zU 0 u u u<|zA 2 u<|zB<|zJ u (jC<|zD<|zQ<|
  jjcK (fun s4 K=>K [1,4] [] [0] [(3, vb s4)] []) (qK<|zA 2 u<|wJ 41 u (zM 3 u<|zU 0 u u u<|zA 1 u<|qQ 0 u u u<|fun x1 b2 o1=>qP true yU (gk 0) u<|qF zJ2 u d<|fun r5 _ k=>k<|zF (vb r5)<|
  zA 1 u<|zS<|zL (gv kk [0] (gq [1])))<|zA 6 u<|zF (vb false)<|zA 1 u<|zS<|zL (gv kk [0] (gq [0])))<|fun s4 _ k=>k<|qB<|zN<|jB 3 u<|qE (gv kk [0] (gq [0])))<|qN<|qM<|qS<|qO<|
  zL (gv kk [0] (gq [0])))<|fun s2 _ k=>k<|zD<|jA 2 u<|zJ u (jA 1 u<|zG<|qA<|zP u u kk [] d)<|jC<|zD<|jA 1 u<|zQ<|qT (fun s5 K=>K [1] [] [0] [(5, vi s5)] []) (gv kk [0] (gq [0]))<|
  fun s5 _ k=>k<|zD<|zC<|zA 1 u<|zM 3 u<|zU 0 u u u<|zA 2 u<|zB<|zJ u (jC<|zD<|zQ<|yC [] [0] 13<|qR 0 3 u u<|wI 1 0 u u u u<|zW 9 [2,3] u<|yF 4 0 u u u u<|fun x2 b3 o2=>
  yD 5 true yU u (gk 0) u<|qR 6 3 u u<|wI 7 0 u u u u<|zW 4 [8] u<|yF 9 1 u u u u<|fun x3 b4 o3=>yD 10 true yU u (gk 0) u<|qH 11<|zZ (.f u) [] [] zOc u u u d<|
  fun r6 _ k=>k<|qD<|zW 0 [12] u<|qY<|zN<|zJ u (jA 1 u<|zG<|qV<|qA<|wT<|qV<|qA<|zP u u kk [] d)<|wD<|qB<|zN<|jB 3 u<|qE (gv kk [0] (gq [2])))<|qN<|qM<|qS<|qO<|zN<|jA 1 u<|zG<|
  zP u u kk [] d
theorem zSj {qd : Prop} {y0 : zT} : qC qd prog 53 [.agg (vJ y0 p1 c1 p2 c2 p3 c3).toArray] [] (vR y0 p1 c1 p2 c2 p3 c3 []) (zGH y0) fun r K=>K (vi r) [] [] :=
 zX call53 func53 u fun X=>zC<|qX .s u<|fun b1=>zA 1 u<|zB<|zD<|xG (fun K=>K [1] [] [0,1,2] [(25, vb ((decide (16 < (len y0.1))) || ((decide (24 < (len y0.2.1))) || (decide (8 < (len y0.2.2))))))] []) (qK<|zM 0 u<|zU 0 u u u<|zA 3 u<|
  yA (b := decide (16 < (len y0.1))) 14 u (fun hb1=>zA 4 u<|zF (vb true)<|zA 5 u<|zF (vb true)<|zS<|wQ 25 (vb ((decide (16 < (len y0.1))) || ((decide (24 < (len y0.2.1))) || (decide (8 < (len y0.2.2)))))) u (by rw [hb1]; rfl)<|
  zL (gv kk [0] (gq [0,1,2])))<|fun hb1=>zM 1 u<|zU 0 u u u<|zA 2 u<|zF (vb (decide (24 < (len y0.2.1))))<|zA 1 u<|yA (b := decide (24 < (len y0.2.1))) 20 u (fun hb2=>zA 4 u<|zF (vb true)<|zS<|
  wQ 25 (vb ((decide (16 < (len y0.1))) || ((decide (24 < (len y0.2.1))) || (decide (8 < (len y0.2.2)))))) u (by rw [hb1,hb2]; rfl)<|zL (gv kk [0] (gq [0,1,2])))<|fun hb2=>zM 2 u<|zU 0 u u u<|zA 2 u<|
  zF (vb (decide (8 < (len y0.2.2))))<|zS<|wQ 25 (vb ((decide (16 < (len y0.1))) || ((decide (24 < (len y0.2.1))) || (decide (8 < (len y0.2.2)))))) u (by rw [hb1,hb2]; rfl)<|zL (gv kk [0] (gq [0,1,2])))<|fun _ k=>k<|zJ u (
  jA 1 u<|zG<|qA<|zP u u kk [] d)<|jC<|zY8 (fun s1 K=>K [1] [] [0,1,2] [] []) (jA 1 u<|zQ<|qT (fun s2 K=>K [1] [] [0,1,2] [(3, vi s2)] []) (gv kk [0] (gq [0,1,2]))<|fun s2 _ k=>k<|zD<|zC<|zA 1 u<|
  zM 0 u<|zU 0 u u u<|zA 2 u<|zB<|zJ u (jC<|zD<|zQ<|zD<|zC<|zM 0 u<|zU 0 u u u<|zA 1 u<|qQ 0 u u u<|fun x1 b2 o1=>qP true zMt (gk 0) u<|qF zTw u d<|fun r1 _ k=>k<|zA 1 u<|
  zB<|jA 2 u<|zJ u (jA 2 u<|zG<|qA<|qV<|qA<|wT<|qV<|wT<|zP u u kk [] d)<|jC<|yC [] [0] 10<|vM 0 0 3 u u u u<|qR 1 0 u u<|wI 2 0 u u u u<|zW 6 [3] u<|yF 4 1 u u u u<|
  fun x2 b3 o2=>qR 5 0 u u<|yD 6 true yU u (gf (gk 0)) u<|zW 2 [8] u<|qH 7<|zZ (.f u) [] [] zTf u u u (cq [2,3,4])<|fun r2 _ k=>k<|qD<|zW 0 [9] u<|qY<|zN<|zJ u (jA 1 u<|zG<|qV<|qA<|wT<|
  qV<|wT<|zP u u kk [] d)<|wD<|qB<|zN<|jB 3 u<|qE (gv kk [0] (gq [2,3,4])))<|qN<|qM<|qS<|qO<|qE (gv kk [0] (gq [0,1,2])))<|fun s1 _ k=>k<|zY8 (fun s3 K=>K [1] [] [0,1,2] [] []) (jA 1 u<|
  zQ<|qT (fun s4 K=>K [1] [] [0,1,2] [(5, vi s4)] []) (gv kk [0] (gq [0,1,2]))<|fun s4 _ k=>k<|zD<|zC<|zA 1 u<|zM 1 u<|zU 0 u u u<|zA 2 u<|zB<|zJ u (jC<|zD<|zQ<|zD<|zC<|zM 1 u<|zU 0 u u u<|
  zA 1 u<|qQ 1 u u u<|fun x3 b4 o3=>qP true zQF (gk 0) u<|fun p4 c4=>qF zX9 u (cq [0])<|fun r3 _ k=>k<|zA 1 u<|zB<|jA 2 u<|zJ u (jA 2 u<|zG<|qA<|qV<|qA<|wT<|qV<|wT<|zP u u kk [] d
  )<|jC<|yC [] [0] 10<|vM 0 0 3 u u u u<|qR 1 1 u u<|wI 2 0 u u u u<|zW 6 [3] u<|yF 4 3 u u u u<|fun x4 b5 o4=>qR 5 0 u u<|yD 6 false oS u (gf (gk 0)) u<|zW 2 [8] u<|qH 7<|
  zZ (.f u) [] [] zSb u u u (cq [3,4,5])<|fun r4 _ k=>k<|qD<|zW 0 [9] u<|qY<|zN<|zJ u (jA 1 u<|zG<|qV<|qA<|wT<|qV<|wT<|zP u u kk [] d)<|wD<|qB<|zN<|jB 3 u<|
  qE (gv kk [0] (gq [3,4,5])))<|qN<|qM<|qS<|qO<|qE (gv kk [0] (gq [0,1,2])))<|fun s3 _ k=>k<|zD<|jA 1 u<|zQ<|qT (fun s5 K=>K [1] [] [0,1,2] [(7, vi s5)] []) (gv kk [0] (gq [0,1,2]))<|fun s5 _ k=>k<|
  zD<|zC<|zA 1 u<|zM 2 u<|zU 0 u u u<|zA 2 u<|zB<|zJ u (jC<|zD<|zQ<|zC<|zM 2 u<|zU 0 u u u<|zA 1 u<|qQ 2 u u u<|fun x5 b6 o5=>qP true zNi (gk 0) u<|
  wO .s (.agg #[vs [], vi 0, vb false, vs []])<|fun b7=>qL .s 1 u u u<|zB<|zD<|wL (fun s6 K=>K [1,7,8] [] [1,2,3] [(99, vb s6)] []) (qK<|zM 1 u<|zU 1 u u u<|qF zOa u d<|fun r5 _ k=>k<|zA 2 u<|
  wJ 94 u (zA 4 u<|zF (vb true)<|zS<|zL (gv kk [0,1] (gq [1,2,3])))<|zM 2 u<|qU 1 2 u u u<|qF zJ2 u d<|fun r6 _ k=>k<|zA 1 u<|zF (vb (!r6))<|zS<|zL (gv kk [0,1] (gq [1,2,3])))<|
  fun s6 _ k=>k<|zJ u (jA 1 u<|zG<|qA<|qV<|qA<|wT<|qV<|qA<|zP u u kk [] d)<|jC<|zC<|qU 0 3 u u u<|zM 0 u<|zU 1 u u u<|qF zSb u (cq [0,1,2])<|fun r7 _ k=>k<|zA 1 u<|zB<|zD<|
  jA 2 u<|zJ u (jA 1 u<|zG<|qA<|qV<|qA<|wT<|qV<|qA<|zP u u kk [] d)<|jC<|zC<|zM 1 u<|zU 0 u u u<|zA 1 u<|qQ 1 u u u<|fun x6 b8 o6=>zM 1 u<|qP false oB (gf (gs (gk 0))) u<|zB<|zJ u (
  jA 1 u<|zG<|qV<|qA<|wT<|qV<|qA<|zP u u kk [] d)<|wD<|qB<|zN<|jB 3 u<|qE (gv kk [0] (gq [1,2,3])))<|qN<|qM<|qS<|qO<|zN<|jA 1 u<|zG<|zP u u kk [] d
theorem zMa {qd : Prop} {y0 : List Int} {y1 : Int} : qC qd prog 159 [sv p1 y0 c1, vi y1] [] [Rl (zH .i64) p1 c1 y0] (zGU y0 y1) fun r K=>∀ p2 c2,K (sv p2 r c2) [] [Rl (zH .i64) p2 c2 r] :=
 zX call159 func159 u fun X=>jA 1 u<|jA 1 u<|wL (fun s1 K=>K [0,1] [] [0] [(5, vi s1)] []) (zQ<|qT (fun s2 K=>K [0,1] [] [0] [(5, vi s2)] []) (gv kk [] (gq [0]))<|fun s2 _ k=>k<|zD<|wL (fun s3 K=>K [0,1,5] [] [0] [(18, vb s3)] []) (qK<|
  zA 5 u<|wJ 11 u (zA 2 u<|qQ 0 u u u<|fun x1 b1 o1=>qP false oI (gk 0) u<|zA 2 u<|zF (vb (decide (x1 < y1)))<|zS<|zL (gv kk [] (gq [1])))<|zA 6 u<|zF (vb false)<|zS<|zL (gv kk [] (gq [0]))
  )<|fun s3 _ k=>k<|zJ u (jC<|zQ<|jB 3 u<|qB<|qE (gv kk [] (gq [0])))<|qN<|qM<|qS<|qO<|zL (gv kk [] (gq [0])))<|fun s1 _ k=>k<|zD<|wL (fun s4 K=>K [0,1,5] [] [0] [(32, vb s4)] []) (qK<|zA 5 u<|
  wJ 25 u (zA 2 u<|qQ 0 u u u<|fun x2 b2 o2=>qP false oI (gk 0) u<|zA 2 u<|zF (vb (x2 == y1))<|zS<|zL (gv kk [] (gq [1])))<|zA 6 u<|zF (vb false)<|zS<|zL (gv kk [] (gq [0])))<|fun s4 _ k=>k<|
  zJ u (jA 2 u<|zG<|qA<|zP u u (fun _ k=>k p1 c1) [] (gq [0]))<|jC<|zC<|xH .s (e := zH .i64) 3 [] ([] : List Int) rN<|fun r_1 p2 c2=>zA 2 u<|jsl (gk 1) u u u (.inl ⟨rfl, rfl⟩) (.inr ⟨_, rfl⟩)<|fun x3 p3 c3=>
  wN .s 0 1 u (gk 0) u u<|fun x4 r_2 p4 c4=>zA 1 u<|zB<|yC [] [] 9<|zW 5 [0,1,4,5] u<|jdw 6 u (gk 3) u u u (.inr ⟨_, rfl⟩) (.inl ⟨rfl, rfl⟩)<|fun x5 p5 c5=>qH 2<|
  wR (.f u) (e := zH .i64) 3 [vi y1] ([y1] : List Int) (rC vI rN)<|fun p6 c6=>qD<|qH 3<|wN (.f u) 0 2 u (gk 0) u u<|fun x6 r_3 p7 c7=>qD<|qH 7<|wN (.f u) 0 0 u (gk 2) u u<|fun x7 r_4 p8 c8=>qD<|zW 0 [8] u<|qY<|
  zN<|zG<|wW 0 0 u u<|zP u u (fun _ k=>k p8 c8) [] (gq [0])
theorem zRW {qd : Prop} {y0 : List Int} {y1 : List Int} : qC qd prog 240 [sv p1 y0 c1, sv p2 y1 c2] [] [Rl (zH .i64) p1 c1 y0, Rl (zH .i64) p2 c2 y1] (zLG y0 y1) fun r K=>∀ p3 c3,K (sv p3 r c3) [] [Rl (zH .i64) p3 c3 r] :=
 zX call240 func240 u fun X=>jA 1 u<|zD<|jA 1 u<|zQ<|qT (fun s1 K=>∀ p3 c3,K [1] [] [1] [(0, sv p3 s1.1 c3), (5, vi s1.2)] [Rl (zH .i64) p3 c3 s1.1]) (gv (fun _ k=>k p1 c1) [] (gq [0,1]))<|fun s1 _ k p3 c3=>k<|zD<|jA 4 u<|zJ u (jC<|zD<|zQ<|qK<|
  zA 3 u<|qQ 1 u u u<|fun x1 b1 o1=>qP false oI (gk 0) u<|qF zMa u (cq [1])<|fun r1 _ k p4 c4=>k<|zA 1 u<|zS<|qB<|zN<|jB 3 u<|qE (gv (fun _ k=>k p4 c4) [] (gq [0,3])))<|qN<|qM<|qS<|qO<|zN<|jA 2 u<|
  zG<|zP u u (fun _ k=>k p3 c3) [] (gq [0])
theorem zSn {qd : Prop} (k : Nat) :
    (∀ {y0 : List zK} {p1 : Option Addr} {c1 : Nat} {y1 : Int}, qC qd prog 158 [sv p1 y0 c1, vi y1] [] [Rl wS p1 c1 y0] (zHH k y0 y1) fun r K=>∀ p2 c2,K (sv p2 r c2) [] [Rl (zH .i64) p2 c2 r]) := by
  induction k with
  | zero => exact z2q call158
  | succ k ih =>
    have ih_ref07_Subs := @ih
    exact @fun y0 p1 c1 y1=>zX (m1 := zMT (zHH k) y0 y1) call158 func158 u fun X=>jA 1 u<|zD<|xG (fun K=>K [0,1] [] [0] [(14, vb ((decide (y1 < 0)) || (decide ((len y0) ≤ y1))))] []) (qK<|zA 3 u<|yA (b := decide (y1 < 0)) 9 u (fun hb1=>zA 4 u<|zF (vb true)<|zS<|
  wQ 14 (vb ((decide (y1 < 0)) || (decide ((len y0) ≤ y1)))) u (by rw [hb1]; rfl)<|zL (gv kk [] (gq [0])))<|fun hb1=>zA 4 u<|zF (vb (decide ((len y0) ≤ y1)))<|zS<|
  wQ 14 (vb ((decide (y1 < 0)) || (decide ((len y0) ≤ y1)))) u (by rw [hb1]; rfl)<|zL (gv kk [] (gq [0])))<|fun _ k=>k<|zJ u (jA 1 u<|zG<|qA<|zP u u (fun _ k=>k none 0) [] ⟨gn,d⟩)<|jC<|zC<|zA 1 u<|
  wR .s (e := zH .i64) 3 [vi y1] ([y1] : List Int) (rC vI rN)<|fun p2 c2=>zA 1 u<|zB<|zD<|jA 1 u<|zQ<|
  qT (fun s1 K=>∀ p3 c3,K [0,1] [] [1] [(5, sv p3 s1.1 c3), (6, vi s1.2)] [Rl (zH .i64) p3 c3 s1.1]) (gv (fun _ k=>k p2 c2) [] (gq [0,1]))<|fun s1 _ k p3 c3=>k<|zD<|zC<|zA 3 u<|qQ 1 u u u<|fun x1 b1 o1=>zM 2 u<|
  qP false oL (gf (gs (gs (gk 0)))) u<|fun p4 c4=>zA 2 u<|zB<|zJ u (jC<|zD<|zQ<|qK<|zA 4 u<|qQ 3 u u u<|fun x2 b2 o2=>zM 2 u<|qP false oL (gf (gs (gs (gk 0)))) u<|fun p5 c5=>zA 1 u<|qQ 0 u u u<|
  fun x3 b3 o3=>qP false oI (gk 0) u<|qF ih_ref07_Subs u (cq [6])<|fun r1 _ k p6 c6=>k<|qF zRW u (cq [6,0])<|fun r2 _ k p7 c7=>k<|zA 1 u<|zS<|qB<|zN<|jB 3 u<|qE (gv (fun _ k=>k p7 c7) [] (gq [0,8])))<|qN<|qM<|
  qS<|qO<|zN<|jA 2 u<|zG<|zP u u (fun _ k=>k p3 c3) [] (gq [2])
theorem zO9 {qd : Prop} {y0 : List zK} {y1 : Int} : qC qd prog 158 [sv p1 y0 c1, vi y1] [] [Rl wS p1 c1 y0] (zK2 y0 y1) fun r K=>∀ p2 c2,K (sv p2 r c2) [] [Rl (zH .i64) p2 c2 r] := zQr fun k => (zSn k)
theorem zJM {qd : Prop} {y0 : zT} {y1 : List zK} {y2 : Int} : qC qd prog 106 [.agg (vJ y0 p1 c1 p2 c2 p3 c3).toArray, sv p4 y1 c4, vi y2] [] (vR y0 p1 c1 p2 c2 p3 c3 [Rl wS p4 c4 y1]) (zCs y0 y1 y2) fun r K=>∀ p5 c5,K (sv p5 r c5) [] [Rl (zH .i64) p5 c5 r] :=
 zX call106 func106 u fun X=>zC<|qX .s u<|fun b1=>zA 1 u<|zB<|jA 1 u<|zD<|zC<|zA 2 u<|qF zO9 u (cq [3])<|fun r1 _ k p5 c5=>k<|zA 2 u<|zB<|zQ<|
  qT (fun s1 K=>∀ p6 c6,K [1,3,12,13] [] [4,0,1,2,3] [(7, sv p6 s1.1 c6), (14, vi s1.2)] [Rl (zH .i64) p6 c6 s1.1]) (gv (fun _ k=>k none 0) [0] ⟨gn,gk 4,gk 0,gk 1,gk 2,gk 3,d⟩)<|fun s1 _ k p6 c6=>k<|jA 1 u<|zD<|zJ u (jC<|zD<|zQ<|
  zC<|qQ 2 u u u<|fun x1 b2 o1=>qP false oI (gk 0) u<|zA 1 u<|zB<|wL (fun s2 K=>K [1,3,7,9,12,13,14] [] [2,1,3,4,5,6] [(36, vb s2)] []) (uO [] [0] 19<|zW 17 [0,1] u<|yF 2 2 u u u u<|fun x2 b3 o2=>
  qR 3 1 u u<|yD 4 false oI u (gf (gs (gk 0))) u<|zW 12 [5,6] u<|wJ 24 u (qR 7 1 u u<|wI 8 0 u u u u<|zW 8 [9,10] u<|yF 11 3 u u u u<|fun x3 b4 o3=>qR 12 1 u u<|
  yD 13 false oI u (gf (gs (gk 0))) u<|yF 14 7 u u u u<|fun x4 b5 o4=>qR 15 1 u u<|yD 16 false oB u (gf (gs (gk 0))) u<|zW 1 [17] u<|wP 18 (vb (!x4.2.1)) u<|qY<|zL (gv kk [0] (gq [5,4,6,7,8,9])))<|
  zW 1 [7,8,9,10,11,12,13,14,15,16,17] u<|wP 18 (vb false) u<|qY<|zL (gv kk [0] (gq [3,2,4,5,6,7])))<|fun s2 _ k=>k<|zJ u (qK<|zA 3 u<|qQ 0 u u u<|fun x5 b6 o5=>zM 1 u<|qP false oI (gf (gs (gk 0))) u<|
  qF zMa u (cq [2])<|fun r2 _ k p7 c7=>k<|zA 1 u<|zS<|qB<|zN<|jB 2 u<|qE (gv (fun _ k=>k p7 c7) [0] (gq [0,2,4,5,6,7])))<|wD<|qB<|zN<|jB 2 u<|qE (gv (fun _ k=>k p6 c6) [0] (gq [1,0,2,3,4,5])))<|qN<|qM<|qS<|
  qO<|zN<|jA 2 u<|zG<|zP u u (fun _ k=>k p6 c6) [] (gq [0])
theorem zT9 {qd : Prop} (k : Nat) :
    (∀ {y0 : zT} {p1 : Option Addr} {c1 : Nat} {p2 : Option Addr} {c2 : Nat} {p3 : Option Addr} {c3 : Nat} {y1 : List zK} {p4 : Option Addr} {c4 : Nat} {y2 : Int}, qC qd prog 104 [.agg (vJ y0 p1 c1 p2 c2 p3 c3).toArray, sv p4 y1 c4, vi y2] [] (vR y0 p1 c1 p2 c2 p3 c3 [Rl wS p4 c4 y1]) (zCF k y0 y1 y2) fun r K=>∀ p5 c5,K (sv p5 r c5) [] [Rl wX p5 c5 r]) := by
  induction k with
  | zero => exact z2q call104
  | succ k ih =>
    have ih_ref07_Run := @ih
    exact @fun y0 p1 c1 p2 c2 p3 c3 y1 p4 c4 y2=>zX (m1 := zIa (zCF k) y0 y1 y2) call104 func104 u fun X=>zC<|qX .s u<|fun b1=>zA 1 u<|zB<|zC<|zA 2 u<|qQ 3 u u u<|fun x1 b2 o1=>zM 3 u<|qP true yU (gs (gs (gs (gk 0)))) u<|
  xH .s (e := wX) 62 [vb x1.2.2.2.1, vs x1.2.2.2.2] ([x1.2.2.2] : List zO) (rC (vP vB vS) rN)<|fun r_1 p5 c5=>zA 1 u<|zB<|zD<|wL (fun s1 K=>K [1,2,3,7] [] [5,0,2,3,4] [(32, vb s1)] []) (uO [] [0] 18<|zW 16 [0,1] u<|
  yF 2 5 u u u u<|fun x2 b3 o2=>qR 3 1 u u<|yD 4 false oI u (gf (gs (gk 0))) u<|zW 11 [5,6] u<|wJ 21 u (qR 7 1 u u<|wI 8 0 u u u u<|zW 7 [9,10] u<|yF 11 6 u u u u<|fun x3 b4 o3=>
  qR 12 1 u u<|yD 13 false oI u (gf (gs (gk 0))) u<|yF 14 5 u u u u<|fun x4 b5 o4=>qR 15 1 u u<|yD 16 false oB u (gf (gs (gk 0))) u<|wP 17 (vb x4.2.1) u<|qY<|zL (gv kk [0,1] (gq [8,3,5,6,7])))<|
  zW 1 [7,8,9,10,11,12,13,14,15,16] u<|wP 17 (vb false) u<|qY<|zL (gv kk [0,1] (gq [6,1,3,4,5])))<|fun s1 _ k=>k<|zJ u (jA 1 u<|zQ<|
  qT (fun s2 K=>∀ p6 c6 r_2,K [1,2,3] [(1, r_2)] [0,2,3,4] [(7, sv p6 s2.1 c6), (8, vi s2.2)] [Al wX 62 r_2 p6 c6 s2.1]) (gv (fun _ k=>k p5 c5 r_1) [0,1] (gq [1,0,2,3,4]))<|fun s2 _ k p6 c6 r_2=>k<|zD<|zC<|zA 3 u<|
  qQ 1 u u u<|fun x5 b6 o5=>zM 2 u<|qP false oL (gf (gs (gs (gk 0)))) u<|fun p7 c7=>zA 2 u<|zB<|zJ u (jC<|zD<|zQ<|uO [] [0] 14<|zW 13 [0] u<|vM 1 0 3 u u u u<|zW 9 [2,3,4] u<|yF 5 3 u u u u<|
  fun x6 b7 o6=>qR 6 2 u u<|yD 7 false oL u (gf (gs (gs (gk 0)))) u<|fun p8 c8=>zW 5 [8] u<|yF 9 0 u u u u<|fun x7 b8 o7=>yD 10 false oI u (gk 0) u<|qH 11<|
  zZ (.f u) [] [] ih_ref07_Run u u u (cq [7,8,9,6])<|fun r1 _ k p9 c9=>k<|qD<|qH 12<|wN (.f u) 1 6 u (gk 0) u u<|fun x8 r_3 p10 c10=>qD<|zW 0 [13] u<|qY<|qB<|zN<|jB 3 u<|
  qE (gv (fun _ k=>k p10 c10 r_3) [0,1] (gq [0,8,9,10,11])))<|qN<|qM<|qS<|qO<|zN<|jA 2 u<|zG<|wW 1 2 u u<|zP u u (fun _ k=>k p6 c6) [] (gq [0]))<|jC<|jA 2 u<|zG<|wW 1 1 u u<|
  zP u u (fun _ k=>k p5 c5) [] (gq [0])
theorem zY6 {qd : Prop} {y0 : zT} {y1 : List zK} {y2 : Int} : qC qd prog 104 [.agg (vJ y0 p1 c1 p2 c2 p3 c3).toArray, sv p4 y1 c4, vi y2] [] (vR y0 p1 c1 p2 c2 p3 c3 [Rl wS p4 c4 y1]) (zN5 y0 y1 y2) fun r K=>∀ p5 c5,K (sv p5 r c5) [] [Rl wX p5 c5 r] := zQr fun k => (zT9 k)
theorem zV1 {qd : Prop} {y0 : List Int} {y1 : Int} : qC qd prog 105 [sv p1 y0 c1, vi y1] [] [Rl (zH .i64) p1 c1 y0] (zP7 y0 y1) fun r K=>K (vb r) [] [] :=
 zX call105 func105 u fun X=>jA 1 u<|zD<|jA 1 u<|zQ<|qT (fun s1 K=>K [0,1] [] [0] [(5, vi s1)] []) (gv kk [] (gq [0]))<|fun s1 _ k=>k<|zD<|jA 4 u<|zJ u (jC<|zD<|zQ<|zC<|zA 2 u<|qQ 0 u u u<|fun x1 b1 o1=>qP false oI (gk 0) u<|
  zA 2 u<|zB<|zJ u (jA 1 u<|zG<|qV<|qA<|wT<|qV<|qA<|zP u u kk [] d)<|wD<|qB<|zN<|jB 3 u<|qE (gv kk [] (gq [1])))<|qN<|qM<|qS<|qO<|zN<|jA 1 u<|zG<|zP u u kk [] d
theorem zQH {qd : Prop} {y0 : zT} {y1 : List zK} {y2 : Int} {y3 : List Int} : qC qd prog 60 [.agg (vJ y0 p1 c1 p2 c2 p3 c3).toArray, sv p4 y1 c4, vi y2, sv p5 y3 c5] [] (vR y0 p1 c1 p2 c2 p3 c3 [Rl wS p4 c4 y1, Rl (zH .i64) p5 c5 y3]) (zGV y0 y1 y2 y3) fun r K=>K (vb r) [] [] :=
 zX call60 func60 u fun X=>zC<|qX .s u<|fun b1=>zA 1 u<|zB<|zC<|zM 1 u<|zU 0 u u u<|zA 1 u<|qQ 1 u u u<|fun x1 b2 o1=>qP true zQF (gk 0) u<|fun p6 c6=>wO .s (.agg #[vs [], vb false, vi 0, .slice none 0 0, vb false, vs []])<|
  fun b3=>qL .s 1 u u u<|zB<|zD<|jA 1 u<|zQ<|qT (fun s1 K=>K [1,2,3,4,9] [] [5,6,2,3,4,0] [(10, vi s1)] []) (gv kk [0,1] (gq [5,6,2,3,4,0]))<|fun s1 _ k=>k<|zD<|jA 4 u<|zJ u (jC<|zD<|zQ<|
  wL (fun s2 K=>K [1,2,3,4,9,10] [] [0,1,2,3,4,5] [(51, vb s2)] []) (uO [] [0, 1] 30<|qR 0 1 u u<|wI 1 1 u u u u<|zW 27 [2] u<|wJ 24 u (vM 3 0 3 u u u u<|zW 23 [4,5,6] u<|yF 7 1 u u u u<|
  fun x2 b4 o2=>yD 8 false oI u (gk 0) u<|qR 10 4 u u<|vM 11 1 2 u u u u<|qH 9<|zZ (.f u) [] [] zY6 u u u (cq [3,4,5,1])<|fun r1 _ k p7 c7=>k<|qD<|qH 12<|
  zZ (.f u) [] [] zL3 u u u (cq [0])<|fun r2 _ k=>k<|qD<|wP 13 (vb r2) u<|zW 15 [14] u<|wJ 36 u (zW 1 [15,16,17,18,19,20,21,22,23,24,25,26,27,28] u<|wP 29 (vb true) u<|qY<|
  zL (gv kk [0,1] (gq [2,3,4,5,6,7])))<|qR 15 1 u u<|wI 16 1 u u u u<|zW 11 [17,18] u<|wJ 40 u (vM 19 0 3 u u u u<|zW 7 [20,21,22] u<|yF 23 3 u u u u<|fun x3 b5 o3=>
  yD 24 false oI u (gk 0) u<|zW 4 [26] u<|qH 25<|zZ (.f u) [] [] zJM u u u (cq [5,6,7,3])<|fun r3 _ k p8 c8=>k<|qD<|qH 27<|zZ (.f u) [] [] zV1 u u u (cq [0])<|fun r4 _ k=>k<|qD<|
  wP 28 (vb r4) u<|wP 29 (vb r4) u<|qY<|zL (gv kk [0,1] (gq [4,5,6,7,8,9])))<|zW 2 [19,20,21,22,23,24,25,26,27] u<|wP 28 (vb false) u<|wP 29 (vb false) u<|qY<|zL (gv kk [0,1] (gq [2,3,4,5,6,7])))<|
  zW 17 [3,4,5,6,7,8,9,10,11,12] u<|wP 13 (vb false) u<|zW 15 [14] u<|qR 15 1 u u<|wI 16 1 u u u u<|zW 11 [17,18] u<|wJ 40 u (vM 19 0 3 u u u u<|zW 7 [20,21,22] u<|yF 23 1 u u u u<|
  fun x4 b6 o4=>yD 24 false oI u (gk 0) u<|zW 4 [26] u<|qH 25<|zZ (.f u) [] [] zJM u u u (cq [3,4,5,1])<|fun r5 _ k p9 c9=>k<|qD<|qH 27<|zZ (.f u) [] [] zV1 u u u (cq [0])<|fun r6 _ k=>k<|
  qD<|wP 28 (vb r6) u<|wP 29 (vb r6) u<|qY<|zL (gv kk [0,1] (gq [2,3,4,5,6,7])))<|zW 2 [19,20,21,22,23,24,25,26,27] u<|wP 28 (vb false) u<|wP 29 (vb false) u<|qY<|zL (gv kk [0,1] (gq [0,1,2,3,4,5])))<|
  fun s2 _ k=>k<|zJ u (jA 1 u<|zG<|qV<|qA<|wT<|qV<|qA<|zP u u kk [] d)<|wD<|qB<|zN<|jB 3 u<|qE (gv kk [0,1] (gq [0,1,2,3,4,5])))<|qN<|qM<|qS<|qO<|zN<|jA 1 u<|zG<|
  zP u u kk [] d
theorem zOf {qd : Prop} (k : Nat) :
    (∀ {y0 : List zK} {p1 : Option Addr} {c1 : Nat} {r_1 : zY} {y1 : Int} {y2 : List zO} {p2 : Option Addr} {c2 : Nat} {y3 : List Int} {p3 : Option Addr} {c3 : Nat}, qC qd prog 58 [sv p1 y0 c1, vi y1, sv p2 y2 c2, sv p3 y3 c3] [r_1] [Al wS 112 r_1 p1 c1 y0, Rl wX p2 c2 y2, Rl (zH .i64) p3 c3 y3] (zCh k y0 y1 y2 y3) fun r K=>∀ p4 c4,K (sv p4 r c4) [r_1] [Rl (wB (zH .i64)) p4 c4 r]) := by
  induction k with
  | zero => exact z2q call58
  | succ k ih =>
    have ih_ref07_choices_2 := @ih
    exact @fun y0 p1 c1 r_1 y1 y2 p2 c2 y3 p3 c3=>zX (m1 := zHa (zCh k) y0 y1 y2 y3) call58 func58 u fun X=>jA 1 u<|zD<|jA 5 u<|zJ u (zC<|xH .s (e := zH .i64) 3 [] ([] : List Int) rN<|fun r_2 p4 c4=>zA 1 u<|wN .s 1 0 u (gk 3) u u<|fun x1 r_3 p5 c5=>wW 1 0 u u<|
  wR .s (e := wB (zH .i64)) 22 [sv p5 x1 c5] ([x1] : List (List Int)) (rC (vL (gk 0)) rN)<|fun p6 c6=>zA 1 u<|zB<|zG<|qA<|zP u u (fun _ k=>k p6 c6) [0] (gq [0]))<|jC<|zC<|zA 1 u<|vE (wB (zH .i64)) 22<|zB<|zD<|
  jA 1 u<|zQ<|qT (fun s1 K=>∀ p7 c7 r_4,K [0,1,2,3] [(1, r_4)] [1,2,3] [(9, sv p7 s1.1 c7), (10, vi s1.2)] [Al (wB (zH .i64)) 22 r_4 p7 c7 s1.1]) (gv (fun _ k=>k none 0 []) [0,1] (gq [0,1,2,3]))<|fun s1 _ k p7 c7 r_4=>k<|zD<|
  jA 3 u<|zJ u (jC<|zD<|zQ<|yC [] [0] 11<|zW 9 [0,1] u<|jdI 2 1 u u u u<|fun x2 h2 b1 hp1=>qR 3 3 u u<|tJ 4 0 1 sI.snd.snd.snd true yU u u hp1 h2 u<|zW 3 [5,6,7] u<|yF 8 2 u u u u<|
  fun x3 b2 o1=>yD 9 true yU u (gk 0) u<|wP 10 (vb (x2.2.2.2 == x3)) u<|qY<|zN<|zJ u (qK<|zA 9 u<|jsF (gk 4) u u u u (.inl ⟨rfl, rfl⟩)<|fun x4 p8=>zA 1 u<|
  wR .s (e := zH .i64) 3 [vi s1.2] ([s1.2] : List Int) (rC vI rN)<|fun p9 c8=>jaf .s 3 (gk 1) (gk 0) u u<|fun x5 p10 c9=>zZ .s [0] [] ih_ref07_choices_2 u u u (cq [5,6,0])<|fun r1 _ k p11 c10=>k<|wN .s 1 5 u (gk 0) u u<|
  fun x6 r_5 p12 c11=>zA 1 u<|zS<|qB<|zN<|jB 3 u<|qE (gv (fun _ k=>k p12 c11 r_5) [0,1] (gq [0,7,8,9])))<|wD<|qB<|zN<|jB 3 u<|qE (gv (fun _ k=>k p7 c7 r_4) [0,1] (gq [1,2,3,4])))<|qN<|qM<|qS<|qO<|zN<|jA 2 u<|zG<|
  wW 1 0 u u<|zP u u (fun _ k=>k p7 c7) [0] (gq [0])
theorem zSU {qd : Prop} {y0 : List zK} {y1 : Int} {y2 : List zO} {y3 : List Int} : qC qd prog 58 [sv p1 y0 c1, vi y1, sv p2 y2 c2, sv p3 y3 c3] [r_1] [Al wS 112 r_1 p1 c1 y0, Rl wX p2 c2 y2, Rl (zH .i64) p3 c3 y3] (zKB y0 y1 y2 y3) fun r K=>∀ p4 c4,K (sv p4 r c4) [r_1] [Rl (wB (zH .i64)) p4 c4 r] := zQr fun k => (zOf k)
theorem zUw {qd : Prop} {y0 : List Int} {y1 : Int} : qC qd prog 59 [sv p1 y0 c1, vi y1] [] [Rl (zH .i64) p1 c1 y0] (zMc y0 y1) fun r K=>K (vb r) [] [] :=
 zX call59 func59 u fun X=>jA 1 u<|zD<|jA 1 u<|zQ<|qT (fun s1 K=>K [0,1] [] [0] [(5, vi s1)] []) (gv kk [] (gq [0]))<|fun s1 _ k=>k<|zD<|jA 4 u<|zJ u (jC<|zD<|zQ<|zC<|zA 2 u<|qQ 0 u u u<|fun x1 b1 o1=>qP false oI (gk 0) u<|
  zA 2 u<|zB<|zJ u (jA 1 u<|zG<|qV<|qA<|wT<|qV<|qA<|zP u u kk [] d)<|wD<|qB<|zN<|jB 3 u<|qE (gv kk [] (gq [1])))<|qN<|qM<|qS<|qO<|zN<|jA 1 u<|zG<|zP u u kk [] d
theorem zVa {qd : Prop} {y0 : zT} : qC qd prog 21 [.agg (vJ y0 p1 c1 p2 c2 p3 c3).toArray] [] (vR y0 p1 c1 p2 c2 p3 c3 []) (zHk y0) fun r K=>∀ p4 c4,K (.tuple #[sv p4 r.1 c4, vi r.2]) [] [Rl wS p4 c4 r.1] :=
 zX call21 func21 u fun X=>zC<|qX .s u<|fun b1=>zA 2 u<|zB<|zD<|zC<|qU 0 3 u u u<|qF zSj u (cq [0,1,2])<|fun r1 _ k=>k<|zA 1 u<|zB<|jA 2 u<|zJ u (jA 3 u<|zG<|qA<|
  wK u (lT u (lT u lN)) (fun _ k=>k none 0) [] ⟨gn,d⟩)<|jC<|zC<|zA 1 u<|vE wS 112<|zB<|wL (fun s1 K=>∀ p4 c4 r_1,K [1] [(1, r_1)] [1,2,3] [(5, sv p4 s1 c4)] [Al wS 112 r_1 p4 c4 s1]) (jA 1 u<|zQ<|
  qT (fun s2 K=>∀ p5 c5 r_2,K [1] [(1, r_2)] [1,2,3] [(5, sv p5 s2.1 c5), (6, vi s2.2)] [Al wS 112 r_2 p5 c5 s2.1]) (gv (fun _ k=>k none 0 []) [0,1] (gq [0,1,2,3]))<|fun s2 _ k p5 c5 r_2=>k<|zD<|zC<|zA 1 u<|zM 0 u<|
  zU 0 u u u<|zA 2 u<|zB<|zJ u (jC<|zD<|zQ<|qK<|zA 2 u<|zM 0 u<|zU 0 u u u<|zA 1 u<|qQ 1 u u u<|fun x1 b2 o1=>zM 0 u<|qP true yU (gf (gk 0)) u<|
  zF (.agg #[vi s2.2, vi (-1), .slice none 0 0, vb x1.1.1, vs x1.1.2])<|
  wR .s (e := wS) 112 [vi s2.2, vi (-1), .slice none 0 0, vb x1.1.1, vs x1.1.2] ([(s2.2, (-1), ([] : List Int), x1.1)] : List zK) (rC (vP vI (vP vI (vP (vL gn) (vP vB vS)))) rN)<|fun p6 c6=>wN .s 1 2 u (gk 0) u u<|
  fun x2 r_3 p7 c7=>zA 1 u<|zS<|qB<|zN<|jB 3 u<|qE (gv (fun _ k=>k p7 c7 r_3) [0,1] (gq [0,4,5,6])))<|qN<|qM<|qS<|qO<|zL (gv (fun _ k=>k p5 c5 r_2) [0,1] (gq [0,1,2,3])))<|fun s1 _ k p4 c4 r_1=>k<|jA 1 u<|zD<|jA 1 u<|zQ<|
  qT (fun s3 K=>∀ p8 c8 r_4,K [1] [(1, r_4)] [1,2,3] [(5, sv p8 s3.1 c8), (7, vi s3.2.1), (8, vi s3.2.2)] [Al wS 112 r_4 p8 c8 s3.1]) (gv (fun _ k=>k p4 c4 r_1) [0,1] (gq [0,1,2,3]))<|fun s3 _ k p8 c8 r_4=>k<|zD<|
  xG (fun K=>K [1,5,7,8] [] [0,1,2,3] [(43, vb ((s3.2.2 == 1) || (decide (s3.2.1 < (len s3.1)))))] []) (qK<|zA 3 u<|yA (b := s3.2.2 == 1) 38 u (fun hb1=>zA 4 u<|zF (vb true)<|zS<|
  wQ 43 (vb ((s3.2.2 == 1) || (decide (s3.2.1 < (len s3.1))))) u (by rw [hb1]; rfl)<|zL (gv kk [0,1] (gq [0,1,2,3])))<|fun hb1=>zA 4 u<|zF (vb (decide (s3.2.1 < (len s3.1))))<|zS<|
  wQ 43 (vb ((s3.2.2 == 1) || (decide (s3.2.1 < (len s3.1))))) u (by rw [hb1]; rfl)<|zL (gv kk [0,1] (gq [0,1,2,3])))<|fun _ k=>k<|zJ u (jC<|zD<|zQ<|jA 3 u<|zD<|jA 1 u<|zQ<|
  qT (fun s4 K=>∀ p9 c9 r_5,K [1,7,8,9] [(1, r_5)] [1,2,3] [(5, sv p9 s4.1 c9), (10, vi s4.2)] [Al wS 112 r_5 p9 c9 s4.1]) (gv (fun _ k=>k p8 c8 r_4) [0,1] (gq [0,1,2,3]))<|fun s4 _ k p9 c9 r_5=>k<|zD<|zC<|zA 1 u<|zM 1 u<|
  zU 0 u u u<|zA 2 u<|zB<|zJ u (jC<|zD<|zQ<|zC<|zA 2 u<|zM 1 u<|zU 0 u u u<|zA 1 u<|qQ 2 u u u<|fun x3 b3 o2=>zM 3 u<|qP false oL (gf (gs (gs (gs (gk 0))))) u<|fun p10 c10=>
  zZ .s [1] [] zSU u u u ⟨ck 2,ck 0,cn,d⟩<|fun r2 _ k p11 c11=>k<|zA 2 u<|zB<|zQ<|
  qT (fun s5 K=>∀ p12 c12 r_6,K [1,7,8,9,10,63,64] [(1, r_6)] [0,4,5,6] [(5, sv p12 s5.1 c12), (65, vi s5.2)] [Al wS 112 r_6 p12 c12 s5.1]) (gv (fun _ k=>k p9 c9 r_5) [0,1] (gq [3,0,4,5,6]))<|fun s5 _ k p12 c12 r_6=>k<|jA 1 u<|
  zD<|zJ u (jC<|zD<|zQ<|zC<|qQ 1 u u u<|fun x4 b4 o3=>qP false oL (gk 0) u<|fun p13 c13=>zA 1 u<|zB<|zD<|wL (fun s6 K=>K [1,5,7,8,9,10,12,63,64,65] [] [2,3,0,4,5,6] [(89, vb s6)] []) (qK<|zA 2 u<|
  qF zUw u (cq [0])<|fun r3 _ k=>k<|zA 2 u<|wJ 73 u (zA 3 u<|wJ 76 u (zA 3 u<|zF (vb true)<|zF (vb true)<|zA 7 u<|zF (vb true)<|zS<|zL (gv kk [0,1] (gq [2,3,0,4,5,6])))<|zA 3 u<|
  zF (vb (decide (0 < (len x4))))<|zF (vb (decide (0 < (len x4))))<|zA 1 u<|wJ 82 u (zA 6 u<|zF (vb true)<|zS<|zL (gv kk [0,1] (gq [2,3,0,4,5,6])))<|qU 0 3 u u u<|zA 3 u<|
  zZ .s [] [1] zQH u u u ⟨ck 4,ck 5,ck 6,cl 1 2,ck 0,d⟩<|fun r4 _ k=>k<|zA 1 u<|zF (vb (!r4))<|zS<|zL (gv kk [0,1] (gq [2,3,0,4,5,6])))<|zA 7 u<|zF (vb false)<|zA 1 u<|qU 0 3 u u u<|zA 3 u<|
  zZ .s [] [1] zQH u u u ⟨ck 4,ck 5,ck 6,cl 1 2,ck 0,d⟩<|fun r5 _ k=>k<|zA 1 u<|zF (vb (!r5))<|zS<|zL (gv kk [0,1] (gq [2,3,0,4,5,6])))<|fun s6 _ k=>k<|zJ u (qN<|qM<|qO<|zN<|jB 2 u<|
  qE (gv (fun _ k=>k p12 c12 r_6) [0,1] (gq [0,1,3,4,5])))<|jC<|zC<|zA 3 u<|zM 1 u<|zU 0 u u u<|zA 1 u<|qQ 4 u u u<|fun x5 b5 o4=>zM 4 u<|qP true yU (gs (gs (gs (gs (gk 0))))) u<|
  zF (.agg #[vi (-1), vi s4.2, sv p13 x4 c13, vb x5.2.2.2.2.1, vs x5.2.2.2.2.2])<|
  wR .s (e := wS) 112 [vi (-1), vi s4.2, sv p13 x4 c13, vb x5.2.2.2.2.1, vs x5.2.2.2.2.2] ([((-1), s4.2, x4, x5.2.2.2.2)] : List zK) (rC (vP vI (vP vI (vP (vL (gk 3)) (vP vB vS)))) rN)<|fun p14 c14=>
  wN .s 1 2 u (gk 0) u u<|fun x6 r_7 p15 c15=>zA 1 u<|zB<|jA 3 u<|zJ u (jA 2 u<|zG<|qV<|qA<|wT<|qV<|qV<|qA<|wT<|qV<|qA<|qV<|qA<|wT<|qV<|qA<|wK u (lT u (lT u lN)) (fun _ k=>k none 0) [] ⟨gn,d⟩)<|wD<|
  qB<|zN<|jB 2 u<|qE (gv (fun _ k=>k p15 c15 r_7) [0,1] (gq [0,4,6,7,8])))<|qN<|qM<|qS<|qO<|qB<|zN<|jB 3 u<|qE (gv (fun _ k=>k p12 c12 r_6) [0,1] (gq [0,2,3,4])))<|qN<|qM<|qS<|qO<|zN<|jB 2 u<|qB<|zN<|jB 3 u<|
  qE (gv (fun _ k=>k p9 c9 r_5) [0,1] (gq [0,1,2,3])))<|qN<|qM<|qS<|qO<|zN<|jA 3 u<|zG<|wW 1 0 u u<|wK u (lT u (lT u lN)) (fun _ k=>k p8 c8) [] (gq [0])
theorem zUg {qd : Prop} {y0 : List zO} {y1 : zO} : qC qd prog 35 [sv p1 y0 c1, .agg #[vb y1.1, vs y1.2]] [] [Rl wX p1 c1 y0] (zKP y0 y1) fun r K=>∀ p2 c2,K (sv p2 r c2) [] [Rl wX p2 c2 r] :=
 zX call35 func35 u fun X=>zC<|qX .s u<|fun b1=>zA 1 u<|zB<|jA 1 u<|wL (fun s1 K=>K [0,3] [] [0] [(5, vi s1)] []) (zQ<|qT (fun s2 K=>K [0,3] [] [0] [(5, vi s2)] []) (gv kk [0] (gq [0]))<|fun s2 _ k=>k<|zD<|
  wL (fun s3 K=>K [0,3,5] [] [0] [(19, vb s3)] []) (uO [] [0] 13<|zW 8 [0,1,2,3,4] u<|wJ 11 u (zW 6 [5,6] u<|yF 7 0 u u u u<|fun x1 b2 o1=>yD 8 true yU u (gk 0) u<|vM 9 0 2 u u u u<|qH 10<|
  zZ (.f u) [] [] zOc u u u d<|fun r1 _ k=>k<|qD<|zW 1 [11] u<|wP 12 (vb (decide (r1 < 0))) u<|qY<|zL (gv kk [0] (gq [1])))<|zW 1 [5,6,7,8,9,10,11] u<|wP 12 (vb false) u<|qY<|
  zL (gv kk [0] (gq [0])))<|fun s3 _ k=>k<|zJ u (jC<|zQ<|jB 3 u<|qB<|qE (gv kk [0] (gq [0])))<|qN<|qM<|qS<|qO<|zL (gv kk [0] (gq [0])))<|fun s1 _ k=>k<|zD<|
  wL (fun s4 K=>K [0,3,5] [] [0] [(33, vb s4)] []) (uO [] [0] 12<|zW 7 [0,1,2,3,4] u<|wJ 26 u (zW 5 [5,6] u<|yF 7 0 u u u u<|fun x2 b3 o2=>yD 8 true yU u (gk 0) u<|vM 9 0 2 u u u u<|
  wP 10 (vb (x2 == y1)) u<|wP 11 (vb (x2 == y1)) u<|qY<|zL (gv kk [0] (gq [1])))<|zW 1 [5,6,7,8,9,10] u<|wP 11 (vb false) u<|qY<|zL (gv kk [0] (gq [0])))<|fun s4 _ k=>k<|zJ u (jA 2 u<|zG<|qA<|
  zP u u (fun _ k=>k p1 c1) [] (gq [0]))<|jC<|zC<|xH .s (e := wX) 62 [] ([] : List zO) rN<|fun r_1 p2 c2=>zA 2 u<|jsl (gk 1) u u u (.inl ⟨rfl, rfl⟩) (.inr ⟨_, rfl⟩)<|fun x3 p3 c3=>wN .s 1 1 u (gk 0) u u<|
  fun x4 r_2 p4 c4=>zA 1 u<|zB<|yC [] [0] 9<|zW 8 [0] u<|vM 1 0 2 u u u u<|zW 5 [4,5] u<|jdw 6 u (gk 3) u u u (.inr ⟨_, rfl⟩) (.inl ⟨rfl, rfl⟩)<|fun x5 p5 c5=>qH 2<|
  wR (.f u) (e := wX) 62 [vb y1.1, vs y1.2] ([y1] : List zO) (rC (vP vB vS) rN)<|fun p6 c6=>qD<|qH 3<|wN (.f u) 1 2 u (gk 0) u u<|fun x6 r_3 p7 c7=>qD<|qH 7<|wN (.f u) 1 0 u (gk 2) u u<|
  fun x7 r_4 p8 c8=>qD<|zW 0 [8] u<|qY<|zN<|zG<|wW 1 0 u u<|zP u u (fun _ k=>k p8 c8) [] (gq [0])
theorem zQ1 {qd : Prop} {y0 : List zK} {y1 : List Int} : qC qd prog 86 [sv p1 y0 c1, sv p2 y1 c2] [] [Rl wS p1 c1 y0, Rl (zH .i64) p2 c2 y1] (zF4 y0 y1) fun r K=>∀ p3 c3,K (sv p3 r c3) [] [Rl wX p3 c3 r] :=
 zX call86 func86 u fun X=>jA 1 u<|jA 1 u<|zD<|jA 1 u<|zQ<|qT (fun s1 K=>∀ p3 c3,K [0,1] [] [0,1] [(5, sv p3 s1.1 c3), (6, vi s1.2)] [Rl wX p3 c3 s1.1]) (gv (fun _ k=>k none 0) [] ⟨gn,gk 0,gk 1,d⟩)<|fun s1 _ k p3 c3=>k<|zD<|jA 4 u<|zJ u (jC<|
  zD<|zQ<|wL (fun s2 K=>K [0,1,5,6] [] [1,2,0] [(26, vb s2)] []) (qK<|zA 2 u<|qQ 2 u u u<|fun x1 b1 o1=>qP false oI (gk 0) u<|zA 2 u<|wJ 18 u (zA 2 u<|qQ 3 u u u<|fun x2 b2 o2=>qP false oI (gk 0) u<|
  zA 3 u<|zF (vb (decide (x2 < (len y0))))<|zS<|zL (gv kk [] (gq [3,4,2])))<|zA 7 u<|zF (vb false)<|zS<|zL (gv kk [] (gq [2,3,1])))<|fun s2 _ k=>k<|zJ u (qK<|zA 4 u<|qQ 1 u u u<|fun x3 b3 o3=>
  qP false oI (gk 0) u<|qQ 1 u u u<|fun x4 b4 o4=>zM 3 u<|qP true yU (gs (gs (gs (gk 0)))) u<|qF zUg u (cq [4])<|fun r1 _ k p4 c4=>k<|zA 1 u<|zS<|qB<|zN<|jB 3 u<|
  qE (gv (fun _ k=>k p4 c4) [] (gq [0,3,4])))<|wD<|qB<|zN<|jB 3 u<|qE (gv (fun _ k=>k p3 c3) [] (gq [2,0,1])))<|qN<|qM<|qS<|qO<|zN<|jA 2 u<|zG<|zP u u (fun _ k=>k p3 c3) [] (gq [0])
theorem zOA {qd : Prop} {y0 : List zK} {y1 : Int} : qC qd prog 285 [sv p1 y0 c1, vi y1] [] [Rl wS p1 c1 y0] (zGJ y0 y1) fun r K=>∀ p2 c2,K (sv p2 r c2) [] [Rl (zH .i64) p2 c2 r] :=
 zX call285 func285 u fun X=>jA 1 u<|jA 1 u<|zD<|zC<|zA 2 u<|qF zO9 u (cq [0])<|fun r1 _ k p2 c2=>k<|zA 2 u<|zB<|zQ<|
  qT (fun s1 K=>∀ p3 c3,K [0,10,11] [] [1,0] [(5, sv p3 s1.1 c3), (12, vi s1.2)] [Rl (zH .i64) p3 c3 s1.1]) (gv (fun _ k=>k none 0) [] ⟨gn,gk 1,gk 0,d⟩)<|fun s1 _ k p3 c3=>k<|jA 1 u<|zD<|zJ u (jC<|zD<|zQ<|zC<|qQ 2 u u u<|
  fun x1 b1 o1=>qP false oI (gk 0) u<|zA 1 u<|zB<|zC<|zA 2 u<|qQ 2 u u u<|fun x2 b2 o2=>zM 0 u<|qP false oI (gf (gk 0)) u<|zA 1 u<|zB<|zJ u (qK<|zA 3 u<|qQ 3 u u u<|fun x3 b3 o3=>zM 0 u<|
  qP false oI (gf (gk 0)) u<|qF zMa u (cq [3])<|fun r2 _ k p4 c4=>k<|zA 1 u<|zS<|qB<|zN<|jB 2 u<|qE (gv (fun _ k=>k p4 c4) [] (gq [0,5,6])))<|wD<|qB<|zN<|jB 2 u<|qE (gv (fun _ k=>k p3 c3) [] (gq [2,3,4])))<|
  qN<|qM<|qS<|qO<|zN<|jA 2 u<|zG<|zP u u (fun _ k=>k p3 c3) [] (gq [0])
theorem zUX {qd : Prop} {y0 : zT} {y1 : List zK} {y2 : Int} : qC qd prog 225 [.agg (vJ y0 p1 c1 p2 c2 p3 c3).toArray, sv p4 y1 c4, vi y2] [] (vR y0 p1 c1 p2 c2 p3 c3 [Rl wS p4 c4 y1]) (zJX y0 y1 y2) fun r K=>K (vb r) [] [] :=
 zX call225 func225 u fun X=>zC<|qX .s u<|fun b1=>zA 1 u<|zB<|zD<|zC<|zA 2 u<|qF zOA u (cq [3])<|fun r1 _ k p5 c5=>k<|zA 2 u<|zB<|zQ<|qT (fun s1 K=>K [3,11,12] [] [0,1,2,3] [(13, vi s1)] []) (gv kk [0] (gq [0,1,2,3]))<|
  fun s1 _ k=>k<|jA 1 u<|zD<|zJ u (jC<|zD<|zQ<|zC<|qQ 0 u u u<|fun x1 b2 o1=>qP false oI (gk 0) u<|zA 1 u<|zB<|zC<|zM 0 u<|zU 0 u u u<|zA 1 u<|qQ 2 u u u<|fun x2 b3 o2=>zM 2 u<|
  qP false oI (gf (gs (gk 0))) u<|zA 1 u<|zB<|zJ u (jA 1 u<|zG<|qV<|qA<|wT<|qV<|qA<|zP u u kk [] d)<|wD<|qB<|zN<|jB 2 u<|qE (gv kk [0] (gq [2,3,4,5])))<|qN<|qM<|qS<|qO<|zN<|jA 1 u<|
  zG<|zP u u kk [] d
theorem zTK {qd : Prop} (k : Nat) :
    (∀ {y0 : zT} {p1 : Option Addr} {c1 : Nat} {p2 : Option Addr} {c2 : Nat} {p3 : Option Addr} {c3 : Nat} {y1 : List zK} {p4 : Option Addr} {c4 : Nat} {y2 : Int}, qC qd prog 287 [.agg (vJ y0 p1 c1 p2 c2 p3 c3).toArray, sv p4 y1 c4, vi y2] [] (vR y0 p1 c1 p2 c2 p3 c3 [Rl wS p4 c4 y1]) (zH4 k y0 y1 y2) fun r K=>∀ p5 c5,K (sv p5 r c5) [] [Rl (zH .i64) p5 c5 r]) := by
  induction k with
  | zero => exact z2q call287
  | succ k ih =>
    have ih_ref07_Last := @ih
    exact @fun y0 p1 c1 p2 c2 p3 c3 y1 p4 c4 y2=>zX (m1 := zMK (zH4 k) y0 y1 y2) call287 func287 u fun X=>zC<|qX .s u<|fun b1=>zA 1 u<|zB<|zD<|wL (fun s1 K=>K [1,2,3] [] [3,0,1,2] [(24, vb s1)] []) (qK<|zA 3 u<|wJ 11 u (zA 4 u<|zF (vb true)<|zA 7 u<|zF (vb true)<|zS<|zL (gv kk [0] (gq [3,0,1,2])))<|
  zA 4 u<|zF (vb (decide ((len y1) ≤ y2)))<|zA 1 u<|wJ 17 u (zA 6 u<|zF (vb true)<|zS<|zL (gv kk [0] (gq [3,0,1,2])))<|zA 2 u<|qQ 3 u u u<|fun x1 b2 o1=>zM 1 u<|qP false oI (gf (gs (gk 0))) u<|
  zA 1 u<|zF (vb (decide (x1.2.1 < 0)))<|zS<|zL (gv kk [0] (gq [4,1,2,3])))<|fun s1 _ k=>k<|zJ u (jA 1 u<|zG<|qA<|zP u u (fun _ k=>k none 0) [] ⟨gn,d⟩)<|jC<|zD<|yC [] [0] 11<|qR 0 1 u u<|
  wI 1 0 u u u u<|zW 7 [2,3] u<|yF 4 0 u u u u<|fun x2 b3 o2=>qR 5 1 u u<|yD 6 false oI u (gf (gs (gk 0))) u<|yF 7 3 u u u u<|fun x3 b4 o3=>qR 8 1 u u<|yD 9 false oB u (gf (gs (gk 0))) u<|
  zW 0 [10] u<|qY<|zN<|zJ u (zC<|zA 2 u<|qQ 2 u u u<|fun x4 b5 o4=>zM 1 u<|qP false oI (gf (gs (gk 0))) u<|wR .s (e := zH .i64) 3 [vi x4.2.1] ([x4.2.1] : List Int) (rC vI rN)<|fun p5 c5=>zA 1 u<|zB<|zG<|qA<|
  zP u u (fun _ k=>k p5 c5) [] (gq [0]))<|jC<|jA 1 u<|zD<|jA 1 u<|zQ<|
  qT (fun s2 K=>∀ p6 c6,K [1,2,3] [] [2,3,4,5] [(7, sv p6 s2.1 c6), (8, vi s2.2)] [Rl (zH .i64) p6 c6 s2.1]) (gv (fun _ k=>k none 0) [0] ⟨gn,gk 2,gk 3,gk 4,gk 5,d⟩)<|fun s2 _ k p6 c6=>k<|zD<|zC<|zA 3 u<|qQ 1 u u u<|
  fun x5 b6 o5=>zM 2 u<|qP false oL (gf (gs (gs (gk 0)))) u<|fun p7 c7=>zA 2 u<|zB<|zJ u (jC<|zD<|zQ<|uO [] [0] 14<|zW 13 [0] u<|vM 1 0 3 u u u u<|zW 9 [2,3,4] u<|yF 5 3 u u u u<|fun x6 b7 o6=>
  qR 6 2 u u<|yD 7 false oL u (gf (gs (gs (gk 0)))) u<|fun p8 c8=>zW 5 [8] u<|yF 9 0 u u u u<|fun x7 b8 o7=>yD 10 false oI u (gk 0) u<|qH 11<|zZ (.f u) [] [] ih_ref07_Last u u u (cq [7,8,9,6])<|
  fun r1 _ k p9 c9=>k<|qD<|qH 12<|zZ (.f u) [] [] zRW u u u (cq [6,0])<|fun r2 _ k p10 c10=>k<|qD<|zW 0 [13] u<|qY<|qB<|zN<|jB 3 u<|qE (gv (fun _ k=>k p10 c10) [0] (gq [0,8,9,10,11])))<|qN<|qM<|qS<|qO<|zN<|
  jA 2 u<|zG<|zP u u (fun _ k=>k p6 c6) [] (gq [2])
theorem zWm {qd : Prop} {y0 : zT} {y1 : List zK} {y2 : Int} : qC qd prog 287 [.agg (vJ y0 p1 c1 p2 c2 p3 c3).toArray, sv p4 y1 c4, vi y2] [] (vR y0 p1 c1 p2 c2 p3 c3 [Rl wS p4 c4 y1]) (zOd y0 y1 y2) fun r K=>∀ p5 c5,K (sv p5 r c5) [] [Rl (zH .i64) p5 c5 r] := zQr fun k => (zTK k)
theorem zNN {qd : Prop} {y0 : zT} {y1 : List zK} {y2 : Int} : qC qd prog 228 [.agg (vJ y0 p1 c1 p2 c2 p3 c3).toArray, sv p4 y1 c4, vi y2] [] (vR y0 p1 c1 p2 c2 p3 c3 [Rl wS p4 c4 y1]) (zEr y0 y1 y2) fun r K=>∀ p5 c5,K (sv p5 r c5) [] [Rl (zH .i64) p5 c5 r] :=
 zX call228 func228 u fun X=>zC<|qX .s u<|fun b1=>zA 1 u<|zB<|zC<|zA 1 u<|vE (zH .i64) 3<|zB<|zD<|zC<|qU 0 3 u u u<|zA 2 u<|qF zWm u (cq [1,2,3,4])<|fun r1 _ k p5 c5=>k<|zA 2 u<|zB<|zQ<|
  qT (fun s1 K=>∀ p6 c6 r_1,K [3,13,14] [(1, r_1)] [0,2,3,4] [(7, sv p6 s1.1 c6), (15, vi s1.2)] [Al (zH .i64) 3 r_1 p6 c6 s1.1]) (gv (fun _ k=>k none 0 []) [0,1] (gq [1,0,2,3,4]))<|fun s1 _ k p6 c6 r_1=>k<|jA 1 u<|zD<|zJ u (jC<|
  zD<|zQ<|zC<|qQ 1 u u u<|fun x1 b2 o1=>qP false oI (gk 0) u<|zA 1 u<|zB<|qK<|zA 1 u<|zM 1 u<|zU 0 u u u<|zA 1 u<|qQ 4 u u u<|fun x2 b3 o2=>zM 2 u<|qP false oI (gf (gs (gs (gk 0)))) u<|
  wR .s (e := zH .i64) 3 [vi x2.2.2.1] ([x2.2.2.1] : List Int) (rC vI rN)<|fun p7 c7=>wN .s 1 3 u (gk 0) u u<|fun x3 r_2 p8 c8=>zA 1 u<|zS<|qB<|zN<|jB 2 u<|qE (gv (fun _ k=>k p8 c8 r_2) [0,1] (gq [0,5,6,7,8])))<|qN<|qM<|
  qS<|qO<|zN<|jA 2 u<|zG<|wW 1 0 u u<|zP u u (fun _ k=>k p6 c6) [] (gq [0])
theorem zE7 {qd : Prop} {y0 : zT} {y1 : List zK} {y2 : Int} : qC qd prog 227 [.agg (vJ y0 p1 c1 p2 c2 p3 c3).toArray, sv p4 y1 c4, vi y2] [] (vR y0 p1 c1 p2 c2 p3 c3 [Rl wS p4 c4 y1]) (zCE y0 y1 y2) fun r K=>∀ p5 c5,K (sv p5 r c5) [] [Rl (zH .i64) p5 c5 r] :=
 zX call227 func227 u fun X=>zC<|qX .s u<|fun b1=>zA 1 u<|zB<|zC<|zA 1 u<|vE (zH .i64) 3<|zB<|zD<|zC<|zA 2 u<|qF zOA u (cq [4])<|fun r1 _ k p5 c5=>k<|zA 2 u<|zB<|zQ<|
  qT (fun s1 K=>∀ p6 c6 r_1,K [3,12,13] [(1, r_1)] [0,2,3,4] [(7, sv p6 s1.1 c6), (14, vi s1.2)] [Al (zH .i64) 3 r_1 p6 c6 s1.1]) (gv (fun _ k=>k none 0 []) [0,1] (gq [1,0,2,3,4]))<|fun s1 _ k p6 c6 r_1=>k<|jA 1 u<|zD<|zJ u (jC<|
  zD<|zQ<|zC<|qQ 1 u u u<|fun x1 b2 o1=>qP false oI (gk 0) u<|zA 1 u<|zB<|zC<|zM 0 u<|zU 0 u u u<|zA 1 u<|qQ 3 u u u<|fun x2 b3 o2=>zM 2 u<|qP false oI (gf (gs (gk 0))) u<|zB<|zQ<|jA 2 u<|
  zJ u (qK<|zA 1 u<|zM 0 u<|zU 0 u u u<|zA 1 u<|qQ 4 u u u<|fun x3 b4 o3=>zM 3 u<|qP false oI (gf (gs (gs (gk 0)))) u<|wR .s (e := zH .i64) 3 [vi x3.2.2.1] ([x3.2.2.1] : List Int) (rC vI rN)<|fun p7 c7=>
  wN .s 1 4 u (gk 0) u u<|fun x4 r_2 p8 c8=>zA 1 u<|zS<|qB<|qB<|zN<|jB 2 u<|qE (gv (fun _ k=>k p8 c8 r_2) [0,1] (gq [0,6,7,8,9])))<|jA 2 u<|zJ u (qK<|zA 1 u<|
  wR .s (e := zH .i64) 3 [vi (-1)] ([(-1)] : List Int) (rC vI rN)<|fun p9 c9=>wN .s 1 3 u (gk 0) u u<|fun x5 r_3 p10 c10=>zA 1 u<|zS<|qB<|qB<|zN<|jB 2 u<|qE (gv (fun _ k=>k p10 c10 r_3) [0,1] (gq [0,5,6,7,8])))<|wD<|qB<|
  qB<|zN<|jB 2 u<|qE (gv (fun _ k=>k p6 c6 r_1) [0,1] (gq [2,3,4,5,6])))<|qN<|qM<|qS<|qO<|zN<|jA 2 u<|zG<|wW 1 0 u u<|zP u u (fun _ k=>k p6 c6) [] (gq [0])
theorem zMl {qd : Prop} {y0 : zT} {y1 : List zK} {y2 : Int} : qC qd prog 229 [.agg (vJ y0 p1 c1 p2 c2 p3 c3).toArray, sv p4 y1 c4, vi y2] [] (vR y0 p1 c1 p2 c2 p3 c3 [Rl wS p4 c4 y1]) (zEt y0 y1 y2) fun r K=>∀ p5 c5,K (sv p5 r c5) [] [Rl (zH .i64) p5 c5 r] :=
 zX call229 func229 u fun X=>zC<|qX .s u<|fun b1=>zA 1 u<|zB<|zC<|zA 1 u<|vE (zH .i64) 3<|zB<|zD<|zC<|qU 0 3 u u u<|zA 2 u<|qF zJM u (cq [1,2,3,4])<|fun r1 _ k p5 c5=>k<|zA 2 u<|zB<|zQ<|
  qT (fun s1 K=>∀ p6 c6 r_1,K [3,13,14] [(1, r_1)] [0,2,3,4] [(7, sv p6 s1.1 c6), (15, vi s1.2)] [Al (zH .i64) 3 r_1 p6 c6 s1.1]) (gv (fun _ k=>k none 0 []) [0,1] (gq [1,0,2,3,4]))<|fun s1 _ k p6 c6 r_1=>k<|jA 1 u<|zD<|zJ u (jC<|
  zD<|zQ<|zC<|qQ 1 u u u<|fun x1 b2 o1=>qP false oI (gk 0) u<|zA 1 u<|zB<|qK<|zA 1 u<|zM 1 u<|zU 0 u u u<|zA 1 u<|qQ 4 u u u<|fun x2 b3 o2=>zM 2 u<|qP false oI (gf (gs (gs (gk 0)))) u<|
  wR .s (e := zH .i64) 3 [vi x2.2.2.1] ([x2.2.2.1] : List Int) (rC vI rN)<|fun p7 c7=>wN .s 1 3 u (gk 0) u u<|fun x3 r_2 p8 c8=>zA 1 u<|zS<|qB<|zN<|jB 2 u<|qE (gv (fun _ k=>k p8 c8 r_2) [0,1] (gq [0,5,6,7,8])))<|qN<|qM<|
  qS<|qO<|zN<|jA 2 u<|zG<|wW 1 0 u u<|zP u u (fun _ k=>k p6 c6) [] (gq [0])
theorem zOG {qd : Prop} {y0 : List Int} : qC qd prog 286 [sv p1 y0 c1] [] [Rl (zH .i64) p1 c1 y0] (zFt y0) fun r K=>K (.tuple #[vi r.1, vi r.2]) [] [] :=
 zX call286 func286 u fun X=>jA 2 u<|yC [] [] 8<|zW 7 [0] u<|yF 1 0 u u u u<|fun x1 b1 o1=>yD 2 false oI u (gk 0) u<|zW 4 [3] u<|yF 4 1 u u u u<|fun x2 b2 o2=>yD 5 false oI u (gk 0) u<|zW 0 [6,7] u<|qY<|zN<|zD<|jA 1 u<|zQ<|
  qT (fun s1 K=>K [0] [] [2] [(4, vi s1.1), (5, vi s1.2.1), (6, vi s1.2.2)] []) (gv kk [] (gq [2]))<|fun s1 _ k=>k<|zD<|jA 4 u<|zJ u (jC<|zD<|zQ<|uO [] [] 14<|zW 11 [0,1,2] u<|yF 3 0 u u u u<|fun x3 b3 o3=>
  yD 4 false oI u (gk 0) u<|zW 5 [5,6,7,8] u<|yF 9 1 u u u u<|fun x4 b4 o4=>yD 10 false oI u (gk 0) u<|zW 0 [11,12,13] u<|qY<|qB<|zN<|jB 3 u<|qE (gv kk [] (gq [2])))<|qN<|qM<|qS<|qO<|zN<|
  jA 4 u<|zG<|wK u (lT u (lT u lN)) kk [] d
theorem zLd {qd : Prop} {y0 : List Int} {y1 : List Int} {y2 : Int} : qC qd prog 226 [sv p1 y0 c1, sv p2 y1 c2, vi y2] [] [Rl (zH .i64) p1 c1 y0, Rl (zH .i64) p2 c2 y1] (zEk y0 y1 y2) fun r K=>K (vb r) [] [] :=
 zX call226 func226 u fun X=>jA 1 u<|zD<|xG (fun K=>K [0,1,2] [] [0,1] [(21, vb (if y2 != 1 then (y2 != 2) || ((len y0) == 0) else (len y0) == 0))] []) (qK<|zA 3 u<|yA (b := y2 != 1) 13 u (fun hb1=>zA 2 u<|zF (vb (y2 != 2))<|zA 1 u<|
  yA (b := y2 != 2) 17 u (fun hb2=>zA 3 u<|zF (vb true)<|zS<|wQ 21 (vb (if y2 != 1 then (y2 != 2) || ((len y0) == 0) else (len y0) == 0)) u (by rw [hb1,hb2]; rfl)<|zL (gv kk [] (gq [0,1])))<|fun hb2=>zA 3 u<|
  zF (vb ((len y0) == 0))<|zS<|wQ 21 (vb (if y2 != 1 then (y2 != 2) || ((len y0) == 0) else (len y0) == 0)) u (by rw [hb1,hb2]; rfl)<|zL (gv kk [] (gq [0,1])))<|fun hb1=>zA 2 u<|zF (vb false)<|zA 4 u<|
  zF (vb ((len y0) == 0))<|zS<|wQ 21 (vb (if y2 != 1 then (y2 != 2) || ((len y0) == 0) else (len y0) == 0)) u (by rw [hb1]; rfl)<|zL (gv kk [] (gq [0,1])))<|fun _ k=>k<|zJ u (jA 1 u<|zG<|qA<|
  zP u u kk [] d)<|jC<|zD<|jA 3 u<|zJ u (jA 1 u<|zG<|qA<|zP u u kk [] d)<|jC<|zC<|zA 1 u<|qF zOG u (cq [0])<|fun r1 _ k=>k<|zA 5 u<|zB<|zC<|zA 1 u<|
  qF zOG u (cq [1])<|fun r2 _ k=>k<|zA 5 u<|zB<|zD<|jA 2 u<|zJ u (jA 4 u<|zG<|qA<|zP u u kk [] d)<|jC<|jA 4 u<|zG<|zP u u kk [] d
theorem zXo {qd : Prop} {y0 : zT} {y1 : List zK} {y2 : Int} {y3 : Int} {y4 : yB} : qC qd prog 152 [.agg (vJ y0 p1 c1 p2 c2 p3 c3).toArray, sv p4 y1 c4, vi y2, vi y3, .agg #[vi y4.1, vi y4.2]] [] (vR y0 p1 c1 p2 c2 p3 c3 [Rl wS p4 c4 y1]) (zK5 y0 y1 y2 y3 y4) fun r K=>K (vb r) [] [] :=
 zX call152 func152 u fun X=>zC<|qX .s u<|fun b1=>qX .s u<|fun b2=>zA 1 u<|zB<|zD<|wL (fun s1 K=>K [1,2,3,5,9] [] [3,0,1,2] [(40, vb s1)] []) (qK<|zA 3 u<|wJ 19 u (zA 4 u<|zF (vb true)<|zA 3 u<|zF (vb true)<|zA 5 u<|zF (vb true)<|
  zA 5 u<|zF (vb true)<|zS<|zL (gv kk [0,1] (gq [3,0,1,2])))<|zA 4 u<|zF (vb (decide ((len y1) ≤ y2)))<|zA 1 u<|wJ 25 u (zA 2 u<|zF (vb true)<|zA 5 u<|zF (vb true)<|zA 5 u<|zF (vb true)<|zS<|
  zL (gv kk [0,1] (gq [3,0,1,2])))<|zA 2 u<|zF (vb (decide (y3 < 0)))<|zA 1 u<|wJ 29 u (zA 4 u<|zF (vb true)<|zA 5 u<|zF (vb true)<|zS<|zL (gv kk [0,1] (gq [3,0,1,2])))<|zA 4 u<|
  zF (vb (decide ((len y1) ≤ y3)))<|zA 1 u<|wJ 35 u (zA 4 u<|zF (vb true)<|zS<|zL (gv kk [0,1] (gq [3,0,1,2])))<|qU 0 3 u u u<|zA 2 u<|qF zUX u (cq [0,1,2,3])<|fun r1 _ k=>k<|zF (vb r1)<|zS<|
  zL (gv kk [0,1] (gq [3,0,1,2])))<|fun s1 _ k=>k<|zJ u (jA 1 u<|zG<|qA<|zP u u kk [] d)<|jC<|yC [] [0, 1] 12<|vM 0 0 3 u u u u<|zW 9 [1,2] u<|vM 4 0 3 u u u u<|zW 6 [5,6] u<|
  qR 8 1 u u<|wI 9 1 u u u u<|qH 3<|zZ (.f u) [] [] zE7 u u u (cq [1,2,3,0])<|fun r2 _ k p5 c5=>k<|qD<|qH 7<|zZ (.f u) [] [] zE7 u u u (cq [2,3,4,1])<|fun r3 _ k p6 c6=>k<|
  qD<|qH 10<|zZ (.f u) [] [] zLd u u u (cq [1,0])<|fun r4 _ k=>k<|qD<|zW 0 [11] u<|qY<|zN<|zD<|zC<|zM 0 u<|zU 1 u u u<|zB<|zQ<|jA 2 u<|zJ u (yC [] [0] 10<|vM 0 0 3 u u u u<|
  zW 7 [1,2] u<|vM 4 0 3 u u u u<|zW 4 [5,6] u<|qH 3<|zZ (.f u) [] [] zNN u u u (cq [3,4,5,2])<|fun r5 _ k p7 c7=>k<|qD<|qH 7<|zZ (.f u) [] [] zNN u u u (cq [4,5,6,3])<|
  fun r6 _ k p8 c8=>k<|qD<|zW 0 [8,9] u<|qY<|zN<|jjn (fun s2 K=>K [(10, vb s2)] [[], []] []) (qK<|zA 2 u<|zM 1 u<|zU 1 u u u<|qF zLd u (cq [1,0])<|fun r7 _ k=>k<|zA 1 u<|wJ 69 u (zA 11 u<|
  zF (vb true)<|zA 1 u<|zS<|zL (gv kk [900,901] d))<|zA 4 u<|wJ 73 u (zA 3 u<|zF (vb ((len r6) == 0))<|zA 1 u<|wJ 78 u (zA 1 u<|zF (vb r4)<|zF (vb r4)<|zA 1 u<|zS<|zL (gv kk [900,901] d)
  )<|zA 1 u<|zF (vb false)<|zF (vb false)<|zA 1 u<|zS<|zL (gv kk [900,901] d))<|zA 3 u<|zF (vb false)<|zA 2 u<|zF (vb false)<|zF (vb false)<|zA 1 u<|zS<|zL (gv kk [900,901] d))<|fun s2 _ k=>k<|
  zG<|qV<|qA<|zP u u kk [] d)<|jA 2 u<|zJ u (yC [] [0] 10<|vM 0 0 3 u u u u<|zW 7 [1,2] u<|vM 4 0 3 u u u u<|zW 4 [5,6] u<|qH 3<|
  zZ (.f u) [] [] zMl u u u (cq [3,4,5,2])<|fun r8 _ k p9 c9=>k<|qD<|qH 7<|zZ (.f u) [] [] zMl u u u (cq [4,5,6,3])<|fun r9 _ k p10 c10=>k<|qD<|zW 0 [8,9] u<|qY<|zN<|zD<|
  xG (fun K=>K [1,2,3,5,9,11,14,15] [] [4,1,0,5,6,7] [(99, vb (((len r8) == 0) && ((len r9) == 0)))] []) (qK<|zA 4 u<|yA (b := (len r8) == 0) 95 u (fun hb8=>zA 3 u<|zF (vb ((len r9) == 0))<|zS<|
  wQ 99 (vb (((len r8) == 0) && ((len r9) == 0))) u (by rw [hb8]; rfl)<|zL (gv kk [0,1] (gq [4,1,0,5,6,7])))<|fun hb8=>zA 3 u<|zF (vb false)<|zS<|wQ 99 (vb (((len r8) == 0) && ((len r9) == 0))) u (by rw [hb8]; rfl)<|
  zL (gv kk [0,1] (gq [4,1,0,5,6,7])))<|fun _ k=>k<|zJ u (jA 2 u<|zG<|qA<|qV<|qA<|zP u u kk [] d)<|jC<|zC<|zA 2 u<|zM 1 u<|zU 1 u u u<|qF zLd u (cq [1,2])<|fun r10 _ k=>k<|
  zA 1 u<|zB<|zD<|wL (fun s3 K=>K [11,16] [(0, []), (1, [])] [] [(119, vb s3)] []) (qK<|qU 0 3 u u u<|zA 2 u<|qF zE7 u (cq [3,4,5,0])<|fun r11 _ k p11 c11=>k<|zA 3 u<|wJ 112 u (qU 0 3 u u u<|
  zA 2 u<|qF zE7 u (cq [4,5,6,1])<|fun r12 _ k p12 c12=>k<|zA 2 u<|zF (vb ((len r12) == 0))<|zS<|zL (gv kk [900,901] d))<|zA 6 u<|zF (vb false)<|zS<|zL (gv kk [900,901] d))<|
  fun s3 _ k=>k<|zJ u (jA 2 u<|zG<|qA<|qV<|qA<|zP u u kk [] d)<|jC<|jjp (fun K=>K [(10, vb (r4 && r10))] [[], []] []) (qK<|zA 2 u<|yA (b := r4) 122 u (fun hb10=>zA 1 u<|zF (vb r10)<|zA 1 u<|zS<|
  wQ 10 (vb (r4 && r10)) u (by rw [hb10]; rfl)<|zL (gv kk [900,901] d))<|fun hb10=>zA 1 u<|zF (vb false)<|zA 1 u<|zS<|wQ 10 (vb (r4 && r10)) u (by rw [hb10]; rfl)<|zL (gv kk [900,901] d))<|fun _ k=>k<|
  zG<|qV<|qA<|zP u u kk [] d)<|wD<|qB<|zN<|jA 1 u<|zG<|zP u u kk [] d
theorem zRA {qd : Prop} {y0 : zO} : qC qd prog 38 [.agg #[vb y0.1, vs y0.2]] [] [] (zJ5 y0) fun r K=>K (.agg #[vb r.1, vs r.2]) [] [] :=
 zX call38 func38 u fun X=>zC<|qX .s u<|fun b1=>wO .s (.agg #[vb false, vs []])<|fun b2=>zB<|zC<|zM 0 u<|zU 0 u u u<|zA 1 u<|zM 1 u<|zU 0 u u u<|zF (.agg #[vb (!y0.1), vs y0.2])<|qL .s 1 u u u<|zB<|zG<|
  wK u (lC 1 (.agg #[vb (!y0.1), vs y0.2]) u u lN) kk [] d
theorem zTe {qd : Prop} {y0 : zT} {y1 : List zK} {y2 : Int} {y3 : Int} {y4 : Int} : qC qd prog 224 [.agg (vJ y0 p1 c1 p2 c2 p3 c3).toArray, sv p4 y1 c4, vi y2, vi y3, vi y4] [] (vR y0 p1 c1 p2 c2 p3 c3 [Rl wS p4 c4 y1]) (zJA y0 y1 y2 y3 y4) fun r K=>K (vb r) [] [] :=
 zX call224 func224 u fun X=>zC<|qX .s u<|fun b1=>zA 1 u<|zB<|yC [] [] 13<|zW 11 [0,1] u<|yF 2 3 u u u u<|fun x1 b2 o1=>qR 3 3 u u<|yD 4 true yU u (gs (gs (gs (gk 0)))) u<|zW 6 [5,6] u<|yF 7 4 u u u u<|fun x2 b3 o2=>
  qR 8 3 u u<|yD 9 true yU u (gs (gs (gs (gk 0)))) u<|qH 10<|zZ (.f u) [] [] zRA u u u d<|fun r1 _ k=>k<|qD<|wP 11 (vb (x1.2.2.2 == r1)) u<|zW 0 [12] u<|qY<|zN<|zD<|zC<|zA 2 u<|
  qQ 5 u u u<|fun x3 b4 o3=>zM 1 u<|qP false oI (gf (gs (gk 0))) u<|zA 1 u<|zB<|zJ u (jjn (fun s1 K=>K [(10, vb s1)] [[]] []) (uO [] [0] 19<|zW 16 [0,1,2] u<|wJ 33 u (qR 3 0 u u<|wI 4 0 u u u u<|
  zW 12 [5,6] u<|yF 7 6 u u u u<|fun x4 b5 o4=>qR 8 0 u u<|yD 9 false oI u (gf (gk 0)) u<|yF 10 4 u u u u<|fun x5 b6 o5=>qR 11 2 u u<|yD 12 false oI u (gf (gs (gk 0))) u<|zW 5 [13] u<|
  wP 14 (vb (x5.2.1 != 1)) u<|zW 3 [15] u<|wJ 46 u (zW 2 [16] u<|wP 17 (vb (x1.2.2.2 == r1)) u<|zW 0 [18] u<|qY<|zL (gv kk [900] d))<|zW 2 [16] u<|wP 17 (vb false) u<|zW 0 [18] u<|qY<|
  zL (gv kk [900] d))<|zW 5 [3,4,5,6,7,8,9,10,11,12,13] u<|wP 14 (vb false) u<|zW 2 [15,16] u<|wP 17 (vb false) u<|zW 0 [18] u<|qY<|zL (gv kk [900] d))<|fun s1 _ k=>k<|zG<|qA<|
  zP u u kk [] d)<|jC<|yC [] [0] 11<|qR 0 1 u u<|wI 1 0 u u u u<|zW 7 [2,3] u<|yF 4 6 u u u u<|fun x6 b7 o6=>qR 5 1 u u<|yD 6 false oI u (gf (gs (gk 0))) u<|yF 7 5 u u u u<|
  fun x7 b8 o7=>yD 8 true zQF u (gk 0) u<|fun p5 c5=>qH 9<|wO (.f u) (.agg #[vs [], vb false, vi 0, .slice none 0 0, vb false, vs []])<|fun b9=>qD<|qH 10<|qL (o := 0) (.f u) 1 u u u<|qD<|qY<|zN<|zD<|jA 1 u<|zQ<|
  jA 2 u<|zJ u (jjp (fun K=>K [(10, vb ((!x7.2.1) && (x1.2.2.2 == r1)))] [[], []] []) (qK<|zM 1 u<|zU 1 u u u<|zA 2 u<|yA (b := !x7.2.1) 64 u (fun hb3=>zA 1 u<|zF (vb (x1.2.2.2 == r1))<|zA 1 u<|zS<|
  wQ 10 (vb ((!x7.2.1) && (x1.2.2.2 == r1))) u (by rw [hb3]; rfl)<|zL (gv kk [900,901] d))<|fun hb3=>zA 1 u<|zF (vb false)<|zA 1 u<|zS<|wQ 10 (vb ((!x7.2.1) && (x1.2.2.2 == r1))) u (by rw [hb3]; rfl)<|
  zL (gv kk [900,901] d))<|fun _ k=>k<|zG<|qV<|qA<|zP u u kk [] d)<|jA 2 u<|zJ u (jjn (fun s2 K=>K [(10, vb s2)] [[], []] []) (uO [] [1] 15<|qR 0 1 u u<|wI 1 1 u u u u<|zW 11 [2,3] u<|
  wJ 72 u (zW 9 [4,5] u<|yF 6 9 u u u u<|fun x8 b10 o8=>qR 7 3 u u<|yD 8 true yU u (gs (gs (gs (gk 0)))) u<|qR 9 0 u u<|wI 10 1 u u u u<|wP 11 (.agg #[vb true, vs x7.1]) u<|
  wP 12 (vb (x8.2.2.2 == (true, x7.1))) u<|wP 13 (vb (x8.2.2.2 == (true, x7.1))) u<|zW 0 [14] u<|qY<|zL (gv kk [900,901] d))<|zW 2 [4,5,6,7,8,9,10,11,12] u<|wP 13 (vb false) u<|zW 0 [14] u<|qY<|
  zL (gv kk [900,901] d))<|fun s2 _ k=>k<|zG<|qV<|qA<|zP u u kk [] d)<|wD<|qB<|zN<|jA 1 u<|zG<|zP u u kk [] d
theorem zUR {qd : Prop} {y0 : zT} {y1 : List zK} : qC qd prog 151 [.agg (vJ y0 p1 c1 p2 c2 p3 c3).toArray, sv p4 y1 c4] [] (vR y0 p1 c1 p2 c2 p3 c3 [Rl wS p4 c4 y1]) (zJ7 y0 y1) fun r K=>∀ p5 c5,K (sv p5 r c5) [] [Rl uU p5 c5 r] :=
 zX call151 func151 u fun X=>zC<|qX .s u<|fun b1=>zA 1 u<|zB<|zC<|zA 1 u<|vE uU 123<|zB<|zD<|jA 1 u<|zQ<|
  qT (fun s1 K=>∀ p5 c5 r_1,K [1,2] [(1, r_1)] [4,1,2,3] [(5, sv p5 s1.1 c5), (6, vi s1.2)] [Al uU 123 r_1 p5 c5 s1.1]) (gv (fun _ k=>k none 0 []) [0,1] (gq [0,4,1,2,3]))<|fun s1 _ k p5 c5 r_1=>k<|zD<|jA 4 u<|zJ u (jC<|zD<|
  zQ<|jA 1 u<|zQ<|qT (fun s2 K=>∀ p6 c6 r_2,K [1,2,6] [(1, r_2)] [1,2,3,4] [(5, sv p6 s2.1 c6), (7, vi s2.2)] [Al uU 123 r_2 p6 c6 s2.1]) (gv (fun _ k=>k p5 c5 r_1) [0,1] (gq [0,1,2,3,4]))<|fun s2 _ k p6 c6 r_2=>k<|zD<|jA 4 u<|
  zJ u (jC<|zD<|zQ<|zC<|zA 2 u<|qF zO9 u (cq [1])<|fun r1 _ k p7 c7=>k<|zA 2 u<|zB<|zQ<|
  qT (fun s3 K=>∀ p8 c8 r_3,K [1,2,6,7,25,26] [(1, r_3)] [2,0,3,4,5] [(5, sv p8 s3.1 c8), (27, vi s3.2)] [Al uU 123 r_3 p8 c8 s3.1]) (gv (fun _ k=>k p6 c6 r_2) [0,1] (gq [1,2,0,3,4,5]))<|fun s3 _ k p8 c8 r_3=>k<|jA 1 u<|zD<|
  zJ u (jC<|zD<|zQ<|zC<|qQ 2 u u u<|fun x1 b2 o1=>qP false oI (gk 0) u<|zA 1 u<|zB<|jA 1 u<|zQ<|
  qT (fun s4 K=>∀ p9 c9 r_4,K [1,2,6,7,9,25,26,27] [(1, r_4)] [2,3,4,5,6] [(5, sv p9 s4.1 c9), (10, vi s4.2)] [Al uU 123 r_4 p9 c9 s4.1]) (gv (fun _ k=>k p8 c8 r_3) [0,1] (gq [1,2,3,4,5,6]))<|fun s4 _ k p9 c9 r_4=>k<|zD<|jA 2 u<|
  zJ u (jC<|zD<|zQ<|zC<|qU 0 3 u u u<|zA 4 u<|qF zTe u (cq [3,4,5,1])<|fun r2 _ k=>k<|zB<|zJ u (qK<|zA 5 u<|zF (.agg #[vi s1.2, vi s2.2, vi x1, vi s4.2])<|
  wR .s (e := uU) 123 [vi s1.2, vi s2.2, vi x1, vi s4.2] ([(s1.2, s2.2, x1, s4.2)] : List wA) (rC (vP vI (vP vI (vP vI vI))) rN)<|fun p10 c10=>wN .s 1 1 u (gk 0) u u<|fun x2 r_5 p11 c11=>zA 1 u<|zS<|qB<|zN<|
  jB 3 u<|qE (gv (fun _ k=>k p11 c11 r_5) [0,1] (gq [0,3,4,5,6,7])))<|wD<|qB<|zN<|jB 3 u<|qE (gv (fun _ k=>k p9 c9 r_4) [0,1] (gq [0,1,2,3,4,5])))<|qN<|qM<|qS<|qO<|qB<|zN<|jB 2 u<|
  qE (gv (fun _ k=>k p9 c9 r_4) [0,1] (gq [0,1,2,3,4,5])))<|qN<|qM<|qS<|qO<|qB<|zN<|jB 3 u<|qE (gv (fun _ k=>k p8 c8 r_3) [0,1] (gq [0,1,3,4,5])))<|qN<|qM<|qS<|qO<|qB<|zN<|jB 3 u<|
  qE (gv (fun _ k=>k p6 c6 r_2) [0,1] (gq [0,1,2,3,4])))<|qN<|qM<|qS<|qO<|zN<|jA 2 u<|zG<|wW 1 0 u u<|zP u u (fun _ k=>k p5 c5) [] (gq [0])
theorem zO8 {qd : Prop} {y0 : zT} {y1 : List zK} {y2 : yB} : qC qd prog 85 [.agg (vJ y0 p1 c1 p2 c2 p3 c3).toArray, sv p4 y1 c4, .agg #[vi y2.1, vi y2.2]] [] (vR y0 p1 c1 p2 c2 p3 c3 [Rl wS p4 c4 y1]) (zH0 y0 y1 y2) fun r K=>∀ p5 c5,K (sv p5 r c5) [] [Rl uU p5 c5 r] :=
 zX call85 func85 u fun X=>zC<|qX .s u<|fun b1=>qX .s u<|fun b2=>zA 1 u<|zB<|zC<|zA 1 u<|vE uU 123<|zB<|zC<|qU 0 3 u u u<|zA 1 u<|qF zUR u (cq [1,2,3,4])<|fun r1 _ k p5 c5=>k<|zA 1 u<|zB<|zD<|jA 1 u<|zQ<|
  qT (fun s1 K=>∀ p6 c6 r_1,K [1,3,5,8] [(2, r_1)] [5,0,2,3,4] [(7, sv p6 s1.1 c6), (9, vi s1.2)] [Al uU 123 r_1 p6 c6 s1.1]) (gv (fun _ k=>k none 0 []) [0,1,2] (gq [1,5,0,2,3,4]))<|fun s1 _ k p6 c6 r_1=>k<|zD<|jA 4 u<|zJ u (
  jC<|zD<|zQ<|wL (fun s2 K=>K [1,3,5,7,8,9] [] [1,0,2,3,4,5] [(41, vb s2)] []) (uO [] [0, 1] 23<|zW 21 [0,1] u<|yF 2 2 u u u u<|fun x1 b3 o1=>qR 3 3 u u<|yD 4 false oI u (gs (gs (gs (gk 0)))) u<|zW 16 [5,6] u<|
  wJ 25 u (zW 1 [7,8,9,10,11,12,13,14,15,16,17,18,19,20,21] u<|wP 22 (vb true) u<|qY<|zL (gv kk [0,1,2] (gq [2,1,3,4,5,6])))<|vM 7 0 3 u u u u<|zW 12 [8,9,10] u<|yF 11 3 u u u u<|fun x2 b4 o2=>
  qR 12 0 u u<|yD 13 false oI u (gf (gk 0)) u<|zW 7 [14,15] u<|yF 16 4 u u u u<|fun x3 b5 o3=>qR 17 2 u u<|yD 18 false oI u (gf (gs (gs (gk 0)))) u<|vM 19 1 2 u u u u<|qH 20<|
  zZ (.f u) [] [] zXo u u u (cq [6,7,8,4])<|fun r2 _ k=>k<|qD<|zW 1 [21] u<|wP 22 (vb (!r2)) u<|qY<|zL (gv kk [0,1,2] (gq [4,3,5,6,7,8])))<|fun s2 _ k=>k<|zJ u (qK<|zA 3 u<|qQ 2 u u u<|
  fun x4 b6 o4=>qP true zTR (gk 0) u<|wR .s (e := uU) 123 [vi x4.1, vi x4.2.1, vi x4.2.2.1, vi x4.2.2.2] ([x4] : List wA) (rC (vP vI (vP vI (vP vI vI))) rN)<|fun p7 c7=>wN .s 2 3 u (gk 0) u u<|fun x5 r_2 p8 c8=>
  zA 1 u<|zS<|qB<|zN<|jB 3 u<|qE (gv (fun _ k=>k p8 c8 r_2) [0,1,2] (gq [0,3,5,6,7,8])))<|wD<|qB<|zN<|jB 3 u<|qE (gv (fun _ k=>k p6 c6 r_1) [0,1,2] (gq [1,0,2,3,4,5])))<|qN<|qM<|qS<|qO<|zN<|jA 2 u<|zG<|wW 2 0 u u<|
  zP u u (fun _ k=>k p6 c6) [] (gq [0])
theorem zRn {qd : Prop} {y0 : Int} {y1 : List wA} : qC qd prog 84 [vi y0, sv p1 y1 c1] [] [Rl uU p1 c1 y1] (zJR y0 y1) fun r K=>∀ p2 c2,K (.tuple #[.agg (yM r.1 p2 c2).toArray, vi r.2]) [] [Rl vA p2 c2 r.1.2] :=
 zX call84 func84 u fun X=>zC<|wO .s (.agg #[vi 0, .slice none 0 0])<|fun b1=>zA 1 u<|zB<|zD<|xG (fun K=>K [0,1,4] [] [0] [(17, vb ((decide (y0 < 0)) || (decide (40 < y0))))] []) (qK<|zA 3 u<|yA (b := decide (y0 < 0)) 14 u (fun hb1=>zA 2 u<|
  zF (vb true)<|zS<|wQ 17 (vb ((decide (y0 < 0)) || (decide (40 < y0)))) u (by rw [hb1]; rfl)<|zL (gv kk [0] (gq [0])))<|fun hb1=>zA 2 u<|zF (vb (decide (40 < y0)))<|zS<|
  wQ 17 (vb ((decide (y0 < 0)) || (decide (40 < y0)))) u (by rw [hb1]; rfl)<|zL (gv kk [0] (gq [0])))<|fun _ k=>k<|zJ u (zC<|zF (.agg #[vi 0, .slice none 0 0])<|qL .s 0 u u u<|zA 1 u<|zB<|zG<|qA<|
  wK u (lC 0 (.agg #[vi 0, .slice none 0 0]) u u (lT u lN)) (fun _ k=>k none 0) [] ⟨gn,d⟩)<|jC<|zY8 (fun s1 K=>K [0,1,4] [] [0] [] []) (jA 1 u<|zQ<|
  qT (fun s2 K=>K [0,1,4] [] [0] [(6, vi s2)] []) (gv kk [0] (gq [0]))<|fun s2 _ k=>k<|zD<|jA 4 u<|zJ u (jC<|zD<|zQ<|wL (fun s3 K=>K [0,1,4,6] [] [0] [(56, vb s3)] []) (qK<|zA 2 u<|qQ 0 u u u<|fun x1 b2 o1=>
  zM 0 u<|qP false oI (gf (gk 0)) u<|zA 2 u<|wJ 31 u (zA 7 u<|zF (vb true)<|zA 7 u<|zF (vb true)<|zA 8 u<|zF (vb true)<|zS<|zL (gv kk [0] (gq [1])))<|zA 2 u<|qQ 1 u u u<|fun x2 b3 o2=>zM 0 u<|
  qP false oI (gf (gk 0)) u<|zA 2 u<|zF (vb (decide (y0 ≤ x2.1)))<|zA 1 u<|wJ 40 u (zA 6 u<|zF (vb true)<|zA 8 u<|zF (vb true)<|zS<|zL (gv kk [0] (gq [2])))<|zA 2 u<|qQ 2 u u u<|fun x3 b4 o3=>
  zM 1 u<|qP false oI (gf (gs (gk 0))) u<|zA 1 u<|zF (vb (decide (x3.2.1 < 0)))<|zA 1 u<|wJ 48 u (zA 7 u<|zF (vb true)<|zS<|zL (gv kk [0] (gq [3])))<|zA 2 u<|qQ 3 u u u<|fun x4 b5 o4=>zM 1 u<|
  qP false oI (gf (gs (gk 0))) u<|zA 2 u<|zF (vb (decide (y0 ≤ x4.2.1)))<|zS<|zL (gv kk [0] (gq [4])))<|fun s3 _ k=>k<|zJ u (zC<|zF (.agg #[vi 0, .slice none 0 0])<|qL .s 0 u u u<|zA 1 u<|zB<|zG<|qV<|qA<|
  wT<|qV<|wT<|wK u (lC 0 (.agg #[vi 0, .slice none 0 0]) u u (lT u lN)) (fun _ k=>k none 0) [] ⟨gn,d⟩)<|wD<|qB<|zN<|jB 3 u<|qE (gv kk [0] (gq [0])))<|qN<|qM<|qS<|qO<|qE (gv kk [0] (gq [0])))<|
  fun s1 _ k=>k<|zC<|zA 1 u<|zF (.agg #[vi y0, .slice none 0 0])<|vE vA 125<|wO .s (.agg #[vi 0, .slice none 0 0])<|fun b6=>qL .s 2 u u u<|zB<|
  wL (fun s4 K=>∀ p2 c2 r_1,K [4,7] [(1, r_1), (2, bx b6 37 [vi y0, sv p2 s4 c2])] [] [] [Al vA 125 r_1 p2 c2 s4]) (jA 1 u<|zQ<|
  qT (fun s5 K=>∀ p3 c3 r_2,K [0,1,4,7] [(1, r_2), (2, bx b6 37 [vi y0, sv p3 s5.2 c3])] [1] [(8, vi s5.1)] [Al vA 125 r_2 p3 c3 s5.2]) (gv (fun _ k=>k none 0 []) [0,1,2] (gq [0,1]))<|fun s5 _ k p3 c3 r_2=>k<|zD<|jA 3 u<|zJ u (
  jC<|zD<|zQ<|jA 1 u<|zQ<|qT (fun s6 K=>∀ p4 c4 r_3,K [0,1,4,7,8] [(1, r_3), (2, bx b6 37 [vi y0, sv p4 s6.2 c4])] [1] [(9, vi s6.1)] [Al vA 125 r_3 p4 c4 s6.2]) (gv (fun _ k=>k p3 c3 r_2) [0,1,2] (gq [0,1]))<|
  fun s6 _ k p4 c4 r_3=>k<|zD<|jA 3 u<|zJ u (jC<|zD<|zQ<|jA 1 u<|wL (fun s7 K=>K [0,1,4,7,8,9] [] [1,0] [(10, vb s7)] []) (jA 1 u<|zQ<|
  qT (fun s8 K=>K [0,1,4,7,8,9] [] [1,0] [(10, vb s8.1), (11, vi s8.2)] []) (gv kk [0,1,2] (gq [1,0]))<|fun s8 _ k=>k<|zD<|jA 4 u<|zJ u (jC<|zD<|zQ<|jjcK (fun s9 K=>K [0,1,4,7,8,9,11] [] [0,1] [(10, vb s9)] []) (qK<|
  zA 2 u<|wJ 77 u (zA 16 u<|zF (vb true)<|zA 1 u<|zS<|zL (gv kk [0,1,2] (gq [0,1])))<|zA 2 u<|qQ 0 u u u<|fun x5 b7 o5=>zM 0 u<|qP false oI (gf (gk 0)) u<|zA 3 u<|wJ 85 u (zA 2 u<|
  qQ 1 u u u<|fun x6 b8 o6=>zM 1 u<|qP false oI (gf (gs (gk 0))) u<|zA 2 u<|zF (vb (x6.2.1 == s6.1))<|zF (vb (x6.2.1 == s6.1))<|zA 1 u<|zS<|zL (gv kk [0,1,2] (gq [2,3])))<|zA 7 u<|zF (vb false)<|
  zF (vb false)<|zA 1 u<|zS<|zL (gv kk [0,1,2] (gq [1,2])))<|fun s9 _ k=>k<|qB<|zN<|jB 3 u<|qE (gv kk [0,1,2] (gq [0,1])))<|qN<|qM<|qS<|qO<|zL (gv kk [0,1,2] (gq [0,1])))<|fun s7 _ k=>k<|
  jA 1 u<|zJ u (qK<|zM 1 u<|zU 2 u u u<|zA 2 u<|zF (.agg #[vi s5.1, vi s6.1])<|wR .s (e := vA) 125 [vi s5.1, vi s6.1] ([(s5.1, s6.1)] : List qW) (rC (vP vI vI) rN)<|fun p5 c5=>wN .s 1 2 u (gk 0) u u<|
  fun x7 r_4 p6 c6=>zM 1 u<|qL .s 2 u u u<|zS<|qB<|zN<|jB 3 u<|qE (gv (fun _ k=>k p6 c6 r_4) [0,1,2] (gq [0,2])))<|wD<|qB<|zN<|jB 3 u<|qE (gv (fun _ k=>k p4 c4 r_3) [0,1,2] (gq [1,0])))<|qN<|qM<|qS<|qO<|qB<|zN<|
  jB 3 u<|qE (gv (fun _ k=>k p4 c4 r_3) [0,1,2] (gq [0,1])))<|qN<|qM<|qS<|qO<|zL (gv (fun _ k=>k p3 c3 r_2) [0,1,2] (gq [0])))<|fun s4 _ k p2 c2 r_1=>k<|zC<|qU 2 2 u u u<|qL .s 0 u u u<|zA 1 u<|zB<|zG<|
  wW 1 0 u u<|wK u (lC 0 (.agg #[vi y0, sv p2 s4 c2]) u u (lT u lN)) (fun _ k=>k p2 c2) [] (gq [0])
theorem zXO {qd : Prop} {y0 : List Int} {y1 : Int} : qC qd prog 87 [sv p1 y0 c1, vi y1] [] [Rl (zH .i64) p1 c1 y0] (zOg y0 y1) fun r K=>∀ p2 c2,K (sv p2 r c2) [] [Rl (zH .i64) p2 c2 r] :=
 zX call87 func87 u fun X=>jA 1 u<|zC<|zA 1 u<|vE (zH .i64) 3<|zB<|zD<|jA 1 u<|zQ<|qT (fun s1 K=>∀ p2 c2 r_1,K [0,1] [(0, r_1)] [1] [(5, sv p2 s1.1 c2), (6, vi s1.2)] [Al (zH .i64) 3 r_1 p2 c2 s1.1]) (gv (fun _ k=>k none 0 []) [0] (gq [0,1]))<|
  fun s1 _ k p2 c2 r_1=>k<|zD<|jA 4 u<|zJ u (jC<|zD<|zQ<|zC<|zA 2 u<|qQ 1 u u u<|fun x1 b1 o1=>qP false oI (gk 0) u<|zA 2 u<|zB<|zJ u (qK<|zA 2 u<|
  wR .s (e := zH .i64) 3 [vi s1.2] ([s1.2] : List Int) (rC vI rN)<|fun p3 c3=>wN .s 0 2 u (gk 0) u u<|fun x2 r_2 p4 c4=>zA 1 u<|zS<|qB<|zN<|jB 3 u<|qE (gv (fun _ k=>k p4 c4 r_2) [0] (gq [0,4])))<|wD<|qB<|zN<|jB 3 u<|
  qE (gv (fun _ k=>k p2 c2 r_1) [0] (gq [1,2])))<|qN<|qM<|qS<|qO<|zN<|jA 2 u<|zG<|wW 0 0 u u<|zP u u (fun _ k=>k p2 c2) [] (gq [0])
theorem zSv {qd : Prop} {y0 : wH} : qC qd prog 335 [.agg (yM y0 p1 c1).toArray] [] [Rl vA p1 c1 y0.2] (zDm y0) fun r K=>K (vi r) [] [] :=
 zX call335 func335 u fun X=>zC<|qX .s u<|fun b1=>zA 1 u<|zB<|zD<|xG (fun K=>K [1] [] [0] [(12, vb ((decide (y0.1 < 0)) || (decide (40 < y0.1))))] []) (qK<|zM 0 u<|zU 0 u u u<|zA 2 u<|yA (b := decide (y0.1 < 0)) 8 u (fun hb1=>zA 3 u<|
  zF (vb true)<|zS<|wQ 12 (vb ((decide (y0.1 < 0)) || (decide (40 < y0.1)))) u (by rw [hb1]; rfl)<|zL (gv kk [0] (gq [0])))<|fun hb1=>zM 0 u<|zU 0 u u u<|zA 1 u<|zF (vb (decide (40 < y0.1)))<|zS<|
  wQ 12 (vb ((decide (y0.1 < 0)) || (decide (40 < y0.1)))) u (by rw [hb1]; rfl)<|zL (gv kk [0] (gq [0])))<|fun _ k=>k<|zJ u (jA 1 u<|zG<|qA<|zP u u kk [] d)<|jC<|zD<|jA 1 u<|zQ<|
  qT (fun s1 K=>K [1] [] [0] [(3, vi s1)] []) (gv kk [0] (gq [0]))<|fun s1 _ k=>k<|zD<|zC<|zA 1 u<|zM 1 u<|zU 0 u u u<|zA 2 u<|zB<|zJ u (jC<|zD<|zQ<|zC<|zM 1 u<|zU 0 u u u<|zA 1 u<|
  qQ 0 u u u<|fun x1 b2 o1=>qP true zMr (gk 0) u<|wO .s (.agg #[vi 0, vi 0])<|fun b3=>qL .s 1 u u u<|zB<|zD<|
  xG (fun K=>K [1,3,4] [] [1] [(46, vb ((decide (x1.1 < 0)) || ((decide (y0.1 ≤ x1.1)) || ((decide (x1.2 < 0)) || (decide (y0.1 ≤ x1.2))))))] []) (qK<|zM 0 u<|zU 1 u u u<|zA 2 u<|yA (b := decide (x1.1 < 0)) 28 u (fun hb2=>
  zA 5 u<|zF (vb true)<|zA 4 u<|zF (vb true)<|zA 6 u<|zF (vb true)<|zS<|wQ 46 (vb ((decide (x1.1 < 0)) || ((decide (y0.1 ≤ x1.1)) || ((decide (x1.2 < 0)) || (decide (y0.1 ≤ x1.2)))))) u (by rw [hb2]; rfl)<|
  zL (gv kk [0,1] (gq [1])))<|fun hb2=>zM 0 u<|zU 1 u u u<|zM 0 u<|zU 0 u u u<|zA 1 u<|zF (vb (decide (y0.1 ≤ x1.1)))<|zA 1 u<|yA (b := decide (y0.1 ≤ x1.1)) 35 u (fun hb3=>zA 3 u<|zF (vb true)<|
  zA 6 u<|zF (vb true)<|zS<|wQ 46 (vb ((decide (x1.1 < 0)) || ((decide (y0.1 ≤ x1.1)) || ((decide (x1.2 < 0)) || (decide (y0.1 ≤ x1.2)))))) u (by rw [hb2,hb3]; rfl)<|zL (gv kk [0,1] (gq [1])))<|fun hb3=>zM 1 u<|
  zU 1 u u u<|zA 1 u<|zF (vb (decide (x1.2 < 0)))<|zA 1 u<|yA (b := decide (x1.2 < 0)) 40 u (fun hb4=>zA 5 u<|zF (vb true)<|zS<|
  wQ 46 (vb ((decide (x1.1 < 0)) || ((decide (y0.1 ≤ x1.1)) || ((decide (x1.2 < 0)) || (decide (y0.1 ≤ x1.2)))))) u (by rw [hb2,hb3,hb4]; rfl)<|zL (gv kk [0,1] (gq [1])))<|fun hb4=>zM 1 u<|zU 1 u u u<|zM 0 u<|
  zU 0 u u u<|zA 1 u<|zF (vb (decide (y0.1 ≤ x1.2)))<|zS<|wQ 46 (vb ((decide (x1.1 < 0)) || ((decide (y0.1 ≤ x1.1)) || ((decide (x1.2 < 0)) || (decide (y0.1 ≤ x1.2)))))) u (by rw [hb2,hb3,hb4]; rfl)<|
  zL (gv kk [0,1] (gq [1])))<|fun _ k=>k<|zJ u (jA 1 u<|zG<|qA<|qV<|qA<|wT<|qV<|qA<|zP u u kk [] d)<|jC<|wL (fun s2 K=>K [1,3] [(1, [])] [0] [(84, vb s2)] []) (uO [] [0, 1] 38<|zW 35 [0,1,2] u<|
  wJ 49 u (qR 3 1 u u<|wI 4 0 u u u u<|zW 31 [5,6] u<|yF 7 0 u u u u<|fun x2 b4 o2=>qR 8 0 u u<|yD 9 false oI u (gf (gk 0)) u<|qR 10 0 u u<|wI 11 1 u u u u<|zW 24 [12,13] u<|wJ 60 u (
  zW 2 [14,15,16,17,18,19,20,21,22,23,24,25,26,27,28,29,30,31,32,33,34,35] u<|wP 36 (vb true) u<|wP 37 (vb true) u<|qY<|zL (gv kk [0,901] (gq [1])))<|qR 14 1 u u<|wI 15 0 u u u u<|zW 20 [16,17] u<|
  yF 18 1 u u u u<|fun x3 b5 o3=>qR 19 0 u u<|yD 20 false oI u (gf (gk 0)) u<|qR 21 0 u u<|wI 22 1 u u u u<|zW 13 [23,24] u<|wJ 71 u (qR 25 1 u u<|wI 26 0 u u u u<|zW 9 [27,28] u<|
  yF 29 2 u u u u<|fun x4 b6 o4=>qR 30 1 u u<|yD 31 false oI u (gs (gk 0)) u<|qR 32 1 u u<|wI 33 1 u u u u<|zW 3 [34] u<|wP 35 (vb (decide (x1.2 ≤ x4.2))) u<|wP 36 (vb (decide (x1.2 ≤ x4.2))) u<|
  wP 37 (vb (decide (x1.2 ≤ x4.2))) u<|qY<|zL (gv kk [0,901] (gq [3])))<|zW 3 [25,26,27,28,29,30,31,32,33,34] u<|wP 35 (vb false) u<|wP 36 (vb false) u<|wP 37 (vb false) u<|qY<|
  zL (gv kk [0,901] (gq [2])))<|zW 1 [3,4,5,6,7,8,9,10,11,12,13,14,15,16,17,18,19,20,21,22,23,24,25,26,27,28,29,30,31,32,33,34,35,36] u<|wP 37 (vb false) u<|qY<|zL (gv kk [0,901] (gq [0])))<|fun s2 _ k=>k<|
  zJ u (jA 1 u<|zG<|qV<|qA<|wT<|qV<|qA<|zP u u kk [] d)<|wD<|qB<|zN<|jB 3 u<|qE (gv kk [0] (gq [0])))<|qN<|qM<|qS<|qO<|zN<|jA 1 u<|zG<|zP u u kk [] d
theorem zVi {qd : Prop} {y0 : wH} : qC qd prog 288 [.agg (yM y0 p1 c1).toArray] [] [Rl vA p1 c1 y0.2] (zLF y0) fun r K=>∀ p2 c2,K (.agg (yM r p2 c2).toArray) [] [Rl vA p2 c2 r.2] :=
 zX call288 func288 u fun X=>zC<|qX .s u<|fun b1=>wO .s (.agg #[vi 0, .slice none 0 0])<|fun b2=>zB<|zD<|zC<|qU 0 2 u u u<|qF zSv u (cq [0])<|fun r1 _ k=>k<|zA 1 u<|zB<|zJ u (zC<|zF (.agg #[vi 0, .slice none 0 0])<|
  qL .s 1 u u u<|zB<|zG<|qA<|wK u (lC 1 (.agg #[vi 0, .slice none 0 0]) u u lN) (fun _ k=>k none 0) [] ⟨gn,d⟩)<|jC<|zC<|qU 0 2 u u u<|qL .s 1 u u u<|zB<|zG<|
  wK u (lC 1 (.agg (yM y0 p1 c1).toArray) u u lN) (fun _ k=>k p1 c1) [] (gq [0])
theorem zNC {qd : Prop} {y0 : wH} {y1 : Int} : qC qd prog 230 [.agg (yM y0 p1 c1).toArray, vi y1] [] [Rl vA p1 c1 y0.2] (zEx y0 y1) fun r K=>∀ p2 c2,K (sv p2 r c2) [] [Rl (zH .i64) p2 c2 r] :=
 zX call230 func230 u fun X=>zC<|qX .s u<|fun b1=>zA 1 u<|zB<|zC<|qU 0 2 u u u<|qF zVi u (cq [0])<|fun r1 _ k p2 c2=>k<|qL .s 0 u u u<|zB<|zC<|zA 1 u<|vE (zH .i64) 3<|zB<|zD<|jA 1 u<|zQ<|
  qT (fun s1 K=>∀ p3 c3 r_1,K [1,2] [(1, r_1)] [1] [(5, sv p3 s1.1 c3), (6, vi s1.2)] [Al (zH .i64) 3 r_1 p3 c3 s1.1]) (gv (fun _ k=>k none 0 []) [0,1] (gq [0,1]))<|fun s1 _ k p3 c3 r_1=>k<|zD<|zC<|zA 1 u<|zM 1 u<|
  zU 0 u u u<|zA 2 u<|zB<|zJ u (jC<|zD<|zQ<|zC<|zM 1 u<|zU 0 u u u<|zA 1 u<|qQ 1 u u u<|fun x1 b2 o1=>zM 1 u<|qP false oI (gs (gk 0)) u<|zA 2 u<|zB<|zJ u (qK<|zA 1 u<|zM 1 u<|
  zU 0 u u u<|zA 1 u<|qQ 2 u u u<|fun x2 b3 o2=>zM 0 u<|qP false oI (gf (gk 0)) u<|wR .s (e := zH .i64) 3 [vi x2.1] ([x2.1] : List Int) (rC vI rN)<|fun p4 c4=>wN .s 1 3 u (gk 0) u u<|fun x3 r_2 p5 c5=>
  zA 1 u<|zS<|qB<|zN<|jB 3 u<|qE (gv (fun _ k=>k p5 c5 r_2) [0,1] (gq [0,5])))<|wD<|qB<|zN<|jB 3 u<|qE (gv (fun _ k=>k p3 c3 r_1) [0,1] (gq [1,2])))<|qN<|qM<|qS<|qO<|zN<|jA 2 u<|zG<|wW 1 0 u u<|
  zP u u (fun _ k=>k p3 c3) [] (gq [0])
theorem zVz {qd : Prop} {y0 : wH} : qC qd prog 153 [.agg (yM y0 p1 c1).toArray] [] [Rl vA p1 c1 y0.2] (zLI y0) fun r K=>∀ p2 c2 p3 c3,K (.tuple #[sv p2 r.1 c2, sv p3 r.2 c3]) [] [Rl (zH .i64) p2 c2 r.1, Rl (zH .i64) p3 c3 r.2] :=
 zX call153 func153 u fun X=>zC<|qX .s u<|fun b1=>zA 2 u<|zB<|zC<|zA 1 u<|vE (zH .i64) 3<|zA 1 u<|vE (zH .i64) 3<|zB<|
  wL (fun s1 K=>∀ p2 c2 r_1 p3 c3 r_2,K [1] [(1, r_1), (2, r_2)] [2] [(4, sv p2 s1.1 c2), (5, sv p3 s1.2 c3)] [Al (zH .i64) 3 r_1 p2 c2 s1.1, Al (zH .i64) 3 r_2 p3 c3 s1.2]) (jA 1 u<|zQ<|
  qT (fun s2 K=>∀ p4 c4 r_3 p5 c5 r_4,K [1] [(1, r_3), (2, r_4)] [2] [(4, sv p4 s2.1 c4), (5, sv p5 s2.2.1 c5), (6, vi s2.2.2)] [Al (zH .i64) 3 r_3 p4 c4 s2.1, Al (zH .i64) 3 r_4 p5 c5 s2.2.1]) (gv (fun _ k=>k none 0 [] none 0 []) [0,1,2] (gq [1,0,2]))<|
  fun s2 _ k p4 c4 r_3 p5 c5 r_4=>k<|zD<|zC<|zA 1 u<|zM 0 u<|zU 0 u u u<|zA 1 u<|zB<|zJ u (jC<|zD<|zQ<|qK<|zA 1 u<|wR .s (e := zH .i64) 3 [vi 3] ([3] : List Int) (rC vI rN)<|fun p6 c6=>
  wN .s 1 1 u (gk 0) u u<|fun x1 r_5 p7 c7=>zA 1 u<|wR .s (e := zH .i64) 3 [vi 0] ([0] : List Int) (rC vI rN)<|fun p8 c8=>wN .s 2 4 u (gk 0) u u<|fun x2 r_6 p9 c9=>zA 2 u<|zS<|qB<|zN<|jB 3 u<|
  qE (gv (fun _ k=>k p7 c7 r_5 p9 c9 r_6) [0,1,2] (gq [2,0,6])))<|qN<|qM<|qS<|qO<|zL (gv (fun _ k=>k p4 c4 r_3 p5 c5 r_4) [0,1,2] (gq [0,1,2])))<|fun s1 _ k p2 c2 r_1 p3 c3 r_2=>k<|jA 1 u<|zQ<|
  qT (fun s3 K=>∀ r_7 r_8,K [1] [(1, r_7), (2, r_8)] [2] [(4, .slice p2 (List.length s1.1) c2), (5, .slice p3 (List.length s1.2) c3), (7, vi s3.2.2)] [Ar (zH .i64) 3 r_7 p2 c2 (List.length s1.1) s3.1, Ar (zH .i64) 3 r_8 p3 c3 (List.length s1.2) s3.2.1]) (gv (fun _ k=>k r_1 r_2) [0,1,2] (gq [0,1,2]))<|
  fun s3 _ k r_7 r_8=>k<|zD<|zQ<|jA 1 u<|zC<|xH .s (e := zH .i64) 3 [] ([] : List Int) rN<|fun r_9 p10 c10=>zA 1 u<|jao .s 3 1 0 1 u u u u<|fun x3 r_10 p11 c11=>zA 1 u<|zB<|
  wL (fun s4 K=>∀ r_11 r_12,K [1,4,5,7] [(1, r_11), (2, r_12), (3, [])] [4] [(8, vb s4.2.2)] [Ar (zH .i64) 3 r_11 p2 c2 (List.length s1.1) s4.1, Ar (zH .i64) 3 r_12 p3 c3 (List.length s1.2) s4.2.1]) (jA 1 u<|zQ<|
  qT (fun s5 K=>∀ r_13 r_14,K [1,4,5,7,9] [(1, r_13), (2, r_14)] [0,4] [(8, vb s5.2.2.1), (10, vi s5.2.2.2)] [Ar (zH .i64) 3 r_13 p2 c2 (List.length s1.1) s5.1, Ar (zH .i64) 3 r_14 p3 c3 (List.length s1.2) s5.2.1]) (gv (fun _ k=>k r_7 r_8) [0,1,2,3] (gq [2,3,0,4]))<|
  fun s5 _ k r_13 r_14=>k<|zD<|zC<|zA 1 u<|zM 0 u<|zU 0 u u u<|zA 1 u<|zB<|zJ u (jC<|zD<|zQ<|zC<|zA 2 u<|xE 2 u u u<|fun x4 h4 b2 hp1=>jlA 3 2 sI false oI u hp1 h4 u<|zA 2 u<|zB<|
  wL (fun s6 K=>K [1,4,5,7,8,9,10] [] [0,1,2,3] [(11, vb s6)] []) (zC<|qU 0 2 u u u<|zA 1 u<|qF zNC u (cq [3])<|fun r1 _ k p12 c12=>k<|zA 2 u<|zB<|zQ<|
  qT (fun s7 K=>K [1,4,5,7,8,9,10,47,48] [] [1,2,3,0,4] [(11, vb s7.1), (49, vi s7.2)] []) (gv kk [0,1,2,3] (gq [1,2,3,0,4]))<|fun s7 _ k=>k<|jA 1 u<|zD<|zJ u (jC<|zD<|zQ<|zC<|qQ 3 u u u<|fun x5 b3 o1=>
  qP false oI (gk 0) u<|zA 1 u<|zB<|jjcK (fun s8 K=>K [1,4,5,7,8,9,10,47,48,49] [] [1,2,3,4,5] [(11, vb s8)] []) (qK<|zA 2 u<|wJ 54 u (zA 2 u<|xE 3 u u u<|fun x6 h5 b4 hp2=>jlA 3 3 sI false oI u hp2 h5 u<|
  zA 1 u<|zF (vb (x6 == 2))<|zA 1 u<|zS<|zL (gv kk [0,1,2,3] (gq [1,2,3,4,5])))<|zA 5 u<|zF (vb false)<|zA 1 u<|zS<|zL (gv kk [0,1,2,3] (gq [1,2,3,4,5])))<|fun s8 _ k=>k<|qB<|zN<|jB 2 u<|
  qE (gv kk [0,1,2,3] (gq [0,1,2,3,4])))<|qN<|qM<|qS<|qO<|zL (gv kk [0,1,2,3] (gq [0,1,2,4])))<|fun s6 _ k=>k<|jA 1 u<|zJ u (qK<|zA 5 u<|xE 0 u u u<|fun x7 h6 b5 hp3=>
  jsA .s 1 0 sI 1 false u hp3 h6 u u vI<|fun r_15=>xE 2 u u u<|fun x8 h7 b6 hp4=>jsA .s 2 2 sI s3.2.2 false u hp4 h7 u u vI<|fun r_16=>zA 1 u<|zS<|qB<|zN<|jB 3 u<|
  qE (gv (fun _ k=>k r_15 r_16) [0,1,2,3] (gq [1,0,4,5])))<|wD<|qB<|zN<|jB 3 u<|qE (gv (fun _ k=>k r_13 r_14) [0,1,2,3] (gq [0,1,2,3])))<|qN<|qM<|qS<|qO<|zL (gv (fun _ k=>k r_13 r_14) [0,1,2,903] (gq [0,1,3])))<|
  fun s4 _ k r_11 r_12=>k<|wL (fun s9 K=>∀ r_17 r_18,K [1,4,5,7,8] [(1, r_17), (2, r_18)] [2] [] [Ar (zH .i64) 3 r_17 p2 c2 (List.length s1.1) s9.1, Ar (zH .i64) 3 r_18 p3 c3 (List.length s1.2) s9.2]) (jA 1 u<|zQ<|
  qT (fun s10 K=>∀ r_19 r_20,K [1,4,5,7,8] [(1, r_19), (2, r_20)] [2] [(14, vi s10.2.2)] [Ar (zH .i64) 3 r_19 p2 c2 (List.length s1.1) s10.1, Ar (zH .i64) 3 r_20 p3 c3 (List.length s1.2) s10.2.1]) (gv (fun _ k=>k r_11 r_12) [0,1,2,903] (gq [0,1,2]))<|
  fun s10 _ k r_19 r_20=>k<|zD<|zC<|zA 1 u<|zM 0 u<|zU 0 u u u<|zA 1 u<|zB<|zJ u (jC<|zD<|zQ<|zC<|qU 0 2 u u u<|zA 1 u<|qF zNC u (cq [2])<|fun r2 _ k p13 c13=>k<|zA 2 u<|zB<|zQ<|
  qT (fun s11 K=>∀ r_21 r_22,K [1,4,5,7,8,14,78,79] [(1, r_21), (2, r_22)] [0,3] [(80, vi s11.2.2)] [Ar (zH .i64) 3 r_21 p2 c2 (List.length s1.1) s11.1, Ar (zH .i64) 3 r_22 p3 c3 (List.length s1.2) s11.2.1]) (gv (fun _ k=>k r_19 r_20) [0,1,2,903] (gq [1,2,0,3]))<|
  fun s11 _ k r_21 r_22=>k<|jA 1 u<|zD<|zJ u (jC<|zD<|zQ<|zC<|qQ 2 u u u<|fun x9 b7 o2=>qP false oI (gk 0) u<|zA 1 u<|zB<|wL (fun s12 K=>K [1,4,5,7,8,14,78,79,80] [] [1,2,3,4] [(103, vb s12)] []) (qK<|zA 2 u<|
  xE 1 u u u<|fun x10 h8 b8 hp5=>jlA 1 1 sI false oI u hp5 h8 u<|zA 2 u<|wJ 89 u (zA 2 u<|xE 1 u u u<|fun x11 h9 b9 hp6=>jlA 1 1 sI false oI u hp6 h9 u<|zA 1 u<|zF (vb (x11 == 1))<|zA 1 u<|wJ 96 u (
  zA 2 u<|xE 2 u u u<|fun x12 h10 b10 hp7=>jlA 2 2 sI false oI u hp7 h10 u<|zA 2 u<|zF (vb (x12 == s3.2.2))<|zS<|zL (gv kk [0,1,2,903] (gq [1,2,3,4])))<|zA 6 u<|zF (vb false)<|zS<|
  zL (gv kk [0,1,2,903] (gq [1,2,3,4])))<|zA 5 u<|zF (vb false)<|zA 7 u<|zF (vb false)<|zS<|zL (gv kk [0,1,2,903] (gq [1,2,3,4])))<|fun s12 _ k=>k<|zJ u (qK<|zA 5 u<|xE 0 u u u<|
  fun x13 h11 b11 hp8=>jsA .s 1 0 sI 2 false u hp8 h11 u u vI<|fun r_23=>xE 2 u u u<|fun x14 h12 b12 hp9=>jsA .s 2 2 sI s3.2.2 false u hp9 h12 u u vI<|fun r_24=>zS<|qB<|zN<|jB 2 u<|
  qE (gv (fun _ k=>k r_23 r_24) [0,1,2,903] (gq [1,0,4,5])))<|wD<|qB<|zN<|jB 2 u<|qE (gv (fun _ k=>k r_21 r_22) [0,1,2,903] (gq [0,1,2,3])))<|qN<|qM<|qS<|qO<|qB<|zN<|jB 3 u<|
  qE (gv (fun _ k=>k r_21 r_22) [0,1,2,903] (gq [0,1,3])))<|qN<|qM<|qS<|qO<|zL (gv (fun _ k=>k r_19 r_20) [0,1,2,903] (gq [0,1,2])))<|fun s9 _ k r_17 r_18=>k<|jA 2 u<|zJ u (jA 4 u<|zG<|qV<|qA<|wT<|qV<|wW 1 0 u u<|
  wW 2 2 u u<|jre 1 2 u u<|jre 1 3 u u<|wK u (lT u (lT u lN)) (fun _ k=>k p2 c2 p3 c3) [] (gq [1,0]))<|wD<|qB<|zN<|jB 3 u<|qE (gv (fun _ k=>k r_17 r_18) [0,1,2] (gq [0,1,2]))
theorem zVy {qd : Prop} {y0 : wH} : qC qd prog 88 [.agg (yM y0 p1 c1).toArray] [] [Rl vA p1 c1 y0.2] (zLK y0) fun r K=>∀ p2 c2,K (sv p2 r c2) [] [Rl (zH .i64) p2 c2 r] :=
 zX call88 func88 u fun X=>zC<|qX .s u<|fun b1=>zA 1 u<|zB<|zC<|qU 0 2 u u u<|qF zVz u (cq [0])<|fun r1 _ k p2 c2 p3 c3=>k<|zA 5 u<|zB<|jA 2 u<|zG<|zP u u (fun _ k=>k p2 c2) [] (gq [0])
theorem zOm {qd : Prop} {y0 : zT} {y1 : yB} : qC qd prog 39 [.agg (vJ y0 p1 c1 p2 c2 p3 c3).toArray, .agg #[vi y1.1, vi y1.2]] [] (vR y0 p1 c1 p2 c2 p3 c3 []) (zD6 y0 y1) fun r K=>∀ p4 c4 p5 c5 p6 c6 p7 c7 p8 c8 p9 c9,K (.tuple #[.agg (zNF r.1 p4 c4 p5 c5 p6 c6 p7 c7 p8 c8 p9 c9).toArray, vi r.2]) [] (zMx r.1 p4 c4 p5 c5 p6 c6 p7 c7 p8 c8 p9 c9 []) :=
 zX call39 func39 u fun X=>zC<|qX .s u<|fun b1=>qX .s u<|fun b2=>wO .s (.agg #[.slice none 0 0, .slice none 0 0, .slice none 0 0, .slice none 0 0, .slice none 0 0, vi 0, .slice none 0 0])<|fun b3=>zA 1 u<|zB<|zC<|qU 0 3 u u u<|
  qF zVa u (cq [0,1,2])<|fun r1 _ k p4 c4=>k<|zA 5 u<|zB<|zD<|jA 2 u<|zJ u (zC<|zF (.agg #[.slice none 0 0, .slice none 0 0, .slice none 0 0, .slice none 0 0, .slice none 0 0, vi 0, .slice none 0 0])<|zA 1 u<|
  qL .s 2 u u u<|zA 1 u<|zB<|zG<|qA<|
  wK u (lC 2 (.agg #[.slice none 0 0, .slice none 0 0, .slice none 0 0, .slice none 0 0, .slice none 0 0, vi 0, .slice none 0 0]) u u (lT u lN)) (fun _ k=>k none 0 none 0 none 0 none 0 none 0 none 0) [] ⟨gn,gn,gn,gn,gn,gn,d⟩)<|jC<|
  zD<|xG (fun K=>K [2,3,4,6] [] [0,1,2,3] [(38, vb (if y1.1 != 1 then (y1.1 != 2) || ((y1.2 != 1) && (y1.2 != 2)) else (y1.2 != 1) && (y1.2 != 2)))] []) (qK<|zM 0 u<|zU 1 u u u<|zA 2 u<|yA (b := y1.1 != 1) 24 u (fun hb1=>
  zM 0 u<|zU 1 u u u<|zA 1 u<|zF (vb (y1.1 != 2))<|zA 1 u<|yA (b := y1.1 != 2) 29 u (fun hb2=>zA 8 u<|zF (vb true)<|zS<|
  wQ 38 (vb (if y1.1 != 1 then (y1.1 != 2) || ((y1.2 != 1) && (y1.2 != 2)) else (y1.2 != 1) && (y1.2 != 2))) u (by rw [hb1,hb2]; rfl)<|zL (gv kk [0,1,2] (gq [0,1,2,3])))<|fun hb2=>zM 1 u<|zU 1 u u u<|zA 2 u<|
  yA (b := y1.2 != 1) 33 u (fun hb3=>zM 1 u<|zU 1 u u u<|zA 1 u<|zF (vb (y1.2 != 2))<|zF (vb (y1.2 != 2))<|zS<|
  wQ 38 (vb (if y1.1 != 1 then (y1.1 != 2) || ((y1.2 != 1) && (y1.2 != 2)) else (y1.2 != 1) && (y1.2 != 2))) u (by rw [hb1,hb2,hb3]; rfl)<|zL (gv kk [0,1,2] (gq [0,1,2,3])))<|fun hb3=>zA 3 u<|zF (vb false)<|zF (vb false)<|
  zS<|wQ 38 (vb (if y1.1 != 1 then (y1.1 != 2) || ((y1.2 != 1) && (y1.2 != 2)) else (y1.2 != 1) && (y1.2 != 2))) u (by rw [hb1,hb2,hb3]; rfl)<|zL (gv kk [0,1,2] (gq [0,1,2,3])))<|fun hb1=>zA 3 u<|zF (vb false)<|zA 1 u<|
  zM 1 u<|zU 1 u u u<|zA 2 u<|yA (b := y1.2 != 1) 33 u (fun hb4=>zM 1 u<|zU 1 u u u<|zA 1 u<|zF (vb (y1.2 != 2))<|zF (vb (y1.2 != 2))<|zS<|
  wQ 38 (vb (if y1.1 != 1 then (y1.1 != 2) || ((y1.2 != 1) && (y1.2 != 2)) else (y1.2 != 1) && (y1.2 != 2))) u (by rw [hb1,hb4]; rfl)<|zL (gv kk [0,1,2] (gq [0,1,2,3])))<|fun hb4=>zA 3 u<|zF (vb false)<|zF (vb false)<|zS<|
  wQ 38 (vb (if y1.1 != 1 then (y1.1 != 2) || ((y1.2 != 1) && (y1.2 != 2)) else (y1.2 != 1) && (y1.2 != 2))) u (by rw [hb1,hb4]; rfl)<|zL (gv kk [0,1,2] (gq [0,1,2,3])))<|fun _ k=>k<|zJ u (zC<|
  zF (.agg #[.slice none 0 0, .slice none 0 0, .slice none 0 0, .slice none 0 0, .slice none 0 0, vi 0, .slice none 0 0])<|qL .s 2 u u u<|zA 1 u<|zB<|zG<|qA<|
  wK u (lC 2 (.agg #[.slice none 0 0, .slice none 0 0, .slice none 0 0, .slice none 0 0, .slice none 0 0, vi 0, .slice none 0 0]) u u (lT u lN)) (fun _ k=>k none 0 none 0 none 0 none 0 none 0 none 0) [] ⟨gn,gn,gn,gn,gn,gn,d⟩)<|jC<|
  zC<|zA 2 u<|qU 0 3 u u u<|zA 1 u<|qU 1 2 u u u<|qF zO8 u (cq [1,2,3,0])<|fun r2 _ k p5 c5=>k<|qF zRn u (cq [0])<|fun r3 _ k p6 c6=>k<|zA 3 u<|wO .s (.agg #[vi 0, .slice none 0 0])<|
  fun b4=>qL .s 3 u u u<|zA 1 u<|zB<|zC<|zA 1 u<|qU 3 2 u u u<|qF zVy rfl (cq [0])<|fun r4 _ k p7 c7=>k<|qF zXO u (cq [0])<|fun r5 _ k p8 c8=>k<|qF zQ1 u (cq [4,0])<|
  fun r6 _ k p9 c9=>k<|zA 1 u<|zB<|zC<|qU 0 3 u u u<|zA 1 u<|qF zUN u (cq [6,7,8,0])<|fun r7 _ k p10 c10 p11 c11 p12 c12=>k<|zA 1 u<|
  zF (.agg #[sv p10 r7.1 c10, sv p11 r7.2.1 c11, sv p12 r7.2.2 c12, sv p4 r1.1 c4, .slice none 0 0, vi 0, .slice none 0 0])<|
  wO .s (.agg #[.slice none 0 0, .slice none 0 0, .slice none 0 0, .slice none 0 0, .slice none 0 0, vi 0, .slice none 0 0])<|fun b5=>qL .s 4 u u u<|zB<|zC<|zM 0 u<|qU 4 3 u u u<|zA 1 u<|qU 1 2 u u u<|
  qF zO8 u (cq [0,1,2,8])<|fun r8 _ k p13 c13=>k<|zM 4 u<|qL .s 4 u u u<|zB<|zC<|zA 2 u<|zM 4 u<|zU 4 u u u<|qF zRn u (cq [0])<|fun r9 _ k p14 c14=>k<|zA 3 u<|zM 5 u<|
  qL .s 4 u u u<|zB<|zC<|qU 4 7 u u u<|qL .s 2 u u u<|zA 1 u<|zB<|zG<|
  wK u (lC 2 (.agg #[sv p10 r7.1 c10, sv p11 r7.2.1 c11, sv p12 r7.2.2 c12, sv p4 r1.1 c4, sv p13 r8 c13, vi r9.1.1, sv p14 r9.1.2 c14]) u u (lT u lN)) (fun _ k=>k p10 c10 p11 c11 p12 c12 p4 c4 p13 c13 p14 c14) [] (gq [2,3,4,10,1,0])
theorem zVu {qd : Prop} {y0 : uQ} : qC qd prog 16 [pt b1 0] [bx b1 65 (zHl y0 p1 c1)] (zHg y0 p1 c1 []) (zLJ y0) fun r K=>∀ p2 c2 p3 c3 p4 c4 p5 c5 p6 c6 p7 c7,K (.tuple #[.agg (zNF r.1 p2 c2 p3 c3 p4 c4 p5 c5 p6 c6 p7 c7).toArray, vb r.2.1]) [bx b1 65 [sv p1 y0.1 c1, vi r.2.2]] (zMx r.1 p2 c2 p3 c3 p4 c4 p5 c5 p6 c6 p7 c7 []) :=
 zX call16 func16 u fun X=>zC<|wO .s (.agg #[.slice none 0 0, .slice none 0 0, .slice none 0 0, .slice none 0 0, .slice none 0 0, vi 0, .slice none 0 0])<|fun b2=>zA 1 u<|zB<|zC<|zA 1 u<|zZ .s [0] [] zTc u u u (cq [0])<|
  fun r1 _ k p2 c2 p3 c3 p4 c4=>k<|wO .s (.agg #[.slice none 0 0, .slice none 0 0, .slice none 0 0])<|fun b3=>qL .s 2 u u u<|zB<|zC<|qF zTF u d<|fun r2 _ k p5 c5=>k<|zA 1 u<|
  zZ .s [0] [] zB4 u u u (cq [4])<|fun r3 _ k=>k<|qQ 0 u u u<|fun x1 b4 o1=>qP true z00 (gk 0) u<|wO .s (.agg #[vi 0, vi 0])<|fun b5=>qL .s 3 u u u<|zB<|zC<|qU 2 3 u u u<|qU 3 2 u u u<|
  qF zOm u (cq [2,3,4])<|fun r4 _ k p6 c6 p7 c7 p8 c8 p9 c9 p10 c10 p11 c11=>k<|zA 3 u<|wO .s (.agg #[.slice none 0 0, .slice none 0 0, .slice none 0 0, .slice none 0 0, .slice none 0 0, vi 0, .slice none 0 0])<|fun b6=>
  qL .s 4 u u u<|zA 1 u<|zB<|
  wL (fun s1 K=>∀ p12 c12 p13 c13 p14 c14 p15 c15 p16 c16 p17 c17,K [2,6] [(2, []), (3, []), (4, bx b6 39 [sv p12 s1.2.1 c12, sv p13 s1.2.2.1 c13, sv p14 s1.2.2.2.1 c14, sv p15 s1.2.2.2.2.1 c15, sv p16 s1.2.2.2.2.2.1 c16, vi s1.2.2.2.2.2.2.1, sv p17 s1.2.2.2.2.2.2.2 c17])] [11] [(7, vi s1.1)] [Rl xL p12 c12 s1.2.1, Rl yQ p13 c13 s1.2.2.1, Rl uV p14 c14 s1.2.2.2.1, Rl wS p15 c15 s1.2.2.2.2.1, Rl uU p16 c16 s1.2.2.2.2.2.1, Rl vA p17 c17 s1.2.2.2.2.2.2.2]) (
  zQ<|
  qT (fun s2 K=>∀ p18 c18 p19 c19 p20 c20 p21 c21 p22 c22 p23 c23 p24 c24 p25 c25,K [2,4,5,6] [(2, bx b3 29 [sv p2 r1.1.1 c2, sv p18 s2.2.1 c18, sv p19 s2.2.2.1 c19]), (4, bx b6 39 [sv p20 s2.2.2.2.1 c20, sv p21 s2.2.2.2.2.1 c21, sv p22 s2.2.2.2.2.2.1 c22, sv p23 s2.2.2.2.2.2.2.1 c23, sv p24 s2.2.2.2.2.2.2.2.1 c24, vi s2.2.2.2.2.2.2.2.2.1, sv p25 s2.2.2.2.2.2.2.2.2.2 c25])] [11,8] [(7, vi s2.1)] [Rl yQ p18 c18 s2.2.1, Rl uV p19 c19 s2.2.2.1, Rl xL p20 c20 s2.2.2.2.1, Rl yQ p21 c21 s2.2.2.2.2.1, Rl uV p22 c22 s2.2.2.2.2.2.1, Rl wS p23 c23 s2.2.2.2.2.2.2.1, Rl uU p24 c24 s2.2.2.2.2.2.2.2.1, Rl vA p25 c25 s2.2.2.2.2.2.2.2.2.2]) (gv (fun _ k=>k p3 c3 p4 c4 p6 c6 p7 c7 p8 c8 p9 c9 p10 c10 p11 c11) [0,1,2,3,4] (gq [9,10,0,1,2,3,4,5,11,8]))<|
  fun s2 _ k p18 c18 p19 c19 p20 c20 p21 c21 p22 c22 p23 c23 p24 c24 p25 c25=>k<|zD<|xG (fun K=>K [2,4,5,6,7] [] [8,9,0,1,2,3,4,5,6,7] [(28, vb ((s2.1 != 0) || (decide (9 < (len s2.2.2.2.2.2.2.1)))))] []) (qK<|zA 3 u<|
  yA (b := s2.1 != 0) 23 u (fun hb1=>zA 4 u<|zF (vb true)<|zS<|wQ 28 (vb ((s2.1 != 0) || (decide (9 < (len s2.2.2.2.2.2.2.1))))) u (by rw [hb1]; rfl)<|zL (gv kk [0,1,2,3,4] (gq [8,9,0,1,2,3,4,5,6,7])))<|fun hb1=>
  zM 3 u<|zU 4 u u u<|zA 2 u<|zF (vb (decide (9 < (len s2.2.2.2.2.2.2.1))))<|zS<|wQ 28 (vb ((s2.1 != 0) || (decide (9 < (len s2.2.2.2.2.2.2.1))))) u (by rw [hb1]; rfl)<|
  zL (gv kk [0,1,2,3,4] (gq [8,9,0,1,2,3,4,5,6,7])))<|fun _ k=>k<|zJ u (jC<|zQ<|zC<|zM 2 u<|qL .s 2 u u u<|zB<|zD<|zC<|zM 1 u<|zU 2 u u u<|zA 2 u<|zB<|zJ u (qN<|qM<|jbm<|qS<|qO<|
  zL (gv (fun _ k=>k p20 c20 p21 c21 p22 c22 p23 c23 p24 c24 p25 c25) [0,1,902,903,4] (gq [4,5,6,7,8,9,0])))<|jC<|zC<|zM 1 u<|zU 2 u u u<|zM 1 u<|zU 2 u u u<|zA 2 u<|
  jsl (gk 2) u u u (.inl ⟨rfl, rfl⟩) (.inr ⟨_, rfl⟩)<|fun x2 p26 c26=>zM 1 u<|qL .s 2 u u u<|zB<|qK<|qU 2 3 u u u<|qU 3 2 u u u<|qF zOm u ⟨ck 2,ck 0,cn,d⟩<|
  fun r5 _ k p27 c27 p28 c28 p29 c29 p30 c30 p31 c31 p32 c32=>k<|zA 3 u<|qL .s 4 u u u<|zA 1 u<|zS<|qB<|
  qE (gv (fun _ k=>k p26 c26 none 0 p27 c27 p28 c28 p29 c29 p30 c30 p31 c31 p32 c32) [0,1,2,3,4] ⟨gk 6,gn,gk 0,gk 1,gk 2,gk 3,gk 4,gk 5,gk 7,gk 8,d⟩))<|qN<|qM<|qS<|qO<|
  zL (gv (fun _ k=>k p20 c20 p21 c21 p22 c22 p23 c23 p24 c24 p25 c25) [0,1,902,903,4] (gq [4,5,6,7,8,9,0])))<|fun s1 _ k p12 c12 p13 c13 p14 c14 p15 c15 p16 c16 p17 c17=>k<|zC<|qU 4 7 u u u<|zA 2 u<|qL .s 1 u u u<|
  zA 1 u<|zB<|zG<|
  wK u (lC 1 (.agg #[sv p12 s1.2.1 c12, sv p13 s1.2.2.1 c13, sv p14 s1.2.2.2.1 c14, sv p15 s1.2.2.2.2.1 c15, sv p16 s1.2.2.2.2.2.1 c16, vi s1.2.2.2.2.2.2.1, sv p17 s1.2.2.2.2.2.2.2 c17]) u u (lT u lN)) (fun _ k=>k p12 c12 p13 c13 p14 c14 p15 c15 p16 c16 p17 c17) [0] (gq [0,1,2,3,4,5])
theorem zPp {y0 : List Int} : qC False prog 4 [sv p1 y0 c1] [] [Rl (zH .i64) p1 c1 y0, Tb prog "strings.asciiSpace" .u8 Lib.asciiSpaceTab, Pt (yK 4 vO) 1 0 zBD, Wt 2, Pt (yK 64 (zH .u8)) 4 0 yY, Tb prog "internal/strconv.uint64pow10" .u64 Lib.pow10Tab] (zE4 y0) fun r K=>K (vb r) [] [] :=
 zX call4 func4 u fun X=>jA 1 u<|zC<|zA 1 u<|qF z0M u (cq [0])<|fun r1 _ k b1 p2 c2=>k<|zA 1 u<|zB<|zC<|zA 1 u<|zZ .s [0] [] zVu u u u (cq [0])<|fun r2 _ k p3 c3 p4 c4 p5 c5 p6 c6 p7 c7 p8 c8=>k<|zA 3 u<|
  wO .s (.agg #[.slice none 0 0, .slice none 0 0, .slice none 0 0, .slice none 0 0, .slice none 0 0, vi 0, .slice none 0 0])<|fun b2=>qL .s 1 u u u<|zA 1 u<|zB<|zD<|jA 2 u<|zJ u (zC<|
  qF zQy rfl (cq [8,9,10,11,12])<|fun r3 _ k=>k<|zA 1 u<|zB<|zG<|qA<|zP u u kk [] d)<|jC<|zC<|qU 1 7 u u u<|qF zHf u (cq [0,1,2,3,4,5,11])<|fun r4 _ k p9 c9=>k<|zA 5 u<|zB<|zC<|
  qU 1 7 u u u<|qF zHf u (cq [1,2,3,4,5,6,12])<|fun r5 _ k p10 c10=>k<|zA 5 u<|zB<|zC<|qU 1 7 u u u<|qF zHf u (cq [2,3,4,5,6,7,13])<|fun r6 _ k p11 c11=>k<|zA 5 u<|zB<|zD<|
  xG (fun K=>K [4,6,8,10] [(0, [])] [2,1,0,3,4,5,6,7,8,11,12,13,14,15] [(57, vb ((r4.2 != 0) || ((r5.2 != 0) || (r6.2 != 0))))] []) (qK<|zA 3 u<|yA (b := r4.2 != 0) 50 u (fun hb1=>zA 2 u<|zF (vb true)<|zA 3 u<|zF (vb true)<|
  zS<|wQ 57 (vb ((r4.2 != 0) || ((r5.2 != 0) || (r6.2 != 0)))) u (by rw [hb1]; rfl)<|zL (gv kk [900,1] (gq [2,1,0,3,4,5,6,7,8,11,12,13,14,15])))<|fun hb1=>zA 2 u<|zF (vb (r5.2 != 0))<|zA 1 u<|
  yA (b := r5.2 != 0) 54 u (fun hb2=>zA 2 u<|zF (vb true)<|zS<|wQ 57 (vb ((r4.2 != 0) || ((r5.2 != 0) || (r6.2 != 0)))) u (by rw [hb1,hb2]; rfl)<|zL (gv kk [900,1] (gq [2,1,0,3,4,5,6,7,8,11,12,13,14,15])))<|fun hb2=>
  zA 2 u<|zF (vb (r6.2 != 0))<|zS<|wQ 57 (vb ((r4.2 != 0) || ((r5.2 != 0) || (r6.2 != 0)))) u (by rw [hb1,hb2]; rfl)<|zL (gv kk [900,1] (gq [2,1,0,3,4,5,6,7,8,11,12,13,14,15])))<|fun _ k=>k<|zJ u (jA 1 u<|zG<|qA<|
  zP u u kk [] d)<|jC<|zY8 (fun s1 K=>K [6,8,10] [(1, [])] [0,1,2,9,10,11,12,13] [] []) (jA 1 u<|zQ<|
  qT (fun s2 K=>K [4,6,8,10] [] [0,1,2,3,4,5,6,7,8,9,10,11,12,13] [(12, vi s2)] []) (gv kk [900,1] (gq [0,1,2,3,4,5,6,7,8,9,10,11,12,13]))<|fun s2 _ k=>k<|zD<|jA 2 u<|zJ u (jC<|zD<|zQ<|zC<|qU 1 7 u u u<|zA 1 u<|
  qF zKx u (cq [3,4,5,6,7,8,12])<|fun r7 _ k p12 c12=>k<|zA 5 u<|zB<|zD<|jA 2 u<|zJ u (jA 1 u<|zG<|qA<|qV<|qA<|wT<|qV<|wT<|zP u u kk [] d)<|jC<|jA 3 u<|zQ<|
  qT (fun s3 K=>K [4,6,8,10,12,70,71] [] [1,2,3,0,4,5,6,7,8,9,10,11,12,13,14] [(72, vi s3)] []) (gv kk [900,1] (gq [1,2,3,0,4,5,6,7,8,9,10,11,12,13,14]))<|fun s3 _ k=>k<|jA 1 u<|zD<|zJ u (jC<|zD<|zQ<|zC<|
  qQ 3 u u u<|fun x1 b3 o1=>qP false oL (gk 0) u<|fun p13 c13=>zA 1 u<|zB<|jA 3 u<|zQ<|
  qT (fun s4 K=>K [4,6,8,10,12,16,70,71,72,76,77] [] [2,3,4,5,0,6,7,8,9,10,11,12,13,14,15,16] [(78, vi s4)] []) (gv kk [900,1] (gq [2,3,4,5,0,6,7,8,9,10,11,12,13,14,15,16]))<|fun s4 _ k=>k<|jA 1 u<|zD<|zJ u (jC<|zD<|zQ<|
  zC<|qQ 0 u u u<|fun x2 b4 o2=>qP true yU (gk 0) u<|wO .s (.agg #[vb false, vs []])<|fun b5=>qL .s 2 u u u<|zB<|zC<|zA 1 u<|qU 2 2 u u u<|qF zL3 u (cq [5])<|fun r8 _ k=>k<|zA 1 u<|zB<|
  zJ u (jA 1 u<|zG<|qV<|qA<|wT<|qV<|qV<|qA<|wT<|qV<|qV<|qA<|wT<|qV<|wT<|zP u u kk [] d)<|wD<|qB<|zN<|jB 2 u<|qE (gv kk [900,1] (gq [1,2,3,4,5,6,7,8,9,10,11,12,13,14,15,16])))<|qN<|qM<|qS<|
  qO<|qB<|zN<|jB 2 u<|qE (gv kk [900,1] (gq [0,1,2,3,5,6,7,8,9,10,11,12,13,14,15])))<|qN<|qM<|qS<|qO<|qB<|zN<|jB 3 u<|qE (gv kk [900,1] (gq [0,1,2,4,5,6,7,8,9,10,11,12,13,14])))<|qN<|qM<|qS<|qO<|
  qE (gv kk [900,901] (gq [0,1,2,9,10,11,12,13])))<|fun s1 _ k=>k<|zY8 (fun s5 K=>K [8,10] [] [1,2,3,4,5,6,7] [] []) (jA 3 u<|zQ<|
  qT (fun s6 K=>K [8,10,88,89] [] [1,2,0,3,4,5,6,7] [(90, vi s6)] []) (gv kk [900,901] (gq [1,2,0,3,4,5,6,7]))<|fun s6 _ k=>k<|jA 1 u<|zD<|zJ u (jC<|zD<|zQ<|zC<|qQ 2 u u u<|fun x3 b6 o3=>
  qP true yU (gk 0) u<|wO .s (.agg #[vb false, vs []])<|fun b7=>qL .s 2 u u u<|zB<|zC<|zA 1 u<|qU 2 2 u u u<|qF zL3 u (cq [1])<|fun r9 _ k=>k<|zA 1 u<|zB<|zJ u (jA 1 u<|zG<|qV<|qA<|wT<|
  qV<|wT<|zP u u kk [] d)<|wD<|qB<|zN<|jB 2 u<|qE (gv kk [900,901] (gq [1,2,3,4,5,6,7,8])))<|qN<|qM<|qS<|qO<|qE (gv kk [900,901] (gq [0,1,3,4,5,6,7])))<|fun s5 _ k=>k<|
  zY8 (fun s7 K=>K [] [] [2,3,4,5,6] [] []) (jA 3 u<|zQ<|qT (fun s8 K=>K [10,99,100] [] [1,0,2,3,4,5,6] [(101, vi s8)] []) (gv kk [900,901] (gq [1,0,2,3,4,5,6]))<|fun s8 _ k=>k<|jA 1 u<|zD<|zJ u (jC<|zD<|zQ<|zC<|
  qQ 1 u u u<|fun x4 b8 o4=>qP true yU (gk 0) u<|wO .s (.agg #[vb false, vs []])<|fun b9=>qL .s 2 u u u<|zB<|zC<|zA 1 u<|qU 2 2 u u u<|qF zL3 u (cq [1])<|fun r10 _ k=>k<|zA 1 u<|zB<|
  zJ u (jA 1 u<|zG<|qV<|qA<|wT<|qV<|wT<|zP u u kk [] d)<|wD<|qB<|zN<|jB 2 u<|qE (gv kk [900,901] (gq [1,2,3,4,5,6,7])))<|qN<|qM<|qS<|qO<|qE (gv kk [900,901] (gq [2,3,4,5,6])))<|
  fun s7 _ k=>k<|zC<|qF zQy rfl (cq [0,1,2,3,4])<|fun r11 _ k=>k<|zA 1 u<|zB<|zG<|zP u u kk [] d
end Go.Proofs.YtjfjjkgaddknfaaGreatDoor
