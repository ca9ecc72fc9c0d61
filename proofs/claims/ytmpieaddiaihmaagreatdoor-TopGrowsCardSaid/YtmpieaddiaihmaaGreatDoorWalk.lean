/- A part. Conditions: none. -/
import Derived.Test.YtmpieaddiaihmaaGreatDoorWalk5
namespace Go.Proofs.YtmpieaddiaihmaaGreatDoor
open Go Go.GD Go.Proofs.Tryz
set_option autoImplicit false
set_option linter.unusedVariables false
set_option maxRecDepth 100000
set_option linter.defProp false
variable {qd:Prop}
variable {yl1:Nat}{p1 p2 p3 p4 p5 p6 p7 p8 p9:Option Addr}{c1 c2 c3 c4 c5 c6 c7 c8 c9:Nat}{b1 b2 b3 b4 b5 b6 b7 b8 b9 b10 b11:Nat}{r_1 r_2 r_3 r_4 r_5 r_6:zJ}
theorem zXV{y0:zI}{y1:zI}: zP qd prog 150 [.agg #[vb y0.1,vs y0.2],.agg #[vb y1.1,vs y1.2]] [] [] (zK5 y0 y1) fun r K=>K (vi r) [] [] :=
 zN call150 func150 u fun X=>zH<|wR .s u<|fun b1=>wR .s u<|fun b2=>zA 1 u<|zK<|zQ<|zX<|zH<|wQ 0 2 u u u<|wQ 1 2 u u u<|qE (vb (y0==y1))<|zA 1 u<|zK<|zS u (jA 1 u<|qO<|xK<|vD<|yB u u kk [] d)<|
  jjp (fun K=>K [(9,vb ((uF y0.2 y1.2)||((y0.2==y1.2)&&y1.1)))] [[],[]] []) (vG<|qB 1 u<|qG 0 u u u<|qB 1 u<|
  qG 1 u u u<|zA 2 u<|tO (b:=uF y0.2 y1.2) 15 u (fun hb1=>zA 9 u<|qE (vb true)<|zA 1 u<|wK<|uD 9 (vb ((uF y0.2 y1.2)||((y0.2==y1.2)&&y1.1))) u (by rw[hb1];rfl)<|qI (gv kk [900,901] d)
  )<|fun hb1=>qB 1 u<|qG 0 u u u<|qB 1 u<|qG 1 u u u<|zA 2 u<|tO (b:=y0.2==y1.2) 21 u (fun hb2=>qB 0 u<|qG 1 u u u<|qE (vb y1.1)<|qE (vb y1.1)<|zA 1 u<|wK<|
  uD 9 (vb ((uF y0.2 y1.2)||((y0.2==y1.2)&&y1.1))) u (by rw[hb1,hb2];rfl)<|qI (gv kk [900,901] d))<|fun hb2=>zA 2 u<|qE (vb false)<|qE (vb false)<|zA 1 u<|wK<|
  uD 9 (vb ((uF y0.2 y1.2)||((y0.2==y1.2)&&y1.1))) u (by rw[hb1,hb2];rfl)<|qI (gv kk [900,901] d))<|fun _ k=>k<|zS u (jA 1 u<|qO<|xK<|vD<|yB u u kk [] d)<|yA<|vM<|qK<|jA 1 u<|qO<|
  yB u u kk [] d
abbrev zYj:=@Cn.mk 150 0 _ @zXV
attribute [instance] zYT zYj
theorem z1g{y0:qC}: zP qd prog 90 [.agg (zVs y0 p1 c1).toArray] [] (zZ9 y0 p1 c1 []) (zNk y0) fun r K=>K (vi r) [] [] :=
 zN call90 func90 u fun X=>hD 13 [] [0] (.l [0,1,2,3,4,5,6,7,8,9,10] (.f 11 (.l [12] .e)))<|hI 1 3 0 (fun(s1:Bool) K=>K [1] [] [0] [(3,vb s1)] [])<|hI 1 4 1 (fun(s2:Bool) K=>K [1] [] [0] [(3,vb s2)] [])<|hI 0 5 2 (fun(s3:Bool×Int) K=>K [1] [] [0] [(3,vb s3.1),(4,vi s3.2)] [])<|hI 3 7 0 (fun(s4:Bool) K=>K [1,4] [] [0] [(3,vb s4)] [])<|hI 0 11 2 (fun(s5:Int) K=>K [1] [] [0] [(5,vi s5)] [])<|
 au
abbrev z1w:=@Cn.mk 90 0 _ @z1g
attribute [instance] z1w
set_option maxHeartbeats 2000000 in
theorem zPx{y0:zM}: zP qd prog 47 [.agg (vT y0 p1 c1 p2 c2 p3 c3).toArray] [] (vW y0 p1 c1 p2 c2 p3 c3 []) (zHC y0) fun r K=>K (vi r) [] [] :=
 zN call47 func47 u fun X=>hD 9 [] [0] (.l [0,1,2,3,4,5,6,8] (.f 7 (.l [9] .e)))<|hD 17 [] [0] (.l [0,1,2,3,4,5,6,8] (.f 7 (.l [9] .e)))<|hP 4 1 0 (fun K=>K [1] [] [0,1,2] [(25,vb ((decide (16<(len y0.1)))||((decide (24<(len y0.2.1)))||(decide (8<(len y0.2.2))))))] [])<|hI 2 3 1 (fun(s1:Unit) K=>K [1] [] [0,1,2] [] [])<|hI 0 4 2 (fun(s2:Int) K=>K [1] [] [0,1,2] [(3,vi s2)] [])<|hI 2 11 1 (fun(s3:Unit) K=>K [1] [] [0,1,2] [] [])<|hI 0 12 2 (fun(s4:Int) K=>K [1] [] [0,1,2] [(5,vi s4)] [])<|hI 0 20 2 (fun(s5:Int) K=>K [1] [] [0,1,2] [(7,vi s5)] [])<|hI 1 23 0 (fun(s6:Bool) K=>K [1,7,8] [] [1,2,3] [(99,vb s6)] [])<|
 au
abbrev zWl:=@Cn.mk 47 0 _ @zPx
theorem zXd{y0:List zI}{y1:zI}: zP qd prog 94 [sv p1 y0 c1,.agg #[vb y1.1,vs y1.2]] [] [Rl qY p1 c1 y0] (zSl y0 y1) fun r K=>K (vb r) [] [] :=
 zN call94 func94 u fun X=>zH<|wR .s u<|fun b1=>zA 1 u<|zK<|zQ<|jA 1 u<|zX<|wD (fun s1 K=>K [0,3] [] [0] [(5,vi s1)] []) (gv kk [0] (gq [0]))<|fun s1 _ k=>k<|zQ<|jA 4 u<|zS u (jC<|zQ<|zX<|
  uR [] [0] 6<|zW 4 [0,1] u<|jdi 2 0 u u u u<|fun x1 b2 o1=>jdl 3 true xZ u (gk 0) u<|uQ 4 0 2 u u u u<|vR 5 (vb (x1==y1)) u<|qT<|qK<|zS u (jA 1 u<|qO<|xK<|vD<|jlr<|xK<|vD<|
  yB u u kk [] d)<|yA<|vM<|qK<|jB 3 u<|yH (gv kk [0] (gq [1])))<|uA<|yR<|yY<|yZ<|qK<|jA 1 u<|qO<|yB u u kk [] d
abbrev z4E:=@Cn.mk 94 0 _ @zXd
theorem zZ4{y0:List Int}{y1:Int}: zP qd prog 152 [sv p1 y0 c1,vi y1] [] [Rl (zC .i64) p1 c1 y0] (zJS y0 y1) fun r K=>∀ p2 c2,K (sv p2 r c2) [] [Rl (zC .i64) p2 c2 r] :=
 zN call152 func152 u fun X=>jA 1 u<|jA 1 u<|wC (fun s1 K=>K [0,1] [] [0] [(5,vi s1)] []) (hI 0 2 2 (fun(s2:Int) K=>K [0,1] [] [0] [(5,vi s2)] [])<|hI 1 2 0 (fun(s3:Bool) K=>K [0,1,5] [] [0] [(18,vb s3)] [])<|
 au
)<|fun s1 _ k=>k<|zQ<|wC (fun s4 K=>K [0,1,5] [] [0] [(32,vb s4)] []) (
 au
)<|fun s4 _ k=>k<|zS u (
 au
)<|jC<|zH<|jbo .s (e:=zC .i64) 3 [] ([]:List Int) rN<|fun r_1 p2 c2=>zA 2 u<|jsl (gk 1) u u u (.inl ⟨rfl,rfl⟩) (.inr ⟨_,rfl⟩)<|fun x3 p3 c3=>
  uE .s 0 1 u (gk 0) u u<|fun x4 r_2 p4 c4=>zA 1 u<|zK<|uR [] [] 9<|zW 5 [0,1,4,5] u<|jdw 6 u (gk 3) u u u (.inr ⟨_,rfl⟩) (.inl ⟨rfl,rfl⟩)<|fun x5 p5 c5=>qM 2<|
  yI (.f u) (e:=zC .i64) 3 [vi y1] ([y1]:List Int) (rC vI rN)<|fun p6 c6=>qN<|qM 3<|uE (.f u) 0 2 u (gk 0) u u<|fun x6 r_3 p7 c7=>qN<|qM 7<|uE (.f u) 0 0 u (gk 2) u u<|fun x7 r_4 p8 c8=>qN<|zW 0 [8] u<|qT<|
 au
abbrev zZH:=@Cn.mk 152 0 _ @zZ4
attribute [instance] zWl z4E zZH
theorem z0v{y0:List Int}{y1:List Int}: zP qd prog 226 [sv p1 y0 c1,sv p2 y1 c2] [] [Rl (zC .i64) p1 c1 y0,Rl (zC .i64) p2 c2 y1] (zP7 y0 y1) fun r K=>∀ p3 c3,K (sv p3 r c3) [] [Rl (zC .i64) p3 c3 r] :=
 zN call226 func226 u fun X=>hI 0 2 2 (fun(s1:(List Int)×Int) K=>∀ p3 c3,K [1] [] [1] [(0,sv p3 s1.1 c3),(5,vi s1.2)] [Rl (zC .i64) p3 c3 s1.1])<|
 au
abbrev z0i:=@Cn.mk 226 0 _ @z0v
attribute [instance] z0i
theorem zWz (k:Nat):
    (∀ {y0:List zD} {p1:Option Addr} {c1:Nat} {y1:Int},zP qd prog 151 [sv p1 y0 c1,vi y1] [] [Rl qS p1 c1 y0] (zI1 k y0 y1) fun r K=>∀ p2 c2,K (sv p2 r c2) [] [Rl (zC .i64) p2 c2 r]):=by
  induction k with
  | zero=>exact z9x call151
  | succ k ih =>
    have ih_ref07_Subs:=@ih
    have zWF:=@Cn.mk 151 0 _ (@ih_ref07_Subs)
    exact @fun y0 p1 c1 y1=>zN (m1:=zNh (zI1 k) y0 y1) call151 func151 u fun X=>hP 4 1 0 (fun K=>K [0,1] [] [0] [(14,vb ((decide (y1<0))||(decide ((len y0)≤y1))))] [])<|hI 0 5 2 (fun(s1:(List Int)×Int) K=>∀ p3 c3,K [0,1] [] [1] [(5,sv p3 s1.1 c3),(6,vi s1.2)] [Rl (zC .i64) p3 c3 s1.1])<|
 au
theorem z2R{y0:List zD}{y1:Int}: zP qd prog 151 [sv p1 y0 c1,vi y1] [] [Rl qS p1 c1 y0] (zQp y0 y1) fun r K=>∀ p2 c2,K (sv p2 r c2) [] [Rl (zC .i64) p2 c2 r]:=zVr fun k=>(zWz k)
abbrev zWF:=@Cn.mk 151 0 _ @z2R
attribute [instance] zWF
theorem zKQ{y0:zM}{y1:List zD}{y2:Int}: zP qd prog 97 [.agg (vT y0 p1 c1 p2 c2 p3 c3).toArray,sv p4 y1 c4,vi y2] [] (vW y0 p1 c1 p2 c2 p3 c3 [Rl qS p4 c4 y1]) (zEr y0 y1 y2) fun r K=>∀ p5 c5,K (sv p5 r c5) [] [Rl (zC .i64) p5 c5 r] :=
 zN call97 func97 u fun X=>hD 5 [] [0] (.l [0,1,2,3,4,5,6] (.s 24 (.l [7,8,9,10,11,12,13,14,15,16,17,18] .e) (.l [7,8,9,10,11,12,13,14,15,16,17,18] .e)))<|hI 0 3 1 (fun(s1:(List Int)×Int) K=>∀ p6 c6,K [1,3,12,13] [] [4,0,1,2,3] [(7,sv p6 s1.1 c6),(14,vi s1.2)] [Rl (zC .i64) p6 c6 s1.1])<|hI 1 5 0 (fun(s2:Bool) K=>K [1,3,7,9,12,13,14] [] [2,1,3,4,5,6] [(36,vb s2)] [])<|
 au
abbrev zT3:=@Cn.mk 97 0 _ @zKQ
attribute [instance] zT3
theorem zYA (k:Nat):
    (∀ {y0:zM} {p1:Option Addr} {c1:Nat} {p2:Option Addr} {c2:Nat} {p3:Option Addr} {c3:Nat} {y1:List zD} {p4:Option Addr} {c4:Nat} {y2:Int},zP qd prog 95 [.agg (vT y0 p1 c1 p2 c2 p3 c3).toArray,sv p4 y1 c4,vi y2] [] (vW y0 p1 c1 p2 c2 p3 c3 [Rl qS p4 c4 y1]) (zBa k y0 y1 y2) fun r K=>∀ p5 c5,K (sv p5 r c5) [] [Rl qY p5 c5 r]):=by
  induction k with
  | zero=>exact z9x call95
  | succ k ih =>
    have ih_ref07_Run:=@ih
    have zYR:=@Cn.mk 95 0 _ (@ih_ref07_Run)
    exact @fun y0 p1 c1 p2 c2 p3 c3 y1 p4 c4 y2=>zN (m1:=zG6 (zBa k) y0 y1 y2) call95 func95 u fun X=>hD 2 [] [0] (.l [0,1,2,3,4,5,6] (.s 21 (.l [7,8,9,10,11,12,13,14,15,16,17] .e) (.l [7,8,9,10,11,12,13,14,15,16,17] .e)))<|hD 6 [] [0] (.l [0,1,2,3,4,5,6,7,8,9,10] (.f 11 (.f 12 (.l [13] .e))))<|hO 14<|hI 1 2 0 (fun(s1:Bool) K=>K [1,2,3,7] [] [5,0,2,3,4] [(32,vb s1)] [])<|hI 0 4 2 (fun(s2:(List zI)×Int) K=>∀ p6 c6 r_2,K [1,2,3] [(1,.r r_2)] [0,2,3,4] [(7,sv p6 s2.1 c6),(8,vi s2.2)] [Al qY 87 r_2 p6 c6 s2.1])<|
 au
theorem zXu{y0:zM}{y1:List zD}{y2:Int}: zP qd prog 95 [.agg (vT y0 p1 c1 p2 c2 p3 c3).toArray,sv p4 y1 c4,vi y2] [] (vW y0 p1 c1 p2 c2 p3 c3 [Rl qS p4 c4 y1]) (zLG y0 y1 y2) fun r K=>∀ p5 c5,K (sv p5 r c5) [] [Rl qY p5 c5 r]:=zVr fun k=>(zYA k)
abbrev zYR:=@Cn.mk 95 0 _ @zXu
theorem zVT{y0:List Int}{y1:Int}: zP qd prog 96 [sv p1 y0 c1,vi y1] [] [Rl (zC .i64) p1 c1 y0] (zR5 y0 y1) fun r K=>K (vb r) [] [] :=
 zN call96 func96 u fun X=>hI 0 2 2 (fun(s1:Int) K=>K [0,1] [] [0] [(5,vi s1)] [])<|
 au
abbrev z5V:=@Cn.mk 96 0 _ @zVT
theorem zOD{y0:zM}{y1:List zD}{y2:Int}{y3:List Int}: zP qd prog 50 [.agg (vT y0 p1 c1 p2 c2 p3 c3).toArray,sv p4 y1 c4,vi y2,sv p5 y3 c5] [] (vW y0 p1 c1 p2 c2 p3 c3 [Rl qS p4 c4 y1,Rl (zC .i64) p5 c5 y3]) (zH0 y0 y1 y2 y3) fun r K=>K (vb r) [] [] :=
 zN call50 func50 u fun X=>zH<|wR .s u<|fun b1=>zA 1 u<|zK<|zH<|qB 1 u<|qG 0 u u u<|zA 1 u<|yJ 1 u u u<|fun x1 b2 o1=>yU true zZj (gk 0) u<|fun p6 c6=>vH .s (.agg k2)<|
  fun b3=>qU .s 1 u u u<|zK<|zQ<|jA 1 u<|zX<|wD (fun s1 K=>K [1,2,3,4,9] [] [5,6,2,3,4,0] [(10,vi s1)] []) (gv kk [0,1] (gq [5,6,2,3,4,0]))<|fun s1 _ k=>k<|
  zQ<|jA 4 u<|zS u (jC<|zQ<|zX<|wC (fun s2 K=>K [1,2,3,4,9,10] [] [0,1,2,3,4,5] [(51,vb s2)] []) (xY [] [0,1] 30<|qR 0 1 u u<|
  wS 1 1 u u u u<|zW 27 [2] u<|tI 24 u (uQ 3 0 3 u u u u<|zW 23 [4,5,6] u<|jdi 7 1 u u u u<|fun x2 b4 o2=>jdl 8 false oI u (gk 0) u<|qR 10 4 u u<|uQ 11 1 2 u u u u<|qM 9<|
  qL (.f u) [] [] zXu u u u (cq [3,4,5,1])<|fun r1 _ k p7 c7=>k<|qN<|qM 12<|qL (.f u) [] [] zXd u u u (cq [0])<|fun r2 _ k=>k<|qN<|vR 13 (vb r2) u<|zW 15 [14] u<|tI 36 u (
  zW 1 [15,16,17,18,19,20,21,22,23,24,25,26,27,28] u<|vR 29 (vb true) u<|qT<|qI (gv kk [0,1] (gq [2,3,4,5,6,7])))<|qR 15 1 u u<|wS 16 1 u u u u<|zW 11 [17,18] u<|tI 40 u (uQ 19 0 3 u u u u<|
  zW 7 [20,21,22] u<|jdi 23 3 u u u u<|fun x3 b5 o3=>jdl 24 false oI u (gk 0) u<|zW 4 [26] u<|qM 25<|qL (.f u) [] [] zKQ u u u (cq [5,6,7,3])<|fun r3 _ k p8 c8=>k<|qN<|qM 27<|
  qL (.f u) [] [] zVT u u u (cq [0])<|fun r4 _ k=>k<|qN<|vR 28 (vb r4) u<|vR 29 (vb r4) u<|qT<|qI (gv kk [0,1] (gq [4,5,6,7,8,9])))<|zW 2 [19,20,21,22,23,24,25,26,27] u<|vR 28 (vb false) u<|
  vR 29 (vb false) u<|qT<|qI (gv kk [0,1] (gq [2,3,4,5,6,7])))<|zW 17 [3,4,5,6,7,8,9,10,11,12] u<|vR 13 (vb false) u<|zW 15 [14] u<|qR 15 1 u u<|wS 16 1 u u u u<|zW 11 [17,18] u<|tI 40 u (
  uQ 19 0 3 u u u u<|zW 7 [20,21,22] u<|jdi 23 1 u u u u<|fun x4 b6 o4=>jdl 24 false oI u (gk 0) u<|zW 4 [26] u<|qM 25<|qL (.f u) [] [] zKQ u u u (cq [3,4,5,1])<|fun r5 _ k p9 c9=>k<|qN<|
  qM 27<|qL (.f u) [] [] zVT u u u (cq [0])<|fun r6 _ k=>k<|qN<|vR 28 (vb r6) u<|vR 29 (vb r6) u<|qT<|qI (gv kk [0,1] (gq [2,3,4,5,6,7])))<|zW 2 [19,20,21,22,23,24,25,26,27] u<|vR 28 (vb false) u<|
  vR 29 (vb false) u<|qT<|qI (gv kk [0,1] (gq [0,1,2,3,4,5])))<|fun s2 _ k=>k<|zS u (jA 1 u<|qO<|xK<|vD<|jlr<|xK<|vD<|yB u u kk [] d)<|yA<|vM<|qK<|jB 3 u<|
  yH (gv kk [0,1] (gq [0,1,2,3,4,5])))<|uA<|yR<|yY<|yZ<|qK<|jA 1 u<|qO<|yB u u kk [] d
abbrev zYt:=@Cn.mk 50 0 _ @zOD
theorem zQZ (k:Nat):
    (∀ {y0:List zD} {p1:Option Addr} {c1:Nat} {r_1:zJ} {y1:Int} {y2:List zI} {p2:Option Addr} {c2:Nat} {y3:List Int} {p3:Option Addr} {c3:Nat},zP qd prog 48 [sv p1 y0 c1,vi y1,sv p2 y2 c2,sv p3 y3 c3] [r_1] [Al qS 95 r_1 p1 c1 y0,Rl qY p2 c2 y2,Rl (zC .i64) p3 c3 y3] (zDH k y0 y1 y2 y3) fun r K=>∀ p4 c4,K (sv p4 r c4) [r_1] [Rl (qA (zC .i64)) p4 c4 r]):=by
  induction k with
  | zero=>exact z9x call48
  | succ k ih =>
    have ih_ref07_choices_2:=@ih
    have zO1:=@Cn.mk 48 0 _ (@ih_ref07_choices_2)
    exact @fun y0 p1 c1 r_1 y1 y2 p2 c2 y3 p3 c3=>zN (m1:=zIr (zDH k) y0 y1 y2 y3) call48 func48 u fun X=>jA 1 u<|zQ<|jA 5 u<|zS u (zH<|jbo .s (e:=zC .i64) 3 [] ([]:List Int) rN<|fun r_2 p4 c4=>zA 1 u<|uE .s 1 0 u (gk 3) u u<|fun x1 r_3 p5 c5=>uI 1 0 u u<|
  yI .s (e:=qA (zC .i64)) 22 [sv p5 x1 c5] ([x1]:List (List Int)) (rC (vL (gk 0)) rN)<|fun p6 c6=>zA 1 u<|zK<|qO<|vD<|yB u u (fun _ k=>k p6 c6) [0] (gq [0]))<|jC<|zH<|zA 1 u<|yX (qA (zC .i64)) 22 <|
  zK<|zQ<|jA 1 u<|zX<|
  wD (fun s1 K=>∀ p7 c7 r_4,K [0,1,2,3] [(1,r_4)] [1,2,3] [(9,sv p7 s1.1 c7),(10,vi s1.2)] [Al (qA (zC .i64)) 22 r_4 p7 c7 s1.1]) (gv (fun _ k=>k none 0 []) [0,1] (gq [0,1,2,3]))<|
  fun s1 _ k p7 c7 r_4=>k<|zQ<|jA 3 u<|zS u (jC<|zQ<|zX<|uR [] [0] 11<|zW 9 [0,1] u<|jdI 2 1 u u u u<|fun x2 h2 b1 o1 hp1=>qR 3 3 u u<|jdL 4 0 1 sI.snd.snd.snd true xZ u u hp1 h2 u<|
  zW 3 [5,6,7] u<|jdi 8 2 u u u u<|fun x3 b2 o2=>jdl 9 true xZ u (gk 0) u<|vR 10 (vb (x2.2.2.2==x3)) u<|qT<|qK<|zS u (vG<|zA 9 u<|jsF (gk 4) u u u u (.inl ⟨rfl,rfl⟩)<|fun x4 p8=>zA 1 u<|
  yI .s (e:=zC .i64) 3 [vi s1.2] ([s1.2]:List Int) (rC vI rN)<|fun p9 c8=>jaf .s 3 (gk 1) (gk 0) u u<|fun x5 p10 c9=>qL .s [0] [] ih_ref07_choices_2 u u u (cq [5,6,0])<|fun r1 _ k p11 c10=>k<|uE .s 1 5 u (gk 0) u u<|
  fun x6 r_5 p12 c11=>zA 1 u<|wK<|vM<|qK<|jB 3 u<|yH (gv (fun _ k=>k p12 c11 r_5) [0,1] (gq [0,7,8,9])))<|yA<|vM<|qK<|jB 3 u<|yH (gv (fun _ k=>k p7 c7 r_4) [0,1] (gq [1,2,3,4])))<|uA<|yR<|yY<|yZ<|qK<|jA 2 u<|qO<|
  uI 1 0 u u<|yB u u (fun _ k=>k p7 c7) [0] (gq [0])
theorem zOX{y0:List zD}{y1:Int}{y2:List zI}{y3:List Int}: zP qd prog 48 [sv p1 y0 c1,vi y1,sv p2 y2 c2,sv p3 y3 c3] [r_1] [Al qS 95 r_1 p1 c1 y0,Rl qY p2 c2 y2,Rl (zC .i64) p3 c3 y3] (zLF y0 y1 y2 y3) fun r K=>∀ p4 c4,K (sv p4 r c4) [r_1] [Rl (qA (zC .i64)) p4 c4 r]:=zVr fun k=>(zQZ k)
abbrev zO1:=@Cn.mk 48 0 _ @zOX
theorem zSL{y0:List Int}{y1:Int}: zP qd prog 49 [sv p1 y0 c1,vi y1] [] [Rl (zC .i64) p1 c1 y0] (zNz y0 y1) fun r K=>K (vb r) [] [] :=
 zN call49 func49 u fun X=>hI 0 2 2 (fun(s1:Int) K=>K [0,1] [] [0] [(5,vi s1)] [])<|
 au
abbrev zZF:=@Cn.mk 49 0 _ @zSL
theorem zUH{y0:zM}: zP qd prog 18 [.agg (vT y0 p1 c1 p2 c2 p3 c3).toArray] [] (vW y0 p1 c1 p2 c2 p3 c3 []) (zIo y0) fun r K=>∀ p4 c4,K (.tuple #[sv p4 r.1 c4,vi r.2]) [] [Rl qS p4 c4 r.1] :=
 zN call18 func18 u fun X=>zH<|wR .s u<|fun b1=>zA 2 u<|zK<|zQ<|zH<|wQ 0 3 u u u<|wF zPx u (cq [0,1,2])<|fun r1 _ k=>k<|zA 1 u<|zK<|jA 2 u<|zS u (jA 3 u<|qO<|vD<|
  yD u (lT u (lT u lN)) (fun _ k=>k none 0) [] ⟨gn,d⟩)<|jC<|zH<|zA 1 u<|yX qS 95 <|zK<|
  wC (fun s1 K=>∀ p4 c4 r_1,K [1] [(1,r_1)] [1,2,3] [(5,sv p4 s1 c4)] [Al qS 95 r_1 p4 c4 s1]) (jA 1 u<|zX<|
  wD (fun s2 K=>∀ p5 c5 r_2,K [1] [(1,r_2)] [1,2,3] [(5,sv p5 s2.1 c5),(6,vi s2.2)] [Al qS 95 r_2 p5 c5 s2.1]) (gv (fun _ k=>k none 0 []) [0,1] (gq [0,1,2,3]))<|
  fun s2 _ k p5 c5 r_2=>k<|zQ<|zH<|zA 1 u<|qB 0 u<|qG 0 u u u<|zA 2 u<|zK<|zS u (jC<|zQ<|zX<|vG<|zA 2 u<|qB 0 u<|qG 0 u u u<|zA 1 u<|yJ 1 u u u<|fun x1 b2 o1=>qB 0 u<|
  yU true xZ (gf (gk 0)) u<|qE (.agg #[vi s2.2,vi (-1),.slice none 0 0,vb x1.1.1,vs x1.1.2])<|
  yI .s (e:=qS) 95 [vi s2.2,vi (-1),.slice none 0 0,vb x1.1.1,vs x1.1.2] ([(s2.2,(-1),([]:List Int),x1.1)]:List zD) (rC (vP vI (vP vI (vP (vL gn) (vP vB vS)))) rN)<|fun p6 c6=>uE .s 1 2 u (gk 0) u u<|
  fun x2 r_3 p7 c7=>zA 1 u<|wK<|vM<|qK<|jB 3 u<|yH (gv (fun _ k=>k p7 c7 r_3) [0,1] (gq [0,4,5,6])))<|uA<|yR<|yY<|yZ<|qI (gv (fun _ k=>k p5 c5 r_2) [0,1] (gq [0,1,2,3])))<|fun s1 _ k p4 c4 r_1=>k<|jA 1 u<|zQ<|jA 1 u<|zX<|
  wD (fun s3 K=>∀ p8 c8 r_4,K [1] [(1,r_4)] [1,2,3] [(5,sv p8 s3.1 c8),(7,vi s3.2.1),(8,vi s3.2.2)] [Al qS 95 r_4 p8 c8 s3.1]) (gv (fun _ k=>k p4 c4 r_1) [0,1] (gq [0,1,2,3]))<|
  fun s3 _ k p8 c8 r_4=>k<|zQ<|z5h (fun K=>K [1,5,7,8] [] [0,1,2,3] [(43,vb ((s3.2.2==1)||(decide (s3.2.1<(len s3.1)))))] []) (vG<|
  zA 3 u<|tO (b:=s3.2.2==1) 38 u (fun hb1=>zA 4 u<|qE (vb true)<|wK<|uD 43 (vb ((s3.2.2==1)||(decide (s3.2.1<(len s3.1))))) u (by rw[hb1];rfl)<|qI (gv kk [0,1] (gq [0,1,2,3])))<|fun hb1=>zA 4 u<|
  qE (vb (decide (s3.2.1<(len s3.1))))<|wK<|uD 43 (vb ((s3.2.2==1)||(decide (s3.2.1<(len s3.1))))) u (by rw[hb1];rfl)<|qI (gv kk [0,1] (gq [0,1,2,3])))<|fun _ k=>k<|zS u (jC<|zQ<|zX<|jA 3 u<|zQ<|jA 1 u<|
  zX<|
  wD (fun s4 K=>∀ p9 c9 r_5,K [1,7,8,9] [(1,r_5)] [1,2,3] [(5,sv p9 s4.1 c9),(10,vi s4.2)] [Al qS 95 r_5 p9 c9 s4.1]) (gv (fun _ k=>k p8 c8 r_4) [0,1] (gq [0,1,2,3]))<|
  fun s4 _ k p9 c9 r_5=>k<|zQ<|zH<|zA 1 u<|qB 1 u<|qG 0 u u u<|zA 2 u<|zK<|zS u (jC<|zQ<|zX<|zH<|zA 2 u<|qB 1 u<|qG 0 u u u<|zA 1 u<|yJ 2 u u u<|fun x3 b3 o2=>qB 3 u<|
  yU false oL (gf (gs (gs (gs (gk 0))))) u<|fun p10 c10=>qL .s [1] [] zOX u u u ⟨ck 2,ck 0,cn,d⟩<|fun r2 _ k p11 c11=>k<|zA 2 u<|zK<|zX<|
  wD (fun s5 K=>∀ p12 c12 r_6,K [1,7,8,9,10,63,64] [(1,r_6)] [0,4,5,6] [(5,sv p12 s5.1 c12),(65,vi s5.2)] [Al qS 95 r_6 p12 c12 s5.1]) (gv (fun _ k=>k p9 c9 r_5) [0,1] (gq [3,0,4,5,6]))<|
  fun s5 _ k p12 c12 r_6=>k<|jA 1 u<|zQ<|zS u (jC<|zQ<|zX<|zH<|yJ 1 u u u<|fun x4 b4 o3=>yU false oL (gk 0) u<|fun p13 c13=>zA 1 u<|zK<|zQ<|
  wC (fun s6 K=>K [1,5,7,8,9,10,12,63,64,65] [] [2,3,0,4,5,6] [(89,vb s6)] []) (vG<|zA 2 u<|wF zSL u (cq [0])<|fun r3 _ k=>k<|zA 2 u<|
  tI 73 u (zA 3 u<|tI 76 u (zA 3 u<|qE (vb true)<|qE (vb true)<|zA 7 u<|qE (vb true)<|wK<|qI (gv kk [0,1] (gq [2,3,0,4,5,6])))<|zA 3 u<|qE (vb (decide (0<(len x4))))<|qE (vb (decide (0<(len x4))))<|
  zA 1 u<|tI 82 u (zA 6 u<|qE (vb true)<|wK<|qI (gv kk [0,1] (gq [2,3,0,4,5,6])))<|wQ 0 3 u u u<|zA 3 u<|qL .s [] [1] zOD u u u ⟨ck 4,ck 5,ck 6,cl 1 2,ck 0,d⟩<|fun r4 _ k=>k<|zA 1 u<|
  qE (vb (!r4))<|wK<|qI (gv kk [0,1] (gq [2,3,0,4,5,6])))<|zA 7 u<|qE (vb false)<|zA 1 u<|wQ 0 3 u u u<|zA 3 u<|qL .s [] [1] zOD u u u ⟨ck 4,ck 5,ck 6,cl 1 2,ck 0,d⟩<|fun r5 _ k=>k<|zA 1 u<|
  qE (vb (!r5))<|wK<|qI (gv kk [0,1] (gq [2,3,0,4,5,6])))<|fun s6 _ k=>k<|zS u (uA<|yR<|yZ<|qK<|jB 2 u<|yH (gv (fun _ k=>k p12 c12 r_6) [0,1] (gq [0,1,3,4,5])))<|jC<|zH<|zA 3 u<|qB 1 u<|qG 0 u u u<|
  zA 1 u<|yJ 4 u u u<|fun x5 b5 o4=>qB 4 u<|yU true xZ (gs (gs (gs (gs (gk 0))))) u<|qE (.agg #[vi (-1),vi s4.2,sv p13 x4 c13,vb (a4 x5).1,vs (a5 x5)])<|
  yI .s (e:=qS) 95 [vi (-1),vi s4.2,sv p13 x4 c13,vb (a4 x5).1,vs (a5 x5)] ([((-1),s4.2,x4,(a4 x5))]:List zD) (rC (vP vI (vP vI (vP (vL (gk 3)) (vP vB vS)))) rN)<|fun p14 c14=>
  uE .s 1 2 u (gk 0) u u<|fun x6 r_7 p15 c15=>zA 1 u<|zK<|jA 3 u<|zS u (jA 2 u<|qO<|xK<|vD<|jlr<|xK<|xK<|vD<|jlr<|xK<|vD<|xK<|vD<|jlr<|xK<|vD<|yD u (lT u (lT u lN)) (fun _ k=>k none 0) [] ⟨gn,d⟩)<|yA<|
  vM<|qK<|jB 2 u<|yH (gv (fun _ k=>k p15 c15 r_7) [0,1] (gq [0,4,6,7,8])))<|uA<|yR<|yY<|yZ<|vM<|qK<|jB 3 u<|yH (gv (fun _ k=>k p12 c12 r_6) [0,1] (gq [0,2,3,4])))<|uA<|yR<|yY<|yZ<|qK<|jB 2 u<|vM<|qK<|jB 3 u<|
  yH (gv (fun _ k=>k p9 c9 r_5) [0,1] (gq [0,1,2,3])))<|uA<|yR<|yY<|yZ<|qK<|jA 3 u<|qO<|uI 1 0 u u<|yD u (lT u (lT u lN)) (fun _ k=>k p8 c8) [] (gq [0])
abbrev z0S:=@Cn.mk 18 0 _ @zUH
attribute [instance] zYR z5V zYt zO1 zZF z0S
set_option maxHeartbeats 2000000 in
theorem zSO{y0:uG}{y1:Int}: zP qd prog 5 [pt b1 0,vi y1] [bx b1 63 (zIg y0 p1 c1)] (zIt y0 p1 c1 [Pt (wN 64 (zC .u8)) 3 0 vA]) (zL5 y0 y1) fun r K=>∀ p2 c2 p3 c3 p4 c4 p5 c5 p6 c6 p7 c7,K (.tuple #[.agg (zOf r.1 p2 c2 p3 c3 p4 c4 p5 c5 p6 c6 p7 c7).toArray,vb r.2.1]) [bx b1 63 [sv p1 y0.1 c1,vi r.2.2]] (zOr r.1 p2 c2 p3 c3 p4 c4 p5 c5 p6 c6 p7 c7 []) :=
 zN call5 func5 u fun X=>zH<|vH .s (.agg k0)<|fun b2=>zA 1 u<|zK<|zH<|zA 1 u<|qL .s [0] [] zRJ u u u (cq [0])<|
  fun r1 _ k p2 c2 p3 c3 p4 c4=>k<|vH .s (.agg k1)<|fun b3=>qU .s 2 u u u<|zK<|zH<|wQ 2 3 u u u<|wF zUH u (cq [0,1,2])<|fun r2 _ k p5 c5=>k<|zA 5 u<|zK<|
  wC (fun s1 K=>∀ p6 c6 p7 c7 p8 c8,K [0,4,6] [(2,bx b3 29 [sv p2 r1.1.1 c2,sv p7 s1.2.1 c7,sv p8 s1.2.2 c8])] [4,1,5] [(7,sv p6 s1.1 c6)] [Rl qS p6 c6 s1.1,Rl xH p7 c7 s1.2.1,Rl tK p8 c8 s1.2.2]) (
  zX<|
  wD (fun s2 K=>∀ p9 c9 p10 c10 p11 c11,K [0,1,4,6] [(2,bx b3 29 [sv p2 r1.1.1 c2,sv p10 s2.2.2.1 c10,sv p11 s2.2.2.2 c11])] [4,1,5] [(7,sv p9 s2.1 c9),(8,vi s2.2.1)] [Rl qS p9 c9 s2.1,Rl xH p10 c10 s2.2.2.1,Rl tK p11 c11 s2.2.2.2]) (gv (fun _ k=>k p5 c5 p3 c3 p4 c4) [0,1,2] (gq [0,2,3,4,1,5]))<|
  fun s2 _ k p9 c9 p10 c10 p11 c11=>k<|hP 4 3 0 (fun K=>K [0,1,4,6,7] [] [0,3,4,1,2,5] [(31,vb (if s2.2.1 != 0 then decide (0<(len s2.2.2.1)) else(decide (y1<(len s2.1)))&&(decide (0<(len s2.2.2.1)))))] [])<|
 au
)<|hD 7 [] [2] (.l [0,2] (.w 1 10 (.w 3 10 (.l [4,5] (.w 6 10 (.l [7,8,9] (.f 10 (.f 11 (.l [12] .e)))) (.f 6 (.l [7,8,9] (.f 11 (.l [12] .e)))))) (.f 3 (.l [4,5] (.f 6 (.l [7,8,9] (.f 11 (.l [12] .e))))))) (.f 1 (.f 3 (.l [4,5] (.f 6 (.l [7,8,9] (.f 11 (.l [12] .e)))))))))<|hD 8 [] [3] (.l [0,1,2,3] (.s 59 (.l [4,5,6,7,8,9,10,11] (.s 67 (.l [12,13,14,15,16,17,18] (.f 19 (.l [20] .e))) (.l [12,13,14,15,16,17,18] (.f 19 (.l [20] .e))))) (.l [4,5,6,7,8,9,10,11,12,13,14,15,16,17,18] (.f 19 (.l [20] .e)))))<|hI 1 7 0 (fun(s3:Int×Int×zCL) K=>∀ b4 p14 c14 p15 c15 p16 c16 p17 c17 p18 c18 p19 c19,K [4,7] [(0,.c [(1,vi s3.2.1)]),(2,.r []),(3,.r (bx b4 36 (zOf s3.2.2 p14 c14 p15 c15 p16 c16 p17 c17 p18 c18 p19 c19)))] [0,3,5] [(9,pt b4 0),(10,vi s3.1)] (zOr s3.2.2 p14 c14 p15 c15 p16 c16 p17 c17 p18 c18 p19 c19 []))<|hI 1 8 0 (fun(s4:Bool×(List wM)×(List qC)×(List wE)×(List zD)×(List qQ)×Int×(List zT)) K=>∀ p46 c46 p47 c47 p48 c48 p49 c49 p50 c50 p51 c51,K [4] [(1,.c [(0,sv p46 s4.2.1 c46),(1,sv p47 s4.2.2.1 c47),(2,sv p48 s4.2.2.2.1 c48),(3,sv p49 (a4 s4).1 c49),(4,sv p50 (a5 s4).1 c50),(5,vi (a6 s4).1),(6,sv p51 (a7 s4) c51)]),(3,.r [])] [7,8] [(5,vb s4.1)] [Rl tP p46 c46 s4.2.1,Rl xH p47 c47 s4.2.2.1,Rl tK p48 c48 s4.2.2.2.1,Rl qS p49 c49 (a4 s4).1,Rl tN p50 c50 (a5 s4).1,Rl qH p51 c51 (a7 s4)])<|
 au
abbrev zZU:=@Cn.mk 5 0 _ @zSO
attribute [instance] zZU
set_option maxHeartbeats 2000000 in
theorem zSH{y0:List Int}{y1:List Int}: zP False prog 3 [sv p1 y0 c1,sv p2 y1 c2] [] [Rl (zC .i64) p1 c1 y0,Rl (zC .i64) p2 c2 y1,Tb prog "strings.asciiSpace" .u8 Lib.asciiSpaceTab,Pt (wN 4 wB) 1 0 zAl,Wt 2,Pt (wN 64 (zC .u8)) 3 0 vA,Tb prog "internal/strconv.uint64pow10" .u64 Lib.pow10Tab] (zL3 y0 y1) fun r K=>K (vb r) [] [] :=
 zN call3 func3 u fun X=>jA 1 u<|zH<|zA 1 u<|wF zZe u (cq [0])<|fun r1 _ k b1 p3 c3=>k<|zA 1 u<|zK<|zH<|zA 1 u<|qL .s [0] [] zSO u u u (cq [0,6])<|fun r2 _ k p4 c4 p5 c5 p6 c6 p7 c7 p8 c8 p9 c9=>k<|zA 3 u<|
  vH .s (.agg k0)<|fun b2=>qU .s 1 u u u<|zA 1 u<|zK<|zQ<|jA 2 u<|zS u (
 au
)<|jC<|zH<|qB 5 u<|qB 0 u<|qG 1 u u u<|qE (.agg #[vi r2.1.2.2.2.1,.slice none 0 0])<|wF zUF u ⟨cn,ck 12,d⟩<|fun r3 _ k p10 c10 p11 c11=>k<|zA 3 u<|
  vH .s (.agg k6)<|fun b3=>qU .s 2 u u u<|zA 1 u<|zK<|zQ<|jA 2 u<|zS u (
 au
)<|jC<|zH<|
  jbo .s (e:=qH) 48 [] ([]:List zT) rN<|fun r_1 p12 c12=>qB 5 u<|qB 1 u<|qG 1 u u u<|uE .s 3 0 u (gk 8) u u<|fun x1 r_2 p13 c13=>zA 1 u<|zK<|
  jjoK (fun s1 K=>∀ p14 c14 p15 c15,K [6,8] [(0,[]),(2,bx b3 40 [vi s1.1,sv p14 s1.2.1 c14,sv p15 s1.2.2 c15]),(3,[])] [4,5,6,7,8,9,13,14,15,16,17] [] [Rl qH p14 c14 s1.2.1,Rl (zC .i64) p15 c15 s1.2.2]) (
  jA 1 u<|zX<|uI 3 0 u u<|
  wD (fun s2 K=>∀ p16 c16 p17 c17 p18 c18,K [1,6,8] [(0,[]),(2,bx b3 40 [vi s2.2.2.1,sv p17 s2.2.2.2.1 c17,sv p18 (a4 s2) c18])] [13,5,6,7,8,9,10,14,15,16,17,18] [(10,sv p16 s2.1 c16),(11,vi s2.2.1)] [Rl qH p16 c16 s2.1,Rl qH p17 c17 s2.2.2.2.1,Rl (zC .i64) p18 c18 (a4 s2)]) (gv (fun _ k=>k p13 c13 p10 c10 p11 c11) [900,1,2,903] (gq [0,3,4,13,5,6,7,8,9,10,14,15,16,17,18]))<|
  fun s2 _ k p16 c16 p17 c17 p18 c18=>k<|zQ<|jA 3 u<|zS u (jC<|zQ<|zX<|jA 1 u<|
  wC (fun s3 K=>K [1,6,8,10,11] [] [3,0,4,5,6,7,8,9,1,2,10,11,12,13,14] [(12,vi s3)] []) (
 au
)<|fun s3 _ k=>k<|
  wC (fun s4 K=>∀ b5 p19 c19 p20 c20 p21 c21,K [1,6,8,10,11,12] [(4,bx b5 40 (zLd s4.2.2 p20 c20 p21 c21))] [0,1,2,3,4,5,6,7,8,9,10,11,12,13,14] [(13,pt b5 0),(14,sv p19 s4.1 c19),(15,vi s4.2.1)] (Rl (zC .i64) p19 c19 s4.1::(zLj s4.2.2 p20 c20 p21 c21 []))) (hD 15 [] [2] (.l [0,1,2,3,4,5,6,7,8,9,10,11] (.w 12 17 (.l [13,14,15,16] (.f 17 (.f 18 (.l [19,20] .e)))) (.f 12 (.l [13,14,15,16] (.f 18 (.l [19,20] .e))))))<|
 au
)<|fun s4 _ k b5 p19 c19 p20 c20 p21 c21=>k<|zQ<|
  wC (fun s5 K=>K [1,6,8,10,11,12,13] [] [3,4,5,6,7,8,9,10,11,12,1,2,13,14,15,16,17] [(97,vb s5)] []) (hD 16 [] [4] (.l [0,1,2] (.s 77 (.l [3,4,5,6,7,8,9,10,11,12,13,14,15,16,17,18,19,20,21,22] .e) (.l [3,4,5,6,7,8] (.f 9 (.l [10,11,12] (.s 87 (.l [13,14,15,16,17,18,19,20,21,22] .e) (.l [13,14,15,16,17,18] (.f 19 (.f 20 (.l [21,22] .e))))))))))<|
 au
)<|fun s5 _ k=>k<|zS u (
 au
)<|jC<|zH<|wQ 4 3 u u u<|
  qU .s 2 u u u<|zK<|xY [] [] 10<|zW 7 [0,1,2] u<|jdF 3 u (gk 1) u u u u (.inl ⟨rfl,rfl⟩)<|fun x6 p29=>zW 3 [4,5,6] u<|jdw 7 u (gk 2) u u u (.inr ⟨_,rfl⟩) (.inl ⟨rfl,rfl⟩)<|fun x7 p30 c29=>
  qM 8<|jaf (.f u) 48 (gk 1) (gk 0) u u<|fun x8 p31 c30=>qN<|zW 0 [9] u<|qT<|
 au
)<|
 au
)<|hD 21 [] [1,2] (.l [0,1,2] (.s 115 (.l [3,4,5,6,9] (.f 7 (.f 8 (.f 10 (.l [11,12] (.s 125 (.f 13 (.l [14,15] .e)) (.l [13,14,15] .e))))))) (.l [3,4,5,6,7,8,9,10,11,12,13,14,15] .e)))<|hI 1 21 0 (fun(s6:Bool) K=>K [] [(1,.r []),(2,.r [])] [9,10,11,12,13] [(4,vb s6)] [])<|
 au
abbrev z81:=@Cn.mk 3 0 _ @zSH
end Go.Proofs.YtmpieaddiaihmaaGreatDoor
