/- A part. Conditions: none. -/
import Derived.Test.YtgjdojihimkgcaaGreatDoorWalk1
namespace Go.Proofs.YtgjdojihimkgcaaGreatDoor
open Go Go.GD Go.Proofs.Tryz
set_option autoImplicit false
set_option linter.unusedVariables false
set_option maxRecDepth 100000
set_option linter.defProp false
variable {qd:Prop}
variable {yl1:Nat}{p1 p2 p3 p4 p5 p6 p7 p8 p9:Option Addr}{c1 c2 c3 c4 c5 c6 c7 c8 c9:Nat}{b1 b2 b3 b4 b5 b6 b7 b8 b9 b10 b11:Nat}{r_1 r_2 r_3 r_4 r_5 r_6 r_7 r_8:zJ}
theorem zMc{y0:uJ}{y1:List Int}{y2:Int}: wR qd prog 370 [pt b1 0,sv p3 y1 c3,vi y2] [bx b1 280 (uF [vi y0.1,sv p1 y0.2.1 c1] 40 y0.2.2.1 [sv p2 y0.2.2.2.1 c2,vb (a4 y0)]),r_1] [Rl (zT (zB .i64)) p1 c1 y0.2.1,Al (zT (zB .i64)) 22 r_1 p2 c2 y0.2.2.2.1,Rl (zB .i64) p3 c3 y1] (zEO y0 y1 y2) λL r K=>∀ p4 c4,K (sv p4 r c4) L [Rl (zB .i64) p4 c4 r] :=
 zO call370 func370 u λX=>jA 1 u<|zG<|zA 1 u<|yU (zB .i64) 3 <|zK<|zQ<|jA 3 u<|qA<|
  wO (λs1 K=>∀ p4 c4 r_2,K [0,2,10,11] [(2,r_2)] [3,1,2] [(7,sv p4 s1.1 c4),(12,vi s1.2)] [Al (zB .i64) 3 r_2 p4 c4 s1.1]) (gv (λ_ k=>k none 0 []) [0,1,2] (gq [0,3,1,2]))<|
  λs1 _ k p4 c4 r_2=>k<|jA 1 u<|zQ<|zR u (jC<|zQ<|qA<|zG<|yD 1 u u u<|λx1 b2 o1=>yN false oI (gk 0) u<|zA 1 u<|zK<|zG<|zA 3 u<|zY 2 u<|jiL 40 u u<|λu1 h1=>
  jlL 0 40 y0.2.2.1 [vi y0.1,sv p1 y0.2.1 c1] [sv p2 y0.2.2.2.1 c2,vb (a4 y0)] h1 u u<|
 au
)<|
 au
abbrev zSf:=@Cn.mk 370 0 _ @zMc
attribute [instance] zXW zPg zSf
theorem zRR{y0:uJ}{y1:Int}: zP qd prog 334 [pt b1 0,vi y1] [bx b1 280 (uF [vi y0.1,sv p1 y0.2.1 c1] 40 y0.2.2.1 [sv p2 y0.2.2.2.1 c2,vb (a4 y0)]),r_1] [Rl (zT (zB .i64)) p1 c1 y0.2.1,Al (zT (zB .i64)) 22 r_1 p2 c2 y0.2.2.2.1] (zC1 y0 y1) λr K=>∀ p3 c3 r_2,K (.tuple #[]) [bx b1 280 (uF [vi y0.1,sv p1 y0.2.1 c1] 40 r.1 [sv p3 r.2 c3,vb (a4 y0)]),r_2] [Al (zT (zB .i64)) 22 r_2 p3 c3 r.2] :=
 zO call334 func334 u λX=>zG<|zA 2 u<|zY 1 u<|qI 0 u u u<|zA 1 u<|yD 0 u u u<|λx1 b2 o1=>yN false oL (gk 0) u<|λp3 c3=>zA 2 u<|zK<|
  wF (λs1 K=>K [0,4] [(0,bx b1 280 (uF [vi y0.1,sv p1 y0.2.1 c1] 40 s1.2 [sv p2 y0.2.2.2.1 c2,vb (a4 y0)]))] [0,2,3] [(5,vi s1.1)] []) (zG<|zA 3 u<|zY 2 u<|jiL 40 u u<|λu1 h1=>
  jlL 0 40 y0.2.2.1 [vi y0.1,sv p1 y0.2.1 c1] [sv p2 y0.2.2.2.1 c2,vb (a4 y0)] h1 u u<|zK<|qA<|jA 2 u<|zR u (jA 3 u<|qA<|
  wO (λs2 K=>K [0,4,5,26,27] [(0,bx b1 280 (uF [vi y0.1,sv p1 y0.2.1 c1] 40 s2.2 [sv p2 y0.2.2.2.1 c2,vb (a4 y0)]))] [0,2,3] [(28,vi s2.1)] []) (gv kk [0,1] (gq [0,2,3]))<|λs2 _ k=>k<|jA 1 u<|zQ<|zR u (jC<|
  zQ<|qA<|zG<|yD 0 u u u<|λx2 b3 o2=>yN false oI (gk 0) u<|zA 1 u<|zK<|tM [10] [0] 11<|zW 8 [0,1,2] u<|qU 3 2 u u<|jdiL 40 4 u u u<|λu2 h2=>
  jdlL 5 0 40 s2.2 [vi y0.1,sv p1 y0.2.1 c1] [sv p2 y0.2.2.2.1 c2,vb (a4 y0)] h2 u u u<|zW 3 [6,7] u<|qU 8 2 u u<|jdiL 40 9 u u u<|λu3 h3=>qO 10<|
  jsL (yI .i64 (yS s2.2 x2) 4) (.f u) 0 40 s2.2 [vi y0.1,sv p1 y0.2.1 c1] [sv p2 y0.2.2.2.1 c2,vb (a4 y0)] h3 u u u<|jdb [] [0]<|qY<|
 au
)<|
 au
)<|jA 2 u<|zR u (
 au
)<|jA 2 u<|zR u (
  wF (λs3 K=>K [0,4] [(0,bx b1 280 (uF [vi y0.1,sv p1 y0.2.1 c1] 40 s3 [sv p2 y0.2.2.2.1 c2,vb (a4 y0)]))] [0,2,3] [] []) (jA 3 u<|qA<|
  wO (λs4 K=>K [0,4,47,48] [(0,bx b1 280 (uF [vi y0.1,sv p1 y0.2.1 c1] 40 s4.2 [sv p2 y0.2.2.2.1 c2,vb (a4 y0)]))] [0,2,3] [(49,vi s4.1)] []) (gv kk [0,1] (gq [0,2,3]))<|λs4 _ k=>k<|jA 1 u<|zQ<|zR u (jC<|zQ<|
  qA<|zG<|yD 0 u u u<|λx3 b4 o3=>yN false oI (gk 0) u<|zA 1 u<|zK<|tM [10] [0] 11<|zW 8 [0,1,2] u<|qU 3 2 u u<|jdiL 40 4 u u u<|λu4 h4=>
  jdlL 5 0 40 s4.2 [vi y0.1,sv p1 y0.2.1 c1] [sv p2 y0.2.2.2.1 c2,vb (a4 y0)] h4 u u u<|zW 3 [6,7] u<|qU 8 2 u u<|jdiL 40 9 u u u<|λu5 h5=>qO 10<|
  jsL (yI .i64 (yS s4.2 x3) 12) (.f u) 0 40 s4.2 [vi y0.1,sv p1 y0.2.1 c1] [sv p2 y0.2.2.2.1 c2,vb (a4 y0)] h5 u u u<|jdb [] [0]<|qY<|
 au
)<|
 au
)<|
 au
)<|
 au
)<|λs1 _ k=>k<|zG<|zA 3 u<|
  qD .s [0,1] [] zMc u u u (cq [1,2,0])<|λr1 _ k p4 c4=>k<|zA 1 u<|zK<|jA 3 u<|zR u (tM [13] [0] 14<|zW 12 [0,1] u<|jdi 2 0 u u u u<|λx4 b5 o4=>
  tZ 3 false oI u (gk 0) u<|zW 9 [4] u<|qU 5 2 u u<|jdiL 40 6 u u u<|λu6 h6=>jdlL 7 0 40 s1.2 [vi y0.1,sv p1 y0.2.1 c1] [sv p2 y0.2.2.2.1 c2,vb (a4 y0)] h6 u u u<|zW 3 [8,9,10] u<|qU 11 2 u u<|
  jdiL 40 12 u u u<|λu7 h7=>qO 13<|jsL (yI .i64 (yS s1.2 x4) s1.1) (.f u) 0 40 s1.2 [vi y0.1,sv p1 y0.2.1 c1] [sv p2 y0.2.2.2.1 c2,vb (a4 y0)] h7 u u u<|jdb [] [0]<|qY<|
 au
)<|
 au
abbrev zRD:=@Cn.mk 334 0 _ @zRR
theorem zVI{y0:uJ}{y1:List Int}{y2:Int}: wR qd prog 370 [pt b1 0,sv p3 y1 c3,vi y2] [bx b1 280 (uF [vi y0.1,sv p1 y0.2.1 c1] 40 y0.2.2.1 [sv p2 y0.2.2.2.1 c2,vb (a4 y0)])] [Rl (zT (zB .i64)) p1 c1 y0.2.1,Rl (zT (zB .i64)) p2 c2 y0.2.2.2.1,Rl (zB .i64) p3 c3 y1] (zB3 y0 y1 y2) λL r K=>∀ p4 c4,K (sv p4 r c4) L [Rl (zB .i64) p4 c4 r] :=
 zO call370 func370 u λX=>jA 1 u<|zG<|zA 1 u<|yU (zB .i64) 3 <|zK<|zQ<|jA 3 u<|qA<|
  wO (λs1 K=>∀ p4 c4 r_1,K [0,2,10,11] [(1,r_1)] [3,1,2] [(7,sv p4 s1.1 c4),(12,vi s1.2)] [Al (zB .i64) 3 r_1 p4 c4 s1.1]) (gv (λ_ k=>k none 0 []) [0,1] (gq [0,3,1,2]))<|
  λs1 _ k p4 c4 r_1=>k<|jA 1 u<|zQ<|zR u (jC<|zQ<|qA<|zG<|yD 1 u u u<|λx1 b2 o1=>yN false oI (gk 0) u<|zA 1 u<|zK<|zG<|zA 3 u<|zY 2 u<|jiL 40 u u<|λu1 h1=>
  jlL 0 40 y0.2.2.1 [vi y0.1,sv p1 y0.2.1 c1] [sv p2 y0.2.2.2.1 c2,vb (a4 y0)] h1 u u<|
 au
)<|
 au
abbrev zVA:=@Cn.mk 370 1 _ @zVI
attribute [instance] zRD zVA
theorem zKy{y0:uJ}{y1:Int}: wR qd prog 333 [pt b1 0,vi y1] [bx b1 280 (uF [vi y0.1,sv p1 y0.2.1 c1] 40 y0.2.2.1 [sv p2 y0.2.2.2.1 c2,vb (a4 y0)])] [Rl (zT (zB .i64)) p1 c1 y0.2.1,Rl (zT (zB .i64)) p2 c2 y0.2.2.2.1] (zCG y0 y1) λL r K=>K (vi r) L [] :=
 zO call333 func333 u λX=>hI 1 2 1 (λ(s1:Int) K=>K [0,5] [] [0,2,3] [(6,vi s1)] [])<|hI 1 4 1 (λ(s2:Int) K=>K [0,5] [] [0,1,2] [(6,vi s2)] [])<|hI 1 6 0 (λ(s3:Bool) K=>K [6] [] [1,2] [(43,vb s3)] [])<|
 au
abbrev zQC:=@Cn.mk 333 0 _ @zKy
theorem zVm{y0:List Int}{y1:Int}: zP qd prog 194 [sv p1 y0 c1,vi y1] [] [Rl (zB .i64) p1 c1 y0] (zFz y0 y1) λr K=>K (vi r) [] [] :=
 zO call194 func194 u λX=>hI 0 2 1 (λ(s1:Int) K=>K [0,1,7] [] [0] [(8,vi s1)] [])<|
 au
abbrev zVd:=@Cn.mk 194 0 _ @zVm
attribute [instance] zQC zVd
theorem zFw{y0:List Int}{y1:Int}: zP qd prog 119 [sv p1 y0 c1,vi y1] [] [Rl (zB .i64) p1 c1 y0] (zAK y0 y1) λr K=>K (vb r) [] [] :=
 zO call119 func119 u λX=>
 au
abbrev zTU:=@Cn.mk 119 0 _ @zFw
attribute [instance] zTU
theorem zQL{y0:uJ}: zP qd prog 295 [pt b1 0] [bx b1 280 (uF [vi y0.1,sv p1 y0.2.1 c1] 40 y0.2.2.1 [sv p2 y0.2.2.2.1 c2,vb (a4 y0)]),r_1] [Rl (zT (zB .i64)) p1 c1 y0.2.1,Al (zT (zB .i64)) 22 r_1 p2 c2 y0.2.2.2.1] (zB9 y0) λr K=>∀ p3 c3 r_2,K (vb r.1) [bx b1 280 (uF [vi y0.1,sv p1 y0.2.1 c1] 40 r.2.1 [sv p3 r.2.2 c3,vb (a4 y0)]),r_2] [Al (zT (zB .i64)) 22 r_2 p3 c3 r.2.2] :=
 zO call295 func295 u λX=>jA 1 u<|qA<|
  wO (λs1 K=>∀ p3 c3 r_2,K [0] [(0,bx b1 280 (uF [vi y0.1,sv p1 y0.2.1 c1] 40 s1.1 [sv p3 s1.2 c3,vb (a4 y0)])),(1,r_2)] [0] [] [Al (zT (zB .i64)) 22 r_2 p3 c3 s1.2]) (gv (λ_ k=>k p2 c2 r_1) [0,1] (gq [1,0]))<|
  λs1 _ k p3 c3 r_2=>k<|qA<|zG<|zA 2 u<|zY 2 u<|jlW 0 40 s1.1 [vi y0.1,sv p1 y0.2.1 c1] [sv p3 s1.2 c3,vb (a4 y0)] u u<|jalA .s (uF [] 40 (List.replicate 40 (0:Int)) [])<|λb2=>
  jsW s1.1 .s 2 40 (List.replicate 40 (0:Int)) [] [] u u u<|zK<|
  jjoK (λs2 K=>∀ p4 c4 r_3,K [0,3] [(0,bx b1 280 (uF [vi y0.1,sv p1 y0.2.1 c1] 40 s2.1 [sv p4 s2.2 c4,vb (a4 y0)])),(1,r_3)] [1] [] [Al (zT (zB .i64)) 22 r_3 p4 c4 s2.2]) (zG<|zA 2 u<|zY 0 u<|qI 0 u u u<|
  zA 1 u<|zK<|qA<|
  wO (λs3 K=>∀ p5 c5 r_4,K [0,3,12] [(0,bx b1 280 (uF [vi y0.1,sv p1 y0.2.1 c1] 40 s3.2.1 [sv p5 s3.2.2 c5,vb (a4 y0)])),(1,r_4)] [1] [(13,vi s3.1)] [Al (zT (zB .i64)) 22 r_4 p5 c5 s3.2.2]) (gv (λ_ k=>k p3 c3 r_2) [0,1,2] (gq [0,1]))<|
  λs3 _ k p5 c5 r_4=>k<|jA 1 u<|zQ<|zR u (jC<|zQ<|qA<|jA 2 u<|zQ<|xA [13] [0] 14<|zW 11 [0,1,2] u<|qU 3 2 u u<|jdiL 40 4 u u u<|λu1 h1=>
  jdlL 5 0 40 s3.2.1 [vi y0.1,sv p1 y0.2.1 c1] [sv p5 s3.2.2 c5,vb (a4 y0)] h1 u u u<|zW 5 [6,7,10] u<|qU 11 2 u u<|qO 8<|qD (.f u) [0] [1] zKy rfl u u ⟨ck 1,cl 1 0,d⟩<|λr1 _ k=>k<|qM<|
  zW 2 [9] u<|jdiL 40 12 u u u<|λu2 h2=>qO 13<|jsL (yI .i64 (yS s3.2.1 s3.1) r1) (.f u) 0 40 s3.2.1 [vi y0.1,sv p1 y0.2.1 c1] [sv p5 s3.2.2 c5,vb (a4 y0)] h2 u u u<|jdb [] [0]<|qY<|qK<|zG<|zA 3 u<|
  zY 2 u<|jiL 40 u u<|λu3 h3=>jlL 0 40 (tD 40 s3.2.1 s3.1 (yI .i64 (yS s3.2.1 s3.1) r1)) [vi y0.1,sv p1 y0.2.1 c1] [sv p5 s3.2.2 c5,vb (a4 y0)] h3 u u<|
 au
)<|
 au
)<|λs2 _ k p4 c4 r_3=>k<|zQ<|xA [] [0] 9<|zW 7 [0,1] u<|qU 2 2 u u<|zW 4 [3,4] u<|
  qU 5 0 u u<|wV 6 0 u u u u<|jdasl (k:=40) 7 s2.1 u u u<|λx1 h4=>qO 8<|qD (.f u) [] [0] zFw u u u ⟨cA 0 40 s2.1 [vi y0.1,sv p1 y0.2.1 c1] [sv p4 s2.2 c4,vb (a4 y0)] h4 rfl,d⟩<|
  λr3 _ k=>k<|qM<|qY<|qK<|zR u (
 au
)<|jC<|xA [] [0,2] 6<|zW 4 [0,1] u<|qU 2 2 u u<|
  jdlW 3 0 40 s2.1 [vi y0.1,sv p1 y0.2.1 c1] [sv p4 s2.2 c4,vb (a4 y0)] u u u<|jdlW 4 2 40 s1.1 [] [] u u u<|
  jdv (v:=vb (aeq 40 s2.1 s1.1)) 5 u (λh=>r_eqArr h u u underlying278 underlying3 (by kernel_rfl) (by kernel_rfl) (by kernel_rfl) (by kernel_rfl))<|qY<|
 au
abbrev zQB:=@Cn.mk 295 0 _ @zQL
attribute [instance] zQB
theorem zQ2 (k:Nat):
    (∀ {y0:uJ} {b1:Nat} {p1:Option Addr} {c1:Nat} {p2:Option Addr} {c2:Nat} {r_1:zJ},zP qd prog 244 [pt b1 0] [bx b1 280 (uF [vi y0.1,sv p1 y0.2.1 c1] 40 y0.2.2.1 [sv p2 y0.2.2.2.1 c2,vb (a4 y0)]),r_1] [Rl (zT (zB .i64)) p1 c1 y0.2.1,Al (zT (zB .i64)) 22 r_1 p2 c2 y0.2.2.2.1] (zB7 k y0) λr K=>∀ p3 c3 r_2,K (.tuple #[]) [bx b1 280 (uF [vi y0.1,sv p1 y0.2.1 c1] 40 r.1 [sv p3 r.2.1 c3,vb r.2.2]),r_2] [Al (zT (zB .i64)) 22 r_2 p3 c3 r.2.1]):=by
  induction k with
  | zero=>exact con0 call244
  | succ k ih =>
    have ih_search_finder_find:=@ih
    have zNi:=@Cn.mk 244 0 _ (@ih_search_finder_find)
    exact @λy0 b1 p1 c1 p2 c2 r_1=>zO (m1:=zAp (zB7 k) y0) call244 func244 u λX=>zQ<|wF (λs1 K=>∀ p3 c3 r_2,K [0] [(0,bx b1 280 (uF [vi y0.1,sv p1 y0.2.1 c1] 40 s1.2.1 [sv p3 s1.2.2 c3,vb (a4 y0)])),(1,r_2)] [0] [(15,vb s1.1)] [Al (zT (zB .i64)) 22 r_2 p3 c3 s1.2.2]) (
 au
)<|λs1 _ k p3 c3 r_2=>k<|zR u (
 au
)<|jC<|zG<|zA 1 u<|
  qD .s [0,1] [] zLF u u u (cq [1,0])<|λr2 _ k p5 c5=>k<|zA 5 u<|zK<|zQ<|jA 2 u<|zR u (
 au
)<|jC<|zG<|zA 2 u<|zY 2 u<|jlW 0 40 s1.2.1 [vi y0.1,sv p1 y0.2.1 c1] [sv p3 s1.2.2 c3,vb (a4 y0)] u u<|
  jalA .s (uF [] 40 (List.replicate 40 (0:Int)) [])<|λb2=>jsW s1.2.1 .s 2 40 (List.replicate 40 (0:Int)) [] [] u u u<|zK<|zG<|yH .s (e:=zB .i64) 3 [vi 2,vi 4,vi 8] ([2,4,8]:List Int) (rC vI (rC vI (rC vI rN)))<|
  λp8 c8=>zA 2 u<|zK<|qA<|
  wO (λs2 K=>∀ p9 c9 r_5,K [0,3,4,46,47] [(0,bx b1 280 (uF [vi y0.1,sv p1 y0.2.1 c1] 40 s1.2.1 [sv p9 s2.2.1 c9,vb s2.2.2])),(1,r_5)] [0,3] [(48,vi s2.1)] [Al (zT (zB .i64)) 22 r_5 p9 c9 s2.2.1]) (gv (λ_ k=>k p3 c3 r_2) [0,1,2] (gq [2,0,3]))<|
  λs2 _ k p9 c9 r_5=>k<|jA 1 u<|zQ<|zR u (jC<|zQ<|qA<|zG<|yD 1 u u u<|λx2 b3 o1=>yN false oI (gk 0) u<|zA 1 u<|zK<|zG<|zA 1 u<|jiL 40 u u<|λu1 h2=>jlL 2 40 s1.2.1 [] [] h2 u u<|zA 3 u<|zK<|
  zR u (zG<|zA 4 u<|zY 2 u<|jiL 40 u u<|λu2 h3=>jsL x2 .s 0 40 s1.2.1 [vi y0.1,sv p1 y0.2.1 c1] [sv p9 s2.2.1 c9,vb s2.2.2] h3 u u u<|zK<|zG<|zA 1 u<|
  qD .s [0,1] [] ih_search_finder_find u u u (cq [3,1])<|λr3 _ k p10 c10 r_6=>k<|zK<|wQ<|zA 1 u<|jlW 2 40 s1.2.1 [] [] u u<|zA 1 u<|zY 2 u<|
  jsW s1.2.1 .s 0 40 r3.1 [vi y0.1,sv p1 y0.2.1 c1] [sv p10 r3.2.1 c10,vb r3.2.2] u u u<|
 au
)<|
 au
)<|
 au
theorem zNl{y0:uJ}: zP qd prog 244 [pt b1 0] [bx b1 280 (uF [vi y0.1,sv p1 y0.2.1 c1] 40 y0.2.2.1 [sv p2 y0.2.2.2.1 c2,vb (a4 y0)]),r_1] [Rl (zT (zB .i64)) p1 c1 y0.2.1,Al (zT (zB .i64)) 22 r_1 p2 c2 y0.2.2.2.1] (zEo y0) λr K=>∀ p3 c3 r_2,K (.tuple #[]) [bx b1 280 (uF [vi y0.1,sv p1 y0.2.1 c1] 40 r.1 [sv p3 r.2.1 c3,vb r.2.2]),r_2] [Al (zT (zB .i64)) 22 r_2 p3 c3 r.2.1]:=zUQ λk=>(zQ2 k)
abbrev zNi:=@Cn.mk 244 0 _ @zNl
theorem zM0{y0:qE}: zP qd prog 167 [.agg (vQ y0 p1 c1).toArray] [] [Rl wE p1 c1 y0.2,Pt (vC 64 (zB .u8)) 4 0 vV] (zBO y0) λr K=>∀ p2 c2,K (.tuple #[sv p2 r.1 c2,vi r.2]) [] [Rl (zT (zB .i64)) p2 c2 r.1] :=
 zO call167 func167 u λX=>zG<|wN .s u<|λb1=>zA 2 u<|zK<|zQ<|zG<|wU 0 2 u u u<|qW zNS u (cq [0])<|λr1 _ k=>k<|zA 1 u<|zK<|jA 2 u<|zR u (jA 3 u<|qC<|qS<|yM u (lT u (lT u lN)) (λ_ k=>k none 0) [] ⟨gn,d⟩)<|
  jC<|zG<|zY 0 u<|qI 0 u u u<|zV (.agg (uF [vi y0.1,.slice none 0 0] 40 (List.replicate 40 (0:Int)) [.slice none 0 0,vb false]).toArray)<|yU (zT (zB .i64)) 22<|yU (zT (zB .i64)) 22<|wN .s u<|λb2=>
  zA 1 u<|zK<|wF (λs1 K=>∀ p2 c2 r_1,K [5] [(0,[]),(1,r_1),(3,bx b2 280 (uF [vi y0.1,sv p2 s1.1 c2] 40 s1.2 [sv none ([]:List (List Int)) 0,vb false]))] [0,3] [] [Al (zT (zB .i64)) 22 r_1 p2 c2 s1.1]) (zG<|
  zY 0 u<|qI 0 u u u<|zA 1 u<|zK<|qA<|
  wO (λs2 K=>∀ p3 c3 r_2,K [1,5,17] [(1,r_2),(3,bx b2 280 (uF [vi y0.1,sv p3 s2.2.1 c3] 40 s2.2.2 [sv none ([]:List (List Int)) 0,vb false]))] [2,0,3] [(18,vi s2.1)] [Al (zT (zB .i64)) 22 r_2 p3 c3 s2.2.1]) (gv (λ_ k=>k none 0 []) [0,1,2,3] (gq [1,2,0,3]))<|
  λs2 _ k p3 c3 r_2=>k<|jA 1 u<|zQ<|zR u (jC<|zQ<|qA<|jA 2 u<|xA [12] [0,3] 13<|zW 10 [0,1,2] u<|qU 3 1 u u<|wV 4 3 u u u u<|xE 5 0 2 u u u u<|zW 6 [6] u<|qO 7<|
  qD (.f u) [] [] zGi u u u (cq [1,3])<|λr2 _ k p4 c4=>k<|qM<|qO 8<|yH (.f u) (e:=zT (zB .i64)) 22 [sv p4 r2 c4] ([r2]:List (List Int)) (rC (vL (gk 0)) rN)<|λp5 c5=>qM<|qO 9<|
  uB (.f u) 1 2 u (gk 0) u u<|λx1 r_3 p6 c6=>qM<|zW 2 [10] u<|qU 11 1 u u<|qO 12<|wJ (o:=1) (.f u) 3 u u u<|jdb [] [0,3]<|qY<|qK<|wQ<|zA 3 u<|zY 2 u<|jiL 40 u u<|λu1 h2=>
  jsL 14 .s 3 40 s2.2.2 [vi y0.1,sv p6 x1 c6] [sv none ([]:List (List Int)) 0,vb false] h2 u u u<|qN<|wT<|qK<|jB 2 u<|vG (gv (λ_ k=>k p6 c6 r_3) [0,1,2,3] (gq [0,4,5,6])))<|yX<|yR<|yQ<|yV<|
  qB (gv (λ_ k=>k p3 c3 r_2) [900,1,2,3] (gq [0,2,3])))<|λs1 _ k p2 c2 r_1=>k<|zG<|zA 1 u<|uQ 1 0 u u<|qD .s [3,2] [] zNl u u u (cq [0,2])<|λr3 _ k p7 c7 r_4=>k<|zK<|zQ<|zG<|zA 2 u<|
  zY 43 u<|qI 3 u u u<|zK<|zR u (jA 2 u<|qC<|qS<|yM u (lT u (lT u lN)) (λ_ k=>k none 0) [] ⟨gn,d⟩)<|jC<|zG<|zA 2 u<|zY 42 u<|qI 3 u u u<|zA 2 u<|zK<|qC<|uQ 2 0 u u<|
  yM u (lT u (lT u lN)) (λ_ k=>k p7 c7) [] (gq [0])
abbrev zWx:=@Cn.mk 167 0 _ @zM0
theorem zVe{y0:List Int}{y1:List Int}: zP qd prog 248 [sv p1 y0 c1,sv p2 y1 c2] [] [Rl (zB .i64) p1 c1 y0,Rl (zB .i64) p2 c2 y1] (zBe y0 y1) λr K=>∀ p3 c3,K (sv p3 r c3) [] [Rl (zB .i64) p3 c3 r] :=
 zO call248 func248 u λX=>hR 5 0 (zB .i64) 3<|hI 0 3 1 (λ(s1:(List Int)×Int) K=>∀ p3 c3 r_1,K [0,8,9] [(0,.r r_1)] [1,2] [(5,sv p3 s1.1 c3),(10,vi s1.2)] [Al (zB .i64) 3 r_1 p3 c3 s1.1])<|
 au
abbrev zWO:=@Cn.mk 248 0 _ @zVe
theorem zTt{y0:Int}{y1:List Int}: wR qd prog 298 [vi y0,pt b1 0] [bx b1 22 [sv p1 y1 c1]] [Rl (zB .i64) p1 c1 y1] (zEn y0 y1) λL r K=>K (vb r) L [] :=
 zO call298 func298 u λX=>
 au
abbrev zUD:=@Cn.mk 298 0 _ @zTt
attribute [instance] zNi zWx zWO zUD
theorem zIP{y0:List Int}{y1:List Int}: wR qd prog 221 [sv p1 y0 c1,.func (.func 298) #[] #[pt b1 0]] [bx b1 22 [sv p2 y1 c2]] [Rl (zB .i64) p1 c1 y0,Rl (zB .i64) p2 c2 y1] (zAZ y0 y1) λL r K=>K (vi r) L [] :=
 zO call221 func221 u λX=>hI 0 2 1 (λ(s1:Int) K=>K [0,1,7] [] [0,1] [(8,vi s1)] [])<|
 au
abbrev zHs:=@Cn.mk 221 0 _ @zIP
attribute [instance] zHs
theorem zGn{y0:List Int}{y1:List Int}: wR qd prog 145 [sv p1 y0 c1,.func (.func 298) #[] #[pt b1 0]] [bx b1 22 [sv p2 y1 c2]] [Rl (zB .i64) p1 c1 y0,Rl (zB .i64) p2 c2 y1] (zAF y0 y1) λL r K=>K (vb r) L [] :=
 zO call145 func145 u λX=>
 au
abbrev zGv:=@Cn.mk 145 0 _ @zGn
attribute [instance] zGv
theorem zWK{y0:List Int}{y1:List Int}: zP qd prog 247 [sv p1 y0 c1,sv p2 y1 c2] [] [Rl (zB .i64) p1 c1 y0,Rl (zB .i64) p2 c2 y1] (zD0 y0 y1) λr K=>K (vb r) [] [] :=
 zO call247 func247 u λX=>hI 1 1 0 (λ(s1:Bool) K=>K [] [(0,.r [])] [] [(4,vb s1)] [])<|
 au
abbrev zVU:=@Cn.mk 247 0 _ @zWK
attribute [instance] zVU
theorem zRP{y0:List Int}{y1:List Int}: zP qd prog 246 [sv p1 y0 c1,sv p2 y1 c2] [] [Rl (zB .i64) p1 c1 y0,Rl (zB .i64) p2 c2 y1] (zCY y0 y1) λr K=>K (vb r) [] [] :=
 zO call246 func246 u λX=>
 au
abbrev zRS:=@Cn.mk 246 0 _ @zRP
attribute [instance] zRS
theorem zIg{y0:List Int}{y2:List Int}: wR qd prog 297 [sv p1 y0 c1,pt b1 0,pt b2 0] [bx b1 282 [.func (.func 246) #[] #[]],bx b2 22 [sv p2 y2 c2]] [Rl (zB .i64) p1 c1 y0,Rl (zB .i64) p2 c2 y2] (zA3 y0 y2) λL r K=>K (vb r) L [] :=
 zO call297 func297 u λX=>
 au
abbrev zIa:=@Cn.mk 297 0 _ @zIg
attribute [instance] zIa
theorem zIx{y0:List (List Int)}{y2:List Int}: wR qd prog 272 [sv p1 y0 c1,.func (.func 297) #[] #[pt b1 0,pt b2 0]] [bx b1 282 [.func (.func 246) #[] #[]],bx b2 22 [sv p2 y2 c2]] [Rl (zT (zB .i64)) p1 c1 y0,Rl (zB .i64) p2 c2 y2] (zA8 y0 y2) λL r K=>K (vi r) L [] :=
 zO call272 func272 u λX=>hI 0 2 1 (λ(s1:Int) K=>K [0,1,7] [] [0,1] [(8,vi s1)] [])<|
 au
abbrev zJB:=@Cn.mk 272 1 _ @zIx
attribute [instance] zJB
theorem zHY{y0:List (List Int)}{y2:List Int}: wR qd prog 202 [sv p1 y0 c1,.func (.func 297) #[] #[pt b1 0,pt b2 0]] [bx b1 282 [.func (.func 246) #[] #[]],bx b2 22 [sv p2 y2 c2]] [Rl (zT (zB .i64)) p1 c1 y0,Rl (zB .i64) p2 c2 y2] (zAI y0 y2) λL r K=>K (vb r) L [] :=
 zO call202 func202 u λX=>
 au
abbrev zH7:=@Cn.mk 202 1 _ @zHY
attribute [instance] zH7
theorem zJI{y0:qE}: zP qd prog 245 [.agg (vQ y0 p1 c1).toArray,.func (.func 246) #[] #[]] [] [Rl wE p1 c1 y0.2,Pt (vC 64 (zB .u8)) 4 0 vV] (zAa y0) λr K=>∀ p2 c2,K (.tuple #[sv p2 r.1 c2,vi r.2]) [] [Rl (zT (zB .i64)) p2 c2 r.1] :=
 zO call245 func245 u λX=>hR 8 2 (zT (zB .i64)) 22<|hI 0 6 1 (λ(s1:(List (List Int))×Int) K=>∀ p3 c3 r_1,K [3,6,19,20] [(0,.r []),(2,.r r_1)] [1,3] [(8,sv p3 s1.1 c3),(21,vi s1.2)] [Al (zT (zB .i64)) 22 r_1 p3 c3 s1.1])<|
 au
abbrev zJS:=@Cn.mk 245 0 _ @zJI
attribute [instance] zJS
theorem zSZ{y0:qE}: zP qd prog 168 [.agg (vQ y0 p1 c1).toArray] [] [Rl wE p1 c1 y0.2,Pt (vC 64 (zB .u8)) 4 0 vV] (zBh y0) λr K=>∀ p2 c2,K (.tuple #[sv p2 r.1 c2,vi r.2]) [] [Rl (zT (zB .i64)) p2 c2 r.1] :=
 zO call168 func168 u λX=>
 au
abbrev zSX:=@Cn.mk 168 0 _ @zSZ
theorem zU5{y0:qE}{y1:List Int}: zP qd prog 301 [.agg (vQ y0 p1 c1).toArray,sv p2 y1 c2] [] [Rl wE p1 c1 y0.2,Rl (zB .i64) p2 c2 y1] (zFH y0 y1) λr K=>∀ p3 c3,K (sv p3 r c3) [] [Rl (zB .i64) p3 c3 r] :=
 zO call301 func301 u λX=>zG<|wN .s u<|λb1=>zA 1 u<|zK<|zG<|yH .s (e:=zB .i64) 3 [vi 3] ([3]:List Int) (rC vI rN)<|λp3 c3=>zY 0 u<|qI 0 u u u<|qW zFD u (cq [0])<|λr1 _ k p4 c4 r_1=>k<|zA 1 u<|zK<|
  wF (λs1 K=>∀ r_2,K [1,2] [(1,r_2)] [3,2] [(5,.slice p4 (List.length r1) c4)] [Ar (zB .i64) 3 r_2 p4 c4 (List.length r1) s1]) (hI 0 3 1 (λ(s2:(List Int)×Int) K=>∀ r_3,K [1,2,15,16] [(1,.r r_3)] [3,2] [(5,.slice p4 (List.length r1) c4),(17,vi s2.2)] [Ar (zB .i64) 3 r_3 p4 c4 (List.length r1) s2.1])<|
 au
)<|λs1 _ k r_2=>k<|zQ<|jA 3 u<|qA<|
  wO (λs3 K=>∀ r_5,K [2,5,30,31] [(1,r_5)] [1,2] [(32,vi s3.2)] [Ar (zB .i64) 3 r_5 p4 c4 (List.length r1) s3.1]) (gv (λ_ k=>k r_2) [0,1] (gq [0,1,2]))<|
  λs3 _ k r_5=>k<|jA 1 u<|zQ<|zR u (jC<|zQ<|qA<|zG<|yD 1 u u u<|λx3 b5 o3=>hP 4 11 0 (λK=>K [2,5,9,30,31,32] [] [1,2,3] [(43,vb ((decide (0≤x3))&&(decide (x3<y0.1))))] [])<|
 au
)<|yX<|yR<|yQ<|yV<|qK<|jA 2 u<|qC<|uQ 1 0 u u<|jre 0 4 u u<|
 au
abbrev zUf:=@Cn.mk 301 0 _ @zU5
attribute [instance] zSX zUf
theorem zKR{y0:qE}: zP qd prog 251 [.agg (vQ y0 p1 c1).toArray,.func (.func 168) #[] #[]] [] [Rl wE p1 c1 y0.2,Pt (vC 64 (zB .u8)) 4 0 vV] (zBf y0) λr K=>∀ p2 c2,K (.tuple #[sv p2 r.1 c2,vi r.2]) [] [Rl (zB .i64) p2 c2 r.1] :=
 zO call251 func251 u λX=>hD 4 [] [0] (.l [0,1] (.f 2 (.f 3 (.l [4,5,6,7,8] .e))))<|
 au
abbrev zKU:=@Cn.mk 251 0 _ @zKR
attribute [instance] zKU
theorem z4c{y0:qE}: zP qd prog 171 [.agg (vQ y0 p1 c1).toArray] [] [Rl wE p1 c1 y0.2,Pt (vC 64 (zB .u8)) 4 0 vV] (zPS y0) λr K=>∀ p2 c2,K (.tuple #[sv p2 r.1 c2,vi r.2]) [] [Rl (zB .i64) p2 c2 r.1] :=
 zO call171 func171 u λX=>
 au
abbrev z4D:=@Cn.mk 171 0 _ @z4c
attribute [instance] z4D
theorem zNd{y0:qE}: wR qd prog 242 [.agg (vQ y0 p1 c1).toArray,pt b1 0] [bx b1 222 [.func (.func 171) #[] #[]]] [Rl wE p1 c1 y0.2,Pt (vC 64 (zB .u8)) 4 0 vV] (zCz y0) λL r K=>∀ p2 c2,K (.tuple #[sv p2 r.1 c2,vi r.2]) L [Rl (zT (zB .i64)) p2 c2 r.1] :=
 zO call242 func242 u λX=>
 au
abbrev zND:=@Cn.mk 242 1 _ @zNd
attribute [instance] zND
theorem zF9{y0:qE}: wR qd prog 243 [.agg (vQ y0 p1 c1).toArray,pt b1 0] [bx b1 181 [.func (.func 242) #[] #[pt b2 0]],bx b2 222 [.func (.func 171) #[] #[]]] [Rl wE p1 c1 y0.2,Pt (vC 64 (zB .u8)) 4 0 vV] (zBL y0) λL r K=>∀ p2 c2,K (.tuple #[sv p2 r.1 c2,vi r.2]) L [Rl (zT (zB .i64)) p2 c2 r.1] :=
 zO call243 func243 u λX=>hR 7 3 (zT (zB .i64)) 22<|hI 0 6 1 (λ(s1:(List (List Int))×Int) K=>∀ p3 c3 r_1,K [19,20] [(2,.r []),(3,.r r_1)] [1,3] [(7,sv p3 s1.1 c3),(21,vi s1.2)] [Al (zT (zB .i64)) 22 r_1 p3 c3 s1.1])<|
 au
abbrev zLI:=@Cn.mk 243 1 _ @zF9
theorem zQQ{y0:List Int}{y1:List Int}: zP qd prog 250 [sv p1 y0 c1,sv p2 y1 c2] [] [Rl (zB .i64) p1 c1 y0,Rl (zB .i64) p2 c2 y1] (zE2 y0 y1) λr K=>K (vb r) [] [] :=
 zO call250 func250 u λX=>
 au
abbrev zPt:=@Cn.mk 250 0 _ @zQQ
attribute [instance] zLI zPt
theorem zIJ{y0:List Int}{y2:List Int}: wR qd prog 297 [sv p1 y0 c1,pt b1 0,pt b2 0] [bx b1 282 [.func (.func 250) #[] #[]],bx b2 22 [sv p2 y2 c2]] [Rl (zB .i64) p1 c1 y0,Rl (zB .i64) p2 c2 y2] (zBF y0 y2) λL r K=>K (vb r) L [] :=
 zO call297 func297 u λX=>
 au
abbrev zIB:=@Cn.mk 297 1 _ @zIJ
attribute [instance] zIB
theorem zDd{y0:List (List Int)}{y2:List Int}: wR qd prog 272 [sv p1 y0 c1,.func (.func 297) #[] #[pt b1 0,pt b2 0]] [bx b1 282 [.func (.func 250) #[] #[]],bx b2 22 [sv p2 y2 c2]] [Rl (zT (zB .i64)) p1 c1 y0,Rl (zB .i64) p2 c2 y2] (zBC y0 y2) λL r K=>K (vi r) L [] :=
 zO call272 func272 u λX=>hI 0 2 1 (λ(s1:Int) K=>K [0,1,7] [] [0,1] [(8,vi s1)] [])<|
 au
abbrev zIR:=@Cn.mk 272 2 _ @zDd
theorem zDH{y0:List (List Int)}{y2:List Int}: wR qd prog 202 [sv p1 y0 c1,.func (.func 297) #[] #[pt b1 0,pt b2 0]] [bx b1 282 [.func (.func 250) #[] #[]],bx b2 22 [sv p2 y2 c2]] [Rl (zT (zB .i64)) p1 c1 y0,Rl (zB .i64) p2 c2 y2] (zAg y0 y2) λL r K=>K (vb r) L [] :=
 zO call202 func202 u λX=>jA 1 u<|zG<|zA 2 u<|qD .s [0,1] [] zDd u u u (cq [0,1])<|λr1 _ k=>k<|zA 2 u<|zK<|qC<|qR u u kk [0,1] d
abbrev zGp:=@Cn.mk 202 2 _ @zDH
theorem zEI{y0:qE}: zP qd prog 245 [.agg (vQ y0 p1 c1).toArray,.func (.func 250) #[] #[]] [] [Rl wE p1 c1 y0.2,Pt (vC 64 (zB .u8)) 4 0 vV] (zBM y0) λr K=>∀ p2 c2,K (.tuple #[sv p2 r.1 c2,vi r.2]) [] [Rl (zT (zB .i64)) p2 c2 r.1] :=
 zO call245 func245 u λX=>zG<|wN .s u<|λb1=>wN .s u<|λb2=>zA 2 u<|zK<|zG<|wU 0 2 u u u<|qW zM0 u (cq [0,1])<|λr1 _ k p2 c2=>k<|zA 5 u<|zK<|zQ<|jA 2 u<|zR u (jA 3 u<|qC<|qS<|
  yM u (lT u (lT u lN)) (λ_ k=>k none 0) [] ⟨gn,d⟩)<|jC<|zG<|zA 1 u<|yU (zT (zB .i64)) 22 <|zK<|zQ<|jA 3 u<|qA<|
  wO (λs1 K=>∀ p3 c3 r_1,K [3,6,19,20] [(0,[]),(2,r_1)] [1,3] [(8,sv p3 s1.1 c3),(21,vi s1.2)] [Al (zT (zB .i64)) 22 r_1 p3 c3 s1.1]) (gv (λ_ k=>k none 0 []) [900,1,2] (gq [0,1,3]))<|
  λs1 _ k p3 c3 r_1=>k<|jA 1 u<|zQ<|zR u (jC<|zQ<|qA<|zG<|yD 1 u u u<|λx1 b3 o1=>yN false oL (gk 0) u<|λp4 c4=>yB .s (.slice none 0 0)<|λb4=>wJ .s 3 u u u<|zK<|zG<|zA 2 u<|
  qD .s [1,3] [] zDH u u u (cq [3,0])<|λr2 _ k=>k<|zA 1 u<|zK<|zR u (wQ<|zA 1 u<|qI 3 u u u<|
  yH .s (e:=zT (zB .i64)) 22 [sv p4 x1 c4] ([x1]:List (List Int)) (rC (vL (gk 0)) rN)<|λp5 c5=>uB .s 2 3 u (gk 0) u u<|λx2 r_2 p6 c6=>zA 1 u<|qN<|wT<|qK<|jB 2 u<|
  vG (gv (λ_ k=>k p6 c6 r_2) [900,1,2] (gq [0,5,6])))<|vF<|wT<|qK<|jB 2 u<|vG (gv (λ_ k=>k p3 c3 r_1) [900,1,2] (gq [2,3,4])))<|yX<|yR<|yQ<|yV<|qK<|jA 3 u<|qC<|uQ 2 0 u u<|
  yM u (lT u (lT u lN)) (λ_ k=>k p3 c3) [] (gq [0])
abbrev zJA:=@Cn.mk 245 1 _ @zEI
theorem zRn{y0:qE}: zP qd prog 170 [.agg (vQ y0 p1 c1).toArray] [] [Rl wE p1 c1 y0.2,Pt (vC 64 (zB .u8)) 4 0 vV] (zDs y0) λr K=>∀ p2 c2,K (.tuple #[sv p2 r.1 c2,vi r.2]) [] [Rl (zT (zB .i64)) p2 c2 r.1] :=
 zO call170 func170 u λX=>zG<|wN .s u<|λb1=>zA 2 u<|zK<|zG<|wU 0 2 u u u<|qW zEI u (cq [0,1])<|λr1 _ k p2 c2=>k<|zA 4 u<|zK<|qC<|yM u (lT u (lT u lN)) (λ_ k=>k p2 c2) [] (gq [0])
abbrev zSA:=@Cn.mk 170 0 _ @zRn
attribute [instance] zIR zGp zJA zSA
theorem zKQ{y0:qE}: zP qd prog 251 [.agg (vQ y0 p1 c1).toArray,.func (.func 170) #[] #[]] [] [Rl wE p1 c1 y0.2,Pt (vC 64 (zB .u8)) 4 0 vV] (zB8 y0) λr K=>∀ p2 c2,K (.tuple #[sv p2 r.1 c2,vi r.2]) [] [Rl (zB .i64) p2 c2 r.1] :=
 zO call251 func251 u λX=>hD 4 [] [0] (.l [0,1] (.f 2 (.f 3 (.l [4,5,6,7,8] .e))))<|
 au
abbrev zKF:=@Cn.mk 251 1 _ @zKQ
attribute [instance] zKF
theorem z5J{y0:qE}: zP qd prog 172 [.agg (vQ y0 p1 c1).toArray] [] [Rl wE p1 c1 y0.2,Pt (vC 64 (zB .u8)) 4 0 vV] (zPQ y0) λr K=>∀ p2 c2,K (.tuple #[sv p2 r.1 c2,vi r.2]) [] [Rl (zB .i64) p2 c2 r.1] :=
 zO call172 func172 u λX=>
 au
abbrev z4w:=@Cn.mk 172 0 _ @z5J
attribute [instance] z4w
theorem zIH{y0:qE}: wR qd prog 242 [.agg (vQ y0 p1 c1).toArray,pt b1 0] [bx b1 222 [.func (.func 172) #[] #[]]] [Rl wE p1 c1 y0.2,Pt (vC 64 (zB .u8)) 4 0 vV] (zCw y0) λL r K=>∀ p2 c2,K (.tuple #[sv p2 r.1 c2,vi r.2]) L [Rl (zT (zB .i64)) p2 c2 r.1] :=
 zO call242 func242 u λX=>
 au
abbrev zNT:=@Cn.mk 242 2 _ @zIH
theorem zF8{y0:qE}: wR qd prog 243 [.agg (vQ y0 p1 c1).toArray,pt b1 0] [bx b1 181 [.func (.func 242) #[] #[pt b2 0]],bx b2 222 [.func (.func 172) #[] #[]]] [Rl wE p1 c1 y0.2,Pt (vC 64 (zB .u8)) 4 0 vV] (zBK y0) λL r K=>∀ p2 c2,K (.tuple #[sv p2 r.1 c2,vi r.2]) L [Rl (zT (zB .i64)) p2 c2 r.1] :=
 zO call243 func243 u λX=>zG<|wN .s u<|λb3=>zA 2 u<|zK<|zG<|qI 0 u u u<|wU 2 2 u u u<|qD .s [1] [] zIH u u u (cq [0,1])<|λr1 _ k p2 c2=>k<|zA 5 u<|zK<|zQ<|jA 2 u<|zR u (jA 3 u<|qC<|qS<|
  yM u (lT u (lT u lN)) (λ_ k=>k none 0) [0,1] ⟨gn,d⟩)<|jC<|zG<|zA 1 u<|yU (zT (zB .i64)) 22 <|zK<|zQ<|jA 3 u<|qA<|
  wO (λs1 K=>∀ p3 c3 r_1,K [19,20] [(2,[]),(3,r_1)] [1,3] [(7,sv p3 s1.1 c3),(21,vi s1.2)] [Al (zT (zB .i64)) 22 r_1 p3 c3 s1.1]) (gv (λ_ k=>k none 0 []) [0,1,902,3] (gq [0,1,3]))<|
  λs1 _ k p3 c3 r_1=>k<|jA 1 u<|zQ<|zR u (jC<|zQ<|qA<|zG<|yD 1 u u u<|λx1 b4 o1=>yN false oL (gk 0) u<|λp4 c4=>zA 1 u<|zK<|wQ<|zA 2 u<|qW zK6 u (cq [0])<|λr2 _ k p5 c5=>k<|
  yH .s (e:=zT (zB .i64)) 22 [sv p5 r2 c5] ([r2]:List (List Int)) (rC (vL (gk 0)) rN)<|λp6 c6=>uB .s 3 4 u (gk 0) u u<|λx2 r_2 p7 c7=>zA 1 u<|qN<|wT<|qK<|jB 2 u<|
  vG (gv (λ_ k=>k p7 c7 r_2) [0,1,902,3] (gq [0,6,7])))<|yX<|yR<|yQ<|yV<|qK<|jA 3 u<|qC<|uQ 3 0 u u<|yM u (lT u (lT u lN)) (λ_ k=>k p3 c3) [0,1] (gq [0])
abbrev zLK:=@Cn.mk 243 2 _ @zF8
attribute [instance] zNT zLK
theorem zEz{y0:qE}: wR qd prog 243 [.agg (vQ y0 p1 c1).toArray,pt b1 0] [bx b1 181 [.func (.func 168) #[] #[]]] [Rl wE p1 c1 y0.2,Pt (vC 64 (zB .u8)) 4 0 vV] (zAN y0) λL r K=>∀ p2 c2,K (.tuple #[sv p2 r.1 c2,vi r.2]) L [Rl (zT (zB .i64)) p2 c2 r.1] :=
 zO call243 func243 u λX=>hR 7 2 (zT (zB .i64)) 22<|hI 0 6 1 (λ(s1:(List (List Int))×Int) K=>∀ p3 c3 r_1,K [19,20] [(1,.r []),(2,.r r_1)] [1,3] [(7,sv p3 s1.1 c3),(21,vi s1.2)] [Al (zT (zB .i64)) 22 r_1 p3 c3 s1.1])<|
 au
abbrev zKS:=@Cn.mk 243 3 _ @zEz
attribute [instance] zKS
theorem zEq{y0:qE}: wR qd prog 243 [.agg (vQ y0 p1 c1).toArray,pt b1 0] [bx b1 181 [.func (.func 170) #[] #[]]] [Rl wE p1 c1 y0.2,Pt (vC 64 (zB .u8)) 4 0 vV] (zAr y0) λL r K=>∀ p2 c2,K (.tuple #[sv p2 r.1 c2,vi r.2]) L [Rl (zT (zB .i64)) p2 c2 r.1] :=
 zO call243 func243 u λX=>hR 7 2 (zT (zB .i64)) 22<|hI 0 6 1 (λ(s1:(List (List Int))×Int) K=>∀ p3 c3 r_1,K [19,20] [(1,.r []),(2,.r r_1)] [1,3] [(7,sv p3 s1.1 c3),(21,vi s1.2)] [Al (zT (zB .i64)) 22 r_1 p3 c3 s1.1])<|
 au
abbrev zKM:=@Cn.mk 243 4 _ @zEq
theorem zTc{y0:List Int}{y1:List Int}: zP qd prog 249 [sv p1 y0 c1,sv p2 y1 c2] [] [Rl (zB .i64) p1 c1 y0,Rl (zB .i64) p2 c2 y1] (zG6 y0 y1) λr K=>K (vb r) [] [] :=
 zO call249 func249 u λX=>
 au
abbrev zTs:=@Cn.mk 249 0 _ @zTc
attribute [instance] zKM zTs
theorem zJc{y0:List Int}{y2:List Int}: wR qd prog 297 [sv p1 y0 c1,pt b1 0,pt b2 0] [bx b1 282 [.func (.func 249) #[] #[]],bx b2 22 [sv p2 y2 c2]] [Rl (zB .i64) p1 c1 y0,Rl (zB .i64) p2 c2 y2] (zB4 y0 y2) λL r K=>K (vb r) L [] :=
 zO call297 func297 u λX=>
 au
abbrev zJi:=@Cn.mk 297 2 _ @zJc
attribute [instance] zJi
theorem zD9{y0:List (List Int)}{y2:List Int}: wR qd prog 272 [sv p1 y0 c1,.func (.func 297) #[] #[pt b1 0,pt b2 0]] [bx b1 282 [.func (.func 249) #[] #[]],bx b2 22 [sv p2 y2 c2]] [Rl (zT (zB .i64)) p1 c1 y0,Rl (zB .i64) p2 c2 y2] (zBG y0 y2) λL r K=>K (vi r) L [] :=
 zO call272 func272 u λX=>hI 0 2 1 (λ(s1:Int) K=>K [0,1,7] [] [0,1] [(8,vi s1)] [])<|
 au
abbrev zIW:=@Cn.mk 272 3 _ @zD9
theorem zDM{y0:List (List Int)}{y2:List Int}: wR qd prog 202 [sv p1 y0 c1,.func (.func 297) #[] #[pt b1 0,pt b2 0]] [bx b1 282 [.func (.func 249) #[] #[]],bx b2 22 [sv p2 y2 c2]] [Rl (zT (zB .i64)) p1 c1 y0,Rl (zB .i64) p2 c2 y2] (zAe y0 y2) λL r K=>K (vb r) L [] :=
 zO call202 func202 u λX=>jA 1 u<|zG<|zA 2 u<|qD .s [0,1] [] zD9 u u u (cq [0,1])<|λr1 _ k=>k<|zA 2 u<|zK<|qC<|qR u u kk [0,1] d
abbrev zGg:=@Cn.mk 202 3 _ @zDM
theorem zFA{y0:qE}: zP qd prog 245 [.agg (vQ y0 p1 c1).toArray,.func (.func 249) #[] #[]] [] [Rl wE p1 c1 y0.2,Pt (vC 64 (zB .u8)) 4 0 vV] (zBg y0) λr K=>∀ p2 c2,K (.tuple #[sv p2 r.1 c2,vi r.2]) [] [Rl (zT (zB .i64)) p2 c2 r.1] :=
 zO call245 func245 u λX=>zG<|wN .s u<|λb1=>wN .s u<|λb2=>zA 2 u<|zK<|zG<|wU 0 2 u u u<|qW zM0 u (cq [0,1])<|λr1 _ k p2 c2=>k<|zA 5 u<|zK<|zQ<|jA 2 u<|zR u (jA 3 u<|qC<|qS<|
  yM u (lT u (lT u lN)) (λ_ k=>k none 0) [] ⟨gn,d⟩)<|jC<|zG<|zA 1 u<|yU (zT (zB .i64)) 22 <|zK<|zQ<|jA 3 u<|qA<|
  wO (λs1 K=>∀ p3 c3 r_1,K [3,6,19,20] [(0,[]),(2,r_1)] [1,3] [(8,sv p3 s1.1 c3),(21,vi s1.2)] [Al (zT (zB .i64)) 22 r_1 p3 c3 s1.1]) (gv (λ_ k=>k none 0 []) [900,1,2] (gq [0,1,3]))<|
  λs1 _ k p3 c3 r_1=>k<|jA 1 u<|zQ<|zR u (jC<|zQ<|qA<|zG<|yD 1 u u u<|λx1 b3 o1=>yN false oL (gk 0) u<|λp4 c4=>yB .s (.slice none 0 0)<|λb4=>wJ .s 3 u u u<|zK<|zG<|zA 2 u<|
  qD .s [1,3] [] zDM u u u (cq [3,0])<|λr2 _ k=>k<|zA 1 u<|zK<|zR u (wQ<|zA 1 u<|qI 3 u u u<|
  yH .s (e:=zT (zB .i64)) 22 [sv p4 x1 c4] ([x1]:List (List Int)) (rC (vL (gk 0)) rN)<|λp5 c5=>uB .s 2 3 u (gk 0) u u<|λx2 r_2 p6 c6=>zA 1 u<|qN<|wT<|qK<|jB 2 u<|
  vG (gv (λ_ k=>k p6 c6 r_2) [900,1,2] (gq [0,5,6])))<|vF<|wT<|qK<|jB 2 u<|vG (gv (λ_ k=>k p3 c3 r_1) [900,1,2] (gq [2,3,4])))<|yX<|yR<|yQ<|yV<|qK<|jA 3 u<|qC<|uQ 2 0 u u<|
  yM u (lT u (lT u lN)) (λ_ k=>k p3 c3) [] (gq [0])
abbrev zKT:=@Cn.mk 245 2 _ @zFA
theorem zVw{y0:qE}: zP qd prog 169 [.agg (vQ y0 p1 c1).toArray] [] [Rl wE p1 c1 y0.2,Pt (vC 64 (zB .u8)) 4 0 vV] (zIv y0) λr K=>∀ p2 c2,K (.tuple #[sv p2 r.1 c2,vi r.2]) [] [Rl (zT (zB .i64)) p2 c2 r.1] :=
 zO call169 func169 u λX=>zG<|wN .s u<|λb1=>zA 2 u<|zK<|zG<|wU 0 2 u u u<|qW zFA u (cq [0,1])<|λr1 _ k p2 c2=>k<|zA 4 u<|zK<|qC<|yM u (lT u (lT u lN)) (λ_ k=>k p2 c2) [] (gq [0])
abbrev zWE:=@Cn.mk 169 0 _ @zVw
attribute [instance] zIW zGg zKT zWE
theorem zFj{y0:qE}: wR qd prog 243 [.agg (vQ y0 p1 c1).toArray,pt b1 0] [bx b1 181 [.func (.func 169) #[] #[]]] [Rl wE p1 c1 y0.2,Pt (vC 64 (zB .u8)) 4 0 vV] (zBW y0) λL r K=>∀ p2 c2,K (.tuple #[sv p2 r.1 c2,vi r.2]) L [Rl (zT (zB .i64)) p2 c2 r.1] :=
 zO call243 func243 u λX=>hR 7 2 (zT (zB .i64)) 22<|hI 0 6 1 (λ(s1:(List (List Int))×Int) K=>∀ p3 c3 r_1,K [19,20] [(1,.r []),(2,.r r_1)] [1,3] [(7,sv p3 s1.1 c3),(21,vi s1.2)] [Al (zT (zB .i64)) 22 r_1 p3 c3 s1.1])<|
 au
abbrev zLb:=@Cn.mk 243 5 _ @zFj
attribute [instance] zLb
theorem zGX{y0:qE}: wR qd prog 243 [.agg (vQ y0 p1 c1).toArray,pt b1 0] [bx b1 181 [.func (.func 167) #[] #[]]] [Rl wE p1 c1 y0.2,Pt (vC 64 (zB .u8)) 4 0 vV] (zB5 y0) λL r K=>∀ p2 c2,K (.tuple #[sv p2 r.1 c2,vi r.2]) L [Rl (zT (zB .i64)) p2 c2 r.1] :=
 zO call243 func243 u λX=>hR 7 2 (zT (zB .i64)) 22<|hI 0 6 1 (λ(s1:(List (List Int))×Int) K=>∀ p3 c3 r_1,K [19,20] [(1,.r []),(2,.r r_1)] [1,3] [(7,sv p3 s1.1 c3),(21,vi s1.2)] [Al (zT (zB .i64)) 22 r_1 p3 c3 s1.1])<|
 au
abbrev zLn:=@Cn.mk 243 6 _ @zGX
theorem zUX{y0:qE}{y1:Int}: zP qd prog 54 [.agg (vQ y0 p1 c1).toArray,vi y1] [] [Rl wE p1 c1 y0.2,Pt (vC 64 (zB .u8)) 4 0 vV] (zAk y0 y1) λr K=>∀ p2 c2,K (.tuple #[sv p2 r.1 c2,vi r.2]) [] [Rl (zT (zB .i64)) p2 c2 r.1] :=
 zO call54 func54 u λX=>zG<|wN .s u<|λb1=>zA 2 u<|zK<|zQ<|zG<|wU 0 2 u u u<|qW zNS u (cq [0])<|λr1 _ k=>k<|zA 1 u<|zK<|jA 2 u<|zR u (jA 3 u<|qC<|qS<|yM u (lT u (lT u lN)) (λ_ k=>k none 0) [] ⟨gn,d⟩)<|
  jC<|zG<|qW zR8 u d<|λr2 _ k b2 b3 b4 b5 b6 b7 b8 b9 b10 b11 b12=>k<|zA 1 u<|zK<|zQ<|
  z1c (λK=>K [1,2,7] [] [0,1] [(21,vb ((decide (y1<1))||(decide (((10:Nat):Int)≤y1))))] []) (wQ<|zA 3 u<|
  xO (b:=decide (y1<1)) 16 u (λhb1=>zA 4 u<|zV (vb true)<|qN<|yG 21 (vb ((decide (y1<1))||(decide (((10:Nat):Int)≤y1)))) u (by rw[hb1];rfl)<|qB (gv kk [0,1,2,3,4,5,6,7,8,9,10,11] (gq [0,1]))
  )<|λhb1=>zA 4 u<|zV (vb (decide (((10:Nat):Int)≤y1)))<|qN<|yG 21 (vb ((decide (y1<1))||(decide (((10:Nat):Int)≤y1)))) u (by rw[hb1];rfl)<|qB (gv kk [0,1,2,3,4,5,6,7,8,9,10,11] (gq [0,1])))<|λ_ k=>
  k<|zR u (jA 2 u<|qC<|qS<|yM u (lT u (lT u lN)) (λ_ k=>k none 0) [] ⟨gn,d⟩)<|jC<|
  jjn (λs1 K=>∀ p2 c2,K [(4,sv p2 s1.1 c2),(5,vi s1.2)] [[],[],[],[],[],[],[],[],[],[],[],[]] [Rl (zT (zB .i64)) p2 c2 s1.1,Pt (vC 64 (zB .u8)) 4 0 vV]) (
  tM [] [0,1] 10<|zW 8 [0,1] u<|jeqI (c:=1) (λhb2=>yG 23 (vi 1) u (by rw[hb2])<|jdv (v:=pt b2 1) 2 u (λh=>zVu h u u (by decide) (by kernel_rfl) u)<|wV 3 1 u u u u<|
  xE 4 0 2 u u u u<|qO 5<|qD (.f u) [2,3] [] zGW u u u (cq [0,1])<|λr3 _ k p3 c3=>k<|qM<|zW 0 [6,7,8,9] u<|qY<|
  qB (gv (λ_ k=>k p3 c3) [900,901,902,903,904,905,906,907,908,909,910,911] (gq [0,2])))<|jeqI (c:=2) (λhb3=>yG 23 (vi 2) u (by rw[hb3])<|jdv (v:=pt b2 2) 2 u (λh=>zVu h u u (by decide) (by kernel_rfl) u)<|
  wV 3 1 u u u u<|xE 4 0 2 u u u u<|qO 5<|qD (.f u) [4] [] zGX u u u (cq [0,1])<|λr4 _ k p4 c4=>k<|qM<|zW 0 [6,7,8,9] u<|qY<|
  qB (gv (λ_ k=>k p4 c4) [900,901,902,903,904,905,906,907,908,909,910,911] (gq [0,2])))<|jeqI (c:=3) (λhb4=>yG 23 (vi 3) u (by rw[hb4])<|jdv (v:=pt b2 3) 2 u (λh=>zVu h u u (by decide) (by kernel_rfl) u)<|
  wV 3 1 u u u u<|xE 4 0 2 u u u u<|qO 5<|qD (.f u) [5] [] zEz u u u (cq [0,1])<|λr5 _ k p5 c5=>k<|qM<|zW 0 [6,7,8,9] u<|qY<|
  qB (gv (λ_ k=>k p5 c5) [900,901,902,903,904,905,906,907,908,909,910,911] (gq [0,2])))<|jeqI (c:=4) (λhb5=>yG 23 (vi 4) u (by rw[hb5])<|jdv (v:=pt b2 4) 2 u (λh=>zVu h u u (by decide) (by kernel_rfl) u)<|
  wV 3 1 u u u u<|xE 4 0 2 u u u u<|qO 5<|qD (.f u) [6] [] zFj u u u (cq [0,1])<|λr6 _ k p6 c6=>k<|qM<|zW 0 [6,7,8,9] u<|qY<|
  qB (gv (λ_ k=>k p6 c6) [900,901,902,903,904,905,906,907,908,909,910,911] (gq [0,2])))<|jeqI (c:=5) (λhb6=>yG 23 (vi 5) u (by rw[hb6])<|jdv (v:=pt b2 5) 2 u (λh=>zVu h u u (by decide) (by kernel_rfl) u)<|
  wV 3 1 u u u u<|xE 4 0 2 u u u u<|qO 5<|qD (.f u) [7] [] zEq u u u (cq [0,1])<|λr7 _ k p7 c7=>k<|qM<|zW 0 [6,7,8,9] u<|qY<|
  qB (gv (λ_ k=>k p7 c7) [900,901,902,903,904,905,906,907,908,909,910,911] (gq [0,2])))<|jeqI (c:=6) (λhb7=>yG 23 (vi 6) u (by rw[hb7])<|jdv (v:=pt b2 6) 2 u (λh=>zVu h u u (by decide) (by kernel_rfl) u)<|
  wV 3 1 u u u u<|xE 4 0 2 u u u u<|qO 5<|qD (.f u) [8,9] [] zF9 u u u (cq [0,1])<|λr8 _ k p8 c8=>k<|qM<|zW 0 [6,7,8,9] u<|qY<|
  qB (gv (λ_ k=>k p8 c8) [900,901,902,903,904,905,906,907,908,909,910,911] (gq [0,2])))<|jeqI (c:=7) (λhb8=>yG 23 (vi 7) u (by rw[hb8])<|jdv (v:=pt b2 7) 2 u (λh=>zVu h u u (by decide) (by kernel_rfl) u)<|
  wV 3 1 u u u u<|xE 4 0 2 u u u u<|qO 5<|qD (.f u) [10,11] [] zF8 u u u (cq [0,1])<|λr9 _ k p9 c9=>k<|qM<|zW 0 [6,7,8,9] u<|qY<|
  qB (gv (λ_ k=>k p9 c9) [900,901,902,903,904,905,906,907,908,909,910,911] (gq [0,2])))<|jeqI (c:=8) (λhb9=>yG 23 (vi 8) u (by rw[hb9])<|jdv (v:=pt b2 8) 2 u (λh=>zVu h u u (by decide) (by kernel_rfl) u)<|
  wV 3 1 u u u u<|xE 4 0 2 u u u u<|jno)<|jeqI (c:=9) (λhb10=>yG 23 (vi 9) u (by rw[hb10])<|jdv (v:=pt b2 9) 2 u (λh=>zVu h u u (by decide) (by kernel_rfl) u)<|wV 3 1 u u u u<|
  xE 4 0 2 u u u u<|jno)<|jno)<|λs1 _ k p2 c2=>k<|qC<|yM u (lT u (lT u lN)) (λ_ k=>k p2 c2) [] (gq [0])
abbrev zVO:=@Cn.mk 54 0 _ @zUX
attribute [instance] zLn zVO
theorem zTr{y0:zBv}{y1:Int}: zP qd prog 17 [.agg (zPf y0 p1 c1 p2 c2 p3 c3 p4 c4 p5 c5 p6 c6).toArray,vi y1] [] (zQa y0 p1 c1 p2 c2 p3 c3 p4 c4 p5 c5 p6 c6 [Pt (vC 64 (zB .u8)) 4 0 vV]) (zD7 y0 y1) λr K=>∀ p7 c7,K (.tuple #[sv p7 r.1 c7,vi r.2]) [] [Rl (zT qT) p7 c7 r.1] :=
 zO call17 func17 u λX=>hR 8 1 (zT qT) 39<|hI 0 6 1 (λ(s1:(List (List zI))×Int) K=>∀ p8 c8 r_1,K [2,21,22] [(1,.r r_1)] [1,2,3,4,5,6,7,8] [(8,sv p8 s1.1 c8),(23,vi s1.2)] [Al (zT qT) 39 r_1 p8 c8 s1.1])<|
 au
abbrev zTv:=@Cn.mk 17 0 _ @zTr
theorem zQi{y0:Int}: zP qd prog 59 [.slice none 0 0,vi y0] [] [] (zEv y0) λr K=>∀ p1 c1 r_1,K (sv p1 r c1) [r_1] [Al qT 44 r_1 p1 c1 r] :=
 zO call59 func59 u λX=>yU qT 44<|jA 1 u<|wF (λs1 K=>K [0,1] [] [0] [] []) (jA 2 u<|zR u (wQ<|jno)<|vF<|qB (gv kk [0] (gq [0])))<|λs1 _ k=>k<|zQ<|zG<|zA 2 u<|
  jv (v:=vi ((0:Nat):Int)) (λh=>r_cap h u underlying39)<|zA 5 u<|zK<|jA 2 u<|zR u (wQ<|zA 2 u<|jv (v:=vi ((0:Nat):Int)) (λh=>r_cap h u underlying39)<|
  jv (v:=.slice none 0 0) (λh=>r_slnil (e:=qT) h u u (by kernel_rfl))<|zA 1 u<|jaz .s (e:=qT) (h2:=underlying3) 0 0 44 ((false,[]):zI) (.agg k2) u (vP vB vS) u u<|
 au
)<|
 au
abbrev zRO:=@Cn.mk 59 0 _ @zQi
attribute [instance] zTv zRO
theorem zQj{y0:List (List zI)}: zP qd prog 19 [sv p1 y0 c1] [] [Rl (zT qT) p1 c1 y0] (zC0 y0) λr K=>∀ p2 c2,K (sv p2 r c2) [] [Rl qT p2 c2 r] :=
 zO call19 func19 u λX=>jA 1 u<|jA 1 u<|wF (λs1 K=>K [0] [] [0] [(3,vi s1)] []) (jA 3 u<|qA<|
  wO (λs2 K=>K [0,9,10] [] [0] [(3,vi s2.1),(11,vi s2.2)] []) (gv kk [] (gq [0]))<|λs2 _ k=>k<|jA 1 u<|zQ<|zR u (jC<|zQ<|qA<|zG<|
  yD 0 u u u<|λx1 b1 o1=>yN false oL (gk 0) u<|λp2 c2=>zA 1 u<|zK<|jA 5 u<|jA 2 u<|zR u (wQ<|jno)<|
 au
)<|
 au
)<|hI 0 11 1 (λ(s3:(List zI)×Int) K=>∀ p4 c4 r_2,K [25,26] [(0,.r r_2)] [1] [(6,sv p4 s3.1 c4),(27,vi s3.2)] [Al qT 44 r_2 p4 c4 s3.1])<|
 au
abbrev zRL:=@Cn.mk 19 0 _ @zQj
theorem zSD{y0:List zI}{y1:zI}: zP qd prog 109 [sv p1 y0 c1,.agg #[vb y1.1,vs y1.2]] [] [Rl qT p1 c1 y0] (zCi y0 y1) λr K=>K (vi r) [] [] :=
 zO call109 func109 u λX=>zG<|wN .s u<|λb1=>zA 1 u<|zK<|zQ<|jA 3 u<|qA<|wO (λs1 K=>K [0,3,7] [] [0] [(8,vi s1)] []) (gv kk [0] (gq [0]))<|λs1 _ k=>k<|jA 1 u<|zQ<|zR u (jC<|zQ<|
  qA<|jA 2 u<|xA [] [0] 6<|xE 0 0 2 u u u u<|zW 3 [1,2] u<|jdi 3 0 u u u u<|λx1 b2 o1=>tZ 4 true tA u (gk 0) u<|vK 5 (vb (y1==x1)) u<|qY<|qK<|zR u (jA 2 u<|qC<|yC<|qS<|tF<|
  yC<|qS<|qR u u kk [] d)<|vF<|wT<|qK<|jB 2 u<|vG (gv kk [0] (gq [1])))<|yX<|yR<|yQ<|yV<|qK<|jA 1 u<|qC<|qR u u kk [] d
abbrev zRw:=@Cn.mk 109 0 _ @zSD
attribute [instance] zRL zRw
theorem zPY{y0:List zI}{y1:zI}: zP qd prog 62 [sv p1 y0 c1,.agg #[vb y1.1,vs y1.2]] [] [Rl qT p1 c1 y0] (zCs y0 y1) λr K=>K (vb r) [] [] :=
 zO call62 func62 u λX=>
 au
abbrev zPd:=@Cn.mk 62 0 _ @zPY
attribute [instance] zPd
theorem z3F{y0:List zI}{y1:zI}: zP qd prog 24 [sv p1 y0 c1,.agg #[vb y1.1,vs y1.2]] [] [Rl qT p1 c1 y0] (zFy y0 y1) λr K=>K (vb r) [] [] :=
 zO call24 func24 u λX=>
 au
abbrev z3M:=@Cn.mk 24 0 _ @z3F
attribute [instance] z3M
theorem zS0{y0:List zI}{y1:zI}: wR qd prog 23 [sv p1 y0 c1,pt b1 0] [bx b1 44 [vb y1.1,vs y1.2]] [Rl qT p1 c1 y0] (zDN y0 y1) λL r K=>K (vb r) L [] :=
 zO call23 func23 u λX=>
 au
abbrev zTP:=@Cn.mk 23 0 _ @zS0
attribute [instance] zTP
theorem zGJ{y0:List (List zI)}{y1:zI}: wR qd prog 61 [sv p1 y0 c1,.func (.func 23) #[] #[pt b1 0]] [bx b1 44 [vb y1.1,vs y1.2]] [Rl (zT qT) p1 c1 y0] (zA9 y0 y1) λL r K=>K (vi r) L [] :=
 zO call61 func61 u λX=>hI 0 2 1 (λ(s1:Int) K=>K [0,1,7] [] [0] [(8,vi s1)] [])<|
 au
abbrev zGP:=@Cn.mk 61 0 _ @zGJ
attribute [instance] zGP
theorem zF5{y0:List (List zI)}{y1:zI}: wR qd prog 22 [sv p1 y0 c1,.func (.func 23) #[] #[pt b1 0]] [bx b1 44 [vb y1.1,vs y1.2]] [Rl (zT qT) p1 c1 y0] (zAH y0 y1) λL r K=>K (vb r) L [] :=
 zO call22 func22 u λX=>
 au
abbrev zF4:=@Cn.mk 22 0 _ @zF5
attribute [instance] zF4
theorem zU3{y0:zI}{y1:Bool}{y2:List (List zI)}: wR qd prog 21 [.agg #[vb y0.1,vs y0.2],pt b1 0,pt b2 0] [bx b1 4 [vb y1],bx b2 69 [sv p1 y2 c1]] [Rl (zT qT) p1 c1 y2] (zCR y0 y1 y2) λL r K=>K (vb r) L [] :=
 zO call21 func21 u λX=>hI 1 1 0 (λ(s1:Bool) K=>K [] [(2,.r [])] [0] [(4,vb s1)] [])<|
 au
abbrev zUZ:=@Cn.mk 21 0 _ @zU3
attribute [instance] zUZ
theorem zDI{y0:List zI}{y1:Bool}{y2:List (List zI)}: wR qd prog 60 [sv p1 y0 c1,.func (.func 21) #[] #[pt b1 0,pt b2 0]] [bx b1 4 [vb y1],bx b2 69 [sv p2 y2 c2]] [Rl qT p1 c1 y0,Rl (zT qT) p2 c2 y2] (zAi y0 y1 y2) λL r K=>K (vi r) L [] :=
 zO call60 func60 u λX=>hI 0 2 1 (λ(s1:Int) K=>K [0,1,7] [] [0,1] [(8,vi s1)] [])<|
 au
abbrev zGt:=@Cn.mk 60 0 _ @zDI
attribute [instance] zGt
theorem zG4{y0:List zI}{y1:Bool}{y2:List (List zI)}: zP qd prog 20 [sv p1 y0 c1,.func (.func 21) #[] #[pt b1 0,pt b2 0]] [r_1,bx b1 4 [vb y1],bx b2 69 [sv p2 y2 c2]] [Al qT 44 r_1 p1 c1 y0,Rl (zT qT) p2 c2 y2] (zAR y0 y1 y2) λr K=>∀ p3 c3,K (sv p3 r c3) [[],bx b1 4 [vb y1],bx b2 69 [sv p2 y2 c2]] [Rl qT p3 c3 r] :=
 zO call20 func20 u λX=>jA 1 u<|zG<|zA 2 u<|qD .s [1,2] [0] zDI u u u ⟨cl 0 0,ck 1,d⟩<|λr1 _ k=>k<|zA 1 u<|zK<|zQ<|jA 2 u<|zR u (
 au
)<|jC<|
  wF (λs1 K=>∀ r_2,K [] [(0,r_2)] [1] [(0,.slice p1 (List.length y0) c1),(5,vi s1.2)] [Ar qT 44 r_2 p1 c1 (List.length y0) s1.1]) (hI 0 5 2 (λ(s2:(List zI)×Int×Int) K=>∀ r_3,K [1] [(0,.r r_3)] [1] [(0,.slice p1 (List.length y0) c1),(5,vi s2.2.1),(6,vi s2.2.2)] [Ar qT 44 r_3 p1 c1 (List.length y0) s2.1])<|
 au
)<|λs1 _ k r_2=>k<|zG<|zA 2 u<|jsV 0 u u u<|λu1 p3 c3 f1=>jcv .s 0 0 (false,[]) (.agg k2) u f1 u (vP vB vS)<|
 au
abbrev zG3:=@Cn.mk 20 0 _ @zG4
attribute [instance] zG3
theorem zGs{y0:zBv}{y1:Int}{y2:Bool}: zP qd prog 6 [.agg (zPf y0 p1 c1 p2 c2 p3 c3 p4 c4 p5 c5 p6 c6).toArray,vi y1,vb y2] [] (zQa y0 p1 c1 p2 c2 p3 c3 p4 c4 p5 c5 p6 c6 [Pt (vC 64 (zB .u8)) 4 0 vV]) (zBU y0 y1 y2) λr K=>∀ p7 c7,K (.tuple #[sv p7 r.1 c7,vi r.2]) [] [Rl qT p7 c7 r.1] :=
 zO call6 func6 u λX=>
 au
abbrev zWg:=@Cn.mk 6 0 _ @zGs
theorem z2N{y0:List Int}: zP qd prog 4 [sv p1 y0 c1] [] [Rl (zB .i64) p1 c1 y0] (zT8 y0) λr K=>∀ b1 p2 c2,K (pt b1 0) [bx b1 58 (zJm r p2 c2)] (zJs r p2 c2 []) :=
 zO call4 func4 u λX=>
 au
abbrev z96:=@Cn.mk 4 0 _ @z2N
theorem z0m{y0:zI}{y1:zI}: zP qd prog 75 [.agg #[vb y0.1,vs y0.2],.agg #[vb y1.1,vs y1.2]] [] [] (zJ5 y0 y1) λr K=>K (vi r) [] [] :=
 zO call75 func75 u λX=>zG<|wN .s u<|λb1=>wN .s u<|λb2=>zA 1 u<|zK<|zQ<|qA<|zG<|wU 0 2 u u u<|wU 1 2 u u u<|zV (vb (y0==y1))<|zA 1 u<|zK<|zR u (jA 1 u<|qC<|yC<|qS<|qR u u kk [] d)<|
  jjp (λK=>K [(9,vb ((uV y0.2 y1.2)||((y0.2==y1.2)&&y1.1)))] [[],[]] []) (wQ<|zY 1 u<|qI 0 u u u<|zY 1 u<|
  qI 1 u u u<|zA 2 u<|xO (b:=uV y0.2 y1.2) 15 u (λhb1=>zA 9 u<|zV (vb true)<|zA 1 u<|qN<|yG 9 (vb ((uV y0.2 y1.2)||((y0.2==y1.2)&&y1.1))) u (by rw[hb1];rfl)<|qB (gv kk [900,901] d)
  )<|λhb1=>zY 1 u<|qI 0 u u u<|zY 1 u<|qI 1 u u u<|zA 2 u<|xO (b:=y0.2==y1.2) 21 u (λhb2=>zY 0 u<|qI 1 u u u<|zV (vb y1.1)<|zV (vb y1.1)<|zA 1 u<|qN<|
  yG 9 (vb ((uV y0.2 y1.2)||((y0.2==y1.2)&&y1.1))) u (by rw[hb1,hb2];rfl)<|qB (gv kk [900,901] d))<|λhb2=>zA 2 u<|zV (vb false)<|zV (vb false)<|zA 1 u<|qN<|
  yG 9 (vb ((uV y0.2 y1.2)||((y0.2==y1.2)&&y1.1))) u (by rw[hb1,hb2];rfl)<|qB (gv kk [900,901] d))<|λ_ k=>k<|zR u (jA 1 u<|qC<|yC<|qS<|qR u u kk [] d)<|vF<|wT<|qK<|jA 1 u<|qC<|
  qR u u kk [] d
abbrev zZu:=@Cn.mk 75 0 _ @z0m
attribute [instance] zWg z96 zZu
theorem z18{y0:List zI}{y1:zI}: zP qd prog 34 [sv p1 y0 c1,.agg #[vb y1.1,vs y1.2]] [] [Rl qT p1 c1 y0] (zM9 y0 y1) λr K=>∀ p2 c2,K (sv p2 r c2) [] [Rl qT p2 c2 r] :=
 zO call34 func34 u λX=>zG<|wN .s u<|λb1=>zA 1 u<|zK<|jA 1 u<|wF (λs1 K=>K [0,3] [] [0] [(5,vi s1)] []) (hD 2 [] [0] (.l [0,1,2,3,4] (.s 11 (.l [5,6,7,8,9] (.f 10 (.l [11,12] .e))) (.l [5,6,7,8,9,10,11,12] .e)))<|hI 0 2 2 (λ(s2:Int) K=>K [0,3] [] [0] [(5,vi s2)] [])<|hI 1 2 0 (λ(s3:Bool) K=>K [0,3,5] [] [0] [(19,vb s3)] [])<|
 au
)<|
  λs1 _ k=>k<|zQ<|wF (λs4 K=>K [0,3,5] [] [0] [(33,vb s4)] []) (tM [] [0] 12<|zW 7 [0,1,2,3,4] u<|uO 26 u (zW 5 [5,6] u<|jdi 7 0 u u u u<|λx2 b3 o2=>
  tZ 8 true tA u (gk 0) u<|xE 9 0 2 u u u u<|vK 10 (vb (x2==y1)) u<|vK 11 (vb (x2==y1)) u<|qY<|
 au
)<|zW 1 [5,6,7,8,9,10] u<|vK 11 (vb false) u<|qY<|
 au
)<|λs4 _ k=>k<|zR u (
 au
)<|jC<|zG<|jbo .s (e:=qT) 44 [] ([]:List zI) rN<|λr_1 p2 c2=>zA 2 u<|
  jsl (gk 1) u u u (.inl ⟨rfl,rfl⟩) (.inr ⟨_,rfl⟩)<|λx3 p3 c3=>uB .s 1 1 u (gk 0) u u<|λx4 r_2 p4 c4=>zA 1 u<|zK<|xA [] [0] 9<|zW 8 [0] u<|xE 1 0 2 u u u u<|zW 5 [4,5] u<|
  jdw 6 u (gk 3) u u u (.inr ⟨_,rfl⟩) (.inl ⟨rfl,rfl⟩)<|λx5 p5 c5=>qO 2<|yH (.f u) (e:=qT) 44 [vb y1.1,vs y1.2] ([y1]:List zI) (rC (vP vB vS) rN)<|λp6 c6=>qM<|qO 3<|
  uB (.f u) 1 2 u (gk 0) u u<|λx6 r_3 p7 c7=>qM<|qO 7<|uB (.f u) 1 0 u (gk 2) u u<|λx7 r_4 p8 c8=>qM<|zW 0 [8] u<|qY<|
 au
abbrev z13:=@Cn.mk 34 0 _ @z18
attribute [instance] z13
theorem zP1{y0:List zI}: zP qd prog 10 [sv p1 y0 c1] [] [Rl qT p1 c1 y0] (zK4 y0) λr K=>∀ p2 c2,K (sv p2 r c2) [] [Rl qT p2 c2 r] :=
 zO call10 func10 u λX=>hI 0 3 2 (λ(s1:(List zI)×Int) K=>∀ p2 c2,K [0] [] [0] [(3,sv p2 s1.1 c2),(4,vi s1.2)] [Rl qT p2 c2 s1.1])<|
 au
abbrev z1O:=@Cn.mk 10 0 _ @zP1
end Go.Proofs.YtgjdojihimkgcaaGreatDoor
