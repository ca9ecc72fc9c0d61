/- A part. Conditions: none. -/
import Derived.Test.YtgjdojihimkgcaaGreatDoorWalk5
namespace Go.Proofs.YtgjdojihimkgcaaGreatDoor
open Go Go.GD Go.Proofs.Tryz
set_option autoImplicit false
set_option linter.unusedVariables false
set_option maxRecDepth 100000
set_option linter.defProp false
variable {qd:Prop}
variable {yl1:Nat}{p1 p2 p3 p4 p5 p6 p7 p8 p9:Option Addr}{c1 c2 c3 c4 c5 c6 c7 c8 c9:Nat}{b1 b2 b3 b4 b5 b6 b7 b8 b9 b10 b11:Nat}{r_1 r_2 r_3 r_4 r_5 r_6 r_7 r_8:zJ}
theorem zR6{y0:qE}{y1:Int}{y2:Int}{y3:zHy}: zP qd prog 31 [.agg (vQ y0 p1 c1).toArray,vi y1,vi y2,.agg (zSn y3 p2 c2 p3 c3 p4 c4).toArray] [] (Rl wE p1 c1 y0.2::(zSV y3 p2 c2 p3 c3 p4 c4 [Pt (vC 64 (zB .u8)) 4 0 vV])) (zNZ y0 y1 y2 y3) λr K=>K (vi r) [] [] :=
 zO call31 func31 u λX=>zG<|wN .s u<|λb1=>wN .s u<|λb2=>zA 1 u<|zK<|zQ<|qA<|zG<|zY 3 u<|qI 1 u u u<|zA 3 u<|zK<|zR u (jA 1 u<|qC<|yC<|qS<|qR u u kk [] d)<|
  wF (λs1 K=>K [] [(0,[]),(1,[])] [4] [(14,vb s1)] []) (tM [] [0,1] 19<|xE 0 0 2 u u u u<|qU 1 1 u u<|wV 2 1 u u u u<|
  qU 3 2 u u<|wV 4 1 u u u u<|qO 5<|qD (.f u) [] [] zR0 u u u (cq [0,1,2,4])<|λr1 _ k=>k<|qM<|zW 11 [6,7] u<|uO 22 u (zW 2 [8,9,10,11,12,13,14,15,16] u<|vK 17 (vb true) u<|zW 0 [18] u<|
  qY<|qB (gv kk [900,901] (gq [4])))<|qU 8 0 u u<|wV 9 1 u u u u<|qU 10 1 u u<|wV 11 1 u u u u<|zW 6 [12] u<|jdi 13 1 u u u u<|λx1 b3 o1=>tZ 14 false oI u (gk 0) u<|zW 3 [15] u<|
  vK 16 (vb (!(y3.1==(x1==1)))) u<|vK 17 (vb (!(y3.1==(x1==1)))) u<|zW 0 [18] u<|qY<|qB (gv kk [900,901] (gq [5])))<|λs1 _ k=>k<|zR u (jA 1 u<|qC<|yC<|qS<|qR u u kk [] d)<|vF<|wT<|
  qK<|jA 1 u<|qC<|qR u u kk [] d
abbrev zYS:=@Cn.mk 31 0 _ @zR6
theorem zQv{y0:Int}: zP qd prog 191 [vi y0] [] [] (zJT y0) λr K=>K (vi r) [] [] :=
 zO call191 func191 u λX=>
 au
abbrev z7I:=@Cn.mk 191 0 _ @zQv
theorem z1R{y0:Int}{y1:List Int}: zP qd prog 115 [vi y0,sv p1 y1 c1] [] [Rl (zB .i64) p1 c1 y1] (zGH y0 y1) λr K=>K (vi r) [] [] :=
 zO call115 func115 u λX=>jA 1 u<|zQ<|jA 3 u<|zR u (jA 1 u<|qC<|qS<|qR u u kk [] d)<|jC<|jjoK (λs1 K=>K [1] [] [0] [] []) (jA 3 u<|qA<|
  wO (λs2 K=>K [0,1,11,12] [] [0] [(13,vi s2)] []) (gv kk [] (gq [0]))<|λs2 _ k=>k<|jA 1 u<|zQ<|zR u (jC<|zQ<|qA<|zG<|yD 0 u u u<|λx1 b1 o1=>
  yN false oI (gk 0) u<|zA 1 u<|zK<|
  z1c (λK=>K [0,1,11,12,13] [] [1] [(29,vb ((x1==0)||((decide (x1<(zH ((0:Int)-y0))))||(decide (y0<x1)))))] []) (
  wQ<|zA 3 u<|xO (b:=x1==0) 19 u (λhb1=>zA 4 u<|zV (vb true)<|zA 4 u<|zV (vb true)<|qN<|yG 29 (vb ((x1==0)||((decide (x1<(zH ((0:Int)-y0))))||(decide (y0<x1))))) u (by rw[hb1];rfl)<|
  qB (gv kk [] (gq [1])))<|λhb1=>zA 4 u<|zV (vb (decide (x1<(zH ((0:Int)-y0)))))<|zA 1 u<|xO (b:=decide (x1<(zH ((0:Int)-y0)))) 25 u (λhb2=>zA 3 u<|zV (vb true)<|qN<|
  yG 29 (vb ((x1==0)||((decide (x1<(zH ((0:Int)-y0))))||(decide (y0<x1))))) u (by rw[hb1,hb2];rfl)<|qB (gv kk [] (gq [1])))<|λhb2=>zA 3 u<|zV (vb (decide (y0<x1)))<|qN<|
  yG 29 (vb ((x1==0)||((decide (x1<(zH ((0:Int)-y0))))||(decide (y0<x1))))) u (by rw[hb1,hb2];rfl)<|qB (gv kk [] (gq [1])))<|λ_ k=>k<|zR u (jA 1 u<|qC<|yC<|qS<|tF<|yC<|tF<|qR u u kk [] d)<|
  vF<|wT<|qK<|jB 2 u<|vG (gv kk [] (gq [0])))<|yX<|yR<|yQ<|yV<|vG (gv kk [] (gq [0])))<|λs1 _ k=>k<|zQ<|jA 1 u<|qA<|
  wO (λs3 K=>K [1] [] [0] [(7,vi s3)] []) (gv kk [] (gq [0]))<|λs3 _ k=>k<|zQ<|jA 4 u<|zR u (jC<|zQ<|qA<|xA [] [] 12<|zW 9 [0,1,2] u<|
  jdi 3 0 u u u u<|λx2 b2 o2=>tZ 4 false oI u (gk 0) u<|zW 5 [6,7] u<|jdi 8 1 u u u u<|λx3 b3 o3=>tZ 9 false oI u (gk 0) u<|qO 5<|qD (.f u) [] [] zQv u u u d<|λr1 _ k=>k<|qM<|qO 10<|
  qD (.f u) [] [] zQv u u u d<|λr2 _ k=>k<|qM<|zW 0 [11] u<|qY<|qK<|zR u (jA 1 u<|qC<|yC<|qS<|tF<|yC<|qS<|qR u u kk [] d)<|vF<|wT<|qK<|jB 3 u<|vG (gv kk [] (gq [2])))<|
  yX<|yR<|yQ<|yV<|qK<|jA 1 u<|qC<|qR u u kk [] d
abbrev z1Q:=@Cn.mk 115 0 _ @z1R
attribute [instance] zYf zYS z7I z1Q
theorem zNP{y0:Int}{y1:List (List Int)}: zP qd prog 68 [vi y0,sv p1 y1 c1] [] [Rl (zT (zB .i64)) p1 c1 y1] (zII y0 y1) λr K=>K (vi r) [] [] :=
 zO call68 func68 u λX=>hP 4 1 0 (λK=>K [0,1] [] [0] [(13,vb ((decide (y0<0))||(decide (200<y0))))] [])<|hI 0 6 1 (λ(s1:Int) K=>K [0,17,18] [] [0] [(19,vi s1)] [])<|
 au
abbrev zY5:=@Cn.mk 68 0 _ @zNP
theorem zPi{y0:Int}{y1:Int}: zP qd prog 267 [vi y0,vi y1] [] [] (zEF y0 y1) λr K=>K (vi r) [] [] :=
 zO call267 func267 u λX=>
 au
abbrev zXs:=@Cn.mk 267 0 _ @zPi
theorem zE1{y0:List Int}: zP qd prog 266 [sv p1 y0 c1,.func (.func 267) #[] #[]] [r_1] [Al (zB .i64) 3 r_1 p1 c1 y0] (zAh y0) λr K=>∀ r_2,K (.tuple #[]) [r_2] [Ar (zB .i64) 3 r_2 p1 c1 (List.length y0) r]:=⟨call266,λA w0 r hm hO hF=>by
 have h:=sort_sl (qd:=qd) Go.Proofs.Tryz.sort266 (e:=zB .i64) u (te:=3) zEF 267 (enters_of func267 (by kernel_rfl) u) (λA w vx vy x y n hn hO hx hy=>?_) hO hF.1.1 hm
 · change Calls prog 266 _ _ _ at h
   refine h.mono λe w' h=>?_
   cases e with
   | returned v=>obtain⟨r',rfl,h1,h2,h3,h4⟩:=h;exact λG k=>k r' ⟨rfl,h1,h2,⟨h3,h4.symm⟩,trivial⟩
   | panicked ch=>exact h
   | outgrown=>exact h
 · cases hx
   cases hy
   refine((zPi (qd:=True) (y0:=x) (y1:=y)).go A w n hn hO trivial).mono λe w' h=>?_
   cases e with
   | returned v=>exact h _ λ⟨e1,q⟩=>⟨e1,q.e⟩
   | panicked ch=>exact h
   | outgrown=>exact h⟩
abbrev zJd:=@Cn.mk 266 0 _ @zE1
attribute [instance] zY5 zXs zJd
theorem zOR{y0:List Int}{y1:List Int}{y2:Int}: zP qd prog 195 [sv p1 y0 c1,sv p2 y1 c2,vi y2] [] [Rl (zB .i64) p1 c1 y0,Rl (zB .i64) p2 c2 y1] (zFP y0 y1 y2) λr K=>∀ p3 c3,K (.tuple #[sv p3 r.1 c3,vb r.2]) [] [Rl (zB .i64) p3 c3 r.1] :=
 zO call195 func195 u λX=>jA 2 u<|zQ<|wF (λs1 K=>K [0,1,2] [] [0,1] [(24,vb s1)] []) (
 au
)<|λs1 _ k=>k<|zR u (
 au
)<|jC<|zQ<|
  wF (λs2 K=>K [0,1,2] [] [0,1] [(35,vb s2)] []) (
 au
)<|λs2 _ k=>k<|zR u (
 au
)<|jC<|zG<|zA 1 u<|yU (zB .i64) 3 <|zK<|
  jjn (λs3 K=>∀ p3 c3 r_1,K [(8,sv p3 s3 c3)] [r_1] [Al (zB .i64) 3 r_1 p3 c3 s3]) (hI 0 7 1 (λ(s4:(List Int)×Int) K=>∀ p5 c5 r_2,K [2,38,39] [(0,.r r_2)] [0] [(8,sv p5 s4.1 c5),(40,vi s4.2)] [Al (zB .i64) 3 r_2 p5 c5 s4.1])<|hI 0 10 1 (λ(s5:(List Int)×Int) K=>∀ p7 c7 r_3,K [2,38,39,40,44,45] [(0,.r r_3)] [3,0] [(8,sv p7 s5.1 c7),(46,vi s5.2)] [Al (zB .i64) 3 r_3 p7 c7 s5.1])<|
 au
)<|λs3 _ k p3 c3 r_1=>k<|zG<|
  zA 1 u<|qD .s [0] [] zE1 u u u (cq [0])<|λr6 _ k r_5=>k<|zK<|zG<|zA 1 u<|jrE 0 62 u u<|
 au
abbrev z04:=@Cn.mk 195 0 _ @zOR
theorem zCc{y0:List (List Int)}: zP qd prog 69 [sv p1 y0 c1] [] [Rl (zT (zB .i64)) p1 c1 y0] (zBy y0) λr K=>∀ p2 c2 r_1,K (sv p2 r c2) [r_1] [Al (zT (zB .i64)) 22 r_1 p2 c2 r] :=
 zO call69 func69 u λX=>jA 1 u<|zQ<|zG<|zA 1 u<|jv (λh=>z9l h u underlying80)<|zK<|jnl (m1:=some ([]:List (List Int))) u (gk 0) (λh=>by first|(rw[h];done)|(rw[h];rfl)|(simp[h,qF];done)) (jA 1 u<|qC<|qS<|
  yU (zT (zB .i64)) 22<|jrE 0 2 u u<|
 au
)<|hO 5<|
 au
abbrev zTz:=@Cn.mk 69 0 _ @zCc
theorem zXa{y0:List Int}: zP qd prog 203 [sv p1 y0 c1] [] [Rl (zB .i64) p1 c1 y0] (zPx y0) λr K=>K (vb r) [] [] :=
 zO call203 func203 u λX=>
 au
abbrev zWo:=@Cn.mk 203 0 _ @zXa
attribute [instance] z04 zTz zWo
theorem zET{y0:List (List Int)}: zP qd prog 272 [sv p1 y0 c1,.func (.func 203) #[] #[]] [] [Rl (zT (zB .i64)) p1 c1 y0] (zEM y0) λr K=>K (vi r) [] [] :=
 zO call272 func272 u λX=>hI 0 2 1 (λ(s1:Int) K=>K [0,1,7] [] [0] [(8,vi s1)] [])<|
 au
abbrev zJV:=@Cn.mk 272 4 _ @zET
theorem zDh{y0:List (List Int)}: zP qd prog 202 [sv p1 y0 c1,.func (.func 203) #[] #[]] [] [Rl (zT (zB .i64)) p1 c1 y0] (zD8 y0) λr K=>K (vb r) [] [] :=
 zO call202 func202 u λX=>jA 1 u<|zG<|zA 2 u<|qW zET u (cq [0])<|λr1 _ k=>k<|zA 2 u<|zK<|qC<|qR u u kk [] d
abbrev zIY:=@Cn.mk 202 4 _ @zDh
theorem zSj{y0:List (List Int)}{y1:List yT}: zP qd prog 125 [sv p1 y0 c1,sv p2 y1 c2] [] [Rl (zT (zB .i64)) p1 c1 y0,Rl xD p2 c2 y1] (zLT y0 y1) λr K=>K (vb r) [] [] :=
 zO call125 func125 u λX=>jA 1 u<|zQ<|jA 3 u<|zR u (zG<|zA 1 u<|qW zDh u (cq [0])<|λr1 _ k=>k<|zA 1 u<|zK<|qC<|qS<|qR u u kk [] d)<|jC<|zG<|zA 1 u<|
  qW zCc u (cq [0])<|λr2 _ k p3 c3 r_1=>k<|zA 1 u<|zK<|
  jjo (λs1 K=>∀ p4 c4 r_2,K [(5,sv p4 s1 c4)] [r_2] [Al (zT (zB .i64)) 22 r_2 p4 c4 s1]) (jA 3 u<|qA<|
  wO (λs2 K=>∀ p5 c5 r_3,K [17,18] [(0,r_3)] [2] [(5,sv p5 s2.1 c5),(19,vi s2.2)] [Al (zT (zB .i64)) 22 r_3 p5 c5 s2.1]) (gv (λ_ k=>k p3 c3 r_1) [0] (gq [0,2]))<|
  λs2 _ k p5 c5 r_3=>k<|jA 1 u<|zQ<|zR u (jC<|zQ<|qA<|zG<|yD 1 u u u<|λx1 b1 o1=>yN true o_Step (gk 0) u<|yB .s (.agg #[vi 0,vi 0,vi 0])<|λb2=>wJ .s 1 u u u<|zK<|zQ<|
  z1c (λK=>K [5,7,17,18,19] [] [1,2] [(38,vb ((decide ((if x1.2.1<x1.1 then x1.2.1 else x1.1)<0))||(decide ((len s2.1)≤(if x1.2.1 > x1.1 then x1.2.1 else x1.1)))))] []) (
  wQ<|zY 0 u<|qI 1 u u u<|zY 1 u<|qI 1 u u u<|zA 3 u<|xO (b:=decide ((if x1.2.1<x1.1 then x1.2.1 else x1.1)<0)) 29 u (λhb1=>zA 8 u<|zV (vb true)<|qN<|
  yG 38 (vb ((decide ((if x1.2.1<x1.1 then x1.2.1 else x1.1)<0))||(decide ((len s2.1)≤(if x1.2.1 > x1.1 then x1.2.1 else x1.1))))) u (by rw[hb1];rfl)<|qB (gv kk [0,1] (gq [1,2])))<|λhb1=>zY 0 u<|
  qI 1 u u u<|zY 1 u<|qI 1 u u u<|zA 4 u<|zV (vb (decide ((len s2.1)≤(if x1.2.1 > x1.1 then x1.2.1 else x1.1))))<|qN<|
  yG 38 (vb ((decide ((if x1.2.1<x1.1 then x1.2.1 else x1.1)<0))||(decide ((len s2.1)≤(if x1.2.1 > x1.1 then x1.2.1 else x1.1))))) u (by rw[hb1];rfl)<|qB (gv kk [0,1] (gq [1,2])))<|λ_ k=>k<|zR u (jA 1 u<|qC<|
  qS<|yC<|qS<|tF<|yC<|tF<|qR u u kk [] d)<|jC<|xA [] [0,1] 18<|zW 17 [0] u<|qU 1 0 u u<|wV 2 1 u u u u<|jdI 3 0 u u u u<|λx2 h1 b3 o2 hp1=>
  tU 4 0 0 sI false oL u u hp1 h1 u<|λp6 c6=>zW 12 [5] u<|qU 6 1 u u<|wV 7 1 u u u u<|jdI 8 1 u u u u<|λx3 h2 b4 o3 hp2=>tU 9 0 1 sI false oL u u hp2 h2 u<|λp7 c7=>qU 10 2 u u<|
  wV 11 1 u u u u<|qO 12<|qD (.f u) [] [] zOR u u u (cq [1,0])<|λr3 _ k p8 c8=>k<|qM<|zW 0 [13,14,15,16,17] u<|qY<|qK<|zQ<|jA 2 u<|zR u (jA 1 u<|qC<|qS<|yC<|qS<|tF<|yC<|tF<|
  qR u u kk [] d)<|jC<|wQ<|zA 2 u<|yH .s (e:=zT (zB .i64)) 22 [sv p8 r3.1 c8] ([r3.1]:List (List Int)) (rC (vL (gk 0)) rN)<|λp9 c9=>uB .s 0 4 u (gk 0) u u<|λx4 r_4 p10 c10=>zA 1 u<|qN<|wT<|
  qK<|jB 2 u<|vG (gv (λ_ k=>k p10 c10 r_4) [0] (gq [0,6])))<|yX<|yR<|yQ<|yV<|vG (gv (λ_ k=>k p5 c5 r_3) [0] (gq [0])))<|λs1 _ k p4 c4 r_2=>k<|zG<|zA 4 u<|jia 0 u u u<|λx5 h4 b5 o4 hp3=>
  jlA 0 0 sI false oL u hp3 h4 u<|λp11 c11=>zA 3 u<|zK<|qC<|qR u u kk [] d
abbrev z0Y:=@Cn.mk 125 0 _ @zSj
theorem zVP{y0:Int}{y1:List Bool}: wR qd prog 201 [vi y0,pt b1 0] [bx b1 83 [sv p1 y1 c1]] [Rl zNu p1 c1 y1] (zOH y0 y1) λL r K=>K (vb r) L [] :=
 zO call201 func201 u λX=>jA 1 u<|xA [] [0] 10<|wV 0 0 u u u u<|zW 6 [1,6,7] u<|qO 2<|qD (.f u) [] [] zQv u u u d<|λr1 _ k=>k<|qM<|zW 4 [3] u<|jdi 4 0 u u u u<|λx1 b2 o1=>
  tZ 5 false oB u (gk 0) u<|vK 8 (vb (x1==(decide (0<y0)))) u<|zW 0 [9] u<|qY<|qK<|qC<|qR u u kk [0] d
abbrev zU2:=@Cn.mk 201 0 _ @zVP
attribute [instance] zJV zIY z0Y zU2
theorem zDn{y0:List Int}{y1:List Bool}: wR qd prog 221 [sv p1 y0 c1,.func (.func 201) #[] #[pt b1 0]] [bx b1 83 [sv p2 y1 c2]] [Rl (zB .i64) p1 c1 y0,Rl zNu p2 c2 y1] (zDt y0 y1) λL r K=>K (vi r) L [] :=
 zO call221 func221 u λX=>hI 0 2 1 (λ(s1:Int) K=>K [0,1,7] [] [0,1] [(8,vi s1)] [])<|
 au
abbrev zIf:=@Cn.mk 221 6 _ @zDn
theorem zDR{y0:List Int}{y1:List Bool}: wR qd prog 145 [sv p1 y0 c1,.func (.func 201) #[] #[pt b1 0]] [bx b1 83 [sv p2 y1 c2]] [Rl (zB .i64) p1 c1 y0,Rl zNu p2 c2 y1] (zDT y0 y1) λL r K=>K (vb r) L [] :=
 zO call145 func145 u λX=>jA 1 u<|zG<|zA 2 u<|qD .s [0] [] zDn u u u (cq [0,1])<|λr1 _ k=>k<|zA 2 u<|zK<|qC<|qR u u kk [0] d
abbrev zHQ:=@Cn.mk 145 6 _ @zDR
theorem zPh{y0:List (List Int)}{y1:List Bool}: zP qd prog 124 [sv p1 y0 c1,sv p2 y1 c2] [] [Rl (zT (zB .i64)) p1 c1 y0,Rl zNu p2 c2 y1] (zQT y0 y1) λr K=>K (vb r) [] [] :=
 zO call124 func124 u λX=>zG<|wN .s u<|λb1=>zA 1 u<|zK<|zQ<|jA 3 u<|qA<|wO (λs1 K=>K [3,7,8] [] [0,1] [(9,vi s1)] []) (gv kk [0] (gq [0,1]))<|λs1 _ k=>k<|jA 1 u<|zQ<|zR u (jC<|
  zQ<|qA<|zG<|yD 0 u u u<|λx1 b2 o1=>yN false oL (gk 0) u<|λp3 c3=>zA 1 u<|zK<|zG<|zA 2 u<|qD .s [0] [] zDR u u u (cq [0,3])<|λr1 _ k=>k<|zA 1 u<|zK<|zR u (
  jA 1 u<|qC<|yC<|qS<|tF<|yC<|qS<|qR u u kk [] d)<|vF<|wT<|qK<|jB 2 u<|vG (gv kk [0] (gq [2,3])))<|yX<|yR<|yQ<|yV<|qK<|jA 1 u<|qC<|qR u u kk [] d
abbrev zXj:=@Cn.mk 124 0 _ @zPh
theorem zVt{y0:Int}{y1:List (List Int)}{y2:zNr}: zP qd prog 73 [vi y0,sv p1 y1 c1,.agg (z7q y2 p2 c2 p3 c3).toArray] [] (Rl (zT (zB .i64)) p1 c1 y1::(z7p y2 p2 c2 p3 c3 [])) (zNx y0 y1 y2) λr K=>K (vi r) [] [] :=
 zO call73 func73 u λX=>zG<|wN .s u<|λb1=>zA 1 u<|zK<|zQ<|zG<|zA 2 u<|qW zNP u (cq [0])<|λr1 _ k=>k<|zA 1 u<|zK<|jA 2 u<|zR u (jA 2 u<|qC<|qS<|qR u u kk [] d)<|jC<|zQ<|zG<|zY 0 u<|
  qI 0 u u u<|zK<|zR u (zQ<|qA<|
  z1c (λK=>K [1,5] [] [0,1,2] [(16,vb ((decide (0<(len y2.2.2)))||((len y2.2.1) != y0)))] []) (wQ<|zY 2 u<|qI 0 u u u<|
  zA 3 u<|xO (b:=decide (0<(len y2.2.2))) 21 u (λhb1=>zA 5 u<|zV (vb true)<|zA 1 u<|qN<|yG 16 (vb ((decide (0<(len y2.2.2)))||((len y2.2.1) != y0))) u (by rw[hb1];rfl)<|qB (gv kk [0] (gq [0,1,2]))
  )<|λhb1=>zY 1 u<|qI 0 u u u<|zA 3 u<|zV (vb ((len y2.2.1) != y0))<|zA 1 u<|qN<|yG 16 (vb ((decide (0<(len y2.2.2)))||((len y2.2.1) != y0))) u (by rw[hb1];rfl)<|qB (gv kk [0] (gq [0,1,2])))<|λ_ k=>
  k<|zR u (jA 1 u<|qC<|yC<|qS<|qS<|qR u u kk [] d)<|zG<|zA 1 u<|zY 1 u<|qI 0 u u u<|qW zPh u (cq [0,1])<|λr2 _ k=>k<|zA 2 u<|zK<|zR u (jA 1 u<|qC<|yC<|qS<|qS<|
  qR u u kk [] d)<|vF<|wT<|qK<|jA 1 u<|qC<|qS<|qR u u kk [] d)<|jC<|zQ<|qA<|zG<|zY 1 u<|qI 0 u u u<|zA 3 u<|zK<|zR u (jA 1 u<|qC<|yC<|qS<|qR u u kk [] d)<|zG<|
  zY 2 u<|qI 0 u u u<|zA 3 u<|zK<|zR u (jA 1 u<|qC<|yC<|qS<|qR u u kk [] d)<|zG<|zA 1 u<|zY 2 u<|qI 0 u u u<|qW zSj u (cq [0,2])<|λr3 _ k=>k<|zA 2 u<|zK<|zR u (
  jA 1 u<|qC<|yC<|qS<|qR u u kk [] d)<|vF<|wT<|qK<|jA 1 u<|qC<|qR u u kk [] d
abbrev z3S:=@Cn.mk 73 0 _ @zVt
theorem zCN{y0:zAY}{y1:List Int}: zP qd prog 67 [pt b1 0,sv p2 y1 c2] [bx b1 128 [vi y0.1,sv p1 y0.2 c1],r_1] [Al (zT (zB .i64)) 22 r_1 p1 c1 y0.2,Rl (zB .i64) p2 c2 y1] (zBA y0 y1) λr K=>∀ p3 c3 r_2,K (.tuple #[]) [bx b1 128 [vi y0.1,sv p3 r c3],r_2] [Al (zT (zB .i64)) 22 r_2 p3 c3 r] :=
 zO call67 func67 u λX=>
 au
abbrev zSJ:=@Cn.mk 67 0 _ @zCN
theorem zCb{y0:zAY}{y1:Int}: wR qd prog 65 [pt b1 0,vi y1] [bx b1 128 (zPl y0 p1 c1)] (zQZ y0 p1 c1 []) (zBJ y0 y1) λL r K=>K (vi r) L [] :=
 zO call65 func65 u λX=>
 au
abbrev zTm:=@Cn.mk 65 0 _ @zCb
theorem zCV{y0:zAY}{y1:Int}: wR qd prog 114 [pt b1 0,vi y1] [bx b1 128 (zPl y0 p1 c1)] (zQZ y0 p1 c1 []) (zAz y0 y1) λL r K=>K (vi r) L [] :=
 zO call114 func114 u λX=>
 au
abbrev zSl:=@Cn.mk 114 0 _ @zCV
theorem zSC{y0:zAY}{y1:qE}{y2:Int}{y3:Bool}: zP qd prog 66 [pt b1 0,.agg (vQ y1 p2 c2).toArray,vi y2,vb y3] [bx b1 128 [vi y0.1,sv p1 y0.2 c1],r_1] [Al (zT (zB .i64)) 22 r_1 p1 c1 y0.2,Rl wE p2 c2 y1.2,Pt (vC 64 (zB .u8)) 4 0 vV] (zFW y0 y1 y2 y3) λr K=>∀ p3 c3 r_2,K (.tuple #[]) [bx b1 128 [vi y0.1,sv p3 r c3],r_2] [Al (zT (zB .i64)) 22 r_2 p3 c3 r] :=
 zO call66 func66 u λX=>zG<|wN .s u<|λb2=>zK<|zG<|wU 2 2 u u u<|zA 1 u<|qW zGi u (cq [1,2])<|λr1 _ k p3 c3=>k<|zA 1 u<|zK<|zG<|zA 3 u<|qD .s [0] [1] zCb u u u ⟨cl 1 1,d⟩<|λr2 _ k=>k<|
  zA 3 u<|qD .s [0] [1] zCV u u u ⟨cl 1 1,d⟩<|λr3 _ k=>k<|zA 1 u<|yH .s (e:=zB .i64) 3 [vi (zH ((0:Int)-r2)),vi (zH ((0:Int)-r3))] ([zH (0-r2),zH (0-r3)]:List Int) (rC vI (rC vI rN))<|λp4 c4=>
  qD .s [0,1] [] zCN u u u (cq [2,0])<|λr4 _ k p5 c5 r_2=>k<|zK<|zG<|zA 2 u<|qD .s [0] [1] zCb u u u ⟨cl 1 0,d⟩<|λr5 _ k=>k<|
  jbo .s (e:=zB .i64) 3 [vi r5] ([r5]:List Int) (rC vI rN)<|λr_3 p6 c6=>jbo .s (e:=zB .i64) 3 [] ([]:List Int) rN<|λr_4 p7 c7=>zA 2 u<|zK<|
  wF (λs1 K=>∀ p8 c8 r_5 p9 c9 r_6 p10 c10 r_7,K [0,2,3,8] [(0,bx b1 128 [vi y0.1,sv p10 s1.2.2 c10]),(1,r_7),(2,[]),(3,r_5),(4,r_6)] [4,7] [(9,sv p8 s1.1 c8),(10,sv p9 s1.2.1 c9)] [Al (zB .i64) 3 r_5 p8 c8 s1.1,Al (zB .i64) 3 r_6 p9 c9 s1.2.1,Al (zT (zB .i64)) 22 r_7 p10 c10 s1.2.2]) (
  jA 3 u<|qA<|
  wO (λs2 K=>∀ p11 c11 r_8 p12 c12 r_9 p13 c13 r_10,K [0,2,3,8,34,35] [(0,bx b1 128 [vi y0.1,sv p13 s2.2.2.2 c13]),(1,r_10),(2,[]),(3,r_8),(4,r_9)] [4,7] [(9,sv p11 s2.1 c11),(10,sv p12 s2.2.1 c12),(36,vi s2.2.2.1)] [Al (zB .i64) 3 r_8 p11 c11 s2.1,Al (zB .i64) 3 r_9 p12 c12 s2.2.1,Al (zT (zB .i64)) 22 r_10 p13 c13 s2.2.2.2]) (gv (λ_ k=>k p6 c6 r_3 p7 c7 r_4 p5 c5 r_2) [0,1,902,3,4] (gq [1,0,2,4,7]))<|
  λs2 _ k p11 c11 r_8 p12 c12 r_9 p13 c13 r_10=>k<|jA 1 u<|zQ<|zR u (jC<|zQ<|qA<|zG<|yD 3 u u u<|λx1 b3 o1=>yN false oI (gk 0) u<|zA 1 u<|zK<|zG<|zA 3 u<|
  qD .s [0] [1] zCb u u u ⟨cl 1 3,d⟩<|λr6 _ k=>k<|zA 3 u<|qD .s [0] [1] zCV u u u ⟨cl 1 3,d⟩<|λr7 _ k=>k<|
  yH .s (e:=zB .i64) 3 [vi (zH ((0:Int)-r6)),vi r7] ([zH (0-r6),r7]:List Int) (rC vI (rC vI rN))<|λp14 c14=>qD .s [0,1] [] zCN u u u (cq [4,0])<|λr8 _ k p15 c15 r_11=>k<|zK<|wQ<|zA 3 u<|
  qD .s [0] [1] zCV u u u ⟨cl 1 0,d⟩<|λr9 _ k=>k<|zA 1 u<|yH .s (e:=zB .i64) 3 [vi (zH ((0:Int)-r9))] ([zH (0-r9)]:List Int) (rC vI rN)<|λp16 c16=>uB .s 3 4 u (gk 0) u u<|λx2 r_12 p17 c17=>
  zA 3 u<|qD .s [0] [1] zCb u u u ⟨cl 1 2,d⟩<|λr10 _ k=>k<|yH .s (e:=zB .i64) 3 [vi r10] ([r10]:List Int) (rC vI rN)<|λp18 c18=>uB .s 4 7 u (gk 0) u u<|λx3 r_13 p19 c19=>zA 2 u<|qN<|wT<|
  qK<|jB 2 u<|vG (gv (λ_ k=>k p17 c17 r_12 p19 c19 r_13 p15 c15 r_11) [0,1,902,3,4] (gq [2,0,4,10,11])))<|yX<|yR<|yQ<|yV<|qB (gv (λ_ k=>k p11 c11 r_8 p12 c12 r_9 p13 c13 r_10) [0,1,902,3,4] (gq [0,1,2,3,4])))<|
  λs1 _ k p8 c8 r_5 p9 c9 r_6 p10 c10 r_7=>k<|zG<|zA 2 u<|uQ 3 0 u u<|qD .s [0,1] [] zCN u u u (cq [3,0])<|λr11 _ k p20 c20 r_14=>k<|zK<|
  wF (λs3 K=>∀ p21 c21 r_15,K [0,2,3,10] [(0,bx b1 128 [vi y0.1,sv p21 s3 c21]),(1,r_15)] [3,6] [] [Al (zT (zB .i64)) 22 r_15 p21 c21 s3]) (
  jA 3 u<|qA<|
  wO (λs4 K=>∀ p22 c22 r_16,K [0,2,3,10,67,68] [(0,bx b1 128 [vi y0.1,sv p22 s4.2 c22]),(1,r_16)] [3,5,6] [(69,vi s4.1)] [Al (zT (zB .i64)) 22 r_16 p22 c22 s4.2]) (gv (λ_ k=>k p20 c20 r_14) [0,1,902,903,4] (gq [0,3,5,6]))<|
  λs4 _ k p22 c22 r_16=>k<|jA 1 u<|zQ<|zR u (jC<|zQ<|qA<|zG<|yD 2 u u u<|λx4 b4 o2=>yN false oI (gk 0) u<|zA 1 u<|zK<|wQ<|zA 3 u<|qD .s [0] [1] zCb u u u ⟨cl 1 1,d⟩<|λr12 _ k=>k<|
  zA 3 u<|qD .s [0] [1] zCV u u u ⟨cl 1 1,d⟩<|λr13 _ k=>k<|yH .s (e:=zB .i64) 3 [vi (zH ((0:Int)-r12)),vi r13] ([zH (0-r12),r13]:List Int) (rC vI (rC vI rN))<|λp23 c23=>
  qD .s [0,1] [] zCN u u u (cq [2,0])<|λr14 _ k p24 c24 r_17=>k<|qN<|wT<|qK<|jB 2 u<|vG (gv (λ_ k=>k p24 c24 r_17) [0,1,902,903,4] (gq [0,4,5,6])))<|yX<|yR<|yQ<|yV<|
  qB (gv (λ_ k=>k p22 c22 r_16) [0,1,902,903,4] (gq [0,1,3])))<|λs3 _ k p21 c21 r_15=>k<|zG<|zA 4 u<|qD .s [0] [1] zCV u u u ⟨cl 1 0,d⟩<|λr15 _ k=>k<|zA 1 u<|
  yH .s (e:=zB .i64) 3 [vi (zH ((0:Int)-r15))] ([zH (0-r15)]:List Int) (rC vI rN)<|λp25 c25=>uB .s 4 2 u (gk 0) u u<|λx5 r_18 p26 c26=>uQ 4 0 u u<|qD .s [0,1] [] zCN u u u (cq [3,0])<|
  λr16 _ k p27 c27 r_19=>k<|zK<|jA 1 u<|zR u (wQ<|zA 3 u<|qD .s [0] [1] zCb u u u ⟨cl 1 0,d⟩<|λr17 _ k=>k<|zA 2 u<|qD .s [0] [1] zCV u u u ⟨cl 1 0,d⟩<|λr18 _ k=>k<|
  yH .s (e:=zB .i64) 3 [vi r17,vi r18] ([r17,r18]:List Int) (rC vI (rC vI rN))<|λp28 c28=>qD .s [0,1] [] zCN u u u (cq [1,0])<|λr19 _ k p29 c29 r_20=>k<|qN<|jrn<|
  yM u lN (λ_ k=>k p29 c29 r_20) [0,1] (gq [0]))<|vF<|jrn<|yM u lN (λ_ k=>k p27 c27 r_19) [0,1] (gq [0])
abbrev zRt:=@Cn.mk 66 0 _ @zSC
attribute [instance] zIf zHQ zXj z3S zSJ zTm zSl zRt
theorem zR3{y0:qE}{y1:Int}{y2:Int}: zP qd prog 28 [.agg (vQ y0 p1 c1).toArray,vi y1,vi y2] [] [Rl wE p1 c1 y0.2,Pt (vC 64 (zB .u8)) 4 0 vV] (zIS y0 y1 y2) λr K=>∀ p2 c2,K (.tuple #[vi r.1,sv p2 r.2.1 c2,vi r.2.2]) [] [Rl (zT (zB .i64)) p2 c2 r.2.1] :=
 zO call28 func28 u λX=>zG<|wN .s u<|λb1=>zA 3 u<|zK<|zQ<|zG<|wU 0 2 u u u<|zA 1 u<|qW zOV u (cq [0])<|λr1 _ k=>k<|zA 1 u<|zK<|jA 2 u<|zR u (
 au
)<|jC<|zG<|zY 0 u<|qI 0 u u u<|zV (.agg #[vi y0.1,.slice none 0 0])<|yU (zT (zB .i64)) 22<|hD 18 [] [0,2] (.l [0,1,2,3,4,5,6,7,8,9] .e)<|hI 2 6 1 (λ(s1:Int) K=>K [1,3,10] [] [1,0,2] [(11,vi s1)] [])<|hI 1 8 1 (λ(s2:Bool) K=>K [1,3,10,11,26] [] [1,0,2] [(27,vb s2)] [])<|hI 1 12 1 (λ(s3:(List (List Int))) K=>∀ p2 c2 r_1,K [3,10,11] [(1,.r r_1),(2,.c [(1,sv p2 s3 c2)])] [0,2] [] [Al (zT (zB .i64)) 22 r_1 p2 c2 s3])<|hI 0 13 1 (λ(s4:Int×(List (List Int))) K=>∀ p3 c3 r_2,K [1,3,10,11,35] [(1,.r r_2),(2,.c [(1,sv p3 s4.2 c3)])] [0,2] [(36,vi s4.1)] [Al (zT (zB .i64)) 22 r_2 p3 c3 s4.2])<|
 au
abbrev zY1:=@Cn.mk 28 0 _ @zR3
theorem zQD{y0:qE}{y1:Int}{y2:Int}{y3:zHy}: zP qd prog 32 [.agg (vQ y0 p1 c1).toArray,vi y1,vi y2,.agg (zSn y3 p2 c2 p3 c3 p4 c4).toArray] [] (Rl wE p1 c1 y0.2::(zSV y3 p2 c2 p3 c3 p4 c4 [Pt (vC 64 (zB .u8)) 4 0 vV])) (zMO y0 y1 y2 y3) λr K=>K (vi r) [] [] :=
 zO call32 func32 u λX=>zG<|wN .s u<|λb1=>wN .s u<|λb2=>zA 1 u<|zK<|zQ<|
  z1c (λK=>K [1,2,4,7] [] [0,1,2,3,4] [(21,vb ((decide (0<(len y3.2.2.1)))||(decide (0<(len y3.2.1)))))] []) (wQ<|
  zY 2 u<|qI 1 u u u<|zA 3 u<|xO (b:=decide (0<(len y3.2.2.1))) 16 u (λhb1=>zA 4 u<|zV (vb true)<|qN<|yG 21 (vb ((decide (0<(len y3.2.2.1)))||(decide (0<(len y3.2.1))))) u (by rw[hb1];rfl)<|
  qB (gv kk [0,1] (gq [0,1,2,3,4])))<|λhb1=>zY 1 u<|qI 1 u u u<|zA 2 u<|zV (vb (decide (0<(len y3.2.1))))<|qN<|yG 21 (vb ((decide (0<(len y3.2.2.1)))||(decide (0<(len y3.2.1))))) u (by rw[hb1];rfl)<|
  qB (gv kk [0,1] (gq [0,1,2,3,4])))<|λ_ k=>k<|zR u (jA 1 u<|qC<|qS<|qR u u kk [] d)<|jC<|zG<|wU 0 2 u u u<|zA 2 u<|qW zR3 u (cq [0,4])<|λr1 _ k p5 c5=>k<|zA 7 u<|zK<|
  zQ<|zG<|zA 2 u<|zY 3 u<|qI 1 u u u<|zV (.agg #[vb false,.slice none 0 0,sv p4 y3.2.2.2 c4])<|qW zVt u ⟨ck 0,cn,ck 4,d⟩<|λr2 _ k=>k<|zA 1 u<|zK<|zR u (jA 1 u<|qC<|qS<|
  qR u u kk [] d)<|jC<|jA 1 u<|qC<|qR u u kk [] d
abbrev zXZ:=@Cn.mk 32 0 _ @zQD
theorem zOd{y0:qE}{y1:Int}{y2:Int}{y3:zHy}: zP qd prog 8 [.agg (vQ y0 p1 c1).toArray,vi y1,vi y2,.agg (zSn y3 p2 c2 p3 c3 p4 c4).toArray] [] (Rl wE p1 c1 y0.2::(zSV y3 p2 c2 p3 c3 p4 c4 [Pt (vC 64 (zB .u8)) 4 0 vV])) (zEU y0 y1 y2 y3) λr K=>K (vi r) [] [] :=
 zO call8 func8 u λX=>zG<|wN .s u<|λb1=>wN .s u<|λb2=>zA 1 u<|zK<|zQ<|zG<|wU 0 2 u u u<|zA 1 u<|qW zOV u (cq [0])<|λr1 _ k=>k<|zA 1 u<|zK<|jA 2 u<|zR u (jA 2 u<|qC<|qS<|qR u u kk [] d)<|
  jC<|jA 1 u<|zQ<|jA 1 u<|qA<|jA 2 u<|zR u (jB 1 u<|wT<|qK<|zG<|zA 1 u<|wU 0 2 u u u<|zA 2 u<|wU 1 4 u u u<|qD .s [] [] zR6 u u u (cq [0,1,2,3,4])<|λr2 _ k=>k<|zA 1 u<|zK<|qC<|
  qR u u kk [] d)<|wF (λs2 K=>K [1,2,4,7] [] [0,1,2,3,4] [(20,vb s2)] []) (jA 2 u<|zR u (vF<|qB (gv kk [0,1] (gq [0,1,2,3,4])))<|jA 2 u<|
  zR u (vF<|qB (gv kk [0,1] (gq [0,1,2,3,4])))<|jB 2 u<|qB (gv kk [0,1] (gq [0,1,2,3,4])))<|λs2 _ k=>k<|zR u (jA 1 u<|zG<|zY 0 u<|qI 1 u u u<|zA 2 u<|zV (vb (y3.1==(y1 != 3)))<|zK<|
  zR u (jB 1 u<|wT<|qK<|zG<|zA 1 u<|wU 0 2 u u u<|zA 2 u<|wU 1 4 u u u<|qD .s [] [] zOy rfl u u (cq [0,1,2,3,4])<|λr3 _ k=>k<|zA 1 u<|zK<|qC<|qR u u kk [] d)<|vF<|wT<|
  qK<|zG<|zA 1 u<|wU 0 2 u u u<|zA 2 u<|wU 1 4 u u u<|qD .s [] [] zQD u u u (cq [0,1,2,3,4])<|λr4 _ k=>k<|zA 1 u<|zK<|qC<|qR u u kk [] d)<|jA 1 u<|qC<|yC<|qS<|
  qR u u kk [] d
abbrev zZc:=@Cn.mk 8 0 _ @zOd
theorem zYw{y0:qE}: zP qd prog 27 [.agg (vQ y0 p1 c1).toArray] [] [Rl wE p1 c1 y0.2,Pt (vC 64 (zB .u8)) 4 0 vV] (zNN y0) λr K=>∀ p2 c2,K (sv p2 r c2) [] [Rl (zB .i64) p2 c2 r] :=
 zO call27 func27 u λX=>
 au
abbrev zYm:=@Cn.mk 27 0 _ @zYw
theorem zMF{y0:uI}{y1:Int}: wR qd prog 192 [pt b1 0,vi y1] [bx b1 136 [sv p1 y0.1 c1,sv p2 y0.2.1 c2,.map (some b2),sv p3 y0.2.2.2.1 c3,vi (a4 y0).1,vb (a5 y0)],r_1] [Rl (zB .i64) p1 c1 y0.1,Rl (zT (zB .i64)) p2 c2 y0.2.1,Ma (λx:zD=>vs x) (λx:Int=>vi x) r_1 b2 y0.2.2.1,Rl xD p3 c3 y0.2.2.2.1] (zDw y0 y1) λL r K=>K (vi r) L [] :=
 zO call192 func192 u λX=>
 au
abbrev zRi:=@Cn.mk 192 0 _ @zMF
attribute [instance] zY1 zXZ zZc zYm zRi
theorem zLW{y0:uI}: wR qd prog 117 [pt b1 0] [bx b1 136 [sv p1 y0.1 c1,sv p2 y0.2.1 c2,.map (some b2),sv p3 y0.2.2.2.1 c3,vi (a4 y0).1,vb (a5 y0)],r_1] [Rl (zB .i64) p1 c1 y0.1,Rl (zT (zB .i64)) p2 c2 y0.2.1,Ma (λx:zD=>vs x) (λx:Int=>vi x) r_1 b2 y0.2.2.1,Rl xD p3 c3 y0.2.2.2.1] (zEy y0) λL r K=>K (vi r) L [] :=
 zO call117 func117 u λX=>hI 0 2 1 (λ(s1:Int) K=>K [0,11,12] [] [1,0,2,3] [(13,vi s1)] [])<|hI 0 6 1 (λ(s2:Int×Int) K=>K [0,11,12,13,17,18] [] [2,0,3,4,5] [(5,vi s2.1),(19,vi s2.2)] [])<|
 au
abbrev zQl:=@Cn.mk 117 0 _ @zLW
theorem zKs{y0:zD}: zP False prog 270 [pt b1 0] [r_1] [Bdr 300 5 r_1 b1 y0] (zLD y0) λr K=>K (vs r) [[]] []:=lib_bstr Go.Proofs.Tryz.lays169 Go.Proofs.Tryz.Builder_Extra_169 call270
abbrev zQd:=@Cn.mk 270 0 _ @zKs
attribute [instance] zQl zQd
theorem zOF{y0:zD}: zP qd prog 314 [pt b1 0] [r_1] [Bdr 300 5 r_1 b1 y0] (some ()) λ_ K=>∀ r_2,K (.tuple #[]) [r_2] [Bdr 300 5 r_2 b1 y0]:=(lib_chk (ρ:=Go.Proofs.Tryz.lays156_ren) { Go.Proofs.Tryz.lays156 with } Go.Proofs.Tryz.Builder_Extra_156.toX72 (by kernel_rfl) call314)
theorem zOL{qd:Prop}{y0:zD}{y1:Int}: zP qd prog 269 [pt b1 0,.int .u8 y1] [r_1] [Bdr 300 5 r_1 b1 y0] (zD1 y0 y1) λr K=>∀ r_2,K .nilIface [r_2] [Bdr 300 5 r_2 b1 r.2] :=
 zO call269 func269 u λX=>zG<|zA 1 u<|zK<|zG<|zA 1 u<|qD .s [0] [] zOF u u u ⟨ck 0,d⟩<|λ_ _ k r_2=>k<|zK<|zG<|jBo 0 0 u<|λpv p2 c2 r_3=>zA 3 u<|zY 1 u<|qI 0 u u u<|zA 1 u<|
  yH .s (e:=zB .u8) 5 [.int .u8 y1] [y1] (rC vI rN)<|λp3 c3=>jwb .s 1 1 u (gk 0) u u<|λr_4 p4 c4=>zA 1 u<|zY 1 u<|wJ .s 0 u u u<|jBc 0 1 0 3 u u u u<|
 au
theorem zIT{y0:zD}{y1:zD}: zP False prog 268 [pt b1 0,vs y1] [r_1] [Bdr 300 5 r_1 b1 y0] (zCx y0 y1) λr K=>∀ r_2,K (.tuple #[vi r.1,.nilIface]) [r_2] [Bdr 300 5 r_2 b1 r.2.2]:=lib_wstr { Go.Proofs.Tryz.lays156 with } Go.Proofs.Tryz.Builder_Extra_156 (by kernel_rfl) call268
abbrev zNa:=@Cn.mk 268 0 _ @zIT
theorem z08{y0:List Int}: zP False prog 196 [sv p1 y0 c1] [] [Rl (zB .i64) p1 c1 y0,Tb prog "internal/strconv.uint64pow10" .u64 Lib.pow10Tab] (zRQ y0) λr K=>K (vs r) [] [] :=
 zO call196 func196 u λX=>jA 1 u<|zG<|yB .s (.agg #[.pointer none,.slice none 0 0])<|λb1=>jbq 300 5 b1<|zK<|wF (λs1 K=>∀ r_1,K [3] [(0,r_1)] [2] [] [Bdr 300 5 r_1 b1 s1]) (jA 3 u<|
  qA<|
  wO (λs2 K=>∀ r_2,K [3,6,7] [(0,r_2)] [1,2] [(8,vi s2.1)] [Bdr 300 5 r_2 b1 s2.2]) (gv (λ_ k=>k (bx b1 300 [.pointer none,.slice none 0 0])) [0] (gq [0,1,2]))<|
  λs2 _ k r_2=>k<|jA 1 u<|zQ<|zR u (jC<|zQ<|qA<|zG<|yD 1 u u u<|λx1 b2 o1=>yN false oI (gk 0) u<|zA 1 u<|zK<|zG<|zA 1 u<|qW zK1 u (cq [3])<|λr1 _ k=>k<|
  qD .s [0] [] zIT u u u (cq [1])<|λr2 _ k r_3=>k<|zK<|wQ<|qD .s [0] [] zOL u u u (cq [0])<|λr3 _ k r_4=>k<|qN<|wT<|qK<|jB 2 u<|
  vG (gv (λ_ k=>k r_4) [0] (gq [0,4,5])))<|yX<|yR<|yQ<|yV<|qB (gv (λ_ k=>k r_2) [0] (gq [0,2])))<|λs1 _ k r_1=>k<|zG<|qD .s [0] [] zKs u u u (cq [0])<|λr4 _ k=>k<|zA 1 u<|zK<|qC<|
  qR u u kk [] d
abbrev z6M:=@Cn.mk 196 0 _ @z08
attribute [instance] zNa z6M
set_option maxHeartbeats 2000000 in
theorem zME{y0:uI}{y1:Int}{y2:Int}{y3:Int}: zP False prog 120 [pt b1 0,vi y1,vi y2,vi y3] [bx b1 136 [sv p1 y0.1 c1,sv p2 y0.2.1 c2,.map (some b2),sv p3 y0.2.2.2.1 c3,vi (a4 y0).1,vb (a5 y0)],r_1,r_2,r_3,r_4] [Al (zB .i64) 3 r_1 p1 c1 y0.1,Al (zT (zB .i64)) 22 r_2 p2 c2 y0.2.1,Ma (λx:zD=>vs x) (λx:Int=>vi x) r_3 b2 y0.2.2.1,Al xD 248 r_4 p3 c3 y0.2.2.2.1,Tb prog "internal/strconv.uint64pow10" .u64 Lib.pow10Tab] (zCn y0 y1 y2 y3) λr K=>∀ p4 c4 r_5 b3 r_6 p5 c5 r_7,K (vi r.1) [bx b1 136 [sv p1 y0.1 c1,sv p4 r.2.1 c4,.map (some b3),sv p5 r.2.2.2.1 c5,vi (a4 y0).1,vb (a4 r)],r_1,r_5,r_6,r_7] [Al (zT (zB .i64)) 22 r_5 p4 c4 r.2.1,Ma (λx:zD=>vs x) (λx:Int=>vi x) r_6 b3 r.2.2.1,Al xD 248 r_7 p5 c5 r.2.2.2.1] :=
 zO call120 func120 u λX=>jA 1 u<|wF (λs1 K=>K [0] [] [0,1,2,3,4] [(1,vi s1.1),(2,vi s1.2.1),(3,vi s1.2.2)] []) (
 au
)<|λs1 _ k=>k<|xA [] [0,2] 21<|zW 19 [0,1] u<|qU 2 1 u u<|wV 3 0 u u u u<|zW 16 [4] u<|
  jdI 5 1 u u u u<|λx1 h1 b3 o1 hp1=>tU 6 2 1 sI false oL u u hp1 h1 u<|λp4 c4=>zW 12 [7,8] u<|qU 9 1 u u<|wV 10 0 u u u u<|zW 9 [11] u<|jdI 12 2 u u u u<|λx2 h2 b4 o2 hp2=>
  tU 13 2 2 sI false oL u u hp2 h2 u<|λp5 c5=>zW 6 [14] u<|qO 15<|qD (.f u) [] [] zOR u u u (cq [1,0])<|λr1 _ k p6 c6=>k<|qM<|zW 0 [16,17,18,19,20] u<|qY<|qK<|zQ<|
  z1c (λK=>K [0,1,2,3,9] [] [0,3,4,5,6,7] [(48,vb ((!r1.2)||((len y0.2.2.2.1)==20000)))] []) (
 au
)<|λ_ k=>k<|zR u (
 au
)<|jC<|zG<|zA 1 u<|qW z08 u (cq [0,5])<|λr2 _ k=>k<|zA 1 u<|zK<|zQ<|
  zG<|zA 2 u<|zY 2 u<|qI 0 u u u<|zA 1 u<|jmG .s (k:=r2) 3 3 0 Tryz.key134 u u u<|zA 5 u<|zK<|
  z1c (λK=>K [0,1,2,3,9,11,12] [] [0,1,2,3,4,5] [(68,vb ((Option.isSome (xU y0.2.2.1 r2))&&(decide (0<(len r1.1)))))] []) (
 au
)<|λ_ k=>k<|zR u (
 au
)<|jC<|zG<|zA 3 u<|zY 3 u<|qI 0 u u u<|zA 3 u<|
  zV (.agg #[vi s1.1,vi s1.2.1,vi s1.2.2])<|yH .s (e:=xD) 248 [vi s1.1,vi s1.2.1,vi s1.2.2] ([(s1.1,s1.2.1,s1.2.2)]:List yT) (rC (vP vI (vP vI vI)) rN)<|λp7 c7=>uB .s 4 5 u (gk 0) u u<|λx3 r_5 p8 c8=>
  zA 1 u<|zY 3 u<|wJ .s 0 u u u<|zK<|zG<|zA 3 u<|zY 1 u<|qI 0 u u u<|zA 1 u<|yH .s (e:=zT (zB .i64)) 22 [sv p6 r1.1 c6] ([r1.1]:List (List Int)) (rC (vL (gk 2)) rN)<|λp9 c9=>
  uB .s 2 5 u (gk 0) u u<|λx4 r_6 p10 c10=>zA 1 u<|zY 1 u<|wJ .s 0 u u u<|zK<|xA [] [0] 12<|zW 10 [0,1] u<|qU 2 2 u u<|wV 3 0 u u u u<|zW 5 [4,5,6] u<|qU 7 1 u u<|
  wV 8 0 u u u u<|zW 1 [9,10] u<|qO 11<|jmp (.f u) (k:=r2) (v:=zH ((len x4)-1)) 3 7 Tryz.key134 u u u u<|λr_7=>qM<|qY<|
 au
abbrev zRx:=@Cn.mk 120 0 _ @zME
theorem zMo{y0:uI}: wR qd prog 116 [pt b1 0] [bx b1 136 [sv p1 y0.1 c1,sv p2 y0.2.1 c2,.map (some b2),sv p3 y0.2.2.2.1 c3,vi (a4 y0).1,vb (a5 y0)],r_1] [Rl (zB .i64) p1 c1 y0.1,Rl (zT (zB .i64)) p2 c2 y0.2.1,Ma (λx:zD=>vs x) (λx:Int=>vi x) r_1 b2 y0.2.2.1,Rl xD p3 c3 y0.2.2.2.1] (zFv y0) λL r K=>K (.tuple #[vi r.1,vi r.2]) L [] :=
 zO call116 func116 u λX=>jA 2 u<|jcs<|jA 2 u<|zQ<|jlb<|qK<|zQ<|zG<|zA 2 u<|zY 1 u<|qI 0 u u u<|zA 2 u<|zK<|qA<|
  wO (λs1 K=>K [0,15,16] [] [1,0,2,3] [(4,vi s1.1),(5,vi s1.2.1),(17,vi s1.2.2)] []) (gv kk [0,1] (gq [1,0,2,3]))<|
  λs1 _ k=>k<|jA 1 u<|zQ<|zR u (jC<|zQ<|qA<|zG<|zA 1 u<|yD 0 u u u<|λx1 b3 o1=>yN false oL (gk 0) u<|λp4 c4=>zA 2 u<|zK<|jA 1 u<|
  jjoK (λs2 K=>K [0,4,5,6,15,16,17] [] [2,3,4,5] [(8,vi s2)] []) (jA 3 u<|qA<|
  wO (λs3 K=>K [0,4,5,6,15,16,17,22,23] [] [2,0,3,4,5] [(8,vi s3.1),(24,vi s3.2)] []) (gv kk [0,1] (gq [2,0,3,4,5]))<|λs3 _ k=>
  k<|jA 1 u<|zQ<|zR u (jC<|zQ<|qA<|zG<|yD 1 u u u<|λx2 b4 o2=>yN false oI (gk 0) u<|zA 1 u<|zK<|zG<|zA 2 u<|qD .s [0,1] [] zMF u u u (cq [3,1,4,5])<|λr1 _ k=>k<|zA 1 u<|zK<|qA<|
  wF (λs4 K=>K [0,4,5,6,8,10,11,15,16,17,22,23,24] [] [1,2,3,4,5] [(31,vb s4)] []) (jA 3 u<|zR u (vF<|
  qB (gv kk [0,1] (gq [1,2,3,4,5])))<|
  jjqK (λK=>K [0,4,5,6,8,10,11,15,16,17,22,23,24] [] [1,2,3,4,5] [(31,vb ((r1==0)&&(s3.1 != 0)))] []) (wQ<|zA 3 u<|
  xO (b:=r1==0) 36 u (λhb1=>zA 2 u<|zV (vb (s3.1 != 0))<|zA 1 u<|qN<|yG 31 (vb ((r1==0)&&(s3.1 != 0))) u (by rw[hb1];rfl)<|qB (gv kk [0,1] (gq [1,2,3,4,5])))<|λhb1=>zA 2 u<|zV (vb false)<|
  zA 1 u<|qN<|yG 31 (vb ((r1==0)&&(s3.1 != 0))) u (by rw[hb1];rfl)<|qB (gv kk [0,1] (gq [1,2,3,4,5])))<|λ_ k=>k<|qB (gv kk [0,1] (gq [0,1,2,3,4])))<|λs4 _ k=>k<|zR u (yX<|jbm<|jbm<|yR<|yQ<|jbm<|
  yQ<|yV<|qK<|jB 2 u<|vG (gv kk [0,1] (gq [0,2,3,4])))<|jA 3 u<|zR u (jB 2 u<|wT<|wT<|qK<|jB 2 u<|vG (gv kk [0,1] (gq [0,1,2,3,4])))<|vF<|wT<|wT<|qK<|jB 2 u<|
  vG (gv kk [0,1] (gq [0,1,2,3,4])))<|yX<|yR<|yQ<|yV<|vG (gv kk [0,1] (gq [0,2,3,4])))<|λs2 _ k=>k<|zQ<|jA 2 u<|zR u (jA 3 u<|qC<|qS<|yC<|qS<|tF<|yC<|qS<|jcr<|
  yM u (lT u (lT u lN)) kk [0,1] d)<|jC<|jA 2 u<|zR u (jB 4 u<|wT<|qK<|jB 2 u<|vG (gv kk [0,1] (gq [0,1,2,3])))<|vF<|wT<|qK<|jB 2 u<|vG (gv kk [0,1] (gq [0,1,2,3])))<|yX<|yR<|yQ<|
  yV<|qK<|jA 4 u<|qC<|jcr<|yM u (lT u (lT u lN)) kk [0,1] d
abbrev zS6:=@Cn.mk 116 0 _ @zMo
theorem zKG{y0:uI}{y1:Int}{y2:Int}: zP qd prog 193 [pt b1 0,vi y1,vi y2] [bx b1 136 [sv p1 y0.1 c1,sv p2 y0.2.1 c2,.map (some b2),sv p3 y0.2.2.2.1 c3,vi (a4 y0).1,vb (a5 y0)],r_1,r_2,r_3,r_4] [Al (zB .i64) 3 r_1 p1 c1 y0.1,Al (zT (zB .i64)) 22 r_2 p2 c2 y0.2.1,Ma (λx:zD=>vs x) (λx:Int=>vi x) r_3 b2 y0.2.2.1,Al xD 248 r_4 p3 c3 y0.2.2.2.1] (zEr y0 y1 y2) λr K=>∀ p4 c4 r_5,K (.tuple #[]) [bx b1 136 [sv p4 r c4,sv p2 y0.2.1 c2,.map (some b2),sv p3 y0.2.2.2.1 c3,vi (a4 y0).1,vb (a5 y0)],r_5,r_2,r_3,r_4] [Al (zB .i64) 3 r_5 p4 c4 r] :=
 zO call193 func193 u λX=>wF (λs1 K=>K [0] [] [0,1,2,3] [(1,vi s1.1),(2,vi s1.2)] []) (
 au
)<|λs1 _ k=>k<|wQ<|zA 2 u<|zY 0 u<|qI 0 u u u<|zA 3 u<|jia 0 u u u<|λx1 h1 b3 o1 hp1=>jsA .s 1 0 sI s1.2 false u hp1 h1 u u vI<|λr_5=>qN<|jrn<|
  jbL (λq_=>[bx b1 136 [.slice p1 q_ c1,sv p2 y0.2.1 c2,.map (some b2),sv p3 y0.2.2.2.1 c3,vi (a4 y0).1,vb (a5 y0)],r_5,r_2,r_3,r_4]) (gk 0) u<|
 au
abbrev zTo:=@Cn.mk 193 0 _ @zKG
theorem zKW (k:Nat):
    (∀ {y0:uI} {b1:Nat} {p1:Option Addr} {c1:Nat} {r_1:zJ} {p2:Option Addr} {c2:Nat} {r_2:zJ} {b2:Nat} {r_3:zJ} {p3:Option Addr} {c3:Nat} {r_4:zJ},zP False prog 70 [pt b1 0] [bx b1 136 [sv p1 y0.1 c1,sv p2 y0.2.1 c2,.map (some b2),sv p3 y0.2.2.2.1 c3,vi (a4 y0).1,vb (a5 y0)],r_1,r_2,r_3,r_4] [Al (zB .i64) 3 r_1 p1 c1 y0.1,Al (zT (zB .i64)) 22 r_2 p2 c2 y0.2.1,Ma (λx:zD=>vs x) (λx:Int=>vi x) r_3 b2 y0.2.2.1,Al xD 248 r_4 p3 c3 y0.2.2.2.1,Tb prog "internal/strconv.uint64pow10" .u64 Lib.pow10Tab] (zAC k y0) λr K=>∀ p4 c4 r_5 p5 c5 r_6 b3 r_7 p6 c6 r_8,K (vi r.1) [bx b1 136 [sv p4 r.2.1 c4,sv p5 r.2.2.1 c5,.map (some b3),sv p6 (a4 r).1 c6,vi (a5 r).1,vb (a6 r)],r_5,r_6,r_7,r_8] [Al (zB .i64) 3 r_5 p4 c4 r.2.1,Al (zT (zB .i64)) 22 r_6 p5 c5 r.2.2.1,Ma (λx:zD=>vs x) (λx:Int=>vi x) r_7 b3 r.2.2.2.1,Al xD 248 r_8 p6 c6 (a4 r).1]) ∧
    (∀ {y0:uI} {b1:Nat} {p1:Option Addr} {c1:Nat} {r_1:zJ} {p2:Option Addr} {c2:Nat} {r_2:zJ} {b2:Nat} {r_3:zJ} {p3:Option Addr} {c3:Nat} {r_4:zJ} {y1:Int},zP False prog 118 [pt b1 0,vi y1] [bx b1 136 [sv p1 y0.1 c1,sv p2 y0.2.1 c2,.map (some b2),sv p3 y0.2.2.2.1 c3,vi (a4 y0).1,vb (a5 y0)],r_1,r_2,r_3,r_4] [Al (zB .i64) 3 r_1 p1 c1 y0.1,Al (zT (zB .i64)) 22 r_2 p2 c2 y0.2.1,Ma (λx:zD=>vs x) (λx:Int=>vi x) r_3 b2 y0.2.2.1,Al xD 248 r_4 p3 c3 y0.2.2.2.1,Tb prog "internal/strconv.uint64pow10" .u64 Lib.pow10Tab] (zAB k y0 y1) λr K=>∀ p4 c4 r_5 p5 c5 r_6 b3 r_7 p6 c6 r_8,K (vi r.1) [bx b1 136 [sv p4 r.2.1 c4,sv p5 r.2.2.1 c5,.map (some b3),sv p6 (a4 r).1 c6,vi (a5 r).1,vb (a6 r)],r_5,r_6,r_7,r_8] [Al (zB .i64) 3 r_5 p4 c4 r.2.1,Al (zT (zB .i64)) 22 r_6 p5 c5 r.2.2.1,Ma (λx:zD=>vs x) (λx:Int=>vi x) r_7 b3 r.2.2.2.1,Al xD 248 r_8 p6 c6 (a4 r).1]):=by
  induction k with
  | zero=>exact⟨con0 call70,con0 call118⟩
  | succ k ih =>
    obtain⟨ih_proof_search_find_2,ih_proof_search_under_4⟩:=ih
    have zMy:=@Cn.mk 70 0 _ (@ih_proof_search_find_2)
    have zMG:=@Cn.mk 118 0 _ (@ih_proof_search_under_4)
    exact⟨@λy0 b1 p1 c1 r_1 p2 c2 r_2 b2 r_3 p3 c3 r_4=>zO (m1:=zBX (zAC k) (zAB k) y0) call70 func70 u λX=>jA 1 u<|wF (λs1 K=>K [0] [(0,bx b1 136 [sv p1 y0.1 c1,sv p2 y0.2.1 c2,.map (some b2),sv p3 y0.2.2.2.1 c3,vi s1.1,vb s1.2])] [0,1,2,3,4] [] []) (
  zG<|zA 2 u<|zY 4 u<|qI 0 u u u<|zA 2 u<|zY 4 u<|wJ .s 0 u u u<|zK<|zG<|zA 2 u<|zY 4 u<|qI 0 u u u<|zA 1 u<|zK<|zR u (wQ<|zA 2 u<|zY 5 u<|wJ .s 0 u u u<|qN<|
  qB (gv kk [0,1,2,3,4] (gq [0,1,2,3,4])))<|vF<|qB (gv kk [0,1,2,3,4] (gq [0,1,2,3,4])))<|λs1 _ k=>k<|zQ<|zG<|zA 2 u<|zY 5 u<|qI 0 u u u<|zK<|zR u (jA 1 u<|qC<|qS<|
  qR u u (λ_ k=>k p1 c1 r_1 p2 c2 r_2 b2 r_3 p3 c3 r_4) [0,1,2,3,4] (gq [0,1,2,3]))<|jC<|zG<|zA 1 u<|qD .s [0,3] [1,2,4] zMo u u u ⟨cl 1 0,cl 2 1,ck 2,cl 4 3,d⟩<|λr1 _ k=>k<|zA 5 u<|zK<|zQ<|
  z1c (λK=>K [0,3,4] [] [0,1,2,3,4] [(35,vb ((decide (0≤r1.1))&&(r1.2==0)))] []) (wQ<|zA 3 u<|xO (b:=decide (0≤r1.1)) 32 u (λhb1=>
  zA 2 u<|zV (vb (r1.2==0))<|qN<|yG 35 (vb ((decide (0≤r1.1))&&(r1.2==0))) u (by rw[hb1];rfl)<|qB (gv kk [0,1,2,3,4] (gq [0,1,2,3,4])))<|λhb1=>zA 2 u<|zV (vb false)<|qN<|
  yG 35 (vb ((decide (0≤r1.1))&&(r1.2==0))) u (by rw[hb1];rfl)<|qB (gv kk [0,1,2,3,4] (gq [0,1,2,3,4])))<|λ_ k=>k<|zR u (jA 2 u<|qC<|qS<|
  qR u u (λ_ k=>k p1 c1 r_1 p2 c2 r_2 b2 r_3 p3 c3 r_4) [0,1,2,3,4] (gq [0,1,2,3]))<|jC<|jjoK (λs2 K=>K [0,3] [] [0,1,2,3,4] [(4,vi s2)] []) (jA 2 u<|zR u (zG<|zA 1 u<|
  qD .s [0,3] [1,2,4] zLW u u u ⟨cl 1 0,cl 2 1,ck 2,cl 4 3,d⟩<|λr2 _ k=>k<|zA 1 u<|zK<|jA 2 u<|zR u (jA 1 u<|qC<|tF<|
  qR u u (λ_ k=>k p1 c1 r_1 p2 c2 r_2 b2 r_3 p3 c3 r_4) [0,1,2,3,4] (gq [0,1,2,3]))<|vF<|vG (gv kk [0,1,2,3,4] (gq [0,1,2,3,4])))<|vF<|vG (gv kk [0,1,2,3,4] (gq [0,1,2,3,4])))<|λs2 _ k=>k<|zG<|zA 2 u<|
  qD .s [0,1,2,3,4] [] ih_proof_search_under_4 u u u (cq [0,1,2,3,4])<|λr3 _ k p4 c4 r_5 p5 c5 r_6 b3 r_7 p6 c6 r_8=>k<|zA 1 u<|zK<|zQ<|
  wF (λs3 K=>K [0,3,4,5] [] [0,1,2,3,8] [(66,vb s3)] []) (wQ<|zA 3 u<|uO 48 u (zA 4 u<|zV (vb true)<|zA 12 u<|zV (vb true)<|qN<|
  qB (gv kk [0,1,2,3,4] (gq [0,1,2,3,8])))<|zA 2 u<|zY 5 u<|qI 0 u u u<|zV (vb (a6 r3))<|zA 1 u<|uO 54 u (zA 11 u<|zV (vb true)<|qN<|qB (gv kk [0,1,2,3,4] (gq [0,1,2,3,8])))<|zA 2 u<|
  zY 1 u<|qI 0 u u u<|zA 1 u<|jia 1 u u u<|λx1 h1 b4 o1 hp1=>jlA 2 1 sI false oL u hp1 h1 u<|λp7 c7=>zA 2 u<|qW zFw u (cq [0])<|λr4 _ k=>k<|zA 1 u<|zV (vb (!r4))<|qN<|
  qB (gv kk [0,1,2,3,4] (gq [1,2,3,4,9])))<|λs3 _ k=>k<|zR u (jA 2 u<|qC<|qS<|qR u u (λ_ k=>k p4 c4 r_5 p5 c5 r_6 b3 r_7 p6 c6 r_8) [0,1,2,3,4] (gq [0,1,2,3]))<|jC<|
  jjoK (λs4 K=>∀ p8 c8 r_9 p9 c9 r_10 b5 r_11 p10 c10 r_12,K [0,4,5] [(0,bx b1 136 [sv p8 s4.2.1 c8,sv p9 s4.2.2.1 c9,.map (some b5),sv p10 (a4 s4).1 c10,vi (a5 s4).1,vb (a6 s4)]),(1,r_9),(2,r_10),(3,r_11),(4,r_12)] [4] [(3,vi s4.1)] [Al (zB .i64) 3 r_9 p8 c8 s4.2.1,Al (zT (zB .i64)) 22 r_10 p9 c9 s4.2.2.1,Ma (λx:zD=>vs x) (λx:Int=>vi x) r_11 b5 s4.2.2.2.1,Al xD 248 r_12 p10 c10 (a4 s4).1]) (
  jA 2 u<|zR u (zG<|zA 3 u<|qD .s [0,1,2,3,4] [] ih_proof_search_under_4 u u u (cq [0,1,2,3,4])<|λr5 _ k p11 c11 r_13 p12 c12 r_14 b6 r_15 p13 c13 r_16=>k<|zA 1 u<|zK<|
  wF (λs5 K=>K [0,3,4,5] [] [0,1,2,3,8] [(93,vb s5)] []) (wQ<|zA 3 u<|uO 76 u (zA 4 u<|zV (vb true)<|zA 11 u<|zV (vb true)<|qN<|
  qB (gv kk [0,1,2,3,4] (gq [0,1,2,3,8])))<|zA 2 u<|zY 5 u<|qI 0 u u u<|zV (vb (a6 r5))<|zA 1 u<|uO 82 u (zA 10 u<|zV (vb true)<|qN<|qB (gv kk [0,1,2,3,4] (gq [0,1,2,3,8])))<|zA 2 u<|
  zY 1 u<|qI 0 u u u<|zA 1 u<|jia 1 u u u<|λx2 h2 b7 o2 hp2=>jlA 2 1 sI false oL u hp2 h2 u<|λp14 c14=>zA 1 u<|qW zFw u (cq [0])<|λr6 _ k=>k<|zA 1 u<|zV (vb (!r6))<|qN<|
  qB (gv kk [0,1,2,3,4] (gq [1,2,3,4,9])))<|λs5 _ k=>k<|zR u (jA 2 u<|qC<|tF<|qR u u (λ_ k=>k p11 c11 r_13 p12 c12 r_14 b6 r_15 p13 c13 r_16) [0,1,2,3,4] (gq [0,1,2,3]))<|vF<|
  vG (gv (λ_ k=>k p11 c11 r_13 p12 c12 r_14 b6 r_15 p13 c13 r_16) [0,1,2,3,4] (gq [0,1,2,3,4])))<|vF<|vG (gv (λ_ k=>k p4 c4 r_5 p5 c5 r_6 b3 r_7 p6 c6 r_8) [0,1,2,3,4] (gq [0,1,2,3,4])))<|
  λs4 _ k p8 c8 r_9 p9 c9 r_10 b5 r_11 p10 c10 r_12=>k<|zG<|zA 4 u<|qD .s [0,1,2,3,4] [] zME u u u (cq [0,1,2,3,4])<|λr7 _ k p15 c15 r_17 b8 r_18 p16 c16 r_19=>k<|zA 1 u<|zK<|qC<|
  qR u u (λ_ k=>k p8 c8 r_9 p15 c15 r_17 b8 r_18 p16 c16 r_19) [0,1,2,3,4] (gq [3,0,1,2]),
    @λy0 b1 p1 c1 r_1 p2 c2 r_2 b2 r_3 p3 c3 r_4 y1=>zO (m1:=zCD (zAC k) (zAB k) y0 y1) call118 func118 u λX=>jA 1 u<|zG<|zA 2 u<|qD .s [0,1,2,3,4] [] zKG u u u (cq [0,1,2,3])<|λr1 _ k p4 c4 r_5=>k<|zK<|zG<|zA 1 u<|qD .s [0,1,2,3,4] [] ih_proof_search_find_2 u u u (cq [0,2,3,4,5])<|
  λr2 _ k p5 c5 r_6 p6 c6 r_7 b3 r_8 p7 c7 r_9=>k<|zA 1 u<|zK<|zQ<|
  z1c (λK=>K [0,1,5] [] [0,1,2,3,9] [(18,vb ((decide (0≤r2.1))||(a6 r2)))] []) (wQ<|zA 3 u<|
  xO (b:=decide (0≤r2.1)) 13 u (λhb1=>zA 4 u<|zV (vb true)<|qN<|yG 18 (vb ((decide (0≤r2.1))||(a6 r2))) u (by rw[hb1];rfl)<|qB (gv kk [0,1,2,3,4] (gq [0,1,2,3,9])))<|λhb1=>zA 2 u<|zY 5 u<|
  qI 0 u u u<|zV (vb (a6 r2))<|qN<|yG 18 (vb ((decide (0≤r2.1))||(a6 r2))) u (by rw[hb1];rfl)<|qB (gv kk [0,1,2,3,4] (gq [0,1,2,3,9])))<|λ_ k=>k<|zR u (wQ<|zA 2 u<|
  qD .s [0,1,2,3,4] [] zKG u u u (cq [0,1,2,3])<|λr3 _ k p8 c8 r_10=>k<|qN<|qK<|jA 2 u<|qC<|qR u u (λ_ k=>k p8 c8 r_10 p6 c6 r_7 b3 r_8 p7 c7 r_9) [0,1,2,3,4] (gq [0,2,3,4]))<|jC<|jA 2 u<|qC<|
  qR u u (λ_ k=>k p5 c5 r_6 p6 c6 r_7 b3 r_8 p7 c7 r_9) [0,1,2,3,4] (gq [0,1,2,3])⟩
theorem zMq{y0:uI}: zP False prog 70 [pt b1 0] [bx b1 136 [sv p1 y0.1 c1,sv p2 y0.2.1 c2,.map (some b2),sv p3 y0.2.2.2.1 c3,vi (a4 y0).1,vb (a5 y0)],r_1,r_2,r_3,r_4] [Al (zB .i64) 3 r_1 p1 c1 y0.1,Al (zT (zB .i64)) 22 r_2 p2 c2 y0.2.1,Ma (λx:zD=>vs x) (λx:Int=>vi x) r_3 b2 y0.2.2.1,Al xD 248 r_4 p3 c3 y0.2.2.2.1,Tb prog "internal/strconv.uint64pow10" .u64 Lib.pow10Tab] (zFu y0) λr K=>∀ p4 c4 r_5 p5 c5 r_6 b3 r_7 p6 c6 r_8,K (vi r.1) [bx b1 136 [sv p4 r.2.1 c4,sv p5 r.2.2.1 c5,.map (some b3),sv p6 (a4 r).1 c6,vi (a5 r).1,vb (a6 r)],r_5,r_6,r_7,r_8] [Al (zB .i64) 3 r_5 p4 c4 r.2.1,Al (zT (zB .i64)) 22 r_6 p5 c5 r.2.2.1,Ma (λx:zD=>vs x) (λx:Int=>vi x) r_7 b3 r.2.2.2.1,Al xD 248 r_8 p6 c6 (a4 r).1]:=zUQ λk=>(zKW k).1
abbrev zMy:=@Cn.mk 70 0 _ @zMq
theorem zRr{y0:uI}{y1:Int}: zP False prog 118 [pt b1 0,vi y1] [bx b1 136 [sv p1 y0.1 c1,sv p2 y0.2.1 c2,.map (some b2),sv p3 y0.2.2.2.1 c3,vi (a4 y0).1,vb (a5 y0)],r_1,r_2,r_3,r_4] [Al (zB .i64) 3 r_1 p1 c1 y0.1,Al (zT (zB .i64)) 22 r_2 p2 c2 y0.2.1,Ma (λx:zD=>vs x) (λx:Int=>vi x) r_3 b2 y0.2.2.1,Al xD 248 r_4 p3 c3 y0.2.2.2.1,Tb prog "internal/strconv.uint64pow10" .u64 Lib.pow10Tab] (zRs y0 y1) λr K=>∀ p4 c4 r_5 p5 c5 r_6 b3 r_7 p6 c6 r_8,K (vi r.1) [bx b1 136 [sv p4 r.2.1 c4,sv p5 r.2.2.1 c5,.map (some b3),sv p6 (a4 r).1 c6,vi (a5 r).1,vb (a6 r)],r_5,r_6,r_7,r_8] [Al (zB .i64) 3 r_5 p4 c4 r.2.1,Al (zT (zB .i64)) 22 r_6 p5 c5 r.2.2.1,Ma (λx:zD=>vs x) (λx:Int=>vi x) r_7 b3 r.2.2.2.1,Al xD 248 r_8 p6 c6 (a4 r).1]:=zUQ λk=>(zKW k).2
abbrev zMG:=@Cn.mk 118 0 _ @zRr
end Go.Proofs.YtgjdojihimkgcaaGreatDoor
