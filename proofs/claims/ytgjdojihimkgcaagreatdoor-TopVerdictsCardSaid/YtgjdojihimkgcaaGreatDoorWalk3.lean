/- A part. Conditions: none. -/
import Derived.Test.YtgjdojihimkgcaaGreatDoorWalk2
namespace Go.Proofs.YtgjdojihimkgcaaGreatDoor
open Go Go.GD Go.Proofs.Tryz
set_option autoImplicit false
set_option linter.unusedVariables false
set_option maxRecDepth 100000
set_option linter.defProp false
variable {qd:Prop}
variable {yl1:Nat}{p1 p2 p3 p4 p5 p6 p7 p8 p9:Option Addr}{c1 c2 c3 c4 c5 c6 c7 c8 c9:Nat}{b1 b2 b3 b4 b5 b6 b7 b8 b9 b10 b11:Nat}{r_1 r_2 r_3 r_4 r_5 r_6 r_7 r_8:zJ}
theorem zSR{y0:List zI}{y1:List zI}: zP qd prog 9 [sv p1 y0 c1,sv p2 y1 c2] [] [Rl qT p1 c1 y0,Rl qT p2 c2 y1] (zMj y0 y1) λr K=>K (vb r) [] [] :=
 zO call9 func9 u λX=>jA 1 u<|zQ<|jA 5 u<|zR u (jA 1 u<|qC<|qS<|qR u u kk [] d)<|jC<|zQ<|jA 1 u<|qA<|wO (λs1 K=>K [0,1] [] [0,1] [(5,vi s1)] []) (gv kk [] (gq [0,1]))<|
  λs1 _ k=>k<|zQ<|jA 4 u<|zR u (jC<|zQ<|qA<|xA [] [] 9<|zW 7 [0,1] u<|jdi 2 0 u u u u<|λx1 b1 o1=>tZ 3 true tA u (gk 0) u<|zW 3 [4,5] u<|jdi 6 2 u u u u<|λx2 b2 o2=>
  tZ 7 true tA u (gk 0) u<|vK 8 (vb (!(x1==x2))) u<|qY<|qK<|zR u (jA 1 u<|qC<|yC<|qS<|tF<|yC<|qS<|qR u u kk [] d)<|vF<|wT<|qK<|jB 3 u<|vG (gv kk [] (gq [2,3])))<|yX<|yR<|yQ<|
  yV<|qK<|jA 1 u<|qC<|qR u u kk [] d
abbrev z4f:=@Cn.mk 9 0 _ @zSR
theorem zEw{y0:xB}: wR qd prog 91 [pt b1 0] [bx b1 160 (zIp y0 p1 c1 p2 c2 p3 c3 p4 c4 p5 c5)] (zIj y0 p1 c1 p2 c2 p3 c3 p4 c4 p5 c5 []) (zBr y0) λL r K=>K (vb r) L [] :=
 zO call91 func91 u λX=>hD 1 [] [0] (.l [0,1,2,3,4,5,6,7,8,9,10,11,12] .e)<|
 au
abbrev zQw:=@Cn.mk 91 0 _ @zEw
theorem zTg{y0:List Int}: zP qd prog 234 [sv p1 y0 c1] [r_1] [Al (zB .i64) 3 r_1 p1 c1 y0] (zAq y0) λr K=>∀ p2 c2,K (sv p2 r c2) [[]] [Rl (zB .i64) p2 c2 r] :=
 zO call234 func234 u λX=>jA 1 u<|zQ<|jA 3 u<|zR u (
 au
)<|jC<|zQ<|jA 1 u<|qA<|
  wO (λs1 K=>K [0] [] [0] [(3,vi s1)] []) (gv kk [0] (gq [0]))<|λs1 _ k=>k<|zQ<|jA 4 u<|zR u (jC<|zQ<|qA<|xA [] [0] 10<|zW 8 [0,1] u<|
  jdI 2 0 u u u u<|λx1 h1 b1 o1 hp1=>tU 3 0 0 sI false oI u u hp1 h1 u<|zW 3 [4,5,6] u<|jdI 7 0 u u u u<|λx2 h2 b2 o2 hp2=>tU 8 0 0 sI false oI u u hp2 h2 u<|zW 0 [9] u<|qY<|qK<|zR u (zG<|
  zA 2 u<|jsV 0 u u u<|λu1 p2 c2 f1=>zA 1 u<|zK<|
  jjn (λs2 K=>∀ r_2,K [(0,.slice p1 (List.length y0) c1),(3,vi s2.2)] [r_2] [Ar (zB .i64) 3 r_2 p1 c1 (List.length y0) s2.1]) (
  jA 1 u<|qA<|
  wO (λs3 K=>∀ r_3,K [4] [(0,r_3)] [] [(0,.slice p1 (List.length y0) c1),(3,vi s3.2.1),(5,vi s3.2.2)] [Ar (zB .i64) 3 r_3 p1 c1 (List.length y0) s3.1]) (gv (λ_ k=>k r_1) [0] (gq [0]))<|
  λs3 _ k r_3=>k<|zQ<|jA 4 u<|zR u (jC<|zQ<|qA<|xA [] [0] 10<|zW 8 [0,1] u<|jdX 2 0 u u f1 u u<|λx3 b3 o3 hp3 h3=>tU 3 0 0 sI false oI u u hp3 h3 u<|zW 3 [4,5,6] u<|
  jdX 7 0 u u f1 u u<|λx4 b4 o4 hp4 h4=>tU 8 0 0 sI false oI u u hp4 h4 u<|zW 0 [9] u<|qY<|qK<|zR u (zG<|zA 4 u<|jiV 0 u f1 u u<|
 au
)<|
 au
)<|
 au
)<|λs2 _ k r_2=>k<|zG<|zA 2 u<|jsV 0 u u u<|λu2 p3 c3 f2=>jcv .s 0 0 0 (vi 0) u f2 u vI<|
 au
)<|
 au
)<|
 au
abbrev zTx:=@Cn.mk 234 0 _ @zTg
theorem zGb{y0:List Int}: zP qd prog 233 [sv p1 y0 c1] [r_1] [Al (zB .i64) 3 r_1 p1 c1 y0] (zBw y0) λr K=>∀ r_2,K (.tuple #[]) [r_2] [Ar (zB .i64) 3 r_2 p1 c1 (List.length y0) r]:=⟨call233,λA w0 r hm hO hF=>by
 have h:=sort_int (qd:=qd) Tryz.sorts233 (te:=3) hO hF.1.1 hm
 change Calls prog 233 _ _ _ at h
 refine h.mono λe w' h=>?_
 cases e with
 | returned v=>obtain⟨r',rfl,h1,h2,h3,h4⟩:=h;exact λG k=>k r' ⟨rfl,h1,h2,⟨h3,h4.symm⟩,trivial⟩
 | panicked ch=>exact h
 | outgrown=>exact h⟩
abbrev zX2:=@Cn.mk 233 0 _ @zGb
attribute [instance] z1O z4f zQw zTx zX2
theorem zUs (k:Nat):
    (∀ {y0:List zF} {p1:Option Addr} {c1:Nat} {y1:Int},zP qd prog 152 [sv p1 y0 c1,vi y1] [] [Rl wB p1 c1 y0] (zEN k y0 y1) λr K=>∀ p2 c2,K (sv p2 r c2) [] [Rl (zB .i64) p2 c2 r]):=by
  induction k with
  | zero=>exact con0 call152
  | succ k ih =>
    have ih_argument_Subs:=@ih
    have zTG:=@Cn.mk 152 0 _ (@ih_argument_Subs)
    exact @λy0 p1 c1 y1=>zO (m1:=zGf (zEN k) y0 y1) call152 func152 u λX=>jA 1 u<|zQ<|zG<|zA 2 u<|qW zMW u (cq [0])<|λr1 _ k=>k<|zA 1 u<|zK<|zR u (
 au
)<|jC<|zG<|zA 1 u<|
  jbo .s (e:=zB .i64) 3 [vi y1] ([y1]:List Int) (rC vI rN)<|λr_1 p2 c2=>zA 1 u<|zK<|
  jjn (λs1 K=>∀ p3 c3 r_2,K [(5,sv p3 s1 c3)] [r_2] [Al (zB .i64) 3 r_2 p3 c3 s1]) (hI 0 5 1 (λ(s2:(List Int)×Int) K=>∀ p5 c5 r_3,K [0,18,19] [(0,.r r_3)] [3,0] [(5,sv p5 s2.1 c5),(20,vi s2.2)] [Al (zB .i64) 3 r_3 p5 c5 s2.1])<|
 au
)<|λs1 _ k p3 c3 r_2=>k<|zG<|
  zA 1 u<|qD .s [0] [] zGb u u u (cq [0])<|λr3 _ k r_5=>k<|zK<|zG<|zA 1 u<|jrE 0 32 u u<|
 au
theorem z0u{y0:List zF}{y1:Int}: zP qd prog 152 [sv p1 y0 c1,vi y1] [] [Rl wB p1 c1 y0] (zFT y0 y1) λr K=>∀ p2 c2,K (sv p2 r c2) [] [Rl (zB .i64) p2 c2 r]:=zUQ λk=>(zUs k)
abbrev zTG:=@Cn.mk 152 0 _ @z0u
attribute [instance] zTG
theorem zST{y0:zM}{y1:List zF}{y2:Int}: zP qd prog 223 [.agg (yK y0 p1 c1 p2 c2 p3 c3).toArray,sv p4 y1 c4,vi y2] [] (yO y0 p1 c1 p2 c2 p3 c3 [Rl wB p4 c4 y1]) (zCW y0 y1 y2) λr K=>∀ p5 c5,K (sv p5 r c5) [] [Rl (zB .i64) p5 c5 r] :=
 zO call223 func223 u λX=>zG<|wN .s u<|λb1=>zA 1 u<|zK<|zG<|zA 1 u<|yU (zB .i64) 3 <|zK<|
  jjn (λs1 K=>∀ p5 c5 r_1,K [(7,sv p5 s1 c5)] [[],r_1] [Al (zB .i64) 3 r_1 p5 c5 s1]) (hI 0 3 1 (λ(s2:(List Int)×Int) K=>∀ p7 c7 r_2,K [1,3,13,14] [(1,.r r_2)] [5,0,2,3,4] [(7,sv p7 s2.1 c7),(15,vi s2.2)] [Al (zB .i64) 3 r_2 p7 c7 s2.1])<|hI 1 6 0 (λ(s3:Bool) K=>K [1,3,7,10,13,14,15] [] [3,2,4,5,6,7] [(34,vb s3)] [])<|
 au
)<|
  λs1 _ k p5 c5 r_1=>k<|zG<|zA 1 u<|qD .s [1] [] zGb u u u (cq [0])<|λr2 _ k r_4=>k<|zK<|zG<|zA 1 u<|jrE 0 42 u u<|
 au
abbrev zSI:=@Cn.mk 223 0 _ @zST
attribute [instance] zSI
theorem zWT (k:Nat):
    (∀ {y0:zM} {p1:Option Addr} {c1:Nat} {p2:Option Addr} {c2:Nat} {p3:Option Addr} {c3:Nat} {y1:List zF} {p4:Option Addr} {c4:Nat} {y2:Int},zP qd prog 222 [.agg (yK y0 p1 c1 p2 c2 p3 c3).toArray,sv p4 y1 c4,vi y2] [] (yO y0 p1 c1 p2 c2 p3 c3 [Rl wB p4 c4 y1]) (zEL k y0 y1 y2) λr K=>∀ p5 c5,K (sv p5 r c5) [] [Rl qT p5 c5 r]):=by
  induction k with
  | zero=>exact con0 call222
  | succ k ih =>
    have ih_argument_run:=@ih
    have zUN:=@Cn.mk 222 0 _ (@ih_argument_run)
    exact @λy0 p1 c1 p2 c2 p3 c3 y1 p4 c4 y2=>zO (m1:=zI2 (zEL k) y0 y1 y2) call222 func222 u λX=>hO 16<|hI 1 3 0 (λ(s1:Bool) K=>K [1,2,3,7] [] [6,1,3,4,5] [(31,vb s1)] [])<|hI 0 5 1 (λ(s2:(List zI)×Int) K=>∀ p7 c7 r_2,K [1,3,36,37] [(1,.r r_2)] [2,0,4,5,6] [(7,sv p7 s2.1 c7),(38,vi s2.2)] [Al qT 44 r_2 p7 c7 s2.1])<|
 au
theorem z1X{y0:zM}{y1:List zF}{y2:Int}: zP qd prog 222 [.agg (yK y0 p1 c1 p2 c2 p3 c3).toArray,sv p4 y1 c4,vi y2] [] (yO y0 p1 c1 p2 c2 p3 c3 [Rl wB p4 c4 y1]) (zGG y0 y1 y2) λr K=>∀ p5 c5,K (sv p5 r c5) [] [Rl qT p5 c5 r]:=zUQ λk=>(zWT k)
abbrev zUN:=@Cn.mk 222 0 _ @z1X
attribute [instance] zUN
theorem zQR{y0:zM}{y1:List zF}{y2:Int}{y3:List Int}: zP qd prog 147 [.agg (yK y0 p1 c1 p2 c2 p3 c3).toArray,sv p4 y1 c4,vi y2,sv p5 y3 c5] [] (yO y0 p1 c1 p2 c2 p3 c3 [Rl wB p4 c4 y1,Rl (zB .i64) p5 c5 y3]) (zEH y0 y1 y2 y3) λr K=>K (vb r) [] [] :=
 zO call147 func147 u λX=>hD 5 [] [0] (.l [0,1,2,4,5,6,7,8,9] (.f 3 (.f 10 .e)))<|hI 0 2 1 (λ(s1:Int) K=>K [1,2,4,11,12] [] [3,4,0,1,2] [(13,vi s1)] [])<|
 au
abbrev zXg:=@Cn.mk 147 0 _ @zQR
theorem zLa{y0:List Int}: zP qd prog 144 [sv p1 y0 c1] [] [Rl (zB .i64) p1 c1 y0] (zGA y0) λr K=>∀ p2 c2 r_1,K (sv p2 r c2) [r_1] [Al (zB .i64) 3 r_1 p2 c2 r] :=
 zO call144 func144 u λX=>jA 1 u<|zQ<|zG<|zA 1 u<|jv (λh=>z9l h u underlying22)<|zK<|jnl (m1:=some ([]:List Int)) u (gk 0) (λh=>by first|(rw[h];done)|(rw[h];rfl)|(simp[h,qF];done)) (jA 1 u<|qC<|qS<|yU (zB .i64) 3<|
  jrE 0 2 u u<|
 au
)<|hO 5<|
 au
abbrev zVk:=@Cn.mk 144 0 _ @zLa
theorem zOl{y0:Int}{y2:xB}: wR qd prog 146 [vi y0,pt b1 0] [bx b1 158 [pt b2 0],bx b2 160 (zIp y2 p1 c1 p2 c2 p3 c3 p4 c4 p5 c5)] (zIj y2 p1 c1 p2 c2 p3 c3 p4 c4 p5 c5 []) (zFf y0 y2) λL r K=>K (vb r) L [] :=
 zO call146 func146 u λX=>
 au
abbrev zOu:=@Cn.mk 146 0 _ @zOl
attribute [instance] zXg zVk zOu
theorem zCf{y0:List Int}{y2:xB}: wR qd prog 221 [sv p1 y0 c1,.func (.func 146) #[] #[pt b1 0]] [bx b1 158 [pt b2 0],bx b2 160 (zIp y2 p2 c2 p3 c3 p4 c4 p5 c5 p6 c6)] (Rl (zB .i64) p1 c1 y0::(zIj y2 p2 c2 p3 c3 p4 c4 p5 c5 p6 c6 [])) (zAL y0 y2) λL r K=>K (vi r) L [] :=
 zO call221 func221 u λX=>hI 0 2 1 (λ(s1:Int) K=>K [0,1,7] [] [0,1,2,3,4,5] [(8,vi s1)] [])<|
 au
abbrev zFr:=@Cn.mk 221 1 _ @zCf
theorem zCL{y0:List Int}{y2:xB}: wR qd prog 145 [sv p1 y0 c1,.func (.func 146) #[] #[pt b1 0]] [bx b1 158 [pt b2 0],bx b2 160 (zIp y2 p2 c2 p3 c3 p4 c4 p5 c5 p6 c6)] (Rl (zB .i64) p1 c1 y0::(zIj y2 p2 c2 p3 c3 p4 c4 p5 c5 p6 c6 [])) (zAA y0 y2) λL r K=>K (vb r) L [] :=
 zO call145 func145 u λX=>jA 1 u<|zG<|zA 2 u<|qD .s [0,1] [] zCf u u u (cq [0,1,2,3,4,5])<|λr1 _ k=>k<|zA 2 u<|zK<|qC<|qR u u kk [0,1] d
abbrev zFU:=@Cn.mk 145 1 _ @zCL
theorem zMt (k:Nat):
    (∀ {y0:xB} {b1:Nat} {p1:Option Addr} {c1:Nat} {p2:Option Addr} {c2:Nat} {p3:Option Addr} {c3:Nat} {p4:Option Addr} {c4:Nat} {r_1:zJ} {p5:Option Addr} {c5:Nat} {r_2:zJ} {y1:Int} {y2:List Int} {p6:Option Addr} {c6:Nat},zP qd prog 90 [pt b1 0,vi y1,sv p6 y2 c6] [bx b1 160 [sv p1 y0.1.1 c1,sv p2 y0.1.2.1 c2,sv p3 y0.1.2.2 c3,sv p4 y0.2.1 c4,sv p5 y0.2.2.1 c5,vi y0.2.2.2],r_1,r_2] (yO y0.1 p1 c1 p2 c2 p3 c3 [Al wB 46 r_1 p4 c4 y0.2.1,Al wB 46 r_2 p5 c5 y0.2.2.1,Rl (zB .i64) p6 c6 y2]) (zAm k y0 y1 y2) λr K=>∀ p7 c7 r_3,K (.tuple #[]) [bx b1 160 [sv p1 y0.1.1 c1,sv p2 y0.1.2.1 c2,sv p3 y0.1.2.2 c3,sv p4 y0.2.1 c4,sv p7 r c7,vi y0.2.2.2],r_1,r_3] [Al wB 46 r_3 p7 c7 r]):=by
  induction k with
  | zero=>exact con0 call90
  | succ k ih =>
    have ih_argument_builder_apply_2:=@ih
    have zKA:=@Cn.mk 90 0 _ (@ih_argument_builder_apply_2)
    exact @λy0 b1 p1 c1 p2 c2 p3 c3 p4 c4 r_1 p5 c5 r_2 y1 y2 p6 c6=>zO (m1:=zBj (zAm k) y0 y1 y2) call90 func90 u λX=>zG<|wN .s u<|λb2=>zK<|zG<|qI 3 u u u<|zA 1 u<|zY 0 u<|zY 1 u<|qI 0 u u u<|zA 1 u<|yD 1 u u u<|λx1 b3 o1=>zY 3 u<|yN false oL (gf (gs (gs (gs (gk 0))))) u<|λp7 c7=>zA 1 u<|zK<|zQ<|
  zG<|qI 3 u u u<|qD .s [0] [1,2] zEw u u u ⟨ck 2,ck 3,ck 4,cl 1 5,cl 2 6,d⟩<|λr1 _ k=>k<|zK<|zR u (qC<|qS<|yM u lN (λ_ k=>k p5 c5 r_2) [0,1,2] (gq [6]))<|jC<|
  jjoK (λs1 K=>K [1,2,3] [] [7,2,3,4,5,6] [] []) (jA 5 u<|zR u (zQ<|zG<|qI 3 u u u<|zA 1 u<|zY 3 u<|qI 0 u u u<|zA 2 u<|zK<|qA<|
  wO (λs2 K=>∀ p8 c8 r_3,K [1,2,3,6,28,29] [(0,bx b1 160 [sv p1 y0.1.1 c1,sv p2 y0.1.2.1 c2,sv p3 y0.1.2.2 c3,sv p4 y0.2.1 c4,sv p8 s2.2 c8,vi y0.2.2.2]),(2,r_3)] [7,0,5,2,3,4] [(30,vi s2.1)] [Al wB 46 r_3 p8 c8 s2.2]) (gv (λ_ k=>k p5 c5 r_2) [0,1,2,3] (gq [6,7,0,5,2,3,4]))<|
  λs2 _ k p8 c8 r_3=>k<|jA 1 u<|zQ<|zR u (jC<|zQ<|qA<|zG<|zA 1 u<|jia 3 u u u<|λx2 h1 b4 o2 hp1=>jlA 1 3 sI true zT7 u hp1 h1 u<|λp9 c9=>yB .s (.agg k6)<|
  λb5=>zA 1 u<|wJ .s 4 u u u<|zK<|xA [] [4] 8<|qU 0 3 u u<|xE 1 4 2 u u u u<|zW 3 [2,3,4] u<|jdi 5 3 u u u u<|λx3 b6 o3=>tZ 6 true tA u (gk 0) u<|
  vK 7 (vb (x2.2.2.2==x3)) u<|qY<|qK<|zR u (
  jjcK (λs3 K=>∀ p10 c10 r_4,K [1,2,3,6,28,29,30] [(0,bx b1 160 [sv p1 y0.1.1 c1,sv p2 y0.1.2.1 c2,sv p3 y0.1.2.2 c3,sv p4 y0.2.1 c4,sv p10 s3 c10,vi y0.2.2.2]),(2,r_4),(4,[])] [3,4,5,6,7,8] [] [Al wB 46 r_4 p10 c10 s3]) (
  tM [] [3] 8<|wV 0 3 u u u u<|zW 4 [1,2,4] u<|jd2 3 5 (qD (.f u) [] [] zLa u u u (cq [3])<|λr2 _ k p11 c11 r_5=>k<|qM<|qO 5<|
  yH (.f u) (e:=zB .i64) 3 [vi s2.1] ([s2.1]:List Int) (rC vI rN)<|λp12 c12=>qM<|qO 6<|uB (.f u) 5 1 u (gk 0) u u<|λx4 r_6 p13 c13=>qM<|uQ 5 0 u u<|qO 7<|
  qD (.f u) [0,1,2] [] ih_argument_builder_apply_2 u u u (cq [10,11,12,9,6,0])<|λr3 _ k p14 c14 r_7=>k<|qM<|qY<|qB (gv (λ_ k=>k p14 c14 r_7) [0,1,2,3,904] (gq [0,8,9,10,11,12,13]))) <|
  yH (.f u) (e:=zB .i64) 3 [vi s2.1] ([s2.1]:List Int) (rC vI rN)<|λp15 c15=>qM<|qO 3<|qD (.f u) [] [] zLa u u u (cq [4])<|λr4 _ k p16 c16 r_8=>k<|qM<|qO 6<|uB (.f u) 5 0 u (gk 1) u u<|
  λx5 r_9 p17 c17=>qM<|uQ 5 0 u u<|qO 7<|qD (.f u) [0,1,2] [] ih_argument_builder_apply_2 u u u (cq [10,11,12,9,6,0])<|λr5 _ k p18 c18 r_10=>k<|qM<|qY<|
  qB (gv (λ_ k=>k p18 c18 r_10) [0,1,2,3,904] (gq [0,8,9,10,11,12,13])))<|λs3 _ k p10 c10 r_4=>k<|wT<|qK<|jB 2 u<|vG (gv (λ_ k=>k p10 c10 r_4) [0,1,2,3] (gq [0,1,2,3,4,5,6])))<|vF<|wT<|qK<|jB 2 u<|
  vG (gv (λ_ k=>k p8 c8 r_3) [0,1,2,3] (gq [2,3,4,5,6,7,8])))<|yX<|yR<|yQ<|yV<|qK<|qC<|tF<|yM u lN (λ_ k=>k p8 c8 r_3) [0,1,2] (gq [0]))<|vF<|vG (gv kk [0,1,2,3] (gq [7,2,3,4,5,6])))<|λs1 _ k=>k<|
  wF (λs4 K=>K [1,2,3] [] [0,1,2,3,4,5] [(67,vb s4)] []) (tM [] [0,3] 16<|zW 14 [0,1] u<|qO 2<|
  qD (.f u) [3,0] [1,2] zCL u u u ⟨ck 0,ck 1,ck 2,ck 3,cl 1 4,cl 2 5,d⟩<|λr6 _ k=>k<|qM<|zW 12 [3] u<|uO 55 u (wV 4 3 u u u u<|zW 10 [5] u<|qU 6 0 u u<|
  xE 7 0 3 u u u u<|wV 8 3 u u u u<|zW 6 [9] u<|qU 10 3 u u<|wV 11 0 u u u u<|zW 2 [12,13] u<|qO 14<|qD (.f u) [] [1] zQR u u u ⟨ck 1,ck 2,ck 3,cl 1 4,ck 0,d⟩<|λr7 _ k=>k<|
  qM<|vK 15 (vb r7) u<|qY<|qB (gv kk [0,1,2,3] (gq [0,1,2,3,4,5])))<|zW 1 [4,5,6,7,8,9,10,11,12,13,14] u<|vK 15 (vb false) u<|qY<|qB (gv kk [0,1,2,3] (gq [0,1,2,3,4,5])))<|λs4 _ k=>k<|zR u (
  tM [21] [0,3] 22<|wV 0 3 u u u u<|wV 1 3 u u u u<|zW 19 [2] u<|qU 3 4 u u<|wV 4 0 u u u u<|zW 15 [5,6] u<|wV 7 3 u u u u<|zW 13 [8] u<|qU 9 0 u u<|qU 10 1 u u<|
  wV 11 0 u u u u<|zW 9 [12] u<|jdi 13 2 u u u u<|λx6 b7 o4=>qU 14 4 u u<|tZ 15 true tA u (gs (gs (gs (gs (gk 0))))) u<|
  vK 16 (.agg #[vi (-1),vi y1,sv p6 y2 c6,vb (a4 x6).1,vs (a5 x6)]) u<|qO 17<|
  yH (.f u) (e:=wB) 46 [vi (-1),vi y1,sv p6 y2 c6,vb (a4 x6).1,vs (a5 x6)] ([((-1),y1,y2,(a4 x6))]:List zF) (rC (vP vI (vP vI (vP (vL (gk 1)) (vP vB vS)))) rN)<|λp19 c19=>qM<|qO 18<|
  uB (.f u) 2 7 u (gk 0) u u<|λx7 r_11 p20 c20=>qM<|zW 2 [19] u<|qU 20 4 u u<|qO 21<|wJ (o:=4) (.f u) 0 u u u<|jdb [] [0,3]<|qY<|jrn<|yM u lN (λ_ k=>k p20 c20 r_11) [0,1,2] (gq [0]))<|vF<|jrn<|
  yM u lN (λ_ k=>k p5 c5 r_2) [0,1,2] (gq [5])
theorem zKB{y0:xB}{y1:Int}{y2:List Int}: zP qd prog 90 [pt b1 0,vi y1,sv p6 y2 c6] [bx b1 160 [sv p1 y0.1.1 c1,sv p2 y0.1.2.1 c2,sv p3 y0.1.2.2 c3,sv p4 y0.2.1 c4,sv p5 y0.2.2.1 c5,vi y0.2.2.2],r_1,r_2] (yO y0.1 p1 c1 p2 c2 p3 c3 [Al wB 46 r_1 p4 c4 y0.2.1,Al wB 46 r_2 p5 c5 y0.2.2.1,Rl (zB .i64) p6 c6 y2]) (zBl y0 y1 y2) λr K=>∀ p7 c7 r_3,K (.tuple #[]) [bx b1 160 [sv p1 y0.1.1 c1,sv p2 y0.1.2.1 c2,sv p3 y0.1.2.2 c3,sv p4 y0.2.1 c4,sv p7 r c7,vi y0.2.2.2],r_1,r_3] [Al wB 46 r_3 p7 c7 r]:=zUQ λk=>(zMt k)
abbrev zKA:=@Cn.mk 90 0 _ @zKB
theorem zXk{y0:qH}{y1:zD}: wR qd prog 219 [.agg (zYD y0 p1 c1).toArray,pt b1 0] [bx b1 9 [vs y1]] (z1l y0 p1 c1 []) (zMS y0 y1) λL r K=>K (vb r) L [] :=
 zO call219 func219 u λX=>
 au
abbrev zWu:=@Cn.mk 219 0 _ @zXk
attribute [instance] zFr zFU zKA zWu
theorem zJD{y0:List qH}{y1:zD}: wR qd prog 218 [sv p1 y0 c1,.func (.func 219) #[] #[pt b1 0]] [bx b1 9 [vs y1]] [Rl xV p1 c1 y0] (zA7 y0 y1) λL r K=>K (vi r) L [] :=
 zO call218 func218 u λX=>hI 0 2 1 (λ(s1:Int) K=>K [0,1,7] [] [0] [(8,vi s1)] [])<|
 au
abbrev zIw:=@Cn.mk 218 0 _ @zJD
attribute [instance] zIw
theorem z0A{y0:zM}{y1:zD}: zP qd prog 139 [.agg (yK y0 p1 c1 p2 c2 p3 c3).toArray,vs y1] [] (yO y0 p1 c1 p2 c2 p3 c3 []) (zFJ y0 y1) λr K=>K (vi r) [] [] :=
 zO call139 func139 u λX=>
 au
abbrev z00:=@Cn.mk 139 0 _ @z0A
theorem zTd{y0:vE}{y1:zI}: wR qd prog 216 [.agg (zSi y0).toArray,pt b1 0] [bx b1 44 [vb y1.1,vs y1.2]] [] (zKD y0 y1) λL r K=>K (vb r) L [] :=
 zO call216 func216 u λX=>zG<|wN .s u<|λb2=>zA 1 u<|zK<|zG<|zY 0 u<|wU 1 2 u u u<|wU 0 2 u u u<|zV (vb (y0.1==y1))<|zA 1 u<|zK<|qC<|qR u u kk [0] d
abbrev zUE:=@Cn.mk 216 0 _ @zTd
attribute [instance] z00 zUE
theorem zG2{y0:List vE}{y1:zI}: wR qd prog 215 [sv p1 y0 c1,.func (.func 216) #[] #[pt b1 0]] [bx b1 44 [vb y1.1,vs y1.2]] [Rl zCO p1 c1 y0] (zAQ y0 y1) λL r K=>K (vi r) L [] :=
 zO call215 func215 u λX=>hI 0 2 1 (λ(s1:Int) K=>K [0,1,7] [] [0] [(8,vi s1)] [])<|
 au
abbrev zGZ:=@Cn.mk 215 0 _ @zG2
attribute [instance] zGZ
theorem zWQ{y0:zM}{y1:zI}: zP qd prog 137 [.agg (yK y0 p1 c1 p2 c2 p3 c3).toArray,.agg #[vb y1.1,vs y1.2]] [] (yO y0 p1 c1 p2 c2 p3 c3 []) (zE8 y0 y1) λr K=>K (vi r) [] [] :=
 zO call137 func137 u λX=>
 au
abbrev zVW:=@Cn.mk 137 0 _ @zWQ
theorem zVS{y0:zD}: zP qd prog 217 [vs y0] [] [] (zBo y0) λr K=>K (vb r) [] [] :=
 zO call217 func217 u λX=>jA 1 u<|zQ<|z1c (λK=>K [0] [] [] [(12,vb (((len y0)==0)||(decide (12<(len y0)))))] []) (
 au
)<|λ_ k=>k<|zR u (
 au
)<|jC<|zQ<|jA 3 u<|qA<|
  wO (λs1 K=>K [0,14] [] [] [(15,vi s1)] []) (gv kk [] d)<|λs1 _ k=>k<|jA 1 u<|zQ<|zR u (jC<|zQ<|qA<|jA 2 u<|zG<|zA 2 u<|tL λx1 h1=>
  jv (λh=>r_sidx h u u underlying9 h1)<|hP 4 8 0 (λK=>K [0,3,4,14,15] [] [] [(21,vb ((decide (97≤x1))&&(decide (x1≤122))))] [])<|hP 4 9 0 (λK=>K [0,14,15] [] [] [(28,vb ((decide (0<s1))&&(if decide (48≤x1) then(decide (x1≤57))||(x1==95) else x1==95)))] [])<|
 au
)<|
 au
abbrev zUr:=@Cn.mk 217 0 _ @zVS
attribute [instance] zVW zUr
theorem z0G{y0:zI}: zP qd prog 213 [.agg #[vb y0.1,vs y0.2]] [] [] (zCP y0) λr K=>K (vb r) [] [] :=
 zO call213 func213 u λX=>
 au
abbrev z0R:=@Cn.mk 213 0 _ @z0G
theorem zWn{y0:Int}: zP qd prog 212 [vi y0] [] [] (zDz y0) λr K=>K (vb r) [] [] :=
 zO call212 func212 u λX=>hP 4 1 0 (λK=>K [] [] [] [(2,vb ((decide (0≤y0))&&(decide (y0≤9))))] [])<|
 au
abbrev zXU:=@Cn.mk 212 0 _ @zWn
theorem zWZ{y0:zD}: zP qd prog 214 [vs y0] [] [] (zFl y0) λr K=>K (vb r) [] [] :=
 zO call214 func214 u λX=>hI 1 1 0 (λ(s1:Bool) K=>K [] [] [] [(2,vb s1)] [])<|
 au
abbrev zW1:=@Cn.mk 214 0 _ @zWZ
attribute [instance] z0R zXU zW1
theorem zWR{y0:vE}: zP qd prog 136 [.agg (zSi y0).toArray] [] [] (zE4 y0) λr K=>K (vi r) [] [] :=
 zO call136 func136 u λX=>hI 2 1 1 (λ(s1:Unit) K=>K [1] [] [] [] [])<|hI 1 3 1 (λ(s2:Bool) K=>K [1,4] [] [] [(5,vb s2)] [])<|hI 1 10 0 (λ(s3:Bool) K=>K [] [(0,.r [])] [] [(26,vb s3)] [])<|
 au
abbrev zVy:=@Cn.mk 136 0 _ @zWR
theorem zTy{y0:zM}{y1:wW}: zP qd prog 140 [.agg (yK y0 p1 c1 p2 c2 p3 c3).toArray,.agg (zQk y1).toArray] [] (yO y0 p1 c1 p2 c2 p3 c3 []) (zD4 y0 y1) λr K=>K (vi r) [] [] :=
 zO call140 func140 u λX=>hI 1 1 0 (λ(s1:Bool) K=>K [2,3] [] [0,1,2] [(15,vb s1)] [])<|
 au
abbrev zTj:=@Cn.mk 140 0 _ @zTy
theorem zZ0{y0:qH}: zP qd prog 138 [.agg (zYD y0 p1 c1).toArray] [] (z1l y0 p1 c1 []) (zGz y0) λr K=>K (vi r) [] [] :=
 zO call138 func138 u λX=>hD 14 [] [0] (.l [0,1,2,3,4,5,6,7,8,9,10] (.f 11 (.l [12] .e)))<|hI 1 3 0 (λ(s1:Bool) K=>K [1] [] [0] [(34,vb s1)] [])<|hI 2 5 1 (λ(s2:Unit) K=>K [1] [] [0] [] [])<|hI 0 6 1 (λ(s3:Int) K=>K [1,36,37] [] [0] [(38,vi s3)] [])<|hI 0 12 2 (λ(s4:Int) K=>K [1] [] [0] [(5,vi s4)] [])<|
 au
abbrev zZh:=@Cn.mk 138 0 _ @zZ0
attribute [instance] zVy zTj zZh
set_option maxHeartbeats 2000000 in
theorem zKi{y0:zM}: zP qd prog 79 [.agg (yK y0 p1 c1 p2 c2 p3 c3).toArray] [] (yO y0 p1 c1 p2 c2 p3 c3 []) (zCU y0) λr K=>K (vi r) [] [] :=
 zO call79 func79 u λX=>hP 4 1 0 (λK=>K [1] [] [0,1,2] [(27,vb ((decide (16<(len y0.1)))||((decide (24<(len y0.2.1)))||(decide (8<(len y0.2.2))))))] [])<|hI 2 3 1 (λ(s1:Unit) K=>K [1] [] [0,1,2] [] [])<|hI 0 4 1 (λ(s2:Int) K=>K [1,29,30] [] [0,1,2] [(31,vi s2)] [])<|hI 2 12 1 (λ(s3:Unit) K=>K [1] [] [0,1,2] [] [])<|hI 0 13 1 (λ(s4:Int) K=>K [1,49,50] [] [1,0,2] [(51,vi s4)] [])<|hI 0 22 1 (λ(s5:Int) K=>K [1,69,70] [] [2,0,1] [(71,vi s5)] [])<|
 au
abbrev zU6:=@Cn.mk 79 0 _ @zKi
theorem zR2{y0:zM}: zP qd prog 46 [.agg (yK y0 p1 c1 p2 c2 p3 c3).toArray] [] (yO y0 p1 c1 p2 c2 p3 c3 []) (zDe y0) λr K=>∀ p4 c4,K (.tuple #[sv p4 r.1 c4,vi r.2]) [] [Rl wB p4 c4 r.1] :=
 zO call46 func46 u λX=>zG<|wN .s u<|λb1=>zA 2 u<|zK<|jcs<|zQ<|zG<|wU 0 3 u u u<|qW zKi u (cq [0,1,2])<|λr1 _ k=>k<|zA 1 u<|zK<|jA 2 u<|zR u (jA 3 u<|qC<|qS<|jcr<|
  yM u (lT u (lT u lN)) (λ_ k=>k none 0) [] ⟨gn,d⟩)<|jC<|zG<|wU 0 3 u u u<|zV (.agg #[sv p1 y0.1 c1,sv p2 y0.2.1 c2,sv p3 y0.2.2 c3,.slice none 0 0,.slice none 0 0,vi 0])<|yU wB 46<|wN .s u<|λb2=>
  zA 1 u<|zK<|
  wF (λs1 K=>∀ p4 c4 r_1,K [1,5] [(1,r_1),(2,bx b2 160 [sv p1 y0.1 c1,sv p2 y0.2.1 c2,sv p3 y0.2.2 c3,sv p4 s1 c4,.slice none 0 0,vi 0])] [1,2,3] [] [Al wB 46 r_1 p4 c4 s1]) (
  zG<|zY 0 u<|qI 0 u u u<|zA 2 u<|zK<|qA<|
  wO (λs2 K=>∀ p5 c5 r_2,K [1,5,20,21] [(1,r_2),(2,bx b2 160 [sv p1 y0.1 c1,sv p2 y0.2.1 c2,sv p3 y0.2.2 c3,sv p5 s2.2 c5,.slice none 0 0,vi 0])] [1,2,3] [(22,vi s2.1)] [Al wB 46 r_2 p5 c5 s2.2]) (gv (λ_ k=>k none 0 []) [0,1,2] (gq [0,1,2,3]))<|
  λs2 _ k p5 c5 r_2=>k<|jA 1 u<|zQ<|zR u (jC<|zQ<|qA<|zG<|zA 1 u<|yD 1 u u u<|λx1 b3 o1=>yN true z0X (gk 0) u<|yB .s (.agg k7)<|λb4=>zA 1 u<|wJ .s 3 u u u<|
  zK<|tM [13] [2,3] 14<|zW 11 [0,1,2] u<|qU 3 3 u u<|wV 4 2 u u u u<|zW 8 [5] u<|qU 6 0 u u<|xE 7 3 2 u u u u<|vK 8 (.agg #[vi s2.1,vi (-1),.slice none 0 0,vb x1.1.1,vs x1.1.2]) u<|
  qO 9<|yH (.f u) (e:=wB) 46 [vi s2.1,vi (-1),.slice none 0 0,vb x1.1.1,vs x1.1.2] ([(s2.1,(-1),([]:List Int),x1.1)]:List zF) (rC (vP vI (vP vI (vP (vL gn) (vP vB vS)))) rN)<|λp6 c6=>qM<|qO 10<|
  uB (.f u) 1 2 u (gk 0) u u<|λx2 r_3 p7 c7=>qM<|zW 2 [11] u<|qU 12 3 u u<|qO 13<|wJ (o:=3) (.f u) 2 u u u<|jdb [] [2,3]<|qY<|wT<|qK<|jB 2 u<|vG (gv (λ_ k=>k p7 c7 r_3) [0,1,2] (gq [0,4,5,6])))<|
  yX<|yR<|yQ<|yV<|qB (gv (λ_ k=>k p5 c5 r_2) [0,1,2] (gq [0,1,2,3])))<|λs1 _ k p4 c4 r_1=>k<|zQ<|jlb<|qK<|
  wF (λs3 K=>∀ p8 c8 r_4 p9 c9 r_5,K [5] [(0,[]),(1,r_4),(2,bx b2 160 [sv p1 y0.1 c1,sv p2 y0.2.1 c2,sv p3 y0.2.2 c3,sv p8 s3.1 c8,sv p9 s3.2.1 c9,vi s3.2.2]),(3,r_5)] [1,2,3] [] [Al wB 46 r_4 p8 c8 s3.1,Al wB 46 r_5 p9 c9 s3.2.1]) (
  jA 1 u<|qA<|
  wO (λs4 K=>∀ p10 c10 r_6 p11 c11,K [1,5] [(1,r_6),(2,bx b2 160 [sv p1 y0.1 c1,sv p2 y0.2.1 c2,sv p3 y0.2.2 c3,sv p10 s4.2.1 c10,sv p11 s4.2.2.1 c11,vi s4.2.2.2])] [1,2,3] [(8,vi s4.1)] [Al wB 46 r_6 p10 c10 s4.2.1,Rl wB p11 c11 s4.2.2.1]) (gv (λ_ k=>k p4 c4 r_1 none 0) [0,1,2] ⟨gk 0,gn,gk 1,gk 2,gk 3,d⟩)<|
  λs4 _ k p10 c10 r_6 p11 c11=>k<|zQ<|qA<|zG<|zA 2 u<|zY 4 u<|yU wB 46<|wJ .s 2 u u u<|zK<|
  jjoK (λs5 K=>∀ p12 c12 r_7,K [1,5,8] [(2,bx b2 160 [sv p1 y0.1 c1,sv p2 y0.2.1 c2,sv p3 y0.2.2 c3,sv p10 s4.2.1 c10,sv p12 s5 c12,vi s4.2.2.2]),(3,r_7)] [3,4,5,1] [] [Al wB 46 r_7 p12 c12 s5]) (
  zG<|zY 1 u<|qI 0 u u u<|zA 2 u<|zK<|qA<|
  wO (λs6 K=>∀ p13 c13 r_8,K [1,5,8,47,48] [(2,bx b2 160 [sv p1 y0.1 c1,sv p2 y0.2.1 c2,sv p3 y0.2.2 c3,sv p10 s4.2.1 c10,sv p13 s6.2 c13,vi s4.2.2.2]),(3,r_8)] [4,3,5,1] [(49,vi s6.1)] [Al wB 46 r_8 p13 c13 s6.2]) (gv (λ_ k=>k none 0 []) [0,1,2,3] (gq [0,4,3,5,1]))<|
  λs6 _ k p13 c13 r_8=>k<|jA 1 u<|zQ<|zR u (jC<|zQ<|qA<|zG<|zA 1 u<|yD 1 u u u<|λx3 b5 o2=>yN true z2I (gk 0) u<|λp14 c14=>yB .s (.agg k3)<|λb6=>
  zA 1 u<|wJ .s 4 u u u<|zK<|
  wF (λs7 K=>∀ p15 c15 r_9,K [1,5,8,47,48,49] [(2,bx b2 160 [sv p1 y0.1 c1,sv p2 y0.2.1 c2,sv p3 y0.2.2 c3,sv p10 s4.2.1 c10,sv p15 s7 c15,vi s4.2.2.2]),(3,r_9),(4,[])] [3,4,5,6] [] [Al wB 46 r_9 p15 c15 s7]) (
  zG<|zY 3 u<|qI 4 u u u<|zA 2 u<|zK<|zR u (wQ<|zA 2 u<|qD .s [2,1,3] [] zKB u u u ⟨ck 4,ck 3,ck 5,ck 6,ck 2,cn,d⟩<|λr2 _ k p16 c16 r_10=>k<|qN<|
  qB (gv (λ_ k=>k p16 c16 r_10) [0,1,2,3,904] (gq [0,4,5,6,7])))<|jA 2 u<|zR u (tM [13] [2,4] 14<|zW 11 [0,1,2] u<|qU 3 4 u u<|wV 4 2 u u u u<|zW 8 [5] u<|qU 6 4 u u<|
  xE 7 4 2 u u u u<|vK 8 (.agg #[vi (-1),vi s6.1,.slice none 0 0,vb (a4 x3).1,vs (a5 x3)]) u<|qO 9<|
  yH (.f u) (e:=wB) 46 [vi (-1),vi s6.1,.slice none 0 0,vb (a4 x3).1,vs (a5 x3)] ([((-1),s6.1,([]:List Int),(a4 x3))]:List zF) (rC (vP vI (vP vI (vP (vL gn) (vP vB vS)))) rN)<|λp17 c17=>qM<|
  qO 10<|uB (.f u) 3 3 u (gk 0) u u<|λx4 r_11 p18 c18=>qM<|zW 2 [11] u<|qU 12 4 u u<|qO 13<|wJ (o:=4) (.f u) 2 u u u<|jdb [] [2,4]<|qY<|qB (gv (λ_ k=>k p18 c18 r_11) [0,1,2,3,904] (gq [0,5,6,7,8])))<|
  vF<|qB (gv (λ_ k=>k p13 c13 r_8) [0,1,2,3,904] (gq [2,3,4,5,6])))<|λs7 _ k p15 c15 r_9=>k<|zG<|zA 1 u<|qD .s [2] [1,3] zEw u u u ⟨ck 2,ck 1,ck 3,cl 1 4,cl 3 0,d⟩<|λr3 _ k=>k<|zK<|zR u (yX<|
  jbm<|yR<|yQ<|jbm<|yQ<|jbm<|yR<|yQ<|yV<|qB (gv (λ_ k=>k p10 c10 r_6 p15 c15 r_9) [900,1,2,3] (gq [4,0,2,1,3])))<|vF<|wT<|qK<|jB 2 u<|vG (gv (λ_ k=>k p15 c15 r_9) [0,1,2,3] (gq [0,1,2,3,4])))<|yX<|yR<|yQ<|yV<|
  vG (gv (λ_ k=>k p13 c13 r_8) [0,1,2,3] (gq [0,2,1,3,4])))<|λs5 _ k p12 c12 r_7=>k<|zQ<|zG<|zA 2 u<|zY 4 u<|qI 2 u u u<|zA 2 u<|zK<|zR u (yX<|yR<|jbm<|yR<|yQ<|yV<|
  qB (gv (λ_ k=>k p10 c10 r_6 p12 c12 r_7) [900,1,2,3] (gq [4,0,1,2,3])))<|jC<|zG<|zA 3 u<|zY 3 u<|qI 2 u u u<|zA 2 u<|zY 5 u<|wJ .s 2 u u u<|zK<|tM [12] [2] 13<|zW 10 [0,1,2] u<|
  qU 3 3 u u<|wV 4 2 u u u u<|zW 6 [5,6] u<|qU 7 4 u u<|wV 8 2 u u u u<|qO 9<|jao (.f u) 1 3 4 0 u u u u<|λx5 r_12 p19 c19=>qM<|zW 2 [10] u<|qU 11 3 u u<|qO 12<|
  wJ (o:=3) (.f u) 2 u u u<|jdb [] [2]<|qY<|wT<|qK<|jB 3 u<|uQ 3 1 u u<|vG (gv (λ_ k=>k p19 c19 r_12 p12 c12) [0,1,2] (gq [1,0,3,4,5])))<|λs3 _ k p8 c8 r_4 p9 c9 r_5=>k<|zQ<|zG<|zA 1 u<|
  qD .s [2] [1,3] zEw u u u ⟨ck 2,ck 3,ck 4,cl 1 0,cl 3 1,d⟩<|λr4 _ k=>k<|zK<|zR u (jA 2 u<|qC<|qS<|jcr<|yM u (lT u (lT u lN)) (λ_ k=>k none 0) [] ⟨gn,d⟩)<|jC<|zG<|zA 2 u<|zY 3 u<|
  qI 2 u u u<|zA 2 u<|zK<|qC<|jcr<|uQ 1 0 u u<|yM u (lT u (lT u lN)) (λ_ k=>k p8 c8) [] (gq [0])
abbrev zY8:=@Cn.mk 46 0 _ @zR2
theorem zNk{y0:zI}: zP qd prog 232 [.agg #[vb y0.1,vs y0.2]] [] [] (zKP y0) λr K=>K (.agg #[vb r.1,vs r.2]) [] [] :=
 zO call232 func232 u λX=>
 au
abbrev zTi:=@Cn.mk 232 0 _ @zNk
theorem z1I{y0:zM}{y1:List zF}{y2:Int}{y3:Int}: zP qd prog 151 [.agg (yK y0 p1 c1 p2 c2 p3 c3).toArray,sv p4 y1 c4,vi y2,vi y3] [] (yO y0 p1 c1 p2 c2 p3 c3 [Rl wB p4 c4 y1]) (zM8 y0 y1 y2 y3) λr K=>∀ p5 c5,K (sv p5 r c5) [] [Rl (zB .i64) p5 c5 r] :=
 zO call151 func151 u λX=>zG<|wN .s u<|λb1=>zA 1 u<|zK<|zG<|zA 1 u<|yU (zB .i64) 3 <|zK<|
  wF (λs1 K=>∀ b2 b3 p5 c5,K [4,9] [(2,bx b2 44 [vb s1.1.1,vs s1.1.2]),(3,bx b3 46 (z8h s1.2 p5 c5))] [0,1,2,3] [(10,pt b2 0),(11,pt b3 0)] (z9d s1.2 p5 c5 [])) (
  tM [] [] 13<|zW 11 [0,1] u<|jdi 2 4 u u u u<|λx1 b4 o1=>qU 3 3 u u<|tZ 4 true tA u (gs (gs (gs (gk 0)))) u<|zW 6 [5,6] u<|jdi 7 5 u u u u<|λx2 b5 o2=>
  tZ 8 true zT7 u (gk 0) u<|λp6 c6=>jd2 9 10 (yB (.f u) (.agg k2)<|λb6=>qM<|qO 10<|yB (.f u) (.agg k6)<|λb7=>qM<|qO 11<|
  wJ (o:=0) (.f u) 2 u u u<|qM<|qO 12<|wJ (o:=0) (.f u) 3 u u u<|qM<|qY<|qB (gv (λ_ k=>k b6 b7 p6 c6) [0,1,2,3] (gq [0,3,4,5,6]))) <|yB (.f u) (.agg k6)<|λb8=>
  qM<|qO 9<|yB (.f u) (.agg k2)<|λb9=>qM<|qO 11<|wJ (o:=0) (.f u) 3 u u u<|qM<|qO 12<|wJ (o:=0) (.f u) 2 u u u<|qM<|qY<|qB (gv (λ_ k=>k b9 b8 p6 c6) [0,1,3,2] (gq [0,3,4,5,6])))<|
  λs1 _ k b2 b3 p5 c5=>k<|xA [] [2,3] 6<|xE 0 2 2 u u u u<|qU 1 3 u u<|xE 2 3 2 u u u u<|qO 3<|qD (.f u) [] [] zNk u u u d<|λr1 _ k=>k<|qM<|
  vK 4 (vb (s1.1==r1)) u<|zW 0 [5] u<|qY<|qK<|zQ<|qA<|zG<|zY 0 u<|qI 3 u u u<|zA 2 u<|zK<|zR u (
  wF (λs2 K=>K [9] [(0,[]),(2,[]),(3,[])] [1] [(41,vb s2)] []) (wQ<|zA 2 u<|uO 32 u (zY 0 u<|qI 0 u u u<|zY 0 u<|qI 3 u u u<|
  yD 2 u u u<|λx3 b10 o3=>zY 2 u<|yN false oI (gf (gs (gk 0))) u<|zA 1 u<|zV (vb (x3.2.1 != 1))<|qN<|qB (gv kk [900,1,902,903] (gq [2])))<|zA 8 u<|zV (vb false)<|qN<|
  qB (gv kk [900,1,902,903] (gq [1])))<|λs2 _ k=>k<|zR u (wQ<|zA 1 u<|yH .s (e:=zB .i64) 3 [vi 1] ([1]:List Int) (rC vI rN)<|λp7 c7=>uB .s 1 1 u (gk 0) u u<|λx4 r_1 p8 c8=>zA 1 u<|qN<|wT<|qK<|
  jA 2 u<|qC<|uQ 1 0 u u<|qR u u (λ_ k=>k p8 c8) [] (gq [0]))<|vF<|wT<|qK<|jA 2 u<|qC<|uQ 1 0 u u<|qR u u (λ_ k=>k none 0) [] (gq [0]))<|zG<|zY 1 u<|qI 0 u u u<|zY 1 u<|qI 3 u u u<|
  yD 3 u u u<|λx5 b11 o4=>zY 1 u<|yN false oB (gf (gs (gk 0))) u<|zA 2 u<|zK<|zR u (
  wF (λs3 K=>∀ p9 c9 r_2,K [4,10,11] [(1,r_2)] [3,4,5,1] [(9,sv p9 s3 c9)] [Al (zB .i64) 3 r_2 p9 c9 s3]) (
  jA 1 u<|zR u (wQ<|zA 1 u<|yH .s (e:=zB .i64) 3 [vi 2] ([2]:List Int) (rC vI rN)<|λp10 c10=>uB .s 1 3 u (gk 0) u u<|λx6 r_3 p11 c11=>zA 1 u<|qN<|qB (gv (λ_ k=>k p11 c11 r_3) [0,1,2,3] (gq [0,5,6,7,3])))<|
  vF<|qB (gv (λ_ k=>k none 0 []) [0,1,2,3] (gq [2,3,4,5,1])))<|λs3 _ k p9 c9 r_2=>k<|wF (λs4 K=>K [9] [(0,[]),(2,[]),(3,[])] [0] [(71,vb s4)] []) (
  tM [] [0,2,3] 14<|qU 0 0 u u<|wV 1 2 u u u u<|zW 11 [2] u<|uO 60 u (qU 3 1 u u<|wV 4 2 u u u u<|qU 5 1 u u<|wV 6 0 u u u u<|qU 7 1 u u<|wV 8 3 u u u u<|
  jdi 9 2 u u u u<|λx7 b12 o5=>qU 10 0 u u<|tZ 11 false oS u (gf (gk 0)) u<|zW 1 [12] u<|vK 13 (vb (s1.1.2==x7.1)) u<|qY<|qB (gv kk [900,1,902,903] (gq [1])))<|zW 1 [3,4,5,6,7,8,9,10,11,12] u<|
  vK 13 (vb false) u<|qY<|qB (gv kk [900,1,902,903] (gq [0])))<|λs4 _ k=>k<|zR u (wQ<|zA 1 u<|yH .s (e:=zB .i64) 3 [vi 3] ([3]:List Int) (rC vI rN)<|λp12 c12=>uB .s 1 1 u (gk 0) u u<|
  λx8 r_4 p13 c13=>zA 1 u<|qN<|wT<|qK<|jA 2 u<|qC<|uQ 1 0 u u<|qR u u (λ_ k=>k p13 c13) [] (gq [0]))<|vF<|wT<|qK<|jA 2 u<|qC<|uQ 1 0 u u<|qR u u (λ_ k=>k p9 c9) [] (gq [0]))<|vF<|wT<|qK<|
  jA 2 u<|qC<|uQ 1 2 u u<|qR u u (λ_ k=>k none 0) [] (gq [0])
abbrev z11:=@Cn.mk 151 0 _ @z1I
theorem zPG{y0:qX}{y1:qX}: zP qd prog 154 [.agg (z28 y0).toArray,.agg (z28 y1).toArray] [] [] (zE0 y0 y1) λr K=>K (vi r) [] [] :=
 zO call154 func154 u λX=>hD 1 [] [0,1] (.l [0,1,2,3,5,6,7,8,10,11,12,13,15,16,17,18] (.f 4 (.f 9 (.f 14 (.f 19 (.f 20 (.f 21 (.l [22] .e))))))))<|
 au
abbrev zVj:=@Cn.mk 154 0 _ @zPG
theorem zDc{y0:List qX}: zP qd prog 153 [sv p1 y0 c1,.func (.func 154) #[] #[]] [r_1] [Al zD2 163 r_1 p1 c1 y0] (zA0 y0) λr K=>∀ r_2,K (.tuple #[]) [r_2] [Ar zD2 163 r_2 p1 c1 (List.length y0) r]:=⟨call153,λA w0 r hm hO hF=>by
 have h:=zW2 (qd:=qd) Go.Proofs.Tryz.sort153 (uK.prod (uK.int .i64) (uK.prod (uK.int .i64) (uK.prod (uK.int .i64) (uK.int .i64)))) (te:=163) Tryz.isAgg163 Tryz.sizeOf163 zE0 154 (enters_of func154 (by kernel_rfl) u) (λw x y n hn=>?_) hO hF.1.1 hm
 · change Calls prog 153 _ _ _ at h
   refine h.mono λe w' h=>?_
   cases e with
   | returned v=>obtain⟨r',rfl,h1,h2,h3,h4⟩:=h;exact λG k=>k r' ⟨rfl,h1,h2,⟨h3,h4.symm⟩,trivial⟩
   | panicked ch=>exact h
   | outgrown=>exact h
 · refine((zPG (qd:=True) (y0:=x) (y1:=y)).go [] w n hn (zZ.start (by simp)) trivial).mono λe w' h=>?_
   cases e with
   | returned v=>exact h _ λ⟨e1,q⟩=>⟨e1,q.e⟩
   | panicked ch=>exact h
   | outgrown=>exact h⟩
abbrev zIZ:=@Cn.mk 153 0 _ @zDc
attribute [instance] zU6 zY8 zTi z11 zVj zIZ
theorem zYN{y0:zM}{y1:List zF}: zP qd prog 98 [.agg (yK y0 p1 c1 p2 c2 p3 c3).toArray,sv p4 y1 c4] [] (yO y0 p1 c1 p2 c2 p3 c3 [Rl wB p4 c4 y1]) (zFi y0 y1) λr K=>∀ p5 c5 r_1,K (sv p5 r c5) [r_1] [Al zD2 163 r_1 p5 c5 r] :=
 zO call98 func98 u λX=>zG<|wN .s u<|λb1=>zA 1 u<|zK<|zG<|zA 1 u<|yU zD2 163 <|zK<|
  jjn (λs1 K=>∀ p5 c5 r_1,K [(5,sv p5 s1 c5)] [[],r_1] [Al zD2 163 r_1 p5 c5 s1]) (hI 0 3 1 (λ(s2:(List qX)×Int) K=>∀ p6 c6 r_2,K [1,2,13] [(1,.r r_2)] [4,1,2,3] [(5,sv p6 s2.1 c6),(14,vi s2.2)] [Al zD2 163 r_2 p6 c6 s2.1])<|hI 0 6 1 (λ(s3:(List qX)×Int) K=>∀ p7 c7 r_3,K [1,2,6,13,14,18] [(1,.r r_3)] [1,2,3,4] [(5,sv p7 s3.1 c7),(19,vi s3.2)] [Al zD2 163 r_3 p7 c7 s3.1])<|hI 0 11 1 (λ(s4:(List qX)×Int) K=>∀ p9 c9 r_4,K [1,2,6,7,8,13,14,18,19,31] [(1,.r r_4)] [2,0,3,4,5] [(5,sv p9 s4.1 c9),(32,vi s4.2)] [Al zD2 163 r_4 p9 c9 s4.1])<|hI 0 15 1 (λ(s5:(List qX)×Int) K=>∀ p11 c11 r_5,K [1,2,6,7,8,9,13,14,18,19,31,32,41,42] [(1,.r r_5)] [2,3,4,5,6] [(5,sv p11 s5.1 c11),(43,vi s5.2)] [Al zD2 163 r_5 p11 c11 s5.1])<|
 au
)<|
  λs1 _ k p5 c5 r_1=>k<|zG<|zA 1 u<|qD .s [1] [] zDc u u u (cq [0])<|λr4 _ k r_7=>k<|zK<|jA 2 u<|qC<|jrE 0 4 u u<|
 au
abbrev zYs:=@Cn.mk 98 0 _ @zYN
theorem zOc{y0:List zF}{y1:Int}: zP qd prog 236 [sv p1 y0 c1,vi y1] [] [Rl wB p1 c1 y0] (zDF y0 y1) λr K=>∀ p2 c2,K (sv p2 r c2) [] [Rl (zB .i64) p2 c2 r] :=
 zO call236 func236 u λX=>jA 1 u<|zG<|zA 1 u<|yU (zB .i64) 3 <|zK<|
  jjn (λs1 K=>∀ p2 c2 r_1,K [(5,sv p2 s1 c2)] [r_1] [Al (zB .i64) 3 r_1 p2 c2 s1]) (hI 0 3 1 (λ(s2:(List Int)×Int) K=>∀ p4 c4 r_2,K [0,10,11] [(0,.r r_2)] [2,0] [(5,sv p4 s2.1 c4),(12,vi s2.2)] [Al (zB .i64) 3 r_2 p4 c4 s2.1])<|
 au
)<|λs1 _ k p2 c2 r_1=>k<|zG<|zA 1 u<|qD .s [0] [] zGb u u u (cq [0])<|λr2 _ k r_4=>k<|zK<|jA 2 u<|qC<|uQ 0 0 u u<|jre 0 4 u u<|
 au
abbrev zUu:=@Cn.mk 236 0 _ @zOc
theorem zYp{y0:Int}{y1:zM}: wR qd prog 237 [vi y0,pt b1 0] [bx b1 29 (yK y1 p1 c1 p2 c2 p3 c3)] (yO y1 p1 c1 p2 c2 p3 c3 []) (zK7 y0 y1) λL r K=>K (vb r) L [] :=
 zO call237 func237 u λX=>
 au
abbrev zY3:=@Cn.mk 237 0 _ @zYp
attribute [instance] zYs zUu zY3
theorem zE7{y0:List Int}{y1:zM}: wR qd prog 221 [sv p1 y0 c1,.func (.func 237) #[] #[pt b1 0]] [bx b1 29 (yK y1 p2 c2 p3 c3 p4 c4)] (Rl (zB .i64) p1 c1 y0::(yO y1 p2 c2 p3 c3 p4 c4 [])) (zAd y0 y1) λL r K=>K (vi r) L [] :=
 zO call221 func221 u λX=>hI 0 2 1 (λ(s1:Int) K=>K [0,1,7] [] [0,1,2,3] [(8,vi s1)] [])<|
 au
abbrev zJn:=@Cn.mk 221 2 _ @zE7
theorem zDm{y0:List Int}{y1:zM}: wR qd prog 145 [sv p1 y0 c1,.func (.func 237) #[] #[pt b1 0]] [bx b1 29 (yK y1 p2 c2 p3 c3 p4 c4)] (Rl (zB .i64) p1 c1 y0::(yO y1 p2 c2 p3 c3 p4 c4 [])) (zA2 y0 y1) λL r K=>K (vb r) L [] :=
 zO call145 func145 u λX=>jA 1 u<|zG<|zA 2 u<|qD .s [0] [] zE7 u u u (cq [0,1,2,3])<|λr1 _ k=>k<|zA 2 u<|zK<|qC<|qR u u kk [0] d
abbrev zI3:=@Cn.mk 145 2 _ @zDm
theorem z12{y0:zM}{y1:List zF}{y2:Int}: zP qd prog 155 [.agg (yK y0 p1 c1 p2 c2 p3 c3).toArray,sv p4 y1 c4,vi y2] [] (yO y0 p1 c1 p2 c2 p3 c3 [Rl wB p4 c4 y1]) (zI1 y0 y1 y2) λr K=>K (vb r) [] [] :=
 zO call155 func155 u λX=>zG<|wN .s u<|λb1=>zA 1 u<|zK<|zG<|zA 2 u<|qW zOc u (cq [3])<|λr1 _ k p5 c5=>k<|zA 1 u<|qD .s [0] [] zDm u u u (cq [0,1,2,3])<|λr2 _ k=>k<|zA 1 u<|
  zK<|qC<|qR u u kk [] d
abbrev z1G:=@Cn.mk 155 0 _ @z12
attribute [instance] zJn zI3 z1G
theorem zVE (k:Nat):
    (∀ {y0:zM} {p1:Option Addr} {c1:Nat} {p2:Option Addr} {c2:Nat} {p3:Option Addr} {c3:Nat} {y1:List zF} {p4:Option Addr} {c4:Nat} {y2:Int},zP qd prog 241 [.agg (yK y0 p1 c1 p2 c2 p3 c3).toArray,sv p4 y1 c4,vi y2] [] (yO y0 p1 c1 p2 c2 p3 c3 [Rl wB p4 c4 y1]) (zEW k y0 y1 y2) λr K=>∀ p5 c5,K (sv p5 r c5) [] [Rl (zB .i64) p5 c5 r]):=by
  induction k with
  | zero=>exact con0 call241
  | succ k ih =>
    have ih_argument_Last:=@ih
    have zTO:=@Cn.mk 241 0 _ (@ih_argument_Last)
    exact @λy0 p1 c1 p2 c2 p3 c3 y1 p4 c4 y2=>zO (m1:=zGa (zEW k) y0 y1 y2) call241 func241 u λX=>zG<|wN .s u<|λb1=>zA 1 u<|zK<|zQ<|wF (λs1 K=>K [1,2,3] [] [3,0,1,2] [(21,vb s1)] []) (
 au
)<|λs1 _ k=>k<|zR u (
 au
)<|jC<|zQ<|xA [] [0] 11<|qU 0 1 u u<|wV 1 0 u u u u<|zW 7 [2,3] u<|
  jdi 4 0 u u u u<|λx2 b3 o2=>qU 5 1 u u<|tZ 6 false oI u (gf (gs (gk 0))) u<|jdi 7 3 u u u u<|λx3 b4 o3=>qU 8 1 u u<|tZ 9 false oB u (gf (gs (gk 0))) u<|zW 0 [10] u<|qY<|qK<|zR u (
 au
)<|jC<|zG<|zA 1 u<|yU (zB .i64) 3 <|zK<|
  jjn (λs2 K=>∀ p6 c6 r_1,K [(7,sv p6 s2 c6)] [[],r_1] [Al (zB .i64) 3 r_1 p6 c6 s2]) (hI 0 7 1 (λ(s3:(List Int)×Int) K=>∀ p8 c8 r_2,K [1,3,43,44] [(1,.r r_2)] [5,0,6,7,8] [(7,sv p8 s3.1 c8),(45,vi s3.2)] [Al (zB .i64) 3 r_2 p8 c8 s3.1])<|
 au
)<|
  λs2 _ k p6 c6 r_1=>k<|zG<|zA 1 u<|qD .s [1] [] zGb u u u (cq [0])<|λr3 _ k r_4=>k<|zK<|zG<|zA 1 u<|jrE 0 58 u u<|
 au
theorem z0k{y0:zM}{y1:List zF}{y2:Int}: zP qd prog 241 [.agg (yK y0 p1 c1 p2 c2 p3 c3).toArray,sv p4 y1 c4,vi y2] [] (yO y0 p1 c1 p2 c2 p3 c3 [Rl wB p4 c4 y1]) (zJR y0 y1 y2) λr K=>∀ p5 c5,K (sv p5 r c5) [] [Rl (zB .i64) p5 c5 r]:=zUQ λk=>(zVE k)
abbrev zTO:=@Cn.mk 241 0 _ @z0k
theorem z5E{y0:zM}{y1:List Int}: zP qd prog 240 [.agg (yK y0 p1 c1 p2 c2 p3 c3).toArray,sv p4 y1 c4] [] (yO y0 p1 c1 p2 c2 p3 c3 [Rl (zB .i64) p4 c4 y1]) (zLE y0 y1) λr K=>∀ p5 c5,K (sv p5 r c5) [] [Rl (zB .i64) p5 c5 r] :=
 zO call240 func240 u λX=>hR 5 1 (zB .i64) 3<|hI 0 3 1 (λ(s1:(List Int)×Int) K=>∀ p5 c5 r_1,K [2,8,9] [(1,.r r_1)] [4,1,2,3] [(5,sv p5 s1.1 c5),(10,vi s1.2)] [Al (zB .i64) 3 r_1 p5 c5 s1.1])<|
 au
abbrev z4R:=@Cn.mk 240 0 _ @z5E
attribute [instance] zTO z4R
theorem zYg{y0:zM}{y1:List zF}{y2:Int}: zP qd prog 160 [.agg (yK y0 p1 c1 p2 c2 p3 c3).toArray,sv p4 y1 c4,vi y2] [] (yO y0 p1 c1 p2 c2 p3 c3 [Rl wB p4 c4 y1]) (zCy y0 y1 y2) λr K=>∀ p5 c5,K (sv p5 r c5) [] [Rl (zB .i64) p5 c5 r] :=
 zO call160 func160 u λX=>hD 1 [] [0] (.l [0,1,2,3] (.f 4 (.f 5 (.l [6] .e))))<|
 au
abbrev zYz:=@Cn.mk 160 0 _ @zYg
theorem zYQ{y0:List Int}: zP qd prog 239 [sv p1 y0 c1] [] [Rl (zB .i64) p1 c1 y0] (zEj y0) λr K=>K (vi r) [] [] :=
 zO call239 func239 u λX=>jA 1 u<|wF (λs1 K=>K [0] [] [0] [] []) (jA 3 u<|zR u (wQ<|jno)<|
 au
)<|hI 0 5 2 (λ(s2:Int×Int) K=>K [0] [] [1] [(3,vi s2.1),(4,vi s2.2)] [])<|
 au
abbrev zYb:=@Cn.mk 239 0 _ @zYQ
theorem zYV{y0:List Int}: zP qd prog 238 [sv p1 y0 c1] [] [Rl (zB .i64) p1 c1 y0] (zEl y0) λr K=>K (vi r) [] [] :=
 zO call238 func238 u λX=>jA 1 u<|wF (λs1 K=>K [0] [] [0] [] []) (jA 3 u<|zR u (wQ<|jno)<|
 au
)<|hI 0 5 2 (λ(s2:Int×Int) K=>K [0] [] [1] [(3,vi s2.1),(4,vi s2.2)] [])<|
 au
abbrev zYc:=@Cn.mk 238 0 _ @zYV
attribute [instance] zYz zYb zYc
theorem z15{y0:List Int}{y1:List Int}{y2:Int}: zP qd prog 157 [sv p1 y0 c1,sv p2 y1 c2,vi y2] [] [Rl (zB .i64) p1 c1 y0,Rl (zB .i64) p2 c2 y1] (zFB y0 y1 y2) λr K=>K (vb r) [] [] :=
 zO call157 func157 u λX=>hP 4 1 0 (λK=>K [0,1,2] [] [0,1] [(17,vb (if y2 != 1 then(y2 != 2)||((len y0)==0) else(len y0)==0))] [])<|
 au
abbrev z1Z:=@Cn.mk 157 0 _ @z15
attribute [instance] z1Z
theorem zNM{y0:zM}{y1:List zF}{y2:Int}{y3:Int}{y4:yZ}: wR qd prog 156 [.func (.func 160) #[] #[],pt b1 0,pt b2 0,pt b3 0,pt b4 0,pt b5 0] [bx b1 29 (yK y0 p1 c1 p2 c2 p3 c3),bx b2 30 [sv p4 y1 c4],bx b3 3 [vi y2],bx b4 3 [vi y3],bx b5 65 [vi y4.1,vi y4.2]] (yO y0 p1 c1 p2 c2 p3 c3 [Rl wB p4 c4 y1]) (zBS y0 y1 y2 y3 y4) λL r K=>K (vb r) L [] :=
 zO call156 func156 u λX=>hD 1 [] [0,1,2,3,4] (.l [0,1,2,3,5,6,7,8,10,11] (.f 4 (.f 9 (.f 12 (.l [13] .e)))))<|
 au
abbrev zN2:=@Cn.mk 156 0 _ @zNM
theorem zVD{y0:zM}{y1:List zF}{y2:Int}: zP qd prog 161 [.agg (yK y0 p1 c1 p2 c2 p3 c3).toArray,sv p4 y1 c4,vi y2] [] (yO y0 p1 c1 p2 c2 p3 c3 [Rl wB p4 c4 y1]) (zBp y0 y1 y2) λr K=>∀ p5 c5,K (sv p5 r c5) [] [Rl (zB .i64) p5 c5 r] :=
 zO call161 func161 u λX=>hR 7 1 (zB .i64) 3<|hI 0 3 1 (λ(s1:(List Int)×Int) K=>∀ p6 c6 r_1,K [3,13,14] [(1,.r r_1)] [0,2,3,4] [(7,sv p6 s1.1 c6),(15,vi s1.2)] [Al (zB .i64) 3 r_1 p6 c6 s1.1])<|
 au
abbrev zUt:=@Cn.mk 161 0 _ @zVD
attribute [instance] zN2 zUt
theorem zLo{y0:zM}{y1:List zF}{y2:Int}{y3:Int}{y4:yZ}: wR qd prog 156 [.func (.func 161) #[] #[],pt b1 0,pt b2 0,pt b3 0,pt b4 0,pt b5 0] [bx b1 29 (yK y0 p1 c1 p2 c2 p3 c3),bx b2 30 [sv p4 y1 c4],bx b3 3 [vi y2],bx b4 3 [vi y3],bx b5 65 [vi y4.1,vi y4.2]] (yO y0 p1 c1 p2 c2 p3 c3 [Rl wB p4 c4 y1]) (zAO y0 y1 y2 y3 y4) λL r K=>K (vb r) L [] :=
 zO call156 func156 u λX=>hD 1 [] [0,1,2,3,4] (.l [0,1,2,3,5,6,7,8,10,11] (.f 4 (.f 9 (.f 12 (.l [13] .e)))))<|
 au
abbrev zLp:=@Cn.mk 156 1 _ @zLo
attribute [instance] zLp
theorem zNL{y0:zM}{y1:List zF}{y2:Int}{y3:Int}: wR qd prog 158 [.func (.func 160) #[] #[],pt b1 0,pt b2 0,pt b3 0,pt b4 0] [bx b1 29 (yK y0 p1 c1 p2 c2 p3 c3),bx b2 30 [sv p4 y1 c4],bx b3 3 [vi y2],bx b4 3 [vi y3]] (yO y0 p1 c1 p2 c2 p3 c3 [Rl wB p4 c4 y1]) (zBP y0 y1 y2 y3) λL r K=>K (vb r) L [] :=
 zO call158 func158 u λX=>hI 1 1 0 (λ(s1:Bool) K=>K [] [] [0,1,2,3] [(6,vb s1)] [])<|
 au
abbrev zN6:=@Cn.mk 158 0 _ @zNL
attribute [instance] zN6
theorem zOs{y1:zM}{y2:List zF}{y3:Int}{y4:Int}{y5:yZ}: wR qd prog 159 [pt b1 0,pt b7 0] [bx b1 220 [.func (.func 156) #[] #[pt b2 0,pt b3 0,pt b4 0,pt b5 0,pt b6 0]],bx b2 29 (yK y1 p1 c1 p2 c2 p3 c3),bx b3 30 [sv p4 y2 c4],bx b4 3 [vi y3],bx b5 3 [vi y4],bx b6 65 [vi y5.1,vi y5.2],bx b7 220 [.func (.func 158) #[] #[pt b2 0,pt b3 0,pt b4 0,pt b5 0]]] (yO y1 p1 c1 p2 c2 p3 c3 [Rl wB p4 c4 y2]) (zC8 y1 y2 y3 y4 y5) λL r K=>K (vb r) L [] :=
 zO call159 func159 u λX=>hI 1 1 0 (λ(s1:Bool) K=>K [] [] [0,1,2,3] [(2,vb s1)] [])<|
 au
abbrev zOq:=@Cn.mk 159 0 _ @zOs
theorem zYL{y0:zM}{y1:List zF}{y2:Int}: zP qd prog 163 [.agg (yK y0 p1 c1 p2 c2 p3 c3).toArray,sv p4 y1 c4,vi y2] [] (yO y0 p1 c1 p2 c2 p3 c3 [Rl wB p4 c4 y1]) (zDA y0 y1 y2) λr K=>∀ p5 c5,K (sv p5 r c5) [] [Rl (zB .i64) p5 c5 r] :=
 zO call163 func163 u λX=>hD 1 [] [0] (.l [0,1,2,3] (.f 4 (.f 5 (.l [6] .e))))<|
 au
abbrev zYu:=@Cn.mk 163 0 _ @zYL
attribute [instance] zOq zYu
theorem zNW{y0:zM}{y1:List zF}{y2:Int}{y3:Int}{y4:yZ}: wR qd prog 156 [.func (.func 163) #[] #[],pt b1 0,pt b2 0,pt b3 0,pt b4 0,pt b5 0] [bx b1 29 (yK y0 p1 c1 p2 c2 p3 c3),bx b2 30 [sv p4 y1 c4],bx b3 3 [vi y2],bx b4 3 [vi y3],bx b5 65 [vi y4.1,vi y4.2]] (yO y0 p1 c1 p2 c2 p3 c3 [Rl wB p4 c4 y1]) (zAj y0 y1 y2 y3 y4) λL r K=>K (vb r) L [] :=
 zO call156 func156 u λX=>hD 1 [] [0,1,2,3,4] (.l [0,1,2,3,5,6,7,8,10,11] (.f 4 (.f 9 (.f 12 (.l [13] .e)))))<|
 au
abbrev zNU:=@Cn.mk 156 2 _ @zNW
attribute [instance] zNU
theorem zLu{y0:zM}{y1:List zF}{y2:Int}{y3:Int}: wR qd prog 158 [.func (.func 161) #[] #[],pt b1 0,pt b2 0,pt b3 0,pt b4 0] [bx b1 29 (yK y0 p1 c1 p2 c2 p3 c3),bx b2 30 [sv p4 y1 c4],bx b3 3 [vi y2],bx b4 3 [vi y3]] (yO y0 p1 c1 p2 c2 p3 c3 [Rl wB p4 c4 y1]) (zAt y0 y1 y2 y3) λL r K=>K (vb r) L [] :=
 zO call158 func158 u λX=>hI 1 1 0 (λ(s1:Bool) K=>K [] [] [0,1,2,3] [(6,vb s1)] [])<|
 au
abbrev zLv:=@Cn.mk 158 1 _ @zLu
attribute [instance] zLv
theorem zN0{y0:zM}{y1:List zF}{y2:Int}{y3:Int}: wR qd prog 158 [.func (.func 163) #[] #[],pt b1 0,pt b2 0,pt b3 0,pt b4 0] [bx b1 29 (yK y0 p1 c1 p2 c2 p3 c3),bx b2 30 [sv p4 y1 c4],bx b3 3 [vi y2],bx b4 3 [vi y3]] (yO y0 p1 c1 p2 c2 p3 c3 [Rl wB p4 c4 y1]) (zBT y0 y1 y2 y3) λL r K=>K (vb r) L [] :=
 zO call158 func158 u λX=>hI 1 1 0 (λ(s1:Bool) K=>K [] [] [0,1,2,3] [(6,vb s1)] [])<|
 au
abbrev zN3:=@Cn.mk 158 2 _ @zN0
attribute [instance] zN3
theorem zOt{y1:zM}{y2:List zF}{y3:Int}{y4:Int}{y6:yZ}: wR qd prog 162 [pt b1 0,pt b6 0] [bx b1 220 [.func (.func 158) #[] #[pt b2 0,pt b3 0,pt b4 0,pt b5 0]],bx b2 29 (yK y1 p1 c1 p2 c2 p3 c3),bx b3 30 [sv p4 y2 c4],bx b4 3 [vi y3],bx b5 3 [vi y4],bx b6 220 [.func (.func 156) #[] #[pt b2 0,pt b3 0,pt b4 0,pt b5 0,pt b7 0]],bx b7 65 [vi y6.1,vi y6.2]] (yO y1 p1 c1 p2 c2 p3 c3 [Rl wB p4 c4 y2]) (zC5 y1 y2 y3 y4 y6) λL r K=>K (vb r) L [] :=
 zO call162 func162 u λX=>hI 1 5 0 (λ(s1:Bool) K=>K [] [] [0,1,2,3] [(2,vb s1)] [])<|
 au
abbrev zOv:=@Cn.mk 162 0 _ @zOt
attribute [instance] zOv
theorem z6F{y0:zM}{y1:List zF}{y2:Int}{y3:Int}{y4:yZ}: zP qd prog 100 [.agg (yK y0 p1 c1 p2 c2 p3 c3).toArray,sv p4 y1 c4,vi y2,vi y3,.agg #[vi y4.1,vi y4.2]] [] (yO y0 p1 c1 p2 c2 p3 c3 [Rl wB p4 c4 y1]) (zMV y0 y1 y2 y3 y4) λr K=>K (vb r) [] [] :=
 zO call100 func100 u λX=>hI 1 1 0 (λ(s1:Bool) K=>K [5,6,7,8,9] [] [0,1,2,3] [(31,vb s1)] [])<|
 au
abbrev z7M:=@Cn.mk 100 0 _ @z6F
attribute [instance] z7M
theorem zVv{y0:qX}{y1:zM}{y2:List zF}{y3:yZ}: wR qd prog 99 [.agg (z28 y0).toArray,pt b1 0,pt b2 0,pt b3 0] [bx b1 29 (yK y1 p1 c1 p2 c2 p3 c3),bx b2 30 [sv p4 y2 c4],bx b3 65 [vi y3.1,vi y3.2]] (yO y1 p1 c1 p2 c2 p3 c3 [Rl wB p4 c4 y2]) (zCg y0 y1 y2 y3) λL r K=>K (vb r) L [] :=
 zO call99 func99 u λX=>hI 1 1 0 (λ(s1:Bool) K=>K [] [(3,.r [])] [0,1,2,3] [(5,vb s1)] [])<|
 au
abbrev zV3:=@Cn.mk 99 0 _ @zVv
attribute [instance] zV3
theorem zDY{y0:List qX}{y1:zM}{y2:List zF}{y3:yZ}: wR qd prog 150 [sv p1 y0 c1,.func (.func 99) #[] #[pt b1 0,pt b2 0,pt b3 0]] [bx b1 29 (yK y1 p2 c2 p3 c3 p4 c4),bx b2 30 [sv p5 y2 c5],bx b3 65 [vi y3.1,vi y3.2]] (Rl zD2 p1 c1 y0::(yO y1 p2 c2 p3 c3 p4 c4 [Rl wB p5 c5 y2])) (zAw y0 y1 y2 y3) λL r K=>K (vi r) L [] :=
 zO call150 func150 u λX=>hI 0 2 1 (λ(s1:Int) K=>K [0,1,7] [] [0,1,2,3,4] [(8,vi s1)] [])<|
 au
abbrev zHc:=@Cn.mk 150 0 _ @zDY
attribute [instance] zHc
theorem zHN{y0:List qX}{y1:zM}{y2:List zF}{y3:yZ}: zP qd prog 97 [sv p1 y0 c1,.func (.func 99) #[] #[pt b1 0,pt b2 0,pt b3 0]] [r_1,bx b1 29 (yK y1 p2 c2 p3 c3 p4 c4),bx b2 30 [sv p5 y2 c5],bx b3 65 [vi y3.1,vi y3.2]] (Al zD2 163 r_1 p1 c1 y0::(yO y1 p2 c2 p3 c3 p4 c4 [Rl wB p5 c5 y2])) (zAV y0 y1 y2 y3) λr K=>∀ p6 c6,K (sv p6 r c6) [[],bx b1 29 (yK y1 p2 c2 p3 c3 p4 c4),bx b2 30 [sv p5 y2 c5],bx b3 65 [vi y3.1,vi y3.2]] [Rl zD2 p6 c6 r] :=
 zO call97 func97 u λX=>jA 1 u<|zG<|zA 2 u<|qD .s [1,2,3] [0] zDY u u u ⟨cl 0 0,ck 1,ck 2,ck 3,ck 4,d⟩<|λr1 _ k=>k<|zA 1 u<|zK<|zQ<|jA 2 u<|zR u (
 au
)<|jC<|
  wF (λs1 K=>∀ r_2,K [] [(0,r_2)] [1,2,3,4] [(0,.slice p1 (List.length y0) c1),(5,vi s1.2)] [Ar zD2 163 r_2 p1 c1 (List.length y0) s1.1]) (hI 0 5 2 (λ(s2:(List qX)×Int×Int) K=>∀ r_3,K [1] [(0,.r r_3)] [1,2,3,4] [(0,.slice p1 (List.length y0) c1),(5,vi s2.2.1),(6,vi s2.2.2)] [Ar zD2 163 r_3 p1 c1 (List.length y0) s2.1])<|
 au
)<|λs1 _ k r_2=>k<|zG<|zA 2 u<|jsV 0 u u u<|λu1 p6 c6 f1=>
  jcv .s 0 0 (0,0,0,0) (.agg #[vi 0,vi 0,vi 0,vi 0]) u f1 u (vP vI (vP vI (vP vI vI)))<|
 au
abbrev zHS:=@Cn.mk 97 0 _ @zHN
attribute [instance] zHS
theorem zN8{y0:zM}{y1:List zF}{y2:yZ}: zP qd prog 48 [.agg (yK y0 p1 c1 p2 c2 p3 c3).toArray,sv p4 y1 c4,.agg #[vi y2.1,vi y2.2]] [] (yO y0 p1 c1 p2 c2 p3 c3 [Rl wB p4 c4 y1]) (zEe y0 y1 y2) λr K=>∀ p5 c5,K (sv p5 r c5) [] [Rl zD2 p5 c5 r] :=
 zO call48 func48 u λX=>
 au
abbrev zY0:=@Cn.mk 48 0 _ @zN8
theorem zSS{y0:List qG}: zP qd prog 96 [sv p1 y0 c1] [r_1] [Al wE 165 r_1 p1 c1 y0] (zER y0) λr K=>∀ p2 c2,K (sv p2 r c2) [[]] [Rl wE p2 c2 r] :=
 zO call96 func96 u λX=>jA 1 u<|zQ<|jA 3 u<|zR u (
 au
)<|jC<|zQ<|jA 1 u<|qA<|
  wO (λs1 K=>K [0] [] [0] [(3,vi s1)] []) (gv kk [0] (gq [0]))<|λs1 _ k=>k<|zQ<|jA 4 u<|zR u (jC<|zQ<|qA<|xA [] [0] 10<|zW 8 [0,1] u<|
  jdI 2 0 u u u u<|λx1 h1 b1 o1 hp1=>tU 3 0 0 sI true zXw u u hp1 h1 u<|zW 3 [4,5,6] u<|jdI 7 0 u u u u<|λx2 h2 b2 o2 hp2=>tU 8 0 0 sI true zXw u u hp2 h2 u<|vK 9 (vb (x1==x2)) u<|qY<|qK<|
  zR u (zG<|zA 2 u<|jsV 0 u u u<|λu1 p2 c2 f1=>zA 1 u<|zK<|
  jjn (λs2 K=>∀ r_2,K [(0,.slice p1 (List.length y0) c1),(3,vi s2.2)] [r_2] [Ar wE 165 r_2 p1 c1 (List.length y0) s2.1]) (
  jA 1 u<|qA<|
  wO (λs3 K=>∀ r_3,K [4] [(0,r_3)] [] [(0,.slice p1 (List.length y0) c1),(3,vi s3.2.1),(5,vi s3.2.2)] [Ar wE 165 r_3 p1 c1 (List.length y0) s3.1]) (gv (λ_ k=>k r_1) [0] (gq [0]))<|
  λs3 _ k r_3=>k<|zQ<|jA 4 u<|zR u (jC<|zQ<|qA<|xA [] [0] 10<|zW 8 [0,1] u<|jdX 2 0 u u f1 u u<|λx3 b3 o3 hp3 h3=>tU 3 0 0 sI true zXw u u hp3 h3 u<|zW 3 [4,5,6] u<|
  jdX 7 0 u u f1 u u<|λx4 b4 o4 hp4 h4=>tU 8 0 0 sI true zXw u u hp4 h4 u<|vK 9 (vb (!(x3==x4))) u<|qY<|qK<|zR u (zG<|zA 4 u<|jiV 0 u f1 u u<|
 au
)<|
 au
)<|
 au
)<|λs2 _ k r_2=>k<|zG<|zA 2 u<|jsV 0 u u u<|λu2 p3 c3 f2=>
  jcv .s 0 0 (0,0) (.agg #[vi 0,vi 0]) u f2 u (vP vI vI)<|
 au
)<|
 au
)<|
 au
abbrev zTE:=@Cn.mk 96 0 _ @zSS
theorem zR1{y0:qG}{y1:qG}: zP qd prog 93 [.agg #[vi y0.1,vi y0.2],.agg #[vi y1.1,vi y1.2]] [] [] (zFg y0 y1) λr K=>K (vi r) [] [] :=
 zO call93 func93 u λX=>hD 1 [] [0,1] (.l [0,1,2,3,5,6,7,8] (.f 4 (.f 9 (.f 10 (.f 11 (.l [12] .e))))))<|
 au
abbrev zY6:=@Cn.mk 93 0 _ @zR1
end Go.Proofs.YtgjdojihimkgcaaGreatDoor
