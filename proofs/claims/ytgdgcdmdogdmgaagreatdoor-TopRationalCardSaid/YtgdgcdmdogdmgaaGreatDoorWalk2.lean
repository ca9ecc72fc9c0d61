/- A part. Conditions: none. -/
import Derived.Test.YtgdgcdmdogdmgaaGreatDoorWalk1
namespace Go.Proofs.YtgdgcdmdogdmgaaGreatDoor
open Go Go.GD Go.Proofs.Tryz
set_option autoImplicit false
set_option linter.unusedVariables false
set_option maxRecDepth 100000
set_option linter.defProp false
variable {qd:Prop}
variable {yl1:Nat}{p1 p2 p3 p4 p5 p6 p7 p8 p9:Option Addr}{c1 c2 c3 c4 c5 c6 c7 c8 c9:Nat}{b1 b2 b3 b4 b5 b6 b7 b8 b9 b10 b11:Nat}{r_1 r_2 r_3 r_4 r_5 r_6:zG}
theorem zSS{y0:List zF}{y1:Int}: zP qd prog 188 [sv p1 y0 c1,vi y1] [] [Rl wM p1 c1 y0] (zCo y0 y1) fun r K=>∀ p2 c2,K (sv p2 r c2) [] [Rl (zH .i64) p2 c2 r] :=
 zO call188 func188 u fun X=>jA 1 u<|zJ<|zA 1 u<|uA (zH .i64) 3 <|zL<|
  jjn (fun s1 K=>∀ p2 c2 r_1,K [(5,sv p2 s1 c2)] [r_1] [Al (zH .i64) 3 r_1 p2 c2 s1]) (hI 0 3 1 (fun(s2:(List Int)×Int) K=>∀ p4 c4 r_2,K [0,10,11] [(0,.r r_2)] [2,0] [(5,sv p4 s2.1 c4),(12,vi s2.2)] [Al (zH .i64) 3 r_2 p4 c4 s2.1])<|
 au
)<|fun s1 _ k p2 c2 r_1=>k<|zJ<|zA 1 u<|qK .s [0] [] zGV u u u (cq [0])<|fun r2 _ k r_4=>k<|zL<|jA 2 u<|qP<|yU 0 0 u u<|jre 0 4 u u<|
 au
abbrev zRq:=@Cn.mk 188 0 _ @zSS
theorem zVn{y0:Int}{y1:zI}: wL qd prog 189 [vi y0,pt b1 0] [bx b1 29 (vJ y1 p1 c1 p2 c2 p3 c3)] (vO y1 p1 c1 p2 c2 p3 c3 []) (zJT y0 y1) fun L r K=>K (vb r) L [] :=
 zO call189 func189 u fun X=>
 au
abbrev zVT:=@Cn.mk 189 0 _ @zVn
attribute [instance] zVj zRq zVT
theorem zIa{y0:List Int}{y1:zI}: wL qd prog 124 [sv p1 y0 c1,.func (.func 189) #[] #[pt b1 0]] [bx b1 29 (vJ y1 p2 c2 p3 c3 p4 c4)] (Rl (zH .i64) p1 c1 y0::(vO y1 p2 c2 p3 c3 p4 c4 [])) (zBI y0 y1) fun L r K=>K (vi r) L [] :=
 zO call124 func124 u fun X=>hI 0 2 1 (fun(s1:Int) K=>K [0,1,7] [] [0,1,2,3] [(8,vi s1)] [])<|
 au
abbrev zIe:=@Cn.mk 124 1 _ @zIa
attribute [instance] zIe
theorem zHc{y0:List Int}{y1:zI}: wL qd prog 83 [sv p1 y0 c1,.func (.func 189) #[] #[pt b1 0]] [bx b1 29 (vJ y1 p2 c2 p3 c3 p4 c4)] (Rl (zH .i64) p1 c1 y0::(vO y1 p2 c2 p3 c3 p4 c4 [])) (zAm y0 y1) fun L r K=>K (vb r) L [] :=
 zO call83 func83 u fun X=>
 au
abbrev zH8:=@Cn.mk 83 1 _ @zHc
attribute [instance] zH8
theorem zYP{y0:zI}{y1:List zF}{y2:Int}: zP qd prog 138 [.agg (vJ y0 p1 c1 p2 c2 p3 c3).toArray,sv p4 y1 c4,vi y2] [] (vO y0 p1 c1 p2 c2 p3 c3 [Rl wM p4 c4 y1]) (zH5 y0 y1 y2) fun r K=>K (vb r) [] [] :=
 zO call138 func138 u fun X=>
 au
abbrev zYC:=@Cn.mk 138 0 _ @zYP
attribute [instance] zYC
theorem zRe (k:Nat):
    (∀ {y0:zI} {p1:Option Addr} {c1:Nat} {p2:Option Addr} {c2:Nat} {p3:Option Addr} {c3:Nat} {y1:List zF} {p4:Option Addr} {c4:Nat} {y2:Int},zP qd prog 193 [.agg (vJ y0 p1 c1 p2 c2 p3 c3).toArray,sv p4 y1 c4,vi y2] [] (vO y0 p1 c1 p2 c2 p3 c3 [Rl wM p4 c4 y1]) (zDe k y0 y1 y2) fun r K=>∀ p5 c5,K (sv p5 r c5) [] [Rl (zH .i64) p5 c5 r]):=by
  induction k with
  | zero=>exact con0 call193
  | succ k ih =>
    have ih_argument_Last:=@ih
    have zQj:=@Cn.mk 193 0 _ (@ih_argument_Last)
    exact @fun y0 p1 c1 p2 c2 p3 c3 y1 p4 c4 y2=>zO (m1:=zGL (zDe k) y0 y1 y2) call193 func193 u fun X=>zJ<|vH .s u<|fun b1=>zA 1 u<|zL<|zS<|wR (fun s1 K=>K [1,2,3] [] [3,0,1,2] [(21,vb s1)] []) (
 au
)<|fun s1 _ k=>k<|zV u (
 au
)<|jC<|zS<|tB [] [0] 11<|wE 0 1 u u<|yA 1 0 u u u u<|qB 7 [2,3] u<|
  jdi 4 0 u u u u<|fun x2 b3 o2=>wE 5 1 u u<|jdl 6 false oI u (gf (gs (gk 0))) u<|jdi 7 3 u u u u<|fun x3 b4 o3=>wE 8 1 u u<|jdl 9 false oB u (gf (gs (gk 0))) u<|qB 0 [10] u<|wI<|qN<|zV u (
 au
)<|jC<|zJ<|zA 1 u<|uA (zH .i64) 3 <|zL<|
  jjn (fun s2 K=>∀ p6 c6 r_1,K [(7,sv p6 s2 c6)] [[],r_1] [Al (zH .i64) 3 r_1 p6 c6 s2]) (hI 0 7 1 (fun(s3:(List Int)×Int) K=>∀ p8 c8 r_2,K [1,3,43,44] [(1,.r r_2)] [5,0,6,7,8] [(7,sv p8 s3.1 c8),(45,vi s3.2)] [Al (zH .i64) 3 r_2 p8 c8 s3.1])<|
 au
)<|
  fun s2 _ k p6 c6 r_1=>k<|zJ<|zA 1 u<|qK .s [1] [] zGV u u u (cq [0])<|fun r3 _ k r_4=>k<|zL<|zJ<|zA 1 u<|jrE 0 58 u u<|
 au
theorem zWu{y0:zI}{y1:List zF}{y2:Int}: zP qd prog 193 [.agg (vJ y0 p1 c1 p2 c2 p3 c3).toArray,sv p4 y1 c4,vi y2] [] (vO y0 p1 c1 p2 c2 p3 c3 [Rl wM p4 c4 y1]) (zIH y0 y1 y2) fun r K=>∀ p5 c5,K (sv p5 r c5) [] [Rl (zH .i64) p5 c5 r]:=z1R fun k=>(zRe k)
abbrev zQj:=@Cn.mk 193 0 _ @zWu
theorem z0d{y0:zI}{y1:List Int}: zP qd prog 192 [.agg (vJ y0 p1 c1 p2 c2 p3 c3).toArray,sv p4 y1 c4] [] (vO y0 p1 c1 p2 c2 p3 c3 [Rl (zH .i64) p4 c4 y1]) (zJh y0 y1) fun r K=>∀ p5 c5,K (sv p5 r c5) [] [Rl (zH .i64) p5 c5 r] :=
 zO call192 func192 u fun X=>hR 5 1 (zH .i64) 3<|hI 0 3 1 (fun(s1:(List Int)×Int) K=>∀ p5 c5 r_1,K [2,8,9] [(1,.r r_1)] [4,1,2,3] [(5,sv p5 s1.1 c5),(10,vi s1.2)] [Al (zH .i64) 3 r_1 p5 c5 s1.1])<|
 au
abbrev z0q:=@Cn.mk 192 0 _ @z0d
attribute [instance] zQj z0q
theorem zVS{y0:zI}{y1:List zF}{y2:Int}: zP qd prog 143 [.agg (vJ y0 p1 c1 p2 c2 p3 c3).toArray,sv p4 y1 c4,vi y2] [] (vO y0 p1 c1 p2 c2 p3 c3 [Rl wM p4 c4 y1]) (zCn y0 y1 y2) fun r K=>∀ p5 c5,K (sv p5 r c5) [] [Rl (zH .i64) p5 c5 r] :=
 zO call143 func143 u fun X=>hD 1 [] [0] (.l [0,1,2,3] (.f 4 (.f 5 (.l [6] .e))))<|
 au
abbrev zV1:=@Cn.mk 143 0 _ @zVS
theorem zVV{y0:List Int}: zP qd prog 191 [sv p1 y0 c1] [] [Rl (zH .i64) p1 c1 y0] (zDs y0) fun r K=>K (vi r) [] [] :=
 zO call191 func191 u fun X=>jA 1 u<|wR (fun s1 K=>K [0] [] [0] [] []) (jA 3 u<|zV u (vM<|jno)<|
 au
)<|hI 0 5 2 (fun(s2:Int×Int) K=>K [0] [] [1] [(3,vi s2.1),(4,vi s2.2)] [])<|
 au
abbrev zVL:=@Cn.mk 191 0 _ @zVV
theorem zVN{y0:List Int}: zP qd prog 190 [sv p1 y0 c1] [] [Rl (zH .i64) p1 c1 y0] (zEA y0) fun r K=>K (vi r) [] [] :=
 zO call190 func190 u fun X=>jA 1 u<|wR (fun s1 K=>K [0] [] [0] [] []) (jA 3 u<|zV u (vM<|jno)<|
 au
)<|hI 0 5 2 (fun(s2:Int×Int) K=>K [0] [] [1] [(3,vi s2.1),(4,vi s2.2)] [])<|
 au
abbrev zVl:=@Cn.mk 190 0 _ @zVN
attribute [instance] zV1 zVL zVl
theorem zYD{y0:List Int}{y1:List Int}{y2:Int}: zP qd prog 140 [sv p1 y0 c1,sv p2 y1 c2,vi y2] [] [Rl (zH .i64) p1 c1 y0,Rl (zH .i64) p2 c2 y1] (zEP y0 y1 y2) fun r K=>K (vb r) [] [] :=
 zO call140 func140 u fun X=>hP 4 1 0 (fun K=>K [0,1,2] [] [0,1] [(17,vb (if y2 != 1 then(y2 != 2)||((len y0)==0) else(len y0)==0))] [])<|
 au
abbrev zYS:=@Cn.mk 140 0 _ @zYD
attribute [instance] zYS
theorem zL5{y0:zI}{y1:List zF}{y2:Int}{y3:Int}{y4:vQ}: wL qd prog 139 [.func (.func 143) #[] #[],pt b1 0,pt b2 0,pt b3 0,pt b4 0,pt b5 0] [bx b1 29 (vJ y0 p1 c1 p2 c2 p3 c3),bx b2 39 [sv p4 y1 c4],bx b3 3 [vi y2],bx b4 3 [vi y3],bx b5 47 [vi y4.1,vi y4.2]] (vO y0 p1 c1 p2 c2 p3 c3 [Rl wM p4 c4 y1]) (zB6 y0 y1 y2 y3 y4) fun L r K=>K (vb r) L [] :=
 zO call139 func139 u fun X=>hD 1 [] [0,1,2,3,4] (.l [0,1,2,3,5,6,7,8,10,11] (.f 4 (.f 9 (.f 12 (.l [13] .e)))))<|
 au
abbrev zLW:=@Cn.mk 139 0 _ @zL5
theorem zRi{y0:zI}{y1:List zF}{y2:Int}: zP qd prog 144 [.agg (vJ y0 p1 c1 p2 c2 p3 c3).toArray,sv p4 y1 c4,vi y2] [] (vO y0 p1 c1 p2 c2 p3 c3 [Rl wM p4 c4 y1]) (zBx y0 y1 y2) fun r K=>∀ p5 c5,K (sv p5 r c5) [] [Rl (zH .i64) p5 c5 r] :=
 zO call144 func144 u fun X=>hR 7 1 (zH .i64) 3<|hI 0 3 1 (fun(s1:(List Int)×Int) K=>∀ p6 c6 r_1,K [3,13,14] [(1,.r r_1)] [0,2,3,4] [(7,sv p6 s1.1 c6),(15,vi s1.2)] [Al (zH .i64) 3 r_1 p6 c6 s1.1])<|
 au
abbrev zSE:=@Cn.mk 144 0 _ @zRi
attribute [instance] zLW zSE
theorem zKX{y0:zI}{y1:List zF}{y2:Int}{y3:Int}{y4:vQ}: wL qd prog 139 [.func (.func 144) #[] #[],pt b1 0,pt b2 0,pt b3 0,pt b4 0,pt b5 0] [bx b1 29 (vJ y0 p1 c1 p2 c2 p3 c3),bx b2 39 [sv p4 y1 c4],bx b3 3 [vi y2],bx b4 3 [vi y3],bx b5 47 [vi y4.1,vi y4.2]] (vO y0 p1 c1 p2 c2 p3 c3 [Rl wM p4 c4 y1]) (zAW y0 y1 y2 y3 y4) fun L r K=>K (vb r) L [] :=
 zO call139 func139 u fun X=>hD 1 [] [0,1,2,3,4] (.l [0,1,2,3,5,6,7,8,10,11] (.f 4 (.f 9 (.f 12 (.l [13] .e)))))<|
 au
abbrev zKT:=@Cn.mk 139 1 _ @zKX
attribute [instance] zKT
theorem zLp{y0:zI}{y1:List zF}{y2:Int}{y3:Int}: wL qd prog 141 [.func (.func 143) #[] #[],pt b1 0,pt b2 0,pt b3 0,pt b4 0] [bx b1 29 (vJ y0 p1 c1 p2 c2 p3 c3),bx b2 39 [sv p4 y1 c4],bx b3 3 [vi y2],bx b4 3 [vi y3]] (vO y0 p1 c1 p2 c2 p3 c3 [Rl wM p4 c4 y1]) (zB3 y0 y1 y2 y3) fun L r K=>K (vb r) L [] :=
 zO call141 func141 u fun X=>hI 1 1 0 (fun(s1:Bool) K=>K [] [] [0,1,2,3] [(6,vb s1)] [])<|
 au
abbrev zLm:=@Cn.mk 141 0 _ @zLp
attribute [instance] zLm
theorem zMy{y1:zI}{y2:List zF}{y3:Int}{y4:Int}{y5:vQ}: wL qd prog 142 [pt b1 0,pt b7 0] [bx b1 218 [.func (.func 139) #[] #[pt b2 0,pt b3 0,pt b4 0,pt b5 0,pt b6 0]],bx b2 29 (vJ y1 p1 c1 p2 c2 p3 c3),bx b3 39 [sv p4 y2 c4],bx b4 3 [vi y3],bx b5 3 [vi y4],bx b6 47 [vi y5.1,vi y5.2],bx b7 218 [.func (.func 141) #[] #[pt b2 0,pt b3 0,pt b4 0,pt b5 0]]] (vO y1 p1 c1 p2 c2 p3 c3 [Rl wM p4 c4 y2]) (zC4 y1 y2 y3 y4 y5) fun L r K=>K (vb r) L [] :=
 zO call142 func142 u fun X=>hI 1 1 0 (fun(s1:Bool) K=>K [] [] [0,1,2,3] [(2,vb s1)] [])<|
 au
abbrev zMv:=@Cn.mk 142 0 _ @zMy
theorem zVe{y0:zI}{y1:List zF}{y2:Int}: zP qd prog 146 [.agg (vJ y0 p1 c1 p2 c2 p3 c3).toArray,sv p4 y1 c4,vi y2] [] (vO y0 p1 c1 p2 c2 p3 c3 [Rl wM p4 c4 y1]) (zCm y0 y1 y2) fun r K=>∀ p5 c5,K (sv p5 r c5) [] [Rl (zH .i64) p5 c5 r] :=
 zO call146 func146 u fun X=>hD 1 [] [0] (.l [0,1,2,3] (.f 4 (.f 5 (.l [6] .e))))<|
 au
abbrev zVY:=@Cn.mk 146 0 _ @zVe
attribute [instance] zMv zVY
theorem zLa{y0:zI}{y1:List zF}{y2:Int}{y3:Int}{y4:vQ}: wL qd prog 139 [.func (.func 146) #[] #[],pt b1 0,pt b2 0,pt b3 0,pt b4 0,pt b5 0] [bx b1 29 (vJ y0 p1 c1 p2 c2 p3 c3),bx b2 39 [sv p4 y1 c4],bx b3 3 [vi y2],bx b4 3 [vi y3],bx b5 47 [vi y4.1,vi y4.2]] (vO y0 p1 c1 p2 c2 p3 c3 [Rl wM p4 c4 y1]) (zBM y0 y1 y2 y3 y4) fun L r K=>K (vb r) L [] :=
 zO call139 func139 u fun X=>hD 1 [] [0,1,2,3,4] (.l [0,1,2,3,5,6,7,8,10,11] (.f 4 (.f 9 (.f 12 (.l [13] .e)))))<|
 au
abbrev zLs:=@Cn.mk 139 2 _ @zLa
attribute [instance] zLs
theorem zKR{y0:zI}{y1:List zF}{y2:Int}{y3:Int}: wL qd prog 141 [.func (.func 144) #[] #[],pt b1 0,pt b2 0,pt b3 0,pt b4 0] [bx b1 29 (vJ y0 p1 c1 p2 c2 p3 c3),bx b2 39 [sv p4 y1 c4],bx b3 3 [vi y2],bx b4 3 [vi y3]] (vO y0 p1 c1 p2 c2 p3 c3 [Rl wM p4 c4 y1]) (zBQ y0 y1 y2 y3) fun L r K=>K (vb r) L [] :=
 zO call141 func141 u fun X=>hI 1 1 0 (fun(s1:Bool) K=>K [] [] [0,1,2,3] [(6,vb s1)] [])<|
 au
abbrev zKS:=@Cn.mk 141 1 _ @zKR
attribute [instance] zKS
theorem zLf{y0:zI}{y1:List zF}{y2:Int}{y3:Int}: wL qd prog 141 [.func (.func 146) #[] #[],pt b1 0,pt b2 0,pt b3 0,pt b4 0] [bx b1 29 (vJ y0 p1 c1 p2 c2 p3 c3),bx b2 39 [sv p4 y1 c4],bx b3 3 [vi y2],bx b4 3 [vi y3]] (vO y0 p1 c1 p2 c2 p3 c3 [Rl wM p4 c4 y1]) (zB8 y0 y1 y2 y3) fun L r K=>K (vb r) L [] :=
 zO call141 func141 u fun X=>hI 1 1 0 (fun(s1:Bool) K=>K [] [] [0,1,2,3] [(6,vb s1)] [])<|
 au
abbrev zLX:=@Cn.mk 141 2 _ @zLf
attribute [instance] zLX
theorem zMp{y1:zI}{y2:List zF}{y3:Int}{y4:Int}{y6:vQ}: wL qd prog 145 [pt b1 0,pt b6 0] [bx b1 218 [.func (.func 141) #[] #[pt b2 0,pt b3 0,pt b4 0,pt b5 0]],bx b2 29 (vJ y1 p1 c1 p2 c2 p3 c3),bx b3 39 [sv p4 y2 c4],bx b4 3 [vi y3],bx b5 3 [vi y4],bx b6 218 [.func (.func 139) #[] #[pt b2 0,pt b3 0,pt b4 0,pt b5 0,pt b7 0]],bx b7 47 [vi y6.1,vi y6.2]] (vO y1 p1 c1 p2 c2 p3 c3 [Rl wM p4 c4 y2]) (zC6 y1 y2 y3 y4 y6) fun L r K=>K (vb r) L [] :=
 zO call145 func145 u fun X=>hI 1 5 0 (fun(s1:Bool) K=>K [] [] [0,1,2,3] [(2,vb s1)] [])<|
 au
abbrev zMx:=@Cn.mk 145 0 _ @zMp
attribute [instance] zMx
theorem z3L{y0:zI}{y1:List zF}{y2:Int}{y3:Int}{y4:vQ}: zP qd prog 99 [.agg (vJ y0 p1 c1 p2 c2 p3 c3).toArray,sv p4 y1 c4,vi y2,vi y3,.agg #[vi y4.1,vi y4.2]] [] (vO y0 p1 c1 p2 c2 p3 c3 [Rl wM p4 c4 y1]) (zKm y0 y1 y2 y3 y4) fun r K=>K (vb r) [] [] :=
 zO call99 func99 u fun X=>hI 1 1 0 (fun(s1:Bool) K=>K [5,6,7,8,9] [] [0,1,2,3] [(31,vb s1)] [])<|
 au
abbrev z2f:=@Cn.mk 99 0 _ @z3L
attribute [instance] z2f
theorem zTK{y0:qL}{y1:zI}{y2:List zF}{y3:vQ}: wL qd prog 98 [.agg (zZk y0).toArray,pt b1 0,pt b2 0,pt b3 0] [bx b1 29 (vJ y1 p1 c1 p2 c2 p3 c3),bx b2 39 [sv p4 y2 c4],bx b3 47 [vi y3.1,vi y3.2]] (vO y1 p1 c1 p2 c2 p3 c3 [Rl wM p4 c4 y2]) (zC9 y0 y1 y2 y3) fun L r K=>K (vb r) L [] :=
 zO call98 func98 u fun X=>hI 1 1 0 (fun(s1:Bool) K=>K [] [(3,.r [])] [0,1,2,3] [(5,vb s1)] [])<|
 au
abbrev zTX:=@Cn.mk 98 0 _ @zTK
attribute [instance] zTX
theorem zDG{y0:List qL}{y1:zI}{y2:List zF}{y3:vQ}: wL qd prog 133 [sv p1 y0 c1,.func (.func 98) #[] #[pt b1 0,pt b2 0,pt b3 0]] [bx b1 29 (vJ y1 p2 c2 p3 c3 p4 c4),bx b2 39 [sv p5 y2 c5],bx b3 47 [vi y3.1,vi y3.2]] (Rl zDW p1 c1 y0::(vO y1 p2 c2 p3 c3 p4 c4 [Rl wM p5 c5 y2])) (zBT y0 y1 y2 y3) fun L r K=>K (vi r) L [] :=
 zO call133 func133 u fun X=>hI 0 2 1 (fun(s1:Int) K=>K [0,1,7] [] [0,1,2,3,4] [(8,vi s1)] [])<|
 au
abbrev zGq:=@Cn.mk 133 0 _ @zDG
attribute [instance] zGq
theorem zG9{y0:List qL}{y1:zI}{y2:List zF}{y3:vQ}: zP qd prog 96 [sv p1 y0 c1,.func (.func 98) #[] #[pt b1 0,pt b2 0,pt b3 0]] [r_1,bx b1 29 (vJ y1 p2 c2 p3 c3 p4 c4),bx b2 39 [sv p5 y2 c5],bx b3 47 [vi y3.1,vi y3.2]] (Al zDW 164 r_1 p1 c1 y0::(vO y1 p2 c2 p3 c3 p4 c4 [Rl wM p5 c5 y2])) (zA5 y0 y1 y2 y3) fun r K=>∀ p6 c6,K (sv p6 r c6) [[],bx b1 29 (vJ y1 p2 c2 p3 c3 p4 c4),bx b2 39 [sv p5 y2 c5],bx b3 47 [vi y3.1,vi y3.2]] [Rl zDW p6 c6 r] :=
 zO call96 func96 u fun X=>jA 1 u<|zJ<|zA 2 u<|qK .s [1,2,3] [0] zDG u u u ⟨cl 0 0,ck 1,ck 2,ck 3,ck 4,d⟩<|fun r1 _ k=>k<|zA 1 u<|zL<|zS<|jA 2 u<|zV u (
 au
)<|jC<|
  wR (fun s1 K=>∀ r_2,K [] [(0,r_2)] [1,2,3,4] [(0,.slice p1 (List.length y0) c1),(5,vi s1.2)] [Ar zDW 164 r_2 p1 c1 (List.length y0) s1.1]) (hI 0 5 2 (fun(s2:(List qL)×Int×Int) K=>∀ r_3,K [1] [(0,.r r_3)] [1,2,3,4] [(0,.slice p1 (List.length y0) c1),(5,vi s2.2.1),(6,vi s2.2.2)] [Ar zDW 164 r_3 p1 c1 (List.length y0) s2.1])<|
 au
)<|fun s1 _ k r_2=>k<|zJ<|zA 2 u<|jsV 0 u u u<|fun u1 p6 c6 f1=>
  jcv .s 0 0 (0,0,0,0) (.agg #[vi 0,vi 0,vi 0,vi 0]) u f1 u (vP vI (vP vI (vP vI vI)))<|
 au
abbrev zG7:=@Cn.mk 96 0 _ @zG9
attribute [instance] zG7
theorem zLb{y0:zI}{y1:List zF}{y2:vQ}: zP qd prog 48 [.agg (vJ y0 p1 c1 p2 c2 p3 c3).toArray,sv p4 y1 c4,.agg #[vi y2.1,vi y2.2]] [] (vO y0 p1 c1 p2 c2 p3 c3 [Rl wM p4 c4 y1]) (zDy y0 y1 y2) fun r K=>∀ p5 c5,K (sv p5 r c5) [] [Rl zDW p5 c5 r] :=
 zO call48 func48 u fun X=>
 au
abbrev zVX:=@Cn.mk 48 0 _ @zLb
theorem zPc{y0:List qA}: zP qd prog 95 [sv p1 y0 c1] [r_1] [Al wK 166 r_1 p1 c1 y0] (zDf y0) fun r K=>∀ p2 c2,K (sv p2 r c2) [[]] [Rl wK p2 c2 r] :=
 zO call95 func95 u fun X=>jA 1 u<|zS<|jA 3 u<|zV u (
 au
)<|jC<|zS<|jA 1 u<|zZ<|
  wP (fun s1 K=>K [0] [] [0] [(3,vi s1)] []) (gv kk [0] (gq [0]))<|fun s1 _ k=>k<|zS<|jA 4 u<|zV u (jC<|zS<|zZ<|tB [] [0] 10<|qB 8 [0,1] u<|
  jdI 2 0 u u u u<|fun x1 h1 b1 o1 hp1=>jdL 3 0 0 sI true zUs u u hp1 h1 u<|qB 3 [4,5,6] u<|jdI 7 0 u u u u<|fun x2 h2 b2 o2 hp2=>jdL 8 0 0 sI true zUs u u hp2 h2 u<|yR 9 (vb (x1==x2)) u<|wI<|qN<|
  zV u (zJ<|zA 2 u<|jsV 0 u u u<|fun u1 p2 c2 f1=>zA 1 u<|zL<|
  jjn (fun s2 K=>∀ r_2,K [(0,.slice p1 (List.length y0) c1),(3,vi s2.2)] [r_2] [Ar wK 166 r_2 p1 c1 (List.length y0) s2.1]) (
  jA 1 u<|zZ<|
  wP (fun s3 K=>∀ r_3,K [4] [(0,r_3)] [] [(0,.slice p1 (List.length y0) c1),(3,vi s3.2.1),(5,vi s3.2.2)] [Ar wK 166 r_3 p1 c1 (List.length y0) s3.1]) (gv (fun _ k=>k r_1) [0] (gq [0]))<|
  fun s3 _ k r_3=>k<|zS<|jA 4 u<|zV u (jC<|zS<|zZ<|tB [] [0] 10<|qB 8 [0,1] u<|jdX 2 0 u u f1 u u<|fun x3 b3 o3 hp3 h3=>jdL 3 0 0 sI true zUs u u hp3 h3 u<|qB 3 [4,5,6] u<|
  jdX 7 0 u u f1 u u<|fun x4 b4 o4 hp4 h4=>jdL 8 0 0 sI true zUs u u hp4 h4 u<|yR 9 (vb (!(x3==x4))) u<|wI<|qN<|zV u (zJ<|zA 4 u<|jiV 0 u f1 u u<|
 au
)<|
 au
)<|
 au
)<|fun s2 _ k r_2=>k<|zJ<|zA 2 u<|jsV 0 u u u<|fun u2 p3 c3 f2=>
  jcv .s 0 0 (0,0) (.agg #[vi 0,vi 0]) u f2 u (vP vI vI)<|
 au
)<|
 au
)<|
 au
abbrev zQ1:=@Cn.mk 95 0 _ @zPc
theorem zPC{y0:qA}{y1:qA}: zP qd prog 92 [.agg #[vi y0.1,vi y0.2],.agg #[vi y1.1,vi y1.2]] [] [] (zFH y0 y1) fun r K=>K (vi r) [] [] :=
 zO call92 func92 u fun X=>hD 1 [] [0,1] (.l [0,1,2,3,5,6,7,8] (.f 4 (.f 9 (.f 10 (.f 11 (.l [12] .e))))))<|
 au
abbrev zVP:=@Cn.mk 92 0 _ @zPC
theorem zDp{y0:List qA}: zP qd prog 91 [sv p1 y0 c1,.func (.func 92) #[] #[]] [r_1] [Al wK 166 r_1 p1 c1 y0] (zBC y0) fun r K=>∀ r_2,K (.tuple #[]) [r_2] [Ar wK 166 r_2 p1 c1 (List.length y0) r]:=⟨call91,fun A w0 r hm hO hF=>by
 have h:=zSc (qd:=qd) Go.Proofs.Tryz.sort91 (yM.prod (yM.int .i64) (yM.int .i64)) (te:=166) Tryz.isAgg166 Tryz.sizeOf166 zFH 92 (enters_of func92 (by kernel_rfl) u) (fun w x y n hn=>?_) hO hF.1.1 hm
 · change Calls prog 91 _ _ _ at h
   refine h.mono fun e w' h=>?_
   cases e with
   | returned v=>obtain⟨r',rfl,h1,h2,h3,h4⟩:=h;exact fun G k=>k r' ⟨rfl,h1,h2,⟨h3,h4.symm⟩,trivial⟩
   | panicked ch=>exact h
   | outgrown=>exact h
 · refine((zPC (qd:=True) (y0:=x) (y1:=y)).go [] w n hn (zU.start (by simp)) trivial).mono fun e w' h=>?_
   cases e with
   | returned v=>exact h _ fun⟨e1,q⟩=>⟨e1,q.e⟩
   | panicked ch=>exact h
   | outgrown=>exact h⟩
abbrev zI9:=@Cn.mk 91 0 _ @zDp
attribute [instance] zVX zQ1 zVP zI9
theorem zN0{y0:Int}{y1:List qL}: zP qd prog 47 [vi y0,sv p1 y1 c1] [] [Rl zDW p1 c1 y1] (zFc y0 y1) fun r K=>∀ p2 c2,K (.tuple #[.agg (yD r.1 p2 c2).toArray,vi r.2]) [] [Rl wK p2 c2 r.1.2] :=
 zO call47 func47 u fun X=>zJ<|vD .s (.agg k5)<|fun b1=>zA 1 u<|zL<|zS<|
  z7v (fun K=>K [0,1,4] [] [0] [(14,vb ((decide (y0<0))||(decide (40<y0))))] []) (
 au
)<|fun _ k=>k<|zV u (
 au
)<|jC<|zJ<|zA 1 u<|qD (.agg #[vi y0,.slice none 0 0])<|uA wK 166<|vD .s (.agg k5)<|fun b2=>
  wA .s 2 u u u<|zL<|
  jjoK (fun s1 K=>∀ p2 c2 r_1,K [4,6] [(1,r_1),(2,bx b2 51 [vi y0,sv p2 s1 c2])] [] [] [Al wK 166 r_1 p2 c2 s1]) (
  jA 3 u<|zZ<|
  wP (fun s2 K=>∀ p3 c3 r_2,K [0,4,6,18,19] [(1,r_2),(2,bx b2 51 [vi y0,sv p3 s2.2 c3])] [1] [(20,vi s2.1)] [Al wK 166 r_2 p3 c3 s2.2]) (gv (fun _ k=>k none 0 []) [0,1,2] (gq [0,1]))<|
  fun s2 _ k p3 c3 r_2=>k<|jA 1 u<|zS<|zV u (jC<|zS<|zZ<|zJ<|yK 1 u u u<|fun x1 b3 o1=>hP 4 7 0 (fun K=>K [0,4,6,8,18,19,20] [] [2,1] [(38,vb ((decide ((if x1.2.1<x1.1 then x1.2.1 else x1.1)<0))||(decide (y0≤(if x1.2.1 > x1.1 then x1.2.1 else x1.1)))))] [])<|
 au
)<|
 au
)<|
  fun s1 _ k p2 c2 r_1=>k<|zJ<|qC 1 u<|qJ 2 u u u<|qK .s [1] [] zDp u u u (cq [0])<|fun r1 _ k r_4=>k<|zL<|zJ<|qC 1 u<|qJ 2 u u u<|jrE 0 55 u u<|
 au
abbrev zYW:=@Cn.mk 47 0 _ @zN0
theorem zM4{y0:Int}: zP qd prog 249 [.int .u64 y0] [] [Pt (vF 64 (zH .u8)) 5 0 yC] (zCW y0) fun r K=>K (vi r) [] [] :=
 zO call249 func249 u fun X=>jA 1 u<|zS<|jA 2 u<|zV u (
 au
)<|jC<|zJ<|zA 5 u<|qD (.int .u64 (uT .u64 (IntKind.u64.wrap ((vA .u64 y0 (IntKind.u64.wrap (0-y0)))*285870213051353865)) 58))<|
  jgx (gk 0) u u<|
 au
abbrev zMW:=@Cn.mk 249 0 _ @zM4
attribute [instance] zYW zMW
theorem z1m{y0:Int}: zP qd prog 196 [.int .u64 y0] [] [Pt (vF 64 (zH .u8)) 5 0 yC] (zID y0) fun r K=>∀ p1 c1,K (sv p1 r c1) [] [Rl (zH .i64) p1 c1 r] :=
 zO call196 func196 u fun X=>hR 3 0 (zH .i64) 3<|hI 0 2 2 (fun(s1:Int×(List Int)) K=>∀ p1 c1 r_1,K [] [(0,.r r_1)] [1] [(0,.int .u64 s1.1),(3,sv p1 s1.2 c1)] [Al (zH .i64) 3 r_1 p1 c1 s1.2])<|
 au
abbrev z07:=@Cn.mk 196 0 _ @z1m
theorem zZn{y0:qE}: zP qd prog 197 [.agg (yD y0 p1 c1).toArray] [] [Rl wK p1 c1 y0.2] (zIj y0) fun r K=>∀ p2 c2,K (sv p2 r c2) [] [Rl (zH .u64) p2 c2 r] :=
 zO call197 func197 u fun X=>zJ<|vH .s u<|fun b1=>zA 1 u<|zL<|zJ<|qC 0 u<|qJ 0 u u u<|jmk .s (e:=zH .u64) 255 (0:Int) (.int .u64 0) vI u u<|fun x1 r_1 p2 c2=>zA 1 u<|zL<|zS<|zJ<|qC 1 u<|qJ 0 u u u<|zA 2 u<|zL<|zZ<|
  wP (fun s1 K=>∀ r_2,K [10,11] [(0,[]),(1,r_2)] [1] [(3,.slice p2 (List.length x1) c2),(12,vi s1.2)] [Ar (zH .u64) 255 r_2 p2 c2 (List.length x1) s1.1]) (gv (fun _ k=>k r_1) [900,1] (gq [0,1]))<|
  fun s1 _ k r_2=>k<|jA 1 u<|zS<|zV u (jC<|zS<|zZ<|zJ<|yK 1 u u u<|fun x2 b2 o1=>yS true zUs (gk 0) u<|vD .s (.agg #[vi 0,vi 0])<|fun b3=>wA .s 2 u u u<|zL<|jdS [10] [1,2] 11<|qB 10 [0] u<|
  wE 1 0 u u<|yA 2 2 u u u u<|jdI 3 1 u u u u<|fun x3 h1 b4 o2 hp1=>jdL 4 1 1 sI false oI u u hp1 h1 u<|wE 5 1 u u<|yA 6 2 u u u u<|tE fun x4 h2=>tA 7 u (fun h=>z33 h u u h2)<|
  qB 2 [8] u<|jdI 9 1 u u u u<|fun x5 h3 b5 o3 hp2=>qQ 10<|jsA (.f u) 1 1 sI (bor .u64 x3 x4) false u hp2 h3 u u vI<|fun r_3=>jdb [] [1,2]<|wI<|
 au
)<|xF<|
  uP<|uS<|xD<|qN<|jA 2 u<|qP<|yU 1 0 u u<|jre 0 2 u u<|
 au
abbrev zZZ:=@Cn.mk 197 0 _ @zZn
theorem zPv{y0:qA}{y1:qA}: zP qd prog 149 [.agg #[vi y0.1,vi y0.2],.agg #[vi y1.1,vi y1.2]] [] [] (zDB y0 y1) fun r K=>K (vi r) [] [] :=
 zO call149 func149 u fun X=>hD 1 [] [0,1] (.l [0,1,2,3,5,6,7,8] (.f 4 (.f 9 (.f 10 (.f 11 (.l [12] .e))))))<|
 au
abbrev zX4:=@Cn.mk 149 0 _ @zPv
attribute [instance] z07 zZZ zX4
theorem zLZ{y0:qE}: zP qd prog 102 [.agg (yD y0 p1 c1).toArray] [] [Rl wK p1 c1 y0.2] (zBj y0) fun r K=>K (vi r) [] [] :=
 zO call102 func102 u fun X=>zJ<|vH .s u<|fun b1=>zA 1 u<|zL<|zS<|z7v (fun K=>K [1] [] [0] [(12,vb ((decide (y0.1<0))||(decide (40<y0.1))))] []) (
 au
)<|fun _ k=>k<|zV u (
 au
)<|jC<|zS<|zJ<|qC 1 u<|qJ 0 u u u<|zA 2 u<|zL<|zZ<|wP (fun s1 K=>K [1,14,15] [] [0] [(16,vi s1)] []) (gv kk [0] (gq [0]))<|
  fun s1 _ k=>k<|jA 1 u<|zS<|zV u (jC<|zS<|zZ<|zJ<|zA 1 u<|yK 0 u u u<|fun x1 b2 o1=>hD 8 [] [0,1] (.l [0,1,2] (.s 39 (.l [3,4,5,6,7,8,9] (.f 10 (.l [11,12] .e))) (.l [3,4,5,6,7,8,9,10,11,12] .e)))<|hP 4 6 0 (fun K=>K [1,3,4,14,15,16] [] [1] [(36,vb ((decide ((if x1.2<x1.1 then x1.2 else x1.1)<0))||(decide (y0.1≤(if x1.2 > x1.1 then x1.2 else x1.1)))))] [])<|hI 1 8 0 (fun(s2:Bool) K=>K [1,14,15,16] [(1,.r [])] [0] [(49,vb s2)] [])<|
 au
)<|
 au
abbrev zVp:=@Cn.mk 102 0 _ @zLZ
attribute [instance] zVp
theorem zN7{y0:qE}: zP qd prog 195 [.agg (yD y0 p1 c1).toArray] [] [Rl wK p1 c1 y0.2] (zF9 y0) fun r K=>∀ p2 c2,K (.agg (yD r p2 c2).toArray) [] [Rl wK p2 c2 r.2] :=
 zO call195 func195 u fun X=>
 au
abbrev zXl:=@Cn.mk 195 0 _ @zN7
attribute [instance] zXl
theorem zLd{y0:qE}{y1:Int}: zP qd prog 148 [.agg (yD y0 p1 c1).toArray,vi y1] [] [Rl wK p1 c1 y0.2,Pt (vF 64 (zH .u8)) 5 0 yC] (zDQ y0 y1) fun r K=>∀ p2 c2,K (sv p2 r c2) [] [Rl (zH .i64) p2 c2 r] :=
 zO call148 func148 u fun X=>zJ<|vH .s u<|fun b1=>zA 1 u<|zL<|zJ<|wW 0 2 u u u<|wD zN7 u (cq [0])<|fun r1 _ k p2 c2=>k<|hP 4 2 0 (fun K=>K [1,2] [] [0,2] [(14,vb ((decide (y1<0))||(decide (r1.1≤y1))))] [])<|
 au
abbrev zVI:=@Cn.mk 148 0 _ @zLd
theorem zUo{y0:Int}{y1:Int}: zP qd prog 248 [.int .u64 y0,.int .u64 y1] [] [] (zOM y0 y1) fun r K=>K (.tuple #[.int .u64 r.1,.int .u64 r.2]) [] [] :=
 zO call248 func248 u fun X=>jA 2 u<|jA 3 u<|zJ<|zA 1 u<|qD (.int .u64 (uT .u64 y0 32))<|zA 1 u<|zL<|jA 3 u<|zJ<|zA 1 u<|qD (.int .u64 (uT .u64 y1 32))<|zA 1 u<|zL<|jA 4 u<|zJ<|zA 4 u<|
  qD (.int .u64 (uT .u64 (IntKind.u64.wrap ((vA .u64 y0 4294967295)*(vA .u64 y1 4294967295))) 32))<|zA 2 u<|zL<|jA 3 u<|zJ<|zA 1 u<|
  qD (.int .u64 (uT .u64 (IntKind.u64.wrap ((IntKind.u64.wrap ((uT .u64 y0 32)*(vA .u64 y1 4294967295)))+(uT .u64 (IntKind.u64.wrap ((vA .u64 y0 4294967295)*(vA .u64 y1 4294967295))) 32))) 32))<|zA 1 u<|zL<|jA 6 u<|zJ<|
  zA 6 u<|
  qD (.int .u64 (uT .u64 (IntKind.u64.wrap ((vA .u64 (IntKind.u64.wrap ((IntKind.u64.wrap ((uT .u64 y0 32)*(vA .u64 y1 4294967295)))+(uT .u64 (IntKind.u64.wrap ((vA .u64 y0 4294967295)*(vA .u64 y1 4294967295))) 32))) 4294967295)+(IntKind.u64.wrap ((vA .u64 y0 4294967295)*(uT .u64 y1 32))))) 32))<|
 au
abbrev zUd:=@Cn.mk 248 0 _ @zUo
attribute [instance] zVI zUd
theorem zQX{y0:Int}{y1:Int}: zP qd prog 194 [.int .u64 y0,.int .u64 y1] [] [] (zM8 y0 y1) fun r K=>K (.tuple #[.int .u64 r.1,.int .u64 r.2]) [] [] :=
 zO call194 func194 u fun X=>
 au
abbrev zWg:=@Cn.mk 194 0 _ @zQX
attribute [instance] zWg
theorem zEX{y0:List Int}{y1:Int}: zP qd prog 147 [sv p1 y0 c1,vi y1] [] [Rl (zH .i64) p1 c1 y0] (zCp y0 y1) fun r K=>∀ p2 c2 r_1,K (sv p2 r c2) [r_1] [Al (zH .i64) 3 r_1 p2 c2 r] :=
 zO call147 func147 u fun X=>jA 1 u<|wR (fun s1 K=>K [0,1] [] [0] [] []) (jA 2 u<|zV u (vM<|jno)<|
 au
)<|fun s1 _ k=>k<|zJ<|zA 2 u<|qD (.int .u64 (IntKind.u64.wrap (len y0)))<|
  zA 1 u<|qD (.int .u64 (IntKind.u64.wrap (y1)))<|wD zQX u d<|fun r1 _ k=>k<|zA 5 u<|zL<|wR (fun s2 K=>K [0,6] [] [0] [] []) (
  z7v (fun K=>K [0,6] [] [0] [(26,vb ((decide (0<r1.1))||(decide (9223372036854775807<r1.2))))] []) (
 au
)<|fun _ k=>k<|zV u (vM<|jno)<|
 au
)<|fun s2 _ k=>k<|zJ<|zA 1 u<|qD (vi (zM (r1.2)))<|jmk .s (e:=zH .i64) 3 (0:Int) (vi 0) vI u u<|fun x1 r_1 p2 c2=>zA 1 u<|zL<|zJ<|zA 2 u<|
  jcp .s 0 0 u (vwW 0 u) (srR (gk 1)) u u<|fun r_2=>zA 1 u<|zL<|zS<|zZ<|
  wP (fun s3 K=>∀ r_3,K [7] [(0,r_3)] [] [(8,vi s3.2)] [Ar (zH .i64) 3 r_3 p2 c2 (List.length x1) s3.1]) (gv (fun _ k=>k r_2) [0] (gq [0]))<|
  fun s3 _ k r_3=>k<|zS<|jA 4 u<|zV u (jC<|zZ<|jdS [] [] 10<|qB 7 [0,1,2] u<|jdV 3 0 u u u u<|fun u1 p3 c3 f1=>qB 4 [4,5] u<|jdW 6 0 u u u u<|fun x2=>qQ 7<|
  jcp (.f u) 0 1 u (vwV f1) (srA 0 0 u) u u<|fun r_4=>qU<|qB 0 [8,9] u<|wI<|
 au
)<|xF<|uP<|uS<|xD<|qN<|jA 2 u<|qP<|jrE 0 4 u u<|
 au
abbrev zSC:=@Cn.mk 147 0 _ @zEX
attribute [instance] zSC
set_option maxHeartbeats 2000000 in
theorem zV7{y0:qE}: zP qd prog 101 [.agg (yD y0 p1 c1).toArray] [] [Rl wK p1 c1 y0.2,Pt (vF 64 (zH .u8)) 5 0 yC] (zFG y0) fun r K=>∀ p2 c2 p3 c3,K (.tuple #[sv p2 r.1 c2,sv p3 r.2 c3]) [] [Rl (zH .i64) p2 c2 r.1,Rl (zH .i64) p3 c3 r.2] :=
 zO call101 func101 u fun X=>zJ<|vH .s u<|fun b1=>zA 2 u<|zL<|
  wR (fun s1 K=>∀ p2 c2 r_1 p3 c3 r_2,K [1] [(1,r_1),(2,r_2)] [0,1] [(2,sv p2 s1.1 c2),(3,sv p3 s1.2 c3)] [Al (zH .i64) 3 r_1 p2 c2 s1.1,Al (zH .i64) 3 r_2 p3 c3 s1.2]) (
  jdS [] [0] 9<|wE 1 0 u u<|yA 2 0 u u u u<|wE 4 0 u u<|yA 5 0 u u u u<|jd2 0 6 (uC (.f u) (e:=zH .i64) 3 [vi 3] ([3]:List Int) (rC vI rN)<|fun p4 c4=>qU<|jd2 3 6 (
  qK (.f u) [] [] zEX u u u (cq [0])<|fun r1 _ k p5 c5 r_3=>k<|qU<|qB 2 [7] u<|qQ 6<|jmk (.f u) (e:=zH .i64) 3 (0:Int) (vi 0) vI u u<|fun x1 r_4 p6 c6=>qU<|qB 0 [8] u<|wI<|
 au
) <|jcm<|jmk (.f u) (e:=zH .i64) 3 (0:Int) (vi 0) vI u u<|fun x2 r_5 p7 c7=>qU<|qQ 3<|qK (.f u) [] [] zEX u u u (cq [1])<|
  fun r2 _ k p8 c8 r_6=>k<|qU<|qB 0 [7,8] u<|wI<|
 au
) <|jcm<|jmk (.f u) (e:=zH .i64) 3 (0:Int) (vi 0) vI u u<|fun x3 r_7 p9 c9=>qU<|qQ 0<|
  uC (.f u) (e:=zH .i64) 3 [vi 3] ([3]:List Int) (rC vI rN)<|fun p10 c10=>qU<|qQ 3<|qK (.f u) [] [] zEX u u u (cq [0])<|fun r3 _ k p11 c11 r_8=>k<|qU<|qB 0 [7,8] u<|wI<|
 au
)<|fun s1 _ k p2 c2 r_1 p3 c3 r_2=>k<|zJ<|jalA .s (yF [] 40 (List.replicate 40 (0:Int)) [])<|fun b2=>zL<|
  wR (fun s2 K=>K [1,2,3,4] [(3,bx b2 219 (yF [] 40 s2 []))] [0,1,2,3] [] []) (zJ<|qC 1 u<|qJ 0 u u u<|zA 2 u<|zL<|zZ<|
  wP (fun s3 K=>K [1,2,3,4,27,28] [(3,bx b2 219 (yF [] 40 s3.2 []))] [0,1,2,3] [(29,vi s3.1)] []) (gv kk [0,1,2,3] (gq [0,1,2,3]))<|fun s3 _ k=>k<|jA 1 u<|zS<|zV u (jC<|zS<|zZ<|zJ<|yK 2 u u u<|fun x4 b3 o1=>
  yS true zUs (gk 0) u<|vD .s (.agg #[vi 0,vi 0])<|fun b4=>wA .s 4 u u u<|zL<|vM<|qC 1 u<|qJ 4 u u u<|jiL 40 u u<|fun u1 h1=>jlL 3 40 s3.2 [] [] h1 u u<|zA 1 u<|jiL 40 u u<|fun u2 h2=>
  jsL (zM ((vY s3.2 x4.2)+1)) .s 3 40 s3.2 [] [] h2 u u u<|
 au
)<|
 au
)<|fun s2 _ k=>k<|zJ<|
  zA 1 u<|uA (zH .i64) 3 <|zL<|
  wR (fun s4 K=>∀ p12 c12 r_9,K [1,2,3,4] [(4,r_9)] [1,2,3,4] [(7,sv p12 s4 c12)] [Al (zH .i64) 3 r_9 p12 c12 s4]) (
  zJ<|qC 0 u<|qJ 0 u u u<|zA 1 u<|zL<|zZ<|
  wP (fun s5 K=>∀ p13 c13 r_10,K [1,2,3,4,41] [(4,r_10)] [1,2,3,4] [(7,sv p13 s5.1 c13),(42,vi s5.2)] [Al (zH .i64) 3 r_10 p13 c13 s5.1]) (gv (fun _ k=>k none 0 []) [0,1,2,3,4] (gq [0,1,2,3,4]))<|
  fun s5 _ k p13 c13 r_10=>k<|jA 1 u<|zS<|zV u (jC<|zS<|zZ<|jA 2 u<|zJ<|zA 1 u<|jiL 40 u u<|fun u3 h3=>jlL 3 40 s2 [] [] h3 u u<|
 au
)<|
 au
)<|fun s4 _ k p12 c12 r_9=>k<|zS<|jA 1 u<|zZ<|
  wP (fun s6 K=>∀ r_12 r_13 p16 c16 r_14,K [1,4] [(1,r_12),(2,r_13),(3,bx b2 219 (yF [] 40 (a4 s6) [])),(4,r_14)] [3,4] [(2,.slice p2 (List.length s1.1) c2),(3,.slice p3 (List.length s1.2) c3),(7,sv p16 s6.2.2.1 c16),(9,vi s6.2.2.2.1)] [Ar (zH .i64) 3 r_12 p2 c2 (List.length s1.1) s6.1,Ar (zH .i64) 3 r_13 p3 c3 (List.length s1.2) s6.2.1,Al (zH .i64) 3 r_14 p16 c16 s6.2.2.1]) (gv (fun _ k=>k r_1 r_2 p12 c12 r_9) [0,1,2,3,4] (gq [1,2,0,3,4]))<|
  fun s6 _ k r_12 r_13 p16 c16 r_14=>k<|zS<|jA 3 u<|zV u (jC<|zS<|zZ<|
  wR (fun s7 K=>∀ r_15 r_16,K [1,2,3,4,7,9] [(1,r_15),(2,r_16)] [2,3,4] [] [Ar (zH .i64) 3 r_15 p2 c2 (List.length s1.1) s7.1,Ar (zH .i64) 3 r_16 p3 c3 (List.length s1.2) s7.2]) (hI 0 19 1 (fun(s8:(List Int)×(List Int)×Int) K=>∀ r_17 r_18,K [1,2,3,4,7,9,59,60] [(1,.r r_17),(2,.r r_18)] [2,3,4] [(61,vi s8.2.2)] [Ar (zH .i64) 3 r_17 p2 c2 (List.length s1.1) s8.1,Ar (zH .i64) 3 r_18 p3 c3 (List.length s1.2) s8.2.1])<|
 au
)<|fun s7 _ k r_15 r_16=>k<|zJ<|zA 1 u<|uA (zH .i64) 3 <|zL<|zS<|jA 3 u<|
  zZ<|
  wP (fun s9 K=>∀ r_21 r_22 p17 c17 r_23,K [1,2,3,4,9,73,74] [(1,r_21),(2,r_22),(3,bx b2 219 (yF [] 40 (a4 s9) [])),(5,r_23)] [3,4,5] [(12,sv p17 s9.2.2.1 c17),(75,vi s9.2.2.2.1)] [Ar (zH .i64) 3 r_21 p2 c2 (List.length s1.1) s9.1,Ar (zH .i64) 3 r_22 p3 c3 (List.length s1.2) s9.2.1,Al (zH .i64) 3 r_23 p17 c17 s9.2.2.1]) (gv (fun _ k=>k r_15 r_16 none 0 []) [0,1,2,3,4,5] (gq [1,2,0,3,4,5]))<|
  fun s9 _ k r_21 r_22 p17 c17 r_23=>k<|jA 1 u<|zS<|zV u (jC<|zS<|zZ<|zJ<|jia 3 u u u<|fun x9 h8 b8 o5 hp4=>jlA 4 3 sI false oI u hp4 h8 u<|zA 1 u<|zL<|zJ<|wW 0 2 u u u<|zA 1 u<|
  wD zLd u (cq [4,5])<|fun r4 _ k p18 c18=>k<|zA 2 u<|zL<|zZ<|
  wP (fun s10 K=>∀ r_24 r_25 p19 c19 r_26,K [1,2,3,4,9,73,74,75,81,82] [(1,r_24),(2,r_25),(3,bx b2 219 (yF [] 40 (a4 s10) [])),(5,r_26)] [4,0,5,6] [(12,sv p19 s10.2.2.1 c19),(83,vi s10.2.2.2.1)] [Ar (zH .i64) 3 r_24 p2 c2 (List.length s1.1) s10.1,Ar (zH .i64) 3 r_25 p3 c3 (List.length s1.2) s10.2.1,Al (zH .i64) 3 r_26 p19 c19 s10.2.2.1]) (gv (fun _ k=>k r_21 r_22 p17 c17 r_23) [0,1,2,3,4,5] (gq [1,2,3,4,0,5,6]))<|
  fun s10 _ k r_24 r_25 p19 c19 r_26=>k<|jA 1 u<|zS<|zV u (jC<|zS<|zZ<|zJ<|yK 4 u u u<|fun x10 b9 o6=>yS false oI (gk 0) u<|zA 1 u<|zL<|zS<|zJ<|zA 2 u<|jia 1 u u u<|fun x11 h9 b10 o7 hp5=>
  jlA 1 1 sI false oI u hp5 h9 u<|zA 1 u<|zL<|zV u (
 au
)<|jC<|zJ<|zA 5 u<|jia 1 u u u<|fun x12 h10 b11 o8 hp6=>
  jsA .s 1 1 sI 2 false u hp6 h10 u u vI<|fun r_27=>jia 3 u u u<|fun x13 h11 b12 o9 hp7=>jsA .s 2 3 sI s6.2.2.2.1 false u hp7 h11 u u vI<|fun r_28=>zL<|zJ<|wW 0 2 u u u<|zA 1 u<|
  wD zLd u (cq [8,9])<|fun r5 _ k p20 c20=>k<|zA 2 u<|zL<|zZ<|
  wP (fun s11 K=>∀ p21 c21 r_29,K [1,2,3,4,9,73,74,75,81,82,83,101,102] [(3,bx b2 219 (yF [] 40 s11.2.2 [])),(5,r_29)] [2,1,7,8,0,9,10] [(12,sv p21 s11.1 c21),(103,vi s11.2.1)] [Al (zH .i64) 3 r_29 p21 c21 s11.1]) (gv (fun _ k=>k p19 c19 r_26) [0,1,2,3,4,5] (gq [6,2,1,7,8,0,9,10]))<|
  fun s11 _ k p21 c21 r_29=>k<|jA 1 u<|zS<|zV u (jC<|zS<|zZ<|zJ<|yK 5 u u u<|fun x14 b13 o10=>yS false oI (gk 0) u<|zA 1 u<|zL<|zJ<|zA 1 u<|jiL 40 u u<|fun u4 h12=>jlL 3 40 s11.2.2 [] [] h12 u u<|zA 1 u<|
  jiL 40 u u<|fun u5 h13=>jsL (zM ((vY s11.2.2 x14)-1)) .s 3 40 s11.2.2 [] [] h13 u u u<|zL<|
  wR (fun s12 K=>K [1,2,3,4,9,12,18,73,74,75,81,82,83,101,102,103] [] [2,3,1,4,5,6,7,8] [(122,vb s12)] []) (vM<|zA 1 u<|
  jiL 40 u u<|fun u6 h14=>jlL 3 40 (xZ 40 s11.2.2 x14 (zM ((vY s11.2.2 x14)-1))) [] [] h14 u u<|
 au
)<|
 au
)<|
 au
)<|
 au
)<|
 au
)<|
  xF<|uP<|uS<|xD<|qN<|jA 4 u<|qP<|yU 1 0 u u<|yU 2 2 u u<|jre 1 2 u u<|jre 1 3 u u<|
 au
abbrev zV5:=@Cn.mk 101 0 _ @zV7
attribute [instance] zV5
theorem zPE{y0:qE}: zP qd prog 51 [.agg (yD y0 p1 c1).toArray] [] [Rl wK p1 c1 y0.2,Pt (vF 64 (zH .u8)) 5 0 yC] (zDx y0) fun r K=>∀ p2 c2,K (sv p2 r c2) [] [Rl (zH .i64) p2 c2 r] :=
 zO call51 func51 u fun X=>
 au
abbrev zV0:=@Cn.mk 51 0 _ @zPE
theorem zLn{y0:List Int}{y1:Int}: zP qd prog 50 [sv p1 y0 c1,vi y1] [] [Rl (zH .i64) p1 c1 y0] (zBX y0 y1) fun r K=>∀ p2 c2,K (sv p2 r c2) [] [Rl (zH .i64) p2 c2 r] :=
 zO call50 func50 u fun X=>hR 5 0 (zH .i64) 3<|hI 0 3 1 (fun(s1:(List Int)×Int) K=>∀ p2 c2 r_1,K [1,8,9] [(0,.r r_1)] [1] [(5,sv p2 s1.1 c2),(10,vi s1.2)] [Al (zH .i64) 3 r_1 p2 c2 s1.1])<|
 au
abbrev zVH:=@Cn.mk 50 0 _ @zLn
theorem zPR{y0:List qZ}: zP qd prog 73 [sv p1 y0 c1] [] [Rl tN p1 c1 y0] (zEh y0) fun r K=>∀ p2 c2,K (sv p2 r c2) [] [Rl tN p2 c2 r] :=
 zO call73 func73 u fun X=>jA 1 u<|zS<|zJ<|zA 1 u<|jv (fun h=>z7O h u underlying25)<|zL<|jnl (m1:=some ([]:List qZ)) u (gk 0) (fun h=>by first|(rw[h];done)|(rw[h];rfl)|(simp[h,qG];done)) (
 au
)<|hO 5<|
 au
abbrev zPZ:=@Cn.mk 73 0 _ @zPR
theorem zOZ{y0:List wB}: zP qd prog 75 [sv p1 y0 c1] [] [Rl zB0 p1 c1 y0] (zDj y0) fun r K=>∀ p2 c2,K (sv p2 r c2) [] [Rl zB0 p2 c2 r] :=
 zO call75 func75 u fun X=>jA 1 u<|zS<|zJ<|zA 1 u<|jv (fun h=>z7O h u underlying27)<|zL<|jnl (m1:=some ([]:List wB)) u (gk 0) (fun h=>by first|(rw[h];done)|(rw[h];rfl)|(simp[h,qG];done)) (
 au
)<|hO 5<|
 au
abbrev zOR:=@Cn.mk 75 0 _ @zOZ
theorem zRn{y0:List zR}: zP qd prog 74 [sv p1 y0 c1] [] [Rl yT p1 c1 y0] (zGw y0) fun r K=>∀ p2 c2 r_1,K (sv p2 r c2) [r_1] [Al yT 93 r_1 p2 c2 r] :=
 zO call74 func74 u fun X=>jA 1 u<|zS<|zJ<|zA 1 u<|jv (fun h=>z7O h u underlying26)<|zL<|jnl (m1:=some ([]:List zR)) u (gk 0) (fun h=>by first|(rw[h];done)|(rw[h];rfl)|(simp[h,qG];done)) (jA 1 u<|qP<|yX<|uA yT 93<|
  jrE 0 2 u u<|
 au
)<|hO 5<|
 au
abbrev zSZ:=@Cn.mk 74 0 _ @zRn
attribute [instance] zV0 zVH zPZ zOR zSZ
set_option maxHeartbeats 2000000 in
theorem zNB{y0:zI}{y1:List zC}: zP qd prog 37 [.agg (vJ y0 p1 c1 p2 c2 p3 c3).toArray,sv p4 y1 c4] [] (vO y0 p1 c1 p2 c2 p3 c3 [Rl qH p4 c4 y1]) (zDE y0 y1) fun r K=>∀ p5 c5 p6 c6 r_1 p7 c7,K (.agg #[sv p5 r.1 c5,sv p6 r.2.1 c6,sv p7 r.2.2 c7]) [r_1] [Rl tN p5 c5 r.1,Al yT 93 r_1 p6 c6 r.2.1,Rl zB0 p7 c7 r.2.2] :=
 zO call37 func37 u fun X=>zJ<|vH .s u<|fun b1=>vD .s (.agg k1)<|fun b2=>zL<|
  wR (fun s1 K=>∀ b3 p5 c5 p6 c6 r_1 p7 c7,K [1,2,4] [(2,bx b3 29 [sv p5 s1.1 c5,sv p6 s1.2.1 c6,sv p7 s1.2.2 c7]),(3,r_1)] [3,0,1,2] [(5,pt b3 0)] [Rl tN p5 c5 s1.1,Al yT 93 r_1 p6 c6 s1.2.1,Rl zB0 p7 c7 s1.2.2]) (hD 1 [] [0] (.l [0,1,3,4,6,7] (.w 2 10 (.w 5 10 (.w 8 10 (.l [9] (.f 10 (.f 11 .e))) (.f 8 (.l [9] (.f 11 .e)))) (.f 5 (.f 8 (.l [9] (.f 11 .e))))) (.f 2 (.f 5 (.f 8 (.l [9] (.f 11 .e)))))))<|
 au
)<|fun s1 _ k b3 p5 c5 p6 c6 r_1 p7 c7=>k<|
  wR (fun s2 K=>∀ p17 c17 r_5,K [4,5] [(0,[]),(2,bx b3 29 [sv p5 s1.1 c5,sv p17 s2 c17,sv p7 s1.2.2 c7]),(3,r_5)] [0,2] [] [Al yT 93 r_5 p17 c17 s2]) (
  zJ<|qC 1 u<|qJ 0 u u u<|zA 2 u<|zL<|zZ<|
  wP (fun s3 K=>∀ p18 c18 r_6,K [1,2,4,5,21,22] [(2,bx b3 29 [sv p5 s1.1 c5,sv p18 s3.2 c18,sv p7 s1.2.2 c7]),(3,r_6)] [3,5,4,6,0,2] [(23,vi s3.1)] [Al yT 93 r_6 p18 c18 s3.2]) (gv (fun _ k=>k p6 c6 r_1) [0,1,2,3] (gq [1,3,5,4,6,0,2]))<|
  fun s3 _ k p18 c18 r_6=>k<|jA 1 u<|zS<|zV u (jC<|zS<|zZ<|zJ<|zA 1 u<|yK 2 u u u<|fun x1 b8 o1=>yS true zYr (gk 0) u<|fun p19 c19=>vD .s (.agg k3)<|fun b9=>
  zA 1 u<|wA .s 4 u u u<|zL<|tB [] [2,4] 9<|wE 0 1 u u<|yA 1 2 u u u u<|qB 6 [2] u<|wE 3 3 u u<|yA 4 4 u u u u<|qQ 5<|qK (.f u) [] [] zEo u u u (cq [0])<|
  fun r10 _ k p20 c20 r_7=>k<|qU<|jdI 6 3 u u u u<|fun x2 h1 b10 o2 hp1=>wE 7 3 u u<|yU 5 0 u u<|qQ 8<|jsA (.f u) 3 4 sI.snd.snd.snd.fst r10 false u hp1 h1 u u (vL (gk 0))<|fun r_8=>qU<|wI<|qN<|zJ<|qC 2 u<|
  qJ 0 u u u<|zA 2 u<|zL<|zZ<|
  jbL (fun q_=>[bx b1 29 (vJ y0 p1 c1 p2 c2 p3 c3),bx b2 29 k7,bx b3 29 [sv p5 s1.1 c5,.slice p18 q_ c18,sv p7 s1.2.2 c7],r_8,bx b9 93 (zNN x1 p19 c19),[]]) (gk 0) u<|
  wP (fun s4 K=>∀ p21 c21 r_9,K [1,2,4,5,6,7,21,22,23,37,38] [(2,bx b3 29 [sv p5 s1.1 c5,sv p21 s4.2 c21,sv p7 s1.2.2 c7]),(3,r_9)] [7,8,10,9,11,12,4] [(39,vi s4.1)] [Al yT 93 r_9 p21 c21 s4.2]) (gv (fun _ k=>k p18 c18 r_8) [0,1,2,3,4,905] (gq [0,7,8,10,9,11,12,4]))<|
  fun s4 _ k p21 c21 r_9=>k<|jA 1 u<|zS<|zV u (jC<|zS<|zZ<|zJ<|yK 3 u u u<|fun x3 b11 o3=>yS true zXe (gk 0) u<|vD .s (.agg #[vs [],vi 0,vb false,vs []])<|fun b12=>wA .s 6 u u u<|zL<|
  wR (fun s5 K=>K [1,2,4,5,6,7,9,21,22,23,37,38,39] [] [2,3,4,5,6,1,7,8] [(58,vb s5)] []) (
 au
)<|fun s5 _ k=>k<|zV u (vM<|qC 1 u<|qJ 2 u u u<|zA 1 u<|qC 1 u<|qJ 6 u u u<|jia 5 u u u<|fun x4 h2 b13 o4 hp2=>qC 2 u<|
  jsA .s 3 5 sI.snd.snd.fst x3.2.1 false u hp2 h2 u u vI<|fun r_10=>wN<|yL<|qN<|jB 2 u<|
  jbL (fun q_=>[bx b1 29 (vJ y0 p1 c1 p2 c2 p3 c3),bx b2 29 k7,bx b3 29 [sv p5 s1.1 c5,.slice p21 q_ c21,sv p7 s1.2.2 c7],r_10,bx b9 93 (zNN x1 p19 c19),[],bx b12 96 (zO3 x3)]) (gk 0) u<|
 au
)<|
 au
)<|
 au
)<|
 au
)<|
 au
abbrev zTm:=@Cn.mk 37 0 _ @zNB
theorem zPD{y0:zI}{y1:vQ}: zP qd prog 14 [.agg (vJ y0 p1 c1 p2 c2 p3 c3).toArray,.agg #[vi y1.1,vi y1.2]] [] (vO y0 p1 c1 p2 c2 p3 c3 [Pt (vF 64 (zH .u8)) 5 0 yC]) (zDO y0 y1) fun r K=>∀ p4 c4 p5 c5 p6 c6 p7 c7 p8 c8 p9 c9,K (.tuple #[.agg (zUR r.1 p4 c4 p5 c5 p6 c6 p7 c7 p8 c8 p9 c9).toArray,vi r.2]) [] (zTu r.1 p4 c4 p5 c5 p6 c6 p7 c7 p8 c8 p9 c9 []) :=
 zO call14 func14 u fun X=>zJ<|vH .s u<|fun b1=>vH .s u<|fun b2=>vD .s (.agg k2)<|fun b3=>zA 1 u<|zL<|zJ<|wW 0 3 u u u<|
  wD zPO u (cq [0,1,2])<|fun r1 _ k p4 c4=>k<|zA 5 u<|zL<|zS<|jA 2 u<|zV u (zJ<|qD (.agg k2)<|zA 1 u<|
  wA .s 2 u u u<|zA 1 u<|zL<|qP<|yX<|
  uI u (lC 2 (.agg k2) u u (lT u lN)) (fun _ k=>k none 0 none 0 none 0 none 0 none 0 none 0) [] ⟨gn,gn,gn,gn,gn,gn,d⟩)<|jC<|
  zS<|
  z7v (fun K=>K [2,3,4,6] [] [0,1,2,3,4] [(37,vb (if y1.1 != 1 then(y1.1 != 2)||((y1.2 != 1)&&(y1.2 != 2)) else(y1.2 != 1)&&(y1.2 != 2)))] []) (
  vM<|qC 0 u<|qJ 1 u u u<|zA 2 u<|jsp (b:=y1.1 != 1) 23 u (fun hb1=>qC 0 u<|qJ 1 u u u<|zA 1 u<|qD (vb (y1.1 != 2))<|zA 1 u<|jsp (b:=y1.1 != 2) 28 u (fun hb2=>zA 8 u<|qD (vb true)<|wN<|
  xR 37 (vb (if y1.1 != 1 then(y1.1 != 2)||((y1.2 != 1)&&(y1.2 != 2)) else(y1.2 != 1)&&(y1.2 != 2))) u (by rw[hb1,hb2];rfl)<|qI (gv kk [0,1,2] (gq [0,1,2,3,4])))<|fun hb2=>qC 1 u<|qJ 1 u u u<|zA 2 u<|
  jsp (b:=y1.2 != 1) 32 u (fun hb3=>qC 1 u<|qJ 1 u u u<|zA 1 u<|qD (vb (y1.2 != 2))<|qD (vb (y1.2 != 2))<|wN<|
  xR 37 (vb (if y1.1 != 1 then(y1.1 != 2)||((y1.2 != 1)&&(y1.2 != 2)) else(y1.2 != 1)&&(y1.2 != 2))) u (by rw[hb1,hb2,hb3];rfl)<|qI (gv kk [0,1,2] (gq [0,1,2,3,4])))<|fun hb3=>zA 3 u<|qD (vb false)<|
  qD (vb false)<|wN<|xR 37 (vb (if y1.1 != 1 then(y1.1 != 2)||((y1.2 != 1)&&(y1.2 != 2)) else(y1.2 != 1)&&(y1.2 != 2))) u (by rw[hb1,hb2,hb3];rfl)<|qI (gv kk [0,1,2] (gq [0,1,2,3,4])))<|fun hb1=>zA 3 u<|
  qD (vb false)<|zA 1 u<|qC 1 u<|qJ 1 u u u<|zA 2 u<|jsp (b:=y1.2 != 1) 32 u (fun hb4=>qC 1 u<|qJ 1 u u u<|zA 1 u<|qD (vb (y1.2 != 2))<|qD (vb (y1.2 != 2))<|wN<|
  xR 37 (vb (if y1.1 != 1 then(y1.1 != 2)||((y1.2 != 1)&&(y1.2 != 2)) else(y1.2 != 1)&&(y1.2 != 2))) u (by rw[hb1,hb4];rfl)<|qI (gv kk [0,1,2] (gq [0,1,2,3,4])))<|fun hb4=>zA 3 u<|qD (vb false)<|qD (vb false)<|
  wN<|xR 37 (vb (if y1.1 != 1 then(y1.1 != 2)||((y1.2 != 1)&&(y1.2 != 2)) else(y1.2 != 1)&&(y1.2 != 2))) u (by rw[hb1,hb4];rfl)<|qI (gv kk [0,1,2] (gq [0,1,2,3,4])))<|fun _ k=>k<|zV u (zJ<|
  qD (.agg k2)<|wA .s 2 u u u<|zA 1 u<|zL<|qP<|yX<|
  uI u (lC 2 (.agg k2) u u (lT u lN)) (fun _ k=>k none 0 none 0 none 0 none 0 none 0 none 0) [] ⟨gn,gn,gn,gn,gn,gn,d⟩)<|jC<|
  zJ<|zA 2 u<|wW 0 3 u u u<|zA 1 u<|wW 1 2 u u u<|wD zLb u (cq [1,2,3,0])<|fun r2 _ k p5 c5=>k<|wD zN0 u (cq [0])<|fun r3 _ k p6 c6=>k<|zA 3 u<|vD .s (.agg k5)<|
  fun b4=>wA .s 3 u u u<|zA 1 u<|zL<|zS<|jA 2 u<|zV u (zJ<|qD (.agg k2)<|zA 1 u<|wA .s 2 u u u<|
  zA 1 u<|zL<|qP<|yX<|
  uI u (lC 2 (.agg k2) u u (lT u lN)) (fun _ k=>k none 0 none 0 none 0 none 0 none 0 none 0) [] ⟨gn,gn,gn,gn,gn,gn,d⟩)<|jC<|
  zJ<|zA 1 u<|wW 3 2 u u u<|wD zPE u (cq [0,6])<|fun r4 _ k p7 c7=>k<|wD zLn u (cq [0])<|fun r5 _ k p8 c8=>k<|wD zK6 u (cq [4,0])<|fun r6 _ k p9 c9=>k<|zA 1 u<|zL<|zJ<|
  wW 0 3 u u u<|zA 1 u<|wD zNB u (cq [6,7,8,0])<|fun r7 _ k p10 c10 p11 c11 r_1 p12 c12=>k<|zA 1 u<|
  qD (.agg #[sv p10 r7.1 c10,sv p11 r7.2.1 c11,sv p12 r7.2.2 c12,sv p4 r1.1 c4,.slice none 0 0,vi 0,.slice none 0 0])<|
  vD .s (.agg k2)<|fun b5=>wA .s 5 u u u<|zL<|zJ<|qC 0 u<|wW 5 3 u u u<|zA 1 u<|wW 1 2 u u u<|
  yU 4 1 u u<|wD zLb u (cq [1,0,3,9])<|fun r8 _ k p13 c13=>k<|qC 4 u<|wA .s 5 u u u<|zL<|zS<|zJ<|zA 2 u<|qC 4 u<|qJ 5 u u u<|wD zN0 u (cq [0])<|fun r9 _ k p14 c14=>k<|zA 3 u<|
  qC 5 u<|wA .s 5 u u u<|zA 1 u<|zL<|jA 2 u<|zV u (zJ<|qD (.agg k2)<|zA 1 u<|wA .s 2 u u u<|zA 1 u<|
  zL<|qP<|yX<|
  uI u (lC 2 (.agg k2) u u (lT u lN)) (fun _ k=>k none 0 none 0 none 0 none 0 none 0 none 0) [] ⟨gn,gn,gn,gn,gn,gn,d⟩)<|jC<|
  zJ<|wW 5 7 u u u<|wA .s 2 u u u<|zA 1 u<|zL<|qP<|
  uI u (lC 2 (.agg #[sv p10 r7.1 c10,sv p11 r7.2.1 c11,sv p12 r7.2.2 c12,sv p4 r1.1 c4,sv p13 r8 c13,vi r9.1.1,sv p14 r9.1.2 c14]) u u (lT u lN)) (fun _ k=>k p10 c10 p11 c11 p12 c12 p4 c4 p13 c13 p14 c14) [] (gq [3,2,5,11,1,0])
abbrev zVR:=@Cn.mk 14 0 _ @zPD
attribute [instance] zTm zVR
theorem zEw:zP qd prog 152 [.func (.func 154) #[] #[]] [] [] (zEx) fun r K=>∀ b1,K (.func (.func 199) #[] #[pt b1 0]) [bx b1 182 [.func (.func 154) #[] #[]]] [] :=
 zO call152 func152 u fun X=>
 au
abbrev zJl:=@Cn.mk 152 0 _ @zEw
attribute [instance] zJl
theorem zEb:zP qd prog 152 [.func (.func 156) #[] #[]] [] [] (zE6) fun r K=>∀ b1,K (.func (.func 199) #[] #[pt b1 0]) [bx b1 182 [.func (.func 156) #[] #[]]] [] :=
 zO call152 func152 u fun X=>
 au
abbrev zJ3:=@Cn.mk 152 1 _ @zEb
attribute [instance] zJ3
theorem zGR:zP qd prog 152 [.func (.func 155) #[] #[]] [] [] (zGG) fun r K=>∀ b1,K (.func (.func 199) #[] #[pt b1 0]) [bx b1 182 [.func (.func 155) #[] #[]]] [] :=
 zO call152 func152 u fun X=>
 au
abbrev zKd:=@Cn.mk 152 2 _ @zGR
attribute [instance] zKd
theorem zGd:zP qd prog 152 [.func (.func 153) #[] #[]] [] [] (zGc) fun r K=>∀ b1,K (.func (.func 199) #[] #[pt b1 0]) [bx b1 182 [.func (.func 153) #[] #[]]] [] :=
 zO call152 func152 u fun X=>
 au
abbrev zLJ:=@Cn.mk 152 3 _ @zGd
attribute [instance] zLJ
theorem zGe:zP qd prog 152 [.func (.func 198) #[] #[pt b1 0]] [bx b1 222 [.func (.func 151) #[] #[]]] [] (zGf) fun r K=>∀ b2,K (.func (.func 199) #[] #[pt b2 0]) [bx b1 222 [.func (.func 151) #[] #[]],bx b2 182 [.func (.func 198) #[] #[pt b1 0]]] [] :=
 zO call152 func152 u fun X=>
 au
abbrev zLB:=@Cn.mk 152 4 _ @zGe
theorem zF0:zP qd prog 150 [.func (.func 151) #[] #[]] [] [] (zFM) fun r K=>∀ b1 b2,K (.func (.func 199) #[] #[pt b1 0]) [bx b1 182 [.func (.func 198) #[] #[pt b2 0]],bx b2 222 [.func (.func 151) #[] #[]]] [] :=
 zO call150 func150 u fun X=>zJ<|vH .s u<|fun b1=>zA 1 u<|zL<|zJ<|zA 1 u<|qK .s [0] [] zGe u u u d<|fun r1 _ k b2=>k<|zA 1 u<|zL<|qP<|yY u u (fun _ k=>k b2 b1) [1,0] d
abbrev zKH:=@Cn.mk 150 0 _ @zF0
attribute [instance] zLB zKH
theorem zFe:zP qd prog 152 [.func (.func 198) #[] #[pt b1 0]] [bx b1 222 [.func (.func 158) #[] #[]]] [] (zFg) fun r K=>∀ b2,K (.func (.func 199) #[] #[pt b2 0]) [bx b1 222 [.func (.func 158) #[] #[]],bx b2 182 [.func (.func 198) #[] #[pt b1 0]]] [] :=
 zO call152 func152 u fun X=>
 au
abbrev zK3:=@Cn.mk 152 5 _ @zFe
theorem zIE:zP qd prog 150 [.func (.func 158) #[] #[]] [] [] (zIF) fun r K=>∀ b1 b2,K (.func (.func 199) #[] #[pt b1 0]) [bx b1 182 [.func (.func 198) #[] #[pt b2 0]],bx b2 222 [.func (.func 158) #[] #[]]] [] :=
 zO call150 func150 u fun X=>zJ<|vH .s u<|fun b1=>zA 1 u<|zL<|zJ<|zA 1 u<|qK .s [0] [] zFe u u u d<|fun r1 _ k b2=>k<|zA 1 u<|zL<|qP<|yY u u (fun _ k=>k b2 b1) [1,0] d
abbrev zM6:=@Cn.mk 150 1 _ @zIE
attribute [instance] zK3 zM6
theorem zFf:zP qd prog 152 [.func (.func 198) #[] #[pt b1 0]] [bx b1 222 [.func (.func 157) #[] #[]]] [] (zFd) fun r K=>∀ b2,K (.func (.func 199) #[] #[pt b2 0]) [bx b1 222 [.func (.func 157) #[] #[]],bx b2 182 [.func (.func 198) #[] #[pt b1 0]]] [] :=
 zO call152 func152 u fun X=>
 au
abbrev zK0:=@Cn.mk 152 6 _ @zFf
theorem zIW:zP qd prog 150 [.func (.func 157) #[] #[]] [] [] (zIP) fun r K=>∀ b1 b2,K (.func (.func 199) #[] #[pt b1 0]) [bx b1 182 [.func (.func 198) #[] #[pt b2 0]],bx b2 222 [.func (.func 157) #[] #[]]] [] :=
 zO call150 func150 u fun X=>zJ<|vH .s u<|fun b1=>zA 1 u<|zL<|zJ<|zA 1 u<|qK .s [0] [] zFf u u u d<|fun r1 _ k b2=>k<|zA 1 u<|zL<|qP<|yY u u (fun _ k=>k b2 b1) [1,0] d
abbrev zMj:=@Cn.mk 150 2 _ @zIW
attribute [instance] zK0 zMj
theorem zPH:zP qd prog 103 [] [] [] (zL6) fun r K=>∀ b1 b2 b3 b4 b5 b6 b7 b8 b9 b10 b11,K (.slice (some ⟨b1,0,none⟩) 10 10) [bx b1 182 [.nilFunc,.func (.func 199) #[] #[pt b2 0],.func (.func 199) #[] #[pt b4 0],.func (.func 199) #[] #[pt b5 0],.func (.func 199) #[] #[pt b6 0],.func (.func 199) #[] #[pt b7 0],.func (.func 199) #[] #[pt b8 0],.func (.func 199) #[] #[pt b10 0],.func (.func 159) #[] #[],.func (.func 160) #[] #[]],bx b2 182 [.func (.func 198) #[] #[pt b3 0]],bx b3 222 [.func (.func 151) #[] #[]],bx b4 182 [.func (.func 153) #[] #[]],bx b5 182 [.func (.func 154) #[] #[]],bx b6 182 [.func (.func 155) #[] #[]],bx b7 182 [.func (.func 156) #[] #[]],bx b8 182 [.func (.func 198) #[] #[pt b9 0]],bx b9 222 [.func (.func 157) #[] #[]],bx b10 182 [.func (.func 198) #[] #[pt b11 0]],bx b11 222 [.func (.func 158) #[] #[]]] [] :=
 zO call103 func103 u fun X=>jA 1 u<|zJ<|wD zF0 u d<|fun r1 _ k b1 b2=>k<|wD zGd u d<|fun r2 _ k b3=>k<|wD zEw u d<|fun r3 _ k b4=>k<|
  wD zGR u d<|fun r4 _ k b5=>k<|wD zEb u d<|fun r5 _ k b6=>k<|wD zIW u d<|fun r6 _ k b7 b8=>k<|wD zIE u d<|
  fun r7 _ k b9 b10=>k<|
  jbF .s 182 [.nilFunc,.func (.func 199) #[] #[pt b1 0],.func (.func 199) #[] #[pt b3 0],.func (.func 199) #[] #[pt b4 0],.func (.func 199) #[] #[pt b5 0],.func (.func 199) #[] #[pt b6 0],.func (.func 199) #[] #[pt b7 0],.func (.func 199) #[] #[pt b9 0],.func (.func 159) #[] #[],.func (.func 160) #[] #[]]<|
 au
abbrev zV9:=@Cn.mk 103 0 _ @zPH
theorem zSz{y0:qE}: zP qd prog 151 [.agg (yD y0 p1 c1).toArray] [] [Rl wK p1 c1 y0.2,Pt (vF 64 (zH .u8)) 5 0 yC] (zFN y0) fun r K=>∀ p2 c2,K (.tuple #[sv p2 r.1 c2,vi r.2]) [] [Rl (zH .i64) p2 c2 r.1] :=
 zO call151 func151 u fun X=>
 au
abbrev zTf:=@Cn.mk 151 0 _ @zSz
attribute [instance] zV9 zTf
theorem zJ5{y0:qE}: wL qd prog 198 [.agg (yD y0 p1 c1).toArray,pt b1 0] [bx b1 222 [.func (.func 151) #[] #[]]] [Rl wK p1 c1 y0.2,Pt (vF 64 (zH .u8)) 5 0 yC] (zAr y0) fun L r K=>∀ p2 c2,K (.tuple #[sv p2 r.1 c2,vi r.2]) L [Rl (zX (zH .i64)) p2 c2 r.1] :=
 zO call198 func198 u fun X=>
 au
abbrev zJ0:=@Cn.mk 198 0 _ @zJ5
attribute [instance] zJ0
theorem zFh{y0:qE}: wL qd prog 199 [.agg (yD y0 p1 c1).toArray,pt b1 0] [bx b1 182 [.func (.func 198) #[] #[pt b2 0]],bx b2 222 [.func (.func 151) #[] #[]]] [Rl wK p1 c1 y0.2,Pt (vF 64 (zH .u8)) 5 0 yC] (zBR y0) fun L r K=>∀ p2 c2,K (.tuple #[sv p2 r.1 c2,vi r.2]) L [Rl (zX (zH .i64)) p2 c2 r.1] :=
 zO call199 func199 u fun X=>hR 7 3 (zX (zH .i64)) 22<|hI 0 6 1 (fun(s1:(List (List Int))×Int) K=>∀ p3 c3 r_1,K [19,20] [(2,.r []),(3,.r r_1)] [1,3] [(7,sv p3 s1.1 c3),(21,vi s1.2)] [Al (zX (zH .i64)) 22 r_1 p3 c3 s1.1])<|
 au
abbrev zKV:=@Cn.mk 199 0 _ @zFh
theorem zTF{y0:qE}{y1:List Int}: zP qd prog 261 [.agg (yD y0 p1 c1).toArray,sv p2 y1 c2] [] [Rl wK p1 c1 y0.2,Rl (zH .i64) p2 c2 y1] (zFQ y0 y1) fun r K=>K (vb r) [] [] :=
 zO call261 func261 u fun X=>hI 0 2 1 (fun(s1:Int) K=>K [1,2,7,8] [] [1,0] [(9,vi s1)] [])<|hI 1 4 0 (fun(s2:Bool) K=>K [1,2,7,8,9] [] [1,2] [(34,vb s2)] [])<|
 au
abbrev zTV:=@Cn.mk 261 0 _ @zTF
end Go.Proofs.YtgdgcdmdogdmgaaGreatDoor
