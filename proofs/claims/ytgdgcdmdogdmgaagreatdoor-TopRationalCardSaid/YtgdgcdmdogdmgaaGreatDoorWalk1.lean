/- A part. Conditions: none. -/
import Derived.Test.YtgdgcdmdogdmgaaGreatDoorProg
import Derived.Test.YtgdgcdmdogdmgaaGreatDoorOps5
import Derived.Test.YtgdgcdmdogdmgaaGreatDoorModels
import Derived.Test.YtgdgcdmdogdmgaaGreatDoorSort
import Derived.Test.YtgdgcdmdogdmgaaGreatDoorSort2
import Derived.Test.YtgdgcdmdogdmgaaGreatDoorShelfP
import Derived.Test.YtgdgcdmdogdmgaaGreatDoorArrl
import Derived.Test.YtgdgcdmdogdmgaaGreatDoorSb4
import Derived.Test.YtgdgcdmdogdmgaaGreatDoorFsl
import Derived.Test.YtgdgcdmdogdmgaaGreatDoorArrw
import Derived.Test.YtgdgcdmdogdmgaaGreatDoorDel
import Derived.Test.YtgdgcdmdogdmgaaGreatDoorGro
import Derived.Test.YtgdgcdmdogdmgaaGreatDoorAu
import Derived.Test.YtgdgcdmdogdmgaaGreatDoorApW
import Derived.Test.YtgdgcdmdogdmgaaGreatDoorMpr
import Derived.Test.YtgdgcdmdogdmgaaGreatDoorPlQ1
namespace Go.Proofs.YtgdgcdmdogdmgaaGreatDoor
open Go Go.GD Go.Proofs.Tryz
set_option autoImplicit false
set_option linter.unusedVariables false
set_option maxRecDepth 100000
set_option linter.defProp false
variable {qd:Prop}
variable {yl1:Nat}{p1 p2 p3 p4 p5 p6 p7 p8 p9:Option Addr}{c1 c2 c3 c4 c5 c6 c7 c8 c9:Nat}{b1 b2 b3 b4 b5 b6 b7 b8 b9 b10 b11:Nat}{r_1 r_2 r_3 r_4 r_5 r_6:zG}
abbrev a4{α0 α1 α2 α3 α4:Type}(x:α0×α1×α2×α3×α4): α4:=x.2.2.2.2
abbrev a5{α0 α1 α2 α3 α4 α5:Type}(x:α0×α1×α2×α3×α4×α5): α5:=x.2.2.2.2.2
abbrev a6{α0 α1 α2 α3 α4 α5 α6:Type}(x:α0×α1×α2×α3×α4×α5×α6): α6:=x.2.2.2.2.2.2
abbrev k0:Array Value:=#[vb false,vs []]
abbrev k1:Array Value:=#[Value.slice none 0 0,Value.slice none 0 0,Value.slice none 0 0]
abbrev k2:Array Value:=#[Value.slice none 0 0,Value.slice none 0 0,Value.slice none 0 0,Value.slice none 0 0,Value.slice none 0 0,vi 0,Value.slice none 0 0]
abbrev k3:Array Value:=#[vs [],vb false,vi 0,Value.slice none 0 0,vb false,vs []]
abbrev k4:Array Value:=#[vb false,vs [],vi 0,vi 0,vs []]
abbrev k5:Array Value:=#[vi 0,Value.slice none 0 0]
abbrev k6:Array Value:=#[vi 0,vi 0,Value.slice none 0 0,vb false,vs []]
abbrev k7:List Value:=[Value.slice none 0 0,Value.slice none 0 0,Value.slice none 0 0]
abbrev z4Y:E uK:=wJ (zX (zH .i64)) (zH .i64)
abbrev o_keep_Src:uO z4Y:=(oP oL oI)
abbrev zJc (y:uK)(p1:Option Addr)(c1:Nat): List Value:=[sv p1 y.1 c1,vi y.2]
abbrev zJj (y:uK)(p1:Option Addr)(c1:Nat)(t:List PP): List PP:=Rl (zH .i64) p1 c1 y.1::t
abbrev qH:E zC:=wJ zYO qX
abbrev tH:uO qH:=(oP oB oS)
abbrev tN:E qZ:=wJ qH (wJ (zH .i64) (wJ (zH .i64) qX))
abbrev zSw:uO tN:=(oP tH (oP oI (oP oI oS)))
abbrev zSq (y:qZ): List Value:=[vb y.1.1,vs y.1.2,vi y.2.1,vi y.2.2.1,vs y.2.2.2]
abbrev yT:E zR:=wJ qX (wJ zYO (wJ (zH .i64) (wJ (zX qH) qH)))
abbrev zYr:uO yT:=(oP oS (oP oB (oP oI (oP oL tH))))
abbrev zNN (y:zR)(p1:Option Addr)(c1:Nat): List Value:=[vs y.1,vb y.2.1,vi y.2.2.1,sv p1 y.2.2.2.1 c1,vb y.2.2.2.2.1,vs y.2.2.2.2.2]
abbrev zPG (y:zR)(p1:Option Addr)(c1:Nat)(t:List PP): List PP:=Rl qH p1 c1 y.2.2.2.1::t
abbrev zB0:E wB:=wJ qX (wJ (zH .i64) qH)
abbrev zXe:uO zB0:=(oP oS (oP oI tH))
abbrev zO3 (y:wB): List Value:=[vs y.1,vi y.2.1,vb y.2.2.1,vs y.2.2.2]
abbrev z3z:E zI:=wJ (zX tN) (wJ (zX yT) (zX zB0))
abbrev z6e:uO z3z:=(oP oL (oP oL oL))
abbrev vJ (y:zI)(p1:Option Addr)(c1:Nat)(p2:Option Addr)(c2:Nat)(p3:Option Addr)(c3:Nat): List Value:=[sv p1 y.1 c1,sv p2 y.2.1 c2,sv p3 y.2.2 c3]
abbrev vO (y:zI)(p1:Option Addr)(c1:Nat)(p2:Option Addr)(c2:Nat)(p3:Option Addr)(c3:Nat)(t:List PP): List PP:=Rl tN p1 c1 y.1::Rl yT p2 c2 y.2.1::Rl zB0 p3 c3 y.2.2::t
abbrev zVQ:E zAX:=wJ (zX qX) zYO
abbrev z52:uO zVQ:=(oP oL oB)
abbrev zDR (y:zAX)(p1:Option Addr)(c1:Nat): List Value:=[sv p1 y.1 c1,vb y.2]
abbrev z56 (y:zAX)(p1:Option Addr)(c1:Nat)(t:List PP): List PP:=Rl qX p1 c1 y.1::t
abbrev wM:E zF:=wJ (zH .i64) (wJ (zH .i64) (wJ (zX (zH .i64)) qH))
abbrev zU6:uO wM:=(oP oI (oP oI (oP oL tH)))
abbrev z42 (y:zF)(p1:Option Addr)(c1:Nat): List Value:=[vi y.1,vi y.2.1,sv p1 y.2.2.1 c1,vb y.2.2.2.1,vs y.2.2.2.2]
abbrev z4v (y:zF)(p1:Option Addr)(c1:Nat)(t:List PP): List PP:=Rl (zH .i64) p1 c1 y.2.2.1::t
abbrev zS3:E uH:=wJ z3z (wJ (zX wM) (wJ (zX wM) (zH .i64)))
abbrev z3r:uO zS3:=(oP z6e (oP oL (oP oL oI)))
abbrev zHi (y:uH)(p1:Option Addr)(c1:Nat)(p2:Option Addr)(c2:Nat)(p3:Option Addr)(c3:Nat)(p4:Option Addr)(c4:Nat)(p5:Option Addr)(c5:Nat): List Value:=[sv p1 y.1.1 c1,sv p2 y.1.2.1 c2,sv p3 y.1.2.2 c3,sv p4 y.2.1 c4,sv p5 y.2.2.1 c5,vi y.2.2.2]
abbrev zHt (y:uH)(p1:Option Addr)(c1:Nat)(p2:Option Addr)(c2:Nat)(p3:Option Addr)(c3:Nat)(p4:Option Addr)(c4:Nat)(p5:Option Addr)(c5:Nat)(t:List PP): List PP:=Rl tN p1 c1 y.1.1::Rl yT p2 c2 y.1.2.1::Rl zB0 p3 c3 y.1.2.2::Rl wM p4 c4 y.2.1::Rl wM p5 c5 y.2.2.1::t
abbrev zQp:E vQ:=wJ (zH .i64) (zH .i64)
abbrev z5L:uO zQp:=(oP oI oI)
abbrev zDW:E qL:=wJ (zH .i64) (wJ (zH .i64) (wJ (zH .i64) (zH .i64)))
abbrev z9D:uO zDW:=(oP oI (oP oI (oP oI oI)))
abbrev zZk (y:qL): List Value:=[vi y.1,vi y.2.1,vi y.2.2.1,vi y.2.2.2]
abbrev wK:E qA:=wJ (zH .i64) (zH .i64)
abbrev zUs:uO wK:=(oP oI oI)
abbrev z1z:E qE:=wJ (zH .i64) (zX wK)
abbrev z7n:uO z1z:=(oP oI oL)
abbrev yD (y:qE)(p1:Option Addr)(c1:Nat): List Value:=[vi y.1,sv p1 y.2 c1]
abbrev f_Graph (y:qE)(p1:Option Addr)(c1:Nat)(t:List PP): List PP:=Rl wK p1 c1 y.2::t
abbrev zYZ:E zFE:=wJ z3z (wJ (zX wM) (wJ (zX zDW) z1z))
abbrev z5P:uO zYZ:=(oP z6e (oP oL (oP oL z7n)))
abbrev zUR (y:zFE)(p1:Option Addr)(c1:Nat)(p2:Option Addr)(c2:Nat)(p3:Option Addr)(c3:Nat)(p4:Option Addr)(c4:Nat)(p5:Option Addr)(c5:Nat)(p6:Option Addr)(c6:Nat): List Value:=[sv p1 y.1.1 c1,sv p2 y.1.2.1 c2,sv p3 y.1.2.2 c3,sv p4 y.2.1 c4,sv p5 y.2.2.1 c5,vi y.2.2.2.1,sv p6 y.2.2.2.2 c6]
abbrev zTu (y:zFE)(p1:Option Addr)(c1:Nat)(p2:Option Addr)(c2:Nat)(p3:Option Addr)(c3:Nat)(p4:Option Addr)(c4:Nat)(p5:Option Addr)(c5:Nat)(p6:Option Addr)(c6:Nat)(t:List PP): List PP:=Rl tN p1 c1 y.1.1::Rl yT p2 c2 y.1.2.1::Rl zB0 p3 c3 y.1.2.2::Rl wM p4 c4 y.2.1::Rl zDW p5 c5 y.2.2.1::Rl wK p6 c6 y.2.2.2.2::t
instance:Sh 3 false 1:=.mk
instance:Sh 4 false 1:=.mk
instance:Sh 5 false 1:=.mk
instance:Sh 9 false 1:=.mk
instance:Sh 22 false 1:=.mk
instance:Sh 25 false 1:=.mk
instance:Sh 26 false 1:=.mk
instance:Sh 27 false 1:=.mk
instance:Sh 29 true 3:=.mk
instance:Sh 39 false 1:=.mk
instance:Sh 47 true 2:=.mk
instance:Sh 48 false 1:=.mk
instance:Sh 49 false 1:=.mk
instance:Sh 51 true 2:=.mk
instance:Sh 53 true 7:=.mk
instance:Sh 56 false 1:=.mk
instance:Sh 59 false 1:=.mk
instance:Sh 69 false 1:=.mk
instance:Sh 80 false 1:=.mk
instance:Sh 84 true 2:=.mk
instance:Sh 86 true 5:=.mk
instance:Sh 93 true 6:=.mk
instance:Sh 96 true 4:=.mk
instance:Sh 111 false 1:=.mk
instance:Sh 115 true 5:=.mk
instance:Sh 126 false 1:=.mk
instance:Sh 129 false 1:=.mk
instance:Sh 138 true 4:=.mk
instance:Sh 164 true 4:=.mk
instance:Sh 166 true 2:=.mk
instance:Sh 182 false 1:=.mk
instance:Sh 218 false 1:=.mk
instance:Sh 222 false 1:=.mk
instance:Sh 255 false 1:=.mk
instance:Sh 266 true 40:=.mk
instance:Sh 270 false 1:=.mk
instance:Ty 3 (zH .i64) oI false:=.mk
instance:Ty 4 zYO oB false:=.mk
instance:Ty 5 (zH .u8) oI false:=.mk
instance:Ty 9 qX oS false:=.mk
instance:Ty 22 (zX (zH .i64)) oL false:=.mk
instance:Ty 25 (zX tN) oL false:=.mk
instance:Ty 26 (zX yT) oL false:=.mk
instance:Ty 27 (zX zB0) oL false:=.mk
instance:Ty 29 z3z z6e true:=.mk
instance:Ty 39 (zX wM) oL false:=.mk
instance:Ty 47 zQp z5L true:=.mk
instance:Ty 48 (zX zDW) oL false:=.mk
instance:Ty 49 (zX wK) oL false:=.mk
instance:Ty 51 z1z z7n true:=.mk
instance:Ty 53 zYZ z5P true:=.mk
instance:Ty 56 (zX (zX qH)) oL false:=.mk
instance:Ty 59 (zX qH) oL false:=.mk
instance:Ty 69 (zX qX) oL false:=.mk
instance:Ty 80 (zX (zH .u8)) oL false:=.mk
instance:Ty 84 qH tH true:=.mk
instance:Ty 86 tN zSw true:=.mk
instance:Ty 93 yT zYr true:=.mk
instance:Ty 96 zB0 zXe true:=.mk
instance:Ty 115 wM zU6 true:=.mk
instance:Ty 126 (zX (zX (zH .i64))) oL false:=.mk
instance:Ty 130 z5a oU true:=.mk
instance:Ty 138 (wJ qX (wJ qX (wJ qX qX))) (oP oS (oP oS (oP oS oS))) true:=.mk
instance:Ty 164 zDW z9D true:=.mk
instance:Ty 166 wK zUs true:=.mk
instance:Ty 255 (zH .u64) oI false:=.mk
instance:Fs 29 [0,1,2]:=.mk
instance:Fs 47 [0,1]:=.mk
instance:Fs 51 [0,1]:=.mk
instance:Fs 53 [0,3,4,5]:=.mk
instance:Fs 65 [0,1]:=.mk
instance:Fs 72 [0,1]:=.mk
instance:Fs 82 [0]:=.mk
instance:Fs 84 [0,1]:=.mk
instance:Fs 86 [0,2,3,4]:=.mk
instance:Fs 93 [0,1,2,3,4]:=.mk
instance:Fs 96 [0,1,2]:=.mk
instance:Fs 113 [0,3,4,5]:=.mk
instance:Fs 115 [0,1,2,3]:=.mk
instance:Fs 130 []:=.mk
instance:Fs 164 [0,1,2,3]:=.mk
instance:Fs 166 [0,1]:=.mk
instance:Fs 268 [0,1,2,42,43]:=.mk
instance:Zr 3 (vi 0):=.mk
instance:Zr 9 (vs []):=.mk
instance:Zr 22 (.slice none 0 0):=.mk
instance:Zr 29 (.agg #[.slice none 0 0,.slice none 0 0,.slice none 0 0]):=.mk
instance:Zr 47 (.agg #[vi 0,vi 0]):=.mk
instance:Zr 51 (.agg #[vi 0,.slice none 0 0]):=.mk
instance:Zr 53 (.agg #[.slice none 0 0,.slice none 0 0,.slice none 0 0,.slice none 0 0,.slice none 0 0,vi 0,.slice none 0 0]):=.mk
instance:Zr 56 (.slice none 0 0):=.mk
instance:Zr 65 (.agg #[.slice none 0 0,vi 0]):=.mk
instance:Zr 72 (.agg #[.slice none 0 0,vb false]):=.mk
instance:Zr 82 (.agg #[.pointer none,.slice none 0 0]):=.mk
instance:Zr 84 (.agg #[vb false,vs []]):=.mk
instance:Zr 86 (.agg #[vb false,vs [],vi 0,vi 0,vs []]):=.mk
instance:Zr 93 (.agg #[vs [],vb false,vi 0,.slice none 0 0,vb false,vs []]):=.mk
instance:Zr 96 (.agg #[vs [],vi 0,vb false,vs []]):=.mk
instance:Zr 113 (.agg #[.slice none 0 0,.slice none 0 0,.slice none 0 0,.slice none 0 0,.slice none 0 0,vi 0]):=.mk
instance:Zr 115 (.agg #[vi 0,vi 0,.slice none 0 0,vb false,vs []]):=.mk
instance:Zr 129 (.map none):=.mk
instance:Zr 130 (.agg #[]):=.mk
instance:Zr 164 (.agg #[vi 0,vi 0,vi 0,vi 0]):=.mk
instance:Zr 166 (.agg #[vi 0,vi 0]):=.mk
instance:Zr 218 .nilFunc:=.mk
instance:Zr 219 (.agg #[vi 0,vi 0,vi 0,vi 0,vi 0,vi 0,vi 0,vi 0,vi 0,vi 0,vi 0,vi 0,vi 0,vi 0,vi 0,vi 0,vi 0,vi 0,vi 0,vi 0,vi 0,vi 0,vi 0,vi 0,vi 0,vi 0,vi 0,vi 0,vi 0,vi 0,vi 0,vi 0,vi 0,vi 0,vi 0,vi 0,vi 0,vi 0,vi 0,vi 0]):=.mk
instance:Zr 255 (.int .u64 0):=.mk
instance:Zr 266 (.agg #[vi 0,vi 0,vi 0,vi 0,vi 0,vi 0,vi 0,vi 0,vi 0,vi 0,vi 0,vi 0,vi 0,vi 0,vi 0,vi 0,vi 0,vi 0,vi 0,vi 0,vi 0,vi 0,vi 0,vi 0,vi 0,vi 0,vi 0,vi 0,vi 0,vi 0,vi 0,vi 0,vi 0,vi 0,vi 0,vi 0,vi 0,vi 0,vi 0,vi 0]):=.mk
instance:Zr 268 (.agg #[vi 0,.slice none 0 0,vi 0,vi 0,vi 0,vi 0,vi 0,vi 0,vi 0,vi 0,vi 0,vi 0,vi 0,vi 0,vi 0,vi 0,vi 0,vi 0,vi 0,vi 0,vi 0,vi 0,vi 0,vi 0,vi 0,vi 0,vi 0,vi 0,vi 0,vi 0,vi 0,vi 0,vi 0,vi 0,vi 0,vi 0,vi 0,vi 0,vi 0,vi 0,vi 0,vi 0,.slice none 0 0,vb false]):=.mk
instance:Zr 287 (.agg #[.int .u8 0,.int .u8 0,.int .u8 0,.int .u8 0,.int .u8 0,.int .u8 0,.int .u8 0,.int .u8 0,.int .u8 0,.int .u8 0,.int .u8 0,.int .u8 0,.int .u8 0,.int .u8 0,.int .u8 0,.int .u8 0,.int .u8 0,.int .u8 0,.int .u8 0,.int .u8 0,.int .u8 0,.int .u8 0,.int .u8 0,.int .u8 0]):=.mk
instance:Se 22 3 (zH .i64):=.mk
instance:Se 25 86 tN:=.mk
instance:Se 26 93 yT:=.mk
instance:Se 27 96 zB0:=.mk
instance:Se 39 115 wM:=.mk
instance:Se 44 47 zQp:=.mk
instance:Se 48 164 zDW:=.mk
instance:Se 49 166 wK:=.mk
instance:Se 56 59 (zX qH):=.mk
instance:Se 59 84 qH:=.mk
instance:Se 69 9 qX:=.mk
instance:Se 80 5 (zH .u8):=.mk
instance:Se 126 22 (zX (zH .i64)):=.mk
instance:Se 262 255 (zH .u64):=.mk
instance:It 3 .i64:=.mk
instance:It 5 .u8:=.mk
instance:It 190 .u32:=.mk
instance:It 210 .u64:=.mk
instance:It 255 .u64:=.mk
instance:By 80 5:=.mk
theorem Tryz.key129:zSb prog 129 84 130 (fun x:zC=>.agg #[vb x.1,vs x.2]) :=
  ⟨underlying129,fun _ _ _=>by kernel_rfl,fun x y w=>(z0A 50).1 84 _ _ (x==y) (by kernel_rfl) 10000 (by decide),⟨_,underlying84,fun _ _=>.inl rfl⟩,fun x=>by simp[Instr.sameBits,ba_beq]⟩
theorem zEM{y0:uH}: wL qd prog 43 [pt b1 0] [bx b1 113 (zHi y0 p1 c1 p2 c2 p3 c3 p4 c4 p5 c5)] (zHt y0 p1 c1 p2 c2 p3 c3 p4 c4 p5 c5 []) (zBy y0) fun L r K=>K (vb r) L [] :=
 zO call43 func43 u fun X=>hD 1 [] [0] (.l [0,1,2,3,4,5,6,7,8,9,10,11,12] .e)<|
 au
abbrev zOl:=@Cn.mk 43 0 _ @zEM
theorem zKn{y0:List zF}{y1:Int}: zP qd prog 100 [sv p1 y0 c1,vi y1] [] [Rl wM p1 c1 y0] (zB4 y0 y1) fun r K=>K (vb r) [] [] :=
 zO call100 func100 u fun X=>hP 4 1 0 (fun K=>K [] [] [] [(4,vb ((decide (0≤y1))&&(decide (y1<(len y0)))))] [])<|
 au
abbrev zU0:=@Cn.mk 100 0 _ @zKn
theorem zQz{y0:List Int}: zP qd prog 176 [sv p1 y0 c1] [r_1] [Al (zH .i64) 3 r_1 p1 c1 y0] (zBh y0) fun r K=>∀ p2 c2,K (sv p2 r c2) [[]] [Rl (zH .i64) p2 c2 r] :=
 zO call176 func176 u fun X=>jA 1 u<|zS<|jA 3 u<|zV u (
 au
)<|jC<|zS<|jA 1 u<|zZ<|
  wP (fun s1 K=>K [0] [] [0] [(3,vi s1)] []) (gv kk [0] (gq [0]))<|fun s1 _ k=>k<|zS<|jA 4 u<|zV u (jC<|zS<|zZ<|tB [] [0] 10<|qB 8 [0,1] u<|
  jdI 2 0 u u u u<|fun x1 h1 b1 o1 hp1=>jdL 3 0 0 sI false oI u u hp1 h1 u<|qB 3 [4,5,6] u<|jdI 7 0 u u u u<|fun x2 h2 b2 o2 hp2=>jdL 8 0 0 sI false oI u u hp2 h2 u<|qB 0 [9] u<|wI<|qN<|zV u (zJ<|
  zA 2 u<|jsV 0 u u u<|fun u1 p2 c2 f1=>zA 1 u<|zL<|
  jjn (fun s2 K=>∀ r_2,K [(0,.slice p1 (List.length y0) c1),(3,vi s2.2)] [r_2] [Ar (zH .i64) 3 r_2 p1 c1 (List.length y0) s2.1]) (
  jA 1 u<|zZ<|
  wP (fun s3 K=>∀ r_3,K [4] [(0,r_3)] [] [(0,.slice p1 (List.length y0) c1),(3,vi s3.2.1),(5,vi s3.2.2)] [Ar (zH .i64) 3 r_3 p1 c1 (List.length y0) s3.1]) (gv (fun _ k=>k r_1) [0] (gq [0]))<|
  fun s3 _ k r_3=>k<|zS<|jA 4 u<|zV u (jC<|zS<|zZ<|tB [] [0] 10<|qB 8 [0,1] u<|jdX 2 0 u u f1 u u<|fun x3 b3 o3 hp3 h3=>jdL 3 0 0 sI false oI u u hp3 h3 u<|qB 3 [4,5,6] u<|
  jdX 7 0 u u f1 u u<|fun x4 b4 o4 hp4 h4=>jdL 8 0 0 sI false oI u u hp4 h4 u<|qB 0 [9] u<|wI<|qN<|zV u (zJ<|zA 4 u<|jiV 0 u f1 u u<|
 au
)<|
 au
)<|
 au
)<|fun s2 _ k r_2=>k<|zJ<|zA 2 u<|jsV 0 u u u<|fun u2 p3 c3 f2=>jcv .s 0 0 0 (vi 0) u f2 u vI<|
 au
)<|
 au
)<|
 au
abbrev zRV:=@Cn.mk 176 0 _ @zQz
theorem zGV{y0:List Int}: zP qd prog 175 [sv p1 y0 c1] [r_1] [Al (zH .i64) 3 r_1 p1 c1 y0] (zCD y0) fun r K=>∀ r_2,K (.tuple #[]) [r_2] [Ar (zH .i64) 3 r_2 p1 c1 (List.length y0) r]:=⟨call175,fun A w0 r hm hO hF=>by
 have h:=z9W (qd:=qd) Tryz.sorts175 (te:=3) hO hF.1.1 hm
 change Calls prog 175 _ _ _ at h
 refine h.mono fun e w' h=>?_
 cases e with
 | returned v=>obtain⟨r',rfl,h1,h2,h3,h4⟩:=h;exact fun G k=>k r' ⟨rfl,h1,h2,⟨h3,h4.symm⟩,trivial⟩
 | panicked ch=>exact h
 | outgrown=>exact h⟩
abbrev zUD:=@Cn.mk 175 0 _ @zGV
attribute [instance] zOl zU0 zRV zUD
theorem zSX (k:Nat):
    (∀ {y0:List zF} {p1:Option Addr} {c1:Nat} {y1:Int},zP qd prog 135 [sv p1 y0 c1,vi y1] [] [Rl wM p1 c1 y0] (zDc k y0 y1) fun r K=>∀ p2 c2,K (sv p2 r c2) [] [Rl (zH .i64) p2 c2 r]):=by
  induction k with
  | zero=>exact con0 call135
  | succ k ih =>
    have ih_argument_Subs:=@ih
    have zQS:=@Cn.mk 135 0 _ (@ih_argument_Subs)
    exact @fun y0 p1 c1 y1=>zO (m1:=zGO (zDc k) y0 y1) call135 func135 u fun X=>jA 1 u<|zS<|zJ<|zA 2 u<|wD zKn u (cq [0])<|fun r1 _ k=>k<|zA 1 u<|zL<|zV u (
 au
)<|jC<|zJ<|zA 1 u<|
  jbo .s (e:=zH .i64) 3 [vi y1] ([y1]:List Int) (rC vI rN)<|fun r_1 p2 c2=>zA 1 u<|zL<|
  jjn (fun s1 K=>∀ p3 c3 r_2,K [(5,sv p3 s1 c3)] [r_2] [Al (zH .i64) 3 r_2 p3 c3 s1]) (hI 0 5 1 (fun(s2:(List Int)×Int) K=>∀ p5 c5 r_3,K [0,18,19] [(0,.r r_3)] [3,0] [(5,sv p5 s2.1 c5),(20,vi s2.2)] [Al (zH .i64) 3 r_3 p5 c5 s2.1])<|
 au
)<|fun s1 _ k p3 c3 r_2=>k<|zJ<|
  zA 1 u<|qK .s [0] [] zGV u u u (cq [0])<|fun r3 _ k r_5=>k<|zL<|zJ<|zA 1 u<|jrE 0 32 u u<|
 au
theorem zW2{y0:List zF}{y1:Int}: zP qd prog 135 [sv p1 y0 c1,vi y1] [] [Rl wM p1 c1 y0] (zEW y0 y1) fun r K=>∀ p2 c2,K (sv p2 r c2) [] [Rl (zH .i64) p2 c2 r]:=z1R fun k=>(zSX k)
abbrev zQS:=@Cn.mk 135 0 _ @zW2
attribute [instance] zQS
theorem zQN{y0:zI}{y1:List zF}{y2:Int}: zP qd prog 127 [.agg (vJ y0 p1 c1 p2 c2 p3 c3).toArray,sv p4 y1 c4,vi y2] [] (vO y0 p1 c1 p2 c2 p3 c3 [Rl wM p4 c4 y1]) (zCO y0 y1 y2) fun r K=>∀ p5 c5,K (sv p5 r c5) [] [Rl (zH .i64) p5 c5 r] :=
 zO call127 func127 u fun X=>zJ<|vH .s u<|fun b1=>zA 1 u<|zL<|zJ<|zA 1 u<|uA (zH .i64) 3 <|zL<|
  jjn (fun s1 K=>∀ p5 c5 r_1,K [(7,sv p5 s1 c5)] [[],r_1] [Al (zH .i64) 3 r_1 p5 c5 s1]) (hI 0 3 1 (fun(s2:(List Int)×Int) K=>∀ p7 c7 r_2,K [1,3,13,14] [(1,.r r_2)] [5,0,2,3,4] [(7,sv p7 s2.1 c7),(15,vi s2.2)] [Al (zH .i64) 3 r_2 p7 c7 s2.1])<|hI 1 6 0 (fun(s3:Bool) K=>K [1,3,7,10,13,14,15] [] [3,2,4,5,6,7] [(34,vb s3)] [])<|
 au
)<|
  fun s1 _ k p5 c5 r_1=>k<|zJ<|zA 1 u<|qK .s [1] [] zGV u u u (cq [0])<|fun r2 _ k r_4=>k<|zL<|zJ<|zA 1 u<|jrE 0 42 u u<|
 au
abbrev zQR:=@Cn.mk 127 0 _ @zQN
attribute [instance] zQR
theorem zTg (k:Nat):
    (∀ {y0:zI} {p1:Option Addr} {c1:Nat} {p2:Option Addr} {c2:Nat} {p3:Option Addr} {c3:Nat} {y1:List zF} {p4:Option Addr} {c4:Nat} {y2:Int},zP qd prog 125 [.agg (vJ y0 p1 c1 p2 c2 p3 c3).toArray,sv p4 y1 c4,vi y2] [] (vO y0 p1 c1 p2 c2 p3 c3 [Rl wM p4 c4 y1]) (zBW k y0 y1 y2) fun r K=>∀ p5 c5,K (sv p5 r c5) [] [Rl qH p5 c5 r]):=by
  induction k with
  | zero=>exact con0 call125
  | succ k ih =>
    have ih_argument_run:=@ih
    have zR8:=@Cn.mk 125 0 _ (@ih_argument_run)
    exact @fun y0 p1 c1 p2 c2 p3 c3 y1 p4 c4 y2=>zO (m1:=zD8 (zBW k) y0 y1 y2) call125 func125 u fun X=>zJ<|vH .s u<|fun b1=>zA 1 u<|zL<|zJ<|zA 2 u<|yK 3 u u u<|fun x1 b2 o1=>qC 3 u<|yS true tH (gs (gs (gs (gk 0)))) u<|
  jbo .s (e:=qH) 84 [vb x1.2.2.2.1,vs (a4 x1)] ([x1.2.2.2]:List zC) (rC (vP vB vS) rN)<|fun r_1 p5 c5=>zA 1 u<|zL<|zS<|zJ<|zA 2 u<|yK 5 u u u<|fun x2 b3 o2=>qC 1 u<|
  yS false oI (gf (gs (gk 0))) u<|zA 1 u<|zL<|wR (fun s1 K=>K [1,2,3,7] [] [6,1,3,4,5] [(31,vb s1)] []) (
 au
)<|fun s1 _ k=>
  k<|zV u (zJ<|zA 2 u<|yK 0 u u u<|fun x4 b5 o4=>qC 2 u<|yS false oL (gf (gs (gs (gk 0)))) u<|fun p6 c6=>zA 2 u<|zL<|zZ<|
  wP (fun s2 K=>∀ p7 c7 r_2,K [1,3,36,37] [(1,r_2)] [2,0,4,5,6] [(7,sv p7 s2.1 c7),(38,vi s2.2)] [Al qH 84 r_2 p7 c7 s2.1]) (gv (fun _ k=>k p5 c5 r_1) [0,1] (gq [3,2,0,4,5,6]))<|
  fun s2 _ k p7 c7 r_2=>k<|jA 1 u<|zS<|zV u (jC<|zS<|zZ<|zJ<|yK 2 u u u<|fun x5 b6 o5=>yS false oI (gk 0) u<|zA 1 u<|zL<|vM<|zA 1 u<|wW 0 3 u u u<|zA 2 u<|wD ih_argument_run u (cq [4,5,6,2])<|
  fun r1 _ k p8 c8=>k<|jarW .s 1 2 u (gk 0) u u<|
 au
)<|
 au
)<|
 au
theorem zXk{y0:zI}{y1:List zF}{y2:Int}: zP qd prog 125 [.agg (vJ y0 p1 c1 p2 c2 p3 c3).toArray,sv p4 y1 c4,vi y2] [] (vO y0 p1 c1 p2 c2 p3 c3 [Rl wM p4 c4 y1]) (zH4 y0 y1 y2) fun r K=>∀ p5 c5,K (sv p5 r c5) [] [Rl qH p5 c5 r]:=z1R fun k=>(zTg k)
abbrev zR8:=@Cn.mk 125 0 _ @zXk
theorem zP1{y0:List zC}{y1:zC}: zP qd prog 173 [sv p1 y0 c1,.agg #[vb y1.1,vs y1.2]] [] [Rl qH p1 c1 y0] (zCf y0 y1) fun r K=>K (vi r) [] [] :=
 zO call173 func173 u fun X=>zJ<|vH .s u<|fun b1=>zA 1 u<|zL<|zS<|jA 3 u<|zZ<|wP (fun s1 K=>K [0,3,7] [] [0] [(8,vi s1)] []) (gv kk [0] (gq [0]))<|fun s1 _ k=>k<|jA 1 u<|zS<|zV u (jC<|zS<|
  zZ<|jA 2 u<|tB [] [0] 6<|xV 0 0 2 u u u u<|qB 3 [1,2] u<|jdi 3 0 u u u u<|fun x1 b2 o1=>jdl 4 true tH u (gk 0) u<|yR 5 (vb (y1==x1)) u<|wI<|qN<|zV u (jA 2 u<|qP<|jbr<|yX<|jlr<|
  jbr<|yX<|yY u u kk [] d)<|uM<|yL<|qN<|jB 2 u<|uG (gv kk [0] (gq [1])))<|xF<|uP<|uS<|xD<|qN<|jA 1 u<|qP<|yY u u kk [] d
abbrev zPX:=@Cn.mk 173 0 _ @zP1
attribute [instance] zR8 zPX
theorem zNZ{y0:List zC}{y1:zC}: zP qd prog 123 [sv p1 y0 c1,.agg #[vb y1.1,vs y1.2]] [] [Rl qH p1 c1 y0] (zCh y0 y1) fun r K=>K (vb r) [] [] :=
 zO call123 func123 u fun X=>
 au
abbrev zNS:=@Cn.mk 123 0 _ @zNZ
attribute [instance] zNS
theorem zZu{y0:List zC}{y1:zC}: zP qd prog 77 [sv p1 y0 c1,.agg #[vb y1.1,vs y1.2]] [] [Rl qH p1 c1 y0] (zF2 y0 y1) fun r K=>K (vb r) [] [] :=
 zO call77 func77 u fun X=>
 au
abbrev z0N:=@Cn.mk 77 0 _ @zZu
theorem zSo{y0:List Int}{y1:Int}: zP qd prog 174 [sv p1 y0 c1,vi y1] [] [Rl (zH .i64) p1 c1 y0] (zFP y0 y1) fun r K=>K (vi r) [] [] :=
 zO call174 func174 u fun X=>hI 0 2 1 (fun(s1:Int) K=>K [0,1,7] [] [0] [(8,vi s1)] [])<|
 au
abbrev zTS:=@Cn.mk 174 0 _ @zSo
attribute [instance] z0N zTS
theorem zLE{y0:List Int}{y1:Int}: zP qd prog 126 [sv p1 y0 c1,vi y1] [] [Rl (zH .i64) p1 c1 y0] (zBU y0 y1) fun r K=>K (vb r) [] [] :=
 zO call126 func126 u fun X=>
 au
abbrev zQ0:=@Cn.mk 126 0 _ @zLE
attribute [instance] zQ0
theorem zUa{y0:zI}{y1:List zF}{y2:Int}{y3:List Int}: zP qd prog 85 [.agg (vJ y0 p1 c1 p2 c2 p3 c3).toArray,sv p4 y1 c4,vi y2,sv p5 y3 c5] [] (vO y0 p1 c1 p2 c2 p3 c3 [Rl wM p4 c4 y1,Rl (zH .i64) p5 c5 y3]) (zD4 y0 y1 y2 y3) fun r K=>K (vb r) [] [] :=
 zO call85 func85 u fun X=>hD 5 [] [0] (.l [0,1,2,4,5,6,7,8,9] (.f 3 (.f 10 .e)))<|hI 0 2 1 (fun(s1:Int) K=>K [1,2,4,11,12] [] [3,4,0,1,2] [(13,vi s1)] [])<|
 au
abbrev zU8:=@Cn.mk 85 0 _ @zUa
theorem zJy{y0:List Int}: zP qd prog 82 [sv p1 y0 c1] [] [Rl (zH .i64) p1 c1 y0] (zFI y0) fun r K=>∀ p2 c2 r_1,K (sv p2 r c2) [r_1] [Al (zH .i64) 3 r_1 p2 c2 r] :=
 zO call82 func82 u fun X=>jA 1 u<|zS<|zJ<|zA 1 u<|jv (fun h=>z7O h u underlying22)<|zL<|jnl (m1:=some ([]:List Int)) u (gk 0) (fun h=>by first|(rw[h];done)|(rw[h];rfl)|(simp[h,qG];done)) (jA 1 u<|qP<|yX<|uA (zH .i64) 3<|
  jrE 0 2 u u<|
 au
)<|hO 5<|
 au
abbrev zT4:=@Cn.mk 82 0 _ @zJy
theorem zMr{y0:Int}{y2:uH}: wL qd prog 84 [vi y0,pt b1 0] [bx b1 111 [pt b2 0],bx b2 113 (zHi y2 p1 c1 p2 c2 p3 c3 p4 c4 p5 c5)] (zHt y2 p1 c1 p2 c2 p3 c3 p4 c4 p5 c5 []) (zEy y0 y2) fun L r K=>K (vb r) L [] :=
 zO call84 func84 u fun X=>
 au
abbrev zMn:=@Cn.mk 84 0 _ @zMr
attribute [instance] zU8 zT4 zMn
theorem zFO{y0:List Int}{y2:uH}: wL qd prog 124 [sv p1 y0 c1,.func (.func 84) #[] #[pt b1 0]] [bx b1 111 [pt b2 0],bx b2 113 (zHi y2 p2 c2 p3 c3 p4 c4 p5 c5 p6 c6)] (Rl (zH .i64) p1 c1 y0::(zHt y2 p2 c2 p3 c3 p4 c4 p5 c5 p6 c6 [])) (zAS y0 y2) fun L r K=>K (vi r) L [] :=
 zO call124 func124 u fun X=>hI 0 2 1 (fun(s1:Int) K=>K [0,1,7] [] [0,1,2,3,4,5] [(8,vi s1)] [])<|
 au
abbrev zFZ:=@Cn.mk 124 0 _ @zFO
attribute [instance] zFZ
theorem zE0{y0:List Int}{y2:uH}: wL qd prog 83 [sv p1 y0 c1,.func (.func 84) #[] #[pt b1 0]] [bx b1 111 [pt b2 0],bx b2 113 (zHi y2 p2 c2 p3 c3 p4 c4 p5 c5 p6 c6)] (Rl (zH .i64) p1 c1 y0::(zHt y2 p2 c2 p3 c3 p4 c4 p5 c5 p6 c6 [])) (zAA y0 y2) fun L r K=>K (vb r) L [] :=
 zO call83 func83 u fun X=>
 au
abbrev zEd:=@Cn.mk 83 0 _ @zE0
attribute [instance] zEd
set_option maxHeartbeats 2000000 in
theorem zLO (k:Nat):
    (∀ {y0:uH} {b1:Nat} {p1:Option Addr} {c1:Nat} {p2:Option Addr} {c2:Nat} {p3:Option Addr} {c3:Nat} {p4:Option Addr} {c4:Nat} {r_1:zG} {p5:Option Addr} {c5:Nat} {r_2:zG} {y1:Int} {y2:List Int} {p6:Option Addr} {c6:Nat},zP qd prog 42 [pt b1 0,vi y1,sv p6 y2 c6] [bx b1 113 [sv p1 y0.1.1 c1,sv p2 y0.1.2.1 c2,sv p3 y0.1.2.2 c3,sv p4 y0.2.1 c4,sv p5 y0.2.2.1 c5,vi y0.2.2.2],r_1,r_2] (vO y0.1 p1 c1 p2 c2 p3 c3 [Al wM 115 r_1 p4 c4 y0.2.1,Al wM 115 r_2 p5 c5 y0.2.2.1,Rl (zH .i64) p6 c6 y2]) (zBN k y0 y1 y2) fun r K=>∀ p7 c7 r_3,K (.tuple #[]) [bx b1 113 [sv p1 y0.1.1 c1,sv p2 y0.1.2.1 c2,sv p3 y0.1.2.2 c3,sv p4 y0.2.1 c4,sv p7 r c7,vi y0.2.2.2],r_1,r_3] [Al wM 115 r_3 p7 c7 r]):=by
  induction k with
  | zero=>exact con0 call42
  | succ k ih =>
    have ih_argument_builder_apply_2:=@ih
    have zIm:=@Cn.mk 42 0 _ (@ih_argument_builder_apply_2)
    exact @fun y0 b1 p1 c1 p2 c2 p3 c3 p4 c4 r_1 p5 c5 r_2 y1 y2 p6 c6=>zO (m1:=zBs (zBN k) y0 y1 y2) call42 func42 u fun X=>zJ<|vH .s u<|fun b2=>zL<|zJ<|qJ 3 u u u<|zA 1 u<|qC 0 u<|qC 1 u<|qJ 0 u u u<|zA 1 u<|yK 1 u u u<|fun x1 b3 o1=>qC 3 u<|yS false oL (gf (gs (gs (gs (gk 0))))) u<|fun p7 c7=>zA 1 u<|zL<|zS<|
  zJ<|qJ 3 u u u<|qK .s [0] [1,2] zEM u u u ⟨ck 2,ck 3,ck 4,cl 1 5,cl 2 6,d⟩<|fun r1 _ k=>k<|zL<|zV u (
 au
)<|jC<|
  jjoK (fun s1 K=>K [1,2,3] [] [7,2,3,4,5,6] [] []) (jA 5 u<|zV u (zS<|zJ<|qJ 3 u u u<|zA 1 u<|qC 3 u<|qJ 0 u u u<|zA 2 u<|zL<|zZ<|
  wP (fun s2 K=>∀ p8 c8 r_3,K [1,2,3,6,28,29] [(0,bx b1 113 [sv p1 y0.1.1 c1,sv p2 y0.1.2.1 c2,sv p3 y0.1.2.2 c3,sv p4 y0.2.1 c4,sv p8 s2.2 c8,vi y0.2.2.2]),(2,r_3)] [7,0,5,2,3,4] [(30,vi s2.1)] [Al wM 115 r_3 p8 c8 s2.2]) (gv (fun _ k=>k p5 c5 r_2) [0,1,2,3] (gq [6,7,0,5,2,3,4]))<|
  fun s2 _ k p8 c8 r_3=>k<|jA 1 u<|zS<|zV u (jC<|zS<|zZ<|zJ<|zA 1 u<|jia 3 u u u<|fun x2 h1 b4 o2 hp1=>jlA 1 3 sI true zU6 u hp1 h1 u<|fun p9 c9=>vD .s (.agg k6)<|
  fun b5=>zA 1 u<|wA .s 4 u u u<|zL<|tB [] [4] 8<|wE 0 3 u u<|xV 1 4 2 u u u u<|qB 3 [2,3,4] u<|jdi 5 3 u u u u<|fun x3 b6 o3=>jdl 6 true tH u (gk 0) u<|
  yR 7 (vb (x2.2.2.2==x3)) u<|wI<|qN<|zV u (
  jjcK (fun s3 K=>∀ p10 c10 r_4,K [1,2,3,6,28,29,30] [(0,bx b1 113 [sv p1 y0.1.1 c1,sv p2 y0.1.2.1 c2,sv p3 y0.1.2.2 c3,sv p4 y0.2.1 c4,sv p10 s3 c10,vi y0.2.2.2]),(2,r_4),(4,[])] [3,4,5,6,7,8] [] [Al wM 115 r_4 p10 c10 s3]) (
  jdS [] [3] 8<|yA 0 3 u u u u<|qB 4 [1,2,4] u<|jd2 3 5 (qK (.f u) [] [] zJy rfl u u (cq [3])<|fun r2 _ k p11 c11 r_5=>k<|qU<|qQ 5<|
  uC (.f u) (e:=zH .i64) 3 [vi s2.1] ([s2.1]:List Int) (rC vI rN)<|fun p12 c12=>qU<|qQ 6<|xL (.f u) 5 1 u (gk 0) u u<|fun x4 r_6 p13 c13=>qU<|yU 5 0 u u<|qQ 7<|
  qK (.f u) [0,1,2] [] ih_argument_builder_apply_2 u u u (cq [10,11,12,9,6,0])<|fun r3 _ k p14 c14 r_7=>k<|qU<|wI<|
 au
) <|
  uC (.f u) (e:=zH .i64) 3 [vi s2.1] ([s2.1]:List Int) (rC vI rN)<|fun p15 c15=>qU<|qQ 3<|qK (.f u) [] [] zJy rfl u u (cq [4])<|fun r4 _ k p16 c16 r_8=>k<|qU<|qQ 6<|xL (.f u) 5 0 u (gk 1) u u<|
  fun x5 r_9 p17 c17=>qU<|yU 5 0 u u<|qQ 7<|qK (.f u) [0,1,2] [] ih_argument_builder_apply_2 u u u (cq [10,11,12,9,6,0])<|fun r5 _ k p18 c18 r_10=>k<|qU<|wI<|
 au
)<|
 au
)<|
 au
)<|
 au
)<|
 au
)<|hD 10 [] [0,3] (.l [0,1] (.f 2 (.l [3] (.s 55 (.l [4,5,6,7,8,9,10,11,12,13] (.f 14 (.l [15] .e))) (.l [4,5,6,7,8,9,10,11,12,13,14,15] .e)))))<|hD 11 [21] [0,3] (.l [0,1,2,3,4,5,6,7,8,9,10,11,12,13,14,15,16] (.f 17 (.f 18 (.l [19,20] (.f 21 (.b [] [0,3] .e))))))<|hI 1 10 0 (fun(s4:Bool) K=>K [1,2,3] [] [0,1,2,3,4,5] [(67,vb s4)] [])<|
 au
theorem zIl{y0:uH}{y1:Int}{y2:List Int}: zP qd prog 42 [pt b1 0,vi y1,sv p6 y2 c6] [bx b1 113 [sv p1 y0.1.1 c1,sv p2 y0.1.2.1 c2,sv p3 y0.1.2.2 c3,sv p4 y0.2.1 c4,sv p5 y0.2.2.1 c5,vi y0.2.2.2],r_1,r_2] (vO y0.1 p1 c1 p2 c2 p3 c3 [Al wM 115 r_1 p4 c4 y0.2.1,Al wM 115 r_2 p5 c5 y0.2.2.1,Rl (zH .i64) p6 c6 y2]) (zBr y0 y1 y2) fun r K=>∀ p7 c7 r_3,K (.tuple #[]) [bx b1 113 [sv p1 y0.1.1 c1,sv p2 y0.1.2.1 c2,sv p3 y0.1.2.2 c3,sv p4 y0.2.1 c4,sv p7 r c7,vi y0.2.2.2],r_1,r_3] [Al wM 115 r_3 p7 c7 r]:=z1R fun k=>(zLO k)
abbrev zIm:=@Cn.mk 42 0 _ @zIl
theorem zTp{y0:zR}{y1:zD}: wL qd prog 119 [.agg (zNN y0 p1 c1).toArray,pt b1 0] [bx b1 9 [vs y1]] (zPG y0 p1 c1 []) (zKg y0 y1) fun L r K=>K (vb r) L [] :=
 zO call119 func119 u fun X=>
 au
abbrev zU9:=@Cn.mk 119 0 _ @zTp
attribute [instance] zIm zU9
theorem zIB{y0:List zR}{y1:zD}: wL qd prog 79 [sv p1 y0 c1,.func (.func 119) #[] #[pt b1 0]] [bx b1 9 [vs y1]] [Rl yT p1 c1 y0] (zAu y0 y1) fun L r K=>K (vi r) L [] :=
 zO call79 func79 u fun X=>hI 0 2 1 (fun(s1:Int) K=>K [0,1,7] [] [0] [(8,vi s1)] [])<|
 au
abbrev zHv:=@Cn.mk 79 0 _ @zIB
attribute [instance] zHv
theorem zXY{y0:zI}{y1:zD}: zP qd prog 67 [.agg (vJ y0 p1 c1 p2 c2 p3 c3).toArray,vs y1] [] (vO y0 p1 c1 p2 c2 p3 c3 []) (zDd y0 y1) fun r K=>K (vi r) [] [] :=
 zO call67 func67 u fun X=>
 au
abbrev zXN:=@Cn.mk 67 0 _ @zXY
theorem zRD{y0:qZ}{y1:zC}: wL qd prog 117 [.agg (zSq y0).toArray,pt b1 0] [bx b1 84 [vb y1.1,vs y1.2]] [] (zIq y0 y1) fun L r K=>K (vb r) L [] :=
 zO call117 func117 u fun X=>zJ<|vH .s u<|fun b2=>zA 1 u<|zL<|zJ<|qC 0 u<|wW 1 2 u u u<|wW 0 2 u u u<|qD (vb (y0.1==y1))<|zA 1 u<|zL<|qP<|yY u u kk [0] d
abbrev zRB:=@Cn.mk 117 0 _ @zRD
attribute [instance] zXN zRB
theorem zFl{y0:List qZ}{y1:zC}: wL qd prog 116 [sv p1 y0 c1,.func (.func 117) #[] #[pt b1 0]] [bx b1 84 [vb y1.1,vs y1.2]] [Rl tN p1 c1 y0] (zAZ y0 y1) fun L r K=>K (vi r) L [] :=
 zO call116 func116 u fun X=>hI 0 2 1 (fun(s1:Int) K=>K [0,1,7] [] [0] [(8,vi s1)] [])<|
 au
abbrev zFk:=@Cn.mk 116 0 _ @zFl
attribute [instance] zFk
theorem zSm{y0:zI}{y1:zC}: zP qd prog 65 [.agg (vJ y0 p1 c1 p2 c2 p3 c3).toArray,.agg #[vb y1.1,vs y1.2]] [] (vO y0 p1 c1 p2 c2 p3 c3 []) (zDr y0 y1) fun r K=>K (vi r) [] [] :=
 zO call65 func65 u fun X=>
 au
abbrev zTO:=@Cn.mk 65 0 _ @zSm
theorem zRt{y0:zD}: zP qd prog 118 [vs y0] [] [] (zBv y0) fun r K=>K (vb r) [] [] :=
 zO call118 func118 u fun X=>jA 1 u<|zS<|z7v (fun K=>K [0] [] [] [(12,vb (((len y0)==0)||(decide (12<(len y0)))))] []) (
 au
)<|fun _ k=>k<|zV u (
 au
)<|jC<|zS<|jA 3 u<|zZ<|
  wP (fun s1 K=>K [0,14] [] [] [(15,vi s1)] []) (gv kk [] d)<|fun s1 _ k=>k<|jA 1 u<|zS<|zV u (jC<|zS<|zZ<|jA 2 u<|zJ<|zA 2 u<|tE fun x1 h1=>
  jv (fun h=>z6v h u u underlying9 h1)<|hP 4 8 0 (fun K=>K [0,3,4,14,15] [] [] [(21,vb ((decide (97≤x1))&&(decide (x1≤122))))] [])<|hP 4 9 0 (fun K=>K [0,14,15] [] [] [(28,vb ((decide (0<s1))&&(if decide (48≤x1) then(decide (x1≤57))||(x1==95) else x1==95)))] [])<|
 au
)<|
 au
abbrev zRf:=@Cn.mk 118 0 _ @zRt
attribute [instance] zTO zRf
theorem zWc{y0:zC}: zP qd prog 114 [.agg #[vb y0.1,vs y0.2]] [] [] (zCN y0) fun r K=>K (vb r) [] [] :=
 zO call114 func114 u fun X=>
 au
abbrev zW9:=@Cn.mk 114 0 _ @zWc
theorem zUM{y0:Int}: zP qd prog 113 [vi y0] [] [] (zD2 y0) fun r K=>K (vb r) [] [] :=
 zO call113 func113 u fun X=>hP 4 1 0 (fun K=>K [] [] [] [(2,vb ((decide (0≤y0))&&(decide (y0≤9))))] [])<|
 au
abbrev zUP:=@Cn.mk 113 0 _ @zUM
theorem zSr{y0:zD}: zP qd prog 115 [vs y0] [] [] (zFX y0) fun r K=>K (vb r) [] [] :=
 zO call115 func115 u fun X=>hI 1 1 0 (fun(s1:Bool) K=>K [] [] [] [(2,vb s1)] [])<|
 au
abbrev zTJ:=@Cn.mk 115 0 _ @zSr
attribute [instance] zW9 zUP zTJ
theorem zSs{y0:qZ}: zP qd prog 64 [.agg (zSq y0).toArray] [] [] (zDk y0) fun r K=>K (vi r) [] [] :=
 zO call64 func64 u fun X=>hI 2 1 1 (fun(s1:Unit) K=>K [1] [] [] [] [])<|hI 1 3 1 (fun(s2:Bool) K=>K [1,4] [] [] [(5,vb s2)] [])<|hI 1 10 0 (fun(s3:Bool) K=>K [] [(0,.r [])] [] [(26,vb s3)] [])<|
 au
abbrev zT7:=@Cn.mk 64 0 _ @zSs
theorem zRH{y0:zI}{y1:wB}: zP qd prog 68 [.agg (vJ y0 p1 c1 p2 c2 p3 c3).toArray,.agg (zO3 y1).toArray] [] (vO y0 p1 c1 p2 c2 p3 c3 []) (zDL y0 y1) fun r K=>K (vi r) [] [] :=
 zO call68 func68 u fun X=>hI 1 1 0 (fun(s1:Bool) K=>K [2,3] [] [0,1,2] [(15,vb s1)] [])<|
 au
abbrev zRE:=@Cn.mk 68 0 _ @zRH
theorem zTc{y0:zD}: zP qd prog 224 [vs y0] [] [] (zFK y0) fun r K=>K (vb r) [] [] :=
 zO call224 func224 u fun X=>
 au
abbrev zSg:=@Cn.mk 224 0 _ @zTc
attribute [instance] zT7 zRE zSg
theorem zLz{y0:zD}{y1:zD}: zP qd prog 162 [vs y0,vs y1] [] [] (zFv y0 y1) fun r K=>K (vi r) [] [] :=
 zO call162 func162 u fun X=>
 au
abbrev zRI:=@Cn.mk 162 0 _ @zLz
theorem zNq{y0:zC}{y1:zC}: zP qd prog 106 [.agg #[vb y0.1,vs y0.2],.agg #[vb y1.1,vs y1.2]] [] [] (zC2 y0 y1) fun r K=>K (vi r) [] [] :=
 zO call106 func106 u fun X=>zJ<|vH .s u<|fun b1=>vH .s u<|fun b2=>zA 1 u<|zL<|zS<|zJ<|qC 1 u<|qJ 0 u u u<|qC 1 u<|qJ 1 u u u<|wD zLz u d<|fun r1 _ k=>k<|zA 1 u<|zL<|
  z7v (fun K=>K [3,5] [(0,[])] [] [(19,vb ((r1 != 0)||(y0.1==y1.1)))] []) (vM<|zA 3 u<|jsp (b:=r1 != 0) 13 u (fun hb1=>zA 5 u<|qD (vb true)<|
  wN<|xR 19 (vb ((r1 != 0)||(y0.1==y1.1))) u (by rw[hb1];rfl)<|qI (gv kk [900,1] d))<|fun hb1=>qC 0 u<|qJ 0 u u u<|qC 0 u<|qJ 1 u u u<|qD (vb (y0.1==y1.1))<|qD (vb (y0.1==y1.1))<|wN<|
  xR 19 (vb ((r1 != 0)||(y0.1==y1.1))) u (by rw[hb1];rfl)<|qI (gv kk [900,1] d))<|fun _ k=>k<|zV u (jA 2 u<|qP<|yX<|yY u u kk [] d)<|jC<|zS<|zJ<|qC 0 u<|qJ 1 u u u<|zL<|zV u (
  jA 1 u<|qP<|yX<|yY u u kk [] d)<|jC<|jA 1 u<|qP<|yY u u kk [] d
abbrev zUL:=@Cn.mk 106 0 _ @zNq
attribute [instance] zRI zUL
theorem zXC{y0:zR}: zP qd prog 66 [.agg (zNN y0 p1 c1).toArray] [] (zPG y0 p1 c1 []) (zG3 y0) fun r K=>K (vi r) [] [] :=
 zO call66 func66 u fun X=>hD 14 [] [0] (.l [0,1,2,3,4,5,6,7,8,9,10] (.f 11 (.l [12] .e)))<|hI 1 3 0 (fun(s1:Bool) K=>K [1] [] [0] [(34,vb s1)] [])<|hI 2 5 1 (fun(s2:Unit) K=>K [1] [] [0] [] [])<|hI 0 6 1 (fun(s3:Int) K=>K [1,36,37] [] [0] [(38,vi s3)] [])<|hI 0 12 2 (fun(s4:Int) K=>K [1] [] [0] [(5,vi s4)] [])<|
 au
abbrev zXT:=@Cn.mk 66 0 _ @zXC
attribute [instance] zXT
set_option maxHeartbeats 2000000 in
theorem zE1{y0:zI}: zP qd prog 22 [.agg (vJ y0 p1 c1 p2 c2 p3 c3).toArray] [] (vO y0 p1 c1 p2 c2 p3 c3 []) (zBY y0) fun r K=>K (vi r) [] [] :=
 zO call22 func22 u fun X=>hP 4 1 0 (fun K=>K [1] [] [0,1,2] [(27,vb ((decide (16<(len y0.1)))||((decide (24<(len y0.2.1)))||(decide (8<(len y0.2.2))))))] [])<|hI 2 3 1 (fun(s1:Unit) K=>K [1] [] [0,1,2] [] [])<|hI 0 4 1 (fun(s2:Int) K=>K [1,29,30] [] [0,1,2] [(31,vi s2)] [])<|hI 2 12 1 (fun(s3:Unit) K=>K [1] [] [0,1,2] [] [])<|hI 0 13 1 (fun(s4:Int) K=>K [1,49,50] [] [1,0,2] [(51,vi s4)] [])<|hI 0 22 1 (fun(s5:Int) K=>K [1,69,70] [] [2,0,1] [(71,vi s5)] [])<|
 au
abbrev zRm:=@Cn.mk 22 0 _ @zE1
theorem zPO{y0:zI}: zP qd prog 10 [.agg (vJ y0 p1 c1 p2 c2 p3 c3).toArray] [] (vO y0 p1 c1 p2 c2 p3 c3 []) (zDw y0) fun r K=>∀ p4 c4,K (.tuple #[sv p4 r.1 c4,vi r.2]) [] [Rl wM p4 c4 r.1] :=
 zO call10 func10 u fun X=>zJ<|vH .s u<|fun b1=>zA 2 u<|zL<|jcs<|zS<|zJ<|wW 0 3 u u u<|wD zE1 u (cq [0,1,2])<|fun r1 _ k=>k<|zA 1 u<|zL<|jA 2 u<|zV u (jA 3 u<|qP<|yX<|jcr<|
  uI u (lT u (lT u lN)) (fun _ k=>k none 0) [] ⟨gn,d⟩)<|jC<|zJ<|wW 0 3 u u u<|qD (.agg #[sv p1 y0.1 c1,sv p2 y0.2.1 c2,sv p3 y0.2.2 c3,.slice none 0 0,.slice none 0 0,vi 0])<|uA wM 115<|vH .s u<|fun b2=>
  zA 1 u<|zL<|
  wR (fun s1 K=>∀ p4 c4 r_1,K [1,5] [(1,r_1),(2,bx b2 113 [sv p1 y0.1 c1,sv p2 y0.2.1 c2,sv p3 y0.2.2 c3,sv p4 s1 c4,.slice none 0 0,vi 0])] [1,2,3] [] [Al wM 115 r_1 p4 c4 s1]) (
  zJ<|qC 0 u<|qJ 0 u u u<|zA 2 u<|zL<|zZ<|
  wP (fun s2 K=>∀ p5 c5 r_2,K [1,5,20,21] [(1,r_2),(2,bx b2 113 [sv p1 y0.1 c1,sv p2 y0.2.1 c2,sv p3 y0.2.2 c3,sv p5 s2.2 c5,.slice none 0 0,vi 0])] [1,2,3] [(22,vi s2.1)] [Al wM 115 r_2 p5 c5 s2.2]) (gv (fun _ k=>k none 0 []) [0,1,2] (gq [0,1,2,3]))<|
  fun s2 _ k p5 c5 r_2=>k<|jA 1 u<|zS<|zV u (jC<|zS<|zZ<|zJ<|zA 1 u<|yK 1 u u u<|fun x1 b3 o1=>yS true zSw (gk 0) u<|vD .s (.agg k4)<|fun b4=>zA 1 u<|wA .s 3 u u u<|
  zL<|jdS [13] [2,3] 14<|qB 11 [0,1,2] u<|wE 3 3 u u<|yA 4 2 u u u u<|qB 8 [5] u<|wE 6 0 u u<|xV 7 3 2 u u u u<|yR 8 (.agg #[vi s2.1,vi (-1),.slice none 0 0,vb x1.1.1,vs x1.1.2]) u<|
  qQ 9<|uC (.f u) (e:=wM) 115 [vi s2.1,vi (-1),.slice none 0 0,vb x1.1.1,vs x1.1.2] ([(s2.1,(-1),([]:List Int),x1.1)]:List zF) (rC (vP vI (vP vI (vP (vL gn) (vP vB vS)))) rN)<|fun p6 c6=>qU<|qQ 10<|
  xL (.f u) 1 2 u (gk 0) u u<|fun x2 r_3 p7 c7=>qU<|qB 2 [11] u<|wE 12 3 u u<|qQ 13<|wA (o:=3) (.f u) 2 u u u<|jdb [] [2,3]<|wI<|yL<|qN<|jB 2 u<|uG (gv (fun _ k=>k p7 c7 r_3) [0,1,2] (gq [0,4,5,6])))<|
  xF<|uP<|uS<|xD<|qI (gv (fun _ k=>k p5 c5 r_2) [0,1,2] (gq [0,1,2,3])))<|fun s1 _ k p4 c4 r_1=>k<|zS<|jlb<|qN<|
  wR (fun s3 K=>∀ p8 c8 r_4 p9 c9 r_5,K [5] [(0,[]),(1,r_4),(2,bx b2 113 [sv p1 y0.1 c1,sv p2 y0.2.1 c2,sv p3 y0.2.2 c3,sv p8 s3.1 c8,sv p9 s3.2.1 c9,vi s3.2.2]),(3,r_5)] [1,2,3] [] [Al wM 115 r_4 p8 c8 s3.1,Al wM 115 r_5 p9 c9 s3.2.1]) (
  jA 1 u<|zZ<|
  wP (fun s4 K=>∀ p10 c10 r_6 p11 c11,K [1,5] [(1,r_6),(2,bx b2 113 [sv p1 y0.1 c1,sv p2 y0.2.1 c2,sv p3 y0.2.2 c3,sv p10 s4.2.1 c10,sv p11 s4.2.2.1 c11,vi s4.2.2.2])] [1,2,3] [(8,vi s4.1)] [Al wM 115 r_6 p10 c10 s4.2.1,Rl wM p11 c11 s4.2.2.1]) (gv (fun _ k=>k p4 c4 r_1 none 0) [0,1,2] ⟨gk 0,gn,gk 1,gk 2,gk 3,d⟩)<|
  fun s4 _ k p10 c10 r_6 p11 c11=>k<|zS<|zZ<|zJ<|zA 2 u<|qC 4 u<|uA wM 115<|wA .s 2 u u u<|zL<|
  jjoK (fun s5 K=>∀ p12 c12 r_7,K [1,5,8] [(2,bx b2 113 [sv p1 y0.1 c1,sv p2 y0.2.1 c2,sv p3 y0.2.2 c3,sv p10 s4.2.1 c10,sv p12 s5 c12,vi s4.2.2.2]),(3,r_7)] [3,4,5,1] [] [Al wM 115 r_7 p12 c12 s5]) (
  zJ<|qC 1 u<|qJ 0 u u u<|zA 2 u<|zL<|zZ<|
  wP (fun s6 K=>∀ p13 c13 r_8,K [1,5,8,47,48] [(2,bx b2 113 [sv p1 y0.1 c1,sv p2 y0.2.1 c2,sv p3 y0.2.2 c3,sv p10 s4.2.1 c10,sv p13 s6.2 c13,vi s4.2.2.2]),(3,r_8)] [4,3,5,1] [(49,vi s6.1)] [Al wM 115 r_8 p13 c13 s6.2]) (gv (fun _ k=>k none 0 []) [0,1,2,3] (gq [0,4,3,5,1]))<|
  fun s6 _ k p13 c13 r_8=>k<|jA 1 u<|zS<|zV u (jC<|zS<|zZ<|zJ<|zA 1 u<|yK 1 u u u<|fun x3 b5 o2=>yS true zYr (gk 0) u<|fun p14 c14=>vD .s (.agg k3)<|fun b6=>
  zA 1 u<|wA .s 4 u u u<|zL<|
  wR (fun s7 K=>∀ p15 c15 r_9,K [1,5,8,47,48,49] [(2,bx b2 113 [sv p1 y0.1 c1,sv p2 y0.2.1 c2,sv p3 y0.2.2 c3,sv p10 s4.2.1 c10,sv p15 s7 c15,vi s4.2.2.2]),(3,r_9),(4,[])] [3,4,5,6] [] [Al wM 115 r_9 p15 c15 s7]) (
  zJ<|qC 3 u<|qJ 4 u u u<|zA 2 u<|zL<|zV u (vM<|zA 2 u<|qK .s [2,1,3] [] zIl u u u ⟨ck 4,ck 3,ck 5,ck 6,ck 2,cn,d⟩<|fun r2 _ k p16 c16 r_10=>k<|wN<|
  qI (gv (fun _ k=>k p16 c16 r_10) [0,1,2,3,904] (gq [0,4,5,6,7])))<|jA 2 u<|zV u (jdS [13] [2,4] 14<|qB 11 [0,1,2] u<|wE 3 4 u u<|yA 4 2 u u u u<|qB 8 [5] u<|wE 6 4 u u<|
  xV 7 4 2 u u u u<|yR 8 (.agg #[vi (-1),vi s6.1,.slice none 0 0,vb (a4 x3).1,vs (a5 x3)]) u<|qQ 9<|
  uC (.f u) (e:=wM) 115 [vi (-1),vi s6.1,.slice none 0 0,vb (a4 x3).1,vs (a5 x3)] ([((-1),s6.1,([]:List Int),(a4 x3))]:List zF) (rC (vP vI (vP vI (vP (vL gn) (vP vB vS)))) rN)<|fun p17 c17=>qU<|
  qQ 10<|xL (.f u) 3 3 u (gk 0) u u<|fun x4 r_11 p18 c18=>qU<|qB 2 [11] u<|wE 12 4 u u<|qQ 13<|wA (o:=4) (.f u) 2 u u u<|jdb [] [2,4]<|wI<|qI (gv (fun _ k=>k p18 c18 r_11) [0,1,2,3,904] (gq [0,5,6,7,8])))<|
  uM<|qI (gv (fun _ k=>k p13 c13 r_8) [0,1,2,3,904] (gq [2,3,4,5,6])))<|fun s7 _ k p15 c15 r_9=>k<|zJ<|zA 1 u<|qK .s [2] [1,3] zEM u u u ⟨ck 2,ck 1,ck 3,cl 1 4,cl 3 0,d⟩<|fun r3 _ k=>k<|zL<|zV u (xF<|
  jbm<|uP<|uS<|jbm<|uS<|jbm<|uP<|uS<|xD<|qI (gv (fun _ k=>k p10 c10 r_6 p15 c15 r_9) [900,1,2,3] (gq [4,0,2,1,3])))<|uM<|yL<|qN<|jB 2 u<|uG (gv (fun _ k=>k p15 c15 r_9) [0,1,2,3] (gq [0,1,2,3,4])))<|xF<|uP<|uS<|xD<|
  uG (gv (fun _ k=>k p13 c13 r_8) [0,1,2,3] (gq [0,2,1,3,4])))<|fun s5 _ k p12 c12 r_7=>k<|zS<|zJ<|zA 2 u<|qC 4 u<|qJ 2 u u u<|zA 2 u<|zL<|zV u (xF<|uP<|jbm<|uP<|uS<|xD<|
  qI (gv (fun _ k=>k p10 c10 r_6 p12 c12 r_7) [900,1,2,3] (gq [4,0,1,2,3])))<|jC<|zJ<|zA 3 u<|qC 3 u<|qJ 2 u u u<|zA 2 u<|qC 5 u<|wA .s 2 u u u<|zL<|jdS [12] [2] 13<|qB 10 [0,1,2] u<|
  wE 3 3 u u<|yA 4 2 u u u u<|qB 6 [5,6] u<|wE 7 4 u u<|yA 8 2 u u u u<|qQ 9<|jao (.f u) 1 3 4 0 u u u u<|fun x5 r_12 p19 c19=>qU<|qB 2 [10] u<|wE 11 3 u u<|qQ 12<|
  wA (o:=3) (.f u) 2 u u u<|jdb [] [2]<|wI<|yL<|qN<|jB 3 u<|yU 3 1 u u<|uG (gv (fun _ k=>k p19 c19 r_12 p12 c12) [0,1,2] (gq [1,0,3,4,5])))<|fun s3 _ k p8 c8 r_4 p9 c9 r_5=>k<|zS<|zJ<|zA 1 u<|
  qK .s [2] [1,3] zEM u u u ⟨ck 2,ck 3,ck 4,cl 1 0,cl 3 1,d⟩<|fun r4 _ k=>k<|zL<|zV u (jA 2 u<|qP<|yX<|jcr<|uI u (lT u (lT u lN)) (fun _ k=>k none 0) [] ⟨gn,d⟩)<|jC<|zJ<|zA 2 u<|qC 3 u<|
  qJ 2 u u u<|zA 2 u<|zL<|qP<|jcr<|yU 1 0 u u<|uI u (lT u (lT u lN)) (fun _ k=>k p8 c8) [] (gq [0])
abbrev zVs:=@Cn.mk 10 0 _ @zPO
theorem zEo{y0:List zC}: zP qd prog 76 [sv p1 y0 c1] [] [Rl qH p1 c1 y0] (zCd y0) fun r K=>∀ p2 c2 r_1,K (sv p2 r c2) [r_1] [Al qH 84 r_1 p2 c2 r] :=
 zO call76 func76 u fun X=>jA 1 u<|zS<|zJ<|zA 1 u<|jv (fun h=>z7O h u underlying59)<|zL<|jnl (m1:=some ([]:List zC)) u (gk 0) (fun h=>by first|(rw[h];done)|(rw[h];rfl)|(simp[h,qG];done)) (jA 1 u<|qP<|yX<|uA qH 84<|
  jrE 0 2 u u<|
 au
)<|hO 5<|
 au
abbrev zP3:=@Cn.mk 76 0 _ @zEo
theorem zNg{y0:List zC}: zP qd prog 107 [sv p1 y0 c1] [r_1] [Al qH 84 r_1 p1 c1 y0] (zCK y0) fun r K=>∀ p2 c2 r_2,K (sv p2 r c2) [[],r_2] [Al qH 84 r_2 p2 c2 r] :=
 zO call107 func107 u fun X=>jA 1 u<|zS<|jA 3 u<|zV u (
 au
)<|jC<|zS<|jA 1 u<|zZ<|
  wP (fun s1 K=>K [0] [] [0] [(3,vi s1)] []) (gv kk [0] (gq [0]))<|fun s1 _ k=>k<|zS<|jA 4 u<|zV u (jC<|zS<|zZ<|tB [] [0] 10<|qB 8 [0,1] u<|
  jdI 2 0 u u u u<|fun x1 h1 b1 o1 hp1=>jdL 3 0 0 sI true tH u u hp1 h1 u<|qB 3 [4,5,6] u<|jdI 7 0 u u u u<|fun x2 h2 b2 o2 hp2=>jdL 8 0 0 sI true tH u u hp2 h2 u<|yR 9 (vb (x1==x2)) u<|wI<|
  qN<|zV u (zJ<|zA 2 u<|jsV 0 u u u<|fun u1 p2 c2 f1=>zA 1 u<|zL<|
  jjn (fun s2 K=>∀ r_2,K [(0,.slice p1 (List.length y0) c1),(3,vi s2.2)] [r_2] [Ar qH 84 r_2 p1 c1 (List.length y0) s2.1]) (
  jA 1 u<|zZ<|
  wP (fun s3 K=>∀ r_3,K [4] [(0,r_3)] [] [(0,.slice p1 (List.length y0) c1),(3,vi s3.2.1),(5,vi s3.2.2)] [Ar qH 84 r_3 p1 c1 (List.length y0) s3.1]) (gv (fun _ k=>k r_1) [0] (gq [0]))<|
  fun s3 _ k r_3=>k<|zS<|jA 4 u<|zV u (jC<|zS<|zZ<|tB [] [0] 10<|qB 8 [0,1] u<|jdX 2 0 u u f1 u u<|fun x3 b3 o3 hp3 h3=>jdL 3 0 0 sI true tH u u hp3 h3 u<|qB 3 [4,5,6] u<|
  jdX 7 0 u u f1 u u<|fun x4 b4 o4 hp4 h4=>jdL 8 0 0 sI true tH u u hp4 h4 u<|yR 9 (vb (!(x3==x4))) u<|wI<|qN<|zV u (zJ<|zA 4 u<|jiV 0 u f1 u u<|
 au
)<|
 au
)<|
 au
)<|fun s2 _ k r_2=>k<|zJ<|zA 2 u<|jsV 0 u u u<|fun u2 p3 c3 f2=>
  jcv .s 0 0 (false,[]) (.agg k0) u f2 u (vP vB vS)<|
 au
)<|
 au
)<|
 au
abbrev zOJ:=@Cn.mk 107 0 _ @zNg
theorem zDS{y0:List zC}: zP qd prog 105 [sv p1 y0 c1,.func (.func 106) #[] #[]] [r_1] [Al qH 84 r_1 p1 c1 y0] (zAR y0) fun r K=>∀ r_2,K (.tuple #[]) [r_2] [Ar qH 84 r_2 p1 c1 (List.length y0) r]:=⟨call105,fun A w0 r hm hO hF=>by
 have h:=zSc (qd:=qd) Go.Proofs.Tryz.sort105 (yM.prod yM.bool yM.str) (te:=84) Tryz.isAgg84 Tryz.sizeOf84 zC2 106 (enters_of func106 (by kernel_rfl) u) (fun w x y n hn=>?_) hO hF.1.1 hm
 · change Calls prog 105 _ _ _ at h
   refine h.mono fun e w' h=>?_
   cases e with
   | returned v=>obtain⟨r',rfl,h1,h2,h3,h4⟩:=h;exact fun G k=>k r' ⟨rfl,h1,h2,⟨h3,h4.symm⟩,trivial⟩
   | panicked ch=>exact h
   | outgrown=>exact h
 · refine((zNq (qd:=True) (y0:=x) (y1:=y)).go [] w n hn (zU.start (by simp)) trivial).mono fun e w' h=>?_
   cases e with
   | returned v=>exact h _ fun⟨e1,q⟩=>⟨e1,q.e⟩
   | panicked ch=>exact h
   | outgrown=>exact h⟩
abbrev zH0:=@Cn.mk 105 0 _ @zDS
attribute [instance] zRm zVs zP3 zOJ zH0
theorem zHF{y0:List zC}: zP qd prog 56 [sv p1 y0 c1] [] [Rl qH p1 c1 y0] (zB7 y0) fun r K=>∀ p2 c2 r_1,K (sv p2 r c2) [r_1] [Al qH 84 r_1 p2 c2 r] :=
 zO call56 func56 u fun X=>jA 1 u<|zJ<|zA 1 u<|wD zEo u (cq [0])<|fun r1 _ k p2 c2 r_1=>k<|zA 1 u<|zL<|zJ<|zA 1 u<|qK .s [0] [] zDS u u u (cq [0])<|fun r2 _ k r_2=>k<|zL<|zJ<|
  zA 1 u<|jrE 0 8 u u<|
 au
abbrev zVt:=@Cn.mk 56 0 _ @zHF
theorem zK6{y0:List zF}{y1:List Int}: zP qd prog 49 [sv p1 y0 c1,sv p2 y1 c2] [] [Rl wM p1 c1 y0,Rl (zH .i64) p2 c2 y1] (zCG y0 y1) fun r K=>∀ p3 c3,K (sv p3 r c3) [] [Rl qH p3 c3 r] :=
 zO call49 func49 u fun X=>jA 1 u<|zJ<|zA 1 u<|uA qH 84 <|zL<|
  jjn (fun s1 K=>∀ p3 c3 r_1,K [(5,sv p3 s1 c3)] [r_1] [Al qH 84 r_1 p3 c3 s1]) (jA 3 u<|zZ<|
  wP (fun s2 K=>∀ p4 c4 r_2,K [0,8,9] [(0,r_2)] [1,2] [(5,sv p4 s2.1 c4),(10,vi s2.2)] [Al qH 84 r_2 p4 c4 s2.1]) (gv (fun _ k=>k none 0 []) [0] (gq [0,1,2]))<|
  fun s2 _ k p4 c4 r_2=>k<|jA 1 u<|zS<|zV u (jC<|zS<|zZ<|zJ<|yK 2 u u u<|fun x1 b1 o1=>yS false oI (gk 0) u<|zA 1 u<|zL<|zJ<|zA 2 u<|wD zKn u (cq [2])<|fun r1 _ k=>k<|zL<|zV u (vM<|zA 3 u<|
  yK 2 u u u<|fun x2 b2 o2=>qC 3 u<|yS true tH (gs (gs (gs (gk 0)))) u<|uC .s (e:=qH) 84 [vb x2.2.2.2.1,vs (a4 x2)] ([x2.2.2.2]:List zC) (rC (vP vB vS) rN)<|fun p5 c5=>xL .s 0 3 u (gk 0) u u<|
  fun x3 r_3 p6 c6=>zA 1 u<|wN<|yL<|qN<|jB 2 u<|uG (gv (fun _ k=>k p6 c6 r_3) [0] (gq [0,5,6])))<|uM<|yL<|qN<|jB 2 u<|uG (gv (fun _ k=>k p4 c4 r_2) [0] (gq [1,2,3])))<|xF<|uP<|uS<|xD<|
  qI (gv (fun _ k=>k p4 c4 r_2) [0] (gq [0])))<|fun s1 _ k p3 c3 r_1=>k<|zJ<|zA 1 u<|yU 0 0 u u<|wD zHF u (cq [0])<|fun r2 _ k p7 c7 r_4=>k<|zA 1 u<|zL<|qP<|yU 1 0 u u<|
  yY u u (fun _ k=>k p7 c7) [] (gq [0])
abbrev zP6:=@Cn.mk 49 0 _ @zK6
theorem zEG{y0:zC}: zP qd prog 53 [.agg #[vb y0.1,vs y0.2]] [] [] (zCF y0) fun r K=>K (.agg #[vb r.1,vs r.2]) [] [] :=
 zO call53 func53 u fun X=>
 au
abbrev zRS:=@Cn.mk 53 0 _ @zEG
theorem zYH{y0:zI}{y1:List zF}{y2:Int}{y3:Int}: zP qd prog 134 [.agg (vJ y0 p1 c1 p2 c2 p3 c3).toArray,sv p4 y1 c4,vi y2,vi y3] [] (vO y0 p1 c1 p2 c2 p3 c3 [Rl wM p4 c4 y1]) (zKz y0 y1 y2 y3) fun r K=>∀ p5 c5,K (sv p5 r c5) [] [Rl (zH .i64) p5 c5 r] :=
 zO call134 func134 u fun X=>zJ<|vH .s u<|fun b1=>zA 1 u<|zL<|zJ<|zA 1 u<|uA (zH .i64) 3 <|zL<|
  wR (fun s1 K=>∀ b2 b3 p5 c5,K [4,9] [(2,bx b2 84 [vb s1.1.1,vs s1.1.2]),(3,bx b3 115 (z42 s1.2 p5 c5))] [0,1,2,3] [(10,pt b2 0),(11,pt b3 0)] (z4v s1.2 p5 c5 [])) (
  jdS [] [] 13<|qB 11 [0,1] u<|jdi 2 4 u u u u<|fun x1 b4 o1=>wE 3 3 u u<|jdl 4 true tH u (gs (gs (gs (gk 0)))) u<|qB 6 [5,6] u<|jdi 7 5 u u u u<|fun x2 b5 o2=>
  jdl 8 true zU6 u (gk 0) u<|fun p6 c6=>jd2 9 10 (vD (.f u) (.agg k0)<|fun b6=>qU<|qQ 10<|vD (.f u) (.agg k6)<|fun b7=>qU<|qQ 11<|
  wA (o:=0) (.f u) 2 u u u<|qU<|qQ 12<|wA (o:=0) (.f u) 3 u u u<|qU<|wI<|qI (gv (fun _ k=>k b6 b7 p6 c6) [0,1,2,3] (gq [0,3,4,5,6]))) <|vD (.f u) (.agg k6)<|fun b8=>
  qU<|qQ 9<|vD (.f u) (.agg k0)<|fun b9=>qU<|qQ 11<|wA (o:=0) (.f u) 3 u u u<|qU<|qQ 12<|wA (o:=0) (.f u) 2 u u u<|qU<|wI<|qI (gv (fun _ k=>k b9 b8 p6 c6) [0,1,3,2] (gq [0,3,4,5,6])))<|
  fun s1 _ k b2 b3 p5 c5=>k<|tB [] [2,3] 6<|xV 0 2 2 u u u u<|wE 1 3 u u<|xV 2 3 2 u u u u<|qQ 3<|qK (.f u) [] [] zEG u u u d<|fun r1 _ k=>k<|qU<|
  yR 4 (vb (s1.1==r1)) u<|qB 0 [5] u<|wI<|qN<|zS<|zZ<|zJ<|qC 0 u<|qJ 3 u u u<|zA 2 u<|zL<|zV u (
  wR (fun s2 K=>K [9] [(0,[]),(2,[]),(3,[])] [1] [(41,vb s2)] []) (vM<|zA 2 u<|jsg 32 u (qC 0 u<|qJ 0 u u u<|qC 0 u<|qJ 3 u u u<|
  yK 2 u u u<|fun x3 b10 o3=>qC 2 u<|yS false oI (gf (gs (gk 0))) u<|zA 1 u<|qD (vb (x3.2.1 != 1))<|wN<|qI (gv kk [900,1,902,903] (gq [2])))<|zA 8 u<|qD (vb false)<|wN<|
  qI (gv kk [900,1,902,903] (gq [1])))<|fun s2 _ k=>k<|zV u (vM<|zA 1 u<|uC .s (e:=zH .i64) 3 [vi 1] ([1]:List Int) (rC vI rN)<|fun p7 c7=>xL .s 1 1 u (gk 0) u u<|fun x4 r_1 p8 c8=>zA 1 u<|wN<|yL<|qN<|
  jA 2 u<|qP<|yU 1 0 u u<|yY u u (fun _ k=>k p8 c8) [] (gq [0]))<|uM<|yL<|qN<|jA 2 u<|qP<|yU 1 0 u u<|yY u u (fun _ k=>k none 0) [] (gq [0]))<|zJ<|qC 1 u<|qJ 0 u u u<|qC 1 u<|qJ 3 u u u<|
  yK 3 u u u<|fun x5 b11 o4=>qC 1 u<|yS false oB (gf (gs (gk 0))) u<|zA 2 u<|zL<|zV u (
  wR (fun s3 K=>∀ p9 c9 r_2,K [4,10,11] [(1,r_2)] [3,4,5,1] [(9,sv p9 s3 c9)] [Al (zH .i64) 3 r_2 p9 c9 s3]) (
  jA 1 u<|zV u (vM<|zA 1 u<|uC .s (e:=zH .i64) 3 [vi 2] ([2]:List Int) (rC vI rN)<|fun p10 c10=>xL .s 1 3 u (gk 0) u u<|fun x6 r_3 p11 c11=>zA 1 u<|wN<|qI (gv (fun _ k=>k p11 c11 r_3) [0,1,2,3] (gq [0,5,6,7,3])))<|
  uM<|qI (gv (fun _ k=>k none 0 []) [0,1,2,3] (gq [2,3,4,5,1])))<|fun s3 _ k p9 c9 r_2=>k<|wR (fun s4 K=>K [9] [(0,[]),(2,[]),(3,[])] [0] [(71,vb s4)] []) (
  jdS [] [0,2,3] 14<|wE 0 0 u u<|yA 1 2 u u u u<|qB 11 [2] u<|jsg 60 u (wE 3 1 u u<|yA 4 2 u u u u<|wE 5 1 u u<|yA 6 0 u u u u<|wE 7 1 u u<|yA 8 3 u u u u<|
  jdi 9 2 u u u u<|fun x7 b12 o5=>wE 10 0 u u<|jdl 11 false oS u (gf (gk 0)) u<|qB 1 [12] u<|yR 13 (vb (s1.1.2==x7.1)) u<|wI<|qI (gv kk [900,1,902,903] (gq [1])))<|qB 1 [3,4,5,6,7,8,9,10,11,12] u<|
  yR 13 (vb false) u<|wI<|qI (gv kk [900,1,902,903] (gq [0])))<|fun s4 _ k=>k<|zV u (vM<|zA 1 u<|uC .s (e:=zH .i64) 3 [vi 3] ([3]:List Int) (rC vI rN)<|fun p12 c12=>xL .s 1 1 u (gk 0) u u<|
  fun x8 r_4 p13 c13=>zA 1 u<|wN<|yL<|qN<|jA 2 u<|qP<|yU 1 0 u u<|yY u u (fun _ k=>k p13 c13) [] (gq [0]))<|uM<|yL<|qN<|jA 2 u<|qP<|yU 1 0 u u<|yY u u (fun _ k=>k p9 c9) [] (gq [0]))<|uM<|yL<|qN<|
  jA 2 u<|qP<|yU 1 2 u u<|yY u u (fun _ k=>k none 0) [] (gq [0])
abbrev zXt:=@Cn.mk 134 0 _ @zYH
theorem zWe{y0:Int}: zP qd prog 132 [vi y0] [] [] (zKO y0) fun r K=>K (vb r) [] [] :=
 zO call132 func132 u fun X=>
 au
abbrev zX1:=@Cn.mk 132 0 _ @zWe
attribute [instance] zVt zP6 zRS zXt zX1
theorem zTw{y0:Int}{y1:Int}: zP qd prog 94 [vi y0,vi y1] [] [] (zBn y0 y1) fun r K=>K (vi r) [] [] :=
 zO call94 func94 u fun X=>
 au
abbrev zUf:=@Cn.mk 94 0 _ @zTw
theorem z0T{y0:List Int}: zP qd prog 93 [sv p1 y0 c1] [] [Rl (zH .i64) p1 c1 y0] (zI0 y0) fun r K=>K (vi r) [] [] :=
 zO call93 func93 u fun X=>hI 0 3 1 (fun(s1:Int) K=>K [3,6,7] [] [0] [(8,vi s1)] [])<|
 au
abbrev z0p:=@Cn.mk 93 0 _ @z0T
attribute [instance] zUf z0p
theorem zNF{y0:qL}{y1:qL}: zP qd prog 137 [.agg (zZk y0).toArray,.agg (zZk y1).toArray] [] [] (zDq y0 y1) fun r K=>K (vi r) [] [] :=
 zO call137 func137 u fun X=>hD 1 [] [0,1] (.l [0,1,2,3,5,6,7,8,10,11,12,13,15,16,17,18] (.f 4 (.f 9 (.f 14 (.f 19 (.f 20 (.f 21 (.l [22] .e))))))))<|
 au
abbrev zTN:=@Cn.mk 137 0 _ @zNF
theorem zDT{y0:List qL}: zP qd prog 136 [sv p1 y0 c1,.func (.func 137) #[] #[]] [r_1] [Al zDW 164 r_1 p1 c1 y0] (zAf y0) fun r K=>∀ r_2,K (.tuple #[]) [r_2] [Ar zDW 164 r_2 p1 c1 (List.length y0) r]:=⟨call136,fun A w0 r hm hO hF=>by
 have h:=zSc (qd:=qd) Go.Proofs.Tryz.sort136 (yM.prod (yM.int .i64) (yM.prod (yM.int .i64) (yM.prod (yM.int .i64) (yM.int .i64)))) (te:=164) Tryz.isAgg164 Tryz.sizeOf164 zDq 137 (enters_of func137 (by kernel_rfl) u) (fun w x y n hn=>?_) hO hF.1.1 hm
 · change Calls prog 136 _ _ _ at h
   refine h.mono fun e w' h=>?_
   cases e with
   | returned v=>obtain⟨r',rfl,h1,h2,h3,h4⟩:=h;exact fun G k=>k r' ⟨rfl,h1,h2,⟨h3,h4.symm⟩,trivial⟩
   | panicked ch=>exact h
   | outgrown=>exact h
 · refine((zNF (qd:=True) (y0:=x) (y1:=y)).go [] w n hn (zU.start (by simp)) trivial).mono fun e w' h=>?_
   cases e with
   | returned v=>exact h _ fun⟨e1,q⟩=>⟨e1,q.e⟩
   | panicked ch=>exact h
   | outgrown=>exact h⟩
abbrev zHS:=@Cn.mk 136 0 _ @zDT
attribute [instance] zTN zHS
theorem zVM{y0:zI}{y1:List zF}: zP qd prog 97 [.agg (vJ y0 p1 c1 p2 c2 p3 c3).toArray,sv p4 y1 c4] [] (vO y0 p1 c1 p2 c2 p3 c3 [Rl wM p4 c4 y1]) (zFD y0 y1) fun r K=>∀ p5 c5 r_1,K (sv p5 r c5) [r_1] [Al zDW 164 r_1 p5 c5 r] :=
 zO call97 func97 u fun X=>zJ<|vH .s u<|fun b1=>zA 1 u<|zL<|zJ<|zA 1 u<|uA zDW 164 <|zL<|
  jjn (fun s1 K=>∀ p5 c5 r_1,K [(5,sv p5 s1 c5)] [[],r_1] [Al zDW 164 r_1 p5 c5 s1]) (hI 0 3 1 (fun(s2:(List qL)×Int) K=>∀ p6 c6 r_2,K [1,2,13] [(1,.r r_2)] [4,1,2,3] [(5,sv p6 s2.1 c6),(14,vi s2.2)] [Al zDW 164 r_2 p6 c6 s2.1])<|hI 0 6 1 (fun(s3:(List qL)×Int) K=>∀ p7 c7 r_3,K [1,2,6,13,14,18] [(1,.r r_3)] [1,2,3,4] [(5,sv p7 s3.1 c7),(19,vi s3.2)] [Al zDW 164 r_3 p7 c7 s3.1])<|hI 0 11 1 (fun(s4:(List qL)×Int) K=>∀ p9 c9 r_4,K [1,2,6,7,8,13,14,18,19,31] [(1,.r r_4)] [2,0,3,4,5] [(5,sv p9 s4.1 c9),(32,vi s4.2)] [Al zDW 164 r_4 p9 c9 s4.1])<|hI 0 15 1 (fun(s5:(List qL)×Int) K=>∀ p11 c11 r_5,K [1,2,6,7,8,9,13,14,18,19,31,32,41,42] [(1,.r r_5)] [2,3,4,5,6] [(5,sv p11 s5.1 c11),(43,vi s5.2)] [Al zDW 164 r_5 p11 c11 s5.1])<|
 au
)<|
  fun s1 _ k p5 c5 r_1=>k<|zJ<|zA 1 u<|qK .s [1] [] zDT u u u (cq [0])<|fun r4 _ k r_7=>k<|zL<|jA 2 u<|qP<|jrE 0 4 u u<|
 au
abbrev zVj:=@Cn.mk 97 0 _ @zVM
end Go.Proofs.YtgdgcdmdogdmgaaGreatDoor
