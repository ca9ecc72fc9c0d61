/- A part. Conditions: none. -/
import Derived.Test.YtmpieaddiaihmaaGreatDoorProg
import Derived.Test.YtmpieaddiaihmaaGreatDoorArrv
import Derived.Test.YtmpieaddiaihmaaGreatDoorModels
import Derived.Test.YtmpieaddiaihmaaGreatDoorSort
import Derived.Test.YtmpieaddiaihmaaGreatDoorSort2
import Derived.Test.YtmpieaddiaihmaaGreatDoorShelfP
import Derived.Test.YtmpieaddiaihmaaGreatDoorArrl
import Derived.Test.YtmpieaddiaihmaaGreatDoorSb4
import Derived.Test.YtmpieaddiaihmaaGreatDoorFsl
import Derived.Test.YtmpieaddiaihmaaGreatDoorArrw
import Derived.Test.YtmpieaddiaihmaaGreatDoorDel
import Derived.Test.YtmpieaddiaihmaaGreatDoorGro
import Derived.Test.YtmpieaddiaihmaaGreatDoorAu
import Derived.Test.YtmpieaddiaihmaaGreatDoorJg
namespace Go.Proofs.YtmpieaddiaihmaaGreatDoor
open Go Go.GD Go.Proofs.Tryz
set_option autoImplicit false
set_option linter.unusedVariables false
set_option maxRecDepth 100000
set_option linter.defProp false
variable {qd:Prop}
variable {yl1:Nat}{p1 p2 p3 p4 p5 p6 p7 p8 p9:Option Addr}{c1 c2 c3 c4 c5 c6 c7 c8 c9:Nat}{b1 b2 b3 b4 b5 b6 b7 b8 b9 b10 b11:Nat}{r_1 r_2 r_3 r_4 r_5 r_6:zJ}
abbrev a4{α0 α1 α2 α3 α4:Type}(x:α0×α1×α2×α3×α4): α4:=x.2.2.2.2
abbrev a5{α0 α1 α2 α3 α4 α5:Type}(x:α0×α1×α2×α3×α4×α5): α5:=x.2.2.2.2.2
abbrev a6{α0 α1 α2 α3 α4 α5 α6:Type}(x:α0×α1×α2×α3×α4×α5×α6): α6:=x.2.2.2.2.2.2
abbrev a7{α0 α1 α2 α3 α4 α5 α6 α7:Type}(x:α0×α1×α2×α3×α4×α5×α6×α7): α7:=x.2.2.2.2.2.2.2
abbrev k0:Array Value:=#[Value.slice none 0 0,Value.slice none 0 0,Value.slice none 0 0,Value.slice none 0 0,Value.slice none 0 0,vi 0,Value.slice none 0 0]
abbrev k1:Array Value:=#[Value.slice none 0 0,Value.slice none 0 0,Value.slice none 0 0]
abbrev k2:Array Value:=#[vs [],vb false,vi 0,Value.slice none 0 0,vb false,vs []]
abbrev k3:Array Value:=#[vb false,vs []]
abbrev k4:Array Value:=#[vi 0,vi 0]
abbrev k5:Array Value:=#[vi 0,Value.slice none 0 0]
abbrev k6:Array Value:=#[vi 0,Value.slice none 0 0,Value.slice none 0 0]
abbrev k7:Array Value:=#[vb false,vs [],vi 0,vi 0,vs []]
abbrev k8:Array Value:=#[vi 0,vi 0,Value.slice none 0 0,vb false,vs []]
abbrev k9:List Value:=[Value.slice none 0 0,Value.slice none 0 0,Value.slice none 0 0]
abbrev z59:E uG:=wH (qA (zC .i64)) (zC .i64)
abbrev o_keep_Src:uW z59:=(oP oL oI)
abbrev zIg (y:uG)(p1:Option Addr)(c1:Nat): List Value:=[sv p1 y.1 c1,vi y.2]
abbrev zIt (y:uG)(p1:Option Addr)(c1:Nat)(t:List PP): List PP:=Rl (zC .i64) p1 c1 y.1::t
abbrev qY:E zI:=wH zZX wB
abbrev xZ:uW qY:=(oP oB oS)
abbrev tP:E wM:=wH qY (wH (zC .i64) (wH (zC .i64) wB))
abbrev zXQ:uW tP:=(oP xZ (oP oI (oP oI oS)))
abbrev zQq (y:wM): List Value:=[vb y.1.1,vs y.1.2,vi y.2.1,vi y.2.2.1,vs y.2.2.2]
abbrev xH:E qC:=wH wB (wH zZX (wH (zC .i64) (wH (qA qY) qY)))
abbrev zZj:uW xH:=(oP oS (oP oB (oP oI (oP oL xZ))))
abbrev zVs (y:qC)(p1:Option Addr)(c1:Nat): List Value:=[vs y.1,vb y.2.1,vi y.2.2.1,sv p1 y.2.2.2.1 c1,vb y.2.2.2.2.1,vs y.2.2.2.2.2]
abbrev zZ9 (y:qC)(p1:Option Addr)(c1:Nat)(t:List PP): List PP:=Rl qY p1 c1 y.2.2.2.1::t
abbrev tK:E wE:=wH wB (wH (zC .i64) qY)
abbrev zYG:uW tK:=(oP oS (oP oI xZ))
abbrev zPN (y:wE): List Value:=[vs y.1,vi y.2.1,vb y.2.2.1,vs y.2.2.2]
abbrev z4i:E zM:=wH (qA tP) (wH (qA xH) (qA tK))
abbrev z6c:uW z4i:=(oP oL (oP oL oL))
abbrev vT (y:zM)(p1:Option Addr)(c1:Nat)(p2:Option Addr)(c2:Nat)(p3:Option Addr)(c3:Nat): List Value:=[sv p1 y.1 c1,sv p2 y.2.1 c2,sv p3 y.2.2 c3]
abbrev vW (y:zM)(p1:Option Addr)(c1:Nat)(p2:Option Addr)(c2:Nat)(p3:Option Addr)(c3:Nat)(t:List PP): List PP:=Rl tP p1 c1 y.1::Rl xH p2 c2 y.2.1::Rl tK p3 c3 y.2.2::t
abbrev qS:E zD:=wH (zC .i64) (wH (zC .i64) (wH (qA (zC .i64)) qY))
abbrev zVE:uW qS:=(oP oI (oP oI (oP oL xZ)))
abbrev z6A (y:zD)(p1:Option Addr)(c1:Nat): List Value:=[vi y.1,vi y.2.1,sv p1 y.2.2.1 c1,vb y.2.2.2.1,vs y.2.2.2.2]
abbrev z6B (y:zD)(p1:Option Addr)(c1:Nat)(t:List PP): List PP:=Rl (zC .i64) p1 c1 y.2.2.1::t
abbrev tN:E qQ:=wH (zC .i64) (wH (zC .i64) (wH (zC .i64) (zC .i64)))
abbrev z89:uW tN:=(oP oI (oP oI (oP oI oI)))
abbrev z0Z (y:qQ): List Value:=[vi y.1,vi y.2.1,vi y.2.2.1,vi y.2.2.2]
abbrev qH:E zT:=wH (zC .i64) (zC .i64)
abbrev zSR:uW qH:=(oP oI oI)
abbrev zZz:E zY:=wH (zC .i64) (qA qH)
abbrev z4J:uW zZz:=(oP oI oL)
abbrev wW (y:zY)(p1:Option Addr)(c1:Nat): List Value:=[vi y.1,sv p1 y.2 c1]
abbrev f_Graph (y:zY)(p1:Option Addr)(c1:Nat)(t:List PP): List PP:=Rl qH p1 c1 y.2::t
abbrev zZn:E zCL:=wH z4i (wH (qA qS) (wH (qA tN) zZz))
abbrev z6T:uW zZn:=(oP z6c (oP oL (oP oL z4J)))
abbrev zOf (y:zCL)(p1:Option Addr)(c1:Nat)(p2:Option Addr)(c2:Nat)(p3:Option Addr)(c3:Nat)(p4:Option Addr)(c4:Nat)(p5:Option Addr)(c5:Nat)(p6:Option Addr)(c6:Nat): List Value:=[sv p1 y.1.1 c1,sv p2 y.1.2.1 c2,sv p3 y.1.2.2 c3,sv p4 y.2.1 c4,sv p5 y.2.2.1 c5,vi y.2.2.2.1,sv p6 y.2.2.2.2 c6]
abbrev zOr (y:zCL)(p1:Option Addr)(c1:Nat)(p2:Option Addr)(c2:Nat)(p3:Option Addr)(c3:Nat)(p4:Option Addr)(c4:Nat)(p5:Option Addr)(c5:Nat)(p6:Option Addr)(c6:Nat)(t:List PP): List PP:=Rl tP p1 c1 y.1.1::Rl xH p2 c2 y.1.2.1::Rl tK p3 c3 y.1.2.2::Rl qS p4 c4 y.2.1::Rl tN p5 c5 y.2.2.1::Rl qH p6 c6 y.2.2.2.2::t
abbrev zR9:E yG:=wH (zC .i64) (zC .i64)
abbrev z5v:uW zR9:=(oP oI oI)
abbrev zU1:E uP:=wH z4i (wH (qA qS) (wH (qA qS) (zC .i64)))
abbrev z4z:uW zU1:=(oP z6c (oP oL (oP oL oI)))
abbrev zHu (y:uP)(p1:Option Addr)(c1:Nat)(p2:Option Addr)(c2:Nat)(p3:Option Addr)(c3:Nat)(p4:Option Addr)(c4:Nat)(p5:Option Addr)(c5:Nat): List Value:=[sv p1 y.1.1 c1,sv p2 y.1.2.1 c2,sv p3 y.1.2.2 c3,sv p4 y.2.1 c4,sv p5 y.2.2.1 c5,vi y.2.2.2]
abbrev zHo (y:uP)(p1:Option Addr)(c1:Nat)(p2:Option Addr)(c2:Nat)(p3:Option Addr)(c3:Nat)(p4:Option Addr)(c4:Nat)(p5:Option Addr)(c5:Nat)(t:List PP): List PP:=Rl tP p1 c1 y.1.1::Rl xH p2 c2 y.1.2.1::Rl tK p3 c3 y.1.2.2::Rl qS p4 c4 y.2.1::Rl qS p5 c5 y.2.2.1::t
abbrev z1u:E zDo:=wH zZz (qA (zC .i64))
abbrev z8Z:uW z1u:=(oP z4J oL)
abbrev zLd (y:zDo)(p1:Option Addr)(c1:Nat)(p2:Option Addr)(c2:Nat): List Value:=[vi y.1.1,sv p1 y.1.2 c1,sv p2 y.2 c2]
abbrev zLj (y:zDo)(p1:Option Addr)(c1:Nat)(p2:Option Addr)(c2:Nat)(t:List PP): List PP:=Rl qH p1 c1 y.1.2::Rl (zC .i64) p2 c2 y.2::t
abbrev z5A:E zL0:=wH (zC .i64) (wH (zC .i64) (zC .i64))
abbrev z84:uW z5A:=(oP oI (oP oI oI))
abbrev zXM (y:zL0): List Value:=[vi y.1,vi y.2.1,vi y.2.2]
abbrev zWp:E zAG:=wH (qA wB) zZX
abbrev z6W:uW zWp:=(oP oL oB)
abbrev zCr (y:zAG)(p1:Option Addr)(c1:Nat): List Value:=[sv p1 y.1 c1,vb y.2]
abbrev z6X (y:zAG)(p1:Option Addr)(c1:Nat)(t:List PP): List PP:=Rl wB p1 c1 y.1::t
instance:Sh 3 false 1:=.mk
instance:Sh 4 false 1:=.mk
instance:Sh 5 false 1:=.mk
instance:Sh 9 false 1:=.mk
instance:Sh 22 false 1:=.mk
instance:Sh 25 false 1:=.mk
instance:Sh 26 false 1:=.mk
instance:Sh 27 false 1:=.mk
instance:Sh 29 true 3:=.mk
instance:Sh 30 false 1:=.mk
instance:Sh 31 false 1:=.mk
instance:Sh 32 false 1:=.mk
instance:Sh 34 true 2:=.mk
instance:Sh 36 true 7:=.mk
instance:Sh 40 true 3:=.mk
instance:Sh 48 true 2:=.mk
instance:Sh 50 true 3:=.mk
instance:Sh 54 false 1:=.mk
instance:Sh 61 false 1:=.mk
instance:Sh 70 true 2:=.mk
instance:Sh 81 false 1:=.mk
instance:Sh 87 true 2:=.mk
instance:Sh 95 true 5:=.mk
instance:Sh 101 false 1:=.mk
instance:Sh 103 true 5:=.mk
instance:Sh 107 true 6:=.mk
instance:Sh 109 true 4:=.mk
instance:Sh 111 false 1:=.mk
instance:Sh 156 false 1:=.mk
instance:Sh 161 true 4:=.mk
instance:Sh 180 false 1:=.mk
instance:Sh 192 false 1:=.mk
instance:Sh 200 true 4:=.mk
instance:Sh 217 false 1:=.mk
instance:Sh 239 false 1:=.mk
instance:Sh 280 true 40:=.mk
instance:Ty 3 (zC .i64) oI false:=.mk
instance:Ty 4 zZX oB false:=.mk
instance:Ty 5 (zC .u8) oI false:=.mk
instance:Ty 9 wB oS false:=.mk
instance:Ty 22 (qA (zC .i64)) oL false:=.mk
instance:Ty 25 (qA tP) oL false:=.mk
instance:Ty 26 (qA xH) oL false:=.mk
instance:Ty 27 (qA tK) oL false:=.mk
instance:Ty 29 z4i z6c true:=.mk
instance:Ty 30 (qA qS) oL false:=.mk
instance:Ty 31 (qA tN) oL false:=.mk
instance:Ty 32 (qA qH) oL false:=.mk
instance:Ty 34 zZz z4J true:=.mk
instance:Ty 36 zZn z6T true:=.mk
instance:Ty 40 z1u z8Z true:=.mk
instance:Ty 48 qH zSR true:=.mk
instance:Ty 50 z5A z84 true:=.mk
instance:Ty 54 (qA qY) oL false:=.mk
instance:Ty 70 zR9 z5v true:=.mk
instance:Ty 81 (qA (qA qY)) oL false:=.mk
instance:Ty 87 qY xZ true:=.mk
instance:Ty 95 qS zVE true:=.mk
instance:Ty 101 (qA wB) oL false:=.mk
instance:Ty 103 tP zXQ true:=.mk
instance:Ty 107 xH zZj true:=.mk
instance:Ty 109 tK zYG true:=.mk
instance:Ty 111 (qA (qA (zC .i64))) oL false:=.mk
instance:Ty 161 tN z89 true:=.mk
instance:Ty 180 (zC .u64) oI false:=.mk
instance:Ty 200 (wH wB (wH wB (wH wB wB))) (oP oS (oP oS (oP oS oS))) true:=.mk
instance:Fs 29 [0,1,2]:=.mk
instance:Fs 34 [0,1]:=.mk
instance:Fs 36 [0,3,4,5]:=.mk
instance:Fs 40 [0,2]:=.mk
instance:Fs 48 [0,1]:=.mk
instance:Fs 50 [0,1,2]:=.mk
instance:Fs 63 [0,1]:=.mk
instance:Fs 70 [0,1]:=.mk
instance:Fs 87 [0,1]:=.mk
instance:Fs 95 [0,1,2,3]:=.mk
instance:Fs 103 [0,2,3,4]:=.mk
instance:Fs 107 [0,1,2,3,4]:=.mk
instance:Fs 109 [0,1,2]:=.mk
instance:Fs 145 [0,1]:=.mk
instance:Fs 158 [0,3,4,5]:=.mk
instance:Fs 161 [0,1,2,3]:=.mk
instance:Fs 282 [0,1,2,42,43]:=.mk
instance:Zr 3 (vi 0):=.mk
instance:Zr 9 (vs []):=.mk
instance:Zr 22 (.slice none 0 0):=.mk
instance:Zr 29 (.agg #[.slice none 0 0,.slice none 0 0,.slice none 0 0]):=.mk
instance:Zr 34 (.agg #[vi 0,.slice none 0 0]):=.mk
instance:Zr 36 (.agg #[.slice none 0 0,.slice none 0 0,.slice none 0 0,.slice none 0 0,.slice none 0 0,vi 0,.slice none 0 0]):=.mk
instance:Zr 40 (.agg #[vi 0,.slice none 0 0,.slice none 0 0]):=.mk
instance:Zr 48 (.agg #[vi 0,vi 0]):=.mk
instance:Zr 50 (.agg #[vi 0,vi 0,vi 0]):=.mk
instance:Zr 63 (.agg #[.slice none 0 0,vi 0]):=.mk
instance:Zr 70 (.agg #[vi 0,vi 0]):=.mk
instance:Zr 81 (.slice none 0 0):=.mk
instance:Zr 87 (.agg #[vb false,vs []]):=.mk
instance:Zr 95 (.agg #[vi 0,vi 0,.slice none 0 0,vb false,vs []]):=.mk
instance:Zr 103 (.agg #[vb false,vs [],vi 0,vi 0,vs []]):=.mk
instance:Zr 107 (.agg #[vs [],vb false,vi 0,.slice none 0 0,vb false,vs []]):=.mk
instance:Zr 109 (.agg #[vs [],vi 0,vb false,vs []]):=.mk
instance:Zr 132 (.agg #[vi 0,vi 0,vi 0,vi 0,vi 0,vi 0,vi 0,vi 0,vi 0,vi 0,vi 0,vi 0,vi 0,vi 0,vi 0,vi 0,vi 0,vi 0,vi 0,vi 0,vi 0,vi 0,vi 0,vi 0,vi 0,vi 0,vi 0,vi 0,vi 0,vi 0,vi 0,vi 0,vi 0,vi 0,vi 0,vi 0,vi 0,vi 0,vi 0,vi 0]):=.mk
instance:Zr 145 (.agg #[.slice none 0 0,vb false]):=.mk
instance:Zr 158 (.agg #[.slice none 0 0,.slice none 0 0,.slice none 0 0,.slice none 0 0,.slice none 0 0,vi 0]):=.mk
instance:Zr 161 (.agg #[vi 0,vi 0,vi 0,vi 0]):=.mk
instance:Zr 180 (.int .u64 0):=.mk
instance:Zr 217 .nilFunc:=.mk
instance:Zr 233 (.agg #[vi 0,vi 0,vi 0,vi 0]):=.mk
instance:Zr 280 (.agg #[vi 0,vi 0,vi 0,vi 0,vi 0,vi 0,vi 0,vi 0,vi 0,vi 0,vi 0,vi 0,vi 0,vi 0,vi 0,vi 0,vi 0,vi 0,vi 0,vi 0,vi 0,vi 0,vi 0,vi 0,vi 0,vi 0,vi 0,vi 0,vi 0,vi 0,vi 0,vi 0,vi 0,vi 0,vi 0,vi 0,vi 0,vi 0,vi 0,vi 0]):=.mk
instance:Zr 282 (.agg #[vi 0,.slice none 0 0,vi 0,vi 0,vi 0,vi 0,vi 0,vi 0,vi 0,vi 0,vi 0,vi 0,vi 0,vi 0,vi 0,vi 0,vi 0,vi 0,vi 0,vi 0,vi 0,vi 0,vi 0,vi 0,vi 0,vi 0,vi 0,vi 0,vi 0,vi 0,vi 0,vi 0,vi 0,vi 0,vi 0,vi 0,vi 0,vi 0,vi 0,vi 0,vi 0,vi 0,.slice none 0 0,vb false]):=.mk
instance:Zr 310 (.agg #[.pointer none,.slice none 0 0]):=.mk
instance:Zr 368 (.agg #[.int .u8 0,.int .u8 0,.int .u8 0,.int .u8 0,.int .u8 0,.int .u8 0,.int .u8 0,.int .u8 0,.int .u8 0,.int .u8 0,.int .u8 0,.int .u8 0,.int .u8 0,.int .u8 0,.int .u8 0,.int .u8 0,.int .u8 0,.int .u8 0,.int .u8 0,.int .u8 0,.int .u8 0,.int .u8 0,.int .u8 0,.int .u8 0]):=.mk
instance:Se 22 3 (zC .i64):=.mk
instance:Se 25 103 tP:=.mk
instance:Se 26 107 xH:=.mk
instance:Se 27 109 tK:=.mk
instance:Se 30 95 qS:=.mk
instance:Se 31 161 tN:=.mk
instance:Se 32 48 qH:=.mk
instance:Se 54 87 qY:=.mk
instance:Se 71 70 zR9:=.mk
instance:Se 81 54 (qA qY):=.mk
instance:Se 101 9 wB:=.mk
instance:Se 111 22 (qA (zC .i64)):=.mk
instance:Se 149 5 (zC .u8):=.mk
instance:Se 178 180 (zC .u64):=.mk
instance:It 3 .i64:=.mk
instance:It 5 .u8:=.mk
instance:It 180 .u64:=.mk
instance:It 184 .u64:=.mk
instance:It 232 .u32:=.mk
instance:By 149 5:=.mk
theorem zLS{y0:List zD}{y1:Int}: zP qd prog 39 [sv p1 y0 c1,vi y1] [] [Rl qS p1 c1 y0] (zAu y0 y1) fun r K=>K (vb r) [] [] :=
 zN call39 func39 u fun X=>hP 4 1 0 (fun K=>K [] [] [] [(4,vb ((decide (0≤y1))&&(decide (y1<(len y0)))))] [])<|
 au
abbrev zUv:=@Cn.mk 39 0 _ @zLS
theorem zHc{y0:List zI}: zP qd prog 76 [sv p1 y0 c1] [] [Rl qY p1 c1 y0] (zDF y0) fun r K=>∀ p2 c2 r_1,K (sv p2 r c2) [r_1] [Al qY 87 r_1 p2 c2 r] :=
 zN call76 func76 u fun X=>jA 1 u<|zQ<|zH<|zA 1 u<|jv (fun h=>z5s h u underlying54)<|zK<|jnl (m1:=some ([]:List zI)) u (gk 0) (fun h=>by first|(rw[h];done)|(rw[h];rfl)|(simp[h,qD];done)) (jA 1 u<|qO<|vD<|yX qY 87<|
  jrE 0 2 u u<|
 au
)<|hO 5<|
 au
abbrev zQE:=@Cn.mk 76 0 _ @zHc
theorem zOx{y0:List zI}: zP qd prog 79 [sv p1 y0 c1] [r_1] [Al qY 87 r_1 p1 c1 y0] (zBd y0) fun r K=>∀ p2 c2 r_2,K (sv p2 r c2) [[],r_2] [Al qY 87 r_2 p2 c2 r] :=
 zN call79 func79 u fun X=>jA 1 u<|zQ<|jA 3 u<|zS u (
 au
)<|jC<|zQ<|jA 1 u<|zX<|
  wD (fun s1 K=>K [0] [] [0] [(3,vi s1)] []) (gv kk [0] (gq [0]))<|fun s1 _ k=>k<|zQ<|jA 4 u<|zS u (jC<|zQ<|zX<|uR [] [0] 10<|zW 8 [0,1] u<|
  jdI 2 0 u u u u<|fun x1 h1 b1 o1 hp1=>jdL 3 0 0 sI true xZ u u hp1 h1 u<|zW 3 [4,5,6] u<|jdI 7 0 u u u u<|fun x2 h2 b2 o2 hp2=>jdL 8 0 0 sI true xZ u u hp2 h2 u<|vR 9 (vb (x1==x2)) u<|qT<|
  qK<|zS u (zH<|zA 2 u<|jsV 0 u u u<|fun u1 p2 c2 f1=>zA 1 u<|zK<|
  jjn (fun s2 K=>∀ r_2,K [(0,.slice p1 (List.length y0) c1),(3,vi s2.2)] [r_2] [Ar qY 87 r_2 p1 c1 (List.length y0) s2.1]) (
  jA 1 u<|zX<|
  wD (fun s3 K=>∀ r_3,K [4] [(0,r_3)] [] [(0,.slice p1 (List.length y0) c1),(3,vi s3.2.1),(5,vi s3.2.2)] [Ar qY 87 r_3 p1 c1 (List.length y0) s3.1]) (gv (fun _ k=>k r_1) [0] (gq [0]))<|
  fun s3 _ k r_3=>k<|zQ<|jA 4 u<|zS u (jC<|zQ<|zX<|uR [] [0] 10<|zW 8 [0,1] u<|jdX 2 0 u u f1 u u<|fun x3 b3 o3 hp3 h3=>jdL 3 0 0 sI true xZ u u hp3 h3 u<|zW 3 [4,5,6] u<|
  jdX 7 0 u u f1 u u<|fun x4 b4 o4 hp4 h4=>jdL 8 0 0 sI true xZ u u hp4 h4 u<|vR 9 (vb (!(x3==x4))) u<|qT<|qK<|zS u (zH<|zA 4 u<|jiV 0 u f1 u u<|
 au
)<|
 au
)<|
 au
)<|fun s2 _ k r_2=>k<|zH<|zA 2 u<|jsV 0 u u u<|fun u2 p3 c3 f2=>
  jcv .s 0 0 (false,[]) (.agg k3) u f2 u (vP vB vS)<|
 au
)<|
 au
)<|
 au
abbrev zOU:=@Cn.mk 79 0 _ @zOx
theorem zUi{y0:zG}: zP qd prog 209 [vs y0] [] [] (zFH y0) fun r K=>K (vb r) [] [] :=
 zN call209 func209 u fun X=>
 au
abbrev zTl:=@Cn.mk 209 0 _ @zUi
attribute [instance] zUv zQE zOU zTl
theorem zM7{y0:zG}{y1:zG}: zP qd prog 132 [vs y0,vs y1] [] [] (zF8 y0 y1) fun r K=>K (vi r) [] [] :=
 zN call132 func132 u fun X=>
 au
abbrev zRh:=@Cn.mk 132 0 _ @zM7
theorem zOy{y0:zI}{y1:zI}: zP qd prog 78 [.agg #[vb y0.1,vs y0.2],.agg #[vb y1.1,vs y1.2]] [] [] (zBu y0 y1) fun r K=>K (vi r) [] [] :=
 zN call78 func78 u fun X=>zH<|wR .s u<|fun b1=>wR .s u<|fun b2=>zA 1 u<|zK<|zQ<|zH<|qB 1 u<|qG 0 u u u<|qB 1 u<|qG 1 u u u<|wF zM7 u d<|fun r1 _ k=>k<|zA 1 u<|zK<|
  z5h (fun K=>K [3,5] [(0,[])] [] [(19,vb ((r1 != 0)||(y0.1==y1.1)))] []) (vG<|zA 3 u<|tO (b:=r1 != 0) 13 u (fun hb1=>zA 5 u<|qE (vb true)<|
  wK<|uD 19 (vb ((r1 != 0)||(y0.1==y1.1))) u (by rw[hb1];rfl)<|qI (gv kk [900,1] d))<|fun hb1=>qB 0 u<|qG 0 u u u<|qB 0 u<|qG 1 u u u<|qE (vb (y0.1==y1.1))<|qE (vb (y0.1==y1.1))<|wK<|
  uD 19 (vb ((r1 != 0)||(y0.1==y1.1))) u (by rw[hb1];rfl)<|qI (gv kk [900,1] d))<|fun _ k=>k<|zS u (jA 2 u<|qO<|vD<|yB u u kk [] d)<|jC<|zQ<|zH<|qB 0 u<|qG 1 u u u<|zK<|zS u (
  jA 1 u<|qO<|vD<|yB u u kk [] d)<|jC<|jA 1 u<|qO<|yB u u kk [] d
abbrev zVR:=@Cn.mk 78 0 _ @zOy
theorem zCt{y0:List zI}: zP qd prog 77 [sv p1 y0 c1,.func (.func 78) #[] #[]] [r_1] [Al qY 87 r_1 p1 c1 y0] (zAD y0) fun r K=>∀ r_2,K (.tuple #[]) [r_2] [Ar qY 87 r_2 p1 c1 (List.length y0) r]:=⟨call77,fun A w0 r hm hO hF=>by
 have h:=zUJ (qd:=qd) Go.Proofs.Tryz.sort77 (yO.prod yO.bool yO.str) (te:=87) Tryz.isAgg87 Tryz.sizeOf87 zBu 78 (enters_of func78 (by kernel_rfl) u) (fun w x y n hn=>?_) hO hF.1.1 hm
 · change Calls prog 77 _ _ _ at h
   refine h.mono fun e w' h=>?_
   cases e with
   | returned v=>obtain⟨r',rfl,h1,h2,h3,h4⟩:=h;exact fun G k=>k r' ⟨rfl,h1,h2,⟨h3,h4.symm⟩,trivial⟩
   | panicked ch=>exact h
   | outgrown=>exact h
 · refine((zOy (qd:=True) (y0:=x) (y1:=y)).go [] w n hn (zZ.start (by simp)) trivial).mono fun e w' h=>?_
   cases e with
   | returned v=>exact h _ fun⟨e1,q⟩=>⟨e1,q.e⟩
   | panicked ch=>exact h
   | outgrown=>exact h⟩
abbrev zHP:=@Cn.mk 77 0 _ @zCt
attribute [instance] zRh zVR zHP
theorem zPo{y0:List zI}: zP qd prog 32 [sv p1 y0 c1] [] [Rl qY p1 c1 y0] (zDf y0) fun r K=>∀ p2 c2 r_1,K (sv p2 r c2) [r_1] [Al qY 87 r_1 p2 c2 r] :=
 zN call32 func32 u fun X=>jA 1 u<|zH<|zA 1 u<|wF zHc u (cq [0])<|fun r1 _ k p2 c2 r_1=>k<|zA 1 u<|zK<|zH<|zA 1 u<|qL .s [0] [] zCt u u u (cq [0])<|fun r2 _ k r_2=>k<|zK<|zH<|
  zA 1 u<|jrE 0 8 u u<|
 au
abbrev zW1:=@Cn.mk 32 0 _ @zPo
theorem zLB{y0:List zD}{y1:List Int}: zP qd prog 14 [sv p1 y0 c1,sv p2 y1 c2] [] [Rl qS p1 c1 y0,Rl (zC .i64) p2 c2 y1] (zBI y0 y1) fun r K=>∀ p3 c3,K (sv p3 r c3) [] [Rl qY p3 c3 r] :=
 zN call14 func14 u fun X=>jA 1 u<|zH<|zA 1 u<|yX qY 87 <|zK<|
  jjn (fun s1 K=>∀ p3 c3 r_1,K [(5,sv p3 s1 c3)] [r_1] [Al qY 87 r_1 p3 c3 s1]) (jA 3 u<|zX<|
  wD (fun s2 K=>∀ p4 c4 r_2,K [0,8,9] [(0,r_2)] [1,2] [(5,sv p4 s2.1 c4),(10,vi s2.2)] [Al qY 87 r_2 p4 c4 s2.1]) (gv (fun _ k=>k none 0 []) [0] (gq [0,1,2]))<|
  fun s2 _ k p4 c4 r_2=>k<|jA 1 u<|zQ<|zS u (jC<|zQ<|zX<|zH<|yJ 2 u u u<|fun x1 b1 o1=>yU false oI (gk 0) u<|zA 1 u<|zK<|zH<|zA 2 u<|wF zLS u (cq [2])<|fun r1 _ k=>k<|zK<|zS u (vG<|zA 3 u<|
  yJ 2 u u u<|fun x2 b2 o2=>qB 3 u<|yU true xZ (gs (gs (gs (gk 0)))) u<|yI .s (e:=qY) 87 [vb x2.2.2.2.1,vs (a4 x2)] ([x2.2.2.2]:List zI) (rC (vP vB vS) rN)<|fun p5 c5=>uE .s 0 3 u (gk 0) u u<|
  fun x3 r_3 p6 c6=>zA 1 u<|wK<|vM<|qK<|jB 2 u<|yH (gv (fun _ k=>k p6 c6 r_3) [0] (gq [0,5,6])))<|yA<|vM<|qK<|jB 2 u<|yH (gv (fun _ k=>k p4 c4 r_2) [0] (gq [1,2,3])))<|uA<|yR<|yY<|yZ<|
  qI (gv (fun _ k=>k p4 c4 r_2) [0] (gq [0])))<|fun s1 _ k p3 c3 r_1=>k<|zH<|zA 1 u<|uI 0 0 u u<|wF zPo u (cq [0])<|fun r2 _ k p7 c7 r_4=>k<|zA 1 u<|zK<|qO<|uI 1 0 u u<|
  yB u u (fun _ k=>k p7 c7) [] (gq [0])
abbrev zQK:=@Cn.mk 14 0 _ @zLB
attribute [instance] zW1 zQK
theorem zEa:zP qd prog 192 [.func (.func 194) #[] #[]] [] [] (zEd) fun r K=>∀ b1,K (.func (.func 254) #[] #[pt b1 0]) [bx b1 192 [.func (.func 194) #[] #[]]] [] :=
 zN call192 func192 u fun X=>
 au
abbrev zKE:=@Cn.mk 192 0 _ @zEa
attribute [instance] zKE
theorem zEC:zP qd prog 192 [.func (.func 196) #[] #[]] [] [] (zES) fun r K=>∀ b1,K (.func (.func 254) #[] #[pt b1 0]) [bx b1 192 [.func (.func 196) #[] #[]]] [] :=
 zN call192 func192 u fun X=>
 au
abbrev zJq:=@Cn.mk 192 1 _ @zEC
attribute [instance] zJq
theorem zFj:zP qd prog 192 [.func (.func 195) #[] #[]] [] [] (zFu) fun r K=>∀ b1,K (.func (.func 254) #[] #[pt b1 0]) [bx b1 192 [.func (.func 195) #[] #[]]] [] :=
 zN call192 func192 u fun X=>
 au
abbrev zLO:=@Cn.mk 192 2 _ @zFj
attribute [instance] zLO
theorem zGY:zP qd prog 192 [.func (.func 193) #[] #[]] [] [] (zGU) fun r K=>∀ b1,K (.func (.func 254) #[] #[pt b1 0]) [bx b1 192 [.func (.func 193) #[] #[]]] [] :=
 zN call192 func192 u fun X=>
 au
abbrev zLf:=@Cn.mk 192 3 _ @zGY
attribute [instance] zLf
theorem zGT:zP qd prog 192 [.func (.func 253) #[] #[pt b1 0]] [bx b1 239 [.func (.func 191) #[] #[]]] [] (zGX) fun r K=>∀ b2,K (.func (.func 254) #[] #[pt b2 0]) [bx b1 239 [.func (.func 191) #[] #[]],bx b2 192 [.func (.func 253) #[] #[pt b1 0]]] [] :=
 zN call192 func192 u fun X=>
 au
abbrev zL9:=@Cn.mk 192 4 _ @zGT
theorem zEt:zP qd prog 190 [.func (.func 191) #[] #[]] [] [] (zEw) fun r K=>∀ b1 b2,K (.func (.func 254) #[] #[pt b1 0]) [bx b1 192 [.func (.func 253) #[] #[pt b2 0]],bx b2 239 [.func (.func 191) #[] #[]]] [] :=
 zN call190 func190 u fun X=>zH<|wR .s u<|fun b1=>zA 1 u<|zK<|zH<|zA 1 u<|qL .s [0] [] zGT u u u d<|fun r1 _ k b2=>k<|zA 1 u<|zK<|qO<|yB u u (fun _ k=>k b2 b1) [1,0] d
abbrev zKP:=@Cn.mk 190 0 _ @zEt
attribute [instance] zL9 zKP
theorem zFT:zP qd prog 192 [.func (.func 253) #[] #[pt b1 0]] [bx b1 239 [.func (.func 198) #[] #[]]] [] (zFX) fun r K=>∀ b2,K (.func (.func 254) #[] #[pt b2 0]) [bx b1 239 [.func (.func 198) #[] #[]],bx b2 192 [.func (.func 253) #[] #[pt b1 0]]] [] :=
 zN call192 func192 u fun X=>
 au
abbrev zKw:=@Cn.mk 192 5 _ @zFT
theorem zIQ:zP qd prog 190 [.func (.func 198) #[] #[]] [] [] (zIZ) fun r K=>∀ b1 b2,K (.func (.func 254) #[] #[pt b1 0]) [bx b1 192 [.func (.func 253) #[] #[pt b2 0]],bx b2 239 [.func (.func 198) #[] #[]]] [] :=
 zN call190 func190 u fun X=>zH<|wR .s u<|fun b1=>zA 1 u<|zK<|zH<|zA 1 u<|qL .s [0] [] zFT u u u d<|fun r1 _ k b2=>k<|zA 1 u<|zK<|qO<|yB u u (fun _ k=>k b2 b1) [1,0] d
abbrev zNV:=@Cn.mk 190 1 _ @zIQ
attribute [instance] zKw zNV
theorem zFS:zP qd prog 192 [.func (.func 253) #[] #[pt b1 0]] [bx b1 239 [.func (.func 197) #[] #[]]] [] (zFV) fun r K=>∀ b2,K (.func (.func 254) #[] #[pt b2 0]) [bx b1 239 [.func (.func 197) #[] #[]],bx b2 192 [.func (.func 253) #[] #[pt b1 0]]] [] :=
 zN call192 func192 u fun X=>
 au
abbrev zKs:=@Cn.mk 192 6 _ @zFS
theorem zIO:zP qd prog 190 [.func (.func 197) #[] #[]] [] [] (zIR) fun r K=>∀ b1 b2,K (.func (.func 254) #[] #[pt b1 0]) [bx b1 192 [.func (.func 253) #[] #[pt b2 0]],bx b2 239 [.func (.func 197) #[] #[]]] [] :=
 zN call190 func190 u fun X=>zH<|wR .s u<|fun b1=>zA 1 u<|zK<|zH<|zA 1 u<|qL .s [0] [] zFS u u u d<|fun r1 _ k b2=>k<|zA 1 u<|zK<|qO<|yB u u (fun _ k=>k b2 b1) [1,0] d
abbrev zNM:=@Cn.mk 190 2 _ @zIO
attribute [instance] zKs zNM
theorem zPj:zP qd prog 130 [] [] [] (zMJ) fun r K=>∀ b1 b2 b3 b4 b5 b6 b7 b8 b9 b10 b11,K (.slice (some ⟨b1,0,none⟩) 10 10) [bx b1 192 [.nilFunc,.func (.func 254) #[] #[pt b2 0],.func (.func 254) #[] #[pt b4 0],.func (.func 254) #[] #[pt b5 0],.func (.func 254) #[] #[pt b6 0],.func (.func 254) #[] #[pt b7 0],.func (.func 254) #[] #[pt b8 0],.func (.func 254) #[] #[pt b10 0],.func (.func 199) #[] #[],.func (.func 200) #[] #[]],bx b2 192 [.func (.func 253) #[] #[pt b3 0]],bx b3 239 [.func (.func 191) #[] #[]],bx b4 192 [.func (.func 193) #[] #[]],bx b5 192 [.func (.func 194) #[] #[]],bx b6 192 [.func (.func 195) #[] #[]],bx b7 192 [.func (.func 196) #[] #[]],bx b8 192 [.func (.func 253) #[] #[pt b9 0]],bx b9 239 [.func (.func 197) #[] #[]],bx b10 192 [.func (.func 253) #[] #[pt b11 0]],bx b11 239 [.func (.func 198) #[] #[]]] [] :=
 zN call130 func130 u fun X=>jA 1 u<|zH<|wF zEt u d<|fun r1 _ k b1 b2=>k<|wF zGY u d<|fun r2 _ k b3=>k<|wF zEa u d<|fun r3 _ k b4=>k<|
  wF zFj u d<|fun r4 _ k b5=>k<|wF zEC u d<|fun r5 _ k b6=>k<|wF zIO u d<|fun r6 _ k b7 b8=>k<|wF zIQ u d<|
  fun r7 _ k b9 b10=>k<|
  jbF .s 192 [.nilFunc,.func (.func 254) #[] #[pt b1 0],.func (.func 254) #[] #[pt b3 0],.func (.func 254) #[] #[pt b4 0],.func (.func 254) #[] #[pt b5 0],.func (.func 254) #[] #[pt b6 0],.func (.func 254) #[] #[pt b7 0],.func (.func 254) #[] #[pt b9 0],.func (.func 199) #[] #[],.func (.func 200) #[] #[]]<|
 au
abbrev zW8:=@Cn.mk 130 0 _ @zPj
theorem zNB{y0:Int}: zP qd prog 176 [.int .u64 y0] [] [Pt (wN 64 (zC .u8)) 3 0 vA] (zBk y0) fun r K=>K (vi r) [] [] :=
 zN call176 func176 u fun X=>jA 1 u<|zQ<|jA 2 u<|zS u (
 au
)<|jC<|zH<|zA 5 u<|qE (.int .u64 (yW .u64 (IntKind.u64.wrap ((vY .u64 y0 (IntKind.u64.wrap (0-y0)))*285870213051353865)) 58))<|
  jgx (gk 0) u u<|
 au
abbrev zMo:=@Cn.mk 176 0 _ @zNB
attribute [instance] zW8 zMo
theorem z1X{y0:Int}: zP qd prog 122 [.int .u64 y0] [] [Pt (wN 64 (zC .u8)) 3 0 vA] (zGW y0) fun r K=>∀ p1 c1,K (sv p1 r c1) [] [Rl (zC .i64) p1 c1 r] :=
 zN call122 func122 u fun X=>hR 3 0 (zC .i64) 3<|hI 0 2 2 (fun(s1:Int×(List Int)) K=>∀ p1 c1 r_1,K [] [(0,.r r_1)] [1] [(0,.int .u64 s1.1),(3,sv p1 s1.2 c1)] [Al (zC .i64) 3 r_1 p1 c1 s1.2])<|
 au
abbrev z1R:=@Cn.mk 122 0 _ @z1X
theorem zUE{y0:zY}: zP qd prog 121 [.agg (wW y0 p1 c1).toArray] [] [Rl qH p1 c1 y0.2] (zGn y0) fun r K=>∀ p2 c2,K (sv p2 r c2) [] [Rl (zC .u64) p2 c2 r] :=
 zN call121 func121 u fun X=>zH<|wR .s u<|fun b1=>zA 1 u<|zK<|zH<|qB 0 u<|qG 0 u u u<|jmk .s (e:=zC .u64) 180 (0:Int) (.int .u64 0) vI u u<|fun x1 r_1 p2 c2=>zA 1 u<|zK<|zQ<|zH<|qB 1 u<|qG 0 u u u<|zA 2 u<|zK<|zX<|
  wD (fun s1 K=>∀ r_2,K [10,11] [(0,[]),(1,r_2)] [1] [(3,.slice p2 (List.length x1) c2),(12,vi s1.2)] [Ar (zC .u64) 180 r_2 p2 c2 (List.length x1) s1.1]) (gv (fun _ k=>k r_1) [900,1] (gq [0,1]))<|
  fun s1 _ k r_2=>k<|jA 1 u<|zQ<|zS u (jC<|zQ<|zX<|zH<|yJ 1 u u u<|fun x2 b2 o1=>yU true zSR (gk 0) u<|vH .s (.agg k4)<|fun b3=>qU .s 2 u u u<|zK<|xY [10] [1,2] 11<|zW 10 [0] u<|
  qR 1 0 u u<|wS 2 2 u u u u<|jdI 3 1 u u u u<|fun x3 h1 b4 o2 hp1=>jdL 4 1 1 sI false oI u u hp1 h1 u<|qR 5 1 u u<|wS 6 2 u u u u<|xQ fun x4 h2=>xF 7 u (fun h=>z17 h u u h2)<|
  zW 2 [8] u<|jdI 9 1 u u u u<|fun x5 h3 b5 o3 hp2=>qM 10<|jsA (.f u) 1 1 sI (bor .u64 x3 x4) false u hp2 h3 u u vI<|fun r_3=>jdb [] [1,2]<|qT<|
 au
)<|uA<|
  yR<|yY<|yZ<|qK<|jA 2 u<|qO<|uI 1 0 u u<|jre 0 2 u u<|
 au
abbrev z0L:=@Cn.mk 121 0 _ @zUE
theorem zXz{y0:Int}: zP qd prog 156 [vi y0] [] [] (zKO y0) fun r K=>K (vb r) [] [] :=
 zN call156 func156 u fun X=>
 au
abbrev zXR:=@Cn.mk 156 0 _ @zXz
attribute [instance] z1R z0L zXR
theorem zV6{y0:Int}{y1:Int}: zP qd prog 103 [vi y0,vi y1] [] [] (zAh y0 y1) fun r K=>K (vi r) [] [] :=
 zN call103 func103 u fun X=>
 au
abbrev zVN:=@Cn.mk 103 0 _ @zV6
theorem z2v{y0:List Int}: zP qd prog 102 [sv p1 y0 c1] [] [Rl (zC .i64) p1 c1 y0] (zGV y0) fun r K=>K (vi r) [] [] :=
 zN call102 func102 u fun X=>hI 0 3 1 (fun(s1:Int) K=>K [3,6,7] [] [0] [(8,vi s1)] [])<|
 au
abbrev z2T:=@Cn.mk 102 0 _ @z2v
attribute [instance] zVN z2T
theorem zQd{y0:zT}{y1:zT}: zP qd prog 56 [.agg #[vi y0.1,vi y0.2],.agg #[vi y1.1,vi y1.2]] [] [] (zCj y0 y1) fun r K=>K (vi r) [] [] :=
 zN call56 func56 u fun X=>hD 1 [] [0,1] (.l [0,1,2,3,5,6,7,8] (.f 4 (.f 9 (.f 10 (.f 11 (.l [12] .e))))))<|
 au
abbrev zYF:=@Cn.mk 56 0 _ @zQd
attribute [instance] zYF
theorem zMW{y0:zY}: zP qd prog 22 [.agg (wW y0 p1 c1).toArray] [] [Rl qH p1 c1 y0.2] (zA2 y0) fun r K=>K (vi r) [] [] :=
 zN call22 func22 u fun X=>zH<|wR .s u<|fun b1=>zA 1 u<|zK<|zQ<|z5h (fun K=>K [1] [] [0] [(12,vb ((decide (y0.1<0))||(decide (40<y0.1))))] []) (
 au
)<|fun _ k=>k<|zS u (
 au
)<|jC<|zQ<|zH<|qB 1 u<|qG 0 u u u<|zA 2 u<|zK<|zX<|wD (fun s1 K=>K [1,14,15] [] [0] [(16,vi s1)] []) (gv kk [0] (gq [0]))<|
  fun s1 _ k=>k<|jA 1 u<|zQ<|zS u (jC<|zQ<|zX<|zH<|zA 1 u<|yJ 0 u u u<|fun x1 b2 o1=>hD 8 [] [0,1] (.l [0,1,2] (.s 39 (.l [3,4,5,6,7,8,9] (.f 10 (.l [11,12] .e))) (.l [3,4,5,6,7,8,9,10,11,12] .e)))<|hP 4 6 0 (fun K=>K [1,3,4,14,15,16] [] [1] [(36,vb ((decide ((if x1.2<x1.1 then x1.2 else x1.1)<0))||(decide (y0.1≤(if x1.2 > x1.1 then x1.2 else x1.1)))))] [])<|hI 1 8 0 (fun(s2:Bool) K=>K [1,14,15,16] [(1,.r [])] [0] [(49,vb s2)] [])<|
 au
)<|
 au
abbrev zWh:=@Cn.mk 22 0 _ @zMW
attribute [instance] zWh
theorem zJ5{y0:zY}: zP qd prog 120 [.agg (wW y0 p1 c1).toArray] [] [Rl qH p1 c1 y0.2] (zDR y0) fun r K=>∀ p2 c2,K (.agg (wW r p2 c2).toArray) [] [Rl qH p2 c2 r.2] :=
 zN call120 func120 u fun X=>
 au
abbrev zYs:=@Cn.mk 120 0 _ @zJ5
attribute [instance] zYs
theorem zJb{y0:zY}{y1:Int}: zP qd prog 74 [.agg (wW y0 p1 c1).toArray,vi y1] [] [Rl qH p1 c1 y0.2,Pt (wN 64 (zC .u8)) 3 0 vA] (zCU y0 y1) fun r K=>∀ p2 c2,K (sv p2 r c2) [] [Rl (zC .i64) p2 c2 r] :=
 zN call74 func74 u fun X=>zH<|wR .s u<|fun b1=>zA 1 u<|zK<|zH<|wQ 0 2 u u u<|wF zJ5 u (cq [0])<|fun r1 _ k p2 c2=>k<|hP 4 2 0 (fun K=>K [1,2] [] [0,2] [(14,vb ((decide (y1<0))||(decide (r1.1≤y1))))] [])<|
 au
abbrev zWN:=@Cn.mk 74 0 _ @zJb
theorem zVo{y0:Int}{y1:Int}: zP qd prog 189 [.int .u64 y0,.int .u64 y1] [] [] (zPA y0 y1) fun r K=>K (.tuple #[.int .u64 r.1,.int .u64 r.2]) [] [] :=
 zN call189 func189 u fun X=>jA 2 u<|jA 3 u<|zH<|zA 1 u<|qE (.int .u64 (yW .u64 y0 32))<|zA 1 u<|zK<|jA 3 u<|zH<|zA 1 u<|qE (.int .u64 (yW .u64 y1 32))<|zA 1 u<|zK<|jA 4 u<|zH<|zA 4 u<|
  qE (.int .u64 (yW .u64 (IntKind.u64.wrap ((vY .u64 y0 4294967295)*(vY .u64 y1 4294967295))) 32))<|zA 2 u<|zK<|jA 3 u<|zH<|zA 1 u<|
  qE (.int .u64 (yW .u64 (IntKind.u64.wrap ((IntKind.u64.wrap ((yW .u64 y0 32)*(vY .u64 y1 4294967295)))+(yW .u64 (IntKind.u64.wrap ((vY .u64 y0 4294967295)*(vY .u64 y1 4294967295))) 32))) 32))<|zA 1 u<|zK<|jA 6 u<|zH<|
  zA 6 u<|
  qE (.int .u64 (yW .u64 (IntKind.u64.wrap ((vY .u64 (IntKind.u64.wrap ((IntKind.u64.wrap ((yW .u64 y0 32)*(vY .u64 y1 4294967295)))+(yW .u64 (IntKind.u64.wrap ((vY .u64 y0 4294967295)*(vY .u64 y1 4294967295))) 32))) 4294967295)+(IntKind.u64.wrap ((vY .u64 y0 4294967295)*(yW .u64 y1 32))))) 32))<|
 au
abbrev zVL:=@Cn.mk 189 0 _ @zVo
attribute [instance] zWN zVL
theorem zQz{y0:Int}{y1:Int}: zP qd prog 129 [.int .u64 y0,.int .u64 y1] [] [] (zMs y0 y1) fun r K=>K (.tuple #[.int .u64 r.1,.int .u64 r.2]) [] [] :=
 zN call129 func129 u fun X=>
 au
abbrev zY4:=@Cn.mk 129 0 _ @zQz
attribute [instance] zY4
theorem zEG{y0:List Int}{y1:Int}: zP qd prog 73 [sv p1 y0 c1,vi y1] [] [Rl (zC .i64) p1 c1 y0] (zC2 y0 y1) fun r K=>∀ p2 c2 r_1,K (sv p2 r c2) [r_1] [Al (zC .i64) 3 r_1 p2 c2 r] :=
 zN call73 func73 u fun X=>jA 1 u<|wC (fun s1 K=>K [0,1] [] [0] [] []) (jA 2 u<|zS u (vG<|jno)<|
 au
)<|fun s1 _ k=>k<|zH<|zA 2 u<|qE (.int .u64 (IntKind.u64.wrap (len y0)))<|
  zA 1 u<|qE (.int .u64 (IntKind.u64.wrap (y1)))<|wF zQz u d<|fun r1 _ k=>k<|zA 5 u<|zK<|wC (fun s2 K=>K [0,6] [] [0] [] []) (
  z5h (fun K=>K [0,6] [] [0] [(26,vb ((decide (0<r1.1))||(decide (9223372036854775807<r1.2))))] []) (
 au
)<|fun _ k=>k<|zS u (vG<|jno)<|
 au
)<|fun s2 _ k=>k<|zH<|zA 1 u<|qE (vi (zF (r1.2)))<|jmk .s (e:=zC .i64) 3 (0:Int) (vi 0) vI u u<|fun x1 r_1 p2 c2=>zA 1 u<|zK<|zH<|zA 2 u<|
  jcp .s 0 0 u (vwW 0 u) (srR (gk 1)) u u<|fun r_2=>zA 1 u<|zK<|zQ<|zX<|
  wD (fun s3 K=>∀ r_3,K [7] [(0,r_3)] [] [(8,vi s3.2)] [Ar (zC .i64) 3 r_3 p2 c2 (List.length x1) s3.1]) (gv (fun _ k=>k r_2) [0] (gq [0]))<|
  fun s3 _ k r_3=>k<|zQ<|jA 4 u<|zS u (jC<|zX<|xY [] [] 10<|zW 7 [0,1,2] u<|jdV 3 0 u u u u<|fun u1 p3 c3 f1=>zW 4 [4,5] u<|jdW 6 0 u u u u<|fun x2=>qM 7<|
  jcp (.f u) 0 1 u (vwV f1) (srA 0 0 u) u u<|fun r_4=>qN<|zW 0 [8,9] u<|qT<|
 au
)<|uA<|yR<|yY<|yZ<|qK<|jA 2 u<|qO<|jrE 0 4 u u<|
 au
abbrev zTF:=@Cn.mk 73 0 _ @zEG
attribute [instance] zTF
set_option maxHeartbeats 2000000 in
theorem zWt{y0:zY}: zP qd prog 30 [.agg (wW y0 p1 c1).toArray] [] [Rl qH p1 c1 y0.2,Pt (wN 64 (zC .u8)) 3 0 vA] (zDj y0) fun r K=>∀ p2 c2 p3 c3,K (.tuple #[sv p2 r.1 c2,sv p3 r.2 c3]) [] [Rl (zC .i64) p2 c2 r.1,Rl (zC .i64) p3 c3 r.2] :=
 zN call30 func30 u fun X=>zH<|wR .s u<|fun b1=>zA 2 u<|zK<|
  wC (fun s1 K=>∀ p2 c2 r_1 p3 c3 r_2,K [1] [(1,r_1),(2,r_2)] [0,1] [(2,sv p2 s1.1 c2),(3,sv p3 s1.2 c3)] [Al (zC .i64) 3 r_1 p2 c2 s1.1,Al (zC .i64) 3 r_2 p3 c3 s1.2]) (
  xY [] [0] 9<|qR 1 0 u u<|wS 2 0 u u u u<|qR 4 0 u u<|wS 5 0 u u u u<|jd2 0 6 (yI (.f u) (e:=zC .i64) 3 [vi 3] ([3]:List Int) (rC vI rN)<|fun p4 c4=>qN<|jd2 3 6 (
  qL (.f u) [] [] zEG u u u (cq [0])<|fun r1 _ k p5 c5 r_3=>k<|qN<|zW 2 [7] u<|qM 6<|jmk (.f u) (e:=zC .i64) 3 (0:Int) (vi 0) vI u u<|fun x1 r_4 p6 c6=>qN<|zW 0 [8] u<|qT<|
 au
) <|jcm<|jmk (.f u) (e:=zC .i64) 3 (0:Int) (vi 0) vI u u<|fun x2 r_5 p7 c7=>qN<|qM 3<|qL (.f u) [] [] zEG u u u (cq [1])<|
  fun r2 _ k p8 c8 r_6=>k<|qN<|zW 0 [7,8] u<|qT<|
 au
) <|jcm<|jmk (.f u) (e:=zC .i64) 3 (0:Int) (vi 0) vI u u<|fun x3 r_7 p9 c9=>qN<|qM 0<|
  yI (.f u) (e:=zC .i64) 3 [vi 3] ([3]:List Int) (rC vI rN)<|fun p10 c10=>qN<|qM 3<|qL (.f u) [] [] zEG u u u (cq [0])<|fun r3 _ k p11 c11 r_8=>k<|qN<|zW 0 [7,8] u<|qT<|
 au
)<|fun s1 _ k p2 c2 r_1 p3 c3 r_2=>k<|zH<|jalA .s (yL [] 40 (List.replicate 40 (0:Int)) [])<|fun b2=>zK<|
  wC (fun s2 K=>K [1,2,3,4] [(3,bx b2 132 (yL [] 40 s2 []))] [0,1,2,3] [] []) (zH<|qB 1 u<|qG 0 u u u<|zA 2 u<|zK<|zX<|
  wD (fun s3 K=>K [1,2,3,4,27,28] [(3,bx b2 132 (yL [] 40 s3.2 []))] [0,1,2,3] [(29,vi s3.1)] []) (gv kk [0,1,2,3] (gq [0,1,2,3]))<|fun s3 _ k=>k<|jA 1 u<|zQ<|zS u (jC<|zQ<|zX<|zH<|yJ 2 u u u<|fun x4 b3 o1=>
  yU true zSR (gk 0) u<|vH .s (.agg k4)<|fun b4=>qU .s 4 u u u<|zK<|vG<|qB 1 u<|qG 4 u u u<|jiL 40 u u<|fun u1 h1=>jlL 3 40 s3.2 [] [] h1 u u<|zA 1 u<|jiL 40 u u<|fun u2 h2=>
  jsL (zF ((uB s3.2 x4.2)+1)) .s 3 40 s3.2 [] [] h2 u u u<|
 au
)<|
 au
)<|fun s2 _ k=>k<|zH<|
  zA 1 u<|yX (zC .i64) 3 <|zK<|
  wC (fun s4 K=>∀ p12 c12 r_9,K [1,2,3,4] [(4,r_9)] [1,2,3,4] [(7,sv p12 s4 c12)] [Al (zC .i64) 3 r_9 p12 c12 s4]) (
  zH<|qB 0 u<|qG 0 u u u<|zA 1 u<|zK<|zX<|
  wD (fun s5 K=>∀ p13 c13 r_10,K [1,2,3,4,41] [(4,r_10)] [1,2,3,4] [(7,sv p13 s5.1 c13),(42,vi s5.2)] [Al (zC .i64) 3 r_10 p13 c13 s5.1]) (gv (fun _ k=>k none 0 []) [0,1,2,3,4] (gq [0,1,2,3,4]))<|
  fun s5 _ k p13 c13 r_10=>k<|jA 1 u<|zQ<|zS u (jC<|zQ<|zX<|jA 2 u<|zH<|zA 1 u<|jiL 40 u u<|fun u3 h3=>jlL 3 40 s2 [] [] h3 u u<|
 au
)<|
 au
)<|fun s4 _ k p12 c12 r_9=>k<|zQ<|jA 1 u<|zX<|
  wD (fun s6 K=>∀ r_12 r_13 p16 c16 r_14,K [1,4] [(1,r_12),(2,r_13),(3,bx b2 132 (yL [] 40 (a4 s6) [])),(4,r_14)] [3,4] [(2,.slice p2 (List.length s1.1) c2),(3,.slice p3 (List.length s1.2) c3),(7,sv p16 s6.2.2.1 c16),(9,vi s6.2.2.2.1)] [Ar (zC .i64) 3 r_12 p2 c2 (List.length s1.1) s6.1,Ar (zC .i64) 3 r_13 p3 c3 (List.length s1.2) s6.2.1,Al (zC .i64) 3 r_14 p16 c16 s6.2.2.1]) (gv (fun _ k=>k r_1 r_2 p12 c12 r_9) [0,1,2,3,4] (gq [1,2,0,3,4]))<|
  fun s6 _ k r_12 r_13 p16 c16 r_14=>k<|zQ<|jA 3 u<|zS u (jC<|zQ<|zX<|
  wC (fun s7 K=>∀ r_15 r_16,K [1,2,3,4,7,9] [(1,r_15),(2,r_16)] [2,3,4] [] [Ar (zC .i64) 3 r_15 p2 c2 (List.length s1.1) s7.1,Ar (zC .i64) 3 r_16 p3 c3 (List.length s1.2) s7.2]) (hI 0 19 1 (fun(s8:(List Int)×(List Int)×Int) K=>∀ r_17 r_18,K [1,2,3,4,7,9,59,60] [(1,.r r_17),(2,.r r_18)] [2,3,4] [(61,vi s8.2.2)] [Ar (zC .i64) 3 r_17 p2 c2 (List.length s1.1) s8.1,Ar (zC .i64) 3 r_18 p3 c3 (List.length s1.2) s8.2.1])<|
 au
)<|fun s7 _ k r_15 r_16=>k<|zH<|zA 1 u<|yX (zC .i64) 3 <|zK<|zQ<|jA 3 u<|
  zX<|
  wD (fun s9 K=>∀ r_21 r_22 p17 c17 r_23,K [1,2,3,4,9,73,74] [(1,r_21),(2,r_22),(3,bx b2 132 (yL [] 40 (a4 s9) [])),(5,r_23)] [3,4,5] [(12,sv p17 s9.2.2.1 c17),(75,vi s9.2.2.2.1)] [Ar (zC .i64) 3 r_21 p2 c2 (List.length s1.1) s9.1,Ar (zC .i64) 3 r_22 p3 c3 (List.length s1.2) s9.2.1,Al (zC .i64) 3 r_23 p17 c17 s9.2.2.1]) (gv (fun _ k=>k r_15 r_16 none 0 []) [0,1,2,3,4,5] (gq [1,2,0,3,4,5]))<|
  fun s9 _ k r_21 r_22 p17 c17 r_23=>k<|jA 1 u<|zQ<|zS u (jC<|zQ<|zX<|zH<|jia 3 u u u<|fun x9 h8 b8 o5 hp4=>jlA 4 3 sI false oI u hp4 h8 u<|zA 1 u<|zK<|zH<|wQ 0 2 u u u<|zA 1 u<|
  wF zJb u (cq [4,5])<|fun r4 _ k p18 c18=>k<|zA 2 u<|zK<|zX<|
  wD (fun s10 K=>∀ r_24 r_25 p19 c19 r_26,K [1,2,3,4,9,73,74,75,81,82] [(1,r_24),(2,r_25),(3,bx b2 132 (yL [] 40 (a4 s10) [])),(5,r_26)] [4,0,5,6] [(12,sv p19 s10.2.2.1 c19),(83,vi s10.2.2.2.1)] [Ar (zC .i64) 3 r_24 p2 c2 (List.length s1.1) s10.1,Ar (zC .i64) 3 r_25 p3 c3 (List.length s1.2) s10.2.1,Al (zC .i64) 3 r_26 p19 c19 s10.2.2.1]) (gv (fun _ k=>k r_21 r_22 p17 c17 r_23) [0,1,2,3,4,5] (gq [1,2,3,4,0,5,6]))<|
  fun s10 _ k r_24 r_25 p19 c19 r_26=>k<|jA 1 u<|zQ<|zS u (jC<|zQ<|zX<|zH<|yJ 4 u u u<|fun x10 b9 o6=>yU false oI (gk 0) u<|zA 1 u<|zK<|zQ<|zH<|zA 2 u<|jia 1 u u u<|fun x11 h9 b10 o7 hp5=>
  jlA 1 1 sI false oI u hp5 h9 u<|zA 1 u<|zK<|zS u (
 au
)<|jC<|zH<|zA 5 u<|jia 1 u u u<|fun x12 h10 b11 o8 hp6=>
  jsA .s 1 1 sI 2 false u hp6 h10 u u vI<|fun r_27=>jia 3 u u u<|fun x13 h11 b12 o9 hp7=>jsA .s 2 3 sI s6.2.2.2.1 false u hp7 h11 u u vI<|fun r_28=>zK<|zH<|wQ 0 2 u u u<|zA 1 u<|
  wF zJb u (cq [8,9])<|fun r5 _ k p20 c20=>k<|zA 2 u<|zK<|zX<|
  wD (fun s11 K=>∀ p21 c21 r_29,K [1,2,3,4,9,73,74,75,81,82,83,101,102] [(3,bx b2 132 (yL [] 40 s11.2.2 [])),(5,r_29)] [2,1,7,8,0,9,10] [(12,sv p21 s11.1 c21),(103,vi s11.2.1)] [Al (zC .i64) 3 r_29 p21 c21 s11.1]) (gv (fun _ k=>k p19 c19 r_26) [0,1,2,3,4,5] (gq [6,2,1,7,8,0,9,10]))<|
  fun s11 _ k p21 c21 r_29=>k<|jA 1 u<|zQ<|zS u (jC<|zQ<|zX<|zH<|yJ 5 u u u<|fun x14 b13 o10=>yU false oI (gk 0) u<|zA 1 u<|zK<|zH<|zA 1 u<|jiL 40 u u<|fun u4 h12=>jlL 3 40 s11.2.2 [] [] h12 u u<|zA 1 u<|
  jiL 40 u u<|fun u5 h13=>jsL (zF ((uB s11.2.2 x14)-1)) .s 3 40 s11.2.2 [] [] h13 u u u<|zK<|
  wC (fun s12 K=>K [1,2,3,4,9,12,18,73,74,75,81,82,83,101,102,103] [] [2,3,1,4,5,6,7,8] [(122,vb s12)] []) (vG<|zA 1 u<|
  jiL 40 u u<|fun u6 h14=>jlL 3 40 (tG 40 s11.2.2 x14 (zF ((uB s11.2.2 x14)-1))) [] [] h14 u u<|
 au
)<|
 au
)<|
 au
)<|
 au
)<|
 au
)<|
  uA<|yR<|yY<|yZ<|qK<|jA 4 u<|qO<|uI 1 0 u u<|uI 2 2 u u<|jre 1 2 u u<|jre 1 3 u u<|
 au
abbrev zWX:=@Cn.mk 30 0 _ @zWt
attribute [instance] zWX
theorem zPr{y0:zY}: zP qd prog 24 [.agg (wW y0 p1 c1).toArray] [] [Rl qH p1 c1 y0.2,Pt (wN 64 (zC .u8)) 3 0 vA] (zCW y0) fun r K=>∀ p2 c2,K (sv p2 r c2) [] [Rl (zC .i64) p2 c2 r] :=
 zN call24 func24 u fun X=>
 au
abbrev zWm:=@Cn.mk 24 0 _ @zPr
attribute [instance] zWm
theorem zUk{y0:zY}: zP qd prog 191 [.agg (wW y0 p1 c1).toArray] [] [Rl qH p1 c1 y0.2,Pt (wN 64 (zC .u8)) 3 0 vA] (zEn y0) fun r K=>∀ p2 c2,K (.tuple #[sv p2 r.1 c2,vi r.2]) [] [Rl (zC .i64) p2 c2 r.1] :=
 zN call191 func191 u fun X=>
 au
abbrev zTv:=@Cn.mk 191 0 _ @zUk
attribute [instance] zTv
theorem zJi{y0:zY}: wO qd prog 253 [.agg (wW y0 p1 c1).toArray,pt b1 0] [bx b1 239 [.func (.func 191) #[] #[]]] [Rl qH p1 c1 y0.2,Pt (wN 64 (zC .u8)) 3 0 vA] (zAR y0) fun L r K=>∀ p2 c2,K (.tuple #[sv p2 r.1 c2,vi r.2]) L [Rl (qA (zC .i64)) p2 c2 r.1] :=
 zN call253 func253 u fun X=>
 au
abbrev zJh:=@Cn.mk 253 0 _ @zJi
theorem zLz{y0:List Int}{y1:Int}: zP qd prog 15 [sv p1 y0 c1,vi y1] [] [Rl (zC .i64) p1 c1 y0] (zA3 y0 y1) fun r K=>∀ p2 c2,K (sv p2 r c2) [] [Rl (zC .i64) p2 c2 r] :=
 zN call15 func15 u fun X=>hR 5 0 (zC .i64) 3<|hI 0 3 1 (fun(s1:(List Int)×Int) K=>∀ p2 c2 r_1,K [1,8,9] [(0,.r r_1)] [1] [(5,sv p2 s1.1 c2),(10,vi s1.2)] [Al (zC .i64) 3 r_1 p2 c2 s1.1])<|
 au
abbrev zWa:=@Cn.mk 15 0 _ @zLz
attribute [instance] zJh zWa
theorem zFY{y0:zY}: wO qd prog 254 [.agg (wW y0 p1 c1).toArray,pt b1 0] [bx b1 192 [.func (.func 253) #[] #[pt b2 0]],bx b2 239 [.func (.func 191) #[] #[]]] [Rl qH p1 c1 y0.2,Pt (wN 64 (zC .u8)) 3 0 vA] (zAa y0) fun L r K=>∀ p2 c2,K (.tuple #[sv p2 r.1 c2,vi r.2]) L [Rl (qA (zC .i64)) p2 c2 r.1] :=
 zN call254 func254 u fun X=>hR 7 3 (qA (zC .i64)) 22<|hI 0 6 1 (fun(s1:(List (List Int))×Int) K=>∀ p3 c3 r_1,K [19,20] [(2,.r []),(3,.r r_1)] [1,3] [(7,sv p3 s1.1 c3),(21,vi s1.2)] [Al (qA (zC .i64)) 22 r_1 p3 c3 s1.1])<|
 au
abbrev zKq:=@Cn.mk 254 0 _ @zFY
theorem zTj{y0:zY}{y1:List Int}: zP qd prog 308 [.agg (wW y0 p1 c1).toArray,sv p2 y1 c2] [] [Rl qH p1 c1 y0.2,Rl (zC .i64) p2 c2 y1] (zHs y0 y1) fun r K=>K (vb r) [] [] :=
 zN call308 func308 u fun X=>hI 0 2 1 (fun(s1:Int) K=>K [1,2,7,8] [] [1,0] [(9,vi s1)] [])<|hI 1 4 0 (fun(s2:Bool) K=>K [1,2,7,8,9] [] [1,2] [(34,vb s2)] [])<|
 au
abbrev zTb:=@Cn.mk 308 0 _ @zTj
theorem zRE{y0:zY}{y1:Int}: zP qd prog 311 [.agg (wW y0 p1 c1).toArray,.int .u64 y1] [] [Rl qH p1 c1 y0.2] (zCc y0 y1) fun r K=>K (.int .u64 r) [] [] :=
 zN call311 func311 u fun X=>zH<|wR .s u<|fun b1=>zA 1 u<|zK<|jA 1 u<|zQ<|zH<|qB 1 u<|qG 0 u u u<|zA 2 u<|zK<|zX<|
  wD (fun s1 K=>K [1,9,10] [(0,[])] [0] [(5,.int .u64 s1.1),(11,vi s1.2)] []) (gv kk [900] (gq [0]))<|fun s1 _ k=>k<|jA 1 u<|zQ<|
  zS u (jC<|zQ<|zX<|zH<|yJ 0 u u u<|fun x1 b2 o1=>yU true zSR (gk 0) u<|vH .s (.agg k4)<|fun b3=>qU .s 1 u u u<|zK<|xY [] [1] 11<|zW 9 [0,1] u<|qR 2 0 u u<|
  wS 3 1 u u u u<|xQ fun x2 h1=>xF 4 u (fun h=>r_shrK h u u h1)<|zW 5 [5] u<|qR 6 1 u u<|wS 7 1 u u u u<|xQ fun x3 h2=>xF 8 u (fun h=>z17 h u u h2)<|zW 0 [9,10] u<|qT<|
 au
)<|
 au
abbrev zQn:=@Cn.mk 311 0 _ @zRE
attribute [instance] zKq zTb zQn
theorem zVY{y0:zY}{y1:Int}: zP qd prog 329 [.agg (wW y0 p1 c1).toArray,.int .u64 y1] [] [Rl qH p1 c1 y0.2] (zIp y0 y1) fun r K=>K (vb r) [] [] :=
 zN call329 func329 u fun X=>
 au
abbrev zVf:=@Cn.mk 329 0 _ @zVY
theorem zVl{y0:Int}: zP qd prog 309 [.int .u64 y0] [] [Pt (wN 64 (zC .u8)) 3 0 vA] (zI9 y0) fun r K=>∀ p1 c1,K (sv p1 r c1) [] [Rl (zC .i64) p1 c1 r] :=
 zN call309 func309 u fun X=>hR 3 0 (zC .i64) 3<|hI 0 2 2 (fun(s1:Int×(List Int)) K=>∀ p1 c1 r_1,K [] [(0,.r r_1)] [1] [(0,.int .u64 s1.1),(3,sv p1 s1.2 c1)] [Al (zC .i64) 3 r_1 p1 c1 s1.2])<|
 au
abbrev zVS:=@Cn.mk 309 0 _ @zVl
theorem zVA{y0:List Int}: zP qd prog 310 [sv p1 y0 c1] [] [Rl (zC .i64) p1 c1 y0] (zId y0) fun r K=>K (.int .u64 r) [] [] :=
 zN call310 func310 u fun X=>jA 1 u<|jA 1 u<|zQ<|jA 3 u<|zX<|wD (fun s1 K=>K [6,7] [] [0] [(3,.int .u64 s1.1),(8,vi s1.2)] []) (gv kk [] (gq [0]))<|fun s1 _ k=>k<|jA 1 u<|
  zQ<|zS u (jC<|zQ<|zX<|zH<|yJ 0 u u u<|fun x1 b1 o1=>yU false oI (gk 0) u<|zA 1 u<|zK<|vG<|zA 2 u<|xQ fun x2 h1=>jv (fun h=>z17 h u u h1)<|
 au
)<|
 au
abbrev zVp:=@Cn.mk 310 0 _ @zVA
theorem zT5{y0:zY}: zP qd prog 354 [.agg (wW y0 p1 c1).toArray] [] [Rl qH p1 c1 y0.2] (zKW y0) fun r K=>K (.int .u64 r) [] [] :=
 zN call354 func354 u fun X=>zH<|wR .s u<|fun b1=>zA 1 u<|zK<|zH<|qB 0 u<|qG 0 u u u<|xQ fun x1 h1=>jv (fun h=>z17 h u u h1)<|
 au
abbrev zU0:=@Cn.mk 354 0 _ @zT5
attribute [instance] zVf zVS zVp zU0
theorem zVq{y0:zY}{y1:Int}: zP qd prog 332 [.agg (wW y0 p1 c1).toArray,.int .u64 y1] [] [Rl qH p1 c1 y0.2] (zIk y0 y1) fun r K=>K (.int .u64 r) [] [] :=
 zN call332 func332 u fun X=>hD 1 [] [0] (.l [0,2,3,5,6] (.f 1 (.f 4 (.f 7 (.l [8] (.f 9 (.l [10,11] .e)))))))<|
 au
abbrev zV5:=@Cn.mk 332 0 _ @zVq
attribute [instance] zV5
theorem zQr{y0:Int}{y1:zY}: wO qd prog 331 [.int .u64 y0,pt b1 0] [bx b1 34 (wW y1 p1 c1)] [Rl qH p1 c1 y1.2] (zFA y0 y1) fun L r K=>K (.int .u64 r) L [] :=
 zN call331 func331 u fun X=>
 au
abbrev zQ9:=@Cn.mk 331 0 _ @zQr
attribute [instance] zQ9
theorem zIV{y0:Int}{y1:zY}: wO qd prog 330 [.int .u64 y0,.func (.func 331) #[] #[pt b1 0]] [bx b1 34 (wW y1 p1 c1)] [Rl qH p1 c1 y1.2] (zBD y0 y1) fun L r K=>K (.int .u64 r) L [] :=
 zN call330 func330 u fun X=>hI 0 1 2 (fun(s1:Int) K=>K [1] [] [0] [(0,.int .u64 s1)] [])<|
 au
abbrev zI2:=@Cn.mk 330 0 _ @zIV
attribute [instance] zI2
theorem zTB{y0:zY}{y1:List Int}: zP qd prog 302 [.agg (wW y0 p1 c1).toArray,sv p2 y1 c2] [] [Rl qH p1 c1 y0.2,Rl (zC .i64) p2 c2 y1,Pt (wN 64 (zC .u8)) 3 0 vA] (zEP y0 y1) fun r K=>∀ p3 c3,K (.tuple #[sv p3 r.1 c3,vi r.2]) [] [Rl (zC .i64) p3 c3 r.1] :=
 zN call302 func302 u fun X=>
 au
abbrev zSn:=@Cn.mk 302 0 _ @zTB
theorem zZJ{y0:List Int}{y1:Int}: zP qd prog 356 [sv p1 y0 c1,vi y1] [] [Rl (zC .i64) p1 c1 y0] (zSP y0 y1) fun r K=>K (vb r) [] [] :=
 zN call356 func356 u fun X=>hI 1 1 0 (fun(s1:Bool) K=>K [] [] [] [(4,vb s1)] [])<|
 au
abbrev zZO:=@Cn.mk 356 0 _ @zZJ
attribute [instance] zSn zZO
theorem zUy{y0:List Int}{y1:Int}: wO qd prog 355 [sv p1 y0 c1,pt b1 0] [bx b1 3 [vi y1]] [Rl (zC .i64) p1 c1 y0] (zOZ y0 y1) fun L r K=>K (vb r) L [] :=
 zN call355 func355 u fun X=>
 au
abbrev zVF:=@Cn.mk 355 0 _ @zUy
attribute [instance] zVF
theorem zIW{y0:List (List Int)}{y1:Int}: wO qd prog 306 [sv p1 y0 c1,.func (.func 355) #[] #[pt b1 0]] [bx b1 3 [vi y1]] [Rl (qA (zC .i64)) p1 c1 y0] (zBC y0 y1) fun L r K=>K (vi r) L [] :=
 zN call306 func306 u fun X=>hI 0 2 1 (fun(s1:Int) K=>K [0,1,7] [] [0] [(8,vi s1)] [])<|
 au
abbrev zIY:=@Cn.mk 306 0 _ @zIW
attribute [instance] zIY
theorem zHS{y0:List (List Int)}{y1:Int}: wO qd prog 264 [sv p1 y0 c1,.func (.func 355) #[] #[pt b1 0]] [bx b1 3 [vi y1]] [Rl (qA (zC .i64)) p1 c1 y0] (zAk y0 y1) fun L r K=>K (vb r) L [] :=
 zN call264 func264 u fun X=>
 au
abbrev zHT:=@Cn.mk 264 0 _ @zHS
attribute [instance] zHT
theorem zYS{y0:List (List Int)}{y1:Int}: zP qd prog 333 [sv p1 y0 c1,vi y1] [] [Rl (qA (zC .i64)) p1 c1 y0] (zKN y0 y1) fun r K=>K (vb r) [] [] :=
 zN call333 func333 u fun X=>
 au
abbrev zY1:=@Cn.mk 333 0 _ @zYS
attribute [instance] zY1
theorem z01{y0:List (List Int)}: zP qd prog 303 [sv p1 y0 c1] [] [Rl (qA (zC .i64)) p1 c1 y0] (zKa y0) fun r K=>∀ p2 c2,K (sv p2 r c2) [] [Rl (zC .i64) p2 c2 r] :=
 zN call303 func303 u fun X=>hR 3 0 (zC .i64) 3<|hI 0 5 1 (fun(s1:(List Int)×Int) K=>∀ p3 c3 r_1,K [0,11] [(0,.r r_1)] [3] [(3,sv p3 s1.1 c3),(12,vi s1.2)] [Al (zC .i64) 3 r_1 p3 c3 s1.1])<|
 au
abbrev z1C:=@Cn.mk 303 0 _ @z01
theorem zDp{y0:List zT}: zP qd prog 100 [sv p1 y0 c1,.func (.func 56) #[] #[]] [r_1] [Al qH 48 r_1 p1 c1 y0] (zA9 y0) fun r K=>∀ r_2,K (.tuple #[]) [r_2] [Ar qH 48 r_2 p1 c1 (List.length y0) r]:=⟨call100,fun A w0 r hm hO hF=>by
 have h:=zUJ (qd:=qd) Go.Proofs.Tryz.sort100 (yO.prod (yO.int .i64) (yO.int .i64)) (te:=48) Tryz.isAgg48 Tryz.sizeOf48 zCj 56 (enters_of func56 (by kernel_rfl) u) (fun w x y n hn=>?_) hO hF.1.1 hm
 · change Calls prog 100 _ _ _ at h
   refine h.mono fun e w' h=>?_
   cases e with
   | returned v=>obtain⟨r',rfl,h1,h2,h3,h4⟩:=h;exact fun G k=>k r' ⟨rfl,h1,h2,⟨h3,h4.symm⟩,trivial⟩
   | panicked ch=>exact h
   | outgrown=>exact h
 · refine((zQd (qd:=True) (y0:=x) (y1:=y)).go [] w n hn (zZ.start (by simp)) trivial).mono fun e w' h=>?_
   cases e with
   | returned v=>exact h _ fun⟨e1,q⟩=>⟨e1,q.e⟩
   | panicked ch=>exact h
   | outgrown=>exact h⟩
abbrev zJE:=@Cn.mk 100 0 _ @zDp
attribute [instance] z1C zJE
theorem zX0{y0:zY}: zP qd prog 128 [.agg (wW y0 p1 c1).toArray] [] [Rl qH p1 c1 y0.2] (zFw y0) fun r K=>∀ p2 c2,K (.agg (wW r p2 c2).toArray) [] [Rl qH p2 c2 r.2] :=
 zN call128 func128 u fun X=>zH<|wR .s u<|fun b1=>vH .s (.agg k5)<|fun b2=>zK<|zH<|wQ 0 2 u u u<|wF zJ5 u (cq [0])<|fun r1 _ k p2 c2=>k<|qU .s 0 u u u<|zK<|zH<|qB 0 u<|qG 0 u u u<|
  qE (.agg #[vi r1.1,.slice none 0 0])<|yX qH 48<|vH .s (.agg k5)<|fun b3=>qU .s 3 u u u<|zK<|
  wC (fun s1 K=>∀ p3 c3 r_1,K [2,3] [(0,[]),(2,r_1),(3,bx b3 34 [vi r1.1,sv p3 s1 c3])] [] [] [Al qH 48 r_1 p3 c3 s1]) (hI 0 4 1 (fun(s2:Int×(List zT)) K=>∀ p4 c4 r_2,K [2,3,12,13] [(0,.r []),(2,.r r_2),(3,.c [(1,sv p4 s2.2 c4)])] [1] [(14,vi s2.1)] [Al qH 48 r_2 p4 c4 s2.2])<|
 au
)<|fun s1 _ k p3 c3 r_1=>k<|zH<|qB 1 u<|
  qG 3 u u u<|qL .s [2] [] zDp u u u (cq [0])<|fun r2 _ k r_4=>k<|zK<|zH<|jbL (fun q_=>[[],bx b2 34 [vi 0,.slice none 0 0],r_4,bx b3 34 [vi r1.1,.slice p3 q_ c3]]) (gk 0) u<|
 au
abbrev zYh:=@Cn.mk 128 0 _ @zX0
attribute [instance] zYh
theorem zLL{y0:zY}{y1:Int}: zP qd prog 70 [.agg (wW y0 p1 c1).toArray,vi y1] [] [Rl qH p1 c1 y0.2,Pt (wN 64 (zC .u8)) 3 0 vA] (zBx y0 y1) fun r K=>∀ p2 c2,K (sv p2 r c2) [] [Rl (zC .i64) p2 c2 r] :=
 zN call70 func70 u fun X=>
 au
abbrev zV1:=@Cn.mk 70 0 _ @zLL
theorem zJt{y0:yN}: wO qd prog 299 [pt b1 0] [bx b1 282 (yL [vi y0.1,sv p1 y0.2.1 c1] 40 y0.2.2.1 [sv p2 y0.2.2.2.1 c2,vb (a4 y0)]),r_1] [Rl (qA (zC .i64)) p1 c1 y0.2.1,Al (qA (zC .i64)) 22 r_1 p2 c2 y0.2.2.2.1] (zCd y0) fun L r K=>∀ p3 c3,K (.tuple #[sv p3 r.1 c3,vi r.2]) L [Rl (zC .i64) p3 c3 r.1] :=
 zN call299 func299 u fun X=>jA 2 u<|zH<|zA 1 u<|yX (zC .i64) 3 <|zK<|zQ<|zH<|zA 2 u<|qB 0 u<|qG 0 u u u<|zA 1 u<|zK<|zX<|
  wD (fun s1 K=>∀ p3 c3 r_2,K [0,9] [(2,r_2)] [1,2] [(4,sv p3 s1.1 c3),(10,vi s1.2)] [Al (zC .i64) 3 r_2 p3 c3 s1.1]) (gv (fun _ k=>k none 0 []) [0,1,2] (gq [0,1,2]))<|
  fun s1 _ k p3 c3 r_2=>k<|jA 1 u<|zQ<|zS u (jC<|zQ<|zX<|jA 2 u<|zH<|zA 3 u<|qB 2 u<|jiL 40 u u<|fun u1 h1=>jlL 0 40 y0.2.2.1 [vi y0.1,sv p1 y0.2.1 c1] [sv p2 y0.2.2.2.1 c2,vb (a4 y0)] h1 u u<|
 au
)<|
 au
abbrev zOk:=@Cn.mk 299 0 _ @zJt
theorem zL8{y0:yN}{y1:List Int}{y2:Int}: wO qd prog 353 [pt b1 0,sv p3 y1 c3,vi y2] [bx b1 282 (yL [vi y0.1,sv p1 y0.2.1 c1] 40 y0.2.2.1 [sv p2 y0.2.2.2.1 c2,vb (a4 y0)]),r_1] [Rl (qA (zC .i64)) p1 c1 y0.2.1,Al (qA (zC .i64)) 22 r_1 p2 c2 y0.2.2.2.1,Rl (zC .i64) p3 c3 y1] (zEm y0 y1 y2) fun L r K=>∀ p4 c4,K (sv p4 r c4) L [Rl (zC .i64) p4 c4 r] :=
 zN call353 func353 u fun X=>jA 1 u<|zH<|zA 1 u<|yX (zC .i64) 3 <|zK<|zQ<|jA 3 u<|zX<|
  wD (fun s1 K=>∀ p4 c4 r_2,K [0,2,10,11] [(2,r_2)] [3,1,2] [(7,sv p4 s1.1 c4),(12,vi s1.2)] [Al (zC .i64) 3 r_2 p4 c4 s1.1]) (gv (fun _ k=>k none 0 []) [0,1,2] (gq [0,3,1,2]))<|
  fun s1 _ k p4 c4 r_2=>k<|jA 1 u<|zQ<|zS u (jC<|zQ<|zX<|zH<|yJ 1 u u u<|fun x1 b2 o1=>yU false oI (gk 0) u<|zA 1 u<|zK<|zH<|zA 3 u<|qB 2 u<|jiL 40 u u<|fun u1 h1=>
  jlL 0 40 y0.2.2.1 [vi y0.1,sv p1 y0.2.1 c1] [sv p2 y0.2.2.2.1 c2,vb (a4 y0)] h1 u u<|
 au
)<|
 au
abbrev zQl:=@Cn.mk 353 0 _ @zL8
end Go.Proofs.YtmpieaddiaihmaaGreatDoor
