/- A part. Conditions: none. -/
import Derived.Test.YtgjdojihimkgcaaGreatDoorProg
import Derived.Test.YtgjdojihimkgcaaGreatDoorSb3
import Derived.Test.YtgjdojihimkgcaaGreatDoorMap
import Derived.Test.YtgjdojihimkgcaaGreatDoorModels
import Derived.Test.YtgjdojihimkgcaaGreatDoorShelfP
namespace Go.Proofs.YtgjdojihimkgcaaGreatDoor
open Go Go.GD Go.Proofs.Tryz
set_option autoImplicit false
set_option linter.unusedVariables false
set_option maxRecDepth 100000
set_option linter.defProp false
variable {qd:Prop}
variable {yl1:Nat}{p1 p2 p3 p4 p5 p6 p7 p8 p9:Option Addr}{c1 c2 c3 c4 c5 c6 c7 c8 c9:Nat}{b1 b2 b3 b4 b5 b6 b7 b8 b9 b10 b11:Nat}{r_1 r_2 r_3 r_4 r_5 r_6 r_7 r_8:zJ}
abbrev z9N:E uU:=wP (zT (zB .i64)) (zB .i64)
abbrev o_keep_Src:uZ z9N:=(oP oL oI)
abbrev zJm (y:uU)(p1:Option Addr)(c1:Nat): List Value:=[sv p1 y.1 c1,vi y.2]
abbrev zJs (y:uU)(p1:Option Addr)(c1:Nat)(t:List PP): List PP:=Rl (zB .i64) p1 c1 y.1::t
abbrev qT:E zI:=wP zNu wS
abbrev tA:uZ qT:=(oP oB oS)
abbrev zCO:E vE:=wP qT (wP (zB .i64) (wP (zB .i64) wS))
abbrev z0X:uZ zCO:=(oP tA (oP oI (oP oI oS)))
abbrev zSi (y:vE): List Value:=[vb y.1.1,vs y.1.2,vi y.2.1,vi y.2.2.1,vs y.2.2.2]
abbrev xV:E qH:=wP wS (wP zNu (wP (zB .i64) (wP (zT qT) qT)))
abbrev z2I:uZ xV:=(oP oS (oP oB (oP oI (oP oL tA))))
abbrev zYD (y:qH)(p1:Option Addr)(c1:Nat): List Value:=[vs y.1,vb y.2.1,vi y.2.2.1,sv p1 y.2.2.2.1 c1,vb y.2.2.2.2.1,vs y.2.2.2.2.2]
abbrev z1l (y:qH)(p1:Option Addr)(c1:Nat)(t:List PP): List PP:=Rl qT p1 c1 y.2.2.2.1::t
abbrev zAx:E wW:=wP wS (wP (zB .i64) qT)
abbrev zZn:uZ zAx:=(oP oS (oP oI tA))
abbrev zQk (y:wW): List Value:=[vs y.1,vi y.2.1,vb y.2.2.1,vs y.2.2.2]
abbrev z7z:E zM:=wP (zT zCO) (wP (zT xV) (zT zAx))
abbrev o_Base:uZ z7z:=(oP oL (oP oL oL))
abbrev yK (y:zM)(p1:Option Addr)(c1:Nat)(p2:Option Addr)(c2:Nat)(p3:Option Addr)(c3:Nat): List Value:=[sv p1 y.1 c1,sv p2 y.2.1 c2,sv p3 y.2.2 c3]
abbrev yO (y:zM)(p1:Option Addr)(c1:Nat)(p2:Option Addr)(c2:Nat)(p3:Option Addr)(c3:Nat)(t:List PP): List PP:=Rl zCO p1 c1 y.1::Rl xV p2 c2 y.2.1::Rl zAx p3 c3 y.2.2::t
abbrev wB:E zF:=wP (zB .i64) (wP (zB .i64) (wP (zT (zB .i64)) qT))
abbrev zT7:uZ wB:=(oP oI (oP oI (oP oL tA)))
abbrev z8h (y:zF)(p1:Option Addr)(c1:Nat): List Value:=[vi y.1,vi y.2.1,sv p1 y.2.2.1 c1,vb y.2.2.2.1,vs y.2.2.2.2]
abbrev z9d (y:zF)(p1:Option Addr)(c1:Nat)(t:List PP): List PP:=Rl (zB .i64) p1 c1 y.2.2.1::t
abbrev zD2:E qX:=wP (zB .i64) (wP (zB .i64) (wP (zB .i64) (zB .i64)))
abbrev o_Attack:uZ zD2:=(oP oI (oP oI (oP oI oI)))
abbrev z28 (y:qX): List Value:=[vi y.1,vi y.2.1,vi y.2.2.1,vi y.2.2.2]
abbrev wE:E qG:=wP (zB .i64) (zB .i64)
abbrev zXw:uZ wE:=(oP oI oI)
abbrev z6v:E qE:=wP (zB .i64) (zT wE)
abbrev o_Graph:uZ z6v:=(oP oI oL)
abbrev vQ (y:qE)(p1:Option Addr)(c1:Nat): List Value:=[vi y.1,sv p1 y.2 c1]
abbrev f_Graph (y:qE)(p1:Option Addr)(c1:Nat)(t:List PP): List PP:=Rl wE p1 c1 y.2::t
abbrev z2K:E zBv:=wP z7z (wP (zT wB) (wP (zT zD2) z6v))
abbrev z9v:uZ z2K:=(oP o_Base (oP oL (oP oL o_Graph)))
abbrev zPf (y:zBv)(p1:Option Addr)(c1:Nat)(p2:Option Addr)(c2:Nat)(p3:Option Addr)(c3:Nat)(p4:Option Addr)(c4:Nat)(p5:Option Addr)(c5:Nat)(p6:Option Addr)(c6:Nat): List Value:=[sv p1 y.1.1 c1,sv p2 y.1.2.1 c2,sv p3 y.1.2.2 c3,sv p4 y.2.1 c4,sv p5 y.2.2.1 c5,vi y.2.2.2.1,sv p6 y.2.2.2.2 c6]
abbrev zQa (y:zBv)(p1:Option Addr)(c1:Nat)(p2:Option Addr)(c2:Nat)(p3:Option Addr)(c3:Nat)(p4:Option Addr)(c4:Nat)(p5:Option Addr)(c5:Nat)(p6:Option Addr)(c6:Nat)(t:List PP): List PP:=Rl zCO p1 c1 y.1.1::Rl xV p2 c2 y.1.2.1::Rl zAx p3 c3 y.1.2.2::Rl wB p4 c4 y.2.1::Rl zD2 p5 c5 y.2.2.1::Rl wE p6 c6 y.2.2.2.2::t
abbrev zTa:E yZ:=wP (zB .i64) (zB .i64)
abbrev z9s:uZ zTa:=(oP oI oI)
abbrev zWM:E xB:=wP z7z (wP (zT wB) (wP (zT wB) (zB .i64)))
abbrev z8W:uZ zWM:=(oP o_Base (oP oL (oP oL oI)))
abbrev zIp (y:xB)(p1:Option Addr)(c1:Nat)(p2:Option Addr)(c2:Nat)(p3:Option Addr)(c3:Nat)(p4:Option Addr)(c4:Nat)(p5:Option Addr)(c5:Nat): List Value:=[sv p1 y.1.1 c1,sv p2 y.1.2.1 c2,sv p3 y.1.2.2 c3,sv p4 y.2.1 c4,sv p5 y.2.2.1 c5,vi y.2.2.2]
abbrev zIj (y:xB)(p1:Option Addr)(c1:Nat)(p2:Option Addr)(c2:Nat)(p3:Option Addr)(c3:Nat)(p4:Option Addr)(c4:Nat)(p5:Option Addr)(c5:Nat)(t:List PP): List PP:=Rl zCO p1 c1 y.1.1::Rl xV p2 c2 y.1.2.1::Rl zAx p3 c3 y.1.2.2::Rl wB p4 c4 y.2.1::Rl wB p5 c5 y.2.2.1::t
abbrev xD:E yT:=wP (zB .i64) (wP (zB .i64) (zB .i64))
abbrev o_Step:uZ xD:=(oP oI (oP oI oI))
abbrev v_Step (y:yT): List Value:=[vi y.1,vi y.2.1,vi y.2.2]
abbrev z4a:E zHy:=wP zNu (wP (zT (zB .i64)) (wP (zT (zB .i64)) (zT xD)))
abbrev o_Verdict:uZ z4a:=(oP oB (oP oL (oP oL oL)))
abbrev zSn (y:zHy)(p1:Option Addr)(c1:Nat)(p2:Option Addr)(c2:Nat)(p3:Option Addr)(c3:Nat): List Value:=[vb y.1,sv p1 y.2.1 c1,sv p2 y.2.2.1 c2,sv p3 y.2.2.2 c3]
abbrev zSV (y:zHy)(p1:Option Addr)(c1:Nat)(p2:Option Addr)(c2:Nat)(p3:Option Addr)(c3:Nat)(t:List PP): List PP:=Rl (zB .i64) p1 c1 y.2.1::Rl (zB .i64) p2 c2 y.2.2.1::Rl xD p3 c3 y.2.2.2::t
abbrev zXr:E zAY:=wP (zB .i64) (zT (zT (zB .i64)))
abbrev z9W:uZ zXr:=(oP oI oL)
abbrev zPl (y:zAY)(p1:Option Addr)(c1:Nat): List Value:=[vi y.1,sv p1 y.2 c1]
abbrev zQZ (y:zAY)(p1:Option Addr)(c1:Nat)(t:List PP): List PP:=Rl (zT (zB .i64)) p1 c1 y.2::t
abbrev z73:E zNr:=wP zNu (wP (zT zNu) (zT xD))
abbrev o_Answer:uZ z73:=(oP oB (oP oL oL))
abbrev z7q (y:zNr)(p1:Option Addr)(c1:Nat)(p2:Option Addr)(c2:Nat): List Value:=[vb y.1,sv p1 y.2.1 c1,sv p2 y.2.2 c2]
abbrev z7p (y:zNr)(p1:Option Addr)(c1:Nat)(p2:Option Addr)(c2:Nat)(t:List PP): List PP:=Rl zNu p1 c1 y.2.1::Rl xD p2 c2 y.2.2::t
abbrev zYl:E zAP:=wP (zT wS) zNu
abbrev z9z:uZ zYl:=(oP oL oB)
abbrev zDa (y:zAP)(p1:Option Addr)(c1:Nat): List Value:=[sv p1 y.1 c1,vb y.2]
abbrev z9y (y:zAP)(p1:Option Addr)(c1:Nat)(t:List PP): List PP:=Rl wS p1 c1 y.1::t
instance:Sh 3 false 1:=.mk
instance:Sh 4 false 1:=.mk
instance:Sh 5 false 1:=.mk
instance:Sh 9 false 1:=.mk
instance:Sh 22 false 1:=.mk
instance:Sh 25 false 1:=.mk
instance:Sh 26 false 1:=.mk
instance:Sh 27 false 1:=.mk
instance:Sh 29 true 3:=.mk
instance:Sh 30 false 1:=.mk
instance:Sh 31 false 1:=.mk
instance:Sh 32 false 1:=.mk
instance:Sh 34 true 2:=.mk
instance:Sh 36 true 7:=.mk
instance:Sh 39 false 1:=.mk
instance:Sh 44 true 2:=.mk
instance:Sh 46 true 5:=.mk
instance:Sh 47 false 1:=.mk
instance:Sh 49 true 4:=.mk
instance:Sh 65 true 2:=.mk
instance:Sh 69 false 1:=.mk
instance:Sh 80 false 1:=.mk
instance:Sh 83 false 1:=.mk
instance:Sh 85 true 3:=.mk
instance:Sh 95 false 1:=.mk
instance:Sh 97 true 5:=.mk
instance:Sh 101 true 6:=.mk
instance:Sh 103 true 4:=.mk
instance:Sh 134 false 1:=.mk
instance:Sh 150 false 1:=.mk
instance:Sh 158 false 1:=.mk
instance:Sh 163 true 4:=.mk
instance:Sh 165 true 2:=.mk
instance:Sh 181 false 1:=.mk
instance:Sh 201 true 4:=.mk
instance:Sh 220 false 1:=.mk
instance:Sh 222 false 1:=.mk
instance:Sh 235 false 1:=.mk
instance:Sh 248 true 3:=.mk
instance:Sh 278 true 40:=.mk
instance:Sh 282 false 1:=.mk
instance:Ty 3 (zB .i64) oI false:=.mk
instance:Ty 4 zNu oB false:=.mk
instance:Ty 5 (zB .u8) oI false:=.mk
instance:Ty 9 wS oS false:=.mk
instance:Ty 22 (zT (zB .i64)) oL false:=.mk
instance:Ty 25 (zT zCO) oL false:=.mk
instance:Ty 26 (zT xV) oL false:=.mk
instance:Ty 27 (zT zAx) oL false:=.mk
instance:Ty 29 z7z o_Base true:=.mk
instance:Ty 30 (zT wB) oL false:=.mk
instance:Ty 31 (zT zD2) oL false:=.mk
instance:Ty 32 (zT wE) oL false:=.mk
instance:Ty 34 z6v o_Graph true:=.mk
instance:Ty 36 z2K z9v true:=.mk
instance:Ty 39 (zT qT) oL false:=.mk
instance:Ty 44 qT tA true:=.mk
instance:Ty 46 wB zT7 true:=.mk
instance:Ty 47 (zT xD) oL false:=.mk
instance:Ty 49 z4a o_Verdict true:=.mk
instance:Ty 65 zTa z9s true:=.mk
instance:Ty 69 (zT (zT qT)) oL false:=.mk
instance:Ty 80 (zT (zT (zB .i64))) oL false:=.mk
instance:Ty 83 (zT zNu) oL false:=.mk
instance:Ty 85 z73 o_Answer true:=.mk
instance:Ty 95 (zT wS) oL false:=.mk
instance:Ty 97 zCO z0X true:=.mk
instance:Ty 101 xV z2I true:=.mk
instance:Ty 103 zAx zZn true:=.mk
instance:Ty 150 (zT (zB .u8)) oL false:=.mk
instance:Ty 163 zD2 o_Attack true:=.mk
instance:Ty 165 wE zXw true:=.mk
instance:Ty 201 (wP wS (wP wS (wP wS wS))) (oP oS (oP oS (oP oS oS))) true:=.mk
instance:Ty 235 (zB .u64) oI false:=.mk
instance:Ty 248 xD o_Step true:=.mk
instance:Fs 29 [0,1,2]:=.mk
instance:Fs 34 [0,1]:=.mk
instance:Fs 36 [0,3,4,5]:=.mk
instance:Fs 44 [0,1]:=.mk
instance:Fs 46 [0,1,2,3]:=.mk
instance:Fs 49 [0,1,2,3]:=.mk
instance:Fs 58 [0,1]:=.mk
instance:Fs 65 [0,1]:=.mk
instance:Fs 85 [0,1,2]:=.mk
instance:Fs 97 [0,2,3,4]:=.mk
instance:Fs 101 [0,1,2,3,4]:=.mk
instance:Fs 103 [0,1,2]:=.mk
instance:Fs 128 [0,1]:=.mk
instance:Fs 136 [0,1,2,3,4,5]:=.mk
instance:Fs 146 [0,1]:=.mk
instance:Fs 160 [0,3,4,5]:=.mk
instance:Fs 163 [0,1,2,3]:=.mk
instance:Fs 165 [0,1]:=.mk
instance:Fs 248 [0,1,2]:=.mk
instance:Fs 280 [0,1,2,42,43]:=.mk
instance:Fs 300 [0]:=.mk
instance:Zr 3 (vi 0):=.mk
instance:Zr 9 (vs []):=.mk
instance:Zr 22 (.slice none 0 0):=.mk
instance:Zr 29 (.agg #[.slice none 0 0,.slice none 0 0,.slice none 0 0]):=.mk
instance:Zr 34 (.agg #[vi 0,.slice none 0 0]):=.mk
instance:Zr 36 (.agg #[.slice none 0 0,.slice none 0 0,.slice none 0 0,.slice none 0 0,.slice none 0 0,vi 0,.slice none 0 0]):=.mk
instance:Zr 44 (.agg #[vb false,vs []]):=.mk
instance:Zr 46 (.agg #[vi 0,vi 0,.slice none 0 0,vb false,vs []]):=.mk
instance:Zr 49 (.agg #[vb false,.slice none 0 0,.slice none 0 0,.slice none 0 0]):=.mk
instance:Zr 58 (.agg #[.slice none 0 0,vi 0]):=.mk
instance:Zr 65 (.agg #[vi 0,vi 0]):=.mk
instance:Zr 69 (.slice none 0 0):=.mk
instance:Zr 85 (.agg #[vb false,.slice none 0 0,.slice none 0 0]):=.mk
instance:Zr 97 (.agg #[vb false,vs [],vi 0,vi 0,vs []]):=.mk
instance:Zr 101 (.agg #[vs [],vb false,vi 0,.slice none 0 0,vb false,vs []]):=.mk
instance:Zr 103 (.agg #[vs [],vi 0,vb false,vs []]):=.mk
instance:Zr 128 (.agg #[vi 0,.slice none 0 0]):=.mk
instance:Zr 136 (.agg #[.slice none 0 0,.slice none 0 0,.map none,.slice none 0 0,vi 0,vb false]):=.mk
instance:Zr 146 (.agg #[.slice none 0 0,vb false]):=.mk
instance:Zr 160 (.agg #[.slice none 0 0,.slice none 0 0,.slice none 0 0,.slice none 0 0,.slice none 0 0,vi 0]):=.mk
instance:Zr 163 (.agg #[vi 0,vi 0,vi 0,vi 0]):=.mk
instance:Zr 165 (.agg #[vi 0,vi 0]):=.mk
instance:Zr 187 (.agg #[vi 0,vi 0,vi 0,vi 0,vi 0,vi 0,vi 0,vi 0,vi 0,vi 0,vi 0,vi 0,vi 0,vi 0,vi 0,vi 0,vi 0,vi 0,vi 0,vi 0,vi 0,vi 0,vi 0,vi 0,vi 0,vi 0,vi 0,vi 0,vi 0,vi 0,vi 0,vi 0,vi 0,vi 0,vi 0,vi 0,vi 0,vi 0,vi 0,vi 0]):=.mk
instance:Zr 220 .nilFunc:=.mk
instance:Zr 235 (.int .u64 0):=.mk
instance:Zr 248 (.agg #[vi 0,vi 0,vi 0]):=.mk
instance:Zr 278 (.agg #[vi 0,vi 0,vi 0,vi 0,vi 0,vi 0,vi 0,vi 0,vi 0,vi 0,vi 0,vi 0,vi 0,vi 0,vi 0,vi 0,vi 0,vi 0,vi 0,vi 0,vi 0,vi 0,vi 0,vi 0,vi 0,vi 0,vi 0,vi 0,vi 0,vi 0,vi 0,vi 0,vi 0,vi 0,vi 0,vi 0,vi 0,vi 0,vi 0,vi 0]):=.mk
instance:Zr 280 (.agg #[vi 0,.slice none 0 0,vi 0,vi 0,vi 0,vi 0,vi 0,vi 0,vi 0,vi 0,vi 0,vi 0,vi 0,vi 0,vi 0,vi 0,vi 0,vi 0,vi 0,vi 0,vi 0,vi 0,vi 0,vi 0,vi 0,vi 0,vi 0,vi 0,vi 0,vi 0,vi 0,vi 0,vi 0,vi 0,vi 0,vi 0,vi 0,vi 0,vi 0,vi 0,vi 0,vi 0,.slice none 0 0,vb false]):=.mk
instance:Zr 300 (.agg #[.pointer none,.slice none 0 0]):=.mk
instance:Zr 353 (.agg #[vi 0,vi 0,vi 0,vi 0]):=.mk
instance:Zr 390 (.agg #[.int .u8 0,.int .u8 0,.int .u8 0,.int .u8 0,.int .u8 0,.int .u8 0,.int .u8 0,.int .u8 0,.int .u8 0,.int .u8 0,.int .u8 0,.int .u8 0,.int .u8 0,.int .u8 0,.int .u8 0,.int .u8 0,.int .u8 0,.int .u8 0,.int .u8 0,.int .u8 0,.int .u8 0,.int .u8 0,.int .u8 0,.int .u8 0]):=.mk
instance:Se 22 3 (zB .i64):=.mk
instance:Se 25 97 zCO:=.mk
instance:Se 26 101 xV:=.mk
instance:Se 27 103 zAx:=.mk
instance:Se 30 46 wB:=.mk
instance:Se 31 163 zD2:=.mk
instance:Se 32 165 wE:=.mk
instance:Se 39 44 qT:=.mk
instance:Se 47 248 xD:=.mk
instance:Se 66 65 zTa:=.mk
instance:Se 69 39 (zT qT):=.mk
instance:Se 80 22 (zT (zB .i64)):=.mk
instance:Se 83 4 zNu:=.mk
instance:Se 95 9 wS:=.mk
instance:Se 150 5 (zB .u8):=.mk
instance:Se 240 235 (zB .u64):=.mk
instance:It 3 .i64:=.mk
instance:It 5 .u8:=.mk
instance:It 184 .u64:=.mk
instance:It 233 .u32:=.mk
instance:It 235 .u64:=.mk
instance:By 150 5:=.mk
abbrev a4{α0 α1 α2 α3 α4:Type}(x:α0×α1×α2×α3×α4): α4:=x.2.2.2.2
abbrev a5{α0 α1 α2 α3 α4 α5:Type}(x:α0×α1×α2×α3×α4×α5): α5:=x.2.2.2.2.2
abbrev a6{α0 α1 α2 α3 α4 α5 α6:Type}(x:α0×α1×α2×α3×α4×α5×α6): α6:=x.2.2.2.2.2.2
abbrev a7{α0 α1 α2 α3 α4 α5 α6 α7:Type}(x:α0×α1×α2×α3×α4×α5×α6×α7): α7:=x.2.2.2.2.2.2.2
abbrev k0:Array Value:=#[Value.slice none 0 0,Value.slice none 0 0,Value.slice none 0 0]
abbrev k1:Array Value:=#[Value.slice none 0 0,Value.slice none 0 0,Value.slice none 0 0,Value.slice none 0 0,Value.slice none 0 0,vi 0,Value.slice none 0 0]
abbrev k2:Array Value:=#[vb false,vs []]
abbrev k3:Array Value:=#[vs [],vb false,vi 0,Value.slice none 0 0,vb false,vs []]
abbrev k4:Array Value:=#[vb false,Value.slice none 0 0,Value.slice none 0 0]
abbrev k5:Array Value:=#[vi 0,Value.slice none 0 0]
abbrev k6:Array Value:=#[vi 0,vi 0,Value.slice none 0 0,vb false,vs []]
abbrev k7:Array Value:=#[vb false,vs [],vi 0,vi 0,vs []]
abbrev k8:List Value:=[Value.slice none 0 0,Value.slice none 0 0,Value.slice none 0 0]
abbrev k9:Array Value:=#[vb false,Value.slice none 0 0,Value.slice none 0 0,Value.slice none 0 0]
theorem Tryz.key134:zXq prog 134 9 3 (λx:zD=>vs x) :=
  zXq.string underlying134 underlying9
theorem zMW{y0:List zF}{y1:Int}: zP qd prog 101 [sv p1 y0 c1,vi y1] [] [Rl wB p1 c1 y0] (zBQ y0 y1) λr K=>K (vb r) [] [] :=
 zO call101 func101 u λX=>hP 4 1 0 (λK=>K [] [] [] [(4,vb ((decide (0≤y1))&&(decide (y1<(len y0)))))] [])<|
 au
abbrev zXD:=@Cn.mk 101 0 _ @zMW
theorem zId{y0:List zI}: zP qd prog 55 [sv p1 y0 c1] [] [Rl qT p1 c1 y0] (zDl y0) λr K=>∀ p2 c2 r_1,K (sv p2 r c2) [r_1] [Al qT 44 r_1 p2 c2 r] :=
 zO call55 func55 u λX=>jA 1 u<|zQ<|zG<|zA 1 u<|jv (λh=>z9l h u underlying39)<|zK<|jnl (m1:=some ([]:List zI)) u (gk 0) (λh=>by first|(rw[h];done)|(rw[h];rfl)|(simp[h,qF];done)) (jA 1 u<|qC<|qS<|yU qT 44<|
  jrE 0 2 u u<|
 au
)<|hO 5<|
 au
abbrev zRo:=@Cn.mk 55 0 _ @zId
theorem zQ9{y0:List zI}: zP qd prog 58 [sv p1 y0 c1] [r_1] [Al qT 44 r_1 p1 c1 y0] (zCI y0) λr K=>∀ p2 c2 r_2,K (sv p2 r c2) [[],r_2] [Al qT 44 r_2 p2 c2 r] :=
 zO call58 func58 u λX=>jA 1 u<|zQ<|jA 3 u<|zR u (
 au
)<|jC<|zQ<|jA 1 u<|qA<|
  wO (λs1 K=>K [0] [] [0] [(3,vi s1)] []) (gv kk [0] (gq [0]))<|λs1 _ k=>k<|zQ<|jA 4 u<|zR u (jC<|zQ<|qA<|xA [] [0] 10<|zW 8 [0,1] u<|
  jdI 2 0 u u u u<|λx1 h1 b1 o1 hp1=>tU 3 0 0 sI true tA u u hp1 h1 u<|zW 3 [4,5,6] u<|jdI 7 0 u u u u<|λx2 h2 b2 o2 hp2=>tU 8 0 0 sI true tA u u hp2 h2 u<|vK 9 (vb (x1==x2)) u<|qY<|
  qK<|zR u (zG<|zA 2 u<|jsV 0 u u u<|λu1 p2 c2 f1=>zA 1 u<|zK<|
  jjn (λs2 K=>∀ r_2,K [(0,.slice p1 (List.length y0) c1),(3,vi s2.2)] [r_2] [Ar qT 44 r_2 p1 c1 (List.length y0) s2.1]) (
  jA 1 u<|qA<|
  wO (λs3 K=>∀ r_3,K [4] [(0,r_3)] [] [(0,.slice p1 (List.length y0) c1),(3,vi s3.2.1),(5,vi s3.2.2)] [Ar qT 44 r_3 p1 c1 (List.length y0) s3.1]) (gv (λ_ k=>k r_1) [0] (gq [0]))<|
  λs3 _ k r_3=>k<|zQ<|jA 4 u<|zR u (jC<|zQ<|qA<|xA [] [0] 10<|zW 8 [0,1] u<|jdX 2 0 u u f1 u u<|λx3 b3 o3 hp3 h3=>tU 3 0 0 sI true tA u u hp3 h3 u<|zW 3 [4,5,6] u<|
  jdX 7 0 u u f1 u u<|λx4 b4 o4 hp4 h4=>tU 8 0 0 sI true tA u u hp4 h4 u<|vK 9 (vb (!(x3==x4))) u<|qY<|qK<|zR u (zG<|zA 4 u<|jiV 0 u f1 u u<|
 au
)<|
 au
)<|
 au
)<|λs2 _ k r_2=>k<|zG<|zA 2 u<|jsV 0 u u u<|λu2 p3 c3 f2=>
  jcv .s 0 0 (false,[]) (.agg k2) u f2 u (vP vB vS)<|
 au
)<|
 au
)<|
 au
abbrev zQP:=@Cn.mk 58 0 _ @zQ9
theorem zW9{y0:zD}: zP qd prog 185 [vs y0] [] [] (zGF y0) λr K=>K (vb r) [] [] :=
 zO call185 func185 u λX=>
 au
abbrev zWY:=@Cn.mk 185 0 _ @zW9
attribute [instance] zXD zRo zQP zWY
theorem zNg{y0:zD}{y1:zD}: zP qd prog 108 [vs y0,vs y1] [] [] (zG5 y0 y1) λr K=>K (vi r) [] [] :=
 zO call108 func108 u λX=>
 au
abbrev zTw:=@Cn.mk 108 0 _ @zNg
theorem zQX{y0:zI}{y1:zI}: zP qd prog 57 [.agg #[vb y0.1,vs y0.2],.agg #[vb y1.1,vs y1.2]] [] [] (zCZ y0 y1) λr K=>K (vi r) [] [] :=
 zO call57 func57 u λX=>zG<|wN .s u<|λb1=>wN .s u<|λb2=>zA 1 u<|zK<|zQ<|zG<|zY 1 u<|qI 0 u u u<|zY 1 u<|qI 1 u u u<|qW zNg u d<|λr1 _ k=>k<|zA 1 u<|zK<|
  z1c (λK=>K [3,5] [(0,[])] [] [(19,vb ((r1 != 0)||(y0.1==y1.1)))] []) (wQ<|zA 3 u<|xO (b:=r1 != 0) 13 u (λhb1=>zA 5 u<|zV (vb true)<|
  qN<|yG 19 (vb ((r1 != 0)||(y0.1==y1.1))) u (by rw[hb1];rfl)<|qB (gv kk [900,1] d))<|λhb1=>zY 0 u<|qI 0 u u u<|zY 0 u<|qI 1 u u u<|zV (vb (y0.1==y1.1))<|zV (vb (y0.1==y1.1))<|qN<|
  yG 19 (vb ((r1 != 0)||(y0.1==y1.1))) u (by rw[hb1];rfl)<|qB (gv kk [900,1] d))<|λ_ k=>k<|zR u (jA 2 u<|qC<|qS<|qR u u kk [] d)<|jC<|zQ<|zG<|zY 0 u<|qI 1 u u u<|zK<|zR u (
  jA 1 u<|qC<|qS<|qR u u kk [] d)<|jC<|jA 1 u<|qC<|qR u u kk [] d
abbrev zWw:=@Cn.mk 57 0 _ @zQX
theorem zDf{y0:List zI}: zP qd prog 56 [sv p1 y0 c1,.func (.func 57) #[] #[]] [r_1] [Al qT 44 r_1 p1 c1 y0] (zAJ y0) λr K=>∀ r_2,K (.tuple #[]) [r_2] [Ar qT 44 r_2 p1 c1 (List.length y0) r]:=⟨call56,λA w0 r hm hO hF=>by
 have h:=zW2 (qd:=qd) Go.Proofs.Tryz.sort56 (uK.prod uK.bool uK.str) (te:=44) Tryz.isAgg44 Tryz.sizeOf44 zCZ 57 (enters_of func57 (by kernel_rfl) u) (λw x y n hn=>?_) hO hF.1.1 hm
 · change Calls prog 56 _ _ _ at h
   refine h.mono λe w' h=>?_
   cases e with
   | returned v=>obtain⟨r',rfl,h1,h2,h3,h4⟩:=h;exact λG k=>k r' ⟨rfl,h1,h2,⟨h3,h4.symm⟩,trivial⟩
   | panicked ch=>exact h
   | outgrown=>exact h
 · refine((zQX (qd:=True) (y0:=x) (y1:=y)).go [] w n hn (zZ.start (by simp)) trivial).mono λe w' h=>?_
   cases e with
   | returned v=>exact h _ λ⟨e1,q⟩=>⟨e1,q.e⟩
   | panicked ch=>exact h
   | outgrown=>exact h⟩
abbrev zHz:=@Cn.mk 56 0 _ @zDf
attribute [instance] zTw zWw zHz
theorem zRb{y0:List zI}: zP qd prog 18 [sv p1 y0 c1] [] [Rl qT p1 c1 y0] (zEi y0) λr K=>∀ p2 c2 r_1,K (sv p2 r c2) [r_1] [Al qT 44 r_1 p2 c2 r] :=
 zO call18 func18 u λX=>jA 1 u<|zG<|zA 1 u<|qW zId u (cq [0])<|λr1 _ k p2 c2 r_1=>k<|zA 1 u<|zK<|zG<|zA 1 u<|qD .s [0] [] zDf u u u (cq [0])<|λr2 _ k r_2=>k<|zK<|zG<|
  zA 1 u<|jrE 0 8 u u<|
 au
abbrev zZA:=@Cn.mk 18 0 _ @zRb
theorem zML{y0:List zF}{y1:List Int}: zP qd prog 49 [sv p1 y0 c1,sv p2 y1 c2] [] [Rl wB p1 c1 y0,Rl (zB .i64) p2 c2 y1] (zCC y0 y1) λr K=>∀ p3 c3,K (sv p3 r c3) [] [Rl qT p3 c3 r] :=
 zO call49 func49 u λX=>jA 1 u<|zG<|zA 1 u<|yU qT 44 <|zK<|
  jjn (λs1 K=>∀ p3 c3 r_1,K [(5,sv p3 s1 c3)] [r_1] [Al qT 44 r_1 p3 c3 s1]) (jA 3 u<|qA<|
  wO (λs2 K=>∀ p4 c4 r_2,K [0,8,9] [(0,r_2)] [1,2] [(5,sv p4 s2.1 c4),(10,vi s2.2)] [Al qT 44 r_2 p4 c4 s2.1]) (gv (λ_ k=>k none 0 []) [0] (gq [0,1,2]))<|
  λs2 _ k p4 c4 r_2=>k<|jA 1 u<|zQ<|zR u (jC<|zQ<|qA<|zG<|yD 2 u u u<|λx1 b1 o1=>yN false oI (gk 0) u<|zA 1 u<|zK<|zG<|zA 2 u<|qW zMW u (cq [2])<|λr1 _ k=>k<|zK<|zR u (wQ<|zA 3 u<|
  yD 2 u u u<|λx2 b2 o2=>zY 3 u<|yN true tA (gs (gs (gs (gk 0)))) u<|yH .s (e:=qT) 44 [vb x2.2.2.2.1,vs (a4 x2)] ([x2.2.2.2]:List zI) (rC (vP vB vS) rN)<|λp5 c5=>uB .s 0 3 u (gk 0) u u<|
  λx3 r_3 p6 c6=>zA 1 u<|qN<|wT<|qK<|jB 2 u<|vG (gv (λ_ k=>k p6 c6 r_3) [0] (gq [0,5,6])))<|vF<|wT<|qK<|jB 2 u<|vG (gv (λ_ k=>k p4 c4 r_2) [0] (gq [1,2,3])))<|yX<|yR<|yQ<|yV<|
  qB (gv (λ_ k=>k p4 c4 r_2) [0] (gq [0])))<|λs1 _ k p3 c3 r_1=>k<|zG<|zA 1 u<|uQ 0 0 u u<|qW zRb u (cq [0])<|λr2 _ k p7 c7 r_4=>k<|zA 1 u<|zK<|qC<|uQ 1 0 u u<|
  qR u u (λ_ k=>k p7 c7) [] (gq [0])
abbrev zRk:=@Cn.mk 49 0 _ @zML
attribute [instance] zZA zRk
theorem zF7:zP qd prog 166 [.func (.func 168) #[] #[]] [] [] (zFa) λr K=>∀ b1,K (.func (.func 243) #[] #[pt b1 0]) [bx b1 181 [.func (.func 168) #[] #[]]] [] :=
 zO call166 func166 u λX=>
 au
abbrev zLG:=@Cn.mk 166 0 _ @zF7
attribute [instance] zLG
theorem zFF:zP qd prog 166 [.func (.func 170) #[] #[]] [] [] (zFO) λr K=>∀ b1,K (.func (.func 243) #[] #[pt b1 0]) [bx b1 181 [.func (.func 170) #[] #[]]] [] :=
 zO call166 func166 u λX=>
 au
abbrev zKr:=@Cn.mk 166 1 _ @zFF
attribute [instance] zKr
theorem zGo:zP qd prog 166 [.func (.func 169) #[] #[]] [] [] (zGq) λr K=>∀ b1,K (.func (.func 243) #[] #[pt b1 0]) [bx b1 181 [.func (.func 169) #[] #[]]] [] :=
 zO call166 func166 u λX=>
 au
abbrev zMZ:=@Cn.mk 166 2 _ @zGo
attribute [instance] zMZ
theorem zHU:zP qd prog 166 [.func (.func 167) #[] #[]] [] [] (zHT) λr K=>∀ b1,K (.func (.func 243) #[] #[pt b1 0]) [bx b1 181 [.func (.func 167) #[] #[]]] [] :=
 zO call166 func166 u λX=>
 au
abbrev zMg:=@Cn.mk 166 3 _ @zHU
attribute [instance] zMg
theorem zHV:zP qd prog 166 [.func (.func 242) #[] #[pt b1 0]] [bx b1 222 [.func (.func 165) #[] #[]]] [] (zHX) λr K=>∀ b2,K (.func (.func 243) #[] #[pt b2 0]) [bx b1 222 [.func (.func 165) #[] #[]],bx b2 181 [.func (.func 242) #[] #[pt b1 0]]] [] :=
 zO call166 func166 u λX=>
 au
abbrev zMh:=@Cn.mk 166 4 _ @zHV
theorem zFn:zP qd prog 164 [.func (.func 165) #[] #[]] [] [] (zFq) λr K=>∀ b1 b2,K (.func (.func 243) #[] #[pt b1 0]) [bx b1 181 [.func (.func 242) #[] #[pt b2 0]],bx b2 222 [.func (.func 165) #[] #[]]] [] :=
 zO call164 func164 u λX=>zG<|wN .s u<|λb1=>zA 1 u<|zK<|zG<|zA 1 u<|qD .s [0] [] zHV u u u d<|λr1 _ k b2=>k<|zA 1 u<|zK<|qC<|qR u u (λ_ k=>k b2 b1) [1,0] d
abbrev zL1:=@Cn.mk 164 0 _ @zFn
attribute [instance] zMh zL1
theorem zGU:zP qd prog 166 [.func (.func 242) #[] #[pt b1 0]] [bx b1 222 [.func (.func 172) #[] #[]]] [] (zGS) λr K=>∀ b2,K (.func (.func 243) #[] #[pt b2 0]) [bx b1 222 [.func (.func 172) #[] #[]],bx b2 181 [.func (.func 242) #[] #[pt b1 0]]] [] :=
 zO call166 func166 u λX=>
 au
abbrev zMA:=@Cn.mk 166 5 _ @zGU
theorem zJQ:zP qd prog 164 [.func (.func 172) #[] #[]] [] [] (zJ2) λr K=>∀ b1 b2,K (.func (.func 243) #[] #[pt b1 0]) [bx b1 181 [.func (.func 242) #[] #[pt b2 0]],bx b2 222 [.func (.func 172) #[] #[]]] [] :=
 zO call164 func164 u λX=>zG<|wN .s u<|λb1=>zA 1 u<|zK<|zG<|zA 1 u<|qD .s [0] [] zGU u u u d<|λr1 _ k b2=>k<|zA 1 u<|zK<|qC<|qR u u (λ_ k=>k b2 b1) [1,0] d
abbrev zO9:=@Cn.mk 164 1 _ @zJQ
attribute [instance] zMA zO9
theorem zGT:zP qd prog 166 [.func (.func 242) #[] #[pt b1 0]] [bx b1 222 [.func (.func 171) #[] #[]]] [] (zGR) λr K=>∀ b2,K (.func (.func 243) #[] #[pt b2 0]) [bx b1 222 [.func (.func 171) #[] #[]],bx b2 181 [.func (.func 242) #[] #[pt b1 0]]] [] :=
 zO call166 func166 u λX=>
 au
abbrev zLr:=@Cn.mk 166 6 _ @zGT
theorem zJG:zP qd prog 164 [.func (.func 171) #[] #[]] [] [] (zJ0) λr K=>∀ b1 b2,K (.func (.func 243) #[] #[pt b1 0]) [bx b1 181 [.func (.func 242) #[] #[pt b2 0]],bx b2 222 [.func (.func 171) #[] #[]]] [] :=
 zO call164 func164 u λX=>zG<|wN .s u<|λb1=>zA 1 u<|zK<|zG<|zA 1 u<|qD .s [0] [] zGT u u u d<|λr1 _ k b2=>k<|zA 1 u<|zK<|qC<|qR u u (λ_ k=>k b2 b1) [1,0] d
abbrev zOJ:=@Cn.mk 164 2 _ @zJG
attribute [instance] zLr zOJ
theorem zR8:zP qd prog 105 [] [] [] (zNO) λr K=>∀ b1 b2 b3 b4 b5 b6 b7 b8 b9 b10 b11,K (.slice (some ⟨b1,0,none⟩) 10 10) [bx b1 181 [.nilFunc,.func (.func 243) #[] #[pt b2 0],.func (.func 243) #[] #[pt b4 0],.func (.func 243) #[] #[pt b5 0],.func (.func 243) #[] #[pt b6 0],.func (.func 243) #[] #[pt b7 0],.func (.func 243) #[] #[pt b8 0],.func (.func 243) #[] #[pt b10 0],.func (.func 173) #[] #[],.func (.func 174) #[] #[]],bx b2 181 [.func (.func 242) #[] #[pt b3 0]],bx b3 222 [.func (.func 165) #[] #[]],bx b4 181 [.func (.func 167) #[] #[]],bx b5 181 [.func (.func 168) #[] #[]],bx b6 181 [.func (.func 169) #[] #[]],bx b7 181 [.func (.func 170) #[] #[]],bx b8 181 [.func (.func 242) #[] #[pt b9 0]],bx b9 222 [.func (.func 171) #[] #[]],bx b10 181 [.func (.func 242) #[] #[pt b11 0]],bx b11 222 [.func (.func 172) #[] #[]]] [] :=
 zO call105 func105 u λX=>jA 1 u<|zG<|qW zFn u d<|λr1 _ k b1 b2=>k<|qW zHU u d<|λr2 _ k b3=>k<|qW zF7 u d<|λr3 _ k b4=>k<|
  qW zGo u d<|λr4 _ k b5=>k<|qW zFF u d<|λr5 _ k b6=>k<|qW zJG u d<|λr6 _ k b7 b8=>k<|qW zJQ u d<|
  λr7 _ k b9 b10=>k<|
  jbF .s 181 [.nilFunc,.func (.func 243) #[] #[pt b1 0],.func (.func 243) #[] #[pt b3 0],.func (.func 243) #[] #[pt b4 0],.func (.func 243) #[] #[pt b5 0],.func (.func 243) #[] #[pt b6 0],.func (.func 243) #[] #[pt b7 0],.func (.func 243) #[] #[pt b9 0],.func (.func 173) #[] #[],.func (.func 174) #[] #[]]<|
 au
abbrev zYr:=@Cn.mk 105 0 _ @zR8
theorem zOX{y0:Int}: zP qd prog 265 [.int .u64 y0] [] [Pt (vC 64 (zB .u8)) 4 0 vV] (zCQ y0) λr K=>K (vi r) [] [] :=
 zO call265 func265 u λX=>jA 1 u<|zQ<|jA 2 u<|zR u (
 au
)<|jC<|zG<|zA 5 u<|zV (.int .u64 (xM .u64 (IntKind.u64.wrap ((yI .u64 y0 (IntKind.u64.wrap (0-y0)))*285870213051353865)) 58))<|
  jgx (gk 0) u u<|
 au
abbrev zO7:=@Cn.mk 265 0 _ @zOX
attribute [instance] zYr zO7
theorem z5a{y0:Int}: zP qd prog 188 [.int .u64 y0] [] [Pt (vC 64 (zB .u8)) 4 0 vV] (zKt y0) λr K=>∀ p1 c1,K (sv p1 r c1) [] [Rl (zB .i64) p1 c1 r] :=
 zO call188 func188 u λX=>hR 3 0 (zB .i64) 3<|hI 0 2 2 (λ(s1:Int×(List Int)) K=>∀ p1 c1 r_1,K [] [(0,.r r_1)] [1] [(0,.int .u64 s1.1),(3,sv p1 s1.2 c1)] [Al (zB .i64) 3 r_1 p1 c1 s1.2])<|
 au
abbrev z5F:=@Cn.mk 188 0 _ @z5a
theorem z3R{y0:qE}: zP qd prog 189 [.agg (vQ y0 p1 c1).toArray] [] [Rl wE p1 c1 y0.2] (zJe y0) λr K=>∀ p2 c2,K (sv p2 r c2) [] [Rl (zB .u64) p2 c2 r] :=
 zO call189 func189 u λX=>zG<|wN .s u<|λb1=>zA 1 u<|zK<|zG<|zY 0 u<|qI 0 u u u<|jmk .s (e:=zB .u64) 235 (0:Int) (.int .u64 0) vI u u<|λx1 r_1 p2 c2=>zA 1 u<|zK<|zQ<|zG<|zY 1 u<|qI 0 u u u<|zA 2 u<|zK<|qA<|
  wO (λs1 K=>∀ r_2,K [10,11] [(0,[]),(1,r_2)] [1] [(3,.slice p2 (List.length x1) c2),(12,vi s1.2)] [Ar (zB .u64) 235 r_2 p2 c2 (List.length x1) s1.1]) (gv (λ_ k=>k r_1) [900,1] (gq [0,1]))<|
  λs1 _ k r_2=>k<|jA 1 u<|zQ<|zR u (jC<|zQ<|qA<|zG<|yD 1 u u u<|λx2 b2 o1=>yN true zXw (gk 0) u<|yB .s (.agg #[vi 0,vi 0])<|λb3=>wJ .s 2 u u u<|zK<|tM [10] [1,2] 11<|zW 10 [0] u<|
  qU 1 0 u u<|wV 2 2 u u u u<|jdI 3 1 u u u u<|λx3 h1 b4 o2 hp1=>tU 4 1 1 sI false oI u u hp1 h1 u<|qU 5 1 u u<|wV 6 2 u u u u<|tL λx4 h2=>jdv 7 u (λh=>z81 h u u h2)<|
  zW 2 [8] u<|jdI 9 1 u u u u<|λx5 h3 b5 o3 hp2=>qO 10<|jsA (.f u) 1 1 sI (bor .u64 x3 x4) false u hp2 h3 u u vI<|λr_3=>jdb [] [1,2]<|qY<|
 au
)<|yX<|
  yR<|yQ<|yV<|qK<|jA 2 u<|qC<|uQ 1 0 u u<|jre 0 2 u u<|
 au
abbrev z34:=@Cn.mk 189 0 _ @z3R
theorem zZm{y0:Int}: zP qd prog 149 [vi y0] [] [] (zLh y0) λr K=>K (vb r) [] [] :=
 zO call149 func149 u λX=>
 au
abbrev z0O:=@Cn.mk 149 0 _ @zZm
attribute [instance] z5F z34 z0O
theorem zX3{y0:Int}{y1:Int}: zP qd prog 95 [vi y0,vi y1] [] [] (zBB y0 y1) λr K=>K (vi r) [] [] :=
 zO call95 func95 u λX=>
 au
abbrev zWs:=@Cn.mk 95 0 _ @zX3
theorem z4E{y0:List Int}: zP qd prog 94 [sv p1 y0 c1] [] [Rl (zB .i64) p1 c1 y0] (zHW y0) λr K=>K (vi r) [] [] :=
 zO call94 func94 u λX=>hI 0 3 1 (λ(s1:Int) K=>K [3,6,7] [] [0] [(8,vi s1)] [])<|
 au
abbrev z5g:=@Cn.mk 94 0 _ @z4E
attribute [instance] zWs z5g
theorem zSz{y0:qG}{y1:qG}: zP qd prog 110 [.agg #[vi y0.1,vi y0.2],.agg #[vi y1.1,vi y1.2]] [] [] (zDZ y0 y1) λr K=>K (vi r) [] [] :=
 zO call110 func110 u λX=>hD 1 [] [0,1] (.l [0,1,2,3,5,6,7,8] (.f 4 (.f 9 (.f 10 (.f 11 (.l [12] .e))))))<|
 au
abbrev zZ1:=@Cn.mk 110 0 _ @zSz
attribute [instance] zZ1
theorem zNS{y0:qE}: zP qd prog 63 [.agg (vQ y0 p1 c1).toArray] [] [Rl wE p1 c1 y0.2] (zBD y0) λr K=>K (vi r) [] [] :=
 zO call63 func63 u λX=>zG<|wN .s u<|λb1=>zA 1 u<|zK<|zQ<|z1c (λK=>K [1] [] [0] [(12,vb ((decide (y0.1<0))||(decide (40<y0.1))))] []) (
 au
)<|λ_ k=>k<|zR u (
 au
)<|jC<|zQ<|zG<|zY 1 u<|qI 0 u u u<|zA 2 u<|zK<|qA<|wO (λs1 K=>K [1,14,15] [] [0] [(16,vi s1)] []) (gv kk [0] (gq [0]))<|
  λs1 _ k=>k<|jA 1 u<|zQ<|zR u (jC<|zQ<|qA<|zG<|zA 1 u<|yD 0 u u u<|λx1 b2 o1=>hD 8 [] [0,1] (.l [0,1,2] (.s 39 (.l [3,4,5,6,7,8,9] (.f 10 (.l [11,12] .e))) (.l [3,4,5,6,7,8,9,10,11,12] .e)))<|hP 4 6 0 (λK=>K [1,3,4,14,15,16] [] [1] [(36,vb ((decide ((if x1.2<x1.1 then x1.2 else x1.1)<0))||(decide (y0.1≤(if x1.2 > x1.1 then x1.2 else x1.1)))))] [])<|hI 1 8 0 (λ(s2:Bool) K=>K [1,14,15,16] [(1,.r [])] [0] [(49,vb s2)] [])<|
 au
)<|
 au
abbrev zZD:=@Cn.mk 63 0 _ @zNS
attribute [instance] zZD
theorem zPc{y0:qE}: zP qd prog 187 [.agg (vQ y0 p1 c1).toArray] [] [Rl wE p1 c1 y0.2] (zGO y0) λr K=>∀ p2 c2,K (.agg (vQ r p2 c2).toArray) [] [Rl wE p2 c2 r.2] :=
 zO call187 func187 u λX=>
 au
abbrev z1T:=@Cn.mk 187 0 _ @zPc
attribute [instance] z1T
theorem zNV{y0:qE}{y1:Int}: zP qd prog 112 [.agg (vQ y0 p1 c1).toArray,vi y1] [] [Rl wE p1 c1 y0.2,Pt (vC 64 (zB .u8)) 4 0 vV] (zDg y0 y1) λr K=>∀ p2 c2,K (sv p2 r c2) [] [Rl (zB .i64) p2 c2 r] :=
 zO call112 func112 u λX=>zG<|wN .s u<|λb1=>zA 1 u<|zK<|zG<|wU 0 2 u u u<|qW zPc u (cq [0])<|λr1 _ k p2 c2=>k<|hP 4 2 0 (λK=>K [1,2] [] [0,2] [(14,vb ((decide (y1<0))||(decide (r1.1≤y1))))] [])<|
 au
abbrev zY9:=@Cn.mk 112 0 _ @zNV
theorem zXE{y0:Int}{y1:Int}: zP qd prog 264 [.int .u64 y0,.int .u64 y1] [] [] (zQE y0 y1) λr K=>K (.tuple #[.int .u64 r.1,.int .u64 r.2]) [] [] :=
 zO call264 func264 u λX=>jA 2 u<|jA 3 u<|zG<|zA 1 u<|zV (.int .u64 (xM .u64 y0 32))<|zA 1 u<|zK<|jA 3 u<|zG<|zA 1 u<|zV (.int .u64 (xM .u64 y1 32))<|zA 1 u<|zK<|jA 4 u<|zG<|zA 4 u<|
  zV (.int .u64 (xM .u64 (IntKind.u64.wrap ((yI .u64 y0 4294967295)*(yI .u64 y1 4294967295))) 32))<|zA 2 u<|zK<|jA 3 u<|zG<|zA 1 u<|
  zV (.int .u64 (xM .u64 (IntKind.u64.wrap ((IntKind.u64.wrap ((xM .u64 y0 32)*(yI .u64 y1 4294967295)))+(xM .u64 (IntKind.u64.wrap ((yI .u64 y0 4294967295)*(yI .u64 y1 4294967295))) 32))) 32))<|zA 1 u<|zK<|jA 6 u<|zG<|
  zA 6 u<|
  zV (.int .u64 (xM .u64 (IntKind.u64.wrap ((yI .u64 (IntKind.u64.wrap ((IntKind.u64.wrap ((xM .u64 y0 32)*(yI .u64 y1 4294967295)))+(xM .u64 (IntKind.u64.wrap ((yI .u64 y0 4294967295)*(yI .u64 y1 4294967295))) 32))) 4294967295)+(IntKind.u64.wrap ((yI .u64 y0 4294967295)*(xM .u64 y1 32))))) 32))<|
 au
abbrev zWt:=@Cn.mk 264 0 _ @zXE
attribute [instance] zY9 zWt
theorem zSq{y0:Int}{y1:Int}: zP qd prog 186 [.int .u64 y0,.int .u64 y1] [] [] (zOi y0 y1) λr K=>K (.tuple #[.int .u64 r.1,.int .u64 r.2]) [] [] :=
 zO call186 func186 u λX=>
 au
abbrev z0T:=@Cn.mk 186 0 _ @zSq
attribute [instance] z0T
theorem zFD{y0:List Int}{y1:Int}: zP qd prog 111 [sv p1 y0 c1,vi y1] [] [Rl (zB .i64) p1 c1 y0] (zDB y0 y1) λr K=>∀ p2 c2 r_1,K (sv p2 r c2) [r_1] [Al (zB .i64) 3 r_1 p2 c2 r] :=
 zO call111 func111 u λX=>jA 1 u<|wF (λs1 K=>K [0,1] [] [0] [] []) (jA 2 u<|zR u (wQ<|jno)<|
 au
)<|λs1 _ k=>k<|zG<|zA 2 u<|zV (.int .u64 (IntKind.u64.wrap (len y0)))<|
  zA 1 u<|zV (.int .u64 (IntKind.u64.wrap (y1)))<|qW zSq u d<|λr1 _ k=>k<|zA 5 u<|zK<|wF (λs2 K=>K [0,6] [] [0] [] []) (
  z1c (λK=>K [0,6] [] [0] [(26,vb ((decide (0<r1.1))||(decide (9223372036854775807<r1.2))))] []) (
 au
)<|λ_ k=>k<|zR u (wQ<|jno)<|
 au
)<|λs2 _ k=>k<|zG<|zA 1 u<|zV (vi (zH (r1.2)))<|jmk .s (e:=zB .i64) 3 (0:Int) (vi 0) vI u u<|λx1 r_1 p2 c2=>zA 1 u<|zK<|zG<|zA 2 u<|
  jcp .s 0 0 u (vwW 0 u) (srR (gk 1)) u u<|λr_2=>zA 1 u<|zK<|zQ<|qA<|
  wO (λs3 K=>∀ r_3,K [7] [(0,r_3)] [] [(8,vi s3.2)] [Ar (zB .i64) 3 r_3 p2 c2 (List.length x1) s3.1]) (gv (λ_ k=>k r_2) [0] (gq [0]))<|
  λs3 _ k r_3=>k<|zQ<|jA 4 u<|zR u (jC<|qA<|tM [] [] 10<|zW 7 [0,1,2] u<|jdV 3 0 u u u u<|λu1 p3 c3 f1=>zW 4 [4,5] u<|jdW 6 0 u u u u<|λx2=>qO 7<|
  jcp (.f u) 0 1 u (vwV f1) (srA 0 0 u) u u<|λr_4=>qM<|zW 0 [8,9] u<|qY<|
 au
)<|yX<|yR<|yQ<|yV<|qK<|jA 2 u<|qC<|jrE 0 4 u u<|
 au
abbrev zUY:=@Cn.mk 111 0 _ @zFD
attribute [instance] zUY
set_option maxHeartbeats 2000000 in
theorem zYh{y0:qE}: zP qd prog 64 [.agg (vQ y0 p1 c1).toArray] [] [Rl wE p1 c1 y0.2,Pt (vC 64 (zB .u8)) 4 0 vV] (zEd y0) λr K=>∀ p2 c2 p3 c3,K (.tuple #[sv p2 r.1 c2,sv p3 r.2 c3]) [] [Rl (zB .i64) p2 c2 r.1,Rl (zB .i64) p3 c3 r.2] :=
 zO call64 func64 u λX=>zG<|wN .s u<|λb1=>zA 2 u<|zK<|
  wF (λs1 K=>∀ p2 c2 r_1 p3 c3 r_2,K [1] [(1,r_1),(2,r_2)] [0,1] [(2,sv p2 s1.1 c2),(3,sv p3 s1.2 c3)] [Al (zB .i64) 3 r_1 p2 c2 s1.1,Al (zB .i64) 3 r_2 p3 c3 s1.2]) (
  tM [] [0] 9<|qU 1 0 u u<|wV 2 0 u u u u<|qU 4 0 u u<|wV 5 0 u u u u<|jd2 0 6 (yH (.f u) (e:=zB .i64) 3 [vi 3] ([3]:List Int) (rC vI rN)<|λp4 c4=>qM<|jd2 3 6 (
  qD (.f u) [] [] zFD u u u (cq [0])<|λr1 _ k p5 c5 r_3=>k<|qM<|zW 2 [7] u<|qO 6<|jmk (.f u) (e:=zB .i64) 3 (0:Int) (vi 0) vI u u<|λx1 r_4 p6 c6=>qM<|zW 0 [8] u<|qY<|
 au
) <|jcm<|jmk (.f u) (e:=zB .i64) 3 (0:Int) (vi 0) vI u u<|λx2 r_5 p7 c7=>qM<|qO 3<|qD (.f u) [] [] zFD u u u (cq [1])<|
  λr2 _ k p8 c8 r_6=>k<|qM<|zW 0 [7,8] u<|qY<|
 au
) <|jcm<|jmk (.f u) (e:=zB .i64) 3 (0:Int) (vi 0) vI u u<|λx3 r_7 p9 c9=>qM<|qO 0<|
  yH (.f u) (e:=zB .i64) 3 [vi 3] ([3]:List Int) (rC vI rN)<|λp10 c10=>qM<|qO 3<|qD (.f u) [] [] zFD u u u (cq [0])<|λr3 _ k p11 c11 r_8=>k<|qM<|zW 0 [7,8] u<|qY<|
 au
)<|λs1 _ k p2 c2 r_1 p3 c3 r_2=>k<|zG<|jalA .s (uF [] 40 (List.replicate 40 (0:Int)) [])<|λb2=>zK<|
  wF (λs2 K=>K [1,2,3,4] [(3,bx b2 187 (uF [] 40 s2 []))] [0,1,2,3] [] []) (zG<|zY 1 u<|qI 0 u u u<|zA 2 u<|zK<|qA<|
  wO (λs3 K=>K [1,2,3,4,27,28] [(3,bx b2 187 (uF [] 40 s3.2 []))] [0,1,2,3] [(29,vi s3.1)] []) (gv kk [0,1,2,3] (gq [0,1,2,3]))<|λs3 _ k=>k<|jA 1 u<|zQ<|zR u (jC<|zQ<|qA<|zG<|yD 2 u u u<|λx4 b3 o1=>
  yN true zXw (gk 0) u<|yB .s (.agg #[vi 0,vi 0])<|λb4=>wJ .s 4 u u u<|zK<|wQ<|zY 1 u<|qI 4 u u u<|jiL 40 u u<|λu1 h1=>jlL 3 40 s3.2 [] [] h1 u u<|zA 1 u<|jiL 40 u u<|λu2 h2=>
  jsL (zH ((yS s3.2 x4.2)+1)) .s 3 40 s3.2 [] [] h2 u u u<|
 au
)<|
 au
)<|λs2 _ k=>k<|zG<|
  zA 1 u<|yU (zB .i64) 3 <|zK<|
  wF (λs4 K=>∀ p12 c12 r_9,K [1,2,3,4] [(4,r_9)] [1,2,3,4] [(7,sv p12 s4 c12)] [Al (zB .i64) 3 r_9 p12 c12 s4]) (
  zG<|zY 0 u<|qI 0 u u u<|zA 1 u<|zK<|qA<|
  wO (λs5 K=>∀ p13 c13 r_10,K [1,2,3,4,41] [(4,r_10)] [1,2,3,4] [(7,sv p13 s5.1 c13),(42,vi s5.2)] [Al (zB .i64) 3 r_10 p13 c13 s5.1]) (gv (λ_ k=>k none 0 []) [0,1,2,3,4] (gq [0,1,2,3,4]))<|
  λs5 _ k p13 c13 r_10=>k<|jA 1 u<|zQ<|zR u (jC<|zQ<|qA<|jA 2 u<|zG<|zA 1 u<|jiL 40 u u<|λu3 h3=>jlL 3 40 s2 [] [] h3 u u<|
 au
)<|
 au
)<|λs4 _ k p12 c12 r_9=>k<|zQ<|jA 1 u<|qA<|
  wO (λs6 K=>∀ r_12 r_13 p16 c16 r_14,K [1,4] [(1,r_12),(2,r_13),(3,bx b2 187 (uF [] 40 (a4 s6) [])),(4,r_14)] [3,4] [(2,.slice p2 (List.length s1.1) c2),(3,.slice p3 (List.length s1.2) c3),(7,sv p16 s6.2.2.1 c16),(9,vi s6.2.2.2.1)] [Ar (zB .i64) 3 r_12 p2 c2 (List.length s1.1) s6.1,Ar (zB .i64) 3 r_13 p3 c3 (List.length s1.2) s6.2.1,Al (zB .i64) 3 r_14 p16 c16 s6.2.2.1]) (gv (λ_ k=>k r_1 r_2 p12 c12 r_9) [0,1,2,3,4] (gq [1,2,0,3,4]))<|
  λs6 _ k r_12 r_13 p16 c16 r_14=>k<|zQ<|jA 3 u<|zR u (jC<|zQ<|qA<|
  wF (λs7 K=>∀ r_15 r_16,K [1,2,3,4,7,9] [(1,r_15),(2,r_16)] [2,3,4] [] [Ar (zB .i64) 3 r_15 p2 c2 (List.length s1.1) s7.1,Ar (zB .i64) 3 r_16 p3 c3 (List.length s1.2) s7.2]) (hI 0 19 1 (λ(s8:(List Int)×(List Int)×Int) K=>∀ r_17 r_18,K [1,2,3,4,7,9,59,60] [(1,.r r_17),(2,.r r_18)] [2,3,4] [(61,vi s8.2.2)] [Ar (zB .i64) 3 r_17 p2 c2 (List.length s1.1) s8.1,Ar (zB .i64) 3 r_18 p3 c3 (List.length s1.2) s8.2.1])<|
 au
)<|λs7 _ k r_15 r_16=>k<|zG<|zA 1 u<|yU (zB .i64) 3 <|zK<|zQ<|jA 3 u<|
  qA<|
  wO (λs9 K=>∀ r_21 r_22 p17 c17 r_23,K [1,2,3,4,9,73,74] [(1,r_21),(2,r_22),(3,bx b2 187 (uF [] 40 (a4 s9) [])),(5,r_23)] [3,4,5] [(12,sv p17 s9.2.2.1 c17),(75,vi s9.2.2.2.1)] [Ar (zB .i64) 3 r_21 p2 c2 (List.length s1.1) s9.1,Ar (zB .i64) 3 r_22 p3 c3 (List.length s1.2) s9.2.1,Al (zB .i64) 3 r_23 p17 c17 s9.2.2.1]) (gv (λ_ k=>k r_15 r_16 none 0 []) [0,1,2,3,4,5] (gq [1,2,0,3,4,5]))<|
  λs9 _ k r_21 r_22 p17 c17 r_23=>k<|jA 1 u<|zQ<|zR u (jC<|zQ<|qA<|zG<|jia 3 u u u<|λx9 h8 b8 o5 hp4=>jlA 4 3 sI false oI u hp4 h8 u<|zA 1 u<|zK<|zG<|wU 0 2 u u u<|zA 1 u<|
  qW zNV u (cq [4,5])<|λr4 _ k p18 c18=>k<|zA 2 u<|zK<|qA<|
  wO (λs10 K=>∀ r_24 r_25 p19 c19 r_26,K [1,2,3,4,9,73,74,75,81,82] [(1,r_24),(2,r_25),(3,bx b2 187 (uF [] 40 (a4 s10) [])),(5,r_26)] [4,0,5,6] [(12,sv p19 s10.2.2.1 c19),(83,vi s10.2.2.2.1)] [Ar (zB .i64) 3 r_24 p2 c2 (List.length s1.1) s10.1,Ar (zB .i64) 3 r_25 p3 c3 (List.length s1.2) s10.2.1,Al (zB .i64) 3 r_26 p19 c19 s10.2.2.1]) (gv (λ_ k=>k r_21 r_22 p17 c17 r_23) [0,1,2,3,4,5] (gq [1,2,3,4,0,5,6]))<|
  λs10 _ k r_24 r_25 p19 c19 r_26=>k<|jA 1 u<|zQ<|zR u (jC<|zQ<|qA<|zG<|yD 4 u u u<|λx10 b9 o6=>yN false oI (gk 0) u<|zA 1 u<|zK<|zQ<|zG<|zA 2 u<|jia 1 u u u<|λx11 h9 b10 o7 hp5=>
  jlA 1 1 sI false oI u hp5 h9 u<|zA 1 u<|zK<|zR u (
 au
)<|jC<|zG<|zA 5 u<|jia 1 u u u<|λx12 h10 b11 o8 hp6=>
  jsA .s 1 1 sI 2 false u hp6 h10 u u vI<|λr_27=>jia 3 u u u<|λx13 h11 b12 o9 hp7=>jsA .s 2 3 sI s6.2.2.2.1 false u hp7 h11 u u vI<|λr_28=>zK<|zG<|wU 0 2 u u u<|zA 1 u<|
  qW zNV u (cq [8,9])<|λr5 _ k p20 c20=>k<|zA 2 u<|zK<|qA<|
  wO (λs11 K=>∀ p21 c21 r_29,K [1,2,3,4,9,73,74,75,81,82,83,101,102] [(3,bx b2 187 (uF [] 40 s11.2.2 [])),(5,r_29)] [2,1,7,8,0,9,10] [(12,sv p21 s11.1 c21),(103,vi s11.2.1)] [Al (zB .i64) 3 r_29 p21 c21 s11.1]) (gv (λ_ k=>k p19 c19 r_26) [0,1,2,3,4,5] (gq [6,2,1,7,8,0,9,10]))<|
  λs11 _ k p21 c21 r_29=>k<|jA 1 u<|zQ<|zR u (jC<|zQ<|qA<|zG<|yD 5 u u u<|λx14 b13 o10=>yN false oI (gk 0) u<|zA 1 u<|zK<|zG<|zA 1 u<|jiL 40 u u<|λu4 h12=>jlL 3 40 s11.2.2 [] [] h12 u u<|zA 1 u<|
  jiL 40 u u<|λu5 h13=>jsL (zH ((yS s11.2.2 x14)-1)) .s 3 40 s11.2.2 [] [] h13 u u u<|zK<|
  wF (λs12 K=>K [1,2,3,4,9,12,18,73,74,75,81,82,83,101,102,103] [] [2,3,1,4,5,6,7,8] [(122,vb s12)] []) (wQ<|zA 1 u<|
  jiL 40 u u<|λu6 h14=>jlL 3 40 (tD 40 s11.2.2 x14 (zH ((yS s11.2.2 x14)-1))) [] [] h14 u u<|
 au
)<|
 au
)<|
 au
)<|
 au
)<|
 au
)<|
  yX<|yR<|yQ<|yV<|qK<|jA 4 u<|qC<|uQ 1 0 u u<|uQ 2 2 u u<|jre 1 2 u u<|jre 1 3 u u<|
 au
abbrev zYy:=@Cn.mk 64 0 _ @zYh
attribute [instance] zYy
theorem zRY{y0:qE}: zP qd prog 26 [.agg (vQ y0 p1 c1).toArray] [] [Rl wE p1 c1 y0.2,Pt (vC 64 (zB .u8)) 4 0 vV] (zDb y0) λr K=>∀ p2 c2,K (sv p2 r c2) [] [Rl (zB .i64) p2 c2 r] :=
 zO call26 func26 u λX=>
 au
abbrev zYY:=@Cn.mk 26 0 _ @zRY
attribute [instance] zYY
theorem zW3{y0:qE}: zP qd prog 165 [.agg (vQ y0 p1 c1).toArray] [] [Rl wE p1 c1 y0.2,Pt (vC 64 (zB .u8)) 4 0 vV] (zGB y0) λr K=>∀ p2 c2,K (.tuple #[sv p2 r.1 c2,vi r.2]) [] [Rl (zB .i64) p2 c2 r.1] :=
 zO call165 func165 u λX=>
 au
abbrev zWL:=@Cn.mk 165 0 _ @zW3
attribute [instance] zWL
theorem zKk{y0:qE}: wR qd prog 242 [.agg (vQ y0 p1 c1).toArray,pt b1 0] [bx b1 222 [.func (.func 165) #[] #[]]] [Rl wE p1 c1 y0.2,Pt (vC 64 (zB .u8)) 4 0 vV] (zA5 y0) λL r K=>∀ p2 c2,K (.tuple #[sv p2 r.1 c2,vi r.2]) L [Rl (zT (zB .i64)) p2 c2 r.1] :=
 zO call242 func242 u λX=>
 au
abbrev zKn:=@Cn.mk 242 0 _ @zKk
theorem zK6{y0:List Int}{y1:Int}: zP qd prog 50 [sv p1 y0 c1,vi y1] [] [Rl (zB .i64) p1 c1 y0] (zAl y0 y1) λr K=>∀ p2 c2,K (sv p2 r c2) [] [Rl (zB .i64) p2 c2 r] :=
 zO call50 func50 u λX=>hR 5 0 (zB .i64) 3<|hI 0 3 1 (λ(s1:(List Int)×Int) K=>∀ p2 c2 r_1,K [1,8,9] [(0,.r r_1)] [1] [(5,sv p2 s1.1 c2),(10,vi s1.2)] [Al (zB .i64) 3 r_1 p2 c2 s1.1])<|
 au
abbrev zYZ:=@Cn.mk 50 0 _ @zK6
attribute [instance] zKn zYZ
theorem zGW{y0:qE}: wR qd prog 243 [.agg (vQ y0 p1 c1).toArray,pt b1 0] [bx b1 181 [.func (.func 242) #[] #[pt b2 0]],bx b2 222 [.func (.func 165) #[] #[]]] [Rl wE p1 c1 y0.2,Pt (vC 64 (zB .u8)) 4 0 vV] (zAu y0) λL r K=>∀ p2 c2,K (.tuple #[sv p2 r.1 c2,vi r.2]) L [Rl (zT (zB .i64)) p2 c2 r.1] :=
 zO call243 func243 u λX=>hR 7 3 (zT (zB .i64)) 22<|hI 0 6 1 (λ(s1:(List (List Int))×Int) K=>∀ p3 c3 r_1,K [19,20] [(2,.r []),(3,.r r_1)] [1,3] [(7,sv p3 s1.1 c3),(21,vi s1.2)] [Al (zT (zB .i64)) 22 r_1 p3 c3 s1.1])<|
 au
abbrev zLz:=@Cn.mk 243 0 _ @zGW
theorem zV4{y0:qE}{y1:List Int}: zP qd prog 304 [.agg (vQ y0 p1 c1).toArray,sv p2 y1 c2] [] [Rl wE p1 c1 y0.2,Rl (zB .i64) p2 c2 y1] (zIl y0 y1) λr K=>K (vb r) [] [] :=
 zO call304 func304 u λX=>hI 0 2 1 (λ(s1:Int) K=>K [1,2,7,8] [] [1,0] [(9,vi s1)] [])<|hI 1 4 0 (λ(s2:Bool) K=>K [1,2,7,8,9] [] [1,2] [(34,vb s2)] [])<|
 au
abbrev zVX:=@Cn.mk 304 0 _ @zV4
theorem zSF{y0:qE}{y1:Int}: zP qd prog 307 [.agg (vQ y0 p1 c1).toArray,.int .u64 y1] [] [Rl wE p1 c1 y0.2] (zDP y0 y1) λr K=>K (.int .u64 r) [] [] :=
 zO call307 func307 u λX=>zG<|wN .s u<|λb1=>zA 1 u<|zK<|jA 1 u<|zQ<|zG<|zY 1 u<|qI 0 u u u<|zA 2 u<|zK<|qA<|
  wO (λs1 K=>K [1,9,10] [(0,[])] [0] [(5,.int .u64 s1.1),(11,vi s1.2)] []) (gv kk [900] (gq [0]))<|λs1 _ k=>k<|jA 1 u<|zQ<|
  zR u (jC<|zQ<|qA<|zG<|yD 0 u u u<|λx1 b2 o1=>yN true zXw (gk 0) u<|yB .s (.agg #[vi 0,vi 0])<|λb3=>wJ .s 1 u u u<|zK<|tM [] [1] 11<|zW 9 [0,1] u<|qU 2 0 u u<|
  wV 3 1 u u u u<|tL λx2 h1=>jdv 4 u (λh=>r_shrK h u u h1)<|zW 5 [5] u<|qU 6 1 u u<|wV 7 1 u u u u<|tL λx3 h2=>jdv 8 u (λh=>z81 h u u h2)<|zW 0 [9,10] u<|qY<|
 au
)<|
 au
abbrev zSL:=@Cn.mk 307 0 _ @zSF
attribute [instance] zLz zVX zSL
theorem zX5{y0:qE}{y1:Int}: zP qd prog 335 [.agg (vQ y0 p1 c1).toArray,.int .u64 y1] [] [Rl wE p1 c1 y0.2] (zJ6 y0 y1) λr K=>K (vb r) [] [] :=
 zO call335 func335 u λX=>
 au
abbrev zWj:=@Cn.mk 335 0 _ @zX5
theorem zX4{y0:Int}: zP qd prog 305 [.int .u64 y0] [] [Pt (vC 64 (zB .u8)) 4 0 vV] (zJu y0) λr K=>∀ p1 c1,K (sv p1 r c1) [] [Rl (zB .i64) p1 c1 r] :=
 zO call305 func305 u λX=>hR 3 0 (zB .i64) 3<|hI 0 2 2 (λ(s1:Int×(List Int)) K=>∀ p1 c1 r_1,K [] [(0,.r r_1)] [1] [(0,.int .u64 s1.1),(3,sv p1 s1.2 c1)] [Al (zB .i64) 3 r_1 p1 c1 s1.2])<|
 au
abbrev zXO:=@Cn.mk 305 0 _ @zX4
theorem zX6{y0:List Int}: zP qd prog 306 [sv p1 y0 c1] [] [Rl (zB .i64) p1 c1 y0] (zJl y0) λr K=>K (.int .u64 r) [] [] :=
 zO call306 func306 u λX=>jA 1 u<|jA 1 u<|zQ<|jA 3 u<|qA<|wO (λs1 K=>K [6,7] [] [0] [(3,.int .u64 s1.1),(8,vi s1.2)] []) (gv kk [] (gq [0]))<|λs1 _ k=>k<|jA 1 u<|
  zQ<|zR u (jC<|zQ<|qA<|zG<|yD 0 u u u<|λx1 b1 o1=>yN false oI (gk 0) u<|zA 1 u<|zK<|wQ<|zA 2 u<|tL λx2 h1=>jv (λh=>z81 h u u h1)<|
 au
)<|
 au
abbrev zXN:=@Cn.mk 306 0 _ @zX6
theorem zWb{y0:qE}: zP qd prog 371 [.agg (vQ y0 p1 c1).toArray] [] [Rl wE p1 c1 y0.2] (zLl y0) λr K=>K (.int .u64 r) [] [] :=
 zO call371 func371 u λX=>zG<|wN .s u<|λb1=>zA 1 u<|zK<|zG<|zY 0 u<|qI 0 u u u<|tL λx1 h1=>jv (λh=>z81 h u u h1)<|
 au
abbrev zWB:=@Cn.mk 371 0 _ @zWb
attribute [instance] zWj zXO zXN zWB
theorem zX0{y0:qE}{y1:Int}: zP qd prog 338 [.agg (vQ y0 p1 c1).toArray,.int .u64 y1] [] [Rl wE p1 c1 y0.2] (zJv y0 y1) λr K=>K (.int .u64 r) [] [] :=
 zO call338 func338 u λX=>hD 1 [] [0] (.l [0,2,3,5,6] (.f 1 (.f 4 (.f 7 (.l [8] (.f 9 (.l [10,11] .e)))))))<|
 au
abbrev zWv:=@Cn.mk 338 0 _ @zX0
attribute [instance] zWv
theorem zSg{y0:Int}{y1:qE}: wR qd prog 337 [.int .u64 y0,pt b1 0] [bx b1 34 (vQ y1 p1 c1)] [Rl wE p1 c1 y1.2] (zGE y0 y1) λL r K=>K (.int .u64 r) L [] :=
 zO call337 func337 u λX=>
 au
abbrev zSM:=@Cn.mk 337 0 _ @zSg
attribute [instance] zSM
theorem zJW{y0:Int}{y1:qE}: wR qd prog 336 [.int .u64 y0,.func (.func 337) #[] #[pt b1 0]] [bx b1 34 (vQ y1 p1 c1)] [Rl wE p1 c1 y1.2] (zB0 y0 y1) λL r K=>K (.int .u64 r) L [] :=
 zO call336 func336 u λX=>hI 0 1 2 (λ(s1:Int) K=>K [1] [] [0] [(0,.int .u64 s1)] [])<|
 au
abbrev zJ3:=@Cn.mk 336 0 _ @zJW
attribute [instance] zJ3
theorem zVG{y0:qE}{y1:List Int}: zP qd prog 299 [.agg (vQ y0 p1 c1).toArray,sv p2 y1 c2] [] [Rl wE p1 c1 y0.2,Rl (zB .i64) p2 c2 y1,Pt (vC 64 (zB .u8)) 4 0 vV] (zFK y0 y1) λr K=>∀ p3 c3,K (.tuple #[sv p3 r.1 c3,vi r.2]) [] [Rl (zB .i64) p3 c3 r.1] :=
 zO call299 func299 u λX=>
 au
abbrev zUq:=@Cn.mk 299 0 _ @zVG
theorem z1M{y0:List Int}{y1:Int}: zP qd prog 373 [sv p1 y0 c1,vi y1] [] [Rl (zB .i64) p1 c1 y0] (zUG y0 y1) λr K=>K (vb r) [] [] :=
 zO call373 func373 u λX=>hI 1 1 0 (λ(s1:Bool) K=>K [] [] [] [(4,vb s1)] [])<|
 au
abbrev z1K:=@Cn.mk 373 0 _ @z1M
attribute [instance] zUq z1K
theorem zXc{y0:List Int}{y1:Int}: wR qd prog 372 [sv p1 y0 c1,pt b1 0] [bx b1 3 [vi y1]] [Rl (zB .i64) p1 c1 y0] (zQ4 y0 y1) λL r K=>K (vb r) L [] :=
 zO call372 func372 u λX=>
 au
abbrev zWq:=@Cn.mk 372 0 _ @zXc
attribute [instance] zWq
theorem zJU{y0:List (List Int)}{y1:Int}: wR qd prog 272 [sv p1 y0 c1,.func (.func 372) #[] #[pt b1 0]] [bx b1 3 [vi y1]] [Rl (zT (zB .i64)) p1 c1 y0] (zBY y0 y1) λL r K=>K (vi r) L [] :=
 zO call272 func272 u λX=>hI 0 2 1 (λ(s1:Int) K=>K [0,1,7] [] [0] [(8,vi s1)] [])<|
 au
abbrev zJP:=@Cn.mk 272 0 _ @zJU
attribute [instance] zJP
theorem zHu{y0:List (List Int)}{y1:Int}: wR qd prog 202 [sv p1 y0 c1,.func (.func 372) #[] #[pt b1 0]] [bx b1 3 [vi y1]] [Rl (zT (zB .i64)) p1 c1 y0] (zBH y0 y1) λL r K=>K (vb r) L [] :=
 zO call202 func202 u λX=>
 au
abbrev zIN:=@Cn.mk 202 0 _ @zHu
attribute [instance] zIN
theorem z0j{y0:List (List Int)}{y1:Int}: zP qd prog 339 [sv p1 y0 c1,vi y1] [] [Rl (zT (zB .i64)) p1 c1 y0] (zLX y0 y1) λr K=>K (vb r) [] [] :=
 zO call339 func339 u λX=>
 au
abbrev zZ4:=@Cn.mk 339 0 _ @z0j
attribute [instance] zZ4
theorem z2X{y0:List (List Int)}: zP qd prog 300 [sv p1 y0 c1] [] [Rl (zT (zB .i64)) p1 c1 y0] (zLS y0) λr K=>∀ p2 c2,K (sv p2 r c2) [] [Rl (zB .i64) p2 c2 r] :=
 zO call300 func300 u λX=>hR 3 0 (zB .i64) 3<|hI 0 5 1 (λ(s1:(List Int)×Int) K=>∀ p3 c3 r_1,K [0,11] [(0,.r r_1)] [3] [(3,sv p3 s1.1 c3),(12,vi s1.2)] [Al (zB .i64) 3 r_1 p3 c3 s1.1])<|
 au
abbrev z3Y:=@Cn.mk 300 0 _ @z2X
theorem zEp{y0:List qG}: zP qd prog 92 [sv p1 y0 c1,.func (.func 110) #[] #[]] [r_1] [Al wE 165 r_1 p1 c1 y0] (zAs y0) λr K=>∀ r_2,K (.tuple #[]) [r_2] [Ar wE 165 r_2 p1 c1 (List.length y0) r]:=⟨call92,λA w0 r hm hO hF=>by
 have h:=zW2 (qd:=qd) Go.Proofs.Tryz.sort92 (uK.prod (uK.int .i64) (uK.int .i64)) (te:=165) Tryz.isAgg165 Tryz.sizeOf165 zDZ 110 (enters_of func110 (by kernel_rfl) u) (λw x y n hn=>?_) hO hF.1.1 hm
 · change Calls prog 92 _ _ _ at h
   refine h.mono λe w' h=>?_
   cases e with
   | returned v=>obtain⟨r',rfl,h1,h2,h3,h4⟩:=h;exact λG k=>k r' ⟨rfl,h1,h2,⟨h3,h4.symm⟩,trivial⟩
   | panicked ch=>exact h
   | outgrown=>exact h
 · refine((zSz (qd:=True) (y0:=x) (y1:=y)).go [] w n hn (zZ.start (by simp)) trivial).mono λe w' h=>?_
   cases e with
   | returned v=>exact h _ λ⟨e1,q⟩=>⟨e1,q.e⟩
   | panicked ch=>exact h
   | outgrown=>exact h⟩
abbrev zKO:=@Cn.mk 92 0 _ @zEp
attribute [instance] z3Y zKO
theorem z0M{y0:qE}: zP qd prog 190 [.agg (vQ y0 p1 c1).toArray] [] [Rl wE p1 c1 y0.2] (zGc y0) λr K=>∀ p2 c2,K (.agg (vQ r p2 c2).toArray) [] [Rl wE p2 c2 r.2] :=
 zO call190 func190 u λX=>zG<|wN .s u<|λb1=>yB .s (.agg k5)<|λb2=>zK<|zG<|wU 0 2 u u u<|qW zPc u (cq [0])<|λr1 _ k p2 c2=>k<|wJ .s 0 u u u<|zK<|zG<|zY 0 u<|qI 0 u u u<|
  zV (.agg #[vi r1.1,.slice none 0 0])<|yU wE 165<|yB .s (.agg k5)<|λb3=>wJ .s 3 u u u<|zK<|
  wF (λs1 K=>∀ p3 c3 r_1,K [2,3] [(0,[]),(2,r_1),(3,bx b3 34 [vi r1.1,sv p3 s1 c3])] [] [] [Al wE 165 r_1 p3 c3 s1]) (hI 0 4 1 (λ(s2:Int×(List qG)) K=>∀ p4 c4 r_2,K [2,3,12,13] [(0,.r []),(2,.r r_2),(3,.c [(1,sv p4 s2.2 c4)])] [1] [(14,vi s2.1)] [Al wE 165 r_2 p4 c4 s2.2])<|
 au
)<|λs1 _ k p3 c3 r_1=>k<|zG<|zY 1 u<|
  qI 3 u u u<|qD .s [2] [] zEp u u u (cq [0])<|λr2 _ k r_4=>k<|zK<|zG<|jbL (λq_=>[[],bx b2 34 [vi 0,.slice none 0 0],r_4,bx b3 34 [vi r1.1,.slice p3 q_ c3]]) (gk 0) u<|
 au
abbrev z0K:=@Cn.mk 190 0 _ @z0M
attribute [instance] z0K
theorem zGi{y0:qE}{y1:Int}: zP qd prog 113 [.agg (vQ y0 p1 c1).toArray,vi y1] [] [Rl wE p1 c1 y0.2,Pt (vC 64 (zB .u8)) 4 0 vV] (zC4 y0 y1) λr K=>∀ p2 c2,K (sv p2 r c2) [] [Rl (zB .i64) p2 c2 r] :=
 zO call113 func113 u λX=>
 au
abbrev zXW:=@Cn.mk 113 0 _ @zGi
theorem zLF{y0:uJ}: wR qd prog 296 [pt b1 0] [bx b1 280 (uF [vi y0.1,sv p1 y0.2.1 c1] 40 y0.2.2.1 [sv p2 y0.2.2.2.1 c2,vb (a4 y0)]),r_1] [Rl (zT (zB .i64)) p1 c1 y0.2.1,Al (zT (zB .i64)) 22 r_1 p2 c2 y0.2.2.2.1] (zBc y0) λL r K=>∀ p3 c3,K (.tuple #[sv p3 r.1 c3,vi r.2]) L [Rl (zB .i64) p3 c3 r.1] :=
 zO call296 func296 u λX=>jA 2 u<|zG<|zA 1 u<|yU (zB .i64) 3 <|zK<|zQ<|zG<|zA 2 u<|zY 0 u<|qI 0 u u u<|zA 1 u<|zK<|qA<|
  wO (λs1 K=>∀ p3 c3 r_2,K [0,9] [(2,r_2)] [1,2] [(4,sv p3 s1.1 c3),(10,vi s1.2)] [Al (zB .i64) 3 r_2 p3 c3 s1.1]) (gv (λ_ k=>k none 0 []) [0,1,2] (gq [0,1,2]))<|
  λs1 _ k p3 c3 r_2=>k<|jA 1 u<|zQ<|zR u (jC<|zQ<|qA<|jA 2 u<|zG<|zA 3 u<|zY 2 u<|jiL 40 u u<|λu1 h1=>jlL 0 40 y0.2.2.1 [vi y0.1,sv p1 y0.2.1 c1] [sv p2 y0.2.2.2.1 c2,vb (a4 y0)] h1 u u<|
 au
)<|
 au
abbrev zPg:=@Cn.mk 296 0 _ @zLF
end Go.Proofs.YtgjdojihimkgcaaGreatDoor
