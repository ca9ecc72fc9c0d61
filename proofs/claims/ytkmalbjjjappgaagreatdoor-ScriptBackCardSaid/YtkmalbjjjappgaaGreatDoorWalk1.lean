/- A part. Conditions: none. -/
import Derived.Test.YtkmalbjjjappgaaGreatDoorProg
import Derived.Test.YtkmalbjjjappgaaGreatDoorCopy
import Derived.Test.YtkmalbjjjappgaaGreatDoorAu
import Derived.Test.YtkmalbjjjappgaaGreatDoorModels
import Derived.Test.YtkmalbjjjappgaaGreatDoorShelfP
namespace Go.Proofs.YtkmalbjjjappgaaGreatDoor
open Option renaming none->Ai
open Bool renaming true->Aj,false->Ak
open Go renaming Value->Am,Addr->Ax
open Go Go.GD Go.Proofs.Tryz
set_option autoImplicit false
set_option linter.unusedVariables false
set_option maxRecDepth 100000
set_option maxHeartbeats 2000000
set_option linter.defProp false
abbrev Aa:=Tb prog "internal/strconv.uint64pow10" .u64 Lib.pow10Tab
abbrev Ab:Value:=vb Ak
abbrev Ad:Value:=.slice Ai 0 0
abbrev Ae:Value:=vi 0
abbrev Af:Value:=vs []
abbrev Ag:=zT .i64
variable {qd:Prop}
variable {yl1:Nat}{p1 p2 p3 p4 p5 p6 p7 p8 p9 p10 p11 p12 p13 p14 p15 p16 p17 p18 p19 p20 p21 p22 p23 p24 p25 p26:Option Ax}{c1 c2 c3 c4 c5 c6 c7 c8 c9 c10 c11 c12 c13 c14 c15 c16 c17 c18 c19 c20 c21 c22 c23 c24 c25 c26:Nat}{b1 b2 b3:Nat}{r_1 r_2:zK}
abbrev z3V:E vN:=qU (wF Ag) Ag
abbrev o_keep_Src:yO z3V:=(oP oL oI)
abbrev zCA (y:vN)(p1:Option Ax)(c1:Nat): List Value:=[sv p1 y.1 c1,vi y.2]
abbrev zCC (y:vN)(p1:Option Ax)(c1:Nat)(t:List PP): List PP:=Rl Ag p1 c1 y.1::t
abbrev zRB:E zC4:=qU Ag Ag
abbrev zWA:yO zRB:=(oP oI oI)
abbrev wD:E zH:=qU tH qP
abbrev xK:yO wD:=(oP oB oS)
abbrev uD:E wK:=qU wD (qU Ag (qU Ag qP))
abbrev zPx:yO uD:=(oP xK (oP oI (oP oI oS)))
abbrev zU9 (y:wK): List Value:=[vb y.1.1,vs y.1.2,vi y.2.1,vi y.2.2.1,vs y.xa]
abbrev yA:E wC:=qU qP (qU tH (qU Ag (qU (wF wD) wD)))
abbrev zRv:yO yA:=(oP oS (oP oB (oP oI (oP oL xK))))
abbrev z5n (y:wC)(p1:Option Ax)(c1:Nat): List Value:=[vs y.1,vb y.2.1,vi y.2.2.1,sv p1 y.xa.1 c1,vb y.xb.1,vs y.xc]
abbrev z3j (y:wC)(p1:Option Ax)(c1:Nat)(t:List PP): List PP:=Rl wD p1 c1 y.xa.1::t
abbrev uZ:E wW:=qU qP (qU Ag wD)
abbrev zPG:yO uZ:=(oP oS (oP oI xK))
abbrev zP1 (y:wW): List Value:=[vs y.1,vi y.2.1,vb y.2.2.1,vs y.xa]
abbrev zYl:E qX:=qU (wF uD) (qU (wF yA) (wF uZ))
abbrev z1b:yO zYl:=(oP oL (oP oL oL))
abbrev zEC (y:qX)(p1:Option Ax)(c1:Nat)(p2:Option Ax)(c2:Nat)(p3:Option Ax)(c3:Nat): List Value:=[sv p1 y.1 c1,sv p2 y.2.1 c2,sv p3 y.2.2 c3]
abbrev zEc (y:qX)(p1:Option Ax)(c1:Nat)(p2:Option Ax)(c2:Nat)(p3:Option Ax)(c3:Nat)(t:List PP): List PP:=Rl uD p1 c1 y.1::Rl yA p2 c2 y.2.1::Rl uZ p3 c3 y.2.2::t
abbrev zNw:E zCG:=qU (wF qP) (qU Ag (qU zRB zYl))
abbrev zRw:yO zNw:=(oP oL (oP oI (oP zWA z1b)))
abbrev zNB (y:zCG)(p1:Option Ax)(c1:Nat)(p2:Option Ax)(c2:Nat)(p3:Option Ax)(c3:Nat)(p4:Option Ax)(c4:Nat): List Value:=[sv p1 y.1 c1,vi y.2.1,vi y.2.2.1.1,vi y.2.2.1.2,sv p2 y.xa.1 c2,sv p3 y.xb.1 c3,sv p4 y.xc c4]
abbrev zNc (y:zCG)(p1:Option Ax)(c1:Nat)(p2:Option Ax)(c2:Nat)(p3:Option Ax)(c3:Nat)(p4:Option Ax)(c4:Nat)(t:List PP): List PP:=Rl qP p1 c1 y.1::Rl uD p2 c2 y.xa.1::Rl yA p3 c3 y.xb.1::Rl uZ p4 c4 y.xc::t
abbrev yQ:E qR:=qU wD (qU tH (qU tH (wF wD)))
abbrev zHv:yO yQ:=(oP xK (oP oB (oP oB oL)))
abbrev zYy (y:qR)(p1:Option Ax)(c1:Nat): List Value:=[vb y.1.1,vs y.1.2,vb y.2.1,vb y.2.2.1,sv p1 y.xa c1]
abbrev zZG (y:qR)(p1:Option Ax)(c1:Nat)(t:List PP): List PP:=Rl wD p1 c1 y.xa::t
abbrev zEH:E uO:=qU Ag Ag
abbrev o_Pair:yO zEH:=(oP oI oI)
abbrev zTr:E uA:=qU Ag (wF zEH)
abbrev zWZ:yO zTr:=(oP oI oL)
abbrev zJf (y:uA)(p1:Option Ax)(c1:Nat): List Value:=[vi y.1,sv p1 y.2 c1]
abbrev f_Graph (y:uA)(p1:Option Ax)(c1:Nat)(t:List PP): List PP:=Rl zEH p1 c1 y.2::t
abbrev zGj:E yJ:=qU Ag (qU Ag (qU Ag Ag))
abbrev z2V:yO zGj:=(oP oI (oP oI (oP oI oI)))
abbrev v_Move (y:yJ): List Value:=[vi y.1,vi y.2.1,vi y.2.2.1,vi y.xa]
abbrev zRU:E uF:=qU zTr (qU Ag (qU (qU Ag Ag) (wF zGj)))
abbrev zWJ:yO zRU:=(oP zWZ (oP oI (oP (oP oI oI) oL)))
abbrev zCn (y:uF)(p1:Option Ax)(c1:Nat)(p2:Option Ax)(c2:Nat): List Value:=[vi y.1.1,sv p1 y.1.2 c1,vi y.2.1,vi y.2.2.1.1,vi y.2.2.1.2,sv p2 y.xa c2]
abbrev zDA (y:uF)(p1:Option Ax)(c1:Nat)(p2:Option Ax)(c2:Nat)(t:List PP): List PP:=Rl zEH p1 c1 y.1.2::Rl zGj p2 c2 y.xa::t
abbrev zKf:E tQ:=qU wD zRU
abbrev o_Talk:yO zKf:=(oP xK zWJ)
abbrev v_Talk (y:tQ)(p1:Option Ax)(c1:Nat)(p2:Option Ax)(c2:Nat): List Value:=[vb y.1.1,vs y.1.2,vi y.2.1.1,sv p1 y.2.1.2 c1,vi y.2.2.1,vi y.xa.1.1,vi y.xa.1.2,sv p2 y.xb c2]
abbrev f_Talk (y:tQ)(p1:Option Ax)(c1:Nat)(p2:Option Ax)(c2:Nat)(t:List PP): List PP:=Rl zEH p1 c1 y.2.1.2::Rl zGj p2 c2 y.xb::t
abbrev zC2:E tE:=qU wD (qU tH (qU zTr (qU Ag (qU (wF Ag) (wF Ag)))))
abbrev z2j:yO zC2:=(oP xK (oP oB (oP zWZ (oP oI (oP oL oL)))))
abbrev z2b (y:tE)(p1:Option Ax)(c1:Nat)(p2:Option Ax)(c2:Nat)(p3:Option Ax)(c3:Nat): List Value:=[vb y.1.1,vs y.1.2,vb y.2.1,vi y.2.2.1.1,sv p1 y.2.2.1.2 c1,vi y.xa.1,sv p2 y.xb.1 c2,sv p3 y.xc c3]
abbrev z2l (y:tE)(p1:Option Ax)(c1:Nat)(p2:Option Ax)(c2:Nat)(p3:Option Ax)(c3:Nat)(t:List PP): List PP:=Rl zEH p1 c1 y.2.2.1.2::Rl Ag p2 c2 y.xb.1::Rl Ag p3 c3 y.xc::t
abbrev z1A:E vQ:=qU (wF qP) (wF Ag)
abbrev z4D:yO z1A:=(oP oL oL)
abbrev zEt (y:vQ)(p1:Option Ax)(c1:Nat)(p2:Option Ax)(c2:Nat): List Value:=[sv p1 y.1 c1,sv p2 y.2 c2]
abbrev zEu (y:vQ)(p1:Option Ax)(c1:Nat)(p2:Option Ax)(c2:Nat)(t:List PP): List PP:=Rl qP p1 c1 y.1::Rl Ag p2 c2 y.2::t
abbrev z6I:E yM:=qU zNw (qU zYl (qU (wF (wF yQ)) (qU (wF zKf) (qU (wF zC2) (qU z1A Ag)))))
abbrev z8z:yO z6I:=(oP zRw (oP z1b (oP oL (oP oL (oP oL (oP z4D oI))))))
abbrev zD5 (y:yM)(p1:Option Ax)(c1:Nat)(p2:Option Ax)(c2:Nat)(p3:Option Ax)(c3:Nat)(p4:Option Ax)(c4:Nat)(p5:Option Ax)(c5:Nat)(p6:Option Ax)(c6:Nat)(p7:Option Ax)(c7:Nat)(p8:Option Ax)(c8:Nat)(p9:Option Ax)(c9:Nat)(p10:Option Ax)(c10:Nat)(p11:Option Ax)(c11:Nat)(p12:Option Ax)(c12:Nat): List Value:=[sv p1 y.1.1 c1,vi y.1.2.1,vi y.1.2.2.1.1,vi y.1.2.2.1.2,sv p2 y.1.xa.1 c2,sv p3 y.1.xb.1 c3,sv p4 y.1.xc c4,sv p5 y.2.1.1 c5,sv p6 y.2.1.2.1 c6,sv p7 y.2.1.2.2 c7,sv p8 y.2.2.1 c8,sv p9 y.xa.1 c9,sv p10 y.xb.1 c10,sv p11 y.xc.1.1 c11,sv p12 y.xc.1.2 c12,vi y.xd]
abbrev zD3 (y:yM)(p1:Option Ax)(c1:Nat)(p2:Option Ax)(c2:Nat)(p3:Option Ax)(c3:Nat)(p4:Option Ax)(c4:Nat)(p5:Option Ax)(c5:Nat)(p6:Option Ax)(c6:Nat)(p7:Option Ax)(c7:Nat)(p8:Option Ax)(c8:Nat)(p9:Option Ax)(c9:Nat)(p10:Option Ax)(c10:Nat)(p11:Option Ax)(c11:Nat)(p12:Option Ax)(c12:Nat)(t:List PP): List PP:=Rl qP p1 c1 y.1.1::Rl uD p2 c2 y.1.xa.1::Rl yA p3 c3 y.1.xb.1::Rl uZ p4 c4 y.1.xc::Rl uD p5 c5 y.2.1.1::Rl yA p6 c6 y.2.1.2.1::Rl uZ p7 c7 y.2.1.2.2::Rl (wF yQ) p8 c8 y.2.2.1::Rl zKf p9 c9 y.xa.1::Rl zC2 p10 c10 y.xb.1::Rl qP p11 c11 y.xc.1.1::Rl Ag p12 c12 y.xc.1.2::t
abbrev xH:E qS:=qU Ag (qU Ag (qU (wF Ag) wD))
abbrev o_Argument:yO xH:=(oP oI (oP oI (oP oL xK)))
abbrev v_Argument (y:qS)(p1:Option Ax)(c1:Nat): List Value:=[vi y.1,vi y.2.1,sv p1 y.2.2.1 c1,vb y.xa.1,vs y.xb]
abbrev f_Argument (y:qS)(p1:Option Ax)(c1:Nat)(t:List PP): List PP:=Rl Ag p1 c1 y.2.2.1::t
abbrev zDS:E vZ:=qU Ag (qU Ag (qU Ag Ag))
abbrev z8A:yO zDS:=(oP oI (oP oI (oP oI oI)))
abbrev v_Attack (y:vZ): List Value:=[vi y.1,vi y.2.1,vi y.2.2.1,vi y.xa]
abbrev zWP:E zCB:=qU zYl (qU (wF xH) (qU (wF zDS) zTr))
abbrev z3W:yO zWP:=(oP z1b (oP oL (oP oL zWZ)))
abbrev zOJ (y:zCB)(p1:Option Ax)(c1:Nat)(p2:Option Ax)(c2:Nat)(p3:Option Ax)(c3:Nat)(p4:Option Ax)(c4:Nat)(p5:Option Ax)(c5:Nat)(p6:Option Ax)(c6:Nat): List Value:=[sv p1 y.1.1 c1,sv p2 y.1.2.1 c2,sv p3 y.1.2.2 c3,sv p4 y.2.1 c4,sv p5 y.2.2.1 c5,vi y.xa.1,sv p6 y.xb c6]
abbrev zOB (y:zCB)(p1:Option Ax)(c1:Nat)(p2:Option Ax)(c2:Nat)(p3:Option Ax)(c3:Nat)(p4:Option Ax)(c4:Nat)(p5:Option Ax)(c5:Nat)(p6:Option Ax)(c6:Nat)(t:List PP): List PP:=Rl uD p1 c1 y.1.1::Rl yA p2 c2 y.1.2.1::Rl uZ p3 c3 y.1.2.2::Rl xH p4 c4 y.2.1::Rl zDS p5 c5 y.2.2.1::Rl zEH p6 c6 y.xb::t
abbrev zXk:E zB6:=qU Ag (qU Ag (qU Ag (qU wD (wF wD))))
abbrev z2P:yO zXk:=(oP oI (oP oI (oP oI (oP xK oL))))
abbrev zMA (y:zB6)(p1:Option Ax)(c1:Nat): List Value:=[vi y.1,vi y.2.1,vi y.2.2.1,vb y.xa.1.1,vs y.xa.1.2,sv p1 y.xb c1]
abbrev zMS (y:zB6)(p1:Option Ax)(c1:Nat)(t:List PP): List PP:=Rl wD p1 c1 y.xb::t
abbrev zA7:E qB:=qU Ag (qU Ag (qU Ag (qU Ag (qU qP (qU zXk (qU wD (qU (qU Ag Ag) (qU zGj qF))))))))
abbrev zKH:yO zA7:=(oP oI (oP oI (oP oI (oP oI (oP oS (oP z2P (oP xK (oP (oP oI oI) (oP z2V zGk)))))))))
abbrev zA4 (y:qB)(p1:Option Ax)(c1:Nat)(p2:Option Ax)(c2:Nat): List Value:=[vi y.1,vi y.2.1,vi y.2.2.1,vi y.xa.1,vs y.xb.1,vi y.xc.1.1,vi y.xc.1.2.1,vi y.xc.1.2.2.1,vb y.xc.1.xa.1.1,vs y.xc.1.xa.1.2,sv p1 y.xc.1.xb c1,vb y.xd.1.1,vs y.xd.1.2,vi y.xe.1.1,vi y.xe.1.2,vi y.xf.1.1,vi y.xf.1.2.1,vi y.xf.1.2.2.1,vi y.xf.1.xa,vi ((fv y.xg).1),vs ((fv y.xg).2.1),sv p2 ((fv y.xg).2.2) c2]
abbrev xZ (y:qB)(p1:Option Ax)(c1:Nat)(p2:Option Ax)(c2:Nat)(t:List PP): List PP:=Rl wD p1 c1 y.xc.1.xb::Rl qF p2 c2 ((fv y.xg).2.2)::t
abbrev zZU:E zZV:=qU Ag Ag
abbrev z4N:yO zZU:=(oP oI oI)
abbrev zVh:E wU:=qU qP (qU Ag Ag)
abbrev z6b:yO zVh:=(oP oS (oP oI oI))
abbrev zBE (y:wU): List Value:=[vs y.1,vi y.2.1,vi y.2.2]
abbrev zRn:E zDD:=qU Ag (qU uD (qU yA uZ))
abbrev zZX:yO zRn:=(oP oI (oP zPx (oP zRv zPG)))
abbrev zK6 (y:zDD)(p1:Option Ax)(c1:Nat): List Value:=[vi y.1,vb y.2.1.1.1,vs y.2.1.1.2,vi y.2.1.2.1,vi y.2.1.2.2.1,vs y.2.1.xa,vs y.2.2.1.1,vb y.2.2.1.2.1,vi y.2.2.1.2.2.1,sv p1 y.2.2.1.xa.1 c1,vb y.2.2.1.xb.1,vs y.2.2.1.xc,vs y.xa.1,vi y.xb.1,vb y.xc.1,vs y.xd]
abbrev zKW (y:zDD)(p1:Option Ax)(c1:Nat)(t:List PP): List PP:=Rl wD p1 c1 y.2.2.1.xa.1::t
abbrev zTU:E zAT:=qU zA7 (qU (wF qP) tH)
abbrev z5g:yO zTU:=(oP zKH (oP oL oB))
abbrev z4P (y:zAT)(p1:Option Ax)(c1:Nat)(p2:Option Ax)(c2:Nat)(p3:Option Ax)(c3:Nat): List Value:=[vi y.1.1,vi y.1.2.1,vi y.1.2.2.1,vi y.1.xa.1,vs y.1.xb.1,vi y.1.xc.1.1,vi y.1.xc.1.2.1,vi y.1.xc.1.2.2.1,vb y.1.xc.1.xa.1.1,vs y.1.xc.1.xa.1.2,sv p1 y.1.xc.1.xb c1,vb y.1.xd.1.1,vs y.1.xd.1.2,vi y.1.xe.1.1,vi y.1.xe.1.2,vi y.1.xf.1.1,vi y.1.xf.1.2.1,vi y.1.xf.1.2.2.1,vi y.1.xf.1.xa,vi ((fv y.1.xg).1),vs ((fv y.1.xg).2.1),sv p2 ((fv y.1.xg).2.2) c2,sv p3 y.2.1 c3,vb y.2.2]
abbrev z3a (y:zAT)(p1:Option Ax)(c1:Nat)(p2:Option Ax)(c2:Nat)(p3:Option Ax)(c3:Nat)(t:List PP): List PP:=Rl wD p1 c1 y.1.xc.1.xb::Rl qF p2 c2 ((fv y.1.xg).2.2)::Rl qP p3 c3 y.2.1::t
abbrev zT0:E vY:=qU qP (qU tH (qU tH zA7))
abbrev z6B:yO zT0:=(oP oS (oP oB (oP oB zKH)))
abbrev zA1 (y:vY)(p1:Option Ax)(c1:Nat)(p2:Option Ax)(c2:Nat): List Value:=[vs y.1,vb y.2.1,vb y.2.2.1,vi y.xa.1,vi y.xb.1,vi y.xc.1,vi y.xd.1,vs y.xe.1,vi y.xf.1.1,vi y.xf.1.2.1,vi y.xf.1.2.2.1,vb y.xf.1.xa.1.1,vs y.xf.1.xa.1.2,sv p1 y.xf.1.xb c1,vb y.xg.1.1,vs y.xg.1.2,vi y.2.2.2.2.2.2.2.2.2.2.1.1,vi y.2.2.2.2.2.2.2.2.2.2.1.2,vi y.xh.1.1,vi y.xh.1.2.1,vi y.xh.1.2.2.1,vi y.xh.1.xa,vi ((fv y.xi).1),vs ((fv y.xi).2.1),sv p2 ((fv y.xi).2.2) c2]
abbrev zA2 (y:vY)(p1:Option Ax)(c1:Nat)(p2:Option Ax)(c2:Nat)(t:List PP): List PP:=Rl wD p1 c1 y.xf.1.xb::Rl qF p2 c2 ((fv y.xi).2.2)::t
abbrev zSH:E wA:=qU qP (qU Ag (qU Ag tH))
abbrev z36:yO zSH:=(oP oS (oP oI (oP oI oB)))
abbrev zA6 (y:wA): List Value:=[vs y.1,vi y.2.1,vi y.2.2.1,vb y.xa]
abbrev zNk:E zBB:=qU qP (qU qP Ag)
abbrev zT3:yO zNk:=(oP oS (oP oS oI))
abbrev zTu (y:zBB): List Value:=[vs y.1,vs y.2.1,vi y.2.2]
instance:Sh 3 Ak 1:=.mk
instance:Sh 4 Ak 1:=.mk
instance:Sh 5 Ak 1:=.mk
instance:Sh 9 Ak 1:=.mk
instance:Sh 22 Ak 1:=.mk
instance:Sh 27 Ak 1:=.mk
instance:Sh 29 Aj 2:=.mk
instance:Sh 30 Ak 1:=.mk
instance:Sh 31 Ak 1:=.mk
instance:Sh 32 Ak 1:=.mk
instance:Sh 34 Aj 3:=.mk
instance:Sh 36 Aj 7:=.mk
instance:Sh 38 Ak 1:=.mk
instance:Sh 43 Ak 1:=.mk
instance:Sh 53 Ak 1:=.mk
instance:Sh 55 Aj 1:=.mk
instance:Sh 56 Ak 1:=.mk
instance:Sh 57 Ak 1:=.mk
instance:Sh 59 Aj 2:=.mk
instance:Sh 61 Aj 16:=.mk
instance:Sh 66 Aj 2:=.mk
instance:Sh 67 Ak 1:=.mk
instance:Sh 69 Aj 6:=.mk
instance:Sh 70 Aj 2:=.mk
instance:Sh 72 Aj 4:=.mk
instance:Sh 73 Ak 1:=.mk
instance:Sh 75 Aj 3:=.mk
instance:Sh 77 Aj 22:=.mk
instance:Sh 102 Ak 1:=.mk
instance:Sh 103 Ak 1:=.mk
instance:Sh 104 Ak 1:=.mk
instance:Sh 106 Aj 2:=.mk
instance:Sh 108 Aj 7:=.mk
instance:Sh 122 Aj 5:=.mk
instance:Sh 127 Aj 6:=.mk
instance:Sh 129 Aj 4:=.mk
instance:Sh 158 Ak 1:=.mk
instance:Sh 163 Ak 1:=.mk
instance:Sh 165 Aj 6:=.mk
instance:Sh 184 Aj 8:=.mk
instance:Sh 196 Ak 1:=.mk
instance:Sh 198 Aj 5:=.mk
instance:Sh 206 Ak 1:=.mk
instance:Sh 225 Aj 4:=.mk
instance:Sh 227 Aj 2:=.mk
instance:Sh 250 Aj 16:=.mk
instance:Sh 252 Aj 5:=.mk
instance:Sh 303 Aj 2:=.mk
instance:Sh 382 Aj 3:=.mk
instance:Ty 3 Ag oI false:=.mk
instance:Ty 4 tH oB false:=.mk
instance:Ty 5 (zT .u8) oI false:=.mk
instance:Ty 9 qP oS false:=.mk
instance:Ty 22 (wF Ag) oL false:=.mk
instance:Ty 27 (wF qP) oL false:=.mk
instance:Ty 29 zRB zWA true:=.mk
instance:Ty 30 (wF uD) oL false:=.mk
instance:Ty 31 (wF yA) oL false:=.mk
instance:Ty 32 (wF uZ) oL false:=.mk
instance:Ty 34 zYl z1b true:=.mk
instance:Ty 36 zNw zRw true:=.mk
instance:Ty 38 Ag oI false:=.mk
instance:Ty 43 (wF (zT .u8)) oL false:=.mk
instance:Ty 53 (wF (wF yQ)) oL false:=.mk
instance:Ty 55 (wF (wF yQ)) oL true:=.mk
instance:Ty 56 (wF zKf) oL false:=.mk
instance:Ty 57 (wF zC2) oL false:=.mk
instance:Ty 59 z1A z4D true:=.mk
instance:Ty 61 z6I z8z true:=.mk
instance:Ty 66 wD xK true:=.mk
instance:Ty 67 (wF wD) oL false:=.mk
instance:Ty 69 zXk z2P true:=.mk
instance:Ty 70 (qU Ag Ag) (oP oI oI) true:=.mk
instance:Ty 72 zGj z2V true:=.mk
instance:Ty 73 (wF qF) oL false:=.mk
instance:Ty 75 qF zGk true:=.mk
instance:Ty 77 zA7 zKH true:=.mk
instance:Ty 102 (wF xH) oL false:=.mk
instance:Ty 103 (wF zDS) oL false:=.mk
instance:Ty 104 (wF zEH) oL false:=.mk
instance:Ty 106 zTr zWZ true:=.mk
instance:Ty 108 zWP z3W true:=.mk
instance:Ty 122 uD zPx true:=.mk
instance:Ty 127 yA zRv true:=.mk
instance:Ty 129 uZ zPG true:=.mk
instance:Ty 158 (zT .u64) oI false:=.mk
instance:Ty 163 (wF zGj) oL false:=.mk
instance:Ty 165 zRU zWJ true:=.mk
instance:Ty 184 zC2 z2j true:=.mk
instance:Ty 196 (wF yQ) oL false:=.mk
instance:Ty 198 yQ zHv true:=.mk
instance:Ty 225 zDS z8A true:=.mk
instance:Ty 227 zEH o_Pair true:=.mk
instance:Ty 250 zRn zZX true:=.mk
instance:Ty 252 (qU tH (qU tH (qU tH (qU tH tH)))) (oP oB (oP oB (oP oB (oP oB oB)))) true:=.mk
instance:Ty 303 zZU z4N true:=.mk
instance:Ty 382 zNk zT3 true:=.mk
instance:Fs 29 [0,1]:=.mk
instance:Fs 34 [0,1,2]:=.mk
instance:Fs 36 [0,1,2,4]:=.mk
instance:Fs 52 [0,1]:=.mk
instance:Fs 55 [0]:=.mk
instance:Fs 59 [0,1]:=.mk
instance:Fs 61 [0,7,10,11,12,13,15]:=.mk
instance:Fs 66 [0,1]:=.mk
instance:Fs 69 [0,1,2,3,5]:=.mk
instance:Fs 70 [0,1]:=.mk
instance:Fs 72 [0,1,2,3]:=.mk
instance:Fs 75 [0,1,2]:=.mk
instance:Fs 77 [0,1,2,3,4,5,11,13,15,19]:=.mk
instance:Fs 85 [0]:=.mk
instance:Fs 106 [0,1]:=.mk
instance:Fs 108 [0,3,4,5]:=.mk
instance:Fs 122 [0,2,3,4]:=.mk
instance:Fs 127 [0,1,2,3,4]:=.mk
instance:Fs 129 [0,1,2]:=.mk
instance:Fs 132 [0,22,23]:=.mk
instance:Fs 165 [0,2,3,5]:=.mk
instance:Fs 167 [0,2]:=.mk
instance:Fs 184 [0,2,3,5,6,7]:=.mk
instance:Fs 198 [0,2,3,4]:=.mk
instance:Fs 208 [0,1,2,3]:=.mk
instance:Fs 219 [0,1,2,3]:=.mk
instance:Fs 225 [0,1,2,3]:=.mk
instance:Fs 227 [0,1]:=.mk
instance:Fs 250 [0,1,6,12]:=.mk
instance:Fs 252 [0,1,2,3,4]:=.mk
instance:Fs 303 [0,1]:=.mk
instance:Fs 310 [0,1,2]:=.mk
instance:Fs 365 [0,1,2,3]:=.mk
instance:Fs 382 [0,1,2]:=.mk
instance:Zr 3 Ae:=.mk
instance:Zr 4 Ab:=.mk
instance:Zr 29 (.agg #[Ae,Ae]):=.mk
instance:Zr 34 (.agg #[Ad,Ad,Ad]):=.mk
instance:Zr 36 (.agg #[Ad,Ae,Ae,Ae,Ad,Ad,Ad]):=.mk
instance:Zr 52 (.agg #[Ad,Ae]):=.mk
instance:Zr 55 (.agg #[Ad]):=.mk
instance:Zr 59 (.agg #[Ad,Ad]):=.mk
instance:Zr 61 (.agg #[Ad,Ae,Ae,Ae,Ad,Ad,Ad,Ad,Ad,Ad,Ad,Ad,Ad,Ad,Ad,Ae]):=.mk
instance:Zr 66 (.agg #[Ab,Af]):=.mk
instance:Zr 69 (.agg #[Ae,Ae,Ae,Ab,Af,Ad]):=.mk
instance:Zr 70 (.agg #[Ae,Ae]):=.mk
instance:Zr 72 (.agg #[Ae,Ae,Ae,Ae]):=.mk
instance:Zr 75 (.agg #[Ae,Af,Ad]):=.mk
instance:Zr 77 (.agg #[Ae,Ae,Ae,Ae,Af,Ae,Ae,Ae,Ab,Af,Ad,Ab,Af,Ae,Ae,Ae,Ae,Ae,Ae,Ae,Af,Ad]):=.mk
instance:Zr 85 (.agg #[.pointer Ai,Ad]):=.mk
instance:Zr 106 (.agg #[Ae,Ad]):=.mk
instance:Zr 108 (.agg #[Ad,Ad,Ad,Ad,Ad,Ae,Ad]):=.mk
instance:Zr 122 (.agg #[Ab,Af,Ae,Ae,Af]):=.mk
instance:Zr 127 (.agg #[Af,Ab,Ae,Ad,Ab,Af]):=.mk
instance:Zr 129 (.agg #[Af,Ae,Ab,Af]):=.mk
instance:Zr 132 (.agg #[Ae,Ae,Ae,Ae,Af,Ae,Ae,Ae,Ab,Af,Ad,Ab,Af,Ae,Ae,Ae,Ae,Ae,Ae,Ae,Af,Ad,Ad,Ab]):=.mk
instance:Zr 165 (.agg #[Ae,Ad,Ae,Ae,Ae,Ad]):=.mk
instance:Zr 167 (.agg #[Ab,Af,Ae,Ad,Ae,Ae,Ae,Ad]):=.mk
instance:Zr 184 (.agg #[Ab,Af,Ab,Ae,Ad,Ae,Ad,Ad]):=.mk
instance:Zr 196 Ad:=.mk
instance:Zr 198 (.agg #[Ab,Af,Ab,Ab,Ad]):=.mk
instance:Zr 208 (.agg #[Af,Ab,Ab,Ae,Ae,Ae,Ae,Af,Ae,Ae,Ae,Ab,Af,Ad,Ab,Af,Ae,Ae,Ae,Ae,Ae,Ae,Ae,Af,Ad]):=.mk
instance:Zr 219 (.agg #[Ae,Ae,Ad,Ab,Af]):=.mk
instance:Zr 225 (.agg #[Ae,Ae,Ae,Ae]):=.mk
instance:Zr 227 (.agg #[Ae,Ae]):=.mk
instance:Zr 250 (.agg #[Ae,Ab,Af,Ae,Ae,Af,Af,Ab,Ae,Ad,Ab,Af,Af,Ae,Ab,Af]):=.mk
instance:Zr 252 (.agg #[Ab,Ab,Ab,Ab,Ab]):=.mk
instance:Zr 303 (.agg #[Ae,Ae]):=.mk
instance:Zr 310 (.agg #[Af,Ae,Ae]):=.mk
instance:Zr 322 (.agg #[Ae,Ae,Ae,Ae,Ae,Ae,Ae]):=.mk
instance:Zr 358 (.agg #[.int .u8 0,.int .u8 0,.int .u8 0,.int .u8 0,.int .u8 0,.int .u8 0,.int .u8 0,.int .u8 0,.int .u8 0,.int .u8 0,.int .u8 0,.int .u8 0,.int .u8 0,.int .u8 0,.int .u8 0,.int .u8 0,.int .u8 0,.int .u8 0,.int .u8 0,.int .u8 0,.int .u8 0,.int .u8 0,.int .u8 0,.int .u8 0]):=.mk
instance:Zr 365 (.agg #[Af,Ae,Ae,Ab]):=.mk
instance:Zr 382 (.agg #[Af,Af,Ae]):=.mk
instance:Se 22 3 Ag:=.mk
instance:Se 25 77 zA7:=.mk
instance:Se 27 9 qP:=.mk
instance:Se 30 122 uD:=.mk
instance:Se 31 127 yA:=.mk
instance:Se 32 129 uZ:=.mk
instance:Se 43 5 (zT .u8):=.mk
instance:Se 53 196 (wF yQ):=.mk
instance:Se 56 167 zKf:=.mk
instance:Se 57 184 zC2:=.mk
instance:Se 67 66 wD:=.mk
instance:Se 73 75 qF:=.mk
instance:Se 97 43 (wF (zT .u8)):=.mk
instance:Se 102 219 xH:=.mk
instance:Se 103 225 zDS:=.mk
instance:Se 104 227 zEH:=.mk
instance:Se 155 158 (zT .u64):=.mk
instance:Se 163 72 zGj:=.mk
instance:Se 196 198 yQ:=.mk
instance:Se 220 22 (wF Ag):=.mk
instance:Se 254 38 Ag:=.mk
instance:Se 299 67 (wF wD):=.mk
instance:Se 318 4 tH:=.mk
instance:It 3 .i64:=.mk
instance:It 5 .u8:=.mk
instance:It 156 .u64:=.mk
instance:It 158 .u64:=.mk
instance:By 43 5:=.mk
abbrev a4{α0 α1 α2 α3 α4:Type}(x:α0×α1×α2×α3×α4): α4:=x.xb
abbrev a5{α0 α1 α2 α3 α4 α5:Type}(x:α0×α1×α2×α3×α4×α5): α5:=x.xc
abbrev a6{α0 α1 α2 α3 α4 α5 α6:Type}(x:α0×α1×α2×α3×α4×α5×α6): α6:=x.xd
abbrev a7{α0 α1 α2 α3 α4 α5 α6 α7:Type}(x:α0×α1×α2×α3×α4×α5×α6×α7): α7:=x.xe
abbrev a8{α0 α1 α2 α3 α4 α5 α6 α7 α8:Type}(x:α0×α1×α2×α3×α4×α5×α6×α7×α8): α8:=x.xf
abbrev a9{α0 α1 α2 α3 α4 α5 α6 α7 α8 α9:Type}(x:α0×α1×α2×α3×α4×α5×α6×α7×α8×α9): α9:=x.xg
abbrev wS{α0 α1 α2 α3 α4 α5 α6 α7 α8 α9 α10:Type}(x:α0×α1×α2×α3×α4×α5×α6×α7×α8×α9×α10): α10:=x.2.2.2.2.2.2.2.2.2.2
abbrev qL{α0 α1 α2 α3 α4 α5 α6 α7 α8 α9 α10 α11:Type}(x:α0×α1×α2×α3×α4×α5×α6×α7×α8×α9×α10×α11): α11:=x.xh
abbrev qY{α0 α1 α2 α3 α4 α5 α6 α7 α8 α9 α10 α11 α12:Type}(x:α0×α1×α2×α3×α4×α5×α6×α7×α8×α9×α10×α11×α12): α12:=x.xi
abbrev a13{α0 α1 α2 α3 α4 α5 α6 α7 α8 α9 α10 α11 α12 α13:Type}(x:α0×α1×α2×α3×α4×α5×α6×α7×α8×α9×α10×α11×α12×α13): α13:=x.2.2.2.2.2.2.2.2.2.2.2.2.2
abbrev a14{α0 α1 α2 α3 α4 α5 α6 α7 α8 α9 α10 α11 α12 α13 α14:Type}(x:α0×α1×α2×α3×α4×α5×α6×α7×α8×α9×α10×α11×α12×α13×α14): α14:=x.2.2.2.2.2.2.2.2.2.2.2.2.2.2
abbrev a15{α0 α1 α2 α3 α4 α5 α6 α7 α8 α9 α10 α11 α12 α13 α14 α15:Type}(x:α0×α1×α2×α3×α4×α5×α6×α7×α8×α9×α10×α11×α12×α13×α14×α15): α15:=x.2.2.2.2.2.2.2.2.2.2.2.2.2.2.2
abbrev a16{α0 α1 α2 α3 α4 α5 α6 α7 α8 α9 α10 α11 α12 α13 α14 α15 α16:Type}(x:α0×α1×α2×α3×α4×α5×α6×α7×α8×α9×α10×α11×α12×α13×α14×α15×α16): α16:=x.2.2.2.2.2.2.2.2.2.2.2.2.2.2.2.2
abbrev a17{α0 α1 α2 α3 α4 α5 α6 α7 α8 α9 α10 α11 α12 α13 α14 α15 α16 α17:Type}(x:α0×α1×α2×α3×α4×α5×α6×α7×α8×α9×α10×α11×α12×α13×α14×α15×α16×α17): α17:=x.2.2.2.2.2.2.2.2.2.2.2.2.2.2.2.2.2
abbrev a18{α0 α1 α2 α3 α4 α5 α6 α7 α8 α9 α10 α11 α12 α13 α14 α15 α16 α17 α18:Type}(x:α0×α1×α2×α3×α4×α5×α6×α7×α8×α9×α10×α11×α12×α13×α14×α15×α16×α17×α18): α18:=x.2.2.2.2.2.2.2.2.2.2.2.2.2.2.2.2.2.2
abbrev a19{α0 α1 α2 α3 α4 α5 α6 α7 α8 α9 α10 α11 α12 α13 α14 α15 α16 α17 α18 α19:Type}(x:α0×α1×α2×α3×α4×α5×α6×α7×α8×α9×α10×α11×α12×α13×α14×α15×α16×α17×α18×α19): α19:=x.2.2.2.2.2.2.2.2.2.2.2.2.2.2.2.2.2.2.2
abbrev a20{α0 α1 α2 α3 α4 α5 α6 α7 α8 α9 α10 α11 α12 α13 α14 α15 α16 α17 α18 α19 α20:Type}(x:α0×α1×α2×α3×α4×α5×α6×α7×α8×α9×α10×α11×α12×α13×α14×α15×α16×α17×α18×α19×α20): α20:=x.2.2.2.2.2.2.2.2.2.2.2.2.2.2.2.2.2.2.2.2
abbrev k0:Array Value:=#[Ae,Af,Am.slice Ai 0 0]
abbrev k1:Array Value:=#[Am.slice Ai 0 0,Am.slice Ai 0 0,Am.slice Ai 0 0]
abbrev k2:Array Value:=#[Ae,Ae,Ae,Ae,Af,Ae,Ae,Ae,Ab,Af,Am.slice Ai 0 0,Ab,Af,Ae,Ae,Ae,Ae,Ae,Ae,Ae,Af,Am.slice Ai 0 0]
abbrev k3:Array Value:=#[Am.slice Ai 0 0,Am.slice Ai 0 0]
abbrev k4:Array Value:=#[Af,Ab,Ae,Am.slice Ai 0 0,Ab,Af]
abbrev k5:Array Value:=#[Am.slice Ai 0 0,Ae,Ae,Ae,Am.slice Ai 0 0,Am.slice Ai 0 0,Am.slice Ai 0 0,Am.slice Ai 0 0,Am.slice Ai 0 0,Am.slice Ai 0 0,Am.slice Ai 0 0,Am.slice Ai 0 0,Am.slice Ai 0 0,Am.slice Ai 0 0,Am.slice Ai 0 0,Ae]
abbrev k6:Array Value:=#[Ab,Af,Ab,Ab,Am.slice Ai 0 0]
abbrev k7:Array Value:=#[Ae,Am.slice Ai 0 0,Ae,Ae,Ae,Am.slice Ai 0 0]
abbrev k8:Array Value:=#[vi 3,Ae,Ae,Ae,Af,Ae,Ae,Ae,Ab,Af,Am.slice Ai 0 0,Ab,Af,Ae,Ae,Ae,Ae,Ae,Ae,Ae,Af,Am.slice Ai 0 0]
abbrev k9:Array Value:=#[Ab,Ab,Ab,Ab,Ab]
abbrev k10:Array Value:=#[Am.slice Ai 0 0,Am.slice Ai 0 0,Am.slice Ai 0 0,Am.slice Ai 0 0,Am.slice Ai 0 0,Ae,Am.slice Ai 0 0]
abbrev k11:Array Value:=#[Am.slice Ai 0 0,Ae,Ae,Ae,Am.slice Ai 0 0,Am.slice Ai 0 0,Am.slice Ai 0 0]
theorem Tryz.key210:zRE prog 210 9 1 (λx:zA=>vs x):=zRE.string underlying210 underlying9
theorem z3U{y0:List Int}: zJ qd prog 4 [sv p1 y0 c1] [] [Rl Ag p1 c1 y0] (zOL y0) λr K=>∀ b1 p2 c2,K (pt b1 0) [bx b1 52 (zCA r p2 c2)] (zCC r p2 c2 []):=zO call4 func4 u λX=>au
abbrev z3T:=@Cn.mk 4 0 _ @z3U
theorem zE7{y0 y1:zA}: zJ qd prog 122 [vs y0,vs y1] [] [] (zBo y0 y1) λr K=>K (vi r) [] []:=z2o Go.Proofs.Tryz.lays219 call122
abbrev zIs:=@Cn.mk 122 0 _ @zE7
theorem zJv{y0 y1:zA}: zJ qd prog 56 [vs y0,vs y1] [] [] (zCI y0 y1) λr K=>K (.tuple #[vs r.1,vs r.2.1,vb r.2.2]) [] []:=zO call56 func56 u λX=>jA 3 u<|zS<|zF<|zB 2 u<|qW zE7 u d<|λr1 _ k=>k<|zB 1 u<|zG<|jA 2 u<|zU u (xW [] [] 12<|zP 10 [0,1] u<|yT λx1 h1=>jdv 2 u (λh=>zYL h u underlying9 u u (.inl ⟨rfl,rfl⟩) (.inr ⟨_,rfl⟩) h1)<|zP 4 [3,4,5,6,7] u<|yT λx2 h2=>jdv 8 u (λh=>zYL h u underlying9 u u (.inr ⟨_,rfl⟩) (.inl ⟨rfl,rfl⟩) h2)<|zP 0 [9,10,11] u<|qD<|wN<|wJ<|yH<|vV u (lT u (lT u (lT u lN))) kk [] d)<|jC<|jA 4 u<|wJ<|vV u (lT u (lT u (lT u lN))) kk [] d
abbrev zJw:=@Cn.mk 56 0 _ @zJv
attribute [instance] z3T zIs zJw
theorem zQk{y0 y1:zA}: zJ qd prog 23 [vs y0,vs y1] [] [] (zDn y0 y1) λr K=>K (.tuple #[vs r.1,vs r.2.1,vb r.2.2]) [] []:=zO call23 func23 u λX=>au
abbrev zWS:=@Cn.mk 23 0 _ @zQk
attribute [instance] zWS
theorem zF4{y0:vY}: zJ qd prog 117 [pt b1 0] [bx b1 208 (zA1 y0 p1 c1 p2 c2)] (zA2 y0 p1 c1 p2 c2 []) (zBA y0) λr K=>K (vs r.1) [bx b1 208 [vs r.2.1,vb r.2.2.1,vb r.xa,vi y0.xa.1,vi (a4 y0).1,vi (a5 y0).1,vi (a6 y0).1,vs (a7 y0).1,vi (a8 y0).1.1,vi (a8 y0).1.2.1,vi (a8 y0).1.2.2.1,vb (a8 y0).1.2.2.2.1.1,vs (a8 y0).1.2.2.2.1.2,sv p1 (a8 y0).1.2.2.2.2 c1,vb (a9 y0).1.1,vs (a9 y0).1.2,vi (wS y0).1.1,vi (wS y0).1.2,vi (qL y0).1.1,vi (qL y0).1.2.1,vi (qL y0).1.2.2.1,vi (qL y0).1.2.2.2,vi ((fv (qY y0)).1),vs ((fv (qY y0)).2.1),sv p2 ((fv (qY y0)).2.2) c2]] []:=zO call117 func117 u λX=>hI 1 1 0 (λ(s1:Bool) K=>K [0] [(0,.c [(2,vb s1)])] [0,1] [] [])<|au
abbrev zO9:=@Cn.mk 117 0 _ @zF4
theorem zOy{y0:zA}: zJ False prog 210 [vs y0] [] [vO 2,vO 3] (zKx y0) λr K=>∀ v1,K (.tuple #[vi r.1,v1]) [] [Erv v1 r.2]:=z79 Go.Proofs.Tryz.lays172 call210
abbrev zVe:=@Cn.mk 210 0 _ @zOy
theorem zEb{y0 y1:Int}: zJ qd prog 295 [vi y0,vi y1] [] [Aa] (zCf y0 y1) λr K=>K (vs r) [] []:=z4f Go.Proofs.Tryz.lays246 call295
abbrev zIp:=@Cn.mk 295 0 _ @zEb
theorem zLl{y0:Int}: zJ qd prog 262 [vi y0] [] [Aa] (zDs y0) λr K=>K (vs r) [] []:=zO call262 func262 u λX=>jA 1 u<|zF<|zB 1 u<|qW zEb u (cq [0])<|λr1 _ k=>k<|zB 1 u<|zG<|wJ<|uL u u kk [] d
abbrev zMM:=@Cn.mk 262 0 _ @zLl
attribute [instance] zO9 zVe zIp zMM
theorem zVP{y0:Int}: zJ qd prog 186 [vi y0] [] [Aa] (zEP y0) λr K=>K (vs r) [] []:=zO call186 func186 u λX=>au
abbrev zVO:=@Cn.mk 186 0 _ @zVP
attribute [instance] zVO
theorem zAG{y0:vY}: zJ False prog 118 [pt b1 0] [bx b1 208 (zA1 y0 p1 c1 p2 c2)] (zA2 y0 p1 c1 p2 c2 [vO 2,vO 3,Aa]) (tB y0) λr K=>K (vi r.1) [bx b1 208 [vs r.2.1,vb r.2.2.1,vb r.xa,vi y0.xa.1,vi (a4 y0).1,vi (a5 y0).1,vi (a6 y0).1,vs (a7 y0).1,vi (a8 y0).1.1,vi (a8 y0).1.2.1,vi (a8 y0).1.2.2.1,vb (a8 y0).1.2.2.2.1.1,vs (a8 y0).1.2.2.2.1.2,sv p1 (a8 y0).1.2.2.2.2 c1,vb (a9 y0).1.1,vs (a9 y0).1.2,vi (wS y0).1.1,vi (wS y0).1.2,vi (qL y0).1.1,vi (qL y0).1.2.1,vi (qL y0).1.2.2.1,vi (qL y0).1.2.2.2,vi ((fv (qY y0)).1),vs ((fv (qY y0)).2.1),sv p2 ((fv (qY y0)).2.2) c2]] []:=zO call118 func118 u λX=>jA 1 u<|zF<|zB 1 u<|zY .s [0] [] zF4 u u u (cq [0,1])<|λr1 _ k=>k<|zB 1 u<|zG<|zF<|zB 1 u<|qW zOy rfl (cq [2,3])<|λr2 _ k v1=>k<|zB 5 u<|zG<|qQ (λs1 K=>K [4] [(0,bx b1 208 [vs r1.2.1,vb r1.2.2.1,vb s1,vi y0.xa.1,vi (a4 y0).1,vi (a5 y0).1,vi (a6 y0).1,vs (a7 y0).1,vi (a8 y0).1.1,vi (a8 y0).1.2.1,vi (a8 y0).1.2.2.1,vb (a8 y0).1.2.2.2.1.1,vs (a8 y0).1.2.2.2.1.2,sv p1 (a8 y0).1.2.2.2.2 c1,vb (a9 y0).1.1,vs (a9 y0).1.2,vi (wS y0).1.1,vi (wS y0).1.2,vi (qL y0).1.1,vi (qL y0).1.2.1,vi (qL y0).1.2.2.1,vi (qL y0).1.2.2.2,vi ((fv (qY y0)).1),vs ((fv (qY y0)).2.1),sv p2 ((fv (qY y0)).2.2) c2])] [1,2,3,4,5] [] []) (wR<|zB 3 u<|zL 2 u<|zZ 0 u u u<|zB 1 u<|wG 18 u (au)<|zB 1 u<|jen 0 u u underlying88<|au)<|au
abbrev zMp:=@Cn.mk 118 0 _ @zAG
theorem zPW{y0:vY}: zJ qd prog 267 [pt b1 0] [bx b1 208 (zA1 y0 p1 c1 p2 c2)] (zA2 y0 p1 c1 p2 c2 []) (zCO y0) λr K=>K (vs r.1) [bx b1 208 [vs r.2.1,vb r.2.2.1,vb r.xa,vi y0.xa.1,vi (a4 y0).1,vi (a5 y0).1,vi (a6 y0).1,vs (a7 y0).1,vi (a8 y0).1.1,vi (a8 y0).1.2.1,vi (a8 y0).1.2.2.1,vb (a8 y0).1.2.2.2.1.1,vs (a8 y0).1.2.2.2.1.2,sv p1 (a8 y0).1.2.2.2.2 c1,vb (a9 y0).1.1,vs (a9 y0).1.2,vi (wS y0).1.1,vi (wS y0).1.2,vi (qL y0).1.1,vi (qL y0).1.2.1,vi (qL y0).1.2.2.1,vi (qL y0).1.2.2.2,vi ((fv (qY y0)).1),vs ((fv (qY y0)).2.1),sv p2 ((fv (qY y0)).2.2) c2]] []:=zO call267 func267 u λX=>hI 1 1 0 (λ(s1:Bool) K=>K [0] [(0,.c [(2,vb s1)])] [0,1] [] [])<|au
abbrev zPH:=@Cn.mk 267 0 _ @zPW
attribute [instance] zMp zPH
theorem zOR{y0:vY}{y1:Int}: zJ qd prog 190 [pt b1 0,vi y1] [bx b1 208 (zA1 y0 p1 c1 p2 c2)] (zA2 y0 p1 c1 p2 c2 []) (zDR y0 y1) λr K=>K (.tuple #[]) [bx b1 208 [vs r.1,vb r.2.1,vb r.2.2.1,vi r.xa.1,vi (a4 y0).1,vi (a5 y0).1,vi (a6 y0).1,vs (a4 r),vi (a8 y0).1.1,vi (a8 y0).1.2.1,vi (a8 y0).1.2.2.1,vb (a8 y0).1.2.2.2.1.1,vs (a8 y0).1.2.2.2.1.2,sv p1 (a8 y0).1.2.2.2.2 c1,vb (a9 y0).1.1,vs (a9 y0).1.2,vi (wS y0).1.1,vi (wS y0).1.2,vi (qL y0).1.1,vi (qL y0).1.2.1,vi (qL y0).1.2.2.1,vi (qL y0).1.2.2.2,vi ((fv (qY y0)).1),vs ((fv (qY y0)).2.1),sv p2 ((fv (qY y0)).2.2) c2]] []:=zO call190 func190 u λX=>au
abbrev zON:=@Cn.mk 190 0 _ @zOR
attribute [instance] zON
theorem zF9{y1:vY}: zJ qd prog 189 [pt b1 0] [bx b1 206 [pt b2 0],bx b2 208 (zA1 y1 p1 c1 p2 c2)] (zA2 y1 p1 c1 p2 c2 []) (zCV y1) λr K=>K (.tuple #[]) [bx b1 206 [pt b2 0],bx b2 208 [vs r.1,vb r.2.1,vb r.2.2.1,vi r.xa.1,vi (a4 y1).1,vi (a5 y1).1,vi (a6 y1).1,vs (a4 r),vi (a8 y1).1.1,vi (a8 y1).1.2.1,vi (a8 y1).1.2.2.1,vb (a8 y1).1.2.2.2.1.1,vs (a8 y1).1.2.2.2.1.2,sv p1 (a8 y1).1.2.2.2.2 c1,vb (a9 y1).1.1,vs (a9 y1).1.2,vi (wS y1).1.1,vi (wS y1).1.2,vi (qL y1).1.1,vi (qL y1).1.2.1,vi (qL y1).1.2.2.1,vi (qL y1).1.2.2.2,vi ((fv (qY y1)).1),vs ((fv (qY y1)).2.1),sv p2 ((fv (qY y1)).2.2) c2]] []:=zO call189 func189 u λX=>au
abbrev zLK:=@Cn.mk 189 0 _ @zF9
theorem zO2{y0:vY}{y1:Int}: zJ False prog 202 [pt b1 0,vi y1] [bx b1 208 (zA1 y0 p1 c1 p2 c2)] (zA2 y0 p1 c1 p2 c2 [vO 2,vO 3,Aa]) (zBG y0 y1) λr K=>K (.tuple #[]) [bx b1 208 [vs r.1,vb r.2.1,vb r.2.2.1,vi r.xa.1,vi (a4 y0).1,vi (a4 r).1,vi (a6 y0).1,vs (a7 y0).1,vi (a8 y0).1.1,vi (a8 y0).1.2.1,vi (a8 y0).1.2.2.1,vb (a8 y0).1.2.2.2.1.1,vs (a8 y0).1.2.2.2.1.2,sv p1 (a8 y0).1.2.2.2.2 c1,vb (a9 y0).1.1,vs (a9 y0).1.2,vi (wS y0).1.1,vi (wS y0).1.2,vi (a5 r).1,vi (a6 r).1,vi (a7 r).1,vi (a8 r),vi ((fv (qY y0)).1),vs ((fv (qY y0)).2.1),sv p2 ((fv (qY y0)).2.2) c2]] []:=zO call202 func202 u λX=>hI 1 2 1 (λ(s1:zA×Bool×Bool×Int) K=>K [0,1] [(0,.c [(0,vs s1.1),(1,vb s1.2.1),(2,vb s1.2.2.1),(20,vi s1.xa)])] [0,1,2,3,4] [] [])<|au
abbrev zO8:=@Cn.mk 202 0 _ @zO2
attribute [instance] zLK zO8
theorem zFT{y1:vY}: zJ False prog 201 [pt b1 0] [bx b1 206 [pt b2 0],bx b2 208 (zA1 y1 p1 c1 p2 c2)] (zA2 y1 p1 c1 p2 c2 [vO 2,vO 3,Aa]) (zB0 y1) λr K=>K (.tuple #[]) [bx b1 206 [pt b2 0],bx b2 208 [vs r.1,vb r.2.1,vb r.2.2.1,vi r.xa.1,vi (a4 y1).1,vi (a4 r).1,vi (a6 y1).1,vs (a7 y1).1,vi (a8 y1).1.1,vi (a8 y1).1.2.1,vi (a8 y1).1.2.2.1,vb (a8 y1).1.2.2.2.1.1,vs (a8 y1).1.2.2.2.1.2,sv p1 (a8 y1).1.2.2.2.2 c1,vb (a9 y1).1.1,vs (a9 y1).1.2,vi (wS y1).1.1,vi (wS y1).1.2,vi (a5 r).1,vi (a6 r).1,vi (a7 r).1,vi (a8 r),vi ((fv (qY y1)).1),vs ((fv (qY y1)).2.1),sv p2 ((fv (qY y1)).2.2) c2]] []:=zO call201 func201 u λX=>au
abbrev zJs:=@Cn.mk 201 0 _ @zFT
theorem zFS{y1:vY}: zJ False prog 203 [pt b1 0] [bx b1 206 [pt b2 0],bx b2 208 (zA1 y1 p1 c1 p2 c2)] (zA2 y1 p1 c1 p2 c2 [vO 2,vO 3,Aa]) (zBY y1) λr K=>K (.tuple #[]) [bx b1 206 [pt b2 0],bx b2 208 [vs r.1,vb r.2.1,vb r.2.2.1,vi r.xa.1,vi (a4 y1).1,vi (a4 r).1,vi (a6 y1).1,vs (a7 y1).1,vi (a8 y1).1.1,vi (a8 y1).1.2.1,vi (a8 y1).1.2.2.1,vb (a8 y1).1.2.2.2.1.1,vs (a8 y1).1.2.2.2.1.2,sv p1 (a8 y1).1.2.2.2.2 c1,vb (a9 y1).1.1,vs (a9 y1).1.2,vi (wS y1).1.1,vi (wS y1).1.2,vi (a5 r).1,vi (a6 r).1,vi (a7 r).1,vi (a8 r),vi ((fv (qY y1)).1),vs ((fv (qY y1)).2.1),sv p2 ((fv (qY y1)).2.2) c2]] []:=zO call203 func203 u λX=>au
abbrev zJr:=@Cn.mk 203 0 _ @zFS
theorem zFU{y1:vY}: zJ False prog 204 [pt b1 0] [bx b1 206 [pt b2 0],bx b2 208 (zA1 y1 p1 c1 p2 c2)] (zA2 y1 p1 c1 p2 c2 [vO 2,vO 3,Aa]) (zB3 y1) λr K=>K (.tuple #[]) [bx b1 206 [pt b2 0],bx b2 208 [vs r.1,vb r.2.1,vb r.2.2.1,vi r.xa.1,vi (a4 y1).1,vi (a4 r).1,vi (a6 y1).1,vs (a7 y1).1,vi (a8 y1).1.1,vi (a8 y1).1.2.1,vi (a8 y1).1.2.2.1,vb (a8 y1).1.2.2.2.1.1,vs (a8 y1).1.2.2.2.1.2,sv p1 (a8 y1).1.2.2.2.2 c1,vb (a9 y1).1.1,vs (a9 y1).1.2,vi (wS y1).1.1,vi (wS y1).1.2,vi (a5 r).1,vi (a6 r).1,vi (a7 r).1,vi (a8 r),vi ((fv (qY y1)).1),vs ((fv (qY y1)).2.1),sv p2 ((fv (qY y1)).2.2) c2]] []:=zO call204 func204 u λX=>au
abbrev zJy:=@Cn.mk 204 0 _ @zFU
theorem zPC{y0:zA}: zJ qd prog 261 [vs y0] [] [] (zBj y0) λr K=>K (vb r) [] []:=zO call261 func261 u λX=>jA 1 u<|zS<|zYH (λK=>K [0] [] [] [(12,vb (((len y0)==0)||(decide (12<(len y0)))))] []) (au)<|λ_ k=>k<|zU u (au)<|jC<|zS<|jA 3 u<|qJ<|wY (λs1 K=>K [0,14] [] [] [(15,vi s1)] []) (gv kk [] d)<|λs1 _ k=>k<|jA 1 u<|zS<|zU u (jC<|zS<|qJ<|jA 2 u<|zF<|zB 2 u<|yT λx1 h1=>jv (λh=>z1g h u u underlying9 h1)<|hP 4 8 0 (λK=>K [0,3,4,14,15] [] [] [(21,vb ((decide (97<=x1))&&(decide (x1<=122))))] [])<|hP 4 9 0 (λK=>K [0,14,15] [] [] [(28,vb ((decide (0<s1))&&(if decide (48<=x1) then(decide (x1<=57))||(x1==95) else x1==95)))] [])<|au)<|au
abbrev zP5:=@Cn.mk 261 0 _ @zPC
attribute [instance] zJs zJr zJy zP5
theorem zTz{y0:zH}: zJ qd prog 185 [.agg #[vb y0.1,vs y0.2]] [] [] (zEz y0) λr K=>K (vb r) [] []:=zO call185 func185 u λX=>au
abbrev zUg:=@Cn.mk 185 0 _ @zTz
attribute [instance] zUg
theorem zTw{y0:zA}: zJ qd prog 268 [vs y0] [] [] (zGz y0) λr K=>K (.tuple #[.agg #[vb r.1.1,vs r.1.2],vi r.2]) [] []:=zO call268 func268 u λX=>hI 1 2 1 (λ(s1:zA×Bool) K=>K [2,4] [(1,.c [(0,vb s1.2)])] [] [(0,vs s1.1)] [])<|hI 1 2 0 (λ(s2:Bool) K=>K [0,2,4] [] [] [(12,vb s2)] [])<|au
abbrev zTX:=@Cn.mk 268 0 _ @zTw
attribute [instance] zTX
theorem zDr{y0:vY}: zJ qd prog 200 [pt b1 0] [bx b1 208 (zA1 y0 p1 c1 p2 c2)] (zA2 y0 p1 c1 p2 c2 []) (zAb y0) λr K=>K (.agg #[vb r.1.1,vs r.1.2]) [bx b1 208 [vs r.2.1,vb r.2.2.1,vb r.xa,vi y0.xa.1,vi (a4 y0).1,vi (a5 y0).1,vi (a6 y0).1,vs (a7 y0).1,vi (a8 y0).1.1,vi (a8 y0).1.2.1,vi (a8 y0).1.2.2.1,vb (a8 y0).1.2.2.2.1.1,vs (a8 y0).1.2.2.2.1.2,sv p1 (a8 y0).1.2.2.2.2 c1,vb (a9 y0).1.1,vs (a9 y0).1.2,vi (wS y0).1.1,vi (wS y0).1.2,vi (qL y0).1.1,vi (qL y0).1.2.1,vi (qL y0).1.2.2.1,vi (qL y0).1.2.2.2,vi ((fv (qY y0)).1),vs ((fv (qY y0)).2.1),sv p2 ((fv (qY y0)).2.2) c2]] []:=zO call200 func200 u λX=>hI 1 2 0 (λ(s1:Bool) K=>K [2,3] [(0,.c [(2,vb s1)])] [0,1] [] [])<|au
abbrev zLs:=@Cn.mk 200 0 _ @zDr
attribute [instance] zLs
theorem zFV{y1:vY}: zJ False prog 205 [pt b1 0] [bx b1 206 [pt b2 0],bx b2 208 (zA1 y1 p1 c1 p2 c2)] (zA2 y1 p1 c1 p2 c2 [vO 2,vO 3,Aa]) (zBZ y1) λr K=>K (.tuple #[]) [bx b1 206 [pt b2 0],bx b2 208 [vs r.1,vb r.2.1,vb r.2.2.1,vi r.xa.1,vi (a4 y1).1,vi (a5 y1).1,vi (a4 r).1,vs (a7 y1).1,vi (a8 y1).1.1,vi (a8 y1).1.2.1,vi (a8 y1).1.2.2.1,vb (a8 y1).1.2.2.2.1.1,vs (a8 y1).1.2.2.2.1.2,sv p1 (a8 y1).1.2.2.2.2 c1,vb (a5 r).1,vs (a6 r),vi (wS y1).1.1,vi (wS y1).1.2,vi (qL y1).1.1,vi (qL y1).1.2.1,vi (qL y1).1.2.2.1,vi (qL y1).1.2.2.2,vi ((fv (qY y1)).1),vs ((fv (qY y1)).2.1),sv p2 ((fv (qY y1)).2.2) c2]] []:=zO call205 func205 u λX=>hD 0 [] [0] (.l [0,1,2,3,5] (.f 4 (.f 6 (.l [7,8,9] (.f 10 (.l [11,12,13] (.f 14 (.l [15,16,17] (.f 18 .e)))))))))<|au
abbrev zJu:=@Cn.mk 205 0 _ @zFV
attribute [instance] zJu
theorem zPE (k:Nat):
    (∀ {y0:zC} {p1:Option Ax} {c1:Nat},zJ qd prog 297 [.agg #[vi ((fv y0).1),vs ((fv y0).2.1),sv p1 ((fv y0).2.2) c1]] [] [Rl qF p1 c1 ((fv y0).2.2)] (zDX k y0) λr K=>K (vi r) [] []):=by
  induction k with
  | zero=>exact xA call297
  | succ k ih=>
    have ih_formula_Depth:=@ih;have zNi:=@Cn.mk 297 0 _ (@ih_formula_Depth);exact @λy0 p1 c1=>zO (m1:=zJ5 (zDX k) y0) call297 func297 u λX=>hI 0 3 1 (λ(s1:Int×Int) K=>K [7,8] [(0,.r [])] [0] [(3,vi s1.1),(9,vi s1.2)] [])<|
 au
theorem zU5{y0:zC}: zJ qd prog 297 [.agg #[vi ((fv y0).1),vs ((fv y0).2.1),sv p1 ((fv y0).2.2) c1]] [] [Rl qF p1 c1 ((fv y0).2.2)] (zEg y0) λr K=>K (vi r) [] []:=uY λk=>(zPE k)
abbrev zNi:=@Cn.mk 297 0 _ @zU5
attribute [instance] zNi
theorem zQl (k:Nat):
    (∀ {y0:zC} {p1:Option Ax} {c1:Nat},zJ qd prog 296 [.agg #[vi ((fv y0).1),vs ((fv y0).2.1),sv p1 ((fv y0).2.2) c1]] [] [Rl qF p1 c1 ((fv y0).2.2)] (zEO k y0) λr K=>K (vi r) [] []):=by
  induction k with
  | zero=>exact xA call296
  | succ k ih=>
    have ih_formula_Size:=@ih;have zOi:=@Cn.mk 296 0 _ (@ih_formula_Size);exact @λy0 p1 c1=>zO (m1:=zLB (zEO k) y0) call296 func296 u λX=>hI 0 3 1 (λ(s1:Int×Int) K=>K [7,8] [(0,.r [])] [0] [(3,vi s1.1),(9,vi s1.2)] [])<|
 au
theorem zVY{y0:zC}: zJ qd prog 296 [.agg #[vi ((fv y0).1),vs ((fv y0).2.1),sv p1 ((fv y0).2.2) c1]] [] [Rl qF p1 c1 ((fv y0).2.2)] (zFh y0) λr K=>K (vi r) [] []:=uY λk=>(zQl k)
abbrev zOi:=@Cn.mk 296 0 _ @zVY
theorem zUs{y0:Int}: zJ qd prog 363 [.int .u8 y0] [] [] (zHu y0) λr K=>K (vb r) [] []:=zO call363 func363 u λX=>hP 4 1 0 (λK=>K [] [] [] [(2,vb (if decide (97<=y0) then(decide (y0<=122))||(if decide (65<=y0) then(decide (y0<=90))||(if decide (48<=y0) then(decide (y0<=57))||(y0==95) else y0==95) else if decide (48<=y0) then(decide (y0<=57))||(y0==95) else y0==95) else if decide (65<=y0) then(decide (y0<=90))||(if decide (48<=y0) then(decide (y0<=57))||(y0==95) else y0==95) else if decide (48<=y0) then(decide (y0<=57))||(y0==95) else y0==95))] [])<|au
abbrev zVS:=@Cn.mk 363 0 _ @zUs
attribute [instance] zOi zVS
theorem zBn{y0:wA}: zJ qd prog 347 [pt b1 0] [bx b1 365 (zA6 y0)] [] (zAQ y0) λr K=>K (.agg (zTu r.1).toArray) [bx b1 365 [vs y0.1,vi r.2,vi y0.2.2.1,vb y0.xa]] []:=zO call347 func347 u λX=>zF<|qM .s (.agg #[Af,Af,Ae])<|λb2=>zG<|qQ (λs1 K=>K [0,2] [(0,bx b1 365 [vs y0.1,vi s1,vi y0.2.2.1,vb y0.xa])] [] [] []) (hD 1 [] [0] (.l [0,1,2,3,4,5,6,7,8,9,10] (.s 18 (.l [11,12,13,14,15,16,17,18,19,20,21] .e) (.l [11,12,13,14,15,16,17,18,19,20,21] .e)))<|hI 0 1 2 (λ(s2:Int) K=>K [0,2] [(0,.c [(1,vi s2)])] [] [] [])<|hI 1 1 0 (λ(s3:Bool) K=>K [0,2] [] [] [(29,vb s3)] [])<|au)<|λs1 _ k=>k<|xW [] [0] 10<|zP 8 [0,1] u<|qC 2 0 u u<|wM 3 0 u u u u<|zP 4 [4,5] u<|qC 6 1 u u<|wM 7 0 u u u u<|yT λx2 h2=>jdv 8 u (λh=>zYL h u underlying9 u u (.inr ⟨_,rfl⟩) (.inl ⟨rfl,rfl⟩) h2)<|zP 0 [9] u<|qD<|wN<|zS<|jA 2 u<|zU u (au)<|jC<|jA 1 u<|qQ (λs4 K=>K [0,2,3] [] [] [(4,vi s4)] []) (hI 0 7 2 (λ(s5:Int) K=>K [0,2,3] [] [] [(4,vi s5)] [])<|hI 1 7 0 (λ(s6:Bool) K=>K [0,2,3,4] [] [] [(63,vb s6)] [])<|au)<|λs4 _ k=>k<|zS<|zF<|zB 2 u<|yT λx4 h4=>jv (λh=>zYL h u underlying9 u u (.inl ⟨rfl,rfl⟩) (.inr ⟨_,rfl⟩) h4)<|hP 4 10 0 (λK=>K [0,2,3,4,5] [] [] [(69,vb ((x4==[48])||(x4==[49])))] [])<|hI 2 16 1 (λ(s7:Unit) K=>K [0,2] [] [] [] [])<|hI 0 17 1 (λ(s8:Int) K=>K [0,2,3,101,102] [] [0] [(103,vi s8)] [])<|hI 1 19 0 (λ(s9:Bool) K=>K [0,2,3,7,101,102,103] [] [1] [(119,vb s9)] [])<|au
abbrev zNx:=@Cn.mk 347 0 _ @zBn
attribute [instance] zNx
theorem zNl{y0:wA}: zJ qd prog 328 [pt b1 0] [bx b1 365 (zA6 y0)] [] (zAc y0) λr K=>∀ p1 c1,K (.agg #[vi ((fv r.1).1),vs ((fv r.1).2.1),sv p1 ((fv r.1).2.2) c1]) [bx b1 365 [vs y0.1,vi r.2.1,vi r.2.2,vb y0.xa]] [Rl qF p1 c1 ((fv r.1).2.2)]:=zO call328 func328 u λX=>zF<|qM .s (.agg k0)<|λb2=>zG<|qQ (λs1 K=>K [2] [(0,bx b1 365 [vs y0.1,vi s1.1,vi s1.2,vb y0.xa])] [] [] []) (zF<|zB 2 u<|zL 2 u<|zZ 0 u u u<|zB 1 u<|zG<|zU u (wR<|zB 2 u<|zY .s [0] [] zBn u u u d<|λr1 _ k=>k<|jv (v:=vi r1.1.2.2) (λh=>z0H h u (by kernel_rfl))<|au)<|yU<|zX (gv kk [0,1] d))<|au
abbrev zNF:=@Cn.mk 328 0 _ @zNl
theorem zAv{y0:wA}{y1:zA}: zJ qd prog 327 [pt b1 0,vs y1] [bx b1 365 (zA6 y0)] [] (tL y0 y1) λr K=>K (vb r.1) [bx b1 365 [vs y0.1,vi r.2,vi y0.2.2.1,vb y0.xa]] []:=zO call327 func327 u λX=>jA 1 u<|zF<|zB 1 u<|zY .s [0] [] zBn u u u d<|λr1 _ k=>k<|hD 4 [10] [0,1] (.l [0,1,2,3,4,5,6,7,8,9] (.f 10 (.b [] [0,1] .e)))<|hP 4 2 0 (λK=>K [0,5] [] [] [(18,vb ((decide (0<=y0.2.2.1))||(!(r1.1.1==y1))))] [])<|au
abbrev zNE:=@Cn.mk 327 0 _ @zAv
end Go.Proofs.YtkmalbjjjappgaaGreatDoor
