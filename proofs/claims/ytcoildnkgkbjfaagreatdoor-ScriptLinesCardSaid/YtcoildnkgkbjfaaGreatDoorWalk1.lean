/- A part. Conditions: none. -/
import Derived.Test.YtcoildnkgkbjfaaGreatDoorProg
import Derived.Test.YtcoildnkgkbjfaaGreatDoorSb3
import Derived.Test.YtcoildnkgkbjfaaGreatDoorMpf
import Derived.Test.YtcoildnkgkbjfaaGreatDoorRng
import Derived.Test.YtcoildnkgkbjfaaGreatDoorFrmJ
import Derived.Test.YtcoildnkgkbjfaaGreatDoorModels
import Derived.Test.YtcoildnkgkbjfaaGreatDoorShelfP
import Derived.Test.YtcoildnkgkbjfaaGreatDoorSb4
import Derived.Test.YtcoildnkgkbjfaaGreatDoorAeq
import Derived.Test.YtcoildnkgkbjfaaGreatDoorAu
namespace Go.Proofs.YtcoildnkgkbjfaaGreatDoor
open Go Go.GD Tryz
set_option autoImplicit false
set_option linter.unusedVariables false
set_option maxRecDepth 100000
set_option linter.defProp false
variable {qd:Prop}
variable {yl1:Nat}{p1 p2 p3 p4 p5 p6 p7 p8 p9 p10 p11 p12 p13 p14 p15 p16:Option Addr}{c1 c2 c3 c4 c5 c6 c7 c8 c9 c10 c11 c12 c13 c14 c15 c16:Nat}{b1 b2 b3:Nat}{r_1 r_2:zH}
abbrev qU:E zE:=qM zH8 wD
abbrev zBA:yI qU:=(oP oB oS)
abbrev zRQ:E zOq:=qM (zR .i64) (qM (zR .i64) (qM (zR .i64) (qM qU (wJ qU))))
abbrev zZM:yI zRQ:=(oP oI (oP oI (oP oI (oP zBA oL))))
abbrev v_Speech (y:zOq)(p1:Option Addr)(c1:Nat): List Value:=[vi y.1,vi y.2.1,vi y.2.2.1,vb y.2.2.2.1.1,vs y.2.2.2.1.2,sv p1 y.2.2.2.2 c1]
abbrev f_Speech (y:zOq)(p1:Option Addr)(c1:Nat)(t:List PP): List PP:=Rl qU p1 c1 y.2.2.2.2::t
abbrev zJB:E zFm:=qM (zR .i64) (qM (zR .i64) (qM (zR .i64) (zR .i64)))
abbrev zYn:yI zJB:=(oP oI (oP oI (oP oI oI)))
abbrev v_Move (y:zFm): List Value:=[vi y.1,vi y.2.1,vi y.2.2.1,vi y.2.2.2]
abbrev zD4:E qZ:=qM (zR .i64) (qM (zR .i64) (qM (zR .i64) (qM (zR .i64) (qM wD (qM zRQ (qM qU (qM (qM (zR .i64) (zR .i64)) (qM zJB qD))))))))
abbrev zJS:yI zD4:=(oP oI (oP oI (oP oI (oP oI (oP oS (oP zZM (oP zBA (oP (oP oI oI) (oP zYn zJr)))))))))
abbrev zAg (y:qZ)(p1:Option Addr)(c1:Nat)(p2:Option Addr)(c2:Nat): List Value:=[vi y.1,vi y.2.1,vi y.2.2.1,vi y.2.2.2.1,vs y.2.2.2.2.1,vi y.2.2.2.2.2.1.1,vi y.2.2.2.2.2.1.2.1,vi y.2.2.2.2.2.1.2.2.1,vb y.2.2.2.2.2.1.2.2.2.1.1,vs y.2.2.2.2.2.1.2.2.2.1.2,sv p1 y.2.2.2.2.2.1.2.2.2.2 c1,vb y.2.2.2.2.2.2.1.1,vs y.2.2.2.2.2.2.1.2,vi y.2.2.2.2.2.2.2.1.1,vi y.2.2.2.2.2.2.2.1.2,vi y.2.2.2.2.2.2.2.2.1.1,vi y.2.2.2.2.2.2.2.2.1.2.1,vi y.2.2.2.2.2.2.2.2.1.2.2.1,vi y.2.2.2.2.2.2.2.2.1.2.2.2,vi ((fv y.2.2.2.2.2.2.2.2.2).1),vs ((fv y.2.2.2.2.2.2.2.2.2).2.1),sv p2 ((fv y.2.2.2.2.2.2.2.2.2).2.2) c2]
abbrev xV (y:qZ)(p1:Option Addr)(c1:Nat)(p2:Option Addr)(c2:Nat)(t:List PP): List PP:=Rl qU p1 c1 y.2.2.2.2.2.1.2.2.2.2::Rl qD p2 c2 ((fv y.2.2.2.2.2.2.2.2.2).2.2)::t
abbrev zS6:E vJ:=qM wD (qM zH8 (qM zH8 zD4))
abbrev z13:yI zS6:=(oP oS (oP oB (oP oB zJS)))
abbrev zAZ (y:vJ)(p1:Option Addr)(c1:Nat)(p2:Option Addr)(c2:Nat): List Value:=[vs y.1,vb y.2.1,vb y.2.2.1,vi y.2.2.2.1,vi y.2.2.2.2.1,vi y.2.2.2.2.2.1,vi y.2.2.2.2.2.2.1,vs y.2.2.2.2.2.2.2.1,vi y.2.2.2.2.2.2.2.2.1.1,vi y.2.2.2.2.2.2.2.2.1.2.1,vi y.2.2.2.2.2.2.2.2.1.2.2.1,vb y.2.2.2.2.2.2.2.2.1.2.2.2.1.1,vs y.2.2.2.2.2.2.2.2.1.2.2.2.1.2,sv p1 y.2.2.2.2.2.2.2.2.1.2.2.2.2 c1,vb y.2.2.2.2.2.2.2.2.2.1.1,vs y.2.2.2.2.2.2.2.2.2.1.2,vi y.2.2.2.2.2.2.2.2.2.2.1.1,vi y.2.2.2.2.2.2.2.2.2.2.1.2,vi y.2.2.2.2.2.2.2.2.2.2.2.1.1,vi y.2.2.2.2.2.2.2.2.2.2.2.1.2.1,vi y.2.2.2.2.2.2.2.2.2.2.2.1.2.2.1,vi y.2.2.2.2.2.2.2.2.2.2.2.1.2.2.2,vi ((fv y.2.2.2.2.2.2.2.2.2.2.2.2).1),vs ((fv y.2.2.2.2.2.2.2.2.2.2.2.2).2.1),sv p2 ((fv y.2.2.2.2.2.2.2.2.2.2.2.2).2.2) c2]
abbrev zAY (y:vJ)(p1:Option Addr)(c1:Nat)(p2:Option Addr)(c2:Nat)(t:List PP): List PP:=Rl qU p1 c1 y.2.2.2.2.2.2.2.2.1.2.2.2.2::Rl qD p2 c2 ((fv y.2.2.2.2.2.2.2.2.2.2.2.2).2.2)::t
abbrev zQw:E qR:=qM wD (qM (zR .i64) (qM (zR .i64) zH8))
abbrev z0r:yI zQw:=(oP oS (oP oI (oP oI oB)))
abbrev zA3 (y:qR): List Value:=[vs y.1,vi y.2.1,vi y.2.2.1,vb y.2.2.2]
abbrev zRY:E zAr:=qM wD (qM wD (zR .i64))
abbrev z1y:yI zRY:=(oP oS (oP oS oI))
abbrev zRx (y:zAr): List Value:=[vs y.1,vs y.2.1,vi y.2.2]
abbrev zSg:E zAQ:=qM zD4 (qM (wJ wD) zH8)
abbrev z36:yI zSg:=(oP zJS (oP oL oB))
abbrev z1S (y:zAQ)(p1:Option Addr)(c1:Nat)(p2:Option Addr)(c2:Nat)(p3:Option Addr)(c3:Nat): List Value:=[vi y.1.1,vi y.1.2.1,vi y.1.2.2.1,vi y.1.2.2.2.1,vs y.1.2.2.2.2.1,vi y.1.2.2.2.2.2.1.1,vi y.1.2.2.2.2.2.1.2.1,vi y.1.2.2.2.2.2.1.2.2.1,vb y.1.2.2.2.2.2.1.2.2.2.1.1,vs y.1.2.2.2.2.2.1.2.2.2.1.2,sv p1 y.1.2.2.2.2.2.1.2.2.2.2 c1,vb y.1.2.2.2.2.2.2.1.1,vs y.1.2.2.2.2.2.2.1.2,vi y.1.2.2.2.2.2.2.2.1.1,vi y.1.2.2.2.2.2.2.2.1.2,vi y.1.2.2.2.2.2.2.2.2.1.1,vi y.1.2.2.2.2.2.2.2.2.1.2.1,vi y.1.2.2.2.2.2.2.2.2.1.2.2.1,vi y.1.2.2.2.2.2.2.2.2.1.2.2.2,vi ((fv y.1.2.2.2.2.2.2.2.2.2).1),vs ((fv y.1.2.2.2.2.2.2.2.2.2).2.1),sv p2 ((fv y.1.2.2.2.2.2.2.2.2.2).2.2) c2,sv p3 y.2.1 c3,vb y.2.2]
abbrev z3D (y:zAQ)(p1:Option Addr)(c1:Nat)(p2:Option Addr)(c2:Nat)(p3:Option Addr)(c3:Nat)(t:List PP): List PP:=Rl qU p1 c1 y.1.2.2.2.2.2.1.2.2.2.2::Rl qD p2 c2 ((fv y.1.2.2.2.2.2.2.2.2.2).2.2)::Rl wD p3 c3 y.2.1::t
abbrev z0H:E vH:=qM (wJ (zR .i64)) (zR .i64)
abbrev z7i:yI z0H:=(oP oL oI)
abbrev zCH (y:vH)(p1:Option Addr)(c1:Nat): List Value:=[sv p1 y.1 c1,vi y.2]
abbrev zCB (y:vH)(p1:Option Addr)(c1:Nat)(t:List PP): List PP:=Rl (zR .i64) p1 c1 y.1::t
abbrev zP7:E zAm:=qM (zR .i64) (zR .i64)
abbrev zUK:yI zP7:=(oP oI oI)
abbrev zBG:E yD:=qM qU (qM (zR .i64) (qM (zR .i64) wD))
abbrev zWz:yI zBG:=(oP zBA (oP oI (oP oI oS)))
abbrev zRk (y:yD): List Value:=[vb y.1.1,vs y.1.2,vi y.2.1,vi y.2.2.1,vs y.2.2.2]
abbrev uC:E qW:=qM wD (qM zH8 (qM (zR .i64) (qM (wJ qU) qU)))
abbrev zVm:yI uC:=(oP oS (oP oB (oP oI (oP oL zBA))))
abbrev z35 (y:qW)(p1:Option Addr)(c1:Nat): List Value:=[vs y.1,vb y.2.1,vi y.2.2.1,sv p1 y.2.2.2.1 c1,vb y.2.2.2.2.1,vs y.2.2.2.2.2]
abbrev z1g (y:qW)(p1:Option Addr)(c1:Nat)(t:List PP): List PP:=Rl qU p1 c1 y.2.2.2.1::t
abbrev tO:E yF:=qM wD (qM (zR .i64) qU)
abbrev zSi:yI tO:=(oP oS (oP oI zBA))
abbrev zRy (y:yF): List Value:=[vs y.1,vi y.2.1,vb y.2.2.1,vs y.2.2.2]
abbrev zXF:E zX:=qM (wJ zBG) (qM (wJ uC) (wJ tO))
abbrev zZd:yI zXF:=(oP oL (oP oL oL))
abbrev zEf (y:zX)(p1:Option Addr)(c1:Nat)(p2:Option Addr)(c2:Nat)(p3:Option Addr)(c3:Nat): List Value:=[sv p1 y.1 c1,sv p2 y.2.1 c2,sv p3 y.2.2 c3]
abbrev zFA (y:zX)(p1:Option Addr)(c1:Nat)(p2:Option Addr)(c2:Nat)(p3:Option Addr)(c3:Nat)(t:List PP): List PP:=Rl zBG p1 c1 y.1::Rl uC p2 c2 y.2.1::Rl tO p3 c3 y.2.2::t
abbrev zLc:E zCu:=qM (wJ wD) (qM (zR .i64) (qM zP7 zXF))
abbrev zQH:yI zLc:=(oP oL (oP oI (oP zUK zZd)))
abbrev zQQ (y:zCu)(p1:Option Addr)(c1:Nat)(p2:Option Addr)(c2:Nat)(p3:Option Addr)(c3:Nat)(p4:Option Addr)(c4:Nat): List Value:=[sv p1 y.1 c1,vi y.2.1,vi y.2.2.1.1,vi y.2.2.1.2,sv p2 y.2.2.2.1 c2,sv p3 y.2.2.2.2.1 c3,sv p4 y.2.2.2.2.2 c4]
abbrev zPz (y:zCu)(p1:Option Addr)(c1:Nat)(p2:Option Addr)(c2:Nat)(p3:Option Addr)(c3:Nat)(p4:Option Addr)(c4:Nat)(t:List PP): List PP:=Rl wD p1 c1 y.1::Rl zBG p2 c2 y.2.2.2.1::Rl uC p3 c3 y.2.2.2.2.1::Rl tO p4 c4 y.2.2.2.2.2::t
abbrev zGX:E zB0:=qM qU (qM zH8 (qM zH8 (wJ qU)))
abbrev z6D:yI zGX:=(oP zBA (oP oB (oP oB oL)))
abbrev z5y (y:zB0)(p1:Option Addr)(c1:Nat): List Value:=[vb y.1.1,vs y.1.2,vb y.2.1,vb y.2.2.1,sv p1 y.2.2.2 c1]
abbrev z5i (y:zB0)(p1:Option Addr)(c1:Nat)(t:List PP): List PP:=Rl qU p1 c1 y.2.2.2::t
abbrev zEu:E wU:=qM (zR .i64) (zR .i64)
abbrev o_Pair:yI zEu:=(oP oI oI)
abbrev zRn:E uF:=qM (zR .i64) (wJ zEu)
abbrev zUn:yI zRn:=(oP oI oL)
abbrev zKR (y:uF)(p1:Option Addr)(c1:Nat): List Value:=[vi y.1,sv p1 y.2 c1]
abbrev f_Graph (y:uF)(p1:Option Addr)(c1:Nat)(t:List PP): List PP:=Rl zEu p1 c1 y.2::t
abbrev zPX:E xU:=qM zRn (qM (zR .i64) (qM (qM (zR .i64) (zR .i64)) (wJ zJB)))
abbrev zUO:yI zPX:=(oP zUn (oP oI (oP (oP oI oI) oL)))
abbrev zGW (y:xU)(p1:Option Addr)(c1:Nat)(p2:Option Addr)(c2:Nat): List Value:=[vi y.1.1,sv p1 y.1.2 c1,vi y.2.1,vi y.2.2.1.1,vi y.2.2.1.2,sv p2 y.2.2.2 c2]
abbrev zGU (y:xU)(p1:Option Addr)(c1:Nat)(p2:Option Addr)(c2:Nat)(t:List PP): List PP:=Rl zEu p1 c1 y.1.2::Rl zJB p2 c2 y.2.2.2::t
abbrev zZl:E zOd:=qM qU zPX
abbrev o_Talk:yI zZl:=(oP zBA zUO)
abbrev v_Talk (y:zOd)(p1:Option Addr)(c1:Nat)(p2:Option Addr)(c2:Nat): List Value:=[vb y.1.1,vs y.1.2,vi y.2.1.1,sv p1 y.2.1.2 c1,vi y.2.2.1,vi y.2.2.2.1.1,vi y.2.2.2.1.2,sv p2 y.2.2.2.2 c2]
abbrev f_Talk (y:zOd)(p1:Option Addr)(c1:Nat)(p2:Option Addr)(c2:Nat)(t:List PP): List PP:=Rl zEu p1 c1 y.2.1.2::Rl zJB p2 c2 y.2.2.2.2::t
abbrev zPN:E zGV:=qM qU (qM zH8 (qM zRn (qM (zR .i64) (qM (wJ (zR .i64)) (wJ (zR .i64))))))
abbrev z7m:yI zPN:=(oP zBA (oP oB (oP zUn (oP oI (oP oL oL)))))
abbrev z7o (y:zGV)(p1:Option Addr)(c1:Nat)(p2:Option Addr)(c2:Nat)(p3:Option Addr)(c3:Nat): List Value:=[vb y.1.1,vs y.1.2,vb y.2.1,vi y.2.2.1.1,sv p1 y.2.2.1.2 c1,vi y.2.2.2.1,sv p2 y.2.2.2.2.1 c2,sv p3 y.2.2.2.2.2 c3]
abbrev z7l (y:zGV)(p1:Option Addr)(c1:Nat)(p2:Option Addr)(c2:Nat)(p3:Option Addr)(c3:Nat)(t:List PP): List PP:=Rl zEu p1 c1 y.2.2.1.2::Rl (zR .i64) p2 c2 y.2.2.2.2.1::Rl (zR .i64) p3 c3 y.2.2.2.2.2::t
abbrev zYZ:E zNU:=qM (wJ wD) (wJ (zR .i64))
abbrev z1F:yI zYZ:=(oP oL oL)
abbrev z2s (y:zNU)(p1:Option Addr)(c1:Nat)(p2:Option Addr)(c2:Nat): List Value:=[sv p1 y.1 c1,sv p2 y.2 c2]
abbrev z2M (y:zNU)(p1:Option Addr)(c1:Nat)(p2:Option Addr)(c2:Nat)(t:List PP): List PP:=Rl wD p1 c1 y.1::Rl (zR .i64) p2 c2 y.2::t
abbrev z25:E zGd:=qM zLc (qM zXF (qM (wJ (wJ zGX)) (qM (wJ zZl) (qM (wJ zPN) (qM zYZ (zR .i64))))))
abbrev z6d:yI z25:=(oP zQH (oP zZd (oP oL (oP oL (oP oL (oP z1F oI))))))
abbrev zUz (y:zGd)(p1:Option Addr)(c1:Nat)(p2:Option Addr)(c2:Nat)(p3:Option Addr)(c3:Nat)(p4:Option Addr)(c4:Nat)(p5:Option Addr)(c5:Nat)(p6:Option Addr)(c6:Nat)(p7:Option Addr)(c7:Nat)(p8:Option Addr)(c8:Nat)(p9:Option Addr)(c9:Nat)(p10:Option Addr)(c10:Nat)(p11:Option Addr)(c11:Nat)(p12:Option Addr)(c12:Nat): List Value:=[sv p1 y.1.1 c1,vi y.1.2.1,vi y.1.2.2.1.1,vi y.1.2.2.1.2,sv p2 y.1.2.2.2.1 c2,sv p3 y.1.2.2.2.2.1 c3,sv p4 y.1.2.2.2.2.2 c4,sv p5 y.2.1.1 c5,sv p6 y.2.1.2.1 c6,sv p7 y.2.1.2.2 c7,sv p8 y.2.2.1 c8,sv p9 y.2.2.2.1 c9,sv p10 y.2.2.2.2.1 c10,sv p11 y.2.2.2.2.2.1.1 c11,sv p12 y.2.2.2.2.2.1.2 c12,vi y.2.2.2.2.2.2]
abbrev zVU (y:zGd)(p1:Option Addr)(c1:Nat)(p2:Option Addr)(c2:Nat)(p3:Option Addr)(c3:Nat)(p4:Option Addr)(c4:Nat)(p5:Option Addr)(c5:Nat)(p6:Option Addr)(c6:Nat)(p7:Option Addr)(c7:Nat)(p8:Option Addr)(c8:Nat)(p9:Option Addr)(c9:Nat)(p10:Option Addr)(c10:Nat)(p11:Option Addr)(c11:Nat)(p12:Option Addr)(c12:Nat)(t:List PP): List PP:=Rl wD p1 c1 y.1.1::Rl zBG p2 c2 y.1.2.2.2.1::Rl uC p3 c3 y.1.2.2.2.2.1::Rl tO p4 c4 y.1.2.2.2.2.2::Rl zBG p5 c5 y.2.1.1::Rl uC p6 c6 y.2.1.2.1::Rl tO p7 c7 y.2.1.2.2::Rl (wJ zGX) p8 c8 y.2.2.1::Rl zZl p9 c9 y.2.2.2.1::Rl zPN p10 c10 y.2.2.2.2.1::Rl wD p11 c11 y.2.2.2.2.2.1.1::Rl (zR .i64) p12 c12 y.2.2.2.2.2.1.2::t
abbrev xF:E zU:=qM (zR .i64) (qM (zR .i64) (qM (wJ (zR .i64)) qU))
abbrev z7g:yI xF:=(oP oI (oP oI (oP oL zBA)))
abbrev z7j (y:zU)(p1:Option Addr)(c1:Nat): List Value:=[vi y.1,vi y.2.1,sv p1 y.2.2.1 c1,vb y.2.2.2.1,vs y.2.2.2.2]
abbrev z7k (y:zU)(p1:Option Addr)(c1:Nat)(t:List PP): List PP:=Rl (zR .i64) p1 c1 y.2.2.1::t
abbrev zDC:E wN:=qM (zR .i64) (qM (zR .i64) (qM (zR .i64) (zR .i64)))
abbrev z4X:yI zDC:=(oP oI (oP oI (oP oI oI)))
abbrev v_Attack (y:wN): List Value:=[vi y.1,vi y.2.1,vi y.2.2.1,vi y.2.2.2]
abbrev zTn:E zCQ:=qM zXF (qM (wJ xF) (qM (wJ zDC) zRn))
abbrev zZy:yI zTn:=(oP zZd (oP oL (oP oL zUn)))
abbrev zPE (y:zCQ)(p1:Option Addr)(c1:Nat)(p2:Option Addr)(c2:Nat)(p3:Option Addr)(c3:Nat)(p4:Option Addr)(c4:Nat)(p5:Option Addr)(c5:Nat)(p6:Option Addr)(c6:Nat): List Value:=[sv p1 y.1.1 c1,sv p2 y.1.2.1 c2,sv p3 y.1.2.2 c3,sv p4 y.2.1 c4,sv p5 y.2.2.1 c5,vi y.2.2.2.1,sv p6 y.2.2.2.2 c6]
abbrev zP0 (y:zCQ)(p1:Option Addr)(c1:Nat)(p2:Option Addr)(c2:Nat)(p3:Option Addr)(c3:Nat)(p4:Option Addr)(c4:Nat)(p5:Option Addr)(c5:Nat)(p6:Option Addr)(c6:Nat)(t:List PP): List PP:=Rl zBG p1 c1 y.1.1::Rl uC p2 c2 y.1.2.1::Rl tO p3 c3 y.1.2.2::Rl xF p4 c4 y.2.1::Rl zDC p5 c5 y.2.2.1::Rl zEu p6 c6 y.2.2.2.2::t
abbrev z3E:E zVq:=qM (zR .i64) (zR .i64)
abbrev o_Outcome:yI z3E:=(oP oI oI)
abbrev zT8:E wK:=qM wD (qM (zR .i64) (zR .i64))
abbrev z3h:yI zT8:=(oP oS (oP oI oI))
abbrev zBB (y:wK): List Value:=[vs y.1,vi y.2.1,vi y.2.2]
instance:Sh 3 false 1:=.mk
instance:Sh 4 false 1:=.mk
instance:Sh 5 false 1:=.mk
instance:Sh 9 false 1:=.mk
instance:Sh 23 true 2:=.mk
instance:Sh 24 false 1:=.mk
instance:Sh 26 true 6:=.mk
instance:Sh 27 true 2:=.mk
instance:Sh 29 true 4:=.mk
instance:Sh 30 false 1:=.mk
instance:Sh 32 true 3:=.mk
instance:Sh 34 true 22:=.mk
instance:Sh 35 false 1:=.mk
instance:Sh 40 false 1:=.mk
instance:Sh 42 true 2:=.mk
instance:Sh 43 false 1:=.mk
instance:Sh 44 false 1:=.mk
instance:Sh 45 false 1:=.mk
instance:Sh 47 true 3:=.mk
instance:Sh 49 true 7:=.mk
instance:Sh 53 true 1:=.mk
instance:Sh 54 false 1:=.mk
instance:Sh 57 true 2:=.mk
instance:Sh 59 true 16:=.mk
instance:Sh 68 false 1:=.mk
instance:Sh 79 false 1:=.mk
instance:Sh 80 false 1:=.mk
instance:Sh 81 false 1:=.mk
instance:Sh 83 true 2:=.mk
instance:Sh 85 true 7:=.mk
instance:Sh 99 false 1:=.mk
instance:Sh 101 true 6:=.mk
instance:Sh 119 true 5:=.mk
instance:Sh 124 true 6:=.mk
instance:Sh 126 true 4:=.mk
instance:Sh 140 false 1:=.mk
instance:Sh 159 false 1:=.mk
instance:Sh 184 true 4:=.mk
instance:Sh 186 true 2:=.mk
instance:Sh 201 true 2:=.mk
instance:Sh 300 true 3:=.mk
instance:Ty 3 (zR .i64) oI false:=.mk
instance:Ty 4 zH8 oB false:=.mk
instance:Ty 5 (zR .u8) oI false:=.mk
instance:Ty 9 wD oS false:=.mk
instance:Ty 23 qU zBA true:=.mk
instance:Ty 24 (wJ qU) oL false:=.mk
instance:Ty 26 zRQ zZM true:=.mk
instance:Ty 27 (qM (zR .i64) (zR .i64)) (oP oI oI) true:=.mk
instance:Ty 29 zJB zYn true:=.mk
instance:Ty 30 (wJ qD) oL false:=.mk
instance:Ty 32 qD zJr true:=.mk
instance:Ty 34 zD4 zJS true:=.mk
instance:Ty 35 (wJ (zR .i64)) oL false:=.mk
instance:Ty 40 (wJ wD) oL false:=.mk
instance:Ty 42 zP7 zUK true:=.mk
instance:Ty 43 (wJ zBG) oL false:=.mk
instance:Ty 44 (wJ uC) oL false:=.mk
instance:Ty 45 (wJ tO) oL false:=.mk
instance:Ty 47 zXF zZd true:=.mk
instance:Ty 49 zLc zQH true:=.mk
instance:Ty 53 (wJ (wJ zGX)) oL true:=.mk
instance:Ty 54 (wJ zZl) oL false:=.mk
instance:Ty 57 zYZ z1F true:=.mk
instance:Ty 59 z25 z6d true:=.mk
instance:Ty 68 (wJ (zR .u8)) oL false:=.mk
instance:Ty 79 (wJ xF) oL false:=.mk
instance:Ty 80 (wJ zDC) oL false:=.mk
instance:Ty 81 (wJ zEu) oL false:=.mk
instance:Ty 83 zRn zUn true:=.mk
instance:Ty 85 zTn zZy true:=.mk
instance:Ty 99 (wJ zJB) oL false:=.mk
instance:Ty 101 zPX zUO true:=.mk
instance:Ty 119 zBG zWz true:=.mk
instance:Ty 124 uC zVm true:=.mk
instance:Ty 126 tO zSi true:=.mk
instance:Ty 140 (zR .u64) oI false:=.mk
instance:Ty 184 zDC z4X true:=.mk
instance:Ty 186 zEu o_Pair true:=.mk
instance:Fs 23 [0,1]:=.mk
instance:Fs 26 [0,1,2,3,5]:=.mk
instance:Fs 27 [0,1]:=.mk
instance:Fs 29 [0,1,2,3]:=.mk
instance:Fs 32 [0,1,2]:=.mk
instance:Fs 34 [0,1,2,3,4,5,11,13,15,19]:=.mk
instance:Fs 42 [0,1]:=.mk
instance:Fs 47 [0,1,2]:=.mk
instance:Fs 49 [0,1,2,4]:=.mk
instance:Fs 53 [0]:=.mk
instance:Fs 57 [0,1]:=.mk
instance:Fs 59 [0,7,10,11,12,13,15]:=.mk
instance:Fs 75 [0,1]:=.mk
instance:Fs 83 [0,1]:=.mk
instance:Fs 85 [0,3,4,5]:=.mk
instance:Fs 101 [0,2,3,5]:=.mk
instance:Fs 103 [0,2]:=.mk
instance:Fs 108 [0,22,23]:=.mk
instance:Fs 119 [0,2,3,4]:=.mk
instance:Fs 124 [0,1,2,3,4]:=.mk
instance:Fs 126 [0,1,2]:=.mk
instance:Fs 152 [0]:=.mk
instance:Fs 161 [0,1,2,3]:=.mk
instance:Fs 178 [0,1,2,3]:=.mk
instance:Fs 184 [0,1,2,3]:=.mk
instance:Fs 186 [0,1]:=.mk
instance:Fs 201 [0,1]:=.mk
instance:Fs 217 [0,1,2]:=.mk
instance:Fs 282 [0,1,2,3]:=.mk
instance:Fs 300 [0,1,2]:=.mk
instance:Zr 23 (.agg #[vb false,vs []]):=.mk
instance:Zr 26 (.agg #[vi 0,vi 0,vi 0,vb false,vs [],.slice none 0 0]):=.mk
instance:Zr 27 (.agg #[vi 0,vi 0]):=.mk
instance:Zr 29 (.agg #[vi 0,vi 0,vi 0,vi 0]):=.mk
instance:Zr 32 (.agg #[vi 0,vs [],.slice none 0 0]):=.mk
instance:Zr 34 (.agg #[vi 0,vi 0,vi 0,vi 0,vs [],vi 0,vi 0,vi 0,vb false,vs [],.slice none 0 0,vb false,vs [],vi 0,vi 0,vi 0,vi 0,vi 0,vi 0,vi 0,vs [],.slice none 0 0]):=.mk
instance:Zr 42 (.agg #[vi 0,vi 0]):=.mk
instance:Zr 47 (.agg #[.slice none 0 0,.slice none 0 0,.slice none 0 0]):=.mk
instance:Zr 49 (.agg #[.slice none 0 0,vi 0,vi 0,vi 0,.slice none 0 0,.slice none 0 0,.slice none 0 0]):=.mk
instance:Zr 53 (.agg #[.slice none 0 0]):=.mk
instance:Zr 57 (.agg #[.slice none 0 0,.slice none 0 0]):=.mk
instance:Zr 59 (.agg #[.slice none 0 0,vi 0,vi 0,vi 0,.slice none 0 0,.slice none 0 0,.slice none 0 0,.slice none 0 0,.slice none 0 0,.slice none 0 0,.slice none 0 0,.slice none 0 0,.slice none 0 0,.slice none 0 0,.slice none 0 0,vi 0]):=.mk
instance:Zr 75 (.agg #[.slice none 0 0,vi 0]):=.mk
instance:Zr 83 (.agg #[vi 0,.slice none 0 0]):=.mk
instance:Zr 85 (.agg #[.slice none 0 0,.slice none 0 0,.slice none 0 0,.slice none 0 0,.slice none 0 0,vi 0,.slice none 0 0]):=.mk
instance:Zr 101 (.agg #[vi 0,.slice none 0 0,vi 0,vi 0,vi 0,.slice none 0 0]):=.mk
instance:Zr 108 (.agg #[vi 0,vi 0,vi 0,vi 0,vs [],vi 0,vi 0,vi 0,vb false,vs [],.slice none 0 0,vb false,vs [],vi 0,vi 0,vi 0,vi 0,vi 0,vi 0,vi 0,vs [],.slice none 0 0,.slice none 0 0,vb false]):=.mk
instance:Zr 119 (.agg #[vb false,vs [],vi 0,vi 0,vs []]):=.mk
instance:Zr 124 (.agg #[vs [],vb false,vi 0,.slice none 0 0,vb false,vs []]):=.mk
instance:Zr 126 (.agg #[vs [],vi 0,vb false,vs []]):=.mk
instance:Zr 152 (.agg #[.pointer none,.slice none 0 0]):=.mk
instance:Zr 161 (.agg #[vs [],vb false,vb false,vi 0,vi 0,vi 0,vi 0,vs [],vi 0,vi 0,vi 0,vb false,vs [],.slice none 0 0,vb false,vs [],vi 0,vi 0,vi 0,vi 0,vi 0,vi 0,vi 0,vs [],.slice none 0 0]):=.mk
instance:Zr 178 (.agg #[vi 0,vi 0,.slice none 0 0,vb false,vs []]):=.mk
instance:Zr 184 (.agg #[vi 0,vi 0,vi 0,vi 0]):=.mk
instance:Zr 186 (.agg #[vi 0,vi 0]):=.mk
instance:Zr 201 (.agg #[vi 0,vi 0]):=.mk
instance:Zr 217 (.agg #[vs [],vi 0,vi 0]):=.mk
instance:Zr 275 (.agg #[.int .u8 0,.int .u8 0,.int .u8 0,.int .u8 0,.int .u8 0,.int .u8 0,.int .u8 0,.int .u8 0,.int .u8 0,.int .u8 0,.int .u8 0,.int .u8 0,.int .u8 0,.int .u8 0,.int .u8 0,.int .u8 0,.int .u8 0,.int .u8 0,.int .u8 0,.int .u8 0,.int .u8 0,.int .u8 0,.int .u8 0,.int .u8 0]):=.mk
instance:Zr 282 (.agg #[vs [],vi 0,vi 0,vb false]):=.mk
instance:Zr 300 (.agg #[vs [],vs [],vi 0]):=.mk
instance:Se 24 23 qU:=.mk
instance:Se 30 32 qD:=.mk
instance:Se 35 3 (zR .i64):=.mk
instance:Se 40 9 wD:=.mk
instance:Se 43 119 zBG:=.mk
instance:Se 44 124 uC:=.mk
instance:Se 45 126 tO:=.mk
instance:Se 64 34 zD4:=.mk
instance:Se 68 5 (zR .u8):=.mk
instance:Se 79 178 xF:=.mk
instance:Se 80 184 zDC:=.mk
instance:Se 81 186 zEu:=.mk
instance:Se 99 29 zJB:=.mk
instance:Se 179 35 (wJ (zR .i64)):=.mk
instance:Se 197 24 (wJ qU):=.mk
instance:It 3 .i64:=.mk
instance:It 5 .u8:=.mk
instance:It 138 .u64:=.mk
instance:It 140 .u64:=.mk
abbrev a4{α0 α1 α2 α3 α4:Type}(x:α0×α1×α2×α3×α4): α4:=x.2.2.2.2
abbrev a5{α0 α1 α2 α3 α4 α5:Type}(x:α0×α1×α2×α3×α4×α5): α5:=x.2.2.2.2.2
abbrev a6{α0 α1 α2 α3 α4 α5 α6:Type}(x:α0×α1×α2×α3×α4×α5×α6): α6:=x.2.2.2.2.2.2
abbrev a7{α0 α1 α2 α3 α4 α5 α6 α7:Type}(x:α0×α1×α2×α3×α4×α5×α6×α7): α7:=x.2.2.2.2.2.2.2
abbrev a8{α0 α1 α2 α3 α4 α5 α6 α7 α8:Type}(x:α0×α1×α2×α3×α4×α5×α6×α7×α8): α8:=x.2.2.2.2.2.2.2.2
abbrev a9{α0 α1 α2 α3 α4 α5 α6 α7 α8 α9:Type}(x:α0×α1×α2×α3×α4×α5×α6×α7×α8×α9): α9:=x.2.2.2.2.2.2.2.2.2
abbrev wE{α0 α1 α2 α3 α4 α5 α6 α7 α8 α9 α10:Type}(x:α0×α1×α2×α3×α4×α5×α6×α7×α8×α9×α10): α10:=x.2.2.2.2.2.2.2.2.2.2
abbrev qG{α0 α1 α2 α3 α4 α5 α6 α7 α8 α9 α10 α11:Type}(x:α0×α1×α2×α3×α4×α5×α6×α7×α8×α9×α10×α11): α11:=x.2.2.2.2.2.2.2.2.2.2.2
abbrev qQ{α0 α1 α2 α3 α4 α5 α6 α7 α8 α9 α10 α11 α12:Type}(x:α0×α1×α2×α3×α4×α5×α6×α7×α8×α9×α10×α11×α12): α12:=x.2.2.2.2.2.2.2.2.2.2.2.2
abbrev a13{α0 α1 α2 α3 α4 α5 α6 α7 α8 α9 α10 α11 α12 α13:Type}(x:α0×α1×α2×α3×α4×α5×α6×α7×α8×α9×α10×α11×α12×α13): α13:=x.2.2.2.2.2.2.2.2.2.2.2.2.2
abbrev a14{α0 α1 α2 α3 α4 α5 α6 α7 α8 α9 α10 α11 α12 α13 α14:Type}(x:α0×α1×α2×α3×α4×α5×α6×α7×α8×α9×α10×α11×α12×α13×α14): α14:=x.2.2.2.2.2.2.2.2.2.2.2.2.2.2
abbrev a15{α0 α1 α2 α3 α4 α5 α6 α7 α8 α9 α10 α11 α12 α13 α14 α15:Type}(x:α0×α1×α2×α3×α4×α5×α6×α7×α8×α9×α10×α11×α12×α13×α14×α15): α15:=x.2.2.2.2.2.2.2.2.2.2.2.2.2.2.2
abbrev a16{α0 α1 α2 α3 α4 α5 α6 α7 α8 α9 α10 α11 α12 α13 α14 α15 α16:Type}(x:α0×α1×α2×α3×α4×α5×α6×α7×α8×α9×α10×α11×α12×α13×α14×α15×α16): α16:=x.2.2.2.2.2.2.2.2.2.2.2.2.2.2.2.2
abbrev a17{α0 α1 α2 α3 α4 α5 α6 α7 α8 α9 α10 α11 α12 α13 α14 α15 α16 α17:Type}(x:α0×α1×α2×α3×α4×α5×α6×α7×α8×α9×α10×α11×α12×α13×α14×α15×α16×α17): α17:=x.2.2.2.2.2.2.2.2.2.2.2.2.2.2.2.2.2
abbrev a18{α0 α1 α2 α3 α4 α5 α6 α7 α8 α9 α10 α11 α12 α13 α14 α15 α16 α17 α18:Type}(x:α0×α1×α2×α3×α4×α5×α6×α7×α8×α9×α10×α11×α12×α13×α14×α15×α16×α17×α18): α18:=x.2.2.2.2.2.2.2.2.2.2.2.2.2.2.2.2.2.2
abbrev a19{α0 α1 α2 α3 α4 α5 α6 α7 α8 α9 α10 α11 α12 α13 α14 α15 α16 α17 α18 α19:Type}(x:α0×α1×α2×α3×α4×α5×α6×α7×α8×α9×α10×α11×α12×α13×α14×α15×α16×α17×α18×α19): α19:=x.2.2.2.2.2.2.2.2.2.2.2.2.2.2.2.2.2.2.2
abbrev a20{α0 α1 α2 α3 α4 α5 α6 α7 α8 α9 α10 α11 α12 α13 α14 α15 α16 α17 α18 α19 α20:Type}(x:α0×α1×α2×α3×α4×α5×α6×α7×α8×α9×α10×α11×α12×α13×α14×α15×α16×α17×α18×α19×α20): α20:=x.2.2.2.2.2.2.2.2.2.2.2.2.2.2.2.2.2.2.2.2
abbrev k0:Array Value:=#[vi 0,vi 0,vi 0,vi 0,vs [],vi 0,vi 0,vi 0,vb false,vs [],Value.slice none 0 0,vb false,vs [],vi 0,vi 0,vi 0,vi 0,vi 0,vi 0,vi 0,vs [],Value.slice none 0 0]
abbrev k1:Array Value:=#[vi 0,vs [],Value.slice none 0 0]
abbrev k2:Array Value:=#[Value.slice none 0 0,Value.slice none 0 0,Value.slice none 0 0]
abbrev k3:Array Value:=#[Value.slice none 0 0,Value.slice none 0 0]
abbrev k4:Array Value:=#[vs [],vb false,vi 0,Value.slice none 0 0,vb false,vs []]
abbrev k5:Array Value:=#[Value.slice none 0 0,vi 0,vi 0,vi 0,Value.slice none 0 0,Value.slice none 0 0,Value.slice none 0 0]
abbrev k6:Array Value:=#[vi 3,vi 0,vi 0,vi 0,vs [],vi 0,vi 0,vi 0,vb false,vs [],Value.slice none 0 0,vb false,vs [],vi 0,vi 0,vi 0,vi 0,vi 0,vi 0,vi 0,vs [],Value.slice none 0 0]
theorem Tryz.key163:zPZ prog 163 9 1 (fun x:zA=>vs x) :=
  zPZ.string underlying163 underlying9
theorem zPH{y0:Int}{y1:Int}: zN qd prog 13 [vi y0,vi y1] [] [] (zHF y0 y1) fun r K=>K (vi r) [] [] :=
 zS call13 func13 u fun X=>
 au
abbrev zZx:=@Cn.mk 13 0 _ @zPH
theorem zTt{y0:List Int}: zN qd prog 6 [sv p1 y0 c1] [] [Rl (zR .i64) p1 c1 y0] (zMR y0) fun r K=>∀ b1 p2 c2,K (pt b1 0) [bx b1 75 (zCH r p2 c2)] (zCB r p2 c2 []) :=
 zS call6 func6 u fun X=>
 au
abbrev z09:=@Cn.mk 6 0 _ @zTt
theorem zHo{y0:zA}{y1:zA}: zN qd prog 227 [vs y0,vs y1] [] [] (zC0 y0 y1) fun r K=>K (vi r) [] []:=zZu Go.Proofs.Tryz.lays219 call227
abbrev zHs:=@Cn.mk 227 0 _ @zHo
attribute [instance] zZx z09 zHs
theorem zIj{y0:zA}{y1:zA}: zN qd prog 189 [vs y0,vs y1] [] [] (zCi y0 y1) fun r K=>K (.tuple #[vs r.1,vs r.2.1,vb r.2.2]) [] [] :=
 zS call189 func189 u fun X=>hD 3 [] [] (.l [0,1,2,3,4,5,6,7,8,9,10,11] .e)<|
 au
abbrev zIh:=@Cn.mk 189 0 _ @zIj
attribute [instance] zIh
theorem zVV{y0:zA}{y1:zA}: zN qd prog 145 [vs y0,vs y1] [] [] (zIA y0 y1) fun r K=>K (.tuple #[vs r.1,vs r.2.1,vb r.2.2]) [] [] :=
 zS call145 func145 u fun X=>
 au
abbrev zUg:=@Cn.mk 145 0 _ @zVV
attribute [instance] zUg
theorem zF8{y0:vJ}: zN qd prog 76 [pt b1 0] [bx b1 161 (zAZ y0 p1 c1 p2 c2)] (zAY y0 p1 c1 p2 c2 []) (zAv y0) fun r K=>K (vs r.1) [bx b1 161 [vs r.2.1,vb r.2.2.1,vb r.2.2.2,vi y0.2.2.2.1,vi (a4 y0).1,vi (a5 y0).1,vi (a6 y0).1,vs (a7 y0).1,vi (a8 y0).1.1,vi (a8 y0).1.2.1,vi (a8 y0).1.2.2.1,vb (a8 y0).1.2.2.2.1.1,vs (a8 y0).1.2.2.2.1.2,sv p1 (a8 y0).1.2.2.2.2 c1,vb (a9 y0).1.1,vs (a9 y0).1.2,vi (wE y0).1.1,vi (wE y0).1.2,vi (qG y0).1.1,vi (qG y0).1.2.1,vi (qG y0).1.2.2.1,vi (qG y0).1.2.2.2,vi ((fv (qQ y0)).1),vs ((fv (qQ y0)).2.1),sv p2 ((fv (qQ y0)).2.2) c2]] [] :=
 zS call76 func76 u fun X=>hI 1 1 0 (fun(s1:Bool) K=>K [0] [(0,.c [(2,vb s1)])] [0,1] [] [])<|
 au
abbrev zMV:=@Cn.mk 76 0 _ @zF8
theorem zMr{y0:zA}: zN False prog 146 [vs y0] [] [vW 2,vW 3] (zJY y0) fun r K=>∀ v1,K (.tuple #[vi r.1,v1]) [] [Erv v1 r.2]:=z5C Go.Proofs.Tryz.lays172 call146
abbrev zT5:=@Cn.mk 146 0 _ @zMr
theorem zHm{y0:Int}{y1:Int}: zN qd prog 217 [vi y0,vi y1] [] [Tb prog "internal/strconv.uint64pow10" .u64 Lib.pow10Tab] (zC1 y0 y1) fun r K=>K (vs r) [] []:=z2Z Go.Proofs.Tryz.lays246 call217
abbrev zIF:=@Cn.mk 217 0 _ @zHm
attribute [instance] zMV zT5 zIF
theorem zKW{y0:Int}: zN qd prog 180 [vi y0] [] [Tb prog "internal/strconv.uint64pow10" .u64 Lib.pow10Tab] (zDe y0) fun r K=>K (vs r) [] [] :=
 zS call180 func180 u fun X=>
 au
abbrev zKM:=@Cn.mk 180 0 _ @zKW
attribute [instance] zKM
theorem zTW{y0:Int}: zN qd prog 120 [vi y0] [] [Tb prog "internal/strconv.uint64pow10" .u64 Lib.pow10Tab] (zEN y0) fun r K=>K (vs r) [] [] :=
 zS call120 func120 u fun X=>
 au
abbrev zTX:=@Cn.mk 120 0 _ @zTW
attribute [instance] zTX
theorem zAG{y0:vJ}: zN False prog 77 [pt b1 0] [bx b1 161 (zAZ y0 p1 c1 p2 c2)] (zAY y0 p1 c1 p2 c2 [vW 2,vW 3,Tb prog "internal/strconv.uint64pow10" .u64 Lib.pow10Tab]) (xH y0) fun r K=>K (vi r.1) [bx b1 161 [vs r.2.1,vb r.2.2.1,vb r.2.2.2,vi y0.2.2.2.1,vi (a4 y0).1,vi (a5 y0).1,vi (a6 y0).1,vs (a7 y0).1,vi (a8 y0).1.1,vi (a8 y0).1.2.1,vi (a8 y0).1.2.2.1,vb (a8 y0).1.2.2.2.1.1,vs (a8 y0).1.2.2.2.1.2,sv p1 (a8 y0).1.2.2.2.2 c1,vb (a9 y0).1.1,vs (a9 y0).1.2,vi (wE y0).1.1,vi (wE y0).1.2,vi (qG y0).1.1,vi (qG y0).1.2.1,vi (qG y0).1.2.2.1,vi (qG y0).1.2.2.2,vi ((fv (qQ y0)).1),vs ((fv (qQ y0)).2.1),sv p2 ((fv (qQ y0)).2.2) c2]] [] :=
 zS call77 func77 u fun X=>jA 1 u<|zG<|zB 1 u<|qA .s [0] [] zF8 u u u (cq [0,1])<|fun r1 _ k=>k<|zB 1 u<|zI<|zG<|zB 1 u<|wG zMr u (cq [2,3])<|fun r2 _ k v1=>k<|zB 5 u<|zI<|
  qX (fun s1 K=>K [4] [(0,bx b1 161 [vs r1.2.1,vb r1.2.2.1,vb s1,vi y0.2.2.2.1,vi (a4 y0).1,vi (a5 y0).1,vi (a6 y0).1,vs (a7 y0).1,vi (a8 y0).1.1,vi (a8 y0).1.2.1,vi (a8 y0).1.2.2.1,vb (a8 y0).1.2.2.2.1.1,vs (a8 y0).1.2.2.2.1.2,sv p1 (a8 y0).1.2.2.2.2 c1,vb (a9 y0).1.1,vs (a9 y0).1.2,vi (wE y0).1.1,vi (wE y0).1.2,vi (qG y0).1.1,vi (qG y0).1.2.1,vi (qG y0).1.2.2.1,vi (qG y0).1.2.2.2,vi ((fv (qQ y0)).1),vs ((fv (qQ y0)).2.1),sv p2 ((fv (qQ y0)).2.2) c2])] [1,2,3,4,5] [] []) (
  vD<|zB 3 u<|zO 2 u<|qJ 0 u u u<|zB 1 u<|wM 18 u (
 au
)<|zB 1 u<|jen 0 u u underlying155<|
 au
)<|
 au
abbrev zLJ:=@Cn.mk 77 0 _ @zAG
theorem zN2{y0:vJ}: zN qd prog 186 [pt b1 0] [bx b1 161 (zAZ y0 p1 c1 p2 c2)] (zAY y0 p1 c1 p2 c2 []) (zCE y0) fun r K=>K (vs r.1) [bx b1 161 [vs r.2.1,vb r.2.2.1,vb r.2.2.2,vi y0.2.2.2.1,vi (a4 y0).1,vi (a5 y0).1,vi (a6 y0).1,vs (a7 y0).1,vi (a8 y0).1.1,vi (a8 y0).1.2.1,vi (a8 y0).1.2.2.1,vb (a8 y0).1.2.2.2.1.1,vs (a8 y0).1.2.2.2.1.2,sv p1 (a8 y0).1.2.2.2.2 c1,vb (a9 y0).1.1,vs (a9 y0).1.2,vi (wE y0).1.1,vi (wE y0).1.2,vi (qG y0).1.1,vi (qG y0).1.2.1,vi (qG y0).1.2.2.1,vi (qG y0).1.2.2.2,vi ((fv (qQ y0)).1),vs ((fv (qQ y0)).2.1),sv p2 ((fv (qQ y0)).2.2) c2]] [] :=
 zS call186 func186 u fun X=>hI 1 1 0 (fun(s1:Bool) K=>K [0] [(0,.c [(2,vb s1)])] [0,1] [] [])<|
 au
abbrev zNR:=@Cn.mk 186 0 _ @zN2
attribute [instance] zLJ zNR
theorem zMb{y0:vJ}{y1:Int}: zN qd prog 125 [pt b1 0,vi y1] [bx b1 161 (zAZ y0 p1 c1 p2 c2)] (zAY y0 p1 c1 p2 c2 []) (zCX y0 y1) fun r K=>K (.tuple #[]) [bx b1 161 [vs r.1,vb r.2.1,vb r.2.2.1,vi r.2.2.2.1,vi (a4 y0).1,vi (a5 y0).1,vi (a6 y0).1,vs (a4 r),vi (a8 y0).1.1,vi (a8 y0).1.2.1,vi (a8 y0).1.2.2.1,vb (a8 y0).1.2.2.2.1.1,vs (a8 y0).1.2.2.2.1.2,sv p1 (a8 y0).1.2.2.2.2 c1,vb (a9 y0).1.1,vs (a9 y0).1.2,vi (wE y0).1.1,vi (wE y0).1.2,vi (qG y0).1.1,vi (qG y0).1.2.1,vi (qG y0).1.2.2.1,vi (qG y0).1.2.2.2,vi ((fv (qQ y0)).1),vs ((fv (qQ y0)).2.1),sv p2 ((fv (qQ y0)).2.2) c2]] [] :=
 zS call125 func125 u fun X=>
 au
abbrev zM2:=@Cn.mk 125 0 _ @zMb
attribute [instance] zM2
theorem zFf{y1:vJ}: zN qd prog 124 [pt b1 0] [bx b1 159 [pt b2 0],bx b2 161 (zAZ y1 p1 c1 p2 c2)] (zAY y1 p1 c1 p2 c2 []) (zCM y1) fun r K=>K (.tuple #[]) [bx b1 159 [pt b2 0],bx b2 161 [vs r.1,vb r.2.1,vb r.2.2.1,vi r.2.2.2.1,vi (a4 y1).1,vi (a5 y1).1,vi (a6 y1).1,vs (a4 r),vi (a8 y1).1.1,vi (a8 y1).1.2.1,vi (a8 y1).1.2.2.1,vb (a8 y1).1.2.2.2.1.1,vs (a8 y1).1.2.2.2.1.2,sv p1 (a8 y1).1.2.2.2.2 c1,vb (a9 y1).1.1,vs (a9 y1).1.2,vi (wE y1).1.1,vi (wE y1).1.2,vi (qG y1).1.1,vi (qG y1).1.2.1,vi (qG y1).1.2.2.1,vi (qG y1).1.2.2.2,vi ((fv (qQ y1)).1),vs ((fv (qQ y1)).2.1),sv p2 ((fv (qQ y1)).2.2) c2]] [] :=
 zS call124 func124 u fun X=>
 au
abbrev zJa:=@Cn.mk 124 0 _ @zFf
theorem zM0{y0:vJ}{y1:Int}: zN False prog 137 [pt b1 0,vi y1] [bx b1 161 (zAZ y0 p1 c1 p2 c2)] (zAY y0 p1 c1 p2 c2 [vW 2,vW 3,Tb prog "internal/strconv.uint64pow10" .u64 Lib.pow10Tab]) (zAw y0 y1) fun r K=>K (.tuple #[]) [bx b1 161 [vs r.1,vb r.2.1,vb r.2.2.1,vi r.2.2.2.1,vi (a4 y0).1,vi (a4 r).1,vi (a6 y0).1,vs (a7 y0).1,vi (a8 y0).1.1,vi (a8 y0).1.2.1,vi (a8 y0).1.2.2.1,vb (a8 y0).1.2.2.2.1.1,vs (a8 y0).1.2.2.2.1.2,sv p1 (a8 y0).1.2.2.2.2 c1,vb (a9 y0).1.1,vs (a9 y0).1.2,vi (wE y0).1.1,vi (wE y0).1.2,vi (a5 r).1,vi (a6 r).1,vi (a7 r).1,vi (a8 r),vi ((fv (qQ y0)).1),vs ((fv (qQ y0)).2.1),sv p2 ((fv (qQ y0)).2.2) c2]] [] :=
 zS call137 func137 u fun X=>hI 1 2 1 (fun(s1:zA×Bool×Bool×Int) K=>K [0,1] [(0,.c [(0,vs s1.1),(1,vb s1.2.1),(2,vb s1.2.2.1),(20,vi s1.2.2.2)])] [0,1,2,3,4] [] [])<|
 au
abbrev zM1:=@Cn.mk 137 0 _ @zM0
attribute [instance] zJa zM1
theorem zF6{y1:vJ}: zN False prog 136 [pt b1 0] [bx b1 159 [pt b2 0],bx b2 161 (zAZ y1 p1 c1 p2 c2)] (zAY y1 p1 c1 p2 c2 [vW 2,vW 3,Tb prog "internal/strconv.uint64pow10" .u64 Lib.pow10Tab]) (zBQ y1) fun r K=>K (.tuple #[]) [bx b1 159 [pt b2 0],bx b2 161 [vs r.1,vb r.2.1,vb r.2.2.1,vi r.2.2.2.1,vi (a4 y1).1,vi (a4 r).1,vi (a6 y1).1,vs (a7 y1).1,vi (a8 y1).1.1,vi (a8 y1).1.2.1,vi (a8 y1).1.2.2.1,vb (a8 y1).1.2.2.2.1.1,vs (a8 y1).1.2.2.2.1.2,sv p1 (a8 y1).1.2.2.2.2 c1,vb (a9 y1).1.1,vs (a9 y1).1.2,vi (wE y1).1.1,vi (wE y1).1.2,vi (a5 r).1,vi (a6 r).1,vi (a7 r).1,vi (a8 r),vi ((fv (qQ y1)).1),vs ((fv (qQ y1)).2.1),sv p2 ((fv (qQ y1)).2.2) c2]] [] :=
 zS call136 func136 u fun X=>
 au
abbrev zIn:=@Cn.mk 136 0 _ @zF6
theorem zF4{y1:vJ}: zN False prog 138 [pt b1 0] [bx b1 159 [pt b2 0],bx b2 161 (zAZ y1 p1 c1 p2 c2)] (zAY y1 p1 c1 p2 c2 [vW 2,vW 3,Tb prog "internal/strconv.uint64pow10" .u64 Lib.pow10Tab]) (zBW y1) fun r K=>K (.tuple #[]) [bx b1 159 [pt b2 0],bx b2 161 [vs r.1,vb r.2.1,vb r.2.2.1,vi r.2.2.2.1,vi (a4 y1).1,vi (a4 r).1,vi (a6 y1).1,vs (a7 y1).1,vi (a8 y1).1.1,vi (a8 y1).1.2.1,vi (a8 y1).1.2.2.1,vb (a8 y1).1.2.2.2.1.1,vs (a8 y1).1.2.2.2.1.2,sv p1 (a8 y1).1.2.2.2.2 c1,vb (a9 y1).1.1,vs (a9 y1).1.2,vi (wE y1).1.1,vi (wE y1).1.2,vi (a5 r).1,vi (a6 r).1,vi (a7 r).1,vi (a8 r),vi ((fv (qQ y1)).1),vs ((fv (qQ y1)).2.1),sv p2 ((fv (qQ y1)).2.2) c2]] [] :=
 zS call138 func138 u fun X=>
 au
abbrev zIm:=@Cn.mk 138 0 _ @zF4
theorem zF7{y1:vJ}: zN False prog 139 [pt b1 0] [bx b1 159 [pt b2 0],bx b2 161 (zAZ y1 p1 c1 p2 c2)] (zAY y1 p1 c1 p2 c2 [vW 2,vW 3,Tb prog "internal/strconv.uint64pow10" .u64 Lib.pow10Tab]) (zBU y1) fun r K=>K (.tuple #[]) [bx b1 159 [pt b2 0],bx b2 161 [vs r.1,vb r.2.1,vb r.2.2.1,vi r.2.2.2.1,vi (a4 y1).1,vi (a4 r).1,vi (a6 y1).1,vs (a7 y1).1,vi (a8 y1).1.1,vi (a8 y1).1.2.1,vi (a8 y1).1.2.2.1,vb (a8 y1).1.2.2.2.1.1,vs (a8 y1).1.2.2.2.1.2,sv p1 (a8 y1).1.2.2.2.2 c1,vb (a9 y1).1.1,vs (a9 y1).1.2,vi (wE y1).1.1,vi (wE y1).1.2,vi (a5 r).1,vi (a6 r).1,vi (a7 r).1,vi (a8 r),vi ((fv (qQ y1)).1),vs ((fv (qQ y1)).2.1),sv p2 ((fv (qQ y1)).2.2) c2]] [] :=
 zS call139 func139 u fun X=>
 au
abbrev zIg:=@Cn.mk 139 0 _ @zF7
theorem zNd{y0:zA}: zN qd prog 179 [vs y0] [] [] (zBc y0) fun r K=>K (vb r) [] [] :=
 zS call179 func179 u fun X=>jA 1 u<|zY<|z1H (fun K=>K [0] [] [] [(12,vb (((len y0)==0)||(decide (12<(len y0)))))] []) (
 au
)<|fun _ k=>k<|zW u (
 au
)<|jC<|zY<|jA 3 u<|qP<|
  vN (fun s1 K=>K [0,14] [] [] [(15,vi s1)] []) (gv kk [] d)<|fun s1 _ k=>k<|jA 1 u<|zY<|zW u (jC<|zY<|qP<|jA 2 u<|zG<|zB 2 u<|yW fun x1 h1=>
  jv (fun h=>z3f h u u underlying9 h1)<|hP 4 8 0 (fun K=>K [0,3,4,14,15] [] [] [(21,vb ((decide (97≤x1))&&(decide (x1≤122))))] [])<|hP 4 9 0 (fun K=>K [0,14,15] [] [] [(28,vb ((decide (0<s1))&&(if decide (48≤x1) then(decide (x1≤57))||(x1==95) else x1==95)))] [])<|
 au
)<|
 au
abbrev zN4:=@Cn.mk 179 0 _ @zNd
attribute [instance] zIn zIm zIg zN4
theorem zRh{y0:zE}: zN qd prog 119 [.agg #[vb y0.1,vs y0.2]] [] [] (zFC y0) fun r K=>K (vb r) [] [] :=
 zS call119 func119 u fun X=>
 au
abbrev zSG:=@Cn.mk 119 0 _ @zRh
attribute [instance] zSG
theorem zRj{y0:zA}: zN qd prog 187 [vs y0] [] [] (zGq y0) fun r K=>K (.tuple #[.agg #[vb r.1.1,vs r.1.2],vi r.2]) [] [] :=
 zS call187 func187 u fun X=>hI 1 2 1 (fun(s1:zA×Bool) K=>K [2,4] [(1,.c [(0,vb s1.2)])] [] [(0,vs s1.1)] [])<|hI 1 2 0 (fun(s2:Bool) K=>K [0,2,4] [] [] [(12,vb s2)] [])<|
 au
abbrev zSo:=@Cn.mk 187 0 _ @zRj
attribute [instance] zSo
theorem zDk{y0:vJ}: zN qd prog 135 [pt b1 0] [bx b1 161 (zAZ y0 p1 c1 p2 c2)] (zAY y0 p1 c1 p2 c2 []) (zA9 y0) fun r K=>K (.agg #[vb r.1.1,vs r.1.2]) [bx b1 161 [vs r.2.1,vb r.2.2.1,vb r.2.2.2,vi y0.2.2.2.1,vi (a4 y0).1,vi (a5 y0).1,vi (a6 y0).1,vs (a7 y0).1,vi (a8 y0).1.1,vi (a8 y0).1.2.1,vi (a8 y0).1.2.2.1,vb (a8 y0).1.2.2.2.1.1,vs (a8 y0).1.2.2.2.1.2,sv p1 (a8 y0).1.2.2.2.2 c1,vb (a9 y0).1.1,vs (a9 y0).1.2,vi (wE y0).1.1,vi (wE y0).1.2,vi (qG y0).1.1,vi (qG y0).1.2.1,vi (qG y0).1.2.2.1,vi (qG y0).1.2.2.2,vi ((fv (qQ y0)).1),vs ((fv (qQ y0)).2.1),sv p2 ((fv (qQ y0)).2.2) c2]] [] :=
 zS call135 func135 u fun X=>hI 1 2 0 (fun(s1:Bool) K=>K [2,3] [(0,.c [(2,vb s1)])] [0,1] [] [])<|
 au
abbrev zK5:=@Cn.mk 135 0 _ @zDk
attribute [instance] zK5
theorem zF5{y1:vJ}: zN False prog 140 [pt b1 0] [bx b1 159 [pt b2 0],bx b2 161 (zAZ y1 p1 c1 p2 c2)] (zAY y1 p1 c1 p2 c2 [vW 2,vW 3,Tb prog "internal/strconv.uint64pow10" .u64 Lib.pow10Tab]) (zBS y1) fun r K=>K (.tuple #[]) [bx b1 159 [pt b2 0],bx b2 161 [vs r.1,vb r.2.1,vb r.2.2.1,vi r.2.2.2.1,vi (a4 y1).1,vi (a5 y1).1,vi (a4 r).1,vs (a7 y1).1,vi (a8 y1).1.1,vi (a8 y1).1.2.1,vi (a8 y1).1.2.2.1,vb (a8 y1).1.2.2.2.1.1,vs (a8 y1).1.2.2.2.1.2,sv p1 (a8 y1).1.2.2.2.2 c1,vb (a5 r).1,vs (a6 r),vi (wE y1).1.1,vi (wE y1).1.2,vi (qG y1).1.1,vi (qG y1).1.2.1,vi (qG y1).1.2.2.1,vi (qG y1).1.2.2.2,vi ((fv (qQ y1)).1),vs ((fv (qQ y1)).2.1),sv p2 ((fv (qQ y1)).2.2) c2]] [] :=
 zS call140 func140 u fun X=>hD 0 [] [0] (.l [0,1,2,3,5] (.f 4 (.f 6 (.l [7,8,9] (.f 10 (.l [11,12,13] (.f 14 (.l [15,16,17] (.f 18 .e)))))))))<|
 au
abbrev zIl:=@Cn.mk 140 0 _ @zF5
attribute [instance] zIl
theorem zNI (k:Nat):
    (∀ {y0:zC} {p1:Option Addr} {c1:Nat},zN qd prog 219 [.agg #[vi ((fv y0).1),vs ((fv y0).2.1),sv p1 ((fv y0).2.2) c1]] [] [Rl qD p1 c1 ((fv y0).2.2)] (zDI k y0) fun r K=>K (vi r) [] []):=by
  induction k with
  | zero=>exact uP call219
  | succ k ih =>
    have ih_formula_Depth:=@ih
    have zL1:=@Cn.mk 219 0 _ (@ih_formula_Depth)
    exact @fun y0 p1 c1=>zS (m1:=zIc (zDI k) y0) call219 func219 u fun X=>hI 0 3 1 (fun(s1:Int×Int) K=>K [7,8] [(0,.r [])] [0] [(3,vi s1.1),(9,vi s1.2)] [])<|
 au
theorem zSB{y0:zC}: zN qd prog 219 [.agg #[vi ((fv y0).1),vs ((fv y0).2.1),sv p1 ((fv y0).2.2) c1]] [] [Rl qD p1 c1 ((fv y0).2.2)] (zEw y0) fun r K=>K (vi r) [] []:=uO fun k=>(zNI k)
abbrev zL1:=@Cn.mk 219 0 _ @zSB
attribute [instance] zL1
theorem zOt (k:Nat):
    (∀ {y0:zC} {p1:Option Addr} {c1:Nat},zN qd prog 218 [.agg #[vi ((fv y0).1),vs ((fv y0).2.1),sv p1 ((fv y0).2.2) c1]] [] [Rl qD p1 c1 ((fv y0).2.2)] (zES k y0) fun r K=>K (vi r) [] []):=by
  induction k with
  | zero=>exact uP call218
  | succ k ih =>
    have ih_formula_Size:=@ih
    have zMx:=@Cn.mk 218 0 _ (@ih_formula_Size)
    exact @fun y0 p1 c1=>zS (m1:=zJ1 (zES k) y0) call218 func218 u fun X=>hI 0 3 1 (fun(s1:Int×Int) K=>K [7,8] [(0,.r [])] [0] [(3,vi s1.1),(9,vi s1.2)] [])<|
 au
theorem zTh{y0:zC}: zN qd prog 218 [.agg #[vi ((fv y0).1),vs ((fv y0).2.1),sv p1 ((fv y0).2.2) c1]] [] [Rl qD p1 c1 ((fv y0).2.2)] (zFp y0) fun r K=>K (vi r) [] []:=uO fun k=>(zOt k)
abbrev zMx:=@Cn.mk 218 0 _ @zTh
set_option maxHeartbeats 2000000 in
theorem zTQ{y0:Int}: zN qd prog 292 [.int .u8 y0] [] [] (zHJ y0) fun r K=>K (vb r) [] [] :=
 zS call292 func292 u fun X=>hP 4 1 0 (fun K=>K [] [] [] [(2,vb (if decide (97≤y0) then(decide (y0≤122))||(if decide (65≤y0) then(decide (y0≤90))||(if decide (48≤y0) then(decide (y0≤57))||(y0==95) else y0==95) else if decide (48≤y0) then(decide (y0≤57))||(y0==95) else y0==95) else if decide (65≤y0) then(decide (y0≤90))||(if decide (48≤y0) then(decide (y0≤57))||(y0==95) else y0==95) else if decide (48≤y0) then(decide (y0≤57))||(y0==95) else y0==95))] [])<|
 au
abbrev zTI:=@Cn.mk 292 0 _ @zTQ
attribute [instance] zMx zTI
theorem zBh{y0:qR}: zN qd prog 273 [pt b1 0] [bx b1 282 (zA3 y0)] [] (zAO y0) fun r K=>K (.agg (zRx r.1).toArray) [bx b1 282 [vs y0.1,vi r.2,vi y0.2.2.1,vb y0.2.2.2]] [] :=
 zS call273 func273 u fun X=>zG<|qN .s (.agg #[vs [],vs [],vi 0])<|fun b2=>zI<|qX (fun s1 K=>K [0,2] [(0,bx b1 282 [vs y0.1,vi s1,vi y0.2.2.1,vb y0.2.2.2])] [] [] []) (hD 1 [] [0] (.l [0,1,2,3,4,5,6,7,8,9,10] (.s 18 (.l [11,12,13,14,15,16,17,18,19,20,21] .e) (.l [11,12,13,14,15,16,17,18,19,20,21] .e)))<|hI 0 1 2 (fun(s2:Int) K=>K [0,2] [(0,.c [(1,vi s2)])] [] [] [])<|hI 1 1 0 (fun(s3:Bool) K=>K [0,2] [] [] [(29,vb s3)] [])<|
 au
)<|fun s1 _ k=>k<|jds [] [0] 10<|zQ 8 [0,1] u<|qK 2 0 u u<|wO 3 0 u u u u<|zQ 4 [4,5] u<|qK 6 1 u u<|wO 7 0 u u u u<|yW fun x2 h2=>
  xN 8 u (fun h=>zMw h u underlying9 u u (.inr ⟨_,rfl⟩) (.inl ⟨rfl,rfl⟩) h2)<|zQ 0 [9] u<|qI<|wS<|zY<|jA 2 u<|zW u (
 au
)<|jC<|jA 1 u<|
  qX (fun s4 K=>K [0,2,3] [] [] [(4,vi s4)] []) (hI 0 7 2 (fun(s5:Int) K=>K [0,2,3] [] [] [(4,vi s5)] [])<|hI 1 7 0 (fun(s6:Bool) K=>K [0,2,3,4] [] [] [(63,vb s6)] [])<|
 au
)<|fun s4 _ k=>k<|zY<|zG<|zB 2 u<|yW fun x4 h4=>jv (fun h=>zMw h u underlying9 u u (.inl ⟨rfl,rfl⟩) (.inr ⟨_,rfl⟩) h4)<|hP 4 10 0 (fun K=>K [0,2,3,4,5] [] [] [(69,vb ((x4==[48])||(x4==[49])))] [])<|hI 2 16 1 (fun(s7:Unit) K=>K [0,2] [] [] [] [])<|hI 0 17 1 (fun(s8:Int) K=>K [0,2,3,101,102] [] [0] [(103,vi s8)] [])<|hI 1 19 0 (fun(s9:Bool) K=>K [0,2,3,7,101,102,103] [] [1] [(119,vb s9)] [])<|
 au
abbrev zLX:=@Cn.mk 273 0 _ @zBh
attribute [instance] zLX
theorem zL8{y0:qR}: zN qd prog 249 [pt b1 0] [bx b1 282 (zA3 y0)] [] (zAa y0) fun r K=>∀ p1 c1,K (.agg #[vi ((fv r.1).1),vs ((fv r.1).2.1),sv p1 ((fv r.1).2.2) c1]) [bx b1 282 [vs y0.1,vi r.2.1,vi r.2.2,vb y0.2.2.2]] [Rl qD p1 c1 ((fv r.1).2.2)] :=
 zS call249 func249 u fun X=>zG<|qN .s (.agg k1)<|fun b2=>zI<|qX (fun s1 K=>K [2] [(0,bx b1 282 [vs y0.1,vi s1.1,vi s1.2,vb y0.2.2.2])] [] [] []) (zG<|
  zB 2 u<|zO 2 u<|qJ 0 u u u<|zB 1 u<|zI<|zW u (vD<|zB 2 u<|qA .s [0] [] zBh u u u d<|fun r1 _ k=>k<|jv (v:=vi r1.1.2.2) (fun h=>zYi h u (by kernel_rfl))<|
 au
)<|uW<|qB (gv kk [0,1] d))<|
 au
abbrev zLR:=@Cn.mk 249 0 _ @zL8
theorem zAp{y0:qR}{y1:zA}: zN qd prog 248 [pt b1 0,vs y1] [bx b1 282 (zA3 y0)] [] (xZ y0 y1) fun r K=>K (vb r.1) [bx b1 282 [vs y0.1,vi r.2,vi y0.2.2.1,vb y0.2.2.2]] [] :=
 zS call248 func248 u fun X=>jA 1 u<|zG<|zB 1 u<|qA .s [0] [] zBh u u u d<|fun r1 _ k=>k<|hD 4 [10] [0,1] (.l [0,1,2,3,4,5,6,7,8,9] (.f 10 (.b [] [0,1] .e)))<|hP 4 2 0 (fun K=>K [0,5] [] [] [(18,vb ((decide (0≤y0.2.2.1))||(!(r1.1.1==y1))))] [])<|
 au
abbrev zLT:=@Cn.mk 248 0 _ @zAp
attribute [instance] zLR zLT
set_option maxHeartbeats 2000000 in
theorem zAz (k:Nat):
    (∀ {y0:qR} {b1:Nat},zN qd prog 297 [pt b1 0] [bx b1 282 (zA3 y0)] [] (zAH k y0) fun r K=>∀ p1 c1,K (.agg #[vi ((fv r.1).1),vs ((fv r.1).2.1),sv p1 ((fv r.1).2.2) c1]) [bx b1 282 [vs y0.1,vi r.2.1,vi r.2.2.1,vb r.2.2.2]] [Rl qD p1 c1 ((fv r.1).2.2)]) ∧
    (∀ {y0:qR} {b1:Nat},zN qd prog 247 [pt b1 0] [bx b1 282 (zA3 y0)] [] (zAL k y0) fun r K=>∀ p1 c1,K (.agg #[vi ((fv r.1).1),vs ((fv r.1).2.1),sv p1 ((fv r.1).2.2) c1]) [bx b1 282 [vs y0.1,vi r.2.1,vi r.2.2.1,vb r.2.2.2]] [Rl qD p1 c1 ((fv r.1).2.2)]) ∧
    (∀ {y0:qR} {b1:Nat},zN qd prog 272 [pt b1 0] [bx b1 282 (zA3 y0)] [] (zAD k y0) fun r K=>∀ p1 c1,K (.agg #[vi ((fv r.1).1),vs ((fv r.1).2.1),sv p1 ((fv r.1).2.2) c1]) [bx b1 282 [vs y0.1,vi r.2.1,vi r.2.2.1,vb r.2.2.2]] [Rl qD p1 c1 ((fv r.1).2.2)]) ∧
    (∀ {y0:qR} {b1:Nat} {y1:Int} {y2:zA},zN qd prog 296 [pt b1 0,vi y1,vs y2,.func (.func 297) #[pt b1 0] #[]] [bx b1 282 (zA3 y0)] [] (zAB k y0 y1 y2) fun r K=>∀ p1 c1,K (.agg #[vi ((fv r.1).1),vs ((fv r.1).2.1),sv p1 ((fv r.1).2.2) c1]) [bx b1 282 [vs y0.1,vi r.2.1,vi r.2.2.1,vb r.2.2.2]] [Rl qD p1 c1 ((fv r.1).2.2)]) ∧
    (∀ {y0:qR} {b1:Nat} {y1:Int} {y2:zA},zN qd prog 296 [pt b1 0,vi y1,vs y2,.func (.func 298) #[pt b1 0] #[]] [bx b1 282 (zA3 y0)] [] (zAA k y0 y1 y2) fun r K=>∀ p1 c1,K (.agg #[vi ((fv r.1).1),vs ((fv r.1).2.1),sv p1 ((fv r.1).2.2) c1]) [bx b1 282 [vs y0.1,vi r.2.1,vi r.2.2.1,vb r.2.2.2]] [Rl qD p1 c1 ((fv r.1).2.2)]) ∧
    (∀ {y0:qR} {b1:Nat},zN qd prog 291 [pt b1 0] [bx b1 282 (zA3 y0)] [] (zAM k y0) fun r K=>∀ p1 c1,K (.agg #[vi ((fv r.1).1),vs ((fv r.1).2.1),sv p1 ((fv r.1).2.2) c1]) [bx b1 282 [vs y0.1,vi r.2.1,vi r.2.2.1,vb r.2.2.2]] [Rl qD p1 c1 ((fv r.1).2.2)]) ∧
    (∀ {y0:qR} {b1:Nat},zN qd prog 298 [pt b1 0] [bx b1 282 (zA3 y0)] [] (zAE k y0) fun r K=>∀ p1 c1,K (.agg #[vi ((fv r.1).1),vs ((fv r.1).2.1),sv p1 ((fv r.1).2.2) c1]) [bx b1 282 [vs y0.1,vi r.2.1,vi r.2.2.1,vb r.2.2.2]] [Rl qD p1 c1 ((fv r.1).2.2)]):=by
  induction k with
  | zero=>exact⟨uP call297,uP call247,uP call272,uP call296,uP call296,uP call291,uP call298⟩
  | succ k ih =>
    obtain⟨ih_formula_parser_and,ih_formula_parser_iff,ih_formula_parser_implies,ih_formula_parser_many__formula_parser_and,ih_formula_parser_many__formula_parser_unary,ih_formula_parser_or,ih_formula_parser_unary⟩:=ih
    have zHi:=@Cn.mk 297 0 _ (@ih_formula_parser_and)
    have zHe:=@Cn.mk 247 0 _ (@ih_formula_parser_iff)
    have zGS:=@Cn.mk 272 0 _ (@ih_formula_parser_implies)
    have zBz:=@Cn.mk 296 0 _ (@ih_formula_parser_many__formula_parser_and)
    have zBn:=@Cn.mk 296 1 _ (@ih_formula_parser_many__formula_parser_unary)
    have zIJ:=@Cn.mk 291 0 _ (@ih_formula_parser_or)
    have zGx:=@Cn.mk 298 0 _ (@ih_formula_parser_unary)
    exact⟨@fun y0 b1=>zS (m1:=zHj (zAH k) (zAL k) (zAD k) (zAB k) (zAA k) (zAM k) (zAE k) y0) call297 func297 u fun X=>
 au
,
    @fun y0 b1=>zS (m1:=zHg (zAH k) (zAL k) (zAD k) (zAB k) (zAA k) (zAM k) (zAE k) y0) call247 func247 u fun X=>zG<|qN .s (.agg k1)<|fun b2=>zI<|zG<|zB 1 u<|qA .s [0] [] ih_formula_parser_implies u u u d<|fun r1 _ k p1 c1=>k<|qN .s (.agg k1)<|fun b3=>zV .s 2 u u u<|zI<|
  zY<|zG<|zB 1 u<|qA .s [0] [] zAp u u u d<|fun r2 _ k=>k<|zB 1 u<|zI<|zW u (
 au
)<|jC<|jds [] [2] 6<|yZ 0 2 3 u u u u<|zQ 4 [1] u<|zT 2<|
  qA (.f u) [0] [] ih_formula_parser_implies u u u d<|fun r3 _ k p2 c2=>k<|zM<|zT 3<|
  uR (.f u) (e:=qD) 32 [vi ((fv r1.1).1),vs ((fv r1.1).2.1),sv p1 ((fv r1.1).2.2) c1,vi ((fv r3.1).1),vs ((fv r3.1).2.1),sv p2 ((fv r3.1).2.2) c2] ([r1.1,r3.1]:List zC) (rC (vF (vP vI (vP vS (vL (gk 1))))) (rC (vF (vP vI (vP vS (vL (gk 0))))) rN))<|
  fun p3 c3=>zM<|qS 4 (.agg #[vi 8,vs [],sv p3 ([r1.1,r3.1]:List zC) c3]) u<|zT 5<|zV (o:=0) (.f u) 1 u u u<|zM<|qI<|
 au
,
    @fun y0 b1=>zS (m1:=zGQ (zAH k) (zAL k) (zAD k) (zAB k) (zAA k) (zAM k) (zAE k) y0) call272 func272 u fun X=>zG<|qN .s (.agg k1)<|fun b2=>zI<|zG<|zB 1 u<|qA .s [0] [] ih_formula_parser_or u u u d<|fun r1 _ k p1 c1=>k<|qN .s (.agg k1)<|fun b3=>zV .s 2 u u u<|zI<|zY<|
  zG<|zB 1 u<|qA .s [0] [] zAp u u u d<|fun r2 _ k=>k<|zB 1 u<|zI<|zW u (
 au
)<|jC<|jds [] [2] 6<|yZ 0 2 3 u u u u<|zQ 4 [1] u<|zT 2<|
  qA (.f u) [0] [] ih_formula_parser_implies u u u d<|fun r3 _ k p2 c2=>k<|zM<|zT 3<|
  uR (.f u) (e:=qD) 32 [vi ((fv r1.1).1),vs ((fv r1.1).2.1),sv p1 ((fv r1.1).2.2) c1,vi ((fv r3.1).1),vs ((fv r3.1).2.1),sv p2 ((fv r3.1).2.2) c2] ([r1.1,r3.1]:List zC) (rC (vF (vP vI (vP vS (vL (gk 1))))) (rC (vF (vP vI (vP vS (vL (gk 0))))) rN))<|
  fun p3 c3=>zM<|qS 4 (.agg #[vi 7,vs [],sv p3 ([r1.1,r3.1]:List zC) c3]) u<|zT 5<|zV (o:=0) (.f u) 1 u u u<|zM<|qI<|
 au
,
    @fun y0 b1 y1 y2=>zS (m1:=zBy (zAH k) (zAL k) (zAD k) (zAB k) (zAA k) (zAM k) (zAE k) y0 y1 y2) call296 func296 u fun X=>zG<|qN .s (.agg k1)<|fun b2=>zI<|zG<|zB 1 u<|qA .s [0] [] ih_formula_parser_and u u u d<|fun r1 _ k p1 c1=>k<|qN .s (.agg k1)<|fun b3=>zV .s 2 u u u<|zI<|
  zY<|zG<|zB 1 u<|qA .s [0] [] zBh u u u d<|fun r2 _ k=>k<|jv (v:=vs r2.1.1) (fun h=>zYi h u (by kernel_rfl))<|zB 2 u<|zI<|zW u (
 au
)<|jC<|zG<|zB 1 u<|qV 2 3 u u u<|
  xK .s (e:=qD) 32 [vi ((fv r1.1).1),vs ((fv r1.1).2.1),sv p1 ((fv r1.1).2.2) c1] ([r1.1]:List zC) (rC (vF (vP vI (vP vS (vL (gk 0))))) rN)<|fun r_1 p2 c2=>zL (.agg #[vi y1,vs [],sv p2 ([r1.1]:List zC) c2])<|
  qN .s (.agg k1)<|fun b4=>zV .s 4 u u u<|zI<|
  qX (fun s1 K=>∀ p3 c3 r_2,K [0,8,10] [(0,bx b1 282 [vs y0.1,vi s1.1,vi s1.2.1,vb s1.2.2.1]),(2,[]),(3,r_2),(4,bx b4 32 [vi y1,vs [],sv p3 s1.2.2.2 c3])] [] [] [Al qD 32 r_2 p3 c3 s1.2.2.2]) (
  qP<|
  vN (fun s2 K=>∀ p4 c4 r_3,K [0,2,3,8,10] [(0,bx b1 282 [vs y0.1,vi s2.1,vi s2.2.1,vb s2.2.2.1]),(2,[]),(3,r_3),(4,bx b4 32 [vi y1,vs [],sv p4 s2.2.2.2 c4])] [] [] [Al qD 32 r_3 p4 c4 s2.2.2.2]) (gv (fun _ k=>k p2 c2 r_1) [0,1,902,3,4] (gq [0]))<|
  fun s2 _ k p4 c4 r_3=>k<|zY<|zG<|zB 2 u<|qA .s [0] [] zAp u u u d<|fun r3 _ k=>k<|zI<|zW u (jC<|qP<|uG [7] [4] 8<|qK 0 2 u u<|wO 1 4 u u u u<|zQ 5 [2] u<|zT 3<|
  qA (.f u) [0] [] ih_formula_parser_and u u u d<|fun r4 _ k p5 c5=>k<|zM<|zT 4<|
  uR (.f u) (e:=qD) 32 [vi ((fv r4.1).1),vs ((fv r4.1).2.1),sv p5 ((fv r4.1).2.2) c5] ([r4.1]:List zC) (rC (vF (vP vI (vP vS (vL (gk 0))))) rN)<|fun p6 c6=>zM<|zT 5<|vK (.f u) 3 2 u (gk 0) u u<|
  fun x1 r_4 p7 c7=>zM<|qK 6 2 u u<|zT 7<|zV (o:=2) (.f u) 4 u u u<|jdb [] [4]<|qI<|
 au
)<|
 au
)<|
  fun s1 _ k p3 c3 r_2=>k<|qX (fun s3 K=>K [8,10] [(0,bx b1 282 [vs y0.1,vi s1.1,vi s1.2.1,vb s3])] [0] [] []) (
 au
)<|fun s3 _ k=>k<|zG<|qV 4 3 u u u<|zV .s 1 u u u<|zI<|wC<|wW 3 0 u u<|
 au
,
    @fun y0 b1 y1 y2=>zS (m1:=zBq (zAH k) (zAL k) (zAD k) (zAB k) (zAA k) (zAM k) (zAE k) y0 y1 y2) call296 func296 u fun X=>zG<|qN .s (.agg k1)<|fun b2=>zI<|zG<|zB 1 u<|qA .s [0] [] ih_formula_parser_unary rfl u u d<|fun r1 _ k p1 c1=>k<|qN .s (.agg k1)<|fun b3=>zV .s 2 u u u<|zI<|
  zY<|zG<|zB 1 u<|qA .s [0] [] zBh u u u d<|fun r2 _ k=>k<|jv (v:=vs r2.1.1) (fun h=>zYi h u (by kernel_rfl))<|zB 2 u<|zI<|zW u (
 au
)<|jC<|zG<|zB 1 u<|qV 2 3 u u u<|
  xK .s (e:=qD) 32 [vi ((fv r1.1).1),vs ((fv r1.1).2.1),sv p1 ((fv r1.1).2.2) c1] ([r1.1]:List zC) (rC (vF (vP vI (vP vS (vL (gk 0))))) rN)<|fun r_1 p2 c2=>zL (.agg #[vi y1,vs [],sv p2 ([r1.1]:List zC) c2])<|
  qN .s (.agg k1)<|fun b4=>zV .s 4 u u u<|zI<|
  qX (fun s1 K=>∀ p3 c3 r_2,K [0,8,10] [(0,bx b1 282 [vs y0.1,vi s1.1,vi s1.2.1,vb s1.2.2.1]),(2,[]),(3,r_2),(4,bx b4 32 [vi y1,vs [],sv p3 s1.2.2.2 c3])] [] [] [Al qD 32 r_2 p3 c3 s1.2.2.2]) (
  qP<|
  vN (fun s2 K=>∀ p4 c4 r_3,K [0,2,3,8,10] [(0,bx b1 282 [vs y0.1,vi s2.1,vi s2.2.1,vb s2.2.2.1]),(2,[]),(3,r_3),(4,bx b4 32 [vi y1,vs [],sv p4 s2.2.2.2 c4])] [] [] [Al qD 32 r_3 p4 c4 s2.2.2.2]) (gv (fun _ k=>k p2 c2 r_1) [0,1,902,3,4] (gq [0]))<|
  fun s2 _ k p4 c4 r_3=>k<|zY<|zG<|zB 2 u<|qA .s [0] [] zAp u u u d<|fun r3 _ k=>k<|zI<|zW u (jC<|qP<|uG [7] [4] 8<|qK 0 2 u u<|wO 1 4 u u u u<|zQ 5 [2] u<|zT 3<|
  qA (.f u) [0] [] ih_formula_parser_unary rfl u u d<|fun r4 _ k p5 c5=>k<|zM<|zT 4<|
  uR (.f u) (e:=qD) 32 [vi ((fv r4.1).1),vs ((fv r4.1).2.1),sv p5 ((fv r4.1).2.2) c5] ([r4.1]:List zC) (rC (vF (vP vI (vP vS (vL (gk 0))))) rN)<|fun p6 c6=>zM<|zT 5<|vK (.f u) 3 2 u (gk 0) u u<|
  fun x1 r_4 p7 c7=>zM<|qK 6 2 u u<|zT 7<|zV (o:=2) (.f u) 4 u u u<|jdb [] [4]<|qI<|
 au
)<|
 au
)<|
  fun s1 _ k p3 c3 r_2=>k<|qX (fun s3 K=>K [8,10] [(0,bx b1 282 [vs y0.1,vi s1.1,vi s1.2.1,vb s3])] [0] [] []) (
 au
)<|fun s3 _ k=>k<|zG<|qV 4 3 u u u<|zV .s 1 u u u<|zI<|wC<|wW 3 0 u u<|
 au
,
    @fun y0 b1=>zS (m1:=zIK (zAH k) (zAL k) (zAD k) (zAB k) (zAA k) (zAM k) (zAE k) y0) call291 func291 u fun X=>
 au
,
    @fun y0 b1=>zS (m1:=zAW (zAH k) (zAL k) (zAD k) (zAB k) (zAA k) (zAM k) (zAE k) y0) call298 func298 u fun X=>zG<|qN .s (.agg k1)<|fun b2=>zI<|zY<|zG<|zB 1 u<|qA .s [0] [] zBh u u u d<|fun r1 _ k=>k<|qN .s (.agg #[vs [],vs [],vi 0])<|fun b3=>zV .s 2 u u u<|zI<|qP<|zG<|
  zB 2 u<|zO 2 u<|qJ 0 u u u<|zB 2 u<|zI<|zW u (
 au
)<|zG<|zB 1 u<|qA .s [0] [] zAp u u u d<|fun r2 _ k=>k<|zB 1 u<|zI<|zW u (
 au
)<|zG<|zB 1 u<|
  qA .s [0] [] zAp u u u d<|fun r3 _ k=>k<|zB 1 u<|zI<|zW u (
 au
)<|zG<|zB 1 u<|qA .s [0] [] zAp u u u d<|fun r4 _ k=>k<|zB 1 u<|zI<|zW u (
 au
)<|zG<|zB 1 u<|
  qA .s [0] [] zAp u u u d<|fun r5 _ k=>k<|zB 1 u<|zI<|zW u (zG<|zB 1 u<|qA .s [0] [] ih_formula_parser_unary rfl u u d<|fun r6 _ k p1 c1=>k<|
  uR .s (e:=qD) 32 [vi ((fv r6.1).1),vs ((fv r6.1).2.1),sv p1 ((fv r6.1).2.2) c1] ([r6.1]:List zC) (rC (vF (vP vI (vP vS (vL (gk 0))))) rN)<|
 au
)<|
 au
⟩
theorem zM3{y0:qR}: zN qd prog 297 [pt b1 0] [bx b1 282 (zA3 y0)] [] (zM5 y0) fun r K=>∀ p1 c1,K (.agg #[vi ((fv r.1).1),vs ((fv r.1).2.1),sv p1 ((fv r.1).2.2) c1]) [bx b1 282 [vs y0.1,vi r.2.1,vi r.2.2.1,vb r.2.2.2]] [Rl qD p1 c1 ((fv r.1).2.2)]:=uO fun k=>(zAz k).1
abbrev zHi:=@Cn.mk 297 0 _ @zM3
theorem zMe{y0:qR}: zN qd prog 247 [pt b1 0] [bx b1 282 (zA3 y0)] [] (zF9 y0) fun r K=>∀ p1 c1,K (.agg #[vi ((fv r.1).1),vs ((fv r.1).2.1),sv p1 ((fv r.1).2.2) c1]) [bx b1 282 [vs y0.1,vi r.2.1,vi r.2.2.1,vb r.2.2.2]] [Rl qD p1 c1 ((fv r.1).2.2)]:=uO fun k=>(zAz k).2.1
abbrev zHe:=@Cn.mk 247 0 _ @zMe
theorem zJq{y0:qR}: zN qd prog 272 [pt b1 0] [bx b1 282 (zA3 y0)] [] (zJi y0) fun r K=>∀ p1 c1,K (.agg #[vi ((fv r.1).1),vs ((fv r.1).2.1),sv p1 ((fv r.1).2.2) c1]) [bx b1 282 [vs y0.1,vi r.2.1,vi r.2.2.1,vb r.2.2.2]] [Rl qD p1 c1 ((fv r.1).2.2)]:=uO fun k=>(zAz k).2.2.1
abbrev zGS:=@Cn.mk 272 0 _ @zJq
theorem zEX{y0:qR}{y1:Int}{y2:zA}: zN qd prog 296 [pt b1 0,vi y1,vs y2,.func (.func 297) #[pt b1 0] #[]] [bx b1 282 (zA3 y0)] [] (zE1 y0 y1 y2) fun r K=>∀ p1 c1,K (.agg #[vi ((fv r.1).1),vs ((fv r.1).2.1),sv p1 ((fv r.1).2.2) c1]) [bx b1 282 [vs y0.1,vi r.2.1,vi r.2.2.1,vb r.2.2.2]] [Rl qD p1 c1 ((fv r.1).2.2)]:=uO fun k=>(zAz k).2.2.2.1
abbrev zBz:=@Cn.mk 296 0 _ @zEX
theorem zDh{y0:qR}{y1:Int}{y2:zA}: zN qd prog 296 [pt b1 0,vi y1,vs y2,.func (.func 298) #[pt b1 0] #[]] [bx b1 282 (zA3 y0)] [] (zDn y0 y1 y2) fun r K=>∀ p1 c1,K (.agg #[vi ((fv r.1).1),vs ((fv r.1).2.1),sv p1 ((fv r.1).2.2) c1]) [bx b1 282 [vs y0.1,vi r.2.1,vi r.2.2.1,vb r.2.2.2]] [Rl qD p1 c1 ((fv r.1).2.2)]:=uO fun k=>(zAz k).2.2.2.2.1
abbrev zBn:=@Cn.mk 296 1 _ @zDh
theorem zNJ{y0:qR}: zN qd prog 291 [pt b1 0] [bx b1 282 (zA3 y0)] [] (zNe y0) fun r K=>∀ p1 c1,K (.agg #[vi ((fv r.1).1),vs ((fv r.1).2.1),sv p1 ((fv r.1).2.2) c1]) [bx b1 282 [vs y0.1,vi r.2.1,vi r.2.2.1,vb r.2.2.2]] [Rl qD p1 c1 ((fv r.1).2.2)]:=uO fun k=>(zAz k).2.2.2.2.2.1
abbrev zIJ:=@Cn.mk 291 0 _ @zNJ
theorem zLH{y0:qR}: zN qd prog 298 [pt b1 0] [bx b1 282 (zA3 y0)] [] (zKw y0) fun r K=>∀ p1 c1,K (.agg #[vi ((fv r.1).1),vs ((fv r.1).2.1),sv p1 ((fv r.1).2.2) c1]) [bx b1 282 [vs y0.1,vi r.2.1,vi r.2.2.1,vb r.2.2.2]] [Rl qD p1 c1 ((fv r.1).2.2)]:=uO fun k=>(zAz k).2.2.2.2.2.2
abbrev zGx:=@Cn.mk 298 0 _ @zLH
attribute [instance] zHi zHe zGS zBz zBn zIJ zGx
theorem zS5{y0:zA}: zN qd prog 226 [vs y0] [] [] (zB9 y0) fun r K=>∀ p1 c1,K (.tuple #[.agg #[vi ((fv r.1).1),vs ((fv r.1).2.1),sv p1 ((fv r.1).2.2) c1],vi r.2.1,vi r.2.2]) [] [Rl qD p1 c1 ((fv r.1).2.2)] :=
 zS call226 func226 u fun X=>hD 8 [] [1] (.l [0,1,2,3,4] (.f 5 (.l [6,7] .e)))<|hI 1 5 1 (fun(s1:Int×Int) K=>K [2,5,6] [(1,.c [(1,vi s1.1),(2,vi s1.2)])] [0] [] [])<|hI 1 9 0 (fun(s2:Bool) K=>K [2,6] [(1,.r [])] [0] [(44,vb s2)] [])<|
 au
abbrev zRc:=@Cn.mk 226 0 _ @zS5
attribute [instance] zRc
theorem zKZ{y0:vJ}: zN qd prog 188 [pt b1 0] [bx b1 161 (zAZ y0 p1 c1 p2 c2)] (zAY y0 p1 c1 p2 c2 []) (zBm y0) fun r K=>∀ p3 c3,K (.tuple #[]) [bx b1 161 [vs r.1,vb r.2.1,vb r.2.2.1,vi y0.2.2.2.1,vi (a4 y0).1,vi (a5 y0).1,vi (a6 y0).1,vs (a7 y0).1,vi (a8 y0).1.1,vi (a8 y0).1.2.1,vi (a8 y0).1.2.2.1,vb (a8 y0).1.2.2.2.1.1,vs (a8 y0).1.2.2.2.1.2,sv p1 (a8 y0).1.2.2.2.2 c1,vb (a9 y0).1.1,vs (a9 y0).1.2,vi (wE y0).1.1,vi (wE y0).1.2,vi (qG y0).1.1,vi (qG y0).1.2.1,vi (qG y0).1.2.2.1,vi (qG y0).1.2.2.2,vi r.2.2.2.1,vs (a4 r).1,sv p3 (a5 r) c3]] [Rl qD p3 c3 (a5 r)] :=
 zS call188 func188 u fun X=>hI 1 1 0 (fun(s1:Bool) K=>K [0,2] [(0,.c [(2,vb s1)])] [1,2,0] [] [])<|
 au
abbrev zK9:=@Cn.mk 188 0 _ @zKZ
attribute [instance] zK9
theorem zKx{y0:vJ}{y1:Int}: zN False prog 142 [pt b1 0,vi y1] [bx b1 161 (zAZ y0 p1 c1 p2 c2)] (zAY y0 p1 c1 p2 c2 [vW 2,vW 3,Tb prog "internal/strconv.uint64pow10" .u64 Lib.pow10Tab]) (zAu y0 y1) fun r K=>∀ p3 c3,K (.tuple #[]) [bx b1 161 [vs r.1,vb r.2.1,vb r.2.2.1,vi r.2.2.2.1,vi (a4 y0).1,vi (a5 y0).1,vi (a4 r).1,vs (a7 y0).1,vi (a8 y0).1.1,vi (a8 y0).1.2.1,vi (a8 y0).1.2.2.1,vb (a8 y0).1.2.2.2.1.1,vs (a8 y0).1.2.2.2.1.2,sv p1 (a8 y0).1.2.2.2.2 c1,vb (a9 y0).1.1,vs (a9 y0).1.2,vi (wE y0).1.1,vi (wE y0).1.2,vi (qG y0).1.1,vi (qG y0).1.2.1,vi (qG y0).1.2.2.1,vi (qG y0).1.2.2.2,vi (a5 r).1,vs (a6 r).1,sv p3 (a7 r) c3]] [Rl qD p3 c3 (a7 r)] :=
 zS call142 func142 u fun X=>
 au
abbrev zLE:=@Cn.mk 142 0 _ @zKx
attribute [instance] zLE
theorem zF1{y1:vJ}: zN False prog 141 [pt b1 0] [bx b1 159 [pt b2 0],bx b2 161 (zAZ y1 p1 c1 p2 c2)] (zAY y1 p1 c1 p2 c2 [vW 2,vW 3,Tb prog "internal/strconv.uint64pow10" .u64 Lib.pow10Tab]) (zBR y1) fun r K=>∀ p3 c3,K (.tuple #[]) [bx b1 159 [pt b2 0],bx b2 161 [vs r.1,vb r.2.1,vb r.2.2.1,vi r.2.2.2.1,vi (a4 y1).1,vi (a5 y1).1,vi (a4 r).1,vs (a7 y1).1,vi (a8 y1).1.1,vi (a8 y1).1.2.1,vi (a8 y1).1.2.2.1,vb (a8 y1).1.2.2.2.1.1,vs (a8 y1).1.2.2.2.1.2,sv p1 (a8 y1).1.2.2.2.2 c1,vb (a9 y1).1.1,vs (a9 y1).1.2,vi (wE y1).1.1,vi (wE y1).1.2,vi (qG y1).1.1,vi (qG y1).1.2.1,vi (qG y1).1.2.2.1,vi (qG y1).1.2.2.2,vi (a5 r).1,vs (a6 r).1,sv p3 (a7 r) c3]] [Rl qD p3 c3 (a7 r)] :=
 zS call141 func141 u fun X=>
 au
abbrev zIk:=@Cn.mk 141 0 _ @zF1
theorem zF0{y1:vJ}: zN False prog 143 [pt b1 0] [bx b1 159 [pt b2 0],bx b2 161 (zAZ y1 p1 c1 p2 c2)] (zAY y1 p1 c1 p2 c2 [vW 2,vW 3,Tb prog "internal/strconv.uint64pow10" .u64 Lib.pow10Tab]) (zBT y1) fun r K=>∀ p3 c3,K (.tuple #[]) [bx b1 159 [pt b2 0],bx b2 161 [vs r.1,vb r.2.1,vb r.2.2.1,vi r.2.2.2.1,vi (a4 y1).1,vi (a5 y1).1,vi (a4 r).1,vs (a7 y1).1,vi (a8 y1).1.1,vi (a8 y1).1.2.1,vi (a8 y1).1.2.2.1,vb (a8 y1).1.2.2.2.1.1,vs (a8 y1).1.2.2.2.1.2,sv p1 (a8 y1).1.2.2.2.2 c1,vb (a9 y1).1.1,vs (a9 y1).1.2,vi (wE y1).1.1,vi (wE y1).1.2,vi (qG y1).1.1,vi (qG y1).1.2.1,vi (qG y1).1.2.2.1,vi (qG y1).1.2.2.2,vi (a5 r).1,vs (a6 r).1,sv p3 (a7 r) c3]] [Rl qD p3 c3 (a7 r)] :=
 zS call143 func143 u fun X=>
 au
abbrev zIf:=@Cn.mk 143 0 _ @zF0
theorem zF3{y1:vJ}: zN False prog 144 [pt b1 0] [bx b1 159 [pt b2 0],bx b2 161 (zAZ y1 p1 c1 p2 c2)] (zAY y1 p1 c1 p2 c2 [vW 2,vW 3,Tb prog "internal/strconv.uint64pow10" .u64 Lib.pow10Tab]) (zBV y1) fun r K=>∀ p3 c3,K (.tuple #[]) [bx b1 159 [pt b2 0],bx b2 161 [vs r.1,vb r.2.1,vb r.2.2.1,vi r.2.2.2.1,vi (a4 y1).1,vi (a5 y1).1,vi (a4 r).1,vs (a7 y1).1,vi (a8 y1).1.1,vi (a8 y1).1.2.1,vi (a8 y1).1.2.2.1,vb (a8 y1).1.2.2.2.1.1,vs (a8 y1).1.2.2.2.1.2,sv p1 (a8 y1).1.2.2.2.2 c1,vb (a9 y1).1.1,vs (a9 y1).1.2,vi (wE y1).1.1,vi (wE y1).1.2,vi (qG y1).1.1,vi (qG y1).1.2.1,vi (qG y1).1.2.2.1,vi (qG y1).1.2.2.2,vi (a5 r).1,vs (a6 r).1,sv p3 (a7 r) c3]] [Rl qD p3 c3 (a7 r)] :=
 zS call144 func144 u fun X=>
 au
abbrev zIe:=@Cn.mk 144 0 _ @zF3
theorem zFh{y1:vJ}: zN qd prog 126 [pt b1 0] [bx b1 159 [pt b2 0],bx b2 161 (zAZ y1 p1 c1 p2 c2)] (zAY y1 p1 c1 p2 c2 []) (zCL y1) fun r K=>K (.tuple #[]) [bx b1 159 [pt b2 0],bx b2 161 [vs r.1,vb r.2.1,vb r.2.2.1,vi r.2.2.2.1,vi (a4 y1).1,vi (a5 y1).1,vi (a6 y1).1,vs (a4 r),vi (a8 y1).1.1,vi (a8 y1).1.2.1,vi (a8 y1).1.2.2.1,vb (a8 y1).1.2.2.2.1.1,vs (a8 y1).1.2.2.2.1.2,sv p1 (a8 y1).1.2.2.2.2 c1,vb (a9 y1).1.1,vs (a9 y1).1.2,vi (wE y1).1.1,vi (wE y1).1.2,vi (qG y1).1.1,vi (qG y1).1.2.1,vi (qG y1).1.2.2.1,vi (qG y1).1.2.2.2,vi ((fv (qQ y1)).1),vs ((fv (qQ y1)).2.1),sv p2 ((fv (qQ y1)).2.2) c2]] [] :=
 zS call126 func126 u fun X=>
 au
abbrev zJ6:=@Cn.mk 126 0 _ @zFh
theorem zFs{y1:vJ}: zN qd prog 127 [pt b1 0] [bx b1 159 [pt b2 0],bx b2 161 (zAZ y1 p1 c1 p2 c2)] (zAY y1 p1 c1 p2 c2 []) (zCN y1) fun r K=>K (.tuple #[]) [bx b1 159 [pt b2 0],bx b2 161 [vs y1.1,vb y1.2.1,vb y1.2.2.1,vi r,vi (a4 y1).1,vi (a5 y1).1,vi (a6 y1).1,vs (a7 y1).1,vi (a8 y1).1.1,vi (a8 y1).1.2.1,vi (a8 y1).1.2.2.1,vb (a8 y1).1.2.2.2.1.1,vs (a8 y1).1.2.2.2.1.2,sv p1 (a8 y1).1.2.2.2.2 c1,vb (a9 y1).1.1,vs (a9 y1).1.2,vi (wE y1).1.1,vi (wE y1).1.2,vi (qG y1).1.1,vi (qG y1).1.2.1,vi (qG y1).1.2.2.1,vi (qG y1).1.2.2.2,vi ((fv (qQ y1)).1),vs ((fv (qQ y1)).2.1),sv p2 ((fv (qQ y1)).2.2) c2]] [] :=
 zS call127 func127 u fun X=>
 au
abbrev zJ2:=@Cn.mk 127 0 _ @zFs
theorem zLG{y0:vJ}{y1:Int}: zN False prog 129 [pt b1 0,vi y1] [bx b1 161 [vs y0.1,vb y0.2.1,vb y0.2.2.1,vi y0.2.2.2.1,vi (a4 y0).1,vi (a5 y0).1,vi (a6 y0).1,vs (a7 y0).1,vi (a8 y0).1.1,vi (a8 y0).1.2.1,vi (a8 y0).1.2.2.1,vb (a8 y0).1.2.2.2.1.1,vs (a8 y0).1.2.2.2.1.2,sv p1 (a8 y0).1.2.2.2.2 c1,vb (a9 y0).1.1,vs (a9 y0).1.2,vi (wE y0).1.1,vi (wE y0).1.2,vi (qG y0).1.1,vi (qG y0).1.2.1,vi (qG y0).1.2.2.1,vi (qG y0).1.2.2.2,vi ((fv (qQ y0)).1),vs ((fv (qQ y0)).2.1),sv p2 ((fv (qQ y0)).2.2) c2],r_1] [Al qU 23 r_1 p1 c1 (a8 y0).1.2.2.2.2,Rl qD p2 c2 ((fv (qQ y0)).2.2),vW 2,vW 3,Tb prog "internal/strconv.uint64pow10" .u64 Lib.pow10Tab] (zAP y0 y1) fun r K=>∀ p3 c3 r_2,K (.tuple #[]) [bx b1 161 [vs r.1,vb r.2.1,vb r.2.2.1,vi r.2.2.2.1,vi (a4 y0).1,vi (a5 y0).1,vi (a6 y0).1,vs (a7 y0).1,vi (a4 r).1,vi (a8 y0).1.2.1,vi (a5 r).1,vb (a6 r).1,vs (a7 r).1,sv p3 (a8 r) c3,vb (a9 y0).1.1,vs (a9 y0).1.2,vi (wE y0).1.1,vi (wE y0).1.2,vi (qG y0).1.1,vi (qG y0).1.2.1,vi (qG y0).1.2.2.1,vi (qG y0).1.2.2.2,vi ((fv (qQ y0)).1),vs ((fv (qQ y0)).2.1),sv p2 ((fv (qQ y0)).2.2) c2],r_2] [Al qU 23 r_2 p3 c3 (a8 r)] :=
 zS call129 func129 u fun X=>zG<|zB 4 u<|zO 3 u<|zO 0 u<|zV .s 0 u u u<|zB 1 u<|zO 3 u<|zO 5 u<|zO 0 u<|zV .s 0 u u u<|zI<|
  qX (fun s1 K=>K [0,1] [(0,bx b1 161 [vs s1.1,vb s1.2.1,vb s1.2.2.1,vi 4,vi (a4 y0).1,vi (a5 y0).1,vi (a6 y0).1,vs (a7 y0).1,vi y1,vi (a8 y0).1.2.1,vi s1.2.2.2,vb (a8 y0).1.2.2.2.1.1,vs (a8 y0).1.2.2.2.1.2,sv p1 (a8 y0).1.2.2.2.2 c1,vb (a9 y0).1.1,vs (a9 y0).1.2,vi (wE y0).1.1,vi (wE y0).1.2,vi (qG y0).1.1,vi (qG y0).1.2.1,vi (qG y0).1.2.2.1,vi (qG y0).1.2.2.2,vi ((fv (qQ y0)).1),vs ((fv (qQ y0)).2.1),sv p2 ((fv (qQ y0)).2.2) c2])] [0,1,2,3,4] [] []) (
 au
)<|fun s1 _ k=>k<|zG<|zB 2 u<|qA .s [0] [1] zDk u u u ⟨cl 1 0,ck 1,d⟩<|fun r2 _ k=>k<|zB 1 u<|zO 3 u<|
  zO 5 u<|zO 3 u<|zV .s 0 u u u<|zI<|zY<|jA 2 u<|zW u (
 au
)<|jC<|
  qX (fun s2 K=>K [0] [(0,bx b1 161 [vs s2.1,vb s2.2.1,vb s2.2.2,vi 4,vi (a4 y0).1,vi (a5 y0).1,vi (a6 y0).1,vs (a7 y0).1,vi y1,vi (a8 y0).1.2.1,vi s1.2.2.2,vb r2.1.1,vs r2.1.2,sv p1 (a8 y0).1.2.2.2.2 c1,vb (a9 y0).1.1,vs (a9 y0).1.2,vi (wE y0).1.1,vi (wE y0).1.2,vi (qG y0).1.1,vi (qG y0).1.2.1,vi (qG y0).1.2.2.1,vi (qG y0).1.2.2.2,vi ((fv (qQ y0)).1),vs ((fv (qQ y0)).2.1),sv p2 ((fv (qQ y0)).2.2) c2])] [0,1,2,3,4] [] []) (
 au
)<|fun s2 _ k=>k<|qP<|
  vN (fun s3 K=>∀ p3 c3 r_2,K [0] [(0,bx b1 161 [vs s3.1,vb s3.2.1,vb s3.2.2.1,vi 4,vi (a4 y0).1,vi (a5 y0).1,vi (a6 y0).1,vs (a7 y0).1,vi y1,vi (a8 y0).1.2.1,vi s1.2.2.2,vb r2.1.1,vs r2.1.2,sv p3 s3.2.2.2 c3,vb (a9 y0).1.1,vs (a9 y0).1.2,vi (wE y0).1.1,vi (wE y0).1.2,vi (qG y0).1.1,vi (qG y0).1.2.1,vi (qG y0).1.2.2.1,vi (qG y0).1.2.2.2,vi ((fv (qQ y0)).1),vs ((fv (qQ y0)).2.1),sv p2 ((fv (qQ y0)).2.2) c2]),(1,r_2)] [1,2,3,4] [] [Al qU 23 r_2 p3 c3 s3.2.2.2]) (gv (fun _ k=>k p1 c1 r_1) [0,1] (gq [0,1,2,3,4]))<|
  fun s3 _ k p3 c3 r_2=>k<|hD 7 [8,15] [0] (.l [0,1,2,3,4,5,7] (.w 6 8 (.f 8 (.b [15] [0] (.f 9 (.f 10 (.l [11,12,13,14] (.f 15 (.b [] [0] .e))))))) (.b [15] [0] (.l [6] (.f 9 (.f 10 (.l [11,12,13,14] (.f 15 (.b [] [0] .e)))))))))<|hP 4 6 0 (fun K=>K [0] [] [0,1,2,3,4] [(55,vb ((!s3.2.1)&&(!s3.2.2.1)))] [])<|hI 3 7 0 (fun(s4:zA×Bool×Bool×(List zE)) K=>∀ p4 c4 r_3,K [0] [(0,.c [(0,vs s4.1),(1,vb s4.2.1),(2,vb s4.2.2.1),(13,sv p4 s4.2.2.2 c4)]),(1,.r r_3)] [1,2,3,4] [] [Al qU 23 r_3 p4 c4 s4.2.2.2])<|
 au
abbrev zLF:=@Cn.mk 129 0 _ @zLG
attribute [instance] zIk zIf zIe zJ6 zJ2 zLF
theorem zFl{y1:vJ}: zN False prog 128 [pt b1 0] [bx b1 159 [pt b2 0],bx b2 161 [vs y1.1,vb y1.2.1,vb y1.2.2.1,vi y1.2.2.2.1,vi (a4 y1).1,vi (a5 y1).1,vi (a6 y1).1,vs (a7 y1).1,vi (a8 y1).1.1,vi (a8 y1).1.2.1,vi (a8 y1).1.2.2.1,vb (a8 y1).1.2.2.2.1.1,vs (a8 y1).1.2.2.2.1.2,sv p1 (a8 y1).1.2.2.2.2 c1,vb (a9 y1).1.1,vs (a9 y1).1.2,vi (wE y1).1.1,vi (wE y1).1.2,vi (qG y1).1.1,vi (qG y1).1.2.1,vi (qG y1).1.2.2.1,vi (qG y1).1.2.2.2,vi ((fv (qQ y1)).1),vs ((fv (qQ y1)).2.1),sv p2 ((fv (qQ y1)).2.2) c2],r_1] [Al qU 23 r_1 p1 c1 (a8 y1).1.2.2.2.2,Rl qD p2 c2 ((fv (qQ y1)).2.2),vW 2,vW 3,Tb prog "internal/strconv.uint64pow10" .u64 Lib.pow10Tab] (zB8 y1) fun r K=>∀ p3 c3 r_2,K (.tuple #[]) [bx b1 159 [pt b2 0],bx b2 161 [vs r.1,vb r.2.1,vb r.2.2.1,vi r.2.2.2.1,vi (a4 y1).1,vi (a5 y1).1,vi (a6 y1).1,vs (a7 y1).1,vi (a4 r).1,vi (a8 y1).1.2.1,vi (a5 r).1,vb (a6 r).1,vs (a7 r).1,sv p3 (a8 r) c3,vb (a9 y1).1.1,vs (a9 y1).1.2,vi (wE y1).1.1,vi (wE y1).1.2,vi (qG y1).1.1,vi (qG y1).1.2.1,vi (qG y1).1.2.2.1,vi (qG y1).1.2.2.2,vi ((fv (qQ y1)).1),vs ((fv (qQ y1)).2.1),sv p2 ((fv (qQ y1)).2.2) c2],r_2] [Al qU 23 r_2 p3 c3 (a8 r)] :=
 zS call128 func128 u fun X=>
 au
abbrev zJ9:=@Cn.mk 128 0 _ @zFl
attribute [instance] zJ9
set_option maxHeartbeats 2000000 in
theorem zFi{y0:vJ}: zN qd prog 75 [pt b1 0] [bx b1 161 [vs y0.1,vb y0.2.1,vb y0.2.2.1,vi y0.2.2.2.1,vi (a4 y0).1,vi (a5 y0).1,vi (a6 y0).1,vs (a7 y0).1,vi (a8 y0).1.1,vi (a8 y0).1.2.1,vi (a8 y0).1.2.2.1,vb (a8 y0).1.2.2.2.1.1,vs (a8 y0).1.2.2.2.1.2,sv p1 (a8 y0).1.2.2.2.2 c1,vb (a9 y0).1.1,vs (a9 y0).1.2,vi (wE y0).1.1,vi (wE y0).1.2,vi (qG y0).1.1,vi (qG y0).1.2.1,vi (qG y0).1.2.2.1,vi (qG y0).1.2.2.2,vi ((fv (qQ y0)).1),vs ((fv (qQ y0)).2.1),sv p2 ((fv (qQ y0)).2.2) c2],r_1] [Al qU 23 r_1 p1 c1 (a8 y0).1.2.2.2.2,Rl qD p2 c2 ((fv (qQ y0)).2.2)] (zAC y0) fun r K=>∀ b2 b3 r_2,K (.map (some b3)) [bx b1 161 [vs y0.1,vb y0.2.1,vb y0.2.2.1,vi y0.2.2.2.1,vi (a4 y0).1,vi (a5 y0).1,vi (a6 y0).1,vs (a7 y0).1,vi (a8 y0).1.1,vi (a8 y0).1.2.1,vi (a8 y0).1.2.2.1,vb (a8 y0).1.2.2.2.1.1,vs (a8 y0).1.2.2.2.1.2,sv p1 (a8 y0).1.2.2.2.2 c1,vb (a9 y0).1.1,vs (a9 y0).1.2,vi (wE y0).1.1,vi (wE y0).1.2,vi (qG y0).1.1,vi (qG y0).1.2.1,vi (qG y0).1.2.2.1,vi (qG y0).1.2.2.2,vi ((fv (qQ y0)).1),vs ((fv (qQ y0)).2.1),sv p2 ((fv (qQ y0)).2.2) c2],r_1,bx b2 159 [pt b1 0],r_2] [Ma vs (fun v:Value=>v) r_2 b3 ([([112,117,116],.func (.func 124) #[] #[pt b2 0]),([114,117,108,101],.func (.func 126) #[] #[pt b2 0]),([119,105,116,104,100,114,97,119],.func (.func 127) #[] #[pt b2 0]),([97,115,115,101,114,116],.func (.func 128) #[] #[pt b2 0]),([99,104,97,108,108,101,110,103,101],.func (.func 130) #[] #[pt b2 0]),([97,114,103,117,101],.func (.func 131) #[] #[pt b2 0]),([99,111,110,99,101,100,101],.func (.func 132) #[] #[pt b2 0]),([114,101,116,114,97,99,116],.func (.func 133) #[] #[pt b2 0]),([111,112,101,110],.func (.func 134) #[] #[pt b2 0]),([97,116,116,97,99,107],.func (.func 136) #[] #[pt b2 0]),([116,97,107,101,98,97,99,107],.func (.func 138) #[] #[pt b2 0]),([103,105,118,101,117,112],.func (.func 139) #[] #[pt b2 0]),([100,101,99,105,100,101],.func (.func 140) #[] #[pt b2 0]),([114,101,118,105,115,101],.func (.func 141) #[] #[pt b2 0]),([117,112,100,97,116,101],.func (.func 143) #[] #[pt b2 0]),([109,101,114,103,101],.func (.func 144) #[] #[pt b2 0])]:List (zA×Value))] :=
 zS call75 func75 u fun X=>zG<|yB .s u<|fun b2=>zB 1 u<|zI<|zG<|jmm .s vs (fun v:Value=>v) Tryz.key163 u (.inl u)<|fun b3 r_2=>zB 1 u<|jmI .s 3 0 Tryz.key163 u u u u<|fun r_3=>zB 1 u<|jmI .s 3 0 Tryz.key163 u u u u<|fun r_4=>
  zB 1 u<|jmI .s 3 0 Tryz.key163 u u u u<|fun r_5=>zB 1 u<|jmI .s 3 0 Tryz.key163 u u u u<|fun r_6=>zB 1 u<|jmI .s 3 0 Tryz.key163 u u u u<|fun r_7=>zB 1 u<|jmI .s 3 0 Tryz.key163 u u u u<|fun r_8=>
  zB 1 u<|jmI .s 3 0 Tryz.key163 u u u u<|fun r_9=>zB 1 u<|jmI .s 3 0 Tryz.key163 u u u u<|fun r_10=>zB 1 u<|jmI .s 3 0 Tryz.key163 u u u u<|fun r_11=>zB 1 u<|jmI .s 3 0 Tryz.key163 u u u u<|
  fun r_12=>zB 1 u<|jmI .s 3 0 Tryz.key163 u u u u<|fun r_13=>zB 1 u<|jmI .s 3 0 Tryz.key163 u u u u<|fun r_14=>zB 1 u<|jmI .s 3 0 Tryz.key163 u u u u<|fun r_15=>zB 1 u<|
  jmI .s 3 0 Tryz.key163 u u u u<|fun r_16=>zB 1 u<|jmI .s 3 0 Tryz.key163 u u u u<|fun r_17=>zB 1 u<|jmI .s 3 0 Tryz.key163 u u u u<|
 au
abbrev zJX:=@Cn.mk 75 0 _ @zFi
theorem zEo{y1:vJ}: zN False prog 130 [pt b1 0] [bx b1 159 [pt b2 0],bx b2 161 [vs y1.1,vb y1.2.1,vb y1.2.2.1,vi y1.2.2.2.1,vi (a4 y1).1,vi (a5 y1).1,vi (a6 y1).1,vs (a7 y1).1,vi (a8 y1).1.1,vi (a8 y1).1.2.1,vi (a8 y1).1.2.2.1,vb (a8 y1).1.2.2.2.1.1,vs (a8 y1).1.2.2.2.1.2,sv p1 (a8 y1).1.2.2.2.2 c1,vb (a9 y1).1.1,vs (a9 y1).1.2,vi (wE y1).1.1,vi (wE y1).1.2,vi (qG y1).1.1,vi (qG y1).1.2.1,vi (qG y1).1.2.2.1,vi (qG y1).1.2.2.2,vi ((fv (qQ y1)).1),vs ((fv (qQ y1)).2.1),sv p2 ((fv (qQ y1)).2.2) c2],r_1] [Al qU 23 r_1 p1 c1 (a8 y1).1.2.2.2.2,Rl qD p2 c2 ((fv (qQ y1)).2.2),vW 2,vW 3,Tb prog "internal/strconv.uint64pow10" .u64 Lib.pow10Tab] (zBM y1) fun r K=>∀ p3 c3 r_2,K (.tuple #[]) [bx b1 159 [pt b2 0],bx b2 161 [vs r.1,vb r.2.1,vb r.2.2.1,vi r.2.2.2.1,vi (a4 y1).1,vi (a5 y1).1,vi (a6 y1).1,vs (a7 y1).1,vi (a4 r).1,vi (a8 y1).1.2.1,vi (a5 r).1,vb (a6 r).1,vs (a7 r).1,sv p3 (a8 r) c3,vb (a9 y1).1.1,vs (a9 y1).1.2,vi (wE y1).1.1,vi (wE y1).1.2,vi (qG y1).1.1,vi (qG y1).1.2.1,vi (qG y1).1.2.2.1,vi (qG y1).1.2.2.2,vi ((fv (qQ y1)).1),vs ((fv (qQ y1)).2.1),sv p2 ((fv (qQ y1)).2.2) c2],r_2] [Al qU 23 r_2 p3 c3 (a8 r)] :=
 zS call130 func130 u fun X=>
 au
abbrev zIL:=@Cn.mk 130 0 _ @zEo
theorem zFj{y1:vJ}: zN False prog 131 [pt b1 0] [bx b1 159 [pt b2 0],bx b2 161 [vs y1.1,vb y1.2.1,vb y1.2.2.1,vi y1.2.2.2.1,vi (a4 y1).1,vi (a5 y1).1,vi (a6 y1).1,vs (a7 y1).1,vi (a8 y1).1.1,vi (a8 y1).1.2.1,vi (a8 y1).1.2.2.1,vb (a8 y1).1.2.2.2.1.1,vs (a8 y1).1.2.2.2.1.2,sv p1 (a8 y1).1.2.2.2.2 c1,vb (a9 y1).1.1,vs (a9 y1).1.2,vi (wE y1).1.1,vi (wE y1).1.2,vi (qG y1).1.1,vi (qG y1).1.2.1,vi (qG y1).1.2.2.1,vi (qG y1).1.2.2.2,vi ((fv (qQ y1)).1),vs ((fv (qQ y1)).2.1),sv p2 ((fv (qQ y1)).2.2) c2],r_1] [Al qU 23 r_1 p1 c1 (a8 y1).1.2.2.2.2,Rl qD p2 c2 ((fv (qQ y1)).2.2),vW 2,vW 3,Tb prog "internal/strconv.uint64pow10" .u64 Lib.pow10Tab] (zB3 y1) fun r K=>∀ p3 c3 r_2,K (.tuple #[]) [bx b1 159 [pt b2 0],bx b2 161 [vs r.1,vb r.2.1,vb r.2.2.1,vi r.2.2.2.1,vi (a4 y1).1,vi (a5 y1).1,vi (a6 y1).1,vs (a7 y1).1,vi (a4 r).1,vi (a8 y1).1.2.1,vi (a5 r).1,vb (a6 r).1,vs (a7 r).1,sv p3 (a8 r) c3,vb (a9 y1).1.1,vs (a9 y1).1.2,vi (wE y1).1.1,vi (wE y1).1.2,vi (qG y1).1.1,vi (qG y1).1.2.1,vi (qG y1).1.2.2.1,vi (qG y1).1.2.2.2,vi ((fv (qQ y1)).1),vs ((fv (qQ y1)).2.1),sv p2 ((fv (qQ y1)).2.2) c2],r_2] [Al qU 23 r_2 p3 c3 (a8 r)] :=
 zS call131 func131 u fun X=>
 au
abbrev zJ4:=@Cn.mk 131 0 _ @zFj
theorem zFy{y1:vJ}: zN False prog 132 [pt b1 0] [bx b1 159 [pt b2 0],bx b2 161 [vs y1.1,vb y1.2.1,vb y1.2.2.1,vi y1.2.2.2.1,vi (a4 y1).1,vi (a5 y1).1,vi (a6 y1).1,vs (a7 y1).1,vi (a8 y1).1.1,vi (a8 y1).1.2.1,vi (a8 y1).1.2.2.1,vb (a8 y1).1.2.2.2.1.1,vs (a8 y1).1.2.2.2.1.2,sv p1 (a8 y1).1.2.2.2.2 c1,vb (a9 y1).1.1,vs (a9 y1).1.2,vi (wE y1).1.1,vi (wE y1).1.2,vi (qG y1).1.1,vi (qG y1).1.2.1,vi (qG y1).1.2.2.1,vi (qG y1).1.2.2.2,vi ((fv (qQ y1)).1),vs ((fv (qQ y1)).2.1),sv p2 ((fv (qQ y1)).2.2) c2],r_1] [Al qU 23 r_1 p1 c1 (a8 y1).1.2.2.2.2,Rl qD p2 c2 ((fv (qQ y1)).2.2),vW 2,vW 3,Tb prog "internal/strconv.uint64pow10" .u64 Lib.pow10Tab] (zB1 y1) fun r K=>∀ p3 c3 r_2,K (.tuple #[]) [bx b1 159 [pt b2 0],bx b2 161 [vs r.1,vb r.2.1,vb r.2.2.1,vi r.2.2.2.1,vi (a4 y1).1,vi (a5 y1).1,vi (a6 y1).1,vs (a7 y1).1,vi (a4 r).1,vi (a8 y1).1.2.1,vi (a5 r).1,vb (a6 r).1,vs (a7 r).1,sv p3 (a8 r) c3,vb (a9 y1).1.1,vs (a9 y1).1.2,vi (wE y1).1.1,vi (wE y1).1.2,vi (qG y1).1.1,vi (qG y1).1.2.1,vi (qG y1).1.2.2.1,vi (qG y1).1.2.2.2,vi ((fv (qQ y1)).1),vs ((fv (qQ y1)).2.1),sv p2 ((fv (qQ y1)).2.2) c2],r_2] [Al qU 23 r_2 p3 c3 (a8 r)] :=
 zS call132 func132 u fun X=>
 au
abbrev zJ3:=@Cn.mk 132 0 _ @zFy
theorem zFo{y1:vJ}: zN False prog 133 [pt b1 0] [bx b1 159 [pt b2 0],bx b2 161 [vs y1.1,vb y1.2.1,vb y1.2.2.1,vi y1.2.2.2.1,vi (a4 y1).1,vi (a5 y1).1,vi (a6 y1).1,vs (a7 y1).1,vi (a8 y1).1.1,vi (a8 y1).1.2.1,vi (a8 y1).1.2.2.1,vb (a8 y1).1.2.2.2.1.1,vs (a8 y1).1.2.2.2.1.2,sv p1 (a8 y1).1.2.2.2.2 c1,vb (a9 y1).1.1,vs (a9 y1).1.2,vi (wE y1).1.1,vi (wE y1).1.2,vi (qG y1).1.1,vi (qG y1).1.2.1,vi (qG y1).1.2.2.1,vi (qG y1).1.2.2.2,vi ((fv (qQ y1)).1),vs ((fv (qQ y1)).2.1),sv p2 ((fv (qQ y1)).2.2) c2],r_1] [Al qU 23 r_1 p1 c1 (a8 y1).1.2.2.2.2,Rl qD p2 c2 ((fv (qQ y1)).2.2),vW 2,vW 3,Tb prog "internal/strconv.uint64pow10" .u64 Lib.pow10Tab] (zB5 y1) fun r K=>∀ p3 c3 r_2,K (.tuple #[]) [bx b1 159 [pt b2 0],bx b2 161 [vs r.1,vb r.2.1,vb r.2.2.1,vi r.2.2.2.1,vi (a4 y1).1,vi (a5 y1).1,vi (a6 y1).1,vs (a7 y1).1,vi (a4 r).1,vi (a8 y1).1.2.1,vi (a5 r).1,vb (a6 r).1,vs (a7 r).1,sv p3 (a8 r) c3,vb (a9 y1).1.1,vs (a9 y1).1.2,vi (wE y1).1.1,vi (wE y1).1.2,vi (qG y1).1.1,vi (qG y1).1.2.1,vi (qG y1).1.2.2.1,vi (qG y1).1.2.2.2,vi ((fv (qQ y1)).1),vs ((fv (qQ y1)).2.1),sv p2 ((fv (qQ y1)).2.2) c2],r_2] [Al qU 23 r_2 p3 c3 (a8 r)] :=
 zS call133 func133 u fun X=>
 au
abbrev zJV:=@Cn.mk 133 0 _ @zFo
theorem zFx{y1:vJ}: zN False prog 134 [pt b1 0] [bx b1 159 [pt b2 0],bx b2 161 (zAZ y1 p1 c1 p2 c2)] (zAY y1 p1 c1 p2 c2 [vW 2,vW 3,Tb prog "internal/strconv.uint64pow10" .u64 Lib.pow10Tab]) (zB7 y1) fun r K=>K (.tuple #[]) [bx b1 159 [pt b2 0],bx b2 161 [vs r.1,vb r.2.1,vb r.2.2.1,vi r.2.2.2.1,vi (a4 y1).1,vi (a5 y1).1,vi (a6 y1).1,vs (a7 y1).1,vi (a8 y1).1.1,vi (a8 y1).1.2.1,vi (a8 y1).1.2.2.1,vb (a8 y1).1.2.2.2.1.1,vs (a8 y1).1.2.2.2.1.2,sv p1 (a8 y1).1.2.2.2.2 c1,vb (a4 r).1,vs (a5 r).1,vi (a6 r).1,vi (a7 r),vi (qG y1).1.1,vi (qG y1).1.2.1,vi (qG y1).1.2.2.1,vi (qG y1).1.2.2.2,vi ((fv (qQ y1)).1),vs ((fv (qQ y1)).2.1),sv p2 ((fv (qQ y1)).2.2) c2]] [] :=
 zS call134 func134 u fun X=>jds [] [0] 12<|wO 0 0 u u u u<|wO 1 0 u u u u<|wO 2 0 u u u u<|zT 3<|qA (.f u) [1] [] zDk u u u (cq [0,1])<|fun r1 _ k=>k<|zM<|zQ 7 [4] u<|qK 5 3 u u<|
  qK 6 0 u u<|zT 7<|zV (o:=3) (.f u) 1 u u u<|zM<|zQ 3 [8] u<|qK 9 3 u u<|qK 10 11 u u<|zT 11<|zV (o:=14) (.f u) 1 u u u<|zM<|qI<|wS<|uG [] [0] 10<|wO 0 0 u u u u<|
  wO 1 0 u u u u<|wO 3 0 u u u u<|zT 2<|qA (.f u) [1] [] zAG u u u (cq [0,1,2,3,4])<|fun r2 _ k=>k<|zM<|zT 4<|qA (.f u) [1] [] zAG u u u (cq [0,1,2,3,4])<|
  fun r3 _ k=>k<|zM<|xN (v:=.agg #[vi r2.1,vi r3.1]) 5 u (fun h=>zUv h (by kernel_rfl))<|zQ 3 [6] u<|qK 7 3 u u<|qK 8 13 u u<|zT 9<|zV (o:=16) (.f u) 1 u u u<|zM<|qI<|jrn<|
  tQ u lN kk [0,1] d
abbrev zJZ:=@Cn.mk 134 0 _ @zFx
set_option maxHeartbeats 2000000 in
theorem zKV{y0:zA}: zN False prog 35 [vs y0] [] [vW 2,vW 3,Tb prog "internal/strconv.uint64pow10" .u64 Lib.pow10Tab] (yM y0) fun r K=>∀ p1 c1 p2 c2,K (.tuple #[.agg (zAg r.1 p1 c1 p2 c2).toArray,vb r.2]) [] (xV r.1 p1 c1 p2 c2 []) :=
 zS call35 func35 u fun X=>zG<|qN .s (.agg k0)<|fun b1=>zB 1 u<|zI<|zG<|zB 1 u<|
  zL (.agg #[vs y0,vb false,vb false,vi 0,vi 0,vi 0,vi 0,vs [],vi 0,vi 0,vi 0,vb false,vs [],.slice none 0 0,vb false,vs [],vi 0,vi 0,vi 0,vi 0,vi 0,vi 0,vi 0,vs [],.slice none 0 0])<|yO qU 23<|yB .s u<|
  fun b2=>zB 1 u<|zI<|zG<|zB 1 u<|qA .s [2,1] [] zFi u u u ⟨ck 0,cn,d⟩<|fun r1 _ k b3 b4 r_1=>k<|zB 1 u<|qA .s [2] [1] zF8 u u u ⟨cl 1 1,cn,d⟩<|fun r2 _ k=>k<|
  jmL 4 0 Tryz.key163 u u u u<|mgi (fun hb1=>zB 5 u<|zI<|zY<|jA 2 u<|jcf u<|jC<|zG<|zB 2 u<|qA .s [2] [1] zAG u u u ⟨cl 1 1,cn,ck 2,ck 3,ck 4,d⟩<|fun r3 _ k=>k<|zB 1 u<|zO 3 u<|zO 1 u<|
  zV .s 2 u u u<|zI<|zG<|zB 1 u<|qA .s [3,2] [1] zFf u u u ⟨cl 1 1,cn,d⟩<|fun r4 _ k=>k<|zI<|
  qX (fun s1 K=>∀ p1 c1 r_2 p2 c2,K [2] [(0,bx b1 34 [vi r4.2.2.2.1,vi r3.1,vi 0,vi 0,vs (a4 r4),vi 0,vi 0,vi 0,vb false,vs [],sv p1 s1.2.1 c1,vb false,vs [],vi 0,vi 0,vi 0,vi 0,vi 0,vi 0,vi 0,vs [],sv p2 s1.2.2 c2]),(1,r_2),(2,[]),(3,[]),(4,[])] [2,3,4] [(3,vb s1.1)] [Al qU 23 r_2 p1 c1 s1.2.1,Rl qD p2 c2 s1.2.2]) (
  uG [] [2] 17<|zQ 15 [0,1] u<|qK 2 3 u u<|yZ 3 2 22 u u u u<|zQ 11 [4,5] u<|qK 6 2 u u<|wO 7 2 u u u u<|zQ 7 [8,9] u<|wM 38 u (zQ 5 [10,11] u<|qK 12 1 u u<|
  wO 13 2 u u u u<|qS 14 (vb r4.2.1) u<|zT 15<|zV (o:=0) (.f u) 0 u u u<|zM<|zQ 0 [16] u<|qI<|qB (gv (fun _ k=>k none 0 [] none 0) [0,1,902,903,904] ⟨gk 1,gn,gk 2,gk 3,gk 4,d⟩))<|zQ 3 [10,11,12,13] u<|
  qS 14 (vb false) u<|zT 15<|zV (o:=0) (.f u) 0 u u u<|zM<|zQ 0 [16] u<|qI<|qB (gv (fun _ k=>k none 0 [] none 0) [0,1,902,903,904] ⟨gk 1,gn,gk 2,gk 3,gk 4,d⟩))<|fun s1 _ k p1 c1 r_2 p2 c2=>k<|wC<|wW 1 0 u u<|
  tQ u (lC 0 (.agg #[vi r4.2.2.2.1,vi r3.1,vi 0,vi 0,vs (a4 r4),vi 0,vi 0,vi 0,vb false,vs [],sv p1 s1.2.1 c1,vb false,vs [],vi 0,vi 0,vi 0,vi 0,vi 0,vi 0,vi 0,vs [],sv p2 s1.2.2 c2]) u u (lT u lN)) (fun _ k=>k p1 c1 p2 c2) [] (gq [0,2])
  )<|fun _=>mgi (fun hb3=>zB 5 u<|zI<|zY<|jA 2 u<|jcf u<|jC<|zG<|zB 2 u<|qA .s [2] [1] zAG u u u ⟨cl 1 1,cn,ck 2,ck 3,ck 4,d⟩<|fun r5 _ k=>k<|zB 1 u<|zO 3 u<|zO 1 u<|zV .s 2 u u u<|zI<|
  zG<|zB 1 u<|qA .s [3,2] [1] zFh u u u ⟨cl 1 1,cn,d⟩<|fun r6 _ k=>k<|zI<|
  qX (fun s2 K=>∀ p3 c3 r_3 p4 c4,K [2] [(0,bx b1 34 [vi r6.2.2.2.1,vi r5.1,vi 0,vi 0,vs (a4 r6),vi 0,vi 0,vi 0,vb false,vs [],sv p3 s2.2.1 c3,vb false,vs [],vi 0,vi 0,vi 0,vi 0,vi 0,vi 0,vi 0,vs [],sv p4 s2.2.2 c4]),(1,r_3),(2,[]),(3,[]),(4,[])] [2,3,4] [(3,vb s2.1)] [Al qU 23 r_3 p3 c3 s2.2.1,Rl qD p4 c4 s2.2.2]) (
  uG [] [2] 17<|zQ 15 [0,1] u<|qK 2 3 u u<|yZ 3 2 22 u u u u<|zQ 11 [4,5] u<|qK 6 2 u u<|wO 7 2 u u u u<|zQ 7 [8,9] u<|wM 38 u (zQ 5 [10,11] u<|qK 12 1 u u<|
  wO 13 2 u u u u<|qS 14 (vb r6.2.1) u<|zT 15<|zV (o:=0) (.f u) 0 u u u<|zM<|zQ 0 [16] u<|qI<|qB (gv (fun _ k=>k none 0 [] none 0) [0,1,902,903,904] ⟨gk 1,gn,gk 2,gk 3,gk 4,d⟩))<|zQ 3 [10,11,12,13] u<|
  qS 14 (vb false) u<|zT 15<|zV (o:=0) (.f u) 0 u u u<|zM<|zQ 0 [16] u<|qI<|qB (gv (fun _ k=>k none 0 [] none 0) [0,1,902,903,904] ⟨gk 1,gn,gk 2,gk 3,gk 4,d⟩))<|fun s2 _ k p3 c3 r_3 p4 c4=>k<|wC<|wW 1 0 u u<|
  tQ u (lC 0 (.agg #[vi r6.2.2.2.1,vi r5.1,vi 0,vi 0,vs (a4 r6),vi 0,vi 0,vi 0,vb false,vs [],sv p3 s2.2.1 c3,vb false,vs [],vi 0,vi 0,vi 0,vi 0,vi 0,vi 0,vi 0,vs [],sv p4 s2.2.2 c4]) u u (lT u lN)) (fun _ k=>k p3 c3 p4 c4) [] (gq [0,2])
  )<|fun _=>mgi (fun hb5=>zB 5 u<|zI<|zY<|jA 2 u<|jcf u<|jC<|zG<|zB 2 u<|qA .s [2] [1] zAG u u u ⟨cl 1 1,cn,ck 2,ck 3,ck 4,d⟩<|fun r7 _ k=>k<|zB 1 u<|zO 3 u<|zO 1 u<|zV .s 2 u u u<|zI<|
  zG<|zB 1 u<|qA .s [3,2] [1] zFs u u u ⟨cl 1 1,cn,d⟩<|fun r8 _ k=>k<|zI<|
  qX (fun s3 K=>∀ p5 c5 r_4 p6 c6,K [2] [(0,bx b1 34 [vi r8,vi r7.1,vi 0,vi 0,vs [],vi 0,vi 0,vi 0,vb false,vs [],sv p5 s3.2.1 c5,vb false,vs [],vi 0,vi 0,vi 0,vi 0,vi 0,vi 0,vi 0,vs [],sv p6 s3.2.2 c6]),(1,r_4),(2,[]),(3,[]),(4,[])] [2,3,4] [(3,vb s3.1)] [Al qU 23 r_4 p5 c5 s3.2.1,Rl qD p6 c6 s3.2.2]) (
  uG [] [2] 17<|zQ 15 [0,1] u<|qK 2 3 u u<|yZ 3 2 22 u u u u<|zQ 11 [4,5] u<|qK 6 2 u u<|wO 7 2 u u u u<|zQ 7 [8,9] u<|wM 38 u (zQ 5 [10,11] u<|qK 12 1 u u<|
  wO 13 2 u u u u<|qS 14 (vb r7.2.2.1) u<|zT 15<|zV (o:=0) (.f u) 0 u u u<|zM<|zQ 0 [16] u<|qI<|qB (gv (fun _ k=>k none 0 [] none 0) [0,1,902,903,904] ⟨gk 1,gn,gk 2,gk 3,gk 4,d⟩))<|zQ 3 [10,11,12,13] u<|
  qS 14 (vb false) u<|zT 15<|zV (o:=0) (.f u) 0 u u u<|zM<|zQ 0 [16] u<|qI<|qB (gv (fun _ k=>k none 0 [] none 0) [0,1,902,903,904] ⟨gk 1,gn,gk 2,gk 3,gk 4,d⟩))<|fun s3 _ k p5 c5 r_4 p6 c6=>k<|wC<|wW 1 0 u u<|
  tQ u (lC 0 (.agg #[vi r8,vi r7.1,vi 0,vi 0,vs [],vi 0,vi 0,vi 0,vb false,vs [],sv p5 s3.2.1 c5,vb false,vs [],vi 0,vi 0,vi 0,vi 0,vi 0,vi 0,vi 0,vs [],sv p6 s3.2.2 c6]) u u (lT u lN)) (fun _ k=>k p5 c5 p6 c6) [] (gq [0,2])
  )<|fun _=>mgi (fun hb7=>zB 5 u<|zI<|zY<|jA 2 u<|jcf u<|jC<|zG<|zB 2 u<|qA .s [2] [1] zAG u u u ⟨cl 1 1,cn,ck 2,ck 3,ck 4,d⟩<|fun r9 _ k=>k<|zB 1 u<|zO 3 u<|zO 1 u<|zV .s 2 u u u<|zI<|
  zG<|zB 1 u<|qA .s [3,2,1] [] zFl u u u ⟨ck 1,cn,ck 2,ck 3,ck 4,d⟩<|fun r10 _ k p7 c7 r_5=>k<|zI<|
  qX (fun s4 K=>∀ p8 c8 r_6 p9 c9,K [2] [(0,bx b1 34 [vi r10.2.2.2.1,vi r9.1,vi 0,vi 0,vs [],vi (a4 r10).1,vi 0,vi (a5 r10).1,vb (a6 r10).1,vs (a7 r10).1,sv p8 s4.2.1 c8,vb false,vs [],vi 0,vi 0,vi 0,vi 0,vi 0,vi 0,vi 0,vs [],sv p9 s4.2.2 c9]),(1,r_6),(2,[]),(3,[]),(4,[])] [3,4,5] [(3,vb s4.1)] [Al qU 23 r_6 p8 c8 s4.2.1,Rl qD p9 c9 s4.2.2]) (
  uG [] [2] 17<|zQ 15 [0,1] u<|qK 2 3 u u<|yZ 3 2 22 u u u u<|zQ 11 [4,5] u<|qK 6 2 u u<|wO 7 2 u u u u<|zQ 7 [8,9] u<|wM 38 u (zQ 5 [10,11] u<|qK 12 1 u u<|
  wO 13 2 u u u u<|qS 14 (vb r10.2.1) u<|zT 15<|zV (o:=0) (.f u) 0 u u u<|zM<|zQ 0 [16] u<|qI<|qB (gv (fun _ k=>k p7 c7 r_5 none 0) [0,1,902,903,904] ⟨gk 0,gn,gk 3,gk 4,gk 5,d⟩))<|zQ 3 [10,11,12,13] u<|
  qS 14 (vb false) u<|zT 15<|zV (o:=0) (.f u) 0 u u u<|zM<|zQ 0 [16] u<|qI<|qB (gv (fun _ k=>k p7 c7 r_5 none 0) [0,1,902,903,904] ⟨gk 0,gn,gk 3,gk 4,gk 5,d⟩))<|fun s4 _ k p8 c8 r_6 p9 c9=>k<|wC<|wW 1 0 u u<|
  tQ u (lC 0 (.agg #[vi r10.2.2.2.1,vi r9.1,vi 0,vi 0,vs [],vi (a4 r10).1,vi 0,vi (a5 r10).1,vb (a6 r10).1,vs (a7 r10).1,sv p8 s4.2.1 c8,vb false,vs [],vi 0,vi 0,vi 0,vi 0,vi 0,vi 0,vi 0,vs [],sv p9 s4.2.2 c9]) u u (lT u lN)) (fun _ k=>k p8 c8 p9 c9) [] (gq [0,2])
  )<|fun _=>mgi (fun hb9=>zB 5 u<|zI<|zY<|jA 2 u<|jcf u<|jC<|zG<|zB 2 u<|qA .s [2] [1] zAG u u u ⟨cl 1 1,cn,ck 2,ck 3,ck 4,d⟩<|fun r11 _ k=>k<|zB 1 u<|zO 3 u<|zO 1 u<|zV .s 2 u u u<|
  zI<|zG<|zB 1 u<|qA .s [3,2,1] [] zEo u u u ⟨ck 1,cn,ck 2,ck 3,ck 4,d⟩<|fun r12 _ k p10 c10 r_7=>k<|zI<|
  qX (fun s5 K=>∀ p11 c11 r_8 p12 c12,K [2] [(0,bx b1 34 [vi r12.2.2.2.1,vi r11.1,vi 0,vi 0,vs [],vi (a4 r12).1,vi 0,vi (a5 r12).1,vb (a6 r12).1,vs (a7 r12).1,sv p11 s5.2.1 c11,vb false,vs [],vi 0,vi 0,vi 0,vi 0,vi 0,vi 0,vi 0,vs [],sv p12 s5.2.2 c12]),(1,r_8),(2,[]),(3,[]),(4,[])] [3,4,5] [(3,vb s5.1)] [Al qU 23 r_8 p11 c11 s5.2.1,Rl qD p12 c12 s5.2.2]) (
  uG [] [2] 17<|zQ 15 [0,1] u<|qK 2 3 u u<|yZ 3 2 22 u u u u<|zQ 11 [4,5] u<|qK 6 2 u u<|wO 7 2 u u u u<|zQ 7 [8,9] u<|wM 38 u (zQ 5 [10,11] u<|qK 12 1 u u<|
  wO 13 2 u u u u<|qS 14 (vb r12.2.1) u<|zT 15<|zV (o:=0) (.f u) 0 u u u<|zM<|zQ 0 [16] u<|qI<|qB (gv (fun _ k=>k p10 c10 r_7 none 0) [0,1,902,903,904] ⟨gk 0,gn,gk 3,gk 4,gk 5,d⟩))<|zQ 3 [10,11,12,13] u<|
  qS 14 (vb false) u<|zT 15<|zV (o:=0) (.f u) 0 u u u<|zM<|zQ 0 [16] u<|qI<|qB (gv (fun _ k=>k p10 c10 r_7 none 0) [0,1,902,903,904] ⟨gk 0,gn,gk 3,gk 4,gk 5,d⟩))<|fun s5 _ k p11 c11 r_8 p12 c12=>k<|wC<|wW 1 0 u u<|
  tQ u (lC 0 (.agg #[vi r12.2.2.2.1,vi r11.1,vi 0,vi 0,vs [],vi (a4 r12).1,vi 0,vi (a5 r12).1,vb (a6 r12).1,vs (a7 r12).1,sv p11 s5.2.1 c11,vb false,vs [],vi 0,vi 0,vi 0,vi 0,vi 0,vi 0,vi 0,vs [],sv p12 s5.2.2 c12]) u u (lT u lN)) (fun _ k=>k p11 c11 p12 c12) [] (gq [0,2])
  )<|fun _=>mgi (fun hb11=>zB 5 u<|zI<|zY<|jA 2 u<|jcf u<|jC<|zG<|zB 2 u<|qA .s [2] [1] zAG u u u ⟨cl 1 1,cn,ck 2,ck 3,ck 4,d⟩<|fun r13 _ k=>k<|zB 1 u<|zO 3 u<|zO 1 u<|zV .s 2 u u u<|
  zI<|zG<|zB 1 u<|qA .s [3,2,1] [] zFj u u u ⟨ck 1,cn,ck 2,ck 3,ck 4,d⟩<|fun r14 _ k p13 c13 r_9=>k<|zI<|
  qX (fun s6 K=>∀ p14 c14 r_10 p15 c15,K [2] [(0,bx b1 34 [vi r14.2.2.2.1,vi r13.1,vi 0,vi 0,vs [],vi (a4 r14).1,vi 0,vi (a5 r14).1,vb (a6 r14).1,vs (a7 r14).1,sv p14 s6.2.1 c14,vb false,vs [],vi 0,vi 0,vi 0,vi 0,vi 0,vi 0,vi 0,vs [],sv p15 s6.2.2 c15]),(1,r_10),(2,[]),(3,[]),(4,[])] [3,4,5] [(3,vb s6.1)] [Al qU 23 r_10 p14 c14 s6.2.1,Rl qD p15 c15 s6.2.2]) (
  uG [] [2] 17<|zQ 15 [0,1] u<|qK 2 3 u u<|yZ 3 2 22 u u u u<|zQ 11 [4,5] u<|qK 6 2 u u<|wO 7 2 u u u u<|zQ 7 [8,9] u<|wM 38 u (zQ 5 [10,11] u<|qK 12 1 u u<|
  wO 13 2 u u u u<|qS 14 (vb r14.2.1) u<|zT 15<|zV (o:=0) (.f u) 0 u u u<|zM<|zQ 0 [16] u<|qI<|qB (gv (fun _ k=>k p13 c13 r_9 none 0) [0,1,902,903,904] ⟨gk 0,gn,gk 3,gk 4,gk 5,d⟩))<|zQ 3 [10,11,12,13] u<|
  qS 14 (vb false) u<|zT 15<|zV (o:=0) (.f u) 0 u u u<|zM<|zQ 0 [16] u<|qI<|qB (gv (fun _ k=>k p13 c13 r_9 none 0) [0,1,902,903,904] ⟨gk 0,gn,gk 3,gk 4,gk 5,d⟩))<|fun s6 _ k p14 c14 r_10 p15 c15=>k<|wC<|
  wW 1 0 u u<|
  tQ u (lC 0 (.agg #[vi r14.2.2.2.1,vi r13.1,vi 0,vi 0,vs [],vi (a4 r14).1,vi 0,vi (a5 r14).1,vb (a6 r14).1,vs (a7 r14).1,sv p14 s6.2.1 c14,vb false,vs [],vi 0,vi 0,vi 0,vi 0,vi 0,vi 0,vi 0,vs [],sv p15 s6.2.2 c15]) u u (lT u lN)) (fun _ k=>k p14 c14 p15 c15) [] (gq [0,2])
  )<|fun _=>mgi (fun hb13=>zB 5 u<|zI<|zY<|jA 2 u<|jcf u<|jC<|zG<|zB 2 u<|qA .s [2] [1] zAG u u u ⟨cl 1 1,cn,ck 2,ck 3,ck 4,d⟩<|fun r15 _ k=>k<|zB 1 u<|zO 3 u<|zO 1 u<|zV .s 2 u u u<|
  zI<|zG<|zB 1 u<|qA .s [3,2,1] [] zFy rfl u u ⟨ck 1,cn,ck 2,ck 3,ck 4,d⟩<|fun r16 _ k p16 c16 r_11=>k<|zI<|
  qX (fun s7 K=>∀ p17 c17 r_12 p18 c18,K [2] [(0,bx b1 34 [vi r16.2.2.2.1,vi r15.1,vi 0,vi 0,vs [],vi (a4 r16).1,vi 0,vi (a5 r16).1,vb (a6 r16).1,vs (a7 r16).1,sv p17 s7.2.1 c17,vb false,vs [],vi 0,vi 0,vi 0,vi 0,vi 0,vi 0,vi 0,vs [],sv p18 s7.2.2 c18]),(1,r_12),(2,[]),(3,[]),(4,[])] [3,4,5] [(3,vb s7.1)] [Al qU 23 r_12 p17 c17 s7.2.1,Rl qD p18 c18 s7.2.2]) (
  uG [] [2] 17<|zQ 15 [0,1] u<|qK 2 3 u u<|yZ 3 2 22 u u u u<|zQ 11 [4,5] u<|qK 6 2 u u<|wO 7 2 u u u u<|zQ 7 [8,9] u<|wM 38 u (zQ 5 [10,11] u<|qK 12 1 u u<|
  wO 13 2 u u u u<|qS 14 (vb r16.2.1) u<|zT 15<|zV (o:=0) (.f u) 0 u u u<|zM<|zQ 0 [16] u<|qI<|qB (gv (fun _ k=>k p16 c16 r_11 none 0) [0,1,902,903,904] ⟨gk 0,gn,gk 3,gk 4,gk 5,d⟩))<|zQ 3 [10,11,12,13] u<|
  qS 14 (vb false) u<|zT 15<|zV (o:=0) (.f u) 0 u u u<|zM<|zQ 0 [16] u<|qI<|qB (gv (fun _ k=>k p16 c16 r_11 none 0) [0,1,902,903,904] ⟨gk 0,gn,gk 3,gk 4,gk 5,d⟩))<|fun s7 _ k p17 c17 r_12 p18 c18=>k<|wC<|
  wW 1 0 u u<|
  tQ u (lC 0 (.agg #[vi r16.2.2.2.1,vi r15.1,vi 0,vi 0,vs [],vi (a4 r16).1,vi 0,vi (a5 r16).1,vb (a6 r16).1,vs (a7 r16).1,sv p17 s7.2.1 c17,vb false,vs [],vi 0,vi 0,vi 0,vi 0,vi 0,vi 0,vi 0,vs [],sv p18 s7.2.2 c18]) u u (lT u lN)) (fun _ k=>k p17 c17 p18 c18) [] (gq [0,2])
  )<|fun _=>mgi (fun hb15=>zB 5 u<|zI<|zY<|jA 2 u<|jcf u<|jC<|zG<|zB 2 u<|qA .s [2] [1] zAG u u u ⟨cl 1 1,cn,ck 2,ck 3,ck 4,d⟩<|fun r17 _ k=>k<|zB 1 u<|zO 3 u<|zO 1 u<|zV .s 2 u u u<|
  zI<|zG<|zB 1 u<|qA .s [3,2,1] [] zFo u u u ⟨ck 1,cn,ck 2,ck 3,ck 4,d⟩<|fun r18 _ k p19 c19 r_13=>k<|zI<|
  qX (fun s8 K=>∀ p20 c20 r_14 p21 c21,K [2] [(0,bx b1 34 [vi r18.2.2.2.1,vi r17.1,vi 0,vi 0,vs [],vi (a4 r18).1,vi 0,vi (a5 r18).1,vb (a6 r18).1,vs (a7 r18).1,sv p20 s8.2.1 c20,vb false,vs [],vi 0,vi 0,vi 0,vi 0,vi 0,vi 0,vi 0,vs [],sv p21 s8.2.2 c21]),(1,r_14),(2,[]),(3,[]),(4,[])] [3,4,5] [(3,vb s8.1)] [Al qU 23 r_14 p20 c20 s8.2.1,Rl qD p21 c21 s8.2.2]) (
  uG [] [2] 17<|zQ 15 [0,1] u<|qK 2 3 u u<|yZ 3 2 22 u u u u<|zQ 11 [4,5] u<|qK 6 2 u u<|wO 7 2 u u u u<|zQ 7 [8,9] u<|wM 38 u (zQ 5 [10,11] u<|qK 12 1 u u<|
  wO 13 2 u u u u<|qS 14 (vb r18.2.1) u<|zT 15<|zV (o:=0) (.f u) 0 u u u<|zM<|zQ 0 [16] u<|qI<|qB (gv (fun _ k=>k p19 c19 r_13 none 0) [0,1,902,903,904] ⟨gk 0,gn,gk 3,gk 4,gk 5,d⟩))<|zQ 3 [10,11,12,13] u<|
  qS 14 (vb false) u<|zT 15<|zV (o:=0) (.f u) 0 u u u<|zM<|zQ 0 [16] u<|qI<|qB (gv (fun _ k=>k p19 c19 r_13 none 0) [0,1,902,903,904] ⟨gk 0,gn,gk 3,gk 4,gk 5,d⟩))<|fun s8 _ k p20 c20 r_14 p21 c21=>k<|wC<|
  wW 1 0 u u<|
  tQ u (lC 0 (.agg #[vi r18.2.2.2.1,vi r17.1,vi 0,vi 0,vs [],vi (a4 r18).1,vi 0,vi (a5 r18).1,vb (a6 r18).1,vs (a7 r18).1,sv p20 s8.2.1 c20,vb false,vs [],vi 0,vi 0,vi 0,vi 0,vi 0,vi 0,vi 0,vs [],sv p21 s8.2.2 c21]) u u (lT u lN)) (fun _ k=>k p20 c20 p21 c21) [] (gq [0,2])
  )<|fun _=>mgi (fun hb17=>zB 5 u<|zI<|zY<|jA 2 u<|jcf u<|jC<|zG<|zB 2 u<|qA .s [2] [1] zAG u u u ⟨cl 1 1,cn,ck 2,ck 3,ck 4,d⟩<|fun r19 _ k=>k<|zB 1 u<|zO 3 u<|zO 1 u<|zV .s 2 u u u<|
  zI<|zG<|zB 1 u<|qA .s [3,2] [1] zFx u u u ⟨cl 1 1,cn,ck 2,ck 3,ck 4,d⟩<|fun r20 _ k=>k<|zI<|
  qX (fun s9 K=>∀ p22 c22 r_15 p23 c23,K [2] [(0,bx b1 34 [vi r20.2.2.2.1,vi r19.1,vi 0,vi 0,vs [],vi 0,vi 0,vi 0,vb false,vs [],sv p22 s9.2.1 c22,vb (a4 r20).1,vs (a5 r20).1,vi (a6 r20).1,vi (a7 r20),vi 0,vi 0,vi 0,vi 0,vi 0,vs [],sv p23 s9.2.2 c23]),(1,r_15),(2,[]),(3,[]),(4,[])] [2,3,4] [(3,vb s9.1)] [Al qU 23 r_15 p22 c22 s9.2.1,Rl qD p23 c23 s9.2.2]) (
  uG [] [2] 17<|zQ 15 [0,1] u<|qK 2 3 u u<|yZ 3 2 22 u u u u<|zQ 11 [4,5] u<|qK 6 2 u u<|wO 7 2 u u u u<|zQ 7 [8,9] u<|wM 38 u (zQ 5 [10,11] u<|qK 12 1 u u<|
  wO 13 2 u u u u<|qS 14 (vb r20.2.1) u<|zT 15<|zV (o:=0) (.f u) 0 u u u<|zM<|zQ 0 [16] u<|qI<|qB (gv (fun _ k=>k none 0 [] none 0) [0,1,902,903,904] ⟨gk 1,gn,gk 2,gk 3,gk 4,d⟩))<|zQ 3 [10,11,12,13] u<|
  qS 14 (vb false) u<|zT 15<|zV (o:=0) (.f u) 0 u u u<|zM<|zQ 0 [16] u<|qI<|qB (gv (fun _ k=>k none 0 [] none 0) [0,1,902,903,904] ⟨gk 1,gn,gk 2,gk 3,gk 4,d⟩))<|fun s9 _ k p22 c22 r_15 p23 c23=>k<|wC<|wW 1 0 u u<|
  tQ u (lC 0 (.agg #[vi r20.2.2.2.1,vi r19.1,vi 0,vi 0,vs [],vi 0,vi 0,vi 0,vb false,vs [],sv p22 s9.2.1 c22,vb (a4 r20).1,vs (a5 r20).1,vi (a6 r20).1,vi (a7 r20),vi 0,vi 0,vi 0,vi 0,vi 0,vs [],sv p23 s9.2.2 c23]) u u (lT u lN)) (fun _ k=>k p22 c22 p23 c23) [] (gq [0,2])
  )<|fun _=>mgi (fun hb19=>zB 5 u<|zI<|zY<|jA 2 u<|jcf u<|jC<|zG<|zB 2 u<|qA .s [2] [1] zAG u u u ⟨cl 1 1,cn,ck 2,ck 3,ck 4,d⟩<|fun r21 _ k=>k<|zB 1 u<|zO 3 u<|zO 1 u<|zV .s 2 u u u<|
  zI<|zG<|zB 1 u<|qA .s [3,2] [1] zF6 u u u ⟨cl 1 1,cn,ck 2,ck 3,ck 4,d⟩<|fun r22 _ k=>k<|zI<|
  qX (fun s10 K=>∀ p24 c24 r_16 p25 c25,K [2] [(0,bx b1 34 [vi r22.2.2.2.1,vi r21.1,vi (a4 r22).1,vi 0,vs [],vi 0,vi 0,vi 0,vb false,vs [],sv p24 s10.2.1 c24,vb false,vs [],vi 0,vi 0,vi (a5 r22).1,vi (a6 r22).1,vi (a7 r22).1,vi (a8 r22),vi 0,vs [],sv p25 s10.2.2 c25]),(1,r_16),(2,[]),(3,[]),(4,[])] [2,3,4] [(3,vb s10.1)] [Al qU 23 r_16 p24 c24 s10.2.1,Rl qD p25 c25 s10.2.2]) (
  uG [] [2] 17<|zQ 15 [0,1] u<|qK 2 3 u u<|yZ 3 2 22 u u u u<|zQ 11 [4,5] u<|qK 6 2 u u<|wO 7 2 u u u u<|zQ 7 [8,9] u<|wM 38 u (zQ 5 [10,11] u<|qK 12 1 u u<|
  wO 13 2 u u u u<|qS 14 (vb r22.2.1) u<|zT 15<|zV (o:=0) (.f u) 0 u u u<|zM<|zQ 0 [16] u<|qI<|qB (gv (fun _ k=>k none 0 [] none 0) [0,1,902,903,904] ⟨gk 1,gn,gk 2,gk 3,gk 4,d⟩))<|zQ 3 [10,11,12,13] u<|
  qS 14 (vb false) u<|zT 15<|zV (o:=0) (.f u) 0 u u u<|zM<|zQ 0 [16] u<|qI<|qB (gv (fun _ k=>k none 0 [] none 0) [0,1,902,903,904] ⟨gk 1,gn,gk 2,gk 3,gk 4,d⟩))<|fun s10 _ k p24 c24 r_16 p25 c25=>k<|wC<|wW 1 0 u u<|
  tQ u (lC 0 (.agg #[vi r22.2.2.2.1,vi r21.1,vi (a4 r22).1,vi 0,vs [],vi 0,vi 0,vi 0,vb false,vs [],sv p24 s10.2.1 c24,vb false,vs [],vi 0,vi 0,vi (a5 r22).1,vi (a6 r22).1,vi (a7 r22).1,vi (a8 r22),vi 0,vs [],sv p25 s10.2.2 c25]) u u (lT u lN)) (fun _ k=>k p24 c24 p25 c25) [] (gq [0,2])
  )<|fun _=>mgi (fun hb21=>zB 5 u<|zI<|zY<|jA 2 u<|jcf u<|jC<|zG<|zB 2 u<|qA .s [2] [1] zAG u u u ⟨cl 1 1,cn,ck 2,ck 3,ck 4,d⟩<|fun r23 _ k=>k<|zB 1 u<|zO 3 u<|zO 1 u<|zV .s 2 u u u<|
  zI<|zG<|zB 1 u<|qA .s [3,2] [1] zF4 u u u ⟨cl 1 1,cn,ck 2,ck 3,ck 4,d⟩<|fun r24 _ k=>k<|zI<|
  qX (fun s11 K=>∀ p26 c26 r_17 p27 c27,K [2] [(0,bx b1 34 [vi r24.2.2.2.1,vi r23.1,vi (a4 r24).1,vi 0,vs [],vi 0,vi 0,vi 0,vb false,vs [],sv p26 s11.2.1 c26,vb false,vs [],vi 0,vi 0,vi (a5 r24).1,vi (a6 r24).1,vi (a7 r24).1,vi (a8 r24),vi 0,vs [],sv p27 s11.2.2 c27]),(1,r_17),(2,[]),(3,[]),(4,[])] [2,3,4] [(3,vb s11.1)] [Al qU 23 r_17 p26 c26 s11.2.1,Rl qD p27 c27 s11.2.2]) (
  uG [] [2] 17<|zQ 15 [0,1] u<|qK 2 3 u u<|yZ 3 2 22 u u u u<|zQ 11 [4,5] u<|qK 6 2 u u<|wO 7 2 u u u u<|zQ 7 [8,9] u<|wM 38 u (zQ 5 [10,11] u<|qK 12 1 u u<|
  wO 13 2 u u u u<|qS 14 (vb r24.2.1) u<|zT 15<|zV (o:=0) (.f u) 0 u u u<|zM<|zQ 0 [16] u<|qI<|qB (gv (fun _ k=>k none 0 [] none 0) [0,1,902,903,904] ⟨gk 1,gn,gk 2,gk 3,gk 4,d⟩))<|zQ 3 [10,11,12,13] u<|
  qS 14 (vb false) u<|zT 15<|zV (o:=0) (.f u) 0 u u u<|zM<|zQ 0 [16] u<|qI<|qB (gv (fun _ k=>k none 0 [] none 0) [0,1,902,903,904] ⟨gk 1,gn,gk 2,gk 3,gk 4,d⟩))<|fun s11 _ k p26 c26 r_17 p27 c27=>k<|wC<|wW 1 0 u u<|
  tQ u (lC 0 (.agg #[vi r24.2.2.2.1,vi r23.1,vi (a4 r24).1,vi 0,vs [],vi 0,vi 0,vi 0,vb false,vs [],sv p26 s11.2.1 c26,vb false,vs [],vi 0,vi 0,vi (a5 r24).1,vi (a6 r24).1,vi (a7 r24).1,vi (a8 r24),vi 0,vs [],sv p27 s11.2.2 c27]) u u (lT u lN)) (fun _ k=>k p26 c26 p27 c27) [] (gq [0,2])
  )<|fun _=>mgi (fun hb23=>zB 5 u<|zI<|zY<|jA 2 u<|jcf u<|jC<|zG<|zB 2 u<|qA .s [2] [1] zAG u u u ⟨cl 1 1,cn,ck 2,ck 3,ck 4,d⟩<|fun r25 _ k=>k<|zB 1 u<|zO 3 u<|zO 1 u<|zV .s 2 u u u<|
  zI<|zG<|zB 1 u<|qA .s [3,2] [1] zF7 u u u ⟨cl 1 1,cn,ck 2,ck 3,ck 4,d⟩<|fun r26 _ k=>k<|zI<|
  qX (fun s12 K=>∀ p28 c28 r_18 p29 c29,K [2] [(0,bx b1 34 [vi r26.2.2.2.1,vi r25.1,vi (a4 r26).1,vi 0,vs [],vi 0,vi 0,vi 0,vb false,vs [],sv p28 s12.2.1 c28,vb false,vs [],vi 0,vi 0,vi (a5 r26).1,vi (a6 r26).1,vi (a7 r26).1,vi (a8 r26),vi 0,vs [],sv p29 s12.2.2 c29]),(1,r_18),(2,[]),(3,[]),(4,[])] [2,3,4] [(3,vb s12.1)] [Al qU 23 r_18 p28 c28 s12.2.1,Rl qD p29 c29 s12.2.2]) (
  uG [] [2] 17<|zQ 15 [0,1] u<|qK 2 3 u u<|yZ 3 2 22 u u u u<|zQ 11 [4,5] u<|qK 6 2 u u<|wO 7 2 u u u u<|zQ 7 [8,9] u<|wM 38 u (zQ 5 [10,11] u<|qK 12 1 u u<|
  wO 13 2 u u u u<|qS 14 (vb r26.2.1) u<|zT 15<|zV (o:=0) (.f u) 0 u u u<|zM<|zQ 0 [16] u<|qI<|qB (gv (fun _ k=>k none 0 [] none 0) [0,1,902,903,904] ⟨gk 1,gn,gk 2,gk 3,gk 4,d⟩))<|zQ 3 [10,11,12,13] u<|
  qS 14 (vb false) u<|zT 15<|zV (o:=0) (.f u) 0 u u u<|zM<|zQ 0 [16] u<|qI<|qB (gv (fun _ k=>k none 0 [] none 0) [0,1,902,903,904] ⟨gk 1,gn,gk 2,gk 3,gk 4,d⟩))<|fun s12 _ k p28 c28 r_18 p29 c29=>k<|wC<|wW 1 0 u u<|
  tQ u (lC 0 (.agg #[vi r26.2.2.2.1,vi r25.1,vi (a4 r26).1,vi 0,vs [],vi 0,vi 0,vi 0,vb false,vs [],sv p28 s12.2.1 c28,vb false,vs [],vi 0,vi 0,vi (a5 r26).1,vi (a6 r26).1,vi (a7 r26).1,vi (a8 r26),vi 0,vs [],sv p29 s12.2.2 c29]) u u (lT u lN)) (fun _ k=>k p28 c28 p29 c29) [] (gq [0,2])
  )<|fun _=>mgi (fun hb25=>zB 5 u<|zI<|zY<|jA 2 u<|jcf u<|jC<|zG<|zB 2 u<|qA .s [2] [1] zAG u u u ⟨cl 1 1,cn,ck 2,ck 3,ck 4,d⟩<|fun r27 _ k=>k<|zB 1 u<|zO 3 u<|zO 1 u<|zV .s 2 u u u<|
  zI<|zG<|zB 1 u<|qA .s [3,2] [1] zF5 u u u ⟨cl 1 1,cn,ck 2,ck 3,ck 4,d⟩<|fun r28 _ k=>k<|zI<|
  qX (fun s13 K=>∀ p30 c30 r_19 p31 c31,K [2] [(0,bx b1 34 [vi r28.2.2.2.1,vi r27.1,vi 0,vi (a4 r28).1,vs [],vi 0,vi 0,vi 0,vb false,vs [],sv p30 s13.2.1 c30,vb (a5 r28).1,vs (a6 r28),vi 0,vi 0,vi 0,vi 0,vi 0,vi 0,vi 0,vs [],sv p31 s13.2.2 c31]),(1,r_19),(2,[]),(3,[]),(4,[])] [2,3,4] [(3,vb s13.1)] [Al qU 23 r_19 p30 c30 s13.2.1,Rl qD p31 c31 s13.2.2]) (
  uG [] [2] 17<|zQ 15 [0,1] u<|qK 2 3 u u<|yZ 3 2 22 u u u u<|zQ 11 [4,5] u<|qK 6 2 u u<|wO 7 2 u u u u<|zQ 7 [8,9] u<|wM 38 u (zQ 5 [10,11] u<|qK 12 1 u u<|
  wO 13 2 u u u u<|qS 14 (vb r28.2.1) u<|zT 15<|zV (o:=0) (.f u) 0 u u u<|zM<|zQ 0 [16] u<|qI<|qB (gv (fun _ k=>k none 0 [] none 0) [0,1,902,903,904] ⟨gk 1,gn,gk 2,gk 3,gk 4,d⟩))<|zQ 3 [10,11,12,13] u<|
  qS 14 (vb false) u<|zT 15<|zV (o:=0) (.f u) 0 u u u<|zM<|zQ 0 [16] u<|qI<|qB (gv (fun _ k=>k none 0 [] none 0) [0,1,902,903,904] ⟨gk 1,gn,gk 2,gk 3,gk 4,d⟩))<|fun s13 _ k p30 c30 r_19 p31 c31=>k<|wC<|wW 1 0 u u<|
  tQ u (lC 0 (.agg #[vi r28.2.2.2.1,vi r27.1,vi 0,vi (a4 r28).1,vs [],vi 0,vi 0,vi 0,vb false,vs [],sv p30 s13.2.1 c30,vb (a5 r28).1,vs (a6 r28),vi 0,vi 0,vi 0,vi 0,vi 0,vi 0,vi 0,vs [],sv p31 s13.2.2 c31]) u u (lT u lN)) (fun _ k=>k p30 c30 p31 c31) [] (gq [0,2])
  )<|fun _=>mgi (fun hb27=>zB 5 u<|zI<|zY<|jA 2 u<|jcf u<|jC<|zG<|zB 2 u<|qA .s [2] [1] zAG u u u ⟨cl 1 1,cn,ck 2,ck 3,ck 4,d⟩<|fun r29 _ k=>k<|zB 1 u<|zO 3 u<|zO 1 u<|zV .s 2 u u u<|
  zI<|zG<|zB 1 u<|wW 1 1 u u<|qA .s [3,2] [] zF1 u u u ⟨ck 0,cn,ck 3,ck 4,ck 5,d⟩<|fun r30 _ k p32 c32=>k<|zI<|
  qX (fun s14 K=>∀ p33 c33 p34 c34,K [2] [(0,bx b1 34 [vi r30.2.2.2.1,vi r29.1,vi 0,vi (a4 r30).1,vs [],vi 0,vi 0,vi 0,vb false,vs [],sv p33 s14.2.1 c33,vb false,vs [],vi 0,vi 0,vi 0,vi 0,vi 0,vi 0,vi (a5 r30).1,vs (a6 r30).1,sv p34 s14.2.2 c34]),(2,[]),(3,[]),(4,[])] [4,5,6] [(3,vb s14.1)] [Rl qU p33 c33 s14.2.1,Rl qD p34 c34 s14.2.2]) (
  uG [] [2] 17<|zQ 15 [0,1] u<|qK 2 3 u u<|yZ 3 2 22 u u u u<|zQ 11 [4,5] u<|qK 6 2 u u<|wO 7 2 u u u u<|zQ 7 [8,9] u<|wM 38 u (zQ 5 [10,11] u<|qK 12 1 u u<|
  wO 13 2 u u u u<|qS 14 (vb r30.2.1) u<|zT 15<|zV (o:=0) (.f u) 0 u u u<|zM<|zQ 0 [16] u<|qI<|qB (gv (fun _ k=>k none 0 p32 c32) [0,901,902,903,904] (gq [1,0,4,5,6])))<|zQ 3 [10,11,12,13] u<|
  qS 14 (vb false) u<|zT 15<|zV (o:=0) (.f u) 0 u u u<|zM<|zQ 0 [16] u<|qI<|qB (gv (fun _ k=>k none 0 p32 c32) [0,901,902,903,904] (gq [1,0,4,5,6])))<|fun s14 _ k p33 c33 p34 c34=>k<|wC<|
  tQ u (lC 0 (.agg #[vi r30.2.2.2.1,vi r29.1,vi 0,vi (a4 r30).1,vs [],vi 0,vi 0,vi 0,vb false,vs [],sv p33 s14.2.1 c33,vb false,vs [],vi 0,vi 0,vi 0,vi 0,vi 0,vi 0,vi (a5 r30).1,vs (a6 r30).1,sv p34 s14.2.2 c34]) u u (lT u lN)) (fun _ k=>k p33 c33 p34 c34) [] (gq [0,1])
  )<|fun _=>mgi (fun hb29=>zB 5 u<|zI<|zY<|jA 2 u<|jcf u<|jC<|zG<|zB 2 u<|qA .s [2] [1] zAG u u u ⟨cl 1 1,cn,ck 2,ck 3,ck 4,d⟩<|fun r31 _ k=>k<|zB 1 u<|zO 3 u<|zO 1 u<|zV .s 2 u u u<|
  zI<|zG<|zB 1 u<|wW 1 1 u u<|qA .s [3,2] [] zF0 u u u ⟨ck 0,cn,ck 3,ck 4,ck 5,d⟩<|fun r32 _ k p35 c35=>k<|zI<|
  qX (fun s15 K=>∀ p36 c36 p37 c37,K [2] [(0,bx b1 34 [vi r32.2.2.2.1,vi r31.1,vi 0,vi (a4 r32).1,vs [],vi 0,vi 0,vi 0,vb false,vs [],sv p36 s15.2.1 c36,vb false,vs [],vi 0,vi 0,vi 0,vi 0,vi 0,vi 0,vi (a5 r32).1,vs (a6 r32).1,sv p37 s15.2.2 c37]),(2,[]),(3,[]),(4,[])] [4,5,6] [(3,vb s15.1)] [Rl qU p36 c36 s15.2.1,Rl qD p37 c37 s15.2.2]) (
  uG [] [2] 17<|zQ 15 [0,1] u<|qK 2 3 u u<|yZ 3 2 22 u u u u<|zQ 11 [4,5] u<|qK 6 2 u u<|wO 7 2 u u u u<|zQ 7 [8,9] u<|wM 38 u (zQ 5 [10,11] u<|qK 12 1 u u<|
  wO 13 2 u u u u<|qS 14 (vb r32.2.1) u<|zT 15<|zV (o:=0) (.f u) 0 u u u<|zM<|zQ 0 [16] u<|qI<|qB (gv (fun _ k=>k none 0 p35 c35) [0,901,902,903,904] (gq [1,0,4,5,6])))<|zQ 3 [10,11,12,13] u<|
  qS 14 (vb false) u<|zT 15<|zV (o:=0) (.f u) 0 u u u<|zM<|zQ 0 [16] u<|qI<|qB (gv (fun _ k=>k none 0 p35 c35) [0,901,902,903,904] (gq [1,0,4,5,6])))<|fun s15 _ k p36 c36 p37 c37=>k<|wC<|
  tQ u (lC 0 (.agg #[vi r32.2.2.2.1,vi r31.1,vi 0,vi (a4 r32).1,vs [],vi 0,vi 0,vi 0,vb false,vs [],sv p36 s15.2.1 c36,vb false,vs [],vi 0,vi 0,vi 0,vi 0,vi 0,vi 0,vi (a5 r32).1,vs (a6 r32).1,sv p37 s15.2.2 c37]) u u (lT u lN)) (fun _ k=>k p36 c36 p37 c37) [] (gq [0,1])
  )<|fun _=>mgi (fun hb31=>zB 5 u<|zI<|zY<|jA 2 u<|jcf u<|jC<|zG<|zB 2 u<|qA .s [2] [1] zAG u u u ⟨cl 1 1,cn,ck 2,ck 3,ck 4,d⟩<|fun r33 _ k=>k<|zB 1 u<|zO 3 u<|zO 1 u<|zV .s 2 u u u<|
  zI<|zG<|zB 1 u<|wW 1 1 u u<|qA .s [3,2] [] zF3 u u u ⟨ck 0,cn,ck 3,ck 4,ck 5,d⟩<|fun r34 _ k p38 c38=>k<|zI<|
  qX (fun s16 K=>∀ p39 c39 p40 c40,K [2] [(0,bx b1 34 [vi r34.2.2.2.1,vi r33.1,vi 0,vi (a4 r34).1,vs [],vi 0,vi 0,vi 0,vb false,vs [],sv p39 s16.2.1 c39,vb false,vs [],vi 0,vi 0,vi 0,vi 0,vi 0,vi 0,vi (a5 r34).1,vs (a6 r34).1,sv p40 s16.2.2 c40]),(2,[]),(3,[]),(4,[])] [4,5,6] [(3,vb s16.1)] [Rl qU p39 c39 s16.2.1,Rl qD p40 c40 s16.2.2]) (
  uG [] [2] 17<|zQ 15 [0,1] u<|qK 2 3 u u<|yZ 3 2 22 u u u u<|zQ 11 [4,5] u<|qK 6 2 u u<|wO 7 2 u u u u<|zQ 7 [8,9] u<|wM 38 u (zQ 5 [10,11] u<|qK 12 1 u u<|
  wO 13 2 u u u u<|qS 14 (vb r34.2.1) u<|zT 15<|zV (o:=0) (.f u) 0 u u u<|zM<|zQ 0 [16] u<|qI<|qB (gv (fun _ k=>k none 0 p38 c38) [0,901,902,903,904] (gq [1,0,4,5,6])))<|zQ 3 [10,11,12,13] u<|
  qS 14 (vb false) u<|zT 15<|zV (o:=0) (.f u) 0 u u u<|zM<|zQ 0 [16] u<|qI<|qB (gv (fun _ k=>k none 0 p38 c38) [0,901,902,903,904] (gq [1,0,4,5,6])))<|fun s16 _ k p39 c39 p40 c40=>k<|wC<|
  tQ u (lC 0 (.agg #[vi r34.2.2.2.1,vi r33.1,vi 0,vi (a4 r34).1,vs [],vi 0,vi 0,vi 0,vb false,vs [],sv p39 s16.2.1 c39,vb false,vs [],vi 0,vi 0,vi 0,vi 0,vi 0,vi 0,vi (a5 r34).1,vs (a6 r34).1,sv p40 s16.2.2 c40]) u u (lT u lN)) (fun _ k=>k p39 c39 p40 c40) [] (gq [0,1])
  )<|fun _=>mg0<|zB 5 u<|zI<|zY<|jA 2 u<|jct u<|zG<|zL (.agg k0)<|
  zV .s 0 u u u<|zB 1 u<|zI<|wC<|xY<|
  tQ u (lC 0 (.agg k0) u u (lT u lN)) (fun _ k=>k none 0 none 0) [] ⟨gn,gn,d⟩
abbrev zVZ:=@Cn.mk 35 0 _ @zKV
attribute [instance] zJX zIL zJ4 zJ3 zJV zJZ zVZ
theorem zIr (k:Nat):
    (∀ {y0:zC} {p1:Option Addr} {c1:Nat} {y1:zC} {p2:Option Addr} {c2:Nat},zN qd prog 79 [.agg #[vi ((fv y0).1),vs ((fv y0).2.1),sv p1 ((fv y0).2.2) c1],.agg #[vi ((fv y1).1),vs ((fv y1).2.1),sv p2 ((fv y1).2.2) c2]] [] [Rl qD p1 c1 ((fv y0).2.2),Rl qD p2 c2 ((fv y1).2.2)] (zBl k y0 y1) fun r K=>K (vb r) [] []) ∧
    (∀ {y0:List zC} {p1:Option Addr} {c1:Nat} {y1:List zC} {p2:Option Addr} {c2:Nat},zN qd prog 147 [sv p1 y0 c1,sv p2 y1 c2,.func (.func 79) #[] #[]] [] [Rl qD p1 c1 y0,Rl qD p2 c2 y1] (zAK k y0 y1) fun r K=>K (vb r) [] []):=by
  induction k with
  | zero=>exact⟨uP call79,uP call147⟩
  | succ k ih =>
    obtain⟨ih_formula_Same,ih_slices_EqualFunc_Formula__formula_Same⟩:=ih
    have zNA:=@Cn.mk 79 0 _ (@ih_formula_Same)
    have zCJ:=@Cn.mk 147 0 _ (@ih_slices_EqualFunc_Formula__formula_Same)
    exact⟨@fun y0 p1 c1 y1 p2 c2=>zS (m1:=zMf (zBl k) (zAK k) y0 y1) call79 func79 u fun X=>hI 1 1 0 (fun(s1:Bool) K=>K [] [(0,.r []),(1,.r [])] [] [(4,vb s1)] [])<|
 au
,
    @fun y0 p1 c1 y1 p2 c2=>zS (m1:=zCK (zBl k) (zAK k) y0 y1) call147 func147 u fun X=>hI 0 4 1 (fun(s1:Int) K=>K [1,2,15,16] [] [1,0] [(17,vi s1)] [])<|
 au
⟩
theorem zMq{y0:zC}{y1:zC}: zN qd prog 79 [.agg #[vi ((fv y0).1),vs ((fv y0).2.1),sv p1 ((fv y0).2.2) c1],.agg #[vi ((fv y1).1),vs ((fv y1).2.1),sv p2 ((fv y1).2.2) c2]] [] [Rl qD p1 c1 ((fv y0).2.2),Rl qD p2 c2 ((fv y1).2.2)] (zJ7 y0 y1) fun r K=>K (vb r) [] []:=uO fun k=>(zIr k).1
abbrev zNA:=@Cn.mk 79 0 _ @zMq
theorem zEm{y0:List zC}{y1:List zC}: zN qd prog 147 [sv p1 y0 c1,sv p2 y1 c2,.func (.func 79) #[] #[]] [] [Rl qD p1 c1 y0,Rl qD p2 c2 y1] (zEn y0 y1) fun r K=>K (vb r) [] []:=uO fun k=>(zIr k).2
abbrev zCJ:=@Cn.mk 147 0 _ @zEm
theorem zGv{y0:List zE}{y1:List zE}: zN qd prog 78 [sv p1 y0 c1,sv p2 y1 c2] [] [Rl qU p1 c1 y0,Rl qU p2 c2 y1] (zBw y0 y1) fun r K=>K (vb r) [] [] :=
 zS call78 func78 u fun X=>jA 1 u<|zY<|jA 5 u<|zW u (jA 1 u<|wC<|xY<|xJ u u kk [] d)<|jC<|zY<|jA 3 u<|qP<|
  vN (fun s1 K=>K [0,1,12] [] [0,1] [(13,vi s1)] []) (gv kk [] (gq [0,1]))<|fun s1 _ k=>k<|jA 1 u<|zY<|zW u (jC<|zY<|qP<|jA 2 u<|jds [] [] 9<|
  zQ 7 [0,1] u<|jdi 2 0 u u u u<|fun x1 b1 o1=>jdl 3 true zBA u (gk 0) u<|zQ 3 [4,5] u<|jdi 6 2 u u u u<|fun x2 b2 o2=>jdl 7 true zBA u (gk 0) u<|qS 8 (vb (!(x1==x2))) u<|qI<|wS<|zW u (
  jA 1 u<|wC<|jbr<|xY<|jlr<|jbr<|xY<|xJ u u kk [] d)<|uW<|yT<|wS<|jB 2 u<|jln (gv kk [] (gq [2,3])))<|uV<|uU<|uX<|uZ<|wS<|jA 1 u<|wC<|xJ u u kk [] d
abbrev zKz:=@Cn.mk 78 0 _ @zGv
theorem zOm{y0:qZ}{y1:qZ}: zN qd prog 36 [.agg (zAg y0 p1 c1 p2 c2).toArray,.agg (zAg y1 p3 c3 p4 c4).toArray] [] (xV y0 p1 c1 p2 c2 (xV y1 p3 c3 p4 c4 [])) (zFM y0 y1) fun r K=>K (vb r) [] [] :=
 zS call36 func36 u fun X=>zG<|yB .s u<|fun b1=>yB .s u<|fun b2=>zB 1 u<|zI<|jjn (fun s1 K=>K [(4,vb s1)] [[],[]] []) (vD<|zO 0 u<|qJ 0 u u u<|zO 0 u<|qJ 1 u u u<|
  zB 2 u<|wM 10 u (zO 1 u<|qJ 0 u u u<|zO 1 u<|qJ 1 u u u<|zB 1 u<|zL (vb (y0.2.1==y1.2.1))<|zB 1 u<|wM 17 u (zO 2 u<|qJ 0 u u u<|zO 2 u<|qJ 1 u u u<|zB 1 u<|
  zL (vb (y0.2.2.1==y1.2.2.1))<|zB 1 u<|wM 24 u (zO 3 u<|qJ 0 u u u<|zO 3 u<|qJ 1 u u u<|zB 1 u<|zL (vb (y0.2.2.2.1==y1.2.2.2.1))<|zB 1 u<|wM 31 u (zO 4 u<|qJ 0 u u u<|zO 4 u<|
  qJ 1 u u u<|zB 1 u<|zL (vb ((a4 y0).1==(a4 y1).1))<|zB 1 u<|wM 38 u (zO 5 u<|zO 0 u<|qJ 0 u u u<|zO 5 u<|zO 0 u<|qJ 1 u u u<|zB 1 u<|zL (vb ((a5 y0).1.1==(a5 y1).1.1))<|
  zB 1 u<|wM 47 u (zO 5 u<|zO 1 u<|qJ 0 u u u<|zO 5 u<|zO 1 u<|qJ 1 u u u<|zB 1 u<|zL (vb ((a5 y0).1.2.1==(a5 y1).1.2.1))<|zB 1 u<|wM 56 u (zO 5 u<|zO 2 u<|qJ 0 u u u<|
  zO 5 u<|zO 2 u<|qJ 1 u u u<|zB 1 u<|zL (vb ((a5 y0).1.2.2.1==(a5 y1).1.2.2.1))<|zB 1 u<|wM 65 u (zO 5 u<|zO 3 u<|qV 0 2 u u u<|zO 5 u<|zO 3 u<|qV 1 2 u u u<|
  zL (vb ((a5 y0).1.2.2.2.1==(a5 y1).1.2.2.2.1))<|zL (vb ((a5 y0).1.2.2.2.1==(a5 y1).1.2.2.2.1))<|zB 1 u<|wM 74 u (zO 5 u<|zO 5 u<|qJ 0 u u u<|zO 5 u<|zO 5 u<|qJ 1 u u u<|
  wG zGv u (cq [0,2])<|fun r1 _ k=>k<|zL (vb r1)<|zB 1 u<|wM 83 u (zO 11 u<|qV 0 2 u u u<|zO 11 u<|qV 1 2 u u u<|zL (vb ((a6 y0).1==(a6 y1).1))<|
  zL (vb ((a6 y0).1==(a6 y1).1))<|zB 1 u<|wM 90 u (zO 13 u<|qV 0 2 u u u<|zO 13 u<|qV 1 2 u u u<|
  jv (v:=vb ((a7 y0).1==(a7 y1).1)) (fun h=>z5x h u u underlying27 underlying3 (by kernel_rfl) (by kernel_rfl) (by kernel_rfl) (by kernel_rfl))<|zL (vb ((a7 y0).1==(a7 y1).1))<|
  zB 1 u<|wM 97 u (zO 15 u<|qV 0 4 u u u<|zO 15 u<|qV 1 4 u u u<|zL (vb ((a8 y0).1==(a8 y1).1))<|zL (vb ((a8 y0).1==(a8 y1).1))<|zB 1 u<|wM 104 u (zO 19 u<|
  qV 0 3 u u u<|zO 19 u<|qV 1 3 u u u<|wG zMq u (cq [1,3])<|fun r2 _ k=>k<|zL (vb r2)<|zB 1 u<|wH<|qB (gv kk [900,901] d))<|zB 5 u<|zL (vb false)<|zB 1 u<|wH<|
  qB (gv kk [900,901] d))<|zB 5 u<|zL (vb false)<|zB 6 u<|zL (vb false)<|zB 1 u<|wH<|qB (gv kk [900,901] d))<|zB 5 u<|zL (vb false)<|zB 6 u<|zL (vb false)<|zB 6 u<|zL (vb false)<|zB 1 u<|
  wH<|qB (gv kk [900,901] d))<|zB 5 u<|zL (vb false)<|zB 6 u<|zL (vb false)<|zB 6 u<|zL (vb false)<|zB 6 u<|zL (vb false)<|zB 1 u<|wH<|qB (gv kk [900,901] d))<|zB 7 u<|zL (vb false)<|
  zB 6 u<|zL (vb false)<|zB 6 u<|zL (vb false)<|zB 6 u<|zL (vb false)<|zB 6 u<|zL (vb false)<|zB 1 u<|wH<|qB (gv kk [900,901] d))<|zB 7 u<|zL (vb false)<|zB 8 u<|zL (vb false)<|zB 6 u<|
  zL (vb false)<|zB 6 u<|zL (vb false)<|zB 6 u<|zL (vb false)<|zB 6 u<|zL (vb false)<|zB 1 u<|wH<|qB (gv kk [900,901] d))<|zB 7 u<|zL (vb false)<|zB 8 u<|zL (vb false)<|zB 8 u<|zL (vb false)<|
  zB 6 u<|zL (vb false)<|zB 6 u<|zL (vb false)<|zB 6 u<|zL (vb false)<|zB 6 u<|zL (vb false)<|zB 1 u<|wH<|qB (gv kk [900,901] d))<|zB 7 u<|zL (vb false)<|zB 8 u<|zL (vb false)<|zB 8 u<|
  zL (vb false)<|zB 8 u<|zL (vb false)<|zB 6 u<|zL (vb false)<|zB 6 u<|zL (vb false)<|zB 6 u<|zL (vb false)<|zB 6 u<|zL (vb false)<|zB 1 u<|wH<|qB (gv kk [900,901] d))<|zB 7 u<|zL (vb false)<|
  zB 8 u<|zL (vb false)<|zB 8 u<|zL (vb false)<|zB 8 u<|zL (vb false)<|zB 8 u<|zL (vb false)<|zB 6 u<|zL (vb false)<|zB 6 u<|zL (vb false)<|zB 6 u<|zL (vb false)<|zB 6 u<|zL (vb false)<|zB 1 u<|wH<|
  qB (gv kk [900,901] d))<|zB 5 u<|zL (vb false)<|zB 8 u<|zL (vb false)<|zB 8 u<|zL (vb false)<|zB 8 u<|zL (vb false)<|zB 8 u<|zL (vb false)<|zB 8 u<|zL (vb false)<|zB 6 u<|zL (vb false)<|zB 6 u<|
  zL (vb false)<|zB 6 u<|zL (vb false)<|zB 6 u<|zL (vb false)<|zB 1 u<|wH<|qB (gv kk [900,901] d))<|zB 5 u<|zL (vb false)<|zB 6 u<|zL (vb false)<|zB 8 u<|zL (vb false)<|zB 8 u<|zL (vb false)<|
  zB 8 u<|zL (vb false)<|zB 8 u<|zL (vb false)<|zB 8 u<|zL (vb false)<|zB 6 u<|zL (vb false)<|zB 6 u<|zL (vb false)<|zB 6 u<|zL (vb false)<|zB 6 u<|zL (vb false)<|zB 1 u<|wH<|qB (gv kk [900,901] d)
  )<|zB 5 u<|zL (vb false)<|zB 6 u<|zL (vb false)<|zB 6 u<|zL (vb false)<|zB 8 u<|zL (vb false)<|zB 8 u<|zL (vb false)<|zB 8 u<|zL (vb false)<|zB 8 u<|zL (vb false)<|zB 8 u<|zL (vb false)<|zB 6 u<|
  zL (vb false)<|zB 6 u<|zL (vb false)<|zB 6 u<|zL (vb false)<|zB 6 u<|zL (vb false)<|zB 1 u<|wH<|qB (gv kk [900,901] d))<|zB 5 u<|zL (vb false)<|zB 6 u<|zL (vb false)<|zB 6 u<|zL (vb false)<|
  zB 6 u<|zL (vb false)<|zB 8 u<|zL (vb false)<|zB 8 u<|zL (vb false)<|zB 8 u<|zL (vb false)<|zB 8 u<|zL (vb false)<|zB 8 u<|zL (vb false)<|zB 6 u<|zL (vb false)<|zB 6 u<|zL (vb false)<|zB 6 u<|
  zL (vb false)<|zB 6 u<|zL (vb false)<|zB 1 u<|wH<|qB (gv kk [900,901] d))<|fun s1 _ k=>k<|wC<|xJ u u kk [] d
abbrev zUV:=@Cn.mk 36 0 _ @zOm
theorem zKl{y0:zE}: zN qd prog 68 [.agg #[vb y0.1,vs y0.2]] [] [] (zCS y0) fun r K=>K (vs r) [] [] :=
 zS call68 func68 u fun X=>
 au
abbrev zQj:=@Cn.mk 68 0 _ @zKl
theorem zFd{y0:zAQ}{y1:zA}: zN qd prog 67 [pt b1 0,vs y1] [bx b1 108 [vi y0.1.1,vi y0.1.2.1,vi y0.1.2.2.1,vi y0.1.2.2.2.1,vs y0.1.2.2.2.2.1,vi y0.1.2.2.2.2.2.1.1,vi y0.1.2.2.2.2.2.1.2.1,vi y0.1.2.2.2.2.2.1.2.2.1,vb y0.1.2.2.2.2.2.1.2.2.2.1.1,vs y0.1.2.2.2.2.2.1.2.2.2.1.2,sv p1 y0.1.2.2.2.2.2.1.2.2.2.2 c1,vb y0.1.2.2.2.2.2.2.1.1,vs y0.1.2.2.2.2.2.2.1.2,vi y0.1.2.2.2.2.2.2.2.1.1,vi y0.1.2.2.2.2.2.2.2.1.2,vi y0.1.2.2.2.2.2.2.2.2.1.1,vi y0.1.2.2.2.2.2.2.2.2.1.2.1,vi y0.1.2.2.2.2.2.2.2.2.1.2.2.1,vi y0.1.2.2.2.2.2.2.2.2.1.2.2.2,vi ((fv y0.1.2.2.2.2.2.2.2.2.2).1),vs ((fv y0.1.2.2.2.2.2.2.2.2.2).2.1),sv p2 ((fv y0.1.2.2.2.2.2.2.2.2.2).2.2) c2,sv p3 y0.2.1 c3,vb y0.2.2],r_1] (xV y0.1 p1 c1 p2 c2 [Al wD 9 r_1 p3 c3 y0.2.1]) (zA7 y0 y1) fun r K=>∀ p4 c4 r_2,K (.tuple #[]) [bx b1 108 [vi y0.1.1,vi y0.1.2.1,vi y0.1.2.2.1,vi y0.1.2.2.2.1,vs y0.1.2.2.2.2.1,vi y0.1.2.2.2.2.2.1.1,vi y0.1.2.2.2.2.2.1.2.1,vi y0.1.2.2.2.2.2.1.2.2.1,vb y0.1.2.2.2.2.2.1.2.2.2.1.1,vs y0.1.2.2.2.2.2.1.2.2.2.1.2,sv p1 y0.1.2.2.2.2.2.1.2.2.2.2 c1,vb y0.1.2.2.2.2.2.2.1.1,vs y0.1.2.2.2.2.2.2.1.2,vi y0.1.2.2.2.2.2.2.2.1.1,vi y0.1.2.2.2.2.2.2.2.1.2,vi y0.1.2.2.2.2.2.2.2.2.1.1,vi y0.1.2.2.2.2.2.2.2.2.1.2.1,vi y0.1.2.2.2.2.2.2.2.2.1.2.2.1,vi y0.1.2.2.2.2.2.2.2.2.1.2.2.2,vi ((fv y0.1.2.2.2.2.2.2.2.2.2).1),vs ((fv y0.1.2.2.2.2.2.2.2.2.2).2.1),sv p2 ((fv y0.1.2.2.2.2.2.2.2.2.2).2.2) c2,sv p4 r.1 c4,vb r.2],r_2] [Al wD 9 r_2 p4 c4 r.1] :=
 zS call67 func67 u fun X=>hI 1 0 0 (fun(s1:Bool) K=>K [0,1] [(0,.c [(23,vb s1)])] [0,1,2] [] [])<|
 au
abbrev zMX:=@Cn.mk 67 0 _ @zFd
attribute [instance] zNA zCJ zKz zUV zQj zMX
theorem zG8{y0:zAQ}{y1:List Int}: zN qd prog 69 [pt b1 0,sv p4 y1 c4] [bx b1 108 [vi y0.1.1,vi y0.1.2.1,vi y0.1.2.2.1,vi y0.1.2.2.2.1,vs y0.1.2.2.2.2.1,vi y0.1.2.2.2.2.2.1.1,vi y0.1.2.2.2.2.2.1.2.1,vi y0.1.2.2.2.2.2.1.2.2.1,vb y0.1.2.2.2.2.2.1.2.2.2.1.1,vs y0.1.2.2.2.2.2.1.2.2.2.1.2,sv p1 y0.1.2.2.2.2.2.1.2.2.2.2 c1,vb y0.1.2.2.2.2.2.2.1.1,vs y0.1.2.2.2.2.2.2.1.2,vi y0.1.2.2.2.2.2.2.2.1.1,vi y0.1.2.2.2.2.2.2.2.1.2,vi y0.1.2.2.2.2.2.2.2.2.1.1,vi y0.1.2.2.2.2.2.2.2.2.1.2.1,vi y0.1.2.2.2.2.2.2.2.2.1.2.2.1,vi y0.1.2.2.2.2.2.2.2.2.1.2.2.2,vi ((fv y0.1.2.2.2.2.2.2.2.2.2).1),vs ((fv y0.1.2.2.2.2.2.2.2.2.2).2.1),sv p2 ((fv y0.1.2.2.2.2.2.2.2.2.2).2.2) c2,sv p3 y0.2.1 c3,vb y0.2.2],r_1] (xV y0.1 p1 c1 p2 c2 [Al wD 9 r_1 p3 c3 y0.2.1,Rl (zR .i64) p4 c4 y1,Tb prog "internal/strconv.uint64pow10" .u64 Lib.pow10Tab]) (zBo y0 y1) fun r K=>∀ p5 c5 r_2,K (.tuple #[]) [bx b1 108 [vi y0.1.1,vi y0.1.2.1,vi y0.1.2.2.1,vi y0.1.2.2.2.1,vs y0.1.2.2.2.2.1,vi y0.1.2.2.2.2.2.1.1,vi y0.1.2.2.2.2.2.1.2.1,vi y0.1.2.2.2.2.2.1.2.2.1,vb y0.1.2.2.2.2.2.1.2.2.2.1.1,vs y0.1.2.2.2.2.2.1.2.2.2.1.2,sv p1 y0.1.2.2.2.2.2.1.2.2.2.2 c1,vb y0.1.2.2.2.2.2.2.1.1,vs y0.1.2.2.2.2.2.2.1.2,vi y0.1.2.2.2.2.2.2.2.1.1,vi y0.1.2.2.2.2.2.2.2.1.2,vi y0.1.2.2.2.2.2.2.2.2.1.1,vi y0.1.2.2.2.2.2.2.2.2.1.2.1,vi y0.1.2.2.2.2.2.2.2.2.1.2.2.1,vi y0.1.2.2.2.2.2.2.2.2.1.2.2.2,vi ((fv y0.1.2.2.2.2.2.2.2.2.2).1),vs ((fv y0.1.2.2.2.2.2.2.2.2.2).2.1),sv p2 ((fv y0.1.2.2.2.2.2.2.2.2.2).2.2) c2,sv p5 r.1 c5,vb r.2],r_2] [Al wD 9 r_2 p5 c5 r.1] :=
 zS call69 func69 u fun X=>hI 0 1 1 (fun(s1:Int×(List zA)×Bool) K=>∀ p5 c5 r_2,K [0,6,7] [(0,.c [(22,sv p5 s1.2.1 c5),(23,vb s1.2.2)]),(1,.r r_2)] [3,0,1,4] [(8,vi s1.1)] [Al wD 9 r_2 p5 c5 s1.2.1])<|hI 1 3 0 (fun(s2:Bool) K=>K [0,5,6,7,8] [(0,.c [(23,vb s2)])] [2,3,4,1,5] [] [])<|
 au
abbrev zK8:=@Cn.mk 69 0 _ @zG8
attribute [instance] zK8
theorem zH1{y0:zAQ}{y1:zA}{y2:List Int}: zN qd prog 64 [pt b1 0,vs y1,sv p4 y2 c4] [bx b1 108 [vi y0.1.1,vi y0.1.2.1,vi y0.1.2.2.1,vi y0.1.2.2.2.1,vs y0.1.2.2.2.2.1,vi y0.1.2.2.2.2.2.1.1,vi y0.1.2.2.2.2.2.1.2.1,vi y0.1.2.2.2.2.2.1.2.2.1,vb y0.1.2.2.2.2.2.1.2.2.2.1.1,vs y0.1.2.2.2.2.2.1.2.2.2.1.2,sv p1 y0.1.2.2.2.2.2.1.2.2.2.2 c1,vb y0.1.2.2.2.2.2.2.1.1,vs y0.1.2.2.2.2.2.2.1.2,vi y0.1.2.2.2.2.2.2.2.1.1,vi y0.1.2.2.2.2.2.2.2.1.2,vi y0.1.2.2.2.2.2.2.2.2.1.1,vi y0.1.2.2.2.2.2.2.2.2.1.2.1,vi y0.1.2.2.2.2.2.2.2.2.1.2.2.1,vi y0.1.2.2.2.2.2.2.2.2.1.2.2.2,vi ((fv y0.1.2.2.2.2.2.2.2.2.2).1),vs ((fv y0.1.2.2.2.2.2.2.2.2.2).2.1),sv p2 ((fv y0.1.2.2.2.2.2.2.2.2.2).2.2) c2,sv p3 y0.2.1 c3,vb y0.2.2],r_1] (xV y0.1 p1 c1 p2 c2 [Al wD 9 r_1 p3 c3 y0.2.1,Rl (zR .i64) p4 c4 y2,Tb prog "internal/strconv.uint64pow10" .u64 Lib.pow10Tab]) (tE y0 y1 y2) fun r K=>∀ p5 c5 r_2,K (.tuple #[]) [bx b1 108 [vi y0.1.1,vi y0.1.2.1,vi y0.1.2.2.1,vi y0.1.2.2.2.1,vs y0.1.2.2.2.2.1,vi y0.1.2.2.2.2.2.1.1,vi y0.1.2.2.2.2.2.1.2.1,vi y0.1.2.2.2.2.2.1.2.2.1,vb y0.1.2.2.2.2.2.1.2.2.2.1.1,vs y0.1.2.2.2.2.2.1.2.2.2.1.2,sv p1 y0.1.2.2.2.2.2.1.2.2.2.2 c1,vb y0.1.2.2.2.2.2.2.1.1,vs y0.1.2.2.2.2.2.2.1.2,vi y0.1.2.2.2.2.2.2.2.1.1,vi y0.1.2.2.2.2.2.2.2.1.2,vi y0.1.2.2.2.2.2.2.2.2.1.1,vi y0.1.2.2.2.2.2.2.2.2.1.2.1,vi y0.1.2.2.2.2.2.2.2.2.1.2.2.1,vi y0.1.2.2.2.2.2.2.2.2.1.2.2.2,vi ((fv y0.1.2.2.2.2.2.2.2.2.2).1),vs ((fv y0.1.2.2.2.2.2.2.2.2.2).2.1),sv p2 ((fv y0.1.2.2.2.2.2.2.2.2.2).2.2) c2,sv p5 r.1 c5,vb r.2],r_2] [Al wD 9 r_2 p5 c5 r.1] :=
 zS call64 func64 u fun X=>zG<|zB 2 u<|qA .s [0,1] [] zFd u u u (cq [0,1,2])<|fun r1 _ k p5 c5 r_2=>k<|zI<|vD<|zB 3 u<|zO 0 u<|zO 1 u<|qJ 0 u u u<|
  xK .s (e:=zR .i64) 3 [vi y0.1.2.1] ([y0.1.2.1]:List Int) (rC vI rN)<|fun r_3 p6 c6=>zB 1 u<|vK .s 2 0 u (gk 5) u u<|fun x1 r_4 p7 c7=>wW 2 0 u u<|
 au
abbrev zLb:=@Cn.mk 64 0 _ @zH1
theorem zP8{y0:zC}: zN qd prog 221 [.agg #[vi ((fv y0).1),vs ((fv y0).2.1),sv p1 ((fv y0).2.2) c1]] [] [Rl qD p1 c1 ((fv y0).2.2)] (zFQ y0) fun r K=>K (vb r) [] [] :=
 zS call221 func221 u fun X=>hI 1 3 1 (fun(s1:Bool) K=>K [3,8] [(0,.r [])] [] [(9,vb s1)] [])<|hI 1 9 1 (fun(s2:Bool) K=>K [3,8] [] [] [(19,vb s2)] [])<|hP 4 11 0 (fun K=>K [] [] [] [(2,vb ((decide (2≤(len ((fv y0).2.2))))&&(decide ((len ((fv y0).2.2))≤6))))] [])<|hI 1 12 1 (fun(s3:Bool) K=>K [3] [] [] [(28,vb s3)] [])<|
 au
abbrev zPi:=@Cn.mk 221 0 _ @zP8
attribute [instance] zLb zPi
theorem zGY (k:Nat):
    (∀ {y0:zC} {p1:Option Addr} {c1:Nat},zN qd prog 220 [.agg #[vi ((fv y0).1),vs ((fv y0).2.1),sv p1 ((fv y0).2.2) c1],.func (.func 221) #[] #[]] [] [Rl qD p1 c1 ((fv y0).2.2)] (zAb k y0) fun r K=>K (vb r) [] []):=by
  induction k with
  | zero=>exact uP call220
  | succ k ih =>
    have ih_formula_all__formula_counted:=@ih
    have zD5:=@Cn.mk 220 0 _ (@ih_formula_all__formula_counted)
    exact @fun y0 p1 c1=>zS (m1:=zD1 (zAb k) y0) call220 func220 u fun X=>hI 0 4 1 (fun(s1:Int) K=>K [1,12,13] [(0,.r [])] [0] [(14,vi s1)] [])<|
 au
theorem zH5{y0:zC}: zN qd prog 220 [.agg #[vi ((fv y0).1),vs ((fv y0).2.1),sv p1 ((fv y0).2.2) c1],.func (.func 221) #[] #[]] [] [Rl qD p1 c1 ((fv y0).2.2)] (zCO y0) fun r K=>K (vb r) [] []:=uO fun k=>(zGY k)
abbrev zD5:=@Cn.mk 220 0 _ @zH5
theorem zRp{y0:zC}: zN qd prog 222 [.agg #[vi ((fv y0).1),vs ((fv y0).2.1),sv p1 ((fv y0).2.2) c1]] [] [Rl qD p1 c1 ((fv y0).2.2)] (zLj y0) fun r K=>K (vb r) [] [] :=
 zS call222 func222 u fun X=>
 au
abbrev zSM:=@Cn.mk 222 0 _ @zRp
attribute [instance] zD5 zSM
theorem zGs (k:Nat):
    (∀ {y0:zC} {p1:Option Addr} {c1:Nat},zN qd prog 220 [.agg #[vi ((fv y0).1),vs ((fv y0).2.1),sv p1 ((fv y0).2.2) c1],.func (.func 222) #[] #[]] [] [Rl qD p1 c1 ((fv y0).2.2)] (zAe k y0) fun r K=>K (vb r) [] []):=by
  induction k with
  | zero=>exact uP call220
  | succ k ih =>
    have ih_formula_all__formula_named:=@ih
    have zEi:=@Cn.mk 220 0 _ (@ih_formula_all__formula_named)
    exact @fun y0 p1 c1=>zS (m1:=zE2 (zAe k) y0) call220 func220 u fun X=>hI 0 4 1 (fun(s1:Int) K=>K [1,12,13] [(0,.r [])] [0] [(14,vi s1)] [])<|
 au
theorem zIC{y0:zC}: zN qd prog 220 [.agg #[vi ((fv y0).1),vs ((fv y0).2.1),sv p1 ((fv y0).2.2) c1],.func (.func 222) #[] #[]] [] [Rl qD p1 c1 ((fv y0).2.2)] (zCZ y0) fun r K=>K (vb r) [] []:=uO fun k=>(zGs k)
abbrev zEi:=@Cn.mk 220 1 _ @zIC
attribute [instance] zEi
theorem zJK{y0:zC}: zN qd prog 181 [.agg #[vi ((fv y0).1),vs ((fv y0).2.1),sv p1 ((fv y0).2.2) c1]] [] [Rl qD p1 c1 ((fv y0).2.2)] (zEl y0) fun r K=>K (vi r) [] [] :=
 zS call181 func181 u fun X=>hI 1 1 0 (fun(s1:Bool) K=>K [1] [] [0] [(3,vb s1)] [])<|
 au
abbrev zOM:=@Cn.mk 181 0 _ @zJK
theorem zKn{y0:zC}{y1:Int}: zN qd prog 225 [.agg #[vi ((fv y0).1),vs ((fv y0).2.1),sv p1 ((fv y0).2.2) c1],vi y1] [] [Rl qD p1 c1 ((fv y0).2.2)] (zH7 y0 y1) fun r K=>K (vi r) [] [] :=
 zS call225 func225 u fun X=>hI 1 2 1 (fun(s1:Bool) K=>K [1,6] [(0,.r [])] [] [(7,vb s1)] [])<|
 au
abbrev zQb:=@Cn.mk 225 0 _ @zKn
theorem zJP{y0:zC}: zN qd prog 224 [.agg #[vi ((fv y0).1),vs ((fv y0).2.1),sv p1 ((fv y0).2.2) c1]] [] [Rl qD p1 c1 ((fv y0).2.2)] (zGb y0) fun r K=>K (vi r) [] [] :=
 zS call224 func224 u fun X=>
 au
abbrev zOP:=@Cn.mk 224 0 _ @zJP
attribute [instance] zOM zQb zOP
theorem zIN{y0:zA}: zN qd prog 122 [pt b1 0] [r_1] [tM 152 5 r_1 b1 y0] (some ()) fun _ K=>∀ r_2,K (.tuple #[]) [r_2] [tM 152 5 r_2 b1 y0]:=(z6Q (ρ:=Go.Proofs.Tryz.lays156_ren) { Go.Proofs.Tryz.lays156 with } Go.Proofs.Tryz.Builder_Extra_156.toX72 (by kernel_rfl) call122)
theorem zBL{qd:Prop}{y0:zA}{y1:Int}: zN qd prog 223 [pt b1 0,.int .u8 y1] [r_1] [tM 152 5 r_1 b1 y0] (zAJ y0 y1) fun r K=>∀ r_2,K .nilIface [r_2] [tM 152 5 r_2 b1 r.2] :=
 zS call223 func223 u fun X=>zG<|zB 1 u<|zI<|zG<|zB 1 u<|qA .s [0] [] zIN u u u ⟨ck 0,d⟩<|fun _ _ k r_2=>k<|zI<|zG<|jBo 0 0 u<|fun pv p2 c2 r_3=>zB 3 u<|zO 1 u<|qJ 0 u u u<|zB 1 u<|
  uR .s (e:=zR .u8) 5 [.int .u8 y1] [y1] (rC vI rN)<|fun p3 c3=>jwb .s 1 1 u (gk 0) u u<|fun r_4 p4 c4=>zB 1 u<|zO 1 u<|zV .s 0 u u u<|jBc 0 1 0 3 u u u u<|
 au
theorem zCT{y0:zA}{y1:zA}: zN False prog 73 [pt b1 0,vs y1] [r_1] [tM 152 5 r_1 b1 y0] (zA2 y0 y1) fun r K=>∀ r_2,K (.tuple #[vi r.1,.nilIface]) [r_2] [tM 152 5 r_2 b1 r.2.2]:=z45 { Go.Proofs.Tryz.lays156 with } Go.Proofs.Tryz.Builder_Extra_156 (by kernel_rfl) call73
abbrev zH9:=@Cn.mk 73 0 _ @zCT
theorem zNg (k:Nat):
    (∀ {y0:zA} {b1:Nat} {r_1:zH} {y1:zC} {p1:Option Addr} {c1:Nat},zN False prog 182 [pt b1 0,.agg #[vi ((fv y1).1),vs ((fv y1).2.1),sv p1 ((fv y1).2.2) c1]] [r_1] [tM 152 5 r_1 b1 y0,Rl qD p1 c1 ((fv y1).2.2),Pt (z0U 9 wD) 0 0 zA0] (zC8 k y0 y1) fun r K=>∀ r_2,K (.tuple #[]) [r_2] [tM 152 5 r_2 b1 r]):=by
  induction k with
  | zero=>exact uP call182
  | succ k ih =>
    have ih_formula_write:=@ih
    have zLt:=@Cn.mk 182 0 _ (@ih_formula_write)
    exact @fun y0 b1 r_1 y1 p1 c1=>zS (m1:=zLk (zC8 k) y0 y1) call182 func182 u fun X=>zG<|yB .s u<|fun b2=>zI<|qX (fun s1 K=>∀ r_2,K [0,3] [(0,r_2)] [1,2] [] [tM 152 5 r_2 b1 s1]) (zG<|zO 0 u<|qJ 1 u u u<|zI<|qP<|jA 2 u<|zW u (
  vD<|zB 1 u<|qA .s [0] [] zBL u u u (cq [0])<|fun r1 _ k r_3=>k<|wH<|yT<|qB (gv (fun _ k=>k r_3) [0,1] (gq [0,2,3])))<|jA 2 u<|zW u (vD<|zB 1 u<|
  qA .s [0] [] zBL u u u (cq [0])<|fun r2 _ k r_4=>k<|wH<|yT<|qB (gv (fun _ k=>k r_4) [0,1] (gq [0,2,3])))<|jA 2 u<|zW u (vD<|zB 1 u<|zO 1 u<|qJ 1 u u u<|
  qA .s [0] [] zCT u u u (cq [0])<|fun r3 _ k r_5=>k<|wH<|yT<|qB (gv (fun _ k=>k r_5) [0,1] (gq [0,2,3])))<|jA 2 u<|zW u (vD<|zB 1 u<|
  qA .s [0] [] zBL u u u (cq [0])<|fun r4 _ k r_6=>k<|wH<|yT<|qB (gv (fun _ k=>k r_6) [0,1] (gq [0,2,3])))<|uW<|yT<|qB (gv (fun _ k=>k r_1) [0,1] (gq [0,1,2])))<|fun s1 _ k r_2=>k<|zG<|zO 2 u<|
  qJ 1 u u u<|zB 2 u<|zI<|qP<|
  vN (fun s2 K=>∀ r_7,K [0,3,27,28] [(0,r_7)] [1,2] [(29,vi s2.1)] [tM 152 5 r_7 b1 s2.2]) (gv (fun _ k=>k r_2) [0,1] (gq [0,1,2]))<|
  fun s2 _ k r_7=>k<|jA 1 u<|zY<|zW u (jC<|zY<|qP<|zG<|zB 1 u<|tA 1 u u u<|fun x1 b3 o1=>tG true zJr (gk 0) u<|fun p2 c2=>qN .s (.agg k1)<|fun b4=>zB 1 u<|zV .s 2 u u u<|
  zI<|qX (fun s3 K=>∀ r_8,K [0,3,4,5,27,28,29] [(0,r_8)] [3,0,4] [] [tM 152 5 r_8 b1 s3]) (jA 2 u<|zW u (vD<|zB 1 u<|zO 0 u<|
  qJ 1 u u u<|jgx (gk 4) u u<|fun x2=>tG false oS (gk 0) u<|qA .s [0] [] zCT u u u (cq [3])<|fun r5 _ k r_9=>k<|wH<|qB (gv (fun _ k=>k r_9) [0,1,2] (gq [0,5,2,6])))<|uW<|
  qB (gv (fun _ k=>k r_7) [0,1,2] (gq [2,3,0,4])))<|fun s3 _ k r_8=>k<|jds [] [1,2] 6<|yZ 0 2 3 u u u u<|yZ 2 1 3 u u u u<|zQ 3 [3] u<|zT 1<|qA (.f u) [] [] zJP u u u (cq [2])<|
  fun r6 _ k=>k<|zM<|zT 4<|qA (.f u) [] [] zKn u u u (cq [1])<|fun r7 _ k=>k<|zM<|zQ 0 [5] u<|qI<|wS<|zW u (zG<|zB 1 u<|qA .s [0] [] zBL u u u (cq [0])<|fun r8 _ k r_10=>k<|
  zI<|zG<|zB 1 u<|qV 2 3 u u u<|qA .s [0] [] ih_formula_write u u u (cq [0,3,4])<|fun r9 _ k r_11=>k<|zI<|vD<|zB 1 u<|qA .s [0] [] zBL u u u (cq [0])<|fun r10 _ k r_12=>k<|wH<|yT<|wS<|
  jB 2 u<|jln (gv (fun _ k=>k r_12) [0,1] (gq [0,4,6])))<|vD<|zB 1 u<|qV 2 3 u u u<|qA .s [0] [] ih_formula_write u u u (cq [0,2,3])<|fun r11 _ k r_13=>k<|wH<|yT<|wS<|jB 2 u<|
  jln (gv (fun _ k=>k r_13) [0,1] (gq [0,2,4])))<|uV<|uU<|uX<|uZ<|jrn<|tQ u lN (fun _ k=>k r_7) [0] (gq [0])
theorem zSw{y0:zA}{y1:zC}: zN False prog 182 [pt b1 0,.agg #[vi ((fv y1).1),vs ((fv y1).2.1),sv p1 ((fv y1).2.2) c1]] [r_1] [tM 152 5 r_1 b1 y0,Rl qD p1 c1 ((fv y1).2.2),Pt (z0U 9 wD) 0 0 zA0] (zFH y0 y1) fun r K=>∀ r_2,K (.tuple #[]) [r_2] [tM 152 5 r_2 b1 r]:=uO fun k=>(zNg k)
abbrev zLt:=@Cn.mk 182 0 _ @zSw
theorem zLi{y0:zA}: zN qd prog 183 [pt b1 0] [r_1] [tM 152 5 r_1 b1 y0] (zBf y0) fun r K=>K (vi r) [r_1] []:=z3u Go.Proofs.Tryz.lays170 call183
abbrev zL9:=@Cn.mk 183 0 _ @zLi
theorem zJn{y0:zA}: zN False prog 74 [pt b1 0] [r_1] [tM 152 5 r_1 b1 y0] (zBj y0) fun r K=>K (vs r) [[]] []:=z5U Go.Proofs.Tryz.lays169 Go.Proofs.Tryz.Builder_Extra_169 call74
abbrev zJp:=@Cn.mk 74 0 _ @zJn
attribute [instance] zH9 zLt zL9 zJp
theorem zQy{y0:zC}: zN False prog 121 [.agg #[vi ((fv y0).1),vs ((fv y0).2.1),sv p1 ((fv y0).2.2) c1]] [] [Rl qD p1 c1 ((fv y0).2.2),Pt (z0U 9 wD) 0 0 zA0] (zAx y0) fun r K=>K (.tuple #[vs r.1,vi r.2]) [] [] :=
 zS call121 func121 u fun X=>zG<|yB .s u<|fun b1=>zB 2 u<|zI<|zY<|zG<|qV 0 3 u u u<|wG zJK u (cq [0])<|fun r1 _ k=>k<|zB 1 u<|zI<|jA 2 u<|zW u (
 au
)<|jC<|zG<|
  qN .s (.agg #[.pointer none,.slice none 0 0])<|fun b2=>jbq 152 5 b2<|
 au
abbrev zQl:=@Cn.mk 121 0 _ @zQy
attribute [instance] zQl
theorem zK6{y0:zAQ}: zN False prog 71 [pt b1 0] [bx b1 108 [vi y0.1.1,vi y0.1.2.1,vi y0.1.2.2.1,vi y0.1.2.2.2.1,vs y0.1.2.2.2.2.1,vi y0.1.2.2.2.2.2.1.1,vi y0.1.2.2.2.2.2.1.2.1,vi y0.1.2.2.2.2.2.1.2.2.1,vb y0.1.2.2.2.2.2.1.2.2.2.1.1,vs y0.1.2.2.2.2.2.1.2.2.2.1.2,sv p1 y0.1.2.2.2.2.2.1.2.2.2.2 c1,vb y0.1.2.2.2.2.2.2.1.1,vs y0.1.2.2.2.2.2.2.1.2,vi y0.1.2.2.2.2.2.2.2.1.1,vi y0.1.2.2.2.2.2.2.2.1.2,vi y0.1.2.2.2.2.2.2.2.2.1.1,vi y0.1.2.2.2.2.2.2.2.2.1.2.1,vi y0.1.2.2.2.2.2.2.2.2.1.2.2.1,vi y0.1.2.2.2.2.2.2.2.2.1.2.2.2,vi ((fv y0.1.2.2.2.2.2.2.2.2.2).1),vs ((fv y0.1.2.2.2.2.2.2.2.2.2).2.1),sv p2 ((fv y0.1.2.2.2.2.2.2.2.2.2).2.2) c2,sv p3 y0.2.1 c3,vb y0.2.2],r_1] (xV y0.1 p1 c1 p2 c2 [Al wD 9 r_1 p3 c3 y0.2.1,Pt (z0U 9 wD) 0 0 zA0]) (zBP y0) fun r K=>∀ p4 c4 r_2,K (.tuple #[]) [bx b1 108 [vi y0.1.1,vi y0.1.2.1,vi y0.1.2.2.1,vi y0.1.2.2.2.1,vs y0.1.2.2.2.2.1,vi y0.1.2.2.2.2.2.1.1,vi y0.1.2.2.2.2.2.1.2.1,vi y0.1.2.2.2.2.2.1.2.2.1,vb y0.1.2.2.2.2.2.1.2.2.2.1.1,vs y0.1.2.2.2.2.2.1.2.2.2.1.2,sv p1 y0.1.2.2.2.2.2.1.2.2.2.2 c1,vb y0.1.2.2.2.2.2.2.1.1,vs y0.1.2.2.2.2.2.2.1.2,vi y0.1.2.2.2.2.2.2.2.1.1,vi y0.1.2.2.2.2.2.2.2.1.2,vi y0.1.2.2.2.2.2.2.2.2.1.1,vi y0.1.2.2.2.2.2.2.2.2.1.2.1,vi y0.1.2.2.2.2.2.2.2.2.1.2.2.1,vi y0.1.2.2.2.2.2.2.2.2.1.2.2.2,vi ((fv y0.1.2.2.2.2.2.2.2.2.2).1),vs ((fv y0.1.2.2.2.2.2.2.2.2.2).2.1),sv p2 ((fv y0.1.2.2.2.2.2.2.2.2.2).2.2) c2,sv p4 r.1 c4,vb r.2],r_2] [Al wD 9 r_2 p4 c4 r.1] :=
 zS call71 func71 u fun X=>hI 1 1 0 (fun(s1:Bool) K=>K [0,2] [(0,.c [(23,vb s1)])] [0,1,2,3] [] [])<|
 au
abbrev zK3:=@Cn.mk 71 0 _ @zK6
theorem zMd{y0:zAQ}: zN qd prog 70 [pt b1 0] [bx b1 108 [vi y0.1.1,vi y0.1.2.1,vi y0.1.2.2.1,vi y0.1.2.2.2.1,vs y0.1.2.2.2.2.1,vi y0.1.2.2.2.2.2.1.1,vi y0.1.2.2.2.2.2.1.2.1,vi y0.1.2.2.2.2.2.1.2.2.1,vb y0.1.2.2.2.2.2.1.2.2.2.1.1,vs y0.1.2.2.2.2.2.1.2.2.2.1.2,sv p1 y0.1.2.2.2.2.2.1.2.2.2.2 c1,vb y0.1.2.2.2.2.2.2.1.1,vs y0.1.2.2.2.2.2.2.1.2,vi y0.1.2.2.2.2.2.2.2.1.1,vi y0.1.2.2.2.2.2.2.2.1.2,vi y0.1.2.2.2.2.2.2.2.2.1.1,vi y0.1.2.2.2.2.2.2.2.2.1.2.1,vi y0.1.2.2.2.2.2.2.2.2.1.2.2.1,vi y0.1.2.2.2.2.2.2.2.2.1.2.2.2,vi ((fv y0.1.2.2.2.2.2.2.2.2.2).1),vs ((fv y0.1.2.2.2.2.2.2.2.2.2).2.1),sv p2 ((fv y0.1.2.2.2.2.2.2.2.2.2).2.2) c2,sv p3 y0.2.1 c3,vb y0.2.2],r_1] (xV y0.1 p1 c1 p2 c2 [Al wD 9 r_1 p3 c3 y0.2.1,Tb prog "internal/strconv.uint64pow10" .u64 Lib.pow10Tab]) (zBs y0) fun r K=>∀ p4 c4 r_2,K (.tuple #[]) [bx b1 108 [vi y0.1.1,vi y0.1.2.1,vi y0.1.2.2.1,vi y0.1.2.2.2.1,vs y0.1.2.2.2.2.1,vi y0.1.2.2.2.2.2.1.1,vi y0.1.2.2.2.2.2.1.2.1,vi y0.1.2.2.2.2.2.1.2.2.1,vb y0.1.2.2.2.2.2.1.2.2.2.1.1,vs y0.1.2.2.2.2.2.1.2.2.2.1.2,sv p1 y0.1.2.2.2.2.2.1.2.2.2.2 c1,vb y0.1.2.2.2.2.2.2.1.1,vs y0.1.2.2.2.2.2.2.1.2,vi y0.1.2.2.2.2.2.2.2.1.1,vi y0.1.2.2.2.2.2.2.2.1.2,vi y0.1.2.2.2.2.2.2.2.2.1.1,vi y0.1.2.2.2.2.2.2.2.2.1.2.1,vi y0.1.2.2.2.2.2.2.2.2.1.2.2.1,vi y0.1.2.2.2.2.2.2.2.2.1.2.2.2,vi ((fv y0.1.2.2.2.2.2.2.2.2.2).1),vs ((fv y0.1.2.2.2.2.2.2.2.2.2).2.1),sv p2 ((fv y0.1.2.2.2.2.2.2.2.2.2).2.2) c2,sv p4 r.1 c4,vb r.2],r_2] [Al wD 9 r_2 p4 c4 r.1] :=
 zS call70 func70 u fun X=>hD 5 [13] [0,2] (.l [0,1,2,3,4,5,6,7,8,9,10,11] (.f 12 (.f 13 (.b [] [0,2] .e))))<|hD 7 [11] [0,2] (.l [0,1,2,3,4,5,6,7,8,9] (.f 10 (.f 11 (.b [] [0,2] .e))))<|hD 9 [9] [0,2] (.l [0,1,2,3,4,5,6,7] (.f 8 (.f 9 (.b [] [0,2] .e))))<|hI 1 1 0 (fun(s1:Bool) K=>K [0,2] [(0,.c [(23,vb s1)])] [0,1,2,3] [] [])<|
 au
abbrev zMW:=@Cn.mk 70 0 _ @zMd
theorem zNO{y0:zAQ}: zN qd prog 66 [pt b1 0] [bx b1 108 [vi y0.1.1,vi y0.1.2.1,vi y0.1.2.2.1,vi y0.1.2.2.2.1,vs y0.1.2.2.2.2.1,vi y0.1.2.2.2.2.2.1.1,vi y0.1.2.2.2.2.2.1.2.1,vi y0.1.2.2.2.2.2.1.2.2.1,vb y0.1.2.2.2.2.2.1.2.2.2.1.1,vs y0.1.2.2.2.2.2.1.2.2.2.1.2,sv p1 y0.1.2.2.2.2.2.1.2.2.2.2 c1,vb y0.1.2.2.2.2.2.2.1.1,vs y0.1.2.2.2.2.2.2.1.2,vi y0.1.2.2.2.2.2.2.2.1.1,vi y0.1.2.2.2.2.2.2.2.1.2,vi y0.1.2.2.2.2.2.2.2.2.1.1,vi y0.1.2.2.2.2.2.2.2.2.1.2.1,vi y0.1.2.2.2.2.2.2.2.2.1.2.2.1,vi y0.1.2.2.2.2.2.2.2.2.1.2.2.2,vi ((fv y0.1.2.2.2.2.2.2.2.2.2).1),vs ((fv y0.1.2.2.2.2.2.2.2.2.2).2.1),sv p2 ((fv y0.1.2.2.2.2.2.2.2.2.2).2.2) c2,sv p3 y0.2.1 c3,vb y0.2.2],r_1] (xV y0.1 p1 c1 p2 c2 [Al wD 9 r_1 p3 c3 y0.2.1,Tb prog "internal/strconv.uint64pow10" .u64 Lib.pow10Tab]) (zCI y0) fun r K=>∀ p4 c4 r_2,K (.tuple #[]) [bx b1 108 [vi y0.1.1,vi y0.1.2.1,vi y0.1.2.2.1,vi y0.1.2.2.2.1,vs y0.1.2.2.2.2.1,vi y0.1.2.2.2.2.2.1.1,vi y0.1.2.2.2.2.2.1.2.1,vi y0.1.2.2.2.2.2.1.2.2.1,vb y0.1.2.2.2.2.2.1.2.2.2.1.1,vs y0.1.2.2.2.2.2.1.2.2.2.1.2,sv p1 y0.1.2.2.2.2.2.1.2.2.2.2 c1,vb y0.1.2.2.2.2.2.2.1.1,vs y0.1.2.2.2.2.2.2.1.2,vi y0.1.2.2.2.2.2.2.2.1.1,vi y0.1.2.2.2.2.2.2.2.1.2,vi y0.1.2.2.2.2.2.2.2.2.1.1,vi y0.1.2.2.2.2.2.2.2.2.1.2.1,vi y0.1.2.2.2.2.2.2.2.2.1.2.2.1,vi y0.1.2.2.2.2.2.2.2.2.1.2.2.2,vi ((fv y0.1.2.2.2.2.2.2.2.2.2).1),vs ((fv y0.1.2.2.2.2.2.2.2.2.2).2.1),sv p2 ((fv y0.1.2.2.2.2.2.2.2.2.2).2.2) c2,sv p4 r.1 c4,vb r.2],r_2] [Al wD 9 r_2 p4 c4 r.1] :=
 zS call66 func66 u fun X=>hI 1 2 1 (fun(s1:(List zA)×Bool) K=>∀ p4 c4 r_2,K [0,2,3] [(0,.c [(22,sv p4 s1.1 c4),(23,vb s1.2)]),(1,.r r_2)] [0,1,3] [] [Al wD 9 r_2 p4 c4 s1.1])<|hI 1 17 0 (fun(s2:Bool) K=>K [0,2] [(0,.c [(23,vb s2)])] [3,4,0,5] [] [])<|hI 0 19 1 (fun(s3:Int×(List zA)×Bool) K=>∀ p13 c13 r_10,K [0,70,71] [(0,.c [(22,sv p13 s3.2.1 c13),(23,vb s3.2.2)]),(1,.r r_10),(2,.r [])] [0,1,3] [(72,vi s3.1)] [Al wD 9 r_10 p13 c13 s3.2.1])<|
 au
abbrev zNB:=@Cn.mk 66 0 _ @zNO
theorem zGy{y0:Int}: zN qd prog 118 [.int .i32 y0] [] [] (zBF y0) fun r K=>K (vb r) [] [] :=
 zS call118 func118 u fun X=>hP 4 1 0 (fun K=>K [] [] [] [(2,vb ((decide (y0<32))||(decide (126<y0))))] [])<|
 au
abbrev zKs:=@Cn.mk 118 0 _ @zGy
theorem zEW{y0:zA}{y1:Bool}: zN False prog 216 [vs y0,.func (.func 118) #[] #[],vb y1] [] [] (zBE y0 y1) fun r K=>K (vi r) [] []:=z52 Go.Proofs.Tryz.lays315 (fun y=>zGy (y0:=y)) call216
abbrev zEY:=@Cn.mk 216 0 _ @zEW
attribute [instance] zK3 zMW zNB zKs zEY
theorem zEU{y0:zA}: zN False prog 178 [vs y0,.func (.func 118) #[] #[]] [] [] (zBC y0) fun r K=>K (vi r) [] [] :=
 zS call178 func178 u fun X=>
 au
abbrev zE0:=@Cn.mk 178 0 _ @zEU
attribute [instance] zE0
theorem zDX{y0:zA}: zN False prog 117 [vs y0,.func (.func 118) #[] #[]] [] [] (zAd y0) fun r K=>K (vb r) [] [] :=
 zS call117 func117 u fun X=>
 au
abbrev zDZ:=@Cn.mk 117 0 _ @zDX
attribute [instance] zDZ
theorem zM4{y0:zAQ}: zN False prog 65 [pt b1 0] [bx b1 108 [vi y0.1.1,vi y0.1.2.1,vi y0.1.2.2.1,vi y0.1.2.2.2.1,vs y0.1.2.2.2.2.1,vi y0.1.2.2.2.2.2.1.1,vi y0.1.2.2.2.2.2.1.2.1,vi y0.1.2.2.2.2.2.1.2.2.1,vb y0.1.2.2.2.2.2.1.2.2.2.1.1,vs y0.1.2.2.2.2.2.1.2.2.2.1.2,sv p1 y0.1.2.2.2.2.2.1.2.2.2.2 c1,vb y0.1.2.2.2.2.2.2.1.1,vs y0.1.2.2.2.2.2.2.1.2,vi y0.1.2.2.2.2.2.2.2.1.1,vi y0.1.2.2.2.2.2.2.2.1.2,vi y0.1.2.2.2.2.2.2.2.2.1.1,vi y0.1.2.2.2.2.2.2.2.2.1.2.1,vi y0.1.2.2.2.2.2.2.2.2.1.2.2.1,vi y0.1.2.2.2.2.2.2.2.2.1.2.2.2,vi ((fv y0.1.2.2.2.2.2.2.2.2.2).1),vs ((fv y0.1.2.2.2.2.2.2.2.2.2).2.1),sv p2 ((fv y0.1.2.2.2.2.2.2.2.2.2).2.2) c2,sv p3 y0.2.1 c3,vb y0.2.2],r_1] (xV y0.1 p1 c1 p2 c2 [Al wD 9 r_1 p3 c3 y0.2.1]) (zCW y0) fun r K=>∀ p4 c4 r_2,K (.tuple #[]) [bx b1 108 [vi y0.1.1,vi y0.1.2.1,vi y0.1.2.2.1,vi y0.1.2.2.2.1,vs y0.1.2.2.2.2.1,vi y0.1.2.2.2.2.2.1.1,vi y0.1.2.2.2.2.2.1.2.1,vi y0.1.2.2.2.2.2.1.2.2.1,vb y0.1.2.2.2.2.2.1.2.2.2.1.1,vs y0.1.2.2.2.2.2.1.2.2.2.1.2,sv p1 y0.1.2.2.2.2.2.1.2.2.2.2 c1,vb y0.1.2.2.2.2.2.2.1.1,vs y0.1.2.2.2.2.2.2.1.2,vi y0.1.2.2.2.2.2.2.2.1.1,vi y0.1.2.2.2.2.2.2.2.1.2,vi y0.1.2.2.2.2.2.2.2.2.1.1,vi y0.1.2.2.2.2.2.2.2.2.1.2.1,vi y0.1.2.2.2.2.2.2.2.2.1.2.2.1,vi y0.1.2.2.2.2.2.2.2.2.1.2.2.2,vi ((fv y0.1.2.2.2.2.2.2.2.2.2).1),vs ((fv y0.1.2.2.2.2.2.2.2.2.2).2.1),sv p2 ((fv y0.1.2.2.2.2.2.2.2.2.2).2.2) c2,sv p4 r.1 c4,vb r.2],r_2] [Al wD 9 r_2 p4 c4 r.1] :=
 zS call65 func65 u fun X=>hI 1 1 0 (fun(s1:Bool) K=>K [0,2] [(0,.c [(23,vb s1)])] [0,1,2] [] [])<|
 au
abbrev zMT:=@Cn.mk 65 0 _ @zM4
attribute [instance] zMT
theorem zH4{y0:zAQ}: zN False prog 33 [pt b1 0] [bx b1 108 [vi y0.1.1,vi y0.1.2.1,vi y0.1.2.2.1,vi y0.1.2.2.2.1,vs y0.1.2.2.2.2.1,vi y0.1.2.2.2.2.2.1.1,vi y0.1.2.2.2.2.2.1.2.1,vi y0.1.2.2.2.2.2.1.2.2.1,vb y0.1.2.2.2.2.2.1.2.2.2.1.1,vs y0.1.2.2.2.2.2.1.2.2.2.1.2,sv p1 y0.1.2.2.2.2.2.1.2.2.2.2 c1,vb y0.1.2.2.2.2.2.2.1.1,vs y0.1.2.2.2.2.2.2.1.2,vi y0.1.2.2.2.2.2.2.2.1.1,vi y0.1.2.2.2.2.2.2.2.1.2,vi y0.1.2.2.2.2.2.2.2.2.1.1,vi y0.1.2.2.2.2.2.2.2.2.1.2.1,vi y0.1.2.2.2.2.2.2.2.2.1.2.2.1,vi y0.1.2.2.2.2.2.2.2.2.1.2.2.2,vi ((fv y0.1.2.2.2.2.2.2.2.2.2).1),vs ((fv y0.1.2.2.2.2.2.2.2.2.2).2.1),sv p2 ((fv y0.1.2.2.2.2.2.2.2.2.2).2.2) c2,sv p3 y0.2.1 c3,vb y0.2.2],r_1] (xV y0.1 p1 c1 p2 c2 [Al wD 9 r_1 p3 c3 y0.2.1,Pt (z0U 9 wD) 0 0 zA0,Tb prog "internal/strconv.uint64pow10" .u64 Lib.pow10Tab]) (xI y0) fun r K=>∀ p4 c4 r_2,K (.tuple #[]) [bx b1 108 [vi y0.1.1,vi y0.1.2.1,vi y0.1.2.2.1,vi y0.1.2.2.2.1,vs y0.1.2.2.2.2.1,vi y0.1.2.2.2.2.2.1.1,vi y0.1.2.2.2.2.2.1.2.1,vi y0.1.2.2.2.2.2.1.2.2.1,vb y0.1.2.2.2.2.2.1.2.2.2.1.1,vs y0.1.2.2.2.2.2.1.2.2.2.1.2,sv p1 y0.1.2.2.2.2.2.1.2.2.2.2 c1,vb y0.1.2.2.2.2.2.2.1.1,vs y0.1.2.2.2.2.2.2.1.2,vi y0.1.2.2.2.2.2.2.2.1.1,vi y0.1.2.2.2.2.2.2.2.1.2,vi y0.1.2.2.2.2.2.2.2.2.1.1,vi y0.1.2.2.2.2.2.2.2.2.1.2.1,vi y0.1.2.2.2.2.2.2.2.2.1.2.2.1,vi y0.1.2.2.2.2.2.2.2.2.1.2.2.2,vi ((fv y0.1.2.2.2.2.2.2.2.2.2).1),vs ((fv y0.1.2.2.2.2.2.2.2.2.2).2.1),sv p2 ((fv y0.1.2.2.2.2.2.2.2.2.2).2.2) c2,sv p4 r.1 c4,vb r.2],r_2] [Al wD 9 r_2 p4 c4 r.1] :=
 zS call33 func33 u fun X=>zG<|zB 2 u<|zO 0 u<|zO 0 u<|qJ 0 u u u<|zI<|qP<|jA 2 u<|zW u (
 au
)<|jA 2 u<|zW u (
 au
)<|jA 2 u<|zW u (
 au
)<|jA 2 u<|zW u (
 au
)<|jA 2 u<|zW u (zG<|zB 1 u<|qA .s [0,1] [] zH1 u u u ⟨ck 0,ck 1,ck 2,cn,ck 4,d⟩<|fun r7 _ k p10 c10 r_8=>k<|zI<|zG<|zB 3 u<|zO 0 u<|zO 11 u<|
  qV 0 2 u u u<|wG zKl u d<|fun r8 _ k=>k<|qA .s [0,1] [] zFd u u u (cq [1,2,0])<|fun r9 _ k p11 c11 r_9=>k<|zI<|uG [14] [0] 15<|zQ 12 [0,1,2] u<|qK 3 0 u u<|
  qK 4 13 u u<|xN (v:=pt b1 13) 5 u (fun h=>zNi (k:=2) (sz:=1) h u u (by kernel_rfl) (by decide) u)<|wO 6 0 u u u u<|zQ 6 [7,8] u<|qK 9 0 u u<|qK 10 13 u u<|
  xN (v:=pt b1 14) 11 u (fun h=>zNi (k:=2) (sz:=1) h u u (by kernel_rfl) (by decide) u)<|wO 12 0 u u u u<|zT 13<|
  uR (.f u) (e:=zR .i64) 3 [vi y0.1.2.2.2.2.2.2.2.1.1,vi y0.1.2.2.2.2.2.2.2.1.2] ([y0.1.2.2.2.2.2.2.2.1.1,y0.1.2.2.2.2.2.2.2.1.2]:List Int) (rC vI (rC vI rN))<|fun p12 c12=>zM<|zT 14<|
  qA (.f u) [0,1] [] zG8 u u u (cq [3,4,1,0,7])<|fun r10 _ k p13 c13 r_10=>k<|jdb [] [0]<|qI<|
 au
)<|
 au
abbrev zL6:=@Cn.mk 33 0 _ @zH4
theorem zMo{y0:List zA}{y1:zA}: zN False prog 34 [sv p1 y0 c1,vs y1] [] [Rl wD p1 c1 y0] (zDA y0 y1) fun r K=>K (vs r) [] []:=z4h Go.Proofs.Tryz.lays156 Go.Proofs.Tryz.Builder_Extra_156 call34
abbrev zTc:=@Cn.mk 34 0 _ @zMo
theorem zHp{y0:qZ}: zN False prog 11 [.agg (zAg y0 p1 c1 p2 c2).toArray] [] (xV y0 p1 c1 p2 c2 [Pt (z0U 9 wD) 0 0 zA0,vW 2,vW 3,Tb prog "internal/strconv.uint64pow10" .u64 Lib.pow10Tab]) (zBO y0) fun r K=>K (.tuple #[vs r.1,vi r.2]) [] [] :=
 zS call11 func11 u fun X=>zG<|yB .s u<|fun b1=>zB 2 u<|zI<|zY<|z1H (fun K=>K [1] [] [0,1,2,3,4,5] [(15,vb ((decide (y0.1<1))||(decide (10<y0.1))))] []) (
  vD<|zO 0 u<|qJ 0 u u u<|zB 2 u<|jsp (b:=decide (y0.1<1)) 11 u (fun hb1=>zB 3 u<|zL (vb true)<|wH<|jup 15 (vb ((decide (y0.1<1))||(decide (10<y0.1)))) u (by rw[hb1];rfl)<|
  qB (gv kk [0] (gq [0,1,2,3,4,5])))<|fun hb1=>zO 0 u<|qJ 0 u u u<|zB 1 u<|zL (vb (decide (10<y0.1)))<|wH<|jup 15 (vb ((decide (y0.1<1))||(decide (10<y0.1)))) u (by rw[hb1];rfl)<|
  qB (gv kk [0] (gq [0,1,2,3,4,5])))<|fun _ k=>k<|zW u (jA 2 u<|wC<|xY<|tQ u (lT u (lT u lN)) kk [] d)<|jC<|zG<|qV 0 22 u u u<|
  zL (.agg #[vi y0.1,vi y0.2.1,vi y0.2.2.1,vi y0.2.2.2.1,vs (a4 y0).1,vi (a5 y0).1.1,vi (a5 y0).1.2.1,vi (a5 y0).1.2.2.1,vb (a5 y0).1.2.2.2.1.1,vs (a5 y0).1.2.2.2.1.2,sv p1 (a5 y0).1.2.2.2.2 c1,vb (a6 y0).1.1,vs (a6 y0).1.2,vi (a7 y0).1.1,vi (a7 y0).1.2,vi (a8 y0).1.1,vi (a8 y0).1.2.1,vi (a8 y0).1.2.2.1,vi (a8 y0).1.2.2.2,vi ((fv (a9 y0)).1),vs ((fv (a9 y0)).2.1),sv p2 ((fv (a9 y0)).2.2) c2,.slice none 0 0,vb false])<|
  yO wD 9<|yB .s u<|fun b2=>zB 1 u<|zI<|zG<|zB 1 u<|qA .s [2,1] [] zH4 u u u (cq [1,2,0,3,6])<|fun r1 _ k p3 c3 r_1=>k<|zI<|zY<|zG<|zB 2 u<|zO 23 u<|qJ 2 u u u<|zI<|zW u (jA 2 u<|
  wC<|xY<|tQ u (lT u (lT u lN)) kk [] d)<|jC<|zG<|zB 2 u<|zO 22 u<|qJ 2 u u u<|qA .s [] [1] zMo u u u ⟨cl 1 0,d⟩<|fun r2 _ k=>k<|zB 1 u<|zI<|zY<|zG<|zB 1 u<|
  wG zKV u (cq [5,6,7])<|fun r3 _ k p4 c4 p5 c5=>k<|zB 3 u<|
  qN .s (.agg k0)<|fun b3=>zV .s 3 u u u<|zB 1 u<|zI<|
  qX (fun s1 K=>K [5] [(0,[]),(1,[]),(2,[]),(3,[])] [6,7,8,9] [(42,vb s1)] []) (vD<|zB 3 u<|wM 37 u (zB 4 u<|zL (vb true)<|wH<|
  qB (gv kk [900,901,902,903] (gq [6,7,8,9])))<|qV 3 22 u u u<|qV 0 22 u u u<|wG zOm u (cq [0,1,4,5])<|fun r4 _ k=>k<|zB 1 u<|zL (vb (!r4))<|wH<|qB (gv kk [900,901,902,903] (gq [6,7,8,9]))
  )<|fun s1 _ k=>k<|zW u (jA 2 u<|wC<|xY<|tQ u (lT u (lT u lN)) kk [] d)<|jC<|jA 3 u<|wC<|tQ u (lT u (lT u lN)) kk [] d
abbrev zVD:=@Cn.mk 11 0 _ @zHp
attribute [instance] zL6 zTc zVD
theorem zCy{y0:zA}: zN False prog 14 [vs y0] [] [Pt (z0U 9 wD) 0 0 zA0,vW 2,vW 3,Tb prog "internal/strconv.uint64pow10" .u64 Lib.pow10Tab] (zA4 y0) fun r K=>∀ p1 c1 p2 c2,K (.tuple #[.agg (zAg r.1 p1 c1 p2 c2).toArray,vi r.2]) [] (xV r.1 p1 c1 p2 c2 []) :=
 zS call14 func14 u fun X=>zG<|qN .s (.agg k0)<|fun b1=>zB 1 u<|zI<|zG<|zB 1 u<|
  wG zKV u (cq [1,2,3])<|fun r1 _ k p1 c1 p2 c2=>k<|zB 3 u<|
  qN .s (.agg k0)<|fun b2=>zV .s 1 u u u<|zB 1 u<|zI<|zY<|
  jA 2 u<|zW u (
 au
)<|jC<|zY<|zG<|qV 1 22 u u u<|wG zHp u (cq [0,1,2,3,4,5])<|fun r2 _ k=>k<|hP 4 5 0 (fun K=>K [2,4] [] [0,1,2,3,4,5] [(27,vb ((r2.2 != 0)||(!(r2.1==y0))))] [])<|
 au
abbrev zOv:=@Cn.mk 14 0 _ @zCy
attribute [instance] zOv
theorem zKI:zN False prog 5 [] [] [Pt (z0U 9 wD) 0 0 zA0,vW 2,vW 3,Tb prog "internal/strconv.uint64pow10" .u64 Lib.pow10Tab] (zFX) fun r K=>K (vb r) [] [] :=
 zS call5 func5 u fun X=>jA 1 u<|zG<|wG zCy rfl (cq [0,1,2,3])<|fun r1 _ k p1 c1 p2 c2=>k<|zB 3 u<|
  qN .s (.agg k0)<|fun b1=>zV .s 0 u u u<|zB 1 u<|zI<|zG<|
  wG zCy rfl (cq [2,3,4,5])<|fun r2 _ k p3 c3 p4 c4=>k<|zB 3 u<|
  qN .s (.agg k0)<|fun b2=>zV .s 1 u u u<|zB 1 u<|zI<|zG<|
  wG zCy rfl (cq [4,5,6,7])<|fun r3 _ k p5 c5 p6 c6=>k<|zB 3 u<|
  qN .s (.agg k0)<|fun b3=>zV .s 2 u u u<|zB 1 u<|zI<|zG<|
  qV 1 22 u u u<|wG zHp u (cq [2,3,6,7,8,9])<|fun r4 _ k=>k<|hP 4 5 0 (fun K=>K [] [(0,.r []),(1,.r []),(2,.r [])] [6,7,8,9] [(0,vb ((r1.2==0)&&((r2.2==0)&&((r3.2==3)&&((r4.2==0)&&((r1.1.1==4)&&((r1.1.2.2.2.2.2.1.1==3)&&(((len r1.1.2.2.2.2.2.1.2.2.2.2)==2)&&((r2.1.2.2.2.1==2)&&(r2.1.2.2.2.2.2.2.1.1&&(r4.1==[100,101,99,105,100,101,32,49,32,50,32,126,112])))))))))))] [])<|
 au
abbrev zVW:=@Cn.mk 5 0 _ @zKI
attribute [instance] zVW
theorem zPa (k:Nat):
    (∀ {y0:zC} {p1:Option Addr} {c1:Nat} {y1:Int},zN qd prog 44 [.agg #[vi ((fv y0).1),vs ((fv y0).2.1),sv p1 ((fv y0).2.2) c1],vi y1] [] [Rl qD p1 c1 ((fv y0).2.2)] (zCq k y0 y1) fun r K=>K (vi r) [] []):=by
  induction k with
  | zero=>exact uP call44
  | succ k ih =>
    have ih_keep_Levels:=@ih
    have zO6:=@Cn.mk 44 0 _ (@ih_keep_Levels)
    exact @fun y0 p1 c1 y1=>zS (m1:=zFW (zCq k) y0 y1) call44 func44 u fun X=>hI 0 5 1 (fun(s1:Int×Int) K=>K [1,2,11] [] [0] [(5,vi s1.1),(12,vi s1.2)] [])<|
 au
theorem zV3{y0:zC}{y1:Int}: zN qd prog 44 [.agg #[vi ((fv y0).1),vs ((fv y0).2.1),sv p1 ((fv y0).2.2) c1],vi y1] [] [Rl qD p1 c1 ((fv y0).2.2)] (zKP y0 y1) fun r K=>K (vi r) [] []:=uO fun k=>(zPa k)
abbrev zO6:=@Cn.mk 44 0 _ @zV3
attribute [instance] zO6
theorem zQs (k:Nat):
    (∀ {y0:zC} {p1:Option Addr} {c1:Nat} {y1:Int},zN qd prog 43 [.agg #[vi ((fv y0).1),vs ((fv y0).2.1),sv p1 ((fv y0).2.2) c1],vi y1] [] [Rl qD p1 c1 ((fv y0).2.2)] (zGT k y0 y1) fun r K=>K (vi r) [] []):=by
  induction k with
  | zero=>exact uP call43
  | succ k ih =>
    have ih_keep_Nodes:=@ih
    have zQE:=@Cn.mk 43 0 _ (@ih_keep_Nodes)
    exact @fun y0 p1 c1 y1=>zS (m1:=zQJ (zGT k) y0 y1) call43 func43 u fun X=>hI 0 3 1 (fun(s1:Int×Int) K=>K [1,2,9] [] [0] [(5,vi s1.1),(10,vi s1.2)] [])<|
 au
theorem zWi{y0:zC}{y1:Int}: zN qd prog 43 [.agg #[vi ((fv y0).1),vs ((fv y0).2.1),sv p1 ((fv y0).2.2) c1],vi y1] [] [Rl qD p1 c1 ((fv y0).2.2)] (zLp y0 y1) fun r K=>K (vi r) [] []:=uO fun k=>(zQs k)
abbrev zQE:=@Cn.mk 43 0 _ @zWi
attribute [instance] zQE
theorem zQo (k:Nat):
    (∀ {y0:zC} {p1:Option Addr} {c1:Nat},zN qd prog 45 [.agg #[vi ((fv y0).1),vs ((fv y0).2.1),sv p1 ((fv y0).2.2) c1]] [] [Rl qD p1 c1 ((fv y0).2.2)] (zD2 k y0) fun r K=>K (vb r) [] []):=by
  induction k with
  | zero=>exact uP call45
  | succ k ih =>
    have ih_keep_short:=@ih
    have zQO:=@Cn.mk 45 0 _ (@ih_keep_short)
    exact @fun y0 p1 c1=>zS (m1:=zQN (zD2 k) y0) call45 func45 u fun X=>hI 0 4 1 (fun(s1:Int) K=>K [1,10] [] [0] [(11,vi s1)] [])<|
 au
theorem zWK{y0:zC}: zN qd prog 45 [.agg #[vi ((fv y0).1),vs ((fv y0).2.1),sv p1 ((fv y0).2.2) c1]] [] [Rl qD p1 c1 ((fv y0).2.2)] (zLf y0) fun r K=>K (vb r) [] []:=uO fun k=>(zQo k)
abbrev zQO:=@Cn.mk 45 0 _ @zWK
attribute [instance] zQO
theorem zNc{y0:zC}: zN qd prog 17 [.agg #[vi ((fv y0).1),vs ((fv y0).2.1),sv p1 ((fv y0).2.2) c1]] [] [Rl qD p1 c1 ((fv y0).2.2)] (zDj y0) fun r K=>K (vb r) [] [] :=
 zS call17 func17 u fun X=>hI 1 1 0 (fun(s1:Bool) K=>K [] [(0,.r [])] [] [(2,vb s1)] [])<|
 au
abbrev zNG:=@Cn.mk 17 0 _ @zNc
attribute [instance] zNG
theorem zOW{y0:qZ}: zN qd prog 4 [.agg (zAg y0 p1 c1 p2 c2).toArray] [] (xV y0 p1 c1 p2 c2 []) (zHx y0) fun r K=>K (vb r) [] [] :=
 zS call4 func4 u fun X=>hI 1 1 0 (fun(s1:Bool) K=>K [] [(0,.r [])] [] [(2,vb s1)] [])<|
 au
abbrev zU7:=@Cn.mk 4 0 _ @zOW
attribute [instance] zU7
theorem zRC (k:Nat):
    (∀ {y0:zC} {p1:Option Addr} {c1:Nat} {y1:zC} {p2:Option Addr} {c2:Nat},zN qd prog 42 [.agg #[vi ((fv y0).1),vs ((fv y0).2.1),sv p1 ((fv y0).2.2) c1],.agg #[vi ((fv y1).1),vs ((fv y1).2.1),sv p2 ((fv y1).2.2) c2]] [] [Rl qD p1 c1 ((fv y0).2.2),Rl qD p2 c2 ((fv y1).2.2)] (zD0 k y0 y1) fun r K=>K (vb r) [] []):=by
  induction k with
  | zero=>exact uP call42
  | succ k ih =>
    have ih_ref02_Same:=@ih
    have zQV:=@Cn.mk 42 0 _ (@ih_ref02_Same)
    exact @fun y0 p1 c1 y1 p2 c2=>zS (m1:=zQR (zD0 k) y0 y1) call42 func42 u fun X=>hD 6 [] [0,1] (.l [0,1,2,3,4,5,6,7,8,9] (.f 10 (.l [11] .e)))<|hP 4 1 0 (fun K=>K [2,3] [] [0,1] [(26,vb ((((fv y0).1) != ((fv y1).1))||((!(((fv y0).2.1)==((fv y1).2.1)))||((len ((fv y0).2.2)) != (len ((fv y1).2.2))))))] [])<|hI 0 4 2 (fun(s1:Int) K=>K [2,3] [] [0,1] [(5,vi s1)] [])<|
 au
theorem zPr{y0:zC}{y1:zC}: zN qd prog 42 [.agg #[vi ((fv y0).1),vs ((fv y0).2.1),sv p1 ((fv y0).2.2) c1],.agg #[vi ((fv y1).1),vs ((fv y1).2.1),sv p2 ((fv y1).2.2) c2]] [] [Rl qD p1 c1 ((fv y0).2.2),Rl qD p2 c2 ((fv y1).2.2)] (zLl y0 y1) fun r K=>K (vb r) [] []:=uO fun k=>(zRC k)
abbrev zQV:=@Cn.mk 42 0 _ @zPr
theorem zIQ{y0:List zE}{y1:List zE}: zN qd prog 41 [sv p1 y0 c1,sv p2 y1 c2] [] [Rl qU p1 c1 y0,Rl qU p2 c2 y1] (zGL y0 y1) fun r K=>K (vb r) [] [] :=
 zS call41 func41 u fun X=>jA 1 u<|zY<|jA 5 u<|zW u (jA 1 u<|wC<|xY<|xJ u u kk [] d)<|jC<|zY<|jA 1 u<|qP<|vN (fun s1 K=>K [0,1] [] [0,1] [(5,vi s1)] []) (gv kk [] (gq [0,1]))<|
  fun s1 _ k=>k<|zY<|jA 4 u<|zW u (jC<|zY<|qP<|jds [] [] 9<|zQ 7 [0,1] u<|jdi 2 0 u u u u<|fun x1 b1 o1=>jdl 3 true zBA u (gk 0) u<|zQ 3 [4,5] u<|jdi 6 2 u u u u<|fun x2 b2 o2=>
  jdl 7 true zBA u (gk 0) u<|qS 8 (vb (!(x1==x2))) u<|qI<|wS<|zW u (jA 1 u<|wC<|jbr<|xY<|jlr<|jbr<|xY<|xJ u u kk [] d)<|uW<|yT<|wS<|jB 3 u<|jln (gv kk [] (gq [2,3])))<|uV<|uU<|uX<|
  uZ<|wS<|jA 1 u<|wC<|xJ u u kk [] d
abbrev zNk:=@Cn.mk 41 0 _ @zIQ
theorem zQB{y0:qZ}{y1:qZ}: zN qd prog 16 [.agg (zAg y0 p1 c1 p2 c2).toArray,.agg (zAg y1 p3 c3 p4 c4).toArray] [] (xV y0 p1 c1 p2 c2 (xV y1 p3 c3 p4 c4 [])) (zFI y0 y1) fun r K=>K (vb r) [] [] :=
 zS call16 func16 u fun X=>zG<|yB .s u<|fun b1=>yB .s u<|fun b2=>zB 1 u<|zI<|jjn (fun s1 K=>K [(4,vb s1)] [[],[]] []) (vD<|zO 0 u<|qJ 0 u u u<|zO 0 u<|qJ 1 u u u<|
  zB 2 u<|wM 10 u (zO 1 u<|qJ 0 u u u<|zO 1 u<|qJ 1 u u u<|zB 1 u<|zL (vb (y0.2.1==y1.2.1))<|zB 1 u<|wM 17 u (zO 2 u<|qJ 0 u u u<|zO 2 u<|qJ 1 u u u<|zB 1 u<|
  zL (vb (y0.2.2.1==y1.2.2.1))<|zB 1 u<|wM 24 u (zO 3 u<|qJ 0 u u u<|zO 3 u<|qJ 1 u u u<|zB 1 u<|zL (vb (y0.2.2.2.1==y1.2.2.2.1))<|zB 1 u<|wM 31 u (zO 4 u<|qJ 0 u u u<|zO 4 u<|
  qJ 1 u u u<|zB 1 u<|zL (vb ((a4 y0).1==(a4 y1).1))<|zB 1 u<|wM 38 u (zO 5 u<|zO 0 u<|qJ 0 u u u<|zO 5 u<|zO 0 u<|qJ 1 u u u<|zB 1 u<|zL (vb ((a5 y0).1.1==(a5 y1).1.1))<|
  zB 1 u<|wM 47 u (zO 5 u<|zO 1 u<|qJ 0 u u u<|zO 5 u<|zO 1 u<|qJ 1 u u u<|zB 1 u<|zL (vb ((a5 y0).1.2.1==(a5 y1).1.2.1))<|zB 1 u<|wM 56 u (zO 5 u<|zO 2 u<|qJ 0 u u u<|
  zO 5 u<|zO 2 u<|qJ 1 u u u<|zB 1 u<|zL (vb ((a5 y0).1.2.2.1==(a5 y1).1.2.2.1))<|zB 1 u<|wM 65 u (zO 5 u<|zO 3 u<|qV 0 2 u u u<|zO 5 u<|zO 3 u<|qV 1 2 u u u<|
  zL (vb ((a5 y0).1.2.2.2.1==(a5 y1).1.2.2.2.1))<|zL (vb ((a5 y0).1.2.2.2.1==(a5 y1).1.2.2.2.1))<|zB 1 u<|wM 74 u (zO 5 u<|zO 5 u<|qJ 0 u u u<|zO 5 u<|zO 5 u<|qJ 1 u u u<|
  wG zIQ u (cq [0,2])<|fun r1 _ k=>k<|zL (vb r1)<|zB 1 u<|wM 83 u (zO 11 u<|qV 0 2 u u u<|zO 11 u<|qV 1 2 u u u<|zL (vb ((a6 y0).1==(a6 y1).1))<|
  zL (vb ((a6 y0).1==(a6 y1).1))<|zB 1 u<|wM 90 u (zO 13 u<|qV 0 2 u u u<|zO 13 u<|qV 1 2 u u u<|
  jv (v:=vb ((a7 y0).1==(a7 y1).1)) (fun h=>z5x h u u underlying27 underlying3 (by kernel_rfl) (by kernel_rfl) (by kernel_rfl) (by kernel_rfl))<|zL (vb ((a7 y0).1==(a7 y1).1))<|
  zB 1 u<|wM 97 u (zO 15 u<|qV 0 4 u u u<|zO 15 u<|qV 1 4 u u u<|zL (vb ((a8 y0).1==(a8 y1).1))<|zL (vb ((a8 y0).1==(a8 y1).1))<|zB 1 u<|wM 104 u (zO 19 u<|
  qV 0 3 u u u<|zO 19 u<|qV 1 3 u u u<|wG zPr u (cq [1,3])<|fun r2 _ k=>k<|zL (vb r2)<|zB 1 u<|wH<|qB (gv kk [900,901] d))<|zB 5 u<|zL (vb false)<|zB 1 u<|wH<|
  qB (gv kk [900,901] d))<|zB 5 u<|zL (vb false)<|zB 6 u<|zL (vb false)<|zB 1 u<|wH<|qB (gv kk [900,901] d))<|zB 5 u<|zL (vb false)<|zB 6 u<|zL (vb false)<|zB 6 u<|zL (vb false)<|zB 1 u<|
  wH<|qB (gv kk [900,901] d))<|zB 5 u<|zL (vb false)<|zB 6 u<|zL (vb false)<|zB 6 u<|zL (vb false)<|zB 6 u<|zL (vb false)<|zB 1 u<|wH<|qB (gv kk [900,901] d))<|zB 7 u<|zL (vb false)<|
  zB 6 u<|zL (vb false)<|zB 6 u<|zL (vb false)<|zB 6 u<|zL (vb false)<|zB 6 u<|zL (vb false)<|zB 1 u<|wH<|qB (gv kk [900,901] d))<|zB 7 u<|zL (vb false)<|zB 8 u<|zL (vb false)<|zB 6 u<|
  zL (vb false)<|zB 6 u<|zL (vb false)<|zB 6 u<|zL (vb false)<|zB 6 u<|zL (vb false)<|zB 1 u<|wH<|qB (gv kk [900,901] d))<|zB 7 u<|zL (vb false)<|zB 8 u<|zL (vb false)<|zB 8 u<|zL (vb false)<|
  zB 6 u<|zL (vb false)<|zB 6 u<|zL (vb false)<|zB 6 u<|zL (vb false)<|zB 6 u<|zL (vb false)<|zB 1 u<|wH<|qB (gv kk [900,901] d))<|zB 7 u<|zL (vb false)<|zB 8 u<|zL (vb false)<|zB 8 u<|
  zL (vb false)<|zB 8 u<|zL (vb false)<|zB 6 u<|zL (vb false)<|zB 6 u<|zL (vb false)<|zB 6 u<|zL (vb false)<|zB 6 u<|zL (vb false)<|zB 1 u<|wH<|qB (gv kk [900,901] d))<|zB 7 u<|zL (vb false)<|
  zB 8 u<|zL (vb false)<|zB 8 u<|zL (vb false)<|zB 8 u<|zL (vb false)<|zB 8 u<|zL (vb false)<|zB 6 u<|zL (vb false)<|zB 6 u<|zL (vb false)<|zB 6 u<|zL (vb false)<|zB 6 u<|zL (vb false)<|zB 1 u<|wH<|
  qB (gv kk [900,901] d))<|zB 5 u<|zL (vb false)<|zB 8 u<|zL (vb false)<|zB 8 u<|zL (vb false)<|zB 8 u<|zL (vb false)<|zB 8 u<|zL (vb false)<|zB 8 u<|zL (vb false)<|zB 6 u<|zL (vb false)<|zB 6 u<|
  zL (vb false)<|zB 6 u<|zL (vb false)<|zB 6 u<|zL (vb false)<|zB 1 u<|wH<|qB (gv kk [900,901] d))<|zB 5 u<|zL (vb false)<|zB 6 u<|zL (vb false)<|zB 8 u<|zL (vb false)<|zB 8 u<|zL (vb false)<|
  zB 8 u<|zL (vb false)<|zB 8 u<|zL (vb false)<|zB 8 u<|zL (vb false)<|zB 6 u<|zL (vb false)<|zB 6 u<|zL (vb false)<|zB 6 u<|zL (vb false)<|zB 6 u<|zL (vb false)<|zB 1 u<|wH<|qB (gv kk [900,901] d)
  )<|zB 5 u<|zL (vb false)<|zB 6 u<|zL (vb false)<|zB 6 u<|zL (vb false)<|zB 8 u<|zL (vb false)<|zB 8 u<|zL (vb false)<|zB 8 u<|zL (vb false)<|zB 8 u<|zL (vb false)<|zB 8 u<|zL (vb false)<|zB 6 u<|
  zL (vb false)<|zB 6 u<|zL (vb false)<|zB 6 u<|zL (vb false)<|zB 6 u<|zL (vb false)<|zB 1 u<|wH<|qB (gv kk [900,901] d))<|zB 5 u<|zL (vb false)<|zB 6 u<|zL (vb false)<|zB 6 u<|zL (vb false)<|
  zB 6 u<|zL (vb false)<|zB 8 u<|zL (vb false)<|zB 8 u<|zL (vb false)<|zB 8 u<|zL (vb false)<|zB 8 u<|zL (vb false)<|zB 8 u<|zL (vb false)<|zB 6 u<|zL (vb false)<|zB 6 u<|zL (vb false)<|zB 6 u<|
  zL (vb false)<|zB 6 u<|zL (vb false)<|zB 1 u<|wH<|qB (gv kk [900,901] d))<|fun s1 _ k=>k<|wC<|xJ u u kk [] d
abbrev zVo:=@Cn.mk 16 0 _ @zQB
theorem zPm{y0:zA}: zN qd prog 49 [vs y0] [] [] (zAy y0) fun r K=>K (vb r) [] [] :=
 zS call49 func49 u fun X=>hI 1 1 0 (fun(s1:Bool) K=>K [0] [] [] [(21,vb s1)] [])<|hI 0 4 2 (fun(s2:Int) K=>K [0] [] [] [(3,vi s2)] [])<|hI 1 6 0 (fun(s3:Bool) K=>K [0,3] [] [] [(55,vb s3)] [])<|
 au
abbrev zP6:=@Cn.mk 49 0 _ @zPm
attribute [instance] zQV zNk zVo zP6
theorem zNr{y0:zE}: zN qd prog 81 [.agg #[vb y0.1,vs y0.2]] [] [] (zBI y0) fun r K=>K (vb r) [] [] :=
 zS call81 func81 u fun X=>
 au
abbrev zV9:=@Cn.mk 81 0 _ @zNr
attribute [instance] zV9
theorem zMg{y0:zE}: zN qd prog 84 [.agg #[vb y0.1,vs y0.2]] [] [] (zB2 y0) fun r K=>K (vs r) [] [] :=
 zS call84 func84 u fun X=>
 au
abbrev zT3:=@Cn.mk 84 0 _ @zMg
attribute [instance] zT3
theorem zPo (k:Nat):
    (∀ {y0:zC} {p1:Option Addr} {c1:Nat},zN qd prog 154 [.agg #[vi ((fv y0).1),vs ((fv y0).2.1),sv p1 ((fv y0).2.2) c1]] [] [Rl qD p1 c1 ((fv y0).2.2)] (zCz k y0) fun r K=>K (vi r) [] []):=by
  induction k with
  | zero=>exact uP call154
  | succ k ih =>
    have ih_ref02_Depth:=@ih
    have zOZ:=@Cn.mk 154 0 _ (@ih_ref02_Depth)
    exact @fun y0 p1 c1=>zS (m1:=zK2 (zCz k) y0) call154 func154 u fun X=>hI 0 3 2 (fun(s1:Int×Int) K=>K [1] [] [0] [(3,vi s1.1),(4,vi s1.2)] [])<|
 au
theorem zVC{y0:zC}: zN qd prog 154 [.agg #[vi ((fv y0).1),vs ((fv y0).2.1),sv p1 ((fv y0).2.2) c1]] [] [Rl qD p1 c1 ((fv y0).2.2)] (zHn y0) fun r K=>K (vi r) [] []:=uO fun k=>(zPo k)
abbrev zOZ:=@Cn.mk 154 0 _ @zVC
attribute [instance] zOZ
theorem zQi (k:Nat):
    (∀ {y0:zC} {p1:Option Addr} {c1:Nat},zN qd prog 153 [.agg #[vi ((fv y0).1),vs ((fv y0).2.1),sv p1 ((fv y0).2.2) c1]] [] [Rl qD p1 c1 ((fv y0).2.2)] (zD3 k y0) fun r K=>K (vi r) [] []):=by
  induction k with
  | zero=>exact uP call153
  | succ k ih =>
    have ih_ref02_Size:=@ih
    have zQK:=@Cn.mk 153 0 _ (@ih_ref02_Size)
    exact @fun y0 p1 c1=>zS (m1:=zLu (zD3 k) y0) call153 func153 u fun X=>hI 0 3 2 (fun(s1:Int×Int) K=>K [1] [] [0] [(3,vi s1.1),(4,vi s1.2)] [])<|
 au
theorem zVr{y0:zC}: zN qd prog 153 [.agg #[vi ((fv y0).1),vs ((fv y0).2.1),sv p1 ((fv y0).2.2) c1]] [] [Rl qD p1 c1 ((fv y0).2.2)] (zIy y0) fun r K=>K (vi r) [] []:=uO fun k=>(zQi k)
abbrev zQK:=@Cn.mk 153 0 _ @zVr
theorem zPC (k:Nat):
    (∀ {y0:zC} {p1:Option Addr} {c1:Nat},zN qd prog 155 [.agg #[vi ((fv y0).1),vs ((fv y0).2.1),sv p1 ((fv y0).2.2) c1]] [] [Rl qD p1 c1 ((fv y0).2.2)] (zCr k y0) fun r K=>K (vb r) [] []):=by
  induction k with
  | zero=>exact uP call155
  | succ k ih =>
    have ih_ref02_kinds:=@ih
    have zOr:=@Cn.mk 155 0 _ (@ih_ref02_kinds)
    exact @fun y0 p1 c1=>zS (m1:=zID (zCr k) y0) call155 func155 u fun X=>zG<|yB .s u<|fun b1=>zB 1 u<|zI<|zG<|zO 2 u<|qJ 0 u u u<|zB 2 u<|zI<|jA 1 u<|qX (fun s1 K=>K [1,3] [] [0] [(4,vb s1)] []) (zG<|zO 0 u<|qJ 0 u u u<|zI<|
  qP<|qX (fun s2 K=>K [1,3,4,10] [] [0] [(11,vb s2)] []) (jA 2 u<|zW u (uW<|qB (gv kk [0] (gq [0])))<|jA 2 u<|zW u (uW<|qB (gv kk [0] (gq [0])))<|
  jB 2 u<|qB (gv kk [0] (gq [0])))<|fun s2 _ k=>k<|zW u (jB 3 u<|yT<|qB (gv kk [0] (gq [0])))<|jA 2 u<|zW u (jB 3 u<|yT<|qB (gv kk [0] (gq [0])))<|
  qX (fun s3 K=>K [1,3,4,10] [] [0] [(21,vb s3)] []) (jA 2 u<|zW u (uW<|qB (gv kk [0] (gq [0])))<|jB 2 u<|qB (gv kk [0] (gq [0])))<|fun s3 _ k=>k<|zW u (
  jjqK (fun K=>K [1,3] [] [0] [(4,vb ((decide (2≤(len ((fv y0).2.2))))&&(decide ((len ((fv y0).2.2))≤6))))] []) (vD<|
  zB 3 u<|jsp (b:=decide (2≤(len ((fv y0).2.2)))) 26 u (fun hb1=>zB 2 u<|zL (vb (decide ((len ((fv y0).2.2))≤6)))<|zB 1 u<|wH<|
  jup 4 (vb ((decide (2≤(len ((fv y0).2.2))))&&(decide ((len ((fv y0).2.2))≤6)))) u (by rw[hb1];rfl)<|qB (gv kk [0] (gq [0])))<|fun hb1=>zB 2 u<|zL (vb false)<|zB 1 u<|wH<|
  jup 4 (vb ((decide (2≤(len ((fv y0).2.2))))&&(decide ((len ((fv y0).2.2))≤6)))) u (by rw[hb1];rfl)<|qB (gv kk [0] (gq [0])))<|fun _ k=>k<|yT<|qB (gv kk [0] (gq [0])))<|
  qX (fun s4 K=>K [1,3,4] [] [0] [(30,vb s4)] []) (jA 2 u<|zW u (uW<|qB (gv kk [0] (gq [0])))<|jB 2 u<|qB (gv kk [0] (gq [0])))<|fun s4 _ k=>k<|zW u (
  jB 3 u<|yT<|qB (gv kk [0] (gq [0])))<|uW<|yT<|qB (gv kk [0] (gq [0])))<|fun s1 _ k=>k<|zY<|jA 1 u<|qP<|
  vN (fun s5 K=>K [1,3] [] [0] [(4,vb s5.1),(5,vi s5.2)] []) (gv kk [0] (gq [0]))<|fun s5 _ k=>k<|zY<|jA 3 u<|zW u (jC<|zY<|qP<|
  jjcK (fun s6 K=>K [1,3,5] [] [0] [(4,vb s6)] []) (vD<|zB 2 u<|wM 41 u (zO 2 u<|qJ 0 u u u<|zB 1 u<|tA 0 u u u<|fun x1 b2 o1=>tG true zJr (gk 0) u<|
  fun p2 c2=>wG ih_ref02_kinds u (cq [0])<|fun r1 _ k=>k<|zL (vb r1)<|zB 1 u<|wH<|qB (gv kk [0] (gq [2])))<|zB 6 u<|zL (vb false)<|zB 1 u<|wH<|qB (gv kk [0] (gq [0])))<|fun s6 _ k=>k<|yT<|wS<|jB 3 u<|
  jln (gv kk [0] (gq [0])))<|uV<|uU<|uX<|uZ<|wS<|jA 2 u<|wC<|xJ u u kk [] d
theorem zUS{y0:zC}: zN qd prog 155 [.agg #[vi ((fv y0).1),vs ((fv y0).2.1),sv p1 ((fv y0).2.2) c1]] [] [Rl qD p1 c1 ((fv y0).2.2)] (zHy y0) fun r K=>K (vb r) [] []:=uO fun k=>(zPC k)
abbrev zOr:=@Cn.mk 155 0 _ @zUS
attribute [instance] zQK zOr
theorem zPM (k:Nat):
    (∀ {y0:zC} {p1:Option Addr} {c1:Nat},zN qd prog 192 [.agg #[vi ((fv y0).1),vs ((fv y0).2.1),sv p1 ((fv y0).2.2) c1]] [] [Rl qD p1 c1 ((fv y0).2.2)] (zDi k y0) fun r K=>K (vb r) [] []):=by
  induction k with
  | zero=>exact uP call192
  | succ k ih =>
    have ih_ref02_names:=@ih
    have zOy:=@Cn.mk 192 0 _ (@ih_ref02_names)
    exact @fun y0 p1 c1=>zS (m1:=zOH (zDi k) y0) call192 func192 u fun X=>hI 1 2 1 (fun(s1:Bool) K=>K [1] [] [0] [(3,vb s1)] [])<|hI 0 5 2 (fun(s2:Bool×Int) K=>K [1] [] [0] [(3,vb s2.1),(4,vi s2.2)] [])<|hI 3 7 0 (fun(s3:Bool) K=>K [1,4] [] [0] [(3,vb s3)] [])<|
 au
theorem zUs{y0:zC}: zN qd prog 192 [.agg #[vi ((fv y0).1),vs ((fv y0).2.1),sv p1 ((fv y0).2.2) c1]] [] [Rl qD p1 c1 ((fv y0).2.2)] (zKC y0) fun r K=>K (vb r) [] []:=uO fun k=>(zPM k)
abbrev zOy:=@Cn.mk 192 0 _ @zUs
attribute [instance] zOy
theorem zQ7{y0:zC}: zN qd prog 148 [.agg #[vi ((fv y0).1),vs ((fv y0).2.1),sv p1 ((fv y0).2.2) c1]] [] [Rl qD p1 c1 ((fv y0).2.2)] (zGF y0) fun r K=>K (vi r) [] [] :=
 zS call148 func148 u fun X=>hI 1 1 0 (fun(s1:Bool) K=>K [1] [] [0] [(10,vb s1)] [])<|
 au
abbrev zQg:=@Cn.mk 148 0 _ @zQ7
theorem zQq{y0:zC}: zN qd prog 233 [.agg #[vi ((fv y0).1),vs ((fv y0).2.1),sv p1 ((fv y0).2.2) c1]] [] [Rl qD p1 c1 ((fv y0).2.2)] (zGD y0) fun r K=>K (vi r) [] [] :=
 zS call233 func233 u fun X=>
 au
abbrev zQt:=@Cn.mk 233 0 _ @zQq
attribute [instance] zQg zQt
theorem zFc (k:Nat):
    (∀ {y0:zC} {p1:Option Addr} {c1:Nat} {y1:Int},zN qd prog 193 [.agg #[vi ((fv y0).1),vs ((fv y0).2.1),sv p1 ((fv y0).2.2) c1],vi y1] [] [Rl qD p1 c1 ((fv y0).2.2)] (zA1 k y0 y1) fun r K=>K (vs r) [] []) ∧
    (∀ {y0:List zC} {p1:Option Addr} {c1:Nat} {y1:zA} {y2:Int},zN qd prog 194 [sv p1 y0 c1,vs y1,vi y2] [] [Rl qD p1 c1 y0] (zBk k y0 y1 y2) fun r K=>K (vs r) [] []) ∧
    (∀ {y0:zC} {p1:Option Addr} {c1:Nat},zN qd prog 149 [.agg #[vi ((fv y0).1),vs ((fv y0).2.1),sv p1 ((fv y0).2.2) c1]] [] [Rl qD p1 c1 ((fv y0).2.2)] (zBi k y0) fun r K=>K (vs r) [] []):=by
  induction k with
  | zero=>exact⟨uP call193,uP call194,uP call149⟩
  | succ k ih =>
    obtain⟨ih_ref02_argument,ih_ref02_joined,ih_ref02_text⟩:=ih
    have zKi:=@Cn.mk 193 0 _ (@ih_ref02_argument)
    have zMu:=@Cn.mk 194 0 _ (@ih_ref02_joined)
    have zPu:=@Cn.mk 149 0 _ (@ih_ref02_text)
    exact⟨@fun y0 p1 c1 y1=>zS (m1:=zKj (zA1 k) (zBk k) (zBi k) y0 y1) call193 func193 u fun X=>
 au
,
    @fun y0 p1 c1 y1 y2=>zS (m1:=zMs (zA1 k) (zBk k) (zBi k) y0 y1 y2) call194 func194 u fun X=>hI 0 3 2 (fun(s1:zA×Int) K=>K [0,1,2] [] [2] [(7,vs s1.1),(8,vi s1.2)] [])<|
 au
,
    @fun y0 p1 c1=>zS (m1:=zQT (zA1 k) (zBk k) (zBi k) y0) call149 func149 u fun X=>hD 15 [] [0] (.l [0,1,2,3,6,7,8,9] (.f 4 (.l [5] (.f 10 (.l [11,12] .e)))))<|
 au
⟩
theorem zQf{y0:zC}{y1:Int}: zN qd prog 193 [.agg #[vi ((fv y0).1),vs ((fv y0).2.1),sv p1 ((fv y0).2.2) c1],vi y1] [] [Rl qD p1 c1 ((fv y0).2.2)] (zQa y0 y1) fun r K=>K (vs r) [] []:=uO fun k=>(zFc k).1
abbrev zKi:=@Cn.mk 193 0 _ @zQf
theorem zTa{y0:List zC}{y1:zA}{y2:Int}: zN qd prog 194 [sv p1 y0 c1,vs y1,vi y2] [] [Rl qD p1 c1 y0] (zT7 y0 y1 y2) fun r K=>K (vs r) [] []:=uO fun k=>(zFc k).2.1
abbrev zMu:=@Cn.mk 194 0 _ @zTa
theorem zW9{y0:zC}: zN qd prog 149 [.agg #[vi ((fv y0).1),vs ((fv y0).2.1),sv p1 ((fv y0).2.2) c1]] [] [Rl qD p1 c1 ((fv y0).2.2)] (zLy y0) fun r K=>K (vs r) [] []:=uO fun k=>(zFc k).2.2
abbrev zPu:=@Cn.mk 149 0 _ @zW9
attribute [instance] zKi zMu zPu
theorem zMn{y0:zC}: zN qd prog 82 [.agg #[vi ((fv y0).1),vs ((fv y0).2.1),sv p1 ((fv y0).2.2) c1]] [] [Rl qD p1 c1 ((fv y0).2.2)] (zAR y0) fun r K=>K (.tuple #[vs r.1,vi r.2]) [] [] :=
 zS call82 func82 u fun X=>
 au
abbrev zTU:=@Cn.mk 82 0 _ @zMn
attribute [instance] zTU
theorem zOG (k:Nat):
    (∀ {y0:Int},zN qd prog 83 [vi y0] [] [] (zEL k y0) fun r K=>K (vs r) [] []):=by
  induction k with
  | zero=>exact uP call83
  | succ k ih =>
    have ih_ref41_digits:=@ih
    have zMk:=@Cn.mk 83 0 _ (@ih_ref41_digits)
    exact @fun y0=>zS (m1:=zJ0 (zEL k) y0) call83 func83 u fun X=>jA 1 u<|zY<|jA 2 u<|zW u (zG<|zB 2 u<|zL (.int .u8 (IntKind.u8.wrap (zF ((48:Int)+y0))))<|uR .s (e:=zR .u8) 5 [.int .u8 (IntKind.u8.wrap (zF ((48:Int)+y0)))] ([IntKind.u8.wrap (zF ((48:Int)+y0))]:List Int) (rC vI rN)<|fun p1 c1=>
  jsb .s (gk 0) u underlying68 underlying5 underlying9<|
 au
)<|jC<|jjn (fun s1 K=>K [(2,vs s1)] [] []) (uG [] [] 11<|
  zQ 10 [0] u<|yW fun x1 h1=>xN 1 u (fun h=>z1p h u u h1)<|zQ 8 [3] u<|yW fun x2 h2=>xN 4 u (fun h=>z5b h u u h2)<|zQ 6 [5] u<|qS 6 (.int .u8 (IntKind.u8.wrap (zF ((48:Int)+x2)))) u<|tB 2 7 (
  qA (.f u) [] [] ih_ref41_digits u u u d<|fun r1 _ k=>k<|zM<|zT 7<|uR (.f u) (e:=zR .u8) 5 [.int .u8 (IntKind.u8.wrap (zF ((48:Int)+x2)))] ([IntKind.u8.wrap (zF ((48:Int)+x2))]:List Int) (rC vI rN)<|fun p2 c2=>zM<|zT 8<|
  jsb (.f u) (gk 0) u underlying68 underlying5 underlying9<|zM<|yW fun x3 h3=>xN 9 u (fun h=>zJz h u u h3)<|zQ 0 [10] u<|qI<|qB (gv kk [] d)) <|
  uR (.f u) (e:=zR .u8) 5 [.int .u8 (IntKind.u8.wrap (zF ((48:Int)+x2)))] ([IntKind.u8.wrap (zF ((48:Int)+x2))]:List Int) (rC vI rN)<|fun p3 c3=>zM<|tB 2 8 (qA (.f u) [] [] ih_ref41_digits u u u d<|fun r2 _ k=>k<|zM<|zT 8<|
  jsb (.f u) (gk 0) u underlying68 underlying5 underlying9<|zM<|yW fun x4 h4=>xN 9 u (fun h=>zJz h u u h4)<|zQ 0 [10] u<|qI<|qB (gv kk [] d)) <|
  jsb (.f u) (gk 0) u underlying68 underlying5 underlying9<|zM<|zT 2<|qA (.f u) [] [] ih_ref41_digits u u u d<|fun r3 _ k=>k<|zM<|yW fun x5 h5=>xN 9 u (fun h=>zJz h u u h5)<|zQ 0 [10] u<|qI<|
  qB (gv kk [] d))<|
 au
theorem zHO{y0:Int}: zN qd prog 83 [vi y0] [] [] (zAS y0) fun r K=>K (vs r) [] []:=uO fun k=>(zOG k)
abbrev zMk:=@Cn.mk 83 0 _ @zHO
attribute [instance] zMk
theorem zWR{y0:qZ}{y1:zA}: zN qd prog 86 [.agg (zAg y0 p1 c1 p2 c2).toArray,vs y1] [] (xV y0 p1 c1 p2 c2 []) (zFD y0 y1) fun r K=>K (vs r) [] [] :=
 zS call86 func86 u fun X=>hD 1 [] [0] (.l [0,1,2,6,7,8] (.f 3 (.l [4,5] (.f 9 (.l [10,11] .e)))))<|hD 4 [] [0] (.l [0,1,2,3,4,5,9,10,11] (.f 6 (.l [7,8] (.f 12 (.l [13,14] .e)))))<|
 au
abbrev zWq:=@Cn.mk 86 0 _ @zWR
theorem zXn{y0:qZ}{y1:zA}: zN qd prog 85 [.agg (zAg y0 p1 c1 p2 c2).toArray,vs y1] [] (xV y0 p1 c1 p2 c2 []) (zGN y0 y1) fun r K=>K (vs r) [] [] :=
 zS call85 func85 u fun X=>hI 2 2 1 (fun(s1:Unit) K=>K [1,5] [(0,.r [])] [] [] [])<|hI 0 10 2 (fun(s2:zA×Int) K=>K [2] [] [0,1] [(6,vs s2.1),(7,vi s2.2)] [])<|
 au
abbrev zXy:=@Cn.mk 85 0 _ @zXn
attribute [instance] zWq zXy
theorem zWO{y0:qZ}: zN qd prog 39 [.agg (zAg y0 p1 c1 p2 c2).toArray] [] (xV y0 p1 c1 p2 c2 []) (zAn y0) fun r K=>K (vs r) [] [] :=
 zS call39 func39 u fun X=>zG<|yB .s u<|fun b1=>zB 1 u<|zI<|zG<|zO 1 u<|qJ 0 u u u<|wG zHO u d<|fun r1 _ k=>k<|yW fun x1 h1=>jv (fun h=>zJz h u u h1)<|yW fun x2 h2=>jv (fun h=>zJz h u u h2)<|zB 1 u<|zI<|zG<|
  zO 11 u<|qV 0 2 u u u<|wG zMg u d<|fun r2 _ k=>k<|zB 1 u<|zI<|zG<|zO 19 u<|qV 0 3 u u u<|wG zMn u (cq [1])<|fun r3 _ k=>k<|zB 5 u<|zI<|zY<|zG<|zO 0 u<|qJ 0 u u u<|zI<|
  qP<|jA 2 u<|zW u (
 au
)<|jA 2 u<|
  zW u (
 au
)<|jA 2 u<|zW u (
 au
)<|jA 2 u<|zW u (
 au
)<|jA 2 u<|zW u (jds [] [0] 17<|zQ 16 [0] u<|yW fun x8 h8=>xN 1 u (fun h=>zJz h u u h8)<|
  zQ 14 [2] u<|yW fun x9 h9=>xN 3 u (fun h=>zJz h u u h9)<|yW fun x10 h10=>xN 4 u (fun h=>zJz h u u h10)<|qK 5 13 u u<|
  xN (v:=pt b1 13) 6 u (fun h=>zNi (k:=2) (sz:=1) h u u (by kernel_rfl) (by decide) u)<|wO 7 0 u u u u<|qK 11 13 u u<|
  xN (v:=pt b1 14) 12 u (fun h=>zNi (k:=2) (sz:=1) h u u (by kernel_rfl) (by decide) u)<|wO 13 0 u u u u<|zT 8<|qA (.f u) [] [] zHO u u u d<|fun r6 _ k=>k<|zM<|yW fun x11 h11=>
  xN 9 u (fun h=>zJz h u u h11)<|yW fun x12 h12=>xN 10 u (fun h=>zJz h u u h12)<|zT 14<|qA (.f u) [] [] zHO u u u d<|fun r7 _ k=>k<|zM<|yW fun x13 h13=>xN 15 u (fun h=>zJz h u u h13)<|
  zQ 0 [16] u<|qI<|
 au
)<|
 au
abbrev zWa:=@Cn.mk 39 0 _ @zWO
theorem zPT{y0:zA}: zN qd prog 80 [vs y0] [] [] (zFY y0) fun r K=>K (vb r) [] [] :=
 zS call80 func80 u fun X=>hI 2 1 1 (fun(s1:Unit) K=>K [0] [] [] [] [])<|hI 0 2 2 (fun(s2:Int) K=>K [0] [] [] [(3,vi s2)] [])<|hI 1 4 0 (fun(s3:Bool) K=>K [0,3] [] [] [(19,vb s3)] [])<|hP 4 6 0 (fun K=>K [] [] [] [(2,vb ((decide (1≤(len y0)))&&(decide ((len y0)≤200))))] [])<|
 au
abbrev zPl:=@Cn.mk 80 0 _ @zPT
theorem zOT{y0:Int}: zN qd prog 37 [vi y0] [] [] (zBH y0) fun r K=>K (vb r) [] [] :=
 zS call37 func37 u fun X=>hP 4 1 0 (fun K=>K [] [] [] [(2,vb ((decide (0≤y0))&&(decide (y0≤9999))))] [])<|
 au
abbrev zUk:=@Cn.mk 37 0 _ @zOT
attribute [instance] zWa zPl zUk
theorem zUu{y0:qZ}: zN qd prog 38 [.agg (zAg y0 p1 c1 p2 c2).toArray] [] (xV y0 p1 c1 p2 c2 []) (zAk y0) fun r K=>K (vb r) [] [] :=
 zS call38 func38 u fun X=>zG<|yB .s u<|fun b1=>zB 1 u<|zI<|z7h (fun s1 K=>K [1] [] [0,1] [] []) (zG<|zO 0 u<|qJ 0 u u u<|zI<|qP<|
  qX (fun s2 K=>K [1,9] [] [0,1] [(10,vb s2)] []) (
 au
)<|fun s2 _ k=>k<|zW u (
 au
)<|jA 2 u<|zW u (
 au
)<|jA 2 u<|zW u (
  qX (fun s3 K=>K [1] [] [0,1] [(3,vb s3)] []) (
 au
)<|fun s3 _ k=>k<|
  qX (fun s4 K=>K [1] [] [0,1] [(3,vb s4)] []) (hI 0 10 2 (fun(s5:Bool×Int) K=>K [1] [] [0,1] [(3,vb s5.1),(4,vi s5.2)] [])<|hI 3 12 0 (fun(s6:Bool) K=>K [1,4] [] [0,1] [(3,vb s6)] [])<|
 au
)<|fun s4 _ k=>k<|hP 4 13 0 (fun K=>K [] [(0,.r [])] [] [(2,vb (s4&&(((a5 y0).1.1 != 3)||((decide (1≤(len (a5 y0).1.2.2.2.2)))&&(decide ((len (a5 y0).1.2.2.2.2)≤6))))))] [])<|
 au
)<|jA 2 u<|zW u (jjn (fun s7 K=>K [(2,vb s7)] [[]] []) (vD<|zO 11 u<|qV 0 2 u u u<|wG zNr u d<|fun r5 _ k=>k<|zB 1 u<|
  wM 86 u (zO 13 u<|jv (v:=pt b1 13) (fun h=>zNi (k:=2) (sz:=1) h u u (by kernel_rfl) (by decide) u)<|qJ 0 u u u<|wG zOT u d<|fun r6 _ k=>k<|zL (vb r6)<|zB 1 u<|wM 92 u (zO 13 u<|
  jv (v:=pt b1 14) (fun h=>zNi (k:=2) (sz:=1) h u u (by kernel_rfl) (by decide) u)<|
 au
)<|
 au
)<|
 au
)<|
 au
)<|hI 1 18 0 (fun(s8:Bool) K=>K [] [(0,.r []),(1,.r [])] [] [(2,vb s8)] [])<|hI 1 20 0 (fun(s9:Bool) K=>K [] [(0,.r [])] [] [(2,vb s9)] [])<|
 au
)<|hI 1 22 0 (fun(s10:Bool) K=>K [] [(0,.r [])] [] [(2,vb s10)] [])<|
 au
abbrev zUl:=@Cn.mk 38 0 _ @zUu
theorem zOf{y0:zA}: zN qd prog 92 [vs y0] [] [] (zCY y0) fun r K=>K (.tuple #[.agg #[vb r.1.1,vs r.1.2],vi r.2]) [] [] :=
 zS call92 func92 u fun X=>hI 1 2 1 (fun(s1:Bool×zA) K=>K [2,4] [(1,.c [(0,vb s1.1),(1,vs s1.2)])] [] [] [])<|hI 1 2 0 (fun(s2:Bool) K=>K [0,2,4] [] [] [(14,vb s2)] [])<|
 au
abbrev zUr:=@Cn.mk 92 0 _ @zOf
theorem zWf{y0:Int}: zN qd prog 197 [.int .u8 y0] [] [] (zHU y0) fun r K=>K (vb r) [] [] :=
 zS call197 func197 u fun X=>hP 4 1 0 (fun K=>K [] [] [] [(2,vb (if decide (97≤y0) then(decide (y0≤122))||(if decide (48≤y0) then(decide (y0≤57))||(y0==95) else y0==95) else if decide (48≤y0) then(decide (y0≤57))||(y0==95) else y0==95))] [])<|
 au
abbrev zWB:=@Cn.mk 197 0 _ @zWf
attribute [instance] zUl zUr zWB
theorem zHl{y0:wK}: CoL qd prog 151 [pt b1 0] [bx b1 217 (zBB y0)] [] (zAF y0) fun L r K=>K (.tuple #[vs r.1,vi r.2]) L [] :=
 zS call151 func151 u fun X=>hI 1 2 4 (fun(s1:Int) K=>K [0] [] [] [(4,vi s1)] [])<|hI 0 2 2 (fun(s2:Int) K=>K [0] [] [] [(4,vi s2)] [])<|hI 1 2 0 (fun(s3:Bool) K=>K [0,4] [] [] [(28,vb s3)] [])<|hI 1 7 4 (fun(s4:Int) K=>K [0,4] [] [] [(5,vi s4)] [])<|hI 0 7 2 (fun(s5:Int) K=>K [0,4] [] [] [(5,vi s5)] [])<|hI 1 7 0 (fun(s6:Bool) K=>K [0,4,5] [] [] [(73,vb s6)] [])<|hI 1 11 0 (fun(s7:Bool) K=>K [4,6] [] [] [(95,vb s7)] [])<|hI 0 15 1 (fun(s8:Int) K=>K [0,4,99,100] [] [0] [(101,vi s8)] [])<|hI 1 17 0 (fun(s9:Bool) K=>K [0,4,8,99,100,101] [] [1] [(128,vb s9)] [])<|
 au
abbrev zMU:=@Cn.mk 151 0 _ @zHl
attribute [instance] zMU
theorem zNV{y0:wK}: zN qd prog 152 [pt b1 0] [bx b1 217 (zBB y0)] [] (zAs y0) fun r K=>∀ p1 c1,K (.agg #[vi ((fv r.1).1),vs ((fv r.1).2.1),sv p1 ((fv r.1).2.2) c1]) [bx b1 217 [vs y0.1,vi y0.2.1,vi r.2]] [Rl qD p1 c1 ((fv r.1).2.2)] :=
 zS call152 func152 u fun X=>hI 1 1 1 (fun(s1:Int) K=>K [2] [(0,.c [(2,vi s1)])] [] [] [])<|
 au
abbrev zND:=@Cn.mk 152 0 _ @zNV
theorem zCG{y0:wK}{y1:zA}: zN qd prog 196 [pt b1 0,vs y1] [bx b1 217 (zBB y0)] [] (xO y0 y1) fun r K=>K (vb r.1) [bx b1 217 [vs y0.1,vi r.2,vi y0.2.2]] [] :=
 zS call196 func196 u fun X=>jA 1 u<|zG<|zB 1 u<|qA .s [0] [] zHl u u u d<|fun r1 _ k=>k<|hP 4 2 0 (fun K=>K [0,1,6] [] [] [(21,vb ((!(r1.1==y1))||(decide (0≤y0.2.2))))] [])<|
 au
abbrev zNa:=@Cn.mk 196 0 _ @zCG
attribute [instance] zND zNa
set_option maxHeartbeats 2000000 in
theorem zBx (k:Nat):
    (∀ {y0:wK} {b1:Nat},zN qd prog 257 [pt b1 0] [bx b1 217 (zBB y0)] [] (zAU k y0) fun r K=>∀ p1 c1,K (.agg #[vi ((fv r.1).1),vs ((fv r.1).2.1),sv p1 ((fv r.1).2.2) c1]) [bx b1 217 [vs y0.1,vi r.2.1,vi r.2.2]] [Rl qD p1 c1 ((fv r.1).2.2)]) ∧
    (∀ {y0:wK} {b1:Nat},zN qd prog 150 [pt b1 0] [bx b1 217 (zBB y0)] [] (zAX k y0) fun r K=>∀ p1 c1,K (.agg #[vi ((fv r.1).1),vs ((fv r.1).2.1),sv p1 ((fv r.1).2.2) c1]) [bx b1 217 [vs y0.1,vi r.2.1,vi r.2.2]] [Rl qD p1 c1 ((fv r.1).2.2)]) ∧
    (∀ {y0:wK} {b1:Nat},zN qd prog 195 [pt b1 0] [bx b1 217 (zBB y0)] [] (zAN k y0) fun r K=>∀ p1 c1,K (.agg #[vi ((fv r.1).1),vs ((fv r.1).2.1),sv p1 ((fv r.1).2.2) c1]) [bx b1 217 [vs y0.1,vi r.2.1,vi r.2.2]] [Rl qD p1 c1 ((fv r.1).2.2)]) ∧
    (∀ {y0:wK} {b1:Nat},zN qd prog 234 [pt b1 0] [bx b1 217 (zBB y0)] [] (zA5 k y0) fun r K=>∀ p1 c1,K (.agg #[vi ((fv r.1).1),vs ((fv r.1).2.1),sv p1 ((fv r.1).2.2) c1]) [bx b1 217 [vs y0.1,vi r.2.1,vi r.2.2]] [Rl qD p1 c1 ((fv r.1).2.2)]) ∧
    (∀ {y0:wK} {b1:Nat},zN qd prog 278 [pt b1 0] [bx b1 217 (zBB y0)] [] (zAT k y0) fun r K=>∀ p1 c1,K (.agg #[vi ((fv r.1).1),vs ((fv r.1).2.1),sv p1 ((fv r.1).2.2) c1]) [bx b1 217 [vs y0.1,vi r.2.1,vi r.2.2]] [Rl qD p1 c1 ((fv r.1).2.2)]):=by
  induction k with
  | zero=>exact⟨uP call257,uP call150,uP call195,uP call234,uP call278⟩
  | succ k ih =>
    obtain⟨ih_ref02_reader_and,ih_ref02_reader_iff,ih_ref02_reader_implies,ih_ref02_reader_or,ih_ref02_reader_unary⟩:=ih
    have zJE:=@Cn.mk 257 0 _ (@ih_ref02_reader_and)
    have zJL:=@Cn.mk 150 0 _ (@ih_ref02_reader_iff)
    have zGw:=@Cn.mk 195 0 _ (@ih_ref02_reader_implies)
    have zJe:=@Cn.mk 234 0 _ (@ih_ref02_reader_or)
    have zHk:=@Cn.mk 278 0 _ (@ih_ref02_reader_unary)
    exact⟨@fun y0 b1=>zS (m1:=zIu (zAU k) (zAX k) (zAN k) (zA5 k) (zAT k) y0) call257 func257 u fun X=>zG<|qN .s (.agg k1)<|fun b2=>zI<|zG<|zB 1 u<|qA .s [0] [] ih_ref02_reader_unary rfl u u d<|fun r1 _ k p1 c1=>k<|
  xK .s (e:=qD) 32 [vi ((fv r1.1).1),vs ((fv r1.1).2.1),sv p1 ((fv r1.1).2.2) c1] ([r1.1]:List zC) (rC (vF (vP vI (vP vS (vL (gk 0))))) rN)<|fun r_1 p2 c2=>zB 1 u<|zI<|
  qX (fun s1 K=>∀ p3 c3 r_2,K [2] [(0,bx b1 217 [vs y0.1,vi s1.2.1,vi s1.2.2]),(2,r_2)] [] [(3,sv p3 s1.1 c3)] [Al qD 32 r_2 p3 c3 s1.1]) (
  qP<|
  vN (fun s2 K=>∀ p4 c4 r_3,K [0,2] [(0,bx b1 217 [vs y0.1,vi s2.2.1,vi s2.2.2]),(2,r_3)] [] [(3,sv p4 s2.1 c4)] [Al qD 32 r_3 p4 c4 s2.1]) (gv (fun _ k=>k p2 c2 r_1) [0,1,2] (gq [0]))<|
  fun s2 _ k p4 c4 r_3=>k<|zY<|zG<|zB 1 u<|qA .s [0] [] zCG u u u d<|fun r2 _ k=>k<|zI<|zW u (jC<|qP<|vD<|zB 2 u<|qA .s [0] [] ih_ref02_reader_unary rfl u u d<|fun r3 _ k p5 c5=>k<|
  uR .s (e:=qD) 32 [vi ((fv r3.1).1),vs ((fv r3.1).2.1),sv p5 ((fv r3.1).2.2) c5] ([r3.1]:List zC) (rC (vF (vP vI (vP vS (vL (gk 0))))) rN)<|
 au
)<|
 au
)<|fun s1 _ k p3 c3 r_2=>k<|zY<|jA 3 u<|zW u (zG<|zB 1 u<|xC 0 u u u<|fun x2 h2 b3 o1 hp1=>
  jlA 2 0 sI true zJr u hp1 h2 u<|
 au
)<|jC<|zG<|zB 1 u<|
  zL (.agg #[vi 5,vs [],sv p3 s1.1 c3])<|zV .s 1 u u u<|zI<|wC<|wW 2 0 u u<|
 au
,
    @fun y0 b1=>zS (m1:=zJI (zAU k) (zAX k) (zAN k) (zA5 k) (zAT k) y0) call150 func150 u fun X=>zG<|qN .s (.agg k1)<|fun b2=>zI<|zG<|zB 1 u<|qA .s [0] [] ih_ref02_reader_implies u u u d<|fun r1 _ k p1 c1=>k<|qN .s (.agg k1)<|fun b3=>zV .s 2 u u u<|zI<|
  zY<|zG<|zB 1 u<|qA .s [0] [] zCG u u u d<|fun r2 _ k=>k<|zI<|zW u (jds [] [2] 6<|yZ 0 2 3 u u u u<|zQ 4 [1] u<|zT 2<|qA (.f u) [0] [] ih_ref02_reader_implies u u u d<|
  fun r3 _ k p2 c2=>k<|zM<|zT 3<|
  uR (.f u) (e:=qD) 32 [vi ((fv r1.1).1),vs ((fv r1.1).2.1),sv p1 ((fv r1.1).2.2) c1,vi ((fv r3.1).1),vs ((fv r3.1).2.1),sv p2 ((fv r3.1).2.2) c2] ([r1.1,r3.1]:List zC) (rC (vF (vP vI (vP vS (vL (gk 1))))) (rC (vF (vP vI (vP vS (vL (gk 0))))) rN))<|
  fun p3 c3=>zM<|qS 4 (.agg #[vi 8,vs [],sv p3 ([r1.1,r3.1]:List zC) c3]) u<|zT 5<|zV (o:=0) (.f u) 1 u u u<|zM<|qI<|
 au
)<|
 au
,
    @fun y0 b1=>zS (m1:=zGu (zAU k) (zAX k) (zAN k) (zA5 k) (zAT k) y0) call195 func195 u fun X=>zG<|qN .s (.agg k1)<|fun b2=>zI<|zG<|zB 1 u<|qA .s [0] [] ih_ref02_reader_or u u u d<|fun r1 _ k p1 c1=>k<|qN .s (.agg k1)<|fun b3=>zV .s 2 u u u<|zI<|zY<|
  zG<|zB 1 u<|qA .s [0] [] zCG u u u d<|fun r2 _ k=>k<|zI<|zW u (jds [] [2] 6<|yZ 0 2 3 u u u u<|zQ 4 [1] u<|zT 2<|qA (.f u) [0] [] ih_ref02_reader_implies u u u d<|
  fun r3 _ k p2 c2=>k<|zM<|zT 3<|
  uR (.f u) (e:=qD) 32 [vi ((fv r1.1).1),vs ((fv r1.1).2.1),sv p1 ((fv r1.1).2.2) c1,vi ((fv r3.1).1),vs ((fv r3.1).2.1),sv p2 ((fv r3.1).2.2) c2] ([r1.1,r3.1]:List zC) (rC (vF (vP vI (vP vS (vL (gk 1))))) (rC (vF (vP vI (vP vS (vL (gk 0))))) rN))<|
  fun p3 c3=>zM<|qS 4 (.agg #[vi 7,vs [],sv p3 ([r1.1,r3.1]:List zC) c3]) u<|zT 5<|zV (o:=0) (.f u) 1 u u u<|zM<|qI<|
 au
)<|
 au
,
    @fun y0 b1=>zS (m1:=zJl (zAU k) (zAX k) (zAN k) (zA5 k) (zAT k) y0) call234 func234 u fun X=>zG<|qN .s (.agg k1)<|fun b2=>zI<|zG<|zB 1 u<|qA .s [0] [] ih_ref02_reader_and u u u d<|fun r1 _ k p1 c1=>k<|
  xK .s (e:=qD) 32 [vi ((fv r1.1).1),vs ((fv r1.1).2.1),sv p1 ((fv r1.1).2.2) c1] ([r1.1]:List zC) (rC (vF (vP vI (vP vS (vL (gk 0))))) rN)<|fun r_1 p2 c2=>zB 1 u<|zI<|
  qX (fun s1 K=>∀ p3 c3 r_2,K [2] [(0,bx b1 217 [vs y0.1,vi s1.2.1,vi s1.2.2]),(2,r_2)] [] [(3,sv p3 s1.1 c3)] [Al qD 32 r_2 p3 c3 s1.1]) (
  qP<|
  vN (fun s2 K=>∀ p4 c4 r_3,K [0,2] [(0,bx b1 217 [vs y0.1,vi s2.2.1,vi s2.2.2]),(2,r_3)] [] [(3,sv p4 s2.1 c4)] [Al qD 32 r_3 p4 c4 s2.1]) (gv (fun _ k=>k p2 c2 r_1) [0,1,2] (gq [0]))<|
  fun s2 _ k p4 c4 r_3=>k<|zY<|zG<|zB 1 u<|qA .s [0] [] zCG u u u d<|fun r2 _ k=>k<|zI<|zW u (jC<|qP<|vD<|zB 2 u<|qA .s [0] [] ih_ref02_reader_and u u u d<|fun r3 _ k p5 c5=>k<|
  uR .s (e:=qD) 32 [vi ((fv r3.1).1),vs ((fv r3.1).2.1),sv p5 ((fv r3.1).2.2) c5] ([r3.1]:List zC) (rC (vF (vP vI (vP vS (vL (gk 0))))) rN)<|
 au
)<|
 au
)<|fun s1 _ k p3 c3 r_2=>k<|zY<|jA 3 u<|zW u (zG<|zB 1 u<|xC 0 u u u<|fun x2 h2 b3 o1 hp1=>
  jlA 2 0 sI true zJr u hp1 h2 u<|
 au
)<|jC<|zG<|zB 1 u<|
  zL (.agg #[vi 6,vs [],sv p3 s1.1 c3])<|zV .s 1 u u u<|zI<|wC<|wW 2 0 u u<|
 au
,
    @fun y0 b1=>zS (m1:=zA6 (zAU k) (zAX k) (zAN k) (zA5 k) (zAT k) y0) call278 func278 u fun X=>zG<|qN .s (.agg k1)<|fun b2=>zI<|zY<|zG<|zB 1 u<|qA .s [0] [] zCG u u u d<|fun r1 _ k=>k<|zI<|zW u (zG<|zB 1 u<|qA .s [0] [] ih_ref02_reader_unary rfl u u d<|
  fun r2 _ k p1 c1=>k<|uR .s (e:=qD) 32 [vi ((fv r2.1).1),vs ((fv r2.1).2.1),sv p1 ((fv r2.1).2.2) c1] ([r2.1]:List zC) (rC (vF (vP vI (vP vS (vL (gk 0))))) rN)<|
 au
)<|hI 1 5 0 (fun(s1:Bool×Int) K=>K [0,2,3] [(0,.c [(1,vi s1.2)])] [0] [(25,vb s1.1)] [])<|hI 1 9 0 (fun(s2:Bool) K=>K [0,2,4,5] [] [] [(48,vb s2)] [])<|
 au
⟩
theorem zO9{y0:wK}: zN qd prog 257 [pt b1 0] [bx b1 217 (zBB y0)] [] (zOh y0) fun r K=>∀ p1 c1,K (.agg #[vi ((fv r.1).1),vs ((fv r.1).2.1),sv p1 ((fv r.1).2.2) c1]) [bx b1 217 [vs y0.1,vi r.2.1,vi r.2.2]] [Rl qD p1 c1 ((fv r.1).2.2)]:=uO fun k=>(zBx k).1
abbrev zJE:=@Cn.mk 257 0 _ @zO9
theorem zNw{y0:wK}: zN qd prog 150 [pt b1 0] [bx b1 217 (zBB y0)] [] (zG7 y0) fun r K=>∀ p1 c1,K (.agg #[vi ((fv r.1).1),vs ((fv r.1).2.1),sv p1 ((fv r.1).2.2) c1]) [bx b1 217 [vs y0.1,vi r.2.1,vi r.2.2]] [Rl qD p1 c1 ((fv r.1).2.2)]:=uO fun k=>(zBx k).2.1
abbrev zJL:=@Cn.mk 150 0 _ @zNw
theorem zLD{y0:wK}: zN qd prog 195 [pt b1 0] [bx b1 217 (zBB y0)] [] (zLI y0) fun r K=>∀ p1 c1,K (.agg #[vi ((fv r.1).1),vs ((fv r.1).2.1),sv p1 ((fv r.1).2.2) c1]) [bx b1 217 [vs y0.1,vi r.2.1,vi r.2.2]] [Rl qD p1 c1 ((fv r.1).2.2)]:=uO fun k=>(zBx k).2.2.1
abbrev zGw:=@Cn.mk 195 0 _ @zLD
theorem zPW{y0:wK}: zN qd prog 234 [pt b1 0] [bx b1 217 (zBB y0)] [] (zP5 y0) fun r K=>∀ p1 c1,K (.agg #[vi ((fv r.1).1),vs ((fv r.1).2.1),sv p1 ((fv r.1).2.2) c1]) [bx b1 217 [vs y0.1,vi r.2.1,vi r.2.2]] [Rl qD p1 c1 ((fv r.1).2.2)]:=uO fun k=>(zBx k).2.2.2.1
abbrev zJe:=@Cn.mk 234 0 _ @zPW
theorem zMa{y0:wK}: zN qd prog 278 [pt b1 0] [bx b1 217 (zBB y0)] [] (zM6 y0) fun r K=>∀ p1 c1,K (.agg #[vi ((fv r.1).1),vs ((fv r.1).2.1),sv p1 ((fv r.1).2.2) c1]) [bx b1 217 [vs y0.1,vi r.2.1,vi r.2.2]] [Rl qD p1 c1 ((fv r.1).2.2)]:=uO fun k=>(zBx k).2.2.2.2
abbrev zHk:=@Cn.mk 278 0 _ @zMa
attribute [instance] zJE zJL zGw zJe zHk
theorem zUx{y0:zA}: zN qd prog 95 [vs y0] [] [] (zC2 y0) fun r K=>∀ p1 c1,K (.tuple #[.agg #[vi ((fv r.1).1),vs ((fv r.1).2.1),sv p1 ((fv r.1).2.2) c1],vi r.2.1,vi r.2.2]) [] [Rl qD p1 c1 ((fv r.1).2.2)] :=
 zS call95 func95 u fun X=>zG<|hD 9 [] [1] (.l [0,1,2,3,4] (.f 5 (.l [6,7] .e)))<|hI 1 5 1 (fun(s1:Int) K=>K [2,5,6] [(1,.c [(2,vi s1)])] [0] [] [])<|hI 1 10 0 (fun(s2:Bool) K=>K [2,6] [(1,.r [])] [0] [(49,vb s2)] [])<|
 au
abbrev zUq:=@Cn.mk 95 0 _ @zUx
theorem zJx{y0:List zA}{y1:Int}: zN qd prog 89 [sv p1 y0 c1,vi y1] [] [Rl wD p1 c1 y0] (xX y0 y1) fun r K=>K (vs r) [] [] :=
 zS call89 func89 u fun X=>
 au
abbrev z0R:=@Cn.mk 89 0 _ @zJx
theorem zNf{y0:zA}: zN qd prog 94 [vs y0] [] [] (zCD y0) fun r K=>K (vi r) [] [] :=
 zS call94 func94 u fun X=>
 au
abbrev zNX:=@Cn.mk 94 0 _ @zNf
theorem zQc{y0:zA}: zN qd prog 93 [vs y0] [] [] (zBN y0) fun r K=>K (vi r) [] [] :=
 zS call93 func93 u fun X=>
 au
abbrev zQ9:=@Cn.mk 93 0 _ @zQc
theorem zHK{y0:zA}: zN qd prog 88 [vs y0] [] [] (zAl y0) fun r K=>K (vi r) [] [] :=
 zS call88 func88 u fun X=>hI 1 1 0 (fun(s1:Bool) K=>K [0] [] [] [(22,vb s1)] [])<|hI 0 5 2 (fun(s2:Int×Int) K=>K [0] [] [] [(3,vi s2.1),(4,vi s2.2)] [])<|hI 1 7 0 (fun(s3:Bool) K=>K [0,3,4] [] [] [(38,vb s3)] [])<|
 au
abbrev zTG:=@Cn.mk 88 0 _ @zHK
theorem zWe{y0:zA}{y1:Int}: zN qd prog 90 [vs y0,vi y1] [] [] (zEr y0 y1) fun r K=>K (vs r) [] [] :=
 zS call90 func90 u fun X=>hI 0 2 2 (fun(s1:Int×Int) K=>K [0] [] [] [(1,vi s1.1),(5,vi s1.2)] [])<|
 au
abbrev zVk:=@Cn.mk 90 0 _ @zWe
theorem zG6{y0:zA}: zN qd prog 91 [vs y0] [] [] (zAV y0) fun r K=>K (vi r) [] [] :=
 zS call91 func91 u fun X=>
 au
abbrev zOe:=@Cn.mk 91 0 _ @zG6
theorem zOQ{y0:zA}: zN qd prog 87 [vs y0] [] [] (zIE y0) fun r K=>∀ p1 c1,K (sv p1 r c1) [] [Rl wD p1 c1 r] :=
 zS call87 func87 u fun X=>jA 1 u<|zG<|zB 1 u<|yO wD 9<|zI<|jA 1 u<|
  jjn (fun s1 K=>∀ p1 c1 r_1,K [(3,sv p1 s1.1 c1),(4,vs s1.2)] [r_1] [Al wD 9 r_1 p1 c1 s1.1]) (hI 0 4 2 (fun(s2:(List zA)×zA×Int) K=>∀ p2 c2 r_2,K [0] [(0,.r r_2)] [] [(3,sv p2 s2.1 c2),(4,vs s2.2.1),(5,vi s2.2.2)] [Al wD 9 r_2 p2 c2 s2.1])<|
 au
)<|fun s1 _ k p1 c1 r_1=>k<|zG<|zB 2 u<|uR .s (e:=wD) 9 [vs s1.2] ([s1.2]:List zA) (rC vS rN)<|fun p5 c5=>vK .s 0 1 u (gk 0) u u<|fun x5 r_4 p6 c6=>
  zB 1 u<|zI<|wC<|wW 0 0 u u<|
 au
abbrev zUU:=@Cn.mk 87 0 _ @zOQ
attribute [instance] zUq z0R zNX zQ9 zTG zVk zOe zUU
set_option maxHeartbeats 2000000 in
theorem zQG{y0:zA}: zN qd prog 40 [vs y0] [] [] (uN y0) fun r K=>∀ p1 c1 p2 c2,K (.agg (zAg r p1 c1 p2 c2).toArray) [] (xV r p1 c1 p2 c2 []) :=
 zS call40 func40 u fun X=>zG<|qN .s (.agg k0)<|fun b1=>zI<|zG<|zB 1 u<|
  wG zOQ u d<|fun r1 _ k p1 c1=>k<|zB 1 u<|zI<|zG<|zB 1 u<|wG zJx u (cq [0])<|fun r2 _ k=>k<|wG zHK u d<|fun r3 _ k=>k<|
  zL (.agg #[vi 0,vi r3,vi 0,vi 0,vs [],vi 0,vi 0,vi 0,vb false,vs [],.slice none 0 0,vb false,vs [],vi 0,vi 0,vi 0,vi 0,vi 0,vi 0,vi 0,vs [],.slice none 0 0])<|yO qU 23<|
  qN .s (.agg k0)<|fun b2=>zV .s 2 u u u<|zI<|
  qX (fun s1 K=>∀ p2 c2 r_1 p3 c3,K [2,4] [(1,r_1),(2,bx b2 34 [vi s1.1,vi r3,vi s1.2.1,vi s1.2.2.1,vs s1.2.2.2.1,vi (a4 s1).1,vi 0,vi (a5 s1).1,vb (a6 s1).1,vs (a7 s1).1,sv p2 (a8 s1).1 c2,vb (a9 s1).1,vs (wE s1).1,vi (qG s1).1,vi (qQ s1).1,vi (a13 s1).1,vi (a14 s1).1,vi (a15 s1).1,vi (a16 s1).1,vi (a17 s1).1,vs (a18 s1).1,sv p3 (a19 s1) c3])] [] [] [Al qU 23 r_1 p2 c2 (a8 s1).1,Rl qD p3 c3 (a19 s1)]) (
  qP<|zG<|zB 1 u<|tA 1 u u u<|fun x1 b3 o1=>tG false oS (gk 0) u<|zB 2 u<|zI<|zW u (
 au
)<|zG<|zB 1 u<|tA 2 u u u<|fun x2 b4 o2=>tG false oS (gk 0) u<|zB 2 u<|zI<|zW u (
 au
)<|zG<|zB 1 u<|tA 3 u u u<|fun x3 b5 o3=>tG false oS (gk 0) u<|zB 2 u<|zI<|zW u (
 au
)<|zG<|zB 1 u<|tA 4 u u u<|fun x4 b6 o4=>tG false oS (gk 0) u<|wG zG6 u d<|fun r6 _ k=>k<|zB 2 u<|
  zI<|zW u (zG<|zB 1 u<|tA 5 u u u<|fun x5 b7 o5=>tG false oS (gk 0) u<|wG zG6 u d<|fun r7 _ k=>k<|zO 0 u<|zV .s 2 u u u<|zO 5 u<|zO 0 u<|zV .s 2 u u u<|zI<|jA 1 u<|
  qX (fun s2 K=>K [2,3,4] [(2,bx b2 34 [vi 4,vi r3,vi 0,vi 0,vs [],vi r7,vi 0,vi s2.2,vb false,vs [],sv none ([]:List zE) 0,vb false,vs [],vi 0,vi 0,vi 0,vi 0,vi 0,vi 0,vi 0,vs [],.slice none 0 0])] [6,5] [(5,vi s2.1)] []) (
 au
)<|fun s2 _ k=>k<|zG<|zB 2 u<|wG zJx u (cq [0])<|fun r10 _ k=>k<|wG zOf u d<|fun r11 _ k=>k<|zB 3 u<|zO 5 u<|
  zO 3 u<|zV .s 2 u u u<|zI<|jA 1 u<|qP<|
  vN (fun s3 K=>∀ p4 c4 r_2,K [2,3,4] [(1,r_2),(2,bx b2 34 [vi 4,vi r3,vi 0,vi 0,vs [],vi r7,vi 0,vi s2.2,vb r11.1.1,vs r11.1.2,sv p4 s3.2 c4,vb false,vs [],vi 0,vi 0,vi 0,vi 0,vi 0,vi 0,vi 0,vs [],.slice none 0 0])] [0] [(6,vi s3.1)] [Al qU 23 r_2 p4 c4 s3.2]) (gv (fun _ k=>k none 0 []) [0,1,2] (gq [1,0]))<|
  fun s3 _ k p4 c4 r_2=>k<|hP 4 16 0 (fun K=>K [2,3,4,6] [] [1,0] [(79,vb ((decide (s3.1<(len r1)))&&(r7==3)))] [])<|
 au
)<|zG<|zB 1 u<|tA 5 u u u<|fun x8 b10 o7=>
  tG false oS (gk 0) u<|zB 2 u<|zI<|zW u (zG<|zB 1 u<|wG zJx u (cq [6])<|fun r13 _ k=>k<|wG zHK u d<|fun r14 _ k=>k<|zB 1 u<|wG zJx u (cq [6])<|fun r15 _ k=>k<|wG zHK u d<|
  fun r16 _ k=>k<|jv (v:=.agg #[vi r14,vi r16]) (fun h=>zUv h (by kernel_rfl))<|
 au
)<|hD 25 [] [] (.l [0,3,4,5] (.f 1 (.f 2 (.f 6 (.l [7,8] (.f 9 .e))))))<|
 au
)<|fun s1 _ k p2 c2 r_1 p3 c3=>k<|zG<|qV 2 22 u u u<|zV .s 0 u u u<|zI<|wC<|wW 1 0 u u<|
 au
abbrev zXQ:=@Cn.mk 40 0 _ @zQG
attribute [instance] zXQ
theorem zHS{y0:qZ}: zN qd prog 12 [.agg (zAg y0 p1 c1 p2 c2).toArray] [] (xV y0 p1 c1 p2 c2 []) (zCt y0) fun r K=>K (.tuple #[vs r.1,vi r.2]) [] [] :=
 zS call12 func12 u fun X=>hD 6 [] [0] (.l [0,2] (.f 1 (.f 3 (.l [4] .e))))<|hP 4 1 0 (fun K=>K [1] [] [0,1] [(12,vb ((decide (y0.1<1))||(decide (10<y0.1))))] [])<|hI 1 3 0 (fun(s1:Bool) K=>K [1] [] [0,1] [(21,vb s1)] [])<|
 au
abbrev zWN:=@Cn.mk 12 0 _ @zHS
theorem zT6{y0:vH}: zN qd prog 59 [pt b1 0] [bx b1 75 (zCH y0 p1 c1)] (zCB y0 p1 c1 []) (zHQ y0) fun r K=>K (vi r.1) [bx b1 75 [sv p1 y0.1 c1,vi r.2]] [] :=
 zS call59 func59 u fun X=>hD 1 [] [0] (.l [0,1,2,3,4,5,6,7,8,9] .e)<|hD 4 [] [0] (.l [0,1,2,3,4,5,6,7,8,9,10,11] .e)<|
 au
abbrev zTL:=@Cn.mk 59 0 _ @zT6
attribute [instance] zWN zTL
theorem zAt{y0:vH}{y1:Int}: zN qd prog 25 [pt b1 0,vi y1] [bx b1 75 (zCH y0 p1 c1)] (zCB y0 p1 c1 []) (yN y0 y1) fun r K=>K (vi r.1) [bx b1 75 [sv p1 y0.1 c1,vi r.2]] [] :=
 zS call25 func25 u fun X=>
 au
abbrev zWZ:=@Cn.mk 25 0 _ @zAt
attribute [instance] zWZ
theorem zKy (k:Nat):
    (∀ {y0:vH} {b1:Nat} {p1:Option Addr} {c1:Nat} {y1:Int} {y2:Int},zN qd prog 32 [pt b1 0,vi y1,vi y2] [bx b1 75 (zCH y0 p1 c1)] (zCB y0 p1 c1 []) (zAo k y0 y1 y2) fun r K=>∀ p2 c2,K (.agg #[vi ((fv r.1).1),vs ((fv r.1).2.1),sv p2 ((fv r.1).2.2) c2]) [bx b1 75 [sv p1 y0.1 c1,vi r.2]] [Rl qD p2 c2 ((fv r.1).2.2)]):=by
  induction k with
  | zero=>exact uP call32
  | succ k ih =>
    have ih_keep_Src_Formula:=@ih
    have zIv:=@Cn.mk 32 0 _ (@ih_keep_Src_Formula)
    exact @fun y0 b1 p1 c1 y1 y2=>zS (m1:=zAi (zAo k) y0 y1 y2) call32 func32 u fun X=>zG<|qN .s (.agg k1)<|fun b2=>zI<|zG<|zB 1 u<|qA .s [0] [] zAt u u u (cq [0])<|fun r1 _ k=>k<|zB 1 u<|zI<|zY<|
  z1H (fun K=>K [0,1,2,6,7] [] [0] [(18,vb ((decide (y2<1))||(decide (r1.1<4))))] []) (
 au
)<|fun _ k=>k<|zW u (zY<|jA 1 u<|qP<|jA 2 u<|zW u (
 au
)<|uW<|yT<|wS<|zG<|zB 2 u<|qA .s [0] [] zAt u u u (cq [0])<|fun r3 _ k=>k<|zB 1 u<|
  zL (.int .u8 (IntKind.u8.wrap (zF ((97:Int)+r3.1))))<|uR .s (e:=zR .u8) 5 [.int .u8 (IntKind.u8.wrap (zF ((97:Int)+r3.1)))] ([IntKind.u8.wrap (zF ((97:Int)+r3.1))]:List Int) (rC vI rN)<|fun p2 c2=>
  jsb .s (gk 0) u underlying68 underlying5 underlying9<|
 au
)<|jC<|zG<|
  uR .s (e:=zR .i64) 3 [vi 4,vi 4,vi 5,vi 5,vi 6,vi 6,vi 7,vi 8] ([4,4,5,5,6,6,7,8]:List Int) (rC vI (rC vI (rC vI (rC vI (rC vI (rC vI (rC vI (rC vI rN))))))))<|fun p3 c3=>zB 2 u<|tA 0 u u u<|fun x1 b3 o1=>
  tG false oI (gk 0) u<|zL (.agg #[vi x1,vs [],.slice none 0 0])<|yO qD 32<|qN .s (.agg k1)<|fun b4=>zV .s 3 u u u<|zI<|jA 1 u<|
  qX (fun s1 K=>K [0,1,2,6,8] [(0,bx b1 75 [sv p1 y0.1 c1,vi s1.2])] [3,0] [(9,vi s1.1)] []) (hI 1 12 1 (fun(s2:Bool) K=>K [0,1,2,6,8,9] [] [3,0] [(44,vb s2)] [])<|
 au
)<|fun s1 _ k=>k<|
  qX (fun s3 K=>∀ p4 c4 r_1,K [6,8] [(0,bx b1 75 [sv p1 y0.1 c1,vi s3.1]),(2,r_1),(3,bx b4 32 [vi x1,vs [],sv p4 s3.2 c4])] [0] [] [Al qD 32 r_1 p4 c4 s3.2]) (
  jA 1 u<|qP<|
  vN (fun s4 K=>∀ p5 c5 r_2,K [0,1,2,6,8,9] [(0,bx b1 75 [sv p1 y0.1 c1,vi s4.2.1]),(2,r_2),(3,bx b4 32 [vi x1,vs [],sv p5 s4.2.2 c5])] [0] [(10,vi s4.1)] [Al qD 32 r_2 p5 c5 s4.2.2]) (gv (fun _ k=>k none 0 []) [0,1,2,3] (gq [1,0]))<|
  fun s4 _ k p5 c5 r_2=>k<|zY<|jA 3 u<|zW u (jC<|zY<|qP<|uG [10] [3] 11<|qK 0 2 u u<|wO 1 3 u u u u<|zQ 5 [2,3,4,5] u<|zT 6<|qA (.f u) [0] [] ih_keep_Src_Formula u u u (cq [1])<|
  fun r5 _ k p6 c6=>k<|zM<|zT 7<|uR (.f u) (e:=qD) 32 [vi ((fv r5.1).1),vs ((fv r5.1).2.1),sv p6 ((fv r5.1).2.2) c6] ([r5.1]:List zC) (rC (vF (vP vI (vP vS (vL (gk 0))))) rN)<|fun p7 c7=>zM<|zT 8<|
  vK (.f u) 2 2 u (gk 0) u u<|fun x2 r_3 p8 c8=>zM<|qK 9 2 u u<|zT 10<|zV (o:=2) (.f u) 3 u u u<|jdb [] [3]<|qI<|
 au
)<|
 au
)<|fun s3 _ k p4 c4 r_1=>k<|zG<|qV 3 3 u u u<|zV .s 1 u u u<|zI<|wC<|wW 2 0 u u<|
 au
theorem zOa{y0:vH}{y1:Int}{y2:Int}: zN qd prog 32 [pt b1 0,vi y1,vi y2] [bx b1 75 (zCH y0 p1 c1)] (zCB y0 p1 c1 []) (zGf y0 y1 y2) fun r K=>∀ p2 c2,K (.agg #[vi ((fv r.1).1),vs ((fv r.1).2.1),sv p2 ((fv r.1).2.2) c2]) [bx b1 75 [sv p1 y0.1 c1,vi r.2]] [Rl qD p2 c2 ((fv r.1).2.2)]:=uO fun k=>(zKy k)
abbrev zIv:=@Cn.mk 32 0 _ @zOa
theorem zEh{y0:vH}{y1:Int}: zN qd prog 26 [pt b1 0,vi y1] [bx b1 75 (zCH y0 p1 c1)] (zCB y0 p1 c1 []) (zAq y0 y1) fun r K=>K (.agg #[vb r.1.1,vs r.1.2]) [bx b1 75 [sv p1 y0.1 c1,vi r.2]] [] :=
 zS call26 func26 u fun X=>zG<|qN .s (.agg #[vb false,vs []])<|fun b2=>zI<|zG<|zB 3 u<|qA .s [0] [] zAt u u u (cq [0])<|fun r1 _ k=>k<|zB 1 u<|zI<|zG<|zB 4 u<|yW fun x1 h1=>jv (fun h=>z1p h u u h1)<|zB 1 u<|
  zL (.int .u8 (IntKind.u8.wrap (zF ((97:Int)+x1))))<|uR .s (e:=zR .u8) 5 [.int .u8 (IntKind.u8.wrap (zF ((97:Int)+x1)))] ([IntKind.u8.wrap (zF ((97:Int)+x1))]:List Int) (rC vI rN)<|fun p2 c2=>
  jsb .s (gk 0) u underlying68 underlying5 underlying9<|
 au
abbrev zOD:=@Cn.mk 26 0 _ @zEh
theorem zLx{y0:vH}{y1:List Int}: zN qd prog 29 [pt b1 0,sv p2 y1 c2] [bx b1 75 (zCH y0 p1 c1)] (zCB y0 p1 c1 [Rl (zR .i64) p2 c2 y1]) (zDV y0 y1) fun r K=>K (vi r.1) [bx b1 75 [sv p1 y0.1 c1,vi r.2]] [] :=
 zS call29 func29 u fun X=>
 au
abbrev zSF:=@Cn.mk 29 0 _ @zLx
theorem zCU{y0:vH}{y1:Int}{y2:Int}: zN qd prog 19 [pt b1 0,vi y1,vi y2] [bx b1 75 (zCH y0 p1 c1)] (zCB y0 p1 c1 []) (zAj y0 y1 y2) fun r K=>K (vi r.1) [bx b1 75 [sv p1 y0.1 c1,vi r.2]] [] :=
 zS call19 func19 u fun X=>
 au
abbrev zRA:=@Cn.mk 19 0 _ @zCU
theorem zIb{y0:vH}{y1:List zA}: zN qd prog 28 [pt b1 0,sv p2 y1 c2] [bx b1 75 (zCH y0 p1 c1)] (zCB y0 p1 c1 [Rl wD p2 c2 y1]) (zC9 y0 y1) fun r K=>K (vs r.1) [bx b1 75 [sv p1 y0.1 c1,vi r.2]] [] :=
 zS call28 func28 u fun X=>
 au
abbrev zSU:=@Cn.mk 28 0 _ @zIb
end Go.Proofs.YtcoildnkgkbjfaaGreatDoor
