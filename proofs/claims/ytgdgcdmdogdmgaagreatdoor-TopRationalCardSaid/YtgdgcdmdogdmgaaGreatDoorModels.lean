/- A part. Conditions: none. -/
import Derived.Test.YtgdgcdmdogdmgaaGreatDoorLib
namespace Go.GD
set_option autoImplicit false
noncomputable section
set_option linter.unusedVariables false
abbrev uK:=(List Int)×Int
abbrev zC:=Bool×zD
abbrev qZ:=zC×Int×Int×zD
abbrev zR:=zD×Bool×Int×(List zC)×zC
abbrev wB:=zD×Int×zC
abbrev zI:=(List qZ)×(List zR)×(List wB)
abbrev zAX:=(List zD)×Bool
abbrev zF:=Int×Int×(List Int)×zC
abbrev uH:=zI×(List zF)×(List zF)×Int
abbrev vQ:=Int×Int
abbrev qL:=Int×Int×Int×Int
abbrev qA:=Int×Int
abbrev qE:=Int×(List qA)
abbrev zFE:=zI×(List zF)×(List qL)×qE
abbrev yJ:=Int×(List (List Int))×(List Int)×(List (List Int))×Bool
def zBE:List zD:=[[],[97,120,105,111,109],[112,114,101,109,105,115,101],[97,115,115,117,109,101]]
def yC:List Int:=[0,1,56,2,57,49,28,3,61,58,42,50,38,29,17,4,62,47,59,36,45,43,51,22,53,39,33,30,24,18,12,5,63,55,48,27,60,41,37,16,46,35,44,21,52,32,23,11,54,26,40,15,34,20,31,10,25,14,19,9,13,8,7,6]
def zBy (y0:uH): Option Bool :=
 some (decide (40<(zM ((len y0.2.1)+(len y0.2.2.1)))))
def zB4 (y0:List zF)(y1:Int): Option Bool :=
 some ((decide (0≤y1))&&(decide (y1<(len y0))))
def zO6 (y0:List Int)(s1:Int)(s3:(List Int)×Int×Int): Option (((List Int)×Int×Int)⊕((List Int)×Int)) :=
 if decide (s3.2.2<((Int.toNat (((List.length y0:Nat):Int)-s1):Nat):Int)) then
 (zYA s3.1 s1 s3.2.2).bind fun x3 =>
 (zYA s3.1 s1 (zM (s3.2.2-1))).bind fun x4 =>
 if x3 != x4 then
 (zYA s3.1 s1 s3.2.2).bind fun x5 =>
 (zB s3.1 s3.2.1).bind fun _ =>
 some (.inl (List.set s3.1 (Int.toNat s3.2.1) x5,zM (s3.2.1+1),zM (s3.2.2+1)))
 else
 some (.inl (s3.1,s3.2.1,zM (s3.2.2+1)))
 else
 some (.inr (s3.1,s3.2.1))
def zGz (y0:List Int)(s1:Int): Option (Int⊕(List Int)) :=
 if decide (s1<(len y0)) then
 (zB y0 s1).bind fun x1 =>
 (zB y0 (zM (s1-1))).bind fun x2 =>
 if x1==x2 then
 (wV (decide (0≤s1)&&decide (s1≤len y0))).bind fun _ =>
 (zN (zO6 y0 s1) (y0,s1,1):Option ((List Int)×Int)).bind fun s2 =>
 (wV (decide (0≤s2.2)&&decide (s2.2≤len s2.1))).bind fun _ =>
 (sub (zDI s2.1 s2.2 0) 0 s2.2).bind fun x7 =>
 some (.inr x7)
 else
 some (.inl (zM (s1+1)))
 else
 some (.inr y0)
def zBh (y0:List Int): Option (List Int) :=
 if decide ((len y0)<2) then
 some y0
 else
 zN (zGz y0) 1
def zCD (y0:List Int): Option (List Int):=z8z y0
def zDo (x1:zF)(rec_argument_Subs:(List zF)->Int->Option (List Int))(y0:List zF)(s2:(List Int)×Int): Option (((List Int)×Int)⊕(List Int)) :=
 if decide (s2.2<(len x1.2.2.1)) then
 (zB x1.2.2.1 s2.2).bind fun x2 =>
 (rec_argument_Subs y0 x2).bind fun r2 =>
 (qG s2.1 r2).bind fun x3 =>
 some (.inl (x3,zM (s2.2+1)))
 else
 some (.inr s2.1)
def zGO (rec_argument_Subs:(List zF)->Int->Option (List Int))(y0:List zF)(y1:Int): Option (List Int) :=
 (zB4 y0 y1).bind fun r1 =>
 if !r1 then
 some ([]:List Int)
 else
 (
 (zB y0 y1).bind fun x1 =>
 zN (zDo x1 rec_argument_Subs y0) (([y1]:List Int),0):Option (List Int)).bind fun s1 =>
 (zCD s1).bind fun r3 =>
 (zBh r3).bind fun r4 =>
 some r4
def zDc:Nat->(List zF)->Int->Option (List Int)
 | 0=>fun _ _=>none
 | k+1=>fun y0 y1=>zGO (zDc k) y0 y1
def zEW (y0:List zF)(y1:Int): Option (List Int):=z6b fun k=>zDc k y0 y1
def zDm (r1:(List Int))(y1:List zF)(y0:zI)(s2:(List Int)×Int): Option (((List Int)×Int)⊕(List Int)) :=
 if decide (s2.2<(len r1)) then
 (zB r1 s2.2).bind fun x1 =>
 (zB y1 x1).bind fun x2 =>
 (
 if decide (0≤x2.2.1) then
 (zB y0.2.1 x2.2.1).bind fun x3 =>
 some (!x3.2.1)
 else
 some false:Option Bool).bind fun s3 =>
 if s3 then
 (qG s2.1 ([x2.2.1]:List Int)).bind fun x4 =>
 some (.inl (x4,zM (s2.2+1)))
 else
 some (.inl (s2.1,zM (s2.2+1)))
 else
 some (.inr s2.1)
def zCO (y0:zI)(y1:List zF)(y2:Int): Option (List Int) :=
 (
 (zEW y1 y2).bind fun r1 =>
 zN (zDm r1 y1 y0) (([]:List Int),0):Option (List Int)).bind fun s1 =>
 (zCD s1).bind fun r2 =>
 (zBh r2).bind fun r3 =>
 some r3
def zCt (x4:zF)(rec_argument_run:zI->(List zF)->Int->Option (List zC))(y0:zI)(y1:List zF)(s2:(List zC)×Int): Option (((List zC)×Int)⊕(List zC)) :=
 if decide (s2.2<(len x4.2.2.1)) then
 (zB x4.2.2.1 s2.2).bind fun x5 =>
 (rec_argument_run y0 y1 x5).bind fun r1 =>
 (apw s2.1 r1).bind fun x6 =>
 some (.inl (x6,zM (s2.2+1)))
 else
 some (.inr s2.1)
def zD8 (rec_argument_run:zI->(List zF)->Int->Option (List zC))(y0:zI)(y1:List zF)(y2:Int): Option (List zC) :=
 (zB y1 y2).bind fun x1 =>
 (zB y1 y2).bind fun x2 =>
 (
 if decide (0≤x2.2.1) then
 (zB y0.2.1 x2.2.1).bind fun x3 =>
 some x3.2.1
 else
 some false:Option Bool).bind fun s1 =>
 if s1 then
 (zB y1 y2).bind fun x4 =>
 zN (zCt x4 rec_argument_run y0 y1) (([x1.2.2.2]:List zC),0)
 else
 some ([x1.2.2.2]:List zC)
def zBW:Nat->zI->(List zF)->Int->Option (List zC)
 | 0=>fun _ _ _=>none
 | k+1=>fun y0 y1 y2=>zD8 (zBW k) y0 y1 y2
def zH4 (y0:zI)(y1:List zF)(y2:Int): Option (List zC):=z6b fun k=>zBW k y0 y1 y2
def zN4 (y0:List zC)(y1:zC)(s1:Int): Option (Int⊕Int) :=
 if decide (s1<(len y0)) then
 (zB y0 s1).bind fun x1 =>
 if y1==x1 then
 some (.inr s1)
 else
 some (.inl (zM (s1+1)))
 else
 some (.inr (-1))
def zCf (y0:List zC)(y1:zC): Option Int :=
 zN (zN4 y0 y1) 0
def zCh (y0:List zC)(y1:zC): Option Bool :=
 (zCf y0 y1).bind fun r1 =>
 some (decide (0≤r1))
def zF2 (y0:List zC)(y1:zC): Option Bool :=
 (zCh y0 y1).bind fun r1 =>
 some r1
def zLK (y0:List Int)(y1:Int)(s1:Int): Option (Int⊕Int) :=
 if decide (s1<(len y0)) then
 (zB y0 s1).bind fun x1 =>
 if y1==x1 then
 some (.inr s1)
 else
 some (.inl (zM (s1+1)))
 else
 some (.inr (-1))
def zFP (y0:List Int)(y1:Int): Option Int :=
 zN (zLK y0 y1) 0
def zBU (y0:List Int)(y1:Int): Option Bool :=
 (zFP y0 y1).bind fun r1 =>
 some (decide (0≤r1))
def zDK (y3:List Int)(y0:zI)(y2:Int)(y1:List zF)(s1:Int): Option (Int⊕Bool) :=
 if decide (s1<(len y3)) then
 (zB y3 s1).bind fun x1 =>
 (zB y0.2.1 y2).bind fun x2 =>
 if x2.2.1 then
 (zB y0.2.1 y2).bind fun x3 =>
 (zH4 y0 y1 x1).bind fun r1 =>
 (zF2 r1 x3.2.2.2.2).bind fun r2 =>
 if r2 then
 some (.inr false)
 else
 some (.inl (zM (s1+1)))
 else
 (zCO y0 y1 x1).bind fun r3 =>
 (zBU r3 y2).bind fun r4 =>
 if r4 then
 some (.inr false)
 else
 some (.inl (zM (s1+1)))
 else
 some (.inr true)
def zD4 (y0:zI)(y1:List zF)(y2:Int)(y3:List Int): Option Bool :=
 zN (zDK y3 y0 y2 y1) 0
def zFI (y0:List Int): Option (List Int) :=
 (qG ([]:List Int) y0).bind fun x1 =>
 some x1
def zEy (y0:Int)(y2:uH): Option Bool :=
 some (decide (y2.2.2.2≤y0))
def zA6 (y0:List Int)(y2:uH)(s1:Int): Option (Int⊕Int) :=
 if decide (s1<(len y0)) then
 (zB y0 s1).bind fun x1 =>
 (zEy x1 y2).bind fun r1 =>
 if r1 then
 some (.inr s1)
 else
 some (.inl (zM (s1+1)))
 else
 some (.inr (-1))
def zAS (y0:List Int)(y2:uH): Option Int :=
 zN (zA6 y0 y2) 0
def zAA (y0:List Int)(y2:uH): Option Bool :=
 (zAS y0 y2).bind fun r1 =>
 some (decide (0≤r1))
def zB5 (y0:uH)(x1:zR)(y2:List Int)(rec_argument_builder_apply_2:uH->Int->(List Int)->Option (List zF))(y1:Int)(s2:Int×(List zF)): Option ((Int×(List zF))⊕(Unit⊕(List zF))) :=
 if decide (s2.1<(len y0.2.1)) then
 (zB y0.2.1 s2.1).bind fun x2 =>
 (zB x1.2.2.2.1 (len y2)).bind fun x3 =>
 if x2.2.2.2==x3 then
 (
 (zFI y2).bind fun r2 =>
 (qG r2 ([s2.1]:List Int)).bind fun x4 =>
 (rec_argument_builder_apply_2 (y0.1,y0.2.1,s2.2,y0.2.2.2) y1 x4).bind fun r3 =>
 some r3:Option (List zF)).bind fun s3 =>
 some (.inl (zM (s2.1+1),s3))
 else
 some (.inl (zM (s2.1+1),s2.2))
 else
 some (.inr (.inr s2.2))
def zBs (rec_argument_builder_apply_2:uH->Int->(List Int)->Option (List zF))(y0:uH)(y1:Int)(y2:List Int): Option (List zF) :=
 (zB y0.1.2.1 y1).bind fun x1 =>
 (zBy y0).bind fun r1 =>
 if r1 then
 some y0.2.2.1
 else
 wZ (
 if decide ((len y2)<(len x1.2.2.2.1)) then
 zN (zB5 y0 x1 y2 rec_argument_builder_apply_2 y1) (0,y0.2.2.1)
 else
 some (.inl ()):Option (Unit⊕(List zF))) fun _ =>
 (
 (zAA y2 y0).bind fun r6 =>
 if r6 then
 (zD4 y0.1 y0.2.1 y1 y2).bind fun r7 =>
 some r7
 else
 some false:Option Bool).bind fun s4 =>
 if s4 then
 (zB y0.1.2.1 y1).bind fun x6 =>
 (qG y0.2.2.1 ([((-1),y1,y2,x6.2.2.2.2)]:List zF)).bind fun x7 =>
 some x7
 else
 some y0.2.2.1
def zBN:Nat->uH->Int->(List Int)->Option (List zF)
 | 0=>fun _ _ _=>none
 | k+1=>fun y0 y1 y2=>zBs (zBN k) y0 y1 y2
def zBr (y0:uH)(y1:Int)(y2:List Int): Option (List zF):=z6b fun k=>zBN k y0 y1 y2
def zKg (y0:zR)(y1:zD): Option Bool :=
 some (y0.1==y1)
def zBS (y0:List zR)(y1:zD)(s1:Int): Option (Int⊕Int) :=
 if decide (s1<(len y0)) then
 (zB y0 s1).bind fun x1 =>
 (zKg x1 y1).bind fun r1 =>
 if r1 then
 some (.inr s1)
 else
 some (.inl (zM (s1+1)))
 else
 some (.inr (-1))
def zAu (y0:List zR)(y1:zD): Option Int :=
 zN (zBS y0 y1) 0
def zDd (y0:zI)(y1:zD): Option Int :=
 (zAu y0.2.1 y1).bind fun r1 =>
 some r1
def zIq (y0:qZ)(y1:zC): Option Bool :=
 some (y0.1==y1)
def zAl (y0:List qZ)(y1:zC)(s1:Int): Option (Int⊕Int) :=
 if decide (s1<(len y0)) then
 (zB y0 s1).bind fun x1 =>
 (zIq x1 y1).bind fun r1 =>
 if r1 then
 some (.inr s1)
 else
 some (.inl (zM (s1+1)))
 else
 some (.inr (-1))
def zAZ (y0:List qZ)(y1:zC): Option Int :=
 zN (zAl y0 y1) 0
def zDr (y0:zI)(y1:zC): Option Int :=
 (zAZ y0.1 y1).bind fun r1 =>
 some r1
def zEp (y0:zD)(s1:Int): Option (Int⊕Bool) :=
 if decide (s1<(len y0)) then
 (z2G y0 s1).bind fun x1 =>
 if(decide (97≤x1))&&(decide (x1≤122)) then
 some (.inl (zM (s1+1)))
 else
 if(decide (0<s1))&&(if decide (48≤x1) then(decide (x1≤57))||(x1==95) else x1==95) then
 some (.inl (zM (s1+1)))
 else
 some (.inr false)
 else
 some (.inr true)
def zBv (y0:zD): Option Bool :=
 if((len y0)==0)||(decide (12<(len y0))) then
 some false
 else
 zN (zEp y0) 0
def zCN (y0:zC): Option Bool :=
 (zBv y0.2).bind fun r1 =>
 some r1
def zD2 (y0:Int): Option Bool :=
 some ((decide (0≤y0))&&(decide (y0≤9)))
def zFX (y0:zD): Option Bool :=
 (
 if y0==[] then
 some true
 else
 (zBv y0).bind fun r1 =>
 some r1:Option Bool).bind fun s1 =>
 some s1
def zDk (y0:qZ): Option Int :=
 wZ (
 (
 if y0.2.1==1 then
 some (y0.2.1==1)
 else
 some (y0.2.1==3):Option Bool).bind fun s2 =>
 if s2 then
 if y0.2.2.1 != 0 then
 some (.inr 1)
 else
 some (.inl ())
 else
 if y0.2.1==2 then
 (zD2 y0.2.2.1).bind fun r1 =>
 if !r1 then
 some (.inr 1)
 else
 some (.inl ())
 else
 some (.inr 4):Option (Unit⊕Int)) fun _ =>
 (
 (zCN y0.1).bind fun r2 =>
 if !r2 then
 some true
 else
 (zFX y0.2.2.2).bind fun r3 =>
 some (!r3):Option Bool).bind fun s3 =>
 if s3 then
 some 1
 else
 some 0
def zDL (y0:zI)(y1:wB): Option Int :=
 (
 (zD2 y1.2.1).bind fun r1 =>
 if !r1 then
 some true
 else
 (zCN y1.2.2).bind fun r2 =>
 some (!r2):Option Bool).bind fun s1 =>
 if s1 then
 some 1
 else
 (zDd y0 y1.1).bind fun r3 =>
 if decide (r3<0) then
 some 6
 else
 (zB y0.2.1 r3).bind fun x1 =>
 if x1.2.1 then
 some 4
 else
 some 0
def zFK (y0:zD): Option Bool :=
 some (!(y0==y0))
def zFv (y0:zD)(y1:zD): Option Int :=
 (zFK y0).bind fun r1 =>
 (zFK y1).bind fun r2 =>
 if r1 then
 if r2 then
 some 0
 else
 some (-1)
 else
 if r2 then
 some 1
 else
 if uV y0 y1 then
 some (-1)
 else
 if !(uV y0 y1||y0==y1) then
 some 1
 else
 some 0
def zC2 (y0:zC)(y1:zC): Option Int :=
 (zFv y0.2 y1.2).bind fun r1 =>
 if(r1 != 0)||(y0.1==y1.1) then
 some r1
 else
 if y1.1 then
 some (-1)
 else
 some 1
def zDi (y0:zR)(s3:Int): Option (Int⊕(Unit⊕Int)) :=
 if decide (s3<(len y0.2.2.2.1)) then
 (zB y0.2.2.2.1 s3).bind fun x1 =>
 (zCN x1).bind fun r4 =>
 if !r4 then
 some (.inr (.inr 1))
 else
 some (.inl (zM (s3+1)))
 else
 some (.inr (.inl ()))
def zHf (y0:zR)(s4:Int): Option (Int⊕Int) :=
 if decide (s4<(len y0.2.2.2.1)) then
 (zB y0.2.2.2.1 (zM (s4-1))).bind fun x2 =>
 (zB y0.2.2.2.1 s4).bind fun x3 =>
 (zC2 x2 x3).bind fun r5 =>
 if decide (0≤r5) then
 some (.inr 8)
 else
 some (.inl (zM (s4+1)))
 else
 some (.inr 0)
def zG3 (y0:zR): Option Int :=
 if decide (4<(len y0.2.2.2.1)) then
 some 2
 else
 (
 (zBv y0.1).bind fun r1 =>
 if !r1 then
 some true
 else
 (zCN y0.2.2.2.2).bind fun r2 =>
 if !r2 then
 some true
 else
 (zD2 y0.2.2.1).bind fun r3 =>
 if !r3 then
 some true
 else
 if y0.2.1 then
 some (y0.2.2.1 != 0)
 else
 some false:Option Bool).bind fun s1 =>
 if s1 then
 some 1
 else
 wZ (zN (zDi y0) 0:Option (Unit⊕Int)) fun _ =>
 zN (zHf y0) 1
def zCb (y0:zI)(s2:Int): Option (Int⊕(Unit⊕Int)) :=
 if decide (s2<(len y0.1)) then
 (zB y0.1 s2).bind fun x1 =>
 (zDk x1).bind fun r1 =>
 if r1 != 0 then
 some (.inr (.inr r1))
 else
 (zDr y0 x1.1).bind fun r2 =>
 if decide (r2<s2) then
 some (.inr (.inr 5))
 else
 some (.inl (zM (s2+1)))
 else
 some (.inr (.inl ()))
def zCe (y0:zI)(s4:Int): Option (Int⊕(Unit⊕Int)) :=
 if decide (s4<(len y0.2.1)) then
 (zB y0.2.1 s4).bind fun x2 =>
 (zG3 x2).bind fun r3 =>
 if r3 != 0 then
 some (.inr (.inr r3))
 else
 (zDd y0 x2.1).bind fun r4 =>
 if decide (r4<s4) then
 some (.inr (.inr 5))
 else
 some (.inl (zM (s4+1)))
 else
 some (.inr (.inl ()))
def zCg (y0:zI)(s5:Int): Option (Int⊕Int) :=
 if decide (s5<(len y0.2.2)) then
 (zB y0.2.2 s5).bind fun x3 =>
 (zDL y0 x3).bind fun r5 =>
 if r5 != 0 then
 some (.inr r5)
 else
 some (.inl (zM (s5+1)))
 else
 some (.inr 0)
def zBY (y0:zI): Option Int :=
 if(decide (16<(len y0.1)))||((decide (24<(len y0.2.1)))||(decide (8<(len y0.2.2)))) then
 some 2
 else
 wZ (zN (zCb y0) 0:Option (Unit⊕Int)) fun _ =>
 wZ (zN (zCe y0) 0:Option (Unit⊕Int)) fun _ =>
 zN (zCg y0) 0
def zEY (y0:zI)(s2:Int×(List zF)): Option ((Int×(List zF))⊕(List zF)) :=
 if decide (s2.1<(len y0.1)) then
 (zB y0.1 s2.1).bind fun x1 =>
 (qG s2.2 ([(s2.1,(-1),([]:List Int),x1.1)]:List zF)).bind fun x2 =>
 some (.inl (zM (s2.1+1),x2))
 else
 some (.inr s2.2)
def zCr (y0:zI)(s4:Int×(List zF)×(List zF)×Int)(s6:Int×(List zF)): Option ((Int×(List zF))⊕((List zF)⊕((Int×(List zF)×(List zF)×Int)⊕((List zF)×(List zF)×Int)))) :=
 if decide (s6.1<(len y0.2.1)) then
 (zB y0.2.1 s6.1).bind fun x3 =>
 (
 if decide (0<(len x3.2.2.2.1)) then
 (zBr (y0,s4.2.1,s6.2,s4.2.2.2) s6.1 ([]:List Int)).bind fun r2 =>
 some r2
 else
 if s4.1==1 then
 (qG s6.2 ([((-1),s6.1,([]:List Int),x3.2.2.2.2)]:List zF)).bind fun x4 =>
 some x4
 else
 some s6.2:Option (List zF)).bind fun s7 =>
 (zBy (y0,s4.2.1,s7,s4.2.2.2)).bind fun r3 =>
 if r3 then
 some (.inr (.inr (.inr (s4.2.1,s7,s4.2.2.2))))
 else
 some (.inl (zM (s6.1+1),s7))
 else
 some (.inr (.inl s6.2))
def zBd (y0:zI)(s4:Int×(List zF)×(List zF)×Int): Option ((Int×(List zF)×(List zF)×Int)⊕((List zF)×(List zF)×Int)) :=
 wZ (zN (zCr y0 s4) (0,([]:List zF)):Option ((List zF)⊕((Int×(List zF)×(List zF)×Int)⊕((List zF)×(List zF)×Int)))) fun s5 =>
 if(len s5)==0 then
 some (.inr (s4.2.1,s5,s4.2.2.2))
 else
 (qG s4.2.1 s5).bind fun x5 =>
 some (.inl (zM (s4.1+1),x5,s5,len s4.2.1))
def zDw (y0:zI): Option ((List zF)×Int) :=
 (zBY y0).bind fun r1 =>
 if r1 != 0 then
 some (([]:List zF),r1)
 else
 (zN (zEY y0) (0,([]:List zF)):Option (List zF)).bind fun s1 =>
 (zN (zBd y0) (1,s1,([]:List zF),0):Option ((List zF)×(List zF)×Int)).bind fun s3 =>
 (zBy (y0,s3.1,s3.2.1,s3.2.2)).bind fun r4 =>
 if r4 then
 some (([]:List zF),2)
 else
 some (s3.1,0)
def zCd (y0:List zC): Option (List zC) :=
 (qG ([]:List zC) y0).bind fun x1 =>
 some x1
def zMR (y0:List zC)(s1:Int)(s3:(List zC)×Int×Int): Option (((List zC)×Int×Int)⊕((List zC)×Int)) :=
 if decide (s3.2.2<((Int.toNat (((List.length y0:Nat):Int)-s1):Nat):Int)) then
 (zYA s3.1 s1 s3.2.2).bind fun x3 =>
 (zYA s3.1 s1 (zM (s3.2.2-1))).bind fun x4 =>
 if !(x3==x4) then
 (zYA s3.1 s1 s3.2.2).bind fun x5 =>
 (zB s3.1 s3.2.1).bind fun _ =>
 some (.inl (List.set s3.1 (Int.toNat s3.2.1) x5,zM (s3.2.1+1),zM (s3.2.2+1)))
 else
 some (.inl (s3.1,s3.2.1,zM (s3.2.2+1)))
 else
 some (.inr (s3.1,s3.2.1))
def zEf (y0:List zC)(s1:Int): Option (Int⊕(List zC)) :=
 if decide (s1<(len y0)) then
 (zB y0 s1).bind fun x1 =>
 (zB y0 (zM (s1-1))).bind fun x2 =>
 if x1==x2 then
 (wV (decide (0≤s1)&&decide (s1≤len y0))).bind fun _ =>
 (zN (zMR y0 s1) (y0,s1,1):Option ((List zC)×Int)).bind fun s2 =>
 (wV (decide (0≤s2.2)&&decide (s2.2≤len s2.1))).bind fun _ =>
 (sub (zDI s2.1 s2.2 (false,[])) 0 s2.2).bind fun x7 =>
 some (.inr x7)
 else
 some (.inl (zM (s1+1)))
 else
 some (.inr y0)
def zCK (y0:List zC): Option (List zC) :=
 if decide ((len y0)<2) then
 some y0
 else
 zN (zEf y0) 1
def zAR (y0:List zC): Option (List zC):=zZ7 zC2 y0
def zB7 (y0:List zC): Option (List zC) :=
 (zCd y0).bind fun r1 =>
 (zAR r1).bind fun r2 =>
 (zCK r2).bind fun r3 =>
 some r3
def zD7 (y1:List Int)(y0:List zF)(s2:(List zC)×Int): Option (((List zC)×Int)⊕(List zC)) :=
 if decide (s2.2<(len y1)) then
 (zB y1 s2.2).bind fun x1 =>
 (zB4 y0 x1).bind fun r1 =>
 if r1 then
 (zB y0 x1).bind fun x2 =>
 (qG s2.1 ([x2.2.2.2]:List zC)).bind fun x3 =>
 some (.inl (x3,zM (s2.2+1)))
 else
 some (.inl (s2.1,zM (s2.2+1)))
 else
 some (.inr s2.1)
def zCG (y0:List zF)(y1:List Int): Option (List zC) :=
 (zN (zD7 y1 y0) (([]:List zC),0):Option (List zC)).bind fun s1 =>
 (zB7 s1).bind fun r2 =>
 some r2
def zCF (y0:zC): Option zC :=
 some (!y0.1,y0.2)
def zKz (y0:zI)(y1:List zF)(y2:Int)(y3:Int): Option (List Int) :=
 (
 (zB y1 y2).bind fun x1 =>
 (zB y1 y3).bind fun x2 =>
 some (x1.2.2.2,x2):Option (zC×zF)).bind fun s1 =>
 (zCF s1.2.2.2.2).bind fun r1 =>
 if decide (0≤s1.2.1) then
 (
 if s1.1==r1 then
 (zB y0.1 s1.2.1).bind fun x3 =>
 some (x3.2.1 != 1)
 else
 some false:Option Bool).bind fun s2 =>
 if s2 then
 (qG ([]:List Int) ([1]:List Int)).bind fun x4 =>
 some x4
 else
 some ([]:List Int)
 else
 (zB y0.2.1 s1.2.2.1).bind fun x5 =>
 if !x5.2.1 then
 (
 if s1.1==r1 then
 (qG ([]:List Int) ([2]:List Int)).bind fun x6 =>
 some x6
 else
 some ([]:List Int):Option (List Int)).bind fun s3 =>
 (
 if s1.1.1 then
 (zB y0.2.1 s1.2.2.1).bind fun x7 =>
 some (s1.1.2==x7.1)
 else
 some false:Option Bool).bind fun s4 =>
 if s4 then
 (qG s3 ([3]:List Int)).bind fun x8 =>
 some x8
 else
 some s3
 else
 some ([]:List Int)
def zKO (y0:Int): Option Bool :=
 some (y0 != y0)
def zBn (y0:Int)(y1:Int): Option Int :=
 (zKO y0).bind fun r1 =>
 (zKO y1).bind fun r2 =>
 if r1 then
 if r2 then
 some 0
 else
 some (-1)
 else
 if r2 then
 some 1
 else
 if decide (y0<y1) then
 some (-1)
 else
 if decide (y1<y0) then
 some 1
 else
 some 0
def zWb (y0:List Int)(s1:Int): Option (Int⊕Int) :=
 if decide (s1<(len y0)) then
 (zB y0 s1).bind fun x1 =>
 if x1 != 0 then
 some (.inr x1)
 else
 some (.inl (zM (s1+1)))
 else
 some (.inr 0)
def zI0 (y0:List Int): Option Int :=
 zN (zWb y0) 0
def zDq (y0:qL)(y1:qL): Option Int :=
 (zBn y0.1 y1.1).bind fun r1 =>
 (zBn y0.2.1 y1.2.1).bind fun r2 =>
 (zBn y0.2.2.1 y1.2.2.1).bind fun r3 =>
 (zBn y0.2.2.2 y1.2.2.2).bind fun r4 =>
 (zI0 ([r1,r2,r3,r4]:List Int)).bind fun r5 =>
 some r5
def zAf (y0:List qL): Option (List qL):=zZ7 zDq y0
def zGs (r1:(List Int))(s3:(List qL)×Int)(s4:(List qL)×Int)(s2:(List qL)×Int)(s5:(List qL)×Int): Option (((List qL)×Int)⊕(((List qL)×Int)⊕(((List qL)×Int)⊕(((List qL)×Int)⊕(List qL))))) :=
 if decide (s5.2<(len r1)) then
 (zB r1 s5.2).bind fun x1 =>
 (qG s5.1 ([(s3.2,s4.2,s2.2,x1)]:List qL)).bind fun x2 =>
 some (.inl (x2,zM (s5.2+1)))
 else
 some (.inr (.inl (s5.1,zM (s4.2+1))))
def zD1 (y1:List zF)(s2:(List qL)×Int)(r1:(List Int))(s3:(List qL)×Int)(s4:(List qL)×Int): Option (((List qL)×Int)⊕(((List qL)×Int)⊕(((List qL)×Int)⊕(List qL)))) :=
 if decide (s4.2<(len y1)) then
 (zEW y1 s4.2).bind fun r2 =>
 (zBU r2 s2.2).bind fun r3 =>
 if !r3 then
 some (.inl (s4.1,zM (s4.2+1)))
 else
 zN (zGs r1 s3 s4 s2) (s4.1,0)
 else
 some (.inr (.inl (s4.1,zM (s3.2+1))))
def zD3 (y1:List zF)(y0:zI)(s2:(List qL)×Int)(s3:(List qL)×Int): Option (((List qL)×Int)⊕(((List qL)×Int)⊕(List qL))) :=
 if decide (s3.2<(len y1)) then
 (zKz y0 y1 s3.2 s2.2).bind fun r1 =>
 if(len r1)==0 then
 some (.inl (s3.1,zM (s3.2+1)))
 else
 zN (zD1 y1 s2 r1 s3) (s3.1,0)
 else
 some (.inr (.inl (s3.1,zM (s2.2+1))))
def zCq (y1:List zF)(y0:zI)(s2:(List qL)×Int): Option (((List qL)×Int)⊕(List qL)) :=
 if decide (s2.2<(len y1)) then
 zN (zD3 y1 y0 s2) (s2.1,0)
 else
 some (.inr s2.1)
def zFD (y0:zI)(y1:List zF): Option (List qL) :=
 (zN (zCq y1 y0) (([]:List qL),0):Option (List qL)).bind fun s1 =>
 (zAf s1).bind fun r4 =>
 some r4
def zEk (r1:(List Int))(y0:List zF)(s2:(List Int)×Int): Option (((List Int)×Int)⊕(List Int)) :=
 if decide (s2.2<(len r1)) then
 (zB r1 s2.2).bind fun x1 =>
 (zB y0 x1).bind fun x2 =>
 if decide (0≤x2.1) then
 (zB y0 x1).bind fun x3 =>
 (qG s2.1 ([x3.1]:List Int)).bind fun x4 =>
 some (.inl (x4,zM (s2.2+1)))
 else
 some (.inl (s2.1,zM (s2.2+1)))
 else
 some (.inr s2.1)
def zCo (y0:List zF)(y1:Int): Option (List Int) :=
 (
 (zEW y0 y1).bind fun r1 =>
 zN (zEk r1 y0) (([]:List Int),0):Option (List Int)).bind fun s1 =>
 (zCD s1).bind fun r2 =>
 some r2
def zJT (y0:Int)(y1:zI): Option Bool :=
 (zB y1.1 y0).bind fun x1 =>
 some (x1.2.1==3)
def zAp (y0:List Int)(y1:zI)(s1:Int): Option (Int⊕Int) :=
 if decide (s1<(len y0)) then
 (zB y0 s1).bind fun x1 =>
 (zJT x1 y1).bind fun r1 =>
 if r1 then
 some (.inr s1)
 else
 some (.inl (zM (s1+1)))
 else
 some (.inr (-1))
def zBI (y0:List Int)(y1:zI): Option Int :=
 zN (zAp y0 y1) 0
def zAm (y0:List Int)(y1:zI): Option Bool :=
 (zBI y0 y1).bind fun r1 =>
 some (decide (0≤r1))
def zH5 (y0:zI)(y1:List zF)(y2:Int): Option Bool :=
 (zCo y1 y2).bind fun r1 =>
 (zAm r1 y0).bind fun r2 =>
 some r2
def zDl (x5:zF)(rec_argument_Last:zI->(List zF)->Int->Option (List Int))(y0:zI)(y1:List zF)(s3:(List Int)×Int): Option (((List Int)×Int)⊕(List Int)) :=
 if decide (s3.2<(len x5.2.2.1)) then
 (zB x5.2.2.1 s3.2).bind fun x6 =>
 (rec_argument_Last y0 y1 x6).bind fun r2 =>
 (qG s3.1 r2).bind fun x7 =>
 some (.inl (x7,zM (s3.2+1)))
 else
 some (.inr s3.1)
def zGL (rec_argument_Last:zI->(List zF)->Int->Option (List Int))(y0:zI)(y1:List zF)(y2:Int): Option (List Int) :=
 (
 (zB4 y1 y2).bind fun r1 =>
 if !r1 then
 some true
 else
 (zB y1 y2).bind fun x1 =>
 some (decide (x1.2.1<0)):Option Bool).bind fun s1 =>
 if s1 then
 some ([]:List Int)
 else
 (zB y1 y2).bind fun x2 =>
 (zB y0.2.1 x2.2.1).bind fun x3 =>
 if !x3.2.1 then
 (zB y1 y2).bind fun x4 =>
 some ([x4.2.1]:List Int)
 else
 (
 (zB y1 y2).bind fun x5 =>
 zN (zDl x5 rec_argument_Last y0 y1) (([]:List Int),0):Option (List Int)).bind fun s2 =>
 (zCD s2).bind fun r3 =>
 (zBh r3).bind fun r4 =>
 some r4
def zDe:Nat->zI->(List zF)->Int->Option (List Int)
 | 0=>fun _ _ _=>none
 | k+1=>fun y0 y1 y2=>zGL (zDe k) y0 y1 y2
def zIH (y0:zI)(y1:List zF)(y2:Int): Option (List Int):=z6b fun k=>zDe k y0 y1 y2
def zKJ (y1:List Int)(y0:zI)(s1:(List Int)×Int): Option (((List Int)×Int)⊕(List Int)) :=
 if decide (s1.2<(len y1)) then
 (zB y1 s1.2).bind fun x1 =>
 (zB y0.2.1 x1).bind fun x2 =>
 (qG s1.1 ([x2.2.2.1]:List Int)).bind fun x3 =>
 some (.inl (x3,zM (s1.2+1)))
 else
 some (.inr s1.1)
def zJh (y0:zI)(y1:List Int): Option (List Int) :=
 zN (zKJ y1 y0) (([]:List Int),0)
def zCn (y0:zI)(y1:List zF)(y2:Int): Option (List Int) :=
 (zIH y0 y1 y2).bind fun r1 =>
 (zJh y0 r1).bind fun r2 =>
 some r2
def zGg (y0:List Int)(s2:Int×Int): Option ((Int×Int)⊕Int) :=
 if decide (s2.2<(len y0)) then
 (zB y0 s2.2).bind fun x2 =>
 some (.inl (if x2 > s2.1 then x2 else s2.1,zM (s2.2+1)))
 else
 some (.inr s2.1)
def zDs (y0:List Int): Option Int :=
 (
 if decide ((len y0)<1) then
 none
 else
 some ():Option Unit).bind fun _ =>
 (zB y0 0).bind fun x1 =>
 zN (zGg y0) (x1,1)
def zGi (y0:List Int)(s2:Int×Int): Option ((Int×Int)⊕Int) :=
 if decide (s2.2<(len y0)) then
 (zB y0 s2.2).bind fun x2 =>
 some (.inl (if x2<s2.1 then x2 else s2.1,zM (s2.2+1)))
 else
 some (.inr s2.1)
def zEA (y0:List Int): Option Int :=
 (
 if decide ((len y0)<1) then
 none
 else
 some ():Option Unit).bind fun _ =>
 (zB y0 0).bind fun x1 =>
 zN (zGi y0) (x1,1)
def zEP (y0:List Int)(y1:List Int)(y2:Int): Option Bool :=
 if if y2 != 1 then(y2 != 2)||((len y0)==0) else(len y0)==0 then
 some false
 else
 if(len y1)==0 then
 some true
 else
 if y2==1 then
 (zEA y0).bind fun r1 =>
 (zEA y1).bind fun r2 =>
 some (decide (r1<r2))
 else
 (zDs y0).bind fun r3 =>
 (zDs y1).bind fun r4 =>
 some (decide (r3<r4))
def zB6 (y0:zI)(y1:List zF)(y2:Int)(y3:Int)(y4:vQ): Option Bool :=
 (zCn y0 y1 y2).bind fun r1 =>
 (zCn y0 y1 y3).bind fun r2 =>
 (zEP r1 r2 y4.2).bind fun r3 =>
 some r3
def zEn (r1:(List Int))(y0:zI)(s1:(List Int)×Int): Option (((List Int)×Int)⊕(List Int)) :=
 if decide (s1.2<(len r1)) then
 (zB r1 s1.2).bind fun x1 =>
 (zB y0.1 x1).bind fun x2 =>
 if x2.2.1==2 then
 (qG s1.1 ([x2.2.2.1]:List Int)).bind fun x3 =>
 some (.inl (x3,zM (s1.2+1)))
 else
 if x2.2.1==3 then
 (qG s1.1 ([(-1)]:List Int)).bind fun x4 =>
 some (.inl (x4,zM (s1.2+1)))
 else
 some (.inl (s1.1,zM (s1.2+1)))
 else
 some (.inr s1.1)
def zBx (y0:zI)(y1:List zF)(y2:Int): Option (List Int) :=
 (zCo y1 y2).bind fun r1 =>
 zN (zEn r1 y0) (([]:List Int),0)
def zAW (y0:zI)(y1:List zF)(y2:Int)(y3:Int)(y4:vQ): Option Bool :=
 (zBx y0 y1 y2).bind fun r1 =>
 (zBx y0 y1 y3).bind fun r2 =>
 (zEP r1 r2 y4.2).bind fun r3 =>
 some r3
def zB3 (y0:zI)(y1:List zF)(y2:Int)(y3:Int): Option Bool :=
 (
 (zCn y0 y1 y2).bind fun r1 =>
 if(len r1)==0 then
 (zCn y0 y1 y3).bind fun r2 =>
 some ((len r2)==0)
 else
 some false:Option Bool).bind fun s1 =>
 some s1
def zC4 (y1:zI)(y2:List zF)(y3:Int)(y4:Int)(y5:vQ): Option Bool :=
 (
 (zB6 y1 y2 y3 y4 y5).bind fun r1 =>
 if r1 then
 some true
 else
 (zB3 y1 y2 y3 y4).bind fun r2 =>
 if r2 then
 (zAW y1 y2 y3 y4 y5).bind fun r3 =>
 some r3
 else
 some false:Option Bool).bind fun s1 =>
 some s1
def zCm (y0:zI)(y1:List zF)(y2:Int): Option (List Int) :=
 (zCO y0 y1 y2).bind fun r1 =>
 (zJh y0 r1).bind fun r2 =>
 some r2
def zBM (y0:zI)(y1:List zF)(y2:Int)(y3:Int)(y4:vQ): Option Bool :=
 (zCm y0 y1 y2).bind fun r1 =>
 (zCm y0 y1 y3).bind fun r2 =>
 (zEP r1 r2 y4.2).bind fun r3 =>
 some r3
def zBQ (y0:zI)(y1:List zF)(y2:Int)(y3:Int): Option Bool :=
 (
 (zBx y0 y1 y2).bind fun r1 =>
 if(len r1)==0 then
 (zBx y0 y1 y3).bind fun r2 =>
 some ((len r2)==0)
 else
 some false:Option Bool).bind fun s1 =>
 some s1
def zB8 (y0:zI)(y1:List zF)(y2:Int)(y3:Int): Option Bool :=
 (
 (zCm y0 y1 y2).bind fun r1 =>
 if(len r1)==0 then
 (zCm y0 y1 y3).bind fun r2 =>
 some ((len r2)==0)
 else
 some false:Option Bool).bind fun s1 =>
 some s1
def zC6 (y1:zI)(y2:List zF)(y3:Int)(y4:Int)(y6:vQ): Option Bool :=
 (zB8 y1 y2 y3 y4).bind fun r1 =>
 if r1 then
 (zAW y1 y2 y3 y4 y6).bind fun r2 =>
 some r2
 else
 (zBQ y1 y2 y3 y4).bind fun r3 =>
 if r3 then
 (zBM y1 y2 y3 y4 y6).bind fun r4 =>
 some r4
 else
 (
 (zAW y1 y2 y3 y4 y6).bind fun r5 =>
 if r5 then
 (zBM y1 y2 y3 y4 y6).bind fun r6 =>
 some r6
 else
 some false:Option Bool).bind fun s1 =>
 some s1
def zKm (y0:zI)(y1:List zF)(y2:Int)(y3:Int)(y4:vQ): Option Bool :=
 (
 if decide ((if y3<y2 then y3 else y2)<0) then
 some true
 else
 if decide ((len y1)≤(if y3 > y2 then y3 else y2)) then
 some true
 else
 (zH5 y0 y1 y3).bind fun r1 =>
 some r1:Option Bool).bind fun s1 =>
 if s1 then
 some false
 else
 if y4.1==1 then
 (zC4 y0 y1 y2 y3 y4).bind fun r2 =>
 some r2
 else
 if y4.1==2 then
 (zC6 y0 y1 y2 y3 y4).bind fun r3 =>
 some r3
 else
 some false
def zC9 (y0:qL)(y1:zI)(y2:List zF)(y3:vQ): Option Bool :=
 (
 if y0.2.2.2 != 3 then
 (zKm y1 y2 y0.1 y0.2.2.1 y3).bind fun r1 =>
 some r1
 else
 some false:Option Bool).bind fun s1 =>
 some s1
def zBf (y0:List qL)(y1:zI)(y2:List zF)(y3:vQ)(s1:Int): Option (Int⊕Int) :=
 if decide (s1<(len y0)) then
 (zB y0 s1).bind fun x1 =>
 (zC9 x1 y1 y2 y3).bind fun r1 =>
 if r1 then
 some (.inr s1)
 else
 some (.inl (zM (s1+1)))
 else
 some (.inr (-1))
def zBT (y0:List qL)(y1:zI)(y2:List zF)(y3:vQ): Option Int :=
 zN (zBf y0 y1 y2 y3) 0
def zBb (y0:List qL)(y1:zI)(y2:List zF)(y3:vQ)(s2:(List qL)×Int×Int): Option (((List qL)×Int×Int)⊕((List qL)×Int)) :=
 if decide (s2.2.2<(len y0)) then
 (zB s2.1 s2.2.2).bind fun x1 =>
 (zC9 x1 y1 y2 y3).bind fun r2 =>
 if !r2 then
 (zB s2.1 s2.2.1).bind fun _ =>
 some (.inl (List.set s2.1 (Int.toNat s2.2.1) x1,zM (s2.2.1+1),zM (s2.2.2+1)))
 else
 some (.inl (s2.1,s2.2.1,zM (s2.2.2+1)))
 else
 some (.inr (s2.1,s2.2.1))
def zA5 (y0:List qL)(y1:zI)(y2:List zF)(y3:vQ): Option (List qL) :=
 (zBT y0 y1 y2 y3).bind fun r1 =>
 if r1==(-1) then
 some y0
 else
 (zN (zBb y0 y1 y2 y3) (y0,r1,zM (r1+1)):Option ((List qL)×Int)).bind fun s1 =>
 (wV (decide (0≤s1.2)&&decide (s1.2≤len s1.1))).bind fun _ =>
 (sub (zDI s1.1 s1.2 (0,0,0,0)) 0 s1.2).bind fun x3 =>
 some x3
def zDy (y0:zI)(y1:List zF)(y2:vQ): Option (List qL) :=
 (zFD y0 y1).bind fun r1 =>
 (zA5 r1 y0 y1 y2).bind fun r2 =>
 some r2
def zNp (y0:List qA)(s1:Int)(s3:(List qA)×Int×Int): Option (((List qA)×Int×Int)⊕((List qA)×Int)) :=
 if decide (s3.2.2<((Int.toNat (((List.length y0:Nat):Int)-s1):Nat):Int)) then
 (zYA s3.1 s1 s3.2.2).bind fun x3 =>
 (zYA s3.1 s1 (zM (s3.2.2-1))).bind fun x4 =>
 if !(x3==x4) then
 (zYA s3.1 s1 s3.2.2).bind fun x5 =>
 (zB s3.1 s3.2.1).bind fun _ =>
 some (.inl (List.set s3.1 (Int.toNat s3.2.1) x5,zM (s3.2.1+1),zM (s3.2.2+1)))
 else
 some (.inl (s3.1,s3.2.1,zM (s3.2.2+1)))
 else
 some (.inr (s3.1,s3.2.1))
def zGH (y0:List qA)(s1:Int): Option (Int⊕(List qA)) :=
 if decide (s1<(len y0)) then
 (zB y0 s1).bind fun x1 =>
 (zB y0 (zM (s1-1))).bind fun x2 =>
 if x1==x2 then
 (wV (decide (0≤s1)&&decide (s1≤len y0))).bind fun _ =>
 (zN (zNp y0 s1) (y0,s1,1):Option ((List qA)×Int)).bind fun s2 =>
 (wV (decide (0≤s2.2)&&decide (s2.2≤len s2.1))).bind fun _ =>
 (sub (zDI s2.1 s2.2 (0,0)) 0 s2.2).bind fun x7 =>
 some (.inr x7)
 else
 some (.inl (zM (s1+1)))
 else
 some (.inr y0)
def zDf (y0:List qA): Option (List qA) :=
 if decide ((len y0)<2) then
 some y0
 else
 zN (zGH y0) 1
def zFH (y0:qA)(y1:qA): Option Int :=
 (zBn y0.1 y1.1).bind fun r1 =>
 (zBn y0.2 y1.2).bind fun r2 =>
 (zI0 ([r1,r2]:List Int)).bind fun r3 =>
 some r3
def zBC (y0:List qA): Option (List qA):=zZ7 zFH y0
def zGY (y1:List qL)(y0:Int)(s2:Int×(List qA)): Option ((Int×(List qA))⊕((List qA)⊕(qE×Int))) :=
 if decide (s2.1<(len y1)) then
 (zB y1 s2.1).bind fun x1 =>
 if(decide ((if x1.2.1<x1.1 then x1.2.1 else x1.1)<0))||(decide (y0≤(if x1.2.1 > x1.1 then x1.2.1 else x1.1))) then
 some (.inr (.inr ((0,([]:List qA)),1)))
 else
 (qG s2.2 ([(x1.1,x1.2.1)]:List qA)).bind fun x2 =>
 some (.inl (zM (s2.1+1),x2))
 else
 some (.inr (.inl s2.2))
def zFc (y0:Int)(y1:List qL): Option (qE×Int) :=
 if(decide (y0<0))||(decide (40<y0)) then
 some ((0,([]:List qA)),1)
 else
 wZ (zN (zGY y1 y0) (0,([]:List qA)):Option ((List qA)⊕(qE×Int))) fun s1 =>
 (zBC s1).bind fun r1 =>
 (zDf r1).bind fun r2 =>
 some ((y0,r2),0)
def zCW (y0:Int): Option Int :=
 if y0==0 then
 some 64
 else
 (zB yC (uT .u64 (IntKind.u64.wrap ((vA .u64 y0 (IntKind.u64.wrap (0-y0)))*285870213051353865)) 58)).bind fun x1 =>
 some (zM (x1))
def zGS (s1:Int×(List Int)): Option ((Int×(List Int))⊕(List Int)) :=
 if s1.1 != 0 then
 (zCW s1.1).bind fun r1 =>
 (qG s1.2 ([r1]:List Int)).bind fun x1 =>
 some (.inl (vA .u64 s1.1 (IntKind.u64.wrap (s1.1-1)),x1))
 else
 some (.inr s1.2)
def zID (y0:Int): Option (List Int) :=
 zN (zGS) (y0,([]:List Int))
def zJP (y0:qE)(s1:(List Int)×Int): Option (((List Int)×Int)⊕(List Int)) :=
 if decide (s1.2<(len y0.2)) then
 (zB y0.2 s1.2).bind fun x2 =>
 (zB s1.1 x2.1).bind fun x3 =>
 (z6f .u64 1 x2.2).bind fun x4 =>
 (zB s1.1 x2.1).bind fun _ =>
 some (.inl (List.set s1.1 (Int.toNat x2.1) (bor .u64 x3 x4),zM (s1.2+1)))
 else
 some (.inr s1.1)
def zIj (y0:qE): Option (List Int) :=
 (mkS y0.1 y0.1 (0:Int)).bind fun x1 =>
 zN (zJP y0) (x1,0)
def zDB (y0:qA)(y1:qA): Option Int :=
 (zBn y0.1 y1.1).bind fun r1 =>
 (zBn y0.2 y1.2).bind fun r2 =>
 (zI0 ([r1,r2]:List Int)).bind fun r3 =>
 some r3
def zBw (y0:qE)(s1:Int): Option (Int⊕Int) :=
 if decide (s1<(len y0.2)) then
 (zB y0.2 s1).bind fun x1 =>
 if(decide ((if x1.2<x1.1 then x1.2 else x1.1)<0))||(decide (y0.1≤(if x1.2 > x1.1 then x1.2 else x1.1))) then
 some (.inr 1)
 else
 (
 if decide (0<s1) then
 (zB y0.2 (zM (s1-1))).bind fun x2 =>
 (zDB x2 x1).bind fun r1 =>
 some (decide (0≤r1))
 else
 some false:Option Bool).bind fun s2 =>
 if s2 then
 some (.inr 8)
 else
 some (.inl (zM (s1+1)))
 else
 some (.inr 0)
def zBj (y0:qE): Option Int :=
 if(decide (y0.1<0))||(decide (40<y0.1)) then
 some 1
 else
 zN (zBw y0) 0
def zF9 (y0:qE): Option qE :=
 (zBj y0).bind fun r1 =>
 if r1 != 0 then
 some (0,([]:List qA))
 else
 some y0
def zDQ (y0:qE)(y1:Int): Option (List Int) :=
 (zF9 y0).bind fun r1 =>
 if(decide (y1<0))||(decide (r1.1≤y1)) then
 some ([]:List Int)
 else
 (zIj r1).bind fun r2 =>
 (zB r2 y1).bind fun x1 =>
 (zID x1).bind fun r3 =>
 some r3
def zOM (y0:Int)(y1:Int): Option (Int×Int) :=
 some (IntKind.u64.wrap ((IntKind.u64.wrap ((IntKind.u64.wrap ((uT .u64 y0 32)*(uT .u64 y1 32)))+(uT .u64 (IntKind.u64.wrap ((IntKind.u64.wrap ((uT .u64 y0 32)*(vA .u64 y1 4294967295)))+(uT .u64 (IntKind.u64.wrap ((vA .u64 y0 4294967295)*(vA .u64 y1 4294967295))) 32))) 32)))+(uT .u64 (IntKind.u64.wrap ((vA .u64 (IntKind.u64.wrap ((IntKind.u64.wrap ((uT .u64 y0 32)*(vA .u64 y1 4294967295)))+(uT .u64 (IntKind.u64.wrap ((vA .u64 y0 4294967295)*(vA .u64 y1 4294967295))) 32))) 4294967295)+(IntKind.u64.wrap ((vA .u64 y0 4294967295)*(uT .u64 y1 32))))) 32)),IntKind.u64.wrap (y0*y1))
def zM8 (y0:Int)(y1:Int): Option (Int×Int) :=
 (zOM y0 y1).bind fun r1 =>
 some (r1.1,r1.2)
def zHb (x1:List Int)(s3:(List Int)×Int): Option (((List Int)×Int)⊕(List Int)) :=
 if decide (s3.2<(len x1)) then
 (wV (decide (0≤s3.2)&&decide (s3.2≤len s3.1))).bind fun _ =>
 (sub s3.1 0 s3.2).bind fun x2 =>
 some (.inl (zJf s3.1 s3.2 x2,zM (s3.2+((Nat.min (List.length x2) (Int.toNat (((List.length x1:Nat):Int)-s3.2)):Nat):Int))))
 else
 some (.inr s3.1)
def zCp (y0:List Int)(y1:Int): Option (List Int) :=
 (
 if decide (y1<0) then
 none
 else
 some ():Option Unit).bind fun _ =>
 (zM8 (IntKind.u64.wrap (len y0)) (IntKind.u64.wrap (y1))).bind fun r1 =>
 (
 if(decide (0<r1.1))||(decide (9223372036854775807<r1.2)) then
 none
 else
 some ():Option Unit).bind fun _ =>
 (mkS (zM (r1.2)) (zM (r1.2)) (0:Int)).bind fun x1 =>
 zN (zHb x1) (zJf x1 0 y0,((Nat.min (List.length y0) (List.length x1):Nat):Int))
def zE2 (y0:qE)(s3:Int×(List Int)): Option ((Int×(List Int))⊕(List Int)) :=
 if decide (s3.1<(len y0.2)) then
 (zB y0.2 s3.1).bind fun x4 =>
 (wV (decide (0≤x4.2)&&decide (x4.2<40))).bind fun _ =>
 (wV (decide (0≤x4.2)&&decide (x4.2<40))).bind fun _ =>
 some (.inl (zM (s3.1+1),xZ 40 s3.2 x4.2 (zM ((vY s3.2 x4.2)+1))))
 else
 some (.inr s3.2)
def zEV (y0:qE)(s2:(List Int))(s5:(List Int)×Int): Option (((List Int)×Int)⊕(List Int)) :=
 if decide (s5.2<y0.1) then
 (wV (decide (0≤s5.2)&&decide (s5.2<40))).bind fun _ =>
 if(vY s2 s5.2)==0 then
 (qG s5.1 ([s5.2]:List Int)).bind fun x5 =>
 some (.inl (x5,zM (s5.2+1)))
 else
 some (.inl (s5.1,zM (s5.2+1)))
 else
 some (.inr s5.1)
def zE7 (s6:(List Int)×(List Int)×(List Int)×Int×(List Int))(s8:(List Int)×(List Int)×Int): Option (((List Int)×(List Int)×Int)⊕((List Int)×(List Int))) :=
 if decide (s8.2.2<(len s6.2.2.1)) then
 (zB s6.2.2.1 s8.2.2).bind fun x6 =>
 (zB s8.1 x6).bind fun _ =>
 (zB s8.2.1 x6).bind fun _ =>
 some (.inl (List.set s8.1 (Int.toNat x6) 1,List.set s8.2.1 (Int.toNat x6) s6.2.2.2.1,zM (s8.2.2+1)))
 else
 some (.inr (s8.1,s8.2.1))
def zE4 (r5:(List Int))(s10:(List Int)×(List Int)×(List Int)×Int×(List Int))(x10:Int)(s6:(List Int)×(List Int)×(List Int)×Int×(List Int))(s11:(List Int)×Int×(List Int)): Option (((List Int)×Int×(List Int))⊕(((List Int)×(List Int)×(List Int)×Int×(List Int))⊕(((List Int)×(List Int)×(List Int)×Int×(List Int))⊕(((List Int)×(List Int)×(List Int)×Int×(List Int))⊕((List Int)×(List Int)))))) :=
 if decide (s11.2.1<(len r5)) then
 (zB r5 s11.2.1).bind fun x14 =>
 (wV (decide (0≤x14)&&decide (x14<40))).bind fun _ =>
 (wV (decide (0≤x14)&&decide (x14<40))).bind fun _ =>
 (
 (wV (decide (0≤x14)&&decide (x14<40))).bind fun _ =>
 if(vY (xZ 40 s11.2.2 x14 (zM ((vY s11.2.2 x14)-1))) x14)==0 then
 (zB (List.set s10.1 (Int.toNat x10) 2) x14).bind fun x15 =>
 some (x15==3)
 else
 some false:Option Bool).bind fun s12 =>
 if s12 then
 (qG s11.1 ([x14]:List Int)).bind fun x16 =>
 some (.inl (x16,zM (s11.2.1+1),xZ 40 s11.2.2 x14 (zM ((vY s11.2.2 x14)-1))))
 else
 some (.inl (s11.1,zM (s11.2.1+1),xZ 40 s11.2.2 x14 (zM ((vY s11.2.2 x14)-1))))
 else
 some (.inr (.inl (List.set s10.1 (Int.toNat x10) 2,List.set s10.2.1 (Int.toNat x10) s6.2.2.2.1,s11.1,zM (s10.2.2.2.1+1),s11.2.2)))
def zCV (r4:(List Int))(y0:qE)(s6:(List Int)×(List Int)×(List Int)×Int×(List Int))(s9:(List Int)×(List Int)×(List Int)×Int×(List Int))(s10:(List Int)×(List Int)×(List Int)×Int×(List Int)): Option (((List Int)×(List Int)×(List Int)×Int×(List Int))⊕(((List Int)×(List Int)×(List Int)×Int×(List Int))⊕(((List Int)×(List Int)×(List Int)×Int×(List Int))⊕((List Int)×(List Int))))) :=
 if decide (s10.2.2.2.1<(len r4)) then
 (zB r4 s10.2.2.2.1).bind fun x10 =>
 (zB s10.1 x10).bind fun x11 =>
 if x11 != 3 then
 some (.inl (s10.1,s10.2.1,s10.2.2.1,zM (s10.2.2.2.1+1),s10.2.2.2.2))
 else
 (zB s10.1 x10).bind fun _ =>
 (zB s10.2.1 x10).bind fun _ =>
 (zDQ y0 x10).bind fun r5 =>
 zN (zE4 r5 s10 x10 s6) (s10.2.2.1,0,s10.2.2.2.2)
 else
 some (.inr (.inl (s10.1,s10.2.1,s10.2.2.1,zM (s9.2.2.2.1+1),s10.2.2.2.2)))
def zCs (s6:(List Int)×(List Int)×(List Int)×Int×(List Int))(y0:qE)(s9:(List Int)×(List Int)×(List Int)×Int×(List Int)): Option (((List Int)×(List Int)×(List Int)×Int×(List Int))⊕(((List Int)×(List Int)×(List Int)×Int×(List Int))⊕((List Int)×(List Int)))) :=
 if decide (s9.2.2.2.1<(len s6.2.2.1)) then
 (zB s6.2.2.1 s9.2.2.2.1).bind fun x9 =>
 (zDQ y0 x9).bind fun r4 =>
 zN (zCV r4 y0 s6 s9) (s9.1,s9.2.1,s9.2.2.1,0,s9.2.2.2.2)
 else
 some (.inr (.inl (s9.1,s9.2.1,s9.2.2.1,zM (s6.2.2.2.1+1),s9.2.2.2.2)))
def zBu (y0:qE)(s6:(List Int)×(List Int)×(List Int)×Int×(List Int)): Option (((List Int)×(List Int)×(List Int)×Int×(List Int))⊕((List Int)×(List Int))) :=
 if decide (0<(len s6.2.2.1)) then
 (zN (zE7 s6) (s6.1,s6.2.1,0):Option ((List Int)×(List Int))).bind fun s7 =>
 zN (zCs s6 y0) (s7.1,s7.2,([]:List Int),0,s6.2.2.2.2)
 else
 some (.inr (s6.1,s6.2.1))
def zFG (y0:qE): Option ((List Int)×(List Int)) :=
 (
 (zCp ([3]:List Int) y0.1).bind fun r1 =>
 (mkS y0.1 y0.1 (0:Int)).bind fun x1 =>
 some (r1,x1):Option ((List Int)×(List Int))).bind fun s1 =>
 (zN (zE2 y0) (0,(List.replicate 40 (0:Int))):Option (List Int)).bind fun s2 =>
 (zN (zEV y0 s2) (([]:List Int),0):Option (List Int)).bind fun s4 =>
 zN (zBu y0) (s1.1,s1.2,s4,1,s2)
def zDx (y0:qE): Option (List Int) :=
 (zFG y0).bind fun r1 =>
 some r1.1
def zHD (y0:List Int)(y1:Int)(s1:(List Int)×Int): Option (((List Int)×Int)⊕(List Int)) :=
 if decide (s1.2<(len y0)) then
 (zB y0 s1.2).bind fun x1 =>
 if x1==y1 then
 (qG s1.1 ([s1.2]:List Int)).bind fun x2 =>
 some (.inl (x2,zM (s1.2+1)))
 else
 some (.inl (s1.1,zM (s1.2+1)))
 else
 some (.inr s1.1)
def zBX (y0:List Int)(y1:Int): Option (List Int) :=
 zN (zHD y0 y1) (([]:List Int),0)
def zEh (y0:List qZ): Option (List qZ) :=
 (qG ([]:List qZ) y0).bind fun x1 =>
 some x1
def zDj (y0:List wB): Option (List wB) :=
 (qG ([]:List wB) y0).bind fun x1 =>
 some x1
def zGw (y0:List zR): Option (List zR) :=
 (qG ([]:List zR) y0).bind fun x1 =>
 some x1
def zDa (y0:zI)(x1:zR)(y1:List zC)(s3:Int×(List zR))(s4:Int×(List zR)): Option ((Int×(List zR))⊕((Int×(List zR))⊕(List zR))) :=
 if decide (s4.1<(len y0.2.2)) then
 (zB y0.2.2 s4.1).bind fun x3 =>
 (
 if !x1.2.1 then
 if x3.1==x1.1 then
 (zF2 y1 x3.2.2).bind fun r11 =>
 some r11
 else
 some false
 else
 some false:Option Bool).bind fun s5 =>
 if s5 then
 (zB s4.2 s3.1).bind fun x4 =>
 some (.inl (zM (s4.1+1),List.set s4.2 (Int.toNat s3.1) (x4.1,x4.2.1,x3.2.1,x4.2.2.2.1,x4.2.2.2.2)))
 else
 some (.inl (zM (s4.1+1),s4.2))
 else
 some (.inr (.inl (zM (s3.1+1),s4.2)))
def zCu (y0:zI)(y1:List zC)(s3:Int×(List zR)): Option ((Int×(List zR))⊕(List zR)) :=
 if decide (s3.1<(len y0.2.1)) then
 (zB y0.2.1 s3.1).bind fun x1 =>
 (zCd x1.2.2.2.1).bind fun r10 =>
 (zB s3.2 s3.1).bind fun x2 =>
 zN (zDa y0 x1 y1 s3) (0,List.set s3.2 (Int.toNat s3.1) (x2.1,x2.2.1,x2.2.2.1,r10,x2.2.2.2.2))
 else
 some (.inr s3.2)
def zDE (y0:zI)(y1:List zC): Option zI :=
 (
 (zEh y0.1).bind fun r1 =>
 (zGw y0.2.1).bind fun r2 =>
 (zDj y0.2.2).bind fun r3 =>
 some (r1,r2,r3):Option zI).bind fun s1 =>
 (zN (zCu y0 y1) (0,s1.2.1):Option (List zR)).bind fun s2 =>
 some (s1.1,s2,s1.2.2)
def zDO (y0:zI)(y1:vQ): Option (zFE×Int) :=
 (zDw y0).bind fun r1 =>
 if r1.2 != 0 then
 some (((([]:List qZ),([]:List zR),([]:List wB)),([]:List zF),([]:List qL),(0,([]:List qA))),r1.2)
 else
 if if y1.1 != 1 then(y1.1 != 2)||((y1.2 != 1)&&(y1.2 != 2)) else(y1.2 != 1)&&(y1.2 != 2) then
 some (((([]:List qZ),([]:List zR),([]:List wB)),([]:List zF),([]:List qL),(0,([]:List qA))),4)
 else
 (zDy y0 r1.1 y1).bind fun r2 =>
 (zFc (len r1.1) r2).bind fun r3 =>
 if r3.2 != 0 then
 some (((([]:List qZ),([]:List zR),([]:List wB)),([]:List zF),([]:List qL),(0,([]:List qA))),r3.2)
 else
 (zDx r3.1).bind fun r4 =>
 (zBX r4 1).bind fun r5 =>
 (zCG r1.1 r5).bind fun r6 =>
 (zDE y0 r6).bind fun r7 =>
 (zDy r7 r1.1 y1).bind fun r8 =>
 (zFc (len r1.1) r8).bind fun r9 =>
 if r9.2 != 0 then
 some (((([]:List qZ),([]:List zR),([]:List wB)),([]:List zF),([]:List qL),(0,([]:List qA))),r9.2)
 else
 some ((r7,r1.1,r8,r9.1),0)
def zEx:Option Unit :=
 some ()
def zE6:Option Unit :=
 some ()
def zGG:Option Unit :=
 some ()
def zGc:Option Unit :=
 some ()
def zGf:Option Unit :=
 some ()
def zFM:Option Unit :=
 zGf.bind fun _ =>
 some ()
def zFg:Option Unit :=
 some ()
def zIF:Option Unit :=
 zFg.bind fun _ =>
 some ()
def zFd:Option Unit :=
 some ()
def zIP:Option Unit :=
 zFd.bind fun _ =>
 some ()
def zL6:Option Unit :=
 zFM.bind fun _ =>
 zGc.bind fun _ =>
 zEx.bind fun _ =>
 zGG.bind fun _ =>
 zE6.bind fun _ =>
 zIP.bind fun _ =>
 zIF.bind fun _ =>
 some ()
def zFN (y0:qE): Option ((List Int)×Int) :=
 (zDx y0).bind fun r1 =>
 some (r1,0)
def zAr (y0:qE): Option ((List (List Int))×Int) :=
 (zFN y0).bind fun r1 =>
 if r1.2 != 0 then
 some (([]:List (List Int)),r1.2)
 else
 some (([r1.1]:List (List Int)),0)
def zAs (r1:(List (List Int))×Int)(s1:(List (List Int))×Int): Option (((List (List Int))×Int)⊕((List (List Int))×Int)) :=
 if decide (s1.2<(len r1.1)) then
 (zB r1.1 s1.2).bind fun x1 =>
 (zBX x1 1).bind fun r2 =>
 (qG s1.1 ([r2]:List (List Int))).bind fun x2 =>
 some (.inl (x2,zM (s1.2+1)))
 else
 some (.inr (s1.1,0))
def zBR (y0:qE): Option ((List (List Int))×Int) :=
 (zAr y0).bind fun r1 =>
 if r1.2 != 0 then
 some (([]:List (List Int)),r1.2)
 else
 zN (zAs r1) (([]:List (List Int)),0)
def zIJ (y1:List Int)(y0:qE)(s1:Int): Option (Int⊕Bool) :=
 if decide (s1<(len y1)) then
 (zB y1 s1).bind fun x1 =>
 (
 if decide (x1<0) then
 some true
 else
 if decide (y0.1≤x1) then
 some true
 else
 if decide (0<s1) then
 (zB y1 (zM (s1-1))).bind fun x2 =>
 some (decide (x1≤x2))
 else
 some false:Option Bool).bind fun s2 =>
 if s2 then
 some (.inr false)
 else
 some (.inl (zM (s1+1)))
 else
 some (.inr true)
def zFQ (y0:qE)(y1:List Int): Option Bool :=
 zN (zIJ y1 y0) 0
def zDn (y0:qE)(y1:Int)(s1:Int×Int): Option ((Int×Int)⊕Int) :=
 if decide (s1.2<(len y0.2)) then
 (zB y0.2 s1.2).bind fun x1 =>
 (shrK .u64 y1 x1.1).bind fun x2 =>
 (z6f .u64 (vA .u64 x2 1) x1.2).bind fun x3 =>
 some (.inl (bor .u64 s1.1 x3,zM (s1.2+1)))
 else
 some (.inr s1.1)
def zCU (y0:qE)(y1:Int): Option Int :=
 zN (zDn y0 y1) (0,0)
def zG0 (y0:qE)(y1:Int): Option Bool :=
 (zCU y0 y1).bind fun r1 =>
 some ((vA .u64 r1 y1)==0)
def zRR (s1:Int×(List Int)): Option ((Int×(List Int))⊕(List Int)) :=
 if s1.1 != 0 then
 (zCW s1.1).bind fun r1 =>
 (qG s1.2 ([r1]:List Int)).bind fun x1 =>
 some (.inl (vA .u64 s1.1 (IntKind.u64.wrap (s1.1-1)),x1))
 else
 some (.inr s1.2)
def zET (y0:Int): Option (List Int) :=
 zN (zRR) (y0,([]:List Int))
def zFu (y0:List Int)(s1:Int×Int): Option ((Int×Int)⊕Int) :=
 if decide (s1.2<(len y0)) then
 (zB y0 s1.2).bind fun x1 =>
 (z6f .u64 1 x1).bind fun x2 =>
 some (.inl (bor .u64 s1.1 x2,zM (s1.2+1)))
 else
 some (.inr s1.1)
def zFy (y0:List Int): Option Int :=
 zN (zFu y0) (0,0)
def zFU (y0:qE): Option Int :=
 (z6f .u64 1 y0.1).bind fun x1 =>
 some (IntKind.u64.wrap (x1-1))
def zES (y0:qE)(y1:Int): Option Int :=
 (zFU y0).bind fun r1 =>
 (zFU y0).bind fun r2 =>
 (zCU y0 y1).bind fun r3 =>
 (zCU y0 (zNV .u64 r2 r3)).bind fun r4 =>
 some (zNV .u64 r1 r4)
def zCv (y0:Int)(y1:qE): Option Int :=
 (zES y1 y0).bind fun r1 =>
 some (vA .u64 y0 r1)
def zAQ (y1:qE)(s1:Int): Option (Int⊕Int) :=
 (zCv s1 y1).bind fun r1 =>
 if r1==s1 then
 some (.inr s1)
 else
 some (.inl r1)
def zAz (y0:Int)(y1:qE): Option Int :=
 zN (zAQ y1) y0
def zCR (y0:qE)(y1:List Int): Option ((List Int)×Int) :=
 (zFQ y0 y1).bind fun r1 =>
 if !r1 then
 some (([]:List Int),1)
 else
 (zFy y1).bind fun r2 =>
 (zG0 y0 r2).bind fun r3 =>
 if !r3 then
 some (([]:List Int),10)
 else
 (zAz r2 y0).bind fun r4 =>
 (zET r4).bind fun r5 =>
 some (r5,0)
def zKq (y0:List Int)(y1:Int): Option Bool :=
 (
 if decide (0≤y1) then
 if decide (y1<(len y0)) then
 (zB y0 y1).bind fun x1 =>
 some (x1==1)
 else
 some false
 else
 some false:Option Bool).bind fun s1 =>
 some s1
def zKe (y0:List Int)(y1:Int): Option Bool :=
 (zKq y0 y1).bind fun r1 =>
 some (!r1)
def zCB (y0:List (List Int))(y1:Int)(s1:Int): Option (Int⊕Int) :=
 if decide (s1<(len y0)) then
 (zB y0 s1).bind fun x1 =>
 (zKe x1 y1).bind fun r1 =>
 if r1 then
 some (.inr s1)
 else
 some (.inl (zM (s1+1)))
 else
 some (.inr (-1))
def zAy (y0:List (List Int))(y1:Int): Option Int :=
 zN (zCB y0 y1) 0
def zAP (y0:List (List Int))(y1:Int): Option Bool :=
 (zAy y0 y1).bind fun r1 =>
 some (decide (0≤r1))
def zGN (y0:List (List Int))(y1:Int): Option Bool :=
 (zAP y0 y1).bind fun r1 =>
 some (!r1)
def zFC (x1:List Int)(y0:List (List Int))(s1:(List Int)×Int): Option (((List Int)×Int)⊕(List Int)) :=
 if decide (s1.2<(len x1)) then
 (zGN y0 s1.2).bind fun r1 =>
 if r1 then
 (qG s1.1 ([s1.2]:List Int)).bind fun x2 =>
 some (.inl (x2,zM (s1.2+1)))
 else
 some (.inl (s1.1,zM (s1.2+1)))
 else
 some (.inr s1.1)
def zGp (y0:List (List Int)): Option (List Int) :=
 if(len y0)==0 then
 some ([]:List Int)
 else
 (zB y0 0).bind fun x1 =>
 zN (zFC x1 y0) (([]:List Int),0)
def zBO (y0:List qA): Option (List qA):=zZ7 zDB y0
def zHs (r1:qE)(s2:Int×(List qA)): Option ((Int×(List qA))⊕(List qA)) :=
 if decide (s2.1<(len r1.2)) then
 (zB r1.2 s2.1).bind fun x1 =>
 (qG s2.2 ([(x1.2,x1.1)]:List qA)).bind fun x2 =>
 some (.inl (zM (s2.1+1),x2))
 else
 some (.inr s2.2)
def zGP (y0:qE): Option qE :=
 (zF9 y0).bind fun r1 =>
 (zN (zHs r1) (0,([]:List qA)):Option (List qA)).bind fun s1 =>
 (zBO s1).bind fun r2 =>
 some (r1.1,r2)
def zEQ (y0:qE)(y1:Int): Option (List Int) :=
 (zGP y0).bind fun r1 =>
 (zDQ r1 y1).bind fun r2 =>
 some r2
def zAx (y0:yJ)(s1:(List Int)×Int): Option (((List Int)×Int)⊕((List Int)×Int)) :=
 if decide (s1.2<y0.1) then
 (wV (decide (0≤s1.2)&&decide (s1.2<40))).bind fun _ =>
 if(vY y0.2.2.1 s1.2)==2 then
 (qG s1.1 ([1]:List Int)).bind fun x1 =>
 some (.inl (x1,zM (s1.2+1)))
 else
 if(vY y0.2.2.1 s1.2)==4 then
 (qG s1.1 ([2]:List Int)).bind fun x2 =>
 some (.inl (x2,zM (s1.2+1)))
 else
 if(vY y0.2.2.1 s1.2)==8 then
 (qG s1.1 ([3]:List Int)).bind fun x3 =>
 some (.inl (x3,zM (s1.2+1)))
 else
 some (.inr (([]:List Int),s1.2))
 else
 some (.inr (s1.1,(-1)))
def zBk (y0:yJ): Option ((List Int)×Int) :=
 zN (zAx y0) (([]:List Int),0)
def zOD (y1:List Int)(y0:yJ)(y2:Int)(s1:(List Int)×Int): Option (((List Int)×Int)⊕(List Int)) :=
 if decide (s1.2<(len y1)) then
 (zB y1 s1.2).bind fun x1 =>
 (wV (decide (0≤x1)&&decide (x1<40))).bind fun _ =>
 if(vA .i64 (vY y0.2.2.1 x1) y2) != 0 then
 (qG s1.1 ([x1]:List Int)).bind fun x2 =>
 some (.inl (x2,zM (s1.2+1)))
 else
 some (.inl (s1.1,zM (s1.2+1)))
 else
 some (.inr s1.1)
def zDg (y0:yJ)(y1:List Int)(y2:Int): Option (List Int) :=
 zN (zOD y1 y0 y2) (([]:List Int),0)
def zC5 (x1:List Int)(s2:Int×(List Int)): Option ((Int×(List Int))⊕(Int×(List Int))) :=
 if decide (s2.1<(len x1)) then
 (zB x1 s2.1).bind fun x2 =>
 (wV (decide (0≤x2)&&decide (x2<40))).bind fun _ =>
 (wV (decide (0≤x2)&&decide (x2<40))).bind fun _ =>
 some (.inl (zM (s2.1+1),xZ 40 s2.2 x2 (vA .i64 (vY s2.2 x2) 4)))
 else
 some (.inr (0,s2.2))
def zC3 (x1:List Int)(s4:Int×(List Int)): Option ((Int×(List Int))⊕(List Int)) :=
 if decide (s4.1<(len x1)) then
 (zB x1 s4.1).bind fun x3 =>
 (wV (decide (0≤x3)&&decide (x3<40))).bind fun _ =>
 (wV (decide (0≤x3)&&decide (x3<40))).bind fun _ =>
 some (.inl (zM (s4.1+1),xZ 40 s4.2 x3 (vA .i64 (vY s4.2 x3) 12)))
 else
 some (.inr s4.2)
def zC0 (y0:yJ)(y1:Int): Option ((List Int)×(List (List Int))) :=
 (zB y0.2.1 y1).bind fun x1 =>
 (
 (wV (decide (0≤y1)&&decide (y1<40))).bind fun _ =>
 if(vY y0.2.2.1 y1)==2 then
 zN (zC5 x1) (0,y0.2.2.1)
 else
 if(vY y0.2.2.1 y1)==4 then
 some (2,y0.2.2.1)
 else
 if(vY y0.2.2.1 y1)==8 then
 (zN (zC3 x1) (0,y0.2.2.1):Option (List Int)).bind fun s3 =>
 some (8,s3)
 else
 some (0,y0.2.2.1):Option (Int×(List Int))).bind fun s1 =>
 (zDg (y0.1,y0.2.1,s1.2,y0.2.2.2.1,y0.2.2.2.2) x1 s1.1).bind fun r1 =>
 if(len r1)==1 then
 (zB r1 0).bind fun x4 =>
 (wV (decide (0≤x4)&&decide (x4<40))).bind fun _ =>
 (wV (decide (0≤x4)&&decide (x4<40))).bind fun _ =>
 some (xZ 40 s1.2 x4 (vA .i64 (vY s1.2 x4) s1.1),y0.2.2.2.1)
 else
 some (s1.2,y0.2.2.2.1)
def zEl (y1:List Int)(y0:yJ)(y2:Int)(s1:(List Int)×Int): Option (((List Int)×Int)⊕(List Int)) :=
 if decide (s1.2<(len y1)) then
 (zB y1 s1.2).bind fun x1 =>
 (wV (decide (0≤x1)&&decide (x1<40))).bind fun _ =>
 if(vA .i64 (vY y0.2.2.1 x1) y2) != 0 then
 (qG s1.1 ([x1]:List Int)).bind fun x2 =>
 some (.inl (x2,zM (s1.2+1)))
 else
 some (.inl (s1.1,zM (s1.2+1)))
 else
 some (.inr s1.1)
def zBc (y0:yJ)(y1:List Int)(y2:Int): Option (List Int) :=
 zN (zEl y1 y0 y2) (([]:List Int),0)
def zCL (y0:yJ)(y1:Int): Option Int :=
 (zB y0.2.1 y1).bind fun x1 =>
 (
 (zBc y0 x1 4).bind fun r1 =>
 if decide ((len r1)<(len x1)) then
 some (zNV .i64 14 2)
 else
 some 14:Option Int).bind fun s1 =>
 (
 (zBc y0 x1 2).bind fun r2 =>
 if(len r2)==0 then
 some (zNV .i64 s1 4)
 else
 some s1:Option Int).bind fun s2 =>
 (
 (zBc y0 x1 12).bind fun r3 =>
 if decide ((len r3)<(len x1)) then
 some true
 else
 (zBc y0 x1 8).bind fun r4 =>
 some ((len r4)==0):Option Bool).bind fun s3 =>
 if s3 then
 some (zNV .i64 s2 8)
 else
 some s2
def zAU (y0:yJ)(s3:Int×(List Int)×(List (List Int))): Option ((Int×(List Int)×(List (List Int)))⊕(((List Int)×(List (List Int)))⊕(((List Int)×(List (List Int)))⊕(Bool×(List Int)×(List (List Int)))))) :=
 if decide (s3.1<y0.1) then
 (wV (decide (0≤s3.1)&&decide (s3.1<40))).bind fun _ =>
 (zCL (y0.1,y0.2.1,s3.2.1,s3.2.2,y0.2.2.2.2) s3.1).bind fun r1 =>
 (wV (decide (0≤s3.1)&&decide (s3.1<40))).bind fun _ =>
 (wV (decide (0≤s3.1)&&decide (s3.1<40))).bind fun _ =>
 if(vY (xZ 40 s3.2.1 s3.1 (vA .i64 (vY s3.2.1 s3.1) r1)) s3.1)==0 then
 some (.inr (.inr (.inr (false,xZ 40 s3.2.1 s3.1 (vA .i64 (vY s3.2.1 s3.1) r1),s3.2.2))))
 else
 (zC0 (y0.1,y0.2.1,xZ 40 s3.2.1 s3.1 (vA .i64 (vY s3.2.1 s3.1) r1),s3.2.2,y0.2.2.2.2) s3.1).bind fun r2 =>
 some (.inl (zM (s3.1+1),r2.1,r2.2))
 else
 some (.inr (.inl (s3.2.1,s3.2.2)))
def zCP (y0:yJ)(s1:(List Int)×(List (List Int))): Option (((List Int)×(List (List Int)))⊕(Bool×(List Int)×(List (List Int)))) :=
 wZ (zN (zAU y0) (0,s1.1,s1.2):Option (((List Int)×(List (List Int)))⊕(((List Int)×(List (List Int)))⊕(Bool×(List Int)×(List (List Int)))))) fun s2 =>
 (z8o 40 s2.1 y0.1).bind fun x1 =>
 (zBU x1 0).bind fun r3 =>
 if r3 then
 some (.inr (false,s2.1,s2.2))
 else
 if aeq 40 s2.1 s1.1 then
 some (.inr (true,s2.1,s2.2))
 else
 some (.inl (s2.1,s2.2))
def zBl (y0:yJ): Option (Bool×(List Int)×(List (List Int))) :=
 zN (zCP y0) (y0.2.2.1,y0.2.2.2.1)
def zB9 (r2:(List Int)×Int)(s1:Bool×(List Int)×(List (List Int)))(rec_search_finder_find:yJ->Option ((List Int)×(List (List Int))×Bool))(y0:yJ)(s2:Int×(List (List Int))×Bool): Option ((Int×(List (List Int))×Bool)⊕((List Int)×(List (List Int))×Bool)) :=
 if decide (s2.1<(len ([2,4,8]:List Int))) then
 (zB ([2,4,8]:List Int) s2.1).bind fun x2 =>
 (wV (decide (0≤r2.2)&&decide (r2.2<40))).bind fun _ =>
 if(vA .i64 (vY s1.2.1 r2.2) x2) != 0 then
 (wV (decide (0≤r2.2)&&decide (r2.2<40))).bind fun _ =>
 (rec_search_finder_find (y0.1,y0.2.1,xZ 40 s1.2.1 r2.2 x2,s2.2.1,s2.2.2)).bind fun r3 =>
 some (.inl (zM (s2.1+1),r3.2.1,r3.2.2))
 else
 some (.inl (zM (s2.1+1),s2.2.1,s2.2.2))
 else
 some (.inr (s1.2.1,s2.2.1,s2.2.2))
def zBP (rec_search_finder_find:yJ->Option ((List Int)×(List (List Int))×Bool))(y0:yJ): Option ((List Int)×(List (List Int))×Bool) :=
 (
 if y0.2.2.2.2 then
 some (true,y0.2.2.1,y0.2.2.2.1)
 else
 (zBl y0).bind fun r1 =>
 some (!r1.1,r1.2.1,r1.2.2):Option (Bool×(List Int)×(List (List Int)))).bind fun s1 =>
 if s1.1 then
 some (s1.2.1,s1.2.2,y0.2.2.2.2)
 else
 (zBk (y0.1,y0.2.1,s1.2.1,s1.2.2,y0.2.2.2.2)).bind fun r2 =>
 if decide (r2.2<0) then
 (qG s1.2.2 ([r2.1]:List (List Int))).bind fun x1 =>
 some (s1.2.1,x1,(len s1.2.2)==200)
 else
 zN (zB9 r2 s1 rec_search_finder_find y0) (0,s1.2.2,y0.2.2.2.2)
def zBi:Nat->yJ->Option ((List Int)×(List (List Int))×Bool)
 | 0=>fun _=>none
 | k+1=>fun y0=>zBP (zBi k) y0
def zEF (y0:yJ): Option ((List Int)×(List (List Int))×Bool):=z6b fun k=>zBi k y0
def zCE (y0:qE)(s2:Int×(List (List Int))×(List Int)): Option ((Int×(List (List Int))×(List Int))⊕((List (List Int))×(List Int))) :=
 if decide (s2.1<y0.1) then
 (zEQ y0 s2.1).bind fun r2 =>
 (qG s2.2.1 ([r2]:List (List Int))).bind fun x1 =>
 (wV (decide (0≤s2.1)&&decide (s2.1<40))).bind fun _ =>
 some (.inl (zM (s2.1+1),x1,xZ 40 s2.2.2 s2.1 14))
 else
 some (.inr (s2.2.1,s2.2.2))
def zBH (y0:qE): Option ((List (List Int))×Int) :=
 (zBj y0).bind fun r1 =>
 if r1 != 0 then
 some (([]:List (List Int)),r1)
 else
 (zN (zCE y0) (0,([]:List (List Int)),(List.replicate 40 (0:Int))):Option ((List (List Int))×(List Int))).bind fun s1 =>
 (zEF (y0.1,s1.1,s1.2,([]:List (List Int)),false)).bind fun r3 =>
 if r3.2.2 then
 some (([]:List (List Int)),2)
 else
 some (r3.2.1,0)
def zDh (y1:List Int)(y0:List Int)(s1:(List Int)×Int): Option (((List Int)×Int)⊕(List Int)) :=
 if decide (s1.2<(len y1)) then
 (zB y1 s1.2).bind fun x1 =>
 (zBX y0 x1).bind fun r1 =>
 (qG s1.1 r1).bind fun x2 =>
 some (.inl (x2,zM (s1.2+1)))
 else
 some (.inr s1.1)
def zBo (y0:List Int)(y1:List Int): Option (List Int) :=
 zN (zDh y1 y0) (([]:List Int),0)
def zED (y0:Int)(y1:List Int): Option Bool :=
 (zBU y1 y0).bind fun r1 =>
 some (!r1)
def zA2 (y0:List Int)(y1:List Int)(s1:Int): Option (Int⊕Int) :=
 if decide (s1<(len y0)) then
 (zB y0 s1).bind fun x1 =>
 (zED x1 y1).bind fun r1 =>
 if r1 then
 some (.inr s1)
 else
 some (.inl (zM (s1+1)))
 else
 some (.inr (-1))
def zAc (y0:List Int)(y1:List Int): Option Int :=
 zN (zA2 y0 y1) 0
def zAH (y0:List Int)(y1:List Int): Option Bool :=
 (zAc y0 y1).bind fun r1 =>
 some (decide (0≤r1))
def zDH (y0:List Int)(y1:List Int): Option Bool :=
 (
 if decide ((len y0)<(len y1)) then
 (zAH y0 y1).bind fun r1 =>
 some (!r1)
 else
 some false:Option Bool).bind fun s1 =>
 some s1
def zC1 (y0:List Int)(y1:List Int): Option Bool :=
 (zBo y1 ([1]:List Int)).bind fun r1 =>
 (zBo y0 ([1]:List Int)).bind fun r2 =>
 (zDH r1 r2).bind fun r3 =>
 some r3
def zAn (y0:List Int)(y2:List Int): Option Bool :=
 (zC1 y0 y2).bind fun r1 =>
 some r1
def zA7 (y0:List (List Int))(y2:List Int)(s1:Int): Option (Int⊕Int) :=
 if decide (s1<(len y0)) then
 (zB y0 s1).bind fun x1 =>
 (zAn x1 y2).bind fun r1 =>
 if r1 then
 some (.inr s1)
 else
 some (.inl (zM (s1+1)))
 else
 some (.inr (-1))
def zAt (y0:List (List Int))(y2:List Int): Option Int :=
 zN (zA7 y0 y2) 0
def zAM (y0:List (List Int))(y2:List Int): Option Bool :=
 (zAt y0 y2).bind fun r1 =>
 some (decide (0≤r1))
def zAC (r1:(List (List Int))×Int)(s1:(List (List Int))×Int): Option (((List (List Int))×Int)⊕((List (List Int))×Int)) :=
 if decide (s1.2<(len r1.1)) then
 (zB r1.1 s1.2).bind fun x1 =>
 (zAM r1.1 x1).bind fun r2 =>
 if !r2 then
 (qG s1.1 ([x1]:List (List Int))).bind fun x2 =>
 some (.inl (x2,zM (s1.2+1)))
 else
 some (.inl (s1.1,zM (s1.2+1)))
 else
 some (.inr (s1.1,0))
def zAL (y0:qE): Option ((List (List Int))×Int) :=
 (zBH y0).bind fun r1 =>
 if r1.2 != 0 then
 some (([]:List (List Int)),r1.2)
 else
 zN (zAC r1) (([]:List (List Int)),0)
def zBA (y0:qE): Option ((List (List Int))×Int) :=
 (zAL y0).bind fun r1 =>
 some (r1.1,r1.2)
def zCc (y0:qE)(y1:List Int)(s2:(List Int)×Int): Option (((List Int)×Int)⊕(List Int)) :=
 if decide (s2.2<(len y0.2)) then
 (zB y0.2 s2.2).bind fun x1 =>
 (zBU y1 x1.1).bind fun r2 =>
 if r2 then
 (zB s2.1 x1.2).bind fun _ =>
 some (.inl (List.set s2.1 (Int.toNat x1.2) 2,zM (s2.2+1)))
 else
 some (.inl (s2.1,zM (s2.2+1)))
 else
 some (.inr s2.1)
def zEi (y1:List Int)(y0:qE)(s3:(List Int)×Int): Option (((List Int)×Int)⊕(List Int)) :=
 if decide (s3.2<(len y1)) then
 (zB y1 s3.2).bind fun x3 =>
 if(decide (0≤x3))&&(decide (x3<y0.1)) then
 (zB s3.1 x3).bind fun _ =>
 some (.inl (List.set s3.1 (Int.toNat x3) 1,zM (s3.2+1)))
 else
 some (.inl (s3.1,zM (s3.2+1)))
 else
 some (.inr s3.1)
def zCS (y0:qE)(y1:List Int): Option (List Int) :=
 (zCp ([3]:List Int) y0.1).bind fun r1 =>
 (zN (zCc y0 y1) (r1,0):Option (List Int)).bind fun s1 =>
 zN (zEi y1 y0) (s1,0)
def zAk (y0:qE): Option ((List Int)×Int) :=
 (zBA y0).bind fun r1 =>
 if r1.2 != 0 then
 some (([]:List Int),r1.2)
 else
 (zGp r1.1).bind fun r2 =>
 (zCR y0 r2).bind fun r3 =>
 if r3.2 != 0 then
 some (([]:List Int),r3.2)
 else
 (zCS y0 r3.1).bind fun r4 =>
 some (r4,0)
def zGa (y0:qE): Option ((List Int)×Int) :=
 (zAk y0).bind fun r1 =>
 some (r1.1,r1.2)
def zBJ (y0:qE): Option ((List (List Int))×Int) :=
 (zGa y0).bind fun r1 =>
 if r1.2 != 0 then
 some (([]:List (List Int)),r1.2)
 else
 some (([r1.1]:List (List Int)),0)
def zAa (r1:(List (List Int))×Int)(s1:(List (List Int))×Int): Option (((List (List Int))×Int)⊕((List (List Int))×Int)) :=
 if decide (s1.2<(len r1.1)) then
 (zB r1.1 s1.2).bind fun x1 =>
 (zBX x1 1).bind fun r2 =>
 (qG s1.1 ([r2]:List (List Int))).bind fun x2 =>
 some (.inl (x2,zM (s1.2+1)))
 else
 some (.inr (s1.1,0))
def zAN (y0:qE): Option ((List (List Int))×Int) :=
 (zBJ y0).bind fun r1 =>
 if r1.2 != 0 then
 some (([]:List (List Int)),r1.2)
 else
 zN (zAa r1) (([]:List (List Int)),0)
def zCJ (y0:List Int)(y1:List Int): Option Bool :=
 (zBo y0 ([3]:List Int)).bind fun r1 =>
 (zBo y1 ([3]:List Int)).bind fun r2 =>
 (zDH r1 r2).bind fun r3 =>
 some r3
def zAd (y0:List Int)(y2:List Int): Option Bool :=
 (zCJ y0 y2).bind fun r1 =>
 some r1
def zA4 (y0:List (List Int))(y2:List Int)(s1:Int): Option (Int⊕Int) :=
 if decide (s1<(len y0)) then
 (zB y0 s1).bind fun x1 =>
 (zAd x1 y2).bind fun r1 =>
 if r1 then
 some (.inr s1)
 else
 some (.inl (zM (s1+1)))
 else
 some (.inr (-1))
def zAh (y0:List (List Int))(y2:List Int): Option Int :=
 zN (zA4 y0 y2) 0
def zAI (y0:List (List Int))(y2:List Int): Option Bool :=
 (zAh y0 y2).bind fun r1 =>
 some (decide (0≤r1))
def zAB (r1:(List (List Int))×Int)(s1:(List (List Int))×Int): Option (((List (List Int))×Int)⊕((List (List Int))×Int)) :=
 if decide (s1.2<(len r1.1)) then
 (zB r1.1 s1.2).bind fun x1 =>
 (zAI r1.1 x1).bind fun r2 =>
 if !r2 then
 (qG s1.1 ([x1]:List (List Int))).bind fun x2 =>
 some (.inl (x2,zM (s1.2+1)))
 else
 some (.inl (s1.1,zM (s1.2+1)))
 else
 some (.inr (s1.1,0))
def zAG (y0:qE): Option ((List (List Int))×Int) :=
 (zBH y0).bind fun r1 =>
 if r1.2 != 0 then
 some (([]:List (List Int)),r1.2)
 else
 zN (zAB r1) (([]:List (List Int)),0)
def zAo (y0:qE): Option ((List (List Int))×Int) :=
 (zAG y0).bind fun r1 =>
 some (r1.1,r1.2)
def zA8 (y0:qE): Option ((List Int)×Int) :=
 (zAo y0).bind fun r1 =>
 if r1.2 != 0 then
 some (([]:List Int),r1.2)
 else
 (zGp r1.1).bind fun r2 =>
 (zCR y0 r2).bind fun r3 =>
 if r3.2 != 0 then
 some (([]:List Int),r3.2)
 else
 (zCS y0 r3.1).bind fun r4 =>
 some (r4,0)
def zGb (y0:qE): Option ((List Int)×Int) :=
 (zA8 y0).bind fun r1 =>
 some (r1.1,r1.2)
def zBK (y0:qE): Option ((List (List Int))×Int) :=
 (zGb y0).bind fun r1 =>
 if r1.2 != 0 then
 some (([]:List (List Int)),r1.2)
 else
 some (([r1.1]:List (List Int)),0)
def zA9 (r1:(List (List Int))×Int)(s1:(List (List Int))×Int): Option (((List (List Int))×Int)⊕((List (List Int))×Int)) :=
 if decide (s1.2<(len r1.1)) then
 (zB r1.1 s1.2).bind fun x1 =>
 (zBX x1 1).bind fun r2 =>
 (qG s1.1 ([r2]:List (List Int))).bind fun x2 =>
 some (.inl (x2,zM (s1.2+1)))
 else
 some (.inr (s1.1,0))
def zAO (y0:qE): Option ((List (List Int))×Int) :=
 (zBK y0).bind fun r1 =>
 if r1.2 != 0 then
 some (([]:List (List Int)),r1.2)
 else
 zN (zA9 r1) (([]:List (List Int)),0)
def zA3 (r1:(List (List Int))×Int)(s1:(List (List Int))×Int): Option (((List (List Int))×Int)⊕((List (List Int))×Int)) :=
 if decide (s1.2<(len r1.1)) then
 (zB r1.1 s1.2).bind fun x1 =>
 (zBX x1 1).bind fun r2 =>
 (qG s1.1 ([r2]:List (List Int))).bind fun x2 =>
 some (.inl (x2,zM (s1.2+1)))
 else
 some (.inr (s1.1,0))
def zAF (y0:qE): Option ((List (List Int))×Int) :=
 (zBA y0).bind fun r1 =>
 if r1.2 != 0 then
 some (([]:List (List Int)),r1.2)
 else
 zN (zA3 r1) (([]:List (List Int)),0)
def zAY (r1:(List (List Int))×Int)(s1:(List (List Int))×Int): Option (((List (List Int))×Int)⊕((List (List Int))×Int)) :=
 if decide (s1.2<(len r1.1)) then
 (zB r1.1 s1.2).bind fun x1 =>
 (zBX x1 1).bind fun r2 =>
 (qG s1.1 ([r2]:List (List Int))).bind fun x2 =>
 some (.inl (x2,zM (s1.2+1)))
 else
 some (.inr (s1.1,0))
def zAE (y0:qE): Option ((List (List Int))×Int) :=
 (zAo y0).bind fun r1 =>
 if r1.2 != 0 then
 some (([]:List (List Int)),r1.2)
 else
 zN (zAY r1) (([]:List (List Int)),0)
def zDN (y0:List Int)(y1:List Int): Option Bool :=
 (zBo y1 ([3]:List Int)).bind fun r1 =>
 some (decide (0<(len r1)))
def zBG (y0:List Int)(y2:List Int): Option Bool :=
 (zDN y0 y2).bind fun r1 =>
 some r1
def zA1 (y0:List (List Int))(y2:List Int)(s1:Int): Option (Int⊕Int) :=
 if decide (s1<(len y0)) then
 (zB y0 s1).bind fun x1 =>
 (zBG x1 y2).bind fun r1 =>
 if r1 then
 some (.inr s1)
 else
 some (.inl (zM (s1+1)))
 else
 some (.inr (-1))
def zAg (y0:List (List Int))(y2:List Int): Option Int :=
 zN (zA1 y0 y2) 0
def zAJ (y0:List (List Int))(y2:List Int): Option Bool :=
 (zAg y0 y2).bind fun r1 =>
 some (decide (0≤r1))
def zAK (r1:(List (List Int))×Int)(s1:(List (List Int))×Int): Option (((List (List Int))×Int)⊕((List (List Int))×Int)) :=
 if decide (s1.2<(len r1.1)) then
 (zB r1.1 s1.2).bind fun x1 =>
 (zAJ r1.1 x1).bind fun r2 =>
 if !r2 then
 (qG s1.1 ([x1]:List (List Int))).bind fun x2 =>
 some (.inl (x2,zM (s1.2+1)))
 else
 some (.inl (s1.1,zM (s1.2+1)))
 else
 some (.inr (s1.1,0))
def zAj (y0:qE): Option ((List (List Int))×Int) :=
 (zBH y0).bind fun r1 =>
 if r1.2 != 0 then
 some (([]:List (List Int)),r1.2)
 else
 zN (zAK r1) (([]:List (List Int)),0)
def zC8 (y0:qE): Option ((List (List Int))×Int) :=
 (zAj y0).bind fun r1 =>
 some (r1.1,r1.2)
def zAi (r1:(List (List Int))×Int)(s1:(List (List Int))×Int): Option (((List (List Int))×Int)⊕((List (List Int))×Int)) :=
 if decide (s1.2<(len r1.1)) then
 (zB r1.1 s1.2).bind fun x1 =>
 (zBX x1 1).bind fun r2 =>
 (qG s1.1 ([r2]:List (List Int))).bind fun x2 =>
 some (.inl (x2,zM (s1.2+1)))
 else
 some (.inr (s1.1,0))
def zAT (y0:qE): Option ((List (List Int))×Int) :=
 (zC8 y0).bind fun r1 =>
 if r1.2 != 0 then
 some (([]:List (List Int)),r1.2)
 else
 zN (zAi r1) (([]:List (List Int)),0)
def zAq (r1:(List (List Int))×Int)(s1:(List (List Int))×Int): Option (((List (List Int))×Int)⊕((List (List Int))×Int)) :=
 if decide (s1.2<(len r1.1)) then
 (zB r1.1 s1.2).bind fun x1 =>
 (zBX x1 1).bind fun r2 =>
 (qG s1.1 ([r2]:List (List Int))).bind fun x2 =>
 some (.inl (x2,zM (s1.2+1)))
 else
 some (.inr (s1.1,0))
def zAV (y0:qE): Option ((List (List Int))×Int) :=
 (zBH y0).bind fun r1 =>
 if r1.2 != 0 then
 some (([]:List (List Int)),r1.2)
 else
 zN (zAq r1) (([]:List (List Int)),0)
def zBZ (y0:qE)(y1:Int): Option ((List (List Int))×Int) :=
 (zBj y0).bind fun r1 =>
 if r1 != 0 then
 some (([]:List (List Int)),r1)
 else
 zL6.bind fun _ =>
 if(decide (y1<1))||(decide (((10:Nat):Int)≤y1)) then
 some (([]:List (List Int)),4)
 else
 (
 if y1==1 then
 (zBR y0).bind fun r3 =>
 some (r3.1,r3.2)
 else
 if y1==2 then
 (zAV y0).bind fun r4 =>
 some (r4.1,r4.2)
 else
 if y1==3 then
 (zAF y0).bind fun r5 =>
 some (r5.1,r5.2)
 else
 if y1==4 then
 (zAT y0).bind fun r6 =>
 some (r6.1,r6.2)
 else
 if y1==5 then
 (zAE y0).bind fun r7 =>
 some (r7.1,r7.2)
 else
 if y1==6 then
 (zAN y0).bind fun r8 =>
 some (r8.1,r8.2)
 else
 if y1==7 then
 (zAO y0).bind fun r9 =>
 some (r9.1,r9.2)
 else
 if y1==8 then
 none
 else
 if y1==9 then
 none
 else
 none:Option ((List (List Int))×Int)).bind fun s1 =>
 some (s1.1,s1.2)
def zCZ (r1:(List (List Int))×Int)(y0:zFE)(s1:(List (List zC))×Int): Option (((List (List zC))×Int)⊕((List (List zC))×Int)) :=
 if decide (s1.2<(len r1.1)) then
 (zB r1.1 s1.2).bind fun x1 =>
 (zCG y0.2.1 x1).bind fun r2 =>
 (qG s1.1 ([r2]:List (List zC))).bind fun x2 =>
 some (.inl (x2,zM (s1.2+1)))
 else
 some (.inr (s1.1,0))
def zBg (y0:zFE)(y1:Int): Option ((List (List zC))×Int) :=
 (zBZ y0.2.2.2 y1).bind fun r1 =>
 if r1.2 != 0 then
 some (([]:List (List zC)),r1.2)
 else
 zN (zCZ r1 y0) (([]:List (List zC)),0)
def zQo (y0:List Int): Option uK :=
 (sub y0 0 (if 2000<(len y0) then 2000 else len y0)).bind fun x1 =>
 some (x1,0)
def zLr:Option (List vQ) :=
 some ([(1,1),(1,2),(2,1),(2,2)]:List vQ)
def zMK (y0:Int)(y1:Int): Option Int :=
 if decide (y1<1) then
 some 0
 else
 (remK y0 y1).bind fun x1 =>
 if decide (x1<0) then
 some (zM (x1+y1))
 else
 some x1
def zGQ (y0:Int): Option zD :=
 (zMK y0 26).bind fun r1 =>
 (cat [114] (zV2 ([IntKind.u8.wrap (zM (97+r1))]:List Int))).bind fun x1 =>
 some x1
def zKv (y0:uK): Option (Int×Int) :=
 if decide ((len y0.1)≤y0.2) then
 some (0,y0.2)
 else
 (zB y0.1 (zM ((zM (y0.2+1))-1))).bind fun x1 =>
 some (x1,zM (y0.2+1))
def tC (y0:uK)(y1:Int): Option (Int×Int) :=
 (zKv y0).bind fun r1 =>
 (zMK r1.1 y1).bind fun r2 =>
 some (r2,r1.2)
def zDC (y0:uK)(y1:Int): Option (zC×Int) :=
 (tC y0 (zM (2*y1))).bind fun r1 =>
 (quoK .i64 r1.1 2).bind fun x1 =>
 some (((vA .i64 r1.1 1)==1,zV2 ([IntKind.u8.wrap (zM (97+x1))]:List Int)),r1.2)
def zHe (y0:uK)(y2:Int)(s1:(List zC)×Int×Int): Option (((List zC)×Int×Int)⊕((List zC)×Int)) :=
 if decide (0<s1.2.1) then
 (zDC (y0.1,s1.2.2) y2).bind fun r2 =>
 (qG s1.1 ([r2.1]:List zC)).bind fun x1 =>
 some (.inl (x1,zM (s1.2.1-1),r2.2))
 else
 some (.inr (s1.1,s1.2.2))
def zGh (y0:uK)(y1:Int)(y2:Int): Option ((List zC)×Int) :=
 (tC y0 (zM (y1+1))).bind fun r1 =>
 zN (zHe y0 y2) (([]:List zC),r1.1,r1.2)
def zKA (y0:uK)(y1:List Int): Option (Int×Int) :=
 (tC y0 (len y1)).bind fun r1 =>
 (zB y1 r1.1).bind fun x1 =>
 some (x1,r1.2)
def zKK (y0:uK)(y1:List zD): Option (zD×Int) :=
 (tC y0 (len y1)).bind fun r1 =>
 (zB y1 r1.1).bind fun x1 =>
 some (x1,r1.2)
def zHQ (s1:(List zC)×Int)(x1:zC)(s3:Int): Option (Int⊕Int) :=
 (
 if decide (s3<(len s1.1)) then
 (zB s1.1 s3).bind fun x2 =>
 if uV x2.2 x1.2 then
 some true
 else
 (zB s1.1 s3).bind fun x3 =>
 if x3.2==x1.2 then
 (zB s1.1 s3).bind fun x4 =>
 if !x4.1 then
 some x1.1
 else
 some false
 else
 some false
 else
 some false:Option Bool).bind fun s4 =>
 if s4 then
 some (.inl (zM (s3+1)))
 else
 some (.inr s3)
def zJR (y0:List zC)(s1:(List zC)×Int): Option (((List zC)×Int)⊕(List zC)) :=
 if decide (s1.2<(len y0)) then
 (zB y0 s1.2).bind fun x1 =>
 (zN (zHQ s1 x1) 0:Option Int).bind fun s2 =>
 (
 if decide (s2<(len s1.1)) then
 (zB s1.1 s2).bind fun x5 =>
 some (x5==x1)
 else
 some false:Option Bool).bind fun s5 =>
 if s5 then
 some (.inl (s1.1,zM (s1.2+1)))
 else
 (qG s1.1 ([(false,[])]:List zC)).bind fun x6 =>
 (wV (decide (0≤(zM (s2+1)))&&decide ((zM (s2+1))≤len x6))).bind fun _ =>
 (wV (decide (0≤s2)&&decide (s2≤len x6))).bind fun _ =>
 (zB (zJf x6 (zM (s2+1)) (List.drop (Int.toNat s2) x6)) s2).bind fun _ =>
 some (.inl (List.set (zJf x6 (zM (s2+1)) (List.drop (Int.toNat s2) x6)) (Int.toNat s2) x1,zM (s1.2+1)))
 else
 some (.inr s1.1)
def zMF (y0:List zC): Option (List zC) :=
 zN (zJR y0) (([]:List zC),0)
def zFT (s2:Int×Int×(List qZ))(r2:zC×Int)(s5:Bool×Int): Option ((Bool×Int)⊕Bool) :=
 if decide (s5.2<(len s2.2.2)) then
 (zB s2.2.2 s5.2).bind fun x1 =>
 some (.inl (s5.1||(x1.1==r2.1),zM (s5.2+1)))
 else
 some (.inr s5.1)
def zHo (y0:uK)(y1:Int)(s2:Int×Int×(List qZ)): Option ((Int×Int×(List qZ))⊕(Int×(List qZ))) :=
 if decide (0<s2.1) then
 (zDC (y0.1,s2.2.1) y1).bind fun r2 =>
 (zKA (y0.1,r2.2) ([1,2,2,2,3]:List Int)).bind fun r3 =>
 (zKK (y0.1,r3.2) ([[],[],[97,110,110],[98,111,98]]:List zD)).bind fun r4 =>
 (
 if r3.1==2 then
 (tC (y0.1,r4.2) 4).bind fun r5 =>
 some (r5.2,r5.1)
 else
 some (r4.2,0):Option (Int×Int)).bind fun s3 =>
 (zN (zFT s2 r2) (false,0):Option Bool).bind fun s4 =>
 if !s4 then
 (qG s2.2.2 ([(r2.1,r3.1,s3.2,r4.1)]:List qZ)).bind fun x2 =>
 some (.inl (zM (s2.1-1),s3.1,x2))
 else
 some (.inl (zM (s2.1-1),s3.1,s2.2.2))
 else
 some (.inr (s2.2.1,s2.2.2))
def zHh (y0:uK)(y1:Int)(y3:Int)(s7:Int×Int×(List zR)): Option ((Int×Int×(List zR))⊕(Int×(List zR))) :=
 if decide (0<s7.1) then
 (zGQ (len s7.2.2)).bind fun r7 =>
 (tC (y0.1,s7.2.1) 3).bind fun r8 =>
 (zGh (y0.1,r8.2) 2 y1).bind fun r9 =>
 (zMF r9.1).bind fun r10 =>
 (zDC (y0.1,r9.2) y1).bind fun r11 =>
 (
 if !(r8.1==0) then
 (tC (y0.1,r11.2) 4).bind fun r12 =>
 some (r12.2,r12.1)
 else
 some (r11.2,0):Option (Int×Int)).bind fun s8 =>
 (
 (tC (y0.1,s8.1) 6).bind fun r13 =>
 if r13.1==5 then
 (tC (y0.1,r13.2) 4).bind fun r14 =>
 (tC (y0.1,r14.2) y3).bind fun r15 =>
 (zGQ r15.1).bind fun r16 =>
 some (r15.2,decide (0<r14.1),r16)
 else
 some (r13.2,r11.1.1,r11.1.2):Option (Int×Bool×zD)).bind fun s9 =>
 (qG s7.2.2 ([(r7,r8.1==0,s8.2,r10,(s9.2.1,s9.2.2))]:List zR)).bind fun x3 =>
 some (.inl (zM (s7.1-1),s9.1,x3))
 else
 some (.inr (s7.2.1,s7.2.2))
def zHm (s6:Int×(List zR))(y0:uK)(y1:Int)(s11:Int×Int×(List wB)): Option ((Int×Int×(List wB))⊕(Int×(List wB))) :=
 if(decide (0<s11.1))&&(decide (0<(len s6.2))) then
 (
 (tC (y0.1,s11.2.1) (len s6.2)).bind fun r18 =>
 (zB s6.2 r18.1).bind fun x4 =>
 some (r18.2,x4):Option (Int×zR)).bind fun s12 =>
 if !s12.2.2.1 then
 (tC (y0.1,s12.1) 10).bind fun r20 =>
 (zDC (y0.1,r20.2) y1).bind fun r21 =>
 (qG s11.2.2 ([(s12.2.1,r20.1,r21.1)]:List wB)).bind fun x6 =>
 some (.inl (zM (s11.1-1),r21.2,x6))
 else
 some (.inl (zM (s11.1-1),s12.1,s11.2.2))
 else
 some (.inr (s11.2.1,s11.2.2))
def zKB (y0:uK)(y1:Int)(y2:Int)(y3:Int): Option (zI×Int) :=
 (
 (tC y0 (zM (y2+1))).bind fun r1 =>
 zN (zHo y0 y1) (r1.1,r1.2,([]:List qZ)):Option (Int×(List qZ))).bind fun s1 =>
 (
 (tC (y0.1,s1.1) (zM (y3+1))).bind fun r6 =>
 zN (zHh y0 y1 y3) (r6.1,r6.2,([]:List zR)):Option (Int×(List zR))).bind fun s6 =>
 (
 (tC (y0.1,s6.1) 3).bind fun r17 =>
 zN (zHm s6 y0 y1) (r17.1,r17.2,([]:List wB)):Option (Int×(List wB))).bind fun s10 =>
 some ((s1.2,s6.2,s10.2),s10.1)
def zEI (y0:List zC)(s1:(List (zC×Unit))×Int): Option (((List (zC×Unit))×Int)⊕Bool) :=
 if decide (s1.2<(len y0)) then
 (zB y0 s1.2).bind fun x1 =>
 (zCF x1).bind fun r1 =>
 if Option.isSome (uW (uQ s1.1 x1 ()) r1) then
 some (.inr false)
 else
 some (.inl (uQ s1.1 x1 (),zM (s1.2+1)))
 else
 some (.inr true)
def zDM (y0:List zC): Option Bool :=
 zN (zEI y0) (([]:List (zC×Unit)),0)
def zWL (y0:List zC)(y1:List zC)(s1:Int): Option (Int⊕Bool) :=
 if decide (s1<(len y0)) then
 (zB y0 s1).bind fun x1 =>
 (zB y1 s1).bind fun x2 =>
 if !(x1==x2) then
 some (.inr false)
 else
 some (.inl (zM (s1+1)))
 else
 some (.inr true)
def zNO (y0:List zC)(y1:List zC): Option Bool :=
 if(len y0) != (len y1) then
 some false
 else
 zN (zWL y0 y1) 0
def zDu (y0:zC): Option zD :=
 (zCN y0).bind fun r1 =>
 if !r1 then
 some []
 else
 if y0.1 then
 (cat [126] y0.2).bind fun x1 =>
 some x1
 else
 some y0.2
def zEK (y0:Int)(y1:Int): Option zD:=z8f y0 y1
def zGy (y0:Int): Option zD :=
 (zEK y0 10).bind fun r1 =>
 some r1
def zD9 (y0:Int): Option zD :=
 (zGy y0).bind fun r1 =>
 some r1
def zJH (y0:List zD)(y1:zD): Option zD:=z81 y0 y1
def zDY (y0:qZ): Option zD :=
 (zB zBE y0.2.1).bind fun x1 =>
 (zDu y0.1).bind fun r1 =>
 (
 if y0.2.1==2 then
 (zD9 y0.2.2.1).bind fun r2 =>
 (qG ([x1,r1]:List zD) ([r2]:List zD)).bind fun x2 =>
 some x2
 else
 some ([x1,r1]:List zD):Option (List zD)).bind fun s1 =>
 (
 if !(y0.2.2.2==[]) then
 (qG s1 ([[102,114,111,109],y0.2.2.2]:List zD)).bind fun x3 =>
 some x3
 else
 some s1:Option (List zD)).bind fun s2 =>
 (zJH s2 [32]).bind fun r3 =>
 some r3
def zCz (y0:wB): Option zD :=
 (cat [112,114,111,109,111,116,101,32] y0.1).bind fun x1 =>
 (cat x1 [32]).bind fun x2 =>
 (zD9 y0.2.1).bind fun r1 =>
 (cat x2 r1).bind fun x3 =>
 (cat x3 [32,105,102,32]).bind fun x4 =>
 (zDu y0.2.2).bind fun r2 =>
 (cat x4 r2).bind fun x5 =>
 some x5
def zDX (y0:zR)(s3:(List zD)×Int): Option (((List zD)×Int)⊕(List zD)) :=
 if decide (s3.2<(len y0.2.2.2.1)) then
 (zB y0.2.2.2.1 s3.2).bind fun x3 =>
 (zDu x3).bind fun r2 =>
 (
 if decide (s3.2<(zM ((len y0.2.2.2.1)-1))) then
 (cat r2 [44]).bind fun x4 =>
 some x4
 else
 some r2:Option zD).bind fun s4 =>
 (qG s3.1 ([s4]:List zD)).bind fun x5 =>
 some (.inl (x5,zM (s3.2+1)))
 else
 some (.inr s3.1)
def zEU (y0:zR): Option zD :=
 (cat y0.1 [58]).bind fun x1 =>
 (
 if !y0.2.1 then
 (zD9 y0.2.2.1).bind fun r1 =>
 (cat r1 [58]).bind fun x2 =>
 some (([[114,117,108,101],y0.1,x2]:List zD),[61,62])
 else
 some (([[115,116,114,105,99,116],x1]:List zD),[45,62]):Option ((List zD)×zD)).bind fun s1 =>
 (zN (zDX y0) (s1.1,0):Option (List zD)).bind fun s2 =>
 (zDu y0.2.2.2.2).bind fun r3 =>
 (qG s2 ([s1.2,r3]:List zD)).bind fun x6 =>
 (zJH x6 [32]).bind fun r4 =>
 some r4
def zIX (y0:zD): Option Int:=some (len y0)
def zGB (y0:zD): Option zD:=some y0
def zBL (y0:zD)(y1:zD): Option (Int×Unit×zD):=z4W y0 y1
def zFs (y0:zI)(s2:Int×zD): Option ((Int×zD)⊕zD) :=
 if decide (s2.1<(len y0.1)) then
 (zB y0.1 s2.1).bind fun x1 =>
 (zDY x1).bind fun r2 =>
 (cat r2 [10]).bind fun x2 =>
 (zBL s2.2 x2).bind fun r3 =>
 some (.inl (zM (s2.1+1),r3.2.2))
 else
 some (.inr s2.2)
def zFx (y0:zI)(s4:Int×zD): Option ((Int×zD)⊕zD) :=
 if decide (s4.1<(len y0.2.1)) then
 (zB y0.2.1 s4.1).bind fun x3 =>
 (zEU x3).bind fun r4 =>
 (cat r4 [10]).bind fun x4 =>
 (zBL s4.2 x4).bind fun r5 =>
 some (.inl (zM (s4.1+1),r5.2.2))
 else
 some (.inr s4.2)
def zFw (y0:zI)(s6:Int×zD): Option ((Int×zD)⊕zD) :=
 if decide (s6.1<(len y0.2.2)) then
 (zB y0.2.2 s6.1).bind fun x5 =>
 (zCz x5).bind fun r6 =>
 (cat r6 [10]).bind fun x6 =>
 (zBL s6.2 x6).bind fun r7 =>
 some (.inl (zM (s6.1+1),r7.2.2))
 else
 some (.inr s6.2)
def zIf (y0:zI): Option (zD×Int) :=
 (zBY y0).bind fun r1 =>
 if r1 != 0 then
 some ([],r1)
 else
 (zN (zFs y0) (0,([]:zD)):Option zD).bind fun s1 =>
 (zN (zFx y0) (0,s1):Option zD).bind fun s3 =>
 (zN (zFw y0) (0,s3):Option zD).bind fun s5 =>
 (zIX s5).bind fun r8 =>
 if decide (4096<r8) then
 some ([],2)
 else
 (zGB s5).bind fun r9 =>
 some (r9,0)
def zAD (y0:zAX): Option (zD×(List zD)×Bool) :=
 if(len y0.1)==0 then
 some ([],y0.1,true)
 else
 (zB y0.1 0).bind fun x1 =>
 (sub y0.1 1 (len y0.1)).bind fun x2 =>
 some (x1,x2,y0.2)
def zJs (y0:zD): Option (zC×Int) :=
 (
 (
 if decide (0<(len y0)) then
 (z2G y0 0).bind fun x1 =>
 some (x1==126)
 else
 some false:Option Bool).bind fun s2 =>
 if s2 then
 (sub y0 1 (len y0)).bind fun x2 =>
 some (x2,true)
 else
 some (y0,false):Option (zD×Bool)).bind fun s1 =>
 (zCN (s1.2,s1.1)).bind fun r1 =>
 if !r1 then
 some ((false,[]),3)
 else
 some ((s1.2,s1.1),0)
def zCM (y0:zD)(y1:zD): Option Bool :=
 (
 if decide ((len y1)≤(len y0)) then
 (sub y0 (zM ((len y0)-(len y1))) (len y0)).bind fun x1 =>
 some (x1==y1)
 else
 some false:Option Bool).bind fun s1 =>
 some s1
def zDV (y0:zD)(y1:zD): Option (zD×Bool) :=
 (zCM y0 y1).bind fun r1 =>
 if !r1 then
 some (y0,false)
 else
 (sub y0 0 (zM ((len y0)-(len y1)))).bind fun x1 =>
 some (x1,true)
def zD0 (y0:zD)(y1:zD): Option (zD×Bool) :=
 (zDV y0 y1).bind fun r1 =>
 some (r1.1,r1.2)
def zBF (y0:zAX)(y1:zD): Option (zC×(List zD)×Bool) :=
 (zAD y0).bind fun r1 =>
 (zD0 r1.1 y1).bind fun r2 =>
 (zJs r2.1).bind fun r3 =>
 (
 if r1.2.2 then
 some true
 else
 if !r2.2 then
 some true
 else
 some (r3.2 != 0):Option Bool).bind fun s1 =>
 some (r3.1,r1.2.1,s1)
def zA0 (y0:zAX)(y1:zD): Option (zD×(List zD)×Bool) :=
 (zAD y0).bind fun r1 =>
 (zD0 r1.1 y1).bind fun r2 =>
 (
 if r1.2.2 then
 some true
 else
 if !r2.2 then
 some true
 else
 (zBv r2.1).bind fun r3 =>
 some (!r3):Option Bool).bind fun s1 =>
 some (r2.1,r1.2.1,s1)
def zBV (y0:zAX)(y1:zD): Option (Int×(List zD)×Bool) :=
 (zAD y0).bind fun r1 =>
 (zD0 r1.1 y1).bind fun r2 =>
 (
 if !r2.2 then
 some true
 else
 if(len r2.1) != 1 then
 some true
 else
 (z2G r2.1 0).bind fun x1 =>
 if decide (x1<48) then
 some true
 else
 (z2G r2.1 0).bind fun x2 =>
 some (decide (57<x2)):Option Bool).bind fun s1 =>
 if s1 then
 some (0,r1.2.1,true)
 else
 (z2G r2.1 0).bind fun x3 =>
 some (zM (IntKind.u8.wrap (x3-48)),r1.2.1,r1.2.2)
def zCH (y0:zAX)(y1:Int): Option (qZ×(List zD)×Bool) :=
 (zBF y0 []).bind fun r1 =>
 (
 if y1==2 then
 (zBV (r1.2.1,r1.2.2) []).bind fun r2 =>
 some (r2.2.1,r2.2.2,r2.1)
 else
 some (r1.2.1,r1.2.2,0):Option ((List zD)×Bool×Int)).bind fun s1 =>
 (
 if decide (0<(len s1.1)) then
 (
 if s1.2.1 then
 some (s1.1,true)
 else
 (zAD (s1.1,s1.2.1)).bind fun r3 =>
 some (r3.2.1,!(r3.1==[102,114,111,109])):Option ((List zD)×Bool)).bind fun s3 =>
 (zA0 (s3.1,s3.2) []).bind fun r4 =>
 some (r4.2.1,r4.2.2,r4.1)
 else
 some (s1.1,s1.2.1,[]):Option ((List zD)×Bool×zD)).bind fun s2 =>
 some ((r1.1,y1,s1.2.2,s2.2.2),s2.1,s2.2.1)
def zBt (y0:zAX): Option (wB×(List zD)×Bool) :=
 (zA0 y0 []).bind fun r1 =>
 (zBV (r1.2.1,r1.2.2) []).bind fun r2 =>
 (
 if r2.2.2 then
 some (r2.2.1,true)
 else
 (zAD (r2.2.1,r2.2.2)).bind fun r3 =>
 some (r3.2.1,!(r3.1==[105,102])):Option ((List zD)×Bool)).bind fun s1 =>
 (zBF (s1.1,s1.2) []).bind fun r4 =>
 some ((r1.1,r2.1,r4.1),r4.2.1,r4.2.2)
def zBm (s3:(List zD)×Bool×(List zC)): Option (((List zD)×Bool×(List zC))⊕((List zD)×Bool×(List zC))) :=
 if(decide (2<(len s3.1)))&&(!s3.2.1) then
 (
 if(len s3.1)==3 then
 some []
 else
 some [44]:Option zD).bind fun s4 =>
 (zBF (s3.1,s3.2.1) s4).bind fun r4 =>
 (qG s3.2.2 ([r4.1]:List zC)).bind fun x1 =>
 some (.inl (r4.2.1,r4.2.2,x1))
 else
 some (.inr (s3.1,s3.2.1,s3.2.2))
def zCw (y0:zAX)(y1:Bool): Option (zR×(List zD)×Bool) :=
 (
 if y1 then
 (zA0 y0 [58]).bind fun r1 =>
 some ([45,62],r1.2.1,r1.2.2,r1.1,0)
 else
 (zA0 y0 []).bind fun r2 =>
 (zBV (r2.2.1,r2.2.2) [58]).bind fun r3 =>
 some ([61,62],r3.2.1,r3.2.2,r2.1,r3.1):Option (zD×(List zD)×Bool×zD×Int)).bind fun s1 =>
 (zN (zBm) (s1.2.1,s1.2.2.1,([]:List zC)):Option ((List zD)×Bool×(List zC))).bind fun s2 =>
 (
 if s2.2.1 then
 some (s2.1,true)
 else
 (zAD (s2.1,s2.2.1)).bind fun r5 =>
 some (r5.2.1,!(r5.1==s1.1)):Option ((List zD)×Bool)).bind fun s5 =>
 (zBF (s5.1,s5.2) []).bind fun r6 =>
 some ((s1.2.2.2.1,y1,s1.2.2.2.2,s2.2.2,r6.1),r6.2.1,r6.2.2)
def zJv (r1:zD×(List zD)×Bool)(s3:Int×Int): Option ((Int×Int)⊕Int) :=
 if decide (s3.2<4) then
 (zB zBE s3.2).bind fun x1 =>
 if x1==r1.1 then
 some (.inl (s3.2,zM (s3.2+1)))
 else
 some (.inl (s3.1,zM (s3.2+1)))
 else
 some (.inr s3.1)
def zDJ (y0:zAX)(y1:zI): Option (Int×zD×(List zD)×Bool×(List qZ)×(List zR)×(List wB)) :=
 (zAD y0).bind fun r1 =>
 (
 if r1.1==[97,120,105,111,109] then
 some (r1.1==[97,120,105,111,109])
 else
 if r1.1==[112,114,101,109,105,115,101] then
 some (r1.1==[112,114,101,109,105,115,101])
 else
 some (r1.1==[97,115,115,117,109,101]):Option Bool).bind fun s1 =>
 if s1 then
 (zN (zJv r1) (1,0):Option Int).bind fun s2 =>
 (zCH (r1.2.1,r1.2.2) s2).bind fun r2 =>
 (qG y1.1 ([r2.1]:List qZ)).bind fun x2 =>
 (zDY r2.1).bind fun r3 =>
 some (1,r3,r2.2.1,r2.2.2,x2,y1.2.1,y1.2.2)
 else
 (
 if r1.1==[115,116,114,105,99,116] then
 some (r1.1==[115,116,114,105,99,116])
 else
 some (r1.1==[114,117,108,101]):Option Bool).bind fun s4 =>
 if s4 then
 (zCw (r1.2.1,r1.2.2) (r1.1==[115,116,114,105,99,116])).bind fun r4 =>
 (qG y1.2.1 ([r4.1]:List zR)).bind fun x3 =>
 (zEU r4.1).bind fun r5 =>
 some (2,r5,r4.2.1,r4.2.2,y1.1,x3,y1.2.2)
 else
 if r1.1==[112,114,111,109,111,116,101] then
 (zBt (r1.2.1,r1.2.2)).bind fun r6 =>
 (qG y1.2.2 ([r6.1]:List wB)).bind fun x4 =>
 (zCz r6.1).bind fun r7 =>
 some (3,r7,r6.2.1,r6.2.2,y1.1,y1.2.1,x4)
 else
 some (0,[],r1.2.1,r1.2.2,y1.1,y1.2.1,y1.2.2)
def zEJ (y0:zD)(y1:zD): Option Int:=z4I y0 y1
def zFA (y0:zD)(y1:zD): Option (zD×zD×Bool) :=
 (zEJ y0 y1).bind fun r1 =>
 if decide (0≤r1) then
 (sub y0 0 r1).bind fun x1 =>
 (sub y0 (zM (r1+(len y1))) (len y0)).bind fun x2 =>
 some (x1,x2,true)
 else
 some (y0,[],false)
def zMC (y0:zD)(y1:zD): Option (zD×zD×Bool) :=
 (zFA y0 y1).bind fun r1 =>
 some (r1.1,r1.2.1,r1.2.2)
def zJQ (y0:zD): Option (List zD):=zZp y0
def zE3 (s2:zD×Int×Int×(List qZ)×(List zR)×(List wB)): Option ((zD×Int×Int×(List qZ)×(List zR)×(List wB))⊕(((List qZ)×(List zR)×(List wB))⊕(zI×Int×Int))) :=
 if !(s2.1==[]) then
 (zMC s2.1 [10]).bind fun r1 =>
 (zJQ r1.1).bind fun r2 =>
 (zDJ (r2,false) (s2.2.2.2.1,s2.2.2.2.2.1,s2.2.2.2.2.2)).bind fun r3 =>
 if(!r1.2.2)||(r3.2.2.2.1||((decide (0<(len r3.2.2.1)))||((!(r3.2.1==r1.1))||(decide (r3.1<s2.2.1))))) then
 some (.inr (.inr ((([]:List qZ),([]:List zR),([]:List wB)),s2.2.2.1,3)))
 else
 some (.inl (r1.2.1,r3.1,zM (s2.2.2.1+1),r3.2.2.2.2.1,r3.2.2.2.2.2.1,r3.2.2.2.2.2.2))
 else
 some (.inr (.inl (s2.2.2.2.1,s2.2.2.2.2.1,s2.2.2.2.2.2)))
def zFF (y0:zD): Option (zI×Int×Int) :=
 if decide (4096<(len y0)) then
 some ((([]:List qZ),([]:List zR),([]:List wB)),0,2)
 else
 wZ (zN (zE3) (y0,1,1,([]:List qZ),([]:List zR),([]:List wB)):Option (((List qZ)×(List zR)×(List wB))⊕(zI×Int×Int))) fun s1 =>
 (zBY (s1.1,s1.2.1,s1.2.2)).bind fun r4 =>
 if r4 != 0 then
 some ((([]:List qZ),([]:List zR),([]:List wB)),0,r4)
 else
 some ((s1.1,s1.2.1,s1.2.2),0,0)
def zFS (y0:zC)(y1:List (zC×Unit)): Option Bool :=
 some (!(Option.isSome (uW y1 y0)))
def zBe (y0:List zC)(y1:List (zC×Unit))(s1:Int): Option (Int⊕Int) :=
 if decide (s1<(len y0)) then
 (zB y0 s1).bind fun x1 =>
 (zFS x1 y1).bind fun r1 =>
 if r1 then
 some (.inr s1)
 else
 some (.inl (zM (s1+1)))
 else
 some (.inr (-1))
def zBp (y0:List zC)(y1:List (zC×Unit)): Option Int :=
 zN (zBe y0 y1) 0
def zAv (y0:List zC)(y1:List (zC×Unit)): Option Bool :=
 (zBp y0 y1).bind fun r1 =>
 some (decide (0≤r1))
def zGx (y1:List zC)(s2:Int×(List (zC×Unit))): Option ((Int×(List (zC×Unit)))⊕(List (zC×Unit))) :=
 if decide (s2.1<(len y1)) then
 (zB y1 s2.1).bind fun x1 =>
 some (.inl (zM (s2.1+1),uQ s2.2 x1 ()))
 else
 some (.inr s2.2)
def zE5 (y0:zI)(s5:Bool×Int×(List (zC×Unit))): Option ((Bool×Int×(List (zC×Unit)))⊕((Bool×(List (zC×Unit)))⊕(List (zC×Unit)))) :=
 if decide (s5.2.1<(len y0.2.1)) then
 (zB y0.2.1 s5.2.1).bind fun x2 =>
 (
 if x2.2.1 then
 (zFS x2.2.2.2.2 s5.2.2).bind fun r1 =>
 if r1 then
 (zAv x2.2.2.2.1 s5.2.2).bind fun r2 =>
 some (!r2)
 else
 some false
 else
 some false:Option Bool).bind fun s6 =>
 if s6 then
 some (.inl (true,zM (s5.2.1+1),uQ s5.2.2 x2.2.2.2.2 ()))
 else
 some (.inl (s5.1,zM (s5.2.1+1),s5.2.2))
 else
 some (.inr (.inl (s5.1,s5.2.2)))
def zJ4 (y0:zI)(s4:Bool×(List (zC×Unit))): Option ((Bool×(List (zC×Unit)))⊕(List (zC×Unit))) :=
 if s4.1 then
 zN (zE5 y0) (false,0,s4.2)
 else
 some (.inr s4.2)
def zDz (y0:zI)(y1:List zC): Option (List zC) :=
 (zN (zGx y1) (0,([]:List (zC×Unit))):Option (List (zC×Unit))).bind fun s1 =>
 (zN (zJ4 y0) (true,s1):Option (List (zC×Unit))).bind fun s3 =>
 (mkS 0 ((List.length s3:Nat):Int) ((false,[]):zC)).bind fun x3 =>
 (gd (List.length (x3++List.map Prod.fst s3))).bind fun _ =>
 (zB7 (x3++List.map Prod.fst s3)).bind fun r3 =>
 some r3
def zHg (y0:zI)(s2:(List zC)×Int): Option (((List zC)×Int)⊕(List zC)) :=
 if decide (s2.2<(len y0.1)) then
 (zB y0.1 s2.2).bind fun x1 =>
 if x1.2.1==1 then
 (qG s2.1 ([x1.1]:List zC)).bind fun x2 =>
 some (.inl (x2,zM (s2.2+1)))
 else
 some (.inl (s2.1,zM (s2.2+1)))
 else
 some (.inr s2.1)
def zJq (y0:zI): Option (List zC) :=
 (zN (zHg y0) (([]:List zC),0):Option (List zC)).bind fun s1 =>
 (zB7 s1).bind fun r1 =>
 some r1
def zF4 (y0:List zC)(y1:List zC)(s1:Int): Option (Int⊕Bool) :=
 if decide (s1<(len y0)) then
 (zB y0 s1).bind fun x1 =>
 (zB y1 s1).bind fun x2 =>
 if !(x1==x2) then
 some (.inr false)
 else
 some (.inl (zM (s1+1)))
 else
 some (.inr true)
def zEj (y0:List zC)(y1:List zC): Option Bool :=
 if(len y0) != (len y1) then
 some false
 else
 zN (zF4 y0 y1) 0
def zLc (y0:zR)(y1:zR): Option Bool :=
 (
 if y0.2.1 then
 if y0.2.2.2.2==y1.2.2.2.2 then
 (zEj y0.2.2.2.1 y1.2.2.2.1).bind fun r1 =>
 some r1
 else
 some false
 else
 some false:Option Bool).bind fun s1 =>
 some s1
def zCC (y0:List zR)(y1:zR)(s1:Int): Option (Int⊕Int) :=
 if decide (s1<(len y0)) then
 (zB y0 s1).bind fun x1 =>
 (zLc x1 y1).bind fun r1 =>
 if r1 then
 some (.inr s1)
 else
 some (.inl (zM (s1+1)))
 else
 some (.inr (-1))
def zCT (y0:List zR)(y1:zR): Option Int :=
 zN (zCC y0 y1) 0
def zAe (y0:List zR)(y1:zR): Option Bool :=
 (zCT y0 y1).bind fun r1 =>
 some (decide (0≤r1))
def zJK (y0:zR): Option (zR) :=
 some y0
def zEH (y0:List zC)(y1 y2:Int): Option (List zC):=delM y0 y1 y2
def zEm (y0:zR)(s1:(List zR)×Int): Option (((List zR)×Int)⊕(List zR)) :=
 if decide (s1.2<(len y0.2.2.2.1)) then
 (zB y0.2.2.2.1 s1.2).bind fun x1 =>
 (zCd y0.2.2.2.1).bind fun r1 =>
 (zEH r1 s1.2 (zM (s1.2+1))).bind fun r2 =>
 (zCF y0.2.2.2.2).bind fun r3 =>
 (qG r2 ([r3]:List zC)).bind fun x2 =>
 (zB7 x2).bind fun r4 =>
 (zCF x1).bind fun r5 =>
 (qG s1.1 ([([],true,0,r4,r5)]:List zR)).bind fun x3 =>
 some (.inl (x3,zM (s1.2+1)))
 else
 some (.inr s1.1)
def zEZ (y0:zR): Option (List zR) :=
 zN (zEm y0) (([]:List zR),0)
def zHn (r1:(List zR))(y0:zI)(s1:Int)(s2:Int): Option (Int⊕(Int⊕Bool)) :=
 if decide (s2<(len r1)) then
 (zB r1 s2).bind fun x2 =>
 (zJK x2).bind fun r2 =>
 (zAe y0.2.1 r2).bind fun r3 =>
 if !r3 then
 some (.inr (.inr false))
 else
 some (.inl (zM (s2+1)))
 else
 some (.inr (.inl (zM (s1+1))))
def zHk (y0:zI)(s1:Int): Option (Int⊕Bool) :=
 if decide (s1<(len y0.2.1)) then
 (zB y0.2.1 s1).bind fun x1 =>
 if !x1.2.1 then
 some (.inl (zM (s1+1)))
 else
 (zEZ x1).bind fun r1 =>
 zN (zHn r1 y0 s1) 0
 else
 some (.inr true)
def zJw (y0:zI): Option Bool :=
 zN (zHk y0) 0
def zKt (y0:zI): Option Bool :=
 (
 (zBY y0).bind fun r1 =>
 if r1==0 then
 (zJw y0).bind fun r2 =>
 if r2 then
 (zJq y0).bind fun r3 =>
 (zDz y0 r3).bind fun r4 =>
 (zDM r4).bind fun r5 =>
 some r5
 else
 some false
 else
 some false:Option Bool).bind fun s1 =>
 some s1
def zIg (y0:zI)(s1:Int): Option (Int⊕zD) :=
 (zD9 s1).bind fun r1 =>
 (cat [116] r1).bind fun x1 =>
 (zDd y0 x1).bind fun r2 =>
 if decide (r2<0) then
 some (.inr x1)
 else
 some (.inl (zM (s1+1)))
def zKu (y0:zI): Option zD :=
 zN (zIg y0) 1
def zF3 (r3:(List zR))(r2:zI)(s2:Int×(List zR))(s3:Int×(List zR)): Option ((Int×(List zR))⊕((Int×(List zR))⊕((List zR)⊕(zI×Int)))) :=
 if decide (s3.1<(len r3)) then
 (zB r3 s3.1).bind fun x3 =>
 (zJK x3).bind fun r4 =>
 (zAe s3.2 r4).bind fun r5 =>
 if r5 then
 some (.inl (zM (s3.1+1),s3.2))
 else
 if(len s3.2)==24 then
 some (.inr (.inr (.inr ((([]:List qZ),([]:List zR),([]:List wB)),2))))
 else
 (zKu (r2.1,s3.2,r2.2.2)).bind fun r6 =>
 (qG s3.2 ([(r6,x3.2.1,x3.2.2.1,x3.2.2.2.1,x3.2.2.2.2)]:List zR)).bind fun x4 =>
 some (.inl (zM (s3.1+1),x4))
 else
 some (.inr (.inl (zM (s2.1+1),s3.2)))
def zFR (r2:zI)(s2:Int×(List zR)): Option ((Int×(List zR))⊕((List zR)⊕(zI×Int))) :=
 if decide (s2.1<(len s2.2)) then
 (zB s2.2 s2.1).bind fun x1 =>
 if !x1.2.1 then
 some (.inl (zM (s2.1+1),s2.2))
 else
 (zB s2.2 s2.1).bind fun x2 =>
 (zEZ x2).bind fun r3 =>
 zN (zF3 r3 r2 s2) (0,s2.2)
 else
 some (.inr (.inl s2.2))
def zHr (y0:zI): Option (zI×Int) :=
 (zBY y0).bind fun r1 =>
 if r1 != 0 then
 some ((([]:List qZ),([]:List zR),([]:List wB)),r1)
 else
 (zDE y0 ([]:List zC)).bind fun r2 =>
 wZ (zN (zFR r2) (0,r2.2.1):Option ((List zR)⊕(zI×Int))) fun s1 =>
 some ((r2.1,s1,r2.2.2),0)
def zKP (y0:Int): Option (List zC) :=
 (
 if decide (y0<0) then
 none
 else
 some ():Option Unit).bind fun _ =>
 if decide (0<(zM (y0-(zM (((0:Nat):Int)-(len ([]:List zC))))))) then
 (mkS (zM (y0-(zM (((0:Nat):Int)-(len ([]:List zC)))))) (zM (y0-(zM (((0:Nat):Int)-(len ([]:List zC)))))) ((false,[]):zC)).bind fun x1 =>
 (sub x1 0 (len ([]:List zC))).bind fun x2 =>
 some x2
 else
 some ([]:List zC)
def zMm (y0:List (List zC))(s2:Int×Int): Option ((Int×Int)⊕Int) :=
 if decide (s2.2<(len y0)) then
 (zB y0 s2.2).bind fun x1 =>
 if decide ((zM (s2.1+(len x1)))<0) then
 none
 else
 some (.inl (zM (s2.1+(len x1)),zM (s2.2+1)))
 else
 some (.inr s2.1)
def zMs (y0:List (List zC))(s3:(List zC)×Int): Option (((List zC)×Int)⊕(List zC)) :=
 if decide (s3.2<(len y0)) then
 (zB y0 s3.2).bind fun x2 =>
 (qG s3.1 x2).bind fun x3 =>
 some (.inl (x3,zM (s3.2+1)))
 else
 some (.inr s3.1)
def zEL (y0:List (List zC)): Option (List zC) :=
 (zN (zMm y0) (0,0):Option Int).bind fun s1 =>
 (zKP s1).bind fun r1 =>
 zN (zMs y0) (r1,0)
def zFL (y0:List zC)(y1:zC): Option Bool :=
 (zF2 y0 y1).bind fun r1 =>
 some (!r1)
def zB1 (y0:List (List zC))(y1:zC)(s1:Int): Option (Int⊕Int) :=
 if decide (s1<(len y0)) then
 (zB y0 s1).bind fun x1 =>
 (zFL x1 y1).bind fun r1 =>
 if r1 then
 some (.inr s1)
 else
 some (.inl (zM (s1+1)))
 else
 some (.inr (-1))
def zAw (y0:List (List zC))(y1:zC): Option Int :=
 zN (zB1 y0 y1) 0
def zAb (y0:List (List zC))(y1:zC): Option Bool :=
 (zAw y0 y1).bind fun r1 =>
 some (decide (0≤r1))
def zE8 (y0:zC)(y1:Bool)(y2:List (List zC)): Option Bool :=
 (
 if y1 then
 (zAb y2 y0).bind fun r1 =>
 some r1
 else
 some false:Option Bool).bind fun s1 =>
 some s1
def zBa (y0:List zC)(y1:Bool)(y2:List (List zC))(s1:Int): Option (Int⊕Int) :=
 if decide (s1<(len y0)) then
 (zB y0 s1).bind fun x1 =>
 (zE8 x1 y1 y2).bind fun r1 =>
 if r1 then
 some (.inr s1)
 else
 some (.inl (zM (s1+1)))
 else
 some (.inr (-1))
def zBD (y0:List zC)(y1:Bool)(y2:List (List zC)): Option Int :=
 zN (zBa y0 y1 y2) 0
def zB2 (y0:List zC)(y1:Bool)(y2:List (List zC))(s2:(List zC)×Int×Int): Option (((List zC)×Int×Int)⊕((List zC)×Int)) :=
 if decide (s2.2.2<(len y0)) then
 (zB s2.1 s2.2.2).bind fun x1 =>
 (zE8 x1 y1 y2).bind fun r2 =>
 if !r2 then
 (zB s2.1 s2.2.1).bind fun _ =>
 some (.inl (List.set s2.1 (Int.toNat s2.2.1) x1,zM (s2.2.1+1),zM (s2.2.2+1)))
 else
 some (.inl (s2.1,s2.2.1,zM (s2.2.2+1)))
 else
 some (.inr (s2.1,s2.2.1))
def zBB (y0:List zC)(y1:Bool)(y2:List (List zC)): Option (List zC) :=
 (zBD y0 y1 y2).bind fun r1 =>
 if r1==(-1) then
 some y0
 else
 (zN (zB2 y0 y1 y2) (y0,r1,zM (r1+1)):Option ((List zC)×Int)).bind fun s1 =>
 (wV (decide (0≤s1.2)&&decide (s1.2≤len s1.1))).bind fun _ =>
 (sub (zDI s1.1 s1.2 (false,[])) 0 s1.2).bind fun x3 =>
 some x3
def zD5 (y0:zFE)(y1:Int)(y2:Bool): Option ((List zC)×Int) :=
 (zBg y0 y1).bind fun r1 =>
 if r1.2 != 0 then
 some (([]:List zC),r1.2)
 else
 (zEL r1.1).bind fun r2 =>
 (zB7 r2).bind fun r3 =>
 (zBB r3 y2 r1.1).bind fun r4 =>
 some (r4,0)
def zDF:Option Bool :=
 (zFF [112,114,101,109,105,115,101,32,112,32,49,10,112,114,101,109,105,115,101,32,126,112,32,49,10,97,120,105,111,109,32,120,10,114,117,108,101,32,97,32,49,58,32,61,62,32,113,10,114,117,108,101,32,98,32,49,58,32,61,62,32,126,113,10,112,114,111,109,111,116,101,32,98,32,50,32,105,102,32,120,10]).bind fun r1 =>
 (zDO r1.1 (1,1)).bind fun r2 =>
 (zD5 r2.1 1 true).bind fun r3 =>
 (zD5 r2.1 3 false).bind fun r4 =>
 (
 if r1.2.2==0 then
 if r2.2==0 then
 if r3.2==0 then
 if(len r3.1)==2 then
 (zB r3.1 0).bind fun x1 =>
 if x1==(true,[113]) then
 if r4.2==0 then
 some ((len r4.1)==4)
 else
 some false
 else
 some false
 else
 some false
 else
 some false
 else
 some false
 else
 some false:Option Bool).bind fun s1 =>
 some s1
def zIy (r18:(List (List zC))×Int)(r7:zI×Int)(s7:Int)(s8:Int): Option (Int⊕(Int⊕(Int⊕(Unit⊕Bool)))) :=
 if decide (s8<(len r18.1)) then
 (zB r18.1 s8).bind fun x2 =>
 (
 (zDM x2).bind fun r19 =>
 if !r19 then
 some true
 else
 (zDz r7.1 x2).bind fun r20 =>
 (zNO r20 x2).bind fun r21 =>
 some (!r21):Option Bool).bind fun s9 =>
 if s9 then
 some (.inr (.inr (.inr (.inr false))))
 else
 some (.inl (zM (s8+1)))
 else
 some (.inr (.inl (zM (s7+1))))
def zFt (r17:zFE×Int)(r7:zI×Int)(s6:Int)(s7:Int): Option (Int⊕(Int⊕(Unit⊕Bool))) :=
 if decide (s7≤7) then
 (zBg r17.1 s7).bind fun r18 =>
 if r18.2==2 then
 some (.inl (zM (s7+1)))
 else
 if r18.2 != 0 then
 some (.inr (.inr (.inr false)))
 else
 zN (zIy r18 r7 s7) 0
 else
 some (.inr (.inl (zM (s6+1))))
def zFr (r16:(List vQ))(r7:zI×Int)(s6:Int): Option (Int⊕(Unit⊕Bool)) :=
 if decide (s6<(len r16)) then
 (zB r16 s6).bind fun x1 =>
 (zDO r7.1 x1).bind fun r17 =>
 if r17.2 != 0 then
 some (.inr (.inr false))
 else
 zN (zFt r17 r7 s6) 1
 else
 some (.inr (.inl ()))
def zGT (y0:List Int)(y1:zD): Option Bool :=
 (zQo y0).bind fun r1 =>
 (zFF y1).bind fun r2 =>
 wZ (
 (
 if r2.2.2 != 0 then
 some (true,r1.2)
 else
 if decide (300<(len y1)) then
 some (true,r1.2)
 else
 if decide (8<(len r2.1.2.1)) then
 some (true,r1.2)
 else
 (tC r1 4).bind fun r3 =>
 some (decide (0<r3.1),r3.2):Option (Bool×Int)).bind fun s2 =>
 if s2.1 then
 (zKB (r1.1,s2.2) 3 4 4).bind fun r4 =>
 (zIf r4.1).bind fun r5 =>
 (zFF r5.1).bind fun r6 =>
 if(r5.2 != 0)||(r6.2.2 != 0) then
 some (.inr false)
 else
 some (.inl (r6.1.1,r6.1.2.1,r6.1.2.2))
 else
 some (.inl (r2.1.1,r2.1.2.1,r2.1.2.2)):Option (((List qZ)×(List zR)×(List wB))⊕Bool)) fun s1 =>
 (zHr (s1.1,s1.2.1,s1.2.2)).bind fun r7 =>
 (zDw r7.1).bind fun r8 =>
 (
 if r7.2 != 0 then
 some true
 else
 if r8.2 != 0 then
 some true
 else
 (zKt r7.1).bind fun r9 =>
 if !r9 then
 some true
 else
 some (decide (14<(len r8.1))):Option Bool).bind fun s3 =>
 if s3 then
 (
 if r7.2==0 then
 if r8.2==0 then
 zDF.bind fun r10 =>
 some r10
 else
 if r8.2==2 then
 zDF.bind fun r11 =>
 some r11
 else
 if r7.2 != 0 then
 zDF.bind fun r12 =>
 some r12
 else
 some false
 else
 if r7.2==2 then
 if r8.2==0 then
 zDF.bind fun r13 =>
 some r13
 else
 if r8.2==2 then
 zDF.bind fun r14 =>
 some r14
 else
 if r7.2 != 0 then
 zDF.bind fun r15 =>
 some r15
 else
 some false
 else
 some false:Option Bool).bind fun s4 =>
 some s4
 else
 wZ (
 zLr.bind fun r16 =>
 zN (zFr r16 r7) 0:Option (Unit⊕Bool)) fun _ =>
 zDF.bind fun r22 =>
 some r22
end
end Go.GD
