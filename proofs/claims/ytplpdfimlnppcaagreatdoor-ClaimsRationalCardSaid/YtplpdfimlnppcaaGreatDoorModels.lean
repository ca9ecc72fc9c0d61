/- A part. Conditions: none. -/
import Derived.Test.YtplpdfimlnppcaaGreatDoorLib
namespace Go.GD
set_option autoImplicit false
noncomputable section
set_option linter.unusedVariables false
abbrev uO:=(List Int)×Int
abbrev zG:=Bool×qD
abbrev vT:=zG×Int×Int×qD
abbrev qL:=qD×Bool×Int×(List zG)×zG
abbrev vQ:=qD×Int×zG
abbrev zO:=(List vT)×(List qL)×(List vQ)
abbrev zI:=Int×Int×(List Int)×zG
abbrev zAX:=(List qD)×Bool
abbrev yN:=Int×Int
abbrev wV:=Int×Int×Int×Int
abbrev wD:=Int×Int
abbrev wJ:=Int×(List wD)
abbrev zBu:=zO×(List zI)×(List wV)×wJ
abbrev uU:=zO×(List zI)×(List zI)×Int
abbrev uG:=Int×(List (List Int))×(List Int)×(List (List Int))×Bool
abbrev zQx:=Int×Int×Int×zG
def zBS:List qD:=[[],[97,120,105,111,109],[112,114,101,109,105,115,101],[97,115,115,117,109,101]]
def yW:List Int:=[0,1,56,2,57,49,28,3,61,58,42,50,38,29,17,4,62,47,59,36,45,43,51,22,53,39,33,30,24,18,12,5,63,55,48,27,60,41,37,16,46,35,44,21,52,32,23,11,54,26,40,15,34,20,31,10,25,14,19,9,13,8,7,6]
def zBp (y0:uU):Option Bool :=
 some (decide (40<(zS ((len y0.2.1)+(len y0.2.2.1)))))
def zBY (y0:List zI) (y1:Int):Option Bool :=
 some ((decide (0≤y1))&&(decide (y1<(len y0))))
def zNv (y0:List Int) (s1:Int) (s3:(List Int)×Int×Int):Option (((List Int)×Int×Int)⊕((List Int)×Int)) :=
 if decide (s3.2.2<((Int.toNat (((List.length y0:Nat):Int)-s1):Nat):Int)) then
 (zUz s3.1 s1 s3.2.2).bind fun x3 =>
 (zUz s3.1 s1 (zS (s3.2.2-1))).bind fun x4 =>
 if x3 != x4 then
 (zUz s3.1 s1 s3.2.2).bind fun x5 =>
 (zF s3.1 s3.2.1).bind fun _ =>
 some (.inl (List.set s3.1 (Int.toNat s3.2.1) x5,zS (s3.2.1+1),zS (s3.2.2+1)))
 else
 some (.inl (s3.1,s3.2.1,zS (s3.2.2+1)))
 else
 some (.inr (s3.1,s3.2.1))
def zGT (y0:List Int) (s1:Int):Option (Int⊕(List Int)) :=
 if decide (s1<(len y0)) then
 (zF y0 s1).bind fun x1 =>
 (zF y0 (zS (s1-1))).bind fun x2 =>
 if x1==x2 then
 (yC (decide (0≤s1)&&decide (s1≤len y0))).bind fun _ =>
 (zU (zNv y0 s1) (y0,s1,1):Option ((List Int)×Int)).bind fun s2 =>
 (yC (decide (0≤s2.2)&&decide (s2.2≤len s2.1))).bind fun _ =>
 (sub (zDI s2.1 s2.2 0) 0 s2.2).bind fun x7 =>
 some (.inr x7)
 else
 some (.inl (zS (s1+1)))
 else
 some (.inr y0)
def zBV (y0:List Int):Option (List Int) :=
 if decide ((len y0)<2) then
 some y0
 else
 zU (zGT y0) 1
def zBQ (y0:List Int):Option (List Int):=z4q y0
def zDS (x1:zI) (rec_argument_Subs:(List zI)->Int->Option (List Int)) (y0:List zI) (s2:(List Int)×Int):Option (((List Int)×Int)⊕(List Int)) :=
 if decide (s2.2<(len x1.2.2.1)) then
 (zF x1.2.2.1 s2.2).bind fun x2 =>
 (rec_argument_Subs y0 x2).bind fun r2 =>
 (wE s2.1 r2).bind fun x3 =>
 some (.inl (x3,zS (s2.2+1)))
 else
 some (.inr s2.1)
def zFa (rec_argument_Subs:(List zI)->Int->Option (List Int)) (y0:List zI) (y1:Int):Option (List Int) :=
 (zBY y0 y1).bind fun r1 =>
 if !r1 then
 some ([]:List Int)
 else
 (
 (zF y0 y1).bind fun x1 =>
 zU (zDS x1 rec_argument_Subs y0) (([y1]:List Int),0):Option (List Int)).bind fun s1 =>
 (zBQ s1).bind fun r3 =>
 (zBV r3).bind fun r4 =>
 some r4
def zDM:Nat->(List zI)->Int->Option (List Int)
 | 0=>fun _ _=>none
 | k+1=>fun y0 y1=>zFa (zDM k) y0 y1
def zDN (y0:List zI) (y1:Int):Option (List Int):=zZV fun k=>zDM k y0 y1
def zD6 (r1:(List Int)) (y1:List zI) (y0:zO) (s2:(List Int)×Int):Option (((List Int)×Int)⊕(List Int)) :=
 if decide (s2.2<(len r1)) then
 (zF r1 s2.2).bind fun x1 =>
 (zF y1 x1).bind fun x2 =>
 (
 if decide (0≤x2.2.1) then
 (zF y0.2.1 x2.2.1).bind fun x3 =>
 some (!x3.2.1)
 else
 some false:Option Bool).bind fun s3 =>
 if s3 then
 (wE s2.1 ([x2.2.1]:List Int)).bind fun x4 =>
 some (.inl (x4,zS (s2.2+1)))
 else
 some (.inl (s2.1,zS (s2.2+1)))
 else
 some (.inr s2.1)
def zCG (y0:zO) (y1:List zI) (y2:Int):Option (List Int) :=
 (
 (zDN y1 y2).bind fun r1 =>
 zU (zD6 r1 y1 y0) (([]:List Int),0):Option (List Int)).bind fun s1 =>
 (zBQ s1).bind fun r2 =>
 (zBV r2).bind fun r3 =>
 some r3
def zIT (x4:zI) (rec_argument_run:zO->(List zI)->Int->Option (List zG)) (y0:zO) (y1:List zI) (s2:(List zG)×Int):Option (((List zG)×Int)⊕(List zG)) :=
 if decide (s2.2<(len x4.2.2.1)) then
 (zF x4.2.2.1 s2.2).bind fun x5 =>
 (rec_argument_run y0 y1 x5).bind fun r1 =>
 (wE s2.1 r1).bind fun x6 =>
 some (.inl (x6,zS (s2.2+1)))
 else
 some (.inr s2.1)
def zHD (rec_argument_run:zO->(List zI)->Int->Option (List zG)) (y0:zO) (y1:List zI) (y2:Int):Option (List zG) :=
 (zF y1 y2).bind fun x1 =>
 (zF y1 y2).bind fun x2 =>
 (
 if decide (0≤x2.2.1) then
 (zF y0.2.1 x2.2.1).bind fun x3 =>
 some x3.2.1
 else
 some false:Option Bool).bind fun s1 =>
 if s1 then
 (zF y1 y2).bind fun x4 =>
 zU (zIT x4 rec_argument_run y0 y1) (([x1.2.2.2]:List zG),0)
 else
 some ([x1.2.2.2]:List zG)
def zDC:Nat->zO->(List zI)->Int->Option (List zG)
 | 0=>fun _ _ _=>none
 | k+1=>fun y0 y1 y2=>zHD (zDC k) y0 y1 y2
def zFB (y0:zO) (y1:List zI) (y2:Int):Option (List zG):=zZV fun k=>zDC k y0 y1 y2
def zMw (y0:List zG) (y1:zG) (s1:Int):Option (Int⊕Int) :=
 if decide (s1<(len y0)) then
 (zF y0 s1).bind fun x1 =>
 if y1==x1 then
 some (.inr s1)
 else
 some (.inl (zS (s1+1)))
 else
 some (.inr (-1))
def zC0 (y0:List zG) (y1:zG):Option Int :=
 zU (zMw y0 y1) 0
def zC5 (y0:List zG) (y1:zG):Option Bool :=
 (zC0 y0 y1).bind fun r1 =>
 some (decide (0≤r1))
def zDr (y0:List zG) (y1:zG):Option Bool :=
 (zC5 y0 y1).bind fun r1 =>
 some r1
def zKk (y0:List Int) (y1:Int) (s1:Int):Option (Int⊕Int) :=
 if decide (s1<(len y0)) then
 (zF y0 s1).bind fun x1 =>
 if y1==x1 then
 some (.inr s1)
 else
 some (.inl (zS (s1+1)))
 else
 some (.inr (-1))
def zEr (y0:List Int) (y1:Int):Option Int :=
 zU (zKk y0 y1) 0
def zAx (y0:List Int) (y1:Int):Option Bool :=
 (zEr y0 y1).bind fun r1 =>
 some (decide (0≤r1))
def zCp (y3:List Int) (y0:zO) (y2:Int) (y1:List zI) (s1:Int):Option (Int⊕Bool) :=
 if decide (s1<(len y3)) then
 (zF y3 s1).bind fun x1 =>
 (zF y0.2.1 y2).bind fun x2 =>
 if x2.2.1 then
 (zF y0.2.1 y2).bind fun x3 =>
 (zFB y0 y1 x1).bind fun r1 =>
 (zDr r1 x3.2.2.2.2).bind fun r2 =>
 if r2 then
 some (.inr false)
 else
 some (.inl (zS (s1+1)))
 else
 (zCG y0 y1 x1).bind fun r3 =>
 (zAx r3 y2).bind fun r4 =>
 if r4 then
 some (.inr false)
 else
 some (.inl (zS (s1+1)))
 else
 some (.inr true)
def zCz (y0:zO) (y1:List zI) (y2:Int) (y3:List Int):Option Bool :=
 zU (zCp y3 y0 y2 y1) 0
def zEh (y0:List Int):Option (List Int) :=
 (wE ([]:List Int) y0).bind fun x1 =>
 some x1
def zE0 (y0:Int) (y2:uU):Option Bool :=
 some (decide (y2.2.2.2≤y0))
def zA5 (y0:List Int) (y2:uU) (s1:Int):Option (Int⊕Int) :=
 if decide (s1<(len y0)) then
 (zF y0 s1).bind fun x1 =>
 (zE0 x1 y2).bind fun r1 =>
 if r1 then
 some (.inr s1)
 else
 some (.inl (zS (s1+1)))
 else
 some (.inr (-1))
def zAT (y0:List Int) (y2:uU):Option Int :=
 zU (zA5 y0 y2) 0
def zAA (y0:List Int) (y2:uU):Option Bool :=
 (zAT y0 y2).bind fun r1 =>
 some (decide (0≤r1))
def zB2 (y0:uU) (x1:qL) (y2:List Int) (rec_argument_builder_apply_2:uU->Int->(List Int)->Option (List zI)) (y1:Int) (s2:Int×(List zI)):Option ((Int×(List zI))⊕(Unit⊕(List zI))) :=
 if decide (s2.1<(len y0.2.1)) then
 (zF y0.2.1 s2.1).bind fun x2 =>
 (zF x1.2.2.2.1 (len y2)).bind fun x3 =>
 if x2.2.2.2==x3 then
 (
 (zEh y2).bind fun r2 =>
 (wE r2 ([s2.1]:List Int)).bind fun x4 =>
 (rec_argument_builder_apply_2 (y0.1,y0.2.1,s2.2,y0.2.2.2) y1 x4).bind fun r3 =>
 some r3:Option (List zI)).bind fun s3 =>
 some (.inl (zS (s2.1+1),s3))
 else
 some (.inl (zS (s2.1+1),s2.2))
 else
 some (.inr (.inr s2.2))
def zBj (rec_argument_builder_apply_2:uU->Int->(List Int)->Option (List zI)) (y0:uU) (y1:Int) (y2:List Int):Option (List zI) :=
 (zF y0.1.2.1 y1).bind fun x1 =>
 (zBp y0).bind fun r1 =>
 if r1 then
 some y0.2.2.1
 else
 yD (
 if decide ((len y2)<(len x1.2.2.2.1)) then
 zU (zB2 y0 x1 y2 rec_argument_builder_apply_2 y1) (0,y0.2.2.1)
 else
 some (.inl ()):Option (Unit⊕(List zI))) fun _ =>
 (
 (zAA y2 y0).bind fun r6 =>
 if r6 then
 (zCz y0.1 y0.2.1 y1 y2).bind fun r7 =>
 some r7
 else
 some false:Option Bool).bind fun s4 =>
 if s4 then
 (zF y0.1.2.1 y1).bind fun x6 =>
 (wE y0.2.2.1 ([((-1),y1,y2,x6.2.2.2.2)]:List zI)).bind fun x7 =>
 some x7
 else
 some y0.2.2.1
def zBI:Nat->uU->Int->(List Int)->Option (List zI)
 | 0=>fun _ _ _=>none
 | k+1=>fun y0 y1 y2=>zBj (zBI k) y0 y1 y2
def zBi (y0:uU) (y1:Int) (y2:List Int):Option (List zI):=zZV fun k=>zBI k y0 y1 y2
def zKN (y0:qL) (y1:qD):Option Bool :=
 some (y0.1==y1)
def zBN (y0:List qL) (y1:qD) (s1:Int):Option (Int⊕Int) :=
 if decide (s1<(len y0)) then
 (zF y0 s1).bind fun x1 =>
 (zKN x1 y1).bind fun r1 =>
 if r1 then
 some (.inr s1)
 else
 some (.inl (zS (s1+1)))
 else
 some (.inr (-1))
def zAr (y0:List qL) (y1:qD):Option Int :=
 zU (zBN y0 y1) 0
def zEI (y0:zO) (y1:qD):Option Int :=
 (zAr y0.2.1 y1).bind fun r1 =>
 some r1
def zIY (y0:vT) (y1:zG):Option Bool :=
 some (y0.1==y1)
def zAj (y0:List vT) (y1:zG) (s1:Int):Option (Int⊕Int) :=
 if decide (s1<(len y0)) then
 (zF y0 s1).bind fun x1 =>
 (zIY x1 y1).bind fun r1 =>
 if r1 then
 some (.inr s1)
 else
 some (.inl (zS (s1+1)))
 else
 some (.inr (-1))
def zAZ (y0:List vT) (y1:zG):Option Int :=
 zU (zAj y0 y1) 0
def zDQ (y0:zO) (y1:zG):Option Int :=
 (zAZ y0.1 y1).bind fun r1 =>
 some r1
def zET (y0:qD) (s1:Int):Option (Int⊕Bool) :=
 if decide (s1<(len y0)) then
 (tW y0 s1).bind fun x1 =>
 if (decide (97≤x1))&&(decide (x1≤122)) then
 some (.inl (zS (s1+1)))
 else
 if (decide (0<s1))&&(if decide (48≤x1) then (decide (x1≤57))||(x1==95) else x1==95) then
 some (.inl (zS (s1+1)))
 else
 some (.inr false)
 else
 some (.inr true)
def zBq (y0:qD):Option Bool :=
 if ((len y0)==0)||(decide (12<(len y0))) then
 some false
 else
 zU (zET y0) 0
def zCI (y0:zG):Option Bool :=
 (zBq y0.2).bind fun r1 =>
 some r1
def zCw (y0:Int):Option Bool :=
 some ((decide (0≤y0))&&(decide (y0≤9)))
def zEl (y0:qD):Option Bool :=
 (
 if y0==[] then
 some true
 else
 (zBq y0).bind fun r1 =>
 some r1:Option Bool).bind fun s1 =>
 some s1
def zD9 (y0:vT):Option Int :=
 yD (
 (
 if y0.2.1==1 then
 some (y0.2.1==1)
 else
 some (y0.2.1==3):Option Bool).bind fun s2 =>
 if s2 then
 if y0.2.2.1 != 0 then
 some (.inr 1)
 else
 some (.inl ())
 else
 if y0.2.1==2 then
 (zCw y0.2.2.1).bind fun r1 =>
 if !r1 then
 some (.inr 1)
 else
 some (.inl ())
 else
 some (.inr 4):Option (Unit⊕Int)) fun _ =>
 (
 (zCI y0.1).bind fun r2 =>
 if !r2 then
 some true
 else
 (zEl y0.2.2.2).bind fun r3 =>
 some (!r3):Option Bool).bind fun s3 =>
 if s3 then
 some 1
 else
 some 0
def zCn (y0:zO) (y1:vQ):Option Int :=
 (
 (zCw y1.2.1).bind fun r1 =>
 if !r1 then
 some true
 else
 (zCI y1.2.2).bind fun r2 =>
 some (!r2):Option Bool).bind fun s1 =>
 if s1 then
 some 1
 else
 (zEI y0 y1.1).bind fun r3 =>
 if decide (r3<0) then
 some 6
 else
 (zF y0.2.1 r3).bind fun x1 =>
 if x1.2.1 then
 some 4
 else
 some 0
def zEb (y0:qD):Option Bool :=
 some (!(y0==y0))
def zFU (y0:qD) (y1:qD):Option Int :=
 (zEb y0).bind fun r1 =>
 (zEb y1).bind fun r2 =>
 if r1 then
 if r2 then
 some 0
 else
 some (-1)
 else
 if r2 then
 some 1
 else
 if uN y0 y1 then
 some (-1)
 else
 if !(uN y0 y1||y0==y1) then
 some 1
 else
 some 0
def zCR (y0:zG) (y1:zG):Option Int :=
 (zFU y0.2 y1.2).bind fun r1 =>
 if (r1 != 0)||(y0.1==y1.1) then
 some r1
 else
 if y1.1 then
 some (-1)
 else
 some 1
def zD0 (y0:qL) (s3:Int):Option (Int⊕(Unit⊕Int)) :=
 if decide (s3<(len y0.2.2.2.1)) then
 (zF y0.2.2.2.1 s3).bind fun x1 =>
 (zCI x1).bind fun r4 =>
 if !r4 then
 some (.inr (.inr 1))
 else
 some (.inl (zS (s3+1)))
 else
 some (.inr (.inl ()))
def zHO (y0:qL) (s4:Int):Option (Int⊕Int) :=
 if decide (s4<(len y0.2.2.2.1)) then
 (zF y0.2.2.2.1 (zS (s4-1))).bind fun x2 =>
 (zF y0.2.2.2.1 s4).bind fun x3 =>
 (zCR x2 x3).bind fun r5 =>
 if decide (0≤r5) then
 some (.inr 8)
 else
 some (.inl (zS (s4+1)))
 else
 some (.inr 0)
def zFr (y0:qL):Option Int :=
 if decide (4<(len y0.2.2.2.1)) then
 some 2
 else
 (
 (zBq y0.1).bind fun r1 =>
 if !r1 then
 some true
 else
 (zCI y0.2.2.2.2).bind fun r2 =>
 if !r2 then
 some true
 else
 (zCw y0.2.2.1).bind fun r3 =>
 if !r3 then
 some true
 else
 if y0.2.1 then
 some (y0.2.2.1 != 0)
 else
 some false:Option Bool).bind fun s1 =>
 if s1 then
 some 1
 else
 yD (zU (zD0 y0) 0:Option (Unit⊕Int)) fun _ =>
 zU (zHO y0) 1
def zC2 (y0:zO) (s2:Int):Option (Int⊕(Unit⊕Int)) :=
 if decide (s2<(len y0.1)) then
 (zF y0.1 s2).bind fun x1 =>
 (zD9 x1).bind fun r1 =>
 if r1 != 0 then
 some (.inr (.inr r1))
 else
 (zDQ y0 x1.1).bind fun r2 =>
 if decide (r2<s2) then
 some (.inr (.inr 5))
 else
 some (.inl (zS (s2+1)))
 else
 some (.inr (.inl ()))
def zC1 (y0:zO) (s4:Int):Option (Int⊕(Unit⊕Int)) :=
 if decide (s4<(len y0.2.1)) then
 (zF y0.2.1 s4).bind fun x2 =>
 (zFr x2).bind fun r3 =>
 if r3 != 0 then
 some (.inr (.inr r3))
 else
 (zEI y0 x2.1).bind fun r4 =>
 if decide (r4<s4) then
 some (.inr (.inr 5))
 else
 some (.inl (zS (s4+1)))
 else
 some (.inr (.inl ()))
def zCZ (y0:zO) (s5:Int):Option (Int⊕Int) :=
 if decide (s5<(len y0.2.2)) then
 (zF y0.2.2 s5).bind fun x3 =>
 (zCn y0 x3).bind fun r5 =>
 if r5 != 0 then
 some (.inr r5)
 else
 some (.inl (zS (s5+1)))
 else
 some (.inr 0)
def zCC (y0:zO):Option Int :=
 if (decide (16<(len y0.1)))||((decide (24<(len y0.2.1)))||(decide (8<(len y0.2.2)))) then
 some 2
 else
 yD (zU (zC2 y0) 0:Option (Unit⊕Int)) fun _ =>
 yD (zU (zC1 y0) 0:Option (Unit⊕Int)) fun _ =>
 zU (zCZ y0) 0
def zED (y0:zO) (s2:Int×(List zI)):Option ((Int×(List zI))⊕(List zI)) :=
 if decide (s2.1<(len y0.1)) then
 (zF y0.1 s2.1).bind fun x1 =>
 (wE s2.2 ([(s2.1,(-1),([]:List Int),x1.1)]:List zI)).bind fun x2 =>
 some (.inl (zS (s2.1+1),x2))
 else
 some (.inr s2.2)
def zCc (y0:zO) (s4:Int×(List zI)×(List zI)×Int) (s6:Int×(List zI)):Option ((Int×(List zI))⊕((List zI)⊕((Int×(List zI)×(List zI)×Int)⊕((List zI)×(List zI)×Int)))) :=
 if decide (s6.1<(len y0.2.1)) then
 (zF y0.2.1 s6.1).bind fun x3 =>
 (
 if decide (0<(len x3.2.2.2.1)) then
 (zBi (y0,s4.2.1,s6.2,s4.2.2.2) s6.1 ([]:List Int)).bind fun r2 =>
 some r2
 else
 if s4.1==1 then
 (wE s6.2 ([((-1),s6.1,([]:List Int),x3.2.2.2.2)]:List zI)).bind fun x4 =>
 some x4
 else
 some s6.2:Option (List zI)).bind fun s7 =>
 (zBp (y0,s4.2.1,s7,s4.2.2.2)).bind fun r3 =>
 if r3 then
 some (.inr (.inr (.inr (s4.2.1,s7,s4.2.2.2))))
 else
 some (.inl (zS (s6.1+1),s7))
 else
 some (.inr (.inl s6.2))
def zB6 (y0:zO) (s4:Int×(List zI)×(List zI)×Int):Option ((Int×(List zI)×(List zI)×Int)⊕((List zI)×(List zI)×Int)) :=
 yD (zU (zCc y0 s4) (0,([]:List zI)):Option ((List zI)⊕((Int×(List zI)×(List zI)×Int)⊕((List zI)×(List zI)×Int)))) fun s5 =>
 if (len s5)==0 then
 some (.inr (s4.2.1,s5,s4.2.2.2))
 else
 (wE s4.2.1 s5).bind fun x5 =>
 some (.inl (zS (s4.1+1),x5,s5,len s4.2.1))
def zE6 (y0:zO):Option ((List zI)×Int) :=
 (zCC y0).bind fun r1 =>
 if r1 != 0 then
 some (([]:List zI),r1)
 else
 (zU (zED y0) (0,([]:List zI)):Option (List zI)).bind fun s1 =>
 (zU (zB6 y0) (1,s1,([]:List zI),0):Option ((List zI)×(List zI)×Int)).bind fun s3 =>
 (zBp (y0,s3.1,s3.2.1,s3.2.2)).bind fun r4 =>
 if r4 then
 some (([]:List zI),2)
 else
 some (s3.1,0)
def zCu (y0:List zG):Option (List zG) :=
 (wE ([]:List zG) y0).bind fun x1 =>
 some x1
def zLz (y0:List zG) (s1:Int) (s3:(List zG)×Int×Int):Option (((List zG)×Int×Int)⊕((List zG)×Int)) :=
 if decide (s3.2.2<((Int.toNat (((List.length y0:Nat):Int)-s1):Nat):Int)) then
 (zUz s3.1 s1 s3.2.2).bind fun x3 =>
 (zUz s3.1 s1 (zS (s3.2.2-1))).bind fun x4 =>
 if !(x3==x4) then
 (zUz s3.1 s1 s3.2.2).bind fun x5 =>
 (zF s3.1 s3.2.1).bind fun _ =>
 some (.inl (List.set s3.1 (Int.toNat s3.2.1) x5,zS (s3.2.1+1),zS (s3.2.2+1)))
 else
 some (.inl (s3.1,s3.2.1,zS (s3.2.2+1)))
 else
 some (.inr (s3.1,s3.2.1))
def zEC (y0:List zG) (s1:Int):Option (Int⊕(List zG)) :=
 if decide (s1<(len y0)) then
 (zF y0 s1).bind fun x1 =>
 (zF y0 (zS (s1-1))).bind fun x2 =>
 if x1==x2 then
 (yC (decide (0≤s1)&&decide (s1≤len y0))).bind fun _ =>
 (zU (zLz y0 s1) (y0,s1,1):Option ((List zG)×Int)).bind fun s2 =>
 (yC (decide (0≤s2.2)&&decide (s2.2≤len s2.1))).bind fun _ =>
 (sub (zDI s2.1 s2.2 (false,[])) 0 s2.2).bind fun x7 =>
 some (.inr x7)
 else
 some (.inl (zS (s1+1)))
 else
 some (.inr y0)
def zBy (y0:List zG):Option (List zG) :=
 if decide ((len y0)<2) then
 some y0
 else
 zU (zEC y0) 1
def zAR (y0:List zG):Option (List zG):=zWf zCR y0
def zDe (y0:List zG):Option (List zG) :=
 (zCu y0).bind fun r1 =>
 (zAR r1).bind fun r2 =>
 (zBy r2).bind fun r3 =>
 some r3
def zDD (y1:List Int) (y0:List zI) (s2:(List zG)×Int):Option (((List zG)×Int)⊕(List zG)) :=
 if decide (s2.2<(len y1)) then
 (zF y1 s2.2).bind fun x1 =>
 (zBY y0 x1).bind fun r1 =>
 if r1 then
 (zF y0 x1).bind fun x2 =>
 (wE s2.1 ([x2.2.2.2]:List zG)).bind fun x3 =>
 some (.inl (x3,zS (s2.2+1)))
 else
 some (.inl (s2.1,zS (s2.2+1)))
 else
 some (.inr s2.1)
def zB9 (y0:List zI) (y1:List Int):Option (List zG) :=
 (zU (zDD y1 y0) (([]:List zG),0):Option (List zG)).bind fun s1 =>
 (zDe s1).bind fun r2 =>
 some r2
def zDk (y0:zG):Option zG :=
 some (!y0.1,y0.2)
def zK8 (y0:zO) (y1:List zI) (y2:Int) (y3:Int):Option (List Int) :=
 (
 (zF y1 y2).bind fun x1 =>
 (zF y1 y3).bind fun x2 =>
 some (x1.2.2.2,x2):Option (zG×zI)).bind fun s1 =>
 (zDk s1.2.2.2.2).bind fun r1 =>
 if decide (0≤s1.2.1) then
 (
 if s1.1==r1 then
 (zF y0.1 s1.2.1).bind fun x3 =>
 some (x3.2.1 != 1)
 else
 some false:Option Bool).bind fun s2 =>
 if s2 then
 (wE ([]:List Int) ([1]:List Int)).bind fun x4 =>
 some x4
 else
 some ([]:List Int)
 else
 (zF y0.2.1 s1.2.2.1).bind fun x5 =>
 if !x5.2.1 then
 (
 if s1.1==r1 then
 (wE ([]:List Int) ([2]:List Int)).bind fun x6 =>
 some x6
 else
 some ([]:List Int):Option (List Int)).bind fun s3 =>
 (
 if s1.1.1 then
 (zF y0.2.1 s1.2.2.1).bind fun x7 =>
 some (s1.1.2==x7.1)
 else
 some false:Option Bool).bind fun s4 =>
 if s4 then
 (wE s3 ([3]:List Int)).bind fun x8 =>
 some x8
 else
 some s3
 else
 some ([]:List Int)
def zHd (y0:Int):Option Bool :=
 some (y0 != y0)
def zBf (y0:Int) (y1:Int):Option Int :=
 (zHd y0).bind fun r1 =>
 (zHd y1).bind fun r2 =>
 if r1 then
 if r2 then
 some 0
 else
 some (-1)
 else
 if r2 then
 some 1
 else
 if decide (y0<y1) then
 some (-1)
 else
 if decide (y1<y0) then
 some 1
 else
 some 0
def zUg (y0:List Int) (s1:Int):Option (Int⊕Int) :=
 if decide (s1<(len y0)) then
 (zF y0 s1).bind fun x1 =>
 if x1 != 0 then
 some (.inr x1)
 else
 some (.inl (zS (s1+1)))
 else
 some (.inr 0)
def zHc (y0:List Int):Option Int :=
 zU (zUg y0) 0
def zD5 (y0:wV) (y1:wV):Option Int :=
 (zBf y0.1 y1.1).bind fun r1 =>
 (zBf y0.2.1 y1.2.1).bind fun r2 =>
 (zBf y0.2.2.1 y1.2.2.1).bind fun r3 =>
 (zBf y0.2.2.2 y1.2.2.2).bind fun r4 =>
 (zHc ([r1,r2,r3,r4]:List Int)).bind fun r5 =>
 some r5
def zAc (y0:List wV):Option (List wV):=zWf zD5 y0
def zGR (r1:(List Int)) (s3:(List wV)×Int) (s4:(List wV)×Int) (s2:(List wV)×Int) (s5:(List wV)×Int):Option (((List wV)×Int)⊕(((List wV)×Int)⊕(((List wV)×Int)⊕(((List wV)×Int)⊕(List wV))))) :=
 if decide (s5.2<(len r1)) then
 (zF r1 s5.2).bind fun x1 =>
 (wE s5.1 ([(s3.2,s4.2,s2.2,x1)]:List wV)).bind fun x2 =>
 some (.inl (x2,zS (s5.2+1)))
 else
 some (.inr (.inl (s5.1,zS (s4.2+1))))
def zCx (y1:List zI) (s2:(List wV)×Int) (r1:(List Int)) (s3:(List wV)×Int) (s4:(List wV)×Int):Option (((List wV)×Int)⊕(((List wV)×Int)⊕(((List wV)×Int)⊕(List wV)))) :=
 if decide (s4.2<(len y1)) then
 (zDN y1 s4.2).bind fun r2 =>
 (zAx r2 s2.2).bind fun r3 =>
 if !r3 then
 some (.inl (s4.1,zS (s4.2+1)))
 else
 zU (zGR r1 s3 s4 s2) (s4.1,0)
 else
 some (.inr (.inl (s4.1,zS (s3.2+1))))
def zDA (y1:List zI) (y0:zO) (s2:(List wV)×Int) (s3:(List wV)×Int):Option (((List wV)×Int)⊕(((List wV)×Int)⊕(List wV))) :=
 if decide (s3.2<(len y1)) then
 (zK8 y0 y1 s3.2 s2.2).bind fun r1 =>
 if (len r1)==0 then
 some (.inl (s3.1,zS (s3.2+1)))
 else
 zU (zCx y1 s2 r1 s3) (s3.1,0)
 else
 some (.inr (.inl (s3.1,zS (s2.2+1))))
def zCd (y1:List zI) (y0:zO) (s2:(List wV)×Int):Option (((List wV)×Int)⊕(List wV)) :=
 if decide (s2.2<(len y1)) then
 zU (zDA y1 y0 s2) (s2.1,0)
 else
 some (.inr s2.1)
def zE3 (y0:zO) (y1:List zI):Option (List wV) :=
 (zU (zCd y1 y0) (([]:List wV),0):Option (List wV)).bind fun s1 =>
 (zAc s1).bind fun r4 =>
 some r4
def zEN (r1:(List Int)) (y0:List zI) (s2:(List Int)×Int):Option (((List Int)×Int)⊕(List Int)) :=
 if decide (s2.2<(len r1)) then
 (zF r1 s2.2).bind fun x1 =>
 (zF y0 x1).bind fun x2 =>
 if decide (0≤x2.1) then
 (zF y0 x1).bind fun x3 =>
 (wE s2.1 ([x3.1]:List Int)).bind fun x4 =>
 some (.inl (x4,zS (s2.2+1)))
 else
 some (.inl (s2.1,zS (s2.2+1)))
 else
 some (.inr s2.1)
def zCe (y0:List zI) (y1:Int):Option (List Int) :=
 (
 (zDN y0 y1).bind fun r1 =>
 zU (zEN r1 y0) (([]:List Int),0):Option (List Int)).bind fun s1 =>
 (zBQ s1).bind fun r2 =>
 some r2
def zIt (y0:Int) (y1:zO):Option Bool :=
 (zF y1.1 y0).bind fun x1 =>
 some (x1.2.1==3)
def zAl (y0:List Int) (y1:zO) (s1:Int):Option (Int⊕Int) :=
 if decide (s1<(len y0)) then
 (zF y0 s1).bind fun x1 =>
 (zIt x1 y1).bind fun r1 =>
 if r1 then
 some (.inr s1)
 else
 some (.inl (zS (s1+1)))
 else
 some (.inr (-1))
def zBA (y0:List Int) (y1:zO):Option Int :=
 zU (zAl y0 y1) 0
def zAn (y0:List Int) (y1:zO):Option Bool :=
 (zBA y0 y1).bind fun r1 =>
 some (decide (0≤r1))
def zHC (y0:zO) (y1:List zI) (y2:Int):Option Bool :=
 (zCe y1 y2).bind fun r1 =>
 (zAn r1 y0).bind fun r2 =>
 some r2
def zD3 (x5:zI) (rec_argument_Last:zO->(List zI)->Int->Option (List Int)) (y0:zO) (y1:List zI) (s3:(List Int)×Int):Option (((List Int)×Int)⊕(List Int)) :=
 if decide (s3.2<(len x5.2.2.1)) then
 (zF x5.2.2.1 s3.2).bind fun x6 =>
 (rec_argument_Last y0 y1 x6).bind fun r2 =>
 (wE s3.1 r2).bind fun x7 =>
 some (.inl (x7,zS (s3.2+1)))
 else
 some (.inr s3.1)
def zFp (rec_argument_Last:zO->(List zI)->Int->Option (List Int)) (y0:zO) (y1:List zI) (y2:Int):Option (List Int) :=
 (
 (zBY y1 y2).bind fun r1 =>
 if !r1 then
 some true
 else
 (zF y1 y2).bind fun x1 =>
 some (decide (x1.2.1<0)):Option Bool).bind fun s1 =>
 if s1 then
 some ([]:List Int)
 else
 (zF y1 y2).bind fun x2 =>
 (zF y0.2.1 x2.2.1).bind fun x3 =>
 if !x3.2.1 then
 (zF y1 y2).bind fun x4 =>
 some ([x4.2.1]:List Int)
 else
 (
 (zF y1 y2).bind fun x5 =>
 zU (zD3 x5 rec_argument_Last y0 y1) (([]:List Int),0):Option (List Int)).bind fun s2 =>
 (zBQ s2).bind fun r3 =>
 (zBV r3).bind fun r4 =>
 some r4
def zDO:Nat->zO->(List zI)->Int->Option (List Int)
 | 0=>fun _ _ _=>none
 | k+1=>fun y0 y1 y2=>zFp (zDO k) y0 y1 y2
def zHp (y0:zO) (y1:List zI) (y2:Int):Option (List Int):=zZV fun k=>zDO k y0 y1 y2
def zJX (y1:List Int) (y0:zO) (s1:(List Int)×Int):Option (((List Int)×Int)⊕(List Int)) :=
 if decide (s1.2<(len y1)) then
 (zF y1 s1.2).bind fun x1 =>
 (zF y0.2.1 x1).bind fun x2 =>
 (wE s1.1 ([x2.2.2.1]:List Int)).bind fun x3 =>
 some (.inl (x3,zS (s1.2+1)))
 else
 some (.inr s1.1)
def zJH (y0:zO) (y1:List Int):Option (List Int) :=
 zU (zJX y1 y0) (([]:List Int),0)
def zC8 (y0:zO) (y1:List zI) (y2:Int):Option (List Int) :=
 (zHp y0 y1 y2).bind fun r1 =>
 (zJH y0 r1).bind fun r2 =>
 some r2
def zG4 (y0:List Int) (s2:Int×Int):Option ((Int×Int)⊕Int) :=
 if decide (s2.2<(len y0)) then
 (zF y0 s2.2).bind fun x2 =>
 some (.inl (if x2 > s2.1 then x2 else s2.1,zS (s2.2+1)))
 else
 some (.inr s2.1)
def zDi (y0:List Int):Option Int :=
 (
 if decide ((len y0)<1) then
 none
 else
 some ():Option Unit).bind fun _ =>
 (zF y0 0).bind fun x1 =>
 zU (zG4 y0) (x1,1)
def zGb (y0:List Int) (s2:Int×Int):Option ((Int×Int)⊕Int) :=
 if decide (s2.2<(len y0)) then
 (zF y0 s2.2).bind fun x2 =>
 some (.inl (if x2<s2.1 then x2 else s2.1,zS (s2.2+1)))
 else
 some (.inr s2.1)
def zDc (y0:List Int):Option Int :=
 (
 if decide ((len y0)<1) then
 none
 else
 some ():Option Unit).bind fun _ =>
 (zF y0 0).bind fun x1 =>
 zU (zGb y0) (x1,1)
def zDs (y0:List Int) (y1:List Int) (y2:Int):Option Bool :=
 if if y2 != 1 then (y2 != 2)||((len y0)==0) else (len y0)==0 then
 some false
 else
 if (len y1)==0 then
 some true
 else
 if y2==1 then
 (zDc y0).bind fun r1 =>
 (zDc y1).bind fun r2 =>
 some (decide (r1<r2))
 else
 (zDi y0).bind fun r3 =>
 (zDi y1).bind fun r4 =>
 some (decide (r3<r4))
def zB0 (y0:zO) (y1:List zI) (y2:Int) (y3:Int) (y4:yN):Option Bool :=
 (zC8 y0 y1 y2).bind fun r1 =>
 (zC8 y0 y1 y3).bind fun r2 =>
 (zDs r1 r2 y4.2).bind fun r3 =>
 some r3
def zEO (r1:(List Int)) (y0:zO) (s1:(List Int)×Int):Option (((List Int)×Int)⊕(List Int)) :=
 if decide (s1.2<(len r1)) then
 (zF r1 s1.2).bind fun x1 =>
 (zF y0.1 x1).bind fun x2 =>
 if x2.2.1==2 then
 (wE s1.1 ([x2.2.2.1]:List Int)).bind fun x3 =>
 some (.inl (x3,zS (s1.2+1)))
 else
 if x2.2.1==3 then
 (wE s1.1 ([(-1)]:List Int)).bind fun x4 =>
 some (.inl (x4,zS (s1.2+1)))
 else
 some (.inl (s1.1,zS (s1.2+1)))
 else
 some (.inr s1.1)
def zBl (y0:zO) (y1:List zI) (y2:Int):Option (List Int) :=
 (zCe y1 y2).bind fun r1 =>
 zU (zEO r1 y0) (([]:List Int),0)
def zAV (y0:zO) (y1:List zI) (y2:Int) (y3:Int) (y4:yN):Option Bool :=
 (zBl y0 y1 y2).bind fun r1 =>
 (zBl y0 y1 y3).bind fun r2 =>
 (zDs r1 r2 y4.2).bind fun r3 =>
 some r3
def zBZ (y0:zO) (y1:List zI) (y2:Int) (y3:Int):Option Bool :=
 (
 (zC8 y0 y1 y2).bind fun r1 =>
 if (len r1)==0 then
 (zC8 y0 y1 y3).bind fun r2 =>
 some ((len r2)==0)
 else
 some false:Option Bool).bind fun s1 =>
 some s1
def zCV (y1:zO) (y2:List zI) (y3:Int) (y4:Int) (y5:yN):Option Bool :=
 (
 (zB0 y1 y2 y3 y4 y5).bind fun r1 =>
 if r1 then
 some true
 else
 (zBZ y1 y2 y3 y4).bind fun r2 =>
 if r2 then
 (zAV y1 y2 y3 y4 y5).bind fun r3 =>
 some r3
 else
 some false:Option Bool).bind fun s1 =>
 some s1
def zCa (y0:zO) (y1:List zI) (y2:Int):Option (List Int) :=
 (zCG y0 y1 y2).bind fun r1 =>
 (zJH y0 r1).bind fun r2 =>
 some r2
def zBH (y0:zO) (y1:List zI) (y2:Int) (y3:Int) (y4:yN):Option Bool :=
 (zCa y0 y1 y2).bind fun r1 =>
 (zCa y0 y1 y3).bind fun r2 =>
 (zDs r1 r2 y4.2).bind fun r3 =>
 some r3
def zBL (y0:zO) (y1:List zI) (y2:Int) (y3:Int):Option Bool :=
 (
 (zBl y0 y1 y2).bind fun r1 =>
 if (len r1)==0 then
 (zBl y0 y1 y3).bind fun r2 =>
 some ((len r2)==0)
 else
 some false:Option Bool).bind fun s1 =>
 some s1
def zB1 (y0:zO) (y1:List zI) (y2:Int) (y3:Int):Option Bool :=
 (
 (zCa y0 y1 y2).bind fun r1 =>
 if (len r1)==0 then
 (zCa y0 y1 y3).bind fun r2 =>
 some ((len r2)==0)
 else
 some false:Option Bool).bind fun s1 =>
 some s1
def zCU (y1:zO) (y2:List zI) (y3:Int) (y4:Int) (y6:yN):Option Bool :=
 (zB1 y1 y2 y3 y4).bind fun r1 =>
 if r1 then
 (zAV y1 y2 y3 y4 y6).bind fun r2 =>
 some r2
 else
 (zBL y1 y2 y3 y4).bind fun r3 =>
 if r3 then
 (zBH y1 y2 y3 y4 y6).bind fun r4 =>
 some r4
 else
 (
 (zAV y1 y2 y3 y4 y6).bind fun r5 =>
 if r5 then
 (zBH y1 y2 y3 y4 y6).bind fun r6 =>
 some r6
 else
 some false:Option Bool).bind fun s1 =>
 some s1
def zKZ (y0:zO) (y1:List zI) (y2:Int) (y3:Int) (y4:yN):Option Bool :=
 (
 if decide ((if y3<y2 then y3 else y2)<0) then
 some true
 else
 if decide ((len y1)≤(if y3 > y2 then y3 else y2)) then
 some true
 else
 (zHC y0 y1 y3).bind fun r1 =>
 some r1:Option Bool).bind fun s1 =>
 if s1 then
 some false
 else
 if y4.1==1 then
 (zCV y0 y1 y2 y3 y4).bind fun r2 =>
 some r2
 else
 if y4.1==2 then
 (zCU y0 y1 y2 y3 y4).bind fun r3 =>
 some r3
 else
 some false
def zCX (y0:wV) (y1:zO) (y2:List zI) (y3:yN):Option Bool :=
 (
 if y0.2.2.2 != 3 then
 (zKZ y1 y2 y0.1 y0.2.2.1 y3).bind fun r1 =>
 some r1
 else
 some false:Option Bool).bind fun s1 =>
 some s1
def zB8 (y0:List wV) (y1:zO) (y2:List zI) (y3:yN) (s1:Int):Option (Int⊕Int) :=
 if decide (s1<(len y0)) then
 (zF y0 s1).bind fun x1 =>
 (zCX x1 y1 y2 y3).bind fun r1 =>
 if r1 then
 some (.inr s1)
 else
 some (.inl (zS (s1+1)))
 else
 some (.inr (-1))
def zBO (y0:List wV) (y1:zO) (y2:List zI) (y3:yN):Option Int :=
 zU (zB8 y0 y1 y2 y3) 0
def zB5 (y0:List wV) (y1:zO) (y2:List zI) (y3:yN) (s2:(List wV)×Int×Int):Option (((List wV)×Int×Int)⊕((List wV)×Int)) :=
 if decide (s2.2.2<(len y0)) then
 (zF s2.1 s2.2.2).bind fun x1 =>
 (zCX x1 y1 y2 y3).bind fun r2 =>
 if !r2 then
 (zF s2.1 s2.2.1).bind fun _ =>
 some (.inl (List.set s2.1 (Int.toNat s2.2.1) x1,zS (s2.2.1+1),zS (s2.2.2+1)))
 else
 some (.inl (s2.1,s2.2.1,zS (s2.2.2+1)))
 else
 some (.inr (s2.1,s2.2.1))
def zA4 (y0:List wV) (y1:zO) (y2:List zI) (y3:yN):Option (List wV) :=
 (zBO y0 y1 y2 y3).bind fun r1 =>
 if r1==(-1) then
 some y0
 else
 (zU (zB5 y0 y1 y2 y3) (y0,r1,zS (r1+1)):Option ((List wV)×Int)).bind fun s1 =>
 (yC (decide (0≤s1.2)&&decide (s1.2≤len s1.1))).bind fun _ =>
 (sub (zDI s1.1 s1.2 (0,0,0,0)) 0 s1.2).bind fun x3 =>
 some x3
def zDj (y0:zO) (y1:List zI) (y2:yN):Option (List wV) :=
 (zE3 y0 y1).bind fun r1 =>
 (zA4 r1 y0 y1 y2).bind fun r2 =>
 some r2
def zNP (y0:List wD) (s1:Int) (s3:(List wD)×Int×Int):Option (((List wD)×Int×Int)⊕((List wD)×Int)) :=
 if decide (s3.2.2<((Int.toNat (((List.length y0:Nat):Int)-s1):Nat):Int)) then
 (zUz s3.1 s1 s3.2.2).bind fun x3 =>
 (zUz s3.1 s1 (zS (s3.2.2-1))).bind fun x4 =>
 if !(x3==x4) then
 (zUz s3.1 s1 s3.2.2).bind fun x5 =>
 (zF s3.1 s3.2.1).bind fun _ =>
 some (.inl (List.set s3.1 (Int.toNat s3.2.1) x5,zS (s3.2.1+1),zS (s3.2.2+1)))
 else
 some (.inl (s3.1,s3.2.1,zS (s3.2.2+1)))
 else
 some (.inr (s3.1,s3.2.1))
def zFm (y0:List wD) (s1:Int):Option (Int⊕(List wD)) :=
 if decide (s1<(len y0)) then
 (zF y0 s1).bind fun x1 =>
 (zF y0 (zS (s1-1))).bind fun x2 =>
 if x1==x2 then
 (yC (decide (0≤s1)&&decide (s1≤len y0))).bind fun _ =>
 (zU (zNP y0 s1) (y0,s1,1):Option ((List wD)×Int)).bind fun s2 =>
 (yC (decide (0≤s2.2)&&decide (s2.2≤len s2.1))).bind fun _ =>
 (sub (zDI s2.1 s2.2 (0,0)) 0 s2.2).bind fun x7 =>
 some (.inr x7)
 else
 some (.inl (zS (s1+1)))
 else
 some (.inr y0)
def zDL (y0:List wD):Option (List wD) :=
 if decide ((len y0)<2) then
 some y0
 else
 zU (zFm y0) 1
def zE2 (y0:wD) (y1:wD):Option Int :=
 (zBf y0.1 y1.1).bind fun r1 =>
 (zBf y0.2 y1.2).bind fun r2 =>
 (zHc ([r1,r2]:List Int)).bind fun r3 =>
 some r3
def zBE (y0:List wD):Option (List wD):=zWf zE2 y0
def zF9 (y1:List wV) (y0:Int) (s2:Int×(List wD)):Option ((Int×(List wD))⊕((List wD)⊕(wJ×Int))) :=
 if decide (s2.1<(len y1)) then
 (zF y1 s2.1).bind fun x1 =>
 if (decide ((if x1.2.1<x1.1 then x1.2.1 else x1.1)<0))||(decide (y0≤(if x1.2.1 > x1.1 then x1.2.1 else x1.1))) then
 some (.inr (.inr ((0,([]:List wD)),1)))
 else
 (wE s2.2 ([(x1.1,x1.2.1)]:List wD)).bind fun x2 =>
 some (.inl (zS (s2.1+1),x2))
 else
 some (.inr (.inl s2.2))
def zFC (y0:Int) (y1:List wV):Option (wJ×Int) :=
 if (decide (y0<0))||(decide (40<y0)) then
 some ((0,([]:List wD)),1)
 else
 yD (zU (zF9 y1 y0) (0,([]:List wD)):Option ((List wD)⊕(wJ×Int))) fun s1 =>
 (zBE s1).bind fun r1 =>
 (zDL r1).bind fun r2 =>
 some ((y0,r2),0)
def zCB (y0:Int):Option Int :=
 if y0==0 then
 some 64
 else
 (zF yW (xH .u64 (IntKind.u64.wrap ((yE .u64 y0 (IntKind.u64.wrap (0-y0)))*285870213051353865)) 58)).bind fun x1 =>
 some (zS (x1))
def zF6 (s1:Int×(List Int)):Option ((Int×(List Int))⊕(List Int)) :=
 if s1.1 != 0 then
 (zCB s1.1).bind fun r1 =>
 (wE s1.2 ([r1]:List Int)).bind fun x1 =>
 some (.inl (yE .u64 s1.1 (IntKind.u64.wrap (s1.1-1)),x1))
 else
 some (.inr s1.2)
def zHf (y0:Int):Option (List Int) :=
 zU (zF6) (y0,([]:List Int))
def zIu (y0:wJ) (s1:(List Int)×Int):Option (((List Int)×Int)⊕(List Int)) :=
 if decide (s1.2<(len y0.2)) then
 (zF y0.2 s1.2).bind fun x2 =>
 (zF s1.1 x2.1).bind fun x3 =>
 (z3b .u64 1 x2.2).bind fun x4 =>
 (zF s1.1 x2.1).bind fun _ =>
 some (.inl (List.set s1.1 (Int.toNat x2.1) (bor .u64 x3 x4),zS (s1.2+1)))
 else
 some (.inr s1.1)
def zHy (y0:wJ):Option (List Int) :=
 (mkS y0.1 y0.1 (0:Int)).bind fun x1 =>
 zU (zIu y0) (x1,0)
def zCl (y0:wD) (y1:wD):Option Int :=
 (zBf y0.1 y1.1).bind fun r1 =>
 (zBf y0.2 y1.2).bind fun r2 =>
 (zHc ([r1,r2]:List Int)).bind fun r3 =>
 some r3
def zBm (y0:wJ) (s1:Int):Option (Int⊕Int) :=
 if decide (s1<(len y0.2)) then
 (zF y0.2 s1).bind fun x1 =>
 if (decide ((if x1.2<x1.1 then x1.2 else x1.1)<0))||(decide (y0.1≤(if x1.2 > x1.1 then x1.2 else x1.1))) then
 some (.inr 1)
 else
 (
 if decide (0<s1) then
 (zF y0.2 (zS (s1-1))).bind fun x2 =>
 (zCl x2 x1).bind fun r1 =>
 some (decide (0≤r1))
 else
 some false:Option Bool).bind fun s2 =>
 if s2 then
 some (.inr 8)
 else
 some (.inl (zS (s1+1)))
 else
 some (.inr 0)
def zBb (y0:wJ):Option Int :=
 if (decide (y0.1<0))||(decide (40<y0.1)) then
 some 1
 else
 zU (zBm y0) 0
def zEz (y0:wJ):Option wJ :=
 (zBb y0).bind fun r1 =>
 if r1 != 0 then
 some (0,([]:List wD))
 else
 some y0
def zCq (y0:wJ) (y1:Int):Option (List Int) :=
 (zEz y0).bind fun r1 =>
 if (decide (y1<0))||(decide (r1.1≤y1)) then
 some ([]:List Int)
 else
 (zHy r1).bind fun r2 =>
 (zF r2 y1).bind fun x1 =>
 (zHf x1).bind fun r3 =>
 some r3
def zNU (y0:Int) (y1:Int):Option (Int×Int) :=
 some (IntKind.u64.wrap ((IntKind.u64.wrap ((IntKind.u64.wrap ((xH .u64 y0 32)*(xH .u64 y1 32)))+(xH .u64 (IntKind.u64.wrap ((IntKind.u64.wrap ((xH .u64 y0 32)*(yE .u64 y1 4294967295)))+(xH .u64 (IntKind.u64.wrap ((yE .u64 y0 4294967295)*(yE .u64 y1 4294967295))) 32))) 32)))+(xH .u64 (IntKind.u64.wrap ((yE .u64 (IntKind.u64.wrap ((IntKind.u64.wrap ((xH .u64 y0 32)*(yE .u64 y1 4294967295)))+(xH .u64 (IntKind.u64.wrap ((yE .u64 y0 4294967295)*(yE .u64 y1 4294967295))) 32))) 4294967295)+(IntKind.u64.wrap ((yE .u64 y0 4294967295)*(xH .u64 y1 32))))) 32)),IntKind.u64.wrap (y0*y1))
def zLk (y0:Int) (y1:Int):Option (Int×Int) :=
 (zNU y0 y1).bind fun r1 =>
 some (r1.1,r1.2)
def zHI (x1:List Int) (s3:(List Int)×Int):Option (((List Int)×Int)⊕(List Int)) :=
 if decide (s3.2<(len x1)) then
 (yC (decide (0≤s3.2)&&decide (s3.2≤len s3.1))).bind fun _ =>
 (sub s3.1 0 s3.2).bind fun x2 =>
 some (.inl (zJF s3.1 s3.2 x2,zS (s3.2+((Nat.min (List.length x2) (Int.toNat (((List.length x1:Nat):Int)-s3.2)):Nat):Int))))
 else
 some (.inr s3.1)
def zCb (y0:List Int) (y1:Int):Option (List Int) :=
 (
 if decide (y1<0) then
 none
 else
 some ():Option Unit).bind fun _ =>
 (zLk (IntKind.u64.wrap (len y0)) (IntKind.u64.wrap (y1))).bind fun r1 =>
 (
 if (decide (0<r1.1))||(decide (9223372036854775807<r1.2)) then
 none
 else
 some ():Option Unit).bind fun _ =>
 (mkS (zS (r1.2)) (zS (r1.2)) (0:Int)).bind fun x1 =>
 zU (zHI x1) (zJF x1 0 y0,((Nat.min (List.length y0) (List.length x1):Nat):Int))
def zEF (y0:wJ) (s3:Int×(List Int)):Option ((Int×(List Int))⊕(List Int)) :=
 if decide (s3.1<(len y0.2)) then
 (zF y0.2 s3.1).bind fun x4 =>
 (yC (decide (0≤x4.2)&&decide (x4.2<40))).bind fun _ =>
 (yC (decide (0≤x4.2)&&decide (x4.2<40))).bind fun _ =>
 some (.inl (zS (s3.1+1),xR 40 s3.2 x4.2 (zS ((yR s3.2 x4.2)+1))))
 else
 some (.inr s3.2)
def zEJ (y0:wJ) (s2:(List Int)) (s5:(List Int)×Int):Option (((List Int)×Int)⊕(List Int)) :=
 if decide (s5.2<y0.1) then
 (yC (decide (0≤s5.2)&&decide (s5.2<40))).bind fun _ =>
 if (yR s2 s5.2)==0 then
 (wE s5.1 ([s5.2]:List Int)).bind fun x5 =>
 some (.inl (x5,zS (s5.2+1)))
 else
 some (.inl (s5.1,zS (s5.2+1)))
 else
 some (.inr s5.1)
def zEH (s6:(List Int)×(List Int)×(List Int)×Int×(List Int)) (s8:(List Int)×(List Int)×Int):Option (((List Int)×(List Int)×Int)⊕((List Int)×(List Int))) :=
 if decide (s8.2.2<(len s6.2.2.1)) then
 (zF s6.2.2.1 s8.2.2).bind fun x6 =>
 (zF s8.1 x6).bind fun _ =>
 (zF s8.2.1 x6).bind fun _ =>
 some (.inl (List.set s8.1 (Int.toNat x6) 1,List.set s8.2.1 (Int.toNat x6) s6.2.2.2.1,zS (s8.2.2+1)))
 else
 some (.inr (s8.1,s8.2.1))
def zEA (r5:(List Int)) (s10:(List Int)×(List Int)×(List Int)×Int×(List Int)) (x10:Int) (s6:(List Int)×(List Int)×(List Int)×Int×(List Int)) (s11:(List Int)×Int×(List Int)):Option (((List Int)×Int×(List Int))⊕(((List Int)×(List Int)×(List Int)×Int×(List Int))⊕(((List Int)×(List Int)×(List Int)×Int×(List Int))⊕(((List Int)×(List Int)×(List Int)×Int×(List Int))⊕((List Int)×(List Int)))))) :=
 if decide (s11.2.1<(len r5)) then
 (zF r5 s11.2.1).bind fun x14 =>
 (yC (decide (0≤x14)&&decide (x14<40))).bind fun _ =>
 (yC (decide (0≤x14)&&decide (x14<40))).bind fun _ =>
 (
 (yC (decide (0≤x14)&&decide (x14<40))).bind fun _ =>
 if (yR (xR 40 s11.2.2 x14 (zS ((yR s11.2.2 x14)-1))) x14)==0 then
 (zF (List.set s10.1 (Int.toNat x10) 2) x14).bind fun x15 =>
 some (x15==3)
 else
 some false:Option Bool).bind fun s12 =>
 if s12 then
 (wE s11.1 ([x14]:List Int)).bind fun x16 =>
 some (.inl (x16,zS (s11.2.1+1),xR 40 s11.2.2 x14 (zS ((yR s11.2.2 x14)-1))))
 else
 some (.inl (s11.1,zS (s11.2.1+1),xR 40 s11.2.2 x14 (zS ((yR s11.2.2 x14)-1))))
 else
 some (.inr (.inl (List.set s10.1 (Int.toNat x10) 2,List.set s10.2.1 (Int.toNat x10) s6.2.2.2.1,s11.1,zS (s10.2.2.2.1+1),s11.2.2)))
def zCJ (r4:(List Int)) (y0:wJ) (s6:(List Int)×(List Int)×(List Int)×Int×(List Int)) (s9:(List Int)×(List Int)×(List Int)×Int×(List Int)) (s10:(List Int)×(List Int)×(List Int)×Int×(List Int)):Option (((List Int)×(List Int)×(List Int)×Int×(List Int))⊕(((List Int)×(List Int)×(List Int)×Int×(List Int))⊕(((List Int)×(List Int)×(List Int)×Int×(List Int))⊕((List Int)×(List Int))))) :=
 if decide (s10.2.2.2.1<(len r4)) then
 (zF r4 s10.2.2.2.1).bind fun x10 =>
 (zF s10.1 x10).bind fun x11 =>
 if x11 != 3 then
 some (.inl (s10.1,s10.2.1,s10.2.2.1,zS (s10.2.2.2.1+1),s10.2.2.2.2))
 else
 (zF s10.1 x10).bind fun _ =>
 (zF s10.2.1 x10).bind fun _ =>
 (zCq y0 x10).bind fun r5 =>
 zU (zEA r5 s10 x10 s6) (s10.2.2.1,0,s10.2.2.2.2)
 else
 some (.inr (.inl (s10.1,s10.2.1,s10.2.2.1,zS (s9.2.2.2.1+1),s10.2.2.2.2)))
def zCf (s6:(List Int)×(List Int)×(List Int)×Int×(List Int)) (y0:wJ) (s9:(List Int)×(List Int)×(List Int)×Int×(List Int)):Option (((List Int)×(List Int)×(List Int)×Int×(List Int))⊕(((List Int)×(List Int)×(List Int)×Int×(List Int))⊕((List Int)×(List Int)))) :=
 if decide (s9.2.2.2.1<(len s6.2.2.1)) then
 (zF s6.2.2.1 s9.2.2.2.1).bind fun x9 =>
 (zCq y0 x9).bind fun r4 =>
 zU (zCJ r4 y0 s6 s9) (s9.1,s9.2.1,s9.2.2.1,0,s9.2.2.2.2)
 else
 some (.inr (.inl (s9.1,s9.2.1,s9.2.2.1,zS (s6.2.2.2.1+1),s9.2.2.2.2)))
def zBo (y0:wJ) (s6:(List Int)×(List Int)×(List Int)×Int×(List Int)):Option (((List Int)×(List Int)×(List Int)×Int×(List Int))⊕((List Int)×(List Int))) :=
 if decide (0<(len s6.2.2.1)) then
 (zU (zEH s6) (s6.1,s6.2.1,0):Option ((List Int)×(List Int))).bind fun s7 =>
 zU (zCf s6 y0) (s7.1,s7.2,([]:List Int),0,s6.2.2.2.2)
 else
 some (.inr (s6.1,s6.2.1))
def zE4 (y0:wJ):Option ((List Int)×(List Int)) :=
 (
 (zCb ([3]:List Int) y0.1).bind fun r1 =>
 (mkS y0.1 y0.1 (0:Int)).bind fun x1 =>
 some (r1,x1):Option ((List Int)×(List Int))).bind fun s1 =>
 (zU (zEF y0) (0,(List.replicate 40 (0:Int))):Option (List Int)).bind fun s2 =>
 (zU (zEJ y0 s2) (([]:List Int),0):Option (List Int)).bind fun s4 =>
 zU (zBo y0) (s1.1,s1.2,s4,1,s2)
def zDd (y0:wJ):Option (List Int) :=
 (zE4 y0).bind fun r1 =>
 some r1.1
def zGK (y0:List Int) (y1:Int) (s1:(List Int)×Int):Option (((List Int)×Int)⊕(List Int)) :=
 if decide (s1.2<(len y0)) then
 (zF y0 s1.2).bind fun x1 =>
 if x1==y1 then
 (wE s1.1 ([s1.2]:List Int)).bind fun x2 =>
 some (.inl (x2,zS (s1.2+1)))
 else
 some (.inl (s1.1,zS (s1.2+1)))
 else
 some (.inr s1.1)
def zBR (y0:List Int) (y1:Int):Option (List Int) :=
 zU (zGK y0 y1) (([]:List Int),0)
def zEQ (y0:List vT):Option (List vT) :=
 (wE ([]:List vT) y0).bind fun x1 =>
 some x1
def zDa (y0:List vQ):Option (List vQ) :=
 (wE ([]:List vQ) y0).bind fun x1 =>
 some x1
def zGX (y0:List qL):Option (List qL) :=
 (wE ([]:List qL) y0).bind fun x1 =>
 some x1
def zDJ (y0:zO) (x1:qL) (y1:List zG) (s3:Int×(List qL)) (s4:Int×(List qL)):Option ((Int×(List qL))⊕((Int×(List qL))⊕(List qL))) :=
 if decide (s4.1<(len y0.2.2)) then
 (zF y0.2.2 s4.1).bind fun x3 =>
 (
 if !x1.2.1 then
 if x3.1==x1.1 then
 (zDr y1 x3.2.2).bind fun r11 =>
 some r11
 else
 some false
 else
 some false:Option Bool).bind fun s5 =>
 if s5 then
 (zF s4.2 s3.1).bind fun x4 =>
 some (.inl (zS (s4.1+1),List.set s4.2 (Int.toNat s3.1) (x4.1,x4.2.1,x3.2.1,x4.2.2.2.1,x4.2.2.2.2)))
 else
 some (.inl (zS (s4.1+1),s4.2))
 else
 some (.inr (.inl (zS (s3.1+1),s4.2)))
def zCj (y0:zO) (y1:List zG) (s3:Int×(List qL)):Option ((Int×(List qL))⊕(List qL)) :=
 if decide (s3.1<(len y0.2.1)) then
 (zF y0.2.1 s3.1).bind fun x1 =>
 (zCu x1.2.2.2.1).bind fun r10 =>
 (zF s3.2 s3.1).bind fun x2 =>
 zU (zDJ y0 x1 y1 s3) (0,List.set s3.2 (Int.toNat s3.1) (x2.1,x2.2.1,x2.2.2.1,r10,x2.2.2.2.2))
 else
 some (.inr s3.2)
def zD4 (y0:zO) (y1:List zG):Option zO :=
 (
 (zEQ y0.1).bind fun r1 =>
 (zGX y0.2.1).bind fun r2 =>
 (zDa y0.2.2).bind fun r3 =>
 some (r1,r2,r3):Option zO).bind fun s1 =>
 (zU (zCj y0 y1) (0,s1.2.1):Option (List qL)).bind fun s2 =>
 some (s1.1,s2,s1.2.2)
def zDh (y0:zO) (y1:yN):Option (zBu×Int) :=
 (zE6 y0).bind fun r1 =>
 if r1.2 != 0 then
 some (((([]:List vT),([]:List qL),([]:List vQ)),([]:List zI),([]:List wV),(0,([]:List wD))),r1.2)
 else
 if if y1.1 != 1 then (y1.1 != 2)||((y1.2 != 1)&&(y1.2 != 2)) else (y1.2 != 1)&&(y1.2 != 2) then
 some (((([]:List vT),([]:List qL),([]:List vQ)),([]:List zI),([]:List wV),(0,([]:List wD))),4)
 else
 (zDj y0 r1.1 y1).bind fun r2 =>
 (zFC (len r1.1) r2).bind fun r3 =>
 if r3.2 != 0 then
 some (((([]:List vT),([]:List qL),([]:List vQ)),([]:List zI),([]:List wV),(0,([]:List wD))),r3.2)
 else
 (zDd r3.1).bind fun r4 =>
 (zBR r4 1).bind fun r5 =>
 (zB9 r1.1 r5).bind fun r6 =>
 (zD4 y0 r6).bind fun r7 =>
 (zDj r7 r1.1 y1).bind fun r8 =>
 (zFC (len r1.1) r8).bind fun r9 =>
 if r9.2 != 0 then
 some (((([]:List vT),([]:List qL),([]:List vQ)),([]:List zI),([]:List wV),(0,([]:List wD))),r9.2)
 else
 some ((r7,r1.1,r8,r9.1),0)
def zEY:Option Unit :=
 some ()
def zEE:Option Unit :=
 some ()
def zFd:Option Unit :=
 some ()
def zGC:Option Unit :=
 some ()
def zGD:Option Unit :=
 some ()
def zEp:Option Unit :=
 zGD.bind fun _ =>
 some ()
def zFF:Option Unit :=
 some ()
def zHm:Option Unit :=
 zFF.bind fun _ =>
 some ()
def zFI:Option Unit :=
 some ()
def zHh:Option Unit :=
 zFI.bind fun _ =>
 some ()
def zLQ:Option Unit :=
 zEp.bind fun _ =>
 zGC.bind fun _ =>
 zEY.bind fun _ =>
 zFd.bind fun _ =>
 zEE.bind fun _ =>
 zHh.bind fun _ =>
 zHm.bind fun _ =>
 some ()
def zEm (y0:wJ):Option ((List Int)×Int) :=
 (zDd y0).bind fun r1 =>
 some (r1,0)
def zAo (y0:wJ):Option ((List (List Int))×Int) :=
 (zEm y0).bind fun r1 =>
 if r1.2 != 0 then
 some (([]:List (List Int)),r1.2)
 else
 some (([r1.1]:List (List Int)),0)
def zAq (r1:(List (List Int))×Int) (s1:(List (List Int))×Int):Option (((List (List Int))×Int)⊕((List (List Int))×Int)) :=
 if decide (s1.2<(len r1.1)) then
 (zF r1.1 s1.2).bind fun x1 =>
 (zBR x1 1).bind fun r2 =>
 (wE s1.1 ([r2]:List (List Int))).bind fun x2 =>
 some (.inl (x2,zS (s1.2+1)))
 else
 some (.inr (s1.1,0))
def zBM (y0:wJ):Option ((List (List Int))×Int) :=
 (zAo y0).bind fun r1 =>
 if r1.2 != 0 then
 some (([]:List (List Int)),r1.2)
 else
 zU (zAq r1) (([]:List (List Int)),0)
def zHs (y1:List Int) (y0:wJ) (s1:Int):Option (Int⊕Bool) :=
 if decide (s1<(len y1)) then
 (zF y1 s1).bind fun x1 =>
 (
 if decide (x1<0) then
 some true
 else
 if decide (y0.1≤x1) then
 some true
 else
 if decide (0<s1) then
 (zF y1 (zS (s1-1))).bind fun x2 =>
 some (decide (x1≤x2))
 else
 some false:Option Bool).bind fun s2 =>
 if s2 then
 some (.inr false)
 else
 some (.inl (zS (s1+1)))
 else
 some (.inr true)
def zEj (y0:wJ) (y1:List Int):Option Bool :=
 zU (zHs y1 y0) 0
def zDY (y0:wJ) (y1:Int) (s1:Int×Int):Option ((Int×Int)⊕Int) :=
 if decide (s1.2<(len y0.2)) then
 (zF y0.2 s1.2).bind fun x1 =>
 (shrK .u64 y1 x1.1).bind fun x2 =>
 (z3b .u64 (yE .u64 x2 1) x1.2).bind fun x3 =>
 some (.inl (bor .u64 s1.1 x3,zS (s1.2+1)))
 else
 some (.inr s1.1)
def zCE (y0:wJ) (y1:Int):Option Int :=
 zU (zDY y0 y1) (0,0)
def zF0 (y0:wJ) (y1:Int):Option Bool :=
 (zCE y0 y1).bind fun r1 =>
 some ((yE .u64 r1 y1)==0)
def zQR (s1:Int×(List Int)):Option ((Int×(List Int))⊕(List Int)) :=
 if s1.1 != 0 then
 (zCB s1.1).bind fun r1 =>
 (wE s1.2 ([r1]:List Int)).bind fun x1 =>
 some (.inl (yE .u64 s1.1 (IntKind.u64.wrap (s1.1-1)),x1))
 else
 some (.inr s1.2)
def zDv (y0:Int):Option (List Int) :=
 zU (zQR) (y0,([]:List Int))
def zFW (y0:List Int) (s1:Int×Int):Option ((Int×Int)⊕Int) :=
 if decide (s1.2<(len y0)) then
 (zF y0 s1.2).bind fun x1 =>
 (z3b .u64 1 x1).bind fun x2 =>
 some (.inl (bor .u64 s1.1 x2,zS (s1.2+1)))
 else
 some (.inr s1.1)
def zFw (y0:List Int):Option Int :=
 zU (zFW y0) (0,0)
def zEs (y0:wJ):Option Int :=
 (z3b .u64 1 y0.1).bind fun x1 =>
 some (IntKind.u64.wrap (x1-1))
def zDx (y0:wJ) (y1:Int):Option Int :=
 (zEs y0).bind fun r1 =>
 (zEs y0).bind fun r2 =>
 (zCE y0 y1).bind fun r3 =>
 (zCE y0 (zMy .u64 r2 r3)).bind fun r4 =>
 some (zMy .u64 r1 r4)
def zCh (y0:Int) (y1:wJ):Option Int :=
 (zDx y1 y0).bind fun r1 =>
 some (yE .u64 y0 r1)
def zAQ (y1:wJ) (s1:Int):Option (Int⊕Int) :=
 (zCh s1 y1).bind fun r1 =>
 if r1==s1 then
 some (.inr s1)
 else
 some (.inl r1)
def zAw (y0:Int) (y1:wJ):Option Int :=
 zU (zAQ y1) y0
def zCH (y0:wJ) (y1:List Int):Option ((List Int)×Int) :=
 (zEj y0 y1).bind fun r1 =>
 if !r1 then
 some (([]:List Int),1)
 else
 (zFw y1).bind fun r2 =>
 (zF0 y0 r2).bind fun r3 =>
 if !r3 then
 some (([]:List Int),10)
 else
 (zAw r2 y0).bind fun r4 =>
 (zDv r4).bind fun r5 =>
 some (r5,0)
def zKb (y0:List Int) (y1:Int):Option Bool :=
 (
 if decide (0≤y1) then
 if decide (y1<(len y0)) then
 (zF y0 y1).bind fun x1 =>
 some (x1==1)
 else
 some false
 else
 some false:Option Bool).bind fun s1 =>
 some s1
def zKW (y0:List Int) (y1:Int):Option Bool :=
 (zKb y0 y1).bind fun r1 =>
 some (!r1)
def zBt (y0:List (List Int)) (y1:Int) (s1:Int):Option (Int⊕Int) :=
 if decide (s1<(len y0)) then
 (zF y0 s1).bind fun x1 =>
 (zKW x1 y1).bind fun r1 =>
 if r1 then
 some (.inr s1)
 else
 some (.inl (zS (s1+1)))
 else
 some (.inr (-1))
def zAy (y0:List (List Int)) (y1:Int):Option Int :=
 zU (zBt y0 y1) 0
def zAP (y0:List (List Int)) (y1:Int):Option Bool :=
 (zAy y0 y1).bind fun r1 =>
 some (decide (0≤r1))
def zF4 (y0:List (List Int)) (y1:Int):Option Bool :=
 (zAP y0 y1).bind fun r1 =>
 some (!r1)
def zE7 (x1:List Int) (y0:List (List Int)) (s1:(List Int)×Int):Option (((List Int)×Int)⊕(List Int)) :=
 if decide (s1.2<(len x1)) then
 (zF4 y0 s1.2).bind fun r1 =>
 if r1 then
 (wE s1.1 ([s1.2]:List Int)).bind fun x2 =>
 some (.inl (x2,zS (s1.2+1)))
 else
 some (.inl (s1.1,zS (s1.2+1)))
 else
 some (.inr s1.1)
def zGL (y0:List (List Int)):Option (List Int) :=
 if (len y0)==0 then
 some ([]:List Int)
 else
 (zF y0 0).bind fun x1 =>
 zU (zE7 x1 y0) (([]:List Int),0)
def zBJ (y0:List wD):Option (List wD):=zWf zCl y0
def zHX (r1:wJ) (s2:Int×(List wD)):Option ((Int×(List wD))⊕(List wD)) :=
 if decide (s2.1<(len r1.2)) then
 (zF r1.2 s2.1).bind fun x1 =>
 (wE s2.2 ([(x1.2,x1.1)]:List wD)).bind fun x2 =>
 some (.inl (zS (s2.1+1),x2))
 else
 some (.inr s2.2)
def zFo (y0:wJ):Option wJ :=
 (zEz y0).bind fun r1 =>
 (zU (zHX r1) (0,([]:List wD)):Option (List wD)).bind fun s1 =>
 (zBJ s1).bind fun r2 =>
 some (r1.1,r2)
def zDw (y0:wJ) (y1:Int):Option (List Int) :=
 (zFo y0).bind fun r1 =>
 (zCq r1 y1).bind fun r2 =>
 some r2
def zAu (y0:uG) (s1:(List Int)×Int):Option (((List Int)×Int)⊕((List Int)×Int)) :=
 if decide (s1.2<y0.1) then
 (yC (decide (0≤s1.2)&&decide (s1.2<40))).bind fun _ =>
 if (yR y0.2.2.1 s1.2)==2 then
 (wE s1.1 ([1]:List Int)).bind fun x1 =>
 some (.inl (x1,zS (s1.2+1)))
 else
 if (yR y0.2.2.1 s1.2)==4 then
 (wE s1.1 ([2]:List Int)).bind fun x2 =>
 some (.inl (x2,zS (s1.2+1)))
 else
 if (yR y0.2.2.1 s1.2)==8 then
 (wE s1.1 ([3]:List Int)).bind fun x3 =>
 some (.inl (x3,zS (s1.2+1)))
 else
 some (.inr (([]:List Int),s1.2))
 else
 some (.inr (s1.1,(-1)))
def zBd (y0:uG):Option ((List Int)×Int) :=
 zU (zAu y0) (([]:List Int),0)
def zNf (y1:List Int) (y0:uG) (y2:Int) (s1:(List Int)×Int):Option (((List Int)×Int)⊕(List Int)) :=
 if decide (s1.2<(len y1)) then
 (zF y1 s1.2).bind fun x1 =>
 (yC (decide (0≤x1)&&decide (x1<40))).bind fun _ =>
 if (yE .i64 (yR y0.2.2.1 x1) y2) != 0 then
 (wE s1.1 ([x1]:List Int)).bind fun x2 =>
 some (.inl (x2,zS (s1.2+1)))
 else
 some (.inl (s1.1,zS (s1.2+1)))
 else
 some (.inr s1.1)
def zDH (y0:uG) (y1:List Int) (y2:Int):Option (List Int) :=
 zU (zNf y1 y0 y2) (([]:List Int),0)
def zCT (x1:List Int) (s2:Int×(List Int)):Option ((Int×(List Int))⊕(Int×(List Int))) :=
 if decide (s2.1<(len x1)) then
 (zF x1 s2.1).bind fun x2 =>
 (yC (decide (0≤x2)&&decide (x2<40))).bind fun _ =>
 (yC (decide (0≤x2)&&decide (x2<40))).bind fun _ =>
 some (.inl (zS (s2.1+1),xR 40 s2.2 x2 (yE .i64 (yR s2.2 x2) 4)))
 else
 some (.inr (0,s2.2))
def zCS (x1:List Int) (s4:Int×(List Int)):Option ((Int×(List Int))⊕(List Int)) :=
 if decide (s4.1<(len x1)) then
 (zF x1 s4.1).bind fun x3 =>
 (yC (decide (0≤x3)&&decide (x3<40))).bind fun _ =>
 (yC (decide (0≤x3)&&decide (x3<40))).bind fun _ =>
 some (.inl (zS (s4.1+1),xR 40 s4.2 x3 (yE .i64 (yR s4.2 x3) 12)))
 else
 some (.inr s4.2)
def zCO (y0:uG) (y1:Int):Option ((List Int)×(List (List Int))) :=
 (zF y0.2.1 y1).bind fun x1 =>
 (
 (yC (decide (0≤y1)&&decide (y1<40))).bind fun _ =>
 if (yR y0.2.2.1 y1)==2 then
 zU (zCT x1) (0,y0.2.2.1)
 else
 if (yR y0.2.2.1 y1)==4 then
 some (2,y0.2.2.1)
 else
 if (yR y0.2.2.1 y1)==8 then
 (zU (zCS x1) (0,y0.2.2.1):Option (List Int)).bind fun s3 =>
 some (8,s3)
 else
 some (0,y0.2.2.1):Option (Int×(List Int))).bind fun s1 =>
 (zDH (y0.1,y0.2.1,s1.2,y0.2.2.2.1,y0.2.2.2.2) x1 s1.1).bind fun r1 =>
 if (len r1)==1 then
 (zF r1 0).bind fun x4 =>
 (yC (decide (0≤x4)&&decide (x4<40))).bind fun _ =>
 (yC (decide (0≤x4)&&decide (x4<40))).bind fun _ =>
 some (xR 40 s1.2 x4 (yE .i64 (yR s1.2 x4) s1.1),y0.2.2.2.1)
 else
 some (s1.2,y0.2.2.2.1)
def zEU (y1:List Int) (y0:uG) (y2:Int) (s1:(List Int)×Int):Option (((List Int)×Int)⊕(List Int)) :=
 if decide (s1.2<(len y1)) then
 (zF y1 s1.2).bind fun x1 =>
 (yC (decide (0≤x1)&&decide (x1<40))).bind fun _ =>
 if (yE .i64 (yR y0.2.2.1 x1) y2) != 0 then
 (wE s1.1 ([x1]:List Int)).bind fun x2 =>
 some (.inl (x2,zS (s1.2+1)))
 else
 some (.inl (s1.1,zS (s1.2+1)))
 else
 some (.inr s1.1)
def zB7 (y0:uG) (y1:List Int) (y2:Int):Option (List Int) :=
 zU (zEU y1 y0 y2) (([]:List Int),0)
def zCA (y0:uG) (y1:Int):Option Int :=
 (zF y0.2.1 y1).bind fun x1 =>
 (
 (zB7 y0 x1 4).bind fun r1 =>
 if decide ((len r1)<(len x1)) then
 some (zMy .i64 14 2)
 else
 some 14:Option Int).bind fun s1 =>
 (
 (zB7 y0 x1 2).bind fun r2 =>
 if (len r2)==0 then
 some (zMy .i64 s1 4)
 else
 some s1:Option Int).bind fun s2 =>
 (
 (zB7 y0 x1 12).bind fun r3 =>
 if decide ((len r3)<(len x1)) then
 some true
 else
 (zB7 y0 x1 8).bind fun r4 =>
 some ((len r4)==0):Option Bool).bind fun s3 =>
 if s3 then
 some (zMy .i64 s2 8)
 else
 some s2
def zAU (y0:uG) (s3:Int×(List Int)×(List (List Int))):Option ((Int×(List Int)×(List (List Int)))⊕(((List Int)×(List (List Int)))⊕(((List Int)×(List (List Int)))⊕(Bool×(List Int)×(List (List Int)))))) :=
 if decide (s3.1<y0.1) then
 (yC (decide (0≤s3.1)&&decide (s3.1<40))).bind fun _ =>
 (zCA (y0.1,y0.2.1,s3.2.1,s3.2.2,y0.2.2.2.2) s3.1).bind fun r1 =>
 (yC (decide (0≤s3.1)&&decide (s3.1<40))).bind fun _ =>
 (yC (decide (0≤s3.1)&&decide (s3.1<40))).bind fun _ =>
 if (yR (xR 40 s3.2.1 s3.1 (yE .i64 (yR s3.2.1 s3.1) r1)) s3.1)==0 then
 some (.inr (.inr (.inr (false,xR 40 s3.2.1 s3.1 (yE .i64 (yR s3.2.1 s3.1) r1),s3.2.2))))
 else
 (zCO (y0.1,y0.2.1,xR 40 s3.2.1 s3.1 (yE .i64 (yR s3.2.1 s3.1) r1),s3.2.2,y0.2.2.2.2) s3.1).bind fun r2 =>
 some (.inl (zS (s3.1+1),r2.1,r2.2))
 else
 some (.inr (.inl (s3.2.1,s3.2.2)))
def zCL (y0:uG) (s1:(List Int)×(List (List Int))):Option (((List Int)×(List (List Int)))⊕(Bool×(List Int)×(List (List Int)))) :=
 yD (zU (zAU y0) (0,s1.1,s1.2):Option (((List Int)×(List (List Int)))⊕(((List Int)×(List (List Int)))⊕(Bool×(List Int)×(List (List Int)))))) fun s2 =>
 (z4y 40 s2.1 y0.1).bind fun x1 =>
 (zAx x1 0).bind fun r3 =>
 if r3 then
 some (.inr (false,s2.1,s2.2))
 else
 if aeq 40 s2.1 s1.1 then
 some (.inr (true,s2.1,s2.2))
 else
 some (.inl (s2.1,s2.2))
def zBe (y0:uG):Option (Bool×(List Int)×(List (List Int))) :=
 zU (zCL y0) (y0.2.2.1,y0.2.2.2.1)
def zB4 (r2:(List Int)×Int) (s1:Bool×(List Int)×(List (List Int))) (rec_search_finder_find:uG->Option ((List Int)×(List (List Int))×Bool)) (y0:uG) (s2:Int×(List (List Int))×Bool):Option ((Int×(List (List Int))×Bool)⊕((List Int)×(List (List Int))×Bool)) :=
 if decide (s2.1<(len ([2,4,8]:List Int))) then
 (zF ([2,4,8]:List Int) s2.1).bind fun x2 =>
 (yC (decide (0≤r2.2)&&decide (r2.2<40))).bind fun _ =>
 if (yE .i64 (yR s1.2.1 r2.2) x2) != 0 then
 (yC (decide (0≤r2.2)&&decide (r2.2<40))).bind fun _ =>
 (rec_search_finder_find (y0.1,y0.2.1,xR 40 s1.2.1 r2.2 x2,s2.2.1,s2.2.2)).bind fun r3 =>
 some (.inl (zS (s2.1+1),r3.2.1,r3.2.2))
 else
 some (.inl (zS (s2.1+1),s2.2.1,s2.2.2))
 else
 some (.inr (s1.2.1,s2.2.1,s2.2.2))
def zBK (rec_search_finder_find:uG->Option ((List Int)×(List (List Int))×Bool)) (y0:uG):Option ((List Int)×(List (List Int))×Bool) :=
 (
 if y0.2.2.2.2 then
 some (true,y0.2.2.1,y0.2.2.2.1)
 else
 (zBe y0).bind fun r1 =>
 some (!r1.1,r1.2.1,r1.2.2):Option (Bool×(List Int)×(List (List Int)))).bind fun s1 =>
 if s1.1 then
 some (s1.2.1,s1.2.2,y0.2.2.2.2)
 else
 (zBd (y0.1,y0.2.1,s1.2.1,s1.2.2,y0.2.2.2.2)).bind fun r2 =>
 if decide (r2.2<0) then
 (wE s1.2.2 ([r2.1]:List (List Int))).bind fun x1 =>
 some (s1.2.1,x1,(len s1.2.2)==200)
 else
 zU (zB4 r2 s1 rec_search_finder_find y0) (0,s1.2.2,y0.2.2.2.2)
def zBa:Nat->uG->Option ((List Int)×(List (List Int))×Bool)
 | 0=>fun _=>none
 | k+1=>fun y0=>zBK (zBa k) y0
def zDl (y0:uG):Option ((List Int)×(List (List Int))×Bool):=zZV fun k=>zBa k y0
def zBv (y0:wJ) (s2:Int×(List (List Int))×(List Int)):Option ((Int×(List (List Int))×(List Int))⊕((List (List Int))×(List Int))) :=
 if decide (s2.1<y0.1) then
 (zDw y0 s2.1).bind fun r2 =>
 (wE s2.2.1 ([r2]:List (List Int))).bind fun x1 =>
 (yC (decide (0≤s2.1)&&decide (s2.1<40))).bind fun _ =>
 some (.inl (zS (s2.1+1),x1,xR 40 s2.2.2 s2.1 14))
 else
 some (.inr (s2.2.1,s2.2.2))
def zBB (y0:wJ):Option ((List (List Int))×Int) :=
 (zBb y0).bind fun r1 =>
 if r1 != 0 then
 some (([]:List (List Int)),r1)
 else
 (zU (zBv y0) (0,([]:List (List Int)),(List.replicate 40 (0:Int))):Option ((List (List Int))×(List Int))).bind fun s1 =>
 (zDl (y0.1,s1.1,s1.2,([]:List (List Int)),false)).bind fun r3 =>
 if r3.2.2 then
 some (([]:List (List Int)),2)
 else
 some (r3.2.1,0)
def zDK (y1:List Int) (y0:List Int) (s1:(List Int)×Int):Option (((List Int)×Int)⊕(List Int)) :=
 if decide (s1.2<(len y1)) then
 (zF y1 s1.2).bind fun x1 =>
 (zBR y0 x1).bind fun r1 =>
 (wE s1.1 r1).bind fun x2 =>
 some (.inl (x2,zS (s1.2+1)))
 else
 some (.inr s1.1)
def zBg (y0:List Int) (y1:List Int):Option (List Int) :=
 zU (zDK y1 y0) (([]:List Int),0)
def zDn (y0:Int) (y1:List Int):Option Bool :=
 (zAx y1 y0).bind fun r1 =>
 some (!r1)
def zA1 (y0:List Int) (y1:List Int) (s1:Int):Option (Int⊕Int) :=
 if decide (s1<(len y0)) then
 (zF y0 s1).bind fun x1 =>
 (zDn x1 y1).bind fun r1 =>
 if r1 then
 some (.inr s1)
 else
 some (.inl (zS (s1+1)))
 else
 some (.inr (-1))
def zAe (y0:List Int) (y1:List Int):Option Int :=
 zU (zA1 y0 y1) 0
def zAG (y0:List Int) (y1:List Int):Option Bool :=
 (zAe y0 y1).bind fun r1 =>
 some (decide (0≤r1))
def zCk (y0:List Int) (y1:List Int):Option Bool :=
 (
 if decide ((len y0)<(len y1)) then
 (zAG y0 y1).bind fun r1 =>
 some (!r1)
 else
 some false:Option Bool).bind fun s1 =>
 some s1
def zCQ (y0:List Int) (y1:List Int):Option Bool :=
 (zBg y1 ([1]:List Int)).bind fun r1 =>
 (zBg y0 ([1]:List Int)).bind fun r2 =>
 (zCk r1 r2).bind fun r3 =>
 some r3
def zAm (y0:List Int) (y2:List Int):Option Bool :=
 (zCQ y0 y2).bind fun r1 =>
 some r1
def zA6 (y0:List (List Int)) (y2:List Int) (s1:Int):Option (Int⊕Int) :=
 if decide (s1<(len y0)) then
 (zF y0 s1).bind fun x1 =>
 (zAm x1 y2).bind fun r1 =>
 if r1 then
 some (.inr s1)
 else
 some (.inl (zS (s1+1)))
 else
 some (.inr (-1))
def zAs (y0:List (List Int)) (y2:List Int):Option Int :=
 zU (zA6 y0 y2) 0
def zAM (y0:List (List Int)) (y2:List Int):Option Bool :=
 (zAs y0 y2).bind fun r1 =>
 some (decide (0≤r1))
def zAC (r1:(List (List Int))×Int) (s1:(List (List Int))×Int):Option (((List (List Int))×Int)⊕((List (List Int))×Int)) :=
 if decide (s1.2<(len r1.1)) then
 (zF r1.1 s1.2).bind fun x1 =>
 (zAM r1.1 x1).bind fun r2 =>
 if !r2 then
 (wE s1.1 ([x1]:List (List Int))).bind fun x2 =>
 some (.inl (x2,zS (s1.2+1)))
 else
 some (.inl (s1.1,zS (s1.2+1)))
 else
 some (.inr (s1.1,0))
def zAK (y0:wJ):Option ((List (List Int))×Int) :=
 (zBB y0).bind fun r1 =>
 if r1.2 != 0 then
 some (([]:List (List Int)),r1.2)
 else
 zU (zAC r1) (([]:List (List Int)),0)
def zAv (y0:wJ):Option ((List (List Int))×Int) :=
 (zAK y0).bind fun r1 =>
 some (r1.1,r1.2)
def zC3 (y0:wJ) (y1:List Int) (s2:(List Int)×Int):Option (((List Int)×Int)⊕(List Int)) :=
 if decide (s2.2<(len y0.2)) then
 (zF y0.2 s2.2).bind fun x1 =>
 (zAx y1 x1.1).bind fun r2 =>
 if r2 then
 (zF s2.1 x1.2).bind fun _ =>
 some (.inl (List.set s2.1 (Int.toNat x1.2) 2,zS (s2.2+1)))
 else
 some (.inl (s2.1,zS (s2.2+1)))
 else
 some (.inr s2.1)
def zER (y1:List Int) (y0:wJ) (s3:(List Int)×Int):Option (((List Int)×Int)⊕(List Int)) :=
 if decide (s3.2<(len y1)) then
 (zF y1 s3.2).bind fun x3 =>
 if (decide (0≤x3))&&(decide (x3<y0.1)) then
 (zF s3.1 x3).bind fun _ =>
 some (.inl (List.set s3.1 (Int.toNat x3) 1,zS (s3.2+1)))
 else
 some (.inl (s3.1,zS (s3.2+1)))
 else
 some (.inr s3.1)
def zCN (y0:wJ) (y1:List Int):Option (List Int) :=
 (zCb ([3]:List Int) y0.1).bind fun r1 =>
 (zU (zC3 y0 y1) (r1,0):Option (List Int)).bind fun s1 =>
 zU (zER y1 y0) (s1,0)
def zAi (y0:wJ):Option ((List Int)×Int) :=
 (zAv y0).bind fun r1 =>
 if r1.2 != 0 then
 some (([]:List Int),r1.2)
 else
 (zGL r1.1).bind fun r2 =>
 (zCH y0 r2).bind fun r3 =>
 if r3.2 != 0 then
 some (([]:List Int),r3.2)
 else
 (zCN y0 r3.1).bind fun r4 =>
 some (r4,0)
def zGB (y0:wJ):Option ((List Int)×Int) :=
 (zAi y0).bind fun r1 =>
 some (r1.1,r1.2)
def zBG (y0:wJ):Option ((List (List Int))×Int) :=
 (zGB y0).bind fun r1 =>
 if r1.2 != 0 then
 some (([]:List (List Int)),r1.2)
 else
 some (([r1.1]:List (List Int)),0)
def zA8 (r1:(List (List Int))×Int) (s1:(List (List Int))×Int):Option (((List (List Int))×Int)⊕((List (List Int))×Int)) :=
 if decide (s1.2<(len r1.1)) then
 (zF r1.1 s1.2).bind fun x1 =>
 (zBR x1 1).bind fun r2 =>
 (wE s1.1 ([r2]:List (List Int))).bind fun x2 =>
 some (.inl (x2,zS (s1.2+1)))
 else
 some (.inr (s1.1,0))
def zAN (y0:wJ):Option ((List (List Int))×Int) :=
 (zBG y0).bind fun r1 =>
 if r1.2 != 0 then
 some (([]:List (List Int)),r1.2)
 else
 zU (zA8 r1) (([]:List (List Int)),0)
def zBz (y0:List Int) (y1:List Int):Option Bool :=
 (zBg y0 ([3]:List Int)).bind fun r1 =>
 (zBg y1 ([3]:List Int)).bind fun r2 =>
 (zCk r1 r2).bind fun r3 =>
 some r3
def zAf (y0:List Int) (y2:List Int):Option Bool :=
 (zBz y0 y2).bind fun r1 =>
 some r1
def zA3 (y0:List (List Int)) (y2:List Int) (s1:Int):Option (Int⊕Int) :=
 if decide (s1<(len y0)) then
 (zF y0 s1).bind fun x1 =>
 (zAf x1 y2).bind fun r1 =>
 if r1 then
 some (.inr s1)
 else
 some (.inl (zS (s1+1)))
 else
 some (.inr (-1))
def zAd (y0:List (List Int)) (y2:List Int):Option Int :=
 zU (zA3 y0 y2) 0
def zAJ (y0:List (List Int)) (y2:List Int):Option Bool :=
 (zAd y0 y2).bind fun r1 =>
 some (decide (0≤r1))
def zAB (r1:(List (List Int))×Int) (s1:(List (List Int))×Int):Option (((List (List Int))×Int)⊕((List (List Int))×Int)) :=
 if decide (s1.2<(len r1.1)) then
 (zF r1.1 s1.2).bind fun x1 =>
 (zAJ r1.1 x1).bind fun r2 =>
 if !r2 then
 (wE s1.1 ([x1]:List (List Int))).bind fun x2 =>
 some (.inl (x2,zS (s1.2+1)))
 else
 some (.inl (s1.1,zS (s1.2+1)))
 else
 some (.inr (s1.1,0))
def zAF (y0:wJ):Option ((List (List Int))×Int) :=
 (zBB y0).bind fun r1 =>
 if r1.2 != 0 then
 some (([]:List (List Int)),r1.2)
 else
 zU (zAB r1) (([]:List (List Int)),0)
def zAk (y0:wJ):Option ((List (List Int))×Int) :=
 (zAF y0).bind fun r1 =>
 some (r1.1,r1.2)
def zA7 (y0:wJ):Option ((List Int)×Int) :=
 (zAk y0).bind fun r1 =>
 if r1.2 != 0 then
 some (([]:List Int),r1.2)
 else
 (zGL r1.1).bind fun r2 =>
 (zCH y0 r2).bind fun r3 =>
 if r3.2 != 0 then
 some (([]:List Int),r3.2)
 else
 (zCN y0 r3.1).bind fun r4 =>
 some (r4,0)
def zGA (y0:wJ):Option ((List Int)×Int) :=
 (zA7 y0).bind fun r1 =>
 some (r1.1,r1.2)
def zBF (y0:wJ):Option ((List (List Int))×Int) :=
 (zGA y0).bind fun r1 =>
 if r1.2 != 0 then
 some (([]:List (List Int)),r1.2)
 else
 some (([r1.1]:List (List Int)),0)
def zA9 (r1:(List (List Int))×Int) (s1:(List (List Int))×Int):Option (((List (List Int))×Int)⊕((List (List Int))×Int)) :=
 if decide (s1.2<(len r1.1)) then
 (zF r1.1 s1.2).bind fun x1 =>
 (zBR x1 1).bind fun r2 =>
 (wE s1.1 ([r2]:List (List Int))).bind fun x2 =>
 some (.inl (x2,zS (s1.2+1)))
 else
 some (.inr (s1.1,0))
def zAO (y0:wJ):Option ((List (List Int))×Int) :=
 (zBF y0).bind fun r1 =>
 if r1.2 != 0 then
 some (([]:List (List Int)),r1.2)
 else
 zU (zA9 r1) (([]:List (List Int)),0)
def zA2 (r1:(List (List Int))×Int) (s1:(List (List Int))×Int):Option (((List (List Int))×Int)⊕((List (List Int))×Int)) :=
 if decide (s1.2<(len r1.1)) then
 (zF r1.1 s1.2).bind fun x1 =>
 (zBR x1 1).bind fun r2 =>
 (wE s1.1 ([r2]:List (List Int))).bind fun x2 =>
 some (.inl (x2,zS (s1.2+1)))
 else
 some (.inr (s1.1,0))
def zAE (y0:wJ):Option ((List (List Int))×Int) :=
 (zAv y0).bind fun r1 =>
 if r1.2 != 0 then
 some (([]:List (List Int)),r1.2)
 else
 zU (zA2 r1) (([]:List (List Int)),0)
def zAY (r1:(List (List Int))×Int) (s1:(List (List Int))×Int):Option (((List (List Int))×Int)⊕((List (List Int))×Int)) :=
 if decide (s1.2<(len r1.1)) then
 (zF r1.1 s1.2).bind fun x1 =>
 (zBR x1 1).bind fun r2 =>
 (wE s1.1 ([r2]:List (List Int))).bind fun x2 =>
 some (.inl (x2,zS (s1.2+1)))
 else
 some (.inr (s1.1,0))
def zAD (y0:wJ):Option ((List (List Int))×Int) :=
 (zAk y0).bind fun r1 =>
 if r1.2 != 0 then
 some (([]:List (List Int)),r1.2)
 else
 zU (zAY r1) (([]:List (List Int)),0)
def zCo (y0:List Int) (y1:List Int):Option Bool :=
 (zBg y1 ([3]:List Int)).bind fun r1 =>
 some (decide (0<(len r1)))
def zBD (y0:List Int) (y2:List Int):Option Bool :=
 (zCo y0 y2).bind fun r1 =>
 some r1
def zA0 (y0:List (List Int)) (y2:List Int) (s1:Int):Option (Int⊕Int) :=
 if decide (s1<(len y0)) then
 (zF y0 s1).bind fun x1 =>
 (zBD x1 y2).bind fun r1 =>
 if r1 then
 some (.inr s1)
 else
 some (.inl (zS (s1+1)))
 else
 some (.inr (-1))
def zAb (y0:List (List Int)) (y2:List Int):Option Int :=
 zU (zA0 y0 y2) 0
def zAI (y0:List (List Int)) (y2:List Int):Option Bool :=
 (zAb y0 y2).bind fun r1 =>
 some (decide (0≤r1))
def zAL (r1:(List (List Int))×Int) (s1:(List (List Int))×Int):Option (((List (List Int))×Int)⊕((List (List Int))×Int)) :=
 if decide (s1.2<(len r1.1)) then
 (zF r1.1 s1.2).bind fun x1 =>
 (zAI r1.1 x1).bind fun r2 =>
 if !r2 then
 (wE s1.1 ([x1]:List (List Int))).bind fun x2 =>
 some (.inl (x2,zS (s1.2+1)))
 else
 some (.inl (s1.1,zS (s1.2+1)))
 else
 some (.inr (s1.1,0))
def zAh (y0:wJ):Option ((List (List Int))×Int) :=
 (zBB y0).bind fun r1 =>
 if r1.2 != 0 then
 some (([]:List (List Int)),r1.2)
 else
 zU (zAL r1) (([]:List (List Int)),0)
def zCW (y0:wJ):Option ((List (List Int))×Int) :=
 (zAh y0).bind fun r1 =>
 some (r1.1,r1.2)
def zAg (r1:(List (List Int))×Int) (s1:(List (List Int))×Int):Option (((List (List Int))×Int)⊕((List (List Int))×Int)) :=
 if decide (s1.2<(len r1.1)) then
 (zF r1.1 s1.2).bind fun x1 =>
 (zBR x1 1).bind fun r2 =>
 (wE s1.1 ([r2]:List (List Int))).bind fun x2 =>
 some (.inl (x2,zS (s1.2+1)))
 else
 some (.inr (s1.1,0))
def zAS (y0:wJ):Option ((List (List Int))×Int) :=
 (zCW y0).bind fun r1 =>
 if r1.2 != 0 then
 some (([]:List (List Int)),r1.2)
 else
 zU (zAg r1) (([]:List (List Int)),0)
def zAp (r1:(List (List Int))×Int) (s1:(List (List Int))×Int):Option (((List (List Int))×Int)⊕((List (List Int))×Int)) :=
 if decide (s1.2<(len r1.1)) then
 (zF r1.1 s1.2).bind fun x1 =>
 (zBR x1 1).bind fun r2 =>
 (wE s1.1 ([r2]:List (List Int))).bind fun x2 =>
 some (.inl (x2,zS (s1.2+1)))
 else
 some (.inr (s1.1,0))
def zAW (y0:wJ):Option ((List (List Int))×Int) :=
 (zBB y0).bind fun r1 =>
 if r1.2 != 0 then
 some (([]:List (List Int)),r1.2)
 else
 zU (zAp r1) (([]:List (List Int)),0)
def zBT (y0:wJ) (y1:Int):Option ((List (List Int))×Int) :=
 (zBb y0).bind fun r1 =>
 if r1 != 0 then
 some (([]:List (List Int)),r1)
 else
 zLQ.bind fun _ =>
 if (decide (y1<1))||(decide (((10:Nat):Int)≤y1)) then
 some (([]:List (List Int)),4)
 else
 (
 if y1==1 then
 (zBM y0).bind fun r3 =>
 some (r3.1,r3.2)
 else
 if y1==2 then
 (zAW y0).bind fun r4 =>
 some (r4.1,r4.2)
 else
 if y1==3 then
 (zAE y0).bind fun r5 =>
 some (r5.1,r5.2)
 else
 if y1==4 then
 (zAS y0).bind fun r6 =>
 some (r6.1,r6.2)
 else
 if y1==5 then
 (zAD y0).bind fun r7 =>
 some (r7.1,r7.2)
 else
 if y1==6 then
 (zAN y0).bind fun r8 =>
 some (r8.1,r8.2)
 else
 if y1==7 then
 (zAO y0).bind fun r9 =>
 some (r9.1,r9.2)
 else
 if y1==8 then
 none
 else
 if y1==9 then
 none
 else
 none:Option ((List (List Int))×Int)).bind fun s1 =>
 some (s1.1,s1.2)
def zIw (y0:zBu) (y1:List Int):Option (zBu×(List Int)) :=
 some (y0,y1)
def zBn (y0:zG) (y1:List zG):Option Bool :=
 (zDr y1 y0).bind fun r1 =>
 some (!r1)
def zBP (y0:List zG) (y1:List zG) (s1:Int):Option (Int⊕Int) :=
 if decide (s1<(len y0)) then
 (zF y0 s1).bind fun x1 =>
 (zBn x1 y1).bind fun r1 =>
 if r1 then
 some (.inr s1)
 else
 some (.inl (zS (s1+1)))
 else
 some (.inr (-1))
def zBW (y0:List zG) (y1:List zG):Option Int :=
 zU (zBP y0 y1) 0
def zAH (y0:List zG) (y1:List zG):Option Bool :=
 (zBW y0 y1).bind fun r1 =>
 some (decide (0≤r1))
def zDW (y0:zBu) (r1:(List zG)) (s2:Int):Option (Int⊕(Unit⊕Unit)) :=
 if decide (s2<(len y0.1.2.1)) then
 (zF y0.1.2.1 s2).bind fun x1 =>
 (
 if x1.2.1 then
 (zBn x1.2.2.2.2 r1).bind fun r2 =>
 if r2 then
 (zAH x1.2.2.2.1 r1).bind fun r3 =>
 if !r3 then
 none
 else
 some false
 else
 some false
 else
 some false:Option Bool).bind fun s3 =>
 if s3 then
 some (.inr (.inr ()))
 else
 some (.inl (zS (s2+1)))
 else
 some (.inr (.inl ()))
def zDP (r1:(List zG)) (s5:Int):Option (Int⊕(Unit⊕Unit)) :=
 if decide (s5<(len r1)) then
 (zF r1 s5).bind fun x2 =>
 (
 if !x2.1 then
 (zDk x2).bind fun r4 =>
 (zBn r4 r1).bind fun r5 =>
 if !r5 then
 none
 else
 some false
 else
 some false:Option Bool).bind fun s6 =>
 if s6 then
 some (.inr (.inr ()))
 else
 some (.inl (zS (s5+1)))
 else
 some (.inr (.inl ()))
def zD7 (y1:List Int) (y0:zBu) (s8:(List Int)×Int):Option (((List Int)×Int)⊕(List Int)) :=
 if decide (s8.2<(len y1)) then
 (zF y1 s8.2).bind fun x3 =>
 (zDN y0.2.1 x3).bind fun r6 =>
 (wE s8.1 r6).bind fun x4 =>
 some (.inl (x4,zS (s8.2+1)))
 else
 some (.inr s8.1)
def zDV (r8:(List Int)) (y1:List Int) (s9:Int):Option (Int⊕Unit) :=
 if decide (s9<(len r8)) then
 (zF r8 s9).bind fun x5 =>
 (
 (zAx y1 x5).bind fun r9 =>
 if !r9 then
 none
 else
 some false:Option Bool).bind fun s10 =>
 if s10 then
 some (.inr ())
 else
 some (.inl (zS (s9+1)))
 else
 some (.inr ())
def zHq (y0:zBu) (y1:List Int):Option Unit :=
 (zB9 y0.2.1 y1).bind fun r1 =>
 yD (zU (zDW y0 r1) 0:Option (Unit⊕Unit)) fun _ =>
 yD (zU (zDP r1) 0:Option (Unit⊕Unit)) fun _ =>
 (zU (zD7 y1 y0) (([]:List Int),0):Option (List Int)).bind fun s7 =>
 (zBQ s7).bind fun r7 =>
 (zBV r7).bind fun r8 =>
 zU (zDV r8 y1) 0
def zEM (y0:zBu) (y1:List Int):Option (List zQx) :=
 (zIw y0 y1).bind fun r1 =>
 (zHq r1.1 r1.2).bind fun _ =>
 some ([]:List zQx)
def zPu (y0:List Int):Option uO :=
 (sub y0 0 (if 2000<(len y0) then 2000 else len y0)).bind fun x1 =>
 some (x1,0)
def zLK:Option (List yN) :=
 some ([(1,1),(1,2),(2,1),(2,2)]:List yN)
def zGY (r1:(List (List Int))×Int) (y0:zBu) (s1:(List (List zG))×Int):Option (((List (List zG))×Int)⊕((List (List zG))×Int)) :=
 if decide (s1.2<(len r1.1)) then
 (zF r1.1 s1.2).bind fun x1 =>
 (zB9 y0.2.1 x1).bind fun r2 =>
 (wE s1.1 ([r2]:List (List zG))).bind fun x2 =>
 some (.inl (x2,zS (s1.2+1)))
 else
 some (.inr (s1.1,0))
def zFR (y0:zBu) (y1:Int):Option ((List (List zG))×Int) :=
 (zBT y0.2.2.2 y1).bind fun r1 =>
 if r1.2 != 0 then
 some (([]:List (List zG)),r1.2)
 else
 zU (zGY r1 y0) (([]:List (List zG)),0)
def zJh (y0:Int):Option (List zG) :=
 (
 if decide (y0<0) then
 none
 else
 some ():Option Unit).bind fun _ =>
 if decide (0<(zS (y0-(zS (((0:Nat):Int)-(len ([]:List zG))))))) then
 (mkS (zS (y0-(zS (((0:Nat):Int)-(len ([]:List zG)))))) (zS (y0-(zS (((0:Nat):Int)-(len ([]:List zG)))))) ((false,[]):zG)).bind fun x1 =>
 (sub x1 0 (len ([]:List zG))).bind fun x2 =>
 some x2
 else
 some ([]:List zG)
def zMU (y0:List (List zG)) (s2:Int×Int):Option ((Int×Int)⊕Int) :=
 if decide (s2.2<(len y0)) then
 (zF y0 s2.2).bind fun x1 =>
 if decide ((zS (s2.1+(len x1)))<0) then
 none
 else
 some (.inl (zS (s2.1+(len x1)),zS (s2.2+1)))
 else
 some (.inr s2.1)
def zMN (y0:List (List zG)) (s3:(List zG)×Int):Option (((List zG)×Int)⊕(List zG)) :=
 if decide (s3.2<(len y0)) then
 (zF y0 s3.2).bind fun x2 =>
 (wE s3.1 x2).bind fun x3 =>
 some (.inl (x3,zS (s3.2+1)))
 else
 some (.inr s3.1)
def zDq (y0:List (List zG)):Option (List zG) :=
 (zU (zMU y0) (0,0):Option Int).bind fun s1 =>
 (zJh s1).bind fun r1 =>
 zU (zMN y0) (r1,0)
def zEu (y0:List zG) (y1:zG):Option Bool :=
 (zDr y0 y1).bind fun r1 =>
 some (!r1)
def zBU (y0:List (List zG)) (y1:zG) (s1:Int):Option (Int⊕Int) :=
 if decide (s1<(len y0)) then
 (zF y0 s1).bind fun x1 =>
 (zEu x1 y1).bind fun r1 =>
 if r1 then
 some (.inr s1)
 else
 some (.inl (zS (s1+1)))
 else
 some (.inr (-1))
def zAt (y0:List (List zG)) (y1:zG):Option Int :=
 zU (zBU y0 y1) 0
def zAa (y0:List (List zG)) (y1:zG):Option Bool :=
 (zAt y0 y1).bind fun r1 =>
 some (decide (0≤r1))
def zDy (y0:zG) (y1:Bool) (y2:List (List zG)):Option Bool :=
 (
 if y1 then
 (zAa y2 y0).bind fun r1 =>
 some r1
 else
 some false:Option Bool).bind fun s1 =>
 some s1
def zB3 (y0:List zG) (y1:Bool) (y2:List (List zG)) (s1:Int):Option (Int⊕Int) :=
 if decide (s1<(len y0)) then
 (zF y0 s1).bind fun x1 =>
 (zDy x1 y1 y2).bind fun r1 =>
 if r1 then
 some (.inr s1)
 else
 some (.inl (zS (s1+1)))
 else
 some (.inr (-1))
def zBC (y0:List zG) (y1:Bool) (y2:List (List zG)):Option Int :=
 zU (zB3 y0 y1 y2) 0
def zBX (y0:List zG) (y1:Bool) (y2:List (List zG)) (s2:(List zG)×Int×Int):Option (((List zG)×Int×Int)⊕((List zG)×Int)) :=
 if decide (s2.2.2<(len y0)) then
 (zF s2.1 s2.2.2).bind fun x1 =>
 (zDy x1 y1 y2).bind fun r2 =>
 if !r2 then
 (zF s2.1 s2.2.1).bind fun _ =>
 some (.inl (List.set s2.1 (Int.toNat s2.2.1) x1,zS (s2.2.1+1),zS (s2.2.2+1)))
 else
 some (.inl (s2.1,s2.2.1,zS (s2.2.2+1)))
 else
 some (.inr (s2.1,s2.2.1))
def zAz (y0:List zG) (y1:Bool) (y2:List (List zG)):Option (List zG) :=
 (zBC y0 y1 y2).bind fun r1 =>
 if r1==(-1) then
 some y0
 else
 (zU (zBX y0 y1 y2) (y0,r1,zS (r1+1)):Option ((List zG)×Int)).bind fun s1 =>
 (yC (decide (0≤s1.2)&&decide (s1.2≤len s1.1))).bind fun _ =>
 (sub (zDI s1.1 s1.2 (false,[])) 0 s1.2).bind fun x3 =>
 some x3
def zIG (y0:zBu) (y1:Int) (y2:Bool):Option ((List zG)×Int) :=
 (zFR y0 y1).bind fun r1 =>
 if r1.2 != 0 then
 some (([]:List zG),r1.2)
 else
 (zDq r1.1).bind fun r2 =>
 (zDe r2).bind fun r3 =>
 (zAz r3 y2 r1.1).bind fun r4 =>
 some (r4,0)
def zE8 (y0:zO) (y1:yN):Option ((List zG)×Bool) :=
 (zDh y0 y1).bind fun r1 =>
 (zIG r1.1 1 true).bind fun r2 =>
 (
 if r1.2==0 then
 some (r2.1,r2.2==0)
 else
 some (r2.1,false):Option ((List zG)×Bool)).bind fun s1 =>
 some (s1.1,s1.2)
def zDg (y0:zG):Option qD :=
 (zCI y0).bind fun r1 =>
 if !r1 then
 some []
 else
 if y0.1 then
 (cat [126] y0.2).bind fun x1 =>
 some x1
 else
 some y0.2
def zHQ (y0:Int) (y1:Int):Option qD:=z6H y0 y1
def zJ5 (y0:Int):Option qD :=
 (zHQ y0 10).bind fun r1 =>
 some r1
def zKc (y0:Int):Option qD :=
 (zJ5 y0).bind fun r1 =>
 some r1
def zNB (y0:List qD) (y1:qD):Option qD:=z5m y0 y1
def zES (y0:vT):Option qD :=
 (zF zBS y0.2.1).bind fun x1 =>
 (zDg y0.1).bind fun r1 =>
 (
 if y0.2.1==2 then
 (zKc y0.2.2.1).bind fun r2 =>
 (wE ([x1,r1]:List qD) ([r2]:List qD)).bind fun x2 =>
 some x2
 else
 some ([x1,r1]:List qD):Option (List qD)).bind fun s1 =>
 (
 if !(y0.2.2.2==[]) then
 (wE s1 ([[102,114,111,109],y0.2.2.2]:List qD)).bind fun x3 =>
 some x3
 else
 some s1:Option (List qD)).bind fun s2 =>
 (zNB s2 [32]).bind fun r3 =>
 some r3
def zDX (y0:vQ):Option qD :=
 (cat [112,114,111,109,111,116,101,32] y0.1).bind fun x1 =>
 (cat x1 [32]).bind fun x2 =>
 (zKc y0.2.1).bind fun r1 =>
 (cat x2 r1).bind fun x3 =>
 (cat x3 [32,105,102,32]).bind fun x4 =>
 (zDg y0.2.2).bind fun r2 =>
 (cat x4 r2).bind fun x5 =>
 some x5
def zHG (y0:qL) (s3:(List qD)×Int):Option (((List qD)×Int)⊕(List qD)) :=
 if decide (s3.2<(len y0.2.2.2.1)) then
 (zF y0.2.2.2.1 s3.2).bind fun x3 =>
 (zDg x3).bind fun r2 =>
 (
 if decide (s3.2<(zS ((len y0.2.2.2.1)-1))) then
 (cat r2 [44]).bind fun x4 =>
 some x4
 else
 some r2:Option qD).bind fun s4 =>
 (wE s3.1 ([s4]:List qD)).bind fun x5 =>
 some (.inl (x5,zS (s3.2+1)))
 else
 some (.inr s3.1)
def zG1 (y0:qL):Option qD :=
 (cat y0.1 [58]).bind fun x1 =>
 (
 if !y0.2.1 then
 (zKc y0.2.2.1).bind fun r1 =>
 (cat r1 [58]).bind fun x2 =>
 some (([[114,117,108,101],y0.1,x2]:List qD),[61,62])
 else
 some (([[115,116,114,105,99,116],x1]:List qD),[45,62]):Option ((List qD)×qD)).bind fun s1 =>
 (zU (zHG y0) (s1.1,0):Option (List qD)).bind fun s2 =>
 (zDg y0.2.2.2.2).bind fun r3 =>
 (wE s2 ([s1.2,r3]:List qD)).bind fun x6 =>
 (zNB x6 [32]).bind fun r4 =>
 some r4
def zBh (y0:zAX):Option (qD×(List qD)×Bool) :=
 if (len y0.1)==0 then
 some ([],y0.1,true)
 else
 (zF y0.1 0).bind fun x1 =>
 (sub y0.1 1 (len y0.1)).bind fun x2 =>
 some (x1,x2,y0.2)
def zJ1 (y0:qD):Option (zG×Int) :=
 (
 (
 if decide (0<(len y0)) then
 (tW y0 0).bind fun x1 =>
 some (x1==126)
 else
 some false:Option Bool).bind fun s2 =>
 if s2 then
 (sub y0 1 (len y0)).bind fun x2 =>
 some (x2,true)
 else
 some (y0,false):Option (qD×Bool)).bind fun s1 =>
 (zCI (s1.2,s1.1)).bind fun r1 =>
 if !r1 then
 some ((false,[]),3)
 else
 some ((s1.2,s1.1),0)
def zFG (y0:qD) (y1:qD):Option Bool :=
 (
 if decide ((len y1)≤(len y0)) then
 (sub y0 (zS ((len y0)-(len y1))) (len y0)).bind fun x1 =>
 some (x1==y1)
 else
 some false:Option Bool).bind fun s1 =>
 some s1
def zFJ (y0:qD) (y1:qD):Option (qD×Bool) :=
 (zFG y0 y1).bind fun r1 =>
 if !r1 then
 some (y0,false)
 else
 (sub y0 0 (zS ((len y0)-(len y1)))).bind fun x1 =>
 some (x1,true)
def zGE (y0:qD) (y1:qD):Option (qD×Bool) :=
 (zFJ y0 y1).bind fun r1 =>
 some (r1.1,r1.2)
def zBc (y0:zAX) (y1:qD):Option (zG×(List qD)×Bool) :=
 (zBh y0).bind fun r1 =>
 (zGE r1.1 y1).bind fun r2 =>
 (zJ1 r2.1).bind fun r3 =>
 (
 if r1.2.2 then
 some true
 else
 if !r2.2 then
 some true
 else
 some (r3.2 != 0):Option Bool).bind fun s1 =>
 some (r3.1,r1.2.1,s1)
def zCK (y0:zAX) (y1:qD):Option (qD×(List qD)×Bool) :=
 (zBh y0).bind fun r1 =>
 (zGE r1.1 y1).bind fun r2 =>
 (
 if r1.2.2 then
 some true
 else
 if !r2.2 then
 some true
 else
 (zBq r2.1).bind fun r3 =>
 some (!r3):Option Bool).bind fun s1 =>
 some (r2.1,r1.2.1,s1)
def zEq (y0:zAX) (y1:qD):Option (Int×(List qD)×Bool) :=
 (zBh y0).bind fun r1 =>
 (zGE r1.1 y1).bind fun r2 =>
 (
 if !r2.2 then
 some true
 else
 if (len r2.1) != 1 then
 some true
 else
 (tW r2.1 0).bind fun x1 =>
 if decide (x1<48) then
 some true
 else
 (tW r2.1 0).bind fun x2 =>
 some (decide (57<x2)):Option Bool).bind fun s1 =>
 if s1 then
 some (0,r1.2.1,true)
 else
 (tW r2.1 0).bind fun x3 =>
 some (zS (IntKind.u8.wrap (x3-48)),r1.2.1,r1.2.2)
def zDT (y0:zAX) (y1:Int):Option (vT×(List qD)×Bool) :=
 (zBc y0 []).bind fun r1 =>
 (
 if y1==2 then
 (zEq (r1.2.1,r1.2.2) []).bind fun r2 =>
 some (r2.2.1,r2.2.2,r2.1)
 else
 some (r1.2.1,r1.2.2,0):Option ((List qD)×Bool×Int)).bind fun s1 =>
 (
 if decide (0<(len s1.1)) then
 (
 if s1.2.1 then
 some (s1.1,true)
 else
 (zBh (s1.1,s1.2.1)).bind fun r3 =>
 some (r3.2.1,!(r3.1==[102,114,111,109])):Option ((List qD)×Bool)).bind fun s3 =>
 (zCK (s3.1,s3.2) []).bind fun r4 =>
 some (r4.2.1,r4.2.2,r4.1)
 else
 some (s1.1,s1.2.1,[]):Option ((List qD)×Bool×qD)).bind fun s2 =>
 some ((r1.1,y1,s1.2.2,s2.2.2),s2.1,s2.2.1)
def zCt (y0:zAX):Option (vQ×(List qD)×Bool) :=
 (zCK y0 []).bind fun r1 =>
 (zEq (r1.2.1,r1.2.2) []).bind fun r2 =>
 (
 if r2.2.2 then
 some (r2.2.1,true)
 else
 (zBh (r2.2.1,r2.2.2)).bind fun r3 =>
 some (r3.2.1,!(r3.1==[105,102])):Option ((List qD)×Bool)).bind fun s1 =>
 (zBc (s1.1,s1.2) []).bind fun r4 =>
 some ((r1.1,r2.1,r4.1),r4.2.1,r4.2.2)
def zFs (s3:(List qD)×Bool×(List zG)):Option (((List qD)×Bool×(List zG))⊕((List qD)×Bool×(List zG))) :=
 if (decide (2<(len s3.1)))&&(!s3.2.1) then
 (
 if (len s3.1)==3 then
 some []
 else
 some [44]:Option qD).bind fun s4 =>
 (zBc (s3.1,s3.2.1) s4).bind fun r4 =>
 (wE s3.2.2 ([r4.1]:List zG)).bind fun x1 =>
 some (.inl (r4.2.1,r4.2.2,x1))
 else
 some (.inr (s3.1,s3.2.1,s3.2.2))
def zEa (y0:zAX) (y1:Bool):Option (qL×(List qD)×Bool) :=
 (
 if y1 then
 (zCK y0 [58]).bind fun r1 =>
 some ([45,62],r1.2.1,r1.2.2,r1.1,0)
 else
 (zCK y0 []).bind fun r2 =>
 (zEq (r2.2.1,r2.2.2) [58]).bind fun r3 =>
 some ([61,62],r3.2.1,r3.2.2,r2.1,r3.1):Option (qD×(List qD)×Bool×qD×Int)).bind fun s1 =>
 (zU (zFs) (s1.2.1,s1.2.2.1,([]:List zG)):Option ((List qD)×Bool×(List zG))).bind fun s2 =>
 (
 if s2.2.1 then
 some (s2.1,true)
 else
 (zBh (s2.1,s2.2.1)).bind fun r5 =>
 some (r5.2.1,!(r5.1==s1.1)):Option ((List qD)×Bool)).bind fun s5 =>
 (zBc (s5.1,s5.2) []).bind fun r6 =>
 some ((s1.2.2.2.1,y1,s1.2.2.2.2,s2.2.2,r6.1),r6.2.1,r6.2.2)
def zNn (r1:qD×(List qD)×Bool) (s3:Int×Int):Option ((Int×Int)⊕Int) :=
 if decide (s3.2<4) then
 (zF zBS s3.2).bind fun x1 =>
 if x1==r1.1 then
 some (.inl (s3.2,zS (s3.2+1)))
 else
 some (.inl (s3.1,zS (s3.2+1)))
 else
 some (.inr s3.1)
def zFY (y0:zAX) (y1:zO):Option (Int×qD×(List qD)×Bool×(List vT)×(List qL)×(List vQ)) :=
 (zBh y0).bind fun r1 =>
 (
 if r1.1==[97,120,105,111,109] then
 some (r1.1==[97,120,105,111,109])
 else
 if r1.1==[112,114,101,109,105,115,101] then
 some (r1.1==[112,114,101,109,105,115,101])
 else
 some (r1.1==[97,115,115,117,109,101]):Option Bool).bind fun s1 =>
 if s1 then
 (zU (zNn r1) (1,0):Option Int).bind fun s2 =>
 (zDT (r1.2.1,r1.2.2) s2).bind fun r2 =>
 (wE y1.1 ([r2.1]:List vT)).bind fun x2 =>
 (zES r2.1).bind fun r3 =>
 some (1,r3,r2.2.1,r2.2.2,x2,y1.2.1,y1.2.2)
 else
 (
 if r1.1==[115,116,114,105,99,116] then
 some (r1.1==[115,116,114,105,99,116])
 else
 some (r1.1==[114,117,108,101]):Option Bool).bind fun s4 =>
 if s4 then
 (zEa (r1.2.1,r1.2.2) (r1.1==[115,116,114,105,99,116])).bind fun r4 =>
 (wE y1.2.1 ([r4.1]:List qL)).bind fun x3 =>
 (zG1 r4.1).bind fun r5 =>
 some (2,r5,r4.2.1,r4.2.2,y1.1,x3,y1.2.2)
 else
 if r1.1==[112,114,111,109,111,116,101] then
 (zCt (r1.2.1,r1.2.2)).bind fun r6 =>
 (wE y1.2.2 ([r6.1]:List vQ)).bind fun x4 =>
 (zDX r6.1).bind fun r7 =>
 some (3,r7,r6.2.1,r6.2.2,y1.1,y1.2.1,x4)
 else
 some (0,[],r1.2.1,r1.2.2,y1.1,y1.2.1,y1.2.2)
def zHR (y0:qD) (y1:qD):Option Int:=z2u y0 y1
def zIU (y0:qD) (y1:qD):Option (qD×qD×Bool) :=
 (zHR y0 y1).bind fun r1 =>
 if decide (0≤r1) then
 (sub y0 0 r1).bind fun x1 =>
 (sub y0 (zS (r1+(len y1))) (len y0)).bind fun x2 =>
 some (x1,x2,true)
 else
 some (y0,[],false)
def zRV (y0:qD) (y1:qD):Option (qD×qD×Bool) :=
 (zIU y0 y1).bind fun r1 =>
 some (r1.1,r1.2.1,r1.2.2)
def zO2 (y0:qD):Option (List qD):=zZF y0
def zJD (s2:qD×Int×Int×(List vT)×(List qL)×(List vQ)):Option ((qD×Int×Int×(List vT)×(List qL)×(List vQ))⊕(((List vT)×(List qL)×(List vQ))⊕(zO×Int×Int))) :=
 if !(s2.1==[]) then
 (zRV s2.1 [10]).bind fun r1 =>
 (zO2 r1.1).bind fun r2 =>
 (zFY (r2,false) (s2.2.2.2.1,s2.2.2.2.2.1,s2.2.2.2.2.2)).bind fun r3 =>
 if (!r1.2.2)||(r3.2.2.2.1||((decide (0<(len r3.2.2.1)))||((!(r3.2.1==r1.1))||(decide (r3.1<s2.2.1))))) then
 some (.inr (.inr ((([]:List vT),([]:List qL),([]:List vQ)),s2.2.2.1,3)))
 else
 some (.inl (r1.2.1,r3.1,zS (s2.2.2.1+1),r3.2.2.2.2.1,r3.2.2.2.2.2.1,r3.2.2.2.2.2.2))
 else
 some (.inr (.inl (s2.2.2.2.1,s2.2.2.2.2.1,s2.2.2.2.2.2)))
def zIr (y0:qD):Option (zO×Int×Int) :=
 if decide (4096<(len y0)) then
 some ((([]:List vT),([]:List qL),([]:List vQ)),0,2)
 else
 yD (zU (zJD) (y0,1,1,([]:List vT),([]:List qL),([]:List vQ)):Option (((List vT)×(List qL)×(List vQ))⊕(zO×Int×Int))) fun s1 =>
 (zCC (s1.1,s1.2.1,s1.2.2)).bind fun r4 =>
 if r4 != 0 then
 some ((([]:List vT),([]:List qL),([]:List vQ)),0,r4)
 else
 some ((s1.1,s1.2.1,s1.2.2),0,0)
def zJL (y0:qD):Option zO :=
 (zIr y0).bind fun r1 =>
 some r1.1
def zE9:Option Bool :=
 (zJL [112,114,101,109,105,115,101,32,112,32,49,10,112,114,101,109,105,115,101,32,126,112,32,50,10]).bind fun r1 =>
 (zE8 r1 (1,1)).bind fun r2 =>
 (zJL [97,120,105,111,109,32,112,10,114,117,108,101,32,97,32,49,58,32,61,62,32,113,10,114,117,108,101,32,98,32,49,58,32,61,62,32,126,113,10,112,114,111,109,111,116,101,32,98,32,53,32,105,102,32,112,10]).bind fun r3 =>
 (zE8 r3 (1,1)).bind fun r4 =>
 (zJL [112,114,101,109,105,115,101,32,112,32,51,10,115,116,114,105,99,116,32,115,58,32,112,32,45,62,32,126,112,10]).bind fun r5 =>
 (zE8 r5 (1,1)).bind fun r6 =>
 (
 if r2.2 then
 if (len r2.1)==1 then
 (zF r2.1 0).bind fun x1 =>
 if x1==(true,[112]) then
 if r4.2 then
 if (len r4.1)==2 then
 (zF r4.1 1).bind fun x2 =>
 if x2==(true,[113]) then
 if r6.2 then
 some ((len r6.1)==0)
 else
 some false
 else
 some false
 else
 some false
 else
 some false
 else
 some false
 else
 some false
 else
 some false:Option Bool).bind fun s1 =>
 some s1
def zLc (y0:Int) (y1:Int):Option Int :=
 if decide (y1<1) then
 some 0
 else
 (z5L y0 y1).bind fun x1 =>
 if decide (x1<0) then
 some (zS (x1+y1))
 else
 some x1
def zFc (y0:Int):Option qD :=
 (zLc y0 26).bind fun r1 =>
 (cat [114] (zTJ ([IntKind.u8.wrap (zS (97+r1))]:List Int))).bind fun x1 =>
 some x1
def zK3 (y0:uO):Option (Int×Int) :=
 if decide ((len y0.1)≤y0.2) then
 some (0,y0.2)
 else
 (zF y0.1 (zS ((zS (y0.2+1))-1))).bind fun x1 =>
 some (x1,zS (y0.2+1))
def tF (y0:uO) (y1:Int):Option (Int×Int) :=
 (zK3 y0).bind fun r1 =>
 (zLc r1.1 y1).bind fun r2 =>
 some (r2,r1.2)
def zCm (y0:uO) (y1:Int):Option (zG×Int) :=
 (tF y0 (zS (2*y1))).bind fun r1 =>
 (z5U .i64 r1.1 2).bind fun x1 =>
 some (((yE .i64 r1.1 1)==1,zTJ ([IntKind.u8.wrap (zS (97+x1))]:List Int)),r1.2)
def zHE (y0:uO) (y2:Int) (s1:(List zG)×Int×Int):Option (((List zG)×Int×Int)⊕((List zG)×Int)) :=
 if decide (0<s1.2.1) then
 (zCm (y0.1,s1.2.2) y2).bind fun r2 =>
 (wE s1.1 ([r2.1]:List zG)).bind fun x1 =>
 some (.inl (x1,zS (s1.2.1-1),r2.2))
 else
 some (.inr (s1.1,s1.2.2))
def zGS (y0:uO) (y1:Int) (y2:Int):Option ((List zG)×Int) :=
 (tF y0 (zS (y1+1))).bind fun r1 =>
 zU (zHE y0 y2) (([]:List zG),r1.1,r1.2)
def zJm (y0:uO) (y1:List Int):Option (Int×Int) :=
 (tF y0 (len y1)).bind fun r1 =>
 (zF y1 r1.1).bind fun x1 =>
 some (x1,r1.2)
def zJn (y0:uO) (y1:List qD):Option (qD×Int) :=
 (tF y0 (len y1)).bind fun r1 =>
 (zF y1 r1.1).bind fun x1 =>
 some (x1,r1.2)
def zGm (s1:(List zG)×Int) (x1:zG) (s3:Int):Option (Int⊕Int) :=
 (
 if decide (s3<(len s1.1)) then
 (zF s1.1 s3).bind fun x2 =>
 if uN x2.2 x1.2 then
 some true
 else
 (zF s1.1 s3).bind fun x3 =>
 if x3.2==x1.2 then
 (zF s1.1 s3).bind fun x4 =>
 if !x4.1 then
 some x1.1
 else
 some false
 else
 some false
 else
 some false:Option Bool).bind fun s4 =>
 if s4 then
 some (.inl (zS (s3+1)))
 else
 some (.inr s3)
def zIq (y0:List zG) (s1:(List zG)×Int):Option (((List zG)×Int)⊕(List zG)) :=
 if decide (s1.2<(len y0)) then
 (zF y0 s1.2).bind fun x1 =>
 (zU (zGm s1 x1) 0:Option Int).bind fun s2 =>
 (
 if decide (s2<(len s1.1)) then
 (zF s1.1 s2).bind fun x5 =>
 some (x5==x1)
 else
 some false:Option Bool).bind fun s5 =>
 if s5 then
 some (.inl (s1.1,zS (s1.2+1)))
 else
 (wE s1.1 ([(false,[])]:List zG)).bind fun x6 =>
 (yC (decide (0≤(zS (s2+1)))&&decide ((zS (s2+1))≤len x6))).bind fun _ =>
 (yC (decide (0≤s2)&&decide (s2≤len x6))).bind fun _ =>
 (zF (zJF x6 (zS (s2+1)) (List.drop (Int.toNat s2) x6)) s2).bind fun _ =>
 some (.inl (List.set (zJF x6 (zS (s2+1)) (List.drop (Int.toNat s2) x6)) (Int.toNat s2) x1,zS (s1.2+1)))
 else
 some (.inr s1.1)
def zLZ (y0:List zG):Option (List zG) :=
 zU (zIq y0) (([]:List zG),0)
def zEc (s2:Int×Int×(List vT)) (r2:zG×Int) (s5:Bool×Int):Option ((Bool×Int)⊕Bool) :=
 if decide (s5.2<(len s2.2.2)) then
 (zF s2.2.2 s5.2).bind fun x1 =>
 some (.inl (s5.1||(x1.1==r2.1),zS (s5.2+1)))
 else
 some (.inr s5.1)
def zHM (y0:uO) (y1:Int) (s2:Int×Int×(List vT)):Option ((Int×Int×(List vT))⊕(Int×(List vT))) :=
 if decide (0<s2.1) then
 (zCm (y0.1,s2.2.1) y1).bind fun r2 =>
 (zJm (y0.1,r2.2) ([1,2,2,2,3]:List Int)).bind fun r3 =>
 (zJn (y0.1,r3.2) ([[],[],[97,110,110],[98,111,98]]:List qD)).bind fun r4 =>
 (
 if r3.1==2 then
 (tF (y0.1,r4.2) 4).bind fun r5 =>
 some (r5.2,r5.1)
 else
 some (r4.2,0):Option (Int×Int)).bind fun s3 =>
 (zU (zEc s2 r2) (false,0):Option Bool).bind fun s4 =>
 if !s4 then
 (wE s2.2.2 ([(r2.1,r3.1,s3.2,r4.1)]:List vT)).bind fun x2 =>
 some (.inl (zS (s2.1-1),s3.1,x2))
 else
 some (.inl (zS (s2.1-1),s3.1,s2.2.2))
 else
 some (.inr (s2.2.1,s2.2.2))
def zHS (y0:uO) (y1:Int) (y3:Int) (s7:Int×Int×(List qL)):Option ((Int×Int×(List qL))⊕(Int×(List qL))) :=
 if decide (0<s7.1) then
 (zFc (len s7.2.2)).bind fun r7 =>
 (tF (y0.1,s7.2.1) 3).bind fun r8 =>
 (zGS (y0.1,r8.2) 2 y1).bind fun r9 =>
 (zLZ r9.1).bind fun r10 =>
 (zCm (y0.1,r9.2) y1).bind fun r11 =>
 (
 if !(r8.1==0) then
 (tF (y0.1,r11.2) 4).bind fun r12 =>
 some (r12.2,r12.1)
 else
 some (r11.2,0):Option (Int×Int)).bind fun s8 =>
 (
 (tF (y0.1,s8.1) 6).bind fun r13 =>
 if r13.1==5 then
 (tF (y0.1,r13.2) 4).bind fun r14 =>
 (tF (y0.1,r14.2) y3).bind fun r15 =>
 (zFc r15.1).bind fun r16 =>
 some (r15.2,decide (0<r14.1),r16)
 else
 some (r13.2,r11.1.1,r11.1.2):Option (Int×Bool×qD)).bind fun s9 =>
 (wE s7.2.2 ([(r7,r8.1==0,s8.2,r10,(s9.2.1,s9.2.2))]:List qL)).bind fun x3 =>
 some (.inl (zS (s7.1-1),s9.1,x3))
 else
 some (.inr (s7.2.1,s7.2.2))
def zHP (s6:Int×(List qL)) (y0:uO) (y1:Int) (s11:Int×Int×(List vQ)):Option ((Int×Int×(List vQ))⊕(Int×(List vQ))) :=
 if (decide (0<s11.1))&&(decide (0<(len s6.2))) then
 (
 (tF (y0.1,s11.2.1) (len s6.2)).bind fun r18 =>
 (zF s6.2 r18.1).bind fun x4 =>
 some (r18.2,x4):Option (Int×qL)).bind fun s12 =>
 if !s12.2.2.1 then
 (tF (y0.1,s12.1) 10).bind fun r20 =>
 (zCm (y0.1,r20.2) y1).bind fun r21 =>
 (wE s11.2.2 ([(s12.2.1,r20.1,r21.1)]:List vQ)).bind fun x6 =>
 some (.inl (zS (s11.1-1),r21.2,x6))
 else
 some (.inl (zS (s11.1-1),s12.1,s11.2.2))
 else
 some (.inr (s11.2.1,s11.2.2))
def zJi (y0:uO) (y1:Int) (y2:Int) (y3:Int):Option (zO×Int) :=
 (
 (tF y0 (zS (y2+1))).bind fun r1 =>
 zU (zHM y0 y1) (r1.1,r1.2,([]:List vT)):Option (Int×(List vT))).bind fun s1 =>
 (
 (tF (y0.1,s1.1) (zS (y3+1))).bind fun r6 =>
 zU (zHS y0 y1 y3) (r6.1,r6.2,([]:List qL)):Option (Int×(List qL))).bind fun s6 =>
 (
 (tF (y0.1,s6.1) 3).bind fun r17 =>
 zU (zHP s6 y0 y1) (r17.1,r17.2,([]:List vQ)):Option (Int×(List vQ))).bind fun s10 =>
 some ((s1.2,s6.2,s10.2),s10.1)
def zD8 (y0:zG):Option zG :=
 some (!y0.1,y0.2)
def zK1 (y0:List zG) (y1:zG) (s1:Int):Option (Int⊕Bool) :=
 if decide (s1<(len y0)) then
 (zF y0 s1).bind fun x1 =>
 if x1==y1 then
 some (.inr true)
 else
 some (.inl (zS (s1+1)))
 else
 some (.inr false)
def zKS (y0:List zG) (y1:zG):Option Bool :=
 zU (zK1 y0 y1) 0
def zEf (y0:List zG) (s1:Int):Option (Int⊕Bool) :=
 if decide (s1<(len y0)) then
 (zF y0 s1).bind fun x1 =>
 (zD8 x1).bind fun r1 =>
 (zKS y0 r1).bind fun r2 =>
 if r2 then
 some (.inr false)
 else
 some (.inl (zS (s1+1)))
 else
 some (.inr true)
def zJW (y0:List zG):Option Bool :=
 zU (zEf y0) 0
def zFQ (y0:qD) (s2:Int):Option (Int⊕Bool) :=
 if decide (s2<(len y0)) then
 (
 (tW y0 s2).bind fun x3 =>
 if decide (x3<97) then
 (tW y0 s2).bind fun x4 =>
 if decide (x4<48) then
 (tW y0 s2).bind fun x5 =>
 some (x5 != 95)
 else
 (tW y0 s2).bind fun x6 =>
 if decide (57<x6) then
 (tW y0 s2).bind fun x7 =>
 some (x7 != 95)
 else
 some false
 else
 (tW y0 s2).bind fun x8 =>
 if decide (122<x8) then
 (tW y0 s2).bind fun x9 =>
 if decide (x9<48) then
 (tW y0 s2).bind fun x10 =>
 some (x10 != 95)
 else
 (tW y0 s2).bind fun x11 =>
 if decide (57<x11) then
 (tW y0 s2).bind fun x12 =>
 some (x12 != 95)
 else
 some false
 else
 some false:Option Bool).bind fun s3 =>
 if s3 then
 some (.inr false)
 else
 some (.inl (zS (s2+1)))
 else
 some (.inr true)
def zCy (y0:qD):Option Bool :=
 (
 if decide ((len y0)<1) then
 some true
 else
 if decide (12<(len y0)) then
 some true
 else
 (tW y0 0).bind fun x1 =>
 if decide (x1<97) then
 some true
 else
 (tW y0 0).bind fun x2 =>
 some (decide (122<x2)):Option Bool).bind fun s1 =>
 if s1 then
 some false
 else
 zU (zFQ y0) 0
def zEn (y0:zG):Option Bool :=
 (zCy y0.2).bind fun r1 =>
 some r1
def zJV (y0:zO) (y1:qD) (s1:Int):Option (Int⊕Int) :=
 if decide (s1<(len y0.2.1)) then
 (zF y0.2.1 s1).bind fun x1 =>
 if x1.1==y1 then
 some (.inr s1)
 else
 some (.inl (zS (s1+1)))
 else
 some (.inr (-1))
def zKj (y0:zO) (y1:qD):Option Int :=
 zU (zJV y0 y1) 0
def zHV (y0:zO) (y1:zG) (s1:Int):Option (Int⊕Int) :=
 if decide (s1<(len y0.1)) then
 (zF y0.1 s1).bind fun x1 =>
 if x1.1==y1 then
 some (.inr s1)
 else
 some (.inl (zS (s1+1)))
 else
 some (.inr (-1))
def zMA (y0:zO) (y1:zG):Option Int :=
 zU (zHV y0 y1) 0
def zHo (y0:Int):Option Bool :=
 some ((decide (0≤y0))&&(decide (y0≤9)))
def zJg (y0:vT):Option Int :=
 if (decide (y0.2.1<1))||(decide (3<y0.2.1)) then
 some 4
 else
 (
 (zEn y0.1).bind fun r1 =>
 if !r1 then
 some true
 else
 (zHo y0.2.2.1).bind fun r2 =>
 if !r2 then
 some true
 else
 if y0.2.1 != 2 then
 if y0.2.2.1 != 0 then
 some true
 else
 if !(y0.2.2.2==[]) then
 (zCy y0.2.2.2).bind fun r3 =>
 some (!r3)
 else
 some false
 else
 if !(y0.2.2.2==[]) then
 (zCy y0.2.2.2).bind fun r4 =>
 some (!r4)
 else
 some false:Option Bool).bind fun s1 =>
 if s1 then
 some 1
 else
 some 0
def zH7 (y0:zG) (y1:zG):Option Int :=
 if y0==y1 then
 some 0
 else
 if (uN y0.2 y1.2)||((y0.2==y1.2)&&y1.1) then
 some (-1)
 else
 some 1
def zJq (y0:qL) (s3:Bool×Int):Option ((Bool×Int)⊕Bool) :=
 if decide (s3.2<(len y0.2.2.2.1)) then
 (
 if s3.1 then
 (zF y0.2.2.2.1 s3.2).bind fun x1 =>
 (zEn x1).bind fun r5 =>
 some r5
 else
 some false:Option Bool).bind fun s4 =>
 some (.inl (s4,zS (s3.2+1)))
 else
 some (.inr s3.1)
def zJZ (y0:qL) (s5:Int):Option (Int⊕Int) :=
 if decide (s5<(len y0.2.2.2.1)) then
 (zF y0.2.2.2.1 (zS (s5-1))).bind fun x2 =>
 (zF y0.2.2.2.1 s5).bind fun x3 =>
 (zH7 x2 x3).bind fun r6 =>
 if decide (0≤r6) then
 some (.inr 8)
 else
 some (.inl (zS (s5+1)))
 else
 some (.inr 0)
def zMa (y0:qL):Option Int :=
 if decide (4<(len y0.2.2.2.1)) then
 some 2
 else
 (
 (zCy y0.1).bind fun r1 =>
 if r1 then
 (zHo y0.2.2.1).bind fun r2 =>
 if r2 then
 if !y0.2.1 then
 (zEn y0.2.2.2.2).bind fun r3 =>
 some r3
 else
 if y0.2.2.1==0 then
 (zEn y0.2.2.2.2).bind fun r4 =>
 some r4
 else
 some false
 else
 some false
 else
 some false:Option Bool).bind fun s1 =>
 (zU (zJq y0) (s1,0):Option Bool).bind fun s2 =>
 if !s2 then
 some 1
 else
 zU (zJZ y0) 1
def zG9 (y0:zO) (s2:Int):Option (Int⊕(Unit⊕Int)) :=
 if decide (s2<(len y0.1)) then
 (zF y0.1 s2).bind fun x1 =>
 (zJg x1).bind fun r1 =>
 if r1 != 0 then
 some (.inr (.inr r1))
 else
 (zF y0.1 s2).bind fun x2 =>
 (zMA y0 x2.1).bind fun r2 =>
 if decide (r2<s2) then
 some (.inr (.inr 5))
 else
 some (.inl (zS (s2+1)))
 else
 some (.inr (.inl ()))
def zGU (y0:zO) (s4:Int):Option (Int⊕(Unit⊕Int)) :=
 if decide (s4<(len y0.2.1)) then
 (zF y0.2.1 s4).bind fun x3 =>
 (zMa x3).bind fun r3 =>
 if r3 != 0 then
 some (.inr (.inr r3))
 else
 (zF y0.2.1 s4).bind fun x4 =>
 (zKj y0 x4.1).bind fun r4 =>
 if decide (r4<s4) then
 some (.inr (.inr 5))
 else
 some (.inl (zS (s4+1)))
 else
 some (.inr (.inl ()))
def zGG (y0:zO) (s5:Int):Option (Int⊕Int) :=
 if decide (s5<(len y0.2.2)) then
 (zF y0.2.2 s5).bind fun x5 =>
 (
 (zHo x5.2.1).bind fun r5 =>
 if !r5 then
 some true
 else
 (zEn x5.2.2).bind fun r6 =>
 some (!r6):Option Bool).bind fun s6 =>
 if s6 then
 some (.inr 1)
 else
 (zKj y0 x5.1).bind fun r7 =>
 if decide (r7<0) then
 some (.inr 6)
 else
 (zF y0.2.1 r7).bind fun x6 =>
 if x6.2.1 then
 some (.inr 4)
 else
 some (.inl (zS (s5+1)))
 else
 some (.inr 0)
def zDb (y0:zO):Option Int :=
 if (decide (16<(len y0.1)))||((decide (24<(len y0.2.1)))||(decide (8<(len y0.2.2)))) then
 some 2
 else
 yD (zU (zG9 y0) 0:Option (Unit⊕Int)) fun _ =>
 yD (zU (zGU y0) 0:Option (Unit⊕Int)) fun _ =>
 zU (zGG y0) 0
def zFj (y0:List zG) (y1:zG) (s2:Int):Option (Int⊕Int) :=
 (
 if decide (s2<(len y0)) then
 (zF y0 s2).bind fun x1 =>
 (zH7 x1 y1).bind fun r1 =>
 some (decide (r1<0))
 else
 some false:Option Bool).bind fun s3 =>
 if s3 then
 some (.inl (zS (s2+1)))
 else
 some (.inr s2)
def zHB (y0:List zG) (y1:zG):Option (List zG) :=
 (zU (zFj y0 y1) 0:Option Int).bind fun s1 =>
 (
 if decide (s1<(len y0)) then
 (zF y0 s1).bind fun x2 =>
 some (x2==y1)
 else
 some false:Option Bool).bind fun s4 =>
 if s4 then
 some y0
 else
 (sub y0 0 s1).bind fun x3 =>
 (wE ([]:List zG) x3).bind fun x4 =>
 (sub y0 s1 (len y0)).bind fun x5 =>
 (wE x4 ([y1]:List zG)).bind fun x6 =>
 (wE x6 x5).bind fun x7 =>
 some x7
def zIK (y0:zO) (s1:(List zG)×Int):Option (((List zG)×Int)⊕(List zG)) :=
 if decide (s1.2<(len y0.1)) then
 (zF y0.1 s1.2).bind fun x1 =>
 if x1.2.1==1 then
 (zF y0.1 s1.2).bind fun x2 =>
 (zHB s1.1 x2.1).bind fun r1 =>
 some (.inl (r1,zS (s1.2+1)))
 else
 some (.inl (s1.1,zS (s1.2+1)))
 else
 some (.inr s1.1)
def zK4 (y0:zO):Option (List zG) :=
 zU (zIK y0) (([]:List zG),0)
def zUU (y0:List zG) (y1:List zG) (s1:Int):Option (Int⊕Bool) :=
 if decide (s1<(len y0)) then
 (zF y0 s1).bind fun x1 =>
 (zF y1 s1).bind fun x2 =>
 if !(x1==x2) then
 some (.inr false)
 else
 some (.inl (zS (s1+1)))
 else
 some (.inr true)
def zMc (y0:List zG) (y1:List zG):Option Bool :=
 if (len y0) != (len y1) then
 some false
 else
 zU (zUU y0 y1) 0
def zLE (y0:zO) (y1:qL) (s1:Int):Option (Int⊕Bool) :=
 if decide (s1<(len y0.2.1)) then
 (zF y0.2.1 s1).bind fun x1 =>
 (
 if x1.2.1 then
 if x1.2.2.2.2==y1.2.2.2.2 then
 (zMc x1.2.2.2.1 y1.2.2.2.1).bind fun r1 =>
 some r1
 else
 some false
 else
 some false:Option Bool).bind fun s2 =>
 if s2 then
 some (.inr true)
 else
 some (.inl (zS (s1+1)))
 else
 some (.inr false)
def zLX (y0:zO) (y1:qL):Option Bool :=
 zU (zLE y0 y1) 0
def zIP (y0:List zG) (s1:(List zG)×Int):Option (((List zG)×Int)⊕(List zG)) :=
 if decide (s1.2<(len y0)) then
 (zF y0 s1.2).bind fun x1 =>
 (zHB s1.1 x1).bind fun r1 =>
 some (.inl (r1,zS (s1.2+1)))
 else
 some (.inr s1.1)
def zKa (y0:List zG):Option (List zG) :=
 zU (zIP y0) (([]:List zG),0)
def zFS (y0:qL) (y1:Int) (s2:(List zG)×Int):Option (((List zG)×Int)⊕(List zG)) :=
 if decide (s2.2<(len y0.2.2.2.1)) then
 (zF y0.2.2.2.1 s2.2).bind fun x1 =>
 (zF y0.2.2.2.1 y1).bind fun x2 =>
 if !(x1==x2) then
 (zF y0.2.2.2.1 s2.2).bind fun x3 =>
 (wE s2.1 ([x3]:List zG)).bind fun x4 =>
 some (.inl (x4,zS (s2.2+1)))
 else
 some (.inl (s2.1,zS (s2.2+1)))
 else
 some (.inr s2.1)
def zFb (y0:qL) (y1:Int):Option qL :=
 (zU (zFS y0 y1) (([]:List zG),0):Option (List zG)).bind fun s1 =>
 (zD8 y0.2.2.2.2).bind fun r1 =>
 (wE s1 ([r1]:List zG)).bind fun x5 =>
 (zF y0.2.2.2.1 y1).bind fun x6 =>
 (zKa x5).bind fun r2 =>
 (zD8 x6).bind fun r3 =>
 some ([],true,0,r2,r3)
def zIS (x1:qL) (y0:zO) (s1:Int) (s2:Int):Option (Int⊕(Int⊕Bool)) :=
 if (decide (s2<(len x1.2.2.2.1)))&&x1.2.1 then
 (zFb x1 s2).bind fun r1 =>
 (zLX y0 r1).bind fun r2 =>
 if !r2 then
 some (.inr (.inr false))
 else
 some (.inl (zS (s2+1)))
 else
 some (.inr (.inl (zS (s1+1))))
def zIB (y0:zO) (s1:Int):Option (Int⊕Bool) :=
 if decide (s1<(len y0.2.1)) then
 (zF y0.2.1 s1).bind fun x1 =>
 zU (zIS x1 y0 s1) 0
 else
 some (.inr true)
def zK7 (y0:zO):Option Bool :=
 zU (zIB y0) 0
def zMx (y1:List zG) (y0:List zG) (s1:Int):Option (Int⊕Bool) :=
 if decide (s1<(len y1)) then
 (zF y1 s1).bind fun x1 =>
 (zKS y0 x1).bind fun r1 =>
 if !r1 then
 some (.inr false)
 else
 some (.inl (zS (s1+1)))
 else
 some (.inr true)
def zQd (y0:List zG) (y1:List zG):Option Bool :=
 zU (zMx y1 y0) 0
def zEk (y0:zO) (s2:(List zG)×Bool×Int):Option (((List zG)×Bool×Int)⊕(((List zG)×Bool)⊕(List zG))) :=
 if decide (s2.2.2<(len y0.2.1)) then
 (zF y0.2.1 s2.2.2).bind fun x1 =>
 (
 if x1.2.1 then
 (zQd s2.1 x1.2.2.2.1).bind fun r2 =>
 if r2 then
 (zKS s2.1 x1.2.2.2.2).bind fun r3 =>
 some (!r3)
 else
 some false
 else
 some false:Option Bool).bind fun s3 =>
 if s3 then
 (zHB s2.1 x1.2.2.2.2).bind fun r4 =>
 some (.inl (r4,true,zS (s2.2.2+1)))
 else
 some (.inl (s2.1,s2.2.1,zS (s2.2.2+1)))
 else
 some (.inr (.inl (s2.1,s2.2.1)))
def zJp (y0:zO) (s1:(List zG)×Bool):Option (((List zG)×Bool)⊕(List zG)) :=
 if s1.2 then
 zU (zEk y0) (s1.1,false,0)
 else
 some (.inr s1.1)
def zJb (y0:zO) (y1:List zG):Option (List zG) :=
 (zKa y1).bind fun r1 =>
 zU (zJp y0) (r1,true)
def zLW (y0:zO):Option Bool :=
 (
 (zDb y0).bind fun r1 =>
 if r1==0 then
 (zK7 y0).bind fun r2 =>
 if r2 then
 (zK4 y0).bind fun r3 =>
 (zJb y0 r3).bind fun r4 =>
 (zJW r4).bind fun r5 =>
 some r5
 else
 some false
 else
 some false:Option Bool).bind fun s1 =>
 some s1
def zJf (y0:zO) (s3:Int×(List qL)):Option ((Int×(List qL))⊕(List qL)) :=
 if decide (s3.1<(len y0.2.1)) then
 (zF y0.2.1 s3.1).bind fun x27 =>
 (wE ([]:List zG) x27.2.2.2.1).bind fun x28 =>
 (wE s3.2 ([(x27.1,x27.2.1,x27.2.2.1,x28,x27.2.2.2.2)]:List qL)).bind fun x29 =>
 some (.inl (zS (s3.1+1),x29))
 else
 some (.inr s3.2)
def zM1 (y0:zO):Option zO :=
 (
 (wE ([]:List vT) y0.1).bind fun x1 =>
 (wE ([]:List vQ) y0.2.2).bind fun x2 =>
 some (x1,([]:List qL),x2):Option zO).bind fun s1 =>
 (zU (zJf y0) (0,s1.2.1):Option (List qL)).bind fun s2 =>
 some (s1.1,s2,s1.2.2)
def zFv (rec_ref06_decimal:Int->Option qD) (y0:Int):Option qD :=
 if decide (y0<10) then
 (sub [48,49,50,51,52,53,54,55,56,57] y0 (zS (y0+1))).bind fun x1 =>
 some x1
 else
 (z5U .i64 y0 10).bind fun x2 =>
 (z5L y0 10).bind fun x3 =>
 (z5L y0 10).bind fun x4 =>
 (sub [48,49,50,51,52,53,54,55,56,57] x3 (zS (x4+1))).bind fun x5 =>
 (rec_ref06_decimal x2).bind fun r1 =>
 (cat r1 x5).bind fun x6 =>
 some x6
def zEL:Nat->Int->Option qD
 | 0=>fun _=>none
 | k+1=>fun y0=>zFv (zEL k) y0
def zJ2 (y0:Int):Option qD:=zZV fun k=>zEL k y0
def zJr (y0:zO) (s2:Int):Option (Int⊕Int) :=
 (zJ2 s2).bind fun r1 =>
 (cat [116] r1).bind fun x1 =>
 (zKj y0 x1).bind fun r2 =>
 if decide (0≤r2) then
 some (.inl (zS (s2+1)))
 else
 some (.inr s2)
def zMh (y0:zO):Option qD :=
 (zU (zJr y0) 1:Option Int).bind fun s1 =>
 (zJ2 s1).bind fun r3 =>
 (cat [116] r3).bind fun x2 =>
 some x2
def zFP (x1:qL) (r2:zO) (s2:Int×(List qL)) (s3:Int×(List qL)):Option ((Int×(List qL))⊕((Int×(List qL))⊕((List qL)⊕(zO×Int)))) :=
 if (decide (s3.1<(len x1.2.2.2.1)))&&x1.2.1 then
 (zFb x1 s3.1).bind fun r3 =>
 (zLX (r2.1,s3.2,r2.2.2) r3).bind fun r4 =>
 if r4 then
 some (.inl (zS (s3.1+1),s3.2))
 else
 if (len s3.2)==24 then
 some (.inr (.inr (.inr ((([]:List vT),([]:List qL),([]:List vQ)),2))))
 else
 (zMh (r2.1,s3.2,r2.2.2)).bind fun r5 =>
 (wE s3.2 ([(r5,r3.2.1,r3.2.2.1,r3.2.2.2.1,r3.2.2.2.2)]:List qL)).bind fun x2 =>
 some (.inl (zS (s3.1+1),x2))
 else
 some (.inr (.inl (zS (s2.1+1),s3.2)))
def zFT (r2:zO) (s2:Int×(List qL)):Option ((Int×(List qL))⊕((List qL)⊕(zO×Int))) :=
 if decide (s2.1<(len s2.2)) then
 (zF s2.2 s2.1).bind fun x1 =>
 zU (zFP x1 r2 s2) (0,s2.2)
 else
 some (.inr (.inl s2.2))
def zIJ (y0:zO):Option (zO×Int) :=
 (zDb y0).bind fun r1 =>
 if r1 != 0 then
 some ((([]:List vT),([]:List qL),([]:List vQ)),r1)
 else
 (zM1 y0).bind fun r2 =>
 yD (zU (zFT r2) (0,r2.2.1):Option ((List qL)⊕(zO×Int))) fun s1 =>
 some ((r2.1,s1,r2.2.2),0)
def zF8 (y0:List Int) (y1:Int) (s2:Int):Option (Int⊕Int) :=
 (
 if decide (s2<(len y0)) then
 (zF y0 s2).bind fun x1 =>
 some (decide (x1<y1))
 else
 some false:Option Bool).bind fun s3 =>
 if s3 then
 some (.inl (zS (s2+1)))
 else
 some (.inr s2)
def zIh (y0:List Int) (y1:Int):Option (List Int) :=
 (zU (zF8 y0 y1) 0:Option Int).bind fun s1 =>
 (
 if decide (s1<(len y0)) then
 (zF y0 s1).bind fun x2 =>
 some (x2==y1)
 else
 some false:Option Bool).bind fun s4 =>
 if s4 then
 some y0
 else
 (sub y0 0 s1).bind fun x3 =>
 (wE ([]:List Int) x3).bind fun x4 =>
 (sub y0 s1 (len y0)).bind fun x5 =>
 (wE x4 ([y1]:List Int)).bind fun x6 =>
 (wE x6 x5).bind fun x7 =>
 some x7
def zIp (y1:List Int) (s1:(List Int)×Int):Option (((List Int)×Int)⊕(List Int)) :=
 if decide (s1.2<(len y1)) then
 (zF y1 s1.2).bind fun x1 =>
 (zIh s1.1 x1).bind fun r1 =>
 some (.inl (r1,zS (s1.2+1)))
 else
 some (.inr s1.1)
def zNm (y0:List Int) (y1:List Int):Option (List Int) :=
 zU (zIp y1) (y0,0)
def zJ9 (y0:List zI) (y1:Int) (rec_ref07_Subs:(List zI)->Int->Option (List Int)) (s1:(List Int)×Int):Option (((List Int)×Int)⊕(List Int)) :=
 (zF y0 y1).bind fun x1 =>
 if decide (s1.2<(len x1.2.2.1)) then
 (zF y0 y1).bind fun x2 =>
 (zF x2.2.2.1 s1.2).bind fun x3 =>
 (rec_ref07_Subs y0 x3).bind fun r1 =>
 (zNm s1.1 r1).bind fun r2 =>
 some (.inl (r2,zS (s1.2+1)))
 else
 some (.inr s1.1)
def zMb (rec_ref07_Subs:(List zI)->Int->Option (List Int)) (y0:List zI) (y1:Int):Option (List Int) :=
 if (decide (y1<0))||(decide ((len y0)≤y1)) then
 some ([]:List Int)
 else
 zU (zJ9 y0 y1 rec_ref07_Subs) (([y1]:List Int),0)
def zHi:Nat->(List zI)->Int->Option (List Int)
 | 0=>fun _ _=>none
 | k+1=>fun y0 y1=>zMb (zHi k) y0 y1
def zPZ (y0:List zI) (y1:Int):Option (List Int):=zZV fun k=>zHi k y0 y1
def zEt (r1:(List Int)) (y1:List zI) (y0:zO) (s1:(List Int)×Int):Option (((List Int)×Int)⊕(List Int)) :=
 if decide (s1.2<(len r1)) then
 (zF r1 s1.2).bind fun x1 =>
 (
 (zF y1 x1).bind fun x2 =>
 if decide (0≤x2.2.1) then
 (zF y1 x1).bind fun x3 =>
 (zF y0.2.1 x3.2.1).bind fun x4 =>
 some (!x4.2.1)
 else
 some false:Option Bool).bind fun s2 =>
 if s2 then
 (zF y1 x1).bind fun x5 =>
 (zIh s1.1 x5.2.1).bind fun r2 =>
 some (.inl (r2,zS (s1.2+1)))
 else
 some (.inl (s1.1,zS (s1.2+1)))
 else
 some (.inr s1.1)
def zEg (y0:zO) (y1:List zI) (y2:Int):Option (List Int) :=
 (zPZ y1 y2).bind fun r1 =>
 zU (zEt r1 y1 y0) (([]:List Int),0)
def zEw (y1:List zI) (y2:Int) (rec_ref07_Run:zO->(List zI)->Int->Option (List zG)) (y0:zO) (s2:(List zG)×Int):Option (((List zG)×Int)⊕(List zG)) :=
 (zF y1 y2).bind fun x5 =>
 if decide (s2.2<(len x5.2.2.1)) then
 (zF y1 y2).bind fun x6 =>
 (zF x6.2.2.1 s2.2).bind fun x7 =>
 (rec_ref07_Run y0 y1 x7).bind fun r1 =>
 (wE s2.1 r1).bind fun x8 =>
 some (.inl (x8,zS (s2.2+1)))
 else
 some (.inr s2.1)
def zGa (rec_ref07_Run:zO->(List zI)->Int->Option (List zG)) (y0:zO) (y1:List zI) (y2:Int):Option (List zG) :=
 (zF y1 y2).bind fun x1 =>
 (
 (zF y1 y2).bind fun x2 =>
 if decide (0≤x2.2.1) then
 (zF y1 y2).bind fun x3 =>
 (zF y0.2.1 x3.2.1).bind fun x4 =>
 some x4.2.1
 else
 some false:Option Bool).bind fun s1 =>
 if s1 then
 zU (zEw y1 y2 rec_ref07_Run y0) (([x1.2.2.2]:List zG),0)
 else
 some ([x1.2.2.2]:List zG)
def zBx:Nat->zO->(List zI)->Int->Option (List zG)
 | 0=>fun _ _ _=>none
 | k+1=>fun y0 y1 y2=>zGa (zBx k) y0 y1 y2
def zKQ (y0:zO) (y1:List zI) (y2:Int):Option (List zG):=zZV fun k=>zBx k y0 y1 y2
def zL8 (y0:List Int) (y1:Int) (s1:Int):Option (Int⊕Bool) :=
 if decide (s1<(len y0)) then
 (zF y0 s1).bind fun x1 =>
 if x1==y1 then
 some (.inr true)
 else
 some (.inl (zS (s1+1)))
 else
 some (.inr false)
def zPz (y0:List Int) (y1:Int):Option Bool :=
 zU (zL8 y0 y1) 0
def zIN (y3:List Int) (x1:qL) (y0:zO) (y1:List zI) (y2:Int) (s1:Int):Option (Int⊕Bool) :=
 if decide (s1<(len y3)) then
 (
 if x1.2.1 then
 (zF y3 s1).bind fun x2 =>
 (zKQ y0 y1 x2).bind fun r1 =>
 (zKS r1 x1.2.2.2.2).bind fun r2 =>
 if r2 then
 some true
 else
 if !x1.2.1 then
 (zF y3 s1).bind fun x3 =>
 (zEg y0 y1 x3).bind fun r3 =>
 (zPz r3 y2).bind fun r4 =>
 some r4
 else
 some false
 else
 if !x1.2.1 then
 (zF y3 s1).bind fun x4 =>
 (zEg y0 y1 x4).bind fun r5 =>
 (zPz r5 y2).bind fun r6 =>
 some r6
 else
 some false:Option Bool).bind fun s2 =>
 if s2 then
 some (.inr false)
 else
 some (.inl (zS (s1+1)))
 else
 some (.inr true)
def zGz (y0:zO) (y1:List zI) (y2:Int) (y3:List Int):Option Bool :=
 (zF y0.2.1 y2).bind fun x1 =>
 zU (zIN y3 x1 y0 y1 y2) 0
def zFX (y1:Int) (y0:List zI) (y2:List zG) (y3:List Int) (rec_ref07_choices_2:(List zI)->Int->(List zG)->(List Int)->Option (List (List Int))) (s1:(List (List Int))×Int):Option (((List (List Int))×Int)⊕(List (List Int))) :=
 if decide (s1.2<y1) then
 (zF y0 s1.2).bind fun x2 =>
 (zF y2 (len y3)).bind fun x3 =>
 if x2.2.2.2==x3 then
 (sub y3 0 (len y3)).bind fun x4 =>
 (wE x4 ([s1.2]:List Int)).bind fun x5 =>
 (rec_ref07_choices_2 y0 y1 y2 x5).bind fun r1 =>
 (wE s1.1 r1).bind fun x6 =>
 some (.inl (x6,zS (s1.2+1)))
 else
 some (.inl (s1.1,zS (s1.2+1)))
 else
 some (.inr s1.1)
def zIA (rec_ref07_choices_2:(List zI)->Int->(List zG)->(List Int)->Option (List (List Int))) (y0:List zI) (y1:Int) (y2:List zG) (y3:List Int):Option (List (List Int)) :=
 if (len y3)==(len y2) then
 (wE ([]:List Int) y3).bind fun x1 =>
 some ([x1]:List (List Int))
 else
 zU (zFX y1 y0 y2 y3 rec_ref07_choices_2) (([]:List (List Int)),0)
def zDB:Nat->(List zI)->Int->(List zG)->(List Int)->Option (List (List Int))
 | 0=>fun _ _ _ _=>none
 | k+1=>fun y0 y1 y2 y3=>zIA (zDB k) y0 y1 y2 y3
def zKT (y0:List zI) (y1:Int) (y2:List zG) (y3:List Int):Option (List (List Int)):=zZV fun k=>zDB k y0 y1 y2 y3
def zHx (y0:List Int) (y1:Int) (s1:Int):Option (Int⊕Bool) :=
 if decide (s1<(len y0)) then
 (zF y0 s1).bind fun x1 =>
 if decide (y1≤x1) then
 some (.inr true)
 else
 some (.inl (zS (s1+1)))
 else
 some (.inr false)
def zNC (y0:List Int) (y1:Int):Option Bool :=
 zU (zHx y0 y1) 0
def zGr (y0:zO) (s2:(List zI)×Int):Option (((List zI)×Int)⊕(List zI)) :=
 if decide (s2.2<(len y0.1)) then
 (zF y0.1 s2.2).bind fun x1 =>
 (wE s2.1 ([(s2.2,(-1),([]:List Int),x1.1)]:List zI)).bind fun x2 =>
 some (.inl (x2,zS (s2.2+1)))
 else
 some (.inr s2.1)
def zGk (r2:(List (List Int))) (s3:(List zI)×Int×Int) (y0:zO) (s4:(List zI)×Int) (s5:(List zI)×Int):Option (((List zI)×Int)⊕(((List zI)×Int)⊕(((List zI)×Int×Int)⊕((List zI)×Int)))) :=
 if decide (s5.2<(len r2)) then
 (zF r2 s5.2).bind fun x4 =>
 (
 (zNC x4 s3.2.1).bind fun r3 =>
 if !r3 then
 if decide (1<s3.2.2) then
 some true
 else
 if decide (0<(len x4)) then
 some true
 else
 (zGz y0 s5.1 s4.2 x4).bind fun r4 =>
 some (!r4)
 else
 (zGz y0 s5.1 s4.2 x4).bind fun r5 =>
 some (!r5):Option Bool).bind fun s6 =>
 if s6 then
 some (.inl (s5.1,zS (s5.2+1)))
 else
 (zF y0.2.1 s4.2).bind fun x5 =>
 (wE s5.1 ([((-1),s4.2,x4,x5.2.2.2.2)]:List zI)).bind fun x6 =>
 if decide (40<(len x6)) then
 some (.inr (.inr (.inr (([]:List zI),2))))
 else
 some (.inl (x6,zS (s5.2+1)))
 else
 some (.inr (.inl (s5.1,zS (s4.2+1))))
def zGh (y0:zO) (s3:(List zI)×Int×Int) (s4:(List zI)×Int):Option (((List zI)×Int)⊕(((List zI)×Int×Int)⊕((List zI)×Int))) :=
 if decide (s4.2<(len y0.2.1)) then
 (zF y0.2.1 s4.2).bind fun x3 =>
 (zKT s4.1 (len s3.1) x3.2.2.2.1 ([]:List Int)).bind fun r2 =>
 zU (zGk r2 s3 y0 s4) (s4.1,0)
 else
 some (.inr (.inl (s4.1,len s3.1,zS (s3.2.2+1))))
def zE5 (y0:zO) (s3:(List zI)×Int×Int):Option (((List zI)×Int×Int)⊕((List zI)×Int)) :=
 if (s3.2.2==1)||(decide (s3.2.1<(len s3.1))) then
 zU (zGh y0 s3) (s3.1,0)
 else
 some (.inr (s3.1,0))
def zDp (y0:zO):Option ((List zI)×Int) :=
 (zDb y0).bind fun r1 =>
 if r1 != 0 then
 some (([]:List zI),r1)
 else
 (zU (zGr y0) (([]:List zI),0):Option (List zI)).bind fun s1 =>
 zU (zE5 y0) (s1,0,1)
def zLH (r1:zO×Int) (s1:(List qL)×(List vQ)):Option (((List qL)×(List vQ))⊕(zO×Bool×Int)) :=
 (zIJ (r1.1.1,s1.1,s1.2)).bind fun r2 =>
 (zDp r2.1).bind fun r3 =>
 (
 if r2.2==0 then
 if r3.2==0 then
 (zLW r2.1).bind fun r4 =>
 if r4 then
 some (decide ((len r3.1)≤16))
 else
 some false
 else
 some false
 else
 some false:Option Bool).bind fun s2 =>
 if s2 then
 some (.inr (r2.1,true,r1.2))
 else
 if (len s1.1)==0 then
 some (.inr ((r1.1.1,s1.1,([]:List vQ)),false,r1.2))
 else
 (sub s1.1 0 (zS ((len s1.1)-1))).bind fun x1 =>
 some (.inl (x1,([]:List vQ)))
def zL6 (y0:uO) (y1:Int):Option (zO×Bool×Int) :=
 (zJi y0 y1 4 5).bind fun r1 =>
 zU (zLH r1) (r1.1.2.1,r1.1.2.2)
def zFA (r6:(List (List Int))×Int) (r5:zBu×Int) (s3:Int) (s4:Int):Option (Int⊕(Int⊕(Int⊕(Unit⊕Bool)))) :=
 if decide (s4<(len r6.1)) then
 (zF r6.1 s4).bind fun x2 =>
 (zEM r5.1 x2).bind fun r7 =>
 if decide (0<(len r7)) then
 some (.inr (.inr (.inr (.inr false))))
 else
 some (.inl (zS (s4+1)))
 else
 some (.inr (.inl (zS (s3+1))))
def zDF (r5:zBu×Int) (s2:Int) (s3:Int):Option (Int⊕(Int⊕(Unit⊕Bool))) :=
 if decide (s3≤7) then
 (zBT r5.1.2.2.2 s3).bind fun r6 =>
 if r6.2==2 then
 some (.inl (zS (s3+1)))
 else
 if r6.2 != 0 then
 some (.inr (.inr (.inr false)))
 else
 zU (zFA r6 r5 s3) 0
 else
 some (.inr (.inl (zS (s2+1))))
def zDE (r4:(List yN)) (r2:zO×Bool×Int) (s2:Int):Option (Int⊕(Unit⊕Bool)) :=
 if decide (s2<(len r4)) then
 (zF r4 s2).bind fun x1 =>
 (zDh r2.1 x1).bind fun r5 =>
 if r5.2 != 0 then
 some (.inr (.inr false))
 else
 zU (zDF r5 s2) 1
 else
 some (.inr (.inl ()))
def zEP (y0:List Int):Option Bool :=
 (zPu y0).bind fun r1 =>
 (zL6 r1 3).bind fun r2 =>
 if !r2.2.1 then
 zE9.bind fun r3 =>
 some r3
 else
 yD (
 zLK.bind fun r4 =>
 zU (zDE r4 r2) 0:Option (Unit⊕Bool)) fun _ =>
 zE9.bind fun r8 =>
 some r8
end
end Go.GD
