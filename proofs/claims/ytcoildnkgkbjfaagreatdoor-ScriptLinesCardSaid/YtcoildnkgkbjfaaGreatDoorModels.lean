/- A part. Conditions: none. -/
import Derived.Test.YtcoildnkgkbjfaaGreatDoorFrm
namespace Go.GD
set_option autoImplicit false
noncomputable section
set_option linter.unusedVariables false
abbrev zE:=Bool×zA
abbrev zOq:=Int×Int×Int×zE×(List zE)
abbrev zFm:=Int×Int×Int×Int
abbrev qZ:=Int×Int×Int×Int×zA×zOq×zE×(Int×Int)×zFm×zC
abbrev vJ:=zA×Bool×Bool×qZ
abbrev qR:=zA×Int×Int×Bool
abbrev zAr:=zA×zA×Int
abbrev zAQ:=qZ×(List zA)×Bool
abbrev vH:=(List Int)×Int
abbrev zAm:=Int×Int
abbrev yD:=zE×Int×Int×zA
abbrev qW:=zA×Bool×Int×(List zE)×zE
abbrev yF:=zA×Int×zE
abbrev zX:=(List yD)×(List qW)×(List yF)
abbrev zCu:=(List zA)×Int×zAm×zX
abbrev zB0:=zE×Bool×Bool×(List zE)
abbrev wU:=Int×Int
abbrev uF:=Int×(List wU)
abbrev xU:=uF×Int×(Int×Int)×(List zFm)
abbrev zOd:=zE×xU
abbrev zGV:=zE×Bool×uF×Int×(List Int)×(List Int)
abbrev zNU:=(List zA)×(List Int)
abbrev zGd:=zCu×zX×(List (List zB0))×(List zOd)×(List zGV)×zNU×Int
abbrev zU:=Int×Int×(List Int)×zE
abbrev wN:=Int×Int×Int×Int
abbrev zCQ:=zX×(List zU)×(List wN)×uF
abbrev zVq:=Int×Int
abbrev wK:=zA×Int×Int
def zA0:List zA:=[[],[],[],[],[],[32,38,32],[32,124,32],[32,45,62,32],[32,60,45,62,32]]
def zHF (y0:Int)(y1:Int): Option Int :=
 if decide (y1<1) then
 some 0
 else
 (z4q y0 y1).bind fun x1 =>
 if decide (x1<0) then
 some (zF (x1+y1))
 else
 some x1
def zMR (y0:List Int): Option vH :=
 (sub y0 0 (if 2000<(len y0) then 2000 else len y0)).bind fun x1 =>
 some (x1,0)
def zC0 (y0:zA)(y1:zA): Option Int:=zZA y0 y1
def zCi (y0:zA)(y1:zA): Option (zA×zA×Bool) :=
 (zC0 y0 y1).bind fun r1 =>
 if decide (0≤r1) then
 (sub y0 0 r1).bind fun x1 =>
 (sub y0 (zF (r1+(len y1))) (len y0)).bind fun x2 =>
 some (x1,x2,true)
 else
 some (y0,[],false)
def zIA (y0:zA)(y1:zA): Option (zA×zA×Bool) :=
 (zCi y0 y1).bind fun r1 =>
 some (r1.1,r1.2.1,r1.2.2)
def zAv (y0:vJ): Option (zA×zA×Bool×Bool) :=
 (
 if y0.2.2.1 then
 some true
 else
 some y0.2.1:Option Bool).bind fun s1 =>
 (zIA y0.1 [32]).bind fun r1 =>
 some (r1.1,r1.2.1,!r1.2.2,s1)
def zJY (y0:zA): Option (Int×Bool):=z4t y0
def zC1 (y0:Int)(y1:Int): Option zA:=z4E y0 y1
def zDe (y0:Int): Option zA :=
 (zC1 y0 10).bind fun r1 =>
 some r1
def zEN (y0:Int): Option zA :=
 (zDe y0).bind fun r1 =>
 some r1
def xH (y0:vJ): Option (Int×zA×Bool×Bool) :=
 (zAv y0).bind fun r1 =>
 (zJY r1.1).bind fun r2 =>
 (
 if r1.2.2.2 then
 some true
 else
 if r2.2 then
 some true
 else
 (zEN r2.1).bind fun r3 =>
 if !(r3==r1.1) then
 some true
 else
 if decide (r2.1<0) then
 some true
 else
 some (decide (9999<r2.1)):Option Bool).bind fun s1 =>
 some (r2.1,r1.2.1,r1.2.2.1,s1)
def zCE (y0:vJ): Option (zA×zA×Bool×Bool) :=
 (
 if y0.2.2.1 then
 some true
 else
 some y0.2.1:Option Bool).bind fun s1 =>
 some (y0.1,[],true,s1)
def zCX (y0:vJ)(y1:Int): Option (zA×Bool×Bool×Int×zA) :=
 (zCE y0).bind fun r1 =>
 some (r1.2.1,r1.2.2.1,r1.2.2.2,y1,r1.1)
def zCM (y1:vJ): Option (zA×Bool×Bool×Int×zA) :=
 (zCX y1 1).bind fun r1 =>
 some (r1.1,r1.2.1,r1.2.2.1,r1.2.2.2.1,r1.2.2.2.2)
def zAw (y0:vJ)(y1:Int): Option (zA×Bool×Bool×Int×Int×Int×Int×Int×Int) :=
 (xH y0).bind fun r1 =>
 (xH (r1.2.1,r1.2.2.1,r1.2.2.2,(6,y0.2.2.2.2.1,r1.1,y0.2.2.2.2.2.2.1,y0.2.2.2.2.2.2.2.1,y0.2.2.2.2.2.2.2.2.1,y0.2.2.2.2.2.2.2.2.2.1,y0.2.2.2.2.2.2.2.2.2.2.1,y0.2.2.2.2.2.2.2.2.2.2.2.1,y0.2.2.2.2.2.2.2.2.2.2.2.2))).bind fun r2 =>
 (
 if y1==2 then
 (xH (r2.2.1,r2.2.2.1,r2.2.2.2,(6,y0.2.2.2.2.1,r1.1,y0.2.2.2.2.2.2.1,y0.2.2.2.2.2.2.2.1,y0.2.2.2.2.2.2.2.2.1,y0.2.2.2.2.2.2.2.2.2.1,y0.2.2.2.2.2.2.2.2.2.2.1,(r2.1,y1,0,0),y0.2.2.2.2.2.2.2.2.2.2.2.2))).bind fun r3 =>
 some (r3.2.1,r3.2.2.1,r3.2.2.2,r3.1)
 else
 some (r2.2.1,r2.2.2.1,r2.2.2.2,0):Option (zA×Bool×Bool×Int)).bind fun s1 =>
 if y1 != 4 then
 (xH (s1.1,s1.2.1,s1.2.2.1,(6,y0.2.2.2.2.1,r1.1,y0.2.2.2.2.2.2.1,y0.2.2.2.2.2.2.2.1,y0.2.2.2.2.2.2.2.2.1,y0.2.2.2.2.2.2.2.2.2.1,y0.2.2.2.2.2.2.2.2.2.2.1,(r2.1,y1,s1.2.2.2,0),y0.2.2.2.2.2.2.2.2.2.2.2.2))).bind fun r4 =>
 some (r4.2.1,r4.2.2.1,r4.2.2.2,6,r1.1,r2.1,y1,s1.2.2.2,r4.1)
 else
 some (s1.1,s1.2.1,s1.2.2.1,6,r1.1,r2.1,y1,s1.2.2.2,0)
def zBQ (y1:vJ): Option (zA×Bool×Bool×Int×Int×Int×Int×Int×Int) :=
 (zAw y1 2).bind fun r1 =>
 some (r1.1,r1.2.1,r1.2.2.1,r1.2.2.2.1,r1.2.2.2.2.1,r1.2.2.2.2.2.1,r1.2.2.2.2.2.2.1,r1.2.2.2.2.2.2.2.1,r1.2.2.2.2.2.2.2.2)
def zBW (y1:vJ): Option (zA×Bool×Bool×Int×Int×Int×Int×Int×Int) :=
 (zAw y1 3).bind fun r1 =>
 some (r1.1,r1.2.1,r1.2.2.1,r1.2.2.2.1,r1.2.2.2.2.1,r1.2.2.2.2.2.1,r1.2.2.2.2.2.2.1,r1.2.2.2.2.2.2.2.1,r1.2.2.2.2.2.2.2.2)
def zBU (y1:vJ): Option (zA×Bool×Bool×Int×Int×Int×Int×Int×Int) :=
 (zAw y1 4).bind fun r1 =>
 some (r1.1,r1.2.1,r1.2.2.1,r1.2.2.2.1,r1.2.2.2.2.1,r1.2.2.2.2.2.1,r1.2.2.2.2.2.2.1,r1.2.2.2.2.2.2.2.1,r1.2.2.2.2.2.2.2.2)
def zCg (y0:zA)(s1:Int): Option (Int⊕Bool) :=
 if decide (s1<(len y0)) then
 (vR y0 s1).bind fun x1 =>
 if(decide (97≤x1))&&(decide (x1≤122)) then
 some (.inl (zF (s1+1)))
 else
 if(decide (0<s1))&&(if decide (48≤x1) then(decide (x1≤57))||(x1==95) else x1==95) then
 some (.inl (zF (s1+1)))
 else
 some (.inr false)
 else
 some (.inr true)
def zBc (y0:zA): Option Bool :=
 if((len y0)==0)||(decide (12<(len y0))) then
 some false
 else
 zJ (zCg y0) 0
def zFC (y0:zE): Option Bool :=
 (zBc y0.2).bind fun r1 =>
 some r1
def zGq (y0:zA): Option (zE×Int) :=
 (
 (
 if decide (0<(len y0)) then
 (vR y0 0).bind fun x1 =>
 some (x1==126)
 else
 some false:Option Bool).bind fun s2 =>
 if s2 then
 (sub y0 1 (len y0)).bind fun x2 =>
 some (x2,true)
 else
 some (y0,false):Option (zA×Bool)).bind fun s1 =>
 (zFC (s1.2,s1.1)).bind fun r1 =>
 if !r1 then
 some ((false,[]),3)
 else
 some ((s1.2,s1.1),0)
def zA9 (y0:vJ): Option (zE×zA×Bool×Bool) :=
 (zAv y0).bind fun r1 =>
 (zGq r1.1).bind fun r2 =>
 (
 if r1.2.2.2 then
 some true
 else
 some (r2.2 != 0):Option Bool).bind fun s1 =>
 some (r2.1,r1.2.1,r1.2.2.1,s1)
def zBS (y1:vJ): Option (zA×Bool×Bool×Int×Int×Bool×zA) :=
 (xH y1).bind fun r1 =>
 (zA9 (r1.2.1,r1.2.2.1,r1.2.2.2,y1.2.2.2)).bind fun r2 =>
 some (r2.2.1,r2.2.2.1,r2.2.2.2,7,r1.1,r2.1.1,r2.1.2)
def zO0 (y0:zC)(rec_formula_Depth:zC->Option Int)(s1:Int×Int): Option ((Int×Int)⊕Int) :=
 if decide (s1.2<(len ((fv y0).2.2))) then
 (zD ((fv y0).2.2) s1.2).bind fun x1 =>
 (rec_formula_Depth x1).bind fun r1 =>
 some (.inl (if(zF (1+r1)) > s1.1 then zF (1+r1) else s1.1,zF (s1.2+1)))
 else
 some (.inr s1.1)
def zIc (rec_formula_Depth:zC->Option Int)(y0:zC): Option Int :=
 zJ (zO0 y0 rec_formula_Depth) (0,0)
def zDI:Nat->zC->Option Int
 | 0=>fun _=>none
 | k+1=>fun y0=>zIc (zDI k) y0
def zEw (y0:zC): Option Int:=yH fun k=>zDI k y0
def zPR (y0:zC)(rec_formula_Size:zC->Option Int)(s1:Int×Int): Option ((Int×Int)⊕Int) :=
 if decide (s1.2<(len ((fv y0).2.2))) then
 (zD ((fv y0).2.2) s1.2).bind fun x1 =>
 (rec_formula_Size x1).bind fun r1 =>
 some (.inl (zF (s1.1+r1),zF (s1.2+1)))
 else
 some (.inr s1.1)
def zJ1 (rec_formula_Size:zC->Option Int)(y0:zC): Option Int :=
 zJ (zPR y0 rec_formula_Size) (1,0)
def zES:Nat->zC->Option Int
 | 0=>fun _=>none
 | k+1=>fun y0=>zJ1 (zES k) y0
def zFp (y0:zC): Option Int:=yH fun k=>zES k y0
def zHJ (y0:Int): Option Bool :=
 some (if decide (97≤y0) then(decide (y0≤122))||(if decide (65≤y0) then(decide (y0≤90))||(if decide (48≤y0) then(decide (y0≤57))||(y0==95) else y0==95) else if decide (48≤y0) then(decide (y0≤57))||(y0==95) else y0==95) else if decide (65≤y0) then(decide (y0≤90))||(if decide (48≤y0) then(decide (y0≤57))||(y0==95) else y0==95) else if decide (48≤y0) then(decide (y0≤57))||(y0==95) else y0==95)
def zGR (y0:qR)(s2:Int): Option (Int⊕Int) :=
 (
 if decide (s2<(len y0.1)) then
 (vR y0.1 s2).bind fun x1 =>
 some (x1==32)
 else
 some false:Option Bool).bind fun s3 =>
 if s3 then
 some (.inl (zF (s2+1)))
 else
 some (.inr s2)
def zBJ (x2:zA)(s5:Int): Option (Int⊕Int) :=
 (
 if decide (s5<(len x2)) then
 (vR x2 s5).bind fun x3 =>
 (zHJ x3).bind fun r1 =>
 some r1
 else
 some false:Option Bool).bind fun s6 =>
 if s6 then
 some (.inl (zF (s5+1)))
 else
 some (.inr s5)
def zBe (x2:zA)(s1:Int)(s8:Int): Option (Int⊕(Unit⊕(zAr×Int))) :=
 if decide (s8<(len ([[60,45,62],[45,62],[126],[38],[124],[40],[41]]:List zA))) then
 (zD ([[60,45,62],[45,62],[126],[38],[124],[40],[41]]:List zA) s8).bind fun x5 =>
 (
 if decide ((len x5)≤(len x2)) then
 (sub x2 0 (len x5)).bind fun x6 =>
 some (x6==x5)
 else
 some false:Option Bool).bind fun s9 =>
 if s9 then
 some (.inr (.inr ((x5,x5,s1),s1)))
 else
 some (.inl (zF (s8+1)))
 else
 some (.inr (.inl ()))
def zAO (y0:qR): Option (zAr×Int) :=
 (zJ (zGR y0) y0.2.1:Option Int).bind fun s1 =>
 (sub y0.1 s1 (len y0.1)).bind fun x2 =>
 if x2==[] then
 some (([],[],len y0.1),s1)
 else
 (zJ (zBJ x2) 0:Option Int).bind fun s4 =>
 (sub x2 0 s4).bind fun x4 =>
 if(x4==[48])||(x4==[49]) then
 some ((x4,x4,s1),s1)
 else
 (zBc x4).bind fun r2 =>
 if r2 then
 some (([110,97,109,101],x4,s1),s1)
 else
 if decide (0<s4) then
 some (([63],x4,s1),s1)
 else
 uQ (zJ (zBe x2 s1) 0:Option (Unit⊕(zAr×Int))) fun _ =>
 some (([63],[],s1),s1)
def zAa (y0:qR): Option (zC×Int×Int) :=
 (
 if decide (y0.2.2.1<0) then
 (zAO y0).bind fun r1 =>
 some (r1.2,r1.1.2.2)
 else
 some (y0.2.1,y0.2.2.1):Option (Int×Int)).bind fun s1 =>
 some (fm (0,[],([]:List zC)),s1.1,s1.2)
def xZ (y0:qR)(y1:zA): Option (Bool×Int) :=
 (zAO y0).bind fun r1 =>
 if(decide (0≤y0.2.2.1))||(!(r1.1.1==y1)) then
 some (false,r1.2)
 else
 some (true,zF (r1.2+(len r1.1.2.1)))
def zHj (rec_formula_parser_and:qR->Option (zC×Int×Int×Bool))(rec_formula_parser_iff:qR->Option (zC×Int×Int×Bool))(rec_formula_parser_implies:qR->Option (zC×Int×Int×Bool))(rec_formula_parser_many__formula_parser_and:qR->Int->zA->Option (zC×Int×Int×Bool))(rec_formula_parser_many__formula_parser_unary:qR->Int->zA->Option (zC×Int×Int×Bool))(rec_formula_parser_or:qR->Option (zC×Int×Int×Bool))(rec_formula_parser_unary:qR->Option (zC×Int×Int×Bool))(y0:qR): Option (zC×Int×Int×Bool) :=
 (rec_formula_parser_many__formula_parser_unary y0 5 [38]).bind fun r1 =>
 some (r1.1,r1.2.1,r1.2.2.1,r1.2.2.2)
def zHg (rec_formula_parser_and:qR->Option (zC×Int×Int×Bool))(rec_formula_parser_iff:qR->Option (zC×Int×Int×Bool))(rec_formula_parser_implies:qR->Option (zC×Int×Int×Bool))(rec_formula_parser_many__formula_parser_and:qR->Int->zA->Option (zC×Int×Int×Bool))(rec_formula_parser_many__formula_parser_unary:qR->Int->zA->Option (zC×Int×Int×Bool))(rec_formula_parser_or:qR->Option (zC×Int×Int×Bool))(rec_formula_parser_unary:qR->Option (zC×Int×Int×Bool))(y0:qR): Option (zC×Int×Int×Bool) :=
 (rec_formula_parser_implies y0).bind fun r1 =>
 (xZ (y0.1,r1.2.1,r1.2.2.1,r1.2.2.2) [60,45,62]).bind fun r2 =>
 if !r2.1 then
 some (r1.1,r2.2,r1.2.2.1,r1.2.2.2)
 else
 (rec_formula_parser_implies (y0.1,r2.2,r1.2.2.1,r1.2.2.2)).bind fun r3 =>
 some (fm (8,[],([r1.1,r3.1]:List zC)),r3.2.1,r3.2.2.1,r3.2.2.2)
def zGQ (rec_formula_parser_and:qR->Option (zC×Int×Int×Bool))(rec_formula_parser_iff:qR->Option (zC×Int×Int×Bool))(rec_formula_parser_implies:qR->Option (zC×Int×Int×Bool))(rec_formula_parser_many__formula_parser_and:qR->Int->zA->Option (zC×Int×Int×Bool))(rec_formula_parser_many__formula_parser_unary:qR->Int->zA->Option (zC×Int×Int×Bool))(rec_formula_parser_or:qR->Option (zC×Int×Int×Bool))(rec_formula_parser_unary:qR->Option (zC×Int×Int×Bool))(y0:qR): Option (zC×Int×Int×Bool) :=
 (rec_formula_parser_or y0).bind fun r1 =>
 (xZ (y0.1,r1.2.1,r1.2.2.1,r1.2.2.2) [45,62]).bind fun r2 =>
 if !r2.1 then
 some (r1.1,r2.2,r1.2.2.1,r1.2.2.2)
 else
 (rec_formula_parser_implies (y0.1,r2.2,r1.2.2.1,r1.2.2.2)).bind fun r3 =>
 some (fm (7,[],([r1.1,r3.1]:List zC)),r3.2.1,r3.2.2.1,r3.2.2.2)
def zDY (y0:qR)(y2:zA)(rec_formula_parser_and:qR->Option (zC×Int×Int×Bool))(s2:Int×Int×Bool×(List zC)): Option ((Int×Int×Bool×(List zC))⊕(Int×Int×Bool×(List zC))) :=
 (xZ (y0.1,s2.1,s2.2.1,s2.2.2.1) y2).bind fun r3 =>
 if r3.1 then
 (rec_formula_parser_and (y0.1,r3.2,s2.2.1,s2.2.2.1)).bind fun r4 =>
 (qT s2.2.2.2 ([r4.1]:List zC)).bind fun x1 =>
 some (.inl (r4.2.1,r4.2.2.1,r4.2.2.2,x1))
 else
 some (.inr (r3.2,s2.2.1,s2.2.2.1,s2.2.2.2))
def zBy (rec_formula_parser_and:qR->Option (zC×Int×Int×Bool))(rec_formula_parser_iff:qR->Option (zC×Int×Int×Bool))(rec_formula_parser_implies:qR->Option (zC×Int×Int×Bool))(rec_formula_parser_many__formula_parser_and:qR->Int->zA->Option (zC×Int×Int×Bool))(rec_formula_parser_many__formula_parser_unary:qR->Int->zA->Option (zC×Int×Int×Bool))(rec_formula_parser_or:qR->Option (zC×Int×Int×Bool))(rec_formula_parser_unary:qR->Option (zC×Int×Int×Bool))(y0:qR)(y1:Int)(y2:zA): Option (zC×Int×Int×Bool) :=
 (rec_formula_parser_and y0).bind fun r1 =>
 (zAO (y0.1,r1.2.1,r1.2.2.1,r1.2.2.2)).bind fun r2 =>
 if !(r2.1.1==y2) then
 some (r1.1,r2.2,r1.2.2.1,r1.2.2.2)
 else
 (zJ (zDY y0 y2 rec_formula_parser_and) (r2.2,r1.2.2.1,r1.2.2.2,([r1.1]:List zC)):Option (Int×Int×Bool×(List zC))).bind fun s1 =>
 (
 if s1.2.2.1 then
 some true
 else
 some (decide (6<(len s1.2.2.2))):Option Bool).bind fun s3 =>
 some (fm (y1,[],s1.2.2.2),s1.1,s1.2.1,s3)
def zDB (y0:qR)(y2:zA)(rec_formula_parser_unary:qR->Option (zC×Int×Int×Bool))(s2:Int×Int×Bool×(List zC)): Option ((Int×Int×Bool×(List zC))⊕(Int×Int×Bool×(List zC))) :=
 (xZ (y0.1,s2.1,s2.2.1,s2.2.2.1) y2).bind fun r3 =>
 if r3.1 then
 (rec_formula_parser_unary (y0.1,r3.2,s2.2.1,s2.2.2.1)).bind fun r4 =>
 (qT s2.2.2.2 ([r4.1]:List zC)).bind fun x1 =>
 some (.inl (r4.2.1,r4.2.2.1,r4.2.2.2,x1))
 else
 some (.inr (r3.2,s2.2.1,s2.2.2.1,s2.2.2.2))
def zBq (rec_formula_parser_and:qR->Option (zC×Int×Int×Bool))(rec_formula_parser_iff:qR->Option (zC×Int×Int×Bool))(rec_formula_parser_implies:qR->Option (zC×Int×Int×Bool))(rec_formula_parser_many__formula_parser_and:qR->Int->zA->Option (zC×Int×Int×Bool))(rec_formula_parser_many__formula_parser_unary:qR->Int->zA->Option (zC×Int×Int×Bool))(rec_formula_parser_or:qR->Option (zC×Int×Int×Bool))(rec_formula_parser_unary:qR->Option (zC×Int×Int×Bool))(y0:qR)(y1:Int)(y2:zA): Option (zC×Int×Int×Bool) :=
 (rec_formula_parser_unary y0).bind fun r1 =>
 (zAO (y0.1,r1.2.1,r1.2.2.1,r1.2.2.2)).bind fun r2 =>
 if !(r2.1.1==y2) then
 some (r1.1,r2.2,r1.2.2.1,r1.2.2.2)
 else
 (zJ (zDB y0 y2 rec_formula_parser_unary) (r2.2,r1.2.2.1,r1.2.2.2,([r1.1]:List zC)):Option (Int×Int×Bool×(List zC))).bind fun s1 =>
 (
 if s1.2.2.1 then
 some true
 else
 some (decide (6<(len s1.2.2.2))):Option Bool).bind fun s3 =>
 some (fm (y1,[],s1.2.2.2),s1.1,s1.2.1,s3)
def zIK (rec_formula_parser_and:qR->Option (zC×Int×Int×Bool))(rec_formula_parser_iff:qR->Option (zC×Int×Int×Bool))(rec_formula_parser_implies:qR->Option (zC×Int×Int×Bool))(rec_formula_parser_many__formula_parser_and:qR->Int->zA->Option (zC×Int×Int×Bool))(rec_formula_parser_many__formula_parser_unary:qR->Int->zA->Option (zC×Int×Int×Bool))(rec_formula_parser_or:qR->Option (zC×Int×Int×Bool))(rec_formula_parser_unary:qR->Option (zC×Int×Int×Bool))(y0:qR): Option (zC×Int×Int×Bool) :=
 (rec_formula_parser_many__formula_parser_and y0 6 [124]).bind fun r1 =>
 some (r1.1,r1.2.1,r1.2.2.1,r1.2.2.2)
def zAW (rec_formula_parser_and:qR->Option (zC×Int×Int×Bool))(rec_formula_parser_iff:qR->Option (zC×Int×Int×Bool))(rec_formula_parser_implies:qR->Option (zC×Int×Int×Bool))(rec_formula_parser_many__formula_parser_and:qR->Int->zA->Option (zC×Int×Int×Bool))(rec_formula_parser_many__formula_parser_unary:qR->Int->zA->Option (zC×Int×Int×Bool))(rec_formula_parser_or:qR->Option (zC×Int×Int×Bool))(rec_formula_parser_unary:qR->Option (zC×Int×Int×Bool))(y0:qR): Option (zC×Int×Int×Bool) :=
 (zAO y0).bind fun r1 =>
 if decide (0≤y0.2.2.1) then
 some (fm (0,[],([]:List zC)),r1.2,y0.2.2.1,y0.2.2.2)
 else
 (xZ (y0.1,r1.2,y0.2.2.1,y0.2.2.2) [110,97,109,101]).bind fun r2 =>
 if r2.1 then
 some (fm (3,r1.1.2.1,([]:List zC)),r2.2,y0.2.2.1,y0.2.2.2)
 else
 (xZ (y0.1,r2.2,y0.2.2.1,y0.2.2.2) [48]).bind fun r3 =>
 if r3.1 then
 some (fm (2,[],([]:List zC)),r3.2,y0.2.2.1,y0.2.2.2)
 else
 (xZ (y0.1,r3.2,y0.2.2.1,y0.2.2.2) [49]).bind fun r4 =>
 if r4.1 then
 some (fm (1,[],([]:List zC)),r4.2,y0.2.2.1,y0.2.2.2)
 else
 (xZ (y0.1,r4.2,y0.2.2.1,y0.2.2.2) [126]).bind fun r5 =>
 if r5.1 then
 (rec_formula_parser_unary (y0.1,r5.2,y0.2.2.1,y0.2.2.2)).bind fun r6 =>
 some (fm (4,[],([r6.1]:List zC)),r6.2.1,r6.2.2.1,r6.2.2.2)
 else
 (xZ (y0.1,r5.2,y0.2.2.1,y0.2.2.2) [40]).bind fun r7 =>
 if r7.1 then
 (rec_formula_parser_iff (y0.1,r7.2,y0.2.2.1,y0.2.2.2)).bind fun r8 =>
 (xZ (y0.1,r8.2.1,r8.2.2.1,r8.2.2.2) [41]).bind fun r9 =>
 if !r9.1 then
 (zAa (y0.1,r9.2,r8.2.2.1,r8.2.2.2)).bind fun r10 =>
 some (r10.1,r10.2.1,r10.2.2,r8.2.2.2)
 else
 some (r8.1,r9.2,r8.2.2.1,r8.2.2.2)
 else
 (zAa (y0.1,r7.2,y0.2.2.1,y0.2.2.2)).bind fun r11 =>
 some (r11.1,r11.2.1,r11.2.2,y0.2.2.2)
mutual
def zAH:Nat->qR->Option (zC×Int×Int×Bool)
 | 0=>fun _=>none
 | k+1=>fun y0=>zHj (zAH k) (zAL k) (zAD k) (zAB k) (zAA k) (zAM k) (zAE k) y0
def zAL:Nat->qR->Option (zC×Int×Int×Bool)
 | 0=>fun _=>none
 | k+1=>fun y0=>zHg (zAH k) (zAL k) (zAD k) (zAB k) (zAA k) (zAM k) (zAE k) y0
def zAD:Nat->qR->Option (zC×Int×Int×Bool)
 | 0=>fun _=>none
 | k+1=>fun y0=>zGQ (zAH k) (zAL k) (zAD k) (zAB k) (zAA k) (zAM k) (zAE k) y0
def zAB:Nat->qR->Int->zA->Option (zC×Int×Int×Bool)
 | 0=>fun _ _ _=>none
 | k+1=>fun y0 y1 y2=>zBy (zAH k) (zAL k) (zAD k) (zAB k) (zAA k) (zAM k) (zAE k) y0 y1 y2
def zAA:Nat->qR->Int->zA->Option (zC×Int×Int×Bool)
 | 0=>fun _ _ _=>none
 | k+1=>fun y0 y1 y2=>zBq (zAH k) (zAL k) (zAD k) (zAB k) (zAA k) (zAM k) (zAE k) y0 y1 y2
def zAM:Nat->qR->Option (zC×Int×Int×Bool)
 | 0=>fun _=>none
 | k+1=>fun y0=>zIK (zAH k) (zAL k) (zAD k) (zAB k) (zAA k) (zAM k) (zAE k) y0
def zAE:Nat->qR->Option (zC×Int×Int×Bool)
 | 0=>fun _=>none
 | k+1=>fun y0=>zAW (zAH k) (zAL k) (zAD k) (zAB k) (zAA k) (zAM k) (zAE k) y0
end
def zM5 (y0:qR): Option (zC×Int×Int×Bool):=yH fun k=>zAH k y0
def zF9 (y0:qR): Option (zC×Int×Int×Bool):=yH fun k=>zAL k y0
def zJi (y0:qR): Option (zC×Int×Int×Bool):=yH fun k=>zAD k y0
def zE1 (y0:qR)(y1:Int)(y2:zA): Option (zC×Int×Int×Bool):=yH fun k=>zAB k y0 y1 y2
def zDn (y0:qR)(y1:Int)(y2:zA): Option (zC×Int×Int×Bool):=yH fun k=>zAA k y0 y1 y2
def zNe (y0:qR): Option (zC×Int×Int×Bool):=yH fun k=>zAM k y0
def zKw (y0:qR): Option (zC×Int×Int×Bool):=yH fun k=>zAE k y0
def zB9 (y0:zA): Option (zC×Int×Int) :=
 if decide (4096<(len y0)) then
 some (fm (0,[],([]:List zC)),0,2)
 else
 (zF9 (y0,0,(-1),false)).bind fun r1 =>
 (
 (xZ (y0,r1.2.1,r1.2.2.1,r1.2.2.2) []).bind fun r2 =>
 if !r2.1 then
 (zAa (y0,r2.2,r1.2.2.1,r1.2.2.2)).bind fun r3 =>
 some (r3.2.1,r3.2.2)
 else
 some (r2.2,r1.2.2.1):Option (Int×Int)).bind fun s1 =>
 if decide (0≤s1.2) then
 some (fm (0,[],([]:List zC)),s1.2,3)
 else
 (
 if r1.2.2.2 then
 some true
 else
 (zFp r1.1).bind fun r4 =>
 if decide (600<r4) then
 some true
 else
 (zEw r1.1).bind fun r5 =>
 some (decide (20<r5)):Option Bool).bind fun s2 =>
 if s2 then
 some (fm (0,[],([]:List zC)),0,2)
 else
 some (r1.1,0,0)
def zBm (y0:vJ): Option (zA×Bool×Bool×Int×zA×(List zC)) :=
 (zCE y0).bind fun r1 =>
 (zB9 r1.1).bind fun r2 =>
 (
 if r1.2.2.2 then
 some true
 else
 some (r2.2.2 != 0):Option Bool).bind fun s1 =>
 some (r1.2.1,r1.2.2.1,s1,(fv r2.1).1,(fv r2.1).2.1,(fv r2.1).2.2)
def zAu (y0:vJ)(y1:Int): Option (zA×Bool×Bool×Int×Int×Int×zA×(List zC)) :=
 (xH y0).bind fun r1 =>
 (zBm (r1.2.1,r1.2.2.1,r1.2.2.2,(y1,y0.2.2.2.2.1,y0.2.2.2.2.2.1,r1.1,y0.2.2.2.2.2.2.2.1,y0.2.2.2.2.2.2.2.2.1,y0.2.2.2.2.2.2.2.2.2.1,y0.2.2.2.2.2.2.2.2.2.2.1,y0.2.2.2.2.2.2.2.2.2.2.2.1,y0.2.2.2.2.2.2.2.2.2.2.2.2))).bind fun r2 =>
 some (r2.1,r2.2.1,r2.2.2.1,y1,r1.1,r2.2.2.2.1,r2.2.2.2.2.1,r2.2.2.2.2.2)
def zBR (y1:vJ): Option (zA×Bool×Bool×Int×Int×Int×zA×(List zC)) :=
 (zAu y1 8).bind fun r1 =>
 some (r1.1,r1.2.1,r1.2.2.1,r1.2.2.2.1,r1.2.2.2.2.1,r1.2.2.2.2.2.1,r1.2.2.2.2.2.2.1,r1.2.2.2.2.2.2.2)
def zBT (y1:vJ): Option (zA×Bool×Bool×Int×Int×Int×zA×(List zC)) :=
 (zAu y1 9).bind fun r1 =>
 some (r1.1,r1.2.1,r1.2.2.1,r1.2.2.2.1,r1.2.2.2.2.1,r1.2.2.2.2.2.1,r1.2.2.2.2.2.2.1,r1.2.2.2.2.2.2.2)
def zBV (y1:vJ): Option (zA×Bool×Bool×Int×Int×Int×zA×(List zC)) :=
 (zAu y1 10).bind fun r1 =>
 some (r1.1,r1.2.1,r1.2.2.1,r1.2.2.2.1,r1.2.2.2.2.1,r1.2.2.2.2.2.1,r1.2.2.2.2.2.2.1,r1.2.2.2.2.2.2.2)
def zCL (y1:vJ): Option (zA×Bool×Bool×Int×zA) :=
 (zCX y1 2).bind fun r1 =>
 some (r1.1,r1.2.1,r1.2.2.1,r1.2.2.2.1,r1.2.2.2.2)
def zCN (y1:vJ): Option Int :=
 some 3
def zB6 (y0:vJ)(y1:Int)(s1:zA×Bool×Bool×Int)(r2:zE×zA×Bool×Bool)(s3:zA×Bool×Bool×(List zE)): Option ((zA×Bool×Bool×(List zE))⊕(zA×Bool×Bool×Int×Int×Int×Bool×zA×(List zE))) :=
 if(!s3.2.1)&&(!s3.2.2.1) then
 (
 (zA9 (s3.1,s3.2.1,s3.2.2.1,(4,y0.2.2.2.2.1,y0.2.2.2.2.2.1,y0.2.2.2.2.2.2.1,y0.2.2.2.2.2.2.2.1,(y1,y0.2.2.2.2.2.2.2.2.1.2.1,s1.2.2.2,r2.1,s3.2.2.2),y0.2.2.2.2.2.2.2.2.2.1,y0.2.2.2.2.2.2.2.2.2.2.1,y0.2.2.2.2.2.2.2.2.2.2.2.1,y0.2.2.2.2.2.2.2.2.2.2.2.2))).bind fun r4 =>
 (qT s3.2.2.2 ([r4.1]:List zE)).bind fun x1 =>
 some (r4.2.1,r4.2.2.1,r4.2.2.2,x1):Option (zA×Bool×Bool×(List zE))).bind fun s4 =>
 some (.inl (s4.1,s4.2.1,s4.2.2.1,s4.2.2.2))
 else
 some (.inr (s3.1,s3.2.1,s3.2.2.1,4,y1,s1.2.2.2,r2.1.1,r2.1.2,s3.2.2.2))
def zAP (y0:vJ)(y1:Int): Option (zA×Bool×Bool×Int×Int×Int×Bool×zA×(List zE)) :=
 (
 if y1==2 then
 (xH (y0.1,y0.2.1,y0.2.2.1,(4,y0.2.2.2.2.1,y0.2.2.2.2.2.1,y0.2.2.2.2.2.2.1,y0.2.2.2.2.2.2.2.1,(y1,y0.2.2.2.2.2.2.2.2.1.2.1,y0.2.2.2.2.2.2.2.2.1.2.2.1,y0.2.2.2.2.2.2.2.2.1.2.2.2.1,y0.2.2.2.2.2.2.2.2.1.2.2.2.2),y0.2.2.2.2.2.2.2.2.2.1,y0.2.2.2.2.2.2.2.2.2.2.1,y0.2.2.2.2.2.2.2.2.2.2.2.1,y0.2.2.2.2.2.2.2.2.2.2.2.2))).bind fun r1 =>
 some (r1.2.1,r1.2.2.1,r1.2.2.2,r1.1)
 else
 some (y0.1,y0.2.1,y0.2.2.1,y0.2.2.2.2.2.2.2.2.1.2.2.1):Option (zA×Bool×Bool×Int)).bind fun s1 =>
 (zA9 (s1.1,s1.2.1,s1.2.2.1,(4,y0.2.2.2.2.1,y0.2.2.2.2.2.1,y0.2.2.2.2.2.2.1,y0.2.2.2.2.2.2.2.1,(y1,y0.2.2.2.2.2.2.2.2.1.2.1,s1.2.2.2,y0.2.2.2.2.2.2.2.2.1.2.2.2.1,y0.2.2.2.2.2.2.2.2.1.2.2.2.2),y0.2.2.2.2.2.2.2.2.2.1,y0.2.2.2.2.2.2.2.2.2.2.1,y0.2.2.2.2.2.2.2.2.2.2.2.1,y0.2.2.2.2.2.2.2.2.2.2.2.2))).bind fun r2 =>
 if y1 != 3 then
 some (r2.2.1,r2.2.2.1,r2.2.2.2,4,y1,s1.2.2.2,r2.1.1,r2.1.2,y0.2.2.2.2.2.2.2.2.1.2.2.2.2)
 else
 (
 if r2.2.2.2 then
 some (r2.2.1,r2.2.2.1,true)
 else
 (zAv (r2.2.1,r2.2.2.1,r2.2.2.2,(4,y0.2.2.2.2.1,y0.2.2.2.2.2.1,y0.2.2.2.2.2.2.1,y0.2.2.2.2.2.2.2.1,(y1,y0.2.2.2.2.2.2.2.2.1.2.1,s1.2.2.2,r2.1,y0.2.2.2.2.2.2.2.2.1.2.2.2.2),y0.2.2.2.2.2.2.2.2.2.1,y0.2.2.2.2.2.2.2.2.2.2.1,y0.2.2.2.2.2.2.2.2.2.2.2.1,y0.2.2.2.2.2.2.2.2.2.2.2.2))).bind fun r3 =>
 some (r3.2.1,r3.2.2.1,!(r3.1==[98,101,99,97,117,115,101])):Option (zA×Bool×Bool)).bind fun s2 =>
 zJ (zB6 y0 y1 s1 r2) (s2.1,s2.2.1,s2.2.2,y0.2.2.2.2.2.2.2.2.1.2.2.2.2)
def zB8 (y1:vJ): Option (zA×Bool×Bool×Int×Int×Int×Bool×zA×(List zE)) :=
 (zAP y1 1).bind fun r1 =>
 some (r1.1,r1.2.1,r1.2.2.1,r1.2.2.2.1,r1.2.2.2.2.1,r1.2.2.2.2.2.1,r1.2.2.2.2.2.2.1,r1.2.2.2.2.2.2.2.1,r1.2.2.2.2.2.2.2.2)
def zAC (y0:vJ): Option Unit :=
 some ()
def zBM (y1:vJ): Option (zA×Bool×Bool×Int×Int×Int×Bool×zA×(List zE)) :=
 (zAP y1 2).bind fun r1 =>
 some (r1.1,r1.2.1,r1.2.2.1,r1.2.2.2.1,r1.2.2.2.2.1,r1.2.2.2.2.2.1,r1.2.2.2.2.2.2.1,r1.2.2.2.2.2.2.2.1,r1.2.2.2.2.2.2.2.2)
def zB3 (y1:vJ): Option (zA×Bool×Bool×Int×Int×Int×Bool×zA×(List zE)) :=
 (zAP y1 3).bind fun r1 =>
 some (r1.1,r1.2.1,r1.2.2.1,r1.2.2.2.1,r1.2.2.2.2.1,r1.2.2.2.2.2.1,r1.2.2.2.2.2.2.1,r1.2.2.2.2.2.2.2.1,r1.2.2.2.2.2.2.2.2)
def zB1 (y1:vJ): Option (zA×Bool×Bool×Int×Int×Int×Bool×zA×(List zE)) :=
 (zAP y1 4).bind fun r1 =>
 some (r1.1,r1.2.1,r1.2.2.1,r1.2.2.2.1,r1.2.2.2.2.1,r1.2.2.2.2.2.1,r1.2.2.2.2.2.2.1,r1.2.2.2.2.2.2.2.1,r1.2.2.2.2.2.2.2.2)
def zB5 (y1:vJ): Option (zA×Bool×Bool×Int×Int×Int×Bool×zA×(List zE)) :=
 (zAP y1 5).bind fun r1 =>
 some (r1.1,r1.2.1,r1.2.2.1,r1.2.2.2.1,r1.2.2.2.2.1,r1.2.2.2.2.2.1,r1.2.2.2.2.2.2.1,r1.2.2.2.2.2.2.2.1,r1.2.2.2.2.2.2.2.2)
def zB7 (y1:vJ): Option (zA×Bool×Bool×Int×Bool×zA×Int×Int) :=
 (zA9 y1).bind fun r1 =>
 (xH (r1.2.1,r1.2.2.1,r1.2.2.2,(5,y1.2.2.2.2.1,y1.2.2.2.2.2.1,y1.2.2.2.2.2.2.1,y1.2.2.2.2.2.2.2.1,y1.2.2.2.2.2.2.2.2.1,r1.1,y1.2.2.2.2.2.2.2.2.2.2.1,y1.2.2.2.2.2.2.2.2.2.2.2.1,y1.2.2.2.2.2.2.2.2.2.2.2.2))).bind fun r2 =>
 (xH (r2.2.1,r2.2.2.1,r2.2.2.2,(5,y1.2.2.2.2.1,y1.2.2.2.2.2.1,y1.2.2.2.2.2.2.1,y1.2.2.2.2.2.2.2.1,y1.2.2.2.2.2.2.2.2.1,r1.1,y1.2.2.2.2.2.2.2.2.2.2.1,y1.2.2.2.2.2.2.2.2.2.2.2.1,y1.2.2.2.2.2.2.2.2.2.2.2.2))).bind fun r3 =>
 some (r3.2.1,r3.2.2.1,r3.2.2.2,5,r1.1.1,r1.1.2,r2.1,r3.1)
def yM (y0:zA): Option (qZ×Bool) :=
 (zAC (y0,false,false,(0,0,0,0,[],(0,0,0,(false,[]),([]:List zE)),(false,[]),(0,0),(0,0,0,0),fm (0,[],([]:List zC))))).bind fun _ =>
 (zAv (y0,false,false,(0,0,0,0,[],(0,0,0,(false,[]),([]:List zE)),(false,[]),(0,0),(0,0,0,0),fm (0,[],([]:List zC))))).bind fun r2 =>
 if r2.1==[112,117,116] then
 (xH (r2.2.1,r2.2.2.1,r2.2.2.2,(0,0,0,0,[],(0,0,0,(false,[]),([]:List zE)),(false,[]),(0,0),(0,0,0,0),fm (0,[],([]:List zC))))).bind fun r3 =>
 (zCM (r3.2.1,r3.2.2.1,r3.2.2.2,(0,r3.1,0,0,[],(0,0,0,(false,[]),([]:List zE)),(false,[]),(0,0),(0,0,0,0),fm (0,[],([]:List zC))))).bind fun r4 =>
 (
 if !r4.2.2.1 then
 some (r4.2.1,([]:List zE),([]:List zC))
 else
 some (false,([]:List zE),([]:List zC)):Option (Bool×(List zE)×(List zC))).bind fun s1 =>
 some ((r4.2.2.2.1,r3.1,0,0,r4.2.2.2.2,(0,0,0,(false,[]),s1.2.1),(false,[]),(0,0),(0,0,0,0),fm (0,[],s1.2.2)),s1.1)
 else
 if r2.1==[114,117,108,101] then
 (xH (r2.2.1,r2.2.2.1,r2.2.2.2,(0,0,0,0,[],(0,0,0,(false,[]),([]:List zE)),(false,[]),(0,0),(0,0,0,0),fm (0,[],([]:List zC))))).bind fun r5 =>
 (zCL (r5.2.1,r5.2.2.1,r5.2.2.2,(0,r5.1,0,0,[],(0,0,0,(false,[]),([]:List zE)),(false,[]),(0,0),(0,0,0,0),fm (0,[],([]:List zC))))).bind fun r6 =>
 (
 if !r6.2.2.1 then
 some (r6.2.1,([]:List zE),([]:List zC))
 else
 some (false,([]:List zE),([]:List zC)):Option (Bool×(List zE)×(List zC))).bind fun s2 =>
 some ((r6.2.2.2.1,r5.1,0,0,r6.2.2.2.2,(0,0,0,(false,[]),s2.2.1),(false,[]),(0,0),(0,0,0,0),fm (0,[],s2.2.2)),s2.1)
 else
 if r2.1==[119,105,116,104,100,114,97,119] then
 (xH (r2.2.1,r2.2.2.1,r2.2.2.2,(0,0,0,0,[],(0,0,0,(false,[]),([]:List zE)),(false,[]),(0,0),(0,0,0,0),fm (0,[],([]:List zC))))).bind fun r7 =>
 (zCN (r7.2.1,r7.2.2.1,r7.2.2.2,(0,r7.1,0,0,[],(0,0,0,(false,[]),([]:List zE)),(false,[]),(0,0),(0,0,0,0),fm (0,[],([]:List zC))))).bind fun r8 =>
 (
 if !r7.2.2.2 then
 some (r7.2.2.1,([]:List zE),([]:List zC))
 else
 some (false,([]:List zE),([]:List zC)):Option (Bool×(List zE)×(List zC))).bind fun s3 =>
 some ((r8,r7.1,0,0,[],(0,0,0,(false,[]),s3.2.1),(false,[]),(0,0),(0,0,0,0),fm (0,[],s3.2.2)),s3.1)
 else
 if r2.1==[97,115,115,101,114,116] then
 (xH (r2.2.1,r2.2.2.1,r2.2.2.2,(0,0,0,0,[],(0,0,0,(false,[]),([]:List zE)),(false,[]),(0,0),(0,0,0,0),fm (0,[],([]:List zC))))).bind fun r9 =>
 (zB8 (r9.2.1,r9.2.2.1,r9.2.2.2,(0,r9.1,0,0,[],(0,0,0,(false,[]),([]:List zE)),(false,[]),(0,0),(0,0,0,0),fm (0,[],([]:List zC))))).bind fun r10 =>
 (
 if !r10.2.2.1 then
 some (r10.2.1,r10.2.2.2.2.2.2.2.2,([]:List zC))
 else
 some (false,r10.2.2.2.2.2.2.2.2,([]:List zC)):Option (Bool×(List zE)×(List zC))).bind fun s4 =>
 some ((r10.2.2.2.1,r9.1,0,0,[],(r10.2.2.2.2.1,0,r10.2.2.2.2.2.1,(r10.2.2.2.2.2.2.1,r10.2.2.2.2.2.2.2.1),s4.2.1),(false,[]),(0,0),(0,0,0,0),fm (0,[],s4.2.2)),s4.1)
 else
 if r2.1==[99,104,97,108,108,101,110,103,101] then
 (xH (r2.2.1,r2.2.2.1,r2.2.2.2,(0,0,0,0,[],(0,0,0,(false,[]),([]:List zE)),(false,[]),(0,0),(0,0,0,0),fm (0,[],([]:List zC))))).bind fun r11 =>
 (zBM (r11.2.1,r11.2.2.1,r11.2.2.2,(0,r11.1,0,0,[],(0,0,0,(false,[]),([]:List zE)),(false,[]),(0,0),(0,0,0,0),fm (0,[],([]:List zC))))).bind fun r12 =>
 (
 if !r12.2.2.1 then
 some (r12.2.1,r12.2.2.2.2.2.2.2.2,([]:List zC))
 else
 some (false,r12.2.2.2.2.2.2.2.2,([]:List zC)):Option (Bool×(List zE)×(List zC))).bind fun s5 =>
 some ((r12.2.2.2.1,r11.1,0,0,[],(r12.2.2.2.2.1,0,r12.2.2.2.2.2.1,(r12.2.2.2.2.2.2.1,r12.2.2.2.2.2.2.2.1),s5.2.1),(false,[]),(0,0),(0,0,0,0),fm (0,[],s5.2.2)),s5.1)
 else
 if r2.1==[97,114,103,117,101] then
 (xH (r2.2.1,r2.2.2.1,r2.2.2.2,(0,0,0,0,[],(0,0,0,(false,[]),([]:List zE)),(false,[]),(0,0),(0,0,0,0),fm (0,[],([]:List zC))))).bind fun r13 =>
 (zB3 (r13.2.1,r13.2.2.1,r13.2.2.2,(0,r13.1,0,0,[],(0,0,0,(false,[]),([]:List zE)),(false,[]),(0,0),(0,0,0,0),fm (0,[],([]:List zC))))).bind fun r14 =>
 (
 if !r14.2.2.1 then
 some (r14.2.1,r14.2.2.2.2.2.2.2.2,([]:List zC))
 else
 some (false,r14.2.2.2.2.2.2.2.2,([]:List zC)):Option (Bool×(List zE)×(List zC))).bind fun s6 =>
 some ((r14.2.2.2.1,r13.1,0,0,[],(r14.2.2.2.2.1,0,r14.2.2.2.2.2.1,(r14.2.2.2.2.2.2.1,r14.2.2.2.2.2.2.2.1),s6.2.1),(false,[]),(0,0),(0,0,0,0),fm (0,[],s6.2.2)),s6.1)
 else
 if r2.1==[99,111,110,99,101,100,101] then
 (xH (r2.2.1,r2.2.2.1,r2.2.2.2,(0,0,0,0,[],(0,0,0,(false,[]),([]:List zE)),(false,[]),(0,0),(0,0,0,0),fm (0,[],([]:List zC))))).bind fun r15 =>
 (zB1 (r15.2.1,r15.2.2.1,r15.2.2.2,(0,r15.1,0,0,[],(0,0,0,(false,[]),([]:List zE)),(false,[]),(0,0),(0,0,0,0),fm (0,[],([]:List zC))))).bind fun r16 =>
 (
 if !r16.2.2.1 then
 some (r16.2.1,r16.2.2.2.2.2.2.2.2,([]:List zC))
 else
 some (false,r16.2.2.2.2.2.2.2.2,([]:List zC)):Option (Bool×(List zE)×(List zC))).bind fun s7 =>
 some ((r16.2.2.2.1,r15.1,0,0,[],(r16.2.2.2.2.1,0,r16.2.2.2.2.2.1,(r16.2.2.2.2.2.2.1,r16.2.2.2.2.2.2.2.1),s7.2.1),(false,[]),(0,0),(0,0,0,0),fm (0,[],s7.2.2)),s7.1)
 else
 if r2.1==[114,101,116,114,97,99,116] then
 (xH (r2.2.1,r2.2.2.1,r2.2.2.2,(0,0,0,0,[],(0,0,0,(false,[]),([]:List zE)),(false,[]),(0,0),(0,0,0,0),fm (0,[],([]:List zC))))).bind fun r17 =>
 (zB5 (r17.2.1,r17.2.2.1,r17.2.2.2,(0,r17.1,0,0,[],(0,0,0,(false,[]),([]:List zE)),(false,[]),(0,0),(0,0,0,0),fm (0,[],([]:List zC))))).bind fun r18 =>
 (
 if !r18.2.2.1 then
 some (r18.2.1,r18.2.2.2.2.2.2.2.2,([]:List zC))
 else
 some (false,r18.2.2.2.2.2.2.2.2,([]:List zC)):Option (Bool×(List zE)×(List zC))).bind fun s8 =>
 some ((r18.2.2.2.1,r17.1,0,0,[],(r18.2.2.2.2.1,0,r18.2.2.2.2.2.1,(r18.2.2.2.2.2.2.1,r18.2.2.2.2.2.2.2.1),s8.2.1),(false,[]),(0,0),(0,0,0,0),fm (0,[],s8.2.2)),s8.1)
 else
 if r2.1==[111,112,101,110] then
 (xH (r2.2.1,r2.2.2.1,r2.2.2.2,(0,0,0,0,[],(0,0,0,(false,[]),([]:List zE)),(false,[]),(0,0),(0,0,0,0),fm (0,[],([]:List zC))))).bind fun r19 =>
 (zB7 (r19.2.1,r19.2.2.1,r19.2.2.2,(0,r19.1,0,0,[],(0,0,0,(false,[]),([]:List zE)),(false,[]),(0,0),(0,0,0,0),fm (0,[],([]:List zC))))).bind fun r20 =>
 (
 if !r20.2.2.1 then
 some (r20.2.1,([]:List zE),([]:List zC))
 else
 some (false,([]:List zE),([]:List zC)):Option (Bool×(List zE)×(List zC))).bind fun s9 =>
 some ((r20.2.2.2.1,r19.1,0,0,[],(0,0,0,(false,[]),s9.2.1),(r20.2.2.2.2.1,r20.2.2.2.2.2.1),(r20.2.2.2.2.2.2.1,r20.2.2.2.2.2.2.2),(0,0,0,0),fm (0,[],s9.2.2)),s9.1)
 else
 if r2.1==[97,116,116,97,99,107] then
 (xH (r2.2.1,r2.2.2.1,r2.2.2.2,(0,0,0,0,[],(0,0,0,(false,[]),([]:List zE)),(false,[]),(0,0),(0,0,0,0),fm (0,[],([]:List zC))))).bind fun r21 =>
 (zBQ (r21.2.1,r21.2.2.1,r21.2.2.2,(0,r21.1,0,0,[],(0,0,0,(false,[]),([]:List zE)),(false,[]),(0,0),(0,0,0,0),fm (0,[],([]:List zC))))).bind fun r22 =>
 (
 if !r22.2.2.1 then
 some (r22.2.1,([]:List zE),([]:List zC))
 else
 some (false,([]:List zE),([]:List zC)):Option (Bool×(List zE)×(List zC))).bind fun s10 =>
 some ((r22.2.2.2.1,r21.1,r22.2.2.2.2.1,0,[],(0,0,0,(false,[]),s10.2.1),(false,[]),(0,0),(r22.2.2.2.2.2.1,r22.2.2.2.2.2.2.1,r22.2.2.2.2.2.2.2.1,r22.2.2.2.2.2.2.2.2),fm (0,[],s10.2.2)),s10.1)
 else
 if r2.1==[116,97,107,101,98,97,99,107] then
 (xH (r2.2.1,r2.2.2.1,r2.2.2.2,(0,0,0,0,[],(0,0,0,(false,[]),([]:List zE)),(false,[]),(0,0),(0,0,0,0),fm (0,[],([]:List zC))))).bind fun r23 =>
 (zBW (r23.2.1,r23.2.2.1,r23.2.2.2,(0,r23.1,0,0,[],(0,0,0,(false,[]),([]:List zE)),(false,[]),(0,0),(0,0,0,0),fm (0,[],([]:List zC))))).bind fun r24 =>
 (
 if !r24.2.2.1 then
 some (r24.2.1,([]:List zE),([]:List zC))
 else
 some (false,([]:List zE),([]:List zC)):Option (Bool×(List zE)×(List zC))).bind fun s11 =>
 some ((r24.2.2.2.1,r23.1,r24.2.2.2.2.1,0,[],(0,0,0,(false,[]),s11.2.1),(false,[]),(0,0),(r24.2.2.2.2.2.1,r24.2.2.2.2.2.2.1,r24.2.2.2.2.2.2.2.1,r24.2.2.2.2.2.2.2.2),fm (0,[],s11.2.2)),s11.1)
 else
 if r2.1==[103,105,118,101,117,112] then
 (xH (r2.2.1,r2.2.2.1,r2.2.2.2,(0,0,0,0,[],(0,0,0,(false,[]),([]:List zE)),(false,[]),(0,0),(0,0,0,0),fm (0,[],([]:List zC))))).bind fun r25 =>
 (zBU (r25.2.1,r25.2.2.1,r25.2.2.2,(0,r25.1,0,0,[],(0,0,0,(false,[]),([]:List zE)),(false,[]),(0,0),(0,0,0,0),fm (0,[],([]:List zC))))).bind fun r26 =>
 (
 if !r26.2.2.1 then
 some (r26.2.1,([]:List zE),([]:List zC))
 else
 some (false,([]:List zE),([]:List zC)):Option (Bool×(List zE)×(List zC))).bind fun s12 =>
 some ((r26.2.2.2.1,r25.1,r26.2.2.2.2.1,0,[],(0,0,0,(false,[]),s12.2.1),(false,[]),(0,0),(r26.2.2.2.2.2.1,r26.2.2.2.2.2.2.1,r26.2.2.2.2.2.2.2.1,r26.2.2.2.2.2.2.2.2),fm (0,[],s12.2.2)),s12.1)
 else
 if r2.1==[100,101,99,105,100,101] then
 (xH (r2.2.1,r2.2.2.1,r2.2.2.2,(0,0,0,0,[],(0,0,0,(false,[]),([]:List zE)),(false,[]),(0,0),(0,0,0,0),fm (0,[],([]:List zC))))).bind fun r27 =>
 (zBS (r27.2.1,r27.2.2.1,r27.2.2.2,(0,r27.1,0,0,[],(0,0,0,(false,[]),([]:List zE)),(false,[]),(0,0),(0,0,0,0),fm (0,[],([]:List zC))))).bind fun r28 =>
 (
 if !r28.2.2.1 then
 some (r28.2.1,([]:List zE),([]:List zC))
 else
 some (false,([]:List zE),([]:List zC)):Option (Bool×(List zE)×(List zC))).bind fun s13 =>
 some ((r28.2.2.2.1,r27.1,0,r28.2.2.2.2.1,[],(0,0,0,(false,[]),s13.2.1),(r28.2.2.2.2.2.1,r28.2.2.2.2.2.2),(0,0),(0,0,0,0),fm (0,[],s13.2.2)),s13.1)
 else
 if r2.1==[114,101,118,105,115,101] then
 (xH (r2.2.1,r2.2.2.1,r2.2.2.2,(0,0,0,0,[],(0,0,0,(false,[]),([]:List zE)),(false,[]),(0,0),(0,0,0,0),fm (0,[],([]:List zC))))).bind fun r29 =>
 (zBR (r29.2.1,r29.2.2.1,r29.2.2.2,(0,r29.1,0,0,[],(0,0,0,(false,[]),([]:List zE)),(false,[]),(0,0),(0,0,0,0),fm (0,[],([]:List zC))))).bind fun r30 =>
 (
 if !r30.2.2.1 then
 some (r30.2.1,([]:List zE),r30.2.2.2.2.2.2.2)
 else
 some (false,([]:List zE),r30.2.2.2.2.2.2.2):Option (Bool×(List zE)×(List zC))).bind fun s14 =>
 some ((r30.2.2.2.1,r29.1,0,r30.2.2.2.2.1,[],(0,0,0,(false,[]),s14.2.1),(false,[]),(0,0),(0,0,0,0),fm (r30.2.2.2.2.2.1,r30.2.2.2.2.2.2.1,s14.2.2)),s14.1)
 else
 if r2.1==[117,112,100,97,116,101] then
 (xH (r2.2.1,r2.2.2.1,r2.2.2.2,(0,0,0,0,[],(0,0,0,(false,[]),([]:List zE)),(false,[]),(0,0),(0,0,0,0),fm (0,[],([]:List zC))))).bind fun r31 =>
 (zBT (r31.2.1,r31.2.2.1,r31.2.2.2,(0,r31.1,0,0,[],(0,0,0,(false,[]),([]:List zE)),(false,[]),(0,0),(0,0,0,0),fm (0,[],([]:List zC))))).bind fun r32 =>
 (
 if !r32.2.2.1 then
 some (r32.2.1,([]:List zE),r32.2.2.2.2.2.2.2)
 else
 some (false,([]:List zE),r32.2.2.2.2.2.2.2):Option (Bool×(List zE)×(List zC))).bind fun s15 =>
 some ((r32.2.2.2.1,r31.1,0,r32.2.2.2.2.1,[],(0,0,0,(false,[]),s15.2.1),(false,[]),(0,0),(0,0,0,0),fm (r32.2.2.2.2.2.1,r32.2.2.2.2.2.2.1,s15.2.2)),s15.1)
 else
 if r2.1==[109,101,114,103,101] then
 (xH (r2.2.1,r2.2.2.1,r2.2.2.2,(0,0,0,0,[],(0,0,0,(false,[]),([]:List zE)),(false,[]),(0,0),(0,0,0,0),fm (0,[],([]:List zC))))).bind fun r33 =>
 (zBV (r33.2.1,r33.2.2.1,r33.2.2.2,(0,r33.1,0,0,[],(0,0,0,(false,[]),([]:List zE)),(false,[]),(0,0),(0,0,0,0),fm (0,[],([]:List zC))))).bind fun r34 =>
 (
 if !r34.2.2.1 then
 some (r34.2.1,([]:List zE),r34.2.2.2.2.2.2.2)
 else
 some (false,([]:List zE),r34.2.2.2.2.2.2.2):Option (Bool×(List zE)×(List zC))).bind fun s16 =>
 some ((r34.2.2.2.1,r33.1,0,r34.2.2.2.2.1,[],(0,0,0,(false,[]),s16.2.1),(false,[]),(0,0),(0,0,0,0),fm (r34.2.2.2.2.2.1,r34.2.2.2.2.2.2.1,s16.2.2)),s16.1)
 else
 some ((0,0,0,0,[],(0,0,0,(false,[]),([]:List zE)),(false,[]),(0,0),(0,0,0,0),fm (0,[],([]:List zC))),false)
def zMf (rec_formula_Same:zC->zC->Option Bool)(rec_slices_EqualFunc_Formula__formula_Same:(List zC)->(List zC)->Option Bool)(y0:zC)(y1:zC): Option Bool :=
 (
 if((fv y0).1)==((fv y1).1) then
 if((fv y0).2.1)==((fv y1).2.1) then
 (rec_slices_EqualFunc_Formula__formula_Same ((fv y0).2.2) ((fv y1).2.2)).bind fun r1 =>
 some r1
 else
 some false
 else
 some false:Option Bool).bind fun s1 =>
 some s1
def zAI (y0:List zC)(y1:List zC)(rec_formula_Same:zC->zC->Option Bool)(s1:Int): Option (Int⊕Bool) :=
 if decide (s1<(len y0)) then
 (zD y0 s1).bind fun x1 =>
 (zD y1 s1).bind fun x2 =>
 (rec_formula_Same x1 x2).bind fun r1 =>
 if !r1 then
 some (.inr false)
 else
 some (.inl (zF (s1+1)))
 else
 some (.inr true)
def zCK (rec_formula_Same:zC->zC->Option Bool)(rec_slices_EqualFunc_Formula__formula_Same:(List zC)->(List zC)->Option Bool)(y0:List zC)(y1:List zC): Option Bool :=
 if(len y0) != (len y1) then
 some false
 else
 zJ (zAI y0 y1 rec_formula_Same) 0
mutual
def zBl:Nat->zC->zC->Option Bool
 | 0=>fun _ _=>none
 | k+1=>fun y0 y1=>zMf (zBl k) (zAK k) y0 y1
def zAK:Nat->(List zC)->(List zC)->Option Bool
 | 0=>fun _ _=>none
 | k+1=>fun y0 y1=>zCK (zBl k) (zAK k) y0 y1
end
def zJ7 (y0:zC)(y1:zC): Option Bool:=yH fun k=>zBl k y0 y1
def zEn (y0:List zC)(y1:List zC): Option Bool:=yH fun k=>zAK k y0 y1
def zB4 (y0:List zE)(y1:List zE)(s1:Int): Option (Int⊕Bool) :=
 if decide (s1<(len y0)) then
 (zD y0 s1).bind fun x1 =>
 (zD y1 s1).bind fun x2 =>
 if !(x1==x2) then
 some (.inr false)
 else
 some (.inl (zF (s1+1)))
 else
 some (.inr true)
def zBw (y0:List zE)(y1:List zE): Option Bool :=
 if(len y0) != (len y1) then
 some false
 else
 zJ (zB4 y0 y1) 0
def zFM (y0:qZ)(y1:qZ): Option Bool :=
 (
 if y0.1==y1.1 then
 if y0.2.1==y1.2.1 then
 if y0.2.2.1==y1.2.2.1 then
 if y0.2.2.2.1==y1.2.2.2.1 then
 if y0.2.2.2.2.1==y1.2.2.2.2.1 then
 if y0.2.2.2.2.2.1.1==y1.2.2.2.2.2.1.1 then
 if y0.2.2.2.2.2.1.2.1==y1.2.2.2.2.2.1.2.1 then
 if y0.2.2.2.2.2.1.2.2.1==y1.2.2.2.2.2.1.2.2.1 then
 if y0.2.2.2.2.2.1.2.2.2.1==y1.2.2.2.2.2.1.2.2.2.1 then
 (zBw y0.2.2.2.2.2.1.2.2.2.2 y1.2.2.2.2.2.1.2.2.2.2).bind fun r1 =>
 if r1 then
 if y0.2.2.2.2.2.2.1==y1.2.2.2.2.2.2.1 then
 if y0.2.2.2.2.2.2.2.1==y1.2.2.2.2.2.2.2.1 then
 if y0.2.2.2.2.2.2.2.2.1==y1.2.2.2.2.2.2.2.2.1 then
 (zJ7 y0.2.2.2.2.2.2.2.2.2 y1.2.2.2.2.2.2.2.2.2).bind fun r2 =>
 some r2
 else
 some false
 else
 some false
 else
 some false
 else
 some false
 else
 some false
 else
 some false
 else
 some false
 else
 some false
 else
 some false
 else
 some false
 else
 some false
 else
 some false
 else
 some false:Option Bool).bind fun s1 =>
 some s1
def zCS (y0:zE): Option zA :=
 (zFC y0).bind fun r1 =>
 if !r1 then
 some []
 else
 if y0.1 then
 (qE [126] y0.2).bind fun x1 =>
 some x1
 else
 some y0.2
def zA7 (y0:zAQ)(y1:zA): Option ((List zA)×Bool) :=
 (
 if y0.2.2 then
 some true
 else
 some (y1==[]):Option Bool).bind fun s1 =>
 (qT y0.2.1 ([y1]:List zA)).bind fun x1 =>
 some (x1,s1)
def zBu (y1:List Int)(y0:zAQ)(s1:Int×(List zA)×Bool): Option ((Int×(List zA)×Bool)⊕((List zA)×Bool)) :=
 if decide (s1.1<(len y1)) then
 (zD y1 s1.1).bind fun x1 =>
 (
 if s1.2.2 then
 some true
 else
 if decide (x1<0) then
 some true
 else
 some (decide (9999<x1)):Option Bool).bind fun s2 =>
 (zEN x1).bind fun r1 =>
 (zA7 (y0.1,s1.2.1,s2) r1).bind fun r2 =>
 some (.inl (zF (s1.1+1),r2.1,r2.2))
 else
 some (.inr (s1.2.1,s1.2.2))
def zBo (y0:zAQ)(y1:List Int): Option ((List zA)×Bool) :=
 zJ (zBu y1 y0) (0,y0.2.1,y0.2.2)
def tE (y0:zAQ)(y1:zA)(y2:List Int): Option ((List zA)×Bool) :=
 (zA7 y0 y1).bind fun r1 =>
 (qT ([y0.1.2.1]:List Int) y2).bind fun x1 =>
 (zBo (y0.1,r1.1,r1.2) x1).bind fun r2 =>
 some (r2.1,r2.2)
def zFQ (y0:zC): Option Bool :=
 (
 if((fv y0).1)==1 then
 some (((fv y0).1)==1)
 else
 if((fv y0).1)==2 then
 some (((fv y0).1)==2)
 else
 some (((fv y0).1)==3):Option Bool).bind fun s1 =>
 if s1 then
 some ((len ((fv y0).2.2))==0)
 else
 if((fv y0).1)==4 then
 some ((len ((fv y0).2.2))==1)
 else
 (
 if((fv y0).1)==5 then
 some (((fv y0).1)==5)
 else
 some (((fv y0).1)==6):Option Bool).bind fun s2 =>
 if s2 then
 some ((decide (2≤(len ((fv y0).2.2))))&&(decide ((len ((fv y0).2.2))≤6)))
 else
 (
 if((fv y0).1)==7 then
 some (((fv y0).1)==7)
 else
 some (((fv y0).1)==8):Option Bool).bind fun s3 =>
 if s3 then
 some ((len ((fv y0).2.2))==2)
 else
 some false
def zAc (y0:zC)(rec_formula_all__formula_counted:zC->Option Bool)(s1:Int): Option (Int⊕Bool) :=
 if decide (s1<(len ((fv y0).2.2))) then
 (zD ((fv y0).2.2) s1).bind fun x1 =>
 (rec_formula_all__formula_counted x1).bind fun r2 =>
 if !r2 then
 some (.inr false)
 else
 some (.inl (zF (s1+1)))
 else
 some (.inr true)
def zD1 (rec_formula_all__formula_counted:zC->Option Bool)(y0:zC): Option Bool :=
 (zFQ y0).bind fun r1 =>
 if !r1 then
 some false
 else
 zJ (zAc y0 rec_formula_all__formula_counted) 0
def zAb:Nat->zC->Option Bool
 | 0=>fun _=>none
 | k+1=>fun y0=>zD1 (zAb k) y0
def zCO (y0:zC): Option Bool:=yH fun k=>zAb k y0
def zLj (y0:zC): Option Bool :=
 if((fv y0).1)==3 then
 (zBc ((fv y0).2.1)).bind fun r1 =>
 some r1
 else
 some (((fv y0).2.1)==[])
def zAh (y0:zC)(rec_formula_all__formula_named:zC->Option Bool)(s1:Int): Option (Int⊕Bool) :=
 if decide (s1<(len ((fv y0).2.2))) then
 (zD ((fv y0).2.2) s1).bind fun x1 =>
 (rec_formula_all__formula_named x1).bind fun r2 =>
 if !r2 then
 some (.inr false)
 else
 some (.inl (zF (s1+1)))
 else
 some (.inr true)
def zE2 (rec_formula_all__formula_named:zC->Option Bool)(y0:zC): Option Bool :=
 (zLj y0).bind fun r1 =>
 if !r1 then
 some false
 else
 zJ (zAh y0 rec_formula_all__formula_named) 0
def zAe:Nat->zC->Option Bool
 | 0=>fun _=>none
 | k+1=>fun y0=>zE2 (zAe k) y0
def zCZ (y0:zC): Option Bool:=yH fun k=>zAe k y0
def zEl (y0:zC): Option Int :=
 (
 (zFp y0).bind fun r1 =>
 if decide (600<r1) then
 some true
 else
 (zEw y0).bind fun r2 =>
 some (decide (20<r2)):Option Bool).bind fun s1 =>
 if s1 then
 some 2
 else
 (zCO y0).bind fun r3 =>
 if !r3 then
 some 4
 else
 (zCZ y0).bind fun r4 =>
 if !r4 then
 some 3
 else
 some 0
def zH7 (y0:zC)(y1:Int): Option Int :=
 (
 if((fv y0).1)==4 then
 some (((fv y0).1)==4)
 else
 some (((fv y0).1)==5):Option Bool).bind fun s1 =>
 if s1 then
 some 5
 else
 if((fv y0).1)==6 then
 some 4
 else
 if((fv y0).1)==7 then
 some (zF (3-y1))
 else
 some 2
def zGb (y0:zC): Option Int :=
 if((fv y0).1)==8 then
 some 1
 else
 if((fv y0).1)==7 then
 some 2
 else
 if((fv y0).1)==6 then
 some 3
 else
 if((fv y0).1)==5 then
 some 4
 else
 some 5
def zAJ (y0:zA)(y1:Int): Option (Unit×zA) :=
 (some ():Option Unit).bind fun _ =>
 (chk (decide (0≤y1)&&decide (y1<256)&&decide (len y0+1<4294967296))).bind fun _ =>
 some ((),y0++[UInt8.ofNat y1.toNat])
def zA2 (y0:zA)(y1:zA): Option (Int×Unit×zA):=z3y y0 y1
def zCx (y1:zC)(rec_formula_write:zA->zC->Option zA)(s2:Int×zA): Option ((Int×zA)⊕zA) :=
 if decide (s2.1<(len ((fv y1).2.2))) then
 (zD ((fv y1).2.2) s2.1).bind fun x1 =>
 (
 if decide (0<s2.1) then
 (zD zA0 ((fv y1).1)).bind fun x2 =>
 (zA2 s2.2 x2).bind fun r5 =>
 some r5.2.2
 else
 some s2.2:Option zA).bind fun s3 =>
 (zGb x1).bind fun r6 =>
 (zH7 y1 s2.1).bind fun r7 =>
 if decide (r6<r7) then
 (zAJ s3 40).bind fun r8 =>
 (rec_formula_write r8.2 x1).bind fun r9 =>
 (zAJ r9 41).bind fun r10 =>
 some (.inl (zF (s2.1+1),r10.2))
 else
 (rec_formula_write s3 x1).bind fun r11 =>
 some (.inl (zF (s2.1+1),r11))
 else
 some (.inr s2.2)
def zLk (rec_formula_write:zA->zC->Option zA)(y0:zA)(y1:zC): Option zA :=
 (
 if((fv y1).1)==1 then
 (zAJ y0 49).bind fun r1 =>
 some r1.2
 else
 if((fv y1).1)==2 then
 (zAJ y0 48).bind fun r2 =>
 some r2.2
 else
 if((fv y1).1)==3 then
 (zA2 y0 ((fv y1).2.1)).bind fun r3 =>
 some r3.2.2
 else
 if((fv y1).1)==4 then
 (zAJ y0 126).bind fun r4 =>
 some r4.2
 else
 some y0:Option zA).bind fun s1 =>
 zJ (zCx y1 rec_formula_write) (0,s1)
def zC8:Nat->zA->zC->Option zA
 | 0=>fun _ _=>none
 | k+1=>fun y0 y1=>zLk (zC8 k) y0 y1
def zFH (y0:zA)(y1:zC): Option zA:=yH fun k=>zC8 k y0 y1
def zBf (y0:zA): Option Int:=some (len y0)
def zBj (y0:zA): Option zA:=some y0
def zAx (y0:zC): Option (zA×Int) :=
 (zEl y0).bind fun r1 =>
 if r1 != 0 then
 some ([],r1)
 else
 (zFH ([]:zA) y0).bind fun r2 =>
 (zBf r2).bind fun r3 =>
 if decide (4096<r3) then
 some ([],2)
 else
 (zBj r2).bind fun r4 =>
 some (r4,0)
def zBP (y0:zAQ): Option ((List zA)×Bool) :=
 (zAx y0.1.2.2.2.2.2.2.2.2.2).bind fun r1 =>
 (
 if y0.2.2 then
 some true
 else
 if r1.2 != 0 then
 some true
 else
 some (decide (300<(len r1.1))):Option Bool).bind fun s1 =>
 (zA7 (y0.1,y0.2.1,s1) r1.1).bind fun r2 =>
 some (r2.1,r2.2)
def zBs (y0:zAQ): Option ((List zA)×Bool) :=
 (
 if y0.2.2 then
 some true
 else
 if y0.1.2.2.2.2.2.2.2.2.1.1 != 1 then
 some (y0.1.2.2.2.2.2.2.2.2.1.1 != 2)
 else
 some false:Option Bool).bind fun s1 =>
 if y0.1.2.2.2.2.2.2.2.2.1.2.1==2 then
 (tE (y0.1,y0.2.1,s1) [97,116,116,97,99,107] ([y0.1.2.2.1,y0.1.2.2.2.2.2.2.2.2.1.1,y0.1.2.2.2.2.2.2.2.2.1.2.2.1,y0.1.2.2.2.2.2.2.2.2.1.2.2.2]:List Int)).bind fun r1 =>
 some (r1.1,r1.2)
 else
 if y0.1.2.2.2.2.2.2.2.2.1.2.1==3 then
 (tE (y0.1,y0.2.1,s1) [116,97,107,101,98,97,99,107] ([y0.1.2.2.1,y0.1.2.2.2.2.2.2.2.2.1.1,y0.1.2.2.2.2.2.2.2.2.1.2.2.2]:List Int)).bind fun r2 =>
 some (r2.1,r2.2)
 else
 if y0.1.2.2.2.2.2.2.2.2.1.2.1==4 then
 (tE (y0.1,y0.2.1,s1) [103,105,118,101,117,112] ([y0.1.2.2.1,y0.1.2.2.2.2.2.2.2.2.1.1]:List Int)).bind fun r3 =>
 some (r3.1,r3.2)
 else
 some (y0.2.1,true)
def zCc (y0:zAQ)(s3:Int×(List zA)×Bool): Option ((Int×(List zA)×Bool)⊕((List zA)×Bool)) :=
 if decide (s3.1<(len y0.1.2.2.2.2.2.1.2.2.2.2)) then
 (zD y0.1.2.2.2.2.2.1.2.2.2.2 s3.1).bind fun x1 =>
 (zCS x1).bind fun r9 =>
 (zA7 (y0.1,s3.2.1,s3.2.2) r9).bind fun r10 =>
 some (.inl (zF (s3.1+1),r10.1,r10.2))
 else
 some (.inr (s3.2.1,s3.2.2))
def zCI (y0:zAQ): Option ((List zA)×Bool) :=
 (zCS y0.1.2.2.2.2.2.1.2.2.2.1).bind fun r1 =>
 (
 if y0.1.2.2.2.2.2.1.1==1 then
 (tE y0 [97,115,115,101,114,116] ([]:List Int)).bind fun r2 =>
 some (r2.1,r2.2)
 else
 if y0.1.2.2.2.2.2.1.1==2 then
 (tE y0 [99,104,97,108,108,101,110,103,101] ([y0.1.2.2.2.2.2.1.2.2.1]:List Int)).bind fun r3 =>
 some (r3.1,r3.2)
 else
 if y0.1.2.2.2.2.2.1.1==3 then
 (tE y0 [97,114,103,117,101] ([]:List Int)).bind fun r4 =>
 some (r4.1,r4.2)
 else
 if y0.1.2.2.2.2.2.1.1==4 then
 (tE y0 [99,111,110,99,101,100,101] ([]:List Int)).bind fun r5 =>
 some (r5.1,r5.2)
 else
 if y0.1.2.2.2.2.2.1.1==5 then
 (tE y0 [114,101,116,114,97,99,116] ([]:List Int)).bind fun r6 =>
 some (r6.1,r6.2)
 else
 some (y0.2.1,true):Option ((List zA)×Bool)).bind fun s1 =>
 (zA7 (y0.1,s1.1,s1.2) r1).bind fun r7 =>
 if y0.1.2.2.2.2.2.1.1==3 then
 (zA7 (y0.1,r7.1,r7.2) [98,101,99,97,117,115,101]).bind fun r8 =>
 (
 if r8.2 then
 some true
 else
 if(len y0.1.2.2.2.2.2.1.2.2.2.2)==0 then
 some true
 else
 some (decide (6<(len y0.1.2.2.2.2.2.1.2.2.2.2))):Option Bool).bind fun s2 =>
 zJ (zCc y0) (0,r8.1,s2)
 else
 some (r7.1,r7.2)
def zBF (y0:Int): Option Bool :=
 some ((decide (y0<32))||(decide (126<y0)))
def zBE (y0:zA)(y1:Bool): Option Int:=idxF zBF y1 y0
def zBC (y0:zA): Option Int :=
 (zBE y0 true).bind fun r1 =>
 some r1
def zAd (y0:zA): Option Bool :=
 (zBC y0).bind fun r1 =>
 some (decide (0≤r1))
def zCW (y0:zAQ): Option ((List zA)×Bool) :=
 (
 if y0.2.2 then
 some true
 else
 if decide (200<(len y0.1.2.2.2.2.1)) then
 some true
 else
 (zAd y0.1.2.2.2.2.1).bind fun r1 =>
 some r1:Option Bool).bind fun s1 =>
 (zA7 (y0.1,y0.2.1,s1) y0.1.2.2.2.2.1).bind fun r2 =>
 some (r2.1,r2.2)
def xI (y0:zAQ): Option ((List zA)×Bool) :=
 if y0.1.1==1 then
 (tE y0 [112,117,116] ([]:List Int)).bind fun r1 =>
 (zCW (y0.1,r1.1,r1.2)).bind fun r2 =>
 some (r2.1,r2.2)
 else
 if y0.1.1==2 then
 (tE y0 [114,117,108,101] ([]:List Int)).bind fun r3 =>
 (zCW (y0.1,r3.1,r3.2)).bind fun r4 =>
 some (r4.1,r4.2)
 else
 if y0.1.1==3 then
 (tE y0 [119,105,116,104,100,114,97,119] ([]:List Int)).bind fun r5 =>
 some (r5.1,r5.2)
 else
 if y0.1.1==4 then
 (zCI y0).bind fun r6 =>
 some (r6.1,r6.2)
 else
 if y0.1.1==5 then
 (tE y0 [111,112,101,110] ([]:List Int)).bind fun r7 =>
 (zCS y0.1.2.2.2.2.2.2.1).bind fun r8 =>
 (zA7 (y0.1,r7.1,r7.2) r8).bind fun r9 =>
 (zBo (y0.1,r9.1,r9.2) ([y0.1.2.2.2.2.2.2.2.1.1,y0.1.2.2.2.2.2.2.2.1.2]:List Int)).bind fun r10 =>
 some (r10.1,r10.2)
 else
 if y0.1.1==6 then
 (zBs y0).bind fun r11 =>
 some (r11.1,r11.2)
 else
 if y0.1.1==7 then
 (tE y0 [100,101,99,105,100,101] ([y0.1.2.2.2.1]:List Int)).bind fun r12 =>
 (zCS y0.1.2.2.2.2.2.2.1).bind fun r13 =>
 (zA7 (y0.1,r12.1,r12.2) r13).bind fun r14 =>
 some (r14.1,r14.2)
 else
 if y0.1.1==8 then
 (tE y0 [114,101,118,105,115,101] ([y0.1.2.2.2.1]:List Int)).bind fun r15 =>
 (zBP (y0.1,r15.1,r15.2)).bind fun r16 =>
 some (r16.1,r16.2)
 else
 if y0.1.1==9 then
 (tE y0 [117,112,100,97,116,101] ([y0.1.2.2.2.1]:List Int)).bind fun r17 =>
 (zBP (y0.1,r17.1,r17.2)).bind fun r18 =>
 some (r18.1,r18.2)
 else
 (tE y0 [109,101,114,103,101] ([y0.1.2.2.2.1]:List Int)).bind fun r19 =>
 (zBP (y0.1,r19.1,r19.2)).bind fun r20 =>
 some (r20.1,r20.2)
def zDA (y0:List zA)(y1:zA): Option zA:=z42 y0 y1
def zBO (y0:qZ): Option (zA×Int) :=
 if(decide (y0.1<1))||(decide (10<y0.1)) then
 some ([],4)
 else
 (xI (y0,([]:List zA),false)).bind fun r1 =>
 if r1.2 then
 some ([],3)
 else
 (zDA r1.1 [32]).bind fun r2 =>
 (yM r2).bind fun r3 =>
 (
 if !r3.2 then
 some true
 else
 (zFM r3.1 y0).bind fun r4 =>
 some (!r4):Option Bool).bind fun s1 =>
 if s1 then
 some ([],3)
 else
 some (r2,0)
def zA4 (y0:zA): Option (qZ×Int) :=
 (yM y0).bind fun r1 =>
 if !r1.2 then
 some ((0,0,0,0,[],(0,0,0,(false,[]),([]:List zE)),(false,[]),(0,0),(0,0,0,0),fm (0,[],([]:List zC))),3)
 else
 (zBO r1.1).bind fun r2 =>
 if(r2.2 != 0)||(!(r2.1==y0)) then
 some ((0,0,0,0,[],(0,0,0,(false,[]),([]:List zE)),(false,[]),(0,0),(0,0,0,0),fm (0,[],([]:List zC))),3)
 else
 some (r1.1,0)
def zFX:Option Bool :=
 (zA4 [97,114,103,117,101,32,48,32,112,32,98,101,99,97,117,115,101,32,113,32,126,114]).bind fun r1 =>
 (zA4 [100,101,99,105,100,101,32,49,32,50,32,126,112]).bind fun r2 =>
 (zA4 [114,101,118,105,115,101,32,48,32,49,32,40,112,32,45,62,32,113,41]).bind fun r3 =>
 (zBO r2.1).bind fun r4 =>
 some ((r1.2==0)&&((r2.2==0)&&((r3.2==3)&&((r4.2==0)&&((r1.1.1==4)&&((r1.1.2.2.2.2.2.1.1==3)&&(((len r1.1.2.2.2.2.2.1.2.2.2.2)==2)&&((r2.1.2.2.2.1==2)&&(r2.1.2.2.2.2.2.2.1.1&&(r4.1==[100,101,99,105,100,101,32,49,32,50,32,126,112]))))))))))
def zGH (y0:zC)(rec_keep_Levels:zC->Int->Option Int)(y1:Int)(s1:Int×Int): Option ((Int×Int)⊕Int) :=
 if decide (s1.2<(len ((fv y0).2.2))) then
 (zD ((fv y0).2.2) s1.2).bind fun x1 =>
 (rec_keep_Levels x1 (zF (y1-1))).bind fun r1 =>
 some (.inl (if(zF (1+r1)) > s1.1 then zF (1+r1) else s1.1,zF (s1.2+1)))
 else
 some (.inr s1.1)
def zFW (rec_keep_Levels:zC->Int->Option Int)(y0:zC)(y1:Int): Option Int :=
 if decide (y1<0) then
 some 0
 else
 zJ (zGH y0 rec_keep_Levels y1) (0,0)
def zCq:Nat->zC->Int->Option Int
 | 0=>fun _ _=>none
 | k+1=>fun y0 y1=>zFW (zCq k) y0 y1
def zKP (y0:zC)(y1:Int): Option Int:=yH fun k=>zCq k y0 y1
def zEy (y0:zC)(y1:Int)(rec_keep_Nodes:zC->Int->Option Int)(s1:Int×Int): Option ((Int×Int)⊕Int) :=
 if decide (s1.2<(len ((fv y0).2.2))) then
 if decide (y1<s1.1) then
 some (.inr s1.1)
 else
 (zD ((fv y0).2.2) s1.2).bind fun x1 =>
 (rec_keep_Nodes x1 (zF (y1-s1.1))).bind fun r1 =>
 some (.inl (zF (s1.1+r1),zF (s1.2+1)))
 else
 some (.inr s1.1)
def zQJ (rec_keep_Nodes:zC->Int->Option Int)(y0:zC)(y1:Int): Option Int :=
 zJ (zEy y0 y1 rec_keep_Nodes) (1,0)
def zGT:Nat->zC->Int->Option Int
 | 0=>fun _ _=>none
 | k+1=>fun y0 y1=>zQJ (zGT k) y0 y1
def zLp (y0:zC)(y1:Int): Option Int:=yH fun k=>zGT k y0 y1
def zCb (y0:zC)(rec_keep_short:zC->Option Bool)(s1:Int): Option (Int⊕Bool) :=
 if decide (s1<(len ((fv y0).2.2))) then
 (zD ((fv y0).2.2) s1).bind fun x1 =>
 (rec_keep_short x1).bind fun r1 =>
 if !r1 then
 some (.inr false)
 else
 some (.inl (zF (s1+1)))
 else
 some (.inr true)
def zQN (rec_keep_short:zC->Option Bool)(y0:zC): Option Bool :=
 if decide (100<(len ((fv y0).2.1))) then
 some false
 else
 zJ (zCb y0 rec_keep_short) 0
def zD2:Nat->zC->Option Bool
 | 0=>fun _=>none
 | k+1=>fun y0=>zQN (zD2 k) y0
def zLf (y0:zC): Option Bool:=yH fun k=>zD2 k y0
def zDj (y0:zC): Option Bool :=
 (
 (zLp y0 800).bind fun r1 =>
 if decide (r1≤800) then
 (zKP y0 30).bind fun r2 =>
 if decide (r2≤30) then
 (zLf y0).bind fun r3 =>
 some r3
 else
 some false
 else
 some false:Option Bool).bind fun s1 =>
 some s1
def zHx (y0:qZ): Option Bool :=
 (
 if decide ((len y0.2.2.2.2.1)≤400) then
 if decide ((len y0.2.2.2.2.2.1.2.2.2.2)≤20) then
 (zDj y0.2.2.2.2.2.2.2.2.2).bind fun r1 =>
 some r1
 else
 some false
 else
 some false:Option Bool).bind fun s1 =>
 some s1
def zR1 (y0:zC)(y1:zC)(rec_ref02_Same:zC->zC->Option Bool)(s1:Int): Option (Int⊕Bool) :=
 if decide (s1<(len ((fv y0).2.2))) then
 (zD ((fv y0).2.2) s1).bind fun x1 =>
 (zD ((fv y1).2.2) s1).bind fun x2 =>
 (rec_ref02_Same x1 x2).bind fun r1 =>
 if !r1 then
 some (.inr false)
 else
 some (.inl (zF (s1+1)))
 else
 some (.inr true)
def zQR (rec_ref02_Same:zC->zC->Option Bool)(y0:zC)(y1:zC): Option Bool :=
 if(((fv y0).1) != ((fv y1).1))||((!(((fv y0).2.1)==((fv y1).2.1)))||((len ((fv y0).2.2)) != (len ((fv y1).2.2)))) then
 some false
 else
 zJ (zR1 y0 y1 rec_ref02_Same) 0
def zD0:Nat->zC->zC->Option Bool
 | 0=>fun _ _=>none
 | k+1=>fun y0 y1=>zQR (zD0 k) y0 y1
def zLl (y0:zC)(y1:zC): Option Bool:=yH fun k=>zD0 k y0 y1
def zLB (y0:List zE)(y1:List zE)(s1:Int): Option (Int⊕Bool) :=
 if decide (s1<(len y0)) then
 (zD y0 s1).bind fun x1 =>
 (zD y1 s1).bind fun x2 =>
 if !(x1==x2) then
 some (.inr false)
 else
 some (.inl (zF (s1+1)))
 else
 some (.inr true)
def zGL (y0:List zE)(y1:List zE): Option Bool :=
 if(len y0) != (len y1) then
 some false
 else
 zJ (zLB y0 y1) 0
def zFI (y0:qZ)(y1:qZ): Option Bool :=
 (
 if y0.1==y1.1 then
 if y0.2.1==y1.2.1 then
 if y0.2.2.1==y1.2.2.1 then
 if y0.2.2.2.1==y1.2.2.2.1 then
 if y0.2.2.2.2.1==y1.2.2.2.2.1 then
 if y0.2.2.2.2.2.1.1==y1.2.2.2.2.2.1.1 then
 if y0.2.2.2.2.2.1.2.1==y1.2.2.2.2.2.1.2.1 then
 if y0.2.2.2.2.2.1.2.2.1==y1.2.2.2.2.2.1.2.2.1 then
 if y0.2.2.2.2.2.1.2.2.2.1==y1.2.2.2.2.2.1.2.2.2.1 then
 (zGL y0.2.2.2.2.2.1.2.2.2.2 y1.2.2.2.2.2.1.2.2.2.2).bind fun r1 =>
 if r1 then
 if y0.2.2.2.2.2.2.1==y1.2.2.2.2.2.2.1 then
 if y0.2.2.2.2.2.2.2.1==y1.2.2.2.2.2.2.2.1 then
 if y0.2.2.2.2.2.2.2.2.1==y1.2.2.2.2.2.2.2.2.1 then
 (zLl y0.2.2.2.2.2.2.2.2.2 y1.2.2.2.2.2.2.2.2.2).bind fun r2 =>
 some r2
 else
 some false
 else
 some false
 else
 some false
 else
 some false
 else
 some false
 else
 some false
 else
 some false
 else
 some false
 else
 some false
 else
 some false
 else
 some false
 else
 some false
 else
 some false:Option Bool).bind fun s1 =>
 some s1
def zDD (y0:zA)(s2:Int): Option (Int⊕Bool) :=
 if decide (s2<(len y0)) then
 (
 (vR y0 s2).bind fun x3 =>
 if decide (x3<97) then
 (vR y0 s2).bind fun x4 =>
 if decide (x4<48) then
 (vR y0 s2).bind fun x5 =>
 some (x5 != 95)
 else
 (vR y0 s2).bind fun x6 =>
 if decide (57<x6) then
 (vR y0 s2).bind fun x7 =>
 some (x7 != 95)
 else
 some false
 else
 (vR y0 s2).bind fun x8 =>
 if decide (122<x8) then
 (vR y0 s2).bind fun x9 =>
 if decide (x9<48) then
 (vR y0 s2).bind fun x10 =>
 some (x10 != 95)
 else
 (vR y0 s2).bind fun x11 =>
 if decide (57<x11) then
 (vR y0 s2).bind fun x12 =>
 some (x12 != 95)
 else
 some false
 else
 some false:Option Bool).bind fun s3 =>
 if s3 then
 some (.inr false)
 else
 some (.inl (zF (s2+1)))
 else
 some (.inr true)
def zAy (y0:zA): Option Bool :=
 (
 if decide ((len y0)<1) then
 some true
 else
 if decide (12<(len y0)) then
 some true
 else
 (vR y0 0).bind fun x1 =>
 if decide (x1<97) then
 some true
 else
 (vR y0 0).bind fun x2 =>
 some (decide (122<x2)):Option Bool).bind fun s1 =>
 if s1 then
 some false
 else
 zJ (zDD y0) 0
def zBI (y0:zE): Option Bool :=
 (zAy y0.2).bind fun r1 =>
 some r1
def zB2 (y0:zE): Option zA :=
 (zBI y0).bind fun r1 =>
 if !r1 then
 some []
 else
 if y0.1 then
 (qE [126] y0.2).bind fun x1 =>
 some x1
 else
 some y0.2
def zGA (y0:zC)(rec_ref02_Depth:zC->Option Int)(s1:Int×Int): Option ((Int×Int)⊕Int) :=
 if decide (s1.2<(len ((fv y0).2.2))) then
 (zD ((fv y0).2.2) s1.2).bind fun x1 =>
 (rec_ref02_Depth x1).bind fun r1 =>
 some (.inl (if(zF (1+r1)) > s1.1 then zF (1+r1) else s1.1,zF (s1.2+1)))
 else
 some (.inr s1.1)
def zK2 (rec_ref02_Depth:zC->Option Int)(y0:zC): Option Int :=
 zJ (zGA y0 rec_ref02_Depth) (0,0)
def zCz:Nat->zC->Option Int
 | 0=>fun _=>none
 | k+1=>fun y0=>zK2 (zCz k) y0
def zHn (y0:zC): Option Int:=yH fun k=>zCz k y0
def zGn (y0:zC)(rec_ref02_Size:zC->Option Int)(s1:Int×Int): Option ((Int×Int)⊕Int) :=
 if decide (s1.2<(len ((fv y0).2.2))) then
 (zD ((fv y0).2.2) s1.2).bind fun x1 =>
 (rec_ref02_Size x1).bind fun r1 =>
 some (.inl (zF (s1.1+r1),zF (s1.2+1)))
 else
 some (.inr s1.1)
def zLu (rec_ref02_Size:zC->Option Int)(y0:zC): Option Int :=
 zJ (zGn y0 rec_ref02_Size) (1,0)
def zD3:Nat->zC->Option Int
 | 0=>fun _=>none
 | k+1=>fun y0=>zLu (zD3 k) y0
def zIy (y0:zC): Option Int:=yH fun k=>zD3 k y0
def zDv (y0:zC)(rec_ref02_kinds:zC->Option Bool)(s5:Bool×Int): Option ((Bool×Int)⊕Bool) :=
 if decide (s5.2<(len ((fv y0).2.2))) then
 (
 if s5.1 then
 (zD ((fv y0).2.2) s5.2).bind fun x1 =>
 (rec_ref02_kinds x1).bind fun r1 =>
 some r1
 else
 some false:Option Bool).bind fun s6 =>
 some (.inl (s6,zF (s5.2+1)))
 else
 some (.inr s5.1)
def zID (rec_ref02_kinds:zC->Option Bool)(y0:zC): Option Bool :=
 (
 (
 if((fv y0).1)==1 then
 some (((fv y0).1)==1)
 else
 if((fv y0).1)==2 then
 some (((fv y0).1)==2)
 else
 some (((fv y0).1)==3):Option Bool).bind fun s2 =>
 if s2 then
 some ((len ((fv y0).2.2))==0)
 else
 if((fv y0).1)==4 then
 some ((len ((fv y0).2.2))==1)
 else
 (
 if((fv y0).1)==5 then
 some (((fv y0).1)==5)
 else
 some (((fv y0).1)==6):Option Bool).bind fun s3 =>
 if s3 then
 some ((decide (2≤(len ((fv y0).2.2))))&&(decide ((len ((fv y0).2.2))≤6)))
 else
 (
 if((fv y0).1)==7 then
 some (((fv y0).1)==7)
 else
 some (((fv y0).1)==8):Option Bool).bind fun s4 =>
 if s4 then
 some ((len ((fv y0).2.2))==2)
 else
 some false:Option Bool).bind fun s1 =>
 zJ (zDv y0 rec_ref02_kinds) (s1,0)
def zCr:Nat->zC->Option Bool
 | 0=>fun _=>none
 | k+1=>fun y0=>zID (zCr k) y0
def zHy (y0:zC): Option Bool:=yH fun k=>zCr k y0
def zDq (y0:zC)(rec_ref02_names:zC->Option Bool)(s2:Bool×Int): Option ((Bool×Int)⊕Bool) :=
 if decide (s2.2<(len ((fv y0).2.2))) then
 (
 if s2.1 then
 (zD ((fv y0).2.2) s2.2).bind fun x1 =>
 (rec_ref02_names x1).bind fun r2 =>
 some r2
 else
 some false:Option Bool).bind fun s3 =>
 some (.inl (s3,zF (s2.2+1)))
 else
 some (.inr s2.1)
def zOH (rec_ref02_names:zC->Option Bool)(y0:zC): Option Bool :=
 (
 if((fv y0).1)==3 then
 (zAy ((fv y0).2.1)).bind fun r1 =>
 some r1
 else
 some (((fv y0).2.1)==[]):Option Bool).bind fun s1 =>
 zJ (zDq y0 rec_ref02_names) (s1,0)
def zDi:Nat->zC->Option Bool
 | 0=>fun _=>none
 | k+1=>fun y0=>zOH (zDi k) y0
def zKC (y0:zC): Option Bool:=yH fun k=>zDi k y0
def zGF (y0:zC): Option Int :=
 (
 (zIy y0).bind fun r1 =>
 if decide (600<r1) then
 some true
 else
 (zHn y0).bind fun r2 =>
 some (decide (20<r2)):Option Bool).bind fun s1 =>
 if s1 then
 some 2
 else
 (zHy y0).bind fun r3 =>
 if !r3 then
 some 4
 else
 (zKC y0).bind fun r4 =>
 if !r4 then
 some 3
 else
 some 0
def zGD (y0:zC): Option Int :=
 if((fv y0).1)==8 then
 some 1
 else
 if((fv y0).1)==7 then
 some 2
 else
 if((fv y0).1)==6 then
 some 3
 else
 if((fv y0).1)==5 then
 some 4
 else
 some 5
def zKj (rec_ref02_argument:zC->Int->Option zA)(rec_ref02_joined:(List zC)->zA->Int->Option zA)(rec_ref02_text:zC->Option zA)(y0:zC)(y1:Int): Option zA :=
 (zGD y0).bind fun r1 =>
 if decide (r1<y1) then
 (rec_ref02_text y0).bind fun r2 =>
 (qE [40] r2).bind fun x1 =>
 (qE x1 [41]).bind fun x2 =>
 some x2
 else
 (rec_ref02_text y0).bind fun r3 =>
 some r3
def zDT (y0:List zC)(y1:zA)(rec_ref02_argument:zC->Int->Option zA)(y2:Int)(s1:zA×Int): Option ((zA×Int)⊕zA) :=
 if decide (s1.2<(len y0)) then
 (qE s1.1 y1).bind fun x2 =>
 (zD y0 s1.2).bind fun x3 =>
 (rec_ref02_argument x3 y2).bind fun r2 =>
 (qE x2 r2).bind fun x4 =>
 some (.inl (x4,zF (s1.2+1)))
 else
 some (.inr s1.1)
def zMs (rec_ref02_argument:zC->Int->Option zA)(rec_ref02_joined:(List zC)->zA->Int->Option zA)(rec_ref02_text:zC->Option zA)(y0:List zC)(y1:zA)(y2:Int): Option zA :=
 (zD y0 0).bind fun x1 =>
 (rec_ref02_argument x1 y2).bind fun r1 =>
 zJ (zDT y0 y1 rec_ref02_argument y2) (r1,1)
def zQT (rec_ref02_argument:zC->Int->Option zA)(rec_ref02_joined:(List zC)->zA->Int->Option zA)(rec_ref02_text:zC->Option zA)(y0:zC): Option zA :=
 if((fv y0).1)==1 then
 some [49]
 else
 if((fv y0).1)==2 then
 some [48]
 else
 if((fv y0).1)==3 then
 some ((fv y0).2.1)
 else
 if((fv y0).1)==4 then
 (zD ((fv y0).2.2) 0).bind fun x1 =>
 (rec_ref02_argument x1 5).bind fun r1 =>
 (qE [126] r1).bind fun x2 =>
 some x2
 else
 if((fv y0).1)==5 then
 (rec_ref02_joined ((fv y0).2.2) [32,38,32] 5).bind fun r2 =>
 some r2
 else
 if((fv y0).1)==6 then
 (rec_ref02_joined ((fv y0).2.2) [32,124,32] 4).bind fun r3 =>
 some r3
 else
 if((fv y0).1)==7 then
 (zD ((fv y0).2.2) 0).bind fun x3 =>
 (zD ((fv y0).2.2) 1).bind fun x4 =>
 (rec_ref02_argument x3 3).bind fun r4 =>
 (qE r4 [32,45,62,32]).bind fun x5 =>
 (rec_ref02_argument x4 2).bind fun r5 =>
 (qE x5 r5).bind fun x6 =>
 some x6
 else
 (rec_ref02_joined ((fv y0).2.2) [32,60,45,62,32] 2).bind fun r6 =>
 some r6
mutual
def zA1:Nat->zC->Int->Option zA
 | 0=>fun _ _=>none
 | k+1=>fun y0 y1=>zKj (zA1 k) (zBk k) (zBi k) y0 y1
def zBk:Nat->(List zC)->zA->Int->Option zA
 | 0=>fun _ _ _=>none
 | k+1=>fun y0 y1 y2=>zMs (zA1 k) (zBk k) (zBi k) y0 y1 y2
def zBi:Nat->zC->Option zA
 | 0=>fun _=>none
 | k+1=>fun y0=>zQT (zA1 k) (zBk k) (zBi k) y0
end
def zQa (y0:zC)(y1:Int): Option zA:=yH fun k=>zA1 k y0 y1
def zT7 (y0:List zC)(y1:zA)(y2:Int): Option zA:=yH fun k=>zBk k y0 y1 y2
def zLy (y0:zC): Option zA:=yH fun k=>zBi k y0
def zAR (y0:zC): Option (zA×Int) :=
 (zGF y0).bind fun r1 =>
 if r1 != 0 then
 some ([],r1)
 else
 (zLy y0).bind fun r2 =>
 if decide (4096<(len r2)) then
 some ([],2)
 else
 some (r2,0)
def zJ0 (rec_ref41_digits:Int->Option zA)(y0:Int): Option zA :=
 if decide (y0<10) then
 some (zKH ([IntKind.u8.wrap (zF (48+y0))]:List Int))
 else
 (
 (z3i .i64 y0 10).bind fun x1 =>
 (z4q y0 10).bind fun x2 =>
 (rec_ref41_digits x1).bind fun r1 =>
 (qE r1 (zKH ([IntKind.u8.wrap (zF (48+x2))]:List Int))).bind fun x3 =>
 some x3:Option zA).bind fun s1 =>
 some s1
def zEL:Nat->Int->Option zA
 | 0=>fun _=>none
 | k+1=>fun y0=>zJ0 (zEL k) y0
def zAS (y0:Int): Option zA:=yH fun k=>zEL k y0
def zFD (y0:qZ)(y1:zA): Option zA :=
 (zAS y0.2.2.1).bind fun r1 =>
 (qE y1 r1).bind fun x1 =>
 (qE x1 [32]).bind fun x2 =>
 (zAS y0.2.2.2.2.2.2.2.2.1.1).bind fun r2 =>
 (qE x2 r2).bind fun x3 =>
 if y0.2.2.2.2.2.2.2.2.1.2.1==2 then
 (qE [97,116,116,97,99,107] x3).bind fun x4 =>
 (qE x4 [32]).bind fun x5 =>
 (zAS y0.2.2.2.2.2.2.2.2.1.2.2.1).bind fun r3 =>
 (qE x5 r3).bind fun x6 =>
 (qE x6 [32]).bind fun x7 =>
 (zAS y0.2.2.2.2.2.2.2.2.1.2.2.2).bind fun r4 =>
 (qE x7 r4).bind fun x8 =>
 some x8
 else
 if y0.2.2.2.2.2.2.2.2.1.2.1==3 then
 (qE [116,97,107,101,98,97,99,107] x3).bind fun x9 =>
 (qE x9 [32]).bind fun x10 =>
 (zAS y0.2.2.2.2.2.2.2.2.1.2.2.2).bind fun r5 =>
 (qE x10 r5).bind fun x11 =>
 some x11
 else
 (qE [103,105,118,101,117,112] x3).bind fun x12 =>
 some x12
def zFt (y0:qZ)(s2:zA×Int): Option ((zA×Int)⊕(Unit⊕zA)) :=
 if decide (s2.2<(len y0.2.2.2.2.2.1.2.2.2.2)) then
 (zD y0.2.2.2.2.2.1.2.2.2.2 s2.2).bind fun x10 =>
 (zB2 x10).bind fun r3 =>
 (qE [32] r3).bind fun x11 =>
 (qE s2.1 x11).bind fun x12 =>
 some (.inl (x12,zF (s2.2+1)))
 else
 some (.inr (.inr s2.1))
def zGN (y0:qZ)(y1:zA): Option zA :=
 (zB2 y0.2.2.2.2.2.1.2.2.2.1).bind fun r1 =>
 uQ (
 if y0.2.2.2.2.2.1.1==1 then
 (qE [97,115,115,101,114,116] y1).bind fun x1 =>
 (qE x1 r1).bind fun x2 =>
 some (.inr x2)
 else
 if y0.2.2.2.2.2.1.1==2 then
 (qE [99,104,97,108,108,101,110,103,101] y1).bind fun x3 =>
 (zAS y0.2.2.2.2.2.1.2.2.1).bind fun r2 =>
 (qE x3 r2).bind fun x4 =>
 (qE x4 [32]).bind fun x5 =>
 (qE x5 r1).bind fun x6 =>
 some (.inr x6)
 else
 if y0.2.2.2.2.2.1.1==3 then
 (qE [97,114,103,117,101] y1).bind fun x7 =>
 (qE x7 r1).bind fun x8 =>
 (qE x8 [32,98,101,99,97,117,115,101]).bind fun x9 =>
 zJ (zFt y0) (x9,0)
 else
 if y0.2.2.2.2.2.1.1==4 then
 (qE [99,111,110,99,101,100,101] y1).bind fun x13 =>
 (qE x13 r1).bind fun x14 =>
 some (.inr x14)
 else
 some (.inl ()):Option (Unit⊕zA)) fun _ =>
 (qE [114,101,116,114,97,99,116] y1).bind fun x15 =>
 (qE x15 r1).bind fun x16 =>
 some x16
def zAn (y0:qZ): Option zA :=
 (zAS y0.2.1).bind fun r1 =>
 (qE [32] r1).bind fun x1 =>
 (qE x1 [32]).bind fun x2 =>
 (zB2 y0.2.2.2.2.2.2.1).bind fun r2 =>
 (zAR y0.2.2.2.2.2.2.2.2.2).bind fun r3 =>
 if y0.1==1 then
 (qE [112,117,116] x2).bind fun x3 =>
 (qE x3 y0.2.2.2.2.1).bind fun x4 =>
 some x4
 else
 if y0.1==2 then
 (qE [114,117,108,101] x2).bind fun x5 =>
 (qE x5 y0.2.2.2.2.1).bind fun x6 =>
 some x6
 else
 if y0.1==3 then
 (zAS y0.2.1).bind fun r4 =>
 (qE [119,105,116,104,100,114,97,119,32] r4).bind fun x7 =>
 some x7
 else
 if y0.1==4 then
 (zGN y0 x2).bind fun r5 =>
 some r5
 else
 if y0.1==5 then
 (qE [111,112,101,110] x2).bind fun x8 =>
 (qE x8 r2).bind fun x9 =>
 (qE x9 [32]).bind fun x10 =>
 (zAS y0.2.2.2.2.2.2.2.1.1).bind fun r6 =>
 (qE x10 r6).bind fun x11 =>
 (qE x11 [32]).bind fun x12 =>
 (zAS y0.2.2.2.2.2.2.2.1.2).bind fun r7 =>
 (qE x12 r7).bind fun x13 =>
 some x13
 else
 if y0.1==6 then
 (zFD y0 x2).bind fun r8 =>
 some r8
 else
 if y0.1==7 then
 (qE [100,101,99,105,100,101] x2).bind fun x14 =>
 (zAS y0.2.2.2.1).bind fun r9 =>
 (qE x14 r9).bind fun x15 =>
 (qE x15 [32]).bind fun x16 =>
 (qE x16 r2).bind fun x17 =>
 some x17
 else
 if y0.1==8 then
 (qE [114,101,118,105,115,101] x2).bind fun x18 =>
 (zAS y0.2.2.2.1).bind fun r10 =>
 (qE x18 r10).bind fun x19 =>
 (qE x19 [32]).bind fun x20 =>
 (qE x20 r3.1).bind fun x21 =>
 some x21
 else
 if y0.1==9 then
 (qE [117,112,100,97,116,101] x2).bind fun x22 =>
 (zAS y0.2.2.2.1).bind fun r11 =>
 (qE x22 r11).bind fun x23 =>
 (qE x23 [32]).bind fun x24 =>
 (qE x24 r3.1).bind fun x25 =>
 some x25
 else
 (qE [109,101,114,103,101] x2).bind fun x26 =>
 (zAS y0.2.2.2.1).bind fun r12 =>
 (qE x26 r12).bind fun x27 =>
 (qE x27 [32]).bind fun x28 =>
 (qE x28 r3.1).bind fun x29 =>
 some x29
def zBr (y0:zA)(s2:Int): Option (Int⊕(Unit⊕Bool)) :=
 if decide (s2<(len y0)) then
 (
 (vR y0 s2).bind fun x1 =>
 if decide (x1<32) then
 some true
 else
 (vR y0 s2).bind fun x2 =>
 some (decide (126<x2)):Option Bool).bind fun s3 =>
 if s3 then
 some (.inr (.inr false))
 else
 some (.inl (zF (s2+1)))
 else
 some (.inr (.inl ()))
def zFY (y0:zA): Option Bool :=
 uQ (zJ (zBr y0) 0:Option (Unit⊕Bool)) fun _ =>
 some ((decide (1≤(len y0)))&&(decide ((len y0)≤200)))
def zBH (y0:Int): Option Bool :=
 some ((decide (0≤y0))&&(decide (y0≤9999)))
def zEE (y0:qZ)(s5:Bool×Int): Option ((Bool×Int)⊕Bool) :=
 if decide (s5.2<(len y0.2.2.2.2.2.1.2.2.2.2)) then
 (
 if s5.1 then
 (zD y0.2.2.2.2.2.1.2.2.2.2 s5.2).bind fun x1 =>
 (zBI x1).bind fun r4 =>
 some r4
 else
 some false:Option Bool).bind fun s6 =>
 some (.inl (s6,zF (s5.2+1)))
 else
 some (.inr s5.1)
def zAk (y0:qZ): Option Bool :=
 uQ (
 (
 if y0.1==1 then
 some (y0.1==1)
 else
 some (y0.1==2):Option Bool).bind fun s2 =>
 if s2 then
 (zFY y0.2.2.2.2.1).bind fun r1 =>
 some (.inr r1)
 else
 if y0.1==3 then
 some (.inr true)
 else
 if y0.1==4 then
 (
 (zBI y0.2.2.2.2.2.1.2.2.2.1).bind fun r2 =>
 if r2 then
 (zBH y0.2.2.2.2.2.1.2.2.1).bind fun r3 =>
 if r3 then
 if decide (1≤y0.2.2.2.2.2.1.1) then
 some (decide (y0.2.2.2.2.2.1.1≤5))
 else
 some false
 else
 some false
 else
 some false:Option Bool).bind fun s3 =>
 (zJ (zEE y0) (s3,0):Option Bool).bind fun s4 =>
 some (.inr (s4&&((y0.2.2.2.2.2.1.1 != 3)||((decide (1≤(len y0.2.2.2.2.2.1.2.2.2.2)))&&(decide ((len y0.2.2.2.2.2.1.2.2.2.2)≤6))))))
 else
 if y0.1==5 then
 (
 (zBI y0.2.2.2.2.2.2.1).bind fun r5 =>
 if r5 then
 (zBH y0.2.2.2.2.2.2.2.1.1).bind fun r6 =>
 if r6 then
 (zBH y0.2.2.2.2.2.2.2.1.2).bind fun r7 =>
 some r7
 else
 some false
 else
 some false:Option Bool).bind fun s7 =>
 some (.inr s7)
 else
 if y0.1==6 then
 (
 (zBH y0.2.2.1).bind fun r8 =>
 if r8 then
 if y0.2.2.2.2.2.2.2.2.1.1==1 then
 if decide (2≤y0.2.2.2.2.2.2.2.2.1.2.1) then
 if decide (y0.2.2.2.2.2.2.2.2.1.2.1≤4) then
 (zBH y0.2.2.2.2.2.2.2.2.1.2.2.1).bind fun r9 =>
 if r9 then
 (zBH y0.2.2.2.2.2.2.2.2.1.2.2.2).bind fun r10 =>
 some r10
 else
 some false
 else
 some false
 else
 some false
 else
 if y0.2.2.2.2.2.2.2.2.1.1==2 then
 if decide (2≤y0.2.2.2.2.2.2.2.2.1.2.1) then
 if decide (y0.2.2.2.2.2.2.2.2.1.2.1≤4) then
 (zBH y0.2.2.2.2.2.2.2.2.1.2.2.1).bind fun r11 =>
 if r11 then
 (zBH y0.2.2.2.2.2.2.2.2.1.2.2.2).bind fun r12 =>
 some r12
 else
 some false
 else
 some false
 else
 some false
 else
 some false
 else
 some false:Option Bool).bind fun s8 =>
 some (.inr s8)
 else
 if y0.1==7 then
 (
 (zBI y0.2.2.2.2.2.2.1).bind fun r13 =>
 if r13 then
 (zBH y0.2.2.2.1).bind fun r14 =>
 some r14
 else
 some false:Option Bool).bind fun s9 =>
 some (.inr s9)
 else
 some (.inl ()):Option (Unit⊕Bool)) fun _ =>
 (zAR y0.2.2.2.2.2.2.2.2.2).bind fun r15 =>
 (
 if r15.2==0 then
 if decide ((len r15.1)≤300) then
 (zBH y0.2.2.2.1).bind fun r16 =>
 some r16
 else
 some false
 else
 some false:Option Bool).bind fun s10 =>
 some s10
def zCY (y0:zA): Option (zE×Int) :=
 (
 (
 if decide (0<(len y0)) then
 (vR y0 0).bind fun x1 =>
 some (x1==126)
 else
 some false:Option Bool).bind fun s2 =>
 if s2 then
 (sub y0 1 (len y0)).bind fun x2 =>
 some (true,x2)
 else
 some (false,y0):Option (Bool×zA)).bind fun s1 =>
 (zBI (s1.1,s1.2)).bind fun r1 =>
 if !r1 then
 some ((false,[]),3)
 else
 some ((s1.1,s1.2),0)
def zHU (y0:Int): Option Bool :=
 some (if decide (97≤y0) then(decide (y0≤122))||(if decide (48≤y0) then(decide (y0≤57))||(y0==95) else y0==95) else if decide (48≤y0) then(decide (y0≤57))||(y0==95) else y0==95)
def zAf (y0:wK)(s2:Int): Option (Int⊕Int) :=
 (
 if decide (s2<(len y0.1)) then
 (vR y0.1 s2).bind fun x1 =>
 some (x1==32)
 else
 some false:Option Bool).bind fun s3 =>
 if s3 then
 some (.inl (zF (s2+1)))
 else
 some (.inr s2)
def zC3 (y0:wK)(s5:Int): Option (Int⊕Int) :=
 (
 if decide (s5<(len y0.1)) then
 (vR y0.1 s5).bind fun x2 =>
 (zHU x2).bind fun r1 =>
 if r1 then
 some true
 else
 (vR y0.1 s5).bind fun x3 =>
 if decide (65≤x3) then
 (vR y0.1 s5).bind fun x4 =>
 some (decide (x4≤90))
 else
 some false
 else
 some false:Option Bool).bind fun s6 =>
 if s6 then
 some (.inl (zF (s5+1)))
 else
 some (.inr s5)
def zA8 (y0:wK)(s1:Int)(s8:Int): Option (Int⊕(zA×Int)) :=
 if decide (s8<(len ([[126],[38],[124],[45,62],[60,45,62],[40],[41]]:List zA))) then
 (zD ([[126],[38],[124],[45,62],[60,45,62],[40],[41]]:List zA) s8).bind fun x6 =>
 (
 if decide ((len x6)≤(zF ((len y0.1)-s1))) then
 (sub y0.1 s1 (zF (s1+(len x6)))).bind fun x7 =>
 some (x7==x6)
 else
 some false:Option Bool).bind fun s9 =>
 if s9 then
 some (.inr (x6,s1))
 else
 some (.inl (zF (s8+1)))
 else
 some (.inr ([63],s1))
def zAF (y0:wK): Option (zA×Int) :=
 (zJ (zAf y0) y0.2.1:Option Int).bind fun s1 =>
 if s1==(len y0.1) then
 some ([],s1)
 else
 (zJ (zC3 y0) s1:Option Int).bind fun s4 =>
 if decide (s1<s4) then
 (sub y0.1 s1 s4).bind fun x5 =>
 (
 if x5==[48] then
 some true
 else
 if x5==[49] then
 some true
 else
 (zAy x5).bind fun r2 =>
 some r2:Option Bool).bind fun s7 =>
 if s7 then
 some (x5,s1)
 else
 some ([63],s1)
 else
 zJ (zA8 y0 s1) 0
def zAs (y0:wK): Option (zC×Int) :=
 (
 if decide (y0.2.2<0) then
 (zAF y0).bind fun r1 =>
 some r1.2
 else
 some y0.2.2:Option Int).bind fun s1 =>
 some (fm (0,[],([]:List zC)),s1)
def xO (y0:wK)(y1:zA): Option (Bool×Int) :=
 (zAF y0).bind fun r1 =>
 if(!(r1.1==y1))||(decide (0≤y0.2.2)) then
 some (false,y0.2.1)
 else
 some (true,zF (r1.2+(len y1)))
def zL0 (y0:wK)(rec_ref02_reader_unary:wK->Option (zC×Int×Int))(s2:(List zC)×Int×Int): Option (((List zC)×Int×Int)⊕((List zC)×Int×Int)) :=
 (xO (y0.1,s2.2.1,s2.2.2) [38]).bind fun r2 =>
 if r2.1 then
 (rec_ref02_reader_unary (y0.1,r2.2,s2.2.2)).bind fun r3 =>
 (qT s2.1 ([r3.1]:List zC)).bind fun x1 =>
 some (.inl (x1,r3.2.1,r3.2.2))
 else
 some (.inr (s2.1,r2.2,s2.2.2))
def zIu (rec_ref02_reader_and:wK->Option (zC×Int×Int))(rec_ref02_reader_iff:wK->Option (zC×Int×Int))(rec_ref02_reader_implies:wK->Option (zC×Int×Int))(rec_ref02_reader_or:wK->Option (zC×Int×Int))(rec_ref02_reader_unary:wK->Option (zC×Int×Int))(y0:wK): Option (zC×Int×Int) :=
 (rec_ref02_reader_unary y0).bind fun r1 =>
 (zJ (zL0 y0 rec_ref02_reader_unary) (([r1.1]:List zC),r1.2.1,r1.2.2):Option ((List zC)×Int×Int)).bind fun s1 =>
 if(len s1.1)==1 then
 (zD s1.1 0).bind fun x2 =>
 some (x2,s1.2.1,s1.2.2)
 else
 some (fm (5,[],s1.1),s1.2.1,s1.2.2)
def zJI (rec_ref02_reader_and:wK->Option (zC×Int×Int))(rec_ref02_reader_iff:wK->Option (zC×Int×Int))(rec_ref02_reader_implies:wK->Option (zC×Int×Int))(rec_ref02_reader_or:wK->Option (zC×Int×Int))(rec_ref02_reader_unary:wK->Option (zC×Int×Int))(y0:wK): Option (zC×Int×Int) :=
 (rec_ref02_reader_implies y0).bind fun r1 =>
 (xO (y0.1,r1.2.1,r1.2.2) [60,45,62]).bind fun r2 =>
 if r2.1 then
 (rec_ref02_reader_implies (y0.1,r2.2,r1.2.2)).bind fun r3 =>
 some (fm (8,[],([r1.1,r3.1]:List zC)),r3.2.1,r3.2.2)
 else
 some (r1.1,r2.2,r1.2.2)
def zGu (rec_ref02_reader_and:wK->Option (zC×Int×Int))(rec_ref02_reader_iff:wK->Option (zC×Int×Int))(rec_ref02_reader_implies:wK->Option (zC×Int×Int))(rec_ref02_reader_or:wK->Option (zC×Int×Int))(rec_ref02_reader_unary:wK->Option (zC×Int×Int))(y0:wK): Option (zC×Int×Int) :=
 (rec_ref02_reader_or y0).bind fun r1 =>
 (xO (y0.1,r1.2.1,r1.2.2) [45,62]).bind fun r2 =>
 if r2.1 then
 (rec_ref02_reader_implies (y0.1,r2.2,r1.2.2)).bind fun r3 =>
 some (fm (7,[],([r1.1,r3.1]:List zC)),r3.2.1,r3.2.2)
 else
 some (r1.1,r2.2,r1.2.2)
def zMY (y0:wK)(rec_ref02_reader_and:wK->Option (zC×Int×Int))(s2:(List zC)×Int×Int): Option (((List zC)×Int×Int)⊕((List zC)×Int×Int)) :=
 (xO (y0.1,s2.2.1,s2.2.2) [124]).bind fun r2 =>
 if r2.1 then
 (rec_ref02_reader_and (y0.1,r2.2,s2.2.2)).bind fun r3 =>
 (qT s2.1 ([r3.1]:List zC)).bind fun x1 =>
 some (.inl (x1,r3.2.1,r3.2.2))
 else
 some (.inr (s2.1,r2.2,s2.2.2))
def zJl (rec_ref02_reader_and:wK->Option (zC×Int×Int))(rec_ref02_reader_iff:wK->Option (zC×Int×Int))(rec_ref02_reader_implies:wK->Option (zC×Int×Int))(rec_ref02_reader_or:wK->Option (zC×Int×Int))(rec_ref02_reader_unary:wK->Option (zC×Int×Int))(y0:wK): Option (zC×Int×Int) :=
 (rec_ref02_reader_and y0).bind fun r1 =>
 (zJ (zMY y0 rec_ref02_reader_and) (([r1.1]:List zC),r1.2.1,r1.2.2):Option ((List zC)×Int×Int)).bind fun s1 =>
 if(len s1.1)==1 then
 (zD s1.1 0).bind fun x2 =>
 some (x2,s1.2.1,s1.2.2)
 else
 some (fm (6,[],s1.1),s1.2.1,s1.2.2)
def zA6 (rec_ref02_reader_and:wK->Option (zC×Int×Int))(rec_ref02_reader_iff:wK->Option (zC×Int×Int))(rec_ref02_reader_implies:wK->Option (zC×Int×Int))(rec_ref02_reader_or:wK->Option (zC×Int×Int))(rec_ref02_reader_unary:wK->Option (zC×Int×Int))(y0:wK): Option (zC×Int×Int) :=
 (xO y0 [126]).bind fun r1 =>
 if r1.1 then
 (rec_ref02_reader_unary (y0.1,r1.2,y0.2.2)).bind fun r2 =>
 some (fm (4,[],([r2.1]:List zC)),r2.2.1,r2.2.2)
 else
 (xO (y0.1,r1.2,y0.2.2) [40]).bind fun r3 =>
 if r3.1 then
 (rec_ref02_reader_iff (y0.1,r3.2,y0.2.2)).bind fun r4 =>
 (
 if decide (r4.2.2<0) then
 (xO (y0.1,r4.2.1,r4.2.2) [41]).bind fun r5 =>
 some (!r5.1,r5.2)
 else
 some (false,r4.2.1):Option (Bool×Int)).bind fun s1 =>
 if s1.1 then
 (zAs (y0.1,s1.2,r4.2.2)).bind fun r6 =>
 some (r6.1,s1.2,r6.2)
 else
 some (r4.1,s1.2,r4.2.2)
 else
 (zAF (y0.1,r3.2,y0.2.2)).bind fun r7 =>
 (
 if r7.1==[] then
 some true
 else
 (vR r7.1 0).bind fun x1 =>
 (zHU x1).bind fun r8 =>
 if !r8 then
 some true
 else
 some (decide (0≤y0.2.2)):Option Bool).bind fun s2 =>
 if s2 then
 (zAs (y0.1,r3.2,y0.2.2)).bind fun r9 =>
 some (r9.1,r3.2,r9.2)
 else
 if r7.1==[49] then
 some (fm (1,[],([]:List zC)),zF (r7.2+(len r7.1)),y0.2.2)
 else
 if r7.1==[48] then
 some (fm (2,[],([]:List zC)),zF (r7.2+(len r7.1)),y0.2.2)
 else
 some (fm (3,r7.1,([]:List zC)),zF (r7.2+(len r7.1)),y0.2.2)
mutual
def zAU:Nat->wK->Option (zC×Int×Int)
 | 0=>fun _=>none
 | k+1=>fun y0=>zIu (zAU k) (zAX k) (zAN k) (zA5 k) (zAT k) y0
def zAX:Nat->wK->Option (zC×Int×Int)
 | 0=>fun _=>none
 | k+1=>fun y0=>zJI (zAU k) (zAX k) (zAN k) (zA5 k) (zAT k) y0
def zAN:Nat->wK->Option (zC×Int×Int)
 | 0=>fun _=>none
 | k+1=>fun y0=>zGu (zAU k) (zAX k) (zAN k) (zA5 k) (zAT k) y0
def zA5:Nat->wK->Option (zC×Int×Int)
 | 0=>fun _=>none
 | k+1=>fun y0=>zJl (zAU k) (zAX k) (zAN k) (zA5 k) (zAT k) y0
def zAT:Nat->wK->Option (zC×Int×Int)
 | 0=>fun _=>none
 | k+1=>fun y0=>zA6 (zAU k) (zAX k) (zAN k) (zA5 k) (zAT k) y0
end
def zOh (y0:wK): Option (zC×Int×Int):=yH fun k=>zAU k y0
def zG7 (y0:wK): Option (zC×Int×Int):=yH fun k=>zAX k y0
def zLI (y0:wK): Option (zC×Int×Int):=yH fun k=>zAN k y0
def zP5 (y0:wK): Option (zC×Int×Int):=yH fun k=>zA5 k y0
def zM6 (y0:wK): Option (zC×Int×Int):=yH fun k=>zAT k y0
def zC2 (y0:zA): Option (zC×Int×Int) :=
 if decide (4096<(len y0)) then
 some (fm (0,[],([]:List zC)),0,2)
 else
 (zG7 (y0,0,(-1))).bind fun r1 =>
 (
 (zAF (y0,r1.2.1,r1.2.2)).bind fun r2 =>
 if !(r2.1==[]) then
 (zAs (y0,r1.2.1,r1.2.2)).bind fun r3 =>
 some r3.2
 else
 some r1.2.2:Option Int).bind fun s1 =>
 if decide (0≤s1) then
 some (fm (0,[],([]:List zC)),s1,3)
 else
 (
 (zIy r1.1).bind fun r4 =>
 if decide (600<r4) then
 some true
 else
 (zHn r1.1).bind fun r5 =>
 if decide (20<r5) then
 some true
 else
 (zHy r1.1).bind fun r6 =>
 some (!r6):Option Bool).bind fun s2 =>
 if s2 then
 some (fm (0,[],([]:List zC)),0,2)
 else
 some (r1.1,0,0)
def xX (y0:List zA)(y1:Int): Option zA :=
 if decide (y1<(len y0)) then
 (zD y0 y1).bind fun x1 =>
 some x1
 else
 some []
def zCD (y0:zA): Option Int :=
 if y0==[114,101,118,105,115,101] then
 some 8
 else
 if y0==[117,112,100,97,116,101] then
 some 9
 else
 if y0==[109,101,114,103,101] then
 some 10
 else
 some 0
def zBN (y0:zA): Option Int :=
 if y0==[97,116,116,97,99,107] then
 some 2
 else
 if y0==[116,97,107,101,98,97,99,107] then
 some 3
 else
 if y0==[103,105,118,101,117,112] then
 some 4
 else
 some 0
def zPG (y0:zA)(s2:Int×Int): Option ((Int×Int)⊕Int) :=
 if decide (s2.2<(len y0)) then
 (
 (vR y0 s2.2).bind fun x2 =>
 if decide (x2<48) then
 some true
 else
 (vR y0 s2.2).bind fun x3 =>
 some (decide (57<x3)):Option Bool).bind fun s3 =>
 if s3 then
 some (.inr (-1))
 else
 (vR y0 s2.2).bind fun x4 =>
 some (.inl (zF ((zF (s2.1*10))+(zF (IntKind.u8.wrap (x4-48)))),zF (s2.2+1)))
 else
 some (.inr s2.1)
def zAl (y0:zA): Option Int :=
 (
 if decide ((len y0)<1) then
 some true
 else
 if decide (4<(len y0)) then
 some true
 else
 if decide (1<(len y0)) then
 (vR y0 0).bind fun x1 =>
 some (x1==48)
 else
 some false:Option Bool).bind fun s1 =>
 if s1 then
 some (-1)
 else
 zJ (zPG y0) (0,0)
def zDP (y0:zA)(s1:Int×Int): Option ((Int×Int)⊕zA) :=
 if decide (s1.2<(len y0)) then
 (vR y0 s1.2).bind fun x1 =>
 if x1==32 then
 if(zF (s1.1-1))==0 then
 (sub y0 (zF (s1.2+1)) (len y0)).bind fun x2 =>
 some (.inr x2)
 else
 some (.inl (zF (s1.1-1),zF (s1.2+1)))
 else
 some (.inl (s1.1,zF (s1.2+1)))
 else
 some (.inr [])
def zEr (y0:zA)(y1:Int): Option zA :=
 zJ (zDP y0) (y1,0)
def zAV (y0:zA): Option Int :=
 if y0==[97,115,115,101,114,116] then
 some 1
 else
 if y0==[99,104,97,108,108,101,110,103,101] then
 some 2
 else
 if y0==[97,114,103,117,101] then
 some 3
 else
 if y0==[99,111,110,99,101,100,101] then
 some 4
 else
 if y0==[114,101,116,114,97,99,116] then
 some 5
 else
 some 0
def zQ3 (y0:zA)(s2:(List zA)×zA×Int): Option (((List zA)×zA×Int)⊕((List zA)×zA)) :=
 if decide (s2.2.2<(len y0)) then
 (vR y0 s2.2.2).bind fun x1 =>
 if x1==32 then
 (qT s2.1 ([s2.2.1]:List zA)).bind fun x2 =>
 some (.inl (x2,[],zF (s2.2.2+1)))
 else
 (sub y0 s2.2.2 (zF (s2.2.2+1))).bind fun x3 =>
 (qE s2.2.1 x3).bind fun x4 =>
 some (.inl (s2.1,x4,zF (s2.2.2+1)))
 else
 some (.inr (s2.1,s2.2.1))
def zIE (y0:zA): Option (List zA) :=
 (zJ (zQ3 y0) (([]:List zA),[],0):Option ((List zA)×zA)).bind fun s1 =>
 (qT s1.1 ([s1.2]:List zA)).bind fun x5 =>
 some x5
def zDU (r1:(List zA))(r7:Int)(s2:Int×Int)(r11:zE×Int)(s3:Int×(List zE)): Option ((Int×(List zE))⊕(Int×Int×Int×zA×Int×Int×Bool×zA×(List zE)×Bool×zA×Int×Int×Int×Int×Int×Int×Int×zA×(List zC))) :=
 if(decide (s3.1<(len r1)))&&(r7==3) then
 (zD r1 s3.1).bind fun x6 =>
 (zCY x6).bind fun r12 =>
 (qT s3.2 ([r12.1]:List zE)).bind fun x7 =>
 some (.inl (zF (s3.1+1),x7))
 else
 some (.inr (4,0,0,[],r7,s2.2,r11.1.1,r11.1.2,s3.2,false,[],0,0,0,0,0,0,0,[],([]:List zC)))
def uN (y0:zA): Option qZ :=
 (zIE y0).bind fun r1 =>
 (xX r1 1).bind fun r2 =>
 (zAl r2).bind fun r3 =>
 (
 (zD r1 0).bind fun x1 =>
 if x1==[112,117,116] then
 (zEr y0 2).bind fun r4 =>
 some (1,0,0,r4,0,0,false,[],([]:List zE),false,[],0,0,0,0,0,0,0,[],([]:List zC))
 else
 (zD r1 0).bind fun x2 =>
 if x2==[114,117,108,101] then
 (zEr y0 2).bind fun r5 =>
 some (2,0,0,r5,0,0,false,[],([]:List zE),false,[],0,0,0,0,0,0,0,[],([]:List zC))
 else
 (zD r1 0).bind fun x3 =>
 if x3==[119,105,116,104,100,114,97,119] then
 some (3,0,0,[],0,0,false,[],([]:List zE),false,[],0,0,0,0,0,0,0,[],([]:List zC))
 else
 (zD r1 0).bind fun x4 =>
 (zAV x4).bind fun r6 =>
 if decide (0<r6) then
 (zD r1 0).bind fun x5 =>
 (zAV x5).bind fun r7 =>
 (
 if r7==2 then
 (xX r1 2).bind fun r8 =>
 (zAl r8).bind fun r9 =>
 some (3,r9)
 else
 some (2,0):Option (Int×Int)).bind fun s2 =>
 (xX r1 s2.1).bind fun r10 =>
 (zCY r10).bind fun r11 =>
 zJ (zDU r1 r7 s2 r11) (4,([]:List zE))
 else
 (zD r1 0).bind fun x8 =>
 if x8==[111,112,101,110] then
 (xX r1 3).bind fun r13 =>
 (zAl r13).bind fun r14 =>
 (xX r1 4).bind fun r15 =>
 (zAl r15).bind fun r16 =>
 (xX r1 2).bind fun r17 =>
 (zCY r17).bind fun r18 =>
 some (5,0,0,[],0,0,false,[],([]:List zE),r18.1.1,r18.1.2,r14,r16,0,0,0,0,0,[],([]:List zC))
 else
 (zD r1 0).bind fun x9 =>
 (zBN x9).bind fun r19 =>
 if decide (0<r19) then
 (xX r1 2).bind fun r20 =>
 (zAl r20).bind fun r21 =>
 (zD r1 0).bind fun x10 =>
 (xX r1 3).bind fun r22 =>
 (zAl r22).bind fun r23 =>
 (zBN x10).bind fun r24 =>
 if r24==2 then
 (xX r1 4).bind fun r25 =>
 (zAl r25).bind fun r26 =>
 (xX r1 5).bind fun r27 =>
 (zAl r27).bind fun r28 =>
 some (6,r21,0,[],0,0,false,[],([]:List zE),false,[],0,0,r23,r24,r26,r28,0,[],([]:List zC))
 else
 if r24==3 then
 (xX r1 4).bind fun r29 =>
 (zAl r29).bind fun r30 =>
 some (6,r21,0,[],0,0,false,[],([]:List zE),false,[],0,0,r23,r24,0,r30,0,[],([]:List zC))
 else
 some (6,r21,0,[],0,0,false,[],([]:List zE),false,[],0,0,r23,r24,0,0,0,[],([]:List zC))
 else
 (zD r1 0).bind fun x11 =>
 if x11==[100,101,99,105,100,101] then
 (xX r1 2).bind fun r31 =>
 (zAl r31).bind fun r32 =>
 (xX r1 3).bind fun r33 =>
 (zCY r33).bind fun r34 =>
 some (7,0,r32,[],0,0,false,[],([]:List zE),r34.1.1,r34.1.2,0,0,0,0,0,0,0,[],([]:List zC))
 else
 (zD r1 0).bind fun x12 =>
 (zCD x12).bind fun r35 =>
 if decide (0<r35) then
 (zD r1 0).bind fun x13 =>
 (zCD x13).bind fun r36 =>
 (xX r1 2).bind fun r37 =>
 (zAl r37).bind fun r38 =>
 (zEr y0 3).bind fun r39 =>
 (zC2 r39).bind fun r40 =>
 some (r36,0,r38,[],0,0,false,[],([]:List zE),false,[],0,0,0,0,0,0,(fv r40.1).1,(fv r40.1).2.1,(fv r40.1).2.2)
 else
 some (0,0,0,[],0,0,false,[],([]:List zE),false,[],0,0,0,0,0,0,0,[],([]:List zC)):Option (Int×Int×Int×zA×Int×Int×Bool×zA×(List zE)×Bool×zA×Int×Int×Int×Int×Int×Int×Int×zA×(List zC))).bind fun s1 =>
 some (s1.1,r3,s1.2.1,s1.2.2.1,s1.2.2.2.1,(s1.2.2.2.2.1,0,s1.2.2.2.2.2.1,(s1.2.2.2.2.2.2.1,s1.2.2.2.2.2.2.2.1),s1.2.2.2.2.2.2.2.2.1),(s1.2.2.2.2.2.2.2.2.2.1,s1.2.2.2.2.2.2.2.2.2.2.1),(s1.2.2.2.2.2.2.2.2.2.2.2.1,s1.2.2.2.2.2.2.2.2.2.2.2.2.1),(s1.2.2.2.2.2.2.2.2.2.2.2.2.2.1,s1.2.2.2.2.2.2.2.2.2.2.2.2.2.2.1,s1.2.2.2.2.2.2.2.2.2.2.2.2.2.2.2.1,s1.2.2.2.2.2.2.2.2.2.2.2.2.2.2.2.2.1),fm (s1.2.2.2.2.2.2.2.2.2.2.2.2.2.2.2.2.2.1,s1.2.2.2.2.2.2.2.2.2.2.2.2.2.2.2.2.2.2.1,s1.2.2.2.2.2.2.2.2.2.2.2.2.2.2.2.2.2.2.2))
def zCt (y0:qZ): Option (zA×Int) :=
 if(decide (y0.1<1))||(decide (10<y0.1)) then
 some ([],4)
 else
 (
 (zBH y0.2.1).bind fun r1 =>
 if !r1 then
 some true
 else
 (zAk y0).bind fun r2 =>
 some (!r2):Option Bool).bind fun s1 =>
 if s1 then
 some ([],3)
 else
 (zAn y0).bind fun r3 =>
 (uN r3).bind fun r4 =>
 (zFI r4 y0).bind fun r5 =>
 if !r5 then
 some ([],3)
 else
 some (r3,0)
def zHQ (y0:vH): Option (Int×Int) :=
 if decide ((len y0.1)≤y0.2) then
 some (0,y0.2)
 else
 (zD y0.1 (zF ((zF (y0.2+1))-1))).bind fun x1 =>
 some (x1,zF (y0.2+1))
def yN (y0:vH)(y1:Int): Option (Int×Int) :=
 (zHQ y0).bind fun r1 =>
 (zHF r1.1 y1).bind fun r2 =>
 some (r2,r1.2)
def zCv (s1:Int×Int)(rec_keep_Src_Formula:vH->Int->Int->Option (zC×Int))(y0:vH)(y1:Int)(y2:Int)(s4:Int×Int×(List zC)): Option ((Int×Int×(List zC))⊕(Int×(List zC))) :=
 if decide (s4.1<s1.1) then
 (rec_keep_Src_Formula (y0.1,s4.2.1) y1 (zF (y2-1))).bind fun r5 =>
 (qT s4.2.2 ([r5.1]:List zC)).bind fun x2 =>
 some (.inl (zF (s4.1+1),r5.2,x2))
 else
 some (.inr (s4.2.1,s4.2.2))
def zAi (rec_keep_Src_Formula:vH->Int->Int->Option (zC×Int))(y0:vH)(y1:Int)(y2:Int): Option (zC×Int) :=
 (yN y0 12).bind fun r1 =>
 if(decide (y2<1))||(decide (r1.1<4)) then
 if r1.1==0 then
 (yN (y0.1,r1.2) 2).bind fun r2 =>
 some (fm (zF (1+r2.1),[],([]:List zC)),r2.2)
 else
 (yN (y0.1,r1.2) y1).bind fun r3 =>
 some (fm (3,zKH ([IntKind.u8.wrap (zF (97+r3.1))]:List Int),([]:List zC)),r3.2)
 else
 (zD ([4,4,5,5,6,6,7,8]:List Int) (zF (r1.1-4))).bind fun x1 =>
 (
 if x1==4 then
 some (1,r1.2)
 else
 (
 if x1==5 then
 some (x1==5)
 else
 some (x1==6):Option Bool).bind fun s2 =>
 if s2 then
 (yN (y0.1,r1.2) 2).bind fun r4 =>
 some (zF (2+r4.1),r4.2)
 else
 some (2,r1.2):Option (Int×Int)).bind fun s1 =>
 (zJ (zCv s1 rec_keep_Src_Formula y0 y1 y2) (0,s1.2,([]:List zC)):Option (Int×(List zC))).bind fun s3 =>
 some (fm (x1,[],s3.2),s3.1)
def zAo:Nat->vH->Int->Int->Option (zC×Int)
 | 0=>fun _ _ _=>none
 | k+1=>fun y0 y1 y2=>zAi (zAo k) y0 y1 y2
def zGf (y0:vH)(y1:Int)(y2:Int): Option (zC×Int):=yH fun k=>zAo k y0 y1 y2
def zAq (y0:vH)(y1:Int): Option (zE×Int) :=
 (yN y0 (zF (2*y1))).bind fun r1 =>
 (z3i .i64 r1.1 2).bind fun x1 =>
 some (((z7n .i64 r1.1 1)==1,zKH ([IntKind.u8.wrap (zF (97+x1))]:List Int)),r1.2)
def zDV (y0:vH)(y1:List Int): Option (Int×Int) :=
 (yN y0 (len y1)).bind fun r1 =>
 (zD y1 r1.1).bind fun x1 =>
 some (x1,r1.2)
def zAj (y0:vH)(y1:Int)(y2:Int): Option (Int×Int) :=
 (yN y0 (zF ((zF (y2-y1))+1))).bind fun r1 =>
 some (zF (y1+r1.1),r1.2)
def zC9 (y0:vH)(y1:List zA): Option (zA×Int) :=
 (yN y0 (len y1)).bind fun r1 =>
 (zD y1 r1.1).bind fun x1 =>
 some (x1,r1.2)
def zSL (y0:xU)(s1:(List Bool)×Int)(s4:(List Bool)×Int): Option (((List Bool)×Int)⊕(List Bool)) :=
 if decide (s4.2<(len y0.2.2.2)) then
 (
 (zD s4.1 s1.2).bind fun x5 =>
 if x5 then
 (zD s4.1 s1.2).bind fun _ =>
 some (List.set s4.1 (Int.toNat s1.2) true)
 else
 (zD y0.2.2.2 s4.2).bind fun x7 =>
 if x7.2.1==3 then
 (zD y0.2.2.2 s4.2).bind fun x8 =>
 (zD s4.1 s1.2).bind fun _ =>
 some (List.set s4.1 (Int.toNat s1.2) (x8.2.2.2==s1.2))
 else
 (zD s4.1 s1.2).bind fun _ =>
 some (List.set s4.1 (Int.toNat s1.2) false):Option (List Bool)).bind fun s5 =>
 some (.inl (s5,zF (s4.2+1)))
 else
 some (.inr s4.1)
def zSH (y0:xU)(s1:(List Bool)×Int): Option (((List Bool)×Int)⊕(List Bool)) :=
 if decide (s1.2<(len y0.2.2.2)) then
 (zD y0.2.2.2 s1.2).bind fun x2 =>
 (
 if x2.2.1==3 then
 (zD s1.1 s1.2).bind fun _ =>
 some (List.set s1.1 (Int.toNat s1.2) true)
 else
 (zD s1.1 s1.2).bind fun _ =>
 some (List.set s1.1 (Int.toNat s1.2) (x2.2.1==4)):Option (List Bool)).bind fun s2 =>
 (zJ (zSL y0 s1) (s2,zF (s1.2+1)):Option (List Bool)).bind fun s3 =>
 if x2.2.1==2 then
 (
 (zD s3 s1.2).bind fun x11 =>
 if x11 then
 (zD s3 s1.2).bind fun _ =>
 some (List.set s3 (Int.toNat s1.2) true)
 else
 (zD s3 x2.2.2.2).bind fun x13 =>
 (zD s3 s1.2).bind fun _ =>
 some (List.set s3 (Int.toNat s1.2) x13):Option (List Bool)).bind fun s6 =>
 some (.inl (s6,zF (s1.2+1)))
 else
 some (.inl (s3,zF (s1.2+1)))
 else
 some (.inr s1.1)
def zQX (y0:xU): Option (List Bool) :=
 (mkS (len y0.2.2.2) (len y0.2.2.2) (false:Bool)).bind fun x1 =>
 zJ (zSH y0) (x1,0)
def zPY (y0:xU)(s1:(List Int)×Int)(s2:(List Int)×Int): Option (((List Int)×Int)⊕(((List Int)×Int)⊕(List Int))) :=
 if decide (s2.2<(len y0.2.2.2)) then
 (
 (zD y0.2.2.2 s2.2).bind fun x4 =>
 if x4.2.1==2 then
 (zD y0.2.2.2 s2.2).bind fun x5 =>
 if x5.2.2.2==s1.2 then
 (zD s2.1 s2.2).bind fun x6 =>
 some (x6==1)
 else
 some false
 else
 some false:Option Bool).bind fun s3 =>
 if s3 then
 (zD s2.1 s1.2).bind fun _ =>
 some (.inl (List.set s2.1 (Int.toNat s1.2) 2,zF (s2.2+1)))
 else
 some (.inl (s2.1,zF (s2.2+1)))
 else
 some (.inr (.inl (s2.1,zF (s1.2-1))))
def zPS (r1:(List Bool))(y0:xU)(s1:(List Int)×Int): Option (((List Int)×Int)⊕(List Int)) :=
 if decide (0≤s1.2) then
 (zD r1 s1.2).bind fun x2 =>
 if x2 then
 some (.inl (s1.1,zF (s1.2-1)))
 else
 (zD s1.1 s1.2).bind fun _ =>
 zJ (zPY y0 s1) (List.set s1.1 (Int.toNat s1.2) 1,zF (s1.2+1))
 else
 some (.inr s1.1)
def zFu (y0:xU): Option (List Int) :=
 (zQX y0).bind fun r1 =>
 (mkS (len y0.2.2.2) (len y0.2.2.2) (0:Int)).bind fun x1 =>
 zJ (zPS r1 y0) (x1,zF ((len y0.2.2.2)-1))
def zWw (y0:uF)(y1:Int)(y2:Int)(s1:Int): Option (Int⊕Bool) :=
 if decide (s1<(len y0.2)) then
 (
 (zD y0.2 s1).bind fun x1 =>
 if x1.1==y1 then
 (zD y0.2 s1).bind fun x2 =>
 some (x2.2==y2)
 else
 some false:Option Bool).bind fun s2 =>
 if s2 then
 some (.inr true)
 else
 some (.inl (zF (s1+1)))
 else
 some (.inr false)
def zW2 (y0:uF)(y1:Int)(y2:Int): Option Bool :=
 zJ (zWw y0 y1 y2) 0
def zYO (y0:List Int)(y1:Int)(s1:Int): Option (Int⊕Bool) :=
 if decide (s1<(len y0)) then
 (zD y0 s1).bind fun x1 =>
 if x1==y1 then
 some (.inr true)
 else
 some (.inl (zF (s1+1)))
 else
 some (.inr false)
def zZY (y0:List Int)(y1:Int): Option Bool :=
 zJ (zYO y0 y1) 0
def zFz (y0:List Int): Option Int :=
 (zD y0 0).bind fun x1 =>
 if x1==1 then
 some 1
 else
 some 2
def zNn (y0:xU)(r1:(List Int))(s1:(List Int)×Int): Option (((List Int)×Int)⊕(List Int)) :=
 if decide (s1.2<(len y0.2.2.2)) then
 (zD y0.2.2.2 s1.2).bind fun x1 =>
 (
 (zD r1 s1.2).bind fun x2 =>
 if x2==0 then
 some true
 else
 (zZY s1.1 x1.2.2.2).bind fun r2 =>
 some (!r2):Option Bool).bind fun s2 =>
 if s2 then
 some (.inl (s1.1,zF (s1.2+1)))
 else
 (
 (zD y0.2.2.2 x1.2.2.2).bind fun x3 =>
 (zFz r1).bind fun r3 =>
 if x3.1==r3 then
 some true
 else
 (zD r1 s1.2).bind fun x4 =>
 some (x4==1):Option Bool).bind fun s3 =>
 if s3 then
 (qT s1.1 ([s1.2]:List Int)).bind fun x5 =>
 some (.inl (x5,zF (s1.2+1)))
 else
 some (.inl (s1.1,zF (s1.2+1)))
 else
 some (.inr s1.1)
def zL2 (y0:xU): Option (List Int) :=
 (zFu y0).bind fun r1 =>
 zJ (zNn y0 r1) (([0]:List Int),1)
def zNZ (y0:xU)(y2:Int)(s2:Int): Option (Int⊕(Unit⊕Bool)) :=
 if decide (0<s2) then
 (
 (zD y0.2.2.2 s2).bind fun x1 =>
 if x1.1==1 then
 (zD y0.2.2.2 s2).bind fun x2 =>
 some (x2.2.2.1==y2)
 else
 some false:Option Bool).bind fun s3 =>
 if s3 then
 some (.inr (.inr true))
 else
 (zD y0.2.2.2 s2).bind fun x3 =>
 some (.inl x3.2.2.2)
 else
 some (.inr (.inl ()))
def zKq (y0:xU)(y1:Int)(y2:Int): Option Bool :=
 uQ (zJ (zNZ y0 y2) y1:Option (Unit⊕Bool)) fun _ =>
 (zD y0.2.2.2 0).bind fun x4 =>
 some (x4.2.2.1==y2)
def zNz (y0:xU)(x1:Int)(s2:(List zFm)×Int)(s4:Bool×Int): Option ((Bool×Int)⊕Bool) :=
 if decide (s4.2<(len y0.2.2.2)) then
 (
 if s4.1 then
 (zD y0.2.2.2 s4.2).bind fun x4 =>
 if x4.2.1==2 then
 (zD y0.2.2.2 s4.2).bind fun x5 =>
 if x5.2.2.2==x1 then
 (zD y0.2.2.2 s4.2).bind fun x6 =>
 some (!(x6.2.2.1==s2.2))
 else
 some true
 else
 some true
 else
 some false:Option Bool).bind fun s5 =>
 some (.inl (s5,zF (s4.2+1)))
 else
 some (.inr s4.1)
def zOV (y0:xU)(x1:Int)(r2:Int)(s1:(List zFm)×Int)(s2:(List zFm)×Int): Option (((List zFm)×Int)⊕(((List zFm)×Int)⊕(List zFm))) :=
 if decide (s2.2<y0.1.1) then
 (zD y0.2.2.2 x1).bind fun x3 =>
 (zW2 y0.1 s2.2 x3.2.2.1).bind fun r4 =>
 (zJ (zNz y0 x1 s2) (r4,0):Option Bool).bind fun s3 =>
 (
 if s3 then
 if(zF (3-r2))==2 then
 some true
 else
 (zKq y0 x1 s2.2).bind fun r5 =>
 some (!r5)
 else
 some false:Option Bool).bind fun s6 =>
 if s6 then
 (qT s2.1 ([(zF (3-r2),2,s2.2,x1)]:List zFm)).bind fun x7 =>
 some (.inl (x7,zF (s2.2+1)))
 else
 some (.inl (s2.1,zF (s2.2+1)))
 else
 some (.inr (.inl (s2.1,zF (s1.2+1))))
def zO8 (r3:(List Int))(y0:xU)(r2:Int)(s1:(List zFm)×Int): Option (((List zFm)×Int)⊕(List zFm)) :=
 if decide (s1.2<(len r3)) then
 (zD r3 s1.2).bind fun x1 =>
 (zD y0.2.2.2 x1).bind fun x2 =>
 if x2.1==(zF (3-r2)) then
 some (.inl (s1.1,zF (s1.2+1)))
 else
 zJ (zOV y0 x1 r2 s1) (s1.1,0)
 else
 some (.inr s1.1)
def zIU (y0:xU): Option (List zFm) :=
 (zFu y0).bind fun r1 =>
 (zFz r1).bind fun r2 =>
 (zL2 y0).bind fun r3 =>
 zJ (zO8 r3 y0 r2) (([]:List zFm),0)
def zTj (y0:xU)(r2:Int)(s2:Int×Int): Option ((Int×Int)⊕Int) :=
 if decide (s2.2<(len y0.2.2.2)) then
 (zD y0.2.2.2 s2.2).bind fun x2 =>
 if x2.1 != r2 then
 some (.inl (zF (s2.1+1),zF (s2.2+1)))
 else
 some (.inl (s2.1,zF (s2.2+1)))
 else
 some (.inr s2.1)
def zSh (y0:xU): Option zVq :=
 (zD y0.2.2.2 (zF ((len y0.2.2.2)-1))).bind fun x1 =>
 if x1.2.1==4 then
 some (zF (3-x1.1),3)
 else
 (zFu y0).bind fun r1 =>
 (zFz r1).bind fun r2 =>
 (zJ (zTj y0 r2) (0,0):Option Int).bind fun s1 =>
 if decide (200≤(len y0.2.2.2)) then
 some (r2,4)
 else
 (zD ([y0.2.2.1.1,y0.2.2.1.2]:List Int) (zF (2-r2))).bind fun x3 =>
 if decide (x3≤s1) then
 some (r2,2)
 else
 (zIU y0).bind fun r3 =>
 if(len r3)==0 then
 some (r2,1)
 else
 some (0,0)
def zQW (y0:xU): Option Int :=
 (zSh y0).bind fun r1 =>
 if !(r1==(0,0)) then
 some 0
 else
 (zFu y0).bind fun r2 =>
 (zFz r2).bind fun r3 =>
 some (zF (3-r3))
def zOi (y0:xU): Option (List zFm) :=
 (zQW y0).bind fun r1 =>
 if r1==0 then
 some ([]:List zFm)
 else
 (zIU y0).bind fun r2 =>
 some r2
def zHL (y0:List zE)(y1:zE)(s1:Int): Option (Int⊕Bool) :=
 if decide (s1<(len y0)) then
 (zD y0 s1).bind fun x1 =>
 if x1==y1 then
 some (.inr true)
 else
 some (.inl (zF (s1+1)))
 else
 some (.inr false)
def zIV (y0:List zE)(y1:zE): Option Bool :=
 zJ (zHL y0 y1) 0
def zEv (y0:zE)(y1:zE): Option Int :=
 if y0==y1 then
 some 0
 else
 if(yX y0.2 y1.2)||((y0.2==y1.2)&&y1.1) then
 some (-1)
 else
 some 1
def zDH (y0:List zE)(y1:zE)(s2:Int): Option (Int⊕Int) :=
 (
 if decide (s2<(len y0)) then
 (zD y0 s2).bind fun x1 =>
 (zEv x1 y1).bind fun r1 =>
 some (decide (r1<0))
 else
 some false:Option Bool).bind fun s3 =>
 if s3 then
 some (.inl (zF (s2+1)))
 else
 some (.inr s2)
def zFg (y0:List zE)(y1:zE): Option (List zE) :=
 (zJ (zDH y0 y1) 0:Option Int).bind fun s1 =>
 (
 if decide (s1<(len y0)) then
 (zD y0 s1).bind fun x2 =>
 some (x2==y1)
 else
 some false:Option Bool).bind fun s4 =>
 if s4 then
 some y0
 else
 (sub y0 0 s1).bind fun x3 =>
 (qT ([]:List zE) x3).bind fun x4 =>
 (sub y0 s1 (len y0)).bind fun x5 =>
 (qT x4 ([y1]:List zE)).bind fun x6 =>
 (qT x6 x5).bind fun x7 =>
 some x7
def zCh (y1:List Int)(y0:List zU)(s1:(List zE)×Int): Option (((List zE)×Int)⊕(List zE)) :=
 if decide (s1.2<(len y1)) then
 (
 (zD y1 s1.2).bind fun x1 =>
 if decide (0≤x1) then
 (zD y1 s1.2).bind fun x2 =>
 some (decide (x2<(len y0)))
 else
 some false:Option Bool).bind fun s2 =>
 if s2 then
 (zD y1 s1.2).bind fun x3 =>
 (zD y0 x3).bind fun x4 =>
 (zFg s1.1 x4.2.2.2).bind fun r1 =>
 some (.inl (r1,zF (s1.2+1)))
 else
 some (.inl (s1.1,zF (s1.2+1)))
 else
 some (.inr s1.1)
def zCA (y0:List zU)(y1:List Int): Option (List zE) :=
 zJ (zCh y1 y0) (([]:List zE),0)
def zDg (y0:uF)(s1:Int): Option (Int⊕Int) :=
 if decide (s1<(len y0.2)) then
 (zD y0.2 s1).bind fun x1 =>
 if(decide (x1.1<0))||((decide (y0.1≤x1.1))||((decide (x1.2<0))||(decide (y0.1≤x1.2)))) then
 some (.inr 1)
 else
 (
 if decide (0<s1) then
 (zD y0.2 (zF (s1-1))).bind fun x2 =>
 if decide (x1.1<x2.1) then
 some true
 else
 (zD y0.2 (zF (s1-1))).bind fun x3 =>
 if x3.1==x1.1 then
 (zD y0.2 (zF (s1-1))).bind fun x4 =>
 some (decide (x1.2≤x4.2))
 else
 some false
 else
 some false:Option Bool).bind fun s2 =>
 if s2 then
 some (.inr 8)
 else
 some (.inl (zF (s1+1)))
 else
 some (.inr 0)
def zBt (y0:uF): Option Int :=
 if(decide (y0.1<0))||(decide (40<y0.1)) then
 some 1
 else
 zJ (zDg y0) 0
def zIB (y0:uF): Option uF :=
 (zBt y0).bind fun r1 =>
 if r1 != 0 then
 some (0,([]:List wU))
 else
 some y0
def zDF (r1:uF)(y1:Int)(s1:(List Int)×Int): Option (((List Int)×Int)⊕(List Int)) :=
 if decide (s1.2<(len r1.2)) then
 (zD r1.2 s1.2).bind fun x1 =>
 if x1.2==y1 then
 (zD r1.2 s1.2).bind fun x2 =>
 (qT s1.1 ([x2.1]:List Int)).bind fun x3 =>
 some (.inl (x3,zF (s1.2+1)))
 else
 some (.inl (s1.1,zF (s1.2+1)))
 else
 some (.inr s1.1)
def zDL (y0:uF)(y1:Int): Option (List Int) :=
 (zIB y0).bind fun r1 =>
 zJ (zDF r1 y1) (([]:List Int),0)
def zEB (y0:uF)(s2:(List Int)×(List Int)×Int): Option (((List Int)×(List Int)×Int)⊕((List Int)×(List Int))) :=
 if decide (s2.2.2<y0.1) then
 (qT s2.1 ([3]:List Int)).bind fun x1 =>
 (qT s2.2.1 ([0]:List Int)).bind fun x2 =>
 some (.inl (x1,x2,zF (s2.2.2+1)))
 else
 some (.inr (s2.1,s2.2.1))
def zDy (r1:(List Int))(x3:List Int)(s7:Bool×Int): Option ((Bool×Int)⊕Bool) :=
 if decide (s7.2<(len r1)) then
 (zD r1 s7.2).bind fun x5 =>
 (
 if s7.1 then
 (zD x3 x5).bind fun x6 =>
 some (x6==2)
 else
 some false:Option Bool).bind fun s8 =>
 some (.inl (s8,zF (s7.2+1)))
 else
 some (.inr s7.1)
def zDo (y0:uF)(x3:List Int)(s3:(List Int)×(List Int)×Int)(s5:(List Int)×(List Int)×Bool×Int): Option (((List Int)×(List Int)×Bool×Int)⊕((List Int)×(List Int)×Bool)) :=
 if decide (s5.2.2.2<y0.1) then
 (zD x3 s5.2.2.2).bind fun x4 =>
 (
 (zDL y0 s5.2.2.2).bind fun r1 =>
 zJ (zDy r1 x3) (x4==3,0):Option Bool).bind fun s6 =>
 if s6 then
 (zD s5.1 s5.2.2.2).bind fun _ =>
 (zD s5.2.1 s5.2.2.2).bind fun _ =>
 some (.inl (List.set s5.1 (Int.toNat s5.2.2.2) 1,List.set s5.2.1 (Int.toNat s5.2.2.2) s3.2.2,true,zF (s5.2.2.2+1)))
 else
 some (.inl (s5.1,s5.2.1,s5.2.2.1,zF (s5.2.2.2+1)))
 else
 some (.inr (s5.1,s5.2.1,s5.2.2.1))
def zDp (r2:(List Int))(s10:(List Int)×(List Int)×Int)(s3:(List Int)×(List Int)×Int)(s11:(List Int)×(List Int)×Int): Option (((List Int)×(List Int)×Int)⊕(((List Int)×(List Int)×Int)⊕((List Int)×(List Int)))) :=
 if decide (s11.2.2<(len r2)) then
 (zD r2 s11.2.2).bind fun x9 =>
 (
 (zD s11.1 s10.2.2).bind fun x10 =>
 if x10==3 then
 (zD s11.1 x9).bind fun x11 =>
 if x11==1 then
 (zD s11.2.1 x9).bind fun x12 =>
 some (x12==s3.2.2)
 else
 some false
 else
 some false:Option Bool).bind fun s12 =>
 if s12 then
 (zD s11.1 s10.2.2).bind fun _ =>
 (zD s11.2.1 s10.2.2).bind fun _ =>
 some (.inl (List.set s11.1 (Int.toNat s10.2.2) 2,List.set s11.2.1 (Int.toNat s10.2.2) s3.2.2,zF (s11.2.2+1)))
 else
 some (.inl (s11.1,s11.2.1,zF (s11.2.2+1)))
 else
 some (.inr (.inl (s11.1,s11.2.1,zF (s10.2.2+1))))
def zDw (y0:uF)(s3:(List Int)×(List Int)×Int)(s10:(List Int)×(List Int)×Int): Option (((List Int)×(List Int)×Int)⊕((List Int)×(List Int))) :=
 if decide (s10.2.2<y0.1) then
 (zDL y0 s10.2.2).bind fun r2 =>
 zJ (zDp r2 s10 s3) (s10.1,s10.2.1,0)
 else
 some (.inr (s10.1,s10.2.1))
def zGG (y0:uF)(s3:(List Int)×(List Int)×Int): Option (((List Int)×(List Int)×Int)⊕((List Int)×(List Int))) :=
 (qT ([]:List Int) s3.1).bind fun x3 =>
 (zJ (zDo y0 x3 s3) (s3.1,s3.2.1,false,0):Option ((List Int)×(List Int)×Bool)).bind fun s4 =>
 (zJ (zDw y0 s3) (s4.1,s4.2.1,0):Option ((List Int)×(List Int))).bind fun s9 =>
 if !s4.2.2 then
 some (.inr (s9.1,s9.2))
 else
 some (.inl (s9.1,s9.2,zF (s3.2.2+1)))
def zHq (y0:uF): Option ((List Int)×(List Int)) :=
 (zJ (zEB y0) (([]:List Int),([]:List Int),0):Option ((List Int)×(List Int))).bind fun s1 =>
 zJ (zGG y0) (s1.1,s1.2,1)
def zFR (y0:uF): Option (List Int) :=
 (zHq y0).bind fun r1 =>
 some r1.1
def zRq (y0:List Int)(y1:Int)(s1:(List Int)×Int): Option (((List Int)×Int)⊕(List Int)) :=
 if decide (s1.2<(len y0)) then
 (zD y0 s1.2).bind fun x1 =>
 if x1==y1 then
 (qT s1.1 ([s1.2]:List Int)).bind fun x2 =>
 some (.inl (x2,zF (s1.2+1)))
 else
 some (.inl (s1.1,zF (s1.2+1)))
 else
 some (.inr s1.1)
def zJF (y0:List Int)(y1:Int): Option (List Int) :=
 zJ (zRq y0 y1) (([]:List Int),0)
def zLe (y0:List (List Int))(s1:(List (List Int))×Int): Option (((List (List Int))×Int)⊕((List (List Int))×Int)) :=
 if decide (s1.2<(len y0)) then
 (zD y0 s1.2).bind fun x1 =>
 (zJF x1 1).bind fun r1 =>
 (qT s1.1 ([r1]:List (List Int))).bind fun x2 =>
 some (.inl (x2,zF (s1.2+1)))
 else
 some (.inr (s1.1,0))
def zJO (y0:List (List Int))(y1:Int): Option ((List (List Int))×Int) :=
 if y1 != 0 then
 some (([]:List (List Int)),y1)
 else
 zJ (zLe y0) (([]:List (List Int)),0)
def zE9 (y0:uF)(y1:Int): Option ((List (List Int))×Int) :=
 (zBt y0).bind fun r1 =>
 if r1 != 0 then
 some (([]:List (List Int)),r1)
 else
 if y1==1 then
 (zFR y0).bind fun r2 =>
 (zJO ([r2]:List (List Int)) 0).bind fun r3 =>
 some (r3.1,r3.2)
 else
 if y1==2 then
 none
 else
 if y1==3 then
 none
 else
 if y1==4 then
 none
 else
 if y1==5 then
 none
 else
 if y1==6 then
 none
 else
 if y1==7 then
 none
 else
 if y1==8 then
 none
 else
 if y1==9 then
 none
 else
 some (([]:List (List Int)),4)
def zGt (r1:(List (List Int))×Int)(y0:zCQ)(s1:(List (List zE))×Int): Option (((List (List zE))×Int)⊕((List (List zE))×Int)) :=
 if decide (s1.2<(len r1.1)) then
 (zD r1.1 s1.2).bind fun x1 =>
 (zCA y0.2.1 x1).bind fun r2 =>
 (qT s1.1 ([r2]:List (List zE))).bind fun x2 =>
 some (.inl (x2,zF (s1.2+1)))
 else
 some (.inr (s1.1,0))
def zC7 (y0:zCQ)(y1:Int): Option ((List (List zE))×Int) :=
 (zE9 y0.2.2.2 y1).bind fun r1 =>
 if r1.2 != 0 then
 some (([]:List (List zE)),r1.2)
 else
 zJ (zGt r1 y0) (([]:List (List zE)),0)
def zI0 (r1:(List (List zE))×Int)(s2:(List zE)×Int)(s3:(List zE)×Int): Option (((List zE)×Int)⊕(((List zE)×Int)⊕(List zE))) :=
 (zD r1.1 s2.2).bind fun x1 =>
 if decide (s3.2<(len x1)) then
 (zD r1.1 s2.2).bind fun x2 =>
 (zD x2 s3.2).bind fun x3 =>
 (zFg s3.1 x3).bind fun r2 =>
 some (.inl (r2,zF (s3.2+1)))
 else
 some (.inr (.inl (s3.1,zF (s2.2+1))))
def zId (r1:(List (List zE))×Int)(s2:(List zE)×Int): Option (((List zE)×Int)⊕(List zE)) :=
 if decide (s2.2<(len r1.1)) then
 zJ (zI0 r1 s2) (s2.1,0)
 else
 some (.inr s2.1)
def zIT (r1:(List (List zE))×Int)(s1:(List zE))(s4:(List zE)×Int)(s6:Bool×Int): Option ((Bool×Int)⊕Bool) :=
 if decide (s6.2<(len r1.1)) then
 (
 if s6.1 then
 (zD r1.1 s6.2).bind fun x4 =>
 (zD s1 s4.2).bind fun x5 =>
 (zIV x4 x5).bind fun r3 =>
 some r3
 else
 some false:Option Bool).bind fun s7 =>
 some (.inl (s7,zF (s6.2+1)))
 else
 some (.inr s6.1)
def zIO (s1:(List zE))(r1:(List (List zE))×Int)(y2:Bool)(s4:(List zE)×Int): Option (((List zE)×Int)⊕((List zE)×Int)) :=
 if decide (s4.2<(len s1)) then
 (zJ (zIT r1 s1 s4) (true,0):Option Bool).bind fun s5 =>
 if s5||(!y2) then
 (zD s1 s4.2).bind fun x6 =>
 (qT s4.1 ([x6]:List zE)).bind fun x7 =>
 some (.inl (x7,zF (s4.2+1)))
 else
 some (.inl (s4.1,zF (s4.2+1)))
 else
 some (.inr (s4.1,0))
def zGC (y0:zCQ)(y1:Int)(y2:Bool): Option ((List zE)×Int) :=
 (zC7 y0 y1).bind fun r1 =>
 if r1.2 != 0 then
 some (([]:List zE),r1.2)
 else
 (zJ (zId r1) (([]:List zE),0):Option (List zE)).bind fun s1 =>
 zJ (zIO s1 r1 y2) (([]:List zE),0)
def zG4 (y0:zX)(s3:Int×(List qW)): Option ((Int×(List qW))⊕(List qW)) :=
 if decide (s3.1<(len y0.2.1)) then
 (zD y0.2.1 s3.1).bind fun x27 =>
 (qT ([]:List zE) x27.2.2.2.1).bind fun x28 =>
 (qT s3.2 ([(x27.1,x27.2.1,x27.2.2.1,x28,x27.2.2.2.2)]:List qW)).bind fun x29 =>
 some (.inl (zF (s3.1+1),x29))
 else
 some (.inr s3.2)
def zIz (y0:zX): Option zX :=
 (
 (qT ([]:List yD) y0.1).bind fun x1 =>
 (qT ([]:List yF) y0.2.2).bind fun x2 =>
 some (x1,([]:List qW),x2):Option zX).bind fun s1 =>
 (zJ (zG4 y0) (0,s1.2.1):Option (List qW)).bind fun s2 =>
 some (s1.1,s2,s1.2.2)
def zG1 (y0:zX)(s2:Int×(List qW))(y1:List zE)(s3:Int×(List qW)): Option ((Int×(List qW))⊕((Int×(List qW))⊕(List qW))) :=
 if decide (s3.1<(len y0.2.2)) then
 (zD y0.2.2 s3.1).bind fun x1 =>
 (
 (zD s3.2 s2.1).bind fun x2 =>
 if x1.1==x2.1 then
 (zD s3.2 s2.1).bind fun x3 =>
 if !x3.2.1 then
 (zIV y1 x1.2.2).bind fun r2 =>
 some r2
 else
 some false
 else
 some false:Option Bool).bind fun s4 =>
 if s4 then
 (zD s3.2 s2.1).bind fun x4 =>
 some (.inl (zF (s3.1+1),List.set s3.2 (Int.toNat s2.1) (x4.1,x4.2.1,x1.2.1,x4.2.2.2.1,x4.2.2.2.2)))
 else
 some (.inl (zF (s3.1+1),s3.2))
 else
 some (.inr (.inl (zF (s2.1+1),s3.2)))
def zE6 (y0:zX)(y1:List zE)(s2:Int×(List qW)): Option ((Int×(List qW))⊕(List qW)) :=
 if decide (s2.1<(len s2.2)) then
 zJ (zG1 y0 s2 y1) (0,s2.2)
 else
 some (.inr s2.2)
def zGe (y0:zX)(y1:List zE): Option zX :=
 (zIz y0).bind fun r1 =>
 (zJ (zE6 y0 y1) (0,r1.2.1):Option (List qW)).bind fun s1 =>
 some (r1.1,s1,r1.2.2)
def zGk (y0:zX)(y1:zA)(s1:Int): Option (Int⊕Int) :=
 if decide (s1<(len y0.2.1)) then
 (zD y0.2.1 s1).bind fun x1 =>
 if x1.1==y1 then
 some (.inr s1)
 else
 some (.inl (zF (s1+1)))
 else
 some (.inr (-1))
def zJH (y0:zX)(y1:zA): Option Int :=
 zJ (zGk y0 y1) 0
def zEj (y0:zX)(y1:zE)(s1:Int): Option (Int⊕Int) :=
 if decide (s1<(len y0.1)) then
 (zD y0.1 s1).bind fun x1 =>
 if x1.1==y1 then
 some (.inr s1)
 else
 some (.inl (zF (s1+1)))
 else
 some (.inr (-1))
def zI3 (y0:zX)(y1:zE): Option Int :=
 zJ (zEj y0 y1) 0
def zFF (y0:Int): Option Bool :=
 some ((decide (0≤y0))&&(decide (y0≤9)))
def zG9 (y0:yD): Option Int :=
 if(decide (y0.2.1<1))||(decide (3<y0.2.1)) then
 some 4
 else
 (
 (zBI y0.1).bind fun r1 =>
 if !r1 then
 some true
 else
 (zFF y0.2.2.1).bind fun r2 =>
 if !r2 then
 some true
 else
 if y0.2.1 != 2 then
 if y0.2.2.1 != 0 then
 some true
 else
 if !(y0.2.2.2==[]) then
 (zAy y0.2.2.2).bind fun r3 =>
 some (!r3)
 else
 some false
 else
 if !(y0.2.2.2==[]) then
 (zAy y0.2.2.2).bind fun r4 =>
 some (!r4)
 else
 some false:Option Bool).bind fun s1 =>
 if s1 then
 some 1
 else
 some 0
def zGc (y0:qW)(s3:Bool×Int): Option ((Bool×Int)⊕Bool) :=
 if decide (s3.2<(len y0.2.2.2.1)) then
 (
 if s3.1 then
 (zD y0.2.2.2.1 s3.2).bind fun x1 =>
 (zBI x1).bind fun r5 =>
 some r5
 else
 some false:Option Bool).bind fun s4 =>
 some (.inl (s4,zF (s3.2+1)))
 else
 some (.inr s3.1)
def zGh (y0:qW)(s5:Int): Option (Int⊕Int) :=
 if decide (s5<(len y0.2.2.2.1)) then
 (zD y0.2.2.2.1 (zF (s5-1))).bind fun x2 =>
 (zD y0.2.2.2.1 s5).bind fun x3 =>
 (zEv x2 x3).bind fun r6 =>
 if decide (0≤r6) then
 some (.inr 8)
 else
 some (.inl (zF (s5+1)))
 else
 some (.inr 0)
def zIq (y0:qW): Option Int :=
 if decide (4<(len y0.2.2.2.1)) then
 some 2
 else
 (
 (zAy y0.1).bind fun r1 =>
 if r1 then
 (zFF y0.2.2.1).bind fun r2 =>
 if r2 then
 if !y0.2.1 then
 (zBI y0.2.2.2.2).bind fun r3 =>
 some r3
 else
 if y0.2.2.1==0 then
 (zBI y0.2.2.2.2).bind fun r4 =>
 some r4
 else
 some false
 else
 some false
 else
 some false:Option Bool).bind fun s1 =>
 (zJ (zGc y0) (s1,0):Option Bool).bind fun s2 =>
 if !s2 then
 some 1
 else
 zJ (zGh y0) 1
def zDm (y0:zX)(s2:Int): Option (Int⊕(Unit⊕Int)) :=
 if decide (s2<(len y0.1)) then
 (zD y0.1 s2).bind fun x1 =>
 (zG9 x1).bind fun r1 =>
 if r1 != 0 then
 some (.inr (.inr r1))
 else
 (zD y0.1 s2).bind fun x2 =>
 (zI3 y0 x2.1).bind fun r2 =>
 if decide (r2<s2) then
 some (.inr (.inr 5))
 else
 some (.inl (zF (s2+1)))
 else
 some (.inr (.inl ()))
def zDb (y0:zX)(s4:Int): Option (Int⊕(Unit⊕Int)) :=
 if decide (s4<(len y0.2.1)) then
 (zD y0.2.1 s4).bind fun x3 =>
 (zIq x3).bind fun r3 =>
 if r3 != 0 then
 some (.inr (.inr r3))
 else
 (zD y0.2.1 s4).bind fun x4 =>
 (zJH y0 x4.1).bind fun r4 =>
 if decide (r4<s4) then
 some (.inr (.inr 5))
 else
 some (.inl (zF (s4+1)))
 else
 some (.inr (.inl ()))
def zDl (y0:zX)(s5:Int): Option (Int⊕Int) :=
 if decide (s5<(len y0.2.2)) then
 (zD y0.2.2 s5).bind fun x5 =>
 (
 (zFF x5.2.1).bind fun r5 =>
 if !r5 then
 some true
 else
 (zBI x5.2.2).bind fun r6 =>
 some (!r6):Option Bool).bind fun s6 =>
 if s6 then
 some (.inr 1)
 else
 (zJH y0 x5.1).bind fun r7 =>
 if decide (r7<0) then
 some (.inr 6)
 else
 (zD y0.2.1 r7).bind fun x6 =>
 if x6.2.1 then
 some (.inr 4)
 else
 some (.inl (zF (s5+1)))
 else
 some (.inr 0)
def zCk (y0:zX): Option Int :=
 if(decide (16<(len y0.1)))||((decide (24<(len y0.2.1)))||(decide (8<(len y0.2.2)))) then
 some 2
 else
 uQ (zJ (zDm y0) 0:Option (Unit⊕Int)) fun _ =>
 uQ (zJ (zDb y0) 0:Option (Unit⊕Int)) fun _ =>
 zJ (zDl y0) 0
def zDW (y0:List Int)(y1:Int)(s2:Int): Option (Int⊕Int) :=
 (
 if decide (s2<(len y0)) then
 (zD y0 s2).bind fun x1 =>
 some (decide (x1<y1))
 else
 some false:Option Bool).bind fun s3 =>
 if s3 then
 some (.inl (zF (s2+1)))
 else
 some (.inr s2)
def zET (y0:List Int)(y1:Int): Option (List Int) :=
 (zJ (zDW y0 y1) 0:Option Int).bind fun s1 =>
 (
 if decide (s1<(len y0)) then
 (zD y0 s1).bind fun x2 =>
 some (x2==y1)
 else
 some false:Option Bool).bind fun s4 =>
 if s4 then
 some y0
 else
 (sub y0 0 s1).bind fun x3 =>
 (qT ([]:List Int) x3).bind fun x4 =>
 (sub y0 s1 (len y0)).bind fun x5 =>
 (qT x4 ([y1]:List Int)).bind fun x6 =>
 (qT x6 x5).bind fun x7 =>
 some x7
def zGK (y1:List Int)(s1:(List Int)×Int): Option (((List Int)×Int)⊕(List Int)) :=
 if decide (s1.2<(len y1)) then
 (zD y1 s1.2).bind fun x1 =>
 (zET s1.1 x1).bind fun r1 =>
 some (.inl (r1,zF (s1.2+1)))
 else
 some (.inr s1.1)
def zHr (y0:List Int)(y1:List Int): Option (List Int) :=
 zJ (zGK y1) (y0,0)
def zGi (y0:List zU)(y1:Int)(rec_ref07_Subs:(List zU)->Int->Option (List Int))(s1:(List Int)×Int): Option (((List Int)×Int)⊕(List Int)) :=
 (zD y0 y1).bind fun x1 =>
 if decide (s1.2<(len x1.2.2.1)) then
 (zD y0 y1).bind fun x2 =>
 (zD x2.2.2.1 s1.2).bind fun x3 =>
 (rec_ref07_Subs y0 x3).bind fun r1 =>
 (zHr s1.1 r1).bind fun r2 =>
 some (.inl (r2,zF (s1.2+1)))
 else
 some (.inr s1.1)
def zJN (rec_ref07_Subs:(List zU)->Int->Option (List Int))(y0:List zU)(y1:Int): Option (List Int) :=
 if(decide (y1<0))||(decide ((len y0)≤y1)) then
 some ([]:List Int)
 else
 zJ (zGi y0 y1 rec_ref07_Subs) (([y1]:List Int),0)
def zEq:Nat->(List zU)->Int->Option (List Int)
 | 0=>fun _ _=>none
 | k+1=>fun y0 y1=>zJN (zEq k) y0 y1
def zHW (y0:List zU)(y1:Int): Option (List Int):=yH fun k=>zEq k y0 y1
def zCm (r1:(List Int))(y1:List zU)(y0:zX)(s1:(List Int)×Int): Option (((List Int)×Int)⊕(List Int)) :=
 if decide (s1.2<(len r1)) then
 (zD r1 s1.2).bind fun x1 =>
 (
 (zD y1 x1).bind fun x2 =>
 if decide (0≤x2.2.1) then
 (zD y1 x1).bind fun x3 =>
 (zD y0.2.1 x3.2.1).bind fun x4 =>
 some (!x4.2.1)
 else
 some false:Option Bool).bind fun s2 =>
 if s2 then
 (zD y1 x1).bind fun x5 =>
 (zET s1.1 x5.2.1).bind fun r2 =>
 some (.inl (r2,zF (s1.2+1)))
 else
 some (.inl (s1.1,zF (s1.2+1)))
 else
 some (.inr s1.1)
def zCR (y0:zX)(y1:List zU)(y2:Int): Option (List Int) :=
 (zHW y1 y2).bind fun r1 =>
 zJ (zCm r1 y1 y0) (([]:List Int),0)
def zEO (y1:List zU)(y2:Int)(rec_ref07_Run:zX->(List zU)->Int->Option (List zE))(y0:zX)(s2:(List zE)×Int): Option (((List zE)×Int)⊕(List zE)) :=
 (zD y1 y2).bind fun x5 =>
 if decide (s2.2<(len x5.2.2.1)) then
 (zD y1 y2).bind fun x6 =>
 (zD x6.2.2.1 s2.2).bind fun x7 =>
 (rec_ref07_Run y0 y1 x7).bind fun r1 =>
 (qT s2.1 r1).bind fun x8 =>
 some (.inl (x8,zF (s2.2+1)))
 else
 some (.inr s2.1)
def zGM (rec_ref07_Run:zX->(List zU)->Int->Option (List zE))(y0:zX)(y1:List zU)(y2:Int): Option (List zE) :=
 (zD y1 y2).bind fun x1 =>
 (
 (zD y1 y2).bind fun x2 =>
 if decide (0≤x2.2.1) then
 (zD y1 y2).bind fun x3 =>
 (zD y0.2.1 x3.2.1).bind fun x4 =>
 some x4.2.1
 else
 some false:Option Bool).bind fun s1 =>
 if s1 then
 zJ (zEO y1 y2 rec_ref07_Run y0) (([x1.2.2.2]:List zE),0)
 else
 some ([x1.2.2.2]:List zE)
def zBY:Nat->zX->(List zU)->Int->Option (List zE)
 | 0=>fun _ _ _=>none
 | k+1=>fun y0 y1 y2=>zGM (zBY k) y0 y1 y2
def zKS (y0:zX)(y1:List zU)(y2:Int): Option (List zE):=yH fun k=>zBY k y0 y1 y2
def zHv (y0:List Int)(y1:Int)(s1:Int): Option (Int⊕Bool) :=
 if decide (s1<(len y0)) then
 (zD y0 s1).bind fun x1 =>
 if x1==y1 then
 some (.inr true)
 else
 some (.inl (zF (s1+1)))
 else
 some (.inr false)
def zMK (y0:List Int)(y1:Int): Option Bool :=
 zJ (zHv y0 y1) 0
def zFJ (y3:List Int)(x1:qW)(y0:zX)(y1:List zU)(y2:Int)(s1:Int): Option (Int⊕Bool) :=
 if decide (s1<(len y3)) then
 (
 if x1.2.1 then
 (zD y3 s1).bind fun x2 =>
 (zKS y0 y1 x2).bind fun r1 =>
 (zIV r1 x1.2.2.2.2).bind fun r2 =>
 if r2 then
 some true
 else
 if !x1.2.1 then
 (zD y3 s1).bind fun x3 =>
 (zCR y0 y1 x3).bind fun r3 =>
 (zMK r3 y2).bind fun r4 =>
 some r4
 else
 some false
 else
 if !x1.2.1 then
 (zD y3 s1).bind fun x4 =>
 (zCR y0 y1 x4).bind fun r5 =>
 (zMK r5 y2).bind fun r6 =>
 some r6
 else
 some false:Option Bool).bind fun s2 =>
 if s2 then
 some (.inr false)
 else
 some (.inl (zF (s1+1)))
 else
 some (.inr true)
def zEM (y0:zX)(y1:List zU)(y2:Int)(y3:List Int): Option Bool :=
 (zD y0.2.1 y2).bind fun x1 =>
 zJ (zFJ y3 x1 y0 y1 y2) 0
def zDE (y1:Int)(y0:List zU)(y2:List zE)(y3:List Int)(rec_ref07_choices_2:(List zU)->Int->(List zE)->(List Int)->Option (List (List Int)))(s1:(List (List Int))×Int): Option (((List (List Int))×Int)⊕(List (List Int))) :=
 if decide (s1.2<y1) then
 (zD y0 s1.2).bind fun x2 =>
 (zD y2 (len y3)).bind fun x3 =>
 if x2.2.2.2==x3 then
 (sub y3 0 (len y3)).bind fun x4 =>
 (qT x4 ([s1.2]:List Int)).bind fun x5 =>
 (rec_ref07_choices_2 y0 y1 y2 x5).bind fun r1 =>
 (qT s1.1 r1).bind fun x6 =>
 some (.inl (x6,zF (s1.2+1)))
 else
 some (.inl (s1.1,zF (s1.2+1)))
 else
 some (.inr s1.1)
def zFN (rec_ref07_choices_2:(List zU)->Int->(List zE)->(List Int)->Option (List (List Int)))(y0:List zU)(y1:Int)(y2:List zE)(y3:List Int): Option (List (List Int)) :=
 if(len y3)==(len y2) then
 (qT ([]:List Int) y3).bind fun x1 =>
 some ([x1]:List (List Int))
 else
 zJ (zDE y1 y0 y2 y3 rec_ref07_choices_2) (([]:List (List Int)),0)
def zCC:Nat->(List zU)->Int->(List zE)->(List Int)->Option (List (List Int))
 | 0=>fun _ _ _ _=>none
 | k+1=>fun y0 y1 y2 y3=>zFN (zCC k) y0 y1 y2 y3
def zHG (y0:List zU)(y1:Int)(y2:List zE)(y3:List Int): Option (List (List Int)):=yH fun k=>zCC k y0 y1 y2 y3
def zFU (y0:List Int)(y1:Int)(s1:Int): Option (Int⊕Bool) :=
 if decide (s1<(len y0)) then
 (zD y0 s1).bind fun x1 =>
 if decide (y1≤x1) then
 some (.inr true)
 else
 some (.inl (zF (s1+1)))
 else
 some (.inr false)
def zJc (y0:List Int)(y1:Int): Option Bool :=
 zJ (zFU y0 y1) 0
def zEJ (y0:zX)(s2:(List zU)×Int): Option (((List zU)×Int)⊕(List zU)) :=
 if decide (s2.2<(len y0.1)) then
 (zD y0.1 s2.2).bind fun x1 =>
 (qT s2.1 ([(s2.2,(-1),([]:List Int),x1.1)]:List zU)).bind fun x2 =>
 some (.inl (x2,zF (s2.2+1)))
 else
 some (.inr s2.1)
def zEI (r2:(List (List Int)))(s3:(List zU)×Int×Int)(y0:zX)(s4:(List zU)×Int)(s5:(List zU)×Int): Option (((List zU)×Int)⊕(((List zU)×Int)⊕(((List zU)×Int×Int)⊕((List zU)×Int)))) :=
 if decide (s5.2<(len r2)) then
 (zD r2 s5.2).bind fun x4 =>
 (
 (zJc x4 s3.2.1).bind fun r3 =>
 if !r3 then
 if decide (1<s3.2.2) then
 some true
 else
 if decide (0<(len x4)) then
 some true
 else
 (zEM y0 s5.1 s4.2 x4).bind fun r4 =>
 some (!r4)
 else
 (zEM y0 s5.1 s4.2 x4).bind fun r5 =>
 some (!r5):Option Bool).bind fun s6 =>
 if s6 then
 some (.inl (s5.1,zF (s5.2+1)))
 else
 (zD y0.2.1 s4.2).bind fun x5 =>
 (qT s5.1 ([((-1),s4.2,x4,x5.2.2.2.2)]:List zU)).bind fun x6 =>
 if decide (40<(len x6)) then
 some (.inr (.inr (.inr (([]:List zU),2))))
 else
 some (.inl (x6,zF (s5.2+1)))
 else
 some (.inr (.inl (s5.1,zF (s4.2+1))))
def zDx (y0:zX)(s3:(List zU)×Int×Int)(s4:(List zU)×Int): Option (((List zU)×Int)⊕(((List zU)×Int×Int)⊕((List zU)×Int))) :=
 if decide (s4.2<(len y0.2.1)) then
 (zD y0.2.1 s4.2).bind fun x3 =>
 (zHG s4.1 (len s3.1) x3.2.2.2.1 ([]:List Int)).bind fun r2 =>
 zJ (zEI r2 s3 y0 s4) (s4.1,0)
 else
 some (.inr (.inl (s4.1,len s3.1,zF (s3.2.2+1))))
def zCl (y0:zX)(s3:(List zU)×Int×Int): Option (((List zU)×Int×Int)⊕((List zU)×Int)) :=
 if(s3.2.2==1)||(decide (s3.2.1<(len s3.1))) then
 zJ (zDx y0 s3) (s3.1,0)
 else
 some (.inr (s3.1,0))
def zFV (y0:zX): Option ((List zU)×Int) :=
 (zCk y0).bind fun r1 =>
 if r1 != 0 then
 some (([]:List zU),r1)
 else
 (zJ (zEJ y0) (([]:List zU),0):Option (List zU)).bind fun s1 =>
 zJ (zCl y0) (s1,0,1)
def zD8 (r1:(List Int))(y0:List zU)(s1:(List Int)×Int): Option (((List Int)×Int)⊕(List Int)) :=
 if decide (s1.2<(len r1)) then
 (zD r1 s1.2).bind fun x1 =>
 (zD y0 x1).bind fun x2 =>
 if decide (0≤x2.1) then
 (zD y0 x1).bind fun x3 =>
 (zET s1.1 x3.1).bind fun r2 =>
 some (.inl (r2,zF (s1.2+1)))
 else
 some (.inl (s1.1,zF (s1.2+1)))
 else
 some (.inr s1.1)
def zDs (y0:List zU)(y1:Int): Option (List Int) :=
 (zHW y0 y1).bind fun r1 =>
 zJ (zD8 r1 y0) (([]:List Int),0)
def zEd (r1:(List Int))(y0:zX)(s1:Int): Option (Int⊕Bool) :=
 if decide (s1<(len r1)) then
 (zD r1 s1).bind fun x1 =>
 (zD y0.1 x1).bind fun x2 =>
 if x2.2.1==3 then
 some (.inr true)
 else
 some (.inl (zF (s1+1)))
 else
 some (.inr false)
def zG3 (y0:zX)(y1:List zU)(y2:Int): Option Bool :=
 (zDs y1 y2).bind fun r1 =>
 zJ (zEd r1 y0) 0
def zGo (y1:List zU)(y2:Int)(rec_ref07_Last:zX->(List zU)->Int->Option (List Int))(y0:zX)(s2:(List Int)×Int): Option (((List Int)×Int)⊕(List Int)) :=
 (zD y1 y2).bind fun x5 =>
 if decide (s2.2<(len x5.2.2.1)) then
 (zD y1 y2).bind fun x6 =>
 (zD x6.2.2.1 s2.2).bind fun x7 =>
 (rec_ref07_Last y0 y1 x7).bind fun r1 =>
 (zHr s2.1 r1).bind fun r2 =>
 some (.inl (r2,zF (s2.2+1)))
 else
 some (.inr s2.1)
def zIx (rec_ref07_Last:zX->(List zU)->Int->Option (List Int))(y0:zX)(y1:List zU)(y2:Int): Option (List Int) :=
 (
 if decide (y2<0) then
 some true
 else
 if decide ((len y1)≤y2) then
 some true
 else
 (zD y1 y2).bind fun x1 =>
 some (decide (x1.2.1<0)):Option Bool).bind fun s1 =>
 if s1 then
 some ([]:List Int)
 else
 (zD y1 y2).bind fun x2 =>
 (zD y0.2.1 x2.2.1).bind fun x3 =>
 if !x3.2.1 then
 (zD y1 y2).bind fun x4 =>
 some ([x4.2.1]:List Int)
 else
 zJ (zGo y1 y2 rec_ref07_Last y0) (([]:List Int),0)
def zEz:Nat->zX->(List zU)->Int->Option (List Int)
 | 0=>fun _ _ _=>none
 | k+1=>fun y0 y1 y2=>zIx (zEz k) y0 y1 y2
def zLo (y0:zX)(y1:List zU)(y2:Int): Option (List Int):=yH fun k=>zEz k y0 y1 y2
def zMZ (r1:(List Int))(y0:zX)(s1:(List Int)×Int): Option (((List Int)×Int)⊕(List Int)) :=
 if decide (s1.2<(len r1)) then
 (zD r1 s1.2).bind fun x1 =>
 (zD y0.2.1 x1).bind fun x2 =>
 (qT s1.1 ([x2.2.2.1]:List Int)).bind fun x3 =>
 some (.inl (x3,zF (s1.2+1)))
 else
 some (.inr s1.1)
def zDG (y0:zX)(y1:List zU)(y2:Int): Option (List Int) :=
 (zLo y0 y1 y2).bind fun r1 =>
 zJ (zMZ r1 y0) (([]:List Int),0)
def zGj (r1:(List Int))(y0:zX)(s1:(List Int)×Int): Option (((List Int)×Int)⊕(List Int)) :=
 if decide (s1.2<(len r1)) then
 (zD r1 s1.2).bind fun x1 =>
 (zD y0.1 x1).bind fun x2 =>
 if x2.2.1==2 then
 (zD y0.1 x1).bind fun x3 =>
 (qT s1.1 ([x3.2.2.1]:List Int)).bind fun x4 =>
 some (.inl (x4,zF (s1.2+1)))
 else
 if x2.2.1==3 then
 (qT s1.1 ([(-1)]:List Int)).bind fun x5 =>
 some (.inl (x5,zF (s1.2+1)))
 else
 some (.inl (s1.1,zF (s1.2+1)))
 else
 some (.inr s1.1)
def zBZ (y0:zX)(y1:List zU)(y2:Int): Option (List Int) :=
 (zDs y1 y2).bind fun r1 =>
 zJ (zGj r1 y0) (([]:List Int),0)
def zMc (r1:(List Int))(y0:zX)(s1:(List Int)×Int): Option (((List Int)×Int)⊕(List Int)) :=
 if decide (s1.2<(len r1)) then
 (zD r1 s1.2).bind fun x1 =>
 (zD y0.2.1 x1).bind fun x2 =>
 (qT s1.1 ([x2.2.2.1]:List Int)).bind fun x3 =>
 some (.inl (x3,zF (s1.2+1)))
 else
 some (.inr s1.1)
def zDM (y0:zX)(y1:List zU)(y2:Int): Option (List Int) :=
 (zCR y0 y1 y2).bind fun r1 =>
 zJ (zMc r1 y0) (([]:List Int),0)
def zDd (y0:List Int)(s1:Int×Int×Int): Option ((Int×Int×Int)⊕(Int×Int)) :=
 if decide (s1.2.2<(len y0)) then
 (zD y0 s1.2.2).bind fun x3 =>
 (zD y0 s1.2.2).bind fun x4 =>
 some (.inl (if x3<s1.1 then x3 else s1.1,if x4 > s1.2.1 then x4 else s1.2.1,zF (s1.2.2+1)))
 else
 some (.inr (s1.1,s1.2.1))
def zDt (y0:List Int): Option (Int×Int) :=
 (zD y0 0).bind fun x1 =>
 (zD y0 0).bind fun x2 =>
 zJ (zDd y0) (x1,x2,1)
def zDS (y0:List Int)(y1:List Int)(y2:Int): Option Bool :=
 if if y2 != 1 then(y2 != 2)||((len y0)==0) else(len y0)==0 then
 some false
 else
 if(len y1)==0 then
 some true
 else
 (zDt y0).bind fun r1 =>
 (zDt y1).bind fun r2 =>
 if y2==1 then
 some (decide (r1.1<r2.1))
 else
 some (decide (r1.2<r2.2))
def zHT (y0:zX)(y1:List zU)(y2:Int)(y3:Int)(y4:zAm): Option Bool :=
 (
 if decide (y2<0) then
 some true
 else
 if decide ((len y1)≤y2) then
 some true
 else
 if decide (y3<0) then
 some true
 else
 if decide ((len y1)≤y3) then
 some true
 else
 (zG3 y0 y1 y3).bind fun r1 =>
 some r1:Option Bool).bind fun s1 =>
 if s1 then
 some false
 else
 (zBZ y0 y1 y2).bind fun r2 =>
 (zBZ y0 y1 y3).bind fun r3 =>
 (zDS r2 r3 y4.2).bind fun r4 =>
 if y4.1==1 then
 (zDG y0 y1 y2).bind fun r5 =>
 (zDG y0 y1 y3).bind fun r6 =>
 (
 (zDS r5 r6 y4.2).bind fun r7 =>
 if r7 then
 some true
 else
 if(len r5)==0 then
 if(len r6)==0 then
 some r4
 else
 some false
 else
 some false:Option Bool).bind fun s2 =>
 some s2
 else
 if y4.1==2 then
 (zDM y0 y1 y2).bind fun r8 =>
 (zDM y0 y1 y3).bind fun r9 =>
 if((len r8)==0)&&((len r9)==0) then
 some r4
 else
 (zDS r8 r9 y4.2).bind fun r10 =>
 (
 (zBZ y0 y1 y2).bind fun r11 =>
 if(len r11)==0 then
 (zBZ y0 y1 y3).bind fun r12 =>
 some ((len r12)==0)
 else
 some false:Option Bool).bind fun s3 =>
 if s3 then
 some r10
 else
 some (r4&&r10)
 else
 some false
def zG2 (y0:zE): Option zE :=
 some (!y0.1,y0.2)
def zGg (y0:zX)(y1:List zU)(y2:Int)(y3:Int)(y4:Int): Option Bool :=
 (zD y1 y2).bind fun x1 =>
 (zD y1 y3).bind fun x2 =>
 (zG2 x2.2.2.2).bind fun r1 =>
 (zD y1 y3).bind fun x3 =>
 if decide (x3.2.1<0) then
 (
 if y4==1 then
 (zD y1 y3).bind fun x4 =>
 (zD y0.1 x4.1).bind fun x5 =>
 if x5.2.1 != 1 then
 some (x1.2.2.2==r1)
 else
 some false
 else
 some false:Option Bool).bind fun s1 =>
 some s1
 else
 (zD y1 y3).bind fun x6 =>
 (zD y0.2.1 x6.2.1).bind fun x7 =>
 if y4==2 then
 some ((!x7.2.1)&&(x1.2.2.2==r1))
 else
 if y4==3 then
 (
 if !x7.2.1 then
 (zD y1 y2).bind fun x8 =>
 some (x8.2.2.2==(true,x7.1))
 else
 some false:Option Bool).bind fun s2 =>
 some s2
 else
 some false
def zCs (y0:zX)(y1:List zU)(s1:(List wN)×Int)(x1:Int)(s2:(List wN)×Int)(s3:(List wN)×Int)(s4:(List wN)×Int): Option (((List wN)×Int)⊕(((List wN)×Int)⊕(((List wN)×Int)⊕(((List wN)×Int)⊕(List wN))))) :=
 if decide (s4.2≤3) then
 (zGg y0 y1 s1.2 x1 s4.2).bind fun r2 =>
 if r2 then
 (qT s4.1 ([(s1.2,s2.2,x1,s4.2)]:List wN)).bind fun x2 =>
 some (.inl (x2,zF (s4.2+1)))
 else
 some (.inl (s4.1,zF (s4.2+1)))
 else
 some (.inr (.inl (s4.1,zF (s3.2+1))))
def zE8 (r1:(List Int))(y0:zX)(y1:List zU)(s1:(List wN)×Int)(s2:(List wN)×Int)(s3:(List wN)×Int): Option (((List wN)×Int)⊕(((List wN)×Int)⊕(((List wN)×Int)⊕(List wN)))) :=
 if decide (s3.2<(len r1)) then
 (zD r1 s3.2).bind fun x1 =>
 zJ (zCs y0 y1 s1 x1 s2 s3) (s3.1,1)
 else
 some (.inr (.inl (s3.1,zF (s2.2+1))))
def zEe (y1:List zU)(y0:zX)(s1:(List wN)×Int)(s2:(List wN)×Int): Option (((List wN)×Int)⊕(((List wN)×Int)⊕(List wN))) :=
 if decide (s2.2<(len y1)) then
 (zHW y1 s2.2).bind fun r1 =>
 zJ (zE8 r1 y0 y1 s1 s2) (s2.1,0)
 else
 some (.inr (.inl (s2.1,zF (s1.2+1))))
def zEb (y1:List zU)(y0:zX)(s1:(List wN)×Int): Option (((List wN)×Int)⊕(List wN)) :=
 if decide (s1.2<(len y1)) then
 zJ (zEe y1 y0 s1) (s1.1,0)
 else
 some (.inr s1.1)
def zGl (y0:zX)(y1:List zU): Option (List wN) :=
 zJ (zEb y1 y0) (([]:List wN),0)
def zE4 (r1:(List wN))(y0:zX)(y1:List zU)(y2:zAm)(s1:(List wN)×Int): Option (((List wN)×Int)⊕(List wN)) :=
 if decide (s1.2<(len r1)) then
 (
 (zD r1 s1.2).bind fun x1 =>
 if x1.2.2.2==3 then
 some true
 else
 (zD r1 s1.2).bind fun x2 =>
 (zD r1 s1.2).bind fun x3 =>
 (zHT y0 y1 x2.1 x3.2.2.1 y2).bind fun r2 =>
 some (!r2):Option Bool).bind fun s2 =>
 if s2 then
 (zD r1 s1.2).bind fun x4 =>
 (qT s1.1 ([x4]:List wN)).bind fun x5 =>
 some (.inl (x5,zF (s1.2+1)))
 else
 some (.inl (s1.1,zF (s1.2+1)))
 else
 some (.inr s1.1)
def zEp (y0:zX)(y1:List zU)(y2:zAm): Option (List wN) :=
 (zGl y0 y1).bind fun r1 =>
 zJ (zE4 r1 y0 y1 y2) (([]:List wN),0)
def zDr (y1:List wN)(y0:Int)(s2:Int): Option (Int⊕(Unit⊕(uF×Int))) :=
 if decide (s2<(len y1)) then
 (
 (zD y1 s2).bind fun x1 =>
 if decide (x1.1<0) then
 some true
 else
 (zD y1 s2).bind fun x2 =>
 if decide (y0≤x2.1) then
 some true
 else
 (zD y1 s2).bind fun x3 =>
 if decide (x3.2.1<0) then
 some true
 else
 (zD y1 s2).bind fun x4 =>
 some (decide (y0≤x4.2.1)):Option Bool).bind fun s3 =>
 if s3 then
 some (.inr (.inr ((0,([]:List wU)),1)))
 else
 some (.inl (zF (s2+1)))
 else
 some (.inr (.inl ()))
def zEA (y1:List wN)(s5:Int×(List wU))(s6:Int×(List wU))(s8:Bool×Int): Option ((Bool×Int)⊕Bool) :=
 if decide (s8.2<(len y1)) then
 (
 if s8.1 then
 some true
 else
 (zD y1 s8.2).bind fun x5 =>
 if x5.1==s5.1 then
 (zD y1 s8.2).bind fun x6 =>
 some (x6.2.1==s6.1)
 else
 some false:Option Bool).bind fun s9 =>
 some (.inl (s9,zF (s8.2+1)))
 else
 some (.inr s8.1)
def zEC (y0:Int)(y1:List wN)(s5:Int×(List wU))(s6:Int×(List wU)): Option ((Int×(List wU))⊕((Int×(List wU))⊕(List wU))) :=
 if decide (s6.1<y0) then
 (zJ (zEA y1 s5 s6) (false,0):Option Bool).bind fun s7 =>
 if s7 then
 (qT s6.2 ([(s5.1,s6.1)]:List wU)).bind fun x7 =>
 some (.inl (zF (s6.1+1),x7))
 else
 some (.inl (zF (s6.1+1),s6.2))
 else
 some (.inr (.inl (zF (s5.1+1),s6.2)))
def zDz (y0:Int)(y1:List wN)(s5:Int×(List wU)): Option ((Int×(List wU))⊕(List wU)) :=
 if decide (s5.1<y0) then
 zJ (zEC y0 y1 s5) (0,s5.2)
 else
 some (.inr s5.2)
def zGZ (y0:Int)(y1:List wN): Option (uF×Int) :=
 if(decide (y0<0))||(decide (40<y0)) then
 some ((0,([]:List wU)),1)
 else
 uQ (zJ (zDr y1 y0) 0:Option (Unit⊕(uF×Int))) fun _ =>
 (zJ (zDz y0 y1) (0,([]:List wU)):Option (List wU)).bind fun s4 =>
 some ((y0,s4),0)
def zDO (y0:zX)(y1:zAm): Option (zCQ×Int) :=
 (zFV y0).bind fun r1 =>
 if r1.2 != 0 then
 some (((([]:List yD),([]:List qW),([]:List yF)),([]:List zU),([]:List wN),(0,([]:List wU))),r1.2)
 else
 if if y1.1 != 1 then(y1.1 != 2)||((y1.2 != 1)&&(y1.2 != 2)) else(y1.2 != 1)&&(y1.2 != 2) then
 some (((([]:List yD),([]:List qW),([]:List yF)),([]:List zU),([]:List wN),(0,([]:List wU))),4)
 else
 (zEp y0 r1.1 y1).bind fun r2 =>
 (zGZ (len r1.1) r2).bind fun r3 =>
 (zFR r3.1).bind fun r4 =>
 (zJF r4 1).bind fun r5 =>
 (zCA r1.1 r5).bind fun r6 =>
 (zGe y0 r6).bind fun r7 =>
 (zEp r7 r1.1 y1).bind fun r8 =>
 (zGZ (len r1.1) r8).bind fun r9 =>
 some ((r7,r1.1,r8,r9.1),0)
def zFr (y0:zGd): Option ((List zE)×Int) :=
 (zDO y0.2.1 y0.1.2.2.1).bind fun r1 =>
 if r1.2 != 0 then
 some (([]:List zE),r1.2)
 else
 (zGC r1.1 1 true).bind fun r2 =>
 some (r2.1,r2.2)
def zCP (y0:Int): Option zA :=
 (zHF y0 26).bind fun r1 =>
 (qE [114] (zKH ([IntKind.u8.wrap (zF (97+r1))]:List Int))).bind fun x1 =>
 some x1
def zEZ (y0:vH)(y2:Int)(s1:(List zE)×Int×Int): Option (((List zE)×Int×Int)⊕((List zE)×Int)) :=
 if decide (0<s1.2.1) then
 (zAq (y0.1,s1.2.2) y2).bind fun r2 =>
 (qT s1.1 ([r2.1]:List zE)).bind fun x1 =>
 some (.inl (x1,zF (s1.2.1-1),r2.2))
 else
 some (.inr (s1.1,s1.2.2))
def zDa (y0:vH)(y1:Int)(y2:Int): Option ((List zE)×Int) :=
 (yN y0 (zF (y1+1))).bind fun r1 =>
 zJ (zEZ y0 y2) (([]:List zE),r1.1,r1.2)
def zED (s1:(List zE)×Int)(x1:zE)(s3:Int): Option (Int⊕Int) :=
 (
 if decide (s3<(len s1.1)) then
 (zD s1.1 s3).bind fun x2 =>
 if yX x2.2 x1.2 then
 some true
 else
 (zD s1.1 s3).bind fun x3 =>
 if x3.2==x1.2 then
 (zD s1.1 s3).bind fun x4 =>
 if !x4.1 then
 some x1.1
 else
 some false
 else
 some false
 else
 some false:Option Bool).bind fun s4 =>
 if s4 then
 some (.inl (zF (s3+1)))
 else
 some (.inr s3)
def zGJ (y0:List zE)(s1:(List zE)×Int): Option (((List zE)×Int)⊕(List zE)) :=
 if decide (s1.2<(len y0)) then
 (zD y0 s1.2).bind fun x1 =>
 (zJ (zED s1 x1) 0:Option Int).bind fun s2 =>
 (
 if decide (s2<(len s1.1)) then
 (zD s1.1 s2).bind fun x5 =>
 some (x5==x1)
 else
 some false:Option Bool).bind fun s5 =>
 if s5 then
 some (.inl (s1.1,zF (s1.2+1)))
 else
 (qT s1.1 ([(false,[])]:List zE)).bind fun x6 =>
 (chk (decide (0≤(zF (s2+1)))&&decide ((zF (s2+1))≤len x6))).bind fun _ =>
 (chk (decide (0≤s2)&&decide (s2≤len x6))).bind fun _ =>
 (zD (zIs x6 (zF (s2+1)) (List.drop (Int.toNat s2) x6)) s2).bind fun _ =>
 some (.inl (List.set (zIs x6 (zF (s2+1)) (List.drop (Int.toNat s2) x6)) (Int.toNat s2) x1,zF (s1.2+1)))
 else
 some (.inr s1.1)
def zHw (y0:List zE): Option (List zE) :=
 zJ (zGJ y0) (([]:List zE),0)
def zCw (s2:Int×Int×(List yD))(r2:zE×Int)(s5:Bool×Int): Option ((Bool×Int)⊕Bool) :=
 if decide (s5.2<(len s2.2.2)) then
 (zD s2.2.2 s5.2).bind fun x1 =>
 some (.inl (s5.1||(x1.1==r2.1),zF (s5.2+1)))
 else
 some (.inr s5.1)
def zEa (y0:vH)(y1:Int)(s2:Int×Int×(List yD)): Option ((Int×Int×(List yD))⊕(Int×(List yD))) :=
 if decide (0<s2.1) then
 (zAq (y0.1,s2.2.1) y1).bind fun r2 =>
 (zDV (y0.1,r2.2) ([1,2,2,2,3]:List Int)).bind fun r3 =>
 (zC9 (y0.1,r3.2) ([[],[],[97,110,110],[98,111,98]]:List zA)).bind fun r4 =>
 (
 if r3.1==2 then
 (yN (y0.1,r4.2) 4).bind fun r5 =>
 some (r5.2,r5.1)
 else
 some (r4.2,0):Option (Int×Int)).bind fun s3 =>
 (zJ (zCw s2 r2) (false,0):Option Bool).bind fun s4 =>
 if !s4 then
 (qT s2.2.2 ([(r2.1,r3.1,s3.2,r4.1)]:List yD)).bind fun x2 =>
 some (.inl (zF (s2.1-1),s3.1,x2))
 else
 some (.inl (zF (s2.1-1),s3.1,s2.2.2))
 else
 some (.inr (s2.2.1,s2.2.2))
def zE5 (y0:vH)(y1:Int)(y3:Int)(s7:Int×Int×(List qW)): Option ((Int×Int×(List qW))⊕(Int×(List qW))) :=
 if decide (0<s7.1) then
 (zCP (len s7.2.2)).bind fun r7 =>
 (yN (y0.1,s7.2.1) 3).bind fun r8 =>
 (zDa (y0.1,r8.2) 2 y1).bind fun r9 =>
 (zHw r9.1).bind fun r10 =>
 (zAq (y0.1,r9.2) y1).bind fun r11 =>
 (
 if !(r8.1==0) then
 (yN (y0.1,r11.2) 4).bind fun r12 =>
 some (r12.2,r12.1)
 else
 some (r11.2,0):Option (Int×Int)).bind fun s8 =>
 (
 (yN (y0.1,s8.1) 6).bind fun r13 =>
 if r13.1==5 then
 (yN (y0.1,r13.2) 4).bind fun r14 =>
 (yN (y0.1,r14.2) y3).bind fun r15 =>
 (zCP r15.1).bind fun r16 =>
 some (r15.2,decide (0<r14.1),r16)
 else
 some (r13.2,r11.1.1,r11.1.2):Option (Int×Bool×zA)).bind fun s9 =>
 (qT s7.2.2 ([(r7,r8.1==0,s8.2,r10,(s9.2.1,s9.2.2))]:List qW)).bind fun x3 =>
 some (.inl (zF (s7.1-1),s9.1,x3))
 else
 some (.inr (s7.2.1,s7.2.2))
def zEc (s6:Int×(List qW))(y0:vH)(y1:Int)(s11:Int×Int×(List yF)): Option ((Int×Int×(List yF))⊕(Int×(List yF))) :=
 if(decide (0<s11.1))&&(decide (0<(len s6.2))) then
 (
 (yN (y0.1,s11.2.1) (len s6.2)).bind fun r18 =>
 (zD s6.2 r18.1).bind fun x4 =>
 some (r18.2,x4):Option (Int×qW)).bind fun s12 =>
 if !s12.2.2.1 then
 (yN (y0.1,s12.1) 10).bind fun r20 =>
 (zAq (y0.1,r20.2) y1).bind fun r21 =>
 (qT s11.2.2 ([(s12.2.1,r20.1,r21.1)]:List yF)).bind fun x6 =>
 some (.inl (zF (s11.1-1),r21.2,x6))
 else
 some (.inl (zF (s11.1-1),s12.1,s11.2.2))
 else
 some (.inr (s11.2.1,s11.2.2))
def zFG (y0:vH)(y1:Int)(y2:Int)(y3:Int): Option (zX×Int) :=
 (
 (yN y0 (zF (y2+1))).bind fun r1 =>
 zJ (zEa y0 y1) (r1.1,r1.2,([]:List yD)):Option (Int×(List yD))).bind fun s1 =>
 (
 (yN (y0.1,s1.1) (zF (y3+1))).bind fun r6 =>
 zJ (zE5 y0 y1 y3) (r6.1,r6.2,([]:List qW)):Option (Int×(List qW))).bind fun s6 =>
 (
 (yN (y0.1,s6.1) 3).bind fun r17 =>
 zJ (zEc s6 y0 y1) (r17.1,r17.2,([]:List yF)):Option (Int×(List yF))).bind fun s10 =>
 some ((s1.2,s6.2,s10.2),s10.1)
def zG5 (y0:Int): Option zA :=
 (sub [48,49,50,51,52,53,54,55,56,57] y0 (zF (y0+1))).bind fun x1 =>
 some x1
def zEQ (y0:yD): Option zA :=
 if y0.2.2.2==[] then
 some []
 else
 (qE [32,102,114,111,109,32] y0.2.2.2).bind fun x1 =>
 some x1
def zD9 (y0:yD): Option zA :=
 (zB2 y0.1).bind fun r1 =>
 if y0.2.1==1 then
 (qE [97,120,105,111,109,32] r1).bind fun x1 =>
 (zEQ y0).bind fun r2 =>
 (qE x1 r2).bind fun x2 =>
 some x2
 else
 if y0.2.1==2 then
 (qE [112,114,101,109,105,115,101,32] r1).bind fun x3 =>
 (qE x3 [32]).bind fun x4 =>
 (zG5 y0.2.2.1).bind fun r3 =>
 (qE x4 r3).bind fun x5 =>
 (zEQ y0).bind fun r4 =>
 (qE x5 r4).bind fun x6 =>
 some x6
 else
 (qE [97,115,115,117,109,101,32] r1).bind fun x7 =>
 (zEQ y0).bind fun r5 =>
 (qE x7 r5).bind fun x8 =>
 some x8
def zCo (y0:yF): Option zA :=
 (qE [112,114,111,109,111,116,101,32] y0.1).bind fun x1 =>
 (qE x1 [32]).bind fun x2 =>
 (zG5 y0.2.1).bind fun r1 =>
 (qE x2 r1).bind fun x3 =>
 (qE x3 [32,105,102,32]).bind fun x4 =>
 (zB2 y0.2.2).bind fun r2 =>
 (qE x4 r2).bind fun x5 =>
 some x5
def zC6 (y0:qW)(s2:zA×Int): Option ((zA×Int)⊕zA) :=
 if decide (s2.2<(len y0.2.2.2.1)) then
 (
 if decide (0<s2.2) then
 (qE s2.1 [44]).bind fun x1 =>
 some x1
 else
 some s2.1:Option zA).bind fun s3 =>
 (qE s3 [32]).bind fun x2 =>
 (zD y0.2.2.2.1 s2.2).bind fun x3 =>
 (zB2 x3).bind fun r1 =>
 (qE x2 r1).bind fun x4 =>
 some (.inl (x4,zF (s2.2+1)))
 else
 some (.inr s2.1)
def zGI (y0:qW): Option zA :=
 (zJ (zC6 y0) ([],0):Option zA).bind fun s1 =>
 if y0.2.1 then
 (qE [115,116,114,105,99,116,32] y0.1).bind fun x5 =>
 (qE x5 [58]).bind fun x6 =>
 (qE x6 s1).bind fun x7 =>
 (qE x7 [32,45,62,32]).bind fun x8 =>
 (zB2 y0.2.2.2.2).bind fun r2 =>
 (qE x8 r2).bind fun x9 =>
 some x9
 else
 (qE [114,117,108,101,32] y0.1).bind fun x10 =>
 (qE x10 [32]).bind fun x11 =>
 (zG5 y0.2.2.1).bind fun r3 =>
 (qE x11 r3).bind fun x12 =>
 (qE x12 [58]).bind fun x13 =>
 (qE x13 s1).bind fun x14 =>
 (qE x14 [32,61,62,32]).bind fun x15 =>
 (zB2 y0.2.2.2.2).bind fun r4 =>
 (qE x15 r4).bind fun x16 =>
 some x16
def zFL (y0:zX)(s2:zA×Int): Option ((zA×Int)⊕zA) :=
 if decide (s2.2<(len y0.1)) then
 (zD y0.1 s2.2).bind fun x1 =>
 (zD9 x1).bind fun r2 =>
 (qE s2.1 r2).bind fun x2 =>
 (qE x2 [10]).bind fun x3 =>
 some (.inl (x3,zF (s2.2+1)))
 else
 some (.inr s2.1)
def zFO (y0:zX)(s4:zA×Int): Option ((zA×Int)⊕zA) :=
 if decide (s4.2<(len y0.2.1)) then
 (zD y0.2.1 s4.2).bind fun x4 =>
 (zGI x4).bind fun r3 =>
 (qE s4.1 r3).bind fun x5 =>
 (qE x5 [10]).bind fun x6 =>
 some (.inl (x6,zF (s4.2+1)))
 else
 some (.inr s4.1)
def zFP (y0:zX)(s6:zA×Int): Option ((zA×Int)⊕zA) :=
 if decide (s6.2<(len y0.2.2)) then
 (zD y0.2.2 s6.2).bind fun x7 =>
 (zCo x7).bind fun r4 =>
 (qE s6.1 r4).bind fun x8 =>
 (qE x8 [10]).bind fun x9 =>
 some (.inl (x9,zF (s6.2+1)))
 else
 some (.inr s6.1)
def zEK (y0:zX): Option (zA×Int) :=
 (zCk y0).bind fun r1 =>
 if r1 != 0 then
 some ([],r1)
 else
 (zJ (zFL y0) ([],0):Option zA).bind fun s1 =>
 (zJ (zFO y0) (s1,0):Option zA).bind fun s3 =>
 (zJ (zFP y0) (s3,0):Option zA).bind fun s5 =>
 if decide (4096<(len s5)) then
 some ([],2)
 else
 some (s5,0)
def zKB (y0:vH)(y1:Bool): Option (zA×Int) :=
 (zFG y0 3 3 3).bind fun r1 =>
 uQ (
 if y1 then
 if(len r1.1.2.1)==0 then
 some (.inr ([114,117,108,101,32,100,32,49,58,32,61,62,32,112],r1.2))
 else
 (sub r1.1.2.1 0 1).bind fun x1 =>
 (yN (y0.1,r1.2) 20).bind fun r2 =>
 (zCP r2.1).bind fun r3 =>
 (zD x1 0).bind fun x2 =>
 some (.inl (r2.2,([]:List yD),List.set x1 (Int.toNat 0) (r3,x2.2.1,x2.2.2.1,x2.2.2.2.1,x2.2.2.2.2)))
 else
 if(len r1.1.1)==0 then
 (zC9 (y0.1,r1.2) ([[112],[126,112],[113]]:List zA)).bind fun r4 =>
 (qE [112,114,101,109,105,115,101,32] r4.1).bind fun x3 =>
 (qE x3 [32,49]).bind fun x4 =>
 some (.inr (x4,r4.2))
 else
 (sub r1.1.1 0 1).bind fun x5 =>
 (zD x5 0).bind fun x6 =>
 some (.inl (r1.2,List.set x5 (Int.toNat 0) (x6.1,x6.2.1,x6.2.2.1,[]),([]:List qW))):Option ((Int×(List yD)×(List qW))⊕(zA×Int))) fun s1 =>
 (zEK (s1.2.1,s1.2.2,([]:List yF))).bind fun r5 =>
 if(r5.2 != 0)||(r5.1==[]) then
 some ([112,114,101,109,105,115,101,32,114,32,49],s1.1)
 else
 (sub r5.1 0 (zF ((len r5.1)-1))).bind fun x7 =>
 some (x7,s1.1)
def zH3 (y0:vH)(y1:zGd): Option (qZ×Int) :=
 (
 (zAj y0 1 10).bind fun r1 =>
 (yN (y0.1,r1.2) (if y1.1.2.1 > 1 then y1.1.2.1 else 1)).bind fun r2 =>
 (zAq (y0.1,r2.2) 3).bind fun r3 =>
 (zAj (y0.1,r3.2) 1 3).bind fun r4 =>
 some (r4.2,(r1.1,r2.1,0,r4.1,[],(0,0,0,(false,[]),([]:List zE)),r3.1,(0,0),(0,0,0,0),fm (0,[],([]:List zC)))):Option (Int×qZ)).bind fun s1 =>
 (
 (
 if s1.2.1==1 then
 some (s1.2.1==1)
 else
 some (s1.2.1==2):Option Bool).bind fun s3 =>
 if s3 then
 (zKB (y0.1,s1.1) (s1.2.1==2)).bind fun r15 =>
 (yN (y0.1,r15.2) 12).bind fun r16 =>
 if r16.1==11 then
 (zC9 (y0.1,r16.2) ([[32],[10,97,120,105,111,109,32,112],[120],[32,102,114,111,109,32,97,110,110]]:List zA)).bind fun r17 =>
 (qE r15.1 r17.1).bind fun x1 =>
 some (r17.2,s1.2.2.2.1,s1.2.2.2.2.1,x1,s1.2.2.2.2.2.2.1.1,s1.2.2.2.2.2.2.1.2.1,s1.2.2.2.2.2.2.1.2.2.1,s1.2.2.2.2.2.2.1.2.2.2.1.1,s1.2.2.2.2.2.2.1.2.2.2.1.2,s1.2.2.2.2.2.2.1.2.2.2.2,s1.2.2.2.2.2.2.2.1.1,s1.2.2.2.2.2.2.2.1.2,s1.2.2.2.2.2.2.2.2.1.1,s1.2.2.2.2.2.2.2.2.1.2,s1.2.2.2.2.2.2.2.2.2.1.1,s1.2.2.2.2.2.2.2.2.2.1.2.1,s1.2.2.2.2.2.2.2.2.2.1.2.2.1,s1.2.2.2.2.2.2.2.2.2.1.2.2.2,(fv s1.2.2.2.2.2.2.2.2.2.2).1,(fv s1.2.2.2.2.2.2.2.2.2.2).2.1,(fv s1.2.2.2.2.2.2.2.2.2.2).2.2)
 else
 some (r16.2,s1.2.2.2.1,s1.2.2.2.2.1,r15.1,s1.2.2.2.2.2.2.1.1,s1.2.2.2.2.2.2.1.2.1,s1.2.2.2.2.2.2.1.2.2.1,s1.2.2.2.2.2.2.1.2.2.2.1.1,s1.2.2.2.2.2.2.1.2.2.2.1.2,s1.2.2.2.2.2.2.1.2.2.2.2,s1.2.2.2.2.2.2.2.1.1,s1.2.2.2.2.2.2.2.1.2,s1.2.2.2.2.2.2.2.2.1.1,s1.2.2.2.2.2.2.2.2.1.2,s1.2.2.2.2.2.2.2.2.2.1.1,s1.2.2.2.2.2.2.2.2.2.1.2.1,s1.2.2.2.2.2.2.2.2.2.1.2.2.1,s1.2.2.2.2.2.2.2.2.2.1.2.2.2,(fv s1.2.2.2.2.2.2.2.2.2.2).1,(fv s1.2.2.2.2.2.2.2.2.2.2).2.1,(fv s1.2.2.2.2.2.2.2.2.2.2).2.2)
 else
 if s1.2.1==4 then
 (zDV (y0.1,s1.1) ([1,1,2,3,4,5]:List Int)).bind fun r18 =>
 (yN (y0.1,r18.2) 3).bind fun r19 =>
 (zAq (y0.1,r19.2) 3).bind fun r20 =>
 if r18.1==3 then
 (zAq (y0.1,r20.2) 3).bind fun r21 =>
 some (r21.2,s1.2.2.2.1,s1.2.2.2.2.1,s1.2.2.2.2.2.1,r18.1,0,r19.1,r20.1.1,r20.1.2,([r21.1]:List zE),s1.2.2.2.2.2.2.2.1.1,s1.2.2.2.2.2.2.2.1.2,s1.2.2.2.2.2.2.2.2.1.1,s1.2.2.2.2.2.2.2.2.1.2,s1.2.2.2.2.2.2.2.2.2.1.1,s1.2.2.2.2.2.2.2.2.2.1.2.1,s1.2.2.2.2.2.2.2.2.2.1.2.2.1,s1.2.2.2.2.2.2.2.2.2.1.2.2.2,(fv s1.2.2.2.2.2.2.2.2.2.2).1,(fv s1.2.2.2.2.2.2.2.2.2.2).2.1,(fv s1.2.2.2.2.2.2.2.2.2.2).2.2)
 else
 some (r20.2,s1.2.2.2.1,s1.2.2.2.2.1,s1.2.2.2.2.2.1,r18.1,0,r19.1,r20.1.1,r20.1.2,([]:List zE),s1.2.2.2.2.2.2.2.1.1,s1.2.2.2.2.2.2.2.1.2,s1.2.2.2.2.2.2.2.2.1.1,s1.2.2.2.2.2.2.2.2.1.2,s1.2.2.2.2.2.2.2.2.2.1.1,s1.2.2.2.2.2.2.2.2.2.1.2.1,s1.2.2.2.2.2.2.2.2.2.1.2.2.1,s1.2.2.2.2.2.2.2.2.2.1.2.2.2,(fv s1.2.2.2.2.2.2.2.2.2.2).1,(fv s1.2.2.2.2.2.2.2.2.2.2).2.1,(fv s1.2.2.2.2.2.2.2.2.2.2).2.2)
 else
 if s1.2.1==5 then
 (zAj (y0.1,s1.1) 0 9).bind fun r22 =>
 (zAj (y0.1,r22.2) 0 9).bind fun r23 =>
 (zFr y1).bind fun r24 =>
 (
 if r24.2==0 then
 if decide (0<(len r24.1)) then
 (yN (y0.1,r23.2) 2).bind fun r25 =>
 some (r25.1==0,r25.2)
 else
 some (false,r23.2)
 else
 some (false,r23.2):Option (Bool×Int)).bind fun s4 =>
 if s4.1 then
 (yN (y0.1,s4.2) (len r24.1)).bind fun r26 =>
 (zD r24.1 r26.1).bind fun x2 =>
 some (r26.2,s1.2.2.2.1,s1.2.2.2.2.1,s1.2.2.2.2.2.1,s1.2.2.2.2.2.2.1.1,s1.2.2.2.2.2.2.1.2.1,s1.2.2.2.2.2.2.1.2.2.1,s1.2.2.2.2.2.2.1.2.2.2.1.1,s1.2.2.2.2.2.2.1.2.2.2.1.2,s1.2.2.2.2.2.2.1.2.2.2.2,x2.1,x2.2,r22.1,r23.1,s1.2.2.2.2.2.2.2.2.2.1.1,s1.2.2.2.2.2.2.2.2.2.1.2.1,s1.2.2.2.2.2.2.2.2.2.1.2.2.1,s1.2.2.2.2.2.2.2.2.2.1.2.2.2,(fv s1.2.2.2.2.2.2.2.2.2.2).1,(fv s1.2.2.2.2.2.2.2.2.2.2).2.1,(fv s1.2.2.2.2.2.2.2.2.2.2).2.2)
 else
 some (s4.2,s1.2.2.2.1,s1.2.2.2.2.1,s1.2.2.2.2.2.1,s1.2.2.2.2.2.2.1.1,s1.2.2.2.2.2.2.1.2.1,s1.2.2.2.2.2.2.1.2.2.1,s1.2.2.2.2.2.2.1.2.2.2.1.1,s1.2.2.2.2.2.2.1.2.2.2.1.2,s1.2.2.2.2.2.2.1.2.2.2.2,s1.2.2.2.2.2.2.2.1.1,s1.2.2.2.2.2.2.2.1.2,r22.1,r23.1,s1.2.2.2.2.2.2.2.2.2.1.1,s1.2.2.2.2.2.2.2.2.2.1.2.1,s1.2.2.2.2.2.2.2.2.2.1.2.2.1,s1.2.2.2.2.2.2.2.2.2.1.2.2.2,(fv s1.2.2.2.2.2.2.2.2.2.2).1,(fv s1.2.2.2.2.2.2.2.2.2.2).2.1,(fv s1.2.2.2.2.2.2.2.2.2.2).2.2)
 else
 if s1.2.1==6 then
 (yN (y0.1,s1.1) (zF ((len y1.2.2.2.1)+1))).bind fun r27 =>
 if decide (r27.1<(len y1.2.2.2.1)) then
 (zD y1.2.2.2.1 r27.1).bind fun x3 =>
 (zAj (y0.1,r27.2) 1 2).bind fun r28 =>
 (zAj (y0.1,r28.2) 1 4).bind fun r29 =>
 (yN (y0.1,r29.2) 3).bind fun r30 =>
 (yN (y0.1,r30.2) 3).bind fun r31 =>
 (zOi x3.2).bind fun r32 =>
 (
 if decide (0<(len r32)) then
 (yN (y0.1,r31.2) 5).bind fun r33 =>
 some (decide (0<r33.1),r33.2)
 else
 some (false,r31.2):Option (Bool×Int)).bind fun s5 =>
 if s5.1 then
 (yN (y0.1,s5.2) (len r32)).bind fun r34 =>
 (zD r32 r34.1).bind fun x4 =>
 some (r34.2,r27.1,s1.2.2.2.2.1,s1.2.2.2.2.2.1,s1.2.2.2.2.2.2.1.1,s1.2.2.2.2.2.2.1.2.1,s1.2.2.2.2.2.2.1.2.2.1,s1.2.2.2.2.2.2.1.2.2.2.1.1,s1.2.2.2.2.2.2.1.2.2.2.1.2,s1.2.2.2.2.2.2.1.2.2.2.2,s1.2.2.2.2.2.2.2.1.1,s1.2.2.2.2.2.2.2.1.2,s1.2.2.2.2.2.2.2.2.1.1,s1.2.2.2.2.2.2.2.2.1.2,x4.1,x4.2.1,x4.2.2.1,x4.2.2.2,(fv s1.2.2.2.2.2.2.2.2.2.2).1,(fv s1.2.2.2.2.2.2.2.2.2.2).2.1,(fv s1.2.2.2.2.2.2.2.2.2.2).2.2)
 else
 some (s5.2,r27.1,s1.2.2.2.2.1,s1.2.2.2.2.2.1,s1.2.2.2.2.2.2.1.1,s1.2.2.2.2.2.2.1.2.1,s1.2.2.2.2.2.2.1.2.2.1,s1.2.2.2.2.2.2.1.2.2.2.1.1,s1.2.2.2.2.2.2.1.2.2.2.1.2,s1.2.2.2.2.2.2.1.2.2.2.2,s1.2.2.2.2.2.2.2.1.1,s1.2.2.2.2.2.2.2.1.2,s1.2.2.2.2.2.2.2.2.1.1,s1.2.2.2.2.2.2.2.2.1.2,r28.1,r29.1,r30.1,r31.1,(fv s1.2.2.2.2.2.2.2.2.2.2).1,(fv s1.2.2.2.2.2.2.2.2.2.2).2.1,(fv s1.2.2.2.2.2.2.2.2.2.2).2.2)
 else
 some (r27.2,r27.1,s1.2.2.2.2.1,s1.2.2.2.2.2.1,s1.2.2.2.2.2.2.1.1,s1.2.2.2.2.2.2.1.2.1,s1.2.2.2.2.2.2.1.2.2.1,s1.2.2.2.2.2.2.1.2.2.2.1.1,s1.2.2.2.2.2.2.1.2.2.2.1.2,s1.2.2.2.2.2.2.1.2.2.2.2,s1.2.2.2.2.2.2.2.1.1,s1.2.2.2.2.2.2.2.1.2,s1.2.2.2.2.2.2.2.2.1.1,s1.2.2.2.2.2.2.2.2.1.2,s1.2.2.2.2.2.2.2.2.2.1.1,s1.2.2.2.2.2.2.2.2.2.1.2.1,s1.2.2.2.2.2.2.2.2.2.1.2.2.1,s1.2.2.2.2.2.2.2.2.2.1.2.2.2,(fv s1.2.2.2.2.2.2.2.2.2.2).1,(fv s1.2.2.2.2.2.2.2.2.2.2).2.1,(fv s1.2.2.2.2.2.2.2.2.2.2).2.2)
 else
 if s1.2.1==7 then
 (zFr y1).bind fun r35 =>
 (
 if r35.2==0 then
 if decide (0<(len r35.1)) then
 (yN (y0.1,s1.1) 2).bind fun r36 =>
 some (r36.1==0,r36.2)
 else
 some (false,s1.1)
 else
 some (false,s1.1):Option (Bool×Int)).bind fun s6 =>
 if s6.1 then
 (yN (y0.1,s6.2) (len r35.1)).bind fun r37 =>
 (zD r35.1 r37.1).bind fun x5 =>
 some (r37.2,s1.2.2.2.1,s1.2.2.2.2.1,s1.2.2.2.2.2.1,s1.2.2.2.2.2.2.1.1,s1.2.2.2.2.2.2.1.2.1,s1.2.2.2.2.2.2.1.2.2.1,s1.2.2.2.2.2.2.1.2.2.2.1.1,s1.2.2.2.2.2.2.1.2.2.2.1.2,s1.2.2.2.2.2.2.1.2.2.2.2,x5.1,x5.2,s1.2.2.2.2.2.2.2.2.1.1,s1.2.2.2.2.2.2.2.2.1.2,s1.2.2.2.2.2.2.2.2.2.1.1,s1.2.2.2.2.2.2.2.2.2.1.2.1,s1.2.2.2.2.2.2.2.2.2.1.2.2.1,s1.2.2.2.2.2.2.2.2.2.1.2.2.2,(fv s1.2.2.2.2.2.2.2.2.2.2).1,(fv s1.2.2.2.2.2.2.2.2.2.2).2.1,(fv s1.2.2.2.2.2.2.2.2.2.2).2.2)
 else
 some (s6.2,s1.2.2.2.1,s1.2.2.2.2.1,s1.2.2.2.2.2.1,s1.2.2.2.2.2.2.1.1,s1.2.2.2.2.2.2.1.2.1,s1.2.2.2.2.2.2.1.2.2.1,s1.2.2.2.2.2.2.1.2.2.2.1.1,s1.2.2.2.2.2.2.1.2.2.2.1.2,s1.2.2.2.2.2.2.1.2.2.2.2,s1.2.2.2.2.2.2.2.1.1,s1.2.2.2.2.2.2.2.1.2,s1.2.2.2.2.2.2.2.2.1.1,s1.2.2.2.2.2.2.2.2.1.2,s1.2.2.2.2.2.2.2.2.2.1.1,s1.2.2.2.2.2.2.2.2.2.1.2.1,s1.2.2.2.2.2.2.2.2.2.1.2.2.1,s1.2.2.2.2.2.2.2.2.2.1.2.2.2,(fv s1.2.2.2.2.2.2.2.2.2.2).1,(fv s1.2.2.2.2.2.2.2.2.2.2).2.1,(fv s1.2.2.2.2.2.2.2.2.2.2).2.2)
 else
 (
 if s1.2.1==8 then
 some (s1.2.1==8)
 else
 if s1.2.1==9 then
 some (s1.2.1==9)
 else
 some (s1.2.1==10):Option Bool).bind fun s7 =>
 if s7 then
 (zGf (y0.1,s1.1) (if(len y1.1.1) > 1 then len y1.1.1 else 1) 3).bind fun r38 =>
 (zAj (y0.1,r38.2) 1 4).bind fun r39 =>
 some (r39.2,s1.2.2.2.1,r39.1,s1.2.2.2.2.2.1,s1.2.2.2.2.2.2.1.1,s1.2.2.2.2.2.2.1.2.1,s1.2.2.2.2.2.2.1.2.2.1,s1.2.2.2.2.2.2.1.2.2.2.1.1,s1.2.2.2.2.2.2.1.2.2.2.1.2,s1.2.2.2.2.2.2.1.2.2.2.2,s1.2.2.2.2.2.2.2.1.1,s1.2.2.2.2.2.2.2.1.2,s1.2.2.2.2.2.2.2.2.1.1,s1.2.2.2.2.2.2.2.2.1.2,s1.2.2.2.2.2.2.2.2.2.1.1,s1.2.2.2.2.2.2.2.2.2.1.2.1,s1.2.2.2.2.2.2.2.2.2.1.2.2.1,s1.2.2.2.2.2.2.2.2.2.1.2.2.2,(fv r38.1).1,(fv r38.1).2.1,(fv r38.1).2.2)
 else
 some (s1.1,s1.2.2.2.1,s1.2.2.2.2.1,s1.2.2.2.2.2.1,s1.2.2.2.2.2.2.1.1,s1.2.2.2.2.2.2.1.2.1,s1.2.2.2.2.2.2.1.2.2.1,s1.2.2.2.2.2.2.1.2.2.2.1.1,s1.2.2.2.2.2.2.1.2.2.2.1.2,s1.2.2.2.2.2.2.1.2.2.2.2,s1.2.2.2.2.2.2.2.1.1,s1.2.2.2.2.2.2.2.1.2,s1.2.2.2.2.2.2.2.2.1.1,s1.2.2.2.2.2.2.2.2.1.2,s1.2.2.2.2.2.2.2.2.2.1.1,s1.2.2.2.2.2.2.2.2.2.1.2.1,s1.2.2.2.2.2.2.2.2.2.1.2.2.1,s1.2.2.2.2.2.2.2.2.2.1.2.2.2,(fv s1.2.2.2.2.2.2.2.2.2.2).1,(fv s1.2.2.2.2.2.2.2.2.2.2).2.1,(fv s1.2.2.2.2.2.2.2.2.2.2).2.2):Option (Int×Int×Int×zA×Int×Int×Int×Bool×zA×(List zE)×Bool×zA×Int×Int×Int×Int×Int×Int×Int×zA×(List zC))).bind fun s2 =>
 some ((s1.2.1,s1.2.2.1,s2.2.1,s2.2.2.1,s2.2.2.2.1,(s2.2.2.2.2.1,s2.2.2.2.2.2.1,s2.2.2.2.2.2.2.1,(s2.2.2.2.2.2.2.2.1,s2.2.2.2.2.2.2.2.2.1),s2.2.2.2.2.2.2.2.2.2.1),(s2.2.2.2.2.2.2.2.2.2.2.1,s2.2.2.2.2.2.2.2.2.2.2.2.1),(s2.2.2.2.2.2.2.2.2.2.2.2.2.1,s2.2.2.2.2.2.2.2.2.2.2.2.2.2.1),(s2.2.2.2.2.2.2.2.2.2.2.2.2.2.2.1,s2.2.2.2.2.2.2.2.2.2.2.2.2.2.2.2.1,s2.2.2.2.2.2.2.2.2.2.2.2.2.2.2.2.2.1,s2.2.2.2.2.2.2.2.2.2.2.2.2.2.2.2.2.2.1),fm (s2.2.2.2.2.2.2.2.2.2.2.2.2.2.2.2.2.2.2.1,s2.2.2.2.2.2.2.2.2.2.2.2.2.2.2.2.2.2.2.2.1,s2.2.2.2.2.2.2.2.2.2.2.2.2.2.2.2.2.2.2.2.2)),s2.1)
def zKr (y0:vH)(y1:zGd)(s2:Int×Int): Option ((Int×Int)⊕(Int⊕(qZ×Int))) :=
 if decide (s2.1<5) then
 (zH3 (y0.1,s2.2) y1).bind fun r1 =>
 (
 (
 if r1.1.1==1 then
 some (r1.1.1==1)
 else
 some (r1.1.1==2):Option Bool).bind fun s4 =>
 if s4 then
 some (0,0,r1.1.2.2.2.2.1,0,0,0,false,[],([]:List zE),false,[],0,0,0,0,0,0,0,[],([]:List zC))
 else
 if r1.1.1==4 then
 if r1.1.2.2.2.2.2.1.1 != 2 then
 some (0,0,[],r1.1.2.2.2.2.2.1.1,r1.1.2.2.2.2.2.1.2.1,0,r1.1.2.2.2.2.2.1.2.2.2.1.1,r1.1.2.2.2.2.2.1.2.2.2.1.2,r1.1.2.2.2.2.2.1.2.2.2.2,false,[],0,0,0,0,0,0,0,[],([]:List zC))
 else
 some (0,0,[],r1.1.2.2.2.2.2.1.1,r1.1.2.2.2.2.2.1.2.1,r1.1.2.2.2.2.2.1.2.2.1,r1.1.2.2.2.2.2.1.2.2.2.1.1,r1.1.2.2.2.2.2.1.2.2.2.1.2,r1.1.2.2.2.2.2.1.2.2.2.2,false,[],0,0,0,0,0,0,0,[],([]:List zC))
 else
 if r1.1.1==5 then
 some (0,0,[],0,0,0,false,[],([]:List zE),r1.1.2.2.2.2.2.2.1.1,r1.1.2.2.2.2.2.2.1.2,r1.1.2.2.2.2.2.2.2.1.1,r1.1.2.2.2.2.2.2.2.1.2,0,0,0,0,0,[],([]:List zC))
 else
 if r1.1.1==6 then
 (
 if r1.1.2.2.2.2.2.2.2.2.1.2.1 != 2 then
 some 0
 else
 some r1.1.2.2.2.2.2.2.2.2.1.2.2.1:Option Int).bind fun s5 =>
 if r1.1.2.2.2.2.2.2.2.2.1.2.1==4 then
 some (r1.1.2.2.1,0,[],0,0,0,false,[],([]:List zE),false,[],0,0,r1.1.2.2.2.2.2.2.2.2.1.1,r1.1.2.2.2.2.2.2.2.2.1.2.1,s5,0,0,[],([]:List zC))
 else
 some (r1.1.2.2.1,0,[],0,0,0,false,[],([]:List zE),false,[],0,0,r1.1.2.2.2.2.2.2.2.2.1.1,r1.1.2.2.2.2.2.2.2.2.1.2.1,s5,r1.1.2.2.2.2.2.2.2.2.1.2.2.2,0,[],([]:List zC))
 else
 if r1.1.1==7 then
 some (0,r1.1.2.2.2.1,[],0,0,0,false,[],([]:List zE),r1.1.2.2.2.2.2.2.1.1,r1.1.2.2.2.2.2.2.1.2,0,0,0,0,0,0,0,[],([]:List zC))
 else
 (
 if r1.1.1==8 then
 some (r1.1.1==8)
 else
 if r1.1.1==9 then
 some (r1.1.1==9)
 else
 some (r1.1.1==10):Option Bool).bind fun s6 =>
 if s6 then
 some (0,r1.1.2.2.2.1,[],0,0,0,false,[],([]:List zE),false,[],0,0,0,0,0,0,(fv r1.1.2.2.2.2.2.2.2.2.2).1,(fv r1.1.2.2.2.2.2.2.2.2.2).2.1,(fv r1.1.2.2.2.2.2.2.2.2.2).2.2)
 else
 some (0,0,[],0,0,0,false,[],([]:List zE),false,[],0,0,0,0,0,0,0,[],([]:List zC)):Option (Int×Int×zA×Int×Int×Int×Bool×zA×(List zE)×Bool×zA×Int×Int×Int×Int×Int×Int×Int×zA×(List zC))).bind fun s3 =>
 (zCt (r1.1.1,r1.1.2.1,s3.1,s3.2.1,s3.2.2.1,(s3.2.2.2.1,s3.2.2.2.2.1,s3.2.2.2.2.2.1,(s3.2.2.2.2.2.2.1,s3.2.2.2.2.2.2.2.1),s3.2.2.2.2.2.2.2.2.1),(s3.2.2.2.2.2.2.2.2.2.1,s3.2.2.2.2.2.2.2.2.2.2.1),(s3.2.2.2.2.2.2.2.2.2.2.2.1,s3.2.2.2.2.2.2.2.2.2.2.2.2.1),(s3.2.2.2.2.2.2.2.2.2.2.2.2.2.1,s3.2.2.2.2.2.2.2.2.2.2.2.2.2.2.1,s3.2.2.2.2.2.2.2.2.2.2.2.2.2.2.2.1,s3.2.2.2.2.2.2.2.2.2.2.2.2.2.2.2.2.1),fm (s3.2.2.2.2.2.2.2.2.2.2.2.2.2.2.2.2.2.1,s3.2.2.2.2.2.2.2.2.2.2.2.2.2.2.2.2.2.2.1,s3.2.2.2.2.2.2.2.2.2.2.2.2.2.2.2.2.2.2.2))).bind fun r2 =>
 if r2.2==0 then
 some (.inr (.inr ((r1.1.1,r1.1.2.1,s3.1,s3.2.1,s3.2.2.1,(s3.2.2.2.1,s3.2.2.2.2.1,s3.2.2.2.2.2.1,(s3.2.2.2.2.2.2.1,s3.2.2.2.2.2.2.2.1),s3.2.2.2.2.2.2.2.2.1),(s3.2.2.2.2.2.2.2.2.2.1,s3.2.2.2.2.2.2.2.2.2.2.1),(s3.2.2.2.2.2.2.2.2.2.2.2.1,s3.2.2.2.2.2.2.2.2.2.2.2.2.1),(s3.2.2.2.2.2.2.2.2.2.2.2.2.2.1,s3.2.2.2.2.2.2.2.2.2.2.2.2.2.2.1,s3.2.2.2.2.2.2.2.2.2.2.2.2.2.2.2.1,s3.2.2.2.2.2.2.2.2.2.2.2.2.2.2.2.2.1),fm (s3.2.2.2.2.2.2.2.2.2.2.2.2.2.2.2.2.2.1,s3.2.2.2.2.2.2.2.2.2.2.2.2.2.2.2.2.2.2.1,s3.2.2.2.2.2.2.2.2.2.2.2.2.2.2.2.2.2.2.2)),r1.2)))
 else
 some (.inl (zF (s2.1+1),r1.2))
 else
 some (.inr (.inl s2.2))
def zHz (y0:vH)(y1:zGd): Option (qZ×Int) :=
 uQ (zJ (zKr y0 y1) (0,y0.2):Option (Int⊕(qZ×Int))) fun s1 =>
 some ((3,0,0,0,[],(0,0,0,(false,[]),([]:List zE)),(false,[]),(0,0),(0,0,0,0),fm (0,[],([]:List zC))),s1)
def zGB (y0:List zA)(s2:Int): Option (Int⊕(Unit⊕Bool)) :=
 if decide (s2<(len y0)) then
 (
 (zD y0 s2).bind fun x1 =>
 (zAy x1).bind fun r1 =>
 if !r1 then
 some true
 else
 if decide (0<s2) then
 (zD y0 s2).bind fun x2 =>
 (zD y0 (zF (s2-1))).bind fun x3 =>
 some (yX x2 x3||x2==x3)
 else
 some false:Option Bool).bind fun s3 =>
 if s3 then
 some (.inr (.inr false))
 else
 some (.inl (zF (s2+1)))
 else
 some (.inr (.inl ()))
def zFK (y0:List zA): Option Bool :=
 uQ (zJ (zGB y0) 0:Option (Unit⊕Bool)) fun _ =>
 some (decide ((len y0)≤6))
def zKc (y0:Int): Option ((List (List zB0))×Int) :=
 if(decide (y0<0))||(decide (6<y0)) then
 some (([]:List (List zB0)),1)
 else
 (mkS y0 y0 (([]:List zB0):List zB0)).bind fun x1 =>
 some (x1,0)
def zSt (y0:Int)(y1:Int): Option Bool :=
 (shrK .u64 y0 (IntKind.u64.wrap (y1))).bind fun x1 =>
 some ((z7n .u64 x1 1)==1)
def zJQ (y0:List Int)(y1:Int)(s1:Int): Option (Int⊕Bool) :=
 if decide (s1<(len y0)) then
 (zD y0 s1).bind fun x1 =>
 if x1==y1 then
 some (.inr true)
 else
 some (.inl (zF (s1+1)))
 else
 some (.inr false)
def zOI (y0:List Int)(y1:Int): Option Bool :=
 zJ (zJQ y0 y1) 0
def zHC (y1:List Int)(s4:Int×(List Int))(s6:(List Int)×Int): Option (((List Int)×Int)⊕(List Int)) :=
 if decide (s6.2<(len y1)) then
 (
 (zD y1 s6.2).bind fun x22 =>
 (zD y1 s4.1).bind fun x23 =>
 if decide (x22<x23) then
 (zD y1 s6.2).bind fun x24 =>
 (zOI s6.1 x24).bind fun r2 =>
 some (!r2)
 else
 some false:Option Bool).bind fun s7 =>
 if s7 then
 (zD y1 s6.2).bind fun x25 =>
 (qT s6.1 ([x25]:List Int)).bind fun x26 =>
 some (.inl (x26,zF (s6.2+1)))
 else
 some (.inl (s6.1,zF (s6.2+1)))
 else
 some (.inr s6.1)
def zHD (y1:List Int)(s4:Int×(List Int)): Option ((Int×(List Int))⊕(List Int)) :=
 if decide (s4.1<(len y1)) then
 (zJ (zHC y1 s4) (([]:List Int),0):Option (List Int)).bind fun s5 =>
 (zD s4.2 s4.1).bind fun _ =>
 some (.inl (zF (s4.1+1),List.set s4.2 (Int.toNat s4.1) (len s5)))
 else
 some (.inr s4.2)
def zHM (y0:List zA)(y1:List Int): Option (zNU×Int) :=
 (
 (zFK y0).bind fun r1 =>
 if !r1 then
 some true
 else
 (shlK .i64 1 (IntKind.u64.wrap (len y0))).bind fun x1 =>
 some ((len y1) != x1):Option Bool).bind fun s1 =>
 if s1 then
 some ((([]:List zA),([]:List Int)),1)
 else
 (
 (qT ([]:List zA) y0).bind fun x2 =>
 (mkS (len y1) (len y1) (0:Int)).bind fun x3 =>
 some (x2,x3):Option zNU).bind fun s2 =>
 (zJ (zHD y1) (0,s2.2):Option (List Int)).bind fun s3 =>
 some ((s2.1,s3),0)
def zHV (s2:(List Int)×Int)(y1:List Int)(s3:(List Int)): Option ((List Int)⊕(((List Int)×Int)⊕(List Int))) :=
 (
 (zD s3 s2.2).bind fun x3 =>
 if decide (x3<(len y1)) then
 (zD s3 s2.2).bind fun x4 =>
 (zD y1 x4).bind fun x5 =>
 (zSt x5 s2.2).bind fun r2 =>
 some (!r2)
 else
 some false:Option Bool).bind fun s4 =>
 if s4 then
 (zD s3 s2.2).bind fun x6 =>
 (zD s3 s2.2).bind fun _ =>
 some (.inl (List.set s3 (Int.toNat s2.2) (zF (x6+1))))
 else
 some (.inr (.inl (s3,zF (s2.2+1))))
def zH2 (x2:List Int)(y1:List Int)(s2:(List Int)×Int): Option (((List Int)×Int)⊕(List Int)) :=
 if decide (s2.2<(len x2)) then
 zJ (zHV s2 y1) s2.1
 else
 some (.inr s2.1)
def zEk (y0:List zA)(y1:List Int): Option (zNU×Int) :=
 (zFK y0).bind fun r1 =>
 if !r1 then
 some ((([]:List zA),([]:List Int)),1)
 else
 (shlK .i64 1 (IntKind.u64.wrap (len y0))).bind fun x1 =>
 (mkS x1 x1 (0:Int)).bind fun x2 =>
 (zJ (zH2 x2 y1) (x2,0):Option (List Int)).bind fun s1 =>
 (zHM y0 s1).bind fun r3 =>
 some (r3.1,r3.2)
def zIX (y0:zCu): Option (zGd×Int) :=
 (
 (zFK y0.1).bind fun r1 =>
 if !r1 then
 some true
 else
 if decide (y0.2.1<1) then
 some true
 else
 some (decide (6<y0.2.1)):Option Bool).bind fun s1 =>
 if s1 then
 some (((([]:List zA),0,(0,0),(([]:List yD),([]:List qW),([]:List yF))),(([]:List yD),([]:List qW),([]:List yF)),([]:List (List zB0)),([]:List zOd),([]:List zGV),(([]:List zA),([]:List Int)),0),1)
 else
 (zDO y0.2.2.2 y0.2.2.1).bind fun r2 =>
 if r2.2 != 0 then
 some (((([]:List zA),0,(0,0),(([]:List yD),([]:List qW),([]:List yF))),(([]:List yD),([]:List qW),([]:List yF)),([]:List (List zB0)),([]:List zOd),([]:List zGV),(([]:List zA),([]:List Int)),0),r2.2)
 else
 (zKc y0.2.1).bind fun r3 =>
 (zEk y0.1 ([]:List Int)).bind fun r4 =>
 some ((y0,y0.2.2.2,r3.1,([]:List zOd),([]:List zGV),r4.1,0),0)
def zDJ (y0:zA): Option (qZ×Int) :=
 (uN y0).bind fun r1 =>
 (zCt r1).bind fun r2 =>
 if(r2.2 != 0)||(!(r2.1==y0)) then
 some ((0,0,0,0,[],(0,0,0,(false,[]),([]:List zE)),(false,[]),(0,0),(0,0,0,0),fm (0,[],([]:List zC))),3)
 else
 some (r1,0)
def zKX (y0:Int)(s1:(List zA)×Int): Option (((List zA)×Int)⊕(List zA)) :=
 if decide (s1.2<y0) then
 (qT s1.1 ([zKH ([IntKind.u8.wrap (zF (97+s1.2))]:List Int)]:List zA)).bind fun x1 =>
 some (.inl (x1,zF (s1.2+1)))
 else
 some (.inr s1.1)
def zMF (y0:Int): Option (List zA) :=
 zJ (zKX y0) (([]:List zA),0)
def zJG (y0:vH): Option (zCu×Int) :=
 (zAj y0 1 3).bind fun r1 =>
 (zMF r1.1).bind fun r2 =>
 (zAj (y0.1,r1.2) 1 3).bind fun r3 =>
 (zAj (y0.1,r3.2) 1 2).bind fun r4 =>
 (zAj (y0.1,r4.2) 1 2).bind fun r5 =>
 (zFG (y0.1,r5.2) 3 2 3).bind fun r6 =>
 (
 (zIX (r2,r3.1,(r4.1,r5.1),r6.1)).bind fun r7 =>
 if r7.2 != 0 then
 some (([]:List yD),([]:List qW),([]:List yF))
 else
 some (r6.1.1,r6.1.2.1,r6.1.2.2):Option ((List yD)×(List qW)×(List yF))).bind fun s1 =>
 some ((r2,r3.1,(r4.1,r5.1),(s1.1,s1.2.1,s1.2.2)),r6.2)
def zCd (y0:qZ)(s2:qZ×qZ)(s4:Int): Option (Int⊕(Unit⊕Bool)) :=
 if decide (s4<(len ([y0,s2.1,s2.2]:List qZ))) then
 (zD ([y0,s2.1,s2.2]:List qZ) s4).bind fun x1 =>
 (zBO x1).bind fun r22 =>
 (zCt x1).bind fun r23 =>
 if(r22.2 != r23.2)||(!(r22.1==r23.1)) then
 some (.inr (.inr false))
 else
 some (.inl (zF (s4+1)))
 else
 some (.inr (.inl ()))
def zCf (y1:zA)(r24:zA×Int)(s5:zA)(x8:zA)(x12:zA)(x13:zA)(x14:zA)(s7:Int): Option (Int⊕(Unit⊕Bool)) :=
 if decide (s7<(len ([y1,r24.1,s5,x8,x12,x13,x14]:List zA))) then
 (zD ([y1,r24.1,s5,x8,x12,x13,x14]:List zA) s7).bind fun x15 =>
 (zA4 x15).bind fun r26 =>
 (zDJ x15).bind fun r27 =>
 (
 if r26.2 != r27.2 then
 some true
 else
 (zFI r26.1 r27.1).bind fun r28 =>
 some (!r28):Option Bool).bind fun s8 =>
 if s8 then
 some (.inr (.inr false))
 else
 some (.inl (zF (s7+1)))
 else
 some (.inr (.inl ()))
def zCa (y0:qZ)(y1:zA)(y2:List Int)(y3:Int)(y4:Int): Option Bool :=
 (
 (zHx y0).bind fun r1 =>
 if !r1 then
 some true
 else
 some (decide (400<(len y1))):Option Bool).bind fun s1 =>
 if s1 then
 zFX.bind fun r2 =>
 some r2
 else
 (zMR y2).bind fun r3 =>
 (zJG r3).bind fun r4 =>
 (zIX r4.1).bind fun r5 =>
 (
 (zH3 (r3.1,r4.2) r5.1).bind fun r6 =>
 (zHz (r3.1,r6.2) r5.1).bind fun r7 =>
 some (r6.1,r7.1):Option (qZ×qZ)).bind fun s2 =>
 uQ (zJ (zCd y0 s2) 0:Option (Unit⊕Bool)) fun _ =>
 (zCt s2.2).bind fun r24 =>
 (zHF y3 (zF ((len r24.1)+1))).bind fun r25 =>
 (
 if decide (r25<(len r24.1)) then
 (zD r24.1 r25).bind fun x2 =>
 (zD r24.1 r25).bind fun _ =>
 (bset r24.1 r25 (z5u .u8 ((UInt8.toNat x2:Nat):Int) y4)).bind fun x4 =>
 some x4
 else
 some r24.1:Option zA).bind fun s5 =>
 uQ (
 (sub r24.1 0 r25).bind fun x5 =>
 (qE x5 [32]).bind fun x6 =>
 (sub r24.1 r25 (len r24.1)).bind fun x7 =>
 (qE x6 x7).bind fun x8 =>
 (sub r24.1 0 r25).bind fun x9 =>
 (qE x9 y1).bind fun x10 =>
 (sub r24.1 r25 (len r24.1)).bind fun x11 =>
 (qE x10 x11).bind fun x12 =>
 (sub r24.1 0 r25).bind fun x13 =>
 (qE r24.1 [32]).bind fun x14 =>
 zJ (zCf y1 r24 s5 x8 x12 x13 x14) 0:Option (Unit⊕Bool)) fun _ =>
 zFX.bind fun r29 =>
 some r29
end
end Go.GD
