/- A part. Conditions: none. -/
import Derived.Test.YtgjdojihimkgcaaGreatDoorBase
namespace Go.GD
set_option autoImplicit false
noncomputable section
set_option linter.unusedVariables false
abbrev uU:=(List Int)×Int
abbrev zI:=Bool×zD
abbrev vE:=zI×Int×Int×zD
abbrev qH:=zD×Bool×Int×(List zI)×zI
abbrev wW:=zD×Int×zI
abbrev zM:=(List vE)×(List qH)×(List wW)
abbrev zF:=Int×Int×(List Int)×zI
abbrev qX:=Int×Int×Int×Int
abbrev qG:=Int×Int
abbrev qE:=Int×(List qG)
abbrev zBv:=zM×(List zF)×(List qX)×qE
abbrev yZ:=Int×Int
abbrev xB:=zM×(List zF)×(List zF)×Int
abbrev uJ:=Int×(List (List Int))×(List Int)×(List (List Int))×Bool
abbrev yT:=Int×Int×Int
abbrev zHy:=Bool×(List Int)×(List Int)×(List yT)
abbrev zAY:=Int×(List (List Int))
abbrev zNr:=Bool×(List Bool)×(List yT)
abbrev uI:=(List Int)×(List (List Int))×(List (zD×Int))×(List yT)×Int×Bool
abbrev zAP:=(List zD)×Bool
def zBE:List zD:=[[],[97,120,105,111,109],[112,114,101,109,105,115,101],[97,115,115,117,109,101]]
def vV:List Int:=[0,1,56,2,57,49,28,3,61,58,42,50,38,29,17,4,62,47,59,36,45,43,51,22,53,39,33,30,24,18,12,5,63,55,48,27,60,41,37,16,46,35,44,21,52,32,23,11,54,26,40,15,34,20,31,10,25,14,19,9,13,8,7,6]
def zBQ (y0:List zF)(y1:Int): Option Bool :=
 some ((decide (0≤y1))&&(decide (y1<(len y0))))
def zDl (y0:List zI): Option (List zI) :=
 (qF ([]:List zI) y0).bind λx1 =>
 some x1
def zOM (y0:List zI)(s1:Int)(s3:(List zI)×Int×Int): Option (((List zI)×Int×Int)⊕((List zI)×Int)) :=
 if decide (s3.2.2<((Int.toNat (((List.length y0:Nat):Int)-s1):Nat):Int)) then
 (z1W s3.1 s1 s3.2.2).bind λx3 =>
 (z1W s3.1 s1 (zH (s3.2.2-1))).bind λx4 =>
 if !(x3==x4) then
 (z1W s3.1 s1 s3.2.2).bind λx5 =>
 (zC s3.1 s3.2.1).bind λ_ =>
 some (.inl (List.set s3.1 (Int.toNat s3.2.1) x5,zH (s3.2.1+1),zH (s3.2.2+1)))
 else
 some (.inl (s3.1,s3.2.1,zH (s3.2.2+1)))
 else
 some (.inr (s3.1,s3.2.1))
def zFM (y0:List zI)(s1:Int): Option (Int⊕(List zI)) :=
 if decide (s1<(len y0)) then
 (zC y0 s1).bind λx1 =>
 (zC y0 (zH (s1-1))).bind λx2 =>
 if x1==x2 then
 (vT (decide (0≤s1)&&decide (s1≤len y0))).bind λ_ =>
 (zN (zOM y0 s1) (y0,s1,1):Option ((List zI)×Int)).bind λs2 =>
 (vT (decide (0≤s2.2)&&decide (s2.2≤len s2.1))).bind λ_ =>
 (sub (zEQ s2.1 s2.2 (false,[])) 0 s2.2).bind λx7 =>
 some (.inr x7)
 else
 some (.inl (zH (s1+1)))
 else
 some (.inr y0)
def zCI (y0:List zI): Option (List zI) :=
 if decide ((len y0)<2) then
 some y0
 else
 zN (zFM y0) 1
def zGF (y0:zD): Option Bool :=
 some (!(y0==y0))
def zG5 (y0:zD)(y1:zD): Option Int :=
 (zGF y0).bind λr1 =>
 (zGF y1).bind λr2 =>
 if r1 then
 if r2 then
 some 0
 else
 some (-1)
 else
 if r2 then
 some 1
 else
 if uV y0 y1 then
 some (-1)
 else
 if !(uV y0 y1||y0==y1) then
 some 1
 else
 some 0
def zCZ (y0:zI)(y1:zI): Option Int :=
 (zG5 y0.2 y1.2).bind λr1 =>
 if(r1 != 0)||(y0.1==y1.1) then
 some r1
 else
 if y1.1 then
 some (-1)
 else
 some 1
def zAJ (y0:List zI): Option (List zI):=z3A zCZ y0
def zEi (y0:List zI): Option (List zI) :=
 (zDl y0).bind λr1 =>
 (zAJ r1).bind λr2 =>
 (zCI r2).bind λr3 =>
 some r3
def zEJ (y1:List Int)(y0:List zF)(s2:(List zI)×Int): Option (((List zI)×Int)⊕(List zI)) :=
 if decide (s2.2<(len y1)) then
 (zC y1 s2.2).bind λx1 =>
 (zBQ y0 x1).bind λr1 =>
 if r1 then
 (zC y0 x1).bind λx2 =>
 (qF s2.1 ([x2.2.2.2]:List zI)).bind λx3 =>
 some (.inl (x3,zH (s2.2+1)))
 else
 some (.inl (s2.1,zH (s2.2+1)))
 else
 some (.inr s2.1)
def zCC (y0:List zF)(y1:List Int): Option (List zI) :=
 (zN (zEJ y1 y0) (([]:List zI),0):Option (List zI)).bind λs1 =>
 (zEi s1).bind λr2 =>
 some r2
def zFa:Option Unit :=
 some ()
def zFO:Option Unit :=
 some ()
def zGq:Option Unit :=
 some ()
def zHT:Option Unit :=
 some ()
def zHX:Option Unit :=
 some ()
def zFq:Option Unit :=
 zHX.bind λ_ =>
 some ()
def zGS:Option Unit :=
 some ()
def zJ2:Option Unit :=
 zGS.bind λ_ =>
 some ()
def zGR:Option Unit :=
 some ()
def zJ0:Option Unit :=
 zGR.bind λ_ =>
 some ()
def zNO:Option Unit :=
 zFq.bind λ_ =>
 zHT.bind λ_ =>
 zFa.bind λ_ =>
 zGq.bind λ_ =>
 zFO.bind λ_ =>
 zJ0.bind λ_ =>
 zJ2.bind λ_ =>
 some ()
def zCQ (y0:Int): Option Int :=
 if y0==0 then
 some 64
 else
 (zC vV (xM .u64 (IntKind.u64.wrap ((yI .u64 y0 (IntKind.u64.wrap (0-y0)))*285870213051353865)) 58)).bind λx1 =>
 some (zH (x1))
def zGu (s1:Int×(List Int)): Option ((Int×(List Int))⊕(List Int)) :=
 if s1.1 != 0 then
 (zCQ s1.1).bind λr1 =>
 (qF s1.2 ([r1]:List Int)).bind λx1 =>
 some (.inl (yI .u64 s1.1 (IntKind.u64.wrap (s1.1-1)),x1))
 else
 some (.inr s1.2)
def zKt (y0:Int): Option (List Int) :=
 zN (zGu) (y0,([]:List Int))
def zKc (y0:qE)(s1:(List Int)×Int): Option (((List Int)×Int)⊕(List Int)) :=
 if decide (s1.2<(len y0.2)) then
 (zC y0.2 s1.2).bind λx2 =>
 (zC s1.1 x2.1).bind λx3 =>
 (shlK .u64 1 x2.2).bind λx4 =>
 (zC s1.1 x2.1).bind λ_ =>
 some (.inl (List.set s1.1 (Int.toNat x2.1) (bor .u64 x3 x4),zH (s1.2+1)))
 else
 some (.inr s1.1)
def zJe (y0:qE): Option (List Int) :=
 (mkS y0.1 y0.1 (0:Int)).bind λx1 =>
 zN (zKc y0) (x1,0)
def zLh (y0:Int): Option Bool :=
 some (y0 != y0)
def zBB (y0:Int)(y1:Int): Option Int :=
 (zLh y0).bind λr1 =>
 (zLh y1).bind λr2 =>
 if r1 then
 if r2 then
 some 0
 else
 some (-1)
 else
 if r2 then
 some 1
 else
 if decide (y0<y1) then
 some (-1)
 else
 if decide (y1<y0) then
 some 1
 else
 some 0
def zZk (y0:List Int)(s1:Int): Option (Int⊕Int) :=
 if decide (s1<(len y0)) then
 (zC y0 s1).bind λx1 =>
 if x1 != 0 then
 some (.inr x1)
 else
 some (.inl (zH (s1+1)))
 else
 some (.inr 0)
def zHW (y0:List Int): Option Int :=
 zN (zZk y0) 0
def zDZ (y0:qG)(y1:qG): Option Int :=
 (zBB y0.1 y1.1).bind λr1 =>
 (zBB y0.2 y1.2).bind λr2 =>
 (zHW ([r1,r2]:List Int)).bind λr3 =>
 some r3
def zBm (y0:qE)(s1:Int): Option (Int⊕Int) :=
 if decide (s1<(len y0.2)) then
 (zC y0.2 s1).bind λx1 =>
 if(decide ((if x1.2<x1.1 then x1.2 else x1.1)<0))||(decide (y0.1≤(if x1.2 > x1.1 then x1.2 else x1.1))) then
 some (.inr 1)
 else
 (
 if decide (0<s1) then
 (zC y0.2 (zH (s1-1))).bind λx2 =>
 (zDZ x2 x1).bind λr1 =>
 some (decide (0≤r1))
 else
 some false:Option Bool).bind λs2 =>
 if s2 then
 some (.inr 8)
 else
 some (.inl (zH (s1+1)))
 else
 some (.inr 0)
def zBD (y0:qE): Option Int :=
 if(decide (y0.1<0))||(decide (40<y0.1)) then
 some 1
 else
 zN (zBm y0) 0
def zGO (y0:qE): Option qE :=
 (zBD y0).bind λr1 =>
 if r1 != 0 then
 some (0,([]:List qG))
 else
 some y0
def zDg (y0:qE)(y1:Int): Option (List Int) :=
 (zGO y0).bind λr1 =>
 if(decide (y1<0))||(decide (r1.1≤y1)) then
 some ([]:List Int)
 else
 (zJe r1).bind λr2 =>
 (zC r2 y1).bind λx1 =>
 (zKt x1).bind λr3 =>
 some r3
def zQE (y0:Int)(y1:Int): Option (Int×Int) :=
 some (IntKind.u64.wrap ((IntKind.u64.wrap ((IntKind.u64.wrap ((xM .u64 y0 32)*(xM .u64 y1 32)))+(xM .u64 (IntKind.u64.wrap ((IntKind.u64.wrap ((xM .u64 y0 32)*(yI .u64 y1 4294967295)))+(xM .u64 (IntKind.u64.wrap ((yI .u64 y0 4294967295)*(yI .u64 y1 4294967295))) 32))) 32)))+(xM .u64 (IntKind.u64.wrap ((yI .u64 (IntKind.u64.wrap ((IntKind.u64.wrap ((xM .u64 y0 32)*(yI .u64 y1 4294967295)))+(xM .u64 (IntKind.u64.wrap ((yI .u64 y0 4294967295)*(yI .u64 y1 4294967295))) 32))) 4294967295)+(IntKind.u64.wrap ((yI .u64 y0 4294967295)*(xM .u64 y1 32))))) 32)),IntKind.u64.wrap (y0*y1))
def zOi (y0:Int)(y1:Int): Option (Int×Int) :=
 (zQE y0 y1).bind λr1 =>
 some (r1.1,r1.2)
def zIb (x1:List Int)(s3:(List Int)×Int): Option (((List Int)×Int)⊕(List Int)) :=
 if decide (s3.2<(len x1)) then
 (vT (decide (0≤s3.2)&&decide (s3.2≤len s3.1))).bind λ_ =>
 (sub s3.1 0 s3.2).bind λx2 =>
 some (.inl (zLB s3.1 s3.2 x2,zH (s3.2+((Nat.min (List.length x2) (Int.toNat (((List.length x1:Nat):Int)-s3.2)):Nat):Int))))
 else
 some (.inr s3.1)
def zDB (y0:List Int)(y1:Int): Option (List Int) :=
 (
 if decide (y1<0) then
 none
 else
 some ():Option Unit).bind λ_ =>
 (zOi (IntKind.u64.wrap (len y0)) (IntKind.u64.wrap (y1))).bind λr1 =>
 (
 if(decide (0<r1.1))||(decide (9223372036854775807<r1.2)) then
 none
 else
 some ():Option Unit).bind λ_ =>
 (mkS (zH (r1.2)) (zH (r1.2)) (0:Int)).bind λx1 =>
 zN (zIb x1) (zLB x1 0 y0,((Nat.min (List.length y0) (List.length x1):Nat):Int))
def zFI (y0:qE)(s3:Int×(List Int)): Option ((Int×(List Int))⊕(List Int)) :=
 if decide (s3.1<(len y0.2)) then
 (zC y0.2 s3.1).bind λx4 =>
 (vT (decide (0≤x4.2)&&decide (x4.2<40))).bind λ_ =>
 (vT (decide (0≤x4.2)&&decide (x4.2<40))).bind λ_ =>
 some (.inl (zH (s3.1+1),tD 40 s3.2 x4.2 (zH ((yS s3.2 x4.2)+1))))
 else
 some (.inr s3.2)
def zFS (y0:qE)(s2:(List Int))(s5:(List Int)×Int): Option (((List Int)×Int)⊕(List Int)) :=
 if decide (s5.2<y0.1) then
 (vT (decide (0≤s5.2)&&decide (s5.2<40))).bind λ_ =>
 if(yS s2 s5.2)==0 then
 (qF s5.1 ([s5.2]:List Int)).bind λx5 =>
 some (.inl (x5,zH (s5.2+1)))
 else
 some (.inl (s5.1,zH (s5.2+1)))
 else
 some (.inr s5.1)
def zFE (s6:(List Int)×(List Int)×(List Int)×Int×(List Int))(s8:(List Int)×(List Int)×Int): Option (((List Int)×(List Int)×Int)⊕((List Int)×(List Int))) :=
 if decide (s8.2.2<(len s6.2.2.1)) then
 (zC s6.2.2.1 s8.2.2).bind λx6 =>
 (zC s8.1 x6).bind λ_ =>
 (zC s8.2.1 x6).bind λ_ =>
 some (.inl (List.set s8.1 (Int.toNat x6) 1,List.set s8.2.1 (Int.toNat x6) s6.2.2.2.1,zH (s8.2.2+1)))
 else
 some (.inr (s8.1,s8.2.1))
def zFQ (r5:(List Int))(s10:(List Int)×(List Int)×(List Int)×Int×(List Int))(x10:Int)(s6:(List Int)×(List Int)×(List Int)×Int×(List Int))(s11:(List Int)×Int×(List Int)): Option (((List Int)×Int×(List Int))⊕(((List Int)×(List Int)×(List Int)×Int×(List Int))⊕(((List Int)×(List Int)×(List Int)×Int×(List Int))⊕(((List Int)×(List Int)×(List Int)×Int×(List Int))⊕((List Int)×(List Int)))))) :=
 if decide (s11.2.1<(len r5)) then
 (zC r5 s11.2.1).bind λx14 =>
 (vT (decide (0≤x14)&&decide (x14<40))).bind λ_ =>
 (vT (decide (0≤x14)&&decide (x14<40))).bind λ_ =>
 (
 (vT (decide (0≤x14)&&decide (x14<40))).bind λ_ =>
 if(yS (tD 40 s11.2.2 x14 (zH ((yS s11.2.2 x14)-1))) x14)==0 then
 (zC (List.set s10.1 (Int.toNat x10) 2) x14).bind λx15 =>
 some (x15==3)
 else
 some false:Option Bool).bind λs12 =>
 if s12 then
 (qF s11.1 ([x14]:List Int)).bind λx16 =>
 some (.inl (x16,zH (s11.2.1+1),tD 40 s11.2.2 x14 (zH ((yS s11.2.2 x14)-1))))
 else
 some (.inl (s11.1,zH (s11.2.1+1),tD 40 s11.2.2 x14 (zH ((yS s11.2.2 x14)-1))))
 else
 some (.inr (.inl (List.set s10.1 (Int.toNat x10) 2,List.set s10.2.1 (Int.toNat x10) s6.2.2.2.1,s11.1,zH (s10.2.2.2.1+1),s11.2.2)))
def zCX (r4:(List Int))(y0:qE)(s6:(List Int)×(List Int)×(List Int)×Int×(List Int))(s9:(List Int)×(List Int)×(List Int)×Int×(List Int))(s10:(List Int)×(List Int)×(List Int)×Int×(List Int)): Option (((List Int)×(List Int)×(List Int)×Int×(List Int))⊕(((List Int)×(List Int)×(List Int)×Int×(List Int))⊕(((List Int)×(List Int)×(List Int)×Int×(List Int))⊕((List Int)×(List Int))))) :=
 if decide (s10.2.2.2.1<(len r4)) then
 (zC r4 s10.2.2.2.1).bind λx10 =>
 (zC s10.1 x10).bind λx11 =>
 if x11 != 3 then
 some (.inl (s10.1,s10.2.1,s10.2.2.1,zH (s10.2.2.2.1+1),s10.2.2.2.2))
 else
 (zC s10.1 x10).bind λ_ =>
 (zC s10.2.1 x10).bind λ_ =>
 (zDg y0 x10).bind λr5 =>
 zN (zFQ r5 s10 x10 s6) (s10.2.2.1,0,s10.2.2.2.2)
 else
 some (.inr (.inl (s10.1,s10.2.1,s10.2.2.1,zH (s9.2.2.2.1+1),s10.2.2.2.2)))
def zDD (s6:(List Int)×(List Int)×(List Int)×Int×(List Int))(y0:qE)(s9:(List Int)×(List Int)×(List Int)×Int×(List Int)): Option (((List Int)×(List Int)×(List Int)×Int×(List Int))⊕(((List Int)×(List Int)×(List Int)×Int×(List Int))⊕((List Int)×(List Int)))) :=
 if decide (s9.2.2.2.1<(len s6.2.2.1)) then
 (zC s6.2.2.1 s9.2.2.2.1).bind λx9 =>
 (zDg y0 x9).bind λr4 =>
 zN (zCX r4 y0 s6 s9) (s9.1,s9.2.1,s9.2.2.1,0,s9.2.2.2.2)
 else
 some (.inr (.inl (s9.1,s9.2.1,s9.2.2.1,zH (s6.2.2.2.1+1),s9.2.2.2.2)))
def zBn (y0:qE)(s6:(List Int)×(List Int)×(List Int)×Int×(List Int)): Option (((List Int)×(List Int)×(List Int)×Int×(List Int))⊕((List Int)×(List Int))) :=
 if decide (0<(len s6.2.2.1)) then
 (zN (zFE s6) (s6.1,s6.2.1,0):Option ((List Int)×(List Int))).bind λs7 =>
 zN (zDD s6 y0) (s7.1,s7.2,([]:List Int),0,s6.2.2.2.2)
 else
 some (.inr (s6.1,s6.2.1))
def zEd (y0:qE): Option ((List Int)×(List Int)) :=
 (
 (zDB ([3]:List Int) y0.1).bind λr1 =>
 (mkS y0.1 y0.1 (0:Int)).bind λx1 =>
 some (r1,x1):Option ((List Int)×(List Int))).bind λs1 =>
 (zN (zFI y0) (0,(List.replicate 40 (0:Int))):Option (List Int)).bind λs2 =>
 (zN (zFS y0 s2) (([]:List Int),0):Option (List Int)).bind λs4 =>
 zN (zBn y0) (s1.1,s1.2,s4,1,s2)
def zDb (y0:qE): Option (List Int) :=
 (zEd y0).bind λr1 =>
 some r1.1
def zGB (y0:qE): Option ((List Int)×Int) :=
 (zDb y0).bind λr1 =>
 some (r1,0)
def zA5 (y0:qE): Option ((List (List Int))×Int) :=
 (zGB y0).bind λr1 =>
 if r1.2 != 0 then
 some (([]:List (List Int)),r1.2)
 else
 some (([r1.1]:List (List Int)),0)
def zHh (y0:List Int)(y1:Int)(s1:(List Int)×Int): Option (((List Int)×Int)⊕(List Int)) :=
 if decide (s1.2<(len y0)) then
 (zC y0 s1.2).bind λx1 =>
 if x1==y1 then
 (qF s1.1 ([s1.2]:List Int)).bind λx2 =>
 some (.inl (x2,zH (s1.2+1)))
 else
 some (.inl (s1.1,zH (s1.2+1)))
 else
 some (.inr s1.1)
def zAl (y0:List Int)(y1:Int): Option (List Int) :=
 zN (zHh y0 y1) (([]:List Int),0)
def zA6 (r1:(List (List Int))×Int)(s1:(List (List Int))×Int): Option (((List (List Int))×Int)⊕((List (List Int))×Int)) :=
 if decide (s1.2<(len r1.1)) then
 (zC r1.1 s1.2).bind λx1 =>
 (zAl x1 1).bind λr2 =>
 (qF s1.1 ([r2]:List (List Int))).bind λx2 =>
 some (.inl (x2,zH (s1.2+1)))
 else
 some (.inr (s1.1,0))
def zAu (y0:qE): Option ((List (List Int))×Int) :=
 (zA5 y0).bind λr1 =>
 if r1.2 != 0 then
 some (([]:List (List Int)),r1.2)
 else
 zN (zA6 r1) (([]:List (List Int)),0)
def zSo (y1:List Int)(y0:qE)(s1:Int): Option (Int⊕Bool) :=
 if decide (s1<(len y1)) then
 (zC y1 s1).bind λx1 =>
 (
 if decide (x1<0) then
 some true
 else
 if decide (y0.1≤x1) then
 some true
 else
 if decide (0<s1) then
 (zC y1 (zH (s1-1))).bind λx2 =>
 some (decide (x1≤x2))
 else
 some false:Option Bool).bind λs2 =>
 if s2 then
 some (.inr false)
 else
 some (.inl (zH (s1+1)))
 else
 some (.inr true)
def zIl (y0:qE)(y1:List Int): Option Bool :=
 zN (zSo y1 y0) 0
def zPm (y0:qE)(y1:Int)(s1:Int×Int): Option ((Int×Int)⊕Int) :=
 if decide (s1.2<(len y0.2)) then
 (zC y0.2 s1.2).bind λx1 =>
 (shrK .u64 y1 x1.1).bind λx2 =>
 (shlK .u64 (yI .u64 x2 1) x1.2).bind λx3 =>
 some (.inl (bor .u64 s1.1 x3,zH (s1.2+1)))
 else
 some (.inr s1.1)
def zDP (y0:qE)(y1:Int): Option Int :=
 zN (zPm y0 y1) (0,0)
def zJ6 (y0:qE)(y1:Int): Option Bool :=
 (zDP y0 y1).bind λr1 =>
 some ((yI .u64 r1 y1)==0)
def zTb (s1:Int×(List Int)): Option ((Int×(List Int))⊕(List Int)) :=
 if s1.1 != 0 then
 (zCQ s1.1).bind λr1 =>
 (qF s1.2 ([r1]:List Int)).bind λx1 =>
 some (.inl (yI .u64 s1.1 (IntKind.u64.wrap (s1.1-1)),x1))
 else
 some (.inr s1.2)
def zJu (y0:Int): Option (List Int) :=
 zN (zTb) (y0,([]:List Int))
def zTp (y0:List Int)(s1:Int×Int): Option ((Int×Int)⊕Int) :=
 if decide (s1.2<(len y0)) then
 (zC y0 s1.2).bind λx1 =>
 (shlK .u64 1 x1).bind λx2 =>
 some (.inl (bor .u64 s1.1 x2,zH (s1.2+1)))
 else
 some (.inr s1.1)
def zJl (y0:List Int): Option Int :=
 zN (zTp y0) (0,0)
def zLl (y0:qE): Option Int :=
 (shlK .u64 1 y0.1).bind λx1 =>
 some (IntKind.u64.wrap (x1-1))
def zJv (y0:qE)(y1:Int): Option Int :=
 (zLl y0).bind λr1 =>
 (zLl y0).bind λr2 =>
 (zDP y0 y1).bind λr3 =>
 (zDP y0 (zSs .u64 r2 r3)).bind λr4 =>
 some (zSs .u64 r1 r4)
def zGE (y0:Int)(y1:qE): Option Int :=
 (zJv y1 y0).bind λr1 =>
 some (yI .u64 y0 r1)
def zBt (y1:qE)(s1:Int): Option (Int⊕Int) :=
 (zGE s1 y1).bind λr1 =>
 if r1==s1 then
 some (.inr s1)
 else
 some (.inl r1)
def zB0 (y0:Int)(y1:qE): Option Int :=
 zN (zBt y1) y0
def zFK (y0:qE)(y1:List Int): Option ((List Int)×Int) :=
 (zIl y0 y1).bind λr1 =>
 if !r1 then
 some (([]:List Int),1)
 else
 (zJl y1).bind λr2 =>
 (zJ6 y0 r2).bind λr3 =>
 if !r3 then
 some (([]:List Int),10)
 else
 (zB0 r2 y0).bind λr4 =>
 (zJu r4).bind λr5 =>
 some (r5,0)
def zUG (y0:List Int)(y1:Int): Option Bool :=
 (
 if decide (0≤y1) then
 if decide (y1<(len y0)) then
 (zC y0 y1).bind λx1 =>
 some (x1==1)
 else
 some false
 else
 some false:Option Bool).bind λs1 =>
 some s1
def zQ4 (y0:List Int)(y1:Int): Option Bool :=
 (zUG y0 y1).bind λr1 =>
 some (!r1)
def zIE (y0:List (List Int))(y1:Int)(s1:Int): Option (Int⊕Int) :=
 if decide (s1<(len y0)) then
 (zC y0 s1).bind λx1 =>
 (zQ4 x1 y1).bind λr1 =>
 if r1 then
 some (.inr s1)
 else
 some (.inl (zH (s1+1)))
 else
 some (.inr (-1))
def zBY (y0:List (List Int))(y1:Int): Option Int :=
 zN (zIE y0 y1) 0
def zBH (y0:List (List Int))(y1:Int): Option Bool :=
 (zBY y0 y1).bind λr1 =>
 some (decide (0≤r1))
def zLX (y0:List (List Int))(y1:Int): Option Bool :=
 (zBH y0 y1).bind λr1 =>
 some (!r1)
def zNG (x1:List Int)(y0:List (List Int))(s1:(List Int)×Int): Option (((List Int)×Int)⊕(List Int)) :=
 if decide (s1.2<(len x1)) then
 (zLX y0 s1.2).bind λr1 =>
 if r1 then
 (qF s1.1 ([s1.2]:List Int)).bind λx2 =>
 some (.inl (x2,zH (s1.2+1)))
 else
 some (.inl (s1.1,zH (s1.2+1)))
 else
 some (.inr s1.1)
def zLS (y0:List (List Int)): Option (List Int) :=
 if(len y0)==0 then
 some ([]:List Int)
 else
 (zC y0 0).bind λx1 =>
 zN (zNG x1 y0) (([]:List Int),0)
def zAs (y0:List qG): Option (List qG):=z3A zDZ y0
def zIt (r1:qE)(s2:Int×(List qG)): Option ((Int×(List qG))⊕(List qG)) :=
 if decide (s2.1<(len r1.2)) then
 (zC r1.2 s2.1).bind λx1 =>
 (qF s2.2 ([(x1.2,x1.1)]:List qG)).bind λx2 =>
 some (.inl (zH (s2.1+1),x2))
 else
 some (.inr s2.2)
def zGc (y0:qE): Option qE :=
 (zGO y0).bind λr1 =>
 (zN (zIt r1) (0,([]:List qG)):Option (List qG)).bind λs1 =>
 (zAs s1).bind λr2 =>
 some (r1.1,r2)
def zC4 (y0:qE)(y1:Int): Option (List Int) :=
 (zGc y0).bind λr1 =>
 (zDg r1 y1).bind λr2 =>
 some r2
def zAb (y0:uJ)(s1:(List Int)×Int): Option (((List Int)×Int)⊕((List Int)×Int)) :=
 if decide (s1.2<y0.1) then
 (vT (decide (0≤s1.2)&&decide (s1.2<40))).bind λ_ =>
 if(yS y0.2.2.1 s1.2)==2 then
 (qF s1.1 ([1]:List Int)).bind λx1 =>
 some (.inl (x1,zH (s1.2+1)))
 else
 if(yS y0.2.2.1 s1.2)==4 then
 (qF s1.1 ([2]:List Int)).bind λx2 =>
 some (.inl (x2,zH (s1.2+1)))
 else
 if(yS y0.2.2.1 s1.2)==8 then
 (qF s1.1 ([3]:List Int)).bind λx3 =>
 some (.inl (x3,zH (s1.2+1)))
 else
 some (.inr (([]:List Int),s1.2))
 else
 some (.inr (s1.1,(-1)))
def zBc (y0:uJ): Option ((List Int)×Int) :=
 zN (zAb y0) (([]:List Int),0)
def zPq (y1:List Int)(y0:uJ)(y2:Int)(s1:(List Int)×Int): Option (((List Int)×Int)⊕(List Int)) :=
 if decide (s1.2<(len y1)) then
 (zC y1 s1.2).bind λx1 =>
 (vT (decide (0≤x1)&&decide (x1<40))).bind λ_ =>
 if(yI .i64 (yS y0.2.2.1 x1) y2) != 0 then
 (qF s1.1 ([x1]:List Int)).bind λx2 =>
 some (.inl (x2,zH (s1.2+1)))
 else
 some (.inl (s1.1,zH (s1.2+1)))
 else
 some (.inr s1.1)
def zEO (y0:uJ)(y1:List Int)(y2:Int): Option (List Int) :=
 zN (zPq y1 y0 y2) (([]:List Int),0)
def zC7 (x1:List Int)(s2:Int×(List Int)): Option ((Int×(List Int))⊕(Int×(List Int))) :=
 if decide (s2.1<(len x1)) then
 (zC x1 s2.1).bind λx2 =>
 (vT (decide (0≤x2)&&decide (x2<40))).bind λ_ =>
 (vT (decide (0≤x2)&&decide (x2<40))).bind λ_ =>
 some (.inl (zH (s2.1+1),tD 40 s2.2 x2 (yI .i64 (yS s2.2 x2) 4)))
 else
 some (.inr (0,s2.2))
def zC9 (x1:List Int)(s4:Int×(List Int)): Option ((Int×(List Int))⊕(List Int)) :=
 if decide (s4.1<(len x1)) then
 (zC x1 s4.1).bind λx3 =>
 (vT (decide (0≤x3)&&decide (x3<40))).bind λ_ =>
 (vT (decide (0≤x3)&&decide (x3<40))).bind λ_ =>
 some (.inl (zH (s4.1+1),tD 40 s4.2 x3 (yI .i64 (yS s4.2 x3) 12)))
 else
 some (.inr s4.2)
def zC1 (y0:uJ)(y1:Int): Option ((List Int)×(List (List Int))) :=
 (zC y0.2.1 y1).bind λx1 =>
 (
 (vT (decide (0≤y1)&&decide (y1<40))).bind λ_ =>
 if(yS y0.2.2.1 y1)==2 then
 zN (zC7 x1) (0,y0.2.2.1)
 else
 if(yS y0.2.2.1 y1)==4 then
 some (2,y0.2.2.1)
 else
 if(yS y0.2.2.1 y1)==8 then
 (zN (zC9 x1) (0,y0.2.2.1):Option (List Int)).bind λs3 =>
 some (8,s3)
 else
 some (0,y0.2.2.1):Option (Int×(List Int))).bind λs1 =>
 (zEO (y0.1,y0.2.1,s1.2,y0.2.2.2.1,y0.2.2.2.2) x1 s1.1).bind λr1 =>
 if(len r1)==1 then
 (zC r1 0).bind λx4 =>
 (vT (decide (0≤x4)&&decide (x4<40))).bind λ_ =>
 (vT (decide (0≤x4)&&decide (x4<40))).bind λ_ =>
 some (tD 40 s1.2 x4 (yI .i64 (yS s1.2 x4) s1.1),y0.2.2.2.1)
 else
 some (s1.2,y0.2.2.2.1)
def zF1 (y1:List Int)(y0:uJ)(y2:Int)(s1:(List Int)×Int): Option (((List Int)×Int)⊕(List Int)) :=
 if decide (s1.2<(len y1)) then
 (zC y1 s1.2).bind λx1 =>
 (vT (decide (0≤x1)&&decide (x1<40))).bind λ_ =>
 if(yI .i64 (yS y0.2.2.1 x1) y2) != 0 then
 (qF s1.1 ([x1]:List Int)).bind λx2 =>
 some (.inl (x2,zH (s1.2+1)))
 else
 some (.inl (s1.1,zH (s1.2+1)))
 else
 some (.inr s1.1)
def zB3 (y0:uJ)(y1:List Int)(y2:Int): Option (List Int) :=
 zN (zF1 y1 y0 y2) (([]:List Int),0)
def zCG (y0:uJ)(y1:Int): Option Int :=
 (zC y0.2.1 y1).bind λx1 =>
 (
 (zB3 y0 x1 4).bind λr1 =>
 if decide ((len r1)<(len x1)) then
 some (zSs .i64 14 2)
 else
 some 14:Option Int).bind λs1 =>
 (
 (zB3 y0 x1 2).bind λr2 =>
 if(len r2)==0 then
 some (zSs .i64 s1 4)
 else
 some s1:Option Int).bind λs2 =>
 (
 (zB3 y0 x1 12).bind λr3 =>
 if decide ((len r3)<(len x1)) then
 some true
 else
 (zB3 y0 x1 8).bind λr4 =>
 some ((len r4)==0):Option Bool).bind λs3 =>
 if s3 then
 some (zSs .i64 s2 8)
 else
 some s2
def zMp (y0:List Int)(y1:Int)(s1:Int): Option (Int⊕Int) :=
 if decide (s1<(len y0)) then
 (zC y0 s1).bind λx1 =>
 if y1==x1 then
 some (.inr s1)
 else
 some (.inl (zH (s1+1)))
 else
 some (.inr (-1))
def zFz (y0:List Int)(y1:Int): Option Int :=
 zN (zMp y0 y1) 0
def zAK (y0:List Int)(y1:Int): Option Bool :=
 (zFz y0 y1).bind λr1 =>
 some (decide (0≤r1))
def zAM (y0:uJ)(s3:Int×(List Int)×(List (List Int))): Option ((Int×(List Int)×(List (List Int)))⊕(((List Int)×(List (List Int)))⊕(((List Int)×(List (List Int)))⊕(Bool×(List Int)×(List (List Int)))))) :=
 if decide (s3.1<y0.1) then
 (vT (decide (0≤s3.1)&&decide (s3.1<40))).bind λ_ =>
 (zCG (y0.1,y0.2.1,s3.2.1,s3.2.2,y0.2.2.2.2) s3.1).bind λr1 =>
 (vT (decide (0≤s3.1)&&decide (s3.1<40))).bind λ_ =>
 (vT (decide (0≤s3.1)&&decide (s3.1<40))).bind λ_ =>
 if(yS (tD 40 s3.2.1 s3.1 (yI .i64 (yS s3.2.1 s3.1) r1)) s3.1)==0 then
 some (.inr (.inr (.inr (false,tD 40 s3.2.1 s3.1 (yI .i64 (yS s3.2.1 s3.1) r1),s3.2.2))))
 else
 (zC1 (y0.1,y0.2.1,tD 40 s3.2.1 s3.1 (yI .i64 (yS s3.2.1 s3.1) r1),s3.2.2,y0.2.2.2.2) s3.1).bind λr2 =>
 some (.inl (zH (s3.1+1),r2.1,r2.2))
 else
 some (.inr (.inl (s3.2.1,s3.2.2)))
def zCK (y0:uJ)(s1:(List Int)×(List (List Int))): Option (((List Int)×(List (List Int)))⊕(Bool×(List Int)×(List (List Int)))) :=
 vH (zN (zAM y0) (0,s1.1,s1.2):Option (((List Int)×(List (List Int)))⊕(((List Int)×(List (List Int)))⊕(Bool×(List Int)×(List (List Int)))))) λs2 =>
 (asub 40 s2.1 y0.1).bind λx1 =>
 (zAK x1 0).bind λr3 =>
 if r3 then
 some (.inr (false,s2.1,s2.2))
 else
 if aeq 40 s2.1 s1.1 then
 some (.inr (true,s2.1,s2.2))
 else
 some (.inl (s2.1,s2.2))
def zB9 (y0:uJ): Option (Bool×(List Int)×(List (List Int))) :=
 zN (zCK y0) (y0.2.2.1,y0.2.2.2.1)
def zBZ (r2:(List Int)×Int)(s1:Bool×(List Int)×(List (List Int)))(rec_search_finder_find:uJ->Option ((List Int)×(List (List Int))×Bool))(y0:uJ)(s2:Int×(List (List Int))×Bool): Option ((Int×(List (List Int))×Bool)⊕((List Int)×(List (List Int))×Bool)) :=
 if decide (s2.1<(len ([2,4,8]:List Int))) then
 (zC ([2,4,8]:List Int) s2.1).bind λx2 =>
 (vT (decide (0≤r2.2)&&decide (r2.2<40))).bind λ_ =>
 if(yI .i64 (yS s1.2.1 r2.2) x2) != 0 then
 (vT (decide (0≤r2.2)&&decide (r2.2<40))).bind λ_ =>
 (rec_search_finder_find (y0.1,y0.2.1,tD 40 s1.2.1 r2.2 x2,s2.2.1,s2.2.2)).bind λr3 =>
 some (.inl (zH (s2.1+1),r3.2.1,r3.2.2))
 else
 some (.inl (zH (s2.1+1),s2.2.1,s2.2.2))
 else
 some (.inr (s1.2.1,s2.2.1,s2.2.2))
def zAp (rec_search_finder_find:uJ->Option ((List Int)×(List (List Int))×Bool))(y0:uJ): Option ((List Int)×(List (List Int))×Bool) :=
 (
 if y0.2.2.2.2 then
 some (true,y0.2.2.1,y0.2.2.2.1)
 else
 (zB9 y0).bind λr1 =>
 some (!r1.1,r1.2.1,r1.2.2):Option (Bool×(List Int)×(List (List Int)))).bind λs1 =>
 if s1.1 then
 some (s1.2.1,s1.2.2,y0.2.2.2.2)
 else
 (zBc (y0.1,y0.2.1,s1.2.1,s1.2.2,y0.2.2.2.2)).bind λr2 =>
 if decide (r2.2<0) then
 (qF s1.2.2 ([r2.1]:List (List Int))).bind λx1 =>
 some (s1.2.1,x1,(len s1.2.2)==200)
 else
 zN (zBZ r2 s1 rec_search_finder_find y0) (0,s1.2.2,y0.2.2.2.2)
def zB7:Nat->uJ->Option ((List Int)×(List (List Int))×Bool)
 | 0=>λ_=>none
 | k+1=>λy0=>zAp (zB7 k) y0
def zEo (y0:uJ): Option ((List Int)×(List (List Int))×Bool):=z6A λk=>zB7 k y0
def zBx (y0:qE)(s2:Int×(List (List Int))×(List Int)): Option ((Int×(List (List Int))×(List Int))⊕((List (List Int))×(List Int))) :=
 if decide (s2.1<y0.1) then
 (zC4 y0 s2.1).bind λr2 =>
 (qF s2.2.1 ([r2]:List (List Int))).bind λx1 =>
 (vT (decide (0≤s2.1)&&decide (s2.1<40))).bind λ_ =>
 some (.inl (zH (s2.1+1),x1,tD 40 s2.2.2 s2.1 14))
 else
 some (.inr (s2.2.1,s2.2.2))
def zBO (y0:qE): Option ((List (List Int))×Int) :=
 (zBD y0).bind λr1 =>
 if r1 != 0 then
 some (([]:List (List Int)),r1)
 else
 (zN (zBx y0) (0,([]:List (List Int)),(List.replicate 40 (0:Int))):Option ((List (List Int))×(List Int))).bind λs1 =>
 (zEo (y0.1,s1.1,s1.2,([]:List (List Int)),false)).bind λr3 =>
 if r3.2.2 then
 some (([]:List (List Int)),2)
 else
 some (r3.2.1,0)
def zEV (y1:List Int)(y0:List Int)(s1:(List Int)×Int): Option (((List Int)×Int)⊕(List Int)) :=
 if decide (s1.2<(len y1)) then
 (zC y1 s1.2).bind λx1 =>
 (zAl y0 x1).bind λr1 =>
 (qF s1.1 r1).bind λx2 =>
 some (.inl (x2,zH (s1.2+1)))
 else
 some (.inr s1.1)
def zBe (y0:List Int)(y1:List Int): Option (List Int) :=
 zN (zEV y1 y0) (([]:List Int),0)
def zEn (y0:Int)(y1:List Int): Option Bool :=
 (zAK y1 y0).bind λr1 =>
 some (!r1)
def zAT (y0:List Int)(y1:List Int)(s1:Int): Option (Int⊕Int) :=
 if decide (s1<(len y0)) then
 (zC y0 s1).bind λx1 =>
 (zEn x1 y1).bind λr1 =>
 if r1 then
 some (.inr s1)
 else
 some (.inl (zH (s1+1)))
 else
 some (.inr (-1))
def zAZ (y0:List Int)(y1:List Int): Option Int :=
 zN (zAT y0 y1) 0
def zAF (y0:List Int)(y1:List Int): Option Bool :=
 (zAZ y0 y1).bind λr1 =>
 some (decide (0≤r1))
def zD0 (y0:List Int)(y1:List Int): Option Bool :=
 (
 if decide ((len y0)<(len y1)) then
 (zAF y0 y1).bind λr1 =>
 some (!r1)
 else
 some false:Option Bool).bind λs1 =>
 some s1
def zCY (y0:List Int)(y1:List Int): Option Bool :=
 (zBe y1 ([1]:List Int)).bind λr1 =>
 (zBe y0 ([1]:List Int)).bind λr2 =>
 (zD0 r1 r2).bind λr3 =>
 some r3
def zA3 (y0:List Int)(y2:List Int): Option Bool :=
 (zCY y0 y2).bind λr1 =>
 some r1
def zAW (y0:List (List Int))(y2:List Int)(s1:Int): Option (Int⊕Int) :=
 if decide (s1<(len y0)) then
 (zC y0 s1).bind λx1 =>
 (zA3 x1 y2).bind λr1 =>
 if r1 then
 some (.inr s1)
 else
 some (.inl (zH (s1+1)))
 else
 some (.inr (-1))
def zA8 (y0:List (List Int))(y2:List Int): Option Int :=
 zN (zAW y0 y2) 0
def zAI (y0:List (List Int))(y2:List Int): Option Bool :=
 (zA8 y0 y2).bind λr1 =>
 some (decide (0≤r1))
def zAD (r1:(List (List Int))×Int)(s1:(List (List Int))×Int): Option (((List (List Int))×Int)⊕((List (List Int))×Int)) :=
 if decide (s1.2<(len r1.1)) then
 (zC r1.1 s1.2).bind λx1 =>
 (zAI r1.1 x1).bind λr2 =>
 if !r2 then
 (qF s1.1 ([x1]:List (List Int))).bind λx2 =>
 some (.inl (x2,zH (s1.2+1)))
 else
 some (.inl (s1.1,zH (s1.2+1)))
 else
 some (.inr (s1.1,0))
def zAa (y0:qE): Option ((List (List Int))×Int) :=
 (zBO y0).bind λr1 =>
 if r1.2 != 0 then
 some (([]:List (List Int)),r1.2)
 else
 zN (zAD r1) (([]:List (List Int)),0)
def zBh (y0:qE): Option ((List (List Int))×Int) :=
 (zAa y0).bind λr1 =>
 some (r1.1,r1.2)
def zIe (y0:qE)(y1:List Int)(s2:(List Int)×Int): Option (((List Int)×Int)⊕(List Int)) :=
 if decide (s2.2<(len y0.2)) then
 (zC y0.2 s2.2).bind λx1 =>
 (zAK y1 x1.1).bind λr2 =>
 if r2 then
 (zC s2.1 x1.2).bind λ_ =>
 some (.inl (List.set s2.1 (Int.toNat x1.2) 2,zH (s2.2+1)))
 else
 some (.inl (s2.1,zH (s2.2+1)))
 else
 some (.inr s2.1)
def zRy (y1:List Int)(y0:qE)(s3:(List Int)×Int): Option (((List Int)×Int)⊕(List Int)) :=
 if decide (s3.2<(len y1)) then
 (zC y1 s3.2).bind λx3 =>
 if(decide (0≤x3))&&(decide (x3<y0.1)) then
 (zC s3.1 x3).bind λ_ =>
 some (.inl (List.set s3.1 (Int.toNat x3) 1,zH (s3.2+1)))
 else
 some (.inl (s3.1,zH (s3.2+1)))
 else
 some (.inr s3.1)
def zFH (y0:qE)(y1:List Int): Option (List Int) :=
 (zDB ([3]:List Int) y0.1).bind λr1 =>
 (zN (zIe y0 y1) (r1,0):Option (List Int)).bind λs1 =>
 zN (zRy y1 y0) (s1,0)
def zBf (y0:qE): Option ((List Int)×Int) :=
 (zBh y0).bind λr1 =>
 if r1.2 != 0 then
 some (([]:List Int),r1.2)
 else
 (zLS r1.1).bind λr2 =>
 (zFK y0 r2).bind λr3 =>
 if r3.2 != 0 then
 some (([]:List Int),r3.2)
 else
 (zFH y0 r3.1).bind λr4 =>
 some (r4,0)
def zPS (y0:qE): Option ((List Int)×Int) :=
 (zBf y0).bind λr1 =>
 some (r1.1,r1.2)
def zCz (y0:qE): Option ((List (List Int))×Int) :=
 (zPS y0).bind λr1 =>
 if r1.2 != 0 then
 some (([]:List (List Int)),r1.2)
 else
 some (([r1.1]:List (List Int)),0)
def zCe (r1:(List (List Int))×Int)(s1:(List (List Int))×Int): Option (((List (List Int))×Int)⊕((List (List Int))×Int)) :=
 if decide (s1.2<(len r1.1)) then
 (zC r1.1 s1.2).bind λx1 =>
 (zAl x1 1).bind λr2 =>
 (qF s1.1 ([r2]:List (List Int))).bind λx2 =>
 some (.inl (x2,zH (s1.2+1)))
 else
 some (.inr (s1.1,0))
def zBL (y0:qE): Option ((List (List Int))×Int) :=
 (zCz y0).bind λr1 =>
 if r1.2 != 0 then
 some (([]:List (List Int)),r1.2)
 else
 zN (zCe r1) (([]:List (List Int)),0)
def zE2 (y0:List Int)(y1:List Int): Option Bool :=
 (zBe y0 ([3]:List Int)).bind λr1 =>
 (zBe y1 ([3]:List Int)).bind λr2 =>
 (zD0 r1 r2).bind λr3 =>
 some r3
def zBF (y0:List Int)(y2:List Int): Option Bool :=
 (zE2 y0 y2).bind λr1 =>
 some r1
def zBb (y0:List (List Int))(y2:List Int)(s1:Int): Option (Int⊕Int) :=
 if decide (s1<(len y0)) then
 (zC y0 s1).bind λx1 =>
 (zBF x1 y2).bind λr1 =>
 if r1 then
 some (.inr s1)
 else
 some (.inl (zH (s1+1)))
 else
 some (.inr (-1))
def zBC (y0:List (List Int))(y2:List Int): Option Int :=
 zN (zBb y0 y2) 0
def zAg (y0:List (List Int))(y2:List Int): Option Bool :=
 (zBC y0 y2).bind λr1 =>
 some (decide (0≤r1))
def zBq (r1:(List (List Int))×Int)(s1:(List (List Int))×Int): Option (((List (List Int))×Int)⊕((List (List Int))×Int)) :=
 if decide (s1.2<(len r1.1)) then
 (zC r1.1 s1.2).bind λx1 =>
 (zAg r1.1 x1).bind λr2 =>
 if !r2 then
 (qF s1.1 ([x1]:List (List Int))).bind λx2 =>
 some (.inl (x2,zH (s1.2+1)))
 else
 some (.inl (s1.1,zH (s1.2+1)))
 else
 some (.inr (s1.1,0))
def zBM (y0:qE): Option ((List (List Int))×Int) :=
 (zBO y0).bind λr1 =>
 if r1.2 != 0 then
 some (([]:List (List Int)),r1.2)
 else
 zN (zBq r1) (([]:List (List Int)),0)
def zDs (y0:qE): Option ((List (List Int))×Int) :=
 (zBM y0).bind λr1 =>
 some (r1.1,r1.2)
def zB8 (y0:qE): Option ((List Int)×Int) :=
 (zDs y0).bind λr1 =>
 if r1.2 != 0 then
 some (([]:List Int),r1.2)
 else
 (zLS r1.1).bind λr2 =>
 (zFK y0 r2).bind λr3 =>
 if r3.2 != 0 then
 some (([]:List Int),r3.2)
 else
 (zFH y0 r3.1).bind λr4 =>
 some (r4,0)
def zPQ (y0:qE): Option ((List Int)×Int) :=
 (zB8 y0).bind λr1 =>
 some (r1.1,r1.2)
def zCw (y0:qE): Option ((List (List Int))×Int) :=
 (zPQ y0).bind λr1 =>
 if r1.2 != 0 then
 some (([]:List (List Int)),r1.2)
 else
 some (([r1.1]:List (List Int)),0)
def zCa (r1:(List (List Int))×Int)(s1:(List (List Int))×Int): Option (((List (List Int))×Int)⊕((List (List Int))×Int)) :=
 if decide (s1.2<(len r1.1)) then
 (zC r1.1 s1.2).bind λx1 =>
 (zAl x1 1).bind λr2 =>
 (qF s1.1 ([r2]:List (List Int))).bind λx2 =>
 some (.inl (x2,zH (s1.2+1)))
 else
 some (.inr (s1.1,0))
def zBK (y0:qE): Option ((List (List Int))×Int) :=
 (zCw y0).bind λr1 =>
 if r1.2 != 0 then
 some (([]:List (List Int)),r1.2)
 else
 zN (zCa r1) (([]:List (List Int)),0)
def zAU (r1:(List (List Int))×Int)(s1:(List (List Int))×Int): Option (((List (List Int))×Int)⊕((List (List Int))×Int)) :=
 if decide (s1.2<(len r1.1)) then
 (zC r1.1 s1.2).bind λx1 =>
 (zAl x1 1).bind λr2 =>
 (qF s1.1 ([r2]:List (List Int))).bind λx2 =>
 some (.inl (x2,zH (s1.2+1)))
 else
 some (.inr (s1.1,0))
def zAN (y0:qE): Option ((List (List Int))×Int) :=
 (zBh y0).bind λr1 =>
 if r1.2 != 0 then
 some (([]:List (List Int)),r1.2)
 else
 zN (zAU r1) (([]:List (List Int)),0)
def zCE (r1:(List (List Int))×Int)(s1:(List (List Int))×Int): Option (((List (List Int))×Int)⊕((List (List Int))×Int)) :=
 if decide (s1.2<(len r1.1)) then
 (zC r1.1 s1.2).bind λx1 =>
 (zAl x1 1).bind λr2 =>
 (qF s1.1 ([r2]:List (List Int))).bind λx2 =>
 some (.inl (x2,zH (s1.2+1)))
 else
 some (.inr (s1.1,0))
def zAr (y0:qE): Option ((List (List Int))×Int) :=
 (zDs y0).bind λr1 =>
 if r1.2 != 0 then
 some (([]:List (List Int)),r1.2)
 else
 zN (zCE r1) (([]:List (List Int)),0)
def zG6 (y0:List Int)(y1:List Int): Option Bool :=
 (zBe y1 ([3]:List Int)).bind λr1 =>
 some (decide (0<(len r1)))
def zB4 (y0:List Int)(y2:List Int): Option Bool :=
 (zG6 y0 y2).bind λr1 =>
 some r1
def zBa (y0:List (List Int))(y2:List Int)(s1:Int): Option (Int⊕Int) :=
 if decide (s1<(len y0)) then
 (zC y0 s1).bind λx1 =>
 (zB4 x1 y2).bind λr1 =>
 if r1 then
 some (.inr s1)
 else
 some (.inl (zH (s1+1)))
 else
 some (.inr (-1))
def zBG (y0:List (List Int))(y2:List Int): Option Int :=
 zN (zBa y0 y2) 0
def zAe (y0:List (List Int))(y2:List Int): Option Bool :=
 (zBG y0 y2).bind λr1 =>
 some (decide (0≤r1))
def zCM (r1:(List (List Int))×Int)(s1:(List (List Int))×Int): Option (((List (List Int))×Int)⊕((List (List Int))×Int)) :=
 if decide (s1.2<(len r1.1)) then
 (zC r1.1 s1.2).bind λx1 =>
 (zAe r1.1 x1).bind λr2 =>
 if !r2 then
 (qF s1.1 ([x1]:List (List Int))).bind λx2 =>
 some (.inl (x2,zH (s1.2+1)))
 else
 some (.inl (s1.1,zH (s1.2+1)))
 else
 some (.inr (s1.1,0))
def zBg (y0:qE): Option ((List (List Int))×Int) :=
 (zBO y0).bind λr1 =>
 if r1.2 != 0 then
 some (([]:List (List Int)),r1.2)
 else
 zN (zCM r1) (([]:List (List Int)),0)
def zIv (y0:qE): Option ((List (List Int))×Int) :=
 (zBg y0).bind λr1 =>
 some (r1.1,r1.2)
def zCp (r1:(List (List Int))×Int)(s1:(List (List Int))×Int): Option (((List (List Int))×Int)⊕((List (List Int))×Int)) :=
 if decide (s1.2<(len r1.1)) then
 (zC r1.1 s1.2).bind λx1 =>
 (zAl x1 1).bind λr2 =>
 (qF s1.1 ([r2]:List (List Int))).bind λx2 =>
 some (.inl (x2,zH (s1.2+1)))
 else
 some (.inr (s1.1,0))
def zBW (y0:qE): Option ((List (List Int))×Int) :=
 (zIv y0).bind λr1 =>
 if r1.2 != 0 then
 some (([]:List (List Int)),r1.2)
 else
 zN (zCp r1) (([]:List (List Int)),0)
def zDE (r1:(List (List Int))×Int)(s1:(List (List Int))×Int): Option (((List (List Int))×Int)⊕((List (List Int))×Int)) :=
 if decide (s1.2<(len r1.1)) then
 (zC r1.1 s1.2).bind λx1 =>
 (zAl x1 1).bind λr2 =>
 (qF s1.1 ([r2]:List (List Int))).bind λx2 =>
 some (.inl (x2,zH (s1.2+1)))
 else
 some (.inr (s1.1,0))
def zB5 (y0:qE): Option ((List (List Int))×Int) :=
 (zBO y0).bind λr1 =>
 if r1.2 != 0 then
 some (([]:List (List Int)),r1.2)
 else
 zN (zDE r1) (([]:List (List Int)),0)
def zAk (y0:qE)(y1:Int): Option ((List (List Int))×Int) :=
 (zBD y0).bind λr1 =>
 if r1 != 0 then
 some (([]:List (List Int)),r1)
 else
 zNO.bind λ_ =>
 if(decide (y1<1))||(decide (((10:Nat):Int)≤y1)) then
 some (([]:List (List Int)),4)
 else
 (
 if y1==1 then
 (zAu y0).bind λr3 =>
 some (r3.1,r3.2)
 else
 if y1==2 then
 (zB5 y0).bind λr4 =>
 some (r4.1,r4.2)
 else
 if y1==3 then
 (zAN y0).bind λr5 =>
 some (r5.1,r5.2)
 else
 if y1==4 then
 (zBW y0).bind λr6 =>
 some (r6.1,r6.2)
 else
 if y1==5 then
 (zAr y0).bind λr7 =>
 some (r7.1,r7.2)
 else
 if y1==6 then
 (zBL y0).bind λr8 =>
 some (r8.1,r8.2)
 else
 if y1==7 then
 (zBK y0).bind λr9 =>
 some (r9.1,r9.2)
 else
 if y1==8 then
 none
 else
 if y1==9 then
 none
 else
 none:Option ((List (List Int))×Int)).bind λs1 =>
 some (s1.1,s1.2)
def zC3 (r1:(List (List Int))×Int)(y0:zBv)(s1:(List (List zI))×Int): Option (((List (List zI))×Int)⊕((List (List zI))×Int)) :=
 if decide (s1.2<(len r1.1)) then
 (zC r1.1 s1.2).bind λx1 =>
 (zCC y0.2.1 x1).bind λr2 =>
 (qF s1.1 ([r2]:List (List zI))).bind λx2 =>
 some (.inl (x2,zH (s1.2+1)))
 else
 some (.inr (s1.1,0))
def zD7 (y0:zBv)(y1:Int): Option ((List (List zI))×Int) :=
 (zAk y0.2.2.2 y1).bind λr1 =>
 if r1.2 != 0 then
 some (([]:List (List zI)),r1.2)
 else
 zN (zC3 r1 y0) (([]:List (List zI)),0)
def zEv (y0:Int): Option (List zI) :=
 (
 if decide (y0<0) then
 none
 else
 some ():Option Unit).bind λ_ =>
 if decide (0<(zH (y0-(zH (((0:Nat):Int)-(len ([]:List zI))))))) then
 (mkS (zH (y0-(zH (((0:Nat):Int)-(len ([]:List zI)))))) (zH (y0-(zH (((0:Nat):Int)-(len ([]:List zI)))))) ((false,[]):zI)).bind λx1 =>
 (sub x1 0 (len ([]:List zI))).bind λx2 =>
 some x2
 else
 some ([]:List zI)
def zC6 (y0:List (List zI))(s2:Int×Int): Option ((Int×Int)⊕Int) :=
 if decide (s2.2<(len y0)) then
 (zC y0 s2.2).bind λx1 =>
 if decide ((zH (s2.1+(len x1)))<0) then
 none
 else
 some (.inl (zH (s2.1+(len x1)),zH (s2.2+1)))
 else
 some (.inr s2.1)
def zDj (y0:List (List zI))(s3:(List zI)×Int): Option (((List zI)×Int)⊕(List zI)) :=
 if decide (s3.2<(len y0)) then
 (zC y0 s3.2).bind λx2 =>
 (qF s3.1 x2).bind λx3 =>
 some (.inl (x3,zH (s3.2+1)))
 else
 some (.inr s3.1)
def zC0 (y0:List (List zI)): Option (List zI) :=
 (zN (zC6 y0) (0,0):Option Int).bind λs1 =>
 (zEv s1).bind λr1 =>
 zN (zDj y0) (r1,0)
def zPX (y0:List zI)(y1:zI)(s1:Int): Option (Int⊕Int) :=
 if decide (s1<(len y0)) then
 (zC y0 s1).bind λx1 =>
 if y1==x1 then
 some (.inr s1)
 else
 some (.inl (zH (s1+1)))
 else
 some (.inr (-1))
def zCi (y0:List zI)(y1:zI): Option Int :=
 zN (zPX y0 y1) 0
def zCs (y0:List zI)(y1:zI): Option Bool :=
 (zCi y0 y1).bind λr1 =>
 some (decide (0≤r1))
def zFy (y0:List zI)(y1:zI): Option Bool :=
 (zCs y0 y1).bind λr1 =>
 some r1
def zDN (y0:List zI)(y1:zI): Option Bool :=
 (zFy y0 y1).bind λr1 =>
 some (!r1)
def zBI (y0:List (List zI))(y1:zI)(s1:Int): Option (Int⊕Int) :=
 if decide (s1<(len y0)) then
 (zC y0 s1).bind λx1 =>
 (zDN x1 y1).bind λr1 =>
 if r1 then
 some (.inr s1)
 else
 some (.inl (zH (s1+1)))
 else
 some (.inr (-1))
def zA9 (y0:List (List zI))(y1:zI): Option Int :=
 zN (zBI y0 y1) 0
def zAH (y0:List (List zI))(y1:zI): Option Bool :=
 (zA9 y0 y1).bind λr1 =>
 some (decide (0≤r1))
def zCR (y0:zI)(y1:Bool)(y2:List (List zI)): Option Bool :=
 (
 if y1 then
 (zAH y2 y0).bind λr1 =>
 some r1
 else
 some false:Option Bool).bind λs1 =>
 some s1
def zBV (y0:List zI)(y1:Bool)(y2:List (List zI))(s1:Int): Option (Int⊕Int) :=
 if decide (s1<(len y0)) then
 (zC y0 s1).bind λx1 =>
 (zCR x1 y1 y2).bind λr1 =>
 if r1 then
 some (.inr s1)
 else
 some (.inl (zH (s1+1)))
 else
 some (.inr (-1))
def zAi (y0:List zI)(y1:Bool)(y2:List (List zI)): Option Int :=
 zN (zBV y0 y1 y2) 0
def zBN (y0:List zI)(y1:Bool)(y2:List (List zI))(s2:(List zI)×Int×Int): Option (((List zI)×Int×Int)⊕((List zI)×Int)) :=
 if decide (s2.2.2<(len y0)) then
 (zC s2.1 s2.2.2).bind λx1 =>
 (zCR x1 y1 y2).bind λr2 =>
 if !r2 then
 (zC s2.1 s2.2.1).bind λ_ =>
 some (.inl (List.set s2.1 (Int.toNat s2.2.1) x1,zH (s2.2.1+1),zH (s2.2.2+1)))
 else
 some (.inl (s2.1,s2.2.1,zH (s2.2.2+1)))
 else
 some (.inr (s2.1,s2.2.1))
def zAR (y0:List zI)(y1:Bool)(y2:List (List zI)): Option (List zI) :=
 (zAi y0 y1 y2).bind λr1 =>
 if r1==(-1) then
 some y0
 else
 (zN (zBN y0 y1 y2) (y0,r1,zH (r1+1)):Option ((List zI)×Int)).bind λs1 =>
 (vT (decide (0≤s1.2)&&decide (s1.2≤len s1.1))).bind λ_ =>
 (sub (zEQ s1.1 s1.2 (false,[])) 0 s1.2).bind λx3 =>
 some x3
def zBU (y0:zBv)(y1:Int)(y2:Bool): Option ((List zI)×Int) :=
 (zD7 y0 y1).bind λr1 =>
 if r1.2 != 0 then
 some (([]:List zI),r1.2)
 else
 (zC0 r1.1).bind λr2 =>
 (zEi r2).bind λr3 =>
 (zAR r3 y2 r1.1).bind λr4 =>
 some (r4,0)
def zT8 (y0:List Int): Option uU :=
 (sub y0 0 (if 2000<(len y0) then 2000 else len y0)).bind λx1 =>
 some (x1,0)
def zJ5 (y0:zI)(y1:zI): Option Int :=
 if y0==y1 then
 some 0
 else
 if(uV y0.2 y1.2)||((y0.2==y1.2)&&y1.1) then
 some (-1)
 else
 some 1
def zHC (y0:List zI)(y1:zI)(s2:Int): Option (Int⊕Int) :=
 (
 if decide (s2<(len y0)) then
 (zC y0 s2).bind λx1 =>
 (zJ5 x1 y1).bind λr1 =>
 some (decide (r1<0))
 else
 some false:Option Bool).bind λs3 =>
 if s3 then
 some (.inl (zH (s2+1)))
 else
 some (.inr s2)
def zM9 (y0:List zI)(y1:zI): Option (List zI) :=
 (zN (zHC y0 y1) 0:Option Int).bind λs1 =>
 (
 if decide (s1<(len y0)) then
 (zC y0 s1).bind λx2 =>
 some (x2==y1)
 else
 some false:Option Bool).bind λs4 =>
 if s4 then
 some y0
 else
 (sub y0 0 s1).bind λx3 =>
 (qF ([]:List zI) x3).bind λx4 =>
 (sub y0 s1 (len y0)).bind λx5 =>
 (qF x4 ([y1]:List zI)).bind λx6 =>
 (qF x6 x5).bind λx7 =>
 some x7
def zJf (y0:List zI)(s1:(List zI)×Int): Option (((List zI)×Int)⊕(List zI)) :=
 if decide (s1.2<(len y0)) then
 (zC y0 s1.2).bind λx1 =>
 (zM9 s1.1 x1).bind λr1 =>
 some (.inl (r1,zH (s1.2+1)))
 else
 some (.inr s1.1)
def zK4 (y0:List zI): Option (List zI) :=
 zN (zJf y0) (([]:List zI),0)
def z0B (y0:List zI)(y1:List zI)(s1:Int): Option (Int⊕Bool) :=
 if decide (s1<(len y0)) then
 (zC y0 s1).bind λx1 =>
 (zC y1 s1).bind λx2 =>
 if !(x1==x2) then
 some (.inr false)
 else
 some (.inl (zH (s1+1)))
 else
 some (.inr true)
def zMj (y0:List zI)(y1:List zI): Option Bool :=
 if(len y0) != (len y1) then
 some false
 else
 zN (z0B y0 y1) 0
def zBr (y0:xB): Option Bool :=
 some (decide (40<(zH ((len y0.2.1)+(len y0.2.2.1)))))
def zRF (y0:List Int)(s1:Int)(s3:(List Int)×Int×Int): Option (((List Int)×Int×Int)⊕((List Int)×Int)) :=
 if decide (s3.2.2<((Int.toNat (((List.length y0:Nat):Int)-s1):Nat):Int)) then
 (z1W s3.1 s1 s3.2.2).bind λx3 =>
 (z1W s3.1 s1 (zH (s3.2.2-1))).bind λx4 =>
 if x3 != x4 then
 (z1W s3.1 s1 s3.2.2).bind λx5 =>
 (zC s3.1 s3.2.1).bind λ_ =>
 some (.inl (List.set s3.1 (Int.toNat s3.2.1) x5,zH (s3.2.1+1),zH (s3.2.2+1)))
 else
 some (.inl (s3.1,s3.2.1,zH (s3.2.2+1)))
 else
 some (.inr (s3.1,s3.2.1))
def zHe (y0:List Int)(s1:Int): Option (Int⊕(List Int)) :=
 if decide (s1<(len y0)) then
 (zC y0 s1).bind λx1 =>
 (zC y0 (zH (s1-1))).bind λx2 =>
 if x1==x2 then
 (vT (decide (0≤s1)&&decide (s1≤len y0))).bind λ_ =>
 (zN (zRF y0 s1) (y0,s1,1):Option ((List Int)×Int)).bind λs2 =>
 (vT (decide (0≤s2.2)&&decide (s2.2≤len s2.1))).bind λ_ =>
 (sub (zEQ s2.1 s2.2 0) 0 s2.2).bind λx7 =>
 some (.inr x7)
 else
 some (.inl (zH (s1+1)))
 else
 some (.inr y0)
def zAq (y0:List Int): Option (List Int) :=
 if decide ((len y0)<2) then
 some y0
 else
 zN (zHe y0) 1
def zBw (y0:List Int): Option (List Int):=sortI y0
def zE6 (x1:zF)(rec_argument_Subs:(List zF)->Int->Option (List Int))(y0:List zF)(s2:(List Int)×Int): Option (((List Int)×Int)⊕(List Int)) :=
 if decide (s2.2<(len x1.2.2.1)) then
 (zC x1.2.2.1 s2.2).bind λx2 =>
 (rec_argument_Subs y0 x2).bind λr2 =>
 (qF s2.1 r2).bind λx3 =>
 some (.inl (x3,zH (s2.2+1)))
 else
 some (.inr s2.1)
def zGf (rec_argument_Subs:(List zF)->Int->Option (List Int))(y0:List zF)(y1:Int): Option (List Int) :=
 (zBQ y0 y1).bind λr1 =>
 if !r1 then
 some ([]:List Int)
 else
 (
 (zC y0 y1).bind λx1 =>
 zN (zE6 x1 rec_argument_Subs y0) (([y1]:List Int),0):Option (List Int)).bind λs1 =>
 (zBw s1).bind λr3 =>
 (zAq r3).bind λr4 =>
 some r4
def zEN:Nat->(List zF)->Int->Option (List Int)
 | 0=>λ_ _=>none
 | k+1=>λy0 y1=>zGf (zEN k) y0 y1
def zFT (y0:List zF)(y1:Int): Option (List Int):=z6A λk=>zEN k y0 y1
def zE9 (r1:(List Int))(y1:List zF)(y0:zM)(s2:(List Int)×Int): Option (((List Int)×Int)⊕(List Int)) :=
 if decide (s2.2<(len r1)) then
 (zC r1 s2.2).bind λx1 =>
 (zC y1 x1).bind λx2 =>
 (
 if decide (0≤x2.2.1) then
 (zC y0.2.1 x2.2.1).bind λx3 =>
 some (!x3.2.1)
 else
 some false:Option Bool).bind λs3 =>
 if s3 then
 (qF s2.1 ([x2.2.1]:List Int)).bind λx4 =>
 some (.inl (x4,zH (s2.2+1)))
 else
 some (.inl (s2.1,zH (s2.2+1)))
 else
 some (.inr s2.1)
def zCW (y0:zM)(y1:List zF)(y2:Int): Option (List Int) :=
 (
 (zFT y1 y2).bind λr1 =>
 zN (zE9 r1 y1 y0) (([]:List Int),0):Option (List Int)).bind λs1 =>
 (zBw s1).bind λr2 =>
 (zAq r2).bind λr3 =>
 some r3
def zJr (x4:zF)(rec_argument_run:zM->(List zF)->Int->Option (List zI))(y0:zM)(y1:List zF)(s2:(List zI)×Int): Option (((List zI)×Int)⊕(List zI)) :=
 if decide (s2.2<(len x4.2.2.1)) then
 (zC x4.2.2.1 s2.2).bind λx5 =>
 (rec_argument_run y0 y1 x5).bind λr1 =>
 (qF s2.1 r1).bind λx6 =>
 some (.inl (x6,zH (s2.2+1)))
 else
 some (.inr s2.1)
def zI2 (rec_argument_run:zM->(List zF)->Int->Option (List zI))(y0:zM)(y1:List zF)(y2:Int): Option (List zI) :=
 (zC y1 y2).bind λx1 =>
 (zC y1 y2).bind λx2 =>
 (
 if decide (0≤x2.2.1) then
 (zC y0.2.1 x2.2.1).bind λx3 =>
 some x3.2.1
 else
 some false:Option Bool).bind λs1 =>
 if s1 then
 (zC y1 y2).bind λx4 =>
 zN (zJr x4 rec_argument_run y0 y1) (([x1.2.2.2]:List zI),0)
 else
 some ([x1.2.2.2]:List zI)
def zEL:Nat->zM->(List zF)->Int->Option (List zI)
 | 0=>λ_ _ _=>none
 | k+1=>λy0 y1 y2=>zI2 (zEL k) y0 y1 y2
def zGG (y0:zM)(y1:List zF)(y2:Int): Option (List zI):=z6A λk=>zEL k y0 y1 y2
def zD6 (y3:List Int)(y0:zM)(y2:Int)(y1:List zF)(s1:Int): Option (Int⊕Bool) :=
 if decide (s1<(len y3)) then
 (zC y3 s1).bind λx1 =>
 (zC y0.2.1 y2).bind λx2 =>
 if x2.2.1 then
 (zC y0.2.1 y2).bind λx3 =>
 (zGG y0 y1 x1).bind λr1 =>
 (zFy r1 x3.2.2.2.2).bind λr2 =>
 if r2 then
 some (.inr false)
 else
 some (.inl (zH (s1+1)))
 else
 (zCW y0 y1 x1).bind λr3 =>
 (zAK r3 y2).bind λr4 =>
 if r4 then
 some (.inr false)
 else
 some (.inl (zH (s1+1)))
 else
 some (.inr true)
def zEH (y0:zM)(y1:List zF)(y2:Int)(y3:List Int): Option Bool :=
 zN (zD6 y3 y0 y2 y1) 0
def zGA (y0:List Int): Option (List Int) :=
 (qF ([]:List Int) y0).bind λx1 =>
 some x1
def zFf (y0:Int)(y2:xB): Option Bool :=
 some (decide (y2.2.2.2≤y0))
def zAX (y0:List Int)(y2:xB)(s1:Int): Option (Int⊕Int) :=
 if decide (s1<(len y0)) then
 (zC y0 s1).bind λx1 =>
 (zFf x1 y2).bind λr1 =>
 if r1 then
 some (.inr s1)
 else
 some (.inl (zH (s1+1)))
 else
 some (.inr (-1))
def zAL (y0:List Int)(y2:xB): Option Int :=
 zN (zAX y0 y2) 0
def zAA (y0:List Int)(y2:xB): Option Bool :=
 (zAL y0 y2).bind λr1 =>
 some (decide (0≤r1))
def zBR (y0:xB)(x1:qH)(y2:List Int)(rec_argument_builder_apply_2:xB->Int->(List Int)->Option (List zF))(y1:Int)(s2:Int×(List zF)): Option ((Int×(List zF))⊕(Unit⊕(List zF))) :=
 if decide (s2.1<(len y0.2.1)) then
 (zC y0.2.1 s2.1).bind λx2 =>
 (zC x1.2.2.2.1 (len y2)).bind λx3 =>
 if x2.2.2.2==x3 then
 (
 (zGA y2).bind λr2 =>
 (qF r2 ([s2.1]:List Int)).bind λx4 =>
 (rec_argument_builder_apply_2 (y0.1,y0.2.1,s2.2,y0.2.2.2) y1 x4).bind λr3 =>
 some r3:Option (List zF)).bind λs3 =>
 some (.inl (zH (s2.1+1),s3))
 else
 some (.inl (zH (s2.1+1),s2.2))
 else
 some (.inr (.inr s2.2))
def zBj (rec_argument_builder_apply_2:xB->Int->(List Int)->Option (List zF))(y0:xB)(y1:Int)(y2:List Int): Option (List zF) :=
 (zC y0.1.2.1 y1).bind λx1 =>
 (zBr y0).bind λr1 =>
 if r1 then
 some y0.2.2.1
 else
 vH (
 if decide ((len y2)<(len x1.2.2.2.1)) then
 zN (zBR y0 x1 y2 rec_argument_builder_apply_2 y1) (0,y0.2.2.1)
 else
 some (.inl ()):Option (Unit⊕(List zF))) λ_ =>
 (
 (zAA y2 y0).bind λr6 =>
 if r6 then
 (zEH y0.1 y0.2.1 y1 y2).bind λr7 =>
 some r7
 else
 some false:Option Bool).bind λs4 =>
 if s4 then
 (zC y0.1.2.1 y1).bind λx6 =>
 (qF y0.2.2.1 ([((-1),y1,y2,x6.2.2.2.2)]:List zF)).bind λx7 =>
 some x7
 else
 some y0.2.2.1
def zAm:Nat->xB->Int->(List Int)->Option (List zF)
 | 0=>λ_ _ _=>none
 | k+1=>λy0 y1 y2=>zBj (zAm k) y0 y1 y2
def zBl (y0:xB)(y1:Int)(y2:List Int): Option (List zF):=z6A λk=>zAm k y0 y1 y2
def zMS (y0:qH)(y1:zD): Option Bool :=
 some (y0.1==y1)
def zAv (y0:List qH)(y1:zD)(s1:Int): Option (Int⊕Int) :=
 if decide (s1<(len y0)) then
 (zC y0 s1).bind λx1 =>
 (zMS x1 y1).bind λr1 =>
 if r1 then
 some (.inr s1)
 else
 some (.inl (zH (s1+1)))
 else
 some (.inr (-1))
def zA7 (y0:List qH)(y1:zD): Option Int :=
 zN (zAv y0 y1) 0
def zFJ (y0:zM)(y1:zD): Option Int :=
 (zA7 y0.2.1 y1).bind λr1 =>
 some r1
def zKD (y0:vE)(y1:zI): Option Bool :=
 some (y0.1==y1)
def zA1 (y0:List vE)(y1:zI)(s1:Int): Option (Int⊕Int) :=
 if decide (s1<(len y0)) then
 (zC y0 s1).bind λx1 =>
 (zKD x1 y1).bind λr1 =>
 if r1 then
 some (.inr s1)
 else
 some (.inl (zH (s1+1)))
 else
 some (.inr (-1))
def zAQ (y0:List vE)(y1:zI): Option Int :=
 zN (zA1 y0 y1) 0
def zE8 (y0:zM)(y1:zI): Option Int :=
 (zAQ y0.1 y1).bind λr1 =>
 some r1
def zFV (y0:zD)(s1:Int): Option (Int⊕Bool) :=
 if decide (s1<(len y0)) then
 (xX y0 s1).bind λx1 =>
 if(decide (97≤x1))&&(decide (x1≤122)) then
 some (.inl (zH (s1+1)))
 else
 if(decide (0<s1))&&(if decide (48≤x1) then(decide (x1≤57))||(x1==95) else x1==95) then
 some (.inl (zH (s1+1)))
 else
 some (.inr false)
 else
 some (.inr true)
def zBo (y0:zD): Option Bool :=
 if((len y0)==0)||(decide (12<(len y0))) then
 some false
 else
 zN (zFV y0) 0
def zCP (y0:zI): Option Bool :=
 (zBo y0.2).bind λr1 =>
 some r1
def zDz (y0:Int): Option Bool :=
 some ((decide (0≤y0))&&(decide (y0≤9)))
def zFl (y0:zD): Option Bool :=
 (
 if y0==[] then
 some true
 else
 (zBo y0).bind λr1 =>
 some r1:Option Bool).bind λs1 =>
 some s1
def zE4 (y0:vE): Option Int :=
 vH (
 (
 if y0.2.1==1 then
 some (y0.2.1==1)
 else
 some (y0.2.1==3):Option Bool).bind λs2 =>
 if s2 then
 if y0.2.2.1 != 0 then
 some (.inr 1)
 else
 some (.inl ())
 else
 if y0.2.1==2 then
 (zDz y0.2.2.1).bind λr1 =>
 if !r1 then
 some (.inr 1)
 else
 some (.inl ())
 else
 some (.inr 4):Option (Unit⊕Int)) λ_ =>
 (
 (zCP y0.1).bind λr2 =>
 if !r2 then
 some true
 else
 (zFl y0.2.2.2).bind λr3 =>
 some (!r3):Option Bool).bind λs3 =>
 if s3 then
 some 1
 else
 some 0
def zD4 (y0:zM)(y1:wW): Option Int :=
 (
 (zDz y1.2.1).bind λr1 =>
 if !r1 then
 some true
 else
 (zCP y1.2.2).bind λr2 =>
 some (!r2):Option Bool).bind λs1 =>
 if s1 then
 some 1
 else
 (zFJ y0 y1.1).bind λr3 =>
 if decide (r3<0) then
 some 6
 else
 (zC y0.2.1 r3).bind λx1 =>
 if x1.2.1 then
 some 4
 else
 some 0
def zE3 (y0:qH)(s3:Int): Option (Int⊕(Unit⊕Int)) :=
 if decide (s3<(len y0.2.2.2.1)) then
 (zC y0.2.2.2.1 s3).bind λx1 =>
 (zCP x1).bind λr4 =>
 if !r4 then
 some (.inr (.inr 1))
 else
 some (.inl (zH (s3+1)))
 else
 some (.inr (.inl ()))
def zIs (y0:qH)(s4:Int): Option (Int⊕Int) :=
 if decide (s4<(len y0.2.2.2.1)) then
 (zC y0.2.2.2.1 (zH (s4-1))).bind λx2 =>
 (zC y0.2.2.2.1 s4).bind λx3 =>
 (zCZ x2 x3).bind λr5 =>
 if decide (0≤r5) then
 some (.inr 8)
 else
 some (.inl (zH (s4+1)))
 else
 some (.inr 0)
def zGz (y0:qH): Option Int :=
 if decide (4<(len y0.2.2.2.1)) then
 some 2
 else
 (
 (zBo y0.1).bind λr1 =>
 if !r1 then
 some true
 else
 (zCP y0.2.2.2.2).bind λr2 =>
 if !r2 then
 some true
 else
 (zDz y0.2.2.1).bind λr3 =>
 if !r3 then
 some true
 else
 if y0.2.1 then
 some (y0.2.2.1 != 0)
 else
 some false:Option Bool).bind λs1 =>
 if s1 then
 some 1
 else
 vH (zN (zE3 y0) 0:Option (Unit⊕Int)) λ_ =>
 zN (zIs y0) 1
def zCj (y0:zM)(s2:Int): Option (Int⊕(Unit⊕Int)) :=
 if decide (s2<(len y0.1)) then
 (zC y0.1 s2).bind λx1 =>
 (zE4 x1).bind λr1 =>
 if r1 != 0 then
 some (.inr (.inr r1))
 else
 (zE8 y0 x1.1).bind λr2 =>
 if decide (r2<s2) then
 some (.inr (.inr 5))
 else
 some (.inl (zH (s2+1)))
 else
 some (.inr (.inl ()))
def zCm (y0:zM)(s4:Int): Option (Int⊕(Unit⊕Int)) :=
 if decide (s4<(len y0.2.1)) then
 (zC y0.2.1 s4).bind λx2 =>
 (zGz x2).bind λr3 =>
 if r3 != 0 then
 some (.inr (.inr r3))
 else
 (zFJ y0 x2.1).bind λr4 =>
 if decide (r4<s4) then
 some (.inr (.inr 5))
 else
 some (.inl (zH (s4+1)))
 else
 some (.inr (.inl ()))
def zCk (y0:zM)(s5:Int): Option (Int⊕Int) :=
 if decide (s5<(len y0.2.2)) then
 (zC y0.2.2 s5).bind λx3 =>
 (zD4 y0 x3).bind λr5 =>
 if r5 != 0 then
 some (.inr r5)
 else
 some (.inl (zH (s5+1)))
 else
 some (.inr 0)
def zCU (y0:zM): Option Int :=
 if(decide (16<(len y0.1)))||((decide (24<(len y0.2.1)))||(decide (8<(len y0.2.2)))) then
 some 2
 else
 vH (zN (zCj y0) 0:Option (Unit⊕Int)) λ_ =>
 vH (zN (zCm y0) 0:Option (Unit⊕Int)) λ_ =>
 zN (zCk y0) 0
def zFG (y0:zM)(s2:Int×(List zF)): Option ((Int×(List zF))⊕(List zF)) :=
 if decide (s2.1<(len y0.1)) then
 (zC y0.1 s2.1).bind λx1 =>
 (qF s2.2 ([(s2.1,(-1),([]:List Int),x1.1)]:List zF)).bind λx2 =>
 some (.inl (zH (s2.1+1),x2))
 else
 some (.inr s2.2)
def zDC (y0:zM)(s4:Int×(List zF)×(List zF)×Int)(s6:Int×(List zF)): Option ((Int×(List zF))⊕((List zF)⊕((Int×(List zF)×(List zF)×Int)⊕((List zF)×(List zF)×Int)))) :=
 if decide (s6.1<(len y0.2.1)) then
 (zC y0.2.1 s6.1).bind λx3 =>
 (
 if decide (0<(len x3.2.2.2.1)) then
 (zBl (y0,s4.2.1,s6.2,s4.2.2.2) s6.1 ([]:List Int)).bind λr2 =>
 some r2
 else
 if s4.1==1 then
 (qF s6.2 ([((-1),s6.1,([]:List Int),x3.2.2.2.2)]:List zF)).bind λx4 =>
 some x4
 else
 some s6.2:Option (List zF)).bind λs7 =>
 (zBr (y0,s4.2.1,s7,s4.2.2.2)).bind λr3 =>
 if r3 then
 some (.inr (.inr (.inr (s4.2.1,s7,s4.2.2.2))))
 else
 some (.inl (zH (s6.1+1),s7))
 else
 some (.inr (.inl s6.2))
def zB2 (y0:zM)(s4:Int×(List zF)×(List zF)×Int): Option ((Int×(List zF)×(List zF)×Int)⊕((List zF)×(List zF)×Int)) :=
 vH (zN (zDC y0 s4) (0,([]:List zF)):Option ((List zF)⊕((Int×(List zF)×(List zF)×Int)⊕((List zF)×(List zF)×Int)))) λs5 =>
 if(len s5)==0 then
 some (.inr (s4.2.1,s5,s4.2.2.2))
 else
 (qF s4.2.1 s5).bind λx5 =>
 some (.inl (zH (s4.1+1),x5,s5,len s4.2.1))
def zDe (y0:zM): Option ((List zF)×Int) :=
 (zCU y0).bind λr1 =>
 if r1 != 0 then
 some (([]:List zF),r1)
 else
 (zN (zFG y0) (0,([]:List zF)):Option (List zF)).bind λs1 =>
 (zN (zB2 y0) (1,s1,([]:List zF),0):Option ((List zF)×(List zF)×Int)).bind λs3 =>
 (zBr (y0,s3.1,s3.2.1,s3.2.2)).bind λr4 =>
 if r4 then
 some (([]:List zF),2)
 else
 some (s3.1,0)
def zKP (y0:zI): Option zI :=
 some (!y0.1,y0.2)
def zM8 (y0:zM)(y1:List zF)(y2:Int)(y3:Int): Option (List Int) :=
 (
 (zC y1 y2).bind λx1 =>
 (zC y1 y3).bind λx2 =>
 some (x1.2.2.2,x2):Option (zI×zF)).bind λs1 =>
 (zKP s1.2.2.2.2).bind λr1 =>
 if decide (0≤s1.2.1) then
 (
 if s1.1==r1 then
 (zC y0.1 s1.2.1).bind λx3 =>
 some (x3.2.1 != 1)
 else
 some false:Option Bool).bind λs2 =>
 if s2 then
 (qF ([]:List Int) ([1]:List Int)).bind λx4 =>
 some x4
 else
 some ([]:List Int)
 else
 (zC y0.2.1 s1.2.2.1).bind λx5 =>
 if !x5.2.1 then
 (
 if s1.1==r1 then
 (qF ([]:List Int) ([2]:List Int)).bind λx6 =>
 some x6
 else
 some ([]:List Int):Option (List Int)).bind λs3 =>
 (
 if s1.1.1 then
 (zC y0.2.1 s1.2.2.1).bind λx7 =>
 some (s1.1.2==x7.1)
 else
 some false:Option Bool).bind λs4 =>
 if s4 then
 (qF s3 ([3]:List Int)).bind λx8 =>
 some x8
 else
 some s3
 else
 some ([]:List Int)
def zE0 (y0:qX)(y1:qX): Option Int :=
 (zBB y0.1 y1.1).bind λr1 =>
 (zBB y0.2.1 y1.2.1).bind λr2 =>
 (zBB y0.2.2.1 y1.2.2.1).bind λr3 =>
 (zBB y0.2.2.2 y1.2.2.2).bind λr4 =>
 (zHW ([r1,r2,r3,r4]:List Int)).bind λr5 =>
 some r5
def zA0 (y0:List qX): Option (List qX):=z3A zE0 y0
def zHr (r1:(List Int))(s3:(List qX)×Int)(s4:(List qX)×Int)(s2:(List qX)×Int)(s5:(List qX)×Int): Option (((List qX)×Int)⊕(((List qX)×Int)⊕(((List qX)×Int)⊕(((List qX)×Int)⊕(List qX))))) :=
 if decide (s5.2<(len r1)) then
 (zC r1 s5.2).bind λx1 =>
 (qF s5.1 ([(s3.2,s4.2,s2.2,x1)]:List qX)).bind λx2 =>
 some (.inl (x2,zH (s5.2+1)))
 else
 some (.inr (.inl (s5.1,zH (s4.2+1))))
def zEA (y1:List zF)(s2:(List qX)×Int)(r1:(List Int))(s3:(List qX)×Int)(s4:(List qX)×Int): Option (((List qX)×Int)⊕(((List qX)×Int)⊕(((List qX)×Int)⊕(List qX)))) :=
 if decide (s4.2<(len y1)) then
 (zFT y1 s4.2).bind λr2 =>
 (zAK r2 s2.2).bind λr3 =>
 if !r3 then
 some (.inl (s4.1,zH (s4.2+1)))
 else
 zN (zHr r1 s3 s4 s2) (s4.1,0)
 else
 some (.inr (.inl (s4.1,zH (s3.2+1))))
def zDx (y1:List zF)(y0:zM)(s2:(List qX)×Int)(s3:(List qX)×Int): Option (((List qX)×Int)⊕(((List qX)×Int)⊕(List qX))) :=
 if decide (s3.2<(len y1)) then
 (zM8 y0 y1 s3.2 s2.2).bind λr1 =>
 if(len r1)==0 then
 some (.inl (s3.1,zH (s3.2+1)))
 else
 zN (zEA y1 s2 r1 s3) (s3.1,0)
 else
 some (.inr (.inl (s3.1,zH (s2.2+1))))
def zDG (y1:List zF)(y0:zM)(s2:(List qX)×Int): Option (((List qX)×Int)⊕(List qX)) :=
 if decide (s2.2<(len y1)) then
 zN (zDx y1 y0 s2) (s2.1,0)
 else
 some (.inr s2.1)
def zFi (y0:zM)(y1:List zF): Option (List qX) :=
 (zN (zDG y1 y0) (([]:List qX),0):Option (List qX)).bind λs1 =>
 (zA0 s1).bind λr4 =>
 some r4
def zFX (r1:(List Int))(y0:List zF)(s2:(List Int)×Int): Option (((List Int)×Int)⊕(List Int)) :=
 if decide (s2.2<(len r1)) then
 (zC r1 s2.2).bind λx1 =>
 (zC y0 x1).bind λx2 =>
 if decide (0≤x2.1) then
 (zC y0 x1).bind λx3 =>
 (qF s2.1 ([x3.1]:List Int)).bind λx4 =>
 some (.inl (x4,zH (s2.2+1)))
 else
 some (.inl (s2.1,zH (s2.2+1)))
 else
 some (.inr s2.1)
def zDF (y0:List zF)(y1:Int): Option (List Int) :=
 (
 (zFT y0 y1).bind λr1 =>
 zN (zFX r1 y0) (([]:List Int),0):Option (List Int)).bind λs1 =>
 (zBw s1).bind λr2 =>
 some r2
def zK7 (y0:Int)(y1:zM): Option Bool :=
 (zC y1.1 y0).bind λx1 =>
 some (x1.2.1==3)
def zA4 (y0:List Int)(y1:zM)(s1:Int): Option (Int⊕Int) :=
 if decide (s1<(len y0)) then
 (zC y0 s1).bind λx1 =>
 (zK7 x1 y1).bind λr1 =>
 if r1 then
 some (.inr s1)
 else
 some (.inl (zH (s1+1)))
 else
 some (.inr (-1))
def zAd (y0:List Int)(y1:zM): Option Int :=
 zN (zA4 y0 y1) 0
def zA2 (y0:List Int)(y1:zM): Option Bool :=
 (zAd y0 y1).bind λr1 =>
 some (decide (0≤r1))
def zI1 (y0:zM)(y1:List zF)(y2:Int): Option Bool :=
 (zDF y1 y2).bind λr1 =>
 (zA2 r1 y0).bind λr2 =>
 some r2
def zEc (x5:zF)(rec_argument_Last:zM->(List zF)->Int->Option (List Int))(y0:zM)(y1:List zF)(s3:(List Int)×Int): Option (((List Int)×Int)⊕(List Int)) :=
 if decide (s3.2<(len x5.2.2.1)) then
 (zC x5.2.2.1 s3.2).bind λx6 =>
 (rec_argument_Last y0 y1 x6).bind λr2 =>
 (qF s3.1 r2).bind λx7 =>
 some (.inl (x7,zH (s3.2+1)))
 else
 some (.inr s3.1)
def zGa (rec_argument_Last:zM->(List zF)->Int->Option (List Int))(y0:zM)(y1:List zF)(y2:Int): Option (List Int) :=
 (
 (zBQ y1 y2).bind λr1 =>
 if !r1 then
 some true
 else
 (zC y1 y2).bind λx1 =>
 some (decide (x1.2.1<0)):Option Bool).bind λs1 =>
 if s1 then
 some ([]:List Int)
 else
 (zC y1 y2).bind λx2 =>
 (zC y0.2.1 x2.2.1).bind λx3 =>
 if !x3.2.1 then
 (zC y1 y2).bind λx4 =>
 some ([x4.2.1]:List Int)
 else
 (
 (zC y1 y2).bind λx5 =>
 zN (zEc x5 rec_argument_Last y0 y1) (([]:List Int),0):Option (List Int)).bind λs2 =>
 (zBw s2).bind λr3 =>
 (zAq r3).bind λr4 =>
 some r4
def zEW:Nat->zM->(List zF)->Int->Option (List Int)
 | 0=>λ_ _ _=>none
 | k+1=>λy0 y1 y2=>zGa (zEW k) y0 y1 y2
def zJR (y0:zM)(y1:List zF)(y2:Int): Option (List Int):=z6A λk=>zEW k y0 y1 y2
def zL6 (y1:List Int)(y0:zM)(s1:(List Int)×Int): Option (((List Int)×Int)⊕(List Int)) :=
 if decide (s1.2<(len y1)) then
 (zC y1 s1.2).bind λx1 =>
 (zC y0.2.1 x1).bind λx2 =>
 (qF s1.1 ([x2.2.2.1]:List Int)).bind λx3 =>
 some (.inl (x3,zH (s1.2+1)))
 else
 some (.inr s1.1)
def zLE (y0:zM)(y1:List Int): Option (List Int) :=
 zN (zL6 y1 y0) (([]:List Int),0)
def zCy (y0:zM)(y1:List zF)(y2:Int): Option (List Int) :=
 (zJR y0 y1 y2).bind λr1 =>
 (zLE y0 r1).bind λr2 =>
 some r2
def zHf (y0:List Int)(s2:Int×Int): Option ((Int×Int)⊕Int) :=
 if decide (s2.2<(len y0)) then
 (zC y0 s2.2).bind λx2 =>
 some (.inl (if x2 > s2.1 then x2 else s2.1,zH (s2.2+1)))
 else
 some (.inr s2.1)
def zEj (y0:List Int): Option Int :=
 (
 if decide ((len y0)<1) then
 none
 else
 some ():Option Unit).bind λ_ =>
 (zC y0 0).bind λx1 =>
 zN (zHf y0) (x1,1)
def zHZ (y0:List Int)(s2:Int×Int): Option ((Int×Int)⊕Int) :=
 if decide (s2.2<(len y0)) then
 (zC y0 s2.2).bind λx2 =>
 some (.inl (if x2<s2.1 then x2 else s2.1,zH (s2.2+1)))
 else
 some (.inr s2.1)
def zEl (y0:List Int): Option Int :=
 (
 if decide ((len y0)<1) then
 none
 else
 some ():Option Unit).bind λ_ =>
 (zC y0 0).bind λx1 =>
 zN (zHZ y0) (x1,1)
def zFB (y0:List Int)(y1:List Int)(y2:Int): Option Bool :=
 if if y2 != 1 then(y2 != 2)||((len y0)==0) else(len y0)==0 then
 some false
 else
 if(len y1)==0 then
 some true
 else
 if y2==1 then
 (zEl y0).bind λr1 =>
 (zEl y1).bind λr2 =>
 some (decide (r1<r2))
 else
 (zEj y0).bind λr3 =>
 (zEj y1).bind λr4 =>
 some (decide (r3<r4))
def zBS (y0:zM)(y1:List zF)(y2:Int)(y3:Int)(y4:yZ): Option Bool :=
 (zCy y0 y1 y2).bind λr1 =>
 (zCy y0 y1 y3).bind λr2 =>
 (zFB r1 r2 y4.2).bind λr3 =>
 some r3
def zFY (r1:(List Int))(y0:zM)(s1:(List Int)×Int): Option (((List Int)×Int)⊕(List Int)) :=
 if decide (s1.2<(len r1)) then
 (zC r1 s1.2).bind λx1 =>
 (zC y0.1 x1).bind λx2 =>
 if x2.2.1==2 then
 (qF s1.1 ([x2.2.2.1]:List Int)).bind λx3 =>
 some (.inl (x3,zH (s1.2+1)))
 else
 if x2.2.1==3 then
 (qF s1.1 ([(-1)]:List Int)).bind λx4 =>
 some (.inl (x4,zH (s1.2+1)))
 else
 some (.inl (s1.1,zH (s1.2+1)))
 else
 some (.inr s1.1)
def zBp (y0:zM)(y1:List zF)(y2:Int): Option (List Int) :=
 (zDF y1 y2).bind λr1 =>
 zN (zFY r1 y0) (([]:List Int),0)
def zAO (y0:zM)(y1:List zF)(y2:Int)(y3:Int)(y4:yZ): Option Bool :=
 (zBp y0 y1 y2).bind λr1 =>
 (zBp y0 y1 y3).bind λr2 =>
 (zFB r1 r2 y4.2).bind λr3 =>
 some r3
def zBP (y0:zM)(y1:List zF)(y2:Int)(y3:Int): Option Bool :=
 (
 (zCy y0 y1 y2).bind λr1 =>
 if(len r1)==0 then
 (zCy y0 y1 y3).bind λr2 =>
 some ((len r2)==0)
 else
 some false:Option Bool).bind λs1 =>
 some s1
def zC8 (y1:zM)(y2:List zF)(y3:Int)(y4:Int)(y5:yZ): Option Bool :=
 (
 (zBS y1 y2 y3 y4 y5).bind λr1 =>
 if r1 then
 some true
 else
 (zBP y1 y2 y3 y4).bind λr2 =>
 if r2 then
 (zAO y1 y2 y3 y4 y5).bind λr3 =>
 some r3
 else
 some false:Option Bool).bind λs1 =>
 some s1
def zDA (y0:zM)(y1:List zF)(y2:Int): Option (List Int) :=
 (zCW y0 y1 y2).bind λr1 =>
 (zLE y0 r1).bind λr2 =>
 some r2
def zAj (y0:zM)(y1:List zF)(y2:Int)(y3:Int)(y4:yZ): Option Bool :=
 (zDA y0 y1 y2).bind λr1 =>
 (zDA y0 y1 y3).bind λr2 =>
 (zFB r1 r2 y4.2).bind λr3 =>
 some r3
def zAt (y0:zM)(y1:List zF)(y2:Int)(y3:Int): Option Bool :=
 (
 (zBp y0 y1 y2).bind λr1 =>
 if(len r1)==0 then
 (zBp y0 y1 y3).bind λr2 =>
 some ((len r2)==0)
 else
 some false:Option Bool).bind λs1 =>
 some s1
def zBT (y0:zM)(y1:List zF)(y2:Int)(y3:Int): Option Bool :=
 (
 (zDA y0 y1 y2).bind λr1 =>
 if(len r1)==0 then
 (zDA y0 y1 y3).bind λr2 =>
 some ((len r2)==0)
 else
 some false:Option Bool).bind λs1 =>
 some s1
def zC5 (y1:zM)(y2:List zF)(y3:Int)(y4:Int)(y6:yZ): Option Bool :=
 (zBT y1 y2 y3 y4).bind λr1 =>
 if r1 then
 (zAO y1 y2 y3 y4 y6).bind λr2 =>
 some r2
 else
 (zAt y1 y2 y3 y4).bind λr3 =>
 if r3 then
 (zAj y1 y2 y3 y4 y6).bind λr4 =>
 some r4
 else
 (
 (zAO y1 y2 y3 y4 y6).bind λr5 =>
 if r5 then
 (zAj y1 y2 y3 y4 y6).bind λr6 =>
 some r6
 else
 some false:Option Bool).bind λs1 =>
 some s1
def zMV (y0:zM)(y1:List zF)(y2:Int)(y3:Int)(y4:yZ): Option Bool :=
 (
 if decide ((if y3<y2 then y3 else y2)<0) then
 some true
 else
 if decide ((len y1)≤(if y3 > y2 then y3 else y2)) then
 some true
 else
 (zI1 y0 y1 y3).bind λr1 =>
 some r1:Option Bool).bind λs1 =>
 if s1 then
 some false
 else
 if y4.1==1 then
 (zC8 y0 y1 y2 y3 y4).bind λr2 =>
 some r2
 else
 if y4.1==2 then
 (zC5 y0 y1 y2 y3 y4).bind λr3 =>
 some r3
 else
 some false
def zCg (y0:qX)(y1:zM)(y2:List zF)(y3:yZ): Option Bool :=
 (
 if y0.2.2.2 != 3 then
 (zMV y1 y2 y0.1 y0.2.2.1 y3).bind λr1 =>
 some r1
 else
 some false:Option Bool).bind λs1 =>
 some s1
def zB6 (y0:List qX)(y1:zM)(y2:List zF)(y3:yZ)(s1:Int): Option (Int⊕Int) :=
 if decide (s1<(len y0)) then
 (zC y0 s1).bind λx1 =>
 (zCg x1 y1 y2 y3).bind λr1 =>
 if r1 then
 some (.inr s1)
 else
 some (.inl (zH (s1+1)))
 else
 some (.inr (-1))
def zAw (y0:List qX)(y1:zM)(y2:List zF)(y3:yZ): Option Int :=
 zN (zB6 y0 y1 y2 y3) 0
def zB1 (y0:List qX)(y1:zM)(y2:List zF)(y3:yZ)(s2:(List qX)×Int×Int): Option (((List qX)×Int×Int)⊕((List qX)×Int)) :=
 if decide (s2.2.2<(len y0)) then
 (zC s2.1 s2.2.2).bind λx1 =>
 (zCg x1 y1 y2 y3).bind λr2 =>
 if !r2 then
 (zC s2.1 s2.2.1).bind λ_ =>
 some (.inl (List.set s2.1 (Int.toNat s2.2.1) x1,zH (s2.2.1+1),zH (s2.2.2+1)))
 else
 some (.inl (s2.1,s2.2.1,zH (s2.2.2+1)))
 else
 some (.inr (s2.1,s2.2.1))
def zAV (y0:List qX)(y1:zM)(y2:List zF)(y3:yZ): Option (List qX) :=
 (zAw y0 y1 y2 y3).bind λr1 =>
 if r1==(-1) then
 some y0
 else
 (zN (zB1 y0 y1 y2 y3) (y0,r1,zH (r1+1)):Option ((List qX)×Int)).bind λs1 =>
 (vT (decide (0≤s1.2)&&decide (s1.2≤len s1.1))).bind λ_ =>
 (sub (zEQ s1.1 s1.2 (0,0,0,0)) 0 s1.2).bind λx3 =>
 some x3
def zEe (y0:zM)(y1:List zF)(y2:yZ): Option (List qX) :=
 (zFi y0 y1).bind λr1 =>
 (zAV r1 y0 y1 y2).bind λr2 =>
 some r2
def zQS (y0:List qG)(s1:Int)(s3:(List qG)×Int×Int): Option (((List qG)×Int×Int)⊕((List qG)×Int)) :=
 if decide (s3.2.2<((Int.toNat (((List.length y0:Nat):Int)-s1):Nat):Int)) then
 (z1W s3.1 s1 s3.2.2).bind λx3 =>
 (z1W s3.1 s1 (zH (s3.2.2-1))).bind λx4 =>
 if !(x3==x4) then
 (z1W s3.1 s1 s3.2.2).bind λx5 =>
 (zC s3.1 s3.2.1).bind λ_ =>
 some (.inl (List.set s3.1 (Int.toNat s3.2.1) x5,zH (s3.2.1+1),zH (s3.2.2+1)))
 else
 some (.inl (s3.1,s3.2.1,zH (s3.2.2+1)))
 else
 some (.inr (s3.1,s3.2.1))
def zGw (y0:List qG)(s1:Int): Option (Int⊕(List qG)) :=
 if decide (s1<(len y0)) then
 (zC y0 s1).bind λx1 =>
 (zC y0 (zH (s1-1))).bind λx2 =>
 if x1==x2 then
 (vT (decide (0≤s1)&&decide (s1≤len y0))).bind λ_ =>
 (zN (zQS y0 s1) (y0,s1,1):Option ((List qG)×Int)).bind λs2 =>
 (vT (decide (0≤s2.2)&&decide (s2.2≤len s2.1))).bind λ_ =>
 (sub (zEQ s2.1 s2.2 (0,0)) 0 s2.2).bind λx7 =>
 some (.inr x7)
 else
 some (.inl (zH (s1+1)))
 else
 some (.inr y0)
def zER (y0:List qG): Option (List qG) :=
 if decide ((len y0)<2) then
 some y0
 else
 zN (zGw y0) 1
def zFg (y0:qG)(y1:qG): Option Int :=
 (zBB y0.1 y1.1).bind λr1 =>
 (zBB y0.2 y1.2).bind λr2 =>
 (zHW ([r1,r2]:List Int)).bind λr3 =>
 some r3
def zAc (y0:List qG): Option (List qG):=z3A zFg y0
def zHF (y1:List qX)(y0:Int)(s2:Int×(List qG)): Option ((Int×(List qG))⊕((List qG)⊕(qE×Int))) :=
 if decide (s2.1<(len y1)) then
 (zC y1 s2.1).bind λx1 =>
 if(decide ((if x1.2.1<x1.1 then x1.2.1 else x1.1)<0))||(decide (y0≤(if x1.2.1 > x1.1 then x1.2.1 else x1.1))) then
 some (.inr (.inr ((0,([]:List qG)),1)))
 else
 (qF s2.2 ([(x1.1,x1.2.1)]:List qG)).bind λx2 =>
 some (.inl (zH (s2.1+1),x2))
 else
 some (.inr (.inl s2.2))
def zGK (y0:Int)(y1:List qX): Option (qE×Int) :=
 if(decide (y0<0))||(decide (40<y0)) then
 some ((0,([]:List qG)),1)
 else
 vH (zN (zHF y1 y0) (0,([]:List qG)):Option ((List qG)⊕(qE×Int))) λs1 =>
 (zAc s1).bind λr1 =>
 (zER r1).bind λr2 =>
 some ((y0,r2),0)
def zF0 (y0:List vE): Option (List vE) :=
 (qF ([]:List vE) y0).bind λx1 =>
 some x1
def zEZ (y0:List wW): Option (List wW) :=
 (qF ([]:List wW) y0).bind λx1 =>
 some x1
def zHa (y0:List qH): Option (List qH) :=
 (qF ([]:List qH) y0).bind λx1 =>
 some x1
def zES (y0:zM)(x1:qH)(y1:List zI)(s3:Int×(List qH))(s4:Int×(List qH)): Option ((Int×(List qH))⊕((Int×(List qH))⊕(List qH))) :=
 if decide (s4.1<(len y0.2.2)) then
 (zC y0.2.2 s4.1).bind λx3 =>
 (
 if !x1.2.1 then
 if x3.1==x1.1 then
 (zFy y1 x3.2.2).bind λr11 =>
 some r11
 else
 some false
 else
 some false:Option Bool).bind λs5 =>
 if s5 then
 (zC s4.2 s3.1).bind λx4 =>
 some (.inl (zH (s4.1+1),List.set s4.2 (Int.toNat s3.1) (x4.1,x4.2.1,x3.2.1,x4.2.2.2.1,x4.2.2.2.2)))
 else
 some (.inl (zH (s4.1+1),s4.2))
 else
 some (.inr (.inl (zH (s3.1+1),s4.2)))
def zDK (y0:zM)(y1:List zI)(s3:Int×(List qH)): Option ((Int×(List qH))⊕(List qH)) :=
 if decide (s3.1<(len y0.2.1)) then
 (zC y0.2.1 s3.1).bind λx1 =>
 (zDl x1.2.2.2.1).bind λr10 =>
 (zC s3.2 s3.1).bind λx2 =>
 zN (zES y0 x1 y1 s3) (0,List.set s3.2 (Int.toNat s3.1) (x2.1,x2.2.1,x2.2.2.1,r10,x2.2.2.2.2))
 else
 some (.inr s3.2)
def zEY (y0:zM)(y1:List zI): Option zM :=
 (
 (zF0 y0.1).bind λr1 =>
 (zHa y0.2.1).bind λr2 =>
 (zEZ y0.2.2).bind λr3 =>
 some (r1,r2,r3):Option zM).bind λs1 =>
 (zN (zDK y0 y1) (0,s1.2.1):Option (List qH)).bind λs2 =>
 some (s1.1,s2,s1.2.2)
def zCu (y0:zM)(y1:yZ): Option (zBv×Int) :=
 (zDe y0).bind λr1 =>
 if r1.2 != 0 then
 some (((([]:List vE),([]:List qH),([]:List wW)),([]:List zF),([]:List qX),(0,([]:List qG))),r1.2)
 else
 if if y1.1 != 1 then(y1.1 != 2)||((y1.2 != 1)&&(y1.2 != 2)) else(y1.2 != 1)&&(y1.2 != 2) then
 some (((([]:List vE),([]:List qH),([]:List wW)),([]:List zF),([]:List qX),(0,([]:List qG))),4)
 else
 (zEe y0 r1.1 y1).bind λr2 =>
 (zGK (len r1.1) r2).bind λr3 =>
 if r3.2 != 0 then
 some (((([]:List vE),([]:List qH),([]:List wW)),([]:List zF),([]:List qX),(0,([]:List qG))),r3.2)
 else
 (zDb r3.1).bind λr4 =>
 (zAl r4 1).bind λr5 =>
 (zCC r1.1 r5).bind λr6 =>
 (zEY y0 r6).bind λr7 =>
 (zEe r7 r1.1 y1).bind λr8 =>
 (zGK (len r1.1) r8).bind λr9 =>
 if r9.2 != 0 then
 some (((([]:List vE),([]:List qH),([]:List wW)),([]:List zF),([]:List qX),(0,([]:List qG))),r9.2)
 else
 some ((r7,r1.1,r8,r9.1),0)
def zEk (y0:zI): Option zD :=
 (zCP y0).bind λr1 =>
 if !r1 then
 some []
 else
 if y0.1 then
 (cat [126] y0.2).bind λx1 =>
 some x1
 else
 some y0.2
def zDQ (y0:Int)(y1:Int): Option zD:=fmt10 y0 y1
def zEt (y0:Int): Option zD :=
 (zDQ y0 10).bind λr1 =>
 some r1
def zDV (y0:Int): Option zD :=
 (zEt y0).bind λr1 =>
 some r1
def zK2 (y0:List zD)(y1:zD): Option zD:=joinM y0 y1
def zF2 (y0:vE): Option zD :=
 (zC zBE y0.2.1).bind λx1 =>
 (zEk y0.1).bind λr1 =>
 (
 if y0.2.1==2 then
 (zDV y0.2.2.1).bind λr2 =>
 (qF ([x1,r1]:List zD) ([r2]:List zD)).bind λx2 =>
 some x2
 else
 some ([x1,r1]:List zD):Option (List zD)).bind λs1 =>
 (
 if !(y0.2.2.2==[]) then
 (qF s1 ([[102,114,111,109],y0.2.2.2]:List zD)).bind λx3 =>
 some x3
 else
 some s1:Option (List zD)).bind λs2 =>
 (zK2 s2 [32]).bind λr3 =>
 some r3
def zE5 (y0:wW): Option zD :=
 (cat [112,114,111,109,111,116,101,32] y0.1).bind λx1 =>
 (cat x1 [32]).bind λx2 =>
 (zDV y0.2.1).bind λr1 =>
 (cat x2 r1).bind λx3 =>
 (cat x3 [32,105,102,32]).bind λx4 =>
 (zEk y0.2.2).bind λr2 =>
 (cat x4 r2).bind λx5 =>
 some x5
def zDr (y0:qH)(s3:(List zD)×Int): Option (((List zD)×Int)⊕(List zD)) :=
 if decide (s3.2<(len y0.2.2.2.1)) then
 (zC y0.2.2.2.1 s3.2).bind λx3 =>
 (zEk x3).bind λr2 =>
 (
 if decide (s3.2<(zH ((len y0.2.2.2.1)-1))) then
 (cat r2 [44]).bind λx4 =>
 some x4
 else
 some r2:Option zD).bind λs4 =>
 (qF s3.1 ([s4]:List zD)).bind λx5 =>
 some (.inl (x5,zH (s3.2+1)))
 else
 some (.inr s3.1)
def zH8 (y0:qH): Option zD :=
 (cat y0.1 [58]).bind λx1 =>
 (
 if !y0.2.1 then
 (zDV y0.2.2.1).bind λr1 =>
 (cat r1 [58]).bind λx2 =>
 some (([[114,117,108,101],y0.1,x2]:List zD),[61,62])
 else
 some (([[115,116,114,105,99,116],x1]:List zD),[45,62]):Option ((List zD)×zD)).bind λs1 =>
 (zN (zDr y0) (s1.1,0):Option (List zD)).bind λs2 =>
 (zEk y0.2.2.2.2).bind λr3 =>
 (qF s2 ([s1.2,r3]:List zD)).bind λx6 =>
 (zK2 x6 [32]).bind λr4 =>
 some r4
def zAE (y0:zAP): Option (zD×(List zD)×Bool) :=
 if(len y0.1)==0 then
 some ([],y0.1,true)
 else
 (zC y0.1 0).bind λx1 =>
 (sub y0.1 1 (len y0.1)).bind λx2 =>
 some (x1,x2,y0.2)
def zLk (y0:zD): Option (zI×Int) :=
 (
 (
 if decide (0<(len y0)) then
 (xX y0 0).bind λx1 =>
 some (x1==126)
 else
 some false:Option Bool).bind λs2 =>
 if s2 then
 (sub y0 1 (len y0)).bind λx2 =>
 some (x2,true)
 else
 some (y0,false):Option (zD×Bool)).bind λs1 =>
 (zCP (s1.2,s1.1)).bind λr1 =>
 if !r1 then
 some ((false,[]),3)
 else
 some ((s1.2,s1.1),0)
def zCJ (y0:zD)(y1:zD): Option Bool :=
 (
 if decide ((len y1)≤(len y0)) then
 (sub y0 (zH ((len y0)-(len y1))) (len y0)).bind λx1 =>
 some (x1==y1)
 else
 some false:Option Bool).bind λs1 =>
 some s1
def zDi (y0:zD)(y1:zD): Option (zD×Bool) :=
 (zCJ y0 y1).bind λr1 =>
 if !r1 then
 some (y0,false)
 else
 (sub y0 0 (zH ((len y0)-(len y1)))).bind λx1 =>
 some (x1,true)
def zEG (y0:zD)(y1:zD): Option (zD×Bool) :=
 (zDi y0 y1).bind λr1 =>
 some (r1.1,r1.2)
def zAf (y0:zAP)(y1:zD): Option (zI×(List zD)×Bool) :=
 (zAE y0).bind λr1 =>
 (zEG r1.1 y1).bind λr2 =>
 (zLk r2.1).bind λr3 =>
 (
 if r1.2.2 then
 some true
 else
 if !r2.2 then
 some true
 else
 some (r3.2 != 0):Option Bool).bind λs1 =>
 some (r3.1,r1.2.1,s1)
def zAS (y0:zAP)(y1:zD): Option (zD×(List zD)×Bool) :=
 (zAE y0).bind λr1 =>
 (zEG r1.1 y1).bind λr2 =>
 (
 if r1.2.2 then
 some true
 else
 if !r2.2 then
 some true
 else
 (zBo r2.1).bind λr3 =>
 some (!r3):Option Bool).bind λs1 =>
 some (r2.1,r1.2.1,s1)
def zAy (y0:zAP)(y1:zD): Option (Int×(List zD)×Bool) :=
 (zAE y0).bind λr1 =>
 (zEG r1.1 y1).bind λr2 =>
 (
 if !r2.2 then
 some true
 else
 if(len r2.1) != 1 then
 some true
 else
 (xX r2.1 0).bind λx1 =>
 if decide (x1<48) then
 some true
 else
 (xX r2.1 0).bind λx2 =>
 some (decide (57<x2)):Option Bool).bind λs1 =>
 if s1 then
 some (0,r1.2.1,true)
 else
 (xX r2.1 0).bind λx3 =>
 some (zH (IntKind.u8.wrap (x3-48)),r1.2.1,r1.2.2)
def zCH (y0:zAP)(y1:Int): Option (vE×(List zD)×Bool) :=
 (zAf y0 []).bind λr1 =>
 (
 if y1==2 then
 (zAy (r1.2.1,r1.2.2) []).bind λr2 =>
 some (r2.2.1,r2.2.2,r2.1)
 else
 some (r1.2.1,r1.2.2,0):Option ((List zD)×Bool×Int)).bind λs1 =>
 (
 if decide (0<(len s1.1)) then
 (
 if s1.2.1 then
 some (s1.1,true)
 else
 (zAE (s1.1,s1.2.1)).bind λr3 =>
 some (r3.2.1,!(r3.1==[102,114,111,109])):Option ((List zD)×Bool)).bind λs3 =>
 (zAS (s3.1,s3.2) []).bind λr4 =>
 some (r4.2.1,r4.2.2,r4.1)
 else
 some (s1.1,s1.2.1,[]):Option ((List zD)×Bool×zD)).bind λs2 =>
 some ((r1.1,y1,s1.2.2,s2.2.2),s2.1,s2.2.1)
def zBi (y0:zAP): Option (wW×(List zD)×Bool) :=
 (zAS y0 []).bind λr1 =>
 (zAy (r1.2.1,r1.2.2) []).bind λr2 =>
 (
 if r2.2.2 then
 some (r2.2.1,true)
 else
 (zAE (r2.2.1,r2.2.2)).bind λr3 =>
 some (r3.2.1,!(r3.1==[105,102])):Option ((List zD)×Bool)).bind λs1 =>
 (zAf (s1.1,s1.2) []).bind λr4 =>
 some ((r1.1,r2.1,r4.1),r4.2.1,r4.2.2)
def zBd (s3:(List zD)×Bool×(List zI)): Option (((List zD)×Bool×(List zI))⊕((List zD)×Bool×(List zI))) :=
 if(decide (2<(len s3.1)))&&(!s3.2.1) then
 (
 if(len s3.1)==3 then
 some []
 else
 some [44]:Option zD).bind λs4 =>
 (zAf (s3.1,s3.2.1) s4).bind λr4 =>
 (qF s3.2.2 ([r4.1]:List zI)).bind λx1 =>
 some (.inl (r4.2.1,r4.2.2,x1))
 else
 some (.inr (s3.1,s3.2.1,s3.2.2))
def zDJ (y0:zAP)(y1:Bool): Option (qH×(List zD)×Bool) :=
 (
 if y1 then
 (zAS y0 [58]).bind λr1 =>
 some ([45,62],r1.2.1,r1.2.2,r1.1,0)
 else
 (zAS y0 []).bind λr2 =>
 (zAy (r2.2.1,r2.2.2) [58]).bind λr3 =>
 some ([61,62],r3.2.1,r3.2.2,r2.1,r3.1):Option (zD×(List zD)×Bool×zD×Int)).bind λs1 =>
 (zN (zBd) (s1.2.1,s1.2.2.1,([]:List zI)):Option ((List zD)×Bool×(List zI))).bind λs2 =>
 (
 if s2.2.1 then
 some (s2.1,true)
 else
 (zAE (s2.1,s2.2.1)).bind λr5 =>
 some (r5.2.1,!(r5.1==s1.1)):Option ((List zD)×Bool)).bind λs5 =>
 (zAf (s5.1,s5.2) []).bind λr6 =>
 some ((s1.2.2.2.1,y1,s1.2.2.2.2,s2.2.2,r6.1),r6.2.1,r6.2.2)
def zL4 (r1:zD×(List zD)×Bool)(s3:Int×Int): Option ((Int×Int)⊕Int) :=
 if decide (s3.2<4) then
 (zC zBE s3.2).bind λx1 =>
 if x1==r1.1 then
 some (.inl (s3.2,zH (s3.2+1)))
 else
 some (.inl (s3.1,zH (s3.2+1)))
 else
 some (.inr s3.1)
def zD5 (y0:zAP)(y1:zM): Option (Int×zD×(List zD)×Bool×(List vE)×(List qH)×(List wW)) :=
 (zAE y0).bind λr1 =>
 (
 if r1.1==[97,120,105,111,109] then
 some (r1.1==[97,120,105,111,109])
 else
 if r1.1==[112,114,101,109,105,115,101] then
 some (r1.1==[112,114,101,109,105,115,101])
 else
 some (r1.1==[97,115,115,117,109,101]):Option Bool).bind λs1 =>
 if s1 then
 (zN (zL4 r1) (1,0):Option Int).bind λs2 =>
 (zCH (r1.2.1,r1.2.2) s2).bind λr2 =>
 (qF y1.1 ([r2.1]:List vE)).bind λx2 =>
 (zF2 r2.1).bind λr3 =>
 some (1,r3,r2.2.1,r2.2.2,x2,y1.2.1,y1.2.2)
 else
 (
 if r1.1==[115,116,114,105,99,116] then
 some (r1.1==[115,116,114,105,99,116])
 else
 some (r1.1==[114,117,108,101]):Option Bool).bind λs4 =>
 if s4 then
 (zDJ (r1.2.1,r1.2.2) (r1.1==[115,116,114,105,99,116])).bind λr4 =>
 (qF y1.2.1 ([r4.1]:List qH)).bind λx3 =>
 (zH8 r4.1).bind λr5 =>
 some (2,r5,r4.2.1,r4.2.2,y1.1,x3,y1.2.2)
 else
 if r1.1==[112,114,111,109,111,116,101] then
 (zBi (r1.2.1,r1.2.2)).bind λr6 =>
 (qF y1.2.2 ([r6.1]:List wW)).bind λx4 =>
 (zE5 r6.1).bind λr7 =>
 some (3,r7,r6.2.1,r6.2.2,y1.1,y1.2.1,x4)
 else
 some (0,[],r1.2.1,r1.2.2,y1.1,y1.2.1,y1.2.2)
def zEu (y0:zD)(y1:zD): Option Int:=z7j y0 y1
def zFb (y0:zD)(y1:zD): Option (zD×zD×Bool) :=
 (zEu y0 y1).bind λr1 =>
 if decide (0≤r1) then
 (sub y0 0 r1).bind λx1 =>
 (sub y0 (zH (r1+(len y1))) (len y0)).bind λx2 =>
 some (x1,x2,true)
 else
 some (y0,[],false)
def zNz (y0:zD)(y1:zD): Option (zD×zD×Bool) :=
 (zFb y0 y1).bind λr1 =>
 some (r1.1,r1.2.1,r1.2.2)
def zKg (y0:zD): Option (List zD):=z2r y0
def zFR (s2:zD×Int×Int×(List vE)×(List qH)×(List wW)): Option ((zD×Int×Int×(List vE)×(List qH)×(List wW))⊕(((List vE)×(List qH)×(List wW))⊕(zM×Int×Int))) :=
 if !(s2.1==[]) then
 (zNz s2.1 [10]).bind λr1 =>
 (zKg r1.1).bind λr2 =>
 (zD5 (r2,false) (s2.2.2.2.1,s2.2.2.2.2.1,s2.2.2.2.2.2)).bind λr3 =>
 if(!r1.2.2)||(r3.2.2.2.1||((decide (0<(len r3.2.2.1)))||((!(r3.2.1==r1.1))||(decide (r3.1<s2.2.1))))) then
 some (.inr (.inr ((([]:List vE),([]:List qH),([]:List wW)),s2.2.2.1,3)))
 else
 some (.inl (r1.2.1,r3.1,zH (s2.2.2.1+1),r3.2.2.2.2.1,r3.2.2.2.2.2.1,r3.2.2.2.2.2.2))
 else
 some (.inr (.inl (s2.2.2.2.1,s2.2.2.2.2.1,s2.2.2.2.2.2)))
def zK8 (y0:zD): Option (zM×Int×Int) :=
 if decide (4096<(len y0)) then
 some ((([]:List vE),([]:List qH),([]:List wW)),0,2)
 else
 vH (zN (zFR) (y0,1,1,([]:List vE),([]:List qH),([]:List wW)):Option (((List vE)×(List qH)×(List wW))⊕(zM×Int×Int))) λs1 =>
 (zCU (s1.1,s1.2.1,s1.2.2)).bind λr4 =>
 if r4 != 0 then
 some ((([]:List vE),([]:List qH),([]:List wW)),0,r4)
 else
 some ((s1.1,s1.2.1,s1.2.2),0,0)
def zLR:Option Bool :=
 (zK8 [112,114,101,109,105,115,101,32,112,32,49,10,112,114,101,109,105,115,101,32,126,112,32,49,10,97,120,105,111,109,32,120,10,114,117,108,101,32,97,32,49,58,32,61,62,32,113,10,114,117,108,101,32,98,32,49,58,32,61,62,32,126,113,10,112,114,111,109,111,116,101,32,98,32,50,32,105,102,32,120,10]).bind λr1 =>
 (zCu r1.1 (1,1)).bind λr2 =>
 (zBU r2.1 1 true).bind λr3 =>
 (zBU r2.1 3 false).bind λr4 =>
 (
 if r1.2.2==0 then
 if r2.2==0 then
 if r3.2==0 then
 if(len r3.1)==2 then
 (zC r3.1 0).bind λx1 =>
 if x1==(true,[113]) then
 if r4.2==0 then
 some ((len r4.1)==4)
 else
 some false
 else
 some false
 else
 some false
 else
 some false
 else
 some false
 else
 some false:Option Bool).bind λs1 =>
 some s1
def zNC:Option (List yZ) :=
 some ([(1,1),(1,2),(2,1),(2,2)]:List yZ)
def zOA (y0:Int)(y1:Int): Option Int :=
 if decide (y1<1) then
 some 0
 else
 (remK y0 y1).bind λx1 =>
 if decide (x1<0) then
 some (zH (x1+y1))
 else
 some x1
def zGd (y0:Int): Option zD :=
 (zOA y0 26).bind λr1 =>
 (cat [114] (zY4 ([IntKind.u8.wrap (zH (97+r1))]:List Int))).bind λx1 =>
 some x1
def zM7 (y0:uU): Option (Int×Int) :=
 if decide ((len y0.1)≤y0.2) then
 some (0,y0.2)
 else
 (zC y0.1 (zH ((zH (y0.2+1))-1))).bind λx1 =>
 some (x1,zH (y0.2+1))
def tB (y0:uU)(y1:Int): Option (Int×Int) :=
 (zM7 y0).bind λr1 =>
 (zOA r1.1 y1).bind λr2 =>
 some (r2,r1.2)
def zD3 (y0:uU)(y1:Int): Option (zI×Int) :=
 (tB y0 (zH (2*y1))).bind λr1 =>
 (quoK .i64 r1.1 2).bind λx1 =>
 some (((yI .i64 r1.1 1)==1,zY4 ([IntKind.u8.wrap (zH (97+x1))]:List Int)),r1.2)
def zIc (y0:uU)(y2:Int)(s1:(List zI)×Int×Int): Option (((List zI)×Int×Int)⊕((List zI)×Int)) :=
 if decide (0<s1.2.1) then
 (zD3 (y0.1,s1.2.2) y2).bind λr2 =>
 (qF s1.1 ([r2.1]:List zI)).bind λx1 =>
 some (.inl (x1,zH (s1.2.1-1),r2.2))
 else
 some (.inr (s1.1,s1.2.2))
def zHp (y0:uU)(y1:Int)(y2:Int): Option ((List zI)×Int) :=
 (tB y0 (zH (y1+1))).bind λr1 =>
 zN (zIc y0 y2) (([]:List zI),r1.1,r1.2)
def zLe (y0:uU)(y1:List Int): Option (Int×Int) :=
 (tB y0 (len y1)).bind λr1 =>
 (zC y1 r1.1).bind λx1 =>
 some (x1,r1.2)
def zL0 (y0:uU)(y1:List zD): Option (zD×Int) :=
 (tB y0 (len y1)).bind λr1 =>
 (zC y1 r1.1).bind λx1 =>
 some (x1,r1.2)
def zIQ (s1:(List zI)×Int)(x1:zI)(s3:Int): Option (Int⊕Int) :=
 (
 if decide (s3<(len s1.1)) then
 (zC s1.1 s3).bind λx2 =>
 if uV x2.2 x1.2 then
 some true
 else
 (zC s1.1 s3).bind λx3 =>
 if x3.2==x1.2 then
 (zC s1.1 s3).bind λx4 =>
 if !x4.1 then
 some x1.1
 else
 some false
 else
 some false
 else
 some false:Option Bool).bind λs4 =>
 if s4 then
 some (.inl (zH (s3+1)))
 else
 some (.inr s3)
def zK9 (y0:List zI)(s1:(List zI)×Int): Option (((List zI)×Int)⊕(List zI)) :=
 if decide (s1.2<(len y0)) then
 (zC y0 s1.2).bind λx1 =>
 (zN (zIQ s1 x1) 0:Option Int).bind λs2 =>
 (
 if decide (s2<(len s1.1)) then
 (zC s1.1 s2).bind λx5 =>
 some (x5==x1)
 else
 some false:Option Bool).bind λs5 =>
 if s5 then
 some (.inl (s1.1,zH (s1.2+1)))
 else
 (qF s1.1 ([(false,[])]:List zI)).bind λx6 =>
 (vT (decide (0≤(zH (s2+1)))&&decide ((zH (s2+1))≤len x6))).bind λ_ =>
 (vT (decide (0≤s2)&&decide (s2≤len x6))).bind λ_ =>
 (zC (zLB x6 (zH (s2+1)) (List.drop (Int.toNat s2) x6)) s2).bind λ_ =>
 some (.inl (List.set (zLB x6 (zH (s2+1)) (List.drop (Int.toNat s2) x6)) (Int.toNat s2) x1,zH (s1.2+1)))
 else
 some (.inr s1.1)
def zNs (y0:List zI): Option (List zI) :=
 zN (zK9 y0) (([]:List zI),0)
def zFt (s2:Int×Int×(List vE))(r2:zI×Int)(s5:Bool×Int): Option ((Bool×Int)⊕Bool) :=
 if decide (s5.2<(len s2.2.2)) then
 (zC s2.2.2 s5.2).bind λx1 =>
 some (.inl (s5.1||(x1.1==r2.1),zH (s5.2+1)))
 else
 some (.inr s5.1)
def zIk (y0:uU)(y1:Int)(s2:Int×Int×(List vE)): Option ((Int×Int×(List vE))⊕(Int×(List vE))) :=
 if decide (0<s2.1) then
 (zD3 (y0.1,s2.2.1) y1).bind λr2 =>
 (zLe (y0.1,r2.2) ([1,2,2,2,3]:List Int)).bind λr3 =>
 (zL0 (y0.1,r3.2) ([[],[],[97,110,110],[98,111,98]]:List zD)).bind λr4 =>
 (
 if r3.1==2 then
 (tB (y0.1,r4.2) 4).bind λr5 =>
 some (r5.2,r5.1)
 else
 some (r4.2,0):Option (Int×Int)).bind λs3 =>
 (zN (zFt s2 r2) (false,0):Option Bool).bind λs4 =>
 if !s4 then
 (qF s2.2.2 ([(r2.1,r3.1,s3.2,r4.1)]:List vE)).bind λx2 =>
 some (.inl (zH (s2.1-1),s3.1,x2))
 else
 some (.inl (zH (s2.1-1),s3.1,s2.2.2))
 else
 some (.inr (s2.2.1,s2.2.2))
def zIi (y0:uU)(y1:Int)(y3:Int)(s7:Int×Int×(List qH)): Option ((Int×Int×(List qH))⊕(Int×(List qH))) :=
 if decide (0<s7.1) then
 (zGd (len s7.2.2)).bind λr7 =>
 (tB (y0.1,s7.2.1) 3).bind λr8 =>
 (zHp (y0.1,r8.2) 2 y1).bind λr9 =>
 (zNs r9.1).bind λr10 =>
 (zD3 (y0.1,r9.2) y1).bind λr11 =>
 (
 if !(r8.1==0) then
 (tB (y0.1,r11.2) 4).bind λr12 =>
 some (r12.2,r12.1)
 else
 some (r11.2,0):Option (Int×Int)).bind λs8 =>
 (
 (tB (y0.1,s8.1) 6).bind λr13 =>
 if r13.1==5 then
 (tB (y0.1,r13.2) 4).bind λr14 =>
 (tB (y0.1,r14.2) y3).bind λr15 =>
 (zGd r15.1).bind λr16 =>
 some (r15.2,decide (0<r14.1),r16)
 else
 some (r13.2,r11.1.1,r11.1.2):Option (Int×Bool×zD)).bind λs9 =>
 (qF s7.2.2 ([(r7,r8.1==0,s8.2,r10,(s9.2.1,s9.2.2))]:List qH)).bind λx3 =>
 some (.inl (zH (s7.1-1),s9.1,x3))
 else
 some (.inr (s7.2.1,s7.2.2))
def zIq (s6:Int×(List qH))(y0:uU)(y1:Int)(s11:Int×Int×(List wW)): Option ((Int×Int×(List wW))⊕(Int×(List wW))) :=
 if(decide (0<s11.1))&&(decide (0<(len s6.2))) then
 (
 (tB (y0.1,s11.2.1) (len s6.2)).bind λr18 =>
 (zC s6.2 r18.1).bind λx4 =>
 some (r18.2,x4):Option (Int×qH)).bind λs12 =>
 if !s12.2.2.1 then
 (tB (y0.1,s12.1) 10).bind λr20 =>
 (zD3 (y0.1,r20.2) y1).bind λr21 =>
 (qF s11.2.2 ([(s12.2.1,r20.1,r21.1)]:List wW)).bind λx6 =>
 some (.inl (zH (s11.1-1),r21.2,x6))
 else
 some (.inl (zH (s11.1-1),s12.1,s11.2.2))
 else
 some (.inr (s11.2.1,s11.2.2))
def zLQ (y0:uU)(y1:Int)(y2:Int)(y3:Int): Option (zM×Int) :=
 (
 (tB y0 (zH (y2+1))).bind λr1 =>
 zN (zIk y0 y1) (r1.1,r1.2,([]:List vE)):Option (Int×(List vE))).bind λs1 =>
 (
 (tB (y0.1,s1.1) (zH (y3+1))).bind λr6 =>
 zN (zIi y0 y1 y3) (r6.1,r6.2,([]:List qH)):Option (Int×(List qH))).bind λs6 =>
 (
 (tB (y0.1,s6.1) 3).bind λr17 =>
 zN (zIq s6 y0 y1) (r17.1,r17.2,([]:List wW)):Option (Int×(List wW))).bind λs10 =>
 some ((s1.2,s6.2,s10.2),s10.1)
def zG9 (y0:zD)(s2:Int): Option (Int⊕Bool) :=
 if decide (s2<(len y0)) then
 (
 (xX y0 s2).bind λx3 =>
 if decide (x3<97) then
 (xX y0 s2).bind λx4 =>
 if decide (x4<48) then
 (xX y0 s2).bind λx5 =>
 some (x5 != 95)
 else
 (xX y0 s2).bind λx6 =>
 if decide (57<x6) then
 (xX y0 s2).bind λx7 =>
 some (x7 != 95)
 else
 some false
 else
 (xX y0 s2).bind λx8 =>
 if decide (122<x8) then
 (xX y0 s2).bind λx9 =>
 if decide (x9<48) then
 (xX y0 s2).bind λx10 =>
 some (x10 != 95)
 else
 (xX y0 s2).bind λx11 =>
 if decide (57<x11) then
 (xX y0 s2).bind λx12 =>
 some (x12 != 95)
 else
 some false
 else
 some false:Option Bool).bind λs3 =>
 if s3 then
 some (.inr false)
 else
 some (.inl (zH (s2+1)))
 else
 some (.inr true)
def zDy (y0:zD): Option Bool :=
 (
 if decide ((len y0)<1) then
 some true
 else
 if decide (12<(len y0)) then
 some true
 else
 (xX y0 0).bind λx1 =>
 if decide (x1<97) then
 some true
 else
 (xX y0 0).bind λx2 =>
 some (decide (122<x2)):Option Bool).bind λs1 =>
 if s1 then
 some false
 else
 zN (zG9 y0) 0
def zFs (y0:zI): Option Bool :=
 (zDy y0.2).bind λr1 =>
 some r1
def zLM (y0:zM)(y1:zD)(s1:Int): Option (Int⊕Int) :=
 if decide (s1<(len y0.2.1)) then
 (zC y0.2.1 s1).bind λx1 =>
 if x1.1==y1 then
 some (.inr s1)
 else
 some (.inl (zH (s1+1)))
 else
 some (.inr (-1))
def zOx (y0:zM)(y1:zD): Option Int :=
 zN (zLM y0 y1) 0
def zIr (y0:zM)(y1:zI)(s1:Int): Option (Int⊕Int) :=
 if decide (s1<(len y0.1)) then
 (zC y0.1 s1).bind λx1 =>
 if x1.1==y1 then
 some (.inr s1)
 else
 some (.inl (zH (s1+1)))
 else
 some (.inr (-1))
def zO2 (y0:zM)(y1:zI): Option Int :=
 zN (zIr y0 y1) 0
def zJY (y0:Int): Option Bool :=
 some ((decide (0≤y0))&&(decide (y0≤9)))
def zLd (y0:vE): Option Int :=
 if(decide (y0.2.1<1))||(decide (3<y0.2.1)) then
 some 4
 else
 (
 (zFs y0.1).bind λr1 =>
 if !r1 then
 some true
 else
 (zJY y0.2.2.1).bind λr2 =>
 if !r2 then
 some true
 else
 if y0.2.1 != 2 then
 if y0.2.2.1 != 0 then
 some true
 else
 if !(y0.2.2.2==[]) then
 (zDy y0.2.2.2).bind λr3 =>
 some (!r3)
 else
 some false
 else
 if !(y0.2.2.2==[]) then
 (zDy y0.2.2.2).bind λr4 =>
 some (!r4)
 else
 some false:Option Bool).bind λs1 =>
 if s1 then
 some 1
 else
 some 0
def zL3 (y0:qH)(s3:Bool×Int): Option ((Bool×Int)⊕Bool) :=
 if decide (s3.2<(len y0.2.2.2.1)) then
 (
 if s3.1 then
 (zC y0.2.2.2.1 s3.2).bind λx1 =>
 (zFs x1).bind λr5 =>
 some r5
 else
 some false:Option Bool).bind λs4 =>
 some (.inl (s4,zH (s3.2+1)))
 else
 some (.inr s3.1)
def zLf (y0:qH)(s5:Int): Option (Int⊕Int) :=
 if decide (s5<(len y0.2.2.2.1)) then
 (zC y0.2.2.2.1 (zH (s5-1))).bind λx2 =>
 (zC y0.2.2.2.1 s5).bind λx3 =>
 (zJ5 x2 x3).bind λr6 =>
 if decide (0≤r6) then
 some (.inr 8)
 else
 some (.inl (zH (s5+1)))
 else
 some (.inr 0)
def zPN (y0:qH): Option Int :=
 if decide (4<(len y0.2.2.2.1)) then
 some 2
 else
 (
 (zDy y0.1).bind λr1 =>
 if r1 then
 (zJY y0.2.2.1).bind λr2 =>
 if r2 then
 if !y0.2.1 then
 (zFs y0.2.2.2.2).bind λr3 =>
 some r3
 else
 if y0.2.2.1==0 then
 (zFs y0.2.2.2.2).bind λr4 =>
 some r4
 else
 some false
 else
 some false
 else
 some false:Option Bool).bind λs1 =>
 (zN (zL3 y0) (s1,0):Option Bool).bind λs2 =>
 if !s2 then
 some 1
 else
 zN (zLf y0) 1
def zHo (y0:zM)(s2:Int): Option (Int⊕(Unit⊕Int)) :=
 if decide (s2<(len y0.1)) then
 (zC y0.1 s2).bind λx1 =>
 (zLd x1).bind λr1 =>
 if r1 != 0 then
 some (.inr (.inr r1))
 else
 (zC y0.1 s2).bind λx2 =>
 (zO2 y0 x2.1).bind λr2 =>
 if decide (r2<s2) then
 some (.inr (.inr 5))
 else
 some (.inl (zH (s2+1)))
 else
 some (.inr (.inl ()))
def zHk (y0:zM)(s4:Int): Option (Int⊕(Unit⊕Int)) :=
 if decide (s4<(len y0.2.1)) then
 (zC y0.2.1 s4).bind λx3 =>
 (zPN x3).bind λr3 =>
 if r3 != 0 then
 some (.inr (.inr r3))
 else
 (zC y0.2.1 s4).bind λx4 =>
 (zOx y0 x4.1).bind λr4 =>
 if decide (r4<s4) then
 some (.inr (.inr 5))
 else
 some (.inl (zH (s4+1)))
 else
 some (.inr (.inl ()))
def zH9 (y0:zM)(s5:Int): Option (Int⊕Int) :=
 if decide (s5<(len y0.2.2)) then
 (zC y0.2.2 s5).bind λx5 =>
 (
 (zJY x5.2.1).bind λr5 =>
 if !r5 then
 some true
 else
 (zFs x5.2.2).bind λr6 =>
 some (!r6):Option Bool).bind λs6 =>
 if s6 then
 some (.inr 1)
 else
 (zOx y0 x5.1).bind λr7 =>
 if decide (r7<0) then
 some (.inr 6)
 else
 (zC y0.2.1 r7).bind λx6 =>
 if x6.2.1 then
 some (.inr 4)
 else
 some (.inl (zH (s5+1)))
 else
 some (.inr 0)
def zIL (y0:zM): Option Int :=
 if(decide (16<(len y0.1)))||((decide (24<(len y0.2.1)))||(decide (8<(len y0.2.2)))) then
 some 2
 else
 vH (zN (zHo y0) 0:Option (Unit⊕Int)) λ_ =>
 vH (zN (zHk y0) 0:Option (Unit⊕Int)) λ_ =>
 zN (zH9 y0) 0
def zM6 (y0:List zI)(y1:zI)(s1:Int): Option (Int⊕Bool) :=
 if decide (s1<(len y0)) then
 (zC y0 s1).bind λx1 =>
 if x1==y1 then
 some (.inr true)
 else
 some (.inl (zH (s1+1)))
 else
 some (.inr false)
def zU7 (y0:List zI)(y1:zI): Option Bool :=
 zN (zM6 y0 y1) 0
def zGj (y0:List Int)(y1:Int)(s2:Int): Option (Int⊕Int) :=
 (
 if decide (s2<(len y0)) then
 (zC y0 s2).bind λx1 =>
 some (decide (x1<y1))
 else
 some false:Option Bool).bind λs3 =>
 if s3 then
 some (.inl (zH (s2+1)))
 else
 some (.inr s2)
def zKV (y0:List Int)(y1:Int): Option (List Int) :=
 (zN (zGj y0 y1) 0:Option Int).bind λs1 =>
 (
 if decide (s1<(len y0)) then
 (zC y0 s1).bind λx2 =>
 some (x2==y1)
 else
 some false:Option Bool).bind λs4 =>
 if s4 then
 some y0
 else
 (sub y0 0 s1).bind λx3 =>
 (qF ([]:List Int) x3).bind λx4 =>
 (sub y0 s1 (len y0)).bind λx5 =>
 (qF x4 ([y1]:List Int)).bind λx6 =>
 (qF x6 x5).bind λx7 =>
 some x7
def zKf (y1:List Int)(s1:(List Int)×Int): Option (((List Int)×Int)⊕(List Int)) :=
 if decide (s1.2<(len y1)) then
 (zC y1 s1.2).bind λx1 =>
 (zKV s1.1 x1).bind λr1 =>
 some (.inl (r1,zH (s1.2+1)))
 else
 some (.inr s1.1)
def zRK (y0:List Int)(y1:List Int): Option (List Int) :=
 zN (zKf y1) (y0,0)
def zLj (y0:List zF)(y1:Int)(rec_ref07_Subs:(List zF)->Int->Option (List Int))(s1:(List Int)×Int): Option (((List Int)×Int)⊕(List Int)) :=
 (zC y0 y1).bind λx1 =>
 if decide (s1.2<(len x1.2.2.1)) then
 (zC y0 y1).bind λx2 =>
 (zC x2.2.2.1 s1.2).bind λx3 =>
 (rec_ref07_Subs y0 x3).bind λr1 =>
 (zRK s1.1 r1).bind λr2 =>
 some (.inl (r2,zH (s1.2+1)))
 else
 some (.inr s1.1)
def zOz (rec_ref07_Subs:(List zF)->Int->Option (List Int))(y0:List zF)(y1:Int): Option (List Int) :=
 if(decide (y1<0))||(decide ((len y0)≤y1)) then
 some ([]:List Int)
 else
 zN (zLj y0 y1 rec_ref07_Subs) (([y1]:List Int),0)
def zJF:Nat->(List zF)->Int->Option (List Int)
 | 0=>λ_ _=>none
 | k+1=>λy0 y1=>zOz (zJF k) y0 y1
def zS1 (y0:List zF)(y1:Int): Option (List Int):=z6A λk=>zJF k y0 y1
def zFk (r1:(List Int))(y1:List zF)(y0:zM)(s1:(List Int)×Int): Option (((List Int)×Int)⊕(List Int)) :=
 if decide (s1.2<(len r1)) then
 (zC r1 s1.2).bind λx1 =>
 (
 (zC y1 x1).bind λx2 =>
 if decide (0≤x2.2.1) then
 (zC y1 x1).bind λx3 =>
 (zC y0.2.1 x3.2.1).bind λx4 =>
 some (!x4.2.1)
 else
 some false:Option Bool).bind λs2 =>
 if s2 then
 (zC y1 x1).bind λx5 =>
 (zKV s1.1 x5.2.1).bind λr2 =>
 some (.inl (r2,zH (s1.2+1)))
 else
 some (.inl (s1.1,zH (s1.2+1)))
 else
 some (.inr s1.1)
def zFx (y0:zM)(y1:List zF)(y2:Int): Option (List Int) :=
 (zS1 y1 y2).bind λr1 =>
 zN (zFk r1 y1 y0) (([]:List Int),0)
def zGL (y1:List zF)(y2:Int)(rec_ref07_Run:zM->(List zF)->Int->Option (List zI))(y0:zM)(s2:(List zI)×Int): Option (((List zI)×Int)⊕(List zI)) :=
 (zC y1 y2).bind λx5 =>
 if decide (s2.2<(len x5.2.2.1)) then
 (zC y1 y2).bind λx6 =>
 (zC x6.2.2.1 s2.2).bind λx7 =>
 (rec_ref07_Run y0 y1 x7).bind λr1 =>
 (qF s2.1 r1).bind λx8 =>
 some (.inl (x8,zH (s2.2+1)))
 else
 some (.inr s2.1)
def zHb (rec_ref07_Run:zM->(List zF)->Int->Option (List zI))(y0:zM)(y1:List zF)(y2:Int): Option (List zI) :=
 (zC y1 y2).bind λx1 =>
 (
 (zC y1 y2).bind λx2 =>
 if decide (0≤x2.2.1) then
 (zC y1 y2).bind λx3 =>
 (zC y0.2.1 x3.2.1).bind λx4 =>
 some x4.2.1
 else
 some false:Option Bool).bind λs1 =>
 if s1 then
 zN (zGL y1 y2 rec_ref07_Run y0) (([x1.2.2.2]:List zI),0)
 else
 some ([x1.2.2.2]:List zI)
def zBz:Nat->zM->(List zF)->Int->Option (List zI)
 | 0=>λ_ _ _=>none
 | k+1=>λy0 y1 y2=>zHb (zBz k) y0 y1 y2
def zMQ (y0:zM)(y1:List zF)(y2:Int): Option (List zI):=z6A λk=>zBz k y0 y1 y2
def zNq (y0:List Int)(y1:Int)(s1:Int): Option (Int⊕Bool) :=
 if decide (s1<(len y0)) then
 (zC y0 s1).bind λx1 =>
 if x1==y1 then
 some (.inr true)
 else
 some (.inl (zH (s1+1)))
 else
 some (.inr false)
def zT3 (y0:List Int)(y1:Int): Option Bool :=
 zN (zNq y0 y1) 0
def zJa (y3:List Int)(x1:qH)(y0:zM)(y1:List zF)(y2:Int)(s1:Int): Option (Int⊕Bool) :=
 if decide (s1<(len y3)) then
 (
 if x1.2.1 then
 (zC y3 s1).bind λx2 =>
 (zMQ y0 y1 x2).bind λr1 =>
 (zU7 r1 x1.2.2.2.2).bind λr2 =>
 if r2 then
 some true
 else
 if !x1.2.1 then
 (zC y3 s1).bind λx3 =>
 (zFx y0 y1 x3).bind λr3 =>
 (zT3 r3 y2).bind λr4 =>
 some r4
 else
 some false
 else
 if !x1.2.1 then
 (zC y3 s1).bind λx4 =>
 (zFx y0 y1 x4).bind λr5 =>
 (zT3 r5 y2).bind λr6 =>
 some r6
 else
 some false:Option Bool).bind λs2 =>
 if s2 then
 some (.inr false)
 else
 some (.inl (zH (s1+1)))
 else
 some (.inr true)
def zI0 (y0:zM)(y1:List zF)(y2:Int)(y3:List Int): Option Bool :=
 (zC y0.2.1 y2).bind λx1 =>
 zN (zJa y3 x1 y0 y1 y2) 0
def zG7 (y1:Int)(y0:List zF)(y2:List zI)(y3:List Int)(rec_ref07_choices_2:(List zF)->Int->(List zI)->(List Int)->Option (List (List Int)))(s1:(List (List Int))×Int): Option (((List (List Int))×Int)⊕(List (List Int))) :=
 if decide (s1.2<y1) then
 (zC y0 s1.2).bind λx2 =>
 (zC y2 (len y3)).bind λx3 =>
 if x2.2.2.2==x3 then
 (sub y3 0 (len y3)).bind λx4 =>
 (qF x4 ([s1.2]:List Int)).bind λx5 =>
 (rec_ref07_choices_2 y0 y1 y2 x5).bind λr1 =>
 (qF s1.1 r1).bind λx6 =>
 some (.inl (x6,zH (s1.2+1)))
 else
 some (.inl (s1.1,zH (s1.2+1)))
 else
 some (.inr s1.1)
def zJo (rec_ref07_choices_2:(List zF)->Int->(List zI)->(List Int)->Option (List (List Int)))(y0:List zF)(y1:Int)(y2:List zI)(y3:List Int): Option (List (List Int)) :=
 if(len y3)==(len y2) then
 (qF ([]:List Int) y3).bind λx1 =>
 some ([x1]:List (List Int))
 else
 zN (zG7 y1 y0 y2 y3 rec_ref07_choices_2) (([]:List (List Int)),0)
def zEB:Nat->(List zF)->Int->(List zI)->(List Int)->Option (List (List Int))
 | 0=>λ_ _ _ _=>none
 | k+1=>λy0 y1 y2 y3=>zJo (zEB k) y0 y1 y2 y3
def zMU (y0:List zF)(y1:Int)(y2:List zI)(y3:List Int): Option (List (List Int)):=z6A λk=>zEB k y0 y1 y2 y3
def zJk (y0:List Int)(y1:Int)(s1:Int): Option (Int⊕Bool) :=
 if decide (s1<(len y0)) then
 (zC y0 s1).bind λx1 =>
 if decide (y1≤x1) then
 some (.inr true)
 else
 some (.inl (zH (s1+1)))
 else
 some (.inr false)
def zP8 (y0:List Int)(y1:Int): Option Bool :=
 zN (zJk y0 y1) 0
def zHw (y0:zM)(s2:(List zF)×Int): Option (((List zF)×Int)⊕(List zF)) :=
 if decide (s2.2<(len y0.1)) then
 (zC y0.1 s2.2).bind λx1 =>
 (qF s2.1 ([(s2.2,(-1),([]:List Int),x1.1)]:List zF)).bind λx2 =>
 some (.inl (x2,zH (s2.2+1)))
 else
 some (.inr s2.1)
def zIC (r2:(List (List Int)))(s3:(List zF)×Int×Int)(y0:zM)(s4:(List zF)×Int)(s5:(List zF)×Int): Option (((List zF)×Int)⊕(((List zF)×Int)⊕(((List zF)×Int×Int)⊕((List zF)×Int)))) :=
 if decide (s5.2<(len r2)) then
 (zC r2 s5.2).bind λx4 =>
 (
 (zP8 x4 s3.2.1).bind λr3 =>
 if !r3 then
 if decide (1<s3.2.2) then
 some true
 else
 if decide (0<(len x4)) then
 some true
 else
 (zI0 y0 s5.1 s4.2 x4).bind λr4 =>
 some (!r4)
 else
 (zI0 y0 s5.1 s4.2 x4).bind λr5 =>
 some (!r5):Option Bool).bind λs6 =>
 if s6 then
 some (.inl (s5.1,zH (s5.2+1)))
 else
 (zC y0.2.1 s4.2).bind λx5 =>
 (qF s5.1 ([((-1),s4.2,x4,x5.2.2.2.2)]:List zF)).bind λx6 =>
 if decide (40<(len x6)) then
 some (.inr (.inr (.inr (([]:List zF),2))))
 else
 some (.inl (x6,zH (s5.2+1)))
 else
 some (.inr (.inl (s5.1,zH (s4.2+1))))
def zIA (y0:zM)(s3:(List zF)×Int×Int)(s4:(List zF)×Int): Option (((List zF)×Int)⊕(((List zF)×Int×Int)⊕((List zF)×Int))) :=
 if decide (s4.2<(len y0.2.1)) then
 (zC y0.2.1 s4.2).bind λx3 =>
 (zMU s4.1 (len s3.1) x3.2.2.2.1 ([]:List Int)).bind λr2 =>
 zN (zIC r2 s3 y0 s4) (s4.1,0)
 else
 some (.inr (.inl (s4.1,len s3.1,zH (s3.2.2+1))))
def zFh (y0:zM)(s3:(List zF)×Int×Int): Option (((List zF)×Int×Int)⊕((List zF)×Int)) :=
 if(s3.2.2==1)||(decide (s3.2.1<(len s3.1))) then
 zN (zIA y0 s3) (s3.1,0)
 else
 some (.inr (s3.1,0))
def zJw (y0:zM): Option ((List zF)×Int) :=
 (zIL y0).bind λr1 =>
 if r1 != 0 then
 some (([]:List zF),r1)
 else
 (zN (zHw y0) (([]:List zF),0):Option (List zF)).bind λs1 =>
 zN (zFh y0) (s1,0,1)
def zQJ (y1:Int)(r1:zM×Int)(s2:(List zF)×Int×(List qH)×(List wW)): Option (((List zF)×Int×(List qH)×(List wW))⊕((List zF)×(List qH)×(List wW))) :=
 if if s2.2.1 != 0 then decide (0<(len s2.2.2.1)) else(decide (y1<(len s2.1)))&&(decide (0<(len s2.2.2.1))) then
 (sub s2.2.2.1 0 (zH ((len s2.2.2.1)-1))).bind λx1 =>
 (zJw (r1.1.1,x1,([]:List wW))).bind λr3 =>
 some (.inl (r3.1,r3.2,x1,([]:List wW)))
 else
 some (.inr (s2.1,s2.2.2.1,s2.2.2.2))
def zM4 (y0:uU)(y1:Int): Option (zBv×Bool×Int) :=
 (zLQ y0 3 4 5).bind λr1 =>
 (zJw r1.1).bind λr2 =>
 (zN (zQJ y1 r1) (r2.1,r2.2,r1.1.2.1,r1.1.2.2):Option ((List zF)×(List qH)×(List wW))).bind λs1 =>
 (
 zNC.bind λr4 =>
 (tB (y0.1,r1.2) 4).bind λr5 =>
 (zC r4 r5.1).bind λx2 =>
 (zCu (r1.1.1,s1.2.1,s1.2.2) x2).bind λr6 =>
 some (r6.2,r5.2,r6.1):Option (Int×Int×zBv)).bind λs3 =>
 (
 if s3.1==0 then
 if(len s3.2.2.2.1)==(len s1.1) then
 some (s3.2.2.2.2.2.1==(len s1.1),s3.2.2.1.1,s3.2.2.1.2.1,s3.2.2.1.2.2,s3.2.2.2.1,s3.2.2.2.2.1,s3.2.2.2.2.2.1,s3.2.2.2.2.2.2)
 else
 some (false,s3.2.2.1.1,s3.2.2.1.2.1,s3.2.2.1.2.2,s3.2.2.2.1,s3.2.2.2.2.1,s3.2.2.2.2.2.1,s3.2.2.2.2.2.2)
 else
 some (false,s3.2.2.1.1,s3.2.2.1.2.1,s3.2.2.1.2.2,s3.2.2.2.1,s3.2.2.2.2.1,s3.2.2.2.2.2.1,s3.2.2.2.2.2.2):Option (Bool×(List vE)×(List qH)×(List wW)×(List zF)×(List qX)×Int×(List qG))).bind λs4 =>
 some (((s4.2.1,s4.2.2.1,s4.2.2.2.1),s4.2.2.2.2.1,s4.2.2.2.2.2.1,(s4.2.2.2.2.2.2.1,s4.2.2.2.2.2.2.2)),s4.1,s3.2.1)
def zGk (y0:qE)(y1:Int): Option Int :=
 (
 (zBD y0).bind λr1 =>
 if r1 != 0 then
 some true
 else
 if decide (y1<0) then
 some true
 else
 some (decide (y0.1≤y1)):Option Bool).bind λs1 =>
 if s1 then
 some 1
 else
 some 0
def zH1 (y0:Int): Option Bool :=
 some ((y0 != 1)&&((y0 != 2)&&(y0 != 3)))
def zHL (y0:List Int)(s1:Int): Option (Int⊕Int) :=
 if decide (s1<(len y0)) then
 (zC y0 s1).bind λx1 =>
 (zH1 x1).bind λr1 =>
 if r1 then
 some (.inr s1)
 else
 some (.inl (zH (s1+1)))
 else
 some (.inr (-1))
def zDq (y0:List Int): Option Int :=
 zN (zHL y0) 0
def zAG (y0:List Int): Option Bool :=
 (zDq y0).bind λr1 =>
 some (decide (0≤r1))
def zDO (y0:qE)(y1:List Int): Option Bool :=
 (
 if(len y1)==y0.1 then
 (zAG y1).bind λr1 =>
 some (!r1)
 else
 some false:Option Bool).bind λs1 =>
 some s1
def zEm (r1:(List Int))(y1:List Int)(s2:Int×Int×Int×Int×Int): Option ((Int×Int×Int×Int×Int)⊕(Int×Int×Int×Int)) :=
 if decide (s2.1<(len r1)) then
 (zC r1 s2.1).bind λx1 =>
 (zC y1 x1).bind λx2 =>
 (zC ([s2.2.1,s2.2.2.1,s2.2.2.2.1,s2.2.2.2.2]:List Int) x2).bind λx3 =>
 (zC ([s2.2.1,s2.2.2.1,s2.2.2.2.1,s2.2.2.2.2]:List Int) x2).bind λ_ =>
 some (.inl (zH (s2.1+1),if x2==0 then zH (x3+1) else s2.2.1,if x2==1 then zH (x3+1) else s2.2.2.1,if x2==2 then zH (x3+1) else s2.2.2.2.1,if x2==3 then zH (x3+1) else s2.2.2.2.2))
 else
 some (.inr (s2.2.1,s2.2.2.1,s2.2.2.2.1,s2.2.2.2.2))
def zDL (y0:qE)(y1:List Int)(y2:Int): Option Bool :=
 (zC4 y0 y2).bind λr1 =>
 (zN (zEm r1 y1) (0,0,0,0,0):Option (Int×Int×Int×Int)).bind λs1 =>
 (zC y1 y2).bind λx5 =>
 if x5==1 then
 some (s1.2.2.1==(len r1))
 else
 if x5==2 then
 some (decide (0<s1.2.1))
 else
 some ((decide (s1.2.2.1<(len r1)))&&(s1.2.1==0))
def zCA (y1:List Int)(y0:qE)(s1:(List Int)×Int): Option (((List Int)×Int)⊕(List Int)) :=
 if decide (s1.2<(len y1)) then
 (zDL y0 y1 s1.2).bind λr2 =>
 if !r2 then
 (qF s1.1 ([s1.2]:List Int)).bind λx1 =>
 some (.inl (x1,zH (s1.2+1)))
 else
 some (.inl (s1.1,zH (s1.2+1)))
 else
 some (.inr s1.1)
def zEE (y0:qE)(y1:List Int): Option (List Int) :=
 (zDO y0 y1).bind λr1 =>
 if !r1 then
 some ([]:List Int)
 else
 zN (zCA y1 y0) (([]:List Int),0)
def zCB (y0:qE)(y1:List Int): Option Bool :=
 (
 (zDO y0 y1).bind λr1 =>
 if r1 then
 (zEE y0 y1).bind λr2 =>
 some ((len r2)==0)
 else
 some false:Option Bool).bind λs1 =>
 some s1
def zOQ (y0:qE)(y1:Int)(y2:Int)(y3:List Int): Option Bool :=
 (
 (zCB y0 y3).bind λr1 =>
 if !r1 then
 some true
 else
 if y1 != 1 then
 (zAl y3 3).bind λr2 =>
 some (decide (0<(len r2)))
 else
 some false:Option Bool).bind λs1 =>
 if s1 then
 some false
 else
 (zC y3 y2).bind λx1 =>
 some ((x1==1)==(y1 != 3))
def zLi (y0:qE)(y1:Int)(y2:Int)(y3:zHy): Option Int :=
 if(decide (0<(len y3.2.2.1)))||(decide (0<(len y3.2.2.2))) then
 some 4
 else
 (zOQ y0 y1 y2 y3.2.1).bind λr1 =>
 if !r1 then
 some 11
 else
 some 0
def zHi (y0:Int)(y1:List Int)(y2:Int): Option Bool :=
 (zC y1 y0).bind λx1 =>
 (zC y1 y2).bind λx2 =>
 some (decide (x2≤x1))
def zHI (y0:List Int)(y1:List Int)(y2:Int)(s1:Int): Option (Int⊕Int) :=
 if decide (s1<(len y0)) then
 (zC y0 s1).bind λx1 =>
 (zHi x1 y1 y2).bind λr1 =>
 if r1 then
 some (.inr s1)
 else
 some (.inl (zH (s1+1)))
 else
 some (.inr (-1))
def zDv (y0:List Int)(y1:List Int)(y2:Int): Option Int :=
 zN (zHI y0 y1 y2) 0
def zAo (y0:List Int)(y1:List Int)(y2:Int): Option Bool :=
 (zDv y0 y1 y2).bind λr1 =>
 some (decide (0≤r1))
def zH2 (y0:Int)(y1:List Int)(y2:List Int)(y3:Int): Option Bool :=
 (
 (zC y1 y0).bind λx1 =>
 if x1==1 then
 (zC y2 y0).bind λx2 =>
 if decide (1≤x2) then
 (zC y2 y0).bind λx3 =>
 (zC y2 y3).bind λx4 =>
 some (decide (x3≤x4))
 else
 some false
 else
 some false:Option Bool).bind λs1 =>
 some s1
def zHH (y0:List Int)(y1:List Int)(y2:List Int)(y3:Int)(s1:Int): Option (Int⊕Int) :=
 if decide (s1<(len y0)) then
 (zC y0 s1).bind λx1 =>
 (zH2 x1 y1 y2 y3).bind λr1 =>
 if r1 then
 some (.inr s1)
 else
 some (.inl (zH (s1+1)))
 else
 some (.inr (-1))
def zDu (y0:List Int)(y1:List Int)(y2:List Int)(y3:Int): Option Int :=
 zN (zHH y0 y1 y2 y3) 0
def zAn (y0:List Int)(y1:List Int)(y2:List Int)(y3:Int): Option Bool :=
 (zDu y0 y1 y2 y3).bind λr1 =>
 some (decide (0≤r1))
def zJq (y0:qE)(y1:List Int)(y2:List Int)(y3:Int): Option Bool :=
 (zC4 y0 y3).bind λr1 =>
 (zC y1 y3).bind λx1 =>
 if x1==1 then
 (
 (zC y2 y3).bind λx2 =>
 if decide (1≤x2) then
 (zAo r1 y2 y3).bind λr2 =>
 some (!r2)
 else
 some false:Option Bool).bind λs1 =>
 some s1
 else
 if x1==2 then
 (zAn r1 y1 y2 y3).bind λr3 =>
 some r3
 else
 some true
def zKo (y0:qE)(y1:List Int)(y2:List Int)(s2:Int): Option (Int⊕Int) :=
 if decide (s2<y0.1) then
 (zJq y0 y1 y2 s2).bind λr4 =>
 if !r4 then
 some (.inr 11)
 else
 some (.inl (zH (s2+1)))
 else
 some (.inr 0)
def zKd (y0:qE)(y1:List Int)(y2:List Int): Option Int :=
 (zBD y0).bind λr1 =>
 if r1 != 0 then
 some 1
 else
 (
 (zDO y0 y1).bind λr2 =>
 if !r2 then
 some true
 else
 some ((len y2) != y0.1):Option Bool).bind λs1 =>
 if s1 then
 some 4
 else
 (zCB y0 y1).bind λr3 =>
 if !r3 then
 some 7
 else
 zN (zKo y0 y1 y2) 0
def zNZ (y0:qE)(y1:Int)(y2:Int)(y3:zHy): Option Int :=
 if decide (0<(len y3.2.2.2)) then
 some 4
 else
 (
 (zKd y0 y3.2.1 y3.2.2.1).bind λr1 =>
 if r1 != 0 then
 some true
 else
 (zC y3.2.1 y2).bind λx1 =>
 some (!(y3.1==(x1==1))):Option Bool).bind λs1 =>
 if s1 then
 some 11
 else
 some 0
def zJT (y0:Int): Option Int :=
 some (if(zH (0-y0)) > y0 then zH (0-y0) else y0)
def zJg (y1:List Int)(y0:Int)(s2:Int): Option (Int⊕(Unit⊕Int)) :=
 if decide (s2<(len y1)) then
 (zC y1 s2).bind λx1 =>
 if(x1==0)||((decide (x1<(zH (0-y0))))||(decide (y0<x1))) then
 some (.inr (.inr 1))
 else
 some (.inl (zH (s2+1)))
 else
 some (.inr (.inl ()))
def zED (y1:List Int)(s3:Int): Option (Int⊕Int) :=
 if decide (s3<(len y1)) then
 (zC y1 (zH (s3-1))).bind λx2 =>
 (zC y1 s3).bind λx3 =>
 (zJT x2).bind λr1 =>
 (zJT x3).bind λr2 =>
 if decide (r2≤r1) then
 some (.inr 8)
 else
 some (.inl (zH (s3+1)))
 else
 some (.inr 0)
def zGH (y0:Int)(y1:List Int): Option Int :=
 if decide (50<(len y1)) then
 some 2
 else
 vH (zN (zJg y1 y0) 0:Option (Unit⊕Int)) λ_ =>
 zN (zED y1) 1
def zKm (y1:List (List Int))(y0:Int)(s1:Int): Option (Int⊕Int) :=
 if decide (s1<(len y1)) then
 (zC y1 s1).bind λx1 =>
 (zGH y0 x1).bind λr1 =>
 if r1 != 0 then
 some (.inr r1)
 else
 some (.inl (zH (s1+1)))
 else
 some (.inr 0)
def zII (y0:Int)(y1:List (List Int)): Option Int :=
 if(decide (y0<0))||(decide (200<y0)) then
 some 1
 else
 if decide (4000<(len y1)) then
 some 2
 else
 zN (zKm y1 y0) 0
def zEF (y0:Int)(y1:Int): Option Int :=
 (zJT y0).bind λr1 =>
 (zJT y1).bind λr2 =>
 (zBB r1 r2).bind λr3 =>
 (zBB y0 y1).bind λr4 =>
 (zHW ([r3,r4]:List Int)).bind λr5 =>
 some r5
def zAh (y0:List Int): Option (List Int):=sortO zEF y0
def zFo (x1:List Int)(y2:Int)(s4:(List Int)×Int)(s5:(List Int)×Int): Option (((List Int)×Int)⊕(((List Int)×Int)⊕(List Int))) :=
 if decide (s5.2<(len x1)) then
 (zC x1 s5.2).bind λx2 =>
 (zJT x2).bind λr5 =>
 if r5 != y2 then
 (qF s5.1 ([x2]:List Int)).bind λx3 =>
 some (.inl (x3,zH (s5.2+1)))
 else
 some (.inl (s5.1,zH (s5.2+1)))
 else
 some (.inr (.inl (s5.1,zH (s4.2+1))))
def zDW (y0:List Int)(y1:List Int)(y2:Int)(s4:(List Int)×Int): Option (((List Int)×Int)⊕(List Int)) :=
 if decide (s4.2<(len ([y0,y1]:List (List Int)))) then
 (zC ([y0,y1]:List (List Int)) s4.2).bind λx1 =>
 zN (zFo x1 y2 s4) (s4.1,0)
 else
 some (.inr s4.1)
def zFP (y0:List Int)(y1:List Int)(y2:Int): Option ((List Int)×Bool) :=
 (
 if decide (y2<1) then
 some true
 else
 (zGH 200 y0).bind λr1 =>
 if r1 != 0 then
 some true
 else
 (zGH 200 y1).bind λr2 =>
 some (r2 != 0):Option Bool).bind λs1 =>
 if s1 then
 some (([]:List Int),false)
 else
 (
 (zAK y0 y2).bind λr3 =>
 if !r3 then
 some true
 else
 (zAK y1 (zH (0-y2))).bind λr4 =>
 some (!r4):Option Bool).bind λs2 =>
 if s2 then
 some (([]:List Int),false)
 else
 (zN (zDW y0 y1 y2) (([]:List Int),0):Option (List Int)).bind λs3 =>
 (zAh s3).bind λr6 =>
 (zAq r6).bind λr7 =>
 (zGH 200 r7).bind λr8 =>
 if r8 != 0 then
 some (([]:List Int),false)
 else
 some (r7,true)
def zBy (y0:List (List Int)): Option (List (List Int)) :=
 (qF ([]:List (List Int)) y0).bind λx1 =>
 some x1
def zPx (y0:List Int): Option Bool :=
 some ((len y0)==0)
def zHv (y0:List (List Int))(s1:Int): Option (Int⊕Int) :=
 if decide (s1<(len y0)) then
 (zC y0 s1).bind λx1 =>
 (zPx x1).bind λr1 =>
 if r1 then
 some (.inr s1)
 else
 some (.inl (zH (s1+1)))
 else
 some (.inr (-1))
def zEM (y0:List (List Int)): Option Int :=
 zN (zHv y0) 0
def zD8 (y0:List (List Int)): Option Bool :=
 (zEM y0).bind λr1 =>
 some (decide (0≤r1))
def zGD (y1:List yT)(s2:(List (List Int))×Int): Option (((List (List Int))×Int)⊕((List (List Int))⊕Bool)) :=
 if decide (s2.2<(len y1)) then
 (zC y1 s2.2).bind λx1 =>
 if(decide ((if x1.2.1<x1.1 then x1.2.1 else x1.1)<0))||(decide ((len s2.1)≤(if x1.2.1 > x1.1 then x1.2.1 else x1.1))) then
 some (.inr (.inr false))
 else
 (zC s2.1 x1.1).bind λx2 =>
 (zC s2.1 x1.2.1).bind λx3 =>
 (zFP x2 x3 x1.2.2).bind λr3 =>
 if !r3.2 then
 some (.inr (.inr false))
 else
 (qF s2.1 ([r3.1]:List (List Int))).bind λx4 =>
 some (.inl (x4,zH (s2.2+1)))
 else
 some (.inr (.inl s2.1))
def zLT (y0:List (List Int))(y1:List yT): Option Bool :=
 if(len y1)==0 then
 (zD8 y0).bind λr1 =>
 some r1
 else
 (zBy y0).bind λr2 =>
 vH (zN (zGD y1) (r2,0):Option ((List (List Int))⊕Bool)) λs1 =>
 (zC s1 (zH ((len s1)-1))).bind λx5 =>
 some ((len x5)==0)
def zOH (y0:Int)(y1:List Bool): Option Bool :=
 (zJT y0).bind λr1 =>
 (zC y1 (zH (r1-1))).bind λx1 =>
 some (x1==(decide (0<y0)))
def zHK (y0:List Int)(y1:List Bool)(s1:Int): Option (Int⊕Int) :=
 if decide (s1<(len y0)) then
 (zC y0 s1).bind λx1 =>
 (zOH x1 y1).bind λr1 =>
 if r1 then
 some (.inr s1)
 else
 some (.inl (zH (s1+1)))
 else
 some (.inr (-1))
def zDt (y0:List Int)(y1:List Bool): Option Int :=
 zN (zHK y0 y1) 0
def zDT (y0:List Int)(y1:List Bool): Option Bool :=
 (zDt y0 y1).bind λr1 =>
 some (decide (0≤r1))
def zTl (y0:List (List Int))(y1:List Bool)(s1:Int): Option (Int⊕Bool) :=
 if decide (s1<(len y0)) then
 (zC y0 s1).bind λx1 =>
 (zDT x1 y1).bind λr1 =>
 if !r1 then
 some (.inr false)
 else
 some (.inl (zH (s1+1)))
 else
 some (.inr true)
def zQT (y0:List (List Int))(y1:List Bool): Option Bool :=
 zN (zTl y0 y1) 0
def zNx (y0:Int)(y1:List (List Int))(y2:zNr): Option Int :=
 (zII y0 y1).bind λr1 =>
 if r1 != 0 then
 some r1
 else
 if y2.1 then
 if(decide (0<(len y2.2.2)))||((len y2.2.1) != y0) then
 some 4
 else
 (zQT y1 y2.2.1).bind λr2 =>
 if !r2 then
 some 11
 else
 some 0
 else
 if decide (0<(len y2.2.1)) then
 some 4
 else
 if decide (20000<(len y2.2.2)) then
 some 2
 else
 (zLT y1 y2.2.2).bind λr3 =>
 if !r3 then
 some 11
 else
 some 0
def zBA (y0:zAY)(y1:List Int): Option (List (List Int)) :=
 (qF y0.2 ([y1]:List (List Int))).bind λx1 =>
 some x1
def zBJ (y0:zAY)(y1:Int): Option Int :=
 some (zH (y1+1))
def zAz (y0:zAY)(y1:Int): Option Int :=
 some (zH ((zH (y0.1+y1))+1))
def zCq (r1:(List Int))(y0:zAY)(y2:Int)(s2:(List Int)×(List Int)×Int×(List (List Int))): Option (((List Int)×(List Int)×Int×(List (List Int)))⊕((List Int)×(List Int)×(List (List Int)))) :=
 if decide (s2.2.2.1<(len r1)) then
 (zC r1 s2.2.2.1).bind λx1 =>
 (zBJ (y0.1,s2.2.2.2) y2).bind λr6 =>
 (zAz (y0.1,s2.2.2.2) x1).bind λr7 =>
 (zBA (y0.1,s2.2.2.2) ([zH (0-r6),r7]:List Int)).bind λr8 =>
 (zAz (y0.1,r8) x1).bind λr9 =>
 (qF s2.1 ([zH (0-r9)]:List Int)).bind λx2 =>
 (zBJ (y0.1,r8) x1).bind λr10 =>
 (qF s2.2.1 ([r10]:List Int)).bind λx3 =>
 some (.inl (x2,x3,zH (s2.2.2.1+1),r8))
 else
 some (.inr (s2.1,s2.2.1,s2.2.2.2))
def zCr (r1:(List Int))(y0:zAY)(y2:Int)(s4:Int×(List (List Int))): Option ((Int×(List (List Int)))⊕(List (List Int))) :=
 if decide (s4.1<(len r1)) then
 (zC r1 s4.1).bind λx4 =>
 (zBJ (y0.1,s4.2) x4).bind λr12 =>
 (zAz (y0.1,s4.2) y2).bind λr13 =>
 (zBA (y0.1,s4.2) ([zH (0-r12),r13]:List Int)).bind λr14 =>
 some (.inl (zH (s4.1+1),r14))
 else
 some (.inr s4.2)
def zFW (y0:zAY)(y1:qE)(y2:Int)(y3:Bool): Option (List (List Int)) :=
 (zC4 y1 y2).bind λr1 =>
 (zBJ y0 y2).bind λr2 =>
 (zAz y0 y2).bind λr3 =>
 (zBA y0 ([zH (0-r2),zH (0-r3)]:List Int)).bind λr4 =>
 (zBJ (y0.1,r4) y2).bind λr5 =>
 (zN (zCq r1 y0 y2) (([r5]:List Int),([]:List Int),0,r4):Option ((List Int)×(List Int)×(List (List Int)))).bind λs1 =>
 (zBA (y0.1,s1.2.2) s1.1).bind λr11 =>
 (zN (zCr r1 y0 y2) (0,r11):Option (List (List Int))).bind λs3 =>
 (zAz (y0.1,s3) y2).bind λr15 =>
 (qF s1.2.1 ([zH (0-r15)]:List Int)).bind λx5 =>
 (zBA (y0.1,s3) x5).bind λr16 =>
 if y3 then
 (zBJ (y0.1,r16) y2).bind λr17 =>
 (zAz (y0.1,r16) y2).bind λr18 =>
 (zBA (y0.1,r16) ([r17,r18]:List Int)).bind λr19 =>
 some r19
 else
 some r16
def zEC (y0:qE)(y1:Int)(s4:Int×(List (List Int))): Option ((Int×(List (List Int)))⊕(List (List Int))) :=
 if decide (s4.1<y0.1) then
 (zFW (y0.1,s4.2) y0 s4.1 (y1 != 1)).bind λr3 =>
 some (.inl (zH (s4.1+1),r3))
 else
 some (.inr s4.2)
def zIS (y0:qE)(y1:Int)(y2:Int): Option (Int×(List (List Int))×Int) :=
 (zGk y0 y2).bind λr1 =>
 if r1 != 0 then
 some (0,([]:List (List Int)),r1)
 else
 (zBJ (y0.1,([]:List (List Int))) y2).bind λr2 =>
 vH (
 (
 if y1==1 then
 some (y1==1)
 else
 some (y1==2):Option Bool).bind λs2 =>
 if s2 then
 some (.inl r2)
 else
 if y1==3 then
 some (.inl (zH (0-r2)))
 else
 some (.inr (0,([]:List (List Int)),4)):Option (Int⊕(Int×(List (List Int))×Int))) λs1 =>
 (zN (zEC y0 y1) (0,([]:List (List Int))):Option (List (List Int))).bind λs3 =>
 (zBA (y0.1,s3) ([s1]:List Int)).bind λr4 =>
 some (zH (2*y0.1),r4,0)
def zMO (y0:qE)(y1:Int)(y2:Int)(y3:zHy): Option Int :=
 if(decide (0<(len y3.2.2.1)))||(decide (0<(len y3.2.1))) then
 some 4
 else
 (zIS y0 y1 y2).bind λr1 =>
 (zNx r1.1 r1.2.1 (false,([]:List Bool),y3.2.2.2)).bind λr2 =>
 if r2 != 0 then
 some 11
 else
 some 0
def zEU (y0:qE)(y1:Int)(y2:Int)(y3:zHy): Option Int :=
 (zGk y0 y2).bind λr1 =>
 if r1 != 0 then
 some r1
 else
 if y1==4 then
 (zNZ y0 y1 y2 y3).bind λr2 =>
 some r2
 else
 (
 if y1==1 then
 some (y1==1)
 else
 if y1==2 then
 some (y1==2)
 else
 some (y1==3):Option Bool).bind λs2 =>
 if s2 then
 if y3.1==(y1 != 3) then
 (zLi y0 y1 y2 y3).bind λr3 =>
 some r3
 else
 (zMO y0 y1 y2 y3).bind λr4 =>
 some r4
 else
 some 4
def zNN (y0:qE): Option (List Int) :=
 (zEd y0).bind λr1 =>
 some r1.2
def zDw (y0:uI)(y1:Int): Option Int :=
 if decide (0<y1) then
 (zC y0.1 (zH (y1-1))).bind λx1 =>
 some x1
 else
 (zC y0.1 (zH ((zH (0-y1))-1))).bind λx2 =>
 some (zH (0-x2))
def zDk (x1:List Int)(y0:uI)(s1:Int)(s2:Int×Int): Option ((Int×Int)⊕(Int⊕Int)) :=
 if decide (s2.2<(len x1)) then
 (zC x1 s2.2).bind λx2 =>
 (zDw y0 x2).bind λr1 =>
 if r1==1 then
 some (.inr (.inl (zH (s1+1))))
 else
 if r1==0 then
 if s2.1==0 then
 some (.inl (x2,zH (s2.2+1)))
 else
 some (.inl (s2.1,zH (s2.2+1)))
 else
 some (.inl (s2.1,zH (s2.2+1)))
 else
 some (.inr (.inr s2.1))
def zFd (y0:uI)(s1:Int): Option (Int⊕Int) :=
 if decide (s1<(len y0.2.1)) then
 (zC y0.2.1 s1).bind λx1 =>
 zN (zDk x1 y0 s1) (0,0)
 else
 some (.inr 0)
def zEy (y0:uI): Option Int :=
 zN (zFd y0) 0
def zLD (y0:zD): Option zD:=some y0
def zD1 (y0:zD)(y1:Int): Option (Unit×zD) :=
 (some ():Option Unit).bind λ_ =>
 (vT (decide (0≤y1)&&decide (y1<256)&&decide (len y0+1<4294967296))).bind λ_ =>
 some ((),y0++[UInt8.ofNat y1.toNat])
def zCx (y0:zD)(y1:zD): Option (Int×Unit×zD):=wstrM y0 y1
def zKZ (y0:List Int)(s2:Int×zD): Option ((Int×zD)⊕zD) :=
 if decide (s2.1<(len y0)) then
 (zC y0 s2.1).bind λx1 =>
 (zDV x1).bind λr1 =>
 (zCx s2.2 r1).bind λr2 =>
 (zD1 r2.2.2 32).bind λr3 =>
 some (.inl (zH (s2.1+1),r3.2))
 else
 some (.inr s2.2)
def zRQ (y0:List Int): Option zD :=
 (zN (zKZ y0) (0,([]:zD)):Option zD).bind λs1 =>
 (zLD s1).bind λr4 =>
 some r4
def zCn (y0:uI)(y1:Int)(y2:Int)(y3:Int): Option (Int×(List (List Int))×(List (zD×Int))×(List yT)×Bool) :=
 (
 if decide (y3<0) then
 some (y2,y1,zH (0-y3))
 else
 some (y1,y2,y3):Option (Int×Int×Int)).bind λs1 =>
 (zC y0.2.1 s1.1).bind λx1 =>
 (zC y0.2.1 s1.2.1).bind λx2 =>
 (zFP x1 x2 s1.2.2).bind λr1 =>
 if(!r1.2)||((len y0.2.2.2.1)==20000) then
 some ((-1),y0.2.1,y0.2.2.1,y0.2.2.2.1,true)
 else
 (zRQ r1.1).bind λr2 =>
 if(Option.isSome (xU y0.2.2.1 r2))&&(decide (0<(len r1.1))) then
 some ((xU y0.2.2.1 r2).getD 0,y0.2.1,y0.2.2.1,y0.2.2.2.1,y0.2.2.2.2.2)
 else
 (qF y0.2.2.2.1 ([(s1.1,s1.2.1,s1.2.2)]:List yT)).bind λx3 =>
 (qF y0.2.1 ([r1.1]:List (List Int))).bind λx4 =>
 some (zH ((len x4)-1),x4,z8t y0.2.2.1 r2 (zH ((len x4)-1)),x3,y0.2.2.2.2.2)
def zEa (x1:List Int)(y0:uI)(s1:Int×Int×Int)(s3:Int×Int): Option ((Int×Int)⊕(Int⊕((Int×Int×Int)⊕(Int×Int)))) :=
 if decide (s3.2<(len x1)) then
 (zC x1 s3.2).bind λx2 =>
 (zDw y0 x2).bind λr1 =>
 (
 if decide (0<r1) then
 some (decide (0<r1))
 else
 some ((r1==0)&&(s3.1 != 0)):Option Bool).bind λs4 =>
 if s4 then
 some (.inr (.inr (.inl (s1.1,s1.2.1,zH (s1.2.2+1)))))
 else
 if r1==0 then
 some (.inl (x2,zH (s3.2+1)))
 else
 some (.inl (s3.1,zH (s3.2+1)))
 else
 some (.inr (.inl s3.1))
def zGh (y0:uI)(s1:Int×Int×Int): Option ((Int×Int×Int)⊕(Int×Int)) :=
 if decide (s1.2.2<(len y0.2.1)) then
 (zC y0.2.1 s1.2.2).bind λx1 =>
 vH (zN (zEa x1 y0 s1) (0,0):Option (Int⊕((Int×Int×Int)⊕(Int×Int)))) λs2 =>
 if s2==0 then
 some (.inr (s1.2.2,0))
 else
 if decide (s1.1<0) then
 some (.inl (s1.2.2,s2,zH (s1.2.2+1)))
 else
 some (.inl (s1.1,s1.2.1,zH (s1.2.2+1)))
 else
 some (.inr (s1.1,s1.2.1))
def zFv (y0:uI): Option (Int×Int) :=
 zN (zGh y0) ((-1),0,0)
def zEr (y0:uI)(y1:Int)(y2:Int): Option (List Int) :=
 (
 if decide (y1<0) then
 some (zH (0-y1),zH (0-y2))
 else
 some (y1,y2):Option (Int×Int)).bind λs1 =>
 (zC y0.1 (zH (s1.1-1))).bind λ_ =>
 some (List.set y0.1 (Int.toNat (zH (s1.1-1))) s1.2)
def zBX (rec_proof_search_find_2:uI->Option (Int×(List Int)×(List (List Int))×(List (zD×Int))×(List yT)×Int×Bool))(rec_proof_search_under_4:uI->Int->Option (Int×(List Int)×(List (List Int))×(List (zD×Int))×(List yT)×Int×Bool))(y0:uI): Option (Int×(List Int)×(List (List Int))×(List (zD×Int))×(List yT)×Int×Bool) :=
 (
 if decide (9000<(zH (y0.2.2.2.2.1+1))) then
 some (zH (y0.2.2.2.2.1+1),true)
 else
 some (zH (y0.2.2.2.2.1+1),y0.2.2.2.2.2):Option (Int×Bool)).bind λs1 =>
 if s1.2 then
 some ((-1),y0.1,y0.2.1,y0.2.2.1,y0.2.2.2.1,s1.1,s1.2)
 else
 (zFv (y0.1,y0.2.1,y0.2.2.1,y0.2.2.2.1,s1.1,s1.2)).bind λr1 =>
 if(decide (0≤r1.1))&&(r1.2==0) then
 some (r1.1,y0.1,y0.2.1,y0.2.2.1,y0.2.2.2.1,s1.1,s1.2)
 else
 vH (
 if decide (r1.1<0) then
 (zEy (y0.1,y0.2.1,y0.2.2.1,y0.2.2.2.1,s1.1,s1.2)).bind λr2 =>
 if r2==0 then
 some (.inr ((-1),y0.1,y0.2.1,y0.2.2.1,y0.2.2.2.1,s1.1,s1.2))
 else
 some (.inl r2)
 else
 some (.inl r1.2):Option (Int⊕(Int×(List Int)×(List (List Int))×(List (zD×Int))×(List yT)×Int×Bool))) λs2 =>
 (rec_proof_search_under_4 (y0.1,y0.2.1,y0.2.2.1,y0.2.2.2.1,s1.1,s1.2) s2).bind λr3 =>
 (
 if decide (r3.1<0) then
 some true
 else
 if r3.2.2.2.2.2.2 then
 some true
 else
 (zC r3.2.2.1 r3.1).bind λx1 =>
 (zAK x1 (zH (0-s2))).bind λr4 =>
 some (!r4):Option Bool).bind λs3 =>
 if s3 then
 some (r3.1,r3.2.1,r3.2.2.1,r3.2.2.2.1,r3.2.2.2.2.1,r3.2.2.2.2.2.1,r3.2.2.2.2.2.2)
 else
 vH (
 if decide (r1.1<0) then
 (rec_proof_search_under_4 (r3.2.1,r3.2.2.1,r3.2.2.2.1,r3.2.2.2.2.1,r3.2.2.2.2.2.1,r3.2.2.2.2.2.2) (zH (0-s2))).bind λr5 =>
 (
 if decide (r5.1<0) then
 some true
 else
 if r5.2.2.2.2.2.2 then
 some true
 else
 (zC r5.2.2.1 r5.1).bind λx2 =>
 (zAK x2 s2).bind λr6 =>
 some (!r6):Option Bool).bind λs5 =>
 if s5 then
 some (.inr (r5.1,r5.2.1,r5.2.2.1,r5.2.2.2.1,r5.2.2.2.2.1,r5.2.2.2.2.2.1,r5.2.2.2.2.2.2))
 else
 some (.inl (r5.1,r5.2.1,r5.2.2.1,r5.2.2.2.1,r5.2.2.2.2.1,r5.2.2.2.2.2.1,r5.2.2.2.2.2.2))
 else
 some (.inl (r1.1,r3.2.1,r3.2.2.1,r3.2.2.2.1,r3.2.2.2.2.1,r3.2.2.2.2.2.1,r3.2.2.2.2.2.2)):Option ((Int×(List Int)×(List (List Int))×(List (zD×Int))×(List yT)×Int×Bool)⊕(Int×(List Int)×(List (List Int))×(List (zD×Int))×(List yT)×Int×Bool))) λs4 =>
 (zCn (s4.2.1,s4.2.2.1,s4.2.2.2.1,s4.2.2.2.2.1,s4.2.2.2.2.2.1,s4.2.2.2.2.2.2) s4.1 r3.1 s2).bind λr7 =>
 some (r7.1,s4.2.1,r7.2.1,r7.2.2.1,r7.2.2.2.1,s4.2.2.2.2.2.1,r7.2.2.2.2)
def zCD (rec_proof_search_find_2:uI->Option (Int×(List Int)×(List (List Int))×(List (zD×Int))×(List yT)×Int×Bool))(rec_proof_search_under_4:uI->Int->Option (Int×(List Int)×(List (List Int))×(List (zD×Int))×(List yT)×Int×Bool))(y0:uI)(y1:Int): Option (Int×(List Int)×(List (List Int))×(List (zD×Int))×(List yT)×Int×Bool) :=
 (zEr y0 y1 1).bind λr1 =>
 (rec_proof_search_find_2 (r1,y0.2.1,y0.2.2.1,y0.2.2.2.1,y0.2.2.2.2.1,y0.2.2.2.2.2)).bind λr2 =>
 if(decide (0≤r2.1))||r2.2.2.2.2.2.2 then
 (zEr (r2.2.1,r2.2.2.1,r2.2.2.2.1,r2.2.2.2.2.1,r2.2.2.2.2.2.1,r2.2.2.2.2.2.2) y1 0).bind λr3 =>
 some (r2.1,r3,r2.2.2.1,r2.2.2.2.1,r2.2.2.2.2.1,r2.2.2.2.2.2.1,r2.2.2.2.2.2.2)
 else
 some (r2.1,r2.2.1,r2.2.2.1,r2.2.2.2.1,r2.2.2.2.2.1,r2.2.2.2.2.2.1,r2.2.2.2.2.2.2)
mutual
def zAC:Nat->uI->Option (Int×(List Int)×(List (List Int))×(List (zD×Int))×(List yT)×Int×Bool)
 | 0=>λ_=>none
 | k+1=>λy0=>zBX (zAC k) (zAB k) y0
def zAB:Nat->uI->Int->Option (Int×(List Int)×(List (List Int))×(List (zD×Int))×(List yT)×Int×Bool)
 | 0=>λ_ _=>none
 | k+1=>λy0 y1=>zCD (zAC k) (zAB k) y0 y1
end
def zFu (y0:uI): Option (Int×(List Int)×(List (List Int))×(List (zD×Int))×(List yT)×Int×Bool):=z6A λk=>zAC k y0
def zRs (y0:uI)(y1:Int): Option (Int×(List Int)×(List (List Int))×(List (zD×Int))×(List yT)×Int×Bool):=z6A λk=>zAB k y0 y1
def zEK (y0:uI)(s1:(List Bool)×Int): Option (((List Bool)×Int)⊕(List Bool)) :=
 if decide (s1.2<(len y0.1)) then
 (zC y0.1 s1.2).bind λx1 =>
 (qF s1.1 ([decide (0<x1)]:List Bool)).bind λx2 =>
 some (.inl (x2,zH (s1.2+1)))
 else
 some (.inr s1.1)
def zFZ (y0:uI): Option (List Bool) :=
 zN (zEK y0) (([]:List Bool),0)
def zKa (y1:List (List Int))(s2:Int): Option (Int⊕(Unit⊕(zNr×Int))) :=
 if decide (s2<(len y1)) then
 (zC y1 s2).bind λx1 =>
 if(len x1)==0 then
 some (.inr (.inr ((false,([]:List Bool),([]:List yT)),0)))
 else
 some (.inl (zH (s2+1)))
 else
 some (.inr (.inl ()))
def zLg (y0:Int)(y1:List (List Int)): Option (zNr×Int) :=
 (zII y0 y1).bind λr1 =>
 if r1 != 0 then
 some ((false,([]:List Bool),([]:List yT)),r1)
 else
 vH (zN (zKa y1) 0:Option (Unit⊕(zNr×Int))) λ_ =>
 (
 (mkS y0 y0 (0:Int)).bind λx2 =>
 (zBy y1).bind λr2 =>
 some (x2,r2,([]:List (zD×Int)),([]:List yT),0,false):Option uI).bind λs3 =>
 (zFu s3).bind λr7 =>
 if r7.2.2.2.2.2.2 then
 some ((false,([]:List Bool),([]:List yT)),2)
 else
 if decide (r7.1<0) then
 (zFZ (r7.2.1,r7.2.2.1,r7.2.2.2.1,r7.2.2.2.2.1,r7.2.2.2.2.2.1,r7.2.2.2.2.2.2)).bind λr8 =>
 some ((true,r8,([]:List yT)),0)
 else
 some ((false,([]:List Bool),r7.2.2.2.2.1),0)
def zHn (y0:Int)(y1:List Bool)(s1:(List Int)×Int): Option (((List Int)×Int)⊕(List Int)) :=
 if decide (s1.2<y0) then
 (zC y1 s1.2).bind λx1 =>
 if x1 then
 (qF s1.1 ([1]:List Int)).bind λx2 =>
 some (.inl (x2,zH (s1.2+1)))
 else
 (zC y1 (zH (y0+s1.2))).bind λx3 =>
 if x3 then
 (qF s1.1 ([2]:List Int)).bind λx4 =>
 some (.inl (x4,zH (s1.2+1)))
 else
 (qF s1.1 ([3]:List Int)).bind λx5 =>
 some (.inl (x5,zH (s1.2+1)))
 else
 some (.inr s1.1)
def zKb (y0:Int)(y1:List Bool): Option (List Int) :=
 zN (zHn y0 y1) (([]:List Int),0)
def zEh (y0:qE)(y1:Int)(y2:Int): Option (zHy×Int) :=
 (zGk y0 y2).bind λr1 =>
 if r1 != 0 then
 some ((false,([]:List Int),([]:List Int),([]:List yT)),r1)
 else
 if y1==4 then
 (zDb y0).bind λr2 =>
 (zC r2 y2).bind λx1 =>
 (zNN y0).bind λr3 =>
 some ((x1==1,r2,r3,([]:List yT)),0)
 else
 (zIS y0 y1 y2).bind λr4 =>
 if r4.2.2 != 0 then
 some ((false,([]:List Int),([]:List Int),([]:List yT)),r4.2.2)
 else
 (zLg r4.1 r4.2.1).bind λr5 =>
 if r5.2 != 0 then
 some ((false,([]:List Int),([]:List Int),([]:List yT)),2)
 else
 if r5.1.1 then
 (zKb y0.1 r5.1.2.1).bind λr6 =>
 some ((y1 != 3,r6,([]:List Int),([]:List yT)),0)
 else
 some ((y1==3,([]:List Int),([]:List Int),r5.1.2.2),0)
def zG8 (r2:zBv×Bool×Int)(s2:(List zI)×(List zI)×Int): Option (((List zI)×(List zI)×Int)⊕(((List zI)×(List zI))⊕Bool)) :=
 if decide (s2.2.2<(len r2.1.2.1)) then
 (zC r2.1.2.1 s2.2.2).bind λx1 =>
 (zEh r2.1.2.2.2 4 s2.2.2).bind λr5 =>
 (zEh r2.1.2.2.2 1 s2.2.2).bind λr6 =>
 (
 if r5.2 != 0 then
 some true
 else
 if r6.2 != 0 then
 some true
 else
 (zEU r2.1.2.2.2 4 s2.2.2 r5.1).bind λr7 =>
 if r7 != 0 then
 some true
 else
 (zEU r2.1.2.2.2 1 s2.2.2 r6.1).bind λr8 =>
 if r8 != 0 then
 some true
 else
 if r5.1.1 then
 some (!r6.1.1)
 else
 some false:Option Bool).bind λs3 =>
 if s3 then
 some (.inr (.inr false))
 else
 (
 if r5.1.1 then
 (qF s2.1 ([x1.2.2.2]:List zI)).bind λx2 =>
 some x2
 else
 some s2.1:Option (List zI)).bind λs4 =>
 if r6.1.1 then
 (qF s2.2.1 ([x1.2.2.2]:List zI)).bind λx3 =>
 some (.inl (s4,x3,zH (s2.2.2+1)))
 else
 some (.inl (s4,s2.2.1,zH (s2.2.2+1)))
 else
 some (.inr (.inl (s2.1,s2.2.1)))
def zJj (y0:List Int): Option Bool :=
 (zT8 y0).bind λr1 =>
 (zM4 r1 6).bind λr2 =>
 if !r2.2.1 then
 some false
 else
 (zBU r2.1 1 true).bind λr3 =>
 (zBU r2.1 3 false).bind λr4 =>
 if(r3.2 != 0)||(r4.2 != 0) then
 some false
 else
 vH (zN (zG8 r2) (([]:List zI),([]:List zI),0):Option (((List zI)×(List zI))⊕Bool)) λs1 =>
 (
 (zK4 s1.1).bind λr9 =>
 (zMj r9 r3.1).bind λr10 =>
 if r10 then
 (zK4 s1.2).bind λr11 =>
 (zMj r11 r4.1).bind λr12 =>
 if r12 then
 zLR.bind λr13 =>
 some r13
 else
 some false
 else
 some false:Option Bool).bind λs5 =>
 some s5
end
end Go.GD
