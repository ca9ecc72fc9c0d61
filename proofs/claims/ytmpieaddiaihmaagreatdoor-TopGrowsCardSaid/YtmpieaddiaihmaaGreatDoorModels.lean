/- A part. Conditions: none. -/
import Derived.Test.YtmpieaddiaihmaaGreatDoorLib
namespace Go.GD
set_option autoImplicit false
noncomputable section
set_option linter.unusedVariables false
abbrev uG:=(List Int)×Int
abbrev zI:=Bool×zG
abbrev wM:=zI×Int×Int×zG
abbrev qC:=zG×Bool×Int×(List zI)×zI
abbrev wE:=zG×Int×zI
abbrev zM:=(List wM)×(List qC)×(List wE)
abbrev zD:=Int×Int×(List Int)×zI
abbrev qQ:=Int×Int×Int×Int
abbrev zT:=Int×Int
abbrev zY:=Int×(List zT)
abbrev zCL:=zM×(List zD)×(List qQ)×zY
abbrev yG:=Int×Int
abbrev uP:=zM×(List zD)×(List zD)×Int
abbrev zDo:=zY×(List Int)
abbrev zL0:=Int×Int×Int
abbrev yN:=Int×(List (List Int))×(List Int)×(List (List Int))×Bool
abbrev zAG:=(List zG)×Bool
def zAl:List zG:=[[],[97,120,105,111,109],[112,114,101,109,105,115,101],[97,115,115,117,109,101]]
def vA:List Int:=[0,1,56,2,57,49,28,3,61,58,42,50,38,29,17,4,62,47,59,36,45,43,51,22,53,39,33,30,24,18,12,5,63,55,48,27,60,41,37,16,46,35,44,21,52,32,23,11,54,26,40,15,34,20,31,10,25,14,19,9,13,8,7,6]
def zAu (y0:List zD)(y1:Int): Option Bool :=
 some ((decide (0≤y1))&&(decide (y1<(len y0))))
def zDF (y0:List zI): Option (List zI) :=
 (qD ([]:List zI) y0).bind fun x1 =>
 some x1
def zNL (y0:List zI)(s1:Int)(s3:(List zI)×Int×Int): Option (((List zI)×Int×Int)⊕((List zI)×Int)) :=
 if decide (s3.2.2<((Int.toNat (((List.length y0:Nat):Int)-s1):Nat):Int)) then
 (zZQ s3.1 s1 s3.2.2).bind fun x3 =>
 (zZQ s3.1 s1 (zF (s3.2.2-1))).bind fun x4 =>
 if !(x3==x4) then
 (zZQ s3.1 s1 s3.2.2).bind fun x5 =>
 (zB s3.1 s3.2.1).bind fun _ =>
 some (.inl (List.set s3.1 (Int.toNat s3.2.1) x5,zF (s3.2.1+1),zF (s3.2.2+1)))
 else
 some (.inl (s3.1,s3.2.1,zF (s3.2.2+1)))
 else
 some (.inr (s3.1,s3.2.1))
def zER (y0:List zI)(s1:Int): Option (Int⊕(List zI)) :=
 if decide (s1<(len y0)) then
 (zB y0 s1).bind fun x1 =>
 (zB y0 (zF (s1-1))).bind fun x2 =>
 if x1==x2 then
 (vJ (decide (0≤s1)&&decide (s1≤len y0))).bind fun _ =>
 (zO (zNL y0 s1) (y0,s1,1):Option ((List zI)×Int)).bind fun s2 =>
 (vJ (decide (0≤s2.2)&&decide (s2.2≤len s2.1))).bind fun _ =>
 (sub (zDV s2.1 s2.2 (false,[])) 0 s2.2).bind fun x7 =>
 some (.inr x7)
 else
 some (.inl (zF (s1+1)))
 else
 some (.inr y0)
def zBd (y0:List zI): Option (List zI) :=
 if decide ((len y0)<2) then
 some y0
 else
 zO (zER y0) 1
def zFH (y0:zG): Option Bool :=
 some (!(y0==y0))
def zF8 (y0:zG)(y1:zG): Option Int :=
 (zFH y0).bind fun r1 =>
 (zFH y1).bind fun r2 =>
 if r1 then
 if r2 then
 some 0
 else
 some (-1)
 else
 if r2 then
 some 1
 else
 if uF y0 y1 then
 some (-1)
 else
 if !(uF y0 y1||y0==y1) then
 some 1
 else
 some 0
def zBu (y0:zI)(y1:zI): Option Int :=
 (zF8 y0.2 y1.2).bind fun r1 =>
 if(r1 != 0)||(y0.1==y1.1) then
 some r1
 else
 if y1.1 then
 some (-1)
 else
 some 1
def zAD (y0:List zI): Option (List zI):=z0j zBu y0
def zDf (y0:List zI): Option (List zI) :=
 (zDF y0).bind fun r1 =>
 (zAD r1).bind fun r2 =>
 (zBd r2).bind fun r3 =>
 some r3
def zDP (y1:List Int)(y0:List zD)(s2:(List zI)×Int): Option (((List zI)×Int)⊕(List zI)) :=
 if decide (s2.2<(len y1)) then
 (zB y1 s2.2).bind fun x1 =>
 (zAu y0 x1).bind fun r1 =>
 if r1 then
 (zB y0 x1).bind fun x2 =>
 (qD s2.1 ([x2.2.2.2]:List zI)).bind fun x3 =>
 some (.inl (x3,zF (s2.2+1)))
 else
 some (.inl (s2.1,zF (s2.2+1)))
 else
 some (.inr s2.1)
def zBI (y0:List zD)(y1:List Int): Option (List zI) :=
 (zO (zDP y1 y0) (([]:List zI),0):Option (List zI)).bind fun s1 =>
 (zDf s1).bind fun r2 =>
 some r2
def zEd:Option Unit :=
 some ()
def zES:Option Unit :=
 some ()
def zFu:Option Unit :=
 some ()
def zGU:Option Unit :=
 some ()
def zGX:Option Unit :=
 some ()
def zEw:Option Unit :=
 zGX.bind fun _ =>
 some ()
def zFX:Option Unit :=
 some ()
def zIZ:Option Unit :=
 zFX.bind fun _ =>
 some ()
def zFV:Option Unit :=
 some ()
def zIR:Option Unit :=
 zFV.bind fun _ =>
 some ()
def zMJ:Option Unit :=
 zEw.bind fun _ =>
 zGU.bind fun _ =>
 zEd.bind fun _ =>
 zFu.bind fun _ =>
 zES.bind fun _ =>
 zIR.bind fun _ =>
 zIZ.bind fun _ =>
 some ()
def zBk (y0:Int): Option Int :=
 if y0==0 then
 some 64
 else
 (zB vA (yW .u64 (IntKind.u64.wrap ((vY .u64 y0 (IntKind.u64.wrap (0-y0)))*285870213051353865)) 58)).bind fun x1 =>
 some (zF (x1))
def zFt (s1:Int×(List Int)): Option ((Int×(List Int))⊕(List Int)) :=
 if s1.1 != 0 then
 (zBk s1.1).bind fun r1 =>
 (qD s1.2 ([r1]:List Int)).bind fun x1 =>
 some (.inl (vY .u64 s1.1 (IntKind.u64.wrap (s1.1-1)),x1))
 else
 some (.inr s1.2)
def zGW (y0:Int): Option (List Int) :=
 zO (zFt) (y0,([]:List Int))
def zJa (y0:zY)(s1:(List Int)×Int): Option (((List Int)×Int)⊕(List Int)) :=
 if decide (s1.2<(len y0.2)) then
 (zB y0.2 s1.2).bind fun x2 =>
 (zB s1.1 x2.1).bind fun x3 =>
 (z80 .u64 1 x2.2).bind fun x4 =>
 (zB s1.1 x2.1).bind fun _ =>
 some (.inl (List.set s1.1 (Int.toNat x2.1) (bor .u64 x3 x4),zF (s1.2+1)))
 else
 some (.inr s1.1)
def zGn (y0:zY): Option (List Int) :=
 (mkS y0.1 y0.1 (0:Int)).bind fun x1 =>
 zO (zJa y0) (x1,0)
def zKO (y0:Int): Option Bool :=
 some (y0 != y0)
def zAh (y0:Int)(y1:Int): Option Int :=
 (zKO y0).bind fun r1 =>
 (zKO y1).bind fun r2 =>
 if r1 then
 if r2 then
 some 0
 else
 some (-1)
 else
 if r2 then
 some 1
 else
 if decide (y0<y1) then
 some (-1)
 else
 if decide (y1<y0) then
 some 1
 else
 some 0
def zXP (y0:List Int)(s1:Int): Option (Int⊕Int) :=
 if decide (s1<(len y0)) then
 (zB y0 s1).bind fun x1 =>
 if x1 != 0 then
 some (.inr x1)
 else
 some (.inl (zF (s1+1)))
 else
 some (.inr 0)
def zGV (y0:List Int): Option Int :=
 zO (zXP y0) 0
def zCj (y0:zT)(y1:zT): Option Int :=
 (zAh y0.1 y1.1).bind fun r1 =>
 (zAh y0.2 y1.2).bind fun r2 =>
 (zGV ([r1,r2]:List Int)).bind fun r3 =>
 some r3
def zBY (y0:zY)(s1:Int): Option (Int⊕Int) :=
 if decide (s1<(len y0.2)) then
 (zB y0.2 s1).bind fun x1 =>
 if(decide ((if x1.2<x1.1 then x1.2 else x1.1)<0))||(decide (y0.1≤(if x1.2 > x1.1 then x1.2 else x1.1))) then
 some (.inr 1)
 else
 (
 if decide (0<s1) then
 (zB y0.2 (zF (s1-1))).bind fun x2 =>
 (zCj x2 x1).bind fun r1 =>
 some (decide (0≤r1))
 else
 some false:Option Bool).bind fun s2 =>
 if s2 then
 some (.inr 8)
 else
 some (.inl (zF (s1+1)))
 else
 some (.inr 0)
def zA2 (y0:zY): Option Int :=
 if(decide (y0.1<0))||(decide (40<y0.1)) then
 some 1
 else
 zO (zBY y0) 0
def zDR (y0:zY): Option zY :=
 (zA2 y0).bind fun r1 =>
 if r1 != 0 then
 some (0,([]:List zT))
 else
 some y0
def zCU (y0:zY)(y1:Int): Option (List Int) :=
 (zDR y0).bind fun r1 =>
 if(decide (y1<0))||(decide (r1.1≤y1)) then
 some ([]:List Int)
 else
 (zGn r1).bind fun r2 =>
 (zB r2 y1).bind fun x1 =>
 (zGW x1).bind fun r3 =>
 some r3
def zPA (y0:Int)(y1:Int): Option (Int×Int) :=
 some (IntKind.u64.wrap ((IntKind.u64.wrap ((IntKind.u64.wrap ((yW .u64 y0 32)*(yW .u64 y1 32)))+(yW .u64 (IntKind.u64.wrap ((IntKind.u64.wrap ((yW .u64 y0 32)*(vY .u64 y1 4294967295)))+(yW .u64 (IntKind.u64.wrap ((vY .u64 y0 4294967295)*(vY .u64 y1 4294967295))) 32))) 32)))+(yW .u64 (IntKind.u64.wrap ((vY .u64 (IntKind.u64.wrap ((IntKind.u64.wrap ((yW .u64 y0 32)*(vY .u64 y1 4294967295)))+(yW .u64 (IntKind.u64.wrap ((vY .u64 y0 4294967295)*(vY .u64 y1 4294967295))) 32))) 4294967295)+(IntKind.u64.wrap ((vY .u64 y0 4294967295)*(yW .u64 y1 32))))) 32)),IntKind.u64.wrap (y0*y1))
def zMs (y0:Int)(y1:Int): Option (Int×Int) :=
 (zPA y0 y1).bind fun r1 =>
 some (r1.1,r1.2)
def zHg (x1:List Int)(s3:(List Int)×Int): Option (((List Int)×Int)⊕(List Int)) :=
 if decide (s3.2<(len x1)) then
 (vJ (decide (0≤s3.2)&&decide (s3.2≤len s3.1))).bind fun _ =>
 (sub s3.1 0 s3.2).bind fun x2 =>
 some (.inl (xC s3.1 s3.2 x2,zF (s3.2+((Nat.min (List.length x2) (Int.toNat (((List.length x1:Nat):Int)-s3.2)):Nat):Int))))
 else
 some (.inr s3.1)
def zC2 (y0:List Int)(y1:Int): Option (List Int) :=
 (
 if decide (y1<0) then
 none
 else
 some ():Option Unit).bind fun _ =>
 (zMs (IntKind.u64.wrap (len y0)) (IntKind.u64.wrap (y1))).bind fun r1 =>
 (
 if(decide (0<r1.1))||(decide (9223372036854775807<r1.2)) then
 none
 else
 some ():Option Unit).bind fun _ =>
 (mkS (zF (r1.2)) (zF (r1.2)) (0:Int)).bind fun x1 =>
 zO (zHg x1) (xC x1 0 y0,((Nat.min (List.length y0) (List.length x1):Nat):Int))
def zED (y0:zY)(s3:Int×(List Int)): Option ((Int×(List Int))⊕(List Int)) :=
 if decide (s3.1<(len y0.2)) then
 (zB y0.2 s3.1).bind fun x4 =>
 (vJ (decide (0≤x4.2)&&decide (x4.2<40))).bind fun _ =>
 (vJ (decide (0≤x4.2)&&decide (x4.2<40))).bind fun _ =>
 some (.inl (zF (s3.1+1),tG 40 s3.2 x4.2 (zF ((uB s3.2 x4.2)+1))))
 else
 some (.inr s3.2)
def zEW (y0:zY)(s2:(List Int))(s5:(List Int)×Int): Option (((List Int)×Int)⊕(List Int)) :=
 if decide (s5.2<y0.1) then
 (vJ (decide (0≤s5.2)&&decide (s5.2<40))).bind fun _ =>
 if(uB s2 s5.2)==0 then
 (qD s5.1 ([s5.2]:List Int)).bind fun x5 =>
 some (.inl (x5,zF (s5.2+1)))
 else
 some (.inl (s5.1,zF (s5.2+1)))
 else
 some (.inr s5.1)
def zEM (s6:(List Int)×(List Int)×(List Int)×Int×(List Int))(s8:(List Int)×(List Int)×Int): Option (((List Int)×(List Int)×Int)⊕((List Int)×(List Int))) :=
 if decide (s8.2.2<(len s6.2.2.1)) then
 (zB s6.2.2.1 s8.2.2).bind fun x6 =>
 (zB s8.1 x6).bind fun _ =>
 (zB s8.2.1 x6).bind fun _ =>
 some (.inl (List.set s8.1 (Int.toNat x6) 1,List.set s8.2.1 (Int.toNat x6) s6.2.2.2.1,zF (s8.2.2+1)))
 else
 some (.inr (s8.1,s8.2.1))
def zEN (r5:(List Int))(s10:(List Int)×(List Int)×(List Int)×Int×(List Int))(x10:Int)(s6:(List Int)×(List Int)×(List Int)×Int×(List Int))(s11:(List Int)×Int×(List Int)): Option (((List Int)×Int×(List Int))⊕(((List Int)×(List Int)×(List Int)×Int×(List Int))⊕(((List Int)×(List Int)×(List Int)×Int×(List Int))⊕(((List Int)×(List Int)×(List Int)×Int×(List Int))⊕((List Int)×(List Int)))))) :=
 if decide (s11.2.1<(len r5)) then
 (zB r5 s11.2.1).bind fun x14 =>
 (vJ (decide (0≤x14)&&decide (x14<40))).bind fun _ =>
 (vJ (decide (0≤x14)&&decide (x14<40))).bind fun _ =>
 (
 (vJ (decide (0≤x14)&&decide (x14<40))).bind fun _ =>
 if(uB (tG 40 s11.2.2 x14 (zF ((uB s11.2.2 x14)-1))) x14)==0 then
 (zB (List.set s10.1 (Int.toNat x10) 2) x14).bind fun x15 =>
 some (x15==3)
 else
 some false:Option Bool).bind fun s12 =>
 if s12 then
 (qD s11.1 ([x14]:List Int)).bind fun x16 =>
 some (.inl (x16,zF (s11.2.1+1),tG 40 s11.2.2 x14 (zF ((uB s11.2.2 x14)-1))))
 else
 some (.inl (s11.1,zF (s11.2.1+1),tG 40 s11.2.2 x14 (zF ((uB s11.2.2 x14)-1))))
 else
 some (.inr (.inl (List.set s10.1 (Int.toNat x10) 2,List.set s10.2.1 (Int.toNat x10) s6.2.2.2.1,s11.1,zF (s10.2.2.2.1+1),s11.2.2)))
def zBm (r4:(List Int))(y0:zY)(s6:(List Int)×(List Int)×(List Int)×Int×(List Int))(s9:(List Int)×(List Int)×(List Int)×Int×(List Int))(s10:(List Int)×(List Int)×(List Int)×Int×(List Int)): Option (((List Int)×(List Int)×(List Int)×Int×(List Int))⊕(((List Int)×(List Int)×(List Int)×Int×(List Int))⊕(((List Int)×(List Int)×(List Int)×Int×(List Int))⊕((List Int)×(List Int))))) :=
 if decide (s10.2.2.2.1<(len r4)) then
 (zB r4 s10.2.2.2.1).bind fun x10 =>
 (zB s10.1 x10).bind fun x11 =>
 if x11 != 3 then
 some (.inl (s10.1,s10.2.1,s10.2.2.1,zF (s10.2.2.2.1+1),s10.2.2.2.2))
 else
 (zB s10.1 x10).bind fun _ =>
 (zB s10.2.1 x10).bind fun _ =>
 (zCU y0 x10).bind fun r5 =>
 zO (zEN r5 s10 x10 s6) (s10.2.2.1,0,s10.2.2.2.2)
 else
 some (.inr (.inl (s10.1,s10.2.1,s10.2.2.1,zF (s9.2.2.2.1+1),s10.2.2.2.2)))
def zC3 (s6:(List Int)×(List Int)×(List Int)×Int×(List Int))(y0:zY)(s9:(List Int)×(List Int)×(List Int)×Int×(List Int)): Option (((List Int)×(List Int)×(List Int)×Int×(List Int))⊕(((List Int)×(List Int)×(List Int)×Int×(List Int))⊕((List Int)×(List Int)))) :=
 if decide (s9.2.2.2.1<(len s6.2.2.1)) then
 (zB s6.2.2.1 s9.2.2.2.1).bind fun x9 =>
 (zCU y0 x9).bind fun r4 =>
 zO (zBm r4 y0 s6 s9) (s9.1,s9.2.1,s9.2.2.1,0,s9.2.2.2.2)
 else
 some (.inr (.inl (s9.1,s9.2.1,s9.2.2.1,zF (s6.2.2.2.1+1),s9.2.2.2.2)))
def zB3 (y0:zY)(s6:(List Int)×(List Int)×(List Int)×Int×(List Int)): Option (((List Int)×(List Int)×(List Int)×Int×(List Int))⊕((List Int)×(List Int))) :=
 if decide (0<(len s6.2.2.1)) then
 (zO (zEM s6) (s6.1,s6.2.1,0):Option ((List Int)×(List Int))).bind fun s7 =>
 zO (zC3 s6 y0) (s7.1,s7.2,([]:List Int),0,s6.2.2.2.2)
 else
 some (.inr (s6.1,s6.2.1))
def zDj (y0:zY): Option ((List Int)×(List Int)) :=
 (
 (zC2 ([3]:List Int) y0.1).bind fun r1 =>
 (mkS y0.1 y0.1 (0:Int)).bind fun x1 =>
 some (r1,x1):Option ((List Int)×(List Int))).bind fun s1 =>
 (zO (zED y0) (0,(List.replicate 40 (0:Int))):Option (List Int)).bind fun s2 =>
 (zO (zEW y0 s2) (([]:List Int),0):Option (List Int)).bind fun s4 =>
 zO (zB3 y0) (s1.1,s1.2,s4,1,s2)
def zCW (y0:zY): Option (List Int) :=
 (zDj y0).bind fun r1 =>
 some r1.1
def zEn (y0:zY): Option ((List Int)×Int) :=
 (zCW y0).bind fun r1 =>
 some (r1,0)
def zAR (y0:zY): Option ((List (List Int))×Int) :=
 (zEn y0).bind fun r1 =>
 if r1.2 != 0 then
 some (([]:List (List Int)),r1.2)
 else
 some (([r1.1]:List (List Int)),0)
def zGk (y0:List Int)(y1:Int)(s1:(List Int)×Int): Option (((List Int)×Int)⊕(List Int)) :=
 if decide (s1.2<(len y0)) then
 (zB y0 s1.2).bind fun x1 =>
 if x1==y1 then
 (qD s1.1 ([s1.2]:List Int)).bind fun x2 =>
 some (.inl (x2,zF (s1.2+1)))
 else
 some (.inl (s1.1,zF (s1.2+1)))
 else
 some (.inr s1.1)
def zA3 (y0:List Int)(y1:Int): Option (List Int) :=
 zO (zGk y0 y1) (([]:List Int),0)
def zAS (r1:(List (List Int))×Int)(s1:(List (List Int))×Int): Option (((List (List Int))×Int)⊕((List (List Int))×Int)) :=
 if decide (s1.2<(len r1.1)) then
 (zB r1.1 s1.2).bind fun x1 =>
 (zA3 x1 1).bind fun r2 =>
 (qD s1.1 ([r2]:List (List Int))).bind fun x2 =>
 some (.inl (x2,zF (s1.2+1)))
 else
 some (.inr (s1.1,0))
def zAa (y0:zY): Option ((List (List Int))×Int) :=
 (zAR y0).bind fun r1 =>
 if r1.2 != 0 then
 some (([]:List (List Int)),r1.2)
 else
 zO (zAS r1) (([]:List (List Int)),0)
def zQy (y1:List Int)(y0:zY)(s1:Int): Option (Int⊕Bool) :=
 if decide (s1<(len y1)) then
 (zB y1 s1).bind fun x1 =>
 (
 if decide (x1<0) then
 some true
 else
 if decide (y0.1≤x1) then
 some true
 else
 if decide (0<s1) then
 (zB y1 (zF (s1-1))).bind fun x2 =>
 some (decide (x1≤x2))
 else
 some false:Option Bool).bind fun s2 =>
 if s2 then
 some (.inr false)
 else
 some (.inl (zF (s1+1)))
 else
 some (.inr true)
def zHs (y0:zY)(y1:List Int): Option Bool :=
 zO (zQy y1 y0) 0
def zOu (y0:zY)(y1:Int)(s1:Int×Int): Option ((Int×Int)⊕Int) :=
 if decide (s1.2<(len y0.2)) then
 (zB y0.2 s1.2).bind fun x1 =>
 (shrK .u64 y1 x1.1).bind fun x2 =>
 (z80 .u64 (vY .u64 x2 1) x1.2).bind fun x3 =>
 some (.inl (bor .u64 s1.1 x3,zF (s1.2+1)))
 else
 some (.inr s1.1)
def zCc (y0:zY)(y1:Int): Option Int :=
 zO (zOu y0 y1) (0,0)
def zIp (y0:zY)(y1:Int): Option Bool :=
 (zCc y0 y1).bind fun r1 =>
 some ((vY .u64 r1 y1)==0)
def zSD (s1:Int×(List Int)): Option ((Int×(List Int))⊕(List Int)) :=
 if s1.1 != 0 then
 (zBk s1.1).bind fun r1 =>
 (qD s1.2 ([r1]:List Int)).bind fun x1 =>
 some (.inl (vY .u64 s1.1 (IntKind.u64.wrap (s1.1-1)),x1))
 else
 some (.inr s1.2)
def zI9 (y0:Int): Option (List Int) :=
 zO (zSD) (y0,([]:List Int))
def zRu (y0:List Int)(s1:Int×Int): Option ((Int×Int)⊕Int) :=
 if decide (s1.2<(len y0)) then
 (zB y0 s1.2).bind fun x1 =>
 (z80 .u64 1 x1).bind fun x2 =>
 some (.inl (bor .u64 s1.1 x2,zF (s1.2+1)))
 else
 some (.inr s1.1)
def zId (y0:List Int): Option Int :=
 zO (zRu y0) (0,0)
def zKW (y0:zY): Option Int :=
 (z80 .u64 1 y0.1).bind fun x1 =>
 some (IntKind.u64.wrap (x1-1))
def zIk (y0:zY)(y1:Int): Option Int :=
 (zKW y0).bind fun r1 =>
 (zKW y0).bind fun r2 =>
 (zCc y0 y1).bind fun r3 =>
 (zCc y0 (zQk .u64 r2 r3)).bind fun r4 =>
 some (zQk .u64 r1 r4)
def zFA (y0:Int)(y1:zY): Option Int :=
 (zIk y1 y0).bind fun r1 =>
 some (vY .u64 y0 r1)
def zB7 (y1:zY)(s1:Int): Option (Int⊕Int) :=
 (zFA s1 y1).bind fun r1 =>
 if r1==s1 then
 some (.inr s1)
 else
 some (.inl r1)
def zBD (y0:Int)(y1:zY): Option Int :=
 zO (zB7 y1) y0
def zEP (y0:zY)(y1:List Int): Option ((List Int)×Int) :=
 (zHs y0 y1).bind fun r1 =>
 if !r1 then
 some (([]:List Int),1)
 else
 (zId y1).bind fun r2 =>
 (zIp y0 r2).bind fun r3 =>
 if !r3 then
 some (([]:List Int),10)
 else
 (zBD r2 y0).bind fun r4 =>
 (zI9 r4).bind fun r5 =>
 some (r5,0)
def zSP (y0:List Int)(y1:Int): Option Bool :=
 (
 if decide (0≤y1) then
 if decide (y1<(len y0)) then
 (zB y0 y1).bind fun x1 =>
 some (x1==1)
 else
 some false
 else
 some false:Option Bool).bind fun s1 =>
 some s1
def zOZ (y0:List Int)(y1:Int): Option Bool :=
 (zSP y0 y1).bind fun r1 =>
 some (!r1)
def zHI (y0:List (List Int))(y1:Int)(s1:Int): Option (Int⊕Int) :=
 if decide (s1<(len y0)) then
 (zB y0 s1).bind fun x1 =>
 (zOZ x1 y1).bind fun r1 =>
 if r1 then
 some (.inr s1)
 else
 some (.inl (zF (s1+1)))
 else
 some (.inr (-1))
def zBC (y0:List (List Int))(y1:Int): Option Int :=
 zO (zHI y0 y1) 0
def zAk (y0:List (List Int))(y1:Int): Option Bool :=
 (zBC y0 y1).bind fun r1 =>
 some (decide (0≤r1))
def zKN (y0:List (List Int))(y1:Int): Option Bool :=
 (zAk y0 y1).bind fun r1 =>
 some (!r1)
def zMZ (x1:List Int)(y0:List (List Int))(s1:(List Int)×Int): Option (((List Int)×Int)⊕(List Int)) :=
 if decide (s1.2<(len x1)) then
 (zKN y0 s1.2).bind fun r1 =>
 if r1 then
 (qD s1.1 ([s1.2]:List Int)).bind fun x2 =>
 some (.inl (x2,zF (s1.2+1)))
 else
 some (.inl (s1.1,zF (s1.2+1)))
 else
 some (.inr s1.1)
def zKa (y0:List (List Int)): Option (List Int) :=
 if(len y0)==0 then
 some ([]:List Int)
 else
 (zB y0 0).bind fun x1 =>
 zO (zMZ x1 y0) (([]:List Int),0)
def zA9 (y0:List zT): Option (List zT):=z0j zCj y0
def zHr (r1:zY)(s2:Int×(List zT)): Option ((Int×(List zT))⊕(List zT)) :=
 if decide (s2.1<(len r1.2)) then
 (zB r1.2 s2.1).bind fun x1 =>
 (qD s2.2 ([(x1.2,x1.1)]:List zT)).bind fun x2 =>
 some (.inl (zF (s2.1+1),x2))
 else
 some (.inr s2.2)
def zFw (y0:zY): Option zY :=
 (zDR y0).bind fun r1 =>
 (zO (zHr r1) (0,([]:List zT)):Option (List zT)).bind fun s1 =>
 (zA9 s1).bind fun r2 =>
 some (r1.1,r2)
def zBx (y0:zY)(y1:Int): Option (List Int) :=
 (zFw y0).bind fun r1 =>
 (zCU r1 y1).bind fun r2 =>
 some r2
def zNS (y0:yN)(s1:(List Int)×Int): Option (((List Int)×Int)⊕((List Int)×Int)) :=
 if decide (s1.2<y0.1) then
 (vJ (decide (0≤s1.2)&&decide (s1.2<40))).bind fun _ =>
 if(uB y0.2.2.1 s1.2)==2 then
 (qD s1.1 ([1]:List Int)).bind fun x1 =>
 some (.inl (x1,zF (s1.2+1)))
 else
 if(uB y0.2.2.1 s1.2)==4 then
 (qD s1.1 ([2]:List Int)).bind fun x2 =>
 some (.inl (x2,zF (s1.2+1)))
 else
 if(uB y0.2.2.1 s1.2)==8 then
 (qD s1.1 ([3]:List Int)).bind fun x3 =>
 some (.inl (x3,zF (s1.2+1)))
 else
 some (.inr (([]:List Int),s1.2))
 else
 some (.inr (s1.1,(-1)))
def zCd (y0:yN): Option ((List Int)×Int) :=
 zO (zNS y0) (([]:List Int),0)
def zOT (y1:List Int)(y0:yN)(y2:Int)(s1:(List Int)×Int): Option (((List Int)×Int)⊕(List Int)) :=
 if decide (s1.2<(len y1)) then
 (zB y1 s1.2).bind fun x1 =>
 (vJ (decide (0≤x1)&&decide (x1<40))).bind fun _ =>
 if(vY .i64 (uB y0.2.2.1 x1) y2) != 0 then
 (qD s1.1 ([x1]:List Int)).bind fun x2 =>
 some (.inl (x2,zF (s1.2+1)))
 else
 some (.inl (s1.1,zF (s1.2+1)))
 else
 some (.inr s1.1)
def zEm (y0:yN)(y1:List Int)(y2:Int): Option (List Int) :=
 zO (zOT y1 y0 y2) (([]:List Int),0)
def zNb (x1:List Int)(s2:Int×(List Int)): Option ((Int×(List Int))⊕(Int×(List Int))) :=
 if decide (s2.1<(len x1)) then
 (zB x1 s2.1).bind fun x2 =>
 (vJ (decide (0≤x2)&&decide (x2<40))).bind fun _ =>
 (vJ (decide (0≤x2)&&decide (x2<40))).bind fun _ =>
 some (.inl (zF (s2.1+1),tG 40 s2.2 x2 (vY .i64 (uB s2.2 x2) 4)))
 else
 some (.inr (0,s2.2))
def zNY (x1:List Int)(s4:Int×(List Int)): Option ((Int×(List Int))⊕(List Int)) :=
 if decide (s4.1<(len x1)) then
 (zB x1 s4.1).bind fun x3 =>
 (vJ (decide (0≤x3)&&decide (x3<40))).bind fun _ =>
 (vJ (decide (0≤x3)&&decide (x3<40))).bind fun _ =>
 some (.inl (zF (s4.1+1),tG 40 s4.2 x3 (vY .i64 (uB s4.2 x3) 12)))
 else
 some (.inr s4.2)
def zDv (y0:yN)(y1:Int): Option ((List Int)×(List (List Int))) :=
 (zB y0.2.1 y1).bind fun x1 =>
 (
 (vJ (decide (0≤y1)&&decide (y1<40))).bind fun _ =>
 if(uB y0.2.2.1 y1)==2 then
 zO (zNb x1) (0,y0.2.2.1)
 else
 if(uB y0.2.2.1 y1)==4 then
 some (2,y0.2.2.1)
 else
 if(uB y0.2.2.1 y1)==8 then
 (zO (zNY x1) (0,y0.2.2.1):Option (List Int)).bind fun s3 =>
 some (8,s3)
 else
 some (0,y0.2.2.1):Option (Int×(List Int))).bind fun s1 =>
 (zEm (y0.1,y0.2.1,s1.2,y0.2.2.2.1,y0.2.2.2.2) x1 s1.1).bind fun r1 =>
 if(len r1)==1 then
 (zB r1 0).bind fun x4 =>
 (vJ (decide (0≤x4)&&decide (x4<40))).bind fun _ =>
 (vJ (decide (0≤x4)&&decide (x4<40))).bind fun _ =>
 some (tG 40 s1.2 x4 (vY .i64 (uB s1.2 x4) s1.1),y0.2.2.2.1)
 else
 some (s1.2,y0.2.2.2.1)
def zQO (y1:List Int)(y0:yN)(y2:Int)(s1:(List Int)×Int): Option (((List Int)×Int)⊕(List Int)) :=
 if decide (s1.2<(len y1)) then
 (zB y1 s1.2).bind fun x1 =>
 (vJ (decide (0≤x1)&&decide (x1<40))).bind fun _ =>
 if(vY .i64 (uB y0.2.2.1 x1) y2) != 0 then
 (qD s1.1 ([x1]:List Int)).bind fun x2 =>
 some (.inl (x2,zF (s1.2+1)))
 else
 some (.inl (s1.1,zF (s1.2+1)))
 else
 some (.inr s1.1)
def zC5 (y0:yN)(y1:List Int)(y2:Int): Option (List Int) :=
 zO (zQO y1 y0 y2) (([]:List Int),0)
def zDa (y0:yN)(y1:Int): Option Int :=
 (zB y0.2.1 y1).bind fun x1 =>
 (
 (zC5 y0 x1 4).bind fun r1 =>
 if decide ((len r1)<(len x1)) then
 some (zQk .i64 14 2)
 else
 some 14:Option Int).bind fun s1 =>
 (
 (zC5 y0 x1 2).bind fun r2 =>
 if(len r2)==0 then
 some (zQk .i64 s1 4)
 else
 some s1:Option Int).bind fun s2 =>
 (
 (zC5 y0 x1 12).bind fun r3 =>
 if decide ((len r3)<(len x1)) then
 some true
 else
 (zC5 y0 x1 8).bind fun r4 =>
 some ((len r4)==0):Option Bool).bind fun s3 =>
 if s3 then
 some (zQk .i64 s2 8)
 else
 some s2
def zLb (y0:List Int)(y1:Int)(s1:Int): Option (Int⊕Int) :=
 if decide (s1<(len y0)) then
 (zB y0 s1).bind fun x1 =>
 if y1==x1 then
 some (.inr s1)
 else
 some (.inl (zF (s1+1)))
 else
 some (.inr (-1))
def zEs (y0:List Int)(y1:Int): Option Int :=
 zO (zLb y0 y1) 0
def zAg (y0:List Int)(y1:Int): Option Bool :=
 (zEs y0 y1).bind fun r1 =>
 some (decide (0≤r1))
def zEK (y0:yN)(s3:Int×(List Int)×(List (List Int))): Option ((Int×(List Int)×(List (List Int)))⊕(((List Int)×(List (List Int)))⊕(((List Int)×(List (List Int)))⊕(Bool×(List Int)×(List (List Int)))))) :=
 if decide (s3.1<y0.1) then
 (vJ (decide (0≤s3.1)&&decide (s3.1<40))).bind fun _ =>
 (zDa (y0.1,y0.2.1,s3.2.1,s3.2.2,y0.2.2.2.2) s3.1).bind fun r1 =>
 (vJ (decide (0≤s3.1)&&decide (s3.1<40))).bind fun _ =>
 (vJ (decide (0≤s3.1)&&decide (s3.1<40))).bind fun _ =>
 if(uB (tG 40 s3.2.1 s3.1 (vY .i64 (uB s3.2.1 s3.1) r1)) s3.1)==0 then
 some (.inr (.inr (.inr (false,tG 40 s3.2.1 s3.1 (vY .i64 (uB s3.2.1 s3.1) r1),s3.2.2))))
 else
 (zDv (y0.1,y0.2.1,tG 40 s3.2.1 s3.1 (vY .i64 (uB s3.2.1 s3.1) r1),s3.2.2,y0.2.2.2.2) s3.1).bind fun r2 =>
 some (.inl (zF (s3.1+1),r2.1,r2.2))
 else
 some (.inr (.inl (s3.2.1,s3.2.2)))
def zEI (y0:yN)(s1:(List Int)×(List (List Int))): Option (((List Int)×(List (List Int)))⊕(Bool×(List Int)×(List (List Int)))) :=
 vK (zO (zEK y0) (0,s1.1,s1.2):Option (((List Int)×(List (List Int)))⊕(((List Int)×(List (List Int)))⊕(Bool×(List Int)×(List (List Int)))))) fun s2 =>
 (asub 40 s2.1 y0.1).bind fun x1 =>
 (zAg x1 0).bind fun r3 =>
 if r3 then
 some (.inr (false,s2.1,s2.2))
 else
 if aeq 40 s2.1 s1.1 then
 some (.inr (true,s2.1,s2.2))
 else
 some (.inl (s2.1,s2.2))
def zCb (y0:yN): Option (Bool×(List Int)×(List (List Int))) :=
 zO (zEI y0) (y0.2.2.1,y0.2.2.2.1)
def zG5 (r2:(List Int)×Int)(s1:Bool×(List Int)×(List (List Int)))(rec_search_finder_find:yN->Option ((List Int)×(List (List Int))×Bool))(y0:yN)(s2:Int×(List (List Int))×Bool): Option ((Int×(List (List Int))×Bool)⊕((List Int)×(List (List Int))×Bool)) :=
 if decide (s2.1<(len ([2,4,8]:List Int))) then
 (zB ([2,4,8]:List Int) s2.1).bind fun x2 =>
 (vJ (decide (0≤r2.2)&&decide (r2.2<40))).bind fun _ =>
 if(vY .i64 (uB s1.2.1 r2.2) x2) != 0 then
 (vJ (decide (0≤r2.2)&&decide (r2.2<40))).bind fun _ =>
 (rec_search_finder_find (y0.1,y0.2.1,tG 40 s1.2.1 r2.2 x2,s2.2.1,s2.2.2)).bind fun r3 =>
 some (.inl (zF (s2.1+1),r3.2.1,r3.2.2))
 else
 some (.inl (zF (s2.1+1),s2.2.1,s2.2.2))
 else
 some (.inr (s1.2.1,s2.2.1,s2.2.2))
def zF6 (rec_search_finder_find:yN->Option ((List Int)×(List (List Int))×Bool))(y0:yN): Option ((List Int)×(List (List Int))×Bool) :=
 (
 if y0.2.2.2.2 then
 some (true,y0.2.2.1,y0.2.2.2.1)
 else
 (zCb y0).bind fun r1 =>
 some (!r1.1,r1.2.1,r1.2.2):Option (Bool×(List Int)×(List (List Int)))).bind fun s1 =>
 if s1.1 then
 some (s1.2.1,s1.2.2,y0.2.2.2.2)
 else
 (zCd (y0.1,y0.2.1,s1.2.1,s1.2.2,y0.2.2.2.2)).bind fun r2 =>
 if decide (r2.2<0) then
 (qD s1.2.2 ([r2.1]:List (List Int))).bind fun x1 =>
 some (s1.2.1,x1,(len s1.2.2)==200)
 else
 zO (zG5 r2 s1 rec_search_finder_find y0) (0,s1.2.2,y0.2.2.2.2)
def zDn:Nat->yN->Option ((List Int)×(List (List Int))×Bool)
 | 0=>fun _=>none
 | k+1=>fun y0=>zF6 (zDn k) y0
def zFc (y0:yN): Option ((List Int)×(List (List Int))×Bool):=z4n fun k=>zDn k y0
def zJN (y0:zY)(s2:Int×(List (List Int))×(List Int)): Option ((Int×(List (List Int))×(List Int))⊕((List (List Int))×(List Int))) :=
 if decide (s2.1<y0.1) then
 (zBx y0 s2.1).bind fun r2 =>
 (qD s2.2.1 ([r2]:List (List Int))).bind fun x1 =>
 (vJ (decide (0≤s2.1)&&decide (s2.1<40))).bind fun _ =>
 some (.inl (zF (s2.1+1),x1,tG 40 s2.2.2 s2.1 14))
 else
 some (.inr (s2.2.1,s2.2.2))
def zDI (y0:zY): Option ((List (List Int))×Int) :=
 (zA2 y0).bind fun r1 =>
 if r1 != 0 then
 some (([]:List (List Int)),r1)
 else
 (zO (zJN y0) (0,([]:List (List Int)),(List.replicate 40 (0:Int))):Option ((List (List Int))×(List Int))).bind fun s1 =>
 (zFc (y0.1,s1.1,s1.2,([]:List (List Int)),false)).bind fun r3 =>
 if r3.2.2 then
 some (([]:List (List Int)),2)
 else
 some (r3.2.1,0)
def zI0 (y1:List Int)(y0:List Int)(s1:(List Int)×Int): Option (((List Int)×Int)⊕(List Int)) :=
 if decide (s1.2<(len y1)) then
 (zB y1 s1.2).bind fun x1 =>
 (zA3 y0 x1).bind fun r1 =>
 (qD s1.1 r1).bind fun x2 =>
 some (.inl (x2,zF (s1.2+1)))
 else
 some (.inr s1.1)
def zCJ (y0:List Int)(y1:List Int): Option (List Int) :=
 zO (zI0 y1 y0) (([]:List Int),0)
def zFa (y0:Int)(y1:List Int): Option Bool :=
 (zAg y1 y0).bind fun r1 =>
 some (!r1)
def zBM (y0:List Int)(y1:List Int)(s1:Int): Option (Int⊕Int) :=
 if decide (s1<(len y0)) then
 (zB y0 s1).bind fun x1 =>
 (zFa x1 y1).bind fun r1 =>
 if r1 then
 some (.inr s1)
 else
 some (.inl (zF (s1+1)))
 else
 some (.inr (-1))
def zAm (y0:List Int)(y1:List Int): Option Int :=
 zO (zBM y0 y1) 0
def zAZ (y0:List Int)(y1:List Int): Option Bool :=
 (zAm y0 y1).bind fun r1 =>
 some (decide (0≤r1))
def zFE (y0:List Int)(y1:List Int): Option Bool :=
 (
 if decide ((len y0)<(len y1)) then
 (zAZ y0 y1).bind fun r1 =>
 some (!r1)
 else
 some false:Option Bool).bind fun s1 =>
 some s1
def zDu (y0:List Int)(y1:List Int): Option Bool :=
 (zCJ y1 ([1]:List Int)).bind fun r1 =>
 (zCJ y0 ([1]:List Int)).bind fun r2 =>
 (zFE r1 r2).bind fun r3 =>
 some r3
def zAo (y0:List Int)(y2:List Int): Option Bool :=
 (zDu y0 y2).bind fun r1 =>
 some r1
def zBZ (y0:List (List Int))(y2:List Int)(s1:Int): Option (Int⊕Int) :=
 if decide (s1<(len y0)) then
 (zB y0 s1).bind fun x1 =>
 (zAo x1 y2).bind fun r1 =>
 if r1 then
 some (.inr s1)
 else
 some (.inl (zF (s1+1)))
 else
 some (.inr (-1))
def zAs (y0:List (List Int))(y2:List Int): Option Int :=
 zO (zBZ y0 y2) 0
def zAe (y0:List (List Int))(y2:List Int): Option Bool :=
 (zAs y0 y2).bind fun r1 =>
 some (decide (0≤r1))
def zB4 (r1:(List (List Int))×Int)(s1:(List (List Int))×Int): Option (((List (List Int))×Int)⊕((List (List Int))×Int)) :=
 if decide (s1.2<(len r1.1)) then
 (zB r1.1 s1.2).bind fun x1 =>
 (zAe r1.1 x1).bind fun r2 =>
 if !r2 then
 (qD s1.1 ([x1]:List (List Int))).bind fun x2 =>
 some (.inl (x2,zF (s1.2+1)))
 else
 some (.inl (s1.1,zF (s1.2+1)))
 else
 some (.inr (s1.1,0))
def zBB (y0:zY): Option ((List (List Int))×Int) :=
 (zDI y0).bind fun r1 =>
 if r1.2 != 0 then
 some (([]:List (List Int)),r1.2)
 else
 zO (zB4 r1) (([]:List (List Int)),0)
def zDU (y0:zY): Option ((List (List Int))×Int) :=
 (zBB y0).bind fun r1 =>
 some (r1.1,r1.2)
def zHe (y0:zY)(y1:List Int)(s2:(List Int)×Int): Option (((List Int)×Int)⊕(List Int)) :=
 if decide (s2.2<(len y0.2)) then
 (zB y0.2 s2.2).bind fun x1 =>
 (zAg y1 x1.1).bind fun r2 =>
 if r2 then
 (zB s2.1 x1.2).bind fun _ =>
 some (.inl (List.set s2.1 (Int.toNat x1.2) 2,zF (s2.2+1)))
 else
 some (.inl (s2.1,zF (s2.2+1)))
 else
 some (.inr s2.1)
def zQS (y1:List Int)(y0:zY)(s3:(List Int)×Int): Option (((List Int)×Int)⊕(List Int)) :=
 if decide (s3.2<(len y1)) then
 (zB y1 s3.2).bind fun x3 =>
 if(decide (0≤x3))&&(decide (x3<y0.1)) then
 (zB s3.1 x3).bind fun _ =>
 some (.inl (List.set s3.1 (Int.toNat x3) 1,zF (s3.2+1)))
 else
 some (.inl (s3.1,zF (s3.2+1)))
 else
 some (.inr s3.1)
def zEJ (y0:zY)(y1:List Int): Option (List Int) :=
 (zC2 ([3]:List Int) y0.1).bind fun r1 =>
 (zO (zHe y0 y1) (r1,0):Option (List Int)).bind fun s1 =>
 zO (zQS y1 y0) (s1,0)
def zBR (y0:zY): Option ((List Int)×Int) :=
 (zDU y0).bind fun r1 =>
 if r1.2 != 0 then
 some (([]:List Int),r1.2)
 else
 (zKa r1.1).bind fun r2 =>
 (zEP y0 r2).bind fun r3 =>
 if r3.2 != 0 then
 some (([]:List Int),r3.2)
 else
 (zEJ y0 r3.1).bind fun r4 =>
 some (r4,0)
def zNn (y0:zY): Option ((List Int)×Int) :=
 (zBR y0).bind fun r1 =>
 some (r1.1,r1.2)
def zCV (y0:zY): Option ((List (List Int))×Int) :=
 (zNn y0).bind fun r1 =>
 if r1.2 != 0 then
 some (([]:List (List Int)),r1.2)
 else
 some (([r1.1]:List (List Int)),0)
def zCC (r1:(List (List Int))×Int)(s1:(List (List Int))×Int): Option (((List (List Int))×Int)⊕((List (List Int))×Int)) :=
 if decide (s1.2<(len r1.1)) then
 (zB r1.1 s1.2).bind fun x1 =>
 (zA3 x1 1).bind fun r2 =>
 (qD s1.1 ([r2]:List (List Int))).bind fun x2 =>
 some (.inl (x2,zF (s1.2+1)))
 else
 some (.inr (s1.1,0))
def zB8 (y0:zY): Option ((List (List Int))×Int) :=
 (zCV y0).bind fun r1 =>
 if r1.2 != 0 then
 some (([]:List (List Int)),r1.2)
 else
 zO (zCC r1) (([]:List (List Int)),0)
def zD9 (y0:List Int)(y1:List Int): Option Bool :=
 (zCJ y0 ([3]:List Int)).bind fun r1 =>
 (zCJ y1 ([3]:List Int)).bind fun r2 =>
 (zFE r1 r2).bind fun r3 =>
 some r3
def zAi (y0:List Int)(y2:List Int): Option Bool :=
 (zD9 y0 y2).bind fun r1 =>
 some r1
def zBO (y0:List (List Int))(y2:List Int)(s1:Int): Option (Int⊕Int) :=
 if decide (s1<(len y0)) then
 (zB y0 s1).bind fun x1 =>
 (zAi x1 y2).bind fun r1 =>
 if r1 then
 some (.inr s1)
 else
 some (.inl (zF (s1+1)))
 else
 some (.inr (-1))
def zAn (y0:List (List Int))(y2:List Int): Option Int :=
 zO (zBO y0 y2) 0
def zA1 (y0:List (List Int))(y2:List Int): Option Bool :=
 (zAn y0 y2).bind fun r1 =>
 some (decide (0≤r1))
def zB1 (r1:(List (List Int))×Int)(s1:(List (List Int))×Int): Option (((List (List Int))×Int)⊕((List (List Int))×Int)) :=
 if decide (s1.2<(len r1.1)) then
 (zB r1.1 s1.2).bind fun x1 =>
 (zA1 r1.1 x1).bind fun r2 =>
 if !r2 then
 (qD s1.1 ([x1]:List (List Int))).bind fun x2 =>
 some (.inl (x2,zF (s1.2+1)))
 else
 some (.inl (s1.1,zF (s1.2+1)))
 else
 some (.inr (s1.1,0))
def zAr (y0:zY): Option ((List (List Int))×Int) :=
 (zDI y0).bind fun r1 =>
 if r1.2 != 0 then
 some (([]:List (List Int)),r1.2)
 else
 zO (zB1 r1) (([]:List (List Int)),0)
def zDB (y0:zY): Option ((List (List Int))×Int) :=
 (zAr y0).bind fun r1 =>
 some (r1.1,r1.2)
def zBJ (y0:zY): Option ((List Int)×Int) :=
 (zDB y0).bind fun r1 =>
 if r1.2 != 0 then
 some (([]:List Int),r1.2)
 else
 (zKa r1.1).bind fun r2 =>
 (zEP y0 r2).bind fun r3 =>
 if r3.2 != 0 then
 some (([]:List Int),r3.2)
 else
 (zEJ y0 r3.1).bind fun r4 =>
 some (r4,0)
def zNg (y0:zY): Option ((List Int)×Int) :=
 (zBJ y0).bind fun r1 =>
 some (r1.1,r1.2)
def zCZ (y0:zY): Option ((List (List Int))×Int) :=
 (zNg y0).bind fun r1 =>
 if r1.2 != 0 then
 some (([]:List (List Int)),r1.2)
 else
 some (([r1.1]:List (List Int)),0)
def zCD (r1:(List (List Int))×Int)(s1:(List (List Int))×Int): Option (((List (List Int))×Int)⊕((List (List Int))×Int)) :=
 if decide (s1.2<(len r1.1)) then
 (zB r1.1 s1.2).bind fun x1 =>
 (zA3 x1 1).bind fun r2 =>
 (qD s1.1 ([r2]:List (List Int))).bind fun x2 =>
 some (.inl (x2,zF (s1.2+1)))
 else
 some (.inr (s1.1,0))
def zB9 (y0:zY): Option ((List (List Int))×Int) :=
 (zCZ y0).bind fun r1 =>
 if r1.2 != 0 then
 some (([]:List (List Int)),r1.2)
 else
 zO (zCD r1) (([]:List (List Int)),0)
def zBi (r1:(List (List Int))×Int)(s1:(List (List Int))×Int): Option (((List (List Int))×Int)⊕((List (List Int))×Int)) :=
 if decide (s1.2<(len r1.1)) then
 (zB r1.1 s1.2).bind fun x1 =>
 (zA3 x1 1).bind fun r2 =>
 (qD s1.1 ([r2]:List (List Int))).bind fun x2 =>
 some (.inl (x2,zF (s1.2+1)))
 else
 some (.inr (s1.1,0))
def zBQ (y0:zY): Option ((List (List Int))×Int) :=
 (zDU y0).bind fun r1 =>
 if r1.2 != 0 then
 some (([]:List (List Int)),r1.2)
 else
 zO (zBi r1) (([]:List (List Int)),0)
def zBc (r1:(List (List Int))×Int)(s1:(List (List Int))×Int): Option (((List (List Int))×Int)⊕((List (List Int))×Int)) :=
 if decide (s1.2<(len r1.1)) then
 (zB r1.1 s1.2).bind fun x1 =>
 (zA3 x1 1).bind fun r2 =>
 (qD s1.1 ([r2]:List (List Int))).bind fun x2 =>
 some (.inl (x2,zF (s1.2+1)))
 else
 some (.inr (s1.1,0))
def zBK (y0:zY): Option ((List (List Int))×Int) :=
 (zDB y0).bind fun r1 =>
 if r1.2 != 0 then
 some (([]:List (List Int)),r1.2)
 else
 zO (zBc r1) (([]:List (List Int)),0)
def zF7 (y0:List Int)(y1:List Int): Option Bool :=
 (zCJ y1 ([3]:List Int)).bind fun r1 =>
 some (decide (0<(len r1)))
def zBG (y0:List Int)(y2:List Int): Option Bool :=
 (zF7 y0 y2).bind fun r1 =>
 some r1
def zBL (y0:List (List Int))(y2:List Int)(s1:Int): Option (Int⊕Int) :=
 if decide (s1<(len y0)) then
 (zB y0 s1).bind fun x1 =>
 (zBG x1 y2).bind fun r1 =>
 if r1 then
 some (.inr s1)
 else
 some (.inl (zF (s1+1)))
 else
 some (.inr (-1))
def zAj (y0:List (List Int))(y2:List Int): Option Int :=
 zO (zBL y0 y2) 0
def zA0 (y0:List (List Int))(y2:List Int): Option Bool :=
 (zAj y0 y2).bind fun r1 =>
 some (decide (0≤r1))
def zBn (r1:(List (List Int))×Int)(s1:(List (List Int))×Int): Option (((List (List Int))×Int)⊕((List (List Int))×Int)) :=
 if decide (s1.2<(len r1.1)) then
 (zB r1.1 s1.2).bind fun x1 =>
 (zA0 r1.1 x1).bind fun r2 =>
 if !r2 then
 (qD s1.1 ([x1]:List (List Int))).bind fun x2 =>
 some (.inl (x2,zF (s1.2+1)))
 else
 some (.inl (s1.1,zF (s1.2+1)))
 else
 some (.inr (s1.1,0))
def zBS (y0:zY): Option ((List (List Int))×Int) :=
 (zDI y0).bind fun r1 =>
 if r1.2 != 0 then
 some (([]:List (List Int)),r1.2)
 else
 zO (zBn r1) (([]:List (List Int)),0)
def zHv (y0:zY): Option ((List (List Int))×Int) :=
 (zBS y0).bind fun r1 =>
 some (r1.1,r1.2)
def zCQ (r1:(List (List Int))×Int)(s1:(List (List Int))×Int): Option (((List (List Int))×Int)⊕((List (List Int))×Int)) :=
 if decide (s1.2<(len r1.1)) then
 (zB r1.1 s1.2).bind fun x1 =>
 (zA3 x1 1).bind fun r2 =>
 (qD s1.1 ([r2]:List (List Int))).bind fun x2 =>
 some (.inl (x2,zF (s1.2+1)))
 else
 some (.inr (s1.1,0))
def zBb (y0:zY): Option ((List (List Int))×Int) :=
 (zHv y0).bind fun r1 =>
 if r1.2 != 0 then
 some (([]:List (List Int)),r1.2)
 else
 zO (zCQ r1) (([]:List (List Int)),0)
def zC6 (r1:(List (List Int))×Int)(s1:(List (List Int))×Int): Option (((List (List Int))×Int)⊕((List (List Int))×Int)) :=
 if decide (s1.2<(len r1.1)) then
 (zB r1.1 s1.2).bind fun x1 =>
 (zA3 x1 1).bind fun r2 =>
 (qD s1.1 ([r2]:List (List Int))).bind fun x2 =>
 some (.inl (x2,zF (s1.2+1)))
 else
 some (.inr (s1.1,0))
def zBg (y0:zY): Option ((List (List Int))×Int) :=
 (zDI y0).bind fun r1 =>
 if r1.2 != 0 then
 some (([]:List (List Int)),r1.2)
 else
 zO (zC6 r1) (([]:List (List Int)),0)
def zBX (y0:zY)(y1:Int): Option ((List (List Int))×Int) :=
 (zA2 y0).bind fun r1 =>
 if r1 != 0 then
 some (([]:List (List Int)),r1)
 else
 zMJ.bind fun _ =>
 if(decide (y1<1))||(decide (((10:Nat):Int)≤y1)) then
 some (([]:List (List Int)),4)
 else
 (
 if y1==1 then
 (zAa y0).bind fun r3 =>
 some (r3.1,r3.2)
 else
 if y1==2 then
 (zBg y0).bind fun r4 =>
 some (r4.1,r4.2)
 else
 if y1==3 then
 (zBQ y0).bind fun r5 =>
 some (r5.1,r5.2)
 else
 if y1==4 then
 (zBb y0).bind fun r6 =>
 some (r6.1,r6.2)
 else
 if y1==5 then
 (zBK y0).bind fun r7 =>
 some (r7.1,r7.2)
 else
 if y1==6 then
 (zB8 y0).bind fun r8 =>
 some (r8.1,r8.2)
 else
 if y1==7 then
 (zB9 y0).bind fun r9 =>
 some (r9.1,r9.2)
 else
 if y1==8 then
 none
 else
 if y1==9 then
 none
 else
 none:Option ((List (List Int))×Int)).bind fun s1 =>
 some (s1.1,s1.2)
def zBw (r1:(List (List Int))×Int)(y0:zCL)(s1:(List (List zI))×Int): Option (((List (List zI))×Int)⊕((List (List zI))×Int)) :=
 if decide (s1.2<(len r1.1)) then
 (zB r1.1 s1.2).bind fun x1 =>
 (zBI y0.2.1 x1).bind fun r2 =>
 (qD s1.1 ([r2]:List (List zI))).bind fun x2 =>
 some (.inl (x2,zF (s1.2+1)))
 else
 some (.inr (s1.1,0))
def zCm (y0:zCL)(y1:Int): Option ((List (List zI))×Int) :=
 (zBX y0.2.2.2 y1).bind fun r1 =>
 if r1.2 != 0 then
 some (([]:List (List zI)),r1.2)
 else
 zO (zBw r1 y0) (([]:List (List zI)),0)
def zDr (y0:Int): Option (List zI) :=
 (
 if decide (y0<0) then
 none
 else
 some ():Option Unit).bind fun _ =>
 if decide (0<(zF (y0-(zF (((0:Nat):Int)-(len ([]:List zI))))))) then
 (mkS (zF (y0-(zF (((0:Nat):Int)-(len ([]:List zI)))))) (zF (y0-(zF (((0:Nat):Int)-(len ([]:List zI)))))) ((false,[]):zI)).bind fun x1 =>
 (sub x1 0 (len ([]:List zI))).bind fun x2 =>
 some x2
 else
 some ([]:List zI)
def zCA (y0:List (List zI))(s2:Int×Int): Option ((Int×Int)⊕Int) :=
 if decide (s2.2<(len y0)) then
 (zB y0 s2.2).bind fun x1 =>
 if decide ((zF (s2.1+(len x1)))<0) then
 none
 else
 some (.inl (zF (s2.1+(len x1)),zF (s2.2+1)))
 else
 some (.inr s2.1)
def zCx (y0:List (List zI))(s3:(List zI)×Int): Option (((List zI)×Int)⊕(List zI)) :=
 if decide (s3.2<(len y0)) then
 (zB y0 s3.2).bind fun x2 =>
 (qD s3.1 x2).bind fun x3 =>
 some (.inl (x3,zF (s3.2+1)))
 else
 some (.inr s3.1)
def zBy (y0:List (List zI)): Option (List zI) :=
 (zO (zCA y0) (0,0):Option Int).bind fun s1 =>
 (zDr s1).bind fun r1 =>
 zO (zCx y0) (r1,0)
def zOC (y0:List zI)(y1:zI)(s1:Int): Option (Int⊕Int) :=
 if decide (s1<(len y0)) then
 (zB y0 s1).bind fun x1 =>
 if y1==x1 then
 some (.inr s1)
 else
 some (.inl (zF (s1+1)))
 else
 some (.inr (-1))
def zCM (y0:List zI)(y1:zI): Option Int :=
 zO (zOC y0 y1) 0
def zCR (y0:List zI)(y1:zI): Option Bool :=
 (zCM y0 y1).bind fun r1 =>
 some (decide (0≤r1))
def zFD (y0:List zI)(y1:zI): Option Bool :=
 (zCR y0 y1).bind fun r1 =>
 some r1
def zC9 (y0:List zI)(y1:zI): Option Bool :=
 (zFD y0 y1).bind fun r1 =>
 some (!r1)
def zAp (y0:List (List zI))(y1:zI)(s1:Int): Option (Int⊕Int) :=
 if decide (s1<(len y0)) then
 (zB y0 s1).bind fun x1 =>
 (zC9 x1 y1).bind fun r1 =>
 if r1 then
 some (.inr s1)
 else
 some (.inl (zF (s1+1)))
 else
 some (.inr (-1))
def zAU (y0:List (List zI))(y1:zI): Option Int :=
 zO (zAp y0 y1) 0
def zAC (y0:List (List zI))(y1:zI): Option Bool :=
 (zAU y0 y1).bind fun r1 =>
 some (decide (0≤r1))
def zBp (y0:zI)(y1:Bool)(y2:List (List zI)): Option Bool :=
 (
 if y1 then
 (zAC y2 y0).bind fun r1 =>
 some r1
 else
 some false:Option Bool).bind fun s1 =>
 some s1
def zBA (y0:List zI)(y1:Bool)(y2:List (List zI))(s1:Int): Option (Int⊕Int) :=
 if decide (s1<(len y0)) then
 (zB y0 s1).bind fun x1 =>
 (zBp x1 y1 y2).bind fun r1 =>
 if r1 then
 some (.inr s1)
 else
 some (.inl (zF (s1+1)))
 else
 some (.inr (-1))
def zAY (y0:List zI)(y1:Bool)(y2:List (List zI)): Option Int :=
 zO (zBA y0 y1 y2) 0
def zAt (y0:List zI)(y1:Bool)(y2:List (List zI))(s2:(List zI)×Int×Int): Option (((List zI)×Int×Int)⊕((List zI)×Int)) :=
 if decide (s2.2.2<(len y0)) then
 (zB s2.1 s2.2.2).bind fun x1 =>
 (zBp x1 y1 y2).bind fun r2 =>
 if !r2 then
 (zB s2.1 s2.2.1).bind fun _ =>
 some (.inl (List.set s2.1 (Int.toNat s2.2.1) x1,zF (s2.2.1+1),zF (s2.2.2+1)))
 else
 some (.inl (s2.1,s2.2.1,zF (s2.2.2+1)))
 else
 some (.inr (s2.1,s2.2.1))
def zAI (y0:List zI)(y1:Bool)(y2:List (List zI)): Option (List zI) :=
 (zAY y0 y1 y2).bind fun r1 =>
 if r1==(-1) then
 some y0
 else
 (zO (zAt y0 y1 y2) (y0,r1,zF (r1+1)):Option ((List zI)×Int)).bind fun s1 =>
 (vJ (decide (0≤s1.2)&&decide (s1.2≤len s1.1))).bind fun _ =>
 (sub (zDV s1.1 s1.2 (false,[])) 0 s1.2).bind fun x3 =>
 some x3
def zAx (y0:zCL)(y1:Int)(y2:Bool): Option ((List zI)×Int) :=
 (zCm y0 y1).bind fun r1 =>
 if r1.2 != 0 then
 some (([]:List zI),r1.2)
 else
 (zBy r1.1).bind fun r2 =>
 (zDf r2).bind fun r3 =>
 (zAI r3 y2 r1.1).bind fun r4 =>
 some (r4,0)
def zEy (y0:zT)(y1:zT): Option Int :=
 (zAh y0.1 y1.1).bind fun r1 =>
 (zAh y0.2 y1.2).bind fun r2 =>
 (zGV ([r1,r2]:List Int)).bind fun r3 =>
 some r3
def zBq (y0:List zT)(y1:zT)(s2:Int×Int): Option ((Int×Int)⊕Int) :=
 if decide (s2.1<s2.2) then
 (zB y0 (zF (yW .u64 (IntKind.u64.wrap (zF (s2.1+s2.2))) 1))).bind fun x1 =>
 (zEy x1 y1).bind fun r1 =>
 if decide (r1<0) then
 some (.inl (zF ((zF (yW .u64 (IntKind.u64.wrap (zF (s2.1+s2.2))) 1))+1),s2.2))
 else
 some (.inl (s2.1,zF (yW .u64 (IntKind.u64.wrap (zF (s2.1+s2.2))) 1)))
 else
 some (.inr s2.1)
def zAQ (y0:List zT)(y1:zT): Option (Int×Bool) :=
 (zO (zBq y0 y1) (0,len y0):Option Int).bind fun s1 =>
 (
 if decide (s1<(len y0)) then
 (zB y0 s1).bind fun x2 =>
 (zEy x2 y1).bind fun r2 =>
 some (s1,r2==0)
 else
 some (s1,false):Option (Int×Bool)).bind fun s3 =>
 some (s3.1,s3.2)
def zJK (y0:List zT)(y1:Int)(y2:List zT): Option (List zT):=insM y0 y1 y2
def zTQ (y0:zY)(s4:(List Int)×Int): Option (((List Int)×Int)⊕(List Int)) :=
 if decide (s4.2<(len y0.2)) then
 (zB y0.2 s4.2).bind fun x1 =>
 if(x1.1==(zF (y0.1-1)))&&(decide (x1.2<(zF (y0.1-1)))) then
 (qD s4.1 ([x1.2]:List Int)).bind fun x2 =>
 some (.inl (x2,zF (s4.2+1)))
 else
 some (.inl (s4.1,zF (s4.2+1)))
 else
 some (.inr s4.1)
def zJ9 (y0:zY)(y1:zL0): Option (zY×(List Int)) :=
 if y1.1==1 then
 (zAQ y0.2 (y1.2.1,y1.2.2)).bind fun r1 =>
 (zJK y0.2 r1.1 ([(y1.2.1,y1.2.2)]:List zT)).bind fun r2 =>
 (some (([y1.2.2]:List Int),y0.1,r2):Option ((List Int)×Int×(List zT))).bind fun s1 =>
 some ((s1.2.1,s1.2.2),s1.1)
 else
 if y1.1==2 then
 none
 else
 if y1.1==3 then
 (some (([zF ((zF (y0.1+1))-1)]:List Int),zF (y0.1+1),y0.2):Option ((List Int)×Int×(List zT))).bind fun s2 =>
 some ((s2.2.1,s2.2.2),s2.1)
 else
 (zO (zTQ y0) (([]:List Int),0):Option (List Int)).bind fun _ =>
 none
def zGu (y0:List zT): Option (List zT) :=
 (qD ([]:List zT) y0).bind fun x1 =>
 some x1
def zCh (y0:List Int): Option (List Int) :=
 (qD ([]:List Int) y0).bind fun x1 =>
 some x1
def zEl (y0:zDo): Option zDo :=
 (zGu y0.1.2).bind fun r1 =>
 (zCh y0.2).bind fun r2 =>
 some ((y0.1.1,r1),r2)
def zE4 (y0:List zT)(y1:zT)(s1:Int): Option (Int⊕Int) :=
 if decide (s1<(len y0)) then
 (zB y0 s1).bind fun x1 =>
 if y1==x1 then
 some (.inr s1)
 else
 some (.inl (zF (s1+1)))
 else
 some (.inr (-1))
def zJp (y0:List zT)(y1:zT): Option Int :=
 zO (zE4 y0 y1) 0
def zHa (y0:List zT)(y1:zT): Option Bool :=
 (zJp y0 y1).bind fun r1 =>
 some (decide (0≤r1))
def zPd (y0:zY)(y1:Int)(y2:Int): Option Bool :=
 (zDR y0).bind fun r1 =>
 (zHa r1.2 (y1,y2)).bind fun r2 =>
 some r2
def zIj (y0:zY)(y1:zL0): Option Int :=
 (
 if y1.1==1 then
 some (y1.1==1)
 else
 some (y1.1==2):Option Bool).bind fun s1 =>
 if s1 then
 (zPd y0 y1.2.1 y1.2.2).bind fun r1 =>
 if(decide ((if y1.2.2<y1.2.1 then y1.2.2 else y1.2.1)<0))||(decide (y0.1≤(if y1.2.2 > y1.2.1 then y1.2.2 else y1.2.1))) then
 some 1
 else
 if(y1.1==1)&&r1 then
 some 5
 else
 if(y1.1==2)&&(!r1) then
 some 6
 else
 some 0
 else
 (
 if y1.1==3 then
 some (y1.1==3)
 else
 some (y1.1==4):Option Bool).bind fun s2 =>
 if s2 then
 if(y1.2.1 != 0)||(y1.2.2 != 0) then
 some 1
 else
 if(y1.1==3)&&(y0.1==40) then
 some 2
 else
 if(y1.1==4)&&(y0.1==0) then
 some 9
 else
 some 0
 else
 some 4
def zIM (r1:(List Int))(y2:List Int)(s2:Bool×Int): Option ((Bool×Int)⊕(Bool⊕Int)) :=
 if decide (s2.2<(len r1)) then
 (zB r1 s2.2).bind fun x1 =>
 (zB y2 x1).bind fun x2 =>
 if x2==1 then
 some (.inr (.inr 2))
 else
 if x2==3 then
 some (.inl (false,zF (s2.2+1)))
 else
 some (.inl (s2.1,zF (s2.2+1)))
 else
 some (.inr (.inl s2.1))
def zHp (y0:Int)(y1:zY)(y2:List Int): Option Int :=
 vK (
 (zBx y1 y0).bind fun r1 =>
 zO (zIM r1 y2) (true,0):Option (Bool⊕Int)) fun s1 =>
 if s1 then
 some 1
 else
 some 3
def zMn (y0:zY)(s1:(List Int)×(List Int)): Option (((List Int)×(List Int))⊕(List Int)) :=
 if decide (0<(len s1.1)) then
 (zB s1.1 0).bind fun x1 =>
 (sub s1.1 1 (len s1.1)).bind fun x2 =>
 (zB s1.2 x1).bind fun x3 =>
 if x3 != 3 then
 some (.inl (x2,s1.2))
 else
 (zHp x1 y0 s1.2).bind fun r2 =>
 (zB s1.2 x1).bind fun _ =>
 (zB (List.set s1.2 (Int.toNat x1) r2) x1).bind fun x5 =>
 if x5 != 3 then
 (zCU y0 x1).bind fun r3 =>
 (qD x2 r3).bind fun x6 =>
 some (.inl (x6,List.set s1.2 (Int.toNat x1) r2))
 else
 some (.inl (x2,List.set s1.2 (Int.toNat x1) r2))
 else
 some (.inr s1.2)
def zHX (y0:zY)(y1:List Int)(y2:List Int): Option (List Int) :=
 (zCh y2).bind fun r1 =>
 zO (zMn y0) (r1,y1)
def zHV (r3:(List Int))(r2:(List Int))(s3:Int×Int): Option ((Int×Int)⊕Int) :=
 if decide (s3.2<(len r3)) then
 (zB r3 s3.2).bind fun x2 =>
 (zB r2 x2).bind fun x3 =>
 some (.inl (bor .u64 s3.1 x3,zF (s3.2+1)))
 else
 some (.inr s3.1)
def zPm (r2:(List Int))(s1:Int): Option (Int⊕(List Int)) :=
 (
 (zGW s1).bind fun r3 =>
 zO (zHV r3 r2) (s1,0):Option Int).bind fun s2 =>
 if s2==s1 then
 (zGW s1).bind fun r4 =>
 some (.inr r4)
 else
 some (.inl s2)
def zKc (y0:zY)(y1:Int): Option (List Int) :=
 (zDR y0).bind fun r1 =>
 if(decide (y1<0))||(decide (r1.1≤y1)) then
 some ([]:List Int)
 else
 (z80 .u64 1 y1).bind fun x1 =>
 (zGn r1).bind fun r2 =>
 zO (zPm r2) x1
def zPP (y0:List Int)(s1:Int)(s3:(List Int)×Int×Int): Option (((List Int)×Int×Int)⊕((List Int)×Int)) :=
 if decide (s3.2.2<((Int.toNat (((List.length y0:Nat):Int)-s1):Nat):Int)) then
 (zZQ s3.1 s1 s3.2.2).bind fun x3 =>
 (zZQ s3.1 s1 (zF (s3.2.2-1))).bind fun x4 =>
 if x3 != x4 then
 (zZQ s3.1 s1 s3.2.2).bind fun x5 =>
 (zB s3.1 s3.2.1).bind fun _ =>
 some (.inl (List.set s3.1 (Int.toNat s3.2.1) x5,zF (s3.2.1+1),zF (s3.2.2+1)))
 else
 some (.inl (s3.1,s3.2.1,zF (s3.2.2+1)))
 else
 some (.inr (s3.1,s3.2.1))
def zGw (y0:List Int)(s1:Int): Option (Int⊕(List Int)) :=
 if decide (s1<(len y0)) then
 (zB y0 s1).bind fun x1 =>
 (zB y0 (zF (s1-1))).bind fun x2 =>
 if x1==x2 then
 (vJ (decide (0≤s1)&&decide (s1≤len y0))).bind fun _ =>
 (zO (zPP y0 s1) (y0,s1,1):Option ((List Int)×Int)).bind fun s2 =>
 (vJ (decide (0≤s2.2)&&decide (s2.2≤len s2.1))).bind fun _ =>
 (sub (zDV s2.1 s2.2 0) 0 s2.2).bind fun x7 =>
 some (.inr x7)
 else
 some (.inl (zF (s1+1)))
 else
 some (.inr y0)
def zAq (y0:List Int): Option (List Int) :=
 if decide ((len y0)<2) then
 some y0
 else
 zO (zGw y0) 1
def zG2 (y0:Int): Option (List Int) :=
 (
 if decide (y0<0) then
 none
 else
 some ():Option Unit).bind fun _ =>
 if decide (0<(zF (y0-(zF (((0:Nat):Int)-(len ([]:List Int))))))) then
 (mkS (zF (y0-(zF (((0:Nat):Int)-(len ([]:List Int)))))) (zF (y0-(zF (((0:Nat):Int)-(len ([]:List Int)))))) (0:Int)).bind fun x1 =>
 (sub x1 0 (len ([]:List Int))).bind fun x2 =>
 some x2
 else
 some ([]:List Int)
def zCy (y0:List (List Int))(s2:Int×Int): Option ((Int×Int)⊕Int) :=
 if decide (s2.2<(len y0)) then
 (zB y0 s2.2).bind fun x1 =>
 if decide ((zF (s2.1+(len x1)))<0) then
 none
 else
 some (.inl (zF (s2.1+(len x1)),zF (s2.2+1)))
 else
 some (.inr s2.1)
def zE2 (y0:List (List Int))(s3:(List Int)×Int): Option (((List Int)×Int)⊕(List Int)) :=
 if decide (s3.2<(len y0)) then
 (zB y0 s3.2).bind fun x2 =>
 (qD s3.1 x2).bind fun x3 =>
 some (.inl (x3,zF (s3.2+1)))
 else
 some (.inr s3.1)
def zEQ (y0:List (List Int)): Option (List Int) :=
 (zO (zCy y0) (0,0):Option Int).bind fun s1 =>
 (zG2 s1).bind fun r1 =>
 zO (zE2 y0) (r1,0)
def zBN (y0:List Int): Option (List Int):=z9a y0
def zFF (r3:zY×(List Int))(s2:(List Int)×Int): Option (((List Int)×Int)⊕(List Int)) :=
 if decide (s2.2<(len r3.2)) then
 (zB r3.2 s2.2).bind fun x2 =>
 (zKc r3.1 x2).bind fun r5 =>
 (qD s2.1 r5).bind fun x3 =>
 some (.inl (x3,zF (s2.2+1)))
 else
 some (.inr s2.1)
def zEp (r7:(List Int))(s4:(List Int)×Int): Option (((List Int)×Int)⊕(List Int)) :=
 if decide (s4.2<(len r7)) then
 (zB r7 s4.2).bind fun x4 =>
 (zB s4.1 x4).bind fun _ =>
 some (.inl (List.set s4.1 (Int.toNat x4) 3,zF (s4.2+1)))
 else
 some (.inr s4.1)
def zKS (y0:zDo)(y1:zL0): Option (zDo×(List Int)×Int) :=
 (zIj y0.1 y1).bind fun r1 =>
 if r1 != 0 then
 some (((0,([]:List zT)),([]:List Int)),([]:List Int),r1)
 else
 (zEl y0).bind fun r2 =>
 (zJ9 r2.1 y1).bind fun r3 =>
 (zEQ ([r2.2,([3]:List Int)]:List (List Int))).bind fun r4 =>
 (sub r4 0 r3.1.1).bind fun x1 =>
 (zO (zFF r3) (([]:List Int),0):Option (List Int)).bind fun s1 =>
 (zBN s1).bind fun r6 =>
 (zAq r6).bind fun r7 =>
 (zO (zEp r7) (x1,0):Option (List Int)).bind fun s3 =>
 (zHX r3.1 s3 r7).bind fun r8 =>
 some ((r3.1,r8),r7,0)
def zIT (y0:List Int)(y1:List Int)(s1:Int): Option (Int⊕Bool) :=
 if decide (s1<(len y0)) then
 (zB y0 s1).bind fun x1 =>
 (zB y1 s1).bind fun x2 =>
 if x1 != x2 then
 some (.inr false)
 else
 some (.inl (zF (s1+1)))
 else
 some (.inr true)
def zHn (y0:List Int)(y1:List Int): Option Bool :=
 if(len y0) != (len y1) then
 some false
 else
 zO (zIT y0 y1) 0
def zK7 (y0:zDo): Option Bool :=
 (
 (zA2 y0.1).bind fun r1 =>
 if r1==0 then
 (zCW y0.1).bind fun r2 =>
 (zHn y0.2 r2).bind fun r3 =>
 some r3
 else
 some false:Option Bool).bind fun s1 =>
 some s1
def zK8 (y0:zDo)(y1:zL0): Option (zDo×(List Int)×Int) :=
 (zK7 y0).bind fun r1 =>
 if !r1 then
 some (((0,([]:List zT)),([]:List Int)),([]:List Int),7)
 else
 (zKS y0 y1).bind fun r2 =>
 some (r2.1,r2.2.1,r2.2.2)
def zMg (y0:zY): Option (zDo×Int) :=
 (zA2 y0).bind fun r1 =>
 if r1 != 0 then
 some (((0,([]:List zT)),([]:List Int)),r1)
 else
 (zCW y0).bind fun r2 =>
 (zEl (y0,r2)).bind fun r3 =>
 some (r3,0)
def zGg (y0:Int)(y1:List Int)(y2:Int): Option Bool :=
 (zB y1 y0).bind fun x1 =>
 (zB y1 y2).bind fun x2 =>
 some (decide (x2≤x1))
def zGS (y0:List Int)(y1:List Int)(y2:Int)(s1:Int): Option (Int⊕Int) :=
 if decide (s1<(len y0)) then
 (zB y0 s1).bind fun x1 =>
 (zGg x1 y1 y2).bind fun r1 =>
 if r1 then
 some (.inr s1)
 else
 some (.inl (zF (s1+1)))
 else
 some (.inr (-1))
def zDE (y0:List Int)(y1:List Int)(y2:Int): Option Int :=
 zO (zGS y0 y1 y2) 0
def zA6 (y0:List Int)(y1:List Int)(y2:Int): Option Bool :=
 (zDE y0 y1 y2).bind fun r1 =>
 some (decide (0≤r1))
def zGo (y0:Int)(y1:List Int)(y2:List Int)(y3:Int): Option Bool :=
 (
 (zB y1 y0).bind fun x1 =>
 if x1==1 then
 (zB y2 y0).bind fun x2 =>
 if decide (1≤x2) then
 (zB y2 y0).bind fun x3 =>
 (zB y2 y3).bind fun x4 =>
 some (decide (x3≤x4))
 else
 some false
 else
 some false:Option Bool).bind fun s1 =>
 some s1
def zGP (y0:List Int)(y1:List Int)(y2:List Int)(y3:Int)(s1:Int): Option (Int⊕Int) :=
 if decide (s1<(len y0)) then
 (zB y0 s1).bind fun x1 =>
 (zGo x1 y1 y2 y3).bind fun r1 =>
 if r1 then
 some (.inr s1)
 else
 some (.inl (zF (s1+1)))
 else
 some (.inr (-1))
def zDA (y0:List Int)(y1:List Int)(y2:List Int)(y3:Int): Option Int :=
 zO (zGP y0 y1 y2 y3) 0
def zA8 (y0:List Int)(y1:List Int)(y2:List Int)(y3:Int): Option Bool :=
 (zDA y0 y1 y2 y3).bind fun r1 =>
 some (decide (0≤r1))
def zIu (y0:zY)(y1:List Int)(y2:List Int)(y3:Int): Option Bool :=
 (zBx y0 y3).bind fun r1 =>
 (zB y1 y3).bind fun x1 =>
 if x1==1 then
 (
 (zB y2 y3).bind fun x2 =>
 if decide (1≤x2) then
 (zA6 r1 y2 y3).bind fun r2 =>
 some (!r2)
 else
 some false:Option Bool).bind fun s1 =>
 some s1
 else
 if x1==2 then
 (zA8 r1 y1 y2 y3).bind fun r3 =>
 some r3
 else
 some true
def zJo (y0:Int): Option Bool :=
 some ((y0 != 1)&&((y0 != 2)&&(y0 != 3)))
def zGK (y0:List Int)(s1:Int): Option (Int⊕Int) :=
 if decide (s1<(len y0)) then
 (zB y0 s1).bind fun x1 =>
 (zJo x1).bind fun r1 =>
 if r1 then
 some (.inr s1)
 else
 some (.inl (zF (s1+1)))
 else
 some (.inr (-1))
def zCz (y0:List Int): Option Int :=
 zO (zGK y0) 0
def zA7 (y0:List Int): Option Bool :=
 (zCz y0).bind fun r1 =>
 some (decide (0≤r1))
def zDz (y0:zY)(y1:List Int): Option Bool :=
 (
 if(len y1)==y0.1 then
 (zA7 y1).bind fun r1 =>
 some (!r1)
 else
 some false:Option Bool).bind fun s1 =>
 some s1
def zJO (r1:(List Int))(y1:List Int)(s2:Int×Int×Int×Int×Int): Option ((Int×Int×Int×Int×Int)⊕(Int×Int×Int×Int)) :=
 if decide (s2.1<(len r1)) then
 (zB r1 s2.1).bind fun x1 =>
 (zB y1 x1).bind fun x2 =>
 (zB ([s2.2.1,s2.2.2.1,s2.2.2.2.1,s2.2.2.2.2]:List Int) x2).bind fun x3 =>
 (zB ([s2.2.1,s2.2.2.1,s2.2.2.2.1,s2.2.2.2.2]:List Int) x2).bind fun _ =>
 some (.inl (zF (s2.1+1),if x2==0 then zF (x3+1) else s2.2.1,if x2==1 then zF (x3+1) else s2.2.2.1,if x2==2 then zF (x3+1) else s2.2.2.2.1,if x2==3 then zF (x3+1) else s2.2.2.2.2))
 else
 some (.inr (s2.2.1,s2.2.2.1,s2.2.2.2.1,s2.2.2.2.2))
def zFd (y0:zY)(y1:List Int)(y2:Int): Option Bool :=
 (zBx y0 y2).bind fun r1 =>
 (zO (zJO r1 y1) (0,0,0,0,0):Option (Int×Int×Int×Int)).bind fun s1 =>
 (zB y1 y2).bind fun x5 =>
 if x5==1 then
 some (s1.2.2.1==(len r1))
 else
 if x5==2 then
 some (decide (0<s1.2.1))
 else
 some ((decide (s1.2.2.1<(len r1)))&&(s1.2.1==0))
def zEY (y1:List Int)(y0:zY)(s1:(List Int)×Int): Option (((List Int)×Int)⊕(List Int)) :=
 if decide (s1.2<(len y1)) then
 (zFd y0 y1 s1.2).bind fun r2 =>
 if !r2 then
 (qD s1.1 ([s1.2]:List Int)).bind fun x1 =>
 some (.inl (x1,zF (s1.2+1)))
 else
 some (.inl (s1.1,zF (s1.2+1)))
 else
 some (.inr s1.1)
def zGd (y0:zY)(y1:List Int): Option (List Int) :=
 (zDz y0 y1).bind fun r1 =>
 if !r1 then
 some ([]:List Int)
 else
 zO (zEY y1 y0) (([]:List Int),0)
def zE1 (y0:zY)(y1:List Int): Option Bool :=
 (
 (zDz y0 y1).bind fun r1 =>
 if r1 then
 (zGd y0 y1).bind fun r2 =>
 some ((len r2)==0)
 else
 some false:Option Bool).bind fun s1 =>
 some s1
def zJm (y0:zY)(y1:List Int)(y2:List Int)(s2:Int): Option (Int⊕Int) :=
 if decide (s2<y0.1) then
 (zIu y0 y1 y2 s2).bind fun r4 =>
 if !r4 then
 some (.inr 11)
 else
 some (.inl (zF (s2+1)))
 else
 some (.inr 0)
def zJc (y0:zY)(y1:List Int)(y2:List Int): Option Int :=
 (zA2 y0).bind fun r1 =>
 if r1 != 0 then
 some 1
 else
 (
 (zDz y0 y1).bind fun r2 =>
 if !r2 then
 some true
 else
 some ((len y2) != y0.1):Option Bool).bind fun s1 =>
 if s1 then
 some 4
 else
 (zE1 y0 y1).bind fun r3 =>
 if !r3 then
 some 7
 else
 zO (zJm y0 y1 y2) 0
def zJ7 (y0:zY): Option (List Int) :=
 (zDj y0).bind fun r1 =>
 some r1.2
def zNf (y0:List Int)(y1:Int)(s1:Int): Option (Int⊕Bool) :=
 if decide (s1<(len y0)) then
 (zB y0 s1).bind fun x1 =>
 if x1==y1 then
 some (.inr true)
 else
 some (.inl (zF (s1+1)))
 else
 some (.inr false)
def zQo (y0:List Int)(y1:Int): Option Bool :=
 zO (zNf y0 y1) 0
def zLQ (y0:Int)(y1:Int): Option Int :=
 if decide (y1<1) then
 some 0
 else
 (remK y0 y1).bind fun x1 =>
 if decide (x1<0) then
 some (zF (x1+y1))
 else
 some x1
def zR1 (y0:List Int): Option uG :=
 (sub y0 0 (if 2000<(len y0) then 2000 else len y0)).bind fun x1 =>
 some (x1,0)
def zYD (y0:List zI)(y1:List zI)(s1:Int): Option (Int⊕Bool) :=
 if decide (s1<(len y0)) then
 (zB y0 s1).bind fun x1 =>
 (zB y1 s1).bind fun x2 =>
 if !(x1==x2) then
 some (.inr false)
 else
 some (.inl (zF (s1+1)))
 else
 some (.inr true)
def zNp (y0:List zI)(y1:List zI): Option Bool :=
 if(len y0) != (len y1) then
 some false
 else
 zO (zYD y0 y1) 0
def zB2 (y0:uP): Option Bool :=
 some (decide (40<(zF ((len y0.2.1)+(len y0.2.2.1)))))
def zD3 (x1:zD)(rec_argument_Subs:(List zD)->Int->Option (List Int))(y0:List zD)(s2:(List Int)×Int): Option (((List Int)×Int)⊕(List Int)) :=
 if decide (s2.2<(len x1.2.2.1)) then
 (zB x1.2.2.1 s2.2).bind fun x2 =>
 (rec_argument_Subs y0 x2).bind fun r2 =>
 (qD s2.1 r2).bind fun x3 =>
 some (.inl (x3,zF (s2.2+1)))
 else
 some (.inr s2.1)
def zFf (rec_argument_Subs:(List zD)->Int->Option (List Int))(y0:List zD)(y1:Int): Option (List Int) :=
 (zAu y0 y1).bind fun r1 =>
 if !r1 then
 some ([]:List Int)
 else
 (
 (zB y0 y1).bind fun x1 =>
 zO (zD3 x1 rec_argument_Subs y0) (([y1]:List Int),0):Option (List Int)).bind fun s1 =>
 (zBN s1).bind fun r3 =>
 (zAq r3).bind fun r4 =>
 some r4
def zDW:Nat->(List zD)->Int->Option (List Int)
 | 0=>fun _ _=>none
 | k+1=>fun y0 y1=>zFf (zDW k) y0 y1
def zEH (y0:List zD)(y1:Int): Option (List Int):=z4n fun k=>zDW k y0 y1
def zDZ (r1:(List Int))(y1:List zD)(y0:zM)(s2:(List Int)×Int): Option (((List Int)×Int)⊕(List Int)) :=
 if decide (s2.2<(len r1)) then
 (zB r1 s2.2).bind fun x1 =>
 (zB y1 x1).bind fun x2 =>
 (
 if decide (0≤x2.2.1) then
 (zB y0.2.1 x2.2.1).bind fun x3 =>
 some (!x3.2.1)
 else
 some false:Option Bool).bind fun s3 =>
 if s3 then
 (qD s2.1 ([x2.2.1]:List Int)).bind fun x4 =>
 some (.inl (x4,zF (s2.2+1)))
 else
 some (.inl (s2.1,zF (s2.2+1)))
 else
 some (.inr s2.1)
def zBt (y0:zM)(y1:List zD)(y2:Int): Option (List Int) :=
 (
 (zEH y1 y2).bind fun r1 =>
 zO (zDZ r1 y1 y0) (([]:List Int),0):Option (List Int)).bind fun s1 =>
 (zBN s1).bind fun r2 =>
 (zAq r2).bind fun r3 =>
 some r3
def zIf (x4:zD)(rec_argument_run:zM->(List zD)->Int->Option (List zI))(y0:zM)(y1:List zD)(s2:(List zI)×Int): Option (((List zI)×Int)⊕(List zI)) :=
 if decide (s2.2<(len x4.2.2.1)) then
 (zB x4.2.2.1 s2.2).bind fun x5 =>
 (rec_argument_run y0 y1 x5).bind fun r1 =>
 (qD s2.1 r1).bind fun x6 =>
 some (.inl (x6,zF (s2.2+1)))
 else
 some (.inr s2.1)
def zH1 (rec_argument_run:zM->(List zD)->Int->Option (List zI))(y0:zM)(y1:List zD)(y2:Int): Option (List zI) :=
 (zB y1 y2).bind fun x1 =>
 (zB y1 y2).bind fun x2 =>
 (
 if decide (0≤x2.2.1) then
 (zB y0.2.1 x2.2.1).bind fun x3 =>
 some x3.2.1
 else
 some false:Option Bool).bind fun s1 =>
 if s1 then
 (zB y1 y2).bind fun x4 =>
 zO (zIf x4 rec_argument_run y0 y1) (([x1.2.2.2]:List zI),0)
 else
 some ([x1.2.2.2]:List zI)
def zDQ:Nat->zM->(List zD)->Int->Option (List zI)
 | 0=>fun _ _ _=>none
 | k+1=>fun y0 y1 y2=>zH1 (zDQ k) y0 y1 y2
def zFR (y0:zM)(y1:List zD)(y2:Int): Option (List zI):=z4n fun k=>zDQ k y0 y1 y2
def zCp (y3:List Int)(y0:zM)(y2:Int)(y1:List zD)(s1:Int): Option (Int⊕Bool) :=
 if decide (s1<(len y3)) then
 (zB y3 s1).bind fun x1 =>
 (zB y0.2.1 y2).bind fun x2 =>
 if x2.2.1 then
 (zB y0.2.1 y2).bind fun x3 =>
 (zFR y0 y1 x1).bind fun r1 =>
 (zFD r1 x3.2.2.2.2).bind fun r2 =>
 if r2 then
 some (.inr false)
 else
 some (.inl (zF (s1+1)))
 else
 (zBt y0 y1 x1).bind fun r3 =>
 (zAg r3 y2).bind fun r4 =>
 if r4 then
 some (.inr false)
 else
 some (.inl (zF (s1+1)))
 else
 some (.inr true)
def zDG (y0:zM)(y1:List zD)(y2:Int)(y3:List Int): Option Bool :=
 zO (zCp y3 y0 y2 y1) 0
def zEf (y0:Int)(y2:uP): Option Bool :=
 some (decide (y2.2.2.2≤y0))
def zAL (y0:List Int)(y2:uP)(s1:Int): Option (Int⊕Int) :=
 if decide (s1<(len y0)) then
 (zB y0 s1).bind fun x1 =>
 (zEf x1 y2).bind fun r1 =>
 if r1 then
 some (.inr s1)
 else
 some (.inl (zF (s1+1)))
 else
 some (.inr (-1))
def zAE (y0:List Int)(y2:uP): Option Int :=
 zO (zAL y0 y2) 0
def zAA (y0:List Int)(y2:uP): Option Bool :=
 (zAE y0 y2).bind fun r1 =>
 some (decide (0≤r1))
def zAy (y0:uP)(x1:qC)(y2:List Int)(rec_argument_builder_apply_2:uP->Int->(List Int)->Option (List zD))(y1:Int)(s2:Int×(List zD)): Option ((Int×(List zD))⊕(Unit⊕(List zD))) :=
 if decide (s2.1<(len y0.2.1)) then
 (zB y0.2.1 s2.1).bind fun x2 =>
 (zB x1.2.2.2.1 (len y2)).bind fun x3 =>
 if x2.2.2.2==x3 then
 (
 (zCh y2).bind fun r2 =>
 (qD r2 ([s2.1]:List Int)).bind fun x4 =>
 (rec_argument_builder_apply_2 (y0.1,y0.2.1,s2.2,y0.2.2.2) y1 x4).bind fun r3 =>
 some r3:Option (List zD)).bind fun s3 =>
 some (.inl (zF (s2.1+1),s3))
 else
 some (.inl (zF (s2.1+1),s2.2))
 else
 some (.inr (.inr s2.2))
def zBT (rec_argument_builder_apply_2:uP->Int->(List Int)->Option (List zD))(y0:uP)(y1:Int)(y2:List Int): Option (List zD) :=
 (zB y0.1.2.1 y1).bind fun x1 =>
 (zB2 y0).bind fun r1 =>
 if r1 then
 some y0.2.2.1
 else
 vK (
 if decide ((len y2)<(len x1.2.2.2.1)) then
 zO (zAy y0 x1 y2 rec_argument_builder_apply_2 y1) (0,y0.2.2.1)
 else
 some (.inl ()):Option (Unit⊕(List zD))) fun _ =>
 (
 (zAA y2 y0).bind fun r6 =>
 if r6 then
 (zDG y0.1 y0.2.1 y1 y2).bind fun r7 =>
 some r7
 else
 some false:Option Bool).bind fun s4 =>
 if s4 then
 (zB y0.1.2.1 y1).bind fun x6 =>
 (qD y0.2.2.1 ([((-1),y1,y2,x6.2.2.2.2)]:List zD)).bind fun x7 =>
 some x7
 else
 some y0.2.2.1
def zA5:Nat->uP->Int->(List Int)->Option (List zD)
 | 0=>fun _ _ _=>none
 | k+1=>fun y0 y1 y2=>zBT (zA5 k) y0 y1 y2
def zBV (y0:uP)(y1:Int)(y2:List Int): Option (List zD):=z4n fun k=>zA5 k y0 y1 y2
def zLV (y0:qC)(y1:zG): Option Bool :=
 some (y0.1==y1)
def zAd (y0:List qC)(y1:zG)(s1:Int): Option (Int⊕Int) :=
 if decide (s1<(len y0)) then
 (zB y0 s1).bind fun x1 =>
 (zLV x1 y1).bind fun r1 =>
 if r1 then
 some (.inr s1)
 else
 some (.inl (zF (s1+1)))
 else
 some (.inr (-1))
def zAT (y0:List qC)(y1:zG): Option Int :=
 zO (zAd y0 y1) 0
def zEE (y0:zM)(y1:zG): Option Int :=
 (zAT y0.2.1 y1).bind fun r1 =>
 some r1
def zJC (y0:wM)(y1:zI): Option Bool :=
 some (y0.1==y1)
def zAN (y0:List wM)(y1:zI)(s1:Int): Option (Int⊕Int) :=
 if decide (s1<(len y0)) then
 (zB y0 s1).bind fun x1 =>
 (zJC x1 y1).bind fun r1 =>
 if r1 then
 some (.inr s1)
 else
 some (.inl (zF (s1+1)))
 else
 some (.inr (-1))
def zAH (y0:List wM)(y1:zI): Option Int :=
 zO (zAN y0 y1) 0
def zDb (y0:zM)(y1:zI): Option Int :=
 (zAH y0.1 y1).bind fun r1 =>
 some r1
def zE5 (y0:zG)(s1:Int): Option (Int⊕Bool) :=
 if decide (s1<(len y0)) then
 (xM y0 s1).bind fun x1 =>
 if(decide (97≤x1))&&(decide (x1≤122)) then
 some (.inl (zF (s1+1)))
 else
 if(decide (0<s1))&&(if decide (48≤x1) then(decide (x1≤57))||(x1==95) else x1==95) then
 some (.inl (zF (s1+1)))
 else
 some (.inr false)
 else
 some (.inr true)
def zB0 (y0:zG): Option Bool :=
 if((len y0)==0)||(decide (12<(len y0))) then
 some false
 else
 zO (zE5 y0) 0
def zBs (y0:zI): Option Bool :=
 (zB0 y0.2).bind fun r1 =>
 some r1
def zDJ (y0:Int): Option Bool :=
 some ((decide (0≤y0))&&(decide (y0≤9)))
def zFC (y0:zG): Option Bool :=
 (
 if y0==[] then
 some true
 else
 (zB0 y0).bind fun r1 =>
 some r1:Option Bool).bind fun s1 =>
 some s1
def zD8 (y0:wM): Option Int :=
 vK (
 (
 if y0.2.1==1 then
 some (y0.2.1==1)
 else
 some (y0.2.1==3):Option Bool).bind fun s2 =>
 if s2 then
 if y0.2.2.1 != 0 then
 some (.inr 1)
 else
 some (.inl ())
 else
 if y0.2.1==2 then
 (zDJ y0.2.2.1).bind fun r1 =>
 if !r1 then
 some (.inr 1)
 else
 some (.inl ())
 else
 some (.inr 4):Option (Unit⊕Int)) fun _ =>
 (
 (zBs y0.1).bind fun r2 =>
 if !r2 then
 some true
 else
 (zFC y0.2.2.2).bind fun r3 =>
 some (!r3):Option Bool).bind fun s3 =>
 if s3 then
 some 1
 else
 some 0
def zCn (y0:zM)(y1:wE): Option Int :=
 (
 (zDJ y1.2.1).bind fun r1 =>
 if !r1 then
 some true
 else
 (zBs y1.2.2).bind fun r2 =>
 some (!r2):Option Bool).bind fun s1 =>
 if s1 then
 some 1
 else
 (zEE y0 y1.1).bind fun r3 =>
 if decide (r3<0) then
 some 6
 else
 (zB y0.2.1 r3).bind fun x1 =>
 if x1.2.1 then
 some 4
 else
 some 0
def zD6 (y0:qC)(s3:Int): Option (Int⊕(Unit⊕Int)) :=
 if decide (s3<(len y0.2.2.2.1)) then
 (zB y0.2.2.2.1 s3).bind fun x1 =>
 (zBs x1).bind fun r4 =>
 if !r4 then
 some (.inr (.inr 1))
 else
 some (.inl (zF (s3+1)))
 else
 some (.inr (.inl ()))
def zHm (y0:qC)(s4:Int): Option (Int⊕Int) :=
 if decide (s4<(len y0.2.2.2.1)) then
 (zB y0.2.2.2.1 (zF (s4-1))).bind fun x2 =>
 (zB y0.2.2.2.1 s4).bind fun x3 =>
 (zBu x2 x3).bind fun r5 =>
 if decide (0≤r5) then
 some (.inr 8)
 else
 some (.inl (zF (s4+1)))
 else
 some (.inr 0)
def zGC (y0:qC): Option Int :=
 if decide (4<(len y0.2.2.2.1)) then
 some 2
 else
 (
 (zB0 y0.1).bind fun r1 =>
 if !r1 then
 some true
 else
 (zBs y0.2.2.2.2).bind fun r2 =>
 if !r2 then
 some true
 else
 (zDJ y0.2.2.1).bind fun r3 =>
 if !r3 then
 some true
 else
 if y0.2.1 then
 some (y0.2.2.1 != 0)
 else
 some false:Option Bool).bind fun s1 =>
 if s1 then
 some 1
 else
 vK (zO (zD6 y0) 0:Option (Unit⊕Int)) fun _ =>
 zO (zHm y0) 1
def zCN (y0:zM)(s2:Int): Option (Int⊕(Unit⊕Int)) :=
 if decide (s2<(len y0.1)) then
 (zB y0.1 s2).bind fun x1 =>
 (zD8 x1).bind fun r1 =>
 if r1 != 0 then
 some (.inr (.inr r1))
 else
 (zDb y0 x1.1).bind fun r2 =>
 if decide (r2<s2) then
 some (.inr (.inr 5))
 else
 some (.inl (zF (s2+1)))
 else
 some (.inr (.inl ()))
def zCP (y0:zM)(s4:Int): Option (Int⊕(Unit⊕Int)) :=
 if decide (s4<(len y0.2.1)) then
 (zB y0.2.1 s4).bind fun x2 =>
 (zGC x2).bind fun r3 =>
 if r3 != 0 then
 some (.inr (.inr r3))
 else
 (zEE y0 x2.1).bind fun r4 =>
 if decide (r4<s4) then
 some (.inr (.inr 5))
 else
 some (.inl (zF (s4+1)))
 else
 some (.inr (.inl ()))
def zCO (y0:zM)(s5:Int): Option (Int⊕Int) :=
 if decide (s5<(len y0.2.2)) then
 (zB y0.2.2 s5).bind fun x3 =>
 (zCn y0 x3).bind fun r5 =>
 if r5 != 0 then
 some (.inr r5)
 else
 some (.inl (zF (s5+1)))
 else
 some (.inr 0)
def zBr (y0:zM): Option Int :=
 if(decide (16<(len y0.1)))||((decide (24<(len y0.2.1)))||(decide (8<(len y0.2.2)))) then
 some 2
 else
 vK (zO (zCN y0) 0:Option (Unit⊕Int)) fun _ =>
 vK (zO (zCP y0) 0:Option (Unit⊕Int)) fun _ =>
 zO (zCO y0) 0
def zEF (y0:zM)(s2:Int×(List zD)): Option ((Int×(List zD))⊕(List zD)) :=
 if decide (s2.1<(len y0.1)) then
 (zB y0.1 s2.1).bind fun x1 =>
 (qD s2.2 ([(s2.1,(-1),([]:List Int),x1.1)]:List zD)).bind fun x2 =>
 some (.inl (zF (s2.1+1),x2))
 else
 some (.inr s2.2)
def zC7 (y0:zM)(s4:Int×(List zD)×(List zD)×Int)(s6:Int×(List zD)): Option ((Int×(List zD))⊕((List zD)⊕((Int×(List zD)×(List zD)×Int)⊕((List zD)×(List zD)×Int)))) :=
 if decide (s6.1<(len y0.2.1)) then
 (zB y0.2.1 s6.1).bind fun x3 =>
 (
 if decide (0<(len x3.2.2.2.1)) then
 (zBV (y0,s4.2.1,s6.2,s4.2.2.2) s6.1 ([]:List Int)).bind fun r2 =>
 some r2
 else
 if s4.1==1 then
 (qD s6.2 ([((-1),s6.1,([]:List Int),x3.2.2.2.2)]:List zD)).bind fun x4 =>
 some x4
 else
 some s6.2:Option (List zD)).bind fun s7 =>
 (zB2 (y0,s4.2.1,s7,s4.2.2.2)).bind fun r3 =>
 if r3 then
 some (.inr (.inr (.inr (s4.2.1,s7,s4.2.2.2))))
 else
 some (.inl (zF (s6.1+1),s7))
 else
 some (.inr (.inl s6.2))
def zBE (y0:zM)(s4:Int×(List zD)×(List zD)×Int): Option ((Int×(List zD)×(List zD)×Int)⊕((List zD)×(List zD)×Int)) :=
 vK (zO (zC7 y0 s4) (0,([]:List zD)):Option ((List zD)⊕((Int×(List zD)×(List zD)×Int)⊕((List zD)×(List zD)×Int)))) fun s5 =>
 if(len s5)==0 then
 some (.inr (s4.2.1,s5,s4.2.2.2))
 else
 (qD s4.2.1 s5).bind fun x5 =>
 some (.inl (zF (s4.1+1),x5,s5,len s4.2.1))
def zCq (y0:zM): Option ((List zD)×Int) :=
 (zBr y0).bind fun r1 =>
 if r1 != 0 then
 some (([]:List zD),r1)
 else
 (zO (zEF y0) (0,([]:List zD)):Option (List zD)).bind fun s1 =>
 (zO (zBE y0) (1,s1,([]:List zD),0):Option ((List zD)×(List zD)×Int)).bind fun s3 =>
 (zB2 (y0,s3.1,s3.2.1,s3.2.2)).bind fun r4 =>
 if r4 then
 some (([]:List zD),2)
 else
 some (s3.1,0)
def zJA (y0:zI): Option zI :=
 some (!y0.1,y0.2)
def zL6 (y0:zM)(y1:List zD)(y2:Int)(y3:Int): Option (List Int) :=
 (
 (zB y1 y2).bind fun x1 =>
 (zB y1 y3).bind fun x2 =>
 some (x1.2.2.2,x2):Option (zI×zD)).bind fun s1 =>
 (zJA s1.2.2.2.2).bind fun r1 =>
 if decide (0≤s1.2.1) then
 (
 if s1.1==r1 then
 (zB y0.1 s1.2.1).bind fun x3 =>
 some (x3.2.1 != 1)
 else
 some false:Option Bool).bind fun s2 =>
 if s2 then
 (qD ([]:List Int) ([1]:List Int)).bind fun x4 =>
 some x4
 else
 some ([]:List Int)
 else
 (zB y0.2.1 s1.2.2.1).bind fun x5 =>
 if !x5.2.1 then
 (
 if s1.1==r1 then
 (qD ([]:List Int) ([2]:List Int)).bind fun x6 =>
 some x6
 else
 some ([]:List Int):Option (List Int)).bind fun s3 =>
 (
 if s1.1.1 then
 (zB y0.2.1 s1.2.2.1).bind fun x7 =>
 some (s1.1.2==x7.1)
 else
 some false:Option Bool).bind fun s4 =>
 if s4 then
 (qD s3 ([3]:List Int)).bind fun x8 =>
 some x8
 else
 some s3
 else
 some ([]:List Int)
def zDd (y0:qQ)(y1:qQ): Option Int :=
 (zAh y0.1 y1.1).bind fun r1 =>
 (zAh y0.2.1 y1.2.1).bind fun r2 =>
 (zAh y0.2.2.1 y1.2.2.1).bind fun r3 =>
 (zAh y0.2.2.2 y1.2.2.2).bind fun r4 =>
 (zGV ([r1,r2,r3,r4]:List Int)).bind fun r5 =>
 some r5
def zAM (y0:List qQ): Option (List qQ):=z0j zDd y0
def zGj (r1:(List Int))(s3:(List qQ)×Int)(s4:(List qQ)×Int)(s2:(List qQ)×Int)(s5:(List qQ)×Int): Option (((List qQ)×Int)⊕(((List qQ)×Int)⊕(((List qQ)×Int)⊕(((List qQ)×Int)⊕(List qQ))))) :=
 if decide (s5.2<(len r1)) then
 (zB r1 s5.2).bind fun x1 =>
 (qD s5.1 ([(s3.2,s4.2,s2.2,x1)]:List qQ)).bind fun x2 =>
 some (.inl (x2,zF (s5.2+1)))
 else
 some (.inr (.inl (s5.1,zF (s4.2+1))))
def zDL (y1:List zD)(s2:(List qQ)×Int)(r1:(List Int))(s3:(List qQ)×Int)(s4:(List qQ)×Int): Option (((List qQ)×Int)⊕(((List qQ)×Int)⊕(((List qQ)×Int)⊕(List qQ)))) :=
 if decide (s4.2<(len y1)) then
 (zEH y1 s4.2).bind fun r2 =>
 (zAg r2 s2.2).bind fun r3 =>
 if !r3 then
 some (.inl (s4.1,zF (s4.2+1)))
 else
 zO (zGj r1 s3 s4 s2) (s4.1,0)
 else
 some (.inr (.inl (s4.1,zF (s3.2+1))))
def zDN (y1:List zD)(y0:zM)(s2:(List qQ)×Int)(s3:(List qQ)×Int): Option (((List qQ)×Int)⊕(((List qQ)×Int)⊕(List qQ))) :=
 if decide (s3.2<(len y1)) then
 (zL6 y0 y1 s3.2 s2.2).bind fun r1 =>
 if(len r1)==0 then
 some (.inl (s3.1,zF (s3.2+1)))
 else
 zO (zDL y1 s2 r1 s3) (s3.1,0)
 else
 some (.inr (.inl (s3.1,zF (s2.2+1))))
def zC4 (y1:List zD)(y0:zM)(s2:(List qQ)×Int): Option (((List qQ)×Int)⊕(List qQ)) :=
 if decide (s2.2<(len y1)) then
 zO (zDN y1 y0 s2) (s2.1,0)
 else
 some (.inr s2.1)
def zEj (y0:zM)(y1:List zD): Option (List qQ) :=
 (zO (zC4 y1 y0) (([]:List qQ),0):Option (List qQ)).bind fun s1 =>
 (zAM s1).bind fun r4 =>
 some r4
def zEX (r1:(List Int))(y0:List zD)(s2:(List Int)×Int): Option (((List Int)×Int)⊕(List Int)) :=
 if decide (s2.2<(len r1)) then
 (zB r1 s2.2).bind fun x1 =>
 (zB y0 x1).bind fun x2 =>
 if decide (0≤x2.1) then
 (zB y0 x1).bind fun x3 =>
 (qD s2.1 ([x3.1]:List Int)).bind fun x4 =>
 some (.inl (x4,zF (s2.2+1)))
 else
 some (.inl (s2.1,zF (s2.2+1)))
 else
 some (.inr s2.1)
def zC1 (y0:List zD)(y1:Int): Option (List Int) :=
 (
 (zEH y0 y1).bind fun r1 =>
 zO (zEX r1 y0) (([]:List Int),0):Option (List Int)).bind fun s1 =>
 (zBN s1).bind fun r2 =>
 some r2
def zJ6 (y0:Int)(y1:zM): Option Bool :=
 (zB y1.1 y0).bind fun x1 =>
 some (x1.2.1==3)
def zAO (y0:List Int)(y1:zM)(s1:Int): Option (Int⊕Int) :=
 if decide (s1<(len y0)) then
 (zB y0 s1).bind fun x1 =>
 (zJ6 x1 y1).bind fun r1 =>
 if r1 then
 some (.inr s1)
 else
 some (.inl (zF (s1+1)))
 else
 some (.inr (-1))
def zAX (y0:List Int)(y1:zM): Option Int :=
 zO (zAO y0 y1) 0
def zAP (y0:List Int)(y1:zM): Option Bool :=
 (zAX y0 y1).bind fun r1 =>
 some (decide (0≤r1))
def zH2 (y0:zM)(y1:List zD)(y2:Int): Option Bool :=
 (zC1 y1 y2).bind fun r1 =>
 (zAP r1 y0).bind fun r2 =>
 some r2
def zDc (x5:zD)(rec_argument_Last:zM->(List zD)->Int->Option (List Int))(y0:zM)(y1:List zD)(s3:(List Int)×Int): Option (((List Int)×Int)⊕(List Int)) :=
 if decide (s3.2<(len x5.2.2.1)) then
 (zB x5.2.2.1 s3.2).bind fun x6 =>
 (rec_argument_Last y0 y1 x6).bind fun r2 =>
 (qD s3.1 r2).bind fun x7 =>
 some (.inl (x7,zF (s3.2+1)))
 else
 some (.inr s3.1)
def zFq (rec_argument_Last:zM->(List zD)->Int->Option (List Int))(y0:zM)(y1:List zD)(y2:Int): Option (List Int) :=
 (
 (zAu y1 y2).bind fun r1 =>
 if !r1 then
 some true
 else
 (zB y1 y2).bind fun x1 =>
 some (decide (x1.2.1<0)):Option Bool).bind fun s1 =>
 if s1 then
 some ([]:List Int)
 else
 (zB y1 y2).bind fun x2 =>
 (zB y0.2.1 x2.2.1).bind fun x3 =>
 if !x3.2.1 then
 (zB y1 y2).bind fun x4 =>
 some ([x4.2.1]:List Int)
 else
 (
 (zB y1 y2).bind fun x5 =>
 zO (zDc x5 rec_argument_Last y0 y1) (([]:List Int),0):Option (List Int)).bind fun s2 =>
 (zBN s2).bind fun r3 =>
 (zAq r3).bind fun r4 =>
 some r4
def zDY:Nat->zM->(List zD)->Int->Option (List Int)
 | 0=>fun _ _ _=>none
 | k+1=>fun y0 y1 y2=>zFq (zDY k) y0 y1 y2
def zIN (y0:zM)(y1:List zD)(y2:Int): Option (List Int):=z4n fun k=>zDY k y0 y1 y2
def zKK (y1:List Int)(y0:zM)(s1:(List Int)×Int): Option (((List Int)×Int)⊕(List Int)) :=
 if decide (s1.2<(len y1)) then
 (zB y1 s1.2).bind fun x1 =>
 (zB y0.2.1 x1).bind fun x2 =>
 (qD s1.1 ([x2.2.2.1]:List Int)).bind fun x3 =>
 some (.inl (x3,zF (s1.2+1)))
 else
 some (.inr s1.1)
def zKB (y0:zM)(y1:List Int): Option (List Int) :=
 zO (zKK y1 y0) (([]:List Int),0)
def zCT (y0:zM)(y1:List zD)(y2:Int): Option (List Int) :=
 (zIN y0 y1 y2).bind fun r1 =>
 (zKB y0 r1).bind fun r2 =>
 some r2
def zGa (y0:List Int)(s2:Int×Int): Option ((Int×Int)⊕Int) :=
 if decide (s2.2<(len y0)) then
 (zB y0 s2.2).bind fun x2 =>
 some (.inl (if x2 > s2.1 then x2 else s2.1,zF (s2.2+1)))
 else
 some (.inr s2.1)
def zDg (y0:List Int): Option Int :=
 (
 if decide ((len y0)<1) then
 none
 else
 some ():Option Unit).bind fun _ =>
 (zB y0 0).bind fun x1 =>
 zO (zGa y0) (x1,1)
def zGc (y0:List Int)(s2:Int×Int): Option ((Int×Int)⊕Int) :=
 if decide (s2.2<(len y0)) then
 (zB y0 s2.2).bind fun x2 =>
 some (.inl (if x2<s2.1 then x2 else s2.1,zF (s2.2+1)))
 else
 some (.inr s2.1)
def zDl (y0:List Int): Option Int :=
 (
 if decide ((len y0)<1) then
 none
 else
 some ():Option Unit).bind fun _ =>
 (zB y0 0).bind fun x1 =>
 zO (zGc y0) (x1,1)
def zDy (y0:List Int)(y1:List Int)(y2:Int): Option Bool :=
 if if y2 != 1 then(y2 != 2)||((len y0)==0) else(len y0)==0 then
 some false
 else
 if(len y1)==0 then
 some true
 else
 if y2==1 then
 (zDl y0).bind fun r1 =>
 (zDl y1).bind fun r2 =>
 some (decide (r1<r2))
 else
 (zDg y0).bind fun r3 =>
 (zDg y1).bind fun r4 =>
 some (decide (r3<r4))
def zAw (y0:zM)(y1:List zD)(y2:Int)(y3:Int)(y4:yG): Option Bool :=
 (zCT y0 y1 y2).bind fun r1 =>
 (zCT y0 y1 y3).bind fun r2 =>
 (zDy r1 r2 y4.2).bind fun r3 =>
 some r3
def zE0 (r1:(List Int))(y0:zM)(s1:(List Int)×Int): Option (((List Int)×Int)⊕(List Int)) :=
 if decide (s1.2<(len r1)) then
 (zB r1 s1.2).bind fun x1 =>
 (zB y0.1 x1).bind fun x2 =>
 if x2.2.1==2 then
 (qD s1.1 ([x2.2.2.1]:List Int)).bind fun x3 =>
 some (.inl (x3,zF (s1.2+1)))
 else
 if x2.2.1==3 then
 (qD s1.1 ([(-1)]:List Int)).bind fun x4 =>
 some (.inl (x4,zF (s1.2+1)))
 else
 some (.inl (s1.1,zF (s1.2+1)))
 else
 some (.inr s1.1)
def zBW (y0:zM)(y1:List zD)(y2:Int): Option (List Int) :=
 (zC1 y1 y2).bind fun r1 =>
 zO (zE0 r1 y0) (([]:List Int),0)
def zAF (y0:zM)(y1:List zD)(y2:Int)(y3:Int)(y4:yG): Option Bool :=
 (zBW y0 y1 y2).bind fun r1 =>
 (zBW y0 y1 y3).bind fun r2 =>
 (zDy r1 r2 y4.2).bind fun r3 =>
 some r3
def zAv (y0:zM)(y1:List zD)(y2:Int)(y3:Int): Option Bool :=
 (
 (zCT y0 y1 y2).bind fun r1 =>
 if(len r1)==0 then
 (zCT y0 y1 y3).bind fun r2 =>
 some ((len r2)==0)
 else
 some false:Option Bool).bind fun s1 =>
 some s1
def zBz (y1:zM)(y2:List zD)(y3:Int)(y4:Int)(y5:yG): Option Bool :=
 (
 (zAw y1 y2 y3 y4 y5).bind fun r1 =>
 if r1 then
 some true
 else
 (zAv y1 y2 y3 y4).bind fun r2 =>
 if r2 then
 (zAF y1 y2 y3 y4 y5).bind fun r3 =>
 some r3
 else
 some false:Option Bool).bind fun s1 =>
 some s1
def zC0 (y0:zM)(y1:List zD)(y2:Int): Option (List Int) :=
 (zBt y0 y1 y2).bind fun r1 =>
 (zKB y0 r1).bind fun r2 =>
 some r2
def zA4 (y0:zM)(y1:List zD)(y2:Int)(y3:Int)(y4:yG): Option Bool :=
 (zC0 y0 y1 y2).bind fun r1 =>
 (zC0 y0 y1 y3).bind fun r2 =>
 (zDy r1 r2 y4.2).bind fun r3 =>
 some r3
def zAb (y0:zM)(y1:List zD)(y2:Int)(y3:Int): Option Bool :=
 (
 (zBW y0 y1 y2).bind fun r1 =>
 if(len r1)==0 then
 (zBW y0 y1 y3).bind fun r2 =>
 some ((len r2)==0)
 else
 some false:Option Bool).bind fun s1 =>
 some s1
def zAz (y0:zM)(y1:List zD)(y2:Int)(y3:Int): Option Bool :=
 (
 (zC0 y0 y1 y2).bind fun r1 =>
 if(len r1)==0 then
 (zC0 y0 y1 y3).bind fun r2 =>
 some ((len r2)==0)
 else
 some false:Option Bool).bind fun s1 =>
 some s1
def zCB (y1:zM)(y2:List zD)(y3:Int)(y4:Int)(y6:yG): Option Bool :=
 (zAz y1 y2 y3 y4).bind fun r1 =>
 if r1 then
 (zAF y1 y2 y3 y4 y6).bind fun r2 =>
 some r2
 else
 (zAb y1 y2 y3 y4).bind fun r3 =>
 if r3 then
 (zA4 y1 y2 y3 y4 y6).bind fun r4 =>
 some r4
 else
 (
 (zAF y1 y2 y3 y4 y6).bind fun r5 =>
 if r5 then
 (zA4 y1 y2 y3 y4 y6).bind fun r6 =>
 some r6
 else
 some false:Option Bool).bind fun s1 =>
 some s1
def zLI (y0:zM)(y1:List zD)(y2:Int)(y3:Int)(y4:yG): Option Bool :=
 (
 if decide ((if y3<y2 then y3 else y2)<0) then
 some true
 else
 if decide ((len y1)≤(if y3 > y2 then y3 else y2)) then
 some true
 else
 (zH2 y0 y1 y3).bind fun r1 =>
 some r1:Option Bool).bind fun s1 =>
 if s1 then
 some false
 else
 if y4.1==1 then
 (zBz y0 y1 y2 y3 y4).bind fun r2 =>
 some r2
 else
 if y4.1==2 then
 (zCB y0 y1 y2 y3 y4).bind fun r3 =>
 some r3
 else
 some false
def zCG (y0:qQ)(y1:zM)(y2:List zD)(y3:yG): Option Bool :=
 (
 if y0.2.2.2 != 3 then
 (zLI y1 y2 y0.1 y0.2.2.1 y3).bind fun r1 =>
 some r1
 else
 some false:Option Bool).bind fun s1 =>
 some s1
def zBH (y0:List qQ)(y1:zM)(y2:List zD)(y3:yG)(s1:Int): Option (Int⊕Int) :=
 if decide (s1<(len y0)) then
 (zB y0 s1).bind fun x1 =>
 (zCG x1 y1 y2 y3).bind fun r1 =>
 if r1 then
 some (.inr s1)
 else
 some (.inl (zF (s1+1)))
 else
 some (.inr (-1))
def zAc (y0:List qQ)(y1:zM)(y2:List zD)(y3:yG): Option Int :=
 zO (zBH y0 y1 y2 y3) 0
def zBF (y0:List qQ)(y1:zM)(y2:List zD)(y3:yG)(s2:(List qQ)×Int×Int): Option (((List qQ)×Int×Int)⊕((List qQ)×Int)) :=
 if decide (s2.2.2<(len y0)) then
 (zB s2.1 s2.2.2).bind fun x1 =>
 (zCG x1 y1 y2 y3).bind fun r2 =>
 if !r2 then
 (zB s2.1 s2.2.1).bind fun _ =>
 some (.inl (List.set s2.1 (Int.toNat s2.2.1) x1,zF (s2.2.1+1),zF (s2.2.2+1)))
 else
 some (.inl (s2.1,s2.2.1,zF (s2.2.2+1)))
 else
 some (.inr (s2.1,s2.2.1))
def zAK (y0:List qQ)(y1:zM)(y2:List zD)(y3:yG): Option (List qQ) :=
 (zAc y0 y1 y2 y3).bind fun r1 =>
 if r1==(-1) then
 some y0
 else
 (zO (zBF y0 y1 y2 y3) (y0,r1,zF (r1+1)):Option ((List qQ)×Int)).bind fun s1 =>
 (vJ (decide (0≤s1.2)&&decide (s1.2≤len s1.1))).bind fun _ =>
 (sub (zDV s1.1 s1.2 (0,0,0,0)) 0 s1.2).bind fun x3 =>
 some x3
def zDe (y0:zM)(y1:List zD)(y2:yG): Option (List qQ) :=
 (zEj y0 y1).bind fun r1 =>
 (zAK r1 y0 y1 y2).bind fun r2 =>
 some r2
def zOg (y0:List zT)(s1:Int)(s3:(List zT)×Int×Int): Option (((List zT)×Int×Int)⊕((List zT)×Int)) :=
 if decide (s3.2.2<((Int.toNat (((List.length y0:Nat):Int)-s1):Nat):Int)) then
 (zZQ s3.1 s1 s3.2.2).bind fun x3 =>
 (zZQ s3.1 s1 (zF (s3.2.2-1))).bind fun x4 =>
 if !(x3==x4) then
 (zZQ s3.1 s1 s3.2.2).bind fun x5 =>
 (zB s3.1 s3.2.1).bind fun _ =>
 some (.inl (List.set s3.1 (Int.toNat s3.2.1) x5,zF (s3.2.1+1),zF (s3.2.2+1)))
 else
 some (.inl (s3.1,s3.2.1,zF (s3.2.2+1)))
 else
 some (.inr (s3.1,s3.2.1))
def zFz (y0:List zT)(s1:Int): Option (Int⊕(List zT)) :=
 if decide (s1<(len y0)) then
 (zB y0 s1).bind fun x1 =>
 (zB y0 (zF (s1-1))).bind fun x2 =>
 if x1==x2 then
 (vJ (decide (0≤s1)&&decide (s1≤len y0))).bind fun _ =>
 (zO (zOg y0 s1) (y0,s1,1):Option ((List zT)×Int)).bind fun s2 =>
 (vJ (decide (0≤s2.2)&&decide (s2.2≤len s2.1))).bind fun _ =>
 (sub (zDV s2.1 s2.2 (0,0)) 0 s2.2).bind fun x7 =>
 some (.inr x7)
 else
 some (.inl (zF (s1+1)))
 else
 some (.inr y0)
def zDX (y0:List zT): Option (List zT) :=
 if decide ((len y0)<2) then
 some y0
 else
 zO (zFz y0) 1
def zEi (y0:zT)(y1:zT): Option Int :=
 (zAh y0.1 y1.1).bind fun r1 =>
 (zAh y0.2 y1.2).bind fun r2 =>
 (zGV ([r1,r2]:List Int)).bind fun r3 =>
 some r3
def zAW (y0:List zT): Option (List zT):=z0j zEi y0
def zFy (y1:List qQ)(y0:Int)(s2:Int×(List zT)): Option ((Int×(List zT))⊕((List zT)⊕(zY×Int))) :=
 if decide (s2.1<(len y1)) then
 (zB y1 s2.1).bind fun x1 =>
 if(decide ((if x1.2.1<x1.1 then x1.2.1 else x1.1)<0))||(decide (y0≤(if x1.2.1 > x1.1 then x1.2.1 else x1.1))) then
 some (.inr (.inr ((0,([]:List zT)),1)))
 else
 (qD s2.2 ([(x1.1,x1.2.1)]:List zT)).bind fun x2 =>
 some (.inl (zF (s2.1+1),x2))
 else
 some (.inr (.inl s2.2))
def zFI (y0:Int)(y1:List qQ): Option (zY×Int) :=
 if(decide (y0<0))||(decide (40<y0)) then
 some ((0,([]:List zT)),1)
 else
 vK (zO (zFy y1 y0) (0,([]:List zT)):Option ((List zT)⊕(zY×Int))) fun s1 =>
 (zAW s1).bind fun r1 =>
 (zDX r1).bind fun r2 =>
 some ((y0,r2),0)
def zEZ (y0:List wM): Option (List wM) :=
 (qD ([]:List wM) y0).bind fun x1 =>
 some x1
def zD2 (y0:List wE): Option (List wE) :=
 (qD ([]:List wE) y0).bind fun x1 =>
 some x1
def zGq (y0:List qC): Option (List qC) :=
 (qD ([]:List qC) y0).bind fun x1 =>
 some x1
def zDS (y0:zM)(x1:qC)(y1:List zI)(s3:Int×(List qC))(s4:Int×(List qC)): Option ((Int×(List qC))⊕((Int×(List qC))⊕(List qC))) :=
 if decide (s4.1<(len y0.2.2)) then
 (zB y0.2.2 s4.1).bind fun x3 =>
 (
 if !x1.2.1 then
 if x3.1==x1.1 then
 (zFD y1 x3.2.2).bind fun r11 =>
 some r11
 else
 some false
 else
 some false:Option Bool).bind fun s5 =>
 if s5 then
 (zB s4.2 s3.1).bind fun x4 =>
 some (.inl (zF (s4.1+1),List.set s4.2 (Int.toNat s3.1) (x4.1,x4.2.1,x3.2.1,x4.2.2.2.1,x4.2.2.2.2)))
 else
 some (.inl (zF (s4.1+1),s4.2))
 else
 some (.inr (.inl (zF (s3.1+1),s4.2)))
def zCa (y0:zM)(y1:List zI)(s3:Int×(List qC)): Option ((Int×(List qC))⊕(List qC)) :=
 if decide (s3.1<(len y0.2.1)) then
 (zB y0.2.1 s3.1).bind fun x1 =>
 (zDF x1.2.2.2.1).bind fun r10 =>
 (zB s3.2 s3.1).bind fun x2 =>
 zO (zDS y0 x1 y1 s3) (0,List.set s3.2 (Int.toNat s3.1) (x2.1,x2.2.1,x2.2.2.1,r10,x2.2.2.2.2))
 else
 some (.inr s3.2)
def zD4 (y0:zM)(y1:List zI): Option zM :=
 (
 (zEZ y0.1).bind fun r1 =>
 (zGq y0.2.1).bind fun r2 =>
 (zD2 y0.2.2).bind fun r3 =>
 some (r1,r2,r3):Option zM).bind fun s1 =>
 (zO (zCa y0 y1) (0,s1.2.1):Option (List qC)).bind fun s2 =>
 some (s1.1,s2,s1.2.2)
def zCX (y0:zM)(y1:yG): Option (zCL×Int) :=
 (zCq y0).bind fun r1 =>
 if r1.2 != 0 then
 some (((([]:List wM),([]:List qC),([]:List wE)),([]:List zD),([]:List qQ),(0,([]:List zT))),r1.2)
 else
 if if y1.1 != 1 then(y1.1 != 2)||((y1.2 != 1)&&(y1.2 != 2)) else(y1.2 != 1)&&(y1.2 != 2) then
 some (((([]:List wM),([]:List qC),([]:List wE)),([]:List zD),([]:List qQ),(0,([]:List zT))),4)
 else
 (zDe y0 r1.1 y1).bind fun r2 =>
 (zFI (len r1.1) r2).bind fun r3 =>
 if r3.2 != 0 then
 some (((([]:List wM),([]:List qC),([]:List wE)),([]:List zD),([]:List qQ),(0,([]:List zT))),r3.2)
 else
 (zCW r3.1).bind fun r4 =>
 (zA3 r4 1).bind fun r5 =>
 (zBI r1.1 r5).bind fun r6 =>
 (zD4 y0 r6).bind fun r7 =>
 (zDe r7 r1.1 y1).bind fun r8 =>
 (zFI (len r1.1) r8).bind fun r9 =>
 if r9.2 != 0 then
 some (((([]:List wM),([]:List qC),([]:List wE)),([]:List zD),([]:List qQ),(0,([]:List zT))),r9.2)
 else
 some ((r7,r1.1,r8,r9.1),0)
def zDk (y0:zI): Option zG :=
 (zBs y0).bind fun r1 =>
 if !r1 then
 some []
 else
 if y0.1 then
 (cat [126] y0.2).bind fun x1 =>
 some x1
 else
 some y0.2
def zDs (y0:Int)(y1:Int): Option zG:=z98 y0 y1
def zG7 (y0:Int): Option zG :=
 (zDs y0 10).bind fun r1 =>
 some r1
def zFJ (y0:Int): Option zG :=
 (zG7 y0).bind fun r1 =>
 some r1
def zJ3 (y0:List zG)(y1:zG): Option zG:=z9I y0 y1
def zE3 (y0:wM): Option zG :=
 (zB zAl y0.2.1).bind fun x1 =>
 (zDk y0.1).bind fun r1 =>
 (
 if y0.2.1==2 then
 (zFJ y0.2.2.1).bind fun r2 =>
 (qD ([x1,r1]:List zG) ([r2]:List zG)).bind fun x2 =>
 some x2
 else
 some ([x1,r1]:List zG):Option (List zG)).bind fun s1 =>
 (
 if !(y0.2.2.2==[]) then
 (qD s1 ([[102,114,111,109],y0.2.2.2]:List zG)).bind fun x3 =>
 some x3
 else
 some s1:Option (List zG)).bind fun s2 =>
 (zJ3 s2 [32]).bind fun r3 =>
 some r3
def zD5 (y0:wE): Option zG :=
 (cat [112,114,111,109,111,116,101,32] y0.1).bind fun x1 =>
 (cat x1 [32]).bind fun x2 =>
 (zFJ y0.2.1).bind fun r1 =>
 (cat x2 r1).bind fun x3 =>
 (cat x3 [32,105,102,32]).bind fun x4 =>
 (zDk y0.2.2).bind fun r2 =>
 (cat x4 r2).bind fun x5 =>
 some x5
def zDD (y0:qC)(s3:(List zG)×Int): Option (((List zG)×Int)⊕(List zG)) :=
 if decide (s3.2<(len y0.2.2.2.1)) then
 (zB y0.2.2.2.1 s3.2).bind fun x3 =>
 (zDk x3).bind fun r2 =>
 (
 if decide (s3.2<(zF ((len y0.2.2.2.1)-1))) then
 (cat r2 [44]).bind fun x4 =>
 some x4
 else
 some r2:Option zG).bind fun s4 =>
 (qD s3.1 ([s4]:List zG)).bind fun x5 =>
 some (.inl (x5,zF (s3.2+1)))
 else
 some (.inr s3.1)
def zG8 (y0:qC): Option zG :=
 (cat y0.1 [58]).bind fun x1 =>
 (
 if !y0.2.1 then
 (zFJ y0.2.2.1).bind fun r1 =>
 (cat r1 [58]).bind fun x2 =>
 some (([[114,117,108,101],y0.1,x2]:List zG),[61,62])
 else
 some (([[115,116,114,105,99,116],x1]:List zG),[45,62]):Option ((List zG)×zG)).bind fun s1 =>
 (zO (zDD y0) (s1.1,0):Option (List zG)).bind fun s2 =>
 (zDk y0.2.2.2.2).bind fun r3 =>
 (qD s2 ([s1.2,r3]:List zG)).bind fun x6 =>
 (zJ3 x6 [32]).bind fun r4 =>
 some r4
def zAB (y0:zAG): Option (zG×(List zG)×Bool) :=
 if(len y0.1)==0 then
 some ([],y0.1,true)
 else
 (zB y0.1 0).bind fun x1 =>
 (sub y0.1 1 (len y0.1)).bind fun x2 =>
 some (x1,x2,y0.2)
def zKH (y0:zG): Option (zI×Int) :=
 (
 (
 if decide (0<(len y0)) then
 (xM y0 0).bind fun x1 =>
 some (x1==126)
 else
 some false:Option Bool).bind fun s2 =>
 if s2 then
 (sub y0 1 (len y0)).bind fun x2 =>
 some (x2,true)
 else
 some (y0,false):Option (zG×Bool)).bind fun s1 =>
 (zBs (s1.2,s1.1)).bind fun r1 =>
 if !r1 then
 some ((false,[]),3)
 else
 some ((s1.2,s1.1),0)
def zBh (y0:zG)(y1:zG): Option Bool :=
 (
 if decide ((len y1)≤(len y0)) then
 (sub y0 (zF ((len y0)-(len y1))) (len y0)).bind fun x1 =>
 some (x1==y1)
 else
 some false:Option Bool).bind fun s1 =>
 some s1
def zCw (y0:zG)(y1:zG): Option (zG×Bool) :=
 (zBh y0 y1).bind fun r1 =>
 if !r1 then
 some (y0,false)
 else
 (sub y0 0 (zF ((len y0)-(len y1)))).bind fun x1 =>
 some (x1,true)
def zDK (y0:zG)(y1:zG): Option (zG×Bool) :=
 (zCw y0 y1).bind fun r1 =>
 some (r1.1,r1.2)
def zAV (y0:zAG)(y1:zG): Option (zI×(List zG)×Bool) :=
 (zAB y0).bind fun r1 =>
 (zDK r1.1 y1).bind fun r2 =>
 (zKH r2.1).bind fun r3 =>
 (
 if r1.2.2 then
 some true
 else
 if !r2.2 then
 some true
 else
 some (r3.2 != 0):Option Bool).bind fun s1 =>
 some (r3.1,r1.2.1,s1)
def zAJ (y0:zAG)(y1:zG): Option (zG×(List zG)×Bool) :=
 (zAB y0).bind fun r1 =>
 (zDK r1.1 y1).bind fun r2 =>
 (
 if r1.2.2 then
 some true
 else
 if !r2.2 then
 some true
 else
 (zB0 r2.1).bind fun r3 =>
 some (!r3):Option Bool).bind fun s1 =>
 some (r2.1,r1.2.1,s1)
def zAf (y0:zAG)(y1:zG): Option (Int×(List zG)×Bool) :=
 (zAB y0).bind fun r1 =>
 (zDK r1.1 y1).bind fun r2 =>
 (
 if !r2.2 then
 some true
 else
 if(len r2.1) != 1 then
 some true
 else
 (xM r2.1 0).bind fun x1 =>
 if decide (x1<48) then
 some true
 else
 (xM r2.1 0).bind fun x2 =>
 some (decide (57<x2)):Option Bool).bind fun s1 =>
 if s1 then
 some (0,r1.2.1,true)
 else
 (xM r2.1 0).bind fun x3 =>
 some (zF (IntKind.u8.wrap (x3-48)),r1.2.1,r1.2.2)
def zBe (y0:zAG)(y1:Int): Option (wM×(List zG)×Bool) :=
 (zAV y0 []).bind fun r1 =>
 (
 if y1==2 then
 (zAf (r1.2.1,r1.2.2) []).bind fun r2 =>
 some (r2.2.1,r2.2.2,r2.1)
 else
 some (r1.2.1,r1.2.2,0):Option ((List zG)×Bool×Int)).bind fun s1 =>
 (
 if decide (0<(len s1.1)) then
 (
 if s1.2.1 then
 some (s1.1,true)
 else
 (zAB (s1.1,s1.2.1)).bind fun r3 =>
 some (r3.2.1,!(r3.1==[102,114,111,109])):Option ((List zG)×Bool)).bind fun s3 =>
 (zAJ (s3.1,s3.2) []).bind fun r4 =>
 some (r4.2.1,r4.2.2,r4.1)
 else
 some (s1.1,s1.2.1,[]):Option ((List zG)×Bool×zG)).bind fun s2 =>
 some ((r1.1,y1,s1.2.2,s2.2.2),s2.1,s2.2.1)
def zBU (y0:zAG): Option (wE×(List zG)×Bool) :=
 (zAJ y0 []).bind fun r1 =>
 (zAf (r1.2.1,r1.2.2) []).bind fun r2 =>
 (
 if r2.2.2 then
 some (r2.2.1,true)
 else
 (zAB (r2.2.1,r2.2.2)).bind fun r3 =>
 some (r3.2.1,!(r3.1==[105,102])):Option ((List zG)×Bool)).bind fun s1 =>
 (zAV (s1.1,s1.2) []).bind fun r4 =>
 some ((r1.1,r2.1,r4.1),r4.2.1,r4.2.2)
def zBP (s3:(List zG)×Bool×(List zI)): Option (((List zG)×Bool×(List zI))⊕((List zG)×Bool×(List zI))) :=
 if(decide (2<(len s3.1)))&&(!s3.2.1) then
 (
 if(len s3.1)==3 then
 some []
 else
 some [44]:Option zG).bind fun s4 =>
 (zAV (s3.1,s3.2.1) s4).bind fun r4 =>
 (qD s3.2.2 ([r4.1]:List zI)).bind fun x1 =>
 some (.inl (r4.2.1,r4.2.2,x1))
 else
 some (.inr (s3.1,s3.2.1,s3.2.2))
def zC8 (y0:zAG)(y1:Bool): Option (qC×(List zG)×Bool) :=
 (
 if y1 then
 (zAJ y0 [58]).bind fun r1 =>
 some ([45,62],r1.2.1,r1.2.2,r1.1,0)
 else
 (zAJ y0 []).bind fun r2 =>
 (zAf (r2.2.1,r2.2.2) [58]).bind fun r3 =>
 some ([61,62],r3.2.1,r3.2.2,r2.1,r3.1):Option (zG×(List zG)×Bool×zG×Int)).bind fun s1 =>
 (zO (zBP) (s1.2.1,s1.2.2.1,([]:List zI)):Option ((List zG)×Bool×(List zI))).bind fun s2 =>
 (
 if s2.2.1 then
 some (s2.1,true)
 else
 (zAB (s2.1,s2.2.1)).bind fun r5 =>
 some (r5.2.1,!(r5.1==s1.1)):Option ((List zG)×Bool)).bind fun s5 =>
 (zAV (s5.1,s5.2) []).bind fun r6 =>
 some ((s1.2.2.2.1,y1,s1.2.2.2.2,s2.2.2,r6.1),r6.2.1,r6.2.2)
def zKJ (r1:zG×(List zG)×Bool)(s3:Int×Int): Option ((Int×Int)⊕Int) :=
 if decide (s3.2<4) then
 (zB zAl s3.2).bind fun x1 =>
 if x1==r1.1 then
 some (.inl (s3.2,zF (s3.2+1)))
 else
 some (.inl (s3.1,zF (s3.2+1)))
 else
 some (.inr s3.1)
def zCo (y0:zAG)(y1:zM): Option (Int×zG×(List zG)×Bool×(List wM)×(List qC)×(List wE)) :=
 (zAB y0).bind fun r1 =>
 (
 if r1.1==[97,120,105,111,109] then
 some (r1.1==[97,120,105,111,109])
 else
 if r1.1==[112,114,101,109,105,115,101] then
 some (r1.1==[112,114,101,109,105,115,101])
 else
 some (r1.1==[97,115,115,117,109,101]):Option Bool).bind fun s1 =>
 if s1 then
 (zO (zKJ r1) (1,0):Option Int).bind fun s2 =>
 (zBe (r1.2.1,r1.2.2) s2).bind fun r2 =>
 (qD y1.1 ([r2.1]:List wM)).bind fun x2 =>
 (zE3 r2.1).bind fun r3 =>
 some (1,r3,r2.2.1,r2.2.2,x2,y1.2.1,y1.2.2)
 else
 (
 if r1.1==[115,116,114,105,99,116] then
 some (r1.1==[115,116,114,105,99,116])
 else
 some (r1.1==[114,117,108,101]):Option Bool).bind fun s4 =>
 if s4 then
 (zC8 (r1.2.1,r1.2.2) (r1.1==[115,116,114,105,99,116])).bind fun r4 =>
 (qD y1.2.1 ([r4.1]:List qC)).bind fun x3 =>
 (zG8 r4.1).bind fun r5 =>
 some (2,r5,r4.2.1,r4.2.2,y1.1,x3,y1.2.2)
 else
 if r1.1==[112,114,111,109,111,116,101] then
 (zBU (r1.2.1,r1.2.2)).bind fun r6 =>
 (qD y1.2.2 ([r6.1]:List wE)).bind fun x4 =>
 (zD5 r6.1).bind fun r7 =>
 some (3,r7,r6.2.1,r6.2.2,y1.1,y1.2.1,x4)
 else
 some (0,[],r1.2.1,r1.2.2,y1.1,y1.2.1,y1.2.2)
def zDt (y0:zG)(y1:zG): Option Int:=z4p y0 y1
def zEh (y0:zG)(y1:zG): Option (zG×zG×Bool) :=
 (zDt y0 y1).bind fun r1 =>
 if decide (0≤r1) then
 (sub y0 0 r1).bind fun x1 =>
 (sub y0 (zF (r1+(len y1))) (len y0)).bind fun x2 =>
 some (x1,x2,true)
 else
 some (y0,[],false)
def zMi (y0:zG)(y1:zG): Option (zG×zG×Bool) :=
 (zEh y0 y1).bind fun r1 =>
 some (r1.1,r1.2.1,r1.2.2)
def zJe (y0:zG): Option (List zG):=z06 y0
def zET (s2:zG×Int×Int×(List wM)×(List qC)×(List wE)): Option ((zG×Int×Int×(List wM)×(List qC)×(List wE))⊕(((List wM)×(List qC)×(List wE))⊕(zM×Int×Int))) :=
 if !(s2.1==[]) then
 (zMi s2.1 [10]).bind fun r1 =>
 (zJe r1.1).bind fun r2 =>
 (zCo (r2,false) (s2.2.2.2.1,s2.2.2.2.2.1,s2.2.2.2.2.2)).bind fun r3 =>
 if(!r1.2.2)||(r3.2.2.2.1||((decide (0<(len r3.2.2.1)))||((!(r3.2.1==r1.1))||(decide (r3.1<s2.2.1))))) then
 some (.inr (.inr ((([]:List wM),([]:List qC),([]:List wE)),s2.2.2.1,3)))
 else
 some (.inl (r1.2.1,r3.1,zF (s2.2.2.1+1),r3.2.2.2.2.1,r3.2.2.2.2.2.1,r3.2.2.2.2.2.2))
 else
 some (.inr (.inl (s2.2.2.2.1,s2.2.2.2.2.1,s2.2.2.2.2.2)))
def zJ8 (y0:zG): Option (zM×Int×Int) :=
 if decide (4096<(len y0)) then
 some ((([]:List wM),([]:List qC),([]:List wE)),0,2)
 else
 vK (zO (zET) (y0,1,1,([]:List wM),([]:List qC),([]:List wE)):Option (((List wM)×(List qC)×(List wE))⊕(zM×Int×Int))) fun s1 =>
 (zBr (s1.1,s1.2.1,s1.2.2)).bind fun r4 =>
 if r4 != 0 then
 some ((([]:List wM),([]:List qC),([]:List wE)),0,r4)
 else
 some ((s1.1,s1.2.1,s1.2.2),0,0)
def zK4:Option Bool :=
 (zJ8 [112,114,101,109,105,115,101,32,112,32,49,10,112,114,101,109,105,115,101,32,126,112,32,49,10,97,120,105,111,109,32,120,10,114,117,108,101,32,97,32,49,58,32,61,62,32,113,10,114,117,108,101,32,98,32,49,58,32,61,62,32,126,113,10,112,114,111,109,111,116,101,32,98,32,50,32,105,102,32,120,10]).bind fun r1 =>
 (zCX r1.1 (1,1)).bind fun r2 =>
 (zAx r2.1 1 true).bind fun r3 =>
 (zAx r2.1 3 false).bind fun r4 =>
 (
 if r1.2.2==0 then
 if r2.2==0 then
 if r3.2==0 then
 if(len r3.1)==2 then
 (zB r3.1 0).bind fun x1 =>
 if x1==(true,[113]) then
 if r4.2==0 then
 some ((len r4.1)==4)
 else
 some false
 else
 some false
 else
 some false
 else
 some false
 else
 some false
 else
 some false:Option Bool).bind fun s1 =>
 some s1
def zMN:Option (List yG) :=
 some ([(1,1),(1,2),(2,1),(2,2)]:List yG)
def zFg (y0:Int): Option zG :=
 (zLQ y0 26).bind fun r1 =>
 (cat [114] (zWJ ([IntKind.u8.wrap (zF (97+r1))]:List Int))).bind fun x1 =>
 some x1
def zL7 (y0:uG): Option (Int×Int) :=
 if decide ((len y0.1)≤y0.2) then
 some (0,y0.2)
 else
 (zB y0.1 (zF ((zF (y0.2+1))-1))).bind fun x1 =>
 some (x1,zF (y0.2+1))
def xT (y0:uG)(y1:Int): Option (Int×Int) :=
 (zL7 y0).bind fun r1 =>
 (zLQ r1.1 y1).bind fun r2 =>
 some (r2,r1.2)
def zCl (y0:uG)(y1:Int): Option (zI×Int) :=
 (xT y0 (zF (2*y1))).bind fun r1 =>
 (quoK .i64 r1.1 2).bind fun x1 =>
 some (((vY .i64 r1.1 1)==1,zWJ ([IntKind.u8.wrap (zF (97+x1))]:List Int)),r1.2)
def zHb (y0:uG)(y2:Int)(s1:(List zI)×Int×Int): Option (((List zI)×Int×Int)⊕((List zI)×Int)) :=
 if decide (0<s1.2.1) then
 (zCl (y0.1,s1.2.2) y2).bind fun r2 =>
 (qD s1.1 ([r2.1]:List zI)).bind fun x1 =>
 some (.inl (x1,zF (s1.2.1-1),r2.2))
 else
 some (.inr (s1.1,s1.2.2))
def zGh (y0:uG)(y1:Int)(y2:Int): Option ((List zI)×Int) :=
 (xT y0 (zF (y1+1))).bind fun r1 =>
 zO (zHb y0 y2) (([]:List zI),r1.1,r1.2)
def zKg (y0:uG)(y1:List Int): Option (Int×Int) :=
 (xT y0 (len y1)).bind fun r1 =>
 (zB y1 r1.1).bind fun x1 =>
 some (x1,r1.2)
def zKe (y0:uG)(y1:List zG): Option (zG×Int) :=
 (xT y0 (len y1)).bind fun r1 =>
 (zB y1 r1.1).bind fun x1 =>
 some (x1,r1.2)
def zHD (s1:(List zI)×Int)(x1:zI)(s3:Int): Option (Int⊕Int) :=
 (
 if decide (s3<(len s1.1)) then
 (zB s1.1 s3).bind fun x2 =>
 if uF x2.2 x1.2 then
 some true
 else
 (zB s1.1 s3).bind fun x3 =>
 if x3.2==x1.2 then
 (zB s1.1 s3).bind fun x4 =>
 if !x4.1 then
 some x1.1
 else
 some false
 else
 some false
 else
 some false:Option Bool).bind fun s4 =>
 if s4 then
 some (.inl (zF (s3+1)))
 else
 some (.inr s3)
def zJf (y0:List zI)(s1:(List zI)×Int): Option (((List zI)×Int)⊕(List zI)) :=
 if decide (s1.2<(len y0)) then
 (zB y0 s1.2).bind fun x1 =>
 (zO (zHD s1 x1) 0:Option Int).bind fun s2 =>
 (
 if decide (s2<(len s1.1)) then
 (zB s1.1 s2).bind fun x5 =>
 some (x5==x1)
 else
 some false:Option Bool).bind fun s5 =>
 if s5 then
 some (.inl (s1.1,zF (s1.2+1)))
 else
 (qD s1.1 ([(false,[])]:List zI)).bind fun x6 =>
 (vJ (decide (0≤(zF (s2+1)))&&decide ((zF (s2+1))≤len x6))).bind fun _ =>
 (vJ (decide (0≤s2)&&decide (s2≤len x6))).bind fun _ =>
 (zB (xC x6 (zF (s2+1)) (List.drop (Int.toNat s2) x6)) s2).bind fun _ =>
 some (.inl (List.set (xC x6 (zF (s2+1)) (List.drop (Int.toNat s2) x6)) (Int.toNat s2) x1,zF (s1.2+1)))
 else
 some (.inr s1.1)
def zMf (y0:List zI): Option (List zI) :=
 zO (zJf y0) (([]:List zI),0)
def zFG (s2:Int×Int×(List wM))(r2:zI×Int)(s5:Bool×Int): Option ((Bool×Int)⊕Bool) :=
 if decide (s5.2<(len s2.2.2)) then
 (zB s2.2.2 s5.2).bind fun x1 =>
 some (.inl (s5.1||(x1.1==r2.1),zF (s5.2+1)))
 else
 some (.inr s5.1)
def zHw (y0:uG)(y1:Int)(s2:Int×Int×(List wM)): Option ((Int×Int×(List wM))⊕(Int×(List wM))) :=
 if decide (0<s2.1) then
 (zCl (y0.1,s2.2.1) y1).bind fun r2 =>
 (zKg (y0.1,r2.2) ([1,2,2,2,3]:List Int)).bind fun r3 =>
 (zKe (y0.1,r3.2) ([[],[],[97,110,110],[98,111,98]]:List zG)).bind fun r4 =>
 (
 if r3.1==2 then
 (xT (y0.1,r4.2) 4).bind fun r5 =>
 some (r5.2,r5.1)
 else
 some (r4.2,0):Option (Int×Int)).bind fun s3 =>
 (zO (zFG s2 r2) (false,0):Option Bool).bind fun s4 =>
 if !s4 then
 (qD s2.2.2 ([(r2.1,r3.1,s3.2,r4.1)]:List wM)).bind fun x2 =>
 some (.inl (zF (s2.1-1),s3.1,x2))
 else
 some (.inl (zF (s2.1-1),s3.1,s2.2.2))
 else
 some (.inr (s2.2.1,s2.2.2))
def zHl (y0:uG)(y1:Int)(y3:Int)(s7:Int×Int×(List qC)): Option ((Int×Int×(List qC))⊕(Int×(List qC))) :=
 if decide (0<s7.1) then
 (zFg (len s7.2.2)).bind fun r7 =>
 (xT (y0.1,s7.2.1) 3).bind fun r8 =>
 (zGh (y0.1,r8.2) 2 y1).bind fun r9 =>
 (zMf r9.1).bind fun r10 =>
 (zCl (y0.1,r9.2) y1).bind fun r11 =>
 (
 if !(r8.1==0) then
 (xT (y0.1,r11.2) 4).bind fun r12 =>
 some (r12.2,r12.1)
 else
 some (r11.2,0):Option (Int×Int)).bind fun s8 =>
 (
 (xT (y0.1,s8.1) 6).bind fun r13 =>
 if r13.1==5 then
 (xT (y0.1,r13.2) 4).bind fun r14 =>
 (xT (y0.1,r14.2) y3).bind fun r15 =>
 (zFg r15.1).bind fun r16 =>
 some (r15.2,decide (0<r14.1),r16)
 else
 some (r13.2,r11.1.1,r11.1.2):Option (Int×Bool×zG)).bind fun s9 =>
 (qD s7.2.2 ([(r7,r8.1==0,s8.2,r10,(s9.2.1,s9.2.2))]:List qC)).bind fun x3 =>
 some (.inl (zF (s7.1-1),s9.1,x3))
 else
 some (.inr (s7.2.1,s7.2.2))
def zHz (s6:Int×(List qC))(y0:uG)(y1:Int)(s11:Int×Int×(List wE)): Option ((Int×Int×(List wE))⊕(Int×(List wE))) :=
 if(decide (0<s11.1))&&(decide (0<(len s6.2))) then
 (
 (xT (y0.1,s11.2.1) (len s6.2)).bind fun r18 =>
 (zB s6.2 r18.1).bind fun x4 =>
 some (r18.2,x4):Option (Int×qC)).bind fun s12 =>
 if !s12.2.2.1 then
 (xT (y0.1,s12.1) 10).bind fun r20 =>
 (zCl (y0.1,r20.2) y1).bind fun r21 =>
 (qD s11.2.2 ([(s12.2.1,r20.1,r21.1)]:List wE)).bind fun x6 =>
 some (.inl (zF (s11.1-1),r21.2,x6))
 else
 some (.inl (zF (s11.1-1),s12.1,s11.2.2))
 else
 some (.inr (s11.2.1,s11.2.2))
def zKV (y0:uG)(y1:Int)(y2:Int)(y3:Int): Option (zM×Int) :=
 (
 (xT y0 (zF (y2+1))).bind fun r1 =>
 zO (zHw y0 y1) (r1.1,r1.2,([]:List wM)):Option (Int×(List wM))).bind fun s1 =>
 (
 (xT (y0.1,s1.1) (zF (y3+1))).bind fun r6 =>
 zO (zHl y0 y1 y3) (r6.1,r6.2,([]:List qC)):Option (Int×(List qC))).bind fun s6 =>
 (
 (xT (y0.1,s6.1) 3).bind fun r17 =>
 zO (zHz s6 y0 y1) (r17.1,r17.2,([]:List wE)):Option (Int×(List wE))).bind fun s10 =>
 some ((s1.2,s6.2,s10.2),s10.1)
def zFb (y0:zG)(s2:Int): Option (Int⊕Bool) :=
 if decide (s2<(len y0)) then
 (
 (xM y0 s2).bind fun x3 =>
 if decide (x3<97) then
 (xM y0 s2).bind fun x4 =>
 if decide (x4<48) then
 (xM y0 s2).bind fun x5 =>
 some (x5 != 95)
 else
 (xM y0 s2).bind fun x6 =>
 if decide (57<x6) then
 (xM y0 s2).bind fun x7 =>
 some (x7 != 95)
 else
 some false
 else
 (xM y0 s2).bind fun x8 =>
 if decide (122<x8) then
 (xM y0 s2).bind fun x9 =>
 if decide (x9<48) then
 (xM y0 s2).bind fun x10 =>
 some (x10 != 95)
 else
 (xM y0 s2).bind fun x11 =>
 if decide (57<x11) then
 (xM y0 s2).bind fun x12 =>
 some (x12 != 95)
 else
 some false
 else
 some false:Option Bool).bind fun s3 =>
 if s3 then
 some (.inr false)
 else
 some (.inl (zF (s2+1)))
 else
 some (.inr true)
def zDM (y0:zG): Option Bool :=
 (
 if decide ((len y0)<1) then
 some true
 else
 if decide (12<(len y0)) then
 some true
 else
 (xM y0 0).bind fun x1 =>
 if decide (x1<97) then
 some true
 else
 (xM y0 0).bind fun x2 =>
 some (decide (122<x2)):Option Bool).bind fun s1 =>
 if s1 then
 some false
 else
 zO (zFb y0) 0
def zEv (y0:zI): Option Bool :=
 (zDM y0.2).bind fun r1 =>
 some r1
def zKX (y0:zM)(y1:zG)(s1:Int): Option (Int⊕Int) :=
 if decide (s1<(len y0.2.1)) then
 (zB y0.2.1 s1).bind fun x1 =>
 if x1.1==y1 then
 some (.inr s1)
 else
 some (.inl (zF (s1+1)))
 else
 some (.inr (-1))
def zNq (y0:zM)(y1:zG): Option Int :=
 zO (zKX y0 y1) 0
def zHq (y0:zM)(y1:zI)(s1:Int): Option (Int⊕Int) :=
 if decide (s1<(len y0.1)) then
 (zB y0.1 s1).bind fun x1 =>
 if x1.1==y1 then
 some (.inr s1)
 else
 some (.inl (zF (s1+1)))
 else
 some (.inr (-1))
def zNO (y0:zM)(y1:zI): Option Int :=
 zO (zHq y0 y1) 0
def zI7 (y0:Int): Option Bool :=
 some ((decide (0≤y0))&&(decide (y0≤9)))
def zK0 (y0:wM): Option Int :=
 if(decide (y0.2.1<1))||(decide (3<y0.2.1)) then
 some 4
 else
 (
 (zEv y0.1).bind fun r1 =>
 if !r1 then
 some true
 else
 (zI7 y0.2.2.1).bind fun r2 =>
 if !r2 then
 some true
 else
 if y0.2.1 != 2 then
 if y0.2.2.1 != 0 then
 some true
 else
 if !(y0.2.2.2==[]) then
 (zDM y0.2.2.2).bind fun r3 =>
 some (!r3)
 else
 some false
 else
 if !(y0.2.2.2==[]) then
 (zDM y0.2.2.2).bind fun r4 =>
 some (!r4)
 else
 some false:Option Bool).bind fun s1 =>
 if s1 then
 some 1
 else
 some 0
def zK5 (y0:zI)(y1:zI): Option Int :=
 if y0==y1 then
 some 0
 else
 if(uF y0.2 y1.2)||((y0.2==y1.2)&&y1.1) then
 some (-1)
 else
 some 1
def zKT (y0:qC)(s3:Bool×Int): Option ((Bool×Int)⊕Bool) :=
 if decide (s3.2<(len y0.2.2.2.1)) then
 (
 if s3.1 then
 (zB y0.2.2.2.1 s3.2).bind fun x1 =>
 (zEv x1).bind fun r5 =>
 some r5
 else
 some false:Option Bool).bind fun s4 =>
 some (.inl (s4,zF (s3.2+1)))
 else
 some (.inr s3.1)
def zK9 (y0:qC)(s5:Int): Option (Int⊕Int) :=
 if decide (s5<(len y0.2.2.2.1)) then
 (zB y0.2.2.2.1 (zF (s5-1))).bind fun x2 =>
 (zB y0.2.2.2.1 s5).bind fun x3 =>
 (zK5 x2 x3).bind fun r6 =>
 if decide (0≤r6) then
 some (.inr 8)
 else
 some (.inl (zF (s5+1)))
 else
 some (.inr 0)
def zNk (y0:qC): Option Int :=
 if decide (4<(len y0.2.2.2.1)) then
 some 2
 else
 (
 (zDM y0.1).bind fun r1 =>
 if r1 then
 (zI7 y0.2.2.1).bind fun r2 =>
 if r2 then
 if !y0.2.1 then
 (zEv y0.2.2.2.2).bind fun r3 =>
 some r3
 else
 if y0.2.2.1==0 then
 (zEv y0.2.2.2.2).bind fun r4 =>
 some r4
 else
 some false
 else
 some false
 else
 some false:Option Bool).bind fun s1 =>
 (zO (zKT y0) (s1,0):Option Bool).bind fun s2 =>
 if !s2 then
 some 1
 else
 zO (zK9 y0) 1
def zG3 (y0:zM)(s2:Int): Option (Int⊕(Unit⊕Int)) :=
 if decide (s2<(len y0.1)) then
 (zB y0.1 s2).bind fun x1 =>
 (zK0 x1).bind fun r1 =>
 if r1 != 0 then
 some (.inr (.inr r1))
 else
 (zB y0.1 s2).bind fun x2 =>
 (zNO y0 x2.1).bind fun r2 =>
 if decide (r2<s2) then
 some (.inr (.inr 5))
 else
 some (.inl (zF (s2+1)))
 else
 some (.inr (.inl ()))
def zGs (y0:zM)(s4:Int): Option (Int⊕(Unit⊕Int)) :=
 if decide (s4<(len y0.2.1)) then
 (zB y0.2.1 s4).bind fun x3 =>
 (zNk x3).bind fun r3 =>
 if r3 != 0 then
 some (.inr (.inr r3))
 else
 (zB y0.2.1 s4).bind fun x4 =>
 (zNq y0 x4.1).bind fun r4 =>
 if decide (r4<s4) then
 some (.inr (.inr 5))
 else
 some (.inl (zF (s4+1)))
 else
 some (.inr (.inl ()))
def zGm (y0:zM)(s5:Int): Option (Int⊕Int) :=
 if decide (s5<(len y0.2.2)) then
 (zB y0.2.2 s5).bind fun x5 =>
 (
 (zI7 x5.2.1).bind fun r5 =>
 if !r5 then
 some true
 else
 (zEv x5.2.2).bind fun r6 =>
 some (!r6):Option Bool).bind fun s6 =>
 if s6 then
 some (.inr 1)
 else
 (zNq y0 x5.1).bind fun r7 =>
 if decide (r7<0) then
 some (.inr 6)
 else
 (zB y0.2.1 r7).bind fun x6 =>
 if x6.2.1 then
 some (.inr 4)
 else
 some (.inl (zF (s5+1)))
 else
 some (.inr 0)
def zHC (y0:zM): Option Int :=
 if(decide (16<(len y0.1)))||((decide (24<(len y0.2.1)))||(decide (8<(len y0.2.2)))) then
 some 2
 else
 vK (zO (zG3 y0) 0:Option (Unit⊕Int)) fun _ =>
 vK (zO (zGs y0) 0:Option (Unit⊕Int)) fun _ =>
 zO (zGm y0) 0
def zL1 (y0:List zI)(y1:zI)(s1:Int): Option (Int⊕Bool) :=
 if decide (s1<(len y0)) then
 (zB y0 s1).bind fun x1 =>
 if x1==y1 then
 some (.inr true)
 else
 some (.inl (zF (s1+1)))
 else
 some (.inr false)
def zSl (y0:List zI)(y1:zI): Option Bool :=
 zO (zL1 y0 y1) 0
def zGF (y0:List Int)(y1:Int)(s2:Int): Option (Int⊕Int) :=
 (
 if decide (s2<(len y0)) then
 (zB y0 s2).bind fun x1 =>
 some (decide (x1<y1))
 else
 some false:Option Bool).bind fun s3 =>
 if s3 then
 some (.inl (zF (s2+1)))
 else
 some (.inr s2)
def zJS (y0:List Int)(y1:Int): Option (List Int) :=
 (zO (zGF y0 y1) 0:Option Int).bind fun s1 =>
 (
 if decide (s1<(len y0)) then
 (zB y0 s1).bind fun x2 =>
 some (x2==y1)
 else
 some false:Option Bool).bind fun s4 =>
 if s4 then
 some y0
 else
 (sub y0 0 s1).bind fun x3 =>
 (qD ([]:List Int) x3).bind fun x4 =>
 (sub y0 s1 (len y0)).bind fun x5 =>
 (qD x4 ([y1]:List Int)).bind fun x6 =>
 (qD x6 x5).bind fun x7 =>
 some x7
def zJd (y1:List Int)(s1:(List Int)×Int): Option (((List Int)×Int)⊕(List Int)) :=
 if decide (s1.2<(len y1)) then
 (zB y1 s1.2).bind fun x1 =>
 (zJS s1.1 x1).bind fun r1 =>
 some (.inl (r1,zF (s1.2+1)))
 else
 some (.inr s1.1)
def zP7 (y0:List Int)(y1:List Int): Option (List Int) :=
 zO (zJd y1) (y0,0)
def zKh (y0:List zD)(y1:Int)(rec_ref07_Subs:(List zD)->Int->Option (List Int))(s1:(List Int)×Int): Option (((List Int)×Int)⊕(List Int)) :=
 (zB y0 y1).bind fun x1 =>
 if decide (s1.2<(len x1.2.2.1)) then
 (zB y0 y1).bind fun x2 =>
 (zB x2.2.2.1 s1.2).bind fun x3 =>
 (rec_ref07_Subs y0 x3).bind fun r1 =>
 (zP7 s1.1 r1).bind fun r2 =>
 some (.inl (r2,zF (s1.2+1)))
 else
 some (.inr s1.1)
def zNh (rec_ref07_Subs:(List zD)->Int->Option (List Int))(y0:List zD)(y1:Int): Option (List Int) :=
 if(decide (y1<0))||(decide ((len y0)≤y1)) then
 some ([]:List Int)
 else
 zO (zKh y0 y1 rec_ref07_Subs) (([y1]:List Int),0)
def zI1:Nat->(List zD)->Int->Option (List Int)
 | 0=>fun _ _=>none
 | k+1=>fun y0 y1=>zNh (zI1 k) y0 y1
def zQp (y0:List zD)(y1:Int): Option (List Int):=z4n fun k=>zI1 k y0 y1
def zEx (r1:(List Int))(y1:List zD)(y0:zM)(s1:(List Int)×Int): Option (((List Int)×Int)⊕(List Int)) :=
 if decide (s1.2<(len r1)) then
 (zB r1 s1.2).bind fun x1 =>
 (
 (zB y1 x1).bind fun x2 =>
 if decide (0≤x2.2.1) then
 (zB y1 x1).bind fun x3 =>
 (zB y0.2.1 x3.2.1).bind fun x4 =>
 some (!x4.2.1)
 else
 some false:Option Bool).bind fun s2 =>
 if s2 then
 (zB y1 x1).bind fun x5 =>
 (zJS s1.1 x5.2.1).bind fun r2 =>
 some (.inl (r2,zF (s1.2+1)))
 else
 some (.inl (s1.1,zF (s1.2+1)))
 else
 some (.inr s1.1)
def zEr (y0:zM)(y1:List zD)(y2:Int): Option (List Int) :=
 (zQp y1 y2).bind fun r1 =>
 zO (zEx r1 y1 y0) (([]:List Int),0)
def zFL (y1:List zD)(y2:Int)(rec_ref07_Run:zM->(List zD)->Int->Option (List zI))(y0:zM)(s2:(List zI)×Int): Option (((List zI)×Int)⊕(List zI)) :=
 (zB y1 y2).bind fun x5 =>
 if decide (s2.2<(len x5.2.2.1)) then
 (zB y1 y2).bind fun x6 =>
 (zB x6.2.2.1 s2.2).bind fun x7 =>
 (rec_ref07_Run y0 y1 x7).bind fun r1 =>
 (qD s2.1 r1).bind fun x8 =>
 some (.inl (x8,zF (s2.2+1)))
 else
 some (.inr s2.1)
def zG6 (rec_ref07_Run:zM->(List zD)->Int->Option (List zI))(y0:zM)(y1:List zD)(y2:Int): Option (List zI) :=
 (zB y1 y2).bind fun x1 =>
 (
 (zB y1 y2).bind fun x2 =>
 if decide (0≤x2.2.1) then
 (zB y1 y2).bind fun x3 =>
 (zB y0.2.1 x3.2.1).bind fun x4 =>
 some x4.2.1
 else
 some false:Option Bool).bind fun s1 =>
 if s1 then
 zO (zFL y1 y2 rec_ref07_Run y0) (([x1.2.2.2]:List zI),0)
 else
 some ([x1.2.2.2]:List zI)
def zBa:Nat->zM->(List zD)->Int->Option (List zI)
 | 0=>fun _ _ _=>none
 | k+1=>fun y0 y1 y2=>zG6 (zBa k) y0 y1 y2
def zLG (y0:zM)(y1:List zD)(y2:Int): Option (List zI):=z4n fun k=>zBa k y0 y1 y2
def zMb (y0:List Int)(y1:Int)(s1:Int): Option (Int⊕Bool) :=
 if decide (s1<(len y0)) then
 (zB y0 s1).bind fun x1 =>
 if x1==y1 then
 some (.inr true)
 else
 some (.inl (zF (s1+1)))
 else
 some (.inr false)
def zR5 (y0:List Int)(y1:Int): Option Bool :=
 zO (zMb y0 y1) 0
def zIq (y3:List Int)(x1:qC)(y0:zM)(y1:List zD)(y2:Int)(s1:Int): Option (Int⊕Bool) :=
 if decide (s1<(len y3)) then
 (
 if x1.2.1 then
 (zB y3 s1).bind fun x2 =>
 (zLG y0 y1 x2).bind fun r1 =>
 (zSl r1 x1.2.2.2.2).bind fun r2 =>
 if r2 then
 some true
 else
 if !x1.2.1 then
 (zB y3 s1).bind fun x3 =>
 (zEr y0 y1 x3).bind fun r3 =>
 (zR5 r3 y2).bind fun r4 =>
 some r4
 else
 some false
 else
 if !x1.2.1 then
 (zB y3 s1).bind fun x4 =>
 (zEr y0 y1 x4).bind fun r5 =>
 (zR5 r5 y2).bind fun r6 =>
 some r6
 else
 some false:Option Bool).bind fun s2 =>
 if s2 then
 some (.inr false)
 else
 some (.inl (zF (s1+1)))
 else
 some (.inr true)
def zH0 (y0:zM)(y1:List zD)(y2:Int)(y3:List Int): Option Bool :=
 (zB y0.2.1 y2).bind fun x1 =>
 zO (zIq y3 x1 y0 y1 y2) 0
def zF9 (y1:Int)(y0:List zD)(y2:List zI)(y3:List Int)(rec_ref07_choices_2:(List zD)->Int->(List zI)->(List Int)->Option (List (List Int)))(s1:(List (List Int))×Int): Option (((List (List Int))×Int)⊕(List (List Int))) :=
 if decide (s1.2<y1) then
 (zB y0 s1.2).bind fun x2 =>
 (zB y2 (len y3)).bind fun x3 =>
 if x2.2.2.2==x3 then
 (sub y3 0 (len y3)).bind fun x4 =>
 (qD x4 ([s1.2]:List Int)).bind fun x5 =>
 (rec_ref07_choices_2 y0 y1 y2 x5).bind fun r1 =>
 (qD s1.1 r1).bind fun x6 =>
 some (.inl (x6,zF (s1.2+1)))
 else
 some (.inl (s1.1,zF (s1.2+1)))
 else
 some (.inr s1.1)
def zIr (rec_ref07_choices_2:(List zD)->Int->(List zI)->(List Int)->Option (List (List Int)))(y0:List zD)(y1:Int)(y2:List zI)(y3:List Int): Option (List (List Int)) :=
 if(len y3)==(len y2) then
 (qD ([]:List Int) y3).bind fun x1 =>
 some ([x1]:List (List Int))
 else
 zO (zF9 y1 y0 y2 y3 rec_ref07_choices_2) (([]:List (List Int)),0)
def zDH:Nat->(List zD)->Int->(List zI)->(List Int)->Option (List (List Int))
 | 0=>fun _ _ _ _=>none
 | k+1=>fun y0 y1 y2 y3=>zIr (zDH k) y0 y1 y2 y3
def zLF (y0:List zD)(y1:Int)(y2:List zI)(y3:List Int): Option (List (List Int)):=z4n fun k=>zDH k y0 y1 y2 y3
def zIa (y0:List Int)(y1:Int)(s1:Int): Option (Int⊕Bool) :=
 if decide (s1<(len y0)) then
 (zB y0 s1).bind fun x1 =>
 if decide (y1≤x1) then
 some (.inr true)
 else
 some (.inl (zF (s1+1)))
 else
 some (.inr false)
def zNz (y0:List Int)(y1:Int): Option Bool :=
 zO (zIa y0 y1) 0
def zGz (y0:zM)(s2:(List zD)×Int): Option (((List zD)×Int)⊕(List zD)) :=
 if decide (s2.2<(len y0.1)) then
 (zB y0.1 s2.2).bind fun x1 =>
 (qD s2.1 ([(s2.2,(-1),([]:List Int),x1.1)]:List zD)).bind fun x2 =>
 some (.inl (x2,zF (s2.2+1)))
 else
 some (.inr s2.1)
def zHW (r2:(List (List Int)))(s3:(List zD)×Int×Int)(y0:zM)(s4:(List zD)×Int)(s5:(List zD)×Int): Option (((List zD)×Int)⊕(((List zD)×Int)⊕(((List zD)×Int×Int)⊕((List zD)×Int)))) :=
 if decide (s5.2<(len r2)) then
 (zB r2 s5.2).bind fun x4 =>
 (
 (zNz x4 s3.2.1).bind fun r3 =>
 if !r3 then
 if decide (1<s3.2.2) then
 some true
 else
 if decide (0<(len x4)) then
 some true
 else
 (zH0 y0 s5.1 s4.2 x4).bind fun r4 =>
 some (!r4)
 else
 (zH0 y0 s5.1 s4.2 x4).bind fun r5 =>
 some (!r5):Option Bool).bind fun s6 =>
 if s6 then
 some (.inl (s5.1,zF (s5.2+1)))
 else
 (zB y0.2.1 s4.2).bind fun x5 =>
 (qD s5.1 ([((-1),s4.2,x4,x5.2.2.2.2)]:List zD)).bind fun x6 =>
 if decide (40<(len x6)) then
 some (.inr (.inr (.inr (([]:List zD),2))))
 else
 some (.inl (x6,zF (s5.2+1)))
 else
 some (.inr (.inl (s5.1,zF (s4.2+1))))
def zHN (y0:zM)(s3:(List zD)×Int×Int)(s4:(List zD)×Int): Option (((List zD)×Int)⊕(((List zD)×Int×Int)⊕((List zD)×Int))) :=
 if decide (s4.2<(len y0.2.1)) then
 (zB y0.2.1 s4.2).bind fun x3 =>
 (zLF s4.1 (len s3.1) x3.2.2.2.1 ([]:List Int)).bind fun r2 =>
 zO (zHW r2 s3 y0 s4) (s4.1,0)
 else
 some (.inr (.inl (s4.1,len s3.1,zF (s3.2.2+1))))
def zEk (y0:zM)(s3:(List zD)×Int×Int): Option (((List zD)×Int×Int)⊕((List zD)×Int)) :=
 if(s3.2.2==1)||(decide (s3.2.1<(len s3.1))) then
 zO (zHN y0 s3) (s3.1,0)
 else
 some (.inr (s3.1,0))
def zIo (y0:zM): Option ((List zD)×Int) :=
 (zHC y0).bind fun r1 =>
 if r1 != 0 then
 some (([]:List zD),r1)
 else
 (zO (zGz y0) (([]:List zD),0):Option (List zD)).bind fun s1 =>
 zO (zEk y0) (s1,0,1)
def zOs (y1:Int)(r1:zM×Int)(s2:(List zD)×Int×(List qC)×(List wE)): Option (((List zD)×Int×(List qC)×(List wE))⊕((List zD)×(List qC)×(List wE))) :=
 if if s2.2.1 != 0 then decide (0<(len s2.2.2.1)) else(decide (y1<(len s2.1)))&&(decide (0<(len s2.2.2.1))) then
 (sub s2.2.2.1 0 (zF ((len s2.2.2.1)-1))).bind fun x1 =>
 (zIo (r1.1.1,x1,([]:List wE))).bind fun r3 =>
 some (.inl (r3.1,r3.2,x1,([]:List wE)))
 else
 some (.inr (s2.1,s2.2.2.1,s2.2.2.2))
def zL5 (y0:uG)(y1:Int): Option (zCL×Bool×Int) :=
 (zKV y0 3 4 5).bind fun r1 =>
 (zIo r1.1).bind fun r2 =>
 (zO (zOs y1 r1) (r2.1,r2.2,r1.1.2.1,r1.1.2.2):Option ((List zD)×(List qC)×(List wE))).bind fun s1 =>
 (
 zMN.bind fun r4 =>
 (xT (y0.1,r1.2) 4).bind fun r5 =>
 (zB r4 r5.1).bind fun x2 =>
 (zCX (r1.1.1,s1.2.1,s1.2.2) x2).bind fun r6 =>
 some (r6.2,r5.2,r6.1):Option (Int×Int×zCL)).bind fun s3 =>
 (
 if s3.1==0 then
 if(len s3.2.2.2.1)==(len s1.1) then
 some (s3.2.2.2.2.2.1==(len s1.1),s3.2.2.1.1,s3.2.2.1.2.1,s3.2.2.1.2.2,s3.2.2.2.1,s3.2.2.2.2.1,s3.2.2.2.2.2.1,s3.2.2.2.2.2.2)
 else
 some (false,s3.2.2.1.1,s3.2.2.1.2.1,s3.2.2.1.2.2,s3.2.2.2.1,s3.2.2.2.2.1,s3.2.2.2.2.2.1,s3.2.2.2.2.2.2)
 else
 some (false,s3.2.2.1.1,s3.2.2.1.2.1,s3.2.2.1.2.2,s3.2.2.2.1,s3.2.2.2.2.1,s3.2.2.2.2.2.1,s3.2.2.2.2.2.2):Option (Bool×(List wM)×(List qC)×(List wE)×(List zD)×(List qQ)×Int×(List zT))).bind fun s4 =>
 some (((s4.2.1,s4.2.2.1,s4.2.2.2.1),s4.2.2.2.2.1,s4.2.2.2.2.2.1,(s4.2.2.2.2.2.2.1,s4.2.2.2.2.2.2.2)),s4.1,s3.2.1)
def zLT (y1:List Int)(s2:(List zT)×Int×Int×(List zT)×(List Int)): Option (((List zT)×Int×Int×(List zT)×(List Int))⊕((Int×(List zT)×(List Int))⊕Bool)) :=
 if decide (0<(len s2.1)) then
 (
 if decide (s2.2.1<(len y1)) then
 (zB y1 s2.2.1).bind fun x2 =>
 (zLQ x2 (len s2.1)).bind fun r4 =>
 some r4
 else
 some 0:Option Int).bind fun s3 =>
 (
 (zB s2.1 s3).bind fun x3 =>
 (zB s2.1 s3).bind fun x4 =>
 (zK8 ((s2.2.2.1,s2.2.2.2.1),s2.2.2.2.2) (1,x3.1,x4.2)).bind fun r5 =>
 some (r5.2.1,r5.2.2,r5.1):Option ((List Int)×Int×zDo)).bind fun s4 =>
 (
 if s4.2.1 != 0 then
 some true
 else
 (zB s2.1 s3).bind fun x5 =>
 (zQo s4.1 x5.2).bind fun r7 =>
 if !r7 then
 some true
 else
 (zJ7 s4.2.2.1).bind fun r8 =>
 (zJc s4.2.2.1 s4.2.2.2 r8).bind fun r9 =>
 some (r9 != 0):Option Bool).bind fun s5 =>
 if s5 then
 some (.inr (.inr false))
 else
 (sub s2.1 0 s3).bind fun x6 =>
 (sub s2.1 (zF (s3+1)) (len s2.1)).bind fun x7 =>
 (qD x6 x7).bind fun x8 =>
 some (.inl (x8,zF (s2.2.1+1),s4.2.2.1.1,s4.2.2.1.2,s4.2.2.2))
 else
 some (.inr (.inl (s2.2.2.1,s2.2.2.2.1,s2.2.2.2.2)))
def zL3 (y0:List Int)(y1:List Int): Option Bool :=
 (zR1 y0).bind fun r1 =>
 (zL5 r1 20).bind fun r2 =>
 if !r2.2.1 then
 some false
 else
 (zMg (r2.1.2.2.2.1,([]:List zT))).bind fun r3 =>
 if r3.2 != 0 then
 some false
 else
 (qD ([]:List zT) r2.1.2.2.2.2).bind fun x1 =>
 vK (zO (zLT y1) (x1,0,r3.1.1.1,r3.1.1.2,r3.1.2):Option ((Int×(List zT)×(List Int))⊕Bool)) fun s1 =>
 (zAx r2.1 1 true).bind fun r10 =>
 (
 if r10.2==0 then
 (zA3 s1.2.2 1).bind fun r11 =>
 (zBI r2.1.2.1 r11).bind fun r12 =>
 (zNp r12 r10.1).bind fun r13 =>
 if r13 then
 zK4.bind fun r14 =>
 some r14
 else
 some false
 else
 some false:Option Bool).bind fun s6 =>
 some s6
end
end Go.GD
