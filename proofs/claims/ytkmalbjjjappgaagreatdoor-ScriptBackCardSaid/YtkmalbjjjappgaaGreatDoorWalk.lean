/- A part. Conditions: none. -/
import Derived.Test.YtkmalbjjjappgaaGreatDoorWalk10
namespace Go.Proofs.YtkmalbjjjappgaaGreatDoor
open Go Go.GD Go.Proofs.Tryz
set_option autoImplicit false
set_option linter.unusedVariables false
set_option maxRecDepth 100000
set_option linter.defProp false
variable {qd:Prop}
variable {yl1:Nat}{p1 p2 p3 p4 p5 p6 p7 p8 p9 p10 p11 p12 p13 p14 p15 p16 p17 p18 p19 p20 p21 p22 p23 p24 p25 p26:Option Addr}{c1 c2 c3 c4 c5 c6 c7 c8 c9 c10 c11 c12 c13 c14 c15 c16 c17 c18 c19 c20 c21 c22 c23 c24 c25 c26:Nat}{b1 b2 b3:Nat}{r_1 r_2:zK}
theorem zYZ{y0:vN}: zJ qd prog 6 [pt b1 0] [bx b1 52 (zCA y0 p1 c1)] (zCC y0 p1 c1 []) (zNZ y0) λr K=>∀ p2 c2 p3 c3 p4 c4 p5 c5,K (.agg (zNB r.1 p2 c2 p3 c3 p4 c4 p5 c5).toArray) [bx b1 52 [sv p1 y0.1 c1,vi r.2]] (zNc r.1 p2 c2 p3 c3 p4 c4 p5 c5 []):=zO call6 func6 u λX=>zF<|qM .s (.agg k11)<|λb2=>zG<|zF<|zB 1 u<|zY .s [0] [] zAo u u u (cq [0])<|λr1 _ k=>k<|qW zWN u d<|λr2 _ k p2 c2=>k<|zB 1 u<|zY .s [0] [] zAo u u u (cq [1])<|λr3 _ k=>k<|zB 1 u<|zY .s [0] [] zAo u u u (cq [1])<|λr4 _ k=>k<|zB 1 u<|zY .s [0] [] zAo u u u (cq [1])<|λr5 _ k=>k<|zI (.agg #[vi r4.1,vi r5.1])<|zB 1 u<|zY .s [0] [] zJi u u u (cq [1])<|λr6 _ k p3 c3 r_1 p4 c4 r_2 p5 c5=>k<|zI (.agg #[sv p2 r2 c2,vi r3.1,vi r4.1,vi r5.1,sv p3 r6.1.1 c3,sv p4 r6.1.2.1 c4,sv p5 r6.1.2.2 c5])<|qM .s (.agg k11)<|λb3=>zW .s 4 u u u<|zG<|qQ (λs1 K=>∀ p6 c6 p7 c7 p8 c8,K [2,3] [(2,[]),(3,[]),(4,bx b3 36 [sv p2 r2 c2,vi r3.1,vi r4.1,vi r5.1,sv p6 s1.1 c6,sv p7 s1.2.1 c7,sv p8 s1.2.2 c8])] [4,3] [] [Rl uD p6 c6 s1.1,Rl yA p7 c7 s1.2.1,Rl uZ p8 c8 s1.2.2]) (zF<|qO 4 7 u u u<|vX 2 0 u u<|vX 3 2 u u<|qW zPK u (cq [5,1,0,4])<|λr7 _ k p9 c9 p10 c10 p11 c11 p12 c12 p13 c13 p14 c14 p15 c15 p16 c16 p17 c17 p18 c18 p19 c19 p20 c20=>k<|zB 3 u<|qM .s (.agg k5)<|λb4=>zW .s 5 u u u<|zB 1 u<|zG<|jA 2 u<|zU u (wR<|zI (.agg k1)<|zL 4 u<|zW .s 4 u u u<|wH<|zX (gv (λ_ k=>k none 0 none 0 none 0) [0,1,902,903,4] ⟨gn,gn,gn,gk 18,gk 17,d⟩))<|yU<|zX (gv (λ_ k=>k p3 c3 p4 c4 p5 c5) [0,1,902,903,4] (gq [13,12,16,18,17])))<|λs1 _ k p6 c6 p7 c7 p8 c8=>k<|zF<|qO 4 7 u u u<|zW .s 1 u u u<|zG<|wJ<|vV u (lC 1 (.agg #[sv p2 r2 c2,vi r3.1,vi r4.1,vi r5.1,sv p6 s1.1 c6,sv p7 s1.2.1 c7,sv p8 s1.2.2 c8]) u u lN) (λ_ k=>k p2 c2 p6 c6 p7 c7 p8 c8) [0] (gq [4,0,1,2])
abbrev zZP:=@Cn.mk 6 0 _ @zYZ
attribute [instance] zXv z2t zZP
theorem zK0{y0:List Int}: zJ False prog 3 [sv p1 y0 c1] [] [Rl Ag p1 c1 y0,Pt (zY0 9 qP) 1 0 zAP,vO 2,vO 3,Aa] (zDH y0) λr K=>K (vb r) [] []:=zO call3 func3 u λX=>hI 1 7 0 (λ(s1:Bool) K=>K [] [(0,.r [])] [10,11,12,13] [(2,vb s1)] [])<|au
abbrev z2A:=@Cn.mk 3 0 _ @zK0
end Go.Proofs.YtkmalbjjjappgaaGreatDoor
