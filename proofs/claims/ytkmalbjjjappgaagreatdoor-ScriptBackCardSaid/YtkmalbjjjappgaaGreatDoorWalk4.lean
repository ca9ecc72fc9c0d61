/- A part. Conditions: none. -/
import Derived.Test.YtkmalbjjjappgaaGreatDoorWalk3
namespace Go.Proofs.YtkmalbjjjappgaaGreatDoor
open Go Go.GD Go.Proofs.Tryz
set_option autoImplicit false
set_option linter.unusedVariables false
set_option maxRecDepth 100000
set_option maxHeartbeats 2000000
set_option linter.defProp false
variable {qd:Prop}
variable {yl1:Nat}{p1 p2 p3 p4 p5 p6 p7 p8 p9 p10 p11 p12 p13 p14 p15 p16 p17 p18 p19 p20 p21 p22 p23 p24 p25 p26:Option Addr}{c1 c2 c3 c4 c5 c6 c7 c8 c9 c10 c11 c12 c13 c14 c15 c16 c17 c18 c19 c20 c21 c22 c23 c24 c25 c26:Nat}{b1 b2 b3:Nat}{r_1 r_2:zK}
theorem zP0{y0:zAT}: zJ qd prog 109 [pt b1 0] [bx b1 132 [vi y0.1.1,vi y0.1.2.1,vi y0.1.2.2.1,vi y0.1.xa.1,vs y0.1.xb.1,vi y0.1.xc.1.1,vi y0.1.xc.1.2.1,vi y0.1.xc.1.2.2.1,vb y0.1.xc.1.xa.1.1,vs y0.1.xc.1.xa.1.2,sv p1 y0.1.xc.1.xb c1,vb y0.1.xd.1.1,vs y0.1.xd.1.2,vi y0.1.xe.1.1,vi y0.1.xe.1.2,vi y0.1.xf.1.1,vi y0.1.xf.1.2.1,vi y0.1.xf.1.2.2.1,vi y0.1.xf.1.xa,vi ((fv y0.1.xg).1),vs ((fv y0.1.xg).2.1),sv p2 ((fv y0.1.xg).2.2) c2,sv p3 y0.2.1 c3,vb y0.2.2],r_1] (xZ y0.1 p1 c1 p2 c2 [Al qP 9 r_1 p3 c3 y0.2.1,Aa]) (zCN y0) λr K=>∀ p4 c4 r_2,K (.tuple #[]) [bx b1 132 [vi y0.1.1,vi y0.1.2.1,vi y0.1.2.2.1,vi y0.1.xa.1,vs y0.1.xb.1,vi y0.1.xc.1.1,vi y0.1.xc.1.2.1,vi y0.1.xc.1.2.2.1,vb y0.1.xc.1.xa.1.1,vs y0.1.xc.1.xa.1.2,sv p1 y0.1.xc.1.xb c1,vb y0.1.xd.1.1,vs y0.1.xd.1.2,vi y0.1.xe.1.1,vi y0.1.xe.1.2,vi y0.1.xf.1.1,vi y0.1.xf.1.2.1,vi y0.1.xf.1.2.2.1,vi y0.1.xf.1.xa,vi ((fv y0.1.xg).1),vs ((fv y0.1.xg).2.1),sv p2 ((fv y0.1.xg).2.2) c2,sv p4 r.1 c4,vb r.2],r_2] [Al qP 9 r_2 p4 c4 r.1]:=zO call109 func109 u λX=>hI 1 2 1 (λ(s1:(List zA)×Bool) K=>∀ p4 c4 r_2,K [0,2,3] [(0,.c [(22,sv p4 s1.1 c4),(23,vb s1.2)]),(1,.r r_2)] [0,1,3] [] [Al qP 9 r_2 p4 c4 s1.1])<|hI 1 17 0 (λ(s2:Bool) K=>K [0,2] [(0,.c [(23,vb s2)])] [3,4,0,5] [] [])<|hI 0 19 1 (λ(s3:Int×(List zA)×Bool) K=>∀ p13 c13 r_10,K [0,70,71] [(0,.c [(22,sv p13 s3.2.1 c13),(23,vb s3.2.2)]),(1,.r r_10),(2,.r [])] [0,1,3] [(72,vi s3.1)] [Al qP 9 r_10 p13 c13 s3.2.1])<|au
abbrev zPb:=@Cn.mk 109 0 _ @zP0
theorem zHL{y0:Int}: zJ qd prog 184 [.int .i32 y0] [] [] (zBL y0) λr K=>K (vb r) [] []:=zO call184 func184 u λX=>hP 4 1 0 (λK=>K [] [] [] [(2,vb ((decide (y0<32))||(decide (126<y0))))] [])<|au
abbrev zNA:=@Cn.mk 184 0 _ @zHL
theorem zEX{y0:zA}{y1:Bool}: zJ False prog 294 [vs y0,.func (.func 184) #[] #[],vb y1] [] [] (zBH y0 y1) λr K=>K (vi r) [] []:=z6k Go.Proofs.Tryz.lays315 (λy=>zHL (y0:=y)) call294
abbrev zEW:=@Cn.mk 294 0 _ @zEX
attribute [instance] zMJ zO7 zPb zNA zEW
theorem zE1{y0:zA}: zJ False prog 260 [vs y0,.func (.func 184) #[] #[]] [] [] (zBJ y0) λr K=>K (vi r) [] []:=zO call260 func260 u λX=>au
abbrev zEY:=@Cn.mk 260 0 _ @zE1
attribute [instance] zEY
theorem zDd{y0:zA}: zJ False prog 183 [vs y0,.func (.func 184) #[] #[]] [] [] (zAi y0) λr K=>K (vb r) [] []:=zO call183 func183 u λX=>au
abbrev zDc:=@Cn.mk 183 0 _ @zDd
attribute [instance] zDc
theorem zO3{y0:zAT}: zJ False prog 108 [pt b1 0] [bx b1 132 [vi y0.1.1,vi y0.1.2.1,vi y0.1.2.2.1,vi y0.1.xa.1,vs y0.1.xb.1,vi y0.1.xc.1.1,vi y0.1.xc.1.2.1,vi y0.1.xc.1.2.2.1,vb y0.1.xc.1.xa.1.1,vs y0.1.xc.1.xa.1.2,sv p1 y0.1.xc.1.xb c1,vb y0.1.xd.1.1,vs y0.1.xd.1.2,vi y0.1.xe.1.1,vi y0.1.xe.1.2,vi y0.1.xf.1.1,vi y0.1.xf.1.2.1,vi y0.1.xf.1.2.2.1,vi y0.1.xf.1.xa,vi ((fv y0.1.xg).1),vs ((fv y0.1.xg).2.1),sv p2 ((fv y0.1.xg).2.2) c2,sv p3 y0.2.1 c3,vb y0.2.2],r_1] (xZ y0.1 p1 c1 p2 c2 [Al qP 9 r_1 p3 c3 y0.2.1]) (zCb y0) λr K=>∀ p4 c4 r_2,K (.tuple #[]) [bx b1 132 [vi y0.1.1,vi y0.1.2.1,vi y0.1.2.2.1,vi y0.1.xa.1,vs y0.1.xb.1,vi y0.1.xc.1.1,vi y0.1.xc.1.2.1,vi y0.1.xc.1.2.2.1,vb y0.1.xc.1.xa.1.1,vs y0.1.xc.1.xa.1.2,sv p1 y0.1.xc.1.xb c1,vb y0.1.xd.1.1,vs y0.1.xd.1.2,vi y0.1.xe.1.1,vi y0.1.xe.1.2,vi y0.1.xf.1.1,vi y0.1.xf.1.2.1,vi y0.1.xf.1.2.2.1,vi y0.1.xf.1.xa,vi ((fv y0.1.xg).1),vs ((fv y0.1.xg).2.1),sv p2 ((fv y0.1.xg).2.2) c2,sv p4 r.1 c4,vb r.2],r_2] [Al qP 9 r_2 p4 c4 r.1]:=zO call108 func108 u λX=>hI 1 1 0 (λ(s1:Bool) K=>K [0,2] [(0,.c [(23,vb s1)])] [0,1,2] [] [])<|au
abbrev zOQ:=@Cn.mk 108 0 _ @zO3
attribute [instance] zOQ
theorem zIB{y0:zAT}: zJ False prog 51 [pt b1 0] [bx b1 132 [vi y0.1.1,vi y0.1.2.1,vi y0.1.2.2.1,vi y0.1.xa.1,vs y0.1.xb.1,vi y0.1.xc.1.1,vi y0.1.xc.1.2.1,vi y0.1.xc.1.2.2.1,vb y0.1.xc.1.xa.1.1,vs y0.1.xc.1.xa.1.2,sv p1 y0.1.xc.1.xb c1,vb y0.1.xd.1.1,vs y0.1.xd.1.2,vi y0.1.xe.1.1,vi y0.1.xe.1.2,vi y0.1.xf.1.1,vi y0.1.xf.1.2.1,vi y0.1.xf.1.2.2.1,vi y0.1.xf.1.xa,vi ((fv y0.1.xg).1),vs ((fv y0.1.xg).2.1),sv p2 ((fv y0.1.xg).2.2) c2,sv p3 y0.2.1 c3,vb y0.2.2],r_1] (xZ y0.1 p1 c1 p2 c2 [Al qP 9 r_1 p3 c3 y0.2.1,Pt (zY0 9 qP) 1 0 zAP,Aa]) (tC y0) λr K=>∀ p4 c4 r_2,K (.tuple #[]) [bx b1 132 [vi y0.1.1,vi y0.1.2.1,vi y0.1.2.2.1,vi y0.1.xa.1,vs y0.1.xb.1,vi y0.1.xc.1.1,vi y0.1.xc.1.2.1,vi y0.1.xc.1.2.2.1,vb y0.1.xc.1.xa.1.1,vs y0.1.xc.1.xa.1.2,sv p1 y0.1.xc.1.xb c1,vb y0.1.xd.1.1,vs y0.1.xd.1.2,vi y0.1.xe.1.1,vi y0.1.xe.1.2,vi y0.1.xf.1.1,vi y0.1.xf.1.2.1,vi y0.1.xf.1.2.2.1,vi y0.1.xf.1.xa,vi ((fv y0.1.xg).1),vs ((fv y0.1.xg).2.1),sv p2 ((fv y0.1.xg).2.2) c2,sv p4 r.1 c4,vb r.2],r_2] [Al qP 9 r_2 p4 c4 r.1]:=zO call51 func51 u λX=>zF<|zB 2 u<|zL 0 u<|zL 0 u<|zZ 0 u u u<|zG<|qJ<|jA 2 u<|zU u (au)<|jA 2 u<|zU u (au)<|jA 2 u<|zU u (au)<|jA 2 u<|zU u (au)<|jA 2 u<|zU u (zF<|zB 1 u<|zY .s [0,1] [] zID u u u ⟨ck 0,ck 1,ck 2,cn,ck 4,d⟩<|λr7 _ k p10 c10 r_8=>k<|zG<|zF<|zB 3 u<|zL 0 u<|zL 11 u<|qO 0 2 u u u<|qW zM3 u d<|λr8 _ k=>k<|zY .s [0,1] [] zFZ u u u (cq [1,2,0])<|λr9 _ k p11 c11 r_9=>k<|zG<|yE [14] [0] 15<|zP 12 [0,1,2] u<|qC 3 0 u u<|qC 4 13 u u<|jdv (v:=pt b1 13) 5 u (λh=>uQ (k:=2) (sz:=1) h u u (by kernel_rfl) (by decide) u)<|wM 6 0 u u u u<|zP 6 [7,8] u<|qC 9 0 u u<|qC 10 13 u u<|jdv (v:=pt b1 14) 11 u (λh=>uQ (k:=2) (sz:=1) h u u (by kernel_rfl) (by decide) u)<|wM 12 0 u u u u<|zR 13<|vT (.f u) (e:=zT .i64) 3 [vi y0.1.xe.1.1,vi y0.1.xe.1.2] ([y0.1.xe.1.1,y0.1.xe.1.2]:List Int) (rC vI (rC vI rN))<|λp12 c12=>zM<|zR 14<|zY (.f u) [0,1] [] zDo u u u (cq [3,4,1,0,7])<|λr10 _ k p13 c13 r_10=>k<|tZ [] [0]<|qD<|au)<|au
abbrev zNa:=@Cn.mk 51 0 _ @zIB
theorem zOw{y0:List zA}{y1:zA}: zJ False prog 52 [sv p1 y0 c1,vs y1] [] [Rl qP p1 c1 y0] (zDL y0 y1) λr K=>K (vs r) [] []:=z7a Go.Proofs.Tryz.lays156 Go.Proofs.Tryz.Builder_Extra_156 call52
abbrev zVK:=@Cn.mk 52 0 _ @zOw
theorem zIk{y0:qB}: zJ False prog 20 [.agg (zA4 y0 p1 c1 p2 c2).toArray] [] (xZ y0 p1 c1 p2 c2 [Pt (zY0 9 qP) 1 0 zAP,vO 2,vO 3,Aa]) (zAz y0) λr K=>K (.tuple #[vs r.1,vi r.2]) [] []:=zO call20 func20 u λX=>zF<|wT .s u<|λb1=>zB 2 u<|zG<|zS<|zYH (λK=>K [1] [] [0,1,2,3,4,5] [(15,vb ((decide (y0.1<1))||(decide (10<y0.1))))] []) (wR<|zL 0 u<|zZ 0 u u u<|zB 2 u<|jsp (b:=decide (y0.1<1)) 11 u (λhb1=>zB 3 u<|zI (vb true)<|wH<|jup 15 (vb ((decide (y0.1<1))||(decide (10<y0.1)))) u (by rw[hb1];rfl)<|zX (gv kk [0] (gq [0,1,2,3,4,5])))<|λhb1=>zL 0 u<|zZ 0 u u u<|zB 1 u<|zI (vb (decide (10<y0.1)))<|wH<|jup 15 (vb ((decide (y0.1<1))||(decide (10<y0.1)))) u (by rw[hb1];rfl)<|zX (gv kk [0] (gq [0,1,2,3,4,5])))<|λ_ k=>k<|zU u (jA 2 u<|wJ<|yH<|vV u (lT u (lT u lN)) kk [] d)<|jC<|zF<|qO 0 22 u u u<|zI (.agg #[vi y0.1,vi y0.2.1,vi y0.2.2.1,vi y0.xa.1,vs (a4 y0).1,vi (a5 y0).1.1,vi (a5 y0).1.2.1,vi (a5 y0).1.2.2.1,vb (a5 y0).1.2.2.2.1.1,vs (a5 y0).1.2.2.2.1.2,sv p1 (a5 y0).1.2.2.2.2 c1,vb (a6 y0).1.1,vs (a6 y0).1.2,vi (a7 y0).1.1,vi (a7 y0).1.2,vi (a8 y0).1.1,vi (a8 y0).1.2.1,vi (a8 y0).1.2.2.1,vi (a8 y0).1.2.2.2,vi ((fv (a9 y0)).1),vs ((fv (a9 y0)).2.1),sv p2 ((fv (a9 y0)).2.2) c2,Ad,Ab])<|yN qP 9<|wT .s u<|λb2=>zB 1 u<|zG<|zF<|zB 1 u<|zY .s [2,1] [] zIB u u u (cq [1,2,0,3,6])<|λr1 _ k p3 c3 r_1=>k<|zG<|zS<|zF<|zB 2 u<|zL 23 u<|zZ 2 u u u<|zG<|zU u (jA 2 u<|wJ<|yH<|vV u (lT u (lT u lN)) kk [] d)<|jC<|zF<|zB 2 u<|zL 22 u<|zZ 2 u u u<|zY .s [] [1] zOw u u u ⟨cl 1 0,d⟩<|λr2 _ k=>k<|zB 1 u<|zG<|zS<|zF<|zB 1 u<|qW zLg u (cq [5,6,7])<|λr3 _ k p4 c4 p5 c5=>k<|zB 3 u<|qM .s (.agg k2)<|λb3=>zW .s 3 u u u<|zB 1 u<|zG<|qQ (λs1 K=>K [5] [(0,[]),(1,[]),(2,[]),(3,[])] [6,7,8,9] [(42,vb s1)] []) (wR<|zB 3 u<|wG 37 u (zB 4 u<|zI (vb true)<|wH<|zX (gv kk [900,901,902,903] (gq [6,7,8,9])))<|qO 3 22 u u u<|qO 0 22 u u u<|qW zPo u (cq [0,1,4,5])<|λr4 _ k=>k<|zB 1 u<|zI (vb (!r4))<|wH<|zX (gv kk [900,901,902,903] (gq [6,7,8,9])) )<|λs1 _ k=>k<|zU u (jA 2 u<|wJ<|yH<|vV u (lT u (lT u lN)) kk [] d)<|jC<|jA 3 u<|wJ<|vV u (lT u (lT u lN)) kk [] d
abbrev zXe:=@Cn.mk 20 0 _ @zIk
attribute [instance] zNa zVK zXe
theorem zC5{y0:zA}: zJ False prog 24 [vs y0] [] [Pt (zY0 9 qP) 1 0 zAP,vO 2,vO 3,Aa] (zAN y0) λr K=>∀ p1 c1 p2 c2,K (.tuple #[.agg (zA4 r.1 p1 c1 p2 c2).toArray,vi r.2]) [] (xZ r.1 p1 c1 p2 c2 []):=zO call24 func24 u λX=>zF<|qM .s (.agg k2)<|λb1=>zB 1 u<|zG<|zF<|zB 1 u<|qW zLg u (cq [1,2,3])<|λr1 _ k p1 c1 p2 c2=>k<|zB 3 u<|qM .s (.agg k2)<|λb2=>zW .s 1 u u u<|zB 1 u<|zG<|zS<|jA 2 u<|zU u (au)<|jC<|zS<|zF<|qO 1 22 u u u<|qW zIk u (cq [0,1,2,3,4,5])<|λr2 _ k=>k<|hP 4 5 0 (λK=>K [2,4] [] [0,1,2,3,4,5] [(27,vb ((r2.2 != 0)||(!(r2.1==y0))))] [])<|au
abbrev zPk:=@Cn.mk 24 0 _ @zC5
attribute [instance] zPk
theorem zW2:zJ False prog 12 [] [] [Pt (zY0 9 qP) 1 0 zAP,vO 2,vO 3,Aa] (zHC) λr K=>K (vb r) [] []:=zO call12 func12 u λX=>jA 1 u<|zF<|qW zC5 u (cq [0,1,2,3])<|λr1 _ k p1 c1 p2 c2=>k<|zB 3 u<|qM .s (.agg k2)<|λb1=>zW .s 0 u u u<|zB 1 u<|zG<|zF<|qW zC5 u (cq [2,3,4,5])<|λr2 _ k p3 c3 p4 c4=>k<|zB 3 u<|qM .s (.agg k2)<|λb2=>zW .s 1 u u u<|zB 1 u<|zG<|zF<|qW zC5 u (cq [4,5,6,7])<|λr3 _ k p5 c5 p6 c6=>k<|zB 3 u<|qM .s (.agg k2)<|λb3=>zW .s 2 u u u<|zB 1 u<|zG<|zF<|qO 1 22 u u u<|qW zIk u (cq [2,3,6,7,8,9])<|λr4 _ k=>k<|hP 4 5 0 (λK=>K [] [(0,.r []),(1,.r []),(2,.r [])] [6,7,8,9] [(0,vb ((r1.2==0)&&((r2.2==0)&&((r3.2==3)&&((r4.2==0)&&((r1.1.1==4)&&((r1.1.xc.1.1==3)&&(((len r1.1.xc.1.xb)==2)&&((r2.1.xa.1==2)&&(r2.1.xd.1.1&&(r4.1==[100,101,99,105,100,101,32,49,32,50,32,126,112])))))))))))] [])<|au
abbrev zYF:=@Cn.mk 12 0 _ @zW2
theorem zWO{y0 y1:Int}: zJ qd prog 32 [vi y0,vi y1] [] [] (zJG y0 y1) λr K=>K (vi r) [] []:=zO call32 func32 u λX=>au
abbrev z2h:=@Cn.mk 32 0 _ @zWO
theorem zVp{y0:vN}: zJ qd prog 33 [pt b1 0] [bx b1 52 (zCA y0 p1 c1)] (zCC y0 p1 c1 []) (zHi y0) λr K=>K (vi r.1) [bx b1 52 [sv p1 y0.1 c1,vi r.2]] []:=zO call33 func33 u λX=>hD 1 [] [0] (.l [0,1,2,3,4,5,6,7,8,9] .e)<|hD 4 [] [0] (.l [0,1,2,3,4,5,6,7,8,9,10,11] .e)<|au
abbrev zVA:=@Cn.mk 33 0 _ @zVp
attribute [instance] zYF z2h zVA
theorem zAh{y0:vN}{y1:Int}: zJ qd prog 14 [pt b1 0,vi y1] [bx b1 52 (zCA y0 p1 c1)] (zCC y0 p1 c1 []) (uI y0 y1) λr K=>K (vi r.1) [bx b1 52 [sv p1 y0.1 c1,vi r.2]] []:=zO call14 func14 u λX=>au
abbrev zYg:=@Cn.mk 14 0 _ @zAh
attribute [instance] zYg
theorem zSE (k:Nat):
    (∀ {y0:zC} {p1:Option Addr} {c1:Nat} {y1:zC} {p2:Option Addr} {c2:Nat},zJ qd prog 63 [.agg #[vi ((fv y0).1),vs ((fv y0).2.1),sv p1 ((fv y0).2.2) c1],.agg #[vi ((fv y1).1),vs ((fv y1).2.1),sv p2 ((fv y1).2.2) c2]] [] [Rl qF p1 c1 ((fv y0).2.2),Rl qF p2 c2 ((fv y1).2.2)] (zDi k y0 y1) λr K=>K (vb r) [] []):=by
  induction k with
  | zero=>exact xA call63
  | succ k ih=>
    have ih_ref02_Same:=@ih;have zRp:=@Cn.mk 63 0 _ (@ih_ref02_Same);exact @λy0 p1 c1 y1 p2 c2=>zO (m1:=zRf (zDi k) y0 y1) call63 func63 u λX=>hD 6 [] [0,1] (.l [0,1,2,3,4,5,6,7,8,9] (.f 10 (.l [11] .e)))<|hP 4 1 0 (λK=>K [2,3] [] [0,1] [(26,vb ((((fv y0).1) != ((fv y1).1))||((!(((fv y0).2.1)==((fv y1).2.1)))||((len ((fv y0).2.2)) != (len ((fv y1).2.2))))))] [])<|hI 0 4 2 (λ(s1:Int) K=>K [2,3] [] [0,1] [(5,vi s1)] [])<|
 au
theorem zSA{y0 y1:zC}: zJ qd prog 63 [.agg #[vi ((fv y0).1),vs ((fv y0).2.1),sv p1 ((fv y0).2.2) c1],.agg #[vi ((fv y1).1),vs ((fv y1).2.1),sv p2 ((fv y1).2.2) c2]] [] [Rl qF p1 c1 ((fv y0).2.2),Rl qF p2 c2 ((fv y1).2.2)] (zN4 y0 y1) λr K=>K (vb r) [] []:=uY λk=>(zSE k)
abbrev zRp:=@Cn.mk 63 0 _ @zSA
theorem zJ1{y0 y1:List zH}: zJ qd prog 62 [sv p1 y0 c1,sv p2 y1 c2] [] [Rl wD p1 c1 y0,Rl wD p2 c2 y1] (zGI y0 y1) λr K=>K (vb r) [] []:=zO call62 func62 u λX=>jA 1 u<|zS<|jA 5 u<|zU u (jA 1 u<|wJ<|yH<|uL u u kk [] d)<|jC<|zS<|jA 1 u<|qJ<|wY (λs1 K=>K [0,1] [] [0,1] [(5,vi s1)] []) (gv kk [] (gq [0,1]))<|λs1 _ k=>k<|zS<|jA 4 u<|zU u (jC<|zS<|qJ<|xW [] [] 9<|zP 7 [0,1] u<|xJ 2 0 u u u u<|λx1 b1 o1=>xN 3 true xK u (gk 0) u<|zP 3 [4,5] u<|xJ 6 2 u u u u<|λx2 b2 o2=>xN 7 true xK u (gk 0) u<|qH 8 (vb (!(x1==x2))) u<|qD<|wN<|zU u (jA 1 u<|wJ<|xS<|yH<|jlr<|xS<|yH<|uL u u kk [] d)<|yU<|vA<|wN<|jB 3 u<|yP (gv kk [] (gq [2,3])))<|uT<|uP<|xB<|uU<|wN<|jA 1 u<|wJ<|uL u u kk [] d
abbrev zP6:=@Cn.mk 62 0 _ @zJ1
theorem zYb{y0 y1:qB}: zJ qd prog 27 [.agg (zA4 y0 p1 c1 p2 c2).toArray,.agg (zA4 y1 p3 c3 p4 c4).toArray] [] (xZ y0 p1 c1 p2 c2 (xZ y1 p3 c3 p4 c4 [])) (zDf y0 y1) λr K=>K (vb r) [] []:=zO call27 func27 u λX=>zF<|wT .s u<|λb1=>wT .s u<|λb2=>zB 1 u<|zG<|jjn (λs1 K=>K [(4,vb s1)] [[],[]] []) (wR<|zL 0 u<|zZ 0 u u u<|zL 0 u<|zZ 1 u u u<|zB 2 u<|wG 10 u (zL 1 u<|zZ 0 u u u<|zL 1 u<|zZ 1 u u u<|zB 1 u<|zI (vb (y0.2.1==y1.2.1))<|zB 1 u<|wG 17 u (zL 2 u<|zZ 0 u u u<|zL 2 u<|zZ 1 u u u<|zB 1 u<|zI (vb (y0.2.2.1==y1.2.2.1))<|zB 1 u<|wG 24 u (zL 3 u<|zZ 0 u u u<|zL 3 u<|zZ 1 u u u<|zB 1 u<|zI (vb (y0.xa.1==y1.xa.1))<|zB 1 u<|wG 31 u (zL 4 u<|zZ 0 u u u<|zL 4 u<|zZ 1 u u u<|zB 1 u<|zI (vb ((a4 y0).1==(a4 y1).1))<|zB 1 u<|wG 38 u (zL 5 u<|zL 0 u<|zZ 0 u u u<|zL 5 u<|zL 0 u<|zZ 1 u u u<|zB 1 u<|zI (vb ((a5 y0).1.1==(a5 y1).1.1))<|zB 1 u<|wG 47 u (zL 5 u<|zL 1 u<|zZ 0 u u u<|zL 5 u<|zL 1 u<|zZ 1 u u u<|zB 1 u<|zI (vb ((a5 y0).1.2.1==(a5 y1).1.2.1))<|zB 1 u<|wG 56 u (zL 5 u<|zL 2 u<|zZ 0 u u u<|zL 5 u<|zL 2 u<|zZ 1 u u u<|zB 1 u<|zI (vb ((a5 y0).1.2.2.1==(a5 y1).1.2.2.1))<|zB 1 u<|wG 65 u (zL 5 u<|zL 3 u<|qO 0 2 u u u<|zL 5 u<|zL 3 u<|qO 1 2 u u u<|zI (vb ((a5 y0).1.2.2.2.1==(a5 y1).1.2.2.2.1))<|zI (vb ((a5 y0).1.2.2.2.1==(a5 y1).1.2.2.2.1))<|zB 1 u<|wG 74 u (zL 5 u<|zL 5 u<|zZ 0 u u u<|zL 5 u<|zL 5 u<|zZ 1 u u u<|qW zJ1 u (cq [0,2])<|λr1 _ k=>k<|zI (vb r1)<|zB 1 u<|wG 83 u (zL 11 u<|qO 0 2 u u u<|zL 11 u<|qO 1 2 u u u<|zI (vb ((a6 y0).1==(a6 y1).1))<|zI (vb ((a6 y0).1==(a6 y1).1))<|zB 1 u<|wG 90 u (zL 13 u<|qO 0 2 u u u<|zL 13 u<|qO 1 2 u u u<|jv (v:=vb ((a7 y0).1==(a7 y1).1)) (λh=>z86 h u u underlying70 underlying3 (by kernel_rfl) (by kernel_rfl) (by kernel_rfl) (by kernel_rfl))<|zI (vb ((a7 y0).1==(a7 y1).1))<|zB 1 u<|wG 97 u (zL 15 u<|qO 0 4 u u u<|zL 15 u<|qO 1 4 u u u<|zI (vb ((a8 y0).1==(a8 y1).1))<|zI (vb ((a8 y0).1==(a8 y1).1))<|zB 1 u<|wG 104 u (zL 19 u<|qO 0 3 u u u<|zL 19 u<|qO 1 3 u u u<|qW zSA u (cq [1,3])<|λr2 _ k=>k<|zI (vb r2)<|zB 1 u<|wH<|zX (gv kk [900,901] d))<|zB 5 u<|zI Ab<|zB 1 u<|wH<|zX (gv kk [900,901] d))<|zB 5 u<|zI Ab<|zB 6 u<|zI Ab<|zB 1 u<|wH<|zX (gv kk [900,901] d))<|zB 5 u<|zI Ab<|zB 6 u<|zI Ab<|zB 6 u<|zI Ab<|zB 1 u<|wH<|zX (gv kk [900,901] d))<|zB 5 u<|zI Ab<|zB 6 u<|zI Ab<|zB 6 u<|zI Ab<|zB 6 u<|zI Ab<|zB 1 u<|wH<|zX (gv kk [900,901] d))<|zB 7 u<|zI Ab<|zB 6 u<|zI Ab<|zB 6 u<|zI Ab<|zB 6 u<|zI Ab<|zB 6 u<|zI Ab<|zB 1 u<|wH<|zX (gv kk [900,901] d))<|zB 7 u<|zI Ab<|zB 8 u<|zI Ab<|zB 6 u<|zI Ab<|zB 6 u<|zI Ab<|zB 6 u<|zI Ab<|zB 6 u<|zI Ab<|zB 1 u<|wH<|zX (gv kk [900,901] d))<|zB 7 u<|zI Ab<|zB 8 u<|zI Ab<|zB 8 u<|zI Ab<|zB 6 u<|zI Ab<|zB 6 u<|zI Ab<|zB 6 u<|zI Ab<|zB 6 u<|zI Ab<|zB 1 u<|wH<|zX (gv kk [900,901] d))<|zB 7 u<|zI Ab<|zB 8 u<|zI Ab<|zB 8 u<|zI Ab<|zB 8 u<|zI Ab<|zB 6 u<|zI Ab<|zB 6 u<|zI Ab<|zB 6 u<|zI Ab<|zB 6 u<|zI Ab<|zB 1 u<|wH<|zX (gv kk [900,901] d))<|zB 7 u<|zI Ab<|zB 8 u<|zI Ab<|zB 8 u<|zI Ab<|zB 8 u<|zI Ab<|zB 8 u<|zI Ab<|zB 6 u<|zI Ab<|zB 6 u<|zI Ab<|zB 6 u<|zI Ab<|zB 6 u<|zI Ab<|zB 1 u<|wH<|zX (gv kk [900,901] d))<|zB 5 u<|zI Ab<|zB 8 u<|zI Ab<|zB 8 u<|zI Ab<|zB 8 u<|zI Ab<|zB 8 u<|zI Ab<|zB 8 u<|zI Ab<|zB 6 u<|zI Ab<|zB 6 u<|zI Ab<|zB 6 u<|zI Ab<|zB 6 u<|zI Ab<|zB 1 u<|wH<|zX (gv kk [900,901] d))<|zB 5 u<|zI Ab<|zB 6 u<|zI Ab<|zB 8 u<|zI Ab<|zB 8 u<|zI Ab<|zB 8 u<|zI Ab<|zB 8 u<|zI Ab<|zB 8 u<|zI Ab<|zB 6 u<|zI Ab<|zB 6 u<|zI Ab<|zB 6 u<|zI Ab<|zB 6 u<|zI Ab<|zB 1 u<|wH<|zX (gv kk [900,901] d) )<|zB 5 u<|zI Ab<|zB 6 u<|zI Ab<|zB 6 u<|zI Ab<|zB 8 u<|zI Ab<|zB 8 u<|zI Ab<|zB 8 u<|zI Ab<|zB 8 u<|zI Ab<|zB 8 u<|zI Ab<|zB 6 u<|zI Ab<|zB 6 u<|zI Ab<|zB 6 u<|zI Ab<|zB 6 u<|zI Ab<|zB 1 u<|wH<|zX (gv kk [900,901] d))<|zB 5 u<|zI Ab<|zB 6 u<|zI Ab<|zB 6 u<|zI Ab<|zB 6 u<|zI Ab<|zB 8 u<|zI Ab<|zB 8 u<|zI Ab<|zB 8 u<|zI Ab<|zB 8 u<|zI Ab<|zB 8 u<|zI Ab<|zB 6 u<|zI Ab<|zB 6 u<|zI Ab<|zB 6 u<|zI Ab<|zB 6 u<|zI Ab<|zB 1 u<|wH<|zX (gv kk [900,901] d))<|λs1 _ k=>k<|wJ<|uL u u kk [] d
abbrev zZs:=@Cn.mk 27 0 _ @zYb
theorem zQq{y0:zA}: zJ qd prog 64 [vs y0] [] [] (zAm y0) λr K=>K (vb r) [] []:=zO call64 func64 u λX=>hI 1 1 0 (λ(s1:Bool) K=>K [0] [] [] [(21,vb s1)] [])<|hI 0 4 2 (λ(s2:Int) K=>K [0] [] [] [(3,vi s2)] [])<|hI 1 6 0 (λ(s3:Bool) K=>K [0,3] [] [] [(55,vb s3)] [])<|au
abbrev zRF:=@Cn.mk 64 0 _ @zQq
attribute [instance] zRp zP6 zZs zRF
theorem zFN{y0:zH}: zJ qd prog 86 [.agg #[vb y0.1,vs y0.2]] [] [] (zAg y0) λr K=>K (vb r) [] []:=zO call86 func86 u λX=>au
abbrev zXN:=@Cn.mk 86 0 _ @zFN
attribute [instance] zXN
theorem zOc{y0:zH}: zJ qd prog 144 [.agg #[vb y0.1,vs y0.2]] [] [] (zBD y0) λr K=>K (vs r) [] []:=zO call144 func144 u λX=>au
abbrev zVi:=@Cn.mk 144 0 _ @zOc
attribute [instance] zVi
theorem zR7 (k:Nat):
    (∀ {y0:zC} {p1:Option Addr} {c1:Nat},zJ qd prog 247 [.agg #[vi ((fv y0).1),vs ((fv y0).2.1),sv p1 ((fv y0).2.2) c1]] [] [Rl qF p1 c1 ((fv y0).2.2)] (zDE k y0) λr K=>K (vi r) [] []):=by
  induction k with
  | zero=>exact xA call247
  | succ k ih=>
    have ih_ref02_Depth:=@ih;have zQ4:=@Cn.mk 247 0 _ (@ih_ref02_Depth);exact @λy0 p1 c1=>zO (m1:=zLt (zDE k) y0) call247 func247 u λX=>hI 0 3 2 (λ(s1:Int×Int) K=>K [1] [] [0] [(3,vi s1.1),(4,vi s1.2)] [])<|
 au
theorem zXq{y0:zC}: zJ qd prog 247 [.agg #[vi ((fv y0).1),vs ((fv y0).2.1),sv p1 ((fv y0).2.2) c1]] [] [Rl qF p1 c1 ((fv y0).2.2)] (zIt y0) λr K=>K (vi r) [] []:=uY λk=>(zR7 k)
abbrev zQ4:=@Cn.mk 247 0 _ @zXq
attribute [instance] zQ4
theorem zSR (k:Nat):
    (∀ {y0:zC} {p1:Option Addr} {c1:Nat},zJ qd prog 246 [.agg #[vi ((fv y0).1),vs ((fv y0).2.1),sv p1 ((fv y0).2.2) c1]] [] [Rl qF p1 c1 ((fv y0).2.2)] (zDj k y0) λr K=>K (vi r) [] []):=by
  induction k with
  | zero=>exact xA call246
  | succ k ih=>
    have ih_ref02_Size:=@ih;have zRu:=@Cn.mk 246 0 _ (@ih_ref02_Size);exact @λy0 p1 c1=>zO (m1:=zNJ (zDj k) y0) call246 func246 u λX=>hI 0 3 2 (λ(s1:Int×Int) K=>K [1] [] [0] [(3,vi s1.1),(4,vi s1.2)] [])<|
 au
theorem zZ2{y0:zC}: zJ qd prog 246 [.agg #[vi ((fv y0).1),vs ((fv y0).2.1),sv p1 ((fv y0).2.2) c1]] [] [Rl qF p1 c1 ((fv y0).2.2)] (zKd y0) λr K=>K (vi r) [] []:=uY λk=>(zSR k)
abbrev zRu:=@Cn.mk 246 0 _ @zZ2
theorem zRY (k:Nat):
    (∀ {y0:zC} {p1:Option Addr} {c1:Nat},zJ qd prog 248 [.agg #[vi ((fv y0).1),vs ((fv y0).2.1),sv p1 ((fv y0).2.2) c1]] [] [Rl qF p1 c1 ((fv y0).2.2)] (zDC k y0) λr K=>K (vb r) [] []):=by
  induction k with
  | zero=>exact xA call248
  | succ k ih=>
    have ih_ref02_kinds:=@ih;have zQ1:=@Cn.mk 248 0 _ (@ih_ref02_kinds);exact @λy0 p1 c1=>zO (m1:=zIj (zDC k) y0) call248 func248 u λX=>zF<|wT .s u<|λb1=>zB 1 u<|zG<|zF<|zL 2 u<|zZ 0 u u u<|zB 2 u<|zG<|jA 1 u<|qQ (λs1 K=>K [1,3] [] [0] [(4,vb s1)] []) (zF<|zL 0 u<|zZ 0 u u u<|zG<|
  qJ<|qQ (λs2 K=>K [1,3,4,10] [] [0] [(11,vb s2)] []) (jA 2 u<|zU u (yU<|zX (gv kk [0] (gq [0])))<|jA 2 u<|zU u (yU<|zX (gv kk [0] (gq [0])))<|
  jB 2 u<|zX (gv kk [0] (gq [0])))<|λs2 _ k=>k<|zU u (jB 3 u<|vA<|zX (gv kk [0] (gq [0])))<|jA 2 u<|zU u (jB 3 u<|vA<|zX (gv kk [0] (gq [0])))<|
  qQ (λs3 K=>K [1,3,4,10] [] [0] [(21,vb s3)] []) (jA 2 u<|zU u (yU<|zX (gv kk [0] (gq [0])))<|jB 2 u<|zX (gv kk [0] (gq [0])))<|λs3 _ k=>k<|zU u (
  jjqK (λK=>K [1,3] [] [0] [(4,vb ((decide (2<=(len ((fv y0).2.2))))&&(decide ((len ((fv y0).2.2))<=6))))] []) (wR<|
  zB 3 u<|jsp (b:=decide (2<=(len ((fv y0).2.2)))) 26 u (λhb1=>zB 2 u<|zI (vb (decide ((len ((fv y0).2.2))<=6)))<|zB 1 u<|wH<|
  jup 4 (vb ((decide (2<=(len ((fv y0).2.2))))&&(decide ((len ((fv y0).2.2))<=6)))) u (by rw[hb1];rfl)<|zX (gv kk [0] (gq [0])))<|λhb1=>zB 2 u<|zI Ab<|zB 1 u<|wH<|
  jup 4 (vb ((decide (2<=(len ((fv y0).2.2))))&&(decide ((len ((fv y0).2.2))<=6)))) u (by rw[hb1];rfl)<|zX (gv kk [0] (gq [0])))<|λ_ k=>k<|vA<|zX (gv kk [0] (gq [0])))<|
  qQ (λs4 K=>K [1,3,4] [] [0] [(30,vb s4)] []) (jA 2 u<|zU u (yU<|zX (gv kk [0] (gq [0])))<|jB 2 u<|zX (gv kk [0] (gq [0])))<|λs4 _ k=>k<|zU u (
  jB 3 u<|vA<|zX (gv kk [0] (gq [0])))<|yU<|vA<|zX (gv kk [0] (gq [0])))<|λs1 _ k=>k<|zS<|jA 1 u<|qJ<|
  wY (λs5 K=>K [1,3] [] [0] [(4,vb s5.1),(5,vi s5.2)] []) (gv kk [0] (gq [0]))<|λs5 _ k=>k<|zS<|jA 3 u<|zU u (jC<|zS<|qJ<|
  jjcK (λs6 K=>K [1,3,5] [] [0] [(4,vb s6)] []) (wR<|zB 2 u<|wG 41 u (zL 2 u<|zZ 0 u u u<|zB 1 u<|yV 0 u u u<|λx1 b2 o1=>yX true zGk (gk 0) u<|
  λp2 c2=>qW ih_ref02_kinds u (cq [0])<|λr1 _ k=>k<|zI (vb r1)<|zB 1 u<|wH<|zX (gv kk [0] (gq [2])))<|zB 6 u<|zI Ab<|zB 1 u<|wH<|zX (gv kk [0] (gq [0])))<|λs6 _ k=>k<|vA<|wN<|jB 3 u<|
  yP (gv kk [0] (gq [0])))<|uT<|uP<|xB<|uU<|wN<|jA 2 u<|wJ<|uL u u kk [] d
theorem zXO{y0:zC}: zJ qd prog 248 [.agg #[vi ((fv y0).1),vs ((fv y0).2.1),sv p1 ((fv y0).2.2) c1]] [] [Rl qF p1 c1 ((fv y0).2.2)] (zHA y0) λr K=>K (vb r) [] []:=uY λk=>(zRY k)
abbrev zQ1:=@Cn.mk 248 0 _ @zXO
attribute [instance] zRu zQ1
theorem zQs (k:Nat):
    (∀ {y0:zC} {p1:Option Addr} {c1:Nat},zJ qd prog 254 [.agg #[vi ((fv y0).1),vs ((fv y0).2.1),sv p1 ((fv y0).2.2) c1]] [] [Rl qF p1 c1 ((fv y0).2.2)] (zDl k y0) λr K=>K (vb r) [] []):=by
  induction k with
  | zero=>exact xA call254
  | succ k ih=>
    have ih_ref02_names:=@ih;have zQg:=@Cn.mk 254 0 _ (@ih_ref02_names);exact @λy0 p1 c1=>zO (m1:=zQN (zDl k) y0) call254 func254 u λX=>hI 1 2 1 (λ(s1:Bool) K=>K [1] [] [0] [(3,vb s1)] [])<|hI 0 5 2 (λ(s2:Bool×Int) K=>K [1] [] [0] [(3,vb s2.1),(4,vi s2.2)] [])<|hI 3 7 0 (λ(s3:Bool) K=>K [1,4] [] [0] [(3,vb s3)] [])<|
 au
theorem zWz{y0:zC}: zJ qd prog 254 [.agg #[vi ((fv y0).1),vs ((fv y0).2.1),sv p1 ((fv y0).2.2) c1]] [] [Rl qF p1 c1 ((fv y0).2.2)] (zGm y0) λr K=>K (vb r) [] []:=uY λk=>(zQs k)
abbrev zQg:=@Cn.mk 254 0 _ @zWz
attribute [instance] zQg
theorem zM5{y0:zC}: zJ qd prog 167 [.agg #[vi ((fv y0).1),vs ((fv y0).2.1),sv p1 ((fv y0).2.2) c1]] [] [Rl qF p1 c1 ((fv y0).2.2)] (zEE y0) λr K=>K (vi r) [] []:=zO call167 func167 u λX=>hI 1 1 0 (λ(s1:Bool) K=>K [1] [] [0] [(10,vb s1)] [])<|au
abbrev zSa:=@Cn.mk 167 0 _ @zM5
theorem zSf{y0:zC}: zJ qd prog 320 [.agg #[vi ((fv y0).1),vs ((fv y0).2.1),sv p1 ((fv y0).2.2) c1]] [] [Rl qF p1 c1 ((fv y0).2.2)] (zFu y0) λr K=>K (vi r) [] []:=zO call320 func320 u λX=>au
abbrev zSV:=@Cn.mk 320 0 _ @zSf
attribute [instance] zSa zSV
theorem zF2 (k:Nat):
    (∀ {y0:zC} {p1:Option Addr} {c1:Nat} {y1:Int},zJ qd prog 285 [.agg #[vi ((fv y0).1),vs ((fv y0).2.1),sv p1 ((fv y0).2.2) c1],vi y1] [] [Rl qF p1 c1 ((fv y0).2.2)] (zA5 k y0 y1) λr K=>K (vs r) [] []) /\
    (∀ {y0:List zC} {p1:Option Addr} {c1:Nat} {y1:zA} {y2:Int},zJ qd prog 286 [sv p1 y0 c1,vs y1,vi y2] [] [Rl qF p1 c1 y0] (zBp k y0 y1 y2) λr K=>K (vs r) [] []) /\
    (∀ {y0:zC} {p1:Option Addr} {c1:Nat},zJ qd prog 242 [.agg #[vi ((fv y0).1),vs ((fv y0).2.1),sv p1 ((fv y0).2.2) c1]] [] [Rl qF p1 c1 ((fv y0).2.2)] (zBm k y0) λr K=>K (vs r) [] []):=by
  induction k with
  | zero=>exact⟨xA call285,xA call286,xA call242⟩
  | succ k ih=>
    obtain⟨ih_ref02_argument,ih_ref02_joined,ih_ref02_text⟩:=ih;have zM9:=@Cn.mk 285 0 _ (@ih_ref02_argument);have zOj:=@Cn.mk 286 0 _ (@ih_ref02_joined);have zRk:=@Cn.mk 242 0 _ (@ih_ref02_text);exact⟨@λy0 p1 c1 y1=>zO (m1:=zMZ (zA5 k) (zBp k) (zBm k) y0 y1) call285 func285 u λX=>
 au
,@λy0 p1 c1 y1 y2=>zO (m1:=zPA (zA5 k) (zBp k) (zBm k) y0 y1 y2) call286 func286 u λX=>hI 0 3 2 (λ(s1:zA×Int) K=>K [0,1,2] [] [2] [(7,vs s1.1),(8,vi s1.2)] [])<|au
,@λy0 p1 c1=>zO (m1:=zRh (zA5 k) (zBp k) (zBm k) y0) call242 func242 u λX=>hD 15 [] [0] (.l [0,1,2,3,6,7,8,9] (.f 4 (.l [5] (.f 10 (.l [11,12] .e)))))<|au⟩
theorem zSC{y0:zC}{y1:Int}: zJ qd prog 285 [.agg #[vi ((fv y0).1),vs ((fv y0).2.1),sv p1 ((fv y0).2.2) c1],vi y1] [] [Rl qF p1 c1 ((fv y0).2.2)] (zSb y0 y1) λr K=>K (vs r) [] []:=uY λk=>(zF2 k).1
abbrev zM9:=@Cn.mk 285 0 _ @zSC
theorem zUz{y0:List zC}{y1:zA}{y2:Int}: zJ qd prog 286 [sv p1 y0 c1,vs y1,vi y2] [] [Rl qF p1 c1 y0] (zUv y0 y1 y2) λr K=>K (vs r) [] []:=uY λk=>(zF2 k).2.1
abbrev zOj:=@Cn.mk 286 0 _ @zUz
theorem zZZ{y0:zC}: zJ qd prog 242 [.agg #[vi ((fv y0).1),vs ((fv y0).2.1),sv p1 ((fv y0).2.2) c1]] [] [Rl qF p1 c1 ((fv y0).2.2)] (zNX y0) λr K=>K (vs r) [] []:=uY λk=>(zF2 k).2.2
abbrev zRk:=@Cn.mk 242 0 _ @zZZ
attribute [instance] zM9 zOj zRk
theorem zOm{y0:zC}: zJ qd prog 142 [.agg #[vi ((fv y0).1),vs ((fv y0).2.1),sv p1 ((fv y0).2.2) c1]] [] [Rl qF p1 c1 ((fv y0).2.2)] (zAR y0) λr K=>K (.tuple #[vs r.1,vi r.2]) [] []:=zO call142 func142 u λX=>au
abbrev zVq:=@Cn.mk 142 0 _ @zOm
attribute [instance] zVq
theorem zPp (k:Nat):
    (∀ {y0:Int},zJ qd prog 143 [vi y0] [] [] (zEN k y0) λr K=>K (vs r) [] []):=by
  induction k with
  | zero=>exact xA call143
  | succ k ih=>
    have ih_ref41_digits:=@ih;have zOq:=@Cn.mk 143 0 _ (@ih_ref41_digits);exact @λy0=>zO (m1:=zLI (zEN k) y0) call143 func143 u λX=>jA 1 u<|zS<|jA 2 u<|zU u (zF<|zB 2 u<|zI (.int .u8 (IntKind.u8.wrap (zE ((48:Int)+y0))))<|
 au)<|jC<|jjn (λs1 K=>K [(2,vs s1)] [] []) (yE [] [] 11<|zP 10 [0] u<|yT λx1 h1=>jdv 1 u (λh=>z82 h u u h1)<|zP 8 [3] u<|yT λx2 h2=>jdv 4 u (λh=>z2Y h u u h2)<|zP 6 [5] u<|qH 6 (.int .u8 (IntKind.u8.wrap (zE ((48:Int)+x2)))) u<|uS 2 7 (zY (.f u) [] [] ih_ref41_digits u u u d<|λr1 _ k=>k<|zM<|zR 7<|vT (.f u) (e:=zT .u8) 5 [.int .u8 (IntKind.u8.wrap (zE ((48:Int)+x2)))] ([IntKind.u8.wrap (zE ((48:Int)+x2))]:List Int) (rC vI rN)<|λp2 c2=>zM<|zR 8<|jsb (.f u) (gk 0) u underlying43 underlying5 underlying9<|zM<|yT λx3 h3=>jdv 9 u (λh=>zPq h u u h3)<|zP 0 [10] u<|qD<|zX (gv kk [] d)) <|vT (.f u) (e:=zT .u8) 5 [.int .u8 (IntKind.u8.wrap (zE ((48:Int)+x2)))] ([IntKind.u8.wrap (zE ((48:Int)+x2))]:List Int) (rC vI rN)<|λp3 c3=>zM<|uS 2 8 (zY (.f u) [] [] ih_ref41_digits u u u d<|λr2 _ k=>k<|zM<|zR 8<|jsb (.f u) (gk 0) u underlying43 underlying5 underlying9<|zM<|yT λx4 h4=>jdv 9 u (λh=>zPq h u u h4)<|zP 0 [10] u<|qD<|zX (gv kk [] d)) <|jsb (.f u) (gk 0) u underlying43 underlying5 underlying9<|zM<|zR 2<|zY (.f u) [] [] ih_ref41_digits u u u d<|λr3 _ k=>k<|zM<|yT λx5 h5=>jdv 9 u (λh=>zPq h u u h5)<|zP 0 [10] u<|qD<|zX (gv kk [] d))<|au
theorem zHr{y0:Int}: zJ qd prog 143 [vi y0] [] [] (zAU y0) λr K=>K (vs r) [] []:=uY λk=>(zPp k)
abbrev zOq:=@Cn.mk 143 0 _ @zHr
attribute [instance] zOq
theorem zZB{y0:qB}{y1:zA}: zJ qd prog 146 [.agg (zA4 y0 p1 c1 p2 c2).toArray,vs y1] [] (xZ y0 p1 c1 p2 c2 []) (zEj y0 y1) λr K=>K (vs r) [] []:=zO call146 func146 u λX=>hD 1 [] [0] (.l [0,1,2,6,7,8] (.f 3 (.l [4,5] (.f 9 (.l [10,11] .e)))))<|hD 4 [] [0] (.l [0,1,2,3,4,5,9,10,11] (.f 6 (.l [7,8] (.f 12 (.l [13,14] .e)))))<|au
abbrev zZ1:=@Cn.mk 146 0 _ @zZB
theorem z0R{y0:qB}{y1:zA}: zJ qd prog 145 [.agg (zA4 y0 p1 c1 p2 c2).toArray,vs y1] [] (xZ y0 p1 c1 p2 c2 []) (zFx y0 y1) λr K=>K (vs r) [] []:=zO call145 func145 u λX=>hI 2 2 1 (λ(s1:Unit) K=>K [1,5] [(0,.r [])] [] [] [])<|hI 0 10 2 (λ(s2:zA×Int) K=>K [2] [] [0,1] [(6,vs s2.1),(7,vi s2.2)] [])<|au
abbrev z01:=@Cn.mk 145 0 _ @z0R
attribute [instance] zZ1 z01
theorem zZH{y0:qB}: zJ qd prog 80 [.agg (zA4 y0 p1 c1 p2 c2).toArray] [] (xZ y0 p1 c1 p2 c2 []) (zAl y0) λr K=>K (vs r) [] []:=zO call80 func80 u λX=>zF<|wT .s u<|λb1=>zB 1 u<|zG<|zF<|zL 1 u<|zZ 0 u u u<|qW zHr u d<|λr1 _ k=>k<|yT λx1 h1=>jv (λh=>zPq h u u h1)<|yT λx2 h2=>jv (λh=>zPq h u u h2)<|zB 1 u<|zG<|zF<|zL 11 u<|qO 0 2 u u u<|qW zOc u d<|λr2 _ k=>k<|zB 1 u<|zG<|zF<|zL 19 u<|qO 0 3 u u u<|qW zOm u (cq [1])<|λr3 _ k=>k<|zB 5 u<|zG<|zS<|zF<|zL 0 u<|zZ 0 u u u<|zG<|qJ<|jA 2 u<|zU u (au)<|jA 2 u<|zU u (au)<|jA 2 u<|zU u (au)<|jA 2 u<|zU u (au)<|jA 2 u<|zU u (xW [] [0] 17<|zP 16 [0] u<|yT λx8 h8=>jdv 1 u (λh=>zPq h u u h8)<|zP 14 [2] u<|yT λx9 h9=>jdv 3 u (λh=>zPq h u u h9)<|yT λx10 h10=>jdv 4 u (λh=>zPq h u u h10)<|qC 5 13 u u<|jdv (v:=pt b1 13) 6 u (λh=>uQ (k:=2) (sz:=1) h u u (by kernel_rfl) (by decide) u)<|wM 7 0 u u u u<|qC 11 13 u u<|jdv (v:=pt b1 14) 12 u (λh=>uQ (k:=2) (sz:=1) h u u (by kernel_rfl) (by decide) u)<|wM 13 0 u u u u<|zR 8<|zY (.f u) [] [] zHr u u u d<|λr6 _ k=>k<|zM<|yT λx11 h11=>jdv 9 u (λh=>zPq h u u h11)<|yT λx12 h12=>jdv 10 u (λh=>zPq h u u h12)<|zR 14<|zY (.f u) [] [] zHr u u u d<|λr7 _ k=>k<|zM<|yT λx13 h13=>jdv 15 u (λh=>zPq h u u h13)<|zP 0 [16] u<|qD<|au)<|au
abbrev zYY:=@Cn.mk 80 0 _ @zZH
theorem zR3{y0:zA}: zJ qd prog 141 [vs y0] [] [] (zFJ y0) λr K=>K (vb r) [] []:=zO call141 func141 u λX=>hI 2 1 1 (λ(s1:Unit) K=>K [0] [] [] [] [])<|hI 0 2 2 (λ(s2:Int) K=>K [0] [] [] [(3,vi s2)] [])<|hI 1 4 0 (λ(s3:Bool) K=>K [0,3] [] [] [(19,vb s3)] [])<|hP 4 6 0 (λK=>K [] [] [] [(2,vb ((decide (1<=(len y0)))&&(decide ((len y0)<=200))))] [])<|au
abbrev zQu:=@Cn.mk 141 0 _ @zR3
theorem zPj{y0:Int}: zJ qd prog 78 [vi y0] [] [] (zBM y0) λr K=>K (vb r) [] []:=zO call78 func78 u λX=>hP 4 1 0 (λK=>K [] [] [] [(2,vb ((decide (0<=y0))&&(decide (y0<=9999))))] [])<|au
abbrev zWg:=@Cn.mk 78 0 _ @zPj
attribute [instance] zYY zQu zWg
theorem zXx{y0:qB}: zJ qd prog 79 [.agg (zA4 y0 p1 c1 p2 c2).toArray] [] (xZ y0 p1 c1 p2 c2 []) (zAe y0) λr K=>K (vb r) [] []:=zO call79 func79 u λX=>zF<|wT .s u<|λb1=>zB 1 u<|zG<|z3u (λs1 K=>K [1] [] [0,1] [] []) (zF<|zL 0 u<|zZ 0 u u u<|zG<|qJ<|qQ (λs2 K=>K [1,9] [] [0,1] [(10,vb s2)] []) (au)<|λs2 _ k=>k<|zU u (au)<|jA 2 u<|zU u (au)<|jA 2 u<|zU u (qQ (λs3 K=>K [1] [] [0,1] [(3,vb s3)] []) (au)<|λs3 _ k=>k<|qQ (λs4 K=>K [1] [] [0,1] [(3,vb s4)] []) (hI 0 10 2 (λ(s5:Bool×Int) K=>K [1] [] [0,1] [(3,vb s5.1),(4,vi s5.2)] [])<|hI 3 12 0 (λ(s6:Bool) K=>K [1,4] [] [0,1] [(3,vb s6)] [])<|au)<|λs4 _ k=>k<|hP 4 13 0 (λK=>K [] [(0,.r [])] [] [(2,vb (s4&&(((a5 y0).1.1 != 3)||((decide (1<=(len (a5 y0).1.2.2.2.2)))&&(decide ((len (a5 y0).1.2.2.2.2)<=6))))))] [])<|au)<|jA 2 u<|zU u (jjn (λs7 K=>K [(2,vb s7)] [[]] []) (wR<|zL 11 u<|qO 0 2 u u u<|qW zFN u d<|λr5 _ k=>k<|zB 1 u<|wG 86 u (zL 13 u<|jv (v:=pt b1 13) (λh=>uQ (k:=2) (sz:=1) h u u (by kernel_rfl) (by decide) u)<|zZ 0 u u u<|qW zPj u d<|λr6 _ k=>k<|zI (vb r6)<|zB 1 u<|wG 92 u (zL 13 u<|jv (v:=pt b1 14) (λh=>uQ (k:=2) (sz:=1) h u u (by kernel_rfl) (by decide) u)<|au)<|au)<|au)<|au)<|hI 1 18 0 (λ(s8:Bool) K=>K [] [(0,.r []),(1,.r [])] [] [(2,vb s8)] [])<|hI 1 20 0 (λ(s9:Bool) K=>K [] [(0,.r [])] [] [(2,vb s9)] [])<|au)<|hI 1 22 0 (λ(s10:Bool) K=>K [] [(0,.r [])] [] [(2,vb s10)] [])<|au
abbrev zXF:=@Cn.mk 79 0 _ @zXx
theorem zQC{y0:zA}: zJ qd prog 152 [vs y0] [] [] (zBN y0) λr K=>K (.tuple #[.agg #[vb r.1.1,vs r.1.2],vi r.2]) [] []:=zO call152 func152 u λX=>hI 1 2 1 (λ(s1:Bool×zA) K=>K [2,4] [(1,.c [(0,vb s1.1),(1,vs s1.2)])] [] [] [])<|hI 1 2 0 (λ(s2:Bool) K=>K [0,2,4] [] [] [(14,vb s2)] [])<|au
abbrev zWq:=@Cn.mk 152 0 _ @zQC
theorem zRo{y0:Int}: zJ qd prog 289 [.int .u8 y0] [] [] (zIF y0) λr K=>K (vb r) [] []:=zO call289 func289 u λX=>hP 4 1 0 (λK=>K [] [] [] [(2,vb (if decide (97<=y0) then(decide (y0<=122))||(if decide (48<=y0) then(decide (y0<=57))||(y0==95) else y0==95) else if decide (48<=y0) then(decide (y0<=57))||(y0==95) else y0==95))] [])<|au
abbrev zZb:=@Cn.mk 289 0 _ @zRo
attribute [instance] zXF zWq zZb
theorem zF1{y0:wU}: CoL qd prog 244 [pt b1 0] [bx b1 310 (zBE y0)] [] (zAX y0) λL r K=>K (.tuple #[vs r.1,vi r.2]) L []:=zO call244 func244 u λX=>hI 1 2 4 (λ(s1:Int) K=>K [0] [] [] [(4,vi s1)] [])<|hI 0 2 2 (λ(s2:Int) K=>K [0] [] [] [(4,vi s2)] [])<|hI 1 2 0 (λ(s3:Bool) K=>K [0,4] [] [] [(28,vb s3)] [])<|hI 1 7 4 (λ(s4:Int) K=>K [0,4] [] [] [(5,vi s4)] [])<|hI 0 7 2 (λ(s5:Int) K=>K [0,4] [] [] [(5,vi s5)] [])<|hI 1 7 0 (λ(s6:Bool) K=>K [0,4,5] [] [] [(73,vb s6)] [])<|hI 1 11 0 (λ(s7:Bool) K=>K [4,6] [] [] [(95,vb s7)] [])<|hI 0 15 1 (λ(s8:Int) K=>K [0,4,99,100] [] [0] [(101,vi s8)] [])<|hI 1 17 0 (λ(s9:Bool) K=>K [0,4,8,99,100,101] [] [1] [(128,vb s9)] [])<|au
abbrev zOZ:=@Cn.mk 244 0 _ @zF1
attribute [instance] zOZ
theorem zGF{y0:wU}: zJ qd prog 245 [pt b1 0] [bx b1 310 (zBE y0)] [] (zAx y0) λr K=>∀ p1 c1,K (.agg #[vi ((fv r.1).1),vs ((fv r.1).2.1),sv p1 ((fv r.1).2.2) c1]) [bx b1 310 [vs y0.1,vi y0.2.1,vi r.2]] [Rl qF p1 c1 ((fv r.1).2.2)]:=zO call245 func245 u λX=>hI 1 1 1 (λ(s1:Int) K=>K [2] [(0,.c [(2,vi s1)])] [] [] [])<|au
abbrev zP2:=@Cn.mk 245 0 _ @zGF
theorem zBR{y0:wU}{y1:zA}: zJ qd prog 288 [pt b1 0,vs y1] [bx b1 310 (zBE y0)] [] (zAE y0 y1) λr K=>K (vb r.1) [bx b1 310 [vs y0.1,vi r.2,vi y0.2.2]] []:=zO call288 func288 u λX=>jA 1 u<|zF<|zB 1 u<|zY .s [0] [] zF1 u u u d<|λr1 _ k=>k<|hP 4 2 0 (λK=>K [0,1,6] [] [] [(21,vb ((!(r1.1==y1))||(decide (0<=y0.2.2))))] [])<|au
abbrev zPc:=@Cn.mk 288 0 _ @zBR
theorem zCL (k:Nat):
    (∀ {y0:wU} {b1:Nat},zJ qd prog 340 [pt b1 0] [bx b1 310 (zBE y0)] [] (zAY k y0) λr K=>∀ p1 c1,K (.agg #[vi ((fv r.1).1),vs ((fv r.1).2.1),sv p1 ((fv r.1).2.2) c1]) [bx b1 310 [vs y0.1,vi r.2.1,vi r.2.2]] [Rl qF p1 c1 ((fv r.1).2.2)]) /\
    (∀ {y0:wU} {b1:Nat},zJ qd prog 243 [pt b1 0] [bx b1 310 (zBE y0)] [] (zA3 k y0) λr K=>∀ p1 c1,K (.agg #[vi ((fv r.1).1),vs ((fv r.1).2.1),sv p1 ((fv r.1).2.2) c1]) [bx b1 310 [vs y0.1,vi r.2.1,vi r.2.2]] [Rl qF p1 c1 ((fv r.1).2.2)]) /\
    (∀ {y0:wU} {b1:Nat},zJ qd prog 287 [pt b1 0] [bx b1 310 (zBE y0)] [] (zAO k y0) λr K=>∀ p1 c1,K (.agg #[vi ((fv r.1).1),vs ((fv r.1).2.1),sv p1 ((fv r.1).2.2) c1]) [bx b1 310 [vs y0.1,vi r.2.1,vi r.2.2]] [Rl qF p1 c1 ((fv r.1).2.2)]) /\
    (∀ {y0:wU} {b1:Nat},zJ qd prog 321 [pt b1 0] [bx b1 310 (zBE y0)] [] (zA8 k y0) λr K=>∀ p1 c1,K (.agg #[vi ((fv r.1).1),vs ((fv r.1).2.1),sv p1 ((fv r.1).2.2) c1]) [bx b1 310 [vs y0.1,vi r.2.1,vi r.2.2]] [Rl qF p1 c1 ((fv r.1).2.2)]) /\
    (∀ {y0:wU} {b1:Nat},zJ qd prog 359 [pt b1 0] [bx b1 310 (zBE y0)] [] (zAW k y0) λr K=>∀ p1 c1,K (.agg #[vi ((fv r.1).1),vs ((fv r.1).2.1),sv p1 ((fv r.1).2.2) c1]) [bx b1 310 [vs y0.1,vi r.2.1,vi r.2.2]] [Rl qF p1 c1 ((fv r.1).2.2)]):=by
  induction k with
  | zero=>exact⟨xA call340,xA call243,xA call287,xA call321,xA call359⟩
  | succ k ih=>
    obtain⟨ih_ref02_reader_and,ih_ref02_reader_iff,ih_ref02_reader_implies,ih_ref02_reader_or,ih_ref02_reader_unary⟩:=ih;have zKJ:=@Cn.mk 340 0 _ (@ih_ref02_reader_and);have zKX:=@Cn.mk 243 0 _ (@ih_ref02_reader_iff);have zHP:=@Cn.mk 287 0 _ (@ih_ref02_reader_implies);have zL6:=@Cn.mk 321 0 _ (@ih_ref02_reader_or);have zIf:=@Cn.mk 359 0 _ (@ih_ref02_reader_unary);exact⟨@λy0 b1=>zO (m1:=zK8 (zAY k) (zA3 k) (zAO k) (zA8 k) (zAW k) y0) call340 func340 u λX=>zF<|qM .s (.agg k0)<|λb2=>zG<|zF<|zB 1 u<|zY .s [0] [] ih_ref02_reader_unary rfl u u d<|λr1 _ k p1 c1=>k<|
  yR .s (e:=qF) 75 [vi ((fv r1.1).1),vs ((fv r1.1).2.1),sv p1 ((fv r1.1).2.2) c1] ([r1.1]:List zC) (rC (vF (vP vI (vP vS (vL (gk 0))))) rN)<|λr_1 p2 c2=>zB 1 u<|zG<|
  qQ (λs1 K=>∀ p3 c3 r_2,K [2] [(0,bx b1 310 [vs y0.1,vi s1.2.1,vi s1.2.2]),(2,r_2)] [] [(3,sv p3 s1.1 c3)] [Al qF 75 r_2 p3 c3 s1.1]) (
  qJ<|
  wY (λs2 K=>∀ p4 c4 r_3,K [0,2] [(0,bx b1 310 [vs y0.1,vi s2.2.1,vi s2.2.2]),(2,r_3)] [] [(3,sv p4 s2.1 c4)] [Al qF 75 r_3 p4 c4 s2.1]) (gv (λ_ k=>k p2 c2 r_1) [0,1,2] (gq [0]))<|
  λs2 _ k p4 c4 r_3=>k<|zS<|zF<|zB 1 u<|zY .s [0] [] zBR u u u d<|λr2 _ k=>k<|zG<|zU u (jC<|qJ<|wR<|zB 2 u<|zY .s [0] [] ih_ref02_reader_unary rfl u u d<|λr3 _ k p5 c5=>k<|
  vT .s (e:=qF) 75 [vi ((fv r3.1).1),vs ((fv r3.1).2.1),sv p5 ((fv r3.1).2.2) c5] ([r3.1]:List zC) (rC (vF (vP vI (vP vS (vL (gk 0))))) rN)<|λp6 c6=>qZ .s 2 2 u (gk 0) u u<|λx1 r_4 p7 c7=>zB 1 u<|wH<|
  vA<|yP (gv (λ_ k=>k p7 c7 r_4) [0,1,2] (gq [0])))<|uT<|uP<|xB<|uU<|zX (gv (λ_ k=>k p4 c4 r_3) [0,1,2] (gq [0])))<|λs1 _ k p3 c3 r_2=>k<|zS<|jA 3 u<|zU u (zF<|zB 1 u<|jia 0 u u u<|λx2 h2 b3 o1 hp1=>
  jlA 2 0 sI true zGk u hp1 h2 u<|λp8 c8=>zW .s 1 u u u<|zG<|wJ<|yH<|vV u (lC 1 (.agg #[vi ((fv x2).1),vs ((fv x2).2.1),sv p8 ((fv x2).2.2) c8]) u u lN) (λ_ k=>k p8 c8) [0] (gq [0]))<|jC<|zF<|zB 1 u<|
  zI (.agg #[vi 5,Af,sv p3 s1.1 c3])<|zW .s 1 u u u<|zG<|wJ<|vX 2 0 u u<|vV u (lC 1 (.agg #[vi 5,Af,sv p3 s1.1 c3]) u u lN) (λ_ k=>k p3 c3) [0] (gq [0]),
    @λy0 b1=>zO (m1:=zKL (zAY k) (zA3 k) (zAO k) (zA8 k) (zAW k) y0) call243 func243 u λX=>zF<|qM .s (.agg k0)<|λb2=>zG<|zF<|zB 1 u<|zY .s [0] [] ih_ref02_reader_implies u u u d<|λr1 _ k p1 c1=>k<|qM .s (.agg k0)<|λb3=>zW .s 2 u u u<|zG<|
  zS<|zF<|zB 1 u<|zY .s [0] [] zBR u u u d<|λr2 _ k=>k<|zG<|zU u (xW [] [2] 6<|vJ 0 2 3 u u u u<|zP 4 [1] u<|zR 2<|zY (.f u) [0] [] ih_ref02_reader_implies u u u d<|
  λr3 _ k p2 c2=>k<|zM<|zR 3<|
  vT (.f u) (e:=qF) 75 [vi ((fv r1.1).1),vs ((fv r1.1).2.1),sv p1 ((fv r1.1).2.2) c1,vi ((fv r3.1).1),vs ((fv r3.1).2.1),sv p2 ((fv r3.1).2.2) c2] ([r1.1,r3.1]:List zC) (rC (vF (vP vI (vP vS (vL (gk 1))))) (rC (vF (vP vI (vP vS (vL (gk 0))))) rN))<|
  λp3 c3=>zM<|qH 4 (.agg #[vi 8,Af,sv p3 ([r1.1,r3.1]:List zC) c3]) u<|zR 5<|zW (o:=0) (.f u) 1 u u u<|zM<|qD<|wN<|wJ<|yH<|
  vV u (lC 1 (.agg #[vi 8,Af,sv p3 ([r1.1,r3.1]:List zC) c3]) u u lN) (λ_ k=>k p3 c3) [0] (gq [0]))<|jC<|zF<|qO 2 3 u u u<|zW .s 1 u u u<|zG<|wJ<|
  vV u (lC 1 (.agg #[vi ((fv r1.1).1),vs ((fv r1.1).2.1),sv p1 ((fv r1.1).2.2) c1]) u u lN) (λ_ k=>k p1 c1) [0] (gq [0]),
    @λy0 b1=>zO (m1:=zHI (zAY k) (zA3 k) (zAO k) (zA8 k) (zAW k) y0) call287 func287 u λX=>zF<|qM .s (.agg k0)<|λb2=>zG<|zF<|zB 1 u<|zY .s [0] [] ih_ref02_reader_or u u u d<|λr1 _ k p1 c1=>k<|qM .s (.agg k0)<|λb3=>zW .s 2 u u u<|zG<|zS<|
  zF<|zB 1 u<|zY .s [0] [] zBR u u u d<|λr2 _ k=>k<|zG<|zU u (xW [] [2] 6<|vJ 0 2 3 u u u u<|zP 4 [1] u<|zR 2<|zY (.f u) [0] [] ih_ref02_reader_implies u u u d<|
  λr3 _ k p2 c2=>k<|zM<|zR 3<|
  vT (.f u) (e:=qF) 75 [vi ((fv r1.1).1),vs ((fv r1.1).2.1),sv p1 ((fv r1.1).2.2) c1,vi ((fv r3.1).1),vs ((fv r3.1).2.1),sv p2 ((fv r3.1).2.2) c2] ([r1.1,r3.1]:List zC) (rC (vF (vP vI (vP vS (vL (gk 1))))) (rC (vF (vP vI (vP vS (vL (gk 0))))) rN))<|
  λp3 c3=>zM<|qH 4 (.agg #[vi 7,Af,sv p3 ([r1.1,r3.1]:List zC) c3]) u<|zR 5<|zW (o:=0) (.f u) 1 u u u<|zM<|qD<|wN<|wJ<|yH<|
  vV u (lC 1 (.agg #[vi 7,Af,sv p3 ([r1.1,r3.1]:List zC) c3]) u u lN) (λ_ k=>k p3 c3) [0] (gq [0]))<|jC<|zF<|qO 2 3 u u u<|zW .s 1 u u u<|zG<|wJ<|
  vV u (lC 1 (.agg #[vi ((fv r1.1).1),vs ((fv r1.1).2.1),sv p1 ((fv r1.1).2.2) c1]) u u lN) (λ_ k=>k p1 c1) [0] (gq [0]),
    @λy0 b1=>zO (m1:=zLR (zAY k) (zA3 k) (zAO k) (zA8 k) (zAW k) y0) call321 func321 u λX=>zF<|qM .s (.agg k0)<|λb2=>zG<|zF<|zB 1 u<|zY .s [0] [] ih_ref02_reader_and u u u d<|λr1 _ k p1 c1=>k<|
  yR .s (e:=qF) 75 [vi ((fv r1.1).1),vs ((fv r1.1).2.1),sv p1 ((fv r1.1).2.2) c1] ([r1.1]:List zC) (rC (vF (vP vI (vP vS (vL (gk 0))))) rN)<|λr_1 p2 c2=>zB 1 u<|zG<|
  qQ (λs1 K=>∀ p3 c3 r_2,K [2] [(0,bx b1 310 [vs y0.1,vi s1.2.1,vi s1.2.2]),(2,r_2)] [] [(3,sv p3 s1.1 c3)] [Al qF 75 r_2 p3 c3 s1.1]) (
  qJ<|
  wY (λs2 K=>∀ p4 c4 r_3,K [0,2] [(0,bx b1 310 [vs y0.1,vi s2.2.1,vi s2.2.2]),(2,r_3)] [] [(3,sv p4 s2.1 c4)] [Al qF 75 r_3 p4 c4 s2.1]) (gv (λ_ k=>k p2 c2 r_1) [0,1,2] (gq [0]))<|
  λs2 _ k p4 c4 r_3=>k<|zS<|zF<|zB 1 u<|zY .s [0] [] zBR u u u d<|λr2 _ k=>k<|zG<|zU u (jC<|qJ<|wR<|zB 2 u<|zY .s [0] [] ih_ref02_reader_and u u u d<|λr3 _ k p5 c5=>k<|
  vT .s (e:=qF) 75 [vi ((fv r3.1).1),vs ((fv r3.1).2.1),sv p5 ((fv r3.1).2.2) c5] ([r3.1]:List zC) (rC (vF (vP vI (vP vS (vL (gk 0))))) rN)<|λp6 c6=>qZ .s 2 2 u (gk 0) u u<|λx1 r_4 p7 c7=>zB 1 u<|wH<|
  vA<|yP (gv (λ_ k=>k p7 c7 r_4) [0,1,2] (gq [0])))<|uT<|uP<|xB<|uU<|zX (gv (λ_ k=>k p4 c4 r_3) [0,1,2] (gq [0])))<|λs1 _ k p3 c3 r_2=>k<|zS<|jA 3 u<|zU u (zF<|zB 1 u<|jia 0 u u u<|λx2 h2 b3 o1 hp1=>
  jlA 2 0 sI true zGk u hp1 h2 u<|λp8 c8=>zW .s 1 u u u<|zG<|wJ<|yH<|vV u (lC 1 (.agg #[vi ((fv x2).1),vs ((fv x2).2.1),sv p8 ((fv x2).2.2) c8]) u u lN) (λ_ k=>k p8 c8) [0] (gq [0]))<|jC<|zF<|zB 1 u<|
  zI (.agg #[vi 6,Af,sv p3 s1.1 c3])<|zW .s 1 u u u<|zG<|wJ<|vX 2 0 u u<|vV u (lC 1 (.agg #[vi 6,Af,sv p3 s1.1 c3]) u u lN) (λ_ k=>k p3 c3) [0] (gq [0]),
    @λy0 b1=>zO (m1:=zAa (zAY k) (zA3 k) (zAO k) (zA8 k) (zAW k) y0) call359 func359 u λX=>zF<|qM .s (.agg k0)<|λb2=>zG<|zS<|zF<|zB 1 u<|zY .s [0] [] zBR u u u d<|λr1 _ k=>k<|zG<|zU u (zF<|zB 1 u<|zY .s [0] [] ih_ref02_reader_unary rfl u u d<|
  λr2 _ k p1 c1=>k<|vT .s (e:=qF) 75 [vi ((fv r2.1).1),vs ((fv r2.1).2.1),sv p1 ((fv r2.1).2.2) c1] ([r2.1]:List zC) (rC (vF (vP vI (vP vS (vL (gk 0))))) rN)<|λp2 c2=>
  zI (.agg #[vi 4,Af,sv p2 ([r2.1]:List zC) c2])<|zW .s 1 u u u<|zG<|wJ<|yH<|vV u (lC 1 (.agg #[vi 4,Af,sv p2 ([r2.1]:List zC) c2]) u u lN) (λ_ k=>k p2 c2) [0] (gq [0]))<|jC<|zS<|zF<|
  zB 1 u<|zY .s [0] [] zBR u u u d<|λr3 _ k=>k<|zG<|zU u (zF<|zB 1 u<|zY .s [0] [] ih_ref02_reader_iff u u u d<|λr4 _ k p3 c3=>k<|qM .s (.agg k0)<|λb3=>
  zW .s 2 u u u<|zG<|zS<|qQ (λs1 K=>K [0,2,3] [(0,bx b1 310 [vs y0.1,vi s1.2,vi r4.2.2])] [0] [(25,vb s1.1)] []) (wR<|zB 2 u<|zL 2 u<|
  zZ 0 u u u<|zB 2 u<|wG 21 u (zB 1 u<|zY .s [0] [] zBR u u u d<|λr5 _ k=>k<|zB 1 u<|zI (vb (!r5.1))<|wH<|zX (gv kk [0,1,2] (gq [0])))<|zB 3 u<|zI Ab<|wH<|
  zX (gv kk [0,1,2] (gq [0])))<|λs1 _ k=>k<|zU u (zF<|zB 1 u<|zY .s [0] [] zGF u u u d<|λr6 _ k p4 c4=>k<|zW .s 1 u u u<|zG<|wJ<|yH<|yH<|
  vV u (lC 1 (.agg #[vi ((fv r6.1).1),vs ((fv r6.1).2.1),sv p4 ((fv r6.1).2.2) c4]) u u lN) (λ_ k=>k p4 c4) [0] (gq [0]))<|jC<|zF<|qO 2 3 u u u<|zW .s 1 u u u<|zG<|wJ<|yH<|
  vV u (lC 1 (.agg #[vi ((fv r4.1).1),vs ((fv r4.1).2.1),sv p3 ((fv r4.1).2.2) c3]) u u lN) (λ_ k=>k p3 c3) [0] (gq [0]))<|jC<|zF<|zB 1 u<|zY .s [0] [] zF1 u u u d<|λr7 _ k=>k<|zB 5 u<|zG<|
  zS<|qQ (λs2 K=>K [0,2,4,5] [] [] [(48,vb s2)] []) (wR<|zB 3 u<|wG 36 u (zB 4 u<|zI (vb true)<|zB 6 u<|zI (vb true)<|wH<|zX (gv kk [0,1] d))<|zB 1 u<|
  yT λx1 h1=>jv (λh=>z1g h u u underlying9 h1)<|qW zRo u d<|λr8 _ k=>k<|zB 1 u<|zI (vb (!r8))<|zB 1 u<|wG 42 u (zB 5 u<|zI (vb true)<|wH<|zX (gv kk [0,1] d))<|zB 2 u<|
  zL 2 u<|zZ 0 u u u<|zB 1 u<|zI (vb (decide (0<=y0.2.2)))<|wH<|zX (gv kk [0,1] d))<|λs2 _ k=>k<|zU u (zF<|zB 1 u<|zY .s [0] [] zGF u u u d<|λr9 _ k p5 c5=>k<|
  zW .s 1 u u u<|zG<|wJ<|yH<|vV u (lC 1 (.agg #[vi ((fv r9.1).1),vs ((fv r9.1).2.1),sv p5 ((fv r9.1).2.2) c5]) u u lN) (λ_ k=>k p5 c5) [0] (gq [0]))<|jC<|zF<|zB 6 u<|zL 1 u<|zW .s 0 u u u<|zG<|zS<|
  jA 1 u<|qJ<|jA 2 u<|zU u (zF<|zI (.agg #[vi 1,Af,Ad])<|zW .s 1 u u u<|zG<|wJ<|xS<|yH<|vV u (lC 1 (.agg #[vi 1,Af,Ad]) u u lN) (λ_ k=>k none 0) [0] ⟨gn,d⟩)<|jA 2 u<|
  zU u (zF<|zI (.agg #[vi 2,Af,Ad])<|zW .s 1 u u u<|zG<|wJ<|xS<|yH<|vV u (lC 1 (.agg #[vi 2,Af,Ad]) u u lN) (λ_ k=>k none 0) [0] ⟨gn,d⟩)<|yU<|vA<|wN<|zF<|zB 1 u<|
  zI (.agg #[vi 3,vs r7.1,Ad])<|zW .s 1 u u u<|zG<|wJ<|vV u (lC 1 (.agg #[vi 3,vs r7.1,Ad]) u u lN) (λ_ k=>k none 0) [0] ⟨gn,d⟩⟩
theorem zQW{y0:wU}: zJ qd prog 340 [pt b1 0] [bx b1 310 (zBE y0)] [] (zQ5 y0) λr K=>∀ p1 c1,K (.agg #[vi ((fv r.1).1),vs ((fv r.1).2.1),sv p1 ((fv r.1).2.2) c1]) [bx b1 310 [vs y0.1,vi r.2.1,vi r.2.2]] [Rl qF p1 c1 ((fv r.1).2.2)]:=uY λk=>(zCL k).1
abbrev zKJ:=@Cn.mk 340 0 _ @zQW
theorem zPz{y0:wU}: zJ qd prog 243 [pt b1 0] [bx b1 310 (zBE y0)] [] (zHG y0) λr K=>∀ p1 c1,K (.agg #[vi ((fv r.1).1),vs ((fv r.1).2.1),sv p1 ((fv r.1).2.2) c1]) [bx b1 310 [vs y0.1,vi r.2.1,vi r.2.2]] [Rl qF p1 c1 ((fv r.1).2.2)]:=uY λk=>(zCL k).2.1
abbrev zKX:=@Cn.mk 243 0 _ @zPz
theorem zMv{y0:wU}: zJ qd prog 287 [pt b1 0] [bx b1 310 (zBE y0)] [] (zMr y0) λr K=>∀ p1 c1,K (.agg #[vi ((fv r.1).1),vs ((fv r.1).2.1),sv p1 ((fv r.1).2.2) c1]) [bx b1 310 [vs y0.1,vi r.2.1,vi r.2.2]] [Rl qF p1 c1 ((fv r.1).2.2)]:=uY λk=>(zCL k).2.2.1
abbrev zHP:=@Cn.mk 287 0 _ @zMv
theorem zR8{y0:wU}: zJ qd prog 321 [pt b1 0] [bx b1 310 (zBE y0)] [] (zRX y0) λr K=>∀ p1 c1,K (.agg #[vi ((fv r.1).1),vs ((fv r.1).2.1),sv p1 ((fv r.1).2.2) c1]) [bx b1 310 [vs y0.1,vi r.2.1,vi r.2.2]] [Rl qF p1 c1 ((fv r.1).2.2)]:=uY λk=>(zCL k).2.2.2.1
abbrev zL6:=@Cn.mk 321 0 _ @zR8
theorem zOS{y0:wU}: zJ qd prog 359 [pt b1 0] [bx b1 310 (zBE y0)] [] (zO5 y0) λr K=>∀ p1 c1,K (.agg #[vi ((fv r.1).1),vs ((fv r.1).2.1),sv p1 ((fv r.1).2.2) c1]) [bx b1 310 [vs y0.1,vi r.2.1,vi r.2.2]] [Rl qF p1 c1 ((fv r.1).2.2)]:=uY λk=>(zCL k).2.2.2.2
abbrev zIf:=@Cn.mk 359 0 _ @zOS
attribute [instance] zP2 zPc zKJ zKX zHP zL6 zIf
theorem zXR{y0:zA}: zJ qd prog 155 [vs y0] [] [] (zCh y0) λr K=>∀ p1 c1,K (.tuple #[.agg #[vi ((fv r.1).1),vs ((fv r.1).2.1),sv p1 ((fv r.1).2.2) c1],vi r.2.1,vi r.2.2]) [] [Rl qF p1 c1 ((fv r.1).2.2)]:=zO call155 func155 u λX=>hD 9 [] [1] (.l [0,1,2,3,4] (.f 5 (.l [6,7] .e)))<|hI 1 5 1 (λ(s1:Int) K=>K [2,5,6] [(1,.c [(2,vi s1)])] [0] [] [])<|hI 1 10 0 (λ(s2:Bool) K=>K [2,6] [(1,.r [])] [0] [(49,vb s2)] [])<|au
abbrev zXz:=@Cn.mk 155 0 _ @zXR
end Go.Proofs.YtkmalbjjjappgaaGreatDoor
