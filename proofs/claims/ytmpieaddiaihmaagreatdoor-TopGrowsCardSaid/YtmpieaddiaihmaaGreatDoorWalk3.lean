/- A part. Conditions: none. -/
import Derived.Test.YtmpieaddiaihmaaGreatDoorWalk2
namespace Go.Proofs.YtmpieaddiaihmaaGreatDoor
open Go Go.GD Go.Proofs.Tryz
set_option autoImplicit false
set_option linter.unusedVariables false
set_option maxRecDepth 100000
set_option linter.defProp false
variable {qd:Prop}
variable {yl1:Nat}{p1 p2 p3 p4 p5 p6 p7 p8 p9:Option Addr}{c1 c2 c3 c4 c5 c6 c7 c8 c9:Nat}{b1 b2 b3 b4 b5 b6 b7 b8 b9 b10 b11:Nat}{r_1 r_2 r_3 r_4 r_5 r_6:zJ}
theorem zM2{y0:List zT}{y1:Int}{y2:List zT}: zP qd prog 115 [sv p1 y0 c1,vi y1,sv p2 y2 c2] [r_1,r_2] [Al qH 48 r_1 p1 c1 y0,Al qH 48 r_2 p2 c2 y2] (zJK y0 y1 y2) fun r K=>∀ p3 c3 r_3,K (sv p3 r c3) [[],r_2,r_3] [Al qH 48 r_3 p3 c3 r] :=
 zN call115 func115 u fun X=>jgd (fun _ h=>insM_ok h)<|fun hc=>jAc 0 u<|fun hle hmx hp=>
  zH<|zA 1 u<|zK<|zH<|zA 2 u<|jv (fun h=>z2f (E.n qH) h u u hc.2.1 hc.2.2.1 hle (by kernel_rfl))<|zK<|zH<|zA 3 u<|uD 7 (vi 1) u (by rw[hc.1];rfl)<|zK<|zQ<|zH<|zA 2 u<|zK<|jcf u<|yA<|qK<|
  zH<|zA 3 u<|zK<|zQ<|zH<|zA 3 u<|zK<|tO (b:=y1==((List.length y0:Nat):Int)) 22 u (fun hb=>jct u<|jme (ins_end hc hb)<|zH<|zA 2 u<|jao .s 0 1 0 1 u u u u<|fun z r_3 p3 c3=>zA 1 u<|zK<|qO<|vD<|
  yB u u (fun _ k=>k p3 c3 r_3) [900,1,0] ⟨gk 0,d⟩) (fun hb=>jcf u<|yA<|qK<|zQ<|zH<|zA 4 u<|jv (fun h=>z6e h u underlying32)<|zA 1 u<|zK<|jme (z2a hc)<|
  tO (b:=decide (((c1:Nat):Int)<zF (((List.length y0:Nat):Int)+1))) 31 u (fun hg=>jct u<|
  zH<|zA 2 u<|jv (fun h=>r_slP (E.n qH) h u u (hpp hp) hc.2.1 (by omega) (by kernel_rfl))<|zA 5 u<|jaG (i:=y1.toNat) (k:=List.length y0+1-y1.toNat) .s 0 0 ((0,0):zT) (.agg k4) u (by omega) (by omega) (z9i hc hg) (by omega) (ins_k hc) u u underlying3 (vP vI vI)<|fun r_3 b1 c3=>zA 1 u<|zK<|
  jAc 0 u<|fun hl2 _ _=>zH<|zA 2 u<|jv (fun h=>z2f (E.n qH) h u u hc.2.1 (by omega) (ins_l2 hc hl2) (by kernel_rfl))<|zA 1 u<|jcp .s 2 0 u (vwV (vwP (.inr ⟨_,_,rfl⟩) hc.2.1 (ins_l3 hc) hl2 (ins_l4 hc))) (srA 1 2 u) u u<|fun r_4=>zK<|
  uR [] [] 9<|zW 5 [0,1,2,3] u<|xF 4 u (fun h=>z2f (E.n qH) h u u (z5D hc) (ins_w1 hc) (ins_l2 hc hl2) (by kernel_rfl))<|zW 2 [5,6] u<|xF 7 u (fun h=>z2f (E.n qH) h u u hc.2.1 hc.2.2.1 hle (by kernel_rfl))<|
  qM 8<|jcp (.f u) 2 0 u (vwV (ins_vw hc (.inr ⟨_,_,rfl⟩) hl2)) (srV 0 2 (vwP (hpp hp) hc.2.1 hc.2.2.1 hle u) u) u u<|fun r_5=>qN<|qT<|qK<|
  zH<|zA 2 u<|zK<|qO<|vD<|uD 6 (sv (some ⟨b1,0,none⟩) (List.take y1.toNat y0++y2++List.drop y1.toNat y0) c3) u (ins_hd hc)<|yB u u (fun _ k=>k _ c3 r_5) [900,1,2] ⟨gE (gk 0) (ins_fin hc),d⟩) (fun hg=>jcf u<|yA<|qK<|
  jAb 0 u (ins_ne hc hb)<|fun b1 o1 hb1=>zH<|zA 4 u<|jv (fun h=>r_slP (E.n qH) h u u (hpp hp) (ins_v0 hc) (ins_v1 hc hg) (by kernel_rfl))<|zA 1 u<|uD 0 (.slice p1 (List.length y0+1) c1) u (ins_v2 hc)<|zK<|
  zQ<|zH<|zA 5 u<|jv (fun h=>z2f (E.n qH) h u u (z5D hc) (z8X hc) (zMc hc hg) (by kernel_rfl))<|jov (tb:=4) 0 1 0 1 (by decide) (ins_z hc) u u hb1 (ins_c0 hc hg) u u (z0s hb1 (ins_w3 hc hb hg)) func173 (by kernel_rfl)<|zA 1 u<|zK<|jct u<|
  uR [] [] 9<|zW 5 [0,1,2,3] u<|xF 4 u (fun h=>z2f (E.n qH) h u u (z5D hc) (z8X hc) (zMc hc hg) (by kernel_rfl))<|zW 2 [5,6] u<|xF 7 u (fun h=>z2f (E.n qH) h u u hc.2.1 (by omega) (zMc hc hg) (by kernel_rfl))<|
  qM 8<|jcU (k:=y1.toNat) (.f u) 0 0 u hb1 (z8S hc hb) (zMc hc hg) u u (ins_q1 hc hb hg hb1) (z0s hb1 (ins_q2 hc hb hg)) (ins_m1 hc) u<|fun r_3=>qN<|qT<|qK<|
  zH<|zA 2 u<|jv (fun h=>z2f (E.n qH) h u u hc.2.1 (by omega) (zMc hc hg) (by kernel_rfl))<|zA 1 u<|jcp .s 0 0 u (vwV (vwP (hpp hp) hc.2.1 (ins_x1 hc hb) (ins_x2 hc hb hg) (ins_x3 hc hb))) (srA 1 2 u) u u<|fun r_4=>zK<|
  zH<|zA 2 u<|zK<|qO<|vD<|uD 6 (sv p1 (List.take y1.toNat y0++y2++List.drop y1.toNat y0) c1) u (ins_hd2 hc)<|yB u u (fun _ k=>k p1 c1 r_4) [900,1,0] ⟨gE (gk 0) (z8g hc hb),d⟩))
abbrev zRy:=@Cn.mk 115 0 _ @zM2
theorem zQA{y0:zY}{y1:zL0}: zP qd prog 61 [.agg #[vi y0.1,sv p1 y0.2 c1],.agg (zXM y1).toArray] [r_1] [Al qH 48 r_1 p1 c1 y0.2] (zJ9 y0 y1) fun r K=>∀ p2 c2 p3 c3,K (.tuple #[.agg (wW r.1 p2 c2).toArray,sv p3 r.2 c3]) [[]] [Rl qH p2 c2 r.1.2,Rl (zC .i64) p3 c3 r.2] :=
 zN call61 func61 u fun X=>zH<|wR .s u<|fun b1=>wR .s u<|fun b2=>vH .s (.agg k5)<|fun b3=>zA 1 u<|zK<|zH<|qB 1 u<|qG 2 u u u<|qB 2 u<|qG 2 u u u<|qE (.agg #[vi y1.2.1,vi y1.2.2])<|vH .s (.agg k4)<|
  fun b4=>qU .s 4 u u u<|zK<|zQ<|zH<|qB 0 u<|qG 2 u u u<|zK<|zX<|jA 2 u<|zS u (zH<|qB 1 u<|qG 1 u u u<|wQ 4 2 u u u<|
  qL .s [] [0] zCI u u u ⟨cl 0 0,d⟩<|fun r1 _ k=>k<|zA 5 u<|zK<|zH<|qB 1 u<|qG 1 u u u<|zA 1 u<|wQ 4 2 u u u<|
  jbo .s (e:=qH) 48 [vi y1.2.1,vi y1.2.2] ([(y1.2.1,y1.2.2)]:List zT) (rC (vP vI vI) rN)<|fun r_2 p2 c2=>qL .s [0,5] [] zM2 u u u (cq [1,0])<|fun r2 _ k p3 c3 r_3=>k<|qB 1 u<|
  qU .s 1 u u u<|zK<|
  jjn (fun s1 K=>∀ p4 c4 p5 c5 r_4,K [(4,pt b3 0),(5,sv p4 s1.1 c4)] [[],[],[],bx b3 34 [vi s1.2.1,sv p5 s1.2.2 c5],[],[],r_4] [Rl (zC .i64) p4 c4 s1.1,Al qH 48 r_4 p5 c5 s1.2.2]) (
  xY [] [1,2] 6<|uQ 0 1 2 u u u u<|qR 1 2 u u<|wS 2 2 u u u u<|jd2 3 4 (yI (.f u) (e:=zC .i64) 3 [vi y1.2.2] ([y1.2.2]:List Int) (rC vI rN)<|fun p6 c6=>qN<|qM 4<|
  qU (o:=0) (.f u) 3 u u u<|qN<|zW 0 [5] u<|qT<|qI (gv (fun _ k=>k p6 c6 p3 c3 r_3) [900,901,902,3,904,905,6] (gq [0,1]))) <|qU (o:=0) (.f u) 3 u u u<|qN<|qM 3<|
  yI (.f u) (e:=zC .i64) 3 [vi y1.2.2] ([y1.2.2]:List Int) (rC vI rN)<|fun p7 c7=>qN<|zW 0 [5] u<|qT<|qI (gv (fun _ k=>k p7 c7 p3 c3 r_3) [900,901,902,3,904,905,6] (gq [0,1])))<|fun s1 _ k p4 c4 p5 c5 r_4=>k<|qO<|xK<|vD<|
  uI 6 1 u u<|yD u (lC 3 (.agg #[vi s1.2.1,sv p5 s1.2.2 c5]) u u (lT u lN)) (fun _ k=>k p5 c5 p4 c4) [900] (gq [0,1]))<|jA 2 u<|zS u (zH<|qB 1 u<|qG 1 u u u<|zA 1 u<|jno)<|jA 2 u<|zS u (zH<|qB 0 u<|
  qG 1 u u u<|zA 1 u<|qB 0 u<|qU .s 1 u u u<|zK<|
  jjn (fun s2 K=>∀ p8 c8 p9 c9 r_5,K [(4,pt b3 0),(5,sv p8 s2.1 c8)] [r_5,[],[],bx b3 34 [vi s2.2.1,sv p9 s2.2.2 c9],[]] [Rl (zC .i64) p8 c8 s2.1,Al qH 48 r_5 p9 c9 s2.2.2]) (
  xY [] [1] 7<|uQ 0 1 2 u u u u<|qR 1 0 u u<|wS 2 1 u u u u<|zW 3 [3] u<|jd2 4 5 (
  yI (.f u) (e:=zC .i64) 3 [vi (zF ((zF (y0.1+1))-1))] ([zF ((zF (y0.1+1))-1)]:List Int) (rC vI rN)<|fun p10 c10=>qN<|qM 5<|qU (o:=0) (.f u) 3 u u u<|qN<|zW 0 [6] u<|qT<|
  qI (gv (fun _ k=>k p10 c10 p1 c1 r_1) [0,901,902,3,904] (gq [0,1]))) <|qU (o:=0) (.f u) 3 u u u<|qN<|qM 4<|
  yI (.f u) (e:=zC .i64) 3 [vi (zF ((zF (y0.1+1))-1))] ([zF ((zF (y0.1+1))-1)]:List Int) (rC vI rN)<|fun p11 c11=>qN<|zW 0 [6] u<|qT<|qI (gv (fun _ k=>k p11 c11 p1 c1 r_1) [0,901,902,3,904] (gq [0,1])))<|
  fun s2 _ k p8 c8 p9 c9 r_5=>k<|qO<|xK<|vD<|uI 0 1 u u<|yD u (lC 3 (.agg #[vi s2.2.1,sv p9 s2.2.2 c9]) u u (lT u lN)) (fun _ k=>k p9 c9 p8 c8) [900] (gq [0,1]))<|yA<|vM<|qK<|zH<|qB 0 u<|qG 1 u u u<|
  zA 1 u<|qB 0 u<|qU .s 1 u u u<|zK<|zH<|zA 1 u<|yX (zC .i64) 3 <|zK<|
  wC (fun s3 K=>∀ p12 c12 r_6,K [2,4] [(2,[]),(4,[]),(5,r_6)] [1] [(9,sv p12 s3 c12)] [Al (zC .i64) 3 r_6 p12 c12 s3]) (
  zH<|qB 1 u<|qG 1 u u u<|zA 2 u<|zK<|zX<|
  wD (fun s4 K=>∀ p13 c13 r_7,K [2,4,66,67] [(2,[]),(4,[]),(5,r_7)] [1] [(9,sv p13 s4.1 c13),(68,vi s4.2)] [Al (zC .i64) 3 r_7 p13 c13 s4.1]) (gv (fun _ k=>k none 0 []) [0,1,902,3,904,5] (gq [0,1]))<|
  fun s4 _ k p13 c13 r_7=>k<|jA 1 u<|zQ<|zS u (jC<|zQ<|zX<|zH<|jia 1 u u u<|fun x1 h1 b5 o1 hp1=>jlA 0 1 sI true zSR u hp1 h1 u<|vH .s (.agg k4)<|fun b6=>qU .s 6 u u u<|zK<|
  z5h (fun K=>K [2,4,9,11,66,67,68] [] [0,1] [(83,vb ((x1.1==(zF (y0.1-1)))&&(decide (x1.2<(zF (y0.1-1))))))] []) (
  vG<|qB 0 u<|qG 6 u u u<|qB 0 u<|qG 1 u u u<|zA 2 u<|tO (b:=x1.1==(zF (y0.1-1))) 77 u (fun hb1=>qB 1 u<|qG 6 u u u<|qB 0 u<|qG 1 u u u<|zA 1 u<|
  qE (vb (decide (x1.2<(zF (y0.1-1)))))<|wK<|uD 83 (vb ((x1.1==(zF (y0.1-1)))&&(decide (x1.2<(zF (y0.1-1)))))) u (by rw[hb1];rfl)<|qI (gv kk [0,1,902,3,904,5,6] (gq [0,1])))<|fun hb1=>zA 5 u<|
  qE (vb false)<|wK<|uD 83 (vb ((x1.1==(zF (y0.1-1)))&&(decide (x1.2<(zF (y0.1-1)))))) u (by rw[hb1];rfl)<|qI (gv kk [0,1,902,3,904,5,6] (gq [0,1])))<|fun _ k=>k<|zS u (vG<|zA 1 u<|qB 1 u<|
  qG 6 u u u<|yI .s (e:=zC .i64) 3 [vi x1.2] ([x1.2]:List Int) (rC vI rN)<|fun p14 c14=>uE .s 5 1 u (gk 0) u u<|fun x2 r_8 p15 c15=>zA 1 u<|wK<|vM<|qK<|jB 2 u<|
  yH (gv (fun _ k=>k p15 c15 r_8) [0,1,902,3,904,5] (gq [0,3])))<|yA<|vM<|qK<|jB 2 u<|yH (gv (fun _ k=>k p13 c13 r_7) [0,1,902,3,904,5] (gq [0,1])))<|uA<|yR<|yY<|yZ<|qI (gv (fun _ k=>k p13 c13 r_7) [0,1,902,3,904,5] (gq [0,1])))<|
  fun s3 _ k p12 c12 r_6=>k<|zH<|qB 1 u<|qG 1 u u u<|zA 1 u<|jno
abbrev zWd:=@Cn.mk 61 0 _ @zQA
theorem zSb{y0:List zT}: zP qd prog 57 [sv p1 y0 c1] [] [Rl qH p1 c1 y0] (zGu y0) fun r K=>∀ p2 c2 r_1,K (sv p2 r c2) [r_1] [Al qH 48 r_1 p2 c2 r] :=
 zN call57 func57 u fun X=>jA 1 u<|zQ<|zH<|zA 1 u<|jv (fun h=>z5s h u underlying32)<|zK<|jnl (m1:=some ([]:List zT)) u (gk 0) (fun h=>by first|(rw[h];done)|(rw[h];rfl)|(simp[h,qD];done)) (jA 1 u<|qO<|vD<|yX qH 48<|
  jrE 0 2 u u<|
 au
)<|hO 5<|
 au
abbrev zSt:=@Cn.mk 57 0 _ @zSb
theorem zHj{y0:List Int}: zP qd prog 58 [sv p1 y0 c1] [] [Rl (zC .i64) p1 c1 y0] (zCh y0) fun r K=>∀ p2 c2 r_1,K (sv p2 r c2) [r_1] [Al (zC .i64) 3 r_1 p2 c2 r] :=
 zN call58 func58 u fun X=>jA 1 u<|zQ<|zH<|zA 1 u<|jv (fun h=>z5s h u underlying22)<|zK<|jnl (m1:=some ([]:List Int)) u (gk 0) (fun h=>by first|(rw[h];done)|(rw[h];rfl)|(simp[h,qD];done)) (jA 1 u<|qO<|vD<|yX (zC .i64) 3<|
  jrE 0 2 u u<|
 au
)<|hO 5<|
 au
abbrev zT2:=@Cn.mk 58 0 _ @zHj
attribute [instance] zEq zRy zWd zSt zT2
theorem zPu{y0:zDo}: zP qd prog 23 [.agg (zLd y0 p1 c1 p2 c2).toArray] [] (zLj y0 p1 c1 p2 c2 []) (zEl y0) fun r K=>∀ p3 c3 r_1 p4 c4,K (.agg #[vi r.1.1,sv p3 r.1.2 c3,sv p4 r.2 c4]) [r_1] [Al qH 48 r_1 p3 c3 r.1.2,Rl (zC .i64) p4 c4 r.2] :=
 zN call23 func23 u fun X=>hD 1 [] [0] (.l [0,1,2,3,4,5,8,9] (.f 6 (.l [7] (.f 10 (.l [11] (.f 12 .e))))))<|
 au
abbrev zWq:=@Cn.mk 23 0 _ @zPu
theorem zTN{y0:List zT}{y1:zT}: zP qd prog 246 [sv p1 y0 c1,.agg #[vi y1.1,vi y1.2]] [] [Rl qH p1 c1 y0] (zJp y0 y1) fun r K=>K (vi r) [] [] :=
 zN call246 func246 u fun X=>zH<|wR .s u<|fun b1=>zA 1 u<|zK<|zQ<|jA 3 u<|zX<|wD (fun s1 K=>K [0,3,7] [] [0] [(8,vi s1)] []) (gv kk [0] (gq [0]))<|fun s1 _ k=>k<|jA 1 u<|zQ<|zS u (jC<|zQ<|
  zX<|jA 2 u<|uR [] [0] 6<|uQ 0 0 2 u u u u<|zW 3 [1,2] u<|jdi 3 0 u u u u<|fun x1 b2 o1=>jdl 4 true zSR u (gk 0) u<|vR 5 (vb (y1==x1)) u<|qT<|qK<|zS u (jA 2 u<|qO<|xK<|vD<|jlr<|
  xK<|vD<|yB u u kk [] d)<|yA<|vM<|qK<|jB 2 u<|yH (gv kk [0] (gq [1])))<|uA<|yR<|yY<|yZ<|qK<|jA 1 u<|qO<|yB u u kk [] d
abbrev zSX:=@Cn.mk 246 0 _ @zTN
attribute [instance] zWq zSX
theorem zQV{y0:List zT}{y1:zT}: zP qd prog 172 [sv p1 y0 c1,.agg #[vi y1.1,vi y1.2]] [] [Rl qH p1 c1 y0] (zHa y0 y1) fun r K=>K (vb r) [] [] :=
 zN call172 func172 u fun X=>
 au
abbrev zQD:=@Cn.mk 172 0 _ @zQV
attribute [instance] zQD
theorem zYW{y0:zY}{y1:Int}{y2:Int}: zP qd prog 112 [.agg (wW y0 p1 c1).toArray,vi y1,vi y2] [] [Rl qH p1 c1 y0.2] (zPd y0 y1 y2) fun r K=>K (vb r) [] [] :=
 zN call112 func112 u fun X=>zH<|wR .s u<|fun b1=>zA 1 u<|zK<|zH<|wQ 0 2 u u u<|wF zJ5 u (cq [0])<|fun r1 _ k p2 c2=>k<|jv (v:=sv p2 r1.2 c2) (fun h=>r_field h u (by kernel_rfl))<|
 au
abbrev z3b:=@Cn.mk 112 0 _ @zYW
attribute [instance] z3b
set_option maxHeartbeats 2000000 in
theorem zOp{y0:zY}{y1:zL0}: zP qd prog 60 [.agg (wW y0 p1 c1).toArray,.agg (zXM y1).toArray] [] [Rl qH p1 c1 y0.2] (zIj y0 y1) fun r K=>K (vi r) [] [] :=
 zN call60 func60 u fun X=>zH<|wR .s u<|fun b1=>wR .s u<|fun b2=>zA 1 u<|zK<|zQ<|zH<|qB 0 u<|qG 1 u u u<|zK<|zX<|wC (fun s1 K=>K [2,3,7] [] [0] [(8,vb s1)] []) (
 au
)<|fun s1 _ k=>k<|zS u (zH<|wQ 0 2 u u u<|qB 1 u<|qG 1 u u u<|qB 2 u<|qG 1 u u u<|wF zYW u (cq [0])<|fun r1 _ k=>
  k<|hP 4 6 0 (fun K=>K [3,5] [(0,.r [])] [] [(17,vb ((decide ((if y1.2.2<y1.2.1 then y1.2.2 else y1.2.1)<0))||(decide (y0.1≤(if y1.2.2 > y1.2.1 then y1.2.2 else y1.2.1)))))] [])<|hP 4 8 0 (fun K=>K [3,5] [] [] [(34,vb ((y1.1==1)&&r1))] [])<|hP 4 10 0 (fun K=>K [] [(1,.r [])] [] [(41,vb ((y1.1==2)&&(!r1)))] [])<|
 au
)<|hI 1 12 1 (fun(s2:Bool) K=>K [2,3] [] [0] [(49,vb s2)] [])<|hP 4 14 0 (fun K=>K [2,3] [] [0] [(52,vb ((y1.2.1 != 0)||(y1.2.2 != 0)))] [])<|hP 4 16 0 (fun K=>K [2,3] [] [0] [(61,vb ((y1.1==3)&&(y0.1==40)))] [])<|hP 4 18 0 (fun K=>K [] [(0,.r []),(1,.r [])] [] [(70,vb ((y1.1==4)&&(y0.1==0)))] [])<|
 au
abbrev zVe:=@Cn.mk 60 0 _ @zOp
theorem zNt{y0:Int}{y1:zY}{y2:List Int}: wO qd prog 125 [vi y0,pt b1 0,pt b2 0] [bx b1 34 (wW y1 p1 c1),bx b2 22 [sv p2 y2 c2]] [Rl qH p1 c1 y1.2,Rl (zC .i64) p2 c2 y2,Pt (wN 64 (zC .u8)) 3 0 vA] (zHp y0 y1 y2) fun L r K=>K (vi r) L [] :=
 zN call125 func125 u fun X=>hI 2 2 1 (fun(s1:Bool) K=>K [] [] [0,1,2] [(5,vb s1)] [])<|hI 0 3 1 (fun(s2:Bool×Int) K=>K [2,10,11] [] [0,1,2,3] [(5,vb s2.1),(12,vi s2.2)] [])<|
 au
abbrev zUl:=@Cn.mk 125 0 _ @zNt
attribute [instance] zVe zUl
theorem zPz{y0:zY}{y1:List Int}{y2:List Int}: zP qd prog 66 [.agg (wW y0 p1 c1).toArray,sv p2 y1 c2,sv p3 y2 c3] [r_1] [Rl qH p1 c1 y0.2,Al (zC .i64) 3 r_1 p2 c2 y1,Rl (zC .i64) p3 c3 y2,Pt (wN 64 (zC .u8)) 3 0 vA] (zHX y0 y1 y2) fun r K=>∀ r_2,K (.tuple #[]) [r_2] [Ar (zC .i64) 3 r_2 p2 c2 (List.length y1) r] :=
 zN call66 func66 u fun X=>zH<|wR .s u<|fun b1=>wR .s u<|fun b2=>zK<|zH<|zA 1 u<|wF zHj u (cq [2])<|fun r1 _ k p4 c4 r_2=>k<|zA 1 u<|zK<|jA 2 u<|zX<|
  wD (fun s1 K=>∀ p5 c5 r_3 r_4,K [3,4,7] [(0,r_4),(2,bx b2 22 [.slice p2 (List.length y1) c2]),(3,r_3)] [1,4] [(6,sv p5 s1.1 c5)] [Al (zC .i64) 3 r_3 p5 c5 s1.1,Ar (zC .i64) 3 r_4 p2 c2 (List.length y1) s1.2]) (gv (fun _ k=>k p4 c4 r_2 r_1) [0,1,2,3] (gq [0,2,1,4]))<|
  fun s1 _ k p5 c5 r_3 r_4=>k<|zQ<|jA 3 u<|zS u (jC<|zX<|zH<|zA 1 u<|jia 0 u u u<|fun x1 h1 b3 o1 hp1=>jlA 3 0 sI false oI u hp1 h1 u<|zA 1 u<|zK<|zH<|zA 1 u<|jsE 0 u u u<|fun x2 p6 c6=>zA 1 u<|zK<|zQ<|
  zH<|qG 2 u u u<|zA 1 u<|jia 2 u u u<|fun x3 h2 b4 o2 hp2=>jlA 0 2 sI false oI u hp2 h2 u<|zA 1 u<|zK<|zS u (
 au
)<|jC<|
  jbL (fun q_=>[r_4,bx b1 34 (wW y0 p1 c1),bx b2 22 [.slice p2 q_ c2],r_3]) (gk 2) u<|uR [] [2] 7<|wS 0 2 u u u u<|zW 3 [1,2,3] u<|qM 4<|
  qL (.f u) [1,2] [0] zNt u u u ⟨ck 4,cl 0 0,ck 5,d⟩<|fun r2 _ k=>k<|qN<|jdI 5 0 u u u u<|fun x4 h3 b5 o3 hp3=>qM 6<|jsA (.f u) 0 0 sI r2 false u hp3 h3 u u vI<|fun r_5=>qN<|qT<|qK<|zH<|
  qG 2 u u u<|zA 1 u<|jia 0 u u u<|fun x5 h4 b6 o4 hp4=>jlA 0 0 sI false oI u hp4 h4 u<|zA 1 u<|zK<|zS u (vG<|zA 1 u<|wQ 1 2 u u u<|zA 1 u<|wF zJb u (cq [5,6])<|fun r3 _ k p7 c7=>k<|
  uE .s 3 3 u (gk 0) u u<|fun x6 r_6 p8 c8=>zA 1 u<|wK<|vM<|jbM (fun q_=>[r_5,bx b1 34 (wW y0 p1 c1),bx b2 22 [.slice p2 q_ c2],r_6]) (gk 6) (gk 2) u<|
 au
)<|yA<|
  vM<|jbM (fun q_=>[r_5,bx b1 34 (wW y0 p1 c1),bx b2 22 [.slice p2 q_ c2],r_3]) (gk 4) (gk 0) u<|
 au
)<|
 au
abbrev zWK:=@Cn.mk 66 0 _ @zPz
theorem zUh{y0:zY}{y1:Int}: zP qd prog 63 [.agg (wW y0 p1 c1).toArray,vi y1] [] [Rl qH p1 c1 y0.2,Pt (wN 64 (zC .u8)) 3 0 vA] (zKc y0 y1) fun r K=>∀ p2 c2,K (sv p2 r c2) [] [Rl (zC .i64) p2 c2 r] :=
 zN call63 func63 u fun X=>zH<|wR .s u<|fun b1=>zA 1 u<|zK<|zH<|wQ 0 2 u u u<|wF zJ5 u (cq [0])<|fun r1 _ k p2 c2=>k<|qU .s 0 u u u<|zK<|zQ<|
  z5h (fun K=>K [1,2] [] [0,2] [(19,vb ((decide (y1<0))||(decide (r1.1≤y1))))] []) (
 au
)<|fun _ k=>k<|zS u (
 au
)<|jC<|uR [] [0] 6<|uQ 0 0 2 u u u u<|zW 4 [2] u<|xQ fun x1 h1=>xF 3 u (fun h=>z17 h u u h1)<|qM 1<|qL (.f u) [] [] zUE u u u (cq [0])<|fun r2 _ k p3 c3=>k<|qN<|zW 0 [4,5] u<|
  qT<|hI 0 5 2 (fun(s1:Int) K=>K [5] [(0,.r [])] [0,2] [(6,.int .u64 s1)] [])<|hI 1 6 1 (fun(s2:Int) K=>K [5,6] [] [0,1] [(7,.int .u64 s2)] [])<|hI 0 7 1 (fun(s3:Int×Int) K=>K [5,6,26,27] [] [1,0,2] [(7,.int .u64 s3.1),(28,vi s3.2)] [])<|
 au
abbrev z0a:=@Cn.mk 63 0 _ @zUh
theorem zM3{y0:List Int}: zP qd prog 65 [sv p1 y0 c1] [r_1] [Al (zC .i64) 3 r_1 p1 c1 y0] (zAq y0) fun r K=>∀ p2 c2,K (sv p2 r c2) [[]] [Rl (zC .i64) p2 c2 r] :=
 zN call65 func65 u fun X=>jA 1 u<|zQ<|jA 3 u<|zS u (
 au
)<|jC<|zQ<|jA 1 u<|zX<|
  wD (fun s1 K=>K [0] [] [0] [(3,vi s1)] []) (gv kk [0] (gq [0]))<|fun s1 _ k=>k<|zQ<|jA 4 u<|zS u (jC<|zQ<|zX<|uR [] [0] 10<|zW 8 [0,1] u<|
  jdI 2 0 u u u u<|fun x1 h1 b1 o1 hp1=>jdL 3 0 0 sI false oI u u hp1 h1 u<|zW 3 [4,5,6] u<|jdI 7 0 u u u u<|fun x2 h2 b2 o2 hp2=>jdL 8 0 0 sI false oI u u hp2 h2 u<|zW 0 [9] u<|qT<|qK<|zS u (zH<|
  zA 2 u<|jsV 0 u u u<|fun u1 p2 c2 f1=>zA 1 u<|zK<|
  jjn (fun s2 K=>∀ r_2,K [(0,.slice p1 (List.length y0) c1),(3,vi s2.2)] [r_2] [Ar (zC .i64) 3 r_2 p1 c1 (List.length y0) s2.1]) (
  jA 1 u<|zX<|
  wD (fun s3 K=>∀ r_3,K [4] [(0,r_3)] [] [(0,.slice p1 (List.length y0) c1),(3,vi s3.2.1),(5,vi s3.2.2)] [Ar (zC .i64) 3 r_3 p1 c1 (List.length y0) s3.1]) (gv (fun _ k=>k r_1) [0] (gq [0]))<|
  fun s3 _ k r_3=>k<|zQ<|jA 4 u<|zS u (jC<|zQ<|zX<|uR [] [0] 10<|zW 8 [0,1] u<|jdX 2 0 u u f1 u u<|fun x3 b3 o3 hp3 h3=>jdL 3 0 0 sI false oI u u hp3 h3 u<|zW 3 [4,5,6] u<|
  jdX 7 0 u u f1 u u<|fun x4 b4 o4 hp4 h4=>jdL 8 0 0 sI false oI u u hp4 h4 u<|zW 0 [9] u<|qT<|qK<|zS u (zH<|zA 4 u<|jiV 0 u f1 u u<|
 au
)<|
 au
)<|
 au
)<|fun s2 _ k r_2=>k<|zH<|zA 2 u<|jsV 0 u u u<|fun u2 p3 c3 f2=>jcv .s 0 0 0 (vi 0) u f2 u vI<|
 au
)<|
 au
)<|
 au
abbrev zRv:=@Cn.mk 65 0 _ @zM3
theorem zTD{y0:Int}: zP qd prog 119 [.slice none 0 0,vi y0] [] [] (zG2 y0) fun r K=>∀ p1 c1 r_1,K (sv p1 r c1) [r_1] [Al (zC .i64) 3 r_1 p1 c1 r] :=
 zN call119 func119 u fun X=>yX (zC .i64) 3<|jA 1 u<|wC (fun s1 K=>K [0,1] [] [0] [] []) (jA 2 u<|zS u (vG<|jno)<|
 au
)<|fun s1 _ k=>k<|zQ<|zH<|zA 2 u<|
  jv (v:=vi ((0:Nat):Int)) (fun h=>z6e h u underlying22)<|zA 5 u<|zK<|jA 2 u<|zS u (vG<|zA 2 u<|jv (v:=vi ((0:Nat):Int)) (fun h=>z6e h u underlying22)<|
  jv (v:=.slice none 0 0) (fun h=>z8H (e:=zC .i64) h u u (by kernel_rfl))<|zA 1 u<|jaz .s (e:=zC .i64) (h2:=underlying3) 0 0 3 (0:Int) (vi 0) u vI u u<|
 au
)<|
 au
abbrev zSa:=@Cn.mk 119 0 _ @zTD
attribute [instance] zWK z0a zRv zSa
theorem zMp{y0:List (List Int)}: zP qd prog 62 [sv p1 y0 c1] [] [Rl (qA (zC .i64)) p1 c1 y0] (zEQ y0) fun r K=>∀ p2 c2 r_1,K (sv p2 r c2) [r_1] [Al (zC .i64) 3 r_1 p2 c2 r] :=
 zN call62 func62 u fun X=>jA 1 u<|jA 1 u<|wC (fun s1 K=>K [0] [] [0] [(3,vi s1)] []) (jA 3 u<|zX<|
  wD (fun s2 K=>K [0,9,10] [] [0] [(3,vi s2.1),(11,vi s2.2)] []) (gv kk [] (gq [0]))<|fun s2 _ k=>k<|jA 1 u<|zQ<|zS u (jC<|zQ<|zX<|zH<|
  yJ 0 u u u<|fun x1 b1 o1=>yU false oL (gk 0) u<|fun p2 c2=>zA 1 u<|zK<|jA 5 u<|jA 2 u<|zS u (vG<|jno)<|
 au
)<|
 au
)<|hI 0 11 1 (fun(s3:(List Int)×Int) K=>∀ p4 c4 r_2,K [25,26] [(0,.r r_2)] [1] [(6,sv p4 s3.1 c4),(27,vi s3.2)] [Al (zC .i64) 3 r_2 p4 c4 s3.1])<|
 au
abbrev zS1:=@Cn.mk 62 0 _ @zMp
theorem zEB{y0:List Int}: zP qd prog 64 [sv p1 y0 c1] [r_1] [Al (zC .i64) 3 r_1 p1 c1 y0] (zBN y0) fun r K=>∀ r_2,K (.tuple #[]) [r_2] [Ar (zC .i64) 3 r_2 p1 c1 (List.length y0) r]:=⟨call64,fun A w0 r hm hO hF=>by
 have h:=z9B (qd:=qd) Tryz.sorts64 (te:=3) hO hF.1.1 hm
 change Calls prog 64 _ _ _ at h
 refine h.mono fun e w' h=>?_
 cases e with
 | returned v=>obtain⟨r',rfl,h1,h2,h3,h4⟩:=h;exact fun G k=>k r' ⟨rfl,h1,h2,⟨h3,h4.symm⟩,trivial⟩
 | panicked ch=>exact h
 | outgrown=>exact h⟩
abbrev zUz:=@Cn.mk 64 0 _ @zEB
theorem zYn{y0:zDo}{y1:zL0}: zP qd prog 26 [.agg (zLd y0 p1 c1 p2 c2).toArray,.agg (zXM y1).toArray] [] (zLj y0 p1 c1 p2 c2 [Pt (wN 64 (zC .u8)) 3 0 vA]) (zKS y0 y1) fun r K=>∀ p3 c3 p4 c4 p5 c5,K (.tuple #[.agg (zLd r.1 p3 c3 p4 c4).toArray,sv p5 r.2.1 c5,vi r.2.2]) [] (zLj r.1 p3 c3 p4 c4 [Rl (zC .i64) p5 c5 r.2.1]) :=
 zN call26 func26 u fun X=>zH<|wR .s u<|fun b1=>wR .s u<|fun b2=>vH .s (.agg k6)<|fun b3=>zA 2 u<|zK<|zQ<|zH<|qB 0 u<|wQ 0 2 u u u<|wQ 1 3 u u u<|wF zOp u (cq [0])<|fun r1 _ k=>k<|
  zA 1 u<|zK<|jA 2 u<|zS u (zH<|qE (.agg k6)<|zA 1 u<|qU .s 2 u u u<|zA 2 u<|zK<|qO<|vD<|
  yD u (lC 2 (.agg k6) u u (lT u (lT u lN))) (fun _ k=>k none 0 none 0 none 0) [] ⟨gn,gn,gn,d⟩)<|jC<|zH<|wQ 0 3 u u u<|wF zPu u (cq [0,1])<|
  fun r2 _ k p3 c3 r_1 p4 c4=>k<|vH .s (.agg k6)<|fun b4=>qU .s 4 u u u<|zK<|zH<|qB 0 u<|wQ 4 2 u u u<|wQ 1 3 u u u<|qL .s [3] [] zQA u u u (cq [0])<|
  fun r3 _ k p5 c5 p6 c6=>k<|zA 3 u<|vH .s (.agg k5)<|fun b5=>qU .s 5 u u u<|zA 1 u<|zK<|uR [] [4,5] 9<|qR 0 2 u u<|wS 1 4 u u u u<|qR 5 0 u u<|wS 6 5 u u u u<|
  qM 2<|yI (.f u) (e:=zC .i64) 3 [vi 3] ([3]:List Int) (rC vI rN)<|fun p7 c7=>qN<|qM 3<|
  yI (.f u) (e:=qA (zC .i64)) 22 [sv p4 r2.2 c4,sv p7 ([3]:List Int) c7] ([r2.2,([3]:List Int)]:List (List Int)) (rC (vL (gk 4)) (rC (vL (gk 0)) rN))<|fun p8 c8=>qN<|qM 4<|
  qL (.f u) [] [] zMp u u u (cq [0])<|fun r4 _ k p9 c9 r_2=>k<|qN<|jdW 7 0 u u u u<|fun x1=>zW 0 [8] u<|qT<|qK<|zH<|zA 1 u<|yX (zC .i64) 3 <|zK<|
  wC (fun s1 K=>∀ p10 c10 r_3,K [4,9,11] [(0,[]),(1,[]),(4,[]),(7,r_3)] [1,5,2,11] [(12,sv p10 s1 c10)] [Al (zC .i64) 3 r_3 p10 c10 s1]) (
  jA 3 u<|zX<|
  wD (fun s2 K=>∀ p11 c11 r_4,K [4,9,11,42,43] [(0,[]),(1,[]),(4,[]),(7,r_4)] [1,6,5,2,11] [(12,sv p11 s2.1 c11),(44,vi s2.2)] [Al (zC .i64) 3 r_4 p11 c11 s2.1]) (gv (fun _ k=>k none 0 []) [900,901,2,903,904,5,6,7] (gq [0,1,6,5,2,11]))<|
  fun s2 _ k p11 c11 r_4=>k<|jA 1 u<|zQ<|zS u (jC<|zQ<|zX<|zH<|yJ 2 u u u<|fun x2 b6 o1=>yU false oI (gk 0) u<|zA 1 u<|zK<|vG<|zA 1 u<|wQ 5 2 u u u<|zA 1 u<|wF zUh u (cq [4,6])<|
  fun r5 _ k p12 c12=>k<|uE .s 7 2 u (gk 0) u u<|fun x3 r_5 p13 c13=>zA 1 u<|wK<|vM<|qK<|jB 2 u<|yH (gv (fun _ k=>k p13 c13 r_5) [900,901,2,903,904,5,6,7] (gq [0,4,5,6,7,8])))<|uA<|yR<|yY<|yZ<|
  qI (gv (fun _ k=>k p11 c11 r_4) [900,901,2,903,904,5,6,7] (gq [0,1,3,4,5])))<|fun s1 _ k p10 c10 r_3=>k<|zH<|zA 1 u<|qL .s [7] [] zEB u u u (cq [0])<|fun r6 _ k r_6=>k<|zK<|zH<|zA 1 u<|jrE 0 56 u u<|
  qL .s [7] [] zM3 u u u (cq [0])<|fun r7 _ k p14 c14=>k<|zA 1 u<|zK<|
  wC (fun s3 K=>∀ r_7,K [4,9,12] [(6,r_7)] [0,5,7] [(11,.slice p9 (List.length x1) c9)] [Ar (zC .i64) 3 r_7 p9 c9 (List.length x1) s3]) (
  jA 3 u<|zX<|
  wD (fun s4 K=>∀ r_8,K [4,9,12,58,59] [(6,r_8)] [0,5,7] [(11,.slice p9 (List.length x1) c9),(60,vi s4.2)] [Ar (zC .i64) 3 r_8 p9 c9 (List.length x1) s4.1]) (gv (fun _ k=>k r_2) [900,901,2,903,904,5,6,907] (gq [4,0,5,7]))<|
  fun s4 _ k r_8=>k<|jA 1 u<|zQ<|zS u (jC<|zQ<|zX<|zH<|yJ 1 u u u<|fun x4 b7 o2=>yU false oI (gk 0) u<|zA 1 u<|zK<|vG<|zA 2 u<|jia 1 u u u<|fun x5 h2 b8 o3 hp1=>jsA .s 6 1 sI 3 false u hp1 h2 u u vI<|
  fun r_9=>wK<|vM<|qK<|jB 2 u<|yH (gv (fun _ k=>k r_9) [900,901,2,903,904,5,6,907] (gq [0,3,4,5])))<|uA<|yR<|yY<|yZ<|qI (gv (fun _ k=>k r_8) [900,901,2,903,904,5,6,907] (gq [0,1,2,3])))<|fun s3 _ k r_7=>k<|zH<|
  wQ 5 2 u u u<|zA 2 u<|jrE 0 69 u u<|jrE 1 11 u u<|qL .s [6] [] zPz u u u (cq [4,1,3,5])<|fun r8 _ k r_10=>k<|zK<|zH<|wQ 5 2 u u u<|zA 1 u<|jrE 0 73 u u<|
  qE (.agg #[vi r3.1.1,sv p5 r3.1.2 c5,sv p9 r8 c9])<|zA 1 u<|qU .s 2 u u u<|zA 2 u<|zK<|qO<|uI 6 0 u u<|
  yD u (lC 2 (.agg #[vi r3.1.1,sv p5 r3.1.2 c5,sv p9 r8 c9]) u u (lT u (lT u lN))) (fun _ k=>k p5 c5 p9 c9 p14 c14) [] (gq [7,0,6])
abbrev zYm:=@Cn.mk 26 0 _ @zYn
theorem zT0{y0:List Int}{y1:List Int}: zP qd prog 59 [sv p1 y0 c1,sv p2 y1 c2] [] [Rl (zC .i64) p1 c1 y0,Rl (zC .i64) p2 c2 y1] (zHn y0 y1) fun r K=>K (vb r) [] [] :=
 zN call59 func59 u fun X=>hD 6 [] [] (.l [0,1,2,3,4,5,6,7,8] .e)<|hI 0 4 1 (fun(s1:Int) K=>K [0,1,12] [] [0,1] [(13,vi s1)] [])<|
 au
abbrev zU3:=@Cn.mk 59 0 _ @zT0
attribute [instance] zS1 zUz zYm zU3
theorem zXk{y0:zDo}: zP qd prog 25 [.agg (zLd y0 p1 c1 p2 c2).toArray] [] (zLj y0 p1 c1 p2 c2 [Pt (wN 64 (zC .u8)) 3 0 vA]) (zK7 y0) fun r K=>K (vb r) [] [] :=
 zN call25 func25 u fun X=>hD 1 [] [0] (.l [0,1] (.f 2 (.l [3,4] (.s 7 (.l [5,6,7,8] (.f 9 (.f 10 (.l [11,12] .e)))) (.l [5,6,7,8,9,10,11,12] .e)))))<|hI 1 1 0 (fun(s1:Bool) K=>K [] [(0,.r [])] [2] [(2,vb s1)] [])<|
 au
abbrev zYp:=@Cn.mk 25 0 _ @zXk
attribute [instance] zYp
theorem zX5{y0:zDo}{y1:zL0}: zP qd prog 8 [.agg (zLd y0 p1 c1 p2 c2).toArray,.agg (zXM y1).toArray] [] (zLj y0 p1 c1 p2 c2 [Pt (wN 64 (zC .u8)) 3 0 vA]) (zK8 y0 y1) fun r K=>∀ p3 c3 p4 c4 p5 c5,K (.tuple #[.agg (zLd r.1 p3 c3 p4 c4).toArray,sv p5 r.2.1 c5,vi r.2.2]) [] (zLj r.1 p3 c3 p4 c4 [Rl (zC .i64) p5 c5 r.2.1]) :=
 zN call8 func8 u fun X=>
 au
abbrev zY8:=@Cn.mk 8 0 _ @zX5
theorem zUF{y0:zY}: zP qd prog 6 [.agg (wW y0 p1 c1).toArray] [] [Rl qH p1 c1 y0.2,Pt (wN 64 (zC .u8)) 3 0 vA] (zMg y0) fun r K=>∀ p2 c2 p3 c3,K (.tuple #[.agg (zLd r.1 p2 c2 p3 c3).toArray,vi r.2]) [] (zLj r.1 p2 c2 p3 c3 []) :=
 zN call6 func6 u fun X=>hD 4 [] [0] (.l [0,1] (.f 2 (.l [3] (.f 4 (.f 5 (.l [6] .e))))))<|
 au
abbrev z0C:=@Cn.mk 6 0 _ @zUF
theorem zTW{y0:Int}{y1:List Int}{y2:Int}: wO qd prog 71 [vi y0,pt b1 0,pt b2 0] [bx b1 22 [sv p1 y1 c1],bx b2 3 [vi y2]] [Rl (zC .i64) p1 c1 y1] (zGg y0 y1 y2) fun L r K=>K (vb r) L [] :=
 zN call71 func71 u fun X=>hD 1 [] [0,1] (.l [0,1,2,3,4,5,6,7,8,9] .e)<|
 au
abbrev zSd:=@Cn.mk 71 0 _ @zTW
attribute [instance] zY8 z0C zSd
theorem zHh{y0:List Int}{y1:List Int}{y2:Int}: wO qd prog 126 [sv p1 y0 c1,.func (.func 71) #[] #[pt b1 0,pt b2 0]] [bx b1 22 [sv p2 y1 c2],bx b2 3 [vi y2]] [Rl (zC .i64) p1 c1 y0,Rl (zC .i64) p2 c2 y1] (zDE y0 y1 y2) fun L r K=>K (vi r) L [] :=
 zN call126 func126 u fun X=>hI 0 2 1 (fun(s1:Int) K=>K [0,1,7] [] [0,1] [(8,vi s1)] [])<|
 au
abbrev zH8:=@Cn.mk 126 1 _ @zHh
attribute [instance] zH8
theorem zGR{y0:List Int}{y1:List Int}{y2:Int}: wO qd prog 67 [sv p1 y0 c1,.func (.func 71) #[] #[pt b1 0,pt b2 0]] [bx b1 22 [sv p2 y1 c2],bx b2 3 [vi y2]] [Rl (zC .i64) p1 c1 y0,Rl (zC .i64) p2 c2 y1] (zA6 y0 y1 y2) fun L r K=>K (vb r) L [] :=
 zN call67 func67 u fun X=>
 au
abbrev zGI:=@Cn.mk 67 1 _ @zGR
theorem zSu{y0:Int}{y1:List Int}{y2:List Int}{y3:Int}: wO qd prog 72 [vi y0,pt b1 0,pt b2 0,pt b3 0] [bx b1 22 [sv p1 y1 c1],bx b2 22 [sv p2 y2 c2],bx b3 3 [vi y3]] [Rl (zC .i64) p1 c1 y1,Rl (zC .i64) p2 c2 y2] (zGo y0 y1 y2 y3) fun L r K=>K (vb r) L [] :=
 zN call72 func72 u fun X=>hD 1 [] [0,1,2] (.l [0,1,2,3,4,5] (.s 11 (.l [6,7,8,9,10,11,12] (.s 18 (.l [13,14,15,16,17,18,19,20,21,22,23] .e) (.l [13,14,15,16,17,18,19,20,21,22,23] .e))) (.l [6,7,8,9,10,11,12,13,14,15,16,17,18,19,20,21,22,23] .e)))<|hI 1 1 0 (fun(s1:Bool) K=>K [] [] [0,1] [(5,vb s1)] [])<|
 au
abbrev zTU:=@Cn.mk 72 0 _ @zSu
attribute [instance] zGI zTU
theorem zH4{y0:List Int}{y1:List Int}{y2:List Int}{y3:Int}: wO qd prog 126 [sv p1 y0 c1,.func (.func 72) #[] #[pt b1 0,pt b2 0,pt b3 0]] [bx b1 22 [sv p2 y1 c2],bx b2 22 [sv p3 y2 c3],bx b3 3 [vi y3]] [Rl (zC .i64) p1 c1 y0,Rl (zC .i64) p2 c2 y1,Rl (zC .i64) p3 c3 y2] (zDA y0 y1 y2 y3) fun L r K=>K (vi r) L [] :=
 zN call126 func126 u fun X=>hI 0 2 1 (fun(s1:Int) K=>K [0,1,7] [] [0,1,2] [(8,vi s1)] [])<|
 au
abbrev zH9:=@Cn.mk 126 2 _ @zH4
attribute [instance] zH9
theorem zGM{y0:List Int}{y1:List Int}{y2:List Int}{y3:Int}: wO qd prog 67 [sv p1 y0 c1,.func (.func 72) #[] #[pt b1 0,pt b2 0,pt b3 0]] [bx b1 22 [sv p2 y1 c2],bx b2 22 [sv p3 y2 c3],bx b3 3 [vi y3]] [Rl (zC .i64) p1 c1 y0,Rl (zC .i64) p2 c2 y1,Rl (zC .i64) p3 c3 y2] (zA8 y0 y1 y2 y3) fun L r K=>K (vb r) L [] :=
 zN call67 func67 u fun X=>
 au
abbrev zGQ:=@Cn.mk 67 2 _ @zGM
attribute [instance] zGQ
theorem zVK{y0:zY}{y1:List Int}{y2:List Int}{y3:Int}: zP qd prog 29 [.agg (wW y0 p1 c1).toArray,sv p2 y1 c2,sv p3 y2 c3,vi y3] [] [Rl qH p1 c1 y0.2,Rl (zC .i64) p2 c2 y1,Rl (zC .i64) p3 c3 y2,Pt (wN 64 (zC .u8)) 3 0 vA] (zIu y0 y1 y2 y3) fun r K=>K (vb r) [] [] :=
 zN call29 func29 u fun X=>hI 1 4 0 (fun(s1:Bool) K=>K [] [(0,.r []),(1,.r []),(2,.r []),(3,.r [])] [5] [(8,vb s1)] [])<|
 au
abbrev zVW:=@Cn.mk 29 0 _ @zVK
theorem zS8{y0:Int}: zP qd prog 68 [vi y0] [] [] (zJo y0) fun r K=>K (vb r) [] [] :=
 zN call68 func68 u fun X=>hP 4 1 0 (fun K=>K [] [] [] [(2,vb ((y0 != 1)&&((y0 != 2)&&(y0 != 3))))] [])<|
 au
abbrev zS5:=@Cn.mk 68 0 _ @zS8
attribute [instance] zVW zS5
theorem zH3{y0:List Int}: zP qd prog 126 [sv p1 y0 c1,.func (.func 68) #[] #[]] [] [Rl (zC .i64) p1 c1 y0] (zCz y0) fun r K=>K (vi r) [] [] :=
 zN call126 func126 u fun X=>hI 0 2 1 (fun(s1:Int) K=>K [0,1,7] [] [0] [(8,vi s1)] [])<|
 au
abbrev zH7:=@Cn.mk 126 3 _ @zH3
attribute [instance] zH7
theorem zGO{y0:List Int}: zP qd prog 67 [sv p1 y0 c1,.func (.func 68) #[] #[]] [] [Rl (zC .i64) p1 c1 y0] (zA7 y0) fun r K=>K (vb r) [] [] :=
 zN call67 func67 u fun X=>
 au
abbrev zGH:=@Cn.mk 67 3 _ @zGO
attribute [instance] zGH
theorem zVa{y0:zY}{y1:List Int}: zP qd prog 27 [.agg (wW y0 p1 c1).toArray,sv p2 y1 c2] [] [Rl qH p1 c1 y0.2,Rl (zC .i64) p2 c2 y1] (zDz y0 y1) fun r K=>K (vb r) [] [] :=
 zN call27 func27 u fun X=>hI 1 1 0 (fun(s1:Bool) K=>K [] [(0,.r [])] [] [(4,vb s1)] [])<|
 au
abbrev zV2:=@Cn.mk 27 0 _ @zVa
theorem zVd{y0:zY}{y1:List Int}{y2:Int}: zP qd prog 127 [.agg (wW y0 p1 c1).toArray,sv p2 y1 c2,vi y2] [] [Rl qH p1 c1 y0.2,Rl (zC .i64) p2 c2 y1,Pt (wN 64 (zC .u8)) 3 0 vA] (zFd y0 y1 y2) fun r K=>K (vb r) [] [] :=
 zN call127 func127 u fun X=>zH<|wR .s u<|fun b1=>zA 1 u<|zK<|zH<|wQ 0 2 u u u<|zA 1 u<|wF zLL u (cq [0,2])<|fun r1 _ k p3 c3=>k<|zA 1 u<|zK<|zH<|vH .s (.agg #[vi 0,vi 0,vi 0,vi 0])<|fun b2=>zK<|
  wC (fun s1 K=>K [1,2,7,8] [(0,[]),(1,bx b2 233 [vi s1.1,vi s1.2.1,vi s1.2.2.1,vi s1.2.2.2])] [2,0,3] [] []) (
  jA 3 u<|zX<|
  wD (fun s2 K=>K [1,2,7,8,14,15] [(0,[]),(1,bx b2 233 [vi s2.2.1,vi s2.2.2.1,vi s2.2.2.2.1,vi (a4 s2)])] [2,0,3] [(16,vi s2.1)] []) (gv kk [900,1] (gq [2,0,3]))<|
  fun s2 _ k=>k<|jA 1 u<|zQ<|zS u (jC<|zQ<|zX<|zH<|yJ 1 u u u<|fun x1 b3 o1=>yU false oI (gk 0) u<|zA 1 u<|zK<|vG<|zA 2 u<|yJ 1 u u u<|fun x2 b4 o2=>yU false oI (gk 0) u<|
  jiB (l:=([s2.2.1,s2.2.2.1,s2.2.2.2.1,(a4 s2)]:List Int)) u u<|fun x3 h1=>jlI 1 (.int .i64) u u u h1<|zA 1 u<|jiB (l:=([s2.2.1,s2.2.2.1,s2.2.2.2.1,(a4 s2)]:List Int)) u u<|fun x4 h2=>
  jsI (z:=zF (x3+1)) (.int .i64) .s 1 u u u u h2<|
 au
)<|
 au
)<|fun s1 _ k=>k<|zQ<|zH<|zA 2 u<|
  yJ 0 u u u<|fun x5 b5 o3=>yU false oI (gk 0) u<|zK<|zX<|jA 2 u<|zS u (zH<|jv (v:=pt b2 2) (fun h=>zS4 (k:=4) (sz:=1) h u u (by kernel_rfl) (by decide) u)<|
 au
)<|jA 2 u<|zS u (zH<|jv (v:=pt b2 1) (fun h=>zS4 (k:=4) (sz:=1) h u u (by kernel_rfl) (by decide) u)<|
 au
)<|
  yA<|vM<|qK<|z5h (fun K=>K [] [(1,[])] [3] [(6,vb ((decide (s1.2.2.1<(len r1)))&&(s1.2.1==0)))] []) (vG<|
  jv (v:=pt b2 2) (fun h=>zS4 (k:=4) (sz:=1) h u u (by kernel_rfl) (by decide) u)<|qG 1 u u u<|zA 4 u<|tO (b:=decide (s1.2.2.1<(len r1))) 50 u (fun hb1=>
  jv (v:=pt b2 1) (fun h=>zS4 (k:=4) (sz:=1) h u u (by kernel_rfl) (by decide) u)<|
 au
)<|
 au
)<|
 au
abbrev zVi:=@Cn.mk 127 0 _ @zVd
attribute [instance] zV2 zVi
theorem zSw{y0:zY}{y1:List Int}: zP qd prog 69 [.agg (wW y0 p1 c1).toArray,sv p2 y1 c2] [] [Rl qH p1 c1 y0.2,Rl (zC .i64) p2 c2 y1,Pt (wN 64 (zC .u8)) 3 0 vA] (zGd y0 y1) fun r K=>∀ p3 c3,K (sv p3 r c3) [] [Rl (zC .i64) p3 c3 r] :=
 zN call69 func69 u fun X=>hR 5 1 (zC .i64) 3<|hI 0 5 1 (fun(s1:(List Int)×Int) K=>∀ p3 c3 r_1,K [1,2,12] [(1,.r r_1)] [2,1,3] [(5,sv p3 s1.1 c3),(13,vi s1.2)] [Al (zC .i64) 3 r_1 p3 c3 s1.1])<|
 au
abbrev zS2:=@Cn.mk 69 0 _ @zSw
attribute [instance] zS2
theorem zQF{y0:zY}{y1:List Int}: zP qd prog 28 [.agg (wW y0 p1 c1).toArray,sv p2 y1 c2] [] [Rl qH p1 c1 y0.2,Rl (zC .i64) p2 c2 y1,Pt (wN 64 (zC .u8)) 3 0 vA] (zE1 y0 y1) fun r K=>K (vb r) [] [] :=
 zN call28 func28 u fun X=>hI 1 1 0 (fun(s1:Bool) K=>K [] [(0,.r [])] [2] [(4,vb s1)] [])<|
 au
abbrev zQW:=@Cn.mk 28 0 _ @zQF
attribute [instance] zQW
theorem zWb{y0:zY}{y1:List Int}{y2:List Int}: zP qd prog 10 [.agg (wW y0 p1 c1).toArray,sv p2 y1 c2,sv p3 y2 c3] [] [Rl qH p1 c1 y0.2,Rl (zC .i64) p2 c2 y1,Rl (zC .i64) p3 c3 y2,Pt (wN 64 (zC .u8)) 3 0 vA] (zJc y0 y1 y2) fun r K=>K (vi r) [] [] :=
 zN call10 func10 u fun X=>hI 1 3 0 (fun(s1:Bool) K=>K [1,2,3] [] [1,2,0,3] [(12,vb s1)] [])<|hI 0 8 1 (fun(s2:Int) K=>K [1,2,3,30] [] [0,1,2,3] [(31,vi s2)] [])<|
 au
abbrev zWk:=@Cn.mk 10 0 _ @zWb
theorem zW7{y0:zY}: zP qd prog 11 [.agg (wW y0 p1 c1).toArray] [] [Rl qH p1 c1 y0.2,Pt (wN 64 (zC .u8)) 3 0 vA] (zJ7 y0) fun r K=>∀ p2 c2,K (sv p2 r c2) [] [Rl (zC .i64) p2 c2 r] :=
 zN call11 func11 u fun X=>
 au
abbrev zXB:=@Cn.mk 11 0 _ @zW7
theorem z8Q{y0:List Int}{y1:Int}: zP qd prog 9 [sv p1 y0 c1,vi y1] [] [Rl (zC .i64) p1 c1 y0] (zQo y0 y1) fun r K=>K (vb r) [] [] :=
 zN call9 func9 u fun X=>hI 0 2 1 (fun(s1:Int) K=>K [0,1,7] [] [0] [(8,vi s1)] [])<|
 au
abbrev z8N:=@Cn.mk 9 0 _ @z8Q
theorem zZu{y0:Int}{y1:Int}: zP qd prog 7 [vi y0,vi y1] [] [] (zLQ y0 y1) fun r K=>K (vi r) [] [] :=
 zN call7 func7 u fun X=>
 au
abbrev z6P:=@Cn.mk 7 0 _ @zZu
theorem zZe{y0:List Int}: zP qd prog 4 [sv p1 y0 c1] [] [Rl (zC .i64) p1 c1 y0] (zR1 y0) fun r K=>∀ b1 p2 c2,K (pt b1 0) [bx b1 63 (zIg r p2 c2)] (zIt r p2 c2 []) :=
 zN call4 func4 u fun X=>
 au
abbrev z5w:=@Cn.mk 4 0 _ @zZe
theorem z1h{y0:List zI}{y1:List zI}: zP qd prog 13 [sv p1 y0 c1,sv p2 y1 c2] [] [Rl qY p1 c1 y0,Rl qY p2 c2 y1] (zNp y0 y1) fun r K=>K (vb r) [] [] :=
 zN call13 func13 u fun X=>jA 1 u<|zQ<|jA 5 u<|zS u (jA 1 u<|qO<|vD<|yB u u kk [] d)<|jC<|zQ<|jA 1 u<|zX<|wD (fun s1 K=>K [0,1] [] [0,1] [(5,vi s1)] []) (gv kk [] (gq [0,1]))<|
  fun s1 _ k=>k<|zQ<|jA 4 u<|zS u (jC<|zQ<|zX<|uR [] [] 9<|zW 7 [0,1] u<|jdi 2 0 u u u u<|fun x1 b1 o1=>jdl 3 true xZ u (gk 0) u<|zW 3 [4,5] u<|jdi 6 2 u u u u<|fun x2 b2 o2=>
  jdl 7 true xZ u (gk 0) u<|vR 8 (vb (!(x1==x2))) u<|qT<|qK<|zS u (jA 1 u<|qO<|xK<|vD<|jlr<|xK<|vD<|yB u u kk [] d)<|yA<|vM<|qK<|jB 3 u<|yH (gv kk [] (gq [2,3])))<|uA<|yR<|yY<|
  yZ<|qK<|jA 1 u<|qO<|yB u u kk [] d
abbrev z10:=@Cn.mk 13 0 _ @z1h
theorem zDq{y0:uP}: wO qd prog 99 [pt b1 0] [bx b1 158 (zHu y0 p1 c1 p2 c2 p3 c3 p4 c4 p5 c5)] (zHo y0 p1 c1 p2 c2 p3 c3 p4 c4 p5 c5 []) (zB2 y0) fun L r K=>K (vb r) L [] :=
 zN call99 func99 u fun X=>hD 1 [] [0] (.l [0,1,2,3,4,5,6,7,8,9,10,11,12] .e)<|
 au
abbrev zP4:=@Cn.mk 99 0 _ @zDq
attribute [instance] zWk zXB z8N z6P z5w z10 zP4
theorem zTH (k:Nat):
    (∀ {y0:List zD} {p1:Option Addr} {c1:Nat} {y1:Int},zP qd prog 160 [sv p1 y0 c1,vi y1] [] [Rl qS p1 c1 y0] (zDW k y0 y1) fun r K=>∀ p2 c2,K (sv p2 r c2) [] [Rl (zC .i64) p2 c2 r]):=by
  induction k with
  | zero=>exact z9x call160
  | succ k ih =>
    have ih_argument_Subs:=@ih
    have zQv:=@Cn.mk 160 0 _ (@ih_argument_Subs)
    exact @fun y0 p1 c1 y1=>zN (m1:=zFf (zDW k) y0 y1) call160 func160 u fun X=>jA 1 u<|zQ<|zH<|zA 2 u<|wF zLS u (cq [0])<|fun r1 _ k=>k<|zA 1 u<|zK<|zS u (
 au
)<|jC<|zH<|zA 1 u<|
  jbo .s (e:=zC .i64) 3 [vi y1] ([y1]:List Int) (rC vI rN)<|fun r_1 p2 c2=>zA 1 u<|zK<|
  jjn (fun s1 K=>∀ p3 c3 r_2,K [(5,sv p3 s1 c3)] [r_2] [Al (zC .i64) 3 r_2 p3 c3 s1]) (hI 0 5 1 (fun(s2:(List Int)×Int) K=>∀ p5 c5 r_3,K [0,18,19] [(0,.r r_3)] [3,0] [(5,sv p5 s2.1 c5),(20,vi s2.2)] [Al (zC .i64) 3 r_3 p5 c5 s2.1])<|
 au
)<|fun s1 _ k p3 c3 r_2=>k<|zH<|
  zA 1 u<|qL .s [0] [] zEB u u u (cq [0])<|fun r3 _ k r_5=>k<|zK<|zH<|zA 1 u<|jrE 0 32 u u<|
 au
theorem zYC{y0:List zD}{y1:Int}: zP qd prog 160 [sv p1 y0 c1,vi y1] [] [Rl qS p1 c1 y0] (zEH y0 y1) fun r K=>∀ p2 c2,K (sv p2 r c2) [] [Rl (zC .i64) p2 c2 r]:=zVr fun k=>(zTH k)
abbrev zQv:=@Cn.mk 160 0 _ @zYC
attribute [instance] zQv
theorem zQa{y0:zM}{y1:List zD}{y2:Int}: zP qd prog 228 [.agg (vT y0 p1 c1 p2 c2 p3 c3).toArray,sv p4 y1 c4,vi y2] [] (vW y0 p1 c1 p2 c2 p3 c3 [Rl qS p4 c4 y1]) (zBt y0 y1 y2) fun r K=>∀ p5 c5,K (sv p5 r c5) [] [Rl (zC .i64) p5 c5 r] :=
 zN call228 func228 u fun X=>zH<|wR .s u<|fun b1=>zA 1 u<|zK<|zH<|zA 1 u<|yX (zC .i64) 3 <|zK<|
  jjn (fun s1 K=>∀ p5 c5 r_1,K [(7,sv p5 s1 c5)] [[],r_1] [Al (zC .i64) 3 r_1 p5 c5 s1]) (hI 0 3 1 (fun(s2:(List Int)×Int) K=>∀ p7 c7 r_2,K [1,3,13,14] [(1,.r r_2)] [5,0,2,3,4] [(7,sv p7 s2.1 c7),(15,vi s2.2)] [Al (zC .i64) 3 r_2 p7 c7 s2.1])<|hI 1 6 0 (fun(s3:Bool) K=>K [1,3,7,10,13,14,15] [] [3,2,4,5,6,7] [(34,vb s3)] [])<|
 au
)<|
  fun s1 _ k p5 c5 r_1=>k<|zH<|zA 1 u<|qL .s [1] [] zEB u u u (cq [0])<|fun r2 _ k r_4=>k<|zK<|zH<|zA 1 u<|jrE 0 42 u u<|
 au
abbrev zRS:=@Cn.mk 228 0 _ @zQa
attribute [instance] zRS
theorem zUX (k:Nat):
    (∀ {y0:zM} {p1:Option Addr} {c1:Nat} {p2:Option Addr} {c2:Nat} {p3:Option Addr} {c3:Nat} {y1:List zD} {p4:Option Addr} {c4:Nat} {y2:Int},zP qd prog 227 [.agg (vT y0 p1 c1 p2 c2 p3 c3).toArray,sv p4 y1 c4,vi y2] [] (vW y0 p1 c1 p2 c2 p3 c3 [Rl qS p4 c4 y1]) (zDQ k y0 y1 y2) fun r K=>∀ p5 c5,K (sv p5 r c5) [] [Rl qY p5 c5 r]):=by
  induction k with
  | zero=>exact z9x call227
  | succ k ih =>
    have ih_argument_run:=@ih
    have zSS:=@Cn.mk 227 0 _ (@ih_argument_run)
    exact @fun y0 p1 c1 p2 c2 p3 c3 y1 p4 c4 y2=>zN (m1:=zH1 (zDQ k) y0 y1 y2) call227 func227 u fun X=>hO 16<|hI 1 3 0 (fun(s1:Bool) K=>K [1,2,3,7] [] [6,1,3,4,5] [(31,vb s1)] [])<|hI 0 5 1 (fun(s2:(List zI)×Int) K=>∀ p7 c7 r_2,K [1,3,36,37] [(1,.r r_2)] [2,0,4,5,6] [(7,sv p7 s2.1 c7),(38,vi s2.2)] [Al qY 87 r_2 p7 c7 s2.1])<|
 au
theorem zZT{y0:zM}{y1:List zD}{y2:Int}: zP qd prog 227 [.agg (vT y0 p1 c1 p2 c2 p3 c3).toArray,sv p4 y1 c4,vi y2] [] (vW y0 p1 c1 p2 c2 p3 c3 [Rl qS p4 c4 y1]) (zFR y0 y1 y2) fun r K=>∀ p5 c5,K (sv p5 r c5) [] [Rl qY p5 c5 r]:=zVr fun k=>(zUX k)
abbrev zSS:=@Cn.mk 227 0 _ @zZT
attribute [instance] zSS
theorem zOb{y0:zM}{y1:List zD}{y2:Int}{y3:List Int}: zP qd prog 154 [.agg (vT y0 p1 c1 p2 c2 p3 c3).toArray,sv p4 y1 c4,vi y2,sv p5 y3 c5] [] (vW y0 p1 c1 p2 c2 p3 c3 [Rl qS p4 c4 y1,Rl (zC .i64) p5 c5 y3]) (zDG y0 y1 y2 y3) fun r K=>K (vb r) [] [] :=
 zN call154 func154 u fun X=>hD 5 [] [0] (.l [0,1,2,4,5,6,7,8,9] (.f 3 (.f 10 .e)))<|hI 0 2 1 (fun(s1:Int) K=>K [1,2,4,11,12] [] [3,4,0,1,2] [(13,vi s1)] [])<|
 au
abbrev zVV:=@Cn.mk 154 0 _ @zOb
theorem zN3{y0:Int}{y2:uP}: wO qd prog 153 [vi y0,pt b1 0] [bx b1 156 [pt b2 0],bx b2 158 (zHu y2 p1 c1 p2 c2 p3 c3 p4 c4 p5 c5)] (zHo y2 p1 c1 p2 c2 p3 c3 p4 c4 p5 c5 []) (zEf y0 y2) fun L r K=>K (vb r) L [] :=
 zN call153 func153 u fun X=>
 au
abbrev zN9:=@Cn.mk 153 0 _ @zN3
attribute [instance] zVV zN9
theorem zCH{y0:List Int}{y2:uP}: wO qd prog 126 [sv p1 y0 c1,.func (.func 153) #[] #[pt b1 0]] [bx b1 156 [pt b2 0],bx b2 158 (zHu y2 p2 c2 p3 c3 p4 c4 p5 c5 p6 c6)] (Rl (zC .i64) p1 c1 y0::(zHo y2 p2 c2 p3 c3 p4 c4 p5 c5 p6 c6 [])) (zAE y0 y2) fun L r K=>K (vi r) L [] :=
 zN call126 func126 u fun X=>hI 0 2 1 (fun(s1:Int) K=>K [0,1,7] [] [0,1,2,3,4,5] [(8,vi s1)] [])<|
 au
abbrev zEz:=@Cn.mk 126 4 _ @zCH
theorem zBo{y0:List Int}{y2:uP}: wO qd prog 67 [sv p1 y0 c1,.func (.func 153) #[] #[pt b1 0]] [bx b1 156 [pt b2 0],bx b2 158 (zHu y2 p2 c2 p3 c3 p4 c4 p5 c5 p6 c6)] (Rl (zC .i64) p1 c1 y0::(zHo y2 p2 c2 p3 c3 p4 c4 p5 c5 p6 c6 [])) (zAA y0 y2) fun L r K=>K (vb r) L [] :=
 zN call67 func67 u fun X=>jA 1 u<|zH<|zA 2 u<|qL .s [0,1] [] zCH u u u (cq [0,1,2,3,4,5])<|fun r1 _ k=>k<|zA 2 u<|zK<|qO<|yB u u kk [0,1] d
abbrev zEL:=@Cn.mk 67 4 _ @zBo
theorem zLi (k:Nat):
    (∀ {y0:uP} {b1:Nat} {p1:Option Addr} {c1:Nat} {p2:Option Addr} {c2:Nat} {p3:Option Addr} {c3:Nat} {p4:Option Addr} {c4:Nat} {r_1:zJ} {p5:Option Addr} {c5:Nat} {r_2:zJ} {y1:Int} {y2:List Int} {p6:Option Addr} {c6:Nat},zP qd prog 98 [pt b1 0,vi y1,sv p6 y2 c6] [bx b1 158 [sv p1 y0.1.1 c1,sv p2 y0.1.2.1 c2,sv p3 y0.1.2.2 c3,sv p4 y0.2.1 c4,sv p5 y0.2.2.1 c5,vi y0.2.2.2],r_1,r_2] (vW y0.1 p1 c1 p2 c2 p3 c3 [Al qS 95 r_1 p4 c4 y0.2.1,Al qS 95 r_2 p5 c5 y0.2.2.1,Rl (zC .i64) p6 c6 y2]) (zA5 k y0 y1 y2) fun r K=>∀ p7 c7 r_3,K (.tuple #[]) [bx b1 158 [sv p1 y0.1.1 c1,sv p2 y0.1.2.1 c2,sv p3 y0.1.2.2 c3,sv p4 y0.2.1 c4,sv p7 r c7,vi y0.2.2.2],r_1,r_3] [Al qS 95 r_3 p7 c7 r]):=by
  induction k with
  | zero=>exact z9x call98
  | succ k ih =>
    have ih_argument_builder_apply_2:=@ih
    have zIy:=@Cn.mk 98 0 _ (@ih_argument_builder_apply_2)
    exact @fun y0 b1 p1 c1 p2 c2 p3 c3 p4 c4 r_1 p5 c5 r_2 y1 y2 p6 c6=>zN (m1:=zBT (zA5 k) y0 y1 y2) call98 func98 u fun X=>zH<|wR .s u<|fun b2=>zK<|zH<|qG 3 u u u<|zA 1 u<|qB 0 u<|qB 1 u<|qG 0 u u u<|zA 1 u<|yJ 1 u u u<|fun x1 b3 o1=>qB 3 u<|yU false oL (gf (gs (gs (gs (gk 0))))) u<|fun p7 c7=>zA 1 u<|zK<|zQ<|
  zH<|qG 3 u u u<|qL .s [0] [1,2] zDq u u u ⟨ck 2,ck 3,ck 4,cl 1 5,cl 2 6,d⟩<|fun r1 _ k=>k<|zK<|zS u (qO<|vD<|yD u lN (fun _ k=>k p5 c5 r_2) [0,1,2] (gq [6]))<|jC<|
  jjoK (fun s1 K=>K [1,2,3] [] [7,2,3,4,5,6] [] []) (jA 5 u<|zS u (zQ<|zH<|qG 3 u u u<|zA 1 u<|qB 3 u<|qG 0 u u u<|zA 2 u<|zK<|zX<|
  wD (fun s2 K=>∀ p8 c8 r_3,K [1,2,3,6,28,29] [(0,bx b1 158 [sv p1 y0.1.1 c1,sv p2 y0.1.2.1 c2,sv p3 y0.1.2.2 c3,sv p4 y0.2.1 c4,sv p8 s2.2 c8,vi y0.2.2.2]),(2,r_3)] [7,0,5,2,3,4] [(30,vi s2.1)] [Al qS 95 r_3 p8 c8 s2.2]) (gv (fun _ k=>k p5 c5 r_2) [0,1,2,3] (gq [6,7,0,5,2,3,4]))<|
  fun s2 _ k p8 c8 r_3=>k<|jA 1 u<|zQ<|zS u (jC<|zQ<|zX<|zH<|zA 1 u<|jia 3 u u u<|fun x2 h1 b4 o2 hp1=>jlA 1 3 sI true zVE u hp1 h1 u<|fun p9 c9=>vH .s (.agg k8)<|
  fun b5=>zA 1 u<|qU .s 4 u u u<|zK<|uR [] [4] 8<|qR 0 3 u u<|uQ 1 4 2 u u u u<|zW 3 [2,3,4] u<|jdi 5 3 u u u u<|fun x3 b6 o3=>jdl 6 true xZ u (gk 0) u<|
  vR 7 (vb (x2.2.2.2==x3)) u<|qT<|qK<|zS u (
  jjcK (fun s3 K=>∀ p10 c10 r_4,K [1,2,3,6,28,29,30] [(0,bx b1 158 [sv p1 y0.1.1 c1,sv p2 y0.1.2.1 c2,sv p3 y0.1.2.2 c3,sv p4 y0.2.1 c4,sv p10 s3 c10,vi y0.2.2.2]),(2,r_4),(4,[])] [3,4,5,6,7,8] [] [Al qS 95 r_4 p10 c10 s3]) (
  xY [] [3] 8<|wS 0 3 u u u u<|zW 4 [1,2,4] u<|jd2 3 5 (qL (.f u) [] [] zHj u u u (cq [3])<|fun r2 _ k p11 c11 r_5=>k<|qN<|qM 5<|
  yI (.f u) (e:=zC .i64) 3 [vi s2.1] ([s2.1]:List Int) (rC vI rN)<|fun p12 c12=>qN<|qM 6<|uE (.f u) 5 1 u (gk 0) u u<|fun x4 r_6 p13 c13=>qN<|uI 5 0 u u<|qM 7<|
  qL (.f u) [0,1,2] [] ih_argument_builder_apply_2 u u u (cq [10,11,12,9,6,0])<|fun r3 _ k p14 c14 r_7=>k<|qN<|qT<|qI (gv (fun _ k=>k p14 c14 r_7) [0,1,2,3,904] (gq [0,8,9,10,11,12,13]))) <|
  yI (.f u) (e:=zC .i64) 3 [vi s2.1] ([s2.1]:List Int) (rC vI rN)<|fun p15 c15=>qN<|qM 3<|qL (.f u) [] [] zHj u u u (cq [4])<|fun r4 _ k p16 c16 r_8=>k<|qN<|qM 6<|uE (.f u) 5 0 u (gk 1) u u<|
  fun x5 r_9 p17 c17=>qN<|uI 5 0 u u<|qM 7<|qL (.f u) [0,1,2] [] ih_argument_builder_apply_2 u u u (cq [10,11,12,9,6,0])<|fun r5 _ k p18 c18 r_10=>k<|qN<|qT<|
  qI (gv (fun _ k=>k p18 c18 r_10) [0,1,2,3,904] (gq [0,8,9,10,11,12,13])))<|fun s3 _ k p10 c10 r_4=>k<|vM<|qK<|jB 2 u<|yH (gv (fun _ k=>k p10 c10 r_4) [0,1,2,3] (gq [0,1,2,3,4,5,6])))<|yA<|vM<|qK<|jB 2 u<|
  yH (gv (fun _ k=>k p8 c8 r_3) [0,1,2,3] (gq [2,3,4,5,6,7,8])))<|uA<|yR<|yY<|yZ<|qK<|qO<|jlr<|yD u lN (fun _ k=>k p8 c8 r_3) [0,1,2] (gq [0]))<|yA<|yH (gv kk [0,1,2,3] (gq [7,2,3,4,5,6])))<|fun s1 _ k=>k<|
  wC (fun s4 K=>K [1,2,3] [] [0,1,2,3,4,5] [(67,vb s4)] []) (xY [] [0,3] 16<|zW 14 [0,1] u<|qM 2<|
  qL (.f u) [3,0] [1,2] zBo u u u ⟨ck 0,ck 1,ck 2,ck 3,cl 1 4,cl 2 5,d⟩<|fun r6 _ k=>k<|qN<|zW 12 [3] u<|tI 55 u (wS 4 3 u u u u<|zW 10 [5] u<|qR 6 0 u u<|
  uQ 7 0 3 u u u u<|wS 8 3 u u u u<|zW 6 [9] u<|qR 10 3 u u<|wS 11 0 u u u u<|zW 2 [12,13] u<|qM 14<|qL (.f u) [] [1] zOb u u u ⟨ck 1,ck 2,ck 3,cl 1 4,ck 0,d⟩<|fun r7 _ k=>k<|
  qN<|vR 15 (vb r7) u<|qT<|qI (gv kk [0,1,2,3] (gq [0,1,2,3,4,5])))<|zW 1 [4,5,6,7,8,9,10,11,12,13,14] u<|vR 15 (vb false) u<|qT<|qI (gv kk [0,1,2,3] (gq [0,1,2,3,4,5])))<|fun s4 _ k=>k<|zS u (
  xY [21] [0,3] 22<|wS 0 3 u u u u<|wS 1 3 u u u u<|zW 19 [2] u<|qR 3 4 u u<|wS 4 0 u u u u<|zW 15 [5,6] u<|wS 7 3 u u u u<|zW 13 [8] u<|qR 9 0 u u<|qR 10 1 u u<|
  wS 11 0 u u u u<|zW 9 [12] u<|jdi 13 2 u u u u<|fun x6 b7 o4=>qR 14 4 u u<|jdl 15 true xZ u (gs (gs (gs (gs (gk 0))))) u<|
  vR 16 (.agg #[vi (-1),vi y1,sv p6 y2 c6,vb (a4 x6).1,vs (a5 x6)]) u<|qM 17<|
  yI (.f u) (e:=qS) 95 [vi (-1),vi y1,sv p6 y2 c6,vb (a4 x6).1,vs (a5 x6)] ([((-1),y1,y2,(a4 x6))]:List zD) (rC (vP vI (vP vI (vP (vL (gk 1)) (vP vB vS)))) rN)<|fun p19 c19=>qN<|qM 18<|
  uE (.f u) 2 7 u (gk 0) u u<|fun x7 r_11 p20 c20=>qN<|zW 2 [19] u<|qR 20 4 u u<|qM 21<|qU (o:=4) (.f u) 0 u u u<|jdb [] [0,3]<|qT<|jrn<|yD u lN (fun _ k=>k p20 c20 r_11) [0,1,2] (gq [0]))<|yA<|jrn<|
  yD u lN (fun _ k=>k p5 c5 r_2) [0,1,2] (gq [5])
theorem zIx{y0:uP}{y1:Int}{y2:List Int}: zP qd prog 98 [pt b1 0,vi y1,sv p6 y2 c6] [bx b1 158 [sv p1 y0.1.1 c1,sv p2 y0.1.2.1 c2,sv p3 y0.1.2.2 c3,sv p4 y0.2.1 c4,sv p5 y0.2.2.1 c5,vi y0.2.2.2],r_1,r_2] (vW y0.1 p1 c1 p2 c2 p3 c3 [Al qS 95 r_1 p4 c4 y0.2.1,Al qS 95 r_2 p5 c5 y0.2.2.1,Rl (zC .i64) p6 c6 y2]) (zBV y0 y1 y2) fun r K=>∀ p7 c7 r_3,K (.tuple #[]) [bx b1 158 [sv p1 y0.1.1 c1,sv p2 y0.1.2.1 c2,sv p3 y0.1.2.2 c3,sv p4 y0.2.1 c4,sv p7 r c7,vi y0.2.2.2],r_1,r_3] [Al qS 95 r_3 p7 c7 r]:=zVr fun k=>(zLi k)
abbrev zIy:=@Cn.mk 98 0 _ @zIx
theorem zUx{y0:qC}{y1:zG}: wO qd prog 225 [.agg (zVs y0 p1 c1).toArray,pt b1 0] [bx b1 9 [vs y1]] (zZ9 y0 p1 c1 []) (zLV y0 y1) fun L r K=>K (vb r) L [] :=
 zN call225 func225 u fun X=>
 au
abbrev zVM:=@Cn.mk 225 0 _ @zUx
attribute [instance] zEz zEL zIy zVM
theorem zIF{y0:List qC}{y1:zG}: wO qd prog 224 [sv p1 y0 c1,.func (.func 225) #[] #[pt b1 0]] [bx b1 9 [vs y1]] [Rl xH p1 c1 y0] (zAT y0 y1) fun L r K=>K (vi r) L [] :=
 zN call224 func224 u fun X=>hI 0 2 1 (fun(s1:Int) K=>K [0,1,7] [] [0] [(8,vi s1)] [])<|
 au
abbrev zIA:=@Cn.mk 224 0 _ @zIF
attribute [instance] zIA
theorem zXZ{y0:zM}{y1:zG}: zP qd prog 147 [.agg (vT y0 p1 c1 p2 c2 p3 c3).toArray,vs y1] [] (vW y0 p1 c1 p2 c2 p3 c3 []) (zEE y0 y1) fun r K=>K (vi r) [] [] :=
 zN call147 func147 u fun X=>
 au
abbrev zXo:=@Cn.mk 147 0 _ @zXZ
theorem zRl{y0:wM}{y1:zI}: wO qd prog 222 [.agg (zQq y0).toArray,pt b1 0] [bx b1 87 [vb y1.1,vs y1.2]] [] (zJC y0 y1) fun L r K=>K (vb r) L [] :=
 zN call222 func222 u fun X=>zH<|wR .s u<|fun b2=>zA 1 u<|zK<|zH<|qB 0 u<|wQ 1 2 u u u<|wQ 0 2 u u u<|qE (vb (y0.1==y1))<|zA 1 u<|zK<|qO<|yB u u kk [0] d
abbrev zRq:=@Cn.mk 222 0 _ @zRl
attribute [instance] zXo zRq
theorem zF2{y0:List wM}{y1:zI}: wO qd prog 221 [sv p1 y0 c1,.func (.func 222) #[] #[pt b1 0]] [bx b1 87 [vb y1.1,vs y1.2]] [Rl tP p1 c1 y0] (zAH y0 y1) fun L r K=>K (vi r) L [] :=
 zN call221 func221 u fun X=>hI 0 2 1 (fun(s1:Int) K=>K [0,1,7] [] [0] [(8,vi s1)] [])<|
 au
abbrev zF4:=@Cn.mk 221 0 _ @zF2
attribute [instance] zF4
theorem zUr{y0:zM}{y1:zI}: zP qd prog 145 [.agg (vT y0 p1 c1 p2 c2 p3 c3).toArray,.agg #[vb y1.1,vs y1.2]] [] (vW y0 p1 c1 p2 c2 p3 c3 []) (zDb y0 y1) fun r K=>K (vi r) [] [] :=
 zN call145 func145 u fun X=>
 au
abbrev zUS:=@Cn.mk 145 0 _ @zUr
theorem zSg{y0:zG}: zP qd prog 223 [vs y0] [] [] (zB0 y0) fun r K=>K (vb r) [] [] :=
 zN call223 func223 u fun X=>jA 1 u<|zQ<|z5h (fun K=>K [0] [] [] [(12,vb (((len y0)==0)||(decide (12<(len y0)))))] []) (
 au
)<|fun _ k=>k<|zS u (
 au
)<|jC<|zQ<|jA 3 u<|zX<|
  wD (fun s1 K=>K [0,14] [] [] [(15,vi s1)] []) (gv kk [] d)<|fun s1 _ k=>k<|jA 1 u<|zQ<|zS u (jC<|zQ<|zX<|jA 2 u<|zH<|zA 2 u<|xQ fun x1 h1=>
  jv (fun h=>z6x h u u underlying9 h1)<|hP 4 8 0 (fun K=>K [0,3,4,14,15] [] [] [(21,vb ((decide (97≤x1))&&(decide (x1≤122))))] [])<|hP 4 9 0 (fun K=>K [0,14,15] [] [] [(28,vb ((decide (0<s1))&&(if decide (48≤x1) then(decide (x1≤57))||(x1==95) else x1==95)))] [])<|
 au
)<|
 au
abbrev zTX:=@Cn.mk 223 0 _ @zSg
attribute [instance] zUS zTX
theorem zXY{y0:zI}: zP qd prog 219 [.agg #[vb y0.1,vs y0.2]] [] [] (zBs y0) fun r K=>K (vb r) [] [] :=
 zN call219 func219 u fun X=>
 au
abbrev zXp:=@Cn.mk 219 0 _ @zXY
theorem zVC{y0:Int}: zP qd prog 218 [vi y0] [] [] (zDJ y0) fun r K=>K (vb r) [] [] :=
 zN call218 func218 u fun X=>hP 4 1 0 (fun K=>K [] [] [] [(2,vb ((decide (0≤y0))&&(decide (y0≤9))))] [])<|
 au
abbrev zV4:=@Cn.mk 218 0 _ @zVC
theorem zUg{y0:zG}: zP qd prog 220 [vs y0] [] [] (zFC y0) fun r K=>K (vb r) [] [] :=
 zN call220 func220 u fun X=>hI 1 1 0 (fun(s1:Bool) K=>K [] [] [] [(2,vb s1)] [])<|
 au
abbrev zUj:=@Cn.mk 220 0 _ @zUg
attribute [instance] zXp zV4 zUj
theorem zUO{y0:wM}: zP qd prog 144 [.agg (zQq y0).toArray] [] [] (zD8 y0) fun r K=>K (vi r) [] [] :=
 zN call144 func144 u fun X=>hI 2 1 1 (fun(s1:Unit) K=>K [1] [] [] [] [])<|hI 1 3 1 (fun(s2:Bool) K=>K [1,4] [] [] [(5,vb s2)] [])<|hI 1 10 0 (fun(s3:Bool) K=>K [] [(0,.r [])] [] [(26,vb s3)] [])<|
 au
abbrev zUG:=@Cn.mk 144 0 _ @zUO
theorem zRs{y0:zM}{y1:wE}: zP qd prog 148 [.agg (vT y0 p1 c1 p2 c2 p3 c3).toArray,.agg (zPN y1).toArray] [] (vW y0 p1 c1 p2 c2 p3 c3 []) (zCn y0 y1) fun r K=>K (vi r) [] [] :=
 zN call148 func148 u fun X=>hI 1 1 0 (fun(s1:Bool) K=>K [2,3] [] [0,1,2] [(15,vb s1)] [])<|
 au
abbrev zRz:=@Cn.mk 148 0 _ @zRs
end Go.Proofs.YtmpieaddiaihmaaGreatDoor
