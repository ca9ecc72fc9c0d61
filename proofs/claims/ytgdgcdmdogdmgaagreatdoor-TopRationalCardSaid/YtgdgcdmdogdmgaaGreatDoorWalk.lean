/- A part. Conditions: none. -/
import Derived.Test.YtgdgcdmdogdmgaaGreatDoorWalk4
namespace Go.Proofs.YtgdgcdmdogdmgaaGreatDoor
open Go Go.GD Go.Proofs.Tryz
set_option autoImplicit false
set_option linter.unusedVariables false
set_option maxRecDepth 100000
set_option linter.defProp false
variable {qd:Prop}
variable {yl1:Nat}{p1 p2 p3 p4 p5 p6 p7 p8 p9:Option Addr}{c1 c2 c3 c4 c5 c6 c7 c8 c9:Nat}{b1 b2 b3 b4 b5 b6 b7 b8 b9 b10 b11:Nat}{r_1 r_2 r_3 r_4 r_5 r_6:zG}
attribute [instance] zOW zMo zQB zRM zMG zNA
theorem zTQ{y0:zD}{y1:zD}: zP qd prog 19 [vs y0,vs y1] [] [] (zMC y0 y1) fun r K=>K (.tuple #[vs r.1,vs r.2.1,vb r.2.2]) [] [] :=
 zO call19 func19 u fun X=>
 au
abbrev zZg:=@Cn.mk 19 0 _ @zTQ
theorem zPN{y0:zD}: zP False prog 20 [vs y0] [] [Tb prog "strings.asciiSpace" .u8 Lib.asciiSpaceTab,Wt 2] (zJQ y0) fun r K=>∀ p1 c1,K (sv p1 r c1) [] [Rl qX p1 c1 r]:=z5B Go.Proofs.Tryz.lays157 (by kernel_rfl) (by kernel_rfl) (by kernel_rfl) call20
abbrev zVW:=@Cn.mk 20 0 _ @zPN
theorem zJU{y0:zD}: zP False prog 5 [vs y0] [] [Tb prog "strings.asciiSpace" .u8 Lib.asciiSpaceTab,Pt (vF 4 qX) 1 0 zBE,Wt 2,Tb prog "internal/strconv.uint64pow10" .u64 Lib.pow10Tab] (zFF y0) fun r K=>∀ p1 c1 p2 c2 p3 c3,K (.tuple #[.agg (vJ r.1 p1 c1 p2 c2 p3 c3).toArray,vi r.2.1,vi r.2.2]) [] (vO r.1 p1 c1 p2 c2 p3 c3 []) :=
 zO call5 func5 u fun X=>zJ<|vD .s (.agg k1)<|fun b1=>zA 2 u<|zL<|zS<|jA 3 u<|zV u (zJ<|qD (.agg k1)<|wA .s 0 u u u<|zA 2 u<|zL<|qP<|yX<|
  uI u (lC 0 (.agg k1) u u (lT u (lT u lN))) (fun _ k=>k none 0 none 0 none 0) [] ⟨gn,gn,gn,d⟩)<|jC<|zJ<|vD .s (.agg k1)<|
  fun b2=>uA tN 86<|uA yT 93<|uA zB0 96<|zL<|jA 1 u<|
  jjoK (fun s1 K=>∀ p1 c1 r_1 p2 c2 r_2 p3 c3 r_3,K [2,5] [(1,bx b2 29 [sv p1 s1.1 c1,sv p2 s1.2.1 c2,sv p3 s1.2.2 c3]),(2,r_1),(3,r_2),(4,r_3)] [3,4,5,6] [] [Al tN 86 r_1 p1 c1 s1.1,Al yT 93 r_2 p2 c2 s1.2.1,Al zB0 96 r_3 p3 c3 s1.2.2]) (
  jA 1 u<|zZ<|
  wP (fun s2 K=>∀ p4 c4 r_4 p5 c5 r_5 p6 c6 r_6,K [2,5] [(1,bx b2 29 [sv p4 s2.2.2.2.1 c4,sv p5 (a4 s2).1 c5,sv p6 (a5 s2) c6]),(2,r_4),(3,r_5),(4,r_6)] [3,4,5,6] [(0,vs s2.1),(6,vi s2.2.1),(7,vi s2.2.2.1)] [Al tN 86 r_4 p4 c4 s2.2.2.2.1,Al yT 93 r_5 p5 c5 (a4 s2).1,Al zB0 96 r_6 p6 c6 (a5 s2)]) (gv (fun _ k=>k none 0 [] none 0 [] none 0 []) [0,1,2,3,4] (gq [2,1,0,3,4,5,6]))<|
  fun s2 _ k p4 c4 r_4 p5 c5 r_5 p6 c6 r_6=>k<|zS<|jA 2 u<|zV u (jC<|zS<|zZ<|zJ<|zA 1 u<|wD zTQ u d<|fun r1 _ k=>k<|zA 7 u<|zL<|zJ<|zA 1 u<|wD zPN u (cq [3,5])<|fun r2 _ k p7 c7=>k<|
  qD (.agg #[sv p7 r2 c7,vb false])<|vH .s u<|fun b3=>zA 1 u<|zL<|zJ<|zA 1 u<|qK .s [5,1,2,3,4] [] zLu u u u (cq [0,1,2,3,5,7])<|fun r3 _ k p8 c8 p9 c9 r_7 p10 c10 r_8 p11 c11 r_9=>k<|zA 5 u<|zL<|
  zS<|
  z7v (fun K=>K [2,5,7,9,12] [(5,[])] [1,2,3,8,9,10,11] [(63,vb ((!r1.2.2)||(r3.2.2.2.1||((decide (0<(len r3.2.2.1)))||((!(r3.2.1==r1.1))||(decide (r3.1<s2.2.1)))))))] []) (
  vM<|zA 3 u<|jsp (b:=!r1.2.2) 40 u (fun hb1=>zA 4 u<|qD (vb true)<|zA 7 u<|qD (vb true)<|zA 4 u<|qD (vb true)<|zA 4 u<|qD (vb true)<|wN<|
  xR 63 (vb ((!r1.2.2)||(r3.2.2.2.1||((decide (0<(len r3.2.2.1)))||((!(r3.2.1==r1.1))||(decide (r3.1<s2.2.1))))))) u (by rw[hb1];rfl)<|qI (gv kk [0,1,2,3,4,905] (gq [1,2,3,8,9,10,11])))<|fun hb1=>zA 2 u<|
  qC 1 u<|qJ 5 u u u<|qD (vb r3.2.2.2.1)<|zA 1 u<|jsp (b:=r3.2.2.2.1) 46 u (fun hb2=>zA 6 u<|qD (vb true)<|zA 4 u<|qD (vb true)<|zA 4 u<|qD (vb true)<|wN<|
  xR 63 (vb ((!r1.2.2)||(r3.2.2.2.1||((decide (0<(len r3.2.2.1)))||((!(r3.2.1==r1.1))||(decide (r3.1<s2.2.1))))))) u (by rw[hb1,hb2];rfl)<|qI (gv kk [0,1,2,3,4,905] (gq [1,2,3,8,9,10,11])))<|fun hb2=>zA 2 u<|
  qC 0 u<|qJ 5 u u u<|zA 2 u<|qD (vb (decide (0<(len r3.2.2.1))))<|zA 1 u<|jsp (b:=decide (0<(len r3.2.2.1))) 54 u (fun hb3=>zA 3 u<|qD (vb true)<|zA 4 u<|qD (vb true)<|wN<|
  xR 63 (vb ((!r1.2.2)||(r3.2.2.2.1||((decide (0<(len r3.2.2.1)))||((!(r3.2.1==r1.1))||(decide (r3.1<s2.2.1))))))) u (by rw[hb1,hb2,hb3];rfl)<|qI (gv kk [0,1,2,3,4,905] (gq [1,2,3,8,9,10,11])))<|fun hb3=>
  zA 3 u<|qD (vb (!(r3.2.1==r1.1)))<|zA 1 u<|jsp (b:=!(r3.2.1==r1.1)) 59 u (fun hb4=>zA 3 u<|qD (vb true)<|wN<|
  xR 63 (vb ((!r1.2.2)||(r3.2.2.2.1||((decide (0<(len r3.2.2.1)))||((!(r3.2.1==r1.1))||(decide (r3.1<s2.2.1))))))) u (by rw[hb1,hb2,hb3,hb4];rfl)<|qI (gv kk [0,1,2,3,4,905] (gq [1,2,3,8,9,10,11])))<|fun hb4=>
  zA 3 u<|qD (vb (decide (r3.1<s2.2.1)))<|wN<|xR 63 (vb ((!r1.2.2)||(r3.2.2.2.1||((decide (0<(len r3.2.2.1)))||((!(r3.2.1==r1.1))||(decide (r3.1<s2.2.1))))))) u (by rw[hb1,hb2,hb3,hb4];rfl)<|
  qI (gv kk [0,1,2,3,4,905] (gq [1,2,3,8,9,10,11])))<|fun _ k=>k<|zV u (zJ<|qD (.agg k1)<|zA 1 u<|wA .s 0 u u u<|zA 2 u<|zL<|qP<|yX<|jbr<|yX<|jlr<|jbr<|jlr<|
  uI u (lC 0 (.agg k1) u u (lT u (lT u lN))) (fun _ k=>k none 0 none 0 none 0) [] ⟨gn,gn,gn,d⟩)<|jC<|jB 4 u<|yL<|qN<|jB 3 u<|
  uG (gv (fun _ k=>k p9 c9 r_7 p10 c10 r_8 p11 c11 r_9) [0,1,2,3,4] (gq [0,1,2,3,4,5,6])))<|xF<|uP<|uS<|xD<|uG (gv (fun _ k=>k p4 c4 r_4 p5 c5 r_5 p6 c6 r_6) [0,1,2,3,4] (gq [0,1,2,3,4,5,6])))<|fun s1 _ k p1 c1 r_1 p2 c2 r_2 p3 c3 r_3=>
  k<|zS<|zJ<|wW 1 3 u u u<|qK .s [] [2,3,4] zE1 u u u ⟨cl 2 0,cl 3 1,cl 4 2,d⟩<|fun r4 _ k=>k<|zA 1 u<|zL<|jA 2 u<|zV u (zJ<|qD (.agg k1)<|
  zA 1 u<|wA .s 0 u u u<|zA 2 u<|zL<|qP<|yX<|uI u (lC 0 (.agg k1) u u (lT u (lT u lN))) (fun _ k=>k none 0 none 0 none 0) [] ⟨gn,gn,gn,d⟩)<|jC<|zJ<|
  wW 1 3 u u u<|wA .s 0 u u u<|zA 2 u<|zL<|qP<|yU 2 0 u u<|yU 3 2 u u<|yU 4 4 u u<|
  uI u (lC 0 (.agg #[sv p1 s1.1 c1,sv p2 s1.2.1 c2,sv p3 s1.2.2 c3]) u u (lT u (lT u lN))) (fun _ k=>k p1 c1 p2 c2 p3 c3) [] (gq [2,1,0])
abbrev zV6:=@Cn.mk 5 0 _ @zJU
theorem zND{y0:zC}{y1:List (zC×Unit)}: wL qd prog 54 [.agg #[vb y0.1,vs y0.2],pt b1 0] [bx b1 129 [.map (some b2)],r_1] [Ma (fun x:zC=>.agg #[vb x.1,vs x.2]) (fun x:Unit=>.agg #[]) r_1 b2 y1] (zFS y0 y1) fun L r K=>K (vb r) L [] :=
 zO call54 func54 u fun X=>zJ<|vH .s u<|fun b3=>zA 1 u<|zL<|zJ<|qJ 0 u u u<|wW 2 2 u u u<|jmG .s (k:=y0) 1 0 () Tryz.key129 u u u<|
 au
abbrev zTk:=@Cn.mk 54 0 _ @zND
attribute [instance] zZg zVW zV6 zTk
theorem zG6{y0:List zC}{y1:List (zC×Unit)}: wL qd prog 104 [sv p1 y0 c1,.func (.func 54) #[] #[pt b1 0]] [bx b1 129 [.map (some b2)],r_1] [Rl qH p1 c1 y0,Ma (fun x:zC=>.agg #[vb x.1,vs x.2]) (fun x:Unit=>.agg #[]) r_1 b2 y1] (zBp y0 y1) fun L r K=>K (vi r) L [] :=
 zO call104 func104 u fun X=>hI 0 2 1 (fun(s1:Int) K=>K [0,1,7] [] [0,1] [(8,vi s1)] [])<|
 au
abbrev zG8:=@Cn.mk 104 0 _ @zG6
attribute [instance] zG8
theorem zCi{y0:List zC}{y1:List (zC×Unit)}: wL qd prog 55 [sv p1 y0 c1,.func (.func 54) #[] #[pt b1 0]] [bx b1 129 [.map (some b2)],r_1] [Rl qH p1 c1 y0,Ma (fun x:zC=>.agg #[vb x.1,vs x.2]) (fun x:Unit=>.agg #[]) r_1 b2 y1] (zAv y0 y1) fun L r K=>K (vb r) L [] :=
 zO call55 func55 u fun X=>
 au
abbrev zFa:=@Cn.mk 55 0 _ @zCi
theorem zPF{y0:zI}{y1:List zC}: zP qd prog 18 [.agg (vJ y0 p1 c1 p2 c2 p3 c3).toArray,sv p4 y1 c4] [] (vO y0 p1 c1 p2 c2 p3 c3 [Rl qH p4 c4 y1]) (zDz y0 y1) fun r K=>∀ p5 c5,K (sv p5 r c5) [] [Rl qH p5 c5 r] :=
 zO call18 func18 u fun X=>zJ<|vH .s u<|fun b1=>zA 1 u<|zL<|zJ<|jmm .s (fun x:zC=>.agg #[vb x.1,vs x.2]) (fun x:Unit=>.agg #[]) Tryz.key129 u (.inl u)<|fun b2 r_1=>vD .s (.map none)<|fun b3=>wA .s 2 u u u<|zL<|
  wR (fun s1 K=>∀ r_2,K [2,5] [(1,r_2)] [1,2,3] [] [Ma (fun x:zC=>.agg #[vb x.1,vs x.2]) (fun x:Unit=>.agg #[]) r_2 b2 s1]) (
  jA 3 u<|zZ<|
  wP (fun s2 K=>∀ r_3,K [2,5,15,16] [(1,r_3)] [4,1,2,3] [(17,vi s2.1)] [Ma (fun x:zC=>.agg #[vb x.1,vs x.2]) (fun x:Unit=>.agg #[]) r_3 b2 s2.2]) (gv (fun _ k=>k r_1) [0,1,2] (gq [0,4,1,2,3]))<|
  fun s2 _ k r_3=>k<|jA 1 u<|zS<|zV u (jC<|zS<|zZ<|zJ<|yK 1 u u u<|fun x1 b4 o1=>yS true tH (gk 0) u<|vD .s (.agg k0)<|fun b5=>wA .s 3 u u u<|zL<|vM<|qJ 2 u u u<|wW 3 2 u u u<|
  qD (.agg #[])<|jmp .s (k:=x1) (v:=()) 1 1 Tryz.key129 u u u u<|fun r_4=>wN<|yL<|qN<|jB 2 u<|uG (gv (fun _ k=>k r_4) [0,1,2] (gq [0,3,4,5,6])))<|xF<|uP<|uS<|xD<|qI (gv (fun _ k=>k r_3) [0,1,2] (gq [0,2,3,4])))<|
  fun s1 _ k r_2=>k<|jA 2 u<|
  wR (fun s3 K=>∀ r_5,K [5] [(0,[]),(1,r_5)] [] [] [Ma (fun x:zC=>.agg #[vb x.1,vs x.2]) (fun x:Unit=>.agg #[]) r_5 b2 s3]) (
  jA 1 u<|zZ<|
  wP (fun s4 K=>∀ r_6,K [2,5,8] [(1,r_6)] [1,2,3] [(9,vb s4.1)] [Ma (fun x:zC=>.agg #[vb x.1,vs x.2]) (fun x:Unit=>.agg #[]) r_6 b2 s4.2]) (gv (fun _ k=>k r_2) [0,1,2] (gq [0,1,2,3]))<|
  fun s4 _ k r_6=>k<|zS<|jA 1 u<|zV u (jC<|zZ<|jA 1 u<|zJ<|qC 1 u<|qJ 0 u u u<|zA 2 u<|zL<|zZ<|
  wP (fun s5 K=>∀ r_7,K [2,5,8,28,29] [(1,r_7)] [2,1,3] [(9,vb s5.1),(30,vi s5.2.1)] [Ma (fun x:zC=>.agg #[vb x.1,vs x.2]) (fun x:Unit=>.agg #[]) r_7 b2 s5.2.2]) (gv (fun _ k=>k r_6) [0,1,2] (gq [0,2,1,3]))<|
  fun s5 _ k r_7=>k<|jA 1 u<|zS<|zV u (jC<|zS<|zZ<|zJ<|yK 1 u u u<|fun x2 b6 o2=>yS true zYr (gk 0) u<|fun p5 c5=>vD .s (.agg k3)<|fun b7=>wA .s 3 u u u<|
  zL<|wR (fun s6 K=>K [2,5,8,9,11,28,29,30] [] [3,4,5,2,0] [(48,vb s6)] []) (vM<|qC 1 u<|qJ 3 u u u<|zA 1 u<|jsg 36 u (zA 1 u<|qC 4 u<|
  wW 3 2 u u u<|qK .s [2,1] [] zND u u u (cq [2])<|fun r1 _ k=>k<|qD (vb r1)<|zA 1 u<|jsg 42 u (qC 3 u<|qJ 3 u u u<|zA 1 u<|
  qK .s [2,1] [] zCi u u u (cq [0,2])<|fun r2 _ k=>k<|zA 1 u<|qD (vb (!r2))<|wN<|qI (gv kk [0,1,2,3] (gq [3,4,5,2,0])))<|zA 5 u<|qD (vb false)<|wN<|
  qI (gv kk [0,1,2,3] (gq [3,4,5,2,0])))<|zA 4 u<|qD (vb false)<|zA 6 u<|qD (vb false)<|wN<|qI (gv kk [0,1,2,3] (gq [3,4,5,2,0])))<|fun s6 _ k=>k<|zV u (zJ<|qJ 2 u u u<|qC 4 u<|
  wW 3 2 u u u<|qD (.agg #[])<|jmp .s (k:=(a4 x2)) (v:=()) 1 3 Tryz.key129 u u u u<|fun r_8=>zL<|jB 1 u<|yL<|qN<|jB 2 u<|uG (gv (fun _ k=>k r_8) [0,1,2] (gq [0,1,2,3])))<|uM<|yL<|qN<|jB 2 u<|
  uG (gv (fun _ k=>k r_7) [0,1,2] (gq [3,0,1,2])))<|xF<|uP<|uS<|xD<|yL<|uG (gv (fun _ k=>k r_7) [0,1,2] (gq [0,2,1,3])))<|xF<|uP<|uS<|xD<|qI (gv (fun _ k=>k r_6) [900,1,2] (gq [0])))<|fun s3 _ k r_5=>k<|zJ<|qJ 2 u u u<|
  jkn .s 1 0 Tryz.key129 u u<|jmk .s (e:=qH) 84 ((false,[]):zC) (.agg k0) (vP vB vS) u u<|fun x3 r_9 p6 c6=>zA 1 u<|zL<|zS<|zJ<|qJ 2 u u u<|jkr .s 1 1 Tryz.key129 u u<|fun b8 r_10=>
  zL<|zZ<|jkG<|fun hk1=>
  jkL (fun(s7:(List zC)×(List (zC×Unit))) K=>∀ r_11 p7 c7 r_12,(s7.1++List.map Prod.fst s7.2).Perm (x3++List.map Prod.fst s3)->K [(12,sv p7 s7.1 c7),(58,pt b8 0)] [[],r_5,bx b3 129 [.map (some b2)],r_12,r_11] [Itm (fun x:zC=>.agg #[vb x.1,vs x.2]) (fun x:Unit=>.agg #[]) r_11 b8 r_5 b2 s3 s7.2 none,Al qH 84 r_12 p7 c7 s7.1,Ma (fun x:zC=>.agg #[vb x.1,vs x.2]) (fun x:Unit=>.agg #[]) r_5 b2 s3]) (fun s7=>List.length s7.2) (s0:=(x3,s3)) (gv (fun _ k=>k r_10 p6 c6 r_9 (.refl _)) [0,1,2,3,4] ⟨gIt (gk 0),gk 1,gk 2,d⟩)<|
  fun s7 _ k r_11 p7 c7 r_12 hp1=>k<|zS<|vM<|jkx .s 4 1 0 u u (fun h1=>jkz (normP hk1 (z7w hp1 h1))<|zA 1 u<|wN<|qN<|zS<|jcf u<|xF<|uP<|jkE<|xD<|qN<|zJ<|zA 1 u<|yU 3 1 u u<|wD zHF u (cq [0])<|
  fun r3 _ k p8 c8 r_13=>k<|zA 1 u<|zL<|qP<|yU 5 0 u u<|yY u u (fun _ k=>k p8 c8) [] (gq [0]))<|fun r_14 j1 y1 hj1=>jkB (z9S hp1 hj1 hk1)<|zA 1 u<|wN<|qN<|zS<|jct u<|jC<|zZ<|zJ<|jky .s 4 1 0 u u<|zA 1 u<|
  vD .s (.agg k0)<|fun b9=>wA .s 5 u u u<|zL<|vM<|zA 1 u<|wW 5 2 u u u<|uC .s (e:=qH) 84 [vb y1.1.1,vs y1.1.2] ([y1.1]:List zC) (rC (vP vB vS) rN)<|fun p9 c9=>
  xL .s 3 3 u (gk 0) u u<|fun x4 r_15 p10 c10=>zA 1 u<|wN<|yL<|jkW<|fun he1=>jkN (s':=(x4,List.eraseIdx s7.2 j1)) (perm_lt hj1) (gv (fun _ k=>k r_14 p10 c10 r_15 (perm_go hp1 hj1 he1)) [0,1,2,3,4] ⟨gIt (gk 2),gk 0,gk 5,d⟩)
abbrev zVg:=@Cn.mk 18 0 _ @zPF
theorem zQe{y0:zI}: zP qd prog 45 [.agg (vJ y0 p1 c1 p2 c2 p3 c3).toArray] [] (vO y0 p1 c1 p2 c2 p3 c3 []) (zJq y0) fun r K=>∀ p4 c4,K (sv p4 r c4) [] [Rl qH p4 c4 r] :=
 zO call45 func45 u fun X=>zJ<|vH .s u<|fun b1=>zA 1 u<|zL<|zJ<|zA 1 u<|uA qH 84 <|zL<|
  jjn (fun s1 K=>∀ p4 c4 r_1,K [(3,sv p4 s1 c4)] [[],r_1] [Al qH 84 r_1 p4 c4 s1]) (zJ<|qC 0 u<|
  qJ 0 u u u<|zA 2 u<|zL<|zZ<|
  wP (fun s2 K=>∀ p5 c5 r_2,K [7,8] [(0,[]),(1,r_2)] [1] [(3,sv p5 s2.1 c5),(9,vi s2.2)] [Al qH 84 r_2 p5 c5 s2.1]) (gv (fun _ k=>k none 0 []) [900,1] (gq [0,1]))<|
  fun s2 _ k p5 c5 r_2=>k<|jA 1 u<|zS<|zV u (jC<|zS<|zZ<|zJ<|yK 1 u u u<|fun x1 b2 o1=>yS true zSw (gk 0) u<|vD .s (.agg k4)<|fun b3=>wA .s 2 u u u<|zL<|zJ<|qC 2 u<|
  qJ 2 u u u<|zA 1 u<|zL<|zV u (vM<|zA 1 u<|qC 0 u<|wW 2 2 u u u<|uC .s (e:=qH) 84 [vb x1.1.1,vs x1.1.2] ([x1.1]:List zC) (rC (vP vB vS) rN)<|fun p6 c6=>xL .s 1 2 u (gk 0) u u<|
  fun x2 r_3 p7 c7=>zA 1 u<|wN<|yL<|qN<|jB 2 u<|uG (gv (fun _ k=>k p7 c7 r_3) [900,1] (gq [0,4])))<|uM<|yL<|qN<|jB 2 u<|uG (gv (fun _ k=>k p5 c5 r_2) [900,1] (gq [1,2])))<|xF<|uP<|uS<|xD<|
  qI (gv (fun _ k=>k p5 c5 r_2) [900,1] (gq [0])))<|fun s1 _ k p4 c4 r_1=>k<|zJ<|zA 1 u<|yU 1 0 u u<|wD zHF u (cq [0])<|fun r1 _ k p8 c8 r_4=>k<|zA 1 u<|zL<|qP<|yU 2 0 u u<|
  yY u u (fun _ k=>k p8 c8) [] (gq [0])
abbrev zXH:=@Cn.mk 45 0 _ @zQe
theorem zK5{y0:List zC}{y1:List zC}: zP qd prog 81 [sv p1 y0 c1,sv p2 y1 c2] [] [Rl qH p1 c1 y0,Rl qH p2 c2 y1] (zEj y0 y1) fun r K=>K (vb r) [] [] :=
 zO call81 func81 u fun X=>jA 1 u<|zS<|jA 5 u<|zV u (jA 1 u<|qP<|yX<|yY u u kk [] d)<|jC<|zS<|jA 3 u<|zZ<|
  wP (fun s1 K=>K [0,1,12] [] [0,1] [(13,vi s1)] []) (gv kk [] (gq [0,1]))<|fun s1 _ k=>k<|jA 1 u<|zS<|zV u (jC<|zS<|zZ<|jA 2 u<|tB [] [] 9<|
  qB 7 [0,1] u<|jdi 2 0 u u u u<|fun x1 b1 o1=>jdl 3 true tH u (gk 0) u<|qB 3 [4,5] u<|jdi 6 2 u u u u<|fun x2 b2 o2=>jdl 7 true tH u (gk 0) u<|yR 8 (vb (!(x1==x2))) u<|wI<|qN<|zV u (
  jA 1 u<|qP<|jbr<|yX<|jlr<|jbr<|yX<|yY u u kk [] d)<|uM<|yL<|qN<|jB 2 u<|uG (gv kk [] (gq [2,3])))<|xF<|uP<|uS<|xD<|qN<|jA 1 u<|qP<|yY u u kk [] d
abbrev zP5:=@Cn.mk 81 0 _ @zK5
theorem zVd{y0:zR}{y1:zR}: wL qd prog 80 [.agg (zNN y0 p1 c1).toArray,pt b1 0] [bx b1 93 (zNN y1 p2 c2)] (zPG y0 p1 c1 (zPG y1 p2 c2 [])) (zLc y0 y1) fun L r K=>K (vb r) L [] :=
 zO call80 func80 u fun X=>zJ<|vH .s u<|fun b2=>zA 1 u<|zL<|wR (fun s1 K=>K [] [(1,[])] [1] [(3,vb s1)] []) (vM<|qC 1 u<|qJ 1 u u u<|zA 1 u<|jsg 6 u (qC 4 u<|wW 1 2 u u u<|
  qC 4 u<|wW 0 2 u u u<|qD (vb ((a4 y0)==(a4 y1)))<|qD (vb ((a4 y0)==(a4 y1)))<|zA 1 u<|jsg 13 u (qC 3 u<|qJ 1 u u u<|qC 3 u<|qJ 0 u u u<|wD zK5 u (cq [0,1])<|
  fun r1 _ k=>k<|qD (vb r1)<|zA 1 u<|wN<|qI (gv kk [0,901] (gq [1])))<|zA 5 u<|qD (vb false)<|zA 1 u<|wN<|qI (gv kk [0,901] (gq [1])))<|zA 5 u<|qD (vb false)<|zA 6 u<|qD (vb false)<|zA 1 u<|wN<|
  qI (gv kk [0,901] (gq [1])))<|fun s1 _ k=>k<|qP<|yY u u kk [0] d
abbrev zVZ:=@Cn.mk 80 0 _ @zVd
attribute [instance] zFa zVg zXH zP5 zVZ
theorem zI1{y0:List zR}{y1:zR}: wL qd prog 79 [sv p1 y0 c1,.func (.func 80) #[] #[pt b1 0]] [bx b1 93 (zNN y1 p2 c2)] (Rl yT p1 c1 y0::(zPG y1 p2 c2 [])) (zCT y0 y1) fun L r K=>K (vi r) L [] :=
 zO call79 func79 u fun X=>hI 0 2 1 (fun(s1:Int) K=>K [0,1,7] [] [0,1] [(8,vi s1)] [])<|
 au
abbrev zIU:=@Cn.mk 79 1 _ @zI1
attribute [instance] zIU
theorem zHM{y0:List zR}{y1:zR}: wL qd prog 39 [sv p1 y0 c1,.func (.func 80) #[] #[pt b1 0]] [bx b1 93 (zNN y1 p2 c2)] (Rl yT p1 c1 y0::(zPG y1 p2 c2 [])) (zAe y0 y1) fun L r K=>K (vb r) L [] :=
 zO call39 func39 u fun X=>
 au
abbrev zHY:=@Cn.mk 39 0 _ @zHM
attribute [instance] zHY
theorem zYI{y0:zR}: zP qd prog 40 [.agg (zNN y0 p1 c1).toArray] [] (zPG y0 p1 c1 []) (zJK y0) fun r K=>∀ b1 p2 c2,K (.func (.func 80) #[] #[pt b1 0]) [bx b1 93 (zNN r p2 c2)] (zPG r p2 c2 []) :=
 zO call40 func40 u fun X=>
 au
abbrev zXy:=@Cn.mk 40 0 _ @zYI
theorem zJz{y0:List zC}{y1 y2:Int}: zP qd prog 78 [sv p1 y0 c1,vi y1,vi y2] [r_1] [Al qH 84 r_1 p1 c1 y0] (zEH y0 y1 y2) fun r K=>∀ p2 c2 r_2,K (sv p2 r c2) [[],r_2] [Al qH 84 r_2 p2 c2 r] :=
 zO call78 func78 u fun X=>jgd (fun _ h=>delM_ok h)<|fun hc=>jme (z78 hc)<|jAc 0 u<|fun hle hmx hp=>
  zJ<|zA 1 u<|zL<|zJ<|zA 5 u<|jv (fun h=>r_slC (E.n qH) h u u u u hc.1 hc.2.1 hc.2.2 (Int.ofNat_le.2 hle) (by kernel_rfl))<|zL<|zS<|zJ<|zA 3 u<|zL<|
  jsp (b:=y1==y2) 16 u (fun hb=>jct u<|jme (z8p hc hb)<|zJ<|zA 2 u<|zL<|qP<|yX<|yY u u (fun _ k=>k p1 c1 r_1) [900,0] ⟨gk 0,d⟩) (fun hb=>jcf u<|uM<|qN<|
  zJ<|zA 3 u<|zL<|tB [] [] 8<|qB 6 [0,1] u<|tA 2 u (fun h=>r_slP (E.n qH) h u u (hpp hp) hc.1 (by omega) (by kernel_rfl))<|qB 3 [3,4] u<|tA 5 u (fun h=>r_slV (E.n qH) h u u (by omega) hc.2.2 hle (by kernel_rfl))<|
  qQ 6<|jaD (.f u) 0 0 u (by omega) (by omega) (fun b o hb hk=>z74 hb (Uk hk hle)) u u u<|fun r_2=>qU<|qB 0 [7] u<|wI<|qN<|
  zJ<|zA 4 u<|jv (fun h=>r_slW (E.n qH) h u u u (Int.natCast_nonneg _) (by omega) (Int.ofNat_le.2 hle) (by kernel_rfl))<|jcv .s 0 0 ((false,[]):zC) (.agg k0) u (vwP (hpp hp) (Int.natCast_nonneg _) (by rw[z2W hc];omega) (by rw[z2W hc];exact hle) (by rw[z2W hc];omega)) u (vP vB vS)<|
  fun r_3=>zL<|zJ<|zA 2 u<|zL<|qP<|xR 6 (sv p1 (List.take y1.toNat y0++List.drop y2.toNat y0) c1) u (del_hd hc)<|yY u u (fun _ k=>k p1 c1 r_3) [900,0] ⟨gP (gk 0) _ (z9c (by omega) (by omega)),d⟩)
abbrev zPA:=@Cn.mk 78 0 _ @zJz
theorem zST{y0:zR}: zP qd prog 38 [.agg (zNN y0 p1 c1).toArray] [] (zPG y0 p1 c1 []) (zEZ y0) fun r K=>∀ p2 c2,K (sv p2 r c2) [] [Rl yT p2 c2 r] :=
 zO call38 func38 u fun X=>zJ<|vH .s u<|fun b1=>zA 1 u<|zL<|zJ<|zA 1 u<|uA yT 93 <|zL<|zS<|zJ<|qC 3 u<|qJ 0 u u u<|zA 2 u<|zL<|zZ<|
  wP (fun s1 K=>∀ p2 c2 r_1,K [1,8,9] [(1,r_1)] [1] [(3,sv p2 s1.1 c2),(10,vi s1.2)] [Al yT 93 r_1 p2 c2 s1.1]) (gv (fun _ k=>k none 0 []) [0,1] (gq [0,1]))<|
  fun s1 _ k p2 c2 r_1=>k<|jA 1 u<|zS<|zV u (jC<|zS<|zZ<|zJ<|zA 1 u<|yK 1 u u u<|fun x1 b2 o1=>yS true tH (gk 0) u<|vD .s (.agg k0)<|fun b3=>zA 1 u<|wA .s 2 u u u<|zL<|zJ<|qC 3 u<|
  qJ 0 u u u<|wD zEo u (cq [2])<|fun r1 _ k p3 c3 r_2=>k<|zA 3 u<|qK .s [3] [] zJz u u u (cq [0])<|fun r2 _ k p4 c4 r_3=>k<|zA 1 u<|zL<|zJ<|zA 1 u<|qC 4 u<|
  wW 0 2 u u u<|wD zEG u d<|fun r3 _ k=>k<|uC .s (e:=qH) 84 [vb r3.1,vs r3.2] ([r3]:List zC) (rC (vP vB vS) rN)<|fun p5 c5=>xL .s 4 1 u (gk 0) u u<|fun x2 r_4 p6 c6=>yU 4 0 u u<|
  wD zHF u (cq [0])<|fun r4 _ k p7 c7 r_5=>k<|zA 1 u<|zL<|vM<|zA 2 u<|wW 2 2 u u u<|wD zEG u d<|fun r5 _ k=>k<|qD (.agg #[vs [],vb true,vi 0,sv p7 r4 c7,vb r5.1,vs r5.2])<|
  yU 5 0 u u<|uC .s (e:=yT) 93 [vs [],vb true,vi 0,sv p7 r4 c7,vb r5.1,vs r5.2] ([([],true,0,r4,r5)]:List zR) (rC (vP vS (vP vB (vP vI (vP (vL (gk 0)) (vP vB vS))))) rN)<|fun p8 c8=>xL .s 1 9 u (gk 0) u u<|
  fun x3 r_6 p9 c9=>zA 1 u<|wN<|yL<|qN<|jB 2 u<|uG (gv (fun _ k=>k p9 c9 r_6) [0,1] (gq [0,11])))<|xF<|uP<|uS<|xD<|qN<|jA 2 u<|qP<|yU 1 0 u u<|yY u u (fun _ k=>k p2 c2) [] (gq [0])
abbrev zSG:=@Cn.mk 38 0 _ @zST
attribute [instance] zXy zPA zSG
theorem zQ6{y0:zI}: zP qd prog 44 [.agg (vJ y0 p1 c1 p2 c2 p3 c3).toArray] [] (vO y0 p1 c1 p2 c2 p3 c3 []) (zJw y0) fun r K=>K (vb r) [] [] :=
 zO call44 func44 u fun X=>hD 8 [] [0,2] (.l [0,1,2] (.f 3 (.f 4 (.l [5] .e))))<|hI 0 2 1 (fun(s1:Int) K=>K [1,8,9] [] [1,0,2] [(10,vi s1)] [])<|hI 0 6 1 (fun(s2:Int) K=>K [1,8,9,10,18,19] [(1,.r [])] [3,0,4,5] [(20,vi s2)] [])<|
 au
abbrev zW3:=@Cn.mk 44 0 _ @zQ6
theorem zYV{y0:zI}: zP qd prog 11 [.agg (vJ y0 p1 c1 p2 c2 p3 c3).toArray] [] (vO y0 p1 c1 p2 c2 p3 c3 []) (zKt y0) fun r K=>K (vb r) [] [] :=
 zO call11 func11 u fun X=>zJ<|vH .s u<|fun b1=>zA 1 u<|zL<|jjn (fun s1 K=>K [(2,vb s1)] [[]] []) (jdS [] [0] 15<|xV 0 0 3 u u u u<|qQ 1<|
  qK (.f u) [] [] zE1 u u u (cq [0,1,2])<|fun r1 _ k=>k<|qU<|qB 11 [2,3] u<|jsg 6 u (xV 4 0 3 u u u u<|qQ 5<|qK (.f u) [] [] zQ6 u u u (cq [0,1,2])<|fun r2 _ k=>k<|qU<|
  yR 6 (vb r2) u<|qB 7 [7] u<|jsg 10 u (xV 8 0 3 u u u u<|xV 9 0 3 u u u u<|qQ 10<|qK (.f u) [] [] zQe u u u (cq [0,1,2])<|fun r3 _ k p4 c4=>k<|qU<|qQ 11<|
  qK (.f u) [] [] zPF u u u (cq [1,2,3,0])<|fun r4 _ k p5 c5=>k<|qU<|qQ 12<|qK (.f u) [] [] zLv u u u (cq [0])<|fun r5 _ k=>k<|qU<|yR 13 (vb r5) u<|qB 0 [14] u<|wI<|
  qI (gv kk [900] d))<|qB 2 [8,9,10,11,12] u<|yR 13 (vb false) u<|qB 0 [14] u<|wI<|qI (gv kk [900] d))<|qB 9 [4,5] u<|yR 6 (vb false) u<|qB 2 [7,8,9,10,11,12] u<|yR 13 (vb false) u<|
  qB 0 [14] u<|wI<|qI (gv kk [900] d))<|fun s1 _ k=>k<|qP<|yY u u kk [] d
abbrev zXr:=@Cn.mk 11 0 _ @zYV
theorem zYJ{y0:zI}: zP qd prog 41 [.agg (vJ y0 p1 c1 p2 c2 p3 c3).toArray] [] (vO y0 p1 c1 p2 c2 p3 c3 [Tb prog "internal/strconv.uint64pow10" .u64 Lib.pow10Tab]) (zKu y0) fun r K=>K (vs r) [] [] :=
 zO call41 func41 u fun X=>hI 0 3 3 (fun(s1:Int) K=>K [1] [] [0,1,2,3] [(3,vi s1)] [])<|
 au
abbrev zXj:=@Cn.mk 41 0 _ @zYJ
attribute [instance] zW3 zXr zXj
set_option maxHeartbeats 2000000 in
theorem zTI{y0:zI}: zP qd prog 9 [.agg (vJ y0 p1 c1 p2 c2 p3 c3).toArray] [] (vO y0 p1 c1 p2 c2 p3 c3 [Tb prog "internal/strconv.uint64pow10" .u64 Lib.pow10Tab]) (zHr y0) fun r K=>∀ p4 c4 p5 c5 p6 c6,K (.tuple #[.agg (vJ r.1 p4 c4 p5 c5 p6 c6).toArray,vi r.2]) [] (vO r.1 p4 c4 p5 c5 p6 c6 []) :=
 zO call9 func9 u fun X=>hD 12 [] [3,4] (.l [0,1,2] (.f 3 (.f 4 .e)))<|hI 2 5 1 (fun(s1:(List zR)) K=>∀ p7 c7 r_2,K [2,5] [(0,.r []),(2,.r r_2),(3,.c [(1,sv p7 s1 c7)])] [0,2,6] [] [Al yT 93 r_2 p7 c7 s1])<|hI 0 6 2 (fun(s2:Int×(List zR)) K=>∀ p8 c8 r_3,K [2,5] [(0,.r []),(2,.r r_3),(3,.c [(1,sv p8 s2.2 c8)])] [0,2,6] [(6,vi s2.1)] [Al yT 93 r_3 p8 c8 s2.2])<|hI 0 10 1 (fun(s3:Int×(List zR)) K=>∀ p11 c11 r_4,K [2,5,6,36,37] [(2,.r r_4),(3,.c [(1,sv p11 s3.2 c11)])] [0,3,4,5] [(38,vi s3.1)] [Al yT 93 r_4 p11 c11 s3.2])<|
 au
abbrev zT8:=@Cn.mk 9 0 _ @zTI
theorem zOh{y0:Int}: zP qd prog 128 [.slice none 0 0,vi y0] [] [] (zKP y0) fun r K=>∀ p1 c1 r_1,K (sv p1 r c1) [r_1] [Al qH 84 r_1 p1 c1 r] :=
 zO call128 func128 u fun X=>uA qH 84<|jA 1 u<|wR (fun s1 K=>K [0,1] [] [0] [] []) (jA 2 u<|zV u (vM<|jno)<|uM<|qI (gv kk [0] (gq [0])))<|fun s1 _ k=>k<|zS<|zJ<|zA 2 u<|
  jv (v:=vi ((0:Nat):Int)) (fun h=>r_cap h u underlying59)<|zA 5 u<|zL<|jA 2 u<|zV u (vM<|zA 2 u<|jv (v:=vi ((0:Nat):Int)) (fun h=>r_cap h u underlying59)<|
  jv (v:=.slice none 0 0) (fun h=>r_slnil (e:=qH) h u u (by kernel_rfl))<|zA 1 u<|jaz .s (e:=qH) (h2:=underlying3) 0 0 84 ((false,[]):zC) (.agg k0) u (vP vB vS) u u<|
 au
)<|
 au
abbrev zOd:=@Cn.mk 128 0 _ @zOh
attribute [instance] zT8 zOd
theorem zOc{y0:List (List zC)}: zP qd prog 86 [sv p1 y0 c1] [] [Rl (zX qH) p1 c1 y0] (zEL y0) fun r K=>∀ p2 c2,K (sv p2 r c2) [] [Rl qH p2 c2 r] :=
 zO call86 func86 u fun X=>jA 1 u<|jA 1 u<|wR (fun s1 K=>K [0] [] [0] [(3,vi s1)] []) (jA 3 u<|zZ<|
  wP (fun s2 K=>K [0,9,10] [] [0] [(3,vi s2.1),(11,vi s2.2)] []) (gv kk [] (gq [0]))<|fun s2 _ k=>k<|jA 1 u<|zS<|zV u (jC<|zS<|zZ<|zJ<|
  yK 0 u u u<|fun x1 b1 o1=>yS false oL (gk 0) u<|fun p2 c2=>zA 1 u<|zL<|jA 5 u<|jA 2 u<|zV u (vM<|jno)<|
 au
)<|
 au
)<|hI 0 11 1 (fun(s3:(List zC)×Int) K=>∀ p4 c4 r_2,K [25,26] [(0,.r r_2)] [1] [(6,sv p4 s3.1 c4),(27,vi s3.2)] [Al qH 84 r_2 p4 c4 s3.1])<|
 au
abbrev zOs:=@Cn.mk 86 0 _ @zOc
theorem zQQ{y0:List zC}{y1:zC}: wL qd prog 90 [sv p1 y0 c1,pt b1 0] [bx b1 84 [vb y1.1,vs y1.2]] [Rl qH p1 c1 y0] (zFL y0 y1) fun L r K=>K (vb r) L [] :=
 zO call90 func90 u fun X=>
 au
abbrev zP9:=@Cn.mk 90 0 _ @zQQ
attribute [instance] zOs zP9
theorem zF6{y0:List (List zC)}{y1:zC}: wL qd prog 129 [sv p1 y0 c1,.func (.func 90) #[] #[pt b1 0]] [bx b1 84 [vb y1.1,vs y1.2]] [Rl (zX qH) p1 c1 y0] (zAw y0 y1) fun L r K=>K (vi r) L [] :=
 zO call129 func129 u fun X=>hI 0 2 1 (fun(s1:Int) K=>K [0,1,7] [] [0] [(8,vi s1)] [])<|
 au
abbrev zFb:=@Cn.mk 129 0 _ @zF6
attribute [instance] zFb
theorem zEt{y0:List (List zC)}{y1:zC}: wL qd prog 89 [sv p1 y0 c1,.func (.func 90) #[] #[pt b1 0]] [bx b1 84 [vb y1.1,vs y1.2]] [Rl (zX qH) p1 c1 y0] (zAb y0 y1) fun L r K=>K (vb r) L [] :=
 zO call89 func89 u fun X=>
 au
abbrev zEs:=@Cn.mk 89 0 _ @zEt
attribute [instance] zEs
theorem zRx{y0:zC}{y1:Bool}{y2:List (List zC)}: wL qd prog 88 [.agg #[vb y0.1,vs y0.2],pt b1 0,pt b2 0] [bx b1 4 [vb y1],bx b2 56 [sv p1 y2 c1]] [Rl (zX qH) p1 c1 y2] (zE8 y0 y1 y2) fun L r K=>K (vb r) L [] :=
 zO call88 func88 u fun X=>hI 1 1 0 (fun(s1:Bool) K=>K [] [(2,.r [])] [0] [(4,vb s1)] [])<|
 au
abbrev zRu:=@Cn.mk 88 0 _ @zRx
attribute [instance] zRu
theorem zCy{y0:List zC}{y1:Bool}{y2:List (List zC)}: wL qd prog 104 [sv p1 y0 c1,.func (.func 88) #[] #[pt b1 0,pt b2 0]] [bx b1 4 [vb y1],bx b2 56 [sv p2 y2 c2]] [Rl qH p1 c1 y0,Rl (zX qH) p2 c2 y2] (zBD y0 y1 y2) fun L r K=>K (vi r) L [] :=
 zO call104 func104 u fun X=>hI 0 2 1 (fun(s1:Int) K=>K [0,1,7] [] [0,1] [(8,vi s1)] [])<|
 au
abbrev zGK:=@Cn.mk 104 1 _ @zCy
attribute [instance] zGK
theorem zFn{y0:List zC}{y1:Bool}{y2:List (List zC)}: zP qd prog 87 [sv p1 y0 c1,.func (.func 88) #[] #[pt b1 0,pt b2 0]] [r_1,bx b1 4 [vb y1],bx b2 56 [sv p2 y2 c2]] [Al qH 84 r_1 p1 c1 y0,Rl (zX qH) p2 c2 y2] (zBB y0 y1 y2) fun r K=>∀ p3 c3,K (sv p3 r c3) [[],bx b1 4 [vb y1],bx b2 56 [sv p2 y2 c2]] [Rl qH p3 c3 r] :=
 zO call87 func87 u fun X=>jA 1 u<|zJ<|zA 2 u<|qK .s [1,2] [0] zCy rfl u u ⟨cl 0 0,ck 1,d⟩<|fun r1 _ k=>k<|zA 1 u<|zL<|zS<|jA 2 u<|zV u (
 au
)<|jC<|
  wR (fun s1 K=>∀ r_2,K [] [(0,r_2)] [1] [(0,.slice p1 (List.length y0) c1),(5,vi s1.2)] [Ar qH 84 r_2 p1 c1 (List.length y0) s1.1]) (hI 0 5 2 (fun(s2:(List zC)×Int×Int) K=>∀ r_3,K [1] [(0,.r r_3)] [1] [(0,.slice p1 (List.length y0) c1),(5,vi s2.2.1),(6,vi s2.2.2)] [Ar qH 84 r_3 p1 c1 (List.length y0) s2.1])<|
 au
)<|fun s1 _ k r_2=>k<|zJ<|zA 2 u<|jsV 0 u u u<|fun u1 p3 c3 f1=>jcv .s 0 0 (false,[]) (.agg k0) u f1 u (vP vB vS)<|
 au
abbrev zFo:=@Cn.mk 87 0 _ @zFn
attribute [instance] zFo
theorem zKk{y0:zFE}{y1:Int}{y2:Bool}: zP qd prog 46 [.agg (zUR y0 p1 c1 p2 c2 p3 c3 p4 c4 p5 c5 p6 c6).toArray,vi y1,vb y2] [] (zTu y0 p1 c1 p2 c2 p3 c3 p4 c4 p5 c5 p6 c6 [Pt (vF 64 (zH .u8)) 5 0 yC]) (zD5 y0 y1 y2) fun r K=>∀ p7 c7,K (.tuple #[sv p7 r.1 c7,vi r.2]) [] [Rl qH p7 c7 r.1] :=
 zO call46 func46 u fun X=>
 au
abbrev zUT:=@Cn.mk 46 0 _ @zKk
theorem zZ0:zP False prog 12 [] [] [Tb prog "strings.asciiSpace" .u8 Lib.asciiSpaceTab,Pt (vF 4 qX) 1 0 zBE,Wt 2,Tb prog "internal/strconv.uint64pow10" .u64 Lib.pow10Tab,Pt (vF 64 (zH .u8)) 5 0 yC] (zDF) fun r K=>K (vb r) [] [] :=
 zO call12 func12 u fun X=>jA 1 u<|zJ<|wD zJU u (cq [0,1,2,3])<|fun r1 _ k p1 c1 p2 c2 p3 c3=>k<|zA 4 u<|vD .s (.agg k1)<|fun b1=>wA .s 0 u u u<|zA 2 u<|zL<|zJ<|wW 0 3 u u u<|
  qD (.agg #[vi 1,vi 1])<|wD zPD u (cq [0,1,2,7])<|fun r2 _ k p4 c4 p5 c5 p6 c6 p7 c7 p8 c8 p9 c9=>k<|zA 3 u<|
  vD .s (.agg k2)<|fun b2=>wA .s 1 u u u<|zA 1 u<|zL<|zJ<|wW 1 7 u u u<|
  wD zKk u (cq [0,1,2,3,4,5,13])<|fun r3 _ k p10 c10=>k<|zA 5 u<|zL<|zJ<|wW 1 7 u u u<|wD zKk u (cq [1,2,3,4,5,6,14])<|fun r4 _ k p11 c11=>k<|zA 5 u<|zL<|
  wR (fun s1 K=>K [] [(0,[]),(1,[])] [11,12,13,14,15] [(0,vb s1)] []) (vM<|zA 3 u<|jsg 33 u (zA 2 u<|qD (vb (r2.2==0))<|zA 1 u<|jsg 37 u (
  zA 2 u<|qD (vb (r3.2==0))<|zA 1 u<|jsg 41 u (zA 3 u<|qD (vb ((len r3.1)==2))<|zA 1 u<|jsg 46 u (zA 1 u<|yK 1 u u u<|fun x1 b3 o1=>yS true tH (gk 0) u<|qD (.agg #[vb true,vs [113]])<|
  qD (vb (x1==(true,[113])))<|qD (vb (x1==(true,[113])))<|zA 1 u<|jsg 53 u (zA 2 u<|qD (vb (r4.2==0))<|zA 1 u<|jsg 57 u (zA 3 u<|qD (vb ((len r4.1)==4))<|zA 1 u<|wN<|
  qI (gv kk [900,901] (gq [12,13,14,15,16])))<|zA 3 u<|qD (vb false)<|zA 1 u<|wN<|qI (gv kk [900,901] (gq [12,13,14,15,16])))<|zA 2 u<|qD (vb false)<|zA 4 u<|qD (vb false)<|zA 1 u<|wN<|
  qI (gv kk [900,901] (gq [12,13,14,15,16])))<|zA 5 u<|qD (vb false)<|zA 3 u<|qD (vb false)<|zA 4 u<|qD (vb false)<|zA 1 u<|wN<|qI (gv kk [900,901] (gq [11,12,13,14,15])))<|zA 3 u<|qD (vb false)<|
  zA 6 u<|qD (vb false)<|zA 3 u<|qD (vb false)<|zA 4 u<|qD (vb false)<|zA 1 u<|wN<|qI (gv kk [900,901] (gq [11,12,13,14,15])))<|zA 2 u<|qD (vb false)<|zA 4 u<|qD (vb false)<|zA 6 u<|qD (vb false)<|
  zA 3 u<|qD (vb false)<|zA 4 u<|qD (vb false)<|zA 1 u<|wN<|qI (gv kk [900,901] (gq [11,12,13,14,15])))<|zA 2 u<|qD (vb false)<|zA 3 u<|qD (vb false)<|zA 4 u<|qD (vb false)<|zA 6 u<|qD (vb false)<|
  zA 3 u<|qD (vb false)<|zA 4 u<|qD (vb false)<|zA 1 u<|wN<|qI (gv kk [900,901] (gq [11,12,13,14,15])))<|fun s1 _ k=>k<|qP<|yY u u kk [] d
abbrev zZw:=@Cn.mk 12 0 _ @zZ0
attribute [instance] zUT zZw
set_option maxHeartbeats 2000000 in
theorem zNr{y0:List Int}{y1:zD}: zP False prog 3 [sv p1 y0 c1,vs y1] [] [Rl (zH .i64) p1 c1 y0,Tb prog "strings.asciiSpace" .u8 Lib.asciiSpaceTab,Pt (vF 4 qX) 1 0 zBE,Wt 2,Tb prog "internal/strconv.uint64pow10" .u64 Lib.pow10Tab,Pt (vF 64 (zH .u8)) 5 0 yC] (zGT y0 y1) fun r K=>K (vb r) [] [] :=
 zO call3 func3 u fun X=>jA 1 u<|zJ<|zA 1 u<|wD zY4 u (cq [0])<|fun r1 _ k b1 p2 c2=>k<|zA 1 u<|zL<|zJ<|zA 1 u<|wD zJU u (cq [2,3,4,5])<|fun r2 _ k p3 c3 p4 c4 p5 c5=>k<|zA 4 u<|
  vD .s (.agg k1)<|fun b2=>wA .s 1 u u u<|zA 2 u<|zL<|
  jjoK (fun s1 K=>∀ p6 c6 p7 c7 p8 c8,K [6] [(0,[]),(1,bx b2 29 [sv p6 s1.1 c6,sv p7 s1.2.1 c7,sv p8 s1.2.2 c8])] [5,6,7,8,9] [] [Rl tN p6 c6 s1.1,Rl yT p7 c7 s1.2.1,Rl zB0 p8 c8 s1.2.2]) (
  wR (fun s2 K=>K [5,6] [(0,bx b1 65 [sv p2 r1.1 c2,vi s2.2])] [3,0,1,2,5,6,7,8,9] [(52,vb s2.1)] []) (
 au
)<|
  fun s2 _ k=>k<|zV u (zJ<|zA 1 u<|qK .s [0] [] zQk u u u (cq [0])<|fun r4 _ k p9 c9 p10 c10 p11 c11=>k<|wD zNn u (cq [0,1,2,8,10])<|fun r5 _ k=>k<|zA 5 u<|zL<|zJ<|zA 1 u<|
  wD zJU u (cq [7,8,9,10])<|fun r6 _ k p12 c12 p13 c13 p14 c14=>k<|hP 4 6 0 (fun K=>K [6,11] [(0,.r [])] [7,8,9,0,1,2,10,11,12,13,14] [(70,vb ((r5.2 != 0)||(r6.2.2 != 0)))] [])<|
 au
)<|
 au
)<|hI 1 11 0 (fun(s3:Bool) K=>K [14,15,17] [(1,.r [])] [1,2,3,7,8,9,10,11] [(97,vb s3)] [])<|hI 1 12 0 (fun(s4:Bool) K=>K [] [(2,.r [])] [3,4,5,6,7] [(4,vb s4)] [])<|hI 2 13 1 (fun(s5:Unit) K=>K [] [(2,.r [])] [3,4,5,6,7] [] [])<|hI 0 14 1 (fun(s6:Int) K=>K [14,119,120] [] [0,1,2,3,4,5,6,7,8] [(121,vi s6)] [])<|hI 0 20 2 (fun(s7:Int) K=>K [14,20,119,120,121] [(3,.r [])] [7,8,9,10,0,1,2,3,4,5,11,12,13,14,15] [(22,vi s7)] [])<|hI 0 27 1 (fun(s8:Int) K=>K [14,20,22,119,120,121,147,148] [] [1,0,2,3,4,5,6,7,8,9,10,11,12,13,14,15] [(149,vi s8)] [])<|hI 1 29 0 (fun(s9:Bool) K=>K [14,20,22,119,120,121,147,148,149] [] [2,3,4,5,6,7,8,9,10,11,12,13,14,15,16,17] [(163,vb s9)] [])<|
 au
abbrev z4o:=@Cn.mk 3 0 _ @zNr
end Go.Proofs.YtgdgcdmdogdmgaaGreatDoor
