/- A part. Conditions: none. -/
import Derived.Test.YtgdgcdmdogdmgaaGreatDoorWalk2
namespace Go.Proofs.YtgdgcdmdogdmgaaGreatDoor
open Go Go.GD Go.Proofs.Tryz
set_option autoImplicit false
set_option linter.unusedVariables false
set_option maxRecDepth 100000
set_option linter.defProp false
variable {qd:Prop}
variable {yl1:Nat}{p1 p2 p3 p4 p5 p6 p7 p8 p9:Option Addr}{c1 c2 c3 c4 c5 c6 c7 c8 c9:Nat}{b1 b2 b3 b4 b5 b6 b7 b8 b9 b10 b11:Nat}{r_1 r_2 r_3 r_4 r_5 r_6:zG}
theorem zQC{y0:qE}{y1:Int}: zP qd prog 264 [.agg (yD y0 p1 c1).toArray,.int .u64 y1] [] [Rl wK p1 c1 y0.2] (zCU y0 y1) fun r K=>K (.int .u64 r) [] [] :=
 zO call264 func264 u fun X=>zJ<|vH .s u<|fun b1=>zA 1 u<|zL<|jA 1 u<|zS<|zJ<|qC 1 u<|qJ 0 u u u<|zA 2 u<|zL<|zZ<|
  wP (fun s1 K=>K [1,9,10] [(0,[])] [0] [(5,.int .u64 s1.1),(11,vi s1.2)] []) (gv kk [900] (gq [0]))<|fun s1 _ k=>k<|jA 1 u<|zS<|
  zV u (jC<|zS<|zZ<|zJ<|yK 0 u u u<|fun x1 b2 o1=>yS true zUs (gk 0) u<|vD .s (.agg #[vi 0,vi 0])<|fun b3=>wA .s 1 u u u<|zL<|jdS [] [1] 11<|qB 9 [0,1] u<|wE 2 0 u u<|
  yA 3 1 u u u u<|tE fun x2 h1=>tA 4 u (fun h=>r_shrK h u u h1)<|qB 5 [5] u<|wE 6 1 u u<|yA 7 1 u u u u<|tE fun x3 h2=>tA 8 u (fun h=>z33 h u u h2)<|qB 0 [9,10] u<|wI<|
 au
)<|
 au
abbrev zQ3:=@Cn.mk 264 0 _ @zQC
attribute [instance] zKV zTV zQ3
theorem zUh{y0:qE}{y1:Int}: zP qd prog 292 [.agg (yD y0 p1 c1).toArray,.int .u64 y1] [] [Rl wK p1 c1 y0.2] (zG0 y0 y1) fun r K=>K (vb r) [] [] :=
 zO call292 func292 u fun X=>
 au
abbrev zU2:=@Cn.mk 292 0 _ @zUh
theorem zTz{y0:Int}: zP qd prog 262 [.int .u64 y0] [] [Pt (vF 64 (zH .u8)) 5 0 yC] (zET y0) fun r K=>∀ p1 c1,K (sv p1 r c1) [] [Rl (zH .i64) p1 c1 r] :=
 zO call262 func262 u fun X=>hR 3 0 (zH .i64) 3<|hI 0 2 2 (fun(s1:Int×(List Int)) K=>∀ p1 c1 r_1,K [] [(0,.r r_1)] [1] [(0,.int .u64 s1.1),(3,sv p1 s1.2 c1)] [Al (zH .i64) 3 r_1 p1 c1 s1.2])<|
 au
abbrev zUe:=@Cn.mk 262 0 _ @zTz
theorem zUS{y0:List Int}: zP qd prog 263 [sv p1 y0 c1] [] [Rl (zH .i64) p1 c1 y0] (zFy y0) fun r K=>K (.int .u64 r) [] [] :=
 zO call263 func263 u fun X=>jA 1 u<|jA 1 u<|zS<|jA 3 u<|zZ<|wP (fun s1 K=>K [6,7] [] [0] [(3,.int .u64 s1.1),(8,vi s1.2)] []) (gv kk [] (gq [0]))<|fun s1 _ k=>k<|jA 1 u<|
  zS<|zV u (jC<|zS<|zZ<|zJ<|yK 0 u u u<|fun x1 b1 o1=>yS false oI (gk 0) u<|zA 1 u<|zL<|vM<|zA 2 u<|tE fun x2 h1=>jv (fun h=>z33 h u u h1)<|
 au
)<|
 au
abbrev zUb:=@Cn.mk 263 0 _ @zUS
theorem zTe{y0:qE}: zP qd prog 315 [.agg (yD y0 p1 c1).toArray] [] [Rl wK p1 c1 y0.2] (zFU y0) fun r K=>K (.int .u64 r) [] [] :=
 zO call315 func315 u fun X=>zJ<|vH .s u<|fun b1=>zA 1 u<|zL<|zJ<|qC 0 u<|qJ 0 u u u<|tE fun x1 h1=>jv (fun h=>z33 h u u h1)<|
 au
abbrev zTa:=@Cn.mk 315 0 _ @zTe
attribute [instance] zU2 zUe zUb zTa
theorem zUU{y0:qE}{y1:Int}: zP qd prog 295 [.agg (yD y0 p1 c1).toArray,.int .u64 y1] [] [Rl wK p1 c1 y0.2] (zES y0 y1) fun r K=>K (.int .u64 r) [] [] :=
 zO call295 func295 u fun X=>hD 1 [] [0] (.l [0,2,3,5,6] (.f 1 (.f 4 (.f 7 (.l [8] (.f 9 (.l [10,11] .e)))))))<|
 au
abbrev zU1:=@Cn.mk 295 0 _ @zUU
attribute [instance] zU1
theorem zPu{y0:Int}{y1:qE}: wL qd prog 294 [.int .u64 y0,pt b1 0] [bx b1 51 (yD y1 p1 c1)] [Rl wK p1 c1 y1.2] (zCv y0 y1) fun L r K=>K (.int .u64 r) L [] :=
 zO call294 func294 u fun X=>
 au
abbrev zPe:=@Cn.mk 294 0 _ @zPu
attribute [instance] zPe
theorem zI3{y0:Int}{y1:qE}: wL qd prog 293 [.int .u64 y0,.func (.func 294) #[] #[pt b1 0]] [bx b1 51 (yD y1 p1 c1)] [Rl wK p1 c1 y1.2] (zAz y0 y1) fun L r K=>K (.int .u64 r) L [] :=
 zO call293 func293 u fun X=>hI 0 1 2 (fun(s1:Int) K=>K [1] [] [0] [(0,.int .u64 s1)] [])<|
 au
abbrev zIK:=@Cn.mk 293 0 _ @zI3
attribute [instance] zIK
theorem zSW{y0:qE}{y1:List Int}: zP qd prog 255 [.agg (yD y0 p1 c1).toArray,sv p2 y1 c2] [] [Rl wK p1 c1 y0.2,Rl (zH .i64) p2 c2 y1,Pt (vF 64 (zH .u8)) 5 0 yC] (zCR y0 y1) fun r K=>∀ p3 c3,K (.tuple #[sv p3 r.1 c3,vi r.2]) [] [Rl (zH .i64) p3 c3 r.1] :=
 zO call255 func255 u fun X=>
 au
abbrev zSI:=@Cn.mk 255 0 _ @zSW
theorem zXn{y0:List Int}{y1:Int}: zP qd prog 317 [sv p1 y0 c1,vi y1] [] [Rl (zH .i64) p1 c1 y0] (zKq y0 y1) fun r K=>K (vb r) [] [] :=
 zO call317 func317 u fun X=>hI 1 1 0 (fun(s1:Bool) K=>K [] [] [] [(4,vb s1)] [])<|
 au
abbrev zXz:=@Cn.mk 317 0 _ @zXn
attribute [instance] zSI zXz
theorem zTt{y0:List Int}{y1:Int}: wL qd prog 316 [sv p1 y0 c1,pt b1 0] [bx b1 3 [vi y1]] [Rl (zH .i64) p1 c1 y0] (zKe y0 y1) fun L r K=>K (vb r) L [] :=
 zO call316 func316 u fun X=>
 au
abbrev zUg:=@Cn.mk 316 0 _ @zTt
attribute [instance] zUg
theorem zIN{y0:List (List Int)}{y1:Int}: wL qd prog 259 [sv p1 y0 c1,.func (.func 316) #[] #[pt b1 0]] [bx b1 3 [vi y1]] [Rl (zX (zH .i64)) p1 c1 y0] (zAy y0 y1) fun L r K=>K (vi r) L [] :=
 zO call259 func259 u fun X=>hI 0 2 1 (fun(s1:Int) K=>K [0,1,7] [] [0] [(8,vi s1)] [])<|
 au
abbrev zI2:=@Cn.mk 259 0 _ @zIN
attribute [instance] zI2
theorem zHG{y0:List (List Int)}{y1:Int}: wL qd prog 210 [sv p1 y0 c1,.func (.func 316) #[] #[pt b1 0]] [bx b1 3 [vi y1]] [Rl (zX (zH .i64)) p1 c1 y0] (zAP y0 y1) fun L r K=>K (vb r) L [] :=
 zO call210 func210 u fun X=>
 au
abbrev zHK:=@Cn.mk 210 0 _ @zHG
attribute [instance] zHK
theorem zXK{y0:List (List Int)}{y1:Int}: zP qd prog 296 [sv p1 y0 c1,vi y1] [] [Rl (zX (zH .i64)) p1 c1 y0] (zGN y0 y1) fun r K=>K (vb r) [] [] :=
 zO call296 func296 u fun X=>
 au
abbrev zW1:=@Cn.mk 296 0 _ @zXK
attribute [instance] zW1
theorem zZ6{y0:List (List Int)}: zP qd prog 256 [sv p1 y0 c1] [] [Rl (zX (zH .i64)) p1 c1 y0] (zGp y0) fun r K=>∀ p2 c2,K (sv p2 r c2) [] [Rl (zH .i64) p2 c2 r] :=
 zO call256 func256 u fun X=>hR 3 0 (zH .i64) 3<|hI 0 5 1 (fun(s1:(List Int)×Int) K=>∀ p3 c3 r_1,K [0,11] [(0,.r r_1)] [3] [(3,sv p3 s1.1 c3),(12,vi s1.2)] [Al (zH .i64) 3 r_1 p3 c3 s1.1])<|
 au
abbrev zZz:=@Cn.mk 256 0 _ @zZ6
theorem zEB{y0:List qA}: zP qd prog 91 [sv p1 y0 c1,.func (.func 149) #[] #[]] [r_1] [Al wK 166 r_1 p1 c1 y0] (zBO y0) fun r K=>∀ r_2,K (.tuple #[]) [r_2] [Ar wK 166 r_2 p1 c1 (List.length y0) r]:=⟨call91,fun A w0 r hm hO hF=>by
 have h:=zSc (qd:=qd) Go.Proofs.Tryz.sort91 (yM.prod (yM.int .i64) (yM.int .i64)) (te:=166) Tryz.isAgg166 Tryz.sizeOf166 zDB 149 (enters_of func149 (by kernel_rfl) u) (fun w x y n hn=>?_) hO hF.1.1 hm
 · change Calls prog 91 _ _ _ at h
   refine h.mono fun e w' h=>?_
   cases e with
   | returned v=>obtain⟨r',rfl,h1,h2,h3,h4⟩:=h;exact fun G k=>k r' ⟨rfl,h1,h2,⟨h3,h4.symm⟩,trivial⟩
   | panicked ch=>exact h
   | outgrown=>exact h
 · refine((zPv (qd:=True) (y0:=x) (y1:=y)).go [] w n hn (zU.start (by simp)) trivial).mono fun e w' h=>?_
   cases e with
   | returned v=>exact h _ fun⟨e1,q⟩=>⟨e1,q.e⟩
   | panicked ch=>exact h
   | outgrown=>exact h⟩
abbrev zIs:=@Cn.mk 91 1 _ @zEB
attribute [instance] zZz zIs
theorem zXS{y0:qE}: zP qd prog 250 [.agg (yD y0 p1 c1).toArray] [] [Rl wK p1 c1 y0.2] (zGP y0) fun r K=>∀ p2 c2,K (.agg (yD r p2 c2).toArray) [] [Rl wK p2 c2 r.2] :=
 zO call250 func250 u fun X=>zJ<|vH .s u<|fun b1=>vD .s (.agg k5)<|fun b2=>zL<|zJ<|wW 0 2 u u u<|wD zN7 u (cq [0])<|fun r1 _ k p2 c2=>k<|wA .s 0 u u u<|zL<|zJ<|qC 0 u<|qJ 0 u u u<|
  qD (.agg #[vi r1.1,.slice none 0 0])<|uA wK 166<|vD .s (.agg k5)<|fun b3=>wA .s 3 u u u<|zL<|
  wR (fun s1 K=>∀ p3 c3 r_1,K [2,3] [(0,[]),(2,r_1),(3,bx b3 51 [vi r1.1,sv p3 s1 c3])] [] [] [Al wK 166 r_1 p3 c3 s1]) (hI 0 4 1 (fun(s2:Int×(List qA)) K=>∀ p4 c4 r_2,K [2,3,12,13] [(0,.r []),(2,.r r_2),(3,.c [(1,sv p4 s2.2 c4)])] [1] [(14,vi s2.1)] [Al wK 166 r_2 p4 c4 s2.2])<|
 au
)<|fun s1 _ k p3 c3 r_1=>k<|zJ<|qC 1 u<|
  qJ 3 u u u<|qK .s [2] [] zEB u u u (cq [0])<|fun r2 _ k r_4=>k<|zL<|zJ<|jbL (fun q_=>[[],bx b2 51 [vi 0,.slice none 0 0],r_4,bx b3 51 [vi r1.1,.slice p3 q_ c3]]) (gk 0) u<|
 au
abbrev zWJ:=@Cn.mk 250 0 _ @zXS
attribute [instance] zWJ
theorem zOI{y0:qE}{y1:Int}: zP qd prog 200 [.agg (yD y0 p1 c1).toArray,vi y1] [] [Rl wK p1 c1 y0.2,Pt (vF 64 (zH .u8)) 5 0 yC] (zEQ y0 y1) fun r K=>∀ p2 c2,K (sv p2 r c2) [] [Rl (zH .i64) p2 c2 r] :=
 zO call200 func200 u fun X=>
 au
abbrev zTr:=@Cn.mk 200 0 _ @zOI
theorem zJi{y0:yJ}: wL qd prog 252 [pt b1 0] [bx b1 268 (yF [vi y0.1,sv p1 y0.2.1 c1] 40 y0.2.2.1 [sv p2 y0.2.2.2.1 c2,vb (a4 y0)]),r_1] [Rl (zX (zH .i64)) p1 c1 y0.2.1,Al (zX (zH .i64)) 22 r_1 p2 c2 y0.2.2.2.1] (zBk y0) fun L r K=>∀ p3 c3,K (.tuple #[sv p3 r.1 c3,vi r.2]) L [Rl (zH .i64) p3 c3 r.1] :=
 zO call252 func252 u fun X=>jA 2 u<|zJ<|zA 1 u<|uA (zH .i64) 3 <|zL<|zS<|zJ<|zA 2 u<|qC 0 u<|qJ 0 u u u<|zA 1 u<|zL<|zZ<|
  wP (fun s1 K=>∀ p3 c3 r_2,K [0,9] [(2,r_2)] [1,2] [(4,sv p3 s1.1 c3),(10,vi s1.2)] [Al (zH .i64) 3 r_2 p3 c3 s1.1]) (gv (fun _ k=>k none 0 []) [0,1,2] (gq [0,1,2]))<|
  fun s1 _ k p3 c3 r_2=>k<|jA 1 u<|zS<|zV u (jC<|zS<|zZ<|jA 2 u<|zJ<|zA 3 u<|qC 2 u<|jiL 40 u u<|fun u1 h1=>jlL 0 40 y0.2.2.1 [vi y0.1,sv p1 y0.2.1 c1] [sv p2 y0.2.2.2.1 c2,vb (a4 y0)] h1 u u<|
 au
)<|
 au
abbrev zOE:=@Cn.mk 252 0 _ @zJi
theorem zLH{y0:yJ}{y1:List Int}{y2:Int}: wL qd prog 314 [pt b1 0,sv p3 y1 c3,vi y2] [bx b1 268 (yF [vi y0.1,sv p1 y0.2.1 c1] 40 y0.2.2.1 [sv p2 y0.2.2.2.1 c2,vb (a4 y0)]),r_1] [Rl (zX (zH .i64)) p1 c1 y0.2.1,Al (zX (zH .i64)) 22 r_1 p2 c2 y0.2.2.2.1,Rl (zH .i64) p3 c3 y1] (zDg y0 y1 y2) fun L r K=>∀ p4 c4,K (sv p4 r c4) L [Rl (zH .i64) p4 c4 r] :=
 zO call314 func314 u fun X=>jA 1 u<|zJ<|zA 1 u<|uA (zH .i64) 3 <|zL<|zS<|jA 3 u<|zZ<|
  wP (fun s1 K=>∀ p4 c4 r_2,K [0,2,10,11] [(2,r_2)] [3,1,2] [(7,sv p4 s1.1 c4),(12,vi s1.2)] [Al (zH .i64) 3 r_2 p4 c4 s1.1]) (gv (fun _ k=>k none 0 []) [0,1,2] (gq [0,3,1,2]))<|
  fun s1 _ k p4 c4 r_2=>k<|jA 1 u<|zS<|zV u (jC<|zS<|zZ<|zJ<|yK 1 u u u<|fun x1 b2 o1=>yS false oI (gk 0) u<|zA 1 u<|zL<|zJ<|zA 3 u<|qC 2 u<|jiL 40 u u<|fun u1 h1=>
  jlL 0 40 y0.2.2.1 [vi y0.1,sv p1 y0.2.1 c1] [sv p2 y0.2.2.2.1 c2,vb (a4 y0)] h1 u u<|
 au
)<|
 au
abbrev zQD:=@Cn.mk 314 0 _ @zLH
attribute [instance] zTr zOE zQD
theorem zO4{y0:yJ}{y1:Int}: zP qd prog 291 [pt b1 0,vi y1] [bx b1 268 (yF [vi y0.1,sv p1 y0.2.1 c1] 40 y0.2.2.1 [sv p2 y0.2.2.2.1 c2,vb (a4 y0)]),r_1] [Rl (zX (zH .i64)) p1 c1 y0.2.1,Al (zX (zH .i64)) 22 r_1 p2 c2 y0.2.2.2.1] (zC0 y0 y1) fun r K=>∀ p3 c3 r_2,K (.tuple #[]) [bx b1 268 (yF [vi y0.1,sv p1 y0.2.1 c1] 40 r.1 [sv p3 r.2 c3,vb (a4 y0)]),r_2] [Al (zX (zH .i64)) 22 r_2 p3 c3 r.2] :=
 zO call291 func291 u fun X=>zJ<|zA 2 u<|qC 1 u<|qJ 0 u u u<|zA 1 u<|yK 0 u u u<|fun x1 b2 o1=>yS false oL (gk 0) u<|fun p3 c3=>zA 2 u<|zL<|
  wR (fun s1 K=>K [0,4] [(0,bx b1 268 (yF [vi y0.1,sv p1 y0.2.1 c1] 40 s1.2 [sv p2 y0.2.2.2.1 c2,vb (a4 y0)]))] [0,2,3] [(5,vi s1.1)] []) (zJ<|zA 3 u<|qC 2 u<|jiL 40 u u<|fun u1 h1=>
  jlL 0 40 y0.2.2.1 [vi y0.1,sv p1 y0.2.1 c1] [sv p2 y0.2.2.2.1 c2,vb (a4 y0)] h1 u u<|zL<|zZ<|jA 2 u<|zV u (jA 3 u<|zZ<|
  wP (fun s2 K=>K [0,4,5,26,27] [(0,bx b1 268 (yF [vi y0.1,sv p1 y0.2.1 c1] 40 s2.2 [sv p2 y0.2.2.2.1 c2,vb (a4 y0)]))] [0,2,3] [(28,vi s2.1)] []) (gv kk [0,1] (gq [0,2,3]))<|fun s2 _ k=>k<|jA 1 u<|zS<|zV u (jC<|
  zS<|zZ<|zJ<|yK 0 u u u<|fun x2 b3 o2=>yS false oI (gk 0) u<|zA 1 u<|zL<|jdS [10] [0] 11<|qB 8 [0,1,2] u<|wE 3 2 u u<|jdiL 40 4 u u u<|fun u2 h2=>
  jdlL 5 0 40 s2.2 [vi y0.1,sv p1 y0.2.1 c1] [sv p2 y0.2.2.2.1 c2,vb (a4 y0)] h2 u u u<|qB 3 [6,7] u<|wE 8 2 u u<|jdiL 40 9 u u u<|fun u3 h3=>qQ 10<|
  jsL (vA .i64 (vY s2.2 x2) 4) (.f u) 0 40 s2.2 [vi y0.1,sv p1 y0.2.1 c1] [sv p2 y0.2.2.2.1 c2,vb (a4 y0)] h3 u u u<|jdb [] [0]<|wI<|
 au
)<|
 au
)<|jA 2 u<|zV u (
 au
)<|jA 2 u<|zV u (
  wR (fun s3 K=>K [0,4] [(0,bx b1 268 (yF [vi y0.1,sv p1 y0.2.1 c1] 40 s3 [sv p2 y0.2.2.2.1 c2,vb (a4 y0)]))] [0,2,3] [] []) (jA 3 u<|zZ<|
  wP (fun s4 K=>K [0,4,47,48] [(0,bx b1 268 (yF [vi y0.1,sv p1 y0.2.1 c1] 40 s4.2 [sv p2 y0.2.2.2.1 c2,vb (a4 y0)]))] [0,2,3] [(49,vi s4.1)] []) (gv kk [0,1] (gq [0,2,3]))<|fun s4 _ k=>k<|jA 1 u<|zS<|zV u (jC<|zS<|
  zZ<|zJ<|yK 0 u u u<|fun x3 b4 o3=>yS false oI (gk 0) u<|zA 1 u<|zL<|jdS [10] [0] 11<|qB 8 [0,1,2] u<|wE 3 2 u u<|jdiL 40 4 u u u<|fun u4 h4=>
  jdlL 5 0 40 s4.2 [vi y0.1,sv p1 y0.2.1 c1] [sv p2 y0.2.2.2.1 c2,vb (a4 y0)] h4 u u u<|qB 3 [6,7] u<|wE 8 2 u u<|jdiL 40 9 u u u<|fun u5 h5=>qQ 10<|
  jsL (vA .i64 (vY s4.2 x3) 12) (.f u) 0 40 s4.2 [vi y0.1,sv p1 y0.2.1 c1] [sv p2 y0.2.2.2.1 c2,vb (a4 y0)] h5 u u u<|jdb [] [0]<|wI<|
 au
)<|
 au
)<|
 au
)<|
 au
)<|fun s1 _ k=>k<|zJ<|zA 3 u<|
  qK .s [0,1] [] zLH u u u (cq [1,2,0])<|fun r1 _ k p4 c4=>k<|zA 1 u<|zL<|jA 3 u<|zV u (jdS [13] [0] 14<|qB 12 [0,1] u<|jdi 2 0 u u u u<|fun x4 b5 o4=>
  jdl 3 false oI u (gk 0) u<|qB 9 [4] u<|wE 5 2 u u<|jdiL 40 6 u u u<|fun u6 h6=>jdlL 7 0 40 s1.2 [vi y0.1,sv p1 y0.2.1 c1] [sv p2 y0.2.2.2.1 c2,vb (a4 y0)] h6 u u u<|qB 3 [8,9,10] u<|wE 11 2 u u<|
  jdiL 40 12 u u u<|fun u7 h7=>qQ 13<|jsL (vA .i64 (vY s1.2 x4) s1.1) (.f u) 0 40 s1.2 [vi y0.1,sv p1 y0.2.1 c1] [sv p2 y0.2.2.2.1 c2,vb (a4 y0)] h7 u u u<|jdb [] [0]<|wI<|
 au
)<|
 au
abbrev zOj:=@Cn.mk 291 0 _ @zO4
theorem zRr{y0:yJ}{y1:List Int}{y2:Int}: wL qd prog 314 [pt b1 0,sv p3 y1 c3,vi y2] [bx b1 268 (yF [vi y0.1,sv p1 y0.2.1 c1] 40 y0.2.2.1 [sv p2 y0.2.2.2.1 c2,vb (a4 y0)])] [Rl (zX (zH .i64)) p1 c1 y0.2.1,Rl (zX (zH .i64)) p2 c2 y0.2.2.2.1,Rl (zH .i64) p3 c3 y1] (zBc y0 y1 y2) fun L r K=>∀ p4 c4,K (sv p4 r c4) L [Rl (zH .i64) p4 c4 r] :=
 zO call314 func314 u fun X=>jA 1 u<|zJ<|zA 1 u<|uA (zH .i64) 3 <|zL<|zS<|jA 3 u<|zZ<|
  wP (fun s1 K=>∀ p4 c4 r_1,K [0,2,10,11] [(1,r_1)] [3,1,2] [(7,sv p4 s1.1 c4),(12,vi s1.2)] [Al (zH .i64) 3 r_1 p4 c4 s1.1]) (gv (fun _ k=>k none 0 []) [0,1] (gq [0,3,1,2]))<|
  fun s1 _ k p4 c4 r_1=>k<|jA 1 u<|zS<|zV u (jC<|zS<|zZ<|zJ<|yK 1 u u u<|fun x1 b2 o1=>yS false oI (gk 0) u<|zA 1 u<|zL<|zJ<|zA 3 u<|qC 2 u<|jiL 40 u u<|fun u1 h1=>
  jlL 0 40 y0.2.2.1 [vi y0.1,sv p1 y0.2.1 c1] [sv p2 y0.2.2.2.1 c2,vb (a4 y0)] h1 u u<|
 au
)<|
 au
abbrev zSD:=@Cn.mk 314 1 _ @zRr
attribute [instance] zOj zSD
theorem zJb{y0:yJ}{y1:Int}: wL qd prog 290 [pt b1 0,vi y1] [bx b1 268 (yF [vi y0.1,sv p1 y0.2.1 c1] 40 y0.2.2.1 [sv p2 y0.2.2.2.1 c2,vb (a4 y0)])] [Rl (zX (zH .i64)) p1 c1 y0.2.1,Rl (zX (zH .i64)) p2 c2 y0.2.2.2.1] (zCL y0 y1) fun L r K=>K (vi r) L [] :=
 zO call290 func290 u fun X=>hI 1 2 1 (fun(s1:Int) K=>K [0,5] [] [0,2,3] [(6,vi s1)] [])<|hI 1 4 1 (fun(s2:Int) K=>K [0,5] [] [0,1,2] [(6,vi s2)] [])<|hI 1 6 0 (fun(s3:Bool) K=>K [6] [] [1,2] [(43,vb s3)] [])<|
 au
abbrev zOC:=@Cn.mk 290 0 _ @zJb
attribute [instance] zOC
theorem zOK{y0:yJ}: zP qd prog 251 [pt b1 0] [bx b1 268 (yF [vi y0.1,sv p1 y0.2.1 c1] 40 y0.2.2.1 [sv p2 y0.2.2.2.1 c2,vb (a4 y0)]),r_1] [Rl (zX (zH .i64)) p1 c1 y0.2.1,Al (zX (zH .i64)) 22 r_1 p2 c2 y0.2.2.2.1] (zBl y0) fun r K=>∀ p3 c3 r_2,K (vb r.1) [bx b1 268 (yF [vi y0.1,sv p1 y0.2.1 c1] 40 r.2.1 [sv p3 r.2.2 c3,vb (a4 y0)]),r_2] [Al (zX (zH .i64)) 22 r_2 p3 c3 r.2.2] :=
 zO call251 func251 u fun X=>jA 1 u<|zZ<|
  wP (fun s1 K=>∀ p3 c3 r_2,K [0] [(0,bx b1 268 (yF [vi y0.1,sv p1 y0.2.1 c1] 40 s1.1 [sv p3 s1.2 c3,vb (a4 y0)])),(1,r_2)] [0] [] [Al (zX (zH .i64)) 22 r_2 p3 c3 s1.2]) (gv (fun _ k=>k p2 c2 r_1) [0,1] (gq [1,0]))<|
  fun s1 _ k p3 c3 r_2=>k<|zZ<|zJ<|zA 2 u<|qC 2 u<|jlW 0 40 s1.1 [vi y0.1,sv p1 y0.2.1 c1] [sv p3 s1.2 c3,vb (a4 y0)] u u<|jalA .s (yF [] 40 (List.replicate 40 (0:Int)) [])<|fun b2=>
  jsW s1.1 .s 2 40 (List.replicate 40 (0:Int)) [] [] u u u<|zL<|
  jjoK (fun s2 K=>∀ p4 c4 r_3,K [0,3] [(0,bx b1 268 (yF [vi y0.1,sv p1 y0.2.1 c1] 40 s2.1 [sv p4 s2.2 c4,vb (a4 y0)])),(1,r_3)] [1] [] [Al (zX (zH .i64)) 22 r_3 p4 c4 s2.2]) (zJ<|zA 2 u<|qC 0 u<|qJ 0 u u u<|
  zA 1 u<|zL<|zZ<|
  wP (fun s3 K=>∀ p5 c5 r_4,K [0,3,12] [(0,bx b1 268 (yF [vi y0.1,sv p1 y0.2.1 c1] 40 s3.2.1 [sv p5 s3.2.2 c5,vb (a4 y0)])),(1,r_4)] [1] [(13,vi s3.1)] [Al (zX (zH .i64)) 22 r_4 p5 c5 s3.2.2]) (gv (fun _ k=>k p3 c3 r_2) [0,1,2] (gq [0,1]))<|
  fun s3 _ k p5 c5 r_4=>k<|jA 1 u<|zS<|zV u (jC<|zS<|zZ<|jA 2 u<|zS<|tB [13] [0] 14<|qB 11 [0,1,2] u<|wE 3 2 u u<|jdiL 40 4 u u u<|fun u1 h1=>
  jdlL 5 0 40 s3.2.1 [vi y0.1,sv p1 y0.2.1 c1] [sv p5 s3.2.2 c5,vb (a4 y0)] h1 u u u<|qB 5 [6,7,10] u<|wE 11 2 u u<|qQ 8<|qK (.f u) [0] [1] zJb u u u ⟨ck 1,cl 1 0,d⟩<|fun r1 _ k=>k<|qU<|
  qB 2 [9] u<|jdiL 40 12 u u u<|fun u2 h2=>qQ 13<|jsL (vA .i64 (vY s3.2.1 s3.1) r1) (.f u) 0 40 s3.2.1 [vi y0.1,sv p1 y0.2.1 c1] [sv p5 s3.2.2 c5,vb (a4 y0)] h2 u u u<|jdb [] [0]<|wI<|qN<|zJ<|zA 3 u<|
  qC 2 u<|jiL 40 u u<|fun u3 h3=>jlL 0 40 (xZ 40 s3.2.1 s3.1 (vA .i64 (vY s3.2.1 s3.1) r1)) [vi y0.1,sv p1 y0.2.1 c1] [sv p5 s3.2.2 c5,vb (a4 y0)] h3 u u<|
 au
)<|
 au
)<|fun s2 _ k p4 c4 r_3=>k<|zS<|tB [] [0] 9<|qB 7 [0,1] u<|wE 2 2 u u<|qB 4 [3,4] u<|
  wE 5 0 u u<|yA 6 0 u u u u<|jdasl (k:=40) 7 s2.1 u u u<|fun x1 h4=>qQ 8<|qK (.f u) [] [0] zLE u u u ⟨cA 0 40 s2.1 [vi y0.1,sv p1 y0.2.1 c1] [sv p4 s2.2 c4,vb (a4 y0)] h4 rfl,d⟩<|
  fun r3 _ k=>k<|qU<|wI<|qN<|zV u (
 au
)<|jC<|tB [] [0,2] 6<|qB 4 [0,1] u<|wE 2 2 u u<|
  jdlW 3 0 40 s2.1 [vi y0.1,sv p1 y0.2.1 c1] [sv p4 s2.2 c4,vb (a4 y0)] u u u<|jdlW 4 2 40 s1.1 [] [] u u u<|
  tA (v:=vb (aeq 40 s2.1 s1.1)) 5 u (fun h=>r_eqArr h u u underlying266 underlying3 (by kernel_rfl) (by kernel_rfl) (by kernel_rfl) (by kernel_rfl))<|wI<|
 au
abbrev zNh:=@Cn.mk 251 0 _ @zOK
attribute [instance] zNh
theorem zNk (k:Nat):
    (∀ {y0:yJ} {b1:Nat} {p1:Option Addr} {c1:Nat} {p2:Option Addr} {c2:Nat} {r_1:zG},zP qd prog 201 [pt b1 0] [bx b1 268 (yF [vi y0.1,sv p1 y0.2.1 c1] 40 y0.2.2.1 [sv p2 y0.2.2.2.1 c2,vb (a4 y0)]),r_1] [Rl (zX (zH .i64)) p1 c1 y0.2.1,Al (zX (zH .i64)) 22 r_1 p2 c2 y0.2.2.2.1] (zBi k y0) fun r K=>∀ p3 c3 r_2,K (.tuple #[]) [bx b1 268 (yF [vi y0.1,sv p1 y0.2.1 c1] 40 r.1 [sv p3 r.2.1 c3,vb r.2.2]),r_2] [Al (zX (zH .i64)) 22 r_2 p3 c3 r.2.1]):=by
  induction k with
  | zero=>exact con0 call201
  | succ k ih =>
    have ih_search_finder_find:=@ih
    have zLw:=@Cn.mk 201 0 _ (@ih_search_finder_find)
    exact @fun y0 b1 p1 c1 p2 c2 r_1=>zO (m1:=zBP (zBi k) y0) call201 func201 u fun X=>zS<|wR (fun s1 K=>∀ p3 c3 r_2,K [0] [(0,bx b1 268 (yF [vi y0.1,sv p1 y0.2.1 c1] 40 s1.2.1 [sv p3 s1.2.2 c3,vb (a4 y0)])),(1,r_2)] [0] [(15,vb s1.1)] [Al (zX (zH .i64)) 22 r_2 p3 c3 s1.2.2]) (
 au
)<|fun s1 _ k p3 c3 r_2=>k<|zV u (
 au
)<|jC<|zJ<|zA 1 u<|
  qK .s [0,1] [] zJi u u u (cq [1,0])<|fun r2 _ k p5 c5=>k<|zA 5 u<|zL<|zS<|jA 2 u<|zV u (
 au
)<|jC<|zJ<|zA 2 u<|qC 2 u<|jlW 0 40 s1.2.1 [vi y0.1,sv p1 y0.2.1 c1] [sv p3 s1.2.2 c3,vb (a4 y0)] u u<|
  jalA .s (yF [] 40 (List.replicate 40 (0:Int)) [])<|fun b2=>jsW s1.2.1 .s 2 40 (List.replicate 40 (0:Int)) [] [] u u u<|zL<|zJ<|uC .s (e:=zH .i64) 3 [vi 2,vi 4,vi 8] ([2,4,8]:List Int) (rC vI (rC vI (rC vI rN)))<|
  fun p8 c8=>zA 2 u<|zL<|zZ<|
  wP (fun s2 K=>∀ p9 c9 r_5,K [0,3,4,46,47] [(0,bx b1 268 (yF [vi y0.1,sv p1 y0.2.1 c1] 40 s1.2.1 [sv p9 s2.2.1 c9,vb s2.2.2])),(1,r_5)] [0,3] [(48,vi s2.1)] [Al (zX (zH .i64)) 22 r_5 p9 c9 s2.2.1]) (gv (fun _ k=>k p3 c3 r_2) [0,1,2] (gq [2,0,3]))<|
  fun s2 _ k p9 c9 r_5=>k<|jA 1 u<|zS<|zV u (jC<|zS<|zZ<|zJ<|yK 1 u u u<|fun x2 b3 o1=>yS false oI (gk 0) u<|zA 1 u<|zL<|zJ<|zA 1 u<|jiL 40 u u<|fun u1 h2=>jlL 2 40 s1.2.1 [] [] h2 u u<|zA 3 u<|zL<|
  zV u (zJ<|zA 4 u<|qC 2 u<|jiL 40 u u<|fun u2 h3=>jsL x2 .s 0 40 s1.2.1 [vi y0.1,sv p1 y0.2.1 c1] [sv p9 s2.2.1 c9,vb s2.2.2] h3 u u u<|zL<|zJ<|zA 1 u<|
  qK .s [0,1] [] ih_search_finder_find u u u (cq [3,1])<|fun r3 _ k p10 c10 r_6=>k<|zL<|vM<|zA 1 u<|jlW 2 40 s1.2.1 [] [] u u<|zA 1 u<|qC 2 u<|
  jsW s1.2.1 .s 0 40 r3.1 [vi y0.1,sv p1 y0.2.1 c1] [sv p10 r3.2.1 c10,vb r3.2.2] u u u<|
 au
)<|
 au
)<|
 au
theorem zLt{y0:yJ}: zP qd prog 201 [pt b1 0] [bx b1 268 (yF [vi y0.1,sv p1 y0.2.1 c1] 40 y0.2.2.1 [sv p2 y0.2.2.2.1 c2,vb (a4 y0)]),r_1] [Rl (zX (zH .i64)) p1 c1 y0.2.1,Al (zX (zH .i64)) 22 r_1 p2 c2 y0.2.2.2.1] (zEF y0) fun r K=>∀ p3 c3 r_2,K (.tuple #[]) [bx b1 268 (yF [vi y0.1,sv p1 y0.2.1 c1] 40 r.1 [sv p3 r.2.1 c3,vb r.2.2]),r_2] [Al (zX (zH .i64)) 22 r_2 p3 c3 r.2.1]:=z1R fun k=>(zNk k)
abbrev zLw:=@Cn.mk 201 0 _ @zLt
theorem zKi{y0:qE}: zP qd prog 153 [.agg (yD y0 p1 c1).toArray] [] [Rl wK p1 c1 y0.2,Pt (vF 64 (zH .u8)) 5 0 yC] (zBH y0) fun r K=>∀ p2 c2,K (.tuple #[sv p2 r.1 c2,vi r.2]) [] [Rl (zX (zH .i64)) p2 c2 r.1] :=
 zO call153 func153 u fun X=>zJ<|vH .s u<|fun b1=>zA 2 u<|zL<|zS<|zJ<|wW 0 2 u u u<|wD zLZ u (cq [0])<|fun r1 _ k=>k<|zA 1 u<|zL<|jA 2 u<|zV u (jA 3 u<|qP<|yX<|uI u (lT u (lT u lN)) (fun _ k=>k none 0) [] ⟨gn,d⟩)<|
  jC<|zJ<|qC 0 u<|qJ 0 u u u<|qD (.agg (yF [vi y0.1,.slice none 0 0] 40 (List.replicate 40 (0:Int)) [.slice none 0 0,vb false]).toArray)<|uA (zX (zH .i64)) 22<|uA (zX (zH .i64)) 22<|vH .s u<|fun b2=>
  zA 1 u<|zL<|wR (fun s1 K=>∀ p2 c2 r_1,K [5] [(0,[]),(1,r_1),(3,bx b2 268 (yF [vi y0.1,sv p2 s1.1 c2] 40 s1.2 [sv none ([]:List (List Int)) 0,vb false]))] [0,3] [] [Al (zX (zH .i64)) 22 r_1 p2 c2 s1.1]) (zJ<|
  qC 0 u<|qJ 0 u u u<|zA 1 u<|zL<|zZ<|
  wP (fun s2 K=>∀ p3 c3 r_2,K [1,5,17] [(1,r_2),(3,bx b2 268 (yF [vi y0.1,sv p3 s2.2.1 c3] 40 s2.2.2 [sv none ([]:List (List Int)) 0,vb false]))] [2,0,3] [(18,vi s2.1)] [Al (zX (zH .i64)) 22 r_2 p3 c3 s2.2.1]) (gv (fun _ k=>k none 0 []) [0,1,2,3] (gq [1,2,0,3]))<|
  fun s2 _ k p3 c3 r_2=>k<|jA 1 u<|zS<|zV u (jC<|zS<|zZ<|jA 2 u<|tB [12] [0,3] 13<|qB 10 [0,1,2] u<|wE 3 1 u u<|yA 4 3 u u u u<|xV 5 0 2 u u u u<|qB 6 [6] u<|qQ 7<|
  qK (.f u) [] [] zOI u u u (cq [1,3])<|fun r2 _ k p4 c4=>k<|qU<|qQ 8<|uC (.f u) (e:=zX (zH .i64)) 22 [sv p4 r2 c4] ([r2]:List (List Int)) (rC (vL (gk 0)) rN)<|fun p5 c5=>qU<|qQ 9<|
  xL (.f u) 1 2 u (gk 0) u u<|fun x1 r_3 p6 c6=>qU<|qB 2 [10] u<|wE 11 1 u u<|qQ 12<|wA (o:=1) (.f u) 3 u u u<|jdb [] [0,3]<|wI<|qN<|vM<|zA 3 u<|qC 2 u<|jiL 40 u u<|fun u1 h2=>
  jsL 14 .s 3 40 s2.2.2 [vi y0.1,sv p6 x1 c6] [sv none ([]:List (List Int)) 0,vb false] h2 u u u<|wN<|yL<|qN<|jB 2 u<|uG (gv (fun _ k=>k p6 c6 r_3) [0,1,2,3] (gq [0,4,5,6])))<|xF<|uP<|uS<|xD<|
  qI (gv (fun _ k=>k p3 c3 r_2) [900,1,2,3] (gq [0,2,3])))<|fun s1 _ k p2 c2 r_1=>k<|zJ<|zA 1 u<|yU 1 0 u u<|qK .s [3,2] [] zLt u u u (cq [0,2])<|fun r3 _ k p7 c7 r_4=>k<|zL<|zS<|zJ<|zA 2 u<|
  qC 43 u<|qJ 3 u u u<|zL<|zV u (jA 2 u<|qP<|yX<|uI u (lT u (lT u lN)) (fun _ k=>k none 0) [] ⟨gn,d⟩)<|jC<|zJ<|zA 2 u<|qC 42 u<|qJ 3 u u u<|zA 2 u<|zL<|qP<|yU 2 0 u u<|
  uI u (lT u (lT u lN)) (fun _ k=>k p7 c7) [] (gq [0])
abbrev zUm:=@Cn.mk 153 0 _ @zKi
theorem zT9{y0:List Int}{y1:List Int}: zP qd prog 205 [sv p1 y0 c1,sv p2 y1 c2] [] [Rl (zH .i64) p1 c1 y0,Rl (zH .i64) p2 c2 y1] (zBo y0 y1) fun r K=>∀ p3 c3,K (sv p3 r c3) [] [Rl (zH .i64) p3 c3 r] :=
 zO call205 func205 u fun X=>hR 5 0 (zH .i64) 3<|hI 0 3 1 (fun(s1:(List Int)×Int) K=>∀ p3 c3 r_1,K [0,8,9] [(0,.r r_1)] [1,2] [(5,sv p3 s1.1 c3),(10,vi s1.2)] [Al (zH .i64) 3 r_1 p3 c3 s1.1])<|
 au
abbrev zTL:=@Cn.mk 205 0 _ @zT9
theorem zRW{y0:Int}{y1:List Int}: wL qd prog 254 [vi y0,pt b1 0] [bx b1 22 [sv p1 y1 c1]] [Rl (zH .i64) p1 c1 y1] (zED y0 y1) fun L r K=>K (vb r) L [] :=
 zO call254 func254 u fun X=>
 au
abbrev zRP:=@Cn.mk 254 0 _ @zRW
attribute [instance] zLw zUm zTL zRP
theorem zHX{y0:List Int}{y1:List Int}: wL qd prog 124 [sv p1 y0 c1,.func (.func 254) #[] #[pt b1 0]] [bx b1 22 [sv p2 y1 c2]] [Rl (zH .i64) p1 c1 y0,Rl (zH .i64) p2 c2 y1] (zAc y0 y1) fun L r K=>K (vi r) L [] :=
 zO call124 func124 u fun X=>hI 0 2 1 (fun(s1:Int) K=>K [0,1,7] [] [0,1] [(8,vi s1)] [])<|
 au
abbrev zHT:=@Cn.mk 124 2 _ @zHX
attribute [instance] zHT
theorem zGF{y0:List Int}{y1:List Int}: wL qd prog 83 [sv p1 y0 c1,.func (.func 254) #[] #[pt b1 0]] [bx b1 22 [sv p2 y1 c2]] [Rl (zH .i64) p1 c1 y0,Rl (zH .i64) p2 c2 y1] (zAH y0 y1) fun L r K=>K (vb r) L [] :=
 zO call83 func83 u fun X=>
 au
abbrev zGC:=@Cn.mk 83 2 _ @zGF
attribute [instance] zGC
theorem zTA{y0:List Int}{y1:List Int}: zP qd prog 204 [sv p1 y0 c1,sv p2 y1 c2] [] [Rl (zH .i64) p1 c1 y0,Rl (zH .i64) p2 c2 y1] (zDH y0 y1) fun r K=>K (vb r) [] [] :=
 zO call204 func204 u fun X=>hI 1 1 0 (fun(s1:Bool) K=>K [] [(0,.r [])] [] [(4,vb s1)] [])<|
 au
abbrev zSt:=@Cn.mk 204 0 _ @zTA
attribute [instance] zSt
theorem zOp{y0:List Int}{y1:List Int}: zP qd prog 203 [sv p1 y0 c1,sv p2 y1 c2] [] [Rl (zH .i64) p1 c1 y0,Rl (zH .i64) p2 c2 y1] (zC1 y0 y1) fun r K=>K (vb r) [] [] :=
 zO call203 func203 u fun X=>
 au
abbrev zOz:=@Cn.mk 203 0 _ @zOp
attribute [instance] zOz
theorem zH6{y0:List Int}{y2:List Int}: wL qd prog 253 [sv p1 y0 c1,pt b1 0,pt b2 0] [bx b1 270 [.func (.func 203) #[] #[]],bx b2 22 [sv p2 y2 c2]] [Rl (zH .i64) p1 c1 y0,Rl (zH .i64) p2 c2 y2] (zAn y0 y2) fun L r K=>K (vb r) L [] :=
 zO call253 func253 u fun X=>
 au
abbrev zHa:=@Cn.mk 253 0 _ @zH6
attribute [instance] zHa
theorem zHz{y0:List (List Int)}{y2:List Int}: wL qd prog 259 [sv p1 y0 c1,.func (.func 253) #[] #[pt b1 0,pt b2 0]] [bx b1 270 [.func (.func 203) #[] #[]],bx b2 22 [sv p2 y2 c2]] [Rl (zX (zH .i64)) p1 c1 y0,Rl (zH .i64) p2 c2 y2] (zAt y0 y2) fun L r K=>K (vi r) L [] :=
 zO call259 func259 u fun X=>hI 0 2 1 (fun(s1:Int) K=>K [0,1,7] [] [0,1] [(8,vi s1)] [])<|
 au
abbrev zHx:=@Cn.mk 259 1 _ @zHz
attribute [instance] zHx
theorem zHC{y0:List (List Int)}{y2:List Int}: wL qd prog 210 [sv p1 y0 c1,.func (.func 253) #[] #[pt b1 0,pt b2 0]] [bx b1 270 [.func (.func 203) #[] #[]],bx b2 22 [sv p2 y2 c2]] [Rl (zX (zH .i64)) p1 c1 y0,Rl (zH .i64) p2 c2 y2] (zAM y0 y2) fun L r K=>K (vb r) L [] :=
 zO call210 func210 u fun X=>
 au
abbrev zGo:=@Cn.mk 210 1 _ @zHC
attribute [instance] zGo
theorem zIO{y0:qE}: zP qd prog 202 [.agg (yD y0 p1 c1).toArray,.func (.func 203) #[] #[]] [] [Rl wK p1 c1 y0.2,Pt (vF 64 (zH .u8)) 5 0 yC] (zAL y0) fun r K=>∀ p2 c2,K (.tuple #[sv p2 r.1 c2,vi r.2]) [] [Rl (zX (zH .i64)) p2 c2 r.1] :=
 zO call202 func202 u fun X=>hR 8 2 (zX (zH .i64)) 22<|hI 0 6 1 (fun(s1:(List (List Int))×Int) K=>∀ p3 c3 r_1,K [3,6,19,20] [(0,.r []),(2,.r r_1)] [1,3] [(8,sv p3 s1.1 c3),(21,vi s1.2)] [Al (zX (zH .i64)) 22 r_1 p3 c3 s1.1])<|
 au
abbrev zIR:=@Cn.mk 202 0 _ @zIO
attribute [instance] zIR
theorem zQZ{y0:qE}: zP qd prog 154 [.agg (yD y0 p1 c1).toArray] [] [Rl wK p1 c1 y0.2,Pt (vF 64 (zH .u8)) 5 0 yC] (zBA y0) fun r K=>∀ p2 c2,K (.tuple #[sv p2 r.1 c2,vi r.2]) [] [Rl (zX (zH .i64)) p2 c2 r.1] :=
 zO call154 func154 u fun X=>
 au
abbrev zPr:=@Cn.mk 154 0 _ @zQZ
theorem zSO{y0:qE}{y1:List Int}: zP qd prog 257 [.agg (yD y0 p1 c1).toArray,sv p2 y1 c2] [] [Rl wK p1 c1 y0.2,Rl (zH .i64) p2 c2 y1] (zCS y0 y1) fun r K=>∀ p3 c3,K (sv p3 r c3) [] [Rl (zH .i64) p3 c3 r] :=
 zO call257 func257 u fun X=>zJ<|vH .s u<|fun b1=>zA 1 u<|zL<|zJ<|uC .s (e:=zH .i64) 3 [vi 3] ([3]:List Int) (rC vI rN)<|fun p3 c3=>qC 0 u<|qJ 0 u u u<|wD zEX u (cq [0])<|fun r1 _ k p4 c4 r_1=>k<|zA 1 u<|zL<|
  wR (fun s1 K=>∀ r_2,K [1,2] [(1,r_2)] [3,2] [(5,.slice p4 (List.length r1) c4)] [Ar (zH .i64) 3 r_2 p4 c4 (List.length r1) s1]) (hI 0 3 1 (fun(s2:(List Int)×Int) K=>∀ r_3,K [1,2,15,16] [(1,.r r_3)] [3,2] [(5,.slice p4 (List.length r1) c4),(17,vi s2.2)] [Ar (zH .i64) 3 r_3 p4 c4 (List.length r1) s2.1])<|
 au
)<|fun s1 _ k r_2=>k<|zS<|jA 3 u<|zZ<|
  wP (fun s3 K=>∀ r_5,K [2,5,30,31] [(1,r_5)] [1,2] [(32,vi s3.2)] [Ar (zH .i64) 3 r_5 p4 c4 (List.length r1) s3.1]) (gv (fun _ k=>k r_2) [0,1] (gq [0,1,2]))<|
  fun s3 _ k r_5=>k<|jA 1 u<|zS<|zV u (jC<|zS<|zZ<|zJ<|yK 1 u u u<|fun x3 b5 o3=>hP 4 11 0 (fun K=>K [2,5,9,30,31,32] [] [1,2,3] [(43,vb ((decide (0≤x3))&&(decide (x3<y0.1))))] [])<|
 au
)<|xF<|uP<|uS<|xD<|qN<|jA 2 u<|qP<|yU 1 0 u u<|jre 0 4 u u<|
 au
abbrev zRv:=@Cn.mk 257 0 _ @zSO
attribute [instance] zPr zRv
theorem zJJ{y0:qE}: zP qd prog 208 [.agg (yD y0 p1 c1).toArray,.func (.func 154) #[] #[]] [] [Rl wK p1 c1 y0.2,Pt (vF 64 (zH .u8)) 5 0 yC] (zAk y0) fun r K=>∀ p2 c2,K (.tuple #[sv p2 r.1 c2,vi r.2]) [] [Rl (zH .i64) p2 c2 r.1] :=
 zO call208 func208 u fun X=>hD 4 [] [0] (.l [0,1] (.f 2 (.f 3 (.l [4,5,6,7,8] .e))))<|
 au
abbrev zJD:=@Cn.mk 208 0 _ @zJJ
attribute [instance] zJD
theorem z1U{y0:qE}: zP qd prog 157 [.agg (yD y0 p1 c1).toArray] [] [Rl wK p1 c1 y0.2,Pt (vF 64 (zH .u8)) 5 0 yC] (zGa y0) fun r K=>∀ p2 c2,K (.tuple #[sv p2 r.1 c2,vi r.2]) [] [Rl (zH .i64) p2 c2 r.1] :=
 zO call157 func157 u fun X=>
 au
abbrev z0x:=@Cn.mk 157 0 _ @z1U
attribute [instance] z0x
theorem zLY{y0:qE}: wL qd prog 198 [.agg (yD y0 p1 c1).toArray,pt b1 0] [bx b1 222 [.func (.func 157) #[] #[]]] [Rl wK p1 c1 y0.2,Pt (vF 64 (zH .u8)) 5 0 yC] (zBJ y0) fun L r K=>∀ p2 c2,K (.tuple #[sv p2 r.1 c2,vi r.2]) L [Rl (zX (zH .i64)) p2 c2 r.1] :=
 zO call198 func198 u fun X=>
 au
abbrev zLq:=@Cn.mk 198 1 _ @zLY
attribute [instance] zLq
theorem zEv{y0:qE}: wL qd prog 199 [.agg (yD y0 p1 c1).toArray,pt b1 0] [bx b1 182 [.func (.func 198) #[] #[pt b2 0]],bx b2 222 [.func (.func 157) #[] #[]]] [Rl wK p1 c1 y0.2,Pt (vF 64 (zH .u8)) 5 0 yC] (zAN y0) fun L r K=>∀ p2 c2,K (.tuple #[sv p2 r.1 c2,vi r.2]) L [Rl (zX (zH .i64)) p2 c2 r.1] :=
 zO call199 func199 u fun X=>hR 7 3 (zX (zH .i64)) 22<|hI 0 6 1 (fun(s1:(List (List Int))×Int) K=>∀ p3 c3 r_1,K [19,20] [(2,.r []),(3,.r r_1)] [1,3] [(7,sv p3 s1.1 c3),(21,vi s1.2)] [Al (zX (zH .i64)) 22 r_1 p3 c3 s1.1])<|
 au
abbrev zJp:=@Cn.mk 199 1 _ @zEv
theorem zNe{y0:List Int}{y1:List Int}: zP qd prog 207 [sv p1 y0 c1,sv p2 y1 c2] [] [Rl (zH .i64) p1 c1 y0,Rl (zH .i64) p2 c2 y1] (zCJ y0 y1) fun r K=>K (vb r) [] [] :=
 zO call207 func207 u fun X=>
 au
abbrev zNz:=@Cn.mk 207 0 _ @zNe
attribute [instance] zJp zNz
theorem zH3{y0:List Int}{y2:List Int}: wL qd prog 253 [sv p1 y0 c1,pt b1 0,pt b2 0] [bx b1 270 [.func (.func 207) #[] #[]],bx b2 22 [sv p2 y2 c2]] [Rl (zH .i64) p1 c1 y0,Rl (zH .i64) p2 c2 y2] (zAd y0 y2) fun L r K=>K (vb r) L [] :=
 zO call253 func253 u fun X=>
 au
abbrev zHI:=@Cn.mk 253 1 _ @zH3
attribute [instance] zHI
theorem zDP{y0:List (List Int)}{y2:List Int}: wL qd prog 259 [sv p1 y0 c1,.func (.func 253) #[] #[pt b1 0,pt b2 0]] [bx b1 270 [.func (.func 207) #[] #[]],bx b2 22 [sv p2 y2 c2]] [Rl (zX (zH .i64)) p1 c1 y0,Rl (zH .i64) p2 c2 y2] (zAh y0 y2) fun L r K=>K (vi r) L [] :=
 zO call259 func259 u fun X=>hI 0 2 1 (fun(s1:Int) K=>K [0,1,7] [] [0,1] [(8,vi s1)] [])<|
 au
abbrev zHW:=@Cn.mk 259 2 _ @zDP
theorem zDA{y0:List (List Int)}{y2:List Int}: wL qd prog 210 [sv p1 y0 c1,.func (.func 253) #[] #[pt b1 0,pt b2 0]] [bx b1 270 [.func (.func 207) #[] #[]],bx b2 22 [sv p2 y2 c2]] [Rl (zX (zH .i64)) p1 c1 y0,Rl (zH .i64) p2 c2 y2] (zAI y0 y2) fun L r K=>K (vb r) L [] :=
 zO call210 func210 u fun X=>jA 1 u<|zJ<|zA 2 u<|qK .s [0,1] [] zDP u u u (cq [0,1])<|fun r1 _ k=>k<|zA 2 u<|zL<|qP<|yY u u kk [0,1] d
abbrev zG2:=@Cn.mk 210 2 _ @zDA
theorem zD6{y0:qE}: zP qd prog 202 [.agg (yD y0 p1 c1).toArray,.func (.func 207) #[] #[]] [] [Rl wK p1 c1 y0.2,Pt (vF 64 (zH .u8)) 5 0 yC] (zAG y0) fun r K=>∀ p2 c2,K (.tuple #[sv p2 r.1 c2,vi r.2]) [] [Rl (zX (zH .i64)) p2 c2 r.1] :=
 zO call202 func202 u fun X=>zJ<|vH .s u<|fun b1=>vH .s u<|fun b2=>zA 2 u<|zL<|zJ<|wW 0 2 u u u<|wD zKi u (cq [0,1])<|fun r1 _ k p2 c2=>k<|zA 5 u<|zL<|zS<|jA 2 u<|zV u (jA 3 u<|qP<|yX<|
  uI u (lT u (lT u lN)) (fun _ k=>k none 0) [] ⟨gn,d⟩)<|jC<|zJ<|zA 1 u<|uA (zX (zH .i64)) 22 <|zL<|zS<|jA 3 u<|zZ<|
  wP (fun s1 K=>∀ p3 c3 r_1,K [3,6,19,20] [(0,[]),(2,r_1)] [1,3] [(8,sv p3 s1.1 c3),(21,vi s1.2)] [Al (zX (zH .i64)) 22 r_1 p3 c3 s1.1]) (gv (fun _ k=>k none 0 []) [900,1,2] (gq [0,1,3]))<|
  fun s1 _ k p3 c3 r_1=>k<|jA 1 u<|zS<|zV u (jC<|zS<|zZ<|zJ<|yK 1 u u u<|fun x1 b3 o1=>yS false oL (gk 0) u<|fun p4 c4=>vD .s (.slice none 0 0)<|fun b4=>wA .s 3 u u u<|zL<|zJ<|zA 2 u<|
  qK .s [1,3] [] zDA u u u (cq [3,0])<|fun r2 _ k=>k<|zA 1 u<|zL<|zV u (vM<|zA 1 u<|qJ 3 u u u<|
  uC .s (e:=zX (zH .i64)) 22 [sv p4 x1 c4] ([x1]:List (List Int)) (rC (vL (gk 0)) rN)<|fun p5 c5=>xL .s 2 3 u (gk 0) u u<|fun x2 r_2 p6 c6=>zA 1 u<|wN<|yL<|qN<|jB 2 u<|
  uG (gv (fun _ k=>k p6 c6 r_2) [900,1,2] (gq [0,5,6])))<|uM<|yL<|qN<|jB 2 u<|uG (gv (fun _ k=>k p3 c3 r_1) [900,1,2] (gq [2,3,4])))<|xF<|uP<|uS<|xD<|qN<|jA 3 u<|qP<|yU 2 0 u u<|
  uI u (lT u (lT u lN)) (fun _ k=>k p3 c3) [] (gq [0])
abbrev zIA:=@Cn.mk 202 1 _ @zD6
theorem zPS{y0:qE}: zP qd prog 156 [.agg (yD y0 p1 c1).toArray] [] [Rl wK p1 c1 y0.2,Pt (vF 64 (zH .u8)) 5 0 yC] (zAo y0) fun r K=>∀ p2 c2,K (.tuple #[sv p2 r.1 c2,vi r.2]) [] [Rl (zX (zH .i64)) p2 c2 r.1] :=
 zO call156 func156 u fun X=>zJ<|vH .s u<|fun b1=>zA 2 u<|zL<|zJ<|wW 0 2 u u u<|wD zD6 u (cq [0,1])<|fun r1 _ k p2 c2=>k<|zA 4 u<|zL<|qP<|uI u (lT u (lT u lN)) (fun _ k=>k p2 c2) [] (gq [0])
abbrev zP2:=@Cn.mk 156 0 _ @zPS
attribute [instance] zHW zG2 zIA zP2
theorem zIu{y0:qE}: zP qd prog 208 [.agg (yD y0 p1 c1).toArray,.func (.func 156) #[] #[]] [] [Rl wK p1 c1 y0.2,Pt (vF 64 (zH .u8)) 5 0 yC] (zA8 y0) fun r K=>∀ p2 c2,K (.tuple #[sv p2 r.1 c2,vi r.2]) [] [Rl (zH .i64) p2 c2 r.1] :=
 zO call208 func208 u fun X=>hD 4 [] [0] (.l [0,1] (.f 2 (.f 3 (.l [4,5,6,7,8] .e))))<|
 au
abbrev zIz:=@Cn.mk 208 1 _ @zIu
attribute [instance] zIz
theorem z01{y0:qE}: zP qd prog 158 [.agg (yD y0 p1 c1).toArray] [] [Rl wK p1 c1 y0.2,Pt (vF 64 (zH .u8)) 5 0 yC] (zGb y0) fun r K=>∀ p2 c2,K (.tuple #[sv p2 r.1 c2,vi r.2]) [] [Rl (zH .i64) p2 c2 r.1] :=
 zO call158 func158 u fun X=>
 au
abbrev z1O:=@Cn.mk 158 0 _ @z01
attribute [instance] z1O
theorem zHZ{y0:qE}: wL qd prog 198 [.agg (yD y0 p1 c1).toArray,pt b1 0] [bx b1 222 [.func (.func 158) #[] #[]]] [Rl wK p1 c1 y0.2,Pt (vF 64 (zH .u8)) 5 0 yC] (zBK y0) fun L r K=>∀ p2 c2,K (.tuple #[sv p2 r.1 c2,vi r.2]) L [Rl (zX (zH .i64)) p2 c2 r.1] :=
 zO call198 func198 u fun X=>
 au
abbrev zLU:=@Cn.mk 198 2 _ @zHZ
theorem zEu{y0:qE}: wL qd prog 199 [.agg (yD y0 p1 c1).toArray,pt b1 0] [bx b1 182 [.func (.func 198) #[] #[pt b2 0]],bx b2 222 [.func (.func 158) #[] #[]]] [Rl wK p1 c1 y0.2,Pt (vF 64 (zH .u8)) 5 0 yC] (zAO y0) fun L r K=>∀ p2 c2,K (.tuple #[sv p2 r.1 c2,vi r.2]) L [Rl (zX (zH .i64)) p2 c2 r.1] :=
 zO call199 func199 u fun X=>zJ<|vH .s u<|fun b3=>zA 2 u<|zL<|zJ<|qJ 0 u u u<|wW 2 2 u u u<|qK .s [1] [] zHZ u u u (cq [0,1])<|fun r1 _ k p2 c2=>k<|zA 5 u<|zL<|zS<|jA 2 u<|zV u (jA 3 u<|qP<|yX<|
  uI u (lT u (lT u lN)) (fun _ k=>k none 0) [0,1] ⟨gn,d⟩)<|jC<|zJ<|zA 1 u<|uA (zX (zH .i64)) 22 <|zL<|zS<|jA 3 u<|zZ<|
  wP (fun s1 K=>∀ p3 c3 r_1,K [19,20] [(2,[]),(3,r_1)] [1,3] [(7,sv p3 s1.1 c3),(21,vi s1.2)] [Al (zX (zH .i64)) 22 r_1 p3 c3 s1.1]) (gv (fun _ k=>k none 0 []) [0,1,902,3] (gq [0,1,3]))<|
  fun s1 _ k p3 c3 r_1=>k<|jA 1 u<|zS<|zV u (jC<|zS<|zZ<|zJ<|yK 1 u u u<|fun x1 b4 o1=>yS false oL (gk 0) u<|fun p4 c4=>zA 1 u<|zL<|vM<|zA 2 u<|wD zLn u (cq [0])<|fun r2 _ k p5 c5=>k<|
  uC .s (e:=zX (zH .i64)) 22 [sv p5 r2 c5] ([r2]:List (List Int)) (rC (vL (gk 0)) rN)<|fun p6 c6=>xL .s 3 4 u (gk 0) u u<|fun x2 r_2 p7 c7=>zA 1 u<|wN<|yL<|qN<|jB 2 u<|
  uG (gv (fun _ k=>k p7 c7 r_2) [0,1,902,3] (gq [0,6,7])))<|xF<|uP<|uS<|xD<|qN<|jA 3 u<|qP<|yU 3 0 u u<|uI u (lT u (lT u lN)) (fun _ k=>k p3 c3) [0,1] (gq [0])
abbrev zJm:=@Cn.mk 199 2 _ @zEu
attribute [instance] zLU zJm
theorem zEO{y0:qE}: wL qd prog 199 [.agg (yD y0 p1 c1).toArray,pt b1 0] [bx b1 182 [.func (.func 154) #[] #[]]] [Rl wK p1 c1 y0.2,Pt (vF 64 (zH .u8)) 5 0 yC] (zAF y0) fun L r K=>∀ p2 c2,K (.tuple #[sv p2 r.1 c2,vi r.2]) L [Rl (zX (zH .i64)) p2 c2 r.1] :=
 zO call199 func199 u fun X=>hR 7 2 (zX (zH .i64)) 22<|hI 0 6 1 (fun(s1:(List (List Int))×Int) K=>∀ p3 c3 r_1,K [19,20] [(1,.r []),(2,.r r_1)] [1,3] [(7,sv p3 s1.1 c3),(21,vi s1.2)] [Al (zX (zH .i64)) 22 r_1 p3 c3 s1.1])<|
 au
abbrev zJL:=@Cn.mk 199 3 _ @zEO
attribute [instance] zJL
theorem zEE{y0:qE}: wL qd prog 199 [.agg (yD y0 p1 c1).toArray,pt b1 0] [bx b1 182 [.func (.func 156) #[] #[]]] [Rl wK p1 c1 y0.2,Pt (vF 64 (zH .u8)) 5 0 yC] (zAE y0) fun L r K=>∀ p2 c2,K (.tuple #[sv p2 r.1 c2,vi r.2]) L [Rl (zX (zH .i64)) p2 c2 r.1] :=
 zO call199 func199 u fun X=>hR 7 2 (zX (zH .i64)) 22<|hI 0 6 1 (fun(s1:(List (List Int))×Int) K=>∀ p3 c3 r_1,K [19,20] [(1,.r []),(2,.r r_1)] [1,3] [(7,sv p3 s1.1 c3),(21,vi s1.2)] [Al (zX (zH .i64)) 22 r_1 p3 c3 s1.1])<|
 au
abbrev zIt:=@Cn.mk 199 4 _ @zEE
theorem zQy{y0:List Int}{y1:List Int}: zP qd prog 206 [sv p1 y0 c1,sv p2 y1 c2] [] [Rl (zH .i64) p1 c1 y0,Rl (zH .i64) p2 c2 y1] (zDN y0 y1) fun r K=>K (vb r) [] [] :=
 zO call206 func206 u fun X=>
 au
abbrev zRT:=@Cn.mk 206 0 _ @zQy
attribute [instance] zIt zRT
theorem zIb{y0:List Int}{y2:List Int}: wL qd prog 253 [sv p1 y0 c1,pt b1 0,pt b2 0] [bx b1 270 [.func (.func 206) #[] #[]],bx b2 22 [sv p2 y2 c2]] [Rl (zH .i64) p1 c1 y0,Rl (zH .i64) p2 c2 y2] (zBG y0 y2) fun L r K=>K (vb r) L [] :=
 zO call253 func253 u fun X=>
 au
abbrev zI6:=@Cn.mk 253 2 _ @zIb
attribute [instance] zI6
theorem zDU{y0:List (List Int)}{y2:List Int}: wL qd prog 259 [sv p1 y0 c1,.func (.func 253) #[] #[pt b1 0,pt b2 0]] [bx b1 270 [.func (.func 206) #[] #[]],bx b2 22 [sv p2 y2 c2]] [Rl (zX (zH .i64)) p1 c1 y0,Rl (zH .i64) p2 c2 y2] (zAg y0 y2) fun L r K=>K (vi r) L [] :=
 zO call259 func259 u fun X=>hI 0 2 1 (fun(s1:Int) K=>K [0,1,7] [] [0,1] [(8,vi s1)] [])<|
 au
abbrev zH2:=@Cn.mk 259 3 _ @zDU
theorem zCx{y0:List (List Int)}{y2:List Int}: wL qd prog 210 [sv p1 y0 c1,.func (.func 253) #[] #[pt b1 0,pt b2 0]] [bx b1 270 [.func (.func 206) #[] #[]],bx b2 22 [sv p2 y2 c2]] [Rl (zX (zH .i64)) p1 c1 y0,Rl (zH .i64) p2 c2 y2] (zAJ y0 y2) fun L r K=>K (vb r) L [] :=
 zO call210 func210 u fun X=>jA 1 u<|zJ<|zA 2 u<|qK .s [0,1] [] zDU u u u (cq [0,1])<|fun r1 _ k=>k<|zA 2 u<|zL<|qP<|yY u u kk [0,1] d
abbrev zGW:=@Cn.mk 210 3 _ @zCx
theorem zEN{y0:qE}: zP qd prog 202 [.agg (yD y0 p1 c1).toArray,.func (.func 206) #[] #[]] [] [Rl wK p1 c1 y0.2,Pt (vF 64 (zH .u8)) 5 0 yC] (zAj y0) fun r K=>∀ p2 c2,K (.tuple #[sv p2 r.1 c2,vi r.2]) [] [Rl (zX (zH .i64)) p2 c2 r.1] :=
 zO call202 func202 u fun X=>zJ<|vH .s u<|fun b1=>vH .s u<|fun b2=>zA 2 u<|zL<|zJ<|wW 0 2 u u u<|wD zKi u (cq [0,1])<|fun r1 _ k p2 c2=>k<|zA 5 u<|zL<|zS<|jA 2 u<|zV u (jA 3 u<|qP<|yX<|
  uI u (lT u (lT u lN)) (fun _ k=>k none 0) [] ⟨gn,d⟩)<|jC<|zJ<|zA 1 u<|uA (zX (zH .i64)) 22 <|zL<|zS<|jA 3 u<|zZ<|
  wP (fun s1 K=>∀ p3 c3 r_1,K [3,6,19,20] [(0,[]),(2,r_1)] [1,3] [(8,sv p3 s1.1 c3),(21,vi s1.2)] [Al (zX (zH .i64)) 22 r_1 p3 c3 s1.1]) (gv (fun _ k=>k none 0 []) [900,1,2] (gq [0,1,3]))<|
  fun s1 _ k p3 c3 r_1=>k<|jA 1 u<|zS<|zV u (jC<|zS<|zZ<|zJ<|yK 1 u u u<|fun x1 b3 o1=>yS false oL (gk 0) u<|fun p4 c4=>vD .s (.slice none 0 0)<|fun b4=>wA .s 3 u u u<|zL<|zJ<|zA 2 u<|
  qK .s [1,3] [] zCx u u u (cq [3,0])<|fun r2 _ k=>k<|zA 1 u<|zL<|zV u (vM<|zA 1 u<|qJ 3 u u u<|
  uC .s (e:=zX (zH .i64)) 22 [sv p4 x1 c4] ([x1]:List (List Int)) (rC (vL (gk 0)) rN)<|fun p5 c5=>xL .s 2 3 u (gk 0) u u<|fun x2 r_2 p6 c6=>zA 1 u<|wN<|yL<|qN<|jB 2 u<|
  uG (gv (fun _ k=>k p6 c6 r_2) [900,1,2] (gq [0,5,6])))<|uM<|yL<|qN<|jB 2 u<|uG (gv (fun _ k=>k p3 c3 r_1) [900,1,2] (gq [2,3,4])))<|xF<|uP<|uS<|xD<|qN<|jA 3 u<|qP<|yU 2 0 u u<|
  uI u (lT u (lT u lN)) (fun _ k=>k p3 c3) [] (gq [0])
abbrev zJC:=@Cn.mk 202 2 _ @zEN
theorem zSa{y0:qE}: zP qd prog 155 [.agg (yD y0 p1 c1).toArray] [] [Rl wK p1 c1 y0.2,Pt (vF 64 (zH .u8)) 5 0 yC] (zC8 y0) fun r K=>∀ p2 c2,K (.tuple #[sv p2 r.1 c2,vi r.2]) [] [Rl (zX (zH .i64)) p2 c2 r.1] :=
 zO call155 func155 u fun X=>zJ<|vH .s u<|fun b1=>zA 2 u<|zL<|zJ<|wW 0 2 u u u<|wD zEN u (cq [0,1])<|fun r1 _ k p2 c2=>k<|zA 4 u<|zL<|qP<|uI u (lT u (lT u lN)) (fun _ k=>k p2 c2) [] (gq [0])
abbrev zTG:=@Cn.mk 155 0 _ @zSa
attribute [instance] zH2 zGW zJC zTG
theorem zFV{y0:qE}: wL qd prog 199 [.agg (yD y0 p1 c1).toArray,pt b1 0] [bx b1 182 [.func (.func 155) #[] #[]]] [Rl wK p1 c1 y0.2,Pt (vF 64 (zH .u8)) 5 0 yC] (zAT y0) fun L r K=>∀ p2 c2,K (.tuple #[sv p2 r.1 c2,vi r.2]) L [Rl (zX (zH .i64)) p2 c2 r.1] :=
 zO call199 func199 u fun X=>hR 7 2 (zX (zH .i64)) 22<|hI 0 6 1 (fun(s1:(List (List Int))×Int) K=>∀ p3 c3 r_1,K [19,20] [(1,.r []),(2,.r r_1)] [1,3] [(7,sv p3 s1.1 c3),(21,vi s1.2)] [Al (zX (zH .i64)) 22 r_1 p3 c3 s1.1])<|
 au
abbrev zKM:=@Cn.mk 199 5 _ @zFV
attribute [instance] zKM
theorem zFj{y0:qE}: wL qd prog 199 [.agg (yD y0 p1 c1).toArray,pt b1 0] [bx b1 182 [.func (.func 153) #[] #[]]] [Rl wK p1 c1 y0.2,Pt (vF 64 (zH .u8)) 5 0 yC] (zAV y0) fun L r K=>∀ p2 c2,K (.tuple #[sv p2 r.1 c2,vi r.2]) L [Rl (zX (zH .i64)) p2 c2 r.1] :=
 zO call199 func199 u fun X=>hR 7 2 (zX (zH .i64)) 22<|hI 0 6 1 (fun(s1:(List (List Int))×Int) K=>∀ p3 c3 r_1,K [19,20] [(1,.r []),(2,.r r_1)] [1,3] [(7,sv p3 s1.1 c3),(21,vi s1.2)] [Al (zX (zH .i64)) 22 r_1 p3 c3 s1.1])<|
 au
abbrev zKU:=@Cn.mk 199 6 _ @zFj
theorem zS1{y0:qE}{y1:Int}: zP qd prog 52 [.agg (yD y0 p1 c1).toArray,vi y1] [] [Rl wK p1 c1 y0.2,Pt (vF 64 (zH .u8)) 5 0 yC] (zBZ y0 y1) fun r K=>∀ p2 c2,K (.tuple #[sv p2 r.1 c2,vi r.2]) [] [Rl (zX (zH .i64)) p2 c2 r.1] :=
 zO call52 func52 u fun X=>zJ<|vH .s u<|fun b1=>zA 2 u<|zL<|zS<|zJ<|wW 0 2 u u u<|wD zLZ u (cq [0])<|fun r1 _ k=>k<|zA 1 u<|zL<|jA 2 u<|zV u (jA 3 u<|qP<|yX<|uI u (lT u (lT u lN)) (fun _ k=>k none 0) [] ⟨gn,d⟩)<|
  jC<|zJ<|wD zPH u d<|fun r2 _ k b2 b3 b4 b5 b6 b7 b8 b9 b10 b11 b12=>k<|zA 1 u<|zL<|zS<|
  z7v (fun K=>K [1,2,7] [] [0,1] [(21,vb ((decide (y1<1))||(decide (((10:Nat):Int)≤y1))))] []) (vM<|zA 3 u<|
  jsp (b:=decide (y1<1)) 16 u (fun hb1=>zA 4 u<|qD (vb true)<|wN<|xR 21 (vb ((decide (y1<1))||(decide (((10:Nat):Int)≤y1)))) u (by rw[hb1];rfl)<|qI (gv kk [0,1,2,3,4,5,6,7,8,9,10,11] (gq [0,1]))
  )<|fun hb1=>zA 4 u<|qD (vb (decide (((10:Nat):Int)≤y1)))<|wN<|xR 21 (vb ((decide (y1<1))||(decide (((10:Nat):Int)≤y1)))) u (by rw[hb1];rfl)<|qI (gv kk [0,1,2,3,4,5,6,7,8,9,10,11] (gq [0,1])))<|fun _ k=>
  k<|zV u (jA 2 u<|qP<|yX<|uI u (lT u (lT u lN)) (fun _ k=>k none 0) [] ⟨gn,d⟩)<|jC<|
  jjn (fun s1 K=>∀ p2 c2,K [(4,sv p2 s1.1 c2),(5,vi s1.2)] [[],[],[],[],[],[],[],[],[],[],[],[]] [Rl (zX (zH .i64)) p2 c2 s1.1,Pt (vF 64 (zH .u8)) 5 0 yC]) (
  jdS [] [0,1] 10<|qB 8 [0,1] u<|z9F (c:=1) (fun hb2=>xR 23 (vi 1) u (by rw[hb2])<|tA (v:=pt b2 1) 2 u (fun h=>zTW h u u (by decide) (by kernel_rfl) u)<|yA 3 1 u u u u<|
  xV 4 0 2 u u u u<|qQ 5<|qK (.f u) [2,3] [] zFh u u u (cq [0,1])<|fun r3 _ k p3 c3=>k<|qU<|qB 0 [6,7,8,9] u<|wI<|
  qI (gv (fun _ k=>k p3 c3) [900,901,902,903,904,905,906,907,908,909,910,911] (gq [0,2])))<|z9F (c:=2) (fun hb3=>xR 23 (vi 2) u (by rw[hb3])<|tA (v:=pt b2 2) 2 u (fun h=>zTW h u u (by decide) (by kernel_rfl) u)<|
  yA 3 1 u u u u<|xV 4 0 2 u u u u<|qQ 5<|qK (.f u) [4] [] zFj u u u (cq [0,1])<|fun r4 _ k p4 c4=>k<|qU<|qB 0 [6,7,8,9] u<|wI<|
  qI (gv (fun _ k=>k p4 c4) [900,901,902,903,904,905,906,907,908,909,910,911] (gq [0,2])))<|z9F (c:=3) (fun hb4=>xR 23 (vi 3) u (by rw[hb4])<|tA (v:=pt b2 3) 2 u (fun h=>zTW h u u (by decide) (by kernel_rfl) u)<|
  yA 3 1 u u u u<|xV 4 0 2 u u u u<|qQ 5<|qK (.f u) [5] [] zEO u u u (cq [0,1])<|fun r5 _ k p5 c5=>k<|qU<|qB 0 [6,7,8,9] u<|wI<|
  qI (gv (fun _ k=>k p5 c5) [900,901,902,903,904,905,906,907,908,909,910,911] (gq [0,2])))<|z9F (c:=4) (fun hb5=>xR 23 (vi 4) u (by rw[hb5])<|tA (v:=pt b2 4) 2 u (fun h=>zTW h u u (by decide) (by kernel_rfl) u)<|
  yA 3 1 u u u u<|xV 4 0 2 u u u u<|qQ 5<|qK (.f u) [6] [] zFV u u u (cq [0,1])<|fun r6 _ k p6 c6=>k<|qU<|qB 0 [6,7,8,9] u<|wI<|
  qI (gv (fun _ k=>k p6 c6) [900,901,902,903,904,905,906,907,908,909,910,911] (gq [0,2])))<|z9F (c:=5) (fun hb6=>xR 23 (vi 5) u (by rw[hb6])<|tA (v:=pt b2 5) 2 u (fun h=>zTW h u u (by decide) (by kernel_rfl) u)<|
  yA 3 1 u u u u<|xV 4 0 2 u u u u<|qQ 5<|qK (.f u) [7] [] zEE u u u (cq [0,1])<|fun r7 _ k p7 c7=>k<|qU<|qB 0 [6,7,8,9] u<|wI<|
  qI (gv (fun _ k=>k p7 c7) [900,901,902,903,904,905,906,907,908,909,910,911] (gq [0,2])))<|z9F (c:=6) (fun hb7=>xR 23 (vi 6) u (by rw[hb7])<|tA (v:=pt b2 6) 2 u (fun h=>zTW h u u (by decide) (by kernel_rfl) u)<|
  yA 3 1 u u u u<|xV 4 0 2 u u u u<|qQ 5<|qK (.f u) [8,9] [] zEv u u u (cq [0,1])<|fun r8 _ k p8 c8=>k<|qU<|qB 0 [6,7,8,9] u<|wI<|
  qI (gv (fun _ k=>k p8 c8) [900,901,902,903,904,905,906,907,908,909,910,911] (gq [0,2])))<|z9F (c:=7) (fun hb8=>xR 23 (vi 7) u (by rw[hb8])<|tA (v:=pt b2 7) 2 u (fun h=>zTW h u u (by decide) (by kernel_rfl) u)<|
  yA 3 1 u u u u<|xV 4 0 2 u u u u<|qQ 5<|qK (.f u) [10,11] [] zEu u u u (cq [0,1])<|fun r9 _ k p9 c9=>k<|qU<|qB 0 [6,7,8,9] u<|wI<|
  qI (gv (fun _ k=>k p9 c9) [900,901,902,903,904,905,906,907,908,909,910,911] (gq [0,2])))<|z9F (c:=8) (fun hb9=>xR 23 (vi 8) u (by rw[hb9])<|tA (v:=pt b2 8) 2 u (fun h=>zTW h u u (by decide) (by kernel_rfl) u)<|
  yA 3 1 u u u u<|xV 4 0 2 u u u u<|jno)<|z9F (c:=9) (fun hb10=>xR 23 (vi 9) u (by rw[hb10])<|tA (v:=pt b2 9) 2 u (fun h=>zTW h u u (by decide) (by kernel_rfl) u)<|yA 3 1 u u u u<|
  xV 4 0 2 u u u u<|jno)<|jno)<|fun s1 _ k p2 c2=>k<|qP<|uI u (lT u (lT u lN)) (fun _ k=>k p2 c2) [] (gq [0])
abbrev zRb:=@Cn.mk 52 0 _ @zS1
attribute [instance] zKU zRb
theorem zQx{y0:zFE}{y1:Int}: zP qd prog 15 [.agg (zUR y0 p1 c1 p2 c2 p3 c3 p4 c4 p5 c5 p6 c6).toArray,vi y1] [] (zTu y0 p1 c1 p2 c2 p3 c3 p4 c4 p5 c5 p6 c6 [Pt (vF 64 (zH .u8)) 5 0 yC]) (zBg y0 y1) fun r K=>∀ p7 c7,K (.tuple #[sv p7 r.1 c7,vi r.2]) [] [Rl (zX qH) p7 c7 r.1] :=
 zO call15 func15 u fun X=>hR 8 1 (zX qH) 59<|hI 0 6 1 (fun(s1:(List (List zC))×Int) K=>∀ p8 c8 r_1,K [2,21,22] [(1,.r r_1)] [1,2,3,4,5,6,7,8] [(8,sv p8 s1.1 c8),(23,vi s1.2)] [Al (zX qH) 59 r_1 p8 c8 s1.1])<|
 au
abbrev zRC:=@Cn.mk 15 0 _ @zQx
theorem zY4{y0:List Int}: zP qd prog 4 [sv p1 y0 c1] [] [Rl (zH .i64) p1 c1 y0] (zQo y0) fun r K=>∀ b1 p2 c2,K (pt b1 0) [bx b1 65 (zJc r p2 c2)] (zJj r p2 c2 []) :=
 zO call4 func4 u fun X=>
 au
abbrev z4u:=@Cn.mk 4 0 _ @zY4
theorem zVf:zP qd prog 13 [] [] [] (zLr) fun r K=>∀ p1 c1,K (sv p1 r c1) [] [Rl zQp p1 c1 r] :=
 zO call13 func13 u fun X=>
 au
abbrev zVo:=@Cn.mk 13 0 _ @zVf
theorem zYs{y0:Int}{y1:Int}: zP qd prog 23 [vi y0,vi y1] [] [] (zMK y0 y1) fun r K=>K (vi r) [] [] :=
 zO call23 func23 u fun X=>
 au
abbrev z5Y:=@Cn.mk 23 0 _ @zYs
attribute [instance] zRC z4u zVo z5Y
theorem zMT{y0:Int}: zP qd prog 34 [vi y0] [] [] (zGQ y0) fun r K=>K (vs r) [] [] :=
 zO call34 func34 u fun X=>jA 1 u<|zJ<|zA 1 u<|wD zYs u d<|fun r1 _ k=>k<|zA 1 u<|qD (.int .u8 (IntKind.u8.wrap (zM ((97:Int)+r1))))<|
 au
abbrev zX8:=@Cn.mk 34 0 _ @zMT
theorem zXo{y0:uK}: zP qd prog 24 [pt b1 0] [bx b1 65 (zJc y0 p1 c1)] (zJj y0 p1 c1 []) (zKv y0) fun r K=>K (vi r.1) [bx b1 65 [sv p1 y0.1 c1,vi r.2]] [] :=
 zO call24 func24 u fun X=>hD 1 [] [0] (.l [0,1,2,3,4,5,6,7,8,9] .e)<|hD 4 [] [0] (.l [0,1,2,3,4,5,6,7,8,9,10,11] .e)<|
 au
abbrev zYF:=@Cn.mk 24 0 _ @zXo
end Go.Proofs.YtgdgcdmdogdmgaaGreatDoor
