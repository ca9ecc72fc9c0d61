/- The Go functions compute their models: printed by program (gd3). Conditions: none. -/
import Derived.Test.YtnlkkepioljniaaGreatDoorProg
import Derived.Test.YtnlkkepioljniaaGreatDoorSb3
import Derived.Test.YtnlkkepioljniaaGreatDoorFrmJ
import Derived.Test.YtnlkkepioljniaaGreatDoorModels
import Derived.Test.YtnlkkepioljniaaGreatDoorSort
import Derived.Test.YtnlkkepioljniaaGreatDoorShelfP
import Derived.Test.YtnlkkepioljniaaGreatDoorArrl
namespace Go.Proofs.YtnlkkepioljniaaGreatDoor
open Go Go.GD
set_option autoImplicit false
set_option maxRecDepth 100000
variable {p1 p2 p3 p4 p5 p6 p7 p8 p9 : Option Addr} {c1 c2 c3 c4 c5 c6 c7 c8 c9 : Nat} {b1 : Nat} {r_1 r_2 : Res}

abbrev e_keep_Src : E T_keep_Src := eProd (eSlice (eInt .i64)) (eInt .i64)
abbrev o_keep_Src : Opn e_keep_Src := (oP oL oI)
abbrev e_Literal : E T_Literal := eProd eBool eStr
abbrev o_Literal : Opn e_Literal := (oP oB oS)
abbrev e_Premise : E T_Premise := eProd e_Literal (eProd (eInt .i64) (eProd (eInt .i64) eStr))
abbrev o_Premise : Opn e_Premise := (oP o_Literal (oP oI (oP oI oS)))
abbrev e_Rule : E T_Rule := eProd eStr (eProd eBool (eProd (eInt .i64) (eProd (eSlice e_Literal) e_Literal)))
abbrev o_Rule : Opn e_Rule := (oP oS (oP oB (oP oI (oP oL o_Literal))))
abbrev e_Promotion : E T_Promotion := eProd eStr (eProd (eInt .i64) e_Literal)
abbrev o_Promotion : Opn e_Promotion := (oP oS (oP oI o_Literal))
abbrev e_Base : E T_Base := eProd (eSlice e_Premise) (eProd (eSlice e_Rule) (eSlice e_Promotion))
abbrev o_Base : Opn e_Base := (oP oL (oP oL oL))
abbrev e_Ordering : E T_Ordering := eProd (eInt .i64) (eInt .i64)
abbrev o_Ordering : Opn e_Ordering := (oP oI oI)
abbrev e_Argument : E T_Argument := eProd (eInt .i64) (eProd (eInt .i64) (eProd (eSlice (eInt .i64)) e_Literal))
abbrev o_Argument : Opn e_Argument := (oP oI (oP oI (oP oL o_Literal)))
abbrev e_Attack : E T_Attack := eProd (eInt .i64) (eProd (eInt .i64) (eProd (eInt .i64) (eInt .i64)))
abbrev o_Attack : Opn e_Attack := (oP oI (oP oI (oP oI oI)))
abbrev e_Pair : E T_Pair := eProd (eInt .i64) (eInt .i64)
abbrev o_Pair : Opn e_Pair := (oP oI oI)
abbrev e_Graph : E T_Graph := eProd (eInt .i64) (eSlice e_Pair)
abbrev o_Graph : Opn e_Graph := (oP oI oL)
abbrev e_Compiled : E T_Compiled := eProd e_Base (eProd (eSlice e_Argument) (eProd (eSlice e_Attack) e_Graph))
abbrev o_Compiled : Opn e_Compiled := (oP o_Base (oP oL (oP oL o_Graph)))
abbrev e_Order : E T_Order := eProd (eSlice eStr) (eSlice (eInt .i64))
abbrev o_Order : Opn e_Order := (oP oL oL)

theorem c_keep_New {qd : Prop} {y0 : List Int} : Con qd Tryz.prog 4 [sv p1 y0 c1] [] [Rl (eInt .i64) p1 c1 y0] (m_keep_New y0) fun r K=>∀ b1 p2 c2,K (pt b1 0) [bx b1 59 [sv p2 r.1 c2, vi r.2]] [Rl (eInt .i64) p2 c2 r.1] :=
 ent3 Tryz.call4 Tryz.func4 rfl fun X=>jsr<|jpc 1 rfl<|jot<|jsr<|jpc 4 rfl<|jsl (gk 0) rfl rfl rfl (.inl ⟨rfl, rfl⟩) (.inr ⟨_, rfl⟩)<|fun x1 p2 c2=>jpe (.agg #[sv p2 x1 c2, vi 0])<|jbx .s rfl<|fun b1=>jpc 1 rfl<|jot<|jxr<|jr1 rfl rfl (fun _ k=>k b1 p2 c2) [0] ⟨gk 0,⟨⟩⟩

theorem c_keep_Mod {qd : Prop} {y0 : Int} {y1 : Int} : Con qd Tryz.prog 38 [vi y0, vi y1] [] [] (m_keep_Mod y0 y1) fun r K=>K (vi r) [] [] :=
 ent3 Tryz.call38 Tryz.func38 rfl fun X=>jsr<|jpc 1 rfl<|jot<|jsq<|jsr<|jpc 2 rfl<|jot<|jif rfl (jsr<|jpc 1 rfl<|jot<|jxr<|jtr<|jr1 rfl rfl (fun _ k=>k) [] ⟨⟩)<|jsk<|jtn<|jsr<|jpc 2 rfl<|jbd fun x1 h1=>jv (fun h=>r_remK h rfl rfl h1)<|jpc 1 rfl<|jot<|jsq<|jsr<|jpc 2 rfl<|jot<|
  jif rfl (jrg<|jpc 4 rfl<|joe<|jtn<|jsr<|jpc 2 rfl<|jot<|jxr<|jr1 rfl rfl (fun _ k=>k) [] ⟨⟩)<|jsk<|jtn<|jsr<|jpc 2 rfl<|jot<|jxr<|jr1 rfl rfl (fun _ k=>k) [] ⟨⟩

theorem c_keep_RuleName {qd : Prop} {y0 : Int} : Con qd Tryz.prog 26 [vi y0] [] [] (m_keep_RuleName y0) fun r K=>K (vs r) [] [] :=
 ent3 Tryz.call26 Tryz.func26 rfl fun X=>jsr<|jpc 1 rfl<|jot<|jsr<|jpc 1 rfl<|jcl c_keep_Mod rfl ⟨⟩<|fun r1 _ k=>k<|jpc 1 rfl<|jpe (.int .u8 (IntKind.u8.wrap (w64 ((97 : Int) + r1))))<|
  jbs .s (e := eInt .u8) 5 [.int .u8 (IntKind.u8.wrap (w64 ((97 : Int) + r1)))] ([IntKind.u8.wrap (w64 ((97 : Int) + r1))] : List Int) (rC vI rN)<|fun p1 c1=>jsb .s (gk 0) rfl Tryz.underlying103 Tryz.underlying5 Tryz.underlying9<|jbd fun x1 h1=>
  jv (fun h=>r_cat h rfl rfl h1)<|jpc 1 rfl<|jot<|jxr<|jr1 rfl rfl (fun _ k=>k) [] ⟨⟩

theorem c_keep_Src_Raw {qd : Prop} {y0 : T_keep_Src} : Con qd Tryz.prog 39 [pt b1 0] [bx b1 59 [sv p1 y0.1 c1, vi y0.2]] [Rl (eInt .i64) p1 c1 y0.1] (m_keep_Src_Raw y0) fun r K=>K (vi r.1) [bx b1 59 [sv p1 y0.1 c1, vi r.2]] [] :=
 ent3 Tryz.call39 Tryz.func39 rfl fun X=>jsr<|jpc 1 rfl<|jot<|jsq<|jds [] [0] 10<|jdc 8 [0,1] rfl<|jdf 2 1 rfl rfl<|jdo 3 0 rfl rfl rfl rfl<|jdc 4 [4,5] rfl<|jdf 6 0 rfl rfl<|jdo 7 0 rfl rfl rfl rfl<|jdc 0 [8,9] rfl<|jde<|jtn<|jif rfl (jsr<|jpc 1 rfl<|jot<|jxr<|jtr<|
  jr1 rfl rfl (fun _ k=>k) [0] ⟨⟩)<|jsk<|jtn<|jsr<|jpc 2 rfl<|jfa 1 rfl<|jlo 0 rfl rfl rfl<|jpc 2 rfl<|jfa 1 rfl<|jso .s 0 rfl rfl rfl<|jot<|jds [] [0] 12<|jdc 10 [0,1] rfl<|jdf 2 0 rfl rfl<|jdo 3 0 rfl rfl rfl rfl<|jdc 6 [4,5] rfl<|
  jdf 6 1 rfl rfl<|jdo 7 0 rfl rfl rfl rfl<|jdc 3 [8] rfl<|jdi 9 0 rfl rfl rfl rfl<|fun x1 b2 o1=>jdl 10 false oI rfl (gk 0) rfl<|jdc 0 [11] rfl<|jde<|jtn<|jxr<|jr1 rfl rfl (fun _ k=>k) [0] ⟨⟩

theorem c_keep_Src_N {qd : Prop} {y0 : T_keep_Src} {y1 : Int} : Con qd Tryz.prog 15 [pt b1 0, vi y1] [bx b1 59 [sv p1 y0.1 c1, vi y0.2]] [Rl (eInt .i64) p1 c1 y0.1] (m_keep_Src_N y0 y1) fun r K=>K (vi r.1) [bx b1 59 [sv p1 y0.1 c1, vi r.2]] [] :=
 ent3 Tryz.call15 Tryz.func15 rfl fun X=>jsr<|jpc 1 rfl<|jot<|jsr<|jpc 1 rfl<|jca .s [0] [] c_keep_Src_Raw rfl rfl rfl ⟨ck 0,⟨⟩⟩<|fun r1 _ k=>k<|jpc 1 rfl<|jcl c_keep_Mod rfl ⟨⟩<|fun r2 _ k=>k<|jpc 1 rfl<|jot<|jxr<|jr1 rfl rfl (fun _ k=>k) [0] ⟨⟩

theorem c_keep_Src_Literal {qd : Prop} {y0 : T_keep_Src} {y1 : Int} : Con qd Tryz.prog 23 [pt b1 0, vi y1] [bx b1 59 [sv p1 y0.1 c1, vi y0.2]] [Rl (eInt .i64) p1 c1 y0.1] (m_keep_Src_Literal y0 y1) fun r K=>K (.agg #[vb r.1.1, vs r.1.2]) [bx b1 59 [sv p1 y0.1 c1, vi r.2]] [] :=
 ent3 Tryz.call23 Tryz.func23 rfl fun X=>jsr<|jal .s (.agg #[vb false, vs []])<|fun b2=>jot<|jsr<|jpc 3 rfl<|jca .s [0] [] c_keep_Src_N rfl rfl rfl ⟨ck 0,⟨⟩⟩<|fun r1 _ k=>k<|jpc 1 rfl<|jot<|jsr<|jpc 4 rfl<|jbd fun x1 h1=>jv (fun h=>r_quoK h rfl rfl h1)<|jpc 1 rfl<|
  jpe (.int .u8 (IntKind.u8.wrap (w64 ((97 : Int) + x1))))<|jbs .s (e := eInt .u8) 5 [.int .u8 (IntKind.u8.wrap (w64 ((97 : Int) + x1)))] ([IntKind.u8.wrap (w64 ((97 : Int) + x1))] : List Int) (rC vI rN)<|fun p2 c2=>
  jsb .s (gk 0) rfl Tryz.underlying103 Tryz.underlying5 Tryz.underlying9<|jpe (.agg #[vb ((band .i64 r1.1 1) == 1), vs (strOf ([IntKind.u8.wrap (w64 ((97 : Int) + x1))] : List Int))])<|jso .s 1 rfl rfl rfl<|jot<|jxr<|
  jrg' rfl (lC 1 (.agg #[vb ((band .i64 r1.1 1) == 1), vs (strOf ([IntKind.u8.wrap (w64 ((97 : Int) + x1))] : List Int))]) rfl rfl lN) (fun _ k=>k) [0] ⟨⟩

theorem c_keep_Src_Literals {qd : Prop} {y0 : T_keep_Src} {y1 : Int} {y2 : Int} : Con qd Tryz.prog 28 [pt b1 0, vi y1, vi y2] [bx b1 59 [sv p1 y0.1 c1, vi y0.2]] [Rl (eInt .i64) p1 c1 y0.1] (m_keep_Src_Literals y0 y1 y2) fun r K=>∀ p2 c2,K (sv p2 r.1 c2) [bx b1 59 [sv p1 y0.1 c1, vi r.2]] [Rl e_Literal p2 c2 r.1] :=
 ent3 Tryz.call28 Tryz.func28 rfl fun X=>jsr<|jpc 1 rfl<|jot<|jsr<|jpc 1 rfl<|jro e_Literal 51<|jot<|jsq<|jsr<|jpc 3 rfl<|jca .s [0] [] c_keep_Src_N rfl rfl rfl ⟨ck 1,⟨⟩⟩<|fun r1 _ k=>k<|jpc 1 rfl<|jot<|jbk<|
  jlp (fun s1 K=>∀ p2 c2 r_1,K [(0, pt b1 0), (2, vi y2), (7, sv p2 s1.1 c2), (8, vi s1.2.1)] [bx b1 59 [sv p1 y0.1 c1, vi s1.2.2], r_1] [Al e_Literal 51 r_1 p2 c2 s1.1, Rl (eInt .i64) p1 c1 y0.1]) (gv (fun _ k=>k none 0 []) [0,1] ⟨gk 0,gk 1,⟨⟩⟩)<|
  fun s1 _ k p2 c2 r_1=>k<|jsq<|jsr<|jpc 2 rfl<|jot<|jif rfl (jsk<|jtn<|jsq<|jbk<|jrg<|jpc 3 rfl<|jca .s [0] [] c_keep_Src_Literal rfl rfl rfl ⟨ck 1,⟨⟩⟩<|fun r2 _ k=>k<|
  jbs .s (e := e_Literal) 51 [vb r2.1.1, vs r2.1.2] ([r2.1] : List T_Literal) (rC (vP vB vS) rN)<|fun p3 c3=>jar .s 1 1 rfl (gk 0) rfl rfl<|fun x1 r_2 p4 c4=>jpc 1 rfl<|joe<|jbn<|jtn<|jrg<|jpc 3 rfl<|joe<|
  jln (gv (fun _ k=>k p4 c4 r_2) [0,1] ⟨gk 0,gk 3,⟨⟩⟩))<|jxe<|jte<|jle<|jbh<|jtn<|jsr<|jpc 2 rfl<|jot<|jxr<|jsh 1 0 rfl rfl<|jr1 rfl rfl (fun _ k=>k p2 c2) [0] ⟨gk 0,⟨⟩⟩

theorem c_keep_Src_Pick {qd : Prop} {y0 : T_keep_Src} {y1 : List Int} : Con qd Tryz.prog 24 [pt b1 0, sv p2 y1 c2] [bx b1 59 [sv p1 y0.1 c1, vi y0.2]] [Rl (eInt .i64) p1 c1 y0.1, Rl (eInt .i64) p2 c2 y1] (m_keep_Src_Pick y0 y1) fun r K=>K (vi r.1) [bx b1 59 [sv p1 y0.1 c1, vi r.2]] [] :=
 ent3 Tryz.call24 Tryz.func24 rfl fun X=>jsr<|jpc 1 rfl<|jot<|jsr<|jpc 4 rfl<|jca .s [0] [] c_keep_Src_N rfl rfl rfl ⟨ck 0,⟨⟩⟩<|fun r1 _ k=>k<|jix 1 rfl rfl rfl<|fun x1 b2 o1=>jld false oI (gk 0) rfl<|jpc 1 rfl<|jot<|jxr<|jr1 rfl rfl (fun _ k=>k) [0] ⟨⟩

theorem c_keep_Src_Text {qd : Prop} {y0 : T_keep_Src} {y1 : List Str} : Con qd Tryz.prog 25 [pt b1 0, sv p2 y1 c2] [bx b1 59 [sv p1 y0.1 c1, vi y0.2]] [Rl (eInt .i64) p1 c1 y0.1, Rl eStr p2 c2 y1] (m_keep_Src_Text y0 y1) fun r K=>K (vs r.1) [bx b1 59 [sv p1 y0.1 c1, vi r.2]] [] :=
 ent3 Tryz.call25 Tryz.func25 rfl fun X=>jsr<|jpc 1 rfl<|jot<|jsr<|jpc 4 rfl<|jca .s [0] [] c_keep_Src_N rfl rfl rfl ⟨ck 0,⟨⟩⟩<|fun r1 _ k=>k<|jix 1 rfl rfl rfl<|fun x1 b2 o1=>jld false oS (gk 0) rfl<|jpc 1 rfl<|jot<|jxr<|jr1 rfl rfl (fun _ k=>k) [0] ⟨⟩

theorem c_keep_sorted {qd : Prop} {y0 : List T_Literal} : Con qd Tryz.prog 27 [sv p1 y0 c1] [] [Rl e_Literal p1 c1 y0] (m_keep_sorted y0) fun r K=>∀ p2 c2,K (sv p2 r c2) [] [Rl e_Literal p2 c2 r] :=
 ent3 Tryz.call27 Tryz.func27 rfl fun X=>jsr<|jpc 1 rfl<|jot<|jsr<|jpc 1 rfl<|jro e_Literal 51<|jot<|jsq<|jsr<|jpc 3 rfl<|jot<|jbk<|
  jlp (fun s1 K=>∀ p2 c2 r_1,K [(3, sv p2 s1.1 c2), (7, sv p1 y0 c1), (8, vi (len y0)), (9, vi s1.2)] [r_1] [Al e_Literal 51 r_1 p2 c2 s1.1, Rl e_Literal p1 c1 y0]) (gv (fun _ k=>k none 0 []) [0] ⟨gk 0,gk 1,⟨⟩⟩)<|fun s1 _ k p2 c2 r_1=>k<|
  jsr<|jpc 1 rfl<|jot<|jsq<|jif rfl (jsk<|jtn<|jsq<|jbk<|jsr<|jix 1 rfl rfl rfl<|fun x1 b1 o1=>jld true o_Literal (gk 0) rfl<|jal .s (.agg #[vb false, vs []])<|fun b2=>jso .s 1 rfl rfl rfl<|jot<|jsr<|jpc 1 rfl<|jot<|
  jjn (fun s2 K=>K [(3, sv p2 s1.1 c2), (5, pt b2 0), (6, vi s2), (7, sv p1 y0 c1), (8, vi (len y0)), (9, vi s1.2)] [r_1, bx b2 51 [vb x1.1, vs x1.2]] [Al e_Literal 51 r_1 p2 c2 s1.1, Rl e_Literal p1 c1 y0]) (jbk<|
  jlp (fun s3 K=>K [(3, sv p2 s1.1 c2), (5, pt b2 0), (6, vi s3), (7, sv p1 y0 c1), (8, vi (len y0)), (9, vi s1.2)] [r_1, bx b2 51 [vb x1.1, vs x1.2]] [Al e_Literal 51 r_1 p2 c2 s1.1, Rl e_Literal p1 c1 y0]) (gv (fun _ k=>k) [0,1] ⟨gk 1,gk 2,⟨⟩⟩)<|
  fun s3 _ k=>k<|jsq<|jjn (fun s4 K=>K [(3, sv p2 s1.1 c2), (5, pt b2 0), (6, vi s3), (7, sv p1 y0 c1), (8, vi (len y0)), (9, vi s1.2), (48, vb s4)] [r_1, bx b2 51 [vb x1.1, vs x1.2]] [Al e_Literal 51 r_1 p2 c2 s1.1, Rl e_Literal p1 c1 y0]) (
  jdS [] [0, 1] 36<|jdc 31 [0,1,2,3,4] rfl<|jsg 17 rfl (jdc 29 [5,6] rfl<|jdI 7 0 rfl rfl rfl rfl<|fun x2 h1 b3 hp1=>jdf 8 1 rfl rfl<|jdL 9 0 0 sI.snd false oS rfl rfl hp1 h1 rfl<|jdf 10 1 rfl rfl<|jdo 11 1 rfl rfl rfl rfl<|
  jdc 22 [12,13] rfl<|jsg 26 rfl (jdc 2 [14,15,16,17,18,19,20,21,22,23,24,25,26,27,28,29,30,31,32,33] rfl<|jdp 34 (vb true) rfl<|jdp 35 (vb true) rfl<|jde<|jnn (gv (fun _ k=>k) [0,1] ⟨gk 0,gk 1,⟨⟩⟩))<|jdc 20 [14,15] rfl<|
  jdI 16 0 rfl rfl rfl rfl<|fun x3 h2 b4 hp2=>jdf 17 1 rfl rfl<|jdL 18 0 0 sI.snd false oS rfl rfl hp2 h2 rfl<|jdf 19 1 rfl rfl<|jdo 20 1 rfl rfl rfl rfl<|jdc 13 [21,22] rfl<|jsg 35 rfl (jdc 11 [23,24] rfl<|jdI 25 0 rfl rfl rfl rfl<|
  fun x4 h3 b5 hp3=>jdf 26 0 rfl rfl<|jdL 27 0 0 sI.fst false oB rfl rfl hp3 h3 rfl<|jdc 7 [28] rfl<|jdp 29 (vb (!x4.1)) rfl<|jdc 5 [30] rfl<|jsg 43 rfl (jdf 31 0 rfl rfl<|jdo 32 1 rfl rfl rfl rfl<|jdp 33 (vb x1.1) rfl<|jdp 34 (vb x1.1) rfl<|
  jdp 35 (vb x1.1) rfl<|jde<|jnn (gv (fun _ k=>k) [0,1] ⟨gk 0,gk 1,⟨⟩⟩))<|jdc 3 [31,32] rfl<|jdp 33 (vb false) rfl<|jdp 34 (vb false) rfl<|jdp 35 (vb false) rfl<|jde<|jnn (gv (fun _ k=>k) [0,1] ⟨gk 0,gk 1,⟨⟩⟩))<|
  jdc 7 [23,24,25,26,27,28] rfl<|jdp 29 (vb false) rfl<|jdc 3 [30,31,32] rfl<|jdp 33 (vb false) rfl<|jdp 34 (vb false) rfl<|jdp 35 (vb false) rfl<|jde<|jnn (gv (fun _ k=>k) [0,1] ⟨gk 0,gk 1,⟨⟩⟩))<|
  jdc 1 [5,6,7,8,9,10,11,12,13,14,15,16,17,18,19,20,21,22,23,24,25,26,27,28,29,30,31,32,33,34] rfl<|jdp 35 (vb false) rfl<|jde<|jnn (gv (fun _ k=>k) [0,1] ⟨gk 0,gk 1,⟨⟩⟩))<|fun s4 _ k=>k<|jif rfl (jsk<|jtn<|jbk<|jrg<|jpc 3 rfl<|joe<|jbn<|
  jln (gv (fun _ k=>k) [0,1] ⟨gk 0,gk 1,⟨⟩⟩))<|jxe<|jte<|jle<|jbh<|jnn (gv (fun _ k=>k) [0,1] ⟨gk 0,gk 1,⟨⟩⟩))<|fun s2 _ k=>k<|jsq<|
  jjn (fun s5 K=>K [(3, sv p2 s1.1 c2), (5, pt b2 0), (6, vi s2), (7, sv p1 y0 c1), (8, vi (len y0)), (9, vi s1.2), (62, vb s5)] [r_1, bx b2 51 [vb x1.1, vs x1.2]] [Al e_Literal 51 r_1 p2 c2 s1.1, Rl e_Literal p1 c1 y0]) (jdS [] [0, 1] 12<|
  jdc 7 [0,1,2,3,4] rfl<|jsg 55 rfl (jdc 5 [5,6] rfl<|jdI 7 0 rfl rfl rfl rfl<|fun x5 h4 b6 hp4=>jdL 8 0 0 sI true o_Literal rfl rfl hp4 h4 rfl<|jda 9 1 2 rfl rfl rfl rfl<|jdp 10 (vb (x5 == x1)) rfl<|jdp 11 (vb (x5 == x1)) rfl<|jde<|
  jnn (gv (fun _ k=>k) [0,1] ⟨gk 0,gk 1,⟨⟩⟩))<|jdc 1 [5,6,7,8,9,10] rfl<|jdp 11 (vb false) rfl<|jde<|jnn (gv (fun _ k=>k) [0,1] ⟨gk 0,gk 1,⟨⟩⟩))<|fun s5 _ k=>k<|jif rfl (jxe<|jte<|jbh<|jtn<|jrg<|jpc 2 rfl<|joe<|
  jln (gv (fun _ k=>k p2 c2 r_1) [0] ⟨gk 0,gk 1,⟨⟩⟩))<|jsk<|jtn<|jsr<|jpc 1 rfl<|jpe (.agg #[vb false, vs []])<|jbs .s (e := e_Literal) 51 [vb false, vs []] ([(false, [])] : List T_Literal) (rC (vP vB vS) rN)<|fun p3 c3=>
  jar .s 0 1 rfl (gk 0) rfl rfl<|fun x6 r_2 p4 c4=>jpc 1 rfl<|jot<|jds [] [] 8<|jdc 5 [0,1,2] rfl<|jdV 3 0 rfl rfl rfl rfl<|fun u1 p5 c5 f1=>jdc 2 [4,5] rfl<|jdV 6 0 rfl rfl rfl rfl<|fun u2 p6 c6 f2=>jd1 7<|
  jcp (.f rfl) 0 0 rfl (vwV f1) (srV 0 0 f2 rfl) rfl rfl<|fun r_3=>jdn<|jde<|jtn<|jrg<|jpc 2 rfl<|jla 1 2 rfl rfl rfl<|jia 0 rfl rfl rfl<|fun x7 h6 b7 hp5=>jsA .s 0 0 sI x1 true rfl hp5 h6 rfl rfl (vP vB vS)<|fun r_4=>joe<|jbn<|jtn<|jrg<|
  jpc 2 rfl<|joe<|jrE 0 3 rfl rfl<|jln (gv (fun _ k=>k p4 c4 r_4) [0] ⟨gk 0,gk 6,⟨⟩⟩))<|jxe<|jte<|jle<|jbh<|jtn<|jsr<|jpc 2 rfl<|jot<|jxr<|jsh 0 0 rfl rfl<|jr1 rfl rfl (fun _ k=>k p2 c2) [] ⟨gk 0,⟨⟩⟩

theorem c_keep_Src_Base {qd : Prop} {y0 : T_keep_Src} {y1 : Int} {y2 : Int} {y3 : Int} : Con qd Tryz.prog 7 [pt b1 0, vi y1, vi y2, vi y3] [bx b1 59 [sv p1 y0.1 c1, vi y0.2]] [Rl (eInt .i64) p1 c1 y0.1] (m_keep_Src_Base y0 y1 y2 y3) fun r K=>∀ p2 c2 p3 c3 p4 c4,K (.agg #[sv p2 r.1.1 c2, sv p3 r.1.2.1 c3, sv p4 r.1.2.2 c4]) [bx b1 59 [sv p1 y0.1 c1, vi r.2]] [Rl e_Premise p2 c2 r.1.1, Rl e_Rule p3 c3 r.1.2.1, Rl e_Promotion p4 c4 r.1.2.2] :=
 ent3 Tryz.call7 Tryz.func7 rfl fun X=>jsr<|jal .s (.agg #[.slice none 0 0, .slice none 0 0, .slice none 0 0])<|fun b2=>jot<|jsr<|jal .s (.agg #[.slice none 0 0, .slice none 0 0, .slice none 0 0])<|fun b3=>jro e_Premise 74<|jro e_Rule 78<|jro e_Promotion 80<|jot<|
  jjn (fun s1 K=>∀ p2 c2 r_1,K [(0, pt b1 0), (1, vi y1), (3, vi y3), (8, pt b2 0), (9, pt b3 0)] [bx b1 59 [sv p1 y0.1 c1, vi s1.1], bx b2 32 [.slice none 0 0, .slice none 0 0, .slice none 0 0], bx b3 32 [sv p2 s1.2 c2, sv none ([] : List T_Rule) 0, sv none ([] : List T_Promotion) 0], r_1, [], []] [Al e_Premise 74 r_1 p2 c2 s1.2, Rl (eInt .i64) p1 c1 y0.1, Al e_Rule 78 [] none 0 ([] : List T_Rule), Al e_Promotion 80 [] none 0 ([] : List T_Promotion)]) (
  jsr<|jpc 3 rfl<|jca .s [0] [] c_keep_Src_N rfl rfl rfl ⟨ck 3,⟨⟩⟩<|fun r1 _ k=>k<|jpc 1 rfl<|jot<|jbk<|
  jlp (fun s2 K=>∀ p3 c3 r_2,K [(0, pt b1 0), (1, vi y1), (3, vi y3), (8, pt b2 0), (9, pt b3 0), (10, vi s2.1)] [bx b1 59 [sv p1 y0.1 c1, vi s2.2.1], bx b2 32 [.slice none 0 0, .slice none 0 0, .slice none 0 0], bx b3 32 [sv p3 s2.2.2 c3, sv none ([] : List T_Rule) 0, sv none ([] : List T_Promotion) 0], r_2, [], []] [Al e_Premise 74 r_2 p3 c3 s2.2.2, Rl (eInt .i64) p1 c1 y0.1, Al e_Rule 78 [] none 0 ([] : List T_Rule), Al e_Promotion 80 [] none 0 ([] : List T_Promotion)]) (gv (fun _ k=>k none 0 []) [0,1,2,3,4,5] ⟨gk 2,gk 3,gk 1,gk 0,⟨⟩⟩)<|
  fun s2 _ k p3 c3 r_2=>k<|jsq<|jsr<|jpc 2 rfl<|jot<|jif rfl (jsk<|jtn<|jsq<|jbk<|jsr<|jpc 2 rfl<|jca .s [0] [] c_keep_Src_Literal rfl rfl rfl ⟨ck 1,⟨⟩⟩<|fun r2 _ k=>k<|jpc 1 rfl<|
  jbs .s (e := eInt .i64) 3 [vi 1, vi 2, vi 2, vi 2, vi 3] ([1, 2, 2, 2, 3] : List Int) (rC vI (rC vI (rC vI (rC vI (rC vI rN)))))<|fun p4 c4=>jca .s [0] [] c_keep_Src_Pick rfl rfl rfl ⟨ck 2,ck 0,⟨⟩⟩<|fun r3 _ k=>k<|jpc 1 rfl<|
  jbs .s (e := eStr) 9 [vs [], vs [], vs [97, 110, 110], vs [98, 111, 98]] ([[], [], [97, 110, 110], [98, 111, 98]] : List Str) (rC vS (rC vS (rC vS (rC vS rN))))<|fun p5 c5=>jca .s [0] [] c_keep_Src_Text rfl rfl rfl ⟨ck 3,ck 0,⟨⟩⟩<|
  fun r4 _ k=>k<|jpe (.agg #[vb r2.1.1, vs r2.1.2, vi r3.1, vi 0, vs r4.1])<|jal .s (.agg #[vb false, vs [], vi 0, vi 0, vs []])<|fun b4=>jso .s 6 rfl rfl rfl<|jot<|
  jjn (fun s3 K=>K [(0, pt b1 0), (1, vi y1), (3, vi y3), (8, pt b2 0), (9, pt b3 0), (10, vi s2.1), (11, pt b4 0)] [bx b1 59 [sv p1 y0.1 c1, vi s3.1], bx b2 32 [.slice none 0 0, .slice none 0 0, .slice none 0 0], bx b3 32 [sv p3 s2.2.2 c3, sv none ([] : List T_Rule) 0, sv none ([] : List T_Promotion) 0], r_2, [], [], bx b4 74 [vb r2.1.1, vs r2.1.2, vi r3.1, vi s3.2, vs r4.1]] [Rl (eInt .i64) p1 c1 y0.1, Al e_Premise 74 r_2 p3 c3 s2.2.2, Al e_Rule 78 [] none 0 ([] : List T_Rule), Al e_Promotion 80 [] none 0 ([] : List T_Promotion)]) (
  jsr<|jfa 2 rfl<|jlo 6 rfl rfl rfl<|jpc 1 rfl<|jot<|jif rfl (jrg<|jpc 1 rfl<|jca .s [0] [] c_keep_Src_N rfl rfl rfl ⟨ck 3,⟨⟩⟩<|fun r5 _ k=>k<|jfa 3 rfl<|jso .s 6 rfl rfl rfl<|joe<|
  jnn (gv (fun _ k=>k) [0,1,2,3,4,5,6] ⟨gk 3,gk 2,gk 4,gk 5,⟨⟩⟩))<|jsk<|jnn (gv (fun _ k=>k) [0,1,2,3,4,5,6] ⟨gk 3,gk 2,gk 4,gk 5,⟨⟩⟩))<|fun s3 _ k=>k<|jsr<|jpc 1 rfl<|jot<|
  jjn (fun s4 K=>K [(0, pt b1 0), (1, vi y1), (3, vi y3), (8, pt b2 0), (9, pt b3 0), (10, vi s2.1), (11, pt b4 0), (12, vb s4)] [bx b1 59 [sv p1 y0.1 c1, vi s3.1], bx b2 32 [.slice none 0 0, .slice none 0 0, .slice none 0 0], bx b3 32 [sv p3 s2.2.2 c3, sv none ([] : List T_Rule) 0, sv none ([] : List T_Promotion) 0], r_2, [], [], bx b4 74 [vb r2.1.1, vs r2.1.2, vi r3.1, vi s3.2, vs r4.1]] [Rl (eInt .i64) p1 c1 y0.1, Al e_Premise 74 r_2 p3 c3 s2.2.2, Al e_Rule 78 [] none 0 ([] : List T_Rule), Al e_Promotion 80 [] none 0 ([] : List T_Promotion)]) (
  jsr<|jfa 0 rfl<|jlo 2 rfl rfl rfl<|jpc 2 rfl<|jot<|jbk<|
  jlp (fun s5 K=>K [(0, pt b1 0), (1, vi y1), (3, vi y3), (8, pt b2 0), (9, pt b3 0), (10, vi s2.1), (11, pt b4 0), (12, vb s5.1), (44, sv p3 s2.2.2 c3), (45, vi (len s2.2.2)), (46, vi s5.2)] [bx b1 59 [sv p1 y0.1 c1, vi s3.1], bx b2 32 [.slice none 0 0, .slice none 0 0, .slice none 0 0], bx b3 32 [sv p3 s2.2.2 c3, sv none ([] : List T_Rule) 0, sv none ([] : List T_Promotion) 0], r_2, [], [], bx b4 74 [vb r2.1.1, vs r2.1.2, vi r3.1, vi s3.2, vs r4.1]] [Al e_Premise 74 r_2 p3 c3 s2.2.2, Rl (eInt .i64) p1 c1 y0.1, Al e_Rule 78 [] none 0 ([] : List T_Rule), Al e_Promotion 80 [] none 0 ([] : List T_Promotion)]) (gv (fun _ k=>k) [0,1,2,3,4,5,6] ⟨gk 1,gk 0,gk 2,gk 3,⟨⟩⟩)<|
  fun s5 _ k=>k<|jsr<|jpc 1 rfl<|jot<|jsq<|jif rfl (jsk<|jtn<|jsq<|jbk<|jsr<|jia 0 rfl rfl rfl<|fun x1 h1 b5 hp1=>jlA 3 0 sI true o_Premise rfl hp1 h1 rfl<|jal .s (.agg #[vb false, vs [], vi 0, vi 0, vs []])<|fun b6=>jso .s 7 rfl rfl rfl<|
  jot<|
  jjq (fun K=>K [(0, pt b1 0), (1, vi y1), (3, vi y3), (8, pt b2 0), (9, pt b3 0), (10, vi s2.1), (11, pt b4 0), (12, vb (s5.1 || (x1.1 == r2.1))), (44, sv p3 s2.2.2 c3), (45, vi (len s2.2.2)), (46, vi s5.2)] [bx b1 59 [sv p1 y0.1 c1, vi s3.1], bx b2 32 [.slice none 0 0, .slice none 0 0, .slice none 0 0], bx b3 32 [sv p3 s2.2.2 c3, sv none ([] : List T_Rule) 0, sv none ([] : List T_Promotion) 0], r_2, [], [], bx b4 74 [vb r2.1.1, vs r2.1.2, vi r3.1, vi s3.2, vs r4.1], []] [Al e_Premise 74 r_2 p3 c3 s2.2.2, Rl (eInt .i64) p1 c1 y0.1, Al e_Rule 78 [] none 0 ([] : List T_Rule), Al e_Promotion 80 [] none 0 ([] : List T_Promotion)]) (
  jrg<|jpc 2 rfl<|jsp (b := s5.1) 51 rfl (fun hb1=>jpc 5 rfl<|jpe (vb true)<|jpc 1 rfl<|joe<|jup 12 (vb (s5.1 || (x1.1 == r2.1))) rfl (by rw [hb1]; rfl)<|jnn (gv (fun _ k=>k) [0,1,2,3,4,5,6,907] ⟨gk 0,gk 1,gk 2,gk 3,⟨⟩⟩))<|fun hb1=>
  jfa 0 rfl<|jla 7 2 rfl rfl rfl<|jfa 0 rfl<|jla 6 2 rfl rfl rfl<|jpe (vb (x1.1 == r2.1))<|jpe (vb (x1.1 == r2.1))<|jpc 1 rfl<|joe<|jup 12 (vb (s5.1 || (x1.1 == r2.1))) rfl (by rw [hb1]; rfl)<|
  jnn (gv (fun _ k=>k) [0,1,2,3,4,5,6,907] ⟨gk 0,gk 1,gk 2,gk 3,⟨⟩⟩))<|fun _ k=>k<|jbn<|jtn<|jrg<|jpc 2 rfl<|joe<|jln (gv (fun _ k=>k) [0,1,2,3,4,5,6] ⟨gk 0,gk 1,gk 2,gk 3,⟨⟩⟩))<|jxe<|jte<|jle<|jbh<|
  jnn (gv (fun _ k=>k) [0,1,2,3,4,5,6] ⟨gk 1,gk 0,gk 2,gk 3,⟨⟩⟩))<|fun s4 _ k=>k<|jsr<|jpc 2 rfl<|jot<|jif rfl (jrg<|jfa 0 rfl<|jlo 2 rfl rfl rfl<|jla 6 5 rfl rfl rfl<|
  jbs .s (e := e_Premise) 74 [vb r2.1.1, vs r2.1.2, vi r3.1, vi s3.2, vs r4.1] ([(r2.1, r3.1, s3.2, r4.1)] : List T_Premise) (rC (vP (vP vB vS) (vP vI (vP vI vS))) rN)<|fun p6 c6=>jar .s 3 2 rfl (gk 0) rfl rfl<|fun x2 r_3 p7 c7=>jfa 0 rfl<|
  jso .s 2 rfl rfl rfl<|joe<|jbn<|jtn<|jrg<|jpc 3 rfl<|joe<|jln (gv (fun _ k=>k p7 c7 r_3) [0,1,2,3,4,5] ⟨gk 0,gk 2,gk 4,gk 5,⟨⟩⟩))<|jsk<|jbn<|jtn<|jrg<|jpc 3 rfl<|joe<|jln (gv (fun _ k=>k p3 c3 r_2) [0,1,2,3,4,5] ⟨gk 1,gk 0,gk 2,gk 3,⟨⟩⟩))<|
  jxe<|jte<|jle<|jbh<|jnn (gv (fun _ k=>k p3 c3 r_2) [0,1,2,3,4,5] ⟨gk 0,gk 1,gk 2,gk 3,⟨⟩⟩))<|fun s1 _ k p2 c2 r_1=>k<|
  jjn (fun s6 K=>∀ p8 c8 r_4,K [(0, pt b1 0), (1, vi y1), (8, pt b2 0), (9, pt b3 0)] [bx b1 59 [sv p1 y0.1 c1, vi s6.1], bx b2 32 [.slice none 0 0, .slice none 0 0, .slice none 0 0], bx b3 32 [sv p2 s1.2 c2, sv p8 s6.2 c8, sv none ([] : List T_Promotion) 0], r_1, r_4, []] [Al e_Rule 78 r_4 p8 c8 s6.2, Rl (eInt .i64) p1 c1 y0.1, Al e_Premise 74 r_1 p2 c2 s1.2, Al e_Promotion 80 [] none 0 ([] : List T_Promotion)]) (
  jsr<|jpc 3 rfl<|jca .s [0] [] c_keep_Src_N rfl rfl rfl ⟨ck 1,⟨⟩⟩<|fun r6 _ k=>k<|jpc 1 rfl<|jot<|jbk<|
  jlp (fun s7 K=>∀ p9 c9 r_5,K [(0, pt b1 0), (1, vi y1), (3, vi y3), (8, pt b2 0), (9, pt b3 0), (15, vi s7.1)] [bx b1 59 [sv p1 y0.1 c1, vi s7.2.1], bx b2 32 [.slice none 0 0, .slice none 0 0, .slice none 0 0], bx b3 32 [sv p2 s1.2 c2, sv p9 s7.2.2 c9, sv none ([] : List T_Promotion) 0], r_1, r_5, []] [Al e_Rule 78 r_5 p9 c9 s7.2.2, Rl (eInt .i64) p1 c1 y0.1, Al e_Premise 74 r_1 p2 c2 s1.2, Al e_Promotion 80 [] none 0 ([] : List T_Promotion)]) (gv (fun _ k=>k none 0 []) [0,1,2,3,4,5] ⟨gk 2,gk 1,gk 0,gk 3,⟨⟩⟩)<|
  fun s7 _ k p9 c9 r_5=>k<|jsq<|jsr<|jpc 2 rfl<|jot<|jif rfl (jsk<|jtn<|jsq<|jbk<|jsr<|jfa 1 rfl<|jlo 2 rfl rfl rfl<|jpc 1 rfl<|jcl c_keep_RuleName rfl ⟨⟩<|fun r7 _ k=>k<|jpc 1 rfl<|jca .s [0] [] c_keep_Src_N rfl rfl rfl ⟨ck 1,⟨⟩⟩<|
  fun r8 _ k=>k<|jpc 3 rfl<|jca .s [0] [] c_keep_Src_Literals rfl rfl rfl ⟨ck 1,⟨⟩⟩<|fun r9 _ k p10 c10=>k<|jcl c_keep_sorted rfl ⟨ck 0,⟨⟩⟩<|fun r10 _ k p11 c11=>k<|jpc 2 rfl<|jca .s [0] [] c_keep_Src_Literal rfl rfl rfl ⟨ck 3,⟨⟩⟩<|
  fun r11 _ k=>k<|jpe (.agg #[vs r7, vb (r8.1 == 0), vi 0, sv p11 r10 c11, vb r11.1.1, vs r11.1.2])<|jal .s (.agg #[vs [], vb false, vi 0, .slice none 0 0, vb false, vs []])<|fun b7=>jso .s 6 rfl rfl rfl<|jot<|
  jjn (fun s8 K=>K [(0, pt b1 0), (1, vi y1), (3, vi y3), (8, pt b2 0), (9, pt b3 0), (15, vi s7.1), (16, pt b7 0)] [bx b1 59 [sv p1 y0.1 c1, vi s8.1], bx b2 32 [.slice none 0 0, .slice none 0 0, .slice none 0 0], bx b3 32 [sv p2 s1.2 c2, sv p9 s7.2.2 c9, sv none ([] : List T_Promotion) 0], r_1, r_5, [], bx b7 78 [vs r7, vb (r8.1 == 0), vi s8.2, sv p11 r10 c11, vb r11.1.1, vs r11.1.2]] [Rl (eInt .i64) p1 c1 y0.1, Al e_Premise 74 r_1 p2 c2 s1.2, Al e_Rule 78 r_5 p9 c9 s7.2.2, Al e_Promotion 80 [] none 0 ([] : List T_Promotion), Rl e_Literal p11 c11 r10]) (
  jsr<|jfa 1 rfl<|jlo 6 rfl rfl rfl<|jpc 1 rfl<|jot<|jif rfl (jrg<|jpc 1 rfl<|jca .s [0] [] c_keep_Src_N rfl rfl rfl ⟨ck 3,⟨⟩⟩<|fun r12 _ k=>k<|jfa 2 rfl<|jso .s 6 rfl rfl rfl<|joe<|
  jnn (gv (fun _ k=>k) [0,1,2,3,4,5,6] ⟨gk 3,gk 4,gk 2,gk 5,gk 0,⟨⟩⟩))<|jsk<|jnn (gv (fun _ k=>k) [0,1,2,3,4,5,6] ⟨gk 3,gk 4,gk 2,gk 5,gk 0,⟨⟩⟩))<|fun s8 _ k=>k<|
  jjn (fun s9 K=>K [(0, pt b1 0), (1, vi y1), (3, vi y3), (8, pt b2 0), (9, pt b3 0), (15, vi s7.1), (16, pt b7 0)] [bx b1 59 [sv p1 y0.1 c1, vi s9.1], bx b2 32 [.slice none 0 0, .slice none 0 0, .slice none 0 0], bx b3 32 [sv p2 s1.2 c2, sv p9 s7.2.2 c9, sv none ([] : List T_Promotion) 0], r_1, r_5, [], bx b7 78 [vs r7, vb (r8.1 == 0), vi s8.2, sv p11 r10 c11, vb s9.2.1, vs s9.2.2]] [Rl (eInt .i64) p1 c1 y0.1, Al e_Premise 74 r_1 p2 c2 s1.2, Al e_Rule 78 r_5 p9 c9 s7.2.2, Al e_Promotion 80 [] none 0 ([] : List T_Promotion), Rl e_Literal p11 c11 r10]) (
  jsr<|jpc 1 rfl<|jca .s [0] [] c_keep_Src_N rfl rfl rfl ⟨ck 0,⟨⟩⟩<|fun r13 _ k=>k<|jpc 1 rfl<|jot<|jif rfl (jrg<|jpc 1 rfl<|jca .s [0] [] c_keep_Src_N rfl rfl rfl ⟨ck 0,⟨⟩⟩<|fun r14 _ k=>k<|jpc 3 rfl<|
  jca .s [0] [] c_keep_Src_N rfl rfl rfl ⟨ck 0,⟨⟩⟩<|fun r15 _ k=>k<|jcl c_keep_RuleName rfl ⟨⟩<|fun r16 _ k=>k<|jpe (.agg #[vb (decide (0 < r14.1)), vs r16])<|jfa 4 rfl<|jso .s 6 rfl rfl rfl<|joe<|
  jnn (gv (fun _ k=>k) [0,1,2,3,4,5,6] ⟨gk 0,gk 1,gk 2,gk 3,gk 4,⟨⟩⟩))<|jsk<|jnn (gv (fun _ k=>k) [0,1,2,3,4,5,6] ⟨gk 0,gk 1,gk 2,gk 3,gk 4,⟨⟩⟩))<|fun s9 _ k=>k<|jrg<|jfa 1 rfl<|jlo 2 rfl rfl rfl<|jla 6 6 rfl rfl rfl<|
  jbs .s (e := e_Rule) 78 [vs r7, vb (r8.1 == 0), vi s8.2, sv p11 r10 c11, vb s9.2.1, vs s9.2.2] ([(r7, r8.1 == 0, s8.2, r10, (s9.2.1, s9.2.2))] : List T_Rule) (rC (vP vS (vP vB (vP vI (vP (vL (gk 4)) (vP vB vS))))) rN)<|fun p12 c12=>
  jar .s 4 3 rfl (gk 0) rfl rfl<|fun x3 r_6 p13 c13=>jfa 1 rfl<|jso .s 2 rfl rfl rfl<|joe<|jbn<|jtn<|jrg<|jpc 3 rfl<|joe<|jln (gv (fun _ k=>k p13 c13 r_6) [0,1,2,3,4,5] ⟨gk 0,gk 2,gk 3,gk 5,⟨⟩⟩))<|jxe<|jte<|jle<|jbh<|
  jnn (gv (fun _ k=>k p9 c9 r_5) [0,1,2,3,4,5] ⟨gk 0,gk 1,gk 2,gk 3,⟨⟩⟩))<|fun s6 _ k p8 c8 r_4=>k<|
  jjn (fun s10 K=>∀ p14 c14 r_7,K [(8, pt b2 0), (9, pt b3 0)] [bx b1 59 [sv p1 y0.1 c1, vi s10.1], bx b2 32 [.slice none 0 0, .slice none 0 0, .slice none 0 0], bx b3 32 [sv p2 s1.2 c2, sv p8 s6.2 c8, sv p14 s10.2 c14], r_1, r_4, r_7] [Al e_Promotion 80 r_7 p14 c14 s10.2, Rl (eInt .i64) p1 c1 y0.1, Al e_Premise 74 r_1 p2 c2 s1.2, Al e_Rule 78 r_4 p8 c8 s6.2]) (
  jsr<|jpc 1 rfl<|jca .s [0] [] c_keep_Src_N rfl rfl rfl ⟨ck 1,⟨⟩⟩<|fun r17 _ k=>k<|jpc 1 rfl<|jot<|jbk<|
  jlp (fun s11 K=>∀ p15 c15 r_8,K [(0, pt b1 0), (1, vi y1), (8, pt b2 0), (9, pt b3 0), (17, vi s11.1)] [bx b1 59 [sv p1 y0.1 c1, vi s11.2.1], bx b2 32 [.slice none 0 0, .slice none 0 0, .slice none 0 0], bx b3 32 [sv p2 s1.2 c2, sv p8 s6.2 c8, sv p15 s11.2.2 c15], r_1, r_4, r_8] [Al e_Promotion 80 r_8 p15 c15 s11.2.2, Rl (eInt .i64) p1 c1 y0.1, Al e_Premise 74 r_1 p2 c2 s1.2, Al e_Rule 78 r_4 p8 c8 s6.2]) (gv (fun _ k=>k none 0 []) [0,1,2,3,4,5] ⟨gk 3,gk 1,gk 2,gk 0,⟨⟩⟩)<|
  fun s11 _ k p15 c15 r_8=>k<|jsq<|
  jjp (fun K=>K [(0, pt b1 0), (1, vi y1), (8, pt b2 0), (9, pt b3 0), (17, vi s11.1), (123, vb ((decide (0 < s11.1)) && (decide (0 < (len s6.2)))))] [bx b1 59 [sv p1 y0.1 c1, vi s11.2.1], bx b2 32 [.slice none 0 0, .slice none 0 0, .slice none 0 0], bx b3 32 [sv p2 s1.2 c2, sv p8 s6.2 c8, sv p15 s11.2.2 c15], r_1, r_4, r_8] [Rl (eInt .i64) p1 c1 y0.1, Al e_Premise 74 r_1 p2 c2 s1.2, Al e_Rule 78 r_4 p8 c8 s6.2, Al e_Promotion 80 r_8 p15 c15 s11.2.2]) (
  jrg<|jpc 3 rfl<|jsp (b := decide (0 < s11.1)) 118 rfl (fun hb2=>jfa 1 rfl<|jlo 2 rfl rfl rfl<|jpc 2 rfl<|jpe (vb (decide (0 < (len s6.2))))<|joe<|jup 123 (vb ((decide (0 < s11.1)) && (decide (0 < (len s6.2))))) rfl (by rw [hb2]; rfl)<|
  jnn (gv (fun _ k=>k) [0,1,2,3,4,5] ⟨gk 1,gk 2,gk 3,gk 0,⟨⟩⟩))<|fun hb2=>jpc 4 rfl<|jpe (vb false)<|joe<|jup 123 (vb ((decide (0 < s11.1)) && (decide (0 < (len s6.2))))) rfl (by rw [hb2]; rfl)<|
  jnn (gv (fun _ k=>k) [0,1,2,3,4,5] ⟨gk 1,gk 2,gk 3,gk 0,⟨⟩⟩))<|fun _ k=>k<|jif rfl (jsk<|jtn<|jsq<|jbk<|
  jjn (fun s12 K=>∀ b8 p16 c16,K [(0, pt b1 0), (1, vi y1), (8, pt b2 0), (9, pt b3 0), (17, vi s11.1), (18, pt b8 0)] [bx b1 59 [sv p1 y0.1 c1, vi s12.1], bx b2 32 [.slice none 0 0, .slice none 0 0, .slice none 0 0], bx b3 32 [sv p2 s1.2 c2, sv p8 s6.2 c8, sv p15 s11.2.2 c15], r_1, r_4, r_8, bx b8 78 [vs s12.2.1, vb s12.2.2.1, vi s12.2.2.2.1, sv p16 s12.2.2.2.2.1 c16, vb s12.2.2.2.2.2.1, vs s12.2.2.2.2.2.2]] [Rl e_Literal p16 c16 s12.2.2.2.2.1, Rl (eInt .i64) p1 c1 y0.1, Al e_Premise 74 r_1 p2 c2 s1.2, Al e_Rule 78 r_4 p8 c8 s6.2, Al e_Promotion 80 r_8 p15 c15 s11.2.2]) (
  jdS [] [2, 4] 11<|jdf 0 1 rfl rfl<|jdo 1 2 rfl rfl rfl rfl<|jdc 8 [2] rfl<|jdf 3 1 rfl rfl<|jdo 4 2 rfl rfl rfl rfl<|jdc 5 [5] rfl<|jd2 6 9 (jca (.f rfl) [0] [] c_keep_Src_N rfl rfl rfl ⟨ck 0,⟨⟩⟩<|fun r18 _ k=>k<|jdn<|
  jdI 7 2 rfl rfl rfl rfl<|fun x4 h4 b9 hp2=>jdL 8 4 2 sI true o_Rule rfl rfl hp2 h4 rfl<|fun p17 c17=>jd1 9<|jal (.f rfl) (.agg #[vs [], vb false, vi 0, .slice none 0 0, vb false, vs []])<|fun b10=>jdn<|jd1 10<|
  jso (o := 0) (.f rfl) 6 rfl rfl rfl<|jdn<|jde<|jnn (gv (fun _ k=>k b10 p17 c17) [0,1,2,3,4,5,6] ⟨gk 0,gk 1,gk 2,gk 3,gk 4,⟨⟩⟩)) <|jal (.f rfl) (.agg #[vs [], vb false, vi 0, .slice none 0 0, vb false, vs []])<|fun b11=>jdn<|jd1 6<|
  jca (.f rfl) [0] [] c_keep_Src_N rfl rfl rfl ⟨ck 0,⟨⟩⟩<|fun r19 _ k=>k<|jdn<|jdI 7 2 rfl rfl rfl rfl<|fun x5 h5 b12 hp3=>jdL 8 4 2 sI true o_Rule rfl rfl hp3 h5 rfl<|fun p18 c18=>jd1 10<|jso (o := 0) (.f rfl) 6 rfl rfl rfl<|jdn<|jde<|
  jnn (gv (fun _ k=>k b11 p18 c18) [0,1,2,3,4,5,6] ⟨gk 0,gk 1,gk 2,gk 3,gk 4,⟨⟩⟩))<|fun s12 _ k b8 p16 c16=>k<|jsr<|jfa 1 rfl<|jlo 6 rfl rfl rfl<|jpc 1 rfl<|jot<|jif rfl (jdS [13] [2, 6] 14<|jdf 0 2 rfl rfl<|jdo 1 2 rfl rfl rfl rfl<|
  jdf 2 0 rfl rfl<|jdo 3 6 rfl rfl rfl rfl<|jdc 7 [4,6,7] rfl<|jd1 5<|jca (.f rfl) [0] [] c_keep_Src_N rfl rfl rfl ⟨ck 1,⟨⟩⟩<|fun r20 _ k=>k<|jdn<|jd1 8<|jca (.f rfl) [0] [] c_keep_Src_Literal rfl rfl rfl ⟨ck 1,⟨⟩⟩<|fun r21 _ k=>k<|jdn<|
  jdp 9 (.agg #[vs s12.2.1, vi r20.1, vb r21.1.1, vs r21.1.2]) rfl<|jd1 10<|jbs (.f rfl) (e := e_Promotion) 80 [vs s12.2.1, vi r20.1, vb r21.1.1, vs r21.1.2] ([(s12.2.1, r20.1, r21.1)] : List T_Promotion) (rC (vP vS (vP vI (vP vB vS))) rN)<|
  fun p19 c19=>jdn<|jd1 11<|jar (.f rfl) 5 5 rfl (gk 0) rfl rfl<|fun x6 r_9 p20 c20=>jdn<|jdf 12 2 rfl rfl<|jd1 13<|jso (o := 2) (.f rfl) 2 rfl rfl rfl<|jdb [] [2, 6]<|jde<|jbn<|jtn<|jrg<|jpc 3 rfl<|joe<|
  jln (gv (fun _ k=>k p20 c20 r_9) [0,1,2,3,4,5] ⟨gk 0,gk 3,gk 4,gk 5,⟨⟩⟩))<|jsk<|jbn<|jtn<|jrg<|jpc 3 rfl<|joe<|jln (gv (fun _ k=>k p15 c15 r_8) [0,1,2,3,4,5] ⟨gk 4,gk 1,gk 2,gk 3,⟨⟩⟩))<|jxe<|jte<|jle<|jbh<|
  jnn (gv (fun _ k=>k p15 c15 r_8) [0,1,2,3,4,5] ⟨gk 3,gk 0,gk 1,gk 2,⟨⟩⟩))<|fun s10 _ k p14 c14 r_7=>k<|jsr<|jla 2 3 rfl rfl rfl<|jso .s 1 rfl rfl rfl<|jot<|jxr<|jsh 3 2 rfl rfl<|jsh 4 4 rfl rfl<|jsh 5 2 rfl rfl<|
  jrg' rfl (lC 1 (.agg #[sv p2 s1.2 c2, sv p8 s6.2 c8, sv p14 s10.2 c14]) rfl rfl lN) (fun _ k=>k p2 c2 p8 c8 p14 c14) [0] ⟨gk 2,gk 1,gk 0,⟨⟩⟩

theorem c_keep_Src_Range {qd : Prop} {y0 : T_keep_Src} {y1 : Int} {y2 : Int} : Con qd Tryz.prog 5 [pt b1 0, vi y1, vi y2] [bx b1 59 [sv p1 y0.1 c1, vi y0.2]] [Rl (eInt .i64) p1 c1 y0.1] (m_keep_Src_Range y0 y1 y2) fun r K=>K (vi r.1) [bx b1 59 [sv p1 y0.1 c1, vi r.2]] [] :=
 ent3 Tryz.call5 Tryz.func5 rfl fun X=>jsr<|jpc 1 rfl<|jot<|jsr<|jpc 6 rfl<|jca .s [0] [] c_keep_Src_N rfl rfl rfl ⟨ck 0,⟨⟩⟩<|fun r1 _ k=>k<|jpc 2 rfl<|jot<|jxr<|jr1 rfl rfl (fun _ k=>k) [0] ⟨⟩

theorem c_keep_Voc {qd : Prop} {y0 : Int} : Con qd Tryz.prog 30 [vi y0] [] [] (m_keep_Voc y0) fun r K=>∀ p1 c1,K (sv p1 r c1) [] [Rl eStr p1 c1 r] :=
 ent3 Tryz.call30 Tryz.func30 rfl fun X=>jsr<|jpc 1 rfl<|jot<|jsr<|jpc 1 rfl<|jro eStr 9<|jot<|jsq<|jsr<|jpc 1 rfl<|jot<|jbk<|jlp (fun s1 K=>∀ p1 c1 r_1,K [(0, vi y0), (3, sv p1 s1.1 c1), (4, vi s1.2)] [r_1] [Al eStr 9 r_1 p1 c1 s1.1]) (gv (fun _ k=>k none 0 []) [0] ⟨gk 0,⟨⟩⟩)<|
  fun s1 _ k p1 c1 r_1=>k<|jsq<|jsr<|jpc 3 rfl<|jot<|jif rfl (jsk<|jtn<|jsq<|jbk<|jrg<|jpc 3 rfl<|jpe (.int .u8 (IntKind.u8.wrap (w64 ((97 : Int) + s1.2))))<|
  jbs .s (e := eInt .u8) 5 [.int .u8 (IntKind.u8.wrap (w64 ((97 : Int) + s1.2)))] ([IntKind.u8.wrap (w64 ((97 : Int) + s1.2))] : List Int) (rC vI rN)<|fun p2 c2=>jsb .s (gk 0) rfl Tryz.underlying103 Tryz.underlying5 Tryz.underlying9<|
  jbs .s (e := eStr) 9 [vs (strOf ([IntKind.u8.wrap (w64 ((97 : Int) + s1.2))] : List Int))] ([strOf ([IntKind.u8.wrap (w64 ((97 : Int) + s1.2))] : List Int)] : List Str) (rC vS rN)<|fun p3 c3=>jar .s 0 2 rfl (gk 0) rfl rfl<|fun x1 r_2 p4 c4=>jpc 1 rfl<|
  joe<|jbn<|jtn<|jrg<|jpc 3 rfl<|joe<|jln (gv (fun _ k=>k p4 c4 r_2) [0] ⟨gk 0,⟨⟩⟩))<|jxe<|jte<|jle<|jbh<|jtn<|jsr<|jpc 2 rfl<|jot<|jxr<|jsh 0 0 rfl rfl<|jr1 rfl rfl (fun _ k=>k p1 c1) [] ⟨gk 0,⟨⟩⟩

theorem c_ref42_Same {qd : Prop} {y0 : List Str} {y1 : List Str} : Con qd Tryz.prog 12 [sv p1 y0 c1, sv p2 y1 c2] [] [Rl eStr p1 c1 y0, Rl eStr p2 c2 y1] (m_ref42_Same y0 y1) fun r K=>K (vb r) [] [] :=
 ent3 Tryz.call12 Tryz.func12 rfl fun X=>jsr<|jpc 1 rfl<|jot<|jsq<|jsr<|jpc 5 rfl<|jot<|jif rfl (jsr<|jpc 1 rfl<|jot<|jxr<|jtr<|jr1 rfl rfl (fun _ k=>k) [] ⟨⟩)<|jsk<|jtn<|jsq<|jsr<|jpc 1 rfl<|jot<|jbk<|
  jlp (fun s1 K=>K [(0, sv p1 y0 c1), (1, sv p2 y1 c2), (5, vi s1)] [] [Rl eStr p1 c1 y0, Rl eStr p2 c2 y1]) (gv (fun _ k=>k) [] ⟨gk 0,gk 1,⟨⟩⟩)<|fun s1 _ k=>k<|jsq<|jsr<|jpc 4 rfl<|jot<|jif rfl (jsk<|jtn<|jsq<|jbk<|jds [] [] 9<|
  jdc 7 [0,1] rfl<|jdi 2 0 rfl rfl rfl rfl<|fun x1 b1 o1=>jdl 3 false oS rfl (gk 0) rfl<|jdc 3 [4,5] rfl<|jdi 6 2 rfl rfl rfl rfl<|fun x2 b2 o2=>jdl 7 false oS rfl (gk 0) rfl<|jdc 0 [8] rfl<|jde<|jtn<|jif rfl (jsr<|jpc 1 rfl<|jot<|jxr<|jbr<|
  jtr<|jlr<|jbr<|jtr<|jr1 rfl rfl (fun _ k=>k) [] ⟨⟩)<|jsk<|jbn<|jtn<|jrg<|jpc 3 rfl<|joe<|jln (gv (fun _ k=>k) [] ⟨gk 2,gk 3,⟨⟩⟩))<|jxe<|jte<|jle<|jbh<|jtn<|jsr<|jpc 1 rfl<|jot<|jxr<|jr1 rfl rfl (fun _ k=>k) [] ⟨⟩

theorem k_formula_Depth_all {qd : Prop} (k : Nat) :
    (∀ {y0 : T_Formula} {p1 : Option Addr} {c1 : Nat}, Con qd Tryz.prog 105 [.agg #[vi ((fv y0).1), vs ((fv y0).2.1), sv p1 ((fv y0).2.2) c1]] [] [Rl e_Formula p1 c1 ((fv y0).2.2)] (k_formula_Depth k y0) fun r K=>K (vi r) [] []) := by
  induction k with
  | zero => exact con0 Tryz.call105
  | succ k ih =>
    have ih_formula_Depth := @ih
    exact @fun y0 p1 c1=>ent3 (m1 := F_formula_Depth (k_formula_Depth k) y0) Tryz.call105 Tryz.func105 rfl fun X=>jsr<|jbx .s rfl<|fun b1=>jpc 1 rfl<|jot<|jsr<|jpc 1 rfl<|jot<|jsq<|jsr<|jfa 2 rfl<|jlo 0 rfl rfl rfl<|jpc 2 rfl<|jot<|jbk<|
  jlp (fun s1 K=>K [(3, vi s1.1), (7, sv p1 ((fv y0).2.2) c1), (8, vi (len ((fv y0).2.2))), (9, vi s1.2)] [[]] [Rl e_Formula p1 c1 ((fv y0).2.2)]) (gv (fun _ k=>k) [900] ⟨gk 0,⟨⟩⟩)<|fun s1 _ k=>k<|jsr<|jpc 1 rfl<|jot<|jsq<|jif rfl (jsk<|jtn<|
  jsq<|jbk<|jsr<|jix 0 rfl rfl rfl<|fun x1 b2 o1=>jld true o_Formula (gk 0) rfl<|fun p2 c2=>jal .s (.agg #[vi 0, vs [], .slice none 0 0])<|fun b3=>jso .s 1 rfl rfl rfl<|jot<|jrg<|jpc 1 rfl<|jla 1 3 rfl rfl rfl<|
  jcl ih_formula_Depth rfl ⟨ck 0,⟨⟩⟩<|fun r1 _ k=>k<|jpc 3 rfl<|joe<|jbn<|jtn<|jrg<|jpc 2 rfl<|joe<|jln (gv (fun _ k=>k) [900] ⟨gk 2,⟨⟩⟩))<|jxe<|jte<|jle<|jbh<|jtn<|jsr<|jpc 2 rfl<|jot<|jxr<|jr1 rfl rfl (fun _ k=>k) [] ⟨⟩

theorem c_formula_Depth {qd : Prop} {y0 : T_Formula} : Con qd Tryz.prog 105 [.agg #[vi ((fv y0).1), vs ((fv y0).2.1), sv p1 ((fv y0).2.2) c1]] [] [Rl e_Formula p1 c1 ((fv y0).2.2)] (m_formula_Depth y0) fun r K=>K (vi r) [] [] := conLim fun k => (k_formula_Depth_all k)

theorem k_formula_Size_all {qd : Prop} (k : Nat) :
    (∀ {y0 : T_Formula} {p1 : Option Addr} {c1 : Nat}, Con qd Tryz.prog 104 [.agg #[vi ((fv y0).1), vs ((fv y0).2.1), sv p1 ((fv y0).2.2) c1]] [] [Rl e_Formula p1 c1 ((fv y0).2.2)] (k_formula_Size k y0) fun r K=>K (vi r) [] []) := by
  induction k with
  | zero => exact con0 Tryz.call104
  | succ k ih =>
    have ih_formula_Size := @ih
    exact @fun y0 p1 c1=>ent3 (m1 := F_formula_Size (k_formula_Size k) y0) Tryz.call104 Tryz.func104 rfl fun X=>jsr<|jbx .s rfl<|fun b1=>jpc 1 rfl<|jot<|jsr<|jpc 1 rfl<|jot<|jsq<|jsr<|jfa 2 rfl<|jlo 0 rfl rfl rfl<|jpc 2 rfl<|jot<|jbk<|
  jlp (fun s1 K=>K [(3, vi s1.1), (7, sv p1 ((fv y0).2.2) c1), (8, vi (len ((fv y0).2.2))), (9, vi s1.2)] [[]] [Rl e_Formula p1 c1 ((fv y0).2.2)]) (gv (fun _ k=>k) [900] ⟨gk 0,⟨⟩⟩)<|fun s1 _ k=>k<|jsr<|jpc 1 rfl<|jot<|jsq<|jif rfl (jsk<|jtn<|
  jsq<|jbk<|jsr<|jix 0 rfl rfl rfl<|fun x1 b2 o1=>jld true o_Formula (gk 0) rfl<|fun p2 c2=>jal .s (.agg #[vi 0, vs [], .slice none 0 0])<|fun b3=>jso .s 1 rfl rfl rfl<|jot<|jrg<|jpc 1 rfl<|jla 1 3 rfl rfl rfl<|
  jcl ih_formula_Size rfl ⟨ck 0,⟨⟩⟩<|fun r1 _ k=>k<|jpc 2 rfl<|joe<|jbn<|jtn<|jrg<|jpc 2 rfl<|joe<|jln (gv (fun _ k=>k) [900] ⟨gk 2,⟨⟩⟩))<|jxe<|jte<|jle<|jbh<|jtn<|jsr<|jpc 2 rfl<|jot<|jxr<|jr1 rfl rfl (fun _ k=>k) [] ⟨⟩

theorem c_formula_Size {qd : Prop} {y0 : T_Formula} : Con qd Tryz.prog 104 [.agg #[vi ((fv y0).1), vs ((fv y0).2.1), sv p1 ((fv y0).2.2) c1]] [] [Rl e_Formula p1 c1 ((fv y0).2.2)] (m_formula_Size y0) fun r K=>K (vi r) [] [] := conLim fun k => (k_formula_Size_all k)

theorem c_formula_counted {qd : Prop} {y0 : T_Formula} : Con qd Tryz.prog 107 [.agg #[vi ((fv y0).1), vs ((fv y0).2.1), sv p1 ((fv y0).2.2) c1]] [] [Rl e_Formula p1 c1 ((fv y0).2.2)] (m_formula_counted y0) fun r K=>K (vb r) [] [] :=
 ent3 Tryz.call107 Tryz.func107 rfl fun X=>jsr<|jbx .s rfl<|fun b1=>jpc 1 rfl<|jot<|jsr<|jfa 2 rfl<|jlo 0 rfl rfl rfl<|jpc 2 rfl<|jot<|jsq<|jsr<|jfa 0 rfl<|jlo 0 rfl rfl rfl<|jot<|jbk<|jjn (fun s1 K=>K [(3, vi (len ((fv y0).2.2))), (8, vi ((fv y0).1)), (9, vb s1)] [[]] []) (jsr<|
  jpc 2 rfl<|jot<|jif rfl (jsk<|jnn (gv (fun _ k=>k) [900] ⟨⟩))<|jsr<|jpc 2 rfl<|jot<|jif rfl (jsk<|jnn (gv (fun _ k=>k) [900] ⟨⟩))<|jrg<|jpc 2 rfl<|joe<|jnn (gv (fun _ k=>k) [900] ⟨⟩))<|fun s1 _ k=>k<|jif rfl (jsr<|jpc 3 rfl<|jot<|jxr<|jbr<|
  jtr<|jr1 rfl rfl (fun _ k=>k) [] ⟨⟩)<|jsr<|jpc 2 rfl<|jot<|jif rfl (jsr<|jpc 3 rfl<|jot<|jxr<|jbr<|jtr<|jr1 rfl rfl (fun _ k=>k) [] ⟨⟩)<|jjn (fun s2 K=>K [(3, vi (len ((fv y0).2.2))), (8, vi ((fv y0).1)), (19, vb s2)] [[]] []) (jsr<|
  jpc 2 rfl<|jot<|jif rfl (jsk<|jnn (gv (fun _ k=>k) [900] ⟨⟩))<|jrg<|jpc 2 rfl<|joe<|jnn (gv (fun _ k=>k) [900] ⟨⟩))<|fun s2 _ k=>k<|jif rfl (
  jjp (fun K=>K [(2, vb ((decide (2 ≤ (len ((fv y0).2.2)))) && (decide ((len ((fv y0).2.2)) ≤ 6))))] [[]] []) (jrg<|jpc 3 rfl<|jsp (b := decide (2 ≤ (len ((fv y0).2.2)))) 24 rfl (fun hb1=>jpc 2 rfl<|
  jpe (vb (decide ((len ((fv y0).2.2)) ≤ 6)))<|jpc 1 rfl<|joe<|jup 2 (vb ((decide (2 ≤ (len ((fv y0).2.2)))) && (decide ((len ((fv y0).2.2)) ≤ 6)))) rfl (by rw [hb1]; rfl)<|jnn (gv (fun _ k=>k) [900] ⟨⟩))<|fun hb1=>jpc 2 rfl<|jpe (vb false)<|
  jpc 1 rfl<|joe<|jup 2 (vb ((decide (2 ≤ (len ((fv y0).2.2)))) && (decide ((len ((fv y0).2.2)) ≤ 6)))) rfl (by rw [hb1]; rfl)<|jnn (gv (fun _ k=>k) [900] ⟨⟩))<|fun _ k=>k<|jxr<|jbr<|jtr<|jr1 rfl rfl (fun _ k=>k) [] ⟨⟩)<|
  jjn (fun s3 K=>K [(3, vi (len ((fv y0).2.2))), (28, vb s3)] [[]] []) (jsr<|jpc 2 rfl<|jot<|jif rfl (jsk<|jnn (gv (fun _ k=>k) [900] ⟨⟩))<|jrg<|jpc 2 rfl<|joe<|jnn (gv (fun _ k=>k) [900] ⟨⟩))<|fun s3 _ k=>k<|jif rfl (jsr<|jpc 3 rfl<|jot<|
  jxr<|jbr<|jtr<|jr1 rfl rfl (fun _ k=>k) [] ⟨⟩)<|jsk<|jbn<|jtn<|jsr<|jpc 1 rfl<|jot<|jxr<|jr1 rfl rfl (fun _ k=>k) [] ⟨⟩

theorem k_formula_all__formula_counted_all {qd : Prop} (k : Nat) :
    (∀ {y0 : T_Formula} {p1 : Option Addr} {c1 : Nat}, Con qd Tryz.prog 106 [.agg #[vi ((fv y0).1), vs ((fv y0).2.1), sv p1 ((fv y0).2.2) c1], .func (.func 107) #[] #[]] [] [Rl e_Formula p1 c1 ((fv y0).2.2)] (k_formula_all__formula_counted k y0) fun r K=>K (vb r) [] []) := by
  induction k with
  | zero => exact con0 Tryz.call106
  | succ k ih =>
    have ih_formula_all__formula_counted := @ih
    exact @fun y0 p1 c1=>ent3 (m1 := F_formula_all__formula_counted (k_formula_all__formula_counted k) y0) Tryz.call106 Tryz.func106 rfl fun X=>jsr<|jbx .s rfl<|fun b1=>jpc 1 rfl<|jot<|jsq<|jsr<|jpc 1 rfl<|jla 0 3 rfl rfl rfl<|jca .s [] [] c_formula_counted rfl rfl rfl ⟨ck 0,⟨⟩⟩<|fun r1 _ k=>k<|jpc 1 rfl<|jot<|jif rfl (jsr<|jpc 1 rfl<|jot<|jxr<|jtr<|jr1 rfl rfl (fun _ k=>k) [] ⟨⟩
  )<|jsk<|jtn<|jsq<|jsr<|jfa 2 rfl<|jlo 0 rfl rfl rfl<|jpc 2 rfl<|jot<|jbk<|
  jlp (fun s1 K=>K [(1, .func (.func 107) #[] #[]), (12, sv p1 ((fv y0).2.2) c1), (13, vi (len ((fv y0).2.2))), (14, vi s1)] [[]] [Rl e_Formula p1 c1 ((fv y0).2.2)]) (gv (fun _ k=>k) [900] ⟨gk 0,⟨⟩⟩)<|fun s1 _ k=>k<|jsr<|jpc 1 rfl<|jot<|jsq<|
  jif rfl (jsk<|jtn<|jsq<|jbk<|jsr<|jix 0 rfl rfl rfl<|fun x1 b2 o1=>jld true o_Formula (gk 0) rfl<|fun p2 c2=>jal .s (.agg #[vi 0, vs [], .slice none 0 0])<|fun b3=>jso .s 1 rfl rfl rfl<|jot<|jsr<|jla 1 3 rfl rfl rfl<|jpc 1 rfl<|
  jcl ih_formula_all__formula_counted rfl ⟨ck 0,⟨⟩⟩<|fun r2 _ k=>k<|jpc 1 rfl<|jot<|jif rfl (jsr<|jpc 1 rfl<|jot<|jxr<|jbr<|jtr<|jlr<|jbr<|jtr<|jr1 rfl rfl (fun _ k=>k) [] ⟨⟩)<|jsk<|jbn<|jtn<|jrg<|jpc 2 rfl<|joe<|
  jln (gv (fun _ k=>k) [900] ⟨gk 2,⟨⟩⟩))<|jxe<|jte<|jle<|jbh<|jtn<|jsr<|jpc 1 rfl<|jot<|jxr<|jr1 rfl rfl (fun _ k=>k) [] ⟨⟩

theorem c_formula_all__formula_counted {qd : Prop} {y0 : T_Formula} : Con qd Tryz.prog 106 [.agg #[vi ((fv y0).1), vs ((fv y0).2.1), sv p1 ((fv y0).2.2) c1], .func (.func 107) #[] #[]] [] [Rl e_Formula p1 c1 ((fv y0).2.2)] (m_formula_all__formula_counted y0) fun r K=>K (vb r) [] [] := conLim fun k => (k_formula_all__formula_counted_all k)

theorem c_literal_ValidName {qd : Prop} {y0 : Str} : Con qd Tryz.prog 92 [vs y0] [] [] (m_literal_ValidName y0) fun r K=>K (vb r) [] [] :=
 ent3 Tryz.call92 Tryz.func92 rfl fun X=>jsr<|jpc 1 rfl<|jot<|jsq<|jjp (fun K=>K [(0, vs y0), (12, vb (((len y0) == 0) || (decide (12 < (len y0)))))] [] []) (jrg<|jpc 4 rfl<|jsp (b := (len y0) == 0) 8 rfl (fun hb1=>jpc 3 rfl<|jpe (vb true)<|joe<|
  jup 12 (vb (((len y0) == 0) || (decide (12 < (len y0))))) rfl (by rw [hb1]; rfl)<|jnn (gv (fun _ k=>k) [] ⟨⟩))<|fun hb1=>jpc 3 rfl<|jpe (vb (decide (12 < (len y0))))<|joe<|
  jup 12 (vb (((len y0) == 0) || (decide (12 < (len y0))))) rfl (by rw [hb1]; rfl)<|jnn (gv (fun _ k=>k) [] ⟨⟩))<|fun _ k=>k<|jif rfl (jsr<|jpc 1 rfl<|jot<|jxr<|jtr<|jr1 rfl rfl (fun _ k=>k) [] ⟨⟩)<|jsk<|jtn<|jsq<|jsr<|jpc 3 rfl<|jot<|jbk<|
  jlp (fun s1 K=>K [(0, vs y0), (14, vi (len y0)), (15, vi s1)] [] []) (gv (fun _ k=>k) [] ⟨⟩)<|fun s1 _ k=>k<|jsr<|jpc 1 rfl<|jot<|jsq<|jif rfl (jsk<|jtn<|jsq<|jbk<|jsr<|jpc 2 rfl<|jot<|jsr<|jpc 2 rfl<|jbd fun x1 h1=>
  jv (fun h=>r_sidx h rfl rfl Tryz.underlying9 h1)<|jpc 1 rfl<|jot<|jbk<|jjp (fun K=>K [(0, vs y0), (3, vi s1), (4, .int .u8 x1), (14, vi (len y0)), (15, vi s1), (21, vb ((decide (97 ≤ x1)) && (decide (x1 ≤ 122))))] [] []) (jrg<|jpc 3 rfl<|
  jsp (b := decide (97 ≤ x1)) 24 rfl (fun hb2=>jpc 2 rfl<|jpe (vb (decide (x1 ≤ 122)))<|jpc 1 rfl<|joe<|jup 21 (vb ((decide (97 ≤ x1)) && (decide (x1 ≤ 122)))) rfl (by rw [hb2]; rfl)<|jnn (gv (fun _ k=>k) [] ⟨⟩))<|fun hb2=>jpc 2 rfl<|
  jpe (vb false)<|jpc 1 rfl<|joe<|jup 21 (vb ((decide (97 ≤ x1)) && (decide (x1 ≤ 122)))) rfl (by rw [hb2]; rfl)<|jnn (gv (fun _ k=>k) [] ⟨⟩))<|fun _ k=>k<|jif rfl (jsk<|jbn<|jbn<|jtn<|jrg<|jpc 2 rfl<|joe<|jln (gv (fun _ k=>k) [] ⟨⟩))<|
  jjp (fun K=>K [(0, vs y0), (14, vi (len y0)), (15, vi s1), (28, vb ((decide (0 < s1)) && (if decide (48 ≤ x1) then (decide (x1 ≤ 57)) || (x1 == 95) else x1 == 95)))] [] []) (jrg<|jpc 3 rfl<|jsp (b := decide (0 < s1)) 31 rfl (fun hb3=>
  jpc 3 rfl<|jsp (b := decide (48 ≤ x1)) 34 rfl (fun hb4=>jpc 2 rfl<|jpe (vb (decide (x1 ≤ 57)))<|jpc 1 rfl<|jsp (b := decide (x1 ≤ 57)) 38 rfl (fun hb5=>jpc 2 rfl<|jpe (vb true)<|jpe (vb true)<|jpc 1 rfl<|joe<|
  jup 28 (vb ((decide (0 < s1)) && (if decide (48 ≤ x1) then (decide (x1 ≤ 57)) || (x1 == 95) else x1 == 95))) rfl (by rw [hb3,hb4,hb5]; rfl)<|jnn (gv (fun _ k=>k) [] ⟨⟩))<|fun hb5=>jpc 2 rfl<|jpe (vb (x1 == 95))<|jpe (vb (x1 == 95))<|
  jpc 1 rfl<|joe<|jup 28 (vb ((decide (0 < s1)) && (if decide (48 ≤ x1) then (decide (x1 ≤ 57)) || (x1 == 95) else x1 == 95))) rfl (by rw [hb3,hb4,hb5]; rfl)<|jnn (gv (fun _ k=>k) [] ⟨⟩))<|fun hb4=>jpc 2 rfl<|jpe (vb false)<|jpc 3 rfl<|
  jpe (vb (x1 == 95))<|jpe (vb (x1 == 95))<|jpc 1 rfl<|joe<|jup 28 (vb ((decide (0 < s1)) && (if decide (48 ≤ x1) then (decide (x1 ≤ 57)) || (x1 == 95) else x1 == 95))) rfl (by rw [hb3,hb4]; rfl)<|jnn (gv (fun _ k=>k) [] ⟨⟩))<|fun hb3=>
  jpc 10 rfl<|jpe (vb false)<|jpc 1 rfl<|joe<|jup 28 (vb ((decide (0 < s1)) && (if decide (48 ≤ x1) then (decide (x1 ≤ 57)) || (x1 == 95) else x1 == 95))) rfl (by rw [hb3]; rfl)<|jnn (gv (fun _ k=>k) [] ⟨⟩))<|fun _ k=>k<|jif rfl (jsk<|jbn<|
  jbn<|jtn<|jrg<|jpc 2 rfl<|joe<|jln (gv (fun _ k=>k) [] ⟨⟩))<|jsr<|jpc 1 rfl<|jot<|jxr<|jbr<|jbr<|jtr<|jlr<|jbr<|jtr<|jr1 rfl rfl (fun _ k=>k) [] ⟨⟩)<|jxe<|jte<|jle<|jbh<|jtn<|jsr<|jpc 1 rfl<|jot<|jxr<|jr1 rfl rfl (fun _ k=>k) [] ⟨⟩

theorem c_formula_named {qd : Prop} {y0 : T_Formula} : Con qd Tryz.prog 108 [.agg #[vi ((fv y0).1), vs ((fv y0).2.1), sv p1 ((fv y0).2.2) c1]] [] [Rl e_Formula p1 c1 ((fv y0).2.2)] (m_formula_named y0) fun r K=>K (vb r) [] [] :=
 ent3 Tryz.call108 Tryz.func108 rfl fun X=>jsr<|jbx .s rfl<|fun b1=>jpc 1 rfl<|jot<|jsq<|jsr<|jfa 0 rfl<|jlo 0 rfl rfl rfl<|jpc 1 rfl<|jot<|jif rfl (jsr<|jfa 1 rfl<|jlo 0 rfl rfl rfl<|jcl c_literal_ValidName rfl ⟨⟩<|fun r1 _ k=>k<|jpc 1 rfl<|jot<|jxr<|jtr<|
  jr1 rfl rfl (fun _ k=>k) [] ⟨⟩)<|jsk<|jtn<|jsr<|jfa 1 rfl<|jlo 0 rfl rfl rfl<|jpc 2 rfl<|jot<|jxr<|jr1 rfl rfl (fun _ k=>k) [] ⟨⟩

theorem k_formula_all__formula_named_all {qd : Prop} (k : Nat) :
    (∀ {y0 : T_Formula} {p1 : Option Addr} {c1 : Nat}, Con qd Tryz.prog 106 [.agg #[vi ((fv y0).1), vs ((fv y0).2.1), sv p1 ((fv y0).2.2) c1], .func (.func 108) #[] #[]] [] [Rl e_Formula p1 c1 ((fv y0).2.2)] (k_formula_all__formula_named k y0) fun r K=>K (vb r) [] []) := by
  induction k with
  | zero => exact con0 Tryz.call106
  | succ k ih =>
    have ih_formula_all__formula_named := @ih
    exact @fun y0 p1 c1=>ent3 (m1 := F_formula_all__formula_named (k_formula_all__formula_named k) y0) Tryz.call106 Tryz.func106 rfl fun X=>jsr<|jbx .s rfl<|fun b1=>jpc 1 rfl<|jot<|jsq<|jsr<|jpc 1 rfl<|jla 0 3 rfl rfl rfl<|jca .s [] [] c_formula_named rfl rfl rfl ⟨ck 0,⟨⟩⟩<|fun r1 _ k=>k<|jpc 1 rfl<|jot<|jif rfl (jsr<|jpc 1 rfl<|jot<|jxr<|jtr<|jr1 rfl rfl (fun _ k=>k) [] ⟨⟩)<|
  jsk<|jtn<|jsq<|jsr<|jfa 2 rfl<|jlo 0 rfl rfl rfl<|jpc 2 rfl<|jot<|jbk<|
  jlp (fun s1 K=>K [(1, .func (.func 108) #[] #[]), (12, sv p1 ((fv y0).2.2) c1), (13, vi (len ((fv y0).2.2))), (14, vi s1)] [[]] [Rl e_Formula p1 c1 ((fv y0).2.2)]) (gv (fun _ k=>k) [900] ⟨gk 0,⟨⟩⟩)<|fun s1 _ k=>k<|jsr<|jpc 1 rfl<|jot<|jsq<|
  jif rfl (jsk<|jtn<|jsq<|jbk<|jsr<|jix 0 rfl rfl rfl<|fun x1 b2 o1=>jld true o_Formula (gk 0) rfl<|fun p2 c2=>jal .s (.agg #[vi 0, vs [], .slice none 0 0])<|fun b3=>jso .s 1 rfl rfl rfl<|jot<|jsr<|jla 1 3 rfl rfl rfl<|jpc 1 rfl<|
  jcl ih_formula_all__formula_named rfl ⟨ck 0,⟨⟩⟩<|fun r2 _ k=>k<|jpc 1 rfl<|jot<|jif rfl (jsr<|jpc 1 rfl<|jot<|jxr<|jbr<|jtr<|jlr<|jbr<|jtr<|jr1 rfl rfl (fun _ k=>k) [] ⟨⟩)<|jsk<|jbn<|jtn<|jrg<|jpc 2 rfl<|joe<|
  jln (gv (fun _ k=>k) [900] ⟨gk 2,⟨⟩⟩))<|jxe<|jte<|jle<|jbh<|jtn<|jsr<|jpc 1 rfl<|jot<|jxr<|jr1 rfl rfl (fun _ k=>k) [] ⟨⟩

theorem c_formula_all__formula_named {qd : Prop} {y0 : T_Formula} : Con qd Tryz.prog 106 [.agg #[vi ((fv y0).1), vs ((fv y0).2.1), sv p1 ((fv y0).2.2) c1], .func (.func 108) #[] #[]] [] [Rl e_Formula p1 c1 ((fv y0).2.2)] (m_formula_all__formula_named y0) fun r K=>K (vb r) [] [] := conLim fun k => (k_formula_all__formula_named_all k)

theorem c_formula_Validate {qd : Prop} {y0 : T_Formula} : Con qd Tryz.prog 82 [.agg #[vi ((fv y0).1), vs ((fv y0).2.1), sv p1 ((fv y0).2.2) c1]] [] [Rl e_Formula p1 c1 ((fv y0).2.2)] (m_formula_Validate y0) fun r K=>K (vi r) [] [] :=
 ent3 Tryz.call82 Tryz.func82 rfl fun X=>jsr<|jbx .s rfl<|fun b1=>jpc 1 rfl<|jot<|jsq<|jbk<|jjn (fun s1 K=>K [(1, pt b1 0), (3, vb s1)] [bx b1 109 [vi ((fv y0).1), vs ((fv y0).2.1), sv p1 ((fv y0).2.2) c1]] [Rl e_Formula p1 c1 ((fv y0).2.2)]) (jrg<|jla 0 3 rfl rfl rfl<|
  jcl c_formula_Size rfl ⟨ck 0,⟨⟩⟩<|fun r1 _ k=>k<|jpc 2 rfl<|jsg 7 rfl (jpc 3 rfl<|jpe (vb true)<|jpc 1 rfl<|joe<|jnn (gv (fun _ k=>k) [0] ⟨gk 0,⟨⟩⟩))<|jla 0 3 rfl rfl rfl<|jcl c_formula_Depth rfl ⟨ck 0,⟨⟩⟩<|fun r2 _ k=>k<|jpc 1 rfl<|
  jpe (vb (decide (20 < r2)))<|jpc 1 rfl<|joe<|jnn (gv (fun _ k=>k) [0] ⟨gk 0,⟨⟩⟩))<|fun s1 _ k=>k<|jif rfl (jsr<|jpc 1 rfl<|jot<|jxr<|jbr<|jtr<|jr1 rfl rfl (fun _ k=>k) [] ⟨⟩)<|jsr<|jla 0 3 rfl rfl rfl<|
  jcl c_formula_all__formula_counted rfl ⟨ck 0,⟨⟩⟩<|fun r3 _ k=>k<|jpc 2 rfl<|jot<|jif rfl (jsr<|jpc 1 rfl<|jot<|jxr<|jbr<|jtr<|jr1 rfl rfl (fun _ k=>k) [] ⟨⟩)<|jsr<|jla 0 3 rfl rfl rfl<|jcl c_formula_all__formula_named rfl ⟨ck 0,⟨⟩⟩<|
  fun r4 _ k=>k<|jpc 2 rfl<|jot<|jif rfl (jsr<|jpc 1 rfl<|jot<|jxr<|jbr<|jtr<|jr1 rfl rfl (fun _ k=>k) [] ⟨⟩)<|jsk<|jbn<|jtn<|jsr<|jpc 1 rfl<|jot<|jxr<|jr1 rfl rfl (fun _ k=>k) [] ⟨⟩

theorem c_formula_needed {qd : Prop} {y0 : T_Formula} {y1 : Int} : Con qd Tryz.prog 112 [.agg #[vi ((fv y0).1), vs ((fv y0).2.1), sv p1 ((fv y0).2.2) c1], vi y1] [] [Rl e_Formula p1 c1 ((fv y0).2.2)] (m_formula_needed y0 y1) fun r K=>K (vi r) [] [] :=
 ent3 Tryz.call112 Tryz.func112 rfl fun X=>jsr<|jbx .s rfl<|fun b1=>jpc 1 rfl<|jot<|jsq<|jsr<|jfa 0 rfl<|jlo 0 rfl rfl rfl<|jot<|jbk<|jjn (fun s1 K=>K [(1, vi y1), (6, vi ((fv y0).1)), (7, vb s1)] [[]] []) (jsr<|jpc 2 rfl<|jot<|jif rfl (jsk<|jnn (gv (fun _ k=>k) [900] ⟨⟩))<|jrg<|
  jpc 2 rfl<|joe<|jnn (gv (fun _ k=>k) [900] ⟨⟩))<|fun s1 _ k=>k<|jif rfl (jsr<|jpc 1 rfl<|jot<|jxr<|jbr<|jtr<|jr1 rfl rfl (fun _ k=>k) [] ⟨⟩)<|jsr<|jpc 2 rfl<|jot<|jif rfl (jsr<|jpc 1 rfl<|jot<|jxr<|jbr<|jtr<|jr1 rfl rfl (fun _ k=>k) [] ⟨⟩
  )<|jsr<|jpc 2 rfl<|jot<|jif rfl (jsr<|jpc 3 rfl<|jot<|jxr<|jbr<|jtr<|jr1 rfl rfl (fun _ k=>k) [] ⟨⟩)<|jsk<|jbn<|jtn<|jsr<|jpc 1 rfl<|jot<|jxr<|jr1 rfl rfl (fun _ k=>k) [] ⟨⟩

theorem c_formula_strength {qd : Prop} {y0 : T_Formula} : Con qd Tryz.prog 111 [.agg #[vi ((fv y0).1), vs ((fv y0).2.1), sv p1 ((fv y0).2.2) c1]] [] [Rl e_Formula p1 c1 ((fv y0).2.2)] (m_formula_strength y0) fun r K=>K (vi r) [] [] :=
 ent3 Tryz.call111 Tryz.func111 rfl fun X=>jsr<|jbx .s rfl<|fun b1=>jpc 1 rfl<|jot<|jsq<|jsr<|jfa 0 rfl<|jlo 0 rfl rfl rfl<|jot<|jbk<|jsr<|jpc 2 rfl<|jot<|jif rfl (jsr<|jpc 1 rfl<|jot<|jxr<|jbr<|jtr<|jr1 rfl rfl (fun _ k=>k) [] ⟨⟩)<|jsr<|jpc 2 rfl<|jot<|jif rfl (jsr<|jpc 1 rfl<|
  jot<|jxr<|jbr<|jtr<|jr1 rfl rfl (fun _ k=>k) [] ⟨⟩)<|jsr<|jpc 2 rfl<|jot<|jif rfl (jsr<|jpc 1 rfl<|jot<|jxr<|jbr<|jtr<|jr1 rfl rfl (fun _ k=>k) [] ⟨⟩)<|jsr<|jpc 2 rfl<|jot<|jif rfl (jsr<|jpc 1 rfl<|jot<|jxr<|jbr<|jtr<|
  jr1 rfl rfl (fun _ k=>k) [] ⟨⟩)<|jsk<|jbn<|jtn<|jsr<|jpc 1 rfl<|jot<|jxr<|jr1 rfl rfl (fun _ k=>k) [] ⟨⟩

theorem k_strings_Builder_WriteByte {qd : Prop} {y0 : Str} : Con qd Tryz.prog 131 [pt b1 0] [r_1] [Bdr 137 5 r_1 b1 y0] (some ()) fun _ K=>∀ r_2,K (.tuple #[]) [r_2] [Bdr 137 5 r_2 b1 y0] := (lib_chk (ρ := Go.Proofs.Tryz.lays166_ren) { Go.Proofs.Tryz.lays166 with } Go.Proofs.Tryz.Builder_Extra_166.toX72 Tryz.call131)
theorem c_strings_Builder_WriteByte {qd : Prop} {y0 : Str} {y1 : Int} : Con qd Tryz.prog 109 [pt b1 0, .int .u8 y1] [r_1] [Bdr 137 5 r_1 b1 y0] (m_strings_Builder_WriteByte y0 y1) fun r K=>∀ r_2,K .nilIface [r_2] [Bdr 137 5 r_2 b1 r.2] :=
 ent3 Tryz.call109 Tryz.func109 rfl fun X=>jsr<|jpc 1 rfl<|jot<|jsr<|jpc 1 rfl<|jca .s [0] [] k_strings_Builder_WriteByte rfl rfl rfl ⟨ck 0,⟨⟩⟩<|fun _ _ k r_2=>k<|jot<|jsr<|jBo 0 0 rfl<|fun pv p2 c2 r_3=>jpc 3 rfl<|jfa 1 rfl<|jlo 0 rfl rfl rfl<|jpc 1 rfl<|
  jbs .s (e := eInt .u8) 5 [.int .u8 y1] [y1] (rC vI rN)<|fun p3 c3=>jwb .s 1 1 rfl (gk 0) rfl rfl<|fun r_4 p4 c4=>jpc 1 rfl<|jfa 1 rfl<|jso .s 0 rfl rfl rfl<|jBc 0 1 0 3 rfl rfl rfl rfl<|fun r_5=>jot<|jsr<|jpc 1 rfl<|jot<|jxr<|jr1 rfl rfl (fun _ k=>k r_5) [0] ⟨gk 0,⟨⟩⟩

theorem c_strings_Builder_WriteString {y0 : Str} {y1 : Str} : Con False Tryz.prog 110 [pt b1 0, vs y1] [r_1] [Bdr 137 5 r_1 b1 y0] (m_strings_Builder_WriteString y0 y1) fun r K=>∀ r_2,K (.tuple #[vi r.1, .nilIface]) [r_2] [Bdr 137 5 r_2 b1 r.2.2] := lib_wstr { Go.Proofs.Tryz.lays166 with } Go.Proofs.Tryz.Builder_Extra_166 Tryz.call110

theorem k_formula_write_all (k : Nat) :
    (∀ {y0 : Str} {b1 : Nat} {r_1 : Res} {y1 : T_Formula} {p1 : Option Addr} {c1 : Nat}, Con False Tryz.prog 83 [pt b1 0, .agg #[vi ((fv y1).1), vs ((fv y1).2.1), sv p1 ((fv y1).2.2) c1]] [r_1] [Bdr 137 5 r_1 b1 y0, Rl e_Formula p1 c1 ((fv y1).2.2), Pt (eArr 9 eStr) 0 0 tab_formula_words] (k_formula_write k y0 y1) fun r K=>∀ r_2,K (.tuple #[]) [r_2] [Bdr 137 5 r_2 b1 r]) := by
  induction k with
  | zero => exact con0 Tryz.call83
  | succ k ih =>
    have ih_formula_write := @ih
    exact @fun y0 b1 r_1 y1 p1 c1=>ent3 (m1 := F_formula_write (k_formula_write k) y0 y1) Tryz.call83 Tryz.func83 rfl fun X=>jsr<|jbx .s rfl<|fun b2=>jot<|
  jjn (fun s1 K=>∀ r_2,K [(0, pt b1 0), (3, pt b2 0)] [r_2, bx b2 109 [vi ((fv y1).1), vs ((fv y1).2.1), sv p1 ((fv y1).2.2) c1]] [Bdr 137 5 r_2 b1 s1, Rl e_Formula p1 c1 ((fv y1).2.2), Pt (eArr 9 eStr) 0 0 tab_formula_words]) (jsr<|
  jfa 0 rfl<|jlo 1 rfl rfl rfl<|jot<|jbk<|jsr<|jpc 2 rfl<|jot<|jif rfl (jrg<|jpc 1 rfl<|jca .s [0] [] c_strings_Builder_WriteByte rfl rfl rfl ⟨ck 0,⟨⟩⟩<|fun r1 _ k r_3=>k<|joe<|jbn<|jnn (gv (fun _ k=>k r_3) [0,1] ⟨gk 0,gk 2,gk 3,⟨⟩⟩))<|jsr<|
  jpc 2 rfl<|jot<|jif rfl (jrg<|jpc 1 rfl<|jca .s [0] [] c_strings_Builder_WriteByte rfl rfl rfl ⟨ck 0,⟨⟩⟩<|fun r2 _ k r_4=>k<|joe<|jbn<|jnn (gv (fun _ k=>k r_4) [0,1] ⟨gk 0,gk 2,gk 3,⟨⟩⟩))<|jsr<|jpc 2 rfl<|jot<|jif rfl (jrg<|jpc 1 rfl<|
  jfa 1 rfl<|jlo 1 rfl rfl rfl<|jca .s [0] [] c_strings_Builder_WriteString rfl rfl rfl ⟨ck 0,⟨⟩⟩<|fun r3 _ k r_5=>k<|joe<|jbn<|jnn (gv (fun _ k=>k r_5) [0,1] ⟨gk 0,gk 2,gk 3,⟨⟩⟩))<|jsr<|jpc 2 rfl<|jot<|jif rfl (jrg<|jpc 1 rfl<|
  jca .s [0] [] c_strings_Builder_WriteByte rfl rfl rfl ⟨ck 0,⟨⟩⟩<|fun r4 _ k r_6=>k<|joe<|jbn<|jnn (gv (fun _ k=>k r_6) [0,1] ⟨gk 0,gk 2,gk 3,⟨⟩⟩))<|jsk<|jbn<|jnn (gv (fun _ k=>k r_1) [0,1] ⟨gk 0,gk 1,gk 2,⟨⟩⟩))<|fun s1 _ k r_2=>k<|jsr<|
  jfa 2 rfl<|jlo 1 rfl rfl rfl<|jpc 2 rfl<|jot<|jbk<|
  jlp (fun s2 K=>∀ r_7,K [(0, pt b1 0), (3, pt b2 0), (27, sv p1 ((fv y1).2.2) c1), (28, vi (len ((fv y1).2.2))), (29, vi s2.1)] [r_7, bx b2 109 [vi ((fv y1).1), vs ((fv y1).2.1), sv p1 ((fv y1).2.2) c1]] [Bdr 137 5 r_7 b1 s2.2, Rl e_Formula p1 c1 ((fv y1).2.2), Pt (eArr 9 eStr) 0 0 tab_formula_words]) (gv (fun _ k=>k r_2) [0,1] ⟨gk 0,gk 1,gk 2,⟨⟩⟩)<|
  fun s2 _ k r_7=>k<|jsr<|jpc 1 rfl<|jot<|jsq<|jif rfl (jsk<|jtn<|jsq<|jbk<|jsr<|jpc 1 rfl<|jix 1 rfl rfl rfl<|fun x1 b3 o1=>jld true o_Formula (gk 0) rfl<|fun p2 c2=>jal .s (.agg #[vi 0, vs [], .slice none 0 0])<|fun b4=>jpc 1 rfl<|
  jso .s 2 rfl rfl rfl<|jot<|
  jjn (fun s3 K=>∀ r_8,K [(0, pt b1 0), (3, pt b2 0), (4, vi s2.1), (5, pt b4 0), (27, sv p1 ((fv y1).2.2) c1), (28, vi (len ((fv y1).2.2))), (29, vi s2.1)] [r_8, bx b2 109 [vi ((fv y1).1), vs ((fv y1).2.1), sv p1 ((fv y1).2.2) c1], bx b4 109 [vi ((fv x1).1), vs ((fv x1).2.1), sv p2 ((fv x1).2.2) c2]] [Bdr 137 5 r_8 b1 s3, Rl e_Formula p1 c1 ((fv y1).2.2), Rl e_Formula p2 c2 ((fv x1).2.2), Pt (eArr 9 eStr) 0 0 tab_formula_words]) (
  jsr<|jpc 2 rfl<|jot<|jif rfl (jrg<|jpc 1 rfl<|jfa 0 rfl<|jlo 1 rfl rfl rfl<|jgx (gk 4) rfl rfl<|fun x2=>jld false oS (gk 0) rfl<|jca .s [0] [] c_strings_Builder_WriteString rfl rfl rfl ⟨ck 3,⟨⟩⟩<|fun r5 _ k r_9=>k<|joe<|
  jnn (gv (fun _ k=>k r_9) [0,1,2] ⟨gk 0,gk 5,gk 2,gk 6,⟨⟩⟩))<|jsk<|jnn (gv (fun _ k=>k r_7) [0,1,2] ⟨gk 2,gk 3,gk 0,gk 4,⟨⟩⟩))<|fun s3 _ k r_8=>k<|jds [] [1, 2] 6<|jda 0 2 3 rfl rfl rfl rfl<|jda 2 1 3 rfl rfl rfl rfl<|jdc 3 [3] rfl<|jd1 1<|
  jca (.f rfl) [] [] c_formula_strength rfl rfl rfl ⟨ck 2,⟨⟩⟩<|fun r6 _ k=>k<|jdn<|jd1 4<|jca (.f rfl) [] [] c_formula_needed rfl rfl rfl ⟨ck 1,⟨⟩⟩<|fun r7 _ k=>k<|jdn<|jdc 0 [5] rfl<|jde<|jtn<|jif rfl (jsr<|jpc 1 rfl<|
  jca .s [0] [] c_strings_Builder_WriteByte rfl rfl rfl ⟨ck 0,⟨⟩⟩<|fun r8 _ k r_10=>k<|jot<|jsr<|jpc 1 rfl<|jla 2 3 rfl rfl rfl<|jca .s [0] [] ih_formula_write rfl rfl rfl ⟨ck 0,ck 3,ck 4,⟨⟩⟩<|fun r9 _ k r_11=>k<|jot<|jrg<|jpc 1 rfl<|
  jca .s [0] [] c_strings_Builder_WriteByte rfl rfl rfl ⟨ck 0,⟨⟩⟩<|fun r10 _ k r_12=>k<|joe<|jbn<|jtn<|jrg<|jpc 2 rfl<|joe<|jln (gv (fun _ k=>k r_12) [0,1] ⟨gk 0,gk 4,gk 6,⟨⟩⟩))<|jrg<|jpc 1 rfl<|jla 2 3 rfl rfl rfl<|
  jca .s [0] [] ih_formula_write rfl rfl rfl ⟨ck 0,ck 2,ck 3,⟨⟩⟩<|fun r11 _ k r_13=>k<|joe<|jbn<|jtn<|jrg<|jpc 2 rfl<|joe<|jln (gv (fun _ k=>k r_13) [0,1] ⟨gk 0,gk 2,gk 4,⟨⟩⟩))<|jxe<|jte<|jle<|jbh<|jrn<|
  jrg' rfl lN (fun _ k=>k r_7) [0] ⟨gk 0,⟨⟩⟩

theorem c_formula_write {y0 : Str} {y1 : T_Formula} : Con False Tryz.prog 83 [pt b1 0, .agg #[vi ((fv y1).1), vs ((fv y1).2.1), sv p1 ((fv y1).2.2) c1]] [r_1] [Bdr 137 5 r_1 b1 y0, Rl e_Formula p1 c1 ((fv y1).2.2), Pt (eArr 9 eStr) 0 0 tab_formula_words] (m_formula_write y0 y1) fun r K=>∀ r_2,K (.tuple #[]) [r_2] [Bdr 137 5 r_2 b1 r] := conLim fun k => (k_formula_write_all k)

theorem c_strings_Builder_Len {qd : Prop} {y0 : Str} : Con qd Tryz.prog 84 [pt b1 0] [r_1] [Bdr 137 5 r_1 b1 y0] (m_strings_Builder_Len y0) fun r K=>K (vi r) [r_1] [] := lib_blen Go.Proofs.Tryz.lays170 Tryz.call84

theorem c_strings_Builder_String {y0 : Str} : Con False Tryz.prog 85 [pt b1 0] [r_1] [Bdr 137 5 r_1 b1 y0] (m_strings_Builder_String y0) fun r K=>K (vs r) [[]] [] := lib_bstr Go.Proofs.Tryz.lays169 Go.Proofs.Tryz.Builder_Extra_169 Tryz.call85

theorem c_formula_Format {y0 : T_Formula} : Con False Tryz.prog 51 [.agg #[vi ((fv y0).1), vs ((fv y0).2.1), sv p1 ((fv y0).2.2) c1]] [] [Rl e_Formula p1 c1 ((fv y0).2.2), Pt (eArr 9 eStr) 0 0 tab_formula_words] (m_formula_Format y0) fun r K=>K (.tuple #[vs r.1, vi r.2]) [] [] :=
 ent3 Tryz.call51 Tryz.func51 rfl fun X=>jsr<|jbx .s rfl<|fun b1=>jpc 2 rfl<|jot<|jsq<|jsr<|jla 0 3 rfl rfl rfl<|jcl c_formula_Validate rfl ⟨ck 0,⟨⟩⟩<|fun r1 _ k=>k<|jpc 1 rfl<|jot<|jsr<|jpc 2 rfl<|jot<|jif rfl (jsr<|jpc 3 rfl<|jot<|jxr<|jtr<|
  jrg' rfl (lT rfl (lT rfl lN)) (fun _ k=>k) [] ⟨⟩)<|jsk<|jtn<|jsr<|jal .s (.agg #[.pointer none, .slice none 0 0])<|fun b2=>jbq 137 5 b2<|jot<|jsr<|jla 0 3 rfl rfl rfl<|jca .s [1] [] c_formula_write rfl rfl rfl ⟨ck 0,ck 1,ck 2,⟨⟩⟩<|
  fun r2 _ k r_1=>k<|jot<|jsq<|jsr<|jca .s [1] [] c_strings_Builder_Len rfl rfl rfl ⟨ck 0,⟨⟩⟩<|fun r3 _ k=>k<|jpc 1 rfl<|jot<|jif rfl (jsr<|jpc 2 rfl<|jot<|jxr<|jtr<|jrg' rfl (lT rfl (lT rfl lN)) (fun _ k=>k) [] ⟨⟩)<|jsk<|jtn<|jsr<|
  jca .s [1] [] c_strings_Builder_String rfl rfl rfl ⟨ck 0,⟨⟩⟩<|fun r4 _ k=>k<|jpc 2 rfl<|jot<|jxr<|jrg' rfl (lT rfl (lT rfl lN)) (fun _ k=>k) [] ⟨⟩

theorem c_slices_Index_bool {qd : Prop} {y0 : List Bool} {y1 : Bool} : Con qd Tryz.prog 130 [sv p1 y0 c1, vb y1] [] [Rl eBool p1 c1 y0] (m_slices_Index_bool y0 y1) fun r K=>K (vi r) [] [] :=
 ent3 Tryz.call130 Tryz.func130 rfl fun X=>jsr<|jpc 1 rfl<|jot<|jsq<|jsr<|jpc 3 rfl<|jot<|jbk<|jlp (fun s1 K=>K [(0, sv p1 y0 c1), (1, vb y1), (7, vi (len y0)), (8, vi s1)] [] [Rl eBool p1 c1 y0]) (gv (fun _ k=>k) [] ⟨gk 0,⟨⟩⟩)<|fun s1 _ k=>k<|jsr<|jpc 1 rfl<|jot<|jsq<|jif rfl (
  jsk<|jtn<|jsq<|jbk<|jsr<|jpc 2 rfl<|jot<|jsr<|jpc 3 rfl<|jix 0 rfl rfl rfl<|fun x1 b1 o1=>jld false oB (gk 0) rfl<|jpe (vb (y1 == x1))<|jot<|jif rfl (jsr<|jpc 2 rfl<|jot<|jxr<|jbr<|jtr<|jlr<|jbr<|jtr<|jr1 rfl rfl (fun _ k=>k) [] ⟨⟩)<|jsk<|
  jbn<|jtn<|jrg<|jpc 2 rfl<|joe<|jln (gv (fun _ k=>k) [] ⟨gk 1,⟨⟩⟩))<|jxe<|jte<|jle<|jbh<|jtn<|jsr<|jpc 1 rfl<|jot<|jxr<|jr1 rfl rfl (fun _ k=>k) [] ⟨⟩

theorem c_slices_Contains_bool {qd : Prop} {y0 : List Bool} {y1 : Bool} : Con qd Tryz.prog 100 [sv p1 y0 c1, vb y1] [] [Rl eBool p1 c1 y0] (m_slices_Contains_bool y0 y1) fun r K=>K (vb r) [] [] :=
 ent3 Tryz.call100 Tryz.func100 rfl fun X=>jsr<|jpc 1 rfl<|jot<|jsr<|jpc 2 rfl<|jcl c_slices_Index_bool rfl ⟨ck 0,⟨⟩⟩<|fun r1 _ k=>k<|jpc 2 rfl<|jot<|jxr<|jr1 rfl rfl (fun _ k=>k) [] ⟨⟩

theorem c_world_Valid {qd : Prop} {y0 : List Str} : Con qd Tryz.prog 79 [sv p1 y0 c1] [] [Rl eStr p1 c1 y0] (m_world_Valid y0) fun r K=>K (vb r) [] [] :=
 ent3 Tryz.call79 Tryz.func79 rfl fun X=>jsr<|jpc 1 rfl<|jot<|jsq<|jsr<|jpc 3 rfl<|jot<|jif rfl (jsr<|jpc 1 rfl<|jot<|jxr<|jtr<|jr1 rfl rfl (fun _ k=>k) [] ⟨⟩)<|jsk<|jtn<|jsq<|jsr<|jpc 3 rfl<|jot<|jbk<|
  jlp (fun s1 K=>K [(0, sv p1 y0 c1), (8, sv p1 y0 c1), (9, vi (len y0)), (10, vi s1)] [] [Rl eStr p1 c1 y0]) (gv (fun _ k=>k) [] ⟨gk 0,⟨⟩⟩)<|fun s1 _ k=>k<|jsr<|jpc 1 rfl<|jot<|jsq<|jif rfl (jsk<|jtn<|jsq<|jbk<|jsr<|jpc 1 rfl<|
  jix 0 rfl rfl rfl<|fun x1 b1 o1=>jld false oS (gk 0) rfl<|jpc 2 rfl<|jot<|jjn (fun s2 K=>K [(0, sv p1 y0 c1), (8, sv p1 y0 c1), (9, vi (len y0)), (10, vi s1), (30, vb s2)] [] [Rl eStr p1 c1 y0]) (jrg<|jpc 1 rfl<|
  jcl c_literal_ValidName rfl ⟨⟩<|fun r1 _ k=>k<|jpc 2 rfl<|jsg 18 rfl (jpc 11 rfl<|jpe (vb true)<|joe<|jnn (gv (fun _ k=>k) [] ⟨gk 1,⟨⟩⟩))<|jpc 3 rfl<|jsg 21 rfl (jpc 3 rfl<|jix 1 rfl rfl rfl<|fun x2 b2 o2=>jld false oS (gk 0) rfl<|
  jpc 2 rfl<|jpe (vb (!(sless x2 x1)))<|jpe (vb (!(sless x2 x1)))<|joe<|jnn (gv (fun _ k=>k) [] ⟨gk 2,⟨⟩⟩))<|jpc 7 rfl<|jpe (vb false)<|jpe (vb false)<|joe<|jnn (gv (fun _ k=>k) [] ⟨gk 1,⟨⟩⟩))<|fun s2 _ k=>k<|jif rfl (jsr<|jpc 1 rfl<|jot<|
  jxr<|jbr<|jtr<|jlr<|jbr<|jtr<|jr1 rfl rfl (fun _ k=>k) [] ⟨⟩)<|jsk<|jbn<|jtn<|jrg<|jpc 2 rfl<|joe<|jln (gv (fun _ k=>k) [] ⟨gk 0,⟨⟩⟩))<|jxe<|jte<|jle<|jbh<|jtn<|jsr<|jpc 1 rfl<|jot<|jxr<|jr1 rfl rfl (fun _ k=>k) [] ⟨⟩

theorem c_order_Validate {qd : Prop} {y0 : T_Order} : Con qd Tryz.prog 77 [.agg #[sv p1 y0.1 c1, sv p2 y0.2 c2]] [] [Rl eStr p1 c1 y0.1, Rl (eInt .i64) p2 c2 y0.2] (m_order_Validate y0) fun r K=>K (vi r) [] [] :=
 ent3 Tryz.call77 Tryz.func77 rfl fun X=>jsr<|jbx .s rfl<|fun b1=>jpc 1 rfl<|jot<|jsq<|jjn (fun s1 K=>K [(1, pt b1 0), (20, vb s1)] [bx b1 84 [sv p1 y0.1 c1, sv p2 y0.2 c2]] [Rl eStr p1 c1 y0.1, Rl (eInt .i64) p2 c2 y0.2]) (jdS [] [0] 14<|jdf 0 0 rfl rfl<|jdo 1 0 rfl rfl rfl rfl<|
  jd1 2<|jca (.f rfl) [] [] c_world_Valid rfl rfl rfl ⟨ck 0,⟨⟩⟩<|fun r1 _ k=>k<|jdn<|jdc 9 [3,4] rfl<|jsg 11 rfl (jdc 1 [5,6,7,8,9,10,11,12] rfl<|jdp 13 (vb true) rfl<|jde<|jnn (gv (fun _ k=>k) [0] ⟨gk 0,gk 1,⟨⟩⟩))<|jdf 5 1 rfl rfl<|
  jdo 6 0 rfl rfl rfl rfl<|jdc 6 [7] rfl<|jdf 8 0 rfl rfl<|jdo 9 0 rfl rfl rfl rfl<|jdc 3 [10] rfl<|jbd fun x1 h1=>jdv 11 rfl (fun h=>r_shlK h rfl rfl h1)<|jdc 1 [12] rfl<|jdp 13 (vb ((len y0.2) != x1)) rfl<|jde<|
  jnn (gv (fun _ k=>k) [0] ⟨gk 0,gk 1,⟨⟩⟩))<|fun s1 _ k=>k<|jif rfl (jsr<|jpc 1 rfl<|jot<|jxr<|jtr<|jr1 rfl rfl (fun _ k=>k) [] ⟨⟩)<|jsk<|jtn<|jsr<|jfa 1 rfl<|jlo 0 rfl rfl rfl<|jpc 1 rfl<|
  jmk .s (e := eBool) 4 (false : Bool) (vb false) vB rfl rfl<|fun x2 r_1 p3 c3=>jpc 1 rfl<|jot<|jsr<|jpc 1 rfl<|jot<|
  jjo (fun s2 K=>∀ r_2,K [(3, .slice p3 (List.length x2) c3), (4, vi s2.2)] [[], r_2] [Ar eBool 4 r_2 p3 c3 (List.length x2) s2.1]) (jsr<|jfa 1 rfl<|jlo 0 rfl rfl rfl<|jpc 2 rfl<|jot<|jbk<|
  jlp (fun s3 K=>∀ r_3,K [(3, .slice p3 (List.length x2) c3), (4, vi s3.2.1), (26, sv p2 y0.2 c2), (27, vi (len y0.2)), (28, vi s3.2.2)] [[], r_3] [Ar eBool 4 r_3 p3 c3 (List.length x2) s3.1, Rl (eInt .i64) p2 c2 y0.2]) (gv (fun _ k=>k r_1) [900,1] ⟨gk 0,gk 2,⟨⟩⟩)<|
  fun s3 _ k r_3=>k<|jsr<|jpc 1 rfl<|jot<|jsq<|jif rfl (jsk<|jtn<|jsq<|jbk<|jsr<|jix 1 rfl rfl rfl<|fun x3 b2 o1=>jld false oI (gk 0) rfl<|jpc 1 rfl<|jot<|jsq<|
  jjp (fun K=>K [(3, .slice p3 (List.length x2) c3), (4, vi s3.2.1), (6, vi x3), (26, sv p2 y0.2 c2), (27, vi (len y0.2)), (28, vi s3.2.2), (39, vb ((decide (x3 < 0)) || (decide ((len x2) ≤ x3))))] [[], r_3] [Ar eBool 4 r_3 p3 c3 (List.length x2) s3.1, Rl (eInt .i64) p2 c2 y0.2]) (
  jrg<|jpc 3 rfl<|jsp (b := decide (x3 < 0)) 34 rfl (fun hb2=>jpc 4 rfl<|jpe (vb true)<|joe<|jup 39 (vb ((decide (x3 < 0)) || (decide ((len x2) ≤ x3)))) rfl (by rw [hb2]; rfl)<|jnn (gv (fun _ k=>k) [900,1] ⟨gk 1,gk 2,⟨⟩⟩))<|fun hb2=>
  jpc 4 rfl<|jpe (vb (decide ((len x2) ≤ x3)))<|joe<|jup 39 (vb ((decide (x3 < 0)) || (decide ((len x2) ≤ x3)))) rfl (by rw [hb2]; rfl)<|jnn (gv (fun _ k=>k) [900,1] ⟨gk 1,gk 2,⟨⟩⟩))<|fun _ k=>k<|jif rfl (jsr<|jpc 1 rfl<|jot<|jxr<|jtr<|jbr<|
  jtr<|jlr<|jbr<|jlr<|jr1 rfl rfl (fun _ k=>k) [] ⟨⟩)<|jsk<|jtn<|jrg<|jpc 5 rfl<|jia 0 rfl rfl rfl<|fun x4 h2 b3 hp1=>jsA .s 1 0 sI true false rfl hp1 h2 rfl rfl vB<|fun r_4=>jpc 1 rfl<|joe<|jbn<|jtn<|jrg<|jpc 2 rfl<|joe<|
  jln (gv (fun _ k=>k r_4) [900,1] ⟨gk 0,gk 2,⟨⟩⟩))<|jxe<|jte<|jle<|jbh<|jln (gv (fun _ k=>k r_3) [900,1] ⟨gk 0,⟨⟩⟩))<|fun s2 _ k r_2=>k<|jsq<|jsr<|jpc 2 rfl<|jsP 0 rfl rfl rfl<|fun x5=>
  jca .s [] [1] c_slices_Contains_bool rfl rfl rfl ⟨cl 1 0,⟨⟩⟩<|fun r2 _ k=>k<|jot<|jif rfl (jsr<|jpc 1 rfl<|jot<|jxr<|jtr<|jr1 rfl rfl (fun _ k=>k) [] ⟨⟩)<|jsk<|jtn<|jsr<|jpc 1 rfl<|jot<|jxr<|jr1 rfl rfl (fun _ k=>k) [] ⟨⟩

theorem c_slices_Max_int {qd : Prop} {y0 : List Int} : Con qd Tryz.prog 78 [sv p1 y0 c1] [] [Rl (eInt .i64) p1 c1 y0] (m_slices_Max_int y0) fun r K=>K (vi r) [] [] :=
 ent3 Tryz.call78 Tryz.func78 rfl fun X=>jsr<|jpc 1 rfl<|jot<|jjn (fun s1 K=>K [(0, sv p1 y0 c1)] [] [Rl (eInt .i64) p1 c1 y0]) (jsr<|jpc 3 rfl<|jot<|jif rfl (jrg<|jno)<|jsk<|jnn (gv (fun _ k=>k) [] ⟨gk 0,⟨⟩⟩))<|fun s1 _ k=>k<|jsr<|jpc 1 rfl<|jix 0 rfl rfl rfl<|fun x1 b1 o1=>
  jld false oI (gk 0) rfl<|jpc 1 rfl<|jot<|jsq<|jsr<|jpc 1 rfl<|jot<|jbk<|jlp (fun s2 K=>K [(0, sv p1 y0 c1), (3, vi s2.1), (4, vi s2.2)] [] [Rl (eInt .i64) p1 c1 y0]) (gv (fun _ k=>k) [] ⟨gk 1,⟨⟩⟩)<|fun s2 _ k=>k<|jsq<|jsr<|jpc 4 rfl<|jot<|
  jif rfl (jsk<|jtn<|jsq<|jbk<|jrg<|jpc 3 rfl<|jix 0 rfl rfl rfl<|fun x2 b2 o2=>jld false oI (gk 0) rfl<|jpc 2 rfl<|joe<|jbn<|jtn<|jrg<|jpc 3 rfl<|joe<|jln (gv (fun _ k=>k) [] ⟨gk 1,⟨⟩⟩))<|jxe<|jte<|jle<|jbh<|jtn<|jsr<|jpc 2 rfl<|jot<|jxr<|
  jr1 rfl rfl (fun _ k=>k) [] ⟨⟩

theorem c_order_Levels {qd : Prop} {y0 : T_Order} : Con qd Tryz.prog 49 [.agg #[sv p1 y0.1 c1, sv p2 y0.2 c2]] [] [Rl eStr p1 c1 y0.1, Rl (eInt .i64) p2 c2 y0.2] (m_order_Levels y0) fun r K=>∀ p3 c3,K (sv p3 r c3) [] [Rl (eInt .u64) p3 c3 r] :=
 ent3 Tryz.call49 Tryz.func49 rfl fun X=>jsr<|jbx .s rfl<|fun b1=>jpc 1 rfl<|jot<|jsq<|jsr<|jla 0 2 rfl rfl rfl<|jcl c_order_Validate rfl ⟨ck 0,ck 1,⟨⟩⟩<|fun r1 _ k=>k<|jpc 1 rfl<|jot<|jif rfl (jsr<|jpc 1 rfl<|jot<|jxr<|jtr<|jr1 rfl rfl (fun _ k=>k none 0) [] ⟨gn,⟨⟩⟩)<|jsk<|jtn<|
  jsr<|jfa 1 rfl<|jlo 0 rfl rfl rfl<|jcl c_slices_Max_int rfl ⟨ck 1,⟨⟩⟩<|fun r2 _ k=>k<|jpc 1 rfl<|jmk .s (e := eInt .u64) 106 (0 : Int) (.int .u64 0) vI rfl rfl<|fun x1 r_1 p3 c3=>jpc 1 rfl<|jot<|jsq<|jsr<|jfa 1 rfl<|jlo 0 rfl rfl rfl<|
  jpc 2 rfl<|jot<|jbk<|
  jlp (fun s1 K=>∀ r_2,K [(3, .slice p3 (List.length x1) c3), (15, sv p2 y0.2 c2), (16, vi (len y0.2)), (17, vi s1.2)] [[], r_2] [Ar (eInt .u64) 106 r_2 p3 c3 (List.length x1) s1.1, Rl (eInt .i64) p2 c2 y0.2]) (gv (fun _ k=>k r_1) [900,1] ⟨gk 0,gk 2,⟨⟩⟩)<|
  fun s1 _ k r_2=>k<|jsr<|jpc 1 rfl<|jot<|jsq<|jif rfl (jsk<|jtn<|jsq<|jbk<|jsr<|jpc 1 rfl<|jix 1 rfl rfl rfl<|fun x2 b2 o1=>jld false oI (gk 0) rfl<|jpc 2 rfl<|jot<|jrg<|jpc 2 rfl<|jia 1 rfl rfl rfl<|fun x3 h1 b3 hp1=>
  jlA 1 1 sI false oI rfl hp1 h1 rfl<|jpc 1 rfl<|jpe (.int .u64 (IntKind.u64.wrap (s1.2)))<|jbd fun x4 h2=>jv (fun h=>r_shlK h rfl rfl h2)<|jpc 1 rfl<|jia 1 rfl rfl rfl<|fun x5 h3 b4 hp2=>
  jsA .s 1 1 sI (bor .u64 x3 x4) false rfl hp2 h3 rfl rfl vI<|fun r_3=>joe<|jbn<|jtn<|jrg<|jpc 2 rfl<|joe<|jln (gv (fun _ k=>k r_3) [900,1] ⟨gk 0,gk 3,⟨⟩⟩))<|jxe<|jte<|jle<|jbh<|jtn<|jsr<|jpc 2 rfl<|jot<|jxr<|jsh 1 0 rfl rfl<|
  jre 0 2 rfl rfl<|jr1 rfl rfl (fun _ k=>k p3 c3) [] ⟨gk 0,⟨⟩⟩

theorem c_internal_strconv_small {qd : Prop} {y0 : Int} : Con qd Tryz.prog 143 [vi y0] [] [] (m_internal_strconv_small y0) fun r K=>K (vs r) [] [] :=
 ent3 Tryz.call143 Tryz.func143 rfl fun X=>jsr<|jpc 1 rfl<|jot<|jsq<|jsr<|jpc 2 rfl<|jot<|jif rfl (jsr<|jpc 3 rfl<|jbd fun x1 h1=>jv (fun h=>r_ssub h rfl Tryz.underlying9 rfl rfl (.inr ⟨_, rfl⟩) (.inr ⟨_, rfl⟩) h1)<|jpc 1 rfl<|jot<|jxr<|jtr<|jr1 rfl rfl (fun _ k=>k) [] ⟨⟩)<|jsk<|
  jtn<|jsr<|jpc 5 rfl<|jbd fun x2 h2=>jv (fun h=>r_ssub h rfl Tryz.underlying9 rfl rfl (.inr ⟨_, rfl⟩) (.inr ⟨_, rfl⟩) h2)<|jpc 1 rfl<|jot<|jxr<|jr1 rfl rfl (fun _ k=>k) [] ⟨⟩

theorem c_internal_strconv_FormatInt {qd : Prop} {y0 : Int} {y1 : Int} : Con qd Tryz.prog 132 [vi y0, vi y1] [] [] (m_internal_strconv_FormatInt y0 y1) fun r K=>K (vs r) [] [] :=
 ent3 Tryz.call132 Tryz.func132 rfl fun X=>jsr<|jpc 1 rfl<|jot<|jsq<|jsr<|jpc 2 rfl<|jot<|jif rfl (jsq<|jjp (fun K=>K [(0, vi y0), (17, vb ((decide (0 ≤ y0)) && (decide (y0 < 100))))] [] []) (jrg<|jpc 3 rfl<|jsp (b := decide (0 ≤ y0)) 14 rfl (fun hb1=>jpc 2 rfl<|
  jpe (vb (decide (y0 < 100)))<|joe<|jup 17 (vb ((decide (0 ≤ y0)) && (decide (y0 < 100)))) rfl (by rw [hb1]; rfl)<|jnn (gv (fun _ k=>k) [] ⟨⟩))<|fun hb1=>jpc 2 rfl<|jpe (vb false)<|joe<|
  jup 17 (vb ((decide (0 ≤ y0)) && (decide (y0 < 100)))) rfl (by rw [hb1]; rfl)<|jnn (gv (fun _ k=>k) [] ⟨⟩))<|fun _ k=>k<|jif rfl (jsr<|jpc 1 rfl<|jcl c_internal_strconv_small rfl ⟨⟩<|fun r1 _ k=>k<|jpc 1 rfl<|jot<|jxr<|jtr<|jtr<|
  jr1 rfl rfl (fun _ k=>k) [] ⟨⟩)<|jsk<|jtn<|jsr<|jno)<|jsk<|jtn<|jsr<|jpc 1 rfl<|jpe (.int .u64 (IntKind.u64.wrap (y0)))<|jpc 3 rfl<|jno

theorem c_internal_strconv_Itoa {qd : Prop} {y0 : Int} : Con qd Tryz.prog 113 [vi y0] [] [] (m_internal_strconv_Itoa y0) fun r K=>K (vs r) [] [] :=
 ent3 Tryz.call113 Tryz.func113 rfl fun X=>jsr<|jpc 1 rfl<|jot<|jsr<|jpc 1 rfl<|jcl c_internal_strconv_FormatInt rfl ⟨⟩<|fun r1 _ k=>k<|jpc 1 rfl<|jot<|jxr<|jr1 rfl rfl (fun _ k=>k) [] ⟨⟩

theorem c_strconv_Itoa {qd : Prop} {y0 : Int} : Con qd Tryz.prog 86 [vi y0] [] [] (m_strconv_Itoa y0) fun r K=>K (vs r) [] [] :=
 ent3 Tryz.call86 Tryz.func86 rfl fun X=>jsr<|jpc 1 rfl<|jot<|jsr<|jpc 1 rfl<|jcl c_internal_strconv_Itoa rfl ⟨⟩<|fun r1 _ k=>k<|jpc 1 rfl<|jot<|jxr<|jr1 rfl rfl (fun _ k=>k) [] ⟨⟩

theorem c_report_number {qd : Prop} {y0 : Int} : Con qd Tryz.prog 52 [vi y0] [] [] (m_report_number y0) fun r K=>K (vs r) [] [] :=
 ent3 Tryz.call52 Tryz.func52 rfl fun X=>jsr<|jpc 1 rfl<|jot<|jsr<|jpc 1 rfl<|jcl c_strconv_Itoa rfl ⟨⟩<|fun r1 _ k=>k<|jpc 1 rfl<|jot<|jxr<|jr1 rfl rfl (fun _ k=>k) [] ⟨⟩

theorem c_world_whole {qd : Prop} {y0 : Int} : Con qd Tryz.prog 101 [vi y0] [] [] (m_world_whole y0) fun r K=>K (.int .u64 r) [] [] :=
 ent3 Tryz.call101 Tryz.func101 rfl fun X=>jsr<|jpc 1 rfl<|jot<|jsr<|jpc 1 rfl<|jbd fun x1 h1=>jv (fun h=>r_shlK h rfl rfl h1)<|jpc 1 rfl<|jbd fun x2 h2=>jv (fun h=>r_shrK h rfl rfl h2)<|jpc 1 rfl<|jot<|jxr<|jr1 rfl rfl (fun _ k=>k) [] ⟨⟩

theorem c_world_All {qd : Prop} {y0 : List Str} : Con qd Tryz.prog 81 [sv p1 y0 c1] [] [Rl eStr p1 c1 y0] (m_world_All y0) fun r K=>K (.int .u64 r) [] [] :=
 ent3 Tryz.call81 Tryz.func81 rfl fun X=>jsr<|jpc 1 rfl<|jot<|jsq<|jsr<|jpc 1 rfl<|jcl c_world_Valid rfl ⟨ck 0,⟨⟩⟩<|fun r1 _ k=>k<|jpc 1 rfl<|jot<|jif rfl (jsr<|jpc 1 rfl<|jot<|jxr<|jtr<|jr1 rfl rfl (fun _ k=>k) [] ⟨⟩)<|jsk<|jtn<|jsr<|jpc 2 rfl<|jcl c_world_whole rfl ⟨⟩<|
  fun r2 _ k=>k<|jpc 1 rfl<|jot<|jxr<|jr1 rfl rfl (fun _ k=>k) [] ⟨⟩

theorem c_world_split {qd : Prop} {y0 : Int} : Con qd Tryz.prog 102 [.int .u64 y0] [] [] (m_world_split y0) fun r K=>K (.tuple #[.int .u64 r.1, .int .u64 r.2]) [] [] :=
 ent3 Tryz.call102 Tryz.func102 rfl fun X=>jsr<|jpc 2 rfl<|jot<|jsq<|jsr<|jpc 1 rfl<|jot<|jbk<|jlp (fun s1 K=>K [(0, .int .u64 y0), (2, .int .u64 s1.1), (3, .int .u64 s1.2.1), (5, vi s1.2.2)] [] []) (gv (fun _ k=>k) [] ⟨⟩)<|fun s1 _ k=>k<|jsr<|jpc 1 rfl<|jot<|jsq<|jif rfl (jsk<|
  jtn<|jsq<|jbk<|jsr<|jpc 2 rfl<|jot<|jsr<|jpc 4 rfl<|jbd fun x1 h1=>jv (fun h=>r_shrK h rfl rfl h1)<|jpc 2 rfl<|jbd fun x2 h2=>jv (fun h=>r_shlK h rfl rfl h2)<|jpc 2 rfl<|jot<|jrg<|jpc 5 rfl<|jbd fun x3 h3=>jv (fun h=>r_shrK h rfl rfl h3)<|
  jpc 2 rfl<|jbd fun x4 h4=>jv (fun h=>r_shlK h rfl rfl h4)<|jpc 2 rfl<|joe<|jbn<|jtn<|jrg<|jpc 2 rfl<|joe<|jln (gv (fun _ k=>k) [] ⟨⟩))<|jxe<|jte<|jle<|jbh<|jtn<|jsr<|jpc 4 rfl<|jot<|jxr<|jrg' rfl (lT rfl (lT rfl lN)) (fun _ k=>k) [] ⟨⟩

theorem c_world_two {qd : Prop} {y0 : Int} {y1 : T_Formula} {y2 : T_Formula} : Con qd Tryz.prog 103 [vi y0, .agg #[vi ((fv y1).1), vs ((fv y1).2.1), sv p1 ((fv y1).2.2) c1], .agg #[vi ((fv y2).1), vs ((fv y2).2.1), sv p2 ((fv y2).2.2) c2]] [] [Rl e_Formula p1 c1 ((fv y1).2.2), Rl e_Formula p2 c2 ((fv y2).2.2)] (m_world_two y0 y1 y2) fun r K=>∀ p3 c3,K (.agg #[vi ((fv r).1), vs ((fv r).2.1), sv p3 ((fv r).2.2) c3]) [] [Rl e_Formula p3 c3 ((fv r).2.2)] :=
 ent3 Tryz.call103 Tryz.func103 rfl fun X=>jsr<|jbx .s rfl<|fun b1=>jbx .s rfl<|fun b2=>jal .s (.agg #[vi 0, vs [], .slice none 0 0])<|fun b3=>jot<|jsr<|jpc 1 rfl<|jla 0 3 rfl rfl rfl<|jla 1 3 rfl rfl rfl<|
  jbs .s (e := e_Formula) 109 [vi ((fv y1).1), vs ((fv y1).2.1), sv p1 ((fv y1).2.2) c1, vi ((fv y2).1), vs ((fv y2).2.1), sv p2 ((fv y2).2.2) c2] ([y1, y2] : List T_Formula) (rC (vF (vP vI (vP vS (vL (gk 0))))) (rC (vF (vP vI (vP vS (vL (gk 1))))) rN))<|
  fun p3 c3=>jpe (.agg #[vi y0, vs [], sv p3 ([y1, y2] : List T_Formula) c3])<|jso .s 2 rfl rfl rfl<|jot<|jxr<|jrg' rfl (lC 2 (.agg #[vi y0, vs [], sv p3 ([y1, y2] : List T_Formula) c3]) rfl rfl lN) (fun _ k=>k p3 c3) [] ⟨gk 0,⟨⟩⟩

theorem k_world_theory_all {qd : Prop} (k : Nat) :
    (∀ {y0 : List Str} {p1 : Option Addr} {c1 : Nat} {y1 : Int}, Con qd Tryz.prog 80 [sv p1 y0 c1, .int .u64 y1] [] [Rl eStr p1 c1 y0] (k_world_theory k y0 y1) fun r K=>∀ p2 c2,K (.agg #[vi ((fv r).1), vs ((fv r).2.1), sv p2 ((fv r).2.2) c2]) [] [Rl e_Formula p2 c2 ((fv r).2.2)]) := by
  induction k with
  | zero => exact con0 Tryz.call80
  | succ k ih =>
    have ih_world_theory := @ih
    exact @fun y0 p1 c1 y1=>ent3 (m1 := F_world_theory (k_world_theory k) y0 y1) Tryz.call80 Tryz.func80 rfl fun X=>jsr<|jal .s (.agg #[vi 0, vs [], .slice none 0 0])<|fun b1=>jot<|jsr<|jpc 2 rfl<|jcl c_world_whole rfl ⟨⟩<|fun r1 _ k=>k<|jpc 1 rfl<|jot<|jsq<|jsr<|jpc 1 rfl<|jot<|jbk<|jsr<|jpc 2 rfl<|jot<|jif rfl (jsr<|
  jpe (.agg #[vi 2, vs [], .slice none 0 0])<|jso .s 0 rfl rfl rfl<|jot<|jxr<|jbr<|jtr<|jrg' rfl (lC 0 (.agg #[vi 2, vs [], .slice none 0 0]) rfl rfl lN) (fun _ k=>k none 0) [] ⟨gn,⟨⟩⟩)<|jsr<|jpc 3 rfl<|jot<|jif rfl (jsr<|
  jpe (.agg #[vi 1, vs [], .slice none 0 0])<|jso .s 0 rfl rfl rfl<|jot<|jxr<|jbr<|jtr<|jrg' rfl (lC 0 (.agg #[vi 1, vs [], .slice none 0 0]) rfl rfl lN) (fun _ k=>k none 0) [] ⟨gn,⟨⟩⟩)<|jsk<|jbn<|jtn<|jsr<|jpc 1 rfl<|
  jsl (gk 0) rfl rfl rfl (.inr ⟨_, rfl⟩) (.inl ⟨rfl, rfl⟩)<|fun x1 p2 c2=>jpc 1 rfl<|jot<|jsr<|jpc 1 rfl<|jcl c_world_split rfl ⟨⟩<|fun r2 _ k=>k<|jpc 5 rfl<|jot<|jsq<|jsr<|jpc 3 rfl<|jot<|jif rfl (jsr<|jpc 2 rfl<|
  jcl ih_world_theory rfl ⟨ck 0,⟨⟩⟩<|fun r3 _ k p3 c3=>k<|jso .s 0 rfl rfl rfl<|jot<|jxr<|jtr<|jrg' rfl (lC 0 (.agg #[vi ((fv r3).1), vs ((fv r3).2.1), sv p3 ((fv r3).2.2) c3]) rfl rfl lN) (fun _ k=>k p3 c3) [] ⟨gk 0,⟨⟩⟩)<|jsk<|jtn<|jsr<|
  jpc 1 rfl<|jix 1 rfl rfl rfl<|fun x2 b2 o1=>jld false oS (gk 0) rfl<|jpe (.agg #[vi 3, vs x2, .slice none 0 0])<|jal .s (.agg #[vi 0, vs [], .slice none 0 0])<|fun b3=>jso .s 1 rfl rfl rfl<|jot<|jsr<|jpc 1 rfl<|jix 2 rfl rfl rfl<|
  fun x3 b4 o2=>jld false oS (gk 0) rfl<|jpe (.agg #[vi 3, vs x3, .slice none 0 0])<|jbs .s (e := e_Formula) 109 [vi 3, vs x3, .slice none 0 0] ([fm (3, x3, ([] : List T_Formula))] : List T_Formula) (rC (vF (vP vI (vP vS (vL gn)))) rN)<|
  fun p4 c4=>jpe (.agg #[vi 4, vs [], sv p4 ([fm (3, x3, ([] : List T_Formula))] : List T_Formula) c4])<|jal .s (.agg #[vi 0, vs [], .slice none 0 0])<|fun b5=>jso .s 2 rfl rfl rfl<|jot<|jsr<|jpc 2 rfl<|jcl c_world_whole rfl ⟨⟩<|fun r4 _ k=>
  k<|jpc 1 rfl<|jot<|jsq<|jbk<|
  jjp (fun K=>K [(4, pt b1 0), (6, sv p2 x1 c2), (7, .int .u64 r2.1), (8, .int .u64 r2.2), (9, pt b3 0), (10, pt b5 0), (11, .int .u64 r4), (49, vb ((r2.1 == r4) && (r2.2 == 0)))] [bx b1 109 [vi 0, vs [], .slice none 0 0], bx b3 109 [vi 3, vs x2, .slice none 0 0], bx b5 109 [vi 4, vs [], sv p4 ([fm (3, x3, ([] : List T_Formula))] : List T_Formula) c4]] [Rl eStr p2 c2 x1, Rl e_Formula p4 c4 ([fm (3, x3, ([] : List T_Formula))] : List T_Formula)]) (
  jrg<|jpc 4 rfl<|jsp (b := r2.1 == r4) 53 rfl (fun hb1=>jpc 2 rfl<|jpe (vb (r2.2 == 0))<|jpc 1 rfl<|joe<|jup 49 (vb ((r2.1 == r4) && (r2.2 == 0))) rfl (by rw [hb1]; rfl)<|jnn (gv (fun _ k=>k) [0,1,2] ⟨gk 3,gk 0,⟨⟩⟩))<|fun hb1=>jpc 2 rfl<|
  jpe (vb false)<|jpc 1 rfl<|joe<|jup 49 (vb ((r2.1 == r4) && (r2.2 == 0))) rfl (by rw [hb1]; rfl)<|jnn (gv (fun _ k=>k) [0,1,2] ⟨gk 3,gk 0,⟨⟩⟩))<|fun _ k=>k<|jif rfl (jsr<|jla 1 3 rfl rfl rfl<|jso .s 0 rfl rfl rfl<|jot<|jxr<|jbr<|jtr<|
  jrg' rfl (lC 0 (.agg #[vi 3, vs x2, .slice none 0 0]) rfl rfl lN) (fun _ k=>k none 0) [] ⟨gn,⟨⟩⟩)<|jsr<|jpc 4 rfl<|jot<|jif rfl (jds [] [1] 6<|jda 0 1 3 rfl rfl rfl rfl<|jdc 3 [1,2] rfl<|jd1 3<|
  jca (.f rfl) [] [] ih_world_theory rfl rfl rfl ⟨ck 0,⟨⟩⟩<|fun r5 _ k p5 c5=>k<|jdn<|jd1 4<|jca (.f rfl) [] [] c_world_two rfl rfl rfl ⟨cn,ck 0,⟨⟩⟩<|fun r6 _ k p6 c6=>k<|jdn<|jd1 5<|jso (o := 0) (.f rfl) 0 rfl rfl rfl<|jdn<|jde<|jtn<|jxr<|
  jbr<|jtr<|jrg' rfl (lC 0 (.agg #[vi ((fv r6).1), vs ((fv r6).2.1), sv p6 ((fv r6).2.2) c6]) rfl rfl lN) (fun _ k=>k p6 c6) [] ⟨gk 0,⟨⟩⟩)<|
  jjp (fun K=>K [(4, pt b1 0), (6, sv p2 x1 c2), (7, .int .u64 r2.1), (8, .int .u64 r2.2), (9, pt b3 0), (10, pt b5 0), (11, .int .u64 r4), (67, vb ((r2.1 == 0) && (r2.2 == r4)))] [bx b1 109 [vi 0, vs [], .slice none 0 0], bx b3 109 [vi 3, vs x2, .slice none 0 0], bx b5 109 [vi 4, vs [], sv p4 ([fm (3, x3, ([] : List T_Formula))] : List T_Formula) c4]] [Rl eStr p2 c2 x1, Rl e_Formula p4 c4 ([fm (3, x3, ([] : List T_Formula))] : List T_Formula)]) (
  jrg<|jpc 3 rfl<|jsp (b := r2.1 == 0) 70 rfl (fun hb2=>jpc 3 rfl<|jpe (vb (r2.2 == r4))<|jpc 1 rfl<|joe<|jup 67 (vb ((r2.1 == 0) && (r2.2 == r4))) rfl (by rw [hb2]; rfl)<|jnn (gv (fun _ k=>k) [0,1,2] ⟨gk 0,gk 1,⟨⟩⟩))<|fun hb2=>jpc 3 rfl<|
  jpe (vb false)<|jpc 1 rfl<|joe<|jup 67 (vb ((r2.1 == 0) && (r2.2 == r4))) rfl (by rw [hb2]; rfl)<|jnn (gv (fun _ k=>k) [0,1,2] ⟨gk 0,gk 1,⟨⟩⟩))<|fun _ k=>k<|jif rfl (jsr<|jla 2 3 rfl rfl rfl<|jso .s 0 rfl rfl rfl<|jot<|jxr<|jbr<|jtr<|
  jrg' rfl (lC 0 (.agg #[vi 4, vs [], sv p4 ([fm (3, x3, ([] : List T_Formula))] : List T_Formula) c4]) rfl rfl lN) (fun _ k=>k p4 c4) [] ⟨gk 1,⟨⟩⟩)<|jsr<|jpc 3 rfl<|jot<|jif rfl (jds [] [2] 6<|jda 0 2 3 rfl rfl rfl rfl<|jdc 3 [1,2] rfl<|
  jd1 3<|jca (.f rfl) [] [] ih_world_theory rfl rfl rfl ⟨ck 0,⟨⟩⟩<|fun r7 _ k p7 c7=>k<|jdn<|jd1 4<|jca (.f rfl) [] [] c_world_two rfl rfl rfl ⟨ck 2,ck 0,⟨⟩⟩<|fun r8 _ k p8 c8=>k<|jdn<|jd1 5<|jso (o := 0) (.f rfl) 0 rfl rfl rfl<|jdn<|jde<|
  jtn<|jxr<|jbr<|jtr<|jrg' rfl (lC 0 (.agg #[vi ((fv r8).1), vs ((fv r8).2.1), sv p8 ((fv r8).2.2) c8]) rfl rfl lN) (fun _ k=>k p8 c8) [] ⟨gk 0,⟨⟩⟩)<|jsr<|jpc 4 rfl<|jot<|jif rfl (jds [] [2] 6<|jda 0 2 3 rfl rfl rfl rfl<|jdc 3 [1,2] rfl<|
  jd1 3<|jca (.f rfl) [] [] ih_world_theory rfl rfl rfl ⟨ck 0,⟨⟩⟩<|fun r9 _ k p9 c9=>k<|jdn<|jd1 4<|jca (.f rfl) [] [] c_world_two rfl rfl rfl ⟨ck 2,ck 0,⟨⟩⟩<|fun r10 _ k p10 c10=>k<|jdn<|jd1 5<|jso (o := 0) (.f rfl) 0 rfl rfl rfl<|jdn<|jde<|
  jtn<|jxr<|jbr<|jtr<|jrg' rfl (lC 0 (.agg #[vi ((fv r10).1), vs ((fv r10).2.1), sv p10 ((fv r10).2.2) c10]) rfl rfl lN) (fun _ k=>k p10 c10) [] ⟨gk 0,⟨⟩⟩)<|jsr<|jpc 3 rfl<|jot<|jif rfl (jds [] [1] 6<|jda 0 1 3 rfl rfl rfl rfl<|
  jdc 3 [1,2] rfl<|jd1 3<|jca (.f rfl) [] [] ih_world_theory rfl rfl rfl ⟨ck 0,⟨⟩⟩<|fun r11 _ k p11 c11=>k<|jdn<|jd1 4<|jca (.f rfl) [] [] c_world_two rfl rfl rfl ⟨cn,ck 0,⟨⟩⟩<|fun r12 _ k p12 c12=>k<|jdn<|jd1 5<|
  jso (o := 0) (.f rfl) 0 rfl rfl rfl<|jdn<|jde<|jtn<|jxr<|jbr<|jtr<|jrg' rfl (lC 0 (.agg #[vi ((fv r12).1), vs ((fv r12).2.1), sv p12 ((fv r12).2.2) c12]) rfl rfl lN) (fun _ k=>k p12 c12) [] ⟨gk 0,⟨⟩⟩)<|jsk<|jbn<|jtn<|jds [] [1, 2] 12<|
  jda 0 1 3 rfl rfl rfl rfl<|jdc 9 [1,2] rfl<|jda 5 2 3 rfl rfl rfl rfl<|jdc 6 [6,7] rfl<|jd1 3<|jca (.f rfl) [] [] ih_world_theory rfl rfl rfl ⟨ck 0,⟨⟩⟩<|fun r13 _ k p13 c13=>k<|jdn<|jd1 4<|
  jca (.f rfl) [] [] c_world_two rfl rfl rfl ⟨cn,ck 0,⟨⟩⟩<|fun r14 _ k p14 c14=>k<|jdn<|jd1 8<|jca (.f rfl) [] [] ih_world_theory rfl rfl rfl ⟨ck 2,⟨⟩⟩<|fun r15 _ k p15 c15=>k<|jdn<|jd1 9<|
  jca (.f rfl) [] [] c_world_two rfl rfl rfl ⟨ck 4,ck 0,⟨⟩⟩<|fun r16 _ k p16 c16=>k<|jdn<|jd1 10<|jca (.f rfl) [] [] c_world_two rfl rfl rfl ⟨ck 2,ck 0,⟨⟩⟩<|fun r17 _ k p17 c17=>k<|jdn<|jd1 11<|jso (o := 0) (.f rfl) 0 rfl rfl rfl<|jdn<|jde<|
  jtn<|jxr<|jrg' rfl (lC 0 (.agg #[vi ((fv r17).1), vs ((fv r17).2.1), sv p17 ((fv r17).2.2) c17]) rfl rfl lN) (fun _ k=>k p17 c17) [] ⟨gk 0,⟨⟩⟩

theorem c_world_theory {qd : Prop} {y0 : List Str} {y1 : Int} : Con qd Tryz.prog 80 [sv p1 y0 c1, .int .u64 y1] [] [Rl eStr p1 c1 y0] (m_world_theory y0 y1) fun r K=>∀ p2 c2,K (.agg #[vi ((fv r).1), vs ((fv r).2.1), sv p2 ((fv r).2.2) c2]) [] [Rl e_Formula p2 c2 ((fv r).2.2)] := conLim fun k => (k_world_theory_all k)

theorem c_world_Theory {qd : Prop} {y0 : List Str} {y1 : Int} : Con qd Tryz.prog 50 [sv p1 y0 c1, .int .u64 y1] [] [Rl eStr p1 c1 y0] (m_world_Theory y0 y1) fun r K=>∀ p2 c2,K (.tuple #[.agg #[vi ((fv r.1).1), vs ((fv r.1).2.1), sv p2 ((fv r.1).2.2) c2], vi r.2]) [] [Rl e_Formula p2 c2 ((fv r.1).2.2)] :=
 ent3 Tryz.call50 Tryz.func50 rfl fun X=>jsr<|jal .s (.agg #[vi 0, vs [], .slice none 0 0])<|fun b1=>jpc 1 rfl<|jot<|jsq<|jsr<|jpc 1 rfl<|jcl c_world_Valid rfl ⟨ck 0,⟨⟩⟩<|fun r1 _ k=>k<|jpc 1 rfl<|jot<|jif rfl (jsr<|jpe (.agg #[vi 0, vs [], .slice none 0 0])<|
  jso .s 0 rfl rfl rfl<|jpc 1 rfl<|jot<|jxr<|jtr<|jrg' rfl (lC 0 (.agg #[vi 0, vs [], .slice none 0 0]) rfl rfl (lT rfl lN)) (fun _ k=>k none 0) [] ⟨gn,⟨⟩⟩)<|jsk<|jtn<|jsr<|jpc 3 rfl<|jcl c_world_All rfl ⟨ck 0,⟨⟩⟩<|fun r2 _ k=>k<|jpc 1 rfl<|
  jcl c_world_theory rfl ⟨ck 0,⟨⟩⟩<|fun r3 _ k p2 c2=>k<|jso .s 0 rfl rfl rfl<|jpc 1 rfl<|jot<|jxr<|jrg' rfl (lC 0 (.agg #[vi ((fv r3).1), vs ((fv r3).2.1), sv p2 ((fv r3).2.2) c2]) rfl rfl (lT rfl lN)) (fun _ k=>k p2 c2) [] ⟨gk 0,⟨⟩⟩

theorem c_report_Order {y0 : T_Order} : Con False Tryz.prog 29 [.agg #[sv p1 y0.1 c1, sv p2 y0.2 c2]] [] [Rl eStr p1 c1 y0.1, Rl (eInt .i64) p2 c2 y0.2, Pt (eArr 9 eStr) 0 0 tab_formula_words] (m_report_Order y0) fun r K=>∀ p3 c3,K (sv p3 r c3) [] [Rl eStr p3 c3 r] :=
 ent3 Tryz.call29 Tryz.func29 rfl fun X=>jsr<|jbx .s rfl<|fun b1=>jpc 1 rfl<|jot<|jsr<|jpc 1 rfl<|jro eStr 9<|jot<|jsq<|jsr<|jla 0 2 rfl rfl rfl<|jcl c_order_Levels rfl ⟨ck 1,ck 2,⟨⟩⟩<|fun r1 _ k p3 c3=>k<|jpc 2 rfl<|jot<|jbk<|
  jlp (fun s1 K=>∀ p4 c4 r_1,K [(1, pt b1 0), (3, sv p4 s1.1 c4), (11, sv p3 r1 c3), (12, vi (len r1)), (13, vi s1.2)] [bx b1 84 [sv p1 y0.1 c1, sv p2 y0.2 c2], r_1] [Al eStr 9 r_1 p4 c4 s1.1, Rl (eInt .u64) p3 c3 r1, Rl eStr p1 c1 y0.1, Rl (eInt .i64) p2 c2 y0.2, Pt (eArr 9 eStr) 0 0 tab_formula_words]) (gv (fun _ k=>k none 0 []) [0,1] ⟨gk 1,gk 0,gk 2,gk 3,gk 4,⟨⟩⟩)<|
  fun s1 _ k p4 c4 r_1=>k<|jsr<|jpc 1 rfl<|jot<|jsq<|jif rfl (jsk<|jtn<|jsq<|jbk<|jsr<|jpc 1 rfl<|jix 1 rfl rfl rfl<|fun x1 b2 o1=>jld false oI (gk 0) rfl<|jpc 2 rfl<|jot<|jsr<|jfa 0 rfl<|jlo 0 rfl rfl rfl<|jpc 1 rfl<|
  jcl c_world_Theory rfl ⟨ck 3,⟨⟩⟩<|fun r2 _ k p5 c5=>k<|jpc 3 rfl<|jal .s (.agg #[vi 0, vs [], .slice none 0 0])<|fun b3=>jso .s 2 rfl rfl rfl<|jpc 1 rfl<|jot<|jsr<|jla 2 3 rfl rfl rfl<|jcl c_formula_Format rfl ⟨ck 0,ck 6,⟨⟩⟩<|fun r3 _ k=>
  k<|jpc 5 rfl<|jot<|jrg<|jpc 2 rfl<|jcl c_report_number rfl ⟨⟩<|fun r4 _ k=>k<|jbd fun x2 h1=>jv (fun h=>r_cat h rfl rfl h1)<|jpc 1 rfl<|jbd fun x3 h2=>jv (fun h=>r_cat h rfl rfl h2)<|
  jbs .s (e := eStr) 9 [vs x3] ([x3] : List Str) (rC vS rN)<|fun p6 c6=>jar .s 1 3 rfl (gk 0) rfl rfl<|fun x4 r_2 p7 c7=>jpc 1 rfl<|joe<|jbn<|jtn<|jrg<|jpc 2 rfl<|joe<|jln (gv (fun _ k=>k p7 c7 r_2) [0,1] ⟨gk 0,gk 5,gk 6,gk 7,gk 8,⟨⟩⟩))<|
  jxe<|jte<|jle<|jbh<|jtn<|jsr<|jpc 2 rfl<|jot<|jxr<|jsh 1 0 rfl rfl<|jr1 rfl rfl (fun _ k=>k p4 c4) [] ⟨gk 0,⟨⟩⟩

theorem c_law42_awake : Con False Tryz.prog 8 [] [] [Pt (eArr 9 eStr) 0 0 tab_formula_words] (m_law42_awake) fun r K=>K (vb r) [] [] :=
 ent3 Tryz.call8 Tryz.func8 rfl fun X=>jsr<|jpc 1 rfl<|jot<|jsr<|jcl c_keep_Voc rfl ⟨⟩<|fun r1 _ k p1 c1=>k<|jbs .s (e := eInt .i64) 3 [vi 2, vi 1, vi 2, vi 0] ([2, 1, 2, 0] : List Int) (rC vI (rC vI (rC vI (rC vI rN))))<|fun p2 c2=>
  jpe (.agg #[sv p1 r1 c1, sv p2 ([2, 1, 2, 0] : List Int) c2])<|jcl c_report_Order rfl ⟨ck 1,ck 0,ck 2,⟨⟩⟩<|fun r2 _ k p3 c3=>k<|jpc 1 rfl<|jot<|jds [] [] 8<|jd1 0<|jca (.f rfl) [] [] c_keep_Voc rfl rfl rfl ⟨⟩<|fun r3 _ k p4 c4=>k<|jdn<|
  jdi 1 0 rfl rfl rfl rfl<|fun x1 b1 o1=>jdl 2 false oS rfl (gk 0) rfl<|jd1 3<|jca (.f rfl) [] [] c_keep_Voc rfl rfl rfl ⟨⟩<|fun r4 _ k p5 c5=>k<|jdn<|jdi 4 0 rfl rfl rfl rfl<|fun x2 b2 o2=>jdl 5 false oS rfl (gk 0) rfl<|jdc 0 [6,7] rfl<|
  jde<|jtn<|jsr<|jpc 2 rfl<|jbd fun x3 h1=>jv (fun h=>r_cat h rfl rfl h1)<|jbd fun x4 h2=>jv (fun h=>r_cat h rfl rfl h2)<|jpc 1 rfl<|jbd fun x5 h3=>jv (fun h=>r_cat h rfl rfl h3)<|jpc 1 rfl<|jbd fun x6 h4=>jv (fun h=>r_cat h rfl rfl h4)<|
  jbd fun x7 h5=>jv (fun h=>r_cat h rfl rfl h5)<|jpc 1 rfl<|jbd fun x8 h6=>jv (fun h=>r_cat h rfl rfl h6)<|jpc 1 rfl<|jbd fun x9 h7=>jv (fun h=>r_cat h rfl rfl h7)<|
  jbs .s (e := eStr) 9 [vs x5, vs x8, vs x9] ([x5, x8, x9] : List Str) (rC vS (rC vS (rC vS rN)))<|fun p6 c6=>jcl c_ref42_Same rfl ⟨ck 5,ck 0,⟨⟩⟩<|fun r5 _ k=>k<|jpc 1 rfl<|jot<|jxr<|jr1 rfl rfl (fun _ k=>k) [] ⟨⟩

theorem c_net_Has {qd : Prop} {y0 : T_Graph} {y1 : Int} {y2 : Int} : Con qd Tryz.prog 34 [.agg #[vi y0.1, sv p1 y0.2 c1], vi y1, vi y2] [] [Rl e_Pair p1 c1 y0.2] (m_net_Has y0 y1 y2) fun r K=>K (vb r) [] [] :=
 ent3 Tryz.call34 Tryz.func34 rfl fun X=>jsr<|jbx .s rfl<|fun b1=>jpc 1 rfl<|jot<|jsq<|jsr<|jpc 1 rfl<|jot<|jbk<|jlp (fun s1 K=>K [(1, vi y1), (2, vi y2), (3, pt b1 0), (7, vi s1)] [bx b1 37 [vi y0.1, sv p1 y0.2 c1]] [Rl e_Pair p1 c1 y0.2]) (gv (fun _ k=>k) [0] ⟨gk 0,⟨⟩⟩)<|
  fun s1 _ k=>k<|jsq<|jsr<|jpc 1 rfl<|jfa 1 rfl<|jlo 0 rfl rfl rfl<|jpc 2 rfl<|jot<|jif rfl (jsk<|jtn<|jsq<|jbk<|
  jjn (fun s2 K=>K [(1, vi y1), (2, vi y2), (3, pt b1 0), (7, vi s1), (32, vb s2)] [bx b1 37 [vi y0.1, sv p1 y0.2 c1]] [Rl e_Pair p1 c1 y0.2]) (jrg<|jfa 1 rfl<|jlo 0 rfl rfl rfl<|jpc 1 rfl<|jix 0 rfl rfl rfl<|fun x1 b2 o1=>jfa 0 rfl<|
  jld false oI (gf (gk 0)) rfl<|jpc 3 rfl<|jsg 23 rfl (jfa 1 rfl<|jlo 0 rfl rfl rfl<|jpc 1 rfl<|jix 1 rfl rfl rfl<|fun x2 b3 o2=>jfa 1 rfl<|jld false oI (gs (gk 0)) rfl<|jpc 2 rfl<|jpe (vb (x2.2 == y2))<|joe<|
  jnn (gv (fun _ k=>k) [0] ⟨gk 2,⟨⟩⟩))<|jpc 8 rfl<|jpe (vb false)<|joe<|jnn (gv (fun _ k=>k) [0] ⟨gk 1,⟨⟩⟩))<|fun s2 _ k=>k<|jif rfl (jsr<|jpc 1 rfl<|jot<|jxr<|jbr<|jtr<|jlr<|jbr<|jtr<|jr1 rfl rfl (fun _ k=>k) [] ⟨⟩)<|jsk<|jbn<|jtn<|jrg<|
  jpc 3 rfl<|joe<|jln (gv (fun _ k=>k) [0] ⟨gk 0,⟨⟩⟩))<|jxe<|jte<|jle<|jbh<|jtn<|jsr<|jpc 1 rfl<|jot<|jxr<|jr1 rfl rfl (fun _ k=>k) [] ⟨⟩

theorem c_net_Attacked {qd : Prop} {y0 : T_Graph} {y1 : List Int} {y2 : Int} : Con qd Tryz.prog 35 [.agg #[vi y0.1, sv p1 y0.2 c1], sv p2 y1 c2, vi y2] [] [Rl e_Pair p1 c1 y0.2, Rl (eInt .i64) p2 c2 y1] (m_net_Attacked y0 y1 y2) fun r K=>K (vb r) [] [] :=
 ent3 Tryz.call35 Tryz.func35 rfl fun X=>jsr<|jbx .s rfl<|fun b1=>jpc 1 rfl<|jot<|jsq<|jsr<|jpc 1 rfl<|jot<|jbk<|
  jlp (fun s1 K=>K [(1, sv p2 y1 c2), (2, vi y2), (3, pt b1 0), (7, vi s1)] [bx b1 37 [vi y0.1, sv p1 y0.2 c1]] [Rl (eInt .i64) p2 c2 y1, Rl e_Pair p1 c1 y0.2]) (gv (fun _ k=>k) [0] ⟨gk 1,gk 0,⟨⟩⟩)<|fun s1 _ k=>k<|jsq<|jsr<|jpc 4 rfl<|jot<|
  jif rfl (jsk<|jtn<|jsq<|jbk<|jds [] [0] 7<|jda 0 0 2 rfl rfl rfl rfl<|jdc 4 [1,2] rfl<|jdi 3 0 rfl rfl rfl rfl<|fun x1 b2 o1=>jdl 4 false oI rfl (gk 0) rfl<|jdc 1 [5] rfl<|jd1 6<|jca (.f rfl) [] [] c_net_Has rfl rfl rfl ⟨ck 2,⟨⟩⟩<|
  fun r1 _ k=>k<|jdn<|jde<|jtn<|jif rfl (jsr<|jpc 1 rfl<|jot<|jxr<|jbr<|jtr<|jlr<|jbr<|jtr<|jr1 rfl rfl (fun _ k=>k) [] ⟨⟩)<|jsk<|jbn<|jtn<|jrg<|jpc 3 rfl<|joe<|jln (gv (fun _ k=>k) [0] ⟨gk 1,gk 2,⟨⟩⟩))<|jxe<|jte<|jle<|jbh<|jtn<|jsr<|
  jpc 1 rfl<|jot<|jxr<|jr1 rfl rfl (fun _ k=>k) [] ⟨⟩

theorem c_net_Grounded {qd : Prop} {y0 : T_Graph} : Con qd Tryz.prog 10 [.agg #[vi y0.1, sv p1 y0.2 c1]] [] [Rl e_Pair p1 c1 y0.2] (m_net_Grounded y0) fun r K=>∀ p2 c2 p3 c3,K (.tuple #[sv p2 r.1 c2, sv p3 r.2 c3]) [] [Rl (eInt .i64) p2 c2 r.1, Rl (eInt .i64) p3 c3 r.2] :=
 ent3 Tryz.call10 Tryz.func10 rfl fun X=>jsr<|jbx .s rfl<|fun b1=>jpc 2 rfl<|jot<|
  jjn (fun s1 K=>∀ p2 c2 r_1 p3 c3 r_2,K [(1, pt b1 0), (4, sv p2 s1.1 c2), (5, sv p3 s1.2 c3)] [bx b1 37 [vi y0.1, sv p1 y0.2 c1], r_1, r_2] [Al (eInt .i64) 3 r_1 p2 c2 s1.1, Al (eInt .i64) 3 r_2 p3 c3 s1.2, Rl e_Pair p1 c1 y0.2]) (
  jdS [] [0] 8<|jdf 0 0 rfl rfl<|jdo 1 0 rfl rfl rfl rfl<|jdf 3 0 rfl rfl<|jdo 4 0 rfl rfl rfl rfl<|jd2 2 5 (jmk (.f rfl) (e := eInt .i64) 3 (0 : Int) (vi 0) vI rfl rfl<|fun x1 r_3 p4 c4=>jdn<|jdc 2 [6] rfl<|jd1 5<|
  jmk (.f rfl) (e := eInt .i64) 3 (0 : Int) (vi 0) vI rfl rfl<|fun x2 r_4 p5 c5=>jdn<|jdc 0 [7] rfl<|jde<|jnn (gv (fun _ k=>k p4 c4 r_3 p5 c5 r_4) [0,1,2] ⟨gk 1,gk 0,gk 2,⟨⟩⟩)) <|jcm<|
  jmk (.f rfl) (e := eInt .i64) 3 (0 : Int) (vi 0) vI rfl rfl<|fun x3 r_5 p6 c6=>jdn<|jd1 2<|jmk (.f rfl) (e := eInt .i64) 3 (0 : Int) (vi 0) vI rfl rfl<|fun x4 r_6 p7 c7=>jdn<|jdc 0 [6,7] rfl<|jde<|
  jnn (gv (fun _ k=>k p7 c7 r_6 p6 c6 r_5) [0,2,1] ⟨gk 0,gk 1,gk 2,⟨⟩⟩))<|fun s1 _ k p2 c2 r_1 p3 c3 r_2=>k<|
  jjn (fun s2 K=>∀ r_7,K [(1, pt b1 0), (4, .slice p2 (List.length s1.1) c2), (5, sv p3 s1.2 c3)] [bx b1 37 [vi y0.1, sv p1 y0.2 c1], r_7, r_2] [Ar (eInt .i64) 3 r_7 p2 c2 (List.length s1.1) s2, Al (eInt .i64) 3 r_2 p3 c3 s1.2, Rl e_Pair p1 c1 y0.2]) (
  jsr<|jpc 1 rfl<|jot<|jbk<|
  jlp (fun s3 K=>∀ r_8,K [(1, pt b1 0), (4, .slice p2 (List.length s1.1) c2), (5, sv p3 s1.2 c3), (6, vi s3.2)] [bx b1 37 [vi y0.1, sv p1 y0.2 c1], r_8, r_2] [Ar (eInt .i64) 3 r_8 p2 c2 (List.length s1.1) s3.1, Al (eInt .i64) 3 r_2 p3 c3 s1.2, Rl e_Pair p1 c1 y0.2]) (gv (fun _ k=>k r_1) [0,1,2] ⟨gk 0,gk 1,gk 2,⟨⟩⟩)<|
  fun s3 _ k r_8=>k<|jsq<|jsr<|jpc 1 rfl<|jfa 0 rfl<|jlo 0 rfl rfl rfl<|jpc 1 rfl<|jot<|jif rfl (jsk<|jtn<|jsq<|jbk<|jrg<|jpc 2 rfl<|jia 0 rfl rfl rfl<|fun x5 h1 b2 hp1=>jsA .s 1 0 sI 3 false rfl hp1 h1 rfl rfl vI<|fun r_9=>joe<|jbn<|jtn<|
  jrg<|jpc 3 rfl<|joe<|jln (gv (fun _ k=>k r_9) [0,1,2] ⟨gk 0,gk 2,gk 3,⟨⟩⟩))<|jxe<|jte<|jle<|jbh<|jnn (gv (fun _ k=>k r_8) [0,1,2] ⟨gk 0,gk 1,gk 2,⟨⟩⟩))<|fun s2 _ k r_7=>k<|jsq<|jsr<|jpc 1 rfl<|jot<|jbk<|
  jlp (fun s4 K=>∀ r_10 r_11,K [(1, pt b1 0), (4, .slice p2 (List.length s1.1) c2), (5, .slice p3 (List.length s1.2) c3), (7, vi s4.2.2)] [bx b1 37 [vi y0.1, sv p1 y0.2 c1], r_10, r_11] [Ar (eInt .i64) 3 r_10 p2 c2 (List.length s1.1) s4.1, Ar (eInt .i64) 3 r_11 p3 c3 (List.length s1.2) s4.2.1, Rl e_Pair p1 c1 y0.2]) (gv (fun _ k=>k r_7 r_2) [0,1,2] ⟨gk 0,gk 1,gk 2,⟨⟩⟩)<|
  fun s4 _ k r_10 r_11=>k<|jsq<|jsr<|jpc 1 rfl<|jfa 0 rfl<|jlo 0 rfl rfl rfl<|jpc 2 rfl<|jot<|jif rfl (jsk<|jtn<|jsq<|jbk<|jsr<|jpc 1 rfl<|jro (eInt .i64) 3<|jot<|
  jjn (fun s5 K=>∀ p8 c8 r_12,K [(1, pt b1 0), (4, .slice p2 (List.length s1.1) c2), (5, .slice p3 (List.length s1.2) c3), (7, vi s4.2.2), (8, sv p8 s5 c8)] [bx b1 37 [vi y0.1, sv p1 y0.2 c1], r_10, r_11, r_12] [Al (eInt .i64) 3 r_12 p8 c8 s5, Ar (eInt .i64) 3 r_10 p2 c2 (List.length s1.1) s4.1, Ar (eInt .i64) 3 r_11 p3 c3 (List.length s1.2) s4.2.1, Rl e_Pair p1 c1 y0.2]) (
  jsr<|jpc 1 rfl<|jot<|jbk<|
  jlp (fun s6 K=>∀ p9 c9 r_13,K [(1, pt b1 0), (4, .slice p2 (List.length s1.1) c2), (5, .slice p3 (List.length s1.2) c3), (7, vi s4.2.2), (8, sv p9 s6.1 c9), (9, vi s6.2)] [bx b1 37 [vi y0.1, sv p1 y0.2 c1], r_10, r_11, r_13] [Al (eInt .i64) 3 r_13 p9 c9 s6.1, Ar (eInt .i64) 3 r_10 p2 c2 (List.length s1.1) s4.1, Ar (eInt .i64) 3 r_11 p3 c3 (List.length s1.2) s4.2.1, Rl e_Pair p1 c1 y0.2]) (gv (fun _ k=>k none 0 []) [0,1,2,3] ⟨gk 0,gk 1,gk 2,gk 3,⟨⟩⟩)<|
  fun s6 _ k p9 c9 r_13=>k<|jsq<|jsr<|jpc 1 rfl<|jfa 0 rfl<|jlo 0 rfl rfl rfl<|jpc 1 rfl<|jot<|jif rfl (jsk<|jtn<|jsq<|jbk<|jsr<|jpc 2 rfl<|jia 1 rfl rfl rfl<|fun x6 h2 b3 hp2=>jlA 1 1 sI false oI rfl hp2 h2 rfl<|jpc 2 rfl<|jot<|
  jjn (fun s7 K=>K [(1, pt b1 0), (4, .slice p2 (List.length s1.1) c2), (5, .slice p3 (List.length s1.2) c3), (7, vi s4.2.2), (8, sv p9 s6.1 c9), (9, vi s6.2), (10, vb s7)] [bx b1 37 [vi y0.1, sv p1 y0.2 c1], r_10, r_11, r_13] [Ar (eInt .i64) 3 r_10 p2 c2 (List.length s1.1) s4.1, Ar (eInt .i64) 3 r_11 p3 c3 (List.length s1.2) s4.2.1, Al (eInt .i64) 3 r_13 p9 c9 s6.1, Rl e_Pair p1 c1 y0.2]) (
  jsr<|jpc 1 rfl<|jot<|jbk<|
  jlp (fun s8 K=>K [(1, pt b1 0), (4, .slice p2 (List.length s1.1) c2), (5, .slice p3 (List.length s1.2) c3), (7, vi s4.2.2), (8, sv p9 s6.1 c9), (9, vi s6.2), (10, vb s8.1), (11, vi s8.2)] [bx b1 37 [vi y0.1, sv p1 y0.2 c1], r_10, r_11, r_13] [Ar (eInt .i64) 3 r_10 p2 c2 (List.length s1.1) s4.1, Ar (eInt .i64) 3 r_11 p3 c3 (List.length s1.2) s4.2.1, Al (eInt .i64) 3 r_13 p9 c9 s6.1, Rl e_Pair p1 c1 y0.2]) (gv (fun _ k=>k) [0,1,2,3] ⟨gk 1,gk 2,gk 0,gk 3,⟨⟩⟩)<|
  fun s8 _ k=>k<|jsq<|jsr<|jpc 1 rfl<|jfa 0 rfl<|jlo 0 rfl rfl rfl<|jpc 1 rfl<|jot<|jif rfl (jsk<|jtn<|jsq<|jbk<|
  jjc (fun s9 K=>K [(1, pt b1 0), (4, .slice p2 (List.length s1.1) c2), (5, .slice p3 (List.length s1.2) c3), (7, vi s4.2.2), (8, sv p9 s6.1 c9), (9, vi s6.2), (10, vb s9), (11, vi s8.2)] [bx b1 37 [vi y0.1, sv p1 y0.2 c1], r_10, r_11, r_13] [Ar (eInt .i64) 3 r_10 p2 c2 (List.length s1.1) s4.1, Ar (eInt .i64) 3 r_11 p3 c3 (List.length s1.2) s4.2.1, Al (eInt .i64) 3 r_13 p9 c9 s6.1, Rl e_Pair p1 c1 y0.2]) (
  jrg<|jpc 2 rfl<|jsg 55 rfl (jla 0 2 rfl rfl rfl<|jpc 2 rfl<|jcl c_net_Has rfl ⟨ck 3,⟨⟩⟩<|fun r1 _ k=>k<|jpc 2 rfl<|jsg 61 rfl (jpc 5 rfl<|jpe (vb true)<|jpe (vb true)<|jpc 1 rfl<|joe<|jnn (gv (fun _ k=>k) [0,1,2,3] ⟨gk 0,gk 1,gk 2,gk 3,⟨⟩⟩)
  )<|jpc 2 rfl<|jia 0 rfl rfl rfl<|fun x7 h3 b4 hp3=>jlA 1 0 sI false oI rfl hp3 h3 rfl<|jpc 1 rfl<|jpe (vb (x7 == 2))<|jpe (vb (x7 == 2))<|jpc 1 rfl<|joe<|jnn (gv (fun _ k=>k) [0,1,2,3] ⟨gk 0,gk 1,gk 2,gk 3,⟨⟩⟩))<|jpc 12 rfl<|
  jpe (vb false)<|jpc 1 rfl<|joe<|jnn (gv (fun _ k=>k) [0,1,2,3] ⟨gk 0,gk 1,gk 2,gk 3,⟨⟩⟩))<|fun s9 _ k=>k<|jbn<|jtn<|jrg<|jpc 3 rfl<|joe<|jln (gv (fun _ k=>k) [0,1,2,3] ⟨gk 0,gk 1,gk 2,gk 3,⟨⟩⟩))<|jxe<|jte<|jle<|jbh<|
  jnn (gv (fun _ k=>k) [0,1,2,3] ⟨gk 0,gk 1,gk 2,gk 3,⟨⟩⟩))<|fun s7 _ k=>k<|jsr<|jpc 1 rfl<|jot<|jif rfl (jrg<|jpc 2 rfl<|jbs .s (e := eInt .i64) 3 [vi s6.2] ([s6.2] : List Int) (rC vI rN)<|fun p10 c10=>jar .s 3 3 rfl (gk 0) rfl rfl<|
  fun x8 r_14 p11 c11=>jpc 1 rfl<|joe<|jbn<|jtn<|jrg<|jpc 3 rfl<|joe<|jln (gv (fun _ k=>k p11 c11 r_14) [0,1,2,3] ⟨gk 0,gk 2,gk 3,gk 5,⟨⟩⟩))<|jsk<|jbn<|jtn<|jrg<|jpc 3 rfl<|joe<|
  jln (gv (fun _ k=>k p9 c9 r_13) [0,1,2,3] ⟨gk 2,gk 0,gk 1,gk 3,⟨⟩⟩))<|jxe<|jte<|jle<|jbh<|jnn (gv (fun _ k=>k p9 c9 r_13) [0,1,2,3] ⟨gk 0,gk 1,gk 2,gk 3,⟨⟩⟩))<|fun s5 _ k p8 c8 r_12=>k<|
  jjn (fun s10 K=>∀ r_15 r_16,K [(1, pt b1 0), (4, .slice p2 (List.length s1.1) c2), (5, .slice p3 (List.length s1.2) c3), (7, vi s4.2.2), (8, sv p8 s5 c8)] [bx b1 37 [vi y0.1, sv p1 y0.2 c1], r_15, r_16, r_12] [Ar (eInt .i64) 3 r_15 p2 c2 (List.length s1.1) s10.1, Ar (eInt .i64) 3 r_16 p3 c3 (List.length s1.2) s10.2, Al (eInt .i64) 3 r_12 p8 c8 s5, Rl e_Pair p1 c1 y0.2]) (
  jsr<|jpc 3 rfl<|jot<|jbk<|
  jlp (fun s11 K=>∀ r_17 r_18,K [(1, pt b1 0), (4, .slice p2 (List.length s1.1) c2), (5, .slice p3 (List.length s1.2) c3), (7, vi s4.2.2), (8, sv p8 s5 c8), (74, sv p8 s5 c8), (75, vi (len s5)), (76, vi s11.2.2)] [bx b1 37 [vi y0.1, sv p1 y0.2 c1], r_17, r_18, r_12] [Ar (eInt .i64) 3 r_17 p2 c2 (List.length s1.1) s11.1, Ar (eInt .i64) 3 r_18 p3 c3 (List.length s1.2) s11.2.1, Al (eInt .i64) 3 r_12 p8 c8 s5, Rl e_Pair p1 c1 y0.2]) (gv (fun _ k=>k r_10 r_11) [0,1,2,3] ⟨gk 1,gk 2,gk 0,gk 3,⟨⟩⟩)<|
  fun s11 _ k r_17 r_18=>k<|jsr<|jpc 1 rfl<|jot<|jsq<|jif rfl (jsk<|jtn<|jsq<|jbk<|jsr<|jia 2 rfl rfl rfl<|fun x9 h5 b5 hp4=>jlA 3 2 sI false oI rfl hp4 h5 rfl<|jpc 1 rfl<|jot<|jrg<|jpc 5 rfl<|jia 0 rfl rfl rfl<|fun x10 h6 b6 hp5=>
  jsA .s 1 0 sI 1 false rfl hp5 h6 rfl rfl vI<|fun r_19=>jia 2 rfl rfl rfl<|fun x11 h7 b7 hp6=>jsA .s 2 2 sI s4.2.2 false rfl hp6 h7 rfl rfl vI<|fun r_20=>joe<|jbn<|jtn<|jrg<|jpc 2 rfl<|joe<|
  jln (gv (fun _ k=>k r_19 r_20) [0,1,2,3] ⟨gk 1,gk 0,gk 4,gk 5,⟨⟩⟩))<|jxe<|jte<|jle<|jbh<|jnn (gv (fun _ k=>k r_17 r_18) [0,1,2,3] ⟨gk 0,gk 1,gk 2,gk 3,⟨⟩⟩))<|fun s10 _ k r_15 r_16=>k<|jsr<|jpc 1 rfl<|jot<|jbk<|
  jlp (fun s12 K=>∀ r_21 r_22,K [(1, pt b1 0), (4, .slice p2 (List.length s1.1) c2), (5, .slice p3 (List.length s1.2) c3), (7, vi s4.2.2), (8, sv p8 s5 c8), (14, vi s12.2.2)] [bx b1 37 [vi y0.1, sv p1 y0.2 c1], r_21, r_22, r_12] [Ar (eInt .i64) 3 r_21 p2 c2 (List.length s1.1) s12.1, Ar (eInt .i64) 3 r_22 p3 c3 (List.length s1.2) s12.2.1, Al (eInt .i64) 3 r_12 p8 c8 s5, Rl e_Pair p1 c1 y0.2]) (gv (fun _ k=>k r_15 r_16) [0,1,2,3] ⟨gk 0,gk 1,gk 2,gk 3,⟨⟩⟩)<|
  fun s12 _ k r_21 r_22=>k<|jsq<|jsr<|jpc 1 rfl<|jfa 0 rfl<|jlo 0 rfl rfl rfl<|jpc 1 rfl<|jot<|jif rfl (jsk<|jtn<|jsq<|jbk<|
  jjn (fun s13 K=>K [(1, pt b1 0), (4, .slice p2 (List.length s1.1) c2), (5, .slice p3 (List.length s1.2) c3), (7, vi s4.2.2), (8, sv p8 s5 c8), (14, vi s12.2.2), (104, vb s13)] [bx b1 37 [vi y0.1, sv p1 y0.2 c1], r_21, r_22, r_12] [Ar (eInt .i64) 3 r_21 p2 c2 (List.length s1.1) s12.1, Ar (eInt .i64) 3 r_22 p3 c3 (List.length s1.2) s12.2.1, Al (eInt .i64) 3 r_12 p8 c8 s5, Rl e_Pair p1 c1 y0.2]) (
  jrg<|jpc 2 rfl<|jia 0 rfl rfl rfl<|fun x12 h8 b8 hp7=>jlA 1 0 sI false oI rfl hp7 h8 rfl<|jpc 2 rfl<|jsg 99 rfl (jla 0 2 rfl rfl rfl<|jpc 2 rfl<|jca .s [] [3] c_net_Attacked rfl rfl rfl ⟨ck 3,cl 3 2,⟨⟩⟩<|fun r2 _ k=>k<|jpe (vb r2)<|joe<|
  jnn (gv (fun _ k=>k) [0,1,2,3] ⟨gk 0,gk 1,gk 2,gk 3,⟨⟩⟩))<|jpc 4 rfl<|jpe (vb false)<|joe<|jnn (gv (fun _ k=>k) [0,1,2,3] ⟨gk 0,gk 1,gk 2,gk 3,⟨⟩⟩))<|fun s13 _ k=>k<|jif rfl (jrg<|jpc 5 rfl<|jia 0 rfl rfl rfl<|fun x13 h9 b9 hp8=>
  jsA .s 1 0 sI 2 false rfl hp8 h9 rfl rfl vI<|fun r_23=>jia 2 rfl rfl rfl<|fun x14 h10 b10 hp9=>jsA .s 2 2 sI s4.2.2 false rfl hp9 h10 rfl rfl vI<|fun r_24=>joe<|jbn<|jtn<|jrg<|jpc 3 rfl<|joe<|
  jln (gv (fun _ k=>k r_23 r_24) [0,1,2,3] ⟨gk 1,gk 0,gk 4,gk 5,⟨⟩⟩))<|jsk<|jbn<|jtn<|jrg<|jpc 3 rfl<|joe<|jln (gv (fun _ k=>k r_21 r_22) [0,1,2,3] ⟨gk 0,gk 1,gk 2,gk 3,⟨⟩⟩))<|jxe<|jte<|jle<|jbh<|jbn<|jtn<|jrg<|jpc 3 rfl<|joe<|
  jln (gv (fun _ k=>k r_21 r_22) [0,1,2] ⟨gk 0,gk 1,gk 3,⟨⟩⟩))<|jxe<|jte<|jle<|jbh<|jtn<|jsr<|jpc 4 rfl<|jot<|jxr<|jsh 1 0 rfl rfl<|jsh 2 2 rfl rfl<|jre 1 2 rfl rfl<|jre 1 3 rfl rfl<|
  jrg' rfl (lT rfl (lT rfl lN)) (fun _ k=>k p2 c2 p3 c3) [] ⟨gk 1,gk 0,⟨⟩⟩

theorem c_ref01_ValidName {qd : Prop} {y0 : Str} : Con qd Tryz.prog 60 [vs y0] [] [] (m_ref01_ValidName y0) fun r K=>K (vb r) [] [] :=
 ent3 Tryz.call60 Tryz.func60 rfl fun X=>jsr<|jpc 1 rfl<|jot<|jsq<|jjn (fun s1 K=>K [(0, vs y0), (21, vb s1)] [] []) (jrg<|jpc 4 rfl<|jsg 7 rfl (jpc 3 rfl<|jpe (vb true)<|jpc 4 rfl<|jpe (vb true)<|jpc 4 rfl<|jpe (vb true)<|joe<|jnn (gv (fun _ k=>k) [] ⟨⟩))<|jpc 3 rfl<|
  jpe (vb (decide (12 < (len y0))))<|jpc 1 rfl<|jsg 12 rfl (jpc 3 rfl<|jpe (vb true)<|jpc 4 rfl<|jpe (vb true)<|joe<|jnn (gv (fun _ k=>k) [] ⟨⟩))<|jpc 1 rfl<|jbd fun x1 h1=>jv (fun h=>r_sidx h rfl rfl Tryz.underlying9 h1)<|jpc 1 rfl<|
  jpe (vb (decide (x1 < 97)))<|jpc 1 rfl<|jsg 17 rfl (jpc 3 rfl<|jpe (vb true)<|joe<|jnn (gv (fun _ k=>k) [] ⟨⟩))<|jpc 1 rfl<|jbd fun x2 h2=>jv (fun h=>r_sidx h rfl rfl Tryz.underlying9 h2)<|jpc 1 rfl<|jpe (vb (decide (122 < x2)))<|joe<|
  jnn (gv (fun _ k=>k) [] ⟨⟩))<|fun s1 _ k=>k<|jif rfl (jsr<|jpc 1 rfl<|jot<|jxr<|jtr<|jr1 rfl rfl (fun _ k=>k) [] ⟨⟩)<|jsk<|jtn<|jsq<|jsr<|jpc 1 rfl<|jot<|jbk<|jlp (fun s2 K=>K [(0, vs y0), (3, vi s2)] [] []) (gv (fun _ k=>k) [] ⟨⟩)<|
  fun s2 _ k=>k<|jsq<|jsr<|jpc 4 rfl<|jot<|jif rfl (jsk<|jtn<|jsq<|jbk<|jjn (fun s3 K=>K [(0, vs y0), (3, vi s2), (55, vb s3)] [] []) (jrg<|jpc 2 rfl<|jbd fun x3 h3=>jv (fun h=>r_sidx h rfl rfl Tryz.underlying9 h3)<|jpc 2 rfl<|jsg 32 rfl (
  jpc 4 rfl<|jpe (vb true)<|jpc 3 rfl<|jbd fun x4 h4=>jv (fun h=>r_sidx h rfl rfl Tryz.underlying9 h4)<|jpc 2 rfl<|jsg 43 rfl (jpc 4 rfl<|jpe (vb true)<|jpe (vb true)<|jpc 3 rfl<|jbd fun x5 h5=>
  jv (fun h=>r_sidx h rfl rfl Tryz.underlying9 h5)<|jpc 1 rfl<|jpe (vb (x5 != 95))<|joe<|jnn (gv (fun _ k=>k) [] ⟨⟩))<|jpc 2 rfl<|jbd fun x6 h6=>jv (fun h=>r_sidx h rfl rfl Tryz.underlying9 h6)<|jpc 1 rfl<|jpe (vb (decide (57 < x6)))<|
  jpe (vb (decide (57 < x6)))<|jpc 1 rfl<|jsg 50 rfl (jpc 2 rfl<|jbd fun x7 h7=>jv (fun h=>r_sidx h rfl rfl Tryz.underlying9 h7)<|jpc 1 rfl<|jpe (vb (x7 != 95))<|joe<|jnn (gv (fun _ k=>k) [] ⟨⟩))<|jpc 4 rfl<|jpe (vb false)<|joe<|
  jnn (gv (fun _ k=>k) [] ⟨⟩))<|jpc 2 rfl<|jbd fun x8 h8=>jv (fun h=>r_sidx h rfl rfl Tryz.underlying9 h8)<|jpc 1 rfl<|jpe (vb (decide (122 < x8)))<|jpc 1 rfl<|jsg 38 rfl (jpc 2 rfl<|jbd fun x9 h9=>
  jv (fun h=>r_sidx h rfl rfl Tryz.underlying9 h9)<|jpc 2 rfl<|jsg 43 rfl (jpc 4 rfl<|jpe (vb true)<|jpe (vb true)<|jpc 3 rfl<|jbd fun x10 h10=>jv (fun h=>r_sidx h rfl rfl Tryz.underlying9 h10)<|jpc 1 rfl<|jpe (vb (x10 != 95))<|joe<|
  jnn (gv (fun _ k=>k) [] ⟨⟩))<|jpc 2 rfl<|jbd fun x11 h11=>jv (fun h=>r_sidx h rfl rfl Tryz.underlying9 h11)<|jpc 1 rfl<|jpe (vb (decide (57 < x11)))<|jpe (vb (decide (57 < x11)))<|jpc 1 rfl<|jsg 50 rfl (jpc 2 rfl<|jbd fun x12 h12=>
  jv (fun h=>r_sidx h rfl rfl Tryz.underlying9 h12)<|jpc 1 rfl<|jpe (vb (x12 != 95))<|joe<|jnn (gv (fun _ k=>k) [] ⟨⟩))<|jpc 4 rfl<|jpe (vb false)<|joe<|jnn (gv (fun _ k=>k) [] ⟨⟩))<|jpc 10 rfl<|jpe (vb false)<|jpc 5 rfl<|jpe (vb false)<|
  joe<|jnn (gv (fun _ k=>k) [] ⟨⟩))<|fun s3 _ k=>k<|jif rfl (jsr<|jpc 1 rfl<|jot<|jxr<|jbr<|jtr<|jlr<|jbr<|jtr<|jr1 rfl rfl (fun _ k=>k) [] ⟨⟩)<|jsk<|jbn<|jtn<|jrg<|jpc 3 rfl<|joe<|jln (gv (fun _ k=>k) [] ⟨⟩))<|jxe<|jte<|jle<|jbh<|jtn<|jsr<|
  jpc 1 rfl<|jot<|jxr<|jr1 rfl rfl (fun _ k=>k) [] ⟨⟩

theorem c_ref01_Valid {qd : Prop} {y0 : T_Literal} : Con qd Tryz.prog 37 [.agg #[vb y0.1, vs y0.2]] [] [] (m_ref01_Valid y0) fun r K=>K (vb r) [] [] :=
 ent3 Tryz.call37 Tryz.func37 rfl fun X=>jsr<|jbx .s rfl<|fun b1=>jpc 1 rfl<|jot<|jsr<|jfa 1 rfl<|jlo 0 rfl rfl rfl<|jcl c_ref01_ValidName rfl ⟨⟩<|fun r1 _ k=>k<|jpc 1 rfl<|jot<|jxr<|jr1 rfl rfl (fun _ k=>k) [] ⟨⟩

theorem c_ref01_Format {qd : Prop} {y0 : T_Literal} : Con qd Tryz.prog 14 [.agg #[vb y0.1, vs y0.2]] [] [] (m_ref01_Format y0) fun r K=>K (vs r) [] [] :=
 ent3 Tryz.call14 Tryz.func14 rfl fun X=>jsr<|jbx .s rfl<|fun b1=>jpc 1 rfl<|jot<|jsq<|jsr<|jla 0 2 rfl rfl rfl<|jcl c_ref01_Valid rfl ⟨⟩<|fun r1 _ k=>k<|jpc 1 rfl<|jot<|jif rfl (jsr<|jpc 1 rfl<|jot<|jxr<|jtr<|jr1 rfl rfl (fun _ k=>k) [] ⟨⟩)<|jsk<|jtn<|jsq<|jsr<|jfa 0 rfl<|
  jlo 0 rfl rfl rfl<|jot<|jif rfl (jsr<|jfa 1 rfl<|jlo 0 rfl rfl rfl<|jbd fun x1 h1=>jv (fun h=>r_cat h rfl rfl h1)<|jpc 1 rfl<|jot<|jxr<|jtr<|jr1 rfl rfl (fun _ k=>k) [] ⟨⟩)<|jsk<|jtn<|jsr<|jfa 1 rfl<|jlo 0 rfl rfl rfl<|jpc 1 rfl<|jot<|jxr<|
  jr1 rfl rfl (fun _ k=>k) [] ⟨⟩

theorem c_ref01_Compare {qd : Prop} {y0 : T_Literal} {y1 : T_Literal} : Con qd Tryz.prog 59 [.agg #[vb y0.1, vs y0.2], .agg #[vb y1.1, vs y1.2]] [] [] (m_ref01_Compare y0 y1) fun r K=>K (vi r) [] [] :=
 ent3 Tryz.call59 Tryz.func59 rfl fun X=>jsr<|jbx .s rfl<|fun b1=>jbx .s rfl<|fun b2=>jpc 1 rfl<|jot<|jsq<|jbk<|jsr<|jla 0 2 rfl rfl rfl<|jla 1 2 rfl rfl rfl<|jpe (vb (y0 == y1))<|jpc 1 rfl<|jot<|jif rfl (jsr<|jpc 1 rfl<|jot<|jxr<|jbr<|jtr<|jr1 rfl rfl (fun _ k=>k) [] ⟨⟩)<|
  jjp (fun K=>K [(9, vb ((sless y0.2 y1.2) || ((y0.2 == y1.2) && y1.1)))] [[], []] []) (jrg<|jfa 1 rfl<|jlo 0 rfl rfl rfl<|jfa 1 rfl<|jlo 1 rfl rfl rfl<|jpc 2 rfl<|jsp (b := sless y0.2 y1.2) 15 rfl (fun hb1=>jpc 9 rfl<|jpe (vb true)<|
  jpc 1 rfl<|joe<|jup 9 (vb ((sless y0.2 y1.2) || ((y0.2 == y1.2) && y1.1))) rfl (by rw [hb1]; rfl)<|jnn (gv (fun _ k=>k) [900,901] ⟨⟩))<|fun hb1=>jfa 1 rfl<|jlo 0 rfl rfl rfl<|jfa 1 rfl<|jlo 1 rfl rfl rfl<|jpc 2 rfl<|
  jsp (b := y0.2 == y1.2) 21 rfl (fun hb2=>jfa 0 rfl<|jlo 1 rfl rfl rfl<|jpe (vb y1.1)<|jpe (vb y1.1)<|jpc 1 rfl<|joe<|jup 9 (vb ((sless y0.2 y1.2) || ((y0.2 == y1.2) && y1.1))) rfl (by rw [hb1,hb2]; rfl)<|jnn (gv (fun _ k=>k) [900,901] ⟨⟩)
  )<|fun hb2=>jpc 2 rfl<|jpe (vb false)<|jpe (vb false)<|jpc 1 rfl<|joe<|jup 9 (vb ((sless y0.2 y1.2) || ((y0.2 == y1.2) && y1.1))) rfl (by rw [hb1,hb2]; rfl)<|jnn (gv (fun _ k=>k) [900,901] ⟨⟩))<|fun _ k=>k<|jif rfl (jsr<|jpc 1 rfl<|jot<|
  jxr<|jbr<|jtr<|jr1 rfl rfl (fun _ k=>k) [] ⟨⟩)<|jsk<|jbn<|jtn<|jsr<|jpc 1 rfl<|jot<|jxr<|jr1 rfl rfl (fun _ k=>k) [] ⟨⟩

theorem c_ref01_Insert {qd : Prop} {y0 : List T_Literal} {y1 : T_Literal} : Con qd Tryz.prog 36 [sv p1 y0 c1, .agg #[vb y1.1, vs y1.2]] [] [Rl e_Literal p1 c1 y0] (m_ref01_Insert y0 y1) fun r K=>∀ p2 c2,K (sv p2 r c2) [] [Rl e_Literal p2 c2 r] :=
 ent3 Tryz.call36 Tryz.func36 rfl fun X=>jsr<|jbx .s rfl<|fun b1=>jpc 1 rfl<|jot<|jsr<|jpc 1 rfl<|jot<|jjn (fun s1 K=>K [(0, sv p1 y0 c1), (3, pt b1 0), (5, vi s1)] [bx b1 51 [vb y1.1, vs y1.2]] [Rl e_Literal p1 c1 y0]) (jbk<|
  jlp (fun s2 K=>K [(0, sv p1 y0 c1), (3, pt b1 0), (5, vi s2)] [bx b1 51 [vb y1.1, vs y1.2]] [Rl e_Literal p1 c1 y0]) (gv (fun _ k=>k) [0] ⟨gk 0,⟨⟩⟩)<|fun s2 _ k=>k<|jsq<|
  jjn (fun s3 K=>K [(0, sv p1 y0 c1), (3, pt b1 0), (5, vi s2), (19, vb s3)] [bx b1 51 [vb y1.1, vs y1.2]] [Rl e_Literal p1 c1 y0]) (jdS [] [0] 13<|jdc 8 [0,1,2,3,4] rfl<|jsg 11 rfl (jdc 6 [5,6] rfl<|jdi 7 0 rfl rfl rfl rfl<|fun x1 b2 o1=>
  jdl 8 true o_Literal rfl (gk 0) rfl<|jda 9 0 2 rfl rfl rfl rfl<|jd1 10<|jca (.f rfl) [] [] c_ref01_Compare rfl rfl rfl ⟨⟩<|fun r1 _ k=>k<|jdn<|jdc 1 [11] rfl<|jdp 12 (vb (decide (r1 < 0))) rfl<|jde<|jnn (gv (fun _ k=>k) [0] ⟨gk 1,⟨⟩⟩))<|
  jdc 1 [5,6,7,8,9,10,11] rfl<|jdp 12 (vb false) rfl<|jde<|jnn (gv (fun _ k=>k) [0] ⟨gk 0,⟨⟩⟩))<|fun s3 _ k=>k<|jif rfl (jsk<|jtn<|jbk<|jrg<|jpc 3 rfl<|joe<|jbn<|jln (gv (fun _ k=>k) [0] ⟨gk 0,⟨⟩⟩))<|jxe<|jte<|jle<|jbh<|
  jnn (gv (fun _ k=>k) [0] ⟨gk 0,⟨⟩⟩))<|fun s1 _ k=>k<|jsq<|jjn (fun s4 K=>K [(0, sv p1 y0 c1), (3, pt b1 0), (5, vi s1), (33, vb s4)] [bx b1 51 [vb y1.1, vs y1.2]] [Rl e_Literal p1 c1 y0]) (jdS [] [0] 12<|jdc 7 [0,1,2,3,4] rfl<|jsg 26 rfl (
  jdc 5 [5,6] rfl<|jdi 7 0 rfl rfl rfl rfl<|fun x2 b3 o2=>jdl 8 true o_Literal rfl (gk 0) rfl<|jda 9 0 2 rfl rfl rfl rfl<|jdp 10 (vb (x2 == y1)) rfl<|jdp 11 (vb (x2 == y1)) rfl<|jde<|jnn (gv (fun _ k=>k) [0] ⟨gk 1,⟨⟩⟩))<|
  jdc 1 [5,6,7,8,9,10] rfl<|jdp 11 (vb false) rfl<|jde<|jnn (gv (fun _ k=>k) [0] ⟨gk 0,⟨⟩⟩))<|fun s4 _ k=>k<|jif rfl (jsr<|jpc 2 rfl<|jot<|jxr<|jtr<|jr1 rfl rfl (fun _ k=>k p1 c1) [] ⟨gk 0,⟨⟩⟩)<|jsk<|jtn<|jsr<|
  jbo .s (e := e_Literal) 51 [] ([] : List T_Literal) rN<|fun r_1 p2 c2=>jpc 2 rfl<|jsl (gk 1) rfl rfl rfl (.inl ⟨rfl, rfl⟩) (.inr ⟨_, rfl⟩)<|fun x3 p3 c3=>jar .s 1 1 rfl (gk 0) rfl rfl<|fun x4 r_2 p4 c4=>jpc 1 rfl<|jot<|jds [] [0] 9<|
  jdc 8 [0] rfl<|jda 1 0 2 rfl rfl rfl rfl<|jdc 5 [4,5] rfl<|jdw 6 rfl (gk 3) rfl rfl rfl (.inr ⟨_, rfl⟩) (.inl ⟨rfl, rfl⟩)<|fun x5 p5 c5=>jd1 2<|jbs (.f rfl) (e := e_Literal) 51 [vb y1.1, vs y1.2] ([y1] : List T_Literal) (rC (vP vB vS) rN)<|
  fun p6 c6=>jdn<|jd1 3<|jar (.f rfl) 1 2 rfl (gk 0) rfl rfl<|fun x6 r_3 p7 c7=>jdn<|jd1 7<|jar (.f rfl) 1 0 rfl (gk 2) rfl rfl<|fun x7 r_4 p8 c8=>jdn<|jdc 0 [8] rfl<|jde<|jtn<|jxr<|jsh 1 0 rfl rfl<|jr1 rfl rfl (fun _ k=>k p8 c8) [] ⟨gk 0,⟨⟩⟩

theorem c_ref01_Normal {qd : Prop} {y0 : List T_Literal} : Con qd Tryz.prog 11 [sv p1 y0 c1] [] [Rl e_Literal p1 c1 y0] (m_ref01_Normal y0) fun r K=>∀ p2 c2,K (sv p2 r c2) [] [Rl e_Literal p2 c2 r] :=
 ent3 Tryz.call11 Tryz.func11 rfl fun X=>jsr<|jpc 1 rfl<|jot<|jsr<|jpc 1 rfl<|jot<|jsq<|jsr<|jpc 1 rfl<|jot<|jbk<|
  jlp (fun s1 K=>∀ p2 c2,K [(0, sv p1 y0 c1), (3, sv p2 s1.1 c2), (4, vi s1.2)] [] [Rl e_Literal p2 c2 s1.1, Rl e_Literal p1 c1 y0]) (gv (fun _ k=>k none 0) [] ⟨gn,gk 0,⟨⟩⟩)<|fun s1 _ k p2 c2=>k<|jsq<|jsr<|jpc 4 rfl<|jot<|jif rfl (jsk<|jtn<|
  jsq<|jbk<|jrg<|jpc 3 rfl<|jix 1 rfl rfl rfl<|fun x1 b1 o1=>jld true o_Literal (gk 0) rfl<|jcl c_ref01_Insert rfl ⟨ck 1,⟨⟩⟩<|fun r1 _ k p3 c3=>k<|jpc 1 rfl<|joe<|jbn<|jtn<|jrg<|jpc 3 rfl<|joe<|jln (gv (fun _ k=>k p3 c3) [] ⟨gk 0,gk 3,⟨⟩⟩))<|
  jxe<|jte<|jle<|jbh<|jtn<|jsr<|jpc 2 rfl<|jot<|jxr<|jr1 rfl rfl (fun _ k=>k p2 c2) [] ⟨gk 0,⟨⟩⟩

theorem c_ref01_Has {qd : Prop} {y0 : List T_Literal} {y1 : T_Literal} : Con qd Tryz.prog 48 [sv p1 y0 c1, .agg #[vb y1.1, vs y1.2]] [] [Rl e_Literal p1 c1 y0] (m_ref01_Has y0 y1) fun r K=>K (vb r) [] [] :=
 ent3 Tryz.call48 Tryz.func48 rfl fun X=>jsr<|jbx .s rfl<|fun b1=>jpc 1 rfl<|jot<|jsq<|jsr<|jpc 1 rfl<|jot<|jbk<|jlp (fun s1 K=>K [(0, sv p1 y0 c1), (3, pt b1 0), (5, vi s1)] [bx b1 51 [vb y1.1, vs y1.2]] [Rl e_Literal p1 c1 y0]) (gv (fun _ k=>k) [0] ⟨gk 0,⟨⟩⟩)<|fun s1 _ k=>k<|
  jsq<|jsr<|jpc 4 rfl<|jot<|jif rfl (jsk<|jtn<|jsq<|jbk<|jds [] [0] 6<|jdc 4 [0,1] rfl<|jdi 2 0 rfl rfl rfl rfl<|fun x1 b2 o1=>jdl 3 true o_Literal rfl (gk 0) rfl<|jda 4 0 2 rfl rfl rfl rfl<|jdp 5 (vb (x1 == y1)) rfl<|jde<|jtn<|jif rfl (jsr<|
  jpc 1 rfl<|jot<|jxr<|jbr<|jtr<|jlr<|jbr<|jtr<|jr1 rfl rfl (fun _ k=>k) [] ⟨⟩)<|jsk<|jbn<|jtn<|jrg<|jpc 3 rfl<|joe<|jln (gv (fun _ k=>k) [0] ⟨gk 1,⟨⟩⟩))<|jxe<|jte<|jle<|jbh<|jtn<|jsr<|jpc 1 rfl<|jot<|jxr<|jr1 rfl rfl (fun _ k=>k) [] ⟨⟩

theorem c_ref05_Copy {qd : Prop} {y0 : T_Base} : Con qd Tryz.prog 47 [.agg #[sv p1 y0.1 c1, sv p2 y0.2.1 c2, sv p3 y0.2.2 c3]] [] [Rl e_Premise p1 c1 y0.1, Rl e_Rule p2 c2 y0.2.1, Rl e_Promotion p3 c3 y0.2.2] (m_ref05_Copy y0) fun r K=>∀ p4 c4 p5 c5 r_1 p6 c6,K (.agg #[sv p4 r.1 c4, sv p5 r.2.1 c5, sv p6 r.2.2 c6]) [r_1] [Rl e_Premise p4 c4 r.1, Al e_Rule 78 r_1 p5 c5 r.2.1, Rl e_Promotion p6 c6 r.2.2] :=
 ent3 Tryz.call47 Tryz.func47 rfl fun X=>jsr<|jbx .s rfl<|fun b1=>jal .s (.agg #[.slice none 0 0, .slice none 0 0, .slice none 0 0])<|fun b2=>jot<|
  jjn (fun s1 K=>∀ b3 p4 c4 r_1 p5 c5 r_2 p6 c6 r_3,K [(1, pt b1 0), (2, pt b2 0), (3, pt b3 0)] [bx b1 32 [sv p1 y0.1 c1, sv p2 y0.2.1 c2, sv p3 y0.2.2 c3], bx b2 32 [.slice none 0 0, .slice none 0 0, .slice none 0 0], bx b3 32 [sv p4 s1.1 c4, sv p5 s1.2.1 c5, sv p6 s1.2.2 c6], r_1, r_2, r_3] [Al e_Premise 74 r_1 p4 c4 s1.1, Al e_Rule 78 r_2 p5 c5 s1.2.1, Al e_Promotion 80 r_3 p6 c6 s1.2.2, Rl e_Premise p1 c1 y0.1, Rl e_Rule p2 c2 y0.2.1, Rl e_Promotion p3 c3 y0.2.2]) (
  jdS [] [0] 11<|jdf 1 0 rfl rfl<|jdo 2 0 rfl rfl rfl rfl<|jdf 5 2 rfl rfl<|jdo 6 0 rfl rfl rfl rfl<|jd3 0 4 9 (jbo (.f rfl) (e := e_Premise) 74 [] ([] : List T_Premise) rN<|fun r_4 p7 c7=>jdn<|jd3 3 4 9 (jar (.f rfl) 2 0 rfl (gk 1) rfl rfl<|
  fun x1 r_5 p8 c8=>jdn<|jd2 4 9 (jbo (.f rfl) (e := e_Promotion) 80 [] ([] : List T_Promotion) rN<|fun r_6 p9 c9=>jdn<|jd2 7 9 (jar (.f rfl) 3 0 rfl (gk 5) rfl rfl<|fun x2 r_7 p10 c10=>jdn<|
  jdp 8 (.agg #[sv p8 x1 c8, .slice none 0 0, sv p10 x2 c10]) rfl<|jro e_Rule 78<|jd1 9<|jal (.f rfl) (.agg #[.slice none 0 0, .slice none 0 0, .slice none 0 0])<|fun b4=>jdn<|jd1 10<|jso (o := 0) (.f rfl) 5 rfl rfl rfl<|jdn<|jde<|
  jnn (gv (fun _ k=>k b4 p8 c8 r_5 none 0 [] p10 c10 r_7) [0,1,5,2,4,3] ⟨gk 3,gk 0,gk 1,gk 5,gk 6,gk 7,⟨⟩⟩)) <|jal (.f rfl) (.agg #[.slice none 0 0, .slice none 0 0, .slice none 0 0])<|fun b5=>jdn<|jd1 7<|jar (.f rfl) 3 0 rfl (gk 5) rfl rfl<|
  fun x3 r_8 p11 c11=>jdn<|jdp 8 (.agg #[sv p8 x1 c8, .slice none 0 0, sv p11 x3 c11]) rfl<|jro e_Rule 78<|jd1 10<|jso (o := 0) (.f rfl) 4 rfl rfl rfl<|jdn<|jde<|
  jnn (gv (fun _ k=>k b5 p8 c8 r_5 none 0 [] p11 c11 r_8) [0,1,4,2,5,3] ⟨gk 3,gk 0,gk 1,gk 5,gk 6,gk 7,⟨⟩⟩)) <|jal (.f rfl) (.agg #[.slice none 0 0, .slice none 0 0, .slice none 0 0])<|fun b6=>jdn<|jd1 4<|
  jbo (.f rfl) (e := e_Promotion) 80 [] ([] : List T_Promotion) rN<|fun r_9 p12 c12=>jdn<|jd1 7<|jar (.f rfl) 4 0 rfl (gk 5) rfl rfl<|fun x4 r_10 p13 c13=>jdn<|jdp 8 (.agg #[sv p8 x1 c8, .slice none 0 0, sv p13 x4 c13]) rfl<|jro e_Rule 78<|
  jd1 10<|jso (o := 0) (.f rfl) 3 rfl rfl rfl<|jdn<|jde<|jnn (gv (fun _ k=>k b6 p8 c8 r_5 none 0 [] p13 c13 r_10) [0,1,3,2,5,4] ⟨gk 3,gk 0,gk 1,gk 5,gk 6,gk 7,⟨⟩⟩)) (jbo (.f rfl) (e := e_Promotion) 80 [] ([] : List T_Promotion) rN<|
  fun r_11 p14 c14=>jdn<|jd2 3 9 (jar (.f rfl) 2 1 rfl (gk 2) rfl rfl<|fun x5 r_12 p15 c15=>jdn<|jd2 7 9 (jar (.f rfl) 3 1 rfl (gk 5) rfl rfl<|fun x6 r_13 p16 c16=>jdn<|jdp 8 (.agg #[sv p15 x5 c15, .slice none 0 0, sv p16 x6 c16]) rfl<|
  jro e_Rule 78<|jd1 9<|jal (.f rfl) (.agg #[.slice none 0 0, .slice none 0 0, .slice none 0 0])<|fun b7=>jdn<|jd1 10<|jso (o := 0) (.f rfl) 5 rfl rfl rfl<|jdn<|jde<|
  jnn (gv (fun _ k=>k b7 p15 c15 r_12 none 0 [] p16 c16 r_13) [0,1,5,2,4,3] ⟨gk 2,gk 0,gk 1,gk 5,gk 6,gk 7,⟨⟩⟩)) <|jal (.f rfl) (.agg #[.slice none 0 0, .slice none 0 0, .slice none 0 0])<|fun b8=>jdn<|jd1 7<|
  jar (.f rfl) 3 1 rfl (gk 5) rfl rfl<|fun x7 r_14 p17 c17=>jdn<|jdp 8 (.agg #[sv p15 x5 c15, .slice none 0 0, sv p17 x7 c17]) rfl<|jro e_Rule 78<|jd1 10<|jso (o := 0) (.f rfl) 4 rfl rfl rfl<|jdn<|jde<|
  jnn (gv (fun _ k=>k b8 p15 c15 r_12 none 0 [] p17 c17 r_14) [0,1,4,2,5,3] ⟨gk 2,gk 0,gk 1,gk 5,gk 6,gk 7,⟨⟩⟩)) <|jal (.f rfl) (.agg #[.slice none 0 0, .slice none 0 0, .slice none 0 0])<|fun b9=>jdn<|jd1 3<|
  jar (.f rfl) 2 1 rfl (gk 2) rfl rfl<|fun x8 r_15 p18 c18=>jdn<|jd1 7<|jar (.f rfl) 3 1 rfl (gk 5) rfl rfl<|fun x9 r_16 p19 c19=>jdn<|jdp 8 (.agg #[sv p18 x8 c18, .slice none 0 0, sv p19 x9 c19]) rfl<|jro e_Rule 78<|jd1 10<|
  jso (o := 0) (.f rfl) 4 rfl rfl rfl<|jdn<|jde<|jnn (gv (fun _ k=>k b9 p18 c18 r_15 none 0 [] p19 c19 r_16) [0,1,4,2,5,3] ⟨gk 2,gk 0,gk 1,gk 5,gk 6,gk 7,⟨⟩⟩)) <|jal (.f rfl) (.agg #[.slice none 0 0, .slice none 0 0, .slice none 0 0])<|
  fun b10=>jdn<|jd2 3 4 (jar (.f rfl) 2 0 rfl (gk 1) rfl rfl<|fun x10 r_17 p20 c20=>jdn<|jd1 4<|jbo (.f rfl) (e := e_Promotion) 80 [] ([] : List T_Promotion) rN<|fun r_18 p21 c21=>jdn<|jd1 7<|jar (.f rfl) 4 0 rfl (gk 5) rfl rfl<|
  fun x11 r_19 p22 c22=>jdn<|jdp 8 (.agg #[sv p20 x10 c20, .slice none 0 0, sv p22 x11 c22]) rfl<|jro e_Rule 78<|jd1 10<|jso (o := 0) (.f rfl) 3 rfl rfl rfl<|jdn<|jde<|
  jnn (gv (fun _ k=>k b10 p20 c20 r_17 none 0 [] p22 c22 r_19) [0,1,3,2,5,4] ⟨gk 3,gk 0,gk 1,gk 5,gk 6,gk 7,⟨⟩⟩)) <|jbo (.f rfl) (e := e_Promotion) 80 [] ([] : List T_Promotion) rN<|fun r_20 p23 c23=>jdn<|jd1 3<|
  jar (.f rfl) 2 1 rfl (gk 2) rfl rfl<|fun x12 r_21 p24 c24=>jdn<|jd1 7<|jar (.f rfl) 4 1 rfl (gk 5) rfl rfl<|fun x13 r_22 p25 c25=>jdn<|jdp 8 (.agg #[sv p24 x12 c24, .slice none 0 0, sv p25 x13 c25]) rfl<|jro e_Rule 78<|jd1 10<|
  jso (o := 0) (.f rfl) 3 rfl rfl rfl<|jdn<|jde<|jnn (gv (fun _ k=>k b10 p24 c24 r_21 none 0 [] p25 c25 r_22) [0,1,3,2,5,4] ⟨gk 2,gk 0,gk 1,gk 5,gk 6,gk 7,⟨⟩⟩)) (jbo (.f rfl) (e := e_Promotion) 80 [] ([] : List T_Promotion) rN<|
  fun r_23 p26 c26=>jdn<|jd2 0 9 (jbo (.f rfl) (e := e_Premise) 74 [] ([] : List T_Premise) rN<|fun r_24 p27 c27=>jdn<|jd2 3 9 (jar (.f rfl) 3 0 rfl (gk 2) rfl rfl<|fun x14 r_25 p28 c28=>jdn<|jd2 7 9 (jar (.f rfl) 2 2 rfl (gk 5) rfl rfl<|
  fun x15 r_26 p29 c29=>jdn<|jdp 8 (.agg #[sv p28 x14 c28, .slice none 0 0, sv p29 x15 c29]) rfl<|jro e_Rule 78<|jd1 9<|jal (.f rfl) (.agg #[.slice none 0 0, .slice none 0 0, .slice none 0 0])<|fun b11=>jdn<|jd1 10<|
  jso (o := 0) (.f rfl) 5 rfl rfl rfl<|jdn<|jde<|jnn (gv (fun _ k=>k b11 p28 c28 r_25 none 0 [] p29 c29 r_26) [0,1,5,3,4,2] ⟨gk 2,gk 0,gk 1,gk 5,gk 6,gk 7,⟨⟩⟩)) <|jal (.f rfl) (.agg #[.slice none 0 0, .slice none 0 0, .slice none 0 0])<|
  fun b12=>jdn<|jd1 7<|jar (.f rfl) 2 2 rfl (gk 5) rfl rfl<|fun x16 r_27 p30 c30=>jdn<|jdp 8 (.agg #[sv p28 x14 c28, .slice none 0 0, sv p30 x16 c30]) rfl<|jro e_Rule 78<|jd1 10<|jso (o := 0) (.f rfl) 4 rfl rfl rfl<|jdn<|jde<|
  jnn (gv (fun _ k=>k b12 p28 c28 r_25 none 0 [] p30 c30 r_27) [0,1,4,3,5,2] ⟨gk 2,gk 0,gk 1,gk 5,gk 6,gk 7,⟨⟩⟩)) <|jal (.f rfl) (.agg #[.slice none 0 0, .slice none 0 0, .slice none 0 0])<|fun b13=>jdn<|jd1 3<|
  jar (.f rfl) 3 0 rfl (gk 2) rfl rfl<|fun x17 r_28 p31 c31=>jdn<|jd1 7<|jar (.f rfl) 2 2 rfl (gk 5) rfl rfl<|fun x18 r_29 p32 c32=>jdn<|jdp 8 (.agg #[sv p31 x17 c31, .slice none 0 0, sv p32 x18 c32]) rfl<|jro e_Rule 78<|jd1 10<|
  jso (o := 0) (.f rfl) 4 rfl rfl rfl<|jdn<|jde<|jnn (gv (fun _ k=>k b13 p31 c31 r_28 none 0 [] p32 c32 r_29) [0,1,4,3,5,2] ⟨gk 2,gk 0,gk 1,gk 5,gk 6,gk 7,⟨⟩⟩)) <|jal (.f rfl) (.agg #[.slice none 0 0, .slice none 0 0, .slice none 0 0])<|
  fun b14=>jdn<|jd1 0<|jbo (.f rfl) (e := e_Premise) 74 [] ([] : List T_Premise) rN<|fun r_30 p33 c33=>jdn<|jd1 3<|jar (.f rfl) 4 0 rfl (gk 2) rfl rfl<|fun x19 r_31 p34 c34=>jdn<|jd1 7<|jar (.f rfl) 2 2 rfl (gk 5) rfl rfl<|
  fun x20 r_32 p35 c35=>jdn<|jdp 8 (.agg #[sv p34 x19 c34, .slice none 0 0, sv p35 x20 c35]) rfl<|jro e_Rule 78<|jd1 10<|jso (o := 0) (.f rfl) 3 rfl rfl rfl<|jdn<|jde<|
  jnn (gv (fun _ k=>k b14 p34 c34 r_31 none 0 [] p35 c35 r_32) [0,1,3,4,5,2] ⟨gk 2,gk 0,gk 1,gk 5,gk 6,gk 7,⟨⟩⟩)) <|jal (.f rfl) (.agg #[.slice none 0 0, .slice none 0 0, .slice none 0 0])<|fun b15=>jdn<|jd2 0 4 (
  jbo (.f rfl) (e := e_Premise) 74 [] ([] : List T_Premise) rN<|fun r_33 p36 c36=>jdn<|jd2 3 4 (jar (.f rfl) 3 0 rfl (gk 1) rfl rfl<|fun x21 r_34 p37 c37=>jdn<|jd1 4<|jbo (.f rfl) (e := e_Promotion) 80 [] ([] : List T_Promotion) rN<|
  fun r_35 p38 c38=>jdn<|jd1 7<|jar (.f rfl) 4 0 rfl (gk 5) rfl rfl<|fun x22 r_36 p39 c39=>jdn<|jdp 8 (.agg #[sv p37 x21 c37, .slice none 0 0, sv p39 x22 c39]) rfl<|jro e_Rule 78<|jd1 10<|jso (o := 0) (.f rfl) 2 rfl rfl rfl<|jdn<|jde<|
  jnn (gv (fun _ k=>k b15 p37 c37 r_34 none 0 [] p39 c39 r_36) [0,1,2,3,5,4] ⟨gk 3,gk 0,gk 1,gk 5,gk 6,gk 7,⟨⟩⟩)) <|jbo (.f rfl) (e := e_Promotion) 80 [] ([] : List T_Promotion) rN<|fun r_37 p40 c40=>jdn<|jd1 3<|
  jar (.f rfl) 3 1 rfl (gk 2) rfl rfl<|fun x23 r_38 p41 c41=>jdn<|jd1 7<|jar (.f rfl) 4 1 rfl (gk 5) rfl rfl<|fun x24 r_39 p42 c42=>jdn<|jdp 8 (.agg #[sv p41 x23 c41, .slice none 0 0, sv p42 x24 c42]) rfl<|jro e_Rule 78<|jd1 10<|
  jso (o := 0) (.f rfl) 2 rfl rfl rfl<|jdn<|jde<|jnn (gv (fun _ k=>k b15 p41 c41 r_38 none 0 [] p42 c42 r_39) [0,1,2,3,5,4] ⟨gk 2,gk 0,gk 1,gk 5,gk 6,gk 7,⟨⟩⟩)) <|jbo (.f rfl) (e := e_Promotion) 80 [] ([] : List T_Promotion) rN<|
  fun r_40 p43 c43=>jdn<|jd1 0<|jbo (.f rfl) (e := e_Premise) 74 [] ([] : List T_Premise) rN<|fun r_41 p44 c44=>jdn<|jd1 3<|jar (.f rfl) 4 0 rfl (gk 2) rfl rfl<|fun x25 r_42 p45 c45=>jdn<|jd1 7<|jar (.f rfl) 3 2 rfl (gk 5) rfl rfl<|
  fun x26 r_43 p46 c46=>jdn<|jdp 8 (.agg #[sv p45 x25 c45, .slice none 0 0, sv p46 x26 c46]) rfl<|jro e_Rule 78<|jd1 10<|jso (o := 0) (.f rfl) 2 rfl rfl rfl<|jdn<|jde<|
  jnn (gv (fun _ k=>k b15 p45 c45 r_42 none 0 [] p46 c46 r_43) [0,1,2,4,5,3] ⟨gk 2,gk 0,gk 1,gk 5,gk 6,gk 7,⟨⟩⟩))<|fun s1 _ k b3 p4 c4 r_1 p5 c5 r_2 p6 c6 r_3=>k<|
  jjn (fun s2 K=>∀ p47 c47 r_44,K [(2, pt b2 0), (3, pt b3 0)] [[], bx b2 32 [.slice none 0 0, .slice none 0 0, .slice none 0 0], bx b3 32 [sv p4 s1.1 c4, sv p47 s2 c47, sv p6 s1.2.2 c6], r_1, r_44, r_3] [Al e_Rule 78 r_44 p47 c47 s2, Al e_Premise 74 r_1 p4 c4 s1.1, Al e_Promotion 80 r_3 p6 c6 s1.2.2]) (
  jsr<|jpc 1 rfl<|jot<|jbk<|
  jlp (fun s3 K=>∀ p48 c48 r_45,K [(1, pt b1 0), (2, pt b2 0), (3, pt b3 0), (4, vi s3.1)] [bx b1 32 [sv p1 y0.1 c1, sv p2 y0.2.1 c2, sv p3 y0.2.2 c3], bx b2 32 [.slice none 0 0, .slice none 0 0, .slice none 0 0], bx b3 32 [sv p4 s1.1 c4, sv p48 s3.2 c48, sv p6 s1.2.2 c6], r_1, r_45, r_3] [Al e_Rule 78 r_45 p48 c48 s3.2, Rl e_Premise p1 c1 y0.1, Rl e_Rule p2 c2 y0.2.1, Rl e_Promotion p3 c3 y0.2.2, Al e_Premise 74 r_1 p4 c4 s1.1, Al e_Promotion 80 r_3 p6 c6 s1.2.2]) (gv (fun _ k=>k p5 c5 r_2) [0,1,2,3,4,5] ⟨gk 1,gk 3,gk 4,gk 5,gk 0,gk 2,⟨⟩⟩)<|
  fun s3 _ k p48 c48 r_45=>k<|jsq<|jsr<|jpc 1 rfl<|jfa 1 rfl<|jlo 0 rfl rfl rfl<|jpc 2 rfl<|jot<|jif rfl (jsk<|jtn<|jsq<|jbk<|jsr<|jfa 1 rfl<|jlo 0 rfl rfl rfl<|jpc 1 rfl<|jix 2 rfl rfl rfl<|fun x27 b16 o1=>jld true o_Rule (gk 0) rfl<|
  fun p49 c49=>jal .s (.agg #[vs [], vb false, vi 0, .slice none 0 0, vb false, vs []])<|fun b17=>jso .s 6 rfl rfl rfl<|jot<|jsr<|jbo .s (e := e_Literal) 51 [] ([] : List T_Literal) rN<|fun r_46 p50 c50=>jfa 3 rfl<|jlo 6 rfl rfl rfl<|
  jar .s 7 0 rfl (gk 1) rfl rfl<|fun x28 r_47 p51 c51=>jfa 3 rfl<|jso .s 6 rfl rfl rfl<|jot<|jrg<|jfa 1 rfl<|jlo 2 rfl rfl rfl<|jla 6 6 rfl rfl rfl<|jsh 7 0 rfl rfl<|
  jbs .s (e := e_Rule) 78 [vs x27.1, vb x27.2.1, vi x27.2.2.1, sv p51 x28 c51, vb x27.2.2.2.2.1, vs x27.2.2.2.2.2] ([(x27.1, x27.2.1, x27.2.2.1, x28, x27.2.2.2.2)] : List T_Rule) (rC (vP vS (vP vB (vP vI (vP (vL (gk 0)) (vP vB vS))))) rN)<|
  fun p52 c52=>jar .s 4 6 rfl (gk 0) rfl rfl<|fun x29 r_48 p53 c53=>jfa 1 rfl<|jso .s 2 rfl rfl rfl<|joe<|jbn<|jtn<|jrg<|jpc 3 rfl<|joe<|jln (gv (fun _ k=>k p53 c53 r_48) [0,1,2,3,4,5] ⟨gk 0,gk 8,gk 9,gk 10,gk 11,gk 12,⟨⟩⟩))<|jxe<|jte<|jle<|
  jbh<|jnn (gv (fun _ k=>k p48 c48 r_45) [900,1,2,3,4,5] ⟨gk 0,gk 4,gk 5,⟨⟩⟩))<|fun s2 _ k p47 c47 r_44=>k<|jsr<|jla 2 3 rfl rfl rfl<|jso .s 1 rfl rfl rfl<|jot<|jxr<|jsh 3 1 rfl rfl<|jsh 5 3 rfl rfl<|
  jrg' rfl (lC 1 (.agg #[sv p4 s1.1 c4, sv p47 s2 c47, sv p6 s1.2.2 c6]) rfl rfl lN) (fun _ k=>k p4 c4 p47 c47 r_44 p6 c6) [4] ⟨gk 1,gk 2,gk 0,⟨⟩⟩

theorem c_ref05_Promote {qd : Prop} {y0 : T_Base} {y1 : List T_Literal} : Con qd Tryz.prog 22 [.agg #[sv p1 y0.1 c1, sv p2 y0.2.1 c2, sv p3 y0.2.2 c3], sv p4 y1 c4] [] [Rl e_Premise p1 c1 y0.1, Rl e_Rule p2 c2 y0.2.1, Rl e_Promotion p3 c3 y0.2.2, Rl e_Literal p4 c4 y1] (m_ref05_Promote y0 y1) fun r K=>∀ p5 c5 p6 c6 p7 c7,K (.agg #[sv p5 r.1 c5, sv p6 r.2.1 c6, sv p7 r.2.2 c7]) [] [Rl e_Premise p5 c5 r.1, Rl e_Rule p6 c6 r.2.1, Rl e_Promotion p7 c7 r.2.2] :=
 ent3 Tryz.call22 Tryz.func22 rfl fun X=>jsr<|jbx .s rfl<|fun b1=>jal .s (.agg #[.slice none 0 0, .slice none 0 0, .slice none 0 0])<|fun b2=>jot<|jsr<|jla 0 3 rfl rfl rfl<|jcl c_ref05_Copy rfl ⟨ck 0,ck 1,ck 2,⟨⟩⟩<|fun r1 _ k p5 c5 p6 c6 r_1 p7 c7=>k<|
  jal .s (.agg #[.slice none 0 0, .slice none 0 0, .slice none 0 0])<|fun b3=>jso .s 3 rfl rfl rfl<|jot<|
  jjn (fun s1 K=>∀ p8 c8 r_2,K [(4, pt b2 0), (5, pt b3 0)] [[], bx b2 32 [.slice none 0 0, .slice none 0 0, .slice none 0 0], r_2, bx b3 32 [sv p5 r1.1 c5, sv p8 s1 c8, sv p7 r1.2.2 c7]] [Al e_Rule 78 r_2 p8 c8 s1, Rl e_Premise p5 c5 r1.1, Rl e_Promotion p7 c7 r1.2.2]) (
  jsr<|jpc 1 rfl<|jot<|jbk<|
  jlp (fun s2 K=>∀ p9 c9 r_3,K [(1, sv p4 y1 c4), (2, pt b1 0), (4, pt b2 0), (5, pt b3 0), (6, vi s2.1)] [bx b1 32 [sv p1 y0.1 c1, sv p2 y0.2.1 c2, sv p3 y0.2.2 c3], bx b2 32 [.slice none 0 0, .slice none 0 0, .slice none 0 0], r_3, bx b3 32 [sv p5 r1.1 c5, sv p9 s2.2 c9, sv p7 r1.2.2 c7]] [Al e_Rule 78 r_3 p9 c9 s2.2, Rl e_Literal p4 c4 y1, Rl e_Premise p1 c1 y0.1, Rl e_Rule p2 c2 y0.2.1, Rl e_Promotion p3 c3 y0.2.2, Rl e_Premise p5 c5 r1.1, Rl e_Promotion p7 c7 r1.2.2]) (gv (fun _ k=>k p6 c6 r_1) [0,1,2,3] ⟨gk 1,gk 6,gk 3,gk 4,gk 5,gk 0,gk 2,⟨⟩⟩)<|
  fun s2 _ k p9 c9 r_3=>k<|jsq<|jsr<|jpc 1 rfl<|jfa 1 rfl<|jlo 3 rfl rfl rfl<|jpc 2 rfl<|jot<|jif rfl (jsk<|jtn<|jsq<|jbk<|jsr<|jpc 1 rfl<|jot<|jbk<|
  jlp (fun s3 K=>∀ p10 c10 r_4,K [(1, sv p4 y1 c4), (2, pt b1 0), (4, pt b2 0), (5, pt b3 0), (6, vi s2.1), (7, vi s3.1)] [bx b1 32 [sv p1 y0.1 c1, sv p2 y0.2.1 c2, sv p3 y0.2.2 c3], bx b2 32 [.slice none 0 0, .slice none 0 0, .slice none 0 0], r_4, bx b3 32 [sv p5 r1.1 c5, sv p10 s3.2 c10, sv p7 r1.2.2 c7]] [Al e_Rule 78 r_4 p10 c10 s3.2, Rl e_Literal p4 c4 y1, Rl e_Premise p1 c1 y0.1, Rl e_Rule p2 c2 y0.2.1, Rl e_Promotion p3 c3 y0.2.2, Rl e_Premise p5 c5 r1.1, Rl e_Promotion p7 c7 r1.2.2]) (gv (fun _ k=>k p9 c9 r_3) [0,1,2,3] ⟨gk 0,gk 1,gk 2,gk 3,gk 4,gk 5,gk 6,⟨⟩⟩)<|
  fun s3 _ k p10 c10 r_4=>k<|jsq<|jsr<|jpc 1 rfl<|jfa 2 rfl<|jlo 0 rfl rfl rfl<|jpc 2 rfl<|jot<|jif rfl (jsk<|jtn<|jsq<|jbk<|jsr<|jfa 2 rfl<|jlo 0 rfl rfl rfl<|jpc 1 rfl<|jix 4 rfl rfl rfl<|fun x1 b4 o1=>jld true o_Promotion (gk 0) rfl<|
  jal .s (.agg #[vs [], vi 0, vb false, vs []])<|fun b5=>jso .s 4 rfl rfl rfl<|jot<|
  jjn (fun s4 K=>K [(1, sv p4 y1 c4), (2, pt b1 0), (4, pt b2 0), (5, pt b3 0), (6, vi s2.1), (7, vi s3.1), (8, pt b5 0), (53, vb s4)] [bx b1 32 [sv p1 y0.1 c1, sv p2 y0.2.1 c2, sv p3 y0.2.2 c3], bx b2 32 [.slice none 0 0, .slice none 0 0, .slice none 0 0], r_4, bx b3 32 [sv p5 r1.1 c5, sv p10 s3.2 c10, sv p7 r1.2.2 c7], bx b5 80 [vs x1.1, vi x1.2.1, vb x1.2.2.1, vs x1.2.2.2]] [Rl e_Literal p4 c4 y1, Rl e_Premise p1 c1 y0.1, Rl e_Rule p2 c2 y0.2.1, Rl e_Promotion p3 c3 y0.2.2, Rl e_Premise p5 c5 r1.1, Al e_Rule 78 r_4 p10 c10 s3.2, Rl e_Promotion p7 c7 r1.2.2]) (
  jdS [] [2, 3, 4] 24<|jdf 0 0 rfl rfl<|jdo 1 4 rfl rfl rfl rfl<|jdf 2 1 rfl rfl<|jdo 3 3 rfl rfl rfl rfl<|jdc 19 [4] rfl<|jdI 5 1 rfl rfl rfl rfl<|fun x2 h1 b6 hp1=>jdf 6 0 rfl rfl<|jdL 7 2 1 sI.fst false oS rfl rfl hp1 h1 rfl<|
  jdc 14 [8,9] rfl<|jsg 39 rfl (jdf 10 1 rfl rfl<|jdo 11 3 rfl rfl rfl rfl<|jdc 11 [12] rfl<|jdI 13 1 rfl rfl rfl rfl<|fun x3 h2 b7 hp2=>jdf 14 1 rfl rfl<|jdL 15 2 1 sI.snd.fst false oB rfl rfl hp2 h2 rfl<|jdc 7 [16] rfl<|
  jdp 17 (vb (!x3.2.1)) rfl<|jdc 5 [18] rfl<|jsg 48 rfl (jdc 4 [19] rfl<|jdf 20 2 rfl rfl<|jda 21 4 2 rfl rfl rfl rfl<|jd1 22<|jca (.f rfl) [] [] c_ref01_Has rfl rfl rfl ⟨ck 2,⟨⟩⟩<|fun r2 _ k=>k<|jdn<|jdp 23 (vb r2) rfl<|jde<|
  jnn (gv (fun _ k=>k) [0,1,2,3,4] ⟨gk 2,gk 3,gk 4,gk 5,gk 6,gk 1,gk 7,⟨⟩⟩))<|jdc 1 [19,20,21,22] rfl<|jdp 23 (vb false) rfl<|jde<|jnn (gv (fun _ k=>k) [0,1,2,3,4] ⟨gk 2,gk 3,gk 4,gk 5,gk 6,gk 1,gk 7,⟨⟩⟩))<|jdc 7 [10,11,12,13,14,15,16] rfl<|
  jdp 17 (vb false) rfl<|jdc 1 [18,19,20,21,22] rfl<|jdp 23 (vb false) rfl<|jde<|jnn (gv (fun _ k=>k) [0,1,2,3,4] ⟨gk 2,gk 3,gk 4,gk 5,gk 6,gk 1,gk 7,⟨⟩⟩))<|fun s4 _ k=>k<|jif rfl (jrg<|jfa 1 rfl<|jlo 3 rfl rfl rfl<|jpc 1 rfl<|jfa 1 rfl<|
  jlo 4 rfl rfl rfl<|jia 5 rfl rfl rfl<|fun x4 h3 b8 hp3=>jfa 2 rfl<|jsA .s 2 5 sI.snd.snd.fst x1.2.1 false rfl hp3 h3 rfl rfl vI<|fun r_5=>joe<|jbn<|jtn<|jrg<|jpc 3 rfl<|joe<|
  jbL (fun q_=>[bx b1 32 [sv p1 y0.1 c1, sv p2 y0.2.1 c2, sv p3 y0.2.2 c3], bx b2 32 [.slice none 0 0, .slice none 0 0, .slice none 0 0], r_5, bx b3 32 [sv p5 r1.1 c5, .slice p10 q_ c10, sv p7 r1.2.2 c7], bx b5 80 [vs x1.1, vi x1.2.1, vb x1.2.2.1, vs x1.2.2.2]]) (gk 0) rfl<|
  jln (gv (fun _ k=>k p10 c10 r_5) [0,1,2,3] ⟨gk 0,gk 2,gk 3,gk 4,gk 5,gk 6,gk 8,⟨⟩⟩))<|jsk<|jbn<|jtn<|jrg<|jpc 3 rfl<|joe<|jln (gv (fun _ k=>k p10 c10 r_4) [0,1,2,3] ⟨gk 5,gk 0,gk 1,gk 2,gk 3,gk 4,gk 6,⟨⟩⟩))<|jxe<|jte<|jle<|jbh<|jbn<|jtn<|
  jrg<|jpc 3 rfl<|joe<|jln (gv (fun _ k=>k p10 c10 r_4) [0,1,2,3] ⟨gk 0,gk 1,gk 2,gk 3,gk 4,gk 5,gk 6,⟨⟩⟩))<|jxe<|jte<|jle<|jbh<|jnn (gv (fun _ k=>k p9 c9 r_3) [900,1,2,3] ⟨gk 0,gk 5,gk 6,⟨⟩⟩))<|fun s1 _ k p8 c8 r_2=>k<|jsr<|
  jla 3 3 rfl rfl rfl<|jso .s 1 rfl rfl rfl<|jot<|jxr<|jsh 2 0 rfl rfl<|jrg' rfl (lC 1 (.agg #[sv p5 r1.1 c5, sv p8 s1 c8, sv p7 r1.2.2 c7]) rfl rfl lN) (fun _ k=>k p5 c5 p8 c8 p7 c7) [] ⟨gk 2,gk 0,gk 3,⟨⟩⟩

theorem c_ref05_Find {qd : Prop} {y0 : T_Base} {y1 : Str} : Con qd Tryz.prog 64 [.agg #[sv p1 y0.1 c1, sv p2 y0.2.1 c2, sv p3 y0.2.2 c3], vs y1] [] [Rl e_Premise p1 c1 y0.1, Rl e_Rule p2 c2 y0.2.1, Rl e_Promotion p3 c3 y0.2.2] (m_ref05_Find y0 y1) fun r K=>K (vi r) [] [] :=
 ent3 Tryz.call64 Tryz.func64 rfl fun X=>jsr<|jbx .s rfl<|fun b1=>jpc 1 rfl<|jot<|jsq<|jsr<|jpc 1 rfl<|jot<|jbk<|
  jlp (fun s1 K=>K [(1, vs y1), (2, pt b1 0), (5, vi s1)] [bx b1 32 [sv p1 y0.1 c1, sv p2 y0.2.1 c2, sv p3 y0.2.2 c3]] [Rl e_Premise p1 c1 y0.1, Rl e_Rule p2 c2 y0.2.1, Rl e_Promotion p3 c3 y0.2.2]) (gv (fun _ k=>k) [0] ⟨gk 0,gk 1,gk 2,⟨⟩⟩)<|
  fun s1 _ k=>k<|jsq<|jsr<|jpc 1 rfl<|jfa 1 rfl<|jlo 0 rfl rfl rfl<|jpc 2 rfl<|jot<|jif rfl (jsk<|jtn<|jsq<|jbk<|jsr<|jfa 1 rfl<|jlo 0 rfl rfl rfl<|jpc 1 rfl<|jix 1 rfl rfl rfl<|fun x1 b2 o1=>jfa 0 rfl<|jld false oS (gf (gk 0)) rfl<|
  jpc 2 rfl<|jot<|jif rfl (jsr<|jpc 2 rfl<|jot<|jxr<|jbr<|jtr<|jlr<|jbr<|jtr<|jr1 rfl rfl (fun _ k=>k) [] ⟨⟩)<|jsk<|jbn<|jtn<|jrg<|jpc 3 rfl<|joe<|jln (gv (fun _ k=>k) [0] ⟨gk 1,gk 2,gk 3,⟨⟩⟩))<|jxe<|jte<|jle<|jbh<|jtn<|jsr<|jpc 1 rfl<|jot<|
  jxr<|jr1 rfl rfl (fun _ k=>k) [] ⟨⟩

theorem c_ref05_Premise {qd : Prop} {y0 : T_Base} {y1 : T_Literal} : Con qd Tryz.prog 62 [.agg #[sv p1 y0.1 c1, sv p2 y0.2.1 c2, sv p3 y0.2.2 c3], .agg #[vb y1.1, vs y1.2]] [] [Rl e_Premise p1 c1 y0.1, Rl e_Rule p2 c2 y0.2.1, Rl e_Promotion p3 c3 y0.2.2] (m_ref05_Premise y0 y1) fun r K=>K (vi r) [] [] :=
 ent3 Tryz.call62 Tryz.func62 rfl fun X=>jsr<|jbx .s rfl<|fun b1=>jbx .s rfl<|fun b2=>jpc 1 rfl<|jot<|jsq<|jsr<|jpc 1 rfl<|jot<|jbk<|
  jlp (fun s1 K=>K [(2, pt b1 0), (3, pt b2 0), (5, vi s1)] [bx b1 32 [sv p1 y0.1 c1, sv p2 y0.2.1 c2, sv p3 y0.2.2 c3], bx b2 51 [vb y1.1, vs y1.2]] [Rl e_Premise p1 c1 y0.1, Rl e_Rule p2 c2 y0.2.1, Rl e_Promotion p3 c3 y0.2.2]) (gv (fun _ k=>k) [0,1] ⟨gk 0,gk 1,gk 2,⟨⟩⟩)<|
  fun s1 _ k=>k<|jsq<|jsr<|jpc 1 rfl<|jfa 0 rfl<|jlo 0 rfl rfl rfl<|jpc 2 rfl<|jot<|jif rfl (jsk<|jtn<|jsq<|jbk<|jds [] [0, 1] 8<|jdf 0 0 rfl rfl<|jdo 1 0 rfl rfl rfl rfl<|jdc 5 [2] rfl<|jdi 3 0 rfl rfl rfl rfl<|fun x1 b3 o1=>
  jdf 4 0 rfl rfl<|jdl 5 true o_Literal rfl (gf (gk 0)) rfl<|jda 6 1 2 rfl rfl rfl rfl<|jdp 7 (vb (x1.1 == y1)) rfl<|jde<|jtn<|jif rfl (jsr<|jpc 2 rfl<|jot<|jxr<|jbr<|jtr<|jlr<|jbr<|jtr<|jr1 rfl rfl (fun _ k=>k) [] ⟨⟩)<|jsk<|jbn<|jtn<|jrg<|
  jpc 3 rfl<|joe<|jln (gv (fun _ k=>k) [0,1] ⟨gk 1,gk 2,gk 3,⟨⟩⟩))<|jxe<|jte<|jle<|jbh<|jtn<|jsr<|jpc 1 rfl<|jot<|jxr<|jr1 rfl rfl (fun _ k=>k) [] ⟨⟩

theorem c_ref05_rank {qd : Prop} {y0 : Int} : Con qd Tryz.prog 65 [vi y0] [] [] (m_ref05_rank y0) fun r K=>K (vb r) [] [] :=
 ent3 Tryz.call65 Tryz.func65 rfl fun X=>jsr<|jpc 1 rfl<|jot<|jjp (fun K=>K [(2, vb ((decide (0 ≤ y0)) && (decide (y0 ≤ 9))))] [] []) (jrg<|jpc 3 rfl<|jsp (b := decide (0 ≤ y0)) 5 rfl (fun hb1=>jpc 2 rfl<|jpe (vb (decide (y0 ≤ 9)))<|jpc 1 rfl<|joe<|
  jup 2 (vb ((decide (0 ≤ y0)) && (decide (y0 ≤ 9)))) rfl (by rw [hb1]; rfl)<|jnn (gv (fun _ k=>k) [] ⟨⟩))<|fun hb1=>jpc 2 rfl<|jpe (vb false)<|jpc 1 rfl<|joe<|jup 2 (vb ((decide (0 ≤ y0)) && (decide (y0 ≤ 9)))) rfl (by rw [hb1]; rfl)<|
  jnn (gv (fun _ k=>k) [] ⟨⟩))<|fun _ k=>k<|jxr<|jr1 rfl rfl (fun _ k=>k) [] ⟨⟩

theorem c_ref05_premise {qd : Prop} {y0 : T_Premise} : Con qd Tryz.prog 61 [.agg #[vb y0.1.1, vs y0.1.2, vi y0.2.1, vi y0.2.2.1, vs y0.2.2.2]] [] [] (m_ref05_premise y0) fun r K=>K (vi r) [] [] :=
 ent3 Tryz.call61 Tryz.func61 rfl fun X=>jsr<|jbx .s rfl<|fun b1=>jpc 1 rfl<|jot<|jsq<|jjp (fun K=>K [(1, pt b1 0), (10, vb ((decide (y0.2.1 < 1)) || (decide (3 < y0.2.1))))] [bx b1 74 [vb y0.1.1, vs y0.1.2, vi y0.2.1, vi y0.2.2.1, vs y0.2.2.2]] []) (jrg<|jfa 2 rfl<|
  jlo 0 rfl rfl rfl<|jpc 2 rfl<|jsp (b := decide (y0.2.1 < 1)) 6 rfl (fun hb1=>jpc 3 rfl<|jpe (vb true)<|joe<|jup 10 (vb ((decide (y0.2.1 < 1)) || (decide (3 < y0.2.1)))) rfl (by rw [hb1]; rfl)<|jnn (gv (fun _ k=>k) [0] ⟨⟩))<|fun hb1=>
  jfa 2 rfl<|jlo 0 rfl rfl rfl<|jpc 1 rfl<|jpe (vb (decide (3 < y0.2.1)))<|joe<|jup 10 (vb ((decide (y0.2.1 < 1)) || (decide (3 < y0.2.1)))) rfl (by rw [hb1]; rfl)<|jnn (gv (fun _ k=>k) [0] ⟨⟩))<|fun _ k=>k<|jif rfl (jsr<|jpc 1 rfl<|jot<|
  jxr<|jtr<|jr1 rfl rfl (fun _ k=>k) [] ⟨⟩)<|jsk<|jtn<|jsq<|jjn (fun s1 K=>K [(41, vb s1)] [[]] []) (jrg<|jfa 0 rfl<|jla 0 2 rfl rfl rfl<|jcl c_ref01_Valid rfl ⟨⟩<|fun r1 _ k=>k<|jpc 2 rfl<|jsg 15 rfl (jpc 4 rfl<|jpe (vb true)<|jpc 9 rfl<|
  jpe (vb true)<|jpc 10 rfl<|jpe (vb true)<|joe<|jnn (gv (fun _ k=>k) [900] ⟨⟩))<|jfa 3 rfl<|jlo 0 rfl rfl rfl<|jcl c_ref05_rank rfl ⟨⟩<|fun r2 _ k=>k<|jpc 1 rfl<|jpe (vb (!r2))<|jpc 1 rfl<|jsg 21 rfl (jpc 8 rfl<|jpe (vb true)<|jpc 10 rfl<|
  jpe (vb true)<|joe<|jnn (gv (fun _ k=>k) [900] ⟨⟩))<|jfa 2 rfl<|jlo 0 rfl rfl rfl<|jpc 2 rfl<|jsg 25 rfl (jfa 3 rfl<|jlo 0 rfl rfl rfl<|jpc 1 rfl<|jpe (vb (y0.2.2.1 != 0))<|jpe (vb (y0.2.2.1 != 0))<|jpc 1 rfl<|jsg 31 rfl (jpc 9 rfl<|
  jpe (vb true)<|joe<|jnn (gv (fun _ k=>k) [900] ⟨⟩))<|jfa 4 rfl<|jlo 0 rfl rfl rfl<|jpc 2 rfl<|jsg 35 rfl (jfa 4 rfl<|jlo 0 rfl rfl rfl<|jcl c_ref01_ValidName rfl ⟨⟩<|fun r3 _ k=>k<|jpc 1 rfl<|jpe (vb (!r3))<|jpe (vb (!r3))<|joe<|
  jnn (gv (fun _ k=>k) [900] ⟨⟩))<|jpc 4 rfl<|jpe (vb false)<|jpe (vb false)<|joe<|jnn (gv (fun _ k=>k) [900] ⟨⟩))<|jpc 3 rfl<|jpe (vb false)<|jpe (vb false)<|jpc 1 rfl<|jfa 4 rfl<|jlo 0 rfl rfl rfl<|jpc 2 rfl<|jsg 35 rfl (jfa 4 rfl<|
  jlo 0 rfl rfl rfl<|jcl c_ref01_ValidName rfl ⟨⟩<|fun r4 _ k=>k<|jpc 1 rfl<|jpe (vb (!r4))<|jpe (vb (!r4))<|joe<|jnn (gv (fun _ k=>k) [900] ⟨⟩))<|jpc 4 rfl<|jpe (vb false)<|jpe (vb false)<|joe<|jnn (gv (fun _ k=>k) [900] ⟨⟩))<|fun s1 _ k=>
  k<|jif rfl (jsr<|jpc 1 rfl<|jot<|jxr<|jtr<|jr1 rfl rfl (fun _ k=>k) [] ⟨⟩)<|jsk<|jtn<|jsr<|jpc 1 rfl<|jot<|jxr<|jr1 rfl rfl (fun _ k=>k) [] ⟨⟩

theorem c_ref05_rule {qd : Prop} {y0 : T_Rule} : Con qd Tryz.prog 63 [.agg #[vs y0.1, vb y0.2.1, vi y0.2.2.1, sv p1 y0.2.2.2.1 c1, vb y0.2.2.2.2.1, vs y0.2.2.2.2.2]] [] [Rl e_Literal p1 c1 y0.2.2.2.1] (m_ref05_rule y0) fun r K=>K (vi r) [] [] :=
 ent3 Tryz.call63 Tryz.func63 rfl fun X=>jsr<|jbx .s rfl<|fun b1=>jpc 1 rfl<|jot<|jsq<|jsr<|jfa 3 rfl<|jlo 0 rfl rfl rfl<|jpc 2 rfl<|jot<|jif rfl (jsr<|jpc 1 rfl<|jot<|jxr<|jtr<|jr1 rfl rfl (fun _ k=>k) [] ⟨⟩)<|jsk<|jtn<|
  jjn (fun s1 K=>K [(1, pt b1 0), (3, vb s1)] [bx b1 78 [vs y0.1, vb y0.2.1, vi y0.2.2.1, sv p1 y0.2.2.2.1 c1, vb y0.2.2.2.2.1, vs y0.2.2.2.2.2]] [Rl e_Literal p1 c1 y0.2.2.2.1]) (jrg<|jfa 0 rfl<|jlo 0 rfl rfl rfl<|
  jcl c_ref01_ValidName rfl ⟨⟩<|fun r1 _ k=>k<|jpc 1 rfl<|jsg 13 rfl (jfa 2 rfl<|jlo 0 rfl rfl rfl<|jcl c_ref05_rank rfl ⟨⟩<|fun r2 _ k=>k<|jpe (vb r2)<|jpc 1 rfl<|jsg 18 rfl (jfa 1 rfl<|jlo 0 rfl rfl rfl<|jpc 2 rfl<|jsg 22 rfl (jpc 3 rfl<|
  jpe (vb true)<|jpe (vb true)<|jpc 1 rfl<|jfa 4 rfl<|jla 0 2 rfl rfl rfl<|jcl c_ref01_Valid rfl ⟨⟩<|fun r3 _ k=>k<|jpe (vb r3)<|jpc 1 rfl<|joe<|jnn (gv (fun _ k=>k) [0] ⟨gk 0,⟨⟩⟩))<|jfa 2 rfl<|jlo 0 rfl rfl rfl<|jpc 1 rfl<|
  jpe (vb (y0.2.2.1 == 0))<|jpe (vb (y0.2.2.1 == 0))<|jpc 1 rfl<|jsg 28 rfl (jfa 4 rfl<|jla 0 2 rfl rfl rfl<|jcl c_ref01_Valid rfl ⟨⟩<|fun r4 _ k=>k<|jpe (vb r4)<|jpc 1 rfl<|joe<|jnn (gv (fun _ k=>k) [0] ⟨gk 0,⟨⟩⟩))<|jpc 3 rfl<|
  jpe (vb false)<|jpc 1 rfl<|joe<|jnn (gv (fun _ k=>k) [0] ⟨gk 0,⟨⟩⟩))<|jpc 8 rfl<|jpe (vb false)<|jpc 4 rfl<|jpe (vb false)<|jpc 1 rfl<|joe<|jnn (gv (fun _ k=>k) [0] ⟨gk 0,⟨⟩⟩))<|jpc 3 rfl<|jpe (vb false)<|jpc 9 rfl<|jpe (vb false)<|
  jpc 4 rfl<|jpe (vb false)<|jpc 1 rfl<|joe<|jnn (gv (fun _ k=>k) [0] ⟨gk 0,⟨⟩⟩))<|fun s1 _ k=>k<|
  jjn (fun s2 K=>K [(1, pt b1 0), (3, vb s2)] [bx b1 78 [vs y0.1, vb y0.2.1, vi y0.2.2.1, sv p1 y0.2.2.2.1 c1, vb y0.2.2.2.2.1, vs y0.2.2.2.2.2]] [Rl e_Literal p1 c1 y0.2.2.2.1]) (jsr<|jpc 1 rfl<|jot<|jbk<|
  jlp (fun s3 K=>K [(1, pt b1 0), (3, vb s3.1), (4, vi s3.2)] [bx b1 78 [vs y0.1, vb y0.2.1, vi y0.2.2.1, sv p1 y0.2.2.2.1 c1, vb y0.2.2.2.2.1, vs y0.2.2.2.2.2]] [Rl e_Literal p1 c1 y0.2.2.2.1]) (gv (fun _ k=>k) [0] ⟨gk 0,⟨⟩⟩)<|fun s3 _ k=>
  k<|jsq<|jsr<|jpc 1 rfl<|jfa 3 rfl<|jlo 0 rfl rfl rfl<|jpc 2 rfl<|jot<|jif rfl (jsk<|jtn<|jsq<|jbk<|
  jjc (fun s4 K=>K [(1, pt b1 0), (3, vb s4), (4, vi s3.2)] [bx b1 78 [vs y0.1, vb y0.2.1, vi y0.2.2.1, sv p1 y0.2.2.2.1 c1, vb y0.2.2.2.2.1, vs y0.2.2.2.2.2]] [Rl e_Literal p1 c1 y0.2.2.2.1]) (jrg<|jpc 2 rfl<|jsg 41 rfl (jfa 3 rfl<|
  jlo 0 rfl rfl rfl<|jpc 1 rfl<|jix 0 rfl rfl rfl<|fun x1 b2 o1=>jld true o_Literal (gk 0) rfl<|jcl c_ref01_Valid rfl ⟨⟩<|fun r5 _ k=>k<|jpe (vb r5)<|jpc 1 rfl<|joe<|jnn (gv (fun _ k=>k) [0] ⟨gk 1,⟨⟩⟩))<|jpc 6 rfl<|jpe (vb false)<|jpc 1 rfl<|
  joe<|jnn (gv (fun _ k=>k) [0] ⟨gk 0,⟨⟩⟩))<|fun s4 _ k=>k<|jbn<|jtn<|jrg<|jpc 3 rfl<|joe<|jln (gv (fun _ k=>k) [0] ⟨gk 0,⟨⟩⟩))<|jxe<|jte<|jle<|jbh<|jnn (gv (fun _ k=>k) [0] ⟨gk 0,⟨⟩⟩))<|fun s2 _ k=>k<|jsq<|jsr<|jpc 2 rfl<|jot<|jif rfl (jsr<|
  jpc 1 rfl<|jot<|jxr<|jtr<|jr1 rfl rfl (fun _ k=>k) [] ⟨⟩)<|jsk<|jtn<|jsq<|jsr<|jpc 1 rfl<|jot<|jbk<|
  jlp (fun s5 K=>K [(1, pt b1 0), (5, vi s5)] [bx b1 78 [vs y0.1, vb y0.2.1, vi y0.2.2.1, sv p1 y0.2.2.2.1 c1, vb y0.2.2.2.2.1, vs y0.2.2.2.2.2]] [Rl e_Literal p1 c1 y0.2.2.2.1]) (gv (fun _ k=>k) [0] ⟨gk 0,⟨⟩⟩)<|fun s5 _ k=>k<|jsq<|jsr<|
  jpc 1 rfl<|jfa 3 rfl<|jlo 0 rfl rfl rfl<|jpc 2 rfl<|jot<|jif rfl (jsk<|jtn<|jsq<|jbk<|jds [] [0] 13<|jdf 0 3 rfl rfl<|jdo 1 0 rfl rfl rfl rfl<|jdc 9 [2,3] rfl<|jdi 4 0 rfl rfl rfl rfl<|fun x2 b3 o2=>jdl 5 true o_Literal rfl (gk 0) rfl<|
  jdf 6 3 rfl rfl<|jdo 7 0 rfl rfl rfl rfl<|jdc 4 [8] rfl<|jdi 9 1 rfl rfl rfl rfl<|fun x3 b4 o3=>jdl 10 true o_Literal rfl (gk 0) rfl<|jd1 11<|jca (.f rfl) [] [] c_ref01_Compare rfl rfl rfl ⟨⟩<|fun r6 _ k=>k<|jdn<|jdc 0 [12] rfl<|jde<|jtn<|
  jif rfl (jsr<|jpc 1 rfl<|jot<|jxr<|jbr<|jtr<|jlr<|jbr<|jtr<|jr1 rfl rfl (fun _ k=>k) [] ⟨⟩)<|jsk<|jbn<|jtn<|jrg<|jpc 3 rfl<|joe<|jln (gv (fun _ k=>k) [0] ⟨gk 2,⟨⟩⟩))<|jxe<|jte<|jle<|jbh<|jtn<|jsr<|jpc 1 rfl<|jot<|jxr<|
  jr1 rfl rfl (fun _ k=>k) [] ⟨⟩

theorem c_ref05_Validate {qd : Prop} {y0 : T_Base} : Con qd Tryz.prog 40 [.agg #[sv p1 y0.1 c1, sv p2 y0.2.1 c2, sv p3 y0.2.2 c3]] [] [Rl e_Premise p1 c1 y0.1, Rl e_Rule p2 c2 y0.2.1, Rl e_Promotion p3 c3 y0.2.2] (m_ref05_Validate y0) fun r K=>K (vi r) [] [] :=
 ent3 Tryz.call40 Tryz.func40 rfl fun X=>jsr<|jbx .s rfl<|fun b1=>jpc 1 rfl<|jot<|jsq<|
  jjp (fun K=>K [(1, pt b1 0), (25, vb ((decide (16 < (len y0.1))) || ((decide (24 < (len y0.2.1))) || (decide (8 < (len y0.2.2))))))] [bx b1 32 [sv p1 y0.1 c1, sv p2 y0.2.1 c2, sv p3 y0.2.2 c3]] [Rl e_Premise p1 c1 y0.1, Rl e_Rule p2 c2 y0.2.1, Rl e_Promotion p3 c3 y0.2.2]) (
  jrg<|jfa 0 rfl<|jlo 0 rfl rfl rfl<|jpc 3 rfl<|jsp (b := decide (16 < (len y0.1))) 14 rfl (fun hb1=>jpc 4 rfl<|jpe (vb true)<|jpc 5 rfl<|jpe (vb true)<|joe<|
  jup 25 (vb ((decide (16 < (len y0.1))) || ((decide (24 < (len y0.2.1))) || (decide (8 < (len y0.2.2)))))) rfl (by rw [hb1]; rfl)<|jnn (gv (fun _ k=>k) [0] ⟨gk 0,gk 1,gk 2,⟨⟩⟩))<|fun hb1=>jfa 1 rfl<|jlo 0 rfl rfl rfl<|jpc 2 rfl<|
  jpe (vb (decide (24 < (len y0.2.1))))<|jpc 1 rfl<|jsp (b := decide (24 < (len y0.2.1))) 20 rfl (fun hb2=>jpc 4 rfl<|jpe (vb true)<|joe<|
  jup 25 (vb ((decide (16 < (len y0.1))) || ((decide (24 < (len y0.2.1))) || (decide (8 < (len y0.2.2)))))) rfl (by rw [hb1,hb2]; rfl)<|jnn (gv (fun _ k=>k) [0] ⟨gk 0,gk 1,gk 2,⟨⟩⟩))<|fun hb2=>jfa 2 rfl<|jlo 0 rfl rfl rfl<|jpc 2 rfl<|
  jpe (vb (decide (8 < (len y0.2.2))))<|joe<|jup 25 (vb ((decide (16 < (len y0.1))) || ((decide (24 < (len y0.2.1))) || (decide (8 < (len y0.2.2)))))) rfl (by rw [hb1,hb2]; rfl)<|jnn (gv (fun _ k=>k) [0] ⟨gk 0,gk 1,gk 2,⟨⟩⟩))<|fun _ k=>k<|
  jif rfl (jsr<|jpc 1 rfl<|jot<|jxr<|jtr<|jr1 rfl rfl (fun _ k=>k) [] ⟨⟩)<|jsk<|jtn<|
  jjo (fun s1 K=>K [(1, pt b1 0)] [bx b1 32 [sv p1 y0.1 c1, sv p2 y0.2.1 c2, sv p3 y0.2.2 c3]] [Rl e_Premise p1 c1 y0.1, Rl e_Rule p2 c2 y0.2.1, Rl e_Promotion p3 c3 y0.2.2]) (jsr<|jpc 1 rfl<|jot<|jbk<|
  jlp (fun s2 K=>K [(1, pt b1 0), (3, vi s2)] [bx b1 32 [sv p1 y0.1 c1, sv p2 y0.2.1 c2, sv p3 y0.2.2 c3]] [Rl e_Premise p1 c1 y0.1, Rl e_Rule p2 c2 y0.2.1, Rl e_Promotion p3 c3 y0.2.2]) (gv (fun _ k=>k) [0] ⟨gk 0,gk 1,gk 2,⟨⟩⟩)<|fun s2 _ k=>
  k<|jsq<|jsr<|jpc 1 rfl<|jfa 0 rfl<|jlo 0 rfl rfl rfl<|jpc 2 rfl<|jot<|jif rfl (jsk<|jtn<|jsq<|jbk<|jsq<|jsr<|jfa 0 rfl<|jlo 0 rfl rfl rfl<|jpc 1 rfl<|jix 0 rfl rfl rfl<|fun x1 b2 o1=>jld true o_Premise (gk 0) rfl<|
  jcl c_ref05_premise rfl ⟨⟩<|fun r1 _ k=>k<|jpc 1 rfl<|jot<|jsr<|jpc 2 rfl<|jot<|jif rfl (jsr<|jpc 2 rfl<|jot<|jxr<|jtr<|jbr<|jtr<|jlr<|jbr<|jlr<|jr1 rfl rfl (fun _ k=>k) [] ⟨⟩)<|jsk<|jtn<|jds [] [0] 10<|jda 0 0 3 rfl rfl rfl rfl<|
  jdf 1 0 rfl rfl<|jdo 2 0 rfl rfl rfl rfl<|jdc 6 [3] rfl<|jdi 4 1 rfl rfl rfl rfl<|fun x2 b3 o2=>jdf 5 0 rfl rfl<|jdl 6 true o_Literal rfl (gf (gk 0)) rfl<|jdc 2 [8] rfl<|jd1 7<|
  jca (.f rfl) [] [] c_ref05_Premise rfl rfl rfl ⟨ck 2,ck 3,ck 4,⟨⟩⟩<|fun r2 _ k=>k<|jdn<|jdc 0 [9] rfl<|jde<|jtn<|jif rfl (jsr<|jpc 1 rfl<|jot<|jxr<|jbr<|jtr<|jlr<|jbr<|jlr<|jr1 rfl rfl (fun _ k=>k) [] ⟨⟩)<|jsk<|jbn<|jtn<|jrg<|jpc 3 rfl<|
  joe<|jln (gv (fun _ k=>k) [0] ⟨gk 2,gk 3,gk 4,⟨⟩⟩))<|jxe<|jte<|jle<|jbh<|jln (gv (fun _ k=>k) [0] ⟨gk 0,gk 1,gk 2,⟨⟩⟩))<|fun s1 _ k=>k<|
  jjo (fun s3 K=>K [(1, pt b1 0)] [bx b1 32 [sv p1 y0.1 c1, sv p2 y0.2.1 c2, sv p3 y0.2.2 c3]] [Rl e_Premise p1 c1 y0.1, Rl e_Rule p2 c2 y0.2.1, Rl e_Promotion p3 c3 y0.2.2]) (jsr<|jpc 1 rfl<|jot<|jbk<|
  jlp (fun s4 K=>K [(1, pt b1 0), (5, vi s4)] [bx b1 32 [sv p1 y0.1 c1, sv p2 y0.2.1 c2, sv p3 y0.2.2 c3]] [Rl e_Premise p1 c1 y0.1, Rl e_Rule p2 c2 y0.2.1, Rl e_Promotion p3 c3 y0.2.2]) (gv (fun _ k=>k) [0] ⟨gk 0,gk 1,gk 2,⟨⟩⟩)<|fun s4 _ k=>
  k<|jsq<|jsr<|jpc 1 rfl<|jfa 1 rfl<|jlo 0 rfl rfl rfl<|jpc 2 rfl<|jot<|jif rfl (jsk<|jtn<|jsq<|jbk<|jsq<|jsr<|jfa 1 rfl<|jlo 0 rfl rfl rfl<|jpc 1 rfl<|jix 1 rfl rfl rfl<|fun x3 b4 o3=>jld true o_Rule (gk 0) rfl<|fun p4 c4=>
  jcl c_ref05_rule rfl ⟨ck 0,⟨⟩⟩<|fun r3 _ k=>k<|jpc 1 rfl<|jot<|jsr<|jpc 2 rfl<|jot<|jif rfl (jsr<|jpc 2 rfl<|jot<|jxr<|jtr<|jbr<|jtr<|jlr<|jbr<|jlr<|jr1 rfl rfl (fun _ k=>k) [] ⟨⟩)<|jsk<|jtn<|jds [] [0] 10<|jda 0 0 3 rfl rfl rfl rfl<|
  jdf 1 1 rfl rfl<|jdo 2 0 rfl rfl rfl rfl<|jdc 6 [3] rfl<|jdi 4 3 rfl rfl rfl rfl<|fun x4 b5 o4=>jdf 5 0 rfl rfl<|jdl 6 false oS rfl (gf (gk 0)) rfl<|jdc 2 [8] rfl<|jd1 7<|jca (.f rfl) [] [] c_ref05_Find rfl rfl rfl ⟨ck 3,ck 4,ck 5,⟨⟩⟩<|
  fun r4 _ k=>k<|jdn<|jdc 0 [9] rfl<|jde<|jtn<|jif rfl (jsr<|jpc 1 rfl<|jot<|jxr<|jbr<|jtr<|jlr<|jbr<|jlr<|jr1 rfl rfl (fun _ k=>k) [] ⟨⟩)<|jsk<|jbn<|jtn<|jrg<|jpc 3 rfl<|joe<|jln (gv (fun _ k=>k) [0] ⟨gk 3,gk 4,gk 5,⟨⟩⟩))<|jxe<|jte<|jle<|
  jbh<|jln (gv (fun _ k=>k) [0] ⟨gk 0,gk 1,gk 2,⟨⟩⟩))<|fun s3 _ k=>k<|jsq<|jsr<|jpc 1 rfl<|jot<|jbk<|
  jlp (fun s5 K=>K [(1, pt b1 0), (7, vi s5)] [bx b1 32 [sv p1 y0.1 c1, sv p2 y0.2.1 c2, sv p3 y0.2.2 c3]] [Rl e_Premise p1 c1 y0.1, Rl e_Rule p2 c2 y0.2.1, Rl e_Promotion p3 c3 y0.2.2]) (gv (fun _ k=>k) [0] ⟨gk 0,gk 1,gk 2,⟨⟩⟩)<|fun s5 _ k=>
  k<|jsq<|jsr<|jpc 1 rfl<|jfa 2 rfl<|jlo 0 rfl rfl rfl<|jpc 2 rfl<|jot<|jif rfl (jsk<|jtn<|jsq<|jbk<|jsr<|jfa 2 rfl<|jlo 0 rfl rfl rfl<|jpc 1 rfl<|jix 2 rfl rfl rfl<|fun x5 b6 o5=>jld true o_Promotion (gk 0) rfl<|
  jal .s (.agg #[vs [], vi 0, vb false, vs []])<|fun b7=>jso .s 1 rfl rfl rfl<|jot<|jsq<|
  jjn (fun s6 K=>K [(1, pt b1 0), (7, vi s5), (8, pt b7 0), (99, vb s6)] [bx b1 32 [sv p1 y0.1 c1, sv p2 y0.2.1 c2, sv p3 y0.2.2 c3], bx b7 80 [vs x5.1, vi x5.2.1, vb x5.2.2.1, vs x5.2.2.2]] [Rl e_Premise p1 c1 y0.1, Rl e_Rule p2 c2 y0.2.1, Rl e_Promotion p3 c3 y0.2.2]) (
  jrg<|jfa 1 rfl<|jlo 1 rfl rfl rfl<|jcl c_ref05_rank rfl ⟨⟩<|fun r5 _ k=>k<|jpc 2 rfl<|jsg 94 rfl (jpc 4 rfl<|jpe (vb true)<|joe<|jnn (gv (fun _ k=>k) [0,1] ⟨gk 1,gk 2,gk 3,⟨⟩⟩))<|jfa 2 rfl<|jla 1 2 rfl rfl rfl<|jcl c_ref01_Valid rfl ⟨⟩<|
  fun r6 _ k=>k<|jpc 1 rfl<|jpe (vb (!r6))<|joe<|jnn (gv (fun _ k=>k) [0,1] ⟨gk 1,gk 2,gk 3,⟨⟩⟩))<|fun s6 _ k=>k<|jif rfl (jsr<|jpc 1 rfl<|jot<|jxr<|jtr<|jbr<|jtr<|jlr<|jbr<|jtr<|jr1 rfl rfl (fun _ k=>k) [] ⟨⟩)<|jsk<|jtn<|jsr<|
  jla 0 3 rfl rfl rfl<|jfa 0 rfl<|jlo 1 rfl rfl rfl<|jcl c_ref05_Find rfl ⟨ck 0,ck 1,ck 2,⟨⟩⟩<|fun r7 _ k=>k<|jpc 1 rfl<|jot<|jsq<|jsr<|jpc 2 rfl<|jot<|jif rfl (jsr<|jpc 1 rfl<|jot<|jxr<|jtr<|jbr<|jtr<|jlr<|jbr<|jtr<|
  jr1 rfl rfl (fun _ k=>k) [] ⟨⟩)<|jsk<|jtn<|jsr<|jfa 1 rfl<|jlo 0 rfl rfl rfl<|jpc 1 rfl<|jix 1 rfl rfl rfl<|fun x6 b8 o6=>jfa 1 rfl<|jld false oB (gf (gs (gk 0))) rfl<|jot<|jif rfl (jsr<|jpc 1 rfl<|jot<|jxr<|jbr<|jtr<|jlr<|jbr<|jtr<|
  jr1 rfl rfl (fun _ k=>k) [] ⟨⟩)<|jsk<|jbn<|jtn<|jrg<|jpc 3 rfl<|joe<|jln (gv (fun _ k=>k) [0] ⟨gk 1,gk 2,gk 3,⟨⟩⟩))<|jxe<|jte<|jle<|jbh<|jtn<|jsr<|jpc 1 rfl<|jot<|jxr<|jr1 rfl rfl (fun _ k=>k) [] ⟨⟩

theorem c_ref07_insert {qd : Prop} {y0 : List Int} {y1 : Int} : Con qd Tryz.prog 93 [sv p1 y0 c1, vi y1] [] [Rl (eInt .i64) p1 c1 y0] (m_ref07_insert y0 y1) fun r K=>∀ p2 c2,K (sv p2 r c2) [] [Rl (eInt .i64) p2 c2 r] :=
 ent3 Tryz.call93 Tryz.func93 rfl fun X=>jsr<|jpc 1 rfl<|jot<|jsr<|jpc 1 rfl<|jot<|jjn (fun s1 K=>K [(0, sv p1 y0 c1), (1, vi y1), (5, vi s1)] [] [Rl (eInt .i64) p1 c1 y0]) (jbk<|
  jlp (fun s2 K=>K [(0, sv p1 y0 c1), (1, vi y1), (5, vi s2)] [] [Rl (eInt .i64) p1 c1 y0]) (gv (fun _ k=>k) [] ⟨gk 0,⟨⟩⟩)<|fun s2 _ k=>k<|jsq<|
  jjn (fun s3 K=>K [(0, sv p1 y0 c1), (1, vi y1), (5, vi s2), (18, vb s3)] [] [Rl (eInt .i64) p1 c1 y0]) (jrg<|jpc 5 rfl<|jsg 11 rfl (jpc 2 rfl<|jix 0 rfl rfl rfl<|fun x1 b1 o1=>jld false oI (gk 0) rfl<|jpc 2 rfl<|
  jpe (vb (decide (x1 < y1)))<|joe<|jnn (gv (fun _ k=>k) [] ⟨gk 1,⟨⟩⟩))<|jpc 6 rfl<|jpe (vb false)<|joe<|jnn (gv (fun _ k=>k) [] ⟨gk 0,⟨⟩⟩))<|fun s3 _ k=>k<|jif rfl (jsk<|jtn<|jbk<|jrg<|jpc 3 rfl<|joe<|jbn<|jln (gv (fun _ k=>k) [] ⟨gk 0,⟨⟩⟩)
  )<|jxe<|jte<|jle<|jbh<|jnn (gv (fun _ k=>k) [] ⟨gk 0,⟨⟩⟩))<|fun s1 _ k=>k<|jsq<|jjn (fun s4 K=>K [(0, sv p1 y0 c1), (1, vi y1), (5, vi s1), (32, vb s4)] [] [Rl (eInt .i64) p1 c1 y0]) (jrg<|jpc 5 rfl<|jsg 25 rfl (jpc 2 rfl<|
  jix 0 rfl rfl rfl<|fun x2 b2 o2=>jld false oI (gk 0) rfl<|jpc 2 rfl<|jpe (vb (x2 == y1))<|joe<|jnn (gv (fun _ k=>k) [] ⟨gk 1,⟨⟩⟩))<|jpc 6 rfl<|jpe (vb false)<|joe<|jnn (gv (fun _ k=>k) [] ⟨gk 0,⟨⟩⟩))<|fun s4 _ k=>k<|jif rfl (jsr<|
  jpc 2 rfl<|jot<|jxr<|jtr<|jr1 rfl rfl (fun _ k=>k p1 c1) [] ⟨gk 0,⟨⟩⟩)<|jsk<|jtn<|jsr<|jbo .s (e := eInt .i64) 3 [] ([] : List Int) rN<|fun r_1 p2 c2=>jpc 2 rfl<|jsl (gk 1) rfl rfl rfl (.inl ⟨rfl, rfl⟩) (.inr ⟨_, rfl⟩)<|fun x3 p3 c3=>
  jar .s 0 1 rfl (gk 0) rfl rfl<|fun x4 r_2 p4 c4=>jpc 1 rfl<|jot<|jds [] [] 9<|jdc 5 [0,1,4,5] rfl<|jdw 6 rfl (gk 3) rfl rfl rfl (.inr ⟨_, rfl⟩) (.inl ⟨rfl, rfl⟩)<|fun x5 p5 c5=>jd1 2<|
  jbs (.f rfl) (e := eInt .i64) 3 [vi y1] ([y1] : List Int) (rC vI rN)<|fun p6 c6=>jdn<|jd1 3<|jar (.f rfl) 0 2 rfl (gk 0) rfl rfl<|fun x6 r_3 p7 c7=>jdn<|jd1 7<|jar (.f rfl) 0 0 rfl (gk 2) rfl rfl<|fun x7 r_4 p8 c8=>jdn<|jdc 0 [8] rfl<|jde<|
  jtn<|jxr<|jsh 0 0 rfl rfl<|jr1 rfl rfl (fun _ k=>k p8 c8) [] ⟨gk 0,⟨⟩⟩

theorem c_ref07_union {qd : Prop} {y0 : List Int} {y1 : List Int} : Con qd Tryz.prog 94 [sv p1 y0 c1, sv p2 y1 c2] [] [Rl (eInt .i64) p1 c1 y0, Rl (eInt .i64) p2 c2 y1] (m_ref07_union y0 y1) fun r K=>∀ p3 c3,K (sv p3 r c3) [] [Rl (eInt .i64) p3 c3 r] :=
 ent3 Tryz.call94 Tryz.func94 rfl fun X=>jsr<|jpc 1 rfl<|jot<|jsq<|jsr<|jpc 1 rfl<|jot<|jbk<|jlp (fun s1 K=>∀ p3 c3,K [(0, sv p3 s1.1 c3), (1, sv p2 y1 c2), (5, vi s1.2)] [] [Rl (eInt .i64) p3 c3 s1.1, Rl (eInt .i64) p2 c2 y1]) (gv (fun _ k=>k p1 c1) [] ⟨gk 0,gk 1,⟨⟩⟩)<|
  fun s1 _ k p3 c3=>k<|jsq<|jsr<|jpc 4 rfl<|jot<|jif rfl (jsk<|jtn<|jsq<|jbk<|jrg<|jpc 3 rfl<|jix 1 rfl rfl rfl<|fun x1 b1 o1=>jld false oI (gk 0) rfl<|jcl c_ref07_insert rfl ⟨ck 1,⟨⟩⟩<|fun r1 _ k p4 c4=>k<|jpc 1 rfl<|joe<|jbn<|jtn<|jrg<|
  jpc 3 rfl<|joe<|jln (gv (fun _ k=>k p4 c4) [] ⟨gk 0,gk 3,⟨⟩⟩))<|jxe<|jte<|jle<|jbh<|jtn<|jsr<|jpc 2 rfl<|jot<|jxr<|jr1 rfl rfl (fun _ k=>k p3 c3) [] ⟨gk 0,⟨⟩⟩

theorem k_ref07_Subs_all {qd : Prop} (k : Nat) :
    (∀ {y0 : List T_Argument} {p1 : Option Addr} {c1 : Nat} {y1 : Int}, Con qd Tryz.prog 69 [sv p1 y0 c1, vi y1] [] [Rl e_Argument p1 c1 y0] (k_ref07_Subs k y0 y1) fun r K=>∀ p2 c2,K (sv p2 r c2) [] [Rl (eInt .i64) p2 c2 r]) := by
  induction k with
  | zero => exact con0 Tryz.call69
  | succ k ih =>
    have ih_ref07_Subs := @ih
    exact @fun y0 p1 c1 y1=>ent3 (m1 := F_ref07_Subs (k_ref07_Subs k) y0 y1) Tryz.call69 Tryz.func69 rfl fun X=>jsr<|jpc 1 rfl<|jot<|jsq<|jjp (fun K=>K [(0, sv p1 y0 c1), (1, vi y1), (14, vb ((decide (y1 < 0)) || (decide ((len y0) ≤ y1))))] [] [Rl e_Argument p1 c1 y0]) (jrg<|jpc 3 rfl<|jsp (b := decide (y1 < 0)) 9 rfl (fun hb1=>jpc 4 rfl<|
  jpe (vb true)<|joe<|jup 14 (vb ((decide (y1 < 0)) || (decide ((len y0) ≤ y1)))) rfl (by rw [hb1]; rfl)<|jnn (gv (fun _ k=>k) [] ⟨gk 0,⟨⟩⟩))<|fun hb1=>jpc 4 rfl<|jpe (vb (decide ((len y0) ≤ y1)))<|joe<|
  jup 14 (vb ((decide (y1 < 0)) || (decide ((len y0) ≤ y1)))) rfl (by rw [hb1]; rfl)<|jnn (gv (fun _ k=>k) [] ⟨gk 0,⟨⟩⟩))<|fun _ k=>k<|jif rfl (jsr<|jpc 1 rfl<|jot<|jxr<|jtr<|jr1 rfl rfl (fun _ k=>k none 0) [] ⟨gn,⟨⟩⟩)<|jsk<|jtn<|jsr<|
  jpc 1 rfl<|jbs .s (e := eInt .i64) 3 [vi y1] ([y1] : List Int) (rC vI rN)<|fun p2 c2=>jpc 1 rfl<|jot<|jsq<|jsr<|jpc 1 rfl<|jot<|jbk<|
  jlp (fun s1 K=>∀ p3 c3,K [(0, sv p1 y0 c1), (1, vi y1), (5, sv p3 s1.1 c3), (6, vi s1.2)] [] [Rl (eInt .i64) p3 c3 s1.1, Rl e_Argument p1 c1 y0]) (gv (fun _ k=>k p2 c2) [] ⟨gk 0,gk 1,⟨⟩⟩)<|fun s1 _ k p3 c3=>k<|jsq<|jsr<|jpc 3 rfl<|
  jix 1 rfl rfl rfl<|fun x1 b1 o1=>jfa 2 rfl<|jld false oL (gf (gs (gs (gk 0)))) rfl<|fun p4 c4=>jpc 2 rfl<|jot<|jif rfl (jsk<|jtn<|jsq<|jbk<|jrg<|jpc 4 rfl<|jix 3 rfl rfl rfl<|fun x2 b2 o2=>jfa 2 rfl<|jld false oL (gf (gs (gs (gk 0)))) rfl<|
  fun p5 c5=>jpc 1 rfl<|jix 0 rfl rfl rfl<|fun x3 b3 o3=>jld false oI (gk 0) rfl<|jcl ih_ref07_Subs rfl ⟨ck 6,⟨⟩⟩<|fun r1 _ k p6 c6=>k<|jcl c_ref07_union rfl ⟨ck 6,ck 0,⟨⟩⟩<|fun r2 _ k p7 c7=>k<|jpc 1 rfl<|joe<|jbn<|jtn<|jrg<|jpc 3 rfl<|joe<|
  jln (gv (fun _ k=>k p7 c7) [] ⟨gk 0,gk 8,⟨⟩⟩))<|jxe<|jte<|jle<|jbh<|jtn<|jsr<|jpc 2 rfl<|jot<|jxr<|jr1 rfl rfl (fun _ k=>k p3 c3) [] ⟨gk 2,⟨⟩⟩

theorem c_ref07_Subs {qd : Prop} {y0 : List T_Argument} {y1 : Int} : Con qd Tryz.prog 69 [sv p1 y0 c1, vi y1] [] [Rl e_Argument p1 c1 y0] (m_ref07_Subs y0 y1) fun r K=>∀ p2 c2,K (sv p2 r c2) [] [Rl (eInt .i64) p2 c2 r] := conLim fun k => (k_ref07_Subs_all k)

theorem c_ref07_Defeasible {qd : Prop} {y0 : T_Base} {y1 : List T_Argument} {y2 : Int} : Con qd Tryz.prog 68 [.agg #[sv p1 y0.1 c1, sv p2 y0.2.1 c2, sv p3 y0.2.2 c3], sv p4 y1 c4, vi y2] [] [Rl e_Premise p1 c1 y0.1, Rl e_Rule p2 c2 y0.2.1, Rl e_Promotion p3 c3 y0.2.2, Rl e_Argument p4 c4 y1] (m_ref07_Defeasible y0 y1 y2) fun r K=>∀ p5 c5,K (sv p5 r c5) [] [Rl (eInt .i64) p5 c5 r] :=
 ent3 Tryz.call68 Tryz.func68 rfl fun X=>jsr<|jbx .s rfl<|fun b1=>jpc 1 rfl<|jot<|jsr<|jpc 1 rfl<|jot<|jsq<|jsr<|jpc 2 rfl<|jcl c_ref07_Subs rfl ⟨ck 3,⟨⟩⟩<|fun r1 _ k p5 c5=>k<|jpc 2 rfl<|jot<|jbk<|
  jlp (fun s1 K=>∀ p6 c6,K [(1, sv p4 y1 c4), (3, pt b1 0), (7, sv p6 s1.1 c6), (12, sv p5 r1 c5), (13, vi (len r1)), (14, vi s1.2)] [bx b1 32 [sv p1 y0.1 c1, sv p2 y0.2.1 c2, sv p3 y0.2.2 c3]] [Rl (eInt .i64) p6 c6 s1.1, Rl e_Argument p4 c4 y1, Rl (eInt .i64) p5 c5 r1, Rl e_Premise p1 c1 y0.1, Rl e_Rule p2 c2 y0.2.1, Rl e_Promotion p3 c3 y0.2.2]) (gv (fun _ k=>k none 0) [0] ⟨gn,gk 4,gk 0,gk 1,gk 2,gk 3,⟨⟩⟩)<|
  fun s1 _ k p6 c6=>k<|jsr<|jpc 1 rfl<|jot<|jsq<|jif rfl (jsk<|jtn<|jsq<|jbk<|jsr<|jix 2 rfl rfl rfl<|fun x1 b2 o1=>jld false oI (gk 0) rfl<|jpc 1 rfl<|jot<|
  jjn (fun s2 K=>K [(1, sv p4 y1 c4), (3, pt b1 0), (7, sv p6 s1.1 c6), (9, vi x1), (12, sv p5 r1 c5), (13, vi (len r1)), (14, vi s1.2), (36, vb s2)] [bx b1 32 [sv p1 y0.1 c1, sv p2 y0.2.1 c2, sv p3 y0.2.2 c3]] [Rl e_Argument p4 c4 y1, Rl (eInt .i64) p6 c6 s1.1, Rl (eInt .i64) p5 c5 r1, Rl e_Premise p1 c1 y0.1, Rl e_Rule p2 c2 y0.2.1, Rl e_Promotion p3 c3 y0.2.2]) (
  jdS [] [0] 19<|jdc 17 [0,1] rfl<|jdi 2 2 rfl rfl rfl rfl<|fun x2 b3 o2=>jdf 3 1 rfl rfl<|jdl 4 false oI rfl (gf (gs (gk 0))) rfl<|jdc 12 [5,6] rfl<|jsg 24 rfl (jdf 7 1 rfl rfl<|jdo 8 0 rfl rfl rfl rfl<|jdc 8 [9,10] rfl<|
  jdi 11 3 rfl rfl rfl rfl<|fun x3 b4 o3=>jdf 12 1 rfl rfl<|jdl 13 false oI rfl (gf (gs (gk 0))) rfl<|jdi 14 7 rfl rfl rfl rfl<|fun x4 b5 o4=>jdf 15 1 rfl rfl<|jdl 16 false oB rfl (gf (gs (gk 0))) rfl<|jdc 1 [17] rfl<|
  jdp 18 (vb (!x4.2.1)) rfl<|jde<|jnn (gv (fun _ k=>k) [0] ⟨gk 5,gk 4,gk 6,gk 7,gk 8,gk 9,⟨⟩⟩))<|jdc 1 [7,8,9,10,11,12,13,14,15,16,17] rfl<|jdp 18 (vb false) rfl<|jde<|jnn (gv (fun _ k=>k) [0] ⟨gk 3,gk 2,gk 4,gk 5,gk 6,gk 7,⟨⟩⟩))<|
  fun s2 _ k=>k<|jif rfl (jrg<|jpc 3 rfl<|jix 0 rfl rfl rfl<|fun x5 b6 o5=>jfa 1 rfl<|jld false oI (gf (gs (gk 0))) rfl<|jcl c_ref07_insert rfl ⟨ck 2,⟨⟩⟩<|fun r2 _ k p7 c7=>k<|jpc 1 rfl<|joe<|jbn<|jtn<|jrg<|jpc 2 rfl<|joe<|
  jln (gv (fun _ k=>k p7 c7) [0] ⟨gk 0,gk 2,gk 4,gk 5,gk 6,gk 7,⟨⟩⟩))<|jsk<|jbn<|jtn<|jrg<|jpc 2 rfl<|joe<|jln (gv (fun _ k=>k p6 c6) [0] ⟨gk 1,gk 0,gk 2,gk 3,gk 4,gk 5,⟨⟩⟩))<|jxe<|jte<|jle<|jbh<|jtn<|jsr<|jpc 2 rfl<|jot<|jxr<|
  jr1 rfl rfl (fun _ k=>k p6 c6) [] ⟨gk 0,⟨⟩⟩

theorem k_ref07_Run_all {qd : Prop} (k : Nat) :
    (∀ {y0 : T_Base} {p1 : Option Addr} {c1 : Nat} {p2 : Option Addr} {c2 : Nat} {p3 : Option Addr} {c3 : Nat} {y1 : List T_Argument} {p4 : Option Addr} {c4 : Nat} {y2 : Int}, Con qd Tryz.prog 66 [.agg #[sv p1 y0.1 c1, sv p2 y0.2.1 c2, sv p3 y0.2.2 c3], sv p4 y1 c4, vi y2] [] [Rl e_Premise p1 c1 y0.1, Rl e_Rule p2 c2 y0.2.1, Rl e_Promotion p3 c3 y0.2.2, Rl e_Argument p4 c4 y1] (k_ref07_Run k y0 y1 y2) fun r K=>∀ p5 c5,K (sv p5 r c5) [] [Rl e_Literal p5 c5 r]) := by
  induction k with
  | zero => exact con0 Tryz.call66
  | succ k ih =>
    have ih_ref07_Run := @ih
    exact @fun y0 p1 c1 p2 c2 p3 c3 y1 p4 c4 y2=>ent3 (m1 := F_ref07_Run (k_ref07_Run k) y0 y1 y2) Tryz.call66 Tryz.func66 rfl fun X=>jsr<|jbx .s rfl<|fun b1=>jpc 1 rfl<|jot<|jsr<|jpc 2 rfl<|jix 3 rfl rfl rfl<|fun x1 b2 o1=>jfa 3 rfl<|jld true o_Literal (gs (gs (gs (gk 0)))) rfl<|
  jbo .s (e := e_Literal) 51 [vb x1.2.2.2.1, vs x1.2.2.2.2] ([x1.2.2.2] : List T_Literal) (rC (vP vB vS) rN)<|fun r_1 p5 c5=>jpc 1 rfl<|jot<|jsq<|
  jjn (fun s1 K=>K [(1, sv p4 y1 c4), (2, vi y2), (3, pt b1 0), (7, sv p5 ([x1.2.2.2] : List T_Literal) c5), (32, vb s1)] [bx b1 32 [sv p1 y0.1 c1, sv p2 y0.2.1 c2, sv p3 y0.2.2 c3], r_1] [Rl e_Argument p4 c4 y1, Al e_Literal 51 r_1 p5 c5 ([x1.2.2.2] : List T_Literal), Rl e_Premise p1 c1 y0.1, Rl e_Rule p2 c2 y0.2.1, Rl e_Promotion p3 c3 y0.2.2]) (
  jdS [] [0] 18<|jdc 16 [0,1] rfl<|jdi 2 5 rfl rfl rfl rfl<|fun x2 b3 o2=>jdf 3 1 rfl rfl<|jdl 4 false oI rfl (gf (gs (gk 0))) rfl<|jdc 11 [5,6] rfl<|jsg 21 rfl (jdf 7 1 rfl rfl<|jdo 8 0 rfl rfl rfl rfl<|jdc 7 [9,10] rfl<|
  jdi 11 6 rfl rfl rfl rfl<|fun x3 b4 o3=>jdf 12 1 rfl rfl<|jdl 13 false oI rfl (gf (gs (gk 0))) rfl<|jdi 14 5 rfl rfl rfl rfl<|fun x4 b5 o4=>jdf 15 1 rfl rfl<|jdl 16 false oB rfl (gf (gs (gk 0))) rfl<|jdp 17 (vb x4.2.1) rfl<|jde<|
  jnn (gv (fun _ k=>k) [0,1] ⟨gk 8,gk 3,gk 5,gk 6,gk 7,⟨⟩⟩))<|jdc 1 [7,8,9,10,11,12,13,14,15,16] rfl<|jdp 17 (vb false) rfl<|jde<|jnn (gv (fun _ k=>k) [0,1] ⟨gk 6,gk 1,gk 3,gk 4,gk 5,⟨⟩⟩))<|fun s1 _ k=>k<|jif rfl (jsr<|jpc 1 rfl<|jot<|jbk<|
  jlp (fun s2 K=>∀ p6 c6 r_2,K [(1, sv p4 y1 c4), (2, vi y2), (3, pt b1 0), (7, sv p6 s2.1 c6), (8, vi s2.2)] [bx b1 32 [sv p1 y0.1 c1, sv p2 y0.2.1 c2, sv p3 y0.2.2 c3], r_2] [Al e_Literal 51 r_2 p6 c6 s2.1, Rl e_Argument p4 c4 y1, Rl e_Premise p1 c1 y0.1, Rl e_Rule p2 c2 y0.2.1, Rl e_Promotion p3 c3 y0.2.2]) (gv (fun _ k=>k p5 c5 r_1) [0,1] ⟨gk 1,gk 0,gk 2,gk 3,gk 4,⟨⟩⟩)<|
  fun s2 _ k p6 c6 r_2=>k<|jsq<|jsr<|jpc 3 rfl<|jix 1 rfl rfl rfl<|fun x5 b6 o5=>jfa 2 rfl<|jld false oL (gf (gs (gs (gk 0)))) rfl<|fun p7 c7=>jpc 2 rfl<|jot<|jif rfl (jsk<|jtn<|jsq<|jbk<|jdS [] [0] 14<|jdc 13 [0] rfl<|
  jda 1 0 3 rfl rfl rfl rfl<|jdc 9 [2,3,4] rfl<|jdi 5 3 rfl rfl rfl rfl<|fun x6 b7 o6=>jdf 6 2 rfl rfl<|jdl 7 false oL rfl (gf (gs (gs (gk 0)))) rfl<|fun p8 c8=>jdc 5 [8] rfl<|jdi 9 0 rfl rfl rfl rfl<|fun x7 b8 o7=>
  jdl 10 false oI rfl (gk 0) rfl<|jd1 11<|jca (.f rfl) [] [] ih_ref07_Run rfl rfl rfl ⟨ck 7,ck 8,ck 9,ck 6,⟨⟩⟩<|fun r1 _ k p9 c9=>k<|jdn<|jd1 12<|jar (.f rfl) 1 6 rfl (gk 0) rfl rfl<|fun x8 r_3 p10 c10=>jdn<|jdc 0 [13] rfl<|jde<|jbn<|jtn<|
  jrg<|jpc 3 rfl<|joe<|jln (gv (fun _ k=>k p10 c10 r_3) [0,1] ⟨gk 0,gk 8,gk 9,gk 10,gk 11,⟨⟩⟩))<|jxe<|jte<|jle<|jbh<|jtn<|jsr<|jpc 2 rfl<|jot<|jxr<|jsh 1 2 rfl rfl<|jr1 rfl rfl (fun _ k=>k p6 c6) [] ⟨gk 0,⟨⟩⟩)<|jsk<|jtn<|jsr<|jpc 2 rfl<|jot<|
  jxr<|jsh 1 1 rfl rfl<|jr1 rfl rfl (fun _ k=>k p5 c5) [] ⟨gk 0,⟨⟩⟩

theorem c_ref07_Run {qd : Prop} {y0 : T_Base} {y1 : List T_Argument} {y2 : Int} : Con qd Tryz.prog 66 [.agg #[sv p1 y0.1 c1, sv p2 y0.2.1 c2, sv p3 y0.2.2 c3], sv p4 y1 c4, vi y2] [] [Rl e_Premise p1 c1 y0.1, Rl e_Rule p2 c2 y0.2.1, Rl e_Promotion p3 c3 y0.2.2, Rl e_Argument p4 c4 y1] (m_ref07_Run y0 y1 y2) fun r K=>∀ p5 c5,K (sv p5 r c5) [] [Rl e_Literal p5 c5 r] := conLim fun k => (k_ref07_Run_all k)

theorem c_ref07_in {qd : Prop} {y0 : List Int} {y1 : Int} : Con qd Tryz.prog 67 [sv p1 y0 c1, vi y1] [] [Rl (eInt .i64) p1 c1 y0] (m_ref07_in y0 y1) fun r K=>K (vb r) [] [] :=
 ent3 Tryz.call67 Tryz.func67 rfl fun X=>jsr<|jpc 1 rfl<|jot<|jsq<|jsr<|jpc 1 rfl<|jot<|jbk<|jlp (fun s1 K=>K [(0, sv p1 y0 c1), (1, vi y1), (5, vi s1)] [] [Rl (eInt .i64) p1 c1 y0]) (gv (fun _ k=>k) [] ⟨gk 0,⟨⟩⟩)<|fun s1 _ k=>k<|jsq<|jsr<|jpc 4 rfl<|jot<|jif rfl (jsk<|jtn<|jsq<|
  jbk<|jsr<|jpc 2 rfl<|jix 0 rfl rfl rfl<|fun x1 b1 o1=>jld false oI (gk 0) rfl<|jpc 2 rfl<|jot<|jif rfl (jsr<|jpc 1 rfl<|jot<|jxr<|jbr<|jtr<|jlr<|jbr<|jtr<|jr1 rfl rfl (fun _ k=>k) [] ⟨⟩)<|jsk<|jbn<|jtn<|jrg<|jpc 3 rfl<|joe<|
  jln (gv (fun _ k=>k) [] ⟨gk 1,⟨⟩⟩))<|jxe<|jte<|jle<|jbh<|jtn<|jsr<|jpc 1 rfl<|jot<|jxr<|jr1 rfl rfl (fun _ k=>k) [] ⟨⟩

theorem c_ref07_Within {qd : Prop} {y0 : T_Base} {y1 : List T_Argument} {y2 : Int} {y3 : List Int} : Con qd Tryz.prog 43 [.agg #[sv p1 y0.1 c1, sv p2 y0.2.1 c2, sv p3 y0.2.2 c3], sv p4 y1 c4, vi y2, sv p5 y3 c5] [] [Rl e_Premise p1 c1 y0.1, Rl e_Rule p2 c2 y0.2.1, Rl e_Promotion p3 c3 y0.2.2, Rl e_Argument p4 c4 y1, Rl (eInt .i64) p5 c5 y3] (m_ref07_Within y0 y1 y2 y3) fun r K=>K (vb r) [] [] :=
 ent3 Tryz.call43 Tryz.func43 rfl fun X=>jsr<|jbx .s rfl<|fun b1=>jpc 1 rfl<|jot<|jsr<|jfa 1 rfl<|jlo 0 rfl rfl rfl<|jpc 1 rfl<|jix 1 rfl rfl rfl<|fun x1 b2 o1=>jld true o_Rule (gk 0) rfl<|fun p6 c6=>jal .s (.agg #[vs [], vb false, vi 0, .slice none 0 0, vb false, vs []])<|
  fun b3=>jso .s 1 rfl rfl rfl<|jot<|jsq<|jsr<|jpc 1 rfl<|jot<|jbk<|
  jlp (fun s1 K=>K [(1, sv p4 y1 c4), (2, vi y2), (3, sv p5 y3 c5), (4, pt b1 0), (9, pt b3 0), (10, vi s1)] [bx b1 32 [sv p1 y0.1 c1, sv p2 y0.2.1 c2, sv p3 y0.2.2 c3], bx b3 78 [vs x1.1, vb x1.2.1, vi x1.2.2.1, sv p6 x1.2.2.2.1 c6, vb x1.2.2.2.2.1, vs x1.2.2.2.2.2]] [Rl e_Argument p4 c4 y1, Rl (eInt .i64) p5 c5 y3, Rl e_Premise p1 c1 y0.1, Rl e_Rule p2 c2 y0.2.1, Rl e_Promotion p3 c3 y0.2.2, Rl e_Literal p6 c6 x1.2.2.2.1]) (gv (fun _ k=>k) [0,1] ⟨gk 5,gk 6,gk 2,gk 3,gk 4,gk 0,⟨⟩⟩)<|
  fun s1 _ k=>k<|jsq<|jsr<|jpc 4 rfl<|jot<|jif rfl (jsk<|jtn<|jsq<|jbk<|
  jjn (fun s2 K=>K [(1, sv p4 y1 c4), (2, vi y2), (3, sv p5 y3 c5), (4, pt b1 0), (9, pt b3 0), (10, vi s1), (51, vb s2)] [bx b1 32 [sv p1 y0.1 c1, sv p2 y0.2.1 c2, sv p3 y0.2.2 c3], bx b3 78 [vs x1.1, vb x1.2.1, vi x1.2.2.1, sv p6 x1.2.2.2.1 c6, vb x1.2.2.2.2.1, vs x1.2.2.2.2.2]] [Rl e_Argument p4 c4 y1, Rl (eInt .i64) p5 c5 y3, Rl e_Premise p1 c1 y0.1, Rl e_Rule p2 c2 y0.2.1, Rl e_Promotion p3 c3 y0.2.2, Rl e_Literal p6 c6 x1.2.2.2.1]) (
  jdS [] [0, 1] 30<|jdf 0 1 rfl rfl<|jdo 1 1 rfl rfl rfl rfl<|jdc 27 [2] rfl<|jsg 24 rfl (jda 3 0 3 rfl rfl rfl rfl<|jdc 23 [4,5,6] rfl<|jdi 7 1 rfl rfl rfl rfl<|fun x2 b4 o2=>jdl 8 false oI rfl (gk 0) rfl<|jdf 10 4 rfl rfl<|
  jda 11 1 2 rfl rfl rfl rfl<|jd1 9<|jca (.f rfl) [] [] c_ref07_Run rfl rfl rfl ⟨ck 3,ck 4,ck 5,ck 1,⟨⟩⟩<|fun r1 _ k p7 c7=>k<|jdn<|jd1 12<|jca (.f rfl) [] [] c_ref01_Has rfl rfl rfl ⟨ck 0,⟨⟩⟩<|fun r2 _ k=>k<|jdn<|jdp 13 (vb r2) rfl<|
  jdc 15 [14] rfl<|jsg 36 rfl (jdc 1 [15,16,17,18,19,20,21,22,23,24,25,26,27,28] rfl<|jdp 29 (vb true) rfl<|jde<|jnn (gv (fun _ k=>k) [0,1] ⟨gk 2,gk 3,gk 4,gk 5,gk 6,gk 7,⟨⟩⟩))<|jdf 15 1 rfl rfl<|jdo 16 1 rfl rfl rfl rfl<|jdc 11 [17,18] rfl<|
  jsg 40 rfl (jda 19 0 3 rfl rfl rfl rfl<|jdc 7 [20,21,22] rfl<|jdi 23 3 rfl rfl rfl rfl<|fun x3 b5 o3=>jdl 24 false oI rfl (gk 0) rfl<|jdc 4 [26] rfl<|jd1 25<|jca (.f rfl) [] [] c_ref07_Defeasible rfl rfl rfl ⟨ck 5,ck 6,ck 7,ck 3,⟨⟩⟩<|
  fun r3 _ k p8 c8=>k<|jdn<|jd1 27<|jca (.f rfl) [] [] c_ref07_in rfl rfl rfl ⟨ck 0,⟨⟩⟩<|fun r4 _ k=>k<|jdn<|jdp 28 (vb r4) rfl<|jdp 29 (vb r4) rfl<|jde<|jnn (gv (fun _ k=>k) [0,1] ⟨gk 4,gk 5,gk 6,gk 7,gk 8,gk 9,⟨⟩⟩))<|
  jdc 2 [19,20,21,22,23,24,25,26,27] rfl<|jdp 28 (vb false) rfl<|jdp 29 (vb false) rfl<|jde<|jnn (gv (fun _ k=>k) [0,1] ⟨gk 2,gk 3,gk 4,gk 5,gk 6,gk 7,⟨⟩⟩))<|jdc 17 [3,4,5,6,7,8,9,10,11,12] rfl<|jdp 13 (vb false) rfl<|jdc 15 [14] rfl<|
  jdf 15 1 rfl rfl<|jdo 16 1 rfl rfl rfl rfl<|jdc 11 [17,18] rfl<|jsg 40 rfl (jda 19 0 3 rfl rfl rfl rfl<|jdc 7 [20,21,22] rfl<|jdi 23 1 rfl rfl rfl rfl<|fun x4 b6 o4=>jdl 24 false oI rfl (gk 0) rfl<|jdc 4 [26] rfl<|jd1 25<|
  jca (.f rfl) [] [] c_ref07_Defeasible rfl rfl rfl ⟨ck 3,ck 4,ck 5,ck 1,⟨⟩⟩<|fun r5 _ k p9 c9=>k<|jdn<|jd1 27<|jca (.f rfl) [] [] c_ref07_in rfl rfl rfl ⟨ck 0,⟨⟩⟩<|fun r6 _ k=>k<|jdn<|jdp 28 (vb r6) rfl<|jdp 29 (vb r6) rfl<|jde<|
  jnn (gv (fun _ k=>k) [0,1] ⟨gk 2,gk 3,gk 4,gk 5,gk 6,gk 7,⟨⟩⟩))<|jdc 2 [19,20,21,22,23,24,25,26,27] rfl<|jdp 28 (vb false) rfl<|jdp 29 (vb false) rfl<|jde<|jnn (gv (fun _ k=>k) [0,1] ⟨gk 0,gk 1,gk 2,gk 3,gk 4,gk 5,⟨⟩⟩))<|fun s2 _ k=>k<|
  jif rfl (jsr<|jpc 1 rfl<|jot<|jxr<|jbr<|jtr<|jlr<|jbr<|jtr<|jr1 rfl rfl (fun _ k=>k) [] ⟨⟩)<|jsk<|jbn<|jtn<|jrg<|jpc 3 rfl<|joe<|jln (gv (fun _ k=>k) [0,1] ⟨gk 0,gk 1,gk 2,gk 3,gk 4,gk 5,⟨⟩⟩))<|jxe<|jte<|jle<|jbh<|jtn<|jsr<|jpc 1 rfl<|jot<|
  jxr<|jr1 rfl rfl (fun _ k=>k) [] ⟨⟩

theorem k_ref07_choices_2_all {qd : Prop} (k : Nat) :
    (∀ {y0 : List T_Argument} {p1 : Option Addr} {c1 : Nat} {r_1 : Res} {y1 : Int} {y2 : List T_Literal} {p2 : Option Addr} {c2 : Nat} {y3 : List Int} {p3 : Option Addr} {c3 : Nat}, Con qd Tryz.prog 41 [sv p1 y0 c1, vi y1, sv p2 y2 c2, sv p3 y3 c3] [r_1] [Al e_Argument 53 r_1 p1 c1 y0, Rl e_Literal p2 c2 y2, Rl (eInt .i64) p3 c3 y3] (k_ref07_choices_2 k y0 y1 y2 y3) fun r K=>∀ p4 c4,K (sv p4 r c4) [r_1] [Rl (eSlice (eInt .i64)) p4 c4 r]) := by
  induction k with
  | zero => exact con0 Tryz.call41
  | succ k ih =>
    have ih_ref07_choices_2 := @ih
    exact @fun y0 p1 c1 r_1 y1 y2 p2 c2 y3 p3 c3=>ent3 (m1 := F_ref07_choices_2 (k_ref07_choices_2 k) y0 y1 y2 y3) Tryz.call41 Tryz.func41 rfl fun X=>jsr<|jpc 1 rfl<|jot<|jsq<|jsr<|jpc 5 rfl<|jot<|jif rfl (jsr<|jbo .s (e := eInt .i64) 3 [] ([] : List Int) rN<|fun r_2 p4 c4=>jpc 1 rfl<|jar .s 1 0 rfl (gk 3) rfl rfl<|fun x1 r_3 p5 c5=>jsh 1 0 rfl rfl<|
  jbs .s (e := eSlice (eInt .i64)) 22 [sv p5 x1 c5] ([x1] : List (List Int)) (rC (vL (gk 0)) rN)<|fun p6 c6=>jpc 1 rfl<|jot<|jxr<|jtr<|jr1 rfl rfl (fun _ k=>k p6 c6) [0] ⟨gk 0,⟨⟩⟩)<|jsk<|jtn<|jsr<|jpc 1 rfl<|jro (eSlice (eInt .i64)) 22<|jot<|
  jsq<|jsr<|jpc 1 rfl<|jot<|jbk<|
  jlp (fun s1 K=>∀ p7 c7 r_4,K [(0, sv p1 y0 c1), (1, vi y1), (2, sv p2 y2 c2), (3, sv p3 y3 c3), (9, sv p7 s1.1 c7), (10, vi s1.2)] [r_1, r_4] [Al (eSlice (eInt .i64)) 22 r_4 p7 c7 s1.1, Al e_Argument 53 r_1 p1 c1 y0, Rl e_Literal p2 c2 y2, Rl (eInt .i64) p3 c3 y3]) (gv (fun _ k=>k none 0 []) [0,1] ⟨gk 0,gk 1,gk 2,gk 3,⟨⟩⟩)<|
  fun s1 _ k p7 c7 r_4=>k<|jsq<|jsr<|jpc 3 rfl<|jot<|jif rfl (jsk<|jtn<|jsq<|jbk<|jds [] [0] 11<|jdc 9 [0,1] rfl<|jdI 2 1 rfl rfl rfl rfl<|fun x2 h2 b1 hp1=>jdf 3 3 rfl rfl<|jdL 4 0 1 sI.snd.snd.snd true o_Literal rfl rfl hp1 h2 rfl<|
  jdc 3 [5,6,7] rfl<|jdi 8 2 rfl rfl rfl rfl<|fun x3 b2 o1=>jdl 9 true o_Literal rfl (gk 0) rfl<|jdp 10 (vb (x2.2.2.2 == x3)) rfl<|jde<|jtn<|jif rfl (jrg<|jpc 9 rfl<|jsF (gk 4) rfl rfl rfl rfl (.inl ⟨rfl, rfl⟩)<|fun x4 p8=>jpc 1 rfl<|
  jbs .s (e := eInt .i64) 3 [vi s1.2] ([s1.2] : List Int) (rC vI rN)<|fun p9 c8=>jaf .s 3 (gk 1) (gk 0) rfl rfl<|fun x5 p10 c9=>jca .s [0] [] ih_ref07_choices_2 rfl rfl rfl ⟨ck 5,ck 6,ck 0,⟨⟩⟩<|fun r1 _ k p11 c10=>k<|
  jar .s 1 5 rfl (gk 0) rfl rfl<|fun x6 r_5 p12 c11=>jpc 1 rfl<|joe<|jbn<|jtn<|jrg<|jpc 3 rfl<|joe<|jln (gv (fun _ k=>k p12 c11 r_5) [0,1] ⟨gk 0,gk 7,gk 8,gk 9,⟨⟩⟩))<|jsk<|jbn<|jtn<|jrg<|jpc 3 rfl<|joe<|
  jln (gv (fun _ k=>k p7 c7 r_4) [0,1] ⟨gk 1,gk 2,gk 3,gk 4,⟨⟩⟩))<|jxe<|jte<|jle<|jbh<|jtn<|jsr<|jpc 2 rfl<|jot<|jxr<|jsh 1 0 rfl rfl<|jr1 rfl rfl (fun _ k=>k p7 c7) [0] ⟨gk 0,⟨⟩⟩

theorem c_ref07_choices_2 {qd : Prop} {y0 : List T_Argument} {y1 : Int} {y2 : List T_Literal} {y3 : List Int} : Con qd Tryz.prog 41 [sv p1 y0 c1, vi y1, sv p2 y2 c2, sv p3 y3 c3] [r_1] [Al e_Argument 53 r_1 p1 c1 y0, Rl e_Literal p2 c2 y2, Rl (eInt .i64) p3 c3 y3] (m_ref07_choices_2 y0 y1 y2 y3) fun r K=>∀ p4 c4,K (sv p4 r c4) [r_1] [Rl (eSlice (eInt .i64)) p4 c4 r] := conLim fun k => (k_ref07_choices_2_all k)

theorem c_ref07_recent {qd : Prop} {y0 : List Int} {y1 : Int} : Con qd Tryz.prog 42 [sv p1 y0 c1, vi y1] [] [Rl (eInt .i64) p1 c1 y0] (m_ref07_recent y0 y1) fun r K=>K (vb r) [] [] :=
 ent3 Tryz.call42 Tryz.func42 rfl fun X=>jsr<|jpc 1 rfl<|jot<|jsq<|jsr<|jpc 1 rfl<|jot<|jbk<|jlp (fun s1 K=>K [(0, sv p1 y0 c1), (1, vi y1), (5, vi s1)] [] [Rl (eInt .i64) p1 c1 y0]) (gv (fun _ k=>k) [] ⟨gk 0,⟨⟩⟩)<|fun s1 _ k=>k<|jsq<|jsr<|jpc 4 rfl<|jot<|jif rfl (jsk<|jtn<|jsq<|
  jbk<|jsr<|jpc 2 rfl<|jix 0 rfl rfl rfl<|fun x1 b1 o1=>jld false oI (gk 0) rfl<|jpc 2 rfl<|jot<|jif rfl (jsr<|jpc 1 rfl<|jot<|jxr<|jbr<|jtr<|jlr<|jbr<|jtr<|jr1 rfl rfl (fun _ k=>k) [] ⟨⟩)<|jsk<|jbn<|jtn<|jrg<|jpc 3 rfl<|joe<|
  jln (gv (fun _ k=>k) [] ⟨gk 1,⟨⟩⟩))<|jxe<|jte<|jle<|jbh<|jtn<|jsr<|jpc 1 rfl<|jot<|jxr<|jr1 rfl rfl (fun _ k=>k) [] ⟨⟩

theorem c_ref07_Build {qd : Prop} {y0 : T_Base} : Con qd Tryz.prog 16 [.agg #[sv p1 y0.1 c1, sv p2 y0.2.1 c2, sv p3 y0.2.2 c3]] [] [Rl e_Premise p1 c1 y0.1, Rl e_Rule p2 c2 y0.2.1, Rl e_Promotion p3 c3 y0.2.2] (m_ref07_Build y0) fun r K=>∀ p4 c4,K (.tuple #[sv p4 r.1 c4, vi r.2]) [] [Rl e_Argument p4 c4 r.1] :=
 ent3 Tryz.call16 Tryz.func16 rfl fun X=>jsr<|jbx .s rfl<|fun b1=>jpc 2 rfl<|jot<|jsq<|jsr<|jla 0 3 rfl rfl rfl<|jcl c_ref05_Validate rfl ⟨ck 0,ck 1,ck 2,⟨⟩⟩<|fun r1 _ k=>k<|jpc 1 rfl<|jot<|jsr<|jpc 2 rfl<|jot<|jif rfl (jsr<|jpc 3 rfl<|jot<|jxr<|jtr<|
  jrg' rfl (lT rfl (lT rfl lN)) (fun _ k=>k none 0) [] ⟨gn,⟨⟩⟩)<|jsk<|jtn<|jsr<|jpc 1 rfl<|jro e_Argument 53<|jot<|
  jjn (fun s1 K=>∀ p4 c4 r_1,K [(1, pt b1 0), (5, sv p4 s1 c4)] [bx b1 32 [sv p1 y0.1 c1, sv p2 y0.2.1 c2, sv p3 y0.2.2 c3], r_1] [Al e_Argument 53 r_1 p4 c4 s1, Rl e_Premise p1 c1 y0.1, Rl e_Rule p2 c2 y0.2.1, Rl e_Promotion p3 c3 y0.2.2]) (
  jsr<|jpc 1 rfl<|jot<|jbk<|
  jlp (fun s2 K=>∀ p5 c5 r_2,K [(1, pt b1 0), (5, sv p5 s2.1 c5), (6, vi s2.2)] [bx b1 32 [sv p1 y0.1 c1, sv p2 y0.2.1 c2, sv p3 y0.2.2 c3], r_2] [Al e_Argument 53 r_2 p5 c5 s2.1, Rl e_Premise p1 c1 y0.1, Rl e_Rule p2 c2 y0.2.1, Rl e_Promotion p3 c3 y0.2.2]) (gv (fun _ k=>k none 0 []) [0,1] ⟨gk 0,gk 1,gk 2,gk 3,⟨⟩⟩)<|
  fun s2 _ k p5 c5 r_2=>k<|jsq<|jsr<|jpc 1 rfl<|jfa 0 rfl<|jlo 0 rfl rfl rfl<|jpc 2 rfl<|jot<|jif rfl (jsk<|jtn<|jsq<|jbk<|jrg<|jpc 2 rfl<|jfa 0 rfl<|jlo 0 rfl rfl rfl<|jpc 1 rfl<|jix 1 rfl rfl rfl<|fun x1 b2 o1=>jfa 0 rfl<|
  jld true o_Literal (gf (gk 0)) rfl<|jpe (.agg #[vi s2.2, vi (-1), .slice none 0 0, vb x1.1.1, vs x1.1.2])<|
  jbs .s (e := e_Argument) 53 [vi s2.2, vi (-1), .slice none 0 0, vb x1.1.1, vs x1.1.2] ([(s2.2, (-1), ([] : List Int), x1.1)] : List T_Argument) (rC (vP vI (vP vI (vP (vL gn) (vP vB vS)))) rN)<|fun p6 c6=>jar .s 1 2 rfl (gk 0) rfl rfl<|
  fun x2 r_3 p7 c7=>jpc 1 rfl<|joe<|jbn<|jtn<|jrg<|jpc 3 rfl<|joe<|jln (gv (fun _ k=>k p7 c7 r_3) [0,1] ⟨gk 0,gk 4,gk 5,gk 6,⟨⟩⟩))<|jxe<|jte<|jle<|jbh<|jnn (gv (fun _ k=>k p5 c5 r_2) [0,1] ⟨gk 0,gk 1,gk 2,gk 3,⟨⟩⟩))<|fun s1 _ k p4 c4 r_1=>k<|
  jsr<|jpc 1 rfl<|jot<|jsq<|jsr<|jpc 1 rfl<|jot<|jbk<|
  jlp (fun s3 K=>∀ p8 c8 r_4,K [(1, pt b1 0), (5, sv p8 s3.1 c8), (7, vi s3.2.1), (8, vi s3.2.2)] [bx b1 32 [sv p1 y0.1 c1, sv p2 y0.2.1 c2, sv p3 y0.2.2 c3], r_4] [Al e_Argument 53 r_4 p8 c8 s3.1, Rl e_Premise p1 c1 y0.1, Rl e_Rule p2 c2 y0.2.1, Rl e_Promotion p3 c3 y0.2.2]) (gv (fun _ k=>k p4 c4 r_1) [0,1] ⟨gk 0,gk 1,gk 2,gk 3,⟨⟩⟩)<|
  fun s3 _ k p8 c8 r_4=>k<|jsq<|
  jjp (fun K=>K [(1, pt b1 0), (5, sv p8 s3.1 c8), (7, vi s3.2.1), (8, vi s3.2.2), (43, vb ((s3.2.2 == 1) || (decide (s3.2.1 < (len s3.1)))))] [bx b1 32 [sv p1 y0.1 c1, sv p2 y0.2.1 c2, sv p3 y0.2.2 c3], r_4] [Al e_Argument 53 r_4 p8 c8 s3.1, Rl e_Premise p1 c1 y0.1, Rl e_Rule p2 c2 y0.2.1, Rl e_Promotion p3 c3 y0.2.2]) (
  jrg<|jpc 3 rfl<|jsp (b := s3.2.2 == 1) 38 rfl (fun hb1=>jpc 4 rfl<|jpe (vb true)<|joe<|jup 43 (vb ((s3.2.2 == 1) || (decide (s3.2.1 < (len s3.1))))) rfl (by rw [hb1]; rfl)<|jnn (gv (fun _ k=>k) [0,1] ⟨gk 0,gk 1,gk 2,gk 3,⟨⟩⟩))<|fun hb1=>
  jpc 4 rfl<|jpe (vb (decide (s3.2.1 < (len s3.1))))<|joe<|jup 43 (vb ((s3.2.2 == 1) || (decide (s3.2.1 < (len s3.1))))) rfl (by rw [hb1]; rfl)<|jnn (gv (fun _ k=>k) [0,1] ⟨gk 0,gk 1,gk 2,gk 3,⟨⟩⟩))<|fun _ k=>k<|jif rfl (jsk<|jtn<|jsq<|jbk<|
  jsr<|jpc 3 rfl<|jot<|jsq<|jsr<|jpc 1 rfl<|jot<|jbk<|
  jlp (fun s4 K=>∀ p9 c9 r_5,K [(1, pt b1 0), (5, sv p9 s4.1 c9), (7, vi s3.2.1), (8, vi s3.2.2), (9, vi (len s3.1)), (10, vi s4.2)] [bx b1 32 [sv p1 y0.1 c1, sv p2 y0.2.1 c2, sv p3 y0.2.2 c3], r_5] [Al e_Argument 53 r_5 p9 c9 s4.1, Rl e_Premise p1 c1 y0.1, Rl e_Rule p2 c2 y0.2.1, Rl e_Promotion p3 c3 y0.2.2]) (gv (fun _ k=>k p8 c8 r_4) [0,1] ⟨gk 0,gk 1,gk 2,gk 3,⟨⟩⟩)<|
  fun s4 _ k p9 c9 r_5=>k<|jsq<|jsr<|jpc 1 rfl<|jfa 1 rfl<|jlo 0 rfl rfl rfl<|jpc 2 rfl<|jot<|jif rfl (jsk<|jtn<|jsq<|jbk<|jsr<|jpc 2 rfl<|jfa 1 rfl<|jlo 0 rfl rfl rfl<|jpc 1 rfl<|jix 2 rfl rfl rfl<|fun x3 b3 o2=>jfa 3 rfl<|
  jld false oL (gf (gs (gs (gs (gk 0))))) rfl<|fun p10 c10=>jca .s [1] [] c_ref07_choices_2 rfl rfl rfl ⟨ck 2,ck 0,cn,⟨⟩⟩<|fun r2 _ k p11 c11=>k<|jpc 2 rfl<|jot<|jbk<|
  jlp (fun s5 K=>∀ p12 c12 r_6,K [(1, pt b1 0), (5, sv p12 s5.1 c12), (7, vi s3.2.1), (8, vi s3.2.2), (9, vi (len s3.1)), (10, vi s4.2), (63, sv p11 r2 c11), (64, vi (len r2)), (65, vi s5.2)] [bx b1 32 [sv p1 y0.1 c1, sv p2 y0.2.1 c2, sv p3 y0.2.2 c3], r_6] [Al e_Argument 53 r_6 p12 c12 s5.1, Rl (eSlice (eInt .i64)) p11 c11 r2, Rl e_Premise p1 c1 y0.1, Rl e_Rule p2 c2 y0.2.1, Rl e_Promotion p3 c3 y0.2.2]) (gv (fun _ k=>k p9 c9 r_5) [0,1] ⟨gk 3,gk 0,gk 4,gk 5,gk 6,⟨⟩⟩)<|
  fun s5 _ k p12 c12 r_6=>k<|jsr<|jpc 1 rfl<|jot<|jsq<|jif rfl (jsk<|jtn<|jsq<|jbk<|jsr<|jix 1 rfl rfl rfl<|fun x4 b4 o3=>jld false oL (gk 0) rfl<|fun p13 c13=>jpc 1 rfl<|jot<|jsq<|
  jjn (fun s6 K=>K [(1, pt b1 0), (5, sv p12 s5.1 c12), (7, vi s3.2.1), (8, vi s3.2.2), (9, vi (len s3.1)), (10, vi s4.2), (12, sv p13 x4 c13), (63, sv p11 r2 c11), (64, vi (len r2)), (65, vi s5.2), (89, vb s6)] [bx b1 32 [sv p1 y0.1 c1, sv p2 y0.2.1 c2, sv p3 y0.2.2 c3], r_6] [Al e_Argument 53 r_6 p12 c12 s5.1, Rl (eSlice (eInt .i64)) p11 c11 r2, Rl (eInt .i64) p13 c13 x4, Rl e_Premise p1 c1 y0.1, Rl e_Rule p2 c2 y0.2.1, Rl e_Promotion p3 c3 y0.2.2]) (
  jrg<|jpc 2 rfl<|jcl c_ref07_recent rfl ⟨ck 0,⟨⟩⟩<|fun r3 _ k=>k<|jpc 2 rfl<|jsg 73 rfl (jpc 3 rfl<|jsg 76 rfl (jpc 3 rfl<|jpe (vb true)<|jpe (vb true)<|jpc 7 rfl<|jpe (vb true)<|joe<|
  jnn (gv (fun _ k=>k) [0,1] ⟨gk 2,gk 3,gk 0,gk 4,gk 5,gk 6,⟨⟩⟩))<|jpc 3 rfl<|jpe (vb (decide (0 < (len x4))))<|jpe (vb (decide (0 < (len x4))))<|jpc 1 rfl<|jsg 82 rfl (jpc 6 rfl<|jpe (vb true)<|joe<|
  jnn (gv (fun _ k=>k) [0,1] ⟨gk 2,gk 3,gk 0,gk 4,gk 5,gk 6,⟨⟩⟩))<|jla 0 3 rfl rfl rfl<|jpc 3 rfl<|jca .s [] [1] c_ref07_Within rfl rfl rfl ⟨ck 4,ck 5,ck 6,cl 1 2,ck 0,⟨⟩⟩<|fun r4 _ k=>k<|jpc 1 rfl<|jpe (vb (!r4))<|joe<|
  jnn (gv (fun _ k=>k) [0,1] ⟨gk 2,gk 3,gk 0,gk 4,gk 5,gk 6,⟨⟩⟩))<|jpc 7 rfl<|jpe (vb false)<|jpc 1 rfl<|jla 0 3 rfl rfl rfl<|jpc 3 rfl<|jca .s [] [1] c_ref07_Within rfl rfl rfl ⟨ck 4,ck 5,ck 6,cl 1 2,ck 0,⟨⟩⟩<|fun r5 _ k=>k<|jpc 1 rfl<|
  jpe (vb (!r5))<|joe<|jnn (gv (fun _ k=>k) [0,1] ⟨gk 2,gk 3,gk 0,gk 4,gk 5,gk 6,⟨⟩⟩))<|fun s6 _ k=>k<|jif rfl (jxe<|jte<|jbh<|jtn<|jrg<|jpc 2 rfl<|joe<|jln (gv (fun _ k=>k p12 c12 r_6) [0,1] ⟨gk 0,gk 1,gk 3,gk 4,gk 5,⟨⟩⟩))<|jsk<|jtn<|jsr<|
  jpc 3 rfl<|jfa 1 rfl<|jlo 0 rfl rfl rfl<|jpc 1 rfl<|jix 4 rfl rfl rfl<|fun x5 b5 o4=>jfa 4 rfl<|jld true o_Literal (gs (gs (gs (gs (gk 0))))) rfl<|jpe (.agg #[vi (-1), vi s4.2, sv p13 x4 c13, vb x5.2.2.2.2.1, vs x5.2.2.2.2.2])<|
  jbs .s (e := e_Argument) 53 [vi (-1), vi s4.2, sv p13 x4 c13, vb x5.2.2.2.2.1, vs x5.2.2.2.2.2] ([((-1), s4.2, x4, x5.2.2.2.2)] : List T_Argument) (rC (vP vI (vP vI (vP (vL (gk 3)) (vP vB vS)))) rN)<|fun p14 c14=>
  jar .s 1 2 rfl (gk 0) rfl rfl<|fun x6 r_7 p15 c15=>jpc 1 rfl<|jot<|jsr<|jpc 3 rfl<|jot<|jif rfl (jsr<|jpc 2 rfl<|jot<|jxr<|jbr<|jtr<|jlr<|jbr<|jbr<|jtr<|jlr<|jbr<|jtr<|jbr<|jtr<|jlr<|jbr<|jtr<|
  jrg' rfl (lT rfl (lT rfl lN)) (fun _ k=>k none 0) [] ⟨gn,⟨⟩⟩)<|jsk<|jbn<|jtn<|jrg<|jpc 2 rfl<|joe<|jln (gv (fun _ k=>k p15 c15 r_7) [0,1] ⟨gk 0,gk 4,gk 6,gk 7,gk 8,⟨⟩⟩))<|jxe<|jte<|jle<|jbh<|jbn<|jtn<|jrg<|jpc 3 rfl<|joe<|
  jln (gv (fun _ k=>k p12 c12 r_6) [0,1] ⟨gk 0,gk 2,gk 3,gk 4,⟨⟩⟩))<|jxe<|jte<|jle<|jbh<|jtn<|jrg<|jpc 2 rfl<|joe<|jbn<|jtn<|jrg<|jpc 3 rfl<|joe<|jln (gv (fun _ k=>k p9 c9 r_5) [0,1] ⟨gk 0,gk 1,gk 2,gk 3,⟨⟩⟩))<|jxe<|jte<|jle<|jbh<|jtn<|jsr<|
  jpc 3 rfl<|jot<|jxr<|jsh 1 0 rfl rfl<|jrg' rfl (lT rfl (lT rfl lN)) (fun _ k=>k p8 c8) [] ⟨gk 0,⟨⟩⟩

theorem c_ref07_Conclusions {qd : Prop} {y0 : List T_Argument} {y1 : List Int} : Con qd Tryz.prog 19 [sv p1 y0 c1, sv p2 y1 c2] [] [Rl e_Argument p1 c1 y0, Rl (eInt .i64) p2 c2 y1] (m_ref07_Conclusions y0 y1) fun r K=>∀ p3 c3,K (sv p3 r c3) [] [Rl e_Literal p3 c3 r] :=
 ent3 Tryz.call19 Tryz.func19 rfl fun X=>jsr<|jpc 1 rfl<|jot<|jsr<|jpc 1 rfl<|jot<|jsq<|jsr<|jpc 1 rfl<|jot<|jbk<|
  jlp (fun s1 K=>∀ p3 c3,K [(0, sv p1 y0 c1), (1, sv p2 y1 c2), (5, sv p3 s1.1 c3), (6, vi s1.2)] [] [Rl e_Literal p3 c3 s1.1, Rl e_Argument p1 c1 y0, Rl (eInt .i64) p2 c2 y1]) (gv (fun _ k=>k none 0) [] ⟨gn,gk 0,gk 1,⟨⟩⟩)<|fun s1 _ k p3 c3=>
  k<|jsq<|jsr<|jpc 4 rfl<|jot<|jif rfl (jsk<|jtn<|jsq<|jbk<|jjn (fun s2 K=>K [(0, sv p1 y0 c1), (1, sv p2 y1 c2), (5, sv p3 s1.1 c3), (6, vi s1.2), (26, vb s2)] [] [Rl e_Argument p1 c1 y0, Rl (eInt .i64) p2 c2 y1, Rl e_Literal p3 c3 s1.1]) (
  jrg<|jpc 2 rfl<|jix 2 rfl rfl rfl<|fun x1 b1 o1=>jld false oI (gk 0) rfl<|jpc 2 rfl<|jsg 18 rfl (jpc 2 rfl<|jix 3 rfl rfl rfl<|fun x2 b2 o2=>jld false oI (gk 0) rfl<|jpc 3 rfl<|jpe (vb (decide (x2 < (len y0))))<|joe<|
  jnn (gv (fun _ k=>k) [] ⟨gk 3,gk 4,gk 2,⟨⟩⟩))<|jpc 7 rfl<|jpe (vb false)<|joe<|jnn (gv (fun _ k=>k) [] ⟨gk 2,gk 3,gk 1,⟨⟩⟩))<|fun s2 _ k=>k<|jif rfl (jrg<|jpc 4 rfl<|jix 1 rfl rfl rfl<|fun x3 b3 o3=>jld false oI (gk 0) rfl<|
  jix 1 rfl rfl rfl<|fun x4 b4 o4=>jfa 3 rfl<|jld true o_Literal (gs (gs (gs (gk 0)))) rfl<|jcl c_ref01_Insert rfl ⟨ck 4,⟨⟩⟩<|fun r1 _ k p4 c4=>k<|jpc 1 rfl<|joe<|jbn<|jtn<|jrg<|jpc 3 rfl<|joe<|
  jln (gv (fun _ k=>k p4 c4) [] ⟨gk 0,gk 3,gk 4,⟨⟩⟩))<|jsk<|jbn<|jtn<|jrg<|jpc 3 rfl<|joe<|jln (gv (fun _ k=>k p3 c3) [] ⟨gk 2,gk 0,gk 1,⟨⟩⟩))<|jxe<|jte<|jle<|jbh<|jtn<|jsr<|jpc 2 rfl<|jot<|jxr<|jr1 rfl rfl (fun _ k=>k p3 c3) [] ⟨gk 0,⟨⟩⟩

theorem c_ref07_Premises {qd : Prop} {y0 : List T_Argument} {y1 : Int} : Con qd Tryz.prog 96 [sv p1 y0 c1, vi y1] [] [Rl e_Argument p1 c1 y0] (m_ref07_Premises y0 y1) fun r K=>∀ p2 c2,K (sv p2 r c2) [] [Rl (eInt .i64) p2 c2 r] :=
 ent3 Tryz.call96 Tryz.func96 rfl fun X=>jsr<|jpc 1 rfl<|jot<|jsr<|jpc 1 rfl<|jot<|jsq<|jsr<|jpc 2 rfl<|jcl c_ref07_Subs rfl ⟨ck 0,⟨⟩⟩<|fun r1 _ k p2 c2=>k<|jpc 2 rfl<|jot<|jbk<|
  jlp (fun s1 K=>∀ p3 c3,K [(0, sv p1 y0 c1), (5, sv p3 s1.1 c3), (10, sv p2 r1 c2), (11, vi (len r1)), (12, vi s1.2)] [] [Rl (eInt .i64) p3 c3 s1.1, Rl e_Argument p1 c1 y0, Rl (eInt .i64) p2 c2 r1]) (gv (fun _ k=>k none 0) [] ⟨gn,gk 1,gk 0,⟨⟩⟩)<|
  fun s1 _ k p3 c3=>k<|jsr<|jpc 1 rfl<|jot<|jsq<|jif rfl (jsk<|jtn<|jsq<|jbk<|jsr<|jix 2 rfl rfl rfl<|fun x1 b1 o1=>jld false oI (gk 0) rfl<|jpc 1 rfl<|jot<|jsr<|jpc 2 rfl<|jix 2 rfl rfl rfl<|fun x2 b2 o2=>jfa 0 rfl<|
  jld false oI (gf (gk 0)) rfl<|jpc 1 rfl<|jot<|jif rfl (jrg<|jpc 3 rfl<|jix 3 rfl rfl rfl<|fun x3 b3 o3=>jfa 0 rfl<|jld false oI (gf (gk 0)) rfl<|jcl c_ref07_insert rfl ⟨ck 3,⟨⟩⟩<|fun r2 _ k p4 c4=>k<|jpc 1 rfl<|joe<|jbn<|jtn<|jrg<|
  jpc 2 rfl<|joe<|jln (gv (fun _ k=>k p4 c4) [] ⟨gk 0,gk 5,gk 6,⟨⟩⟩))<|jsk<|jbn<|jtn<|jrg<|jpc 2 rfl<|joe<|jln (gv (fun _ k=>k p3 c3) [] ⟨gk 2,gk 3,gk 4,⟨⟩⟩))<|jxe<|jte<|jle<|jbh<|jtn<|jsr<|jpc 2 rfl<|jot<|jxr<|
  jr1 rfl rfl (fun _ k=>k p3 c3) [] ⟨gk 0,⟨⟩⟩

theorem c_ref08_Assumes {qd : Prop} {y0 : T_Base} {y1 : List T_Argument} {y2 : Int} : Con qd Tryz.prog 71 [.agg #[sv p1 y0.1 c1, sv p2 y0.2.1 c2, sv p3 y0.2.2 c3], sv p4 y1 c4, vi y2] [] [Rl e_Premise p1 c1 y0.1, Rl e_Rule p2 c2 y0.2.1, Rl e_Promotion p3 c3 y0.2.2, Rl e_Argument p4 c4 y1] (m_ref08_Assumes y0 y1 y2) fun r K=>K (vb r) [] [] :=
 ent3 Tryz.call71 Tryz.func71 rfl fun X=>jsr<|jbx .s rfl<|fun b1=>jpc 1 rfl<|jot<|jsq<|jsr<|jpc 2 rfl<|jcl c_ref07_Premises rfl ⟨ck 3,⟨⟩⟩<|fun r1 _ k p5 c5=>k<|jpc 2 rfl<|jot<|jbk<|
  jlp (fun s1 K=>K [(3, pt b1 0), (11, sv p5 r1 c5), (12, vi (len r1)), (13, vi s1)] [bx b1 32 [sv p1 y0.1 c1, sv p2 y0.2.1 c2, sv p3 y0.2.2 c3]] [Rl (eInt .i64) p5 c5 r1, Rl e_Premise p1 c1 y0.1, Rl e_Rule p2 c2 y0.2.1, Rl e_Promotion p3 c3 y0.2.2]) (gv (fun _ k=>k) [0] ⟨gk 0,gk 1,gk 2,gk 3,⟨⟩⟩)<|
  fun s1 _ k=>k<|jsr<|jpc 1 rfl<|jot<|jsq<|jif rfl (jsk<|jtn<|jsq<|jbk<|jsr<|jix 0 rfl rfl rfl<|fun x1 b2 o1=>jld false oI (gk 0) rfl<|jpc 1 rfl<|jot<|jsr<|jfa 0 rfl<|jlo 0 rfl rfl rfl<|jpc 1 rfl<|jix 2 rfl rfl rfl<|fun x2 b3 o2=>jfa 2 rfl<|
  jld false oI (gf (gs (gk 0))) rfl<|jpc 1 rfl<|jot<|jif rfl (jsr<|jpc 1 rfl<|jot<|jxr<|jbr<|jtr<|jlr<|jbr<|jtr<|jr1 rfl rfl (fun _ k=>k) [] ⟨⟩)<|jsk<|jbn<|jtn<|jrg<|jpc 2 rfl<|joe<|jln (gv (fun _ k=>k) [0] ⟨gk 2,gk 3,gk 4,gk 5,⟨⟩⟩))<|jxe<|
  jte<|jle<|jbh<|jtn<|jsr<|jpc 1 rfl<|jot<|jxr<|jr1 rfl rfl (fun _ k=>k) [] ⟨⟩

theorem k_ref07_Last_all {qd : Prop} (k : Nat) :
    (∀ {y0 : T_Base} {p1 : Option Addr} {c1 : Nat} {p2 : Option Addr} {c2 : Nat} {p3 : Option Addr} {c3 : Nat} {y1 : List T_Argument} {p4 : Option Addr} {c4 : Nat} {y2 : Int}, Con qd Tryz.prog 98 [.agg #[sv p1 y0.1 c1, sv p2 y0.2.1 c2, sv p3 y0.2.2 c3], sv p4 y1 c4, vi y2] [] [Rl e_Premise p1 c1 y0.1, Rl e_Rule p2 c2 y0.2.1, Rl e_Promotion p3 c3 y0.2.2, Rl e_Argument p4 c4 y1] (k_ref07_Last k y0 y1 y2) fun r K=>∀ p5 c5,K (sv p5 r c5) [] [Rl (eInt .i64) p5 c5 r]) := by
  induction k with
  | zero => exact con0 Tryz.call98
  | succ k ih =>
    have ih_ref07_Last := @ih
    exact @fun y0 p1 c1 p2 c2 p3 c3 y1 p4 c4 y2=>ent3 (m1 := F_ref07_Last (k_ref07_Last k) y0 y1 y2) Tryz.call98 Tryz.func98 rfl fun X=>jsr<|jbx .s rfl<|fun b1=>jpc 1 rfl<|jot<|jsq<|
  jjn (fun s1 K=>K [(1, sv p4 y1 c4), (2, vi y2), (3, pt b1 0), (24, vb s1)] [bx b1 32 [sv p1 y0.1 c1, sv p2 y0.2.1 c2, sv p3 y0.2.2 c3]] [Rl e_Argument p4 c4 y1, Rl e_Premise p1 c1 y0.1, Rl e_Rule p2 c2 y0.2.1, Rl e_Promotion p3 c3 y0.2.2]) (
  jrg<|jpc 3 rfl<|jsg 11 rfl (jpc 4 rfl<|jpe (vb true)<|jpc 7 rfl<|jpe (vb true)<|joe<|jnn (gv (fun _ k=>k) [0] ⟨gk 3,gk 0,gk 1,gk 2,⟨⟩⟩))<|jpc 4 rfl<|jpe (vb (decide ((len y1) ≤ y2)))<|jpc 1 rfl<|jsg 17 rfl (jpc 6 rfl<|jpe (vb true)<|joe<|
  jnn (gv (fun _ k=>k) [0] ⟨gk 3,gk 0,gk 1,gk 2,⟨⟩⟩))<|jpc 2 rfl<|jix 3 rfl rfl rfl<|fun x1 b2 o1=>jfa 1 rfl<|jld false oI (gf (gs (gk 0))) rfl<|jpc 1 rfl<|jpe (vb (decide (x1.2.1 < 0)))<|joe<|
  jnn (gv (fun _ k=>k) [0] ⟨gk 4,gk 1,gk 2,gk 3,⟨⟩⟩))<|fun s1 _ k=>k<|jif rfl (jsr<|jpc 1 rfl<|jot<|jxr<|jtr<|jr1 rfl rfl (fun _ k=>k none 0) [] ⟨gn,⟨⟩⟩)<|jsk<|jtn<|jsq<|jds [] [0] 11<|jdf 0 1 rfl rfl<|jdo 1 0 rfl rfl rfl rfl<|
  jdc 7 [2,3] rfl<|jdi 4 0 rfl rfl rfl rfl<|fun x2 b3 o2=>jdf 5 1 rfl rfl<|jdl 6 false oI rfl (gf (gs (gk 0))) rfl<|jdi 7 3 rfl rfl rfl rfl<|fun x3 b4 o3=>jdf 8 1 rfl rfl<|jdl 9 false oB rfl (gf (gs (gk 0))) rfl<|jdc 0 [10] rfl<|jde<|jtn<|
  jif rfl (jsr<|jpc 2 rfl<|jix 2 rfl rfl rfl<|fun x4 b5 o4=>jfa 1 rfl<|jld false oI (gf (gs (gk 0))) rfl<|jbs .s (e := eInt .i64) 3 [vi x4.2.1] ([x4.2.1] : List Int) (rC vI rN)<|fun p5 c5=>jpc 1 rfl<|jot<|jxr<|jtr<|
  jr1 rfl rfl (fun _ k=>k p5 c5) [] ⟨gk 0,⟨⟩⟩)<|jsk<|jtn<|jsr<|jpc 1 rfl<|jot<|jsq<|jsr<|jpc 1 rfl<|jot<|jbk<|
  jlp (fun s2 K=>∀ p6 c6,K [(1, sv p4 y1 c4), (2, vi y2), (3, pt b1 0), (7, sv p6 s2.1 c6), (8, vi s2.2)] [bx b1 32 [sv p1 y0.1 c1, sv p2 y0.2.1 c2, sv p3 y0.2.2 c3]] [Rl (eInt .i64) p6 c6 s2.1, Rl e_Argument p4 c4 y1, Rl e_Premise p1 c1 y0.1, Rl e_Rule p2 c2 y0.2.1, Rl e_Promotion p3 c3 y0.2.2]) (gv (fun _ k=>k none 0) [0] ⟨gn,gk 2,gk 3,gk 4,gk 5,⟨⟩⟩)<|
  fun s2 _ k p6 c6=>k<|jsq<|jsr<|jpc 3 rfl<|jix 1 rfl rfl rfl<|fun x5 b6 o5=>jfa 2 rfl<|jld false oL (gf (gs (gs (gk 0)))) rfl<|fun p7 c7=>jpc 2 rfl<|jot<|jif rfl (jsk<|jtn<|jsq<|jbk<|jdS [] [0] 14<|jdc 13 [0] rfl<|jda 1 0 3 rfl rfl rfl rfl<|
  jdc 9 [2,3,4] rfl<|jdi 5 3 rfl rfl rfl rfl<|fun x6 b7 o6=>jdf 6 2 rfl rfl<|jdl 7 false oL rfl (gf (gs (gs (gk 0)))) rfl<|fun p8 c8=>jdc 5 [8] rfl<|jdi 9 0 rfl rfl rfl rfl<|fun x7 b8 o7=>jdl 10 false oI rfl (gk 0) rfl<|jd1 11<|
  jca (.f rfl) [] [] ih_ref07_Last rfl rfl rfl ⟨ck 7,ck 8,ck 9,ck 6,⟨⟩⟩<|fun r1 _ k p9 c9=>k<|jdn<|jd1 12<|jca (.f rfl) [] [] c_ref07_union rfl rfl rfl ⟨ck 6,ck 0,⟨⟩⟩<|fun r2 _ k p10 c10=>k<|jdn<|jdc 0 [13] rfl<|jde<|jbn<|jtn<|jrg<|
  jpc 3 rfl<|joe<|jln (gv (fun _ k=>k p10 c10) [0] ⟨gk 0,gk 8,gk 9,gk 10,gk 11,⟨⟩⟩))<|jxe<|jte<|jle<|jbh<|jtn<|jsr<|jpc 2 rfl<|jot<|jxr<|jr1 rfl rfl (fun _ k=>k p6 c6) [] ⟨gk 2,⟨⟩⟩

theorem c_ref07_Last {qd : Prop} {y0 : T_Base} {y1 : List T_Argument} {y2 : Int} : Con qd Tryz.prog 98 [.agg #[sv p1 y0.1 c1, sv p2 y0.2.1 c2, sv p3 y0.2.2 c3], sv p4 y1 c4, vi y2] [] [Rl e_Premise p1 c1 y0.1, Rl e_Rule p2 c2 y0.2.1, Rl e_Promotion p3 c3 y0.2.2, Rl e_Argument p4 c4 y1] (m_ref07_Last y0 y1 y2) fun r K=>∀ p5 c5,K (sv p5 r c5) [] [Rl (eInt .i64) p5 c5 r] := conLim fun k => (k_ref07_Last_all k)

theorem c_ref08_LastRanks {qd : Prop} {y0 : T_Base} {y1 : List T_Argument} {y2 : Int} : Con qd Tryz.prog 74 [.agg #[sv p1 y0.1 c1, sv p2 y0.2.1 c2, sv p3 y0.2.2 c3], sv p4 y1 c4, vi y2] [] [Rl e_Premise p1 c1 y0.1, Rl e_Rule p2 c2 y0.2.1, Rl e_Promotion p3 c3 y0.2.2, Rl e_Argument p4 c4 y1] (m_ref08_LastRanks y0 y1 y2) fun r K=>∀ p5 c5,K (sv p5 r c5) [] [Rl (eInt .i64) p5 c5 r] :=
 ent3 Tryz.call74 Tryz.func74 rfl fun X=>jsr<|jbx .s rfl<|fun b1=>jpc 1 rfl<|jot<|jsr<|jpc 1 rfl<|jro (eInt .i64) 3<|jot<|jsq<|jsr<|jla 0 3 rfl rfl rfl<|jpc 2 rfl<|jcl c_ref07_Last rfl ⟨ck 1,ck 2,ck 3,ck 4,⟨⟩⟩<|fun r1 _ k p5 c5=>k<|jpc 2 rfl<|jot<|jbk<|
  jlp (fun s1 K=>∀ p6 c6 r_1,K [(3, pt b1 0), (7, sv p6 s1.1 c6), (13, sv p5 r1 c5), (14, vi (len r1)), (15, vi s1.2)] [bx b1 32 [sv p1 y0.1 c1, sv p2 y0.2.1 c2, sv p3 y0.2.2 c3], r_1] [Al (eInt .i64) 3 r_1 p6 c6 s1.1, Rl (eInt .i64) p5 c5 r1, Rl e_Premise p1 c1 y0.1, Rl e_Rule p2 c2 y0.2.1, Rl e_Promotion p3 c3 y0.2.2]) (gv (fun _ k=>k none 0 []) [0,1] ⟨gk 1,gk 0,gk 2,gk 3,gk 4,⟨⟩⟩)<|
  fun s1 _ k p6 c6 r_1=>k<|jsr<|jpc 1 rfl<|jot<|jsq<|jif rfl (jsk<|jtn<|jsq<|jbk<|jsr<|jix 1 rfl rfl rfl<|fun x1 b2 o1=>jld false oI (gk 0) rfl<|jpc 1 rfl<|jot<|jrg<|jpc 1 rfl<|jfa 1 rfl<|jlo 0 rfl rfl rfl<|jpc 1 rfl<|jix 4 rfl rfl rfl<|
  fun x2 b3 o2=>jfa 2 rfl<|jld false oI (gf (gs (gs (gk 0)))) rfl<|jbs .s (e := eInt .i64) 3 [vi x2.2.2.1] ([x2.2.2.1] : List Int) (rC vI rN)<|fun p7 c7=>jar .s 1 3 rfl (gk 0) rfl rfl<|fun x3 r_2 p8 c8=>jpc 1 rfl<|joe<|jbn<|jtn<|jrg<|
  jpc 2 rfl<|joe<|jln (gv (fun _ k=>k p8 c8 r_2) [0,1] ⟨gk 0,gk 5,gk 6,gk 7,gk 8,⟨⟩⟩))<|jxe<|jte<|jle<|jbh<|jtn<|jsr<|jpc 2 rfl<|jot<|jxr<|jsh 1 0 rfl rfl<|jr1 rfl rfl (fun _ k=>k p6 c6) [] ⟨gk 0,⟨⟩⟩

theorem c_ref08_PremiseRanks {qd : Prop} {y0 : T_Base} {y1 : List T_Argument} {y2 : Int} : Con qd Tryz.prog 73 [.agg #[sv p1 y0.1 c1, sv p2 y0.2.1 c2, sv p3 y0.2.2 c3], sv p4 y1 c4, vi y2] [] [Rl e_Premise p1 c1 y0.1, Rl e_Rule p2 c2 y0.2.1, Rl e_Promotion p3 c3 y0.2.2, Rl e_Argument p4 c4 y1] (m_ref08_PremiseRanks y0 y1 y2) fun r K=>∀ p5 c5,K (sv p5 r c5) [] [Rl (eInt .i64) p5 c5 r] :=
 ent3 Tryz.call73 Tryz.func73 rfl fun X=>jsr<|jbx .s rfl<|fun b1=>jpc 1 rfl<|jot<|jsr<|jpc 1 rfl<|jro (eInt .i64) 3<|jot<|jsq<|jsr<|jpc 2 rfl<|jcl c_ref07_Premises rfl ⟨ck 4,⟨⟩⟩<|fun r1 _ k p5 c5=>k<|jpc 2 rfl<|jot<|jbk<|
  jlp (fun s1 K=>∀ p6 c6 r_1,K [(3, pt b1 0), (7, sv p6 s1.1 c6), (12, sv p5 r1 c5), (13, vi (len r1)), (14, vi s1.2)] [bx b1 32 [sv p1 y0.1 c1, sv p2 y0.2.1 c2, sv p3 y0.2.2 c3], r_1] [Al (eInt .i64) 3 r_1 p6 c6 s1.1, Rl (eInt .i64) p5 c5 r1, Rl e_Premise p1 c1 y0.1, Rl e_Rule p2 c2 y0.2.1, Rl e_Promotion p3 c3 y0.2.2]) (gv (fun _ k=>k none 0 []) [0,1] ⟨gk 1,gk 0,gk 2,gk 3,gk 4,⟨⟩⟩)<|
  fun s1 _ k p6 c6 r_1=>k<|jsr<|jpc 1 rfl<|jot<|jsq<|jif rfl (jsk<|jtn<|jsq<|jbk<|jsr<|jix 1 rfl rfl rfl<|fun x1 b2 o1=>jld false oI (gk 0) rfl<|jpc 1 rfl<|jot<|jsr<|jfa 0 rfl<|jlo 0 rfl rfl rfl<|jpc 1 rfl<|jix 3 rfl rfl rfl<|fun x2 b3 o2=>
  jfa 2 rfl<|jld false oI (gf (gs (gk 0))) rfl<|jot<|jbk<|jsr<|jpc 2 rfl<|jot<|jif rfl (jrg<|jpc 1 rfl<|jfa 0 rfl<|jlo 0 rfl rfl rfl<|jpc 1 rfl<|jix 4 rfl rfl rfl<|fun x3 b4 o3=>jfa 3 rfl<|jld false oI (gf (gs (gs (gk 0)))) rfl<|
  jbs .s (e := eInt .i64) 3 [vi x3.2.2.1] ([x3.2.2.1] : List Int) (rC vI rN)<|fun p7 c7=>jar .s 1 4 rfl (gk 0) rfl rfl<|fun x4 r_2 p8 c8=>jpc 1 rfl<|joe<|jbn<|jbn<|jtn<|jrg<|jpc 2 rfl<|joe<|
  jln (gv (fun _ k=>k p8 c8 r_2) [0,1] ⟨gk 0,gk 6,gk 7,gk 8,gk 9,⟨⟩⟩))<|jsr<|jpc 2 rfl<|jot<|jif rfl (jrg<|jpc 1 rfl<|jbs .s (e := eInt .i64) 3 [vi (-1)] ([(-1)] : List Int) (rC vI rN)<|fun p9 c9=>jar .s 1 3 rfl (gk 0) rfl rfl<|
  fun x5 r_3 p10 c10=>jpc 1 rfl<|joe<|jbn<|jbn<|jtn<|jrg<|jpc 2 rfl<|joe<|jln (gv (fun _ k=>k p10 c10 r_3) [0,1] ⟨gk 0,gk 5,gk 6,gk 7,gk 8,⟨⟩⟩))<|jsk<|jbn<|jbn<|jtn<|jrg<|jpc 2 rfl<|joe<|
  jln (gv (fun _ k=>k p6 c6 r_1) [0,1] ⟨gk 2,gk 3,gk 4,gk 5,gk 6,⟨⟩⟩))<|jxe<|jte<|jle<|jbh<|jtn<|jsr<|jpc 2 rfl<|jot<|jxr<|jsh 1 0 rfl rfl<|jr1 rfl rfl (fun _ k=>k p6 c6) [] ⟨gk 0,⟨⟩⟩

theorem c_ref08_RuleRanks {qd : Prop} {y0 : T_Base} {y1 : List T_Argument} {y2 : Int} : Con qd Tryz.prog 75 [.agg #[sv p1 y0.1 c1, sv p2 y0.2.1 c2, sv p3 y0.2.2 c3], sv p4 y1 c4, vi y2] [] [Rl e_Premise p1 c1 y0.1, Rl e_Rule p2 c2 y0.2.1, Rl e_Promotion p3 c3 y0.2.2, Rl e_Argument p4 c4 y1] (m_ref08_RuleRanks y0 y1 y2) fun r K=>∀ p5 c5,K (sv p5 r c5) [] [Rl (eInt .i64) p5 c5 r] :=
 ent3 Tryz.call75 Tryz.func75 rfl fun X=>jsr<|jbx .s rfl<|fun b1=>jpc 1 rfl<|jot<|jsr<|jpc 1 rfl<|jro (eInt .i64) 3<|jot<|jsq<|jsr<|jla 0 3 rfl rfl rfl<|jpc 2 rfl<|jcl c_ref07_Defeasible rfl ⟨ck 1,ck 2,ck 3,ck 4,⟨⟩⟩<|fun r1 _ k p5 c5=>k<|jpc 2 rfl<|jot<|jbk<|
  jlp (fun s1 K=>∀ p6 c6 r_1,K [(3, pt b1 0), (7, sv p6 s1.1 c6), (13, sv p5 r1 c5), (14, vi (len r1)), (15, vi s1.2)] [bx b1 32 [sv p1 y0.1 c1, sv p2 y0.2.1 c2, sv p3 y0.2.2 c3], r_1] [Al (eInt .i64) 3 r_1 p6 c6 s1.1, Rl (eInt .i64) p5 c5 r1, Rl e_Premise p1 c1 y0.1, Rl e_Rule p2 c2 y0.2.1, Rl e_Promotion p3 c3 y0.2.2]) (gv (fun _ k=>k none 0 []) [0,1] ⟨gk 1,gk 0,gk 2,gk 3,gk 4,⟨⟩⟩)<|
  fun s1 _ k p6 c6 r_1=>k<|jsr<|jpc 1 rfl<|jot<|jsq<|jif rfl (jsk<|jtn<|jsq<|jbk<|jsr<|jix 1 rfl rfl rfl<|fun x1 b2 o1=>jld false oI (gk 0) rfl<|jpc 1 rfl<|jot<|jrg<|jpc 1 rfl<|jfa 1 rfl<|jlo 0 rfl rfl rfl<|jpc 1 rfl<|jix 4 rfl rfl rfl<|
  fun x2 b3 o2=>jfa 2 rfl<|jld false oI (gf (gs (gs (gk 0)))) rfl<|jbs .s (e := eInt .i64) 3 [vi x2.2.2.1] ([x2.2.2.1] : List Int) (rC vI rN)<|fun p7 c7=>jar .s 1 3 rfl (gk 0) rfl rfl<|fun x3 r_2 p8 c8=>jpc 1 rfl<|joe<|jbn<|jtn<|jrg<|
  jpc 2 rfl<|joe<|jln (gv (fun _ k=>k p8 c8 r_2) [0,1] ⟨gk 0,gk 5,gk 6,gk 7,gk 8,⟨⟩⟩))<|jxe<|jte<|jle<|jbh<|jtn<|jsr<|jpc 2 rfl<|jot<|jxr<|jsh 1 0 rfl rfl<|jr1 rfl rfl (fun _ k=>k p6 c6) [] ⟨gk 0,⟨⟩⟩

theorem c_ref08_extremes {qd : Prop} {y0 : List Int} : Con qd Tryz.prog 97 [sv p1 y0 c1] [] [Rl (eInt .i64) p1 c1 y0] (m_ref08_extremes y0) fun r K=>K (.tuple #[vi r.1, vi r.2]) [] [] :=
 ent3 Tryz.call97 Tryz.func97 rfl fun X=>jsr<|jpc 2 rfl<|jot<|jds [] [] 8<|jdc 7 [0] rfl<|jdi 1 0 rfl rfl rfl rfl<|fun x1 b1 o1=>jdl 2 false oI rfl (gk 0) rfl<|jdc 4 [3] rfl<|jdi 4 1 rfl rfl rfl rfl<|fun x2 b2 o2=>jdl 5 false oI rfl (gk 0) rfl<|jdc 0 [6,7] rfl<|jde<|jtn<|jsq<|
  jsr<|jpc 1 rfl<|jot<|jbk<|jlp (fun s1 K=>K [(0, sv p1 y0 c1), (4, vi s1.1), (5, vi s1.2.1), (6, vi s1.2.2)] [] [Rl (eInt .i64) p1 c1 y0]) (gv (fun _ k=>k) [] ⟨gk 2,⟨⟩⟩)<|fun s1 _ k=>k<|jsq<|jsr<|jpc 4 rfl<|jot<|jif rfl (jsk<|jtn<|jsq<|jbk<|
  jdS [] [] 14<|jdc 11 [0,1,2] rfl<|jdi 3 0 rfl rfl rfl rfl<|fun x3 b3 o3=>jdl 4 false oI rfl (gk 0) rfl<|jdc 5 [5,6,7,8] rfl<|jdi 9 1 rfl rfl rfl rfl<|fun x4 b4 o4=>jdl 10 false oI rfl (gk 0) rfl<|jdc 0 [11,12,13] rfl<|jde<|jbn<|jtn<|jrg<|
  jpc 3 rfl<|joe<|jln (gv (fun _ k=>k) [] ⟨gk 2,⟨⟩⟩))<|jxe<|jte<|jle<|jbh<|jtn<|jsr<|jpc 4 rfl<|jot<|jxr<|jrg' rfl (lT rfl (lT rfl lN)) (fun _ k=>k) [] ⟨⟩

theorem c_ref08_SetLess {qd : Prop} {y0 : List Int} {y1 : List Int} {y2 : Int} : Con qd Tryz.prog 72 [sv p1 y0 c1, sv p2 y1 c2, vi y2] [] [Rl (eInt .i64) p1 c1 y0, Rl (eInt .i64) p2 c2 y1] (m_ref08_SetLess y0 y1 y2) fun r K=>K (vb r) [] [] :=
 ent3 Tryz.call72 Tryz.func72 rfl fun X=>jsr<|jpc 1 rfl<|jot<|jsq<|jjp (fun K=>K [(0, sv p1 y0 c1), (1, sv p2 y1 c2), (2, vi y2), (21, vb (if y2 != 1 then (y2 != 2) || ((len y0) == 0) else (len y0) == 0))] [] [Rl (eInt .i64) p1 c1 y0, Rl (eInt .i64) p2 c2 y1]) (jrg<|jpc 3 rfl<|
  jsp (b := y2 != 1) 13 rfl (fun hb1=>jpc 2 rfl<|jpe (vb (y2 != 2))<|jpc 1 rfl<|jsp (b := y2 != 2) 17 rfl (fun hb2=>jpc 3 rfl<|jpe (vb true)<|joe<|
  jup 21 (vb (if y2 != 1 then (y2 != 2) || ((len y0) == 0) else (len y0) == 0)) rfl (by rw [hb1,hb2]; rfl)<|jnn (gv (fun _ k=>k) [] ⟨gk 0,gk 1,⟨⟩⟩))<|fun hb2=>jpc 3 rfl<|jpe (vb ((len y0) == 0))<|joe<|
  jup 21 (vb (if y2 != 1 then (y2 != 2) || ((len y0) == 0) else (len y0) == 0)) rfl (by rw [hb1,hb2]; rfl)<|jnn (gv (fun _ k=>k) [] ⟨gk 0,gk 1,⟨⟩⟩))<|fun hb1=>jpc 2 rfl<|jpe (vb false)<|jpc 4 rfl<|jpe (vb ((len y0) == 0))<|joe<|
  jup 21 (vb (if y2 != 1 then (y2 != 2) || ((len y0) == 0) else (len y0) == 0)) rfl (by rw [hb1]; rfl)<|jnn (gv (fun _ k=>k) [] ⟨gk 0,gk 1,⟨⟩⟩))<|fun _ k=>k<|jif rfl (jsr<|jpc 1 rfl<|jot<|jxr<|jtr<|jr1 rfl rfl (fun _ k=>k) [] ⟨⟩)<|jsk<|jtn<|
  jsq<|jsr<|jpc 3 rfl<|jot<|jif rfl (jsr<|jpc 1 rfl<|jot<|jxr<|jtr<|jr1 rfl rfl (fun _ k=>k) [] ⟨⟩)<|jsk<|jtn<|jsr<|jpc 1 rfl<|jcl c_ref08_extremes rfl ⟨ck 0,⟨⟩⟩<|fun r1 _ k=>k<|jpc 5 rfl<|jot<|jsr<|jpc 1 rfl<|
  jcl c_ref08_extremes rfl ⟨ck 1,⟨⟩⟩<|fun r2 _ k=>k<|jpc 5 rfl<|jot<|jsq<|jsr<|jpc 2 rfl<|jot<|jif rfl (jsr<|jpc 4 rfl<|jot<|jxr<|jtr<|jr1 rfl rfl (fun _ k=>k) [] ⟨⟩)<|jsk<|jtn<|jsr<|jpc 4 rfl<|jot<|jxr<|jr1 rfl rfl (fun _ k=>k) [] ⟨⟩

theorem c_ref08_Less {qd : Prop} {y0 : T_Base} {y1 : List T_Argument} {y2 : Int} {y3 : Int} {y4 : T_Ordering} : Con qd Tryz.prog 45 [.agg #[sv p1 y0.1 c1, sv p2 y0.2.1 c2, sv p3 y0.2.2 c3], sv p4 y1 c4, vi y2, vi y3, .agg #[vi y4.1, vi y4.2]] [] [Rl e_Premise p1 c1 y0.1, Rl e_Rule p2 c2 y0.2.1, Rl e_Promotion p3 c3 y0.2.2, Rl e_Argument p4 c4 y1] (m_ref08_Less y0 y1 y2 y3 y4) fun r K=>K (vb r) [] [] :=
 ent3 Tryz.call45 Tryz.func45 rfl fun X=>jsr<|jbx .s rfl<|fun b1=>jbx .s rfl<|fun b2=>jpc 1 rfl<|jot<|jsq<|
  jjn (fun s1 K=>K [(1, sv p4 y1 c4), (2, vi y2), (3, vi y3), (5, pt b1 0), (9, pt b2 0), (40, vb s1)] [bx b1 32 [sv p1 y0.1 c1, sv p2 y0.2.1 c2, sv p3 y0.2.2 c3], bx b2 27 [vi y4.1, vi y4.2]] [Rl e_Argument p4 c4 y1, Rl e_Premise p1 c1 y0.1, Rl e_Rule p2 c2 y0.2.1, Rl e_Promotion p3 c3 y0.2.2]) (
  jrg<|jpc 3 rfl<|jsg 19 rfl (jpc 4 rfl<|jpe (vb true)<|jpc 3 rfl<|jpe (vb true)<|jpc 5 rfl<|jpe (vb true)<|jpc 5 rfl<|jpe (vb true)<|joe<|jnn (gv (fun _ k=>k) [0,1] ⟨gk 3,gk 0,gk 1,gk 2,⟨⟩⟩))<|jpc 4 rfl<|jpe (vb (decide ((len y1) ≤ y2)))<|
  jpc 1 rfl<|jsg 25 rfl (jpc 2 rfl<|jpe (vb true)<|jpc 5 rfl<|jpe (vb true)<|jpc 5 rfl<|jpe (vb true)<|joe<|jnn (gv (fun _ k=>k) [0,1] ⟨gk 3,gk 0,gk 1,gk 2,⟨⟩⟩))<|jpc 2 rfl<|jpe (vb (decide (y3 < 0)))<|jpc 1 rfl<|jsg 29 rfl (jpc 4 rfl<|
  jpe (vb true)<|jpc 5 rfl<|jpe (vb true)<|joe<|jnn (gv (fun _ k=>k) [0,1] ⟨gk 3,gk 0,gk 1,gk 2,⟨⟩⟩))<|jpc 4 rfl<|jpe (vb (decide ((len y1) ≤ y3)))<|jpc 1 rfl<|jsg 35 rfl (jpc 4 rfl<|jpe (vb true)<|joe<|
  jnn (gv (fun _ k=>k) [0,1] ⟨gk 3,gk 0,gk 1,gk 2,⟨⟩⟩))<|jla 0 3 rfl rfl rfl<|jpc 2 rfl<|jcl c_ref08_Assumes rfl ⟨ck 0,ck 1,ck 2,ck 3,⟨⟩⟩<|fun r1 _ k=>k<|jpe (vb r1)<|joe<|jnn (gv (fun _ k=>k) [0,1] ⟨gk 3,gk 0,gk 1,gk 2,⟨⟩⟩))<|fun s1 _ k=>k<|
  jif rfl (jsr<|jpc 1 rfl<|jot<|jxr<|jtr<|jr1 rfl rfl (fun _ k=>k) [] ⟨⟩)<|jsk<|jtn<|jds [] [0, 1] 12<|jda 0 0 3 rfl rfl rfl rfl<|jdc 9 [1,2] rfl<|jda 4 0 3 rfl rfl rfl rfl<|jdc 6 [5,6] rfl<|jdf 8 1 rfl rfl<|jdo 9 1 rfl rfl rfl rfl<|jd1 3<|
  jca (.f rfl) [] [] c_ref08_PremiseRanks rfl rfl rfl ⟨ck 1,ck 2,ck 3,ck 0,⟨⟩⟩<|fun r2 _ k p5 c5=>k<|jdn<|jd1 7<|jca (.f rfl) [] [] c_ref08_PremiseRanks rfl rfl rfl ⟨ck 2,ck 3,ck 4,ck 1,⟨⟩⟩<|fun r3 _ k p6 c6=>k<|jdn<|jd1 10<|
  jca (.f rfl) [] [] c_ref08_SetLess rfl rfl rfl ⟨ck 1,ck 0,⟨⟩⟩<|fun r4 _ k=>k<|jdn<|jdc 0 [11] rfl<|jde<|jtn<|jsq<|jsr<|jfa 0 rfl<|jlo 1 rfl rfl rfl<|jot<|jbk<|jsr<|jpc 2 rfl<|jot<|jif rfl (jds [] [0] 10<|jda 0 0 3 rfl rfl rfl rfl<|
  jdc 7 [1,2] rfl<|jda 4 0 3 rfl rfl rfl rfl<|jdc 4 [5,6] rfl<|jd1 3<|jca (.f rfl) [] [] c_ref08_LastRanks rfl rfl rfl ⟨ck 3,ck 4,ck 5,ck 2,⟨⟩⟩<|fun r5 _ k p7 c7=>k<|jdn<|jd1 7<|
  jca (.f rfl) [] [] c_ref08_LastRanks rfl rfl rfl ⟨ck 4,ck 5,ck 6,ck 3,⟨⟩⟩<|fun r6 _ k p8 c8=>k<|jdn<|jdc 0 [8,9] rfl<|jde<|jtn<|jjn (fun s2 K=>K [(10, vb s2)] [[], []] []) (jrg<|jpc 2 rfl<|jfa 1 rfl<|jlo 1 rfl rfl rfl<|
  jcl c_ref08_SetLess rfl ⟨ck 1,ck 0,⟨⟩⟩<|fun r7 _ k=>k<|jpc 1 rfl<|jsg 69 rfl (jpc 11 rfl<|jpe (vb true)<|jpc 1 rfl<|joe<|jnn (gv (fun _ k=>k) [900,901] ⟨⟩))<|jpc 4 rfl<|jsg 73 rfl (jpc 3 rfl<|jpe (vb ((len r6) == 0))<|jpc 1 rfl<|
  jsg 78 rfl (jpc 1 rfl<|jpe (vb r4)<|jpe (vb r4)<|jpc 1 rfl<|joe<|jnn (gv (fun _ k=>k) [900,901] ⟨⟩))<|jpc 1 rfl<|jpe (vb false)<|jpe (vb false)<|jpc 1 rfl<|joe<|jnn (gv (fun _ k=>k) [900,901] ⟨⟩))<|jpc 3 rfl<|jpe (vb false)<|jpc 2 rfl<|
  jpe (vb false)<|jpe (vb false)<|jpc 1 rfl<|joe<|jnn (gv (fun _ k=>k) [900,901] ⟨⟩))<|fun s2 _ k=>k<|jxr<|jbr<|jtr<|jr1 rfl rfl (fun _ k=>k) [] ⟨⟩)<|jsr<|jpc 2 rfl<|jot<|jif rfl (jds [] [0] 10<|jda 0 0 3 rfl rfl rfl rfl<|jdc 7 [1,2] rfl<|
  jda 4 0 3 rfl rfl rfl rfl<|jdc 4 [5,6] rfl<|jd1 3<|jca (.f rfl) [] [] c_ref08_RuleRanks rfl rfl rfl ⟨ck 3,ck 4,ck 5,ck 2,⟨⟩⟩<|fun r8 _ k p9 c9=>k<|jdn<|jd1 7<|jca (.f rfl) [] [] c_ref08_RuleRanks rfl rfl rfl ⟨ck 4,ck 5,ck 6,ck 3,⟨⟩⟩<|
  fun r9 _ k p10 c10=>k<|jdn<|jdc 0 [8,9] rfl<|jde<|jtn<|jsq<|
  jjp (fun K=>K [(1, sv p4 y1 c4), (2, vi y2), (3, vi y3), (5, pt b1 0), (9, pt b2 0), (11, vb r4), (14, sv p9 r8 c9), (15, sv p10 r9 c10), (99, vb (((len r8) == 0) && ((len r9) == 0)))] [bx b1 32 [sv p1 y0.1 c1, sv p2 y0.2.1 c2, sv p3 y0.2.2 c3], bx b2 27 [vi y4.1, vi y4.2]] [Rl e_Argument p4 c4 y1, Rl (eInt .i64) p9 c9 r8, Rl (eInt .i64) p10 c10 r9, Rl e_Premise p1 c1 y0.1, Rl e_Rule p2 c2 y0.2.1, Rl e_Promotion p3 c3 y0.2.2]) (
  jrg<|jpc 4 rfl<|jsp (b := (len r8) == 0) 95 rfl (fun hb8=>jpc 3 rfl<|jpe (vb ((len r9) == 0))<|joe<|jup 99 (vb (((len r8) == 0) && ((len r9) == 0))) rfl (by rw [hb8]; rfl)<|jnn (gv (fun _ k=>k) [0,1] ⟨gk 4,gk 1,gk 0,gk 5,gk 6,gk 7,⟨⟩⟩)
  )<|fun hb8=>jpc 3 rfl<|jpe (vb false)<|joe<|jup 99 (vb (((len r8) == 0) && ((len r9) == 0))) rfl (by rw [hb8]; rfl)<|jnn (gv (fun _ k=>k) [0,1] ⟨gk 4,gk 1,gk 0,gk 5,gk 6,gk 7,⟨⟩⟩))<|fun _ k=>k<|jif rfl (jsr<|jpc 2 rfl<|jot<|jxr<|jtr<|jbr<|
  jtr<|jr1 rfl rfl (fun _ k=>k) [] ⟨⟩)<|jsk<|jtn<|jsr<|jpc 2 rfl<|jfa 1 rfl<|jlo 1 rfl rfl rfl<|jcl c_ref08_SetLess rfl ⟨ck 1,ck 2,⟨⟩⟩<|fun r10 _ k=>k<|jpc 1 rfl<|jot<|jsq<|
  jjn (fun s3 K=>K [(11, vb r4), (16, vb r10), (119, vb s3)] [[], []] []) (jrg<|jla 0 3 rfl rfl rfl<|jpc 2 rfl<|jcl c_ref08_PremiseRanks rfl ⟨ck 3,ck 4,ck 5,ck 0,⟨⟩⟩<|fun r11 _ k p11 c11=>k<|jpc 3 rfl<|jsg 112 rfl (jla 0 3 rfl rfl rfl<|
  jpc 2 rfl<|jcl c_ref08_PremiseRanks rfl ⟨ck 4,ck 5,ck 6,ck 1,⟨⟩⟩<|fun r12 _ k p12 c12=>k<|jpc 2 rfl<|jpe (vb ((len r12) == 0))<|joe<|jnn (gv (fun _ k=>k) [900,901] ⟨⟩))<|jpc 6 rfl<|jpe (vb false)<|joe<|jnn (gv (fun _ k=>k) [900,901] ⟨⟩))<|
  fun s3 _ k=>k<|jif rfl (jsr<|jpc 2 rfl<|jot<|jxr<|jtr<|jbr<|jtr<|jr1 rfl rfl (fun _ k=>k) [] ⟨⟩)<|jsk<|jtn<|jjp (fun K=>K [(10, vb (r4 && r10))] [[], []] []) (jrg<|jpc 2 rfl<|jsp (b := r4) 122 rfl (fun hb10=>jpc 1 rfl<|jpe (vb r10)<|
  jpc 1 rfl<|joe<|jup 10 (vb (r4 && r10)) rfl (by rw [hb10]; rfl)<|jnn (gv (fun _ k=>k) [900,901] ⟨⟩))<|fun hb10=>jpc 1 rfl<|jpe (vb false)<|jpc 1 rfl<|joe<|jup 10 (vb (r4 && r10)) rfl (by rw [hb10]; rfl)<|jnn (gv (fun _ k=>k) [900,901] ⟨⟩)
  )<|fun _ k=>k<|jxr<|jbr<|jtr<|jr1 rfl rfl (fun _ k=>k) [] ⟨⟩)<|jsk<|jbn<|jtn<|jsr<|jpc 1 rfl<|jot<|jxr<|jr1 rfl rfl (fun _ k=>k) [] ⟨⟩

theorem c_ref01_Complement {qd : Prop} {y0 : T_Literal} : Con qd Tryz.prog 95 [.agg #[vb y0.1, vs y0.2]] [] [] (m_ref01_Complement y0) fun r K=>K (.agg #[vb r.1, vs r.2]) [] [] :=
 ent3 Tryz.call95 Tryz.func95 rfl fun X=>jsr<|jbx .s rfl<|fun b1=>jal .s (.agg #[vb false, vs []])<|fun b2=>jot<|jsr<|jfa 0 rfl<|jlo 0 rfl rfl rfl<|jpc 1 rfl<|jfa 1 rfl<|jlo 0 rfl rfl rfl<|jpe (.agg #[vb (!y0.1), vs y0.2])<|jso .s 1 rfl rfl rfl<|jot<|jxr<|
  jrg' rfl (lC 1 (.agg #[vb (!y0.1), vs y0.2]) rfl rfl lN) (fun _ k=>k) [] ⟨⟩

theorem c_ref09_attacks {qd : Prop} {y0 : T_Base} {y1 : List T_Argument} {y2 : Int} {y3 : Int} {y4 : Int} : Con qd Tryz.prog 70 [.agg #[sv p1 y0.1 c1, sv p2 y0.2.1 c2, sv p3 y0.2.2 c3], sv p4 y1 c4, vi y2, vi y3, vi y4] [] [Rl e_Premise p1 c1 y0.1, Rl e_Rule p2 c2 y0.2.1, Rl e_Promotion p3 c3 y0.2.2, Rl e_Argument p4 c4 y1] (m_ref09_attacks y0 y1 y2 y3 y4) fun r K=>K (vb r) [] [] :=
 ent3 Tryz.call70 Tryz.func70 rfl fun X=>jsr<|jbx .s rfl<|fun b1=>jpc 1 rfl<|jot<|jds [] [] 13<|jdc 11 [0,1] rfl<|jdi 2 3 rfl rfl rfl rfl<|fun x1 b2 o1=>jdf 3 3 rfl rfl<|jdl 4 true o_Literal rfl (gs (gs (gs (gk 0)))) rfl<|jdc 6 [5,6] rfl<|jdi 7 4 rfl rfl rfl rfl<|fun x2 b3 o2=>
  jdf 8 3 rfl rfl<|jdl 9 true o_Literal rfl (gs (gs (gs (gk 0)))) rfl<|jd1 10<|jca (.f rfl) [] [] c_ref01_Complement rfl rfl rfl ⟨⟩<|fun r1 _ k=>k<|jdn<|jdp 11 (vb (x1.2.2.2 == r1)) rfl<|jdc 0 [12] rfl<|jde<|jtn<|jsq<|jsr<|jpc 2 rfl<|
  jix 5 rfl rfl rfl<|fun x3 b4 o3=>jfa 1 rfl<|jld false oI (gf (gs (gk 0))) rfl<|jpc 1 rfl<|jot<|jif rfl (jjn (fun s1 K=>K [(10, vb s1)] [[]] []) (jdS [] [0] 19<|jdc 16 [0,1,2] rfl<|jsg 33 rfl (jdf 3 0 rfl rfl<|jdo 4 0 rfl rfl rfl rfl<|
  jdc 12 [5,6] rfl<|jdi 7 6 rfl rfl rfl rfl<|fun x4 b5 o4=>jdf 8 0 rfl rfl<|jdl 9 false oI rfl (gf (gk 0)) rfl<|jdi 10 4 rfl rfl rfl rfl<|fun x5 b6 o5=>jdf 11 2 rfl rfl<|jdl 12 false oI rfl (gf (gs (gk 0))) rfl<|jdc 5 [13] rfl<|
  jdp 14 (vb (x5.2.1 != 1)) rfl<|jdc 3 [15] rfl<|jsg 46 rfl (jdc 2 [16] rfl<|jdp 17 (vb (x1.2.2.2 == r1)) rfl<|jdc 0 [18] rfl<|jde<|jnn (gv (fun _ k=>k) [900] ⟨⟩))<|jdc 2 [16] rfl<|jdp 17 (vb false) rfl<|jdc 0 [18] rfl<|jde<|
  jnn (gv (fun _ k=>k) [900] ⟨⟩))<|jdc 5 [3,4,5,6,7,8,9,10,11,12,13] rfl<|jdp 14 (vb false) rfl<|jdc 2 [15,16] rfl<|jdp 17 (vb false) rfl<|jdc 0 [18] rfl<|jde<|jnn (gv (fun _ k=>k) [900] ⟨⟩))<|fun s1 _ k=>k<|jxr<|jtr<|
  jr1 rfl rfl (fun _ k=>k) [] ⟨⟩)<|jsk<|jtn<|jds [] [0] 11<|jdf 0 1 rfl rfl<|jdo 1 0 rfl rfl rfl rfl<|jdc 7 [2,3] rfl<|jdi 4 6 rfl rfl rfl rfl<|fun x6 b7 o6=>jdf 5 1 rfl rfl<|jdl 6 false oI rfl (gf (gs (gk 0))) rfl<|jdi 7 5 rfl rfl rfl rfl<|
  fun x7 b8 o7=>jdl 8 true o_Rule rfl (gk 0) rfl<|fun p5 c5=>jd1 9<|jal (.f rfl) (.agg #[vs [], vb false, vi 0, .slice none 0 0, vb false, vs []])<|fun b9=>jdn<|jd1 10<|jso (o := 0) (.f rfl) 1 rfl rfl rfl<|jdn<|jde<|jtn<|jsq<|jsr<|jpc 1 rfl<|
  jot<|jbk<|jsr<|jpc 2 rfl<|jot<|jif rfl (jjp (fun K=>K [(10, vb ((!x7.2.1) && (x1.2.2.2 == r1)))] [[], []] []) (jrg<|jfa 1 rfl<|jlo 1 rfl rfl rfl<|jpc 2 rfl<|jsp (b := !x7.2.1) 64 rfl (fun hb3=>jpc 1 rfl<|jpe (vb (x1.2.2.2 == r1))<|
  jpc 1 rfl<|joe<|jup 10 (vb ((!x7.2.1) && (x1.2.2.2 == r1))) rfl (by rw [hb3]; rfl)<|jnn (gv (fun _ k=>k) [900,901] ⟨⟩))<|fun hb3=>jpc 1 rfl<|jpe (vb false)<|jpc 1 rfl<|joe<|
  jup 10 (vb ((!x7.2.1) && (x1.2.2.2 == r1))) rfl (by rw [hb3]; rfl)<|jnn (gv (fun _ k=>k) [900,901] ⟨⟩))<|fun _ k=>k<|jxr<|jbr<|jtr<|jr1 rfl rfl (fun _ k=>k) [] ⟨⟩)<|jsr<|jpc 2 rfl<|jot<|jif rfl (jjn (fun s2 K=>K [(10, vb s2)] [[], []] []) (
  jdS [] [1] 15<|jdf 0 1 rfl rfl<|jdo 1 1 rfl rfl rfl rfl<|jdc 11 [2,3] rfl<|jsg 72 rfl (jdc 9 [4,5] rfl<|jdi 6 9 rfl rfl rfl rfl<|fun x8 b10 o8=>jdf 7 3 rfl rfl<|jdl 8 true o_Literal rfl (gs (gs (gs (gk 0)))) rfl<|jdf 9 0 rfl rfl<|
  jdo 10 1 rfl rfl rfl rfl<|jdp 11 (.agg #[vb true, vs x7.1]) rfl<|jdp 12 (vb (x8.2.2.2 == (true, x7.1))) rfl<|jdp 13 (vb (x8.2.2.2 == (true, x7.1))) rfl<|jdc 0 [14] rfl<|jde<|jnn (gv (fun _ k=>k) [900,901] ⟨⟩))<|
  jdc 2 [4,5,6,7,8,9,10,11,12] rfl<|jdp 13 (vb false) rfl<|jdc 0 [14] rfl<|jde<|jnn (gv (fun _ k=>k) [900,901] ⟨⟩))<|fun s2 _ k=>k<|jxr<|jbr<|jtr<|jr1 rfl rfl (fun _ k=>k) [] ⟨⟩)<|jsk<|jbn<|jtn<|jsr<|jpc 1 rfl<|jot<|jxr<|
  jr1 rfl rfl (fun _ k=>k) [] ⟨⟩

theorem c_ref09_Attacks {qd : Prop} {y0 : T_Base} {y1 : List T_Argument} : Con qd Tryz.prog 44 [.agg #[sv p1 y0.1 c1, sv p2 y0.2.1 c2, sv p3 y0.2.2 c3], sv p4 y1 c4] [] [Rl e_Premise p1 c1 y0.1, Rl e_Rule p2 c2 y0.2.1, Rl e_Promotion p3 c3 y0.2.2, Rl e_Argument p4 c4 y1] (m_ref09_Attacks y0 y1) fun r K=>∀ p5 c5,K (sv p5 r c5) [] [Rl e_Attack p5 c5 r] :=
 ent3 Tryz.call44 Tryz.func44 rfl fun X=>jsr<|jbx .s rfl<|fun b1=>jpc 1 rfl<|jot<|jsr<|jpc 1 rfl<|jro e_Attack 96<|jot<|jsq<|jsr<|jpc 1 rfl<|jot<|jbk<|
  jlp (fun s1 K=>∀ p5 c5 r_1,K [(1, sv p4 y1 c4), (2, pt b1 0), (5, sv p5 s1.1 c5), (6, vi s1.2)] [bx b1 32 [sv p1 y0.1 c1, sv p2 y0.2.1 c2, sv p3 y0.2.2 c3], r_1] [Al e_Attack 96 r_1 p5 c5 s1.1, Rl e_Argument p4 c4 y1, Rl e_Premise p1 c1 y0.1, Rl e_Rule p2 c2 y0.2.1, Rl e_Promotion p3 c3 y0.2.2]) (gv (fun _ k=>k none 0 []) [0,1] ⟨gk 0,gk 4,gk 1,gk 2,gk 3,⟨⟩⟩)<|
  fun s1 _ k p5 c5 r_1=>k<|jsq<|jsr<|jpc 4 rfl<|jot<|jif rfl (jsk<|jtn<|jsq<|jbk<|jsr<|jpc 1 rfl<|jot<|jbk<|
  jlp (fun s2 K=>∀ p6 c6 r_2,K [(1, sv p4 y1 c4), (2, pt b1 0), (5, sv p6 s2.1 c6), (6, vi s1.2), (7, vi s2.2)] [bx b1 32 [sv p1 y0.1 c1, sv p2 y0.2.1 c2, sv p3 y0.2.2 c3], r_2] [Al e_Attack 96 r_2 p6 c6 s2.1, Rl e_Argument p4 c4 y1, Rl e_Premise p1 c1 y0.1, Rl e_Rule p2 c2 y0.2.1, Rl e_Promotion p3 c3 y0.2.2]) (gv (fun _ k=>k p5 c5 r_1) [0,1] ⟨gk 0,gk 1,gk 2,gk 3,gk 4,⟨⟩⟩)<|
  fun s2 _ k p6 c6 r_2=>k<|jsq<|jsr<|jpc 4 rfl<|jot<|jif rfl (jsk<|jtn<|jsq<|jbk<|jsr<|jpc 2 rfl<|jcl c_ref07_Subs rfl ⟨ck 1,⟨⟩⟩<|fun r1 _ k p7 c7=>k<|jpc 2 rfl<|jot<|jbk<|
  jlp (fun s3 K=>∀ p8 c8 r_3,K [(1, sv p4 y1 c4), (2, pt b1 0), (5, sv p8 s3.1 c8), (6, vi s1.2), (7, vi s2.2), (25, sv p7 r1 c7), (26, vi (len r1)), (27, vi s3.2)] [bx b1 32 [sv p1 y0.1 c1, sv p2 y0.2.1 c2, sv p3 y0.2.2 c3], r_3] [Al e_Attack 96 r_3 p8 c8 s3.1, Rl e_Argument p4 c4 y1, Rl (eInt .i64) p7 c7 r1, Rl e_Premise p1 c1 y0.1, Rl e_Rule p2 c2 y0.2.1, Rl e_Promotion p3 c3 y0.2.2]) (gv (fun _ k=>k p6 c6 r_2) [0,1] ⟨gk 1,gk 2,gk 0,gk 3,gk 4,gk 5,⟨⟩⟩)<|
  fun s3 _ k p8 c8 r_3=>k<|jsr<|jpc 1 rfl<|jot<|jsq<|jif rfl (jsk<|jtn<|jsq<|jbk<|jsr<|jix 2 rfl rfl rfl<|fun x1 b2 o1=>jld false oI (gk 0) rfl<|jpc 1 rfl<|jot<|jsr<|jpc 1 rfl<|jot<|jbk<|
  jlp (fun s4 K=>∀ p9 c9 r_4,K [(1, sv p4 y1 c4), (2, pt b1 0), (5, sv p9 s4.1 c9), (6, vi s1.2), (7, vi s2.2), (9, vi x1), (10, vi s4.2), (25, sv p7 r1 c7), (26, vi (len r1)), (27, vi s3.2)] [bx b1 32 [sv p1 y0.1 c1, sv p2 y0.2.1 c2, sv p3 y0.2.2 c3], r_4] [Al e_Attack 96 r_4 p9 c9 s4.1, Rl e_Argument p4 c4 y1, Rl (eInt .i64) p7 c7 r1, Rl e_Premise p1 c1 y0.1, Rl e_Rule p2 c2 y0.2.1, Rl e_Promotion p3 c3 y0.2.2]) (gv (fun _ k=>k p8 c8 r_3) [0,1] ⟨gk 1,gk 2,gk 3,gk 4,gk 5,gk 6,⟨⟩⟩)<|
  fun s4 _ k p9 c9 r_4=>k<|jsq<|jsr<|jpc 2 rfl<|jot<|jif rfl (jsk<|jtn<|jsq<|jbk<|jsr<|jla 0 3 rfl rfl rfl<|jpc 4 rfl<|jcl c_ref09_attacks rfl ⟨ck 3,ck 4,ck 5,ck 1,⟨⟩⟩<|fun r2 _ k=>k<|jot<|jif rfl (jrg<|jpc 5 rfl<|
  jpe (.agg #[vi s1.2, vi s2.2, vi x1, vi s4.2])<|jbs .s (e := e_Attack) 96 [vi s1.2, vi s2.2, vi x1, vi s4.2] ([(s1.2, s2.2, x1, s4.2)] : List T_Attack) (rC (vP vI (vP vI (vP vI vI))) rN)<|fun p10 c10=>jar .s 1 1 rfl (gk 0) rfl rfl<|
  fun x2 r_5 p11 c11=>jpc 1 rfl<|joe<|jbn<|jtn<|jrg<|jpc 3 rfl<|joe<|jln (gv (fun _ k=>k p11 c11 r_5) [0,1] ⟨gk 0,gk 3,gk 4,gk 5,gk 6,gk 7,⟨⟩⟩))<|jsk<|jbn<|jtn<|jrg<|jpc 3 rfl<|joe<|
  jln (gv (fun _ k=>k p9 c9 r_4) [0,1] ⟨gk 0,gk 1,gk 2,gk 3,gk 4,gk 5,⟨⟩⟩))<|jxe<|jte<|jle<|jbh<|jbn<|jtn<|jrg<|jpc 2 rfl<|joe<|jln (gv (fun _ k=>k p9 c9 r_4) [0,1] ⟨gk 0,gk 1,gk 2,gk 3,gk 4,gk 5,⟨⟩⟩))<|jxe<|jte<|jle<|jbh<|jbn<|jtn<|jrg<|
  jpc 3 rfl<|joe<|jln (gv (fun _ k=>k p8 c8 r_3) [0,1] ⟨gk 0,gk 1,gk 3,gk 4,gk 5,⟨⟩⟩))<|jxe<|jte<|jle<|jbh<|jbn<|jtn<|jrg<|jpc 3 rfl<|joe<|jln (gv (fun _ k=>k p6 c6 r_2) [0,1] ⟨gk 0,gk 1,gk 2,gk 3,gk 4,⟨⟩⟩))<|jxe<|jte<|jle<|jbh<|jtn<|jsr<|
  jpc 2 rfl<|jot<|jxr<|jsh 1 0 rfl rfl<|jr1 rfl rfl (fun _ k=>k p5 c5) [] ⟨gk 0,⟨⟩⟩

theorem c_ref09_Defeats {qd : Prop} {y0 : T_Base} {y1 : List T_Argument} {y2 : T_Ordering} : Con qd Tryz.prog 18 [.agg #[sv p1 y0.1 c1, sv p2 y0.2.1 c2, sv p3 y0.2.2 c3], sv p4 y1 c4, .agg #[vi y2.1, vi y2.2]] [] [Rl e_Premise p1 c1 y0.1, Rl e_Rule p2 c2 y0.2.1, Rl e_Promotion p3 c3 y0.2.2, Rl e_Argument p4 c4 y1] (m_ref09_Defeats y0 y1 y2) fun r K=>∀ p5 c5,K (sv p5 r c5) [] [Rl e_Attack p5 c5 r] :=
 ent3 Tryz.call18 Tryz.func18 rfl fun X=>jsr<|jbx .s rfl<|fun b1=>jbx .s rfl<|fun b2=>jpc 1 rfl<|jot<|jsr<|jpc 1 rfl<|jro e_Attack 96<|jot<|jsr<|jla 0 3 rfl rfl rfl<|jpc 1 rfl<|jcl c_ref09_Attacks rfl ⟨ck 1,ck 2,ck 3,ck 4,⟨⟩⟩<|fun r1 _ k p5 c5=>k<|jpc 1 rfl<|jot<|jsq<|jsr<|
  jpc 1 rfl<|jot<|jbk<|
  jlp (fun s1 K=>∀ p6 c6 r_1,K [(1, sv p4 y1 c4), (3, pt b1 0), (5, pt b2 0), (7, sv p6 s1.1 c6), (8, sv p5 r1 c5), (9, vi s1.2)] [bx b1 32 [sv p1 y0.1 c1, sv p2 y0.2.1 c2, sv p3 y0.2.2 c3], bx b2 27 [vi y2.1, vi y2.2], r_1] [Al e_Attack 96 r_1 p6 c6 s1.1, Rl e_Argument p4 c4 y1, Rl e_Attack p5 c5 r1, Rl e_Premise p1 c1 y0.1, Rl e_Rule p2 c2 y0.2.1, Rl e_Promotion p3 c3 y0.2.2]) (gv (fun _ k=>k none 0 []) [0,1,2] ⟨gk 1,gk 5,gk 0,gk 2,gk 3,gk 4,⟨⟩⟩)<|
  fun s1 _ k p6 c6 r_1=>k<|jsq<|jsr<|jpc 4 rfl<|jot<|jif rfl (jsk<|jtn<|jsq<|jbk<|
  jjn (fun s2 K=>K [(1, sv p4 y1 c4), (3, pt b1 0), (5, pt b2 0), (7, sv p6 s1.1 c6), (8, sv p5 r1 c5), (9, vi s1.2), (41, vb s2)] [bx b1 32 [sv p1 y0.1 c1, sv p2 y0.2.1 c2, sv p3 y0.2.2 c3], bx b2 27 [vi y2.1, vi y2.2], r_1] [Rl e_Argument p4 c4 y1, Al e_Attack 96 r_1 p6 c6 s1.1, Rl e_Attack p5 c5 r1, Rl e_Premise p1 c1 y0.1, Rl e_Rule p2 c2 y0.2.1, Rl e_Promotion p3 c3 y0.2.2]) (
  jdS [] [0, 1] 23<|jdc 21 [0,1] rfl<|jdi 2 2 rfl rfl rfl rfl<|fun x1 b3 o1=>jdf 3 3 rfl rfl<|jdl 4 false oI rfl (gs (gs (gs (gk 0)))) rfl<|jdc 16 [5,6] rfl<|jsg 25 rfl (jdc 1 [7,8,9,10,11,12,13,14,15,16,17,18,19,20,21] rfl<|
  jdp 22 (vb true) rfl<|jde<|jnn (gv (fun _ k=>k) [0,1,2] ⟨gk 2,gk 1,gk 3,gk 4,gk 5,gk 6,⟨⟩⟩))<|jda 7 0 3 rfl rfl rfl rfl<|jdc 12 [8,9,10] rfl<|jdi 11 3 rfl rfl rfl rfl<|fun x2 b4 o2=>jdf 12 0 rfl rfl<|jdl 13 false oI rfl (gf (gk 0)) rfl<|
  jdc 7 [14,15] rfl<|jdi 16 4 rfl rfl rfl rfl<|fun x3 b5 o3=>jdf 17 2 rfl rfl<|jdl 18 false oI rfl (gf (gs (gs (gk 0)))) rfl<|jda 19 1 2 rfl rfl rfl rfl<|jd1 20<|jca (.f rfl) [] [] c_ref08_Less rfl rfl rfl ⟨ck 6,ck 7,ck 8,ck 4,⟨⟩⟩<|
  fun r2 _ k=>k<|jdn<|jdc 1 [21] rfl<|jdp 22 (vb (!r2)) rfl<|jde<|jnn (gv (fun _ k=>k) [0,1,2] ⟨gk 4,gk 3,gk 5,gk 6,gk 7,gk 8,⟨⟩⟩))<|fun s2 _ k=>k<|jif rfl (jrg<|jpc 3 rfl<|jix 2 rfl rfl rfl<|fun x4 b6 o4=>jld true o_Attack (gk 0) rfl<|
  jbs .s (e := e_Attack) 96 [vi x4.1, vi x4.2.1, vi x4.2.2.1, vi x4.2.2.2] ([x4] : List T_Attack) (rC (vP vI (vP vI (vP vI vI))) rN)<|fun p7 c7=>jar .s 2 3 rfl (gk 0) rfl rfl<|fun x5 r_2 p8 c8=>jpc 1 rfl<|joe<|jbn<|jtn<|jrg<|jpc 3 rfl<|joe<|
  jln (gv (fun _ k=>k p8 c8 r_2) [0,1,2] ⟨gk 0,gk 3,gk 5,gk 6,gk 7,gk 8,⟨⟩⟩))<|jsk<|jbn<|jtn<|jrg<|jpc 3 rfl<|joe<|jln (gv (fun _ k=>k p6 c6 r_1) [0,1,2] ⟨gk 1,gk 0,gk 2,gk 3,gk 4,gk 5,⟨⟩⟩))<|jxe<|jte<|jle<|jbh<|jtn<|jsr<|jpc 2 rfl<|jot<|
  jxr<|jsh 2 0 rfl rfl<|jr1 rfl rfl (fun _ k=>k p6 c6) [] ⟨gk 0,⟨⟩⟩

theorem c_ref09_Graph {qd : Prop} {y0 : Int} {y1 : List T_Attack} : Con qd Tryz.prog 17 [vi y0, sv p1 y1 c1] [] [Rl e_Attack p1 c1 y1] (m_ref09_Graph y0 y1) fun r K=>∀ p2 c2,K (.tuple #[.agg #[vi r.1.1, sv p2 r.1.2 c2], vi r.2]) [] [Rl e_Pair p2 c2 r.1.2] :=
 ent3 Tryz.call17 Tryz.func17 rfl fun X=>jsr<|jal .s (.agg #[vi 0, .slice none 0 0])<|fun b1=>jpc 1 rfl<|jot<|jsq<|
  jjp (fun K=>K [(0, vi y0), (1, sv p1 y1 c1), (4, pt b1 0), (17, vb ((decide (y0 < 0)) || (decide (40 < y0))))] [bx b1 37 [vi 0, .slice none 0 0]] [Rl e_Attack p1 c1 y1]) (jrg<|jpc 3 rfl<|jsp (b := decide (y0 < 0)) 14 rfl (fun hb1=>
  jpc 2 rfl<|jpe (vb true)<|joe<|jup 17 (vb ((decide (y0 < 0)) || (decide (40 < y0)))) rfl (by rw [hb1]; rfl)<|jnn (gv (fun _ k=>k) [0] ⟨gk 0,⟨⟩⟩))<|fun hb1=>jpc 2 rfl<|jpe (vb (decide (40 < y0)))<|joe<|
  jup 17 (vb ((decide (y0 < 0)) || (decide (40 < y0)))) rfl (by rw [hb1]; rfl)<|jnn (gv (fun _ k=>k) [0] ⟨gk 0,⟨⟩⟩))<|fun _ k=>k<|jif rfl (jsr<|jpe (.agg #[vi 0, .slice none 0 0])<|jso .s 0 rfl rfl rfl<|jpc 1 rfl<|jot<|jxr<|jtr<|
  jrg' rfl (lC 0 (.agg #[vi 0, .slice none 0 0]) rfl rfl (lT rfl lN)) (fun _ k=>k none 0) [] ⟨gn,⟨⟩⟩)<|jsk<|jtn<|jjo (fun s1 K=>K [(0, vi y0), (1, sv p1 y1 c1), (4, pt b1 0)] [bx b1 37 [vi 0, .slice none 0 0]] [Rl e_Attack p1 c1 y1]) (jsr<|
  jpc 1 rfl<|jot<|jbk<|jlp (fun s2 K=>K [(0, vi y0), (1, sv p1 y1 c1), (4, pt b1 0), (6, vi s2)] [bx b1 37 [vi 0, .slice none 0 0]] [Rl e_Attack p1 c1 y1]) (gv (fun _ k=>k) [0] ⟨gk 0,⟨⟩⟩)<|fun s2 _ k=>k<|jsq<|jsr<|jpc 4 rfl<|jot<|jif rfl (
  jsk<|jtn<|jsq<|jbk<|jjn (fun s3 K=>K [(0, vi y0), (1, sv p1 y1 c1), (4, pt b1 0), (6, vi s2), (56, vb s3)] [bx b1 37 [vi 0, .slice none 0 0]] [Rl e_Attack p1 c1 y1]) (jrg<|jpc 2 rfl<|jix 0 rfl rfl rfl<|fun x1 b2 o1=>jfa 0 rfl<|
  jld false oI (gf (gk 0)) rfl<|jpc 2 rfl<|jsg 31 rfl (jpc 7 rfl<|jpe (vb true)<|jpc 7 rfl<|jpe (vb true)<|jpc 8 rfl<|jpe (vb true)<|joe<|jnn (gv (fun _ k=>k) [0] ⟨gk 1,⟨⟩⟩))<|jpc 2 rfl<|jix 1 rfl rfl rfl<|fun x2 b3 o2=>jfa 0 rfl<|
  jld false oI (gf (gk 0)) rfl<|jpc 2 rfl<|jpe (vb (decide (y0 ≤ x2.1)))<|jpc 1 rfl<|jsg 40 rfl (jpc 6 rfl<|jpe (vb true)<|jpc 8 rfl<|jpe (vb true)<|joe<|jnn (gv (fun _ k=>k) [0] ⟨gk 2,⟨⟩⟩))<|jpc 2 rfl<|jix 2 rfl rfl rfl<|fun x3 b4 o3=>
  jfa 1 rfl<|jld false oI (gf (gs (gk 0))) rfl<|jpc 1 rfl<|jpe (vb (decide (x3.2.1 < 0)))<|jpc 1 rfl<|jsg 48 rfl (jpc 7 rfl<|jpe (vb true)<|joe<|jnn (gv (fun _ k=>k) [0] ⟨gk 3,⟨⟩⟩))<|jpc 2 rfl<|jix 3 rfl rfl rfl<|fun x4 b5 o4=>jfa 1 rfl<|
  jld false oI (gf (gs (gk 0))) rfl<|jpc 2 rfl<|jpe (vb (decide (y0 ≤ x4.2.1)))<|joe<|jnn (gv (fun _ k=>k) [0] ⟨gk 4,⟨⟩⟩))<|fun s3 _ k=>k<|jif rfl (jsr<|jpe (.agg #[vi 0, .slice none 0 0])<|jso .s 0 rfl rfl rfl<|jpc 1 rfl<|jot<|jxr<|jbr<|
  jtr<|jlr<|jbr<|jlr<|jrg' rfl (lC 0 (.agg #[vi 0, .slice none 0 0]) rfl rfl (lT rfl lN)) (fun _ k=>k none 0) [] ⟨gn,⟨⟩⟩)<|jsk<|jbn<|jtn<|jrg<|jpc 3 rfl<|joe<|jln (gv (fun _ k=>k) [0] ⟨gk 0,⟨⟩⟩))<|jxe<|jte<|jle<|jbh<|
  jln (gv (fun _ k=>k) [0] ⟨gk 0,⟨⟩⟩))<|fun s1 _ k=>k<|jsr<|jpc 1 rfl<|jpe (.agg #[vi y0, .slice none 0 0])<|jro e_Pair 98<|jal .s (.agg #[vi 0, .slice none 0 0])<|fun b6=>jso .s 2 rfl rfl rfl<|jot<|
  jjn (fun s4 K=>∀ p2 c2 r_1,K [(4, pt b1 0), (7, pt b6 0)] [bx b1 37 [vi 0, .slice none 0 0], r_1, bx b6 37 [vi y0, sv p2 s4 c2]] [Al e_Pair 98 r_1 p2 c2 s4]) (jsr<|jpc 1 rfl<|jot<|jbk<|
  jlp (fun s5 K=>∀ p3 c3 r_2,K [(0, vi y0), (1, sv p1 y1 c1), (4, pt b1 0), (7, pt b6 0), (8, vi s5.1)] [bx b1 37 [vi 0, .slice none 0 0], r_2, bx b6 37 [vi y0, sv p3 s5.2 c3]] [Al e_Pair 98 r_2 p3 c3 s5.2, Rl e_Attack p1 c1 y1]) (gv (fun _ k=>k none 0 []) [0,1,2] ⟨gk 0,gk 1,⟨⟩⟩)<|
  fun s5 _ k p3 c3 r_2=>k<|jsq<|jsr<|jpc 3 rfl<|jot<|jif rfl (jsk<|jtn<|jsq<|jbk<|jsr<|jpc 1 rfl<|jot<|jbk<|
  jlp (fun s6 K=>∀ p4 c4 r_3,K [(0, vi y0), (1, sv p1 y1 c1), (4, pt b1 0), (7, pt b6 0), (8, vi s5.1), (9, vi s6.1)] [bx b1 37 [vi 0, .slice none 0 0], r_3, bx b6 37 [vi y0, sv p4 s6.2 c4]] [Al e_Pair 98 r_3 p4 c4 s6.2, Rl e_Attack p1 c1 y1]) (gv (fun _ k=>k p3 c3 r_2) [0,1,2] ⟨gk 0,gk 1,⟨⟩⟩)<|
  fun s6 _ k p4 c4 r_3=>k<|jsq<|jsr<|jpc 3 rfl<|jot<|jif rfl (jsk<|jtn<|jsq<|jbk<|jsr<|jpc 1 rfl<|jot<|
  jjn (fun s7 K=>K [(0, vi y0), (1, sv p1 y1 c1), (4, pt b1 0), (7, pt b6 0), (8, vi s5.1), (9, vi s6.1), (10, vb s7)] [bx b1 37 [vi 0, .slice none 0 0], r_3, bx b6 37 [vi y0, sv p4 s6.2 c4]] [Rl e_Attack p1 c1 y1, Al e_Pair 98 r_3 p4 c4 s6.2]) (
  jsr<|jpc 1 rfl<|jot<|jbk<|
  jlp (fun s8 K=>K [(0, vi y0), (1, sv p1 y1 c1), (4, pt b1 0), (7, pt b6 0), (8, vi s5.1), (9, vi s6.1), (10, vb s8.1), (11, vi s8.2)] [bx b1 37 [vi 0, .slice none 0 0], r_3, bx b6 37 [vi y0, sv p4 s6.2 c4]] [Rl e_Attack p1 c1 y1, Al e_Pair 98 r_3 p4 c4 s6.2]) (gv (fun _ k=>k) [0,1,2] ⟨gk 1,gk 0,⟨⟩⟩)<|
  fun s8 _ k=>k<|jsq<|jsr<|jpc 4 rfl<|jot<|jif rfl (jsk<|jtn<|jsq<|jbk<|
  jjc (fun s9 K=>K [(0, vi y0), (1, sv p1 y1 c1), (4, pt b1 0), (7, pt b6 0), (8, vi s5.1), (9, vi s6.1), (10, vb s9), (11, vi s8.2)] [bx b1 37 [vi 0, .slice none 0 0], r_3, bx b6 37 [vi y0, sv p4 s6.2 c4]] [Rl e_Attack p1 c1 y1, Al e_Pair 98 r_3 p4 c4 s6.2]) (
  jrg<|jpc 2 rfl<|jsg 77 rfl (jpc 16 rfl<|jpe (vb true)<|jpc 1 rfl<|joe<|jnn (gv (fun _ k=>k) [0,1,2] ⟨gk 0,gk 1,⟨⟩⟩))<|jpc 2 rfl<|jix 0 rfl rfl rfl<|fun x5 b7 o5=>jfa 0 rfl<|jld false oI (gf (gk 0)) rfl<|jpc 3 rfl<|jsg 85 rfl (jpc 2 rfl<|
  jix 1 rfl rfl rfl<|fun x6 b8 o6=>jfa 1 rfl<|jld false oI (gf (gs (gk 0))) rfl<|jpc 2 rfl<|jpe (vb (x6.2.1 == s6.1))<|jpe (vb (x6.2.1 == s6.1))<|jpc 1 rfl<|joe<|jnn (gv (fun _ k=>k) [0,1,2] ⟨gk 2,gk 3,⟨⟩⟩))<|jpc 7 rfl<|jpe (vb false)<|
  jpe (vb false)<|jpc 1 rfl<|joe<|jnn (gv (fun _ k=>k) [0,1,2] ⟨gk 1,gk 2,⟨⟩⟩))<|fun s9 _ k=>k<|jbn<|jtn<|jrg<|jpc 3 rfl<|joe<|jln (gv (fun _ k=>k) [0,1,2] ⟨gk 0,gk 1,⟨⟩⟩))<|jxe<|jte<|jle<|jbh<|jnn (gv (fun _ k=>k) [0,1,2] ⟨gk 0,gk 1,⟨⟩⟩))<|
  fun s7 _ k=>k<|jsr<|jpc 1 rfl<|jot<|jif rfl (jrg<|jfa 1 rfl<|jlo 2 rfl rfl rfl<|jpc 2 rfl<|jpe (.agg #[vi s5.1, vi s6.1])<|jbs .s (e := e_Pair) 98 [vi s5.1, vi s6.1] ([(s5.1, s6.1)] : List T_Pair) (rC (vP vI vI) rN)<|fun p5 c5=>
  jar .s 1 2 rfl (gk 0) rfl rfl<|fun x7 r_4 p6 c6=>jfa 1 rfl<|jso .s 2 rfl rfl rfl<|joe<|jbn<|jtn<|jrg<|jpc 3 rfl<|joe<|jln (gv (fun _ k=>k p6 c6 r_4) [0,1,2] ⟨gk 0,gk 2,⟨⟩⟩))<|jsk<|jbn<|jtn<|jrg<|jpc 3 rfl<|joe<|
  jln (gv (fun _ k=>k p4 c4 r_3) [0,1,2] ⟨gk 1,gk 0,⟨⟩⟩))<|jxe<|jte<|jle<|jbh<|jbn<|jtn<|jrg<|jpc 3 rfl<|joe<|jln (gv (fun _ k=>k p4 c4 r_3) [0,1,2] ⟨gk 0,gk 1,⟨⟩⟩))<|jxe<|jte<|jle<|jbh<|jnn (gv (fun _ k=>k p3 c3 r_2) [0,1,2] ⟨gk 0,⟨⟩⟩))<|
  fun s4 _ k p2 c2 r_1=>k<|jsr<|jla 2 2 rfl rfl rfl<|jso .s 0 rfl rfl rfl<|jpc 1 rfl<|jot<|jxr<|jsh 1 0 rfl rfl<|jrg' rfl (lC 0 (.agg #[vi y0, sv p2 s4 c2]) rfl rfl (lT rfl lN)) (fun _ k=>k p2 c2) [] ⟨gk 0,⟨⟩⟩

theorem c_ref11_With {qd : Prop} {y0 : List Int} {y1 : Int} : Con qd Tryz.prog 20 [sv p1 y0 c1, vi y1] [] [Rl (eInt .i64) p1 c1 y0] (m_ref11_With y0 y1) fun r K=>∀ p2 c2,K (sv p2 r c2) [] [Rl (eInt .i64) p2 c2 r] :=
 ent3 Tryz.call20 Tryz.func20 rfl fun X=>jsr<|jpc 1 rfl<|jot<|jsr<|jpc 1 rfl<|jro (eInt .i64) 3<|jot<|jsq<|jsr<|jpc 1 rfl<|jot<|jbk<|
  jlp (fun s1 K=>∀ p2 c2 r_1,K [(0, sv p1 y0 c1), (1, vi y1), (5, sv p2 s1.1 c2), (6, vi s1.2)] [r_1] [Al (eInt .i64) 3 r_1 p2 c2 s1.1, Rl (eInt .i64) p1 c1 y0]) (gv (fun _ k=>k none 0 []) [0] ⟨gk 0,gk 1,⟨⟩⟩)<|fun s1 _ k p2 c2 r_1=>k<|jsq<|
  jsr<|jpc 4 rfl<|jot<|jif rfl (jsk<|jtn<|jsq<|jbk<|jsr<|jpc 2 rfl<|jix 1 rfl rfl rfl<|fun x1 b1 o1=>jld false oI (gk 0) rfl<|jpc 2 rfl<|jot<|jif rfl (jrg<|jpc 2 rfl<|jbs .s (e := eInt .i64) 3 [vi s1.2] ([s1.2] : List Int) (rC vI rN)<|
  fun p3 c3=>jar .s 0 2 rfl (gk 0) rfl rfl<|fun x2 r_2 p4 c4=>jpc 1 rfl<|joe<|jbn<|jtn<|jrg<|jpc 3 rfl<|joe<|jln (gv (fun _ k=>k p4 c4 r_2) [0] ⟨gk 0,gk 4,⟨⟩⟩))<|jsk<|jbn<|jtn<|jrg<|jpc 3 rfl<|joe<|
  jln (gv (fun _ k=>k p2 c2 r_1) [0] ⟨gk 1,gk 2,⟨⟩⟩))<|jxe<|jte<|jle<|jbh<|jtn<|jsr<|jpc 2 rfl<|jot<|jxr<|jsh 0 0 rfl rfl<|jr1 rfl rfl (fun _ k=>k p2 c2) [] ⟨gk 0,⟨⟩⟩

theorem c_ref10_Validate {qd : Prop} {y0 : T_Graph} : Con qd Tryz.prog 129 [.agg #[vi y0.1, sv p1 y0.2 c1]] [] [Rl e_Pair p1 c1 y0.2] (m_ref10_Validate y0) fun r K=>K (vi r) [] [] :=
 ent3 Tryz.call129 Tryz.func129 rfl fun X=>jsr<|jbx .s rfl<|fun b1=>jpc 1 rfl<|jot<|jsq<|jjp (fun K=>K [(1, pt b1 0), (12, vb ((decide (y0.1 < 0)) || (decide (40 < y0.1))))] [bx b1 37 [vi y0.1, sv p1 y0.2 c1]] [Rl e_Pair p1 c1 y0.2]) (jrg<|jfa 0 rfl<|jlo 0 rfl rfl rfl<|jpc 2 rfl<|
  jsp (b := decide (y0.1 < 0)) 8 rfl (fun hb1=>jpc 3 rfl<|jpe (vb true)<|joe<|jup 12 (vb ((decide (y0.1 < 0)) || (decide (40 < y0.1)))) rfl (by rw [hb1]; rfl)<|jnn (gv (fun _ k=>k) [0] ⟨gk 0,⟨⟩⟩))<|fun hb1=>jfa 0 rfl<|jlo 0 rfl rfl rfl<|
  jpc 1 rfl<|jpe (vb (decide (40 < y0.1)))<|joe<|jup 12 (vb ((decide (y0.1 < 0)) || (decide (40 < y0.1)))) rfl (by rw [hb1]; rfl)<|jnn (gv (fun _ k=>k) [0] ⟨gk 0,⟨⟩⟩))<|fun _ k=>k<|jif rfl (jsr<|jpc 1 rfl<|jot<|jxr<|jtr<|
  jr1 rfl rfl (fun _ k=>k) [] ⟨⟩)<|jsk<|jtn<|jsq<|jsr<|jpc 1 rfl<|jot<|jbk<|jlp (fun s1 K=>K [(1, pt b1 0), (3, vi s1)] [bx b1 37 [vi y0.1, sv p1 y0.2 c1]] [Rl e_Pair p1 c1 y0.2]) (gv (fun _ k=>k) [0] ⟨gk 0,⟨⟩⟩)<|fun s1 _ k=>k<|jsq<|jsr<|
  jpc 1 rfl<|jfa 1 rfl<|jlo 0 rfl rfl rfl<|jpc 2 rfl<|jot<|jif rfl (jsk<|jtn<|jsq<|jbk<|jsr<|jfa 1 rfl<|jlo 0 rfl rfl rfl<|jpc 1 rfl<|jix 0 rfl rfl rfl<|fun x1 b2 o1=>jld true o_Pair (gk 0) rfl<|jal .s (.agg #[vi 0, vi 0])<|fun b3=>
  jso .s 1 rfl rfl rfl<|jot<|jsq<|
  jjp (fun K=>K [(1, pt b1 0), (3, vi s1), (4, pt b3 0), (46, vb ((decide (x1.1 < 0)) || ((decide (y0.1 ≤ x1.1)) || ((decide (x1.2 < 0)) || (decide (y0.1 ≤ x1.2))))))] [bx b1 37 [vi y0.1, sv p1 y0.2 c1], bx b3 98 [vi x1.1, vi x1.2]] [Rl e_Pair p1 c1 y0.2]) (
  jrg<|jfa 0 rfl<|jlo 1 rfl rfl rfl<|jpc 2 rfl<|jsp (b := decide (x1.1 < 0)) 28 rfl (fun hb2=>jpc 5 rfl<|jpe (vb true)<|jpc 4 rfl<|jpe (vb true)<|jpc 6 rfl<|jpe (vb true)<|joe<|
  jup 46 (vb ((decide (x1.1 < 0)) || ((decide (y0.1 ≤ x1.1)) || ((decide (x1.2 < 0)) || (decide (y0.1 ≤ x1.2)))))) rfl (by rw [hb2]; rfl)<|jnn (gv (fun _ k=>k) [0,1] ⟨gk 1,⟨⟩⟩))<|fun hb2=>jfa 0 rfl<|jlo 1 rfl rfl rfl<|jfa 0 rfl<|
  jlo 0 rfl rfl rfl<|jpc 1 rfl<|jpe (vb (decide (y0.1 ≤ x1.1)))<|jpc 1 rfl<|jsp (b := decide (y0.1 ≤ x1.1)) 35 rfl (fun hb3=>jpc 3 rfl<|jpe (vb true)<|jpc 6 rfl<|jpe (vb true)<|joe<|
  jup 46 (vb ((decide (x1.1 < 0)) || ((decide (y0.1 ≤ x1.1)) || ((decide (x1.2 < 0)) || (decide (y0.1 ≤ x1.2)))))) rfl (by rw [hb2,hb3]; rfl)<|jnn (gv (fun _ k=>k) [0,1] ⟨gk 1,⟨⟩⟩))<|fun hb3=>jfa 1 rfl<|jlo 1 rfl rfl rfl<|jpc 1 rfl<|
  jpe (vb (decide (x1.2 < 0)))<|jpc 1 rfl<|jsp (b := decide (x1.2 < 0)) 40 rfl (fun hb4=>jpc 5 rfl<|jpe (vb true)<|joe<|
  jup 46 (vb ((decide (x1.1 < 0)) || ((decide (y0.1 ≤ x1.1)) || ((decide (x1.2 < 0)) || (decide (y0.1 ≤ x1.2)))))) rfl (by rw [hb2,hb3,hb4]; rfl)<|jnn (gv (fun _ k=>k) [0,1] ⟨gk 1,⟨⟩⟩))<|fun hb4=>jfa 1 rfl<|jlo 1 rfl rfl rfl<|jfa 0 rfl<|
  jlo 0 rfl rfl rfl<|jpc 1 rfl<|jpe (vb (decide (y0.1 ≤ x1.2)))<|joe<|jup 46 (vb ((decide (x1.1 < 0)) || ((decide (y0.1 ≤ x1.1)) || ((decide (x1.2 < 0)) || (decide (y0.1 ≤ x1.2)))))) rfl (by rw [hb2,hb3,hb4]; rfl)<|
  jnn (gv (fun _ k=>k) [0,1] ⟨gk 1,⟨⟩⟩))<|fun _ k=>k<|jif rfl (jsr<|jpc 1 rfl<|jot<|jxr<|jtr<|jbr<|jtr<|jlr<|jbr<|jtr<|jr1 rfl rfl (fun _ k=>k) [] ⟨⟩)<|jsk<|jtn<|
  jjn (fun s2 K=>K [(1, pt b1 0), (3, vi s1), (84, vb s2)] [bx b1 37 [vi y0.1, sv p1 y0.2 c1], []] [Rl e_Pair p1 c1 y0.2]) (jdS [] [0, 1] 38<|jdc 35 [0,1,2] rfl<|jsg 49 rfl (jdf 3 1 rfl rfl<|jdo 4 0 rfl rfl rfl rfl<|jdc 31 [5,6] rfl<|
  jdi 7 0 rfl rfl rfl rfl<|fun x2 b4 o2=>jdf 8 0 rfl rfl<|jdl 9 false oI rfl (gf (gk 0)) rfl<|jdf 10 0 rfl rfl<|jdo 11 1 rfl rfl rfl rfl<|jdc 24 [12,13] rfl<|jsg 60 rfl (
  jdc 2 [14,15,16,17,18,19,20,21,22,23,24,25,26,27,28,29,30,31,32,33,34,35] rfl<|jdp 36 (vb true) rfl<|jdp 37 (vb true) rfl<|jde<|jnn (gv (fun _ k=>k) [0,901] ⟨gk 1,⟨⟩⟩))<|jdf 14 1 rfl rfl<|jdo 15 0 rfl rfl rfl rfl<|jdc 20 [16,17] rfl<|
  jdi 18 1 rfl rfl rfl rfl<|fun x3 b5 o3=>jdf 19 0 rfl rfl<|jdl 20 false oI rfl (gf (gk 0)) rfl<|jdf 21 0 rfl rfl<|jdo 22 1 rfl rfl rfl rfl<|jdc 13 [23,24] rfl<|jsg 71 rfl (jdf 25 1 rfl rfl<|jdo 26 0 rfl rfl rfl rfl<|jdc 9 [27,28] rfl<|
  jdi 29 2 rfl rfl rfl rfl<|fun x4 b6 o4=>jdf 30 1 rfl rfl<|jdl 31 false oI rfl (gs (gk 0)) rfl<|jdf 32 1 rfl rfl<|jdo 33 1 rfl rfl rfl rfl<|jdc 3 [34] rfl<|jdp 35 (vb (decide (x1.2 ≤ x4.2))) rfl<|jdp 36 (vb (decide (x1.2 ≤ x4.2))) rfl<|
  jdp 37 (vb (decide (x1.2 ≤ x4.2))) rfl<|jde<|jnn (gv (fun _ k=>k) [0,901] ⟨gk 3,⟨⟩⟩))<|jdc 3 [25,26,27,28,29,30,31,32,33,34] rfl<|jdp 35 (vb false) rfl<|jdp 36 (vb false) rfl<|jdp 37 (vb false) rfl<|jde<|
  jnn (gv (fun _ k=>k) [0,901] ⟨gk 2,⟨⟩⟩))<|jdc 1 [3,4,5,6,7,8,9,10,11,12,13,14,15,16,17,18,19,20,21,22,23,24,25,26,27,28,29,30,31,32,33,34,35,36] rfl<|jdp 37 (vb false) rfl<|jde<|jnn (gv (fun _ k=>k) [0,901] ⟨gk 0,⟨⟩⟩))<|fun s2 _ k=>k<|
  jif rfl (jsr<|jpc 1 rfl<|jot<|jxr<|jbr<|jtr<|jlr<|jbr<|jtr<|jr1 rfl rfl (fun _ k=>k) [] ⟨⟩)<|jsk<|jbn<|jtn<|jrg<|jpc 3 rfl<|joe<|jln (gv (fun _ k=>k) [0] ⟨gk 0,⟨⟩⟩))<|jxe<|jte<|jle<|jbh<|jtn<|jsr<|jpc 1 rfl<|jot<|jxr<|
  jr1 rfl rfl (fun _ k=>k) [] ⟨⟩

theorem c_ref10_Valid {qd : Prop} {y0 : T_Graph} : Con qd Tryz.prog 99 [.agg #[vi y0.1, sv p1 y0.2 c1]] [] [Rl e_Pair p1 c1 y0.2] (m_ref10_Valid y0) fun r K=>∀ p2 c2,K (.agg #[vi r.1, sv p2 r.2 c2]) [] [Rl e_Pair p2 c2 r.2] :=
 ent3 Tryz.call99 Tryz.func99 rfl fun X=>jsr<|jbx .s rfl<|fun b1=>jal .s (.agg #[vi 0, .slice none 0 0])<|fun b2=>jot<|jsq<|jsr<|jla 0 2 rfl rfl rfl<|jcl c_ref10_Validate rfl ⟨ck 0,⟨⟩⟩<|fun r1 _ k=>k<|jpc 1 rfl<|jot<|jif rfl (jsr<|jpe (.agg #[vi 0, .slice none 0 0])<|
  jso .s 1 rfl rfl rfl<|jot<|jxr<|jtr<|jrg' rfl (lC 1 (.agg #[vi 0, .slice none 0 0]) rfl rfl lN) (fun _ k=>k none 0) [] ⟨gn,⟨⟩⟩)<|jsk<|jtn<|jsr<|jla 0 2 rfl rfl rfl<|jso .s 1 rfl rfl rfl<|jot<|jxr<|
  jrg' rfl (lC 1 (.agg #[vi y0.1, sv p1 y0.2 c1]) rfl rfl lN) (fun _ k=>k p1 c1) [] ⟨gk 0,⟨⟩⟩

theorem c_ref10_Attackers {qd : Prop} {y0 : T_Graph} {y1 : Int} : Con qd Tryz.prog 76 [.agg #[vi y0.1, sv p1 y0.2 c1], vi y1] [] [Rl e_Pair p1 c1 y0.2] (m_ref10_Attackers y0 y1) fun r K=>∀ p2 c2,K (sv p2 r c2) [] [Rl (eInt .i64) p2 c2 r] :=
 ent3 Tryz.call76 Tryz.func76 rfl fun X=>jsr<|jbx .s rfl<|fun b1=>jpc 1 rfl<|jot<|jsr<|jla 0 2 rfl rfl rfl<|jcl c_ref10_Valid rfl ⟨ck 0,⟨⟩⟩<|fun r1 _ k p2 c2=>k<|jso .s 0 rfl rfl rfl<|jot<|jsr<|jpc 1 rfl<|jro (eInt .i64) 3<|jot<|jsq<|jsr<|jpc 1 rfl<|jot<|jbk<|
  jlp (fun s1 K=>∀ p3 c3 r_1,K [(1, vi y1), (2, pt b1 0), (5, sv p3 s1.1 c3), (6, vi s1.2)] [bx b1 37 [vi r1.1, sv p2 r1.2 c2], r_1] [Al (eInt .i64) 3 r_1 p3 c3 s1.1, Rl e_Pair p2 c2 r1.2]) (gv (fun _ k=>k none 0 []) [0,1] ⟨gk 0,gk 1,⟨⟩⟩)<|
  fun s1 _ k p3 c3 r_1=>k<|jsq<|jsr<|jpc 1 rfl<|jfa 1 rfl<|jlo 0 rfl rfl rfl<|jpc 2 rfl<|jot<|jif rfl (jsk<|jtn<|jsq<|jbk<|jsr<|jfa 1 rfl<|jlo 0 rfl rfl rfl<|jpc 1 rfl<|jix 1 rfl rfl rfl<|fun x1 b2 o1=>jfa 1 rfl<|
  jld false oI (gs (gk 0)) rfl<|jpc 2 rfl<|jot<|jif rfl (jrg<|jpc 1 rfl<|jfa 1 rfl<|jlo 0 rfl rfl rfl<|jpc 1 rfl<|jix 2 rfl rfl rfl<|fun x2 b3 o2=>jfa 0 rfl<|jld false oI (gf (gk 0)) rfl<|
  jbs .s (e := eInt .i64) 3 [vi x2.1] ([x2.1] : List Int) (rC vI rN)<|fun p4 c4=>jar .s 1 3 rfl (gk 0) rfl rfl<|fun x3 r_2 p5 c5=>jpc 1 rfl<|joe<|jbn<|jtn<|jrg<|jpc 3 rfl<|joe<|jln (gv (fun _ k=>k p5 c5 r_2) [0,1] ⟨gk 0,gk 5,⟨⟩⟩))<|jsk<|jbn<|
  jtn<|jrg<|jpc 3 rfl<|joe<|jln (gv (fun _ k=>k p3 c3 r_1) [0,1] ⟨gk 1,gk 2,⟨⟩⟩))<|jxe<|jte<|jle<|jbh<|jtn<|jsr<|jpc 2 rfl<|jot<|jxr<|jsh 1 0 rfl rfl<|jr1 rfl rfl (fun _ k=>k p3 c3) [] ⟨gk 0,⟨⟩⟩

theorem c_ref12_build {qd : Prop} {y0 : T_Graph} : Con qd Tryz.prog 46 [.agg #[vi y0.1, sv p1 y0.2 c1]] [] [Rl e_Pair p1 c1 y0.2] (m_ref12_build y0) fun r K=>∀ p2 c2 p3 c3,K (.tuple #[sv p2 r.1 c2, sv p3 r.2 c3]) [] [Rl (eInt .i64) p2 c2 r.1, Rl (eInt .i64) p3 c3 r.2] :=
 ent3 Tryz.call46 Tryz.func46 rfl fun X=>jsr<|jbx .s rfl<|fun b1=>jpc 2 rfl<|jot<|jsr<|jpc 1 rfl<|jro (eInt .i64) 3<|jpc 1 rfl<|jro (eInt .i64) 3<|jot<|
  jjn (fun s1 K=>∀ p2 c2 r_1 p3 c3 r_2,K [(1, pt b1 0), (4, sv p2 s1.1 c2), (5, sv p3 s1.2 c3)] [bx b1 37 [vi y0.1, sv p1 y0.2 c1], r_1, r_2] [Al (eInt .i64) 3 r_1 p2 c2 s1.1, Al (eInt .i64) 3 r_2 p3 c3 s1.2, Rl e_Pair p1 c1 y0.2]) (jsr<|
  jpc 1 rfl<|jot<|jbk<|
  jlp (fun s2 K=>∀ p4 c4 r_3 p5 c5 r_4,K [(1, pt b1 0), (4, sv p4 s2.1 c4), (5, sv p5 s2.2.1 c5), (6, vi s2.2.2)] [bx b1 37 [vi y0.1, sv p1 y0.2 c1], r_3, r_4] [Al (eInt .i64) 3 r_3 p4 c4 s2.1, Al (eInt .i64) 3 r_4 p5 c5 s2.2.1, Rl e_Pair p1 c1 y0.2]) (gv (fun _ k=>k none 0 [] none 0 []) [0,1,2] ⟨gk 1,gk 0,gk 2,⟨⟩⟩)<|
  fun s2 _ k p4 c4 r_3 p5 c5 r_4=>k<|jsq<|jsr<|jpc 1 rfl<|jfa 0 rfl<|jlo 0 rfl rfl rfl<|jpc 1 rfl<|jot<|jif rfl (jsk<|jtn<|jsq<|jbk<|jrg<|jpc 1 rfl<|jbs .s (e := eInt .i64) 3 [vi 3] ([3] : List Int) (rC vI rN)<|fun p6 c6=>
  jar .s 1 1 rfl (gk 0) rfl rfl<|fun x1 r_5 p7 c7=>jpc 1 rfl<|jbs .s (e := eInt .i64) 3 [vi 0] ([0] : List Int) (rC vI rN)<|fun p8 c8=>jar .s 2 4 rfl (gk 0) rfl rfl<|fun x2 r_6 p9 c9=>jpc 2 rfl<|joe<|jbn<|jtn<|jrg<|jpc 3 rfl<|joe<|
  jln (gv (fun _ k=>k p7 c7 r_5 p9 c9 r_6) [0,1,2] ⟨gk 2,gk 0,gk 6,⟨⟩⟩))<|jxe<|jte<|jle<|jbh<|jnn (gv (fun _ k=>k p4 c4 r_3 p5 c5 r_4) [0,1,2] ⟨gk 0,gk 1,gk 2,⟨⟩⟩))<|fun s1 _ k p2 c2 r_1 p3 c3 r_2=>k<|jsr<|jpc 1 rfl<|jot<|jbk<|
  jlp (fun s3 K=>∀ r_7 r_8,K [(1, pt b1 0), (4, .slice p2 (List.length s1.1) c2), (5, .slice p3 (List.length s1.2) c3), (7, vi s3.2.2)] [bx b1 37 [vi y0.1, sv p1 y0.2 c1], r_7, r_8] [Ar (eInt .i64) 3 r_7 p2 c2 (List.length s1.1) s3.1, Ar (eInt .i64) 3 r_8 p3 c3 (List.length s1.2) s3.2.1, Rl e_Pair p1 c1 y0.2]) (gv (fun _ k=>k r_1 r_2) [0,1,2] ⟨gk 0,gk 1,gk 2,⟨⟩⟩)<|
  fun s3 _ k r_7 r_8=>k<|jsq<|jbk<|jsr<|jpc 1 rfl<|jot<|jsr<|jbo .s (e := eInt .i64) 3 [] ([] : List Int) rN<|fun r_9 p10 c10=>jpc 1 rfl<|jao .s 3 1 0 1 rfl rfl rfl rfl<|fun x3 r_10 p11 c11=>jpc 1 rfl<|jot<|
  jjn (fun s4 K=>∀ r_11 r_12,K [(1, pt b1 0), (4, .slice p2 (List.length s1.1) c2), (5, .slice p3 (List.length s1.2) c3), (7, vi s3.2.2), (8, vb s4.2.2)] [bx b1 37 [vi y0.1, sv p1 y0.2 c1], r_11, r_12, []] [Ar (eInt .i64) 3 r_11 p2 c2 (List.length s1.1) s4.1, Ar (eInt .i64) 3 r_12 p3 c3 (List.length s1.2) s4.2.1, Rl e_Pair p1 c1 y0.2]) (
  jsr<|jpc 1 rfl<|jot<|jbk<|
  jlp (fun s5 K=>∀ r_13 r_14,K [(1, pt b1 0), (4, .slice p2 (List.length s1.1) c2), (5, .slice p3 (List.length s1.2) c3), (7, vi s3.2.2), (8, vb s5.2.2.1), (9, sv p11 x3 c11), (10, vi s5.2.2.2)] [bx b1 37 [vi y0.1, sv p1 y0.2 c1], r_13, r_14, r_10] [Ar (eInt .i64) 3 r_13 p2 c2 (List.length s1.1) s5.1, Ar (eInt .i64) 3 r_14 p3 c3 (List.length s1.2) s5.2.1, Al (eInt .i64) 3 r_10 p11 c11 x3, Rl e_Pair p1 c1 y0.2]) (gv (fun _ k=>k r_7 r_8) [0,1,2,3] ⟨gk 2,gk 3,gk 0,gk 4,⟨⟩⟩)<|
  fun s5 _ k r_13 r_14=>k<|jsq<|jsr<|jpc 1 rfl<|jfa 0 rfl<|jlo 0 rfl rfl rfl<|jpc 1 rfl<|jot<|jif rfl (jsk<|jtn<|jsq<|jbk<|jsr<|jpc 2 rfl<|jia 2 rfl rfl rfl<|fun x4 h4 b2 hp1=>jlA 3 2 sI false oI rfl hp1 h4 rfl<|jpc 2 rfl<|jot<|
  jjn (fun s6 K=>K [(1, pt b1 0), (4, .slice p2 (List.length s1.1) c2), (5, .slice p3 (List.length s1.2) c3), (7, vi s3.2.2), (8, vb s5.2.2.1), (9, sv p11 x3 c11), (10, vi s5.2.2.2), (11, vb s6)] [bx b1 37 [vi y0.1, sv p1 y0.2 c1], r_13, r_14, r_10] [Ar (eInt .i64) 3 r_13 p2 c2 (List.length s1.1) s5.1, Ar (eInt .i64) 3 r_14 p3 c3 (List.length s1.2) s5.2.1, Al (eInt .i64) 3 r_10 p11 c11 x3, Rl e_Pair p1 c1 y0.2]) (
  jsr<|jla 0 2 rfl rfl rfl<|jpc 1 rfl<|jcl c_ref10_Attackers rfl ⟨ck 3,⟨⟩⟩<|fun r1 _ k p12 c12=>k<|jpc 2 rfl<|jot<|jbk<|
  jlp (fun s7 K=>K [(1, pt b1 0), (4, .slice p2 (List.length s1.1) c2), (5, .slice p3 (List.length s1.2) c3), (7, vi s3.2.2), (8, vb s5.2.2.1), (9, sv p11 x3 c11), (10, vi s5.2.2.2), (11, vb s7.1), (47, sv p12 r1 c12), (48, vi (len r1)), (49, vi s7.2)] [bx b1 37 [vi y0.1, sv p1 y0.2 c1], r_13, r_14, r_10] [Ar (eInt .i64) 3 r_13 p2 c2 (List.length s1.1) s5.1, Ar (eInt .i64) 3 r_14 p3 c3 (List.length s1.2) s5.2.1, Al (eInt .i64) 3 r_10 p11 c11 x3, Rl (eInt .i64) p12 c12 r1, Rl e_Pair p1 c1 y0.2]) (gv (fun _ k=>k) [0,1,2,3] ⟨gk 1,gk 2,gk 3,gk 0,gk 4,⟨⟩⟩)<|
  fun s7 _ k=>k<|jsr<|jpc 1 rfl<|jot<|jsq<|jif rfl (jsk<|jtn<|jsq<|jbk<|jsr<|jix 3 rfl rfl rfl<|fun x5 b3 o1=>jld false oI (gk 0) rfl<|jpc 1 rfl<|jot<|
  jjc (fun s8 K=>K [(1, pt b1 0), (4, .slice p2 (List.length s1.1) c2), (5, .slice p3 (List.length s1.2) c3), (7, vi s3.2.2), (8, vb s5.2.2.1), (9, sv p11 x3 c11), (10, vi s5.2.2.2), (11, vb s8), (47, sv p12 r1 c12), (48, vi (len r1)), (49, vi s7.2)] [bx b1 37 [vi y0.1, sv p1 y0.2 c1], r_13, r_14, r_10] [Ar (eInt .i64) 3 r_13 p2 c2 (List.length s1.1) s5.1, Ar (eInt .i64) 3 r_14 p3 c3 (List.length s1.2) s5.2.1, Al (eInt .i64) 3 r_10 p11 c11 x3, Rl (eInt .i64) p12 c12 r1, Rl e_Pair p1 c1 y0.2]) (
  jrg<|jpc 2 rfl<|jsg 54 rfl (jpc 2 rfl<|jia 3 rfl rfl rfl<|fun x6 h5 b4 hp2=>jlA 3 3 sI false oI rfl hp2 h5 rfl<|jpc 1 rfl<|jpe (vb (x6 == 2))<|jpc 1 rfl<|joe<|jnn (gv (fun _ k=>k) [0,1,2,3] ⟨gk 1,gk 2,gk 3,gk 4,gk 5,⟨⟩⟩))<|jpc 5 rfl<|
  jpe (vb false)<|jpc 1 rfl<|joe<|jnn (gv (fun _ k=>k) [0,1,2,3] ⟨gk 1,gk 2,gk 3,gk 4,gk 5,⟨⟩⟩))<|fun s8 _ k=>k<|jbn<|jtn<|jrg<|jpc 2 rfl<|joe<|jln (gv (fun _ k=>k) [0,1,2,3] ⟨gk 0,gk 1,gk 2,gk 3,gk 4,⟨⟩⟩))<|jxe<|jte<|jle<|jbh<|
  jnn (gv (fun _ k=>k) [0,1,2,3] ⟨gk 0,gk 1,gk 2,gk 4,⟨⟩⟩))<|fun s6 _ k=>k<|jsr<|jpc 1 rfl<|jot<|jif rfl (jrg<|jpc 5 rfl<|jia 0 rfl rfl rfl<|fun x7 h6 b5 hp3=>jsA .s 1 0 sI 1 false rfl hp3 h6 rfl rfl vI<|fun r_15=>jia 2 rfl rfl rfl<|
  fun x8 h7 b6 hp4=>jsA .s 2 2 sI s3.2.2 false rfl hp4 h7 rfl rfl vI<|fun r_16=>jpc 1 rfl<|joe<|jbn<|jtn<|jrg<|jpc 3 rfl<|joe<|jln (gv (fun _ k=>k r_15 r_16) [0,1,2,3] ⟨gk 1,gk 0,gk 4,gk 5,⟨⟩⟩))<|jsk<|jbn<|jtn<|jrg<|jpc 3 rfl<|joe<|
  jln (gv (fun _ k=>k r_13 r_14) [0,1,2,3] ⟨gk 0,gk 1,gk 2,gk 3,⟨⟩⟩))<|jxe<|jte<|jle<|jbh<|jnn (gv (fun _ k=>k r_13 r_14) [0,1,2,903] ⟨gk 0,gk 1,gk 3,⟨⟩⟩))<|fun s4 _ k r_11 r_12=>k<|
  jjn (fun s9 K=>∀ r_17 r_18,K [(1, pt b1 0), (4, .slice p2 (List.length s1.1) c2), (5, .slice p3 (List.length s1.2) c3), (7, vi s3.2.2), (8, vb s4.2.2)] [bx b1 37 [vi y0.1, sv p1 y0.2 c1], r_17, r_18, []] [Ar (eInt .i64) 3 r_17 p2 c2 (List.length s1.1) s9.1, Ar (eInt .i64) 3 r_18 p3 c3 (List.length s1.2) s9.2, Rl e_Pair p1 c1 y0.2]) (
  jsr<|jpc 1 rfl<|jot<|jbk<|
  jlp (fun s10 K=>∀ r_19 r_20,K [(1, pt b1 0), (4, .slice p2 (List.length s1.1) c2), (5, .slice p3 (List.length s1.2) c3), (7, vi s3.2.2), (8, vb s4.2.2), (14, vi s10.2.2)] [bx b1 37 [vi y0.1, sv p1 y0.2 c1], r_19, r_20, []] [Ar (eInt .i64) 3 r_19 p2 c2 (List.length s1.1) s10.1, Ar (eInt .i64) 3 r_20 p3 c3 (List.length s1.2) s10.2.1, Rl e_Pair p1 c1 y0.2]) (gv (fun _ k=>k r_11 r_12) [0,1,2,903] ⟨gk 0,gk 1,gk 2,⟨⟩⟩)<|
  fun s10 _ k r_19 r_20=>k<|jsq<|jsr<|jpc 1 rfl<|jfa 0 rfl<|jlo 0 rfl rfl rfl<|jpc 1 rfl<|jot<|jif rfl (jsk<|jtn<|jsq<|jbk<|jsr<|jla 0 2 rfl rfl rfl<|jpc 1 rfl<|jcl c_ref10_Attackers rfl ⟨ck 2,⟨⟩⟩<|fun r2 _ k p13 c13=>k<|jpc 2 rfl<|jot<|jbk<|
  jlp (fun s11 K=>∀ r_21 r_22,K [(1, pt b1 0), (4, .slice p2 (List.length s1.1) c2), (5, .slice p3 (List.length s1.2) c3), (7, vi s3.2.2), (8, vb s4.2.2), (14, vi s10.2.2), (78, sv p13 r2 c13), (79, vi (len r2)), (80, vi s11.2.2)] [bx b1 37 [vi y0.1, sv p1 y0.2 c1], r_21, r_22, []] [Ar (eInt .i64) 3 r_21 p2 c2 (List.length s1.1) s11.1, Ar (eInt .i64) 3 r_22 p3 c3 (List.length s1.2) s11.2.1, Rl (eInt .i64) p13 c13 r2, Rl e_Pair p1 c1 y0.2]) (gv (fun _ k=>k r_19 r_20) [0,1,2,903] ⟨gk 1,gk 2,gk 0,gk 3,⟨⟩⟩)<|
  fun s11 _ k r_21 r_22=>k<|jsr<|jpc 1 rfl<|jot<|jsq<|jif rfl (jsk<|jtn<|jsq<|jbk<|jsr<|jix 2 rfl rfl rfl<|fun x9 b7 o2=>jld false oI (gk 0) rfl<|jpc 1 rfl<|jot<|
  jjn (fun s12 K=>K [(1, pt b1 0), (4, .slice p2 (List.length s1.1) c2), (5, .slice p3 (List.length s1.2) c3), (7, vi s3.2.2), (8, vb s4.2.2), (14, vi s10.2.2), (78, sv p13 r2 c13), (79, vi (len r2)), (80, vi s11.2.2), (103, vb s12)] [bx b1 37 [vi y0.1, sv p1 y0.2 c1], r_21, r_22, []] [Ar (eInt .i64) 3 r_21 p2 c2 (List.length s1.1) s11.1, Ar (eInt .i64) 3 r_22 p3 c3 (List.length s1.2) s11.2.1, Rl (eInt .i64) p13 c13 r2, Rl e_Pair p1 c1 y0.2]) (
  jrg<|jpc 2 rfl<|jia 1 rfl rfl rfl<|fun x10 h8 b8 hp5=>jlA 1 1 sI false oI rfl hp5 h8 rfl<|jpc 2 rfl<|jsg 89 rfl (jpc 2 rfl<|jia 1 rfl rfl rfl<|fun x11 h9 b9 hp6=>jlA 1 1 sI false oI rfl hp6 h9 rfl<|jpc 1 rfl<|jpe (vb (x11 == 1))<|
  jpc 1 rfl<|jsg 96 rfl (jpc 2 rfl<|jia 2 rfl rfl rfl<|fun x12 h10 b10 hp7=>jlA 2 2 sI false oI rfl hp7 h10 rfl<|jpc 2 rfl<|jpe (vb (x12 == s3.2.2))<|joe<|jnn (gv (fun _ k=>k) [0,1,2,903] ⟨gk 1,gk 2,gk 3,gk 4,⟨⟩⟩))<|jpc 6 rfl<|
  jpe (vb false)<|joe<|jnn (gv (fun _ k=>k) [0,1,2,903] ⟨gk 1,gk 2,gk 3,gk 4,⟨⟩⟩))<|jpc 5 rfl<|jpe (vb false)<|jpc 7 rfl<|jpe (vb false)<|joe<|jnn (gv (fun _ k=>k) [0,1,2,903] ⟨gk 1,gk 2,gk 3,gk 4,⟨⟩⟩))<|fun s12 _ k=>k<|jif rfl (jrg<|
  jpc 5 rfl<|jia 0 rfl rfl rfl<|fun x13 h11 b11 hp8=>jsA .s 1 0 sI 2 false rfl hp8 h11 rfl rfl vI<|fun r_23=>jia 2 rfl rfl rfl<|fun x14 h12 b12 hp9=>jsA .s 2 2 sI s3.2.2 false rfl hp9 h12 rfl rfl vI<|fun r_24=>joe<|jbn<|jtn<|jrg<|jpc 2 rfl<|
  joe<|jln (gv (fun _ k=>k r_23 r_24) [0,1,2,903] ⟨gk 1,gk 0,gk 4,gk 5,⟨⟩⟩))<|jsk<|jbn<|jtn<|jrg<|jpc 2 rfl<|joe<|jln (gv (fun _ k=>k r_21 r_22) [0,1,2,903] ⟨gk 0,gk 1,gk 2,gk 3,⟨⟩⟩))<|jxe<|jte<|jle<|jbh<|jbn<|jtn<|jrg<|jpc 3 rfl<|joe<|
  jln (gv (fun _ k=>k r_21 r_22) [0,1,2,903] ⟨gk 0,gk 1,gk 3,⟨⟩⟩))<|jxe<|jte<|jle<|jbh<|jnn (gv (fun _ k=>k r_19 r_20) [0,1,2,903] ⟨gk 0,gk 1,gk 2,⟨⟩⟩))<|fun s9 _ k r_17 r_18=>k<|jsr<|jpc 2 rfl<|jot<|jif rfl (jsr<|jpc 4 rfl<|jot<|jxr<|jbr<|
  jtr<|jlr<|jbr<|jsh 1 0 rfl rfl<|jsh 2 2 rfl rfl<|jre 1 2 rfl rfl<|jre 1 3 rfl rfl<|jrg' rfl (lT rfl (lT rfl lN)) (fun _ k=>k p2 c2 p3 c3) [] ⟨gk 1,gk 0,⟨⟩⟩)<|jsk<|jbn<|jtn<|jrg<|jpc 3 rfl<|joe<|
  jln (gv (fun _ k=>k r_17 r_18) [0,1,2] ⟨gk 0,gk 1,gk 2,⟨⟩⟩)

theorem c_ref12_Label {qd : Prop} {y0 : T_Graph} : Con qd Tryz.prog 21 [.agg #[vi y0.1, sv p1 y0.2 c1]] [] [Rl e_Pair p1 c1 y0.2] (m_ref12_Label y0) fun r K=>∀ p2 c2,K (sv p2 r c2) [] [Rl (eInt .i64) p2 c2 r] :=
 ent3 Tryz.call21 Tryz.func21 rfl fun X=>jsr<|jbx .s rfl<|fun b1=>jpc 1 rfl<|jot<|jsr<|jla 0 2 rfl rfl rfl<|jcl c_ref12_build rfl ⟨ck 0,⟨⟩⟩<|fun r1 _ k p2 c2 p3 c3=>k<|jpc 5 rfl<|jot<|jsr<|jpc 2 rfl<|jot<|jxr<|jr1 rfl rfl (fun _ k=>k p2 c2) [] ⟨gk 0,⟨⟩⟩

end Go.Proofs.YtnlkkepioljniaaGreatDoor
