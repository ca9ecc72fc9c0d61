/- The Go functions compute their models: printed by program (gd3). Conditions: none. -/
import Derived.Test.YtfifhonicjamfaaGreatDoorProg
import Derived.Test.YtfifhonicjamfaaGreatDoorOps5
import Derived.Test.YtfifhonicjamfaaGreatDoorModels
import Derived.Test.YtfifhonicjamfaaGreatDoorShelfP
namespace Go.Proofs.YtfifhonicjamfaaGreatDoor
open Go Go.GD
set_option autoImplicit false
set_option maxRecDepth 100000
variable {p1 p2 p3 p4 p5 p6 p7 p8 : Option Addr} {c1 c2 c3 c4 c5 c6 c7 c8 : Nat} {b1 b2 : Nat} {r_1 r_2 r_3 r_4 r_5 r_6 : Res}

abbrev e_keep_Src : E T_keep_Src := eProd (eSlice (eInt .i64)) (eInt .i64)
abbrev o_keep_Src : Opn e_keep_Src := (oP oL oI)
abbrev e_Literal : E T_Literal := eProd eBool eStr
abbrev o_Literal : Opn e_Literal := (oP oB oS)
abbrev e_Premise : E T_Premise := eProd e_Literal (eProd (eInt .i64) (eProd (eInt .i64) eStr))
abbrev o_Premise : Opn e_Premise := (oP o_Literal (oP oI (oP oI oS)))
abbrev e_Rule : E T_Rule := eProd eStr (eProd eBool (eProd (eInt .i64) (eProd (eSlice e_Literal) e_Literal)))
abbrev o_Rule : Opn e_Rule := (oP oS (oP oB (oP oI (oP oL o_Literal))))
abbrev e_Promotion : E T_Promotion := eProd eStr (eProd (eInt .i64) e_Literal)
abbrev o_Promotion : Opn e_Promotion := (oP oS (oP oI o_Literal))
abbrev e_Base : E T_Base := eProd (eSlice e_Premise) (eProd (eSlice e_Rule) (eSlice e_Promotion))
abbrev o_Base : Opn e_Base := (oP oL (oP oL oL))
abbrev e_rulebase_words : E T_rulebase_words := eProd (eSlice eStr) eBool
abbrev o_rulebase_words : Opn e_rulebase_words := (oP oL oB)
abbrev e_ref05_line : E T_ref05_line := eProd (eInt .i64) (eProd e_Premise (eProd e_Rule e_Promotion))
abbrev o_ref05_line : Opn e_ref05_line := (oP oI (oP o_Premise (oP o_Rule o_Promotion)))

theorem c_keep_Mod {qd : Prop} {y0 : Int} {y1 : Int} : Con qd Tryz.prog 9 [vi y0, vi y1] [] [] (m_keep_Mod y0 y1) fun r K=>K (vi r) [] [] :=
 ent3 Tryz.call9 Tryz.func9 rfl fun X=>jsr<|jpc 1 rfl<|jot<|jsq<|jsr<|jpc 2 rfl<|jot<|jif rfl (jsr<|jpc 1 rfl<|jot<|jxr<|jtr<|jr1 rfl rfl (fun _ k=>k) [] ⟨⟩)<|jsk<|jtn<|jsr<|jpc 2 rfl<|jbd fun x1 h1=>jv (fun h=>r_remK h rfl rfl h1)<|jpc 1 rfl<|jot<|jsq<|jsr<|jpc 2 rfl<|jot<|
  jif rfl (jrg<|jpc 4 rfl<|joe<|jtn<|jsr<|jpc 2 rfl<|jot<|jxr<|jr1 rfl rfl (fun _ k=>k) [] ⟨⟩)<|jsk<|jtn<|jsr<|jpc 2 rfl<|jot<|jxr<|jr1 rfl rfl (fun _ k=>k) [] ⟨⟩

theorem c_keep_New {qd : Prop} {y0 : List Int} : Con qd Tryz.prog 6 [sv p1 y0 c1] [] [Rl (eInt .i64) p1 c1 y0] (m_keep_New y0) fun r K=>∀ b1 p2 c2,K (pt b1 0) [bx b1 55 [sv p2 r.1 c2, vi r.2]] [Rl (eInt .i64) p2 c2 r.1] :=
 ent3 Tryz.call6 Tryz.func6 rfl fun X=>jsr<|jpc 1 rfl<|jot<|jsr<|jpc 4 rfl<|jsl (gk 0) rfl rfl rfl (.inl ⟨rfl, rfl⟩) (.inr ⟨_, rfl⟩)<|fun x1 p2 c2=>jpe (.agg #[sv p2 x1 c2, vi 0])<|jbx .s rfl<|fun b1=>jpc 1 rfl<|jot<|jxr<|jr1 rfl rfl (fun _ k=>k b1 p2 c2) [0] ⟨gk 0,⟨⟩⟩

theorem c_keep_RuleName {qd : Prop} {y0 : Int} : Con qd Tryz.prog 30 [vi y0] [] [] (m_keep_RuleName y0) fun r K=>K (vs r) [] [] :=
 ent3 Tryz.call30 Tryz.func30 rfl fun X=>jsr<|jpc 1 rfl<|jot<|jsr<|jpc 1 rfl<|jcl c_keep_Mod rfl ⟨⟩<|fun r1 _ k=>k<|jpc 1 rfl<|jpe (.int .u8 (IntKind.u8.wrap (w64 (97 + r1))))<|
  jbs .s (e := eInt .u8) 5 [.int .u8 (IntKind.u8.wrap (w64 (97 + r1)))] ([IntKind.u8.wrap (w64 (97 + r1))] : List Int) (rC vI rN)<|fun p1 c1=>jsb .s (gk 0) rfl Tryz.underlying34 Tryz.underlying5 Tryz.underlying9<|jbd fun x1 h1=>
  jv (fun h=>r_cat h rfl rfl h1)<|jpc 1 rfl<|jot<|jxr<|jr1 rfl rfl (fun _ k=>k) [] ⟨⟩

theorem c_keep_Src_Raw {qd : Prop} {y0 : T_keep_Src} : Con qd Tryz.prog 32 [pt b1 0] [bx b1 55 [sv p1 y0.1 c1, vi y0.2]] [Rl (eInt .i64) p1 c1 y0.1] (m_keep_Src_Raw y0) fun r K=>K (vi r.1) [bx b1 55 [sv p1 y0.1 c1, vi r.2]] [] :=
 ent3 Tryz.call32 Tryz.func32 rfl fun X=>jsr<|jpc 1 rfl<|jot<|jsq<|jds [] [0] 10<|jdc 8 [0,1] rfl<|jdf 2 1 rfl rfl<|jdo 3 0 rfl rfl rfl rfl<|jdc 4 [4,5] rfl<|jdf 6 0 rfl rfl<|jdo 7 0 rfl rfl rfl rfl<|jdc 0 [8,9] rfl<|jde<|jtn<|jif rfl (jsr<|jpc 1 rfl<|jot<|jxr<|jtr<|
  jr1 rfl rfl (fun _ k=>k) [0] ⟨⟩)<|jsk<|jtn<|jsr<|jpc 2 rfl<|jfa 1 rfl<|jlo 0 rfl rfl rfl<|jpc 2 rfl<|jfa 1 rfl<|jso .s 0 rfl rfl rfl<|jot<|jds [] [0] 12<|jdc 10 [0,1] rfl<|jdf 2 0 rfl rfl<|jdo 3 0 rfl rfl rfl rfl<|jdc 6 [4,5] rfl<|
  jdf 6 1 rfl rfl<|jdo 7 0 rfl rfl rfl rfl<|jdc 3 [8] rfl<|jdi 9 0 rfl rfl rfl rfl<|fun x1 b2 o1=>jdl 10 false oI rfl (gk 0) rfl<|jdc 0 [11] rfl<|jde<|jtn<|jxr<|jr1 rfl rfl (fun _ k=>k) [0] ⟨⟩

theorem c_keep_Src_N {qd : Prop} {y0 : T_keep_Src} {y1 : Int} : Con qd Tryz.prog 10 [pt b1 0, vi y1] [bx b1 55 [sv p1 y0.1 c1, vi y0.2]] [Rl (eInt .i64) p1 c1 y0.1] (m_keep_Src_N y0 y1) fun r K=>K (vi r.1) [bx b1 55 [sv p1 y0.1 c1, vi r.2]] [] :=
 ent3 Tryz.call10 Tryz.func10 rfl fun X=>jsr<|jpc 1 rfl<|jot<|jsr<|jpc 1 rfl<|jca .s [0] [] c_keep_Src_Raw rfl rfl rfl ⟨ck 0,⟨⟩⟩<|fun r1 _ k=>k<|jpc 1 rfl<|jcl c_keep_Mod rfl ⟨⟩<|fun r2 _ k=>k<|jpc 1 rfl<|jot<|jxr<|jr1 rfl rfl (fun _ k=>k) [0] ⟨⟩

theorem c_keep_Src_Literal {qd : Prop} {y0 : T_keep_Src} {y1 : Int} : Con qd Tryz.prog 28 [pt b1 0, vi y1] [bx b1 55 [sv p1 y0.1 c1, vi y0.2]] [Rl (eInt .i64) p1 c1 y0.1] (m_keep_Src_Literal y0 y1) fun r K=>K (.agg #[vb r.1.1, vs r.1.2]) [bx b1 55 [sv p1 y0.1 c1, vi r.2]] [] :=
 ent3 Tryz.call28 Tryz.func28 rfl fun X=>jsr<|jal .s (.agg #[vb false, vs []])<|fun b2=>jot<|jsr<|jpc 3 rfl<|jca .s [0] [] c_keep_Src_N rfl rfl rfl ⟨ck 0,⟨⟩⟩<|fun r1 _ k=>k<|jpc 1 rfl<|jot<|jsr<|jpc 4 rfl<|jbd fun x1 h1=>jv (fun h=>r_quoK h rfl rfl h1)<|jpc 1 rfl<|
  jpe (.int .u8 (IntKind.u8.wrap (w64 (97 + x1))))<|jbs .s (e := eInt .u8) 5 [.int .u8 (IntKind.u8.wrap (w64 (97 + x1)))] ([IntKind.u8.wrap (w64 (97 + x1))] : List Int) (rC vI rN)<|fun p2 c2=>
  jsb .s (gk 0) rfl Tryz.underlying34 Tryz.underlying5 Tryz.underlying9<|jpe (.agg #[vb ((band .i64 r1.1 1) == 1), vs (strOf ([IntKind.u8.wrap (w64 (97 + x1))] : List Int))])<|jso .s 1 rfl rfl rfl<|jot<|jxr<|
  jrg' rfl (lC 1 (.agg #[vb ((band .i64 r1.1 1) == 1), vs (strOf ([IntKind.u8.wrap (w64 (97 + x1))] : List Int))]) rfl rfl lN) (fun _ k=>k) [0] ⟨⟩

theorem c_keep_Src_Literals {qd : Prop} {y0 : T_keep_Src} {y1 : Int} {y2 : Int} : Con qd Tryz.prog 20 [pt b1 0, vi y1, vi y2] [bx b1 55 [sv p1 y0.1 c1, vi y0.2]] [Rl (eInt .i64) p1 c1 y0.1] (m_keep_Src_Literals y0 y1 y2) fun r K=>∀ p2 c2,K (sv p2 r.1 c2) [bx b1 55 [sv p1 y0.1 c1, vi r.2]] [Rl e_Literal p2 c2 r.1] :=
 ent3 Tryz.call20 Tryz.func20 rfl fun X=>jsr<|jpc 1 rfl<|jot<|jsr<|jpc 1 rfl<|jro e_Literal 58<|jot<|jsq<|jsr<|jpc 3 rfl<|jca .s [0] [] c_keep_Src_N rfl rfl rfl ⟨ck 1,⟨⟩⟩<|fun r1 _ k=>k<|jpc 1 rfl<|jot<|jbk<|
  jlp (fun s1 K=>∀ p2 c2 r_1,K [(0, pt b1 0), (2, vi y2), (7, sv p2 s1.1 c2), (8, vi s1.2.1)] [bx b1 55 [sv p1 y0.1 c1, vi s1.2.2], r_1] [Al e_Literal 58 r_1 p2 c2 s1.1, Rl (eInt .i64) p1 c1 y0.1]) (gv (fun _ k=>k none 0 []) [0,1] ⟨gk 0,gk 1,⟨⟩⟩)<|
  fun s1 _ k p2 c2 r_1=>k<|jsq<|jsr<|jpc 2 rfl<|jot<|jif rfl (jsk<|jtn<|jsq<|jbk<|jrg<|jpc 3 rfl<|jca .s [0] [] c_keep_Src_Literal rfl rfl rfl ⟨ck 1,⟨⟩⟩<|fun r2 _ k=>k<|
  jbs .s (e := e_Literal) 58 [vb r2.1.1, vs r2.1.2] ([r2.1] : List T_Literal) (rC (vP vB vS) rN)<|fun p3 c3=>jar .s 1 1 rfl (gk 0) rfl rfl<|fun x1 r_2 p4 c4=>jpc 1 rfl<|joe<|jbn<|jtn<|jrg<|jpc 3 rfl<|joe<|
  jln (gv (fun _ k=>k p4 c4 r_2) [0,1] ⟨gk 0,gk 3,⟨⟩⟩))<|jxe<|jte<|jle<|jbh<|jtn<|jsr<|jpc 2 rfl<|jot<|jxr<|jsh 1 0 rfl rfl<|jr1 rfl rfl (fun _ k=>k p2 c2) [0] ⟨gk 0,⟨⟩⟩

theorem c_keep_Src_Pick {qd : Prop} {y0 : T_keep_Src} {y1 : List Int} : Con qd Tryz.prog 29 [pt b1 0, sv p2 y1 c2] [bx b1 55 [sv p1 y0.1 c1, vi y0.2]] [Rl (eInt .i64) p1 c1 y0.1, Rl (eInt .i64) p2 c2 y1] (m_keep_Src_Pick y0 y1) fun r K=>K (vi r.1) [bx b1 55 [sv p1 y0.1 c1, vi r.2]] [] :=
 ent3 Tryz.call29 Tryz.func29 rfl fun X=>jsr<|jpc 1 rfl<|jot<|jsr<|jpc 4 rfl<|jca .s [0] [] c_keep_Src_N rfl rfl rfl ⟨ck 0,⟨⟩⟩<|fun r1 _ k=>k<|jix 1 rfl rfl rfl<|fun x1 b2 o1=>jld false oI (gk 0) rfl<|jpc 1 rfl<|jot<|jxr<|jr1 rfl rfl (fun _ k=>k) [0] ⟨⟩

theorem c_keep_Src_Text {qd : Prop} {y0 : T_keep_Src} {y1 : List Str} : Con qd Tryz.prog 11 [pt b1 0, sv p2 y1 c2] [bx b1 55 [sv p1 y0.1 c1, vi y0.2]] [Rl (eInt .i64) p1 c1 y0.1, Rl eStr p2 c2 y1] (m_keep_Src_Text y0 y1) fun r K=>K (vs r.1) [bx b1 55 [sv p1 y0.1 c1, vi r.2]] [] :=
 ent3 Tryz.call11 Tryz.func11 rfl fun X=>jsr<|jpc 1 rfl<|jot<|jsr<|jpc 4 rfl<|jca .s [0] [] c_keep_Src_N rfl rfl rfl ⟨ck 0,⟨⟩⟩<|fun r1 _ k=>k<|jix 1 rfl rfl rfl<|fun x1 b2 o1=>jld false oS (gk 0) rfl<|jpc 1 rfl<|jot<|jxr<|jr1 rfl rfl (fun _ k=>k) [0] ⟨⟩

theorem c_keep_sorted {qd : Prop} {y0 : List T_Literal} : Con qd Tryz.prog 31 [sv p1 y0 c1] [] [Rl e_Literal p1 c1 y0] (m_keep_sorted y0) fun r K=>∀ p2 c2,K (sv p2 r c2) [] [Rl e_Literal p2 c2 r] :=
 ent3 Tryz.call31 Tryz.func31 rfl fun X=>jsr<|jpc 1 rfl<|jot<|jsr<|jpc 1 rfl<|jro e_Literal 58<|jot<|jsq<|jsr<|jpc 3 rfl<|jot<|jbk<|
  jlp (fun s1 K=>∀ p2 c2 r_1,K [(3, sv p2 s1.1 c2), (7, sv p1 y0 c1), (8, vi (len y0)), (9, vi s1.2)] [r_1] [Al e_Literal 58 r_1 p2 c2 s1.1, Rl e_Literal p1 c1 y0]) (gv (fun _ k=>k none 0 []) [0] ⟨gk 0,gk 1,⟨⟩⟩)<|fun s1 _ k p2 c2 r_1=>k<|
  jsr<|jpc 1 rfl<|jot<|jsq<|jif rfl (jsk<|jtn<|jsq<|jbk<|jsr<|jix 1 rfl rfl rfl<|fun x1 b1 o1=>jld true o_Literal (gk 0) rfl<|jal .s (.agg #[vb false, vs []])<|fun b2=>jso .s 1 rfl rfl rfl<|jot<|jsr<|jpc 1 rfl<|jot<|
  jjn (fun s2 K=>K [(3, sv p2 s1.1 c2), (5, pt b2 0), (6, vi s2), (7, sv p1 y0 c1), (8, vi (len y0)), (9, vi s1.2)] [r_1, bx b2 58 [vb x1.1, vs x1.2]] [Al e_Literal 58 r_1 p2 c2 s1.1, Rl e_Literal p1 c1 y0]) (jbk<|
  jlp (fun s3 K=>K [(3, sv p2 s1.1 c2), (5, pt b2 0), (6, vi s3), (7, sv p1 y0 c1), (8, vi (len y0)), (9, vi s1.2)] [r_1, bx b2 58 [vb x1.1, vs x1.2]] [Al e_Literal 58 r_1 p2 c2 s1.1, Rl e_Literal p1 c1 y0]) (gv (fun _ k=>k) [0,1] ⟨gk 1,gk 2,⟨⟩⟩)<|
  fun s3 _ k=>k<|jsq<|jjn (fun s4 K=>K [(3, sv p2 s1.1 c2), (5, pt b2 0), (6, vi s3), (7, sv p1 y0 c1), (8, vi (len y0)), (9, vi s1.2), (48, vb s4)] [r_1, bx b2 58 [vb x1.1, vs x1.2]] [Al e_Literal 58 r_1 p2 c2 s1.1, Rl e_Literal p1 c1 y0]) (
  jdS [] [0, 1] 36<|jdc 31 [0,1,2,3,4] rfl<|jsg 17 rfl (jdc 29 [5,6] rfl<|jdI 7 0 rfl rfl rfl rfl<|fun x2 h1 b3 hp1=>jdf 8 1 rfl rfl<|jdL 9 0 0 sI.snd false oS rfl rfl hp1 h1 rfl<|jdf 10 1 rfl rfl<|jdo 11 1 rfl rfl rfl rfl<|
  jdc 22 [12,13] rfl<|jsg 26 rfl (jdc 2 [14,15,16,17,18,19,20,21,22,23,24,25,26,27,28,29,30,31,32,33] rfl<|jdp 34 (vb true) rfl<|jdp 35 (vb true) rfl<|jde<|jnn (gv (fun _ k=>k) [0,1] ⟨gk 0,gk 1,⟨⟩⟩))<|jdc 20 [14,15] rfl<|
  jdI 16 0 rfl rfl rfl rfl<|fun x3 h2 b4 hp2=>jdf 17 1 rfl rfl<|jdL 18 0 0 sI.snd false oS rfl rfl hp2 h2 rfl<|jdf 19 1 rfl rfl<|jdo 20 1 rfl rfl rfl rfl<|jdc 13 [21,22] rfl<|jsg 35 rfl (jdc 11 [23,24] rfl<|jdI 25 0 rfl rfl rfl rfl<|
  fun x4 h3 b5 hp3=>jdf 26 0 rfl rfl<|jdL 27 0 0 sI.fst false oB rfl rfl hp3 h3 rfl<|jdc 7 [28] rfl<|jdp 29 (vb (!x4.1)) rfl<|jdc 5 [30] rfl<|jsg 43 rfl (jdf 31 0 rfl rfl<|jdo 32 1 rfl rfl rfl rfl<|jdp 33 (vb x1.1) rfl<|jdp 34 (vb x1.1) rfl<|
  jdp 35 (vb x1.1) rfl<|jde<|jnn (gv (fun _ k=>k) [0,1] ⟨gk 0,gk 1,⟨⟩⟩))<|jdc 3 [31,32] rfl<|jdp 33 (vb false) rfl<|jdp 34 (vb false) rfl<|jdp 35 (vb false) rfl<|jde<|jnn (gv (fun _ k=>k) [0,1] ⟨gk 0,gk 1,⟨⟩⟩))<|
  jdc 7 [23,24,25,26,27,28] rfl<|jdp 29 (vb false) rfl<|jdc 3 [30,31,32] rfl<|jdp 33 (vb false) rfl<|jdp 34 (vb false) rfl<|jdp 35 (vb false) rfl<|jde<|jnn (gv (fun _ k=>k) [0,1] ⟨gk 0,gk 1,⟨⟩⟩))<|
  jdc 1 [5,6,7,8,9,10,11,12,13,14,15,16,17,18,19,20,21,22,23,24,25,26,27,28,29,30,31,32,33,34] rfl<|jdp 35 (vb false) rfl<|jde<|jnn (gv (fun _ k=>k) [0,1] ⟨gk 0,gk 1,⟨⟩⟩))<|fun s4 _ k=>k<|jif rfl (jsk<|jtn<|jbk<|jrg<|jpc 3 rfl<|joe<|jbn<|
  jln (gv (fun _ k=>k) [0,1] ⟨gk 0,gk 1,⟨⟩⟩))<|jxe<|jte<|jle<|jbh<|jnn (gv (fun _ k=>k) [0,1] ⟨gk 0,gk 1,⟨⟩⟩))<|fun s2 _ k=>k<|jsq<|
  jjn (fun s5 K=>K [(3, sv p2 s1.1 c2), (5, pt b2 0), (6, vi s2), (7, sv p1 y0 c1), (8, vi (len y0)), (9, vi s1.2), (62, vb s5)] [r_1, bx b2 58 [vb x1.1, vs x1.2]] [Al e_Literal 58 r_1 p2 c2 s1.1, Rl e_Literal p1 c1 y0]) (jdS [] [0, 1] 12<|
  jdc 7 [0,1,2,3,4] rfl<|jsg 55 rfl (jdc 5 [5,6] rfl<|jdI 7 0 rfl rfl rfl rfl<|fun x5 h4 b6 hp4=>jdL 8 0 0 sI true o_Literal rfl rfl hp4 h4 rfl<|jda 9 1 2 rfl rfl rfl rfl<|jdp 10 (vb (x5 == x1)) rfl<|jdp 11 (vb (x5 == x1)) rfl<|jde<|
  jnn (gv (fun _ k=>k) [0,1] ⟨gk 0,gk 1,⟨⟩⟩))<|jdc 1 [5,6,7,8,9,10] rfl<|jdp 11 (vb false) rfl<|jde<|jnn (gv (fun _ k=>k) [0,1] ⟨gk 0,gk 1,⟨⟩⟩))<|fun s5 _ k=>k<|jif rfl (jxe<|jte<|jbh<|jtn<|jrg<|jpc 2 rfl<|joe<|
  jln (gv (fun _ k=>k p2 c2 r_1) [0] ⟨gk 0,gk 1,⟨⟩⟩))<|jsk<|jtn<|jsr<|jpc 1 rfl<|jpe (.agg #[vb false, vs []])<|jbs .s (e := e_Literal) 58 [vb false, vs []] ([(false, [])] : List T_Literal) (rC (vP vB vS) rN)<|fun p3 c3=>
  jar .s 0 1 rfl (gk 0) rfl rfl<|fun x6 r_2 p4 c4=>jpc 1 rfl<|jot<|jds [] [] 8<|jdc 5 [0,1,2] rfl<|jdV 3 0 rfl rfl rfl rfl<|fun u1 p5 c5 f1=>jdc 2 [4,5] rfl<|jdV 6 0 rfl rfl rfl rfl<|fun u2 p6 c6 f2=>jd1 7<|
  jcp (.f rfl) 0 0 rfl (vwV f1) (srV 0 0 f2 rfl) rfl rfl<|fun r_3=>jdn<|jde<|jtn<|jrg<|jpc 2 rfl<|jla 1 2 rfl rfl rfl<|jia 0 rfl rfl rfl<|fun x7 h6 b7 hp5=>jsA .s 0 0 sI x1 true rfl hp5 h6 rfl rfl (vP vB vS)<|fun r_4=>joe<|jbn<|jtn<|jrg<|
  jpc 2 rfl<|joe<|jrE 0 3 rfl rfl<|jln (gv (fun _ k=>k p4 c4 r_4) [0] ⟨gk 0,gk 6,⟨⟩⟩))<|jxe<|jte<|jle<|jbh<|jtn<|jsr<|jpc 2 rfl<|jot<|jxr<|jsh 0 0 rfl rfl<|jr1 rfl rfl (fun _ k=>k p2 c2) [] ⟨gk 0,⟨⟩⟩

theorem c_keep_Src_Base {qd : Prop} {y0 : T_keep_Src} {y1 : Int} {y2 : Int} {y3 : Int} : Con qd Tryz.prog 8 [pt b1 0, vi y1, vi y2, vi y3] [bx b1 55 [sv p1 y0.1 c1, vi y0.2]] [Rl (eInt .i64) p1 c1 y0.1] (m_keep_Src_Base y0 y1 y2 y3) fun r K=>∀ p2 c2 p3 c3 p4 c4,K (.agg #[sv p2 r.1.1 c2, sv p3 r.1.2.1 c3, sv p4 r.1.2.2 c4]) [bx b1 55 [sv p1 y0.1 c1, vi r.2]] [Rl e_Premise p2 c2 r.1.1, Rl e_Rule p3 c3 r.1.2.1, Rl e_Promotion p4 c4 r.1.2.2] :=
 ent3 Tryz.call8 Tryz.func8 rfl fun X=>jsr<|jal .s (.agg #[.slice none 0 0, .slice none 0 0, .slice none 0 0])<|fun b2=>jot<|jsr<|jal .s (.agg #[.slice none 0 0, .slice none 0 0, .slice none 0 0])<|fun b3=>jro e_Premise 60<|jro e_Rule 63<|jro e_Promotion 66<|jot<|
  jjn (fun s1 K=>∀ p2 c2 r_1,K [(0, pt b1 0), (1, vi y1), (3, vi y3), (8, pt b2 0), (9, pt b3 0)] [bx b1 55 [sv p1 y0.1 c1, vi s1.1], bx b2 32 [.slice none 0 0, .slice none 0 0, .slice none 0 0], bx b3 32 [sv p2 s1.2 c2, sv none ([] : List T_Rule) 0, sv none ([] : List T_Promotion) 0], r_1, [], []] [Al e_Premise 60 r_1 p2 c2 s1.2, Rl (eInt .i64) p1 c1 y0.1, Al e_Rule 63 [] none 0 ([] : List T_Rule), Al e_Promotion 66 [] none 0 ([] : List T_Promotion)]) (
  jsr<|jpc 3 rfl<|jca .s [0] [] c_keep_Src_N rfl rfl rfl ⟨ck 3,⟨⟩⟩<|fun r1 _ k=>k<|jpc 1 rfl<|jot<|jbk<|
  jlp (fun s2 K=>∀ p3 c3 r_2,K [(0, pt b1 0), (1, vi y1), (3, vi y3), (8, pt b2 0), (9, pt b3 0), (10, vi s2.1)] [bx b1 55 [sv p1 y0.1 c1, vi s2.2.1], bx b2 32 [.slice none 0 0, .slice none 0 0, .slice none 0 0], bx b3 32 [sv p3 s2.2.2 c3, sv none ([] : List T_Rule) 0, sv none ([] : List T_Promotion) 0], r_2, [], []] [Al e_Premise 60 r_2 p3 c3 s2.2.2, Rl (eInt .i64) p1 c1 y0.1, Al e_Rule 63 [] none 0 ([] : List T_Rule), Al e_Promotion 66 [] none 0 ([] : List T_Promotion)]) (gv (fun _ k=>k none 0 []) [0,1,2,3,4,5] ⟨gk 2,gk 3,gk 1,gk 0,⟨⟩⟩)<|
  fun s2 _ k p3 c3 r_2=>k<|jsq<|jsr<|jpc 2 rfl<|jot<|jif rfl (jsk<|jtn<|jsq<|jbk<|jsr<|jpc 2 rfl<|jca .s [0] [] c_keep_Src_Literal rfl rfl rfl ⟨ck 1,⟨⟩⟩<|fun r2 _ k=>k<|jpc 1 rfl<|
  jbs .s (e := eInt .i64) 3 [vi 1, vi 2, vi 2, vi 2, vi 3] ([1, 2, 2, 2, 3] : List Int) (rC vI (rC vI (rC vI (rC vI (rC vI rN)))))<|fun p4 c4=>jca .s [0] [] c_keep_Src_Pick rfl rfl rfl ⟨ck 2,ck 0,⟨⟩⟩<|fun r3 _ k=>k<|jpc 1 rfl<|
  jbs .s (e := eStr) 9 [vs [], vs [], vs [97, 110, 110], vs [98, 111, 98]] ([[], [], [97, 110, 110], [98, 111, 98]] : List Str) (rC vS (rC vS (rC vS (rC vS rN))))<|fun p5 c5=>jca .s [0] [] c_keep_Src_Text rfl rfl rfl ⟨ck 3,ck 0,⟨⟩⟩<|
  fun r4 _ k=>k<|jpe (.agg #[vb r2.1.1, vs r2.1.2, vi r3.1, vi 0, vs r4.1])<|jal .s (.agg #[vb false, vs [], vi 0, vi 0, vs []])<|fun b4=>jso .s 6 rfl rfl rfl<|jot<|
  jjn (fun s3 K=>K [(0, pt b1 0), (1, vi y1), (3, vi y3), (8, pt b2 0), (9, pt b3 0), (10, vi s2.1), (11, pt b4 0)] [bx b1 55 [sv p1 y0.1 c1, vi s3.1], bx b2 32 [.slice none 0 0, .slice none 0 0, .slice none 0 0], bx b3 32 [sv p3 s2.2.2 c3, sv none ([] : List T_Rule) 0, sv none ([] : List T_Promotion) 0], r_2, [], [], bx b4 60 [vb r2.1.1, vs r2.1.2, vi r3.1, vi s3.2, vs r4.1]] [Rl (eInt .i64) p1 c1 y0.1, Al e_Premise 60 r_2 p3 c3 s2.2.2, Al e_Rule 63 [] none 0 ([] : List T_Rule), Al e_Promotion 66 [] none 0 ([] : List T_Promotion)]) (
  jsr<|jfa 2 rfl<|jlo 6 rfl rfl rfl<|jpc 1 rfl<|jot<|jif rfl (jrg<|jpc 1 rfl<|jca .s [0] [] c_keep_Src_N rfl rfl rfl ⟨ck 3,⟨⟩⟩<|fun r5 _ k=>k<|jfa 3 rfl<|jso .s 6 rfl rfl rfl<|joe<|
  jnn (gv (fun _ k=>k) [0,1,2,3,4,5,6] ⟨gk 3,gk 2,gk 4,gk 5,⟨⟩⟩))<|jsk<|jnn (gv (fun _ k=>k) [0,1,2,3,4,5,6] ⟨gk 3,gk 2,gk 4,gk 5,⟨⟩⟩))<|fun s3 _ k=>k<|jsr<|jpc 1 rfl<|jot<|
  jjn (fun s4 K=>K [(0, pt b1 0), (1, vi y1), (3, vi y3), (8, pt b2 0), (9, pt b3 0), (10, vi s2.1), (11, pt b4 0), (12, vb s4)] [bx b1 55 [sv p1 y0.1 c1, vi s3.1], bx b2 32 [.slice none 0 0, .slice none 0 0, .slice none 0 0], bx b3 32 [sv p3 s2.2.2 c3, sv none ([] : List T_Rule) 0, sv none ([] : List T_Promotion) 0], r_2, [], [], bx b4 60 [vb r2.1.1, vs r2.1.2, vi r3.1, vi s3.2, vs r4.1]] [Rl (eInt .i64) p1 c1 y0.1, Al e_Premise 60 r_2 p3 c3 s2.2.2, Al e_Rule 63 [] none 0 ([] : List T_Rule), Al e_Promotion 66 [] none 0 ([] : List T_Promotion)]) (
  jsr<|jfa 0 rfl<|jlo 2 rfl rfl rfl<|jpc 2 rfl<|jot<|jbk<|
  jlp (fun s5 K=>K [(0, pt b1 0), (1, vi y1), (3, vi y3), (8, pt b2 0), (9, pt b3 0), (10, vi s2.1), (11, pt b4 0), (12, vb s5.1), (44, sv p3 s2.2.2 c3), (45, vi (len s2.2.2)), (46, vi s5.2)] [bx b1 55 [sv p1 y0.1 c1, vi s3.1], bx b2 32 [.slice none 0 0, .slice none 0 0, .slice none 0 0], bx b3 32 [sv p3 s2.2.2 c3, sv none ([] : List T_Rule) 0, sv none ([] : List T_Promotion) 0], r_2, [], [], bx b4 60 [vb r2.1.1, vs r2.1.2, vi r3.1, vi s3.2, vs r4.1]] [Al e_Premise 60 r_2 p3 c3 s2.2.2, Rl (eInt .i64) p1 c1 y0.1, Al e_Rule 63 [] none 0 ([] : List T_Rule), Al e_Promotion 66 [] none 0 ([] : List T_Promotion)]) (gv (fun _ k=>k) [0,1,2,3,4,5,6] ⟨gk 1,gk 0,gk 2,gk 3,⟨⟩⟩)<|
  fun s5 _ k=>k<|jsr<|jpc 1 rfl<|jot<|jsq<|jif rfl (jsk<|jtn<|jsq<|jbk<|jsr<|jia 0 rfl rfl rfl<|fun x1 h1 b5 hp1=>jlA 3 0 sI true o_Premise rfl hp1 h1 rfl<|jal .s (.agg #[vb false, vs [], vi 0, vi 0, vs []])<|fun b6=>jso .s 7 rfl rfl rfl<|
  jot<|
  jjq (fun K=>K [(0, pt b1 0), (1, vi y1), (3, vi y3), (8, pt b2 0), (9, pt b3 0), (10, vi s2.1), (11, pt b4 0), (12, vb (s5.1 || (x1.1 == r2.1))), (44, sv p3 s2.2.2 c3), (45, vi (len s2.2.2)), (46, vi s5.2)] [bx b1 55 [sv p1 y0.1 c1, vi s3.1], bx b2 32 [.slice none 0 0, .slice none 0 0, .slice none 0 0], bx b3 32 [sv p3 s2.2.2 c3, sv none ([] : List T_Rule) 0, sv none ([] : List T_Promotion) 0], r_2, [], [], bx b4 60 [vb r2.1.1, vs r2.1.2, vi r3.1, vi s3.2, vs r4.1], []] [Al e_Premise 60 r_2 p3 c3 s2.2.2, Rl (eInt .i64) p1 c1 y0.1, Al e_Rule 63 [] none 0 ([] : List T_Rule), Al e_Promotion 66 [] none 0 ([] : List T_Promotion)]) (
  jrg<|jpc 2 rfl<|jsp (b := s5.1) 51 rfl (fun hb1=>jpc 5 rfl<|jpe (vb true)<|jpc 1 rfl<|joe<|jup 12 (vb (s5.1 || (x1.1 == r2.1))) rfl (by rw [hb1]; rfl)<|jnn (gv (fun _ k=>k) [0,1,2,3,4,5,6,907] ⟨gk 0,gk 1,gk 2,gk 3,⟨⟩⟩))<|fun hb1=>
  jfa 0 rfl<|jla 7 2 rfl rfl rfl<|jfa 0 rfl<|jla 6 2 rfl rfl rfl<|jpe (vb (x1.1 == r2.1))<|jpe (vb (x1.1 == r2.1))<|jpc 1 rfl<|joe<|jup 12 (vb (s5.1 || (x1.1 == r2.1))) rfl (by rw [hb1]; rfl)<|
  jnn (gv (fun _ k=>k) [0,1,2,3,4,5,6,907] ⟨gk 0,gk 1,gk 2,gk 3,⟨⟩⟩))<|fun _ k=>k<|jbn<|jtn<|jrg<|jpc 2 rfl<|joe<|jln (gv (fun _ k=>k) [0,1,2,3,4,5,6] ⟨gk 0,gk 1,gk 2,gk 3,⟨⟩⟩))<|jxe<|jte<|jle<|jbh<|
  jnn (gv (fun _ k=>k) [0,1,2,3,4,5,6] ⟨gk 1,gk 0,gk 2,gk 3,⟨⟩⟩))<|fun s4 _ k=>k<|jsr<|jpc 2 rfl<|jot<|jif rfl (jrg<|jfa 0 rfl<|jlo 2 rfl rfl rfl<|jla 6 5 rfl rfl rfl<|
  jbs .s (e := e_Premise) 60 [vb r2.1.1, vs r2.1.2, vi r3.1, vi s3.2, vs r4.1] ([(r2.1, r3.1, s3.2, r4.1)] : List T_Premise) (rC (vP (vP vB vS) (vP vI (vP vI vS))) rN)<|fun p6 c6=>jar .s 3 2 rfl (gk 0) rfl rfl<|fun x2 r_3 p7 c7=>jfa 0 rfl<|
  jso .s 2 rfl rfl rfl<|joe<|jbn<|jtn<|jrg<|jpc 3 rfl<|joe<|jln (gv (fun _ k=>k p7 c7 r_3) [0,1,2,3,4,5] ⟨gk 0,gk 2,gk 4,gk 5,⟨⟩⟩))<|jsk<|jbn<|jtn<|jrg<|jpc 3 rfl<|joe<|jln (gv (fun _ k=>k p3 c3 r_2) [0,1,2,3,4,5] ⟨gk 1,gk 0,gk 2,gk 3,⟨⟩⟩))<|
  jxe<|jte<|jle<|jbh<|jnn (gv (fun _ k=>k p3 c3 r_2) [0,1,2,3,4,5] ⟨gk 0,gk 1,gk 2,gk 3,⟨⟩⟩))<|fun s1 _ k p2 c2 r_1=>k<|
  jjn (fun s6 K=>∀ p8 c8 r_4,K [(0, pt b1 0), (1, vi y1), (8, pt b2 0), (9, pt b3 0)] [bx b1 55 [sv p1 y0.1 c1, vi s6.1], bx b2 32 [.slice none 0 0, .slice none 0 0, .slice none 0 0], bx b3 32 [sv p2 s1.2 c2, sv p8 s6.2 c8, sv none ([] : List T_Promotion) 0], r_1, r_4, []] [Al e_Rule 63 r_4 p8 c8 s6.2, Rl (eInt .i64) p1 c1 y0.1, Al e_Premise 60 r_1 p2 c2 s1.2, Al e_Promotion 66 [] none 0 ([] : List T_Promotion)]) (
  jsr<|jpc 3 rfl<|jca .s [0] [] c_keep_Src_N rfl rfl rfl ⟨ck 1,⟨⟩⟩<|fun r6 _ k=>k<|jpc 1 rfl<|jot<|jbk<|
  jlp (fun s7 K=>∀ p9 c9 r_5,K [(0, pt b1 0), (1, vi y1), (3, vi y3), (8, pt b2 0), (9, pt b3 0), (15, vi s7.1)] [bx b1 55 [sv p1 y0.1 c1, vi s7.2.1], bx b2 32 [.slice none 0 0, .slice none 0 0, .slice none 0 0], bx b3 32 [sv p2 s1.2 c2, sv p9 s7.2.2 c9, sv none ([] : List T_Promotion) 0], r_1, r_5, []] [Al e_Rule 63 r_5 p9 c9 s7.2.2, Rl (eInt .i64) p1 c1 y0.1, Al e_Premise 60 r_1 p2 c2 s1.2, Al e_Promotion 66 [] none 0 ([] : List T_Promotion)]) (gv (fun _ k=>k none 0 []) [0,1,2,3,4,5] ⟨gk 2,gk 1,gk 0,gk 3,⟨⟩⟩)<|
  fun s7 _ k p9 c9 r_5=>k<|jsq<|jsr<|jpc 2 rfl<|jot<|jif rfl (jsk<|jtn<|jsq<|jbk<|jsr<|jfa 1 rfl<|jlo 2 rfl rfl rfl<|jpc 1 rfl<|jcl c_keep_RuleName rfl ⟨⟩<|fun r7 _ k=>k<|jpc 1 rfl<|jca .s [0] [] c_keep_Src_N rfl rfl rfl ⟨ck 1,⟨⟩⟩<|
  fun r8 _ k=>k<|jpc 3 rfl<|jca .s [0] [] c_keep_Src_Literals rfl rfl rfl ⟨ck 1,⟨⟩⟩<|fun r9 _ k p10 c10=>k<|jcl c_keep_sorted rfl ⟨ck 0,⟨⟩⟩<|fun r10 _ k p11 c11=>k<|jpc 2 rfl<|jca .s [0] [] c_keep_Src_Literal rfl rfl rfl ⟨ck 3,⟨⟩⟩<|
  fun r11 _ k=>k<|jpe (.agg #[vs r7, vb (r8.1 == 0), vi 0, sv p11 r10 c11, vb r11.1.1, vs r11.1.2])<|jal .s (.agg #[vs [], vb false, vi 0, .slice none 0 0, vb false, vs []])<|fun b7=>jso .s 6 rfl rfl rfl<|jot<|
  jjn (fun s8 K=>K [(0, pt b1 0), (1, vi y1), (3, vi y3), (8, pt b2 0), (9, pt b3 0), (15, vi s7.1), (16, pt b7 0)] [bx b1 55 [sv p1 y0.1 c1, vi s8.1], bx b2 32 [.slice none 0 0, .slice none 0 0, .slice none 0 0], bx b3 32 [sv p2 s1.2 c2, sv p9 s7.2.2 c9, sv none ([] : List T_Promotion) 0], r_1, r_5, [], bx b7 63 [vs r7, vb (r8.1 == 0), vi s8.2, sv p11 r10 c11, vb r11.1.1, vs r11.1.2]] [Rl (eInt .i64) p1 c1 y0.1, Al e_Premise 60 r_1 p2 c2 s1.2, Al e_Rule 63 r_5 p9 c9 s7.2.2, Al e_Promotion 66 [] none 0 ([] : List T_Promotion), Rl e_Literal p11 c11 r10]) (
  jsr<|jfa 1 rfl<|jlo 6 rfl rfl rfl<|jpc 1 rfl<|jot<|jif rfl (jrg<|jpc 1 rfl<|jca .s [0] [] c_keep_Src_N rfl rfl rfl ⟨ck 3,⟨⟩⟩<|fun r12 _ k=>k<|jfa 2 rfl<|jso .s 6 rfl rfl rfl<|joe<|
  jnn (gv (fun _ k=>k) [0,1,2,3,4,5,6] ⟨gk 3,gk 4,gk 2,gk 5,gk 0,⟨⟩⟩))<|jsk<|jnn (gv (fun _ k=>k) [0,1,2,3,4,5,6] ⟨gk 3,gk 4,gk 2,gk 5,gk 0,⟨⟩⟩))<|fun s8 _ k=>k<|
  jjn (fun s9 K=>K [(0, pt b1 0), (1, vi y1), (3, vi y3), (8, pt b2 0), (9, pt b3 0), (15, vi s7.1), (16, pt b7 0)] [bx b1 55 [sv p1 y0.1 c1, vi s9.1], bx b2 32 [.slice none 0 0, .slice none 0 0, .slice none 0 0], bx b3 32 [sv p2 s1.2 c2, sv p9 s7.2.2 c9, sv none ([] : List T_Promotion) 0], r_1, r_5, [], bx b7 63 [vs r7, vb (r8.1 == 0), vi s8.2, sv p11 r10 c11, vb s9.2.1, vs s9.2.2]] [Rl (eInt .i64) p1 c1 y0.1, Al e_Premise 60 r_1 p2 c2 s1.2, Al e_Rule 63 r_5 p9 c9 s7.2.2, Al e_Promotion 66 [] none 0 ([] : List T_Promotion), Rl e_Literal p11 c11 r10]) (
  jsr<|jpc 1 rfl<|jca .s [0] [] c_keep_Src_N rfl rfl rfl ⟨ck 0,⟨⟩⟩<|fun r13 _ k=>k<|jpc 1 rfl<|jot<|jif rfl (jrg<|jpc 1 rfl<|jca .s [0] [] c_keep_Src_N rfl rfl rfl ⟨ck 0,⟨⟩⟩<|fun r14 _ k=>k<|jpc 3 rfl<|
  jca .s [0] [] c_keep_Src_N rfl rfl rfl ⟨ck 0,⟨⟩⟩<|fun r15 _ k=>k<|jcl c_keep_RuleName rfl ⟨⟩<|fun r16 _ k=>k<|jpe (.agg #[vb (decide (0 < r14.1)), vs r16])<|jfa 4 rfl<|jso .s 6 rfl rfl rfl<|joe<|
  jnn (gv (fun _ k=>k) [0,1,2,3,4,5,6] ⟨gk 0,gk 1,gk 2,gk 3,gk 4,⟨⟩⟩))<|jsk<|jnn (gv (fun _ k=>k) [0,1,2,3,4,5,6] ⟨gk 0,gk 1,gk 2,gk 3,gk 4,⟨⟩⟩))<|fun s9 _ k=>k<|jrg<|jfa 1 rfl<|jlo 2 rfl rfl rfl<|jla 6 6 rfl rfl rfl<|
  jbs .s (e := e_Rule) 63 [vs r7, vb (r8.1 == 0), vi s8.2, sv p11 r10 c11, vb s9.2.1, vs s9.2.2] ([(r7, r8.1 == 0, s8.2, r10, (s9.2.1, s9.2.2))] : List T_Rule) (rC (vP vS (vP vB (vP vI (vP (vL (gk 4)) (vP vB vS))))) rN)<|fun p12 c12=>
  jar .s 4 3 rfl (gk 0) rfl rfl<|fun x3 r_6 p13 c13=>jfa 1 rfl<|jso .s 2 rfl rfl rfl<|joe<|jbn<|jtn<|jrg<|jpc 3 rfl<|joe<|jln (gv (fun _ k=>k p13 c13 r_6) [0,1,2,3,4,5] ⟨gk 0,gk 2,gk 3,gk 5,⟨⟩⟩))<|jxe<|jte<|jle<|jbh<|
  jnn (gv (fun _ k=>k p9 c9 r_5) [0,1,2,3,4,5] ⟨gk 0,gk 1,gk 2,gk 3,⟨⟩⟩))<|fun s6 _ k p8 c8 r_4=>k<|
  jjn (fun s10 K=>∀ p14 c14 r_7,K [(8, pt b2 0), (9, pt b3 0)] [bx b1 55 [sv p1 y0.1 c1, vi s10.1], bx b2 32 [.slice none 0 0, .slice none 0 0, .slice none 0 0], bx b3 32 [sv p2 s1.2 c2, sv p8 s6.2 c8, sv p14 s10.2 c14], r_1, r_4, r_7] [Al e_Promotion 66 r_7 p14 c14 s10.2, Rl (eInt .i64) p1 c1 y0.1, Al e_Premise 60 r_1 p2 c2 s1.2, Al e_Rule 63 r_4 p8 c8 s6.2]) (
  jsr<|jpc 1 rfl<|jca .s [0] [] c_keep_Src_N rfl rfl rfl ⟨ck 1,⟨⟩⟩<|fun r17 _ k=>k<|jpc 1 rfl<|jot<|jbk<|
  jlp (fun s11 K=>∀ p15 c15 r_8,K [(0, pt b1 0), (1, vi y1), (8, pt b2 0), (9, pt b3 0), (17, vi s11.1)] [bx b1 55 [sv p1 y0.1 c1, vi s11.2.1], bx b2 32 [.slice none 0 0, .slice none 0 0, .slice none 0 0], bx b3 32 [sv p2 s1.2 c2, sv p8 s6.2 c8, sv p15 s11.2.2 c15], r_1, r_4, r_8] [Al e_Promotion 66 r_8 p15 c15 s11.2.2, Rl (eInt .i64) p1 c1 y0.1, Al e_Premise 60 r_1 p2 c2 s1.2, Al e_Rule 63 r_4 p8 c8 s6.2]) (gv (fun _ k=>k none 0 []) [0,1,2,3,4,5] ⟨gk 3,gk 1,gk 2,gk 0,⟨⟩⟩)<|
  fun s11 _ k p15 c15 r_8=>k<|jsq<|
  jjp (fun K=>K [(0, pt b1 0), (1, vi y1), (8, pt b2 0), (9, pt b3 0), (17, vi s11.1), (123, vb ((decide (0 < s11.1)) && (decide (0 < (len s6.2)))))] [bx b1 55 [sv p1 y0.1 c1, vi s11.2.1], bx b2 32 [.slice none 0 0, .slice none 0 0, .slice none 0 0], bx b3 32 [sv p2 s1.2 c2, sv p8 s6.2 c8, sv p15 s11.2.2 c15], r_1, r_4, r_8] [Rl (eInt .i64) p1 c1 y0.1, Al e_Premise 60 r_1 p2 c2 s1.2, Al e_Rule 63 r_4 p8 c8 s6.2, Al e_Promotion 66 r_8 p15 c15 s11.2.2]) (
  jrg<|jpc 3 rfl<|jsp (b := decide (0 < s11.1)) 118 rfl (fun hb2=>jfa 1 rfl<|jlo 2 rfl rfl rfl<|jpc 2 rfl<|jpe (vb (decide (0 < (len s6.2))))<|joe<|jup 123 (vb ((decide (0 < s11.1)) && (decide (0 < (len s6.2))))) rfl (by rw [hb2]; rfl)<|
  jnn (gv (fun _ k=>k) [0,1,2,3,4,5] ⟨gk 1,gk 2,gk 3,gk 0,⟨⟩⟩))<|fun hb2=>jpc 4 rfl<|jpe (vb false)<|joe<|jup 123 (vb ((decide (0 < s11.1)) && (decide (0 < (len s6.2))))) rfl (by rw [hb2]; rfl)<|
  jnn (gv (fun _ k=>k) [0,1,2,3,4,5] ⟨gk 1,gk 2,gk 3,gk 0,⟨⟩⟩))<|fun _ k=>k<|jif rfl (jsk<|jtn<|jsq<|jbk<|
  jjn (fun s12 K=>∀ b8 p16 c16,K [(0, pt b1 0), (1, vi y1), (8, pt b2 0), (9, pt b3 0), (17, vi s11.1), (18, pt b8 0)] [bx b1 55 [sv p1 y0.1 c1, vi s12.1], bx b2 32 [.slice none 0 0, .slice none 0 0, .slice none 0 0], bx b3 32 [sv p2 s1.2 c2, sv p8 s6.2 c8, sv p15 s11.2.2 c15], r_1, r_4, r_8, bx b8 63 [vs s12.2.1, vb s12.2.2.1, vi s12.2.2.2.1, sv p16 s12.2.2.2.2.1 c16, vb s12.2.2.2.2.2.1, vs s12.2.2.2.2.2.2]] [Rl e_Literal p16 c16 s12.2.2.2.2.1, Rl (eInt .i64) p1 c1 y0.1, Al e_Premise 60 r_1 p2 c2 s1.2, Al e_Rule 63 r_4 p8 c8 s6.2, Al e_Promotion 66 r_8 p15 c15 s11.2.2]) (
  jdS [] [2, 4] 11<|jdf 0 1 rfl rfl<|jdo 1 2 rfl rfl rfl rfl<|jdc 8 [2] rfl<|jdf 3 1 rfl rfl<|jdo 4 2 rfl rfl rfl rfl<|jdc 5 [5] rfl<|jd2 6 9 (jca (.f rfl) [0] [] c_keep_Src_N rfl rfl rfl ⟨ck 0,⟨⟩⟩<|fun r18 _ k=>k<|jdn<|
  jdI 7 2 rfl rfl rfl rfl<|fun x4 h4 b9 hp2=>jdL 8 4 2 sI true o_Rule rfl rfl hp2 h4 rfl<|fun p17 c17=>jd1 9<|jal (.f rfl) (.agg #[vs [], vb false, vi 0, .slice none 0 0, vb false, vs []])<|fun b10=>jdn<|jd1 10<|
  jso (o := 0) (.f rfl) 6 rfl rfl rfl<|jdn<|jde<|jnn (gv (fun _ k=>k b10 p17 c17) [0,1,2,3,4,5,6] ⟨gk 0,gk 1,gk 2,gk 3,gk 4,⟨⟩⟩)) <|jal (.f rfl) (.agg #[vs [], vb false, vi 0, .slice none 0 0, vb false, vs []])<|fun b11=>jdn<|jd1 6<|
  jca (.f rfl) [0] [] c_keep_Src_N rfl rfl rfl ⟨ck 0,⟨⟩⟩<|fun r19 _ k=>k<|jdn<|jdI 7 2 rfl rfl rfl rfl<|fun x5 h5 b12 hp3=>jdL 8 4 2 sI true o_Rule rfl rfl hp3 h5 rfl<|fun p18 c18=>jd1 10<|jso (o := 0) (.f rfl) 6 rfl rfl rfl<|jdn<|jde<|
  jnn (gv (fun _ k=>k b11 p18 c18) [0,1,2,3,4,5,6] ⟨gk 0,gk 1,gk 2,gk 3,gk 4,⟨⟩⟩))<|fun s12 _ k b8 p16 c16=>k<|jsr<|jfa 1 rfl<|jlo 6 rfl rfl rfl<|jpc 1 rfl<|jot<|jif rfl (jdS [13] [2, 6] 14<|jdf 0 2 rfl rfl<|jdo 1 2 rfl rfl rfl rfl<|
  jdf 2 0 rfl rfl<|jdo 3 6 rfl rfl rfl rfl<|jdc 7 [4,6,7] rfl<|jd1 5<|jca (.f rfl) [0] [] c_keep_Src_N rfl rfl rfl ⟨ck 1,⟨⟩⟩<|fun r20 _ k=>k<|jdn<|jd1 8<|jca (.f rfl) [0] [] c_keep_Src_Literal rfl rfl rfl ⟨ck 1,⟨⟩⟩<|fun r21 _ k=>k<|jdn<|
  jdp 9 (.agg #[vs s12.2.1, vi r20.1, vb r21.1.1, vs r21.1.2]) rfl<|jd1 10<|jbs (.f rfl) (e := e_Promotion) 66 [vs s12.2.1, vi r20.1, vb r21.1.1, vs r21.1.2] ([(s12.2.1, r20.1, r21.1)] : List T_Promotion) (rC (vP vS (vP vI (vP vB vS))) rN)<|
  fun p19 c19=>jdn<|jd1 11<|jar (.f rfl) 5 5 rfl (gk 0) rfl rfl<|fun x6 r_9 p20 c20=>jdn<|jdf 12 2 rfl rfl<|jd1 13<|jso (o := 2) (.f rfl) 2 rfl rfl rfl<|jdb [] [2, 6]<|jde<|jbn<|jtn<|jrg<|jpc 3 rfl<|joe<|
  jln (gv (fun _ k=>k p20 c20 r_9) [0,1,2,3,4,5] ⟨gk 0,gk 3,gk 4,gk 5,⟨⟩⟩))<|jsk<|jbn<|jtn<|jrg<|jpc 3 rfl<|joe<|jln (gv (fun _ k=>k p15 c15 r_8) [0,1,2,3,4,5] ⟨gk 4,gk 1,gk 2,gk 3,⟨⟩⟩))<|jxe<|jte<|jle<|jbh<|
  jnn (gv (fun _ k=>k p15 c15 r_8) [0,1,2,3,4,5] ⟨gk 3,gk 0,gk 1,gk 2,⟨⟩⟩))<|fun s10 _ k p14 c14 r_7=>k<|jsr<|jla 2 3 rfl rfl rfl<|jso .s 1 rfl rfl rfl<|jot<|jxr<|jsh 3 2 rfl rfl<|jsh 4 4 rfl rfl<|jsh 5 2 rfl rfl<|
  jrg' rfl (lC 1 (.agg #[sv p2 s1.2 c2, sv p8 s6.2 c8, sv p14 s10.2 c14]) rfl rfl lN) (fun _ k=>k p2 c2 p8 c8 p14 c14) [0] ⟨gk 2,gk 1,gk 0,⟨⟩⟩

theorem c_rulebase_Find_1 {qd : Prop} {y0 : T_Rule} {y1 : Str} : Con qd Tryz.prog 83 [.agg #[vs y0.1, vb y0.2.1, vi y0.2.2.1, sv p1 y0.2.2.2.1 c1, vb y0.2.2.2.2.1, vs y0.2.2.2.2.2], pt b1 0] [bx b1 9 [vs y1]] [Rl e_Literal p1 c1 y0.2.2.2.1] (m_rulebase_Find_1 y0 y1) fun r K=>K (vb r) [bx b1 9 [vs y1]] [] :=
 ent3 Tryz.call83 Tryz.func83 rfl fun X=>jsr<|jbx .s rfl<|fun b2=>jpc 1 rfl<|jot<|jsr<|jfa 0 rfl<|jlo 1 rfl rfl rfl<|jlo 0 rfl rfl rfl<|jpc 2 rfl<|jot<|jxr<|jr1 rfl rfl (fun _ k=>k) [0] ⟨⟩

theorem c_slices_IndexFunc_Rule__rulebase_Find_1 {qd : Prop} {y0 : List T_Rule} {y1 : Str} : Con qd Tryz.prog 82 [sv p1 y0 c1, .func (.func 83) #[] #[pt b1 0]] [bx b1 9 [vs y1]] [Rl e_Rule p1 c1 y0] (m_slices_IndexFunc_Rule__rulebase_Find_1 y0 y1) fun r K=>K (vi r) [bx b1 9 [vs y1]] [] :=
 ent3 Tryz.call82 Tryz.func82 rfl fun X=>jsr<|jpc 1 rfl<|jot<|jsq<|jsr<|jpc 3 rfl<|jot<|jbk<|jlp (fun s1 K=>K [(0, sv p1 y0 c1), (1, .func (.func 83) #[] #[pt b1 0]), (7, vi (len y0)), (8, vi s1)] [bx b1 9 [vs y1]] [Rl e_Rule p1 c1 y0]) (gv (fun _ k=>k) [0] ⟨gk 0,⟨⟩⟩)<|
  fun s1 _ k=>k<|jsr<|jpc 1 rfl<|jot<|jsq<|jif rfl (jsk<|jtn<|jsq<|jbk<|jsr<|jpc 2 rfl<|jot<|jsr<|jpc 3 rfl<|jix 0 rfl rfl rfl<|fun x1 b2 o1=>jld true o_Rule (gk 0) rfl<|fun p2 c2=>jca .s [0] [] c_rulebase_Find_1 rfl rfl rfl ⟨ck 0,⟨⟩⟩<|
  fun r1 _ k=>k<|jot<|jif rfl (jsr<|jpc 2 rfl<|jot<|jxr<|jbr<|jtr<|jlr<|jbr<|jtr<|jr1 rfl rfl (fun _ k=>k) [0] ⟨⟩)<|jsk<|jbn<|jtn<|jrg<|jpc 2 rfl<|joe<|jln (gv (fun _ k=>k) [0] ⟨gk 2,⟨⟩⟩))<|jxe<|jte<|jle<|jbh<|jtn<|jsr<|jpc 1 rfl<|jot<|jxr<|
  jr1 rfl rfl (fun _ k=>k) [0] ⟨⟩

theorem c_rulebase_Find {qd : Prop} {y0 : T_Base} {y1 : Str} : Con qd Tryz.prog 39 [.agg #[sv p1 y0.1 c1, sv p2 y0.2.1 c2, sv p3 y0.2.2 c3], vs y1] [] [Rl e_Premise p1 c1 y0.1, Rl e_Rule p2 c2 y0.2.1, Rl e_Promotion p3 c3 y0.2.2] (m_rulebase_Find y0 y1) fun r K=>K (vi r) [] [] :=
 ent3 Tryz.call39 Tryz.func39 rfl fun X=>jsr<|jbx .s rfl<|fun b1=>jbx .s rfl<|fun b2=>jpc 1 rfl<|jot<|jsr<|jfa 1 rfl<|jlo 0 rfl rfl rfl<|jpc 1 rfl<|jca .s [1] [] c_slices_IndexFunc_Rule__rulebase_Find_1 rfl rfl rfl ⟨ck 1,⟨⟩⟩<|fun r1 _ k=>k<|jpc 1 rfl<|jot<|jxr<|
  jr1 rfl rfl (fun _ k=>k) [] ⟨⟩

theorem c_rulebase_Premise_1 {qd : Prop} {y0 : T_Premise} {y1 : T_Literal} : Con qd Tryz.prog 95 [.agg #[vb y0.1.1, vs y0.1.2, vi y0.2.1, vi y0.2.2.1, vs y0.2.2.2], pt b1 0] [bx b1 58 [vb y1.1, vs y1.2]] [] (m_rulebase_Premise_1 y0 y1) fun r K=>K (vb r) [bx b1 58 [vb y1.1, vs y1.2]] [] :=
 ent3 Tryz.call95 Tryz.func95 rfl fun X=>jsr<|jbx .s rfl<|fun b2=>jpc 1 rfl<|jot<|jsr<|jfa 0 rfl<|jla 1 2 rfl rfl rfl<|jla 0 2 rfl rfl rfl<|jpe (vb (y0.1 == y1))<|jpc 1 rfl<|jot<|jxr<|jr1 rfl rfl (fun _ k=>k) [0] ⟨⟩

theorem c_slices_IndexFunc_Premise__rulebase_Premise_1 {qd : Prop} {y0 : List T_Premise} {y1 : T_Literal} : Con qd Tryz.prog 94 [sv p1 y0 c1, .func (.func 95) #[] #[pt b1 0]] [bx b1 58 [vb y1.1, vs y1.2]] [Rl e_Premise p1 c1 y0] (m_slices_IndexFunc_Premise__rulebase_Premise_1 y0 y1) fun r K=>K (vi r) [bx b1 58 [vb y1.1, vs y1.2]] [] :=
 ent3 Tryz.call94 Tryz.func94 rfl fun X=>jsr<|jpc 1 rfl<|jot<|jsq<|jsr<|jpc 3 rfl<|jot<|jbk<|
  jlp (fun s1 K=>K [(0, sv p1 y0 c1), (1, .func (.func 95) #[] #[pt b1 0]), (7, vi (len y0)), (8, vi s1)] [bx b1 58 [vb y1.1, vs y1.2]] [Rl e_Premise p1 c1 y0]) (gv (fun _ k=>k) [0] ⟨gk 0,⟨⟩⟩)<|fun s1 _ k=>k<|jsr<|jpc 1 rfl<|jot<|jsq<|
  jif rfl (jsk<|jtn<|jsq<|jbk<|jsr<|jpc 2 rfl<|jot<|jsr<|jpc 3 rfl<|jix 0 rfl rfl rfl<|fun x1 b2 o1=>jld true o_Premise (gk 0) rfl<|jca .s [0] [] c_rulebase_Premise_1 rfl rfl rfl ⟨⟩<|fun r1 _ k=>k<|jot<|jif rfl (jsr<|jpc 2 rfl<|jot<|jxr<|
  jbr<|jtr<|jlr<|jbr<|jtr<|jr1 rfl rfl (fun _ k=>k) [0] ⟨⟩)<|jsk<|jbn<|jtn<|jrg<|jpc 2 rfl<|joe<|jln (gv (fun _ k=>k) [0] ⟨gk 1,⟨⟩⟩))<|jxe<|jte<|jle<|jbh<|jtn<|jsr<|jpc 1 rfl<|jot<|jxr<|jr1 rfl rfl (fun _ k=>k) [0] ⟨⟩

theorem c_rulebase_Premise {qd : Prop} {y0 : T_Base} {y1 : T_Literal} : Con qd Tryz.prog 66 [.agg #[sv p1 y0.1 c1, sv p2 y0.2.1 c2, sv p3 y0.2.2 c3], .agg #[vb y1.1, vs y1.2]] [] [Rl e_Premise p1 c1 y0.1, Rl e_Rule p2 c2 y0.2.1, Rl e_Promotion p3 c3 y0.2.2] (m_rulebase_Premise y0 y1) fun r K=>K (vi r) [] [] :=
 ent3 Tryz.call66 Tryz.func66 rfl fun X=>jsr<|jbx .s rfl<|fun b1=>jbx .s rfl<|fun b2=>jpc 1 rfl<|jot<|jsr<|jfa 0 rfl<|jlo 0 rfl rfl rfl<|jpc 1 rfl<|jca .s [1] [] c_slices_IndexFunc_Premise__rulebase_Premise_1 rfl rfl rfl ⟨ck 0,⟨⟩⟩<|fun r1 _ k=>k<|jpc 1 rfl<|jot<|jxr<|
  jr1 rfl rfl (fun _ k=>k) [] ⟨⟩

theorem c_literal_ValidName {qd : Prop} {y0 : Str} : Con qd Tryz.prog 96 [vs y0] [] [] (m_literal_ValidName y0) fun r K=>K (vb r) [] [] :=
 ent3 Tryz.call96 Tryz.func96 rfl fun X=>jsr<|jpc 1 rfl<|jot<|jsq<|jjp (fun K=>K [(0, vs y0), (12, vb (((len y0) == 0) || (decide (12 < (len y0)))))] [] []) (jrg<|jpc 4 rfl<|jsp (b := (len y0) == 0) 8 rfl (fun hb1=>jpc 3 rfl<|jpe (vb true)<|joe<|
  jup 12 (vb (((len y0) == 0) || (decide (12 < (len y0))))) rfl (by rw [hb1]; rfl)<|jnn (gv (fun _ k=>k) [] ⟨⟩))<|fun hb1=>jpc 3 rfl<|jpe (vb (decide (12 < (len y0))))<|joe<|
  jup 12 (vb (((len y0) == 0) || (decide (12 < (len y0))))) rfl (by rw [hb1]; rfl)<|jnn (gv (fun _ k=>k) [] ⟨⟩))<|fun _ k=>k<|jif rfl (jsr<|jpc 1 rfl<|jot<|jxr<|jtr<|jr1 rfl rfl (fun _ k=>k) [] ⟨⟩)<|jsk<|jtn<|jsq<|jsr<|jpc 3 rfl<|jot<|jbk<|
  jlp (fun s1 K=>K [(0, vs y0), (14, vi (len y0)), (15, vi s1)] [] []) (gv (fun _ k=>k) [] ⟨⟩)<|fun s1 _ k=>k<|jsr<|jpc 1 rfl<|jot<|jsq<|jif rfl (jsk<|jtn<|jsq<|jbk<|jsr<|jpc 2 rfl<|jot<|jsr<|jpc 2 rfl<|jbd fun x1 h1=>
  jv (fun h=>r_sidx h rfl rfl Tryz.underlying9 h1)<|jpc 1 rfl<|jot<|jbk<|jjp (fun K=>K [(0, vs y0), (3, vi s1), (4, .int .u8 x1), (14, vi (len y0)), (15, vi s1), (21, vb ((decide (97 ≤ x1)) && (decide (x1 ≤ 122))))] [] []) (jrg<|jpc 3 rfl<|
  jsp (b := decide (97 ≤ x1)) 24 rfl (fun hb2=>jpc 2 rfl<|jpe (vb (decide (x1 ≤ 122)))<|jpc 1 rfl<|joe<|jup 21 (vb ((decide (97 ≤ x1)) && (decide (x1 ≤ 122)))) rfl (by rw [hb2]; rfl)<|jnn (gv (fun _ k=>k) [] ⟨⟩))<|fun hb2=>jpc 2 rfl<|
  jpe (vb false)<|jpc 1 rfl<|joe<|jup 21 (vb ((decide (97 ≤ x1)) && (decide (x1 ≤ 122)))) rfl (by rw [hb2]; rfl)<|jnn (gv (fun _ k=>k) [] ⟨⟩))<|fun _ k=>k<|jif rfl (jsk<|jbn<|jbn<|jtn<|jrg<|jpc 2 rfl<|joe<|jln (gv (fun _ k=>k) [] ⟨⟩))<|
  jjp (fun K=>K [(0, vs y0), (14, vi (len y0)), (15, vi s1), (28, vb ((decide (0 < s1)) && (if decide (48 ≤ x1) then (decide (x1 ≤ 57)) || (x1 == 95) else x1 == 95)))] [] []) (jrg<|jpc 3 rfl<|jsp (b := decide (0 < s1)) 31 rfl (fun hb3=>
  jpc 3 rfl<|jsp (b := decide (48 ≤ x1)) 34 rfl (fun hb4=>jpc 2 rfl<|jpe (vb (decide (x1 ≤ 57)))<|jpc 1 rfl<|jsp (b := decide (x1 ≤ 57)) 38 rfl (fun hb5=>jpc 2 rfl<|jpe (vb true)<|jpe (vb true)<|jpc 1 rfl<|joe<|
  jup 28 (vb ((decide (0 < s1)) && (if decide (48 ≤ x1) then (decide (x1 ≤ 57)) || (x1 == 95) else x1 == 95))) rfl (by rw [hb3,hb4,hb5]; rfl)<|jnn (gv (fun _ k=>k) [] ⟨⟩))<|fun hb5=>jpc 2 rfl<|jpe (vb (x1 == 95))<|jpe (vb (x1 == 95))<|
  jpc 1 rfl<|joe<|jup 28 (vb ((decide (0 < s1)) && (if decide (48 ≤ x1) then (decide (x1 ≤ 57)) || (x1 == 95) else x1 == 95))) rfl (by rw [hb3,hb4,hb5]; rfl)<|jnn (gv (fun _ k=>k) [] ⟨⟩))<|fun hb4=>jpc 2 rfl<|jpe (vb false)<|jpc 3 rfl<|
  jpe (vb (x1 == 95))<|jpe (vb (x1 == 95))<|jpc 1 rfl<|joe<|jup 28 (vb ((decide (0 < s1)) && (if decide (48 ≤ x1) then (decide (x1 ≤ 57)) || (x1 == 95) else x1 == 95))) rfl (by rw [hb3,hb4]; rfl)<|jnn (gv (fun _ k=>k) [] ⟨⟩))<|fun hb3=>
  jpc 10 rfl<|jpe (vb false)<|jpc 1 rfl<|joe<|jup 28 (vb ((decide (0 < s1)) && (if decide (48 ≤ x1) then (decide (x1 ≤ 57)) || (x1 == 95) else x1 == 95))) rfl (by rw [hb3]; rfl)<|jnn (gv (fun _ k=>k) [] ⟨⟩))<|fun _ k=>k<|jif rfl (jsk<|jbn<|
  jbn<|jtn<|jrg<|jpc 2 rfl<|joe<|jln (gv (fun _ k=>k) [] ⟨⟩))<|jsr<|jpc 1 rfl<|jot<|jxr<|jbr<|jbr<|jtr<|jlr<|jbr<|jtr<|jr1 rfl rfl (fun _ k=>k) [] ⟨⟩)<|jxe<|jte<|jle<|jbh<|jtn<|jsr<|jpc 1 rfl<|jot<|jxr<|jr1 rfl rfl (fun _ k=>k) [] ⟨⟩

theorem c_literal_Valid {qd : Prop} {y0 : T_Literal} : Con qd Tryz.prog 92 [.agg #[vb y0.1, vs y0.2]] [] [] (m_literal_Valid y0) fun r K=>K (vb r) [] [] :=
 ent3 Tryz.call92 Tryz.func92 rfl fun X=>jsr<|jbx .s rfl<|fun b1=>jpc 1 rfl<|jot<|jsr<|jfa 1 rfl<|jlo 0 rfl rfl rfl<|jcl c_literal_ValidName rfl ⟨⟩<|fun r1 _ k=>k<|jpc 1 rfl<|jot<|jxr<|jr1 rfl rfl (fun _ k=>k) [] ⟨⟩

theorem c_rulebase_ranked {qd : Prop} {y0 : Int} : Con qd Tryz.prog 91 [vi y0] [] [] (m_rulebase_ranked y0) fun r K=>K (vb r) [] [] :=
 ent3 Tryz.call91 Tryz.func91 rfl fun X=>jsr<|jpc 1 rfl<|jot<|jjp (fun K=>K [(2, vb ((decide (0 ≤ y0)) && (decide (y0 ≤ 9))))] [] []) (jrg<|jpc 3 rfl<|jsp (b := decide (0 ≤ y0)) 5 rfl (fun hb1=>jpc 2 rfl<|jpe (vb (decide (y0 ≤ 9)))<|jpc 1 rfl<|joe<|
  jup 2 (vb ((decide (0 ≤ y0)) && (decide (y0 ≤ 9)))) rfl (by rw [hb1]; rfl)<|jnn (gv (fun _ k=>k) [] ⟨⟩))<|fun hb1=>jpc 2 rfl<|jpe (vb false)<|jpc 1 rfl<|joe<|jup 2 (vb ((decide (0 ≤ y0)) && (decide (y0 ≤ 9)))) rfl (by rw [hb1]; rfl)<|
  jnn (gv (fun _ k=>k) [] ⟨⟩))<|fun _ k=>k<|jxr<|jr1 rfl rfl (fun _ k=>k) [] ⟨⟩

theorem c_rulebase_sourced {qd : Prop} {y0 : Str} : Con qd Tryz.prog 93 [vs y0] [] [] (m_rulebase_sourced y0) fun r K=>K (vb r) [] [] :=
 ent3 Tryz.call93 Tryz.func93 rfl fun X=>jsr<|jpc 1 rfl<|jot<|jjn (fun s1 K=>K [(2, vb s1)] [] []) (jrg<|jpc 3 rfl<|jsg 5 rfl (jpc 2 rfl<|jpe (vb true)<|jpc 1 rfl<|joe<|jnn (gv (fun _ k=>k) [] ⟨⟩))<|jpc 1 rfl<|jcl c_literal_ValidName rfl ⟨⟩<|fun r1 _ k=>k<|jpe (vb r1)<|jpc 1 rfl<|
  joe<|jnn (gv (fun _ k=>k) [] ⟨⟩))<|fun s1 _ k=>k<|jxr<|jr1 rfl rfl (fun _ k=>k) [] ⟨⟩

theorem c_rulebase_premise {qd : Prop} {y0 : T_Premise} : Con qd Tryz.prog 65 [.agg #[vb y0.1.1, vs y0.1.2, vi y0.2.1, vi y0.2.2.1, vs y0.2.2.2]] [] [] (m_rulebase_premise y0) fun r K=>K (vi r) [] [] :=
 ent3 Tryz.call65 Tryz.func65 rfl fun X=>jsr<|jbx .s rfl<|fun b1=>jpc 1 rfl<|jot<|jjo (fun s1 K=>K [(1, pt b1 0)] [bx b1 60 [vb y0.1.1, vs y0.1.2, vi y0.2.1, vi y0.2.2.1, vs y0.2.2.2]] []) (jsr<|jfa 2 rfl<|jlo 0 rfl rfl rfl<|jot<|jbk<|
  jjn (fun s2 K=>K [(1, pt b1 0), (4, vi y0.2.1), (5, vb s2)] [bx b1 60 [vb y0.1.1, vs y0.1.2, vi y0.2.1, vi y0.2.2.1, vs y0.2.2.2]] []) (jsr<|jpc 2 rfl<|jot<|jif rfl (jsk<|jnn (gv (fun _ k=>k) [0] ⟨⟩))<|jrg<|jpc 2 rfl<|joe<|
  jnn (gv (fun _ k=>k) [0] ⟨⟩))<|fun s2 _ k=>k<|jif rfl (jsr<|jfa 3 rfl<|jlo 0 rfl rfl rfl<|jpc 1 rfl<|jot<|jif rfl (jsr<|jpc 1 rfl<|jot<|jxr<|jbr<|jlr<|jr1 rfl rfl (fun _ k=>k) [] ⟨⟩)<|jsk<|jbn<|jln (gv (fun _ k=>k) [0] ⟨⟩))<|jsr<|
  jpc 2 rfl<|jot<|jif rfl (jsr<|jfa 3 rfl<|jlo 0 rfl rfl rfl<|jcl c_rulebase_ranked rfl ⟨⟩<|fun r1 _ k=>k<|jpc 1 rfl<|jot<|jif rfl (jsr<|jpc 1 rfl<|jot<|jxr<|jbr<|jlr<|jr1 rfl rfl (fun _ k=>k) [] ⟨⟩)<|jsk<|jbn<|jln (gv (fun _ k=>k) [0] ⟨⟩))<|
  jsr<|jpc 1 rfl<|jot<|jxr<|jbr<|jlr<|jr1 rfl rfl (fun _ k=>k) [] ⟨⟩)<|fun s1 _ k=>k<|jsq<|jjn (fun s3 K=>K [(26, vb s3)] [[]] []) (jrg<|jfa 0 rfl<|jla 0 2 rfl rfl rfl<|jcl c_literal_Valid rfl ⟨⟩<|fun r2 _ k=>k<|jpc 2 rfl<|jsg 21 rfl (
  jpc 4 rfl<|jpe (vb true)<|joe<|jnn (gv (fun _ k=>k) [900] ⟨⟩))<|jfa 4 rfl<|jlo 0 rfl rfl rfl<|jcl c_rulebase_sourced rfl ⟨⟩<|fun r3 _ k=>k<|jpc 1 rfl<|jpe (vb (!r3))<|joe<|jnn (gv (fun _ k=>k) [900] ⟨⟩))<|fun s3 _ k=>k<|jif rfl (jsr<|
  jpc 1 rfl<|jot<|jxr<|jtr<|jr1 rfl rfl (fun _ k=>k) [] ⟨⟩)<|jsk<|jtn<|jsr<|jpc 1 rfl<|jot<|jxr<|jr1 rfl rfl (fun _ k=>k) [] ⟨⟩

theorem c_rulebase_promotion {qd : Prop} {y0 : T_Base} {y1 : T_Promotion} : Con qd Tryz.prog 68 [.agg #[sv p1 y0.1 c1, sv p2 y0.2.1 c2, sv p3 y0.2.2 c3], .agg #[vs y1.1, vi y1.2.1, vb y1.2.2.1, vs y1.2.2.2]] [] [Rl e_Premise p1 c1 y0.1, Rl e_Rule p2 c2 y0.2.1, Rl e_Promotion p3 c3 y0.2.2] (m_rulebase_promotion y0 y1) fun r K=>K (vi r) [] [] :=
 ent3 Tryz.call68 Tryz.func68 rfl fun X=>jsr<|jbx .s rfl<|fun b1=>jbx .s rfl<|fun b2=>jpc 1 rfl<|jot<|jsq<|
  jjn (fun s1 K=>K [(2, pt b1 0), (3, pt b2 0), (15, vb s1)] [bx b1 32 [sv p1 y0.1 c1, sv p2 y0.2.1 c2, sv p3 y0.2.2 c3], bx b2 66 [vs y1.1, vi y1.2.1, vb y1.2.2.1, vs y1.2.2.2]] [Rl e_Premise p1 c1 y0.1, Rl e_Rule p2 c2 y0.2.1, Rl e_Promotion p3 c3 y0.2.2]) (
  jrg<|jfa 1 rfl<|jlo 1 rfl rfl rfl<|jcl c_rulebase_ranked rfl ⟨⟩<|fun r1 _ k=>k<|jpc 2 rfl<|jsg 10 rfl (jpc 4 rfl<|jpe (vb true)<|joe<|jnn (gv (fun _ k=>k) [0,1] ⟨gk 0,gk 1,gk 2,⟨⟩⟩))<|jfa 2 rfl<|jla 1 2 rfl rfl rfl<|
  jcl c_literal_Valid rfl ⟨⟩<|fun r2 _ k=>k<|jpc 1 rfl<|jpe (vb (!r2))<|joe<|jnn (gv (fun _ k=>k) [0,1] ⟨gk 0,gk 1,gk 2,⟨⟩⟩))<|fun s1 _ k=>k<|jif rfl (jsr<|jpc 1 rfl<|jot<|jxr<|jtr<|jr1 rfl rfl (fun _ k=>k) [] ⟨⟩)<|jsk<|jtn<|jsq<|jsr<|
  jla 0 3 rfl rfl rfl<|jfa 0 rfl<|jlo 1 rfl rfl rfl<|jcl c_rulebase_Find rfl ⟨ck 0,ck 1,ck 2,⟨⟩⟩<|fun r3 _ k=>k<|jpc 1 rfl<|jot<|jbk<|jsr<|jpc 3 rfl<|jot<|jif rfl (jsr<|jpc 1 rfl<|jot<|jxr<|jbr<|jtr<|jr1 rfl rfl (fun _ k=>k) [] ⟨⟩)<|jsr<|
  jfa 1 rfl<|jlo 0 rfl rfl rfl<|jpc 1 rfl<|jix 1 rfl rfl rfl<|fun x1 b3 o1=>jfa 1 rfl<|jld false oB (gf (gs (gk 0))) rfl<|jpc 1 rfl<|jot<|jif rfl (jsr<|jpc 1 rfl<|jot<|jxr<|jbr<|jtr<|jr1 rfl rfl (fun _ k=>k) [] ⟨⟩)<|jsk<|jbn<|jtn<|jsr<|
  jpc 1 rfl<|jot<|jxr<|jr1 rfl rfl (fun _ k=>k) [] ⟨⟩

theorem c_cmp_isNaN_string {qd : Prop} {y0 : Str} : Con qd Tryz.prog 121 [vs y0] [] [] (m_cmp_isNaN_string y0) fun r K=>K (vb r) [] [] :=
 ent3 Tryz.call121 Tryz.func121 rfl fun X=>jsr<|jpc 1 rfl<|jot<|jsr<|jpc 4 rfl<|jot<|jxr<|jr1 rfl rfl (fun _ k=>k) [] ⟨⟩

theorem c_cmp_Compare_string {qd : Prop} {y0 : Str} {y1 : Str} : Con qd Tryz.prog 110 [vs y0, vs y1] [] [] (m_cmp_Compare_string y0 y1) fun r K=>K (vi r) [] [] :=
 ent3 Tryz.call110 Tryz.func110 rfl fun X=>jsr<|jpc 1 rfl<|jot<|jsr<|jpc 1 rfl<|jcl c_cmp_isNaN_string rfl ⟨⟩<|fun r1 _ k=>k<|jpc 1 rfl<|jot<|jsr<|jpc 1 rfl<|jcl c_cmp_isNaN_string rfl ⟨⟩<|fun r2 _ k=>k<|jpc 1 rfl<|jot<|jsq<|jsr<|jpc 1 rfl<|jot<|jif rfl (jsq<|jsr<|jpc 1 rfl<|jot<|
  jif rfl (jsr<|jpc 1 rfl<|jot<|jxr<|jtr<|jtr<|jr1 rfl rfl (fun _ k=>k) [] ⟨⟩)<|jsk<|jtn<|jsr<|jpc 1 rfl<|jot<|jxr<|jtr<|jr1 rfl rfl (fun _ k=>k) [] ⟨⟩)<|jsk<|jtn<|jsq<|jsr<|jpc 1 rfl<|jot<|jif rfl (jsr<|jpc 1 rfl<|jot<|jxr<|jtr<|
  jr1 rfl rfl (fun _ k=>k) [] ⟨⟩)<|jsk<|jtn<|jsq<|jsr<|jpc 3 rfl<|jot<|jif rfl (jsr<|jpc 1 rfl<|jot<|jxr<|jtr<|jr1 rfl rfl (fun _ k=>k) [] ⟨⟩)<|jsk<|jtn<|jsq<|jsr<|jpc 3 rfl<|jot<|jif rfl (jsr<|jpc 1 rfl<|jot<|jxr<|jtr<|
  jr1 rfl rfl (fun _ k=>k) [] ⟨⟩)<|jsk<|jtn<|jsr<|jpc 1 rfl<|jot<|jxr<|jr1 rfl rfl (fun _ k=>k) [] ⟨⟩

theorem c_literal_Compare {qd : Prop} {y0 : T_Literal} {y1 : T_Literal} : Con qd Tryz.prog 97 [.agg #[vb y0.1, vs y0.2], .agg #[vb y1.1, vs y1.2]] [] [] (m_literal_Compare y0 y1) fun r K=>K (vi r) [] [] :=
 ent3 Tryz.call97 Tryz.func97 rfl fun X=>jsr<|jbx .s rfl<|fun b1=>jbx .s rfl<|fun b2=>jpc 1 rfl<|jot<|jsq<|jsr<|jfa 1 rfl<|jlo 0 rfl rfl rfl<|jfa 1 rfl<|jlo 1 rfl rfl rfl<|jcl c_cmp_Compare_string rfl ⟨⟩<|fun r1 _ k=>k<|jpc 1 rfl<|jot<|
  jjp (fun K=>K [(3, pt b2 0), (5, vi r1), (19, vb ((r1 != 0) || (y0.1 == y1.1)))] [[], bx b2 58 [vb y1.1, vs y1.2]] []) (jrg<|jpc 3 rfl<|jsp (b := r1 != 0) 13 rfl (fun hb1=>jpc 5 rfl<|jpe (vb true)<|joe<|
  jup 19 (vb ((r1 != 0) || (y0.1 == y1.1))) rfl (by rw [hb1]; rfl)<|jnn (gv (fun _ k=>k) [900,1] ⟨⟩))<|fun hb1=>jfa 0 rfl<|jlo 0 rfl rfl rfl<|jfa 0 rfl<|jlo 1 rfl rfl rfl<|jpe (vb (y0.1 == y1.1))<|jpe (vb (y0.1 == y1.1))<|joe<|
  jup 19 (vb ((r1 != 0) || (y0.1 == y1.1))) rfl (by rw [hb1]; rfl)<|jnn (gv (fun _ k=>k) [900,1] ⟨⟩))<|fun _ k=>k<|jif rfl (jsr<|jpc 2 rfl<|jot<|jxr<|jtr<|jr1 rfl rfl (fun _ k=>k) [] ⟨⟩)<|jsk<|jtn<|jsq<|jsr<|jfa 0 rfl<|jlo 1 rfl rfl rfl<|
  jot<|jif rfl (jsr<|jpc 1 rfl<|jot<|jxr<|jtr<|jr1 rfl rfl (fun _ k=>k) [] ⟨⟩)<|jsk<|jtn<|jsr<|jpc 1 rfl<|jot<|jxr<|jr1 rfl rfl (fun _ k=>k) [] ⟨⟩

theorem c_rulebase_rule {qd : Prop} {y0 : T_Rule} : Con qd Tryz.prog 67 [.agg #[vs y0.1, vb y0.2.1, vi y0.2.2.1, sv p1 y0.2.2.2.1 c1, vb y0.2.2.2.2.1, vs y0.2.2.2.2.2]] [] [Rl e_Literal p1 c1 y0.2.2.2.1] (m_rulebase_rule y0) fun r K=>K (vi r) [] [] :=
 ent3 Tryz.call67 Tryz.func67 rfl fun X=>jsr<|jbx .s rfl<|fun b1=>jpc 1 rfl<|jot<|jsq<|jsr<|jfa 3 rfl<|jlo 0 rfl rfl rfl<|jpc 2 rfl<|jot<|jif rfl (jsr<|jpc 1 rfl<|jot<|jxr<|jtr<|jr1 rfl rfl (fun _ k=>k) [] ⟨⟩)<|jsk<|jtn<|jsq<|
  jjn (fun s1 K=>K [(1, pt b1 0), (34, vb s1)] [bx b1 63 [vs y0.1, vb y0.2.1, vi y0.2.2.1, sv p1 y0.2.2.2.1 c1, vb y0.2.2.2.2.1, vs y0.2.2.2.2.2]] [Rl e_Literal p1 c1 y0.2.2.2.1]) (jrg<|jfa 0 rfl<|jlo 0 rfl rfl rfl<|
  jcl c_literal_ValidName rfl ⟨⟩<|fun r1 _ k=>k<|jpc 2 rfl<|jsg 14 rfl (jpc 4 rfl<|jpe (vb true)<|jpc 5 rfl<|jpe (vb true)<|jpc 8 rfl<|jpe (vb true)<|joe<|jnn (gv (fun _ k=>k) [0] ⟨gk 0,⟨⟩⟩))<|jfa 4 rfl<|jla 0 2 rfl rfl rfl<|
  jcl c_literal_Valid rfl ⟨⟩<|fun r2 _ k=>k<|jpc 1 rfl<|jpe (vb (!r2))<|jpc 1 rfl<|jsg 20 rfl (jpc 4 rfl<|jpe (vb true)<|jpc 8 rfl<|jpe (vb true)<|joe<|jnn (gv (fun _ k=>k) [0] ⟨gk 0,⟨⟩⟩))<|jfa 2 rfl<|jlo 0 rfl rfl rfl<|
  jcl c_rulebase_ranked rfl ⟨⟩<|fun r3 _ k=>k<|jpc 1 rfl<|jpe (vb (!r3))<|jpc 1 rfl<|jsg 26 rfl (jpc 7 rfl<|jpe (vb true)<|joe<|jnn (gv (fun _ k=>k) [0] ⟨gk 0,⟨⟩⟩))<|jfa 1 rfl<|jlo 0 rfl rfl rfl<|jpc 1 rfl<|jsg 29 rfl (jfa 2 rfl<|
  jlo 0 rfl rfl rfl<|jpc 1 rfl<|jpe (vb (y0.2.2.1 != 0))<|jpe (vb (y0.2.2.1 != 0))<|joe<|jnn (gv (fun _ k=>k) [0] ⟨gk 0,⟨⟩⟩))<|jpc 3 rfl<|jpe (vb false)<|jpe (vb false)<|joe<|jnn (gv (fun _ k=>k) [0] ⟨gk 0,⟨⟩⟩))<|fun s1 _ k=>k<|jif rfl (jsr<|
  jpc 1 rfl<|jot<|jxr<|jtr<|jr1 rfl rfl (fun _ k=>k) [] ⟨⟩)<|jsk<|jtn<|jjo (fun s2 K=>K [(1, pt b1 0)] [bx b1 63 [vs y0.1, vb y0.2.1, vi y0.2.2.1, sv p1 y0.2.2.2.1 c1, vb y0.2.2.2.2.1, vs y0.2.2.2.2.2]] [Rl e_Literal p1 c1 y0.2.2.2.1]) (jsr<|
  jfa 3 rfl<|jlo 0 rfl rfl rfl<|jpc 2 rfl<|jot<|jbk<|
  jlp (fun s3 K=>K [(1, pt b1 0), (36, sv p1 y0.2.2.2.1 c1), (37, vi (len y0.2.2.2.1)), (38, vi s3)] [bx b1 63 [vs y0.1, vb y0.2.1, vi y0.2.2.1, sv p1 y0.2.2.2.1 c1, vb y0.2.2.2.2.1, vs y0.2.2.2.2.2]] [Rl e_Literal p1 c1 y0.2.2.2.1]) (gv (fun _ k=>k) [0] ⟨gk 0,⟨⟩⟩)<|
  fun s3 _ k=>k<|jsr<|jpc 1 rfl<|jot<|jsq<|jif rfl (jsk<|jtn<|jsq<|jbk<|jsr<|jix 0 rfl rfl rfl<|fun x1 b2 o1=>jld true o_Literal (gk 0) rfl<|jal .s (.agg #[vb false, vs []])<|fun b3=>jso .s 1 rfl rfl rfl<|jot<|jsr<|jla 1 2 rfl rfl rfl<|
  jcl c_literal_Valid rfl ⟨⟩<|fun r4 _ k=>k<|jpc 1 rfl<|jot<|jif rfl (jsr<|jpc 1 rfl<|jot<|jxr<|jbr<|jtr<|jlr<|jbr<|jlr<|jr1 rfl rfl (fun _ k=>k) [] ⟨⟩)<|jsk<|jbn<|jtn<|jrg<|jpc 2 rfl<|joe<|jln (gv (fun _ k=>k) [0] ⟨gk 1,⟨⟩⟩))<|jxe<|jte<|
  jle<|jbh<|jln (gv (fun _ k=>k) [0] ⟨gk 0,⟨⟩⟩))<|fun s2 _ k=>k<|jsq<|jsr<|jpc 1 rfl<|jot<|jbk<|
  jlp (fun s4 K=>K [(1, pt b1 0), (5, vi s4)] [bx b1 63 [vs y0.1, vb y0.2.1, vi y0.2.2.1, sv p1 y0.2.2.2.1 c1, vb y0.2.2.2.2.1, vs y0.2.2.2.2.2]] [Rl e_Literal p1 c1 y0.2.2.2.1]) (gv (fun _ k=>k) [0] ⟨gk 0,⟨⟩⟩)<|fun s4 _ k=>k<|jsq<|jsr<|
  jpc 1 rfl<|jfa 3 rfl<|jlo 0 rfl rfl rfl<|jpc 2 rfl<|jot<|jif rfl (jsk<|jtn<|jsq<|jbk<|jds [] [0] 13<|jdf 0 3 rfl rfl<|jdo 1 0 rfl rfl rfl rfl<|jdc 9 [2,3] rfl<|jdi 4 0 rfl rfl rfl rfl<|fun x2 b4 o2=>jdl 5 true o_Literal rfl (gk 0) rfl<|
  jdf 6 3 rfl rfl<|jdo 7 0 rfl rfl rfl rfl<|jdc 4 [8] rfl<|jdi 9 1 rfl rfl rfl rfl<|fun x3 b5 o3=>jdl 10 true o_Literal rfl (gk 0) rfl<|jd1 11<|jca (.f rfl) [] [] c_literal_Compare rfl rfl rfl ⟨⟩<|fun r5 _ k=>k<|jdn<|jdc 0 [12] rfl<|jde<|
  jtn<|jif rfl (jsr<|jpc 1 rfl<|jot<|jxr<|jbr<|jtr<|jlr<|jbr<|jtr<|jr1 rfl rfl (fun _ k=>k) [] ⟨⟩)<|jsk<|jbn<|jtn<|jrg<|jpc 3 rfl<|joe<|jln (gv (fun _ k=>k) [0] ⟨gk 2,⟨⟩⟩))<|jxe<|jte<|jle<|jbh<|jtn<|jsr<|jpc 1 rfl<|jot<|jxr<|
  jr1 rfl rfl (fun _ k=>k) [] ⟨⟩

theorem c_rulebase_Validate {qd : Prop} {y0 : T_Base} : Con qd Tryz.prog 24 [.agg #[sv p1 y0.1 c1, sv p2 y0.2.1 c2, sv p3 y0.2.2 c3]] [] [Rl e_Premise p1 c1 y0.1, Rl e_Rule p2 c2 y0.2.1, Rl e_Promotion p3 c3 y0.2.2] (m_rulebase_Validate y0) fun r K=>K (vi r) [] [] :=
 ent3 Tryz.call24 Tryz.func24 rfl fun X=>jsr<|jbx .s rfl<|fun b1=>jpc 1 rfl<|jot<|jsq<|
  jjp (fun K=>K [(1, pt b1 0), (27, vb ((decide (16 < (len y0.1))) || ((decide (24 < (len y0.2.1))) || (decide (8 < (len y0.2.2))))))] [bx b1 32 [sv p1 y0.1 c1, sv p2 y0.2.1 c2, sv p3 y0.2.2 c3]] [Rl e_Premise p1 c1 y0.1, Rl e_Rule p2 c2 y0.2.1, Rl e_Promotion p3 c3 y0.2.2]) (
  jrg<|jfa 0 rfl<|jlo 0 rfl rfl rfl<|jpc 3 rfl<|jsp (b := decide (16 < (len y0.1))) 16 rfl (fun hb1=>jpc 4 rfl<|jpe (vb true)<|jpc 5 rfl<|jpe (vb true)<|joe<|
  jup 27 (vb ((decide (16 < (len y0.1))) || ((decide (24 < (len y0.2.1))) || (decide (8 < (len y0.2.2)))))) rfl (by rw [hb1]; rfl)<|jnn (gv (fun _ k=>k) [0] ⟨gk 0,gk 1,gk 2,⟨⟩⟩))<|fun hb1=>jfa 1 rfl<|jlo 0 rfl rfl rfl<|jpc 2 rfl<|
  jpe (vb (decide (24 < (len y0.2.1))))<|jpc 1 rfl<|jsp (b := decide (24 < (len y0.2.1))) 22 rfl (fun hb2=>jpc 4 rfl<|jpe (vb true)<|joe<|
  jup 27 (vb ((decide (16 < (len y0.1))) || ((decide (24 < (len y0.2.1))) || (decide (8 < (len y0.2.2)))))) rfl (by rw [hb1,hb2]; rfl)<|jnn (gv (fun _ k=>k) [0] ⟨gk 0,gk 1,gk 2,⟨⟩⟩))<|fun hb2=>jfa 2 rfl<|jlo 0 rfl rfl rfl<|jpc 2 rfl<|
  jpe (vb (decide (8 < (len y0.2.2))))<|joe<|jup 27 (vb ((decide (16 < (len y0.1))) || ((decide (24 < (len y0.2.1))) || (decide (8 < (len y0.2.2)))))) rfl (by rw [hb1,hb2]; rfl)<|jnn (gv (fun _ k=>k) [0] ⟨gk 0,gk 1,gk 2,⟨⟩⟩))<|fun _ k=>k<|
  jif rfl (jsr<|jpc 1 rfl<|jot<|jxr<|jtr<|jr1 rfl rfl (fun _ k=>k) [] ⟨⟩)<|jsk<|jtn<|
  jjo (fun s1 K=>K [(1, pt b1 0)] [bx b1 32 [sv p1 y0.1 c1, sv p2 y0.2.1 c2, sv p3 y0.2.2 c3]] [Rl e_Premise p1 c1 y0.1, Rl e_Rule p2 c2 y0.2.1, Rl e_Promotion p3 c3 y0.2.2]) (jsr<|jfa 0 rfl<|jlo 0 rfl rfl rfl<|jpc 2 rfl<|jot<|jbk<|
  jlp (fun s2 K=>K [(1, pt b1 0), (29, sv p1 y0.1 c1), (30, vi (len y0.1)), (31, vi s2)] [bx b1 32 [sv p1 y0.1 c1, sv p2 y0.2.1 c2, sv p3 y0.2.2 c3]] [Rl e_Premise p1 c1 y0.1, Rl e_Rule p2 c2 y0.2.1, Rl e_Promotion p3 c3 y0.2.2]) (gv (fun _ k=>k) [0] ⟨gk 0,gk 1,gk 2,⟨⟩⟩)<|
  fun s2 _ k=>k<|jsr<|jpc 1 rfl<|jot<|jsq<|jif rfl (jsk<|jtn<|jsq<|jbk<|jsr<|jpc 1 rfl<|jix 0 rfl rfl rfl<|fun x1 b2 o1=>jld true o_Premise (gk 0) rfl<|jal .s (.agg #[vb false, vs [], vi 0, vi 0, vs []])<|fun b3=>jpc 1 rfl<|
  jso .s 1 rfl rfl rfl<|jot<|jsq<|jsr<|jla 1 5 rfl rfl rfl<|jcl c_rulebase_premise rfl ⟨⟩<|fun r1 _ k=>k<|jpc 1 rfl<|jot<|jsr<|jpc 2 rfl<|jot<|jif rfl (jsr<|jpc 2 rfl<|jot<|jxr<|jtr<|jbr<|jtr<|jlr<|jbr<|jlr<|jr1 rfl rfl (fun _ k=>k) [] ⟨⟩)<|
  jsk<|jtn<|jsr<|jla 0 3 rfl rfl rfl<|jfa 0 rfl<|jla 1 2 rfl rfl rfl<|jcl c_rulebase_Premise rfl ⟨ck 1,ck 2,ck 3,⟨⟩⟩<|fun r2 _ k=>k<|jpc 2 rfl<|jot<|jif rfl (jsr<|jpc 1 rfl<|jot<|jxr<|jbr<|jtr<|jlr<|jbr<|jlr<|jr1 rfl rfl (fun _ k=>k) [] ⟨⟩)<|
  jsk<|jbn<|jtn<|jrg<|jpc 2 rfl<|joe<|jln (gv (fun _ k=>k) [0] ⟨gk 1,gk 2,gk 3,⟨⟩⟩))<|jxe<|jte<|jle<|jbh<|jln (gv (fun _ k=>k) [0] ⟨gk 0,gk 1,gk 2,⟨⟩⟩))<|fun s1 _ k=>k<|
  jjo (fun s3 K=>K [(1, pt b1 0)] [bx b1 32 [sv p1 y0.1 c1, sv p2 y0.2.1 c2, sv p3 y0.2.2 c3]] [Rl e_Premise p1 c1 y0.1, Rl e_Rule p2 c2 y0.2.1, Rl e_Promotion p3 c3 y0.2.2]) (jsr<|jfa 1 rfl<|jlo 0 rfl rfl rfl<|jpc 2 rfl<|jot<|jbk<|
  jlp (fun s4 K=>K [(1, pt b1 0), (49, sv p2 y0.2.1 c2), (50, vi (len y0.2.1)), (51, vi s4)] [bx b1 32 [sv p1 y0.1 c1, sv p2 y0.2.1 c2, sv p3 y0.2.2 c3]] [Rl e_Rule p2 c2 y0.2.1, Rl e_Premise p1 c1 y0.1, Rl e_Promotion p3 c3 y0.2.2]) (gv (fun _ k=>k) [0] ⟨gk 1,gk 0,gk 2,⟨⟩⟩)<|
  fun s4 _ k=>k<|jsr<|jpc 1 rfl<|jot<|jsq<|jif rfl (jsk<|jtn<|jsq<|jbk<|jsr<|jpc 1 rfl<|jix 0 rfl rfl rfl<|fun x2 b4 o2=>jld true o_Rule (gk 0) rfl<|fun p4 c4=>jal .s (.agg #[vs [], vb false, vi 0, .slice none 0 0, vb false, vs []])<|fun b5=>
  jpc 1 rfl<|jso .s 1 rfl rfl rfl<|jot<|jsq<|jsr<|jla 1 6 rfl rfl rfl<|jcl c_rulebase_rule rfl ⟨ck 0,⟨⟩⟩<|fun r3 _ k=>k<|jpc 1 rfl<|jot<|jsr<|jpc 2 rfl<|jot<|jif rfl (jsr<|jpc 2 rfl<|jot<|jxr<|jtr<|jbr<|jtr<|jlr<|jbr<|jlr<|
  jr1 rfl rfl (fun _ k=>k) [] ⟨⟩)<|jsk<|jtn<|jsr<|jla 0 3 rfl rfl rfl<|jfa 0 rfl<|jlo 1 rfl rfl rfl<|jcl c_rulebase_Find rfl ⟨ck 3,ck 2,ck 4,⟨⟩⟩<|fun r4 _ k=>k<|jpc 2 rfl<|jot<|jif rfl (jsr<|jpc 1 rfl<|jot<|jxr<|jbr<|jtr<|jlr<|jbr<|jlr<|
  jr1 rfl rfl (fun _ k=>k) [] ⟨⟩)<|jsk<|jbn<|jtn<|jrg<|jpc 2 rfl<|joe<|jln (gv (fun _ k=>k) [0] ⟨gk 2,gk 3,gk 4,⟨⟩⟩))<|jxe<|jte<|jle<|jbh<|jln (gv (fun _ k=>k) [0] ⟨gk 1,gk 0,gk 2,⟨⟩⟩))<|fun s3 _ k=>k<|jsq<|jsr<|jfa 2 rfl<|jlo 0 rfl rfl rfl<|
  jpc 2 rfl<|jot<|jbk<|
  jlp (fun s5 K=>K [(1, pt b1 0), (69, sv p3 y0.2.2 c3), (70, vi (len y0.2.2)), (71, vi s5)] [bx b1 32 [sv p1 y0.1 c1, sv p2 y0.2.1 c2, sv p3 y0.2.2 c3]] [Rl e_Promotion p3 c3 y0.2.2, Rl e_Premise p1 c1 y0.1, Rl e_Rule p2 c2 y0.2.1]) (gv (fun _ k=>k) [0] ⟨gk 2,gk 0,gk 1,⟨⟩⟩)<|
  fun s5 _ k=>k<|jsr<|jpc 1 rfl<|jot<|jsq<|jif rfl (jsk<|jtn<|jsq<|jbk<|jsr<|jix 0 rfl rfl rfl<|fun x3 b6 o3=>jld true o_Promotion (gk 0) rfl<|jal .s (.agg #[vs [], vi 0, vb false, vs []])<|fun b7=>jso .s 1 rfl rfl rfl<|jot<|jsr<|
  jla 0 3 rfl rfl rfl<|jla 1 4 rfl rfl rfl<|jcl c_rulebase_promotion rfl ⟨ck 2,ck 3,ck 1,⟨⟩⟩<|fun r5 _ k=>k<|jpc 1 rfl<|jot<|jsr<|jpc 2 rfl<|jot<|jif rfl (jsr<|jpc 2 rfl<|jot<|jxr<|jbr<|jtr<|jlr<|jbr<|jtr<|jr1 rfl rfl (fun _ k=>k) [] ⟨⟩)<|
  jsk<|jbn<|jtn<|jrg<|jpc 2 rfl<|joe<|jln (gv (fun _ k=>k) [0] ⟨gk 1,gk 2,gk 3,⟨⟩⟩))<|jxe<|jte<|jle<|jbh<|jtn<|jsr<|jpc 1 rfl<|jot<|jxr<|jr1 rfl rfl (fun _ k=>k) [] ⟨⟩

theorem c_literal_Format {qd : Prop} {y0 : T_Literal} : Con qd Tryz.prog 85 [.agg #[vb y0.1, vs y0.2]] [] [] (m_literal_Format y0) fun r K=>K (vs r) [] [] :=
 ent3 Tryz.call85 Tryz.func85 rfl fun X=>jsr<|jbx .s rfl<|fun b1=>jpc 1 rfl<|jot<|jsq<|jbk<|jsr<|jla 0 2 rfl rfl rfl<|jcl c_literal_Valid rfl ⟨⟩<|fun r1 _ k=>k<|jpc 2 rfl<|jot<|jif rfl (jsr<|jpc 1 rfl<|jot<|jxr<|jbr<|jtr<|jr1 rfl rfl (fun _ k=>k) [] ⟨⟩)<|jsr<|jfa 0 rfl<|
  jlo 0 rfl rfl rfl<|jpc 1 rfl<|jot<|jif rfl (jsr<|jfa 1 rfl<|jlo 0 rfl rfl rfl<|jbd fun x1 h1=>jv (fun h=>r_cat h rfl rfl h1)<|jpc 1 rfl<|jot<|jxr<|jbr<|jtr<|jr1 rfl rfl (fun _ k=>k) [] ⟨⟩)<|jsk<|jbn<|jtn<|jsr<|jfa 1 rfl<|jlo 0 rfl rfl rfl<|
  jpc 1 rfl<|jot<|jxr<|jr1 rfl rfl (fun _ k=>k) [] ⟨⟩

theorem c_internal_strconv_small {qd : Prop} {y0 : Int} : Con qd Tryz.prog 125 [vi y0] [] [] (m_internal_strconv_small y0) fun r K=>K (vs r) [] [] :=
 ent3 Tryz.call125 Tryz.func125 rfl fun X=>jsr<|jpc 1 rfl<|jot<|jsq<|jsr<|jpc 2 rfl<|jot<|jif rfl (jsr<|jpc 3 rfl<|jbd fun x1 h1=>jv (fun h=>r_ssub h rfl Tryz.underlying9 rfl rfl (.inr ⟨_, rfl⟩) (.inr ⟨_, rfl⟩) h1)<|jpc 1 rfl<|jot<|jxr<|jtr<|jr1 rfl rfl (fun _ k=>k) [] ⟨⟩)<|jsk<|
  jtn<|jsr<|jpc 5 rfl<|jbd fun x2 h2=>jv (fun h=>r_ssub h rfl Tryz.underlying9 rfl rfl (.inr ⟨_, rfl⟩) (.inr ⟨_, rfl⟩) h2)<|jpc 1 rfl<|jot<|jxr<|jr1 rfl rfl (fun _ k=>k) [] ⟨⟩

theorem c_internal_strconv_FormatInt {qd : Prop} {y0 : Int} {y1 : Int} : Con qd Tryz.prog 119 [vi y0, vi y1] [] [] (m_internal_strconv_FormatInt y0 y1) fun r K=>K (vs r) [] [] :=
 ent3 Tryz.call119 Tryz.func119 rfl fun X=>jsr<|jpc 1 rfl<|jot<|jsq<|jsr<|jpc 2 rfl<|jot<|jif rfl (jsq<|jjp (fun K=>K [(0, vi y0), (17, vb ((decide (0 ≤ y0)) && (decide (y0 < 100))))] [] []) (jrg<|jpc 3 rfl<|jsp (b := decide (0 ≤ y0)) 14 rfl (fun hb1=>jpc 2 rfl<|
  jpe (vb (decide (y0 < 100)))<|joe<|jup 17 (vb ((decide (0 ≤ y0)) && (decide (y0 < 100)))) rfl (by rw [hb1]; rfl)<|jnn (gv (fun _ k=>k) [] ⟨⟩))<|fun hb1=>jpc 2 rfl<|jpe (vb false)<|joe<|
  jup 17 (vb ((decide (0 ≤ y0)) && (decide (y0 < 100)))) rfl (by rw [hb1]; rfl)<|jnn (gv (fun _ k=>k) [] ⟨⟩))<|fun _ k=>k<|jif rfl (jsr<|jpc 1 rfl<|jcl c_internal_strconv_small rfl ⟨⟩<|fun r1 _ k=>k<|jpc 1 rfl<|jot<|jxr<|jtr<|jtr<|
  jr1 rfl rfl (fun _ k=>k) [] ⟨⟩)<|jsk<|jtn<|jsr<|jno)<|jsk<|jtn<|jsr<|jpc 1 rfl<|jpe (.int .u64 (IntKind.u64.wrap (y0)))<|jpc 3 rfl<|jno

theorem c_internal_strconv_Itoa {qd : Prop} {y0 : Int} : Con qd Tryz.prog 107 [vi y0] [] [] (m_internal_strconv_Itoa y0) fun r K=>K (vs r) [] [] :=
 ent3 Tryz.call107 Tryz.func107 rfl fun X=>jsr<|jpc 1 rfl<|jot<|jsr<|jpc 1 rfl<|jcl c_internal_strconv_FormatInt rfl ⟨⟩<|fun r1 _ k=>k<|jpc 1 rfl<|jot<|jxr<|jr1 rfl rfl (fun _ k=>k) [] ⟨⟩

theorem c_strconv_Itoa {qd : Prop} {y0 : Int} : Con qd Tryz.prog 86 [vi y0] [] [] (m_strconv_Itoa y0) fun r K=>K (vs r) [] [] :=
 ent3 Tryz.call86 Tryz.func86 rfl fun X=>jsr<|jpc 1 rfl<|jot<|jsr<|jpc 1 rfl<|jcl c_internal_strconv_Itoa rfl ⟨⟩<|fun r1 _ k=>k<|jpc 1 rfl<|jot<|jxr<|jr1 rfl rfl (fun _ k=>k) [] ⟨⟩

theorem c_strings_Join {y0 : List Str} {y1 : Str} : Con False Tryz.prog 87 [sv p1 y0 c1, vs y1] [] [Rl eStr p1 c1 y0] (m_strings_Join y0 y1) fun r K=>K (vs r) [] [] := lib_join Go.Proofs.Tryz.lays156 Go.Proofs.Tryz.Builder_Extra_156 Tryz.call87

theorem c_rulebase_premiseLine {y0 : T_Premise} : Con False Tryz.prog 42 [.agg #[vb y0.1.1, vs y0.1.2, vi y0.2.1, vi y0.2.2.1, vs y0.2.2.2]] [] [Pt (eArr 4 eStr) 1 0 tab_rulebase_kinds] (m_rulebase_premiseLine y0) fun r K=>K (vs r) [] [] :=
 ent3 Tryz.call42 Tryz.func42 rfl fun X=>jsr<|jbx .s rfl<|fun b1=>jpc 1 rfl<|jot<|jds [] [0] 9<|jdf 0 2 rfl rfl<|jdo 1 0 rfl rfl rfl rfl<|jdgx 2 rfl (gk 0) rfl rfl<|fun x1=>jdl 3 false oS rfl (gk 0) rfl<|jdf 4 0 rfl rfl<|jda 5 0 2 rfl rfl rfl rfl<|jd1 6<|
  jca (.f rfl) [] [] c_literal_Format rfl rfl rfl ⟨⟩<|fun r1 _ k=>k<|jdn<|jd1 7<|jbo (.f rfl) (e := eStr) 9 [vs x1, vs r1] ([x1, r1] : List Str) (rC vS (rC vS rN))<|fun r_1 p1 c1=>jdn<|jdc 0 [8] rfl<|jde<|jtn<|
  jjn (fun s1 K=>∀ p2 c2 r_2,K [(1, pt b1 0), (3, sv p2 s1 c2)] [bx b1 60 [vb y0.1.1, vs y0.1.2, vi y0.2.1, vi y0.2.2.1, vs y0.2.2.2], r_2] [Al eStr 9 r_2 p2 c2 s1, Pt (eArr 4 eStr) 1 0 tab_rulebase_kinds]) (jsr<|jfa 2 rfl<|
  jlo 0 rfl rfl rfl<|jpc 1 rfl<|jot<|jif rfl (jrg<|jpc 1 rfl<|jfa 3 rfl<|jlo 0 rfl rfl rfl<|jcl c_strconv_Itoa rfl ⟨⟩<|fun r2 _ k=>k<|jbs .s (e := eStr) 9 [vs r2] ([r2] : List Str) (rC vS rN)<|fun p3 c3=>jar .s 1 1 rfl (gk 0) rfl rfl<|
  fun x2 r_3 p4 c4=>jpc 1 rfl<|joe<|jnn (gv (fun _ k=>k p4 c4 r_3) [0,1] ⟨gk 0,gk 4,⟨⟩⟩))<|jsk<|jnn (gv (fun _ k=>k p1 c1 r_1) [0,1] ⟨gk 0,gk 2,⟨⟩⟩))<|fun s1 _ k p2 c2 r_2=>k<|
  jjn (fun s2 K=>∀ p5 c5 r_4,K [(3, sv p5 s2 c5)] [[], r_4] [Al eStr 9 r_4 p5 c5 s2, Pt (eArr 4 eStr) 1 0 tab_rulebase_kinds]) (jsr<|jfa 4 rfl<|jlo 0 rfl rfl rfl<|jpc 1 rfl<|jot<|jif rfl (jrg<|jpc 1 rfl<|jfa 4 rfl<|jlo 0 rfl rfl rfl<|
  jbs .s (e := eStr) 9 [vs [102, 114, 111, 109], vs y0.2.2.2] ([[102, 114, 111, 109], y0.2.2.2] : List Str) (rC vS (rC vS rN))<|fun p6 c6=>jar .s 1 1 rfl (gk 0) rfl rfl<|fun x3 r_5 p7 c7=>jpc 1 rfl<|joe<|
  jnn (gv (fun _ k=>k p7 c7 r_5) [900,1] ⟨gk 0,gk 3,⟨⟩⟩))<|jsk<|jnn (gv (fun _ k=>k p2 c2 r_2) [900,1] ⟨gk 0,gk 1,⟨⟩⟩))<|fun s2 _ k p5 c5 r_4=>k<|jsr<|jpc 1 rfl<|jca .s [] [1] c_strings_Join rfl rfl rfl ⟨cl 1 0,⟨⟩⟩<|fun r3 _ k=>k<|jpc 1 rfl<|
  jot<|jxr<|jr1 rfl rfl (fun _ k=>k) [] ⟨⟩

theorem c_rulebase_promotionLine {qd : Prop} {y0 : T_Promotion} : Con qd Tryz.prog 44 [.agg #[vs y0.1, vi y0.2.1, vb y0.2.2.1, vs y0.2.2.2]] [] [] (m_rulebase_promotionLine y0) fun r K=>K (vs r) [] [] :=
 ent3 Tryz.call44 Tryz.func44 rfl fun X=>jsr<|jbx .s rfl<|fun b1=>jpc 1 rfl<|jot<|jds [] [0] 14<|jdf 0 0 rfl rfl<|jdo 1 0 rfl rfl rfl rfl<|jbd fun x1 h1=>jdv 2 rfl (fun h=>r_cat h rfl rfl h1)<|jbd fun x2 h2=>jdv 3 rfl (fun h=>r_cat h rfl rfl h2)<|jdf 4 1 rfl rfl<|
  jdo 5 0 rfl rfl rfl rfl<|jdf 9 2 rfl rfl<|jda 10 0 2 rfl rfl rfl rfl<|jd1 6<|jca (.f rfl) [] [] c_strconv_Itoa rfl rfl rfl ⟨⟩<|fun r1 _ k=>k<|jdn<|jbd fun x3 h3=>jdv 7 rfl (fun h=>r_cat h rfl rfl h3)<|jbd fun x4 h4=>
  jdv 8 rfl (fun h=>r_cat h rfl rfl h4)<|jd1 11<|jca (.f rfl) [] [] c_literal_Format rfl rfl rfl ⟨⟩<|fun r2 _ k=>k<|jdn<|jbd fun x5 h5=>jdv 12 rfl (fun h=>r_cat h rfl rfl h5)<|jdc 0 [13] rfl<|jde<|jtn<|jxr<|jr1 rfl rfl (fun _ k=>k) [] ⟨⟩

theorem c_rulebase_ruleLine {y0 : T_Rule} : Con False Tryz.prog 43 [.agg #[vs y0.1, vb y0.2.1, vi y0.2.2.1, sv p1 y0.2.2.2.1 c1, vb y0.2.2.2.2.1, vs y0.2.2.2.2.2]] [] [Rl e_Literal p1 c1 y0.2.2.2.1] (m_rulebase_ruleLine y0) fun r K=>K (vs r) [] [] :=
 ent3 Tryz.call43 Tryz.func43 rfl fun X=>jsr<|jbx .s rfl<|fun b1=>jpc 1 rfl<|jot<|jsr<|jfa 0 rfl<|jlo 0 rfl rfl rfl<|jbd fun x1 h1=>jv (fun h=>r_cat h rfl rfl h1)<|
  jbo .s (e := eStr) 9 [vs [115, 116, 114, 105, 99, 116], vs x1] ([[115, 116, 114, 105, 99, 116], x1] : List Str) (rC vS (rC vS rN))<|fun r_1 p2 c2=>jpc 2 rfl<|jot<|
  jjn (fun s1 K=>∀ p3 c3 r_2,K [(1, pt b1 0), (3, sv p3 s1.1 c3), (4, vs s1.2)] [bx b1 63 [vs y0.1, vb y0.2.1, vi y0.2.2.1, sv p1 y0.2.2.2.1 c1, vb y0.2.2.2.2.1, vs y0.2.2.2.2.2], [], r_2] [Al eStr 9 r_2 p3 c3 s1.1, Rl e_Literal p1 c1 y0.2.2.2.1]) (
  jsr<|jfa 1 rfl<|jlo 0 rfl rfl rfl<|jpc 1 rfl<|jot<|jif rfl (jdS [] [0] 9<|jdf 0 0 rfl rfl<|jdo 1 0 rfl rfl rfl rfl<|jdf 2 2 rfl rfl<|jdo 3 0 rfl rfl rfl rfl<|jd1 4<|jca (.f rfl) [] [] c_strconv_Itoa rfl rfl rfl ⟨⟩<|fun r1 _ k=>k<|jdn<|
  jbd fun x2 h2=>jdv 5 rfl (fun h=>r_cat h rfl rfl h2)<|jd1 6<|jbo (.f rfl) (e := eStr) 9 [vs [114, 117, 108, 101], vs y0.1, vs x2] ([[114, 117, 108, 101], y0.1, x2] : List Str) (rC vS (rC vS (rC vS rN)))<|fun r_3 p4 c4=>jdn<|
  jdc 0 [7,8] rfl<|jde<|jnn (gv (fun _ k=>k p4 c4 r_3) [0,901,2] ⟨gk 0,gk 2,⟨⟩⟩))<|jsk<|jnn (gv (fun _ k=>k p2 c2 r_1) [0,901,1] ⟨gk 0,gk 1,⟨⟩⟩))<|fun s1 _ k p3 c3 r_2=>k<|
  jjn (fun s2 K=>∀ p5 c5 r_4,K [(1, pt b1 0), (3, sv p5 s2 c5), (4, vs s1.2)] [bx b1 63 [vs y0.1, vb y0.2.1, vi y0.2.2.1, sv p1 y0.2.2.2.1 c1, vb y0.2.2.2.2.1, vs y0.2.2.2.2.2], [], r_4] [Al eStr 9 r_4 p5 c5 s2, Rl e_Literal p1 c1 y0.2.2.2.1]) (
  jsr<|jfa 3 rfl<|jlo 0 rfl rfl rfl<|jpc 2 rfl<|jot<|jbk<|
  jlp (fun s3 K=>∀ p6 c6 r_5,K [(1, pt b1 0), (3, sv p6 s3.1 c6), (4, vs s1.2), (23, sv p1 y0.2.2.2.1 c1), (24, vi (len y0.2.2.2.1)), (25, vi s3.2)] [bx b1 63 [vs y0.1, vb y0.2.1, vi y0.2.2.1, sv p1 y0.2.2.2.1 c1, vb y0.2.2.2.2.1, vs y0.2.2.2.2.2], [], r_5] [Al eStr 9 r_5 p6 c6 s3.1, Rl e_Literal p1 c1 y0.2.2.2.1]) (gv (fun _ k=>k p3 c3 r_2) [0,901,2] ⟨gk 0,gk 1,⟨⟩⟩)<|
  fun s3 _ k p6 c6 r_5=>k<|jsr<|jpc 1 rfl<|jot<|jsq<|jif rfl (jsk<|jtn<|jsq<|jbk<|jsr<|jpc 1 rfl<|jix 1 rfl rfl rfl<|fun x3 b2 o1=>jld true o_Literal (gk 0) rfl<|jal .s (.agg #[vb false, vs []])<|fun b3=>jpc 1 rfl<|jso .s 3 rfl rfl rfl<|jot<|
  jsr<|jla 3 2 rfl rfl rfl<|jcl c_literal_Format rfl ⟨⟩<|fun r2 _ k=>k<|jpc 1 rfl<|jot<|
  jjn (fun s4 K=>K [(1, pt b1 0), (3, sv p6 s3.1 c6), (4, vs s1.2), (7, vs s4), (23, sv p1 y0.2.2.2.1 c1), (24, vi (len y0.2.2.2.1)), (25, vi s3.2)] [bx b1 63 [vs y0.1, vb y0.2.1, vi y0.2.2.1, sv p1 y0.2.2.2.1 c1, vb y0.2.2.2.2.1, vs y0.2.2.2.2.2], [], r_5, []] [Al eStr 9 r_5 p6 c6 s3.1, Rl e_Literal p1 c1 y0.2.2.2.1]) (
  jsr<|jpc 1 rfl<|jfa 3 rfl<|jlo 0 rfl rfl rfl<|jpc 3 rfl<|jot<|jif rfl (jrg<|jpc 1 rfl<|jbd fun x4 h3=>jv (fun h=>r_cat h rfl rfl h3)<|jpc 1 rfl<|joe<|jnn (gv (fun _ k=>k) [0,901,2,903] ⟨gk 1,gk 2,⟨⟩⟩))<|jsk<|
  jnn (gv (fun _ k=>k) [0,901,2,903] ⟨gk 1,gk 2,⟨⟩⟩))<|fun s4 _ k=>k<|jrg<|jpc 2 rfl<|jbs .s (e := eStr) 9 [vs s4] ([s4] : List Str) (rC vS rN)<|fun p7 c7=>jar .s 2 1 rfl (gk 0) rfl rfl<|fun x5 r_6 p8 c8=>jpc 1 rfl<|joe<|jbn<|jtn<|jrg<|
  jpc 2 rfl<|joe<|jln (gv (fun _ k=>k p8 c8 r_6) [0,901,2] ⟨gk 0,gk 3,⟨⟩⟩))<|jxe<|jte<|jle<|jbh<|jnn (gv (fun _ k=>k p6 c6 r_5) [0,901,2] ⟨gk 0,gk 1,⟨⟩⟩))<|fun s2 _ k p5 c5 r_4=>k<|jsr<|jpc 2 rfl<|jfa 4 rfl<|jla 0 2 rfl rfl rfl<|
  jcl c_literal_Format rfl ⟨⟩<|fun r3 _ k=>k<|jbs .s (e := eStr) 9 [vs s1.2, vs r3] ([s1.2, r3] : List Str) (rC vS (rC vS rN))<|fun p9 c9=>jar .s 2 1 rfl (gk 0) rfl rfl<|fun x6 r_7 p10 c10=>
  jca .s [] [2] c_strings_Join rfl rfl rfl ⟨cl 2 0,⟨⟩⟩<|fun r4 _ k=>k<|jpc 1 rfl<|jot<|jxr<|jr1 rfl rfl (fun _ k=>k) [] ⟨⟩

theorem c_strings_Builder_Len {qd : Prop} {y0 : Str} : Con qd Tryz.prog 45 [pt b1 0] [r_1] [Bdr 90 5 r_1 b1 y0] (m_strings_Builder_Len y0) fun r K=>K (vi r) [r_1] [] := lib_blen Go.Proofs.Tryz.lays170 Tryz.call45

theorem c_strings_Builder_String {y0 : Str} : Con False Tryz.prog 46 [pt b1 0] [r_1] [Bdr 90 5 r_1 b1 y0] (m_strings_Builder_String y0) fun r K=>K (vs r) [[]] [] := lib_bstr Go.Proofs.Tryz.lays169 Go.Proofs.Tryz.Builder_Extra_169 Tryz.call46

theorem c_strings_Builder_WriteString {y0 : Str} {y1 : Str} : Con False Tryz.prog 41 [pt b1 0, vs y1] [r_1] [Bdr 90 5 r_1 b1 y0] (m_strings_Builder_WriteString y0 y1) fun r K=>∀ r_2,K (.tuple #[vi r.1, .nilIface]) [r_2] [Bdr 90 5 r_2 b1 r.2.2] := lib_wstr { Go.Proofs.Tryz.lays156 with } Go.Proofs.Tryz.Builder_Extra_156 Tryz.call41

theorem c_rulebase_Format {y0 : T_Base} : Con False Tryz.prog 18 [.agg #[sv p1 y0.1 c1, sv p2 y0.2.1 c2, sv p3 y0.2.2 c3]] [] [Rl e_Premise p1 c1 y0.1, Rl e_Rule p2 c2 y0.2.1, Rl e_Promotion p3 c3 y0.2.2, Pt (eArr 4 eStr) 1 0 tab_rulebase_kinds] (m_rulebase_Format y0) fun r K=>K (.tuple #[vs r.1, vi r.2]) [] [] :=
 ent3 Tryz.call18 Tryz.func18 rfl fun X=>jsr<|jbx .s rfl<|fun b1=>jpc 2 rfl<|jot<|jsq<|jsr<|jla 0 3 rfl rfl rfl<|jcl c_rulebase_Validate rfl ⟨ck 0,ck 1,ck 2,⟨⟩⟩<|fun r1 _ k=>k<|jpc 1 rfl<|jot<|jsr<|jpc 2 rfl<|jot<|jif rfl (jsr<|jpc 3 rfl<|jot<|jxr<|jtr<|
  jrg' rfl (lT rfl (lT rfl lN)) (fun _ k=>k) [] ⟨⟩)<|jsk<|jtn<|jsr<|jal .s (.agg #[.pointer none, .slice none 0 0])<|fun b2=>jbq 90 5 b2<|jot<|
  jjn (fun s1 K=>∀ r_1,K [(1, pt b1 0), (5, pt b2 0)] [bx b1 32 [sv p1 y0.1 c1, sv p2 y0.2.1 c2, sv p3 y0.2.2 c3], r_1] [Bdr 90 5 r_1 b2 s1, Rl e_Premise p1 c1 y0.1, Rl e_Rule p2 c2 y0.2.1, Rl e_Promotion p3 c3 y0.2.2, Pt (eArr 4 eStr) 1 0 tab_rulebase_kinds]) (
  jsr<|jfa 0 rfl<|jlo 0 rfl rfl rfl<|jpc 2 rfl<|jot<|jbk<|
  jlp (fun s2 K=>∀ r_2,K [(1, pt b1 0), (5, pt b2 0), (18, sv p1 y0.1 c1), (19, vi (len y0.1)), (20, vi s2.1)] [bx b1 32 [sv p1 y0.1 c1, sv p2 y0.2.1 c2, sv p3 y0.2.2 c3], r_2] [Bdr 90 5 r_2 b2 s2.2, Rl e_Premise p1 c1 y0.1, Rl e_Rule p2 c2 y0.2.1, Rl e_Promotion p3 c3 y0.2.2, Pt (eArr 4 eStr) 1 0 tab_rulebase_kinds]) (gv (fun _ k=>k (bx b2 90 [.pointer none, .slice none 0 0])) [0,1] ⟨gk 0,gk 1,gk 2,gk 3,gk 4,⟨⟩⟩)<|
  fun s2 _ k r_2=>k<|jsr<|jpc 1 rfl<|jot<|jsq<|jif rfl (jsk<|jtn<|jsq<|jbk<|jsr<|jix 1 rfl rfl rfl<|fun x1 b3 o1=>jld true o_Premise (gk 0) rfl<|jal .s (.agg #[vb false, vs [], vi 0, vi 0, vs []])<|fun b4=>jso .s 2 rfl rfl rfl<|jot<|jrg<|
  jla 2 5 rfl rfl rfl<|jcl c_rulebase_premiseLine rfl ⟨ck 5,⟨⟩⟩<|fun r2 _ k=>k<|jbd fun x2 h1=>jv (fun h=>r_cat h rfl rfl h1)<|jca .s [1] [] c_strings_Builder_WriteString rfl rfl rfl ⟨ck 1,⟨⟩⟩<|fun r3 _ k r_3=>k<|joe<|jbn<|jtn<|jrg<|
  jpc 2 rfl<|joe<|jln (gv (fun _ k=>k r_3) [0,1] ⟨gk 0,gk 3,gk 4,gk 5,gk 6,⟨⟩⟩))<|jxe<|jte<|jle<|jbh<|jnn (gv (fun _ k=>k r_2) [0,1] ⟨gk 0,gk 1,gk 2,gk 3,gk 4,⟨⟩⟩))<|fun s1 _ k r_1=>k<|
  jjn (fun s3 K=>∀ r_4,K [(1, pt b1 0), (5, pt b2 0)] [bx b1 32 [sv p1 y0.1 c1, sv p2 y0.2.1 c2, sv p3 y0.2.2 c3], r_4] [Bdr 90 5 r_4 b2 s3, Rl e_Premise p1 c1 y0.1, Rl e_Rule p2 c2 y0.2.1, Rl e_Promotion p3 c3 y0.2.2, Pt (eArr 4 eStr) 1 0 tab_rulebase_kinds]) (
  jsr<|jfa 1 rfl<|jlo 0 rfl rfl rfl<|jpc 2 rfl<|jot<|jbk<|
  jlp (fun s4 K=>∀ r_5,K [(1, pt b1 0), (5, pt b2 0), (30, sv p2 y0.2.1 c2), (31, vi (len y0.2.1)), (32, vi s4.1)] [bx b1 32 [sv p1 y0.1 c1, sv p2 y0.2.1 c2, sv p3 y0.2.2 c3], r_5] [Bdr 90 5 r_5 b2 s4.2, Rl e_Rule p2 c2 y0.2.1, Rl e_Premise p1 c1 y0.1, Rl e_Promotion p3 c3 y0.2.2, Pt (eArr 4 eStr) 1 0 tab_rulebase_kinds]) (gv (fun _ k=>k r_1) [0,1] ⟨gk 0,gk 2,gk 1,gk 3,gk 4,⟨⟩⟩)<|
  fun s4 _ k r_5=>k<|jsr<|jpc 1 rfl<|jot<|jsq<|jif rfl (jsk<|jtn<|jsq<|jbk<|jsr<|jix 1 rfl rfl rfl<|fun x3 b5 o2=>jld true o_Rule (gk 0) rfl<|fun p4 c4=>jal .s (.agg #[vs [], vb false, vi 0, .slice none 0 0, vb false, vs []])<|fun b6=>
  jso .s 2 rfl rfl rfl<|jot<|jrg<|jla 2 6 rfl rfl rfl<|jcl c_rulebase_ruleLine rfl ⟨ck 0,⟨⟩⟩<|fun r4 _ k=>k<|jbd fun x4 h2=>jv (fun h=>r_cat h rfl rfl h2)<|jca .s [1] [] c_strings_Builder_WriteString rfl rfl rfl ⟨ck 2,⟨⟩⟩<|fun r5 _ k r_6=>k<|
  joe<|jbn<|jtn<|jrg<|jpc 2 rfl<|joe<|jln (gv (fun _ k=>k r_6) [0,1] ⟨gk 0,gk 4,gk 5,gk 6,gk 7,⟨⟩⟩))<|jxe<|jte<|jle<|jbh<|jnn (gv (fun _ k=>k r_5) [0,1] ⟨gk 0,gk 2,gk 1,gk 3,gk 4,⟨⟩⟩))<|fun s3 _ k r_4=>k<|
  jjn (fun s5 K=>∀ r_7,K [(5, pt b2 0)] [[], r_7] [Bdr 90 5 r_7 b2 s5, Pt (eArr 4 eStr) 1 0 tab_rulebase_kinds]) (jsr<|jfa 2 rfl<|jlo 0 rfl rfl rfl<|jpc 2 rfl<|jot<|jbk<|
  jlp (fun s6 K=>∀ r_8,K [(5, pt b2 0), (42, sv p3 y0.2.2 c3), (43, vi (len y0.2.2)), (44, vi s6.1)] [[], r_8] [Bdr 90 5 r_8 b2 s6.2, Rl e_Promotion p3 c3 y0.2.2, Pt (eArr 4 eStr) 1 0 tab_rulebase_kinds]) (gv (fun _ k=>k r_4) [900,1] ⟨gk 0,gk 3,gk 4,⟨⟩⟩)<|
  fun s6 _ k r_8=>k<|jsr<|jpc 1 rfl<|jot<|jsq<|jif rfl (jsk<|jtn<|jsq<|jbk<|jsr<|jix 1 rfl rfl rfl<|fun x5 b7 o3=>jld true o_Promotion (gk 0) rfl<|jal .s (.agg #[vs [], vi 0, vb false, vs []])<|fun b8=>jso .s 2 rfl rfl rfl<|jot<|jrg<|
  jla 2 4 rfl rfl rfl<|jcl c_rulebase_promotionLine rfl ⟨⟩<|fun r6 _ k=>k<|jbd fun x6 h3=>jv (fun h=>r_cat h rfl rfl h3)<|jca .s [1] [] c_strings_Builder_WriteString rfl rfl rfl ⟨ck 1,⟨⟩⟩<|fun r7 _ k r_9=>k<|joe<|jbn<|jtn<|jrg<|jpc 2 rfl<|
  joe<|jln (gv (fun _ k=>k r_9) [900,1] ⟨gk 0,gk 3,gk 4,⟨⟩⟩))<|jxe<|jte<|jle<|jbh<|jnn (gv (fun _ k=>k r_8) [900,1] ⟨gk 0,gk 2,⟨⟩⟩))<|fun s5 _ k r_7=>k<|jsq<|jsr<|jca .s [1] [] c_strings_Builder_Len rfl rfl rfl ⟨ck 0,⟨⟩⟩<|fun r8 _ k=>k<|
  jpc 1 rfl<|jot<|jif rfl (jsr<|jpc 2 rfl<|jot<|jxr<|jtr<|jrg' rfl (lT rfl (lT rfl lN)) (fun _ k=>k) [] ⟨⟩)<|jsk<|jtn<|jsr<|jca .s [1] [] c_strings_Builder_String rfl rfl rfl ⟨ck 0,⟨⟩⟩<|fun r9 _ k=>k<|jpc 2 rfl<|jot<|jxr<|
  jrg' rfl (lT rfl (lT rfl lN)) (fun _ k=>k) [] ⟨⟩

theorem c_rulebase_words_next {qd : Prop} {y0 : T_rulebase_words} : Con qd Tryz.prog 75 [pt b1 0] [bx b1 77 [sv p1 y0.1 c1, vb y0.2]] [Rl eStr p1 c1 y0.1] (m_rulebase_words_next y0) fun r K=>∀ p2 c2,K (vs r.1) [bx b1 77 [sv p2 r.2.1 c2, vb r.2.2]] [Rl eStr p2 c2 r.2.1] :=
 ent3 Tryz.call75 Tryz.func75 rfl fun X=>jsr<|jpc 1 rfl<|jot<|jsq<|jsr<|jpc 2 rfl<|jfa 0 rfl<|jlo 0 rfl rfl rfl<|jpc 2 rfl<|jot<|jif rfl (jsr<|jpc 2 rfl<|jfa 1 rfl<|jso .s 0 rfl rfl rfl<|jot<|jsr<|jpc 1 rfl<|jot<|jxr<|jtr<|jr1 rfl rfl (fun _ k=>k p1 c1) [0] ⟨gk 0,⟨⟩⟩)<|jsk<|jtn<|
  jsr<|jpc 2 rfl<|jfa 0 rfl<|jlo 0 rfl rfl rfl<|jix 0 rfl rfl rfl<|fun x1 b2 o1=>jld false oS (gk 0) rfl<|jpc 1 rfl<|jot<|jsr<|jpc 3 rfl<|jfa 0 rfl<|jlo 0 rfl rfl rfl<|jsl (gk 1) rfl rfl rfl (.inr ⟨_, rfl⟩) (.inl ⟨rfl, rfl⟩)<|fun x2 p2 c2=>
  jpc 1 rfl<|jfa 0 rfl<|jso .s 0 rfl rfl rfl<|jot<|jsr<|jpc 2 rfl<|jot<|jxr<|jr1 rfl rfl (fun _ k=>k p2 c2) [0] ⟨gk 0,⟨⟩⟩

theorem c_literal_Parse {qd : Prop} {y0 : Str} : Con qd Tryz.prog 118 [vs y0] [] [] (m_literal_Parse y0) fun r K=>K (.tuple #[.agg #[vb r.1.1, vs r.1.2], vi r.2]) [] [] :=
 ent3 Tryz.call118 Tryz.func118 rfl fun X=>jsr<|jal .s (.agg #[vb false, vs []])<|fun b1=>jpc 1 rfl<|jot<|jsr<|jal .s (.agg #[vb false, vs []])<|fun b2=>jot<|jjn (fun s1 K=>K [(0, vs s1.1), (2, pt b1 0), (4, pt b2 0)] [bx b1 58 [vb false, vs []], bx b2 58 [vb s1.2, vs []]] []) (
  jjn (fun s2 K=>K [(0, vs y0), (2, pt b1 0), (4, pt b2 0), (12, vb s2)] [bx b1 58 [vb false, vs []], bx b2 58 [vb false, vs []]] []) (jrg<|jpc 4 rfl<|jsg 8 rfl (jpc 1 rfl<|jbd fun x1 h1=>jv (fun h=>r_sidx h rfl rfl Tryz.underlying9 h1)<|
  jpc 1 rfl<|jpe (vb (x1 == 126))<|joe<|jnn (gv (fun _ k=>k) [0,1] ⟨⟩))<|jpc 3 rfl<|jpe (vb false)<|joe<|jnn (gv (fun _ k=>k) [0,1] ⟨⟩))<|fun s2 _ k=>k<|jif rfl (jsr<|jfa 0 rfl<|jso .s 1 rfl rfl rfl<|jot<|jrg<|jpc 1 rfl<|jbd fun x2 h2=>
  jv (fun h=>r_ssub h rfl Tryz.underlying9 rfl rfl (.inr ⟨_, rfl⟩) (.inl ⟨rfl, rfl⟩) h2)<|jpc 1 rfl<|joe<|jnn (gv (fun _ k=>k) [0,1] ⟨⟩))<|jsk<|jnn (gv (fun _ k=>k) [0,1] ⟨⟩))<|fun s1 _ k=>k<|jsr<|jpc 1 rfl<|jfa 1 rfl<|jso .s 1 rfl rfl rfl<|
  jot<|jsq<|jsr<|jla 1 2 rfl rfl rfl<|jcl c_literal_Valid rfl ⟨⟩<|fun r1 _ k=>k<|jpc 1 rfl<|jot<|jif rfl (jsr<|jpe (.agg #[vb false, vs []])<|jso .s 0 rfl rfl rfl<|jpc 1 rfl<|jot<|jxr<|jtr<|
  jrg' rfl (lC 0 (.agg #[vb false, vs []]) rfl rfl (lT rfl lN)) (fun _ k=>k) [] ⟨⟩)<|jsk<|jtn<|jsr<|jla 1 2 rfl rfl rfl<|jso .s 0 rfl rfl rfl<|jpc 1 rfl<|jot<|jxr<|
  jrg' rfl (lC 0 (.agg #[vb s1.2, vs s1.1]) rfl rfl (lT rfl lN)) (fun _ k=>k) [] ⟨⟩

theorem c_internal_stringslite_HasSuffix {qd : Prop} {y0 : Str} {y1 : Str} : Con qd Tryz.prog 130 [vs y0, vs y1] [] [] (m_internal_stringslite_HasSuffix y0 y1) fun r K=>K (vb r) [] [] :=
 ent3 Tryz.call130 Tryz.func130 rfl fun X=>jsr<|jpc 1 rfl<|jot<|jjn (fun s1 K=>K [(4, vb s1)] [] []) (jrg<|jpc 6 rfl<|jsg 10 rfl (jpc 6 rfl<|jbd fun x1 h1=>jv (fun h=>r_ssub h rfl Tryz.underlying9 rfl rfl (.inr ⟨_, rfl⟩) (.inl ⟨rfl, rfl⟩) h1)<|jpc 2 rfl<|jpe (vb (x1 == y1))<|
  jpc 1 rfl<|joe<|jnn (gv (fun _ k=>k) [] ⟨⟩))<|jpc 9 rfl<|jpe (vb false)<|jpc 1 rfl<|joe<|jnn (gv (fun _ k=>k) [] ⟨⟩))<|fun s1 _ k=>k<|jxr<|jr1 rfl rfl (fun _ k=>k) [] ⟨⟩

theorem c_internal_stringslite_CutSuffix {qd : Prop} {y0 : Str} {y1 : Str} : Con qd Tryz.prog 124 [vs y0, vs y1] [] [] (m_internal_stringslite_CutSuffix y0 y1) fun r K=>K (.tuple #[vs r.1, vb r.2]) [] [] :=
 ent3 Tryz.call124 Tryz.func124 rfl fun X=>jsr<|jpc 2 rfl<|jot<|jsq<|jsr<|jpc 2 rfl<|jcl c_internal_stringslite_HasSuffix rfl ⟨⟩<|fun r1 _ k=>k<|jpc 1 rfl<|jot<|jif rfl (jsr<|jpc 3 rfl<|jot<|jxr<|jtr<|jrg' rfl (lT rfl (lT rfl lN)) (fun _ k=>k) [] ⟨⟩)<|jsk<|jtn<|jsr<|jpc 6 rfl<|
  jbd fun x1 h1=>jv (fun h=>r_ssub h rfl Tryz.underlying9 rfl rfl (.inl ⟨rfl, rfl⟩) (.inr ⟨_, rfl⟩) h1)<|jpc 2 rfl<|jot<|jxr<|jrg' rfl (lT rfl (lT rfl lN)) (fun _ k=>k) [] ⟨⟩

theorem c_strings_CutSuffix {qd : Prop} {y0 : Str} {y1 : Str} : Con qd Tryz.prog 117 [vs y0, vs y1] [] [] (m_strings_CutSuffix y0 y1) fun r K=>K (.tuple #[vs r.1, vb r.2]) [] [] :=
 ent3 Tryz.call117 Tryz.func117 rfl fun X=>jsr<|jpc 2 rfl<|jot<|jsr<|jpc 2 rfl<|jcl c_internal_stringslite_CutSuffix rfl ⟨⟩<|fun r1 _ k=>k<|jpc 4 rfl<|jot<|jxr<|jrg' rfl (lT rfl (lT rfl lN)) (fun _ k=>k) [] ⟨⟩

theorem c_rulebase_words_literal {qd : Prop} {y0 : T_rulebase_words} {y1 : Str} : Con qd Tryz.prog 100 [pt b1 0, vs y1] [bx b1 77 [sv p1 y0.1 c1, vb y0.2]] [Rl eStr p1 c1 y0.1] (m_rulebase_words_literal y0 y1) fun r K=>∀ p2 c2,K (.agg #[vb r.1.1, vs r.1.2]) [bx b1 77 [sv p2 r.2.1 c2, vb r.2.2]] [Rl eStr p2 c2 r.2.1] :=
 ent3 Tryz.call100 Tryz.func100 rfl fun X=>jsr<|jal .s (.agg #[vb false, vs []])<|fun b2=>jot<|jsr<|jpc 1 rfl<|jca .s [0] [] c_rulebase_words_next rfl rfl rfl ⟨ck 0,⟨⟩⟩<|fun r1 _ k p2 c2=>k<|jpc 1 rfl<|jcl c_strings_CutSuffix rfl ⟨⟩<|fun r2 _ k=>k<|jpc 5 rfl<|jot<|jsr<|jpc 1 rfl<|
  jcl c_literal_Parse rfl ⟨⟩<|fun r3 _ k=>k<|jpc 3 rfl<|jal .s (.agg #[vb false, vs []])<|fun b3=>jso .s 2 rfl rfl rfl<|jpc 1 rfl<|jot<|
  jjn (fun s1 K=>K [(4, pt b2 0), (7, pt b3 0)] [bx b1 77 [sv p2 r1.2.1 c2, vb s1], bx b2 58 [vb false, vs []], bx b3 58 [vb r3.1.1, vs r3.1.2]] [Rl eStr p2 c2 r1.2.1]) (jrg<|jpc 3 rfl<|jfa 1 rfl<|jlo 0 rfl rfl rfl<|jpc 1 rfl<|jsg 26 rfl (
  jpc 2 rfl<|jpe (vb true)<|jpc 3 rfl<|jpe (vb true)<|jpc 1 rfl<|jfa 1 rfl<|jso .s 0 rfl rfl rfl<|joe<|jnn (gv (fun _ k=>k) [0,1,2] ⟨gk 0,⟨⟩⟩))<|jpc 2 rfl<|jpe (vb (!r2.2))<|jpc 1 rfl<|jsg 30 rfl (jpc 2 rfl<|jpe (vb true)<|jpc 1 rfl<|
  jfa 1 rfl<|jso .s 0 rfl rfl rfl<|joe<|jnn (gv (fun _ k=>k) [0,1,2] ⟨gk 0,⟨⟩⟩))<|jpc 2 rfl<|jpe (vb (r3.2 != 0))<|jpc 1 rfl<|jfa 1 rfl<|jso .s 0 rfl rfl rfl<|joe<|jnn (gv (fun _ k=>k) [0,1,2] ⟨gk 0,⟨⟩⟩))<|fun s1 _ k=>k<|jsr<|
  jla 2 2 rfl rfl rfl<|jso .s 1 rfl rfl rfl<|jot<|jxr<|jrg' rfl (lC 1 (.agg #[vb r3.1.1, vs r3.1.2]) rfl rfl lN) (fun _ k=>k p2 c2) [0] ⟨gk 0,⟨⟩⟩

theorem c_rulebase_words_name {qd : Prop} {y0 : T_rulebase_words} {y1 : Str} : Con qd Tryz.prog 102 [pt b1 0, vs y1] [bx b1 77 [sv p1 y0.1 c1, vb y0.2]] [Rl eStr p1 c1 y0.1] (m_rulebase_words_name y0 y1) fun r K=>∀ p2 c2,K (vs r.1) [bx b1 77 [sv p2 r.2.1 c2, vb r.2.2]] [Rl eStr p2 c2 r.2.1] :=
 ent3 Tryz.call102 Tryz.func102 rfl fun X=>jsr<|jpc 1 rfl<|jot<|jsr<|jpc 1 rfl<|jca .s [0] [] c_rulebase_words_next rfl rfl rfl ⟨ck 0,⟨⟩⟩<|fun r1 _ k p2 c2=>k<|jpc 1 rfl<|jcl c_strings_CutSuffix rfl ⟨⟩<|fun r2 _ k=>k<|jpc 5 rfl<|jot<|
  jjn (fun s1 K=>K [(5, vs r2.1)] [bx b1 77 [sv p2 r1.2.1 c2, vb s1]] [Rl eStr p2 c2 r1.2.1]) (jrg<|jpc 3 rfl<|jfa 1 rfl<|jlo 0 rfl rfl rfl<|jpc 1 rfl<|jsg 19 rfl (jpc 2 rfl<|jpe (vb true)<|jpc 4 rfl<|jpe (vb true)<|jpc 1 rfl<|jfa 1 rfl<|
  jso .s 0 rfl rfl rfl<|joe<|jnn (gv (fun _ k=>k) [0] ⟨gk 0,⟨⟩⟩))<|jpc 2 rfl<|jpe (vb (!r2.2))<|jpc 1 rfl<|jsg 23 rfl (jpc 3 rfl<|jpe (vb true)<|jpc 1 rfl<|jfa 1 rfl<|jso .s 0 rfl rfl rfl<|joe<|jnn (gv (fun _ k=>k) [0] ⟨gk 0,⟨⟩⟩))<|
  jpc 1 rfl<|jcl c_literal_ValidName rfl ⟨⟩<|fun r3 _ k=>k<|jpc 1 rfl<|jpe (vb (!r3))<|jpc 1 rfl<|jfa 1 rfl<|jso .s 0 rfl rfl rfl<|joe<|jnn (gv (fun _ k=>k) [0] ⟨gk 0,⟨⟩⟩))<|fun s1 _ k=>k<|jsr<|jpc 2 rfl<|jot<|jxr<|
  jr1 rfl rfl (fun _ k=>k p2 c2) [0] ⟨gk 0,⟨⟩⟩

theorem c_rulebase_words_rank {qd : Prop} {y0 : T_rulebase_words} {y1 : Str} : Con qd Tryz.prog 101 [pt b1 0, vs y1] [bx b1 77 [sv p1 y0.1 c1, vb y0.2]] [Rl eStr p1 c1 y0.1] (m_rulebase_words_rank y0 y1) fun r K=>∀ p2 c2,K (vi r.1) [bx b1 77 [sv p2 r.2.1 c2, vb r.2.2]] [Rl eStr p2 c2 r.2.1] :=
 ent3 Tryz.call101 Tryz.func101 rfl fun X=>jsr<|jpc 1 rfl<|jot<|jsr<|jpc 1 rfl<|jca .s [0] [] c_rulebase_words_next rfl rfl rfl ⟨ck 0,⟨⟩⟩<|fun r1 _ k p2 c2=>k<|jpc 1 rfl<|jcl c_strings_CutSuffix rfl ⟨⟩<|fun r2 _ k=>k<|jpc 5 rfl<|jot<|jsq<|
  jjn (fun s1 K=>K [(0, pt b1 0), (5, vs r2.1), (30, vb s1)] [bx b1 77 [sv p2 r1.2.1 c2, vb r1.2.2]] [Rl eStr p2 c2 r1.2.1]) (jrg<|jpc 3 rfl<|jsg 16 rfl (jpc 3 rfl<|jpe (vb true)<|jpc 4 rfl<|jpe (vb true)<|jpc 4 rfl<|jpe (vb true)<|joe<|
  jnn (gv (fun _ k=>k) [0] ⟨gk 0,⟨⟩⟩))<|jpc 3 rfl<|jpe (vb ((len r2.1) != 1))<|jpc 1 rfl<|jsg 21 rfl (jpc 3 rfl<|jpe (vb true)<|jpc 4 rfl<|jpe (vb true)<|joe<|jnn (gv (fun _ k=>k) [0] ⟨gk 0,⟨⟩⟩))<|jpc 1 rfl<|jbd fun x1 h1=>
  jv (fun h=>r_sidx h rfl rfl Tryz.underlying9 h1)<|jpc 1 rfl<|jpe (vb (decide (x1 < 48)))<|jpc 1 rfl<|jsg 26 rfl (jpc 3 rfl<|jpe (vb true)<|joe<|jnn (gv (fun _ k=>k) [0] ⟨gk 0,⟨⟩⟩))<|jpc 1 rfl<|jbd fun x2 h2=>
  jv (fun h=>r_sidx h rfl rfl Tryz.underlying9 h2)<|jpc 1 rfl<|jpe (vb (decide (57 < x2)))<|joe<|jnn (gv (fun _ k=>k) [0] ⟨gk 0,⟨⟩⟩))<|fun s1 _ k=>k<|jif rfl (jsr<|jpc 2 rfl<|jfa 1 rfl<|jso .s 0 rfl rfl rfl<|jot<|jsr<|jpc 1 rfl<|jot<|jxr<|
  jtr<|jr1 rfl rfl (fun _ k=>k p2 c2) [0] ⟨gk 0,⟨⟩⟩)<|jsk<|jtn<|jsr<|jpc 1 rfl<|jbd fun x3 h3=>jv (fun h=>r_sidx h rfl rfl Tryz.underlying9 h3)<|jpc 1 rfl<|jpe (vi (w64 (IntKind.u8.wrap (x3 - 48))))<|jpc 1 rfl<|jot<|jxr<|
  jr1 rfl rfl (fun _ k=>k p2 c2) [0] ⟨gk 0,⟨⟩⟩

theorem c_rulebase_words_premise {qd : Prop} {y0 : T_rulebase_words} {y1 : Int} : Con qd Tryz.prog 76 [pt b1 0, vi y1] [bx b1 77 [sv p1 y0.1 c1, vb y0.2]] [Rl eStr p1 c1 y0.1] (m_rulebase_words_premise y0 y1) fun r K=>∀ p2 c2,K (.agg #[vb r.1.1.1, vs r.1.1.2, vi r.1.2.1, vi r.1.2.2.1, vs r.1.2.2.2]) [bx b1 77 [sv p2 r.2.1 c2, vb r.2.2]] [Rl eStr p2 c2 r.2.1] :=
 ent3 Tryz.call76 Tryz.func76 rfl fun X=>jsr<|jal .s (.agg #[vb false, vs [], vi 0, vi 0, vs []])<|fun b2=>jot<|jsr<|jpc 2 rfl<|jca .s [0] [] c_rulebase_words_literal rfl rfl rfl ⟨ck 0,⟨⟩⟩<|fun r1 _ k p2 c2=>k<|jpe (.agg #[vb r1.1.1, vs r1.1.2, vi y1, vi 0, vs []])<|
  jal .s (.agg #[vb false, vs [], vi 0, vi 0, vs []])<|fun b3=>jso .s 2 rfl rfl rfl<|jot<|
  jjn (fun s1 K=>∀ p3 c3,K [(0, pt b1 0), (4, pt b2 0), (5, pt b3 0)] [bx b1 77 [sv p3 s1.1 c3, vb s1.2.1], bx b2 60 [vb false, vs [], vi 0, vi 0, vs []], bx b3 60 [vb r1.1.1, vs r1.1.2, vi y1, vi s1.2.2, vs []]] [Rl eStr p3 c3 s1.1]) (jsr<|
  jpc 2 rfl<|jot<|jif rfl (jrg<|jpc 1 rfl<|jca .s [0] [] c_rulebase_words_rank rfl rfl rfl ⟨ck 0,⟨⟩⟩<|fun r2 _ k p4 c4=>k<|jfa 3 rfl<|jso .s 2 rfl rfl rfl<|joe<|jnn (gv (fun _ k=>k p4 c4) [0,1,2] ⟨gk 0,⟨⟩⟩))<|jsk<|
  jnn (gv (fun _ k=>k p2 c2) [0,1,2] ⟨gk 0,⟨⟩⟩))<|fun s1 _ k p3 c3=>k<|
  jjn (fun s2 K=>∀ p5 c5,K [(4, pt b2 0), (5, pt b3 0)] [bx b1 77 [sv p5 s2.1 c5, vb s2.2.1], bx b2 60 [vb false, vs [], vi 0, vi 0, vs []], bx b3 60 [vb r1.1.1, vs r1.1.2, vi y1, vi s1.2.2, vs s2.2.2]] [Rl eStr p5 c5 s2.1]) (jsr<|jpc 2 rfl<|
  jfa 0 rfl<|jlo 0 rfl rfl rfl<|jpc 2 rfl<|jot<|jif rfl (
  jjn (fun s3 K=>∀ p6 c6,K [(0, pt b1 0), (4, pt b2 0), (5, pt b3 0)] [bx b1 77 [sv p6 s3.1 c6, vb s3.2], bx b2 60 [vb false, vs [], vi 0, vi 0, vs []], bx b3 60 [vb r1.1.1, vs r1.1.2, vi y1, vi s1.2.2, vs []]] [Rl eStr p6 c6 s3.1]) (jrg<|
  jpc 3 rfl<|jfa 1 rfl<|jlo 0 rfl rfl rfl<|jpc 1 rfl<|jsg 26 rfl (jpc 3 rfl<|jpe (vb true)<|jpc 1 rfl<|jfa 1 rfl<|jso .s 0 rfl rfl rfl<|joe<|jnn (gv (fun _ k=>k p3 c3) [0,1,2] ⟨gk 0,⟨⟩⟩))<|jpc 1 rfl<|
  jca .s [0] [] c_rulebase_words_next rfl rfl rfl ⟨ck 0,⟨⟩⟩<|fun r3 _ k p7 c7=>k<|jpc 1 rfl<|jpe (vb (!(r3.1 == [102, 114, 111, 109])))<|jpc 1 rfl<|jfa 1 rfl<|jso .s 0 rfl rfl rfl<|joe<|jnn (gv (fun _ k=>k p7 c7) [0,1,2] ⟨gk 0,⟨⟩⟩))<|
  fun s3 _ k p6 c6=>k<|jrg<|jpc 1 rfl<|jca .s [0] [] c_rulebase_words_name rfl rfl rfl ⟨ck 0,⟨⟩⟩<|fun r4 _ k p8 c8=>k<|jfa 4 rfl<|jso .s 2 rfl rfl rfl<|joe<|jnn (gv (fun _ k=>k p8 c8) [0,1,2] ⟨gk 0,⟨⟩⟩))<|jsk<|
  jnn (gv (fun _ k=>k p3 c3) [0,1,2] ⟨gk 0,⟨⟩⟩))<|fun s2 _ k p5 c5=>k<|jsr<|jla 2 5 rfl rfl rfl<|jso .s 1 rfl rfl rfl<|jot<|jxr<|
  jrg' rfl (lC 1 (.agg #[vb r1.1.1, vs r1.1.2, vi y1, vi s1.2.2, vs s2.2.2]) rfl rfl lN) (fun _ k=>k p5 c5) [0] ⟨gk 0,⟨⟩⟩

theorem c_rulebase_words_promotion {qd : Prop} {y0 : T_rulebase_words} : Con qd Tryz.prog 78 [pt b1 0] [bx b1 77 [sv p1 y0.1 c1, vb y0.2]] [Rl eStr p1 c1 y0.1] (m_rulebase_words_promotion y0) fun r K=>∀ p2 c2,K (.agg #[vs r.1.1, vi r.1.2.1, vb r.1.2.2.1, vs r.1.2.2.2]) [bx b1 77 [sv p2 r.2.1 c2, vb r.2.2]] [Rl eStr p2 c2 r.2.1] :=
 ent3 Tryz.call78 Tryz.func78 rfl fun X=>jsr<|jal .s (.agg #[vs [], vi 0, vb false, vs []])<|fun b2=>jot<|jsr<|jpc 1 rfl<|jca .s [0] [] c_rulebase_words_name rfl rfl rfl ⟨ck 0,⟨⟩⟩<|fun r1 _ k p2 c2=>k<|jpc 1 rfl<|jca .s [0] [] c_rulebase_words_rank rfl rfl rfl ⟨ck 0,⟨⟩⟩<|
  fun r2 _ k p3 c3=>k<|jpe (.agg #[vs r1.1, vi r2.1, vb false, vs []])<|jal .s (.agg #[vs [], vi 0, vb false, vs []])<|fun b3=>jso .s 2 rfl rfl rfl<|jot<|
  jjn (fun s1 K=>∀ p4 c4,K [(0, pt b1 0), (2, pt b2 0), (3, pt b3 0)] [bx b1 77 [sv p4 s1.1 c4, vb s1.2], bx b2 66 [vs [], vi 0, vb false, vs []], bx b3 66 [vs r1.1, vi r2.1, vb false, vs []]] [Rl eStr p4 c4 s1.1]) (jrg<|jpc 3 rfl<|
  jfa 1 rfl<|jlo 0 rfl rfl rfl<|jpc 1 rfl<|jsg 14 rfl (jpc 3 rfl<|jpe (vb true)<|jpc 1 rfl<|jfa 1 rfl<|jso .s 0 rfl rfl rfl<|joe<|jnn (gv (fun _ k=>k p3 c3) [0,1,2] ⟨gk 0,⟨⟩⟩))<|jpc 1 rfl<|
  jca .s [0] [] c_rulebase_words_next rfl rfl rfl ⟨ck 0,⟨⟩⟩<|fun r3 _ k p5 c5=>k<|jpc 1 rfl<|jpe (vb (!(r3.1 == [105, 102])))<|jpc 1 rfl<|jfa 1 rfl<|jso .s 0 rfl rfl rfl<|joe<|jnn (gv (fun _ k=>k p5 c5) [0,1,2] ⟨gk 0,⟨⟩⟩))<|fun s1 _ k p4 c4=>
  k<|jsr<|jpc 1 rfl<|jca .s [0] [] c_rulebase_words_literal rfl rfl rfl ⟨ck 0,⟨⟩⟩<|fun r4 _ k p6 c6=>k<|jfa 2 rfl<|jso .s 2 rfl rfl rfl<|jot<|jsr<|jla 2 4 rfl rfl rfl<|jso .s 1 rfl rfl rfl<|jot<|jxr<|
  jrg' rfl (lC 1 (.agg #[vs r1.1, vi r2.1, vb r4.1.1, vs r4.1.2]) rfl rfl lN) (fun _ k=>k p6 c6) [0] ⟨gk 0,⟨⟩⟩

theorem c_rulebase_words_rule {qd : Prop} {y0 : T_rulebase_words} {y1 : Bool} : Con qd Tryz.prog 77 [pt b1 0, vb y1] [bx b1 77 [sv p1 y0.1 c1, vb y0.2]] [Rl eStr p1 c1 y0.1] (m_rulebase_words_rule y0 y1) fun r K=>∀ p2 c2 p3 c3,K (.agg #[vs r.1.1, vb r.1.2.1, vi r.1.2.2.1, sv p2 r.1.2.2.2.1 c2, vb r.1.2.2.2.2.1, vs r.1.2.2.2.2.2]) [bx b1 77 [sv p3 r.2.1 c3, vb r.2.2]] [Rl e_Literal p2 c2 r.1.2.2.2.1, Rl eStr p3 c3 r.2.1] :=
 ent3 Tryz.call77 Tryz.func77 rfl fun X=>jsr<|jal .s (.agg #[vs [], vb false, vi 0, .slice none 0 0, vb false, vs []])<|fun b2=>jot<|jsr<|jpc 1 rfl<|jpe (.agg #[vs [], vb y1, vi 0, .slice none 0 0, vb false, vs []])<|jro e_Literal 58<|
  jal .s (.agg #[vs [], vb false, vi 0, .slice none 0 0, vb false, vs []])<|fun b3=>jso .s 3 rfl rfl rfl<|jot<|jsr<|jpc 1 rfl<|jot<|
  jjn (fun s1 K=>∀ p2 c2,K [(0, pt b1 0), (4, pt b2 0), (5, pt b3 0), (6, vs s1.1)] [bx b1 77 [sv p2 s1.2.1 c2, vb s1.2.2.1], bx b2 63 [vs [], vb false, vi 0, .slice none 0 0, vb false, vs []], [], bx b3 63 [vs s1.2.2.2.1, vb y1, vi s1.2.2.2.2, sv none ([] : List T_Literal) 0, vb false, vs []]] [Rl eStr p2 c2 s1.2.1, Al e_Literal 58 [] none 0 ([] : List T_Literal)]) (
  jsr<|jpc 1 rfl<|jot<|jif rfl (jrg<|jpc 1 rfl<|jca .s [0] [] c_rulebase_words_name rfl rfl rfl ⟨ck 1,⟨⟩⟩<|fun r1 _ k p3 c3=>k<|jfa 0 rfl<|jso .s 3 rfl rfl rfl<|joe<|jnn (gv (fun _ k=>k p3 c3) [0,1,2,3] ⟨gk 0,gk 1,⟨⟩⟩))<|jrg<|jpc 1 rfl<|
  jca .s [0] [] c_rulebase_words_name rfl rfl rfl ⟨ck 1,⟨⟩⟩<|fun r2 _ k p4 c4=>k<|jpc 1 rfl<|jca .s [0] [] c_rulebase_words_rank rfl rfl rfl ⟨ck 0,⟨⟩⟩<|fun r3 _ k p5 c5=>k<|jfa 0 rfl<|jso .s 3 rfl rfl rfl<|jfa 2 rfl<|jso .s 3 rfl rfl rfl<|
  jpc 1 rfl<|joe<|jnn (gv (fun _ k=>k p5 c5) [0,1,2,3] ⟨gk 0,gk 2,⟨⟩⟩))<|fun s1 _ k p2 c2=>k<|
  jjn (fun s2 K=>∀ p6 c6 p7 c7 r_1,K [(0, pt b1 0), (4, pt b2 0), (5, pt b3 0), (6, vs s1.1)] [bx b1 77 [sv p6 s2.1 c6, vb s2.2.1], bx b2 63 [vs [], vb false, vi 0, .slice none 0 0, vb false, vs []], r_1, bx b3 63 [vs s1.2.2.2.1, vb y1, vi s1.2.2.2.2, sv p7 s2.2.2 c7, vb false, vs []]] [Rl eStr p6 c6 s2.1, Al e_Literal 58 r_1 p7 c7 s2.2.2]) (
  jbk<|
  jlp (fun s3 K=>∀ p8 c8 p9 c9 r_2,K [(0, pt b1 0), (4, pt b2 0), (5, pt b3 0), (6, vs s1.1)] [bx b1 77 [sv p8 s3.1 c8, vb s3.2.1], bx b2 63 [vs [], vb false, vi 0, .slice none 0 0, vb false, vs []], r_2, bx b3 63 [vs s1.2.2.2.1, vb y1, vi s1.2.2.2.2, sv p9 s3.2.2 c9, vb false, vs []]] [Rl eStr p8 c8 s3.1, Al e_Literal 58 r_2 p9 c9 s3.2.2]) (gv (fun _ k=>k p2 c2 none 0 []) [0,1,2,3] ⟨gk 0,gk 1,⟨⟩⟩)<|
  fun s3 _ k p8 c8 p9 c9 r_2=>k<|jsq<|
  jjp (fun K=>K [(0, pt b1 0), (4, pt b2 0), (5, pt b3 0), (6, vs s1.1), (32, vb ((decide (2 < (len s3.1))) && (!s3.2.1)))] [bx b1 77 [sv p8 s3.1 c8, vb s3.2.1], bx b2 63 [vs [], vb false, vi 0, .slice none 0 0, vb false, vs []], r_2, bx b3 63 [vs s1.2.2.2.1, vb y1, vi s1.2.2.2.2, sv p9 s3.2.2 c9, vb false, vs []]] [Rl eStr p8 c8 s3.1, Al e_Literal 58 r_2 p9 c9 s3.2.2]) (
  jrg<|jpc 2 rfl<|jfa 0 rfl<|jlo 0 rfl rfl rfl<|jpc 3 rfl<|jsp (b := decide (2 < (len s3.1))) 26 rfl (fun hb1=>jpc 2 rfl<|jfa 1 rfl<|jlo 0 rfl rfl rfl<|jpc 1 rfl<|jpe (vb (!s3.2.1))<|joe<|
  jup 32 (vb ((decide (2 < (len s3.1))) && (!s3.2.1))) rfl (by rw [hb1]; rfl)<|jnn (gv (fun _ k=>k) [0,1,2,3] ⟨gk 0,gk 1,⟨⟩⟩))<|fun hb1=>jpc 5 rfl<|jpe (vb false)<|joe<|
  jup 32 (vb ((decide (2 < (len s3.1))) && (!s3.2.1))) rfl (by rw [hb1]; rfl)<|jnn (gv (fun _ k=>k) [0,1,2,3] ⟨gk 0,gk 1,⟨⟩⟩))<|fun _ k=>k<|jif rfl (jsk<|jtn<|jbk<|jsr<|jpc 1 rfl<|jot<|
  jjn (fun s4 K=>K [(0, pt b1 0), (4, pt b2 0), (5, pt b3 0), (6, vs s1.1), (7, vs s4)] [bx b1 77 [sv p8 s3.1 c8, vb s3.2.1], bx b2 63 [vs [], vb false, vi 0, .slice none 0 0, vb false, vs []], r_2, bx b3 63 [vs s1.2.2.2.1, vb y1, vi s1.2.2.2.2, sv p9 s3.2.2 c9, vb false, vs []]] [Rl eStr p8 c8 s3.1, Al e_Literal 58 r_2 p9 c9 s3.2.2]) (
  jsr<|jpc 2 rfl<|jfa 0 rfl<|jlo 0 rfl rfl rfl<|jpc 2 rfl<|jot<|jif rfl (jrg<|jpc 1 rfl<|joe<|jnn (gv (fun _ k=>k) [0,1,2,3] ⟨gk 0,gk 1,⟨⟩⟩))<|jsk<|jnn (gv (fun _ k=>k) [0,1,2,3] ⟨gk 0,gk 1,⟨⟩⟩))<|fun s4 _ k=>k<|jdS [8] [3] 9<|
  jdf 0 3 rfl rfl<|jdo 1 3 rfl rfl rfl rfl<|jdc 5 [2,3] rfl<|jd1 4<|jca (.f rfl) [0] [] c_rulebase_words_literal rfl rfl rfl ⟨ck 0,⟨⟩⟩<|fun r4 _ k p10 c10=>k<|jdn<|jd1 5<|
  jbs (.f rfl) (e := e_Literal) 58 [vb r4.1.1, vs r4.1.2] ([r4.1] : List T_Literal) (rC (vP vB vS) rN)<|fun p11 c11=>jdn<|jd1 6<|jar (.f rfl) 2 3 rfl (gk 0) rfl rfl<|fun x1 r_3 p12 c12=>jdn<|jdf 7 3 rfl rfl<|jd1 8<|
  jso (o := 3) (.f rfl) 3 rfl rfl rfl<|jdb [] [3]<|jde<|jbn<|jln (gv (fun _ k=>k p10 c10 p12 c12 r_3) [0,1,2,3] ⟨gk 2,gk 0,⟨⟩⟩))<|jxe<|jte<|jle<|jbh<|jnn (gv (fun _ k=>k p8 c8 p9 c9 r_2) [0,1,2,3] ⟨gk 0,gk 1,⟨⟩⟩))<|
  fun s2 _ k p6 c6 p7 c7 r_1=>k<|
  jjn (fun s5 K=>∀ p13 c13,K [(0, pt b1 0), (4, pt b2 0), (5, pt b3 0)] [bx b1 77 [sv p13 s5.1 c13, vb s5.2], bx b2 63 [vs [], vb false, vi 0, .slice none 0 0, vb false, vs []], r_1, bx b3 63 [vs s1.2.2.2.1, vb y1, vi s1.2.2.2.2, sv p7 s2.2.2 c7, vb false, vs []]] [Rl eStr p13 c13 s5.1, Al e_Literal 58 r_1 p7 c7 s2.2.2]) (
  jrg<|jpc 3 rfl<|jfa 1 rfl<|jlo 0 rfl rfl rfl<|jpc 1 rfl<|jsg 52 rfl (jpc 4 rfl<|jpe (vb true)<|jpc 1 rfl<|jfa 1 rfl<|jso .s 0 rfl rfl rfl<|joe<|jnn (gv (fun _ k=>k p6 c6) [0,1,2,3] ⟨gk 0,gk 1,⟨⟩⟩))<|jpc 1 rfl<|
  jca .s [0] [] c_rulebase_words_next rfl rfl rfl ⟨ck 0,⟨⟩⟩<|fun r5 _ k p14 c14=>k<|jpc 2 rfl<|jpe (vb (!(r5.1 == s1.1)))<|jpc 1 rfl<|jfa 1 rfl<|jso .s 0 rfl rfl rfl<|joe<|jnn (gv (fun _ k=>k p14 c14) [0,1,2,3] ⟨gk 0,gk 2,⟨⟩⟩))<|
  fun s5 _ k p13 c13=>k<|jsr<|jpc 1 rfl<|jca .s [0] [] c_rulebase_words_literal rfl rfl rfl ⟨ck 0,⟨⟩⟩<|fun r6 _ k p15 c15=>k<|jfa 4 rfl<|jso .s 3 rfl rfl rfl<|jot<|jsr<|jla 3 6 rfl rfl rfl<|jso .s 1 rfl rfl rfl<|jot<|jxr<|jsh 2 2 rfl rfl<|
  jrg' rfl (lC 1 (.agg #[vs s1.2.2.2.1, vb y1, vi s1.2.2.2.2, sv p7 s2.2.2 c7, vb r6.1.1, vs r6.1.2]) rfl rfl lN) (fun _ k=>k p7 c7 p15 c15) [0] ⟨gk 0,gk 1,⟨⟩⟩

theorem c_rulebase_words_add {y0 : T_rulebase_words} {y1 : T_Base} : Con False Tryz.prog 35 [pt b1 0, pt b2 0] [bx b1 77 [sv p1 y0.1 c1, vb y0.2], bx b2 32 [sv p2 y1.1 c2, sv p3 y1.2.1 c3, sv p4 y1.2.2 c4], r_1, r_2, r_3] [Rl eStr p1 c1 y0.1, Al e_Premise 60 r_1 p2 c2 y1.1, Al e_Rule 63 r_2 p3 c3 y1.2.1, Al e_Promotion 66 r_3 p4 c4 y1.2.2, Pt (eArr 4 eStr) 1 0 tab_rulebase_kinds] (m_rulebase_words_add y0 y1) fun r K=>∀ p5 c5 p6 c6 r_4 p7 c7 r_5 p8 c8 r_6,K (.tuple #[vi r.1, vs r.2.1]) [bx b1 77 [sv p5 r.2.2.1 c5, vb r.2.2.2.1], bx b2 32 [sv p6 r.2.2.2.2.1 c6, sv p7 r.2.2.2.2.2.1 c7, sv p8 r.2.2.2.2.2.2 c8], r_4, r_5, r_6] [Rl eStr p5 c5 r.2.2.1, Al e_Premise 60 r_4 p6 c6 r.2.2.2.2.1, Al e_Rule 63 r_5 p7 c7 r.2.2.2.2.2.1, Al e_Promotion 66 r_6 p8 c8 r.2.2.2.2.2.2] :=
 ent3 Tryz.call35 Tryz.func35 rfl fun X=>jsr<|jpc 2 rfl<|jot<|jsq<|jsr<|jpc 1 rfl<|jca .s [0] [] c_rulebase_words_next rfl rfl rfl ⟨ck 0,⟨⟩⟩<|fun r1 _ k p5 c5=>k<|jpc 1 rfl<|jot<|jsr<|jpc 1 rfl<|jot<|jbk<|
  jjn (fun s1 K=>K [(0, pt b1 0), (1, pt b2 0), (6, vs r1.1), (15, vs r1.1), (16, vb s1)] [bx b1 77 [sv p5 r1.2.1 c5, vb r1.2.2], bx b2 32 [sv p2 y1.1 c2, sv p3 y1.2.1 c3, sv p4 y1.2.2 c4], r_1, r_2, r_3] [Rl eStr p5 c5 r1.2.1, Al e_Premise 60 r_1 p2 c2 y1.1, Al e_Rule 63 r_2 p3 c3 y1.2.1, Al e_Promotion 66 r_3 p4 c4 y1.2.2, Pt (eArr 4 eStr) 1 0 tab_rulebase_kinds]) (
  jsr<|jpc 2 rfl<|jot<|jif rfl (jsk<|jnn (gv (fun _ k=>k) [0,1,2,3,4] ⟨gk 0,gk 2,gk 3,gk 4,gk 5,⟨⟩⟩))<|jsr<|jpc 2 rfl<|jot<|jif rfl (jsk<|jnn (gv (fun _ k=>k) [0,1,2,3,4] ⟨gk 0,gk 2,gk 3,gk 4,gk 5,⟨⟩⟩))<|jrg<|jpc 2 rfl<|joe<|
  jnn (gv (fun _ k=>k) [0,1,2,3,4] ⟨gk 0,gk 2,gk 3,gk 4,gk 5,⟨⟩⟩))<|fun s1 _ k=>k<|jif rfl (jsr<|jpc 1 rfl<|jot<|
  jjn (fun s2 K=>K [(0, pt b1 0), (1, pt b2 0), (7, vi s2)] [bx b1 77 [sv p5 r1.2.1 c5, vb r1.2.2], bx b2 32 [sv p2 y1.1 c2, sv p3 y1.2.1 c3, sv p4 y1.2.2 c4], r_1, r_2, r_3] [Rl eStr p5 c5 r1.2.1, Al e_Premise 60 r_1 p2 c2 y1.1, Al e_Rule 63 r_2 p3 c3 y1.2.1, Al e_Promotion 66 r_3 p4 c4 y1.2.2, Pt (eArr 4 eStr) 1 0 tab_rulebase_kinds]) (
  jsr<|jlT (vs) (fun _ _ _ _ h=>h) (gk 4) rfl<|jpc 1 rfl<|jot<|jbk<|
  jlp (fun s3 K=>K [(0, pt b1 0), (1, pt b2 0), (6, vs r1.1), (7, vi s3.1), (20, .agg (List.map (vs) tab_rulebase_kinds).toArray), (21, vi s3.2)] [bx b1 77 [sv p5 r1.2.1 c5, vb r1.2.2], bx b2 32 [sv p2 y1.1 c2, sv p3 y1.2.1 c3, sv p4 y1.2.2 c4], r_1, r_2, r_3] [Rl eStr p5 c5 r1.2.1, Al e_Premise 60 r_1 p2 c2 y1.1, Al e_Rule 63 r_2 p3 c3 y1.2.1, Al e_Promotion 66 r_3 p4 c4 y1.2.2, Pt (eArr 4 eStr) 1 0 tab_rulebase_kinds]) (gv (fun _ k=>k) [0,1,2,3,4] ⟨gk 0,gk 1,gk 2,gk 3,gk 4,⟨⟩⟩)<|
  fun s3 _ k=>k<|jsr<|jpc 1 rfl<|jot<|jsq<|jif rfl (jsk<|jtn<|jsq<|jbk<|jsr<|jpc 1 rfl<|jbd fun x1 h1=>jv (fun h=>r_aidx (l := tab_rulebase_kinds) (vs) h rfl rfl rfl Tryz.underlying114 rfl (by kernel_rfl) h1)<|jpc 2 rfl<|jot<|jsr<|jpc 3 rfl<|
  jot<|jif rfl (jrg<|jpc 2 rfl<|joe<|jbn<|jtn<|jrg<|jpc 2 rfl<|joe<|jln (gv (fun _ k=>k) [0,1,2,3,4] ⟨gk 0,gk 1,gk 2,gk 3,gk 4,⟨⟩⟩))<|jsk<|jbn<|jtn<|jrg<|jpc 2 rfl<|joe<|jln (gv (fun _ k=>k) [0,1,2,3,4] ⟨gk 0,gk 1,gk 2,gk 3,gk 4,⟨⟩⟩))<|jxe<|
  jte<|jle<|jbh<|jnn (gv (fun _ k=>k) [0,1,2,3,4] ⟨gk 0,gk 1,gk 2,gk 3,gk 4,⟨⟩⟩))<|fun s2 _ k=>k<|jsr<|jpc 2 rfl<|jca .s [0] [] c_rulebase_words_premise rfl rfl rfl ⟨ck 0,⟨⟩⟩<|fun r2 _ k p6 c6=>k<|
  jal .s (.agg #[vb false, vs [], vi 0, vi 0, vs []])<|fun b3=>jso .s 5 rfl rfl rfl<|jot<|jds [10] [1, 5] 11<|jdc 8 [0,1,2] rfl<|jdf 3 0 rfl rfl<|jdo 4 1 rfl rfl rfl rfl<|jda 5 5 5 rfl rfl rfl rfl<|jd1 6<|
  jbs (.f rfl) (e := e_Premise) 60 [vb r2.1.1.1, vs r2.1.1.2, vi r2.1.2.1, vi r2.1.2.2.1, vs r2.1.2.2.2] ([r2.1] : List T_Premise) (rC (vP (vP vB vS) (vP vI (vP vI vS))) rN)<|fun p7 c7=>jdn<|jd1 7<|jar (.f rfl) 2 3 rfl (gk 0) rfl rfl<|
  fun x2 r_4 p8 c8=>jdn<|jdc 2 [8] rfl<|jdf 9 0 rfl rfl<|jd1 10<|jso (o := 0) (.f rfl) 1 rfl rfl rfl<|jdb [] [1, 5]<|jde<|jtn<|jsr<|jla 5 5 rfl rfl rfl<|jcl c_rulebase_premiseLine rfl ⟨ck 7,⟨⟩⟩<|fun r3 _ k=>k<|jpc 2 rfl<|jot<|jxr<|jbr<|jtr<|
  jrg' rfl (lT rfl (lT rfl lN)) (fun _ k=>k p6 c6 p8 c8 r_4 p3 c3 r_2 p4 c4 r_3) [0,1,2,3,4] ⟨gk 2,gk 0,gk 5,gk 6,⟨⟩⟩)<|
  jjn (fun s4 K=>K [(0, pt b1 0), (1, pt b2 0), (6, vs r1.1), (15, vs r1.1), (45, vb s4)] [bx b1 77 [sv p5 r1.2.1 c5, vb r1.2.2], bx b2 32 [sv p2 y1.1 c2, sv p3 y1.2.1 c3, sv p4 y1.2.2 c4], r_1, r_2, r_3] [Rl eStr p5 c5 r1.2.1, Al e_Premise 60 r_1 p2 c2 y1.1, Al e_Rule 63 r_2 p3 c3 y1.2.1, Al e_Promotion 66 r_3 p4 c4 y1.2.2, Pt (eArr 4 eStr) 1 0 tab_rulebase_kinds]) (
  jsr<|jpc 2 rfl<|jot<|jif rfl (jsk<|jnn (gv (fun _ k=>k) [0,1,2,3,4] ⟨gk 0,gk 1,gk 2,gk 3,gk 4,⟨⟩⟩))<|jrg<|jpc 2 rfl<|joe<|jnn (gv (fun _ k=>k) [0,1,2,3,4] ⟨gk 0,gk 1,gk 2,gk 3,gk 4,⟨⟩⟩))<|fun s4 _ k=>k<|jif rfl (jsr<|jpc 3 rfl<|
  jca .s [0] [] c_rulebase_words_rule rfl rfl rfl ⟨ck 0,⟨⟩⟩<|fun r4 _ k p9 c9 p10 c10=>k<|jal .s (.agg #[vs [], vb false, vi 0, .slice none 0 0, vb false, vs []])<|fun b4=>jso .s 5 rfl rfl rfl<|jot<|jds [10] [1, 5] 11<|jdc 8 [0,1,2] rfl<|
  jdf 3 1 rfl rfl<|jdo 4 1 rfl rfl rfl rfl<|jda 5 5 6 rfl rfl rfl rfl<|jd1 6<|
  jbs (.f rfl) (e := e_Rule) 63 [vs r4.1.1, vb r4.1.2.1, vi r4.1.2.2.1, sv p9 r4.1.2.2.2.1 c9, vb r4.1.2.2.2.2.1, vs r4.1.2.2.2.2.2] ([r4.1] : List T_Rule) (rC (vP vS (vP vB (vP vI (vP (vL (gk 0)) (vP vB vS))))) rN)<|fun p11 c11=>jdn<|jd1 7<|
  jar (.f rfl) 3 5 rfl (gk 0) rfl rfl<|fun x3 r_5 p12 c12=>jdn<|jdc 2 [8] rfl<|jdf 9 1 rfl rfl<|jd1 10<|jso (o := 1) (.f rfl) 1 rfl rfl rfl<|jdb [] [1, 5]<|jde<|jtn<|jsr<|jla 5 6 rfl rfl rfl<|jcl c_rulebase_ruleLine rfl ⟨ck 2,⟨⟩⟩<|
  fun r5 _ k=>k<|jpc 2 rfl<|jot<|jxr<|jbr<|jtr<|jrg' rfl (lT rfl (lT rfl lN)) (fun _ k=>k p10 c10 p2 c2 r_1 p12 c12 r_5 p4 c4 r_3) [0,1,2,3,4] ⟨gk 3,gk 5,gk 0,gk 7,⟨⟩⟩)<|jsr<|jpc 2 rfl<|jot<|jif rfl (jsr<|jpc 1 rfl<|
  jca .s [0] [] c_rulebase_words_promotion rfl rfl rfl ⟨ck 0,⟨⟩⟩<|fun r6 _ k p13 c13=>k<|jal .s (.agg #[vs [], vi 0, vb false, vs []])<|fun b5=>jso .s 5 rfl rfl rfl<|jot<|jds [10] [1, 5] 11<|jdc 8 [0,1,2] rfl<|jdf 3 2 rfl rfl<|
  jdo 4 1 rfl rfl rfl rfl<|jda 5 5 4 rfl rfl rfl rfl<|jd1 6<|jbs (.f rfl) (e := e_Promotion) 66 [vs r6.1.1, vi r6.1.2.1, vb r6.1.2.2.1, vs r6.1.2.2.2] ([r6.1] : List T_Promotion) (rC (vP vS (vP vI (vP vB vS))) rN)<|fun p14 c14=>jdn<|jd1 7<|
  jar (.f rfl) 4 5 rfl (gk 0) rfl rfl<|fun x4 r_6 p15 c15=>jdn<|jdc 2 [8] rfl<|jdf 9 2 rfl rfl<|jd1 10<|jso (o := 2) (.f rfl) 1 rfl rfl rfl<|jdb [] [1, 5]<|jde<|jtn<|jsr<|jla 5 4 rfl rfl rfl<|jcl c_rulebase_promotionLine rfl ⟨⟩<|fun r7 _ k=>
  k<|jpc 2 rfl<|jot<|jxr<|jbr<|jtr<|jrg' rfl (lT rfl (lT rfl lN)) (fun _ k=>k p13 c13 p2 c2 r_1 p3 c3 r_2 p15 c15 r_6) [0,1,2,3,4] ⟨gk 2,gk 4,gk 5,gk 0,⟨⟩⟩)<|jsk<|jbn<|jtn<|jsr<|jpc 2 rfl<|jot<|jxr<|
  jrg' rfl (lT rfl (lT rfl lN)) (fun _ k=>k p5 c5 p2 c2 r_1 p3 c3 r_2 p4 c4 r_3) [0,1,2,3,4] ⟨gk 0,gk 1,gk 2,gk 3,⟨⟩⟩

theorem c_internal_stringslite_Index {qd : Prop} {y0 : Str} {y1 : Str} : Con qd Tryz.prog 98 [vs y0, vs y1] [] [] (m_internal_stringslite_Index y0 y1) fun r K=>K (vi r) [] [] := lib_index1 Go.Proofs.Tryz.lays219 Tryz.call98

theorem c_internal_stringslite_Cut {qd : Prop} {y0 : Str} {y1 : Str} : Con qd Tryz.prog 72 [vs y0, vs y1] [] [] (m_internal_stringslite_Cut y0 y1) fun r K=>K (.tuple #[vs r.1, vs r.2.1, vb r.2.2]) [] [] :=
 ent3 Tryz.call72 Tryz.func72 rfl fun X=>jsr<|jpc 3 rfl<|jot<|jsq<|jsr<|jpc 2 rfl<|jcl c_internal_stringslite_Index rfl ⟨⟩<|fun r1 _ k=>k<|jpc 1 rfl<|jot<|jsr<|jpc 2 rfl<|jot<|jif rfl (jds [] [] 12<|jdc 10 [0,1] rfl<|jbd fun x1 h1=>
  jdv 2 rfl (fun h=>r_ssub h rfl Tryz.underlying9 rfl rfl (.inl ⟨rfl, rfl⟩) (.inr ⟨_, rfl⟩) h1)<|jdc 4 [3,4,5,6,7] rfl<|jbd fun x2 h2=>jdv 8 rfl (fun h=>r_ssub h rfl Tryz.underlying9 rfl rfl (.inr ⟨_, rfl⟩) (.inl ⟨rfl, rfl⟩) h2)<|
  jdc 0 [9,10,11] rfl<|jde<|jtn<|jxr<|jtr<|jrg' rfl (lT rfl (lT rfl (lT rfl lN))) (fun _ k=>k) [] ⟨⟩)<|jsk<|jtn<|jsr<|jpc 4 rfl<|jot<|jxr<|jrg' rfl (lT rfl (lT rfl (lT rfl lN))) (fun _ k=>k) [] ⟨⟩

theorem c_strings_Cut {qd : Prop} {y0 : Str} {y1 : Str} : Con qd Tryz.prog 33 [vs y0, vs y1] [] [] (m_strings_Cut y0 y1) fun r K=>K (.tuple #[vs r.1, vs r.2.1, vb r.2.2]) [] [] :=
 ent3 Tryz.call33 Tryz.func33 rfl fun X=>jsr<|jpc 3 rfl<|jot<|jsr<|jpc 2 rfl<|jcl c_internal_stringslite_Cut rfl ⟨⟩<|fun r1 _ k=>k<|jpc 6 rfl<|jot<|jxr<|jrg' rfl (lT rfl (lT rfl (lT rfl lN))) (fun _ k=>k) [] ⟨⟩

theorem c_strings_Fields {y0 : Str} : Con False Tryz.prog 34 [vs y0] [] [Tb Tryz.prog "strings.asciiSpace" .u8 Lib.asciiSpaceTab, Wt 2] (m_strings_Fields y0) fun r K=>∀ p1 c1,K (sv p1 r c1) [] [Rl eStr p1 c1 r] := lib_fields Go.Proofs.Tryz.lays157 (by kernel_rfl) (by kernel_rfl) (by kernel_rfl) Tryz.call34

theorem c_rulebase_Parse {y0 : Str} : Con False Tryz.prog 12 [vs y0] [] [Tb Tryz.prog "strings.asciiSpace" .u8 Lib.asciiSpaceTab, Pt (eArr 4 eStr) 1 0 tab_rulebase_kinds, Wt 2] (m_rulebase_Parse y0) fun r K=>∀ p1 c1 p2 c2 p3 c3,K (.tuple #[.agg #[sv p1 r.1.1 c1, sv p2 r.1.2.1 c2, sv p3 r.1.2.2 c3], vi r.2.1, vi r.2.2]) [] [Rl e_Premise p1 c1 r.1.1, Rl e_Rule p2 c2 r.1.2.1, Rl e_Promotion p3 c3 r.1.2.2] :=
 ent3 Tryz.call12 Tryz.func12 rfl fun X=>jsr<|jal .s (.agg #[.slice none 0 0, .slice none 0 0, .slice none 0 0])<|fun b1=>jpc 2 rfl<|jot<|jsq<|jsr<|jpc 3 rfl<|jot<|jif rfl (jsr<|jpe (.agg #[.slice none 0 0, .slice none 0 0, .slice none 0 0])<|jso .s 0 rfl rfl rfl<|jpc 2 rfl<|jot<|
  jxr<|jtr<|jrg' rfl (lC 0 (.agg #[.slice none 0 0, .slice none 0 0, .slice none 0 0]) rfl rfl (lT rfl (lT rfl lN))) (fun _ k=>k none 0 none 0 none 0) [] ⟨gn,gn,gn,⟨⟩⟩)<|jsk<|jtn<|jsr<|
  jal .s (.agg #[.slice none 0 0, .slice none 0 0, .slice none 0 0])<|fun b2=>jro e_Premise 60<|jro e_Rule 63<|jro e_Promotion 66<|jot<|jsr<|jpc 1 rfl<|jot<|
  jjo (fun s1 K=>∀ p1 c1 r_1 p2 c2 r_2 p3 c3 r_3,K [(2, pt b1 0), (5, pt b2 0)] [bx b1 32 [.slice none 0 0, .slice none 0 0, .slice none 0 0], bx b2 32 [sv p1 s1.1 c1, sv p2 s1.2.1 c2, sv p3 s1.2.2 c3], r_1, r_2, r_3] [Al e_Premise 60 r_1 p1 c1 s1.1, Al e_Rule 63 r_2 p2 c2 s1.2.1, Al e_Promotion 66 r_3 p3 c3 s1.2.2, Tb Tryz.prog "strings.asciiSpace" .u8 Lib.asciiSpaceTab, Pt (eArr 4 eStr) 1 0 tab_rulebase_kinds, Wt 2]) (
  jsr<|jpc 1 rfl<|jot<|jbk<|
  jlp (fun s2 K=>∀ p4 c4 r_4 p5 c5 r_5 p6 c6 r_6,K [(0, vs s2.1), (2, pt b1 0), (5, pt b2 0), (6, vi s2.2.1), (7, vi s2.2.2.1)] [bx b1 32 [.slice none 0 0, .slice none 0 0, .slice none 0 0], bx b2 32 [sv p4 s2.2.2.2.1 c4, sv p5 s2.2.2.2.2.1 c5, sv p6 s2.2.2.2.2.2 c6], r_4, r_5, r_6] [Al e_Premise 60 r_4 p4 c4 s2.2.2.2.1, Al e_Rule 63 r_5 p5 c5 s2.2.2.2.2.1, Al e_Promotion 66 r_6 p6 c6 s2.2.2.2.2.2, Tb Tryz.prog "strings.asciiSpace" .u8 Lib.asciiSpaceTab, Pt (eArr 4 eStr) 1 0 tab_rulebase_kinds, Wt 2]) (gv (fun _ k=>k none 0 [] none 0 [] none 0 []) [0,1,2,3,4] ⟨gk 2,gk 1,gk 0,gk 3,gk 4,gk 5,⟨⟩⟩)<|
  fun s2 _ k p4 c4 r_4 p5 c5 r_5 p6 c6 r_6=>k<|jsq<|jsr<|jpc 2 rfl<|jot<|jif rfl (jsk<|jtn<|jsq<|jbk<|jsr<|jpc 1 rfl<|jcl c_strings_Cut rfl ⟨⟩<|fun r1 _ k=>k<|jpc 7 rfl<|jot<|jsr<|jpc 1 rfl<|jcl c_strings_Fields rfl ⟨ck 3,ck 5,⟨⟩⟩<|
  fun r2 _ k p7 c7=>k<|jpe (.agg #[sv p7 r2 c7, vb false])<|jbx .s rfl<|fun b3=>jpc 1 rfl<|jot<|jsr<|jpc 1 rfl<|jca .s [5, 1, 2, 3, 4] [] c_rulebase_words_add rfl rfl rfl ⟨ck 0,ck 1,ck 2,ck 3,ck 5,⟨⟩⟩<|
  fun r3 _ k p8 c8 p9 c9 r_7 p10 c10 r_8 p11 c11 r_9=>k<|jpc 5 rfl<|jot<|jsq<|
  jjp (fun K=>K [(2, pt b1 0), (5, pt b2 0), (7, vi s2.2.2.1), (9, vs r1.2.1), (12, vi r3.1), (63, vb ((!r1.2.2) || (r3.2.2.2.1 || ((decide (0 < (len r3.2.2.1))) || ((!(r3.2.1 == r1.1)) || (decide (r3.1 < s2.2.1)))))))] [bx b1 32 [.slice none 0 0, .slice none 0 0, .slice none 0 0], bx b2 32 [sv p9 r3.2.2.2.2.1 c9, sv p10 r3.2.2.2.2.2.1 c10, sv p11 r3.2.2.2.2.2.2 c11], r_7, r_8, r_9, []] [Al e_Premise 60 r_7 p9 c9 r3.2.2.2.2.1, Al e_Rule 63 r_8 p10 c10 r3.2.2.2.2.2.1, Al e_Promotion 66 r_9 p11 c11 r3.2.2.2.2.2.2, Tb Tryz.prog "strings.asciiSpace" .u8 Lib.asciiSpaceTab, Pt (eArr 4 eStr) 1 0 tab_rulebase_kinds, Wt 2]) (
  jrg<|jpc 3 rfl<|jsp (b := !r1.2.2) 40 rfl (fun hb1=>jpc 4 rfl<|jpe (vb true)<|jpc 7 rfl<|jpe (vb true)<|jpc 4 rfl<|jpe (vb true)<|jpc 4 rfl<|jpe (vb true)<|joe<|
  jup 63 (vb ((!r1.2.2) || (r3.2.2.2.1 || ((decide (0 < (len r3.2.2.1))) || ((!(r3.2.1 == r1.1)) || (decide (r3.1 < s2.2.1))))))) rfl (by rw [hb1]; rfl)<|jnn (gv (fun _ k=>k) [0,1,2,3,4,905] ⟨gk 1,gk 2,gk 3,gk 8,gk 9,gk 10,⟨⟩⟩))<|fun hb1=>
  jpc 2 rfl<|jfa 1 rfl<|jlo 5 rfl rfl rfl<|jpe (vb r3.2.2.2.1)<|jpc 1 rfl<|jsp (b := r3.2.2.2.1) 46 rfl (fun hb2=>jpc 6 rfl<|jpe (vb true)<|jpc 4 rfl<|jpe (vb true)<|jpc 4 rfl<|jpe (vb true)<|joe<|
  jup 63 (vb ((!r1.2.2) || (r3.2.2.2.1 || ((decide (0 < (len r3.2.2.1))) || ((!(r3.2.1 == r1.1)) || (decide (r3.1 < s2.2.1))))))) rfl (by rw [hb1,hb2]; rfl)<|jnn (gv (fun _ k=>k) [0,1,2,3,4,905] ⟨gk 1,gk 2,gk 3,gk 8,gk 9,gk 10,⟨⟩⟩)
  )<|fun hb2=>jpc 2 rfl<|jfa 0 rfl<|jlo 5 rfl rfl rfl<|jpc 2 rfl<|jpe (vb (decide (0 < (len r3.2.2.1))))<|jpc 1 rfl<|jsp (b := decide (0 < (len r3.2.2.1))) 54 rfl (fun hb3=>jpc 3 rfl<|jpe (vb true)<|jpc 4 rfl<|jpe (vb true)<|joe<|
  jup 63 (vb ((!r1.2.2) || (r3.2.2.2.1 || ((decide (0 < (len r3.2.2.1))) || ((!(r3.2.1 == r1.1)) || (decide (r3.1 < s2.2.1))))))) rfl (by rw [hb1,hb2,hb3]; rfl)<|jnn (gv (fun _ k=>k) [0,1,2,3,4,905] ⟨gk 1,gk 2,gk 3,gk 8,gk 9,gk 10,⟨⟩⟩)
  )<|fun hb3=>jpc 3 rfl<|jpe (vb (!(r3.2.1 == r1.1)))<|jpc 1 rfl<|jsp (b := !(r3.2.1 == r1.1)) 59 rfl (fun hb4=>jpc 3 rfl<|jpe (vb true)<|joe<|
  jup 63 (vb ((!r1.2.2) || (r3.2.2.2.1 || ((decide (0 < (len r3.2.2.1))) || ((!(r3.2.1 == r1.1)) || (decide (r3.1 < s2.2.1))))))) rfl (by rw [hb1,hb2,hb3,hb4]; rfl)<|jnn (gv (fun _ k=>k) [0,1,2,3,4,905] ⟨gk 1,gk 2,gk 3,gk 8,gk 9,gk 10,⟨⟩⟩)
  )<|fun hb4=>jpc 3 rfl<|jpe (vb (decide (r3.1 < s2.2.1)))<|joe<|jup 63 (vb ((!r1.2.2) || (r3.2.2.2.1 || ((decide (0 < (len r3.2.2.1))) || ((!(r3.2.1 == r1.1)) || (decide (r3.1 < s2.2.1))))))) rfl (by rw [hb1,hb2,hb3,hb4]; rfl)<|
  jnn (gv (fun _ k=>k) [0,1,2,3,4,905] ⟨gk 1,gk 2,gk 3,gk 8,gk 9,gk 10,⟨⟩⟩))<|fun _ k=>k<|jif rfl (jsr<|jpe (.agg #[.slice none 0 0, .slice none 0 0, .slice none 0 0])<|jpc 1 rfl<|jso .s 0 rfl rfl rfl<|jpc 2 rfl<|jot<|jxr<|jtr<|jbr<|jtr<|
  jlr<|jbr<|jlr<|jrg' rfl (lC 0 (.agg #[.slice none 0 0, .slice none 0 0, .slice none 0 0]) rfl rfl (lT rfl (lT rfl lN))) (fun _ k=>k none 0 none 0 none 0) [] ⟨gn,gn,gn,⟨⟩⟩)<|jsk<|jtn<|jrg<|jpc 4 rfl<|joe<|jbn<|jtn<|jrg<|jpc 3 rfl<|joe<|
  jln (gv (fun _ k=>k p9 c9 r_7 p10 c10 r_8 p11 c11 r_9) [0,1,2,3,4] ⟨gk 0,gk 1,gk 2,gk 3,gk 4,gk 5,⟨⟩⟩))<|jxe<|jte<|jle<|jbh<|jln (gv (fun _ k=>k p4 c4 r_4 p5 c5 r_5 p6 c6 r_6) [0,1,2,3,4] ⟨gk 0,gk 1,gk 2,gk 3,gk 4,gk 5,⟨⟩⟩))<|
  fun s1 _ k p1 c1 r_1 p2 c2 r_2 p3 c3 r_3=>k<|jsq<|jsr<|jla 1 3 rfl rfl rfl<|jca .s [] [2, 3, 4] c_rulebase_Validate rfl rfl rfl ⟨cl 2 0,cl 3 1,cl 4 2,⟨⟩⟩<|fun r4 _ k=>k<|jpc 1 rfl<|jot<|jsr<|jpc 2 rfl<|jot<|jif rfl (jsr<|
  jpe (.agg #[.slice none 0 0, .slice none 0 0, .slice none 0 0])<|jpc 1 rfl<|jso .s 0 rfl rfl rfl<|jpc 2 rfl<|jot<|jxr<|jtr<|
  jrg' rfl (lC 0 (.agg #[.slice none 0 0, .slice none 0 0, .slice none 0 0]) rfl rfl (lT rfl (lT rfl lN))) (fun _ k=>k none 0 none 0 none 0) [] ⟨gn,gn,gn,⟨⟩⟩)<|jsk<|jtn<|jsr<|jla 1 3 rfl rfl rfl<|jso .s 0 rfl rfl rfl<|jpc 2 rfl<|jot<|jxr<|
  jsh 2 0 rfl rfl<|jsh 3 2 rfl rfl<|jsh 4 4 rfl rfl<|jrg' rfl (lC 0 (.agg #[sv p1 s1.1 c1, sv p2 s1.2.1 c2, sv p3 s1.2.2 c3]) rfl rfl (lT rfl (lT rfl lN))) (fun _ k=>k p1 c1 p2 c2 p3 c3) [] ⟨gk 2,gk 1,gk 0,⟨⟩⟩

theorem c_law05_awake : Con False Tryz.prog 15 [] [] [Tb Tryz.prog "strings.asciiSpace" .u8 Lib.asciiSpaceTab, Pt (eArr 4 eStr) 1 0 tab_rulebase_kinds, Wt 2] (m_law05_awake) fun r K=>K (vb r) [] [] :=
 ent3 Tryz.call15 Tryz.func15 rfl fun X=>jsr<|jpc 1 rfl<|jot<|jsr<|jcl c_rulebase_Parse rfl ⟨ck 0,ck 1,ck 2,⟨⟩⟩<|fun r1 _ k p1 c1 p2 c2 p3 c3=>k<|jpc 4 rfl<|jal .s (.agg #[.slice none 0 0, .slice none 0 0, .slice none 0 0])<|fun b1=>jso .s 0 rfl rfl rfl<|jpc 2 rfl<|jot<|jsr<|
  jla 0 3 rfl rfl rfl<|jcl c_rulebase_Format rfl ⟨ck 0,ck 1,ck 2,ck 4,⟨⟩⟩<|fun r2 _ k=>k<|jpc 5 rfl<|jot<|jsr<|jcl c_rulebase_Parse rfl ⟨ck 3,ck 4,ck 5,⟨⟩⟩<|fun r3 _ k p4 c4 p5 c5 p6 c6=>k<|jpc 4 rfl<|
  jal .s (.agg #[.slice none 0 0, .slice none 0 0, .slice none 0 0])<|fun b2=>jso .s 1 rfl rfl rfl<|jpc 2 rfl<|jot<|jsr<|jcl c_rulebase_Parse rfl ⟨ck 6,ck 7,ck 8,⟨⟩⟩<|fun r4 _ k p7 c7 p8 c8 p9 c9=>k<|jpc 4 rfl<|
  jal .s (.agg #[.slice none 0 0, .slice none 0 0, .slice none 0 0])<|fun b3=>jso .s 2 rfl rfl rfl<|jpc 2 rfl<|jot<|
  jjn (fun s1 K=>K [(0, vb s1)] [[], [], []] [Tb Tryz.prog "strings.asciiSpace" .u8 Lib.asciiSpaceTab, Pt (eArr 4 eStr) 1 0 tab_rulebase_kinds, Wt 2]) (jrg<|jpc 3 rfl<|jsg 34 rfl (jpc 2 rfl<|jpe (vb (r1.2.1 == 0))<|jpc 1 rfl<|jsg 38 rfl (
  jpc 2 rfl<|jpe (vb (r2.2 == 0))<|jpc 1 rfl<|jsg 42 rfl (jpc 2 rfl<|
  jpe (vb (r2.1 == [97, 120, 105, 111, 109, 32, 112, 10, 112, 114, 101, 109, 105, 115, 101, 32, 113, 32, 51, 32, 102, 114, 111, 109, 32, 97, 110, 110, 10, 115, 116, 114, 105, 99, 116, 32, 115, 49, 58, 32, 112, 44, 32, 113, 32, 45, 62, 32, 114, 10, 114, 117, 108, 101, 32, 100, 49, 32, 50, 58, 32, 114, 32, 61, 62, 32, 126, 116, 10, 112, 114, 111, 109, 111, 116, 101, 32, 100, 49, 32, 53, 32, 105, 102, 32, 113, 10]))<|
  jpc 1 rfl<|jsg 46 rfl (jfa 1 rfl<|jlo 0 rfl rfl rfl<|jpc 2 rfl<|jpe (vb ((len r1.1.2.1) == 2))<|jpc 1 rfl<|jsg 52 rfl (jpc 2 rfl<|jpe (vb (r3.2.2 == 8))<|jpc 1 rfl<|jsg 56 rfl (jpc 2 rfl<|jpe (vb (r3.2.1 == 0))<|jpc 1 rfl<|jsg 60 rfl (
  jpc 2 rfl<|jpe (vb (r4.2.2 == 3))<|jpc 1 rfl<|jsg 64 rfl (jpc 2 rfl<|jpe (vb (r4.2.1 == 2))<|jpc 1 rfl<|jsg 68 rfl (jla 0 3 rfl rfl rfl<|jcl c_rulebase_Find rfl ⟨ck 6,ck 7,ck 8,⟨⟩⟩<|fun r5 _ k=>k<|jpc 1 rfl<|jpe (vb (r5 == 1))<|jpc 1 rfl<|
  joe<|jnn (gv (fun _ k=>k) [900,901,902] ⟨gk 9,gk 10,gk 11,⟨⟩⟩))<|jpc 3 rfl<|jpe (vb false)<|jpc 1 rfl<|joe<|jnn (gv (fun _ k=>k) [900,901,902] ⟨gk 9,gk 10,gk 11,⟨⟩⟩))<|jpc 2 rfl<|jpe (vb false)<|jpc 4 rfl<|jpe (vb false)<|jpc 1 rfl<|joe<|
  jnn (gv (fun _ k=>k) [900,901,902] ⟨gk 9,gk 10,gk 11,⟨⟩⟩))<|jpc 2 rfl<|jpe (vb false)<|jpc 3 rfl<|jpe (vb false)<|jpc 4 rfl<|jpe (vb false)<|jpc 1 rfl<|joe<|jnn (gv (fun _ k=>k) [900,901,902] ⟨gk 9,gk 10,gk 11,⟨⟩⟩))<|jpc 2 rfl<|
  jpe (vb false)<|jpc 3 rfl<|jpe (vb false)<|jpc 3 rfl<|jpe (vb false)<|jpc 4 rfl<|jpe (vb false)<|jpc 1 rfl<|joe<|jnn (gv (fun _ k=>k) [900,901,902] ⟨gk 9,gk 10,gk 11,⟨⟩⟩))<|jpc 2 rfl<|jpe (vb false)<|jpc 3 rfl<|jpe (vb false)<|jpc 3 rfl<|
  jpe (vb false)<|jpc 3 rfl<|jpe (vb false)<|jpc 4 rfl<|jpe (vb false)<|jpc 1 rfl<|joe<|jnn (gv (fun _ k=>k) [900,901,902] ⟨gk 9,gk 10,gk 11,⟨⟩⟩))<|jpc 4 rfl<|jpe (vb false)<|jpc 3 rfl<|jpe (vb false)<|jpc 3 rfl<|jpe (vb false)<|jpc 3 rfl<|
  jpe (vb false)<|jpc 3 rfl<|jpe (vb false)<|jpc 4 rfl<|jpe (vb false)<|jpc 1 rfl<|joe<|jnn (gv (fun _ k=>k) [900,901,902] ⟨gk 9,gk 10,gk 11,⟨⟩⟩))<|jpc 2 rfl<|jpe (vb false)<|jpc 5 rfl<|jpe (vb false)<|jpc 3 rfl<|jpe (vb false)<|jpc 3 rfl<|
  jpe (vb false)<|jpc 3 rfl<|jpe (vb false)<|jpc 3 rfl<|jpe (vb false)<|jpc 4 rfl<|jpe (vb false)<|jpc 1 rfl<|joe<|jnn (gv (fun _ k=>k) [900,901,902] ⟨gk 9,gk 10,gk 11,⟨⟩⟩))<|jpc 2 rfl<|jpe (vb false)<|jpc 3 rfl<|jpe (vb false)<|jpc 5 rfl<|
  jpe (vb false)<|jpc 3 rfl<|jpe (vb false)<|jpc 3 rfl<|jpe (vb false)<|jpc 3 rfl<|jpe (vb false)<|jpc 3 rfl<|jpe (vb false)<|jpc 4 rfl<|jpe (vb false)<|jpc 1 rfl<|joe<|jnn (gv (fun _ k=>k) [900,901,902] ⟨gk 9,gk 10,gk 11,⟨⟩⟩))<|jpc 2 rfl<|
  jpe (vb false)<|jpc 3 rfl<|jpe (vb false)<|jpc 3 rfl<|jpe (vb false)<|jpc 5 rfl<|jpe (vb false)<|jpc 3 rfl<|jpe (vb false)<|jpc 3 rfl<|jpe (vb false)<|jpc 3 rfl<|jpe (vb false)<|jpc 3 rfl<|jpe (vb false)<|jpc 4 rfl<|jpe (vb false)<|
  jpc 1 rfl<|joe<|jnn (gv (fun _ k=>k) [900,901,902] ⟨gk 9,gk 10,gk 11,⟨⟩⟩))<|fun s1 _ k=>k<|jxr<|jr1 rfl rfl (fun _ k=>k) [] ⟨⟩

theorem c_ref01_ValidName {qd : Prop} {y0 : Str} : Con qd Tryz.prog 89 [vs y0] [] [] (m_ref01_ValidName y0) fun r K=>K (vb r) [] [] :=
 ent3 Tryz.call89 Tryz.func89 rfl fun X=>jsr<|jpc 1 rfl<|jot<|jsq<|jjn (fun s1 K=>K [(0, vs y0), (21, vb s1)] [] []) (jrg<|jpc 4 rfl<|jsg 7 rfl (jpc 3 rfl<|jpe (vb true)<|jpc 4 rfl<|jpe (vb true)<|jpc 4 rfl<|jpe (vb true)<|joe<|jnn (gv (fun _ k=>k) [] ⟨⟩))<|jpc 3 rfl<|
  jpe (vb (decide (12 < (len y0))))<|jpc 1 rfl<|jsg 12 rfl (jpc 3 rfl<|jpe (vb true)<|jpc 4 rfl<|jpe (vb true)<|joe<|jnn (gv (fun _ k=>k) [] ⟨⟩))<|jpc 1 rfl<|jbd fun x1 h1=>jv (fun h=>r_sidx h rfl rfl Tryz.underlying9 h1)<|jpc 1 rfl<|
  jpe (vb (decide (x1 < 97)))<|jpc 1 rfl<|jsg 17 rfl (jpc 3 rfl<|jpe (vb true)<|joe<|jnn (gv (fun _ k=>k) [] ⟨⟩))<|jpc 1 rfl<|jbd fun x2 h2=>jv (fun h=>r_sidx h rfl rfl Tryz.underlying9 h2)<|jpc 1 rfl<|jpe (vb (decide (122 < x2)))<|joe<|
  jnn (gv (fun _ k=>k) [] ⟨⟩))<|fun s1 _ k=>k<|jif rfl (jsr<|jpc 1 rfl<|jot<|jxr<|jtr<|jr1 rfl rfl (fun _ k=>k) [] ⟨⟩)<|jsk<|jtn<|jsq<|jsr<|jpc 1 rfl<|jot<|jbk<|jlp (fun s2 K=>K [(0, vs y0), (3, vi s2)] [] []) (gv (fun _ k=>k) [] ⟨⟩)<|
  fun s2 _ k=>k<|jsq<|jsr<|jpc 4 rfl<|jot<|jif rfl (jsk<|jtn<|jsq<|jbk<|jjn (fun s3 K=>K [(0, vs y0), (3, vi s2), (55, vb s3)] [] []) (jrg<|jpc 2 rfl<|jbd fun x3 h3=>jv (fun h=>r_sidx h rfl rfl Tryz.underlying9 h3)<|jpc 2 rfl<|jsg 32 rfl (
  jpc 4 rfl<|jpe (vb true)<|jpc 3 rfl<|jbd fun x4 h4=>jv (fun h=>r_sidx h rfl rfl Tryz.underlying9 h4)<|jpc 2 rfl<|jsg 43 rfl (jpc 4 rfl<|jpe (vb true)<|jpe (vb true)<|jpc 3 rfl<|jbd fun x5 h5=>
  jv (fun h=>r_sidx h rfl rfl Tryz.underlying9 h5)<|jpc 1 rfl<|jpe (vb (x5 != 95))<|joe<|jnn (gv (fun _ k=>k) [] ⟨⟩))<|jpc 2 rfl<|jbd fun x6 h6=>jv (fun h=>r_sidx h rfl rfl Tryz.underlying9 h6)<|jpc 1 rfl<|jpe (vb (decide (57 < x6)))<|
  jpe (vb (decide (57 < x6)))<|jpc 1 rfl<|jsg 50 rfl (jpc 2 rfl<|jbd fun x7 h7=>jv (fun h=>r_sidx h rfl rfl Tryz.underlying9 h7)<|jpc 1 rfl<|jpe (vb (x7 != 95))<|joe<|jnn (gv (fun _ k=>k) [] ⟨⟩))<|jpc 4 rfl<|jpe (vb false)<|joe<|
  jnn (gv (fun _ k=>k) [] ⟨⟩))<|jpc 2 rfl<|jbd fun x8 h8=>jv (fun h=>r_sidx h rfl rfl Tryz.underlying9 h8)<|jpc 1 rfl<|jpe (vb (decide (122 < x8)))<|jpc 1 rfl<|jsg 38 rfl (jpc 2 rfl<|jbd fun x9 h9=>
  jv (fun h=>r_sidx h rfl rfl Tryz.underlying9 h9)<|jpc 2 rfl<|jsg 43 rfl (jpc 4 rfl<|jpe (vb true)<|jpe (vb true)<|jpc 3 rfl<|jbd fun x10 h10=>jv (fun h=>r_sidx h rfl rfl Tryz.underlying9 h10)<|jpc 1 rfl<|jpe (vb (x10 != 95))<|joe<|
  jnn (gv (fun _ k=>k) [] ⟨⟩))<|jpc 2 rfl<|jbd fun x11 h11=>jv (fun h=>r_sidx h rfl rfl Tryz.underlying9 h11)<|jpc 1 rfl<|jpe (vb (decide (57 < x11)))<|jpe (vb (decide (57 < x11)))<|jpc 1 rfl<|jsg 50 rfl (jpc 2 rfl<|jbd fun x12 h12=>
  jv (fun h=>r_sidx h rfl rfl Tryz.underlying9 h12)<|jpc 1 rfl<|jpe (vb (x12 != 95))<|joe<|jnn (gv (fun _ k=>k) [] ⟨⟩))<|jpc 4 rfl<|jpe (vb false)<|joe<|jnn (gv (fun _ k=>k) [] ⟨⟩))<|jpc 10 rfl<|jpe (vb false)<|jpc 5 rfl<|jpe (vb false)<|
  joe<|jnn (gv (fun _ k=>k) [] ⟨⟩))<|fun s3 _ k=>k<|jif rfl (jsr<|jpc 1 rfl<|jot<|jxr<|jbr<|jtr<|jlr<|jbr<|jtr<|jr1 rfl rfl (fun _ k=>k) [] ⟨⟩)<|jsk<|jbn<|jtn<|jrg<|jpc 3 rfl<|joe<|jln (gv (fun _ k=>k) [] ⟨⟩))<|jxe<|jte<|jle<|jbh<|jtn<|jsr<|
  jpc 1 rfl<|jot<|jxr<|jr1 rfl rfl (fun _ k=>k) [] ⟨⟩

theorem c_ref01_Valid {qd : Prop} {y0 : T_Literal} : Con qd Tryz.prog 64 [.agg #[vb y0.1, vs y0.2]] [] [] (m_ref01_Valid y0) fun r K=>K (vb r) [] [] :=
 ent3 Tryz.call64 Tryz.func64 rfl fun X=>jsr<|jbx .s rfl<|fun b1=>jpc 1 rfl<|jot<|jsr<|jfa 1 rfl<|jlo 0 rfl rfl rfl<|jcl c_ref01_ValidName rfl ⟨⟩<|fun r1 _ k=>k<|jpc 1 rfl<|jot<|jxr<|jr1 rfl rfl (fun _ k=>k) [] ⟨⟩

theorem c_ref01_Format {qd : Prop} {y0 : T_Literal} : Con qd Tryz.prog 69 [.agg #[vb y0.1, vs y0.2]] [] [] (m_ref01_Format y0) fun r K=>K (vs r) [] [] :=
 ent3 Tryz.call69 Tryz.func69 rfl fun X=>jsr<|jbx .s rfl<|fun b1=>jpc 1 rfl<|jot<|jsq<|jsr<|jla 0 2 rfl rfl rfl<|jcl c_ref01_Valid rfl ⟨⟩<|fun r1 _ k=>k<|jpc 1 rfl<|jot<|jif rfl (jsr<|jpc 1 rfl<|jot<|jxr<|jtr<|jr1 rfl rfl (fun _ k=>k) [] ⟨⟩)<|jsk<|jtn<|jsq<|jsr<|jfa 0 rfl<|
  jlo 0 rfl rfl rfl<|jot<|jif rfl (jsr<|jfa 1 rfl<|jlo 0 rfl rfl rfl<|jbd fun x1 h1=>jv (fun h=>r_cat h rfl rfl h1)<|jpc 1 rfl<|jot<|jxr<|jtr<|jr1 rfl rfl (fun _ k=>k) [] ⟨⟩)<|jsk<|jtn<|jsr<|jfa 1 rfl<|jlo 0 rfl rfl rfl<|jpc 1 rfl<|jot<|jxr<|
  jr1 rfl rfl (fun _ k=>k) [] ⟨⟩

theorem c_ref05_digit {qd : Prop} {y0 : Int} : Con qd Tryz.prog 71 [vi y0] [] [] (m_ref05_digit y0) fun r K=>K (vs r) [] [] :=
 ent3 Tryz.call71 Tryz.func71 rfl fun X=>jsr<|jpc 1 rfl<|jot<|jsr<|jpc 3 rfl<|jbd fun x1 h1=>jv (fun h=>r_ssub h rfl Tryz.underlying9 rfl rfl (.inr ⟨_, rfl⟩) (.inr ⟨_, rfl⟩) h1)<|jpc 1 rfl<|jot<|jxr<|jr1 rfl rfl (fun _ k=>k) [] ⟨⟩

theorem c_ref05_source {qd : Prop} {y0 : T_Premise} : Con qd Tryz.prog 70 [.agg #[vb y0.1.1, vs y0.1.2, vi y0.2.1, vi y0.2.2.1, vs y0.2.2.2]] [] [] (m_ref05_source y0) fun r K=>K (vs r) [] [] :=
 ent3 Tryz.call70 Tryz.func70 rfl fun X=>jsr<|jbx .s rfl<|fun b1=>jpc 1 rfl<|jot<|jsq<|jsr<|jfa 4 rfl<|jlo 0 rfl rfl rfl<|jpc 1 rfl<|jot<|jif rfl (jsr<|jpc 1 rfl<|jot<|jxr<|jtr<|jr1 rfl rfl (fun _ k=>k) [] ⟨⟩)<|jsk<|jtn<|jsr<|jfa 4 rfl<|jlo 0 rfl rfl rfl<|jbd fun x1 h1=>
  jv (fun h=>r_cat h rfl rfl h1)<|jpc 1 rfl<|jot<|jxr<|jr1 rfl rfl (fun _ k=>k) [] ⟨⟩

theorem c_ref05_PremiseLine {qd : Prop} {y0 : T_Premise} : Con qd Tryz.prog 25 [.agg #[vb y0.1.1, vs y0.1.2, vi y0.2.1, vi y0.2.2.1, vs y0.2.2.2]] [] [] (m_ref05_PremiseLine y0) fun r K=>K (vs r) [] [] :=
 ent3 Tryz.call25 Tryz.func25 rfl fun X=>jsr<|jbx .s rfl<|fun b1=>jpc 1 rfl<|jot<|jsr<|jfa 0 rfl<|jla 0 2 rfl rfl rfl<|jcl c_ref01_Format rfl ⟨⟩<|fun r1 _ k=>k<|jpc 1 rfl<|jot<|jsq<|jsr<|jfa 2 rfl<|jlo 0 rfl rfl rfl<|jot<|jbk<|jsr<|jpc 2 rfl<|jot<|jif rfl (jsr<|jpc 1 rfl<|
  jbd fun x1 h1=>jv (fun h=>r_cat h rfl rfl h1)<|jla 0 5 rfl rfl rfl<|jcl c_ref05_source rfl ⟨⟩<|fun r2 _ k=>k<|jbd fun x2 h2=>jv (fun h=>r_cat h rfl rfl h2)<|jpc 1 rfl<|jot<|jxr<|jbr<|jtr<|jr1 rfl rfl (fun _ k=>k) [] ⟨⟩)<|jsr<|jpc 2 rfl<|
  jot<|jif rfl (jds [] [0] 11<|jdc 10 [0] rfl<|jbd fun x3 h3=>jdv 1 rfl (fun h=>r_cat h rfl rfl h3)<|jbd fun x4 h4=>jdv 2 rfl (fun h=>r_cat h rfl rfl h4)<|jdf 3 3 rfl rfl<|jdo 4 0 rfl rfl rfl rfl<|jda 7 0 5 rfl rfl rfl rfl<|jd1 5<|
  jca (.f rfl) [] [] c_ref05_digit rfl rfl rfl ⟨⟩<|fun r3 _ k=>k<|jdn<|jbd fun x5 h5=>jdv 6 rfl (fun h=>r_cat h rfl rfl h5)<|jd1 8<|jca (.f rfl) [] [] c_ref05_source rfl rfl rfl ⟨⟩<|fun r4 _ k=>k<|jdn<|jbd fun x6 h6=>
  jdv 9 rfl (fun h=>r_cat h rfl rfl h6)<|jdc 0 [10] rfl<|jde<|jtn<|jxr<|jbr<|jtr<|jr1 rfl rfl (fun _ k=>k) [] ⟨⟩)<|jsk<|jbn<|jtn<|jsr<|jpc 1 rfl<|jbd fun x7 h7=>jv (fun h=>r_cat h rfl rfl h7)<|jla 0 5 rfl rfl rfl<|jcl c_ref05_source rfl ⟨⟩<|
  fun r5 _ k=>k<|jbd fun x8 h8=>jv (fun h=>r_cat h rfl rfl h8)<|jpc 1 rfl<|jot<|jxr<|jr1 rfl rfl (fun _ k=>k) [] ⟨⟩

theorem c_ref05_PromotionLine {qd : Prop} {y0 : T_Promotion} : Con qd Tryz.prog 27 [.agg #[vs y0.1, vi y0.2.1, vb y0.2.2.1, vs y0.2.2.2]] [] [] (m_ref05_PromotionLine y0) fun r K=>K (vs r) [] [] :=
 ent3 Tryz.call27 Tryz.func27 rfl fun X=>jsr<|jbx .s rfl<|fun b1=>jpc 1 rfl<|jot<|jds [] [0] 14<|jdf 0 0 rfl rfl<|jdo 1 0 rfl rfl rfl rfl<|jbd fun x1 h1=>jdv 2 rfl (fun h=>r_cat h rfl rfl h1)<|jbd fun x2 h2=>jdv 3 rfl (fun h=>r_cat h rfl rfl h2)<|jdf 4 1 rfl rfl<|
  jdo 5 0 rfl rfl rfl rfl<|jdf 9 2 rfl rfl<|jda 10 0 2 rfl rfl rfl rfl<|jd1 6<|jca (.f rfl) [] [] c_ref05_digit rfl rfl rfl ⟨⟩<|fun r1 _ k=>k<|jdn<|jbd fun x3 h3=>jdv 7 rfl (fun h=>r_cat h rfl rfl h3)<|jbd fun x4 h4=>
  jdv 8 rfl (fun h=>r_cat h rfl rfl h4)<|jd1 11<|jca (.f rfl) [] [] c_ref01_Format rfl rfl rfl ⟨⟩<|fun r2 _ k=>k<|jdn<|jbd fun x5 h5=>jdv 12 rfl (fun h=>r_cat h rfl rfl h5)<|jdc 0 [13] rfl<|jde<|jtn<|jxr<|jr1 rfl rfl (fun _ k=>k) [] ⟨⟩

theorem c_ref05_RuleLine {qd : Prop} {y0 : T_Rule} : Con qd Tryz.prog 26 [.agg #[vs y0.1, vb y0.2.1, vi y0.2.2.1, sv p1 y0.2.2.2.1 c1, vb y0.2.2.2.2.1, vs y0.2.2.2.2.2]] [] [Rl e_Literal p1 c1 y0.2.2.2.1] (m_ref05_RuleLine y0) fun r K=>K (vs r) [] [] :=
 ent3 Tryz.call26 Tryz.func26 rfl fun X=>jsr<|jbx .s rfl<|fun b1=>jpc 1 rfl<|jot<|jsr<|jpc 1 rfl<|jot<|jjn (fun s1 K=>K [(1, pt b1 0), (3, vs s1)] [bx b1 63 [vs y0.1, vb y0.2.1, vi y0.2.2.1, sv p1 y0.2.2.2.1 c1, vb y0.2.2.2.2.1, vs y0.2.2.2.2.2]] [Rl e_Literal p1 c1 y0.2.2.2.1]) (
  jsr<|jpc 1 rfl<|jot<|jbk<|
  jlp (fun s2 K=>K [(1, pt b1 0), (3, vs s2.1), (4, vi s2.2)] [bx b1 63 [vs y0.1, vb y0.2.1, vi y0.2.2.1, sv p1 y0.2.2.2.1 c1, vb y0.2.2.2.2.1, vs y0.2.2.2.2.2]] [Rl e_Literal p1 c1 y0.2.2.2.1]) (gv (fun _ k=>k) [0] ⟨gk 0,⟨⟩⟩)<|fun s2 _ k=>
  k<|jsq<|jsr<|jpc 1 rfl<|jfa 3 rfl<|jlo 0 rfl rfl rfl<|jpc 2 rfl<|jot<|jif rfl (jsk<|jtn<|jsq<|jbk<|
  jjn (fun s3 K=>K [(1, pt b1 0), (3, vs s3), (4, vi s2.2)] [bx b1 63 [vs y0.1, vb y0.2.1, vi y0.2.2.1, sv p1 y0.2.2.2.1 c1, vb y0.2.2.2.2.1, vs y0.2.2.2.2.2]] [Rl e_Literal p1 c1 y0.2.2.2.1]) (jsr<|jpc 2 rfl<|jot<|jif rfl (jrg<|jpc 1 rfl<|
  jbd fun x1 h1=>jv (fun h=>r_cat h rfl rfl h1)<|jpc 1 rfl<|joe<|jnn (gv (fun _ k=>k) [0] ⟨gk 0,⟨⟩⟩))<|jsk<|jnn (gv (fun _ k=>k) [0] ⟨gk 0,⟨⟩⟩))<|fun s3 _ k=>k<|jrg<|jpc 1 rfl<|jbd fun x2 h2=>jv (fun h=>r_cat h rfl rfl h2)<|jfa 3 rfl<|
  jlo 0 rfl rfl rfl<|jpc 1 rfl<|jix 0 rfl rfl rfl<|fun x3 b2 o1=>jld true o_Literal (gk 0) rfl<|jcl c_ref01_Format rfl ⟨⟩<|fun r1 _ k=>k<|jbd fun x4 h3=>jv (fun h=>r_cat h rfl rfl h3)<|jpc 1 rfl<|joe<|jbn<|jtn<|jrg<|jpc 3 rfl<|joe<|
  jln (gv (fun _ k=>k) [0] ⟨gk 1,⟨⟩⟩))<|jxe<|jte<|jle<|jbh<|jnn (gv (fun _ k=>k) [0] ⟨gk 0,⟨⟩⟩))<|fun s1 _ k=>k<|jsq<|jsr<|jfa 1 rfl<|jlo 0 rfl rfl rfl<|jot<|jif rfl (jds [] [0] 12<|jdf 0 0 rfl rfl<|jdo 1 0 rfl rfl rfl rfl<|jbd fun x5 h4=>
  jdv 2 rfl (fun h=>r_cat h rfl rfl h4)<|jbd fun x6 h5=>jdv 3 rfl (fun h=>r_cat h rfl rfl h5)<|jdc 7 [4] rfl<|jbd fun x7 h6=>jdv 5 rfl (fun h=>r_cat h rfl rfl h6)<|jbd fun x8 h7=>jdv 6 rfl (fun h=>r_cat h rfl rfl h7)<|jdf 7 4 rfl rfl<|
  jda 8 0 2 rfl rfl rfl rfl<|jd1 9<|jca (.f rfl) [] [] c_ref01_Format rfl rfl rfl ⟨⟩<|fun r2 _ k=>k<|jdn<|jbd fun x9 h8=>jdv 10 rfl (fun h=>r_cat h rfl rfl h8)<|jdc 0 [11] rfl<|jde<|jtn<|jxr<|jtr<|jr1 rfl rfl (fun _ k=>k) [] ⟨⟩)<|jsk<|jtn<|
  jds [] [0] 17<|jdf 0 0 rfl rfl<|jdo 1 0 rfl rfl rfl rfl<|jbd fun x10 h9=>jdv 2 rfl (fun h=>r_cat h rfl rfl h9)<|jbd fun x11 h10=>jdv 3 rfl (fun h=>r_cat h rfl rfl h10)<|jdf 4 2 rfl rfl<|jdo 5 0 rfl rfl rfl rfl<|jdc 10 [9] rfl<|
  jdf 12 4 rfl rfl<|jda 13 0 2 rfl rfl rfl rfl<|jd1 6<|jca (.f rfl) [] [] c_ref05_digit rfl rfl rfl ⟨⟩<|fun r3 _ k=>k<|jdn<|jbd fun x12 h11=>jdv 7 rfl (fun h=>r_cat h rfl rfl h11)<|jbd fun x13 h12=>jdv 8 rfl (fun h=>r_cat h rfl rfl h12)<|
  jbd fun x14 h13=>jdv 10 rfl (fun h=>r_cat h rfl rfl h13)<|jbd fun x15 h14=>jdv 11 rfl (fun h=>r_cat h rfl rfl h14)<|jd1 14<|jca (.f rfl) [] [] c_ref01_Format rfl rfl rfl ⟨⟩<|fun r4 _ k=>k<|jdn<|jbd fun x16 h15=>
  jdv 15 rfl (fun h=>r_cat h rfl rfl h15)<|jdc 0 [16] rfl<|jde<|jtn<|jxr<|jr1 rfl rfl (fun _ k=>k) [] ⟨⟩

theorem c_ref05_Find {qd : Prop} {y0 : T_Base} {y1 : Str} : Con qd Tryz.prog 62 [.agg #[sv p1 y0.1 c1, sv p2 y0.2.1 c2, sv p3 y0.2.2 c3], vs y1] [] [Rl e_Premise p1 c1 y0.1, Rl e_Rule p2 c2 y0.2.1, Rl e_Promotion p3 c3 y0.2.2] (m_ref05_Find y0 y1) fun r K=>K (vi r) [] [] :=
 ent3 Tryz.call62 Tryz.func62 rfl fun X=>jsr<|jbx .s rfl<|fun b1=>jpc 1 rfl<|jot<|jsq<|jsr<|jpc 1 rfl<|jot<|jbk<|
  jlp (fun s1 K=>K [(1, vs y1), (2, pt b1 0), (5, vi s1)] [bx b1 32 [sv p1 y0.1 c1, sv p2 y0.2.1 c2, sv p3 y0.2.2 c3]] [Rl e_Premise p1 c1 y0.1, Rl e_Rule p2 c2 y0.2.1, Rl e_Promotion p3 c3 y0.2.2]) (gv (fun _ k=>k) [0] ⟨gk 0,gk 1,gk 2,⟨⟩⟩)<|
  fun s1 _ k=>k<|jsq<|jsr<|jpc 1 rfl<|jfa 1 rfl<|jlo 0 rfl rfl rfl<|jpc 2 rfl<|jot<|jif rfl (jsk<|jtn<|jsq<|jbk<|jsr<|jfa 1 rfl<|jlo 0 rfl rfl rfl<|jpc 1 rfl<|jix 1 rfl rfl rfl<|fun x1 b2 o1=>jfa 0 rfl<|jld false oS (gf (gk 0)) rfl<|
  jpc 2 rfl<|jot<|jif rfl (jsr<|jpc 2 rfl<|jot<|jxr<|jbr<|jtr<|jlr<|jbr<|jtr<|jr1 rfl rfl (fun _ k=>k) [] ⟨⟩)<|jsk<|jbn<|jtn<|jrg<|jpc 3 rfl<|joe<|jln (gv (fun _ k=>k) [0] ⟨gk 1,gk 2,gk 3,⟨⟩⟩))<|jxe<|jte<|jle<|jbh<|jtn<|jsr<|jpc 1 rfl<|jot<|
  jxr<|jr1 rfl rfl (fun _ k=>k) [] ⟨⟩

theorem c_ref05_Premise {qd : Prop} {y0 : T_Base} {y1 : T_Literal} : Con qd Tryz.prog 60 [.agg #[sv p1 y0.1 c1, sv p2 y0.2.1 c2, sv p3 y0.2.2 c3], .agg #[vb y1.1, vs y1.2]] [] [Rl e_Premise p1 c1 y0.1, Rl e_Rule p2 c2 y0.2.1, Rl e_Promotion p3 c3 y0.2.2] (m_ref05_Premise y0 y1) fun r K=>K (vi r) [] [] :=
 ent3 Tryz.call60 Tryz.func60 rfl fun X=>jsr<|jbx .s rfl<|fun b1=>jbx .s rfl<|fun b2=>jpc 1 rfl<|jot<|jsq<|jsr<|jpc 1 rfl<|jot<|jbk<|
  jlp (fun s1 K=>K [(2, pt b1 0), (3, pt b2 0), (5, vi s1)] [bx b1 32 [sv p1 y0.1 c1, sv p2 y0.2.1 c2, sv p3 y0.2.2 c3], bx b2 58 [vb y1.1, vs y1.2]] [Rl e_Premise p1 c1 y0.1, Rl e_Rule p2 c2 y0.2.1, Rl e_Promotion p3 c3 y0.2.2]) (gv (fun _ k=>k) [0,1] ⟨gk 0,gk 1,gk 2,⟨⟩⟩)<|
  fun s1 _ k=>k<|jsq<|jsr<|jpc 1 rfl<|jfa 0 rfl<|jlo 0 rfl rfl rfl<|jpc 2 rfl<|jot<|jif rfl (jsk<|jtn<|jsq<|jbk<|jds [] [0, 1] 8<|jdf 0 0 rfl rfl<|jdo 1 0 rfl rfl rfl rfl<|jdc 5 [2] rfl<|jdi 3 0 rfl rfl rfl rfl<|fun x1 b3 o1=>
  jdf 4 0 rfl rfl<|jdl 5 true o_Literal rfl (gf (gk 0)) rfl<|jda 6 1 2 rfl rfl rfl rfl<|jdp 7 (vb (x1.1 == y1)) rfl<|jde<|jtn<|jif rfl (jsr<|jpc 2 rfl<|jot<|jxr<|jbr<|jtr<|jlr<|jbr<|jtr<|jr1 rfl rfl (fun _ k=>k) [] ⟨⟩)<|jsk<|jbn<|jtn<|jrg<|
  jpc 3 rfl<|joe<|jln (gv (fun _ k=>k) [0,1] ⟨gk 1,gk 2,gk 3,⟨⟩⟩))<|jxe<|jte<|jle<|jbh<|jtn<|jsr<|jpc 1 rfl<|jot<|jxr<|jr1 rfl rfl (fun _ k=>k) [] ⟨⟩

theorem c_ref05_rank {qd : Prop} {y0 : Int} : Con qd Tryz.prog 63 [vi y0] [] [] (m_ref05_rank y0) fun r K=>K (vb r) [] [] :=
 ent3 Tryz.call63 Tryz.func63 rfl fun X=>jsr<|jpc 1 rfl<|jot<|jjp (fun K=>K [(2, vb ((decide (0 ≤ y0)) && (decide (y0 ≤ 9))))] [] []) (jrg<|jpc 3 rfl<|jsp (b := decide (0 ≤ y0)) 5 rfl (fun hb1=>jpc 2 rfl<|jpe (vb (decide (y0 ≤ 9)))<|jpc 1 rfl<|joe<|
  jup 2 (vb ((decide (0 ≤ y0)) && (decide (y0 ≤ 9)))) rfl (by rw [hb1]; rfl)<|jnn (gv (fun _ k=>k) [] ⟨⟩))<|fun hb1=>jpc 2 rfl<|jpe (vb false)<|jpc 1 rfl<|joe<|jup 2 (vb ((decide (0 ≤ y0)) && (decide (y0 ≤ 9)))) rfl (by rw [hb1]; rfl)<|
  jnn (gv (fun _ k=>k) [] ⟨⟩))<|fun _ k=>k<|jxr<|jr1 rfl rfl (fun _ k=>k) [] ⟨⟩

theorem c_ref05_premise {qd : Prop} {y0 : T_Premise} : Con qd Tryz.prog 59 [.agg #[vb y0.1.1, vs y0.1.2, vi y0.2.1, vi y0.2.2.1, vs y0.2.2.2]] [] [] (m_ref05_premise y0) fun r K=>K (vi r) [] [] :=
 ent3 Tryz.call59 Tryz.func59 rfl fun X=>jsr<|jbx .s rfl<|fun b1=>jpc 1 rfl<|jot<|jsq<|jjp (fun K=>K [(1, pt b1 0), (10, vb ((decide (y0.2.1 < 1)) || (decide (3 < y0.2.1))))] [bx b1 60 [vb y0.1.1, vs y0.1.2, vi y0.2.1, vi y0.2.2.1, vs y0.2.2.2]] []) (jrg<|jfa 2 rfl<|
  jlo 0 rfl rfl rfl<|jpc 2 rfl<|jsp (b := decide (y0.2.1 < 1)) 6 rfl (fun hb1=>jpc 3 rfl<|jpe (vb true)<|joe<|jup 10 (vb ((decide (y0.2.1 < 1)) || (decide (3 < y0.2.1)))) rfl (by rw [hb1]; rfl)<|jnn (gv (fun _ k=>k) [0] ⟨⟩))<|fun hb1=>
  jfa 2 rfl<|jlo 0 rfl rfl rfl<|jpc 1 rfl<|jpe (vb (decide (3 < y0.2.1)))<|joe<|jup 10 (vb ((decide (y0.2.1 < 1)) || (decide (3 < y0.2.1)))) rfl (by rw [hb1]; rfl)<|jnn (gv (fun _ k=>k) [0] ⟨⟩))<|fun _ k=>k<|jif rfl (jsr<|jpc 1 rfl<|jot<|
  jxr<|jtr<|jr1 rfl rfl (fun _ k=>k) [] ⟨⟩)<|jsk<|jtn<|jsq<|jjn (fun s1 K=>K [(41, vb s1)] [[]] []) (jrg<|jfa 0 rfl<|jla 0 2 rfl rfl rfl<|jcl c_ref01_Valid rfl ⟨⟩<|fun r1 _ k=>k<|jpc 2 rfl<|jsg 15 rfl (jpc 4 rfl<|jpe (vb true)<|jpc 9 rfl<|
  jpe (vb true)<|jpc 10 rfl<|jpe (vb true)<|joe<|jnn (gv (fun _ k=>k) [900] ⟨⟩))<|jfa 3 rfl<|jlo 0 rfl rfl rfl<|jcl c_ref05_rank rfl ⟨⟩<|fun r2 _ k=>k<|jpc 1 rfl<|jpe (vb (!r2))<|jpc 1 rfl<|jsg 21 rfl (jpc 8 rfl<|jpe (vb true)<|jpc 10 rfl<|
  jpe (vb true)<|joe<|jnn (gv (fun _ k=>k) [900] ⟨⟩))<|jfa 2 rfl<|jlo 0 rfl rfl rfl<|jpc 2 rfl<|jsg 25 rfl (jfa 3 rfl<|jlo 0 rfl rfl rfl<|jpc 1 rfl<|jpe (vb (y0.2.2.1 != 0))<|jpe (vb (y0.2.2.1 != 0))<|jpc 1 rfl<|jsg 31 rfl (jpc 9 rfl<|
  jpe (vb true)<|joe<|jnn (gv (fun _ k=>k) [900] ⟨⟩))<|jfa 4 rfl<|jlo 0 rfl rfl rfl<|jpc 2 rfl<|jsg 35 rfl (jfa 4 rfl<|jlo 0 rfl rfl rfl<|jcl c_ref01_ValidName rfl ⟨⟩<|fun r3 _ k=>k<|jpc 1 rfl<|jpe (vb (!r3))<|jpe (vb (!r3))<|joe<|
  jnn (gv (fun _ k=>k) [900] ⟨⟩))<|jpc 4 rfl<|jpe (vb false)<|jpe (vb false)<|joe<|jnn (gv (fun _ k=>k) [900] ⟨⟩))<|jpc 3 rfl<|jpe (vb false)<|jpe (vb false)<|jpc 1 rfl<|jfa 4 rfl<|jlo 0 rfl rfl rfl<|jpc 2 rfl<|jsg 35 rfl (jfa 4 rfl<|
  jlo 0 rfl rfl rfl<|jcl c_ref01_ValidName rfl ⟨⟩<|fun r4 _ k=>k<|jpc 1 rfl<|jpe (vb (!r4))<|jpe (vb (!r4))<|joe<|jnn (gv (fun _ k=>k) [900] ⟨⟩))<|jpc 4 rfl<|jpe (vb false)<|jpe (vb false)<|joe<|jnn (gv (fun _ k=>k) [900] ⟨⟩))<|fun s1 _ k=>
  k<|jif rfl (jsr<|jpc 1 rfl<|jot<|jxr<|jtr<|jr1 rfl rfl (fun _ k=>k) [] ⟨⟩)<|jsk<|jtn<|jsr<|jpc 1 rfl<|jot<|jxr<|jr1 rfl rfl (fun _ k=>k) [] ⟨⟩

theorem c_ref01_Compare {qd : Prop} {y0 : T_Literal} {y1 : T_Literal} : Con qd Tryz.prog 90 [.agg #[vb y0.1, vs y0.2], .agg #[vb y1.1, vs y1.2]] [] [] (m_ref01_Compare y0 y1) fun r K=>K (vi r) [] [] :=
 ent3 Tryz.call90 Tryz.func90 rfl fun X=>jsr<|jbx .s rfl<|fun b1=>jbx .s rfl<|fun b2=>jpc 1 rfl<|jot<|jsq<|jbk<|jsr<|jla 0 2 rfl rfl rfl<|jla 1 2 rfl rfl rfl<|jpe (vb (y0 == y1))<|jpc 1 rfl<|jot<|jif rfl (jsr<|jpc 1 rfl<|jot<|jxr<|jbr<|jtr<|jr1 rfl rfl (fun _ k=>k) [] ⟨⟩)<|
  jjp (fun K=>K [(9, vb ((sless y0.2 y1.2) || ((y0.2 == y1.2) && y1.1)))] [[], []] []) (jrg<|jfa 1 rfl<|jlo 0 rfl rfl rfl<|jfa 1 rfl<|jlo 1 rfl rfl rfl<|jpc 2 rfl<|jsp (b := sless y0.2 y1.2) 15 rfl (fun hb1=>jpc 9 rfl<|jpe (vb true)<|
  jpc 1 rfl<|joe<|jup 9 (vb ((sless y0.2 y1.2) || ((y0.2 == y1.2) && y1.1))) rfl (by rw [hb1]; rfl)<|jnn (gv (fun _ k=>k) [900,901] ⟨⟩))<|fun hb1=>jfa 1 rfl<|jlo 0 rfl rfl rfl<|jfa 1 rfl<|jlo 1 rfl rfl rfl<|jpc 2 rfl<|
  jsp (b := y0.2 == y1.2) 21 rfl (fun hb2=>jfa 0 rfl<|jlo 1 rfl rfl rfl<|jpe (vb y1.1)<|jpe (vb y1.1)<|jpc 1 rfl<|joe<|jup 9 (vb ((sless y0.2 y1.2) || ((y0.2 == y1.2) && y1.1))) rfl (by rw [hb1,hb2]; rfl)<|jnn (gv (fun _ k=>k) [900,901] ⟨⟩)
  )<|fun hb2=>jpc 2 rfl<|jpe (vb false)<|jpe (vb false)<|jpc 1 rfl<|joe<|jup 9 (vb ((sless y0.2 y1.2) || ((y0.2 == y1.2) && y1.1))) rfl (by rw [hb1,hb2]; rfl)<|jnn (gv (fun _ k=>k) [900,901] ⟨⟩))<|fun _ k=>k<|jif rfl (jsr<|jpc 1 rfl<|jot<|
  jxr<|jbr<|jtr<|jr1 rfl rfl (fun _ k=>k) [] ⟨⟩)<|jsk<|jbn<|jtn<|jsr<|jpc 1 rfl<|jot<|jxr<|jr1 rfl rfl (fun _ k=>k) [] ⟨⟩

theorem c_ref05_rule {qd : Prop} {y0 : T_Rule} : Con qd Tryz.prog 61 [.agg #[vs y0.1, vb y0.2.1, vi y0.2.2.1, sv p1 y0.2.2.2.1 c1, vb y0.2.2.2.2.1, vs y0.2.2.2.2.2]] [] [Rl e_Literal p1 c1 y0.2.2.2.1] (m_ref05_rule y0) fun r K=>K (vi r) [] [] :=
 ent3 Tryz.call61 Tryz.func61 rfl fun X=>jsr<|jbx .s rfl<|fun b1=>jpc 1 rfl<|jot<|jsq<|jsr<|jfa 3 rfl<|jlo 0 rfl rfl rfl<|jpc 2 rfl<|jot<|jif rfl (jsr<|jpc 1 rfl<|jot<|jxr<|jtr<|jr1 rfl rfl (fun _ k=>k) [] ⟨⟩)<|jsk<|jtn<|
  jjn (fun s1 K=>K [(1, pt b1 0), (3, vb s1)] [bx b1 63 [vs y0.1, vb y0.2.1, vi y0.2.2.1, sv p1 y0.2.2.2.1 c1, vb y0.2.2.2.2.1, vs y0.2.2.2.2.2]] [Rl e_Literal p1 c1 y0.2.2.2.1]) (jrg<|jfa 0 rfl<|jlo 0 rfl rfl rfl<|
  jcl c_ref01_ValidName rfl ⟨⟩<|fun r1 _ k=>k<|jpc 1 rfl<|jsg 13 rfl (jfa 2 rfl<|jlo 0 rfl rfl rfl<|jcl c_ref05_rank rfl ⟨⟩<|fun r2 _ k=>k<|jpe (vb r2)<|jpc 1 rfl<|jsg 18 rfl (jfa 1 rfl<|jlo 0 rfl rfl rfl<|jpc 2 rfl<|jsg 22 rfl (jpc 3 rfl<|
  jpe (vb true)<|jpe (vb true)<|jpc 1 rfl<|jfa 4 rfl<|jla 0 2 rfl rfl rfl<|jcl c_ref01_Valid rfl ⟨⟩<|fun r3 _ k=>k<|jpe (vb r3)<|jpc 1 rfl<|joe<|jnn (gv (fun _ k=>k) [0] ⟨gk 0,⟨⟩⟩))<|jfa 2 rfl<|jlo 0 rfl rfl rfl<|jpc 1 rfl<|
  jpe (vb (y0.2.2.1 == 0))<|jpe (vb (y0.2.2.1 == 0))<|jpc 1 rfl<|jsg 28 rfl (jfa 4 rfl<|jla 0 2 rfl rfl rfl<|jcl c_ref01_Valid rfl ⟨⟩<|fun r4 _ k=>k<|jpe (vb r4)<|jpc 1 rfl<|joe<|jnn (gv (fun _ k=>k) [0] ⟨gk 0,⟨⟩⟩))<|jpc 3 rfl<|
  jpe (vb false)<|jpc 1 rfl<|joe<|jnn (gv (fun _ k=>k) [0] ⟨gk 0,⟨⟩⟩))<|jpc 8 rfl<|jpe (vb false)<|jpc 4 rfl<|jpe (vb false)<|jpc 1 rfl<|joe<|jnn (gv (fun _ k=>k) [0] ⟨gk 0,⟨⟩⟩))<|jpc 3 rfl<|jpe (vb false)<|jpc 9 rfl<|jpe (vb false)<|
  jpc 4 rfl<|jpe (vb false)<|jpc 1 rfl<|joe<|jnn (gv (fun _ k=>k) [0] ⟨gk 0,⟨⟩⟩))<|fun s1 _ k=>k<|
  jjn (fun s2 K=>K [(1, pt b1 0), (3, vb s2)] [bx b1 63 [vs y0.1, vb y0.2.1, vi y0.2.2.1, sv p1 y0.2.2.2.1 c1, vb y0.2.2.2.2.1, vs y0.2.2.2.2.2]] [Rl e_Literal p1 c1 y0.2.2.2.1]) (jsr<|jpc 1 rfl<|jot<|jbk<|
  jlp (fun s3 K=>K [(1, pt b1 0), (3, vb s3.1), (4, vi s3.2)] [bx b1 63 [vs y0.1, vb y0.2.1, vi y0.2.2.1, sv p1 y0.2.2.2.1 c1, vb y0.2.2.2.2.1, vs y0.2.2.2.2.2]] [Rl e_Literal p1 c1 y0.2.2.2.1]) (gv (fun _ k=>k) [0] ⟨gk 0,⟨⟩⟩)<|fun s3 _ k=>
  k<|jsq<|jsr<|jpc 1 rfl<|jfa 3 rfl<|jlo 0 rfl rfl rfl<|jpc 2 rfl<|jot<|jif rfl (jsk<|jtn<|jsq<|jbk<|
  jjc (fun s4 K=>K [(1, pt b1 0), (3, vb s4), (4, vi s3.2)] [bx b1 63 [vs y0.1, vb y0.2.1, vi y0.2.2.1, sv p1 y0.2.2.2.1 c1, vb y0.2.2.2.2.1, vs y0.2.2.2.2.2]] [Rl e_Literal p1 c1 y0.2.2.2.1]) (jrg<|jpc 2 rfl<|jsg 41 rfl (jfa 3 rfl<|
  jlo 0 rfl rfl rfl<|jpc 1 rfl<|jix 0 rfl rfl rfl<|fun x1 b2 o1=>jld true o_Literal (gk 0) rfl<|jcl c_ref01_Valid rfl ⟨⟩<|fun r5 _ k=>k<|jpe (vb r5)<|jpc 1 rfl<|joe<|jnn (gv (fun _ k=>k) [0] ⟨gk 1,⟨⟩⟩))<|jpc 6 rfl<|jpe (vb false)<|jpc 1 rfl<|
  joe<|jnn (gv (fun _ k=>k) [0] ⟨gk 0,⟨⟩⟩))<|fun s4 _ k=>k<|jbn<|jtn<|jrg<|jpc 3 rfl<|joe<|jln (gv (fun _ k=>k) [0] ⟨gk 0,⟨⟩⟩))<|jxe<|jte<|jle<|jbh<|jnn (gv (fun _ k=>k) [0] ⟨gk 0,⟨⟩⟩))<|fun s2 _ k=>k<|jsq<|jsr<|jpc 2 rfl<|jot<|jif rfl (jsr<|
  jpc 1 rfl<|jot<|jxr<|jtr<|jr1 rfl rfl (fun _ k=>k) [] ⟨⟩)<|jsk<|jtn<|jsq<|jsr<|jpc 1 rfl<|jot<|jbk<|
  jlp (fun s5 K=>K [(1, pt b1 0), (5, vi s5)] [bx b1 63 [vs y0.1, vb y0.2.1, vi y0.2.2.1, sv p1 y0.2.2.2.1 c1, vb y0.2.2.2.2.1, vs y0.2.2.2.2.2]] [Rl e_Literal p1 c1 y0.2.2.2.1]) (gv (fun _ k=>k) [0] ⟨gk 0,⟨⟩⟩)<|fun s5 _ k=>k<|jsq<|jsr<|
  jpc 1 rfl<|jfa 3 rfl<|jlo 0 rfl rfl rfl<|jpc 2 rfl<|jot<|jif rfl (jsk<|jtn<|jsq<|jbk<|jds [] [0] 13<|jdf 0 3 rfl rfl<|jdo 1 0 rfl rfl rfl rfl<|jdc 9 [2,3] rfl<|jdi 4 0 rfl rfl rfl rfl<|fun x2 b3 o2=>jdl 5 true o_Literal rfl (gk 0) rfl<|
  jdf 6 3 rfl rfl<|jdo 7 0 rfl rfl rfl rfl<|jdc 4 [8] rfl<|jdi 9 1 rfl rfl rfl rfl<|fun x3 b4 o3=>jdl 10 true o_Literal rfl (gk 0) rfl<|jd1 11<|jca (.f rfl) [] [] c_ref01_Compare rfl rfl rfl ⟨⟩<|fun r6 _ k=>k<|jdn<|jdc 0 [12] rfl<|jde<|jtn<|
  jif rfl (jsr<|jpc 1 rfl<|jot<|jxr<|jbr<|jtr<|jlr<|jbr<|jtr<|jr1 rfl rfl (fun _ k=>k) [] ⟨⟩)<|jsk<|jbn<|jtn<|jrg<|jpc 3 rfl<|joe<|jln (gv (fun _ k=>k) [0] ⟨gk 2,⟨⟩⟩))<|jxe<|jte<|jle<|jbh<|jtn<|jsr<|jpc 1 rfl<|jot<|jxr<|
  jr1 rfl rfl (fun _ k=>k) [] ⟨⟩

theorem c_ref05_Validate {qd : Prop} {y0 : T_Base} : Con qd Tryz.prog 23 [.agg #[sv p1 y0.1 c1, sv p2 y0.2.1 c2, sv p3 y0.2.2 c3]] [] [Rl e_Premise p1 c1 y0.1, Rl e_Rule p2 c2 y0.2.1, Rl e_Promotion p3 c3 y0.2.2] (m_ref05_Validate y0) fun r K=>K (vi r) [] [] :=
 ent3 Tryz.call23 Tryz.func23 rfl fun X=>jsr<|jbx .s rfl<|fun b1=>jpc 1 rfl<|jot<|jsq<|
  jjp (fun K=>K [(1, pt b1 0), (25, vb ((decide (16 < (len y0.1))) || ((decide (24 < (len y0.2.1))) || (decide (8 < (len y0.2.2))))))] [bx b1 32 [sv p1 y0.1 c1, sv p2 y0.2.1 c2, sv p3 y0.2.2 c3]] [Rl e_Premise p1 c1 y0.1, Rl e_Rule p2 c2 y0.2.1, Rl e_Promotion p3 c3 y0.2.2]) (
  jrg<|jfa 0 rfl<|jlo 0 rfl rfl rfl<|jpc 3 rfl<|jsp (b := decide (16 < (len y0.1))) 14 rfl (fun hb1=>jpc 4 rfl<|jpe (vb true)<|jpc 5 rfl<|jpe (vb true)<|joe<|
  jup 25 (vb ((decide (16 < (len y0.1))) || ((decide (24 < (len y0.2.1))) || (decide (8 < (len y0.2.2)))))) rfl (by rw [hb1]; rfl)<|jnn (gv (fun _ k=>k) [0] ⟨gk 0,gk 1,gk 2,⟨⟩⟩))<|fun hb1=>jfa 1 rfl<|jlo 0 rfl rfl rfl<|jpc 2 rfl<|
  jpe (vb (decide (24 < (len y0.2.1))))<|jpc 1 rfl<|jsp (b := decide (24 < (len y0.2.1))) 20 rfl (fun hb2=>jpc 4 rfl<|jpe (vb true)<|joe<|
  jup 25 (vb ((decide (16 < (len y0.1))) || ((decide (24 < (len y0.2.1))) || (decide (8 < (len y0.2.2)))))) rfl (by rw [hb1,hb2]; rfl)<|jnn (gv (fun _ k=>k) [0] ⟨gk 0,gk 1,gk 2,⟨⟩⟩))<|fun hb2=>jfa 2 rfl<|jlo 0 rfl rfl rfl<|jpc 2 rfl<|
  jpe (vb (decide (8 < (len y0.2.2))))<|joe<|jup 25 (vb ((decide (16 < (len y0.1))) || ((decide (24 < (len y0.2.1))) || (decide (8 < (len y0.2.2)))))) rfl (by rw [hb1,hb2]; rfl)<|jnn (gv (fun _ k=>k) [0] ⟨gk 0,gk 1,gk 2,⟨⟩⟩))<|fun _ k=>k<|
  jif rfl (jsr<|jpc 1 rfl<|jot<|jxr<|jtr<|jr1 rfl rfl (fun _ k=>k) [] ⟨⟩)<|jsk<|jtn<|
  jjo (fun s1 K=>K [(1, pt b1 0)] [bx b1 32 [sv p1 y0.1 c1, sv p2 y0.2.1 c2, sv p3 y0.2.2 c3]] [Rl e_Premise p1 c1 y0.1, Rl e_Rule p2 c2 y0.2.1, Rl e_Promotion p3 c3 y0.2.2]) (jsr<|jpc 1 rfl<|jot<|jbk<|
  jlp (fun s2 K=>K [(1, pt b1 0), (3, vi s2)] [bx b1 32 [sv p1 y0.1 c1, sv p2 y0.2.1 c2, sv p3 y0.2.2 c3]] [Rl e_Premise p1 c1 y0.1, Rl e_Rule p2 c2 y0.2.1, Rl e_Promotion p3 c3 y0.2.2]) (gv (fun _ k=>k) [0] ⟨gk 0,gk 1,gk 2,⟨⟩⟩)<|fun s2 _ k=>
  k<|jsq<|jsr<|jpc 1 rfl<|jfa 0 rfl<|jlo 0 rfl rfl rfl<|jpc 2 rfl<|jot<|jif rfl (jsk<|jtn<|jsq<|jbk<|jsq<|jsr<|jfa 0 rfl<|jlo 0 rfl rfl rfl<|jpc 1 rfl<|jix 0 rfl rfl rfl<|fun x1 b2 o1=>jld true o_Premise (gk 0) rfl<|
  jcl c_ref05_premise rfl ⟨⟩<|fun r1 _ k=>k<|jpc 1 rfl<|jot<|jsr<|jpc 2 rfl<|jot<|jif rfl (jsr<|jpc 2 rfl<|jot<|jxr<|jtr<|jbr<|jtr<|jlr<|jbr<|jlr<|jr1 rfl rfl (fun _ k=>k) [] ⟨⟩)<|jsk<|jtn<|jds [] [0] 10<|jda 0 0 3 rfl rfl rfl rfl<|
  jdf 1 0 rfl rfl<|jdo 2 0 rfl rfl rfl rfl<|jdc 6 [3] rfl<|jdi 4 1 rfl rfl rfl rfl<|fun x2 b3 o2=>jdf 5 0 rfl rfl<|jdl 6 true o_Literal rfl (gf (gk 0)) rfl<|jdc 2 [8] rfl<|jd1 7<|
  jca (.f rfl) [] [] c_ref05_Premise rfl rfl rfl ⟨ck 2,ck 3,ck 4,⟨⟩⟩<|fun r2 _ k=>k<|jdn<|jdc 0 [9] rfl<|jde<|jtn<|jif rfl (jsr<|jpc 1 rfl<|jot<|jxr<|jbr<|jtr<|jlr<|jbr<|jlr<|jr1 rfl rfl (fun _ k=>k) [] ⟨⟩)<|jsk<|jbn<|jtn<|jrg<|jpc 3 rfl<|
  joe<|jln (gv (fun _ k=>k) [0] ⟨gk 2,gk 3,gk 4,⟨⟩⟩))<|jxe<|jte<|jle<|jbh<|jln (gv (fun _ k=>k) [0] ⟨gk 0,gk 1,gk 2,⟨⟩⟩))<|fun s1 _ k=>k<|
  jjo (fun s3 K=>K [(1, pt b1 0)] [bx b1 32 [sv p1 y0.1 c1, sv p2 y0.2.1 c2, sv p3 y0.2.2 c3]] [Rl e_Premise p1 c1 y0.1, Rl e_Rule p2 c2 y0.2.1, Rl e_Promotion p3 c3 y0.2.2]) (jsr<|jpc 1 rfl<|jot<|jbk<|
  jlp (fun s4 K=>K [(1, pt b1 0), (5, vi s4)] [bx b1 32 [sv p1 y0.1 c1, sv p2 y0.2.1 c2, sv p3 y0.2.2 c3]] [Rl e_Premise p1 c1 y0.1, Rl e_Rule p2 c2 y0.2.1, Rl e_Promotion p3 c3 y0.2.2]) (gv (fun _ k=>k) [0] ⟨gk 0,gk 1,gk 2,⟨⟩⟩)<|fun s4 _ k=>
  k<|jsq<|jsr<|jpc 1 rfl<|jfa 1 rfl<|jlo 0 rfl rfl rfl<|jpc 2 rfl<|jot<|jif rfl (jsk<|jtn<|jsq<|jbk<|jsq<|jsr<|jfa 1 rfl<|jlo 0 rfl rfl rfl<|jpc 1 rfl<|jix 1 rfl rfl rfl<|fun x3 b4 o3=>jld true o_Rule (gk 0) rfl<|fun p4 c4=>
  jcl c_ref05_rule rfl ⟨ck 0,⟨⟩⟩<|fun r3 _ k=>k<|jpc 1 rfl<|jot<|jsr<|jpc 2 rfl<|jot<|jif rfl (jsr<|jpc 2 rfl<|jot<|jxr<|jtr<|jbr<|jtr<|jlr<|jbr<|jlr<|jr1 rfl rfl (fun _ k=>k) [] ⟨⟩)<|jsk<|jtn<|jds [] [0] 10<|jda 0 0 3 rfl rfl rfl rfl<|
  jdf 1 1 rfl rfl<|jdo 2 0 rfl rfl rfl rfl<|jdc 6 [3] rfl<|jdi 4 3 rfl rfl rfl rfl<|fun x4 b5 o4=>jdf 5 0 rfl rfl<|jdl 6 false oS rfl (gf (gk 0)) rfl<|jdc 2 [8] rfl<|jd1 7<|jca (.f rfl) [] [] c_ref05_Find rfl rfl rfl ⟨ck 3,ck 4,ck 5,⟨⟩⟩<|
  fun r4 _ k=>k<|jdn<|jdc 0 [9] rfl<|jde<|jtn<|jif rfl (jsr<|jpc 1 rfl<|jot<|jxr<|jbr<|jtr<|jlr<|jbr<|jlr<|jr1 rfl rfl (fun _ k=>k) [] ⟨⟩)<|jsk<|jbn<|jtn<|jrg<|jpc 3 rfl<|joe<|jln (gv (fun _ k=>k) [0] ⟨gk 3,gk 4,gk 5,⟨⟩⟩))<|jxe<|jte<|jle<|
  jbh<|jln (gv (fun _ k=>k) [0] ⟨gk 0,gk 1,gk 2,⟨⟩⟩))<|fun s3 _ k=>k<|jsq<|jsr<|jpc 1 rfl<|jot<|jbk<|
  jlp (fun s5 K=>K [(1, pt b1 0), (7, vi s5)] [bx b1 32 [sv p1 y0.1 c1, sv p2 y0.2.1 c2, sv p3 y0.2.2 c3]] [Rl e_Premise p1 c1 y0.1, Rl e_Rule p2 c2 y0.2.1, Rl e_Promotion p3 c3 y0.2.2]) (gv (fun _ k=>k) [0] ⟨gk 0,gk 1,gk 2,⟨⟩⟩)<|fun s5 _ k=>
  k<|jsq<|jsr<|jpc 1 rfl<|jfa 2 rfl<|jlo 0 rfl rfl rfl<|jpc 2 rfl<|jot<|jif rfl (jsk<|jtn<|jsq<|jbk<|jsr<|jfa 2 rfl<|jlo 0 rfl rfl rfl<|jpc 1 rfl<|jix 2 rfl rfl rfl<|fun x5 b6 o5=>jld true o_Promotion (gk 0) rfl<|
  jal .s (.agg #[vs [], vi 0, vb false, vs []])<|fun b7=>jso .s 1 rfl rfl rfl<|jot<|jsq<|
  jjn (fun s6 K=>K [(1, pt b1 0), (7, vi s5), (8, pt b7 0), (99, vb s6)] [bx b1 32 [sv p1 y0.1 c1, sv p2 y0.2.1 c2, sv p3 y0.2.2 c3], bx b7 66 [vs x5.1, vi x5.2.1, vb x5.2.2.1, vs x5.2.2.2]] [Rl e_Premise p1 c1 y0.1, Rl e_Rule p2 c2 y0.2.1, Rl e_Promotion p3 c3 y0.2.2]) (
  jrg<|jfa 1 rfl<|jlo 1 rfl rfl rfl<|jcl c_ref05_rank rfl ⟨⟩<|fun r5 _ k=>k<|jpc 2 rfl<|jsg 94 rfl (jpc 4 rfl<|jpe (vb true)<|joe<|jnn (gv (fun _ k=>k) [0,1] ⟨gk 1,gk 2,gk 3,⟨⟩⟩))<|jfa 2 rfl<|jla 1 2 rfl rfl rfl<|jcl c_ref01_Valid rfl ⟨⟩<|
  fun r6 _ k=>k<|jpc 1 rfl<|jpe (vb (!r6))<|joe<|jnn (gv (fun _ k=>k) [0,1] ⟨gk 1,gk 2,gk 3,⟨⟩⟩))<|fun s6 _ k=>k<|jif rfl (jsr<|jpc 1 rfl<|jot<|jxr<|jtr<|jbr<|jtr<|jlr<|jbr<|jtr<|jr1 rfl rfl (fun _ k=>k) [] ⟨⟩)<|jsk<|jtn<|jsr<|
  jla 0 3 rfl rfl rfl<|jfa 0 rfl<|jlo 1 rfl rfl rfl<|jcl c_ref05_Find rfl ⟨ck 0,ck 1,ck 2,⟨⟩⟩<|fun r7 _ k=>k<|jpc 1 rfl<|jot<|jsq<|jsr<|jpc 2 rfl<|jot<|jif rfl (jsr<|jpc 1 rfl<|jot<|jxr<|jtr<|jbr<|jtr<|jlr<|jbr<|jtr<|
  jr1 rfl rfl (fun _ k=>k) [] ⟨⟩)<|jsk<|jtn<|jsr<|jfa 1 rfl<|jlo 0 rfl rfl rfl<|jpc 1 rfl<|jix 1 rfl rfl rfl<|fun x6 b8 o6=>jfa 1 rfl<|jld false oB (gf (gs (gk 0))) rfl<|jot<|jif rfl (jsr<|jpc 1 rfl<|jot<|jxr<|jbr<|jtr<|jlr<|jbr<|jtr<|
  jr1 rfl rfl (fun _ k=>k) [] ⟨⟩)<|jsk<|jbn<|jtn<|jrg<|jpc 3 rfl<|joe<|jln (gv (fun _ k=>k) [0] ⟨gk 1,gk 2,gk 3,⟨⟩⟩))<|jxe<|jte<|jle<|jbh<|jtn<|jsr<|jpc 1 rfl<|jot<|jxr<|jr1 rfl rfl (fun _ k=>k) [] ⟨⟩

theorem c_ref05_Format {qd : Prop} {y0 : T_Base} : Con qd Tryz.prog 7 [.agg #[sv p1 y0.1 c1, sv p2 y0.2.1 c2, sv p3 y0.2.2 c3]] [] [Rl e_Premise p1 c1 y0.1, Rl e_Rule p2 c2 y0.2.1, Rl e_Promotion p3 c3 y0.2.2] (m_ref05_Format y0) fun r K=>K (.tuple #[vs r.1, vi r.2]) [] [] :=
 ent3 Tryz.call7 Tryz.func7 rfl fun X=>jsr<|jbx .s rfl<|fun b1=>jpc 2 rfl<|jot<|jsq<|jsr<|jla 0 3 rfl rfl rfl<|jcl c_ref05_Validate rfl ⟨ck 0,ck 1,ck 2,⟨⟩⟩<|fun r1 _ k=>k<|jpc 1 rfl<|jot<|jsr<|jpc 2 rfl<|jot<|jif rfl (jsr<|jpc 3 rfl<|jot<|jxr<|jtr<|
  jrg' rfl (lT rfl (lT rfl lN)) (fun _ k=>k) [] ⟨⟩)<|jsk<|jtn<|jsr<|jpc 1 rfl<|jot<|
  jjn (fun s1 K=>K [(1, pt b1 0), (5, vs s1)] [bx b1 32 [sv p1 y0.1 c1, sv p2 y0.2.1 c2, sv p3 y0.2.2 c3]] [Rl e_Premise p1 c1 y0.1, Rl e_Rule p2 c2 y0.2.1, Rl e_Promotion p3 c3 y0.2.2]) (jsr<|jpc 1 rfl<|jot<|jbk<|
  jlp (fun s2 K=>K [(1, pt b1 0), (5, vs s2.1), (6, vi s2.2)] [bx b1 32 [sv p1 y0.1 c1, sv p2 y0.2.1 c2, sv p3 y0.2.2 c3]] [Rl e_Premise p1 c1 y0.1, Rl e_Rule p2 c2 y0.2.1, Rl e_Promotion p3 c3 y0.2.2]) (gv (fun _ k=>k) [0] ⟨gk 0,gk 1,gk 2,⟨⟩⟩)<|
  fun s2 _ k=>k<|jsq<|jsr<|jpc 1 rfl<|jfa 0 rfl<|jlo 0 rfl rfl rfl<|jpc 2 rfl<|jot<|jif rfl (jsk<|jtn<|jsq<|jbk<|jrg<|jpc 1 rfl<|jfa 0 rfl<|jlo 0 rfl rfl rfl<|jpc 1 rfl<|jix 0 rfl rfl rfl<|fun x1 b2 o1=>jld true o_Premise (gk 0) rfl<|
  jcl c_ref05_PremiseLine rfl ⟨⟩<|fun r2 _ k=>k<|jbd fun x2 h1=>jv (fun h=>r_cat h rfl rfl h1)<|jbd fun x3 h2=>jv (fun h=>r_cat h rfl rfl h2)<|jpc 1 rfl<|joe<|jbn<|jtn<|jrg<|jpc 3 rfl<|joe<|jln (gv (fun _ k=>k) [0] ⟨gk 1,gk 2,gk 3,⟨⟩⟩))<|
  jxe<|jte<|jle<|jbh<|jnn (gv (fun _ k=>k) [0] ⟨gk 0,gk 1,gk 2,⟨⟩⟩))<|fun s1 _ k=>k<|
  jjn (fun s3 K=>K [(1, pt b1 0), (5, vs s3)] [bx b1 32 [sv p1 y0.1 c1, sv p2 y0.2.1 c2, sv p3 y0.2.2 c3]] [Rl e_Premise p1 c1 y0.1, Rl e_Rule p2 c2 y0.2.1, Rl e_Promotion p3 c3 y0.2.2]) (jsr<|jpc 1 rfl<|jot<|jbk<|
  jlp (fun s4 K=>K [(1, pt b1 0), (5, vs s4.1), (7, vi s4.2)] [bx b1 32 [sv p1 y0.1 c1, sv p2 y0.2.1 c2, sv p3 y0.2.2 c3]] [Rl e_Premise p1 c1 y0.1, Rl e_Rule p2 c2 y0.2.1, Rl e_Promotion p3 c3 y0.2.2]) (gv (fun _ k=>k) [0] ⟨gk 0,gk 1,gk 2,⟨⟩⟩)<|
  fun s4 _ k=>k<|jsq<|jsr<|jpc 1 rfl<|jfa 1 rfl<|jlo 0 rfl rfl rfl<|jpc 2 rfl<|jot<|jif rfl (jsk<|jtn<|jsq<|jbk<|jrg<|jpc 1 rfl<|jfa 1 rfl<|jlo 0 rfl rfl rfl<|jpc 1 rfl<|jix 1 rfl rfl rfl<|fun x4 b3 o2=>jld true o_Rule (gk 0) rfl<|fun p4 c4=>
  jcl c_ref05_RuleLine rfl ⟨ck 0,⟨⟩⟩<|fun r3 _ k=>k<|jbd fun x5 h3=>jv (fun h=>r_cat h rfl rfl h3)<|jbd fun x6 h4=>jv (fun h=>r_cat h rfl rfl h4)<|jpc 1 rfl<|joe<|jbn<|jtn<|jrg<|jpc 3 rfl<|joe<|jln (gv (fun _ k=>k) [0] ⟨gk 2,gk 3,gk 4,⟨⟩⟩))<|
  jxe<|jte<|jle<|jbh<|jnn (gv (fun _ k=>k) [0] ⟨gk 0,gk 1,gk 2,⟨⟩⟩))<|fun s3 _ k=>k<|jjn (fun s5 K=>K [(5, vs s5)] [[]] []) (jsr<|jpc 1 rfl<|jot<|jbk<|
  jlp (fun s6 K=>K [(1, pt b1 0), (5, vs s6.1), (8, vi s6.2)] [bx b1 32 [sv p1 y0.1 c1, sv p2 y0.2.1 c2, sv p3 y0.2.2 c3]] [Rl e_Premise p1 c1 y0.1, Rl e_Rule p2 c2 y0.2.1, Rl e_Promotion p3 c3 y0.2.2]) (gv (fun _ k=>k) [0] ⟨gk 0,gk 1,gk 2,⟨⟩⟩)<|
  fun s6 _ k=>k<|jsq<|jsr<|jpc 1 rfl<|jfa 2 rfl<|jlo 0 rfl rfl rfl<|jpc 2 rfl<|jot<|jif rfl (jsk<|jtn<|jsq<|jbk<|jrg<|jpc 1 rfl<|jfa 2 rfl<|jlo 0 rfl rfl rfl<|jpc 1 rfl<|jix 2 rfl rfl rfl<|fun x7 b4 o3=>jld true o_Promotion (gk 0) rfl<|
  jcl c_ref05_PromotionLine rfl ⟨⟩<|fun r4 _ k=>k<|jbd fun x8 h5=>jv (fun h=>r_cat h rfl rfl h5)<|jbd fun x9 h6=>jv (fun h=>r_cat h rfl rfl h6)<|jpc 1 rfl<|joe<|jbn<|jtn<|jrg<|jpc 3 rfl<|joe<|jln (gv (fun _ k=>k) [0] ⟨gk 1,gk 2,gk 3,⟨⟩⟩))<|
  jxe<|jte<|jle<|jbh<|jnn (gv (fun _ k=>k) [900] ⟨⟩))<|fun s5 _ k=>k<|jsq<|jsr<|jpc 3 rfl<|jot<|jif rfl (jsr<|jpc 2 rfl<|jot<|jxr<|jtr<|jrg' rfl (lT rfl (lT rfl lN)) (fun _ k=>k) [] ⟨⟩)<|jsk<|jtn<|jsr<|jpc 3 rfl<|jot<|jxr<|
  jrg' rfl (lT rfl (lT rfl lN)) (fun _ k=>k) [] ⟨⟩

theorem c_ref05_Split {qd : Prop} {y0 : Str} {y1 : Int} : Con qd Tryz.prog 36 [vs y0, .int .u8 y1] [] [] (m_ref05_Split y0 y1) fun r K=>∀ p1 c1,K (sv p1 r c1) [] [Rl eStr p1 c1 r] :=
 ent3 Tryz.call36 Tryz.func36 rfl fun X=>jsr<|jpc 1 rfl<|jot<|jsr<|jpc 1 rfl<|jro eStr 9<|jot<|jsr<|jpc 1 rfl<|jot<|jjn (fun s1 K=>∀ p1 c1 r_1,K [(0, vs y0), (5, sv p1 s1.1 c1), (6, vi s1.2)] [r_1] [Al eStr 9 r_1 p1 c1 s1.1]) (jsr<|jpc 1 rfl<|jot<|jbk<|
  jlp (fun s2 K=>∀ p2 c2 r_2,K [(0, vs y0), (1, .int .u8 y1), (5, sv p2 s2.1 c2), (6, vi s2.2.1), (7, vi s2.2.2)] [r_2] [Al eStr 9 r_2 p2 c2 s2.1]) (gv (fun _ k=>k none 0 []) [0] ⟨gk 0,⟨⟩⟩)<|fun s2 _ k p2 c2 r_2=>k<|jsq<|jsr<|jpc 4 rfl<|jot<|
  jif rfl (jsk<|jtn<|jsq<|jbk<|jsr<|jpc 2 rfl<|jbd fun x1 h1=>jv (fun h=>r_sidx h rfl rfl Tryz.underlying9 h1)<|jpc 2 rfl<|jot<|jif rfl (jsr<|jpc 4 rfl<|jbd fun x2 h2=>
  jv (fun h=>r_ssub h rfl Tryz.underlying9 rfl rfl (.inr ⟨_, rfl⟩) (.inr ⟨_, rfl⟩) h2)<|jbs .s (e := eStr) 9 [vs x2] ([x2] : List Str) (rC vS rN)<|fun p3 c3=>jar .s 0 1 rfl (gk 0) rfl rfl<|fun x3 r_3 p4 c4=>jpc 1 rfl<|jot<|jrg<|jpc 3 rfl<|
  joe<|jbn<|jtn<|jrg<|jpc 3 rfl<|joe<|jln (gv (fun _ k=>k p4 c4 r_3) [0] ⟨gk 0,⟨⟩⟩))<|jsk<|jbn<|jtn<|jrg<|jpc 3 rfl<|joe<|jln (gv (fun _ k=>k p2 c2 r_2) [0] ⟨gk 0,⟨⟩⟩))<|jxe<|jte<|jle<|jbh<|jnn (gv (fun _ k=>k p2 c2 r_2) [0] ⟨gk 0,⟨⟩⟩))<|
  fun s1 _ k p1 c1 r_1=>k<|jsr<|jpc 3 rfl<|jbd fun x4 h4=>jv (fun h=>r_ssub h rfl Tryz.underlying9 rfl rfl (.inr ⟨_, rfl⟩) (.inl ⟨rfl, rfl⟩) h4)<|jbs .s (e := eStr) 9 [vs x4] ([x4] : List Str) (rC vS rN)<|fun p5 c5=>
  jar .s 0 1 rfl (gk 0) rfl rfl<|fun x5 r_4 p6 c6=>jpc 1 rfl<|jot<|jxr<|jsh 0 0 rfl rfl<|jr1 rfl rfl (fun _ k=>k p6 c6) [] ⟨gk 0,⟨⟩⟩

theorem c_ref01_Parse {qd : Prop} {y0 : Str} : Con qd Tryz.prog 105 [vs y0] [] [] (m_ref01_Parse y0) fun r K=>K (.tuple #[.agg #[vb r.1.1, vs r.1.2], vi r.2]) [] [] :=
 ent3 Tryz.call105 Tryz.func105 rfl fun X=>jsr<|jal .s (.agg #[vb false, vs []])<|fun b1=>jpc 1 rfl<|jot<|jsr<|jpc 1 rfl<|jpe (.agg #[vb false, vs y0])<|jal .s (.agg #[vb false, vs []])<|fun b2=>jso .s 1 rfl rfl rfl<|jot<|
  jjn (fun s1 K=>K [(2, pt b1 0), (4, pt b2 0)] [bx b1 58 [vb false, vs []], bx b2 58 [vb s1.1, vs s1.2]] []) (
  jjn (fun s2 K=>K [(0, vs y0), (2, pt b1 0), (4, pt b2 0), (14, vb s2)] [bx b1 58 [vb false, vs []], bx b2 58 [vb false, vs y0]] []) (jrg<|jpc 4 rfl<|jsg 10 rfl (jpc 1 rfl<|jbd fun x1 h1=>jv (fun h=>r_sidx h rfl rfl Tryz.underlying9 h1)<|
  jpc 1 rfl<|jpe (vb (x1 == 126))<|joe<|jnn (gv (fun _ k=>k) [0,1] ⟨⟩))<|jpc 3 rfl<|jpe (vb false)<|joe<|jnn (gv (fun _ k=>k) [0,1] ⟨⟩))<|fun s2 _ k=>k<|jif rfl (jrg<|jpc 1 rfl<|jbd fun x2 h2=>
  jv (fun h=>r_ssub h rfl Tryz.underlying9 rfl rfl (.inr ⟨_, rfl⟩) (.inl ⟨rfl, rfl⟩) h2)<|jpe (.agg #[vb true, vs x2])<|jso .s 1 rfl rfl rfl<|joe<|jnn (gv (fun _ k=>k) [0,1] ⟨⟩))<|jsk<|jnn (gv (fun _ k=>k) [0,1] ⟨⟩))<|fun s1 _ k=>k<|jsq<|
  jsr<|jla 1 2 rfl rfl rfl<|jcl c_ref01_Valid rfl ⟨⟩<|fun r1 _ k=>k<|jpc 1 rfl<|jot<|jif rfl (jsr<|jpe (.agg #[vb false, vs []])<|jso .s 0 rfl rfl rfl<|jpc 1 rfl<|jot<|jxr<|jtr<|
  jrg' rfl (lC 0 (.agg #[vb false, vs []]) rfl rfl (lT rfl lN)) (fun _ k=>k) [] ⟨⟩)<|jsk<|jtn<|jsr<|jla 1 2 rfl rfl rfl<|jso .s 0 rfl rfl rfl<|jpc 1 rfl<|jot<|jxr<|
  jrg' rfl (lC 0 (.agg #[vb s1.1, vs s1.2]) rfl rfl (lT rfl lN)) (fun _ k=>k) [] ⟨⟩

theorem c_ref05_at {qd : Prop} {y0 : List Str} {y1 : Int} : Con qd Tryz.prog 104 [sv p1 y0 c1, vi y1] [] [Rl eStr p1 c1 y0] (m_ref05_at y0 y1) fun r K=>K (vs r) [] [] :=
 ent3 Tryz.call104 Tryz.func104 rfl fun X=>jsr<|jpc 1 rfl<|jot<|jsq<|jjp (fun K=>K [(0, sv p1 y0 c1), (1, vi y1), (12, vb ((decide (0 ≤ y1)) && (decide (y1 < (len y0)))))] [] [Rl eStr p1 c1 y0]) (jrg<|jpc 3 rfl<|jsp (b := decide (0 ≤ y1)) 7 rfl (fun hb1=>jpc 4 rfl<|
  jpe (vb (decide (y1 < (len y0))))<|joe<|jup 12 (vb ((decide (0 ≤ y1)) && (decide (y1 < (len y0))))) rfl (by rw [hb1]; rfl)<|jnn (gv (fun _ k=>k) [] ⟨gk 0,⟨⟩⟩))<|fun hb1=>jpc 4 rfl<|jpe (vb false)<|joe<|
  jup 12 (vb ((decide (0 ≤ y1)) && (decide (y1 < (len y0))))) rfl (by rw [hb1]; rfl)<|jnn (gv (fun _ k=>k) [] ⟨gk 0,⟨⟩⟩))<|fun _ k=>k<|jif rfl (jsr<|jpc 2 rfl<|jix 0 rfl rfl rfl<|fun x1 b1 o1=>jld false oS (gk 0) rfl<|jpc 1 rfl<|jot<|jxr<|
  jtr<|jr1 rfl rfl (fun _ k=>k) [] ⟨⟩)<|jsk<|jtn<|jsr<|jpc 1 rfl<|jot<|jxr<|jr1 rfl rfl (fun _ k=>k) [] ⟨⟩

theorem c_ref05_number {qd : Prop} {y0 : Str} : Con qd Tryz.prog 103 [vs y0] [] [] (m_ref05_number y0) fun r K=>K (vi r) [] [] :=
 ent3 Tryz.call103 Tryz.func103 rfl fun X=>jsr<|jpc 1 rfl<|jot<|jsq<|jjn (fun s1 K=>K [(0, vs y0), (15, vb s1)] [] []) (jrg<|jpc 4 rfl<|jsg 6 rfl (jpc 3 rfl<|jpe (vb true)<|jpc 4 rfl<|jpe (vb true)<|joe<|jnn (gv (fun _ k=>k) [] ⟨⟩))<|jpc 1 rfl<|jbd fun x1 h1=>
  jv (fun h=>r_sidx h rfl rfl Tryz.underlying9 h1)<|jpc 1 rfl<|jpe (vb (decide (x1 < 48)))<|jpc 1 rfl<|jsg 11 rfl (jpc 3 rfl<|jpe (vb true)<|joe<|jnn (gv (fun _ k=>k) [] ⟨⟩))<|jpc 1 rfl<|jbd fun x2 h2=>
  jv (fun h=>r_sidx h rfl rfl Tryz.underlying9 h2)<|jpc 1 rfl<|jpe (vb (decide (57 < x2)))<|joe<|jnn (gv (fun _ k=>k) [] ⟨⟩))<|fun s1 _ k=>k<|jif rfl (jsr<|jpc 1 rfl<|jot<|jxr<|jtr<|jr1 rfl rfl (fun _ k=>k) [] ⟨⟩)<|jsk<|jtn<|jsr<|jpc 1 rfl<|
  jbd fun x3 h3=>jv (fun h=>r_sidx h rfl rfl Tryz.underlying9 h3)<|jpc 1 rfl<|jpe (vi (w64 (IntKind.u8.wrap (x3 - 48))))<|jpc 1 rfl<|jot<|jxr<|jr1 rfl rfl (fun _ k=>k) [] ⟨⟩

theorem c_ref05_premiseOf {qd : Prop} {y0 : Str} {y1 : List Str} : Con qd Tryz.prog 79 [vs y0, sv p1 y1 c1] [] [Rl eStr p1 c1 y1] (m_ref05_premiseOf y0 y1) fun r K=>∀ p2 c2,K (.agg #[vi r.1, vb r.2.1.1.1, vs r.2.1.1.2, vi r.2.1.2.1, vi r.2.1.2.2.1, vs r.2.1.2.2.2, vs r.2.2.1.1, vb r.2.2.1.2.1, vi r.2.2.1.2.2.1, sv p2 r.2.2.1.2.2.2.1 c2, vb r.2.2.1.2.2.2.2.1, vs r.2.2.1.2.2.2.2.2, vs r.2.2.2.1, vi r.2.2.2.2.1, vb r.2.2.2.2.2.1, vs r.2.2.2.2.2.2]) [] [Rl e_Literal p2 c2 r.2.2.1.2.2.2.1] :=
 ent3 Tryz.call79 Tryz.func79 rfl fun X=>jsr<|jal .s (.agg #[vi 0, vb false, vs [], vi 0, vi 0, vs [], vs [], vb false, vi 0, .slice none 0 0, vb false, vs [], vs [], vi 0, vb false, vs []])<|fun b1=>jot<|jsr<|jpe (.agg #[vb false, vs [], vi 1, vi 0, vs []])<|
  jal .s (.agg #[vb false, vs [], vi 0, vi 0, vs []])<|fun b2=>jso .s 1 rfl rfl rfl<|jot<|jsr<|jpc 1 rfl<|jot<|
  jjn (fun s1 K=>K [(0, vs y0), (1, sv p1 y1 c1), (4, pt b1 0), (5, pt b2 0), (6, vi s1.1)] [bx b1 83 [vi 0, vb false, vs [], vi 0, vi 0, vs [], vs [], vb false, vi 0, .slice none 0 0, vb false, vs [], vs [], vi 0, vb false, vs []], bx b2 60 [vb false, vs [], vi s1.2.1, vi s1.2.2, vs []]] [Rl eStr p1 c1 y1]) (
  jsr<|jpc 1 rfl<|jix 0 rfl rfl rfl<|fun x1 b3 o1=>jld false oS (gk 0) rfl<|jot<|jbk<|jsr<|jpc 2 rfl<|jot<|jif rfl (jrg<|jpc 1 rfl<|jcl c_ref05_at rfl ⟨ck 1,⟨⟩⟩<|fun r1 _ k=>k<|jcl c_ref05_number rfl ⟨⟩<|fun r2 _ k=>k<|jfa 2 rfl<|
  jso .s 1 rfl rfl rfl<|jfa 3 rfl<|jso .s 1 rfl rfl rfl<|jpc 1 rfl<|joe<|jbn<|jnn (gv (fun _ k=>k) [0,1] ⟨gk 1,⟨⟩⟩))<|jsr<|jpc 2 rfl<|jot<|jif rfl (jrg<|jfa 2 rfl<|jso .s 1 rfl rfl rfl<|joe<|jbn<|jnn (gv (fun _ k=>k) [0,1] ⟨gk 1,⟨⟩⟩))<|jsk<|
  jbn<|jnn (gv (fun _ k=>k) [0,1] ⟨gk 1,⟨⟩⟩))<|fun s1 _ k=>k<|jsr<|jpc 1 rfl<|jcl c_ref05_at rfl ⟨ck 0,⟨⟩⟩<|fun r3 _ k=>k<|jcl c_ref01_Parse rfl ⟨⟩<|fun r4 _ k=>k<|jpc 3 rfl<|jal .s (.agg #[vb false, vs []])<|fun b4=>jso .s 2 rfl rfl rfl<|
  jpc 1 rfl<|jot<|jsr<|jla 2 2 rfl rfl rfl<|jfa 0 rfl<|jso .s 1 rfl rfl rfl<|jot<|
  jjn (fun s2 K=>K [(0, vs y0), (4, pt b1 0), (5, pt b2 0), (8, vi r4.2)] [bx b1 83 [vi 0, vb false, vs [], vi 0, vi 0, vs [], vs [], vb false, vi 0, .slice none 0 0, vb false, vs [], vs [], vi 0, vb false, vs []], bx b2 60 [vb r4.1.1, vs r4.1.2, vi s1.2.1, vi s1.2.2, vs s2], []] []) (
  jsr<|jpc 2 rfl<|jcl c_ref05_at rfl ⟨ck 0,⟨⟩⟩<|fun r5 _ k=>k<|jpc 1 rfl<|jot<|jif rfl (jrg<|jpc 3 rfl<|jcl c_ref05_at rfl ⟨ck 0,⟨⟩⟩<|fun r6 _ k=>k<|jfa 4 rfl<|jso .s 1 rfl rfl rfl<|joe<|jnn (gv (fun _ k=>k) [0,1,902] ⟨⟩))<|jsk<|
  jnn (gv (fun _ k=>k) [0,1,902] ⟨⟩))<|fun s2 _ k=>k<|jsq<|
  jjn (fun s3 K=>K [(4, pt b1 0), (5, pt b2 0), (52, vb s3)] [bx b1 83 [vi 0, vb false, vs [], vi 0, vi 0, vs [], vs [], vb false, vi 0, .slice none 0 0, vb false, vs [], vs [], vi 0, vb false, vs []], bx b2 60 [vb r4.1.1, vs r4.1.2, vi s1.2.1, vi s1.2.2, vs s2], []] []) (
  jrg<|jpc 3 rfl<|jsg 42 rfl (jpc 3 rfl<|jpe (vb true)<|jpc 5 rfl<|jpe (vb true)<|joe<|jnn (gv (fun _ k=>k) [0,1,902] ⟨⟩))<|jla 1 5 rfl rfl rfl<|jcl c_ref05_premise rfl ⟨⟩<|fun r7 _ k=>k<|jpc 1 rfl<|jpe (vb (r7 != 0))<|jpc 1 rfl<|jsg 47 rfl (
  jpc 4 rfl<|jpe (vb true)<|joe<|jnn (gv (fun _ k=>k) [0,1,902] ⟨⟩))<|jla 1 5 rfl rfl rfl<|jcl c_ref05_PremiseLine rfl ⟨⟩<|fun r8 _ k=>k<|jpc 2 rfl<|jpe (vb (!(r8 == y0)))<|joe<|jnn (gv (fun _ k=>k) [0,1,902] ⟨⟩))<|fun s3 _ k=>k<|jif rfl (
  jsr<|jpe (.agg #[vi 0, vb false, vs [], vi 0, vi 0, vs [], vs [], vb false, vi 0, .slice none 0 0, vb false, vs [], vs [], vi 0, vb false, vs []])<|jso .s 0 rfl rfl rfl<|jot<|jxr<|jtr<|
  jrg' rfl (lC 0 (.agg #[vi 0, vb false, vs [], vi 0, vi 0, vs [], vs [], vb false, vi 0, .slice none 0 0, vb false, vs [], vs [], vi 0, vb false, vs []]) rfl rfl lN) (fun _ k=>k none 0) [] ⟨gn,⟨⟩⟩)<|jsk<|jtn<|jsr<|jla 1 5 rfl rfl rfl<|
  jpe (.agg #[vi 1, vb r4.1.1, vs r4.1.2, vi s1.2.1, vi s1.2.2, vs s2, vs [], vb false, vi 0, .slice none 0 0, vb false, vs [], vs [], vi 0, vb false, vs []])<|jso .s 0 rfl rfl rfl<|jot<|jxr<|
  jrg' rfl (lC 0 (.agg #[vi 1, vb r4.1.1, vs r4.1.2, vi s1.2.1, vi s1.2.2, vs s2, vs [], vb false, vi 0, .slice none 0 0, vb false, vs [], vs [], vi 0, vb false, vs []]) rfl rfl lN) (fun _ k=>k none 0) [] ⟨gn,⟨⟩⟩

theorem c_ref05_promotionOf {qd : Prop} {y0 : Str} {y1 : List Str} : Con qd Tryz.prog 81 [vs y0, sv p1 y1 c1] [] [Rl eStr p1 c1 y1] (m_ref05_promotionOf y0 y1) fun r K=>∀ p2 c2,K (.agg #[vi r.1, vb r.2.1.1.1, vs r.2.1.1.2, vi r.2.1.2.1, vi r.2.1.2.2.1, vs r.2.1.2.2.2, vs r.2.2.1.1, vb r.2.2.1.2.1, vi r.2.2.1.2.2.1, sv p2 r.2.2.1.2.2.2.1 c2, vb r.2.2.1.2.2.2.2.1, vs r.2.2.1.2.2.2.2.2, vs r.2.2.2.1, vi r.2.2.2.2.1, vb r.2.2.2.2.2.1, vs r.2.2.2.2.2.2]) [] [Rl e_Literal p2 c2 r.2.2.1.2.2.2.1] :=
 ent3 Tryz.call81 Tryz.func81 rfl fun X=>jsr<|jal .s (.agg #[vi 0, vb false, vs [], vi 0, vi 0, vs [], vs [], vb false, vi 0, .slice none 0 0, vb false, vs [], vs [], vi 0, vb false, vs []])<|fun b1=>jot<|jsr<|jpc 1 rfl<|jcl c_ref05_at rfl ⟨ck 0,⟨⟩⟩<|fun r1 _ k=>k<|
  jcl c_ref01_Parse rfl ⟨⟩<|fun r2 _ k=>k<|jpc 3 rfl<|jal .s (.agg #[vb false, vs []])<|fun b2=>jso .s 1 rfl rfl rfl<|jpc 1 rfl<|jot<|
  jjn (fun s1 K=>∀ b3,K [(0, vs y0), (4, pt b1 0), (6, vi r2.2), (7, pt b3 0)] [bx b1 83 [vi 0, vb false, vs [], vi 0, vi 0, vs [], vs [], vb false, vi 0, .slice none 0 0, vb false, vs [], vs [], vi 0, vb false, vs []], [], bx b3 66 [vs s1.1, vi s1.2.1, vb s1.2.2.1, vs s1.2.2.2]] []) (
  jdS [] [1] 9<|jdc 7 [0,2] rfl<|jda 5 1 2 rfl rfl rfl rfl<|jd2 1 7 (jca (.f rfl) [] [] c_ref05_at rfl rfl rfl ⟨ck 0,⟨⟩⟩<|fun r3 _ k=>k<|jdn<|jd2 3 7 (jca (.f rfl) [] [] c_ref05_at rfl rfl rfl ⟨ck 0,⟨⟩⟩<|fun r4 _ k=>k<|jdn<|jd2 4 7 (
  jca (.f rfl) [] [] c_ref05_number rfl rfl rfl ⟨⟩<|fun r5 _ k=>k<|jdn<|jdp 6 (.agg #[vs r3, vi r5, vb r2.1.1, vs r2.1.2]) rfl<|jd1 7<|jal (.f rfl) (.agg #[vs [], vi 0, vb false, vs []])<|fun b4=>jdn<|jd1 8<|
  jso (o := 0) (.f rfl) 2 rfl rfl rfl<|jdn<|jde<|jnn (gv (fun _ k=>k b4) [0,901,2] ⟨⟩)) <|jal (.f rfl) (.agg #[vs [], vi 0, vb false, vs []])<|fun b5=>jdn<|jd1 4<|jca (.f rfl) [] [] c_ref05_number rfl rfl rfl ⟨⟩<|fun r6 _ k=>k<|jdn<|
  jdp 6 (.agg #[vs r3, vi r6, vb r2.1.1, vs r2.1.2]) rfl<|jd1 8<|jso (o := 0) (.f rfl) 2 rfl rfl rfl<|jdn<|jde<|jnn (gv (fun _ k=>k b5) [0,901,2] ⟨⟩)) <|jal (.f rfl) (.agg #[vs [], vi 0, vb false, vs []])<|fun b6=>jdn<|jd1 3<|
  jca (.f rfl) [] [] c_ref05_at rfl rfl rfl ⟨ck 0,⟨⟩⟩<|fun r7 _ k=>k<|jdn<|jd1 4<|jca (.f rfl) [] [] c_ref05_number rfl rfl rfl ⟨⟩<|fun r8 _ k=>k<|jdn<|jdp 6 (.agg #[vs r3, vi r8, vb r2.1.1, vs r2.1.2]) rfl<|jd1 8<|
  jso (o := 0) (.f rfl) 2 rfl rfl rfl<|jdn<|jde<|jnn (gv (fun _ k=>k b6) [0,901,2] ⟨⟩)) <|jal (.f rfl) (.agg #[vs [], vi 0, vb false, vs []])<|fun b7=>jdn<|jd1 1<|jca (.f rfl) [] [] c_ref05_at rfl rfl rfl ⟨ck 0,⟨⟩⟩<|fun r9 _ k=>k<|jdn<|
  jd1 3<|jca (.f rfl) [] [] c_ref05_at rfl rfl rfl ⟨ck 0,⟨⟩⟩<|fun r10 _ k=>k<|jdn<|jd1 4<|jca (.f rfl) [] [] c_ref05_number rfl rfl rfl ⟨⟩<|fun r11 _ k=>k<|jdn<|jdp 6 (.agg #[vs r9, vi r11, vb r2.1.1, vs r2.1.2]) rfl<|jd1 8<|
  jso (o := 0) (.f rfl) 2 rfl rfl rfl<|jdn<|jde<|jnn (gv (fun _ k=>k b7) [0,901,2] ⟨⟩))<|fun s1 _ k b3=>k<|jsq<|
  jjn (fun s2 K=>K [(4, pt b1 0), (7, pt b3 0), (40, vb s2)] [bx b1 83 [vi 0, vb false, vs [], vi 0, vi 0, vs [], vs [], vb false, vi 0, .slice none 0 0, vb false, vs [], vs [], vi 0, vb false, vs []], [], bx b3 66 [vs s1.1, vi s1.2.1, vb s1.2.2.1, vs s1.2.2.2]] []) (
  jrg<|jpc 3 rfl<|jsg 23 rfl (jpc 4 rfl<|jpe (vb true)<|jpc 5 rfl<|jpe (vb true)<|jpc 5 rfl<|jpe (vb true)<|joe<|jnn (gv (fun _ k=>k) [0,901,2] ⟨⟩))<|jfa 0 rfl<|jlo 2 rfl rfl rfl<|jcl c_ref01_ValidName rfl ⟨⟩<|fun r12 _ k=>k<|jpc 1 rfl<|
  jpe (vb (!r12))<|jpc 1 rfl<|jsg 29 rfl (jpc 4 rfl<|jpe (vb true)<|jpc 5 rfl<|jpe (vb true)<|joe<|jnn (gv (fun _ k=>k) [0,901,2] ⟨⟩))<|jfa 1 rfl<|jlo 2 rfl rfl rfl<|jcl c_ref05_rank rfl ⟨⟩<|fun r13 _ k=>k<|jpc 1 rfl<|jpe (vb (!r13))<|
  jpc 1 rfl<|jsg 35 rfl (jpc 4 rfl<|jpe (vb true)<|joe<|jnn (gv (fun _ k=>k) [0,901,2] ⟨⟩))<|jla 2 4 rfl rfl rfl<|jcl c_ref05_PromotionLine rfl ⟨⟩<|fun r14 _ k=>k<|jpc 2 rfl<|jpe (vb (!(r14 == y0)))<|joe<|jnn (gv (fun _ k=>k) [0,901,2] ⟨⟩))<|
  fun s2 _ k=>k<|jif rfl (jsr<|jpe (.agg #[vi 0, vb false, vs [], vi 0, vi 0, vs [], vs [], vb false, vi 0, .slice none 0 0, vb false, vs [], vs [], vi 0, vb false, vs []])<|jso .s 0 rfl rfl rfl<|jot<|jxr<|jtr<|
  jrg' rfl (lC 0 (.agg #[vi 0, vb false, vs [], vi 0, vi 0, vs [], vs [], vb false, vi 0, .slice none 0 0, vb false, vs [], vs [], vi 0, vb false, vs []]) rfl rfl lN) (fun _ k=>k none 0) [] ⟨gn,⟨⟩⟩)<|jsk<|jtn<|jsr<|jla 2 4 rfl rfl rfl<|
  jpe (.agg #[vi 3, vb false, vs [], vi 0, vi 0, vs [], vs [], vb false, vi 0, .slice none 0 0, vb false, vs [], vs s1.1, vi s1.2.1, vb s1.2.2.1, vs s1.2.2.2])<|jso .s 0 rfl rfl rfl<|jot<|jxr<|
  jrg' rfl (lC 0 (.agg #[vi 3, vb false, vs [], vi 0, vi 0, vs [], vs [], vb false, vi 0, .slice none 0 0, vb false, vs [], vs s1.1, vi s1.2.1, vb s1.2.2.1, vs s1.2.2.2]) rfl rfl lN) (fun _ k=>k none 0) [] ⟨gn,⟨⟩⟩

theorem c_ref05_ruleOf {qd : Prop} {y0 : Str} {y1 : List Str} : Con qd Tryz.prog 80 [vs y0, sv p1 y1 c1] [] [Rl eStr p1 c1 y1] (m_ref05_ruleOf y0 y1) fun r K=>∀ p2 c2,K (.agg #[vi r.1, vb r.2.1.1.1, vs r.2.1.1.2, vi r.2.1.2.1, vi r.2.1.2.2.1, vs r.2.1.2.2.2, vs r.2.2.1.1, vb r.2.2.1.2.1, vi r.2.2.1.2.2.1, sv p2 r.2.2.1.2.2.2.1 c2, vb r.2.2.1.2.2.2.2.1, vs r.2.2.1.2.2.2.2.2, vs r.2.2.2.1, vi r.2.2.2.2.1, vb r.2.2.2.2.2.1, vs r.2.2.2.2.2.2]) [] [Rl e_Literal p2 c2 r.2.2.1.2.2.2.1] :=
 ent3 Tryz.call80 Tryz.func80 rfl fun X=>jsr<|jal .s (.agg #[vi 0, vb false, vs [], vi 0, vi 0, vs [], vs [], vb false, vi 0, .slice none 0 0, vb false, vs [], vs [], vi 0, vb false, vs []])<|fun b1=>jot<|
  jjn (fun s1 K=>∀ b2 p2 c2 r_1,K [(0, vs y0), (1, sv p1 y1 c1), (4, pt b1 0), (5, pt b2 0)] [bx b1 83 [vi 0, vb false, vs [], vi 0, vi 0, vs [], vs [], vb false, vi 0, .slice none 0 0, vb false, vs [], vs [], vi 0, vb false, vs []], bx b2 63 [vs s1.1, vb s1.2.1, vi s1.2.2.1, sv p2 s1.2.2.2.1 c2, vb s1.2.2.2.2.1, vs s1.2.2.2.2.2], r_1] [Al e_Literal 58 r_1 p2 c2 s1.2.2.2.1, Rl eStr p1 c1 y1]) (
  jdS [] [] 9<|jdc 8 [0] rfl<|jdi 1 0 rfl rfl rfl rfl<|fun x1 b3 o1=>jdl 2 false oS rfl (gk 0) rfl<|jdc 4 [3,4] rfl<|jd2 5 7 (jca (.f rfl) [] [] c_ref05_at rfl rfl rfl ⟨ck 1,⟨⟩⟩<|fun r1 _ k=>k<|jdn<|
  jdp 6 (.agg #[vs r1, vb (x1 == [115, 116, 114, 105, 99, 116]), vi 0, .slice none 0 0, vb false, vs []]) rfl<|jro e_Literal 58<|jd1 7<|jal (.f rfl) (.agg #[vs [], vb false, vi 0, .slice none 0 0, vb false, vs []])<|fun b4=>jdn<|jd1 8<|
  jso (o := 0) (.f rfl) 2 rfl rfl rfl<|jdn<|jde<|jnn (gv (fun _ k=>k b4 none 0 []) [0,2,1] ⟨gk 0,gk 2,⟨⟩⟩)) <|jal (.f rfl) (.agg #[vs [], vb false, vi 0, .slice none 0 0, vb false, vs []])<|fun b5=>jdn<|jd1 5<|
  jca (.f rfl) [] [] c_ref05_at rfl rfl rfl ⟨ck 1,⟨⟩⟩<|fun r2 _ k=>k<|jdn<|jdp 6 (.agg #[vs r2, vb (x1 == [115, 116, 114, 105, 99, 116]), vi 0, .slice none 0 0, vb false, vs []]) rfl<|jro e_Literal 58<|jd1 8<|
  jso (o := 0) (.f rfl) 1 rfl rfl rfl<|jdn<|jde<|jnn (gv (fun _ k=>k b5 none 0 []) [0,1,2] ⟨gk 0,gk 2,⟨⟩⟩))<|fun s1 _ k b2 p2 c2 r_1=>k<|jsr<|jpc 1 rfl<|jot<|
  jjo (fun s2 K=>K [(0, vs y0), (1, sv p1 y1 c1), (4, pt b1 0), (5, pt b2 0), (6, vi s2.1)] [bx b1 83 [vi 0, vb false, vs [], vi 0, vi 0, vs [], vs [], vb false, vi 0, .slice none 0 0, vb false, vs [], vs [], vi 0, vb false, vs []], bx b2 63 [vs s2.2.1, vb s1.2.1, vi s2.2.2, sv p2 s1.2.2.2.1 c2, vb s1.2.2.2.2.1, vs s1.2.2.2.2.2], r_1] [Rl eStr p1 c1 y1, Al e_Literal 58 r_1 p2 c2 s1.2.2.2.1]) (
  jjp (fun K=>K [(0, vs y0), (1, sv p1 y1 c1), (4, pt b1 0), (5, pt b2 0), (6, vi 2), (28, vb (s1.2.1 && (decide (0 < (len s1.1)))))] [bx b1 83 [vi 0, vb false, vs [], vi 0, vi 0, vs [], vs [], vb false, vi 0, .slice none 0 0, vb false, vs [], vs [], vi 0, vb false, vs []], bx b2 63 [vs s1.1, vb s1.2.1, vi s1.2.2.1, sv p2 s1.2.2.2.1 c2, vb s1.2.2.2.2.1, vs s1.2.2.2.2.2], r_1] [Rl eStr p1 c1 y1, Al e_Literal 58 r_1 p2 c2 s1.2.2.2.1]) (
  jrg<|jfa 1 rfl<|jlo 1 rfl rfl rfl<|jpc 1 rfl<|jsp (b := s1.2.1) 23 rfl (fun hb1=>jfa 0 rfl<|jlo 1 rfl rfl rfl<|jpc 2 rfl<|jpe (vb (decide (0 < (len s1.1))))<|joe<|jup 28 (vb (s1.2.1 && (decide (0 < (len s1.1))))) rfl (by rw [hb1]; rfl)<|
  jnn (gv (fun _ k=>k) [0,1,2] ⟨gk 1,gk 0,⟨⟩⟩))<|fun hb1=>jpc 4 rfl<|jpe (vb false)<|joe<|jup 28 (vb (s1.2.1 && (decide (0 < (len s1.1))))) rfl (by rw [hb1]; rfl)<|jnn (gv (fun _ k=>k) [0,1,2] ⟨gk 1,gk 0,⟨⟩⟩))<|fun _ k=>k<|jif rfl (jrg<|
  jfa 0 rfl<|jlo 1 rfl rfl rfl<|jfa 0 rfl<|jlo 1 rfl rfl rfl<|jpc 2 rfl<|jbd fun x2 h1=>jv (fun h=>r_ssub h rfl Tryz.underlying9 rfl rfl (.inl ⟨rfl, rfl⟩) (.inr ⟨_, rfl⟩) h1)<|jfa 0 rfl<|jso .s 1 rfl rfl rfl<|joe<|
  jln (gv (fun _ k=>k) [0,1,2] ⟨gk 0,gk 1,⟨⟩⟩))<|jsr<|jfa 1 rfl<|jlo 1 rfl rfl rfl<|jpc 1 rfl<|jot<|jif rfl (jsr<|jpc 1 rfl<|jcl c_ref05_at rfl ⟨ck 0,⟨⟩⟩<|fun r3 _ k=>k<|jpc 1 rfl<|jot<|jsq<|jsr<|jpc 3 rfl<|jot<|jif rfl (jsr<|
  jpe (.agg #[vi 0, vb false, vs [], vi 0, vi 0, vs [], vs [], vb false, vi 0, .slice none 0 0, vb false, vs [], vs [], vi 0, vb false, vs []])<|jso .s 0 rfl rfl rfl<|jot<|jxr<|jtr<|jlr<|
  jrg' rfl (lC 0 (.agg #[vi 0, vb false, vs [], vi 0, vi 0, vs [], vs [], vb false, vi 0, .slice none 0 0, vb false, vs [], vs [], vi 0, vb false, vs []]) rfl rfl lN) (fun _ k=>k none 0) [] ⟨gn,⟨⟩⟩)<|jsk<|jtn<|jrg<|jpc 1 rfl<|jbd fun x3 h2=>
  jv (fun h=>r_ssub h rfl Tryz.underlying9 rfl rfl (.inl ⟨rfl, rfl⟩) (.inr ⟨_, rfl⟩) h2)<|jcl c_ref05_number rfl ⟨⟩<|fun r4 _ k=>k<|jfa 2 rfl<|jso .s 1 rfl rfl rfl<|jpc 1 rfl<|joe<|jln (gv (fun _ k=>k) [0,1,2] ⟨gk 0,gk 1,⟨⟩⟩))<|jsk<|
  jln (gv (fun _ k=>k) [0,1,2] ⟨gk 0,gk 1,⟨⟩⟩))<|fun s2 _ k=>k<|
  jjo (fun s3 K=>∀ p3 c3 r_2,K [(0, vs y0), (1, sv p1 y1 c1), (4, pt b1 0), (5, pt b2 0)] [bx b1 83 [vi 0, vb false, vs [], vi 0, vi 0, vs [], vs [], vb false, vi 0, .slice none 0 0, vb false, vs [], vs [], vi 0, vb false, vs []], bx b2 63 [vs s2.2.1, vb s1.2.1, vi s2.2.2, sv p3 s3 c3, vb s1.2.2.2.2.1, vs s1.2.2.2.2.2], r_2] [Al e_Literal 58 r_2 p3 c3 s3, Rl eStr p1 c1 y1]) (
  jsr<|jpc 2 rfl<|jot<|jbk<|
  jlp (fun s4 K=>∀ p4 c4 r_3,K [(0, vs y0), (1, sv p1 y1 c1), (4, pt b1 0), (5, pt b2 0), (8, vi s4.1)] [bx b1 83 [vi 0, vb false, vs [], vi 0, vi 0, vs [], vs [], vb false, vi 0, .slice none 0 0, vb false, vs [], vs [], vi 0, vb false, vs []], bx b2 63 [vs s2.2.1, vb s1.2.1, vi s2.2.2, sv p4 s4.2 c4, vb s1.2.2.2.2.1, vs s1.2.2.2.2.2], r_3] [Al e_Literal 58 r_3 p4 c4 s4.2, Rl eStr p1 c1 y1]) (gv (fun _ k=>k p2 c2 r_1) [0,1,2] ⟨gk 1,gk 0,⟨⟩⟩)<|
  fun s4 _ k p4 c4 r_3=>k<|jsq<|jsr<|jpc 5 rfl<|jot<|jif rfl (jsk<|jtn<|jsq<|jbk<|jsr<|jpc 2 rfl<|jix 1 rfl rfl rfl<|fun x4 b6 o2=>jld false oS (gk 0) rfl<|jpc 1 rfl<|jot<|
  jjn (fun s5 K=>K [(0, vs y0), (1, sv p1 y1 c1), (4, pt b1 0), (5, pt b2 0), (8, vi s4.1), (9, vs s5)] [bx b1 83 [vi 0, vb false, vs [], vi 0, vi 0, vs [], vs [], vb false, vi 0, .slice none 0 0, vb false, vs [], vs [], vi 0, vb false, vs []], bx b2 63 [vs s2.2.1, vb s1.2.1, vi s2.2.2, sv p4 s4.2 c4, vb s1.2.2.2.2.1, vs s1.2.2.2.2.2], r_3] [Rl eStr p1 c1 y1, Al e_Literal 58 r_3 p4 c4 s4.2]) (
  jjp (fun K=>K [(0, vs y0), (1, sv p1 y1 c1), (4, pt b1 0), (5, pt b2 0), (8, vi s4.1), (9, vs x4), (71, vb ((decide (s4.1 < (w64 ((len y1) - 3)))) && (decide (0 < (len x4)))))] [bx b1 83 [vi 0, vb false, vs [], vi 0, vi 0, vs [], vs [], vb false, vi 0, .slice none 0 0, vb false, vs [], vs [], vi 0, vb false, vs []], bx b2 63 [vs s2.2.1, vb s1.2.1, vi s2.2.2, sv p4 s4.2 c4, vb s1.2.2.2.2.1, vs s1.2.2.2.2.2], r_3] [Rl eStr p1 c1 y1, Al e_Literal 58 r_3 p4 c4 s4.2]) (
  jrg<|jpc 6 rfl<|jsp (b := decide (s4.1 < (w64 ((len y1) - 3)))) 67 rfl (fun hb2=>jpc 3 rfl<|jpe (vb (decide (0 < (len x4))))<|joe<|jup 71 (vb ((decide (s4.1 < (w64 ((len y1) - 3)))) && (decide (0 < (len x4))))) rfl (by rw [hb2]; rfl)<|
  jnn (gv (fun _ k=>k) [0,1,2] ⟨gk 2,gk 1,⟨⟩⟩))<|fun hb2=>jpc 3 rfl<|jpe (vb false)<|joe<|jup 71 (vb ((decide (s4.1 < (w64 ((len y1) - 3)))) && (decide (0 < (len x4))))) rfl (by rw [hb2]; rfl)<|jnn (gv (fun _ k=>k) [0,1,2] ⟨gk 2,gk 1,⟨⟩⟩))<|
  fun _ k=>k<|jif rfl (jrg<|jpc 4 rfl<|jbd fun x5 h3=>jv (fun h=>r_ssub h rfl Tryz.underlying9 rfl rfl (.inl ⟨rfl, rfl⟩) (.inr ⟨_, rfl⟩) h3)<|jpc 1 rfl<|joe<|jnn (gv (fun _ k=>k) [0,1,2] ⟨gk 0,gk 1,⟨⟩⟩))<|jsk<|
  jnn (gv (fun _ k=>k) [0,1,2] ⟨gk 0,gk 1,⟨⟩⟩))<|fun s5 _ k=>k<|jsr<|jpc 1 rfl<|jcl c_ref01_Parse rfl ⟨⟩<|fun r5 _ k=>k<|jpc 3 rfl<|jal .s (.agg #[vb false, vs []])<|fun b7=>jso .s 3 rfl rfl rfl<|jpc 1 rfl<|jot<|jsq<|jsr<|jpc 2 rfl<|jot<|
  jif rfl (jsr<|jpe (.agg #[vi 0, vb false, vs [], vi 0, vi 0, vs [], vs [], vb false, vi 0, .slice none 0 0, vb false, vs [], vs [], vi 0, vb false, vs []])<|jso .s 0 rfl rfl rfl<|jot<|jxr<|jtr<|jbr<|jtr<|jlr<|jbr<|jlr<|
  jrg' rfl (lC 0 (.agg #[vi 0, vb false, vs [], vi 0, vi 0, vs [], vs [], vb false, vi 0, .slice none 0 0, vb false, vs [], vs [], vi 0, vb false, vs []]) rfl rfl lN) (fun _ k=>k none 0) [] ⟨gn,⟨⟩⟩)<|jsk<|jtn<|jrg<|jfa 3 rfl<|
  jlo 1 rfl rfl rfl<|jla 3 2 rfl rfl rfl<|jbs .s (e := e_Literal) 58 [vb r5.1.1, vs r5.1.2] ([r5.1] : List T_Literal) (rC (vP vB vS) rN)<|fun p5 c5=>jar .s 2 2 rfl (gk 0) rfl rfl<|fun x6 r_4 p6 c6=>jfa 3 rfl<|jso .s 1 rfl rfl rfl<|joe<|jbn<|
  jtn<|jrg<|jpc 3 rfl<|joe<|jln (gv (fun _ k=>k p6 c6 r_4) [0,1,2] ⟨gk 0,gk 2,⟨⟩⟩))<|jxe<|jte<|jle<|jbh<|jln (gv (fun _ k=>k p4 c4 r_3) [0,1,2] ⟨gk 0,gk 1,⟨⟩⟩))<|fun s3 _ k p3 c3 r_2=>k<|jsr<|jpc 4 rfl<|jcl c_ref05_at rfl ⟨ck 1,⟨⟩⟩<|
  fun r6 _ k=>k<|jcl c_ref01_Parse rfl ⟨⟩<|fun r7 _ k=>k<|jpc 3 rfl<|jal .s (.agg #[vb false, vs []])<|fun b8=>jso .s 3 rfl rfl rfl<|jpc 1 rfl<|jot<|jsr<|jla 3 2 rfl rfl rfl<|jfa 4 rfl<|jso .s 1 rfl rfl rfl<|jot<|jsq<|
  jjn (fun s6 K=>K [(4, pt b1 0), (5, pt b2 0), (121, vb s6)] [bx b1 83 [vi 0, vb false, vs [], vi 0, vi 0, vs [], vs [], vb false, vi 0, .slice none 0 0, vb false, vs [], vs [], vi 0, vb false, vs []], bx b2 63 [vs s2.2.1, vb s1.2.1, vi s2.2.2, sv p3 s3 c3, vb r7.1.1, vs r7.1.2], r_2, []] [Al e_Literal 58 r_2 p3 c3 s3]) (
  jrg<|jpc 3 rfl<|jsg 104 rfl (jpc 4 rfl<|jpe (vb true)<|jpc 5 rfl<|jpe (vb true)<|jpc 5 rfl<|jpe (vb true)<|joe<|jnn (gv (fun _ k=>k) [0,1,2,903] ⟨gk 0,⟨⟩⟩))<|jfa 0 rfl<|jlo 1 rfl rfl rfl<|jcl c_ref01_ValidName rfl ⟨⟩<|fun r8 _ k=>k<|
  jpc 1 rfl<|jpe (vb (!r8))<|jpc 1 rfl<|jsg 110 rfl (jpc 4 rfl<|jpe (vb true)<|jpc 5 rfl<|jpe (vb true)<|joe<|jnn (gv (fun _ k=>k) [0,1,2,903] ⟨gk 0,⟨⟩⟩))<|jfa 2 rfl<|jlo 1 rfl rfl rfl<|jcl c_ref05_rank rfl ⟨⟩<|fun r9 _ k=>k<|jpc 1 rfl<|
  jpe (vb (!r9))<|jpc 1 rfl<|jsg 116 rfl (jpc 4 rfl<|jpe (vb true)<|joe<|jnn (gv (fun _ k=>k) [0,1,2,903] ⟨gk 0,⟨⟩⟩))<|jla 1 6 rfl rfl rfl<|jca .s [] [2] c_ref05_RuleLine rfl rfl rfl ⟨cl 2 0,⟨⟩⟩<|fun r10 _ k=>k<|jpc 2 rfl<|
  jpe (vb (!(r10 == y0)))<|joe<|jnn (gv (fun _ k=>k) [0,1,2,903] ⟨gk 0,⟨⟩⟩))<|fun s6 _ k=>k<|jif rfl (jsr<|
  jpe (.agg #[vi 0, vb false, vs [], vi 0, vi 0, vs [], vs [], vb false, vi 0, .slice none 0 0, vb false, vs [], vs [], vi 0, vb false, vs []])<|jso .s 0 rfl rfl rfl<|jot<|jxr<|jtr<|
  jrg' rfl (lC 0 (.agg #[vi 0, vb false, vs [], vi 0, vi 0, vs [], vs [], vb false, vi 0, .slice none 0 0, vb false, vs [], vs [], vi 0, vb false, vs []]) rfl rfl lN) (fun _ k=>k none 0) [] ⟨gn,⟨⟩⟩)<|jsk<|jtn<|jsr<|jla 1 6 rfl rfl rfl<|
  jpe (.agg #[vi 2, vb false, vs [], vi 0, vi 0, vs [], vs s2.2.1, vb s1.2.1, vi s2.2.2, sv p3 s3 c3, vb r7.1.1, vs r7.1.2, vs [], vi 0, vb false, vs []])<|jso .s 0 rfl rfl rfl<|jot<|jxr<|jsh 2 0 rfl rfl<|
  jrg' rfl (lC 0 (.agg #[vi 2, vb false, vs [], vi 0, vi 0, vs [], vs s2.2.1, vb s1.2.1, vi s2.2.2, sv p3 s3 c3, vb r7.1.1, vs r7.1.2, vs [], vi 0, vb false, vs []]) rfl rfl lN) (fun _ k=>k p3 c3) [] ⟨gk 0,⟨⟩⟩

theorem c_ref05_lineOf {qd : Prop} {y0 : Str} : Con qd Tryz.prog 37 [vs y0] [] [] (m_ref05_lineOf y0) fun r K=>∀ p1 c1,K (.agg #[vi r.1, vb r.2.1.1.1, vs r.2.1.1.2, vi r.2.1.2.1, vi r.2.1.2.2.1, vs r.2.1.2.2.2, vs r.2.2.1.1, vb r.2.2.1.2.1, vi r.2.2.1.2.2.1, sv p1 r.2.2.1.2.2.2.1 c1, vb r.2.2.1.2.2.2.2.1, vs r.2.2.1.2.2.2.2.2, vs r.2.2.2.1, vi r.2.2.2.2.1, vb r.2.2.2.2.2.1, vs r.2.2.2.2.2.2]) [] [Rl e_Literal p1 c1 r.2.2.1.2.2.2.1] :=
 ent3 Tryz.call37 Tryz.func37 rfl fun X=>jsr<|jal .s (.agg #[vi 0, vb false, vs [], vi 0, vi 0, vs [], vs [], vb false, vi 0, .slice none 0 0, vb false, vs [], vs [], vi 0, vb false, vs []])<|fun b1=>jot<|jsr<|jpc 1 rfl<|jcl c_ref05_Split rfl ⟨⟩<|fun r1 _ k p1 c1=>k<|jpc 1 rfl<|
  jot<|jsq<|jsr<|jpc 1 rfl<|jix 0 rfl rfl rfl<|fun x1 b2 o1=>jld false oS (gk 0) rfl<|jot<|jbk<|
  jjn (fun s1 K=>K [(0, vs y0), (2, pt b1 0), (3, sv p1 r1 c1), (8, vs x1), (9, vb s1)] [bx b1 83 [vi 0, vb false, vs [], vi 0, vi 0, vs [], vs [], vb false, vi 0, .slice none 0 0, vb false, vs [], vs [], vi 0, vb false, vs []]] [Rl eStr p1 c1 r1]) (
  jsr<|jpc 2 rfl<|jot<|jif rfl (jsk<|jnn (gv (fun _ k=>k) [0] ⟨gk 1,⟨⟩⟩))<|jsr<|jpc 2 rfl<|jot<|jif rfl (jsk<|jnn (gv (fun _ k=>k) [0] ⟨gk 1,⟨⟩⟩))<|jrg<|jpc 2 rfl<|joe<|jnn (gv (fun _ k=>k) [0] ⟨gk 1,⟨⟩⟩))<|fun s1 _ k=>k<|jif rfl (jsr<|
  jpc 2 rfl<|jcl c_ref05_premiseOf rfl ⟨ck 0,⟨⟩⟩<|fun r2 _ k p2 c2=>k<|jso .s 0 rfl rfl rfl<|jot<|jxr<|jbr<|jtr<|
  jrg' rfl (lC 0 (.agg #[vi r2.1, vb r2.2.1.1.1, vs r2.2.1.1.2, vi r2.2.1.2.1, vi r2.2.1.2.2.1, vs r2.2.1.2.2.2, vs r2.2.2.1.1, vb r2.2.2.1.2.1, vi r2.2.2.1.2.2.1, sv p2 r2.2.2.1.2.2.2.1 c2, vb r2.2.2.1.2.2.2.2.1, vs r2.2.2.1.2.2.2.2.2, vs r2.2.2.2.1, vi r2.2.2.2.2.1, vb r2.2.2.2.2.2.1, vs r2.2.2.2.2.2.2]) rfl rfl lN) (fun _ k=>k p2 c2) [] ⟨gk 0,⟨⟩⟩
  )<|
  jjn (fun s2 K=>K [(0, vs y0), (2, pt b1 0), (3, sv p1 r1 c1), (8, vs x1), (16, vb s2)] [bx b1 83 [vi 0, vb false, vs [], vi 0, vi 0, vs [], vs [], vb false, vi 0, .slice none 0 0, vb false, vs [], vs [], vi 0, vb false, vs []]] [Rl eStr p1 c1 r1]) (
  jsr<|jpc 2 rfl<|jot<|jif rfl (jsk<|jnn (gv (fun _ k=>k) [0] ⟨gk 0,⟨⟩⟩))<|jrg<|jpc 2 rfl<|joe<|jnn (gv (fun _ k=>k) [0] ⟨gk 0,⟨⟩⟩))<|fun s2 _ k=>k<|jif rfl (jsr<|jpc 2 rfl<|jcl c_ref05_ruleOf rfl ⟨ck 0,⟨⟩⟩<|fun r3 _ k p3 c3=>k<|
  jso .s 0 rfl rfl rfl<|jot<|jxr<|jbr<|jtr<|
  jrg' rfl (lC 0 (.agg #[vi r3.1, vb r3.2.1.1.1, vs r3.2.1.1.2, vi r3.2.1.2.1, vi r3.2.1.2.2.1, vs r3.2.1.2.2.2, vs r3.2.2.1.1, vb r3.2.2.1.2.1, vi r3.2.2.1.2.2.1, sv p3 r3.2.2.1.2.2.2.1 c3, vb r3.2.2.1.2.2.2.2.1, vs r3.2.2.1.2.2.2.2.2, vs r3.2.2.2.1, vi r3.2.2.2.2.1, vb r3.2.2.2.2.2.1, vs r3.2.2.2.2.2.2]) rfl rfl lN) (fun _ k=>k p3 c3) [] ⟨gk 0,⟨⟩⟩
  )<|jsr<|jpc 2 rfl<|jot<|jif rfl (jsr<|jpc 2 rfl<|jcl c_ref05_promotionOf rfl ⟨ck 0,⟨⟩⟩<|fun r4 _ k p4 c4=>k<|jso .s 0 rfl rfl rfl<|jot<|jxr<|jbr<|jtr<|
  jrg' rfl (lC 0 (.agg #[vi r4.1, vb r4.2.1.1.1, vs r4.2.1.1.2, vi r4.2.1.2.1, vi r4.2.1.2.2.1, vs r4.2.1.2.2.2, vs r4.2.2.1.1, vb r4.2.2.1.2.1, vi r4.2.2.1.2.2.1, sv p4 r4.2.2.1.2.2.2.1 c4, vb r4.2.2.1.2.2.2.2.1, vs r4.2.2.1.2.2.2.2.2, vs r4.2.2.2.1, vi r4.2.2.2.2.1, vb r4.2.2.2.2.2.1, vs r4.2.2.2.2.2.2]) rfl rfl lN) (fun _ k=>k p4 c4) [] ⟨gk 0,⟨⟩⟩
  )<|jsk<|jbn<|jtn<|jsr<|jpe (.agg #[vi 0, vb false, vs [], vi 0, vi 0, vs [], vs [], vb false, vi 0, .slice none 0 0, vb false, vs [], vs [], vi 0, vb false, vs []])<|jso .s 0 rfl rfl rfl<|jot<|jxr<|
  jrg' rfl (lC 0 (.agg #[vi 0, vb false, vs [], vi 0, vi 0, vs [], vs [], vb false, vi 0, .slice none 0 0, vb false, vs [], vs [], vi 0, vb false, vs []]) rfl rfl lN) (fun _ k=>k none 0) [] ⟨gn,⟨⟩⟩

theorem c_ref05_Parse {qd : Prop} {y0 : Str} : Con qd Tryz.prog 13 [vs y0] [] [] (m_ref05_Parse y0) fun r K=>∀ p1 c1 p2 c2 p3 c3,K (.tuple #[.agg #[sv p1 r.1.1 c1, sv p2 r.1.2.1 c2, sv p3 r.1.2.2 c3], vi r.2.1, vi r.2.2]) [] [Rl e_Premise p1 c1 r.1.1, Rl e_Rule p2 c2 r.1.2.1, Rl e_Promotion p3 c3 r.1.2.2] :=
 ent3 Tryz.call13 Tryz.func13 rfl fun X=>jsr<|jal .s (.agg #[.slice none 0 0, .slice none 0 0, .slice none 0 0])<|fun b1=>jpc 2 rfl<|jot<|jsq<|jsr<|jpc 3 rfl<|jot<|jif rfl (jsr<|jpe (.agg #[.slice none 0 0, .slice none 0 0, .slice none 0 0])<|jso .s 0 rfl rfl rfl<|jpc 2 rfl<|jot<|
  jxr<|jtr<|jrg' rfl (lC 0 (.agg #[.slice none 0 0, .slice none 0 0, .slice none 0 0]) rfl rfl (lT rfl (lT rfl lN))) (fun _ k=>k none 0 none 0 none 0) [] ⟨gn,gn,gn,⟨⟩⟩)<|jsk<|jtn<|jsr<|
  jal .s (.agg #[.slice none 0 0, .slice none 0 0, .slice none 0 0])<|fun b2=>jro e_Premise 60<|jro e_Rule 63<|jro e_Promotion 66<|jot<|jsr<|jpc 1 rfl<|jot<|jsr<|jpc 1 rfl<|jcl c_ref05_Split rfl ⟨⟩<|fun r1 _ k p1 c1=>k<|jpc 1 rfl<|jot<|
  jjo (fun s1 K=>∀ p2 c2 r_1 p3 c3 r_2 p4 c4 r_3,K [(2, pt b1 0), (5, pt b2 0)] [bx b1 32 [.slice none 0 0, .slice none 0 0, .slice none 0 0], bx b2 32 [sv p2 s1.1 c2, sv p3 s1.2.1 c3, sv p4 s1.2.2 c4], r_1, r_2, r_3] [Al e_Premise 60 r_1 p2 c2 s1.1, Al e_Rule 63 r_2 p3 c3 s1.2.1, Al e_Promotion 66 r_3 p4 c4 s1.2.2]) (
  jsr<|jpc 1 rfl<|jot<|jbk<|
  jlp (fun s2 K=>∀ p5 c5 r_4 p6 c6 r_5 p7 c7 r_6,K [(2, pt b1 0), (5, pt b2 0), (6, vi s2.1), (7, sv p1 r1 c1), (8, vi s2.2.1)] [bx b1 32 [.slice none 0 0, .slice none 0 0, .slice none 0 0], bx b2 32 [sv p5 s2.2.2.1 c5, sv p6 s2.2.2.2.1 c6, sv p7 s2.2.2.2.2 c7], r_4, r_5, r_6] [Al e_Premise 60 r_4 p5 c5 s2.2.2.1, Al e_Rule 63 r_5 p6 c6 s2.2.2.2.1, Al e_Promotion 66 r_6 p7 c7 s2.2.2.2.2, Rl eStr p1 c1 r1]) (gv (fun _ k=>k none 0 [] none 0 [] none 0 []) [0,1,2,3,4] ⟨gk 3,gk 2,gk 1,gk 0,⟨⟩⟩)<|
  fun s2 _ k p5 c5 r_4 p6 c6 r_5 p7 c7 r_6=>k<|jsq<|jsr<|jpc 4 rfl<|jot<|jif rfl (jsk<|jtn<|jsq<|jbk<|jsq<|
  jjn (fun s3 K=>K [(2, pt b1 0), (5, pt b2 0), (6, vi s2.1), (7, sv p1 r1 c1), (8, vi s2.2.1), (34, vb s3)] [bx b1 32 [.slice none 0 0, .slice none 0 0, .slice none 0 0], bx b2 32 [sv p5 s2.2.2.1 c5, sv p6 s2.2.2.2.1 c6, sv p7 s2.2.2.2.2 c7], r_4, r_5, r_6] [Rl eStr p1 c1 r1, Al e_Premise 60 r_4 p5 c5 s2.2.2.1, Al e_Rule 63 r_5 p6 c6 s2.2.2.2.1, Al e_Promotion 66 r_6 p7 c7 s2.2.2.2.2]) (
  jrg<|jpc 6 rfl<|jsg 28 rfl (jpc 2 rfl<|jix 3 rfl rfl rfl<|fun x1 b3 o1=>jld false oS (gk 0) rfl<|jpc 1 rfl<|jpe (vb (x1 == []))<|joe<|jnn (gv (fun _ k=>k) [0,1,2,3,4] ⟨gk 4,gk 1,gk 2,gk 3,⟨⟩⟩))<|jpc 5 rfl<|jpe (vb false)<|joe<|
  jnn (gv (fun _ k=>k) [0,1,2,3,4] ⟨gk 3,gk 0,gk 1,gk 2,⟨⟩⟩))<|fun s3 _ k=>k<|jif rfl (jxe<|jte<|jbm<|jte<|jle<|jbh<|jln (gv (fun _ k=>k p5 c5 r_4 p6 c6 r_5 p7 c7 r_6) [0,1,2,3,4] ⟨gk 1,gk 2,gk 3,⟨⟩⟩))<|jsk<|jtn<|jsr<|jpc 2 rfl<|
  jix 0 rfl rfl rfl<|fun x2 b4 o2=>jld false oS (gk 0) rfl<|jcl c_ref05_lineOf rfl ⟨⟩<|fun r2 _ k p8 c8=>k<|
  jal .s (.agg #[vi 0, vb false, vs [], vi 0, vi 0, vs [], vs [], vb false, vi 0, .slice none 0 0, vb false, vs [], vs [], vi 0, vb false, vs []])<|fun b5=>jso .s 5 rfl rfl rfl<|jot<|jsq<|
  jjp (fun K=>K [(2, pt b1 0), (5, pt b2 0), (7, sv p1 r1 c1), (8, vi s2.2.1), (9, pt b5 0), (55, vb ((r2.1 == 0) || ((decide (r2.1 < s2.1)) || (s2.2.1 == (w64 ((len r1) - 1))))))] [bx b1 32 [.slice none 0 0, .slice none 0 0, .slice none 0 0], bx b2 32 [sv p5 s2.2.2.1 c5, sv p6 s2.2.2.2.1 c6, sv p7 s2.2.2.2.2 c7], r_4, r_5, r_6, bx b5 83 [vi r2.1, vb r2.2.1.1.1, vs r2.2.1.1.2, vi r2.2.1.2.1, vi r2.2.1.2.2.1, vs r2.2.1.2.2.2, vs r2.2.2.1.1, vb r2.2.2.1.2.1, vi r2.2.2.1.2.2.1, sv p8 r2.2.2.1.2.2.2.1 c8, vb r2.2.2.1.2.2.2.2.1, vs r2.2.2.1.2.2.2.2.2, vs r2.2.2.2.1, vi r2.2.2.2.2.1, vb r2.2.2.2.2.2.1, vs r2.2.2.2.2.2.2]] [Rl eStr p1 c1 r1, Al e_Premise 60 r_4 p5 c5 s2.2.2.1, Al e_Rule 63 r_5 p6 c6 s2.2.2.2.1, Al e_Promotion 66 r_6 p7 c7 s2.2.2.2.2, Rl e_Literal p8 c8 r2.2.2.1.2.2.2.1]) (
  jrg<|jfa 0 rfl<|jlo 5 rfl rfl rfl<|jpc 2 rfl<|jsp (b := r2.1 == 0) 43 rfl (fun hb2=>jpc 4 rfl<|jpe (vb true)<|jpc 6 rfl<|jpe (vb true)<|joe<|
  jup 55 (vb ((r2.1 == 0) || ((decide (r2.1 < s2.1)) || (s2.2.1 == (w64 ((len r1) - 1)))))) rfl (by rw [hb2]; rfl)<|jnn (gv (fun _ k=>k) [0,1,2,3,4,5] ⟨gk 2,gk 3,gk 4,gk 5,gk 0,⟨⟩⟩))<|fun hb2=>jfa 0 rfl<|jlo 5 rfl rfl rfl<|jpc 2 rfl<|
  jpe (vb (decide (r2.1 < s2.1)))<|jpc 1 rfl<|jsp (b := decide (r2.1 < s2.1)) 49 rfl (fun hb3=>jpc 5 rfl<|jpe (vb true)<|joe<|
  jup 55 (vb ((r2.1 == 0) || ((decide (r2.1 < s2.1)) || (s2.2.1 == (w64 ((len r1) - 1)))))) rfl (by rw [hb2,hb3]; rfl)<|jnn (gv (fun _ k=>k) [0,1,2,3,4,5] ⟨gk 2,gk 3,gk 4,gk 5,gk 0,⟨⟩⟩))<|fun hb3=>jpc 5 rfl<|
  jpe (vb (s2.2.1 == (w64 ((len r1) - 1))))<|joe<|jup 55 (vb ((r2.1 == 0) || ((decide (r2.1 < s2.1)) || (s2.2.1 == (w64 ((len r1) - 1)))))) rfl (by rw [hb2,hb3]; rfl)<|jnn (gv (fun _ k=>k) [0,1,2,3,4,5] ⟨gk 2,gk 3,gk 4,gk 5,gk 0,⟨⟩⟩))<|
  fun _ k=>k<|jif rfl (jsr<|jpe (.agg #[.slice none 0 0, .slice none 0 0, .slice none 0 0])<|jpc 2 rfl<|jso .s 0 rfl rfl rfl<|jpc 2 rfl<|jot<|jxr<|jtr<|jbr<|jtr<|jlr<|jbr<|jlr<|
  jrg' rfl (lC 0 (.agg #[.slice none 0 0, .slice none 0 0, .slice none 0 0]) rfl rfl (lT rfl (lT rfl lN))) (fun _ k=>k none 0 none 0 none 0) [] ⟨gn,gn,gn,⟨⟩⟩)<|jsk<|jtn<|jsr<|jfa 0 rfl<|jlo 5 rfl rfl rfl<|jpc 1 rfl<|jot<|jsr<|jfa 0 rfl<|
  jlo 5 rfl rfl rfl<|jot<|jbk<|jsr<|jpc 2 rfl<|jot<|jif rfl (jrg<|jfa 0 rfl<|jlo 1 rfl rfl rfl<|jfa 1 rfl<|jla 5 5 rfl rfl rfl<|
  jbs .s (e := e_Premise) 60 [vb r2.2.1.1.1, vs r2.2.1.1.2, vi r2.2.1.2.1, vi r2.2.1.2.2.1, vs r2.2.1.2.2.2] ([r2.2.1] : List T_Premise) (rC (vP (vP vB vS) (vP vI (vP vI vS))) rN)<|fun p9 c9=>jar .s 2 2 rfl (gk 0) rfl rfl<|
  fun x3 r_7 p10 c10=>jfa 0 rfl<|jso .s 1 rfl rfl rfl<|joe<|jbn<|jbn<|jtn<|jrg<|jpc 3 rfl<|joe<|jln (gv (fun _ k=>k p10 c10 r_7 p6 c6 r_5 p7 c7 r_6) [0,1,2,3,4] ⟨gk 0,gk 4,gk 5,gk 2,⟨⟩⟩))<|jsr<|jpc 2 rfl<|jot<|jif rfl (jrg<|jfa 1 rfl<|
  jlo 1 rfl rfl rfl<|jfa 6 rfl<|jla 5 6 rfl rfl rfl<|
  jbs .s (e := e_Rule) 63 [vs r2.2.2.1.1, vb r2.2.2.1.2.1, vi r2.2.2.1.2.2.1, sv p8 r2.2.2.1.2.2.2.1 c8, vb r2.2.2.1.2.2.2.2.1, vs r2.2.2.1.2.2.2.2.2] ([r2.2.2.1] : List T_Rule) (rC (vP vS (vP vB (vP vI (vP (vL (gk 4)) (vP vB vS))))) rN)<|
  fun p11 c11=>jar .s 3 3 rfl (gk 0) rfl rfl<|fun x4 r_8 p12 c12=>jfa 1 rfl<|jso .s 1 rfl rfl rfl<|joe<|jbn<|jbn<|jtn<|jrg<|jpc 3 rfl<|joe<|jln (gv (fun _ k=>k p5 c5 r_4 p12 c12 r_8 p7 c7 r_6) [0,1,2,3,4] ⟨gk 3,gk 0,gk 5,gk 2,⟨⟩⟩))<|jrg<|
  jfa 2 rfl<|jlo 1 rfl rfl rfl<|jfa 12 rfl<|jla 5 4 rfl rfl rfl<|jbs .s (e := e_Promotion) 66 [vs r2.2.2.2.1, vi r2.2.2.2.2.1, vb r2.2.2.2.2.2.1, vs r2.2.2.2.2.2.2] ([r2.2.2.2] : List T_Promotion) (rC (vP vS (vP vI (vP vB vS))) rN)<|
  fun p13 c13=>jar .s 4 4 rfl (gk 0) rfl rfl<|fun x5 r_9 p14 c14=>jfa 2 rfl<|jso .s 1 rfl rfl rfl<|joe<|jbn<|jbn<|jtn<|jrg<|jpc 3 rfl<|joe<|jln (gv (fun _ k=>k p5 c5 r_4 p6 c6 r_5 p14 c14 r_9) [0,1,2,3,4] ⟨gk 3,gk 4,gk 0,gk 2,⟨⟩⟩))<|jxe<|
  jte<|jle<|jbh<|jln (gv (fun _ k=>k p5 c5 r_4 p6 c6 r_5 p7 c7 r_6) [0,1,2,3,4] ⟨gk 0,gk 1,gk 2,⟨⟩⟩))<|fun s1 _ k p2 c2 r_1 p3 c3 r_2 p4 c4 r_3=>k<|jsq<|jsr<|jla 1 3 rfl rfl rfl<|
  jca .s [] [2, 3, 4] c_ref05_Validate rfl rfl rfl ⟨cl 2 0,cl 3 1,cl 4 2,⟨⟩⟩<|fun r3 _ k=>k<|jpc 1 rfl<|jot<|jsr<|jpc 2 rfl<|jot<|jif rfl (jsr<|jpe (.agg #[.slice none 0 0, .slice none 0 0, .slice none 0 0])<|jpc 1 rfl<|jso .s 0 rfl rfl rfl<|
  jpc 2 rfl<|jot<|jxr<|jtr<|jrg' rfl (lC 0 (.agg #[.slice none 0 0, .slice none 0 0, .slice none 0 0]) rfl rfl (lT rfl (lT rfl lN))) (fun _ k=>k none 0 none 0 none 0) [] ⟨gn,gn,gn,⟨⟩⟩)<|jsk<|jtn<|jsr<|jla 1 3 rfl rfl rfl<|
  jso .s 0 rfl rfl rfl<|jpc 2 rfl<|jot<|jxr<|jsh 2 0 rfl rfl<|jsh 3 2 rfl rfl<|jsh 4 4 rfl rfl<|
  jrg' rfl (lC 0 (.agg #[sv p2 s1.1 c2, sv p3 s1.2.1 c3, sv p4 s1.2.2 c4]) rfl rfl (lT rfl (lT rfl lN))) (fun _ k=>k p2 c2 p3 c3 p4 c4) [] ⟨gk 2,gk 1,gk 0,⟨⟩⟩

theorem c_ref01_Same {qd : Prop} {y0 : List T_Literal} {y1 : List T_Literal} : Con qd Tryz.prog 38 [sv p1 y0 c1, sv p2 y1 c2] [] [Rl e_Literal p1 c1 y0, Rl e_Literal p2 c2 y1] (m_ref01_Same y0 y1) fun r K=>K (vb r) [] [] :=
 ent3 Tryz.call38 Tryz.func38 rfl fun X=>jsr<|jpc 1 rfl<|jot<|jsq<|jsr<|jpc 5 rfl<|jot<|jif rfl (jsr<|jpc 1 rfl<|jot<|jxr<|jtr<|jr1 rfl rfl (fun _ k=>k) [] ⟨⟩)<|jsk<|jtn<|jsq<|jsr<|jpc 1 rfl<|jot<|jbk<|
  jlp (fun s1 K=>K [(0, sv p1 y0 c1), (1, sv p2 y1 c2), (5, vi s1)] [] [Rl e_Literal p1 c1 y0, Rl e_Literal p2 c2 y1]) (gv (fun _ k=>k) [] ⟨gk 0,gk 1,⟨⟩⟩)<|fun s1 _ k=>k<|jsq<|jsr<|jpc 4 rfl<|jot<|jif rfl (jsk<|jtn<|jsq<|jbk<|jds [] [] 9<|
  jdc 7 [0,1] rfl<|jdi 2 0 rfl rfl rfl rfl<|fun x1 b1 o1=>jdl 3 true o_Literal rfl (gk 0) rfl<|jdc 3 [4,5] rfl<|jdi 6 2 rfl rfl rfl rfl<|fun x2 b2 o2=>jdl 7 true o_Literal rfl (gk 0) rfl<|jdp 8 (vb (!(x1 == x2))) rfl<|jde<|jtn<|jif rfl (jsr<|
  jpc 1 rfl<|jot<|jxr<|jbr<|jtr<|jlr<|jbr<|jtr<|jr1 rfl rfl (fun _ k=>k) [] ⟨⟩)<|jsk<|jbn<|jtn<|jrg<|jpc 3 rfl<|joe<|jln (gv (fun _ k=>k) [] ⟨gk 2,gk 3,⟨⟩⟩))<|jxe<|jte<|jle<|jbh<|jtn<|jsr<|jpc 1 rfl<|jot<|jxr<|jr1 rfl rfl (fun _ k=>k) [] ⟨⟩

theorem c_ref05_Same {qd : Prop} {y0 : T_Base} {y1 : T_Base} : Con qd Tryz.prog 14 [.agg #[sv p1 y0.1 c1, sv p2 y0.2.1 c2, sv p3 y0.2.2 c3], .agg #[sv p4 y1.1 c4, sv p5 y1.2.1 c5, sv p6 y1.2.2 c6]] [] [Rl e_Premise p1 c1 y0.1, Rl e_Rule p2 c2 y0.2.1, Rl e_Promotion p3 c3 y0.2.2, Rl e_Premise p4 c4 y1.1, Rl e_Rule p5 c5 y1.2.1, Rl e_Promotion p6 c6 y1.2.2] (m_ref05_Same y0 y1) fun r K=>K (vb r) [] [] :=
 ent3 Tryz.call14 Tryz.func14 rfl fun X=>jsr<|jbx .s rfl<|fun b1=>jbx .s rfl<|fun b2=>jpc 1 rfl<|jot<|jsq<|
  jjp (fun K=>K [(2, pt b1 0), (3, pt b2 0), (34, vb (((len y0.1) != (len y1.1)) || (((len y0.2.1) != (len y1.2.1)) || ((len y0.2.2) != (len y1.2.2)))))] [bx b1 32 [sv p1 y0.1 c1, sv p2 y0.2.1 c2, sv p3 y0.2.2 c3], bx b2 32 [sv p4 y1.1 c4, sv p5 y1.2.1 c5, sv p6 y1.2.2 c6]] [Rl e_Premise p1 c1 y0.1, Rl e_Rule p2 c2 y0.2.1, Rl e_Promotion p3 c3 y0.2.2, Rl e_Premise p4 c4 y1.1, Rl e_Rule p5 c5 y1.2.1, Rl e_Promotion p6 c6 y1.2.2]) (
  jrg<|jfa 0 rfl<|jlo 0 rfl rfl rfl<|jpc 1 rfl<|jfa 0 rfl<|jlo 1 rfl rfl rfl<|jpc 3 rfl<|jsp (b := (len y0.1) != (len y1.1)) 17 rfl (fun hb1=>jpc 7 rfl<|jpe (vb true)<|jpc 8 rfl<|jpe (vb true)<|joe<|
  jup 34 (vb (((len y0.1) != (len y1.1)) || (((len y0.2.1) != (len y1.2.1)) || ((len y0.2.2) != (len y1.2.2))))) rfl (by rw [hb1]; rfl)<|jnn (gv (fun _ k=>k) [0,1] ⟨gk 0,gk 1,gk 2,gk 3,gk 4,gk 5,⟨⟩⟩))<|fun hb1=>jfa 1 rfl<|jlo 0 rfl rfl rfl<|
  jpc 1 rfl<|jfa 1 rfl<|jlo 1 rfl rfl rfl<|jpc 2 rfl<|jpe (vb ((len y0.2.1) != (len y1.2.1)))<|jpc 1 rfl<|jsp (b := (len y0.2.1) != (len y1.2.1)) 26 rfl (fun hb2=>jpc 7 rfl<|jpe (vb true)<|joe<|
  jup 34 (vb (((len y0.1) != (len y1.1)) || (((len y0.2.1) != (len y1.2.1)) || ((len y0.2.2) != (len y1.2.2))))) rfl (by rw [hb1,hb2]; rfl)<|jnn (gv (fun _ k=>k) [0,1] ⟨gk 0,gk 1,gk 2,gk 3,gk 4,gk 5,⟨⟩⟩))<|fun hb2=>jfa 2 rfl<|
  jlo 0 rfl rfl rfl<|jpc 1 rfl<|jfa 2 rfl<|jlo 1 rfl rfl rfl<|jpc 2 rfl<|jpe (vb ((len y0.2.2) != (len y1.2.2)))<|joe<|
  jup 34 (vb (((len y0.1) != (len y1.1)) || (((len y0.2.1) != (len y1.2.1)) || ((len y0.2.2) != (len y1.2.2))))) rfl (by rw [hb1,hb2]; rfl)<|jnn (gv (fun _ k=>k) [0,1] ⟨gk 0,gk 1,gk 2,gk 3,gk 4,gk 5,⟨⟩⟩))<|fun _ k=>k<|jif rfl (jsr<|
  jpc 1 rfl<|jot<|jxr<|jtr<|jr1 rfl rfl (fun _ k=>k) [] ⟨⟩)<|jsk<|jtn<|
  jjo (fun s1 K=>K [(2, pt b1 0), (3, pt b2 0)] [bx b1 32 [sv p1 y0.1 c1, sv p2 y0.2.1 c2, sv p3 y0.2.2 c3], bx b2 32 [sv p4 y1.1 c4, sv p5 y1.2.1 c5, sv p6 y1.2.2 c6]] [Rl e_Premise p1 c1 y0.1, Rl e_Rule p2 c2 y0.2.1, Rl e_Promotion p3 c3 y0.2.2, Rl e_Premise p4 c4 y1.1, Rl e_Rule p5 c5 y1.2.1, Rl e_Promotion p6 c6 y1.2.2]) (
  jsr<|jpc 1 rfl<|jot<|jbk<|
  jlp (fun s2 K=>K [(2, pt b1 0), (3, pt b2 0), (5, vi s2)] [bx b1 32 [sv p1 y0.1 c1, sv p2 y0.2.1 c2, sv p3 y0.2.2 c3], bx b2 32 [sv p4 y1.1 c4, sv p5 y1.2.1 c5, sv p6 y1.2.2 c6]] [Rl e_Premise p1 c1 y0.1, Rl e_Rule p2 c2 y0.2.1, Rl e_Promotion p3 c3 y0.2.2, Rl e_Premise p4 c4 y1.1, Rl e_Rule p5 c5 y1.2.1, Rl e_Promotion p6 c6 y1.2.2]) (gv (fun _ k=>k) [0,1] ⟨gk 0,gk 1,gk 2,gk 3,gk 4,gk 5,⟨⟩⟩)<|
  fun s2 _ k=>k<|jsq<|jsr<|jpc 1 rfl<|jfa 0 rfl<|jlo 0 rfl rfl rfl<|jpc 2 rfl<|jot<|jif rfl (jsk<|jtn<|jsq<|jbk<|jds [] [0, 1] 11<|jdf 0 0 rfl rfl<|jdo 1 0 rfl rfl rfl rfl<|jdc 8 [2] rfl<|jdi 3 0 rfl rfl rfl rfl<|fun x1 b3 o1=>
  jdl 4 true o_Premise rfl (gk 0) rfl<|jdf 5 0 rfl rfl<|jdo 6 1 rfl rfl rfl rfl<|jdc 3 [7] rfl<|jdi 8 4 rfl rfl rfl rfl<|fun x2 b4 o2=>jdl 9 true o_Premise rfl (gk 0) rfl<|jdp 10 (vb (!(x1 == x2))) rfl<|jde<|jtn<|jif rfl (jsr<|jpc 1 rfl<|
  jot<|jxr<|jbr<|jtr<|jlr<|jbr<|jlr<|jr1 rfl rfl (fun _ k=>k) [] ⟨⟩)<|jsk<|jbn<|jtn<|jrg<|jpc 3 rfl<|joe<|jln (gv (fun _ k=>k) [0,1] ⟨gk 2,gk 3,gk 4,gk 5,gk 6,gk 7,⟨⟩⟩))<|jxe<|jte<|jle<|jbh<|
  jln (gv (fun _ k=>k) [0,1] ⟨gk 0,gk 1,gk 2,gk 3,gk 4,gk 5,⟨⟩⟩))<|fun s1 _ k=>k<|
  jjo (fun s3 K=>K [(2, pt b1 0), (3, pt b2 0)] [bx b1 32 [sv p1 y0.1 c1, sv p2 y0.2.1 c2, sv p3 y0.2.2 c3], bx b2 32 [sv p4 y1.1 c4, sv p5 y1.2.1 c5, sv p6 y1.2.2 c6]] [Rl e_Premise p1 c1 y0.1, Rl e_Rule p2 c2 y0.2.1, Rl e_Promotion p3 c3 y0.2.2, Rl e_Premise p4 c4 y1.1, Rl e_Rule p5 c5 y1.2.1, Rl e_Promotion p6 c6 y1.2.2]) (
  jsr<|jpc 1 rfl<|jot<|jbk<|
  jlp (fun s4 K=>K [(2, pt b1 0), (3, pt b2 0), (6, vi s4)] [bx b1 32 [sv p1 y0.1 c1, sv p2 y0.2.1 c2, sv p3 y0.2.2 c3], bx b2 32 [sv p4 y1.1 c4, sv p5 y1.2.1 c5, sv p6 y1.2.2 c6]] [Rl e_Premise p1 c1 y0.1, Rl e_Rule p2 c2 y0.2.1, Rl e_Promotion p3 c3 y0.2.2, Rl e_Premise p4 c4 y1.1, Rl e_Rule p5 c5 y1.2.1, Rl e_Promotion p6 c6 y1.2.2]) (gv (fun _ k=>k) [0,1] ⟨gk 0,gk 1,gk 2,gk 3,gk 4,gk 5,⟨⟩⟩)<|
  fun s4 _ k=>k<|jsq<|jsr<|jpc 1 rfl<|jfa 1 rfl<|jlo 0 rfl rfl rfl<|jpc 2 rfl<|jot<|jif rfl (jsk<|jtn<|jsq<|jbk<|
  jjn (fun s5 K=>∀ b5 b6 p7 c7 p8 c8,K [(2, pt b1 0), (3, pt b2 0), (6, vi s4), (7, pt b5 0), (8, pt b6 0)] [bx b1 32 [sv p1 y0.1 c1, sv p2 y0.2.1 c2, sv p3 y0.2.2 c3], bx b2 32 [sv p4 y1.1 c4, sv p5 y1.2.1 c5, sv p6 y1.2.2 c6], bx b5 63 [vs s5.1.1, vb s5.1.2.1, vi s5.1.2.2.1, sv p7 s5.1.2.2.2.1 c7, vb s5.1.2.2.2.2.1, vs s5.1.2.2.2.2.2], bx b6 63 [vs s5.2.1, vb s5.2.2.1, vi s5.2.2.2.1, sv p8 s5.2.2.2.2.1 c8, vb s5.2.2.2.2.2.1, vs s5.2.2.2.2.2.2]] [Rl e_Literal p7 c7 s5.1.2.2.2.1, Rl e_Literal p8 c8 s5.2.2.2.2.1, Rl e_Premise p1 c1 y0.1, Rl e_Rule p2 c2 y0.2.1, Rl e_Promotion p3 c3 y0.2.2, Rl e_Premise p4 c4 y1.1, Rl e_Rule p5 c5 y1.2.1, Rl e_Promotion p6 c6 y1.2.2]) (
  jdS [] [0, 1] 14<|jdf 0 1 rfl rfl<|jdo 1 0 rfl rfl rfl rfl<|jdc 11 [2] rfl<|jdi 3 1 rfl rfl rfl rfl<|fun x3 b7 o3=>jdl 4 true o_Rule rfl (gk 0) rfl<|fun p9 c9=>jdf 5 1 rfl rfl<|jdo 6 1 rfl rfl rfl rfl<|jdc 6 [7] rfl<|
  jdi 8 6 rfl rfl rfl rfl<|fun x4 b8 o4=>jdl 9 true o_Rule rfl (gk 0) rfl<|fun p10 c10=>jd2 10 11 (jal (.f rfl) (.agg #[vs [], vb false, vi 0, .slice none 0 0, vb false, vs []])<|fun b9=>jdn<|jd1 11<|
  jal (.f rfl) (.agg #[vs [], vb false, vi 0, .slice none 0 0, vb false, vs []])<|fun b10=>jdn<|jd1 12<|jso (o := 0) (.f rfl) 2 rfl rfl rfl<|jdn<|jd1 13<|jso (o := 0) (.f rfl) 3 rfl rfl rfl<|jdn<|jde<|
  jnn (gv (fun _ k=>k b9 b10 p9 c9 p10 c10) [0,1,2,3] ⟨gk 2,gk 0,gk 4,gk 5,gk 6,gk 7,gk 8,gk 9,⟨⟩⟩)) <|jal (.f rfl) (.agg #[vs [], vb false, vi 0, .slice none 0 0, vb false, vs []])<|fun b11=>jdn<|jd1 10<|
  jal (.f rfl) (.agg #[vs [], vb false, vi 0, .slice none 0 0, vb false, vs []])<|fun b12=>jdn<|jd1 12<|jso (o := 0) (.f rfl) 3 rfl rfl rfl<|jdn<|jd1 13<|jso (o := 0) (.f rfl) 2 rfl rfl rfl<|jdn<|jde<|
  jnn (gv (fun _ k=>k b12 b11 p9 c9 p10 c10) [0,1,3,2] ⟨gk 2,gk 0,gk 4,gk 5,gk 6,gk 7,gk 8,gk 9,⟨⟩⟩))<|fun s5 _ k b5 b6 p7 c7 p8 c8=>k<|
  jjn (fun s6 K=>K [(2, pt b1 0), (3, pt b2 0), (6, vi s4), (103, vb s6)] [bx b1 32 [sv p1 y0.1 c1, sv p2 y0.2.1 c2, sv p3 y0.2.2 c3], bx b2 32 [sv p4 y1.1 c4, sv p5 y1.2.1 c5, sv p6 y1.2.2 c6], [], []] [Rl e_Premise p1 c1 y0.1, Rl e_Rule p2 c2 y0.2.1, Rl e_Promotion p3 c3 y0.2.2, Rl e_Premise p4 c4 y1.1, Rl e_Rule p5 c5 y1.2.1, Rl e_Promotion p6 c6 y1.2.2]) (
  jrg<|jfa 0 rfl<|jlo 2 rfl rfl rfl<|jfa 0 rfl<|jlo 3 rfl rfl rfl<|jpc 2 rfl<|jsg 75 rfl (jpc 5 rfl<|jpe (vb true)<|jpc 6 rfl<|jpe (vb true)<|jpc 6 rfl<|jpe (vb true)<|jpc 7 rfl<|jpe (vb true)<|joe<|
  jnn (gv (fun _ k=>k) [0,1,902,903] ⟨gk 2,gk 3,gk 4,gk 5,gk 6,gk 7,⟨⟩⟩))<|jfa 1 rfl<|jlo 2 rfl rfl rfl<|jfa 1 rfl<|jlo 3 rfl rfl rfl<|jpe (vb (!(s5.1.2.1 == s5.2.2.1)))<|jpe (vb (!(s5.1.2.1 == s5.2.2.1)))<|jpc 1 rfl<|jsg 82 rfl (jpc 5 rfl<|
  jpe (vb true)<|jpc 6 rfl<|jpe (vb true)<|jpc 7 rfl<|jpe (vb true)<|joe<|jnn (gv (fun _ k=>k) [0,1,902,903] ⟨gk 2,gk 3,gk 4,gk 5,gk 6,gk 7,⟨⟩⟩))<|jfa 2 rfl<|jlo 2 rfl rfl rfl<|jfa 2 rfl<|jlo 3 rfl rfl rfl<|jpc 1 rfl<|
  jpe (vb (s5.1.2.2.1 != s5.2.2.2.1))<|jpc 1 rfl<|jsg 89 rfl (jpc 5 rfl<|jpe (vb true)<|jpc 7 rfl<|jpe (vb true)<|joe<|jnn (gv (fun _ k=>k) [0,1,902,903] ⟨gk 2,gk 3,gk 4,gk 5,gk 6,gk 7,⟨⟩⟩))<|jfa 4 rfl<|jla 2 2 rfl rfl rfl<|jfa 4 rfl<|
  jla 3 2 rfl rfl rfl<|jpe (vb (!(s5.1.2.2.2.2 == s5.2.2.2.2.2)))<|jpe (vb (!(s5.1.2.2.2.2 == s5.2.2.2.2.2)))<|jpc 1 rfl<|jsg 96 rfl (jpc 6 rfl<|jpe (vb true)<|joe<|jnn (gv (fun _ k=>k) [0,1,902,903] ⟨gk 2,gk 3,gk 4,gk 5,gk 6,gk 7,⟨⟩⟩))<|
  jfa 3 rfl<|jlo 2 rfl rfl rfl<|jfa 3 rfl<|jlo 3 rfl rfl rfl<|jcl c_ref01_Same rfl ⟨ck 0,ck 1,⟨⟩⟩<|fun r1 _ k=>k<|jpc 1 rfl<|jpe (vb (!r1))<|joe<|jnn (gv (fun _ k=>k) [0,1,902,903] ⟨gk 2,gk 3,gk 4,gk 5,gk 6,gk 7,⟨⟩⟩))<|fun s6 _ k=>k<|
  jif rfl (jsr<|jpc 1 rfl<|jot<|jxr<|jbr<|jtr<|jlr<|jbr<|jlr<|jr1 rfl rfl (fun _ k=>k) [] ⟨⟩)<|jsk<|jbn<|jtn<|jrg<|jpc 3 rfl<|joe<|jln (gv (fun _ k=>k) [0,1] ⟨gk 0,gk 1,gk 2,gk 3,gk 4,gk 5,⟨⟩⟩))<|jxe<|jte<|jle<|jbh<|
  jln (gv (fun _ k=>k) [0,1] ⟨gk 0,gk 1,gk 2,gk 3,gk 4,gk 5,⟨⟩⟩))<|fun s3 _ k=>k<|jsq<|jsr<|jpc 1 rfl<|jot<|jbk<|
  jlp (fun s7 K=>K [(2, pt b1 0), (3, pt b2 0), (9, vi s7)] [bx b1 32 [sv p1 y0.1 c1, sv p2 y0.2.1 c2, sv p3 y0.2.2 c3], bx b2 32 [sv p4 y1.1 c4, sv p5 y1.2.1 c5, sv p6 y1.2.2 c6]] [Rl e_Premise p1 c1 y0.1, Rl e_Rule p2 c2 y0.2.1, Rl e_Promotion p3 c3 y0.2.2, Rl e_Premise p4 c4 y1.1, Rl e_Rule p5 c5 y1.2.1, Rl e_Promotion p6 c6 y1.2.2]) (gv (fun _ k=>k) [0,1] ⟨gk 0,gk 1,gk 2,gk 3,gk 4,gk 5,⟨⟩⟩)<|
  fun s7 _ k=>k<|jsq<|jsr<|jpc 1 rfl<|jfa 2 rfl<|jlo 0 rfl rfl rfl<|jpc 2 rfl<|jot<|jif rfl (jsk<|jtn<|jsq<|jbk<|jds [] [0, 1] 11<|jdf 0 2 rfl rfl<|jdo 1 0 rfl rfl rfl rfl<|jdc 8 [2] rfl<|jdi 3 2 rfl rfl rfl rfl<|fun x5 b13 o5=>
  jdl 4 true o_Promotion rfl (gk 0) rfl<|jdf 5 2 rfl rfl<|jdo 6 1 rfl rfl rfl rfl<|jdc 3 [7] rfl<|jdi 8 6 rfl rfl rfl rfl<|fun x6 b14 o6=>jdl 9 true o_Promotion rfl (gk 0) rfl<|jdp 10 (vb (!(x5 == x6))) rfl<|jde<|jtn<|jif rfl (jsr<|
  jpc 1 rfl<|jot<|jxr<|jbr<|jtr<|jlr<|jbr<|jtr<|jr1 rfl rfl (fun _ k=>k) [] ⟨⟩)<|jsk<|jbn<|jtn<|jrg<|jpc 3 rfl<|joe<|jln (gv (fun _ k=>k) [0,1] ⟨gk 2,gk 3,gk 4,gk 5,gk 6,gk 7,⟨⟩⟩))<|jxe<|jte<|jle<|jbh<|jtn<|jsr<|jpc 1 rfl<|jot<|jxr<|
  jr1 rfl rfl (fun _ k=>k) [] ⟨⟩

theorem c_law05_RulebaseParses {y0 : Str} {y1 : List Int} {y2 : Int} {y3 : Int} : Con False Tryz.prog 3 [vs y0, sv p1 y1 c1, vi y2, .int .u8 y3] [] [Rl (eInt .i64) p1 c1 y1, Tb Tryz.prog "strings.asciiSpace" .u8 Lib.asciiSpaceTab, Pt (eArr 4 eStr) 1 0 tab_rulebase_kinds, Wt 2] (m_law05_RulebaseParses y0 y1 y2 y3) fun r K=>K (vb r) [] [] :=
 ent3 Tryz.call3 Tryz.func3 rfl fun X=>jsr<|jpc 1 rfl<|jot<|jsq<|jsr<|jpc 3 rfl<|jot<|jif rfl (jsr<|jpc 1 rfl<|jot<|jxr<|jtr<|jr1 rfl rfl (fun _ k=>k) [] ⟨⟩)<|jsk<|jtn<|jsr<|jpc 1 rfl<|jcl c_keep_New rfl ⟨ck 0,⟨⟩⟩<|fun r1 _ k b1 p2 c2=>k<|jpc 1 rfl<|jot<|jsr<|jpc 1 rfl<|
  jca .s [0] [] c_keep_Src_Base rfl rfl rfl ⟨ck 0,⟨⟩⟩<|fun r2 _ k p3 c3 p4 c4 p5 c5=>k<|jcl c_ref05_Format rfl ⟨ck 0,ck 1,ck 2,⟨⟩⟩<|fun r3 _ k=>k<|jpc 5 rfl<|jot<|jsr<|jpc 1 rfl<|
  jby .s rfl Tryz.underlying9 Tryz.underlying34 Tryz.underlying5<|fun r_1 p6 c6=>jpc 1 rfl<|jot<|
  jjn (fun s1 K=>∀ r_2,K [(0, vs y0), (9, pt b1 0), (10, vs r3.1), (12, .slice p6 (List.length r3.1) c6)] [bx b1 55 [sv p2 r1.1 c2, vi r2.2], r_2] [Byr 5 r_2 p6 (List.length r3.1) s1, Rl (eInt .i64) p2 c2 r1.1, Tb Tryz.prog "strings.asciiSpace" .u8 Lib.asciiSpaceTab, Pt (eArr 4 eStr) 1 0 tab_rulebase_kinds, Wt 2]) (
  jsr<|jpc 3 rfl<|jot<|jif rfl (jrg<|jpc 4 rfl<|jcl c_keep_Mod rfl ⟨⟩<|fun r4 _ k=>k<|jpc 1 rfl<|jbyi 0 rfl rfl rfl<|fun x1 b2 hp1=>jbys .s 1 0 rfl rfl hp1 rfl rfl<|fun x2 r_3=>joe<|
  jnn (gv (fun _ k=>k r_3) [0,1] ⟨gk 0,gk 5,gk 7,gk 8,gk 9,⟨⟩⟩))<|jsk<|jnn (gv (fun _ k=>k r_1) [0,1] ⟨gk 0,gk 4,gk 6,gk 7,gk 8,⟨⟩⟩))<|fun s1 _ k r_2=>k<|jsr<|jpc 1 rfl<|jot<|
  jjn (fun s2 K=>K [(0, vs y0), (9, pt b1 0), (10, vs r3.1), (12, .slice p6 (List.length r3.1) c6), (13, vs s2.1)] [bx b1 55 [sv p2 r1.1 c2, vi s2.2], r_2] [Rl (eInt .i64) p2 c2 r1.1, Byr 5 r_2 p6 (List.length r3.1) s1, Tb Tryz.prog "strings.asciiSpace" .u8 Lib.asciiSpaceTab, Pt (eArr 4 eStr) 1 0 tab_rulebase_kinds, Wt 2]) (
  jsr<|jpc 1 rfl<|jca .s [0] [] c_keep_Src_N rfl rfl rfl ⟨ck 1,⟨⟩⟩<|fun r5 _ k=>k<|jpc 1 rfl<|jot<|jbk<|
  jlp (fun s3 K=>K [(0, vs y0), (9, pt b1 0), (10, vs r3.1), (12, .slice p6 (List.length r3.1) c6), (13, vs s3.1), (14, vi s3.2.1)] [bx b1 55 [sv p2 r1.1 c2, vi s3.2.2], r_2] [Rl (eInt .i64) p2 c2 r1.1, Byr 5 r_2 p6 (List.length r3.1) s1, Tb Tryz.prog "strings.asciiSpace" .u8 Lib.asciiSpaceTab, Pt (eArr 4 eStr) 1 0 tab_rulebase_kinds, Wt 2]) (gv (fun _ k=>k) [0,1] ⟨gk 1,gk 0,gk 2,gk 3,gk 4,⟨⟩⟩)<|
  fun s3 _ k=>k<|jsq<|jsr<|jpc 2 rfl<|jot<|jif rfl (jsk<|jtn<|jsq<|jbk<|jrg<|jpc 2 rfl<|
  jbs .s (e := eStr) 9 [vs [97, 120, 105, 111, 109, 32, 112], vs [112, 114, 101, 109, 105, 115, 101, 32, 113, 32, 51], vs [32, 102, 114, 111, 109, 32, 97, 110, 110], vs [97, 115, 115, 117, 109, 101, 32, 126, 112], vs [115, 116, 114, 105, 99, 116, 32, 115, 58, 32, 112, 32, 45, 62, 32, 113], vs [115, 116, 114, 105, 99, 116, 32, 115, 58, 32, 45, 62, 32, 113], vs [114, 117, 108, 101, 32, 100, 32, 50, 58, 32, 61, 62, 32, 112], vs [114, 117, 108, 101, 32, 100, 32, 50, 58, 32, 112, 44, 32, 113, 32, 61, 62, 32, 126, 100], vs [112, 114, 111, 109, 111, 116, 101, 32, 100, 32, 53, 32, 105, 102, 32, 113], vs [10], vs [10], vs [10], vs [32], vs [44], vs [120]] ([[97, 120, 105, 111, 109, 32, 112], [112, 114, 101, 109, 105, 115, 101, 32, 113, 32, 51], [32, 102, 114, 111, 109, 32, 97, 110, 110], [97, 115, 115, 117, 109, 101, 32, 126, 112], [115, 116, 114, 105, 99, 116, 32, 115, 58, 32, 112, 32, 45, 62, 32, 113], [115, 116, 114, 105, 99, 116, 32, 115, 58, 32, 45, 62, 32, 113], [114, 117, 108, 101, 32, 100, 32, 50, 58, 32, 61, 62, 32, 112], [114, 117, 108, 101, 32, 100, 32, 50, 58, 32, 112, 44, 32, 113, 32, 61, 62, 32, 126, 100], [112, 114, 111, 109, 111, 116, 101, 32, 100, 32, 53, 32, 105, 102, 32, 113], [10], [10], [10], [32], [44], [120]] : List Str) (rC vS (rC vS (rC vS (rC vS (rC vS (rC vS (rC vS (rC vS (rC vS (rC vS (rC vS (rC vS (rC vS (rC vS (rC vS rN)))))))))))))))<|
  fun p7 c7=>jca .s [0] [] c_keep_Src_Text rfl rfl rfl ⟨ck 1,ck 0,⟨⟩⟩<|fun r6 _ k=>k<|jbd fun x3 h1=>jv (fun h=>r_cat h rfl rfl h1)<|jpc 1 rfl<|joe<|jbn<|jtn<|jrg<|jpc 3 rfl<|joe<|jln (gv (fun _ k=>k) [0,1] ⟨gk 1,gk 2,gk 3,gk 4,gk 5,⟨⟩⟩))<|
  jxe<|jte<|jle<|jbh<|jnn (gv (fun _ k=>k) [0,1] ⟨gk 0,gk 1,gk 2,gk 3,gk 4,⟨⟩⟩))<|fun s2 _ k=>k<|jjo (fun s4 K=>K [] [[], []] [Tb Tryz.prog "strings.asciiSpace" .u8 Lib.asciiSpaceTab, Pt (eArr 4 eStr) 1 0 tab_rulebase_kinds, Wt 2]) (
  jjn (fun s5 K=>∀ p8 c8,K [(76, sv p8 s5.1 c8), (77, vi s5.2.1), (78, vi s5.2.2)] [[], []] [Rl eStr p8 c8 s5.1, Tb Tryz.prog "strings.asciiSpace" .u8 Lib.asciiSpaceTab, Pt (eArr 4 eStr) 1 0 tab_rulebase_kinds, Wt 2]) (jdS [] [] 22<|
  jdc 17 [0,1,2,4,5] rfl<|jbd fun x4 h2=>jdv 6 rfl (fun h=>r_cat h rfl rfl h2)<|jdc 14 [7,8] rfl<|jbd fun x5 h3=>jdv 9 rfl (fun h=>r_cat h rfl rfl h3)<|jdc 7 [10,11,12,13,14,17] rfl<|jbd fun x6 h4=>jdv 18 rfl (fun h=>r_cat h rfl rfl h4)<|
  jdc 5 [21] rfl<|jd2 3 15 (jbyS (i := 1) (.f rfl) 1 rfl rfl rfl Tryz.underlying34 Tryz.underlying5 Tryz.underlying9<|jdn<|jd1 15<|jca (.f rfl) [0] [] c_keep_Src_N rfl rfl rfl ⟨ck 0,⟨⟩⟩<|fun r7 _ k=>k<|jdn<|jbd fun x7 h5=>
  jdv 16 rfl (fun h=>r_ssub h rfl Tryz.underlying9 rfl rfl (.inl ⟨rfl, rfl⟩) (.inr ⟨_, rfl⟩) h5)<|jd1 19<|
  jbs (.f rfl) (e := eStr) 9 [vs y0, vs r3.1, vs s1, vs s2.1, vs x4, vs x5, vs x7, vs x6] ([y0, r3.1, s1, s2.1, x4, x5, x7, x6] : List Str) (rC vS (rC vS (rC vS (rC vS (rC vS (rC vS (rC vS (rC vS rN))))))))<|fun p9 c9=>jdn<|jdc 0 [20] rfl<|
  jde<|jnn (gv (fun _ k=>k p9 c9) [900,901] ⟨gk 0,gk 3,gk 4,gk 5,⟨⟩⟩)) <|jca (.f rfl) [0] [] c_keep_Src_N rfl rfl rfl ⟨ck 0,⟨⟩⟩<|fun r8 _ k=>k<|jdn<|jbd fun x8 h6=>
  jdv 16 rfl (fun h=>r_ssub h rfl Tryz.underlying9 rfl rfl (.inl ⟨rfl, rfl⟩) (.inr ⟨_, rfl⟩) h6)<|jd1 3<|jbyS (i := 1) (.f rfl) 1 rfl rfl rfl Tryz.underlying34 Tryz.underlying5 Tryz.underlying9<|jdn<|jd1 19<|
  jbs (.f rfl) (e := eStr) 9 [vs y0, vs r3.1, vs s1, vs s2.1, vs x4, vs x5, vs x8, vs x6] ([y0, r3.1, s1, s2.1, x4, x5, x8, x6] : List Str) (rC vS (rC vS (rC vS (rC vS (rC vS (rC vS (rC vS (rC vS rN))))))))<|fun p10 c10=>jdn<|jdc 0 [20] rfl<|
  jde<|jnn (gv (fun _ k=>k p10 c10) [900,901] ⟨gk 0,gk 3,gk 4,gk 5,⟨⟩⟩))<|fun s5 _ k p8 c8=>k<|jbk<|
  jlp (fun s6 K=>K [(76, sv p8 s5.1 c8), (77, vi s5.2.1), (78, vi s6)] [[], []] [Rl eStr p8 c8 s5.1, Tb Tryz.prog "strings.asciiSpace" .u8 Lib.asciiSpaceTab, Pt (eArr 4 eStr) 1 0 tab_rulebase_kinds, Wt 2]) (gv (fun _ k=>k) [900,901] ⟨gk 0,gk 1,gk 2,gk 3,⟨⟩⟩)<|
  fun s6 _ k=>k<|jsr<|jpc 1 rfl<|jot<|jsq<|jif rfl (jsk<|jtn<|jsq<|jbk<|jsr<|jix 0 rfl rfl rfl<|fun x9 b3 o1=>jld false oS (gk 0) rfl<|jpc 1 rfl<|jot<|jsr<|jpc 1 rfl<|jcl c_rulebase_Parse rfl ⟨ck 2,ck 3,ck 4,⟨⟩⟩<|
  fun r9 _ k p11 c11 p12 c12 p13 c13=>k<|jpc 4 rfl<|jal .s (.agg #[.slice none 0 0, .slice none 0 0, .slice none 0 0])<|fun b4=>jso .s 2 rfl rfl rfl<|jpc 2 rfl<|jot<|jsr<|jpc 1 rfl<|jcl c_ref05_Parse rfl ⟨⟩<|
  fun r10 _ k p14 c14 p15 c15 p16 c16=>k<|jpc 4 rfl<|jal .s (.agg #[.slice none 0 0, .slice none 0 0, .slice none 0 0])<|fun b5=>jso .s 3 rfl rfl rfl<|jpc 2 rfl<|jot<|
  jjn (fun s7 K=>K [(76, sv p8 s5.1 c8), (77, vi s5.2.1), (78, vi s6), (107, vb s7)] [[], [], [], []] [Rl eStr p8 c8 s5.1, Tb Tryz.prog "strings.asciiSpace" .u8 Lib.asciiSpaceTab, Pt (eArr 4 eStr) 1 0 tab_rulebase_kinds, Wt 2]) (jrg<|
  jpc 4 rfl<|jsg 97 rfl (jpc 3 rfl<|jpe (vb true)<|jpc 5 rfl<|jpe (vb true)<|joe<|jnn (gv (fun _ k=>k) [900,901,902,903] ⟨gk 7,gk 8,gk 9,gk 10,⟨⟩⟩))<|jpc 3 rfl<|jpe (vb (r9.2.2 != r10.2.2))<|jpc 1 rfl<|jsg 102 rfl (jpc 4 rfl<|jpe (vb true)<|
  joe<|jnn (gv (fun _ k=>k) [900,901,902,903] ⟨gk 7,gk 8,gk 9,gk 10,⟨⟩⟩))<|jla 2 3 rfl rfl rfl<|jla 3 3 rfl rfl rfl<|jcl c_ref05_Same rfl ⟨ck 3,ck 4,ck 5,ck 0,ck 1,ck 2,⟨⟩⟩<|fun r11 _ k=>k<|jpc 1 rfl<|jpe (vb (!r11))<|joe<|
  jnn (gv (fun _ k=>k) [900,901,902,903] ⟨gk 7,gk 8,gk 9,gk 10,⟨⟩⟩))<|fun s7 _ k=>k<|jif rfl (jsr<|jpc 1 rfl<|jot<|jxr<|jbr<|jtr<|jlr<|jbr<|jlr<|jr1 rfl rfl (fun _ k=>k) [] ⟨⟩)<|jsk<|jbn<|jtn<|jrg<|jpc 2 rfl<|joe<|
  jln (gv (fun _ k=>k) [900,901] ⟨gk 0,gk 1,gk 2,gk 3,⟨⟩⟩))<|jxe<|jte<|jle<|jbh<|jln (gv (fun _ k=>k) [900,901] ⟨gk 1,gk 2,gk 3,⟨⟩⟩))<|fun s4 _ k=>k<|jsr<|jcl c_law05_awake rfl ⟨ck 0,ck 1,ck 2,⟨⟩⟩<|fun r12 _ k=>k<|jpc 1 rfl<|jot<|jxr<|
  jr1 rfl rfl (fun _ k=>k) [] ⟨⟩

end Go.Proofs.YtfifhonicjamfaaGreatDoor
