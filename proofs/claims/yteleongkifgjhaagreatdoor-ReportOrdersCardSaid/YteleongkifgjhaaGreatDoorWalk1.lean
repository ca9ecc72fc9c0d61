/- The Go functions compute their models: printed by program (gd3). Conditions: none. -/
import Derived.Test.YteleongkifgjhaaGreatDoorProg
import Derived.Test.YteleongkifgjhaaGreatDoorSb3
import Derived.Test.YteleongkifgjhaaGreatDoorFrmJ
import Derived.Test.YteleongkifgjhaaGreatDoorModels
import Derived.Test.YteleongkifgjhaaGreatDoorShelfP
namespace Go.Proofs.YteleongkifgjhaaGreatDoor
open Go Go.GD
set_option autoImplicit false
set_option maxRecDepth 100000
variable {p1 p2 p3 p4 : Option Addr} {c1 c2 c3 c4 : Nat} {b1 : Nat} {r_1 r_2 : Res}

abbrev e_Order : E T_Order := eProd (eSlice eStr) (eSlice (eInt .i64))
abbrev o_Order : Opn e_Order := (oP oL oL)
abbrev e_keep_Src : E T_keep_Src := eProd (eSlice (eInt .i64)) (eInt .i64)
abbrev o_keep_Src : Opn e_keep_Src := (oP oL oI)
abbrev e_ref02_reader : E T_ref02_reader := eProd eStr (eProd (eInt .i64) (eInt .i64))
abbrev o_ref02_reader : Opn e_ref02_reader := (oP oS (oP oI oI))
abbrev e_Literal : E T_Literal := eProd eBool eStr
abbrev o_Literal : Opn e_Literal := (oP oB oS)
abbrev e_Commitment : E T_Commitment := eProd e_Literal (eProd eBool (eProd eBool (eSlice e_Literal)))
abbrev o_Commitment : Opn e_Commitment := (oP o_Literal (oP oB (oP oB oL)))
abbrev e_Speech : E T_Speech := eProd (eInt .i64) (eProd (eInt .i64) (eProd (eInt .i64) (eProd e_Literal (eSlice e_Literal))))
abbrev o_Speech : Opn e_Speech := (oP oI (oP oI (oP oI (oP o_Literal oL))))

theorem Tryz.key158 : KeyOk Tryz.prog 158 50 159 (fun x : T_Literal => .agg #[vb x.1, vs x.2]) :=
  ⟨Tryz.underlying158, fun _ _ _ => by kernel_rfl, fun x y w => (run_eqG 50).1 50 _ _ (x == y) (by kernel_rfl) 10000 (by decide), ⟨_, Tryz.underlying50, fun _ _ => .inl rfl⟩, fun x => by simp [Instr.sameBits, ba_beq]⟩

theorem c_keep_New {qd : Prop} {y0 : List Int} : Con qd Tryz.prog 6 [sv p1 y0 c1] [] [Rl (eInt .i64) p1 c1 y0] (m_keep_New y0) fun r K=>∀ b1 p2 c2,K (pt b1 0) [bx b1 68 [sv p2 r.1 c2, vi r.2]] [Rl (eInt .i64) p2 c2 r.1] :=
 ent3 Tryz.call6 Tryz.func6 rfl fun X=>jsr<|jpc 1 rfl<|jot<|jsr<|jpc 4 rfl<|jsl (gk 0) rfl rfl rfl (.inl ⟨rfl, rfl⟩) (.inr ⟨_, rfl⟩)<|fun x1 p2 c2=>jpe (.agg #[sv p2 x1 c2, vi 0])<|jbx .s rfl<|fun b1=>jpc 1 rfl<|jot<|jxr<|jr1 rfl rfl (fun _ k=>k b1 p2 c2) [0] ⟨gk 0,⟨⟩⟩

theorem c_keep_Mod {qd : Prop} {y0 : Int} {y1 : Int} : Con qd Tryz.prog 49 [vi y0, vi y1] [] [] (m_keep_Mod y0 y1) fun r K=>K (vi r) [] [] :=
 ent3 Tryz.call49 Tryz.func49 rfl fun X=>jsr<|jpc 1 rfl<|jot<|jsq<|jsr<|jpc 2 rfl<|jot<|jif rfl (jsr<|jpc 1 rfl<|jot<|jxr<|jtr<|jr1 rfl rfl (fun _ k=>k) [] ⟨⟩)<|jsk<|jtn<|jsr<|jpc 2 rfl<|jbd fun x1 h1=>jv (fun h=>r_remK h rfl rfl h1)<|jpc 1 rfl<|jot<|jsq<|jsr<|jpc 2 rfl<|jot<|
  jif rfl (jrg<|jpc 4 rfl<|joe<|jtn<|jsr<|jpc 2 rfl<|jot<|jxr<|jr1 rfl rfl (fun _ k=>k) [] ⟨⟩)<|jsk<|jtn<|jsr<|jpc 2 rfl<|jot<|jxr<|jr1 rfl rfl (fun _ k=>k) [] ⟨⟩

theorem c_keep_Src_Raw {qd : Prop} {y0 : T_keep_Src} : Con qd Tryz.prog 50 [pt b1 0] [bx b1 68 [sv p1 y0.1 c1, vi y0.2]] [Rl (eInt .i64) p1 c1 y0.1] (m_keep_Src_Raw y0) fun r K=>K (vi r.1) [bx b1 68 [sv p1 y0.1 c1, vi r.2]] [] :=
 ent3 Tryz.call50 Tryz.func50 rfl fun X=>jsr<|jpc 1 rfl<|jot<|jsq<|jds [] [0] 10<|jdc 8 [0,1] rfl<|jdf 2 1 rfl rfl<|jdo 3 0 rfl rfl rfl rfl<|jdc 4 [4,5] rfl<|jdf 6 0 rfl rfl<|jdo 7 0 rfl rfl rfl rfl<|jdc 0 [8,9] rfl<|jde<|jtn<|jif rfl (jsr<|jpc 1 rfl<|jot<|jxr<|jtr<|
  jr1 rfl rfl (fun _ k=>k) [0] ⟨⟩)<|jsk<|jtn<|jsr<|jpc 2 rfl<|jfa 1 rfl<|jlo 0 rfl rfl rfl<|jpc 2 rfl<|jfa 1 rfl<|jso .s 0 rfl rfl rfl<|jot<|jds [] [0] 12<|jdc 10 [0,1] rfl<|jdf 2 0 rfl rfl<|jdo 3 0 rfl rfl rfl rfl<|jdc 6 [4,5] rfl<|
  jdf 6 1 rfl rfl<|jdo 7 0 rfl rfl rfl rfl<|jdc 3 [8] rfl<|jdi 9 0 rfl rfl rfl rfl<|fun x1 b2 o1=>jdl 10 false oI rfl (gk 0) rfl<|jdc 0 [11] rfl<|jde<|jtn<|jxr<|jr1 rfl rfl (fun _ k=>k) [0] ⟨⟩

theorem c_keep_Src_N {qd : Prop} {y0 : T_keep_Src} {y1 : Int} : Con qd Tryz.prog 17 [pt b1 0, vi y1] [bx b1 68 [sv p1 y0.1 c1, vi y0.2]] [Rl (eInt .i64) p1 c1 y0.1] (m_keep_Src_N y0 y1) fun r K=>K (vi r.1) [bx b1 68 [sv p1 y0.1 c1, vi r.2]] [] :=
 ent3 Tryz.call17 Tryz.func17 rfl fun X=>jsr<|jpc 1 rfl<|jot<|jsr<|jpc 1 rfl<|jca .s [0] [] c_keep_Src_Raw rfl rfl rfl ⟨ck 0,⟨⟩⟩<|fun r1 _ k=>k<|jpc 1 rfl<|jcl c_keep_Mod rfl ⟨⟩<|fun r2 _ k=>k<|jpc 1 rfl<|jot<|jxr<|jr1 rfl rfl (fun _ k=>k) [0] ⟨⟩

theorem c_keep_Src_Range {qd : Prop} {y0 : T_keep_Src} {y1 : Int} {y2 : Int} : Con qd Tryz.prog 8 [pt b1 0, vi y1, vi y2] [bx b1 68 [sv p1 y0.1 c1, vi y0.2]] [Rl (eInt .i64) p1 c1 y0.1] (m_keep_Src_Range y0 y1 y2) fun r K=>K (vi r.1) [bx b1 68 [sv p1 y0.1 c1, vi r.2]] [] :=
 ent3 Tryz.call8 Tryz.func8 rfl fun X=>jsr<|jpc 1 rfl<|jot<|jsr<|jpc 6 rfl<|jca .s [0] [] c_keep_Src_N rfl rfl rfl ⟨ck 0,⟨⟩⟩<|fun r1 _ k=>k<|jpc 2 rfl<|jot<|jxr<|jr1 rfl rfl (fun _ k=>k) [0] ⟨⟩

theorem c_keep_Voc {qd : Prop} {y0 : Int} : Con qd Tryz.prog 24 [vi y0] [] [] (m_keep_Voc y0) fun r K=>∀ p1 c1,K (sv p1 r c1) [] [Rl eStr p1 c1 r] :=
 ent3 Tryz.call24 Tryz.func24 rfl fun X=>jsr<|jpc 1 rfl<|jot<|jsr<|jpc 1 rfl<|jro eStr 9<|jot<|jsq<|jsr<|jpc 1 rfl<|jot<|jbk<|jlp (fun s1 K=>∀ p1 c1 r_1,K [(0, vi y0), (3, sv p1 s1.1 c1), (4, vi s1.2)] [r_1] [Al eStr 9 r_1 p1 c1 s1.1]) (gv (fun _ k=>k none 0 []) [0] ⟨gk 0,⟨⟩⟩)<|
  fun s1 _ k p1 c1 r_1=>k<|jsq<|jsr<|jpc 3 rfl<|jot<|jif rfl (jsk<|jtn<|jsq<|jbk<|jrg<|jpc 3 rfl<|jpe (.int .u8 (IntKind.u8.wrap (w64 ((97 : Int) + s1.2))))<|
  jbs .s (e := eInt .u8) 5 [.int .u8 (IntKind.u8.wrap (w64 ((97 : Int) + s1.2)))] ([IntKind.u8.wrap (w64 ((97 : Int) + s1.2))] : List Int) (rC vI rN)<|fun p2 c2=>jsb .s (gk 0) rfl Tryz.underlying103 Tryz.underlying5 Tryz.underlying9<|
  jbs .s (e := eStr) 9 [vs (strOf ([IntKind.u8.wrap (w64 ((97 : Int) + s1.2))] : List Int))] ([strOf ([IntKind.u8.wrap (w64 ((97 : Int) + s1.2))] : List Int)] : List Str) (rC vS rN)<|fun p3 c3=>jar .s 0 2 rfl (gk 0) rfl rfl<|fun x1 r_2 p4 c4=>jpc 1 rfl<|
  joe<|jbn<|jtn<|jrg<|jpc 3 rfl<|joe<|jln (gv (fun _ k=>k p4 c4 r_2) [0] ⟨gk 0,⟨⟩⟩))<|jxe<|jte<|jle<|jbh<|jtn<|jsr<|jpc 2 rfl<|jot<|jxr<|jsh 0 0 rfl rfl<|jr1 rfl rfl (fun _ k=>k p1 c1) [] ⟨gk 0,⟨⟩⟩

theorem c_ref42_Same {qd : Prop} {y0 : List Str} {y1 : List Str} : Con qd Tryz.prog 9 [sv p1 y0 c1, sv p2 y1 c2] [] [Rl eStr p1 c1 y0, Rl eStr p2 c2 y1] (m_ref42_Same y0 y1) fun r K=>K (vb r) [] [] :=
 ent3 Tryz.call9 Tryz.func9 rfl fun X=>jsr<|jpc 1 rfl<|jot<|jsq<|jsr<|jpc 5 rfl<|jot<|jif rfl (jsr<|jpc 1 rfl<|jot<|jxr<|jtr<|jr1 rfl rfl (fun _ k=>k) [] ⟨⟩)<|jsk<|jtn<|jsq<|jsr<|jpc 1 rfl<|jot<|jbk<|
  jlp (fun s1 K=>K [(0, sv p1 y0 c1), (1, sv p2 y1 c2), (5, vi s1)] [] [Rl eStr p1 c1 y0, Rl eStr p2 c2 y1]) (gv (fun _ k=>k) [] ⟨gk 0,gk 1,⟨⟩⟩)<|fun s1 _ k=>k<|jsq<|jsr<|jpc 4 rfl<|jot<|jif rfl (jsk<|jtn<|jsq<|jbk<|jds [] [] 9<|
  jdc 7 [0,1] rfl<|jdi 2 0 rfl rfl rfl rfl<|fun x1 b1 o1=>jdl 3 false oS rfl (gk 0) rfl<|jdc 3 [4,5] rfl<|jdi 6 2 rfl rfl rfl rfl<|fun x2 b2 o2=>jdl 7 false oS rfl (gk 0) rfl<|jdc 0 [8] rfl<|jde<|jtn<|jif rfl (jsr<|jpc 1 rfl<|jot<|jxr<|jbr<|
  jtr<|jlr<|jbr<|jtr<|jr1 rfl rfl (fun _ k=>k) [] ⟨⟩)<|jsk<|jbn<|jtn<|jrg<|jpc 3 rfl<|joe<|jln (gv (fun _ k=>k) [] ⟨gk 2,gk 3,⟨⟩⟩))<|jxe<|jte<|jle<|jbh<|jtn<|jsr<|jpc 1 rfl<|jot<|jxr<|jr1 rfl rfl (fun _ k=>k) [] ⟨⟩

theorem k_formula_Depth_all {qd : Prop} (k : Nat) :
    (∀ {y0 : T_Formula} {p1 : Option Addr} {c1 : Nat}, Con qd Tryz.prog 115 [.agg #[vi ((fv y0).1), vs ((fv y0).2.1), sv p1 ((fv y0).2.2) c1]] [] [Rl e_Formula p1 c1 ((fv y0).2.2)] (k_formula_Depth k y0) fun r K=>K (vi r) [] []) := by
  induction k with
  | zero => exact con0 Tryz.call115
  | succ k ih =>
    have ih_formula_Depth := @ih
    exact @fun y0 p1 c1=>ent3 (m1 := F_formula_Depth (k_formula_Depth k) y0) Tryz.call115 Tryz.func115 rfl fun X=>jsr<|jbx .s rfl<|fun b1=>jpc 1 rfl<|jot<|jsr<|jpc 1 rfl<|jot<|jsq<|jsr<|jfa 2 rfl<|jlo 0 rfl rfl rfl<|jpc 2 rfl<|jot<|jbk<|
  jlp (fun s1 K=>K [(3, vi s1.1), (7, sv p1 ((fv y0).2.2) c1), (8, vi (len ((fv y0).2.2))), (9, vi s1.2)] [[]] [Rl e_Formula p1 c1 ((fv y0).2.2)]) (gv (fun _ k=>k) [900] ⟨gk 0,⟨⟩⟩)<|fun s1 _ k=>k<|jsr<|jpc 1 rfl<|jot<|jsq<|jif rfl (jsk<|jtn<|
  jsq<|jbk<|jsr<|jix 0 rfl rfl rfl<|fun x1 b2 o1=>jld true o_Formula (gk 0) rfl<|fun p2 c2=>jal .s (.agg #[vi 0, vs [], .slice none 0 0])<|fun b3=>jso .s 1 rfl rfl rfl<|jot<|jrg<|jpc 1 rfl<|jla 1 3 rfl rfl rfl<|
  jcl ih_formula_Depth rfl ⟨ck 0,⟨⟩⟩<|fun r1 _ k=>k<|jpc 3 rfl<|joe<|jbn<|jtn<|jrg<|jpc 2 rfl<|joe<|jln (gv (fun _ k=>k) [900] ⟨gk 2,⟨⟩⟩))<|jxe<|jte<|jle<|jbh<|jtn<|jsr<|jpc 2 rfl<|jot<|jxr<|jr1 rfl rfl (fun _ k=>k) [] ⟨⟩

theorem c_formula_Depth {qd : Prop} {y0 : T_Formula} : Con qd Tryz.prog 115 [.agg #[vi ((fv y0).1), vs ((fv y0).2.1), sv p1 ((fv y0).2.2) c1]] [] [Rl e_Formula p1 c1 ((fv y0).2.2)] (m_formula_Depth y0) fun r K=>K (vi r) [] [] := conLim fun k => (k_formula_Depth_all k)

theorem k_formula_Size_all {qd : Prop} (k : Nat) :
    (∀ {y0 : T_Formula} {p1 : Option Addr} {c1 : Nat}, Con qd Tryz.prog 114 [.agg #[vi ((fv y0).1), vs ((fv y0).2.1), sv p1 ((fv y0).2.2) c1]] [] [Rl e_Formula p1 c1 ((fv y0).2.2)] (k_formula_Size k y0) fun r K=>K (vi r) [] []) := by
  induction k with
  | zero => exact con0 Tryz.call114
  | succ k ih =>
    have ih_formula_Size := @ih
    exact @fun y0 p1 c1=>ent3 (m1 := F_formula_Size (k_formula_Size k) y0) Tryz.call114 Tryz.func114 rfl fun X=>jsr<|jbx .s rfl<|fun b1=>jpc 1 rfl<|jot<|jsr<|jpc 1 rfl<|jot<|jsq<|jsr<|jfa 2 rfl<|jlo 0 rfl rfl rfl<|jpc 2 rfl<|jot<|jbk<|
  jlp (fun s1 K=>K [(3, vi s1.1), (7, sv p1 ((fv y0).2.2) c1), (8, vi (len ((fv y0).2.2))), (9, vi s1.2)] [[]] [Rl e_Formula p1 c1 ((fv y0).2.2)]) (gv (fun _ k=>k) [900] ⟨gk 0,⟨⟩⟩)<|fun s1 _ k=>k<|jsr<|jpc 1 rfl<|jot<|jsq<|jif rfl (jsk<|jtn<|
  jsq<|jbk<|jsr<|jix 0 rfl rfl rfl<|fun x1 b2 o1=>jld true o_Formula (gk 0) rfl<|fun p2 c2=>jal .s (.agg #[vi 0, vs [], .slice none 0 0])<|fun b3=>jso .s 1 rfl rfl rfl<|jot<|jrg<|jpc 1 rfl<|jla 1 3 rfl rfl rfl<|
  jcl ih_formula_Size rfl ⟨ck 0,⟨⟩⟩<|fun r1 _ k=>k<|jpc 2 rfl<|joe<|jbn<|jtn<|jrg<|jpc 2 rfl<|joe<|jln (gv (fun _ k=>k) [900] ⟨gk 2,⟨⟩⟩))<|jxe<|jte<|jle<|jbh<|jtn<|jsr<|jpc 2 rfl<|jot<|jxr<|jr1 rfl rfl (fun _ k=>k) [] ⟨⟩

theorem c_formula_Size {qd : Prop} {y0 : T_Formula} : Con qd Tryz.prog 114 [.agg #[vi ((fv y0).1), vs ((fv y0).2.1), sv p1 ((fv y0).2.2) c1]] [] [Rl e_Formula p1 c1 ((fv y0).2.2)] (m_formula_Size y0) fun r K=>K (vi r) [] [] := conLim fun k => (k_formula_Size_all k)

theorem c_formula_counted {qd : Prop} {y0 : T_Formula} : Con qd Tryz.prog 117 [.agg #[vi ((fv y0).1), vs ((fv y0).2.1), sv p1 ((fv y0).2.2) c1]] [] [Rl e_Formula p1 c1 ((fv y0).2.2)] (m_formula_counted y0) fun r K=>K (vb r) [] [] :=
 ent3 Tryz.call117 Tryz.func117 rfl fun X=>jsr<|jbx .s rfl<|fun b1=>jpc 1 rfl<|jot<|jsr<|jfa 2 rfl<|jlo 0 rfl rfl rfl<|jpc 2 rfl<|jot<|jsq<|jsr<|jfa 0 rfl<|jlo 0 rfl rfl rfl<|jot<|jbk<|jjn (fun s1 K=>K [(3, vi (len ((fv y0).2.2))), (8, vi ((fv y0).1)), (9, vb s1)] [[]] []) (jsr<|
  jpc 2 rfl<|jot<|jif rfl (jsk<|jnn (gv (fun _ k=>k) [900] ⟨⟩))<|jsr<|jpc 2 rfl<|jot<|jif rfl (jsk<|jnn (gv (fun _ k=>k) [900] ⟨⟩))<|jrg<|jpc 2 rfl<|joe<|jnn (gv (fun _ k=>k) [900] ⟨⟩))<|fun s1 _ k=>k<|jif rfl (jsr<|jpc 3 rfl<|jot<|jxr<|jbr<|
  jtr<|jr1 rfl rfl (fun _ k=>k) [] ⟨⟩)<|jsr<|jpc 2 rfl<|jot<|jif rfl (jsr<|jpc 3 rfl<|jot<|jxr<|jbr<|jtr<|jr1 rfl rfl (fun _ k=>k) [] ⟨⟩)<|jjn (fun s2 K=>K [(3, vi (len ((fv y0).2.2))), (8, vi ((fv y0).1)), (19, vb s2)] [[]] []) (jsr<|
  jpc 2 rfl<|jot<|jif rfl (jsk<|jnn (gv (fun _ k=>k) [900] ⟨⟩))<|jrg<|jpc 2 rfl<|joe<|jnn (gv (fun _ k=>k) [900] ⟨⟩))<|fun s2 _ k=>k<|jif rfl (
  jjp (fun K=>K [(2, vb ((decide (2 ≤ (len ((fv y0).2.2)))) && (decide ((len ((fv y0).2.2)) ≤ 6))))] [[]] []) (jrg<|jpc 3 rfl<|jsp (b := decide (2 ≤ (len ((fv y0).2.2)))) 24 rfl (fun hb1=>jpc 2 rfl<|
  jpe (vb (decide ((len ((fv y0).2.2)) ≤ 6)))<|jpc 1 rfl<|joe<|jup 2 (vb ((decide (2 ≤ (len ((fv y0).2.2)))) && (decide ((len ((fv y0).2.2)) ≤ 6)))) rfl (by rw [hb1]; rfl)<|jnn (gv (fun _ k=>k) [900] ⟨⟩))<|fun hb1=>jpc 2 rfl<|jpe (vb false)<|
  jpc 1 rfl<|joe<|jup 2 (vb ((decide (2 ≤ (len ((fv y0).2.2)))) && (decide ((len ((fv y0).2.2)) ≤ 6)))) rfl (by rw [hb1]; rfl)<|jnn (gv (fun _ k=>k) [900] ⟨⟩))<|fun _ k=>k<|jxr<|jbr<|jtr<|jr1 rfl rfl (fun _ k=>k) [] ⟨⟩)<|
  jjn (fun s3 K=>K [(3, vi (len ((fv y0).2.2))), (28, vb s3)] [[]] []) (jsr<|jpc 2 rfl<|jot<|jif rfl (jsk<|jnn (gv (fun _ k=>k) [900] ⟨⟩))<|jrg<|jpc 2 rfl<|joe<|jnn (gv (fun _ k=>k) [900] ⟨⟩))<|fun s3 _ k=>k<|jif rfl (jsr<|jpc 3 rfl<|jot<|
  jxr<|jbr<|jtr<|jr1 rfl rfl (fun _ k=>k) [] ⟨⟩)<|jsk<|jbn<|jtn<|jsr<|jpc 1 rfl<|jot<|jxr<|jr1 rfl rfl (fun _ k=>k) [] ⟨⟩

theorem k_formula_all__formula_counted_all {qd : Prop} (k : Nat) :
    (∀ {y0 : T_Formula} {p1 : Option Addr} {c1 : Nat}, Con qd Tryz.prog 116 [.agg #[vi ((fv y0).1), vs ((fv y0).2.1), sv p1 ((fv y0).2.2) c1], .func (.func 117) #[] #[]] [] [Rl e_Formula p1 c1 ((fv y0).2.2)] (k_formula_all__formula_counted k y0) fun r K=>K (vb r) [] []) := by
  induction k with
  | zero => exact con0 Tryz.call116
  | succ k ih =>
    have ih_formula_all__formula_counted := @ih
    exact @fun y0 p1 c1=>ent3 (m1 := F_formula_all__formula_counted (k_formula_all__formula_counted k) y0) Tryz.call116 Tryz.func116 rfl fun X=>jsr<|jbx .s rfl<|fun b1=>jpc 1 rfl<|jot<|jsq<|jsr<|jpc 1 rfl<|jla 0 3 rfl rfl rfl<|jca .s [] [] c_formula_counted rfl rfl rfl ⟨ck 0,⟨⟩⟩<|fun r1 _ k=>k<|jpc 1 rfl<|jot<|jif rfl (jsr<|jpc 1 rfl<|jot<|jxr<|jtr<|jr1 rfl rfl (fun _ k=>k) [] ⟨⟩
  )<|jsk<|jtn<|jsq<|jsr<|jfa 2 rfl<|jlo 0 rfl rfl rfl<|jpc 2 rfl<|jot<|jbk<|
  jlp (fun s1 K=>K [(1, .func (.func 117) #[] #[]), (12, sv p1 ((fv y0).2.2) c1), (13, vi (len ((fv y0).2.2))), (14, vi s1)] [[]] [Rl e_Formula p1 c1 ((fv y0).2.2)]) (gv (fun _ k=>k) [900] ⟨gk 0,⟨⟩⟩)<|fun s1 _ k=>k<|jsr<|jpc 1 rfl<|jot<|jsq<|
  jif rfl (jsk<|jtn<|jsq<|jbk<|jsr<|jix 0 rfl rfl rfl<|fun x1 b2 o1=>jld true o_Formula (gk 0) rfl<|fun p2 c2=>jal .s (.agg #[vi 0, vs [], .slice none 0 0])<|fun b3=>jso .s 1 rfl rfl rfl<|jot<|jsr<|jla 1 3 rfl rfl rfl<|jpc 1 rfl<|
  jcl ih_formula_all__formula_counted rfl ⟨ck 0,⟨⟩⟩<|fun r2 _ k=>k<|jpc 1 rfl<|jot<|jif rfl (jsr<|jpc 1 rfl<|jot<|jxr<|jbr<|jtr<|jlr<|jbr<|jtr<|jr1 rfl rfl (fun _ k=>k) [] ⟨⟩)<|jsk<|jbn<|jtn<|jrg<|jpc 2 rfl<|joe<|
  jln (gv (fun _ k=>k) [900] ⟨gk 2,⟨⟩⟩))<|jxe<|jte<|jle<|jbh<|jtn<|jsr<|jpc 1 rfl<|jot<|jxr<|jr1 rfl rfl (fun _ k=>k) [] ⟨⟩

theorem c_formula_all__formula_counted {qd : Prop} {y0 : T_Formula} : Con qd Tryz.prog 116 [.agg #[vi ((fv y0).1), vs ((fv y0).2.1), sv p1 ((fv y0).2.2) c1], .func (.func 117) #[] #[]] [] [Rl e_Formula p1 c1 ((fv y0).2.2)] (m_formula_all__formula_counted y0) fun r K=>K (vb r) [] [] := conLim fun k => (k_formula_all__formula_counted_all k)

theorem c_literal_ValidName {qd : Prop} {y0 : Str} : Con qd Tryz.prog 110 [vs y0] [] [] (m_literal_ValidName y0) fun r K=>K (vb r) [] [] :=
 ent3 Tryz.call110 Tryz.func110 rfl fun X=>jsr<|jpc 1 rfl<|jot<|jsq<|jjp (fun K=>K [(0, vs y0), (12, vb (((len y0) == 0) || (decide (12 < (len y0)))))] [] []) (jrg<|jpc 4 rfl<|jsp (b := (len y0) == 0) 8 rfl (fun hb1=>jpc 3 rfl<|jpe (vb true)<|joe<|
  jup 12 (vb (((len y0) == 0) || (decide (12 < (len y0))))) rfl (by rw [hb1]; rfl)<|jnn (gv (fun _ k=>k) [] ⟨⟩))<|fun hb1=>jpc 3 rfl<|jpe (vb (decide (12 < (len y0))))<|joe<|
  jup 12 (vb (((len y0) == 0) || (decide (12 < (len y0))))) rfl (by rw [hb1]; rfl)<|jnn (gv (fun _ k=>k) [] ⟨⟩))<|fun _ k=>k<|jif rfl (jsr<|jpc 1 rfl<|jot<|jxr<|jtr<|jr1 rfl rfl (fun _ k=>k) [] ⟨⟩)<|jsk<|jtn<|jsq<|jsr<|jpc 3 rfl<|jot<|jbk<|
  jlp (fun s1 K=>K [(0, vs y0), (14, vi (len y0)), (15, vi s1)] [] []) (gv (fun _ k=>k) [] ⟨⟩)<|fun s1 _ k=>k<|jsr<|jpc 1 rfl<|jot<|jsq<|jif rfl (jsk<|jtn<|jsq<|jbk<|jsr<|jpc 2 rfl<|jot<|jsr<|jpc 2 rfl<|jbd fun x1 h1=>
  jv (fun h=>r_sidx h rfl rfl Tryz.underlying9 h1)<|jpc 1 rfl<|jot<|jbk<|jjp (fun K=>K [(0, vs y0), (3, vi s1), (4, .int .u8 x1), (14, vi (len y0)), (15, vi s1), (21, vb ((decide (97 ≤ x1)) && (decide (x1 ≤ 122))))] [] []) (jrg<|jpc 3 rfl<|
  jsp (b := decide (97 ≤ x1)) 24 rfl (fun hb2=>jpc 2 rfl<|jpe (vb (decide (x1 ≤ 122)))<|jpc 1 rfl<|joe<|jup 21 (vb ((decide (97 ≤ x1)) && (decide (x1 ≤ 122)))) rfl (by rw [hb2]; rfl)<|jnn (gv (fun _ k=>k) [] ⟨⟩))<|fun hb2=>jpc 2 rfl<|
  jpe (vb false)<|jpc 1 rfl<|joe<|jup 21 (vb ((decide (97 ≤ x1)) && (decide (x1 ≤ 122)))) rfl (by rw [hb2]; rfl)<|jnn (gv (fun _ k=>k) [] ⟨⟩))<|fun _ k=>k<|jif rfl (jsk<|jbn<|jbn<|jtn<|jrg<|jpc 2 rfl<|joe<|jln (gv (fun _ k=>k) [] ⟨⟩))<|
  jjp (fun K=>K [(0, vs y0), (14, vi (len y0)), (15, vi s1), (28, vb ((decide (0 < s1)) && (if decide (48 ≤ x1) then (decide (x1 ≤ 57)) || (x1 == 95) else x1 == 95)))] [] []) (jrg<|jpc 3 rfl<|jsp (b := decide (0 < s1)) 31 rfl (fun hb3=>
  jpc 3 rfl<|jsp (b := decide (48 ≤ x1)) 34 rfl (fun hb4=>jpc 2 rfl<|jpe (vb (decide (x1 ≤ 57)))<|jpc 1 rfl<|jsp (b := decide (x1 ≤ 57)) 38 rfl (fun hb5=>jpc 2 rfl<|jpe (vb true)<|jpe (vb true)<|jpc 1 rfl<|joe<|
  jup 28 (vb ((decide (0 < s1)) && (if decide (48 ≤ x1) then (decide (x1 ≤ 57)) || (x1 == 95) else x1 == 95))) rfl (by rw [hb3,hb4,hb5]; rfl)<|jnn (gv (fun _ k=>k) [] ⟨⟩))<|fun hb5=>jpc 2 rfl<|jpe (vb (x1 == 95))<|jpe (vb (x1 == 95))<|
  jpc 1 rfl<|joe<|jup 28 (vb ((decide (0 < s1)) && (if decide (48 ≤ x1) then (decide (x1 ≤ 57)) || (x1 == 95) else x1 == 95))) rfl (by rw [hb3,hb4,hb5]; rfl)<|jnn (gv (fun _ k=>k) [] ⟨⟩))<|fun hb4=>jpc 2 rfl<|jpe (vb false)<|jpc 3 rfl<|
  jpe (vb (x1 == 95))<|jpe (vb (x1 == 95))<|jpc 1 rfl<|joe<|jup 28 (vb ((decide (0 < s1)) && (if decide (48 ≤ x1) then (decide (x1 ≤ 57)) || (x1 == 95) else x1 == 95))) rfl (by rw [hb3,hb4]; rfl)<|jnn (gv (fun _ k=>k) [] ⟨⟩))<|fun hb3=>
  jpc 10 rfl<|jpe (vb false)<|jpc 1 rfl<|joe<|jup 28 (vb ((decide (0 < s1)) && (if decide (48 ≤ x1) then (decide (x1 ≤ 57)) || (x1 == 95) else x1 == 95))) rfl (by rw [hb3]; rfl)<|jnn (gv (fun _ k=>k) [] ⟨⟩))<|fun _ k=>k<|jif rfl (jsk<|jbn<|
  jbn<|jtn<|jrg<|jpc 2 rfl<|joe<|jln (gv (fun _ k=>k) [] ⟨⟩))<|jsr<|jpc 1 rfl<|jot<|jxr<|jbr<|jbr<|jtr<|jlr<|jbr<|jtr<|jr1 rfl rfl (fun _ k=>k) [] ⟨⟩)<|jxe<|jte<|jle<|jbh<|jtn<|jsr<|jpc 1 rfl<|jot<|jxr<|jr1 rfl rfl (fun _ k=>k) [] ⟨⟩

theorem c_formula_named {qd : Prop} {y0 : T_Formula} : Con qd Tryz.prog 118 [.agg #[vi ((fv y0).1), vs ((fv y0).2.1), sv p1 ((fv y0).2.2) c1]] [] [Rl e_Formula p1 c1 ((fv y0).2.2)] (m_formula_named y0) fun r K=>K (vb r) [] [] :=
 ent3 Tryz.call118 Tryz.func118 rfl fun X=>jsr<|jbx .s rfl<|fun b1=>jpc 1 rfl<|jot<|jsq<|jsr<|jfa 0 rfl<|jlo 0 rfl rfl rfl<|jpc 1 rfl<|jot<|jif rfl (jsr<|jfa 1 rfl<|jlo 0 rfl rfl rfl<|jcl c_literal_ValidName rfl ⟨⟩<|fun r1 _ k=>k<|jpc 1 rfl<|jot<|jxr<|jtr<|
  jr1 rfl rfl (fun _ k=>k) [] ⟨⟩)<|jsk<|jtn<|jsr<|jfa 1 rfl<|jlo 0 rfl rfl rfl<|jpc 2 rfl<|jot<|jxr<|jr1 rfl rfl (fun _ k=>k) [] ⟨⟩

theorem k_formula_all__formula_named_all {qd : Prop} (k : Nat) :
    (∀ {y0 : T_Formula} {p1 : Option Addr} {c1 : Nat}, Con qd Tryz.prog 116 [.agg #[vi ((fv y0).1), vs ((fv y0).2.1), sv p1 ((fv y0).2.2) c1], .func (.func 118) #[] #[]] [] [Rl e_Formula p1 c1 ((fv y0).2.2)] (k_formula_all__formula_named k y0) fun r K=>K (vb r) [] []) := by
  induction k with
  | zero => exact con0 Tryz.call116
  | succ k ih =>
    have ih_formula_all__formula_named := @ih
    exact @fun y0 p1 c1=>ent3 (m1 := F_formula_all__formula_named (k_formula_all__formula_named k) y0) Tryz.call116 Tryz.func116 rfl fun X=>jsr<|jbx .s rfl<|fun b1=>jpc 1 rfl<|jot<|jsq<|jsr<|jpc 1 rfl<|jla 0 3 rfl rfl rfl<|jca .s [] [] c_formula_named rfl rfl rfl ⟨ck 0,⟨⟩⟩<|fun r1 _ k=>k<|jpc 1 rfl<|jot<|jif rfl (jsr<|jpc 1 rfl<|jot<|jxr<|jtr<|jr1 rfl rfl (fun _ k=>k) [] ⟨⟩)<|
  jsk<|jtn<|jsq<|jsr<|jfa 2 rfl<|jlo 0 rfl rfl rfl<|jpc 2 rfl<|jot<|jbk<|
  jlp (fun s1 K=>K [(1, .func (.func 118) #[] #[]), (12, sv p1 ((fv y0).2.2) c1), (13, vi (len ((fv y0).2.2))), (14, vi s1)] [[]] [Rl e_Formula p1 c1 ((fv y0).2.2)]) (gv (fun _ k=>k) [900] ⟨gk 0,⟨⟩⟩)<|fun s1 _ k=>k<|jsr<|jpc 1 rfl<|jot<|jsq<|
  jif rfl (jsk<|jtn<|jsq<|jbk<|jsr<|jix 0 rfl rfl rfl<|fun x1 b2 o1=>jld true o_Formula (gk 0) rfl<|fun p2 c2=>jal .s (.agg #[vi 0, vs [], .slice none 0 0])<|fun b3=>jso .s 1 rfl rfl rfl<|jot<|jsr<|jla 1 3 rfl rfl rfl<|jpc 1 rfl<|
  jcl ih_formula_all__formula_named rfl ⟨ck 0,⟨⟩⟩<|fun r2 _ k=>k<|jpc 1 rfl<|jot<|jif rfl (jsr<|jpc 1 rfl<|jot<|jxr<|jbr<|jtr<|jlr<|jbr<|jtr<|jr1 rfl rfl (fun _ k=>k) [] ⟨⟩)<|jsk<|jbn<|jtn<|jrg<|jpc 2 rfl<|joe<|
  jln (gv (fun _ k=>k) [900] ⟨gk 2,⟨⟩⟩))<|jxe<|jte<|jle<|jbh<|jtn<|jsr<|jpc 1 rfl<|jot<|jxr<|jr1 rfl rfl (fun _ k=>k) [] ⟨⟩

theorem c_formula_all__formula_named {qd : Prop} {y0 : T_Formula} : Con qd Tryz.prog 116 [.agg #[vi ((fv y0).1), vs ((fv y0).2.1), sv p1 ((fv y0).2.2) c1], .func (.func 118) #[] #[]] [] [Rl e_Formula p1 c1 ((fv y0).2.2)] (m_formula_all__formula_named y0) fun r K=>K (vb r) [] [] := conLim fun k => (k_formula_all__formula_named_all k)

theorem c_formula_Validate {qd : Prop} {y0 : T_Formula} : Con qd Tryz.prog 70 [.agg #[vi ((fv y0).1), vs ((fv y0).2.1), sv p1 ((fv y0).2.2) c1]] [] [Rl e_Formula p1 c1 ((fv y0).2.2)] (m_formula_Validate y0) fun r K=>K (vi r) [] [] :=
 ent3 Tryz.call70 Tryz.func70 rfl fun X=>jsr<|jbx .s rfl<|fun b1=>jpc 1 rfl<|jot<|jsq<|jbk<|jjn (fun s1 K=>K [(1, pt b1 0), (3, vb s1)] [bx b1 37 [vi ((fv y0).1), vs ((fv y0).2.1), sv p1 ((fv y0).2.2) c1]] [Rl e_Formula p1 c1 ((fv y0).2.2)]) (jrg<|jla 0 3 rfl rfl rfl<|
  jcl c_formula_Size rfl ⟨ck 0,⟨⟩⟩<|fun r1 _ k=>k<|jpc 2 rfl<|jsg 7 rfl (jpc 3 rfl<|jpe (vb true)<|jpc 1 rfl<|joe<|jnn (gv (fun _ k=>k) [0] ⟨gk 0,⟨⟩⟩))<|jla 0 3 rfl rfl rfl<|jcl c_formula_Depth rfl ⟨ck 0,⟨⟩⟩<|fun r2 _ k=>k<|jpc 1 rfl<|
  jpe (vb (decide (20 < r2)))<|jpc 1 rfl<|joe<|jnn (gv (fun _ k=>k) [0] ⟨gk 0,⟨⟩⟩))<|fun s1 _ k=>k<|jif rfl (jsr<|jpc 1 rfl<|jot<|jxr<|jbr<|jtr<|jr1 rfl rfl (fun _ k=>k) [] ⟨⟩)<|jsr<|jla 0 3 rfl rfl rfl<|
  jcl c_formula_all__formula_counted rfl ⟨ck 0,⟨⟩⟩<|fun r3 _ k=>k<|jpc 2 rfl<|jot<|jif rfl (jsr<|jpc 1 rfl<|jot<|jxr<|jbr<|jtr<|jr1 rfl rfl (fun _ k=>k) [] ⟨⟩)<|jsr<|jla 0 3 rfl rfl rfl<|jcl c_formula_all__formula_named rfl ⟨ck 0,⟨⟩⟩<|
  fun r4 _ k=>k<|jpc 2 rfl<|jot<|jif rfl (jsr<|jpc 1 rfl<|jot<|jxr<|jbr<|jtr<|jr1 rfl rfl (fun _ k=>k) [] ⟨⟩)<|jsk<|jbn<|jtn<|jsr<|jpc 1 rfl<|jot<|jxr<|jr1 rfl rfl (fun _ k=>k) [] ⟨⟩

theorem c_formula_needed {qd : Prop} {y0 : T_Formula} {y1 : Int} : Con qd Tryz.prog 122 [.agg #[vi ((fv y0).1), vs ((fv y0).2.1), sv p1 ((fv y0).2.2) c1], vi y1] [] [Rl e_Formula p1 c1 ((fv y0).2.2)] (m_formula_needed y0 y1) fun r K=>K (vi r) [] [] :=
 ent3 Tryz.call122 Tryz.func122 rfl fun X=>jsr<|jbx .s rfl<|fun b1=>jpc 1 rfl<|jot<|jsq<|jsr<|jfa 0 rfl<|jlo 0 rfl rfl rfl<|jot<|jbk<|jjn (fun s1 K=>K [(1, vi y1), (6, vi ((fv y0).1)), (7, vb s1)] [[]] []) (jsr<|jpc 2 rfl<|jot<|jif rfl (jsk<|jnn (gv (fun _ k=>k) [900] ⟨⟩))<|jrg<|
  jpc 2 rfl<|joe<|jnn (gv (fun _ k=>k) [900] ⟨⟩))<|fun s1 _ k=>k<|jif rfl (jsr<|jpc 1 rfl<|jot<|jxr<|jbr<|jtr<|jr1 rfl rfl (fun _ k=>k) [] ⟨⟩)<|jsr<|jpc 2 rfl<|jot<|jif rfl (jsr<|jpc 1 rfl<|jot<|jxr<|jbr<|jtr<|jr1 rfl rfl (fun _ k=>k) [] ⟨⟩
  )<|jsr<|jpc 2 rfl<|jot<|jif rfl (jsr<|jpc 3 rfl<|jot<|jxr<|jbr<|jtr<|jr1 rfl rfl (fun _ k=>k) [] ⟨⟩)<|jsk<|jbn<|jtn<|jsr<|jpc 1 rfl<|jot<|jxr<|jr1 rfl rfl (fun _ k=>k) [] ⟨⟩

theorem c_formula_strength {qd : Prop} {y0 : T_Formula} : Con qd Tryz.prog 121 [.agg #[vi ((fv y0).1), vs ((fv y0).2.1), sv p1 ((fv y0).2.2) c1]] [] [Rl e_Formula p1 c1 ((fv y0).2.2)] (m_formula_strength y0) fun r K=>K (vi r) [] [] :=
 ent3 Tryz.call121 Tryz.func121 rfl fun X=>jsr<|jbx .s rfl<|fun b1=>jpc 1 rfl<|jot<|jsq<|jsr<|jfa 0 rfl<|jlo 0 rfl rfl rfl<|jot<|jbk<|jsr<|jpc 2 rfl<|jot<|jif rfl (jsr<|jpc 1 rfl<|jot<|jxr<|jbr<|jtr<|jr1 rfl rfl (fun _ k=>k) [] ⟨⟩)<|jsr<|jpc 2 rfl<|jot<|jif rfl (jsr<|jpc 1 rfl<|
  jot<|jxr<|jbr<|jtr<|jr1 rfl rfl (fun _ k=>k) [] ⟨⟩)<|jsr<|jpc 2 rfl<|jot<|jif rfl (jsr<|jpc 1 rfl<|jot<|jxr<|jbr<|jtr<|jr1 rfl rfl (fun _ k=>k) [] ⟨⟩)<|jsr<|jpc 2 rfl<|jot<|jif rfl (jsr<|jpc 1 rfl<|jot<|jxr<|jbr<|jtr<|
  jr1 rfl rfl (fun _ k=>k) [] ⟨⟩)<|jsk<|jbn<|jtn<|jsr<|jpc 1 rfl<|jot<|jxr<|jr1 rfl rfl (fun _ k=>k) [] ⟨⟩

theorem k_strings_Builder_WriteByte {qd : Prop} {y0 : Str} : Con qd Tryz.prog 143 [pt b1 0] [r_1] [Bdr 110 5 r_1 b1 y0] (some ()) fun _ K=>∀ r_2,K (.tuple #[]) [r_2] [Bdr 110 5 r_2 b1 y0] := (lib_chk (ρ := Go.Proofs.Tryz.lays156_ren) { Go.Proofs.Tryz.lays156 with } Go.Proofs.Tryz.Builder_Extra_156.toX72 Tryz.call143)
theorem c_strings_Builder_WriteByte {qd : Prop} {y0 : Str} {y1 : Int} : Con qd Tryz.prog 119 [pt b1 0, .int .u8 y1] [r_1] [Bdr 110 5 r_1 b1 y0] (m_strings_Builder_WriteByte y0 y1) fun r K=>∀ r_2,K .nilIface [r_2] [Bdr 110 5 r_2 b1 r.2] :=
 ent3 Tryz.call119 Tryz.func119 rfl fun X=>jsr<|jpc 1 rfl<|jot<|jsr<|jpc 1 rfl<|jca .s [0] [] k_strings_Builder_WriteByte rfl rfl rfl ⟨ck 0,⟨⟩⟩<|fun _ _ k r_2=>k<|jot<|jsr<|jBo 0 0 rfl<|fun pv p2 c2 r_3=>jpc 3 rfl<|jfa 1 rfl<|jlo 0 rfl rfl rfl<|jpc 1 rfl<|
  jbs .s (e := eInt .u8) 5 [.int .u8 y1] [y1] (rC vI rN)<|fun p3 c3=>jwb .s 1 1 rfl (gk 0) rfl rfl<|fun r_4 p4 c4=>jpc 1 rfl<|jfa 1 rfl<|jso .s 0 rfl rfl rfl<|jBc 0 1 0 3 rfl rfl rfl rfl<|fun r_5=>jot<|jsr<|jpc 1 rfl<|jot<|jxr<|jr1 rfl rfl (fun _ k=>k r_5) [0] ⟨gk 0,⟨⟩⟩

theorem c_strings_Builder_WriteString {y0 : Str} {y1 : Str} : Con False Tryz.prog 120 [pt b1 0, vs y1] [r_1] [Bdr 110 5 r_1 b1 y0] (m_strings_Builder_WriteString y0 y1) fun r K=>∀ r_2,K (.tuple #[vi r.1, .nilIface]) [r_2] [Bdr 110 5 r_2 b1 r.2.2] := lib_wstr { Go.Proofs.Tryz.lays156 with } Go.Proofs.Tryz.Builder_Extra_156 Tryz.call120

theorem k_formula_write_all (k : Nat) :
    (∀ {y0 : Str} {b1 : Nat} {r_1 : Res} {y1 : T_Formula} {p1 : Option Addr} {c1 : Nat}, Con False Tryz.prog 71 [pt b1 0, .agg #[vi ((fv y1).1), vs ((fv y1).2.1), sv p1 ((fv y1).2.2) c1]] [r_1] [Bdr 110 5 r_1 b1 y0, Rl e_Formula p1 c1 ((fv y1).2.2), Pt (eArr 9 eStr) 0 0 tab_formula_words] (k_formula_write k y0 y1) fun r K=>∀ r_2,K (.tuple #[]) [r_2] [Bdr 110 5 r_2 b1 r]) := by
  induction k with
  | zero => exact con0 Tryz.call71
  | succ k ih =>
    have ih_formula_write := @ih
    exact @fun y0 b1 r_1 y1 p1 c1=>ent3 (m1 := F_formula_write (k_formula_write k) y0 y1) Tryz.call71 Tryz.func71 rfl fun X=>jsr<|jbx .s rfl<|fun b2=>jot<|
  jjn (fun s1 K=>∀ r_2,K [(0, pt b1 0), (3, pt b2 0)] [r_2, bx b2 37 [vi ((fv y1).1), vs ((fv y1).2.1), sv p1 ((fv y1).2.2) c1]] [Bdr 110 5 r_2 b1 s1, Rl e_Formula p1 c1 ((fv y1).2.2), Pt (eArr 9 eStr) 0 0 tab_formula_words]) (jsr<|
  jfa 0 rfl<|jlo 1 rfl rfl rfl<|jot<|jbk<|jsr<|jpc 2 rfl<|jot<|jif rfl (jrg<|jpc 1 rfl<|jca .s [0] [] c_strings_Builder_WriteByte rfl rfl rfl ⟨ck 0,⟨⟩⟩<|fun r1 _ k r_3=>k<|joe<|jbn<|jnn (gv (fun _ k=>k r_3) [0,1] ⟨gk 0,gk 2,gk 3,⟨⟩⟩))<|jsr<|
  jpc 2 rfl<|jot<|jif rfl (jrg<|jpc 1 rfl<|jca .s [0] [] c_strings_Builder_WriteByte rfl rfl rfl ⟨ck 0,⟨⟩⟩<|fun r2 _ k r_4=>k<|joe<|jbn<|jnn (gv (fun _ k=>k r_4) [0,1] ⟨gk 0,gk 2,gk 3,⟨⟩⟩))<|jsr<|jpc 2 rfl<|jot<|jif rfl (jrg<|jpc 1 rfl<|
  jfa 1 rfl<|jlo 1 rfl rfl rfl<|jca .s [0] [] c_strings_Builder_WriteString rfl rfl rfl ⟨ck 0,⟨⟩⟩<|fun r3 _ k r_5=>k<|joe<|jbn<|jnn (gv (fun _ k=>k r_5) [0,1] ⟨gk 0,gk 2,gk 3,⟨⟩⟩))<|jsr<|jpc 2 rfl<|jot<|jif rfl (jrg<|jpc 1 rfl<|
  jca .s [0] [] c_strings_Builder_WriteByte rfl rfl rfl ⟨ck 0,⟨⟩⟩<|fun r4 _ k r_6=>k<|joe<|jbn<|jnn (gv (fun _ k=>k r_6) [0,1] ⟨gk 0,gk 2,gk 3,⟨⟩⟩))<|jsk<|jbn<|jnn (gv (fun _ k=>k r_1) [0,1] ⟨gk 0,gk 1,gk 2,⟨⟩⟩))<|fun s1 _ k r_2=>k<|jsr<|
  jfa 2 rfl<|jlo 1 rfl rfl rfl<|jpc 2 rfl<|jot<|jbk<|
  jlp (fun s2 K=>∀ r_7,K [(0, pt b1 0), (3, pt b2 0), (27, sv p1 ((fv y1).2.2) c1), (28, vi (len ((fv y1).2.2))), (29, vi s2.1)] [r_7, bx b2 37 [vi ((fv y1).1), vs ((fv y1).2.1), sv p1 ((fv y1).2.2) c1]] [Bdr 110 5 r_7 b1 s2.2, Rl e_Formula p1 c1 ((fv y1).2.2), Pt (eArr 9 eStr) 0 0 tab_formula_words]) (gv (fun _ k=>k r_2) [0,1] ⟨gk 0,gk 1,gk 2,⟨⟩⟩)<|
  fun s2 _ k r_7=>k<|jsr<|jpc 1 rfl<|jot<|jsq<|jif rfl (jsk<|jtn<|jsq<|jbk<|jsr<|jpc 1 rfl<|jix 1 rfl rfl rfl<|fun x1 b3 o1=>jld true o_Formula (gk 0) rfl<|fun p2 c2=>jal .s (.agg #[vi 0, vs [], .slice none 0 0])<|fun b4=>jpc 1 rfl<|
  jso .s 2 rfl rfl rfl<|jot<|
  jjn (fun s3 K=>∀ r_8,K [(0, pt b1 0), (3, pt b2 0), (4, vi s2.1), (5, pt b4 0), (27, sv p1 ((fv y1).2.2) c1), (28, vi (len ((fv y1).2.2))), (29, vi s2.1)] [r_8, bx b2 37 [vi ((fv y1).1), vs ((fv y1).2.1), sv p1 ((fv y1).2.2) c1], bx b4 37 [vi ((fv x1).1), vs ((fv x1).2.1), sv p2 ((fv x1).2.2) c2]] [Bdr 110 5 r_8 b1 s3, Rl e_Formula p1 c1 ((fv y1).2.2), Rl e_Formula p2 c2 ((fv x1).2.2), Pt (eArr 9 eStr) 0 0 tab_formula_words]) (
  jsr<|jpc 2 rfl<|jot<|jif rfl (jrg<|jpc 1 rfl<|jfa 0 rfl<|jlo 1 rfl rfl rfl<|jgx (gk 4) rfl rfl<|fun x2=>jld false oS (gk 0) rfl<|jca .s [0] [] c_strings_Builder_WriteString rfl rfl rfl ⟨ck 3,⟨⟩⟩<|fun r5 _ k r_9=>k<|joe<|
  jnn (gv (fun _ k=>k r_9) [0,1,2] ⟨gk 0,gk 5,gk 2,gk 6,⟨⟩⟩))<|jsk<|jnn (gv (fun _ k=>k r_7) [0,1,2] ⟨gk 2,gk 3,gk 0,gk 4,⟨⟩⟩))<|fun s3 _ k r_8=>k<|jds [] [1, 2] 6<|jda 0 2 3 rfl rfl rfl rfl<|jda 2 1 3 rfl rfl rfl rfl<|jdc 3 [3] rfl<|jd1 1<|
  jca (.f rfl) [] [] c_formula_strength rfl rfl rfl ⟨ck 2,⟨⟩⟩<|fun r6 _ k=>k<|jdn<|jd1 4<|jca (.f rfl) [] [] c_formula_needed rfl rfl rfl ⟨ck 1,⟨⟩⟩<|fun r7 _ k=>k<|jdn<|jdc 0 [5] rfl<|jde<|jtn<|jif rfl (jsr<|jpc 1 rfl<|
  jca .s [0] [] c_strings_Builder_WriteByte rfl rfl rfl ⟨ck 0,⟨⟩⟩<|fun r8 _ k r_10=>k<|jot<|jsr<|jpc 1 rfl<|jla 2 3 rfl rfl rfl<|jca .s [0] [] ih_formula_write rfl rfl rfl ⟨ck 0,ck 3,ck 4,⟨⟩⟩<|fun r9 _ k r_11=>k<|jot<|jrg<|jpc 1 rfl<|
  jca .s [0] [] c_strings_Builder_WriteByte rfl rfl rfl ⟨ck 0,⟨⟩⟩<|fun r10 _ k r_12=>k<|joe<|jbn<|jtn<|jrg<|jpc 2 rfl<|joe<|jln (gv (fun _ k=>k r_12) [0,1] ⟨gk 0,gk 4,gk 6,⟨⟩⟩))<|jrg<|jpc 1 rfl<|jla 2 3 rfl rfl rfl<|
  jca .s [0] [] ih_formula_write rfl rfl rfl ⟨ck 0,ck 2,ck 3,⟨⟩⟩<|fun r11 _ k r_13=>k<|joe<|jbn<|jtn<|jrg<|jpc 2 rfl<|joe<|jln (gv (fun _ k=>k r_13) [0,1] ⟨gk 0,gk 2,gk 4,⟨⟩⟩))<|jxe<|jte<|jle<|jbh<|jrn<|
  jrg' rfl lN (fun _ k=>k r_7) [0] ⟨gk 0,⟨⟩⟩

theorem c_formula_write {y0 : Str} {y1 : T_Formula} : Con False Tryz.prog 71 [pt b1 0, .agg #[vi ((fv y1).1), vs ((fv y1).2.1), sv p1 ((fv y1).2.2) c1]] [r_1] [Bdr 110 5 r_1 b1 y0, Rl e_Formula p1 c1 ((fv y1).2.2), Pt (eArr 9 eStr) 0 0 tab_formula_words] (m_formula_write y0 y1) fun r K=>∀ r_2,K (.tuple #[]) [r_2] [Bdr 110 5 r_2 b1 r] := conLim fun k => (k_formula_write_all k)

theorem c_strings_Builder_Len {qd : Prop} {y0 : Str} : Con qd Tryz.prog 72 [pt b1 0] [r_1] [Bdr 110 5 r_1 b1 y0] (m_strings_Builder_Len y0) fun r K=>K (vi r) [r_1] [] := lib_blen Go.Proofs.Tryz.lays170 Tryz.call72

theorem c_strings_Builder_String {y0 : Str} : Con False Tryz.prog 73 [pt b1 0] [r_1] [Bdr 110 5 r_1 b1 y0] (m_strings_Builder_String y0) fun r K=>K (vs r) [[]] [] := lib_bstr Go.Proofs.Tryz.lays169 Go.Proofs.Tryz.Builder_Extra_169 Tryz.call73

theorem c_formula_Format {y0 : T_Formula} : Con False Tryz.prog 28 [.agg #[vi ((fv y0).1), vs ((fv y0).2.1), sv p1 ((fv y0).2.2) c1]] [] [Rl e_Formula p1 c1 ((fv y0).2.2), Pt (eArr 9 eStr) 0 0 tab_formula_words] (m_formula_Format y0) fun r K=>K (.tuple #[vs r.1, vi r.2]) [] [] :=
 ent3 Tryz.call28 Tryz.func28 rfl fun X=>jsr<|jbx .s rfl<|fun b1=>jpc 2 rfl<|jot<|jsq<|jsr<|jla 0 3 rfl rfl rfl<|jcl c_formula_Validate rfl ⟨ck 0,⟨⟩⟩<|fun r1 _ k=>k<|jpc 1 rfl<|jot<|jsr<|jpc 2 rfl<|jot<|jif rfl (jsr<|jpc 3 rfl<|jot<|jxr<|jtr<|
  jrg' rfl (lT rfl (lT rfl lN)) (fun _ k=>k) [] ⟨⟩)<|jsk<|jtn<|jsr<|jal .s (.agg #[.pointer none, .slice none 0 0])<|fun b2=>jbq 110 5 b2<|jot<|jsr<|jla 0 3 rfl rfl rfl<|jca .s [1] [] c_formula_write rfl rfl rfl ⟨ck 0,ck 1,ck 2,⟨⟩⟩<|
  fun r2 _ k r_1=>k<|jot<|jsq<|jsr<|jca .s [1] [] c_strings_Builder_Len rfl rfl rfl ⟨ck 0,⟨⟩⟩<|fun r3 _ k=>k<|jpc 1 rfl<|jot<|jif rfl (jsr<|jpc 2 rfl<|jot<|jxr<|jtr<|jrg' rfl (lT rfl (lT rfl lN)) (fun _ k=>k) [] ⟨⟩)<|jsk<|jtn<|jsr<|
  jca .s [1] [] c_strings_Builder_String rfl rfl rfl ⟨ck 0,⟨⟩⟩<|fun r4 _ k=>k<|jpc 2 rfl<|jot<|jxr<|jrg' rfl (lT rfl (lT rfl lN)) (fun _ k=>k) [] ⟨⟩

theorem c_slices_Index_bool {qd : Prop} {y0 : List Bool} {y1 : Bool} : Con qd Tryz.prog 142 [sv p1 y0 c1, vb y1] [] [Rl eBool p1 c1 y0] (m_slices_Index_bool y0 y1) fun r K=>K (vi r) [] [] :=
 ent3 Tryz.call142 Tryz.func142 rfl fun X=>jsr<|jpc 1 rfl<|jot<|jsq<|jsr<|jpc 3 rfl<|jot<|jbk<|jlp (fun s1 K=>K [(0, sv p1 y0 c1), (1, vb y1), (7, vi (len y0)), (8, vi s1)] [] [Rl eBool p1 c1 y0]) (gv (fun _ k=>k) [] ⟨gk 0,⟨⟩⟩)<|fun s1 _ k=>k<|jsr<|jpc 1 rfl<|jot<|jsq<|jif rfl (
  jsk<|jtn<|jsq<|jbk<|jsr<|jpc 2 rfl<|jot<|jsr<|jpc 3 rfl<|jix 0 rfl rfl rfl<|fun x1 b1 o1=>jld false oB (gk 0) rfl<|jpe (vb (y1 == x1))<|jot<|jif rfl (jsr<|jpc 2 rfl<|jot<|jxr<|jbr<|jtr<|jlr<|jbr<|jtr<|jr1 rfl rfl (fun _ k=>k) [] ⟨⟩)<|jsk<|
  jbn<|jtn<|jrg<|jpc 2 rfl<|joe<|jln (gv (fun _ k=>k) [] ⟨gk 1,⟨⟩⟩))<|jxe<|jte<|jle<|jbh<|jtn<|jsr<|jpc 1 rfl<|jot<|jxr<|jr1 rfl rfl (fun _ k=>k) [] ⟨⟩

theorem c_slices_Contains_bool {qd : Prop} {y0 : List Bool} {y1 : Bool} : Con qd Tryz.prog 109 [sv p1 y0 c1, vb y1] [] [Rl eBool p1 c1 y0] (m_slices_Contains_bool y0 y1) fun r K=>K (vb r) [] [] :=
 ent3 Tryz.call109 Tryz.func109 rfl fun X=>jsr<|jpc 1 rfl<|jot<|jsr<|jpc 2 rfl<|jcl c_slices_Index_bool rfl ⟨ck 0,⟨⟩⟩<|fun r1 _ k=>k<|jpc 2 rfl<|jot<|jxr<|jr1 rfl rfl (fun _ k=>k) [] ⟨⟩

theorem c_world_Valid {qd : Prop} {y0 : List Str} : Con qd Tryz.prog 67 [sv p1 y0 c1] [] [Rl eStr p1 c1 y0] (m_world_Valid y0) fun r K=>K (vb r) [] [] :=
 ent3 Tryz.call67 Tryz.func67 rfl fun X=>jsr<|jpc 1 rfl<|jot<|jsq<|jsr<|jpc 3 rfl<|jot<|jif rfl (jsr<|jpc 1 rfl<|jot<|jxr<|jtr<|jr1 rfl rfl (fun _ k=>k) [] ⟨⟩)<|jsk<|jtn<|jsq<|jsr<|jpc 3 rfl<|jot<|jbk<|
  jlp (fun s1 K=>K [(0, sv p1 y0 c1), (8, sv p1 y0 c1), (9, vi (len y0)), (10, vi s1)] [] [Rl eStr p1 c1 y0]) (gv (fun _ k=>k) [] ⟨gk 0,⟨⟩⟩)<|fun s1 _ k=>k<|jsr<|jpc 1 rfl<|jot<|jsq<|jif rfl (jsk<|jtn<|jsq<|jbk<|jsr<|jpc 1 rfl<|
  jix 0 rfl rfl rfl<|fun x1 b1 o1=>jld false oS (gk 0) rfl<|jpc 2 rfl<|jot<|jjn (fun s2 K=>K [(0, sv p1 y0 c1), (8, sv p1 y0 c1), (9, vi (len y0)), (10, vi s1), (30, vb s2)] [] [Rl eStr p1 c1 y0]) (jrg<|jpc 1 rfl<|
  jcl c_literal_ValidName rfl ⟨⟩<|fun r1 _ k=>k<|jpc 2 rfl<|jsg 18 rfl (jpc 11 rfl<|jpe (vb true)<|joe<|jnn (gv (fun _ k=>k) [] ⟨gk 1,⟨⟩⟩))<|jpc 3 rfl<|jsg 21 rfl (jpc 3 rfl<|jix 1 rfl rfl rfl<|fun x2 b2 o2=>jld false oS (gk 0) rfl<|
  jpc 2 rfl<|jpe (vb (!(sless x2 x1)))<|jpe (vb (!(sless x2 x1)))<|joe<|jnn (gv (fun _ k=>k) [] ⟨gk 2,⟨⟩⟩))<|jpc 7 rfl<|jpe (vb false)<|jpe (vb false)<|joe<|jnn (gv (fun _ k=>k) [] ⟨gk 1,⟨⟩⟩))<|fun s2 _ k=>k<|jif rfl (jsr<|jpc 1 rfl<|jot<|
  jxr<|jbr<|jtr<|jlr<|jbr<|jtr<|jr1 rfl rfl (fun _ k=>k) [] ⟨⟩)<|jsk<|jbn<|jtn<|jrg<|jpc 2 rfl<|joe<|jln (gv (fun _ k=>k) [] ⟨gk 0,⟨⟩⟩))<|jxe<|jte<|jle<|jbh<|jtn<|jsr<|jpc 1 rfl<|jot<|jxr<|jr1 rfl rfl (fun _ k=>k) [] ⟨⟩

theorem c_order_Validate {qd : Prop} {y0 : T_Order} : Con qd Tryz.prog 65 [.agg #[sv p1 y0.1 c1, sv p2 y0.2 c2]] [] [Rl eStr p1 c1 y0.1, Rl (eInt .i64) p2 c2 y0.2] (m_order_Validate y0) fun r K=>K (vi r) [] [] :=
 ent3 Tryz.call65 Tryz.func65 rfl fun X=>jsr<|jbx .s rfl<|fun b1=>jpc 1 rfl<|jot<|jsq<|jjn (fun s1 K=>K [(1, pt b1 0), (20, vb s1)] [bx b1 25 [sv p1 y0.1 c1, sv p2 y0.2 c2]] [Rl eStr p1 c1 y0.1, Rl (eInt .i64) p2 c2 y0.2]) (jdS [] [0] 14<|jdf 0 0 rfl rfl<|jdo 1 0 rfl rfl rfl rfl<|
  jd1 2<|jca (.f rfl) [] [] c_world_Valid rfl rfl rfl ⟨ck 0,⟨⟩⟩<|fun r1 _ k=>k<|jdn<|jdc 9 [3,4] rfl<|jsg 11 rfl (jdc 1 [5,6,7,8,9,10,11,12] rfl<|jdp 13 (vb true) rfl<|jde<|jnn (gv (fun _ k=>k) [0] ⟨gk 0,gk 1,⟨⟩⟩))<|jdf 5 1 rfl rfl<|
  jdo 6 0 rfl rfl rfl rfl<|jdc 6 [7] rfl<|jdf 8 0 rfl rfl<|jdo 9 0 rfl rfl rfl rfl<|jdc 3 [10] rfl<|jbd fun x1 h1=>jdv 11 rfl (fun h=>r_shlK h rfl rfl h1)<|jdc 1 [12] rfl<|jdp 13 (vb ((len y0.2) != x1)) rfl<|jde<|
  jnn (gv (fun _ k=>k) [0] ⟨gk 0,gk 1,⟨⟩⟩))<|fun s1 _ k=>k<|jif rfl (jsr<|jpc 1 rfl<|jot<|jxr<|jtr<|jr1 rfl rfl (fun _ k=>k) [] ⟨⟩)<|jsk<|jtn<|jsr<|jfa 1 rfl<|jlo 0 rfl rfl rfl<|jpc 1 rfl<|
  jmk .s (e := eBool) 4 (false : Bool) (vb false) vB rfl rfl<|fun x2 r_1 p3 c3=>jpc 1 rfl<|jot<|jsr<|jpc 1 rfl<|jot<|
  jjo (fun s2 K=>∀ r_2,K [(3, .slice p3 (List.length x2) c3), (4, vi s2.2)] [[], r_2] [Ar eBool 4 r_2 p3 c3 (List.length x2) s2.1]) (jsr<|jfa 1 rfl<|jlo 0 rfl rfl rfl<|jpc 2 rfl<|jot<|jbk<|
  jlp (fun s3 K=>∀ r_3,K [(3, .slice p3 (List.length x2) c3), (4, vi s3.2.1), (26, sv p2 y0.2 c2), (27, vi (len y0.2)), (28, vi s3.2.2)] [[], r_3] [Ar eBool 4 r_3 p3 c3 (List.length x2) s3.1, Rl (eInt .i64) p2 c2 y0.2]) (gv (fun _ k=>k r_1) [900,1] ⟨gk 0,gk 2,⟨⟩⟩)<|
  fun s3 _ k r_3=>k<|jsr<|jpc 1 rfl<|jot<|jsq<|jif rfl (jsk<|jtn<|jsq<|jbk<|jsr<|jix 1 rfl rfl rfl<|fun x3 b2 o1=>jld false oI (gk 0) rfl<|jpc 1 rfl<|jot<|jsq<|
  jjp (fun K=>K [(3, .slice p3 (List.length x2) c3), (4, vi s3.2.1), (6, vi x3), (26, sv p2 y0.2 c2), (27, vi (len y0.2)), (28, vi s3.2.2), (39, vb ((decide (x3 < 0)) || (decide ((len x2) ≤ x3))))] [[], r_3] [Ar eBool 4 r_3 p3 c3 (List.length x2) s3.1, Rl (eInt .i64) p2 c2 y0.2]) (
  jrg<|jpc 3 rfl<|jsp (b := decide (x3 < 0)) 34 rfl (fun hb2=>jpc 4 rfl<|jpe (vb true)<|joe<|jup 39 (vb ((decide (x3 < 0)) || (decide ((len x2) ≤ x3)))) rfl (by rw [hb2]; rfl)<|jnn (gv (fun _ k=>k) [900,1] ⟨gk 1,gk 2,⟨⟩⟩))<|fun hb2=>
  jpc 4 rfl<|jpe (vb (decide ((len x2) ≤ x3)))<|joe<|jup 39 (vb ((decide (x3 < 0)) || (decide ((len x2) ≤ x3)))) rfl (by rw [hb2]; rfl)<|jnn (gv (fun _ k=>k) [900,1] ⟨gk 1,gk 2,⟨⟩⟩))<|fun _ k=>k<|jif rfl (jsr<|jpc 1 rfl<|jot<|jxr<|jtr<|jbr<|
  jtr<|jlr<|jbr<|jlr<|jr1 rfl rfl (fun _ k=>k) [] ⟨⟩)<|jsk<|jtn<|jrg<|jpc 5 rfl<|jia 0 rfl rfl rfl<|fun x4 h2 b3 hp1=>jsA .s 1 0 sI true false rfl hp1 h2 rfl rfl vB<|fun r_4=>jpc 1 rfl<|joe<|jbn<|jtn<|jrg<|jpc 2 rfl<|joe<|
  jln (gv (fun _ k=>k r_4) [900,1] ⟨gk 0,gk 2,⟨⟩⟩))<|jxe<|jte<|jle<|jbh<|jln (gv (fun _ k=>k r_3) [900,1] ⟨gk 0,⟨⟩⟩))<|fun s2 _ k r_2=>k<|jsq<|jsr<|jpc 2 rfl<|jsP 0 rfl rfl rfl<|fun x5=>
  jca .s [] [1] c_slices_Contains_bool rfl rfl rfl ⟨cl 1 0,⟨⟩⟩<|fun r2 _ k=>k<|jot<|jif rfl (jsr<|jpc 1 rfl<|jot<|jxr<|jtr<|jr1 rfl rfl (fun _ k=>k) [] ⟨⟩)<|jsk<|jtn<|jsr<|jpc 1 rfl<|jot<|jxr<|jr1 rfl rfl (fun _ k=>k) [] ⟨⟩

theorem c_slices_Max_int {qd : Prop} {y0 : List Int} : Con qd Tryz.prog 66 [sv p1 y0 c1] [] [Rl (eInt .i64) p1 c1 y0] (m_slices_Max_int y0) fun r K=>K (vi r) [] [] :=
 ent3 Tryz.call66 Tryz.func66 rfl fun X=>jsr<|jpc 1 rfl<|jot<|jjn (fun s1 K=>K [(0, sv p1 y0 c1)] [] [Rl (eInt .i64) p1 c1 y0]) (jsr<|jpc 3 rfl<|jot<|jif rfl (jrg<|jno)<|jsk<|jnn (gv (fun _ k=>k) [] ⟨gk 0,⟨⟩⟩))<|fun s1 _ k=>k<|jsr<|jpc 1 rfl<|jix 0 rfl rfl rfl<|fun x1 b1 o1=>
  jld false oI (gk 0) rfl<|jpc 1 rfl<|jot<|jsq<|jsr<|jpc 1 rfl<|jot<|jbk<|jlp (fun s2 K=>K [(0, sv p1 y0 c1), (3, vi s2.1), (4, vi s2.2)] [] [Rl (eInt .i64) p1 c1 y0]) (gv (fun _ k=>k) [] ⟨gk 1,⟨⟩⟩)<|fun s2 _ k=>k<|jsq<|jsr<|jpc 4 rfl<|jot<|
  jif rfl (jsk<|jtn<|jsq<|jbk<|jrg<|jpc 3 rfl<|jix 0 rfl rfl rfl<|fun x2 b2 o2=>jld false oI (gk 0) rfl<|jpc 2 rfl<|joe<|jbn<|jtn<|jrg<|jpc 3 rfl<|joe<|jln (gv (fun _ k=>k) [] ⟨gk 1,⟨⟩⟩))<|jxe<|jte<|jle<|jbh<|jtn<|jsr<|jpc 2 rfl<|jot<|jxr<|
  jr1 rfl rfl (fun _ k=>k) [] ⟨⟩

theorem c_order_Levels {qd : Prop} {y0 : T_Order} : Con qd Tryz.prog 26 [.agg #[sv p1 y0.1 c1, sv p2 y0.2 c2]] [] [Rl eStr p1 c1 y0.1, Rl (eInt .i64) p2 c2 y0.2] (m_order_Levels y0) fun r K=>∀ p3 c3,K (sv p3 r c3) [] [Rl (eInt .u64) p3 c3 r] :=
 ent3 Tryz.call26 Tryz.func26 rfl fun X=>jsr<|jbx .s rfl<|fun b1=>jpc 1 rfl<|jot<|jsq<|jsr<|jla 0 2 rfl rfl rfl<|jcl c_order_Validate rfl ⟨ck 0,ck 1,⟨⟩⟩<|fun r1 _ k=>k<|jpc 1 rfl<|jot<|jif rfl (jsr<|jpc 1 rfl<|jot<|jxr<|jtr<|jr1 rfl rfl (fun _ k=>k none 0) [] ⟨gn,⟨⟩⟩)<|jsk<|jtn<|
  jsr<|jfa 1 rfl<|jlo 0 rfl rfl rfl<|jcl c_slices_Max_int rfl ⟨ck 1,⟨⟩⟩<|fun r2 _ k=>k<|jpc 1 rfl<|jmk .s (e := eInt .u64) 41 (0 : Int) (.int .u64 0) vI rfl rfl<|fun x1 r_1 p3 c3=>jpc 1 rfl<|jot<|jsq<|jsr<|jfa 1 rfl<|jlo 0 rfl rfl rfl<|
  jpc 2 rfl<|jot<|jbk<|
  jlp (fun s1 K=>∀ r_2,K [(3, .slice p3 (List.length x1) c3), (15, sv p2 y0.2 c2), (16, vi (len y0.2)), (17, vi s1.2)] [[], r_2] [Ar (eInt .u64) 41 r_2 p3 c3 (List.length x1) s1.1, Rl (eInt .i64) p2 c2 y0.2]) (gv (fun _ k=>k r_1) [900,1] ⟨gk 0,gk 2,⟨⟩⟩)<|
  fun s1 _ k r_2=>k<|jsr<|jpc 1 rfl<|jot<|jsq<|jif rfl (jsk<|jtn<|jsq<|jbk<|jsr<|jpc 1 rfl<|jix 1 rfl rfl rfl<|fun x2 b2 o1=>jld false oI (gk 0) rfl<|jpc 2 rfl<|jot<|jrg<|jpc 2 rfl<|jia 1 rfl rfl rfl<|fun x3 h1 b3 hp1=>
  jlA 1 1 sI false oI rfl hp1 h1 rfl<|jpc 1 rfl<|jpe (.int .u64 (IntKind.u64.wrap (s1.2)))<|jbd fun x4 h2=>jv (fun h=>r_shlK h rfl rfl h2)<|jpc 1 rfl<|jia 1 rfl rfl rfl<|fun x5 h3 b4 hp2=>
  jsA .s 1 1 sI (bor .u64 x3 x4) false rfl hp2 h3 rfl rfl vI<|fun r_3=>joe<|jbn<|jtn<|jrg<|jpc 2 rfl<|joe<|jln (gv (fun _ k=>k r_3) [900,1] ⟨gk 0,gk 3,⟨⟩⟩))<|jxe<|jte<|jle<|jbh<|jtn<|jsr<|jpc 2 rfl<|jot<|jxr<|jsh 1 0 rfl rfl<|
  jre 0 2 rfl rfl<|jr1 rfl rfl (fun _ k=>k p3 c3) [] ⟨gk 0,⟨⟩⟩

theorem c_internal_strconv_small {qd : Prop} {y0 : Int} : Con qd Tryz.prog 153 [vi y0] [] [] (m_internal_strconv_small y0) fun r K=>K (vs r) [] [] :=
 ent3 Tryz.call153 Tryz.func153 rfl fun X=>jsr<|jpc 1 rfl<|jot<|jsq<|jsr<|jpc 2 rfl<|jot<|jif rfl (jsr<|jpc 3 rfl<|jbd fun x1 h1=>jv (fun h=>r_ssub h rfl Tryz.underlying9 rfl rfl (.inr ⟨_, rfl⟩) (.inr ⟨_, rfl⟩) h1)<|jpc 1 rfl<|jot<|jxr<|jtr<|jr1 rfl rfl (fun _ k=>k) [] ⟨⟩)<|jsk<|
  jtn<|jsr<|jpc 5 rfl<|jbd fun x2 h2=>jv (fun h=>r_ssub h rfl Tryz.underlying9 rfl rfl (.inr ⟨_, rfl⟩) (.inr ⟨_, rfl⟩) h2)<|jpc 1 rfl<|jot<|jxr<|jr1 rfl rfl (fun _ k=>k) [] ⟨⟩

theorem c_internal_strconv_FormatInt {qd : Prop} {y0 : Int} {y1 : Int} : Con qd Tryz.prog 144 [vi y0, vi y1] [] [] (m_internal_strconv_FormatInt y0 y1) fun r K=>K (vs r) [] [] :=
 ent3 Tryz.call144 Tryz.func144 rfl fun X=>jsr<|jpc 1 rfl<|jot<|jsq<|jsr<|jpc 2 rfl<|jot<|jif rfl (jsq<|jjp (fun K=>K [(0, vi y0), (17, vb ((decide (0 ≤ y0)) && (decide (y0 < 100))))] [] []) (jrg<|jpc 3 rfl<|jsp (b := decide (0 ≤ y0)) 14 rfl (fun hb1=>jpc 2 rfl<|
  jpe (vb (decide (y0 < 100)))<|joe<|jup 17 (vb ((decide (0 ≤ y0)) && (decide (y0 < 100)))) rfl (by rw [hb1]; rfl)<|jnn (gv (fun _ k=>k) [] ⟨⟩))<|fun hb1=>jpc 2 rfl<|jpe (vb false)<|joe<|
  jup 17 (vb ((decide (0 ≤ y0)) && (decide (y0 < 100)))) rfl (by rw [hb1]; rfl)<|jnn (gv (fun _ k=>k) [] ⟨⟩))<|fun _ k=>k<|jif rfl (jsr<|jpc 1 rfl<|jcl c_internal_strconv_small rfl ⟨⟩<|fun r1 _ k=>k<|jpc 1 rfl<|jot<|jxr<|jtr<|jtr<|
  jr1 rfl rfl (fun _ k=>k) [] ⟨⟩)<|jsk<|jtn<|jsr<|jno)<|jsk<|jtn<|jsr<|jpc 1 rfl<|jpe (.int .u64 (IntKind.u64.wrap (y0)))<|jpc 3 rfl<|jno

theorem c_internal_strconv_Itoa {qd : Prop} {y0 : Int} : Con qd Tryz.prog 123 [vi y0] [] [] (m_internal_strconv_Itoa y0) fun r K=>K (vs r) [] [] :=
 ent3 Tryz.call123 Tryz.func123 rfl fun X=>jsr<|jpc 1 rfl<|jot<|jsr<|jpc 1 rfl<|jcl c_internal_strconv_FormatInt rfl ⟨⟩<|fun r1 _ k=>k<|jpc 1 rfl<|jot<|jxr<|jr1 rfl rfl (fun _ k=>k) [] ⟨⟩

theorem c_strconv_Itoa {qd : Prop} {y0 : Int} : Con qd Tryz.prog 74 [vi y0] [] [] (m_strconv_Itoa y0) fun r K=>K (vs r) [] [] :=
 ent3 Tryz.call74 Tryz.func74 rfl fun X=>jsr<|jpc 1 rfl<|jot<|jsr<|jpc 1 rfl<|jcl c_internal_strconv_Itoa rfl ⟨⟩<|fun r1 _ k=>k<|jpc 1 rfl<|jot<|jxr<|jr1 rfl rfl (fun _ k=>k) [] ⟨⟩

theorem c_report_number {qd : Prop} {y0 : Int} : Con qd Tryz.prog 29 [vi y0] [] [] (m_report_number y0) fun r K=>K (vs r) [] [] :=
 ent3 Tryz.call29 Tryz.func29 rfl fun X=>jsr<|jpc 1 rfl<|jot<|jsr<|jpc 1 rfl<|jcl c_strconv_Itoa rfl ⟨⟩<|fun r1 _ k=>k<|jpc 1 rfl<|jot<|jxr<|jr1 rfl rfl (fun _ k=>k) [] ⟨⟩

theorem c_world_whole {qd : Prop} {y0 : Int} : Con qd Tryz.prog 111 [vi y0] [] [] (m_world_whole y0) fun r K=>K (.int .u64 r) [] [] :=
 ent3 Tryz.call111 Tryz.func111 rfl fun X=>jsr<|jpc 1 rfl<|jot<|jsr<|jpc 1 rfl<|jbd fun x1 h1=>jv (fun h=>r_shlK h rfl rfl h1)<|jpc 1 rfl<|jbd fun x2 h2=>jv (fun h=>r_shrK h rfl rfl h2)<|jpc 1 rfl<|jot<|jxr<|jr1 rfl rfl (fun _ k=>k) [] ⟨⟩

theorem c_world_All {qd : Prop} {y0 : List Str} : Con qd Tryz.prog 69 [sv p1 y0 c1] [] [Rl eStr p1 c1 y0] (m_world_All y0) fun r K=>K (.int .u64 r) [] [] :=
 ent3 Tryz.call69 Tryz.func69 rfl fun X=>jsr<|jpc 1 rfl<|jot<|jsq<|jsr<|jpc 1 rfl<|jcl c_world_Valid rfl ⟨ck 0,⟨⟩⟩<|fun r1 _ k=>k<|jpc 1 rfl<|jot<|jif rfl (jsr<|jpc 1 rfl<|jot<|jxr<|jtr<|jr1 rfl rfl (fun _ k=>k) [] ⟨⟩)<|jsk<|jtn<|jsr<|jpc 2 rfl<|jcl c_world_whole rfl ⟨⟩<|
  fun r2 _ k=>k<|jpc 1 rfl<|jot<|jxr<|jr1 rfl rfl (fun _ k=>k) [] ⟨⟩

theorem c_world_split {qd : Prop} {y0 : Int} : Con qd Tryz.prog 112 [.int .u64 y0] [] [] (m_world_split y0) fun r K=>K (.tuple #[.int .u64 r.1, .int .u64 r.2]) [] [] :=
 ent3 Tryz.call112 Tryz.func112 rfl fun X=>jsr<|jpc 2 rfl<|jot<|jsq<|jsr<|jpc 1 rfl<|jot<|jbk<|jlp (fun s1 K=>K [(0, .int .u64 y0), (2, .int .u64 s1.1), (3, .int .u64 s1.2.1), (5, vi s1.2.2)] [] []) (gv (fun _ k=>k) [] ⟨⟩)<|fun s1 _ k=>k<|jsr<|jpc 1 rfl<|jot<|jsq<|jif rfl (jsk<|
  jtn<|jsq<|jbk<|jsr<|jpc 2 rfl<|jot<|jsr<|jpc 4 rfl<|jbd fun x1 h1=>jv (fun h=>r_shrK h rfl rfl h1)<|jpc 2 rfl<|jbd fun x2 h2=>jv (fun h=>r_shlK h rfl rfl h2)<|jpc 2 rfl<|jot<|jrg<|jpc 5 rfl<|jbd fun x3 h3=>jv (fun h=>r_shrK h rfl rfl h3)<|
  jpc 2 rfl<|jbd fun x4 h4=>jv (fun h=>r_shlK h rfl rfl h4)<|jpc 2 rfl<|joe<|jbn<|jtn<|jrg<|jpc 2 rfl<|joe<|jln (gv (fun _ k=>k) [] ⟨⟩))<|jxe<|jte<|jle<|jbh<|jtn<|jsr<|jpc 4 rfl<|jot<|jxr<|jrg' rfl (lT rfl (lT rfl lN)) (fun _ k=>k) [] ⟨⟩

theorem c_world_two {qd : Prop} {y0 : Int} {y1 : T_Formula} {y2 : T_Formula} : Con qd Tryz.prog 113 [vi y0, .agg #[vi ((fv y1).1), vs ((fv y1).2.1), sv p1 ((fv y1).2.2) c1], .agg #[vi ((fv y2).1), vs ((fv y2).2.1), sv p2 ((fv y2).2.2) c2]] [] [Rl e_Formula p1 c1 ((fv y1).2.2), Rl e_Formula p2 c2 ((fv y2).2.2)] (m_world_two y0 y1 y2) fun r K=>∀ p3 c3,K (.agg #[vi ((fv r).1), vs ((fv r).2.1), sv p3 ((fv r).2.2) c3]) [] [Rl e_Formula p3 c3 ((fv r).2.2)] :=
 ent3 Tryz.call113 Tryz.func113 rfl fun X=>jsr<|jbx .s rfl<|fun b1=>jbx .s rfl<|fun b2=>jal .s (.agg #[vi 0, vs [], .slice none 0 0])<|fun b3=>jot<|jsr<|jpc 1 rfl<|jla 0 3 rfl rfl rfl<|jla 1 3 rfl rfl rfl<|
  jbs .s (e := e_Formula) 37 [vi ((fv y1).1), vs ((fv y1).2.1), sv p1 ((fv y1).2.2) c1, vi ((fv y2).1), vs ((fv y2).2.1), sv p2 ((fv y2).2.2) c2] ([y1, y2] : List T_Formula) (rC (vF (vP vI (vP vS (vL (gk 0))))) (rC (vF (vP vI (vP vS (vL (gk 1))))) rN))<|
  fun p3 c3=>jpe (.agg #[vi y0, vs [], sv p3 ([y1, y2] : List T_Formula) c3])<|jso .s 2 rfl rfl rfl<|jot<|jxr<|jrg' rfl (lC 2 (.agg #[vi y0, vs [], sv p3 ([y1, y2] : List T_Formula) c3]) rfl rfl lN) (fun _ k=>k p3 c3) [] ⟨gk 0,⟨⟩⟩

theorem k_world_theory_all {qd : Prop} (k : Nat) :
    (∀ {y0 : List Str} {p1 : Option Addr} {c1 : Nat} {y1 : Int}, Con qd Tryz.prog 68 [sv p1 y0 c1, .int .u64 y1] [] [Rl eStr p1 c1 y0] (k_world_theory k y0 y1) fun r K=>∀ p2 c2,K (.agg #[vi ((fv r).1), vs ((fv r).2.1), sv p2 ((fv r).2.2) c2]) [] [Rl e_Formula p2 c2 ((fv r).2.2)]) := by
  induction k with
  | zero => exact con0 Tryz.call68
  | succ k ih =>
    have ih_world_theory := @ih
    exact @fun y0 p1 c1 y1=>ent3 (m1 := F_world_theory (k_world_theory k) y0 y1) Tryz.call68 Tryz.func68 rfl fun X=>jsr<|jal .s (.agg #[vi 0, vs [], .slice none 0 0])<|fun b1=>jot<|jsr<|jpc 2 rfl<|jcl c_world_whole rfl ⟨⟩<|fun r1 _ k=>k<|jpc 1 rfl<|jot<|jsq<|jsr<|jpc 1 rfl<|jot<|jbk<|jsr<|jpc 2 rfl<|jot<|jif rfl (jsr<|
  jpe (.agg #[vi 2, vs [], .slice none 0 0])<|jso .s 0 rfl rfl rfl<|jot<|jxr<|jbr<|jtr<|jrg' rfl (lC 0 (.agg #[vi 2, vs [], .slice none 0 0]) rfl rfl lN) (fun _ k=>k none 0) [] ⟨gn,⟨⟩⟩)<|jsr<|jpc 3 rfl<|jot<|jif rfl (jsr<|
  jpe (.agg #[vi 1, vs [], .slice none 0 0])<|jso .s 0 rfl rfl rfl<|jot<|jxr<|jbr<|jtr<|jrg' rfl (lC 0 (.agg #[vi 1, vs [], .slice none 0 0]) rfl rfl lN) (fun _ k=>k none 0) [] ⟨gn,⟨⟩⟩)<|jsk<|jbn<|jtn<|jsr<|jpc 1 rfl<|
  jsl (gk 0) rfl rfl rfl (.inr ⟨_, rfl⟩) (.inl ⟨rfl, rfl⟩)<|fun x1 p2 c2=>jpc 1 rfl<|jot<|jsr<|jpc 1 rfl<|jcl c_world_split rfl ⟨⟩<|fun r2 _ k=>k<|jpc 5 rfl<|jot<|jsq<|jsr<|jpc 3 rfl<|jot<|jif rfl (jsr<|jpc 2 rfl<|
  jcl ih_world_theory rfl ⟨ck 0,⟨⟩⟩<|fun r3 _ k p3 c3=>k<|jso .s 0 rfl rfl rfl<|jot<|jxr<|jtr<|jrg' rfl (lC 0 (.agg #[vi ((fv r3).1), vs ((fv r3).2.1), sv p3 ((fv r3).2.2) c3]) rfl rfl lN) (fun _ k=>k p3 c3) [] ⟨gk 0,⟨⟩⟩)<|jsk<|jtn<|jsr<|
  jpc 1 rfl<|jix 1 rfl rfl rfl<|fun x2 b2 o1=>jld false oS (gk 0) rfl<|jpe (.agg #[vi 3, vs x2, .slice none 0 0])<|jal .s (.agg #[vi 0, vs [], .slice none 0 0])<|fun b3=>jso .s 1 rfl rfl rfl<|jot<|jsr<|jpc 1 rfl<|jix 2 rfl rfl rfl<|
  fun x3 b4 o2=>jld false oS (gk 0) rfl<|jpe (.agg #[vi 3, vs x3, .slice none 0 0])<|jbs .s (e := e_Formula) 37 [vi 3, vs x3, .slice none 0 0] ([fm (3, x3, ([] : List T_Formula))] : List T_Formula) (rC (vF (vP vI (vP vS (vL gn)))) rN)<|
  fun p4 c4=>jpe (.agg #[vi 4, vs [], sv p4 ([fm (3, x3, ([] : List T_Formula))] : List T_Formula) c4])<|jal .s (.agg #[vi 0, vs [], .slice none 0 0])<|fun b5=>jso .s 2 rfl rfl rfl<|jot<|jsr<|jpc 2 rfl<|jcl c_world_whole rfl ⟨⟩<|fun r4 _ k=>
  k<|jpc 1 rfl<|jot<|jsq<|jbk<|
  jjp (fun K=>K [(4, pt b1 0), (6, sv p2 x1 c2), (7, .int .u64 r2.1), (8, .int .u64 r2.2), (9, pt b3 0), (10, pt b5 0), (11, .int .u64 r4), (49, vb ((r2.1 == r4) && (r2.2 == 0)))] [bx b1 37 [vi 0, vs [], .slice none 0 0], bx b3 37 [vi 3, vs x2, .slice none 0 0], bx b5 37 [vi 4, vs [], sv p4 ([fm (3, x3, ([] : List T_Formula))] : List T_Formula) c4]] [Rl eStr p2 c2 x1, Rl e_Formula p4 c4 ([fm (3, x3, ([] : List T_Formula))] : List T_Formula)]) (
  jrg<|jpc 4 rfl<|jsp (b := r2.1 == r4) 53 rfl (fun hb1=>jpc 2 rfl<|jpe (vb (r2.2 == 0))<|jpc 1 rfl<|joe<|jup 49 (vb ((r2.1 == r4) && (r2.2 == 0))) rfl (by rw [hb1]; rfl)<|jnn (gv (fun _ k=>k) [0,1,2] ⟨gk 3,gk 0,⟨⟩⟩))<|fun hb1=>jpc 2 rfl<|
  jpe (vb false)<|jpc 1 rfl<|joe<|jup 49 (vb ((r2.1 == r4) && (r2.2 == 0))) rfl (by rw [hb1]; rfl)<|jnn (gv (fun _ k=>k) [0,1,2] ⟨gk 3,gk 0,⟨⟩⟩))<|fun _ k=>k<|jif rfl (jsr<|jla 1 3 rfl rfl rfl<|jso .s 0 rfl rfl rfl<|jot<|jxr<|jbr<|jtr<|
  jrg' rfl (lC 0 (.agg #[vi 3, vs x2, .slice none 0 0]) rfl rfl lN) (fun _ k=>k none 0) [] ⟨gn,⟨⟩⟩)<|jsr<|jpc 4 rfl<|jot<|jif rfl (jds [] [1] 6<|jda 0 1 3 rfl rfl rfl rfl<|jdc 3 [1,2] rfl<|jd1 3<|
  jca (.f rfl) [] [] ih_world_theory rfl rfl rfl ⟨ck 0,⟨⟩⟩<|fun r5 _ k p5 c5=>k<|jdn<|jd1 4<|jca (.f rfl) [] [] c_world_two rfl rfl rfl ⟨cn,ck 0,⟨⟩⟩<|fun r6 _ k p6 c6=>k<|jdn<|jd1 5<|jso (o := 0) (.f rfl) 0 rfl rfl rfl<|jdn<|jde<|jtn<|jxr<|
  jbr<|jtr<|jrg' rfl (lC 0 (.agg #[vi ((fv r6).1), vs ((fv r6).2.1), sv p6 ((fv r6).2.2) c6]) rfl rfl lN) (fun _ k=>k p6 c6) [] ⟨gk 0,⟨⟩⟩)<|
  jjp (fun K=>K [(4, pt b1 0), (6, sv p2 x1 c2), (7, .int .u64 r2.1), (8, .int .u64 r2.2), (9, pt b3 0), (10, pt b5 0), (11, .int .u64 r4), (67, vb ((r2.1 == 0) && (r2.2 == r4)))] [bx b1 37 [vi 0, vs [], .slice none 0 0], bx b3 37 [vi 3, vs x2, .slice none 0 0], bx b5 37 [vi 4, vs [], sv p4 ([fm (3, x3, ([] : List T_Formula))] : List T_Formula) c4]] [Rl eStr p2 c2 x1, Rl e_Formula p4 c4 ([fm (3, x3, ([] : List T_Formula))] : List T_Formula)]) (
  jrg<|jpc 3 rfl<|jsp (b := r2.1 == 0) 70 rfl (fun hb2=>jpc 3 rfl<|jpe (vb (r2.2 == r4))<|jpc 1 rfl<|joe<|jup 67 (vb ((r2.1 == 0) && (r2.2 == r4))) rfl (by rw [hb2]; rfl)<|jnn (gv (fun _ k=>k) [0,1,2] ⟨gk 0,gk 1,⟨⟩⟩))<|fun hb2=>jpc 3 rfl<|
  jpe (vb false)<|jpc 1 rfl<|joe<|jup 67 (vb ((r2.1 == 0) && (r2.2 == r4))) rfl (by rw [hb2]; rfl)<|jnn (gv (fun _ k=>k) [0,1,2] ⟨gk 0,gk 1,⟨⟩⟩))<|fun _ k=>k<|jif rfl (jsr<|jla 2 3 rfl rfl rfl<|jso .s 0 rfl rfl rfl<|jot<|jxr<|jbr<|jtr<|
  jrg' rfl (lC 0 (.agg #[vi 4, vs [], sv p4 ([fm (3, x3, ([] : List T_Formula))] : List T_Formula) c4]) rfl rfl lN) (fun _ k=>k p4 c4) [] ⟨gk 1,⟨⟩⟩)<|jsr<|jpc 3 rfl<|jot<|jif rfl (jds [] [2] 6<|jda 0 2 3 rfl rfl rfl rfl<|jdc 3 [1,2] rfl<|
  jd1 3<|jca (.f rfl) [] [] ih_world_theory rfl rfl rfl ⟨ck 0,⟨⟩⟩<|fun r7 _ k p7 c7=>k<|jdn<|jd1 4<|jca (.f rfl) [] [] c_world_two rfl rfl rfl ⟨ck 2,ck 0,⟨⟩⟩<|fun r8 _ k p8 c8=>k<|jdn<|jd1 5<|jso (o := 0) (.f rfl) 0 rfl rfl rfl<|jdn<|jde<|
  jtn<|jxr<|jbr<|jtr<|jrg' rfl (lC 0 (.agg #[vi ((fv r8).1), vs ((fv r8).2.1), sv p8 ((fv r8).2.2) c8]) rfl rfl lN) (fun _ k=>k p8 c8) [] ⟨gk 0,⟨⟩⟩)<|jsr<|jpc 4 rfl<|jot<|jif rfl (jds [] [2] 6<|jda 0 2 3 rfl rfl rfl rfl<|jdc 3 [1,2] rfl<|
  jd1 3<|jca (.f rfl) [] [] ih_world_theory rfl rfl rfl ⟨ck 0,⟨⟩⟩<|fun r9 _ k p9 c9=>k<|jdn<|jd1 4<|jca (.f rfl) [] [] c_world_two rfl rfl rfl ⟨ck 2,ck 0,⟨⟩⟩<|fun r10 _ k p10 c10=>k<|jdn<|jd1 5<|jso (o := 0) (.f rfl) 0 rfl rfl rfl<|jdn<|jde<|
  jtn<|jxr<|jbr<|jtr<|jrg' rfl (lC 0 (.agg #[vi ((fv r10).1), vs ((fv r10).2.1), sv p10 ((fv r10).2.2) c10]) rfl rfl lN) (fun _ k=>k p10 c10) [] ⟨gk 0,⟨⟩⟩)<|jsr<|jpc 3 rfl<|jot<|jif rfl (jds [] [1] 6<|jda 0 1 3 rfl rfl rfl rfl<|
  jdc 3 [1,2] rfl<|jd1 3<|jca (.f rfl) [] [] ih_world_theory rfl rfl rfl ⟨ck 0,⟨⟩⟩<|fun r11 _ k p11 c11=>k<|jdn<|jd1 4<|jca (.f rfl) [] [] c_world_two rfl rfl rfl ⟨cn,ck 0,⟨⟩⟩<|fun r12 _ k p12 c12=>k<|jdn<|jd1 5<|
  jso (o := 0) (.f rfl) 0 rfl rfl rfl<|jdn<|jde<|jtn<|jxr<|jbr<|jtr<|jrg' rfl (lC 0 (.agg #[vi ((fv r12).1), vs ((fv r12).2.1), sv p12 ((fv r12).2.2) c12]) rfl rfl lN) (fun _ k=>k p12 c12) [] ⟨gk 0,⟨⟩⟩)<|jsk<|jbn<|jtn<|jds [] [1, 2] 12<|
  jda 0 1 3 rfl rfl rfl rfl<|jdc 9 [1,2] rfl<|jda 5 2 3 rfl rfl rfl rfl<|jdc 6 [6,7] rfl<|jd1 3<|jca (.f rfl) [] [] ih_world_theory rfl rfl rfl ⟨ck 0,⟨⟩⟩<|fun r13 _ k p13 c13=>k<|jdn<|jd1 4<|
  jca (.f rfl) [] [] c_world_two rfl rfl rfl ⟨cn,ck 0,⟨⟩⟩<|fun r14 _ k p14 c14=>k<|jdn<|jd1 8<|jca (.f rfl) [] [] ih_world_theory rfl rfl rfl ⟨ck 2,⟨⟩⟩<|fun r15 _ k p15 c15=>k<|jdn<|jd1 9<|
  jca (.f rfl) [] [] c_world_two rfl rfl rfl ⟨ck 4,ck 0,⟨⟩⟩<|fun r16 _ k p16 c16=>k<|jdn<|jd1 10<|jca (.f rfl) [] [] c_world_two rfl rfl rfl ⟨ck 2,ck 0,⟨⟩⟩<|fun r17 _ k p17 c17=>k<|jdn<|jd1 11<|jso (o := 0) (.f rfl) 0 rfl rfl rfl<|jdn<|jde<|
  jtn<|jxr<|jrg' rfl (lC 0 (.agg #[vi ((fv r17).1), vs ((fv r17).2.1), sv p17 ((fv r17).2.2) c17]) rfl rfl lN) (fun _ k=>k p17 c17) [] ⟨gk 0,⟨⟩⟩

theorem c_world_theory {qd : Prop} {y0 : List Str} {y1 : Int} : Con qd Tryz.prog 68 [sv p1 y0 c1, .int .u64 y1] [] [Rl eStr p1 c1 y0] (m_world_theory y0 y1) fun r K=>∀ p2 c2,K (.agg #[vi ((fv r).1), vs ((fv r).2.1), sv p2 ((fv r).2.2) c2]) [] [Rl e_Formula p2 c2 ((fv r).2.2)] := conLim fun k => (k_world_theory_all k)

theorem c_world_Theory {qd : Prop} {y0 : List Str} {y1 : Int} : Con qd Tryz.prog 27 [sv p1 y0 c1, .int .u64 y1] [] [Rl eStr p1 c1 y0] (m_world_Theory y0 y1) fun r K=>∀ p2 c2,K (.tuple #[.agg #[vi ((fv r.1).1), vs ((fv r.1).2.1), sv p2 ((fv r.1).2.2) c2], vi r.2]) [] [Rl e_Formula p2 c2 ((fv r.1).2.2)] :=
 ent3 Tryz.call27 Tryz.func27 rfl fun X=>jsr<|jal .s (.agg #[vi 0, vs [], .slice none 0 0])<|fun b1=>jpc 1 rfl<|jot<|jsq<|jsr<|jpc 1 rfl<|jcl c_world_Valid rfl ⟨ck 0,⟨⟩⟩<|fun r1 _ k=>k<|jpc 1 rfl<|jot<|jif rfl (jsr<|jpe (.agg #[vi 0, vs [], .slice none 0 0])<|
  jso .s 0 rfl rfl rfl<|jpc 1 rfl<|jot<|jxr<|jtr<|jrg' rfl (lC 0 (.agg #[vi 0, vs [], .slice none 0 0]) rfl rfl (lT rfl lN)) (fun _ k=>k none 0) [] ⟨gn,⟨⟩⟩)<|jsk<|jtn<|jsr<|jpc 3 rfl<|jcl c_world_All rfl ⟨ck 0,⟨⟩⟩<|fun r2 _ k=>k<|jpc 1 rfl<|
  jcl c_world_theory rfl ⟨ck 0,⟨⟩⟩<|fun r3 _ k p2 c2=>k<|jso .s 0 rfl rfl rfl<|jpc 1 rfl<|jot<|jxr<|jrg' rfl (lC 0 (.agg #[vi ((fv r3).1), vs ((fv r3).2.1), sv p2 ((fv r3).2.2) c2]) rfl rfl (lT rfl lN)) (fun _ k=>k p2 c2) [] ⟨gk 0,⟨⟩⟩

theorem c_report_Order {y0 : T_Order} : Con False Tryz.prog 10 [.agg #[sv p1 y0.1 c1, sv p2 y0.2 c2]] [] [Rl eStr p1 c1 y0.1, Rl (eInt .i64) p2 c2 y0.2, Pt (eArr 9 eStr) 0 0 tab_formula_words] (m_report_Order y0) fun r K=>∀ p3 c3,K (sv p3 r c3) [] [Rl eStr p3 c3 r] :=
 ent3 Tryz.call10 Tryz.func10 rfl fun X=>jsr<|jbx .s rfl<|fun b1=>jpc 1 rfl<|jot<|jsr<|jpc 1 rfl<|jro eStr 9<|jot<|jsq<|jsr<|jla 0 2 rfl rfl rfl<|jcl c_order_Levels rfl ⟨ck 1,ck 2,⟨⟩⟩<|fun r1 _ k p3 c3=>k<|jpc 2 rfl<|jot<|jbk<|
  jlp (fun s1 K=>∀ p4 c4 r_1,K [(1, pt b1 0), (3, sv p4 s1.1 c4), (11, sv p3 r1 c3), (12, vi (len r1)), (13, vi s1.2)] [bx b1 25 [sv p1 y0.1 c1, sv p2 y0.2 c2], r_1] [Al eStr 9 r_1 p4 c4 s1.1, Rl (eInt .u64) p3 c3 r1, Rl eStr p1 c1 y0.1, Rl (eInt .i64) p2 c2 y0.2, Pt (eArr 9 eStr) 0 0 tab_formula_words]) (gv (fun _ k=>k none 0 []) [0,1] ⟨gk 1,gk 0,gk 2,gk 3,gk 4,⟨⟩⟩)<|
  fun s1 _ k p4 c4 r_1=>k<|jsr<|jpc 1 rfl<|jot<|jsq<|jif rfl (jsk<|jtn<|jsq<|jbk<|jsr<|jpc 1 rfl<|jix 1 rfl rfl rfl<|fun x1 b2 o1=>jld false oI (gk 0) rfl<|jpc 2 rfl<|jot<|jsr<|jfa 0 rfl<|jlo 0 rfl rfl rfl<|jpc 1 rfl<|
  jcl c_world_Theory rfl ⟨ck 3,⟨⟩⟩<|fun r2 _ k p5 c5=>k<|jpc 3 rfl<|jal .s (.agg #[vi 0, vs [], .slice none 0 0])<|fun b3=>jso .s 2 rfl rfl rfl<|jpc 1 rfl<|jot<|jsr<|jla 2 3 rfl rfl rfl<|jcl c_formula_Format rfl ⟨ck 0,ck 6,⟨⟩⟩<|fun r3 _ k=>
  k<|jpc 5 rfl<|jot<|jrg<|jpc 2 rfl<|jcl c_report_number rfl ⟨⟩<|fun r4 _ k=>k<|jbd fun x2 h1=>jv (fun h=>r_cat h rfl rfl h1)<|jpc 1 rfl<|jbd fun x3 h2=>jv (fun h=>r_cat h rfl rfl h2)<|
  jbs .s (e := eStr) 9 [vs x3] ([x3] : List Str) (rC vS rN)<|fun p6 c6=>jar .s 1 3 rfl (gk 0) rfl rfl<|fun x4 r_2 p7 c7=>jpc 1 rfl<|joe<|jbn<|jtn<|jrg<|jpc 2 rfl<|joe<|jln (gv (fun _ k=>k p7 c7 r_2) [0,1] ⟨gk 0,gk 5,gk 6,gk 7,gk 8,⟨⟩⟩))<|
  jxe<|jte<|jle<|jbh<|jtn<|jsr<|jpc 2 rfl<|jot<|jxr<|jsh 1 0 rfl rfl<|jr1 rfl rfl (fun _ k=>k p4 c4) [] ⟨gk 0,⟨⟩⟩

theorem c_law42_awake : Con False Tryz.prog 5 [] [] [Pt (eArr 9 eStr) 0 0 tab_formula_words] (m_law42_awake) fun r K=>K (vb r) [] [] :=
 ent3 Tryz.call5 Tryz.func5 rfl fun X=>jsr<|jpc 1 rfl<|jot<|jsr<|jcl c_keep_Voc rfl ⟨⟩<|fun r1 _ k p1 c1=>k<|jbs .s (e := eInt .i64) 3 [vi 2, vi 1, vi 2, vi 0] ([2, 1, 2, 0] : List Int) (rC vI (rC vI (rC vI (rC vI rN))))<|fun p2 c2=>
  jpe (.agg #[sv p1 r1 c1, sv p2 ([2, 1, 2, 0] : List Int) c2])<|jcl c_report_Order rfl ⟨ck 1,ck 0,ck 2,⟨⟩⟩<|fun r2 _ k p3 c3=>k<|jpc 1 rfl<|jot<|jds [] [] 8<|jd1 0<|jca (.f rfl) [] [] c_keep_Voc rfl rfl rfl ⟨⟩<|fun r3 _ k p4 c4=>k<|jdn<|
  jdi 1 0 rfl rfl rfl rfl<|fun x1 b1 o1=>jdl 2 false oS rfl (gk 0) rfl<|jd1 3<|jca (.f rfl) [] [] c_keep_Voc rfl rfl rfl ⟨⟩<|fun r4 _ k p5 c5=>k<|jdn<|jdi 4 0 rfl rfl rfl rfl<|fun x2 b2 o2=>jdl 5 false oS rfl (gk 0) rfl<|jdc 0 [6,7] rfl<|
  jde<|jtn<|jsr<|jpc 2 rfl<|jbd fun x3 h1=>jv (fun h=>r_cat h rfl rfl h1)<|jbd fun x4 h2=>jv (fun h=>r_cat h rfl rfl h2)<|jpc 1 rfl<|jbd fun x5 h3=>jv (fun h=>r_cat h rfl rfl h3)<|jpc 1 rfl<|jbd fun x6 h4=>jv (fun h=>r_cat h rfl rfl h4)<|
  jbd fun x7 h5=>jv (fun h=>r_cat h rfl rfl h5)<|jpc 1 rfl<|jbd fun x8 h6=>jv (fun h=>r_cat h rfl rfl h6)<|jpc 1 rfl<|jbd fun x9 h7=>jv (fun h=>r_cat h rfl rfl h7)<|
  jbs .s (e := eStr) 9 [vs x5, vs x8, vs x9] ([x5, x8, x9] : List Str) (rC vS (rC vS (rC vS rN)))<|fun p6 c6=>jcl c_ref42_Same rfl ⟨ck 5,ck 0,⟨⟩⟩<|fun r5 _ k=>k<|jpc 1 rfl<|jot<|jxr<|jr1 rfl rfl (fun _ k=>k) [] ⟨⟩

theorem k_ref02_Depth_all {qd : Prop} (k : Nat) :
    (∀ {y0 : T_Formula} {p1 : Option Addr} {c1 : Nat}, Con qd Tryz.prog 40 [.agg #[vi ((fv y0).1), vs ((fv y0).2.1), sv p1 ((fv y0).2.2) c1]] [] [Rl e_Formula p1 c1 ((fv y0).2.2)] (k_ref02_Depth k y0) fun r K=>K (vi r) [] []) := by
  induction k with
  | zero => exact con0 Tryz.call40
  | succ k ih =>
    have ih_ref02_Depth := @ih
    exact @fun y0 p1 c1=>ent3 (m1 := F_ref02_Depth (k_ref02_Depth k) y0) Tryz.call40 Tryz.func40 rfl fun X=>jsr<|jbx .s rfl<|fun b1=>jpc 1 rfl<|jot<|jsr<|jpc 1 rfl<|jot<|jsq<|jsr<|jpc 1 rfl<|jot<|jbk<|
  jlp (fun s1 K=>K [(1, pt b1 0), (3, vi s1.1), (4, vi s1.2)] [bx b1 37 [vi ((fv y0).1), vs ((fv y0).2.1), sv p1 ((fv y0).2.2) c1]] [Rl e_Formula p1 c1 ((fv y0).2.2)]) (gv (fun _ k=>k) [0] ⟨gk 0,⟨⟩⟩)<|fun s1 _ k=>k<|jsq<|jsr<|jpc 1 rfl<|
  jfa 2 rfl<|jlo 0 rfl rfl rfl<|jpc 2 rfl<|jot<|jif rfl (jsk<|jtn<|jsq<|jbk<|jrg<|jpc 1 rfl<|jfa 2 rfl<|jlo 0 rfl rfl rfl<|jpc 1 rfl<|jix 0 rfl rfl rfl<|fun x1 b2 o1=>jld true o_Formula (gk 0) rfl<|fun p2 c2=>
  jcl ih_ref02_Depth rfl ⟨ck 0,⟨⟩⟩<|fun r1 _ k=>k<|jpc 3 rfl<|joe<|jbn<|jtn<|jrg<|jpc 3 rfl<|joe<|jln (gv (fun _ k=>k) [0] ⟨gk 2,⟨⟩⟩))<|jxe<|jte<|jle<|jbh<|jtn<|jsr<|jpc 2 rfl<|jot<|jxr<|jr1 rfl rfl (fun _ k=>k) [] ⟨⟩

theorem c_ref02_Depth {qd : Prop} {y0 : T_Formula} : Con qd Tryz.prog 40 [.agg #[vi ((fv y0).1), vs ((fv y0).2.1), sv p1 ((fv y0).2.2) c1]] [] [Rl e_Formula p1 c1 ((fv y0).2.2)] (m_ref02_Depth y0) fun r K=>K (vi r) [] [] := conLim fun k => (k_ref02_Depth_all k)

theorem k_ref02_Size_all {qd : Prop} (k : Nat) :
    (∀ {y0 : T_Formula} {p1 : Option Addr} {c1 : Nat}, Con qd Tryz.prog 39 [.agg #[vi ((fv y0).1), vs ((fv y0).2.1), sv p1 ((fv y0).2.2) c1]] [] [Rl e_Formula p1 c1 ((fv y0).2.2)] (k_ref02_Size k y0) fun r K=>K (vi r) [] []) := by
  induction k with
  | zero => exact con0 Tryz.call39
  | succ k ih =>
    have ih_ref02_Size := @ih
    exact @fun y0 p1 c1=>ent3 (m1 := F_ref02_Size (k_ref02_Size k) y0) Tryz.call39 Tryz.func39 rfl fun X=>jsr<|jbx .s rfl<|fun b1=>jpc 1 rfl<|jot<|jsr<|jpc 1 rfl<|jot<|jsq<|jsr<|jpc 1 rfl<|jot<|jbk<|
  jlp (fun s1 K=>K [(1, pt b1 0), (3, vi s1.1), (4, vi s1.2)] [bx b1 37 [vi ((fv y0).1), vs ((fv y0).2.1), sv p1 ((fv y0).2.2) c1]] [Rl e_Formula p1 c1 ((fv y0).2.2)]) (gv (fun _ k=>k) [0] ⟨gk 0,⟨⟩⟩)<|fun s1 _ k=>k<|jsq<|jsr<|jpc 1 rfl<|
  jfa 2 rfl<|jlo 0 rfl rfl rfl<|jpc 2 rfl<|jot<|jif rfl (jsk<|jtn<|jsq<|jbk<|jrg<|jpc 1 rfl<|jfa 2 rfl<|jlo 0 rfl rfl rfl<|jpc 1 rfl<|jix 0 rfl rfl rfl<|fun x1 b2 o1=>jld true o_Formula (gk 0) rfl<|fun p2 c2=>jcl ih_ref02_Size rfl ⟨ck 0,⟨⟩⟩<|
  fun r1 _ k=>k<|jpc 2 rfl<|joe<|jbn<|jtn<|jrg<|jpc 3 rfl<|joe<|jln (gv (fun _ k=>k) [0] ⟨gk 2,⟨⟩⟩))<|jxe<|jte<|jle<|jbh<|jtn<|jsr<|jpc 2 rfl<|jot<|jxr<|jr1 rfl rfl (fun _ k=>k) [] ⟨⟩

theorem c_ref02_Size {qd : Prop} {y0 : T_Formula} : Con qd Tryz.prog 39 [.agg #[vi ((fv y0).1), vs ((fv y0).2.1), sv p1 ((fv y0).2.2) c1]] [] [Rl e_Formula p1 c1 ((fv y0).2.2)] (m_ref02_Size y0) fun r K=>K (vi r) [] [] := conLim fun k => (k_ref02_Size_all k)

theorem k_ref02_kinds_all {qd : Prop} (k : Nat) :
    (∀ {y0 : T_Formula} {p1 : Option Addr} {c1 : Nat}, Con qd Tryz.prog 41 [.agg #[vi ((fv y0).1), vs ((fv y0).2.1), sv p1 ((fv y0).2.2) c1]] [] [Rl e_Formula p1 c1 ((fv y0).2.2)] (k_ref02_kinds k y0) fun r K=>K (vb r) [] []) := by
  induction k with
  | zero => exact con0 Tryz.call41
  | succ k ih =>
    have ih_ref02_kinds := @ih
    exact @fun y0 p1 c1=>ent3 (m1 := F_ref02_kinds (k_ref02_kinds k) y0) Tryz.call41 Tryz.func41 rfl fun X=>jsr<|jbx .s rfl<|fun b1=>jpc 1 rfl<|jot<|jsr<|jfa 2 rfl<|jlo 0 rfl rfl rfl<|jpc 2 rfl<|jot<|jsr<|jpc 1 rfl<|jot<|
  jjn (fun s1 K=>K [(1, pt b1 0), (3, vi (len ((fv y0).2.2))), (4, vb s1)] [bx b1 37 [vi ((fv y0).1), vs ((fv y0).2.1), sv p1 ((fv y0).2.2) c1]] [Rl e_Formula p1 c1 ((fv y0).2.2)]) (jsr<|jfa 0 rfl<|jlo 0 rfl rfl rfl<|jot<|jbk<|
  jjn (fun s2 K=>K [(1, pt b1 0), (3, vi (len ((fv y0).2.2))), (4, vb false), (10, vi ((fv y0).1)), (11, vb s2)] [bx b1 37 [vi ((fv y0).1), vs ((fv y0).2.1), sv p1 ((fv y0).2.2) c1]] [Rl e_Formula p1 c1 ((fv y0).2.2)]) (jsr<|jpc 2 rfl<|jot<|
  jif rfl (jsk<|jnn (gv (fun _ k=>k) [0] ⟨gk 0,⟨⟩⟩))<|jsr<|jpc 2 rfl<|jot<|jif rfl (jsk<|jnn (gv (fun _ k=>k) [0] ⟨gk 0,⟨⟩⟩))<|jrg<|jpc 2 rfl<|joe<|jnn (gv (fun _ k=>k) [0] ⟨gk 0,⟨⟩⟩))<|fun s2 _ k=>k<|jif rfl (jrg<|jpc 3 rfl<|joe<|jbn<|
  jnn (gv (fun _ k=>k) [0] ⟨gk 0,⟨⟩⟩))<|jsr<|jpc 2 rfl<|jot<|jif rfl (jrg<|jpc 3 rfl<|joe<|jbn<|jnn (gv (fun _ k=>k) [0] ⟨gk 0,⟨⟩⟩))<|
  jjn (fun s3 K=>K [(1, pt b1 0), (3, vi (len ((fv y0).2.2))), (4, vb false), (10, vi ((fv y0).1)), (21, vb s3)] [bx b1 37 [vi ((fv y0).1), vs ((fv y0).2.1), sv p1 ((fv y0).2.2) c1]] [Rl e_Formula p1 c1 ((fv y0).2.2)]) (jsr<|jpc 2 rfl<|jot<|
  jif rfl (jsk<|jnn (gv (fun _ k=>k) [0] ⟨gk 0,⟨⟩⟩))<|jrg<|jpc 2 rfl<|joe<|jnn (gv (fun _ k=>k) [0] ⟨gk 0,⟨⟩⟩))<|fun s3 _ k=>k<|jif rfl (
  jjq (fun K=>K [(1, pt b1 0), (3, vi (len ((fv y0).2.2))), (4, vb ((decide (2 ≤ (len ((fv y0).2.2)))) && (decide ((len ((fv y0).2.2)) ≤ 6))))] [bx b1 37 [vi ((fv y0).1), vs ((fv y0).2.1), sv p1 ((fv y0).2.2) c1]] [Rl e_Formula p1 c1 ((fv y0).2.2)]) (
  jrg<|jpc 3 rfl<|jsp (b := decide (2 ≤ (len ((fv y0).2.2)))) 26 rfl (fun hb1=>jpc 2 rfl<|jpe (vb (decide ((len ((fv y0).2.2)) ≤ 6)))<|jpc 1 rfl<|joe<|
  jup 4 (vb ((decide (2 ≤ (len ((fv y0).2.2)))) && (decide ((len ((fv y0).2.2)) ≤ 6)))) rfl (by rw [hb1]; rfl)<|jnn (gv (fun _ k=>k) [0] ⟨gk 0,⟨⟩⟩))<|fun hb1=>jpc 2 rfl<|jpe (vb false)<|jpc 1 rfl<|joe<|
  jup 4 (vb ((decide (2 ≤ (len ((fv y0).2.2)))) && (decide ((len ((fv y0).2.2)) ≤ 6)))) rfl (by rw [hb1]; rfl)<|jnn (gv (fun _ k=>k) [0] ⟨gk 0,⟨⟩⟩))<|fun _ k=>k<|jbn<|jnn (gv (fun _ k=>k) [0] ⟨gk 0,⟨⟩⟩))<|
  jjn (fun s4 K=>K [(1, pt b1 0), (3, vi (len ((fv y0).2.2))), (4, vb false), (30, vb s4)] [bx b1 37 [vi ((fv y0).1), vs ((fv y0).2.1), sv p1 ((fv y0).2.2) c1]] [Rl e_Formula p1 c1 ((fv y0).2.2)]) (jsr<|jpc 2 rfl<|jot<|jif rfl (jsk<|
  jnn (gv (fun _ k=>k) [0] ⟨gk 0,⟨⟩⟩))<|jrg<|jpc 2 rfl<|joe<|jnn (gv (fun _ k=>k) [0] ⟨gk 0,⟨⟩⟩))<|fun s4 _ k=>k<|jif rfl (jrg<|jpc 3 rfl<|joe<|jbn<|jnn (gv (fun _ k=>k) [0] ⟨gk 0,⟨⟩⟩))<|jsk<|jbn<|jnn (gv (fun _ k=>k) [0] ⟨gk 0,⟨⟩⟩))<|
  fun s1 _ k=>k<|jsq<|jsr<|jpc 1 rfl<|jot<|jbk<|
  jlp (fun s5 K=>K [(1, pt b1 0), (3, vi (len ((fv y0).2.2))), (4, vb s5.1), (5, vi s5.2)] [bx b1 37 [vi ((fv y0).1), vs ((fv y0).2.1), sv p1 ((fv y0).2.2) c1]] [Rl e_Formula p1 c1 ((fv y0).2.2)]) (gv (fun _ k=>k) [0] ⟨gk 0,⟨⟩⟩)<|fun s5 _ k=>
  k<|jsq<|jsr<|jpc 3 rfl<|jot<|jif rfl (jsk<|jtn<|jsq<|jbk<|
  jjc (fun s6 K=>K [(1, pt b1 0), (3, vi (len ((fv y0).2.2))), (4, vb s6), (5, vi s5.2)] [bx b1 37 [vi ((fv y0).1), vs ((fv y0).2.1), sv p1 ((fv y0).2.2) c1]] [Rl e_Formula p1 c1 ((fv y0).2.2)]) (jrg<|jpc 2 rfl<|jsg 41 rfl (jfa 2 rfl<|
  jlo 0 rfl rfl rfl<|jpc 1 rfl<|jix 0 rfl rfl rfl<|fun x1 b2 o1=>jld true o_Formula (gk 0) rfl<|fun p2 c2=>jcl ih_ref02_kinds rfl ⟨ck 0,⟨⟩⟩<|fun r1 _ k=>k<|jpe (vb r1)<|jpc 1 rfl<|joe<|jnn (gv (fun _ k=>k) [0] ⟨gk 2,⟨⟩⟩))<|jpc 6 rfl<|
  jpe (vb false)<|jpc 1 rfl<|joe<|jnn (gv (fun _ k=>k) [0] ⟨gk 0,⟨⟩⟩))<|fun s6 _ k=>k<|jbn<|jtn<|jrg<|jpc 3 rfl<|joe<|jln (gv (fun _ k=>k) [0] ⟨gk 0,⟨⟩⟩))<|jxe<|jte<|jle<|jbh<|jtn<|jsr<|jpc 2 rfl<|jot<|jxr<|jr1 rfl rfl (fun _ k=>k) [] ⟨⟩

theorem c_ref02_kinds {qd : Prop} {y0 : T_Formula} : Con qd Tryz.prog 41 [.agg #[vi ((fv y0).1), vs ((fv y0).2.1), sv p1 ((fv y0).2.2) c1]] [] [Rl e_Formula p1 c1 ((fv y0).2.2)] (m_ref02_kinds y0) fun r K=>K (vb r) [] [] := conLim fun k => (k_ref02_kinds_all k)

theorem c_ref01_ValidName {qd : Prop} {y0 : Str} : Con qd Tryz.prog 80 [vs y0] [] [] (m_ref01_ValidName y0) fun r K=>K (vb r) [] [] :=
 ent3 Tryz.call80 Tryz.func80 rfl fun X=>jsr<|jpc 1 rfl<|jot<|jsq<|jjn (fun s1 K=>K [(0, vs y0), (21, vb s1)] [] []) (jrg<|jpc 4 rfl<|jsg 7 rfl (jpc 3 rfl<|jpe (vb true)<|jpc 4 rfl<|jpe (vb true)<|jpc 4 rfl<|jpe (vb true)<|joe<|jnn (gv (fun _ k=>k) [] ⟨⟩))<|jpc 3 rfl<|
  jpe (vb (decide (12 < (len y0))))<|jpc 1 rfl<|jsg 12 rfl (jpc 3 rfl<|jpe (vb true)<|jpc 4 rfl<|jpe (vb true)<|joe<|jnn (gv (fun _ k=>k) [] ⟨⟩))<|jpc 1 rfl<|jbd fun x1 h1=>jv (fun h=>r_sidx h rfl rfl Tryz.underlying9 h1)<|jpc 1 rfl<|
  jpe (vb (decide (x1 < 97)))<|jpc 1 rfl<|jsg 17 rfl (jpc 3 rfl<|jpe (vb true)<|joe<|jnn (gv (fun _ k=>k) [] ⟨⟩))<|jpc 1 rfl<|jbd fun x2 h2=>jv (fun h=>r_sidx h rfl rfl Tryz.underlying9 h2)<|jpc 1 rfl<|jpe (vb (decide (122 < x2)))<|joe<|
  jnn (gv (fun _ k=>k) [] ⟨⟩))<|fun s1 _ k=>k<|jif rfl (jsr<|jpc 1 rfl<|jot<|jxr<|jtr<|jr1 rfl rfl (fun _ k=>k) [] ⟨⟩)<|jsk<|jtn<|jsq<|jsr<|jpc 1 rfl<|jot<|jbk<|jlp (fun s2 K=>K [(0, vs y0), (3, vi s2)] [] []) (gv (fun _ k=>k) [] ⟨⟩)<|
  fun s2 _ k=>k<|jsq<|jsr<|jpc 4 rfl<|jot<|jif rfl (jsk<|jtn<|jsq<|jbk<|jjn (fun s3 K=>K [(0, vs y0), (3, vi s2), (55, vb s3)] [] []) (jrg<|jpc 2 rfl<|jbd fun x3 h3=>jv (fun h=>r_sidx h rfl rfl Tryz.underlying9 h3)<|jpc 2 rfl<|jsg 32 rfl (
  jpc 4 rfl<|jpe (vb true)<|jpc 3 rfl<|jbd fun x4 h4=>jv (fun h=>r_sidx h rfl rfl Tryz.underlying9 h4)<|jpc 2 rfl<|jsg 43 rfl (jpc 4 rfl<|jpe (vb true)<|jpe (vb true)<|jpc 3 rfl<|jbd fun x5 h5=>
  jv (fun h=>r_sidx h rfl rfl Tryz.underlying9 h5)<|jpc 1 rfl<|jpe (vb (x5 != 95))<|joe<|jnn (gv (fun _ k=>k) [] ⟨⟩))<|jpc 2 rfl<|jbd fun x6 h6=>jv (fun h=>r_sidx h rfl rfl Tryz.underlying9 h6)<|jpc 1 rfl<|jpe (vb (decide (57 < x6)))<|
  jpe (vb (decide (57 < x6)))<|jpc 1 rfl<|jsg 50 rfl (jpc 2 rfl<|jbd fun x7 h7=>jv (fun h=>r_sidx h rfl rfl Tryz.underlying9 h7)<|jpc 1 rfl<|jpe (vb (x7 != 95))<|joe<|jnn (gv (fun _ k=>k) [] ⟨⟩))<|jpc 4 rfl<|jpe (vb false)<|joe<|
  jnn (gv (fun _ k=>k) [] ⟨⟩))<|jpc 2 rfl<|jbd fun x8 h8=>jv (fun h=>r_sidx h rfl rfl Tryz.underlying9 h8)<|jpc 1 rfl<|jpe (vb (decide (122 < x8)))<|jpc 1 rfl<|jsg 38 rfl (jpc 2 rfl<|jbd fun x9 h9=>
  jv (fun h=>r_sidx h rfl rfl Tryz.underlying9 h9)<|jpc 2 rfl<|jsg 43 rfl (jpc 4 rfl<|jpe (vb true)<|jpe (vb true)<|jpc 3 rfl<|jbd fun x10 h10=>jv (fun h=>r_sidx h rfl rfl Tryz.underlying9 h10)<|jpc 1 rfl<|jpe (vb (x10 != 95))<|joe<|
  jnn (gv (fun _ k=>k) [] ⟨⟩))<|jpc 2 rfl<|jbd fun x11 h11=>jv (fun h=>r_sidx h rfl rfl Tryz.underlying9 h11)<|jpc 1 rfl<|jpe (vb (decide (57 < x11)))<|jpe (vb (decide (57 < x11)))<|jpc 1 rfl<|jsg 50 rfl (jpc 2 rfl<|jbd fun x12 h12=>
  jv (fun h=>r_sidx h rfl rfl Tryz.underlying9 h12)<|jpc 1 rfl<|jpe (vb (x12 != 95))<|joe<|jnn (gv (fun _ k=>k) [] ⟨⟩))<|jpc 4 rfl<|jpe (vb false)<|joe<|jnn (gv (fun _ k=>k) [] ⟨⟩))<|jpc 10 rfl<|jpe (vb false)<|jpc 5 rfl<|jpe (vb false)<|
  joe<|jnn (gv (fun _ k=>k) [] ⟨⟩))<|fun s3 _ k=>k<|jif rfl (jsr<|jpc 1 rfl<|jot<|jxr<|jbr<|jtr<|jlr<|jbr<|jtr<|jr1 rfl rfl (fun _ k=>k) [] ⟨⟩)<|jsk<|jbn<|jtn<|jrg<|jpc 3 rfl<|joe<|jln (gv (fun _ k=>k) [] ⟨⟩))<|jxe<|jte<|jle<|jbh<|jtn<|jsr<|
  jpc 1 rfl<|jot<|jxr<|jr1 rfl rfl (fun _ k=>k) [] ⟨⟩

theorem c_ref02_word {qd : Prop} {y0 : Int} : Con qd Tryz.prog 79 [.int .u8 y0] [] [] (m_ref02_word y0) fun r K=>K (vb r) [] [] :=
 ent3 Tryz.call79 Tryz.func79 rfl fun X=>jsr<|jpc 1 rfl<|jot<|
  jjp (fun K=>K [(2, vb (if decide (97 ≤ y0) then (decide (y0 ≤ 122)) || (if decide (48 ≤ y0) then (decide (y0 ≤ 57)) || (y0 == 95) else y0 == 95) else if decide (48 ≤ y0) then (decide (y0 ≤ 57)) || (y0 == 95) else y0 == 95))] [] []) (jrg<|
  jpc 3 rfl<|jsp (b := decide (97 ≤ y0)) 5 rfl (fun hb1=>jpc 2 rfl<|jpe (vb (decide (y0 ≤ 122)))<|jpc 1 rfl<|jsp (b := decide (y0 ≤ 122)) 9 rfl (fun hb2=>jpc 6 rfl<|jpe (vb true)<|jpc 3 rfl<|jpe (vb true)<|jpc 1 rfl<|joe<|
  jup 2 (vb (if decide (97 ≤ y0) then (decide (y0 ≤ 122)) || (if decide (48 ≤ y0) then (decide (y0 ≤ 57)) || (y0 == 95) else y0 == 95) else if decide (48 ≤ y0) then (decide (y0 ≤ 57)) || (y0 == 95) else y0 == 95)) rfl (by rw [hb1,hb2]; rfl)<|
  jnn (gv (fun _ k=>k) [] ⟨⟩))<|fun hb2=>jpc 3 rfl<|jsp (b := decide (48 ≤ y0)) 12 rfl (fun hb3=>jpc 2 rfl<|jpe (vb (decide (y0 ≤ 57)))<|jpe (vb (decide (y0 ≤ 57)))<|jpc 1 rfl<|jsp (b := decide (y0 ≤ 57)) 17 rfl (fun hb4=>jpc 2 rfl<|
  jpe (vb true)<|jpc 1 rfl<|joe<|
  jup 2 (vb (if decide (97 ≤ y0) then (decide (y0 ≤ 122)) || (if decide (48 ≤ y0) then (decide (y0 ≤ 57)) || (y0 == 95) else y0 == 95) else if decide (48 ≤ y0) then (decide (y0 ≤ 57)) || (y0 == 95) else y0 == 95)) rfl (by rw [hb1,hb2,hb3,hb4]; rfl)<|
  jnn (gv (fun _ k=>k) [] ⟨⟩))<|fun hb4=>jpc 2 rfl<|jpe (vb (y0 == 95))<|jpc 1 rfl<|joe<|
  jup 2 (vb (if decide (97 ≤ y0) then (decide (y0 ≤ 122)) || (if decide (48 ≤ y0) then (decide (y0 ≤ 57)) || (y0 == 95) else y0 == 95) else if decide (48 ≤ y0) then (decide (y0 ≤ 57)) || (y0 == 95) else y0 == 95)) rfl (by rw [hb1,hb2,hb3,hb4]; rfl)<|
  jnn (gv (fun _ k=>k) [] ⟨⟩))<|fun hb3=>jpc 2 rfl<|jpe (vb false)<|jpe (vb false)<|jpc 3 rfl<|jpe (vb (y0 == 95))<|jpc 1 rfl<|joe<|
  jup 2 (vb (if decide (97 ≤ y0) then (decide (y0 ≤ 122)) || (if decide (48 ≤ y0) then (decide (y0 ≤ 57)) || (y0 == 95) else y0 == 95) else if decide (48 ≤ y0) then (decide (y0 ≤ 57)) || (y0 == 95) else y0 == 95)) rfl (by rw [hb1,hb2,hb3]; rfl)<|
  jnn (gv (fun _ k=>k) [] ⟨⟩))<|fun hb1=>jpc 2 rfl<|jpe (vb false)<|jpc 4 rfl<|jsp (b := decide (48 ≤ y0)) 12 rfl (fun hb5=>jpc 2 rfl<|jpe (vb (decide (y0 ≤ 57)))<|jpe (vb (decide (y0 ≤ 57)))<|jpc 1 rfl<|
  jsp (b := decide (y0 ≤ 57)) 17 rfl (fun hb6=>jpc 2 rfl<|jpe (vb true)<|jpc 1 rfl<|joe<|
  jup 2 (vb (if decide (97 ≤ y0) then (decide (y0 ≤ 122)) || (if decide (48 ≤ y0) then (decide (y0 ≤ 57)) || (y0 == 95) else y0 == 95) else if decide (48 ≤ y0) then (decide (y0 ≤ 57)) || (y0 == 95) else y0 == 95)) rfl (by rw [hb1,hb5,hb6]; rfl)<|
  jnn (gv (fun _ k=>k) [] ⟨⟩))<|fun hb6=>jpc 2 rfl<|jpe (vb (y0 == 95))<|jpc 1 rfl<|joe<|
  jup 2 (vb (if decide (97 ≤ y0) then (decide (y0 ≤ 122)) || (if decide (48 ≤ y0) then (decide (y0 ≤ 57)) || (y0 == 95) else y0 == 95) else if decide (48 ≤ y0) then (decide (y0 ≤ 57)) || (y0 == 95) else y0 == 95)) rfl (by rw [hb1,hb5,hb6]; rfl)<|
  jnn (gv (fun _ k=>k) [] ⟨⟩))<|fun hb5=>jpc 2 rfl<|jpe (vb false)<|jpe (vb false)<|jpc 3 rfl<|jpe (vb (y0 == 95))<|jpc 1 rfl<|joe<|
  jup 2 (vb (if decide (97 ≤ y0) then (decide (y0 ≤ 122)) || (if decide (48 ≤ y0) then (decide (y0 ≤ 57)) || (y0 == 95) else y0 == 95) else if decide (48 ≤ y0) then (decide (y0 ≤ 57)) || (y0 == 95) else y0 == 95)) rfl (by rw [hb1,hb5]; rfl)<|
  jnn (gv (fun _ k=>k) [] ⟨⟩))<|fun _ k=>k<|jxr<|jr1 rfl rfl (fun _ k=>k) [] ⟨⟩

theorem c_ref02_reader_token {qd : Prop} {y0 : T_ref02_reader} : Con qd Tryz.prog 37 [pt b1 0] [bx b1 82 [vs y0.1, vi y0.2.1, vi y0.2.2]] [] (m_ref02_reader_token y0) fun r K=>K (.tuple #[vs r.1, vi r.2]) [bx b1 82 [vs y0.1, vi y0.2.1, vi y0.2.2]] [] :=
 ent3 Tryz.call37 Tryz.func37 rfl fun X=>jsr<|jpc 2 rfl<|jot<|jsr<|jpc 2 rfl<|jfa 1 rfl<|jlo 0 rfl rfl rfl<|jpc 1 rfl<|jot<|jjn (fun s1 K=>K [(0, pt b1 0), (4, vi s1)] [bx b1 82 [vs y0.1, vi y0.2.1, vi y0.2.2]] []) (jbk<|
  jlp (fun s2 K=>K [(0, pt b1 0), (4, vi s2)] [bx b1 82 [vs y0.1, vi y0.2.1, vi y0.2.2]] []) (gv (fun _ k=>k) [0] ⟨⟩)<|fun s2 _ k=>k<|jsq<|
  jjn (fun s3 K=>K [(0, pt b1 0), (4, vi s2), (28, vb s3)] [bx b1 82 [vs y0.1, vi y0.2.1, vi y0.2.2]] []) (jrg<|jpc 3 rfl<|jfa 0 rfl<|jlo 0 rfl rfl rfl<|jpc 3 rfl<|jsg 20 rfl (jpc 2 rfl<|jfa 0 rfl<|jlo 0 rfl rfl rfl<|jpc 1 rfl<|
  jbd fun x1 h1=>jv (fun h=>r_sidx h rfl rfl Tryz.underlying9 h1)<|jpc 1 rfl<|jpe (vb (x1 == 32))<|joe<|jnn (gv (fun _ k=>k) [0] ⟨⟩))<|jpc 7 rfl<|jpe (vb false)<|joe<|jnn (gv (fun _ k=>k) [0] ⟨⟩))<|fun s3 _ k=>k<|jif rfl (jsk<|jtn<|jbk<|jrg<|
  jpc 3 rfl<|joe<|jbn<|jln (gv (fun _ k=>k) [0] ⟨⟩))<|jxe<|jte<|jle<|jbh<|jnn (gv (fun _ k=>k) [0] ⟨⟩))<|fun s1 _ k=>k<|jsq<|jsr<|jpc 3 rfl<|jfa 0 rfl<|jlo 0 rfl rfl rfl<|jpc 2 rfl<|jot<|jif rfl (jsr<|jpc 3 rfl<|jot<|jxr<|jtr<|
  jrg' rfl (lT rfl (lT rfl lN)) (fun _ k=>k) [0] ⟨⟩)<|jsk<|jtn<|jsr<|jpc 2 rfl<|jot<|jjn (fun s4 K=>K [(0, pt b1 0), (4, vi s1), (5, vi s4)] [bx b1 82 [vs y0.1, vi y0.2.1, vi y0.2.2]] []) (jbk<|
  jlp (fun s5 K=>K [(0, pt b1 0), (4, vi s1), (5, vi s5)] [bx b1 82 [vs y0.1, vi y0.2.1, vi y0.2.2]] []) (gv (fun _ k=>k) [0] ⟨⟩)<|fun s5 _ k=>k<|jsq<|
  jjn (fun s6 K=>K [(0, pt b1 0), (4, vi s1), (5, vi s5), (73, vb s6)] [bx b1 82 [vs y0.1, vi y0.2.1, vi y0.2.2]] []) (jrg<|jpc 3 rfl<|jfa 0 rfl<|jlo 0 rfl rfl rfl<|jpc 3 rfl<|jsg 47 rfl (jpc 2 rfl<|jfa 0 rfl<|jlo 0 rfl rfl rfl<|jpc 1 rfl<|
  jbd fun x2 h2=>jv (fun h=>r_sidx h rfl rfl Tryz.underlying9 h2)<|jcl c_ref02_word rfl ⟨⟩<|fun r1 _ k=>k<|jpc 1 rfl<|jsg 55 rfl (jpc 16 rfl<|jpe (vb true)<|jpe (vb true)<|joe<|jnn (gv (fun _ k=>k) [0] ⟨⟩))<|jpc 2 rfl<|jfa 0 rfl<|
  jlo 0 rfl rfl rfl<|jpc 1 rfl<|jbd fun x3 h3=>jv (fun h=>r_sidx h rfl rfl Tryz.underlying9 h3)<|jpc 2 rfl<|jsg 63 rfl (jpc 2 rfl<|jfa 0 rfl<|jlo 0 rfl rfl rfl<|jpc 1 rfl<|jbd fun x4 h4=>jv (fun h=>r_sidx h rfl rfl Tryz.underlying9 h4)<|
  jpc 1 rfl<|jpe (vb (decide (x4 ≤ 90)))<|jpe (vb (decide (x4 ≤ 90)))<|jpe (vb (decide (x4 ≤ 90)))<|joe<|jnn (gv (fun _ k=>k) [0] ⟨⟩))<|jpc 7 rfl<|jpe (vb false)<|jpe (vb false)<|jpe (vb false)<|joe<|jnn (gv (fun _ k=>k) [0] ⟨⟩))<|
  jpc 25 rfl<|jpe (vb false)<|joe<|jnn (gv (fun _ k=>k) [0] ⟨⟩))<|fun s6 _ k=>k<|jif rfl (jsk<|jtn<|jbk<|jrg<|jpc 3 rfl<|joe<|jbn<|jln (gv (fun _ k=>k) [0] ⟨⟩))<|jxe<|jte<|jle<|jbh<|jnn (gv (fun _ k=>k) [0] ⟨⟩))<|fun s4 _ k=>k<|jsq<|jsr<|
  jpc 3 rfl<|jot<|jif rfl (jsr<|jpc 2 rfl<|jfa 0 rfl<|jlo 0 rfl rfl rfl<|jpc 2 rfl<|jbd fun x5 h5=>jv (fun h=>r_ssub h rfl Tryz.underlying9 rfl rfl (.inr ⟨_, rfl⟩) (.inr ⟨_, rfl⟩) h5)<|jpc 1 rfl<|jot<|jsq<|
  jjn (fun s7 K=>K [(4, vi s1), (6, vs x5), (95, vb s7)] [bx b1 82 [vs y0.1, vi y0.2.1, vi y0.2.2]] []) (jrg<|jpc 3 rfl<|jsg 88 rfl (jpc 2 rfl<|jpe (vb true)<|jpc 3 rfl<|jpe (vb true)<|joe<|jnn (gv (fun _ k=>k) [0] ⟨⟩))<|jpc 2 rfl<|
  jpe (vb (x5 == [49]))<|jpc 1 rfl<|jsg 92 rfl (jpc 2 rfl<|jpe (vb true)<|joe<|jnn (gv (fun _ k=>k) [0] ⟨⟩))<|jpc 1 rfl<|jcl c_ref01_ValidName rfl ⟨⟩<|fun r2 _ k=>k<|jpe (vb r2)<|joe<|jnn (gv (fun _ k=>k) [0] ⟨⟩))<|fun s7 _ k=>k<|jif rfl (
  jsr<|jpc 4 rfl<|jot<|jxr<|jtr<|jtr<|jrg' rfl (lT rfl (lT rfl lN)) (fun _ k=>k) [0] ⟨⟩)<|jsk<|jtn<|jsr<|jpc 3 rfl<|jot<|jxr<|jtr<|jrg' rfl (lT rfl (lT rfl lN)) (fun _ k=>k) [0] ⟨⟩)<|jsk<|jtn<|jsq<|jsr<|
  jbs .s (e := eStr) 9 [vs [126], vs [38], vs [124], vs [45, 62], vs [60, 45, 62], vs [40], vs [41]] ([[126], [38], [124], [45, 62], [60, 45, 62], [40], [41]] : List Str) (rC vS (rC vS (rC vS (rC vS (rC vS (rC vS (rC vS rN)))))))<|fun p1 c1=>
  jpc 2 rfl<|jot<|jbk<|
  jlp (fun s8 K=>K [(0, pt b1 0), (4, vi s1), (99, sv p1 ([[126], [38], [124], [45, 62], [60, 45, 62], [40], [41]] : List Str) c1), (100, vi (len ([[126], [38], [124], [45, 62], [60, 45, 62], [40], [41]] : List Str))), (101, vi s8)] [bx b1 82 [vs y0.1, vi y0.2.1, vi y0.2.2]] [Rl eStr p1 c1 ([[126], [38], [124], [45, 62], [60, 45, 62], [40], [41]] : List Str)]) (gv (fun _ k=>k) [0] ⟨gk 0,⟨⟩⟩)<|
  fun s8 _ k=>k<|jsr<|jpc 1 rfl<|jot<|jsq<|jif rfl (jsk<|jtn<|jsq<|jbk<|jsr<|jix 0 rfl rfl rfl<|fun x6 b2 o1=>jld false oS (gk 0) rfl<|jpc 1 rfl<|jot<|
  jjn (fun s9 K=>K [(0, pt b1 0), (4, vi s1), (8, vs x6), (99, sv p1 ([[126], [38], [124], [45, 62], [60, 45, 62], [40], [41]] : List Str) c1), (100, vi (len ([[126], [38], [124], [45, 62], [60, 45, 62], [40], [41]] : List Str))), (101, vi s8), (128, vb s9)] [bx b1 82 [vs y0.1, vi y0.2.1, vi y0.2.2]] [Rl eStr p1 c1 ([[126], [38], [124], [45, 62], [60, 45, 62], [40], [41]] : List Str)]) (
  jrg<|jpc 2 rfl<|jfa 0 rfl<|jlo 0 rfl rfl rfl<|jpc 7 rfl<|jsg 115 rfl (jpc 2 rfl<|jfa 0 rfl<|jlo 0 rfl rfl rfl<|jpc 5 rfl<|jbd fun x7 h6=>jv (fun h=>r_ssub h rfl Tryz.underlying9 rfl rfl (.inr ⟨_, rfl⟩) (.inr ⟨_, rfl⟩) h6)<|jpc 2 rfl<|
  jpe (vb (x7 == x6))<|joe<|jnn (gv (fun _ k=>k) [0] ⟨gk 1,⟨⟩⟩))<|jpc 12 rfl<|jpe (vb false)<|joe<|jnn (gv (fun _ k=>k) [0] ⟨gk 1,⟨⟩⟩))<|fun s9 _ k=>k<|jif rfl (jsr<|jpc 4 rfl<|jot<|jxr<|jbr<|jtr<|jlr<|jbr<|jtr<|
  jrg' rfl (lT rfl (lT rfl lN)) (fun _ k=>k) [0] ⟨⟩)<|jsk<|jbn<|jtn<|jrg<|jpc 2 rfl<|joe<|jln (gv (fun _ k=>k) [0] ⟨gk 0,⟨⟩⟩))<|jxe<|jte<|jle<|jbh<|jtn<|jsr<|jpc 3 rfl<|jot<|jxr<|jrg' rfl (lT rfl (lT rfl lN)) (fun _ k=>k) [0] ⟨⟩

theorem c_ref02_reader_fail {qd : Prop} {y0 : T_ref02_reader} : Con qd Tryz.prog 38 [pt b1 0] [bx b1 82 [vs y0.1, vi y0.2.1, vi y0.2.2]] [] (m_ref02_reader_fail y0) fun r K=>∀ p1 c1,K (.agg #[vi ((fv r.1).1), vs ((fv r.1).2.1), sv p1 ((fv r.1).2.2) c1]) [bx b1 82 [vs y0.1, vi y0.2.1, vi r.2]] [Rl e_Formula p1 c1 ((fv r.1).2.2)] :=
 ent3 Tryz.call38 Tryz.func38 rfl fun X=>jsr<|jal .s (.agg #[vi 0, vs [], .slice none 0 0])<|fun b2=>jot<|jjn (fun s1 K=>K [(2, pt b2 0)] [bx b1 82 [vs y0.1, vi y0.2.1, vi s1], bx b2 37 [vi 0, vs [], .slice none 0 0]] []) (jsr<|jpc 2 rfl<|jfa 2 rfl<|jlo 0 rfl rfl rfl<|jpc 1 rfl<|
  jot<|jif rfl (jrg<|jpc 2 rfl<|jca .s [0] [] c_ref02_reader_token rfl rfl rfl ⟨⟩<|fun r1 _ k=>k<|jpc 4 rfl<|jfa 2 rfl<|jso .s 0 rfl rfl rfl<|joe<|jnn (gv (fun _ k=>k) [0,1] ⟨⟩))<|jsk<|jnn (gv (fun _ k=>k) [0,1] ⟨⟩))<|fun s1 _ k=>k<|jsr<|
  jpe (.agg #[vi 0, vs [], .slice none 0 0])<|jso .s 1 rfl rfl rfl<|jot<|jxr<|jrg' rfl (lC 1 (.agg #[vi 0, vs [], .slice none 0 0]) rfl rfl lN) (fun _ k=>k none 0) [0] ⟨gn,⟨⟩⟩

theorem c_ref02_reader_take {qd : Prop} {y0 : T_ref02_reader} {y1 : Str} : Con qd Tryz.prog 78 [pt b1 0, vs y1] [bx b1 82 [vs y0.1, vi y0.2.1, vi y0.2.2]] [] (m_ref02_reader_take y0 y1) fun r K=>K (vb r.1) [bx b1 82 [vs y0.1, vi r.2, vi y0.2.2]] [] :=
 ent3 Tryz.call78 Tryz.func78 rfl fun X=>jsr<|jpc 1 rfl<|jot<|jsr<|jpc 1 rfl<|jca .s [0] [] c_ref02_reader_token rfl rfl rfl ⟨⟩<|fun r1 _ k=>k<|jpc 5 rfl<|jot<|jsq<|
  jjp (fun K=>K [(0, pt b1 0), (1, vs y1), (6, vi r1.2), (21, vb ((!(r1.1 == y1)) || (decide (0 ≤ y0.2.2))))] [bx b1 82 [vs y0.1, vi y0.2.1, vi y0.2.2]] []) (jrg<|jpc 4 rfl<|jsp (b := !(r1.1 == y1)) 15 rfl (fun hb1=>jpc 5 rfl<|jpe (vb true)<|
  joe<|jup 21 (vb ((!(r1.1 == y1)) || (decide (0 ≤ y0.2.2)))) rfl (by rw [hb1]; rfl)<|jnn (gv (fun _ k=>k) [0] ⟨⟩))<|fun hb1=>jpc 2 rfl<|jfa 2 rfl<|jlo 0 rfl rfl rfl<|jpc 1 rfl<|jpe (vb (decide (0 ≤ y0.2.2)))<|joe<|
  jup 21 (vb ((!(r1.1 == y1)) || (decide (0 ≤ y0.2.2)))) rfl (by rw [hb1]; rfl)<|jnn (gv (fun _ k=>k) [0] ⟨⟩))<|fun _ k=>k<|jif rfl (jsr<|jpc 1 rfl<|jot<|jxr<|jtr<|jr1 rfl rfl (fun _ k=>k) [0] ⟨⟩)<|jsk<|jtn<|jsr<|jpc 6 rfl<|jfa 1 rfl<|
  jso .s 0 rfl rfl rfl<|jot<|jsr<|jpc 1 rfl<|jot<|jxr<|jr1 rfl rfl (fun _ k=>k) [0] ⟨⟩

theorem k_ref02_reader_and_all {qd : Prop} (k : Nat) :
    (∀ {y0 : T_ref02_reader} {b1 : Nat}, Con qd Tryz.prog 147 [pt b1 0] [bx b1 82 [vs y0.1, vi y0.2.1, vi y0.2.2]] [] (k_ref02_reader_and k y0) fun r K=>∀ p1 c1,K (.agg #[vi ((fv r.1).1), vs ((fv r.1).2.1), sv p1 ((fv r.1).2.2) c1]) [bx b1 82 [vs y0.1, vi r.2.1, vi r.2.2]] [Rl e_Formula p1 c1 ((fv r.1).2.2)]) ∧
    (∀ {y0 : T_ref02_reader} {b1 : Nat}, Con qd Tryz.prog 36 [pt b1 0] [bx b1 82 [vs y0.1, vi y0.2.1, vi y0.2.2]] [] (k_ref02_reader_iff k y0) fun r K=>∀ p1 c1,K (.agg #[vi ((fv r.1).1), vs ((fv r.1).2.1), sv p1 ((fv r.1).2.2) c1]) [bx b1 82 [vs y0.1, vi r.2.1, vi r.2.2]] [Rl e_Formula p1 c1 ((fv r.1).2.2)]) ∧
    (∀ {y0 : T_ref02_reader} {b1 : Nat}, Con qd Tryz.prog 77 [pt b1 0] [bx b1 82 [vs y0.1, vi y0.2.1, vi y0.2.2]] [] (k_ref02_reader_implies k y0) fun r K=>∀ p1 c1,K (.agg #[vi ((fv r.1).1), vs ((fv r.1).2.1), sv p1 ((fv r.1).2.2) c1]) [bx b1 82 [vs y0.1, vi r.2.1, vi r.2.2]] [Rl e_Formula p1 c1 ((fv r.1).2.2)]) ∧
    (∀ {y0 : T_ref02_reader} {b1 : Nat}, Con qd Tryz.prog 130 [pt b1 0] [bx b1 82 [vs y0.1, vi y0.2.1, vi y0.2.2]] [] (k_ref02_reader_or k y0) fun r K=>∀ p1 c1,K (.agg #[vi ((fv r.1).1), vs ((fv r.1).2.1), sv p1 ((fv r.1).2.2) c1]) [bx b1 82 [vs y0.1, vi r.2.1, vi r.2.2]] [Rl e_Formula p1 c1 ((fv r.1).2.2)]) ∧
    (∀ {y0 : T_ref02_reader} {b1 : Nat}, Con qd Tryz.prog 157 [pt b1 0] [bx b1 82 [vs y0.1, vi y0.2.1, vi y0.2.2]] [] (k_ref02_reader_unary k y0) fun r K=>∀ p1 c1,K (.agg #[vi ((fv r.1).1), vs ((fv r.1).2.1), sv p1 ((fv r.1).2.2) c1]) [bx b1 82 [vs y0.1, vi r.2.1, vi r.2.2]] [Rl e_Formula p1 c1 ((fv r.1).2.2)]) := by
  induction k with
  | zero => exact ⟨con0 Tryz.call147, con0 Tryz.call36, con0 Tryz.call77, con0 Tryz.call130, con0 Tryz.call157⟩
  | succ k ih =>
    obtain ⟨ih_ref02_reader_and, ih_ref02_reader_iff, ih_ref02_reader_implies, ih_ref02_reader_or, ih_ref02_reader_unary⟩ := ih
    exact ⟨@fun y0 b1=>ent3 (m1 := F_ref02_reader_and (k_ref02_reader_and k) (k_ref02_reader_iff k) (k_ref02_reader_implies k) (k_ref02_reader_or k) (k_ref02_reader_unary k) y0) Tryz.call147 Tryz.func147 rfl fun X=>jsr<|jal .s (.agg #[vi 0, vs [], .slice none 0 0])<|fun b2=>jot<|jsr<|jpc 1 rfl<|jca .s [0] [] ih_ref02_reader_unary rfl rfl rfl ⟨⟩<|fun r1 _ k p1 c1=>k<|
  jbo .s (e := e_Formula) 37 [vi ((fv r1.1).1), vs ((fv r1.1).2.1), sv p1 ((fv r1.1).2.2) c1] ([r1.1] : List T_Formula) (rC (vF (vP vI (vP vS (vL (gk 0))))) rN)<|fun r_1 p2 c2=>jpc 1 rfl<|jot<|
  jjn (fun s1 K=>∀ p3 c3 r_2,K [(2, pt b2 0), (3, sv p3 s1.1 c3)] [bx b1 82 [vs y0.1, vi s1.2.1, vi s1.2.2], bx b2 37 [vi 0, vs [], .slice none 0 0], r_2] [Al e_Formula 37 r_2 p3 c3 s1.1]) (jbk<|
  jlp (fun s2 K=>∀ p4 c4 r_3,K [(0, pt b1 0), (2, pt b2 0), (3, sv p4 s2.1 c4)] [bx b1 82 [vs y0.1, vi s2.2.1, vi s2.2.2], bx b2 37 [vi 0, vs [], .slice none 0 0], r_3] [Al e_Formula 37 r_3 p4 c4 s2.1]) (gv (fun _ k=>k p2 c2 r_1) [0,1,2] ⟨gk 0,⟨⟩⟩)<|
  fun s2 _ k p4 c4 r_3=>k<|jsq<|jsr<|jpc 1 rfl<|jca .s [0] [] c_ref02_reader_take rfl rfl rfl ⟨⟩<|fun r2 _ k=>k<|jot<|jif rfl (jsk<|jtn<|jbk<|jrg<|jpc 2 rfl<|jca .s [0] [] ih_ref02_reader_unary rfl rfl rfl ⟨⟩<|fun r3 _ k p5 c5=>k<|
  jbs .s (e := e_Formula) 37 [vi ((fv r3.1).1), vs ((fv r3.1).2.1), sv p5 ((fv r3.1).2.2) c5] ([r3.1] : List T_Formula) (rC (vF (vP vI (vP vS (vL (gk 0))))) rN)<|fun p6 c6=>jar .s 2 2 rfl (gk 0) rfl rfl<|fun x1 r_4 p7 c7=>jpc 1 rfl<|joe<|
  jbn<|jln (gv (fun _ k=>k p7 c7 r_4) [0,1,2] ⟨gk 0,⟨⟩⟩))<|jxe<|jte<|jle<|jbh<|jnn (gv (fun _ k=>k p4 c4 r_3) [0,1,2] ⟨gk 0,⟨⟩⟩))<|fun s1 _ k p3 c3 r_2=>k<|jsq<|jsr<|jpc 3 rfl<|jot<|jif rfl (jsr<|jpc 1 rfl<|jia 0 rfl rfl rfl<|
  fun x2 h2 b3 hp1=>jlA 2 0 sI true o_Formula rfl hp1 h2 rfl<|fun p8 c8=>jso .s 1 rfl rfl rfl<|jot<|jxr<|jtr<|jrg' rfl (lC 1 (.agg #[vi ((fv x2).1), vs ((fv x2).2.1), sv p8 ((fv x2).2.2) c8]) rfl rfl lN) (fun _ k=>k p8 c8) [0] ⟨gk 0,⟨⟩⟩)<|
  jsk<|jtn<|jsr<|jpc 1 rfl<|jpe (.agg #[vi 5, vs [], sv p3 s1.1 c3])<|jso .s 1 rfl rfl rfl<|jot<|jxr<|jsh 2 0 rfl rfl<|jrg' rfl (lC 1 (.agg #[vi 5, vs [], sv p3 s1.1 c3]) rfl rfl lN) (fun _ k=>k p3 c3) [0] ⟨gk 0,⟨⟩⟩,
    @fun y0 b1=>ent3 (m1 := F_ref02_reader_iff (k_ref02_reader_and k) (k_ref02_reader_iff k) (k_ref02_reader_implies k) (k_ref02_reader_or k) (k_ref02_reader_unary k) y0) Tryz.call36 Tryz.func36 rfl fun X=>jsr<|jal .s (.agg #[vi 0, vs [], .slice none 0 0])<|fun b2=>jot<|jsr<|jpc 1 rfl<|jca .s [0] [] ih_ref02_reader_implies rfl rfl rfl ⟨⟩<|fun r1 _ k p1 c1=>k<|jal .s (.agg #[vi 0, vs [], .slice none 0 0])<|fun b3=>jso .s 2 rfl rfl rfl<|jot<|
  jsq<|jsr<|jpc 1 rfl<|jca .s [0] [] c_ref02_reader_take rfl rfl rfl ⟨⟩<|fun r2 _ k=>k<|jot<|jif rfl (jds [] [2] 6<|jda 0 2 3 rfl rfl rfl rfl<|jdc 4 [1] rfl<|jd1 2<|jca (.f rfl) [0] [] ih_ref02_reader_implies rfl rfl rfl ⟨⟩<|
  fun r3 _ k p2 c2=>k<|jdn<|jd1 3<|
  jbs (.f rfl) (e := e_Formula) 37 [vi ((fv r1.1).1), vs ((fv r1.1).2.1), sv p1 ((fv r1.1).2.2) c1, vi ((fv r3.1).1), vs ((fv r3.1).2.1), sv p2 ((fv r3.1).2.2) c2] ([r1.1, r3.1] : List T_Formula) (rC (vF (vP vI (vP vS (vL (gk 1))))) (rC (vF (vP vI (vP vS (vL (gk 0))))) rN))<|
  fun p3 c3=>jdn<|jdp 4 (.agg #[vi 8, vs [], sv p3 ([r1.1, r3.1] : List T_Formula) c3]) rfl<|jd1 5<|jso (o := 0) (.f rfl) 1 rfl rfl rfl<|jdn<|jde<|jtn<|jxr<|jtr<|
  jrg' rfl (lC 1 (.agg #[vi 8, vs [], sv p3 ([r1.1, r3.1] : List T_Formula) c3]) rfl rfl lN) (fun _ k=>k p3 c3) [0] ⟨gk 0,⟨⟩⟩)<|jsk<|jtn<|jsr<|jla 2 3 rfl rfl rfl<|jso .s 1 rfl rfl rfl<|jot<|jxr<|
  jrg' rfl (lC 1 (.agg #[vi ((fv r1.1).1), vs ((fv r1.1).2.1), sv p1 ((fv r1.1).2.2) c1]) rfl rfl lN) (fun _ k=>k p1 c1) [0] ⟨gk 0,⟨⟩⟩,
    @fun y0 b1=>ent3 (m1 := F_ref02_reader_implies (k_ref02_reader_and k) (k_ref02_reader_iff k) (k_ref02_reader_implies k) (k_ref02_reader_or k) (k_ref02_reader_unary k) y0) Tryz.call77 Tryz.func77 rfl fun X=>jsr<|jal .s (.agg #[vi 0, vs [], .slice none 0 0])<|fun b2=>jot<|jsr<|jpc 1 rfl<|jca .s [0] [] ih_ref02_reader_or rfl rfl rfl ⟨⟩<|fun r1 _ k p1 c1=>k<|jal .s (.agg #[vi 0, vs [], .slice none 0 0])<|fun b3=>jso .s 2 rfl rfl rfl<|jot<|jsq<|
  jsr<|jpc 1 rfl<|jca .s [0] [] c_ref02_reader_take rfl rfl rfl ⟨⟩<|fun r2 _ k=>k<|jot<|jif rfl (jds [] [2] 6<|jda 0 2 3 rfl rfl rfl rfl<|jdc 4 [1] rfl<|jd1 2<|jca (.f rfl) [0] [] ih_ref02_reader_implies rfl rfl rfl ⟨⟩<|fun r3 _ k p2 c2=>k<|
  jdn<|jd1 3<|
  jbs (.f rfl) (e := e_Formula) 37 [vi ((fv r1.1).1), vs ((fv r1.1).2.1), sv p1 ((fv r1.1).2.2) c1, vi ((fv r3.1).1), vs ((fv r3.1).2.1), sv p2 ((fv r3.1).2.2) c2] ([r1.1, r3.1] : List T_Formula) (rC (vF (vP vI (vP vS (vL (gk 1))))) (rC (vF (vP vI (vP vS (vL (gk 0))))) rN))<|
  fun p3 c3=>jdn<|jdp 4 (.agg #[vi 7, vs [], sv p3 ([r1.1, r3.1] : List T_Formula) c3]) rfl<|jd1 5<|jso (o := 0) (.f rfl) 1 rfl rfl rfl<|jdn<|jde<|jtn<|jxr<|jtr<|
  jrg' rfl (lC 1 (.agg #[vi 7, vs [], sv p3 ([r1.1, r3.1] : List T_Formula) c3]) rfl rfl lN) (fun _ k=>k p3 c3) [0] ⟨gk 0,⟨⟩⟩)<|jsk<|jtn<|jsr<|jla 2 3 rfl rfl rfl<|jso .s 1 rfl rfl rfl<|jot<|jxr<|
  jrg' rfl (lC 1 (.agg #[vi ((fv r1.1).1), vs ((fv r1.1).2.1), sv p1 ((fv r1.1).2.2) c1]) rfl rfl lN) (fun _ k=>k p1 c1) [0] ⟨gk 0,⟨⟩⟩,
    @fun y0 b1=>ent3 (m1 := F_ref02_reader_or (k_ref02_reader_and k) (k_ref02_reader_iff k) (k_ref02_reader_implies k) (k_ref02_reader_or k) (k_ref02_reader_unary k) y0) Tryz.call130 Tryz.func130 rfl fun X=>jsr<|jal .s (.agg #[vi 0, vs [], .slice none 0 0])<|fun b2=>jot<|jsr<|jpc 1 rfl<|jca .s [0] [] ih_ref02_reader_and rfl rfl rfl ⟨⟩<|fun r1 _ k p1 c1=>k<|
  jbo .s (e := e_Formula) 37 [vi ((fv r1.1).1), vs ((fv r1.1).2.1), sv p1 ((fv r1.1).2.2) c1] ([r1.1] : List T_Formula) (rC (vF (vP vI (vP vS (vL (gk 0))))) rN)<|fun r_1 p2 c2=>jpc 1 rfl<|jot<|
  jjn (fun s1 K=>∀ p3 c3 r_2,K [(2, pt b2 0), (3, sv p3 s1.1 c3)] [bx b1 82 [vs y0.1, vi s1.2.1, vi s1.2.2], bx b2 37 [vi 0, vs [], .slice none 0 0], r_2] [Al e_Formula 37 r_2 p3 c3 s1.1]) (jbk<|
  jlp (fun s2 K=>∀ p4 c4 r_3,K [(0, pt b1 0), (2, pt b2 0), (3, sv p4 s2.1 c4)] [bx b1 82 [vs y0.1, vi s2.2.1, vi s2.2.2], bx b2 37 [vi 0, vs [], .slice none 0 0], r_3] [Al e_Formula 37 r_3 p4 c4 s2.1]) (gv (fun _ k=>k p2 c2 r_1) [0,1,2] ⟨gk 0,⟨⟩⟩)<|
  fun s2 _ k p4 c4 r_3=>k<|jsq<|jsr<|jpc 1 rfl<|jca .s [0] [] c_ref02_reader_take rfl rfl rfl ⟨⟩<|fun r2 _ k=>k<|jot<|jif rfl (jsk<|jtn<|jbk<|jrg<|jpc 2 rfl<|jca .s [0] [] ih_ref02_reader_and rfl rfl rfl ⟨⟩<|fun r3 _ k p5 c5=>k<|
  jbs .s (e := e_Formula) 37 [vi ((fv r3.1).1), vs ((fv r3.1).2.1), sv p5 ((fv r3.1).2.2) c5] ([r3.1] : List T_Formula) (rC (vF (vP vI (vP vS (vL (gk 0))))) rN)<|fun p6 c6=>jar .s 2 2 rfl (gk 0) rfl rfl<|fun x1 r_4 p7 c7=>jpc 1 rfl<|joe<|
  jbn<|jln (gv (fun _ k=>k p7 c7 r_4) [0,1,2] ⟨gk 0,⟨⟩⟩))<|jxe<|jte<|jle<|jbh<|jnn (gv (fun _ k=>k p4 c4 r_3) [0,1,2] ⟨gk 0,⟨⟩⟩))<|fun s1 _ k p3 c3 r_2=>k<|jsq<|jsr<|jpc 3 rfl<|jot<|jif rfl (jsr<|jpc 1 rfl<|jia 0 rfl rfl rfl<|
  fun x2 h2 b3 hp1=>jlA 2 0 sI true o_Formula rfl hp1 h2 rfl<|fun p8 c8=>jso .s 1 rfl rfl rfl<|jot<|jxr<|jtr<|jrg' rfl (lC 1 (.agg #[vi ((fv x2).1), vs ((fv x2).2.1), sv p8 ((fv x2).2.2) c8]) rfl rfl lN) (fun _ k=>k p8 c8) [0] ⟨gk 0,⟨⟩⟩)<|
  jsk<|jtn<|jsr<|jpc 1 rfl<|jpe (.agg #[vi 6, vs [], sv p3 s1.1 c3])<|jso .s 1 rfl rfl rfl<|jot<|jxr<|jsh 2 0 rfl rfl<|jrg' rfl (lC 1 (.agg #[vi 6, vs [], sv p3 s1.1 c3]) rfl rfl lN) (fun _ k=>k p3 c3) [0] ⟨gk 0,⟨⟩⟩,
    @fun y0 b1=>ent3 (m1 := F_ref02_reader_unary (k_ref02_reader_and k) (k_ref02_reader_iff k) (k_ref02_reader_implies k) (k_ref02_reader_or k) (k_ref02_reader_unary k) y0) Tryz.call157 Tryz.func157 rfl fun X=>jsr<|jal .s (.agg #[vi 0, vs [], .slice none 0 0])<|fun b2=>jot<|jsq<|jsr<|jpc 1 rfl<|jca .s [0] [] c_ref02_reader_take rfl rfl rfl ⟨⟩<|fun r1 _ k=>k<|jot<|jif rfl (jsr<|jpc 1 rfl<|jca .s [0] [] ih_ref02_reader_unary rfl rfl rfl ⟨⟩<|
  fun r2 _ k p1 c1=>k<|jbs .s (e := e_Formula) 37 [vi ((fv r2.1).1), vs ((fv r2.1).2.1), sv p1 ((fv r2.1).2.2) c1] ([r2.1] : List T_Formula) (rC (vF (vP vI (vP vS (vL (gk 0))))) rN)<|fun p2 c2=>
  jpe (.agg #[vi 4, vs [], sv p2 ([r2.1] : List T_Formula) c2])<|jso .s 1 rfl rfl rfl<|jot<|jxr<|jtr<|jrg' rfl (lC 1 (.agg #[vi 4, vs [], sv p2 ([r2.1] : List T_Formula) c2]) rfl rfl lN) (fun _ k=>k p2 c2) [0] ⟨gk 0,⟨⟩⟩)<|jsk<|jtn<|jsq<|jsr<|
  jpc 1 rfl<|jca .s [0] [] c_ref02_reader_take rfl rfl rfl ⟨⟩<|fun r3 _ k=>k<|jot<|jif rfl (jsr<|jpc 1 rfl<|jca .s [0] [] ih_ref02_reader_iff rfl rfl rfl ⟨⟩<|fun r4 _ k p3 c3=>k<|jal .s (.agg #[vi 0, vs [], .slice none 0 0])<|fun b3=>
  jso .s 2 rfl rfl rfl<|jot<|jsq<|
  jjn (fun s1 K=>K [(0, pt b1 0), (2, pt b2 0), (3, pt b3 0), (25, vb s1.1)] [bx b1 82 [vs y0.1, vi s1.2, vi r4.2.2], bx b2 37 [vi 0, vs [], .slice none 0 0], bx b3 37 [vi ((fv r4.1).1), vs ((fv r4.1).2.1), sv p3 ((fv r4.1).2.2) c3]] [Rl e_Formula p3 c3 ((fv r4.1).2.2)]) (
  jrg<|jpc 2 rfl<|jfa 2 rfl<|jlo 0 rfl rfl rfl<|jpc 2 rfl<|jsg 21 rfl (jpc 1 rfl<|jca .s [0] [] c_ref02_reader_take rfl rfl rfl ⟨⟩<|fun r5 _ k=>k<|jpc 1 rfl<|jpe (vb (!r5.1))<|joe<|jnn (gv (fun _ k=>k) [0,1,2] ⟨gk 0,⟨⟩⟩))<|jpc 3 rfl<|
  jpe (vb false)<|joe<|jnn (gv (fun _ k=>k) [0,1,2] ⟨gk 0,⟨⟩⟩))<|fun s1 _ k=>k<|jif rfl (jsr<|jpc 1 rfl<|jca .s [0] [] c_ref02_reader_fail rfl rfl rfl ⟨⟩<|fun r6 _ k p4 c4=>k<|jso .s 1 rfl rfl rfl<|jot<|jxr<|jtr<|jtr<|
  jrg' rfl (lC 1 (.agg #[vi ((fv r6.1).1), vs ((fv r6.1).2.1), sv p4 ((fv r6.1).2.2) c4]) rfl rfl lN) (fun _ k=>k p4 c4) [0] ⟨gk 0,⟨⟩⟩)<|jsk<|jtn<|jsr<|jla 2 3 rfl rfl rfl<|jso .s 1 rfl rfl rfl<|jot<|jxr<|jtr<|
  jrg' rfl (lC 1 (.agg #[vi ((fv r4.1).1), vs ((fv r4.1).2.1), sv p3 ((fv r4.1).2.2) c3]) rfl rfl lN) (fun _ k=>k p3 c3) [0] ⟨gk 0,⟨⟩⟩)<|jsk<|jtn<|jsr<|jpc 1 rfl<|jca .s [0] [] c_ref02_reader_token rfl rfl rfl ⟨⟩<|fun r7 _ k=>k<|jpc 5 rfl<|
  jot<|jsq<|jjn (fun s2 K=>K [(0, pt b1 0), (2, pt b2 0), (4, vs r7.1), (5, vi r7.2), (48, vb s2)] [bx b1 82 [vs y0.1, vi r3.2, vi y0.2.2], bx b2 37 [vi 0, vs [], .slice none 0 0]] []) (jrg<|jpc 3 rfl<|jsg 36 rfl (jpc 4 rfl<|jpe (vb true)<|
  jpc 6 rfl<|jpe (vb true)<|joe<|jnn (gv (fun _ k=>k) [0,1] ⟨⟩))<|jpc 1 rfl<|jbd fun x1 h1=>jv (fun h=>r_sidx h rfl rfl Tryz.underlying9 h1)<|jcl c_ref02_word rfl ⟨⟩<|fun r8 _ k=>k<|jpc 1 rfl<|jpe (vb (!r8))<|jpc 1 rfl<|jsg 42 rfl (
  jpc 5 rfl<|jpe (vb true)<|joe<|jnn (gv (fun _ k=>k) [0,1] ⟨⟩))<|jpc 2 rfl<|jfa 2 rfl<|jlo 0 rfl rfl rfl<|jpc 1 rfl<|jpe (vb (decide (0 ≤ y0.2.2)))<|joe<|jnn (gv (fun _ k=>k) [0,1] ⟨⟩))<|fun s2 _ k=>k<|jif rfl (jsr<|jpc 1 rfl<|
  jca .s [0] [] c_ref02_reader_fail rfl rfl rfl ⟨⟩<|fun r9 _ k p5 c5=>k<|jso .s 1 rfl rfl rfl<|jot<|jxr<|jtr<|jrg' rfl (lC 1 (.agg #[vi ((fv r9.1).1), vs ((fv r9.1).2.1), sv p5 ((fv r9.1).2.2) c5]) rfl rfl lN) (fun _ k=>k p5 c5) [0] ⟨gk 0,⟨⟩⟩
  )<|jsk<|jtn<|jsr<|jpc 6 rfl<|jfa 1 rfl<|jso .s 0 rfl rfl rfl<|jot<|jsq<|jsr<|jpc 1 rfl<|jot<|jbk<|jsr<|jpc 2 rfl<|jot<|jif rfl (jsr<|jpe (.agg #[vi 1, vs [], .slice none 0 0])<|jso .s 1 rfl rfl rfl<|jot<|jxr<|jbr<|jtr<|
  jrg' rfl (lC 1 (.agg #[vi 1, vs [], .slice none 0 0]) rfl rfl lN) (fun _ k=>k none 0) [0] ⟨gn,⟨⟩⟩)<|jsr<|jpc 2 rfl<|jot<|jif rfl (jsr<|jpe (.agg #[vi 2, vs [], .slice none 0 0])<|jso .s 1 rfl rfl rfl<|jot<|jxr<|jbr<|jtr<|
  jrg' rfl (lC 1 (.agg #[vi 2, vs [], .slice none 0 0]) rfl rfl lN) (fun _ k=>k none 0) [0] ⟨gn,⟨⟩⟩)<|jsk<|jbn<|jtn<|jsr<|jpc 1 rfl<|jpe (.agg #[vi 3, vs r7.1, .slice none 0 0])<|jso .s 1 rfl rfl rfl<|jot<|jxr<|
  jrg' rfl (lC 1 (.agg #[vi 3, vs r7.1, .slice none 0 0]) rfl rfl lN) (fun _ k=>k none 0) [0] ⟨gn,⟨⟩⟩⟩

theorem c_ref02_reader_and {qd : Prop} {y0 : T_ref02_reader} : Con qd Tryz.prog 147 [pt b1 0] [bx b1 82 [vs y0.1, vi y0.2.1, vi y0.2.2]] [] (m_ref02_reader_and y0) fun r K=>∀ p1 c1,K (.agg #[vi ((fv r.1).1), vs ((fv r.1).2.1), sv p1 ((fv r.1).2.2) c1]) [bx b1 82 [vs y0.1, vi r.2.1, vi r.2.2]] [Rl e_Formula p1 c1 ((fv r.1).2.2)] := conLim fun k => (k_ref02_reader_and_all k).1

theorem c_ref02_reader_iff {qd : Prop} {y0 : T_ref02_reader} : Con qd Tryz.prog 36 [pt b1 0] [bx b1 82 [vs y0.1, vi y0.2.1, vi y0.2.2]] [] (m_ref02_reader_iff y0) fun r K=>∀ p1 c1,K (.agg #[vi ((fv r.1).1), vs ((fv r.1).2.1), sv p1 ((fv r.1).2.2) c1]) [bx b1 82 [vs y0.1, vi r.2.1, vi r.2.2]] [Rl e_Formula p1 c1 ((fv r.1).2.2)] := conLim fun k => (k_ref02_reader_and_all k).2.1

theorem c_ref02_reader_implies {qd : Prop} {y0 : T_ref02_reader} : Con qd Tryz.prog 77 [pt b1 0] [bx b1 82 [vs y0.1, vi y0.2.1, vi y0.2.2]] [] (m_ref02_reader_implies y0) fun r K=>∀ p1 c1,K (.agg #[vi ((fv r.1).1), vs ((fv r.1).2.1), sv p1 ((fv r.1).2.2) c1]) [bx b1 82 [vs y0.1, vi r.2.1, vi r.2.2]] [Rl e_Formula p1 c1 ((fv r.1).2.2)] := conLim fun k => (k_ref02_reader_and_all k).2.2.1

theorem c_ref02_reader_or {qd : Prop} {y0 : T_ref02_reader} : Con qd Tryz.prog 130 [pt b1 0] [bx b1 82 [vs y0.1, vi y0.2.1, vi y0.2.2]] [] (m_ref02_reader_or y0) fun r K=>∀ p1 c1,K (.agg #[vi ((fv r.1).1), vs ((fv r.1).2.1), sv p1 ((fv r.1).2.2) c1]) [bx b1 82 [vs y0.1, vi r.2.1, vi r.2.2]] [Rl e_Formula p1 c1 ((fv r.1).2.2)] := conLim fun k => (k_ref02_reader_and_all k).2.2.2.1

theorem c_ref02_reader_unary {qd : Prop} {y0 : T_ref02_reader} : Con qd Tryz.prog 157 [pt b1 0] [bx b1 82 [vs y0.1, vi y0.2.1, vi y0.2.2]] [] (m_ref02_reader_unary y0) fun r K=>∀ p1 c1,K (.agg #[vi ((fv r.1).1), vs ((fv r.1).2.1), sv p1 ((fv r.1).2.2) c1]) [bx b1 82 [vs y0.1, vi r.2.1, vi r.2.2]] [Rl e_Formula p1 c1 ((fv r.1).2.2)] := conLim fun k => (k_ref02_reader_and_all k).2.2.2.2

theorem c_ref02_Parse {qd : Prop} {y0 : Str} : Con qd Tryz.prog 13 [vs y0] [] [] (m_ref02_Parse y0) fun r K=>∀ p1 c1,K (.tuple #[.agg #[vi ((fv r.1).1), vs ((fv r.1).2.1), sv p1 ((fv r.1).2.2) c1], vi r.2.1, vi r.2.2]) [] [Rl e_Formula p1 c1 ((fv r.1).2.2)] :=
 ent3 Tryz.call13 Tryz.func13 rfl fun X=>jsr<|jal .s (.agg #[vi 0, vs [], .slice none 0 0])<|fun b1=>jpc 2 rfl<|jot<|jsq<|jsr<|jpc 3 rfl<|jot<|jif rfl (jsr<|jpe (.agg #[vi 0, vs [], .slice none 0 0])<|jso .s 0 rfl rfl rfl<|jpc 2 rfl<|jot<|jxr<|jtr<|
  jrg' rfl (lC 0 (.agg #[vi 0, vs [], .slice none 0 0]) rfl rfl (lT rfl (lT rfl lN))) (fun _ k=>k none 0) [] ⟨gn,⟨⟩⟩)<|jsk<|jtn<|jsr<|jpc 1 rfl<|jpe (.agg #[vs y0, vi 0, vi (-1)])<|jbx .s rfl<|fun b2=>jpc 1 rfl<|jot<|jsr<|jpc 1 rfl<|
  jca .s [1] [] c_ref02_reader_iff rfl rfl rfl ⟨⟩<|fun r1 _ k p1 c1=>k<|jal .s (.agg #[vi 0, vs [], .slice none 0 0])<|fun b3=>jso .s 2 rfl rfl rfl<|jot<|
  jjn (fun s1 K=>K [(2, pt b1 0), (5, pt b2 0), (6, pt b3 0)] [bx b1 37 [vi 0, vs [], .slice none 0 0], bx b2 82 [vs y0, vi r1.2.1, vi s1], bx b3 37 [vi ((fv r1.1).1), vs ((fv r1.1).2.1), sv p1 ((fv r1.1).2.2) c1]] [Rl e_Formula p1 c1 ((fv r1.1).2.2)]) (
  jsr<|jpc 1 rfl<|jca .s [1] [] c_ref02_reader_token rfl rfl rfl ⟨⟩<|fun r2 _ k=>k<|jpc 5 rfl<|jot<|jsr<|jpc 2 rfl<|jot<|jif rfl (jrg<|jpc 1 rfl<|jca .s [1] [] c_ref02_reader_fail rfl rfl rfl ⟨⟩<|fun r3 _ k p2 c2=>k<|joe<|
  jnn (gv (fun _ k=>k) [0,1,2] ⟨gk 1,⟨⟩⟩))<|jsk<|jnn (gv (fun _ k=>k) [0,1,2] ⟨gk 0,⟨⟩⟩))<|fun s1 _ k=>k<|jsq<|jsr<|jpc 2 rfl<|jfa 2 rfl<|jlo 1 rfl rfl rfl<|jpc 1 rfl<|jot<|jif rfl (jds [] [1] 8<|
  jdp 0 (.agg #[vi 0, vs [], .slice none 0 0]) rfl<|jdc 5 [1,2] rfl<|jdf 3 2 rfl rfl<|jdo 4 1 rfl rfl rfl rfl<|jd1 5<|jso (o := 0) (.f rfl) 0 rfl rfl rfl<|jdn<|jdc 0 [6,7] rfl<|jde<|jtn<|jxr<|jtr<|
  jrg' rfl (lC 0 (.agg #[vi 0, vs [], .slice none 0 0]) rfl rfl (lT rfl (lT rfl lN))) (fun _ k=>k none 0) [] ⟨gn,⟨⟩⟩)<|jsk<|jtn<|jsq<|
  jjn (fun s2 K=>K [(2, pt b1 0), (6, pt b3 0), (49, vb s2)] [bx b1 37 [vi 0, vs [], .slice none 0 0], [], bx b3 37 [vi ((fv r1.1).1), vs ((fv r1.1).2.1), sv p1 ((fv r1.1).2.2) c1]] [Rl e_Formula p1 c1 ((fv r1.1).2.2)]) (jrg<|
  jla 2 3 rfl rfl rfl<|jcl c_ref02_Size rfl ⟨ck 0,⟨⟩⟩<|fun r4 _ k=>k<|jpc 2 rfl<|jsg 40 rfl (jpc 3 rfl<|jpe (vb true)<|jpc 4 rfl<|jpe (vb true)<|joe<|jnn (gv (fun _ k=>k) [0,901,2] ⟨gk 0,⟨⟩⟩))<|jla 2 3 rfl rfl rfl<|
  jcl c_ref02_Depth rfl ⟨ck 0,⟨⟩⟩<|fun r5 _ k=>k<|jpc 1 rfl<|jpe (vb (decide (20 < r5)))<|jpc 1 rfl<|jsg 45 rfl (jpc 3 rfl<|jpe (vb true)<|joe<|jnn (gv (fun _ k=>k) [0,901,2] ⟨gk 0,⟨⟩⟩))<|jla 2 3 rfl rfl rfl<|jcl c_ref02_kinds rfl ⟨ck 0,⟨⟩⟩<|
  fun r6 _ k=>k<|jpc 1 rfl<|jpe (vb (!r6))<|joe<|jnn (gv (fun _ k=>k) [0,901,2] ⟨gk 0,⟨⟩⟩))<|fun s2 _ k=>k<|jif rfl (jsr<|jpe (.agg #[vi 0, vs [], .slice none 0 0])<|jso .s 0 rfl rfl rfl<|jpc 2 rfl<|jot<|jxr<|jtr<|
  jrg' rfl (lC 0 (.agg #[vi 0, vs [], .slice none 0 0]) rfl rfl (lT rfl (lT rfl lN))) (fun _ k=>k none 0) [] ⟨gn,⟨⟩⟩)<|jsk<|jtn<|jsr<|jla 2 3 rfl rfl rfl<|jso .s 0 rfl rfl rfl<|jpc 2 rfl<|jot<|jxr<|
  jrg' rfl (lC 0 (.agg #[vi ((fv r1.1).1), vs ((fv r1.1).2.1), sv p1 ((fv r1.1).2.2) c1]) rfl rfl (lT rfl (lT rfl lN))) (fun _ k=>k p1 c1) [] ⟨gk 0,⟨⟩⟩

theorem c_ref02_insert {qd : Prop} {y0 : List Str} {y1 : Str} : Con qd Tryz.prog 131 [sv p1 y0 c1, vs y1] [] [Rl eStr p1 c1 y0] (m_ref02_insert y0 y1) fun r K=>∀ p2 c2,K (sv p2 r c2) [] [Rl eStr p2 c2 r] :=
 ent3 Tryz.call131 Tryz.func131 rfl fun X=>jsr<|jpc 1 rfl<|jot<|jsr<|jpc 1 rfl<|jot<|jjn (fun s1 K=>K [(0, sv p1 y0 c1), (1, vs y1), (5, vi s1)] [] [Rl eStr p1 c1 y0]) (jbk<|
  jlp (fun s2 K=>K [(0, sv p1 y0 c1), (1, vs y1), (5, vi s2)] [] [Rl eStr p1 c1 y0]) (gv (fun _ k=>k) [] ⟨gk 0,⟨⟩⟩)<|fun s2 _ k=>k<|jsq<|jjn (fun s3 K=>K [(0, sv p1 y0 c1), (1, vs y1), (5, vi s2), (18, vb s3)] [] [Rl eStr p1 c1 y0]) (jrg<|
  jpc 5 rfl<|jsg 11 rfl (jpc 2 rfl<|jix 0 rfl rfl rfl<|fun x1 b1 o1=>jld false oS (gk 0) rfl<|jpc 2 rfl<|jpe (vb (sless x1 y1))<|joe<|jnn (gv (fun _ k=>k) [] ⟨gk 1,⟨⟩⟩))<|jpc 6 rfl<|jpe (vb false)<|joe<|jnn (gv (fun _ k=>k) [] ⟨gk 0,⟨⟩⟩))<|
  fun s3 _ k=>k<|jif rfl (jsk<|jtn<|jbk<|jrg<|jpc 3 rfl<|joe<|jbn<|jln (gv (fun _ k=>k) [] ⟨gk 0,⟨⟩⟩))<|jxe<|jte<|jle<|jbh<|jnn (gv (fun _ k=>k) [] ⟨gk 0,⟨⟩⟩))<|fun s1 _ k=>k<|jsq<|
  jjn (fun s4 K=>K [(0, sv p1 y0 c1), (1, vs y1), (5, vi s1), (32, vb s4)] [] [Rl eStr p1 c1 y0]) (jrg<|jpc 5 rfl<|jsg 25 rfl (jpc 2 rfl<|jix 0 rfl rfl rfl<|fun x2 b2 o2=>jld false oS (gk 0) rfl<|jpc 2 rfl<|jpe (vb (x2 == y1))<|joe<|
  jnn (gv (fun _ k=>k) [] ⟨gk 1,⟨⟩⟩))<|jpc 6 rfl<|jpe (vb false)<|joe<|jnn (gv (fun _ k=>k) [] ⟨gk 0,⟨⟩⟩))<|fun s4 _ k=>k<|jif rfl (jsr<|jpc 2 rfl<|jot<|jxr<|jtr<|jr1 rfl rfl (fun _ k=>k p1 c1) [] ⟨gk 0,⟨⟩⟩)<|jsk<|jtn<|jsr<|
  jbo .s (e := eStr) 9 [] ([] : List Str) rN<|fun r_1 p2 c2=>jpc 2 rfl<|jsl (gk 1) rfl rfl rfl (.inl ⟨rfl, rfl⟩) (.inr ⟨_, rfl⟩)<|fun x3 p3 c3=>jar .s 0 1 rfl (gk 0) rfl rfl<|fun x4 r_2 p4 c4=>jpc 1 rfl<|jot<|jds [] [] 9<|
  jdc 5 [0,1,4,5] rfl<|jdw 6 rfl (gk 3) rfl rfl rfl (.inr ⟨_, rfl⟩) (.inl ⟨rfl, rfl⟩)<|fun x5 p5 c5=>jd1 2<|jbs (.f rfl) (e := eStr) 9 [vs y1] ([y1] : List Str) (rC vS rN)<|fun p6 c6=>jdn<|jd1 3<|jar (.f rfl) 0 2 rfl (gk 0) rfl rfl<|
  fun x6 r_3 p7 c7=>jdn<|jd1 7<|jar (.f rfl) 0 0 rfl (gk 2) rfl rfl<|fun x7 r_4 p8 c8=>jdn<|jdc 0 [8] rfl<|jde<|jtn<|jxr<|jsh 0 0 rfl rfl<|jr1 rfl rfl (fun _ k=>k p8 c8) [] ⟨gk 0,⟨⟩⟩

theorem k_ref02_collect_all {qd : Prop} (k : Nat) :
    (∀ {y0 : List Str} {p1 : Option Addr} {c1 : Nat} {y1 : T_Formula} {p2 : Option Addr} {c2 : Nat}, Con qd Tryz.prog 82 [sv p1 y0 c1, .agg #[vi ((fv y1).1), vs ((fv y1).2.1), sv p2 ((fv y1).2.2) c2]] [] [Rl eStr p1 c1 y0, Rl e_Formula p2 c2 ((fv y1).2.2)] (k_ref02_collect k y0 y1) fun r K=>∀ p3 c3,K (sv p3 r c3) [] [Rl eStr p3 c3 r]) := by
  induction k with
  | zero => exact con0 Tryz.call82
  | succ k ih =>
    have ih_ref02_collect := @ih
    exact @fun y0 p1 c1 y1 p2 c2=>ent3 (m1 := F_ref02_collect (k_ref02_collect k) y0 y1) Tryz.call82 Tryz.func82 rfl fun X=>jsr<|jbx .s rfl<|fun b1=>jpc 1 rfl<|jot<|jjn (fun s1 K=>∀ p3 c3,K [(0, sv p3 s1 c3), (3, pt b1 0)] [bx b1 37 [vi ((fv y1).1), vs ((fv y1).2.1), sv p2 ((fv y1).2.2) c2]] [Rl eStr p3 c3 s1, Rl e_Formula p2 c2 ((fv y1).2.2)]) (
  jjp (fun K=>K [(0, sv p1 y0 c1), (3, pt b1 0), (14, vb ((((fv y1).1) == 3) && ((len ((fv y1).2.2)) == 0)))] [bx b1 37 [vi ((fv y1).1), vs ((fv y1).2.1), sv p2 ((fv y1).2.2) c2]] [Rl eStr p1 c1 y0, Rl e_Formula p2 c2 ((fv y1).2.2)]) (jrg<|
  jfa 0 rfl<|jlo 0 rfl rfl rfl<|jpc 2 rfl<|jsp (b := ((fv y1).1) == 3) 9 rfl (fun hb1=>jfa 2 rfl<|jlo 0 rfl rfl rfl<|jpc 2 rfl<|jpe (vb ((len ((fv y1).2.2)) == 0))<|joe<|
  jup 14 (vb ((((fv y1).1) == 3) && ((len ((fv y1).2.2)) == 0))) rfl (by rw [hb1]; rfl)<|jnn (gv (fun _ k=>k) [0] ⟨gk 0,gk 1,⟨⟩⟩))<|fun hb1=>jpc 4 rfl<|jpe (vb false)<|joe<|
  jup 14 (vb ((((fv y1).1) == 3) && ((len ((fv y1).2.2)) == 0))) rfl (by rw [hb1]; rfl)<|jnn (gv (fun _ k=>k) [0] ⟨gk 0,gk 1,⟨⟩⟩))<|fun _ k=>k<|jif rfl (jrg<|jpc 1 rfl<|jfa 1 rfl<|jlo 0 rfl rfl rfl<|jcl c_ref02_insert rfl ⟨ck 0,⟨⟩⟩<|
  fun r1 _ k p4 c4=>k<|jpc 1 rfl<|joe<|jnn (gv (fun _ k=>k p4 c4) [0] ⟨gk 0,gk 2,⟨⟩⟩))<|jsk<|jnn (gv (fun _ k=>k p1 c1) [0] ⟨gk 0,gk 1,⟨⟩⟩))<|fun s1 _ k p3 c3=>k<|jsq<|jsr<|jpc 1 rfl<|jot<|jbk<|
  jlp (fun s2 K=>∀ p5 c5,K [(0, sv p5 s2.1 c5), (3, pt b1 0), (5, vi s2.2)] [bx b1 37 [vi ((fv y1).1), vs ((fv y1).2.1), sv p2 ((fv y1).2.2) c2]] [Rl eStr p5 c5 s2.1, Rl e_Formula p2 c2 ((fv y1).2.2)]) (gv (fun _ k=>k p3 c3) [0] ⟨gk 0,gk 1,⟨⟩⟩)<|
  fun s2 _ k p5 c5=>k<|jsq<|jsr<|jpc 1 rfl<|jfa 2 rfl<|jlo 0 rfl rfl rfl<|jpc 2 rfl<|jot<|jif rfl (jsk<|jtn<|jsq<|jbk<|jrg<|jpc 1 rfl<|jfa 2 rfl<|jlo 0 rfl rfl rfl<|jpc 1 rfl<|jix 1 rfl rfl rfl<|fun x1 b2 o1=>jld true o_Formula (gk 0) rfl<|
  fun p6 c6=>jcl ih_ref02_collect rfl ⟨ck 2,ck 0,⟨⟩⟩<|fun r2 _ k p7 c7=>k<|jpc 1 rfl<|joe<|jbn<|jtn<|jrg<|jpc 3 rfl<|joe<|jln (gv (fun _ k=>k p7 c7) [0] ⟨gk 0,gk 4,⟨⟩⟩))<|jxe<|jte<|jle<|jbh<|jtn<|jsr<|jpc 2 rfl<|jot<|jxr<|
  jr1 rfl rfl (fun _ k=>k p5 c5) [] ⟨gk 0,⟨⟩⟩

theorem c_ref02_collect {qd : Prop} {y0 : List Str} {y1 : T_Formula} : Con qd Tryz.prog 82 [sv p1 y0 c1, .agg #[vi ((fv y1).1), vs ((fv y1).2.1), sv p2 ((fv y1).2.2) c2]] [] [Rl eStr p1 c1 y0, Rl e_Formula p2 c2 ((fv y1).2.2)] (m_ref02_collect y0 y1) fun r K=>∀ p3 c3,K (sv p3 r c3) [] [Rl eStr p3 c3 r] := conLim fun k => (k_ref02_collect_all k)

theorem c_ref02_Atoms {qd : Prop} {y0 : T_Formula} : Con qd Tryz.prog 44 [.agg #[vi ((fv y0).1), vs ((fv y0).2.1), sv p1 ((fv y0).2.2) c1]] [] [Rl e_Formula p1 c1 ((fv y0).2.2)] (m_ref02_Atoms y0) fun r K=>∀ p2 c2,K (sv p2 r c2) [] [Rl eStr p2 c2 r] :=
 ent3 Tryz.call44 Tryz.func44 rfl fun X=>jsr<|jbx .s rfl<|fun b1=>jpc 1 rfl<|jot<|jsr<|jla 0 3 rfl rfl rfl<|jcl c_ref02_collect rfl ⟨cn,ck 0,⟨⟩⟩<|fun r1 _ k p2 c2=>k<|jpc 1 rfl<|jot<|jxr<|jr1 rfl rfl (fun _ k=>k p2 c2) [] ⟨gk 0,⟨⟩⟩

theorem k_ref02_names_all {qd : Prop} (k : Nat) :
    (∀ {y0 : T_Formula} {p1 : Option Addr} {c1 : Nat}, Con qd Tryz.prog 81 [.agg #[vi ((fv y0).1), vs ((fv y0).2.1), sv p1 ((fv y0).2.2) c1]] [] [Rl e_Formula p1 c1 ((fv y0).2.2)] (k_ref02_names k y0) fun r K=>K (vb r) [] []) := by
  induction k with
  | zero => exact con0 Tryz.call81
  | succ k ih =>
    have ih_ref02_names := @ih
    exact @fun y0 p1 c1=>ent3 (m1 := F_ref02_names (k_ref02_names k) y0) Tryz.call81 Tryz.func81 rfl fun X=>jsr<|jbx .s rfl<|fun b1=>jpc 1 rfl<|jot<|jsr<|jfa 1 rfl<|jlo 0 rfl rfl rfl<|jpc 2 rfl<|jot<|
  jjn (fun s1 K=>K [(1, pt b1 0), (3, vb s1)] [bx b1 37 [vi ((fv y0).1), vs ((fv y0).2.1), sv p1 ((fv y0).2.2) c1]] [Rl e_Formula p1 c1 ((fv y0).2.2)]) (jsr<|jfa 0 rfl<|jlo 0 rfl rfl rfl<|jpc 1 rfl<|jot<|jif rfl (jrg<|jfa 1 rfl<|
  jlo 0 rfl rfl rfl<|jcl c_ref01_ValidName rfl ⟨⟩<|fun r1 _ k=>k<|jpc 1 rfl<|joe<|jnn (gv (fun _ k=>k) [0] ⟨gk 0,⟨⟩⟩))<|jsk<|jnn (gv (fun _ k=>k) [0] ⟨gk 0,⟨⟩⟩))<|fun s1 _ k=>k<|jsq<|jsr<|jpc 1 rfl<|jot<|jbk<|
  jlp (fun s2 K=>K [(1, pt b1 0), (3, vb s2.1), (4, vi s2.2)] [bx b1 37 [vi ((fv y0).1), vs ((fv y0).2.1), sv p1 ((fv y0).2.2) c1]] [Rl e_Formula p1 c1 ((fv y0).2.2)]) (gv (fun _ k=>k) [0] ⟨gk 0,⟨⟩⟩)<|fun s2 _ k=>k<|jsq<|jsr<|jpc 1 rfl<|
  jfa 2 rfl<|jlo 0 rfl rfl rfl<|jpc 2 rfl<|jot<|jif rfl (jsk<|jtn<|jsq<|jbk<|jjc (fun s3 K=>K [(1, pt b1 0), (3, vb s3), (4, vi s2.2)] [bx b1 37 [vi ((fv y0).1), vs ((fv y0).2.1), sv p1 ((fv y0).2.2) c1]] [Rl e_Formula p1 c1 ((fv y0).2.2)]) (
  jrg<|jpc 2 rfl<|jsg 22 rfl (jfa 2 rfl<|jlo 0 rfl rfl rfl<|jpc 1 rfl<|jix 0 rfl rfl rfl<|fun x1 b2 o1=>jld true o_Formula (gk 0) rfl<|fun p2 c2=>jcl ih_ref02_names rfl ⟨ck 0,⟨⟩⟩<|fun r2 _ k=>k<|jpe (vb r2)<|jpc 1 rfl<|joe<|
  jnn (gv (fun _ k=>k) [0] ⟨gk 2,⟨⟩⟩))<|jpc 6 rfl<|jpe (vb false)<|jpc 1 rfl<|joe<|jnn (gv (fun _ k=>k) [0] ⟨gk 0,⟨⟩⟩))<|fun s3 _ k=>k<|jbn<|jtn<|jrg<|jpc 3 rfl<|joe<|jln (gv (fun _ k=>k) [0] ⟨gk 0,⟨⟩⟩))<|jxe<|jte<|jle<|jbh<|jtn<|jsr<|
  jpc 2 rfl<|jot<|jxr<|jr1 rfl rfl (fun _ k=>k) [] ⟨⟩

theorem c_ref02_names {qd : Prop} {y0 : T_Formula} : Con qd Tryz.prog 81 [.agg #[vi ((fv y0).1), vs ((fv y0).2.1), sv p1 ((fv y0).2.2) c1]] [] [Rl e_Formula p1 c1 ((fv y0).2.2)] (m_ref02_names y0) fun r K=>K (vb r) [] [] := conLim fun k => (k_ref02_names_all k)

theorem k_ref02_value_all {qd : Prop} (k : Nat) :
    (∀ {y0 : T_Formula} {p1 : Option Addr} {c1 : Nat} {y1 : List Str} {p2 : Option Addr} {c2 : Nat}, Con qd Tryz.prog 83 [.agg #[vi ((fv y0).1), vs ((fv y0).2.1), sv p1 ((fv y0).2.2) c1], sv p2 y1 c2] [] [Rl e_Formula p1 c1 ((fv y0).2.2), Rl eStr p2 c2 y1] (k_ref02_value k y0 y1) fun r K=>K (vb r) [] []) := by
  induction k with
  | zero => exact con0 Tryz.call83
  | succ k ih =>
    have ih_ref02_value := @ih
    exact @fun y0 p1 c1 y1 p2 c2=>ent3 (m1 := F_ref02_value (k_ref02_value k) y0 y1) Tryz.call83 Tryz.func83 rfl fun X=>jsr<|jbx .s rfl<|fun b1=>jpc 1 rfl<|jot<|jsq<|jsr<|jfa 0 rfl<|jlo 0 rfl rfl rfl<|jot<|jbk<|jsr<|jpc 2 rfl<|jot<|jif rfl (jsr<|jpc 1 rfl<|jot<|jxr<|jbr<|jtr<|jr1 rfl rfl (fun _ k=>k) [] ⟨⟩)<|jsr<|jpc 2 rfl<|jot<|jif rfl (jsq<|jsr<|
  jpc 1 rfl<|jot<|jbk<|
  jlp (fun s1 K=>K [(1, sv p2 y1 c2), (2, pt b1 0), (5, vi s1)] [bx b1 37 [vi ((fv y0).1), vs ((fv y0).2.1), sv p1 ((fv y0).2.2) c1]] [Rl eStr p2 c2 y1, Rl e_Formula p1 c1 ((fv y0).2.2)]) (gv (fun _ k=>k) [0] ⟨gk 1,gk 0,⟨⟩⟩)<|fun s1 _ k=>k<|
  jsq<|jsr<|jpc 4 rfl<|jot<|jif rfl (jsk<|jtn<|jsq<|jbk<|jds [] [0] 7<|jdc 5 [0,1] rfl<|jdi 2 0 rfl rfl rfl rfl<|fun x1 b2 o1=>jdl 3 false oS rfl (gk 0) rfl<|jdf 4 1 rfl rfl<|jdo 5 0 rfl rfl rfl rfl<|jdc 0 [6] rfl<|jde<|jtn<|jif rfl (jsr<|
  jpc 1 rfl<|jot<|jxr<|jbr<|jtr<|jlr<|jbr<|jtr<|jbr<|jtr<|jr1 rfl rfl (fun _ k=>k) [] ⟨⟩)<|jsk<|jbn<|jtn<|jrg<|jpc 3 rfl<|joe<|jln (gv (fun _ k=>k) [0] ⟨gk 1,gk 2,⟨⟩⟩))<|jxe<|jte<|jle<|jbh<|jtn<|jsr<|jpc 1 rfl<|jot<|jxr<|jbr<|jtr<|
  jr1 rfl rfl (fun _ k=>k) [] ⟨⟩)<|jsr<|jpc 2 rfl<|jot<|jif rfl (jsr<|jfa 2 rfl<|jlo 0 rfl rfl rfl<|jix 0 rfl rfl rfl<|fun x2 b3 o2=>jld true o_Formula (gk 0) rfl<|fun p3 c3=>jpc 1 rfl<|jcl ih_ref02_value rfl ⟨ck 0,ck 3,⟨⟩⟩<|fun r1 _ k=>k<|
  jpc 2 rfl<|jot<|jxr<|jbr<|jtr<|jr1 rfl rfl (fun _ k=>k) [] ⟨⟩)<|jsr<|jpc 2 rfl<|jot<|jif rfl (jsq<|jsr<|jpc 1 rfl<|jot<|jbk<|
  jlp (fun s2 K=>K [(1, sv p2 y1 c2), (2, pt b1 0), (6, vi s2)] [bx b1 37 [vi ((fv y0).1), vs ((fv y0).2.1), sv p1 ((fv y0).2.2) c1]] [Rl eStr p2 c2 y1, Rl e_Formula p1 c1 ((fv y0).2.2)]) (gv (fun _ k=>k) [0] ⟨gk 1,gk 0,⟨⟩⟩)<|fun s2 _ k=>k<|
  jsq<|jsr<|jpc 1 rfl<|jfa 2 rfl<|jlo 0 rfl rfl rfl<|jpc 2 rfl<|jot<|jif rfl (jsk<|jtn<|jsq<|jbk<|jsr<|jfa 2 rfl<|jlo 0 rfl rfl rfl<|jpc 1 rfl<|jix 1 rfl rfl rfl<|fun x3 b4 o3=>jld true o_Formula (gk 0) rfl<|fun p4 c4=>jpc 1 rfl<|
  jcl ih_ref02_value rfl ⟨ck 0,ck 2,⟨⟩⟩<|fun r2 _ k=>k<|jpc 1 rfl<|jot<|jif rfl (jsr<|jpc 1 rfl<|jot<|jxr<|jbr<|jtr<|jlr<|jbr<|jtr<|jbr<|jtr<|jr1 rfl rfl (fun _ k=>k) [] ⟨⟩)<|jsk<|jbn<|jtn<|jrg<|jpc 3 rfl<|joe<|
  jln (gv (fun _ k=>k) [0] ⟨gk 2,gk 3,⟨⟩⟩))<|jxe<|jte<|jle<|jbh<|jtn<|jsr<|jpc 1 rfl<|jot<|jxr<|jbr<|jtr<|jr1 rfl rfl (fun _ k=>k) [] ⟨⟩)<|jsr<|jpc 2 rfl<|jot<|jif rfl (jsq<|jsr<|jpc 1 rfl<|jot<|jbk<|
  jlp (fun s3 K=>K [(1, sv p2 y1 c2), (2, pt b1 0), (7, vi s3)] [bx b1 37 [vi ((fv y0).1), vs ((fv y0).2.1), sv p1 ((fv y0).2.2) c1]] [Rl eStr p2 c2 y1, Rl e_Formula p1 c1 ((fv y0).2.2)]) (gv (fun _ k=>k) [0] ⟨gk 1,gk 0,⟨⟩⟩)<|fun s3 _ k=>k<|
  jsq<|jsr<|jpc 1 rfl<|jfa 2 rfl<|jlo 0 rfl rfl rfl<|jpc 2 rfl<|jot<|jif rfl (jsk<|jtn<|jsq<|jbk<|jsr<|jfa 2 rfl<|jlo 0 rfl rfl rfl<|jpc 1 rfl<|jix 1 rfl rfl rfl<|fun x4 b5 o4=>jld true o_Formula (gk 0) rfl<|fun p5 c5=>jpc 1 rfl<|
  jcl ih_ref02_value rfl ⟨ck 0,ck 2,⟨⟩⟩<|fun r3 _ k=>k<|jot<|jif rfl (jsr<|jpc 1 rfl<|jot<|jxr<|jbr<|jtr<|jlr<|jbr<|jtr<|jbr<|jtr<|jr1 rfl rfl (fun _ k=>k) [] ⟨⟩)<|jsk<|jbn<|jtn<|jrg<|jpc 3 rfl<|joe<|jln (gv (fun _ k=>k) [0] ⟨gk 2,gk 3,⟨⟩⟩)
  )<|jxe<|jte<|jle<|jbh<|jtn<|jsr<|jpc 1 rfl<|jot<|jxr<|jbr<|jtr<|jr1 rfl rfl (fun _ k=>k) [] ⟨⟩)<|jsr<|jpc 2 rfl<|jot<|jif rfl (jjn (fun s4 K=>K [(4, vb s4)] [[]] []) (jrg<|jfa 2 rfl<|jlo 0 rfl rfl rfl<|jix 0 rfl rfl rfl<|fun x5 b6 o5=>
  jld true o_Formula (gk 0) rfl<|fun p6 c6=>jpc 1 rfl<|jcl ih_ref02_value rfl ⟨ck 0,ck 3,⟨⟩⟩<|fun r4 _ k=>k<|jpc 2 rfl<|jsg 78 rfl (jpc 6 rfl<|jpe (vb true)<|jpc 1 rfl<|joe<|jnn (gv (fun _ k=>k) [900] ⟨⟩))<|jfa 2 rfl<|jlo 0 rfl rfl rfl<|
  jix 2 rfl rfl rfl<|fun x6 b7 o6=>jld true o_Formula (gk 0) rfl<|fun p7 c7=>jpc 1 rfl<|jcl ih_ref02_value rfl ⟨ck 0,ck 5,⟨⟩⟩<|fun r5 _ k=>k<|jpe (vb r5)<|jpc 1 rfl<|joe<|jnn (gv (fun _ k=>k) [900] ⟨⟩))<|fun s4 _ k=>k<|jxr<|jbr<|jtr<|
  jr1 rfl rfl (fun _ k=>k) [] ⟨⟩)<|jsr<|jpc 2 rfl<|jot<|jif rfl (jds [] [0] 14<|jdf 0 2 rfl rfl<|jdo 1 0 rfl rfl rfl rfl<|jdi 2 0 rfl rfl rfl rfl<|fun x7 b8 o7=>jdl 3 true o_Formula rfl (gk 0) rfl<|fun p8 c8=>jdc 9 [4] rfl<|jdf 6 2 rfl rfl<|
  jdo 7 0 rfl rfl rfl rfl<|jdi 8 2 rfl rfl rfl rfl<|fun x8 b9 o8=>jdl 9 true o_Formula rfl (gk 0) rfl<|fun p9 c9=>jdc 4 [10] rfl<|jd1 5<|jca (.f rfl) [] [] ih_ref02_value rfl rfl rfl ⟨ck 2,ck 5,⟨⟩⟩<|fun r6 _ k=>k<|jdn<|jd1 11<|
  jca (.f rfl) [] [] ih_ref02_value rfl rfl rfl ⟨ck 0,ck 5,⟨⟩⟩<|fun r7 _ k=>k<|jdn<|jdp 12 (vb (r6 == r7)) rfl<|jdc 0 [13] rfl<|jde<|jtn<|jxr<|jbr<|jtr<|jr1 rfl rfl (fun _ k=>k) [] ⟨⟩)<|jsk<|jbn<|jtn<|jsr<|jpc 1 rfl<|jot<|jxr<|
  jr1 rfl rfl (fun _ k=>k) [] ⟨⟩

theorem c_ref02_value {qd : Prop} {y0 : T_Formula} {y1 : List Str} : Con qd Tryz.prog 83 [.agg #[vi ((fv y0).1), vs ((fv y0).2.1), sv p1 ((fv y0).2.2) c1], sv p2 y1 c2] [] [Rl e_Formula p1 c1 ((fv y0).2.2), Rl eStr p2 c2 y1] (m_ref02_value y0 y1) fun r K=>K (vb r) [] [] := conLim fun k => (k_ref02_value_all k)

theorem c_ref02_Eval {qd : Prop} {y0 : T_Formula} {y1 : List Str} : Con qd Tryz.prog 47 [.agg #[vi ((fv y0).1), vs ((fv y0).2.1), sv p1 ((fv y0).2.2) c1], sv p2 y1 c2] [] [Rl e_Formula p1 c1 ((fv y0).2.2), Rl eStr p2 c2 y1] (m_ref02_Eval y0 y1) fun r K=>K (vb r) [] [] :=
 ent3 Tryz.call47 Tryz.func47 rfl fun X=>jsr<|jbx .s rfl<|fun b1=>jpc 1 rfl<|jot<|jjn (fun s1 K=>K [(4, vb s1)] [[]] []) (jrg<|jla 0 3 rfl rfl rfl<|jcl c_ref02_kinds rfl ⟨ck 0,⟨⟩⟩<|fun r1 _ k=>k<|jpc 1 rfl<|jsg 7 rfl (jla 0 3 rfl rfl rfl<|jcl c_ref02_names rfl ⟨ck 0,⟨⟩⟩<|
  fun r2 _ k=>k<|jpe (vb r2)<|jpc 1 rfl<|jsg 11 rfl (jla 0 3 rfl rfl rfl<|jpc 1 rfl<|jcl c_ref02_value rfl ⟨ck 0,ck 1,⟨⟩⟩<|fun r3 _ k=>k<|jpe (vb r3)<|jpc 1 rfl<|joe<|jnn (gv (fun _ k=>k) [900] ⟨⟩))<|jpc 3 rfl<|jpe (vb false)<|jpc 1 rfl<|
  joe<|jnn (gv (fun _ k=>k) [900] ⟨⟩))<|jpc 2 rfl<|jpe (vb false)<|jpc 4 rfl<|jpe (vb false)<|jpc 1 rfl<|joe<|jnn (gv (fun _ k=>k) [900] ⟨⟩))<|fun s1 _ k=>k<|jxr<|jr1 rfl rfl (fun _ k=>k) [] ⟨⟩

theorem c_ref02_Validate {qd : Prop} {y0 : T_Formula} : Con qd Tryz.prog 43 [.agg #[vi ((fv y0).1), vs ((fv y0).2.1), sv p1 ((fv y0).2.2) c1]] [] [Rl e_Formula p1 c1 ((fv y0).2.2)] (m_ref02_Validate y0) fun r K=>K (vi r) [] [] :=
 ent3 Tryz.call43 Tryz.func43 rfl fun X=>jsr<|jbx .s rfl<|fun b1=>jpc 1 rfl<|jot<|jsq<|jjn (fun s1 K=>K [(1, pt b1 0), (10, vb s1)] [bx b1 37 [vi ((fv y0).1), vs ((fv y0).2.1), sv p1 ((fv y0).2.2) c1]] [Rl e_Formula p1 c1 ((fv y0).2.2)]) (jrg<|jla 0 3 rfl rfl rfl<|
  jcl c_ref02_Size rfl ⟨ck 0,⟨⟩⟩<|fun r1 _ k=>k<|jpc 2 rfl<|jsg 6 rfl (jpc 3 rfl<|jpe (vb true)<|joe<|jnn (gv (fun _ k=>k) [0] ⟨gk 0,⟨⟩⟩))<|jla 0 3 rfl rfl rfl<|jcl c_ref02_Depth rfl ⟨ck 0,⟨⟩⟩<|fun r2 _ k=>k<|jpc 1 rfl<|
  jpe (vb (decide (20 < r2)))<|joe<|jnn (gv (fun _ k=>k) [0] ⟨gk 0,⟨⟩⟩))<|fun s1 _ k=>k<|jif rfl (jsr<|jpc 1 rfl<|jot<|jxr<|jtr<|jr1 rfl rfl (fun _ k=>k) [] ⟨⟩)<|jsk<|jtn<|jsq<|jsr<|jla 0 3 rfl rfl rfl<|jcl c_ref02_kinds rfl ⟨ck 0,⟨⟩⟩<|
  fun r3 _ k=>k<|jpc 1 rfl<|jot<|jif rfl (jsr<|jpc 1 rfl<|jot<|jxr<|jtr<|jr1 rfl rfl (fun _ k=>k) [] ⟨⟩)<|jsk<|jtn<|jsq<|jsr<|jla 0 3 rfl rfl rfl<|jcl c_ref02_names rfl ⟨ck 0,⟨⟩⟩<|fun r4 _ k=>k<|jpc 1 rfl<|jot<|jif rfl (jsr<|jpc 1 rfl<|jot<|
  jxr<|jtr<|jr1 rfl rfl (fun _ k=>k) [] ⟨⟩)<|jsk<|jtn<|jsr<|jpc 1 rfl<|jot<|jxr<|jr1 rfl rfl (fun _ k=>k) [] ⟨⟩

theorem c_ref03_Valid {qd : Prop} {y0 : List Str} : Con qd Tryz.prog 42 [sv p1 y0 c1] [] [Rl eStr p1 c1 y0] (m_ref03_Valid y0) fun r K=>K (vb r) [] [] :=
 ent3 Tryz.call42 Tryz.func42 rfl fun X=>jsr<|jpc 1 rfl<|jot<|jjo (fun s1 K=>K [(0, sv p1 y0 c1)] [] [Rl eStr p1 c1 y0]) (jsr<|jpc 1 rfl<|jot<|jbk<|jlp (fun s2 K=>K [(0, sv p1 y0 c1), (3, vi s2)] [] [Rl eStr p1 c1 y0]) (gv (fun _ k=>k) [] ⟨gk 0,⟨⟩⟩)<|fun s2 _ k=>k<|jsq<|jsr<|
  jpc 4 rfl<|jot<|jif rfl (jsk<|jtn<|jsq<|jbk<|jjn (fun s3 K=>K [(0, sv p1 y0 c1), (3, vi s2), (31, vb s3)] [] [Rl eStr p1 c1 y0]) (jdS [] [] 22<|jdc 20 [0,1] rfl<|jdi 2 0 rfl rfl rfl rfl<|fun x1 b1 o1=>jdl 3 false oS rfl (gk 0) rfl<|jd1 4<|
  jca (.f rfl) [] [] c_ref01_ValidName rfl rfl rfl ⟨⟩<|fun r1 _ k=>k<|jdn<|jdc 15 [5,6] rfl<|jsg 16 rfl (jdc 1 [7,8,9,10,11,12,13,14,15,16,17,18,19,20] rfl<|jdp 21 (vb true) rfl<|jde<|jnn (gv (fun _ k=>k) [] ⟨gk 1,⟨⟩⟩))<|jdc 12 [7,8,9] rfl<|
  jsg 19 rfl (jdc 10 [10,11] rfl<|jdi 12 1 rfl rfl rfl rfl<|fun x2 b2 o2=>jdl 13 false oS rfl (gk 0) rfl<|jdc 5 [14,15,16] rfl<|jdi 17 2 rfl rfl rfl rfl<|fun x3 b3 o3=>jdl 18 false oS rfl (gk 0) rfl<|jdc 2 [19] rfl<|
  jdp 20 (vb (sless x2 x3 || x2 == x3)) rfl<|jdp 21 (vb (sless x2 x3 || x2 == x3)) rfl<|jde<|jnn (gv (fun _ k=>k) [] ⟨gk 3,⟨⟩⟩))<|jdc 2 [10,11,12,13,14,15,16,17,18,19] rfl<|jdp 20 (vb false) rfl<|jdp 21 (vb false) rfl<|jde<|
  jnn (gv (fun _ k=>k) [] ⟨gk 1,⟨⟩⟩))<|fun s3 _ k=>k<|jif rfl (jsr<|jpc 1 rfl<|jot<|jxr<|jbr<|jtr<|jlr<|jbr<|jlr<|jr1 rfl rfl (fun _ k=>k) [] ⟨⟩)<|jsk<|jbn<|jtn<|jrg<|jpc 3 rfl<|joe<|jln (gv (fun _ k=>k) [] ⟨gk 0,⟨⟩⟩))<|jxe<|jte<|jle<|jbh<|
  jln (gv (fun _ k=>k) [] ⟨gk 0,⟨⟩⟩))<|fun s1 _ k=>k<|jsr<|jpc 4 rfl<|jot<|jxr<|jr1 rfl rfl (fun _ k=>k) [] ⟨⟩

theorem c_ref03_Yes {qd : Prop} {y0 : List Str} {y1 : Int} : Con qd Tryz.prog 48 [sv p1 y0 c1, vi y1] [] [Rl eStr p1 c1 y0] (m_ref03_Yes y0 y1) fun r K=>∀ p2 c2,K (sv p2 r c2) [] [Rl eStr p2 c2 r] :=
 ent3 Tryz.call48 Tryz.func48 rfl fun X=>jsr<|jpc 1 rfl<|jot<|jsr<|jpc 1 rfl<|jro eStr 9<|jot<|jsq<|jsr<|jpc 1 rfl<|jot<|jbk<|
  jlp (fun s1 K=>∀ p2 c2 r_1,K [(0, sv p1 y0 c1), (1, vi y1), (5, sv p2 s1.1 c2), (6, vi s1.2)] [r_1] [Al eStr 9 r_1 p2 c2 s1.1, Rl eStr p1 c1 y0]) (gv (fun _ k=>k none 0 []) [0] ⟨gk 0,gk 1,⟨⟩⟩)<|fun s1 _ k p2 c2 r_1=>k<|jsq<|jsr<|jpc 4 rfl<|
  jot<|jif rfl (jsk<|jtn<|jsq<|jbk<|jsr<|jpc 2 rfl<|jpe (.int .u64 (IntKind.u64.wrap (s1.2)))<|jbd fun x1 h1=>jv (fun h=>r_shrK h rfl rfl h1)<|jpc 2 rfl<|jot<|jif rfl (jrg<|jpc 3 rfl<|jix 1 rfl rfl rfl<|fun x2 b1 o1=>jld false oS (gk 0) rfl<|
  jbs .s (e := eStr) 9 [vs x2] ([x2] : List Str) (rC vS rN)<|fun p3 c3=>jar .s 0 2 rfl (gk 0) rfl rfl<|fun x3 r_2 p4 c4=>jpc 1 rfl<|joe<|jbn<|jtn<|jrg<|jpc 3 rfl<|joe<|jln (gv (fun _ k=>k p4 c4 r_2) [0] ⟨gk 0,gk 4,⟨⟩⟩))<|jsk<|jbn<|jtn<|jrg<|
  jpc 3 rfl<|joe<|jln (gv (fun _ k=>k p2 c2 r_1) [0] ⟨gk 0,gk 1,⟨⟩⟩))<|jxe<|jte<|jle<|jbh<|jtn<|jsr<|jpc 2 rfl<|jot<|jxr<|jsh 0 0 rfl rfl<|jr1 rfl rfl (fun _ k=>k p2 c2) [] ⟨gk 0,⟨⟩⟩

theorem c_ref03_count {qd : Prop} {y0 : List Str} : Con qd Tryz.prog 46 [sv p1 y0 c1] [] [Rl eStr p1 c1 y0] (m_ref03_count y0) fun r K=>K (vi r) [] [] :=
 ent3 Tryz.call46 Tryz.func46 rfl fun X=>jsr<|jpc 1 rfl<|jot<|jsr<|jpc 2 rfl<|jpe (.int .u64 (IntKind.u64.wrap (len y0)))<|jbd fun x1 h1=>jv (fun h=>r_shlK h rfl rfl h1)<|jpc 1 rfl<|jot<|jxr<|jr1 rfl rfl (fun _ k=>k) [] ⟨⟩

theorem c_ref03_index {qd : Prop} {y0 : List Str} {y1 : Str} : Con qd Tryz.prog 45 [sv p1 y0 c1, vs y1] [] [Rl eStr p1 c1 y0] (m_ref03_index y0 y1) fun r K=>K (vi r) [] [] :=
 ent3 Tryz.call45 Tryz.func45 rfl fun X=>jsr<|jpc 1 rfl<|jot<|jsq<|jsr<|jpc 1 rfl<|jot<|jbk<|jlp (fun s1 K=>K [(0, sv p1 y0 c1), (1, vs y1), (5, vi s1)] [] [Rl eStr p1 c1 y0]) (gv (fun _ k=>k) [] ⟨gk 0,⟨⟩⟩)<|fun s1 _ k=>k<|jsq<|jsr<|jpc 4 rfl<|jot<|jif rfl (jsk<|jtn<|jsq<|jbk<|
  jsr<|jpc 2 rfl<|jix 0 rfl rfl rfl<|fun x1 b1 o1=>jld false oS (gk 0) rfl<|jpc 2 rfl<|jot<|jif rfl (jsr<|jpc 2 rfl<|jot<|jxr<|jbr<|jtr<|jlr<|jbr<|jtr<|jr1 rfl rfl (fun _ k=>k) [] ⟨⟩)<|jsk<|jbn<|jtn<|jrg<|jpc 3 rfl<|joe<|
  jln (gv (fun _ k=>k) [] ⟨gk 1,⟨⟩⟩))<|jxe<|jte<|jle<|jbh<|jtn<|jsr<|jpc 1 rfl<|jot<|jxr<|jr1 rfl rfl (fun _ k=>k) [] ⟨⟩

theorem c_ref03_Models {qd : Prop} {y0 : List Str} {y1 : T_Formula} : Con qd Tryz.prog 14 [sv p1 y0 c1, .agg #[vi ((fv y1).1), vs ((fv y1).2.1), sv p2 ((fv y1).2.2) c2]] [] [Rl eStr p1 c1 y0, Rl e_Formula p2 c2 ((fv y1).2.2)] (m_ref03_Models y0 y1) fun r K=>K (.tuple #[.int .u64 r.1, vi r.2]) [] [] :=
 ent3 Tryz.call14 Tryz.func14 rfl fun X=>jsr<|jbx .s rfl<|fun b1=>jpc 2 rfl<|jot<|jsq<|jsr<|jpc 1 rfl<|jcl c_ref03_Valid rfl ⟨ck 0,⟨⟩⟩<|fun r1 _ k=>k<|jpc 1 rfl<|jot<|jif rfl (jsr<|jpc 2 rfl<|jot<|jxr<|jtr<|jrg' rfl (lT rfl (lT rfl lN)) (fun _ k=>k) [] ⟨⟩)<|jsk<|jtn<|jsq<|jsr<|
  jla 0 3 rfl rfl rfl<|jcl c_ref02_Validate rfl ⟨ck 1,⟨⟩⟩<|fun r2 _ k=>k<|jpc 1 rfl<|jot<|jsr<|jpc 2 rfl<|jot<|jif rfl (jsr<|jpc 3 rfl<|jot<|jxr<|jtr<|jrg' rfl (lT rfl (lT rfl lN)) (fun _ k=>k) [] ⟨⟩)<|jsk<|jtn<|jsr<|jla 0 3 rfl rfl rfl<|
  jcl c_ref02_Atoms rfl ⟨ck 1,⟨⟩⟩<|fun r3 _ k p3 c3=>k<|jpc 1 rfl<|jot<|
  jjo (fun s1 K=>K [(0, sv p1 y0 c1), (3, pt b1 0)] [bx b1 37 [vi ((fv y1).1), vs ((fv y1).2.1), sv p2 ((fv y1).2.2) c2]] [Rl eStr p1 c1 y0, Rl e_Formula p2 c2 ((fv y1).2.2)]) (jsr<|jpc 1 rfl<|jot<|jbk<|
  jlp (fun s2 K=>K [(0, sv p1 y0 c1), (3, pt b1 0), (7, sv p3 r3 c3), (8, vi s2)] [bx b1 37 [vi ((fv y1).1), vs ((fv y1).2.1), sv p2 ((fv y1).2.2) c2]] [Rl eStr p1 c1 y0, Rl eStr p3 c3 r3, Rl e_Formula p2 c2 ((fv y1).2.2)]) (gv (fun _ k=>k) [0] ⟨gk 1,gk 0,gk 2,⟨⟩⟩)<|
  fun s2 _ k=>k<|jsq<|jsr<|jpc 4 rfl<|jot<|jif rfl (jsk<|jtn<|jsq<|jbk<|jsr<|jpc 3 rfl<|jix 1 rfl rfl rfl<|fun x1 b2 o1=>jld false oS (gk 0) rfl<|jcl c_ref03_index rfl ⟨ck 1,⟨⟩⟩<|fun r4 _ k=>k<|jpc 1 rfl<|jot<|jif rfl (jsr<|jpc 2 rfl<|jot<|
  jxr<|jbr<|jtr<|jlr<|jbr<|jlr<|jrg' rfl (lT rfl (lT rfl lN)) (fun _ k=>k) [] ⟨⟩)<|jsk<|jbn<|jtn<|jrg<|jpc 3 rfl<|joe<|jln (gv (fun _ k=>k) [0] ⟨gk 1,gk 2,gk 3,⟨⟩⟩))<|jxe<|jte<|jle<|jbh<|jln (gv (fun _ k=>k) [0] ⟨gk 0,gk 2,⟨⟩⟩))<|fun s1 _ k=>
  k<|jsr<|jpc 1 rfl<|jot<|jsq<|jsr<|jpc 1 rfl<|jot<|jbk<|
  jlp (fun s3 K=>K [(0, sv p1 y0 c1), (3, pt b1 0), (9, .int .u64 s3.1), (10, vi s3.2)] [bx b1 37 [vi ((fv y1).1), vs ((fv y1).2.1), sv p2 ((fv y1).2.2) c2]] [Rl eStr p1 c1 y0, Rl e_Formula p2 c2 ((fv y1).2.2)]) (gv (fun _ k=>k) [0] ⟨gk 0,gk 1,⟨⟩⟩)<|
  fun s3 _ k=>k<|jsq<|jsr<|jpc 2 rfl<|jcl c_ref03_count rfl ⟨ck 0,⟨⟩⟩<|fun r5 _ k=>k<|jpc 1 rfl<|jot<|jif rfl (jsk<|jtn<|jsq<|jbk<|jds [] [0] 5<|jda 0 0 3 rfl rfl rfl rfl<|jdc 2 [1,2] rfl<|jd1 3<|
  jca (.f rfl) [] [] c_ref03_Yes rfl rfl rfl ⟨ck 0,⟨⟩⟩<|fun r6 _ k p4 c4=>k<|jdn<|jd1 4<|jca (.f rfl) [] [] c_ref02_Eval rfl rfl rfl ⟨ck 2,ck 0,⟨⟩⟩<|fun r7 _ k=>k<|jdn<|jde<|jtn<|jif rfl (jrg<|jpc 2 rfl<|
  jpe (.int .u64 (IntKind.u64.wrap (s3.2)))<|jbd fun x2 h1=>jv (fun h=>r_shlK h rfl rfl h1)<|jpc 2 rfl<|joe<|jbn<|jtn<|jrg<|jpc 3 rfl<|joe<|jln (gv (fun _ k=>k) [0] ⟨gk 1,gk 2,⟨⟩⟩))<|jsk<|jbn<|jtn<|jrg<|jpc 3 rfl<|joe<|
  jln (gv (fun _ k=>k) [0] ⟨gk 1,gk 2,⟨⟩⟩))<|jxe<|jte<|jle<|jbh<|jtn<|jsr<|jpc 3 rfl<|jot<|jxr<|jrg' rfl (lT rfl (lT rfl lN)) (fun _ k=>k) [] ⟨⟩

theorem c_ref31_Most {qd : Prop} {y0 : T_Order} : Con qd Tryz.prog 34 [.agg #[sv p1 y0.1 c1, sv p2 y0.2 c2]] [] [Rl eStr p1 c1 y0.1, Rl (eInt .i64) p2 c2 y0.2] (m_ref31_Most y0) fun r K=>K (vi r) [] [] :=
 ent3 Tryz.call34 Tryz.func34 rfl fun X=>jsr<|jbx .s rfl<|fun b1=>jpc 1 rfl<|jot<|jsr<|jpc 1 rfl<|jot<|jsq<|jsr<|jpc 1 rfl<|jot<|jbk<|
  jlp (fun s1 K=>K [(1, pt b1 0), (3, vi s1.1), (4, vi s1.2)] [bx b1 25 [sv p1 y0.1 c1, sv p2 y0.2 c2]] [Rl eStr p1 c1 y0.1, Rl (eInt .i64) p2 c2 y0.2]) (gv (fun _ k=>k) [0] ⟨gk 0,gk 1,⟨⟩⟩)<|fun s1 _ k=>k<|jsq<|jsr<|jpc 1 rfl<|jfa 1 rfl<|
  jlo 0 rfl rfl rfl<|jpc 2 rfl<|jot<|jif rfl (jsk<|jtn<|jsq<|jbk<|jrg<|jpc 1 rfl<|jfa 1 rfl<|jlo 0 rfl rfl rfl<|jpc 1 rfl<|jix 1 rfl rfl rfl<|fun x1 b2 o1=>jld false oI (gk 0) rfl<|jpc 2 rfl<|joe<|jbn<|jtn<|jrg<|jpc 3 rfl<|joe<|
  jln (gv (fun _ k=>k) [0] ⟨gk 1,gk 2,⟨⟩⟩))<|jxe<|jte<|jle<|jbh<|jtn<|jsr<|jpc 2 rfl<|jot<|jxr<|jr1 rfl rfl (fun _ k=>k) [] ⟨⟩

theorem c_keep_In {qd : Prop} {y0 : List Int} {y1 : Int} : Con qd Tryz.prog 64 [sv p1 y0 c1, vi y1] [] [Rl (eInt .i64) p1 c1 y0] (m_keep_In y0 y1) fun r K=>K (vb r) [] [] :=
 ent3 Tryz.call64 Tryz.func64 rfl fun X=>jsr<|jpc 1 rfl<|jot<|jsq<|jsr<|jpc 3 rfl<|jot<|jbk<|jlp (fun s1 K=>K [(0, sv p1 y0 c1), (1, vi y1), (7, vi (len y0)), (8, vi s1)] [] [Rl (eInt .i64) p1 c1 y0]) (gv (fun _ k=>k) [] ⟨gk 0,⟨⟩⟩)<|fun s1 _ k=>k<|jsr<|jpc 1 rfl<|jot<|jsq<|
  jif rfl (jsk<|jtn<|jsq<|jbk<|jsr<|jpc 2 rfl<|jot<|jsr<|jpc 2 rfl<|jix 0 rfl rfl rfl<|fun x1 b1 o1=>jld false oI (gk 0) rfl<|jpc 2 rfl<|jot<|jif rfl (jsr<|jpc 1 rfl<|jot<|jxr<|jbr<|jtr<|jlr<|jbr<|jtr<|jr1 rfl rfl (fun _ k=>k) [] ⟨⟩)<|jsk<|
  jbn<|jtn<|jrg<|jpc 2 rfl<|joe<|jln (gv (fun _ k=>k) [] ⟨gk 1,⟨⟩⟩))<|jxe<|jte<|jle<|jbh<|jtn<|jsr<|jpc 1 rfl<|jot<|jxr<|jr1 rfl rfl (fun _ k=>k) [] ⟨⟩

theorem c_ref31_Validate {qd : Prop} {y0 : T_Order} : Con qd Tryz.prog 33 [.agg #[sv p1 y0.1 c1, sv p2 y0.2 c2]] [] [Rl eStr p1 c1 y0.1, Rl (eInt .i64) p2 c2 y0.2] (m_ref31_Validate y0) fun r K=>K (vi r) [] [] :=
 ent3 Tryz.call33 Tryz.func33 rfl fun X=>jsr<|jbx .s rfl<|fun b1=>jpc 1 rfl<|jot<|jsq<|jjn (fun s1 K=>K [(1, pt b1 0), (20, vb s1)] [bx b1 25 [sv p1 y0.1 c1, sv p2 y0.2 c2]] [Rl eStr p1 c1 y0.1, Rl (eInt .i64) p2 c2 y0.2]) (jrg<|jfa 0 rfl<|jlo 0 rfl rfl rfl<|
  jcl c_ref03_Valid rfl ⟨ck 0,⟨⟩⟩<|fun r1 _ k=>k<|jpc 2 rfl<|jsg 10 rfl (jpc 9 rfl<|jpe (vb true)<|joe<|jnn (gv (fun _ k=>k) [0] ⟨gk 0,gk 1,⟨⟩⟩))<|jfa 1 rfl<|jlo 0 rfl rfl rfl<|jpc 1 rfl<|jfa 0 rfl<|jlo 0 rfl rfl rfl<|jpc 1 rfl<|
  jpe (.int .u64 (IntKind.u64.wrap (len y0.1)))<|jbd fun x1 h1=>jv (fun h=>r_shlK h rfl rfl h1)<|jpc 1 rfl<|jpe (vb ((len y0.2) != x1))<|joe<|jnn (gv (fun _ k=>k) [0] ⟨gk 0,gk 1,⟨⟩⟩))<|fun s1 _ k=>k<|jif rfl (jsr<|jpc 1 rfl<|jot<|jxr<|jtr<|
  jr1 rfl rfl (fun _ k=>k) [] ⟨⟩)<|jsk<|jtn<|jsr<|jpc 1 rfl<|jot<|jjo (fun s2 K=>K [(1, pt b1 0), (3, vi s2)] [bx b1 25 [sv p1 y0.1 c1, sv p2 y0.2 c2]] [Rl eStr p1 c1 y0.1, Rl (eInt .i64) p2 c2 y0.2]) (jsr<|jpc 1 rfl<|jot<|jbk<|
  jlp (fun s3 K=>K [(1, pt b1 0), (3, vi s3.1), (4, vi s3.2)] [bx b1 25 [sv p1 y0.1 c1, sv p2 y0.2 c2]] [Rl eStr p1 c1 y0.1, Rl (eInt .i64) p2 c2 y0.2]) (gv (fun _ k=>k) [0] ⟨gk 0,gk 1,⟨⟩⟩)<|fun s3 _ k=>k<|jsq<|jsr<|jpc 1 rfl<|jfa 1 rfl<|
  jlo 0 rfl rfl rfl<|jpc 2 rfl<|jot<|jif rfl (jsk<|jtn<|jsq<|jbk<|jsq<|jjn (fun s4 K=>K [(1, pt b1 0), (3, vi s3.1), (4, vi s3.2), (44, vb s4)] [bx b1 25 [sv p1 y0.1 c1, sv p2 y0.2 c2]] [Rl eStr p1 c1 y0.1, Rl (eInt .i64) p2 c2 y0.2]) (
  jdS [] [0] 17<|jdf 0 1 rfl rfl<|jdo 1 0 rfl rfl rfl rfl<|jdc 14 [2] rfl<|jdi 3 1 rfl rfl rfl rfl<|fun x2 b2 o1=>jdl 4 false oI rfl (gk 0) rfl<|jdc 10 [5,6] rfl<|jsg 34 rfl (jdc 1 [7,8,9,10,11,12,13,14,15] rfl<|jdp 16 (vb true) rfl<|jde<|
  jnn (gv (fun _ k=>k) [0] ⟨gk 1,gk 2,⟨⟩⟩))<|jdf 7 1 rfl rfl<|jdo 8 0 rfl rfl rfl rfl<|jdc 7 [9] rfl<|jdi 10 2 rfl rfl rfl rfl<|fun x3 b3 o2=>jdl 11 false oI rfl (gk 0) rfl<|jdf 12 1 rfl rfl<|jdo 13 0 rfl rfl rfl rfl<|jdc 1 [14,15] rfl<|
  jdp 16 (vb (decide ((len y0.2) ≤ x3))) rfl<|jde<|jnn (gv (fun _ k=>k) [0] ⟨gk 2,gk 3,⟨⟩⟩))<|fun s4 _ k=>k<|jif rfl (jsr<|jpc 1 rfl<|jot<|jxr<|jtr<|jbr<|jtr<|jlr<|jbr<|jlr<|jr1 rfl rfl (fun _ k=>k) [] ⟨⟩)<|jsk<|jtn<|jrg<|jpc 1 rfl<|
  jfa 1 rfl<|jlo 0 rfl rfl rfl<|jpc 1 rfl<|jix 1 rfl rfl rfl<|fun x4 b4 o3=>jld false oI (gk 0) rfl<|jpc 2 rfl<|joe<|jbn<|jtn<|jrg<|jpc 3 rfl<|joe<|jln (gv (fun _ k=>k) [0] ⟨gk 1,gk 2,⟨⟩⟩))<|jxe<|jte<|jle<|jbh<|
  jln (gv (fun _ k=>k) [0] ⟨gk 0,gk 1,⟨⟩⟩))<|fun s2 _ k=>k<|jsq<|jsr<|jpc 1 rfl<|jot<|jbk<|
  jlp (fun s5 K=>K [(1, pt b1 0), (3, vi s2), (5, vi s5)] [bx b1 25 [sv p1 y0.1 c1, sv p2 y0.2 c2]] [Rl eStr p1 c1 y0.1, Rl (eInt .i64) p2 c2 y0.2]) (gv (fun _ k=>k) [0] ⟨gk 0,gk 1,⟨⟩⟩)<|fun s5 _ k=>k<|jsq<|jsr<|jpc 3 rfl<|jot<|jif rfl (jsk<|
  jtn<|jsq<|jbk<|jsr<|jfa 1 rfl<|jlo 0 rfl rfl rfl<|jpc 1 rfl<|jcl c_keep_In rfl ⟨ck 1,⟨⟩⟩<|fun r2 _ k=>k<|jpc 1 rfl<|jot<|jif rfl (jsr<|jpc 1 rfl<|jot<|jxr<|jbr<|jtr<|jlr<|jbr<|jtr<|jr1 rfl rfl (fun _ k=>k) [] ⟨⟩)<|jsk<|jbn<|jtn<|jrg<|
  jpc 3 rfl<|joe<|jln (gv (fun _ k=>k) [0] ⟨gk 0,gk 1,⟨⟩⟩))<|jxe<|jte<|jle<|jbh<|jtn<|jsr<|jpc 1 rfl<|jot<|jxr<|jr1 rfl rfl (fun _ k=>k) [] ⟨⟩

theorem c_ref31_Where {qd : Prop} {y0 : T_Order} {y1 : Int} {y2 : Int} : Con qd Tryz.prog 35 [.agg #[sv p1 y0.1 c1, sv p2 y0.2 c2], vi y1, vi y2] [] [Rl eStr p1 c1 y0.1, Rl (eInt .i64) p2 c2 y0.2] (m_ref31_Where y0 y1 y2) fun r K=>K (.int .u64 r) [] [] :=
 ent3 Tryz.call35 Tryz.func35 rfl fun X=>jsr<|jbx .s rfl<|fun b1=>jpc 1 rfl<|jot<|jsr<|jpc 1 rfl<|jot<|jsq<|jsr<|jpc 1 rfl<|jot<|jbk<|
  jlp (fun s1 K=>K [(1, vi y1), (2, vi y2), (3, pt b1 0), (7, .int .u64 s1.1), (8, vi s1.2)] [bx b1 25 [sv p1 y0.1 c1, sv p2 y0.2 c2]] [Rl eStr p1 c1 y0.1, Rl (eInt .i64) p2 c2 y0.2]) (gv (fun _ k=>k) [0] ⟨gk 0,gk 1,⟨⟩⟩)<|fun s1 _ k=>k<|jsq<|
  jsr<|jpc 1 rfl<|jfa 1 rfl<|jlo 0 rfl rfl rfl<|jpc 2 rfl<|jot<|jif rfl (jsk<|jtn<|jsq<|jbk<|
  jjn (fun s2 K=>K [(1, vi y1), (2, vi y2), (3, pt b1 0), (7, .int .u64 s1.1), (8, vi s1.2), (31, vb s2)] [bx b1 25 [sv p1 y0.1 c1, sv p2 y0.2 c2]] [Rl eStr p1 c1 y0.1, Rl (eInt .i64) p2 c2 y0.2]) (jrg<|jfa 1 rfl<|jlo 0 rfl rfl rfl<|
  jpc 1 rfl<|jix 1 rfl rfl rfl<|fun x1 b2 o1=>jld false oI (gk 0) rfl<|jpc 3 rfl<|jsg 23 rfl (jfa 1 rfl<|jlo 0 rfl rfl rfl<|jpc 1 rfl<|jix 2 rfl rfl rfl<|fun x2 b3 o2=>jld false oI (gk 0) rfl<|jpc 2 rfl<|jpe (vb (decide (x2 ≤ y2)))<|joe<|
  jnn (gv (fun _ k=>k) [0] ⟨gk 2,gk 3,⟨⟩⟩))<|jpc 7 rfl<|jpe (vb false)<|joe<|jnn (gv (fun _ k=>k) [0] ⟨gk 1,gk 2,⟨⟩⟩))<|fun s2 _ k=>k<|jif rfl (jrg<|jpc 2 rfl<|jpe (.int .u64 (IntKind.u64.wrap (s1.2)))<|jbd fun x3 h1=>
  jv (fun h=>r_shlK h rfl rfl h1)<|jpc 2 rfl<|joe<|jbn<|jtn<|jrg<|jpc 3 rfl<|joe<|jln (gv (fun _ k=>k) [0] ⟨gk 0,gk 1,⟨⟩⟩))<|jsk<|jbn<|jtn<|jrg<|jpc 3 rfl<|joe<|jln (gv (fun _ k=>k) [0] ⟨gk 0,gk 1,⟨⟩⟩))<|jxe<|jte<|jle<|jbh<|jtn<|jsr<|
  jpc 2 rfl<|jot<|jxr<|jr1 rfl rfl (fun _ k=>k) [] ⟨⟩

theorem c_ref31_Levels {qd : Prop} {y0 : T_Order} : Con qd Tryz.prog 12 [.agg #[sv p1 y0.1 c1, sv p2 y0.2 c2]] [] [Rl eStr p1 c1 y0.1, Rl (eInt .i64) p2 c2 y0.2] (m_ref31_Levels y0) fun r K=>∀ p3 c3,K (sv p3 r c3) [] [Rl (eInt .u64) p3 c3 r] :=
 ent3 Tryz.call12 Tryz.func12 rfl fun X=>jsr<|jbx .s rfl<|fun b1=>jpc 1 rfl<|jot<|jsq<|jsr<|jla 0 2 rfl rfl rfl<|jcl c_ref31_Validate rfl ⟨ck 0,ck 1,⟨⟩⟩<|fun r1 _ k=>k<|jpc 1 rfl<|jot<|jif rfl (jsr<|jpc 1 rfl<|jot<|jxr<|jtr<|jr1 rfl rfl (fun _ k=>k none 0) [] ⟨gn,⟨⟩⟩)<|jsk<|jtn<|
  jsr<|jpc 1 rfl<|jro (eInt .u64) 41<|jot<|jsq<|jsr<|jpc 1 rfl<|jot<|jbk<|
  jlp (fun s1 K=>∀ p3 c3 r_1,K [(1, pt b1 0), (3, sv p3 s1.1 c3), (4, vi s1.2)] [bx b1 25 [sv p1 y0.1 c1, sv p2 y0.2 c2], r_1] [Al (eInt .u64) 41 r_1 p3 c3 s1.1, Rl eStr p1 c1 y0.1, Rl (eInt .i64) p2 c2 y0.2]) (gv (fun _ k=>k none 0 []) [0,1] ⟨gk 0,gk 1,gk 2,⟨⟩⟩)<|
  fun s1 _ k p3 c3 r_1=>k<|jsq<|jsr<|jpc 1 rfl<|jla 0 2 rfl rfl rfl<|jcl c_ref31_Most rfl ⟨ck 1,ck 2,⟨⟩⟩<|fun r2 _ k=>k<|jpc 1 rfl<|jot<|jif rfl (jsk<|jtn<|jsq<|jbk<|jrg<|jpc 1 rfl<|jla 0 2 rfl rfl rfl<|jpc 2 rfl<|
  jcl c_ref31_Where rfl ⟨ck 1,ck 2,⟨⟩⟩<|fun r3 _ k=>k<|jbs .s (e := eInt .u64) 41 [.int .u64 r3] ([r3] : List Int) (rC vI rN)<|fun p4 c4=>jar .s 1 1 rfl (gk 0) rfl rfl<|fun x1 r_2 p5 c5=>jpc 1 rfl<|joe<|jbn<|jtn<|jrg<|jpc 3 rfl<|joe<|
  jln (gv (fun _ k=>k p5 c5 r_2) [0,1] ⟨gk 0,gk 3,gk 4,⟨⟩⟩))<|jxe<|jte<|jle<|jbh<|jtn<|jsr<|jpc 2 rfl<|jot<|jxr<|jsh 1 0 rfl rfl<|jr1 rfl rfl (fun _ k=>k p3 c3) [] ⟨gk 0,⟨⟩⟩

theorem c_ref31_Normal {qd : Prop} {y0 : List Str} {y1 : List Int} : Con qd Tryz.prog 25 [sv p1 y0 c1, sv p2 y1 c2] [] [Rl eStr p1 c1 y0, Rl (eInt .i64) p2 c2 y1] (m_ref31_Normal y0 y1) fun r K=>∀ p3 c3 p4 c4,K (.tuple #[.agg #[sv p3 r.1.1 c3, sv p4 r.1.2 c4], vi r.2]) [] [Rl eStr p3 c3 r.1.1, Rl (eInt .i64) p4 c4 r.1.2] :=
 ent3 Tryz.call25 Tryz.func25 rfl fun X=>jsr<|jal .s (.agg #[.slice none 0 0, .slice none 0 0])<|fun b1=>jpc 1 rfl<|jot<|jsq<|
  jjn (fun s1 K=>K [(0, sv p1 y0 c1), (1, sv p2 y1 c2), (4, pt b1 0), (21, vb s1)] [bx b1 25 [.slice none 0 0, .slice none 0 0]] [Rl eStr p1 c1 y0, Rl (eInt .i64) p2 c2 y1]) (jrg<|jpc 1 rfl<|jcl c_ref03_Valid rfl ⟨ck 0,⟨⟩⟩<|fun r1 _ k=>k<|
  jpc 2 rfl<|jsg 13 rfl (jpc 7 rfl<|jpe (vb true)<|joe<|jnn (gv (fun _ k=>k) [0] ⟨gk 0,gk 1,⟨⟩⟩))<|jpc 4 rfl<|jpe (.int .u64 (IntKind.u64.wrap (len y0)))<|jbd fun x1 h1=>jv (fun h=>r_shlK h rfl rfl h1)<|jpc 1 rfl<|jpe (vb ((len y1) != x1))<|
  joe<|jnn (gv (fun _ k=>k) [0] ⟨gk 0,gk 1,⟨⟩⟩))<|fun s1 _ k=>k<|jif rfl (jsr<|jpe (.agg #[.slice none 0 0, .slice none 0 0])<|jso .s 0 rfl rfl rfl<|jpc 1 rfl<|jot<|jxr<|jtr<|
  jrg' rfl (lC 0 (.agg #[.slice none 0 0, .slice none 0 0]) rfl rfl (lT rfl lN)) (fun _ k=>k none 0 none 0) [] ⟨gn,gn,⟨⟩⟩)<|jsk<|jtn<|
  jjn (fun s2 K=>∀ b2 p3 c3 r_1 p4 c4 r_2,K [(1, sv p2 y1 c2), (4, pt b1 0), (6, pt b2 0)] [bx b1 25 [.slice none 0 0, .slice none 0 0], bx b2 25 [sv p3 s2.1 c3, sv p4 s2.2 c4], r_1, r_2] [Al eStr 9 r_1 p3 c3 s2.1, Al (eInt .i64) 3 r_2 p4 c4 s2.2, Rl (eInt .i64) p2 c2 y1]) (
  jdS [] [] 9<|jdc 6 [1,3,4] rfl<|jd3 0 5 7 (jbo (.f rfl) (e := eStr) 9 [] ([] : List Str) rN<|fun r_3 p5 c5=>jdn<|jd3 2 5 7 (jar (.f rfl) 1 0 rfl (gk 1) rfl rfl<|fun x2 r_4 p6 c6=>jdn<|jd2 5 7 (
  jmk (.f rfl) (e := eInt .i64) 3 (0 : Int) (vi 0) vI rfl rfl<|fun x3 r_5 p7 c7=>jdn<|jdp 6 (.agg #[sv p6 x2 c6, sv p7 x3 c7]) rfl<|jd1 7<|jal (.f rfl) (.agg #[.slice none 0 0, .slice none 0 0])<|fun b3=>jdn<|jd1 8<|
  jso (o := 0) (.f rfl) 3 rfl rfl rfl<|jdn<|jde<|jnn (gv (fun _ k=>k b3 p6 c6 r_4 p7 c7 r_5) [0,3,1,2] ⟨gk 1,gk 0,gk 4,⟨⟩⟩)) <|jal (.f rfl) (.agg #[.slice none 0 0, .slice none 0 0])<|fun b4=>jdn<|jd1 5<|
  jmk (.f rfl) (e := eInt .i64) 3 (0 : Int) (vi 0) vI rfl rfl<|fun x4 r_6 p8 c8=>jdn<|jdp 6 (.agg #[sv p6 x2 c6, sv p8 x4 c8]) rfl<|jd1 8<|jso (o := 0) (.f rfl) 2 rfl rfl rfl<|jdn<|jde<|
  jnn (gv (fun _ k=>k b4 p6 c6 r_4 p8 c8 r_6) [0,2,1,3] ⟨gk 1,gk 0,gk 4,⟨⟩⟩)) (jcm<|jmk (.f rfl) (e := eInt .i64) 3 (0 : Int) (vi 0) vI rfl rfl<|fun x5 r_7 p9 c9=>jdn<|jd2 2 7 (jar (.f rfl) 1 1 rfl (gk 2) rfl rfl<|fun x6 r_8 p10 c10=>jdn<|
  jdp 6 (.agg #[sv p10 x6 c10, sv p9 x5 c9]) rfl<|jd1 7<|jal (.f rfl) (.agg #[.slice none 0 0, .slice none 0 0])<|fun b5=>jdn<|jd1 8<|jso (o := 0) (.f rfl) 3 rfl rfl rfl<|jdn<|jde<|
  jnn (gv (fun _ k=>k b5 p10 c10 r_8 p9 c9 r_7) [0,3,1,2] ⟨gk 0,gk 1,gk 4,⟨⟩⟩)) <|jal (.f rfl) (.agg #[.slice none 0 0, .slice none 0 0])<|fun b6=>jdn<|jd1 2<|jar (.f rfl) 1 1 rfl (gk 2) rfl rfl<|fun x7 r_9 p11 c11=>jdn<|
  jdp 6 (.agg #[sv p11 x7 c11, sv p9 x5 c9]) rfl<|jd1 8<|jso (o := 0) (.f rfl) 3 rfl rfl rfl<|jdn<|jde<|jnn (gv (fun _ k=>k b6 p11 c11 r_9 p9 c9 r_7) [0,3,1,2] ⟨gk 0,gk 1,gk 4,⟨⟩⟩)) <|jal (.f rfl) (.agg #[.slice none 0 0, .slice none 0 0])<|
  fun b7=>jdn<|jd2 2 5 (jar (.f rfl) 1 0 rfl (gk 1) rfl rfl<|fun x8 r_10 p12 c12=>jdn<|jd1 5<|jmk (.f rfl) (e := eInt .i64) 3 (0 : Int) (vi 0) vI rfl rfl<|fun x9 r_11 p13 c13=>jdn<|jdp 6 (.agg #[sv p12 x8 c12, sv p13 x9 c13]) rfl<|jd1 8<|
  jso (o := 0) (.f rfl) 2 rfl rfl rfl<|jdn<|jde<|jnn (gv (fun _ k=>k b7 p12 c12 r_10 p13 c13 r_11) [0,2,1,3] ⟨gk 1,gk 0,gk 4,⟨⟩⟩)) <|jcm<|jmk (.f rfl) (e := eInt .i64) 3 (0 : Int) (vi 0) vI rfl rfl<|fun x10 r_12 p14 c14=>jdn<|jd1 2<|
  jar (.f rfl) 1 1 rfl (gk 2) rfl rfl<|fun x11 r_13 p15 c15=>jdn<|jdp 6 (.agg #[sv p15 x11 c15, sv p14 x10 c14]) rfl<|jd1 8<|jso (o := 0) (.f rfl) 2 rfl rfl rfl<|jdn<|jde<|
  jnn (gv (fun _ k=>k b7 p15 c15 r_13 p14 c14 r_12) [0,2,1,3] ⟨gk 0,gk 1,gk 4,⟨⟩⟩)) (jcm<|jmk (.f rfl) (e := eInt .i64) 3 (0 : Int) (vi 0) vI rfl rfl<|fun x12 r_14 p16 c16=>jdn<|jd2 0 7 (jbo (.f rfl) (e := eStr) 9 [] ([] : List Str) rN<|
  fun r_15 p17 c17=>jdn<|jd2 2 7 (jar (.f rfl) 2 0 rfl (gk 2) rfl rfl<|fun x13 r_16 p18 c18=>jdn<|jdp 6 (.agg #[sv p18 x13 c18, sv p16 x12 c16]) rfl<|jd1 7<|jal (.f rfl) (.agg #[.slice none 0 0, .slice none 0 0])<|fun b8=>jdn<|jd1 8<|
  jso (o := 0) (.f rfl) 3 rfl rfl rfl<|jdn<|jde<|jnn (gv (fun _ k=>k b8 p18 c18 r_16 p16 c16 r_14) [0,3,2,1] ⟨gk 0,gk 2,gk 4,⟨⟩⟩)) <|jal (.f rfl) (.agg #[.slice none 0 0, .slice none 0 0])<|fun b9=>jdn<|jd1 2<|
  jar (.f rfl) 2 0 rfl (gk 2) rfl rfl<|fun x14 r_17 p19 c19=>jdn<|jdp 6 (.agg #[sv p19 x14 c19, sv p16 x12 c16]) rfl<|jd1 8<|jso (o := 0) (.f rfl) 3 rfl rfl rfl<|jdn<|jde<|
  jnn (gv (fun _ k=>k b9 p19 c19 r_17 p16 c16 r_14) [0,3,2,1] ⟨gk 0,gk 2,gk 4,⟨⟩⟩)) <|jal (.f rfl) (.agg #[.slice none 0 0, .slice none 0 0])<|fun b10=>jdn<|jd1 0<|jbo (.f rfl) (e := eStr) 9 [] ([] : List Str) rN<|fun r_18 p20 c20=>jdn<|
  jd1 2<|jar (.f rfl) 3 0 rfl (gk 2) rfl rfl<|fun x15 r_19 p21 c21=>jdn<|jdp 6 (.agg #[sv p21 x15 c21, sv p16 x12 c16]) rfl<|jd1 8<|jso (o := 0) (.f rfl) 2 rfl rfl rfl<|jdn<|jde<|
  jnn (gv (fun _ k=>k b10 p21 c21 r_19 p16 c16 r_14) [0,2,3,1] ⟨gk 0,gk 2,gk 4,⟨⟩⟩)) <|jal (.f rfl) (.agg #[.slice none 0 0, .slice none 0 0])<|fun b11=>jdn<|jd2 0 5 (jbo (.f rfl) (e := eStr) 9 [] ([] : List Str) rN<|fun r_20 p22 c22=>jdn<|
  jd2 2 5 (jar (.f rfl) 2 0 rfl (gk 1) rfl rfl<|fun x16 r_21 p23 c23=>jdn<|jd1 5<|jmk (.f rfl) (e := eInt .i64) 3 (0 : Int) (vi 0) vI rfl rfl<|fun x17 r_22 p24 c24=>jdn<|jdp 6 (.agg #[sv p23 x16 c23, sv p24 x17 c24]) rfl<|jd1 8<|
  jso (o := 0) (.f rfl) 1 rfl rfl rfl<|jdn<|jde<|jnn (gv (fun _ k=>k b11 p23 c23 r_21 p24 c24 r_22) [0,1,2,3] ⟨gk 1,gk 0,gk 4,⟨⟩⟩)) <|jcm<|jmk (.f rfl) (e := eInt .i64) 3 (0 : Int) (vi 0) vI rfl rfl<|fun x18 r_23 p25 c25=>jdn<|jd1 2<|
  jar (.f rfl) 2 1 rfl (gk 2) rfl rfl<|fun x19 r_24 p26 c26=>jdn<|jdp 6 (.agg #[sv p26 x19 c26, sv p25 x18 c25]) rfl<|jd1 8<|jso (o := 0) (.f rfl) 1 rfl rfl rfl<|jdn<|jde<|
  jnn (gv (fun _ k=>k b11 p26 c26 r_24 p25 c25 r_23) [0,1,2,3] ⟨gk 0,gk 1,gk 4,⟨⟩⟩)) <|jcm<|jmk (.f rfl) (e := eInt .i64) 3 (0 : Int) (vi 0) vI rfl rfl<|fun x20 r_25 p27 c27=>jdn<|jd1 0<|jbo (.f rfl) (e := eStr) 9 [] ([] : List Str) rN<|
  fun r_26 p28 c28=>jdn<|jd1 2<|jar (.f rfl) 3 0 rfl (gk 2) rfl rfl<|fun x21 r_27 p29 c29=>jdn<|jdp 6 (.agg #[sv p29 x21 c29, sv p27 x20 c27]) rfl<|jd1 8<|jso (o := 0) (.f rfl) 1 rfl rfl rfl<|jdn<|jde<|
  jnn (gv (fun _ k=>k b11 p29 c29 r_27 p27 c27 r_25) [0,1,3,2] ⟨gk 0,gk 2,gk 4,⟨⟩⟩))<|fun s2 _ k b2 p3 c3 r_1 p4 c4 r_2=>k<|
  jjn (fun s3 K=>∀ p30 c30 r_28,K [(4, pt b1 0), (6, pt b2 0)] [bx b1 25 [.slice none 0 0, .slice none 0 0], bx b2 25 [sv p3 s2.1 c3, sv p30 s3 c30], r_1, r_28] [Al (eInt .i64) 3 r_28 p30 c30 s3, Al eStr 9 r_1 p3 c3 s2.1]) (jsr<|jpc 1 rfl<|
  jot<|jbk<|
  jlp (fun s4 K=>∀ p31 c31 r_29,K [(1, sv p2 y1 c2), (4, pt b1 0), (6, pt b2 0), (7, vi s4.1)] [bx b1 25 [.slice none 0 0, .slice none 0 0], bx b2 25 [sv p3 s2.1 c3, sv p31 s4.2 c31], r_1, r_29] [Al (eInt .i64) 3 r_29 p31 c31 s4.2, Rl (eInt .i64) p2 c2 y1, Al eStr 9 r_1 p3 c3 s2.1]) (gv (fun _ k=>k p4 c4 r_2) [0,1,2,3] ⟨gk 1,gk 2,gk 0,⟨⟩⟩)<|
  fun s4 _ k p31 c31 r_29=>k<|jsq<|jsr<|jpc 4 rfl<|jot<|jif rfl (jsk<|jtn<|jsq<|jbk<|jsr<|jpc 1 rfl<|jro (eInt .i64) 3<|jot<|
  jjn (fun s5 K=>∀ p32 c32 r_30,K [(1, sv p2 y1 c2), (4, pt b1 0), (6, pt b2 0), (7, vi s4.1), (8, sv p32 s5 c32)] [bx b1 25 [.slice none 0 0, .slice none 0 0], bx b2 25 [sv p3 s2.1 c3, sv p31 s4.2 c31], r_1, r_29, r_30] [Al (eInt .i64) 3 r_30 p32 c32 s5, Rl (eInt .i64) p2 c2 y1, Al eStr 9 r_1 p3 c3 s2.1, Al (eInt .i64) 3 r_29 p31 c31 s4.2]) (
  jsr<|jpc 1 rfl<|jot<|jbk<|
  jlp (fun s6 K=>∀ p33 c33 r_31,K [(1, sv p2 y1 c2), (4, pt b1 0), (6, pt b2 0), (7, vi s4.1), (8, sv p33 s6.1 c33), (9, vi s6.2)] [bx b1 25 [.slice none 0 0, .slice none 0 0], bx b2 25 [sv p3 s2.1 c3, sv p31 s4.2 c31], r_1, r_29, r_31] [Al (eInt .i64) 3 r_31 p33 c33 s6.1, Rl (eInt .i64) p2 c2 y1, Al eStr 9 r_1 p3 c3 s2.1, Al (eInt .i64) 3 r_29 p31 c31 s4.2]) (gv (fun _ k=>k none 0 []) [0,1,2,3,4] ⟨gk 0,gk 2,gk 3,gk 1,⟨⟩⟩)<|
  fun s6 _ k p33 c33 r_31=>k<|jsq<|jsr<|jpc 4 rfl<|jot<|jif rfl (jsk<|jtn<|jsq<|jbk<|
  jjn (fun s7 K=>K [(1, sv p2 y1 c2), (4, pt b1 0), (6, pt b2 0), (7, vi s4.1), (8, sv p33 s6.1 c33), (9, vi s6.2), (59, vb s7)] [bx b1 25 [.slice none 0 0, .slice none 0 0], bx b2 25 [sv p3 s2.1 c3, sv p31 s4.2 c31], r_1, r_29, r_31] [Rl (eInt .i64) p2 c2 y1, Al (eInt .i64) 3 r_31 p33 c33 s6.1, Al eStr 9 r_1 p3 c3 s2.1, Al (eInt .i64) 3 r_29 p31 c31 s4.2]) (
  jdS [] [] 18<|jdc 16 [0,1] rfl<|jdi 2 1 rfl rfl rfl rfl<|fun x22 b12 o1=>jdl 3 false oI rfl (gk 0) rfl<|jdc 12 [4,5] rfl<|jdi 6 2 rfl rfl rfl rfl<|fun x23 b13 o2=>jdl 7 false oI rfl (gk 0) rfl<|jdc 8 [8,9] rfl<|jsg 51 rfl (
  jdc 5 [10,11,12] rfl<|jdi 13 3 rfl rfl rfl rfl<|fun x24 b14 o3=>jdl 14 false oI rfl (gk 0) rfl<|jd1 15<|jca (.f rfl) [] [4] c_keep_In rfl rfl rfl ⟨cl 4 3,⟨⟩⟩<|fun r2 _ k=>k<|jdn<|jdc 1 [16] rfl<|jdp 17 (vb (!r2)) rfl<|jde<|
  jnn (gv (fun _ k=>k) [0,1,2,3,4] ⟨gk 4,gk 3,gk 5,gk 6,⟨⟩⟩))<|jdc 1 [10,11,12,13,14,15,16] rfl<|jdp 17 (vb false) rfl<|jde<|jnn (gv (fun _ k=>k) [0,1,2,3,4] ⟨gk 3,gk 2,gk 4,gk 5,⟨⟩⟩))<|fun s7 _ k=>k<|jif rfl (jrg<|jpc 3 rfl<|
  jix 0 rfl rfl rfl<|fun x25 b15 o4=>jld false oI (gk 0) rfl<|jbs .s (e := eInt .i64) 3 [vi x25] ([x25] : List Int) (rC vI rN)<|fun p34 c34=>jar .s 4 3 rfl (gk 0) rfl rfl<|fun x26 r_32 p35 c35=>jpc 1 rfl<|joe<|jbn<|jtn<|jrg<|jpc 3 rfl<|joe<|
  jln (gv (fun _ k=>k p35 c35 r_32) [0,1,2,3,4] ⟨gk 0,gk 3,gk 5,gk 6,⟨⟩⟩))<|jsk<|jbn<|jtn<|jrg<|jpc 3 rfl<|joe<|jln (gv (fun _ k=>k p33 c33 r_31) [0,1,2,3,4] ⟨gk 1,gk 0,gk 2,gk 3,⟨⟩⟩))<|jxe<|jte<|jle<|jbh<|
  jnn (gv (fun _ k=>k p33 c33 r_31) [0,1,2,3,4] ⟨gk 0,gk 1,gk 2,gk 3,⟨⟩⟩))<|fun s5 _ k p32 c32 r_30=>k<|jrg<|jfa 1 rfl<|jlo 1 rfl rfl rfl<|jpc 3 rfl<|jia 3 rfl rfl rfl<|fun x27 h14 b16 hp1=>
  jsA .s 3 3 sI (len s5) false rfl hp1 h14 rfl rfl vI<|fun r_33=>joe<|jbn<|jtn<|jrg<|jpc 3 rfl<|joe<|jbL (fun q_=>[bx b1 25 [.slice none 0 0, .slice none 0 0], bx b2 25 [sv p3 s2.1 c3, .slice p31 q_ c31], r_1, r_33, r_30]) (gk 0) rfl<|
  jln (gv (fun _ k=>k p31 c31 r_33) [0,1,2,3] ⟨gk 0,gk 3,gk 4,⟨⟩⟩))<|jxe<|jte<|jle<|jbh<|jnn (gv (fun _ k=>k p31 c31 r_29) [0,1,2,3] ⟨gk 0,gk 2,⟨⟩⟩))<|fun s3 _ k p30 c30 r_28=>k<|jsr<|jla 1 2 rfl rfl rfl<|jso .s 0 rfl rfl rfl<|jpc 1 rfl<|
  jot<|jxr<|jsh 2 1 rfl rfl<|jsh 3 1 rfl rfl<|jrg' rfl (lC 0 (.agg #[sv p3 s2.1 c3, sv p30 s3 c30]) rfl rfl (lT rfl lN)) (fun _ k=>k p3 c3 p30 c30) [] ⟨gk 1,gk 0,⟨⟩⟩

theorem c_ref31_Some {qd : Prop} {y0 : T_keep_Src} {y1 : Int} : Con qd Tryz.prog 7 [pt b1 0, vi y1] [bx b1 68 [sv p1 y0.1 c1, vi y0.2]] [Rl (eInt .i64) p1 c1 y0.1] (m_ref31_Some y0 y1) fun r K=>∀ p2 c2 p3 c3,K (.agg #[sv p2 r.1.1 c2, sv p3 r.1.2 c3]) [bx b1 68 [sv p1 y0.1 c1, vi r.2]] [Rl eStr p2 c2 r.1.1, Rl (eInt .i64) p3 c3 r.1.2] :=
 ent3 Tryz.call7 Tryz.func7 rfl fun X=>jsr<|jal .s (.agg #[.slice none 0 0, .slice none 0 0])<|fun b2=>jot<|jsr<|jpc 1 rfl<|jpe (.int .u64 (IntKind.u64.wrap (y1)))<|jbd fun x1 h1=>jv (fun h=>r_shlK h rfl rfl h1)<|jmk .s (e := eInt .i64) 3 (0 : Int) (vi 0) vI rfl rfl<|
  fun x2 r_1 p2 c2=>jpc 1 rfl<|jot<|jsr<|jpc 1 rfl<|jca .s [0] [] c_keep_Src_Range rfl rfl rfl ⟨ck 1,⟨⟩⟩<|fun r1 _ k=>k<|jpc 1 rfl<|jot<|
  jjn (fun s1 K=>∀ r_2,K [(1, vi y1), (4, pt b2 0), (5, .slice p2 (List.length x2) c2)] [bx b1 68 [sv p1 y0.1 c1, vi s1.2], bx b2 25 [.slice none 0 0, .slice none 0 0], r_2] [Ar (eInt .i64) 3 r_2 p2 c2 (List.length x2) s1.1, Rl (eInt .i64) p1 c1 y0.1]) (
  jsr<|jpc 1 rfl<|jot<|jbk<|
  jlp (fun s2 K=>∀ r_3,K [(0, pt b1 0), (1, vi y1), (4, pt b2 0), (5, .slice p2 (List.length x2) c2), (6, vi r1.1), (7, vi s2.2.1)] [bx b1 68 [sv p1 y0.1 c1, vi s2.2.2], bx b2 25 [.slice none 0 0, .slice none 0 0], r_3] [Ar (eInt .i64) 3 r_3 p2 c2 (List.length x2) s2.1, Rl (eInt .i64) p1 c1 y0.1]) (gv (fun _ k=>k r_1) [0,1,2] ⟨gk 0,gk 1,⟨⟩⟩)<|
  fun s2 _ k r_3=>k<|jsq<|jsr<|jpc 4 rfl<|jot<|jif rfl (jsk<|jtn<|jsq<|jbk<|jrg<|jpc 4 rfl<|jca .s [0] [] c_keep_Src_N rfl rfl rfl ⟨ck 1,⟨⟩⟩<|fun r2 _ k=>k<|jia 0 rfl rfl rfl<|fun x3 h2 b3 hp1=>jsA .s 2 0 sI r2.1 false rfl hp1 h2 rfl rfl vI<|
  fun r_4=>joe<|jbn<|jtn<|jrg<|jpc 3 rfl<|joe<|jln (gv (fun _ k=>k r_4) [0,1,2] ⟨gk 0,gk 2,⟨⟩⟩))<|jxe<|jte<|jle<|jbh<|jnn (gv (fun _ k=>k r_3) [0,1,2] ⟨gk 0,gk 1,⟨⟩⟩))<|fun s1 _ k r_2=>k<|jsr<|jpc 1 rfl<|jcl c_keep_Voc rfl ⟨⟩<|
  fun r3 _ k p3 c3=>k<|jpc 1 rfl<|jrE 1 31 rfl rfl<|jsh 2 0 rfl rfl<|jcl c_ref31_Normal rfl ⟨ck 2,ck 0,⟨⟩⟩<|fun r4 _ k p4 c4 p5 c5=>k<|jpc 3 rfl<|jal .s (.agg #[.slice none 0 0, .slice none 0 0])<|fun b4=>jso .s 3 rfl rfl rfl<|jpc 1 rfl<|
  jot<|jsr<|jla 3 2 rfl rfl rfl<|jso .s 1 rfl rfl rfl<|jot<|jxr<|jrg' rfl (lC 1 (.agg #[sv p4 r4.1.1 c4, sv p5 r4.1.2 c5]) rfl rfl lN) (fun _ k=>k p4 c4 p5 c5) [0] ⟨gk 0,gk 1,⟨⟩⟩

theorem c_ref02_strength {qd : Prop} {y0 : T_Formula} : Con qd Tryz.prog 146 [.agg #[vi ((fv y0).1), vs ((fv y0).2.1), sv p1 ((fv y0).2.2) c1]] [] [Rl e_Formula p1 c1 ((fv y0).2.2)] (m_ref02_strength y0) fun r K=>K (vi r) [] [] :=
 ent3 Tryz.call146 Tryz.func146 rfl fun X=>jsr<|jbx .s rfl<|fun b1=>jpc 1 rfl<|jot<|jsq<|jsr<|jfa 0 rfl<|jlo 0 rfl rfl rfl<|jot<|jbk<|jsr<|jpc 2 rfl<|jot<|jif rfl (jsr<|jpc 1 rfl<|jot<|jxr<|jbr<|jtr<|jr1 rfl rfl (fun _ k=>k) [] ⟨⟩)<|jsr<|jpc 2 rfl<|jot<|jif rfl (jsr<|jpc 1 rfl<|
  jot<|jxr<|jbr<|jtr<|jr1 rfl rfl (fun _ k=>k) [] ⟨⟩)<|jsr<|jpc 2 rfl<|jot<|jif rfl (jsr<|jpc 1 rfl<|jot<|jxr<|jbr<|jtr<|jr1 rfl rfl (fun _ k=>k) [] ⟨⟩)<|jsr<|jpc 2 rfl<|jot<|jif rfl (jsr<|jpc 1 rfl<|jot<|jxr<|jbr<|jtr<|
  jr1 rfl rfl (fun _ k=>k) [] ⟨⟩)<|jsk<|jbn<|jtn<|jsr<|jpc 1 rfl<|jot<|jxr<|jr1 rfl rfl (fun _ k=>k) [] ⟨⟩

theorem k_ref02_argument_all {qd : Prop} (k : Nat) :
    (∀ {y0 : T_Formula} {p1 : Option Addr} {c1 : Nat} {y1 : Int}, Con qd Tryz.prog 128 [.agg #[vi ((fv y0).1), vs ((fv y0).2.1), sv p1 ((fv y0).2.2) c1], vi y1] [] [Rl e_Formula p1 c1 ((fv y0).2.2)] (k_ref02_argument k y0 y1) fun r K=>K (vs r) [] []) ∧
    (∀ {y0 : List T_Formula} {p1 : Option Addr} {c1 : Nat} {y1 : Str} {y2 : Int}, Con qd Tryz.prog 129 [sv p1 y0 c1, vs y1, vi y2] [] [Rl e_Formula p1 c1 y0] (k_ref02_joined k y0 y1 y2) fun r K=>K (vs r) [] []) ∧
    (∀ {y0 : T_Formula} {p1 : Option Addr} {c1 : Nat}, Con qd Tryz.prog 76 [.agg #[vi ((fv y0).1), vs ((fv y0).2.1), sv p1 ((fv y0).2.2) c1]] [] [Rl e_Formula p1 c1 ((fv y0).2.2)] (k_ref02_text k y0) fun r K=>K (vs r) [] []) := by
  induction k with
  | zero => exact ⟨con0 Tryz.call128, con0 Tryz.call129, con0 Tryz.call76⟩
  | succ k ih =>
    obtain ⟨ih_ref02_argument, ih_ref02_joined, ih_ref02_text⟩ := ih
    exact ⟨@fun y0 p1 c1 y1=>ent3 (m1 := F_ref02_argument (k_ref02_argument k) (k_ref02_joined k) (k_ref02_text k) y0 y1) Tryz.call128 Tryz.func128 rfl fun X=>jsr<|jbx .s rfl<|fun b1=>jpc 1 rfl<|jot<|jsq<|jsr<|jla 0 3 rfl rfl rfl<|jcl c_ref02_strength rfl ⟨ck 0,⟨⟩⟩<|fun r1 _ k=>k<|jpc 2 rfl<|jot<|jif rfl (jsr<|jla 0 3 rfl rfl rfl<|jcl ih_ref02_text rfl ⟨ck 0,⟨⟩⟩<|fun r2 _ k=>k<|jbd fun x1 h1=>
  jv (fun h=>r_cat h rfl rfl h1)<|jbd fun x2 h2=>jv (fun h=>r_cat h rfl rfl h2)<|jpc 1 rfl<|jot<|jxr<|jtr<|jr1 rfl rfl (fun _ k=>k) [] ⟨⟩)<|jsk<|jtn<|jsr<|jla 0 3 rfl rfl rfl<|jcl ih_ref02_text rfl ⟨ck 0,⟨⟩⟩<|fun r3 _ k=>k<|jpc 1 rfl<|jot<|
  jxr<|jr1 rfl rfl (fun _ k=>k) [] ⟨⟩,
    @fun y0 p1 c1 y1 y2=>ent3 (m1 := F_ref02_joined (k_ref02_argument k) (k_ref02_joined k) (k_ref02_text k) y0 y1 y2) Tryz.call129 Tryz.func129 rfl fun X=>jsr<|jpc 1 rfl<|jot<|jsr<|jpc 1 rfl<|jix 0 rfl rfl rfl<|fun x1 b1 o1=>jld true o_Formula (gk 0) rfl<|fun p2 c2=>jpc 1 rfl<|jcl ih_ref02_argument rfl ⟨ck 0,⟨⟩⟩<|fun r1 _ k=>k<|jpc 1 rfl<|jot<|jsq<|jsr<|jpc 1 rfl<|jot<|jbk<|
  jlp (fun s1 K=>K [(0, sv p1 y0 c1), (1, vs y1), (2, vi y2), (7, vs s1.1), (8, vi s1.2)] [] [Rl e_Formula p1 c1 y0]) (gv (fun _ k=>k) [] ⟨gk 2,⟨⟩⟩)<|fun s1 _ k=>k<|jsq<|jsr<|jpc 4 rfl<|jot<|jif rfl (jsk<|jtn<|jsq<|jbk<|jrg<|jpc 2 rfl<|
  jbd fun x2 h1=>jv (fun h=>r_cat h rfl rfl h1)<|jpc 2 rfl<|jix 0 rfl rfl rfl<|fun x3 b2 o2=>jld true o_Formula (gk 0) rfl<|fun p3 c3=>jpc 1 rfl<|jcl ih_ref02_argument rfl ⟨ck 0,⟨⟩⟩<|fun r2 _ k=>k<|jbd fun x4 h2=>
  jv (fun h=>r_cat h rfl rfl h2)<|jpc 1 rfl<|joe<|jbn<|jtn<|jrg<|jpc 3 rfl<|joe<|jln (gv (fun _ k=>k) [] ⟨gk 2,⟨⟩⟩))<|jxe<|jte<|jle<|jbh<|jtn<|jsr<|jpc 2 rfl<|jot<|jxr<|jr1 rfl rfl (fun _ k=>k) [] ⟨⟩,
    @fun y0 p1 c1=>ent3 (m1 := F_ref02_text (k_ref02_argument k) (k_ref02_joined k) (k_ref02_text k) y0) Tryz.call76 Tryz.func76 rfl fun X=>jsr<|jbx .s rfl<|fun b1=>jpc 1 rfl<|jot<|jsq<|jsr<|jfa 0 rfl<|jlo 0 rfl rfl rfl<|jot<|jbk<|jsr<|jpc 2 rfl<|jot<|jif rfl (jsr<|jpc 1 rfl<|jot<|jxr<|jbr<|jtr<|jr1 rfl rfl (fun _ k=>k) [] ⟨⟩)<|jsr<|jpc 2 rfl<|jot<|jif rfl (jsr<|jpc 1 rfl<|
  jot<|jxr<|jbr<|jtr<|jr1 rfl rfl (fun _ k=>k) [] ⟨⟩)<|jsr<|jpc 2 rfl<|jot<|jif rfl (jsr<|jfa 1 rfl<|jlo 0 rfl rfl rfl<|jpc 1 rfl<|jot<|jxr<|jbr<|jtr<|jr1 rfl rfl (fun _ k=>k) [] ⟨⟩)<|jsr<|jpc 2 rfl<|jot<|jif rfl (jsr<|jfa 2 rfl<|
  jlo 0 rfl rfl rfl<|jix 0 rfl rfl rfl<|fun x1 b2 o1=>jld true o_Formula (gk 0) rfl<|fun p2 c2=>jcl ih_ref02_argument rfl ⟨ck 0,⟨⟩⟩<|fun r1 _ k=>k<|jbd fun x2 h1=>jv (fun h=>r_cat h rfl rfl h1)<|jpc 1 rfl<|jot<|jxr<|jbr<|jtr<|
  jr1 rfl rfl (fun _ k=>k) [] ⟨⟩)<|jsr<|jpc 2 rfl<|jot<|jif rfl (jsr<|jfa 2 rfl<|jlo 0 rfl rfl rfl<|jcl ih_ref02_joined rfl ⟨ck 0,⟨⟩⟩<|fun r2 _ k=>k<|jpc 1 rfl<|jot<|jxr<|jbr<|jtr<|jr1 rfl rfl (fun _ k=>k) [] ⟨⟩)<|jsr<|jpc 2 rfl<|jot<|
  jif rfl (jsr<|jfa 2 rfl<|jlo 0 rfl rfl rfl<|jcl ih_ref02_joined rfl ⟨ck 0,⟨⟩⟩<|fun r3 _ k=>k<|jpc 1 rfl<|jot<|jxr<|jbr<|jtr<|jr1 rfl rfl (fun _ k=>k) [] ⟨⟩)<|jsr<|jpc 2 rfl<|jot<|jif rfl (jds [] [0] 13<|jdf 0 2 rfl rfl<|
  jdo 1 0 rfl rfl rfl rfl<|jdi 2 0 rfl rfl rfl rfl<|fun x3 b3 o2=>jdl 3 true o_Formula rfl (gk 0) rfl<|fun p3 c3=>jdf 6 2 rfl rfl<|jdo 7 0 rfl rfl rfl rfl<|jdi 8 2 rfl rfl rfl rfl<|fun x4 b4 o3=>jdl 9 true o_Formula rfl (gk 0) rfl<|
  fun p4 c4=>jd1 4<|jca (.f rfl) [] [] ih_ref02_argument rfl rfl rfl ⟨ck 2,⟨⟩⟩<|fun r4 _ k=>k<|jdn<|jbd fun x5 h2=>jdv 5 rfl (fun h=>r_cat h rfl rfl h2)<|jd1 10<|jca (.f rfl) [] [] ih_ref02_argument rfl rfl rfl ⟨ck 0,⟨⟩⟩<|fun r5 _ k=>k<|jdn<|
  jbd fun x6 h3=>jdv 11 rfl (fun h=>r_cat h rfl rfl h3)<|jdc 0 [12] rfl<|jde<|jtn<|jxr<|jbr<|jtr<|jr1 rfl rfl (fun _ k=>k) [] ⟨⟩)<|jsk<|jbn<|jtn<|jsr<|jfa 2 rfl<|jlo 0 rfl rfl rfl<|jcl ih_ref02_joined rfl ⟨ck 0,⟨⟩⟩<|fun r6 _ k=>k<|jpc 1 rfl<|
  jot<|jxr<|jr1 rfl rfl (fun _ k=>k) [] ⟨⟩⟩

theorem c_ref02_argument {qd : Prop} {y0 : T_Formula} {y1 : Int} : Con qd Tryz.prog 128 [.agg #[vi ((fv y0).1), vs ((fv y0).2.1), sv p1 ((fv y0).2.2) c1], vi y1] [] [Rl e_Formula p1 c1 ((fv y0).2.2)] (m_ref02_argument y0 y1) fun r K=>K (vs r) [] [] := conLim fun k => (k_ref02_argument_all k).1

theorem c_ref02_joined {qd : Prop} {y0 : List T_Formula} {y1 : Str} {y2 : Int} : Con qd Tryz.prog 129 [sv p1 y0 c1, vs y1, vi y2] [] [Rl e_Formula p1 c1 y0] (m_ref02_joined y0 y1 y2) fun r K=>K (vs r) [] [] := conLim fun k => (k_ref02_argument_all k).2.1

theorem c_ref02_text {qd : Prop} {y0 : T_Formula} : Con qd Tryz.prog 76 [.agg #[vi ((fv y0).1), vs ((fv y0).2.1), sv p1 ((fv y0).2.2) c1]] [] [Rl e_Formula p1 c1 ((fv y0).2.2)] (m_ref02_text y0) fun r K=>K (vs r) [] [] := conLim fun k => (k_ref02_argument_all k).2.2

theorem c_ref02_Format {qd : Prop} {y0 : T_Formula} : Con qd Tryz.prog 31 [.agg #[vi ((fv y0).1), vs ((fv y0).2.1), sv p1 ((fv y0).2.2) c1]] [] [Rl e_Formula p1 c1 ((fv y0).2.2)] (m_ref02_Format y0) fun r K=>K (.tuple #[vs r.1, vi r.2]) [] [] :=
 ent3 Tryz.call31 Tryz.func31 rfl fun X=>jsr<|jbx .s rfl<|fun b1=>jpc 2 rfl<|jot<|jsq<|jsr<|jla 0 3 rfl rfl rfl<|jcl c_ref02_Validate rfl ⟨ck 0,⟨⟩⟩<|fun r1 _ k=>k<|jpc 1 rfl<|jot<|jsr<|jpc 2 rfl<|jot<|jif rfl (jsr<|jpc 3 rfl<|jot<|jxr<|jtr<|
  jrg' rfl (lT rfl (lT rfl lN)) (fun _ k=>k) [] ⟨⟩)<|jsk<|jtn<|jsr<|jla 0 3 rfl rfl rfl<|jcl c_ref02_text rfl ⟨ck 0,⟨⟩⟩<|fun r2 _ k=>k<|jpc 1 rfl<|jot<|jsq<|jsr<|jpc 3 rfl<|jot<|jif rfl (jsr<|jpc 2 rfl<|jot<|jxr<|jtr<|
  jrg' rfl (lT rfl (lT rfl lN)) (fun _ k=>k) [] ⟨⟩)<|jsk<|jtn<|jsr<|jpc 3 rfl<|jot<|jxr<|jrg' rfl (lT rfl (lT rfl lN)) (fun _ k=>k) [] ⟨⟩

theorem k_ref02_Same_all {qd : Prop} (k : Nat) :
    (∀ {y0 : T_Formula} {p1 : Option Addr} {c1 : Nat} {y1 : T_Formula} {p2 : Option Addr} {c2 : Nat}, Con qd Tryz.prog 126 [.agg #[vi ((fv y0).1), vs ((fv y0).2.1), sv p1 ((fv y0).2.2) c1], .agg #[vi ((fv y1).1), vs ((fv y1).2.1), sv p2 ((fv y1).2.2) c2]] [] [Rl e_Formula p1 c1 ((fv y0).2.2), Rl e_Formula p2 c2 ((fv y1).2.2)] (k_ref02_Same k y0 y1) fun r K=>K (vb r) [] []) := by
  induction k with
  | zero => exact con0 Tryz.call126
  | succ k ih =>
    have ih_ref02_Same := @ih
    exact @fun y0 p1 c1 y1 p2 c2=>ent3 (m1 := F_ref02_Same (k_ref02_Same k) y0 y1) Tryz.call126 Tryz.func126 rfl fun X=>jsr<|jbx .s rfl<|fun b1=>jbx .s rfl<|fun b2=>jpc 1 rfl<|jot<|jsq<|
  jjp (fun K=>K [(2, pt b1 0), (3, pt b2 0), (26, vb ((((fv y0).1) != ((fv y1).1)) || ((!(((fv y0).2.1) == ((fv y1).2.1))) || ((len ((fv y0).2.2)) != (len ((fv y1).2.2))))))] [bx b1 37 [vi ((fv y0).1), vs ((fv y0).2.1), sv p1 ((fv y0).2.2) c1], bx b2 37 [vi ((fv y1).1), vs ((fv y1).2.1), sv p2 ((fv y1).2.2) c2]] [Rl e_Formula p1 c1 ((fv y0).2.2), Rl e_Formula p2 c2 ((fv y1).2.2)]) (
  jrg<|jfa 0 rfl<|jlo 0 rfl rfl rfl<|jfa 0 rfl<|jlo 1 rfl rfl rfl<|jpc 2 rfl<|jsp (b := ((fv y0).1) != ((fv y1).1)) 11 rfl (fun hb1=>jpc 5 rfl<|jpe (vb true)<|jpc 8 rfl<|jpe (vb true)<|joe<|
  jup 26 (vb ((((fv y0).1) != ((fv y1).1)) || ((!(((fv y0).2.1) == ((fv y1).2.1))) || ((len ((fv y0).2.2)) != (len ((fv y1).2.2)))))) rfl (by rw [hb1]; rfl)<|jnn (gv (fun _ k=>k) [0,1] ⟨gk 0,gk 1,⟨⟩⟩))<|fun hb1=>jfa 1 rfl<|jlo 0 rfl rfl rfl<|
  jfa 1 rfl<|jlo 1 rfl rfl rfl<|jpc 1 rfl<|jpe (vb (!(((fv y0).2.1) == ((fv y1).2.1))))<|jpc 1 rfl<|jsp (b := !(((fv y0).2.1) == ((fv y1).2.1))) 18 rfl (fun hb2=>jpc 7 rfl<|jpe (vb true)<|joe<|
  jup 26 (vb ((((fv y0).1) != ((fv y1).1)) || ((!(((fv y0).2.1) == ((fv y1).2.1))) || ((len ((fv y0).2.2)) != (len ((fv y1).2.2)))))) rfl (by rw [hb1,hb2]; rfl)<|jnn (gv (fun _ k=>k) [0,1] ⟨gk 0,gk 1,⟨⟩⟩))<|fun hb2=>jfa 2 rfl<|
  jlo 0 rfl rfl rfl<|jpc 1 rfl<|jfa 2 rfl<|jlo 1 rfl rfl rfl<|jpc 2 rfl<|jpe (vb ((len ((fv y0).2.2)) != (len ((fv y1).2.2))))<|joe<|
  jup 26 (vb ((((fv y0).1) != ((fv y1).1)) || ((!(((fv y0).2.1) == ((fv y1).2.1))) || ((len ((fv y0).2.2)) != (len ((fv y1).2.2)))))) rfl (by rw [hb1,hb2]; rfl)<|jnn (gv (fun _ k=>k) [0,1] ⟨gk 0,gk 1,⟨⟩⟩))<|fun _ k=>k<|jif rfl (jsr<|
  jpc 1 rfl<|jot<|jxr<|jtr<|jr1 rfl rfl (fun _ k=>k) [] ⟨⟩)<|jsk<|jtn<|jsq<|jsr<|jpc 1 rfl<|jot<|jbk<|
  jlp (fun s1 K=>K [(2, pt b1 0), (3, pt b2 0), (5, vi s1)] [bx b1 37 [vi ((fv y0).1), vs ((fv y0).2.1), sv p1 ((fv y0).2.2) c1], bx b2 37 [vi ((fv y1).1), vs ((fv y1).2.1), sv p2 ((fv y1).2.2) c2]] [Rl e_Formula p1 c1 ((fv y0).2.2), Rl e_Formula p2 c2 ((fv y1).2.2)]) (gv (fun _ k=>k) [0,1] ⟨gk 0,gk 1,⟨⟩⟩)<|
  fun s1 _ k=>k<|jsq<|jsr<|jpc 1 rfl<|jfa 2 rfl<|jlo 0 rfl rfl rfl<|jpc 2 rfl<|jot<|jif rfl (jsk<|jtn<|jsq<|jbk<|jds [] [0, 1] 12<|jdf 0 2 rfl rfl<|jdo 1 0 rfl rfl rfl rfl<|jdc 9 [2] rfl<|jdi 3 0 rfl rfl rfl rfl<|fun x1 b3 o1=>
  jdl 4 true o_Formula rfl (gk 0) rfl<|fun p3 c3=>jdf 5 2 rfl rfl<|jdo 6 1 rfl rfl rfl rfl<|jdc 4 [7] rfl<|jdi 8 3 rfl rfl rfl rfl<|fun x2 b4 o2=>jdl 9 true o_Formula rfl (gk 0) rfl<|fun p4 c4=>jd1 10<|
  jca (.f rfl) [] [] ih_ref02_Same rfl rfl rfl ⟨ck 2,ck 0,⟨⟩⟩<|fun r1 _ k=>k<|jdn<|jdc 0 [11] rfl<|jde<|jtn<|jif rfl (jsr<|jpc 1 rfl<|jot<|jxr<|jbr<|jtr<|jlr<|jbr<|jtr<|jr1 rfl rfl (fun _ k=>k) [] ⟨⟩)<|jsk<|jbn<|jtn<|jrg<|jpc 3 rfl<|joe<|
  jln (gv (fun _ k=>k) [0,1] ⟨gk 4,gk 5,⟨⟩⟩))<|jxe<|jte<|jle<|jbh<|jtn<|jsr<|jpc 1 rfl<|jot<|jxr<|jr1 rfl rfl (fun _ k=>k) [] ⟨⟩

theorem c_ref02_Same {qd : Prop} {y0 : T_Formula} {y1 : T_Formula} : Con qd Tryz.prog 126 [.agg #[vi ((fv y0).1), vs ((fv y0).2.1), sv p1 ((fv y0).2.2) c1], .agg #[vi ((fv y1).1), vs ((fv y1).2.1), sv p2 ((fv y1).2.2) c2]] [] [Rl e_Formula p1 c1 ((fv y0).2.2), Rl e_Formula p2 c2 ((fv y1).2.2)] (m_ref02_Same y0 y1) fun r K=>K (vb r) [] [] := conLim fun k => (k_ref02_Same_all k)

theorem c_ref03_All {qd : Prop} {y0 : List Str} : Con qd Tryz.prog 124 [sv p1 y0 c1] [] [Rl eStr p1 c1 y0] (m_ref03_All y0) fun r K=>K (.int .u64 r) [] [] :=
 ent3 Tryz.call124 Tryz.func124 rfl fun X=>jsr<|jpc 1 rfl<|jot<|jsq<|jsr<|jpc 1 rfl<|jcl c_ref03_Valid rfl ⟨ck 0,⟨⟩⟩<|fun r1 _ k=>k<|jpc 1 rfl<|jot<|jif rfl (jsr<|jpc 1 rfl<|jot<|jxr<|jtr<|jr1 rfl rfl (fun _ k=>k) [] ⟨⟩)<|jsk<|jtn<|jsr<|jpc 1 rfl<|jot<|jsq<|jsr<|jpc 1 rfl<|jot<|
  jbk<|jlp (fun s1 K=>K [(0, sv p1 y0 c1), (3, .int .u64 s1.1), (4, vi s1.2)] [] [Rl eStr p1 c1 y0]) (gv (fun _ k=>k) [] ⟨gk 0,⟨⟩⟩)<|fun s1 _ k=>k<|jsq<|jsr<|jpc 2 rfl<|jcl c_ref03_count rfl ⟨ck 0,⟨⟩⟩<|fun r2 _ k=>k<|jpc 1 rfl<|jot<|jif rfl (
  jsk<|jtn<|jsq<|jbk<|jrg<|jpc 2 rfl<|jpe (.int .u64 (IntKind.u64.wrap (s1.2)))<|jbd fun x1 h1=>jv (fun h=>r_shlK h rfl rfl h1)<|jpc 2 rfl<|joe<|jbn<|jtn<|jrg<|jpc 3 rfl<|joe<|jln (gv (fun _ k=>k) [] ⟨gk 0,⟨⟩⟩))<|jxe<|jte<|jle<|jbh<|jtn<|
  jsr<|jpc 2 rfl<|jot<|jxr<|jr1 rfl rfl (fun _ k=>k) [] ⟨⟩

theorem c_ref03_has {qd : Prop} {y0 : Int} {y1 : Int} : Con qd Tryz.prog 145 [.int .u64 y0, vi y1] [] [] (m_ref03_has y0 y1) fun r K=>K (vb r) [] [] :=
 ent3 Tryz.call145 Tryz.func145 rfl fun X=>jsr<|jpc 1 rfl<|jot<|jsr<|jpc 2 rfl<|jpe (.int .u64 (IntKind.u64.wrap (y1)))<|jbd fun x1 h1=>jv (fun h=>r_shrK h rfl rfl h1)<|jpc 3 rfl<|jot<|jxr<|jr1 rfl rfl (fun _ k=>k) [] ⟨⟩

theorem c_ref03_half {qd : Prop} {y0 : List Str} {y1 : Int} {y2 : Int} : Con qd Tryz.prog 125 [sv p1 y0 c1, .int .u64 y1, vi y2] [] [Rl eStr p1 c1 y0] (m_ref03_half y0 y1 y2) fun r K=>K (.int .u64 r) [] [] :=
 ent3 Tryz.call125 Tryz.func125 rfl fun X=>jsr<|jpc 1 rfl<|jot<|jsr<|jpc 1 rfl<|jot<|jsq<|jsr<|jpc 1 rfl<|jot<|jbk<|jlp (fun s1 K=>K [(0, sv p1 y0 c1), (1, .int .u64 y1), (2, vi y2), (7, .int .u64 s1.1), (8, vi s1.2)] [] [Rl eStr p1 c1 y0]) (gv (fun _ k=>k) [] ⟨gk 0,⟨⟩⟩)<|
  fun s1 _ k=>k<|jsq<|jsr<|jpc 2 rfl<|jcl c_ref03_count rfl ⟨ck 0,⟨⟩⟩<|fun r1 _ k=>k<|jpc 1 rfl<|jot<|jif rfl (jsk<|jtn<|jsq<|jbk<|
  jjn (fun s2 K=>K [(0, sv p1 y0 c1), (1, .int .u64 y1), (2, vi y2), (7, .int .u64 s1.1), (8, vi s1.2), (23, vb s2)] [] [Rl eStr p1 c1 y0]) (jrg<|jpc 2 rfl<|jcl c_ref03_has rfl ⟨⟩<|fun r2 _ k=>k<|jpc 1 rfl<|jsg 18 rfl (jpc 4 rfl<|
  jpe (vb ((band .i64 s1.2 1) == y2))<|joe<|jnn (gv (fun _ k=>k) [] ⟨gk 0,⟨⟩⟩))<|jpc 4 rfl<|jpe (vb false)<|joe<|jnn (gv (fun _ k=>k) [] ⟨gk 0,⟨⟩⟩))<|fun s2 _ k=>k<|jif rfl (jrg<|jpc 2 rfl<|jpe (vi (shr .i64 s1.2 1))<|
  jpe (.int .u64 (IntKind.u64.wrap (shr .i64 s1.2 1)))<|jbd fun x1 h1=>jv (fun h=>r_shlK h rfl rfl h1)<|jpc 2 rfl<|joe<|jbn<|jtn<|jrg<|jpc 3 rfl<|joe<|jln (gv (fun _ k=>k) [] ⟨gk 0,⟨⟩⟩))<|jsk<|jbn<|jtn<|jrg<|jpc 3 rfl<|joe<|
  jln (gv (fun _ k=>k) [] ⟨gk 0,⟨⟩⟩))<|jxe<|jte<|jle<|jbh<|jtn<|jsr<|jpc 2 rfl<|jot<|jxr<|jr1 rfl rfl (fun _ k=>k) [] ⟨⟩

theorem c_ref03_pair {qd : Prop} {y0 : Int} {y1 : T_Formula} {y2 : T_Formula} : Con qd Tryz.prog 127 [vi y0, .agg #[vi ((fv y1).1), vs ((fv y1).2.1), sv p1 ((fv y1).2.2) c1], .agg #[vi ((fv y2).1), vs ((fv y2).2.1), sv p2 ((fv y2).2.2) c2]] [] [Rl e_Formula p1 c1 ((fv y1).2.2), Rl e_Formula p2 c2 ((fv y2).2.2)] (m_ref03_pair y0 y1 y2) fun r K=>∀ p3 c3,K (.agg #[vi ((fv r).1), vs ((fv r).2.1), sv p3 ((fv r).2.2) c3]) [] [Rl e_Formula p3 c3 ((fv r).2.2)] :=
 ent3 Tryz.call127 Tryz.func127 rfl fun X=>jsr<|jbx .s rfl<|fun b1=>jbx .s rfl<|fun b2=>jal .s (.agg #[vi 0, vs [], .slice none 0 0])<|fun b3=>jot<|jsr<|jpc 1 rfl<|jla 0 3 rfl rfl rfl<|jla 1 3 rfl rfl rfl<|
  jbs .s (e := e_Formula) 37 [vi ((fv y1).1), vs ((fv y1).2.1), sv p1 ((fv y1).2.2) c1, vi ((fv y2).1), vs ((fv y2).2.1), sv p2 ((fv y2).2.2) c2] ([y1, y2] : List T_Formula) (rC (vF (vP vI (vP vS (vL (gk 0))))) (rC (vF (vP vI (vP vS (vL (gk 1))))) rN))<|
  fun p3 c3=>jpe (.agg #[vi y0, vs [], sv p3 ([y1, y2] : List T_Formula) c3])<|jso .s 2 rfl rfl rfl<|jot<|jxr<|jrg' rfl (lC 2 (.agg #[vi y0, vs [], sv p3 ([y1, y2] : List T_Formula) c3]) rfl rfl lN) (fun _ k=>k p3 c3) [] ⟨gk 0,⟨⟩⟩

theorem k_ref03_theory_all {qd : Prop} (k : Nat) :
    (∀ {y0 : List Str} {p1 : Option Addr} {c1 : Nat} {y1 : Int}, Con qd Tryz.prog 75 [sv p1 y0 c1, .int .u64 y1] [] [Rl eStr p1 c1 y0] (k_ref03_theory k y0 y1) fun r K=>∀ p2 c2,K (.agg #[vi ((fv r).1), vs ((fv r).2.1), sv p2 ((fv r).2.2) c2]) [] [Rl e_Formula p2 c2 ((fv r).2.2)]) := by
  induction k with
  | zero => exact con0 Tryz.call75
  | succ k ih =>
    have ih_ref03_theory := @ih
    exact @fun y0 p1 c1 y1=>ent3 (m1 := F_ref03_theory (k_ref03_theory k) y0 y1) Tryz.call75 Tryz.func75 rfl fun X=>jsr<|jal .s (.agg #[vi 0, vs [], .slice none 0 0])<|fun b1=>jot<|jsq<|jsr<|jpc 2 rfl<|jcl c_ref03_All rfl ⟨ck 0,⟨⟩⟩<|fun r1 _ k=>k<|jpc 2 rfl<|jot<|jif rfl (jsr<|jpe (.agg #[vi 2, vs [], .slice none 0 0])<|jso .s 0 rfl rfl rfl<|jot<|jxr<|
  jtr<|jrg' rfl (lC 0 (.agg #[vi 2, vs [], .slice none 0 0]) rfl rfl lN) (fun _ k=>k none 0) [] ⟨gn,⟨⟩⟩)<|jsk<|jtn<|jsq<|jsr<|jpc 2 rfl<|jcl c_ref03_All rfl ⟨ck 0,⟨⟩⟩<|fun r2 _ k=>k<|jpc 2 rfl<|jcl c_ref03_All rfl ⟨ck 0,⟨⟩⟩<|fun r3 _ k=>k<|
  jpc 1 rfl<|jot<|jif rfl (jsr<|jpe (.agg #[vi 1, vs [], .slice none 0 0])<|jso .s 0 rfl rfl rfl<|jot<|jxr<|jtr<|jrg' rfl (lC 0 (.agg #[vi 1, vs [], .slice none 0 0]) rfl rfl lN) (fun _ k=>k none 0) [] ⟨gn,⟨⟩⟩)<|jsk<|jtn<|jsr<|jpc 1 rfl<|
  jix 0 rfl rfl rfl<|fun x1 b2 o1=>jld false oS (gk 0) rfl<|jpe (.agg #[vi 3, vs x1, .slice none 0 0])<|jal .s (.agg #[vi 0, vs [], .slice none 0 0])<|fun b3=>jso .s 1 rfl rfl rfl<|jot<|jsr<|jla 1 3 rfl rfl rfl<|
  jbs .s (e := e_Formula) 37 [vi 3, vs x1, .slice none 0 0] ([fm (3, x1, ([] : List T_Formula))] : List T_Formula) (rC (vF (vP vI (vP vS (vL gn)))) rN)<|fun p2 c2=>
  jpe (.agg #[vi 4, vs [], sv p2 ([fm (3, x1, ([] : List T_Formula))] : List T_Formula) c2])<|jal .s (.agg #[vi 0, vs [], .slice none 0 0])<|fun b4=>jso .s 2 rfl rfl rfl<|jot<|
  jjn (fun s1 K=>∀ b5 b6 p3 c3 p4 c4,K [(4, pt b1 0), (5, pt b3 0), (6, pt b4 0), (7, pt b5 0), (8, pt b6 0)] [bx b1 37 [vi 0, vs [], .slice none 0 0], bx b3 37 [vi 3, vs x1, .slice none 0 0], bx b4 37 [vi 4, vs [], sv p2 ([fm (3, x1, ([] : List T_Formula))] : List T_Formula) c2], bx b5 37 [vi ((fv s1.1).1), vs ((fv s1.1).2.1), sv p3 ((fv s1.1).2.2) c3], bx b6 37 [vi ((fv s1.2).1), vs ((fv s1.2).2.1), sv p4 ((fv s1.2).2.2) c4]] [Rl e_Formula p3 c3 ((fv s1.1).2.2), Rl e_Formula p4 c4 ((fv s1.2).2.2), Rl e_Formula p2 c2 ([fm (3, x1, ([] : List T_Formula))] : List T_Formula)]) (
  jdS [] [] 16<|jdc 15 [0] rfl<|jdw 1 rfl (gk 2) rfl rfl rfl (.inr ⟨_, rfl⟩) (.inl ⟨rfl, rfl⟩)<|fun x2 p5 c5=>jdc 11 [2,3,6] rfl<|jdw 7 rfl (gk 3) rfl rfl rfl (.inr ⟨_, rfl⟩) (.inl ⟨rfl, rfl⟩)<|fun x3 p6 c6=>jdc 8 [8,9] rfl<|jd3 4 12 13 (
  jca (.f rfl) [] [] c_ref03_half rfl rfl rfl ⟨ck 4,⟨⟩⟩<|fun r4 _ k=>k<|jdn<|jd3 5 12 13 (jca (.f rfl) [] [] ih_ref03_theory rfl rfl rfl ⟨ck 1,⟨⟩⟩<|fun r5 _ k p7 c7=>k<|jdn<|jd3 10 12 13 (
  jca (.f rfl) [] [] c_ref03_half rfl rfl rfl ⟨ck 5,⟨⟩⟩<|fun r6 _ k=>k<|jdn<|jd3 11 12 13 (jca (.f rfl) [] [] ih_ref03_theory rfl rfl rfl ⟨ck 1,⟨⟩⟩<|fun r7 _ k p8 c8=>k<|jdn<|jd2 12 13 (jal (.f rfl) (.agg #[vi 0, vs [], .slice none 0 0])<|
  fun b7=>jdn<|jd1 13<|jal (.f rfl) (.agg #[vi 0, vs [], .slice none 0 0])<|fun b8=>jdn<|jd1 14<|jso (o := 0) (.f rfl) 3 rfl rfl rfl<|jdn<|jd1 15<|jso (o := 0) (.f rfl) 4 rfl rfl rfl<|jdn<|jde<|
  jnn (gv (fun _ k=>k b7 b8 p7 c7 p8 c8) [0,1,2,3,4] ⟨gk 1,gk 0,gk 4,⟨⟩⟩)) <|jal (.f rfl) (.agg #[vi 0, vs [], .slice none 0 0])<|fun b9=>jdn<|jd1 12<|jal (.f rfl) (.agg #[vi 0, vs [], .slice none 0 0])<|fun b10=>jdn<|jd1 14<|
  jso (o := 0) (.f rfl) 4 rfl rfl rfl<|jdn<|jd1 15<|jso (o := 0) (.f rfl) 3 rfl rfl rfl<|jdn<|jde<|jnn (gv (fun _ k=>k b10 b9 p7 c7 p8 c8) [0,1,2,4,3] ⟨gk 1,gk 0,gk 4,⟨⟩⟩)) (jal (.f rfl) (.agg #[vi 0, vs [], .slice none 0 0])<|fun b11=>jdn<|
  jd2 11 13 (jca (.f rfl) [] [] ih_ref03_theory rfl rfl rfl ⟨ck 1,⟨⟩⟩<|fun r8 _ k p9 c9=>k<|jdn<|jd1 13<|jal (.f rfl) (.agg #[vi 0, vs [], .slice none 0 0])<|fun b12=>jdn<|jd1 14<|jso (o := 0) (.f rfl) 3 rfl rfl rfl<|jdn<|jd1 15<|
  jso (o := 0) (.f rfl) 4 rfl rfl rfl<|jdn<|jde<|jnn (gv (fun _ k=>k b11 b12 p7 c7 p9 c9) [0,1,2,3,4] ⟨gk 1,gk 0,gk 4,⟨⟩⟩)) <|jal (.f rfl) (.agg #[vi 0, vs [], .slice none 0 0])<|fun b13=>jdn<|jd1 11<|
  jca (.f rfl) [] [] ih_ref03_theory rfl rfl rfl ⟨ck 1,⟨⟩⟩<|fun r9 _ k p10 c10=>k<|jdn<|jd1 14<|jso (o := 0) (.f rfl) 3 rfl rfl rfl<|jdn<|jd1 15<|jso (o := 0) (.f rfl) 4 rfl rfl rfl<|jdn<|jde<|
  jnn (gv (fun _ k=>k b11 b13 p7 c7 p10 c10) [0,1,2,3,4] ⟨gk 1,gk 0,gk 4,⟨⟩⟩)) <|jal (.f rfl) (.agg #[vi 0, vs [], .slice none 0 0])<|fun b14=>jdn<|jd2 11 12 (jca (.f rfl) [] [] ih_ref03_theory rfl rfl rfl ⟨ck 1,⟨⟩⟩<|fun r10 _ k p11 c11=>k<|
  jdn<|jd1 12<|jal (.f rfl) (.agg #[vi 0, vs [], .slice none 0 0])<|fun b15=>jdn<|jd1 14<|jso (o := 0) (.f rfl) 4 rfl rfl rfl<|jdn<|jd1 15<|jso (o := 0) (.f rfl) 3 rfl rfl rfl<|jdn<|jde<|
  jnn (gv (fun _ k=>k b15 b14 p7 c7 p11 c11) [0,1,2,4,3] ⟨gk 1,gk 0,gk 4,⟨⟩⟩)) <|jal (.f rfl) (.agg #[vi 0, vs [], .slice none 0 0])<|fun b16=>jdn<|jd1 11<|jca (.f rfl) [] [] ih_ref03_theory rfl rfl rfl ⟨ck 1,⟨⟩⟩<|fun r11 _ k p12 c12=>k<|
  jdn<|jd1 14<|jso (o := 0) (.f rfl) 4 rfl rfl rfl<|jdn<|jd1 15<|jso (o := 0) (.f rfl) 3 rfl rfl rfl<|jdn<|jde<|jnn (gv (fun _ k=>k b16 b14 p7 c7 p12 c12) [0,1,2,4,3] ⟨gk 1,gk 0,gk 4,⟨⟩⟩)) (
  jal (.f rfl) (.agg #[vi 0, vs [], .slice none 0 0])<|fun b17=>jdn<|jd2 10 13 (jca (.f rfl) [] [] c_ref03_half rfl rfl rfl ⟨ck 5,⟨⟩⟩<|fun r12 _ k=>k<|jdn<|jd2 11 13 (jca (.f rfl) [] [] ih_ref03_theory rfl rfl rfl ⟨ck 1,⟨⟩⟩<|
  fun r13 _ k p13 c13=>k<|jdn<|jd1 13<|jal (.f rfl) (.agg #[vi 0, vs [], .slice none 0 0])<|fun b18=>jdn<|jd1 14<|jso (o := 0) (.f rfl) 3 rfl rfl rfl<|jdn<|jd1 15<|jso (o := 0) (.f rfl) 4 rfl rfl rfl<|jdn<|jde<|
  jnn (gv (fun _ k=>k b17 b18 p7 c7 p13 c13) [0,1,2,3,4] ⟨gk 1,gk 0,gk 4,⟨⟩⟩)) <|jal (.f rfl) (.agg #[vi 0, vs [], .slice none 0 0])<|fun b19=>jdn<|jd1 11<|jca (.f rfl) [] [] ih_ref03_theory rfl rfl rfl ⟨ck 1,⟨⟩⟩<|fun r14 _ k p14 c14=>k<|
  jdn<|jd1 14<|jso (o := 0) (.f rfl) 3 rfl rfl rfl<|jdn<|jd1 15<|jso (o := 0) (.f rfl) 4 rfl rfl rfl<|jdn<|jde<|jnn (gv (fun _ k=>k b17 b19 p7 c7 p14 c14) [0,1,2,3,4] ⟨gk 1,gk 0,gk 4,⟨⟩⟩)) <|
  jal (.f rfl) (.agg #[vi 0, vs [], .slice none 0 0])<|fun b20=>jdn<|jd1 10<|jca (.f rfl) [] [] c_ref03_half rfl rfl rfl ⟨ck 5,⟨⟩⟩<|fun r15 _ k=>k<|jdn<|jd1 11<|jca (.f rfl) [] [] ih_ref03_theory rfl rfl rfl ⟨ck 1,⟨⟩⟩<|fun r16 _ k p15 c15=>
  k<|jdn<|jd1 14<|jso (o := 0) (.f rfl) 3 rfl rfl rfl<|jdn<|jd1 15<|jso (o := 0) (.f rfl) 4 rfl rfl rfl<|jdn<|jde<|jnn (gv (fun _ k=>k b17 b20 p7 c7 p15 c15) [0,1,2,3,4] ⟨gk 1,gk 0,gk 4,⟨⟩⟩)) <|
  jal (.f rfl) (.agg #[vi 0, vs [], .slice none 0 0])<|fun b21=>jdn<|jd2 10 12 (jca (.f rfl) [] [] c_ref03_half rfl rfl rfl ⟨ck 5,⟨⟩⟩<|fun r17 _ k=>k<|jdn<|jd2 11 12 (jca (.f rfl) [] [] ih_ref03_theory rfl rfl rfl ⟨ck 1,⟨⟩⟩<|
  fun r18 _ k p16 c16=>k<|jdn<|jd1 12<|jal (.f rfl) (.agg #[vi 0, vs [], .slice none 0 0])<|fun b22=>jdn<|jd1 14<|jso (o := 0) (.f rfl) 4 rfl rfl rfl<|jdn<|jd1 15<|jso (o := 0) (.f rfl) 3 rfl rfl rfl<|jdn<|jde<|
  jnn (gv (fun _ k=>k b22 b21 p7 c7 p16 c16) [0,1,2,4,3] ⟨gk 1,gk 0,gk 4,⟨⟩⟩)) <|jal (.f rfl) (.agg #[vi 0, vs [], .slice none 0 0])<|fun b23=>jdn<|jd1 11<|jca (.f rfl) [] [] ih_ref03_theory rfl rfl rfl ⟨ck 1,⟨⟩⟩<|fun r19 _ k p17 c17=>k<|
  jdn<|jd1 14<|jso (o := 0) (.f rfl) 4 rfl rfl rfl<|jdn<|jd1 15<|jso (o := 0) (.f rfl) 3 rfl rfl rfl<|jdn<|jde<|jnn (gv (fun _ k=>k b23 b21 p7 c7 p17 c17) [0,1,2,4,3] ⟨gk 1,gk 0,gk 4,⟨⟩⟩)) <|
  jal (.f rfl) (.agg #[vi 0, vs [], .slice none 0 0])<|fun b24=>jdn<|jd1 10<|jca (.f rfl) [] [] c_ref03_half rfl rfl rfl ⟨ck 5,⟨⟩⟩<|fun r20 _ k=>k<|jdn<|jd1 11<|jca (.f rfl) [] [] ih_ref03_theory rfl rfl rfl ⟨ck 1,⟨⟩⟩<|fun r21 _ k p18 c18=>
  k<|jdn<|jd1 14<|jso (o := 0) (.f rfl) 4 rfl rfl rfl<|jdn<|jd1 15<|jso (o := 0) (.f rfl) 3 rfl rfl rfl<|jdn<|jde<|jnn (gv (fun _ k=>k b24 b21 p7 c7 p18 c18) [0,1,2,4,3] ⟨gk 1,gk 0,gk 4,⟨⟩⟩)) (
  jal (.f rfl) (.agg #[vi 0, vs [], .slice none 0 0])<|fun b25=>jdn<|jd2 5 13 (jca (.f rfl) [] [] ih_ref03_theory rfl rfl rfl ⟨ck 1,⟨⟩⟩<|fun r22 _ k p19 c19=>k<|jdn<|jd2 10 13 (jca (.f rfl) [] [] c_ref03_half rfl rfl rfl ⟨ck 5,⟨⟩⟩<|
  fun r23 _ k=>k<|jdn<|jd2 11 13 (jca (.f rfl) [] [] ih_ref03_theory rfl rfl rfl ⟨ck 1,⟨⟩⟩<|fun r24 _ k p20 c20=>k<|jdn<|jd1 13<|jal (.f rfl) (.agg #[vi 0, vs [], .slice none 0 0])<|fun b26=>jdn<|jd1 14<|jso (o := 0) (.f rfl) 3 rfl rfl rfl<|
  jdn<|jd1 15<|jso (o := 0) (.f rfl) 4 rfl rfl rfl<|jdn<|jde<|jnn (gv (fun _ k=>k b25 b26 p19 c19 p20 c20) [0,1,2,3,4] ⟨gk 1,gk 0,gk 4,⟨⟩⟩)) <|jal (.f rfl) (.agg #[vi 0, vs [], .slice none 0 0])<|fun b27=>jdn<|jd1 11<|
  jca (.f rfl) [] [] ih_ref03_theory rfl rfl rfl ⟨ck 1,⟨⟩⟩<|fun r25 _ k p21 c21=>k<|jdn<|jd1 14<|jso (o := 0) (.f rfl) 3 rfl rfl rfl<|jdn<|jd1 15<|jso (o := 0) (.f rfl) 4 rfl rfl rfl<|jdn<|jde<|
  jnn (gv (fun _ k=>k b25 b27 p19 c19 p21 c21) [0,1,2,3,4] ⟨gk 1,gk 0,gk 4,⟨⟩⟩)) <|jal (.f rfl) (.agg #[vi 0, vs [], .slice none 0 0])<|fun b28=>jdn<|jd1 10<|jca (.f rfl) [] [] c_ref03_half rfl rfl rfl ⟨ck 5,⟨⟩⟩<|fun r26 _ k=>k<|jdn<|jd1 11<|
  jca (.f rfl) [] [] ih_ref03_theory rfl rfl rfl ⟨ck 1,⟨⟩⟩<|fun r27 _ k p22 c22=>k<|jdn<|jd1 14<|jso (o := 0) (.f rfl) 3 rfl rfl rfl<|jdn<|jd1 15<|jso (o := 0) (.f rfl) 4 rfl rfl rfl<|jdn<|jde<|
  jnn (gv (fun _ k=>k b25 b28 p19 c19 p22 c22) [0,1,2,3,4] ⟨gk 1,gk 0,gk 4,⟨⟩⟩)) <|jal (.f rfl) (.agg #[vi 0, vs [], .slice none 0 0])<|fun b29=>jdn<|jd1 5<|jca (.f rfl) [] [] ih_ref03_theory rfl rfl rfl ⟨ck 1,⟨⟩⟩<|fun r28 _ k p23 c23=>k<|
  jdn<|jd1 10<|jca (.f rfl) [] [] c_ref03_half rfl rfl rfl ⟨ck 5,⟨⟩⟩<|fun r29 _ k=>k<|jdn<|jd1 11<|jca (.f rfl) [] [] ih_ref03_theory rfl rfl rfl ⟨ck 1,⟨⟩⟩<|fun r30 _ k p24 c24=>k<|jdn<|jd1 14<|jso (o := 0) (.f rfl) 3 rfl rfl rfl<|jdn<|
  jd1 15<|jso (o := 0) (.f rfl) 4 rfl rfl rfl<|jdn<|jde<|jnn (gv (fun _ k=>k b25 b29 p23 c23 p24 c24) [0,1,2,3,4] ⟨gk 1,gk 0,gk 4,⟨⟩⟩)) <|jal (.f rfl) (.agg #[vi 0, vs [], .slice none 0 0])<|fun b30=>jdn<|jd2 5 12 (
  jca (.f rfl) [] [] ih_ref03_theory rfl rfl rfl ⟨ck 1,⟨⟩⟩<|fun r31 _ k p25 c25=>k<|jdn<|jd2 10 12 (jca (.f rfl) [] [] c_ref03_half rfl rfl rfl ⟨ck 5,⟨⟩⟩<|fun r32 _ k=>k<|jdn<|jd2 11 12 (
  jca (.f rfl) [] [] ih_ref03_theory rfl rfl rfl ⟨ck 1,⟨⟩⟩<|fun r33 _ k p26 c26=>k<|jdn<|jd1 12<|jal (.f rfl) (.agg #[vi 0, vs [], .slice none 0 0])<|fun b31=>jdn<|jd1 14<|jso (o := 0) (.f rfl) 4 rfl rfl rfl<|jdn<|jd1 15<|
  jso (o := 0) (.f rfl) 3 rfl rfl rfl<|jdn<|jde<|jnn (gv (fun _ k=>k b31 b30 p25 c25 p26 c26) [0,1,2,4,3] ⟨gk 1,gk 0,gk 4,⟨⟩⟩)) <|jal (.f rfl) (.agg #[vi 0, vs [], .slice none 0 0])<|fun b32=>jdn<|jd1 11<|
  jca (.f rfl) [] [] ih_ref03_theory rfl rfl rfl ⟨ck 1,⟨⟩⟩<|fun r34 _ k p27 c27=>k<|jdn<|jd1 14<|jso (o := 0) (.f rfl) 4 rfl rfl rfl<|jdn<|jd1 15<|jso (o := 0) (.f rfl) 3 rfl rfl rfl<|jdn<|jde<|
  jnn (gv (fun _ k=>k b32 b30 p25 c25 p27 c27) [0,1,2,4,3] ⟨gk 1,gk 0,gk 4,⟨⟩⟩)) <|jal (.f rfl) (.agg #[vi 0, vs [], .slice none 0 0])<|fun b33=>jdn<|jd1 10<|jca (.f rfl) [] [] c_ref03_half rfl rfl rfl ⟨ck 5,⟨⟩⟩<|fun r35 _ k=>k<|jdn<|jd1 11<|
  jca (.f rfl) [] [] ih_ref03_theory rfl rfl rfl ⟨ck 1,⟨⟩⟩<|fun r36 _ k p28 c28=>k<|jdn<|jd1 14<|jso (o := 0) (.f rfl) 4 rfl rfl rfl<|jdn<|jd1 15<|jso (o := 0) (.f rfl) 3 rfl rfl rfl<|jdn<|jde<|
  jnn (gv (fun _ k=>k b33 b30 p25 c25 p28 c28) [0,1,2,4,3] ⟨gk 1,gk 0,gk 4,⟨⟩⟩)) <|jal (.f rfl) (.agg #[vi 0, vs [], .slice none 0 0])<|fun b34=>jdn<|jd1 5<|jca (.f rfl) [] [] ih_ref03_theory rfl rfl rfl ⟨ck 1,⟨⟩⟩<|fun r37 _ k p29 c29=>k<|
  jdn<|jd1 10<|jca (.f rfl) [] [] c_ref03_half rfl rfl rfl ⟨ck 5,⟨⟩⟩<|fun r38 _ k=>k<|jdn<|jd1 11<|jca (.f rfl) [] [] ih_ref03_theory rfl rfl rfl ⟨ck 1,⟨⟩⟩<|fun r39 _ k p30 c30=>k<|jdn<|jd1 14<|jso (o := 0) (.f rfl) 4 rfl rfl rfl<|jdn<|
  jd1 15<|jso (o := 0) (.f rfl) 3 rfl rfl rfl<|jdn<|jde<|jnn (gv (fun _ k=>k b34 b30 p29 c29 p30 c30) [0,1,2,4,3] ⟨gk 1,gk 0,gk 4,⟨⟩⟩)) (jal (.f rfl) (.agg #[vi 0, vs [], .slice none 0 0])<|fun b35=>jdn<|jd2 4 13 (
  jca (.f rfl) [] [] c_ref03_half rfl rfl rfl ⟨ck 4,⟨⟩⟩<|fun r40 _ k=>k<|jdn<|jd2 5 13 (jca (.f rfl) [] [] ih_ref03_theory rfl rfl rfl ⟨ck 1,⟨⟩⟩<|fun r41 _ k p31 c31=>k<|jdn<|jd2 10 13 (jca (.f rfl) [] [] c_ref03_half rfl rfl rfl ⟨ck 5,⟨⟩⟩<|
  fun r42 _ k=>k<|jdn<|jd2 11 13 (jca (.f rfl) [] [] ih_ref03_theory rfl rfl rfl ⟨ck 1,⟨⟩⟩<|fun r43 _ k p32 c32=>k<|jdn<|jd1 13<|jal (.f rfl) (.agg #[vi 0, vs [], .slice none 0 0])<|fun b36=>jdn<|jd1 14<|jso (o := 0) (.f rfl) 3 rfl rfl rfl<|
  jdn<|jd1 15<|jso (o := 0) (.f rfl) 4 rfl rfl rfl<|jdn<|jde<|jnn (gv (fun _ k=>k b35 b36 p31 c31 p32 c32) [0,1,2,3,4] ⟨gk 1,gk 0,gk 4,⟨⟩⟩)) <|jal (.f rfl) (.agg #[vi 0, vs [], .slice none 0 0])<|fun b37=>jdn<|jd1 11<|
  jca (.f rfl) [] [] ih_ref03_theory rfl rfl rfl ⟨ck 1,⟨⟩⟩<|fun r44 _ k p33 c33=>k<|jdn<|jd1 14<|jso (o := 0) (.f rfl) 3 rfl rfl rfl<|jdn<|jd1 15<|jso (o := 0) (.f rfl) 4 rfl rfl rfl<|jdn<|jde<|
  jnn (gv (fun _ k=>k b35 b37 p31 c31 p33 c33) [0,1,2,3,4] ⟨gk 1,gk 0,gk 4,⟨⟩⟩)) <|jal (.f rfl) (.agg #[vi 0, vs [], .slice none 0 0])<|fun b38=>jdn<|jd1 10<|jca (.f rfl) [] [] c_ref03_half rfl rfl rfl ⟨ck 5,⟨⟩⟩<|fun r45 _ k=>k<|jdn<|jd1 11<|
  jca (.f rfl) [] [] ih_ref03_theory rfl rfl rfl ⟨ck 1,⟨⟩⟩<|fun r46 _ k p34 c34=>k<|jdn<|jd1 14<|jso (o := 0) (.f rfl) 3 rfl rfl rfl<|jdn<|jd1 15<|jso (o := 0) (.f rfl) 4 rfl rfl rfl<|jdn<|jde<|
  jnn (gv (fun _ k=>k b35 b38 p31 c31 p34 c34) [0,1,2,3,4] ⟨gk 1,gk 0,gk 4,⟨⟩⟩)) <|jal (.f rfl) (.agg #[vi 0, vs [], .slice none 0 0])<|fun b39=>jdn<|jd1 5<|jca (.f rfl) [] [] ih_ref03_theory rfl rfl rfl ⟨ck 1,⟨⟩⟩<|fun r47 _ k p35 c35=>k<|
  jdn<|jd1 10<|jca (.f rfl) [] [] c_ref03_half rfl rfl rfl ⟨ck 5,⟨⟩⟩<|fun r48 _ k=>k<|jdn<|jd1 11<|jca (.f rfl) [] [] ih_ref03_theory rfl rfl rfl ⟨ck 1,⟨⟩⟩<|fun r49 _ k p36 c36=>k<|jdn<|jd1 14<|jso (o := 0) (.f rfl) 3 rfl rfl rfl<|jdn<|
  jd1 15<|jso (o := 0) (.f rfl) 4 rfl rfl rfl<|jdn<|jde<|jnn (gv (fun _ k=>k b35 b39 p35 c35 p36 c36) [0,1,2,3,4] ⟨gk 1,gk 0,gk 4,⟨⟩⟩)) <|jal (.f rfl) (.agg #[vi 0, vs [], .slice none 0 0])<|fun b40=>jdn<|jd1 4<|
  jca (.f rfl) [] [] c_ref03_half rfl rfl rfl ⟨ck 4,⟨⟩⟩<|fun r50 _ k=>k<|jdn<|jd1 5<|jca (.f rfl) [] [] ih_ref03_theory rfl rfl rfl ⟨ck 1,⟨⟩⟩<|fun r51 _ k p37 c37=>k<|jdn<|jd1 10<|jca (.f rfl) [] [] c_ref03_half rfl rfl rfl ⟨ck 5,⟨⟩⟩<|
  fun r52 _ k=>k<|jdn<|jd1 11<|jca (.f rfl) [] [] ih_ref03_theory rfl rfl rfl ⟨ck 1,⟨⟩⟩<|fun r53 _ k p38 c38=>k<|jdn<|jd1 14<|jso (o := 0) (.f rfl) 3 rfl rfl rfl<|jdn<|jd1 15<|jso (o := 0) (.f rfl) 4 rfl rfl rfl<|jdn<|jde<|
  jnn (gv (fun _ k=>k b35 b40 p37 c37 p38 c38) [0,1,2,3,4] ⟨gk 1,gk 0,gk 4,⟨⟩⟩)) <|jal (.f rfl) (.agg #[vi 0, vs [], .slice none 0 0])<|fun b41=>jdn<|jd2 4 12 (jca (.f rfl) [] [] c_ref03_half rfl rfl rfl ⟨ck 4,⟨⟩⟩<|fun r54 _ k=>k<|jdn<|
  jd2 5 12 (jca (.f rfl) [] [] ih_ref03_theory rfl rfl rfl ⟨ck 1,⟨⟩⟩<|fun r55 _ k p39 c39=>k<|jdn<|jd2 10 12 (jca (.f rfl) [] [] c_ref03_half rfl rfl rfl ⟨ck 5,⟨⟩⟩<|fun r56 _ k=>k<|jdn<|jd2 11 12 (
  jca (.f rfl) [] [] ih_ref03_theory rfl rfl rfl ⟨ck 1,⟨⟩⟩<|fun r57 _ k p40 c40=>k<|jdn<|jd1 12<|jal (.f rfl) (.agg #[vi 0, vs [], .slice none 0 0])<|fun b42=>jdn<|jd1 14<|jso (o := 0) (.f rfl) 4 rfl rfl rfl<|jdn<|jd1 15<|
  jso (o := 0) (.f rfl) 3 rfl rfl rfl<|jdn<|jde<|jnn (gv (fun _ k=>k b42 b41 p39 c39 p40 c40) [0,1,2,4,3] ⟨gk 1,gk 0,gk 4,⟨⟩⟩)) <|jal (.f rfl) (.agg #[vi 0, vs [], .slice none 0 0])<|fun b43=>jdn<|jd1 11<|
  jca (.f rfl) [] [] ih_ref03_theory rfl rfl rfl ⟨ck 1,⟨⟩⟩<|fun r58 _ k p41 c41=>k<|jdn<|jd1 14<|jso (o := 0) (.f rfl) 4 rfl rfl rfl<|jdn<|jd1 15<|jso (o := 0) (.f rfl) 3 rfl rfl rfl<|jdn<|jde<|
  jnn (gv (fun _ k=>k b43 b41 p39 c39 p41 c41) [0,1,2,4,3] ⟨gk 1,gk 0,gk 4,⟨⟩⟩)) <|jal (.f rfl) (.agg #[vi 0, vs [], .slice none 0 0])<|fun b44=>jdn<|jd1 10<|jca (.f rfl) [] [] c_ref03_half rfl rfl rfl ⟨ck 5,⟨⟩⟩<|fun r59 _ k=>k<|jdn<|jd1 11<|
  jca (.f rfl) [] [] ih_ref03_theory rfl rfl rfl ⟨ck 1,⟨⟩⟩<|fun r60 _ k p42 c42=>k<|jdn<|jd1 14<|jso (o := 0) (.f rfl) 4 rfl rfl rfl<|jdn<|jd1 15<|jso (o := 0) (.f rfl) 3 rfl rfl rfl<|jdn<|jde<|
  jnn (gv (fun _ k=>k b44 b41 p39 c39 p42 c42) [0,1,2,4,3] ⟨gk 1,gk 0,gk 4,⟨⟩⟩)) <|jal (.f rfl) (.agg #[vi 0, vs [], .slice none 0 0])<|fun b45=>jdn<|jd1 5<|jca (.f rfl) [] [] ih_ref03_theory rfl rfl rfl ⟨ck 1,⟨⟩⟩<|fun r61 _ k p43 c43=>k<|
  jdn<|jd1 10<|jca (.f rfl) [] [] c_ref03_half rfl rfl rfl ⟨ck 5,⟨⟩⟩<|fun r62 _ k=>k<|jdn<|jd1 11<|jca (.f rfl) [] [] ih_ref03_theory rfl rfl rfl ⟨ck 1,⟨⟩⟩<|fun r63 _ k p44 c44=>k<|jdn<|jd1 14<|jso (o := 0) (.f rfl) 4 rfl rfl rfl<|jdn<|
  jd1 15<|jso (o := 0) (.f rfl) 3 rfl rfl rfl<|jdn<|jde<|jnn (gv (fun _ k=>k b45 b41 p43 c43 p44 c44) [0,1,2,4,3] ⟨gk 1,gk 0,gk 4,⟨⟩⟩)) <|jal (.f rfl) (.agg #[vi 0, vs [], .slice none 0 0])<|fun b46=>jdn<|jd1 4<|
  jca (.f rfl) [] [] c_ref03_half rfl rfl rfl ⟨ck 4,⟨⟩⟩<|fun r64 _ k=>k<|jdn<|jd1 5<|jca (.f rfl) [] [] ih_ref03_theory rfl rfl rfl ⟨ck 1,⟨⟩⟩<|fun r65 _ k p45 c45=>k<|jdn<|jd1 10<|jca (.f rfl) [] [] c_ref03_half rfl rfl rfl ⟨ck 5,⟨⟩⟩<|
  fun r66 _ k=>k<|jdn<|jd1 11<|jca (.f rfl) [] [] ih_ref03_theory rfl rfl rfl ⟨ck 1,⟨⟩⟩<|fun r67 _ k p46 c46=>k<|jdn<|jd1 14<|jso (o := 0) (.f rfl) 4 rfl rfl rfl<|jdn<|jd1 15<|jso (o := 0) (.f rfl) 3 rfl rfl rfl<|jdn<|jde<|
  jnn (gv (fun _ k=>k b46 b41 p45 c45 p46 c46) [0,1,2,4,3] ⟨gk 1,gk 0,gk 4,⟨⟩⟩))<|fun s1 _ k b5 b6 p3 c3 p4 c4=>k<|jsq<|jbk<|jsr<|jla 3 3 rfl rfl rfl<|jla 4 3 rfl rfl rfl<|jcl c_ref02_Same rfl ⟨ck 0,ck 1,⟨⟩⟩<|fun r68 _ k=>k<|jpc 1 rfl<|jot<|
  jif rfl (jsr<|jla 3 3 rfl rfl rfl<|jso .s 0 rfl rfl rfl<|jot<|jxr<|jbr<|jtr<|jrg' rfl (lC 0 (.agg #[vi ((fv s1.1).1), vs ((fv s1.1).2.1), sv p3 ((fv s1.1).2.2) c3]) rfl rfl lN) (fun _ k=>k p3 c3) [] ⟨gk 0,⟨⟩⟩)<|
  jjp (fun K=>K [(4, pt b1 0), (5, pt b3 0), (6, pt b4 0), (7, pt b5 0), (8, pt b6 0), (47, vb ((((fv s1.1).1) == 1) && (((fv s1.2).1) == 2)))] [bx b1 37 [vi 0, vs [], .slice none 0 0], bx b3 37 [vi 3, vs x1, .slice none 0 0], bx b4 37 [vi 4, vs [], sv p2 ([fm (3, x1, ([] : List T_Formula))] : List T_Formula) c2], bx b5 37 [vi ((fv s1.1).1), vs ((fv s1.1).2.1), sv p3 ((fv s1.1).2.2) c3], bx b6 37 [vi ((fv s1.2).1), vs ((fv s1.2).2.1), sv p4 ((fv s1.2).2.2) c4]] [Rl e_Formula p2 c2 ([fm (3, x1, ([] : List T_Formula))] : List T_Formula), Rl e_Formula p3 c3 ((fv s1.1).2.2), Rl e_Formula p4 c4 ((fv s1.2).2.2)]) (
  jrg<|jfa 0 rfl<|jlo 3 rfl rfl rfl<|jpc 2 rfl<|jsp (b := ((fv s1.1).1) == 1) 51 rfl (fun hb1=>jfa 0 rfl<|jlo 4 rfl rfl rfl<|jpc 1 rfl<|jpe (vb (((fv s1.2).1) == 2))<|jpc 1 rfl<|joe<|
  jup 47 (vb ((((fv s1.1).1) == 1) && (((fv s1.2).1) == 2))) rfl (by rw [hb1]; rfl)<|jnn (gv (fun _ k=>k) [0,1,2,3,4] ⟨gk 2,gk 0,gk 1,⟨⟩⟩))<|fun hb1=>jpc 3 rfl<|jpe (vb false)<|jpc 1 rfl<|joe<|
  jup 47 (vb ((((fv s1.1).1) == 1) && (((fv s1.2).1) == 2))) rfl (by rw [hb1]; rfl)<|jnn (gv (fun _ k=>k) [0,1,2,3,4] ⟨gk 2,gk 0,gk 1,⟨⟩⟩))<|fun _ k=>k<|jif rfl (jsr<|jla 1 3 rfl rfl rfl<|jso .s 0 rfl rfl rfl<|jot<|jxr<|jbr<|jtr<|
  jrg' rfl (lC 0 (.agg #[vi 3, vs x1, .slice none 0 0]) rfl rfl lN) (fun _ k=>k none 0) [] ⟨gn,⟨⟩⟩)<|jsr<|jfa 0 rfl<|jlo 3 rfl rfl rfl<|jpc 2 rfl<|jot<|jif rfl (jsr<|jla 1 3 rfl rfl rfl<|jla 4 3 rfl rfl rfl<|
  jcl c_ref03_pair rfl ⟨cn,ck 2,⟨⟩⟩<|fun r69 _ k p47 c47=>k<|jso .s 0 rfl rfl rfl<|jot<|jxr<|jbr<|jtr<|jrg' rfl (lC 0 (.agg #[vi ((fv r69).1), vs ((fv r69).2.1), sv p47 ((fv r69).2.2) c47]) rfl rfl lN) (fun _ k=>k p47 c47) [] ⟨gk 0,⟨⟩⟩)<|
  jjp (fun K=>K [(4, pt b1 0), (5, pt b3 0), (6, pt b4 0), (7, pt b5 0), (8, pt b6 0), (64, vb ((((fv s1.1).1) == 2) && (((fv s1.2).1) == 1)))] [bx b1 37 [vi 0, vs [], .slice none 0 0], bx b3 37 [vi 3, vs x1, .slice none 0 0], bx b4 37 [vi 4, vs [], sv p2 ([fm (3, x1, ([] : List T_Formula))] : List T_Formula) c2], bx b5 37 [vi ((fv s1.1).1), vs ((fv s1.1).2.1), sv p3 ((fv s1.1).2.2) c3], bx b6 37 [vi ((fv s1.2).1), vs ((fv s1.2).2.1), sv p4 ((fv s1.2).2.2) c4]] [Rl e_Formula p2 c2 ([fm (3, x1, ([] : List T_Formula))] : List T_Formula), Rl e_Formula p3 c3 ((fv s1.1).2.2), Rl e_Formula p4 c4 ((fv s1.2).2.2)]) (
  jrg<|jfa 0 rfl<|jlo 3 rfl rfl rfl<|jpc 2 rfl<|jsp (b := ((fv s1.1).1) == 2) 68 rfl (fun hb2=>jfa 0 rfl<|jlo 4 rfl rfl rfl<|jpc 1 rfl<|jpe (vb (((fv s1.2).1) == 1))<|jpc 1 rfl<|joe<|
  jup 64 (vb ((((fv s1.1).1) == 2) && (((fv s1.2).1) == 1))) rfl (by rw [hb2]; rfl)<|jnn (gv (fun _ k=>k) [0,1,2,3,4] ⟨gk 0,gk 1,gk 2,⟨⟩⟩))<|fun hb2=>jpc 3 rfl<|jpe (vb false)<|jpc 1 rfl<|joe<|
  jup 64 (vb ((((fv s1.1).1) == 2) && (((fv s1.2).1) == 1))) rfl (by rw [hb2]; rfl)<|jnn (gv (fun _ k=>k) [0,1,2,3,4] ⟨gk 0,gk 1,gk 2,⟨⟩⟩))<|fun _ k=>k<|jif rfl (jsr<|jla 2 3 rfl rfl rfl<|jso .s 0 rfl rfl rfl<|jot<|jxr<|jbr<|jtr<|
  jrg' rfl (lC 0 (.agg #[vi 4, vs [], sv p2 ([fm (3, x1, ([] : List T_Formula))] : List T_Formula) c2]) rfl rfl lN) (fun _ k=>k p2 c2) [] ⟨gk 0,⟨⟩⟩)<|jsr<|jfa 0 rfl<|jlo 3 rfl rfl rfl<|jpc 2 rfl<|jot<|jif rfl (jsr<|jla 2 3 rfl rfl rfl<|
  jla 4 3 rfl rfl rfl<|jcl c_ref03_pair rfl ⟨ck 0,ck 2,⟨⟩⟩<|fun r70 _ k p48 c48=>k<|jso .s 0 rfl rfl rfl<|jot<|jxr<|jbr<|jtr<|
  jrg' rfl (lC 0 (.agg #[vi ((fv r70).1), vs ((fv r70).2.1), sv p48 ((fv r70).2.2) c48]) rfl rfl lN) (fun _ k=>k p48 c48) [] ⟨gk 0,⟨⟩⟩)<|jsr<|jfa 0 rfl<|jlo 4 rfl rfl rfl<|jpc 2 rfl<|jot<|jif rfl (jsr<|jla 2 3 rfl rfl rfl<|
  jla 3 3 rfl rfl rfl<|jcl c_ref03_pair rfl ⟨ck 0,ck 1,⟨⟩⟩<|fun r71 _ k p49 c49=>k<|jso .s 0 rfl rfl rfl<|jot<|jxr<|jbr<|jtr<|
  jrg' rfl (lC 0 (.agg #[vi ((fv r71).1), vs ((fv r71).2.1), sv p49 ((fv r71).2.2) c49]) rfl rfl lN) (fun _ k=>k p49 c49) [] ⟨gk 0,⟨⟩⟩)<|jsr<|jfa 0 rfl<|jlo 4 rfl rfl rfl<|jpc 2 rfl<|jot<|jif rfl (jsr<|jla 1 3 rfl rfl rfl<|
  jla 3 3 rfl rfl rfl<|jcl c_ref03_pair rfl ⟨cn,ck 1,⟨⟩⟩<|fun r72 _ k p50 c50=>k<|jso .s 0 rfl rfl rfl<|jot<|jxr<|jbr<|jtr<|
  jrg' rfl (lC 0 (.agg #[vi ((fv r72).1), vs ((fv r72).2.1), sv p50 ((fv r72).2.2) c50]) rfl rfl lN) (fun _ k=>k p50 c50) [] ⟨gk 0,⟨⟩⟩)<|jsk<|jbn<|jtn<|jds [] [1, 2, 3, 4] 8<|jda 0 1 3 rfl rfl rfl rfl<|jda 1 3 3 rfl rfl rfl rfl<|
  jda 3 2 3 rfl rfl rfl rfl<|jda 4 4 3 rfl rfl rfl rfl<|jd1 2<|jca (.f rfl) [] [] c_ref03_pair rfl rfl rfl ⟨cn,ck 1,⟨⟩⟩<|fun r73 _ k p51 c51=>k<|jdn<|jd1 5<|jca (.f rfl) [] [] c_ref03_pair rfl rfl rfl ⟨ck 1,ck 3,⟨⟩⟩<|fun r74 _ k p52 c52=>k<|
  jdn<|jd1 6<|jca (.f rfl) [] [] c_ref03_pair rfl rfl rfl ⟨ck 1,ck 0,⟨⟩⟩<|fun r75 _ k p53 c53=>k<|jdn<|jd1 7<|jso (o := 0) (.f rfl) 0 rfl rfl rfl<|jdn<|jde<|jtn<|jxr<|
  jrg' rfl (lC 0 (.agg #[vi ((fv r75).1), vs ((fv r75).2.1), sv p53 ((fv r75).2.2) c53]) rfl rfl lN) (fun _ k=>k p53 c53) [] ⟨gk 0,⟨⟩⟩

theorem c_ref03_theory {qd : Prop} {y0 : List Str} {y1 : Int} : Con qd Tryz.prog 75 [sv p1 y0 c1, .int .u64 y1] [] [Rl eStr p1 c1 y0] (m_ref03_theory y0 y1) fun r K=>∀ p2 c2,K (.agg #[vi ((fv r).1), vs ((fv r).2.1), sv p2 ((fv r).2.2) c2]) [] [Rl e_Formula p2 c2 ((fv r).2.2)] := conLim fun k => (k_ref03_theory_all k)

theorem c_ref03_Theory {qd : Prop} {y0 : List Str} {y1 : Int} : Con qd Tryz.prog 30 [sv p1 y0 c1, .int .u64 y1] [] [Rl eStr p1 c1 y0] (m_ref03_Theory y0 y1) fun r K=>∀ p2 c2,K (.tuple #[.agg #[vi ((fv r.1).1), vs ((fv r.1).2.1), sv p2 ((fv r.1).2.2) c2], vi r.2]) [] [Rl e_Formula p2 c2 ((fv r.1).2.2)] :=
 ent3 Tryz.call30 Tryz.func30 rfl fun X=>jsr<|jal .s (.agg #[vi 0, vs [], .slice none 0 0])<|fun b1=>jpc 1 rfl<|jot<|jsq<|jsr<|jpc 1 rfl<|jcl c_ref03_Valid rfl ⟨ck 0,⟨⟩⟩<|fun r1 _ k=>k<|jpc 1 rfl<|jot<|jif rfl (jsr<|jpe (.agg #[vi 0, vs [], .slice none 0 0])<|
  jso .s 0 rfl rfl rfl<|jpc 1 rfl<|jot<|jxr<|jtr<|jrg' rfl (lC 0 (.agg #[vi 0, vs [], .slice none 0 0]) rfl rfl (lT rfl lN)) (fun _ k=>k none 0) [] ⟨gn,⟨⟩⟩)<|jsk<|jtn<|jsr<|jpc 2 rfl<|jcl c_ref03_theory rfl ⟨ck 0,⟨⟩⟩<|fun r2 _ k p2 c2=>k<|
  jso .s 0 rfl rfl rfl<|jpc 1 rfl<|jot<|jxr<|jrg' rfl (lC 0 (.agg #[vi ((fv r2).1), vs ((fv r2).2.1), sv p2 ((fv r2).2.2) c2]) rfl rfl (lT rfl lN)) (fun _ k=>k p2 c2) [] ⟨gk 0,⟨⟩⟩

theorem k_ref42_digits_all {qd : Prop} (k : Nat) :
    (∀ {y0 : Int}, Con qd Tryz.prog 32 [vi y0] [] [] (k_ref42_digits k y0) fun r K=>K (vs r) [] []) := by
  induction k with
  | zero => exact con0 Tryz.call32
  | succ k ih =>
    have ih_ref42_digits := @ih
    exact @fun y0=>ent3 (m1 := F_ref42_digits (k_ref42_digits k) y0) Tryz.call32 Tryz.func32 rfl fun X=>jsr<|jpc 1 rfl<|jot<|jsq<|jsr<|jpc 2 rfl<|jot<|jif rfl (jsr<|jpc 2 rfl<|jpe (.int .u8 (IntKind.u8.wrap (w64 ((48 : Int) + y0))))<|
  jbs .s (e := eInt .u8) 5 [.int .u8 (IntKind.u8.wrap (w64 ((48 : Int) + y0)))] ([IntKind.u8.wrap (w64 ((48 : Int) + y0))] : List Int) (rC vI rN)<|fun p1 c1=>jsb .s (gk 0) rfl Tryz.underlying103 Tryz.underlying5 Tryz.underlying9<|jpc 1 rfl<|jot<|jxr<|jtr<|
  jr1 rfl rfl (fun _ k=>k) [] ⟨⟩)<|jsk<|jtn<|jjn (fun s1 K=>K [(2, vs s1)] [] []) (jdS [] [] 11<|jdc 10 [0] rfl<|jbd fun x1 h1=>jdv 1 rfl (fun h=>r_quoK h rfl rfl h1)<|jdc 8 [3] rfl<|jbd fun x2 h2=>jdv 4 rfl (fun h=>r_remK h rfl rfl h2)<|
  jdc 6 [5] rfl<|jdp 6 (.int .u8 (IntKind.u8.wrap (w64 ((48 : Int) + x2)))) rfl<|jd2 2 7 (jca (.f rfl) [] [] ih_ref42_digits rfl rfl rfl ⟨⟩<|fun r1 _ k=>k<|jdn<|jd1 7<|
  jbs (.f rfl) (e := eInt .u8) 5 [.int .u8 (IntKind.u8.wrap (w64 ((48 : Int) + x2)))] ([IntKind.u8.wrap (w64 ((48 : Int) + x2))] : List Int) (rC vI rN)<|fun p2 c2=>jdn<|jd1 8<|jsb (.f rfl) (gk 0) rfl Tryz.underlying103 Tryz.underlying5 Tryz.underlying9<|
  jdn<|jbd fun x3 h3=>jdv 9 rfl (fun h=>r_cat h rfl rfl h3)<|jdc 0 [10] rfl<|jde<|jnn (gv (fun _ k=>k) [] ⟨⟩)) <|
  jbs (.f rfl) (e := eInt .u8) 5 [.int .u8 (IntKind.u8.wrap (w64 ((48 : Int) + x2)))] ([IntKind.u8.wrap (w64 ((48 : Int) + x2))] : List Int) (rC vI rN)<|fun p3 c3=>jdn<|jd2 2 8 (jca (.f rfl) [] [] ih_ref42_digits rfl rfl rfl ⟨⟩<|fun r2 _ k=>k<|jdn<|jd1 8<|
  jsb (.f rfl) (gk 0) rfl Tryz.underlying103 Tryz.underlying5 Tryz.underlying9<|jdn<|jbd fun x4 h4=>jdv 9 rfl (fun h=>r_cat h rfl rfl h4)<|jdc 0 [10] rfl<|jde<|jnn (gv (fun _ k=>k) [] ⟨⟩)) <|
  jsb (.f rfl) (gk 0) rfl Tryz.underlying103 Tryz.underlying5 Tryz.underlying9<|jdn<|jd1 2<|jca (.f rfl) [] [] ih_ref42_digits rfl rfl rfl ⟨⟩<|fun r3 _ k=>k<|jdn<|jbd fun x5 h5=>jdv 9 rfl (fun h=>r_cat h rfl rfl h5)<|jdc 0 [10] rfl<|jde<|
  jnn (gv (fun _ k=>k) [] ⟨⟩))<|fun s1 _ k=>k<|jxr<|jr1 rfl rfl (fun _ k=>k) [] ⟨⟩

theorem c_ref42_digits {qd : Prop} {y0 : Int} : Con qd Tryz.prog 32 [vi y0] [] [] (m_ref42_digits y0) fun r K=>K (vs r) [] [] := conLim fun k => (k_ref42_digits_all k)

theorem c_ref42_Order {qd : Prop} {y0 : T_Order} : Con qd Tryz.prog 11 [.agg #[sv p1 y0.1 c1, sv p2 y0.2 c2]] [] [Rl eStr p1 c1 y0.1, Rl (eInt .i64) p2 c2 y0.2] (m_ref42_Order y0) fun r K=>∀ p3 c3,K (sv p3 r c3) [] [Rl eStr p3 c3 r] :=
 ent3 Tryz.call11 Tryz.func11 rfl fun X=>jsr<|jbx .s rfl<|fun b1=>jpc 1 rfl<|jot<|jsr<|jla 0 2 rfl rfl rfl<|jcl c_ref31_Levels rfl ⟨ck 0,ck 1,⟨⟩⟩<|fun r1 _ k p3 c3=>k<|jpc 1 rfl<|jot<|jsr<|jpc 1 rfl<|jro eStr 9<|jot<|jsq<|jsr<|jpc 1 rfl<|jot<|jbk<|
  jlp (fun s1 K=>∀ p4 c4 r_1,K [(1, pt b1 0), (3, sv p3 r1 c3), (4, sv p4 s1.1 c4), (5, vi s1.2)] [bx b1 25 [sv p1 y0.1 c1, sv p2 y0.2 c2], r_1] [Al eStr 9 r_1 p4 c4 s1.1, Rl (eInt .u64) p3 c3 r1, Rl eStr p1 c1 y0.1, Rl (eInt .i64) p2 c2 y0.2]) (gv (fun _ k=>k none 0 []) [0,1] ⟨gk 0,gk 1,gk 2,gk 3,⟨⟩⟩)<|
  fun s1 _ k p4 c4 r_1=>k<|jsq<|jsr<|jpc 4 rfl<|jot<|jif rfl (jsk<|jtn<|jsq<|jbk<|
  jjn (fun s2 K=>∀ b2 p5 c5,K [(1, pt b1 0), (3, sv p3 r1 c3), (4, sv p4 s1.1 c4), (5, vi s1.2), (6, pt b2 0)] [bx b1 25 [sv p1 y0.1 c1, sv p2 y0.2 c2], r_1, bx b2 37 [vi ((fv s2).1), vs ((fv s2).2.1), sv p5 ((fv s2).2.2) c5]] [Rl e_Formula p5 c5 ((fv s2).2.2), Rl (eInt .u64) p3 c3 r1, Al eStr 9 r_1 p4 c4 s1.1, Rl eStr p1 c1 y0.1, Rl (eInt .i64) p2 c2 y0.2]) (
  jdS [] [0] 13<|jdf 0 0 rfl rfl<|jdo 1 0 rfl rfl rfl rfl<|jdc 9 [2,3] rfl<|jdi 4 1 rfl rfl rfl rfl<|fun x1 b3 o1=>jdl 5 false oI rfl (gk 0) rfl<|jd2 6 10 (jca (.f rfl) [] [] c_ref03_Theory rfl rfl rfl ⟨ck 3,⟨⟩⟩<|fun r2 _ k p6 c6=>k<|jdn<|
  jdc 3 [7,8,9] rfl<|jd1 10<|jal (.f rfl) (.agg #[vi 0, vs [], .slice none 0 0])<|fun b4=>jdn<|jd1 11<|jso (o := 0) (.f rfl) 2 rfl rfl rfl<|jdn<|jdc 0 [12] rfl<|jde<|jnn (gv (fun _ k=>k b4 p6 c6) [0,1,2] ⟨gk 0,gk 3,gk 2,gk 4,gk 5,⟨⟩⟩)) <|
  jal (.f rfl) (.agg #[vi 0, vs [], .slice none 0 0])<|fun b5=>jdn<|jd1 6<|jca (.f rfl) [] [] c_ref03_Theory rfl rfl rfl ⟨ck 3,⟨⟩⟩<|fun r3 _ k p7 c7=>k<|jdn<|jdc 2 [7,8,9] rfl<|jd1 11<|jso (o := 0) (.f rfl) 2 rfl rfl rfl<|jdn<|
  jdc 0 [12] rfl<|jde<|jnn (gv (fun _ k=>k b5 p7 c7) [0,1,2] ⟨gk 0,gk 3,gk 2,gk 4,gk 5,⟨⟩⟩))<|fun s2 _ k b2 p5 c5=>k<|jsr<|jla 2 3 rfl rfl rfl<|jcl c_ref02_Format rfl ⟨ck 0,⟨⟩⟩<|fun r4 _ k=>k<|jpc 5 rfl<|jot<|jrg<|jpc 2 rfl<|
  jcl c_ref42_digits rfl ⟨⟩<|fun r5 _ k=>k<|jbd fun x2 h1=>jv (fun h=>r_cat h rfl rfl h1)<|jpc 1 rfl<|jbd fun x3 h2=>jv (fun h=>r_cat h rfl rfl h2)<|jbs .s (e := eStr) 9 [vs x3] ([x3] : List Str) (rC vS rN)<|fun p8 c8=>
  jar .s 1 3 rfl (gk 0) rfl rfl<|fun x4 r_2 p9 c9=>jpc 1 rfl<|joe<|jbn<|jtn<|jrg<|jpc 3 rfl<|joe<|jln (gv (fun _ k=>k p9 c9 r_2) [0,1] ⟨gk 0,gk 3,gk 5,gk 6,⟨⟩⟩))<|jxe<|jte<|jle<|jbh<|jtn<|jsr<|jpc 2 rfl<|jot<|jxr<|jsh 1 0 rfl rfl<|
  jr1 rfl rfl (fun _ k=>k p4 c4) [] ⟨gk 0,⟨⟩⟩

theorem c_law42_ReportOrders {y0 : T_Order} {y1 : List Int} : Con False Tryz.prog 3 [.agg #[sv p1 y0.1 c1, sv p2 y0.2 c2], sv p3 y1 c3] [] [Rl eStr p1 c1 y0.1, Rl (eInt .i64) p2 c2 y0.2, Rl (eInt .i64) p3 c3 y1, Pt (eArr 9 eStr) 0 0 tab_formula_words] (m_law42_ReportOrders y0 y1) fun r K=>K (vb r) [] [] :=
 ent3 Tryz.call3 Tryz.func3 rfl fun X=>jsr<|jbx .s rfl<|fun b1=>jpc 1 rfl<|jot<|jsq<|
  jjp (fun K=>K [(1, sv p3 y1 c3), (2, pt b1 0), (25, vb ((decide (10 < (len y0.1))) || (decide (100 < (len y0.2)))))] [bx b1 25 [sv p1 y0.1 c1, sv p2 y0.2 c2]] [Rl (eInt .i64) p3 c3 y1, Rl eStr p1 c1 y0.1, Rl (eInt .i64) p2 c2 y0.2, Pt (eArr 9 eStr) 0 0 tab_formula_words]) (
  jrg<|jfa 0 rfl<|jlo 0 rfl rfl rfl<|jpc 3 rfl<|jsp (b := decide (10 < (len y0.1))) 20 rfl (fun hb1=>jpc 4 rfl<|jpe (vb true)<|joe<|jup 25 (vb ((decide (10 < (len y0.1))) || (decide (100 < (len y0.2))))) rfl (by rw [hb1]; rfl)<|
  jnn (gv (fun _ k=>k) [0] ⟨gk 2,gk 0,gk 1,gk 3,⟨⟩⟩))<|fun hb1=>jfa 1 rfl<|jlo 0 rfl rfl rfl<|jpc 2 rfl<|jpe (vb (decide (100 < (len y0.2))))<|joe<|
  jup 25 (vb ((decide (10 < (len y0.1))) || (decide (100 < (len y0.2))))) rfl (by rw [hb1]; rfl)<|jnn (gv (fun _ k=>k) [0] ⟨gk 2,gk 0,gk 1,gk 3,⟨⟩⟩))<|fun _ k=>k<|jif rfl (jsr<|jcl c_law42_awake rfl ⟨ck 3,⟨⟩⟩<|fun r1 _ k=>k<|jpc 1 rfl<|jot<|
  jxr<|jtr<|jr1 rfl rfl (fun _ k=>k) [] ⟨⟩)<|jsk<|jtn<|jsr<|jpc 1 rfl<|jcl c_keep_New rfl ⟨ck 0,⟨⟩⟩<|fun r2 _ k b2 p4 c4=>k<|jpc 1 rfl<|jot<|jsr<|jpc 2 rfl<|jca .s [1] [] c_keep_Src_Range rfl rfl rfl ⟨ck 0,⟨⟩⟩<|fun r3 _ k=>k<|
  jca .s [1] [] c_ref31_Some rfl rfl rfl ⟨ck 0,⟨⟩⟩<|fun r4 _ k p5 c5 p6 c6=>k<|jal .s (.agg #[.slice none 0 0, .slice none 0 0])<|fun b3=>jso .s 2 rfl rfl rfl<|jot<|jsq<|jds [] [0] 6<|jda 0 0 2 rfl rfl rfl rfl<|jda 2 0 2 rfl rfl rfl rfl<|
  jd1 1<|jca (.f rfl) [] [] c_report_Order rfl rfl rfl ⟨ck 4,ck 5,ck 6,⟨⟩⟩<|fun r5 _ k p7 c7=>k<|jdn<|jd1 3<|jca (.f rfl) [] [] c_ref42_Order rfl rfl rfl ⟨ck 5,ck 6,⟨⟩⟩<|fun r6 _ k p8 c8=>k<|jdn<|jd1 4<|
  jca (.f rfl) [] [] c_ref42_Same rfl rfl rfl ⟨ck 1,ck 0,⟨⟩⟩<|fun r7 _ k=>k<|jdn<|jdc 0 [5] rfl<|jde<|jtn<|jif rfl (jsr<|jpc 1 rfl<|jot<|jxr<|jtr<|jr1 rfl rfl (fun _ k=>k) [] ⟨⟩)<|jsk<|jtn<|jds [] [2] 6<|jda 0 2 2 rfl rfl rfl rfl<|
  jda 2 2 2 rfl rfl rfl rfl<|jd1 1<|jca (.f rfl) [] [] c_report_Order rfl rfl rfl ⟨ck 2,ck 3,ck 8,⟨⟩⟩<|fun r8 _ k p9 c9=>k<|jdn<|jd1 3<|jca (.f rfl) [] [] c_ref31_Levels rfl rfl rfl ⟨ck 3,ck 4,⟨⟩⟩<|fun r9 _ k p10 c10=>k<|jdn<|
  jdc 0 [4,5] rfl<|jde<|jtn<|jsq<|jsr<|jpc 5 rfl<|jot<|jif rfl (jsr<|jpc 1 rfl<|jot<|jxr<|jtr<|jr1 rfl rfl (fun _ k=>k) [] ⟨⟩)<|jsk<|jtn<|
  jjo (fun s1 K=>K [(6, pt b3 0), (7, sv p9 r8 c9)] [[], [], bx b3 25 [sv p5 r4.1.1 c5, sv p6 r4.1.2 c6]] [Rl eStr p9 c9 r8, Rl eStr p5 c5 r4.1.1, Rl (eInt .i64) p6 c6 r4.1.2, Pt (eArr 9 eStr) 0 0 tab_formula_words]) (jsr<|jpc 1 rfl<|jot<|
  jbk<|
  jlp (fun s2 K=>K [(6, pt b3 0), (7, sv p9 r8 c9), (8, sv p10 r9 c10), (9, vi s2)] [[], [], bx b3 25 [sv p5 r4.1.1 c5, sv p6 r4.1.2 c6]] [Rl eStr p9 c9 r8, Rl (eInt .u64) p10 c10 r9, Rl eStr p5 c5 r4.1.1, Rl (eInt .i64) p6 c6 r4.1.2, Pt (eArr 9 eStr) 0 0 tab_formula_words]) (gv (fun _ k=>k) [900,901,2] ⟨gk 1,gk 0,gk 4,gk 5,gk 10,⟨⟩⟩)<|
  fun s2 _ k=>k<|jsq<|jsr<|jpc 4 rfl<|jot<|jif rfl (jsk<|jtn<|jsq<|jbk<|jsr<|jpc 1 rfl<|jot<|
  jjn (fun s3 K=>K [(6, pt b3 0), (7, sv p9 r8 c9), (8, sv p10 r9 c10), (9, vi s2), (10, vi s3)] [[], [], bx b3 25 [sv p5 r4.1.1 c5, sv p6 r4.1.2 c6]] [Rl eStr p9 c9 r8, Rl (eInt .u64) p10 c10 r9, Rl eStr p5 c5 r4.1.1, Rl (eInt .i64) p6 c6 r4.1.2, Pt (eArr 9 eStr) 0 0 tab_formula_words]) (
  jbk<|
  jlp (fun s4 K=>K [(6, pt b3 0), (7, sv p9 r8 c9), (8, sv p10 r9 c10), (9, vi s2), (10, vi s4)] [[], [], bx b3 25 [sv p5 r4.1.1 c5, sv p6 r4.1.2 c6]] [Rl eStr p9 c9 r8, Rl (eInt .u64) p10 c10 r9, Rl eStr p5 c5 r4.1.1, Rl (eInt .i64) p6 c6 r4.1.2, Pt (eArr 9 eStr) 0 0 tab_formula_words]) (gv (fun _ k=>k) [900,901,2] ⟨gk 0,gk 1,gk 2,gk 3,gk 4,⟨⟩⟩)<|
  fun s4 _ k=>k<|jsq<|
  jjn (fun s5 K=>K [(6, pt b3 0), (7, sv p9 r8 c9), (8, sv p10 r9 c10), (9, vi s2), (10, vi s4), (69, vb s5)] [[], [], bx b3 25 [sv p5 r4.1.1 c5, sv p6 r4.1.2 c6]] [Rl eStr p9 c9 r8, Rl (eInt .u64) p10 c10 r9, Rl eStr p5 c5 r4.1.1, Rl (eInt .i64) p6 c6 r4.1.2, Pt (eArr 9 eStr) 0 0 tab_formula_words]) (
  jrg<|jpc 3 rfl<|jix 0 rfl rfl rfl<|fun x1 b4 o1=>jld false oS (gk 0) rfl<|jpc 3 rfl<|jsg 61 rfl (jpc 2 rfl<|jix 1 rfl rfl rfl<|fun x2 b5 o2=>jld false oS (gk 0) rfl<|jpc 1 rfl<|jbd fun x3 h1=>
  jv (fun h=>r_sidx h rfl rfl Tryz.underlying9 h1)<|jpc 1 rfl<|jpe (vb (x3 != 32))<|joe<|jnn (gv (fun _ k=>k) [900,901,2] ⟨gk 2,gk 3,gk 4,gk 5,gk 6,⟨⟩⟩))<|jpc 7 rfl<|jpe (vb false)<|joe<|
  jnn (gv (fun _ k=>k) [900,901,2] ⟨gk 1,gk 2,gk 3,gk 4,gk 5,⟨⟩⟩))<|fun s5 _ k=>k<|jif rfl (jsk<|jtn<|jbk<|jrg<|jpc 3 rfl<|joe<|jbn<|jln (gv (fun _ k=>k) [900,901,2] ⟨gk 0,gk 1,gk 2,gk 3,gk 4,⟨⟩⟩))<|jxe<|jte<|jle<|jbh<|
  jnn (gv (fun _ k=>k) [900,901,2] ⟨gk 0,gk 1,gk 2,gk 3,gk 4,⟨⟩⟩))<|fun s3 _ k=>k<|jsq<|jsr<|jpc 3 rfl<|jix 0 rfl rfl rfl<|fun x4 b6 o3=>jld false oS (gk 0) rfl<|jpc 2 rfl<|jot<|jif rfl (jsr<|jpc 1 rfl<|jot<|jxr<|jtr<|jbr<|jtr<|jlr<|jbr<|
  jlr<|jr1 rfl rfl (fun _ k=>k) [] ⟨⟩)<|jsk<|jtn<|jsr<|jpc 2 rfl<|jix 1 rfl rfl rfl<|fun x5 b7 o4=>jld false oS (gk 0) rfl<|jpc 2 rfl<|jbd fun x6 h2=>jv (fun h=>r_ssub h rfl Tryz.underlying9 rfl rfl (.inr ⟨_, rfl⟩) (.inl ⟨rfl, rfl⟩) h2)<|
  jcl c_ref02_Parse rfl ⟨⟩<|fun r10 _ k p11 c11=>k<|jpc 4 rfl<|jal .s (.agg #[vi 0, vs [], .slice none 0 0])<|fun b8=>jso .s 3 rfl rfl rfl<|jpc 2 rfl<|jot<|jsr<|jfa 0 rfl<|jlo 2 rfl rfl rfl<|jla 3 3 rfl rfl rfl<|
  jcl c_ref03_Models rfl ⟨ck 5,ck 0,⟨⟩⟩<|fun r11 _ k=>k<|jpc 5 rfl<|jot<|
  jjn (fun s6 K=>K [(6, pt b3 0), (7, sv p9 r8 c9), (8, sv p10 r9 c10), (9, vi s2), (111, vb s6)] [[], [], bx b3 25 [sv p5 r4.1.1 c5, sv p6 r4.1.2 c6], []] [Rl eStr p9 c9 r8, Rl (eInt .u64) p10 c10 r9, Rl eStr p5 c5 r4.1.1, Rl (eInt .i64) p6 c6 r4.1.2, Pt (eArr 9 eStr) 0 0 tab_formula_words]) (
  jrg<|jpc 3 rfl<|jsg 100 rfl (jpc 2 rfl<|jpe (vb true)<|jpc 7 rfl<|jpe (vb true)<|joe<|jnn (gv (fun _ k=>k) [900,901,2,903] ⟨gk 3,gk 4,gk 5,gk 6,gk 7,⟨⟩⟩))<|jpc 2 rfl<|jpe (vb (r11.2 != 0))<|jpc 1 rfl<|jsg 104 rfl (jpc 6 rfl<|jpe (vb true)<|
  joe<|jnn (gv (fun _ k=>k) [900,901,2,903] ⟨gk 3,gk 4,gk 5,gk 6,gk 7,⟨⟩⟩))<|jpc 3 rfl<|jix 4 rfl rfl rfl<|fun x7 b9 o5=>jld false oI (gk 0) rfl<|jpc 1 rfl<|jpe (vb (r11.1 != x7))<|joe<|
  jnn (gv (fun _ k=>k) [900,901,2,903] ⟨gk 4,gk 5,gk 6,gk 7,gk 8,⟨⟩⟩))<|fun s6 _ k=>k<|jif rfl (jsr<|jpc 1 rfl<|jot<|jxr<|jbr<|jtr<|jlr<|jbr<|jlr<|jr1 rfl rfl (fun _ k=>k) [] ⟨⟩)<|jsk<|jbn<|jtn<|jrg<|jpc 3 rfl<|joe<|
  jln (gv (fun _ k=>k) [900,901,2] ⟨gk 0,gk 1,gk 2,gk 3,gk 4,⟨⟩⟩))<|jxe<|jte<|jle<|jbh<|jln (gv (fun _ k=>k) [900,901,2] ⟨gk 0,gk 2,gk 3,gk 4,⟨⟩⟩))<|fun s1 _ k=>k<|
  jjn (fun s7 K=>K [(4, vb s7)] [[], [], []] [Pt (eArr 9 eStr) 0 0 tab_formula_words]) (jrg<|jpc 1 rfl<|jla 2 2 rfl rfl rfl<|jcl c_ref42_Order rfl ⟨ck 1,ck 2,⟨⟩⟩<|fun r12 _ k p12 c12=>k<|jcl c_ref42_Same rfl ⟨ck 1,ck 0,⟨⟩⟩<|fun r13 _ k=>k<|
  jpc 1 rfl<|jsg 116 rfl (jcl c_law42_awake rfl ⟨ck 4,⟨⟩⟩<|fun r14 _ k=>k<|jpe (vb r14)<|jpc 1 rfl<|joe<|jnn (gv (fun _ k=>k) [900,901,902] ⟨gk 4,⟨⟩⟩))<|jpc 1 rfl<|jpe (vb false)<|jpc 1 rfl<|joe<|jnn (gv (fun _ k=>k) [900,901,902] ⟨gk 4,⟨⟩⟩)
  )<|fun s7 _ k=>k<|jxr<|jr1 rfl rfl (fun _ k=>k) [] ⟨⟩

theorem c_keep_Src_More {qd : Prop} {y0 : T_keep_Src} : Con qd Tryz.prog 16 [pt b1 0] [bx b1 68 [sv p1 y0.1 c1, vi y0.2]] [Rl (eInt .i64) p1 c1 y0.1] (m_keep_Src_More y0) fun r K=>K (vb r) [bx b1 68 [sv p1 y0.1 c1, vi y0.2]] [] :=
 ent3 Tryz.call16 Tryz.func16 rfl fun X=>jsr<|jpc 1 rfl<|jot<|jds [] [0] 11<|jdc 9 [0,1] rfl<|jdf 2 1 rfl rfl<|jdo 3 0 rfl rfl rfl rfl<|jdc 5 [4,5] rfl<|jdf 6 0 rfl rfl<|jdo 7 0 rfl rfl rfl rfl<|jdc 0 [8,9,10] rfl<|jde<|jtn<|jxr<|jr1 rfl rfl (fun _ k=>k) [0] ⟨⟩

theorem c_keep_Src_Text {qd : Prop} {y0 : T_keep_Src} {y1 : List Str} : Con qd Tryz.prog 51 [pt b1 0, sv p2 y1 c2] [bx b1 68 [sv p1 y0.1 c1, vi y0.2]] [Rl (eInt .i64) p1 c1 y0.1, Rl eStr p2 c2 y1] (m_keep_Src_Text y0 y1) fun r K=>K (vs r.1) [bx b1 68 [sv p1 y0.1 c1, vi r.2]] [] :=
 ent3 Tryz.call51 Tryz.func51 rfl fun X=>jsr<|jpc 1 rfl<|jot<|jsr<|jpc 4 rfl<|jca .s [0] [] c_keep_Src_N rfl rfl rfl ⟨ck 0,⟨⟩⟩<|fun r1 _ k=>k<|jix 1 rfl rfl rfl<|fun x1 b2 o1=>jld false oS (gk 0) rfl<|jpc 1 rfl<|jot<|jxr<|jr1 rfl rfl (fun _ k=>k) [0] ⟨⟩

theorem c_net_Literal {qd : Prop} {y0 : T_keep_Src} : Con qd Tryz.prog 18 [pt b1 0] [bx b1 68 [sv p1 y0.1 c1, vi y0.2]] [Rl (eInt .i64) p1 c1 y0.1] (m_net_Literal y0) fun r K=>K (.agg #[vb r.1.1, vs r.1.2]) [bx b1 68 [sv p1 y0.1 c1, vi r.2]] [] :=
 ent3 Tryz.call18 Tryz.func18 rfl fun X=>jsr<|jal .s (.agg #[vb false, vs []])<|fun b2=>jot<|jsr<|jpc 1 rfl<|jca .s [0] [] c_keep_Src_N rfl rfl rfl ⟨ck 0,⟨⟩⟩<|fun r1 _ k=>k<|jpc 2 rfl<|
  jbs .s (e := eStr) 9 [vs [112], vs [113], vs [114], vs [115]] ([[112], [113], [114], [115]] : List Str) (rC vS (rC vS (rC vS (rC vS rN))))<|fun p2 c2=>jca .s [0] [] c_keep_Src_Text rfl rfl rfl ⟨ck 1,ck 0,⟨⟩⟩<|fun r2 _ k=>k<|
  jpe (.agg #[vb (r1.1 == 1), vs r2.1])<|jso .s 1 rfl rfl rfl<|jot<|jxr<|jrg' rfl (lC 1 (.agg #[vb (r1.1 == 1), vs r2.1]) rfl rfl lN) (fun _ k=>k) [0] ⟨⟩

theorem c_ref01_Compare {qd : Prop} {y0 : T_Literal} {y1 : T_Literal} : Con qd Tryz.prog 84 [.agg #[vb y0.1, vs y0.2], .agg #[vb y1.1, vs y1.2]] [] [] (m_ref01_Compare y0 y1) fun r K=>K (vi r) [] [] :=
 ent3 Tryz.call84 Tryz.func84 rfl fun X=>jsr<|jbx .s rfl<|fun b1=>jbx .s rfl<|fun b2=>jpc 1 rfl<|jot<|jsq<|jbk<|jsr<|jla 0 2 rfl rfl rfl<|jla 1 2 rfl rfl rfl<|jpe (vb (y0 == y1))<|jpc 1 rfl<|jot<|jif rfl (jsr<|jpc 1 rfl<|jot<|jxr<|jbr<|jtr<|jr1 rfl rfl (fun _ k=>k) [] ⟨⟩)<|
  jjp (fun K=>K [(9, vb ((sless y0.2 y1.2) || ((y0.2 == y1.2) && y1.1)))] [[], []] []) (jrg<|jfa 1 rfl<|jlo 0 rfl rfl rfl<|jfa 1 rfl<|jlo 1 rfl rfl rfl<|jpc 2 rfl<|jsp (b := sless y0.2 y1.2) 15 rfl (fun hb1=>jpc 9 rfl<|jpe (vb true)<|
  jpc 1 rfl<|joe<|jup 9 (vb ((sless y0.2 y1.2) || ((y0.2 == y1.2) && y1.1))) rfl (by rw [hb1]; rfl)<|jnn (gv (fun _ k=>k) [900,901] ⟨⟩))<|fun hb1=>jfa 1 rfl<|jlo 0 rfl rfl rfl<|jfa 1 rfl<|jlo 1 rfl rfl rfl<|jpc 2 rfl<|
  jsp (b := y0.2 == y1.2) 21 rfl (fun hb2=>jfa 0 rfl<|jlo 1 rfl rfl rfl<|jpe (vb y1.1)<|jpe (vb y1.1)<|jpc 1 rfl<|joe<|jup 9 (vb ((sless y0.2 y1.2) || ((y0.2 == y1.2) && y1.1))) rfl (by rw [hb1,hb2]; rfl)<|jnn (gv (fun _ k=>k) [900,901] ⟨⟩)
  )<|fun hb2=>jpc 2 rfl<|jpe (vb false)<|jpe (vb false)<|jpc 1 rfl<|joe<|jup 9 (vb ((sless y0.2 y1.2) || ((y0.2 == y1.2) && y1.1))) rfl (by rw [hb1,hb2]; rfl)<|jnn (gv (fun _ k=>k) [900,901] ⟨⟩))<|fun _ k=>k<|jif rfl (jsr<|jpc 1 rfl<|jot<|
  jxr<|jbr<|jtr<|jr1 rfl rfl (fun _ k=>k) [] ⟨⟩)<|jsk<|jbn<|jtn<|jsr<|jpc 1 rfl<|jot<|jxr<|jr1 rfl rfl (fun _ k=>k) [] ⟨⟩

theorem c_ref01_Insert {qd : Prop} {y0 : List T_Literal} {y1 : T_Literal} : Con qd Tryz.prog 52 [sv p1 y0 c1, .agg #[vb y1.1, vs y1.2]] [] [Rl e_Literal p1 c1 y0] (m_ref01_Insert y0 y1) fun r K=>∀ p2 c2,K (sv p2 r c2) [] [Rl e_Literal p2 c2 r] :=
 ent3 Tryz.call52 Tryz.func52 rfl fun X=>jsr<|jbx .s rfl<|fun b1=>jpc 1 rfl<|jot<|jsr<|jpc 1 rfl<|jot<|jjn (fun s1 K=>K [(0, sv p1 y0 c1), (3, pt b1 0), (5, vi s1)] [bx b1 50 [vb y1.1, vs y1.2]] [Rl e_Literal p1 c1 y0]) (jbk<|
  jlp (fun s2 K=>K [(0, sv p1 y0 c1), (3, pt b1 0), (5, vi s2)] [bx b1 50 [vb y1.1, vs y1.2]] [Rl e_Literal p1 c1 y0]) (gv (fun _ k=>k) [0] ⟨gk 0,⟨⟩⟩)<|fun s2 _ k=>k<|jsq<|
  jjn (fun s3 K=>K [(0, sv p1 y0 c1), (3, pt b1 0), (5, vi s2), (19, vb s3)] [bx b1 50 [vb y1.1, vs y1.2]] [Rl e_Literal p1 c1 y0]) (jdS [] [0] 13<|jdc 8 [0,1,2,3,4] rfl<|jsg 11 rfl (jdc 6 [5,6] rfl<|jdi 7 0 rfl rfl rfl rfl<|fun x1 b2 o1=>
  jdl 8 true o_Literal rfl (gk 0) rfl<|jda 9 0 2 rfl rfl rfl rfl<|jd1 10<|jca (.f rfl) [] [] c_ref01_Compare rfl rfl rfl ⟨⟩<|fun r1 _ k=>k<|jdn<|jdc 1 [11] rfl<|jdp 12 (vb (decide (r1 < 0))) rfl<|jde<|jnn (gv (fun _ k=>k) [0] ⟨gk 1,⟨⟩⟩))<|
  jdc 1 [5,6,7,8,9,10,11] rfl<|jdp 12 (vb false) rfl<|jde<|jnn (gv (fun _ k=>k) [0] ⟨gk 0,⟨⟩⟩))<|fun s3 _ k=>k<|jif rfl (jsk<|jtn<|jbk<|jrg<|jpc 3 rfl<|joe<|jbn<|jln (gv (fun _ k=>k) [0] ⟨gk 0,⟨⟩⟩))<|jxe<|jte<|jle<|jbh<|
  jnn (gv (fun _ k=>k) [0] ⟨gk 0,⟨⟩⟩))<|fun s1 _ k=>k<|jsq<|jjn (fun s4 K=>K [(0, sv p1 y0 c1), (3, pt b1 0), (5, vi s1), (33, vb s4)] [bx b1 50 [vb y1.1, vs y1.2]] [Rl e_Literal p1 c1 y0]) (jdS [] [0] 12<|jdc 7 [0,1,2,3,4] rfl<|jsg 26 rfl (
  jdc 5 [5,6] rfl<|jdi 7 0 rfl rfl rfl rfl<|fun x2 b3 o2=>jdl 8 true o_Literal rfl (gk 0) rfl<|jda 9 0 2 rfl rfl rfl rfl<|jdp 10 (vb (x2 == y1)) rfl<|jdp 11 (vb (x2 == y1)) rfl<|jde<|jnn (gv (fun _ k=>k) [0] ⟨gk 1,⟨⟩⟩))<|
  jdc 1 [5,6,7,8,9,10] rfl<|jdp 11 (vb false) rfl<|jde<|jnn (gv (fun _ k=>k) [0] ⟨gk 0,⟨⟩⟩))<|fun s4 _ k=>k<|jif rfl (jsr<|jpc 2 rfl<|jot<|jxr<|jtr<|jr1 rfl rfl (fun _ k=>k p1 c1) [] ⟨gk 0,⟨⟩⟩)<|jsk<|jtn<|jsr<|
  jbo .s (e := e_Literal) 50 [] ([] : List T_Literal) rN<|fun r_1 p2 c2=>jpc 2 rfl<|jsl (gk 1) rfl rfl rfl (.inl ⟨rfl, rfl⟩) (.inr ⟨_, rfl⟩)<|fun x3 p3 c3=>jar .s 1 1 rfl (gk 0) rfl rfl<|fun x4 r_2 p4 c4=>jpc 1 rfl<|jot<|jds [] [0] 9<|
  jdc 8 [0] rfl<|jda 1 0 2 rfl rfl rfl rfl<|jdc 5 [4,5] rfl<|jdw 6 rfl (gk 3) rfl rfl rfl (.inr ⟨_, rfl⟩) (.inl ⟨rfl, rfl⟩)<|fun x5 p5 c5=>jd1 2<|jbs (.f rfl) (e := e_Literal) 50 [vb y1.1, vs y1.2] ([y1] : List T_Literal) (rC (vP vB vS) rN)<|
  fun p6 c6=>jdn<|jd1 3<|jar (.f rfl) 1 2 rfl (gk 0) rfl rfl<|fun x6 r_3 p7 c7=>jdn<|jd1 7<|jar (.f rfl) 1 0 rfl (gk 2) rfl rfl<|fun x7 r_4 p8 c8=>jdn<|jdc 0 [8] rfl<|jde<|jtn<|jxr<|jsh 1 0 rfl rfl<|jr1 rfl rfl (fun _ k=>k p8 c8) [] ⟨gk 0,⟨⟩⟩

theorem c_ref01_Normal {qd : Prop} {y0 : List T_Literal} : Con qd Tryz.prog 19 [sv p1 y0 c1] [] [Rl e_Literal p1 c1 y0] (m_ref01_Normal y0) fun r K=>∀ p2 c2,K (sv p2 r c2) [] [Rl e_Literal p2 c2 r] :=
 ent3 Tryz.call19 Tryz.func19 rfl fun X=>jsr<|jpc 1 rfl<|jot<|jsr<|jpc 1 rfl<|jot<|jsq<|jsr<|jpc 1 rfl<|jot<|jbk<|
  jlp (fun s1 K=>∀ p2 c2,K [(0, sv p1 y0 c1), (3, sv p2 s1.1 c2), (4, vi s1.2)] [] [Rl e_Literal p2 c2 s1.1, Rl e_Literal p1 c1 y0]) (gv (fun _ k=>k none 0) [] ⟨gn,gk 0,⟨⟩⟩)<|fun s1 _ k p2 c2=>k<|jsq<|jsr<|jpc 4 rfl<|jot<|jif rfl (jsk<|jtn<|
  jsq<|jbk<|jrg<|jpc 3 rfl<|jix 1 rfl rfl rfl<|fun x1 b1 o1=>jld true o_Literal (gk 0) rfl<|jcl c_ref01_Insert rfl ⟨ck 1,⟨⟩⟩<|fun r1 _ k p3 c3=>k<|jpc 1 rfl<|joe<|jbn<|jtn<|jrg<|jpc 3 rfl<|joe<|jln (gv (fun _ k=>k p3 c3) [] ⟨gk 0,gk 3,⟨⟩⟩))<|
  jxe<|jte<|jle<|jbh<|jtn<|jsr<|jpc 2 rfl<|jot<|jxr<|jr1 rfl rfl (fun _ k=>k p2 c2) [] ⟨gk 0,⟨⟩⟩

theorem c_ref26_New {qd : Prop} {y0 : Int} : Con qd Tryz.prog 15 [vi y0] [] [] (m_ref26_New y0) fun r K=>∀ p1 c1,K (.tuple #[.agg #[sv p1 r.1 c1], vi r.2]) [] [Rl (eSlice e_Commitment) p1 c1 r.1] :=
 ent3 Tryz.call15 Tryz.func15 rfl fun X=>jsr<|jal .s (.agg #[.slice none 0 0])<|fun b1=>jpc 1 rfl<|jot<|jsq<|jjp (fun K=>K [(0, vi y0), (2, pt b1 0), (9, vb ((decide (y0 < 0)) || (decide (6 < y0))))] [bx b1 47 [.slice none 0 0]] []) (jrg<|jpc 3 rfl<|
  jsp (b := decide (y0 < 0)) 6 rfl (fun hb1=>jpc 2 rfl<|jpe (vb true)<|joe<|jup 9 (vb ((decide (y0 < 0)) || (decide (6 < y0)))) rfl (by rw [hb1]; rfl)<|jnn (gv (fun _ k=>k) [0] ⟨⟩))<|fun hb1=>jpc 2 rfl<|jpe (vb (decide (6 < y0)))<|joe<|
  jup 9 (vb ((decide (y0 < 0)) || (decide (6 < y0)))) rfl (by rw [hb1]; rfl)<|jnn (gv (fun _ k=>k) [0] ⟨⟩))<|fun _ k=>k<|jif rfl (jsr<|jpe (.agg #[.slice none 0 0])<|jso .s 0 rfl rfl rfl<|jpc 1 rfl<|jot<|jxr<|jtr<|
  jrg' rfl (lC 0 (.agg #[.slice none 0 0]) rfl rfl (lT rfl lN)) (fun _ k=>k none 0) [] ⟨gn,⟨⟩⟩)<|jsk<|jtn<|jsr<|jpc 1 rfl<|jmk .s (e := eSlice e_Commitment) 48 (([] : List T_Commitment) : List T_Commitment) (.slice none 0 0) (vL gn) rfl rfl<|
  fun x1 r_1 p1 c1=>jpe (.agg #[sv p1 x1 c1])<|jso .s 0 rfl rfl rfl<|jpc 1 rfl<|jot<|jxr<|jsh 1 0 rfl rfl<|jrg' rfl (lC 0 (.agg #[sv p1 x1 c1]) rfl rfl (lT rfl lN)) (fun _ k=>k p1 c1) [] ⟨gk 0,⟨⟩⟩

theorem c_ref01_Valid {qd : Prop} {y0 : T_Literal} : Con qd Tryz.prog 55 [.agg #[vb y0.1, vs y0.2]] [] [] (m_ref01_Valid y0) fun r K=>K (vb r) [] [] :=
 ent3 Tryz.call55 Tryz.func55 rfl fun X=>jsr<|jbx .s rfl<|fun b1=>jpc 1 rfl<|jot<|jsr<|jfa 1 rfl<|jlo 0 rfl rfl rfl<|jcl c_ref01_ValidName rfl ⟨⟩<|fun r1 _ k=>k<|jpc 1 rfl<|jot<|jxr<|jr1 rfl rfl (fun _ k=>k) [] ⟨⟩

theorem c_ref26_ascending {qd : Prop} {y0 : List T_Literal} : Con qd Tryz.prog 132 [sv p1 y0 c1] [] [Rl e_Literal p1 c1 y0] (m_ref26_ascending y0) fun r K=>K (vb r) [] [] :=
 ent3 Tryz.call132 Tryz.func132 rfl fun X=>jsr<|jpc 1 rfl<|jot<|jsq<|jsr<|jpc 1 rfl<|jot<|jbk<|jlp (fun s1 K=>K [(0, sv p1 y0 c1), (3, vi s1)] [] [Rl e_Literal p1 c1 y0]) (gv (fun _ k=>k) [] ⟨gk 0,⟨⟩⟩)<|fun s1 _ k=>k<|jsq<|jsr<|jpc 4 rfl<|jot<|jif rfl (jsk<|jtn<|jsq<|jbk<|
  jds [] [] 11<|jdc 8 [0,1,2] rfl<|jdi 3 0 rfl rfl rfl rfl<|fun x1 b1 o1=>jdl 4 true o_Literal rfl (gk 0) rfl<|jdc 4 [5,6] rfl<|jdi 7 1 rfl rfl rfl rfl<|fun x2 b2 o2=>jdl 8 true o_Literal rfl (gk 0) rfl<|jd1 9<|
  jca (.f rfl) [] [] c_ref01_Compare rfl rfl rfl ⟨⟩<|fun r1 _ k=>k<|jdn<|jdc 0 [10] rfl<|jde<|jtn<|jif rfl (jsr<|jpc 1 rfl<|jot<|jxr<|jbr<|jtr<|jlr<|jbr<|jtr<|jr1 rfl rfl (fun _ k=>k) [] ⟨⟩)<|jsk<|jbn<|jtn<|jrg<|jpc 3 rfl<|joe<|
  jln (gv (fun _ k=>k) [] ⟨gk 2,⟨⟩⟩))<|jxe<|jte<|jle<|jbh<|jtn<|jsr<|jpc 1 rfl<|jot<|jxr<|jr1 rfl rfl (fun _ k=>k) [] ⟨⟩

theorem c_ref26_find {qd : Prop} {y0 : List T_Commitment} {y1 : T_Literal} : Con qd Tryz.prog 86 [sv p1 y0 c1, .agg #[vb y1.1, vs y1.2]] [] [Rl e_Commitment p1 c1 y0] (m_ref26_find y0 y1) fun r K=>K (vi r) [] [] :=
 ent3 Tryz.call86 Tryz.func86 rfl fun X=>jsr<|jbx .s rfl<|fun b1=>jpc 1 rfl<|jot<|jsq<|jsr<|jpc 1 rfl<|jot<|jbk<|jlp (fun s1 K=>K [(0, sv p1 y0 c1), (3, pt b1 0), (5, vi s1)] [bx b1 50 [vb y1.1, vs y1.2]] [Rl e_Commitment p1 c1 y0]) (gv (fun _ k=>k) [0] ⟨gk 0,⟨⟩⟩)<|fun s1 _ k=>k<|
  jsq<|jsr<|jpc 4 rfl<|jot<|jif rfl (jsk<|jtn<|jsq<|jbk<|jds [] [0] 7<|jdc 5 [0,1] rfl<|jdi 2 0 rfl rfl rfl rfl<|fun x1 b2 o1=>jdf 3 0 rfl rfl<|jdl 4 true o_Literal rfl (gf (gk 0)) rfl<|jda 5 0 2 rfl rfl rfl rfl<|jdp 6 (vb (x1.1 == y1)) rfl<|
  jde<|jtn<|jif rfl (jsr<|jpc 2 rfl<|jot<|jxr<|jbr<|jtr<|jlr<|jbr<|jtr<|jr1 rfl rfl (fun _ k=>k) [] ⟨⟩)<|jsk<|jbn<|jtn<|jrg<|jpc 3 rfl<|joe<|jln (gv (fun _ k=>k) [0] ⟨gk 1,⟨⟩⟩))<|jxe<|jte<|jle<|jbh<|jtn<|jsr<|jpc 1 rfl<|jot<|jxr<|
  jr1 rfl rfl (fun _ k=>k) [] ⟨⟩

theorem c_ref26_in {qd : Prop} {y0 : List T_Literal} {y1 : T_Literal} : Con qd Tryz.prog 91 [sv p1 y0 c1, .agg #[vb y1.1, vs y1.2]] [] [Rl e_Literal p1 c1 y0] (m_ref26_in y0 y1) fun r K=>K (vb r) [] [] :=
 ent3 Tryz.call91 Tryz.func91 rfl fun X=>jsr<|jbx .s rfl<|fun b1=>jpc 1 rfl<|jot<|jsq<|jsr<|jpc 1 rfl<|jot<|jbk<|jlp (fun s1 K=>K [(0, sv p1 y0 c1), (3, pt b1 0), (5, vi s1)] [bx b1 50 [vb y1.1, vs y1.2]] [Rl e_Literal p1 c1 y0]) (gv (fun _ k=>k) [0] ⟨gk 0,⟨⟩⟩)<|fun s1 _ k=>k<|
  jsq<|jsr<|jpc 4 rfl<|jot<|jif rfl (jsk<|jtn<|jsq<|jbk<|jds [] [0] 6<|jdc 4 [0,1] rfl<|jdi 2 0 rfl rfl rfl rfl<|fun x1 b2 o1=>jdl 3 true o_Literal rfl (gk 0) rfl<|jda 4 0 2 rfl rfl rfl rfl<|jdp 5 (vb (x1 == y1)) rfl<|jde<|jtn<|jif rfl (jsr<|
  jpc 1 rfl<|jot<|jxr<|jbr<|jtr<|jlr<|jbr<|jtr<|jr1 rfl rfl (fun _ k=>k) [] ⟨⟩)<|jsk<|jbn<|jtn<|jrg<|jpc 3 rfl<|joe<|jln (gv (fun _ k=>k) [0] ⟨gk 1,⟨⟩⟩))<|jxe<|jte<|jle<|jbh<|jtn<|jsr<|jpc 1 rfl<|jot<|jxr<|jr1 rfl rfl (fun _ k=>k) [] ⟨⟩

theorem c_ref26_not {qd : Prop} {y0 : T_Literal} : Con qd Tryz.prog 87 [.agg #[vb y0.1, vs y0.2]] [] [] (m_ref26_not y0) fun r K=>K (.agg #[vb r.1, vs r.2]) [] [] :=
 ent3 Tryz.call87 Tryz.func87 rfl fun X=>jsr<|jbx .s rfl<|fun b1=>jal .s (.agg #[vb false, vs []])<|fun b2=>jot<|jsr<|jfa 0 rfl<|jlo 0 rfl rfl rfl<|jpc 1 rfl<|jfa 1 rfl<|jlo 0 rfl rfl rfl<|jpe (.agg #[vb (!y0.1), vs y0.2])<|jso .s 1 rfl rfl rfl<|jot<|jxr<|
  jrg' rfl (lC 1 (.agg #[vb (!y0.1), vs y0.2]) rfl rfl lN) (fun _ k=>k) [] ⟨⟩

theorem c_ref26_right {qd : Prop} {y0 : List T_Commitment} : Con qd Tryz.prog 85 [sv p1 y0 c1] [] [Rl e_Commitment p1 c1 y0] (m_ref26_right y0) fun r K=>K (.agg #[vb r.1, vb r.2.1, vb r.2.2.1, vb r.2.2.2.1, vb r.2.2.2.2]) [] [] :=
 ent3 Tryz.call85 Tryz.func85 rfl fun X=>jsr<|jal .s (.agg #[vb false, vb false, vb false, vb false, vb false])<|fun b1=>jot<|jsr<|jpc 3 rfl<|jv (v := .agg #[vb (decide ((len y0) ≤ 40)), vb true, vb true, vb true, vb true]) (fun h=>r_buildA h (by kernel_rfl))<|
  jal .s (.agg #[vb false, vb false, vb false, vb false, vb false])<|fun b2=>jso .s 1 rfl rfl rfl<|jot<|
  jjn (fun s1 K=>K [(2, pt b1 0), (3, pt b2 0)] [bx b1 118 [vb false, vb false, vb false, vb false, vb false], bx b2 118 [vb s1.1, vb s1.2.1, vb s1.2.2.1, vb s1.2.2.2.1, vb s1.2.2.2.2]] []) (jsr<|jpc 1 rfl<|jot<|jbk<|
  jlp (fun s2 K=>K [(0, sv p1 y0 c1), (2, pt b1 0), (3, pt b2 0), (4, vi s2.1)] [bx b1 118 [vb false, vb false, vb false, vb false, vb false], bx b2 118 [vb s2.2.1, vb s2.2.2.1, vb s2.2.2.2.1, vb s2.2.2.2.2.1, vb s2.2.2.2.2.2]] [Rl e_Commitment p1 c1 y0]) (gv (fun _ k=>k) [0,1] ⟨gk 0,⟨⟩⟩)<|
  fun s2 _ k=>k<|jsq<|jsr<|jpc 4 rfl<|jot<|jif rfl (jsk<|jtn<|jsq<|jbk<|jsr<|jpc 2 rfl<|jix 0 rfl rfl rfl<|fun x1 b3 o1=>jld true o_Commitment (gk 0) rfl<|fun p2 c2=>jal .s (.agg #[vb false, vs [], vb false, vb false, .slice none 0 0])<|
  fun b4=>jso .s 2 rfl rfl rfl<|jot<|
  jjn (fun s3 K=>K [(0, sv p1 y0 c1), (2, pt b1 0), (3, pt b2 0), (4, vi s2.1), (5, pt b4 0)] [bx b1 118 [vb false, vb false, vb false, vb false, vb false], bx b2 118 [vb s3, vb s2.2.2.1, vb s2.2.2.2.1, vb s2.2.2.2.2.1, vb s2.2.2.2.2.2], bx b4 53 [vb x1.1.1, vs x1.1.2, vb x1.2.1, vb x1.2.2.1, sv p2 x1.2.2.2 c2]] [Rl e_Commitment p1 c1 y0, Rl e_Literal p2 c2 x1.2.2.2]) (
  jrg<|jv (v := pt b2 0) (fun h=>r_iaddr (k := 5) (sz := 1) h rfl rfl (by kernel_rfl) (by decide) rfl)<|jlo 1 rfl rfl rfl<|jpc 1 rfl<|jsg 23 rfl (jfa 4 rfl<|jlo 2 rfl rfl rfl<|jpc 2 rfl<|jpe (vb (decide ((len x1.2.2.2) ≤ 6)))<|
  jv (v := pt b2 0) (fun h=>r_iaddr (k := 5) (sz := 1) h rfl rfl (by kernel_rfl) (by decide) rfl)<|jso .s 1 rfl rfl rfl<|joe<|jnn (gv (fun _ k=>k) [0,1,2] ⟨gk 2,gk 0,⟨⟩⟩))<|jpc 4 rfl<|jpe (vb false)<|
  jv (v := pt b2 0) (fun h=>r_iaddr (k := 5) (sz := 1) h rfl rfl (by kernel_rfl) (by decide) rfl)<|jso .s 1 rfl rfl rfl<|joe<|jnn (gv (fun _ k=>k) [0,1,2] ⟨gk 2,gk 0,⟨⟩⟩))<|fun s3 _ k=>k<|
  jjn (fun s4 K=>K [(0, sv p1 y0 c1), (2, pt b1 0), (3, pt b2 0), (4, vi s2.1), (5, pt b4 0)] [bx b1 118 [vb false, vb false, vb false, vb false, vb false], bx b2 118 [vb s3, vb s4, vb s2.2.2.2.1, vb s2.2.2.2.2.1, vb s2.2.2.2.2.2], bx b4 53 [vb x1.1.1, vs x1.1.2, vb x1.2.1, vb x1.2.2.1, sv p2 x1.2.2.2 c2]] [Rl e_Commitment p1 c1 y0, Rl e_Literal p2 c2 x1.2.2.2]) (
  jrg<|jv (v := pt b2 1) (fun h=>r_iaddr (k := 5) (sz := 1) h rfl rfl (by kernel_rfl) (by decide) rfl)<|jlo 1 rfl rfl rfl<|jpc 1 rfl<|jsg 32 rfl (jfa 0 rfl<|jla 2 2 rfl rfl rfl<|jcl c_ref01_Valid rfl ⟨⟩<|fun r1 _ k=>k<|jpe (vb r1)<|
  jv (v := pt b2 1) (fun h=>r_iaddr (k := 5) (sz := 1) h rfl rfl (by kernel_rfl) (by decide) rfl)<|jso .s 1 rfl rfl rfl<|joe<|jnn (gv (fun _ k=>k) [0,1,2] ⟨gk 0,gk 1,⟨⟩⟩))<|jpc 3 rfl<|jpe (vb false)<|
  jv (v := pt b2 1) (fun h=>r_iaddr (k := 5) (sz := 1) h rfl rfl (by kernel_rfl) (by decide) rfl)<|jso .s 1 rfl rfl rfl<|joe<|jnn (gv (fun _ k=>k) [0,1,2] ⟨gk 0,gk 1,⟨⟩⟩))<|fun s4 _ k=>k<|
  jjn (fun s5 K=>K [(0, sv p1 y0 c1), (2, pt b1 0), (3, pt b2 0), (4, vi s2.1), (5, pt b4 0)] [bx b1 118 [vb false, vb false, vb false, vb false, vb false], bx b2 118 [vb s3, vb s5, vb s2.2.2.2.1, vb s2.2.2.2.2.1, vb s2.2.2.2.2.2], bx b4 53 [vb x1.1.1, vs x1.1.2, vb x1.2.1, vb x1.2.2.1, sv p2 x1.2.2.2 c2]] [Rl e_Commitment p1 c1 y0, Rl e_Literal p2 c2 x1.2.2.2]) (
  jsr<|jpc 1 rfl<|jot<|jbk<|
  jlp (fun s6 K=>K [(0, sv p1 y0 c1), (2, pt b1 0), (3, pt b2 0), (4, vi s2.1), (5, pt b4 0), (6, vi s6.1)] [bx b1 118 [vb false, vb false, vb false, vb false, vb false], bx b2 118 [vb s3, vb s6.2, vb s2.2.2.2.1, vb s2.2.2.2.2.1, vb s2.2.2.2.2.2], bx b4 53 [vb x1.1.1, vs x1.1.2, vb x1.2.1, vb x1.2.2.1, sv p2 x1.2.2.2 c2]] [Rl e_Commitment p1 c1 y0, Rl e_Literal p2 c2 x1.2.2.2]) (gv (fun _ k=>k) [0,1,2] ⟨gk 0,gk 1,⟨⟩⟩)<|
  fun s6 _ k=>k<|jsq<|jsr<|jpc 1 rfl<|jfa 4 rfl<|jlo 2 rfl rfl rfl<|jpc 2 rfl<|jot<|jif rfl (jsk<|jtn<|jsq<|jbk<|
  jjc (fun s7 K=>K [(0, sv p1 y0 c1), (2, pt b1 0), (3, pt b2 0), (4, vi s2.1), (5, pt b4 0), (6, vi s6.1)] [bx b1 118 [vb false, vb false, vb false, vb false, vb false], bx b2 118 [vb s3, vb s7, vb s2.2.2.2.1, vb s2.2.2.2.2.1, vb s2.2.2.2.2.2], bx b4 53 [vb x1.1.1, vs x1.1.2, vb x1.2.1, vb x1.2.2.1, sv p2 x1.2.2.2 c2]] [Rl e_Commitment p1 c1 y0, Rl e_Literal p2 c2 x1.2.2.2]) (
  jrg<|jv (v := pt b2 1) (fun h=>r_iaddr (k := 5) (sz := 1) h rfl rfl (by kernel_rfl) (by decide) rfl)<|jlo 1 rfl rfl rfl<|jpc 1 rfl<|jsg 47 rfl (jfa 4 rfl<|jlo 2 rfl rfl rfl<|jpc 1 rfl<|jix 1 rfl rfl rfl<|fun x2 b5 o2=>
  jld true o_Literal (gk 0) rfl<|jcl c_ref01_Valid rfl ⟨⟩<|fun r2 _ k=>k<|jpe (vb r2)<|jv (v := pt b2 1) (fun h=>r_iaddr (k := 5) (sz := 1) h rfl rfl (by kernel_rfl) (by decide) rfl)<|jso .s 1 rfl rfl rfl<|joe<|
  jnn (gv (fun _ k=>k) [0,1,2] ⟨gk 1,gk 2,⟨⟩⟩))<|jpc 6 rfl<|jpe (vb false)<|jv (v := pt b2 1) (fun h=>r_iaddr (k := 5) (sz := 1) h rfl rfl (by kernel_rfl) (by decide) rfl)<|jso .s 1 rfl rfl rfl<|joe<|
  jnn (gv (fun _ k=>k) [0,1,2] ⟨gk 0,gk 1,⟨⟩⟩))<|fun s7 _ k=>k<|jbn<|jtn<|jrg<|jpc 3 rfl<|joe<|jln (gv (fun _ k=>k) [0,1,2] ⟨gk 0,gk 1,⟨⟩⟩))<|jxe<|jte<|jle<|jbh<|jnn (gv (fun _ k=>k) [0,1,2] ⟨gk 0,gk 1,⟨⟩⟩))<|fun s5 _ k=>k<|
  jjn (fun s8 K=>K [(0, sv p1 y0 c1), (2, pt b1 0), (3, pt b2 0), (4, vi s2.1), (5, pt b4 0)] [bx b1 118 [vb false, vb false, vb false, vb false, vb false], bx b2 118 [vb s3, vb s5, vb s8, vb s2.2.2.2.2.1, vb s2.2.2.2.2.2], bx b4 53 [vb x1.1.1, vs x1.1.2, vb x1.2.1, vb x1.2.2.1, sv p2 x1.2.2.2 c2]] [Rl e_Commitment p1 c1 y0, Rl e_Literal p2 c2 x1.2.2.2]) (
  jdS [24] [1, 2] 25<|jdv (v := pt b2 2) 0 rfl (fun h=>r_iaddr (k := 5) (sz := 1) h rfl rfl (by kernel_rfl) (by decide) rfl)<|jdo 1 1 rfl rfl rfl rfl<|jdc 22 [2] rfl<|jsg 58 rfl (jdf 3 4 rfl rfl<|jdo 4 2 rfl rfl rfl rfl<|jd1 5<|
  jca (.f rfl) [] [] c_ref26_ascending rfl rfl rfl ⟨ck 1,⟨⟩⟩<|fun r3 _ k=>k<|jdn<|jdp 6 (vb r3) rfl<|jdc 17 [7] rfl<|jsg 63 rfl (jdc 14 [8,9,10] rfl<|jsg 66 rfl (jdc 4 [11,12,13,14,15,16,17,18,19,20] rfl<|jdp 21 (vb true) rfl<|
  jdp 22 (vb true) rfl<|jdv (v := pt b2 2) 23 rfl (fun h=>r_iaddr (k := 5) (sz := 1) h rfl rfl (by kernel_rfl) (by decide) rfl)<|jd1 24<|jso (o := 2) (.f rfl) 1 rfl rfl rfl<|jdb [] [1, 2]<|jde<|jnn (gv (fun _ k=>k) [0,1,2] ⟨gk 0,gk 1,⟨⟩⟩))<|
  jdc 11 [11,12,13] rfl<|jdi 14 0 rfl rfl rfl rfl<|fun x3 b6 o3=>jdf 15 0 rfl rfl<|jdl 16 true o_Literal rfl (gf (gk 0)) rfl<|jdf 17 0 rfl rfl<|jda 18 2 2 rfl rfl rfl rfl<|jd1 19<|jca (.f rfl) [] [] c_ref01_Compare rfl rfl rfl ⟨⟩<|
  fun r4 _ k=>k<|jdn<|jdc 4 [20] rfl<|jdp 21 (vb (decide (r4 < 0))) rfl<|jdp 22 (vb (decide (r4 < 0))) rfl<|jdv (v := pt b2 2) 23 rfl (fun h=>r_iaddr (k := 5) (sz := 1) h rfl rfl (by kernel_rfl) (by decide) rfl)<|jd1 24<|
  jso (o := 2) (.f rfl) 1 rfl rfl rfl<|jdb [] [1, 2]<|jde<|jnn (gv (fun _ k=>k) [0,1,2] ⟨gk 1,gk 2,⟨⟩⟩))<|jdc 3 [8,9,10,11,12,13,14,15,16,17,18,19,20,21] rfl<|jdp 22 (vb false) rfl<|
  jdv (v := pt b2 2) 23 rfl (fun h=>r_iaddr (k := 5) (sz := 1) h rfl rfl (by kernel_rfl) (by decide) rfl)<|jd1 24<|jso (o := 2) (.f rfl) 1 rfl rfl rfl<|jdb [] [1, 2]<|jde<|jnn (gv (fun _ k=>k) [0,1,2] ⟨gk 0,gk 1,⟨⟩⟩))<|jdc 19 [3,4,5] rfl<|
  jdp 6 (vb false) rfl<|jdc 3 [7,8,9,10,11,12,13,14,15,16,17,18,19,20,21] rfl<|jdp 22 (vb false) rfl<|jdv (v := pt b2 2) 23 rfl (fun h=>r_iaddr (k := 5) (sz := 1) h rfl rfl (by kernel_rfl) (by decide) rfl)<|jd1 24<|
  jso (o := 2) (.f rfl) 1 rfl rfl rfl<|jdb [] [1, 2]<|jde<|jnn (gv (fun _ k=>k) [0,1,2] ⟨gk 0,gk 1,⟨⟩⟩))<|fun s8 _ k=>k<|
  jjn (fun s9 K=>K [(0, sv p1 y0 c1), (2, pt b1 0), (3, pt b2 0), (4, vi s2.1), (5, pt b4 0)] [bx b1 118 [vb false, vb false, vb false, vb false, vb false], bx b2 118 [vb s3, vb s5, vb s8, vb s9, vb s2.2.2.2.2.2], bx b4 53 [vb x1.1.1, vs x1.1.2, vb x1.2.1, vb x1.2.2.1, sv p2 x1.2.2.2 c2]] [Rl e_Commitment p1 c1 y0, Rl e_Literal p2 c2 x1.2.2.2]) (
  jrg<|jv (v := pt b2 3) (fun h=>r_iaddr (k := 5) (sz := 1) h rfl rfl (by kernel_rfl) (by decide) rfl)<|jlo 1 rfl rfl rfl<|jpc 1 rfl<|jsg 82 rfl (jfa 2 rfl<|jlo 2 rfl rfl rfl<|jpc 1 rfl<|jsg 85 rfl (jfa 3 rfl<|jlo 2 rfl rfl rfl<|jpc 1 rfl<|
  jsg 88 rfl (jpc 4 rfl<|jpe (vb true)<|jpe (vb true)<|jpc 1 rfl<|jpe (vb (!true))<|jpc 1 rfl<|jsg 97 rfl (jfa 3 rfl<|jlo 2 rfl rfl rfl<|jpc 1 rfl<|jsg 100 rfl (jfa 4 rfl<|jlo 2 rfl rfl rfl<|jpc 2 rfl<|jpe (vb (decide (0 < (len x1.2.2.2))))<|
  jpc 1 rfl<|jpe (vb (!(decide (0 < (len x1.2.2.2)))))<|jpc 1 rfl<|jsg 108 rfl (jfa 4 rfl<|jlo 2 rfl rfl rfl<|jfa 0 rfl<|jla 2 2 rfl rfl rfl<|jcl c_ref26_in rfl ⟨ck 1,⟨⟩⟩<|fun r5 _ k=>k<|jpc 1 rfl<|jpe (vb (!r5))<|
  jv (v := pt b2 3) (fun h=>r_iaddr (k := 5) (sz := 1) h rfl rfl (by kernel_rfl) (by decide) rfl)<|jso .s 1 rfl rfl rfl<|joe<|jnn (gv (fun _ k=>k) [0,1,2] ⟨gk 0,gk 1,⟨⟩⟩))<|jpc 6 rfl<|jpe (vb false)<|
  jv (v := pt b2 3) (fun h=>r_iaddr (k := 5) (sz := 1) h rfl rfl (by kernel_rfl) (by decide) rfl)<|jso .s 1 rfl rfl rfl<|joe<|jnn (gv (fun _ k=>k) [0,1,2] ⟨gk 0,gk 1,⟨⟩⟩))<|jpc 4 rfl<|jpe (vb false)<|jpc 1 rfl<|jpe (vb (!false))<|jpc 1 rfl<|
  jsg 108 rfl (jfa 4 rfl<|jlo 2 rfl rfl rfl<|jfa 0 rfl<|jla 2 2 rfl rfl rfl<|jcl c_ref26_in rfl ⟨ck 1,⟨⟩⟩<|fun r6 _ k=>k<|jpc 1 rfl<|jpe (vb (!r6))<|
  jv (v := pt b2 3) (fun h=>r_iaddr (k := 5) (sz := 1) h rfl rfl (by kernel_rfl) (by decide) rfl)<|jso .s 1 rfl rfl rfl<|joe<|jnn (gv (fun _ k=>k) [0,1,2] ⟨gk 0,gk 1,⟨⟩⟩))<|jpc 6 rfl<|jpe (vb false)<|
  jv (v := pt b2 3) (fun h=>r_iaddr (k := 5) (sz := 1) h rfl rfl (by kernel_rfl) (by decide) rfl)<|jso .s 1 rfl rfl rfl<|joe<|jnn (gv (fun _ k=>k) [0,1,2] ⟨gk 0,gk 1,⟨⟩⟩))<|jpc 9 rfl<|jpe (vb false)<|jpc 7 rfl<|jpe (vb false)<|
  jv (v := pt b2 3) (fun h=>r_iaddr (k := 5) (sz := 1) h rfl rfl (by kernel_rfl) (by decide) rfl)<|jso .s 1 rfl rfl rfl<|joe<|jnn (gv (fun _ k=>k) [0,1,2] ⟨gk 0,gk 1,⟨⟩⟩))<|jfa 4 rfl<|jlo 2 rfl rfl rfl<|jpc 2 rfl<|
  jpe (vb (decide (0 < (len x1.2.2.2))))<|jpe (vb (decide (0 < (len x1.2.2.2))))<|jpc 1 rfl<|jpe (vb (!(decide (0 < (len x1.2.2.2)))))<|jpc 1 rfl<|jsg 97 rfl (jfa 3 rfl<|jlo 2 rfl rfl rfl<|jpc 1 rfl<|jsg 100 rfl (jfa 4 rfl<|
  jlo 2 rfl rfl rfl<|jpc 2 rfl<|jpe (vb (decide (0 < (len x1.2.2.2))))<|jpc 1 rfl<|jpe (vb (!(decide (0 < (len x1.2.2.2)))))<|jpc 1 rfl<|jsg 108 rfl (jfa 4 rfl<|jlo 2 rfl rfl rfl<|jfa 0 rfl<|jla 2 2 rfl rfl rfl<|jcl c_ref26_in rfl ⟨ck 1,⟨⟩⟩<|
  fun r7 _ k=>k<|jpc 1 rfl<|jpe (vb (!r7))<|jv (v := pt b2 3) (fun h=>r_iaddr (k := 5) (sz := 1) h rfl rfl (by kernel_rfl) (by decide) rfl)<|jso .s 1 rfl rfl rfl<|joe<|jnn (gv (fun _ k=>k) [0,1,2] ⟨gk 0,gk 1,⟨⟩⟩))<|jpc 6 rfl<|jpe (vb false)<|
  jv (v := pt b2 3) (fun h=>r_iaddr (k := 5) (sz := 1) h rfl rfl (by kernel_rfl) (by decide) rfl)<|jso .s 1 rfl rfl rfl<|joe<|jnn (gv (fun _ k=>k) [0,1,2] ⟨gk 0,gk 1,⟨⟩⟩))<|jpc 4 rfl<|jpe (vb false)<|jpc 1 rfl<|jpe (vb (!false))<|jpc 1 rfl<|
  jsg 108 rfl (jfa 4 rfl<|jlo 2 rfl rfl rfl<|jfa 0 rfl<|jla 2 2 rfl rfl rfl<|jcl c_ref26_in rfl ⟨ck 1,⟨⟩⟩<|fun r8 _ k=>k<|jpc 1 rfl<|jpe (vb (!r8))<|
  jv (v := pt b2 3) (fun h=>r_iaddr (k := 5) (sz := 1) h rfl rfl (by kernel_rfl) (by decide) rfl)<|jso .s 1 rfl rfl rfl<|joe<|jnn (gv (fun _ k=>k) [0,1,2] ⟨gk 0,gk 1,⟨⟩⟩))<|jpc 6 rfl<|jpe (vb false)<|
  jv (v := pt b2 3) (fun h=>r_iaddr (k := 5) (sz := 1) h rfl rfl (by kernel_rfl) (by decide) rfl)<|jso .s 1 rfl rfl rfl<|joe<|jnn (gv (fun _ k=>k) [0,1,2] ⟨gk 0,gk 1,⟨⟩⟩))<|jpc 9 rfl<|jpe (vb false)<|jpc 7 rfl<|jpe (vb false)<|
  jv (v := pt b2 3) (fun h=>r_iaddr (k := 5) (sz := 1) h rfl rfl (by kernel_rfl) (by decide) rfl)<|jso .s 1 rfl rfl rfl<|joe<|jnn (gv (fun _ k=>k) [0,1,2] ⟨gk 0,gk 1,⟨⟩⟩))<|jpc 8 rfl<|jpe (vb false)<|jpc 1 rfl<|jpe (vb (!false))<|jpc 1 rfl<|
  jsg 97 rfl (jfa 3 rfl<|jlo 2 rfl rfl rfl<|jpc 1 rfl<|jsg 100 rfl (jfa 4 rfl<|jlo 2 rfl rfl rfl<|jpc 2 rfl<|jpe (vb (decide (0 < (len x1.2.2.2))))<|jpc 1 rfl<|jpe (vb (!(decide (0 < (len x1.2.2.2)))))<|jpc 1 rfl<|jsg 108 rfl (jfa 4 rfl<|
  jlo 2 rfl rfl rfl<|jfa 0 rfl<|jla 2 2 rfl rfl rfl<|jcl c_ref26_in rfl ⟨ck 1,⟨⟩⟩<|fun r9 _ k=>k<|jpc 1 rfl<|jpe (vb (!r9))<|jv (v := pt b2 3) (fun h=>r_iaddr (k := 5) (sz := 1) h rfl rfl (by kernel_rfl) (by decide) rfl)<|
  jso .s 1 rfl rfl rfl<|joe<|jnn (gv (fun _ k=>k) [0,1,2] ⟨gk 0,gk 1,⟨⟩⟩))<|jpc 6 rfl<|jpe (vb false)<|jv (v := pt b2 3) (fun h=>r_iaddr (k := 5) (sz := 1) h rfl rfl (by kernel_rfl) (by decide) rfl)<|jso .s 1 rfl rfl rfl<|joe<|
  jnn (gv (fun _ k=>k) [0,1,2] ⟨gk 0,gk 1,⟨⟩⟩))<|jpc 4 rfl<|jpe (vb false)<|jpc 1 rfl<|jpe (vb (!false))<|jpc 1 rfl<|jsg 108 rfl (jfa 4 rfl<|jlo 2 rfl rfl rfl<|jfa 0 rfl<|jla 2 2 rfl rfl rfl<|jcl c_ref26_in rfl ⟨ck 1,⟨⟩⟩<|fun r10 _ k=>k<|
  jpc 1 rfl<|jpe (vb (!r10))<|jv (v := pt b2 3) (fun h=>r_iaddr (k := 5) (sz := 1) h rfl rfl (by kernel_rfl) (by decide) rfl)<|jso .s 1 rfl rfl rfl<|joe<|jnn (gv (fun _ k=>k) [0,1,2] ⟨gk 0,gk 1,⟨⟩⟩))<|jpc 6 rfl<|jpe (vb false)<|
  jv (v := pt b2 3) (fun h=>r_iaddr (k := 5) (sz := 1) h rfl rfl (by kernel_rfl) (by decide) rfl)<|jso .s 1 rfl rfl rfl<|joe<|jnn (gv (fun _ k=>k) [0,1,2] ⟨gk 0,gk 1,⟨⟩⟩))<|jpc 9 rfl<|jpe (vb false)<|jpc 7 rfl<|jpe (vb false)<|
  jv (v := pt b2 3) (fun h=>r_iaddr (k := 5) (sz := 1) h rfl rfl (by kernel_rfl) (by decide) rfl)<|jso .s 1 rfl rfl rfl<|joe<|jnn (gv (fun _ k=>k) [0,1,2] ⟨gk 0,gk 1,⟨⟩⟩))<|jpc 13 rfl<|jpe (vb false)<|jpc 10 rfl<|jpe (vb false)<|jpc 7 rfl<|
  jpe (vb false)<|jv (v := pt b2 3) (fun h=>r_iaddr (k := 5) (sz := 1) h rfl rfl (by kernel_rfl) (by decide) rfl)<|jso .s 1 rfl rfl rfl<|joe<|jnn (gv (fun _ k=>k) [0,1,2] ⟨gk 0,gk 1,⟨⟩⟩))<|fun s9 _ k=>k<|
  jjc (fun s10 K=>K [(0, sv p1 y0 c1), (2, pt b1 0), (3, pt b2 0), (4, vi s2.1)] [bx b1 118 [vb false, vb false, vb false, vb false, vb false], bx b2 118 [vb s3, vb s5, vb s8, vb s9, vb s10], []] [Rl e_Commitment p1 c1 y0]) (jrg<|
  jv (v := pt b2 4) (fun h=>r_iaddr (k := 5) (sz := 1) h rfl rfl (by kernel_rfl) (by decide) rfl)<|jlo 1 rfl rfl rfl<|jpc 1 rfl<|jsg 119 rfl (jpc 1 rfl<|jfa 0 rfl<|jla 2 2 rfl rfl rfl<|jcl c_ref26_not rfl ⟨⟩<|fun r11 _ k=>k<|
  jcl c_ref26_find rfl ⟨ck 0,⟨⟩⟩<|fun r12 _ k=>k<|jpc 1 rfl<|jpe (vb (decide (r12 < 0)))<|jv (v := pt b2 4) (fun h=>r_iaddr (k := 5) (sz := 1) h rfl rfl (by kernel_rfl) (by decide) rfl)<|jso .s 1 rfl rfl rfl<|joe<|
  jnn (gv (fun _ k=>k) [0,1,902] ⟨gk 0,⟨⟩⟩))<|jpc 6 rfl<|jpe (vb false)<|jv (v := pt b2 4) (fun h=>r_iaddr (k := 5) (sz := 1) h rfl rfl (by kernel_rfl) (by decide) rfl)<|jso .s 1 rfl rfl rfl<|joe<|jnn (gv (fun _ k=>k) [0,1,902] ⟨gk 0,⟨⟩⟩))<|
  fun s10 _ k=>k<|jbn<|jtn<|jrg<|jpc 3 rfl<|joe<|jln (gv (fun _ k=>k) [0,1] ⟨gk 0,⟨⟩⟩))<|jxe<|jte<|jle<|jbh<|jnn (gv (fun _ k=>k) [0,1] ⟨⟩))<|fun s1 _ k=>k<|jsr<|jla 1 5 rfl rfl rfl<|jso .s 0 rfl rfl rfl<|jot<|jxr<|
  jrg' rfl (lC 0 (.agg #[vb s1.1, vb s1.2.1, vb s1.2.2.1, vb s1.2.2.2.1, vb s1.2.2.2.2]) rfl rfl lN) (fun _ k=>k) [] ⟨⟩

theorem c_ref26_Validate {qd : Prop} {y0 : (List (List T_Commitment))} : Con qd Tryz.prog 53 [.agg #[sv p1 y0 c1]] [] [Rl (eSlice e_Commitment) p1 c1 y0] (m_ref26_Validate y0) fun r K=>K (vi r) [] [] :=
 ent3 Tryz.call53 Tryz.func53 rfl fun X=>jsr<|jbx .s rfl<|fun b1=>jpc 1 rfl<|jot<|jsq<|jsr<|jfa 0 rfl<|jlo 0 rfl rfl rfl<|jpc 2 rfl<|jot<|jif rfl (jsr<|jpc 1 rfl<|jot<|jxr<|jtr<|jr1 rfl rfl (fun _ k=>k) [] ⟨⟩)<|jsk<|jtn<|jsq<|jsr<|jpc 1 rfl<|jot<|jbk<|
  jlp (fun s1 K=>K [(1, pt b1 0), (3, vi s1)] [bx b1 47 [sv p1 y0 c1]] [Rl (eSlice e_Commitment) p1 c1 y0]) (gv (fun _ k=>k) [0] ⟨gk 0,⟨⟩⟩)<|fun s1 _ k=>k<|jsq<|jsr<|jpc 2 rfl<|jot<|jif rfl (jsk<|jtn<|jsq<|jbk<|jsr<|jpc 1 rfl<|jot<|jbk<|
  jlp (fun s2 K=>K [(1, pt b1 0), (3, vi s1), (4, vi s2)] [bx b1 47 [sv p1 y0 c1]] [Rl (eSlice e_Commitment) p1 c1 y0]) (gv (fun _ k=>k) [0] ⟨gk 0,⟨⟩⟩)<|fun s2 _ k=>k<|jsq<|jsr<|jpc 1 rfl<|jfa 0 rfl<|jlo 0 rfl rfl rfl<|jpc 2 rfl<|jot<|
  jif rfl (jsk<|jtn<|jsq<|jbk<|jsr<|jfa 0 rfl<|jlo 0 rfl rfl rfl<|jpc 1 rfl<|jix 0 rfl rfl rfl<|fun x1 b2 o1=>jld false oL (gk 0) rfl<|fun p2 c2=>jcl c_ref26_right rfl ⟨ck 0,⟨⟩⟩<|fun r1 _ k=>k<|jpc 1 rfl<|jbd fun x2 h1=>
  jv (fun h=>r_aidx (l := [r1.1, r1.2.1, r1.2.2.1, r1.2.2.2.1, r1.2.2.2.2]) (vb) h rfl rfl rfl Tryz.underlying118 rfl (by kernel_rfl) h1)<|jpc 1 rfl<|jot<|jif rfl (jsr<|
  jbs .s (e := eInt .i64) 38 [vi 2, vi 3, vi 8, vi 7, vi 10] ([2, 3, 8, 7, 10] : List Int) (rC vI (rC vI (rC vI (rC vI (rC vI rN)))))<|fun p3 c3=>jpc 1 rfl<|jix 0 rfl rfl rfl<|fun x3 b3 o2=>jld false oI (gk 0) rfl<|jpc 1 rfl<|jot<|jxr<|jbr<|
  jtr<|jlr<|jbr<|jbr<|jtr<|jlr<|jbr<|jtr<|jr1 rfl rfl (fun _ k=>k) [] ⟨⟩)<|jsk<|jbn<|jtn<|jrg<|jpc 3 rfl<|joe<|jln (gv (fun _ k=>k) [0] ⟨gk 2,⟨⟩⟩))<|jxe<|jte<|jle<|jbh<|jbn<|jtn<|jrg<|jpc 3 rfl<|joe<|jln (gv (fun _ k=>k) [0] ⟨gk 0,⟨⟩⟩))<|
  jxe<|jte<|jle<|jbh<|jtn<|jsr<|jpc 1 rfl<|jot<|jxr<|jr1 rfl rfl (fun _ k=>k) [] ⟨⟩

theorem c_ref26_grounds {qd : Prop} {y0 : List T_Commitment} {y1 : T_Speech} : Con qd Tryz.prog 90 [sv p1 y0 c1, .agg #[vi y1.1, vi y1.2.1, vi y1.2.2.1, vb y1.2.2.2.1.1, vs y1.2.2.2.1.2, sv p2 y1.2.2.2.2 c2]] [] [Rl e_Commitment p1 c1 y0, Rl e_Literal p2 c2 y1.2.2.2.2] (m_ref26_grounds y0 y1) fun r K=>K (vi r) [] [] :=
 ent3 Tryz.call90 Tryz.func90 rfl fun X=>jsr<|jbx .s rfl<|fun b1=>jpc 1 rfl<|jot<|jsq<|jsr<|jfa 5 rfl<|jlo 0 rfl rfl rfl<|jpc 2 rfl<|jot<|jif rfl (jsr<|jpc 1 rfl<|jot<|jxr<|jtr<|jr1 rfl rfl (fun _ k=>k) [] ⟨⟩)<|jsk<|jtn<|jsq<|jsr<|jfa 5 rfl<|jlo 0 rfl rfl rfl<|jpc 2 rfl<|jot<|
  jif rfl (jsr<|jpc 1 rfl<|jot<|jxr<|jtr<|jr1 rfl rfl (fun _ k=>k) [] ⟨⟩)<|jsk<|jtn<|
  jjo (fun s1 K=>K [(0, sv p1 y0 c1), (3, pt b1 0)] [bx b1 59 [vi y1.1, vi y1.2.1, vi y1.2.2.1, vb y1.2.2.2.1.1, vs y1.2.2.2.1.2, sv p2 y1.2.2.2.2 c2]] [Rl e_Commitment p1 c1 y0, Rl e_Literal p2 c2 y1.2.2.2.2]) (jsr<|jpc 1 rfl<|jot<|jbk<|
  jlp (fun s2 K=>K [(0, sv p1 y0 c1), (3, pt b1 0), (5, vi s2)] [bx b1 59 [vi y1.1, vi y1.2.1, vi y1.2.2.1, vb y1.2.2.2.1.1, vs y1.2.2.2.1.2, sv p2 y1.2.2.2.2 c2]] [Rl e_Commitment p1 c1 y0, Rl e_Literal p2 c2 y1.2.2.2.2]) (gv (fun _ k=>k) [0] ⟨gk 0,gk 1,⟨⟩⟩)<|
  fun s2 _ k=>k<|jsq<|jsr<|jpc 1 rfl<|jfa 5 rfl<|jlo 0 rfl rfl rfl<|jpc 2 rfl<|jot<|jif rfl (jsk<|jtn<|jsq<|jbk<|jsr<|jfa 5 rfl<|jlo 0 rfl rfl rfl<|jpc 1 rfl<|jix 1 rfl rfl rfl<|fun x1 b2 o1=>jld true o_Literal (gk 0) rfl<|
  jcl c_ref01_Valid rfl ⟨⟩<|fun r1 _ k=>k<|jpc 1 rfl<|jot<|jif rfl (jsr<|jpc 1 rfl<|jot<|jxr<|jbr<|jtr<|jlr<|jbr<|jlr<|jr1 rfl rfl (fun _ k=>k) [] ⟨⟩)<|jsk<|jbn<|jtn<|jrg<|jpc 3 rfl<|joe<|jln (gv (fun _ k=>k) [0] ⟨gk 1,gk 2,⟨⟩⟩))<|jxe<|jte<|
  jle<|jbh<|jln (gv (fun _ k=>k) [0] ⟨gk 0,gk 1,⟨⟩⟩))<|fun s1 _ k=>k<|jsq<|jsr<|jfa 5 rfl<|jlo 0 rfl rfl rfl<|jcl c_ref26_ascending rfl ⟨ck 1,⟨⟩⟩<|fun r2 _ k=>k<|jpc 1 rfl<|jot<|jif rfl (jsr<|jpc 1 rfl<|jot<|jxr<|jtr<|
  jr1 rfl rfl (fun _ k=>k) [] ⟨⟩)<|jsk<|jtn<|jsq<|jsr<|jfa 5 rfl<|jlo 0 rfl rfl rfl<|jfa 3 rfl<|jla 0 2 rfl rfl rfl<|jcl c_ref26_in rfl ⟨ck 1,⟨⟩⟩<|fun r3 _ k=>k<|jot<|jif rfl (jsr<|jpc 1 rfl<|jot<|jxr<|jtr<|jr1 rfl rfl (fun _ k=>k) [] ⟨⟩)<|
  jsk<|jtn<|jsr<|jpc 1 rfl<|jot<|jjo (fun s3 K=>K [(0, sv p1 y0 c1), (6, vi s3)] [[]] [Rl e_Commitment p1 c1 y0]) (jsr<|jpc 1 rfl<|jot<|jbk<|
  jlp (fun s4 K=>K [(0, sv p1 y0 c1), (3, pt b1 0), (6, vi s4.1), (7, vi s4.2)] [bx b1 59 [vi y1.1, vi y1.2.1, vi y1.2.2.1, vb y1.2.2.2.1.1, vs y1.2.2.2.1.2, sv p2 y1.2.2.2.2 c2]] [Rl e_Commitment p1 c1 y0, Rl e_Literal p2 c2 y1.2.2.2.2]) (gv (fun _ k=>k) [0] ⟨gk 0,gk 1,⟨⟩⟩)<|
  fun s4 _ k=>k<|jsq<|jsr<|jpc 1 rfl<|jfa 5 rfl<|jlo 0 rfl rfl rfl<|jpc 2 rfl<|jot<|jif rfl (jsk<|jtn<|jsq<|jbk<|jsq<|
  jjn (fun s5 K=>K [(0, sv p1 y0 c1), (3, pt b1 0), (6, vi s4.1), (7, vi s4.2), (65, vb s5)] [bx b1 59 [vi y1.1, vi y1.2.1, vi y1.2.2.1, vb y1.2.2.2.1.1, vs y1.2.2.2.1.2, sv p2 y1.2.2.2.2 c2]] [Rl e_Commitment p1 c1 y0, Rl e_Literal p2 c2 y1.2.2.2.2]) (
  jdS [] [0] 20<|jdc 19 [0] rfl<|jdf 1 5 rfl rfl<|jdo 2 0 rfl rfl rfl rfl<|jdc 16 [3] rfl<|jdi 4 1 rfl rfl rfl rfl<|fun x2 b3 o2=>jdl 5 true o_Literal rfl (gk 0) rfl<|jd1 6<|jca (.f rfl) [] [] c_ref26_not rfl rfl rfl ⟨⟩<|fun r4 _ k=>k<|jdn<|
  jd1 7<|jca (.f rfl) [] [] c_ref26_find rfl rfl rfl ⟨ck 1,⟨⟩⟩<|fun r5 _ k=>k<|jdn<|jdc 10 [8,9] rfl<|jsg 55 rfl (jdc 1 [10,11,12,13,14,15,16,17,18] rfl<|jdp 19 (vb true) rfl<|jde<|jnn (gv (fun _ k=>k) [0] ⟨gk 1,gk 2,⟨⟩⟩))<|jdf 10 5 rfl rfl<|
  jdo 11 0 rfl rfl rfl rfl<|jdf 12 5 rfl rfl<|jdo 13 0 rfl rfl rfl rfl<|jdc 5 [14] rfl<|jdi 15 2 rfl rfl rfl rfl<|fun x3 b4 o3=>jdl 16 true o_Literal rfl (gk 0) rfl<|jd1 17<|jca (.f rfl) [] [] c_ref26_not rfl rfl rfl ⟨⟩<|fun r6 _ k=>k<|jdn<|
  jd1 18<|jca (.f rfl) [] [] c_ref26_in rfl rfl rfl ⟨ck 3,⟨⟩⟩<|fun r7 _ k=>k<|jdn<|jdp 19 (vb r7) rfl<|jde<|jnn (gv (fun _ k=>k) [0] ⟨gk 2,gk 3,⟨⟩⟩))<|fun s5 _ k=>k<|jif rfl (jsr<|jpc 1 rfl<|jot<|jxr<|jtr<|jbr<|jtr<|jlr<|jbr<|jlr<|
  jr1 rfl rfl (fun _ k=>k) [] ⟨⟩)<|jsk<|jtn<|jsr<|jpc 1 rfl<|jfa 5 rfl<|jlo 0 rfl rfl rfl<|jpc 1 rfl<|jix 1 rfl rfl rfl<|fun x4 b5 o4=>jld true o_Literal (gk 0) rfl<|jcl c_ref26_find rfl ⟨ck 1,⟨⟩⟩<|fun r8 _ k=>k<|jpc 1 rfl<|jot<|jif rfl (
  jrg<|jpc 3 rfl<|joe<|jbn<|jtn<|jrg<|jpc 3 rfl<|joe<|jln (gv (fun _ k=>k) [0] ⟨gk 1,gk 2,⟨⟩⟩))<|jsk<|jbn<|jtn<|jrg<|jpc 3 rfl<|joe<|jln (gv (fun _ k=>k) [0] ⟨gk 1,gk 2,⟨⟩⟩))<|jxe<|jte<|jle<|jbh<|jln (gv (fun _ k=>k) [900] ⟨gk 0,⟨⟩⟩))<|
  fun s3 _ k=>k<|jsq<|jsr<|jpc 5 rfl<|jot<|jif rfl (jsr<|jpc 1 rfl<|jot<|jxr<|jtr<|jr1 rfl rfl (fun _ k=>k) [] ⟨⟩)<|jsk<|jtn<|jsr<|jpc 1 rfl<|jot<|jxr<|jr1 rfl rfl (fun _ k=>k) [] ⟨⟩

theorem c_ref26_set {qd : Prop} {y0 : (List (List T_Commitment))} {y1 : Int} {y2 : List T_Commitment} : Con qd Tryz.prog 88 [.agg #[sv p1 y0 c1], vi y1, sv p2 y2 c2] [] [Rl (eSlice e_Commitment) p1 c1 y0, Rl e_Commitment p2 c2 y2] (m_ref26_set y0 y1 y2) fun r K=>∀ p3 c3,K (.agg #[sv p3 r c3]) [] [Rl (eSlice e_Commitment) p3 c3 r] :=
 ent3 Tryz.call88 Tryz.func88 rfl fun X=>jsr<|jbx .s rfl<|fun b1=>jal .s (.agg #[.slice none 0 0])<|fun b2=>jot<|jsr<|jbo .s (e := eSlice e_Commitment) 48 [] ([] : List (List T_Commitment)) rN<|fun r_1 p3 c3=>jfa 0 rfl<|jlo 0 rfl rfl rfl<|jar .s 2 0 rfl (gk 1) rfl rfl<|
  fun x1 r_2 p4 c4=>jpc 1 rfl<|jot<|jsr<|jpc 3 rfl<|jia 0 rfl rfl rfl<|fun x2 h2 b3 hp1=>jsA .s 2 0 sI y2 false rfl hp1 h2 rfl rfl (vL (gk 3))<|fun r_3=>jot<|jsr<|jpc 1 rfl<|jpe (.agg #[.slice p4 (List.length x1) c4])<|jso .s 1 rfl rfl rfl<|
  jot<|jxr<|jsh 2 0 rfl rfl<|jrg' rfl (lC 1 (.agg #[.slice p4 (List.length x1) c4]) rfl rfl lN) (fun _ k=>k p4 c4) [] ⟨gl (gk 0),⟨⟩⟩

theorem c_ref26_with {qd : Prop} {y0 : List T_Commitment} {y1 : T_Commitment} : Con qd Tryz.prog 89 [sv p1 y0 c1, .agg #[vb y1.1.1, vs y1.1.2, vb y1.2.1, vb y1.2.2.1, sv p2 y1.2.2.2 c2]] [] [Rl e_Commitment p1 c1 y0, Rl e_Literal p2 c2 y1.2.2.2] (m_ref26_with y0 y1) fun r K=>∀ p3 c3,K (sv p3 r c3) [] [Rl e_Commitment p3 c3 r] :=
 ent3 Tryz.call89 Tryz.func89 rfl fun X=>jsr<|jbx .s rfl<|fun b1=>jpc 1 rfl<|jot<|jsr<|jpc 1 rfl<|jro e_Commitment 53<|jot<|jsr<|jpc 1 rfl<|jot<|
  jjn (fun s1 K=>∀ p3 c3 r_1,K [(0, sv p1 y0 c1), (3, pt b1 0), (5, sv p3 s1.1 c3), (6, vi s1.2)] [bx b1 53 [vb y1.1.1, vs y1.1.2, vb y1.2.1, vb y1.2.2.1, sv p2 y1.2.2.2 c2], r_1] [Al e_Commitment 53 r_1 p3 c3 s1.1, Rl e_Commitment p1 c1 y0, Rl e_Literal p2 c2 y1.2.2.2]) (
  jbk<|
  jlp (fun s2 K=>∀ p4 c4 r_2,K [(0, sv p1 y0 c1), (3, pt b1 0), (5, sv p4 s2.1 c4), (6, vi s2.2)] [bx b1 53 [vb y1.1.1, vs y1.1.2, vb y1.2.1, vb y1.2.2.1, sv p2 y1.2.2.2 c2], r_2] [Al e_Commitment 53 r_2 p4 c4 s2.1, Rl e_Commitment p1 c1 y0, Rl e_Literal p2 c2 y1.2.2.2]) (gv (fun _ k=>k none 0 []) [0,1] ⟨gk 0,gk 1,gk 2,⟨⟩⟩)<|
  fun s2 _ k p4 c4 r_2=>k<|jsq<|
  jjn (fun s3 K=>K [(0, sv p1 y0 c1), (3, pt b1 0), (5, sv p4 s2.1 c4), (6, vi s2.2), (21, vb s3)] [bx b1 53 [vb y1.1.1, vs y1.1.2, vb y1.2.1, vb y1.2.2.1, sv p2 y1.2.2.2 c2], r_2] [Rl e_Commitment p1 c1 y0, Al e_Commitment 53 r_2 p4 c4 s2.1, Rl e_Literal p2 c2 y1.2.2.2]) (
  jdS [] [0] 15<|jdc 10 [0,1,2,3,4] rfl<|jsg 11 rfl (jdc 8 [5,6] rfl<|jdi 7 1 rfl rfl rfl rfl<|fun x1 b2 o1=>jdf 8 0 rfl rfl<|jdl 9 true o_Literal rfl (gf (gk 0)) rfl<|jdf 10 0 rfl rfl<|jda 11 0 2 rfl rfl rfl rfl<|jd1 12<|
  jca (.f rfl) [] [] c_ref01_Compare rfl rfl rfl ⟨⟩<|fun r1 _ k=>k<|jdn<|jdc 1 [13] rfl<|jdp 14 (vb (decide (r1 < 0))) rfl<|jde<|jnn (gv (fun _ k=>k) [0,1] ⟨gk 2,gk 1,gk 3,⟨⟩⟩))<|jdc 1 [5,6,7,8,9,10,11,12,13] rfl<|jdp 14 (vb false) rfl<|jde<|
  jnn (gv (fun _ k=>k) [0,1] ⟨gk 1,gk 0,gk 2,⟨⟩⟩))<|fun s3 _ k=>k<|jif rfl (jsk<|jtn<|jbk<|jsr<|jpc 3 rfl<|jix 0 rfl rfl rfl<|fun x2 b3 o2=>jld true o_Commitment (gk 0) rfl<|fun p5 c5=>
  jbs .s (e := e_Commitment) 53 [vb x2.1.1, vs x2.1.2, vb x2.2.1, vb x2.2.2.1, sv p5 x2.2.2.2 c5] ([x2] : List T_Commitment) (rC (vP (vP vB vS) (vP vB (vP vB (vL (gk 0))))) rN)<|fun p6 c6=>jar .s 1 4 rfl (gk 0) rfl rfl<|fun x3 r_3 p7 c7=>
  jpc 1 rfl<|jot<|jrg<|jpc 3 rfl<|joe<|jbn<|jln (gv (fun _ k=>k p7 c7 r_3) [0,1] ⟨gk 0,gk 4,gk 6,⟨⟩⟩))<|jxe<|jte<|jle<|jbh<|jnn (gv (fun _ k=>k p4 c4 r_2) [0,1] ⟨gk 1,gk 0,gk 2,⟨⟩⟩))<|fun s1 _ k p3 c3 r_1=>k<|jsr<|jpc 1 rfl<|
  jla 0 5 rfl rfl rfl<|jbs .s (e := e_Commitment) 53 [vb y1.1.1, vs y1.1.2, vb y1.2.1, vb y1.2.2.1, sv p2 y1.2.2.2 c2] ([y1] : List T_Commitment) (rC (vP (vP vB vS) (vP vB (vP vB (vL (gk 2))))) rN)<|fun p8 c8=>jar .s 1 1 rfl (gk 0) rfl rfl<|
  fun x4 r_4 p9 c9=>jpc 1 rfl<|jot<|jjn (fun s4 K=>K [(0, sv p1 y0 c1), (5, sv p9 x4 c9), (6, vi s4)] [[], r_4] [Rl e_Commitment p1 c1 y0, Al e_Commitment 53 r_4 p9 c9 x4]) (
  jjn (fun s5 K=>K [(0, sv p1 y0 c1), (5, sv p9 x4 c9), (6, vi s1.2), (48, vb s5)] [[], r_4] [Rl e_Commitment p1 c1 y0, Al e_Commitment 53 r_4 p9 c9 x4]) (jdS [] [0] 14<|jdc 9 [0,1,2,3,4] rfl<|jsg 39 rfl (jdc 7 [5,6] rfl<|
  jdi 7 3 rfl rfl rfl rfl<|fun x5 b4 o3=>jdf 8 0 rfl rfl<|jdl 9 true o_Literal rfl (gf (gk 0)) rfl<|jdf 10 0 rfl rfl<|jda 11 0 2 rfl rfl rfl rfl<|jdp 12 (vb (x5.1 == y1.1)) rfl<|jdp 13 (vb (x5.1 == y1.1)) rfl<|jde<|
  jnn (gv (fun _ k=>k) [900,1] ⟨gk 4,gk 1,⟨⟩⟩))<|jdc 1 [5,6,7,8,9,10,11,12] rfl<|jdp 13 (vb false) rfl<|jde<|jnn (gv (fun _ k=>k) [900,1] ⟨gk 3,gk 0,⟨⟩⟩))<|fun s5 _ k=>k<|jif rfl (jrg<|jpc 3 rfl<|joe<|
  jnn (gv (fun _ k=>k) [900,1] ⟨gk 0,gk 1,⟨⟩⟩))<|jsk<|jnn (gv (fun _ k=>k) [900,1] ⟨gk 0,gk 1,⟨⟩⟩))<|fun s4 _ k=>k<|jsr<|jpc 3 rfl<|jsl (gk 0) rfl rfl rfl (.inr ⟨_, rfl⟩) (.inl ⟨rfl, rfl⟩)<|fun x6 p10 c10=>jar .s 1 2 rfl (gk 0) rfl rfl<|
  fun x7 r_5 p11 c11=>jpc 1 rfl<|jot<|jxr<|jsh 1 0 rfl rfl<|jr1 rfl rfl (fun _ k=>k p11 c11) [] ⟨gk 0,⟨⟩⟩

end Go.Proofs.YteleongkifgjhaaGreatDoor
