/- The Go functions compute their models: printed by program (gd3). Conditions: none. -/
import Derived.Test.YteleongkifgjhaaDoorProg
import Derived.Test.YteleongkifgjhaaDoorSb3
import Derived.Test.YteleongkifgjhaaDoorFrmJ
import Derived.Test.YteleongkifgjhaaDoorModels
import Derived.Test.YteleongkifgjhaaDoorShelfP
namespace Go.Proofs.YteleongkifgjhaaDoor
open Go Go.GD
set_option autoImplicit false
set_option maxRecDepth 100000
variable {p1 p2 p3 p4 p5 p6 : Option Addr} {c1 c2 c3 c4 c5 c6 : Nat} {b1 : Nat} {r_1 r_2 : Res}

abbrev e_keep_Src : E T_keep_Src := eProd (eSlice (eInt .i64)) (eInt .i64)
abbrev o_keep_Src : Opn e_keep_Src := (oP oL oI)
abbrev e_Pair : E T_Pair := eProd (eInt .i64) (eInt .i64)
abbrev o_Pair : Opn e_Pair := (oP oI oI)
abbrev e_Graph : E T_Graph := eProd (eInt .i64) (eSlice e_Pair)
abbrev o_Graph : Opn e_Graph := (oP oI oL)
abbrev e_Move : E T_Move := eProd (eInt .i64) (eProd (eInt .i64) (eProd (eInt .i64) (eInt .i64)))
abbrev o_Move : Opn e_Move := (oP oI (oP oI (oP oI oI)))
abbrev e_Dialogue : E T_Dialogue := eProd e_Graph (eProd (eInt .i64) (eProd (eProd (eInt .i64) (eInt .i64)) (eSlice e_Move)))
abbrev o_Dialogue : Opn e_Dialogue := (oP o_Graph (oP oI (oP (oP oI oI) oL)))
abbrev e_Outcome : E T_Outcome := eProd (eInt .i64) (eInt .i64)
abbrev o_Outcome : Opn e_Outcome := (oP oI oI)
abbrev e_protocol_table : E T_protocol_table := eProd e_Dialogue (eProd (eSlice (eInt .i64)) (eProd (eInt .i64) (eSlice eBool)))
abbrev o_protocol_table : Opn e_protocol_table := (oP o_Dialogue (oP oL (oP oI oL)))
abbrev e_Order : E T_Order := eProd (eSlice eStr) (eSlice (eInt .i64))
abbrev o_Order : Opn e_Order := (oP oL oL)

theorem c_keep_New {qd : Prop} {y0 : List Int} : Con qd Tryd.prog 4 [sv p1 y0 c1] [] [Rl (eInt .i64) p1 c1 y0] (m_keep_New y0) fun r K=>∀ b1 p2 c2,K (pt b1 0) [bx b1 52 [sv p2 r.1 c2, vi r.2]] [Rl (eInt .i64) p2 c2 r.1] :=
 ent3 Tryd.call4 Tryd.func4 rfl fun X=>jsr<|jpc 1 rfl<|jot<|jsr<|jpc 4 rfl<|jsl (gk 0) rfl rfl rfl (.inl ⟨rfl, rfl⟩) (.inr ⟨_, rfl⟩)<|fun x1 p2 c2=>jpe (.agg #[sv p2 x1 c2, vi 0])<|jbx .s rfl<|fun b1=>jpc 1 rfl<|jot<|jxr<|jr1 rfl rfl (fun _ k=>k b1 p2 c2) [0] ⟨gk 0,⟨⟩⟩

theorem c_keep_Mod {qd : Prop} {y0 : Int} {y1 : Int} : Con qd Tryd.prog 18 [vi y0, vi y1] [] [] (m_keep_Mod y0 y1) fun r K=>K (vi r) [] [] :=
 ent3 Tryd.call18 Tryd.func18 rfl fun X=>jsr<|jpc 1 rfl<|jot<|jsq<|jsr<|jpc 2 rfl<|jot<|jif rfl (jsr<|jpc 1 rfl<|jot<|jxr<|jtr<|jr1 rfl rfl (fun _ k=>k) [] ⟨⟩)<|jsk<|jtn<|jsr<|jpc 2 rfl<|jbd fun x1 h1=>jv (fun h=>r_remK h rfl rfl h1)<|jpc 1 rfl<|jot<|jsq<|jsr<|jpc 2 rfl<|jot<|
  jif rfl (jrg<|jpc 4 rfl<|joe<|jtn<|jsr<|jpc 2 rfl<|jot<|jxr<|jr1 rfl rfl (fun _ k=>k) [] ⟨⟩)<|jsk<|jtn<|jsr<|jpc 2 rfl<|jot<|jxr<|jr1 rfl rfl (fun _ k=>k) [] ⟨⟩

theorem c_keep_Src_Raw {qd : Prop} {y0 : T_keep_Src} : Con qd Tryd.prog 19 [pt b1 0] [bx b1 52 [sv p1 y0.1 c1, vi y0.2]] [Rl (eInt .i64) p1 c1 y0.1] (m_keep_Src_Raw y0) fun r K=>K (vi r.1) [bx b1 52 [sv p1 y0.1 c1, vi r.2]] [] :=
 ent3 Tryd.call19 Tryd.func19 rfl fun X=>jsr<|jpc 1 rfl<|jot<|jsq<|jds [] [0] 10<|jdc 8 [0,1] rfl<|jdf 2 1 rfl rfl<|jdo 3 0 rfl rfl rfl rfl<|jdc 4 [4,5] rfl<|jdf 6 0 rfl rfl<|jdo 7 0 rfl rfl rfl rfl<|jdc 0 [8,9] rfl<|jde<|jtn<|jif rfl (jsr<|jpc 1 rfl<|jot<|jxr<|jtr<|
  jr1 rfl rfl (fun _ k=>k) [0] ⟨⟩)<|jsk<|jtn<|jsr<|jpc 2 rfl<|jfa 1 rfl<|jlo 0 rfl rfl rfl<|jpc 2 rfl<|jfa 1 rfl<|jso .s 0 rfl rfl rfl<|jot<|jds [] [0] 12<|jdc 10 [0,1] rfl<|jdf 2 0 rfl rfl<|jdo 3 0 rfl rfl rfl rfl<|jdc 6 [4,5] rfl<|
  jdf 6 1 rfl rfl<|jdo 7 0 rfl rfl rfl rfl<|jdc 3 [8] rfl<|jdi 9 0 rfl rfl rfl rfl<|fun x1 b2 o1=>jdl 10 false oI rfl (gk 0) rfl<|jdc 0 [11] rfl<|jde<|jtn<|jxr<|jr1 rfl rfl (fun _ k=>k) [0] ⟨⟩

theorem c_keep_Src_N {qd : Prop} {y0 : T_keep_Src} {y1 : Int} : Con qd Tryd.prog 7 [pt b1 0, vi y1] [bx b1 52 [sv p1 y0.1 c1, vi y0.2]] [Rl (eInt .i64) p1 c1 y0.1] (m_keep_Src_N y0 y1) fun r K=>K (vi r.1) [bx b1 52 [sv p1 y0.1 c1, vi r.2]] [] :=
 ent3 Tryd.call7 Tryd.func7 rfl fun X=>jsr<|jpc 1 rfl<|jot<|jsr<|jpc 1 rfl<|jca .s [0] [] c_keep_Src_Raw rfl rfl rfl ⟨ck 0,⟨⟩⟩<|fun r1 _ k=>k<|jpc 1 rfl<|jcl c_keep_Mod rfl ⟨⟩<|fun r2 _ k=>k<|jpc 1 rfl<|jot<|jxr<|jr1 rfl rfl (fun _ k=>k) [0] ⟨⟩

theorem c_keep_Src_Range {qd : Prop} {y0 : T_keep_Src} {y1 : Int} {y2 : Int} : Con qd Tryd.prog 8 [pt b1 0, vi y1, vi y2] [bx b1 52 [sv p1 y0.1 c1, vi y0.2]] [Rl (eInt .i64) p1 c1 y0.1] (m_keep_Src_Range y0 y1 y2) fun r K=>K (vi r.1) [bx b1 52 [sv p1 y0.1 c1, vi r.2]] [] :=
 ent3 Tryd.call8 Tryd.func8 rfl fun X=>jsr<|jpc 1 rfl<|jot<|jsr<|jpc 6 rfl<|jca .s [0] [] c_keep_Src_N rfl rfl rfl ⟨ck 0,⟨⟩⟩<|fun r1 _ k=>k<|jpc 2 rfl<|jot<|jxr<|jr1 rfl rfl (fun _ k=>k) [0] ⟨⟩

theorem c_keep_Voc {qd : Prop} {y0 : Int} : Con qd Tryd.prog 32 [vi y0] [] [] (m_keep_Voc y0) fun r K=>∀ p1 c1,K (sv p1 r c1) [] [Rl eStr p1 c1 r] :=
 ent3 Tryd.call32 Tryd.func32 rfl fun X=>jsr<|jpc 1 rfl<|jot<|jsr<|jpc 1 rfl<|jro eStr 9<|jot<|jsq<|jsr<|jpc 1 rfl<|jot<|jbk<|jlp (fun s1 K=>∀ p1 c1 r_1,K [(0, vi y0), (3, sv p1 s1.1 c1), (4, vi s1.2)] [r_1] [Al eStr 9 r_1 p1 c1 s1.1]) (gv (fun _ k=>k none 0 []) [0] ⟨gk 0,⟨⟩⟩)<|
  fun s1 _ k p1 c1 r_1=>k<|jsq<|jsr<|jpc 3 rfl<|jot<|jif rfl (jsk<|jtn<|jsq<|jbk<|jrg<|jpc 3 rfl<|jpe (.int .u8 (IntKind.u8.wrap (w64 ((97 : Int) + s1.2))))<|
  jbs .s (e := eInt .u8) 5 [.int .u8 (IntKind.u8.wrap (w64 ((97 : Int) + s1.2)))] ([IntKind.u8.wrap (w64 ((97 : Int) + s1.2))] : List Int) (rC vI rN)<|fun p2 c2=>jsb .s (gk 0) rfl Tryd.underlying74 Tryd.underlying5 Tryd.underlying9<|
  jbs .s (e := eStr) 9 [vs (strOf ([IntKind.u8.wrap (w64 ((97 : Int) + s1.2))] : List Int))] ([strOf ([IntKind.u8.wrap (w64 ((97 : Int) + s1.2))] : List Int)] : List Str) (rC vS rN)<|fun p3 c3=>jar .s 0 2 rfl (gk 0) rfl rfl<|fun x1 r_2 p4 c4=>jpc 1 rfl<|
  joe<|jbn<|jtn<|jrg<|jpc 3 rfl<|joe<|jln (gv (fun _ k=>k p4 c4 r_2) [0] ⟨gk 0,⟨⟩⟩))<|jxe<|jte<|jle<|jbh<|jtn<|jsr<|jpc 2 rfl<|jot<|jxr<|jsh 0 0 rfl rfl<|jr1 rfl rfl (fun _ k=>k p1 c1) [] ⟨gk 0,⟨⟩⟩

theorem c_ref42_Same {qd : Prop} {y0 : List Str} {y1 : List Str} : Con qd Tryd.prog 10 [sv p1 y0 c1, sv p2 y1 c2] [] [Rl eStr p1 c1 y0, Rl eStr p2 c2 y1] (m_ref42_Same y0 y1) fun r K=>K (vb r) [] [] :=
 ent3 Tryd.call10 Tryd.func10 rfl fun X=>jsr<|jpc 1 rfl<|jot<|jsq<|jsr<|jpc 5 rfl<|jot<|jif rfl (jsr<|jpc 1 rfl<|jot<|jxr<|jtr<|jr1 rfl rfl (fun _ k=>k) [] ⟨⟩)<|jsk<|jtn<|jsq<|jsr<|jpc 1 rfl<|jot<|jbk<|
  jlp (fun s1 K=>K [(0, sv p1 y0 c1), (1, sv p2 y1 c2), (5, vi s1)] [] [Rl eStr p1 c1 y0, Rl eStr p2 c2 y1]) (gv (fun _ k=>k) [] ⟨gk 0,gk 1,⟨⟩⟩)<|fun s1 _ k=>k<|jsq<|jsr<|jpc 4 rfl<|jot<|jif rfl (jsk<|jtn<|jsq<|jbk<|jds [] [] 9<|
  jdc 7 [0,1] rfl<|jdi 2 0 rfl rfl rfl rfl<|fun x1 b1 o1=>jdl 3 false oS rfl (gk 0) rfl<|jdc 3 [4,5] rfl<|jdi 6 2 rfl rfl rfl rfl<|fun x2 b2 o2=>jdl 7 false oS rfl (gk 0) rfl<|jdc 0 [8] rfl<|jde<|jtn<|jif rfl (jsr<|jpc 1 rfl<|jot<|jxr<|jbr<|
  jtr<|jlr<|jbr<|jtr<|jr1 rfl rfl (fun _ k=>k) [] ⟨⟩)<|jsk<|jbn<|jtn<|jrg<|jpc 3 rfl<|joe<|jln (gv (fun _ k=>k) [] ⟨gk 2,gk 3,⟨⟩⟩))<|jxe<|jte<|jle<|jbh<|jtn<|jsr<|jpc 1 rfl<|jot<|jxr<|jr1 rfl rfl (fun _ k=>k) [] ⟨⟩

theorem k_formula_Depth_all {qd : Prop} (k : Nat) :
    (∀ {y0 : T_Formula} {p1 : Option Addr} {c1 : Nat}, Con qd Tryd.prog 66 [.agg #[vi ((fv y0).1), vs ((fv y0).2.1), sv p1 ((fv y0).2.2) c1]] [] [Rl e_Formula p1 c1 ((fv y0).2.2)] (k_formula_Depth k y0) fun r K=>K (vi r) [] []) := by
  induction k with
  | zero => exact con0 Tryd.call66
  | succ k ih =>
    have ih_formula_Depth := @ih
    exact @fun y0 p1 c1=>ent3 (m1 := F_formula_Depth (k_formula_Depth k) y0) Tryd.call66 Tryd.func66 rfl fun X=>jsr<|jbx .s rfl<|fun b1=>jpc 1 rfl<|jot<|jsr<|jpc 1 rfl<|jot<|jsq<|jsr<|jfa 2 rfl<|jlo 0 rfl rfl rfl<|jpc 2 rfl<|jot<|jbk<|
  jlp (fun s1 K=>K [(3, vi s1.1), (7, sv p1 ((fv y0).2.2) c1), (8, vi (len ((fv y0).2.2))), (9, vi s1.2)] [[]] [Rl e_Formula p1 c1 ((fv y0).2.2)]) (gv (fun _ k=>k) [900] ⟨gk 0,⟨⟩⟩)<|fun s1 _ k=>k<|jsr<|jpc 1 rfl<|jot<|jsq<|jif rfl (jsk<|jtn<|
  jsq<|jbk<|jsr<|jix 0 rfl rfl rfl<|fun x1 b2 o1=>jld true o_Formula (gk 0) rfl<|fun p2 c2=>jal .s (.agg #[vi 0, vs [], .slice none 0 0])<|fun b3=>jso .s 1 rfl rfl rfl<|jot<|jrg<|jpc 1 rfl<|jla 1 3 rfl rfl rfl<|
  jcl ih_formula_Depth rfl ⟨ck 0,⟨⟩⟩<|fun r1 _ k=>k<|jpc 3 rfl<|joe<|jbn<|jtn<|jrg<|jpc 2 rfl<|joe<|jln (gv (fun _ k=>k) [900] ⟨gk 2,⟨⟩⟩))<|jxe<|jte<|jle<|jbh<|jtn<|jsr<|jpc 2 rfl<|jot<|jxr<|jr1 rfl rfl (fun _ k=>k) [] ⟨⟩

theorem c_formula_Depth {qd : Prop} {y0 : T_Formula} : Con qd Tryd.prog 66 [.agg #[vi ((fv y0).1), vs ((fv y0).2.1), sv p1 ((fv y0).2.2) c1]] [] [Rl e_Formula p1 c1 ((fv y0).2.2)] (m_formula_Depth y0) fun r K=>K (vi r) [] [] := conLim fun k => (k_formula_Depth_all k)

theorem k_formula_Size_all {qd : Prop} (k : Nat) :
    (∀ {y0 : T_Formula} {p1 : Option Addr} {c1 : Nat}, Con qd Tryd.prog 65 [.agg #[vi ((fv y0).1), vs ((fv y0).2.1), sv p1 ((fv y0).2.2) c1]] [] [Rl e_Formula p1 c1 ((fv y0).2.2)] (k_formula_Size k y0) fun r K=>K (vi r) [] []) := by
  induction k with
  | zero => exact con0 Tryd.call65
  | succ k ih =>
    have ih_formula_Size := @ih
    exact @fun y0 p1 c1=>ent3 (m1 := F_formula_Size (k_formula_Size k) y0) Tryd.call65 Tryd.func65 rfl fun X=>jsr<|jbx .s rfl<|fun b1=>jpc 1 rfl<|jot<|jsr<|jpc 1 rfl<|jot<|jsq<|jsr<|jfa 2 rfl<|jlo 0 rfl rfl rfl<|jpc 2 rfl<|jot<|jbk<|
  jlp (fun s1 K=>K [(3, vi s1.1), (7, sv p1 ((fv y0).2.2) c1), (8, vi (len ((fv y0).2.2))), (9, vi s1.2)] [[]] [Rl e_Formula p1 c1 ((fv y0).2.2)]) (gv (fun _ k=>k) [900] ⟨gk 0,⟨⟩⟩)<|fun s1 _ k=>k<|jsr<|jpc 1 rfl<|jot<|jsq<|jif rfl (jsk<|jtn<|
  jsq<|jbk<|jsr<|jix 0 rfl rfl rfl<|fun x1 b2 o1=>jld true o_Formula (gk 0) rfl<|fun p2 c2=>jal .s (.agg #[vi 0, vs [], .slice none 0 0])<|fun b3=>jso .s 1 rfl rfl rfl<|jot<|jrg<|jpc 1 rfl<|jla 1 3 rfl rfl rfl<|
  jcl ih_formula_Size rfl ⟨ck 0,⟨⟩⟩<|fun r1 _ k=>k<|jpc 2 rfl<|joe<|jbn<|jtn<|jrg<|jpc 2 rfl<|joe<|jln (gv (fun _ k=>k) [900] ⟨gk 2,⟨⟩⟩))<|jxe<|jte<|jle<|jbh<|jtn<|jsr<|jpc 2 rfl<|jot<|jxr<|jr1 rfl rfl (fun _ k=>k) [] ⟨⟩

theorem c_formula_Size {qd : Prop} {y0 : T_Formula} : Con qd Tryd.prog 65 [.agg #[vi ((fv y0).1), vs ((fv y0).2.1), sv p1 ((fv y0).2.2) c1]] [] [Rl e_Formula p1 c1 ((fv y0).2.2)] (m_formula_Size y0) fun r K=>K (vi r) [] [] := conLim fun k => (k_formula_Size_all k)

theorem c_formula_counted {qd : Prop} {y0 : T_Formula} : Con qd Tryd.prog 68 [.agg #[vi ((fv y0).1), vs ((fv y0).2.1), sv p1 ((fv y0).2.2) c1]] [] [Rl e_Formula p1 c1 ((fv y0).2.2)] (m_formula_counted y0) fun r K=>K (vb r) [] [] :=
 ent3 Tryd.call68 Tryd.func68 rfl fun X=>jsr<|jbx .s rfl<|fun b1=>jpc 1 rfl<|jot<|jsr<|jfa 2 rfl<|jlo 0 rfl rfl rfl<|jpc 2 rfl<|jot<|jsq<|jsr<|jfa 0 rfl<|jlo 0 rfl rfl rfl<|jot<|jbk<|jjn (fun s1 K=>K [(3, vi (len ((fv y0).2.2))), (8, vi ((fv y0).1)), (9, vb s1)] [[]] []) (jsr<|
  jpc 2 rfl<|jot<|jif rfl (jsk<|jnn (gv (fun _ k=>k) [900] ⟨⟩))<|jsr<|jpc 2 rfl<|jot<|jif rfl (jsk<|jnn (gv (fun _ k=>k) [900] ⟨⟩))<|jrg<|jpc 2 rfl<|joe<|jnn (gv (fun _ k=>k) [900] ⟨⟩))<|fun s1 _ k=>k<|jif rfl (jsr<|jpc 3 rfl<|jot<|jxr<|jbr<|
  jtr<|jr1 rfl rfl (fun _ k=>k) [] ⟨⟩)<|jsr<|jpc 2 rfl<|jot<|jif rfl (jsr<|jpc 3 rfl<|jot<|jxr<|jbr<|jtr<|jr1 rfl rfl (fun _ k=>k) [] ⟨⟩)<|jjn (fun s2 K=>K [(3, vi (len ((fv y0).2.2))), (8, vi ((fv y0).1)), (19, vb s2)] [[]] []) (jsr<|
  jpc 2 rfl<|jot<|jif rfl (jsk<|jnn (gv (fun _ k=>k) [900] ⟨⟩))<|jrg<|jpc 2 rfl<|joe<|jnn (gv (fun _ k=>k) [900] ⟨⟩))<|fun s2 _ k=>k<|jif rfl (
  jjp (fun K=>K [(2, vb ((decide (2 ≤ (len ((fv y0).2.2)))) && (decide ((len ((fv y0).2.2)) ≤ 6))))] [[]] []) (jrg<|jpc 3 rfl<|jsp (b := decide (2 ≤ (len ((fv y0).2.2)))) 24 rfl (fun hb1=>jpc 2 rfl<|
  jpe (vb (decide ((len ((fv y0).2.2)) ≤ 6)))<|jpc 1 rfl<|joe<|jup 2 (vb ((decide (2 ≤ (len ((fv y0).2.2)))) && (decide ((len ((fv y0).2.2)) ≤ 6)))) rfl (by rw [hb1]; rfl)<|jnn (gv (fun _ k=>k) [900] ⟨⟩))<|fun hb1=>jpc 2 rfl<|jpe (vb false)<|
  jpc 1 rfl<|joe<|jup 2 (vb ((decide (2 ≤ (len ((fv y0).2.2)))) && (decide ((len ((fv y0).2.2)) ≤ 6)))) rfl (by rw [hb1]; rfl)<|jnn (gv (fun _ k=>k) [900] ⟨⟩))<|fun _ k=>k<|jxr<|jbr<|jtr<|jr1 rfl rfl (fun _ k=>k) [] ⟨⟩)<|
  jjn (fun s3 K=>K [(3, vi (len ((fv y0).2.2))), (28, vb s3)] [[]] []) (jsr<|jpc 2 rfl<|jot<|jif rfl (jsk<|jnn (gv (fun _ k=>k) [900] ⟨⟩))<|jrg<|jpc 2 rfl<|joe<|jnn (gv (fun _ k=>k) [900] ⟨⟩))<|fun s3 _ k=>k<|jif rfl (jsr<|jpc 3 rfl<|jot<|
  jxr<|jbr<|jtr<|jr1 rfl rfl (fun _ k=>k) [] ⟨⟩)<|jsk<|jbn<|jtn<|jsr<|jpc 1 rfl<|jot<|jxr<|jr1 rfl rfl (fun _ k=>k) [] ⟨⟩

theorem k_formula_all__formula_counted_all {qd : Prop} (k : Nat) :
    (∀ {y0 : T_Formula} {p1 : Option Addr} {c1 : Nat}, Con qd Tryd.prog 67 [.agg #[vi ((fv y0).1), vs ((fv y0).2.1), sv p1 ((fv y0).2.2) c1], .func (.func 68) #[] #[]] [] [Rl e_Formula p1 c1 ((fv y0).2.2)] (k_formula_all__formula_counted k y0) fun r K=>K (vb r) [] []) := by
  induction k with
  | zero => exact con0 Tryd.call67
  | succ k ih =>
    have ih_formula_all__formula_counted := @ih
    exact @fun y0 p1 c1=>ent3 (m1 := F_formula_all__formula_counted (k_formula_all__formula_counted k) y0) Tryd.call67 Tryd.func67 rfl fun X=>jsr<|jbx .s rfl<|fun b1=>jpc 1 rfl<|jot<|jsq<|jsr<|jpc 1 rfl<|jla 0 3 rfl rfl rfl<|jca .s [] [] c_formula_counted rfl rfl rfl ⟨ck 0,⟨⟩⟩<|fun r1 _ k=>k<|jpc 1 rfl<|jot<|jif rfl (jsr<|jpc 1 rfl<|jot<|jxr<|jtr<|jr1 rfl rfl (fun _ k=>k) [] ⟨⟩
  )<|jsk<|jtn<|jsq<|jsr<|jfa 2 rfl<|jlo 0 rfl rfl rfl<|jpc 2 rfl<|jot<|jbk<|
  jlp (fun s1 K=>K [(1, .func (.func 68) #[] #[]), (12, sv p1 ((fv y0).2.2) c1), (13, vi (len ((fv y0).2.2))), (14, vi s1)] [[]] [Rl e_Formula p1 c1 ((fv y0).2.2)]) (gv (fun _ k=>k) [900] ⟨gk 0,⟨⟩⟩)<|fun s1 _ k=>k<|jsr<|jpc 1 rfl<|jot<|jsq<|
  jif rfl (jsk<|jtn<|jsq<|jbk<|jsr<|jix 0 rfl rfl rfl<|fun x1 b2 o1=>jld true o_Formula (gk 0) rfl<|fun p2 c2=>jal .s (.agg #[vi 0, vs [], .slice none 0 0])<|fun b3=>jso .s 1 rfl rfl rfl<|jot<|jsr<|jla 1 3 rfl rfl rfl<|jpc 1 rfl<|
  jcl ih_formula_all__formula_counted rfl ⟨ck 0,⟨⟩⟩<|fun r2 _ k=>k<|jpc 1 rfl<|jot<|jif rfl (jsr<|jpc 1 rfl<|jot<|jxr<|jbr<|jtr<|jlr<|jbr<|jtr<|jr1 rfl rfl (fun _ k=>k) [] ⟨⟩)<|jsk<|jbn<|jtn<|jrg<|jpc 2 rfl<|joe<|
  jln (gv (fun _ k=>k) [900] ⟨gk 2,⟨⟩⟩))<|jxe<|jte<|jle<|jbh<|jtn<|jsr<|jpc 1 rfl<|jot<|jxr<|jr1 rfl rfl (fun _ k=>k) [] ⟨⟩

theorem c_formula_all__formula_counted {qd : Prop} {y0 : T_Formula} : Con qd Tryd.prog 67 [.agg #[vi ((fv y0).1), vs ((fv y0).2.1), sv p1 ((fv y0).2.2) c1], .func (.func 68) #[] #[]] [] [Rl e_Formula p1 c1 ((fv y0).2.2)] (m_formula_all__formula_counted y0) fun r K=>K (vb r) [] [] := conLim fun k => (k_formula_all__formula_counted_all k)

theorem c_literal_ValidName {qd : Prop} {y0 : Str} : Con qd Tryd.prog 61 [vs y0] [] [] (m_literal_ValidName y0) fun r K=>K (vb r) [] [] :=
 ent3 Tryd.call61 Tryd.func61 rfl fun X=>jsr<|jpc 1 rfl<|jot<|jsq<|jjp (fun K=>K [(0, vs y0), (12, vb (((len y0) == 0) || (decide (12 < (len y0)))))] [] []) (jrg<|jpc 4 rfl<|jsp (b := (len y0) == 0) 8 rfl (fun hb1=>jpc 3 rfl<|jpe (vb true)<|joe<|
  jup 12 (vb (((len y0) == 0) || (decide (12 < (len y0))))) rfl (by rw [hb1]; rfl)<|jnn (gv (fun _ k=>k) [] ⟨⟩))<|fun hb1=>jpc 3 rfl<|jpe (vb (decide (12 < (len y0))))<|joe<|
  jup 12 (vb (((len y0) == 0) || (decide (12 < (len y0))))) rfl (by rw [hb1]; rfl)<|jnn (gv (fun _ k=>k) [] ⟨⟩))<|fun _ k=>k<|jif rfl (jsr<|jpc 1 rfl<|jot<|jxr<|jtr<|jr1 rfl rfl (fun _ k=>k) [] ⟨⟩)<|jsk<|jtn<|jsq<|jsr<|jpc 3 rfl<|jot<|jbk<|
  jlp (fun s1 K=>K [(0, vs y0), (14, vi (len y0)), (15, vi s1)] [] []) (gv (fun _ k=>k) [] ⟨⟩)<|fun s1 _ k=>k<|jsr<|jpc 1 rfl<|jot<|jsq<|jif rfl (jsk<|jtn<|jsq<|jbk<|jsr<|jpc 2 rfl<|jot<|jsr<|jpc 2 rfl<|jbd fun x1 h1=>
  jv (fun h=>r_sidx h rfl rfl Tryd.underlying9 h1)<|jpc 1 rfl<|jot<|jbk<|jjp (fun K=>K [(0, vs y0), (3, vi s1), (4, .int .u8 x1), (14, vi (len y0)), (15, vi s1), (21, vb ((decide (97 ≤ x1)) && (decide (x1 ≤ 122))))] [] []) (jrg<|jpc 3 rfl<|
  jsp (b := decide (97 ≤ x1)) 24 rfl (fun hb2=>jpc 2 rfl<|jpe (vb (decide (x1 ≤ 122)))<|jpc 1 rfl<|joe<|jup 21 (vb ((decide (97 ≤ x1)) && (decide (x1 ≤ 122)))) rfl (by rw [hb2]; rfl)<|jnn (gv (fun _ k=>k) [] ⟨⟩))<|fun hb2=>jpc 2 rfl<|
  jpe (vb false)<|jpc 1 rfl<|joe<|jup 21 (vb ((decide (97 ≤ x1)) && (decide (x1 ≤ 122)))) rfl (by rw [hb2]; rfl)<|jnn (gv (fun _ k=>k) [] ⟨⟩))<|fun _ k=>k<|jif rfl (jsk<|jbn<|jbn<|jtn<|jrg<|jpc 2 rfl<|joe<|jln (gv (fun _ k=>k) [] ⟨⟩))<|
  jjp (fun K=>K [(0, vs y0), (14, vi (len y0)), (15, vi s1), (28, vb ((decide (0 < s1)) && (if decide (48 ≤ x1) then (decide (x1 ≤ 57)) || (x1 == 95) else x1 == 95)))] [] []) (jrg<|jpc 3 rfl<|jsp (b := decide (0 < s1)) 31 rfl (fun hb3=>
  jpc 3 rfl<|jsp (b := decide (48 ≤ x1)) 34 rfl (fun hb4=>jpc 2 rfl<|jpe (vb (decide (x1 ≤ 57)))<|jpc 1 rfl<|jsp (b := decide (x1 ≤ 57)) 38 rfl (fun hb5=>jpc 2 rfl<|jpe (vb true)<|jpe (vb true)<|jpc 1 rfl<|joe<|
  jup 28 (vb ((decide (0 < s1)) && (if decide (48 ≤ x1) then (decide (x1 ≤ 57)) || (x1 == 95) else x1 == 95))) rfl (by rw [hb3,hb4,hb5]; rfl)<|jnn (gv (fun _ k=>k) [] ⟨⟩))<|fun hb5=>jpc 2 rfl<|jpe (vb (x1 == 95))<|jpe (vb (x1 == 95))<|
  jpc 1 rfl<|joe<|jup 28 (vb ((decide (0 < s1)) && (if decide (48 ≤ x1) then (decide (x1 ≤ 57)) || (x1 == 95) else x1 == 95))) rfl (by rw [hb3,hb4,hb5]; rfl)<|jnn (gv (fun _ k=>k) [] ⟨⟩))<|fun hb4=>jpc 2 rfl<|jpe (vb false)<|jpc 3 rfl<|
  jpe (vb (x1 == 95))<|jpe (vb (x1 == 95))<|jpc 1 rfl<|joe<|jup 28 (vb ((decide (0 < s1)) && (if decide (48 ≤ x1) then (decide (x1 ≤ 57)) || (x1 == 95) else x1 == 95))) rfl (by rw [hb3,hb4]; rfl)<|jnn (gv (fun _ k=>k) [] ⟨⟩))<|fun hb3=>
  jpc 10 rfl<|jpe (vb false)<|jpc 1 rfl<|joe<|jup 28 (vb ((decide (0 < s1)) && (if decide (48 ≤ x1) then (decide (x1 ≤ 57)) || (x1 == 95) else x1 == 95))) rfl (by rw [hb3]; rfl)<|jnn (gv (fun _ k=>k) [] ⟨⟩))<|fun _ k=>k<|jif rfl (jsk<|jbn<|
  jbn<|jtn<|jrg<|jpc 2 rfl<|joe<|jln (gv (fun _ k=>k) [] ⟨⟩))<|jsr<|jpc 1 rfl<|jot<|jxr<|jbr<|jbr<|jtr<|jlr<|jbr<|jtr<|jr1 rfl rfl (fun _ k=>k) [] ⟨⟩)<|jxe<|jte<|jle<|jbh<|jtn<|jsr<|jpc 1 rfl<|jot<|jxr<|jr1 rfl rfl (fun _ k=>k) [] ⟨⟩

theorem c_formula_named {qd : Prop} {y0 : T_Formula} : Con qd Tryd.prog 69 [.agg #[vi ((fv y0).1), vs ((fv y0).2.1), sv p1 ((fv y0).2.2) c1]] [] [Rl e_Formula p1 c1 ((fv y0).2.2)] (m_formula_named y0) fun r K=>K (vb r) [] [] :=
 ent3 Tryd.call69 Tryd.func69 rfl fun X=>jsr<|jbx .s rfl<|fun b1=>jpc 1 rfl<|jot<|jsq<|jsr<|jfa 0 rfl<|jlo 0 rfl rfl rfl<|jpc 1 rfl<|jot<|jif rfl (jsr<|jfa 1 rfl<|jlo 0 rfl rfl rfl<|jcl c_literal_ValidName rfl ⟨⟩<|fun r1 _ k=>k<|jpc 1 rfl<|jot<|jxr<|jtr<|
  jr1 rfl rfl (fun _ k=>k) [] ⟨⟩)<|jsk<|jtn<|jsr<|jfa 1 rfl<|jlo 0 rfl rfl rfl<|jpc 2 rfl<|jot<|jxr<|jr1 rfl rfl (fun _ k=>k) [] ⟨⟩

theorem k_formula_all__formula_named_all {qd : Prop} (k : Nat) :
    (∀ {y0 : T_Formula} {p1 : Option Addr} {c1 : Nat}, Con qd Tryd.prog 67 [.agg #[vi ((fv y0).1), vs ((fv y0).2.1), sv p1 ((fv y0).2.2) c1], .func (.func 69) #[] #[]] [] [Rl e_Formula p1 c1 ((fv y0).2.2)] (k_formula_all__formula_named k y0) fun r K=>K (vb r) [] []) := by
  induction k with
  | zero => exact con0 Tryd.call67
  | succ k ih =>
    have ih_formula_all__formula_named := @ih
    exact @fun y0 p1 c1=>ent3 (m1 := F_formula_all__formula_named (k_formula_all__formula_named k) y0) Tryd.call67 Tryd.func67 rfl fun X=>jsr<|jbx .s rfl<|fun b1=>jpc 1 rfl<|jot<|jsq<|jsr<|jpc 1 rfl<|jla 0 3 rfl rfl rfl<|jca .s [] [] c_formula_named rfl rfl rfl ⟨ck 0,⟨⟩⟩<|fun r1 _ k=>k<|jpc 1 rfl<|jot<|jif rfl (jsr<|jpc 1 rfl<|jot<|jxr<|jtr<|jr1 rfl rfl (fun _ k=>k) [] ⟨⟩)<|
  jsk<|jtn<|jsq<|jsr<|jfa 2 rfl<|jlo 0 rfl rfl rfl<|jpc 2 rfl<|jot<|jbk<|
  jlp (fun s1 K=>K [(1, .func (.func 69) #[] #[]), (12, sv p1 ((fv y0).2.2) c1), (13, vi (len ((fv y0).2.2))), (14, vi s1)] [[]] [Rl e_Formula p1 c1 ((fv y0).2.2)]) (gv (fun _ k=>k) [900] ⟨gk 0,⟨⟩⟩)<|fun s1 _ k=>k<|jsr<|jpc 1 rfl<|jot<|jsq<|
  jif rfl (jsk<|jtn<|jsq<|jbk<|jsr<|jix 0 rfl rfl rfl<|fun x1 b2 o1=>jld true o_Formula (gk 0) rfl<|fun p2 c2=>jal .s (.agg #[vi 0, vs [], .slice none 0 0])<|fun b3=>jso .s 1 rfl rfl rfl<|jot<|jsr<|jla 1 3 rfl rfl rfl<|jpc 1 rfl<|
  jcl ih_formula_all__formula_named rfl ⟨ck 0,⟨⟩⟩<|fun r2 _ k=>k<|jpc 1 rfl<|jot<|jif rfl (jsr<|jpc 1 rfl<|jot<|jxr<|jbr<|jtr<|jlr<|jbr<|jtr<|jr1 rfl rfl (fun _ k=>k) [] ⟨⟩)<|jsk<|jbn<|jtn<|jrg<|jpc 2 rfl<|joe<|
  jln (gv (fun _ k=>k) [900] ⟨gk 2,⟨⟩⟩))<|jxe<|jte<|jle<|jbh<|jtn<|jsr<|jpc 1 rfl<|jot<|jxr<|jr1 rfl rfl (fun _ k=>k) [] ⟨⟩

theorem c_formula_all__formula_named {qd : Prop} {y0 : T_Formula} : Con qd Tryd.prog 67 [.agg #[vi ((fv y0).1), vs ((fv y0).2.1), sv p1 ((fv y0).2.2) c1], .func (.func 69) #[] #[]] [] [Rl e_Formula p1 c1 ((fv y0).2.2)] (m_formula_all__formula_named y0) fun r K=>K (vb r) [] [] := conLim fun k => (k_formula_all__formula_named_all k)

theorem c_formula_Validate {qd : Prop} {y0 : T_Formula} : Con qd Tryd.prog 53 [.agg #[vi ((fv y0).1), vs ((fv y0).2.1), sv p1 ((fv y0).2.2) c1]] [] [Rl e_Formula p1 c1 ((fv y0).2.2)] (m_formula_Validate y0) fun r K=>K (vi r) [] [] :=
 ent3 Tryd.call53 Tryd.func53 rfl fun X=>jsr<|jbx .s rfl<|fun b1=>jpc 1 rfl<|jot<|jsq<|jbk<|jjn (fun s1 K=>K [(1, pt b1 0), (3, vb s1)] [bx b1 82 [vi ((fv y0).1), vs ((fv y0).2.1), sv p1 ((fv y0).2.2) c1]] [Rl e_Formula p1 c1 ((fv y0).2.2)]) (jrg<|jla 0 3 rfl rfl rfl<|
  jcl c_formula_Size rfl ⟨ck 0,⟨⟩⟩<|fun r1 _ k=>k<|jpc 2 rfl<|jsg 7 rfl (jpc 3 rfl<|jpe (vb true)<|jpc 1 rfl<|joe<|jnn (gv (fun _ k=>k) [0] ⟨gk 0,⟨⟩⟩))<|jla 0 3 rfl rfl rfl<|jcl c_formula_Depth rfl ⟨ck 0,⟨⟩⟩<|fun r2 _ k=>k<|jpc 1 rfl<|
  jpe (vb (decide (20 < r2)))<|jpc 1 rfl<|joe<|jnn (gv (fun _ k=>k) [0] ⟨gk 0,⟨⟩⟩))<|fun s1 _ k=>k<|jif rfl (jsr<|jpc 1 rfl<|jot<|jxr<|jbr<|jtr<|jr1 rfl rfl (fun _ k=>k) [] ⟨⟩)<|jsr<|jla 0 3 rfl rfl rfl<|
  jcl c_formula_all__formula_counted rfl ⟨ck 0,⟨⟩⟩<|fun r3 _ k=>k<|jpc 2 rfl<|jot<|jif rfl (jsr<|jpc 1 rfl<|jot<|jxr<|jbr<|jtr<|jr1 rfl rfl (fun _ k=>k) [] ⟨⟩)<|jsr<|jla 0 3 rfl rfl rfl<|jcl c_formula_all__formula_named rfl ⟨ck 0,⟨⟩⟩<|
  fun r4 _ k=>k<|jpc 2 rfl<|jot<|jif rfl (jsr<|jpc 1 rfl<|jot<|jxr<|jbr<|jtr<|jr1 rfl rfl (fun _ k=>k) [] ⟨⟩)<|jsk<|jbn<|jtn<|jsr<|jpc 1 rfl<|jot<|jxr<|jr1 rfl rfl (fun _ k=>k) [] ⟨⟩

theorem c_formula_needed {qd : Prop} {y0 : T_Formula} {y1 : Int} : Con qd Tryd.prog 73 [.agg #[vi ((fv y0).1), vs ((fv y0).2.1), sv p1 ((fv y0).2.2) c1], vi y1] [] [Rl e_Formula p1 c1 ((fv y0).2.2)] (m_formula_needed y0 y1) fun r K=>K (vi r) [] [] :=
 ent3 Tryd.call73 Tryd.func73 rfl fun X=>jsr<|jbx .s rfl<|fun b1=>jpc 1 rfl<|jot<|jsq<|jsr<|jfa 0 rfl<|jlo 0 rfl rfl rfl<|jot<|jbk<|jjn (fun s1 K=>K [(1, vi y1), (6, vi ((fv y0).1)), (7, vb s1)] [[]] []) (jsr<|jpc 2 rfl<|jot<|jif rfl (jsk<|jnn (gv (fun _ k=>k) [900] ⟨⟩))<|jrg<|
  jpc 2 rfl<|joe<|jnn (gv (fun _ k=>k) [900] ⟨⟩))<|fun s1 _ k=>k<|jif rfl (jsr<|jpc 1 rfl<|jot<|jxr<|jbr<|jtr<|jr1 rfl rfl (fun _ k=>k) [] ⟨⟩)<|jsr<|jpc 2 rfl<|jot<|jif rfl (jsr<|jpc 1 rfl<|jot<|jxr<|jbr<|jtr<|jr1 rfl rfl (fun _ k=>k) [] ⟨⟩
  )<|jsr<|jpc 2 rfl<|jot<|jif rfl (jsr<|jpc 3 rfl<|jot<|jxr<|jbr<|jtr<|jr1 rfl rfl (fun _ k=>k) [] ⟨⟩)<|jsk<|jbn<|jtn<|jsr<|jpc 1 rfl<|jot<|jxr<|jr1 rfl rfl (fun _ k=>k) [] ⟨⟩

theorem c_formula_strength {qd : Prop} {y0 : T_Formula} : Con qd Tryd.prog 72 [.agg #[vi ((fv y0).1), vs ((fv y0).2.1), sv p1 ((fv y0).2.2) c1]] [] [Rl e_Formula p1 c1 ((fv y0).2.2)] (m_formula_strength y0) fun r K=>K (vi r) [] [] :=
 ent3 Tryd.call72 Tryd.func72 rfl fun X=>jsr<|jbx .s rfl<|fun b1=>jpc 1 rfl<|jot<|jsq<|jsr<|jfa 0 rfl<|jlo 0 rfl rfl rfl<|jot<|jbk<|jsr<|jpc 2 rfl<|jot<|jif rfl (jsr<|jpc 1 rfl<|jot<|jxr<|jbr<|jtr<|jr1 rfl rfl (fun _ k=>k) [] ⟨⟩)<|jsr<|jpc 2 rfl<|jot<|jif rfl (jsr<|jpc 1 rfl<|
  jot<|jxr<|jbr<|jtr<|jr1 rfl rfl (fun _ k=>k) [] ⟨⟩)<|jsr<|jpc 2 rfl<|jot<|jif rfl (jsr<|jpc 1 rfl<|jot<|jxr<|jbr<|jtr<|jr1 rfl rfl (fun _ k=>k) [] ⟨⟩)<|jsr<|jpc 2 rfl<|jot<|jif rfl (jsr<|jpc 1 rfl<|jot<|jxr<|jbr<|jtr<|
  jr1 rfl rfl (fun _ k=>k) [] ⟨⟩)<|jsk<|jbn<|jtn<|jsr<|jpc 1 rfl<|jot<|jxr<|jr1 rfl rfl (fun _ k=>k) [] ⟨⟩

theorem k_strings_Builder_WriteByte {qd : Prop} {y0 : Str} : Con qd Tryd.prog 80 [pt b1 0] [r_1] [Bdr 97 5 r_1 b1 y0] (some ()) fun _ K=>∀ r_2,K (.tuple #[]) [r_2] [Bdr 97 5 r_2 b1 y0] := (lib_chk (ρ := Go.Proofs.Tryd.lays166_ren) { Go.Proofs.Tryd.lays166 with } Go.Proofs.Tryd.Builder_Extra_166.toX72 Tryd.call80)
theorem c_strings_Builder_WriteByte {qd : Prop} {y0 : Str} {y1 : Int} : Con qd Tryd.prog 70 [pt b1 0, .int .u8 y1] [r_1] [Bdr 97 5 r_1 b1 y0] (m_strings_Builder_WriteByte y0 y1) fun r K=>∀ r_2,K .nilIface [r_2] [Bdr 97 5 r_2 b1 r.2] :=
 ent3 Tryd.call70 Tryd.func70 rfl fun X=>jsr<|jpc 1 rfl<|jot<|jsr<|jpc 1 rfl<|jca .s [0] [] k_strings_Builder_WriteByte rfl rfl rfl ⟨ck 0,⟨⟩⟩<|fun _ _ k r_2=>k<|jot<|jsr<|jBo 0 0 rfl<|fun pv p2 c2 r_3=>jpc 3 rfl<|jfa 1 rfl<|jlo 0 rfl rfl rfl<|jpc 1 rfl<|
  jbs .s (e := eInt .u8) 5 [.int .u8 y1] [y1] (rC vI rN)<|fun p3 c3=>jwb .s 1 1 rfl (gk 0) rfl rfl<|fun r_4 p4 c4=>jpc 1 rfl<|jfa 1 rfl<|jso .s 0 rfl rfl rfl<|jBc 0 1 0 3 rfl rfl rfl rfl<|fun r_5=>jot<|jsr<|jpc 1 rfl<|jot<|jxr<|jr1 rfl rfl (fun _ k=>k r_5) [0] ⟨gk 0,⟨⟩⟩

theorem c_strings_Builder_WriteString {y0 : Str} {y1 : Str} : Con False Tryd.prog 71 [pt b1 0, vs y1] [r_1] [Bdr 97 5 r_1 b1 y0] (m_strings_Builder_WriteString y0 y1) fun r K=>∀ r_2,K (.tuple #[vi r.1, .nilIface]) [r_2] [Bdr 97 5 r_2 b1 r.2.2] := lib_wstr { Go.Proofs.Tryd.lays166 with } Go.Proofs.Tryd.Builder_Extra_166 Tryd.call71

theorem k_formula_write_all (k : Nat) :
    (∀ {y0 : Str} {b1 : Nat} {r_1 : Res} {y1 : T_Formula} {p1 : Option Addr} {c1 : Nat}, Con False Tryd.prog 54 [pt b1 0, .agg #[vi ((fv y1).1), vs ((fv y1).2.1), sv p1 ((fv y1).2.2) c1]] [r_1] [Bdr 97 5 r_1 b1 y0, Rl e_Formula p1 c1 ((fv y1).2.2), Pt (eArr 9 eStr) 0 0 tab_formula_words] (k_formula_write k y0 y1) fun r K=>∀ r_2,K (.tuple #[]) [r_2] [Bdr 97 5 r_2 b1 r]) := by
  induction k with
  | zero => exact con0 Tryd.call54
  | succ k ih =>
    have ih_formula_write := @ih
    exact @fun y0 b1 r_1 y1 p1 c1=>ent3 (m1 := F_formula_write (k_formula_write k) y0 y1) Tryd.call54 Tryd.func54 rfl fun X=>jsr<|jbx .s rfl<|fun b2=>jot<|
  jjn (fun s1 K=>∀ r_2,K [(0, pt b1 0), (3, pt b2 0)] [r_2, bx b2 82 [vi ((fv y1).1), vs ((fv y1).2.1), sv p1 ((fv y1).2.2) c1]] [Bdr 97 5 r_2 b1 s1, Rl e_Formula p1 c1 ((fv y1).2.2), Pt (eArr 9 eStr) 0 0 tab_formula_words]) (jsr<|jfa 0 rfl<|
  jlo 1 rfl rfl rfl<|jot<|jbk<|jsr<|jpc 2 rfl<|jot<|jif rfl (jrg<|jpc 1 rfl<|jca .s [0] [] c_strings_Builder_WriteByte rfl rfl rfl ⟨ck 0,⟨⟩⟩<|fun r1 _ k r_3=>k<|joe<|jbn<|jnn (gv (fun _ k=>k r_3) [0,1] ⟨gk 0,gk 2,gk 3,⟨⟩⟩))<|jsr<|jpc 2 rfl<|
  jot<|jif rfl (jrg<|jpc 1 rfl<|jca .s [0] [] c_strings_Builder_WriteByte rfl rfl rfl ⟨ck 0,⟨⟩⟩<|fun r2 _ k r_4=>k<|joe<|jbn<|jnn (gv (fun _ k=>k r_4) [0,1] ⟨gk 0,gk 2,gk 3,⟨⟩⟩))<|jsr<|jpc 2 rfl<|jot<|jif rfl (jrg<|jpc 1 rfl<|jfa 1 rfl<|
  jlo 1 rfl rfl rfl<|jca .s [0] [] c_strings_Builder_WriteString rfl rfl rfl ⟨ck 0,⟨⟩⟩<|fun r3 _ k r_5=>k<|joe<|jbn<|jnn (gv (fun _ k=>k r_5) [0,1] ⟨gk 0,gk 2,gk 3,⟨⟩⟩))<|jsr<|jpc 2 rfl<|jot<|jif rfl (jrg<|jpc 1 rfl<|
  jca .s [0] [] c_strings_Builder_WriteByte rfl rfl rfl ⟨ck 0,⟨⟩⟩<|fun r4 _ k r_6=>k<|joe<|jbn<|jnn (gv (fun _ k=>k r_6) [0,1] ⟨gk 0,gk 2,gk 3,⟨⟩⟩))<|jsk<|jbn<|jnn (gv (fun _ k=>k r_1) [0,1] ⟨gk 0,gk 1,gk 2,⟨⟩⟩))<|fun s1 _ k r_2=>k<|jsr<|
  jfa 2 rfl<|jlo 1 rfl rfl rfl<|jpc 2 rfl<|jot<|jbk<|
  jlp (fun s2 K=>∀ r_7,K [(0, pt b1 0), (3, pt b2 0), (27, sv p1 ((fv y1).2.2) c1), (28, vi (len ((fv y1).2.2))), (29, vi s2.1)] [r_7, bx b2 82 [vi ((fv y1).1), vs ((fv y1).2.1), sv p1 ((fv y1).2.2) c1]] [Bdr 97 5 r_7 b1 s2.2, Rl e_Formula p1 c1 ((fv y1).2.2), Pt (eArr 9 eStr) 0 0 tab_formula_words]) (gv (fun _ k=>k r_2) [0,1] ⟨gk 0,gk 1,gk 2,⟨⟩⟩)<|
  fun s2 _ k r_7=>k<|jsr<|jpc 1 rfl<|jot<|jsq<|jif rfl (jsk<|jtn<|jsq<|jbk<|jsr<|jpc 1 rfl<|jix 1 rfl rfl rfl<|fun x1 b3 o1=>jld true o_Formula (gk 0) rfl<|fun p2 c2=>jal .s (.agg #[vi 0, vs [], .slice none 0 0])<|fun b4=>jpc 1 rfl<|
  jso .s 2 rfl rfl rfl<|jot<|
  jjn (fun s3 K=>∀ r_8,K [(0, pt b1 0), (3, pt b2 0), (4, vi s2.1), (5, pt b4 0), (27, sv p1 ((fv y1).2.2) c1), (28, vi (len ((fv y1).2.2))), (29, vi s2.1)] [r_8, bx b2 82 [vi ((fv y1).1), vs ((fv y1).2.1), sv p1 ((fv y1).2.2) c1], bx b4 82 [vi ((fv x1).1), vs ((fv x1).2.1), sv p2 ((fv x1).2.2) c2]] [Bdr 97 5 r_8 b1 s3, Rl e_Formula p1 c1 ((fv y1).2.2), Rl e_Formula p2 c2 ((fv x1).2.2), Pt (eArr 9 eStr) 0 0 tab_formula_words]) (
  jsr<|jpc 2 rfl<|jot<|jif rfl (jrg<|jpc 1 rfl<|jfa 0 rfl<|jlo 1 rfl rfl rfl<|jgx (gk 4) rfl rfl<|fun x2=>jld false oS (gk 0) rfl<|jca .s [0] [] c_strings_Builder_WriteString rfl rfl rfl ⟨ck 3,⟨⟩⟩<|fun r5 _ k r_9=>k<|joe<|
  jnn (gv (fun _ k=>k r_9) [0,1,2] ⟨gk 0,gk 5,gk 2,gk 6,⟨⟩⟩))<|jsk<|jnn (gv (fun _ k=>k r_7) [0,1,2] ⟨gk 2,gk 3,gk 0,gk 4,⟨⟩⟩))<|fun s3 _ k r_8=>k<|jds [] [1, 2] 6<|jda 0 2 3 rfl rfl rfl rfl<|jda 2 1 3 rfl rfl rfl rfl<|jdc 3 [3] rfl<|jd1 1<|
  jca (.f rfl) [] [] c_formula_strength rfl rfl rfl ⟨ck 2,⟨⟩⟩<|fun r6 _ k=>k<|jdn<|jd1 4<|jca (.f rfl) [] [] c_formula_needed rfl rfl rfl ⟨ck 1,⟨⟩⟩<|fun r7 _ k=>k<|jdn<|jdc 0 [5] rfl<|jde<|jtn<|jif rfl (jsr<|jpc 1 rfl<|
  jca .s [0] [] c_strings_Builder_WriteByte rfl rfl rfl ⟨ck 0,⟨⟩⟩<|fun r8 _ k r_10=>k<|jot<|jsr<|jpc 1 rfl<|jla 2 3 rfl rfl rfl<|jca .s [0] [] ih_formula_write rfl rfl rfl ⟨ck 0,ck 3,ck 4,⟨⟩⟩<|fun r9 _ k r_11=>k<|jot<|jrg<|jpc 1 rfl<|
  jca .s [0] [] c_strings_Builder_WriteByte rfl rfl rfl ⟨ck 0,⟨⟩⟩<|fun r10 _ k r_12=>k<|joe<|jbn<|jtn<|jrg<|jpc 2 rfl<|joe<|jln (gv (fun _ k=>k r_12) [0,1] ⟨gk 0,gk 4,gk 6,⟨⟩⟩))<|jrg<|jpc 1 rfl<|jla 2 3 rfl rfl rfl<|
  jca .s [0] [] ih_formula_write rfl rfl rfl ⟨ck 0,ck 2,ck 3,⟨⟩⟩<|fun r11 _ k r_13=>k<|joe<|jbn<|jtn<|jrg<|jpc 2 rfl<|joe<|jln (gv (fun _ k=>k r_13) [0,1] ⟨gk 0,gk 2,gk 4,⟨⟩⟩))<|jxe<|jte<|jle<|jbh<|jrn<|
  jrg' rfl lN (fun _ k=>k r_7) [0] ⟨gk 0,⟨⟩⟩

theorem c_formula_write {y0 : Str} {y1 : T_Formula} : Con False Tryd.prog 54 [pt b1 0, .agg #[vi ((fv y1).1), vs ((fv y1).2.1), sv p1 ((fv y1).2.2) c1]] [r_1] [Bdr 97 5 r_1 b1 y0, Rl e_Formula p1 c1 ((fv y1).2.2), Pt (eArr 9 eStr) 0 0 tab_formula_words] (m_formula_write y0 y1) fun r K=>∀ r_2,K (.tuple #[]) [r_2] [Bdr 97 5 r_2 b1 r] := conLim fun k => (k_formula_write_all k)

theorem c_strings_Builder_Len {qd : Prop} {y0 : Str} : Con qd Tryd.prog 55 [pt b1 0] [r_1] [Bdr 97 5 r_1 b1 y0] (m_strings_Builder_Len y0) fun r K=>K (vi r) [r_1] [] := lib_blen Go.Proofs.Tryd.lays170 Tryd.call55

theorem c_strings_Builder_String {y0 : Str} : Con False Tryd.prog 56 [pt b1 0] [r_1] [Bdr 97 5 r_1 b1 y0] (m_strings_Builder_String y0) fun r K=>K (vs r) [[]] [] := lib_bstr Go.Proofs.Tryd.lays169 Go.Proofs.Tryd.Builder_Extra_169 Tryd.call56

theorem c_formula_Format {y0 : T_Formula} : Con False Tryd.prog 44 [.agg #[vi ((fv y0).1), vs ((fv y0).2.1), sv p1 ((fv y0).2.2) c1]] [] [Rl e_Formula p1 c1 ((fv y0).2.2), Pt (eArr 9 eStr) 0 0 tab_formula_words] (m_formula_Format y0) fun r K=>K (.tuple #[vs r.1, vi r.2]) [] [] :=
 ent3 Tryd.call44 Tryd.func44 rfl fun X=>jsr<|jbx .s rfl<|fun b1=>jpc 2 rfl<|jot<|jsq<|jsr<|jla 0 3 rfl rfl rfl<|jcl c_formula_Validate rfl ⟨ck 0,⟨⟩⟩<|fun r1 _ k=>k<|jpc 1 rfl<|jot<|jsr<|jpc 2 rfl<|jot<|jif rfl (jsr<|jpc 3 rfl<|jot<|jxr<|jtr<|
  jrg' rfl (lT rfl (lT rfl lN)) (fun _ k=>k) [] ⟨⟩)<|jsk<|jtn<|jsr<|jal .s (.agg #[.pointer none, .slice none 0 0])<|fun b2=>jbq 97 5 b2<|jot<|jsr<|jla 0 3 rfl rfl rfl<|jca .s [1] [] c_formula_write rfl rfl rfl ⟨ck 0,ck 1,ck 2,⟨⟩⟩<|
  fun r2 _ k r_1=>k<|jot<|jsq<|jsr<|jca .s [1] [] c_strings_Builder_Len rfl rfl rfl ⟨ck 0,⟨⟩⟩<|fun r3 _ k=>k<|jpc 1 rfl<|jot<|jif rfl (jsr<|jpc 2 rfl<|jot<|jxr<|jtr<|jrg' rfl (lT rfl (lT rfl lN)) (fun _ k=>k) [] ⟨⟩)<|jsk<|jtn<|jsr<|
  jca .s [1] [] c_strings_Builder_String rfl rfl rfl ⟨ck 0,⟨⟩⟩<|fun r4 _ k=>k<|jpc 2 rfl<|jot<|jxr<|jrg' rfl (lT rfl (lT rfl lN)) (fun _ k=>k) [] ⟨⟩

theorem c_slices_Index_bool {qd : Prop} {y0 : List Bool} {y1 : Bool} : Con qd Tryd.prog 79 [sv p1 y0 c1, vb y1] [] [Rl eBool p1 c1 y0] (m_slices_Index_bool y0 y1) fun r K=>K (vi r) [] [] :=
 ent3 Tryd.call79 Tryd.func79 rfl fun X=>jsr<|jpc 1 rfl<|jot<|jsq<|jsr<|jpc 3 rfl<|jot<|jbk<|jlp (fun s1 K=>K [(0, sv p1 y0 c1), (1, vb y1), (7, vi (len y0)), (8, vi s1)] [] [Rl eBool p1 c1 y0]) (gv (fun _ k=>k) [] ⟨gk 0,⟨⟩⟩)<|fun s1 _ k=>k<|jsr<|jpc 1 rfl<|jot<|jsq<|jif rfl (
  jsk<|jtn<|jsq<|jbk<|jsr<|jpc 2 rfl<|jot<|jsr<|jpc 3 rfl<|jix 0 rfl rfl rfl<|fun x1 b1 o1=>jld false oB (gk 0) rfl<|jpe (vb (y1 == x1))<|jot<|jif rfl (jsr<|jpc 2 rfl<|jot<|jxr<|jbr<|jtr<|jlr<|jbr<|jtr<|jr1 rfl rfl (fun _ k=>k) [] ⟨⟩)<|jsk<|
  jbn<|jtn<|jrg<|jpc 2 rfl<|joe<|jln (gv (fun _ k=>k) [] ⟨gk 1,⟨⟩⟩))<|jxe<|jte<|jle<|jbh<|jtn<|jsr<|jpc 1 rfl<|jot<|jxr<|jr1 rfl rfl (fun _ k=>k) [] ⟨⟩

theorem c_slices_Contains_bool {qd : Prop} {y0 : List Bool} {y1 : Bool} : Con qd Tryd.prog 60 [sv p1 y0 c1, vb y1] [] [Rl eBool p1 c1 y0] (m_slices_Contains_bool y0 y1) fun r K=>K (vb r) [] [] :=
 ent3 Tryd.call60 Tryd.func60 rfl fun X=>jsr<|jpc 1 rfl<|jot<|jsr<|jpc 2 rfl<|jcl c_slices_Index_bool rfl ⟨ck 0,⟨⟩⟩<|fun r1 _ k=>k<|jpc 2 rfl<|jot<|jxr<|jr1 rfl rfl (fun _ k=>k) [] ⟨⟩

theorem c_world_Valid {qd : Prop} {y0 : List Str} : Con qd Tryd.prog 50 [sv p1 y0 c1] [] [Rl eStr p1 c1 y0] (m_world_Valid y0) fun r K=>K (vb r) [] [] :=
 ent3 Tryd.call50 Tryd.func50 rfl fun X=>jsr<|jpc 1 rfl<|jot<|jsq<|jsr<|jpc 3 rfl<|jot<|jif rfl (jsr<|jpc 1 rfl<|jot<|jxr<|jtr<|jr1 rfl rfl (fun _ k=>k) [] ⟨⟩)<|jsk<|jtn<|jsq<|jsr<|jpc 3 rfl<|jot<|jbk<|
  jlp (fun s1 K=>K [(0, sv p1 y0 c1), (8, sv p1 y0 c1), (9, vi (len y0)), (10, vi s1)] [] [Rl eStr p1 c1 y0]) (gv (fun _ k=>k) [] ⟨gk 0,⟨⟩⟩)<|fun s1 _ k=>k<|jsr<|jpc 1 rfl<|jot<|jsq<|jif rfl (jsk<|jtn<|jsq<|jbk<|jsr<|jpc 1 rfl<|
  jix 0 rfl rfl rfl<|fun x1 b1 o1=>jld false oS (gk 0) rfl<|jpc 2 rfl<|jot<|jjn (fun s2 K=>K [(0, sv p1 y0 c1), (8, sv p1 y0 c1), (9, vi (len y0)), (10, vi s1), (30, vb s2)] [] [Rl eStr p1 c1 y0]) (jrg<|jpc 1 rfl<|
  jcl c_literal_ValidName rfl ⟨⟩<|fun r1 _ k=>k<|jpc 2 rfl<|jsg 18 rfl (jpc 11 rfl<|jpe (vb true)<|joe<|jnn (gv (fun _ k=>k) [] ⟨gk 1,⟨⟩⟩))<|jpc 3 rfl<|jsg 21 rfl (jpc 3 rfl<|jix 1 rfl rfl rfl<|fun x2 b2 o2=>jld false oS (gk 0) rfl<|
  jpc 2 rfl<|jpe (vb (!(sless x2 x1)))<|jpe (vb (!(sless x2 x1)))<|joe<|jnn (gv (fun _ k=>k) [] ⟨gk 2,⟨⟩⟩))<|jpc 7 rfl<|jpe (vb false)<|jpe (vb false)<|joe<|jnn (gv (fun _ k=>k) [] ⟨gk 1,⟨⟩⟩))<|fun s2 _ k=>k<|jif rfl (jsr<|jpc 1 rfl<|jot<|
  jxr<|jbr<|jtr<|jlr<|jbr<|jtr<|jr1 rfl rfl (fun _ k=>k) [] ⟨⟩)<|jsk<|jbn<|jtn<|jrg<|jpc 2 rfl<|joe<|jln (gv (fun _ k=>k) [] ⟨gk 0,⟨⟩⟩))<|jxe<|jte<|jle<|jbh<|jtn<|jsr<|jpc 1 rfl<|jot<|jxr<|jr1 rfl rfl (fun _ k=>k) [] ⟨⟩

theorem c_order_Validate {qd : Prop} {y0 : T_Order} : Con qd Tryd.prog 48 [.agg #[sv p1 y0.1 c1, sv p2 y0.2 c2]] [] [Rl eStr p1 c1 y0.1, Rl (eInt .i64) p2 c2 y0.2] (m_order_Validate y0) fun r K=>K (vi r) [] [] :=
 ent3 Tryd.call48 Tryd.func48 rfl fun X=>jsr<|jbx .s rfl<|fun b1=>jpc 1 rfl<|jot<|jsq<|jjn (fun s1 K=>K [(1, pt b1 0), (20, vb s1)] [bx b1 66 [sv p1 y0.1 c1, sv p2 y0.2 c2]] [Rl eStr p1 c1 y0.1, Rl (eInt .i64) p2 c2 y0.2]) (jdS [] [0] 14<|jdf 0 0 rfl rfl<|jdo 1 0 rfl rfl rfl rfl<|
  jd1 2<|jca (.f rfl) [] [] c_world_Valid rfl rfl rfl ⟨ck 0,⟨⟩⟩<|fun r1 _ k=>k<|jdn<|jdc 9 [3,4] rfl<|jsg 11 rfl (jdc 1 [5,6,7,8,9,10,11,12] rfl<|jdp 13 (vb true) rfl<|jde<|jnn (gv (fun _ k=>k) [0] ⟨gk 0,gk 1,⟨⟩⟩))<|jdf 5 1 rfl rfl<|
  jdo 6 0 rfl rfl rfl rfl<|jdc 6 [7] rfl<|jdf 8 0 rfl rfl<|jdo 9 0 rfl rfl rfl rfl<|jdc 3 [10] rfl<|jbd fun x1 h1=>jdv 11 rfl (fun h=>r_shlK h rfl rfl h1)<|jdc 1 [12] rfl<|jdp 13 (vb ((len y0.2) != x1)) rfl<|jde<|
  jnn (gv (fun _ k=>k) [0] ⟨gk 0,gk 1,⟨⟩⟩))<|fun s1 _ k=>k<|jif rfl (jsr<|jpc 1 rfl<|jot<|jxr<|jtr<|jr1 rfl rfl (fun _ k=>k) [] ⟨⟩)<|jsk<|jtn<|jsr<|jfa 1 rfl<|jlo 0 rfl rfl rfl<|jpc 1 rfl<|
  jmk .s (e := eBool) 4 (false : Bool) (vb false) vB rfl rfl<|fun x2 r_1 p3 c3=>jpc 1 rfl<|jot<|jsr<|jpc 1 rfl<|jot<|
  jjo (fun s2 K=>∀ r_2,K [(3, .slice p3 (List.length x2) c3), (4, vi s2.2)] [[], r_2] [Ar eBool 4 r_2 p3 c3 (List.length x2) s2.1]) (jsr<|jfa 1 rfl<|jlo 0 rfl rfl rfl<|jpc 2 rfl<|jot<|jbk<|
  jlp (fun s3 K=>∀ r_3,K [(3, .slice p3 (List.length x2) c3), (4, vi s3.2.1), (26, sv p2 y0.2 c2), (27, vi (len y0.2)), (28, vi s3.2.2)] [[], r_3] [Ar eBool 4 r_3 p3 c3 (List.length x2) s3.1, Rl (eInt .i64) p2 c2 y0.2]) (gv (fun _ k=>k r_1) [900,1] ⟨gk 0,gk 2,⟨⟩⟩)<|
  fun s3 _ k r_3=>k<|jsr<|jpc 1 rfl<|jot<|jsq<|jif rfl (jsk<|jtn<|jsq<|jbk<|jsr<|jix 1 rfl rfl rfl<|fun x3 b2 o1=>jld false oI (gk 0) rfl<|jpc 1 rfl<|jot<|jsq<|
  jjp (fun K=>K [(3, .slice p3 (List.length x2) c3), (4, vi s3.2.1), (6, vi x3), (26, sv p2 y0.2 c2), (27, vi (len y0.2)), (28, vi s3.2.2), (39, vb ((decide (x3 < 0)) || (decide ((len x2) ≤ x3))))] [[], r_3] [Ar eBool 4 r_3 p3 c3 (List.length x2) s3.1, Rl (eInt .i64) p2 c2 y0.2]) (
  jrg<|jpc 3 rfl<|jsp (b := decide (x3 < 0)) 34 rfl (fun hb2=>jpc 4 rfl<|jpe (vb true)<|joe<|jup 39 (vb ((decide (x3 < 0)) || (decide ((len x2) ≤ x3)))) rfl (by rw [hb2]; rfl)<|jnn (gv (fun _ k=>k) [900,1] ⟨gk 1,gk 2,⟨⟩⟩))<|fun hb2=>
  jpc 4 rfl<|jpe (vb (decide ((len x2) ≤ x3)))<|joe<|jup 39 (vb ((decide (x3 < 0)) || (decide ((len x2) ≤ x3)))) rfl (by rw [hb2]; rfl)<|jnn (gv (fun _ k=>k) [900,1] ⟨gk 1,gk 2,⟨⟩⟩))<|fun _ k=>k<|jif rfl (jsr<|jpc 1 rfl<|jot<|jxr<|jtr<|jbr<|
  jtr<|jlr<|jbr<|jlr<|jr1 rfl rfl (fun _ k=>k) [] ⟨⟩)<|jsk<|jtn<|jrg<|jpc 5 rfl<|jia 0 rfl rfl rfl<|fun x4 h2 b3 hp1=>jsA .s 1 0 sI true false rfl hp1 h2 rfl rfl vB<|fun r_4=>jpc 1 rfl<|joe<|jbn<|jtn<|jrg<|jpc 2 rfl<|joe<|
  jln (gv (fun _ k=>k r_4) [900,1] ⟨gk 0,gk 2,⟨⟩⟩))<|jxe<|jte<|jle<|jbh<|jln (gv (fun _ k=>k r_3) [900,1] ⟨gk 0,⟨⟩⟩))<|fun s2 _ k r_2=>k<|jsq<|jsr<|jpc 2 rfl<|jsP 0 rfl rfl rfl<|fun x5=>
  jca .s [] [1] c_slices_Contains_bool rfl rfl rfl ⟨cl 1 0,⟨⟩⟩<|fun r2 _ k=>k<|jot<|jif rfl (jsr<|jpc 1 rfl<|jot<|jxr<|jtr<|jr1 rfl rfl (fun _ k=>k) [] ⟨⟩)<|jsk<|jtn<|jsr<|jpc 1 rfl<|jot<|jxr<|jr1 rfl rfl (fun _ k=>k) [] ⟨⟩

theorem c_slices_Max_int {qd : Prop} {y0 : List Int} : Con qd Tryd.prog 49 [sv p1 y0 c1] [] [Rl (eInt .i64) p1 c1 y0] (m_slices_Max_int y0) fun r K=>K (vi r) [] [] :=
 ent3 Tryd.call49 Tryd.func49 rfl fun X=>jsr<|jpc 1 rfl<|jot<|jjn (fun s1 K=>K [(0, sv p1 y0 c1)] [] [Rl (eInt .i64) p1 c1 y0]) (jsr<|jpc 3 rfl<|jot<|jif rfl (jrg<|jno)<|jsk<|jnn (gv (fun _ k=>k) [] ⟨gk 0,⟨⟩⟩))<|fun s1 _ k=>k<|jsr<|jpc 1 rfl<|jix 0 rfl rfl rfl<|fun x1 b1 o1=>
  jld false oI (gk 0) rfl<|jpc 1 rfl<|jot<|jsq<|jsr<|jpc 1 rfl<|jot<|jbk<|jlp (fun s2 K=>K [(0, sv p1 y0 c1), (3, vi s2.1), (4, vi s2.2)] [] [Rl (eInt .i64) p1 c1 y0]) (gv (fun _ k=>k) [] ⟨gk 1,⟨⟩⟩)<|fun s2 _ k=>k<|jsq<|jsr<|jpc 4 rfl<|jot<|
  jif rfl (jsk<|jtn<|jsq<|jbk<|jrg<|jpc 3 rfl<|jix 0 rfl rfl rfl<|fun x2 b2 o2=>jld false oI (gk 0) rfl<|jpc 2 rfl<|joe<|jbn<|jtn<|jrg<|jpc 3 rfl<|joe<|jln (gv (fun _ k=>k) [] ⟨gk 1,⟨⟩⟩))<|jxe<|jte<|jle<|jbh<|jtn<|jsr<|jpc 2 rfl<|jot<|jxr<|
  jr1 rfl rfl (fun _ k=>k) [] ⟨⟩

theorem c_order_Levels {qd : Prop} {y0 : T_Order} : Con qd Tryd.prog 42 [.agg #[sv p1 y0.1 c1, sv p2 y0.2 c2]] [] [Rl eStr p1 c1 y0.1, Rl (eInt .i64) p2 c2 y0.2] (m_order_Levels y0) fun r K=>∀ p3 c3,K (sv p3 r c3) [] [Rl (eInt .u64) p3 c3 r] :=
 ent3 Tryd.call42 Tryd.func42 rfl fun X=>jsr<|jbx .s rfl<|fun b1=>jpc 1 rfl<|jot<|jsq<|jsr<|jla 0 2 rfl rfl rfl<|jcl c_order_Validate rfl ⟨ck 0,ck 1,⟨⟩⟩<|fun r1 _ k=>k<|jpc 1 rfl<|jot<|jif rfl (jsr<|jpc 1 rfl<|jot<|jxr<|jtr<|jr1 rfl rfl (fun _ k=>k none 0) [] ⟨gn,⟨⟩⟩)<|jsk<|jtn<|
  jsr<|jfa 1 rfl<|jlo 0 rfl rfl rfl<|jcl c_slices_Max_int rfl ⟨ck 1,⟨⟩⟩<|fun r2 _ k=>k<|jpc 1 rfl<|jmk .s (e := eInt .u64) 79 (0 : Int) (.int .u64 0) vI rfl rfl<|fun x1 r_1 p3 c3=>jpc 1 rfl<|jot<|jsq<|jsr<|jfa 1 rfl<|jlo 0 rfl rfl rfl<|
  jpc 2 rfl<|jot<|jbk<|
  jlp (fun s1 K=>∀ r_2,K [(3, .slice p3 (List.length x1) c3), (15, sv p2 y0.2 c2), (16, vi (len y0.2)), (17, vi s1.2)] [[], r_2] [Ar (eInt .u64) 79 r_2 p3 c3 (List.length x1) s1.1, Rl (eInt .i64) p2 c2 y0.2]) (gv (fun _ k=>k r_1) [900,1] ⟨gk 0,gk 2,⟨⟩⟩)<|
  fun s1 _ k r_2=>k<|jsr<|jpc 1 rfl<|jot<|jsq<|jif rfl (jsk<|jtn<|jsq<|jbk<|jsr<|jpc 1 rfl<|jix 1 rfl rfl rfl<|fun x2 b2 o1=>jld false oI (gk 0) rfl<|jpc 2 rfl<|jot<|jrg<|jpc 2 rfl<|jia 1 rfl rfl rfl<|fun x3 h1 b3 hp1=>
  jlA 1 1 sI false oI rfl hp1 h1 rfl<|jpc 1 rfl<|jpe (.int .u64 (IntKind.u64.wrap (s1.2)))<|jbd fun x4 h2=>jv (fun h=>r_shlK h rfl rfl h2)<|jpc 1 rfl<|jia 1 rfl rfl rfl<|fun x5 h3 b4 hp2=>
  jsA .s 1 1 sI (bor .u64 x3 x4) false rfl hp2 h3 rfl rfl vI<|fun r_3=>joe<|jbn<|jtn<|jrg<|jpc 2 rfl<|joe<|jln (gv (fun _ k=>k r_3) [900,1] ⟨gk 0,gk 3,⟨⟩⟩))<|jxe<|jte<|jle<|jbh<|jtn<|jsr<|jpc 2 rfl<|jot<|jxr<|jsh 1 0 rfl rfl<|
  jre 0 2 rfl rfl<|jr1 rfl rfl (fun _ k=>k p3 c3) [] ⟨gk 0,⟨⟩⟩

theorem c_internal_strconv_small {qd : Prop} {y0 : Int} : Con qd Tryd.prog 74 [vi y0] [] [] (m_internal_strconv_small y0) fun r K=>K (vs r) [] [] :=
 ent3 Tryd.call74 Tryd.func74 rfl fun X=>jsr<|jpc 1 rfl<|jot<|jsq<|jsr<|jpc 2 rfl<|jot<|jif rfl (jsr<|jpc 3 rfl<|jbd fun x1 h1=>jv (fun h=>r_ssub h rfl Tryd.underlying9 rfl rfl (.inr ⟨_, rfl⟩) (.inr ⟨_, rfl⟩) h1)<|jpc 1 rfl<|jot<|jxr<|jtr<|jr1 rfl rfl (fun _ k=>k) [] ⟨⟩)<|jsk<|
  jtn<|jsr<|jpc 5 rfl<|jbd fun x2 h2=>jv (fun h=>r_ssub h rfl Tryd.underlying9 rfl rfl (.inr ⟨_, rfl⟩) (.inr ⟨_, rfl⟩) h2)<|jpc 1 rfl<|jot<|jxr<|jr1 rfl rfl (fun _ k=>k) [] ⟨⟩

theorem c_internal_strconv_FormatInt {qd : Prop} {y0 : Int} {y1 : Int} : Con qd Tryd.prog 57 [vi y0, vi y1] [] [] (m_internal_strconv_FormatInt y0 y1) fun r K=>K (vs r) [] [] :=
 ent3 Tryd.call57 Tryd.func57 rfl fun X=>jsr<|jpc 1 rfl<|jot<|jsq<|jsr<|jpc 2 rfl<|jot<|jif rfl (jsq<|jjp (fun K=>K [(0, vi y0), (17, vb ((decide (0 ≤ y0)) && (decide (y0 < 100))))] [] []) (jrg<|jpc 3 rfl<|jsp (b := decide (0 ≤ y0)) 14 rfl (fun hb1=>jpc 2 rfl<|
  jpe (vb (decide (y0 < 100)))<|joe<|jup 17 (vb ((decide (0 ≤ y0)) && (decide (y0 < 100)))) rfl (by rw [hb1]; rfl)<|jnn (gv (fun _ k=>k) [] ⟨⟩))<|fun hb1=>jpc 2 rfl<|jpe (vb false)<|joe<|
  jup 17 (vb ((decide (0 ≤ y0)) && (decide (y0 < 100)))) rfl (by rw [hb1]; rfl)<|jnn (gv (fun _ k=>k) [] ⟨⟩))<|fun _ k=>k<|jif rfl (jsr<|jpc 1 rfl<|jcl c_internal_strconv_small rfl ⟨⟩<|fun r1 _ k=>k<|jpc 1 rfl<|jot<|jxr<|jtr<|jtr<|
  jr1 rfl rfl (fun _ k=>k) [] ⟨⟩)<|jsk<|jtn<|jsr<|jno)<|jsk<|jtn<|jsr<|jpc 1 rfl<|jpe (.int .u64 (IntKind.u64.wrap (y0)))<|jpc 3 rfl<|jno

theorem c_internal_strconv_Itoa {qd : Prop} {y0 : Int} : Con qd Tryd.prog 45 [vi y0] [] [] (m_internal_strconv_Itoa y0) fun r K=>K (vs r) [] [] :=
 ent3 Tryd.call45 Tryd.func45 rfl fun X=>jsr<|jpc 1 rfl<|jot<|jsr<|jpc 1 rfl<|jcl c_internal_strconv_FormatInt rfl ⟨⟩<|fun r1 _ k=>k<|jpc 1 rfl<|jot<|jxr<|jr1 rfl rfl (fun _ k=>k) [] ⟨⟩

theorem c_strconv_Itoa {qd : Prop} {y0 : Int} : Con qd Tryd.prog 34 [vi y0] [] [] (m_strconv_Itoa y0) fun r K=>K (vs r) [] [] :=
 ent3 Tryd.call34 Tryd.func34 rfl fun X=>jsr<|jpc 1 rfl<|jot<|jsr<|jpc 1 rfl<|jcl c_internal_strconv_Itoa rfl ⟨⟩<|fun r1 _ k=>k<|jpc 1 rfl<|jot<|jxr<|jr1 rfl rfl (fun _ k=>k) [] ⟨⟩

theorem c_report_number {qd : Prop} {y0 : Int} : Con qd Tryd.prog 21 [vi y0] [] [] (m_report_number y0) fun r K=>K (vs r) [] [] :=
 ent3 Tryd.call21 Tryd.func21 rfl fun X=>jsr<|jpc 1 rfl<|jot<|jsr<|jpc 1 rfl<|jcl c_strconv_Itoa rfl ⟨⟩<|fun r1 _ k=>k<|jpc 1 rfl<|jot<|jxr<|jr1 rfl rfl (fun _ k=>k) [] ⟨⟩

theorem c_world_whole {qd : Prop} {y0 : Int} : Con qd Tryd.prog 62 [vi y0] [] [] (m_world_whole y0) fun r K=>K (.int .u64 r) [] [] :=
 ent3 Tryd.call62 Tryd.func62 rfl fun X=>jsr<|jpc 1 rfl<|jot<|jsr<|jpc 1 rfl<|jbd fun x1 h1=>jv (fun h=>r_shlK h rfl rfl h1)<|jpc 1 rfl<|jbd fun x2 h2=>jv (fun h=>r_shrK h rfl rfl h2)<|jpc 1 rfl<|jot<|jxr<|jr1 rfl rfl (fun _ k=>k) [] ⟨⟩

theorem c_world_All {qd : Prop} {y0 : List Str} : Con qd Tryd.prog 52 [sv p1 y0 c1] [] [Rl eStr p1 c1 y0] (m_world_All y0) fun r K=>K (.int .u64 r) [] [] :=
 ent3 Tryd.call52 Tryd.func52 rfl fun X=>jsr<|jpc 1 rfl<|jot<|jsq<|jsr<|jpc 1 rfl<|jcl c_world_Valid rfl ⟨ck 0,⟨⟩⟩<|fun r1 _ k=>k<|jpc 1 rfl<|jot<|jif rfl (jsr<|jpc 1 rfl<|jot<|jxr<|jtr<|jr1 rfl rfl (fun _ k=>k) [] ⟨⟩)<|jsk<|jtn<|jsr<|jpc 2 rfl<|jcl c_world_whole rfl ⟨⟩<|
  fun r2 _ k=>k<|jpc 1 rfl<|jot<|jxr<|jr1 rfl rfl (fun _ k=>k) [] ⟨⟩

theorem c_world_split {qd : Prop} {y0 : Int} : Con qd Tryd.prog 63 [.int .u64 y0] [] [] (m_world_split y0) fun r K=>K (.tuple #[.int .u64 r.1, .int .u64 r.2]) [] [] :=
 ent3 Tryd.call63 Tryd.func63 rfl fun X=>jsr<|jpc 2 rfl<|jot<|jsq<|jsr<|jpc 1 rfl<|jot<|jbk<|jlp (fun s1 K=>K [(0, .int .u64 y0), (2, .int .u64 s1.1), (3, .int .u64 s1.2.1), (5, vi s1.2.2)] [] []) (gv (fun _ k=>k) [] ⟨⟩)<|fun s1 _ k=>k<|jsr<|jpc 1 rfl<|jot<|jsq<|jif rfl (jsk<|
  jtn<|jsq<|jbk<|jsr<|jpc 2 rfl<|jot<|jsr<|jpc 4 rfl<|jbd fun x1 h1=>jv (fun h=>r_shrK h rfl rfl h1)<|jpc 2 rfl<|jbd fun x2 h2=>jv (fun h=>r_shlK h rfl rfl h2)<|jpc 2 rfl<|jot<|jrg<|jpc 5 rfl<|jbd fun x3 h3=>jv (fun h=>r_shrK h rfl rfl h3)<|
  jpc 2 rfl<|jbd fun x4 h4=>jv (fun h=>r_shlK h rfl rfl h4)<|jpc 2 rfl<|joe<|jbn<|jtn<|jrg<|jpc 2 rfl<|joe<|jln (gv (fun _ k=>k) [] ⟨⟩))<|jxe<|jte<|jle<|jbh<|jtn<|jsr<|jpc 4 rfl<|jot<|jxr<|jrg' rfl (lT rfl (lT rfl lN)) (fun _ k=>k) [] ⟨⟩

theorem c_world_two {qd : Prop} {y0 : Int} {y1 : T_Formula} {y2 : T_Formula} : Con qd Tryd.prog 64 [vi y0, .agg #[vi ((fv y1).1), vs ((fv y1).2.1), sv p1 ((fv y1).2.2) c1], .agg #[vi ((fv y2).1), vs ((fv y2).2.1), sv p2 ((fv y2).2.2) c2]] [] [Rl e_Formula p1 c1 ((fv y1).2.2), Rl e_Formula p2 c2 ((fv y2).2.2)] (m_world_two y0 y1 y2) fun r K=>∀ p3 c3,K (.agg #[vi ((fv r).1), vs ((fv r).2.1), sv p3 ((fv r).2.2) c3]) [] [Rl e_Formula p3 c3 ((fv r).2.2)] :=
 ent3 Tryd.call64 Tryd.func64 rfl fun X=>jsr<|jbx .s rfl<|fun b1=>jbx .s rfl<|fun b2=>jal .s (.agg #[vi 0, vs [], .slice none 0 0])<|fun b3=>jot<|jsr<|jpc 1 rfl<|jla 0 3 rfl rfl rfl<|jla 1 3 rfl rfl rfl<|
  jbs .s (e := e_Formula) 82 [vi ((fv y1).1), vs ((fv y1).2.1), sv p1 ((fv y1).2.2) c1, vi ((fv y2).1), vs ((fv y2).2.1), sv p2 ((fv y2).2.2) c2] ([y1, y2] : List T_Formula) (rC (vF (vP vI (vP vS (vL (gk 0))))) (rC (vF (vP vI (vP vS (vL (gk 1))))) rN))<|
  fun p3 c3=>jpe (.agg #[vi y0, vs [], sv p3 ([y1, y2] : List T_Formula) c3])<|jso .s 2 rfl rfl rfl<|jot<|jxr<|jrg' rfl (lC 2 (.agg #[vi y0, vs [], sv p3 ([y1, y2] : List T_Formula) c3]) rfl rfl lN) (fun _ k=>k p3 c3) [] ⟨gk 0,⟨⟩⟩

theorem k_world_theory_all {qd : Prop} (k : Nat) :
    (∀ {y0 : List Str} {p1 : Option Addr} {c1 : Nat} {y1 : Int}, Con qd Tryd.prog 51 [sv p1 y0 c1, .int .u64 y1] [] [Rl eStr p1 c1 y0] (k_world_theory k y0 y1) fun r K=>∀ p2 c2,K (.agg #[vi ((fv r).1), vs ((fv r).2.1), sv p2 ((fv r).2.2) c2]) [] [Rl e_Formula p2 c2 ((fv r).2.2)]) := by
  induction k with
  | zero => exact con0 Tryd.call51
  | succ k ih =>
    have ih_world_theory := @ih
    exact @fun y0 p1 c1 y1=>ent3 (m1 := F_world_theory (k_world_theory k) y0 y1) Tryd.call51 Tryd.func51 rfl fun X=>jsr<|jal .s (.agg #[vi 0, vs [], .slice none 0 0])<|fun b1=>jot<|jsr<|jpc 2 rfl<|jcl c_world_whole rfl ⟨⟩<|fun r1 _ k=>k<|jpc 1 rfl<|jot<|jsq<|jsr<|jpc 1 rfl<|jot<|jbk<|jsr<|jpc 2 rfl<|jot<|jif rfl (jsr<|
  jpe (.agg #[vi 2, vs [], .slice none 0 0])<|jso .s 0 rfl rfl rfl<|jot<|jxr<|jbr<|jtr<|jrg' rfl (lC 0 (.agg #[vi 2, vs [], .slice none 0 0]) rfl rfl lN) (fun _ k=>k none 0) [] ⟨gn,⟨⟩⟩)<|jsr<|jpc 3 rfl<|jot<|jif rfl (jsr<|
  jpe (.agg #[vi 1, vs [], .slice none 0 0])<|jso .s 0 rfl rfl rfl<|jot<|jxr<|jbr<|jtr<|jrg' rfl (lC 0 (.agg #[vi 1, vs [], .slice none 0 0]) rfl rfl lN) (fun _ k=>k none 0) [] ⟨gn,⟨⟩⟩)<|jsk<|jbn<|jtn<|jsr<|jpc 1 rfl<|
  jsl (gk 0) rfl rfl rfl (.inr ⟨_, rfl⟩) (.inl ⟨rfl, rfl⟩)<|fun x1 p2 c2=>jpc 1 rfl<|jot<|jsr<|jpc 1 rfl<|jcl c_world_split rfl ⟨⟩<|fun r2 _ k=>k<|jpc 5 rfl<|jot<|jsq<|jsr<|jpc 3 rfl<|jot<|jif rfl (jsr<|jpc 2 rfl<|
  jcl ih_world_theory rfl ⟨ck 0,⟨⟩⟩<|fun r3 _ k p3 c3=>k<|jso .s 0 rfl rfl rfl<|jot<|jxr<|jtr<|jrg' rfl (lC 0 (.agg #[vi ((fv r3).1), vs ((fv r3).2.1), sv p3 ((fv r3).2.2) c3]) rfl rfl lN) (fun _ k=>k p3 c3) [] ⟨gk 0,⟨⟩⟩)<|jsk<|jtn<|jsr<|
  jpc 1 rfl<|jix 1 rfl rfl rfl<|fun x2 b2 o1=>jld false oS (gk 0) rfl<|jpe (.agg #[vi 3, vs x2, .slice none 0 0])<|jal .s (.agg #[vi 0, vs [], .slice none 0 0])<|fun b3=>jso .s 1 rfl rfl rfl<|jot<|jsr<|jpc 1 rfl<|jix 2 rfl rfl rfl<|
  fun x3 b4 o2=>jld false oS (gk 0) rfl<|jpe (.agg #[vi 3, vs x3, .slice none 0 0])<|jbs .s (e := e_Formula) 82 [vi 3, vs x3, .slice none 0 0] ([fm (3, x3, ([] : List T_Formula))] : List T_Formula) (rC (vF (vP vI (vP vS (vL gn)))) rN)<|
  fun p4 c4=>jpe (.agg #[vi 4, vs [], sv p4 ([fm (3, x3, ([] : List T_Formula))] : List T_Formula) c4])<|jal .s (.agg #[vi 0, vs [], .slice none 0 0])<|fun b5=>jso .s 2 rfl rfl rfl<|jot<|jsr<|jpc 2 rfl<|jcl c_world_whole rfl ⟨⟩<|fun r4 _ k=>
  k<|jpc 1 rfl<|jot<|jsq<|jbk<|
  jjp (fun K=>K [(4, pt b1 0), (6, sv p2 x1 c2), (7, .int .u64 r2.1), (8, .int .u64 r2.2), (9, pt b3 0), (10, pt b5 0), (11, .int .u64 r4), (49, vb ((r2.1 == r4) && (r2.2 == 0)))] [bx b1 82 [vi 0, vs [], .slice none 0 0], bx b3 82 [vi 3, vs x2, .slice none 0 0], bx b5 82 [vi 4, vs [], sv p4 ([fm (3, x3, ([] : List T_Formula))] : List T_Formula) c4]] [Rl eStr p2 c2 x1, Rl e_Formula p4 c4 ([fm (3, x3, ([] : List T_Formula))] : List T_Formula)]) (
  jrg<|jpc 4 rfl<|jsp (b := r2.1 == r4) 53 rfl (fun hb1=>jpc 2 rfl<|jpe (vb (r2.2 == 0))<|jpc 1 rfl<|joe<|jup 49 (vb ((r2.1 == r4) && (r2.2 == 0))) rfl (by rw [hb1]; rfl)<|jnn (gv (fun _ k=>k) [0,1,2] ⟨gk 3,gk 0,⟨⟩⟩))<|fun hb1=>jpc 2 rfl<|
  jpe (vb false)<|jpc 1 rfl<|joe<|jup 49 (vb ((r2.1 == r4) && (r2.2 == 0))) rfl (by rw [hb1]; rfl)<|jnn (gv (fun _ k=>k) [0,1,2] ⟨gk 3,gk 0,⟨⟩⟩))<|fun _ k=>k<|jif rfl (jsr<|jla 1 3 rfl rfl rfl<|jso .s 0 rfl rfl rfl<|jot<|jxr<|jbr<|jtr<|
  jrg' rfl (lC 0 (.agg #[vi 3, vs x2, .slice none 0 0]) rfl rfl lN) (fun _ k=>k none 0) [] ⟨gn,⟨⟩⟩)<|jsr<|jpc 4 rfl<|jot<|jif rfl (jds [] [1] 6<|jda 0 1 3 rfl rfl rfl rfl<|jdc 3 [1,2] rfl<|jd1 3<|
  jca (.f rfl) [] [] ih_world_theory rfl rfl rfl ⟨ck 0,⟨⟩⟩<|fun r5 _ k p5 c5=>k<|jdn<|jd1 4<|jca (.f rfl) [] [] c_world_two rfl rfl rfl ⟨cn,ck 0,⟨⟩⟩<|fun r6 _ k p6 c6=>k<|jdn<|jd1 5<|jso (o := 0) (.f rfl) 0 rfl rfl rfl<|jdn<|jde<|jtn<|jxr<|
  jbr<|jtr<|jrg' rfl (lC 0 (.agg #[vi ((fv r6).1), vs ((fv r6).2.1), sv p6 ((fv r6).2.2) c6]) rfl rfl lN) (fun _ k=>k p6 c6) [] ⟨gk 0,⟨⟩⟩)<|
  jjp (fun K=>K [(4, pt b1 0), (6, sv p2 x1 c2), (7, .int .u64 r2.1), (8, .int .u64 r2.2), (9, pt b3 0), (10, pt b5 0), (11, .int .u64 r4), (67, vb ((r2.1 == 0) && (r2.2 == r4)))] [bx b1 82 [vi 0, vs [], .slice none 0 0], bx b3 82 [vi 3, vs x2, .slice none 0 0], bx b5 82 [vi 4, vs [], sv p4 ([fm (3, x3, ([] : List T_Formula))] : List T_Formula) c4]] [Rl eStr p2 c2 x1, Rl e_Formula p4 c4 ([fm (3, x3, ([] : List T_Formula))] : List T_Formula)]) (
  jrg<|jpc 3 rfl<|jsp (b := r2.1 == 0) 70 rfl (fun hb2=>jpc 3 rfl<|jpe (vb (r2.2 == r4))<|jpc 1 rfl<|joe<|jup 67 (vb ((r2.1 == 0) && (r2.2 == r4))) rfl (by rw [hb2]; rfl)<|jnn (gv (fun _ k=>k) [0,1,2] ⟨gk 0,gk 1,⟨⟩⟩))<|fun hb2=>jpc 3 rfl<|
  jpe (vb false)<|jpc 1 rfl<|joe<|jup 67 (vb ((r2.1 == 0) && (r2.2 == r4))) rfl (by rw [hb2]; rfl)<|jnn (gv (fun _ k=>k) [0,1,2] ⟨gk 0,gk 1,⟨⟩⟩))<|fun _ k=>k<|jif rfl (jsr<|jla 2 3 rfl rfl rfl<|jso .s 0 rfl rfl rfl<|jot<|jxr<|jbr<|jtr<|
  jrg' rfl (lC 0 (.agg #[vi 4, vs [], sv p4 ([fm (3, x3, ([] : List T_Formula))] : List T_Formula) c4]) rfl rfl lN) (fun _ k=>k p4 c4) [] ⟨gk 1,⟨⟩⟩)<|jsr<|jpc 3 rfl<|jot<|jif rfl (jds [] [2] 6<|jda 0 2 3 rfl rfl rfl rfl<|jdc 3 [1,2] rfl<|
  jd1 3<|jca (.f rfl) [] [] ih_world_theory rfl rfl rfl ⟨ck 0,⟨⟩⟩<|fun r7 _ k p7 c7=>k<|jdn<|jd1 4<|jca (.f rfl) [] [] c_world_two rfl rfl rfl ⟨ck 2,ck 0,⟨⟩⟩<|fun r8 _ k p8 c8=>k<|jdn<|jd1 5<|jso (o := 0) (.f rfl) 0 rfl rfl rfl<|jdn<|jde<|
  jtn<|jxr<|jbr<|jtr<|jrg' rfl (lC 0 (.agg #[vi ((fv r8).1), vs ((fv r8).2.1), sv p8 ((fv r8).2.2) c8]) rfl rfl lN) (fun _ k=>k p8 c8) [] ⟨gk 0,⟨⟩⟩)<|jsr<|jpc 4 rfl<|jot<|jif rfl (jds [] [2] 6<|jda 0 2 3 rfl rfl rfl rfl<|jdc 3 [1,2] rfl<|
  jd1 3<|jca (.f rfl) [] [] ih_world_theory rfl rfl rfl ⟨ck 0,⟨⟩⟩<|fun r9 _ k p9 c9=>k<|jdn<|jd1 4<|jca (.f rfl) [] [] c_world_two rfl rfl rfl ⟨ck 2,ck 0,⟨⟩⟩<|fun r10 _ k p10 c10=>k<|jdn<|jd1 5<|jso (o := 0) (.f rfl) 0 rfl rfl rfl<|jdn<|jde<|
  jtn<|jxr<|jbr<|jtr<|jrg' rfl (lC 0 (.agg #[vi ((fv r10).1), vs ((fv r10).2.1), sv p10 ((fv r10).2.2) c10]) rfl rfl lN) (fun _ k=>k p10 c10) [] ⟨gk 0,⟨⟩⟩)<|jsr<|jpc 3 rfl<|jot<|jif rfl (jds [] [1] 6<|jda 0 1 3 rfl rfl rfl rfl<|
  jdc 3 [1,2] rfl<|jd1 3<|jca (.f rfl) [] [] ih_world_theory rfl rfl rfl ⟨ck 0,⟨⟩⟩<|fun r11 _ k p11 c11=>k<|jdn<|jd1 4<|jca (.f rfl) [] [] c_world_two rfl rfl rfl ⟨cn,ck 0,⟨⟩⟩<|fun r12 _ k p12 c12=>k<|jdn<|jd1 5<|
  jso (o := 0) (.f rfl) 0 rfl rfl rfl<|jdn<|jde<|jtn<|jxr<|jbr<|jtr<|jrg' rfl (lC 0 (.agg #[vi ((fv r12).1), vs ((fv r12).2.1), sv p12 ((fv r12).2.2) c12]) rfl rfl lN) (fun _ k=>k p12 c12) [] ⟨gk 0,⟨⟩⟩)<|jsk<|jbn<|jtn<|jds [] [1, 2] 12<|
  jda 0 1 3 rfl rfl rfl rfl<|jdc 9 [1,2] rfl<|jda 5 2 3 rfl rfl rfl rfl<|jdc 6 [6,7] rfl<|jd1 3<|jca (.f rfl) [] [] ih_world_theory rfl rfl rfl ⟨ck 0,⟨⟩⟩<|fun r13 _ k p13 c13=>k<|jdn<|jd1 4<|
  jca (.f rfl) [] [] c_world_two rfl rfl rfl ⟨cn,ck 0,⟨⟩⟩<|fun r14 _ k p14 c14=>k<|jdn<|jd1 8<|jca (.f rfl) [] [] ih_world_theory rfl rfl rfl ⟨ck 2,⟨⟩⟩<|fun r15 _ k p15 c15=>k<|jdn<|jd1 9<|
  jca (.f rfl) [] [] c_world_two rfl rfl rfl ⟨ck 4,ck 0,⟨⟩⟩<|fun r16 _ k p16 c16=>k<|jdn<|jd1 10<|jca (.f rfl) [] [] c_world_two rfl rfl rfl ⟨ck 2,ck 0,⟨⟩⟩<|fun r17 _ k p17 c17=>k<|jdn<|jd1 11<|jso (o := 0) (.f rfl) 0 rfl rfl rfl<|jdn<|jde<|
  jtn<|jxr<|jrg' rfl (lC 0 (.agg #[vi ((fv r17).1), vs ((fv r17).2.1), sv p17 ((fv r17).2.2) c17]) rfl rfl lN) (fun _ k=>k p17 c17) [] ⟨gk 0,⟨⟩⟩

theorem c_world_theory {qd : Prop} {y0 : List Str} {y1 : Int} : Con qd Tryd.prog 51 [sv p1 y0 c1, .int .u64 y1] [] [Rl eStr p1 c1 y0] (m_world_theory y0 y1) fun r K=>∀ p2 c2,K (.agg #[vi ((fv r).1), vs ((fv r).2.1), sv p2 ((fv r).2.2) c2]) [] [Rl e_Formula p2 c2 ((fv r).2.2)] := conLim fun k => (k_world_theory_all k)

theorem c_world_Theory {qd : Prop} {y0 : List Str} {y1 : Int} : Con qd Tryd.prog 43 [sv p1 y0 c1, .int .u64 y1] [] [Rl eStr p1 c1 y0] (m_world_Theory y0 y1) fun r K=>∀ p2 c2,K (.tuple #[.agg #[vi ((fv r.1).1), vs ((fv r.1).2.1), sv p2 ((fv r.1).2.2) c2], vi r.2]) [] [Rl e_Formula p2 c2 ((fv r.1).2.2)] :=
 ent3 Tryd.call43 Tryd.func43 rfl fun X=>jsr<|jal .s (.agg #[vi 0, vs [], .slice none 0 0])<|fun b1=>jpc 1 rfl<|jot<|jsq<|jsr<|jpc 1 rfl<|jcl c_world_Valid rfl ⟨ck 0,⟨⟩⟩<|fun r1 _ k=>k<|jpc 1 rfl<|jot<|jif rfl (jsr<|jpe (.agg #[vi 0, vs [], .slice none 0 0])<|
  jso .s 0 rfl rfl rfl<|jpc 1 rfl<|jot<|jxr<|jtr<|jrg' rfl (lC 0 (.agg #[vi 0, vs [], .slice none 0 0]) rfl rfl (lT rfl lN)) (fun _ k=>k none 0) [] ⟨gn,⟨⟩⟩)<|jsk<|jtn<|jsr<|jpc 3 rfl<|jcl c_world_All rfl ⟨ck 0,⟨⟩⟩<|fun r2 _ k=>k<|jpc 1 rfl<|
  jcl c_world_theory rfl ⟨ck 0,⟨⟩⟩<|fun r3 _ k p2 c2=>k<|jso .s 0 rfl rfl rfl<|jpc 1 rfl<|jot<|jxr<|jrg' rfl (lC 0 (.agg #[vi ((fv r3).1), vs ((fv r3).2.1), sv p2 ((fv r3).2.2) c2]) rfl rfl (lT rfl lN)) (fun _ k=>k p2 c2) [] ⟨gk 0,⟨⟩⟩

theorem c_report_Order {y0 : T_Order} : Con False Tryd.prog 31 [.agg #[sv p1 y0.1 c1, sv p2 y0.2 c2]] [] [Rl eStr p1 c1 y0.1, Rl (eInt .i64) p2 c2 y0.2, Pt (eArr 9 eStr) 0 0 tab_formula_words] (m_report_Order y0) fun r K=>∀ p3 c3,K (sv p3 r c3) [] [Rl eStr p3 c3 r] :=
 ent3 Tryd.call31 Tryd.func31 rfl fun X=>jsr<|jbx .s rfl<|fun b1=>jpc 1 rfl<|jot<|jsr<|jpc 1 rfl<|jro eStr 9<|jot<|jsq<|jsr<|jla 0 2 rfl rfl rfl<|jcl c_order_Levels rfl ⟨ck 1,ck 2,⟨⟩⟩<|fun r1 _ k p3 c3=>k<|jpc 2 rfl<|jot<|jbk<|
  jlp (fun s1 K=>∀ p4 c4 r_1,K [(1, pt b1 0), (3, sv p4 s1.1 c4), (11, sv p3 r1 c3), (12, vi (len r1)), (13, vi s1.2)] [bx b1 66 [sv p1 y0.1 c1, sv p2 y0.2 c2], r_1] [Al eStr 9 r_1 p4 c4 s1.1, Rl (eInt .u64) p3 c3 r1, Rl eStr p1 c1 y0.1, Rl (eInt .i64) p2 c2 y0.2, Pt (eArr 9 eStr) 0 0 tab_formula_words]) (gv (fun _ k=>k none 0 []) [0,1] ⟨gk 1,gk 0,gk 2,gk 3,gk 4,⟨⟩⟩)<|
  fun s1 _ k p4 c4 r_1=>k<|jsr<|jpc 1 rfl<|jot<|jsq<|jif rfl (jsk<|jtn<|jsq<|jbk<|jsr<|jpc 1 rfl<|jix 1 rfl rfl rfl<|fun x1 b2 o1=>jld false oI (gk 0) rfl<|jpc 2 rfl<|jot<|jsr<|jfa 0 rfl<|jlo 0 rfl rfl rfl<|jpc 1 rfl<|
  jcl c_world_Theory rfl ⟨ck 3,⟨⟩⟩<|fun r2 _ k p5 c5=>k<|jpc 3 rfl<|jal .s (.agg #[vi 0, vs [], .slice none 0 0])<|fun b3=>jso .s 2 rfl rfl rfl<|jpc 1 rfl<|jot<|jsr<|jla 2 3 rfl rfl rfl<|jcl c_formula_Format rfl ⟨ck 0,ck 6,⟨⟩⟩<|fun r3 _ k=>
  k<|jpc 5 rfl<|jot<|jrg<|jpc 2 rfl<|jcl c_report_number rfl ⟨⟩<|fun r4 _ k=>k<|jbd fun x2 h1=>jv (fun h=>r_cat h rfl rfl h1)<|jpc 1 rfl<|jbd fun x3 h2=>jv (fun h=>r_cat h rfl rfl h2)<|
  jbs .s (e := eStr) 9 [vs x3] ([x3] : List Str) (rC vS rN)<|fun p6 c6=>jar .s 1 3 rfl (gk 0) rfl rfl<|fun x4 r_2 p7 c7=>jpc 1 rfl<|joe<|jbn<|jtn<|jrg<|jpc 2 rfl<|joe<|jln (gv (fun _ k=>k p7 c7 r_2) [0,1] ⟨gk 0,gk 5,gk 6,gk 7,gk 8,⟨⟩⟩))<|
  jxe<|jte<|jle<|jbh<|jtn<|jsr<|jpc 2 rfl<|jot<|jxr<|jsh 1 0 rfl rfl<|jr1 rfl rfl (fun _ k=>k p4 c4) [] ⟨gk 0,⟨⟩⟩

theorem c_law42_awake : Con False Tryd.prog 16 [] [] [Pt (eArr 9 eStr) 0 0 tab_formula_words] (m_law42_awake) fun r K=>K (vb r) [] [] :=
 ent3 Tryd.call16 Tryd.func16 rfl fun X=>jsr<|jpc 1 rfl<|jot<|jsr<|jcl c_keep_Voc rfl ⟨⟩<|fun r1 _ k p1 c1=>k<|jbs .s (e := eInt .i64) 3 [vi 2, vi 1, vi 2, vi 0] ([2, 1, 2, 0] : List Int) (rC vI (rC vI (rC vI (rC vI rN))))<|fun p2 c2=>
  jpe (.agg #[sv p1 r1 c1, sv p2 ([2, 1, 2, 0] : List Int) c2])<|jcl c_report_Order rfl ⟨ck 1,ck 0,ck 2,⟨⟩⟩<|fun r2 _ k p3 c3=>k<|jpc 1 rfl<|jot<|jds [] [] 8<|jd1 0<|jca (.f rfl) [] [] c_keep_Voc rfl rfl rfl ⟨⟩<|fun r3 _ k p4 c4=>k<|jdn<|
  jdi 1 0 rfl rfl rfl rfl<|fun x1 b1 o1=>jdl 2 false oS rfl (gk 0) rfl<|jd1 3<|jca (.f rfl) [] [] c_keep_Voc rfl rfl rfl ⟨⟩<|fun r4 _ k p5 c5=>k<|jdn<|jdi 4 0 rfl rfl rfl rfl<|fun x2 b2 o2=>jdl 5 false oS rfl (gk 0) rfl<|jdc 0 [6,7] rfl<|
  jde<|jtn<|jsr<|jpc 2 rfl<|jbd fun x3 h1=>jv (fun h=>r_cat h rfl rfl h1)<|jbd fun x4 h2=>jv (fun h=>r_cat h rfl rfl h2)<|jpc 1 rfl<|jbd fun x5 h3=>jv (fun h=>r_cat h rfl rfl h3)<|jpc 1 rfl<|jbd fun x6 h4=>jv (fun h=>r_cat h rfl rfl h4)<|
  jbd fun x7 h5=>jv (fun h=>r_cat h rfl rfl h5)<|jpc 1 rfl<|jbd fun x8 h6=>jv (fun h=>r_cat h rfl rfl h6)<|jpc 1 rfl<|jbd fun x9 h7=>jv (fun h=>r_cat h rfl rfl h7)<|
  jbs .s (e := eStr) 9 [vs x5, vs x8, vs x9] ([x5, x8, x9] : List Str) (rC vS (rC vS (rC vS rN)))<|fun p6 c6=>jcl c_ref42_Same rfl ⟨ck 5,ck 0,⟨⟩⟩<|fun r5 _ k=>k<|jpc 1 rfl<|jot<|jxr<|jr1 rfl rfl (fun _ k=>k) [] ⟨⟩

theorem c_net_Graph {qd : Prop} {y0 : T_keep_Src} {y1 : Int} : Con qd Tryd.prog 5 [pt b1 0, vi y1] [bx b1 52 [sv p1 y0.1 c1, vi y0.2]] [Rl (eInt .i64) p1 c1 y0.1] (m_net_Graph y0 y1) fun r K=>∀ p2 c2,K (.agg #[vi r.1.1, sv p2 r.1.2 c2]) [bx b1 52 [sv p1 y0.1 c1, vi r.2]] [Rl e_Pair p2 c2 r.1.2] :=
 ent3 Tryd.call5 Tryd.func5 rfl fun X=>jsr<|jal .s (.agg #[vi 0, .slice none 0 0])<|fun b2=>jot<|jsr<|jpc 2 rfl<|jca .s [0] [] c_keep_Src_Range rfl rfl rfl ⟨ck 0,⟨⟩⟩<|fun r1 _ k=>k<|jpe (.agg #[vi r1.1, .slice none 0 0])<|jro e_Pair 54<|jal .s (.agg #[vi 0, .slice none 0 0])<|
  fun b3=>jso .s 3 rfl rfl rfl<|jot<|jsr<|jpc 1 rfl<|jca .s [0] [] c_keep_Src_Range rfl rfl rfl ⟨ck 1,⟨⟩⟩<|fun r2 _ k=>k<|jpc 1 rfl<|jot<|
  jjn (fun s1 K=>∀ p2 c2 r_1,K [(4, pt b2 0), (5, pt b3 0)] [bx b1 52 [sv p1 y0.1 c1, vi s1.1], bx b2 27 [vi 0, .slice none 0 0], r_1, bx b3 27 [vi r1.1, sv p2 s1.2 c2]] [Al e_Pair 54 r_1 p2 c2 s1.2, Rl (eInt .i64) p1 c1 y0.1]) (jsr<|
  jpc 1 rfl<|jot<|jbk<|
  jlp (fun s2 K=>∀ p3 c3 r_2,K [(0, pt b1 0), (4, pt b2 0), (5, pt b3 0), (6, vi r2.1), (7, vi s2.1)] [bx b1 52 [sv p1 y0.1 c1, vi s2.2.1], bx b2 27 [vi 0, .slice none 0 0], r_2, bx b3 27 [vi r1.1, sv p3 s2.2.2 c3]] [Al e_Pair 54 r_2 p3 c3 s2.2.2, Rl (eInt .i64) p1 c1 y0.1]) (gv (fun _ k=>k none 0 []) [0,1,2,3] ⟨gk 0,gk 1,⟨⟩⟩)<|
  fun s2 _ k p3 c3 r_2=>k<|jsq<|jsr<|jpc 1 rfl<|jfa 0 rfl<|jlo 3 rfl rfl rfl<|jpc 1 rfl<|jot<|jif rfl (jsk<|jtn<|jsq<|jbk<|jsr<|jpc 1 rfl<|jot<|jbk<|
  jlp (fun s3 K=>∀ p4 c4 r_3,K [(0, pt b1 0), (4, pt b2 0), (5, pt b3 0), (6, vi r2.1), (7, vi s2.1), (8, vi s3.1)] [bx b1 52 [sv p1 y0.1 c1, vi s3.2.1], bx b2 27 [vi 0, .slice none 0 0], r_3, bx b3 27 [vi r1.1, sv p4 s3.2.2 c4]] [Al e_Pair 54 r_3 p4 c4 s3.2.2, Rl (eInt .i64) p1 c1 y0.1]) (gv (fun _ k=>k p3 c3 r_2) [0,1,2,3] ⟨gk 0,gk 1,⟨⟩⟩)<|
  fun s3 _ k p4 c4 r_3=>k<|jsq<|jsr<|jpc 1 rfl<|jfa 0 rfl<|jlo 3 rfl rfl rfl<|jpc 1 rfl<|jot<|jif rfl (jsk<|jtn<|jsq<|jbk<|jsr<|jpc 2 rfl<|jot<|
  jjn (fun s4 K=>K [(0, pt b1 0), (4, pt b2 0), (5, pt b3 0), (6, vi r2.1), (7, vi s2.1), (8, vi s3.1), (9, vi s4)] [bx b1 52 [sv p1 y0.1 c1, vi s3.2.1], bx b2 27 [vi 0, .slice none 0 0], r_3, bx b3 27 [vi r1.1, sv p4 s3.2.2 c4]] [Rl (eInt .i64) p1 c1 y0.1, Al e_Pair 54 r_3 p4 c4 s3.2.2]) (
  jsr<|jpc 3 rfl<|jot<|jif rfl (jrg<|jpc 1 rfl<|joe<|jnn (gv (fun _ k=>k) [0,1,2,3] ⟨gk 1,gk 0,⟨⟩⟩))<|jsk<|jnn (gv (fun _ k=>k) [0,1,2,3] ⟨gk 1,gk 0,⟨⟩⟩))<|fun s4 _ k=>k<|jsr<|jpc 2 rfl<|jca .s [0] [] c_keep_Src_N rfl rfl rfl ⟨ck 0,⟨⟩⟩<|
  fun r3 _ k=>k<|jpc 1 rfl<|jot<|jif rfl (jrg<|jfa 1 rfl<|jlo 3 rfl rfl rfl<|jpc 2 rfl<|jpe (.agg #[vi s2.1, vi s3.1])<|jbs .s (e := e_Pair) 54 [vi s2.1, vi s3.1] ([(s2.1, s3.1)] : List T_Pair) (rC (vP vI vI) rN)<|fun p5 c5=>
  jar .s 2 2 rfl (gk 0) rfl rfl<|fun x1 r_4 p6 c6=>jfa 1 rfl<|jso .s 3 rfl rfl rfl<|joe<|jbn<|jtn<|jrg<|jpc 3 rfl<|joe<|jln (gv (fun _ k=>k p6 c6 r_4) [0,1,2,3] ⟨gk 0,gk 2,⟨⟩⟩))<|jsk<|jbn<|jtn<|jrg<|jpc 3 rfl<|joe<|
  jln (gv (fun _ k=>k p4 c4 r_3) [0,1,2,3] ⟨gk 1,gk 0,⟨⟩⟩))<|jxe<|jte<|jle<|jbh<|jbn<|jtn<|jrg<|jpc 3 rfl<|joe<|jln (gv (fun _ k=>k p4 c4 r_3) [0,1,2,3] ⟨gk 0,gk 1,⟨⟩⟩))<|jxe<|jte<|jle<|jbh<|
  jnn (gv (fun _ k=>k p3 c3 r_2) [0,1,2,3] ⟨gk 0,gk 1,⟨⟩⟩))<|fun s1 _ k p2 c2 r_1=>k<|jsr<|jla 3 2 rfl rfl rfl<|jso .s 1 rfl rfl rfl<|jot<|jxr<|jsh 2 0 rfl rfl<|
  jrg' rfl (lC 1 (.agg #[vi r1.1, sv p2 s1.2 c2]) rfl rfl lN) (fun _ k=>k p2 c2) [0] ⟨gk 0,⟨⟩⟩

theorem c_ref27_gone {qd : Prop} {y0 : T_Dialogue} : Con qd Tryd.prog 38 [.agg #[vi y0.1.1, sv p1 y0.1.2 c1, vi y0.2.1, vi y0.2.2.1.1, vi y0.2.2.1.2, sv p2 y0.2.2.2 c2]] [] [Rl e_Pair p1 c1 y0.1.2, Rl e_Move p2 c2 y0.2.2.2] (m_ref27_gone y0) fun r K=>∀ p3 c3,K (sv p3 r c3) [] [Rl eBool p3 c3 r] :=
 ent3 Tryd.call38 Tryd.func38 rfl fun X=>jsr<|jbx .s rfl<|fun b1=>jpc 1 rfl<|jot<|jsr<|jfa 5 rfl<|jlo 0 rfl rfl rfl<|jpc 1 rfl<|jmk .s (e := eBool) 4 (false : Bool) (vb false) vB rfl rfl<|fun x1 r_1 p3 c3=>jpc 1 rfl<|jot<|jsq<|jsr<|jpc 1 rfl<|jot<|jbk<|
  jlp (fun s1 K=>∀ r_2,K [(1, pt b1 0), (3, .slice p3 (List.length x1) c3), (4, vi s1.2)] [bx b1 32 [vi y0.1.1, sv p1 y0.1.2 c1, vi y0.2.1, vi y0.2.2.1.1, vi y0.2.2.1.2, sv p2 y0.2.2.2 c2], r_2] [Ar eBool 4 r_2 p3 c3 (List.length x1) s1.1, Rl e_Pair p1 c1 y0.1.2, Rl e_Move p2 c2 y0.2.2.2]) (gv (fun _ k=>k r_1) [0,1] ⟨gk 0,gk 1,gk 2,⟨⟩⟩)<|
  fun s1 _ k r_2=>k<|jsq<|jsr<|jpc 1 rfl<|jfa 5 rfl<|jlo 0 rfl rfl rfl<|jpc 2 rfl<|jot<|jif rfl (jsk<|jtn<|jsq<|jbk<|jsr<|jfa 5 rfl<|jlo 0 rfl rfl rfl<|jpc 1 rfl<|jix 2 rfl rfl rfl<|fun x2 b2 o1=>jld true o_Move (gk 0) rfl<|
  jal .s (.agg #[vi 0, vi 0, vi 0, vi 0])<|fun b3=>jso .s 2 rfl rfl rfl<|jot<|
  jjn (fun s2 K=>∀ r_3,K [(1, pt b1 0), (3, .slice p3 (List.length x1) c3), (4, vi s1.2), (5, pt b3 0)] [bx b1 32 [vi y0.1.1, sv p1 y0.1.2 c1, vi y0.2.1, vi y0.2.2.1.1, vi y0.2.2.1.2, sv p2 y0.2.2.2 c2], r_3, bx b3 47 [vi x2.1, vi x2.2.1, vi x2.2.2.1, vi x2.2.2.2]] [Ar eBool 4 r_3 p3 c3 (List.length x1) s2, Rl e_Pair p1 c1 y0.1.2, Rl e_Move p2 c2 y0.2.2.2]) (
  jrg<|jpc 2 rfl<|jfa 1 rfl<|jlo 2 rfl rfl rfl<|jpc 2 rfl<|jsg 28 rfl (jpc 3 rfl<|jpe (vb true)<|jia 1 rfl rfl rfl<|fun x3 h1 b4 hp1=>jsA .s 1 1 sI true false rfl hp1 h1 rfl rfl vB<|fun r_4=>joe<|
  jnn (gv (fun _ k=>k r_4) [0,1,2] ⟨gk 0,gk 3,gk 4,⟨⟩⟩))<|jfa 1 rfl<|jlo 2 rfl rfl rfl<|jpc 1 rfl<|jpe (vb (x2.2.1 == 4))<|jia 1 rfl rfl rfl<|fun x4 h2 b5 hp2=>jsA .s 1 1 sI (x2.2.1 == 4) false rfl hp2 h2 rfl rfl vB<|fun r_5=>joe<|
  jnn (gv (fun _ k=>k r_5) [0,1,2] ⟨gk 0,gk 3,gk 4,⟨⟩⟩))<|fun s2 _ k r_3=>k<|
  jjn (fun s3 K=>∀ r_6,K [(1, pt b1 0), (3, .slice p3 (List.length x1) c3), (4, vi s1.2), (5, pt b3 0)] [bx b1 32 [vi y0.1.1, sv p1 y0.1.2 c1, vi y0.2.1, vi y0.2.2.1.1, vi y0.2.2.1.2, sv p2 y0.2.2.2 c2], r_6, bx b3 47 [vi x2.1, vi x2.2.1, vi x2.2.2.1, vi x2.2.2.2]] [Ar eBool 4 r_6 p3 c3 (List.length x1) s3, Rl e_Pair p1 c1 y0.1.2, Rl e_Move p2 c2 y0.2.2.2]) (
  jsr<|jpc 3 rfl<|jot<|jbk<|
  jlp (fun s4 K=>∀ r_7,K [(1, pt b1 0), (3, .slice p3 (List.length x1) c3), (4, vi s1.2), (5, pt b3 0), (6, vi s4.2)] [bx b1 32 [vi y0.1.1, sv p1 y0.1.2 c1, vi y0.2.1, vi y0.2.2.1.1, vi y0.2.2.1.2, sv p2 y0.2.2.2 c2], r_7, bx b3 47 [vi x2.1, vi x2.2.1, vi x2.2.2.1, vi x2.2.2.2]] [Ar eBool 4 r_7 p3 c3 (List.length x1) s4.1, Rl e_Pair p1 c1 y0.1.2, Rl e_Move p2 c2 y0.2.2.2]) (gv (fun _ k=>k r_3) [0,1,2] ⟨gk 0,gk 1,gk 2,⟨⟩⟩)<|
  fun s4 _ k r_7=>k<|jsq<|jsr<|jpc 1 rfl<|jfa 5 rfl<|jlo 0 rfl rfl rfl<|jpc 2 rfl<|jot<|jif rfl (jsk<|jtn<|jsq<|jbk<|
  jjc (fun s5 K=>∀ r_8,K [(1, pt b1 0), (3, .slice p3 (List.length x1) c3), (4, vi s1.2), (5, pt b3 0), (6, vi s4.2)] [bx b1 32 [vi y0.1.1, sv p1 y0.1.2 c1, vi y0.2.1, vi y0.2.2.1.1, vi y0.2.2.1.2, sv p2 y0.2.2.2 c2], r_8, bx b3 47 [vi x2.1, vi x2.2.1, vi x2.2.2.1, vi x2.2.2.2]] [Ar eBool 4 r_8 p3 c3 (List.length x1) s5, Rl e_Pair p1 c1 y0.1.2, Rl e_Move p2 c2 y0.2.2.2]) (
  jrg<|jpc 4 rfl<|jia 0 rfl rfl rfl<|fun x5 h3 b6 hp3=>jlA 1 0 sI false oB rfl hp3 h3 rfl<|jpc 1 rfl<|jsg 49 rfl (jpc 17 rfl<|jpe (vb true)<|jia 0 rfl rfl rfl<|fun x6 h4 b7 hp4=>jsA .s 1 0 sI true false rfl hp4 h4 rfl rfl vB<|fun r_9=>joe<|
  jnn (gv (fun _ k=>k r_9) [0,1,2] ⟨gk 0,gk 2,gk 3,⟨⟩⟩))<|jfa 5 rfl<|jlo 0 rfl rfl rfl<|jpc 1 rfl<|jix 2 rfl rfl rfl<|fun x7 b8 o2=>jfa 1 rfl<|jld false oI (gf (gs (gk 0))) rfl<|jpc 2 rfl<|jsg 57 rfl (jfa 5 rfl<|jlo 0 rfl rfl rfl<|jpc 1 rfl<|
  jix 3 rfl rfl rfl<|fun x8 b9 o3=>jfa 3 rfl<|jld false oI (gs (gs (gs (gk 0)))) rfl<|jpc 2 rfl<|jpe (vb (x8.2.2.2 == s1.2))<|jpe (vb (x8.2.2.2 == s1.2))<|jia 2 rfl rfl rfl<|fun x9 h5 b10 hp5=>
  jsA .s 1 2 sI (x8.2.2.2 == s1.2) false rfl hp5 h5 rfl rfl vB<|fun r_10=>joe<|jnn (gv (fun _ k=>k r_10) [0,1,2] ⟨gk 0,gk 4,gk 5,⟨⟩⟩))<|jpc 8 rfl<|jpe (vb false)<|jpe (vb false)<|jia 1 rfl rfl rfl<|fun x10 h6 b11 hp6=>
  jsA .s 1 1 sI false false rfl hp6 h6 rfl rfl vB<|fun r_11=>joe<|jnn (gv (fun _ k=>k r_11) [0,1,2] ⟨gk 0,gk 3,gk 4,⟨⟩⟩))<|fun s5 _ k r_8=>k<|jbn<|jtn<|jrg<|jpc 3 rfl<|joe<|jln (gv (fun _ k=>k r_8) [0,1,2] ⟨gk 0,gk 1,gk 2,⟨⟩⟩))<|jxe<|jte<|
  jle<|jbh<|jnn (gv (fun _ k=>k r_7) [0,1,2] ⟨gk 0,gk 1,gk 2,⟨⟩⟩))<|fun s3 _ k r_6=>k<|jsr<|jfa 1 rfl<|jlo 2 rfl rfl rfl<|jpc 1 rfl<|jot<|jif rfl (
  jjc (fun s6 K=>∀ r_12,K [(1, pt b1 0), (3, .slice p3 (List.length x1) c3), (4, vi s1.2)] [bx b1 32 [vi y0.1.1, sv p1 y0.1.2 c1, vi y0.2.1, vi y0.2.2.1.1, vi y0.2.2.1.2, sv p2 y0.2.2.2 c2], r_12, []] [Ar eBool 4 r_12 p3 c3 (List.length x1) s6, Rl e_Pair p1 c1 y0.1.2, Rl e_Move p2 c2 y0.2.2.2]) (
  jrg<|jpc 4 rfl<|jia 0 rfl rfl rfl<|fun x11 h7 b12 hp7=>jlA 1 0 sI false oB rfl hp7 h7 rfl<|jpc 1 rfl<|jsg 78 rfl (jpc 5 rfl<|jpe (vb true)<|jia 0 rfl rfl rfl<|fun x12 h8 b13 hp8=>jsA .s 1 0 sI true false rfl hp8 h8 rfl rfl vB<|fun r_13=>
  joe<|jnn (gv (fun _ k=>k r_13) [0,1,902] ⟨gk 0,gk 2,gk 3,⟨⟩⟩))<|jpc 1 rfl<|jfa 3 rfl<|jlo 2 rfl rfl rfl<|jia 0 rfl rfl rfl<|fun x13 h9 b14 hp9=>jlA 1 0 sI false oB rfl hp9 h9 rfl<|jpe (vb x13)<|jia 0 rfl rfl rfl<|fun x14 h10 b15 hp10=>
  jsA .s 1 0 sI x13 false rfl hp10 h10 rfl rfl vB<|fun r_14=>joe<|jnn (gv (fun _ k=>k r_14) [0,1,902] ⟨gk 0,gk 2,gk 3,⟨⟩⟩))<|fun s6 _ k r_12=>k<|jbn<|jtn<|jrg<|jpc 3 rfl<|joe<|jln (gv (fun _ k=>k r_12) [0,1] ⟨gk 0,gk 1,gk 2,⟨⟩⟩))<|jsk<|jbn<|
  jtn<|jrg<|jpc 3 rfl<|joe<|jln (gv (fun _ k=>k r_6) [0,1] ⟨gk 0,gk 1,gk 2,⟨⟩⟩))<|jxe<|jte<|jle<|jbh<|jtn<|jsr<|jpc 2 rfl<|jot<|jxr<|jsh 1 0 rfl rfl<|jre 0 2 rfl rfl<|jr1 rfl rfl (fun _ k=>k p3 c3) [] ⟨gk 0,⟨⟩⟩

theorem c_ref27_Status {qd : Prop} {y0 : T_Dialogue} : Con qd Tryd.prog 26 [.agg #[vi y0.1.1, sv p1 y0.1.2 c1, vi y0.2.1, vi y0.2.2.1.1, vi y0.2.2.1.2, sv p2 y0.2.2.2 c2]] [] [Rl e_Pair p1 c1 y0.1.2, Rl e_Move p2 c2 y0.2.2.2] (m_ref27_Status y0) fun r K=>∀ p3 c3,K (sv p3 r c3) [] [Rl (eInt .i64) p3 c3 r] :=
 ent3 Tryd.call26 Tryd.func26 rfl fun X=>jsr<|jbx .s rfl<|fun b1=>jpc 1 rfl<|jot<|jsr<|jla 0 6 rfl rfl rfl<|jcl c_ref27_gone rfl ⟨ck 0,ck 1,⟨⟩⟩<|fun r1 _ k p3 c3=>k<|jpc 1 rfl<|jot<|jsr<|jfa 5 rfl<|jlo 0 rfl rfl rfl<|jpc 1 rfl<|
  jmk .s (e := eInt .i64) 3 (0 : Int) (vi 0) vI rfl rfl<|fun x1 r_1 p4 c4=>jpc 1 rfl<|jot<|jsq<|jsr<|jfa 5 rfl<|jlo 0 rfl rfl rfl<|jpc 3 rfl<|jot<|jbk<|
  jlp (fun s1 K=>∀ r_2,K [(1, pt b1 0), (3, sv p3 r1 c3), (4, .slice p4 (List.length x1) c4), (5, vi s1.2)] [bx b1 32 [vi y0.1.1, sv p1 y0.1.2 c1, vi y0.2.1, vi y0.2.2.1.1, vi y0.2.2.1.2, sv p2 y0.2.2.2 c2], r_2] [Ar (eInt .i64) 3 r_2 p4 c4 (List.length x1) s1.1, Rl eBool p3 c3 r1, Rl e_Pair p1 c1 y0.1.2, Rl e_Move p2 c2 y0.2.2.2]) (gv (fun _ k=>k r_1) [0,1] ⟨gk 0,gk 1,gk 2,gk 3,⟨⟩⟩)<|
  fun s1 _ k r_2=>k<|jsq<|jsr<|jpc 2 rfl<|jot<|jif rfl (jsk<|jtn<|jsq<|jbk<|jsq<|jsr<|jpc 2 rfl<|jix 1 rfl rfl rfl<|fun x2 b2 o1=>jld false oB (gk 0) rfl<|jot<|jif rfl (jxe<|jte<|jbh<|jtn<|jrg<|jpc 3 rfl<|joe<|
  jln (gv (fun _ k=>k r_2) [0,1] ⟨gk 1,gk 2,gk 3,gk 4,⟨⟩⟩))<|jsk<|jtn<|jsr<|jpc 2 rfl<|jia 1 rfl rfl rfl<|fun x3 h1 b3 hp1=>jsA .s 1 1 sI 1 false rfl hp1 h1 rfl rfl vI<|fun r_3=>jot<|jsr<|jpc 3 rfl<|jot<|jbk<|
  jlp (fun s2 K=>∀ r_4,K [(1, pt b1 0), (3, sv p3 r1 c3), (4, .slice p4 (List.length x1) c4), (5, vi s1.2), (6, vi s2.2)] [bx b1 32 [vi y0.1.1, sv p1 y0.1.2 c1, vi y0.2.1, vi y0.2.2.1.1, vi y0.2.2.1.2, sv p2 y0.2.2.2 c2], r_4] [Ar (eInt .i64) 3 r_4 p4 c4 (List.length x1) s2.1, Rl eBool p3 c3 r1, Rl e_Pair p1 c1 y0.1.2, Rl e_Move p2 c2 y0.2.2.2]) (gv (fun _ k=>k r_3) [0,1] ⟨gk 0,gk 3,gk 4,gk 5,⟨⟩⟩)<|
  fun s2 _ k r_4=>k<|jsq<|jsr<|jpc 1 rfl<|jfa 5 rfl<|jlo 0 rfl rfl rfl<|jpc 2 rfl<|jot<|jif rfl (jsk<|jtn<|jsq<|jbk<|
  jjn (fun s3 K=>K [(1, pt b1 0), (3, sv p3 r1 c3), (4, .slice p4 (List.length x1) c4), (5, vi s1.2), (6, vi s2.2), (60, vb s3)] [bx b1 32 [vi y0.1.1, sv p1 y0.1.2 c1, vi y0.2.1, vi y0.2.2.1.1, vi y0.2.2.1.2, sv p2 y0.2.2.2 c2], r_4] [Rl eBool p3 c3 r1, Ar (eInt .i64) 3 r_4 p4 c4 (List.length x1) s2.1, Rl e_Pair p1 c1 y0.1.2, Rl e_Move p2 c2 y0.2.2.2]) (
  jrg<|jfa 5 rfl<|jlo 0 rfl rfl rfl<|jpc 1 rfl<|jix 3 rfl rfl rfl<|fun x4 b4 o2=>jfa 1 rfl<|jld false oI (gf (gs (gk 0))) rfl<|jpc 2 rfl<|jsg 44 rfl (jfa 5 rfl<|jlo 0 rfl rfl rfl<|jpc 1 rfl<|jix 4 rfl rfl rfl<|fun x5 b5 o3=>jfa 3 rfl<|
  jld false oI (gs (gs (gs (gk 0)))) rfl<|jpc 2 rfl<|jpe (vb (x5.2.2.2 == s1.2))<|jpc 1 rfl<|jsg 54 rfl (jpc 2 rfl<|jia 2 rfl rfl rfl<|fun x6 h2 b6 hp2=>jlA 1 2 sI false oI rfl hp2 h2 rfl<|jpc 1 rfl<|jpe (vb (x6 == 1))<|joe<|
  jnn (gv (fun _ k=>k) [0,1] ⟨gk 3,gk 2,gk 4,gk 5,⟨⟩⟩))<|jpc 5 rfl<|jpe (vb false)<|joe<|jnn (gv (fun _ k=>k) [0,1] ⟨gk 3,gk 2,gk 4,gk 5,⟨⟩⟩))<|jpc 8 rfl<|jpe (vb false)<|jpc 6 rfl<|jpe (vb false)<|joe<|
  jnn (gv (fun _ k=>k) [0,1] ⟨gk 2,gk 1,gk 3,gk 4,⟨⟩⟩))<|fun s3 _ k=>k<|jif rfl (jrg<|jpc 2 rfl<|jia 1 rfl rfl rfl<|fun x7 h3 b7 hp3=>jsA .s 1 1 sI 2 false rfl hp3 h3 rfl rfl vI<|fun r_5=>joe<|jbn<|jtn<|jrg<|jpc 3 rfl<|joe<|
  jln (gv (fun _ k=>k r_5) [0,1] ⟨gk 0,gk 1,gk 3,gk 4,⟨⟩⟩))<|jsk<|jbn<|jtn<|jrg<|jpc 3 rfl<|joe<|jln (gv (fun _ k=>k r_4) [0,1] ⟨gk 1,gk 0,gk 2,gk 3,⟨⟩⟩))<|jxe<|jte<|jle<|jbh<|jbn<|jtn<|jrg<|jpc 3 rfl<|joe<|
  jln (gv (fun _ k=>k r_4) [0,1] ⟨gk 0,gk 1,gk 2,gk 3,⟨⟩⟩))<|jxe<|jte<|jle<|jbh<|jtn<|jsr<|jpc 2 rfl<|jot<|jxr<|jsh 1 0 rfl rfl<|jre 0 2 rfl rfl<|jr1 rfl rfl (fun _ k=>k p4 c4) [] ⟨gk 0,⟨⟩⟩

theorem c_net_Has {qd : Prop} {y0 : T_Graph} {y1 : Int} {y2 : Int} : Con qd Tryd.prog 40 [.agg #[vi y0.1, sv p1 y0.2 c1], vi y1, vi y2] [] [Rl e_Pair p1 c1 y0.2] (m_net_Has y0 y1 y2) fun r K=>K (vb r) [] [] :=
 ent3 Tryd.call40 Tryd.func40 rfl fun X=>jsr<|jbx .s rfl<|fun b1=>jpc 1 rfl<|jot<|jsq<|jsr<|jpc 1 rfl<|jot<|jbk<|jlp (fun s1 K=>K [(1, vi y1), (2, vi y2), (3, pt b1 0), (7, vi s1)] [bx b1 27 [vi y0.1, sv p1 y0.2 c1]] [Rl e_Pair p1 c1 y0.2]) (gv (fun _ k=>k) [0] ⟨gk 0,⟨⟩⟩)<|
  fun s1 _ k=>k<|jsq<|jsr<|jpc 1 rfl<|jfa 1 rfl<|jlo 0 rfl rfl rfl<|jpc 2 rfl<|jot<|jif rfl (jsk<|jtn<|jsq<|jbk<|
  jjn (fun s2 K=>K [(1, vi y1), (2, vi y2), (3, pt b1 0), (7, vi s1), (32, vb s2)] [bx b1 27 [vi y0.1, sv p1 y0.2 c1]] [Rl e_Pair p1 c1 y0.2]) (jrg<|jfa 1 rfl<|jlo 0 rfl rfl rfl<|jpc 1 rfl<|jix 0 rfl rfl rfl<|fun x1 b2 o1=>jfa 0 rfl<|
  jld false oI (gf (gk 0)) rfl<|jpc 3 rfl<|jsg 23 rfl (jfa 1 rfl<|jlo 0 rfl rfl rfl<|jpc 1 rfl<|jix 1 rfl rfl rfl<|fun x2 b3 o2=>jfa 1 rfl<|jld false oI (gs (gk 0)) rfl<|jpc 2 rfl<|jpe (vb (x2.2 == y2))<|joe<|
  jnn (gv (fun _ k=>k) [0] ⟨gk 2,⟨⟩⟩))<|jpc 8 rfl<|jpe (vb false)<|joe<|jnn (gv (fun _ k=>k) [0] ⟨gk 1,⟨⟩⟩))<|fun s2 _ k=>k<|jif rfl (jsr<|jpc 1 rfl<|jot<|jxr<|jbr<|jtr<|jlr<|jbr<|jtr<|jr1 rfl rfl (fun _ k=>k) [] ⟨⟩)<|jsk<|jbn<|jtn<|jrg<|
  jpc 3 rfl<|joe<|jln (gv (fun _ k=>k) [0] ⟨gk 0,⟨⟩⟩))<|jxe<|jte<|jle<|jbh<|jtn<|jsr<|jpc 1 rfl<|jot<|jxr<|jr1 rfl rfl (fun _ k=>k) [] ⟨⟩

theorem c_net_In {qd : Prop} {y0 : List Int} {y1 : Int} : Con qd Tryd.prog 47 [sv p1 y0 c1, vi y1] [] [Rl (eInt .i64) p1 c1 y0] (m_net_In y0 y1) fun r K=>K (vb r) [] [] :=
 ent3 Tryd.call47 Tryd.func47 rfl fun X=>jsr<|jpc 1 rfl<|jot<|jsq<|jsr<|jpc 1 rfl<|jot<|jbk<|jlp (fun s1 K=>K [(0, sv p1 y0 c1), (1, vi y1), (5, vi s1)] [] [Rl (eInt .i64) p1 c1 y0]) (gv (fun _ k=>k) [] ⟨gk 0,⟨⟩⟩)<|fun s1 _ k=>k<|jsq<|jsr<|jpc 4 rfl<|jot<|jif rfl (jsk<|jtn<|jsq<|
  jbk<|jsr<|jpc 2 rfl<|jix 0 rfl rfl rfl<|fun x1 b1 o1=>jld false oI (gk 0) rfl<|jpc 2 rfl<|jot<|jif rfl (jsr<|jpc 1 rfl<|jot<|jxr<|jbr<|jtr<|jlr<|jbr<|jtr<|jr1 rfl rfl (fun _ k=>k) [] ⟨⟩)<|jsk<|jbn<|jtn<|jrg<|jpc 3 rfl<|joe<|
  jln (gv (fun _ k=>k) [] ⟨gk 1,⟨⟩⟩))<|jxe<|jte<|jle<|jbh<|jtn<|jsr<|jpc 1 rfl<|jot<|jxr<|jr1 rfl rfl (fun _ k=>k) [] ⟨⟩

theorem c_ref27_leader {qd : Prop} {y0 : List Int} : Con qd Tryd.prog 29 [sv p1 y0 c1] [] [Rl (eInt .i64) p1 c1 y0] (m_ref27_leader y0) fun r K=>K (vi r) [] [] :=
 ent3 Tryd.call29 Tryd.func29 rfl fun X=>jsr<|jpc 1 rfl<|jot<|jsq<|jsr<|jpc 1 rfl<|jix 0 rfl rfl rfl<|fun x1 b1 o1=>jld false oI (gk 0) rfl<|jpc 1 rfl<|jot<|jif rfl (jsr<|jpc 1 rfl<|jot<|jxr<|jtr<|jr1 rfl rfl (fun _ k=>k) [] ⟨⟩)<|jsk<|jtn<|jsr<|jpc 1 rfl<|jot<|jxr<|
  jr1 rfl rfl (fun _ k=>k) [] ⟨⟩

theorem c_ref27_Leading {qd : Prop} {y0 : T_Dialogue} : Con qd Tryd.prog 39 [.agg #[vi y0.1.1, sv p1 y0.1.2 c1, vi y0.2.1, vi y0.2.2.1.1, vi y0.2.2.1.2, sv p2 y0.2.2.2 c2]] [] [Rl e_Pair p1 c1 y0.1.2, Rl e_Move p2 c2 y0.2.2.2] (m_ref27_Leading y0) fun r K=>∀ p3 c3,K (sv p3 r c3) [] [Rl (eInt .i64) p3 c3 r] :=
 ent3 Tryd.call39 Tryd.func39 rfl fun X=>jsr<|jbx .s rfl<|fun b1=>jpc 1 rfl<|jot<|jsr<|jla 0 6 rfl rfl rfl<|jcl c_ref27_Status rfl ⟨ck 0,ck 1,⟨⟩⟩<|fun r1 _ k p3 c3=>k<|jpc 1 rfl<|jot<|jsr<|jbo .s (e := eInt .i64) 3 [vi 0] ([0] : List Int) (rC vI rN)<|fun r_1 p4 c4=>jpc 1 rfl<|
  jot<|jsq<|jsr<|jpc 1 rfl<|jot<|jbk<|
  jlp (fun s1 K=>∀ p5 c5 r_2,K [(1, pt b1 0), (3, sv p3 r1 c3), (4, sv p5 s1.1 c5), (5, vi s1.2)] [bx b1 32 [vi y0.1.1, sv p1 y0.1.2 c1, vi y0.2.1, vi y0.2.2.1.1, vi y0.2.2.1.2, sv p2 y0.2.2.2 c2], r_2] [Al (eInt .i64) 3 r_2 p5 c5 s1.1, Rl (eInt .i64) p3 c3 r1, Rl e_Pair p1 c1 y0.1.2, Rl e_Move p2 c2 y0.2.2.2]) (gv (fun _ k=>k p4 c4 r_1) [0,1] ⟨gk 0,gk 1,gk 2,gk 3,⟨⟩⟩)<|
  fun s1 _ k p5 c5 r_2=>k<|jsq<|jsr<|jpc 1 rfl<|jfa 5 rfl<|jlo 0 rfl rfl rfl<|jpc 2 rfl<|jot<|jif rfl (jsk<|jtn<|jsq<|jbk<|jsr<|jfa 5 rfl<|jlo 0 rfl rfl rfl<|jpc 1 rfl<|jix 3 rfl rfl rfl<|fun x1 b2 o1=>jld true o_Move (gk 0) rfl<|
  jal .s (.agg #[vi 0, vi 0, vi 0, vi 0])<|fun b3=>jso .s 2 rfl rfl rfl<|jot<|jsq<|
  jjn (fun s2 K=>K [(1, pt b1 0), (3, sv p3 r1 c3), (4, sv p5 s1.1 c5), (5, vi s1.2), (6, pt b3 0), (33, vb s2)] [bx b1 32 [vi y0.1.1, sv p1 y0.1.2 c1, vi y0.2.1, vi y0.2.2.1.1, vi y0.2.2.1.2, sv p2 y0.2.2.2 c2], r_2, bx b3 47 [vi x1.1, vi x1.2.1, vi x1.2.2.1, vi x1.2.2.2]] [Rl (eInt .i64) p3 c3 r1, Al (eInt .i64) 3 r_2 p5 c5 s1.1, Rl e_Pair p1 c1 y0.1.2, Rl e_Move p2 c2 y0.2.2.2]) (
  jrg<|jpc 2 rfl<|jix 2 rfl rfl rfl<|fun x2 b4 o2=>jld false oI (gk 0) rfl<|jpc 2 rfl<|jsg 27 rfl (jpc 5 rfl<|jpe (vb true)<|joe<|jnn (gv (fun _ k=>k) [0,1,2] ⟨gk 3,gk 2,gk 4,gk 5,⟨⟩⟩))<|jpc 1 rfl<|jfa 3 rfl<|jlo 2 rfl rfl rfl<|
  jca .s [] [1] c_net_In rfl rfl rfl ⟨cl 1 2,⟨⟩⟩<|fun r2 _ k=>k<|jpc 1 rfl<|jpe (vb (!r2))<|joe<|jnn (gv (fun _ k=>k) [0,1,2] ⟨gk 3,gk 2,gk 4,gk 5,⟨⟩⟩))<|fun s2 _ k=>k<|jif rfl (jxe<|jte<|jbh<|jtn<|jrg<|jpc 3 rfl<|joe<|
  jln (gv (fun _ k=>k p5 c5 r_2) [0,1] ⟨gk 1,gk 0,gk 2,gk 3,⟨⟩⟩))<|jsk<|jtn<|
  jjn (fun s3 K=>K [(1, pt b1 0), (3, sv p3 r1 c3), (4, sv p5 s1.1 c5), (5, vi s1.2), (50, vb s3)] [bx b1 32 [vi y0.1.1, sv p1 y0.1.2 c1, vi y0.2.1, vi y0.2.2.1.1, vi y0.2.2.1.2, sv p2 y0.2.2.2 c2], r_2, []] [Rl (eInt .i64) p3 c3 r1, Al (eInt .i64) 3 r_2 p5 c5 s1.1, Rl e_Pair p1 c1 y0.1.2, Rl e_Move p2 c2 y0.2.2.2]) (
  jdS [] [0, 2] 17<|jdf 0 5 rfl rfl<|jdo 1 0 rfl rfl rfl rfl<|jdf 2 3 rfl rfl<|jdo 3 2 rfl rfl rfl rfl<|jdi 4 3 rfl rfl rfl rfl<|fun x3 b5 o3=>jdf 5 0 rfl rfl<|jdl 6 false oI rfl (gf (gk 0)) rfl<|jdc 9 [7] rfl<|jd1 8<|
  jca (.f rfl) [] [] c_ref27_leader rfl rfl rfl ⟨ck 1,⟨⟩⟩<|fun r3 _ k=>k<|jdn<|jdc 6 [9,10] rfl<|jsg 44 rfl (jdc 1 [11,12,13,14,15] rfl<|jdp 16 (vb true) rfl<|jde<|jnn (gv (fun _ k=>k) [0,1,902] ⟨gk 1,gk 2,gk 3,gk 4,⟨⟩⟩))<|jdc 4 [11,12] rfl<|
  jdi 13 1 rfl rfl rfl rfl<|fun x4 b6 o4=>jdl 14 false oI rfl (gk 0) rfl<|jdc 1 [15] rfl<|jdp 16 (vb (x4 == 1)) rfl<|jde<|jnn (gv (fun _ k=>k) [0,1,902] ⟨gk 2,gk 3,gk 4,gk 5,⟨⟩⟩))<|fun s3 _ k=>k<|jif rfl (jrg<|jpc 2 rfl<|
  jbs .s (e := eInt .i64) 3 [vi s1.2] ([s1.2] : List Int) (rC vI rN)<|fun p6 c6=>jar .s 1 2 rfl (gk 0) rfl rfl<|fun x5 r_3 p7 c7=>jpc 1 rfl<|joe<|jbn<|jtn<|jrg<|jpc 3 rfl<|joe<|jln (gv (fun _ k=>k p7 c7 r_3) [0,1] ⟨gk 0,gk 2,gk 4,gk 5,⟨⟩⟩))<|
  jsk<|jbn<|jtn<|jrg<|jpc 3 rfl<|joe<|jln (gv (fun _ k=>k p5 c5 r_2) [0,1] ⟨gk 1,gk 0,gk 2,gk 3,⟨⟩⟩))<|jxe<|jte<|jle<|jbh<|jtn<|jsr<|jpc 2 rfl<|jot<|jxr<|jsh 1 0 rfl rfl<|jr1 rfl rfl (fun _ k=>k p5 c5) [] ⟨gk 0,⟨⟩⟩

theorem c_ref27_repeated {qd : Prop} {y0 : T_Dialogue} {y1 : Int} {y2 : Int} : Con qd Tryd.prog 41 [.agg #[vi y0.1.1, sv p1 y0.1.2 c1, vi y0.2.1, vi y0.2.2.1.1, vi y0.2.2.1.2, sv p2 y0.2.2.2 c2], vi y1, vi y2] [] [Rl e_Pair p1 c1 y0.1.2, Rl e_Move p2 c2 y0.2.2.2] (m_ref27_repeated y0 y1 y2) fun r K=>K (vb r) [] [] :=
 ent3 Tryd.call41 Tryd.func41 rfl fun X=>jsr<|jbx .s rfl<|fun b1=>jpc 1 rfl<|jot<|jjo (fun s1 K=>K [(2, vi y2), (3, pt b1 0)] [bx b1 32 [vi y0.1.1, sv p1 y0.1.2 c1, vi y0.2.1, vi y0.2.2.1.1, vi y0.2.2.1.2, sv p2 y0.2.2.2 c2]] [Rl e_Pair p1 c1 y0.1.2, Rl e_Move p2 c2 y0.2.2.2]) (
  jbk<|
  jlp (fun s2 K=>K [(1, vi s2), (2, vi y2), (3, pt b1 0)] [bx b1 32 [vi y0.1.1, sv p1 y0.1.2 c1, vi y0.2.1, vi y0.2.2.1.1, vi y0.2.2.1.2, sv p2 y0.2.2.2 c2]] [Rl e_Pair p1 c1 y0.1.2, Rl e_Move p2 c2 y0.2.2.2]) (gv (fun _ k=>k) [0] ⟨gk 0,gk 1,⟨⟩⟩)<|
  fun s2 _ k=>k<|jsq<|jsr<|jpc 2 rfl<|jot<|jif rfl (jsk<|jtn<|jbk<|jsq<|
  jjn (fun s3 K=>K [(1, vi s2), (2, vi y2), (3, pt b1 0), (25, vb s3)] [bx b1 32 [vi y0.1.1, sv p1 y0.1.2 c1, vi y0.2.1, vi y0.2.2.1.1, vi y0.2.2.1.2, sv p2 y0.2.2.2 c2]] [Rl e_Pair p1 c1 y0.1.2, Rl e_Move p2 c2 y0.2.2.2]) (jrg<|jfa 5 rfl<|
  jlo 0 rfl rfl rfl<|jpc 1 rfl<|jix 1 rfl rfl rfl<|fun x1 b2 o1=>jfa 0 rfl<|jld false oI (gf (gk 0)) rfl<|jpc 2 rfl<|jsg 16 rfl (jfa 5 rfl<|jlo 0 rfl rfl rfl<|jpc 1 rfl<|jix 2 rfl rfl rfl<|fun x2 b3 o2=>jfa 2 rfl<|
  jld false oI (gf (gs (gs (gk 0)))) rfl<|jpc 2 rfl<|jpe (vb (x2.2.2.1 == y2))<|joe<|jnn (gv (fun _ k=>k) [0] ⟨gk 2,gk 3,⟨⟩⟩))<|jpc 8 rfl<|jpe (vb false)<|joe<|jnn (gv (fun _ k=>k) [0] ⟨gk 1,gk 2,⟨⟩⟩))<|fun s3 _ k=>k<|jif rfl (jsr<|
  jpc 1 rfl<|jot<|jxr<|jtr<|jbr<|jlr<|jbr<|jlr<|jr1 rfl rfl (fun _ k=>k) [] ⟨⟩)<|jsk<|jtn<|jrg<|jfa 5 rfl<|jlo 0 rfl rfl rfl<|jpc 1 rfl<|jix 1 rfl rfl rfl<|fun x3 b4 o3=>jfa 3 rfl<|jld false oI (gs (gs (gs (gk 0)))) rfl<|jpc 1 rfl<|joe<|jbn<|
  jln (gv (fun _ k=>k) [0] ⟨gk 1,gk 2,⟨⟩⟩))<|jxe<|jte<|jle<|jbh<|jln (gv (fun _ k=>k) [0] ⟨gk 0,gk 1,⟨⟩⟩))<|fun s1 _ k=>k<|jsr<|jfa 5 rfl<|jlo 0 rfl rfl rfl<|jix 1 rfl rfl rfl<|fun x4 b5 o4=>jfa 2 rfl<|jld false oI (gf (gs (gs (gk 0)))) rfl<|
  jpc 3 rfl<|jot<|jxr<|jr1 rfl rfl (fun _ k=>k) [] ⟨⟩

theorem c_ref27_attacks {qd : Prop} {y0 : T_Dialogue} : Con qd Tryd.prog 30 [.agg #[vi y0.1.1, sv p1 y0.1.2 c1, vi y0.2.1, vi y0.2.2.1.1, vi y0.2.2.1.2, sv p2 y0.2.2.2 c2]] [] [Rl e_Pair p1 c1 y0.1.2, Rl e_Move p2 c2 y0.2.2.2] (m_ref27_attacks y0) fun r K=>∀ p3 c3,K (sv p3 r c3) [] [Rl e_Move p3 c3 r] :=
 ent3 Tryd.call30 Tryd.func30 rfl fun X=>jsr<|jbx .s rfl<|fun b1=>jpc 1 rfl<|jot<|jsr<|jla 0 6 rfl rfl rfl<|jcl c_ref27_Status rfl ⟨ck 0,ck 1,⟨⟩⟩<|fun r1 _ k p3 c3=>k<|jpc 1 rfl<|jot<|jsr<|jpc 1 rfl<|jcl c_ref27_leader rfl ⟨ck 0,⟨⟩⟩<|fun r2 _ k=>k<|jpc 2 rfl<|jot<|jsr<|jpc 1 rfl<|
  jro e_Move 47<|jot<|jsq<|jsr<|jla 0 6 rfl rfl rfl<|jcl c_ref27_Leading rfl ⟨ck 2,ck 3,⟨⟩⟩<|fun r3 _ k p4 c4=>k<|jpc 2 rfl<|jot<|jbk<|
  jlp (fun s1 K=>∀ p5 c5 r_1,K [(1, pt b1 0), (4, vi (w64 ((3 : Int) - r2))), (5, sv p5 s1.1 c5), (17, sv p4 r3 c4), (18, vi (len r3)), (19, vi s1.2)] [bx b1 32 [vi y0.1.1, sv p1 y0.1.2 c1, vi y0.2.1, vi y0.2.2.1.1, vi y0.2.2.1.2, sv p2 y0.2.2.2 c2], r_1] [Al e_Move 47 r_1 p5 c5 s1.1, Rl (eInt .i64) p4 c4 r3, Rl e_Pair p1 c1 y0.1.2, Rl e_Move p2 c2 y0.2.2.2]) (gv (fun _ k=>k none 0 []) [0,1] ⟨gk 1,gk 0,gk 3,gk 4,⟨⟩⟩)<|
  fun s1 _ k p5 c5 r_1=>k<|jsr<|jpc 1 rfl<|jot<|jsq<|jif rfl (jsk<|jtn<|jsq<|jbk<|jsr<|jix 1 rfl rfl rfl<|fun x1 b2 o1=>jld false oI (gk 0) rfl<|jpc 1 rfl<|jot<|jsq<|jsr<|jfa 5 rfl<|jlo 0 rfl rfl rfl<|jpc 1 rfl<|jix 4 rfl rfl rfl<|
  fun x2 b3 o2=>jfa 0 rfl<|jld false oI (gf (gk 0)) rfl<|jpc 2 rfl<|jot<|jif rfl (jxe<|jte<|jbh<|jtn<|jrg<|jpc 2 rfl<|joe<|jln (gv (fun _ k=>k p5 c5 r_1) [0,1] ⟨gk 2,gk 3,gk 4,gk 5,⟨⟩⟩))<|jsk<|jtn<|jsr<|jpc 1 rfl<|jot<|jbk<|
  jlp (fun s2 K=>∀ p6 c6 r_2,K [(1, pt b1 0), (4, vi (w64 ((3 : Int) - r2))), (5, sv p6 s2.1 c6), (7, vi x1), (8, vi s2.2), (17, sv p4 r3 c4), (18, vi (len r3)), (19, vi s1.2)] [bx b1 32 [vi y0.1.1, sv p1 y0.1.2 c1, vi y0.2.1, vi y0.2.2.1.1, vi y0.2.2.1.2, sv p2 y0.2.2.2 c2], r_2] [Al e_Move 47 r_2 p6 c6 s2.1, Rl (eInt .i64) p4 c4 r3, Rl e_Pair p1 c1 y0.1.2, Rl e_Move p2 c2 y0.2.2.2]) (gv (fun _ k=>k p5 c5 r_1) [0,1] ⟨gk 2,gk 3,gk 4,gk 5,⟨⟩⟩)<|
  fun s2 _ k p6 c6 r_2=>k<|jsq<|jsr<|jpc 1 rfl<|jfa 0 rfl<|jfa 0 rfl<|jlo 0 rfl rfl rfl<|jpc 1 rfl<|jot<|jif rfl (jsk<|jtn<|jsq<|jbk<|jds [] [0] 11<|jdf 0 0 rfl rfl<|jda 1 0 2 rfl rfl rfl rfl<|jdc 8 [2] rfl<|jdf 3 5 rfl rfl<|
  jdo 4 0 rfl rfl rfl rfl<|jdc 5 [5] rfl<|jdi 6 3 rfl rfl rfl rfl<|fun x3 b4 o3=>jdf 7 2 rfl rfl<|jdl 8 false oI rfl (gf (gs (gs (gk 0)))) rfl<|jd1 9<|jca (.f rfl) [] [] c_net_Has rfl rfl rfl ⟨ck 3,⟨⟩⟩<|fun r4 _ k=>k<|jdn<|jdc 0 [10] rfl<|
  jde<|jtn<|
  jjn (fun s3 K=>K [(1, pt b1 0), (4, vi (w64 ((3 : Int) - r2))), (5, sv p6 s2.1 c6), (7, vi x1), (8, vi s2.2), (9, vb s3), (17, sv p4 r3 c4), (18, vi (len r3)), (19, vi s1.2)] [bx b1 32 [vi y0.1.1, sv p1 y0.1.2 c1, vi y0.2.1, vi y0.2.2.1.1, vi y0.2.2.1.2, sv p2 y0.2.2.2 c2], r_2] [Al e_Move 47 r_2 p6 c6 s2.1, Rl (eInt .i64) p4 c4 r3, Rl e_Pair p1 c1 y0.1.2, Rl e_Move p2 c2 y0.2.2.2]) (
  jsr<|jpc 1 rfl<|jot<|jbk<|
  jlp (fun s4 K=>K [(1, pt b1 0), (4, vi (w64 ((3 : Int) - r2))), (5, sv p6 s2.1 c6), (7, vi x1), (8, vi s2.2), (9, vb s4.1), (10, vi s4.2), (17, sv p4 r3 c4), (18, vi (len r3)), (19, vi s1.2)] [bx b1 32 [vi y0.1.1, sv p1 y0.1.2 c1, vi y0.2.1, vi y0.2.2.1.1, vi y0.2.2.1.2, sv p2 y0.2.2.2 c2], r_2] [Al e_Move 47 r_2 p6 c6 s2.1, Rl (eInt .i64) p4 c4 r3, Rl e_Pair p1 c1 y0.1.2, Rl e_Move p2 c2 y0.2.2.2]) (gv (fun _ k=>k) [0,1] ⟨gk 1,gk 2,gk 3,gk 4,⟨⟩⟩)<|
  fun s4 _ k=>k<|jsq<|jsr<|jpc 1 rfl<|jfa 5 rfl<|jlo 0 rfl rfl rfl<|jpc 2 rfl<|jot<|jif rfl (jsk<|jtn<|jsq<|jbk<|
  jjc (fun s5 K=>K [(1, pt b1 0), (4, vi (w64 ((3 : Int) - r2))), (5, sv p6 s2.1 c6), (7, vi x1), (8, vi s2.2), (9, vb s5), (10, vi s4.2), (17, sv p4 r3 c4), (18, vi (len r3)), (19, vi s1.2)] [bx b1 32 [vi y0.1.1, sv p1 y0.1.2 c1, vi y0.2.1, vi y0.2.2.1.1, vi y0.2.2.1.2, sv p2 y0.2.2.2 c2], r_2] [Al e_Move 47 r_2 p6 c6 s2.1, Rl (eInt .i64) p4 c4 r3, Rl e_Pair p1 c1 y0.1.2, Rl e_Move p2 c2 y0.2.2.2]) (
  jrg<|jpc 2 rfl<|jsg 56 rfl (jfa 5 rfl<|jlo 0 rfl rfl rfl<|jpc 1 rfl<|jix 3 rfl rfl rfl<|fun x4 b5 o4=>jfa 1 rfl<|jld false oI (gf (gs (gk 0))) rfl<|jpc 2 rfl<|jsg 64 rfl (jfa 5 rfl<|jlo 0 rfl rfl rfl<|jpc 1 rfl<|jix 4 rfl rfl rfl<|
  fun x5 b6 o5=>jfa 3 rfl<|jld false oI (gs (gs (gs (gk 0)))) rfl<|jpc 2 rfl<|jpe (vb (x5.2.2.2 == x1))<|jpc 1 rfl<|jsg 74 rfl (jfa 5 rfl<|jlo 0 rfl rfl rfl<|jpc 1 rfl<|jix 5 rfl rfl rfl<|fun x6 b7 o6=>jfa 2 rfl<|
  jld false oI (gf (gs (gs (gk 0)))) rfl<|jpc 2 rfl<|jpe (vb (x6.2.2.1 == s2.2))<|jpc 1 rfl<|jpe (vb (!(x6.2.2.1 == s2.2)))<|jpc 1 rfl<|joe<|jnn (gv (fun _ k=>k) [0,1] ⟨gk 3,gk 4,gk 5,gk 6,⟨⟩⟩))<|jpc 8 rfl<|jpe (vb false)<|jpc 1 rfl<|
  jpe (vb (!false))<|jpc 1 rfl<|joe<|jnn (gv (fun _ k=>k) [0,1] ⟨gk 2,gk 3,gk 4,gk 5,⟨⟩⟩))<|jpc 8 rfl<|jpe (vb false)<|jpc 9 rfl<|jpe (vb false)<|jpc 1 rfl<|jpe (vb (!false))<|jpc 1 rfl<|joe<|
  jnn (gv (fun _ k=>k) [0,1] ⟨gk 1,gk 2,gk 3,gk 4,⟨⟩⟩))<|jpc 28 rfl<|jpe (vb false)<|jpc 1 rfl<|joe<|jnn (gv (fun _ k=>k) [0,1] ⟨gk 0,gk 1,gk 2,gk 3,⟨⟩⟩))<|fun s5 _ k=>k<|jbn<|jtn<|jrg<|jpc 3 rfl<|joe<|
  jln (gv (fun _ k=>k) [0,1] ⟨gk 0,gk 1,gk 2,gk 3,⟨⟩⟩))<|jxe<|jte<|jle<|jbh<|jnn (gv (fun _ k=>k) [0,1] ⟨gk 0,gk 1,gk 2,gk 3,⟨⟩⟩))<|fun s3 _ k=>k<|
  jjn (fun s6 K=>K [(1, pt b1 0), (4, vi (w64 ((3 : Int) - r2))), (5, sv p6 s2.1 c6), (7, vi x1), (8, vi s2.2), (17, sv p4 r3 c4), (18, vi (len r3)), (19, vi s1.2), (97, vb s6)] [bx b1 32 [vi y0.1.1, sv p1 y0.1.2 c1, vi y0.2.1, vi y0.2.2.1.1, vi y0.2.2.1.2, sv p2 y0.2.2.2 c2], r_2] [Al e_Move 47 r_2 p6 c6 s2.1, Rl (eInt .i64) p4 c4 r3, Rl e_Pair p1 c1 y0.1.2, Rl e_Move p2 c2 y0.2.2.2]) (
  jrg<|jpc 2 rfl<|jsg 87 rfl (jpc 3 rfl<|jsg 90 rfl (jpc 5 rfl<|jpe (vb true)<|jpe (vb true)<|joe<|jnn (gv (fun _ k=>k) [0,1] ⟨gk 0,gk 1,gk 2,gk 3,⟨⟩⟩))<|jla 0 6 rfl rfl rfl<|jpc 2 rfl<|jcl c_ref27_repeated rfl ⟨ck 2,ck 3,⟨⟩⟩<|fun r5 _ k=>k<|
  jpc 1 rfl<|jpe (vb (!r5))<|jpe (vb (!r5))<|joe<|jnn (gv (fun _ k=>k) [0,1] ⟨gk 0,gk 1,gk 2,gk 3,⟨⟩⟩))<|jpc 9 rfl<|jpe (vb false)<|joe<|jnn (gv (fun _ k=>k) [0,1] ⟨gk 0,gk 1,gk 2,gk 3,⟨⟩⟩))<|fun s6 _ k=>k<|jif rfl (jrg<|jpc 4 rfl<|
  jpe (.agg #[vi (w64 ((3 : Int) - r2)), vi 2, vi s2.2, vi x1])<|jbs .s (e := e_Move) 47 [vi (w64 ((3 : Int) - r2)), vi 2, vi s2.2, vi x1] ([(w64 ((3 : Int) - r2), 2, s2.2, x1)] : List T_Move) (rC (vP vI (vP vI (vP vI vI))) rN)<|fun p7 c7=>
  jar .s 1 1 rfl (gk 0) rfl rfl<|fun x7 r_3 p8 c8=>jpc 1 rfl<|joe<|jbn<|jtn<|jrg<|jpc 3 rfl<|joe<|jln (gv (fun _ k=>k p8 c8 r_3) [0,1] ⟨gk 0,gk 3,gk 4,gk 5,⟨⟩⟩))<|jsk<|jbn<|jtn<|jrg<|jpc 3 rfl<|joe<|
  jln (gv (fun _ k=>k p6 c6 r_2) [0,1] ⟨gk 0,gk 1,gk 2,gk 3,⟨⟩⟩))<|jxe<|jte<|jle<|jbh<|jbn<|jtn<|jrg<|jpc 2 rfl<|joe<|jln (gv (fun _ k=>k p6 c6 r_2) [0,1] ⟨gk 0,gk 1,gk 2,gk 3,⟨⟩⟩))<|jxe<|jte<|jle<|jbh<|jtn<|jsr<|jpc 2 rfl<|jot<|jxr<|
  jsh 1 0 rfl rfl<|jr1 rfl rfl (fun _ k=>k p5 c5) [] ⟨gk 0,⟨⟩⟩

theorem c_ref27_End {qd : Prop} {y0 : T_Dialogue} : Con qd Tryd.prog 13 [.agg #[vi y0.1.1, sv p1 y0.1.2 c1, vi y0.2.1, vi y0.2.2.1.1, vi y0.2.2.1.2, sv p2 y0.2.2.2 c2]] [] [Rl e_Pair p1 c1 y0.1.2, Rl e_Move p2 c2 y0.2.2.2] (m_ref27_End y0) fun r K=>K (.agg #[vi r.1, vi r.2]) [] [] :=
 ent3 Tryd.call13 Tryd.func13 rfl fun X=>jsr<|jbx .s rfl<|fun b1=>jal .s (.agg #[vi 0, vi 0])<|fun b2=>jot<|jsr<|jfa 5 rfl<|jlo 0 rfl rfl rfl<|jfa 5 rfl<|jlo 0 rfl rfl rfl<|jpc 2 rfl<|jix 1 rfl rfl rfl<|fun x1 b3 o1=>jld true o_Move (gk 0) rfl<|
  jal .s (.agg #[vi 0, vi 0, vi 0, vi 0])<|fun b4=>jso .s 2 rfl rfl rfl<|jot<|jsq<|jsr<|jfa 1 rfl<|jlo 2 rfl rfl rfl<|jpc 1 rfl<|jot<|jif rfl (jsr<|jfa 0 rfl<|jlo 2 rfl rfl rfl<|jpc 1 rfl<|jpe (.agg #[vi (w64 ((3 : Int) - x1.1)), vi 3])<|
  jso .s 1 rfl rfl rfl<|jot<|jxr<|jtr<|jrg' rfl (lC 1 (.agg #[vi (w64 ((3 : Int) - x1.1)), vi 3]) rfl rfl lN) (fun _ k=>k) [] ⟨⟩)<|jsk<|jtn<|jsr<|jla 0 6 rfl rfl rfl<|jcl c_ref27_Status rfl ⟨ck 1,ck 2,⟨⟩⟩<|fun r1 _ k p3 c3=>k<|
  jcl c_ref27_leader rfl ⟨ck 0,⟨⟩⟩<|fun r2 _ k=>k<|jpc 1 rfl<|jot<|jsr<|jpc 1 rfl<|jot<|
  jjn (fun s1 K=>K [(1, pt b1 0), (2, pt b2 0), (4, vi r2), (5, vi s1)] [bx b1 32 [vi y0.1.1, sv p1 y0.1.2 c1, vi y0.2.1, vi y0.2.2.1.1, vi y0.2.2.1.2, sv p2 y0.2.2.2 c2], bx b2 43 [vi 0, vi 0], []] [Rl e_Pair p1 c1 y0.1.2, Rl e_Move p2 c2 y0.2.2.2]) (
  jsr<|jpc 1 rfl<|jot<|jbk<|
  jlp (fun s2 K=>K [(1, pt b1 0), (2, pt b2 0), (4, vi r2), (5, vi s2.1), (6, vi s2.2)] [bx b1 32 [vi y0.1.1, sv p1 y0.1.2 c1, vi y0.2.1, vi y0.2.2.1.1, vi y0.2.2.1.2, sv p2 y0.2.2.2 c2], bx b2 43 [vi 0, vi 0], []] [Rl e_Pair p1 c1 y0.1.2, Rl e_Move p2 c2 y0.2.2.2]) (gv (fun _ k=>k) [0,1,902] ⟨gk 2,gk 3,⟨⟩⟩)<|
  fun s2 _ k=>k<|jsq<|jsr<|jpc 1 rfl<|jfa 5 rfl<|jlo 0 rfl rfl rfl<|jpc 2 rfl<|jot<|jif rfl (jsk<|jtn<|jsq<|jbk<|jsr<|jfa 5 rfl<|jlo 0 rfl rfl rfl<|jpc 1 rfl<|jix 1 rfl rfl rfl<|fun x2 b5 o2=>jfa 0 rfl<|jld false oI (gf (gk 0)) rfl<|
  jpc 2 rfl<|jot<|jif rfl (jrg<|jpc 3 rfl<|joe<|jbn<|jtn<|jrg<|jpc 3 rfl<|joe<|jln (gv (fun _ k=>k) [0,1,902] ⟨gk 1,gk 2,⟨⟩⟩))<|jsk<|jbn<|jtn<|jrg<|jpc 3 rfl<|joe<|jln (gv (fun _ k=>k) [0,1,902] ⟨gk 1,gk 2,⟨⟩⟩))<|jxe<|jte<|jle<|jbh<|
  jnn (gv (fun _ k=>k) [0,1,902] ⟨gk 0,gk 1,⟨⟩⟩))<|fun s1 _ k=>k<|jsq<|jbk<|jsr<|jfa 5 rfl<|jlo 0 rfl rfl rfl<|jpc 3 rfl<|jot<|jif rfl (jsr<|jpc 1 rfl<|jpe (.agg #[vi r2, vi 4])<|jso .s 1 rfl rfl rfl<|jot<|jxr<|jbr<|jtr<|
  jrg' rfl (lC 1 (.agg #[vi r2, vi 4]) rfl rfl lN) (fun _ k=>k) [] ⟨⟩)<|jsr<|jpc 3 rfl<|jfa 3 rfl<|jiB (l := ([y0.2.2.1.1, y0.2.2.1.2] : List Int)) rfl rfl<|fun x3 h1=>jlI 0 (.int .i64) rfl rfl rfl h1<|jpc 2 rfl<|jot<|jif rfl (jsr<|
  jpc 1 rfl<|jpe (.agg #[vi r2, vi 2])<|jso .s 1 rfl rfl rfl<|jot<|jxr<|jbr<|jtr<|jrg' rfl (lC 1 (.agg #[vi r2, vi 2]) rfl rfl lN) (fun _ k=>k) [] ⟨⟩)<|jsr<|jla 0 6 rfl rfl rfl<|jcl c_ref27_attacks rfl ⟨ck 0,ck 1,⟨⟩⟩<|fun r3 _ k p4 c4=>k<|
  jpc 3 rfl<|jot<|jif rfl (jsr<|jpc 1 rfl<|jpe (.agg #[vi r2, vi 1])<|jso .s 1 rfl rfl rfl<|jot<|jxr<|jbr<|jtr<|jrg' rfl (lC 1 (.agg #[vi r2, vi 1]) rfl rfl lN) (fun _ k=>k) [] ⟨⟩)<|jsk<|jbn<|jtn<|jsr<|jpe (.agg #[vi 0, vi 0])<|
  jso .s 1 rfl rfl rfl<|jot<|jxr<|jrg' rfl (lC 1 (.agg #[vi 0, vi 0]) rfl rfl lN) (fun _ k=>k) [] ⟨⟩

theorem c_ref27_Turn {qd : Prop} {y0 : T_Dialogue} : Con qd Tryd.prog 12 [.agg #[vi y0.1.1, sv p1 y0.1.2 c1, vi y0.2.1, vi y0.2.2.1.1, vi y0.2.2.1.2, sv p2 y0.2.2.2 c2]] [] [Rl e_Pair p1 c1 y0.1.2, Rl e_Move p2 c2 y0.2.2.2] (m_ref27_Turn y0) fun r K=>K (vi r) [] [] :=
 ent3 Tryd.call12 Tryd.func12 rfl fun X=>jsr<|jbx .s rfl<|fun b1=>jpc 1 rfl<|jot<|jsq<|jsr<|jla 0 6 rfl rfl rfl<|jcl c_ref27_End rfl ⟨ck 0,ck 1,⟨⟩⟩<|fun r1 _ k=>k<|jpe (.agg #[vi 0, vi 0])<|jpe (vb (!(r1 == (0, 0))))<|jot<|jif rfl (jsr<|jpc 1 rfl<|jot<|jxr<|jtr<|
  jr1 rfl rfl (fun _ k=>k) [] ⟨⟩)<|jsk<|jtn<|jsr<|jla 0 6 rfl rfl rfl<|jcl c_ref27_Status rfl ⟨ck 0,ck 1,⟨⟩⟩<|fun r2 _ k p3 c3=>k<|jcl c_ref27_leader rfl ⟨ck 0,⟨⟩⟩<|fun r3 _ k=>k<|jpc 2 rfl<|jot<|jxr<|jr1 rfl rfl (fun _ k=>k) [] ⟨⟩

theorem c_ref27_Apply {qd : Prop} {y0 : T_Dialogue} {y1 : T_Move} : Con qd Tryd.prog 15 [.agg #[vi y0.1.1, sv p1 y0.1.2 c1, vi y0.2.1, vi y0.2.2.1.1, vi y0.2.2.1.2, sv p2 y0.2.2.2 c2], .agg #[vi y1.1, vi y1.2.1, vi y1.2.2.1, vi y1.2.2.2]] [] [Rl e_Pair p1 c1 y0.1.2, Rl e_Move p2 c2 y0.2.2.2] (m_ref27_Apply y0 y1) fun r K=>∀ p3 c3 p4 c4,K (.tuple #[.agg #[vi r.1.1.1, sv p3 r.1.1.2 c3, vi r.1.2.1, vi r.1.2.2.1.1, vi r.1.2.2.1.2, sv p4 r.1.2.2.2 c4], vi r.2]) [] [Rl e_Pair p3 c3 r.1.1.2, Rl e_Move p4 c4 r.1.2.2.2] :=
 ent3 Tryd.call15 Tryd.func15 rfl fun X=>jsr<|jbx .s rfl<|fun b1=>jbx .s rfl<|fun b2=>jal .s (.agg #[vi 0, .slice none 0 0, vi 0, vi 0, vi 0, .slice none 0 0])<|fun b3=>jpc 1 rfl<|jot<|jsq<|jsr<|jla 0 6 rfl rfl rfl<|jcl c_ref27_Turn rfl ⟨ck 0,ck 1,⟨⟩⟩<|fun r1 _ k=>k<|jpc 1 rfl<|
  jot<|jif rfl (jsr<|jpe (.agg #[vi 0, .slice none 0 0, vi 0, vi 0, vi 0, .slice none 0 0])<|jso .s 2 rfl rfl rfl<|jpc 1 rfl<|jot<|jxr<|jtr<|
  jrg' rfl (lC 2 (.agg #[vi 0, .slice none 0 0, vi 0, vi 0, vi 0, .slice none 0 0]) rfl rfl (lT rfl lN)) (fun _ k=>k none 0 none 0) [] ⟨gn,gn,⟨⟩⟩)<|jsk<|jtn<|jsq<|
  jjp (fun K=>K [(2, pt b1 0), (3, pt b2 0), (4, pt b3 0), (27, vb ((y1.2.1 != 2) && ((y1.2.1 != 3) && (y1.2.1 != 4))))] [bx b1 32 [vi y0.1.1, sv p1 y0.1.2 c1, vi y0.2.1, vi y0.2.2.1.1, vi y0.2.2.1.2, sv p2 y0.2.2.2 c2], bx b2 47 [vi y1.1, vi y1.2.1, vi y1.2.2.1, vi y1.2.2.2], bx b3 32 [vi 0, .slice none 0 0, vi 0, vi 0, vi 0, .slice none 0 0]] [Rl e_Pair p1 c1 y0.1.2, Rl e_Move p2 c2 y0.2.2.2]) (
  jrg<|jfa 1 rfl<|jlo 1 rfl rfl rfl<|jpc 2 rfl<|jsp (b := y1.2.1 != 2) 18 rfl (fun hb1=>jfa 1 rfl<|jlo 1 rfl rfl rfl<|jpc 1 rfl<|jpe (vb (y1.2.1 != 3))<|jpc 1 rfl<|jsp (b := y1.2.1 != 3) 23 rfl (fun hb2=>jfa 1 rfl<|jlo 1 rfl rfl rfl<|
  jpc 1 rfl<|jpe (vb (y1.2.1 != 4))<|joe<|jup 27 (vb ((y1.2.1 != 2) && ((y1.2.1 != 3) && (y1.2.1 != 4)))) rfl (by rw [hb1,hb2]; rfl)<|jnn (gv (fun _ k=>k) [0,1,2] ⟨gk 0,gk 1,⟨⟩⟩))<|fun hb2=>jpc 3 rfl<|jpe (vb false)<|joe<|
  jup 27 (vb ((y1.2.1 != 2) && ((y1.2.1 != 3) && (y1.2.1 != 4)))) rfl (by rw [hb1,hb2]; rfl)<|jnn (gv (fun _ k=>k) [0,1,2] ⟨gk 0,gk 1,⟨⟩⟩))<|fun hb1=>jpc 3 rfl<|jpe (vb false)<|jpc 4 rfl<|jpe (vb false)<|joe<|
  jup 27 (vb ((y1.2.1 != 2) && ((y1.2.1 != 3) && (y1.2.1 != 4)))) rfl (by rw [hb1]; rfl)<|jnn (gv (fun _ k=>k) [0,1,2] ⟨gk 0,gk 1,⟨⟩⟩))<|fun _ k=>k<|jif rfl (jsr<|jpe (.agg #[vi 0, .slice none 0 0, vi 0, vi 0, vi 0, .slice none 0 0])<|
  jso .s 2 rfl rfl rfl<|jpc 1 rfl<|jot<|jxr<|jtr<|jrg' rfl (lC 2 (.agg #[vi 0, .slice none 0 0, vi 0, vi 0, vi 0, .slice none 0 0]) rfl rfl (lT rfl lN)) (fun _ k=>k none 0 none 0) [] ⟨gn,gn,⟨⟩⟩)<|jsk<|jtn<|jsq<|jds [] [0, 1] 5<|
  jdf 0 0 rfl rfl<|jdo 1 1 rfl rfl rfl rfl<|jda 2 0 6 rfl rfl rfl rfl<|jd1 3<|jca (.f rfl) [] [] c_ref27_Turn rfl rfl rfl ⟨ck 0,ck 1,⟨⟩⟩<|fun r2 _ k=>k<|jdn<|jdc 0 [4] rfl<|jde<|jtn<|jif rfl (jsr<|
  jpe (.agg #[vi 0, .slice none 0 0, vi 0, vi 0, vi 0, .slice none 0 0])<|jso .s 2 rfl rfl rfl<|jpc 1 rfl<|jot<|jxr<|jtr<|
  jrg' rfl (lC 2 (.agg #[vi 0, .slice none 0 0, vi 0, vi 0, vi 0, .slice none 0 0]) rfl rfl (lT rfl lN)) (fun _ k=>k none 0 none 0) [] ⟨gn,gn,⟨⟩⟩)<|jsk<|jtn<|
  jjp (fun K=>K [(2, pt b1 0), (3, pt b2 0), (4, pt b3 0), (6, vb ((decide (0 ≤ y1.2.2.2)) && (decide (y1.2.2.2 < (len y0.2.2.2)))))] [bx b1 32 [vi y0.1.1, sv p1 y0.1.2 c1, vi y0.2.1, vi y0.2.2.1.1, vi y0.2.2.1.2, sv p2 y0.2.2.2 c2], bx b2 47 [vi y1.1, vi y1.2.1, vi y1.2.2.1, vi y1.2.2.2], bx b3 32 [vi 0, .slice none 0 0, vi 0, vi 0, vi 0, .slice none 0 0]] [Rl e_Pair p1 c1 y0.1.2, Rl e_Move p2 c2 y0.2.2.2]) (
  jrg<|jfa 3 rfl<|jlo 1 rfl rfl rfl<|jpc 2 rfl<|jsp (b := decide (0 ≤ y1.2.2.2)) 38 rfl (fun hb3=>jfa 3 rfl<|jlo 1 rfl rfl rfl<|jfa 5 rfl<|jlo 0 rfl rfl rfl<|jpc 2 rfl<|jpe (vb (decide (y1.2.2.2 < (len y0.2.2.2))))<|jpc 1 rfl<|joe<|
  jup 6 (vb ((decide (0 ≤ y1.2.2.2)) && (decide (y1.2.2.2 < (len y0.2.2.2))))) rfl (by rw [hb3]; rfl)<|jnn (gv (fun _ k=>k) [0,1,2] ⟨gk 0,gk 1,⟨⟩⟩))<|fun hb3=>jpc 6 rfl<|jpe (vb false)<|jpc 1 rfl<|joe<|
  jup 6 (vb ((decide (0 ≤ y1.2.2.2)) && (decide (y1.2.2.2 < (len y0.2.2.2))))) rfl (by rw [hb3]; rfl)<|jnn (gv (fun _ k=>k) [0,1,2] ⟨gk 0,gk 1,⟨⟩⟩))<|fun _ k=>k<|
  jjo (fun s1 K=>K [(2, pt b1 0), (3, pt b2 0), (4, pt b3 0)] [bx b1 32 [vi y0.1.1, sv p1 y0.1.2 c1, vi y0.2.1, vi y0.2.2.1.1, vi y0.2.2.1.2, sv p2 y0.2.2.2 c2], bx b2 47 [vi y1.1, vi y1.2.1, vi s1.1, vi s1.2], bx b3 32 [vi 0, .slice none 0 0, vi 0, vi 0, vi 0, .slice none 0 0]] [Rl e_Pair p1 c1 y0.1.2, Rl e_Move p2 c2 y0.2.2.2]) (
  jsr<|jfa 1 rfl<|jlo 1 rfl rfl rfl<|jot<|jbk<|jsr<|jpc 2 rfl<|jot<|jif rfl (jsq<|
  jjp (fun K=>K [(2, pt b1 0), (3, pt b2 0), (4, pt b3 0), (66, vb ((!((decide (0 ≤ y1.2.2.2)) && (decide (y1.2.2.2 < (len y0.2.2.2))))) || ((decide (y1.2.2.1 < 0)) || (decide (y0.1.1 ≤ y1.2.2.1)))))] [bx b1 32 [vi y0.1.1, sv p1 y0.1.2 c1, vi y0.2.1, vi y0.2.2.1.1, vi y0.2.2.1.2, sv p2 y0.2.2.2 c2], bx b2 47 [vi y1.1, vi y1.2.1, vi y1.2.2.1, vi y1.2.2.2], bx b3 32 [vi 0, .slice none 0 0, vi 0, vi 0, vi 0, .slice none 0 0]] [Rl e_Pair p1 c1 y0.1.2, Rl e_Move p2 c2 y0.2.2.2]) (
  jrg<|jpc 3 rfl<|jsp (b := !((decide (0 ≤ y1.2.2.2)) && (decide (y1.2.2.2 < (len y0.2.2.2))))) 54 rfl (fun hb4=>jpc 3 rfl<|jpe (vb true)<|jpc 7 rfl<|jpe (vb true)<|joe<|
  jup 66 (vb ((!((decide (0 ≤ y1.2.2.2)) && (decide (y1.2.2.2 < (len y0.2.2.2))))) || ((decide (y1.2.2.1 < 0)) || (decide (y0.1.1 ≤ y1.2.2.1))))) rfl (by rw [hb4]; rfl)<|jnn (gv (fun _ k=>k) [0,1,2] ⟨gk 0,gk 1,⟨⟩⟩))<|fun hb4=>jfa 2 rfl<|
  jlo 1 rfl rfl rfl<|jpc 1 rfl<|jpe (vb (decide (y1.2.2.1 < 0)))<|jpc 1 rfl<|jsp (b := decide (y1.2.2.1 < 0)) 59 rfl (fun hb5=>jpc 6 rfl<|jpe (vb true)<|joe<|
  jup 66 (vb ((!((decide (0 ≤ y1.2.2.2)) && (decide (y1.2.2.2 < (len y0.2.2.2))))) || ((decide (y1.2.2.1 < 0)) || (decide (y0.1.1 ≤ y1.2.2.1))))) rfl (by rw [hb4,hb5]; rfl)<|jnn (gv (fun _ k=>k) [0,1,2] ⟨gk 0,gk 1,⟨⟩⟩))<|fun hb5=>jfa 2 rfl<|
  jlo 1 rfl rfl rfl<|jfa 0 rfl<|jfa 0 rfl<|jlo 0 rfl rfl rfl<|jpc 1 rfl<|jpe (vb (decide (y0.1.1 ≤ y1.2.2.1)))<|joe<|
  jup 66 (vb ((!((decide (0 ≤ y1.2.2.2)) && (decide (y1.2.2.2 < (len y0.2.2.2))))) || ((decide (y1.2.2.1 < 0)) || (decide (y0.1.1 ≤ y1.2.2.1))))) rfl (by rw [hb4,hb5]; rfl)<|jnn (gv (fun _ k=>k) [0,1,2] ⟨gk 0,gk 1,⟨⟩⟩))<|fun _ k=>k<|jif rfl (
  jsr<|jpe (.agg #[vi 0, .slice none 0 0, vi 0, vi 0, vi 0, .slice none 0 0])<|jso .s 2 rfl rfl rfl<|jpc 1 rfl<|jot<|jxr<|jtr<|jbr<|jlr<|
  jrg' rfl (lC 2 (.agg #[vi 0, .slice none 0 0, vi 0, vi 0, vi 0, .slice none 0 0]) rfl rfl (lT rfl lN)) (fun _ k=>k none 0 none 0) [] ⟨gn,gn,⟨⟩⟩)<|jsk<|jtn<|jsr<|jpc 1 rfl<|jot<|
  jjn (fun s2 K=>K [(2, pt b1 0), (3, pt b2 0), (4, pt b3 0), (7, vb s2)] [bx b1 32 [vi y0.1.1, sv p1 y0.1.2 c1, vi y0.2.1, vi y0.2.2.1.1, vi y0.2.2.1.2, sv p2 y0.2.2.2 c2], bx b2 47 [vi y1.1, vi y1.2.1, vi y1.2.2.1, vi y1.2.2.2], bx b3 32 [vi 0, .slice none 0 0, vi 0, vi 0, vi 0, .slice none 0 0]] [Rl e_Pair p1 c1 y0.1.2, Rl e_Move p2 c2 y0.2.2.2]) (
  jsr<|jla 0 6 rfl rfl rfl<|jcl c_ref27_attacks rfl ⟨ck 0,ck 1,⟨⟩⟩<|fun r3 _ k p3 c3=>k<|jpc 2 rfl<|jot<|jbk<|
  jlp (fun s3 K=>K [(2, pt b1 0), (3, pt b2 0), (4, pt b3 0), (7, vb s3.1), (69, sv p3 r3 c3), (70, vi (len r3)), (71, vi s3.2)] [bx b1 32 [vi y0.1.1, sv p1 y0.1.2 c1, vi y0.2.1, vi y0.2.2.1.1, vi y0.2.2.1.2, sv p2 y0.2.2.2 c2], bx b2 47 [vi y1.1, vi y1.2.1, vi y1.2.2.1, vi y1.2.2.2], bx b3 32 [vi 0, .slice none 0 0, vi 0, vi 0, vi 0, .slice none 0 0]] [Rl e_Move p3 c3 r3, Rl e_Pair p1 c1 y0.1.2, Rl e_Move p2 c2 y0.2.2.2]) (gv (fun _ k=>k) [0,1,2] ⟨gk 0,gk 1,gk 2,⟨⟩⟩)<|
  fun s3 _ k=>k<|jsr<|jpc 1 rfl<|jot<|jsq<|jif rfl (jsk<|jtn<|jsq<|jbk<|jsr<|jix 0 rfl rfl rfl<|fun x1 b4 o1=>jld true o_Move (gk 0) rfl<|jal .s (.agg #[vi 0, vi 0, vi 0, vi 0])<|fun b5=>jso .s 3 rfl rfl rfl<|jot<|
  jjq (fun K=>K [(2, pt b1 0), (3, pt b2 0), (4, pt b3 0), (7, vb (s3.1 || (x1 == y1))), (69, sv p3 r3 c3), (70, vi (len r3)), (71, vi s3.2)] [bx b1 32 [vi y0.1.1, sv p1 y0.1.2 c1, vi y0.2.1, vi y0.2.2.1.1, vi y0.2.2.1.2, sv p2 y0.2.2.2 c2], bx b2 47 [vi y1.1, vi y1.2.1, vi y1.2.2.1, vi y1.2.2.2], bx b3 32 [vi 0, .slice none 0 0, vi 0, vi 0, vi 0, .slice none 0 0], []] [Rl e_Move p3 c3 r3, Rl e_Pair p1 c1 y0.1.2, Rl e_Move p2 c2 y0.2.2.2]) (
  jrg<|jpc 2 rfl<|jsp (b := s3.1) 76 rfl (fun hb6=>jpc 3 rfl<|jpe (vb true)<|jpc 1 rfl<|joe<|jup 7 (vb (s3.1 || (x1 == y1))) rfl (by rw [hb6]; rfl)<|jnn (gv (fun _ k=>k) [0,1,2,903] ⟨gk 1,gk 2,gk 3,⟨⟩⟩))<|fun hb6=>jla 3 4 rfl rfl rfl<|
  jla 1 4 rfl rfl rfl<|jpe (vb (x1 == y1))<|jpe (vb (x1 == y1))<|jpc 1 rfl<|joe<|jup 7 (vb (s3.1 || (x1 == y1))) rfl (by rw [hb6]; rfl)<|jnn (gv (fun _ k=>k) [0,1,2,903] ⟨gk 1,gk 2,gk 3,⟨⟩⟩))<|fun _ k=>k<|jbn<|jtn<|jrg<|jpc 2 rfl<|joe<|
  jln (gv (fun _ k=>k) [0,1,2] ⟨gk 0,gk 1,gk 2,⟨⟩⟩))<|jxe<|jte<|jle<|jbh<|jnn (gv (fun _ k=>k) [0,1,2] ⟨gk 1,gk 2,⟨⟩⟩))<|fun s2 _ k=>k<|jsr<|jpc 2 rfl<|jot<|jif rfl (jsr<|
  jpe (.agg #[vi 0, .slice none 0 0, vi 0, vi 0, vi 0, .slice none 0 0])<|jso .s 2 rfl rfl rfl<|jpc 1 rfl<|jot<|jxr<|jbr<|jlr<|
  jrg' rfl (lC 2 (.agg #[vi 0, .slice none 0 0, vi 0, vi 0, vi 0, .slice none 0 0]) rfl rfl (lT rfl lN)) (fun _ k=>k none 0 none 0) [] ⟨gn,gn,⟨⟩⟩)<|jsk<|jbn<|jln (gv (fun _ k=>k) [0,1,2] ⟨gk 0,gk 1,⟨⟩⟩))<|jsr<|jpc 2 rfl<|jot<|jif rfl (jsq<|
  jsr<|jpc 2 rfl<|jot<|jif rfl (jsr<|jpe (.agg #[vi 0, .slice none 0 0, vi 0, vi 0, vi 0, .slice none 0 0])<|jso .s 2 rfl rfl rfl<|jpc 1 rfl<|jot<|jxr<|jtr<|jbr<|jlr<|
  jrg' rfl (lC 2 (.agg #[vi 0, .slice none 0 0, vi 0, vi 0, vi 0, .slice none 0 0]) rfl rfl (lT rfl lN)) (fun _ k=>k none 0 none 0) [] ⟨gn,gn,⟨⟩⟩)<|jsk<|jtn<|jsq<|jsr<|jfa 5 rfl<|jlo 0 rfl rfl rfl<|jfa 3 rfl<|jlo 1 rfl rfl rfl<|
  jix 1 rfl rfl rfl<|fun x2 b6 o2=>jld true o_Move (gk 0) rfl<|jal .s (.agg #[vi 0, vi 0, vi 0, vi 0])<|fun b7=>jso .s 3 rfl rfl rfl<|jot<|
  jjn (fun s4 K=>K [(2, pt b1 0), (3, pt b2 0), (4, pt b3 0), (114, vb s4)] [bx b1 32 [vi y0.1.1, sv p1 y0.1.2 c1, vi y0.2.1, vi y0.2.2.1.1, vi y0.2.2.1.2, sv p2 y0.2.2.2 c2], bx b2 47 [vi y1.1, vi y1.2.1, vi y1.2.2.1, vi y1.2.2.2], bx b3 32 [vi 0, .slice none 0 0, vi 0, vi 0, vi 0, .slice none 0 0], []] [Rl e_Pair p1 c1 y0.1.2, Rl e_Move p2 c2 y0.2.2.2]) (
  jdS [] [0, 1, 3] 19<|jdf 0 1 rfl rfl<|jdo 1 3 rfl rfl rfl rfl<|jdc 15 [2,3] rfl<|jsg 99 rfl (jdc 10 [4,5,6,7,8] rfl<|jdp 9 (vb true) rfl<|jdc 1 [10,11,12,13,14,15,16,17] rfl<|jdp 18 (vb true) rfl<|jde<|
  jnn (gv (fun _ k=>k) [0,1,2,903] ⟨gk 1,gk 2,⟨⟩⟩))<|jdf 4 0 rfl rfl<|jdo 5 3 rfl rfl rfl rfl<|jdf 6 0 rfl rfl<|jdo 7 1 rfl rfl rfl rfl<|jdc 10 [8] rfl<|jdp 9 (vb (x2.1 != y1.1)) rfl<|jdc 8 [10] rfl<|jsg 106 rfl (
  jdc 1 [11,12,13,14,15,16,17] rfl<|jdp 18 (vb true) rfl<|jde<|jnn (gv (fun _ k=>k) [0,1,2,903] ⟨gk 1,gk 2,⟨⟩⟩))<|jda 11 0 6 rfl rfl rfl rfl<|jdf 13 3 rfl rfl<|jdo 14 1 rfl rfl rfl rfl<|jd1 12<|
  jca (.f rfl) [] [] c_ref27_Status rfl rfl rfl ⟨ck 1,ck 2,⟨⟩⟩<|fun r4 _ k p4 c4=>k<|jdn<|jdi 15 0 rfl rfl rfl rfl<|fun x3 b8 o3=>jdl 16 false oI rfl (gk 0) rfl<|jdc 1 [17] rfl<|jdp 18 (vb (x3 == 0)) rfl<|jde<|
  jnn (gv (fun _ k=>k) [0,1,2,903] ⟨gk 3,gk 4,⟨⟩⟩))<|fun s4 _ k=>k<|jif rfl (jsr<|jpe (.agg #[vi 0, .slice none 0 0, vi 0, vi 0, vi 0, .slice none 0 0])<|jso .s 2 rfl rfl rfl<|jpc 1 rfl<|jot<|jxr<|jtr<|jbr<|jlr<|
  jrg' rfl (lC 2 (.agg #[vi 0, .slice none 0 0, vi 0, vi 0, vi 0, .slice none 0 0]) rfl rfl (lT rfl lN)) (fun _ k=>k none 0 none 0) [] ⟨gn,gn,⟨⟩⟩)<|jsk<|jtn<|jrg<|jfa 2 rfl<|jso .s 1 rfl rfl rfl<|joe<|jbn<|
  jln (gv (fun _ k=>k) [0,1,2] ⟨gk 0,gk 1,⟨⟩⟩))<|jrg<|jfa 2 rfl<|jso .s 1 rfl rfl rfl<|jfa 3 rfl<|jso .s 1 rfl rfl rfl<|joe<|jbn<|jln (gv (fun _ k=>k) [0,1,2] ⟨gk 0,gk 1,⟨⟩⟩))<|fun s1 _ k=>k<|
  jjn (fun s5 K=>∀ p5 c5 r_1,K [(2, pt b1 0), (4, pt b3 0)] [bx b1 32 [vi y0.1.1, sv p1 y0.1.2 c1, vi y0.2.1, vi y0.2.2.1.1, vi y0.2.2.1.2, sv p5 s5 c5], [], bx b3 32 [vi 0, .slice none 0 0, vi 0, vi 0, vi 0, .slice none 0 0], r_1] [Al e_Move 47 r_1 p5 c5 s5, Rl e_Pair p1 c1 y0.1.2]) (
  jdS [8] [0, 1] 9<|jdf 1 5 rfl rfl<|jdo 2 0 rfl rfl rfl rfl<|jda 4 1 4 rfl rfl rfl rfl<|jd2 0 5 (jbo (.f rfl) (e := e_Move) 47 [] ([] : List T_Move) rN<|fun r_2 p6 c6=>jdn<|jd2 3 5 (jar (.f rfl) 3 0 rfl (gk 2) rfl rfl<|fun x4 r_3 p7 c7=>
  jdn<|jd1 5<|jbs (.f rfl) (e := e_Move) 47 [vi y1.1, vi y1.2.1, vi s1.1, vi s1.2] ([(y1.1, y1.2.1, s1.1, s1.2)] : List T_Move) (rC (vP vI (vP vI (vP vI vI))) rN)<|fun p8 c8=>jdn<|jd1 6<|jar (.f rfl) 3 1 rfl (gk 0) rfl rfl<|fun x5 r_4 p9 c9=>
  jdn<|jdf 7 5 rfl rfl<|jd1 8<|jso (o := 5) (.f rfl) 0 rfl rfl rfl<|jdb [] [0, 1]<|jde<|jnn (gv (fun _ k=>k p9 c9 r_4) [0,901,2,3] ⟨gk 0,gk 4,⟨⟩⟩)) <|
  jbs (.f rfl) (e := e_Move) 47 [vi y1.1, vi y1.2.1, vi s1.1, vi s1.2] ([(y1.1, y1.2.1, s1.1, s1.2)] : List T_Move) (rC (vP vI (vP vI (vP vI vI))) rN)<|fun p10 c10=>jdn<|jd1 3<|jar (.f rfl) 3 1 rfl (gk 3) rfl rfl<|fun x6 r_5 p11 c11=>jdn<|
  jd1 6<|jar (.f rfl) 3 0 rfl (gk 1) rfl rfl<|fun x7 r_6 p12 c12=>jdn<|jdf 7 5 rfl rfl<|jd1 8<|jso (o := 5) (.f rfl) 0 rfl rfl rfl<|jdb [] [0, 1]<|jde<|jnn (gv (fun _ k=>k p12 c12 r_6) [0,901,2,3] ⟨gk 0,gk 4,⟨⟩⟩)) <|
  jbs (.f rfl) (e := e_Move) 47 [vi y1.1, vi y1.2.1, vi s1.1, vi s1.2] ([(y1.1, y1.2.1, s1.1, s1.2)] : List T_Move) (rC (vP vI (vP vI (vP vI vI))) rN)<|fun p13 c13=>jdn<|jd1 0<|jbo (.f rfl) (e := e_Move) 47 [] ([] : List T_Move) rN<|
  fun r_7 p14 c14=>jdn<|jd1 3<|jar (.f rfl) 3 0 rfl (gk 3) rfl rfl<|fun x8 r_8 p15 c15=>jdn<|jd1 6<|jar (.f rfl) 3 0 rfl (gk 2) rfl rfl<|fun x9 r_9 p16 c16=>jdn<|jdf 7 5 rfl rfl<|jd1 8<|jso (o := 5) (.f rfl) 0 rfl rfl rfl<|jdb [] [0, 1]<|
  jde<|jnn (gv (fun _ k=>k p16 c16 r_9) [0,901,2,3] ⟨gk 0,gk 4,⟨⟩⟩))<|fun s5 _ k p5 c5 r_1=>k<|jsr<|jla 0 6 rfl rfl rfl<|jso .s 2 rfl rfl rfl<|jpc 1 rfl<|jot<|jxr<|jsh 3 0 rfl rfl<|
  jrg' rfl (lC 2 (.agg #[vi y0.1.1, sv p1 y0.1.2 c1, vi y0.2.1, vi y0.2.2.1.1, vi y0.2.2.1.2, sv p5 s5 c5]) rfl rfl (lT rfl lN)) (fun _ k=>k p1 c1 p5 c5) [] ⟨gk 2,gk 0,⟨⟩⟩

theorem c_ref27_Legal {qd : Prop} {y0 : T_Dialogue} : Con qd Tryd.prog 14 [.agg #[vi y0.1.1, sv p1 y0.1.2 c1, vi y0.2.1, vi y0.2.2.1.1, vi y0.2.2.1.2, sv p2 y0.2.2.2 c2]] [] [Rl e_Pair p1 c1 y0.1.2, Rl e_Move p2 c2 y0.2.2.2] (m_ref27_Legal y0) fun r K=>∀ p3 c3,K (sv p3 r c3) [] [Rl e_Move p3 c3 r] :=
 ent3 Tryd.call14 Tryd.func14 rfl fun X=>jsr<|jbx .s rfl<|fun b1=>jpc 1 rfl<|jot<|jsq<|jsr<|jla 0 6 rfl rfl rfl<|jcl c_ref27_Turn rfl ⟨ck 0,ck 1,⟨⟩⟩<|fun r1 _ k=>k<|jpc 1 rfl<|jot<|jif rfl (jsr<|jpc 1 rfl<|jot<|jxr<|jtr<|jr1 rfl rfl (fun _ k=>k none 0) [] ⟨gn,⟨⟩⟩)<|jsk<|jtn<|jsr<|
  jla 0 6 rfl rfl rfl<|jcl c_ref27_attacks rfl ⟨ck 0,ck 1,⟨⟩⟩<|fun r2 _ k p3 c3=>k<|jpc 1 rfl<|jot<|jxr<|jr1 rfl rfl (fun _ k=>k p3 c3) [] ⟨gk 0,⟨⟩⟩

theorem c_ref10_Validate {qd : Prop} {y0 : T_Graph} : Con qd Tryd.prog 17 [.agg #[vi y0.1, sv p1 y0.2 c1]] [] [Rl e_Pair p1 c1 y0.2] (m_ref10_Validate y0) fun r K=>K (vi r) [] [] :=
 ent3 Tryd.call17 Tryd.func17 rfl fun X=>jsr<|jbx .s rfl<|fun b1=>jpc 1 rfl<|jot<|jsq<|jjp (fun K=>K [(1, pt b1 0), (12, vb ((decide (y0.1 < 0)) || (decide (40 < y0.1))))] [bx b1 27 [vi y0.1, sv p1 y0.2 c1]] [Rl e_Pair p1 c1 y0.2]) (jrg<|jfa 0 rfl<|jlo 0 rfl rfl rfl<|jpc 2 rfl<|
  jsp (b := decide (y0.1 < 0)) 8 rfl (fun hb1=>jpc 3 rfl<|jpe (vb true)<|joe<|jup 12 (vb ((decide (y0.1 < 0)) || (decide (40 < y0.1)))) rfl (by rw [hb1]; rfl)<|jnn (gv (fun _ k=>k) [0] ⟨gk 0,⟨⟩⟩))<|fun hb1=>jfa 0 rfl<|jlo 0 rfl rfl rfl<|
  jpc 1 rfl<|jpe (vb (decide (40 < y0.1)))<|joe<|jup 12 (vb ((decide (y0.1 < 0)) || (decide (40 < y0.1)))) rfl (by rw [hb1]; rfl)<|jnn (gv (fun _ k=>k) [0] ⟨gk 0,⟨⟩⟩))<|fun _ k=>k<|jif rfl (jsr<|jpc 1 rfl<|jot<|jxr<|jtr<|
  jr1 rfl rfl (fun _ k=>k) [] ⟨⟩)<|jsk<|jtn<|jsq<|jsr<|jpc 1 rfl<|jot<|jbk<|jlp (fun s1 K=>K [(1, pt b1 0), (3, vi s1)] [bx b1 27 [vi y0.1, sv p1 y0.2 c1]] [Rl e_Pair p1 c1 y0.2]) (gv (fun _ k=>k) [0] ⟨gk 0,⟨⟩⟩)<|fun s1 _ k=>k<|jsq<|jsr<|
  jpc 1 rfl<|jfa 1 rfl<|jlo 0 rfl rfl rfl<|jpc 2 rfl<|jot<|jif rfl (jsk<|jtn<|jsq<|jbk<|jsr<|jfa 1 rfl<|jlo 0 rfl rfl rfl<|jpc 1 rfl<|jix 0 rfl rfl rfl<|fun x1 b2 o1=>jld true o_Pair (gk 0) rfl<|jal .s (.agg #[vi 0, vi 0])<|fun b3=>
  jso .s 1 rfl rfl rfl<|jot<|jsq<|
  jjp (fun K=>K [(1, pt b1 0), (3, vi s1), (4, pt b3 0), (46, vb ((decide (x1.1 < 0)) || ((decide (y0.1 ≤ x1.1)) || ((decide (x1.2 < 0)) || (decide (y0.1 ≤ x1.2))))))] [bx b1 27 [vi y0.1, sv p1 y0.2 c1], bx b3 54 [vi x1.1, vi x1.2]] [Rl e_Pair p1 c1 y0.2]) (
  jrg<|jfa 0 rfl<|jlo 1 rfl rfl rfl<|jpc 2 rfl<|jsp (b := decide (x1.1 < 0)) 28 rfl (fun hb2=>jpc 5 rfl<|jpe (vb true)<|jpc 4 rfl<|jpe (vb true)<|jpc 6 rfl<|jpe (vb true)<|joe<|
  jup 46 (vb ((decide (x1.1 < 0)) || ((decide (y0.1 ≤ x1.1)) || ((decide (x1.2 < 0)) || (decide (y0.1 ≤ x1.2)))))) rfl (by rw [hb2]; rfl)<|jnn (gv (fun _ k=>k) [0,1] ⟨gk 1,⟨⟩⟩))<|fun hb2=>jfa 0 rfl<|jlo 1 rfl rfl rfl<|jfa 0 rfl<|
  jlo 0 rfl rfl rfl<|jpc 1 rfl<|jpe (vb (decide (y0.1 ≤ x1.1)))<|jpc 1 rfl<|jsp (b := decide (y0.1 ≤ x1.1)) 35 rfl (fun hb3=>jpc 3 rfl<|jpe (vb true)<|jpc 6 rfl<|jpe (vb true)<|joe<|
  jup 46 (vb ((decide (x1.1 < 0)) || ((decide (y0.1 ≤ x1.1)) || ((decide (x1.2 < 0)) || (decide (y0.1 ≤ x1.2)))))) rfl (by rw [hb2,hb3]; rfl)<|jnn (gv (fun _ k=>k) [0,1] ⟨gk 1,⟨⟩⟩))<|fun hb3=>jfa 1 rfl<|jlo 1 rfl rfl rfl<|jpc 1 rfl<|
  jpe (vb (decide (x1.2 < 0)))<|jpc 1 rfl<|jsp (b := decide (x1.2 < 0)) 40 rfl (fun hb4=>jpc 5 rfl<|jpe (vb true)<|joe<|
  jup 46 (vb ((decide (x1.1 < 0)) || ((decide (y0.1 ≤ x1.1)) || ((decide (x1.2 < 0)) || (decide (y0.1 ≤ x1.2)))))) rfl (by rw [hb2,hb3,hb4]; rfl)<|jnn (gv (fun _ k=>k) [0,1] ⟨gk 1,⟨⟩⟩))<|fun hb4=>jfa 1 rfl<|jlo 1 rfl rfl rfl<|jfa 0 rfl<|
  jlo 0 rfl rfl rfl<|jpc 1 rfl<|jpe (vb (decide (y0.1 ≤ x1.2)))<|joe<|jup 46 (vb ((decide (x1.1 < 0)) || ((decide (y0.1 ≤ x1.1)) || ((decide (x1.2 < 0)) || (decide (y0.1 ≤ x1.2)))))) rfl (by rw [hb2,hb3,hb4]; rfl)<|
  jnn (gv (fun _ k=>k) [0,1] ⟨gk 1,⟨⟩⟩))<|fun _ k=>k<|jif rfl (jsr<|jpc 1 rfl<|jot<|jxr<|jtr<|jbr<|jtr<|jlr<|jbr<|jtr<|jr1 rfl rfl (fun _ k=>k) [] ⟨⟩)<|jsk<|jtn<|
  jjn (fun s2 K=>K [(1, pt b1 0), (3, vi s1), (84, vb s2)] [bx b1 27 [vi y0.1, sv p1 y0.2 c1], []] [Rl e_Pair p1 c1 y0.2]) (jdS [] [0, 1] 38<|jdc 35 [0,1,2] rfl<|jsg 49 rfl (jdf 3 1 rfl rfl<|jdo 4 0 rfl rfl rfl rfl<|jdc 31 [5,6] rfl<|
  jdi 7 0 rfl rfl rfl rfl<|fun x2 b4 o2=>jdf 8 0 rfl rfl<|jdl 9 false oI rfl (gf (gk 0)) rfl<|jdf 10 0 rfl rfl<|jdo 11 1 rfl rfl rfl rfl<|jdc 24 [12,13] rfl<|jsg 60 rfl (
  jdc 2 [14,15,16,17,18,19,20,21,22,23,24,25,26,27,28,29,30,31,32,33,34,35] rfl<|jdp 36 (vb true) rfl<|jdp 37 (vb true) rfl<|jde<|jnn (gv (fun _ k=>k) [0,901] ⟨gk 1,⟨⟩⟩))<|jdf 14 1 rfl rfl<|jdo 15 0 rfl rfl rfl rfl<|jdc 20 [16,17] rfl<|
  jdi 18 1 rfl rfl rfl rfl<|fun x3 b5 o3=>jdf 19 0 rfl rfl<|jdl 20 false oI rfl (gf (gk 0)) rfl<|jdf 21 0 rfl rfl<|jdo 22 1 rfl rfl rfl rfl<|jdc 13 [23,24] rfl<|jsg 71 rfl (jdf 25 1 rfl rfl<|jdo 26 0 rfl rfl rfl rfl<|jdc 9 [27,28] rfl<|
  jdi 29 2 rfl rfl rfl rfl<|fun x4 b6 o4=>jdf 30 1 rfl rfl<|jdl 31 false oI rfl (gs (gk 0)) rfl<|jdf 32 1 rfl rfl<|jdo 33 1 rfl rfl rfl rfl<|jdc 3 [34] rfl<|jdp 35 (vb (decide (x1.2 ≤ x4.2))) rfl<|jdp 36 (vb (decide (x1.2 ≤ x4.2))) rfl<|
  jdp 37 (vb (decide (x1.2 ≤ x4.2))) rfl<|jde<|jnn (gv (fun _ k=>k) [0,901] ⟨gk 3,⟨⟩⟩))<|jdc 3 [25,26,27,28,29,30,31,32,33,34] rfl<|jdp 35 (vb false) rfl<|jdp 36 (vb false) rfl<|jdp 37 (vb false) rfl<|jde<|
  jnn (gv (fun _ k=>k) [0,901] ⟨gk 2,⟨⟩⟩))<|jdc 1 [3,4,5,6,7,8,9,10,11,12,13,14,15,16,17,18,19,20,21,22,23,24,25,26,27,28,29,30,31,32,33,34,35,36] rfl<|jdp 37 (vb false) rfl<|jde<|jnn (gv (fun _ k=>k) [0,901] ⟨gk 0,⟨⟩⟩))<|fun s2 _ k=>k<|
  jif rfl (jsr<|jpc 1 rfl<|jot<|jxr<|jbr<|jtr<|jlr<|jbr<|jtr<|jr1 rfl rfl (fun _ k=>k) [] ⟨⟩)<|jsk<|jbn<|jtn<|jrg<|jpc 3 rfl<|joe<|jln (gv (fun _ k=>k) [0] ⟨gk 0,⟨⟩⟩))<|jxe<|jte<|jle<|jbh<|jtn<|jsr<|jpc 1 rfl<|jot<|jxr<|
  jr1 rfl rfl (fun _ k=>k) [] ⟨⟩

theorem c_ref27_New {qd : Prop} {y0 : T_Graph} {y1 : Int} {y2 : Int × Int} : Con qd Tryd.prog 6 [.agg #[vi y0.1, sv p1 y0.2 c1], vi y1, .agg #[vi y2.1, vi y2.2]] [] [Rl e_Pair p1 c1 y0.2] (m_ref27_New y0 y1 y2) fun r K=>∀ p2 c2 p3 c3,K (.tuple #[.agg #[vi r.1.1.1, sv p2 r.1.1.2 c2, vi r.1.2.1, vi r.1.2.2.1.1, vi r.1.2.2.1.2, sv p3 r.1.2.2.2 c3], vi r.2]) [] [Rl e_Pair p2 c2 r.1.1.2, Rl e_Move p3 c3 r.1.2.2.2] :=
 ent3 Tryd.call6 Tryd.func6 rfl fun X=>jsr<|jbx .s rfl<|fun b1=>jbx .s rfl<|fun b2=>jal .s (.agg #[vi 0, .slice none 0 0, vi 0, vi 0, vi 0, .slice none 0 0])<|fun b3=>jpc 1 rfl<|jot<|jsq<|jsr<|jla 0 2 rfl rfl rfl<|jcl c_ref10_Validate rfl ⟨ck 0,⟨⟩⟩<|fun r1 _ k=>k<|jpc 1 rfl<|
  jot<|jsr<|jpc 2 rfl<|jot<|jif rfl (jsr<|jpe (.agg #[vi 0, .slice none 0 0, vi 0, vi 0, vi 0, .slice none 0 0])<|jpc 1 rfl<|jso .s 2 rfl rfl rfl<|jpc 1 rfl<|jot<|jxr<|jtr<|
  jrg' rfl (lC 2 (.agg #[vi 0, .slice none 0 0, vi 0, vi 0, vi 0, .slice none 0 0]) rfl rfl (lT rfl lN)) (fun _ k=>k none 0 none 0) [] ⟨gn,gn,⟨⟩⟩)<|jsk<|jtn<|jsq<|
  jjp (fun K=>K [(1, vi y1), (3, pt b1 0), (5, pt b2 0), (6, pt b3 0), (42, vb ((decide (y1 < 0)) || ((decide (y0.1 ≤ y1)) || ((decide (y2.1 < 1)) || ((decide (200 < y2.1)) || ((decide (y2.2 < 0)) || (decide (200 < y2.2))))))))] [bx b1 27 [vi y0.1, sv p1 y0.2 c1], bx b2 29 [vi y2.1, vi y2.2], bx b3 32 [vi 0, .slice none 0 0, vi 0, vi 0, vi 0, .slice none 0 0]] [Rl e_Pair p1 c1 y0.2]) (
  jrg<|jpc 3 rfl<|jsp (b := decide (y1 < 0)) 17 rfl (fun hb1=>jpc 4 rfl<|jpe (vb true)<|jpc 4 rfl<|jpe (vb true)<|jpc 4 rfl<|jpe (vb true)<|jpc 4 rfl<|jpe (vb true)<|jpc 4 rfl<|jpe (vb true)<|joe<|
  jup 42 (vb ((decide (y1 < 0)) || ((decide (y0.1 ≤ y1)) || ((decide (y2.1 < 1)) || ((decide (200 < y2.1)) || ((decide (y2.2 < 0)) || (decide (200 < y2.2)))))))) rfl (by rw [hb1]; rfl)<|jnn (gv (fun _ k=>k) [0,1,2] ⟨gk 0,⟨⟩⟩))<|fun hb1=>
  jpc 1 rfl<|jfa 0 rfl<|jlo 0 rfl rfl rfl<|jpc 1 rfl<|jpe (vb (decide (y0.1 ≤ y1)))<|jpc 1 rfl<|jsp (b := decide (y0.1 ≤ y1)) 23 rfl (fun hb2=>jpc 3 rfl<|jpe (vb true)<|jpc 4 rfl<|jpe (vb true)<|jpc 4 rfl<|jpe (vb true)<|jpc 4 rfl<|
  jpe (vb true)<|joe<|jup 42 (vb ((decide (y1 < 0)) || ((decide (y0.1 ≤ y1)) || ((decide (y2.1 < 1)) || ((decide (200 < y2.1)) || ((decide (y2.2 < 0)) || (decide (200 < y2.2)))))))) rfl (by rw [hb1,hb2]; rfl)<|
  jnn (gv (fun _ k=>k) [0,1,2] ⟨gk 0,⟨⟩⟩))<|fun hb2=>jv (v := pt b2 0) (fun h=>r_iaddr (k := 2) (sz := 1) h rfl rfl (by kernel_rfl) (by decide) rfl)<|jlo 1 rfl rfl rfl<|jpc 1 rfl<|jpe (vb (decide (y2.1 < 1)))<|jpc 1 rfl<|
  jsp (b := decide (y2.1 < 1)) 28 rfl (fun hb3=>jpc 3 rfl<|jpe (vb true)<|jpc 4 rfl<|jpe (vb true)<|jpc 4 rfl<|jpe (vb true)<|joe<|
  jup 42 (vb ((decide (y1 < 0)) || ((decide (y0.1 ≤ y1)) || ((decide (y2.1 < 1)) || ((decide (200 < y2.1)) || ((decide (y2.2 < 0)) || (decide (200 < y2.2)))))))) rfl (by rw [hb1,hb2,hb3]; rfl)<|jnn (gv (fun _ k=>k) [0,1,2] ⟨gk 0,⟨⟩⟩)
  )<|fun hb3=>jv (v := pt b2 0) (fun h=>r_iaddr (k := 2) (sz := 1) h rfl rfl (by kernel_rfl) (by decide) rfl)<|jlo 1 rfl rfl rfl<|jpc 1 rfl<|jpe (vb (decide (200 < y2.1)))<|jpc 1 rfl<|jsp (b := decide (200 < y2.1)) 33 rfl (fun hb4=>
  jpc 3 rfl<|jpe (vb true)<|jpc 4 rfl<|jpe (vb true)<|joe<|
  jup 42 (vb ((decide (y1 < 0)) || ((decide (y0.1 ≤ y1)) || ((decide (y2.1 < 1)) || ((decide (200 < y2.1)) || ((decide (y2.2 < 0)) || (decide (200 < y2.2)))))))) rfl (by rw [hb1,hb2,hb3,hb4]; rfl)<|jnn (gv (fun _ k=>k) [0,1,2] ⟨gk 0,⟨⟩⟩)
  )<|fun hb4=>jv (v := pt b2 1) (fun h=>r_iaddr (k := 2) (sz := 1) h rfl rfl (by kernel_rfl) (by decide) rfl)<|jlo 1 rfl rfl rfl<|jpc 1 rfl<|jpe (vb (decide (y2.2 < 0)))<|jpc 1 rfl<|jsp (b := decide (y2.2 < 0)) 38 rfl (fun hb5=>jpc 3 rfl<|
  jpe (vb true)<|joe<|jup 42 (vb ((decide (y1 < 0)) || ((decide (y0.1 ≤ y1)) || ((decide (y2.1 < 1)) || ((decide (200 < y2.1)) || ((decide (y2.2 < 0)) || (decide (200 < y2.2)))))))) rfl (by rw [hb1,hb2,hb3,hb4,hb5]; rfl)<|
  jnn (gv (fun _ k=>k) [0,1,2] ⟨gk 0,⟨⟩⟩))<|fun hb5=>jv (v := pt b2 1) (fun h=>r_iaddr (k := 2) (sz := 1) h rfl rfl (by kernel_rfl) (by decide) rfl)<|jlo 1 rfl rfl rfl<|jpc 1 rfl<|jpe (vb (decide (200 < y2.2)))<|joe<|
  jup 42 (vb ((decide (y1 < 0)) || ((decide (y0.1 ≤ y1)) || ((decide (y2.1 < 1)) || ((decide (200 < y2.1)) || ((decide (y2.2 < 0)) || (decide (200 < y2.2)))))))) rfl (by rw [hb1,hb2,hb3,hb4,hb5]; rfl)<|jnn (gv (fun _ k=>k) [0,1,2] ⟨gk 0,⟨⟩⟩)
  )<|fun _ k=>k<|jif rfl (jsr<|jpe (.agg #[vi 0, .slice none 0 0, vi 0, vi 0, vi 0, .slice none 0 0])<|jso .s 2 rfl rfl rfl<|jpc 1 rfl<|jot<|jxr<|jtr<|
  jrg' rfl (lC 2 (.agg #[vi 0, .slice none 0 0, vi 0, vi 0, vi 0, .slice none 0 0]) rfl rfl (lT rfl lN)) (fun _ k=>k none 0 none 0) [] ⟨gn,gn,⟨⟩⟩)<|jsk<|jtn<|jsr<|jla 0 2 rfl rfl rfl<|jpc 1 rfl<|jla 1 2 rfl rfl rfl<|jpc 1 rfl<|
  jpe (.agg #[vi 1, vi 1, vi y1, vi 0])<|jbs .s (e := e_Move) 47 [vi 1, vi 1, vi y1, vi 0] ([(1, 1, y1, 0)] : List T_Move) (rC (vP vI (vP vI (vP vI vI))) rN)<|fun p2 c2=>
  jpe (.agg #[vi y0.1, sv p1 y0.2 c1, vi y1, vi y2.1, vi y2.2, sv p2 ([(1, 1, y1, 0)] : List T_Move) c2])<|jso .s 2 rfl rfl rfl<|jpc 1 rfl<|jot<|jxr<|
  jrg' rfl (lC 2 (.agg #[vi y0.1, sv p1 y0.2 c1, vi y1, vi y2.1, vi y2.2, sv p2 ([(1, 1, y1, 0)] : List T_Move) c2]) rfl rfl (lT rfl lN)) (fun _ k=>k p1 c1 p2 c2) [] ⟨gk 1,gk 0,⟨⟩⟩

theorem k_ref42_digits_all {qd : Prop} (k : Nat) :
    (∀ {y0 : Int}, Con qd Tryd.prog 27 [vi y0] [] [] (k_ref42_digits k y0) fun r K=>K (vs r) [] []) := by
  induction k with
  | zero => exact con0 Tryd.call27
  | succ k ih =>
    have ih_ref42_digits := @ih
    exact @fun y0=>ent3 (m1 := F_ref42_digits (k_ref42_digits k) y0) Tryd.call27 Tryd.func27 rfl fun X=>jsr<|jpc 1 rfl<|jot<|jsq<|jsr<|jpc 2 rfl<|jot<|jif rfl (jsr<|jpc 2 rfl<|jpe (.int .u8 (IntKind.u8.wrap (w64 ((48 : Int) + y0))))<|
  jbs .s (e := eInt .u8) 5 [.int .u8 (IntKind.u8.wrap (w64 ((48 : Int) + y0)))] ([IntKind.u8.wrap (w64 ((48 : Int) + y0))] : List Int) (rC vI rN)<|fun p1 c1=>jsb .s (gk 0) rfl Tryd.underlying74 Tryd.underlying5 Tryd.underlying9<|jpc 1 rfl<|jot<|jxr<|jtr<|
  jr1 rfl rfl (fun _ k=>k) [] ⟨⟩)<|jsk<|jtn<|jjn (fun s1 K=>K [(2, vs s1)] [] []) (jdS [] [] 11<|jdc 10 [0] rfl<|jbd fun x1 h1=>jdv 1 rfl (fun h=>r_quoK h rfl rfl h1)<|jdc 8 [3] rfl<|jbd fun x2 h2=>jdv 4 rfl (fun h=>r_remK h rfl rfl h2)<|
  jdc 6 [5] rfl<|jdp 6 (.int .u8 (IntKind.u8.wrap (w64 ((48 : Int) + x2)))) rfl<|jd2 2 7 (jca (.f rfl) [] [] ih_ref42_digits rfl rfl rfl ⟨⟩<|fun r1 _ k=>k<|jdn<|jd1 7<|
  jbs (.f rfl) (e := eInt .u8) 5 [.int .u8 (IntKind.u8.wrap (w64 ((48 : Int) + x2)))] ([IntKind.u8.wrap (w64 ((48 : Int) + x2))] : List Int) (rC vI rN)<|fun p2 c2=>jdn<|jd1 8<|jsb (.f rfl) (gk 0) rfl Tryd.underlying74 Tryd.underlying5 Tryd.underlying9<|jdn<|
  jbd fun x3 h3=>jdv 9 rfl (fun h=>r_cat h rfl rfl h3)<|jdc 0 [10] rfl<|jde<|jnn (gv (fun _ k=>k) [] ⟨⟩)) <|
  jbs (.f rfl) (e := eInt .u8) 5 [.int .u8 (IntKind.u8.wrap (w64 ((48 : Int) + x2)))] ([IntKind.u8.wrap (w64 ((48 : Int) + x2))] : List Int) (rC vI rN)<|fun p3 c3=>jdn<|jd2 2 8 (jca (.f rfl) [] [] ih_ref42_digits rfl rfl rfl ⟨⟩<|fun r2 _ k=>k<|jdn<|jd1 8<|
  jsb (.f rfl) (gk 0) rfl Tryd.underlying74 Tryd.underlying5 Tryd.underlying9<|jdn<|jbd fun x4 h4=>jdv 9 rfl (fun h=>r_cat h rfl rfl h4)<|jdc 0 [10] rfl<|jde<|jnn (gv (fun _ k=>k) [] ⟨⟩)) <|
  jsb (.f rfl) (gk 0) rfl Tryd.underlying74 Tryd.underlying5 Tryd.underlying9<|jdn<|jd1 2<|jca (.f rfl) [] [] ih_ref42_digits rfl rfl rfl ⟨⟩<|fun r3 _ k=>k<|jdn<|jbd fun x5 h5=>jdv 9 rfl (fun h=>r_cat h rfl rfl h5)<|jdc 0 [10] rfl<|jde<|
  jnn (gv (fun _ k=>k) [] ⟨⟩))<|fun s1 _ k=>k<|jxr<|jr1 rfl rfl (fun _ k=>k) [] ⟨⟩

theorem c_ref42_digits {qd : Prop} {y0 : Int} : Con qd Tryd.prog 27 [vi y0] [] [] (m_ref42_digits y0) fun r K=>K (vs r) [] [] := conLim fun k => (k_ref42_digits_all k)

theorem c_ref42_player {qd : Prop} {y0 : Int} : Con qd Tryd.prog 28 [vi y0] [] [] (m_ref42_player y0) fun r K=>K (vs r) [] [] :=
 ent3 Tryd.call28 Tryd.func28 rfl fun X=>jsr<|jpc 1 rfl<|jot<|jsq<|jsr<|jpc 2 rfl<|jot<|jif rfl (jsr<|jpc 1 rfl<|jot<|jxr<|jtr<|jr1 rfl rfl (fun _ k=>k) [] ⟨⟩)<|jsk<|jtn<|jsr<|jpc 1 rfl<|jot<|jxr<|jr1 rfl rfl (fun _ k=>k) [] ⟨⟩

theorem c_ref42_Dialogue {qd : Prop} {y0 : T_Dialogue} : Con qd Tryd.prog 11 [.agg #[vi y0.1.1, sv p1 y0.1.2 c1, vi y0.2.1, vi y0.2.2.1.1, vi y0.2.2.1.2, sv p2 y0.2.2.2 c2]] [] [Rl e_Pair p1 c1 y0.1.2, Rl e_Move p2 c2 y0.2.2.2] (m_ref42_Dialogue y0) fun r K=>∀ p3 c3,K (sv p3 r c3) [] [Rl eStr p3 c3 r] :=
 ent3 Tryd.call11 Tryd.func11 rfl fun X=>jsr<|jbx .s rfl<|fun b1=>jpc 1 rfl<|jot<|jsr<|jla 0 6 rfl rfl rfl<|jcl c_ref27_Status rfl ⟨ck 0,ck 1,⟨⟩⟩<|fun r1 _ k p3 c3=>k<|jpc 1 rfl<|jot<|jsr<|jpc 1 rfl<|jro eStr 9<|jot<|
  jjn (fun s1 K=>∀ p4 c4 r_1,K [(1, pt b1 0), (4, sv p4 s1 c4)] [bx b1 32 [vi y0.1.1, sv p1 y0.1.2 c1, vi y0.2.1, vi y0.2.2.1.1, vi y0.2.2.1.2, sv p2 y0.2.2.2 c2], r_1] [Al eStr 9 r_1 p4 c4 s1, Rl e_Pair p1 c1 y0.1.2, Rl e_Move p2 c2 y0.2.2.2]) (
  jsr<|jpc 1 rfl<|jot<|jbk<|
  jlp (fun s2 K=>∀ p5 c5 r_2,K [(1, pt b1 0), (3, sv p3 r1 c3), (4, sv p5 s2.1 c5), (5, vi s2.2)] [bx b1 32 [vi y0.1.1, sv p1 y0.1.2 c1, vi y0.2.1, vi y0.2.2.1.1, vi y0.2.2.1.2, sv p2 y0.2.2.2 c2], r_2] [Al eStr 9 r_2 p5 c5 s2.1, Rl (eInt .i64) p3 c3 r1, Rl e_Pair p1 c1 y0.1.2, Rl e_Move p2 c2 y0.2.2.2]) (gv (fun _ k=>k none 0 []) [0,1] ⟨gk 0,gk 1,gk 2,gk 3,⟨⟩⟩)<|
  fun s2 _ k p5 c5 r_2=>k<|jsq<|jsr<|jpc 1 rfl<|jfa 5 rfl<|jlo 0 rfl rfl rfl<|jpc 2 rfl<|jot<|jif rfl (jsk<|jtn<|jsq<|jbk<|jsr<|jfa 5 rfl<|jlo 0 rfl rfl rfl<|jpc 1 rfl<|jix 3 rfl rfl rfl<|fun x1 b2 o1=>jld true o_Move (gk 0) rfl<|
  jal .s (.agg #[vi 0, vi 0, vi 0, vi 0])<|fun b3=>jso .s 2 rfl rfl rfl<|jot<|jds [] [2] 8<|jdc 7 [0] rfl<|jdf 3 0 rfl rfl<|jdo 4 2 rfl rfl rfl rfl<|jd1 1<|jca (.f rfl) [] [] c_ref42_digits rfl rfl rfl ⟨⟩<|fun r2 _ k=>k<|jdn<|jbd fun x2 h1=>
  jdv 2 rfl (fun h=>r_cat h rfl rfl h1)<|jd1 5<|jca (.f rfl) [] [] c_ref42_player rfl rfl rfl ⟨⟩<|fun r3 _ k=>k<|jdn<|jbd fun x3 h2=>jdv 6 rfl (fun h=>r_cat h rfl rfl h2)<|jdc 0 [7] rfl<|jde<|jtn<|jsr<|jpc 1 rfl<|jot<|
  jjn (fun s3 K=>K [(1, pt b1 0), (3, sv p3 r1 c3), (4, sv p5 s2.1 c5), (5, vi s2.2), (6, pt b3 0), (7, vs x3), (8, vs s3)] [bx b1 32 [vi y0.1.1, sv p1 y0.1.2 c1, vi y0.2.1, vi y0.2.2.1.1, vi y0.2.2.1.2, sv p2 y0.2.2.2 c2], r_2, bx b3 47 [vi x1.1, vi x1.2.1, vi x1.2.2.1, vi x1.2.2.2]] [Rl (eInt .i64) p3 c3 r1, Al eStr 9 r_2 p5 c5 s2.1, Rl e_Pair p1 c1 y0.1.2, Rl e_Move p2 c2 y0.2.2.2]) (
  jsr<|jpc 2 rfl<|jix 2 rfl rfl rfl<|fun x4 b4 o2=>jld false oI (gk 0) rfl<|jpc 1 rfl<|jot<|jif rfl (jrg<|jpc 1 rfl<|joe<|jnn (gv (fun _ k=>k) [0,1,2] ⟨gk 3,gk 2,gk 4,gk 5,⟨⟩⟩))<|jsr<|jpc 2 rfl<|jix 3 rfl rfl rfl<|fun x5 b5 o3=>
  jld false oI (gk 0) rfl<|jpc 1 rfl<|jot<|jif rfl (jrg<|jpc 1 rfl<|joe<|jnn (gv (fun _ k=>k) [0,1,2] ⟨gk 4,gk 3,gk 5,gk 6,⟨⟩⟩))<|jsk<|jnn (gv (fun _ k=>k) [0,1,2] ⟨gk 4,gk 3,gk 5,gk 6,⟨⟩⟩))<|fun s3 _ k=>k<|
  jjn (fun s4 K=>K [(1, pt b1 0), (3, sv p3 r1 c3), (4, sv p5 s2.1 c5), (5, vi s2.2), (7, vs s4)] [bx b1 32 [vi y0.1.1, sv p1 y0.1.2 c1, vi y0.2.1, vi y0.2.2.1.1, vi y0.2.2.1.2, sv p2 y0.2.2.2 c2], r_2, []] [Rl (eInt .i64) p3 c3 r1, Al eStr 9 r_2 p5 c5 s2.1, Rl e_Pair p1 c1 y0.1.2, Rl e_Move p2 c2 y0.2.2.2]) (
  jsr<|jfa 1 rfl<|jlo 2 rfl rfl rfl<|jot<|jbk<|jsr<|jpc 2 rfl<|jot<|jif rfl (jrg<|jpc 1 rfl<|jfa 2 rfl<|jlo 2 rfl rfl rfl<|jcl c_ref42_digits rfl ⟨⟩<|fun r4 _ k=>k<|jbd fun x6 h3=>jv (fun h=>r_cat h rfl rfl h3)<|jpc 1 rfl<|jbd fun x7 h4=>
  jv (fun h=>r_cat h rfl rfl h4)<|jbd fun x8 h5=>jv (fun h=>r_cat h rfl rfl h5)<|jpc 1 rfl<|joe<|jbn<|jnn (gv (fun _ k=>k) [0,1,902] ⟨gk 0,gk 1,gk 2,gk 3,⟨⟩⟩))<|jsr<|jpc 2 rfl<|jot<|jif rfl (jdS [] [2] 14<|jdc 13 [0] rfl<|jdf 1 2 rfl rfl<|
  jdo 2 2 rfl rfl rfl rfl<|jdf 6 3 rfl rfl<|jdo 7 2 rfl rfl rfl rfl<|jdc 8 [10] rfl<|jd1 3<|jca (.f rfl) [] [] c_ref42_digits rfl rfl rfl ⟨⟩<|fun r5 _ k=>k<|jdn<|jbd fun x9 h6=>jdv 4 rfl (fun h=>r_cat h rfl rfl h6)<|jbd fun x10 h7=>
  jdv 5 rfl (fun h=>r_cat h rfl rfl h7)<|jd1 8<|jca (.f rfl) [] [] c_ref42_digits rfl rfl rfl ⟨⟩<|fun r6 _ k=>k<|jdn<|jbd fun x11 h8=>jdv 9 rfl (fun h=>r_cat h rfl rfl h8)<|jbd fun x12 h9=>jdv 11 rfl (fun h=>r_cat h rfl rfl h9)<|
  jbd fun x13 h10=>jdv 12 rfl (fun h=>r_cat h rfl rfl h10)<|jdc 0 [13] rfl<|jde<|jbn<|jnn (gv (fun _ k=>k) [0,1,902] ⟨gk 0,gk 1,gk 2,gk 3,⟨⟩⟩))<|jsr<|jpc 2 rfl<|jot<|jif rfl (jrg<|jpc 1 rfl<|jfa 3 rfl<|jlo 2 rfl rfl rfl<|
  jcl c_ref42_digits rfl ⟨⟩<|fun r7 _ k=>k<|jbd fun x14 h11=>jv (fun h=>r_cat h rfl rfl h11)<|jbd fun x15 h12=>jv (fun h=>r_cat h rfl rfl h12)<|jpc 1 rfl<|joe<|jbn<|jnn (gv (fun _ k=>k) [0,1,902] ⟨gk 0,gk 1,gk 2,gk 3,⟨⟩⟩))<|jrg<|jpc 1 rfl<|
  jbd fun x16 h13=>jv (fun h=>r_cat h rfl rfl h13)<|jpc 1 rfl<|joe<|jbn<|jnn (gv (fun _ k=>k) [0,1,902] ⟨gk 0,gk 1,gk 2,gk 3,⟨⟩⟩))<|fun s4 _ k=>k<|jrg<|jpc 2 rfl<|jbs .s (e := eStr) 9 [vs s4] ([s4] : List Str) (rC vS rN)<|fun p6 c6=>
  jar .s 1 2 rfl (gk 0) rfl rfl<|fun x17 r_3 p7 c7=>jpc 1 rfl<|joe<|jbn<|jtn<|jrg<|jpc 3 rfl<|joe<|jln (gv (fun _ k=>k p7 c7 r_3) [0,1] ⟨gk 0,gk 2,gk 4,gk 5,⟨⟩⟩))<|jxe<|jte<|jle<|jbh<|jnn (gv (fun _ k=>k p5 c5 r_2) [0,1] ⟨gk 0,gk 2,gk 3,⟨⟩⟩)
  )<|fun s1 _ k p4 c4 r_1=>k<|jsr<|jla 0 6 rfl rfl rfl<|jcl c_ref27_End rfl ⟨ck 1,ck 2,⟨⟩⟩<|fun r8 _ k=>k<|jal .s (.agg #[vi 0, vi 0])<|fun b6=>jso .s 2 rfl rfl rfl<|jot<|jsq<|jsr<|jfa 1 rfl<|jlo 2 rfl rfl rfl<|jpc 1 rfl<|jot<|jif rfl (jsr<|
  jpc 1 rfl<|jla 0 6 rfl rfl rfl<|jcl c_ref27_Turn rfl ⟨ck 1,ck 2,⟨⟩⟩<|fun r9 _ k=>k<|jcl c_ref42_player rfl ⟨⟩<|fun r10 _ k=>k<|jbd fun x18 h15=>jv (fun h=>r_cat h rfl rfl h15)<|jbd fun x19 h16=>jv (fun h=>r_cat h rfl rfl h16)<|
  jbs .s (e := eStr) 9 [vs x19] ([x19] : List Str) (rC vS rN)<|fun p8 c8=>jar .s 1 1 rfl (gk 0) rfl rfl<|fun x20 r_4 p9 c9=>jpc 1 rfl<|jot<|jxr<|jtr<|jsh 1 0 rfl rfl<|jr1 rfl rfl (fun _ k=>k p9 c9) [] ⟨gk 0,⟨⟩⟩)<|jsk<|jtn<|
  jjn (fun s5 K=>∀ p10 c10 r_5,K [(2, sv p10 s5 c10)] [[], r_5, []] [Al eStr 9 r_5 p10 c10 s5]) (jdS [] [2] 14<|jdc 13 [0] rfl<|jdf 1 0 rfl rfl<|jdo 2 2 rfl rfl rfl rfl<|jdf 6 1 rfl rfl<|jdo 7 2 rfl rfl rfl rfl<|jd2 3 5 (
  jca (.f rfl) [] [] c_ref42_player rfl rfl rfl ⟨⟩<|fun r11 _ k=>k<|jdn<|jbd fun x21 h18=>jdv 4 rfl (fun h=>r_cat h rfl rfl h18)<|jd1 5<|
  jbs (.f rfl) (e := eStr) 9 [vs [], vs [110, 111, 32, 109, 111, 118, 101], vs [110, 111, 32, 116, 105, 109, 101], vs [99, 111, 110, 99, 101, 100, 101, 100], vs [102, 117, 108, 108]] ([[], [110, 111, 32, 109, 111, 118, 101], [110, 111, 32, 116, 105, 109, 101], [99, 111, 110, 99, 101, 100, 101, 100], [102, 117, 108, 108]] : List Str) (rC vS (rC vS (rC vS (rC vS (rC vS rN)))))<|
  fun p11 c11=>jdn<|jdi 8 0 rfl rfl rfl rfl<|fun x22 b7 o4=>jdl 9 false oS rfl (gk 0) rfl<|jbd fun x23 h19=>jdv 10 rfl (fun h=>r_cat h rfl rfl h19)<|jd1 11<|jbs (.f rfl) (e := eStr) 9 [vs x23] ([x23] : List Str) (rC vS rN)<|fun p12 c12=>jdn<|
  jd1 12<|jar (.f rfl) 1 3 rfl (gk 0) rfl rfl<|fun x24 r_6 p13 c13=>jdn<|jdc 0 [13] rfl<|jde<|jnn (gv (fun _ k=>k p13 c13 r_6) [900,1,902] ⟨gk 0,⟨⟩⟩)) <|jcm3<|
  jbs (.f rfl) (e := eStr) 9 [vs [], vs [110, 111, 32, 109, 111, 118, 101], vs [110, 111, 32, 116, 105, 109, 101], vs [99, 111, 110, 99, 101, 100, 101, 100], vs [102, 117, 108, 108]] ([[], [110, 111, 32, 109, 111, 118, 101], [110, 111, 32, 116, 105, 109, 101], [99, 111, 110, 99, 101, 100, 101, 100], [102, 117, 108, 108]] : List Str) (rC vS (rC vS (rC vS (rC vS (rC vS rN)))))<|
  fun p14 c14=>jdn<|jdi 8 0 rfl rfl rfl rfl<|fun x25 b8 o5=>jdl 9 false oS rfl (gk 0) rfl<|jd1 3<|jca (.f rfl) [] [] c_ref42_player rfl rfl rfl ⟨⟩<|fun r12 _ k=>k<|jdn<|jbd fun x26 h21=>jdv 4 rfl (fun h=>r_cat h rfl rfl h21)<|
  jbd fun x27 h22=>jdv 10 rfl (fun h=>r_cat h rfl rfl h22)<|jd1 11<|jbs (.f rfl) (e := eStr) 9 [vs x27] ([x27] : List Str) (rC vS rN)<|fun p15 c15=>jdn<|jd1 12<|jar (.f rfl) 1 3 rfl (gk 0) rfl rfl<|fun x28 r_7 p16 c16=>jdn<|jdc 0 [13] rfl<|
  jde<|jnn (gv (fun _ k=>k p16 c16 r_7) [900,1,902] ⟨gk 0,⟨⟩⟩))<|fun s5 _ k p10 c10 r_5=>k<|jxr<|jsh 1 0 rfl rfl<|jr1 rfl rfl (fun _ k=>k p10 c10) [] ⟨gk 0,⟨⟩⟩

theorem c_protocol_attacks {qd : Prop} {y0 : List T_Move} {y1 : Int} : Con qd Tryd.prog 33 [sv p1 y0 c1, vi y1] [] [Rl e_Move p1 c1 y0] (m_protocol_attacks y0 y1) fun r K=>K (vb r) [] [] :=
 ent3 Tryd.call33 Tryd.func33 rfl fun X=>jsr<|jpc 1 rfl<|jot<|jjn (fun s1 K=>K [(4, vb s1)] [] []) (jrg<|jpc 2 rfl<|jix 0 rfl rfl rfl<|fun x1 b1 o1=>jfa 1 rfl<|jld false oI (gf (gs (gk 0))) rfl<|jpc 2 rfl<|jsg 11 rfl (jpc 2 rfl<|jix 1 rfl rfl rfl<|fun x2 b2 o2=>jfa 3 rfl<|
  jld false oI (gs (gs (gs (gk 0)))) rfl<|jpc 1 rfl<|jpe (vb (decide (0 ≤ x2.2.2.2)))<|jpc 1 rfl<|jsg 19 rfl (jpc 2 rfl<|jix 2 rfl rfl rfl<|fun x3 b3 o3=>jfa 3 rfl<|jld false oI (gs (gs (gs (gk 0)))) rfl<|jpc 2 rfl<|
  jpe (vb (decide (x3.2.2.2 < y1)))<|jpc 1 rfl<|joe<|jnn (gv (fun _ k=>k) [] ⟨⟩))<|jpc 7 rfl<|jpe (vb false)<|jpc 1 rfl<|joe<|jnn (gv (fun _ k=>k) [] ⟨⟩))<|jpc 6 rfl<|jpe (vb false)<|jpc 8 rfl<|jpe (vb false)<|jpc 1 rfl<|joe<|
  jnn (gv (fun _ k=>k) [] ⟨⟩))<|fun s1 _ k=>k<|jxr<|jr1 rfl rfl (fun _ k=>k) [] ⟨⟩

theorem c_protocol_Status {qd : Prop} {y0 : T_Dialogue} : Con qd Tryd.prog 20 [.agg #[vi y0.1.1, sv p1 y0.1.2 c1, vi y0.2.1, vi y0.2.2.1.1, vi y0.2.2.1.2, sv p2 y0.2.2.2 c2]] [] [Rl e_Pair p1 c1 y0.1.2, Rl e_Move p2 c2 y0.2.2.2] (m_protocol_Status y0) fun r K=>∀ p3 c3,K (sv p3 r c3) [] [Rl (eInt .i64) p3 c3 r] :=
 ent3 Tryd.call20 Tryd.func20 rfl fun X=>jsr<|jbx .s rfl<|fun b1=>jpc 1 rfl<|jot<|jsr<|jfa 5 rfl<|jlo 0 rfl rfl rfl<|jpc 1 rfl<|jmk .s (e := eInt .i64) 3 (0 : Int) (vi 0) vI rfl rfl<|fun x1 r_1 p3 c3=>jpc 1 rfl<|jot<|jsr<|jfa 5 rfl<|jlo 0 rfl rfl rfl<|jpc 1 rfl<|
  jmk .s (e := eBool) 4 (false : Bool) (vb false) vB rfl rfl<|fun x2 r_2 p4 c4=>jpc 1 rfl<|jot<|
  jjn (fun s1 K=>∀ r_3,K [(1, pt b1 0), (3, sv p3 x1 c3), (4, .slice p4 (List.length x2) c4)] [bx b1 32 [vi y0.1.1, sv p1 y0.1.2 c1, vi y0.2.1, vi y0.2.2.1.1, vi y0.2.2.1.2, sv p2 y0.2.2.2 c2], r_1, r_3] [Ar eBool 4 r_3 p4 c4 (List.length x2) s1, Al (eInt .i64) 3 r_1 p3 c3 x1, Rl e_Pair p1 c1 y0.1.2, Rl e_Move p2 c2 y0.2.2.2]) (
  jsr<|jfa 5 rfl<|jlo 0 rfl rfl rfl<|jpc 2 rfl<|jot<|jbk<|
  jlp (fun s2 K=>∀ r_4,K [(1, pt b1 0), (3, sv p3 x1 c3), (4, .slice p4 (List.length x2) c4), (18, sv p2 y0.2.2.2 c2), (19, vi (len y0.2.2.2)), (20, vi s2.2)] [bx b1 32 [vi y0.1.1, sv p1 y0.1.2 c1, vi y0.2.1, vi y0.2.2.1.1, vi y0.2.2.1.2, sv p2 y0.2.2.2 c2], r_1, r_4] [Ar eBool 4 r_4 p4 c4 (List.length x2) s2.1, Al (eInt .i64) 3 r_1 p3 c3 x1, Rl e_Move p2 c2 y0.2.2.2, Rl e_Pair p1 c1 y0.1.2]) (gv (fun _ k=>k r_2) [0,1,2] ⟨gk 0,gk 1,gk 3,gk 2,⟨⟩⟩)<|
  fun s2 _ k r_4=>k<|jsr<|jpc 1 rfl<|jot<|jsq<|jif rfl (jsk<|jtn<|jsq<|jbk<|jsr<|jix 2 rfl rfl rfl<|fun x3 b2 o1=>jld true o_Move (gk 0) rfl<|jal .s (.agg #[vi 0, vi 0, vi 0, vi 0])<|fun b3=>jso .s 3 rfl rfl rfl<|jot<|
  jjp (fun K=>K [(1, pt b1 0), (3, sv p3 x1 c3), (4, .slice p4 (List.length x2) c4), (6, pt b3 0), (18, sv p2 y0.2.2.2 c2), (19, vi (len y0.2.2.2)), (20, vi s2.2), (38, vb ((x3.2.1 == 3) && ((decide (0 ≤ x3.2.2.2)) && (decide (x3.2.2.2 < (len x2))))))] [bx b1 32 [vi y0.1.1, sv p1 y0.1.2 c1, vi y0.2.1, vi y0.2.2.1.1, vi y0.2.2.1.2, sv p2 y0.2.2.2 c2], r_1, r_4, bx b3 47 [vi x3.1, vi x3.2.1, vi x3.2.2.1, vi x3.2.2.2]] [Al (eInt .i64) 3 r_1 p3 c3 x1, Ar eBool 4 r_4 p4 c4 (List.length x2) s2.1, Rl e_Move p2 c2 y0.2.2.2, Rl e_Pair p1 c1 y0.1.2]) (
  jrg<|jfa 1 rfl<|jlo 3 rfl rfl rfl<|jpc 2 rfl<|jsp (b := x3.2.1 == 3) 27 rfl (fun hb1=>jfa 3 rfl<|jlo 3 rfl rfl rfl<|jpc 1 rfl<|jpe (vb (decide (0 ≤ x3.2.2.2)))<|jpc 1 rfl<|jsp (b := decide (0 ≤ x3.2.2.2)) 32 rfl (fun hb2=>jfa 3 rfl<|
  jlo 3 rfl rfl rfl<|jpc 3 rfl<|jpe (vb (decide (x3.2.2.2 < (len x2))))<|joe<|jup 38 (vb ((x3.2.1 == 3) && ((decide (0 ≤ x3.2.2.2)) && (decide (x3.2.2.2 < (len x2)))))) rfl (by rw [hb1,hb2]; rfl)<|
  jnn (gv (fun _ k=>k) [0,1,2,3] ⟨gk 2,gk 1,gk 3,gk 4,⟨⟩⟩))<|fun hb2=>jpc 5 rfl<|jpe (vb false)<|joe<|jup 38 (vb ((x3.2.1 == 3) && ((decide (0 ≤ x3.2.2.2)) && (decide (x3.2.2.2 < (len x2)))))) rfl (by rw [hb1,hb2]; rfl)<|
  jnn (gv (fun _ k=>k) [0,1,2,3] ⟨gk 2,gk 1,gk 3,gk 4,⟨⟩⟩))<|fun hb1=>jpc 3 rfl<|jpe (vb false)<|jpc 6 rfl<|jpe (vb false)<|joe<|
  jup 38 (vb ((x3.2.1 == 3) && ((decide (0 ≤ x3.2.2.2)) && (decide (x3.2.2.2 < (len x2)))))) rfl (by rw [hb1]; rfl)<|jnn (gv (fun _ k=>k) [0,1,2,3] ⟨gk 2,gk 1,gk 3,gk 4,⟨⟩⟩))<|fun _ k=>k<|jif rfl (jrg<|jpc 1 rfl<|jfa 3 rfl<|
  jlo 3 rfl rfl rfl<|jia 1 rfl rfl rfl<|fun x4 h1 b4 hp1=>jsA .s 2 1 sI true false rfl hp1 h1 rfl rfl vB<|fun r_5=>joe<|jbn<|jtn<|jrg<|jpc 2 rfl<|joe<|jln (gv (fun _ k=>k r_5) [0,1,2] ⟨gk 0,gk 1,gk 3,gk 4,⟨⟩⟩))<|jsk<|jbn<|jtn<|jrg<|
  jpc 2 rfl<|joe<|jln (gv (fun _ k=>k r_4) [0,1,2] ⟨gk 1,gk 0,gk 2,gk 3,⟨⟩⟩))<|jxe<|jte<|jle<|jbh<|jnn (gv (fun _ k=>k r_4) [0,1,2] ⟨gk 0,gk 1,gk 3,gk 2,⟨⟩⟩))<|fun s1 _ k r_3=>k<|
  jjn (fun s3 K=>∀ r_6,K [(1, pt b1 0), (3, .slice p3 (List.length x1) c3)] [bx b1 32 [vi y0.1.1, sv p1 y0.1.2 c1, vi y0.2.1, vi y0.2.2.1.1, vi y0.2.2.1.2, sv p2 y0.2.2.2 c2], r_6, []] [Ar (eInt .i64) 3 r_6 p3 c3 (List.length x1) s3, Rl e_Pair p1 c1 y0.1.2, Rl e_Move p2 c2 y0.2.2.2]) (
  jsr<|jfa 5 rfl<|jlo 0 rfl rfl rfl<|jpc 2 rfl<|jot<|jbk<|
  jlp (fun s4 K=>∀ r_7,K [(1, pt b1 0), (3, .slice p3 (List.length x1) c3), (4, .slice p4 (List.length x2) c4), (46, vi (len y0.2.2.2)), (47, vi s4.2)] [bx b1 32 [vi y0.1.1, sv p1 y0.1.2 c1, vi y0.2.1, vi y0.2.2.1.1, vi y0.2.2.1.2, sv p2 y0.2.2.2 c2], r_7, r_3] [Ar (eInt .i64) 3 r_7 p3 c3 (List.length x1) s4.1, Ar eBool 4 r_3 p4 c4 (List.length x2) s1, Rl e_Pair p1 c1 y0.1.2, Rl e_Move p2 c2 y0.2.2.2]) (gv (fun _ k=>k r_1) [0,1,2] ⟨gk 1,gk 0,gk 2,gk 3,⟨⟩⟩)<|
  fun s4 _ k r_7=>k<|jsr<|jpc 1 rfl<|jot<|jsq<|jif rfl (jsk<|jtn<|jsq<|jbk<|jsr<|jpc 2 rfl<|jot<|
  jjn (fun s5 K=>K [(1, pt b1 0), (3, .slice p3 (List.length x1) c3), (4, .slice p4 (List.length x2) c4), (7, vi s4.2), (46, vi (len y0.2.2.2)), (47, vi s4.2), (76, vb s5)] [bx b1 32 [vi y0.1.1, sv p1 y0.1.2 c1, vi y0.2.1, vi y0.2.2.1.1, vi y0.2.2.1.2, sv p2 y0.2.2.2 c2], r_7, r_3] [Ar (eInt .i64) 3 r_7 p3 c3 (List.length x1) s4.1, Ar eBool 4 r_3 p4 c4 (List.length x2) s1, Rl e_Pair p1 c1 y0.1.2, Rl e_Move p2 c2 y0.2.2.2]) (
  jrg<|jpc 3 rfl<|jsg 52 rfl (jpc 23 rfl<|jpe (vb true)<|joe<|jnn (gv (fun _ k=>k) [0,1,2] ⟨gk 0,gk 1,gk 2,gk 3,⟨⟩⟩))<|jfa 5 rfl<|jlo 0 rfl rfl rfl<|jpc 1 rfl<|jcl c_protocol_attacks rfl ⟨ck 3,⟨⟩⟩<|fun r1 _ k=>k<|jpc 1 rfl<|jsg 57 rfl (
  jpc 2 rfl<|jia 1 rfl rfl rfl<|fun x5 h2 b5 hp2=>jlA 2 1 sI false oB rfl hp2 h2 rfl<|jpc 1 rfl<|jpe (vb (!x5))<|jpc 1 rfl<|jsg 64 rfl (jpc 1 rfl<|jfa 5 rfl<|jlo 0 rfl rfl rfl<|jpc 1 rfl<|jix 3 rfl rfl rfl<|fun x6 b6 o2=>jfa 3 rfl<|
  jld false oI (gs (gs (gs (gk 0)))) rfl<|jia 1 rfl rfl rfl<|fun x7 h3 b7 hp3=>jlA 1 1 sI false oI rfl hp3 h3 rfl<|jpc 1 rfl<|jpe (vb (x7 != 0))<|jpe (vb (x7 != 0))<|joe<|jnn (gv (fun _ k=>k) [0,1,2] ⟨gk 1,gk 2,gk 3,gk 4,⟨⟩⟩))<|jpc 10 rfl<|
  jpe (vb false)<|jpe (vb false)<|joe<|jnn (gv (fun _ k=>k) [0,1,2] ⟨gk 0,gk 1,gk 2,gk 3,⟨⟩⟩))<|jpc 5 rfl<|jpe (vb false)<|jpc 11 rfl<|jpe (vb false)<|jpe (vb false)<|joe<|jnn (gv (fun _ k=>k) [0,1,2] ⟨gk 0,gk 1,gk 2,gk 3,⟨⟩⟩))<|fun s5 _ k=>
  k<|jif rfl (jrg<|jpc 2 rfl<|jia 0 rfl rfl rfl<|fun x8 h4 b8 hp4=>jsA .s 1 0 sI 1 false rfl hp4 h4 rfl rfl vI<|fun r_8=>joe<|jbn<|jtn<|jrg<|jpc 2 rfl<|joe<|jln (gv (fun _ k=>k r_8) [0,1,2] ⟨gk 0,gk 2,gk 3,gk 4,⟨⟩⟩))<|jsk<|jbn<|jtn<|jrg<|
  jpc 2 rfl<|joe<|jln (gv (fun _ k=>k r_7) [0,1,2] ⟨gk 0,gk 1,gk 2,gk 3,⟨⟩⟩))<|jxe<|jte<|jle<|jbh<|jnn (gv (fun _ k=>k r_7) [0,1,902] ⟨gk 0,gk 2,gk 3,⟨⟩⟩))<|fun s3 _ k r_6=>k<|jsq<|jsr<|jpc 4 rfl<|jot<|jbk<|
  jlp (fun s6 K=>∀ r_9,K [(1, pt b1 0), (3, .slice p3 (List.length x1) c3), (8, vi s6.2)] [bx b1 32 [vi y0.1.1, sv p1 y0.1.2 c1, vi y0.2.1, vi y0.2.2.1.1, vi y0.2.2.1.2, sv p2 y0.2.2.2 c2], r_9, []] [Ar (eInt .i64) 3 r_9 p3 c3 (List.length x1) s6.1, Rl e_Pair p1 c1 y0.1.2, Rl e_Move p2 c2 y0.2.2.2]) (gv (fun _ k=>k r_6) [0,1,902] ⟨gk 0,gk 1,gk 2,⟨⟩⟩)<|
  fun s6 _ k r_9=>k<|jsq<|jsr<|jpc 2 rfl<|jot<|jif rfl (jsk<|jtn<|jsq<|jbk<|jsr<|jpc 2 rfl<|jia 0 rfl rfl rfl<|fun x9 h5 b9 hp5=>jlA 1 0 sI false oI rfl hp5 h5 rfl<|jpc 1 rfl<|jot<|jif rfl (jrg<|jpc 1 rfl<|jfa 5 rfl<|jlo 0 rfl rfl rfl<|
  jpc 1 rfl<|jix 2 rfl rfl rfl<|fun x10 b10 o3=>jfa 3 rfl<|jld false oI (gs (gs (gs (gk 0)))) rfl<|jia 1 rfl rfl rfl<|fun x11 h6 b11 hp6=>jsA .s 1 1 sI 2 false rfl hp6 h6 rfl rfl vI<|fun r_10=>joe<|jbn<|jtn<|jrg<|jpc 3 rfl<|joe<|
  jln (gv (fun _ k=>k r_10) [0,1,902] ⟨gk 0,gk 3,gk 4,⟨⟩⟩))<|jsk<|jbn<|jtn<|jrg<|jpc 3 rfl<|joe<|jln (gv (fun _ k=>k r_9) [0,1,902] ⟨gk 0,gk 1,gk 2,⟨⟩⟩))<|jxe<|jte<|jle<|jbh<|jtn<|jsr<|jpc 2 rfl<|jot<|jxr<|jsh 1 0 rfl rfl<|jre 0 2 rfl rfl<|
  jr1 rfl rfl (fun _ k=>k p3 c3) [] ⟨gk 0,⟨⟩⟩

theorem c_protocol_of {qd : Prop} {y0 : T_Dialogue} : Con qd Tryd.prog 35 [.agg #[vi y0.1.1, sv p1 y0.1.2 c1, vi y0.2.1, vi y0.2.2.1.1, vi y0.2.2.1.2, sv p2 y0.2.2.2 c2]] [] [Rl e_Pair p1 c1 y0.1.2, Rl e_Move p2 c2 y0.2.2.2] (m_protocol_of y0) fun r K=>∀ p3 c3 p4 c4 p5 c5 p6 c6,K (.agg #[vi r.1.1.1, sv p3 r.1.1.2 c3, vi r.1.2.1, vi r.1.2.2.1.1, vi r.1.2.2.1.2, sv p4 r.1.2.2.2 c4, sv p5 r.2.1 c5, vi r.2.2.1, sv p6 r.2.2.2 c6]) [] [Rl e_Pair p3 c3 r.1.1.2, Rl e_Move p4 c4 r.1.2.2.2, Rl (eInt .i64) p5 c5 r.2.1, Rl eBool p6 c6 r.2.2.2] :=
 ent3 Tryd.call35 Tryd.func35 rfl fun X=>jsr<|jbx .s rfl<|fun b1=>jal .s (.agg #[vi 0, .slice none 0 0, vi 0, vi 0, vi 0, .slice none 0 0, .slice none 0 0, vi 0, .slice none 0 0])<|fun b2=>jot<|
  jjn (fun s1 K=>∀ b3 p3 c3 p4 c4 p5 c5 p6 c6 r_1,K [(1, pt b1 0), (2, pt b2 0), (3, pt b3 0)] [bx b1 32 [vi y0.1.1, sv p1 y0.1.2 c1, vi y0.2.1, vi y0.2.2.1.1, vi y0.2.2.1.2, sv p2 y0.2.2.2 c2], bx b2 70 [vi 0, .slice none 0 0, vi 0, vi 0, vi 0, .slice none 0 0, .slice none 0 0, vi 0, .slice none 0 0], bx b3 70 [vi s1.1.1.1, sv p3 s1.1.1.2 c3, vi s1.1.2.1, vi s1.1.2.2.1.1, vi s1.1.2.2.1.2, sv p4 s1.1.2.2.2 c4, sv p5 s1.2.1 c5, vi s1.2.2.1, sv p6 s1.2.2.2 c6], r_1] [Rl e_Pair p3 c3 s1.1.1.2, Rl e_Move p4 c4 s1.1.2.2.2, Rl (eInt .i64) p5 c5 s1.2.1, Al eBool 4 r_1 p6 c6 s1.2.2.2, Rl e_Pair p1 c1 y0.1.2, Rl e_Move p2 c2 y0.2.2.2]) (
  jdS [] [0] 10<|jda 0 0 6 rfl rfl rfl rfl<|jda 1 0 6 rfl rfl rfl rfl<|jdf 3 5 rfl rfl<|jdo 4 0 rfl rfl rfl rfl<|jdc 5 [5] rfl<|jd3 2 6 8 (jca (.f rfl) [] [] c_protocol_Status rfl rfl rfl ⟨ck 0,ck 1,⟨⟩⟩<|fun r1 _ k p7 c7=>k<|jdn<|jd2 6 8 (
  jmk (.f rfl) (e := eBool) 4 (false : Bool) (vb false) vB rfl rfl<|fun x1 r_2 p8 c8=>jdn<|jdp 7 (.agg #[vi y0.1.1, sv p1 y0.1.2 c1, vi y0.2.1, vi y0.2.2.1.1, vi y0.2.2.1.2, sv p2 y0.2.2.2 c2, sv p7 r1 c7, vi 1, sv p8 x1 c8]) rfl<|jd1 8<|
  jal (.f rfl) (.agg #[vi 0, .slice none 0 0, vi 0, vi 0, vi 0, .slice none 0 0, .slice none 0 0, vi 0, .slice none 0 0])<|fun b4=>jdn<|jd1 9<|jso (o := 0) (.f rfl) 3 rfl rfl rfl<|jdn<|jde<|
  jnn (gv (fun _ k=>k b4 p1 c1 p2 c2 p7 c7 p8 c8 r_2) [0,1,3,2] ⟨gk 2,gk 3,gk 1,gk 0,gk 2,gk 3,⟨⟩⟩)) <|jal (.f rfl) (.agg #[vi 0, .slice none 0 0, vi 0, vi 0, vi 0, .slice none 0 0, .slice none 0 0, vi 0, .slice none 0 0])<|fun b5=>jdn<|
  jd1 6<|jmk (.f rfl) (e := eBool) 4 (false : Bool) (vb false) vB rfl rfl<|fun x2 r_3 p9 c9=>jdn<|jdp 7 (.agg #[vi y0.1.1, sv p1 y0.1.2 c1, vi y0.2.1, vi y0.2.2.1.1, vi y0.2.2.1.2, sv p2 y0.2.2.2 c2, sv p7 r1 c7, vi 1, sv p9 x2 c9]) rfl<|
  jd1 9<|jso (o := 0) (.f rfl) 2 rfl rfl rfl<|jdn<|jde<|jnn (gv (fun _ k=>k b5 p1 c1 p2 c2 p7 c7 p9 c9 r_3) [0,1,2,3] ⟨gk 2,gk 3,gk 1,gk 0,gk 2,gk 3,⟨⟩⟩)) (jcm<|jmk (.f rfl) (e := eBool) 4 (false : Bool) (vb false) vB rfl rfl<|
  fun x3 r_4 p10 c10=>jdn<|jd2 2 8 (jca (.f rfl) [] [] c_protocol_Status rfl rfl rfl ⟨ck 1,ck 2,⟨⟩⟩<|fun r2 _ k p11 c11=>k<|jdn<|
  jdp 7 (.agg #[vi y0.1.1, sv p1 y0.1.2 c1, vi y0.2.1, vi y0.2.2.1.1, vi y0.2.2.1.2, sv p2 y0.2.2.2 c2, sv p11 r2 c11, vi 1, sv p10 x3 c10]) rfl<|jd1 8<|
  jal (.f rfl) (.agg #[vi 0, .slice none 0 0, vi 0, vi 0, vi 0, .slice none 0 0, .slice none 0 0, vi 0, .slice none 0 0])<|fun b6=>jdn<|jd1 9<|jso (o := 0) (.f rfl) 3 rfl rfl rfl<|jdn<|jde<|
  jnn (gv (fun _ k=>k b6 p1 c1 p2 c2 p11 c11 p10 c10 r_4) [0,1,3,2] ⟨gk 2,gk 3,gk 0,gk 1,gk 2,gk 3,⟨⟩⟩)) <|jal (.f rfl) (.agg #[vi 0, .slice none 0 0, vi 0, vi 0, vi 0, .slice none 0 0, .slice none 0 0, vi 0, .slice none 0 0])<|fun b7=>jdn<|
  jd1 2<|jca (.f rfl) [] [] c_protocol_Status rfl rfl rfl ⟨ck 1,ck 2,⟨⟩⟩<|fun r3 _ k p12 c12=>k<|jdn<|
  jdp 7 (.agg #[vi y0.1.1, sv p1 y0.1.2 c1, vi y0.2.1, vi y0.2.2.1.1, vi y0.2.2.1.2, sv p2 y0.2.2.2 c2, sv p12 r3 c12, vi 1, sv p10 x3 c10]) rfl<|jd1 9<|jso (o := 0) (.f rfl) 3 rfl rfl rfl<|jdn<|jde<|
  jnn (gv (fun _ k=>k b7 p1 c1 p2 c2 p12 c12 p10 c10 r_4) [0,1,3,2] ⟨gk 2,gk 3,gk 0,gk 1,gk 2,gk 3,⟨⟩⟩)) <|jal (.f rfl) (.agg #[vi 0, .slice none 0 0, vi 0, vi 0, vi 0, .slice none 0 0, .slice none 0 0, vi 0, .slice none 0 0])<|fun b8=>jdn<|
  jd2 2 6 (jca (.f rfl) [] [] c_protocol_Status rfl rfl rfl ⟨ck 0,ck 1,⟨⟩⟩<|fun r4 _ k p13 c13=>k<|jdn<|jd1 6<|jmk (.f rfl) (e := eBool) 4 (false : Bool) (vb false) vB rfl rfl<|fun x4 r_5 p14 c14=>jdn<|
  jdp 7 (.agg #[vi y0.1.1, sv p1 y0.1.2 c1, vi y0.2.1, vi y0.2.2.1.1, vi y0.2.2.1.2, sv p2 y0.2.2.2 c2, sv p13 r4 c13, vi 1, sv p14 x4 c14]) rfl<|jd1 9<|jso (o := 0) (.f rfl) 2 rfl rfl rfl<|jdn<|jde<|
  jnn (gv (fun _ k=>k b8 p1 c1 p2 c2 p13 c13 p14 c14 r_5) [0,1,2,3] ⟨gk 2,gk 3,gk 1,gk 0,gk 2,gk 3,⟨⟩⟩)) <|jcm<|jmk (.f rfl) (e := eBool) 4 (false : Bool) (vb false) vB rfl rfl<|fun x5 r_6 p15 c15=>jdn<|jd1 2<|
  jca (.f rfl) [] [] c_protocol_Status rfl rfl rfl ⟨ck 1,ck 2,⟨⟩⟩<|fun r5 _ k p16 c16=>k<|jdn<|jdp 7 (.agg #[vi y0.1.1, sv p1 y0.1.2 c1, vi y0.2.1, vi y0.2.2.1.1, vi y0.2.2.1.2, sv p2 y0.2.2.2 c2, sv p16 r5 c16, vi 1, sv p15 x5 c15]) rfl<|
  jd1 9<|jso (o := 0) (.f rfl) 2 rfl rfl rfl<|jdn<|jde<|jnn (gv (fun _ k=>k b8 p1 c1 p2 c2 p16 c16 p15 c15 r_6) [0,1,2,3] ⟨gk 2,gk 3,gk 0,gk 1,gk 2,gk 3,⟨⟩⟩))<|fun s1 _ k b3 p3 c3 p4 c4 p5 c5 p6 c6 r_1=>k<|
  jjn (fun s2 K=>K [(1, pt b1 0), (2, pt b2 0), (3, pt b3 0)] [bx b1 32 [vi y0.1.1, sv p1 y0.1.2 c1, vi y0.2.1, vi y0.2.2.1.1, vi y0.2.2.1.2, sv p2 y0.2.2.2 c2], bx b2 70 [vi 0, .slice none 0 0, vi 0, vi 0, vi 0, .slice none 0 0, .slice none 0 0, vi 0, .slice none 0 0], bx b3 70 [vi s1.1.1.1, sv p3 s1.1.1.2 c3, vi s1.1.2.1, vi s1.1.2.2.1.1, vi s1.1.2.2.1.2, sv p4 s1.1.2.2.2 c4, sv p5 s1.2.1 c5, vi s2, sv p6 s1.2.2.2 c6], r_1] [Rl e_Pair p1 c1 y0.1.2, Rl e_Move p2 c2 y0.2.2.2, Rl e_Pair p3 c3 s1.1.1.2, Rl e_Move p4 c4 s1.1.2.2.2, Rl (eInt .i64) p5 c5 s1.2.1, Al eBool 4 r_1 p6 c6 s1.2.2.2]) (
  jsr<|jfa 6 rfl<|jlo 2 rfl rfl rfl<|jix 2 rfl rfl rfl<|fun x6 b9 o1=>jld false oI (gk 0) rfl<|jpc 1 rfl<|jot<|jif rfl (jrg<|jfa 7 rfl<|jso .s 2 rfl rfl rfl<|joe<|jnn (gv (fun _ k=>k) [0,1,2,3] ⟨gk 5,gk 6,gk 1,gk 2,gk 3,gk 4,⟨⟩⟩))<|jsk<|
  jnn (gv (fun _ k=>k) [0,1,2,3] ⟨gk 5,gk 6,gk 1,gk 2,gk 3,gk 4,⟨⟩⟩))<|fun s2 _ k=>k<|jsr<|jfa 8 rfl<|jlo 2 rfl rfl rfl<|jia 5 rfl rfl rfl<|fun x7 h1 b10 hp1=>jsA .s 3 5 sI true false rfl hp1 h1 rfl rfl vB<|fun r_7=>jot<|
  jjn (fun s3 K=>∀ p17 c17 r_8,K [(2, pt b2 0), (3, pt b3 0)] [[], bx b2 70 [vi 0, .slice none 0 0, vi 0, vi 0, vi 0, .slice none 0 0, .slice none 0 0, vi 0, .slice none 0 0], bx b3 70 [vi s1.1.1.1, sv p3 s1.1.1.2 c3, vi s1.1.2.1, vi s1.1.2.2.1.1, vi s1.1.2.2.1.2, sv p4 s1.1.2.2.2 c4, sv p5 s1.2.1 c5, vi s2, sv p17 s3 c17], r_8] [Al eBool 4 r_8 p17 c17 s3, Rl e_Pair p3 c3 s1.1.1.2, Rl e_Move p4 c4 s1.1.2.2.2, Rl (eInt .i64) p5 c5 s1.2.1]) (
  jsr<|jpc 1 rfl<|jot<|jbk<|
  jbL (fun q_=>[bx b1 32 [vi y0.1.1, sv p1 y0.1.2 c1, vi y0.2.1, vi y0.2.2.1.1, vi y0.2.2.1.2, sv p2 y0.2.2.2 c2], bx b2 70 [vi 0, .slice none 0 0, vi 0, vi 0, vi 0, .slice none 0 0, .slice none 0 0, vi 0, .slice none 0 0], bx b3 70 [vi s1.1.1.1, sv p3 s1.1.1.2 c3, vi s1.1.2.1, vi s1.1.2.2.1.1, vi s1.1.2.2.1.2, sv p4 s1.1.2.2.2 c4, sv p5 s1.2.1 c5, vi s2, .slice p6 q_ c6], r_7]) (gk 0) rfl<|
  jlp (fun s4 K=>∀ p18 c18 r_9,K [(1, pt b1 0), (2, pt b2 0), (3, pt b3 0), (4, vi s4.1)] [bx b1 32 [vi y0.1.1, sv p1 y0.1.2 c1, vi y0.2.1, vi y0.2.2.1.1, vi y0.2.2.1.2, sv p2 y0.2.2.2 c2], bx b2 70 [vi 0, .slice none 0 0, vi 0, vi 0, vi 0, .slice none 0 0, .slice none 0 0, vi 0, .slice none 0 0], bx b3 70 [vi s1.1.1.1, sv p3 s1.1.1.2 c3, vi s1.1.2.1, vi s1.1.2.2.1.1, vi s1.1.2.2.1.2, sv p4 s1.1.2.2.2 c4, sv p5 s1.2.1 c5, vi s2, sv p18 s4.2 c18], r_9] [Al eBool 4 r_9 p18 c18 s4.2, Rl e_Pair p1 c1 y0.1.2, Rl e_Move p2 c2 y0.2.2.2, Rl e_Pair p3 c3 s1.1.1.2, Rl e_Move p4 c4 s1.1.2.2.2, Rl (eInt .i64) p5 c5 s1.2.1]) (gv (fun _ k=>k p6 c6 r_7) [0,1,2,3] ⟨gk 0,gk 2,gk 3,gk 4,gk 5,gk 6,⟨⟩⟩)<|
  fun s4 _ k p18 c18 r_9=>k<|jsq<|jsr<|jpc 1 rfl<|jfa 5 rfl<|jlo 0 rfl rfl rfl<|jpc 2 rfl<|jot<|jif rfl (jsk<|jtn<|jsq<|jbk<|jsq<|
  jjn (fun s5 K=>K [(1, pt b1 0), (2, pt b2 0), (3, pt b3 0), (4, vi s4.1), (47, vb s5)] [bx b1 32 [vi y0.1.1, sv p1 y0.1.2 c1, vi y0.2.1, vi y0.2.2.1.1, vi y0.2.2.1.2, sv p2 y0.2.2.2 c2], bx b2 70 [vi 0, .slice none 0 0, vi 0, vi 0, vi 0, .slice none 0 0, .slice none 0 0, vi 0, .slice none 0 0], bx b3 70 [vi s1.1.1.1, sv p3 s1.1.1.2 c3, vi s1.1.2.1, vi s1.1.2.2.1.1, vi s1.1.2.2.1.2, sv p4 s1.1.2.2.2 c4, sv p5 s1.2.1 c5, vi s2, sv p18 s4.2 c18], r_9] [Rl e_Pair p1 c1 y0.1.2, Rl e_Move p2 c2 y0.2.2.2, Rl e_Pair p3 c3 s1.1.1.2, Rl e_Move p4 c4 s1.1.2.2.2, Rl (eInt .i64) p5 c5 s1.2.1, Al eBool 4 r_9 p18 c18 s4.2]) (
  jdS [] [0, 2, 3] 19<|jdf 0 6 rfl rfl<|jdo 1 2 rfl rfl rfl rfl<|jdc 16 [2] rfl<|jdi 3 5 rfl rfl rfl rfl<|fun x8 b11 o2=>jdl 4 false oI rfl (gk 0) rfl<|jdc 12 [5,6] rfl<|jsg 35 rfl (jdc 1 [7,8,9,10,11,12,13,14,15,16,17] rfl<|
  jdp 18 (vb true) rfl<|jde<|jnn (gv (fun _ k=>k) [0,1,2,3] ⟨gk 2,gk 3,gk 4,gk 5,gk 6,gk 1,⟨⟩⟩))<|jdf 7 8 rfl rfl<|jdo 8 2 rfl rfl rfl rfl<|jdf 9 5 rfl rfl<|jdo 10 0 rfl rfl rfl rfl<|jdc 7 [11] rfl<|jdi 12 3 rfl rfl rfl rfl<|fun x9 b12 o3=>
  jdf 13 3 rfl rfl<|jdl 14 false oI rfl (gs (gs (gs (gk 0)))) rfl<|jdI 15 2 rfl rfl rfl rfl<|fun x10 h2 b13 hp2=>jdL 16 3 2 sI false oB rfl rfl hp2 h2 rfl<|jdc 1 [17] rfl<|jdp 18 (vb (!x10)) rfl<|jde<|
  jnn (gv (fun _ k=>k) [0,1,2,3] ⟨gk 3,gk 4,gk 5,gk 6,gk 7,gk 2,⟨⟩⟩))<|fun s5 _ k=>k<|jif rfl (jxe<|jte<|jbh<|jtn<|jrg<|jpc 3 rfl<|joe<|jln (gv (fun _ k=>k p18 c18 r_9) [0,1,2,3] ⟨gk 5,gk 0,gk 1,gk 2,gk 3,gk 4,⟨⟩⟩))<|jsk<|jtn<|
  jjc (fun s6 K=>∀ p19 c19 r_10,K [(1, pt b1 0), (2, pt b2 0), (3, pt b3 0), (4, vi s4.1)] [bx b1 32 [vi y0.1.1, sv p1 y0.1.2 c1, vi y0.2.1, vi y0.2.2.1.1, vi y0.2.2.1.2, sv p2 y0.2.2.2 c2], bx b2 70 [vi 0, .slice none 0 0, vi 0, vi 0, vi 0, .slice none 0 0, .slice none 0 0, vi 0, .slice none 0 0], bx b3 70 [vi s1.1.1.1, sv p3 s1.1.1.2 c3, vi s1.1.2.1, vi s1.1.2.2.1.1, vi s1.1.2.2.1.2, sv p4 s1.1.2.2.2 c4, sv p5 s1.2.1 c5, vi s2, sv p19 s6 c19], r_10] [Al eBool 4 r_10 p19 c19 s6, Rl e_Pair p1 c1 y0.1.2, Rl e_Move p2 c2 y0.2.2.2, Rl e_Pair p3 c3 s1.1.1.2, Rl e_Move p4 c4 s1.1.2.2.2, Rl (eInt .i64) p5 c5 s1.2.1]) (
  jdS [] [0, 2] 27<|jdf 0 8 rfl rfl<|jdo 1 2 rfl rfl rfl rfl<|jdc 24 [2] rfl<|jdf 3 5 rfl rfl<|jdo 4 0 rfl rfl rfl rfl<|jdf 5 5 rfl rfl<|jdo 6 0 rfl rfl rfl rfl<|jdc 19 [7] rfl<|jdi 8 1 rfl rfl rfl rfl<|fun x11 b14 o4=>jdf 9 3 rfl rfl<|
  jdl 10 false oI rfl (gs (gs (gs (gk 0)))) rfl<|jdi 11 2 rfl rfl rfl rfl<|fun x12 b15 o5=>jdf 12 0 rfl rfl<|jdl 13 false oI rfl (gf (gk 0)) rfl<|jdf 14 7 rfl rfl<|jdo 15 2 rfl rfl rfl rfl<|jdc 9 [16,17] rfl<|jsg 65 rfl (
  jdc 3 [18,19,20,21,22,23] rfl<|jdp 24 (vb true) rfl<|jdI 25 7 rfl rfl rfl rfl<|fun x13 h3 b16 hp3=>jd1 26<|jsA (.f rfl) 3 7 sI true false rfl hp3 h3 rfl rfl vB<|fun r_11=>jdn<|jde<|
  jbL (fun q_=>[bx b1 32 [vi y0.1.1, sv p1 y0.1.2 c1, vi y0.2.1, vi y0.2.2.1.1, vi y0.2.2.1.2, sv p2 y0.2.2.2 c2], bx b2 70 [vi 0, .slice none 0 0, vi 0, vi 0, vi 0, .slice none 0 0, .slice none 0 0, vi 0, .slice none 0 0], bx b3 70 [vi s1.1.1.1, sv p3 s1.1.1.2 c3, vi s1.1.2.1, vi s1.1.2.2.1.1, vi s1.1.2.2.1.2, sv p4 s1.1.2.2.2 c4, sv p5 s1.2.1 c5, vi s2, .slice p18 q_ c18], r_11]) (gk 0) rfl<|
  jnn (gv (fun _ k=>k p18 c18 r_11) [0,1,2,3] ⟨gk 0,gk 4,gk 5,gk 6,gk 7,gk 8,⟨⟩⟩))<|jdf 18 6 rfl rfl<|jdo 19 2 rfl rfl rfl rfl<|jdc 6 [20] rfl<|jdi 21 6 rfl rfl rfl rfl<|fun x14 b17 o6=>jdl 22 false oI rfl (gk 0) rfl<|jdc 3 [23] rfl<|
  jdp 24 (vb (x14 == 1)) rfl<|jdI 25 8 rfl rfl rfl rfl<|fun x15 h4 b18 hp4=>jd1 26<|jsA (.f rfl) 3 8 sI (x14 == 1) false rfl hp4 h4 rfl rfl vB<|fun r_12=>jdn<|jde<|
  jbL (fun q_=>[bx b1 32 [vi y0.1.1, sv p1 y0.1.2 c1, vi y0.2.1, vi y0.2.2.1.1, vi y0.2.2.1.2, sv p2 y0.2.2.2 c2], bx b2 70 [vi 0, .slice none 0 0, vi 0, vi 0, vi 0, .slice none 0 0, .slice none 0 0, vi 0, .slice none 0 0], bx b3 70 [vi s1.1.1.1, sv p3 s1.1.1.2 c3, vi s1.1.2.1, vi s1.1.2.2.1.1, vi s1.1.2.2.1.2, sv p4 s1.1.2.2.2 c4, sv p5 s1.2.1 c5, vi s2, .slice p18 q_ c18], r_12]) (gk 0) rfl<|
  jnn (gv (fun _ k=>k p18 c18 r_12) [0,1,2,3] ⟨gk 0,gk 5,gk 6,gk 7,gk 8,gk 9,⟨⟩⟩))<|fun s6 _ k p19 c19 r_10=>k<|jbn<|jtn<|jrg<|jpc 3 rfl<|joe<|jln (gv (fun _ k=>k p19 c19 r_10) [0,1,2,3] ⟨gk 0,gk 1,gk 2,gk 3,gk 4,gk 5,⟨⟩⟩))<|jxe<|jte<|jle<|
  jbh<|jnn (gv (fun _ k=>k p18 c18 r_9) [900,1,2,3] ⟨gk 0,gk 3,gk 4,gk 5,⟨⟩⟩))<|fun s3 _ k p17 c17 r_8=>k<|jsr<|jla 2 9 rfl rfl rfl<|jso .s 1 rfl rfl rfl<|jot<|jxr<|jsh 3 0 rfl rfl<|
  jrg' rfl (lC 1 (.agg #[vi s1.1.1.1, sv p3 s1.1.1.2 c3, vi s1.1.2.1, vi s1.1.2.2.1.1, vi s1.1.2.2.1.2, sv p4 s1.1.2.2.2 c4, sv p5 s1.2.1 c5, vi s2, sv p17 s3 c17]) rfl rfl lN) (fun _ k=>k p3 c3 p4 c4 p5 c5 p17 c17) [] ⟨gk 2,gk 3,gk 4,gk 0,⟨⟩⟩

theorem c_protocol_other {qd : Prop} {y0 : Int} : Con qd Tryd.prog 37 [vi y0] [] [] (m_protocol_other y0) fun r K=>K (vi r) [] [] :=
 ent3 Tryd.call37 Tryd.func37 rfl fun X=>jsr<|jpc 1 rfl<|jot<|jsr<|jpc 3 rfl<|jot<|jxr<|jr1 rfl rfl (fun _ k=>k) [] ⟨⟩

theorem c_protocol_table_moved {qd : Prop} {y0 : T_protocol_table} {y1 : Int} {y2 : Int} : Con qd Tryd.prog 59 [.agg #[vi y0.1.1.1, sv p1 y0.1.1.2 c1, vi y0.1.2.1, vi y0.1.2.2.1.1, vi y0.1.2.2.1.2, sv p2 y0.1.2.2.2 c2, sv p3 y0.2.1 c3, vi y0.2.2.1, sv p4 y0.2.2.2 c4], vi y1, vi y2] [] [Rl e_Pair p1 c1 y0.1.1.2, Rl e_Move p2 c2 y0.1.2.2.2, Rl (eInt .i64) p3 c3 y0.2.1, Rl eBool p4 c4 y0.2.2.2] (m_protocol_table_moved y0 y1 y2) fun r K=>K (vb r) [] [] :=
 ent3 Tryd.call59 Tryd.func59 rfl fun X=>jsr<|jbx .s rfl<|fun b1=>jpc 1 rfl<|jot<|jbk<|
  jlp (fun s1 K=>K [(1, vi s1), (2, vi y2), (3, pt b1 0)] [bx b1 70 [vi y0.1.1.1, sv p1 y0.1.1.2 c1, vi y0.1.2.1, vi y0.1.2.2.1.1, vi y0.1.2.2.1.2, sv p2 y0.1.2.2.2 c2, sv p3 y0.2.1 c3, vi y0.2.2.1, sv p4 y0.2.2.2 c4]] [Rl e_Pair p1 c1 y0.1.1.2, Rl e_Move p2 c2 y0.1.2.2.2, Rl (eInt .i64) p3 c3 y0.2.1, Rl eBool p4 c4 y0.2.2.2]) (gv (fun _ k=>k) [0] ⟨gk 0,gk 1,gk 2,gk 3,⟨⟩⟩)<|
  fun s1 _ k=>k<|jbk<|jsr<|jfa 0 rfl<|jfa 5 rfl<|jlo 0 rfl rfl rfl<|jpc 1 rfl<|jix 1 rfl rfl rfl<|fun x1 b2 o1=>jld true o_Move (gk 0) rfl<|jal .s (.agg #[vi 0, vi 0, vi 0, vi 0])<|fun b3=>jso .s 1 rfl rfl rfl<|jot<|jsq<|
  jjp (fun K=>K [(1, vi s1), (2, vi y2), (3, pt b1 0), (7, pt b3 0), (22, vb ((x1.1 == 1) && (x1.2.2.1 == y2)))] [bx b1 70 [vi y0.1.1.1, sv p1 y0.1.1.2 c1, vi y0.1.2.1, vi y0.1.2.2.1.1, vi y0.1.2.2.1.2, sv p2 y0.1.2.2.2 c2, sv p3 y0.2.1 c3, vi y0.2.2.1, sv p4 y0.2.2.2 c4], bx b3 47 [vi x1.1, vi x1.2.1, vi x1.2.2.1, vi x1.2.2.2]] [Rl e_Pair p1 c1 y0.1.1.2, Rl e_Move p2 c2 y0.1.2.2.2, Rl (eInt .i64) p3 c3 y0.2.1, Rl eBool p4 c4 y0.2.2.2]) (
  jrg<|jfa 0 rfl<|jlo 1 rfl rfl rfl<|jpc 2 rfl<|jsp (b := x1.1 == 1) 17 rfl (fun hb1=>jfa 2 rfl<|jlo 1 rfl rfl rfl<|jpc 2 rfl<|jpe (vb (x1.2.2.1 == y2))<|joe<|jup 22 (vb ((x1.1 == 1) && (x1.2.2.1 == y2))) rfl (by rw [hb1]; rfl)<|
  jnn (gv (fun _ k=>k) [0,1] ⟨gk 1,gk 2,gk 3,gk 4,⟨⟩⟩))<|fun hb1=>jpc 4 rfl<|jpe (vb false)<|joe<|jup 22 (vb ((x1.1 == 1) && (x1.2.2.1 == y2))) rfl (by rw [hb1]; rfl)<|jnn (gv (fun _ k=>k) [0,1] ⟨gk 1,gk 2,gk 3,gk 4,⟨⟩⟩))<|fun _ k=>k<|
  jif rfl (jsr<|jpc 1 rfl<|jot<|jxr<|jtr<|jbr<|jlr<|jbr<|jr1 rfl rfl (fun _ k=>k) [] ⟨⟩)<|jsk<|jtn<|jsq<|jsr<|jpc 2 rfl<|jot<|jif rfl (jsr<|jpc 1 rfl<|jot<|jxr<|jtr<|jbr<|jlr<|jbr<|jr1 rfl rfl (fun _ k=>k) [] ⟨⟩)<|jsk<|jtn<|jrg<|jfa 3 rfl<|
  jlo 1 rfl rfl rfl<|jpc 1 rfl<|joe<|jbn<|jln (gv (fun _ k=>k) [0] ⟨gk 0,gk 1,gk 2,gk 3,⟨⟩⟩)

theorem c_slices_Index_Move {qd : Prop} {y0 : List T_Move} {y1 : T_Move} : Con qd Tryd.prog 78 [sv p1 y0 c1, .agg #[vi y1.1, vi y1.2.1, vi y1.2.2.1, vi y1.2.2.2]] [] [Rl e_Move p1 c1 y0] (m_slices_Index_Move y0 y1) fun r K=>K (vi r) [] [] :=
 ent3 Tryd.call78 Tryd.func78 rfl fun X=>jsr<|jbx .s rfl<|fun b1=>jpc 1 rfl<|jot<|jsq<|jsr<|jpc 3 rfl<|jot<|jbk<|
  jlp (fun s1 K=>K [(0, sv p1 y0 c1), (3, pt b1 0), (7, vi (len y0)), (8, vi s1)] [bx b1 47 [vi y1.1, vi y1.2.1, vi y1.2.2.1, vi y1.2.2.2]] [Rl e_Move p1 c1 y0]) (gv (fun _ k=>k) [0] ⟨gk 0,⟨⟩⟩)<|fun s1 _ k=>k<|jsr<|jpc 1 rfl<|jot<|jsq<|
  jif rfl (jsk<|jtn<|jsq<|jbk<|jsr<|jpc 2 rfl<|jot<|jds [] [0] 6<|jda 0 0 4 rfl rfl rfl rfl<|jdc 3 [1,2] rfl<|jdi 3 0 rfl rfl rfl rfl<|fun x1 b2 o1=>jdl 4 true o_Move rfl (gk 0) rfl<|jdp 5 (vb (y1 == x1)) rfl<|jde<|jtn<|jif rfl (jsr<|
  jpc 2 rfl<|jot<|jxr<|jbr<|jtr<|jlr<|jbr<|jtr<|jr1 rfl rfl (fun _ k=>k) [] ⟨⟩)<|jsk<|jbn<|jtn<|jrg<|jpc 2 rfl<|joe<|jln (gv (fun _ k=>k) [0] ⟨gk 1,⟨⟩⟩))<|jxe<|jte<|jle<|jbh<|jtn<|jsr<|jpc 1 rfl<|jot<|jxr<|jr1 rfl rfl (fun _ k=>k) [] ⟨⟩

theorem c_slices_Contains_Move {qd : Prop} {y0 : List T_Move} {y1 : T_Move} : Con qd Tryd.prog 58 [sv p1 y0 c1, .agg #[vi y1.1, vi y1.2.1, vi y1.2.2.1, vi y1.2.2.2]] [] [Rl e_Move p1 c1 y0] (m_slices_Contains_Move y0 y1) fun r K=>K (vb r) [] [] :=
 ent3 Tryd.call58 Tryd.func58 rfl fun X=>jsr<|jbx .s rfl<|fun b1=>jpc 1 rfl<|jot<|jsr<|jpc 1 rfl<|jla 0 4 rfl rfl rfl<|jcl c_slices_Index_Move rfl ⟨ck 0,⟨⟩⟩<|fun r1 _ k=>k<|jpc 2 rfl<|jot<|jxr<|jr1 rfl rfl (fun _ k=>k) [] ⟨⟩

theorem c_protocol_table_legal {qd : Prop} {y0 : T_protocol_table} : Con qd Tryd.prog 46 [.agg #[vi y0.1.1.1, sv p1 y0.1.1.2 c1, vi y0.1.2.1, vi y0.1.2.2.1.1, vi y0.1.2.2.1.2, sv p2 y0.1.2.2.2 c2, sv p3 y0.2.1 c3, vi y0.2.2.1, sv p4 y0.2.2.2 c4]] [] [Rl e_Pair p1 c1 y0.1.1.2, Rl e_Move p2 c2 y0.1.2.2.2, Rl (eInt .i64) p3 c3 y0.2.1, Rl eBool p4 c4 y0.2.2.2] (m_protocol_table_legal y0) fun r K=>∀ p5 c5,K (sv p5 r c5) [] [Rl e_Move p5 c5 r] :=
 ent3 Tryd.call46 Tryd.func46 rfl fun X=>jsr<|jbx .s rfl<|fun b1=>jpc 1 rfl<|jot<|jsr<|jfa 7 rfl<|jlo 0 rfl rfl rfl<|jcl c_protocol_other rfl ⟨⟩<|fun r1 _ k=>k<|jpc 1 rfl<|jot<|jsr<|jpc 1 rfl<|jro e_Move 47<|jot<|jsq<|jsr<|jfa 0 rfl<|jfa 5 rfl<|jlo 0 rfl rfl rfl<|jpc 2 rfl<|jot<|
  jbk<|
  jlp (fun s1 K=>∀ p5 c5 r_1,K [(1, pt b1 0), (3, vi r1), (4, sv p5 s1.1 c5), (15, sv p2 y0.1.2.2.2 c2), (16, vi (len y0.1.2.2.2)), (17, vi s1.2)] [bx b1 70 [vi y0.1.1.1, sv p1 y0.1.1.2 c1, vi y0.1.2.1, vi y0.1.2.2.1.1, vi y0.1.2.2.1.2, sv p2 y0.1.2.2.2 c2, sv p3 y0.2.1 c3, vi y0.2.2.1, sv p4 y0.2.2.2 c4], r_1] [Al e_Move 47 r_1 p5 c5 s1.1, Rl e_Move p2 c2 y0.1.2.2.2, Rl e_Pair p1 c1 y0.1.1.2, Rl (eInt .i64) p3 c3 y0.2.1, Rl eBool p4 c4 y0.2.2.2]) (gv (fun _ k=>k none 0 []) [0,1] ⟨gk 0,gk 2,gk 1,gk 3,gk 4,⟨⟩⟩)<|
  fun s1 _ k p5 c5 r_1=>k<|jsr<|jpc 1 rfl<|jot<|jsq<|jif rfl (jsk<|jtn<|jsq<|jbk<|jsr<|jpc 1 rfl<|jix 1 rfl rfl rfl<|fun x1 b2 o1=>jld true o_Move (gk 0) rfl<|jal .s (.agg #[vi 0, vi 0, vi 0, vi 0])<|fun b3=>jpc 1 rfl<|jso .s 2 rfl rfl rfl<|
  jot<|jsq<|
  jjn (fun s2 K=>K [(1, pt b1 0), (3, vi r1), (4, sv p5 s1.1 c5), (5, vi s1.2), (6, pt b3 0), (15, sv p2 y0.1.2.2.2 c2), (16, vi (len y0.1.2.2.2)), (17, vi s1.2), (34, vb s2)] [bx b1 70 [vi y0.1.1.1, sv p1 y0.1.1.2 c1, vi y0.1.2.1, vi y0.1.2.2.1.1, vi y0.1.2.2.1.2, sv p2 y0.1.2.2.2 c2, sv p3 y0.2.1 c3, vi y0.2.2.1, sv p4 y0.2.2.2 c4], r_1, bx b3 47 [vi x1.1, vi x1.2.1, vi x1.2.2.1, vi x1.2.2.2]] [Al e_Move 47 r_1 p5 c5 s1.1, Rl e_Move p2 c2 y0.1.2.2.2, Rl e_Pair p1 c1 y0.1.1.2, Rl (eInt .i64) p3 c3 y0.2.1, Rl eBool p4 c4 y0.2.2.2]) (
  jrg<|jfa 8 rfl<|jlo 0 rfl rfl rfl<|jpc 1 rfl<|jix 5 rfl rfl rfl<|fun x2 b4 o2=>jld false oB (gk 0) rfl<|jpc 2 rfl<|jsg 28 rfl (jpc 5 rfl<|jpe (vb true)<|joe<|jnn (gv (fun _ k=>k) [0,1,2] ⟨gk 2,gk 3,gk 4,gk 5,gk 6,⟨⟩⟩))<|jfa 0 rfl<|
  jlo 2 rfl rfl rfl<|jfa 7 rfl<|jlo 0 rfl rfl rfl<|jpc 1 rfl<|jpe (vb (x1.1 != y0.2.2.1))<|joe<|jnn (gv (fun _ k=>k) [0,1,2] ⟨gk 2,gk 3,gk 4,gk 5,gk 6,⟨⟩⟩))<|fun s2 _ k=>k<|jif rfl (jxe<|jte<|jbh<|jtn<|jrg<|jpc 2 rfl<|joe<|
  jln (gv (fun _ k=>k p5 c5 r_1) [0,1] ⟨gk 0,gk 1,gk 2,gk 3,gk 4,⟨⟩⟩))<|jsk<|jtn<|jsr<|jfa 0 rfl<|jfa 0 rfl<|jfa 1 rfl<|jlo 0 rfl rfl rfl<|jpc 2 rfl<|jot<|jbk<|
  jlp (fun s3 K=>∀ p6 c6 r_2,K [(1, pt b1 0), (3, vi r1), (4, sv p6 s3.1 c6), (5, vi s1.2), (6, pt b3 0), (15, sv p2 y0.1.2.2.2 c2), (16, vi (len y0.1.2.2.2)), (17, vi s1.2), (38, sv p1 y0.1.1.2 c1), (39, vi (len y0.1.1.2)), (40, vi s3.2)] [bx b1 70 [vi y0.1.1.1, sv p1 y0.1.1.2 c1, vi y0.1.2.1, vi y0.1.2.2.1.1, vi y0.1.2.2.1.2, sv p2 y0.1.2.2.2 c2, sv p3 y0.2.1 c3, vi y0.2.2.1, sv p4 y0.2.2.2 c4], r_2, bx b3 47 [vi x1.1, vi x1.2.1, vi x1.2.2.1, vi x1.2.2.2]] [Al e_Move 47 r_2 p6 c6 s3.1, Rl e_Move p2 c2 y0.1.2.2.2, Rl e_Pair p1 c1 y0.1.1.2, Rl (eInt .i64) p3 c3 y0.2.1, Rl eBool p4 c4 y0.2.2.2]) (gv (fun _ k=>k p5 c5 r_1) [0,1,2] ⟨gk 0,gk 1,gk 2,gk 3,gk 4,⟨⟩⟩)<|
  fun s3 _ k p6 c6 r_2=>k<|jsr<|jpc 1 rfl<|jot<|jsq<|jif rfl (jsk<|jtn<|jsq<|jbk<|jsr<|jix 2 rfl rfl rfl<|fun x3 b5 o3=>jld true o_Pair (gk 0) rfl<|jal .s (.agg #[vi 0, vi 0])<|fun b6=>jso .s 3 rfl rfl rfl<|jot<|jsr<|jpc 1 rfl<|jfa 0 rfl<|
  jlo 3 rfl rfl rfl<|jpc 1 rfl<|jpe (.agg #[vi r1, vi 2, vi x3.1, vi s1.2])<|jal .s (.agg #[vi 0, vi 0, vi 0, vi 0])<|fun b7=>jso .s 4 rfl rfl rfl<|jot<|jsq<|
  jjn (fun s4 K=>K [(1, pt b1 0), (3, vi r1), (4, sv p6 s3.1 c6), (5, vi s1.2), (6, pt b3 0), (9, pt b7 0), (15, sv p2 y0.1.2.2.2 c2), (16, vi (len y0.1.2.2.2)), (17, vi s1.2), (38, sv p1 y0.1.1.2 c1), (39, vi (len y0.1.1.2)), (40, vi s3.2), (71, vb s4)] [bx b1 70 [vi y0.1.1.1, sv p1 y0.1.1.2 c1, vi y0.1.2.1, vi y0.1.2.2.1.1, vi y0.1.2.2.1.2, sv p2 y0.1.2.2.2 c2, sv p3 y0.2.1 c3, vi y0.2.2.1, sv p4 y0.2.2.2 c4], r_2, bx b3 47 [vi x1.1, vi x1.2.1, vi x1.2.2.1, vi x1.2.2.2], [], bx b7 47 [vi r1, vi 2, vi x3.1, vi s1.2]] [Al e_Move 47 r_2 p6 c6 s3.1, Rl e_Move p2 c2 y0.1.2.2.2, Rl e_Pair p1 c1 y0.1.1.2, Rl (eInt .i64) p3 c3 y0.2.1, Rl eBool p4 c4 y0.2.2.2]) (
  jrg<|jfa 1 rfl<|jlo 3 rfl rfl rfl<|jfa 2 rfl<|jlo 2 rfl rfl rfl<|jpc 2 rfl<|jsg 54 rfl (jpc 5 rfl<|jpe (vb true)<|jpc 10 rfl<|jpe (vb true)<|joe<|jnn (gv (fun _ k=>k) [0,1,2,903,4] ⟨gk 1,gk 2,gk 3,gk 4,gk 5,⟨⟩⟩))<|jfa 0 rfl<|jfa 5 rfl<|
  jlo 0 rfl rfl rfl<|jla 4 4 rfl rfl rfl<|jcl c_slices_Contains_Move rfl ⟨ck 2,⟨⟩⟩<|fun r2 _ k=>k<|jpe (vb r2)<|jpc 1 rfl<|jsg 61 rfl (jpc 9 rfl<|jpe (vb true)<|joe<|jnn (gv (fun _ k=>k) [0,1,2,903,4] ⟨gk 1,gk 2,gk 3,gk 4,gk 5,⟨⟩⟩))<|
  jpc 3 rfl<|jsg 64 rfl (jla 0 9 rfl rfl rfl<|jpc 1 rfl<|jfa 0 rfl<|jlo 3 rfl rfl rfl<|jcl c_protocol_table_moved rfl ⟨ck 3,ck 2,ck 4,ck 5,⟨⟩⟩<|fun r3 _ k=>k<|jpe (vb r3)<|jpe (vb r3)<|joe<|
  jnn (gv (fun _ k=>k) [0,1,2,903,4] ⟨gk 1,gk 2,gk 3,gk 4,gk 5,⟨⟩⟩))<|jpc 5 rfl<|jpe (vb false)<|jpe (vb false)<|joe<|jnn (gv (fun _ k=>k) [0,1,2,903,4] ⟨gk 1,gk 2,gk 3,gk 4,gk 5,⟨⟩⟩))<|fun s4 _ k=>k<|jif rfl (jxe<|jte<|jbh<|jtn<|jrg<|
  jpc 2 rfl<|joe<|jln (gv (fun _ k=>k p6 c6 r_2) [0,1,2] ⟨gk 0,gk 1,gk 2,gk 3,gk 4,⟨⟩⟩))<|jsk<|jtn<|jrg<|jpc 1 rfl<|jla 4 4 rfl rfl rfl<|
  jbs .s (e := e_Move) 47 [vi r1, vi 2, vi x3.1, vi s1.2] ([(r1, 2, x3.1, s1.2)] : List T_Move) (rC (vP vI (vP vI (vP vI vI))) rN)<|fun p7 c7=>jar .s 1 1 rfl (gk 0) rfl rfl<|fun x4 r_3 p8 c8=>jpc 1 rfl<|joe<|jbn<|jtn<|jrg<|jpc 2 rfl<|joe<|
  jln (gv (fun _ k=>k p8 c8 r_3) [0,1,2] ⟨gk 0,gk 3,gk 4,gk 5,gk 6,⟨⟩⟩))<|jxe<|jte<|jle<|jbh<|jbn<|jtn<|jrg<|jpc 2 rfl<|joe<|jln (gv (fun _ k=>k p6 c6 r_2) [0,1] ⟨gk 0,gk 1,gk 2,gk 3,gk 4,⟨⟩⟩))<|jxe<|jte<|jle<|jbh<|jtn<|jsr<|jpc 2 rfl<|jot<|
  jxr<|jsh 1 0 rfl rfl<|jr1 rfl rfl (fun _ k=>k p5 c5) [] ⟨gk 0,⟨⟩⟩

theorem c_protocol_table_end {qd : Prop} {y0 : T_protocol_table} : Con qd Tryd.prog 36 [.agg #[vi y0.1.1.1, sv p1 y0.1.1.2 c1, vi y0.1.2.1, vi y0.1.2.2.1.1, vi y0.1.2.2.1.2, sv p2 y0.1.2.2.2 c2, sv p3 y0.2.1 c3, vi y0.2.2.1, sv p4 y0.2.2.2 c4]] [] [Rl e_Pair p1 c1 y0.1.1.2, Rl e_Move p2 c2 y0.1.2.2.2, Rl (eInt .i64) p3 c3 y0.2.1, Rl eBool p4 c4 y0.2.2.2] (m_protocol_table_end y0) fun r K=>K (.agg #[vi r.1, vi r.2]) [] [] :=
 ent3 Tryd.call36 Tryd.func36 rfl fun X=>jsr<|jbx .s rfl<|fun b1=>jal .s (.agg #[vi 0, vi 0])<|fun b2=>jot<|jsr<|jfa 0 rfl<|jfa 5 rfl<|jlo 0 rfl rfl rfl<|jpc 1 rfl<|jot<|jsr<|jpc 1 rfl<|jot<|
  jjn (fun s1 K=>K [(1, pt b1 0), (2, pt b2 0), (3, sv p2 y0.1.2.2.2 c2), (4, vi s1)] [bx b1 70 [vi y0.1.1.1, sv p1 y0.1.1.2 c1, vi y0.1.2.1, vi y0.1.2.2.1.1, vi y0.1.2.2.1.2, sv p2 y0.1.2.2.2 c2, sv p3 y0.2.1 c3, vi y0.2.2.1, sv p4 y0.2.2.2 c4], bx b2 43 [vi 0, vi 0]] [Rl e_Move p2 c2 y0.1.2.2.2, Rl e_Pair p1 c1 y0.1.1.2, Rl (eInt .i64) p3 c3 y0.2.1, Rl eBool p4 c4 y0.2.2.2]) (
  jsr<|jpc 3 rfl<|jot<|jbk<|
  jlp (fun s2 K=>K [(1, pt b1 0), (2, pt b2 0), (3, sv p2 y0.1.2.2.2 c2), (4, vi s2.1), (11, sv p2 y0.1.2.2.2 c2), (12, vi (len y0.1.2.2.2)), (13, vi s2.2)] [bx b1 70 [vi y0.1.1.1, sv p1 y0.1.1.2 c1, vi y0.1.2.1, vi y0.1.2.2.1.1, vi y0.1.2.2.1.2, sv p2 y0.1.2.2.2 c2, sv p3 y0.2.1 c3, vi y0.2.2.1, sv p4 y0.2.2.2 c4], bx b2 43 [vi 0, vi 0]] [Rl e_Move p2 c2 y0.1.2.2.2, Rl e_Pair p1 c1 y0.1.1.2, Rl (eInt .i64) p3 c3 y0.2.1, Rl eBool p4 c4 y0.2.2.2]) (gv (fun _ k=>k) [0,1] ⟨gk 1,gk 0,gk 2,gk 3,⟨⟩⟩)<|
  fun s2 _ k=>k<|jsr<|jpc 1 rfl<|jot<|jsq<|jif rfl (jsk<|jtn<|jsq<|jbk<|jsr<|jix 0 rfl rfl rfl<|fun x1 b3 o1=>jld true o_Move (gk 0) rfl<|jal .s (.agg #[vi 0, vi 0, vi 0, vi 0])<|fun b4=>jso .s 2 rfl rfl rfl<|jot<|jds [] [0, 2] 6<|
  jdf 0 0 rfl rfl<|jdo 1 2 rfl rfl rfl rfl<|jdf 2 7 rfl rfl<|jdo 3 0 rfl rfl rfl rfl<|jd1 4<|jca (.f rfl) [] [] c_protocol_other rfl rfl rfl ⟨⟩<|fun r1 _ k=>k<|jdn<|jdc 0 [5] rfl<|jde<|jtn<|jif rfl (jrg<|jpc 3 rfl<|joe<|jbn<|jtn<|jrg<|
  jpc 2 rfl<|joe<|jln (gv (fun _ k=>k) [0,1] ⟨gk 1,gk 2,gk 3,gk 4,⟨⟩⟩))<|jsk<|jbn<|jtn<|jrg<|jpc 2 rfl<|joe<|jln (gv (fun _ k=>k) [0,1] ⟨gk 1,gk 2,gk 3,gk 4,⟨⟩⟩))<|jxe<|jte<|jle<|jbh<|jnn (gv (fun _ k=>k) [0,1] ⟨gk 0,gk 1,gk 2,gk 3,⟨⟩⟩))<|
  fun s1 _ k=>k<|jsr<|jpc 4 rfl<|jix 0 rfl rfl rfl<|fun x2 b5 o2=>jld true o_Move (gk 0) rfl<|jal .s (.agg #[vi 0, vi 0, vi 0, vi 0])<|fun b6=>jso .s 2 rfl rfl rfl<|jot<|jsq<|jbk<|jsr<|jfa 1 rfl<|jlo 2 rfl rfl rfl<|jpc 2 rfl<|jot<|jif rfl (
  jsr<|jfa 0 rfl<|jlo 2 rfl rfl rfl<|jcl c_protocol_other rfl ⟨⟩<|fun r2 _ k=>k<|jpe (.agg #[vi r2, vi 3])<|jso .s 1 rfl rfl rfl<|jot<|jxr<|jbr<|jtr<|jrg' rfl (lC 1 (.agg #[vi r2, vi 3]) rfl rfl lN) (fun _ k=>k) [] ⟨⟩)<|jsr<|jpc 4 rfl<|jot<|
  jif rfl (jsr<|jfa 7 rfl<|jlo 0 rfl rfl rfl<|jpe (.agg #[vi y0.2.2.1, vi 4])<|jso .s 1 rfl rfl rfl<|jot<|jxr<|jbr<|jtr<|jrg' rfl (lC 1 (.agg #[vi y0.2.2.1, vi 4]) rfl rfl lN) (fun _ k=>k) [] ⟨⟩)<|jsr<|jpc 1 rfl<|jfa 7 rfl<|
  jlo 0 rfl rfl rfl<|jcl c_protocol_other rfl ⟨⟩<|fun r3 _ k=>k<|jpc 1 rfl<|jfa 0 rfl<|jfa 3 rfl<|jiB (l := ([y0.1.2.2.1.1, y0.1.2.2.1.2] : List Int)) rfl rfl<|fun x3 h1=>jlI 0 (.int .i64) rfl rfl rfl h1<|jpc 2 rfl<|jot<|jif rfl (jsr<|
  jfa 7 rfl<|jlo 0 rfl rfl rfl<|jpe (.agg #[vi y0.2.2.1, vi 2])<|jso .s 1 rfl rfl rfl<|jot<|jxr<|jbr<|jtr<|jrg' rfl (lC 1 (.agg #[vi y0.2.2.1, vi 2]) rfl rfl lN) (fun _ k=>k) [] ⟨⟩)<|jsr<|jla 0 9 rfl rfl rfl<|
  jcl c_protocol_table_legal rfl ⟨ck 2,ck 1,ck 3,ck 4,⟨⟩⟩<|fun r4 _ k p5 c5=>k<|jpc 3 rfl<|jot<|jif rfl (jsr<|jfa 7 rfl<|jlo 0 rfl rfl rfl<|jpe (.agg #[vi y0.2.2.1, vi 1])<|jso .s 1 rfl rfl rfl<|jot<|jxr<|jbr<|jtr<|
  jrg' rfl (lC 1 (.agg #[vi y0.2.2.1, vi 1]) rfl rfl lN) (fun _ k=>k) [] ⟨⟩)<|jsk<|jbn<|jtn<|jsr<|jpe (.agg #[vi 0, vi 0])<|jso .s 1 rfl rfl rfl<|jot<|jxr<|jrg' rfl (lC 1 (.agg #[vi 0, vi 0]) rfl rfl lN) (fun _ k=>k) [] ⟨⟩

theorem c_protocol_End {qd : Prop} {y0 : T_Dialogue} : Con qd Tryd.prog 24 [.agg #[vi y0.1.1, sv p1 y0.1.2 c1, vi y0.2.1, vi y0.2.2.1.1, vi y0.2.2.1.2, sv p2 y0.2.2.2 c2]] [] [Rl e_Pair p1 c1 y0.1.2, Rl e_Move p2 c2 y0.2.2.2] (m_protocol_End y0) fun r K=>K (.agg #[vi r.1, vi r.2]) [] [] :=
 ent3 Tryd.call24 Tryd.func24 rfl fun X=>jsr<|jbx .s rfl<|fun b1=>jal .s (.agg #[vi 0, vi 0])<|fun b2=>jot<|jsq<|jsr<|jfa 5 rfl<|jlo 0 rfl rfl rfl<|jpc 2 rfl<|jot<|jif rfl (jsr<|jpe (.agg #[vi 0, vi 0])<|jso .s 1 rfl rfl rfl<|jot<|jxr<|jtr<|
  jrg' rfl (lC 1 (.agg #[vi 0, vi 0]) rfl rfl lN) (fun _ k=>k) [] ⟨⟩)<|jsk<|jtn<|jsr<|jla 0 6 rfl rfl rfl<|jcl c_protocol_of rfl ⟨ck 0,ck 1,⟨⟩⟩<|fun r1 _ k p3 c3 p4 c4 p5 c5 p6 c6=>k<|jcl c_protocol_table_end rfl ⟨ck 0,ck 1,ck 2,ck 3,⟨⟩⟩<|
  fun r2 _ k=>k<|jso .s 1 rfl rfl rfl<|jot<|jxr<|jrg' rfl (lC 1 (.agg #[vi r2.1, vi r2.2]) rfl rfl lN) (fun _ k=>k) [] ⟨⟩

theorem c_protocol_Turn {qd : Prop} {y0 : T_Dialogue} : Con qd Tryd.prog 25 [.agg #[vi y0.1.1, sv p1 y0.1.2 c1, vi y0.2.1, vi y0.2.2.1.1, vi y0.2.2.1.2, sv p2 y0.2.2.2 c2]] [] [Rl e_Pair p1 c1 y0.1.2, Rl e_Move p2 c2 y0.2.2.2] (m_protocol_Turn y0) fun r K=>K (vi r) [] [] :=
 ent3 Tryd.call25 Tryd.func25 rfl fun X=>jsr<|jbx .s rfl<|fun b1=>jpc 1 rfl<|jot<|jsq<|
  jjn (fun s1 K=>K [(1, pt b1 0), (12, vb s1)] [bx b1 32 [vi y0.1.1, sv p1 y0.1.2 c1, vi y0.2.1, vi y0.2.2.1.1, vi y0.2.2.1.2, sv p2 y0.2.2.2 c2]] [Rl e_Pair p1 c1 y0.1.2, Rl e_Move p2 c2 y0.2.2.2]) (jrg<|jfa 5 rfl<|jlo 0 rfl rfl rfl<|
  jpc 3 rfl<|jsg 7 rfl (jpc 4 rfl<|jpe (vb true)<|joe<|jnn (gv (fun _ k=>k) [0] ⟨gk 0,gk 1,⟨⟩⟩))<|jla 0 6 rfl rfl rfl<|jcl c_protocol_End rfl ⟨ck 0,ck 1,⟨⟩⟩<|fun r1 _ k=>k<|jv (v := vi r1.2) (fun h=>r_field h rfl (by kernel_rfl))<|jpc 1 rfl<|
  jpe (vb (r1.2 != 0))<|joe<|jnn (gv (fun _ k=>k) [0] ⟨gk 0,gk 1,⟨⟩⟩))<|fun s1 _ k=>k<|jif rfl (jsr<|jpc 1 rfl<|jot<|jxr<|jtr<|jr1 rfl rfl (fun _ k=>k) [] ⟨⟩)<|jsk<|jtn<|jsr<|jla 0 6 rfl rfl rfl<|jcl c_protocol_of rfl ⟨ck 0,ck 1,⟨⟩⟩<|
  fun r2 _ k p3 c3 p4 c4 p5 c5 p6 c6=>k<|jv (v := vi r2.2.2.1) (fun h=>r_field h rfl (by kernel_rfl))<|jcl c_protocol_other rfl ⟨⟩<|fun r3 _ k=>k<|jpc 1 rfl<|jot<|jxr<|jr1 rfl rfl (fun _ k=>k) [] ⟨⟩

theorem c_report_act {qd : Prop} {y0 : T_Move} : Con qd Tryd.prog 23 [.agg #[vi y0.1, vi y0.2.1, vi y0.2.2.1, vi y0.2.2.2]] [] [] (m_report_act y0) fun r K=>K (vs r) [] [] :=
 ent3 Tryd.call23 Tryd.func23 rfl fun X=>jsr<|jbx .s rfl<|fun b1=>jpc 1 rfl<|jot<|jsq<|jsr<|jfa 1 rfl<|jlo 0 rfl rfl rfl<|jot<|jbk<|jsr<|jpc 2 rfl<|jot<|jif rfl (jsr<|jfa 2 rfl<|jlo 0 rfl rfl rfl<|jcl c_report_number rfl ⟨⟩<|fun r1 _ k=>k<|jbd fun x1 h1=>
  jv (fun h=>r_cat h rfl rfl h1)<|jpc 1 rfl<|jot<|jxr<|jbr<|jtr<|jr1 rfl rfl (fun _ k=>k) [] ⟨⟩)<|jsr<|jpc 2 rfl<|jot<|jif rfl (jds [] [0] 10<|jdf 0 2 rfl rfl<|jdo 1 0 rfl rfl rfl rfl<|jdf 5 3 rfl rfl<|jdo 6 0 rfl rfl rfl rfl<|jd1 2<|
  jca (.f rfl) [] [] c_report_number rfl rfl rfl ⟨⟩<|fun r2 _ k=>k<|jdn<|jbd fun x2 h2=>jdv 3 rfl (fun h=>r_cat h rfl rfl h2)<|jbd fun x3 h3=>jdv 4 rfl (fun h=>r_cat h rfl rfl h3)<|jd1 7<|jca (.f rfl) [] [] c_report_number rfl rfl rfl ⟨⟩<|
  fun r3 _ k=>k<|jdn<|jbd fun x4 h4=>jdv 8 rfl (fun h=>r_cat h rfl rfl h4)<|jdc 0 [9] rfl<|jde<|jtn<|jxr<|jbr<|jtr<|jr1 rfl rfl (fun _ k=>k) [] ⟨⟩)<|jsr<|jpc 2 rfl<|jot<|jif rfl (jsr<|jfa 3 rfl<|jlo 0 rfl rfl rfl<|jcl c_report_number rfl ⟨⟩<|
  fun r4 _ k=>k<|jbd fun x5 h5=>jv (fun h=>r_cat h rfl rfl h5)<|jpc 1 rfl<|jot<|jxr<|jbr<|jtr<|jr1 rfl rfl (fun _ k=>k) [] ⟨⟩)<|jsk<|jbn<|jtn<|jsr<|jpc 1 rfl<|jot<|jxr<|jr1 rfl rfl (fun _ k=>k) [] ⟨⟩

theorem c_report_player {qd : Prop} {y0 : Int} : Con qd Tryd.prog 22 [vi y0] [] [] (m_report_player y0) fun r K=>K (vs r) [] [] :=
 ent3 Tryd.call22 Tryd.func22 rfl fun X=>jsr<|jpc 1 rfl<|jot<|jsq<|jsr<|jpc 2 rfl<|jot<|jif rfl (jsr<|jpc 1 rfl<|jot<|jxr<|jtr<|jr1 rfl rfl (fun _ k=>k) [] ⟨⟩)<|jsk<|jtn<|jsr<|jpc 1 rfl<|jot<|jxr<|jr1 rfl rfl (fun _ k=>k) [] ⟨⟩

theorem c_report_Dialogue {qd : Prop} {y0 : T_Dialogue} : Con qd Tryd.prog 9 [.agg #[vi y0.1.1, sv p1 y0.1.2 c1, vi y0.2.1, vi y0.2.2.1.1, vi y0.2.2.1.2, sv p2 y0.2.2.2 c2]] [] [Rl e_Pair p1 c1 y0.1.2, Rl e_Move p2 c2 y0.2.2.2] (m_report_Dialogue y0) fun r K=>∀ p3 c3,K (sv p3 r c3) [] [Rl eStr p3 c3 r] :=
 ent3 Tryd.call9 Tryd.func9 rfl fun X=>jsr<|jbx .s rfl<|fun b1=>jpc 1 rfl<|jot<|jsr<|jla 0 6 rfl rfl rfl<|jcl c_protocol_Status rfl ⟨ck 0,ck 1,⟨⟩⟩<|fun r1 _ k p3 c3=>k<|jpc 1 rfl<|jot<|jsr<|
  jv (v := .agg #[vs [103, 111, 110, 101], vs [105, 110], vs [111, 117, 116]]) (fun h=>r_buildA h (by kernel_rfl))<|jal .s (.agg #[vs [], vs [], vs []])<|fun b2=>jso .s 1 rfl rfl rfl<|jot<|jsr<|jpc 1 rfl<|jro eStr 9<|jot<|
  jjn (fun s1 K=>∀ p4 c4 r_1,K [(1, pt b1 0), (5, sv p4 s1 c4)] [bx b1 32 [vi y0.1.1, sv p1 y0.1.2 c1, vi y0.2.1, vi y0.2.2.1.1, vi y0.2.2.1.2, sv p2 y0.2.2.2 c2], [], r_1] [Al eStr 9 r_1 p4 c4 s1, Rl e_Pair p1 c1 y0.1.2, Rl e_Move p2 c2 y0.2.2.2]) (
  jsr<|jfa 5 rfl<|jlo 0 rfl rfl rfl<|jpc 2 rfl<|jot<|jbk<|
  jlp (fun s2 K=>∀ p5 c5 r_2,K [(1, pt b1 0), (3, sv p3 r1 c3), (4, pt b2 0), (5, sv p5 s2.1 c5), (15, sv p2 y0.2.2.2 c2), (16, vi (len y0.2.2.2)), (17, vi s2.2)] [bx b1 32 [vi y0.1.1, sv p1 y0.1.2 c1, vi y0.2.1, vi y0.2.2.1.1, vi y0.2.2.1.2, sv p2 y0.2.2.2 c2], bx b2 58 [vs [103, 111, 110, 101], vs [105, 110], vs [111, 117, 116]], r_2] [Al eStr 9 r_2 p5 c5 s2.1, Rl (eInt .i64) p3 c3 r1, Rl e_Move p2 c2 y0.2.2.2, Rl e_Pair p1 c1 y0.1.2]) (gv (fun _ k=>k none 0 []) [0,1,2] ⟨gk 0,gk 1,gk 3,gk 2,⟨⟩⟩)<|
  fun s2 _ k p5 c5 r_2=>k<|jsr<|jpc 1 rfl<|jot<|jsq<|jif rfl (jsk<|jtn<|jsq<|jbk<|jsr<|jpc 1 rfl<|jix 2 rfl rfl rfl<|fun x1 b3 o1=>jld true o_Move (gk 0) rfl<|jal .s (.agg #[vi 0, vi 0, vi 0, vi 0])<|fun b4=>jpc 1 rfl<|jso .s 3 rfl rfl rfl<|
  jot<|jds [] [3] 12<|jdc 11 [0] rfl<|jdf 3 0 rfl rfl<|jdo 4 3 rfl rfl rfl rfl<|jda 8 3 4 rfl rfl rfl rfl<|jd1 1<|jca (.f rfl) [] [] c_report_number rfl rfl rfl ⟨⟩<|fun r2 _ k=>k<|jdn<|jbd fun x2 h1=>jdv 2 rfl (fun h=>r_cat h rfl rfl h1)<|
  jd1 5<|jca (.f rfl) [] [] c_report_player rfl rfl rfl ⟨⟩<|fun r3 _ k=>k<|jdn<|jbd fun x3 h2=>jdv 6 rfl (fun h=>r_cat h rfl rfl h2)<|jbd fun x4 h3=>jdv 7 rfl (fun h=>r_cat h rfl rfl h3)<|jd1 9<|
  jca (.f rfl) [] [] c_report_act rfl rfl rfl ⟨⟩<|fun r4 _ k=>k<|jdn<|jbd fun x5 h4=>jdv 10 rfl (fun h=>r_cat h rfl rfl h4)<|jdc 0 [11] rfl<|jde<|jtn<|
  jjn (fun s3 K=>K [(1, pt b1 0), (3, sv p3 r1 c3), (4, pt b2 0), (5, sv p5 s2.1 c5), (8, vs s3), (15, sv p2 y0.2.2.2 c2), (16, vi (len y0.2.2.2)), (17, vi s2.2)] [bx b1 32 [vi y0.1.1, sv p1 y0.1.2 c1, vi y0.2.1, vi y0.2.2.1.1, vi y0.2.2.1.2, sv p2 y0.2.2.2 c2], bx b2 58 [vs [103, 111, 110, 101], vs [105, 110], vs [111, 117, 116]], r_2, []] [Rl (eInt .i64) p3 c3 r1, Al eStr 9 r_2 p5 c5 s2.1, Rl e_Move p2 c2 y0.2.2.2, Rl e_Pair p1 c1 y0.1.2]) (
  jjp (fun K=>K [(1, pt b1 0), (3, sv p3 r1 c3), (4, pt b2 0), (5, sv p5 s2.1 c5), (6, vi s2.2), (8, vs x5), (15, sv p2 y0.2.2.2 c2), (16, vi (len y0.2.2.2)), (17, vi s2.2), (40, vb ((x1.2.1 == 1) || (x1.2.1 == 2)))] [bx b1 32 [vi y0.1.1, sv p1 y0.1.2 c1, vi y0.2.1, vi y0.2.2.1.1, vi y0.2.2.1.2, sv p2 y0.2.2.2 c2], bx b2 58 [vs [103, 111, 110, 101], vs [105, 110], vs [111, 117, 116]], r_2, []] [Rl (eInt .i64) p3 c3 r1, Al eStr 9 r_2 p5 c5 s2.1, Rl e_Move p2 c2 y0.2.2.2, Rl e_Pair p1 c1 y0.1.2]) (
  jrg<|jfa 1 rfl<|jlo 3 rfl rfl rfl<|jpc 2 rfl<|jsp (b := x1.2.1 == 1) 36 rfl (fun hb1=>jpc 3 rfl<|jpe (vb true)<|joe<|jup 40 (vb ((x1.2.1 == 1) || (x1.2.1 == 2))) rfl (by rw [hb1]; rfl)<|
  jnn (gv (fun _ k=>k) [0,1,2,903] ⟨gk 2,gk 1,gk 3,gk 4,⟨⟩⟩))<|fun hb1=>jfa 1 rfl<|jlo 3 rfl rfl rfl<|jpc 1 rfl<|jpe (vb (x1.2.1 == 2))<|joe<|jup 40 (vb ((x1.2.1 == 1) || (x1.2.1 == 2))) rfl (by rw [hb1]; rfl)<|
  jnn (gv (fun _ k=>k) [0,1,2,903] ⟨gk 2,gk 1,gk 3,gk 4,⟨⟩⟩))<|fun _ k=>k<|jif rfl (jrg<|jpc 3 rfl<|jix 0 rfl rfl rfl<|fun x6 b5 o2=>jld false oI (gk 0) rfl<|
  jiB (l := ([[103, 111, 110, 101], [105, 110], [111, 117, 116]] : List Str)) rfl rfl<|fun x7 h5=>jlI 1 vs rfl rfl rfl h5<|jbd fun x8 h6=>jv (fun h=>r_cat h rfl rfl h6)<|jbd fun x9 h7=>jv (fun h=>r_cat h rfl rfl h7)<|jpc 1 rfl<|joe<|
  jnn (gv (fun _ k=>k) [0,1,2,903] ⟨gk 1,gk 2,gk 3,gk 4,⟨⟩⟩))<|jsk<|jnn (gv (fun _ k=>k) [0,1,2,903] ⟨gk 0,gk 1,gk 2,gk 3,⟨⟩⟩))<|fun s3 _ k=>k<|jrg<|jpc 2 rfl<|jbs .s (e := eStr) 9 [vs s3] ([s3] : List Str) (rC vS rN)<|fun p6 c6=>
  jar .s 2 2 rfl (gk 0) rfl rfl<|fun x10 r_3 p7 c7=>jpc 1 rfl<|joe<|jbn<|jtn<|jrg<|jpc 2 rfl<|joe<|jln (gv (fun _ k=>k p7 c7 r_3) [0,1,2] ⟨gk 0,gk 2,gk 4,gk 5,⟨⟩⟩))<|jxe<|jte<|jle<|jbh<|
  jnn (gv (fun _ k=>k p5 c5 r_2) [0,901,2] ⟨gk 0,gk 3,gk 2,⟨⟩⟩))<|fun s1 _ k p4 c4 r_1=>k<|jsr<|
  jv (v := .agg #[vs [], vs [110, 111, 32, 109, 111, 118, 101], vs [110, 111, 32, 116, 105, 109, 101], vs [99, 111, 110, 99, 101, 100, 101, 100], vs [102, 117, 108, 108]]) (fun h=>r_buildA h (by kernel_rfl))<|
  jal .s (.agg #[vs [], vs [], vs [], vs [], vs []])<|fun b6=>jso .s 3 rfl rfl rfl<|jot<|jsr<|jla 0 6 rfl rfl rfl<|jcl c_protocol_End rfl ⟨ck 1,ck 2,⟨⟩⟩<|fun r5 _ k=>k<|jal .s (.agg #[vi 0, vi 0])<|fun b7=>jso .s 4 rfl rfl rfl<|jot<|jsq<|
  jsr<|jfa 1 rfl<|jlo 4 rfl rfl rfl<|jpc 1 rfl<|jot<|jif rfl (jsr<|jpc 1 rfl<|jla 0 6 rfl rfl rfl<|jcl c_protocol_Turn rfl ⟨ck 1,ck 2,⟨⟩⟩<|fun r6 _ k=>k<|jcl c_report_player rfl ⟨⟩<|fun r7 _ k=>k<|jbd fun x11 h9=>
  jv (fun h=>r_cat h rfl rfl h9)<|jbd fun x12 h10=>jv (fun h=>r_cat h rfl rfl h10)<|jbs .s (e := eStr) 9 [vs x12] ([x12] : List Str) (rC vS rN)<|fun p8 c8=>jar .s 2 1 rfl (gk 0) rfl rfl<|fun x13 r_4 p9 c9=>jpc 1 rfl<|jot<|jxr<|jtr<|
  jsh 2 0 rfl rfl<|jr1 rfl rfl (fun _ k=>k p9 c9) [] ⟨gk 0,⟨⟩⟩)<|jsk<|jtn<|jds [] [3, 4] 13<|jdc 12 [0] rfl<|jdf 1 0 rfl rfl<|jdo 2 4 rfl rfl rfl rfl<|jdf 5 1 rfl rfl<|jdo 6 4 rfl rfl rfl rfl<|
  jdB (l := ([[], [110, 111, 32, 109, 111, 118, 101], [110, 111, 32, 116, 105, 109, 101], [99, 111, 110, 99, 101, 100, 101, 100], [102, 117, 108, 108]] : List Str)) 7 rfl rfl rfl<|fun x14 h12=>jdlI 8 3 vs rfl rfl rfl rfl h12<|jd1 3<|
  jca (.f rfl) [] [] c_report_player rfl rfl rfl ⟨⟩<|fun r8 _ k=>k<|jdn<|jbd fun x15 h13=>jdv 4 rfl (fun h=>r_cat h rfl rfl h13)<|jbd fun x16 h14=>jdv 9 rfl (fun h=>r_cat h rfl rfl h14)<|jd1 10<|
  jbs (.f rfl) (e := eStr) 9 [vs x16] ([x16] : List Str) (rC vS rN)<|fun p10 c10=>jdn<|jd1 11<|jar (.f rfl) 2 1 rfl (gk 0) rfl rfl<|fun x17 r_5 p11 c11=>jdn<|jdc 0 [12] rfl<|jde<|jtn<|jxr<|jsh 2 0 rfl rfl<|
  jr1 rfl rfl (fun _ k=>k p11 c11) [] ⟨gk 0,⟨⟩⟩

theorem c_law42_ReportDialogues {y0 : List Int} : Con False Tryd.prog 3 [sv p1 y0 c1] [] [Rl (eInt .i64) p1 c1 y0, Pt (eArr 9 eStr) 0 0 tab_formula_words] (m_law42_ReportDialogues y0) fun r K=>K (vb r) [] [] :=
 ent3 Tryd.call3 Tryd.func3 rfl fun X=>jsr<|jpc 1 rfl<|jot<|jsr<|jpc 1 rfl<|jcl c_keep_New rfl ⟨ck 0,⟨⟩⟩<|fun r1 _ k b1 p2 c2=>k<|jpc 1 rfl<|jot<|jsr<|jpc 1 rfl<|jca .s [0] [] c_net_Graph rfl rfl rfl ⟨ck 0,⟨⟩⟩<|fun r2 _ k p3 c3=>k<|jal .s (.agg #[vi 0, .slice none 0 0])<|
  fun b2=>jso .s 1 rfl rfl rfl<|jot<|
  jjn (fun s1 K=>∀ b3 p4 c4 p5 c5,K [(3, pt b1 0), (5, pt b3 0)] [bx b1 52 [sv p2 r1.1 c2, vi s1.1], [], bx b3 32 [vi s1.2.1.1, sv p4 s1.2.1.2 c4, vi s1.2.2.1, vi s1.2.2.2.1.1, vi s1.2.2.2.1.2, sv p5 s1.2.2.2.2 c5]] [Rl e_Pair p4 c4 s1.2.1.2, Rl e_Move p5 c5 s1.2.2.2.2, Rl (eInt .i64) p2 c2 r1.1, Pt (eArr 9 eStr) 0 0 tab_formula_words]) (
  jdS [] [1] 17<|jda 0 1 2 rfl rfl rfl rfl<|jdc 15 [1] rfl<|jdf 2 0 rfl rfl<|jdo 3 1 rfl rfl rfl rfl<|jdc 11 [5,7] rfl<|jd2 4 14 (jca (.f rfl) [0] [] c_keep_Src_N rfl rfl rfl ⟨ck 1,⟨⟩⟩<|fun r3 _ k=>k<|jdn<|jd2 6 14 (
  jca (.f rfl) [0] [] c_keep_Src_Range rfl rfl rfl ⟨ck 1,⟨⟩⟩<|fun r4 _ k=>k<|jdn<|jd2 8 14 (jca (.f rfl) [0] [] c_keep_Src_Range rfl rfl rfl ⟨ck 1,⟨⟩⟩<|fun r5 _ k=>k<|jdn<|
  jdv (v := .agg #[vi r4.1, vi r5.1]) 9 rfl (fun h=>r_buildA h (by kernel_rfl))<|jd2 10 14 (jca (.f rfl) [] [] c_ref27_New rfl rfl rfl ⟨ck 0,⟨⟩⟩<|fun r6 _ k p6 c6 p7 c7=>k<|jdn<|jdc 3 [11,12,13] rfl<|jd1 14<|
  jal (.f rfl) (.agg #[vi 0, .slice none 0 0, vi 0, vi 0, vi 0, .slice none 0 0])<|fun b4=>jdn<|jd1 15<|jso (o := 0) (.f rfl) 2 rfl rfl rfl<|jdn<|jdc 0 [16] rfl<|jde<|jnn (gv (fun _ k=>k b4 p6 c6 p7 c7) [0,901,2] ⟨gk 0,gk 1,gk 3,gk 5,⟨⟩⟩)) <|
  jal (.f rfl) (.agg #[vi 0, .slice none 0 0, vi 0, vi 0, vi 0, .slice none 0 0])<|fun b5=>jdn<|jd1 10<|jca (.f rfl) [] [] c_ref27_New rfl rfl rfl ⟨ck 0,⟨⟩⟩<|fun r7 _ k p8 c8 p9 c9=>k<|jdn<|jdc 2 [11,12,13] rfl<|jd1 15<|
  jso (o := 0) (.f rfl) 2 rfl rfl rfl<|jdn<|jdc 0 [16] rfl<|jde<|jnn (gv (fun _ k=>k b5 p8 c8 p9 c9) [0,901,2] ⟨gk 0,gk 1,gk 3,gk 5,⟨⟩⟩)) <|jal (.f rfl) (.agg #[vi 0, .slice none 0 0, vi 0, vi 0, vi 0, .slice none 0 0])<|fun b6=>jdn<|jd1 8<|
  jca (.f rfl) [0] [] c_keep_Src_Range rfl rfl rfl ⟨ck 1,⟨⟩⟩<|fun r8 _ k=>k<|jdn<|jdv (v := .agg #[vi r4.1, vi r8.1]) 9 rfl (fun h=>r_buildA h (by kernel_rfl))<|jd1 10<|jca (.f rfl) [] [] c_ref27_New rfl rfl rfl ⟨ck 0,⟨⟩⟩<|
  fun r9 _ k p10 c10 p11 c11=>k<|jdn<|jdc 2 [11,12,13] rfl<|jd1 15<|jso (o := 0) (.f rfl) 2 rfl rfl rfl<|jdn<|jdc 0 [16] rfl<|jde<|jnn (gv (fun _ k=>k b6 p10 c10 p11 c11) [0,901,2] ⟨gk 0,gk 1,gk 3,gk 5,⟨⟩⟩)) <|
  jal (.f rfl) (.agg #[vi 0, .slice none 0 0, vi 0, vi 0, vi 0, .slice none 0 0])<|fun b7=>jdn<|jd1 6<|jca (.f rfl) [0] [] c_keep_Src_Range rfl rfl rfl ⟨ck 1,⟨⟩⟩<|fun r10 _ k=>k<|jdn<|jd1 8<|
  jca (.f rfl) [0] [] c_keep_Src_Range rfl rfl rfl ⟨ck 1,⟨⟩⟩<|fun r11 _ k=>k<|jdn<|jdv (v := .agg #[vi r10.1, vi r11.1]) 9 rfl (fun h=>r_buildA h (by kernel_rfl))<|jd1 10<|jca (.f rfl) [] [] c_ref27_New rfl rfl rfl ⟨ck 0,⟨⟩⟩<|
  fun r12 _ k p12 c12 p13 c13=>k<|jdn<|jdc 2 [11,12,13] rfl<|jd1 15<|jso (o := 0) (.f rfl) 2 rfl rfl rfl<|jdn<|jdc 0 [16] rfl<|jde<|jnn (gv (fun _ k=>k b7 p12 c12 p13 c13) [0,901,2] ⟨gk 0,gk 1,gk 3,gk 5,⟨⟩⟩)) <|
  jal (.f rfl) (.agg #[vi 0, .slice none 0 0, vi 0, vi 0, vi 0, .slice none 0 0])<|fun b8=>jdn<|jd1 4<|jca (.f rfl) [0] [] c_keep_Src_N rfl rfl rfl ⟨ck 1,⟨⟩⟩<|fun r13 _ k=>k<|jdn<|jd1 6<|
  jca (.f rfl) [0] [] c_keep_Src_Range rfl rfl rfl ⟨ck 1,⟨⟩⟩<|fun r14 _ k=>k<|jdn<|jd1 8<|jca (.f rfl) [0] [] c_keep_Src_Range rfl rfl rfl ⟨ck 1,⟨⟩⟩<|fun r15 _ k=>k<|jdn<|
  jdv (v := .agg #[vi r14.1, vi r15.1]) 9 rfl (fun h=>r_buildA h (by kernel_rfl))<|jd1 10<|jca (.f rfl) [] [] c_ref27_New rfl rfl rfl ⟨ck 0,⟨⟩⟩<|fun r16 _ k p14 c14 p15 c15=>k<|jdn<|jdc 2 [11,12,13] rfl<|jd1 15<|
  jso (o := 0) (.f rfl) 2 rfl rfl rfl<|jdn<|jdc 0 [16] rfl<|jde<|jnn (gv (fun _ k=>k b8 p14 c14 p15 c15) [0,901,2] ⟨gk 0,gk 1,gk 3,gk 5,⟨⟩⟩))<|fun s1 _ k b3 p4 c4 p5 c5=>k<|
  jjo (fun s2 K=>K [] [[], [], []] [Pt (eArr 9 eStr) 0 0 tab_formula_words]) (jsr<|jpc 1 rfl<|jot<|jbk<|
  jlp (fun s3 K=>∀ p16 c16 p17 c17,K [(3, pt b1 0), (5, pt b3 0), (7, vi s3.1)] [bx b1 52 [sv p2 r1.1 c2, vi s3.2.1], [], bx b3 32 [vi s3.2.2.1, sv p16 s3.2.2.2.1 c16, vi s3.2.2.2.2.1, vi s3.2.2.2.2.2.1, vi s3.2.2.2.2.2.2.1, sv p17 s3.2.2.2.2.2.2.2 c17]] [Rl e_Pair p16 c16 s3.2.2.2.1, Rl e_Move p17 c17 s3.2.2.2.2.2.2.2, Rl (eInt .i64) p2 c2 r1.1, Pt (eArr 9 eStr) 0 0 tab_formula_words]) (gv (fun _ k=>k p4 c4 p5 c5) [0,901,2] ⟨gk 0,gk 1,gk 2,gk 3,⟨⟩⟩)<|
  fun s3 _ k p16 c16 p17 c17=>k<|jsq<|jsr<|jpc 2 rfl<|jot<|jif rfl (jsk<|jtn<|jsq<|jbk<|jsr<|jla 2 6 rfl rfl rfl<|jcl c_report_Dialogue rfl ⟨ck 0,ck 1,⟨⟩⟩<|fun r17 _ k p18 c18=>k<|jpc 1 rfl<|jot<|jsq<|
  jjn (fun s4 K=>K [(3, pt b1 0), (5, pt b3 0), (7, vi s3.1), (8, sv p18 r17 c18), (52, vb s4)] [bx b1 52 [sv p2 r1.1 c2, vi s3.2.1], [], bx b3 32 [vi s3.2.2.1, sv p16 s3.2.2.2.1 c16, vi s3.2.2.2.2.1, vi s3.2.2.2.2.2.1, vi s3.2.2.2.2.2.2.1, sv p17 s3.2.2.2.2.2.2.2 c17]] [Rl eStr p18 c18 r17, Rl (eInt .i64) p2 c2 r1.1, Rl e_Pair p16 c16 s3.2.2.2.1, Rl e_Move p17 c17 s3.2.2.2.2.2.2.2, Pt (eArr 9 eStr) 0 0 tab_formula_words]) (
  jrg<|jpc 1 rfl<|jla 2 6 rfl rfl rfl<|jcl c_ref42_Dialogue rfl ⟨ck 1,ck 2,⟨⟩⟩<|fun r18 _ k p19 c19=>k<|jcl c_ref42_Same rfl ⟨ck 1,ck 0,⟨⟩⟩<|fun r19 _ k=>k<|jpc 2 rfl<|jsg 44 rfl (jpc 7 rfl<|jpe (vb true)<|joe<|
  jnn (gv (fun _ k=>k) [0,901,2] ⟨gk 1,gk 4,gk 2,gk 3,gk 5,⟨⟩⟩))<|jpc 2 rfl<|jfa 5 rfl<|jlo 2 rfl rfl rfl<|jpc 3 rfl<|jpe (vb ((len r17) != (w64 ((len s3.2.2.2.2.2.2.2) + 1))))<|joe<|
  jnn (gv (fun _ k=>k) [0,901,2] ⟨gk 1,gk 4,gk 2,gk 3,gk 5,⟨⟩⟩))<|fun s4 _ k=>k<|jif rfl (jsr<|jpc 1 rfl<|jot<|jxr<|jtr<|jbr<|jtr<|jlr<|jbr<|jlr<|jr1 rfl rfl (fun _ k=>k) [] ⟨⟩)<|jsk<|jtn<|jsr<|jpc 4 rfl<|jix 0 rfl rfl rfl<|fun x1 b9 o1=>
  jld false oS (gk 0) rfl<|jpc 1 rfl<|jot<|
  jjo (fun s5 K=>K [(3, pt b1 0), (5, pt b3 0), (7, vi s3.1)] [bx b1 52 [sv p2 r1.1 c2, vi s3.2.1], [], bx b3 32 [vi s3.2.2.1, sv p16 s3.2.2.2.1 c16, vi s3.2.2.2.2.1, vi s3.2.2.2.2.2.1, vi s3.2.2.2.2.2.2.1, sv p17 s3.2.2.2.2.2.2.2 c17]] [Rl (eInt .i64) p2 c2 r1.1, Rl e_Pair p16 c16 s3.2.2.2.1, Rl e_Move p17 c17 s3.2.2.2.2.2.2.2, Pt (eArr 9 eStr) 0 0 tab_formula_words]) (
  jsr<|jla 2 6 rfl rfl rfl<|jcl c_ref27_Turn rfl ⟨ck 3,ck 4,⟨⟩⟩<|fun r20 _ k=>k<|jot<|jbk<|jsr<|jpc 2 rfl<|jot<|jif rfl (jsr<|jpc 2 rfl<|jot<|jif rfl (jsr<|jpc 1 rfl<|jot<|jxr<|jbr<|jlr<|jbr<|jtr<|jlr<|jbr<|jlr<|jr1 rfl rfl (fun _ k=>k) [] ⟨⟩
  )<|jsk<|jbn<|jln (gv (fun _ k=>k) [0,901,2] ⟨gk 2,gk 3,gk 4,gk 5,⟨⟩⟩))<|jsr<|jpc 2 rfl<|jot<|jif rfl (jsr<|jpc 2 rfl<|jot<|jif rfl (jsr<|jpc 1 rfl<|jot<|jxr<|jbr<|jlr<|jbr<|jtr<|jlr<|jbr<|jlr<|jr1 rfl rfl (fun _ k=>k) [] ⟨⟩)<|jsk<|jbn<|
  jln (gv (fun _ k=>k) [0,901,2] ⟨gk 2,gk 3,gk 4,gk 5,⟨⟩⟩))<|jsr<|jla 2 6 rfl rfl rfl<|jcl c_ref27_End rfl ⟨ck 3,ck 4,⟨⟩⟩<|fun r21 _ k=>k<|jal .s (.agg #[vi 0, vi 0])<|fun b10=>jso .s 3 rfl rfl rfl<|jot<|
  jjn (fun s6 K=>K [(3, pt b1 0), (5, pt b3 0), (7, vi s3.1), (74, vb s6)] [bx b1 52 [sv p2 r1.1 c2, vi s3.2.1], [], bx b3 32 [vi s3.2.2.1, sv p16 s3.2.2.2.1 c16, vi s3.2.2.2.2.1, vi s3.2.2.2.2.2.1, vi s3.2.2.2.2.2.2.1, sv p17 s3.2.2.2.2.2.2.2 c17], []] [Rl (eInt .i64) p2 c2 r1.1, Rl e_Pair p16 c16 s3.2.2.2.1, Rl e_Move p17 c17 s3.2.2.2.2.2.2.2, Pt (eArr 9 eStr) 0 0 tab_formula_words]) (
  jdS [] [3] 12<|jdc 8 [0,1,2,3] rfl<|jsg 66 rfl (jdc 1 [4,5,6,7,8,9,10] rfl<|jdp 11 (vb true) rfl<|jde<|jnn (gv (fun _ k=>k) [0,901,2,903] ⟨gk 2,gk 3,gk 4,gk 5,⟨⟩⟩))<|jdc 7 [4] rfl<|jbd fun x2 h1=>
  jdv 5 rfl (fun h=>r_ssub h rfl Tryd.underlying9 rfl rfl (.inl ⟨rfl, rfl⟩) (.inr ⟨_, rfl⟩) h1)<|jdc 5 [6] rfl<|jdf 7 0 rfl rfl<|jdo 8 3 rfl rfl rfl rfl<|jdc 2 [9] rfl<|
  jdp 10 (vb (!((x2 == [80, 32, 119, 105, 110, 115, 58]) == (r21.1 == 1)))) rfl<|jdp 11 (vb (!((x2 == [80, 32, 119, 105, 110, 115, 58]) == (r21.1 == 1)))) rfl<|jde<|jnn (gv (fun _ k=>k) [0,901,2,903] ⟨gk 2,gk 3,gk 4,gk 5,⟨⟩⟩))<|fun s6 _ k=>
  k<|jif rfl (jsr<|jpc 1 rfl<|jot<|jxr<|jbr<|jlr<|jbr<|jtr<|jlr<|jbr<|jlr<|jr1 rfl rfl (fun _ k=>k) [] ⟨⟩)<|jsk<|jbn<|jln (gv (fun _ k=>k) [0,901,2] ⟨gk 0,gk 1,gk 2,gk 3,⟨⟩⟩))<|fun s5 _ k=>k<|jsr<|jla 2 6 rfl rfl rfl<|
  jcl c_ref27_Legal rfl ⟨ck 1,ck 2,⟨⟩⟩<|fun r22 _ k p20 c20=>k<|jpc 1 rfl<|jot<|jsq<|jsr<|jpc 3 rfl<|jot<|jif rfl (jxe<|jte<|jbm<|jte<|jle<|jbh<|jln (gv (fun _ k=>k) [900,901,902] ⟨gk 4,⟨⟩⟩))<|jsk<|jtn<|jsr<|jpc 4 rfl<|
  jca .s [0] [] c_keep_Src_N rfl rfl rfl ⟨ck 1,⟨⟩⟩<|fun r23 _ k=>k<|jix 0 rfl rfl rfl<|fun x3 b11 o2=>jld true o_Move (gk 0) rfl<|jal .s (.agg #[vi 0, vi 0, vi 0, vi 0])<|fun b12=>jso .s 3 rfl rfl rfl<|jot<|
  jjn (fun s7 K=>K [(3, pt b1 0), (5, pt b3 0), (7, vi s3.1), (12, pt b12 0)] [bx b1 52 [sv p2 r1.1 c2, vi s7.1], [], bx b3 32 [vi s3.2.2.1, sv p16 s3.2.2.2.1 c16, vi s3.2.2.2.2.1, vi s3.2.2.2.2.2.1, vi s3.2.2.2.2.2.2.1, sv p17 s3.2.2.2.2.2.2.2 c17], bx b12 47 [vi x3.1, vi s7.2.1, vi s7.2.2.1, vi s7.2.2.2]] [Rl (eInt .i64) p2 c2 r1.1, Rl e_Pair p16 c16 s3.2.2.2.1, Rl e_Move p17 c17 s3.2.2.2.2.2.2.2, Pt (eArr 9 eStr) 0 0 tab_formula_words]) (
  jsr<|jpc 1 rfl<|jca .s [0] [] c_keep_Src_N rfl rfl rfl ⟨ck 2,⟨⟩⟩<|fun r24 _ k=>k<|jot<|jbk<|jsr<|jpc 2 rfl<|jot<|jif rfl (jdS [8] [2, 3] 9<|jdf 0 0 rfl rfl<|jdo 1 3 rfl rfl rfl rfl<|jdc 6 [2] rfl<|jdf 3 5 rfl rfl<|jdo 4 2 rfl rfl rfl rfl<|
  jdc 3 [5] rfl<|jd1 6<|jca (.f rfl) [0] [] c_keep_Src_N rfl rfl rfl ⟨ck 2,⟨⟩⟩<|fun r25 _ k=>k<|jdn<|jdp 7 (.agg #[vi x3.1, vi 3, vi 0, vi r25.1]) rfl<|jd1 8<|jso (o := 0) (.f rfl) 3 rfl rfl rfl<|jdb [] [2, 3]<|jde<|jbn<|
  jnn (gv (fun _ k=>k) [0,901,2,3] ⟨gk 2,gk 3,gk 4,gk 5,⟨⟩⟩))<|jsr<|jpc 2 rfl<|jot<|jif rfl (jrg<|jfa 0 rfl<|jlo 3 rfl rfl rfl<|jpe (.agg #[vi x3.1, vi 4, vi 0, vi 0])<|jso .s 3 rfl rfl rfl<|joe<|jbn<|
  jnn (gv (fun _ k=>k) [0,901,2,3] ⟨gk 2,gk 3,gk 4,gk 5,⟨⟩⟩))<|jsk<|jbn<|jnn (gv (fun _ k=>k) [0,901,2,3] ⟨gk 2,gk 3,gk 4,gk 5,⟨⟩⟩))<|fun s7 _ k=>k<|jsr<|jla 2 6 rfl rfl rfl<|jla 3 4 rfl rfl rfl<|jcl c_ref27_Apply rfl ⟨ck 1,ck 2,⟨⟩⟩<|
  fun r26 _ k p21 c21 p22 c22=>k<|jpc 3 rfl<|jal .s (.agg #[vi 0, .slice none 0 0, vi 0, vi 0, vi 0, .slice none 0 0])<|fun b13=>jso .s 4 rfl rfl rfl<|jpc 1 rfl<|jot<|jsr<|jpc 2 rfl<|jot<|jif rfl (jrg<|jla 4 6 rfl rfl rfl<|
  jso .s 2 rfl rfl rfl<|joe<|jbn<|jtn<|jrg<|jpc 3 rfl<|joe<|jln (gv (fun _ k=>k p21 c21 p22 c22) [0,901,2] ⟨gk 0,gk 1,gk 2,gk 5,⟨⟩⟩))<|jsk<|jbn<|jtn<|jrg<|jpc 3 rfl<|joe<|
  jln (gv (fun _ k=>k p16 c16 p17 c17) [0,901,2] ⟨gk 3,gk 4,gk 2,gk 5,⟨⟩⟩))<|jxe<|jte<|jle<|jbh<|jln (gv (fun _ k=>k) [900,901,902] ⟨gk 3,⟨⟩⟩))<|fun s2 _ k=>k<|jsr<|jcl c_law42_awake rfl ⟨ck 0,⟨⟩⟩<|fun r27 _ k=>k<|jpc 1 rfl<|jot<|jxr<|
  jr1 rfl rfl (fun _ k=>k) [] ⟨⟩

end Go.Proofs.YteleongkifgjhaaDoor
