/- The Go functions compute their models: printed by program (gd3). Conditions: none. -/
import Derived.Test.YtoacfdaobkghfaaDoorProg
import Derived.Test.YtoacfdaobkghfaaDoorGlob
import Derived.Test.YtoacfdaobkghfaaDoorModels
import Derived.Test.YtoacfdaobkghfaaDoorSort
import Derived.Test.YtoacfdaobkghfaaDoorSort3
import Derived.Test.YtoacfdaobkghfaaDoorShelfP
namespace Go.Proofs.YtoacfdaobkghfaaDoor
open Go Go.GD
set_option autoImplicit false
set_option maxRecDepth 100000
variable {p1 p2 p3 p4 p5 : Option Addr} {c1 c2 c3 c4 c5 : Nat} {b1 b2 b3 b4 b5 b6 : Nat} {r_1 r_2 : Res}

abbrev e_Pair : E T_Pair := eProd (eInt .i64) (eInt .i64)
abbrev o_Pair : Opn e_Pair := (oP oI oI)
abbrev e_Graph : E T_Graph := eProd (eInt .i64) (eSlice e_Pair)
abbrev o_Graph : Opn e_Graph := (oP oI oL)
abbrev e_network_Net : E T_network_Net := eProd (eInt .u64) (eProd (eSlice (eInt .u64)) (eSlice (eInt .u64)))
abbrev o_network_Net : Opn e_network_Net := (oP oI (oP oL oL))
abbrev e_keep_Src : E T_keep_Src := eProd (eSlice (eInt .i64)) (eInt .i64)
abbrev o_keep_Src : Opn e_keep_Src := (oP oL oI)

theorem c_math_bits_TrailingZeros64 {y0 : Int} : Con Tryd.prog 62 [.int .u64 y0] [] [Pt (eArr 64 (eInt .u8)) 0 0 tab_math_bits_deBruijn64tab] (m_math_bits_TrailingZeros64 y0) fun r K=>K (vi r) [] [] :=
 ent3 Tryd.call62 Tryd.func62 rfl fun X=>jsr<|jpc 1 rfl<|jot<|jsq<|jsr<|jpc 2 rfl<|jot<|jif rfl (jsr<|jpc 1 rfl<|jot<|jxr<|jtr<|jr1 rfl rfl (fun _ k=>k) [] ⟨⟩)<|jsk<|jtn<|jsr<|jpc 5 rfl<|
  jpe (.int .u64 (shr .u64 (IntKind.u64.wrap ((band .u64 y0 (IntKind.u64.wrap (0 - y0))) * 285870213051353865)) 58))<|jgx (gk 0) rfl rfl<|fun x1=>jld false oI (gk 0) rfl<|jpe (vi (w64 (x1)))<|jpc 1 rfl<|jot<|jxr<|
  jr1 rfl rfl (fun _ k=>k) [] ⟨⟩

theorem c_network_Set_List {y0 : Int} : Con Tryd.prog 32 [.int .u64 y0] [] [Pt (eArr 64 (eInt .u8)) 0 0 tab_math_bits_deBruijn64tab] (m_network_Set_List y0) fun r K=>∀ p1 c1 r_1,K (sv p1 r c1) [r_1] [Al (eInt .i64) 3 r_1 p1 c1 r] :=
 ent3 Tryd.call32 Tryd.func32 rfl fun X=>jsr<|jpc 1 rfl<|jot<|jsr<|jpc 1 rfl<|jro (eInt .i64) 3<|jot<|jsq<|jbk<|
  jlp (fun s1 K=>∀ p1 c1 r_1,K [(0, .int .u64 s1.1), (3, sv p1 s1.2 c1)] [r_1] [Al (eInt .i64) 3 r_1 p1 c1 s1.2, Pt (eArr 64 (eInt .u8)) 0 0 tab_math_bits_deBruijn64tab]) (gv (fun _ k=>k none 0 []) [0] ⟨gk 0,gk 1,⟨⟩⟩)<|fun s1 _ k p1 c1 r_1=>
  k<|jsq<|jsr<|jpc 2 rfl<|jot<|jif rfl (jsk<|jtn<|jsq<|jbk<|jrg<|jpc 2 rfl<|jcl c_math_bits_TrailingZeros64 rfl ⟨ck 1,⟨⟩⟩<|fun r1 _ k=>k<|jbs .s (e := eInt .i64) 3 [vi r1] ([r1] : List Int) (rC vI rN)<|fun p2 c2=>
  jar .s 0 1 rfl (gk 0) rfl rfl<|fun x1 r_2 p3 c3=>jpc 1 rfl<|joe<|jbn<|jtn<|jrg<|jpc 5 rfl<|joe<|jln (gv (fun _ k=>k p3 c3 r_2) [0] ⟨gk 0,gk 3,⟨⟩⟩))<|jxe<|jte<|jle<|jbh<|jtn<|jsr<|jpc 2 rfl<|jot<|jxr<|
  jr1 rfl rfl (fun _ k=>k p1 c1 r_1) [0] ⟨gk 0,⟨⟩⟩

theorem c_network_Net_Attackers {y0 : T_network_Net} {y1 : Int} : Con Tryd.prog 66 [.agg #[.int .u64 y0.1, sv p1 y0.2.1 c1, sv p2 y0.2.2 c2], .int .u64 y1] [] [Rl (eInt .u64) p1 c1 y0.2.1, Rl (eInt .u64) p2 c2 y0.2.2, Pt (eArr 64 (eInt .u8)) 0 0 tab_math_bits_deBruijn64tab] (m_network_Net_Attackers y0 y1) fun r K=>K (.int .u64 r) [] [] :=
 ent3 Tryd.call66 Tryd.func66 rfl fun X=>jsr<|jbx .s rfl<|fun b1=>jpc 1 rfl<|jot<|jsr<|jpc 1 rfl<|jot<|jsq<|jsr<|jpc 1 rfl<|jcl c_network_Set_List rfl ⟨ck 2,⟨⟩⟩<|fun r1 _ k p3 c3 r_1=>k<|jpc 2 rfl<|jot<|jbk<|
  jlp (fun s1 K=>K [(2, pt b1 0), (5, .int .u64 s1.1), (9, sv p3 r1 c3), (10, vi (len r1)), (11, vi s1.2)] [bx b1 59 [.int .u64 y0.1, sv p1 y0.2.1 c1, sv p2 y0.2.2 c2], r_1] [Al (eInt .i64) 3 r_1 p3 c3 r1, Rl (eInt .u64) p1 c1 y0.2.1, Rl (eInt .u64) p2 c2 y0.2.2, Pt (eArr 64 (eInt .u8)) 0 0 tab_math_bits_deBruijn64tab]) (gv (fun _ k=>k) [0,1] ⟨gk 0,gk 1,gk 2,gk 3,⟨⟩⟩)<|
  fun s1 _ k=>k<|jsr<|jpc 1 rfl<|jot<|jsq<|jif rfl (jsk<|jtn<|jsq<|jbk<|jsr<|jia 0 rfl rfl rfl<|fun x1 h1 b2 hp1=>jlA 1 0 sI false oI rfl hp1 h1 rfl<|jpc 1 rfl<|jot<|jrg<|jpc 1 rfl<|jfa 1 rfl<|jlo 0 rfl rfl rfl<|jpc 1 rfl<|jix 1 rfl rfl rfl<|
  fun x2 b3 o1=>jld false oI (gk 0) rfl<|jpc 2 rfl<|joe<|jbn<|jtn<|jrg<|jpc 2 rfl<|joe<|jln (gv (fun _ k=>k) [0,1] ⟨gk 1,gk 2,gk 3,gk 4,⟨⟩⟩))<|jxe<|jte<|jle<|jbh<|jtn<|jsr<|jpc 2 rfl<|jot<|jxr<|jr1 rfl rfl (fun _ k=>k) [] ⟨⟩

theorem c_network_Net_Hit {y0 : T_network_Net} {y1 : Int} : Con Tryd.prog 67 [.agg #[.int .u64 y0.1, sv p1 y0.2.1 c1, sv p2 y0.2.2 c2], .int .u64 y1] [] [Rl (eInt .u64) p1 c1 y0.2.1, Rl (eInt .u64) p2 c2 y0.2.2, Pt (eArr 64 (eInt .u8)) 0 0 tab_math_bits_deBruijn64tab] (m_network_Net_Hit y0 y1) fun r K=>K (.int .u64 r) [] [] :=
 ent3 Tryd.call67 Tryd.func67 rfl fun X=>jsr<|jbx .s rfl<|fun b1=>jpc 1 rfl<|jot<|jsr<|jpc 1 rfl<|jot<|jsq<|jsr<|jpc 1 rfl<|jcl c_network_Set_List rfl ⟨ck 2,⟨⟩⟩<|fun r1 _ k p3 c3 r_1=>k<|jpc 2 rfl<|jot<|jbk<|
  jlp (fun s1 K=>K [(2, pt b1 0), (5, .int .u64 s1.1), (9, sv p3 r1 c3), (10, vi (len r1)), (11, vi s1.2)] [bx b1 59 [.int .u64 y0.1, sv p1 y0.2.1 c1, sv p2 y0.2.2 c2], r_1] [Al (eInt .i64) 3 r_1 p3 c3 r1, Rl (eInt .u64) p1 c1 y0.2.1, Rl (eInt .u64) p2 c2 y0.2.2, Pt (eArr 64 (eInt .u8)) 0 0 tab_math_bits_deBruijn64tab]) (gv (fun _ k=>k) [0,1] ⟨gk 0,gk 1,gk 2,gk 3,⟨⟩⟩)<|
  fun s1 _ k=>k<|jsr<|jpc 1 rfl<|jot<|jsq<|jif rfl (jsk<|jtn<|jsq<|jbk<|jsr<|jia 0 rfl rfl rfl<|fun x1 h1 b2 hp1=>jlA 1 0 sI false oI rfl hp1 h1 rfl<|jpc 1 rfl<|jot<|jrg<|jpc 1 rfl<|jfa 2 rfl<|jlo 0 rfl rfl rfl<|jpc 1 rfl<|jix 2 rfl rfl rfl<|
  fun x2 b3 o1=>jld false oI (gk 0) rfl<|jpc 2 rfl<|joe<|jbn<|jtn<|jrg<|jpc 2 rfl<|joe<|jln (gv (fun _ k=>k) [0,1] ⟨gk 1,gk 2,gk 3,gk 4,⟨⟩⟩))<|jxe<|jte<|jle<|jbh<|jtn<|jsr<|jpc 2 rfl<|jot<|jxr<|jr1 rfl rfl (fun _ k=>k) [] ⟨⟩

theorem c_network_Net_Free {y0 : T_network_Net} {y1 : Int} : Con Tryd.prog 65 [.agg #[.int .u64 y0.1, sv p1 y0.2.1 c1, sv p2 y0.2.2 c2], .int .u64 y1] [] [Rl (eInt .u64) p1 c1 y0.2.1, Rl (eInt .u64) p2 c2 y0.2.2, Pt (eArr 64 (eInt .u8)) 0 0 tab_math_bits_deBruijn64tab] (m_network_Net_Free y0 y1) fun r K=>K (vb r) [] [] :=
 ent3 Tryd.call65 Tryd.func65 rfl fun X=>jsr<|jbx .s rfl<|fun b1=>jpc 1 rfl<|jot<|jsr<|jla 0 3 rfl rfl rfl<|jpc 1 rfl<|jcl c_network_Net_Hit rfl ⟨ck 0,ck 1,ck 2,⟨⟩⟩<|fun r1 _ k=>k<|jpc 4 rfl<|jot<|jxr<|jr1 rfl rfl (fun _ k=>k) [] ⟨⟩

theorem c_network_Net_Admissible {y0 : T_network_Net} {y1 : Int} : Con Tryd.prog 44 [.agg #[.int .u64 y0.1, sv p1 y0.2.1 c1, sv p2 y0.2.2 c2], .int .u64 y1] [] [Rl (eInt .u64) p1 c1 y0.2.1, Rl (eInt .u64) p2 c2 y0.2.2, Pt (eArr 64 (eInt .u8)) 0 0 tab_math_bits_deBruijn64tab] (m_network_Net_Admissible y0 y1) fun r K=>K (vb r) [] [] :=
 ent3 Tryd.call44 Tryd.func44 rfl fun X=>jsr<|jbx .s rfl<|fun b1=>jpc 1 rfl<|jot<|jjn (fun s1 K=>K [(4, vb s1)] [[]] [Pt (eArr 64 (eInt .u8)) 0 0 tab_math_bits_deBruijn64tab]) (jdS [] [0] 14<|jda 0 0 3 rfl rfl rfl rfl<|jdc 12 [1] rfl<|jd1 2<|
  jca (.f rfl) [] [] c_network_Net_Free rfl rfl rfl ⟨ck 0,ck 1,ck 2,⟨⟩⟩<|fun r1 _ k=>k<|jdn<|jdc 10 [3] rfl<|jsg 8 rfl (jda 4 0 3 rfl rfl rfl rfl<|jdc 8 [5] rfl<|jda 7 0 3 rfl rfl rfl rfl<|jdc 6 [8] rfl<|jd1 6<|
  jca (.f rfl) [] [] c_network_Net_Attackers rfl rfl rfl ⟨ck 0,ck 1,ck 2,⟨⟩⟩<|fun r2 _ k=>k<|jdn<|jd1 9<|jca (.f rfl) [] [] c_network_Net_Hit rfl rfl rfl ⟨ck 0,ck 1,ck 2,⟨⟩⟩<|fun r3 _ k=>k<|jdn<|jdc 2 [10,11] rfl<|
  jdp 12 (vb ((bandNot .u64 r2 r3) == 0)) rfl<|jdc 0 [13] rfl<|jde<|jnn (gv (fun _ k=>k) [900] ⟨gk 2,⟨⟩⟩))<|jdc 2 [4,5,6,7,8,9,10,11] rfl<|jdp 12 (vb false) rfl<|jdc 0 [13] rfl<|jde<|jnn (gv (fun _ k=>k) [900] ⟨gk 2,⟨⟩⟩))<|fun s1 _ k=>k<|
  jxr<|jr1 rfl rfl (fun _ k=>k) [] ⟨⟩

theorem c_network_Set_With {y0 : Int} {y1 : Int} : Con Tryd.prog 56 [.int .u64 y0, vi y1] [] [] (m_network_Set_With y0 y1) fun r K=>K (.int .u64 r) [] [] :=
 ent3 Tryd.call56 Tryd.func56 rfl fun X=>jsr<|jpc 1 rfl<|jot<|jsr<|jpc 2 rfl<|jpe (.int .u64 (IntKind.u64.wrap (y1)))<|jbd fun x1 h1=>jv (fun h=>r_shlK h rfl rfl h1)<|jpc 2 rfl<|jot<|jxr<|jr1 rfl rfl (fun _ k=>k) [] ⟨⟩

theorem c_network_Of {y0 : List Int} : Con Tryd.prog 37 [sv p1 y0 c1] [] [Rl (eInt .i64) p1 c1 y0] (m_network_Of y0) fun r K=>K (.int .u64 r) [] [] :=
 ent3 Tryd.call37 Tryd.func37 rfl fun X=>jsr<|jpc 1 rfl<|jot<|jsr<|jpc 1 rfl<|jot<|jsq<|jsr<|jpc 3 rfl<|jot<|jbk<|jlp (fun s1 K=>K [(3, .int .u64 s1.1), (6, sv p1 y0 c1), (7, vi (len y0)), (8, vi s1.2)] [] [Rl (eInt .i64) p1 c1 y0]) (gv (fun _ k=>k) [] ⟨gk 0,⟨⟩⟩)<|fun s1 _ k=>k<|
  jsr<|jpc 1 rfl<|jot<|jsq<|jif rfl (jsk<|jtn<|jsq<|jbk<|jsr<|jix 0 rfl rfl rfl<|fun x1 b1 o1=>jld false oI (gk 0) rfl<|jpc 1 rfl<|jot<|jrg<|jpc 2 rfl<|jcl c_network_Set_With rfl ⟨⟩<|fun r1 _ k=>k<|jpc 1 rfl<|joe<|jbn<|jtn<|jrg<|jpc 2 rfl<|
  joe<|jln (gv (fun _ k=>k) [] ⟨gk 1,⟨⟩⟩))<|jxe<|jte<|jle<|jbh<|jtn<|jsr<|jpc 2 rfl<|jot<|jxr<|jr1 rfl rfl (fun _ k=>k) [] ⟨⟩

theorem c_network_Set_Has {y0 : Int} {y1 : Int} : Con Tryd.prog 43 [.int .u64 y0, vi y1] [] [] (m_network_Set_Has y0 y1) fun r K=>K (vb r) [] [] :=
 ent3 Tryd.call43 Tryd.func43 rfl fun X=>jsr<|jpc 1 rfl<|jot<|jsr<|jpc 2 rfl<|jpe (.int .u64 (IntKind.u64.wrap (y1)))<|jbd fun x1 h1=>jv (fun h=>r_shrK h rfl rfl h1)<|jpc 3 rfl<|jot<|jxr<|jr1 rfl rfl (fun _ k=>k) [] ⟨⟩

theorem c_explain_Defences_1 {y0 : List Int} {y1 : Int} {y2 : T_network_Net} {y3 : List Int} : Con Tryd.prog 42 [sv p1 y0 c1, pt b1 0, pt b2 0, pt b3 0] [bx b1 3 [vi y1], bx b2 59 [.int .u64 y2.1, sv p2 y2.2.1 c2, sv p3 y2.2.2 c3], bx b3 57 [sv p4 y3 c4], r_1] [Rl (eInt .i64) p1 c1 y0, Rl (eInt .u64) p2 c2 y2.2.1, Rl (eInt .u64) p3 c3 y2.2.2, Al (eInt .u64) 56 r_1 p4 c4 y3, Pt (eArr 64 (eInt .u8)) 0 0 tab_math_bits_deBruijn64tab] (m_explain_Defences_1 y0 y1 y2 y3) fun r K=>∀ p5 c5 r_2,K (.tuple #[]) [bx b1 3 [vi y1], bx b2 59 [.int .u64 y2.1, sv p2 y2.2.1 c2, sv p3 y2.2.2 c3], bx b3 57 [sv p5 r c5], r_2] [Al (eInt .u64) 56 r_2 p5 c5 r] :=
 ent3 Tryd.call42 Tryd.func42 rfl fun X=>jsr<|jpc 1 rfl<|jcl c_network_Of rfl ⟨ck 0,⟨⟩⟩<|fun r1 _ k=>k<|jpc 1 rfl<|jot<|
  jjn (fun s1 K=>K [(3, pt b3 0), (5, .int .u64 r1), (15, vb s1)] [bx b1 3 [vi y1], bx b2 59 [.int .u64 y2.1, sv p2 y2.2.1 c2, sv p3 y2.2.2 c3], bx b3 57 [sv p4 y3 c4], r_1] [Rl (eInt .u64) p2 c2 y2.2.1, Rl (eInt .u64) p3 c3 y2.2.2, Al (eInt .u64) 56 r_1 p4 c4 y3, Pt (eArr 64 (eInt .u8)) 0 0 tab_math_bits_deBruijn64tab]) (
  jrg<|jpc 1 rfl<|jlo 0 rfl rfl rfl<|jcl c_network_Set_Has rfl ⟨⟩<|fun r2 _ k=>k<|jpc 1 rfl<|jsg 11 rfl (jla 1 3 rfl rfl rfl<|jpc 1 rfl<|jcl c_network_Net_Admissible rfl ⟨ck 1,ck 2,ck 4,⟨⟩⟩<|fun r3 _ k=>k<|jpe (vb r3)<|joe<|
  jnn (gv (fun _ k=>k) [0,1,2,3] ⟨gk 1,gk 2,gk 3,gk 4,⟨⟩⟩))<|jpc 3 rfl<|jpe (vb false)<|joe<|jnn (gv (fun _ k=>k) [0,1,2,3] ⟨gk 1,gk 2,gk 3,gk 4,⟨⟩⟩))<|fun s1 _ k=>k<|jif rfl (jrg<|jlo 2 rfl rfl rfl<|jpc 1 rfl<|
  jbs .s (e := eInt .u64) 56 [.int .u64 r1] ([r1] : List Int) (rC vI rN)<|fun p5 c5=>jar .s 3 3 rfl (gk 0) rfl rfl<|fun x1 r_2 p6 c6=>jso .s 2 rfl rfl rfl<|joe<|jrn<|jrg' rfl lN (fun _ k=>k p6 c6 r_2) [0,1,2,3] ⟨gk 0,⟨⟩⟩)<|jsk<|jrn<|
  jrg' rfl lN (fun _ k=>k p4 c4 r_1) [0,1,2,3] ⟨gk 2,⟨⟩⟩

theorem c_explain_all__explain_Defences_1 {y0 : List Int} {y1 : Int} {y2 : T_network_Net} {y3 : List Int} : Con Tryd.prog 41 [sv p1 y0 c1, .func (.func 42) #[] #[pt b1 0, pt b2 0, pt b3 0]] [bx b1 3 [vi y1], bx b2 59 [.int .u64 y2.1, sv p2 y2.2.1 c2, sv p3 y2.2.2 c3], bx b3 57 [sv p4 y3 c4], r_1] [Rl (eInt .i64) p1 c1 y0, Rl (eInt .u64) p2 c2 y2.2.1, Rl (eInt .u64) p3 c3 y2.2.2, Al (eInt .u64) 56 r_1 p4 c4 y3, Pt (eArr 64 (eInt .u8)) 0 0 tab_math_bits_deBruijn64tab] (m_explain_all__explain_Defences_1 y0 y1 y2 y3) fun r K=>∀ p5 c5 r_2,K (.tuple #[]) [bx b1 3 [vi y1], bx b2 59 [.int .u64 y2.1, sv p2 y2.2.1 c2, sv p3 y2.2.2 c3], bx b3 57 [sv p5 r c5], r_2] [Al (eInt .u64) 56 r_2 p5 c5 r] :=
 ent3 Tryd.call41 Tryd.func41 rfl fun X=>jsr<|jpc 2 rfl<|jbd fun x1 h1=>jv (fun h=>r_shlK h rfl rfl h1)<|jpc 1 rfl<|jot<|jbk<|
  jlp (fun s1 K=>∀ p5 c5 r_2,K [(0, sv p1 y0 c1), (1, .func (.func 42) #[] #[pt b1 0, pt b2 0, pt b3 0]), (10, vi x1), (11, vi s1.1)] [bx b1 3 [vi y1], bx b2 59 [.int .u64 y2.1, sv p2 y2.2.1 c2, sv p3 y2.2.2 c3], bx b3 57 [sv p5 s1.2 c5], r_2] [Al (eInt .u64) 56 r_2 p5 c5 s1.2, Rl (eInt .i64) p1 c1 y0, Rl (eInt .u64) p2 c2 y2.2.1, Rl (eInt .u64) p3 c3 y2.2.2, Pt (eArr 64 (eInt .u8)) 0 0 tab_math_bits_deBruijn64tab]) (gv (fun _ k=>k p4 c4 r_1) [0,1,2,3] ⟨gk 3,gk 0,gk 1,gk 2,gk 4,⟨⟩⟩)<|
  fun s1 _ k p5 c5 r_2=>k<|jsr<|jpc 1 rfl<|jot<|jsq<|jif rfl (jsk<|jtn<|jsq<|jbk<|jsr<|jpc 2 rfl<|jot<|jsr<|jpc 1 rfl<|jro (eInt .i64) 3<|jot<|
  jjn (fun s2 K=>∀ p6 c6 r_3,K [(0, sv p1 y0 c1), (1, .func (.func 42) #[] #[pt b1 0, pt b2 0, pt b3 0]), (5, sv p6 s2 c6), (10, vi x1), (11, vi s1.1)] [bx b1 3 [vi y1], bx b2 59 [.int .u64 y2.1, sv p2 y2.2.1 c2, sv p3 y2.2.2 c3], bx b3 57 [sv p5 s1.2 c5], r_2, r_3] [Al (eInt .i64) 3 r_3 p6 c6 s2, Rl (eInt .i64) p1 c1 y0, Rl (eInt .u64) p2 c2 y2.2.1, Rl (eInt .u64) p3 c3 y2.2.2, Al (eInt .u64) 56 r_2 p5 c5 s1.2, Pt (eArr 64 (eInt .u8)) 0 0 tab_math_bits_deBruijn64tab]) (
  jsr<|jpc 3 rfl<|jot<|jbk<|
  jlp (fun s3 K=>∀ p7 c7 r_4,K [(0, sv p1 y0 c1), (1, .func (.func 42) #[] #[pt b1 0, pt b2 0, pt b3 0]), (4, vi s1.1), (5, sv p7 s3.1 c7), (10, vi x1), (11, vi s1.1), (14, sv p1 y0 c1), (15, vi (len y0)), (16, vi s3.2)] [bx b1 3 [vi y1], bx b2 59 [.int .u64 y2.1, sv p2 y2.2.1 c2, sv p3 y2.2.2 c3], bx b3 57 [sv p5 s1.2 c5], r_2, r_4] [Al (eInt .i64) 3 r_4 p7 c7 s3.1, Rl (eInt .i64) p1 c1 y0, Rl (eInt .u64) p2 c2 y2.2.1, Rl (eInt .u64) p3 c3 y2.2.2, Al (eInt .u64) 56 r_2 p5 c5 s1.2, Pt (eArr 64 (eInt .u8)) 0 0 tab_math_bits_deBruijn64tab]) (gv (fun _ k=>k none 0 []) [0,1,2,3,4] ⟨gk 0,gk 2,gk 3,gk 4,gk 1,gk 5,⟨⟩⟩)<|
  fun s3 _ k p7 c7 r_4=>k<|jsr<|jpc 1 rfl<|jot<|jsq<|jif rfl (jsk<|jtn<|jsq<|jbk<|jsr<|jpc 1 rfl<|jix 1 rfl rfl rfl<|fun x2 b4 o1=>jld false oI (gk 0) rfl<|jpc 2 rfl<|jot<|jsr<|jpc 2 rfl<|jbd fun x3 h2=>jv (fun h=>r_shrK h rfl rfl h2)<|
  jpc 2 rfl<|jot<|jif rfl (jrg<|jpc 2 rfl<|jbs .s (e := eInt .i64) 3 [vi x2] ([x2] : List Int) (rC vI rN)<|fun p8 c8=>jar .s 4 2 rfl (gk 0) rfl rfl<|fun x4 r_5 p9 c9=>jpc 1 rfl<|joe<|jbn<|jtn<|jrg<|jpc 2 rfl<|joe<|
  jln (gv (fun _ k=>k p9 c9 r_5) [0,1,2,3,4] ⟨gk 0,gk 4,gk 5,gk 6,gk 7,gk 8,⟨⟩⟩))<|jsk<|jbn<|jtn<|jrg<|jpc 2 rfl<|joe<|jln (gv (fun _ k=>k p7 c7 r_4) [0,1,2,3,4] ⟨gk 1,gk 2,gk 3,gk 4,gk 5,gk 6,⟨⟩⟩))<|jxe<|jte<|jle<|jbh<|
  jnn (gv (fun _ k=>k p7 c7 r_4) [0,1,2,3,4] ⟨gk 0,gk 1,gk 2,gk 3,gk 4,gk 5,⟨⟩⟩))<|fun s2 _ k p6 c6 r_3=>k<|jrg<|jpc 2 rfl<|jsh 4 0 rfl rfl<|jca .s [0, 1, 2, 3] [] c_explain_Defences_1 rfl rfl rfl ⟨ck 0,ck 3,ck 4,ck 5,ck 6,⟨⟩⟩<|
  fun r1 _ k p10 c10 r_6=>k<|joe<|jbn<|jtn<|jrg<|jpc 2 rfl<|joe<|jln (gv (fun _ k=>k p10 c10 r_6) [0,1,2,3] ⟨gk 0,gk 3,gk 4,gk 5,gk 7,⟨⟩⟩))<|jxe<|jte<|jle<|jbh<|jrn<|jrg' rfl lN (fun _ k=>k p5 c5 r_2) [0,1,2,3] ⟨gk 0,⟨⟩⟩

theorem c_cmp_isNaN_int {y0 : Int} : Con Tryd.prog 88 [vi y0] [] [] (m_cmp_isNaN_int y0) fun r K=>K (vb r) [] [] :=
 ent3 Tryd.call88 Tryd.func88 rfl fun X=>jsr<|jpc 1 rfl<|jot<|jsr<|jpc 4 rfl<|jot<|jxr<|jr1 rfl rfl (fun _ k=>k) [] ⟨⟩

theorem c_cmp_Compare_int {y0 : Int} {y1 : Int} : Con Tryd.prog 71 [vi y0, vi y1] [] [] (m_cmp_Compare_int y0 y1) fun r K=>K (vi r) [] [] :=
 ent3 Tryd.call71 Tryd.func71 rfl fun X=>jsr<|jpc 1 rfl<|jot<|jsr<|jpc 1 rfl<|jcl c_cmp_isNaN_int rfl ⟨⟩<|fun r1 _ k=>k<|jpc 1 rfl<|jot<|jsr<|jpc 1 rfl<|jcl c_cmp_isNaN_int rfl ⟨⟩<|fun r2 _ k=>k<|jpc 1 rfl<|jot<|jsq<|jsr<|jpc 1 rfl<|jot<|jif rfl (jsq<|jsr<|jpc 1 rfl<|jot<|
  jif rfl (jsr<|jpc 1 rfl<|jot<|jxr<|jtr<|jtr<|jr1 rfl rfl (fun _ k=>k) [] ⟨⟩)<|jsk<|jtn<|jsr<|jpc 1 rfl<|jot<|jxr<|jtr<|jr1 rfl rfl (fun _ k=>k) [] ⟨⟩)<|jsk<|jtn<|jsq<|jsr<|jpc 1 rfl<|jot<|jif rfl (jsr<|jpc 1 rfl<|jot<|jxr<|jtr<|
  jr1 rfl rfl (fun _ k=>k) [] ⟨⟩)<|jsk<|jtn<|jsq<|jsr<|jpc 3 rfl<|jot<|jif rfl (jsr<|jpc 1 rfl<|jot<|jxr<|jtr<|jr1 rfl rfl (fun _ k=>k) [] ⟨⟩)<|jsk<|jtn<|jsq<|jsr<|jpc 3 rfl<|jot<|jif rfl (jsr<|jpc 1 rfl<|jot<|jxr<|jtr<|
  jr1 rfl rfl (fun _ k=>k) [] ⟨⟩)<|jsk<|jtn<|jsr<|jpc 1 rfl<|jot<|jxr<|jr1 rfl rfl (fun _ k=>k) [] ⟨⟩

theorem c_cmp_Or_int {y0 : List Int} : Con Tryd.prog 76 [sv p1 y0 c1] [] [Rl (eInt .i64) p1 c1 y0] (m_cmp_Or_int y0) fun r K=>K (vi r) [] [] :=
 ent3 Tryd.call76 Tryd.func76 rfl fun X=>jsr<|jpc 1 rfl<|jot<|jsr<|jpc 1 rfl<|jot<|jsq<|jsr<|jpc 3 rfl<|jot<|jbk<|jlp (fun s1 K=>K [(3, vi 0), (6, sv p1 y0 c1), (7, vi (len y0)), (8, vi s1)] [] [Rl (eInt .i64) p1 c1 y0]) (gv (fun _ k=>k) [] ⟨gk 0,⟨⟩⟩)<|fun s1 _ k=>k<|jsr<|
  jpc 1 rfl<|jot<|jsq<|jif rfl (jsk<|jtn<|jsq<|jbk<|jsr<|jix 0 rfl rfl rfl<|fun x1 b1 o1=>jld false oI (gk 0) rfl<|jpc 1 rfl<|jot<|jsr<|jpc 3 rfl<|jot<|jif rfl (jsr<|jpc 2 rfl<|jot<|jxr<|jbr<|jtr<|jlr<|jbr<|jtr<|jr1 rfl rfl (fun _ k=>k) [] ⟨⟩
  )<|jsk<|jbn<|jtn<|jrg<|jpc 2 rfl<|joe<|jln (gv (fun _ k=>k) [] ⟨gk 1,⟨⟩⟩))<|jxe<|jte<|jle<|jbh<|jtn<|jsr<|jpc 2 rfl<|jot<|jxr<|jr1 rfl rfl (fun _ k=>k) [] ⟨⟩

theorem c_graph_compare {y0 : T_Pair} {y1 : T_Pair} : Con Tryd.prog 55 [.agg #[vi y0.1, vi y0.2], .agg #[vi y1.1, vi y1.2]] [] [] (m_graph_compare y0 y1) fun r K=>K (vi r) [] [] :=
 ent3 Tryd.call55 Tryd.func55 rfl fun X=>jsr<|jbx .s rfl<|fun b1=>jbx .s rfl<|fun b2=>jpc 1 rfl<|jot<|jds [] [0, 1] 13<|jdf 0 0 rfl rfl<|jdo 1 0 rfl rfl rfl rfl<|jdf 2 0 rfl rfl<|jdo 3 1 rfl rfl rfl rfl<|jdf 5 1 rfl rfl<|jdo 6 0 rfl rfl rfl rfl<|jdf 7 1 rfl rfl<|
  jdo 8 1 rfl rfl rfl rfl<|jd1 4<|jca (.f rfl) [] [] c_cmp_Compare_int rfl rfl rfl ⟨⟩<|fun r1 _ k=>k<|jdn<|jd1 9<|jca (.f rfl) [] [] c_cmp_Compare_int rfl rfl rfl ⟨⟩<|fun r2 _ k=>k<|jdn<|jd1 10<|
  jbs (.f rfl) (e := eInt .i64) 3 [vi r1, vi r2] ([r1, r2] : List Int) (rC vI (rC vI rN))<|fun p1 c1=>jdn<|jd1 11<|jca (.f rfl) [] [] c_cmp_Or_int rfl rfl rfl ⟨ck 0,⟨⟩⟩<|fun r3 _ k=>k<|jdn<|jdc 0 [12] rfl<|jde<|jtn<|jxr<|
  jr1 rfl rfl (fun _ k=>k) [] ⟨⟩

theorem c_graph_Validate {y0 : T_Graph} : Con Tryd.prog 27 [.agg #[vi y0.1, sv p1 y0.2 c1]] [] [Rl e_Pair p1 c1 y0.2] (m_graph_Validate y0) fun r K=>K (vi r) [] [] :=
 ent3 Tryd.call27 Tryd.func27 rfl fun X=>jsr<|jbx .s rfl<|fun b1=>jpc 1 rfl<|jot<|jsq<|jjp (fun K=>K [(1, pt b1 0), (12, vb ((decide (y0.1 < 0)) || (decide (40 < y0.1))))] [bx b1 24 [vi y0.1, sv p1 y0.2 c1]] [Rl e_Pair p1 c1 y0.2]) (jrg<|jfa 0 rfl<|jlo 0 rfl rfl rfl<|jpc 2 rfl<|
  jsp (b := decide (y0.1 < 0)) 8 rfl (fun hb1=>jpc 3 rfl<|jpe (vb true)<|joe<|jup 12 (vb ((decide (y0.1 < 0)) || (decide (40 < y0.1)))) rfl (by rw [hb1]; rfl)<|jnn (gv (fun _ k=>k) [0] ⟨gk 0,⟨⟩⟩))<|fun hb1=>jfa 0 rfl<|jlo 0 rfl rfl rfl<|
  jpc 1 rfl<|jpe (vb (decide (40 < y0.1)))<|joe<|jup 12 (vb ((decide (y0.1 < 0)) || (decide (40 < y0.1)))) rfl (by rw [hb1]; rfl)<|jnn (gv (fun _ k=>k) [0] ⟨gk 0,⟨⟩⟩))<|fun _ k=>k<|jif rfl (jsr<|jpc 1 rfl<|jot<|jxr<|jtr<|
  jr1 rfl rfl (fun _ k=>k) [] ⟨⟩)<|jsk<|jtn<|jsq<|jsr<|jfa 1 rfl<|jlo 0 rfl rfl rfl<|jpc 2 rfl<|jot<|jbk<|
  jlp (fun s1 K=>K [(1, pt b1 0), (14, sv p1 y0.2 c1), (15, vi (len y0.2)), (16, vi s1)] [bx b1 24 [vi y0.1, sv p1 y0.2 c1]] [Rl e_Pair p1 c1 y0.2]) (gv (fun _ k=>k) [0] ⟨gk 0,⟨⟩⟩)<|fun s1 _ k=>k<|jsr<|jpc 1 rfl<|jot<|jsq<|jif rfl (jsk<|jtn<|
  jsq<|jbk<|jsr<|jpc 1 rfl<|jix 0 rfl rfl rfl<|fun x1 b2 o1=>jld true o_Pair (gk 0) rfl<|jal .s (.agg #[vi 0, vi 0])<|fun b3=>jpc 1 rfl<|jso .s 1 rfl rfl rfl<|jot<|jsq<|
  jjp (fun K=>K [(1, pt b1 0), (3, vi s1), (4, pt b3 0), (14, sv p1 y0.2 c1), (15, vi (len y0.2)), (16, vi s1), (36, vb ((decide ((if x1.2 < x1.1 then x1.2 else x1.1) < 0)) || (decide (y0.1 ≤ (if x1.2 > x1.1 then x1.2 else x1.1)))))] [bx b1 24 [vi y0.1, sv p1 y0.2 c1], bx b3 50 [vi x1.1, vi x1.2]] [Rl e_Pair p1 c1 y0.2]) (
  jrg<|jfa 0 rfl<|jlo 1 rfl rfl rfl<|jfa 1 rfl<|jlo 1 rfl rfl rfl<|jpc 3 rfl<|jsp (b := decide ((if x1.2 < x1.1 then x1.2 else x1.1) < 0)) 27 rfl (fun hb2=>jpc 8 rfl<|jpe (vb true)<|joe<|
  jup 36 (vb ((decide ((if x1.2 < x1.1 then x1.2 else x1.1) < 0)) || (decide (y0.1 ≤ (if x1.2 > x1.1 then x1.2 else x1.1))))) rfl (by rw [hb2]; rfl)<|jnn (gv (fun _ k=>k) [0,1] ⟨gk 1,⟨⟩⟩))<|fun hb2=>jfa 0 rfl<|jlo 1 rfl rfl rfl<|jfa 1 rfl<|
  jlo 1 rfl rfl rfl<|jpc 1 rfl<|jfa 0 rfl<|jlo 0 rfl rfl rfl<|jpc 1 rfl<|jpe (vb (decide (y0.1 ≤ (if x1.2 > x1.1 then x1.2 else x1.1))))<|joe<|
  jup 36 (vb ((decide ((if x1.2 < x1.1 then x1.2 else x1.1) < 0)) || (decide (y0.1 ≤ (if x1.2 > x1.1 then x1.2 else x1.1))))) rfl (by rw [hb2]; rfl)<|jnn (gv (fun _ k=>k) [0,1] ⟨gk 1,⟨⟩⟩))<|fun _ k=>k<|jif rfl (jsr<|jpc 1 rfl<|jot<|jxr<|jtr<|
  jbr<|jtr<|jlr<|jbr<|jtr<|jr1 rfl rfl (fun _ k=>k) [] ⟨⟩)<|jsk<|jtn<|jjn (fun s2 K=>K [(1, pt b1 0), (14, sv p1 y0.2 c1), (15, vi (len y0.2)), (16, vi s1), (49, vb s2)] [bx b1 24 [vi y0.1, sv p1 y0.2 c1], []] [Rl e_Pair p1 c1 y0.2]) (
  jdS [] [0, 1] 13<|jdc 10 [0,1,2] rfl<|jsg 39 rfl (jdf 3 1 rfl rfl<|jdo 4 0 rfl rfl rfl rfl<|jdc 6 [5,6] rfl<|jdi 7 0 rfl rfl rfl rfl<|fun x2 b4 o2=>jdl 8 true o_Pair rfl (gk 0) rfl<|jda 9 1 2 rfl rfl rfl rfl<|jd1 10<|
  jca (.f rfl) [] [] c_graph_compare rfl rfl rfl ⟨⟩<|fun r1 _ k=>k<|jdn<|jdc 1 [11] rfl<|jdp 12 (vb (decide (0 ≤ r1))) rfl<|jde<|jnn (gv (fun _ k=>k) [0,901] ⟨gk 1,⟨⟩⟩))<|jdc 1 [3,4,5,6,7,8,9,10,11] rfl<|jdp 12 (vb false) rfl<|jde<|
  jnn (gv (fun _ k=>k) [0,901] ⟨gk 0,⟨⟩⟩))<|fun s2 _ k=>k<|jif rfl (jsr<|jpc 1 rfl<|jot<|jxr<|jbr<|jtr<|jlr<|jbr<|jtr<|jr1 rfl rfl (fun _ k=>k) [] ⟨⟩)<|jsk<|jbn<|jtn<|jrg<|jpc 2 rfl<|joe<|jln (gv (fun _ k=>k) [0] ⟨gk 0,⟨⟩⟩))<|jxe<|jte<|jle<|
  jbh<|jtn<|jsr<|jpc 1 rfl<|jot<|jxr<|jr1 rfl rfl (fun _ k=>k) [] ⟨⟩

theorem c_network_New {y0 : T_Graph} : Con Tryd.prog 29 [.agg #[vi y0.1, sv p1 y0.2 c1]] [] [Rl e_Pair p1 c1 y0.2] (m_network_New y0) fun r K=>∀ p2 c2 p3 c3,K (.agg #[.int .u64 r.1, sv p2 r.2.1 c2, sv p3 r.2.2 c3]) [] [Rl (eInt .u64) p2 c2 r.2.1, Rl (eInt .u64) p3 c3 r.2.2] :=
 ent3 Tryd.call29 Tryd.func29 rfl fun X=>jsr<|jbx .s rfl<|fun b1=>jal .s (.agg #[.int .u64 0, .slice none 0 0, .slice none 0 0])<|fun b2=>jot<|
  jjn (fun s1 K=>∀ b3 p2 c2 r_1 p3 c3 r_2,K [(1, pt b1 0), (2, pt b2 0), (3, pt b3 0)] [bx b1 24 [vi y0.1, sv p1 y0.2 c1], bx b2 59 [.int .u64 0, .slice none 0 0, .slice none 0 0], bx b3 59 [.int .u64 s1.1, sv p2 s1.2.1 c2, sv p3 s1.2.2 c3], r_1, r_2] [Al (eInt .u64) 56 r_1 p2 c2 s1.2.1, Al (eInt .u64) 56 r_2 p3 c3 s1.2.2, Rl e_Pair p1 c1 y0.2]) (
  jdS [] [0] 9<|jdf 0 0 rfl rfl<|jdo 1 0 rfl rfl rfl rfl<|jdf 3 0 rfl rfl<|jdo 4 0 rfl rfl rfl rfl<|jd3 2 5 7 (jmk (.f rfl) (e := eInt .u64) 56 (0 : Int) (.int .u64 0) vI rfl rfl<|fun x1 r_3 p4 c4=>jdn<|jd2 5 7 (
  jmk (.f rfl) (e := eInt .u64) 56 (0 : Int) (.int .u64 0) vI rfl rfl<|fun x2 r_4 p5 c5=>jdn<|jdp 6 (.agg #[.int .u64 0, sv p4 x1 c4, sv p5 x2 c5]) rfl<|jd1 7<|jal (.f rfl) (.agg #[.int .u64 0, .slice none 0 0, .slice none 0 0])<|fun b4=>
  jdn<|jd1 8<|jso (o := 0) (.f rfl) 4 rfl rfl rfl<|jdn<|jde<|jnn (gv (fun _ k=>k b4 p4 c4 r_3 p5 c5 r_4) [0,1,4,2,3] ⟨gk 1,gk 0,gk 2,⟨⟩⟩)) <|jal (.f rfl) (.agg #[.int .u64 0, .slice none 0 0, .slice none 0 0])<|fun b5=>jdn<|jd1 5<|
  jmk (.f rfl) (e := eInt .u64) 56 (0 : Int) (.int .u64 0) vI rfl rfl<|fun x3 r_5 p6 c6=>jdn<|jdp 6 (.agg #[.int .u64 0, sv p4 x1 c4, sv p6 x3 c6]) rfl<|jd1 8<|jso (o := 0) (.f rfl) 3 rfl rfl rfl<|jdn<|jde<|
  jnn (gv (fun _ k=>k b5 p4 c4 r_3 p6 c6 r_5) [0,1,3,2,4] ⟨gk 1,gk 0,gk 2,⟨⟩⟩)) (jcm<|jmk (.f rfl) (e := eInt .u64) 56 (0 : Int) (.int .u64 0) vI rfl rfl<|fun x4 r_6 p7 c7=>jdn<|jd2 2 7 (
  jmk (.f rfl) (e := eInt .u64) 56 (0 : Int) (.int .u64 0) vI rfl rfl<|fun x5 r_7 p8 c8=>jdn<|jdp 6 (.agg #[.int .u64 0, sv p8 x5 c8, sv p7 x4 c7]) rfl<|jd1 7<|jal (.f rfl) (.agg #[.int .u64 0, .slice none 0 0, .slice none 0 0])<|fun b6=>
  jdn<|jd1 8<|jso (o := 0) (.f rfl) 4 rfl rfl rfl<|jdn<|jde<|jnn (gv (fun _ k=>k b6 p8 c8 r_7 p7 c7 r_6) [0,1,4,3,2] ⟨gk 0,gk 1,gk 2,⟨⟩⟩)) <|jal (.f rfl) (.agg #[.int .u64 0, .slice none 0 0, .slice none 0 0])<|fun b7=>jdn<|jd1 2<|
  jmk (.f rfl) (e := eInt .u64) 56 (0 : Int) (.int .u64 0) vI rfl rfl<|fun x6 r_8 p9 c9=>jdn<|jdp 6 (.agg #[.int .u64 0, sv p9 x6 c9, sv p7 x4 c7]) rfl<|jd1 8<|jso (o := 0) (.f rfl) 3 rfl rfl rfl<|jdn<|jde<|
  jnn (gv (fun _ k=>k b7 p9 c9 r_8 p7 c7 r_6) [0,1,3,4,2] ⟨gk 0,gk 1,gk 2,⟨⟩⟩)) <|jal (.f rfl) (.agg #[.int .u64 0, .slice none 0 0, .slice none 0 0])<|fun b8=>jdn<|jd2 2 5 (
  jmk (.f rfl) (e := eInt .u64) 56 (0 : Int) (.int .u64 0) vI rfl rfl<|fun x7 r_9 p10 c10=>jdn<|jd1 5<|jmk (.f rfl) (e := eInt .u64) 56 (0 : Int) (.int .u64 0) vI rfl rfl<|fun x8 r_10 p11 c11=>jdn<|
  jdp 6 (.agg #[.int .u64 0, sv p10 x7 c10, sv p11 x8 c11]) rfl<|jd1 8<|jso (o := 0) (.f rfl) 2 rfl rfl rfl<|jdn<|jde<|jnn (gv (fun _ k=>k b8 p10 c10 r_9 p11 c11 r_10) [0,1,2,3,4] ⟨gk 1,gk 0,gk 2,⟨⟩⟩)) <|jcm<|
  jmk (.f rfl) (e := eInt .u64) 56 (0 : Int) (.int .u64 0) vI rfl rfl<|fun x9 r_11 p12 c12=>jdn<|jd1 2<|jmk (.f rfl) (e := eInt .u64) 56 (0 : Int) (.int .u64 0) vI rfl rfl<|fun x10 r_12 p13 c13=>jdn<|
  jdp 6 (.agg #[.int .u64 0, sv p13 x10 c13, sv p12 x9 c12]) rfl<|jd1 8<|jso (o := 0) (.f rfl) 2 rfl rfl rfl<|jdn<|jde<|jnn (gv (fun _ k=>k b8 p13 c13 r_12 p12 c12 r_11) [0,1,2,4,3] ⟨gk 0,gk 1,gk 2,⟨⟩⟩))<|fun s1 _ k b3 p2 c2 r_1 p3 c3 r_2=>
  k<|
  jjn (fun s2 K=>K [(1, pt b1 0), (2, pt b2 0), (3, pt b3 0)] [bx b1 24 [vi y0.1, sv p1 y0.2 c1], bx b2 59 [.int .u64 0, .slice none 0 0, .slice none 0 0], bx b3 59 [.int .u64 s2, sv p2 s1.2.1 c2, sv p3 s1.2.2 c3], r_1, r_2] [Rl e_Pair p1 c1 y0.2, Al (eInt .u64) 56 r_1 p2 c2 s1.2.1, Al (eInt .u64) 56 r_2 p3 c3 s1.2.2]) (
  jsr<|jfa 0 rfl<|jlo 0 rfl rfl rfl<|jpc 1 rfl<|jot<|jbk<|
  jlp (fun s3 K=>K [(1, pt b1 0), (2, pt b2 0), (3, pt b3 0), (15, vi y0.1), (16, vi s3.1)] [bx b1 24 [vi y0.1, sv p1 y0.2 c1], bx b2 59 [.int .u64 0, .slice none 0 0, .slice none 0 0], bx b3 59 [.int .u64 s3.2, sv p2 s1.2.1 c2, sv p3 s1.2.2 c3], r_1, r_2] [Rl e_Pair p1 c1 y0.2, Al (eInt .u64) 56 r_1 p2 c2 s1.2.1, Al (eInt .u64) 56 r_2 p3 c3 s1.2.2]) (gv (fun _ k=>k) [0,1,2,3,4] ⟨gk 2,gk 0,gk 1,⟨⟩⟩)<|
  fun s3 _ k=>k<|jsr<|jpc 1 rfl<|jot<|jsq<|jif rfl (jsk<|jtn<|jsq<|jbk<|jsr<|jpc 2 rfl<|jot<|jrg<|jfa 0 rfl<|jlo 2 rfl rfl rfl<|jpc 1 rfl<|jcl c_network_Set_With rfl ⟨⟩<|fun r1 _ k=>k<|jfa 0 rfl<|jso .s 2 rfl rfl rfl<|joe<|jbn<|jtn<|jrg<|
  jpc 2 rfl<|joe<|jln (gv (fun _ k=>k) [0,1,2,3,4] ⟨gk 0,gk 1,gk 2,⟨⟩⟩))<|jxe<|jte<|jle<|jbh<|jnn (gv (fun _ k=>k) [0,1,2,3,4] ⟨gk 0,gk 1,gk 2,⟨⟩⟩))<|fun s2 _ k=>k<|
  jjn (fun s4 K=>∀ p14 c14 r_13 p15 c15 r_14,K [(2, pt b2 0), (3, pt b3 0)] [[], bx b2 59 [.int .u64 0, .slice none 0 0, .slice none 0 0], bx b3 59 [.int .u64 s2, sv p14 s4.1 c14, sv p15 s4.2 c15], r_13, r_14] [Al (eInt .u64) 56 r_13 p14 c14 s4.1, Al (eInt .u64) 56 r_14 p15 c15 s4.2]) (
  jsr<|jfa 1 rfl<|jlo 0 rfl rfl rfl<|jpc 2 rfl<|jot<|jbk<|
  jlp (fun s5 K=>∀ p16 c16 r_15 p17 c17 r_16,K [(2, pt b2 0), (3, pt b3 0), (26, sv p1 y0.2 c1), (27, vi (len y0.2)), (28, vi s5.1)] [[], bx b2 59 [.int .u64 0, .slice none 0 0, .slice none 0 0], bx b3 59 [.int .u64 s2, sv p16 s5.2.1 c16, sv p17 s5.2.2 c17], r_15, r_16] [Al (eInt .u64) 56 r_15 p16 c16 s5.2.1, Al (eInt .u64) 56 r_16 p17 c17 s5.2.2, Rl e_Pair p1 c1 y0.2]) (gv (fun _ k=>k p2 c2 r_1 p3 c3 r_2) [900,1,2,3,4] ⟨gk 1,gk 2,gk 0,⟨⟩⟩)<|
  fun s5 _ k p16 c16 r_15 p17 c17 r_16=>k<|jsr<|jpc 1 rfl<|jot<|jsq<|jif rfl (jsk<|jtn<|jsq<|jbk<|jsr<|jix 2 rfl rfl rfl<|fun x11 b9 o1=>jld true o_Pair (gk 0) rfl<|jal .s (.agg #[vi 0, vi 0])<|fun b10=>jso .s 5 rfl rfl rfl<|jot<|
  jds [14] [2, 3, 5] 15<|jdf 0 1 rfl rfl<|jdo 1 2 rfl rfl rfl rfl<|jdf 2 1 rfl rfl<|jdo 3 5 rfl rfl rfl rfl<|jdf 4 1 rfl rfl<|jdo 5 2 rfl rfl rfl rfl<|jdf 6 1 rfl rfl<|jdo 7 5 rfl rfl rfl rfl<|jdI 8 1 rfl rfl rfl rfl<|fun x12 h1 b11 hp1=>
  jdL 9 3 1 sI false oI rfl rfl hp1 h1 rfl<|jdf 10 0 rfl rfl<|jdo 11 5 rfl rfl rfl rfl<|jd1 12<|jca (.f rfl) [] [] c_network_Set_With rfl rfl rfl ⟨⟩<|fun r2 _ k=>k<|jdn<|jdI 13 1 rfl rfl rfl rfl<|fun x13 h2 b12 hp2=>jd1 14<|
  jsA (.f rfl) 3 1 sI r2 false rfl hp2 h2 rfl rfl vI<|fun r_17=>jdb [] [2, 3, 5]<|jde<|jtn<|jdS [14] [2, 4, 5] 15<|jdf 0 2 rfl rfl<|jdo 1 2 rfl rfl rfl rfl<|jdf 2 0 rfl rfl<|jdo 3 5 rfl rfl rfl rfl<|jdf 4 2 rfl rfl<|jdo 5 2 rfl rfl rfl rfl<|
  jdf 6 0 rfl rfl<|jdo 7 5 rfl rfl rfl rfl<|jdI 8 3 rfl rfl rfl rfl<|fun x14 h3 b13 hp3=>jdL 9 4 3 sI false oI rfl rfl hp3 h3 rfl<|jdf 10 1 rfl rfl<|jdo 11 5 rfl rfl rfl rfl<|jd1 12<|jca (.f rfl) [] [] c_network_Set_With rfl rfl rfl ⟨⟩<|
  fun r3 _ k=>k<|jdn<|jdI 13 3 rfl rfl rfl rfl<|fun x15 h4 b14 hp4=>jd1 14<|jsA (.f rfl) 4 3 sI r3 false rfl hp4 h4 rfl rfl vI<|fun r_18=>jdb [] [2, 4, 5]<|jde<|jbn<|jtn<|jrg<|jpc 2 rfl<|joe<|
  jbL (fun q_=>[[], bx b2 59 [.int .u64 0, .slice none 0 0, .slice none 0 0], bx b3 59 [.int .u64 s2, .slice p16 q_ c16, .slice p17 (List.length s5.2.2) c17], r_17, r_18, bx b10 50 [vi x11.1, vi x11.2]]) (gk 1) rfl<|
  jbL (fun q_=>[[], bx b2 59 [.int .u64 0, .slice none 0 0, .slice none 0 0], bx b3 59 [.int .u64 s2, sv p16 (List.set s5.2.1 (Int.toNat x11.2) r2) c16, .slice p17 q_ c17], r_17, r_18, bx b10 50 [vi x11.1, vi x11.2]]) (gk 1) rfl<|
  jln (gv (fun _ k=>k p16 c16 r_17 p17 c17 r_18) [900,1,2,3,4] ⟨gk 1,gk 0,gk 7,⟨⟩⟩))<|jxe<|jte<|jle<|jbh<|jnn (gv (fun _ k=>k p16 c16 r_15 p17 c17 r_16) [900,1,2,3,4] ⟨gk 0,gk 1,⟨⟩⟩))<|fun s4 _ k p14 c14 r_13 p15 c15 r_14=>k<|jsr<|
  jla 2 3 rfl rfl rfl<|jso .s 1 rfl rfl rfl<|jot<|jxr<|jsh 3 0 rfl rfl<|jsh 4 2 rfl rfl<|jrg' rfl (lC 1 (.agg #[.int .u64 s2, sv p14 s4.1 c14, sv p15 s4.2 c15]) rfl rfl lN) (fun _ k=>k p14 c14 p15 c15) [] ⟨gk 1,gk 0,⟨⟩⟩

theorem c_explain_Defences_2 {y0 : Int} {y1 : Int} : Con Tryd.prog 46 [.int .u64 y0, pt b1 0] [bx b1 56 [.int .u64 y1]] [] (m_explain_Defences_2 y0 y1) fun r K=>K (vb r) [bx b1 56 [.int .u64 y1]] [] :=
 ent3 Tryd.call46 Tryd.func46 rfl fun X=>jsr<|jpc 1 rfl<|jot<|jjp (fun K=>K [(3, vb ((y0 != y1) && ((bandNot .u64 y0 y1) == 0)))] [bx b1 56 [.int .u64 y1]] []) (jrg<|jpc 1 rfl<|jlo 0 rfl rfl rfl<|jpc 2 rfl<|jsp (b := y0 != y1) 7 rfl (fun hb1=>jpc 1 rfl<|jlo 0 rfl rfl rfl<|
  jpc 2 rfl<|jpe (vb ((bandNot .u64 y0 y1) == 0))<|jpc 1 rfl<|joe<|jup 3 (vb ((y0 != y1) && ((bandNot .u64 y0 y1) == 0))) rfl (by rw [hb1]; rfl)<|jnn (gv (fun _ k=>k) [0] ⟨⟩))<|fun hb1=>jpc 4 rfl<|jpe (vb false)<|jpc 1 rfl<|joe<|
  jup 3 (vb ((y0 != y1) && ((bandNot .u64 y0 y1) == 0))) rfl (by rw [hb1]; rfl)<|jnn (gv (fun _ k=>k) [0] ⟨⟩))<|fun _ k=>k<|jxr<|jr1 rfl rfl (fun _ k=>k) [0] ⟨⟩

theorem c_slices_IndexFunc_Set__explain_Defences_2 {y0 : List Int} {y1 : Int} : Con Tryd.prog 68 [sv p1 y0 c1, .func (.func 46) #[] #[pt b1 0]] [bx b1 56 [.int .u64 y1]] [Rl (eInt .u64) p1 c1 y0] (m_slices_IndexFunc_Set__explain_Defences_2 y0 y1) fun r K=>K (vi r) [bx b1 56 [.int .u64 y1]] [] :=
 ent3 Tryd.call68 Tryd.func68 rfl fun X=>jsr<|jpc 1 rfl<|jot<|jsq<|jsr<|jpc 3 rfl<|jot<|jbk<|
  jlp (fun s1 K=>K [(0, sv p1 y0 c1), (1, .func (.func 46) #[] #[pt b1 0]), (7, vi (len y0)), (8, vi s1)] [bx b1 56 [.int .u64 y1]] [Rl (eInt .u64) p1 c1 y0]) (gv (fun _ k=>k) [0] ⟨gk 0,⟨⟩⟩)<|fun s1 _ k=>k<|jsr<|jpc 1 rfl<|jot<|jsq<|jif rfl (
  jsk<|jtn<|jsq<|jbk<|jsr<|jpc 2 rfl<|jot<|jsr<|jpc 3 rfl<|jix 0 rfl rfl rfl<|fun x1 b2 o1=>jld false oI (gk 0) rfl<|jca .s [0] [] c_explain_Defences_2 rfl rfl rfl ⟨⟩<|fun r1 _ k=>k<|jot<|jif rfl (jsr<|jpc 2 rfl<|jot<|jxr<|jbr<|jtr<|jlr<|
  jbr<|jtr<|jr1 rfl rfl (fun _ k=>k) [0] ⟨⟩)<|jsk<|jbn<|jtn<|jrg<|jpc 2 rfl<|joe<|jln (gv (fun _ k=>k) [0] ⟨gk 1,⟨⟩⟩))<|jxe<|jte<|jle<|jbh<|jtn<|jsr<|jpc 1 rfl<|jot<|jxr<|jr1 rfl rfl (fun _ k=>k) [0] ⟨⟩

theorem c_slices_ContainsFunc_Set__explain_Defences_2 {y0 : List Int} {y1 : Int} : Con Tryd.prog 45 [sv p1 y0 c1, .func (.func 46) #[] #[pt b1 0]] [bx b1 56 [.int .u64 y1]] [Rl (eInt .u64) p1 c1 y0] (m_slices_ContainsFunc_Set__explain_Defences_2 y0 y1) fun r K=>K (vb r) [bx b1 56 [.int .u64 y1]] [] :=
 ent3 Tryd.call45 Tryd.func45 rfl fun X=>jsr<|jpc 1 rfl<|jot<|jsr<|jpc 2 rfl<|jca .s [0] [] c_slices_IndexFunc_Set__explain_Defences_2 rfl rfl rfl ⟨ck 0,⟨⟩⟩<|fun r1 _ k=>k<|jpc 2 rfl<|jot<|jxr<|jr1 rfl rfl (fun _ k=>k) [0] ⟨⟩

theorem c_slices_Compare_int {y0 : List Int} {y1 : List Int} : Con Tryd.prog 49 [sv p1 y0 c1, sv p2 y1 c2] [] [Rl (eInt .i64) p1 c1 y0, Rl (eInt .i64) p2 c2 y1] (m_slices_Compare_int y0 y1) fun r K=>K (vi r) [] [] :=
 ent3 Tryd.call49 Tryd.func49 rfl fun X=>jsr<|jpc 1 rfl<|jot<|jjo (fun s1 K=>K [(0, sv p1 y0 c1), (1, sv p2 y1 c2)] [] [Rl (eInt .i64) p1 c1 y0, Rl (eInt .i64) p2 c2 y1]) (jsr<|jpc 3 rfl<|jot<|jbk<|
  jlp (fun s2 K=>K [(0, sv p1 y0 c1), (1, sv p2 y1 c2), (9, sv p1 y0 c1), (10, vi (len y0)), (11, vi s2)] [] [Rl (eInt .i64) p1 c1 y0, Rl (eInt .i64) p2 c2 y1]) (gv (fun _ k=>k) [] ⟨gk 0,gk 1,⟨⟩⟩)<|fun s2 _ k=>k<|jsr<|jpc 1 rfl<|jot<|jsq<|
  jif rfl (jsk<|jtn<|jsq<|jbk<|jsr<|jpc 1 rfl<|jix 0 rfl rfl rfl<|fun x1 b1 o1=>jld false oI (gk 0) rfl<|jpc 2 rfl<|jot<|jsq<|jsr<|jpc 4 rfl<|jot<|jif rfl (jsr<|jpc 1 rfl<|jot<|jxr<|jtr<|jbr<|jtr<|jlr<|jbr<|jlr<|jr1 rfl rfl (fun _ k=>k) [] ⟨⟩
  )<|jsk<|jtn<|jsr<|jpc 2 rfl<|jix 2 rfl rfl rfl<|fun x2 b2 o2=>jld false oI (gk 0) rfl<|jpc 1 rfl<|jot<|jsr<|jpc 2 rfl<|jcl c_cmp_Compare_int rfl ⟨⟩<|fun r1 _ k=>k<|jpc 1 rfl<|jot<|jsr<|jpc 2 rfl<|jot<|jif rfl (jsr<|jpc 2 rfl<|jot<|jxr<|
  jbr<|jtr<|jlr<|jbr<|jlr<|jr1 rfl rfl (fun _ k=>k) [] ⟨⟩)<|jsk<|jbn<|jtn<|jrg<|jpc 2 rfl<|joe<|jln (gv (fun _ k=>k) [] ⟨gk 2,gk 3,⟨⟩⟩))<|jxe<|jte<|jle<|jbh<|jln (gv (fun _ k=>k) [] ⟨gk 0,gk 1,⟨⟩⟩))<|fun s1 _ k=>k<|jsq<|jsr<|jpc 5 rfl<|jot<|
  jif rfl (jsr<|jpc 1 rfl<|jot<|jxr<|jtr<|jr1 rfl rfl (fun _ k=>k) [] ⟨⟩)<|jsk<|jtn<|jsr<|jpc 1 rfl<|jot<|jxr<|jr1 rfl rfl (fun _ k=>k) [] ⟨⟩

theorem c_explain_Defences_3 {y0 : List Int} {y1 : List Int} : Con Tryd.prog 48 [sv p1 y0 c1, sv p2 y1 c2] [] [Rl (eInt .i64) p1 c1 y0, Rl (eInt .i64) p2 c2 y1] (m_explain_Defences_3 y0 y1) fun r K=>K (vi r) [] [] :=
 ent3 Tryd.call48 Tryd.func48 rfl fun X=>jsr<|jpc 1 rfl<|jot<|jsr<|jpc 2 rfl<|jcl c_slices_Compare_int rfl ⟨ck 0,ck 1,⟨⟩⟩<|fun r1 _ k=>k<|jpc 1 rfl<|jot<|jxr<|jr1 rfl rfl (fun _ k=>k) [] ⟨⟩

theorem c_slices_SortFunc_int__explain_Defences_3 {y0 : List (List Int)} : Con Tryd.prog 47 [sv p1 y0 c1, .func (.func 48) #[] #[]] [r_1] [Al (eSlice (eInt .i64)) 25 r_1 p1 c1 y0] (m_slices_SortFunc_int__explain_Defences_3 y0) fun r K=>∀ r_2,K (.tuple #[]) [r_2] [Ar (eSlice (eInt .i64)) 25 r_2 p1 c1 (List.length y0) r] := ⟨Tryd.call47, fun A w0 r hm hO hF => by
 have h := sort_sl Go.Proofs.Tryd.sort47 (e := eSlice (eInt .i64)) rfl (te := 25) m_explain_Defences_3 48 (enters_of Tryd.func48 (by kernel_rfl) rfl) (fun A w vx vy x y n hn hO hx hy => ?_) hO hF.1.1 hm
 · change Calls Tryd.prog 47 _ _ _ at h
   refine h.mono fun e w' h => ?_
   cases e with
   | returned v => obtain ⟨r', rfl, h1, h2, h3, h4⟩ := h; exact fun G k => k r' ⟨rfl, h1, h2, ⟨h3, h4.symm⟩, trivial⟩
   | panicked ch => exact h
   | outgrown => exact h
 · obtain ⟨q1, d1, e1, k1⟩ := hx
   obtain ⟨q2, d2, e2, k2⟩ := hy
   cases e1
   cases e2
   refine ((c_explain_Defences_3 (y0 := x) (y1 := y)).go A w n hn hO ⟨R.of k1, R.of k2, trivial⟩).mono fun e w' h => ?_
   cases e with
   | returned v => exact h _ fun ⟨e1, q⟩ => ⟨e1, q.e⟩
   | panicked ch => exact h
   | outgrown => exact h⟩

theorem c_explain_Defences {y0 : T_Graph} {y1 : Int} : Con Tryd.prog 14 [.agg #[vi y0.1, sv p1 y0.2 c1], vi y1] [] [Rl e_Pair p1 c1 y0.2, Pt (eArr 64 (eInt .u8)) 0 0 tab_math_bits_deBruijn64tab] (m_explain_Defences y0 y1) fun r K=>∀ p2 c2,K (.tuple #[sv p2 r.1 c2, vi r.2]) [] [Rl (eSlice (eInt .i64)) p2 c2 r.1] :=
 ent3 Tryd.call14 Tryd.func14 rfl fun X=>jsr<|jbx .s rfl<|fun b1=>jbx .s rfl<|fun b2=>jpc 2 rfl<|jot<|jsq<|jsr<|jla 0 2 rfl rfl rfl<|jcl c_graph_Validate rfl ⟨ck 0,⟨⟩⟩<|fun r1 _ k=>k<|jpc 1 rfl<|jot<|jsr<|jpc 2 rfl<|jot<|jif rfl (jsr<|jpc 3 rfl<|jot<|jxr<|jtr<|
  jrg' rfl (lT rfl (lT rfl lN)) (fun _ k=>k none 0) [] ⟨gn,⟨⟩⟩)<|jsk<|jtn<|jsq<|jbk<|
  jjp (fun K=>K [(2, pt b1 0), (3, pt b2 0), (17, vb ((decide (y1 < 0)) || (decide (y0.1 ≤ y1))))] [bx b1 24 [vi y0.1, sv p1 y0.2 c1], bx b2 3 [vi y1]] [Rl e_Pair p1 c1 y0.2, Pt (eArr 64 (eInt .u8)) 0 0 tab_math_bits_deBruijn64tab]) (jrg<|
  jlo 1 rfl rfl rfl<|jpc 2 rfl<|jsp (b := decide (y1 < 0)) 20 rfl (fun hb1=>jpc 4 rfl<|jpe (vb true)<|jpc 1 rfl<|joe<|jup 17 (vb ((decide (y1 < 0)) || (decide (y0.1 ≤ y1)))) rfl (by rw [hb1]; rfl)<|jnn (gv (fun _ k=>k) [0,1] ⟨gk 0,gk 1,⟨⟩⟩)
  )<|fun hb1=>jlo 1 rfl rfl rfl<|jfa 0 rfl<|jlo 0 rfl rfl rfl<|jpc 1 rfl<|jpe (vb (decide (y0.1 ≤ y1)))<|jpc 1 rfl<|joe<|jup 17 (vb ((decide (y1 < 0)) || (decide (y0.1 ≤ y1)))) rfl (by rw [hb1]; rfl)<|
  jnn (gv (fun _ k=>k) [0,1] ⟨gk 0,gk 1,⟨⟩⟩))<|fun _ k=>k<|jif rfl (jsr<|jpc 2 rfl<|jot<|jxr<|jbr<|jtr<|jrg' rfl (lT rfl (lT rfl lN)) (fun _ k=>k none 0) [] ⟨gn,⟨⟩⟩)<|jsr<|jfa 0 rfl<|jlo 0 rfl rfl rfl<|jpc 2 rfl<|jot<|jif rfl (jsr<|
  jpc 2 rfl<|jot<|jxr<|jbr<|jtr<|jrg' rfl (lT rfl (lT rfl lN)) (fun _ k=>k none 0) [] ⟨gn,⟨⟩⟩)<|jsk<|jbn<|jtn<|jsr<|jla 0 2 rfl rfl rfl<|jcl c_network_New rfl ⟨ck 0,⟨⟩⟩<|fun r2 _ k p2 c2 p3 c3=>k<|
  jal .s (.agg #[.int .u64 0, .slice none 0 0, .slice none 0 0])<|fun b3=>jso .s 2 rfl rfl rfl<|jot<|jsr<|jal .s (.slice none 0 0)<|fun b4=>jro (eInt .u64) 56<|jot<|jsr<|jfa 0 rfl<|jlo 2 rfl rfl rfl<|jcl c_network_Set_List rfl ⟨ck 4,⟨⟩⟩<|
  fun r3 _ k p4 c4 r_1=>k<|jpc 1 rfl<|jsh 5 0 rfl rfl<|jca .s [1, 2, 3, 4] [] c_explain_all__explain_Defences_1 rfl rfl rfl ⟨ck 0,ck 3,ck 4,ck 2,ck 6,⟨⟩⟩<|fun r4 _ k p5 c5 r_2=>k<|jot<|jsr<|jpc 1 rfl<|jro (eSlice (eInt .i64)) 25<|jot<|
  jjn (fun s1 K=>∀ p6 c6 r_3,K [(9, sv p6 s1 c6)] [[], [], [], [], [], [], r_3] [Al (eSlice (eInt .i64)) 25 r_3 p6 c6 s1, Pt (eArr 64 (eInt .u8)) 0 0 tab_math_bits_deBruijn64tab]) (jsr<|jlo 3 rfl rfl rfl<|jpc 2 rfl<|jot<|jbk<|
  jlp (fun s2 K=>∀ p7 c7 r_4,K [(8, pt b4 0), (9, sv p7 s2.1 c7), (37, sv p5 r4 c5), (38, vi (len r4)), (39, vi s2.2)] [[], [], [], bx b4 57 [sv p5 r4 c5], r_2, [], r_4] [Al (eSlice (eInt .i64)) 25 r_4 p7 c7 s2.1, Al (eInt .u64) 56 r_2 p5 c5 r4, Pt (eArr 64 (eInt .u8)) 0 0 tab_math_bits_deBruijn64tab]) (gv (fun _ k=>k none 0 []) [900,901,902,3,4,905,6] ⟨gk 0,gk 1,gk 8,⟨⟩⟩)<|
  fun s2 _ k p7 c7 r_4=>k<|jsr<|jpc 1 rfl<|jot<|jsq<|jif rfl (jsk<|jtn<|jsq<|jbk<|jsr<|jia 1 rfl rfl rfl<|fun x1 h1 b5 hp1=>jlA 4 1 sI false oI rfl hp1 h1 rfl<|jal .s (.int .u64 0)<|fun b6=>jso .s 7 rfl rfl rfl<|jot<|jsr<|jlo 3 rfl rfl rfl<|
  jpc 1 rfl<|jca .s [7] [4] c_slices_ContainsFunc_Set__explain_Defences_2 rfl rfl rfl ⟨cl 4 1,⟨⟩⟩<|fun r5 _ k=>k<|jpc 1 rfl<|jot<|jif rfl (jrg<|jpc 1 rfl<|jlo 7 rfl rfl rfl<|jcl c_network_Set_List rfl ⟨ck 2,⟨⟩⟩<|fun r6 _ k p8 c8 r_5=>k<|
  jsh 8 0 rfl rfl<|jbs .s (e := eSlice (eInt .i64)) 25 [sv p8 r6 c8] ([r6] : List (List Int)) (rC (vL (gk 0)) rN)<|fun p9 c9=>jar .s 6 3 rfl (gk 0) rfl rfl<|fun x2 r_6 p10 c10=>jpc 1 rfl<|joe<|jbn<|jtn<|jrg<|jpc 2 rfl<|joe<|
  jln (gv (fun _ k=>k p10 c10 r_6) [900,901,902,3,4,905,6] ⟨gk 0,gk 5,gk 6,⟨⟩⟩))<|jsk<|jbn<|jtn<|jrg<|jpc 2 rfl<|joe<|jln (gv (fun _ k=>k p7 c7 r_4) [900,901,902,3,4,905,6] ⟨gk 0,gk 1,gk 2,⟨⟩⟩))<|jxe<|jte<|jle<|jbh<|
  jnn (gv (fun _ k=>k p7 c7 r_4) [900,901,902,903,904,905,6] ⟨gk 0,gk 2,⟨⟩⟩))<|fun s1 _ k p6 c6 r_3=>k<|jsr<|jpc 1 rfl<|jca .s [6] [] c_slices_SortFunc_int__explain_Defences_3 rfl rfl rfl ⟨ck 0,⟨⟩⟩<|fun r7 _ k r_7=>k<|jot<|jsr<|jpc 3 rfl<|
  jot<|jxr<|jsh 6 0 rfl rfl<|jre 0 4 rfl rfl<|jrg' rfl (lT rfl (lT rfl lN)) (fun _ k=>k p6 c6) [] ⟨gk 0,⟨⟩⟩

theorem c_network_Net_Grounded {y0 : T_network_Net} : Con Tryd.prog 77 [.agg #[.int .u64 y0.1, sv p1 y0.2.1 c1, sv p2 y0.2.2 c2]] [] [Rl (eInt .u64) p1 c1 y0.2.1, Rl (eInt .u64) p2 c2 y0.2.2, Pt (eArr 64 (eInt .u8)) 0 0 tab_math_bits_deBruijn64tab] (m_network_Net_Grounded y0) fun r K=>∀ p3 c3,K (sv p3 r c3) [] [Rl (eInt .u64) p3 c3 r] :=
 ent3 Tryd.call77 Tryd.func77 rfl fun X=>jsr<|jbx .s rfl<|fun b1=>jpc 1 rfl<|jot<|jsr<|jpc 1 rfl<|jro (eInt .u64) 56<|jot<|jsr<|jpc 1 rfl<|jot<|jbk<|
  jlp (fun s1 K=>∀ p3 c3 r_1,K [(1, pt b1 0), (3, sv p3 s1.1 c3), (4, .int .u64 s1.2)] [bx b1 59 [.int .u64 y0.1, sv p1 y0.2.1 c1, sv p2 y0.2.2 c2], r_1] [Al (eInt .u64) 56 r_1 p3 c3 s1.1, Rl (eInt .u64) p1 c1 y0.2.1, Rl (eInt .u64) p2 c2 y0.2.2, Pt (eArr 64 (eInt .u8)) 0 0 tab_math_bits_deBruijn64tab]) (gv (fun _ k=>k none 0 []) [0,1] ⟨gk 0,gk 1,gk 2,gk 3,⟨⟩⟩)<|
  fun s1 _ k p3 c3 r_1=>k<|jbk<|jsr<|jla 0 3 rfl rfl rfl<|jpc 1 rfl<|jcl c_network_Net_Hit rfl ⟨ck 1,ck 2,ck 3,⟨⟩⟩<|fun r1 _ k=>k<|jpc 3 rfl<|jot<|
  jjn (fun s2 K=>K [(1, pt b1 0), (3, sv p3 s1.1 c3), (4, .int .u64 s1.2), (6, .int .u64 s2)] [bx b1 59 [.int .u64 y0.1, sv p1 y0.2.1 c1, sv p2 y0.2.2 c2], r_1] [Al (eInt .u64) 56 r_1 p3 c3 s1.1, Rl (eInt .u64) p1 c1 y0.2.1, Rl (eInt .u64) p2 c2 y0.2.2, Pt (eArr 64 (eInt .u8)) 0 0 tab_math_bits_deBruijn64tab]) (
  jsr<|jfa 0 rfl<|jlo 0 rfl rfl rfl<|jcl c_network_Set_List rfl ⟨ck 3,⟨⟩⟩<|fun r2 _ k p4 c4 r_2=>k<|jpc 2 rfl<|jot<|jbk<|
  jlp (fun s3 K=>K [(1, pt b1 0), (3, sv p3 s1.1 c3), (4, .int .u64 s1.2), (5, .int .u64 r1), (6, .int .u64 s3.1), (15, sv p4 r2 c4), (16, vi (len r2)), (17, vi s3.2)] [bx b1 59 [.int .u64 y0.1, sv p1 y0.2.1 c1, sv p2 y0.2.2 c2], r_1, r_2] [Al (eInt .u64) 56 r_1 p3 c3 s1.1, Al (eInt .i64) 3 r_2 p4 c4 r2, Rl (eInt .u64) p1 c1 y0.2.1, Rl (eInt .u64) p2 c2 y0.2.2, Pt (eArr 64 (eInt .u8)) 0 0 tab_math_bits_deBruijn64tab]) (gv (fun _ k=>k) [0,1,2] ⟨gk 1,gk 0,gk 2,gk 3,gk 4,⟨⟩⟩)<|
  fun s3 _ k=>k<|jsr<|jpc 1 rfl<|jot<|jsq<|jif rfl (jsk<|jtn<|jsq<|jbk<|jsr<|jia 1 rfl rfl rfl<|fun x1 h1 b2 hp1=>jlA 2 1 sI false oI rfl hp1 h1 rfl<|jpc 1 rfl<|jot<|jsr<|jfa 1 rfl<|jlo 0 rfl rfl rfl<|jpc 1 rfl<|jix 2 rfl rfl rfl<|
  fun x2 b3 o1=>jld false oI (gk 0) rfl<|jpc 3 rfl<|jot<|jif rfl (jrg<|jpc 2 rfl<|jcl c_network_Set_With rfl ⟨⟩<|fun r3 _ k=>k<|jpc 1 rfl<|joe<|jbn<|jtn<|jrg<|jpc 2 rfl<|joe<|jln (gv (fun _ k=>k) [0,1,2] ⟨gk 1,gk 2,gk 3,gk 4,gk 5,⟨⟩⟩))<|jsk<|
  jbn<|jtn<|jrg<|jpc 2 rfl<|joe<|jln (gv (fun _ k=>k) [0,1,2] ⟨gk 1,gk 2,gk 3,gk 4,gk 5,⟨⟩⟩))<|jxe<|jte<|jle<|jbh<|jnn (gv (fun _ k=>k) [0,1] ⟨gk 0,gk 2,gk 3,gk 4,⟨⟩⟩))<|fun s2 _ k=>k<|jsq<|jsr<|jpc 3 rfl<|jot<|jif rfl (jsr<|jpc 2 rfl<|jot<|
  jxr<|jtr<|jbr<|jlr<|jbr<|jsh 1 0 rfl rfl<|jr1 rfl rfl (fun _ k=>k p3 c3) [] ⟨gk 0,⟨⟩⟩)<|jsk<|jtn<|jrg<|jpc 2 rfl<|jbs .s (e := eInt .u64) 56 [.int .u64 s2] ([s2] : List Int) (rC vI rN)<|fun p5 c5=>jar .s 1 1 rfl (gk 0) rfl rfl<|
  fun x3 r_3 p6 c6=>jpc 3 rfl<|joe<|jbn<|jln (gv (fun _ k=>k p6 c6 r_3) [0,1] ⟨gk 0,gk 3,gk 4,gk 5,⟨⟩⟩)

theorem c_network_Net_In {y0 : T_network_Net} : Con Tryd.prog 57 [.agg #[.int .u64 y0.1, sv p1 y0.2.1 c1, sv p2 y0.2.2 c2]] [] [Rl (eInt .u64) p1 c1 y0.2.1, Rl (eInt .u64) p2 c2 y0.2.2, Pt (eArr 64 (eInt .u8)) 0 0 tab_math_bits_deBruijn64tab] (m_network_Net_In y0) fun r K=>K (.int .u64 r) [] [] :=
 ent3 Tryd.call57 Tryd.func57 rfl fun X=>jsr<|jbx .s rfl<|fun b1=>jpc 1 rfl<|jot<|jsr<|jla 0 3 rfl rfl rfl<|jcl c_network_Net_Grounded rfl ⟨ck 0,ck 1,ck 2,⟨⟩⟩<|fun r1 _ k p3 c3=>k<|jpc 1 rfl<|jot<|jsq<|jsr<|jpc 3 rfl<|jot<|jif rfl (jsr<|jpc 1 rfl<|jot<|jxr<|jtr<|
  jr1 rfl rfl (fun _ k=>k) [] ⟨⟩)<|jsk<|jtn<|jsr<|jpc 4 rfl<|jix 0 rfl rfl rfl<|fun x1 b2 o1=>jld false oI (gk 0) rfl<|jpc 1 rfl<|jot<|jxr<|jr1 rfl rfl (fun _ k=>k) [] ⟨⟩

theorem c_network_Net_Stable {y0 : T_network_Net} {y1 : Int} : Con Tryd.prog 60 [.agg #[.int .u64 y0.1, sv p1 y0.2.1 c1, sv p2 y0.2.2 c2], .int .u64 y1] [] [Rl (eInt .u64) p1 c1 y0.2.1, Rl (eInt .u64) p2 c2 y0.2.2, Pt (eArr 64 (eInt .u8)) 0 0 tab_math_bits_deBruijn64tab] (m_network_Net_Stable y0 y1) fun r K=>K (vb r) [] [] :=
 ent3 Tryd.call60 Tryd.func60 rfl fun X=>jsr<|jbx .s rfl<|fun b1=>jpc 1 rfl<|jot<|jjn (fun s1 K=>K [(4, vb s1)] [[]] [Pt (eArr 64 (eInt .u8)) 0 0 tab_math_bits_deBruijn64tab]) (jdS [] [0] 15<|jda 0 0 3 rfl rfl rfl rfl<|jdc 13 [1] rfl<|jd1 2<|
  jca (.f rfl) [] [] c_network_Net_Free rfl rfl rfl ⟨ck 0,ck 1,ck 2,⟨⟩⟩<|fun r1 _ k=>k<|jdn<|jdc 11 [3] rfl<|jsg 8 rfl (jdf 4 0 rfl rfl<|jdo 5 0 rfl rfl rfl rfl<|jdc 7 [6,7] rfl<|jda 8 0 3 rfl rfl rfl rfl<|jdc 5 [9] rfl<|jd1 10<|
  jca (.f rfl) [] [] c_network_Net_Hit rfl rfl rfl ⟨ck 0,ck 1,ck 2,⟨⟩⟩<|fun r2 _ k=>k<|jdn<|jdc 2 [11,12] rfl<|jdp 13 (vb ((bandNot .u64 (bandNot .u64 y0.1 y1) r2) == 0)) rfl<|jdc 0 [14] rfl<|jde<|jnn (gv (fun _ k=>k) [900] ⟨gk 2,⟨⟩⟩))<|
  jdc 2 [4,5,6,7,8,9,10,11,12] rfl<|jdp 13 (vb false) rfl<|jdc 0 [14] rfl<|jde<|jnn (gv (fun _ k=>k) [900] ⟨gk 2,⟨⟩⟩))<|fun s1 _ k=>k<|jxr<|jr1 rfl rfl (fun _ k=>k) [] ⟨⟩

theorem c_network_Net_Answer_1 {y0 : Int} {y1 : Int} {y2 : T_network_Net} {y3 : Int} {y4 : Bool} {y5 : Bool} : Con Tryd.prog 59 [.int .u64 y0, pt b1 0, pt b2 0, pt b3 0, pt b4 0, pt b5 0] [bx b1 3 [vi y1], bx b2 59 [.int .u64 y2.1, sv p1 y2.2.1 c1, sv p2 y2.2.2 c2], bx b3 3 [vi y3], bx b4 4 [vb y4], bx b5 4 [vb y5]] [Rl (eInt .u64) p1 c1 y2.2.1, Rl (eInt .u64) p2 c2 y2.2.2, Pt (eArr 64 (eInt .u8)) 0 0 tab_math_bits_deBruijn64tab] (m_network_Net_Answer_1 y0 y1 y2 y3 y4 y5) fun r K=>K (vb r.1) [bx b1 3 [vi y1], bx b2 59 [.int .u64 y2.1, sv p1 y2.2.1 c1, sv p2 y2.2.2 c2], bx b3 3 [vi y3], bx b4 4 [vb y4], bx b5 4 [vb r.2]] [] :=
 ent3 Tryd.call59 Tryd.func59 rfl fun X=>jsr<|jpc 1 rfl<|jot<|
  jjn (fun s1 K=>K [(0, .int .u64 y0), (3, pt b3 0), (4, pt b4 0), (5, pt b5 0), (8, vb s1)] [bx b1 3 [vi y1], bx b2 59 [.int .u64 y2.1, sv p1 y2.2.1 c1, sv p2 y2.2.2 c2], bx b3 3 [vi y3], bx b4 4 [vb y4], bx b5 4 [vb y5]] [Rl (eInt .u64) p1 c1 y2.2.1, Rl (eInt .u64) p2 c2 y2.2.2, Pt (eArr 64 (eInt .u8)) 0 0 tab_math_bits_deBruijn64tab]) (
  jrg<|jlo 0 rfl rfl rfl<|jpc 2 rfl<|jsg 11 rfl (jla 1 3 rfl rfl rfl<|jpc 1 rfl<|jcl c_network_Net_Admissible rfl ⟨ck 0,ck 1,ck 2,⟨⟩⟩<|fun r1 _ k=>k<|jpe (vb r1)<|jpc 1 rfl<|jsg 16 rfl (jpc 7 rfl<|jpe (vb true)<|jpc 1 rfl<|joe<|
  jnn (gv (fun _ k=>k) [0,1,2,3,4] ⟨gk 0,gk 1,gk 2,⟨⟩⟩))<|jlo 0 rfl rfl rfl<|jpc 2 rfl<|jsg 19 rfl (jla 1 3 rfl rfl rfl<|jpc 1 rfl<|jcl c_network_Net_Stable rfl ⟨ck 0,ck 1,ck 2,⟨⟩⟩<|fun r2 _ k=>k<|jpe (vb r2)<|jpe (vb r2)<|jpc 1 rfl<|joe<|
  jnn (gv (fun _ k=>k) [0,1,2,3,4] ⟨gk 0,gk 1,gk 2,⟨⟩⟩))<|jpc 3 rfl<|jpe (vb false)<|jpe (vb false)<|jpc 1 rfl<|joe<|jnn (gv (fun _ k=>k) [0,1,2,3,4] ⟨gk 0,gk 1,gk 2,⟨⟩⟩))<|jpc 3 rfl<|jpe (vb false)<|jpc 1 rfl<|jlo 0 rfl rfl rfl<|jpc 2 rfl<|
  jsg 19 rfl (jla 1 3 rfl rfl rfl<|jpc 1 rfl<|jcl c_network_Net_Stable rfl ⟨ck 0,ck 1,ck 2,⟨⟩⟩<|fun r3 _ k=>k<|jpe (vb r3)<|jpe (vb r3)<|jpc 1 rfl<|joe<|jnn (gv (fun _ k=>k) [0,1,2,3,4] ⟨gk 0,gk 1,gk 2,⟨⟩⟩))<|jpc 3 rfl<|jpe (vb false)<|
  jpe (vb false)<|jpc 1 rfl<|joe<|jnn (gv (fun _ k=>k) [0,1,2,3,4] ⟨gk 0,gk 1,gk 2,⟨⟩⟩))<|fun s1 _ k=>k<|jsq<|
  jjn (fun s2 K=>K [(4, pt b4 0), (5, pt b5 0), (32, vb s2)] [bx b1 3 [vi y1], bx b2 59 [.int .u64 y2.1, sv p1 y2.2.1 c1, sv p2 y2.2.2 c2], bx b3 3 [vi y3], bx b4 4 [vb y4], bx b5 4 [vb y5]] [Rl (eInt .u64) p1 c1 y2.2.1, Rl (eInt .u64) p2 c2 y2.2.2, Pt (eArr 64 (eInt .u8)) 0 0 tab_math_bits_deBruijn64tab]) (
  jdS [] [2, 3] 8<|jdc 6 [0,1] rfl<|jsg 26 rfl (jdc 5 [2] rfl<|jdo 3 2 rfl rfl rfl rfl<|jdo 5 3 rfl rfl rfl rfl<|jd1 4<|jca (.f rfl) [] [] c_network_Set_Has rfl rfl rfl ⟨⟩<|fun r4 _ k=>k<|jdn<|jdp 6 (vb (!(r4 == y4))) rfl<|
  jdp 7 (vb (!(r4 == y4))) rfl<|jde<|jnn (gv (fun _ k=>k) [0,1,2,3,4] ⟨gk 0,gk 1,gk 2,⟨⟩⟩))<|jdc 1 [2,3,4,5,6] rfl<|jdp 7 (vb false) rfl<|jde<|jnn (gv (fun _ k=>k) [0,1,2,3,4] ⟨gk 0,gk 1,gk 2,⟨⟩⟩))<|fun s2 _ k=>k<|jif rfl (jsr<|
  jlo 3 rfl rfl rfl<|jpc 1 rfl<|jso .s 4 rfl rfl rfl<|jot<|jsr<|jpc 1 rfl<|jot<|jxr<|jtr<|jr1 rfl rfl (fun _ k=>k) [0,1,2,3,4] ⟨⟩)<|jsk<|jtn<|jsr<|jpc 1 rfl<|jot<|jxr<|jr1 rfl rfl (fun _ k=>k) [0,1,2,3,4] ⟨⟩

theorem c_network_subsets__network_Net_Answer_1 {y0 : Int} {y1 : Int} {y2 : T_network_Net} {y3 : Int} {y4 : Bool} {y5 : Bool} : Con Tryd.prog 58 [.int .u64 y0, .func (.func 59) #[] #[pt b1 0, pt b2 0, pt b3 0, pt b4 0, pt b5 0]] [bx b1 3 [vi y1], bx b2 59 [.int .u64 y2.1, sv p1 y2.2.1 c1, sv p2 y2.2.2 c2], bx b3 3 [vi y3], bx b4 4 [vb y4], bx b5 4 [vb y5]] [Rl (eInt .u64) p1 c1 y2.2.1, Rl (eInt .u64) p2 c2 y2.2.2, Pt (eArr 64 (eInt .u8)) 0 0 tab_math_bits_deBruijn64tab] (m_network_subsets__network_Net_Answer_1 y0 y1 y2 y3 y4 y5) fun r K=>K (.tuple #[]) [bx b1 3 [vi y1], bx b2 59 [.int .u64 y2.1, sv p1 y2.2.1 c1, sv p2 y2.2.2 c2], bx b3 3 [vi y3], bx b4 4 [vb y4], bx b5 4 [vb r]] [] :=
 ent3 Tryd.call58 Tryd.func58 rfl fun X=>jsr<|jpc 2 rfl<|jot<|jbk<|
  jlp (fun s1 K=>K [(0, .int .u64 y0), (1, .func (.func 59) #[] #[pt b1 0, pt b2 0, pt b3 0, pt b4 0, pt b5 0]), (4, .int .u64 s1.1)] [bx b1 3 [vi y1], bx b2 59 [.int .u64 y2.1, sv p1 y2.2.1 c1, sv p2 y2.2.2 c2], bx b3 3 [vi y3], bx b4 4 [vb y4], bx b5 4 [vb s1.2]] [Rl (eInt .u64) p1 c1 y2.2.1, Rl (eInt .u64) p2 c2 y2.2.2, Pt (eArr 64 (eInt .u8)) 0 0 tab_math_bits_deBruijn64tab]) (gv (fun _ k=>k) [0,1,2,3,4] ⟨gk 0,gk 1,gk 2,⟨⟩⟩)<|
  fun s1 _ k=>k<|jsq<|jbk<|
  jjn (fun s2 K=>K [(0, .int .u64 y0), (1, .func (.func 59) #[] #[pt b1 0, pt b2 0, pt b3 0, pt b4 0, pt b5 0]), (4, .int .u64 s1.1), (17, vb s2.1)] [bx b1 3 [vi y1], bx b2 59 [.int .u64 y2.1, sv p1 y2.2.1 c1, sv p2 y2.2.2 c2], bx b3 3 [vi y3], bx b4 4 [vb y4], bx b5 4 [vb s2.2]] [Rl (eInt .u64) p1 c1 y2.2.1, Rl (eInt .u64) p2 c2 y2.2.2, Pt (eArr 64 (eInt .u8)) 0 0 tab_math_bits_deBruijn64tab]) (
  jrg<|jpc 2 rfl<|jca .s [0, 1, 2, 3, 4] [] c_network_Net_Answer_1 rfl rfl rfl ⟨ck 0,ck 1,ck 2,⟨⟩⟩<|fun r1 _ k=>k<|jpc 2 rfl<|jsg 14 rfl (jpc 2 rfl<|jpe (vb true)<|joe<|jnn (gv (fun _ k=>k) [0,1,2,3,4] ⟨gk 0,gk 1,gk 2,⟨⟩⟩))<|jpc 2 rfl<|
  jpe (vb (s1.1 == 0))<|joe<|jnn (gv (fun _ k=>k) [0,1,2,3,4] ⟨gk 0,gk 1,gk 2,⟨⟩⟩))<|fun s2 _ k=>k<|jif rfl (jxr<|jbr<|jtr<|jlr<|jbr<|jrg' rfl lN (fun _ k=>k) [0,1,2,3,4] ⟨⟩)<|jsk<|jbn<|jtn<|jrg<|jpc 5 rfl<|joe<|
  jln (gv (fun _ k=>k) [0,1,2,3,4] ⟨gk 0,gk 1,gk 2,⟨⟩⟩)

theorem c_network_Net_Answer {y0 : T_network_Net} {y1 : Int} {y2 : Int} : Con Tryd.prog 30 [.agg #[.int .u64 y0.1, sv p1 y0.2.1 c1, sv p2 y0.2.2 c2], vi y1, vi y2] [] [Rl (eInt .u64) p1 c1 y0.2.1, Rl (eInt .u64) p2 c2 y0.2.2, Pt (eArr 64 (eInt .u8)) 0 0 tab_math_bits_deBruijn64tab] (m_network_Net_Answer y0 y1 y2) fun r K=>K (vb r) [] [] :=
 ent3 Tryd.call30 Tryd.func30 rfl fun X=>jsr<|jbx .s rfl<|fun b1=>jbx .s rfl<|fun b2=>jbx .s rfl<|fun b3=>jpc 1 rfl<|jot<|jsq<|jsr<|jlo 1 rfl rfl rfl<|jpc 1 rfl<|jot<|jif rfl (jds [] [0, 2] 5<|jda 0 0 3 rfl rfl rfl rfl<|jdo 2 2 rfl rfl rfl rfl<|jd1 1<|
  jca (.f rfl) [] [] c_network_Net_In rfl rfl rfl ⟨ck 0,ck 1,ck 2,⟨⟩⟩<|fun r1 _ k=>k<|jdn<|jd1 3<|jca (.f rfl) [] [] c_network_Set_Has rfl rfl rfl ⟨⟩<|fun r2 _ k=>k<|jdn<|jdc 0 [4] rfl<|jde<|jtn<|jxr<|jtr<|jr1 rfl rfl (fun _ k=>k) [] ⟨⟩)<|
  jsk<|jtn<|jsr<|jlo 1 rfl rfl rfl<|jpc 1 rfl<|jal .s (vb false)<|fun b4=>jso .s 3 rfl rfl rfl<|jot<|jsr<|jlo 3 rfl rfl rfl<|jal .s (vb false)<|fun b5=>jso .s 4 rfl rfl rfl<|jot<|jsr<|jfa 0 rfl<|jlo 0 rfl rfl rfl<|jpc 1 rfl<|
  jca .s [1, 0, 2, 3, 4] [] c_network_subsets__network_Net_Answer_1 rfl rfl rfl ⟨ck 0,ck 1,ck 2,⟨⟩⟩<|fun r3 _ k=>k<|jot<|jsr<|jlo 4 rfl rfl rfl<|jpc 1 rfl<|jot<|jxr<|jr1 rfl rfl (fun _ k=>k) [] ⟨⟩

theorem c_network_Net_Within {y0 : T_network_Net} {y1 : Int} : Con Tryd.prog 36 [.agg #[.int .u64 y0.1, sv p1 y0.2.1 c1, sv p2 y0.2.2 c2], .int .u64 y1] [] [Rl (eInt .u64) p1 c1 y0.2.1, Rl (eInt .u64) p2 c2 y0.2.2] (m_network_Net_Within y0 y1) fun r K=>∀ p3 c3 p4 c4,K (.agg #[.int .u64 r.1, sv p3 r.2.1 c3, sv p4 r.2.2 c4]) [] [Rl (eInt .u64) p3 c3 r.2.1, Rl (eInt .u64) p4 c4 r.2.2] :=
 ent3 Tryd.call36 Tryd.func36 rfl fun X=>jsr<|jbx .s rfl<|fun b1=>jal .s (.agg #[.int .u64 0, .slice none 0 0, .slice none 0 0])<|fun b2=>jot<|
  jjn (fun s1 K=>∀ b3 p3 c3 r_1 p4 c4 r_2,K [(1, .int .u64 y1), (2, pt b1 0), (4, pt b2 0), (5, pt b3 0)] [bx b1 59 [.int .u64 y0.1, sv p1 y0.2.1 c1, sv p2 y0.2.2 c2], bx b2 59 [.int .u64 0, .slice none 0 0, .slice none 0 0], bx b3 59 [.int .u64 s1.1, sv p3 s1.2.1 c3, sv p4 s1.2.2 c4], r_1, r_2] [Al (eInt .u64) 56 r_1 p3 c3 s1.2.1, Al (eInt .u64) 56 r_2 p4 c4 s1.2.2, Rl (eInt .u64) p1 c1 y0.2.1, Rl (eInt .u64) p2 c2 y0.2.2]) (
  jdS [] [0] 15<|jdf 0 0 rfl rfl<|jdo 1 0 rfl rfl rfl rfl<|jdc 11 [2,3] rfl<|jdf 4 1 rfl rfl<|jdo 5 0 rfl rfl rfl rfl<|jdc 8 [6] rfl<|jdf 8 1 rfl rfl<|jdo 9 0 rfl rfl rfl rfl<|jdc 5 [10] rfl<|jd3 7 11 13 (
  jmk (.f rfl) (e := eInt .u64) 56 (0 : Int) (.int .u64 0) vI rfl rfl<|fun x1 r_3 p5 c5=>jdn<|jd2 11 13 (jmk (.f rfl) (e := eInt .u64) 56 (0 : Int) (.int .u64 0) vI rfl rfl<|fun x2 r_4 p6 c6=>jdn<|
  jdp 12 (.agg #[.int .u64 (band .u64 y0.1 y1), sv p5 x1 c5, sv p6 x2 c6]) rfl<|jd1 13<|jal (.f rfl) (.agg #[.int .u64 0, .slice none 0 0, .slice none 0 0])<|fun b4=>jdn<|jd1 14<|jso (o := 0) (.f rfl) 4 rfl rfl rfl<|jdn<|jde<|
  jnn (gv (fun _ k=>k b4 p5 c5 r_3 p6 c6 r_4) [0,1,4,2,3] ⟨gk 1,gk 0,gk 2,gk 3,⟨⟩⟩)) <|jal (.f rfl) (.agg #[.int .u64 0, .slice none 0 0, .slice none 0 0])<|fun b5=>jdn<|jd1 11<|
  jmk (.f rfl) (e := eInt .u64) 56 (0 : Int) (.int .u64 0) vI rfl rfl<|fun x3 r_5 p7 c7=>jdn<|jdp 12 (.agg #[.int .u64 (band .u64 y0.1 y1), sv p5 x1 c5, sv p7 x3 c7]) rfl<|jd1 14<|jso (o := 0) (.f rfl) 3 rfl rfl rfl<|jdn<|jde<|
  jnn (gv (fun _ k=>k b5 p5 c5 r_3 p7 c7 r_5) [0,1,3,2,4] ⟨gk 1,gk 0,gk 2,gk 3,⟨⟩⟩)) (jcm<|jmk (.f rfl) (e := eInt .u64) 56 (0 : Int) (.int .u64 0) vI rfl rfl<|fun x4 r_6 p8 c8=>jdn<|jd2 7 13 (
  jmk (.f rfl) (e := eInt .u64) 56 (0 : Int) (.int .u64 0) vI rfl rfl<|fun x5 r_7 p9 c9=>jdn<|jdp 12 (.agg #[.int .u64 (band .u64 y0.1 y1), sv p9 x5 c9, sv p8 x4 c8]) rfl<|jd1 13<|
  jal (.f rfl) (.agg #[.int .u64 0, .slice none 0 0, .slice none 0 0])<|fun b6=>jdn<|jd1 14<|jso (o := 0) (.f rfl) 4 rfl rfl rfl<|jdn<|jde<|jnn (gv (fun _ k=>k b6 p9 c9 r_7 p8 c8 r_6) [0,1,4,3,2] ⟨gk 0,gk 1,gk 2,gk 3,⟨⟩⟩)) <|
  jal (.f rfl) (.agg #[.int .u64 0, .slice none 0 0, .slice none 0 0])<|fun b7=>jdn<|jd1 7<|jmk (.f rfl) (e := eInt .u64) 56 (0 : Int) (.int .u64 0) vI rfl rfl<|fun x6 r_8 p10 c10=>jdn<|
  jdp 12 (.agg #[.int .u64 (band .u64 y0.1 y1), sv p10 x6 c10, sv p8 x4 c8]) rfl<|jd1 14<|jso (o := 0) (.f rfl) 3 rfl rfl rfl<|jdn<|jde<|jnn (gv (fun _ k=>k b7 p10 c10 r_8 p8 c8 r_6) [0,1,3,4,2] ⟨gk 0,gk 1,gk 2,gk 3,⟨⟩⟩)) <|
  jal (.f rfl) (.agg #[.int .u64 0, .slice none 0 0, .slice none 0 0])<|fun b8=>jdn<|jd2 7 11 (jmk (.f rfl) (e := eInt .u64) 56 (0 : Int) (.int .u64 0) vI rfl rfl<|fun x7 r_9 p11 c11=>jdn<|jd1 11<|
  jmk (.f rfl) (e := eInt .u64) 56 (0 : Int) (.int .u64 0) vI rfl rfl<|fun x8 r_10 p12 c12=>jdn<|jdp 12 (.agg #[.int .u64 (band .u64 y0.1 y1), sv p11 x7 c11, sv p12 x8 c12]) rfl<|jd1 14<|jso (o := 0) (.f rfl) 2 rfl rfl rfl<|jdn<|jde<|
  jnn (gv (fun _ k=>k b8 p11 c11 r_9 p12 c12 r_10) [0,1,2,3,4] ⟨gk 1,gk 0,gk 2,gk 3,⟨⟩⟩)) <|jcm<|jmk (.f rfl) (e := eInt .u64) 56 (0 : Int) (.int .u64 0) vI rfl rfl<|fun x9 r_11 p13 c13=>jdn<|jd1 7<|
  jmk (.f rfl) (e := eInt .u64) 56 (0 : Int) (.int .u64 0) vI rfl rfl<|fun x10 r_12 p14 c14=>jdn<|jdp 12 (.agg #[.int .u64 (band .u64 y0.1 y1), sv p14 x10 c14, sv p13 x9 c13]) rfl<|jd1 14<|jso (o := 0) (.f rfl) 2 rfl rfl rfl<|jdn<|jde<|
  jnn (gv (fun _ k=>k b8 p14 c14 r_12 p13 c13 r_11) [0,1,2,4,3] ⟨gk 0,gk 1,gk 2,gk 3,⟨⟩⟩))<|fun s1 _ k b3 p3 c3 r_1 p4 c4 r_2=>k<|
  jjn (fun s2 K=>∀ p15 c15 r_13 p16 c16 r_14,K [(4, pt b2 0), (5, pt b3 0)] [[], bx b2 59 [.int .u64 0, .slice none 0 0, .slice none 0 0], bx b3 59 [.int .u64 s1.1, sv p15 s2.1 c15, sv p16 s2.2 c16], r_13, r_14] [Al (eInt .u64) 56 r_13 p15 c15 s2.1, Al (eInt .u64) 56 r_14 p16 c16 s2.2]) (
  jsr<|jfa 1 rfl<|jlo 0 rfl rfl rfl<|jpc 2 rfl<|jot<|jbk<|
  jlp (fun s3 K=>∀ p17 c17 r_15 p18 c18 r_16,K [(1, .int .u64 y1), (2, pt b1 0), (4, pt b2 0), (5, pt b3 0), (22, vi (len y0.2.1)), (23, vi s3.1)] [bx b1 59 [.int .u64 y0.1, sv p1 y0.2.1 c1, sv p2 y0.2.2 c2], bx b2 59 [.int .u64 0, .slice none 0 0, .slice none 0 0], bx b3 59 [.int .u64 s1.1, sv p17 s3.2.1 c17, sv p18 s3.2.2 c18], r_15, r_16] [Al (eInt .u64) 56 r_15 p17 c17 s3.2.1, Al (eInt .u64) 56 r_16 p18 c18 s3.2.2, Rl (eInt .u64) p1 c1 y0.2.1, Rl (eInt .u64) p2 c2 y0.2.2]) (gv (fun _ k=>k p3 c3 r_1 p4 c4 r_2) [0,1,2,3,4] ⟨gk 0,gk 1,gk 2,gk 3,⟨⟩⟩)<|
  fun s3 _ k p17 c17 r_15 p18 c18 r_16=>k<|jsr<|jpc 1 rfl<|jot<|jsq<|jif rfl (jsk<|jtn<|jsq<|jbk<|jsr<|jpc 2 rfl<|jot<|jsr<|jfa 0 rfl<|jlo 2 rfl rfl rfl<|jpc 1 rfl<|jcl c_network_Set_Has rfl ⟨⟩<|fun r1 _ k=>k<|jot<|jif rfl (jdS [] [0, 2] 24<|
  jdf 0 1 rfl rfl<|jdo 1 2 rfl rfl rfl rfl<|jdc 21 [2] rfl<|jdf 3 2 rfl rfl<|jdo 4 2 rfl rfl rfl rfl<|jdc 18 [5] rfl<|jdf 6 1 rfl rfl<|jdo 7 0 rfl rfl rfl rfl<|jdc 15 [8] rfl<|jdi 9 2 rfl rfl rfl rfl<|fun x11 b9 o1=>
  jdl 10 false oI rfl (gk 0) rfl<|jdc 11 [11,12] rfl<|jdf 13 2 rfl rfl<|jdo 14 0 rfl rfl rfl rfl<|jdc 8 [15] rfl<|jdi 16 4 rfl rfl rfl rfl<|fun x12 b10 o2=>jdl 17 false oI rfl (gk 0) rfl<|jdc 4 [18,19] rfl<|jdI 20 2 rfl rfl rfl rfl<|
  fun x13 h1 b11 hp1=>jd1 21<|jsA (.f rfl) 3 2 sI (band .u64 x11 y1) false rfl hp1 h1 rfl rfl vI<|fun r_17=>jdn<|jdI 22 4 rfl rfl rfl rfl<|fun x14 h2 b12 hp2=>jd1 23<|jsA (.f rfl) 4 4 sI (band .u64 x12 y1) false rfl hp2 h2 rfl rfl vI<|
  fun r_18=>jdn<|jde<|jbn<|jtn<|jrg<|jpc 2 rfl<|joe<|
  jbL (fun q_=>[bx b1 59 [.int .u64 y0.1, sv p1 y0.2.1 c1, sv p2 y0.2.2 c2], bx b2 59 [.int .u64 0, .slice none 0 0, .slice none 0 0], bx b3 59 [.int .u64 s1.1, .slice p17 q_ c17, .slice p18 (List.length s3.2.2) c18], r_17, r_18]) (gk 1) rfl<|
  jbL (fun q_=>[bx b1 59 [.int .u64 y0.1, sv p1 y0.2.1 c1, sv p2 y0.2.2 c2], bx b2 59 [.int .u64 0, .slice none 0 0, .slice none 0 0], bx b3 59 [.int .u64 s1.1, sv p17 (List.set s3.2.1 (Int.toNat s3.1) (band .u64 x11 y1)) c17, .slice p18 q_ c18], r_17, r_18]) (gk 1) rfl<|
  jln (gv (fun _ k=>k p17 c17 r_17 p18 c18 r_18) [0,1,2,3,4] ⟨gk 1,gk 0,gk 8,gk 9,⟨⟩⟩))<|jsk<|jbn<|jtn<|jrg<|jpc 2 rfl<|joe<|jln (gv (fun _ k=>k p17 c17 r_15 p18 c18 r_16) [0,1,2,3,4] ⟨gk 0,gk 1,gk 2,gk 3,⟨⟩⟩))<|jxe<|jte<|jle<|jbh<|
  jnn (gv (fun _ k=>k p17 c17 r_15 p18 c18 r_16) [900,1,2,3,4] ⟨gk 0,gk 1,⟨⟩⟩))<|fun s2 _ k p15 c15 r_13 p16 c16 r_14=>k<|jsr<|jla 2 3 rfl rfl rfl<|jso .s 1 rfl rfl rfl<|jot<|jxr<|jsh 3 0 rfl rfl<|jsh 4 2 rfl rfl<|
  jrg' rfl (lC 1 (.agg #[.int .u64 s1.1, sv p15 s2.1 c15, sv p16 s2.2 c16]) rfl rfl lN) (fun _ k=>k p15 c15 p16 c16) [] ⟨gk 1,gk 0,⟨⟩⟩

theorem c_explain_Removals_2 {y0 : List Int} {y1 : T_network_Net} {y2 : Int} {y3 : Int} {y4 : Bool} : Con Tryd.prog 35 [sv p1 y0 c1, pt b1 0, pt b2 0, pt b3 0, pt b4 0] [bx b1 59 [.int .u64 y1.1, sv p2 y1.2.1 c2, sv p3 y1.2.2 c3], bx b2 3 [vi y2], bx b3 3 [vi y3], bx b4 4 [vb y4]] [Rl (eInt .i64) p1 c1 y0, Rl (eInt .u64) p2 c2 y1.2.1, Rl (eInt .u64) p3 c3 y1.2.2, Pt (eArr 64 (eInt .u8)) 0 0 tab_math_bits_deBruijn64tab] (m_explain_Removals_2 y0 y1 y2 y3 y4) fun r K=>K (vb r) [bx b1 59 [.int .u64 y1.1, sv p2 y1.2.1 c2, sv p3 y1.2.2 c3], bx b2 3 [vi y2], bx b3 3 [vi y3], bx b4 4 [vb y4]] [] :=
 ent3 Tryd.call35 Tryd.func35 rfl fun X=>jsr<|jpc 1 rfl<|jot<|jds [] [0, 1, 2, 3] 13<|jda 0 0 3 rfl rfl rfl rfl<|jdf 1 0 rfl rfl<|jdo 2 0 rfl rfl rfl rfl<|jdc 9 [3] rfl<|jdo 7 1 rfl rfl rfl rfl<|jdo 8 2 rfl rfl rfl rfl<|jdo 10 3 rfl rfl rfl rfl<|jd1 4<|
  jca (.f rfl) [] [] c_network_Of rfl rfl rfl ⟨ck 0,⟨⟩⟩<|fun r1 _ k=>k<|jdn<|jdc 4 [5] rfl<|jd1 6<|jca (.f rfl) [] [] c_network_Net_Within rfl rfl rfl ⟨ck 1,ck 2,⟨⟩⟩<|fun r2 _ k p4 c4 p5 c5=>k<|jdn<|jd1 9<|
  jca (.f rfl) [] [] c_network_Net_Answer rfl rfl rfl ⟨ck 0,ck 1,ck 5,⟨⟩⟩<|fun r3 _ k=>k<|jdn<|jdp 11 (vb (!(r3 == y4))) rfl<|jdc 0 [12] rfl<|jde<|jtn<|jxr<|jr1 rfl rfl (fun _ k=>k) [0,1,2,3] ⟨⟩

theorem c_explain_least_1__explain_Removals_2 {y0 : List Int} {y1 : List (List Int)} {y3 : T_network_Net} {y4 : Int} {y5 : Int} {y6 : Bool} : Con Tryd.prog 63 [sv p1 y0 c1, pt b1 0, pt b2 0] [bx b1 35 [sv p2 y1 c2], r_1, bx b2 67 [.func (.func 35) #[] #[pt b3 0, pt b4 0, pt b5 0, pt b6 0]], bx b3 59 [.int .u64 y3.1, sv p3 y3.2.1 c3, sv p4 y3.2.2 c4], bx b4 3 [vi y4], bx b5 3 [vi y5], bx b6 4 [vb y6]] [Rl (eInt .i64) p1 c1 y0, Al (eSlice (eInt .i64)) 25 r_1 p2 c2 y1, Rl (eInt .u64) p3 c3 y3.2.1, Rl (eInt .u64) p4 c4 y3.2.2, Pt (eArr 64 (eInt .u8)) 0 0 tab_math_bits_deBruijn64tab] (m_explain_least_1__explain_Removals_2 y0 y1 y3 y4 y5 y6) fun r K=>∀ p5 c5 r_2,K (.tuple #[]) [bx b1 35 [sv p5 r c5], r_2, bx b2 67 [.func (.func 35) #[] #[pt b3 0, pt b4 0, pt b5 0, pt b6 0]], bx b3 59 [.int .u64 y3.1, sv p3 y3.2.1 c3, sv p4 y3.2.2 c4], bx b4 3 [vi y4], bx b5 3 [vi y5], bx b6 4 [vb y6]] [Al (eSlice (eInt .i64)) 25 r_2 p5 c5 r] :=
 ent3 Tryd.call63 Tryd.func63 rfl fun X=>jsq<|
  jjn (fun s1 K=>K [(0, sv p1 y0 c1), (1, pt b1 0), (21, vb s1)] [bx b1 35 [sv p2 y1 c2], r_1, bx b2 67 [.func (.func 35) #[] #[pt b3 0, pt b4 0, pt b5 0, pt b6 0]], bx b3 59 [.int .u64 y3.1, sv p3 y3.2.1 c3, sv p4 y3.2.2 c4], bx b4 3 [vi y4], bx b5 3 [vi y5], bx b6 4 [vb y6]] [Rl (eInt .i64) p1 c1 y0, Al (eSlice (eInt .i64)) 25 r_1 p2 c2 y1, Rl (eInt .u64) p3 c3 y3.2.1, Rl (eInt .u64) p4 c4 y3.2.2, Pt (eArr 64 (eInt .u8)) 0 0 tab_math_bits_deBruijn64tab]) (
  jrg<|jlo 0 rfl rfl rfl<|jpc 3 rfl<|jsg 7 rfl (jpc 2 rfl<|jlo 0 rfl rfl rfl<|jia 1 rfl rfl rfl<|fun x1 h1 b7 hp1=>jlA 1 1 sI false oL rfl hp1 h1 rfl<|fun p5 c5=>jpc 2 rfl<|jpe (vb (decide ((len x1) < (len y0))))<|jpc 1 rfl<|jsg 16 rfl (
  jpc 4 rfl<|jpe (vb true)<|joe<|jnn (gv (fun _ k=>k) [0,1,2,3,4,5,6] ⟨gk 1,gk 2,gk 3,gk 4,gk 5,⟨⟩⟩))<|jlo 2 rfl rfl rfl<|jpc 1 rfl<|jca .s [3, 4, 5, 6] [] c_explain_Removals_2 rfl rfl rfl ⟨ck 1,ck 3,ck 4,ck 5,⟨⟩⟩<|fun r1 _ k=>k<|jpc 1 rfl<|
  jpe (vb (!r1))<|joe<|jnn (gv (fun _ k=>k) [0,1,2,3,4,5,6] ⟨gk 1,gk 2,gk 3,gk 4,gk 5,⟨⟩⟩))<|jpc 7 rfl<|jpe (vb false)<|jpc 1 rfl<|jlo 2 rfl rfl rfl<|jpc 1 rfl<|
  jca .s [3, 4, 5, 6] [] c_explain_Removals_2 rfl rfl rfl ⟨ck 0,ck 2,ck 3,ck 4,⟨⟩⟩<|fun r2 _ k=>k<|jpc 1 rfl<|jpe (vb (!r2))<|joe<|jnn (gv (fun _ k=>k) [0,1,2,3,4,5,6] ⟨gk 0,gk 1,gk 2,gk 3,gk 4,⟨⟩⟩))<|fun s1 _ k=>k<|jif rfl (jxr<|jtr<|
  jrg' rfl lN (fun _ k=>k p2 c2 r_1) [0,1,2,3,4,5,6] ⟨gk 1,⟨⟩⟩)<|jsk<|jtn<|
  jjn (fun s2 K=>∀ p6 c6 r_2,K [(0, sv p1 y0 c1), (1, pt b1 0)] [bx b1 35 [sv p6 s2 c6], [], bx b2 67 [.func (.func 35) #[] #[pt b3 0, pt b4 0, pt b5 0, pt b6 0]], bx b3 59 [.int .u64 y3.1, sv p3 y3.2.1 c3, sv p4 y3.2.2 c4], bx b4 3 [vi y4], bx b5 3 [vi y5], bx b6 4 [vb y6], r_2] [Al (eSlice (eInt .i64)) 25 r_2 p6 c6 s2, Rl (eInt .i64) p1 c1 y0, Rl (eInt .u64) p3 c3 y3.2.1, Rl (eInt .u64) p4 c4 y3.2.2, Pt (eArr 64 (eInt .u8)) 0 0 tab_math_bits_deBruijn64tab]) (
  jjn (fun s3 K=>K [(0, sv p1 y0 c1), (1, pt b1 0), (33, vb s3)] [bx b1 35 [sv p2 y1 c2], r_1, bx b2 67 [.func (.func 35) #[] #[pt b3 0, pt b4 0, pt b5 0, pt b6 0]], bx b3 59 [.int .u64 y3.1, sv p3 y3.2.1 c3, sv p4 y3.2.2 c4], bx b4 3 [vi y4], bx b5 3 [vi y5], bx b6 4 [vb y6]] [Rl (eInt .i64) p1 c1 y0, Al (eSlice (eInt .i64)) 25 r_1 p2 c2 y1, Rl (eInt .u64) p3 c3 y3.2.1, Rl (eInt .u64) p4 c4 y3.2.2, Pt (eArr 64 (eInt .u8)) 0 0 tab_math_bits_deBruijn64tab]) (
  jrg<|jlo 0 rfl rfl rfl<|jpc 3 rfl<|jsg 25 rfl (jpc 2 rfl<|jlo 0 rfl rfl rfl<|jia 1 rfl rfl rfl<|fun x2 h2 b8 hp2=>jlA 1 1 sI false oL rfl hp2 h2 rfl<|fun p7 c7=>jpc 2 rfl<|jpe (vb (decide ((len y0) < (len x2))))<|joe<|
  jnn (gv (fun _ k=>k) [0,1,2,3,4,5,6] ⟨gk 1,gk 2,gk 3,gk 4,gk 5,⟨⟩⟩))<|jpc 7 rfl<|jpe (vb false)<|joe<|jnn (gv (fun _ k=>k) [0,1,2,3,4,5,6] ⟨gk 0,gk 1,gk 2,gk 3,gk 4,⟨⟩⟩))<|fun s3 _ k=>k<|jif rfl (jrg<|jro (eSlice (eInt .i64)) 25<|
  jso .s 0 rfl rfl rfl<|joe<|jnn (gv (fun _ k=>k none 0 []) [0,901,2,3,4,5,6,7] ⟨gk 0,gk 1,gk 3,gk 4,gk 5,⟨⟩⟩))<|jsk<|jnn (gv (fun _ k=>k p2 c2 r_1) [0,901,2,3,4,5,6,1] ⟨gk 1,gk 0,gk 2,gk 3,gk 4,⟨⟩⟩))<|fun s2 _ k p6 c6 r_2=>k<|jrg<|
  jlo 0 rfl rfl rfl<|jpc 1 rfl<|jbs .s (e := eSlice (eInt .i64)) 25 [sv p1 y0 c1] ([y0] : List (List Int)) (rC (vL (gk 1)) rN)<|fun p8 c8=>jar .s 7 1 rfl (gk 0) rfl rfl<|fun x3 r_3 p9 c9=>jso .s 0 rfl rfl rfl<|joe<|jrn<|
  jrg' rfl lN (fun _ k=>k p9 c9 r_3) [0,7,2,3,4,5,6] ⟨gk 0,⟨⟩⟩

theorem c_explain_all__explain_least_1 {y0 : List Int} {y1 : List (List Int)} {y3 : T_network_Net} {y4 : Int} {y5 : Int} {y6 : Bool} : Con Tryd.prog 41 [sv p1 y0 c1, .func (.func 63) #[] #[pt b1 0, pt b2 0]] [bx b1 35 [sv p2 y1 c2], r_1, bx b2 67 [.func (.func 35) #[] #[pt b3 0, pt b4 0, pt b5 0, pt b6 0]], bx b3 59 [.int .u64 y3.1, sv p3 y3.2.1 c3, sv p4 y3.2.2 c4], bx b4 3 [vi y4], bx b5 3 [vi y5], bx b6 4 [vb y6]] [Rl (eInt .i64) p1 c1 y0, Al (eSlice (eInt .i64)) 25 r_1 p2 c2 y1, Rl (eInt .u64) p3 c3 y3.2.1, Rl (eInt .u64) p4 c4 y3.2.2, Pt (eArr 64 (eInt .u8)) 0 0 tab_math_bits_deBruijn64tab] (m_explain_all__explain_least_1 y0 y1 y3 y4 y5 y6) fun r K=>∀ p5 c5 r_2,K (.tuple #[]) [bx b1 35 [sv p5 r c5], r_2, bx b2 67 [.func (.func 35) #[] #[pt b3 0, pt b4 0, pt b5 0, pt b6 0]], bx b3 59 [.int .u64 y3.1, sv p3 y3.2.1 c3, sv p4 y3.2.2 c4], bx b4 3 [vi y4], bx b5 3 [vi y5], bx b6 4 [vb y6]] [Al (eSlice (eInt .i64)) 25 r_2 p5 c5 r] :=
 ent3 Tryd.call41 Tryd.func41 rfl fun X=>jsr<|jpc 2 rfl<|jbd fun x1 h1=>jv (fun h=>r_shlK h rfl rfl h1)<|jpc 1 rfl<|jot<|jbk<|
  jlp (fun s1 K=>∀ p5 c5 r_2,K [(0, sv p1 y0 c1), (1, .func (.func 63) #[] #[pt b1 0, pt b2 0]), (10, vi x1), (11, vi s1.1)] [bx b1 35 [sv p5 s1.2 c5], r_2, bx b2 67 [.func (.func 35) #[] #[pt b3 0, pt b4 0, pt b5 0, pt b6 0]], bx b3 59 [.int .u64 y3.1, sv p3 y3.2.1 c3, sv p4 y3.2.2 c4], bx b4 3 [vi y4], bx b5 3 [vi y5], bx b6 4 [vb y6]] [Al (eSlice (eInt .i64)) 25 r_2 p5 c5 s1.2, Rl (eInt .i64) p1 c1 y0, Rl (eInt .u64) p3 c3 y3.2.1, Rl (eInt .u64) p4 c4 y3.2.2, Pt (eArr 64 (eInt .u8)) 0 0 tab_math_bits_deBruijn64tab]) (gv (fun _ k=>k p2 c2 r_1) [0,1,2,3,4,5,6] ⟨gk 1,gk 0,gk 2,gk 3,gk 4,⟨⟩⟩)<|
  fun s1 _ k p5 c5 r_2=>k<|jsr<|jpc 1 rfl<|jot<|jsq<|jif rfl (jsk<|jtn<|jsq<|jbk<|jsr<|jpc 2 rfl<|jot<|jsr<|jpc 1 rfl<|jro (eInt .i64) 3<|jot<|
  jjn (fun s2 K=>∀ p6 c6 r_3,K [(0, sv p1 y0 c1), (1, .func (.func 63) #[] #[pt b1 0, pt b2 0]), (5, sv p6 s2 c6), (10, vi x1), (11, vi s1.1)] [bx b1 35 [sv p5 s1.2 c5], r_2, bx b2 67 [.func (.func 35) #[] #[pt b3 0, pt b4 0, pt b5 0, pt b6 0]], bx b3 59 [.int .u64 y3.1, sv p3 y3.2.1 c3, sv p4 y3.2.2 c4], bx b4 3 [vi y4], bx b5 3 [vi y5], bx b6 4 [vb y6], r_3] [Al (eInt .i64) 3 r_3 p6 c6 s2, Rl (eInt .i64) p1 c1 y0, Al (eSlice (eInt .i64)) 25 r_2 p5 c5 s1.2, Rl (eInt .u64) p3 c3 y3.2.1, Rl (eInt .u64) p4 c4 y3.2.2, Pt (eArr 64 (eInt .u8)) 0 0 tab_math_bits_deBruijn64tab]) (
  jsr<|jpc 3 rfl<|jot<|jbk<|
  jlp (fun s3 K=>∀ p7 c7 r_4,K [(0, sv p1 y0 c1), (1, .func (.func 63) #[] #[pt b1 0, pt b2 0]), (4, vi s1.1), (5, sv p7 s3.1 c7), (10, vi x1), (11, vi s1.1), (14, sv p1 y0 c1), (15, vi (len y0)), (16, vi s3.2)] [bx b1 35 [sv p5 s1.2 c5], r_2, bx b2 67 [.func (.func 35) #[] #[pt b3 0, pt b4 0, pt b5 0, pt b6 0]], bx b3 59 [.int .u64 y3.1, sv p3 y3.2.1 c3, sv p4 y3.2.2 c4], bx b4 3 [vi y4], bx b5 3 [vi y5], bx b6 4 [vb y6], r_4] [Al (eInt .i64) 3 r_4 p7 c7 s3.1, Rl (eInt .i64) p1 c1 y0, Al (eSlice (eInt .i64)) 25 r_2 p5 c5 s1.2, Rl (eInt .u64) p3 c3 y3.2.1, Rl (eInt .u64) p4 c4 y3.2.2, Pt (eArr 64 (eInt .u8)) 0 0 tab_math_bits_deBruijn64tab]) (gv (fun _ k=>k none 0 []) [0,1,2,3,4,5,6,7] ⟨gk 0,gk 2,gk 1,gk 3,gk 4,gk 5,⟨⟩⟩)<|
  fun s3 _ k p7 c7 r_4=>k<|jsr<|jpc 1 rfl<|jot<|jsq<|jif rfl (jsk<|jtn<|jsq<|jbk<|jsr<|jpc 1 rfl<|jix 1 rfl rfl rfl<|fun x2 b7 o1=>jld false oI (gk 0) rfl<|jpc 2 rfl<|jot<|jsr<|jpc 2 rfl<|jbd fun x3 h2=>jv (fun h=>r_shrK h rfl rfl h2)<|
  jpc 2 rfl<|jot<|jif rfl (jrg<|jpc 2 rfl<|jbs .s (e := eInt .i64) 3 [vi x2] ([x2] : List Int) (rC vI rN)<|fun p8 c8=>jar .s 7 2 rfl (gk 0) rfl rfl<|fun x4 r_5 p9 c9=>jpc 1 rfl<|joe<|jbn<|jtn<|jrg<|jpc 2 rfl<|joe<|
  jln (gv (fun _ k=>k p9 c9 r_5) [0,1,2,3,4,5,6,7] ⟨gk 0,gk 4,gk 5,gk 6,gk 7,gk 8,⟨⟩⟩))<|jsk<|jbn<|jtn<|jrg<|jpc 2 rfl<|joe<|jln (gv (fun _ k=>k p7 c7 r_4) [0,1,2,3,4,5,6,7] ⟨gk 1,gk 2,gk 3,gk 4,gk 5,gk 6,⟨⟩⟩))<|jxe<|jte<|jle<|jbh<|
  jnn (gv (fun _ k=>k p7 c7 r_4) [0,1,2,3,4,5,6,7] ⟨gk 0,gk 1,gk 2,gk 3,gk 4,gk 5,⟨⟩⟩))<|fun s2 _ k p6 c6 r_3=>k<|jrg<|jpc 2 rfl<|jsh 7 0 rfl rfl<|
  jca .s [0, 1, 2, 3, 4, 5, 6] [] c_explain_least_1__explain_Removals_2 rfl rfl rfl ⟨ck 0,ck 3,ck 4,ck 5,ck 6,⟨⟩⟩<|fun r1 _ k p10 c10 r_6=>k<|joe<|jbn<|jtn<|jrg<|jpc 2 rfl<|joe<|
  jln (gv (fun _ k=>k p10 c10 r_6) [0,1,2,3,4,5,6] ⟨gk 0,gk 3,gk 5,gk 6,gk 7,⟨⟩⟩))<|jxe<|jte<|jle<|jbh<|jrn<|jrg' rfl lN (fun _ k=>k p5 c5 r_2) [0,1,2,3,4,5,6] ⟨gk 0,⟨⟩⟩

theorem c_explain_least_2 {y0 : List Int} {y1 : List Int} : Con Tryd.prog 64 [sv p1 y0 c1, sv p2 y1 c2] [] [Rl (eInt .i64) p1 c1 y0, Rl (eInt .i64) p2 c2 y1] (m_explain_least_2 y0 y1) fun r K=>K (vi r) [] [] :=
 ent3 Tryd.call64 Tryd.func64 rfl fun X=>jsr<|jpc 1 rfl<|jot<|jsr<|jpc 2 rfl<|jcl c_slices_Compare_int rfl ⟨ck 0,ck 1,⟨⟩⟩<|fun r1 _ k=>k<|jpc 1 rfl<|jot<|jxr<|jr1 rfl rfl (fun _ k=>k) [] ⟨⟩

theorem c_slices_SortFunc_int__explain_least_2 {y0 : List (List Int)} : Con Tryd.prog 47 [sv p1 y0 c1, .func (.func 64) #[] #[]] [r_1] [Al (eSlice (eInt .i64)) 25 r_1 p1 c1 y0] (m_slices_SortFunc_int__explain_least_2 y0) fun r K=>∀ r_2,K (.tuple #[]) [r_2] [Ar (eSlice (eInt .i64)) 25 r_2 p1 c1 (List.length y0) r] := ⟨Tryd.call47, fun A w0 r hm hO hF => by
 have h := sort_sl Go.Proofs.Tryd.sort47 (e := eSlice (eInt .i64)) rfl (te := 25) m_explain_least_2 64 (enters_of Tryd.func64 (by kernel_rfl) rfl) (fun A w vx vy x y n hn hO hx hy => ?_) hO hF.1.1 hm
 · change Calls Tryd.prog 47 _ _ _ at h
   refine h.mono fun e w' h => ?_
   cases e with
   | returned v => obtain ⟨r', rfl, h1, h2, h3, h4⟩ := h; exact fun G k => k r' ⟨rfl, h1, h2, ⟨h3, h4.symm⟩, trivial⟩
   | panicked ch => exact h
   | outgrown => exact h
 · obtain ⟨q1, d1, e1, k1⟩ := hx
   obtain ⟨q2, d2, e2, k2⟩ := hy
   cases e1
   cases e2
   refine ((c_explain_least_2 (y0 := x) (y1 := y)).go A w n hn hO ⟨R.of k1, R.of k2, trivial⟩).mono fun e w' h => ?_
   cases e with
   | returned v => exact h _ fun ⟨e1, q⟩ => ⟨e1, q.e⟩
   | panicked ch => exact h
   | outgrown => exact h⟩

theorem c_explain_least__explain_Removals_2 {y0 : List Int} {y1 : T_network_Net} {y2 : Int} {y3 : Int} {y4 : Bool} : Con Tryd.prog 34 [sv p1 y0 c1, .func (.func 35) #[] #[pt b1 0, pt b2 0, pt b3 0, pt b4 0]] [bx b1 59 [.int .u64 y1.1, sv p2 y1.2.1 c2, sv p3 y1.2.2 c3], bx b2 3 [vi y2], bx b3 3 [vi y3], bx b4 4 [vb y4]] [Rl (eInt .i64) p1 c1 y0, Rl (eInt .u64) p2 c2 y1.2.1, Rl (eInt .u64) p3 c3 y1.2.2, Pt (eArr 64 (eInt .u8)) 0 0 tab_math_bits_deBruijn64tab] (m_explain_least__explain_Removals_2 y0 y1 y2 y3 y4) fun r K=>∀ p4 c4,K (sv p4 r c4) [bx b1 59 [.int .u64 y1.1, sv p2 y1.2.1 c2, sv p3 y1.2.2 c3], bx b2 3 [vi y2], bx b3 3 [vi y3], bx b4 4 [vb y4]] [Rl (eSlice (eInt .i64)) p4 c4 r] :=
 ent3 Tryd.call34 Tryd.func34 rfl fun X=>jsr<|jbx .s rfl<|fun b5=>jpc 1 rfl<|jot<|jsr<|jal .s (.slice none 0 0)<|fun b6=>jro (eSlice (eInt .i64)) 25<|jot<|jsr<|jpc 2 rfl<|jca .s [5, 6, 4, 0, 1, 2, 3] [] c_explain_all__explain_least_1 rfl rfl rfl ⟨ck 1,ck 0,ck 2,ck 3,ck 4,⟨⟩⟩<|
  fun r1 _ k p4 c4 r_1=>k<|jot<|jsr<|jlo 5 rfl rfl rfl<|jca .s [6] [] c_slices_SortFunc_int__explain_least_2 rfl rfl rfl ⟨ck 0,⟨⟩⟩<|fun r2 _ k r_2=>k<|jot<|jsr<|jlo 5 rfl rfl rfl<|jpc 1 rfl<|jot<|jxr<|jsh 6 0 rfl rfl<|jre 0 4 rfl rfl<|
  jr1 rfl rfl (fun _ k=>k p4 c4) [0,1,2,3] ⟨gk 0,⟨⟩⟩

theorem c_network_Question {y0 : Int} : Con Tryd.prog 28 [vi y0] [] [] (m_network_Question y0) fun r K=>K (vb r) [] [] :=
 ent3 Tryd.call28 Tryd.func28 rfl fun X=>jsr<|jpc 1 rfl<|jot<|jjp (fun K=>K [(2, vb ((decide (1 ≤ y0)) && (decide (y0 ≤ 4))))] [] []) (jrg<|jpc 3 rfl<|jsp (b := decide (1 ≤ y0)) 5 rfl (fun hb1=>jpc 2 rfl<|jpe (vb (decide (y0 ≤ 4)))<|jpc 1 rfl<|joe<|
  jup 2 (vb ((decide (1 ≤ y0)) && (decide (y0 ≤ 4)))) rfl (by rw [hb1]; rfl)<|jnn (gv (fun _ k=>k) [] ⟨⟩))<|fun hb1=>jpc 2 rfl<|jpe (vb false)<|jpc 1 rfl<|joe<|jup 2 (vb ((decide (1 ≤ y0)) && (decide (y0 ≤ 4)))) rfl (by rw [hb1]; rfl)<|
  jnn (gv (fun _ k=>k) [] ⟨⟩))<|fun _ k=>k<|jxr<|jr1 rfl rfl (fun _ k=>k) [] ⟨⟩

theorem c_explain_Removals_1 {y0 : Int} {y1 : Int} : Con Tryd.prog 33 [vi y0, pt b1 0] [bx b1 3 [vi y1]] [] (m_explain_Removals_1 y0 y1) fun r K=>K (vb r) [bx b1 3 [vi y1]] [] :=
 ent3 Tryd.call33 Tryd.func33 rfl fun X=>jsr<|jpc 1 rfl<|jot<|jsr<|jpc 1 rfl<|jlo 0 rfl rfl rfl<|jpc 2 rfl<|jot<|jxr<|jr1 rfl rfl (fun _ k=>k) [0] ⟨⟩

theorem c_slices_IndexFunc_int__explain_Removals_1 {y0 : List Int} {y1 : Int} : Con Tryd.prog 61 [sv p1 y0 c1, .func (.func 33) #[] #[pt b1 0]] [bx b1 3 [vi y1]] [Rl (eInt .i64) p1 c1 y0] (m_slices_IndexFunc_int__explain_Removals_1 y0 y1) fun r K=>K (vi r) [bx b1 3 [vi y1]] [] :=
 ent3 Tryd.call61 Tryd.func61 rfl fun X=>jsr<|jpc 1 rfl<|jot<|jsq<|jsr<|jpc 3 rfl<|jot<|jbk<|jlp (fun s1 K=>K [(0, sv p1 y0 c1), (1, .func (.func 33) #[] #[pt b1 0]), (7, vi (len y0)), (8, vi s1)] [bx b1 3 [vi y1]] [Rl (eInt .i64) p1 c1 y0]) (gv (fun _ k=>k) [0] ⟨gk 0,⟨⟩⟩)<|
  fun s1 _ k=>k<|jsr<|jpc 1 rfl<|jot<|jsq<|jif rfl (jsk<|jtn<|jsq<|jbk<|jsr<|jpc 2 rfl<|jot<|jsr<|jpc 3 rfl<|jix 0 rfl rfl rfl<|fun x1 b2 o1=>jld false oI (gk 0) rfl<|jca .s [0] [] c_explain_Removals_1 rfl rfl rfl ⟨⟩<|fun r1 _ k=>k<|jot<|
  jif rfl (jsr<|jpc 2 rfl<|jot<|jxr<|jbr<|jtr<|jlr<|jbr<|jtr<|jr1 rfl rfl (fun _ k=>k) [0] ⟨⟩)<|jsk<|jbn<|jtn<|jrg<|jpc 2 rfl<|joe<|jln (gv (fun _ k=>k) [0] ⟨gk 1,⟨⟩⟩))<|jxe<|jte<|jle<|jbh<|jtn<|jsr<|jpc 1 rfl<|jot<|jxr<|
  jr1 rfl rfl (fun _ k=>k) [0] ⟨⟩

theorem c_slices_DeleteFunc_int__explain_Removals_1 {y0 : List Int} {y1 : Int} : Con Tryd.prog 31 [sv p1 y0 c1, .func (.func 33) #[] #[pt b1 0]] [r_1, bx b1 3 [vi y1]] [Al (eInt .i64) 3 r_1 p1 c1 y0] (m_slices_DeleteFunc_int__explain_Removals_1 y0 y1) fun r K=>∀ p2 c2,K (sv p2 r c2) [[], bx b1 3 [vi y1]] [Rl (eInt .i64) p2 c2 r] :=
 ent3 Tryd.call31 Tryd.func31 rfl fun X=>jsr<|jpc 1 rfl<|jot<|jsr<|jpc 2 rfl<|jca .s [1] [0] c_slices_IndexFunc_int__explain_Removals_1 rfl rfl rfl ⟨cl 0 0,⟨⟩⟩<|fun r1 _ k=>k<|jpc 1 rfl<|jot<|jsq<|jsr<|jpc 2 rfl<|jot<|jif rfl (jsr<|jpc 2 rfl<|jot<|jxr<|jtr<|jsh 0 0 rfl rfl<|
  jr1 rfl rfl (fun _ k=>k p1 c1) [900,1] ⟨gk 0,⟨⟩⟩)<|jsk<|jtn<|jjn (fun s1 K=>∀ r_2,K [(0, .slice p1 (List.length y0) c1), (5, vi s1.2)] [r_2, bx b1 3 [vi y1]] [Ar (eInt .i64) 3 r_2 p1 c1 (List.length y0) s1.1]) (jsr<|jpc 3 rfl<|jot<|jbk<|
  jlp (fun s2 K=>∀ r_3,K [(0, .slice p1 (List.length y0) c1), (1, .func (.func 33) #[] #[pt b1 0]), (5, vi s2.2.1), (6, vi s2.2.2)] [r_3, bx b1 3 [vi y1]] [Ar (eInt .i64) 3 r_3 p1 c1 (List.length y0) s2.1]) (gv (fun _ k=>k r_1) [0,1] ⟨gk 0,⟨⟩⟩)<|
  fun s2 _ k r_3=>k<|jsq<|jsr<|jpc 4 rfl<|jot<|jif rfl (jsk<|jtn<|jsq<|jbk<|jsr<|jpc 2 rfl<|jia 0 rfl rfl rfl<|fun x1 h1 b2 hp1=>jlA 0 0 sI false oI rfl hp1 h1 rfl<|jpc 1 rfl<|jot<|jsr<|jpc 2 rfl<|
  jca .s [1] [] c_explain_Removals_1 rfl rfl rfl ⟨⟩<|fun r2 _ k=>k<|jpc 1 rfl<|jot<|jif rfl (jsr<|jpc 3 rfl<|jia 0 rfl rfl rfl<|fun x2 h2 b3 hp2=>jsA .s 0 0 sI x1 false rfl hp2 h2 rfl rfl vI<|fun r_4=>jot<|jrg<|jpc 3 rfl<|joe<|jbn<|jtn<|jrg<|
  jpc 3 rfl<|joe<|jln (gv (fun _ k=>k r_4) [0,1] ⟨gk 0,⟨⟩⟩))<|jsk<|jbn<|jtn<|jrg<|jpc 3 rfl<|joe<|jln (gv (fun _ k=>k r_3) [0,1] ⟨gk 0,⟨⟩⟩))<|jxe<|jte<|jle<|jbh<|jnn (gv (fun _ k=>k r_3) [0,1] ⟨gk 0,⟨⟩⟩))<|fun s1 _ k r_2=>k<|jsr<|jpc 2 rfl<|
  jsV 0 rfl rfl rfl<|fun u1 p2 c2 f1=>jcv .s 0 0 0 (vi 0) rfl f1 rfl vI<|fun r_5=>jot<|jsr<|jpc 2 rfl<|jsP 0 rfl rfl rfl<|fun x3=>jpc 1 rfl<|jot<|jxr<|jsh 0 0 rfl rfl<|jr1 rfl rfl (fun _ k=>k p1 c1) [900,1] ⟨gk 0,⟨⟩⟩

theorem c_explain_Removals {y0 : T_Graph} {y1 : Int} {y2 : Int} : Con Tryd.prog 12 [.agg #[vi y0.1, sv p1 y0.2 c1], vi y1, vi y2] [] [Rl e_Pair p1 c1 y0.2, Pt (eArr 64 (eInt .u8)) 0 0 tab_math_bits_deBruijn64tab] (m_explain_Removals y0 y1 y2) fun r K=>∀ p2 c2,K (.tuple #[sv p2 r.1 c2, vi r.2]) [] [Rl (eSlice (eInt .i64)) p2 c2 r.1] :=
 ent3 Tryd.call12 Tryd.func12 rfl fun X=>jsr<|jbx .s rfl<|fun b1=>jbx .s rfl<|fun b2=>jbx .s rfl<|fun b3=>jpc 2 rfl<|jot<|jsq<|jsr<|jla 0 2 rfl rfl rfl<|jcl c_graph_Validate rfl ⟨ck 0,⟨⟩⟩<|fun r1 _ k=>k<|jpc 1 rfl<|jot<|jsr<|jpc 2 rfl<|jot<|jif rfl (jsr<|jpc 3 rfl<|jot<|jxr<|jtr<|
  jrg' rfl (lT rfl (lT rfl lN)) (fun _ k=>k none 0) [] ⟨gn,⟨⟩⟩)<|jsk<|jtn<|jsq<|jbk<|jsr<|jlo 1 rfl rfl rfl<|jcl c_network_Question rfl ⟨⟩<|fun r2 _ k=>k<|jpc 2 rfl<|jot<|jif rfl (jsr<|jpc 2 rfl<|jot<|jxr<|jbr<|jtr<|
  jrg' rfl (lT rfl (lT rfl lN)) (fun _ k=>k none 0) [] ⟨gn,⟨⟩⟩)<|
  jjp (fun K=>K [(3, pt b1 0), (4, pt b2 0), (5, pt b3 0), (22, vb ((decide (y2 < 0)) || (decide (y0.1 ≤ y2))))] [bx b1 24 [vi y0.1, sv p1 y0.2 c1], bx b2 3 [vi y1], bx b3 3 [vi y2]] [Rl e_Pair p1 c1 y0.2, Pt (eArr 64 (eInt .u8)) 0 0 tab_math_bits_deBruijn64tab]) (
  jrg<|jlo 2 rfl rfl rfl<|jpc 2 rfl<|jsp (b := decide (y2 < 0)) 25 rfl (fun hb1=>jpc 4 rfl<|jpe (vb true)<|jpc 1 rfl<|joe<|jup 22 (vb ((decide (y2 < 0)) || (decide (y0.1 ≤ y2)))) rfl (by rw [hb1]; rfl)<|
  jnn (gv (fun _ k=>k) [0,1,2] ⟨gk 0,gk 1,⟨⟩⟩))<|fun hb1=>jlo 2 rfl rfl rfl<|jfa 0 rfl<|jlo 0 rfl rfl rfl<|jpc 1 rfl<|jpe (vb (decide (y0.1 ≤ y2)))<|jpc 1 rfl<|joe<|
  jup 22 (vb ((decide (y2 < 0)) || (decide (y0.1 ≤ y2)))) rfl (by rw [hb1]; rfl)<|jnn (gv (fun _ k=>k) [0,1,2] ⟨gk 0,gk 1,⟨⟩⟩))<|fun _ k=>k<|jif rfl (jsr<|jpc 2 rfl<|jot<|jxr<|jbr<|jtr<|
  jrg' rfl (lT rfl (lT rfl lN)) (fun _ k=>k none 0) [] ⟨gn,⟨⟩⟩)<|jsr<|jfa 0 rfl<|jlo 0 rfl rfl rfl<|jpc 2 rfl<|jot<|jif rfl (jsr<|jpc 2 rfl<|jot<|jxr<|jbr<|jtr<|jrg' rfl (lT rfl (lT rfl lN)) (fun _ k=>k none 0) [] ⟨gn,⟨⟩⟩)<|jsk<|jbn<|jtn<|
  jsr<|jla 0 2 rfl rfl rfl<|jcl c_network_New rfl ⟨ck 0,⟨⟩⟩<|fun r3 _ k p2 c2 p3 c3=>k<|jal .s (.agg #[.int .u64 0, .slice none 0 0, .slice none 0 0])<|fun b4=>jso .s 3 rfl rfl rfl<|jot<|jsr<|jla 3 3 rfl rfl rfl<|jlo 1 rfl rfl rfl<|
  jlo 2 rfl rfl rfl<|jcl c_network_Net_Answer rfl ⟨ck 0,ck 1,ck 3,⟨⟩⟩<|fun r4 _ k=>k<|jal .s (vb false)<|fun b5=>jso .s 4 rfl rfl rfl<|jot<|jsr<|jfa 0 rfl<|jlo 3 rfl rfl rfl<|jcl c_network_Set_List rfl ⟨ck 3,⟨⟩⟩<|fun r5 _ k p4 c4 r_1=>k<|
  jpc 1 rfl<|jca .s [5, 2] [] c_slices_DeleteFunc_int__explain_Removals_1 rfl rfl rfl ⟨ck 0,⟨⟩⟩<|fun r6 _ k p5 c5=>k<|jpc 1 rfl<|jot<|jsr<|jpc 2 rfl<|
  jca .s [3, 1, 2, 4] [] c_explain_least__explain_Removals_2 rfl rfl rfl ⟨ck 0,ck 2,ck 3,ck 5,⟨⟩⟩<|fun r7 _ k p6 c6=>k<|jpc 1 rfl<|jot<|jsq<|jsr<|jpc 3 rfl<|jot<|jif rfl (jsr<|jpc 2 rfl<|jot<|jxr<|jtr<|
  jrg' rfl (lT rfl (lT rfl lN)) (fun _ k=>k none 0) [] ⟨gn,⟨⟩⟩)<|jsk<|jtn<|jsr<|jpc 3 rfl<|jot<|jxr<|jrg' rfl (lT rfl (lT rfl lN)) (fun _ k=>k p6 c6) [] ⟨gk 0,⟨⟩⟩

theorem c_keep_Ints {y0 : List Int} {y1 : List Int} : Con Tryd.prog 20 [sv p1 y0 c1, sv p2 y1 c2] [] [Rl (eInt .i64) p1 c1 y0, Rl (eInt .i64) p2 c2 y1] (m_keep_Ints y0 y1) fun r K=>K (vb r) [] [] :=
 ent3 Tryd.call20 Tryd.func20 rfl fun X=>jsr<|jpc 1 rfl<|jot<|jsq<|jsr<|jpc 5 rfl<|jot<|jif rfl (jsr<|jpc 1 rfl<|jot<|jxr<|jtr<|jr1 rfl rfl (fun _ k=>k) [] ⟨⟩)<|jsk<|jtn<|jsq<|jsr<|jpc 3 rfl<|jot<|jbk<|
  jlp (fun s1 K=>K [(0, sv p1 y0 c1), (1, sv p2 y1 c2), (12, vi (len y0)), (13, vi s1)] [] [Rl (eInt .i64) p1 c1 y0, Rl (eInt .i64) p2 c2 y1]) (gv (fun _ k=>k) [] ⟨gk 0,gk 1,⟨⟩⟩)<|fun s1 _ k=>k<|jsr<|jpc 1 rfl<|jot<|jsq<|jif rfl (jsk<|jtn<|
  jsq<|jbk<|jsr<|jpc 2 rfl<|jot<|jds [] [] 9<|jdc 7 [0,1] rfl<|jdi 2 0 rfl rfl rfl rfl<|fun x1 b1 o1=>jdl 3 false oI rfl (gk 0) rfl<|jdc 3 [4,5] rfl<|jdi 6 2 rfl rfl rfl rfl<|fun x2 b2 o2=>jdl 7 false oI rfl (gk 0) rfl<|jdc 0 [8] rfl<|jde<|
  jtn<|jif rfl (jsr<|jpc 1 rfl<|jot<|jxr<|jbr<|jtr<|jlr<|jbr<|jtr<|jr1 rfl rfl (fun _ k=>k) [] ⟨⟩)<|jsk<|jbn<|jtn<|jrg<|jpc 2 rfl<|joe<|jln (gv (fun _ k=>k) [] ⟨gk 2,gk 3,⟨⟩⟩))<|jxe<|jte<|jle<|jbh<|jtn<|jsr<|jpc 1 rfl<|jot<|jxr<|
  jr1 rfl rfl (fun _ k=>k) [] ⟨⟩

theorem c_keep_Lists {y0 : List (List Int)} {y1 : List (List Int)} : Con Tryd.prog 16 [sv p1 y0 c1, sv p2 y1 c2] [] [Rl (eSlice (eInt .i64)) p1 c1 y0, Rl (eSlice (eInt .i64)) p2 c2 y1] (m_keep_Lists y0 y1) fun r K=>K (vb r) [] [] :=
 ent3 Tryd.call16 Tryd.func16 rfl fun X=>jsr<|jpc 1 rfl<|jot<|jsq<|jsr<|jpc 5 rfl<|jot<|jif rfl (jsr<|jpc 1 rfl<|jot<|jxr<|jtr<|jr1 rfl rfl (fun _ k=>k) [] ⟨⟩)<|jsk<|jtn<|jsq<|jsr<|jpc 3 rfl<|jot<|jbk<|
  jlp (fun s1 K=>K [(0, sv p1 y0 c1), (1, sv p2 y1 c2), (12, vi (len y0)), (13, vi s1)] [] [Rl (eSlice (eInt .i64)) p1 c1 y0, Rl (eSlice (eInt .i64)) p2 c2 y1]) (gv (fun _ k=>k) [] ⟨gk 0,gk 1,⟨⟩⟩)<|fun s1 _ k=>k<|jsr<|jpc 1 rfl<|jot<|jsq<|
  jif rfl (jsk<|jtn<|jsq<|jbk<|jsr<|jpc 2 rfl<|jot<|jds [] [] 10<|jdc 8 [0,1] rfl<|jdi 2 0 rfl rfl rfl rfl<|fun x1 b1 o1=>jdl 3 false oL rfl (gk 0) rfl<|fun p3 c3=>jdc 4 [4,5] rfl<|jdi 6 3 rfl rfl rfl rfl<|fun x2 b2 o2=>
  jdl 7 false oL rfl (gk 0) rfl<|fun p4 c4=>jd1 8<|jca (.f rfl) [] [] c_keep_Ints rfl rfl rfl ⟨ck 2,ck 0,⟨⟩⟩<|fun r1 _ k=>k<|jdn<|jdc 0 [9] rfl<|jde<|jtn<|jif rfl (jsr<|jpc 1 rfl<|jot<|jxr<|jbr<|jtr<|jlr<|jbr<|jtr<|
  jr1 rfl rfl (fun _ k=>k) [] ⟨⟩)<|jsk<|jbn<|jtn<|jrg<|jpc 2 rfl<|joe<|jln (gv (fun _ k=>k) [] ⟨gk 4,gk 5,⟨⟩⟩))<|jxe<|jte<|jle<|jbh<|jtn<|jsr<|jpc 1 rfl<|jot<|jxr<|jr1 rfl rfl (fun _ k=>k) [] ⟨⟩

theorem c_keep_New {y0 : List Int} : Con Tryd.prog 8 [sv p1 y0 c1] [] [Rl (eInt .i64) p1 c1 y0] (m_keep_New y0) fun r K=>∀ b1 p2 c2,K (pt b1 0) [bx b1 52 [sv p2 r.1 c2, vi r.2]] [Rl (eInt .i64) p2 c2 r.1] :=
 ent3 Tryd.call8 Tryd.func8 rfl fun X=>jsr<|jpc 1 rfl<|jot<|jsr<|jpc 4 rfl<|jsl (gk 0) rfl rfl rfl (.inl ⟨rfl, rfl⟩) (.inr ⟨_, rfl⟩)<|fun x1 p2 c2=>jpe (.agg #[sv p2 x1 c2, vi 0])<|jbx .s rfl<|fun b1=>jpc 1 rfl<|jot<|jxr<|jr1 rfl rfl (fun _ k=>k b1 p2 c2) [0] ⟨gk 0,⟨⟩⟩

theorem c_keep_Mod {y0 : Int} {y1 : Int} : Con Tryd.prog 25 [vi y0, vi y1] [] [] (m_keep_Mod y0 y1) fun r K=>K (vi r) [] [] :=
 ent3 Tryd.call25 Tryd.func25 rfl fun X=>jsr<|jpc 1 rfl<|jot<|jsq<|jsr<|jpc 2 rfl<|jot<|jif rfl (jsr<|jpc 1 rfl<|jot<|jxr<|jtr<|jr1 rfl rfl (fun _ k=>k) [] ⟨⟩)<|jsk<|jtn<|jsr<|jpc 2 rfl<|jbd fun x1 h1=>jv (fun h=>r_remK h rfl rfl h1)<|jpc 1 rfl<|jot<|jsq<|jsr<|jpc 2 rfl<|jot<|
  jif rfl (jrg<|jpc 4 rfl<|joe<|jtn<|jsr<|jpc 2 rfl<|jot<|jxr<|jr1 rfl rfl (fun _ k=>k) [] ⟨⟩)<|jsk<|jtn<|jsr<|jpc 2 rfl<|jot<|jxr<|jr1 rfl rfl (fun _ k=>k) [] ⟨⟩

theorem c_keep_Src_Raw {y0 : T_keep_Src} : Con Tryd.prog 26 [pt b1 0] [bx b1 52 [sv p1 y0.1 c1, vi y0.2]] [Rl (eInt .i64) p1 c1 y0.1] (m_keep_Src_Raw y0) fun r K=>K (vi r.1) [bx b1 52 [sv p1 y0.1 c1, vi r.2]] [] :=
 ent3 Tryd.call26 Tryd.func26 rfl fun X=>jsr<|jpc 1 rfl<|jot<|jsq<|jds [] [0] 10<|jdc 8 [0,1] rfl<|jdf 2 1 rfl rfl<|jdo 3 0 rfl rfl rfl rfl<|jdc 4 [4,5] rfl<|jdf 6 0 rfl rfl<|jdo 7 0 rfl rfl rfl rfl<|jdc 0 [8,9] rfl<|jde<|jtn<|jif rfl (jsr<|jpc 1 rfl<|jot<|jxr<|jtr<|
  jr1 rfl rfl (fun _ k=>k) [0] ⟨⟩)<|jsk<|jtn<|jsr<|jpc 2 rfl<|jfa 1 rfl<|jlo 0 rfl rfl rfl<|jpc 2 rfl<|jfa 1 rfl<|jso .s 0 rfl rfl rfl<|jot<|jds [] [0] 12<|jdc 10 [0,1] rfl<|jdf 2 0 rfl rfl<|jdo 3 0 rfl rfl rfl rfl<|jdc 6 [4,5] rfl<|
  jdf 6 1 rfl rfl<|jdo 7 0 rfl rfl rfl rfl<|jdc 3 [8] rfl<|jdi 9 0 rfl rfl rfl rfl<|fun x1 b2 o1=>jdl 10 false oI rfl (gk 0) rfl<|jdc 0 [11] rfl<|jde<|jtn<|jxr<|jr1 rfl rfl (fun _ k=>k) [0] ⟨⟩

theorem c_keep_Src_N {y0 : T_keep_Src} {y1 : Int} : Con Tryd.prog 10 [pt b1 0, vi y1] [bx b1 52 [sv p1 y0.1 c1, vi y0.2]] [Rl (eInt .i64) p1 c1 y0.1] (m_keep_Src_N y0 y1) fun r K=>K (vi r.1) [bx b1 52 [sv p1 y0.1 c1, vi r.2]] [] :=
 ent3 Tryd.call10 Tryd.func10 rfl fun X=>jsr<|jpc 1 rfl<|jot<|jsr<|jpc 1 rfl<|jca .s [0] [] c_keep_Src_Raw rfl rfl rfl ⟨ck 0,⟨⟩⟩<|fun r1 _ k=>k<|jpc 1 rfl<|jcl c_keep_Mod rfl ⟨⟩<|fun r2 _ k=>k<|jpc 1 rfl<|jot<|jxr<|jr1 rfl rfl (fun _ k=>k) [0] ⟨⟩

theorem c_keep_Src_Range {y0 : T_keep_Src} {y1 : Int} {y2 : Int} : Con Tryd.prog 11 [pt b1 0, vi y1, vi y2] [bx b1 52 [sv p1 y0.1 c1, vi y0.2]] [Rl (eInt .i64) p1 c1 y0.1] (m_keep_Src_Range y0 y1 y2) fun r K=>K (vi r.1) [bx b1 52 [sv p1 y0.1 c1, vi r.2]] [] :=
 ent3 Tryd.call11 Tryd.func11 rfl fun X=>jsr<|jpc 1 rfl<|jot<|jsr<|jpc 6 rfl<|jca .s [0] [] c_keep_Src_N rfl rfl rfl ⟨ck 0,⟨⟩⟩<|fun r1 _ k=>k<|jpc 2 rfl<|jot<|jxr<|jr1 rfl rfl (fun _ k=>k) [0] ⟨⟩

theorem c_law24_awake : Con Tryd.prog 7 [] [] [Pt (eArr 64 (eInt .u8)) 0 0 tab_math_bits_deBruijn64tab] (m_law24_awake) fun r K=>K (vb r) [] [] :=
 ent3 Tryd.call7 Tryd.func7 rfl fun X=>jsr<|jpc 1 rfl<|jot<|jsr<|jpe (.agg #[vi 0, vi 1])<|jbs .s (e := e_Pair) 50 [vi 0, vi 1] ([(0, 1)] : List T_Pair) (rC (vP vI vI) rN)<|fun p1 c1=>jpe (.agg #[vi 2, sv p1 ([(0, 1)] : List T_Pair) c1])<|
  jcl c_explain_Removals rfl ⟨ck 0,ck 1,⟨⟩⟩<|fun r1 _ k p2 c2=>k<|jpc 5 rfl<|jot<|jsr<|jpe (.agg #[vi 0, vi 1])<|jpe (.agg #[vi 1, vi 2])<|
  jbs .s (e := e_Pair) 50 [vi 0, vi 1, vi 1, vi 2] ([(0, 1), (1, 2)] : List T_Pair) (rC (vP vI vI) (rC (vP vI vI) rN))<|fun p3 c3=>jpe (.agg #[vi 3, sv p3 ([(0, 1), (1, 2)] : List T_Pair) c3])<|jcl c_explain_Defences rfl ⟨ck 0,ck 3,⟨⟩⟩<|
  fun r2 _ k p4 c4=>k<|jpc 5 rfl<|jot<|jjn (fun s1 K=>K [(0, vb s1)] [] [Pt (eArr 64 (eInt .u8)) 0 0 tab_math_bits_deBruijn64tab]) (jrg<|jpc 3 rfl<|jsg 22 rfl (jpc 2 rfl<|jpe (vb (r2.2 == 0))<|jpc 1 rfl<|jsg 26 rfl (jpc 1 rfl<|
  jbs .s (e := eInt .i64) 3 [vi 0] ([0] : List Int) (rC vI rN)<|fun p5 c5=>jbs .s (e := eSlice (eInt .i64)) 25 [sv p5 ([0] : List Int) c5] ([([0] : List Int)] : List (List Int)) (rC (vL (gk 0)) rN)<|fun p6 c6=>
  jcl c_keep_Lists rfl ⟨ck 4,ck 0,⟨⟩⟩<|fun r3 _ k=>k<|jpe (vb r3)<|jpc 1 rfl<|jsg 32 rfl (jpc 1 rfl<|jbs .s (e := eInt .i64) 3 [vi 0, vi 2] ([0, 2] : List Int) (rC vI (rC vI rN))<|fun p7 c7=>
  jbs .s (e := eSlice (eInt .i64)) 25 [sv p7 ([0, 2] : List Int) c7] ([([0, 2] : List Int)] : List (List Int)) (rC (vL (gk 0)) rN)<|fun p8 c8=>jcl c_keep_Lists rfl ⟨ck 4,ck 0,⟨⟩⟩<|fun r4 _ k=>k<|jpe (vb r4)<|jpc 1 rfl<|joe<|
  jnn (gv (fun _ k=>k) [] ⟨gk 8,⟨⟩⟩))<|jpc 4 rfl<|jpe (vb false)<|jpc 1 rfl<|joe<|jnn (gv (fun _ k=>k) [] ⟨gk 6,⟨⟩⟩))<|jpc 4 rfl<|jpe (vb false)<|jpc 5 rfl<|jpe (vb false)<|jpc 1 rfl<|joe<|jnn (gv (fun _ k=>k) [] ⟨gk 4,⟨⟩⟩))<|jpc 2 rfl<|
  jpe (vb false)<|jpc 5 rfl<|jpe (vb false)<|jpc 5 rfl<|jpe (vb false)<|jpc 1 rfl<|joe<|jnn (gv (fun _ k=>k) [] ⟨gk 4,⟨⟩⟩))<|fun s1 _ k=>k<|jxr<|jr1 rfl rfl (fun _ k=>k) [] ⟨⟩

theorem c_net_Graph {y0 : T_keep_Src} {y1 : Int} : Con Tryd.prog 9 [pt b1 0, vi y1] [bx b1 52 [sv p1 y0.1 c1, vi y0.2]] [Rl (eInt .i64) p1 c1 y0.1] (m_net_Graph y0 y1) fun r K=>∀ p2 c2,K (.agg #[vi r.1.1, sv p2 r.1.2 c2]) [bx b1 52 [sv p1 y0.1 c1, vi r.2]] [Rl e_Pair p2 c2 r.1.2] :=
 ent3 Tryd.call9 Tryd.func9 rfl fun X=>jsr<|jal .s (.agg #[vi 0, .slice none 0 0])<|fun b2=>jot<|jsr<|jpc 2 rfl<|jca .s [0] [] c_keep_Src_Range rfl rfl rfl ⟨ck 0,⟨⟩⟩<|fun r1 _ k=>k<|jpe (.agg #[vi r1.1, .slice none 0 0])<|jro e_Pair 50<|jal .s (.agg #[vi 0, .slice none 0 0])<|
  fun b3=>jso .s 3 rfl rfl rfl<|jot<|jsr<|jpc 1 rfl<|jca .s [0] [] c_keep_Src_Range rfl rfl rfl ⟨ck 1,⟨⟩⟩<|fun r2 _ k=>k<|jpc 1 rfl<|jot<|
  jjn (fun s1 K=>∀ p2 c2 r_1,K [(4, pt b2 0), (5, pt b3 0)] [bx b1 52 [sv p1 y0.1 c1, vi s1.1], bx b2 24 [vi 0, .slice none 0 0], r_1, bx b3 24 [vi r1.1, sv p2 s1.2 c2]] [Al e_Pair 50 r_1 p2 c2 s1.2, Rl (eInt .i64) p1 c1 y0.1]) (jsr<|
  jpc 1 rfl<|jot<|jbk<|
  jlp (fun s2 K=>∀ p3 c3 r_2,K [(0, pt b1 0), (4, pt b2 0), (5, pt b3 0), (6, vi r2.1), (7, vi s2.1)] [bx b1 52 [sv p1 y0.1 c1, vi s2.2.1], bx b2 24 [vi 0, .slice none 0 0], r_2, bx b3 24 [vi r1.1, sv p3 s2.2.2 c3]] [Al e_Pair 50 r_2 p3 c3 s2.2.2, Rl (eInt .i64) p1 c1 y0.1]) (gv (fun _ k=>k none 0 []) [0,1,2,3] ⟨gk 0,gk 1,⟨⟩⟩)<|
  fun s2 _ k p3 c3 r_2=>k<|jsq<|jsr<|jpc 1 rfl<|jfa 0 rfl<|jlo 3 rfl rfl rfl<|jpc 1 rfl<|jot<|jif rfl (jsk<|jtn<|jsq<|jbk<|jsr<|jpc 1 rfl<|jot<|jbk<|
  jlp (fun s3 K=>∀ p4 c4 r_3,K [(0, pt b1 0), (4, pt b2 0), (5, pt b3 0), (6, vi r2.1), (7, vi s2.1), (8, vi s3.1)] [bx b1 52 [sv p1 y0.1 c1, vi s3.2.1], bx b2 24 [vi 0, .slice none 0 0], r_3, bx b3 24 [vi r1.1, sv p4 s3.2.2 c4]] [Al e_Pair 50 r_3 p4 c4 s3.2.2, Rl (eInt .i64) p1 c1 y0.1]) (gv (fun _ k=>k p3 c3 r_2) [0,1,2,3] ⟨gk 0,gk 1,⟨⟩⟩)<|
  fun s3 _ k p4 c4 r_3=>k<|jsq<|jsr<|jpc 1 rfl<|jfa 0 rfl<|jlo 3 rfl rfl rfl<|jpc 1 rfl<|jot<|jif rfl (jsk<|jtn<|jsq<|jbk<|jsr<|jpc 2 rfl<|jot<|
  jjn (fun s4 K=>K [(0, pt b1 0), (4, pt b2 0), (5, pt b3 0), (6, vi r2.1), (7, vi s2.1), (8, vi s3.1), (9, vi s4)] [bx b1 52 [sv p1 y0.1 c1, vi s3.2.1], bx b2 24 [vi 0, .slice none 0 0], r_3, bx b3 24 [vi r1.1, sv p4 s3.2.2 c4]] [Rl (eInt .i64) p1 c1 y0.1, Al e_Pair 50 r_3 p4 c4 s3.2.2]) (
  jsr<|jpc 3 rfl<|jot<|jif rfl (jrg<|jpc 1 rfl<|joe<|jnn (gv (fun _ k=>k) [0,1,2,3] ⟨gk 1,gk 0,⟨⟩⟩))<|jsk<|jnn (gv (fun _ k=>k) [0,1,2,3] ⟨gk 1,gk 0,⟨⟩⟩))<|fun s4 _ k=>k<|jsr<|jpc 2 rfl<|jca .s [0] [] c_keep_Src_N rfl rfl rfl ⟨ck 0,⟨⟩⟩<|
  fun r3 _ k=>k<|jpc 1 rfl<|jot<|jif rfl (jrg<|jfa 1 rfl<|jlo 3 rfl rfl rfl<|jpc 2 rfl<|jpe (.agg #[vi s2.1, vi s3.1])<|jbs .s (e := e_Pair) 50 [vi s2.1, vi s3.1] ([(s2.1, s3.1)] : List T_Pair) (rC (vP vI vI) rN)<|fun p5 c5=>
  jar .s 2 2 rfl (gk 0) rfl rfl<|fun x1 r_4 p6 c6=>jfa 1 rfl<|jso .s 3 rfl rfl rfl<|joe<|jbn<|jtn<|jrg<|jpc 3 rfl<|joe<|jln (gv (fun _ k=>k p6 c6 r_4) [0,1,2,3] ⟨gk 0,gk 2,⟨⟩⟩))<|jsk<|jbn<|jtn<|jrg<|jpc 3 rfl<|joe<|
  jln (gv (fun _ k=>k p4 c4 r_3) [0,1,2,3] ⟨gk 1,gk 0,⟨⟩⟩))<|jxe<|jte<|jle<|jbh<|jbn<|jtn<|jrg<|jpc 3 rfl<|joe<|jln (gv (fun _ k=>k p4 c4 r_3) [0,1,2,3] ⟨gk 0,gk 1,⟨⟩⟩))<|jxe<|jte<|jle<|jbh<|
  jnn (gv (fun _ k=>k p3 c3 r_2) [0,1,2,3] ⟨gk 0,gk 1,⟨⟩⟩))<|fun s1 _ k p2 c2 r_1=>k<|jsr<|jla 3 2 rfl rfl rfl<|jso .s 1 rfl rfl rfl<|jot<|jxr<|jsh 2 0 rfl rfl<|
  jrg' rfl (lC 1 (.agg #[vi r1.1, sv p2 s1.2 c2]) rfl rfl lN) (fun _ k=>k p2 c2) [0] ⟨gk 0,⟨⟩⟩

theorem c_net_Light {y0 : T_Graph} : Con Tryd.prog 6 [.agg #[vi y0.1, sv p1 y0.2 c1]] [] [Rl e_Pair p1 c1 y0.2] (m_net_Light y0) fun r K=>K (vb r) [] [] :=
 ent3 Tryd.call6 Tryd.func6 rfl fun X=>jsr<|jbx .s rfl<|fun b1=>jpc 1 rfl<|jot<|jsr<|jfa 1 rfl<|jlo 0 rfl rfl rfl<|jpc 3 rfl<|jot<|jxr<|jr1 rfl rfl (fun _ k=>k) [] ⟨⟩

theorem c_net_Has {y0 : T_Graph} {y1 : Int} {y2 : Int} : Con Tryd.prog 75 [.agg #[vi y0.1, sv p1 y0.2 c1], vi y1, vi y2] [] [Rl e_Pair p1 c1 y0.2] (m_net_Has y0 y1 y2) fun r K=>K (vb r) [] [] :=
 ent3 Tryd.call75 Tryd.func75 rfl fun X=>jsr<|jbx .s rfl<|fun b1=>jpc 1 rfl<|jot<|jsq<|jsr<|jpc 1 rfl<|jot<|jbk<|jlp (fun s1 K=>K [(1, vi y1), (2, vi y2), (3, pt b1 0), (7, vi s1)] [bx b1 24 [vi y0.1, sv p1 y0.2 c1]] [Rl e_Pair p1 c1 y0.2]) (gv (fun _ k=>k) [0] ⟨gk 0,⟨⟩⟩)<|
  fun s1 _ k=>k<|jsq<|jsr<|jpc 1 rfl<|jfa 1 rfl<|jlo 0 rfl rfl rfl<|jpc 2 rfl<|jot<|jif rfl (jsk<|jtn<|jsq<|jbk<|
  jjn (fun s2 K=>K [(1, vi y1), (2, vi y2), (3, pt b1 0), (7, vi s1), (32, vb s2)] [bx b1 24 [vi y0.1, sv p1 y0.2 c1]] [Rl e_Pair p1 c1 y0.2]) (jrg<|jfa 1 rfl<|jlo 0 rfl rfl rfl<|jpc 1 rfl<|jix 0 rfl rfl rfl<|fun x1 b2 o1=>jfa 0 rfl<|
  jld false oI (gf (gk 0)) rfl<|jpc 3 rfl<|jsg 23 rfl (jfa 1 rfl<|jlo 0 rfl rfl rfl<|jpc 1 rfl<|jix 1 rfl rfl rfl<|fun x2 b3 o2=>jfa 1 rfl<|jld false oI (gs (gk 0)) rfl<|jpc 2 rfl<|jpe (vb (x2.2 == y2))<|joe<|
  jnn (gv (fun _ k=>k) [0] ⟨gk 2,⟨⟩⟩))<|jpc 8 rfl<|jpe (vb false)<|joe<|jnn (gv (fun _ k=>k) [0] ⟨gk 1,⟨⟩⟩))<|fun s2 _ k=>k<|jif rfl (jsr<|jpc 1 rfl<|jot<|jxr<|jbr<|jtr<|jlr<|jbr<|jtr<|jr1 rfl rfl (fun _ k=>k) [] ⟨⟩)<|jsk<|jbn<|jtn<|jrg<|
  jpc 3 rfl<|joe<|jln (gv (fun _ k=>k) [0] ⟨gk 0,⟨⟩⟩))<|jxe<|jte<|jle<|jbh<|jtn<|jsr<|jpc 1 rfl<|jot<|jxr<|jr1 rfl rfl (fun _ k=>k) [] ⟨⟩

theorem c_net_Attacked {y0 : T_Graph} {y1 : List Int} {y2 : Int} : Con Tryd.prog 53 [.agg #[vi y0.1, sv p1 y0.2 c1], sv p2 y1 c2, vi y2] [] [Rl e_Pair p1 c1 y0.2, Rl (eInt .i64) p2 c2 y1] (m_net_Attacked y0 y1 y2) fun r K=>K (vb r) [] [] :=
 ent3 Tryd.call53 Tryd.func53 rfl fun X=>jsr<|jbx .s rfl<|fun b1=>jpc 1 rfl<|jot<|jsq<|jsr<|jpc 1 rfl<|jot<|jbk<|
  jlp (fun s1 K=>K [(1, sv p2 y1 c2), (2, vi y2), (3, pt b1 0), (7, vi s1)] [bx b1 24 [vi y0.1, sv p1 y0.2 c1]] [Rl (eInt .i64) p2 c2 y1, Rl e_Pair p1 c1 y0.2]) (gv (fun _ k=>k) [0] ⟨gk 1,gk 0,⟨⟩⟩)<|fun s1 _ k=>k<|jsq<|jsr<|jpc 4 rfl<|jot<|
  jif rfl (jsk<|jtn<|jsq<|jbk<|jds [] [0] 7<|jda 0 0 2 rfl rfl rfl rfl<|jdc 4 [1,2] rfl<|jdi 3 0 rfl rfl rfl rfl<|fun x1 b2 o1=>jdl 4 false oI rfl (gk 0) rfl<|jdc 1 [5] rfl<|jd1 6<|jca (.f rfl) [] [] c_net_Has rfl rfl rfl ⟨ck 2,⟨⟩⟩<|
  fun r1 _ k=>k<|jdn<|jde<|jtn<|jif rfl (jsr<|jpc 1 rfl<|jot<|jxr<|jbr<|jtr<|jlr<|jbr<|jtr<|jr1 rfl rfl (fun _ k=>k) [] ⟨⟩)<|jsk<|jbn<|jtn<|jrg<|jpc 3 rfl<|joe<|jln (gv (fun _ k=>k) [0] ⟨gk 1,gk 2,⟨⟩⟩))<|jxe<|jte<|jle<|jbh<|jtn<|jsr<|
  jpc 1 rfl<|jot<|jxr<|jr1 rfl rfl (fun _ k=>k) [] ⟨⟩

theorem c_net_Free {y0 : T_Graph} {y1 : List Int} : Con Tryd.prog 54 [.agg #[vi y0.1, sv p1 y0.2 c1], sv p2 y1 c2] [] [Rl e_Pair p1 c1 y0.2, Rl (eInt .i64) p2 c2 y1] (m_net_Free y0 y1) fun r K=>K (vb r) [] [] :=
 ent3 Tryd.call54 Tryd.func54 rfl fun X=>jsr<|jbx .s rfl<|fun b1=>jpc 1 rfl<|jot<|jsq<|jsr<|jpc 1 rfl<|jot<|jbk<|
  jlp (fun s1 K=>K [(1, sv p2 y1 c2), (2, pt b1 0), (5, vi s1)] [bx b1 24 [vi y0.1, sv p1 y0.2 c1]] [Rl (eInt .i64) p2 c2 y1, Rl e_Pair p1 c1 y0.2]) (gv (fun _ k=>k) [0] ⟨gk 1,gk 0,⟨⟩⟩)<|fun s1 _ k=>k<|jsq<|jsr<|jpc 4 rfl<|jot<|jif rfl (jsk<|
  jtn<|jsq<|jbk<|jds [] [0] 7<|jda 0 0 2 rfl rfl rfl rfl<|jdc 3 [1,2,3] rfl<|jdi 4 0 rfl rfl rfl rfl<|fun x1 b2 o1=>jdl 5 false oI rfl (gk 0) rfl<|jd1 6<|jca (.f rfl) [] [] c_net_Attacked rfl rfl rfl ⟨ck 2,ck 1,⟨⟩⟩<|fun r1 _ k=>k<|jdn<|jde<|
  jtn<|jif rfl (jsr<|jpc 1 rfl<|jot<|jxr<|jbr<|jtr<|jlr<|jbr<|jtr<|jr1 rfl rfl (fun _ k=>k) [] ⟨⟩)<|jsk<|jbn<|jtn<|jrg<|jpc 3 rfl<|joe<|jln (gv (fun _ k=>k) [0] ⟨gk 1,gk 2,⟨⟩⟩))<|jxe<|jte<|jle<|jbh<|jtn<|jsr<|jpc 1 rfl<|jot<|jxr<|
  jr1 rfl rfl (fun _ k=>k) [] ⟨⟩

theorem c_net_In {y0 : List Int} {y1 : Int} : Con Tryd.prog 40 [sv p1 y0 c1, vi y1] [] [Rl (eInt .i64) p1 c1 y0] (m_net_In y0 y1) fun r K=>K (vb r) [] [] :=
 ent3 Tryd.call40 Tryd.func40 rfl fun X=>jsr<|jpc 1 rfl<|jot<|jsq<|jsr<|jpc 1 rfl<|jot<|jbk<|jlp (fun s1 K=>K [(0, sv p1 y0 c1), (1, vi y1), (5, vi s1)] [] [Rl (eInt .i64) p1 c1 y0]) (gv (fun _ k=>k) [] ⟨gk 0,⟨⟩⟩)<|fun s1 _ k=>k<|jsq<|jsr<|jpc 4 rfl<|jot<|jif rfl (jsk<|jtn<|jsq<|
  jbk<|jsr<|jpc 2 rfl<|jix 0 rfl rfl rfl<|fun x1 b1 o1=>jld false oI (gk 0) rfl<|jpc 2 rfl<|jot<|jif rfl (jsr<|jpc 1 rfl<|jot<|jxr<|jbr<|jtr<|jlr<|jbr<|jtr<|jr1 rfl rfl (fun _ k=>k) [] ⟨⟩)<|jsk<|jbn<|jtn<|jrg<|jpc 3 rfl<|joe<|
  jln (gv (fun _ k=>k) [] ⟨gk 1,⟨⟩⟩))<|jxe<|jte<|jle<|jbh<|jtn<|jsr<|jpc 1 rfl<|jot<|jxr<|jr1 rfl rfl (fun _ k=>k) [] ⟨⟩

theorem c_net_Admissible {y0 : T_Graph} {y1 : List Int} : Con Tryd.prog 22 [.agg #[vi y0.1, sv p1 y0.2 c1], sv p2 y1 c2] [] [Rl e_Pair p1 c1 y0.2, Rl (eInt .i64) p2 c2 y1] (m_net_Admissible y0 y1) fun r K=>K (vb r) [] [] :=
 ent3 Tryd.call22 Tryd.func22 rfl fun X=>jsr<|jbx .s rfl<|fun b1=>jpc 1 rfl<|jot<|jjo (fun s1 K=>K [(1, sv p2 y1 c2), (2, pt b1 0)] [bx b1 24 [vi y0.1, sv p1 y0.2 c1]] [Rl (eInt .i64) p2 c2 y1, Rl e_Pair p1 c1 y0.2]) (jsr<|jpc 1 rfl<|jot<|jbk<|
  jlp (fun s2 K=>K [(1, sv p2 y1 c2), (2, pt b1 0), (5, vi s2)] [bx b1 24 [vi y0.1, sv p1 y0.2 c1]] [Rl (eInt .i64) p2 c2 y1, Rl e_Pair p1 c1 y0.2]) (gv (fun _ k=>k) [0] ⟨gk 1,gk 0,⟨⟩⟩)<|fun s2 _ k=>k<|jsq<|jsr<|jpc 1 rfl<|jfa 1 rfl<|
  jlo 0 rfl rfl rfl<|jpc 2 rfl<|jot<|jif rfl (jsk<|jtn<|jsq<|jbk<|jjn (fun s3 K=>K [(1, sv p2 y1 c2), (2, pt b1 0), (5, vi s2), (32, vb s3)] [bx b1 24 [vi y0.1, sv p1 y0.2 c1]] [Rl (eInt .i64) p2 c2 y1, Rl e_Pair p1 c1 y0.2]) (jdS [] [0] 20<|
  jdc 19 [0] rfl<|jdf 1 1 rfl rfl<|jdo 2 0 rfl rfl rfl rfl<|jdc 16 [3] rfl<|jdi 4 1 rfl rfl rfl rfl<|fun x1 b2 o1=>jdf 5 1 rfl rfl<|jdl 6 false oI rfl (gs (gk 0)) rfl<|jd1 7<|jca (.f rfl) [] [] c_net_In rfl rfl rfl ⟨ck 1,⟨⟩⟩<|fun r1 _ k=>k<|
  jdn<|jdc 11 [8] rfl<|jsg 21 rfl (jda 9 0 2 rfl rfl rfl rfl<|jdc 9 [10] rfl<|jdf 11 1 rfl rfl<|jdo 12 0 rfl rfl rfl rfl<|jdc 6 [13] rfl<|jdi 14 2 rfl rfl rfl rfl<|fun x2 b3 o2=>jdf 15 0 rfl rfl<|jdl 16 false oI rfl (gf (gk 0)) rfl<|jd1 17<|
  jca (.f rfl) [] [] c_net_Attacked rfl rfl rfl ⟨ck 3,ck 2,⟨⟩⟩<|fun r2 _ k=>k<|jdn<|jdc 1 [18] rfl<|jdp 19 (vb (!r2)) rfl<|jde<|jnn (gv (fun _ k=>k) [0] ⟨gk 2,gk 3,⟨⟩⟩))<|jdc 1 [9,10,11,12,13,14,15,16,17,18] rfl<|jdp 19 (vb false) rfl<|jde<|
  jnn (gv (fun _ k=>k) [0] ⟨gk 1,gk 2,⟨⟩⟩))<|fun s3 _ k=>k<|jif rfl (jsr<|jpc 1 rfl<|jot<|jxr<|jbr<|jtr<|jlr<|jbr<|jlr<|jr1 rfl rfl (fun _ k=>k) [] ⟨⟩)<|jsk<|jbn<|jtn<|jrg<|jpc 3 rfl<|joe<|jln (gv (fun _ k=>k) [0] ⟨gk 0,gk 1,⟨⟩⟩))<|jxe<|jte<|
  jle<|jbh<|jln (gv (fun _ k=>k) [0] ⟨gk 0,gk 1,⟨⟩⟩))<|fun s1 _ k=>k<|jsr<|jla 0 2 rfl rfl rfl<|jpc 1 rfl<|jcl c_net_Free rfl ⟨ck 1,ck 0,⟨⟩⟩<|fun r3 _ k=>k<|jpc 1 rfl<|jot<|jxr<|jr1 rfl rfl (fun _ k=>k) [] ⟨⟩

theorem c_ref10_Validate {y0 : T_Graph} : Con Tryd.prog 38 [.agg #[vi y0.1, sv p1 y0.2 c1]] [] [Rl e_Pair p1 c1 y0.2] (m_ref10_Validate y0) fun r K=>K (vi r) [] [] :=
 ent3 Tryd.call38 Tryd.func38 rfl fun X=>jsr<|jbx .s rfl<|fun b1=>jpc 1 rfl<|jot<|jsq<|jjp (fun K=>K [(1, pt b1 0), (12, vb ((decide (y0.1 < 0)) || (decide (40 < y0.1))))] [bx b1 24 [vi y0.1, sv p1 y0.2 c1]] [Rl e_Pair p1 c1 y0.2]) (jrg<|jfa 0 rfl<|jlo 0 rfl rfl rfl<|jpc 2 rfl<|
  jsp (b := decide (y0.1 < 0)) 8 rfl (fun hb1=>jpc 3 rfl<|jpe (vb true)<|joe<|jup 12 (vb ((decide (y0.1 < 0)) || (decide (40 < y0.1)))) rfl (by rw [hb1]; rfl)<|jnn (gv (fun _ k=>k) [0] ⟨gk 0,⟨⟩⟩))<|fun hb1=>jfa 0 rfl<|jlo 0 rfl rfl rfl<|
  jpc 1 rfl<|jpe (vb (decide (40 < y0.1)))<|joe<|jup 12 (vb ((decide (y0.1 < 0)) || (decide (40 < y0.1)))) rfl (by rw [hb1]; rfl)<|jnn (gv (fun _ k=>k) [0] ⟨gk 0,⟨⟩⟩))<|fun _ k=>k<|jif rfl (jsr<|jpc 1 rfl<|jot<|jxr<|jtr<|
  jr1 rfl rfl (fun _ k=>k) [] ⟨⟩)<|jsk<|jtn<|jsq<|jsr<|jpc 1 rfl<|jot<|jbk<|jlp (fun s1 K=>K [(1, pt b1 0), (3, vi s1)] [bx b1 24 [vi y0.1, sv p1 y0.2 c1]] [Rl e_Pair p1 c1 y0.2]) (gv (fun _ k=>k) [0] ⟨gk 0,⟨⟩⟩)<|fun s1 _ k=>k<|jsq<|jsr<|
  jpc 1 rfl<|jfa 1 rfl<|jlo 0 rfl rfl rfl<|jpc 2 rfl<|jot<|jif rfl (jsk<|jtn<|jsq<|jbk<|jsr<|jfa 1 rfl<|jlo 0 rfl rfl rfl<|jpc 1 rfl<|jix 0 rfl rfl rfl<|fun x1 b2 o1=>jld true o_Pair (gk 0) rfl<|jal .s (.agg #[vi 0, vi 0])<|fun b3=>
  jso .s 1 rfl rfl rfl<|jot<|jsq<|
  jjp (fun K=>K [(1, pt b1 0), (3, vi s1), (4, pt b3 0), (46, vb ((decide (x1.1 < 0)) || ((decide (y0.1 ≤ x1.1)) || ((decide (x1.2 < 0)) || (decide (y0.1 ≤ x1.2))))))] [bx b1 24 [vi y0.1, sv p1 y0.2 c1], bx b3 50 [vi x1.1, vi x1.2]] [Rl e_Pair p1 c1 y0.2]) (
  jrg<|jfa 0 rfl<|jlo 1 rfl rfl rfl<|jpc 2 rfl<|jsp (b := decide (x1.1 < 0)) 28 rfl (fun hb2=>jpc 5 rfl<|jpe (vb true)<|jpc 4 rfl<|jpe (vb true)<|jpc 6 rfl<|jpe (vb true)<|joe<|
  jup 46 (vb ((decide (x1.1 < 0)) || ((decide (y0.1 ≤ x1.1)) || ((decide (x1.2 < 0)) || (decide (y0.1 ≤ x1.2)))))) rfl (by rw [hb2]; rfl)<|jnn (gv (fun _ k=>k) [0,1] ⟨gk 1,⟨⟩⟩))<|fun hb2=>jfa 0 rfl<|jlo 1 rfl rfl rfl<|jfa 0 rfl<|
  jlo 0 rfl rfl rfl<|jpc 1 rfl<|jpe (vb (decide (y0.1 ≤ x1.1)))<|jpc 1 rfl<|jsp (b := decide (y0.1 ≤ x1.1)) 35 rfl (fun hb3=>jpc 3 rfl<|jpe (vb true)<|jpc 6 rfl<|jpe (vb true)<|joe<|
  jup 46 (vb ((decide (x1.1 < 0)) || ((decide (y0.1 ≤ x1.1)) || ((decide (x1.2 < 0)) || (decide (y0.1 ≤ x1.2)))))) rfl (by rw [hb2,hb3]; rfl)<|jnn (gv (fun _ k=>k) [0,1] ⟨gk 1,⟨⟩⟩))<|fun hb3=>jfa 1 rfl<|jlo 1 rfl rfl rfl<|jpc 1 rfl<|
  jpe (vb (decide (x1.2 < 0)))<|jpc 1 rfl<|jsp (b := decide (x1.2 < 0)) 40 rfl (fun hb4=>jpc 5 rfl<|jpe (vb true)<|joe<|
  jup 46 (vb ((decide (x1.1 < 0)) || ((decide (y0.1 ≤ x1.1)) || ((decide (x1.2 < 0)) || (decide (y0.1 ≤ x1.2)))))) rfl (by rw [hb2,hb3,hb4]; rfl)<|jnn (gv (fun _ k=>k) [0,1] ⟨gk 1,⟨⟩⟩))<|fun hb4=>jfa 1 rfl<|jlo 1 rfl rfl rfl<|jfa 0 rfl<|
  jlo 0 rfl rfl rfl<|jpc 1 rfl<|jpe (vb (decide (y0.1 ≤ x1.2)))<|joe<|jup 46 (vb ((decide (x1.1 < 0)) || ((decide (y0.1 ≤ x1.1)) || ((decide (x1.2 < 0)) || (decide (y0.1 ≤ x1.2)))))) rfl (by rw [hb2,hb3,hb4]; rfl)<|
  jnn (gv (fun _ k=>k) [0,1] ⟨gk 1,⟨⟩⟩))<|fun _ k=>k<|jif rfl (jsr<|jpc 1 rfl<|jot<|jxr<|jtr<|jbr<|jtr<|jlr<|jbr<|jtr<|jr1 rfl rfl (fun _ k=>k) [] ⟨⟩)<|jsk<|jtn<|
  jjn (fun s2 K=>K [(1, pt b1 0), (3, vi s1), (84, vb s2)] [bx b1 24 [vi y0.1, sv p1 y0.2 c1], []] [Rl e_Pair p1 c1 y0.2]) (jdS [] [0, 1] 38<|jdc 35 [0,1,2] rfl<|jsg 49 rfl (jdf 3 1 rfl rfl<|jdo 4 0 rfl rfl rfl rfl<|jdc 31 [5,6] rfl<|
  jdi 7 0 rfl rfl rfl rfl<|fun x2 b4 o2=>jdf 8 0 rfl rfl<|jdl 9 false oI rfl (gf (gk 0)) rfl<|jdf 10 0 rfl rfl<|jdo 11 1 rfl rfl rfl rfl<|jdc 24 [12,13] rfl<|jsg 60 rfl (
  jdc 2 [14,15,16,17,18,19,20,21,22,23,24,25,26,27,28,29,30,31,32,33,34,35] rfl<|jdp 36 (vb true) rfl<|jdp 37 (vb true) rfl<|jde<|jnn (gv (fun _ k=>k) [0,901] ⟨gk 1,⟨⟩⟩))<|jdf 14 1 rfl rfl<|jdo 15 0 rfl rfl rfl rfl<|jdc 20 [16,17] rfl<|
  jdi 18 1 rfl rfl rfl rfl<|fun x3 b5 o3=>jdf 19 0 rfl rfl<|jdl 20 false oI rfl (gf (gk 0)) rfl<|jdf 21 0 rfl rfl<|jdo 22 1 rfl rfl rfl rfl<|jdc 13 [23,24] rfl<|jsg 71 rfl (jdf 25 1 rfl rfl<|jdo 26 0 rfl rfl rfl rfl<|jdc 9 [27,28] rfl<|
  jdi 29 2 rfl rfl rfl rfl<|fun x4 b6 o4=>jdf 30 1 rfl rfl<|jdl 31 false oI rfl (gs (gk 0)) rfl<|jdf 32 1 rfl rfl<|jdo 33 1 rfl rfl rfl rfl<|jdc 3 [34] rfl<|jdp 35 (vb (decide (x1.2 ≤ x4.2))) rfl<|jdp 36 (vb (decide (x1.2 ≤ x4.2))) rfl<|
  jdp 37 (vb (decide (x1.2 ≤ x4.2))) rfl<|jde<|jnn (gv (fun _ k=>k) [0,901] ⟨gk 3,⟨⟩⟩))<|jdc 3 [25,26,27,28,29,30,31,32,33,34] rfl<|jdp 35 (vb false) rfl<|jdp 36 (vb false) rfl<|jdp 37 (vb false) rfl<|jde<|
  jnn (gv (fun _ k=>k) [0,901] ⟨gk 2,⟨⟩⟩))<|jdc 1 [3,4,5,6,7,8,9,10,11,12,13,14,15,16,17,18,19,20,21,22,23,24,25,26,27,28,29,30,31,32,33,34,35,36] rfl<|jdp 37 (vb false) rfl<|jde<|jnn (gv (fun _ k=>k) [0,901] ⟨gk 0,⟨⟩⟩))<|fun s2 _ k=>k<|
  jif rfl (jsr<|jpc 1 rfl<|jot<|jxr<|jbr<|jtr<|jlr<|jbr<|jtr<|jr1 rfl rfl (fun _ k=>k) [] ⟨⟩)<|jsk<|jbn<|jtn<|jrg<|jpc 3 rfl<|joe<|jln (gv (fun _ k=>k) [0] ⟨gk 0,⟨⟩⟩))<|jxe<|jte<|jle<|jbh<|jtn<|jsr<|jpc 1 rfl<|jot<|jxr<|
  jr1 rfl rfl (fun _ k=>k) [] ⟨⟩

theorem c_ref24_inside {y0 : List Int} {y1 : List Int} : Con Tryd.prog 50 [sv p1 y0 c1, sv p2 y1 c2] [] [Rl (eInt .i64) p1 c1 y0, Rl (eInt .i64) p2 c2 y1] (m_ref24_inside y0 y1) fun r K=>K (vb r) [] [] :=
 ent3 Tryd.call50 Tryd.func50 rfl fun X=>jsr<|jpc 1 rfl<|jot<|jsq<|jsr<|jpc 1 rfl<|jot<|jbk<|jlp (fun s1 K=>K [(0, sv p1 y0 c1), (1, sv p2 y1 c2), (5, vi s1)] [] [Rl (eInt .i64) p1 c1 y0, Rl (eInt .i64) p2 c2 y1]) (gv (fun _ k=>k) [] ⟨gk 0,gk 1,⟨⟩⟩)<|fun s1 _ k=>k<|jsq<|jsr<|
  jpc 4 rfl<|jot<|jif rfl (jsk<|jtn<|jsq<|jbk<|jsr<|jpc 3 rfl<|jix 0 rfl rfl rfl<|fun x1 b1 o1=>jld false oI (gk 0) rfl<|jcl c_net_In rfl ⟨ck 2,⟨⟩⟩<|fun r1 _ k=>k<|jpc 1 rfl<|jot<|jif rfl (jsr<|jpc 1 rfl<|jot<|jxr<|jbr<|jtr<|jlr<|jbr<|jtr<|
  jr1 rfl rfl (fun _ k=>k) [] ⟨⟩)<|jsk<|jbn<|jtn<|jrg<|jpc 3 rfl<|joe<|jln (gv (fun _ k=>k) [] ⟨gk 1,gk 2,⟨⟩⟩))<|jxe<|jte<|jle<|jbh<|jtn<|jsr<|jpc 1 rfl<|jot<|jxr<|jr1 rfl rfl (fun _ k=>k) [] ⟨⟩

theorem c_ref24_less {y0 : List Int} {y1 : List Int} : Con Tryd.prog 51 [sv p1 y0 c1, sv p2 y1 c2] [] [Rl (eInt .i64) p1 c1 y0, Rl (eInt .i64) p2 c2 y1] (m_ref24_less y0 y1) fun r K=>K (vb r) [] [] :=
 ent3 Tryd.call51 Tryd.func51 rfl fun X=>jsr<|jpc 1 rfl<|jot<|jjo (fun s1 K=>K [(0, sv p1 y0 c1), (1, sv p2 y1 c2)] [] [Rl (eInt .i64) p1 c1 y0, Rl (eInt .i64) p2 c2 y1]) (jsr<|jpc 1 rfl<|jot<|jbk<|
  jlp (fun s2 K=>K [(0, sv p1 y0 c1), (1, sv p2 y1 c2), (5, vi s2)] [] [Rl (eInt .i64) p1 c1 y0, Rl (eInt .i64) p2 c2 y1]) (gv (fun _ k=>k) [] ⟨gk 0,gk 1,⟨⟩⟩)<|fun s2 _ k=>k<|jsq<|
  jjp (fun K=>K [(0, sv p1 y0 c1), (1, sv p2 y1 c2), (5, vi s2), (15, vb ((decide (s2 < (len y0))) && (decide (s2 < (len y1)))))] [] [Rl (eInt .i64) p1 c1 y0, Rl (eInt .i64) p2 c2 y1]) (jrg<|jpc 5 rfl<|
  jsp (b := decide (s2 < (len y0))) 10 rfl (fun hb1=>jpc 4 rfl<|jpe (vb (decide (s2 < (len y1))))<|joe<|jup 15 (vb ((decide (s2 < (len y0))) && (decide (s2 < (len y1))))) rfl (by rw [hb1]; rfl)<|jnn (gv (fun _ k=>k) [] ⟨gk 0,gk 1,⟨⟩⟩)
  )<|fun hb1=>jpc 4 rfl<|jpe (vb false)<|joe<|jup 15 (vb ((decide (s2 < (len y0))) && (decide (s2 < (len y1))))) rfl (by rw [hb1]; rfl)<|jnn (gv (fun _ k=>k) [] ⟨gk 0,gk 1,⟨⟩⟩))<|fun _ k=>k<|jif rfl (jsk<|jtn<|jsq<|jbk<|jds [] [] 9<|
  jdc 7 [0,1] rfl<|jdi 2 0 rfl rfl rfl rfl<|fun x1 b1 o1=>jdl 3 false oI rfl (gk 0) rfl<|jdc 3 [4,5] rfl<|jdi 6 2 rfl rfl rfl rfl<|fun x2 b2 o2=>jdl 7 false oI rfl (gk 0) rfl<|jdc 0 [8] rfl<|jde<|jtn<|jif rfl (jds [] [] 10<|jdc 8 [0,1] rfl<|
  jdi 2 2 rfl rfl rfl rfl<|fun x3 b3 o3=>jdl 3 false oI rfl (gk 0) rfl<|jdc 4 [4,5] rfl<|jdi 6 4 rfl rfl rfl rfl<|fun x4 b4 o4=>jdl 7 false oI rfl (gk 0) rfl<|jdc 0 [8,9] rfl<|jde<|jtn<|jxr<|jbr<|jtr<|jlr<|jbr<|jlr<|
  jr1 rfl rfl (fun _ k=>k) [] ⟨⟩)<|jsk<|jbn<|jtn<|jrg<|jpc 3 rfl<|joe<|jln (gv (fun _ k=>k) [] ⟨gk 2,gk 3,⟨⟩⟩))<|jxe<|jte<|jle<|jbh<|jln (gv (fun _ k=>k) [] ⟨gk 0,gk 1,⟨⟩⟩))<|fun s1 _ k=>k<|jsr<|jpc 6 rfl<|jot<|jxr<|
  jr1 rfl rfl (fun _ k=>k) [] ⟨⟩

theorem k_ref24_subsets_all (k : Nat) :
    (∀ {y0 : Int} {y1 : Int} {y2 : Int}, Con Tryd.prog 39 [vi y0, vi y1, vi y2] [] [] (k_ref24_subsets k y0 y1 y2) fun r K=>∀ p1 c1,K (sv p1 r c1) [] [Rl (eSlice (eInt .i64)) p1 c1 r]) := by
  induction k with
  | zero => exact con0 Tryd.call39
  | succ k ih =>
    have ih_ref24_subsets := @ih
    exact @fun y0 y1 y2=>ent3 (m1 := F_ref24_subsets (k_ref24_subsets k) y0 y1 y2) Tryd.call39 Tryd.func39 rfl fun X=>jsr<|jpc 1 rfl<|jot<|jsq<|jsr<|jpc 2 rfl<|jot<|jif rfl (jsr<|jbs .s (e := eSlice (eInt .i64)) 25 [.slice none 0 0] ([([] : List Int)] : List (List Int)) (rC (vL gn) rN)<|fun p1 c1=>jpc 1 rfl<|jot<|jxr<|jtr<|
  jr1 rfl rfl (fun _ k=>k p1 c1) [] ⟨gk 0,⟨⟩⟩)<|jsk<|jtn<|jsr<|jpc 1 rfl<|jro (eSlice (eInt .i64)) 25<|jot<|jsq<|jsr<|jpc 2 rfl<|jot<|jbk<|
  jlp (fun s1 K=>∀ p2 c2 r_1,K [(0, vi y0), (1, vi y1), (7, sv p2 s1.1 c2), (8, vi s1.2)] [r_1] [Al (eSlice (eInt .i64)) 25 r_1 p2 c2 s1.1]) (gv (fun _ k=>k none 0 []) [0] ⟨gk 0,⟨⟩⟩)<|fun s1 _ k p2 c2 r_1=>k<|jsq<|jsr<|jpc 3 rfl<|jot<|
  jif rfl (jsk<|jtn<|jsq<|jbk<|jsr<|jpc 5 rfl<|jcl ih_ref24_subsets rfl ⟨⟩<|fun r1 _ k p3 c3=>k<|jpc 1 rfl<|jot<|jsr<|jpc 1 rfl<|jot<|jbk<|
  jlp (fun s2 K=>∀ p4 c4 r_2,K [(0, vi y0), (1, vi y1), (7, sv p4 s2.1 c4), (8, vi s1.2), (9, sv p3 r1 c3), (10, vi s2.2)] [r_2] [Al (eSlice (eInt .i64)) 25 r_2 p4 c4 s2.1, Rl (eSlice (eInt .i64)) p3 c3 r1]) (gv (fun _ k=>k p2 c2 r_1) [0] ⟨gk 1,gk 0,⟨⟩⟩)<|
  fun s2 _ k p4 c4 r_2=>k<|jsq<|jsr<|jpc 4 rfl<|jot<|jif rfl (jsk<|jtn<|jsq<|jbk<|jrg<|jpc 2 rfl<|jbo .s (e := eInt .i64) 3 [vi s1.2] ([s1.2] : List Int) (rC vI rN)<|fun r_3 p5 c5=>jpc 2 rfl<|jix 2 rfl rfl rfl<|fun x1 b1 o1=>
  jld false oL (gk 0) rfl<|fun p6 c6=>jar .s 1 2 rfl (gk 0) rfl rfl<|fun x2 r_4 p7 c7=>jsh 1 0 rfl rfl<|jbs .s (e := eSlice (eInt .i64)) 25 [sv p7 x2 c7] ([x2] : List (List Int)) (rC (vL (gk 0)) rN)<|fun p8 c8=>jar .s 0 6 rfl (gk 0) rfl rfl<|
  fun x3 r_5 p9 c9=>jpc 1 rfl<|joe<|jbn<|jtn<|jrg<|jpc 3 rfl<|joe<|jln (gv (fun _ k=>k p9 c9 r_5) [0] ⟨gk 0,gk 8,⟨⟩⟩))<|jxe<|jte<|jle<|jbh<|jbn<|jtn<|jrg<|jpc 3 rfl<|joe<|jln (gv (fun _ k=>k p4 c4 r_2) [0] ⟨gk 0,⟨⟩⟩))<|jxe<|jte<|jle<|jbh<|
  jtn<|jsr<|jpc 2 rfl<|jot<|jxr<|jsh 0 0 rfl rfl<|jr1 rfl rfl (fun _ k=>k p2 c2) [] ⟨gk 0,⟨⟩⟩

theorem c_ref24_subsets {y0 : Int} {y1 : Int} {y2 : Int} : Con Tryd.prog 39 [vi y0, vi y1, vi y2] [] [] (m_ref24_subsets y0 y1 y2) fun r K=>∀ p1 c1,K (sv p1 r c1) [] [Rl (eSlice (eInt .i64)) p1 c1 r] := conLim fun k => (k_ref24_subsets_all k)

theorem c_ref24_Defences {y0 : T_Graph} {y1 : Int} : Con Tryd.prog 15 [.agg #[vi y0.1, sv p1 y0.2 c1], vi y1] [] [Rl e_Pair p1 c1 y0.2] (m_ref24_Defences y0 y1) fun r K=>∀ p2 c2,K (.tuple #[sv p2 r.1 c2, vi r.2]) [] [Rl (eSlice (eInt .i64)) p2 c2 r.1] :=
 ent3 Tryd.call15 Tryd.func15 rfl fun X=>jsr<|jbx .s rfl<|fun b1=>jpc 2 rfl<|jot<|jsq<|jsr<|jla 0 2 rfl rfl rfl<|jcl c_ref10_Validate rfl ⟨ck 0,⟨⟩⟩<|fun r1 _ k=>k<|jpc 1 rfl<|jot<|jsr<|jpc 2 rfl<|jot<|jif rfl (jsr<|jpc 3 rfl<|jot<|jxr<|jtr<|
  jrg' rfl (lT rfl (lT rfl lN)) (fun _ k=>k none 0) [] ⟨gn,⟨⟩⟩)<|jsk<|jtn<|jsq<|jjp (fun K=>K [(1, vi y1), (2, pt b1 0), (30, vb ((decide (y1 < 0)) || (decide (y0.1 ≤ y1))))] [bx b1 24 [vi y0.1, sv p1 y0.2 c1]] [Rl e_Pair p1 c1 y0.2]) (jrg<|
  jpc 3 rfl<|jsp (b := decide (y1 < 0)) 25 rfl (fun hb1=>jpc 4 rfl<|jpe (vb true)<|joe<|jup 30 (vb ((decide (y1 < 0)) || (decide (y0.1 ≤ y1)))) rfl (by rw [hb1]; rfl)<|jnn (gv (fun _ k=>k) [0] ⟨gk 0,⟨⟩⟩))<|fun hb1=>jpc 1 rfl<|jfa 0 rfl<|
  jlo 0 rfl rfl rfl<|jpc 1 rfl<|jpe (vb (decide (y0.1 ≤ y1)))<|joe<|jup 30 (vb ((decide (y1 < 0)) || (decide (y0.1 ≤ y1)))) rfl (by rw [hb1]; rfl)<|jnn (gv (fun _ k=>k) [0] ⟨gk 0,⟨⟩⟩))<|fun _ k=>k<|jif rfl (jsr<|jpc 2 rfl<|jot<|jxr<|jtr<|
  jrg' rfl (lT rfl (lT rfl lN)) (fun _ k=>k none 0) [] ⟨gn,⟨⟩⟩)<|jsk<|jtn<|jsq<|jsr<|jfa 0 rfl<|jlo 0 rfl rfl rfl<|jpc 1 rfl<|jot<|jif rfl (jsr<|jpc 2 rfl<|jot<|jxr<|jtr<|jrg' rfl (lT rfl (lT rfl lN)) (fun _ k=>k none 0) [] ⟨gn,⟨⟩⟩)<|jsk<|
  jtn<|jsr<|jpc 1 rfl<|jro (eSlice (eInt .i64)) 25<|jpc 1 rfl<|jot<|jjn (fun s1 K=>∀ p2 c2 r_1,K [(7, sv p2 s1 c2), (8, .slice none 0 0)] [[], r_1] [Al (eSlice (eInt .i64)) 25 r_1 p2 c2 s1]) (jsr<|jpc 1 rfl<|jot<|jbk<|
  jlp (fun s2 K=>∀ p3 c3 r_2,K [(1, vi y1), (2, pt b1 0), (7, sv p3 s2.1 c3), (8, .slice none 0 0), (9, vi s2.2)] [bx b1 24 [vi y0.1, sv p1 y0.2 c1], r_2] [Al (eSlice (eInt .i64)) 25 r_2 p3 c3 s2.1, Rl e_Pair p1 c1 y0.2]) (gv (fun _ k=>k none 0 []) [0,1] ⟨gk 0,gk 1,⟨⟩⟩)<|
  fun s2 _ k p3 c3 r_2=>k<|jsq<|jsr<|jpc 1 rfl<|jfa 0 rfl<|jlo 0 rfl rfl rfl<|jpc 1 rfl<|jot<|jif rfl (jsk<|jtn<|jsq<|jbk<|jsr<|jfa 0 rfl<|jlo 0 rfl rfl rfl<|jpc 1 rfl<|jcl c_ref24_subsets rfl ⟨⟩<|fun r2 _ k p4 c4=>k<|jpc 2 rfl<|jot<|jbk<|
  jlp (fun s3 K=>∀ p5 c5 r_3,K [(1, vi y1), (2, pt b1 0), (7, sv p5 s3.1 c5), (8, .slice none 0 0), (9, vi s2.2), (43, sv p4 r2 c4), (44, vi (len r2)), (45, vi s3.2)] [bx b1 24 [vi y0.1, sv p1 y0.2 c1], r_3] [Al (eSlice (eInt .i64)) 25 r_3 p5 c5 s3.1, Rl (eSlice (eInt .i64)) p4 c4 r2, Rl e_Pair p1 c1 y0.2]) (gv (fun _ k=>k p3 c3 r_2) [0,1] ⟨gk 1,gk 0,gk 2,⟨⟩⟩)<|
  fun s3 _ k p5 c5 r_3=>k<|jsr<|jpc 1 rfl<|jot<|jsq<|jif rfl (jsk<|jtn<|jsq<|jbk<|jsr<|jix 1 rfl rfl rfl<|fun x1 b2 o1=>jld false oL (gk 0) rfl<|fun p6 c6=>jpc 1 rfl<|jot<|
  jjn (fun s4 K=>K [(1, vi y1), (2, pt b1 0), (7, sv p5 s3.1 c5), (8, .slice none 0 0), (9, vi s2.2), (11, sv p6 x1 c6), (12, vb s4), (43, sv p4 r2 c4), (44, vi (len r2)), (45, vi s3.2)] [bx b1 24 [vi y0.1, sv p1 y0.2 c1], r_3] [Al (eSlice (eInt .i64)) 25 r_3 p5 c5 s3.1, Rl (eSlice (eInt .i64)) p4 c4 r2, Rl (eInt .i64) p6 c6 x1, Rl e_Pair p1 c1 y0.2]) (
  jrg<|jpc 2 rfl<|jcl c_net_In rfl ⟨ck 0,⟨⟩⟩<|fun r3 _ k=>k<|jpc 1 rfl<|jsg 52 rfl (jla 0 2 rfl rfl rfl<|jpc 1 rfl<|jcl c_net_Admissible rfl ⟨ck 4,ck 0,⟨⟩⟩<|fun r4 _ k=>k<|jpe (vb r4)<|jpc 1 rfl<|joe<|
  jnn (gv (fun _ k=>k) [0,1] ⟨gk 2,gk 3,gk 0,gk 4,⟨⟩⟩))<|jpc 3 rfl<|jpe (vb false)<|jpc 1 rfl<|joe<|jnn (gv (fun _ k=>k) [0,1] ⟨gk 2,gk 3,gk 0,gk 4,⟨⟩⟩))<|fun s4 _ k=>k<|
  jjn (fun s5 K=>K [(1, vi y1), (2, pt b1 0), (7, sv p5 s3.1 c5), (8, .slice none 0 0), (9, vi s2.2), (11, sv p6 x1 c6), (12, vb s5), (43, sv p4 r2 c4), (44, vi (len r2)), (45, vi s3.2)] [bx b1 24 [vi y0.1, sv p1 y0.2 c1], r_3] [Al (eSlice (eInt .i64)) 25 r_3 p5 c5 s3.1, Rl (eSlice (eInt .i64)) p4 c4 r2, Rl (eInt .i64) p6 c6 x1, Rl e_Pair p1 c1 y0.2]) (
  jsr<|jpc 1 rfl<|jot<|jbk<|
  jlp (fun s6 K=>K [(1, vi y1), (2, pt b1 0), (7, sv p5 s3.1 c5), (8, .slice none 0 0), (9, vi s2.2), (11, sv p6 x1 c6), (12, vb s6.1), (13, vi s6.2), (43, sv p4 r2 c4), (44, vi (len r2)), (45, vi s3.2)] [bx b1 24 [vi y0.1, sv p1 y0.2 c1], r_3] [Al (eSlice (eInt .i64)) 25 r_3 p5 c5 s3.1, Rl (eSlice (eInt .i64)) p4 c4 r2, Rl (eInt .i64) p6 c6 x1, Rl e_Pair p1 c1 y0.2]) (gv (fun _ k=>k) [0,1] ⟨gk 0,gk 1,gk 2,gk 3,⟨⟩⟩)<|
  fun s6 _ k=>k<|jsq<|
  jjp (fun K=>K [(1, vi y1), (2, pt b1 0), (7, sv p5 s3.1 c5), (8, .slice none 0 0), (9, vi s2.2), (11, sv p6 x1 c6), (12, vb s6.1), (13, vi s6.2), (43, sv p4 r2 c4), (44, vi (len r2)), (45, vi s3.2), (63, vb ((decide (s6.2 < (len s3.1))) && s6.1))] [bx b1 24 [vi y0.1, sv p1 y0.2 c1], r_3] [Al (eSlice (eInt .i64)) 25 r_3 p5 c5 s3.1, Rl (eSlice (eInt .i64)) p4 c4 r2, Rl (eInt .i64) p6 c6 x1, Rl e_Pair p1 c1 y0.2]) (
  jrg<|jpc 5 rfl<|jsp (b := decide (s6.2 < (len s3.1))) 61 rfl (fun hb3=>jpc 1 rfl<|jpe (vb s6.1)<|joe<|jup 63 (vb ((decide (s6.2 < (len s3.1))) && s6.1)) rfl (by rw [hb3]; rfl)<|jnn (gv (fun _ k=>k) [0,1] ⟨gk 0,gk 1,gk 2,gk 3,⟨⟩⟩)
  )<|fun hb3=>jpc 1 rfl<|jpe (vb false)<|joe<|jup 63 (vb ((decide (s6.2 < (len s3.1))) && s6.1)) rfl (by rw [hb3]; rfl)<|jnn (gv (fun _ k=>k) [0,1] ⟨gk 0,gk 1,gk 2,gk 3,⟨⟩⟩))<|fun _ k=>k<|jif rfl (jsk<|jtn<|jsq<|jbk<|jrg<|jpc 2 rfl<|
  jia 0 rfl rfl rfl<|fun x2 h1 b3 hp1=>jlA 1 0 sI false oL rfl hp1 h1 rfl<|fun p7 c7=>jpc 1 rfl<|jcl c_ref24_inside rfl ⟨ck 0,ck 3,⟨⟩⟩<|fun r5 _ k=>k<|jpc 2 rfl<|joe<|jbn<|jtn<|jrg<|jpc 3 rfl<|joe<|
  jln (gv (fun _ k=>k) [0,1] ⟨gk 1,gk 2,gk 3,gk 4,⟨⟩⟩))<|jxe<|jte<|jle<|jbh<|jnn (gv (fun _ k=>k) [0,1] ⟨gk 0,gk 1,gk 2,gk 3,⟨⟩⟩))<|fun s5 _ k=>k<|jsr<|jpc 1 rfl<|jot<|jif rfl (jrg<|jpc 2 rfl<|
  jbs .s (e := eSlice (eInt .i64)) 25 [sv p6 x1 c6] ([x1] : List (List Int)) (rC (vL (gk 2)) rN)<|fun p8 c8=>jar .s 1 1 rfl (gk 0) rfl rfl<|fun x3 r_4 p9 c9=>jpc 1 rfl<|joe<|jbn<|jtn<|jrg<|jpc 2 rfl<|joe<|
  jln (gv (fun _ k=>k p9 c9 r_4) [0,1] ⟨gk 0,gk 3,gk 5,⟨⟩⟩))<|jsk<|jbn<|jtn<|jrg<|jpc 2 rfl<|joe<|jln (gv (fun _ k=>k p5 c5 r_3) [0,1] ⟨gk 0,gk 1,gk 3,⟨⟩⟩))<|jxe<|jte<|jle<|jbh<|jbn<|jtn<|jrg<|jpc 3 rfl<|joe<|
  jln (gv (fun _ k=>k p5 c5 r_3) [0,1] ⟨gk 0,gk 2,⟨⟩⟩))<|jxe<|jte<|jle<|jbh<|jnn (gv (fun _ k=>k p3 c3 r_2) [900,1] ⟨gk 0,⟨⟩⟩))<|fun s1 _ k p2 c2 r_1=>k<|jsq<|jsr<|jpc 3 rfl<|jot<|jbk<|
  jlp (fun s7 K=>∀ p10 c10,K [(8, sv p10 s7.1 c10), (79, sv p2 s1 c2), (80, vi (len s1)), (81, vi s7.2)] [[], r_1] [Rl (eSlice (eInt .i64)) p10 c10 s7.1, Al (eSlice (eInt .i64)) 25 r_1 p2 c2 s1]) (gv (fun _ k=>k none 0) [900,1] ⟨gn,gk 0,⟨⟩⟩)<|
  fun s7 _ k p10 c10=>k<|jsr<|jpc 1 rfl<|jot<|jsq<|jif rfl (jsk<|jtn<|jsq<|jbk<|jsr<|jia 1 rfl rfl rfl<|fun x4 h3 b4 hp2=>jlA 1 1 sI false oL rfl hp2 h3 rfl<|fun p11 c11=>jpc 1 rfl<|jot<|jsr<|jpc 1 rfl<|jot<|
  jjn (fun s8 K=>K [(8, sv p10 s7.1 c10), (15, sv p11 x4 c11), (16, vi s8), (79, sv p2 s1 c2), (80, vi (len s1)), (81, vi s7.2)] [[], r_1] [Rl (eSlice (eInt .i64)) p10 c10 s7.1, Al (eSlice (eInt .i64)) 25 r_1 p2 c2 s1, Rl (eInt .i64) p11 c11 x4]) (
  jbk<|
  jlp (fun s9 K=>K [(8, sv p10 s7.1 c10), (15, sv p11 x4 c11), (16, vi s9), (79, sv p2 s1 c2), (80, vi (len s1)), (81, vi s7.2)] [[], r_1] [Rl (eSlice (eInt .i64)) p10 c10 s7.1, Al (eSlice (eInt .i64)) 25 r_1 p2 c2 s1, Rl (eInt .i64) p11 c11 x4]) (gv (fun _ k=>k) [900,1] ⟨gk 1,gk 2,gk 0,⟨⟩⟩)<|
  fun s9 _ k=>k<|jsq<|
  jjn (fun s10 K=>K [(8, sv p10 s7.1 c10), (15, sv p11 x4 c11), (16, vi s9), (79, sv p2 s1 c2), (80, vi (len s1)), (81, vi s7.2), (96, vb s10)] [[], r_1] [Rl (eSlice (eInt .i64)) p10 c10 s7.1, Al (eSlice (eInt .i64)) 25 r_1 p2 c2 s1, Rl (eInt .i64) p11 c11 x4]) (
  jrg<|jpc 5 rfl<|jsg 89 rfl (jpc 2 rfl<|jix 0 rfl rfl rfl<|fun x5 b5 o2=>jld false oL (gk 0) rfl<|fun p12 c12=>jpc 1 rfl<|jcl c_ref24_less rfl ⟨ck 0,ck 4,⟨⟩⟩<|fun r6 _ k=>k<|jpe (vb r6)<|joe<|jnn (gv (fun _ k=>k) [900,1] ⟨gk 2,gk 3,gk 4,⟨⟩⟩)
  )<|jpc 6 rfl<|jpe (vb false)<|joe<|jnn (gv (fun _ k=>k) [900,1] ⟨gk 0,gk 1,gk 2,⟨⟩⟩))<|fun s10 _ k=>k<|jif rfl (jsk<|jtn<|jbk<|jrg<|jpc 3 rfl<|joe<|jbn<|jln (gv (fun _ k=>k) [900,1] ⟨gk 0,gk 1,gk 2,⟨⟩⟩))<|jxe<|jte<|jle<|jbh<|
  jnn (gv (fun _ k=>k) [900,1] ⟨gk 0,gk 1,gk 2,⟨⟩⟩))<|fun s8 _ k=>k<|jsr<|jpc 1 rfl<|jbo .s (e := eSlice (eInt .i64)) 25 [sv p11 x4 c11] ([x4] : List (List Int)) (rC (vL (gk 2)) rN)<|fun r_5 p13 c13=>jpc 2 rfl<|
  jsl (gk 1) rfl rfl rfl (.inr ⟨_, rfl⟩) (.inl ⟨rfl, rfl⟩)<|fun x6 p14 c14=>jar .s 2 1 rfl (gk 0) rfl rfl<|fun x7 r_6 p15 c15=>jpc 1 rfl<|jot<|jrg<|jpc 3 rfl<|jsF (gk 3) rfl rfl rfl rfl (.inl ⟨rfl, rfl⟩)<|fun x8 p16=>jpc 1 rfl<|
  jsh 2 1 rfl rfl<|jaf .s 25 (gk 1) (gk 0) rfl rfl<|fun x9 p17 c16=>jpc 1 rfl<|joe<|jbn<|jtn<|jrg<|jpc 2 rfl<|joe<|jln (gv (fun _ k=>k p17 c16) [900,1] ⟨gk 0,gk 7,⟨⟩⟩))<|jxe<|jte<|jle<|jbh<|jtn<|jsr<|jpc 3 rfl<|jot<|jxr<|
  jrg' rfl (lT rfl (lT rfl lN)) (fun _ k=>k p10 c10) [] ⟨gk 0,⟨⟩⟩

theorem c_net_Grounded {y0 : T_Graph} : Con Tryd.prog 73 [.agg #[vi y0.1, sv p1 y0.2 c1]] [] [Rl e_Pair p1 c1 y0.2] (m_net_Grounded y0) fun r K=>∀ p2 c2 p3 c3,K (.tuple #[sv p2 r.1 c2, sv p3 r.2 c3]) [] [Rl (eInt .i64) p2 c2 r.1, Rl (eInt .i64) p3 c3 r.2] :=
 ent3 Tryd.call73 Tryd.func73 rfl fun X=>jsr<|jbx .s rfl<|fun b1=>jpc 2 rfl<|jot<|
  jjn (fun s1 K=>∀ p2 c2 r_1 p3 c3 r_2,K [(1, pt b1 0), (4, sv p2 s1.1 c2), (5, sv p3 s1.2 c3)] [bx b1 24 [vi y0.1, sv p1 y0.2 c1], r_1, r_2] [Al (eInt .i64) 3 r_1 p2 c2 s1.1, Al (eInt .i64) 3 r_2 p3 c3 s1.2, Rl e_Pair p1 c1 y0.2]) (
  jdS [] [0] 8<|jdf 0 0 rfl rfl<|jdo 1 0 rfl rfl rfl rfl<|jdf 3 0 rfl rfl<|jdo 4 0 rfl rfl rfl rfl<|jd2 2 5 (jmk (.f rfl) (e := eInt .i64) 3 (0 : Int) (vi 0) vI rfl rfl<|fun x1 r_3 p4 c4=>jdn<|jdc 2 [6] rfl<|jd1 5<|
  jmk (.f rfl) (e := eInt .i64) 3 (0 : Int) (vi 0) vI rfl rfl<|fun x2 r_4 p5 c5=>jdn<|jdc 0 [7] rfl<|jde<|jnn (gv (fun _ k=>k p4 c4 r_3 p5 c5 r_4) [0,1,2] ⟨gk 1,gk 0,gk 2,⟨⟩⟩)) <|jcm<|
  jmk (.f rfl) (e := eInt .i64) 3 (0 : Int) (vi 0) vI rfl rfl<|fun x3 r_5 p6 c6=>jdn<|jd1 2<|jmk (.f rfl) (e := eInt .i64) 3 (0 : Int) (vi 0) vI rfl rfl<|fun x4 r_6 p7 c7=>jdn<|jdc 0 [6,7] rfl<|jde<|
  jnn (gv (fun _ k=>k p7 c7 r_6 p6 c6 r_5) [0,2,1] ⟨gk 0,gk 1,gk 2,⟨⟩⟩))<|fun s1 _ k p2 c2 r_1 p3 c3 r_2=>k<|
  jjn (fun s2 K=>∀ r_7,K [(1, pt b1 0), (4, .slice p2 (List.length s1.1) c2), (5, sv p3 s1.2 c3)] [bx b1 24 [vi y0.1, sv p1 y0.2 c1], r_7, r_2] [Ar (eInt .i64) 3 r_7 p2 c2 (List.length s1.1) s2, Al (eInt .i64) 3 r_2 p3 c3 s1.2, Rl e_Pair p1 c1 y0.2]) (
  jsr<|jpc 1 rfl<|jot<|jbk<|
  jlp (fun s3 K=>∀ r_8,K [(1, pt b1 0), (4, .slice p2 (List.length s1.1) c2), (5, sv p3 s1.2 c3), (6, vi s3.2)] [bx b1 24 [vi y0.1, sv p1 y0.2 c1], r_8, r_2] [Ar (eInt .i64) 3 r_8 p2 c2 (List.length s1.1) s3.1, Al (eInt .i64) 3 r_2 p3 c3 s1.2, Rl e_Pair p1 c1 y0.2]) (gv (fun _ k=>k r_1) [0,1,2] ⟨gk 0,gk 1,gk 2,⟨⟩⟩)<|
  fun s3 _ k r_8=>k<|jsq<|jsr<|jpc 1 rfl<|jfa 0 rfl<|jlo 0 rfl rfl rfl<|jpc 1 rfl<|jot<|jif rfl (jsk<|jtn<|jsq<|jbk<|jrg<|jpc 2 rfl<|jia 0 rfl rfl rfl<|fun x5 h1 b2 hp1=>jsA .s 1 0 sI 3 false rfl hp1 h1 rfl rfl vI<|fun r_9=>joe<|jbn<|jtn<|
  jrg<|jpc 3 rfl<|joe<|jln (gv (fun _ k=>k r_9) [0,1,2] ⟨gk 0,gk 2,gk 3,⟨⟩⟩))<|jxe<|jte<|jle<|jbh<|jnn (gv (fun _ k=>k r_8) [0,1,2] ⟨gk 0,gk 1,gk 2,⟨⟩⟩))<|fun s2 _ k r_7=>k<|jsq<|jsr<|jpc 1 rfl<|jot<|jbk<|
  jlp (fun s4 K=>∀ r_10 r_11,K [(1, pt b1 0), (4, .slice p2 (List.length s1.1) c2), (5, .slice p3 (List.length s1.2) c3), (7, vi s4.2.2)] [bx b1 24 [vi y0.1, sv p1 y0.2 c1], r_10, r_11] [Ar (eInt .i64) 3 r_10 p2 c2 (List.length s1.1) s4.1, Ar (eInt .i64) 3 r_11 p3 c3 (List.length s1.2) s4.2.1, Rl e_Pair p1 c1 y0.2]) (gv (fun _ k=>k r_7 r_2) [0,1,2] ⟨gk 0,gk 1,gk 2,⟨⟩⟩)<|
  fun s4 _ k r_10 r_11=>k<|jsq<|jsr<|jpc 1 rfl<|jfa 0 rfl<|jlo 0 rfl rfl rfl<|jpc 2 rfl<|jot<|jif rfl (jsk<|jtn<|jsq<|jbk<|jsr<|jpc 1 rfl<|jro (eInt .i64) 3<|jot<|
  jjn (fun s5 K=>∀ p8 c8 r_12,K [(1, pt b1 0), (4, .slice p2 (List.length s1.1) c2), (5, .slice p3 (List.length s1.2) c3), (7, vi s4.2.2), (8, sv p8 s5 c8)] [bx b1 24 [vi y0.1, sv p1 y0.2 c1], r_10, r_11, r_12] [Al (eInt .i64) 3 r_12 p8 c8 s5, Ar (eInt .i64) 3 r_10 p2 c2 (List.length s1.1) s4.1, Ar (eInt .i64) 3 r_11 p3 c3 (List.length s1.2) s4.2.1, Rl e_Pair p1 c1 y0.2]) (
  jsr<|jpc 1 rfl<|jot<|jbk<|
  jlp (fun s6 K=>∀ p9 c9 r_13,K [(1, pt b1 0), (4, .slice p2 (List.length s1.1) c2), (5, .slice p3 (List.length s1.2) c3), (7, vi s4.2.2), (8, sv p9 s6.1 c9), (9, vi s6.2)] [bx b1 24 [vi y0.1, sv p1 y0.2 c1], r_10, r_11, r_13] [Al (eInt .i64) 3 r_13 p9 c9 s6.1, Ar (eInt .i64) 3 r_10 p2 c2 (List.length s1.1) s4.1, Ar (eInt .i64) 3 r_11 p3 c3 (List.length s1.2) s4.2.1, Rl e_Pair p1 c1 y0.2]) (gv (fun _ k=>k none 0 []) [0,1,2,3] ⟨gk 0,gk 1,gk 2,gk 3,⟨⟩⟩)<|
  fun s6 _ k p9 c9 r_13=>k<|jsq<|jsr<|jpc 1 rfl<|jfa 0 rfl<|jlo 0 rfl rfl rfl<|jpc 1 rfl<|jot<|jif rfl (jsk<|jtn<|jsq<|jbk<|jsr<|jpc 2 rfl<|jia 1 rfl rfl rfl<|fun x6 h2 b3 hp2=>jlA 1 1 sI false oI rfl hp2 h2 rfl<|jpc 2 rfl<|jot<|
  jjn (fun s7 K=>K [(1, pt b1 0), (4, .slice p2 (List.length s1.1) c2), (5, .slice p3 (List.length s1.2) c3), (7, vi s4.2.2), (8, sv p9 s6.1 c9), (9, vi s6.2), (10, vb s7)] [bx b1 24 [vi y0.1, sv p1 y0.2 c1], r_10, r_11, r_13] [Ar (eInt .i64) 3 r_10 p2 c2 (List.length s1.1) s4.1, Ar (eInt .i64) 3 r_11 p3 c3 (List.length s1.2) s4.2.1, Al (eInt .i64) 3 r_13 p9 c9 s6.1, Rl e_Pair p1 c1 y0.2]) (
  jsr<|jpc 1 rfl<|jot<|jbk<|
  jlp (fun s8 K=>K [(1, pt b1 0), (4, .slice p2 (List.length s1.1) c2), (5, .slice p3 (List.length s1.2) c3), (7, vi s4.2.2), (8, sv p9 s6.1 c9), (9, vi s6.2), (10, vb s8.1), (11, vi s8.2)] [bx b1 24 [vi y0.1, sv p1 y0.2 c1], r_10, r_11, r_13] [Ar (eInt .i64) 3 r_10 p2 c2 (List.length s1.1) s4.1, Ar (eInt .i64) 3 r_11 p3 c3 (List.length s1.2) s4.2.1, Al (eInt .i64) 3 r_13 p9 c9 s6.1, Rl e_Pair p1 c1 y0.2]) (gv (fun _ k=>k) [0,1,2,3] ⟨gk 1,gk 2,gk 0,gk 3,⟨⟩⟩)<|
  fun s8 _ k=>k<|jsq<|jsr<|jpc 1 rfl<|jfa 0 rfl<|jlo 0 rfl rfl rfl<|jpc 1 rfl<|jot<|jif rfl (jsk<|jtn<|jsq<|jbk<|
  jjc (fun s9 K=>K [(1, pt b1 0), (4, .slice p2 (List.length s1.1) c2), (5, .slice p3 (List.length s1.2) c3), (7, vi s4.2.2), (8, sv p9 s6.1 c9), (9, vi s6.2), (10, vb s9), (11, vi s8.2)] [bx b1 24 [vi y0.1, sv p1 y0.2 c1], r_10, r_11, r_13] [Ar (eInt .i64) 3 r_10 p2 c2 (List.length s1.1) s4.1, Ar (eInt .i64) 3 r_11 p3 c3 (List.length s1.2) s4.2.1, Al (eInt .i64) 3 r_13 p9 c9 s6.1, Rl e_Pair p1 c1 y0.2]) (
  jrg<|jpc 2 rfl<|jsg 55 rfl (jla 0 2 rfl rfl rfl<|jpc 2 rfl<|jcl c_net_Has rfl ⟨ck 3,⟨⟩⟩<|fun r1 _ k=>k<|jpc 2 rfl<|jsg 61 rfl (jpc 5 rfl<|jpe (vb true)<|jpe (vb true)<|jpc 1 rfl<|joe<|jnn (gv (fun _ k=>k) [0,1,2,3] ⟨gk 0,gk 1,gk 2,gk 3,⟨⟩⟩)
  )<|jpc 2 rfl<|jia 0 rfl rfl rfl<|fun x7 h3 b4 hp3=>jlA 1 0 sI false oI rfl hp3 h3 rfl<|jpc 1 rfl<|jpe (vb (x7 == 2))<|jpe (vb (x7 == 2))<|jpc 1 rfl<|joe<|jnn (gv (fun _ k=>k) [0,1,2,3] ⟨gk 0,gk 1,gk 2,gk 3,⟨⟩⟩))<|jpc 12 rfl<|
  jpe (vb false)<|jpc 1 rfl<|joe<|jnn (gv (fun _ k=>k) [0,1,2,3] ⟨gk 0,gk 1,gk 2,gk 3,⟨⟩⟩))<|fun s9 _ k=>k<|jbn<|jtn<|jrg<|jpc 3 rfl<|joe<|jln (gv (fun _ k=>k) [0,1,2,3] ⟨gk 0,gk 1,gk 2,gk 3,⟨⟩⟩))<|jxe<|jte<|jle<|jbh<|
  jnn (gv (fun _ k=>k) [0,1,2,3] ⟨gk 0,gk 1,gk 2,gk 3,⟨⟩⟩))<|fun s7 _ k=>k<|jsr<|jpc 1 rfl<|jot<|jif rfl (jrg<|jpc 2 rfl<|jbs .s (e := eInt .i64) 3 [vi s6.2] ([s6.2] : List Int) (rC vI rN)<|fun p10 c10=>jar .s 3 3 rfl (gk 0) rfl rfl<|
  fun x8 r_14 p11 c11=>jpc 1 rfl<|joe<|jbn<|jtn<|jrg<|jpc 3 rfl<|joe<|jln (gv (fun _ k=>k p11 c11 r_14) [0,1,2,3] ⟨gk 0,gk 2,gk 3,gk 5,⟨⟩⟩))<|jsk<|jbn<|jtn<|jrg<|jpc 3 rfl<|joe<|
  jln (gv (fun _ k=>k p9 c9 r_13) [0,1,2,3] ⟨gk 2,gk 0,gk 1,gk 3,⟨⟩⟩))<|jxe<|jte<|jle<|jbh<|jnn (gv (fun _ k=>k p9 c9 r_13) [0,1,2,3] ⟨gk 0,gk 1,gk 2,gk 3,⟨⟩⟩))<|fun s5 _ k p8 c8 r_12=>k<|
  jjn (fun s10 K=>∀ r_15 r_16,K [(1, pt b1 0), (4, .slice p2 (List.length s1.1) c2), (5, .slice p3 (List.length s1.2) c3), (7, vi s4.2.2), (8, sv p8 s5 c8)] [bx b1 24 [vi y0.1, sv p1 y0.2 c1], r_15, r_16, r_12] [Ar (eInt .i64) 3 r_15 p2 c2 (List.length s1.1) s10.1, Ar (eInt .i64) 3 r_16 p3 c3 (List.length s1.2) s10.2, Al (eInt .i64) 3 r_12 p8 c8 s5, Rl e_Pair p1 c1 y0.2]) (
  jsr<|jpc 3 rfl<|jot<|jbk<|
  jlp (fun s11 K=>∀ r_17 r_18,K [(1, pt b1 0), (4, .slice p2 (List.length s1.1) c2), (5, .slice p3 (List.length s1.2) c3), (7, vi s4.2.2), (8, sv p8 s5 c8), (74, sv p8 s5 c8), (75, vi (len s5)), (76, vi s11.2.2)] [bx b1 24 [vi y0.1, sv p1 y0.2 c1], r_17, r_18, r_12] [Ar (eInt .i64) 3 r_17 p2 c2 (List.length s1.1) s11.1, Ar (eInt .i64) 3 r_18 p3 c3 (List.length s1.2) s11.2.1, Al (eInt .i64) 3 r_12 p8 c8 s5, Rl e_Pair p1 c1 y0.2]) (gv (fun _ k=>k r_10 r_11) [0,1,2,3] ⟨gk 1,gk 2,gk 0,gk 3,⟨⟩⟩)<|
  fun s11 _ k r_17 r_18=>k<|jsr<|jpc 1 rfl<|jot<|jsq<|jif rfl (jsk<|jtn<|jsq<|jbk<|jsr<|jia 2 rfl rfl rfl<|fun x9 h5 b5 hp4=>jlA 3 2 sI false oI rfl hp4 h5 rfl<|jpc 1 rfl<|jot<|jrg<|jpc 5 rfl<|jia 0 rfl rfl rfl<|fun x10 h6 b6 hp5=>
  jsA .s 1 0 sI 1 false rfl hp5 h6 rfl rfl vI<|fun r_19=>jia 2 rfl rfl rfl<|fun x11 h7 b7 hp6=>jsA .s 2 2 sI s4.2.2 false rfl hp6 h7 rfl rfl vI<|fun r_20=>joe<|jbn<|jtn<|jrg<|jpc 2 rfl<|joe<|
  jln (gv (fun _ k=>k r_19 r_20) [0,1,2,3] ⟨gk 1,gk 0,gk 4,gk 5,⟨⟩⟩))<|jxe<|jte<|jle<|jbh<|jnn (gv (fun _ k=>k r_17 r_18) [0,1,2,3] ⟨gk 0,gk 1,gk 2,gk 3,⟨⟩⟩))<|fun s10 _ k r_15 r_16=>k<|jsr<|jpc 1 rfl<|jot<|jbk<|
  jlp (fun s12 K=>∀ r_21 r_22,K [(1, pt b1 0), (4, .slice p2 (List.length s1.1) c2), (5, .slice p3 (List.length s1.2) c3), (7, vi s4.2.2), (8, sv p8 s5 c8), (14, vi s12.2.2)] [bx b1 24 [vi y0.1, sv p1 y0.2 c1], r_21, r_22, r_12] [Ar (eInt .i64) 3 r_21 p2 c2 (List.length s1.1) s12.1, Ar (eInt .i64) 3 r_22 p3 c3 (List.length s1.2) s12.2.1, Al (eInt .i64) 3 r_12 p8 c8 s5, Rl e_Pair p1 c1 y0.2]) (gv (fun _ k=>k r_15 r_16) [0,1,2,3] ⟨gk 0,gk 1,gk 2,gk 3,⟨⟩⟩)<|
  fun s12 _ k r_21 r_22=>k<|jsq<|jsr<|jpc 1 rfl<|jfa 0 rfl<|jlo 0 rfl rfl rfl<|jpc 1 rfl<|jot<|jif rfl (jsk<|jtn<|jsq<|jbk<|
  jjn (fun s13 K=>K [(1, pt b1 0), (4, .slice p2 (List.length s1.1) c2), (5, .slice p3 (List.length s1.2) c3), (7, vi s4.2.2), (8, sv p8 s5 c8), (14, vi s12.2.2), (104, vb s13)] [bx b1 24 [vi y0.1, sv p1 y0.2 c1], r_21, r_22, r_12] [Ar (eInt .i64) 3 r_21 p2 c2 (List.length s1.1) s12.1, Ar (eInt .i64) 3 r_22 p3 c3 (List.length s1.2) s12.2.1, Al (eInt .i64) 3 r_12 p8 c8 s5, Rl e_Pair p1 c1 y0.2]) (
  jrg<|jpc 2 rfl<|jia 0 rfl rfl rfl<|fun x12 h8 b8 hp7=>jlA 1 0 sI false oI rfl hp7 h8 rfl<|jpc 2 rfl<|jsg 99 rfl (jla 0 2 rfl rfl rfl<|jpc 2 rfl<|jca .s [] [3] c_net_Attacked rfl rfl rfl ⟨ck 3,cl 3 2,⟨⟩⟩<|fun r2 _ k=>k<|jpe (vb r2)<|joe<|
  jnn (gv (fun _ k=>k) [0,1,2,3] ⟨gk 0,gk 1,gk 2,gk 3,⟨⟩⟩))<|jpc 4 rfl<|jpe (vb false)<|joe<|jnn (gv (fun _ k=>k) [0,1,2,3] ⟨gk 0,gk 1,gk 2,gk 3,⟨⟩⟩))<|fun s13 _ k=>k<|jif rfl (jrg<|jpc 5 rfl<|jia 0 rfl rfl rfl<|fun x13 h9 b9 hp8=>
  jsA .s 1 0 sI 2 false rfl hp8 h9 rfl rfl vI<|fun r_23=>jia 2 rfl rfl rfl<|fun x14 h10 b10 hp9=>jsA .s 2 2 sI s4.2.2 false rfl hp9 h10 rfl rfl vI<|fun r_24=>joe<|jbn<|jtn<|jrg<|jpc 3 rfl<|joe<|
  jln (gv (fun _ k=>k r_23 r_24) [0,1,2,3] ⟨gk 1,gk 0,gk 4,gk 5,⟨⟩⟩))<|jsk<|jbn<|jtn<|jrg<|jpc 3 rfl<|joe<|jln (gv (fun _ k=>k r_21 r_22) [0,1,2,3] ⟨gk 0,gk 1,gk 2,gk 3,⟨⟩⟩))<|jxe<|jte<|jle<|jbh<|jbn<|jtn<|jrg<|jpc 3 rfl<|joe<|
  jln (gv (fun _ k=>k r_21 r_22) [0,1,2] ⟨gk 0,gk 1,gk 3,⟨⟩⟩))<|jxe<|jte<|jle<|jbh<|jtn<|jsr<|jpc 4 rfl<|jot<|jxr<|jsh 1 0 rfl rfl<|jsh 2 2 rfl rfl<|jre 1 2 rfl rfl<|jre 1 3 rfl rfl<|
  jrg' rfl (lT rfl (lT rfl lN)) (fun _ k=>k p2 c2 p3 c3) [] ⟨gk 1,gk 0,⟨⟩⟩

theorem c_net_Members {y0 : Int} : Con Tryd.prog 21 [.int .u64 y0] [] [] (m_net_Members y0) fun r K=>∀ p1 c1,K (sv p1 r c1) [] [Rl (eInt .i64) p1 c1 r] :=
 ent3 Tryd.call21 Tryd.func21 rfl fun X=>jsr<|jpc 1 rfl<|jot<|jsr<|jpc 1 rfl<|jro (eInt .i64) 3<|jot<|jsq<|jsr<|jpc 1 rfl<|jot<|jbk<|
  jlp (fun s1 K=>∀ p1 c1 r_1,K [(0, .int .u64 y0), (3, sv p1 s1.1 c1), (4, vi s1.2)] [r_1] [Al (eInt .i64) 3 r_1 p1 c1 s1.1]) (gv (fun _ k=>k none 0 []) [0] ⟨gk 0,⟨⟩⟩)<|fun s1 _ k p1 c1 r_1=>k<|jsq<|jsr<|jpc 2 rfl<|jot<|jif rfl (jsk<|jtn<|
  jsq<|jbk<|jsr<|jpc 2 rfl<|jpe (.int .u64 (IntKind.u64.wrap (s1.2)))<|jbd fun x1 h1=>jv (fun h=>r_shrK h rfl rfl h1)<|jpc 2 rfl<|jot<|jif rfl (jrg<|jpc 2 rfl<|jbs .s (e := eInt .i64) 3 [vi s1.2] ([s1.2] : List Int) (rC vI rN)<|fun p2 c2=>
  jar .s 0 1 rfl (gk 0) rfl rfl<|fun x2 r_2 p3 c3=>jpc 1 rfl<|joe<|jbn<|jtn<|jrg<|jpc 3 rfl<|joe<|jln (gv (fun _ k=>k p3 c3 r_2) [0] ⟨gk 0,⟨⟩⟩))<|jsk<|jbn<|jtn<|jrg<|jpc 3 rfl<|joe<|jln (gv (fun _ k=>k p1 c1 r_1) [0] ⟨gk 0,⟨⟩⟩))<|jxe<|jte<|
  jle<|jbh<|jtn<|jsr<|jpc 2 rfl<|jot<|jxr<|jsh 0 0 rfl rfl<|jr1 rfl rfl (fun _ k=>k p1 c1) [] ⟨gk 0,⟨⟩⟩

theorem c_net_SomeAdmissible {y0 : T_Graph} {y1 : Int} {y2 : List Int} : Con Tryd.prog 24 [.agg #[vi y0.1, sv p1 y0.2 c1], vi y1, sv p2 y2 c2] [] [Rl e_Pair p1 c1 y0.2, Rl (eInt .i64) p2 c2 y2] (m_net_SomeAdmissible y0 y1 y2) fun r K=>K (vb r) [] [] :=
 ent3 Tryd.call24 Tryd.func24 rfl fun X=>jsr<|jbx .s rfl<|fun b1=>jpc 1 rfl<|jot<|jsq<|jsr<|jpc 1 rfl<|jot<|jbk<|
  jlp (fun s1 K=>K [(1, vi y1), (2, sv p2 y2 c2), (3, pt b1 0), (7, .int .u64 s1)] [bx b1 24 [vi y0.1, sv p1 y0.2 c1]] [Rl (eInt .i64) p2 c2 y2, Rl e_Pair p1 c1 y0.2]) (gv (fun _ k=>k) [0] ⟨gk 1,gk 0,⟨⟩⟩)<|fun s1 _ k=>k<|jsq<|jsr<|jpc 1 rfl<|
  jfa 0 rfl<|jlo 0 rfl rfl rfl<|jpe (.int .u64 (IntKind.u64.wrap (y0.1)))<|jbd fun x1 h1=>jv (fun h=>r_shlK h rfl rfl h1)<|jpc 1 rfl<|jot<|jif rfl (jsk<|jtn<|jsq<|jbk<|jsq<|jsr<|jpc 2 rfl<|jpe (.int .u64 (IntKind.u64.wrap (y1)))<|
  jbd fun x2 h2=>jv (fun h=>r_shrK h rfl rfl h2)<|jpc 2 rfl<|jot<|jif rfl (jxe<|jte<|jbh<|jtn<|jrg<|jpc 3 rfl<|joe<|jln (gv (fun _ k=>k) [0] ⟨gk 0,gk 1,⟨⟩⟩))<|jsk<|jtn<|jsr<|jpc 1 rfl<|jcl c_net_Members rfl ⟨⟩<|fun r1 _ k p3 c3=>k<|
  jpc 1 rfl<|jot<|jsr<|jpc 1 rfl<|jot<|
  jjn (fun s2 K=>K [(1, vi y1), (2, sv p2 y2 c2), (3, pt b1 0), (7, .int .u64 s1), (8, sv p3 r1 c3), (9, vb s2)] [bx b1 24 [vi y0.1, sv p1 y0.2 c1]] [Rl (eInt .i64) p2 c2 y2, Rl (eInt .i64) p3 c3 r1, Rl e_Pair p1 c1 y0.2]) (jsr<|jpc 1 rfl<|
  jot<|jbk<|
  jlp (fun s3 K=>K [(1, vi y1), (2, sv p2 y2 c2), (3, pt b1 0), (7, .int .u64 s1), (8, sv p3 r1 c3), (9, vb s3.1), (10, vi s3.2)] [bx b1 24 [vi y0.1, sv p1 y0.2 c1]] [Rl (eInt .i64) p2 c2 y2, Rl (eInt .i64) p3 c3 r1, Rl e_Pair p1 c1 y0.2]) (gv (fun _ k=>k) [0] ⟨gk 1,gk 0,gk 2,⟨⟩⟩)<|
  fun s3 _ k=>k<|jsq<|jsr<|jpc 4 rfl<|jot<|jif rfl (jsk<|jtn<|jsq<|jbk<|
  jjc (fun s4 K=>K [(1, vi y1), (2, sv p2 y2 c2), (3, pt b1 0), (7, .int .u64 s1), (8, sv p3 r1 c3), (9, vb s4), (10, vi s3.2)] [bx b1 24 [vi y0.1, sv p1 y0.2 c1]] [Rl (eInt .i64) p2 c2 y2, Rl (eInt .i64) p3 c3 r1, Rl e_Pair p1 c1 y0.2]) (
  jrg<|jpc 2 rfl<|jsg 34 rfl (jpc 6 rfl<|jpe (vb true)<|jpc 1 rfl<|joe<|jnn (gv (fun _ k=>k) [0] ⟨gk 0,gk 1,gk 2,⟨⟩⟩))<|jpc 3 rfl<|jix 1 rfl rfl rfl<|fun x3 b2 o1=>jld false oI (gk 0) rfl<|jcl c_net_In rfl ⟨ck 1,⟨⟩⟩<|fun r2 _ k=>k<|
  jpe (vb r2)<|jpc 1 rfl<|joe<|jnn (gv (fun _ k=>k) [0] ⟨gk 1,gk 2,gk 3,⟨⟩⟩))<|fun s4 _ k=>k<|jbn<|jtn<|jrg<|jpc 3 rfl<|joe<|jln (gv (fun _ k=>k) [0] ⟨gk 0,gk 1,gk 2,⟨⟩⟩))<|jxe<|jte<|jle<|jbh<|jnn (gv (fun _ k=>k) [0] ⟨gk 0,gk 1,gk 2,⟨⟩⟩))<|
  fun s2 _ k=>k<|jjn (fun s5 K=>K [(1, vi y1), (2, sv p2 y2 c2), (3, pt b1 0), (7, .int .u64 s1), (48, vb s5)] [bx b1 24 [vi y0.1, sv p1 y0.2 c1]] [Rl (eInt .i64) p2 c2 y2, Rl e_Pair p1 c1 y0.2]) (jrg<|jpc 3 rfl<|jsg 44 rfl (
  jla 0 2 rfl rfl rfl<|jpc 1 rfl<|jcl c_net_Admissible rfl ⟨ck 2,ck 1,⟨⟩⟩<|fun r3 _ k=>k<|jpe (vb r3)<|joe<|jnn (gv (fun _ k=>k) [0] ⟨gk 0,gk 2,⟨⟩⟩))<|jpc 3 rfl<|jpe (vb false)<|joe<|jnn (gv (fun _ k=>k) [0] ⟨gk 0,gk 2,⟨⟩⟩))<|fun s5 _ k=>k<|
  jif rfl (jsr<|jpc 1 rfl<|jot<|jxr<|jbr<|jtr<|jlr<|jbr<|jtr<|jr1 rfl rfl (fun _ k=>k) [] ⟨⟩)<|jsk<|jbn<|jtn<|jrg<|jpc 3 rfl<|joe<|jln (gv (fun _ k=>k) [0] ⟨gk 0,gk 1,⟨⟩⟩))<|jxe<|jte<|jle<|jbh<|jtn<|jsr<|jpc 1 rfl<|jot<|jxr<|
  jr1 rfl rfl (fun _ k=>k) [] ⟨⟩

theorem c_net_Stable {y0 : T_Graph} {y1 : List Int} : Con Tryd.prog 74 [.agg #[vi y0.1, sv p1 y0.2 c1], sv p2 y1 c2] [] [Rl e_Pair p1 c1 y0.2, Rl (eInt .i64) p2 c2 y1] (m_net_Stable y0 y1) fun r K=>K (vb r) [] [] :=
 ent3 Tryd.call74 Tryd.func74 rfl fun X=>jsr<|jbx .s rfl<|fun b1=>jpc 1 rfl<|jot<|jjo (fun s1 K=>K [(1, sv p2 y1 c2), (2, pt b1 0)] [bx b1 24 [vi y0.1, sv p1 y0.2 c1]] [Rl (eInt .i64) p2 c2 y1, Rl e_Pair p1 c1 y0.2]) (jsr<|jpc 1 rfl<|jot<|jbk<|
  jlp (fun s2 K=>K [(1, sv p2 y1 c2), (2, pt b1 0), (5, vi s2)] [bx b1 24 [vi y0.1, sv p1 y0.2 c1]] [Rl (eInt .i64) p2 c2 y1, Rl e_Pair p1 c1 y0.2]) (gv (fun _ k=>k) [0] ⟨gk 1,gk 0,⟨⟩⟩)<|fun s2 _ k=>k<|jsq<|jsr<|jpc 1 rfl<|jfa 0 rfl<|
  jlo 0 rfl rfl rfl<|jpc 1 rfl<|jot<|jif rfl (jsk<|jtn<|jsq<|jbk<|jjn (fun s3 K=>K [(1, sv p2 y1 c2), (2, pt b1 0), (5, vi s2), (22, vb s3)] [bx b1 24 [vi y0.1, sv p1 y0.2 c1]] [Rl (eInt .i64) p2 c2 y1, Rl e_Pair p1 c1 y0.2]) (jrg<|
  jpc 2 rfl<|jcl c_net_In rfl ⟨ck 0,⟨⟩⟩<|fun r1 _ k=>k<|jpc 2 rfl<|jsg 16 rfl (jla 0 2 rfl rfl rfl<|jpc 2 rfl<|jcl c_net_Attacked rfl ⟨ck 1,ck 0,⟨⟩⟩<|fun r2 _ k=>k<|jpc 1 rfl<|jpe (vb (!r2))<|joe<|jnn (gv (fun _ k=>k) [0] ⟨gk 0,gk 1,⟨⟩⟩))<|
  jpc 5 rfl<|jpe (vb false)<|joe<|jnn (gv (fun _ k=>k) [0] ⟨gk 0,gk 1,⟨⟩⟩))<|fun s3 _ k=>k<|jif rfl (jsr<|jpc 1 rfl<|jot<|jxr<|jbr<|jtr<|jlr<|jbr<|jlr<|jr1 rfl rfl (fun _ k=>k) [] ⟨⟩)<|jsk<|jbn<|jtn<|jrg<|jpc 3 rfl<|joe<|
  jln (gv (fun _ k=>k) [0] ⟨gk 0,gk 1,⟨⟩⟩))<|jxe<|jte<|jle<|jbh<|jln (gv (fun _ k=>k) [0] ⟨gk 0,gk 1,⟨⟩⟩))<|fun s1 _ k=>k<|jsr<|jla 0 2 rfl rfl rfl<|jpc 1 rfl<|jcl c_net_Free rfl ⟨ck 1,ck 0,⟨⟩⟩<|fun r3 _ k=>k<|jpc 1 rfl<|jot<|jxr<|
  jr1 rfl rfl (fun _ k=>k) [] ⟨⟩

theorem c_net_Without {y0 : T_Graph} {y1 : List Int} : Con Tryd.prog 72 [.agg #[vi y0.1, sv p1 y0.2 c1], sv p2 y1 c2] [] [Rl e_Pair p1 c1 y0.2, Rl (eInt .i64) p2 c2 y1] (m_net_Without y0 y1) fun r K=>∀ p3 c3,K (.agg #[vi r.1, sv p3 r.2 c3]) [] [Rl e_Pair p3 c3 r.2] :=
 ent3 Tryd.call72 Tryd.func72 rfl fun X=>jsr<|jbx .s rfl<|fun b1=>jal .s (.agg #[vi 0, .slice none 0 0])<|fun b2=>jot<|jsr<|jfa 0 rfl<|jlo 0 rfl rfl rfl<|jpe (.agg #[vi y0.1, .slice none 0 0])<|jro e_Pair 50<|jal .s (.agg #[vi 0, .slice none 0 0])<|fun b3=>jso .s 3 rfl rfl rfl<|
  jot<|jjn (fun s1 K=>∀ p3 c3 r_1,K [(4, pt b2 0), (5, pt b3 0)] [[], bx b2 24 [vi 0, .slice none 0 0], r_1, bx b3 24 [vi y0.1, sv p3 s1 c3]] [Al e_Pair 50 r_1 p3 c3 s1]) (jsr<|jpc 1 rfl<|jot<|jbk<|
  jlp (fun s2 K=>∀ p4 c4 r_2,K [(1, sv p2 y1 c2), (2, pt b1 0), (4, pt b2 0), (5, pt b3 0), (6, vi s2.1)] [bx b1 24 [vi y0.1, sv p1 y0.2 c1], bx b2 24 [vi 0, .slice none 0 0], r_2, bx b3 24 [vi y0.1, sv p4 s2.2 c4]] [Al e_Pair 50 r_2 p4 c4 s2.2, Rl (eInt .i64) p2 c2 y1, Rl e_Pair p1 c1 y0.2]) (gv (fun _ k=>k none 0 []) [0,1,2,3] ⟨gk 0,gk 2,gk 1,⟨⟩⟩)<|
  fun s2 _ k p4 c4 r_2=>k<|jsq<|jsr<|jpc 1 rfl<|jfa 1 rfl<|jlo 0 rfl rfl rfl<|jpc 2 rfl<|jot<|jif rfl (jsk<|jtn<|jsq<|jbk<|
  jjn (fun s3 K=>K [(1, sv p2 y1 c2), (2, pt b1 0), (4, pt b2 0), (5, pt b3 0), (6, vi s2.1), (36, vb s3)] [bx b1 24 [vi y0.1, sv p1 y0.2 c1], bx b2 24 [vi 0, .slice none 0 0], r_2, bx b3 24 [vi y0.1, sv p4 s2.2 c4]] [Rl (eInt .i64) p2 c2 y1, Rl e_Pair p1 c1 y0.2, Al e_Pair 50 r_2 p4 c4 s2.2]) (
  jrg<|jpc 1 rfl<|jfa 1 rfl<|jlo 0 rfl rfl rfl<|jpc 1 rfl<|jix 2 rfl rfl rfl<|fun x1 b4 o1=>jfa 0 rfl<|jld false oI (gf (gk 0)) rfl<|jcl c_net_In rfl ⟨ck 2,⟨⟩⟩<|fun r1 _ k=>k<|jpc 2 rfl<|jsg 26 rfl (jpc 1 rfl<|jfa 1 rfl<|jlo 0 rfl rfl rfl<|
  jpc 1 rfl<|jix 3 rfl rfl rfl<|fun x2 b5 o2=>jfa 1 rfl<|jld false oI (gs (gk 0)) rfl<|jcl c_net_In rfl ⟨ck 3,⟨⟩⟩<|fun r2 _ k=>k<|jpc 1 rfl<|jpe (vb (!r2))<|joe<|jnn (gv (fun _ k=>k) [0,1,2,3] ⟨gk 3,gk 4,gk 2,⟨⟩⟩))<|jpc 9 rfl<|
  jpe (vb false)<|joe<|jnn (gv (fun _ k=>k) [0,1,2,3] ⟨gk 2,gk 3,gk 1,⟨⟩⟩))<|fun s3 _ k=>k<|jif rfl (jdS [10] [0, 3] 11<|jdf 0 1 rfl rfl<|jdo 1 3 rfl rfl rfl rfl<|jdf 2 1 rfl rfl<|jdo 3 0 rfl rfl rfl rfl<|jdc 6 [4] rfl<|
  jdi 5 1 rfl rfl rfl rfl<|fun x3 b6 o3=>jdl 6 true o_Pair rfl (gk 0) rfl<|jd1 7<|jbs (.f rfl) (e := e_Pair) 50 [vi x3.1, vi x3.2] ([x3] : List T_Pair) (rC (vP vI vI) rN)<|fun p5 c5=>jdn<|jd1 8<|jar (.f rfl) 2 4 rfl (gk 0) rfl rfl<|
  fun x4 r_3 p6 c6=>jdn<|jdf 9 1 rfl rfl<|jd1 10<|jso (o := 1) (.f rfl) 3 rfl rfl rfl<|jdb [] [0, 3]<|jde<|jbn<|jtn<|jrg<|jpc 3 rfl<|joe<|jln (gv (fun _ k=>k p6 c6 r_3) [0,1,2,3] ⟨gk 0,gk 3,gk 4,⟨⟩⟩))<|jsk<|jbn<|jtn<|jrg<|jpc 3 rfl<|joe<|
  jln (gv (fun _ k=>k p4 c4 r_2) [0,1,2,3] ⟨gk 2,gk 0,gk 1,⟨⟩⟩))<|jxe<|jte<|jle<|jbh<|jnn (gv (fun _ k=>k p4 c4 r_2) [900,1,2,3] ⟨gk 0,⟨⟩⟩))<|fun s1 _ k p3 c3 r_1=>k<|jsr<|jla 3 2 rfl rfl rfl<|jso .s 1 rfl rfl rfl<|jot<|jxr<|jsh 2 0 rfl rfl<|
  jrg' rfl (lC 1 (.agg #[vi y0.1, sv p3 s1 c3]) rfl rfl lN) (fun _ k=>k p3 c3) [] ⟨gk 0,⟨⟩⟩

theorem c_ref23_Accepted {y0 : T_Graph} {y1 : List Int} {y2 : Int} {y3 : Int} : Con Tryd.prog 52 [.agg #[vi y0.1, sv p1 y0.2 c1], sv p2 y1 c2, vi y2, vi y3] [] [Rl e_Pair p1 c1 y0.2, Rl (eInt .i64) p2 c2 y1] (m_ref23_Accepted y0 y1 y2 y3) fun r K=>K (vb r) [] [] :=
 ent3 Tryd.call52 Tryd.func52 rfl fun X=>jsr<|jbx .s rfl<|fun b1=>jpc 1 rfl<|jot<|jsr<|jla 0 2 rfl rfl rfl<|jpc 1 rfl<|jcl c_net_Without rfl ⟨ck 0,ck 1,⟨⟩⟩<|fun r1 _ k p3 c3=>k<|jal .s (.agg #[vi 0, .slice none 0 0])<|fun b2=>jso .s 1 rfl rfl rfl<|jot<|jsq<|jsr<|jpc 2 rfl<|
  jcl c_net_In rfl ⟨ck 2,⟨⟩⟩<|fun r2 _ k=>k<|jot<|jif rfl (jsr<|jpc 1 rfl<|jot<|jxr<|jtr<|jr1 rfl rfl (fun _ k=>k) [] ⟨⟩)<|jsk<|jtn<|jsr<|jla 1 2 rfl rfl rfl<|jcl c_net_Grounded rfl ⟨ck 0,⟨⟩⟩<|fun r3 _ k p4 c4 p5 c5=>k<|jpc 5 rfl<|jot<|jsq<|
  jsr<|jpc 1 rfl<|jot<|jbk<|jsr<|jpc 2 rfl<|jot<|jif rfl (jsr<|jpc 2 rfl<|jix 0 rfl rfl rfl<|fun x1 b3 o1=>jld false oI (gk 0) rfl<|jpc 2 rfl<|jot<|jxr<|jbr<|jtr<|jr1 rfl rfl (fun _ k=>k) [] ⟨⟩)<|jsr<|jpc 2 rfl<|jot<|jif rfl (jsr<|
  jla 1 2 rfl rfl rfl<|jpc 2 rfl<|jcl c_net_SomeAdmissible rfl ⟨ck 2,ck 4,⟨⟩⟩<|fun r4 _ k=>k<|jpc 1 rfl<|jot<|jxr<|jbr<|jtr<|jr1 rfl rfl (fun _ k=>k) [] ⟨⟩)<|jsk<|jbn<|jtn<|jsr<|jpc 2 rfl<|jot<|
  jjn (fun s1 K=>K [(3, vi y3), (12, vb s1.1), (13, vb s1.2)] [[], []] []) (jsr<|jpc 1 rfl<|jot<|jbk<|
  jlp (fun s2 K=>K [(2, vi y2), (3, vi y3), (4, pt b1 0), (9, pt b2 0), (12, vb s2.1), (13, vb s2.2.1), (14, .int .u64 s2.2.2)] [bx b1 24 [vi y0.1, sv p1 y0.2 c1], bx b2 24 [vi r1.1, sv p3 r1.2 c3]] [Rl e_Pair p1 c1 y0.2, Rl e_Pair p3 c3 r1.2]) (gv (fun _ k=>k) [0,1] ⟨gk 3,gk 2,⟨⟩⟩)<|
  fun s2 _ k=>k<|jsq<|jsr<|jpc 1 rfl<|jfa 0 rfl<|jlo 0 rfl rfl rfl<|jpe (.int .u64 (IntKind.u64.wrap (y0.1)))<|jbd fun x2 h1=>jv (fun h=>r_shlK h rfl rfl h1)<|jpc 1 rfl<|jot<|jif rfl (jsk<|jtn<|jsq<|jbk<|jsr<|jpc 1 rfl<|
  jcl c_net_Members rfl ⟨⟩<|fun r5 _ k p6 c6=>k<|jpc 1 rfl<|jot<|jsq<|jsr<|jla 1 2 rfl rfl rfl<|jpc 1 rfl<|jcl c_net_Stable rfl ⟨ck 2,ck 0,⟨⟩⟩<|fun r6 _ k=>k<|jpc 1 rfl<|jot<|jif rfl (jxe<|jte<|jbh<|jtn<|jrg<|jpc 3 rfl<|joe<|
  jln (gv (fun _ k=>k) [0,1] ⟨gk 1,gk 2,⟨⟩⟩))<|jsk<|jtn<|jsr<|jpc 2 rfl<|jcl c_net_In rfl ⟨ck 0,⟨⟩⟩<|fun r7 _ k=>k<|jot<|jif rfl (jrg<|jpc 1 rfl<|joe<|jbn<|jtn<|jrg<|jpc 3 rfl<|joe<|jln (gv (fun _ k=>k) [0,1] ⟨gk 1,gk 2,⟨⟩⟩))<|jrg<|
  jpc 1 rfl<|joe<|jbn<|jtn<|jrg<|jpc 3 rfl<|joe<|jln (gv (fun _ k=>k) [0,1] ⟨gk 1,gk 2,⟨⟩⟩))<|jxe<|jte<|jle<|jbh<|jnn (gv (fun _ k=>k) [900,901] ⟨⟩))<|fun s1 _ k=>k<|jsq<|jsr<|jpc 2 rfl<|jot<|jif rfl (jsr<|jpc 2 rfl<|jot<|jxr<|jtr<|
  jr1 rfl rfl (fun _ k=>k) [] ⟨⟩)<|jsk<|jtn<|jsr<|jpc 2 rfl<|jot<|jxr<|jr1 rfl rfl (fun _ k=>k) [] ⟨⟩

theorem c_ref24_Without {y0 : T_Graph} {y1 : List Int} {y2 : Int} {y3 : Int} : Con Tryd.prog 17 [.agg #[vi y0.1, sv p1 y0.2 c1], sv p2 y1 c2, vi y2, vi y3] [] [Rl e_Pair p1 c1 y0.2, Rl (eInt .i64) p2 c2 y1] (m_ref24_Without y0 y1 y2 y3) fun r K=>K (vb r) [] [] :=
 ent3 Tryd.call17 Tryd.func17 rfl fun X=>jsr<|jbx .s rfl<|fun b1=>jpc 1 rfl<|jot<|jsr<|jal .s (.agg #[vi 0, .slice none 0 0])<|fun b2=>jro e_Pair 50<|jot<|jsr<|jfa 0 rfl<|jlo 0 rfl rfl rfl<|jfa 0 rfl<|jso .s 1 rfl rfl rfl<|jot<|
  jjn (fun s1 K=>∀ p3 c3 r_1,K [(1, sv p2 y1 c2), (2, vi y2), (3, vi y3), (9, pt b2 0)] [[], bx b2 24 [vi y0.1, sv p3 s1 c3], r_1] [Al e_Pair 50 r_1 p3 c3 s1, Rl (eInt .i64) p2 c2 y1]) (jsr<|jpc 1 rfl<|jot<|jbk<|
  jlp (fun s2 K=>∀ p4 c4 r_2,K [(1, sv p2 y1 c2), (2, vi y2), (3, vi y3), (4, pt b1 0), (9, pt b2 0), (10, vi s2.1)] [bx b1 24 [vi y0.1, sv p1 y0.2 c1], bx b2 24 [vi y0.1, sv p4 s2.2 c4], r_2] [Al e_Pair 50 r_2 p4 c4 s2.2, Rl (eInt .i64) p2 c2 y1, Rl e_Pair p1 c1 y0.2]) (gv (fun _ k=>k none 0 []) [0,1,2] ⟨gk 0,gk 2,gk 1,⟨⟩⟩)<|
  fun s2 _ k p4 c4 r_2=>k<|jsq<|jsr<|jpc 1 rfl<|jfa 1 rfl<|jlo 0 rfl rfl rfl<|jpc 2 rfl<|jot<|jif rfl (jsk<|jtn<|jsq<|jbk<|
  jjn (fun s3 K=>K [(1, sv p2 y1 c2), (2, vi y2), (3, vi y3), (4, pt b1 0), (9, pt b2 0), (10, vi s2.1), (40, vb s3)] [bx b1 24 [vi y0.1, sv p1 y0.2 c1], bx b2 24 [vi y0.1, sv p4 s2.2 c4], r_2] [Rl (eInt .i64) p2 c2 y1, Rl e_Pair p1 c1 y0.2, Al e_Pair 50 r_2 p4 c4 s2.2]) (
  jrg<|jpc 1 rfl<|jfa 1 rfl<|jlo 0 rfl rfl rfl<|jpc 1 rfl<|jix 2 rfl rfl rfl<|fun x1 b3 o1=>jfa 0 rfl<|jld false oI (gf (gk 0)) rfl<|jcl c_net_In rfl ⟨ck 2,⟨⟩⟩<|fun r1 _ k=>k<|jpc 2 rfl<|jsg 30 rfl (jpc 1 rfl<|jfa 1 rfl<|jlo 0 rfl rfl rfl<|
  jpc 1 rfl<|jix 3 rfl rfl rfl<|fun x2 b4 o2=>jfa 1 rfl<|jld false oI (gs (gk 0)) rfl<|jcl c_net_In rfl ⟨ck 3,⟨⟩⟩<|fun r2 _ k=>k<|jpc 1 rfl<|jpe (vb (!r2))<|joe<|jnn (gv (fun _ k=>k) [0,1,2] ⟨gk 3,gk 4,gk 2,⟨⟩⟩))<|jpc 9 rfl<|jpe (vb false)<|
  joe<|jnn (gv (fun _ k=>k) [0,1,2] ⟨gk 2,gk 3,gk 1,⟨⟩⟩))<|fun s3 _ k=>k<|jif rfl (jdS [10] [0, 1] 11<|jdf 0 1 rfl rfl<|jdo 1 1 rfl rfl rfl rfl<|jdf 2 1 rfl rfl<|jdo 3 0 rfl rfl rfl rfl<|jdc 6 [4] rfl<|jdi 5 1 rfl rfl rfl rfl<|fun x3 b5 o3=>
  jdl 6 true o_Pair rfl (gk 0) rfl<|jd1 7<|jbs (.f rfl) (e := e_Pair) 50 [vi x3.1, vi x3.2] ([x3] : List T_Pair) (rC (vP vI vI) rN)<|fun p5 c5=>jdn<|jd1 8<|jar (.f rfl) 2 4 rfl (gk 0) rfl rfl<|fun x4 r_3 p6 c6=>jdn<|jdf 9 1 rfl rfl<|jd1 10<|
  jso (o := 1) (.f rfl) 1 rfl rfl rfl<|jdb [] [0, 1]<|jde<|jbn<|jtn<|jrg<|jpc 3 rfl<|joe<|jln (gv (fun _ k=>k p6 c6 r_3) [0,1,2] ⟨gk 0,gk 3,gk 4,⟨⟩⟩))<|jsk<|jbn<|jtn<|jrg<|jpc 3 rfl<|joe<|
  jln (gv (fun _ k=>k p4 c4 r_2) [0,1,2] ⟨gk 2,gk 0,gk 1,⟨⟩⟩))<|jxe<|jte<|jle<|jbh<|jnn (gv (fun _ k=>k p4 c4 r_2) [900,1,2] ⟨gk 0,gk 1,⟨⟩⟩))<|fun s1 _ k p3 c3 r_1=>k<|jsr<|jla 1 2 rfl rfl rfl<|jpc 3 rfl<|
  jca .s [] [2] c_ref23_Accepted rfl rfl rfl ⟨cl 2 0,ck 1,⟨⟩⟩<|fun r3 _ k=>k<|jpc 1 rfl<|jot<|jxr<|jr1 rfl rfl (fun _ k=>k) [] ⟨⟩

theorem c_ref24_Removals {y0 : T_Graph} {y1 : Int} {y2 : Int} : Con Tryd.prog 13 [.agg #[vi y0.1, sv p1 y0.2 c1], vi y1, vi y2] [] [Rl e_Pair p1 c1 y0.2] (m_ref24_Removals y0 y1 y2) fun r K=>∀ p2 c2,K (.tuple #[sv p2 r.1 c2, vi r.2]) [] [Rl (eSlice (eInt .i64)) p2 c2 r.1] :=
 ent3 Tryd.call13 Tryd.func13 rfl fun X=>jsr<|jbx .s rfl<|fun b1=>jpc 2 rfl<|jot<|jsq<|jsr<|jla 0 2 rfl rfl rfl<|jcl c_ref10_Validate rfl ⟨ck 0,⟨⟩⟩<|fun r1 _ k=>k<|jpc 1 rfl<|jot<|jsr<|jpc 2 rfl<|jot<|jif rfl (jsr<|jpc 3 rfl<|jot<|jxr<|jtr<|
  jrg' rfl (lT rfl (lT rfl lN)) (fun _ k=>k none 0) [] ⟨gn,⟨⟩⟩)<|jsk<|jtn<|jsq<|
  jjp (fun K=>K [(1, vi y1), (2, vi y2), (3, pt b1 0), (24, vb ((decide (y1 < 1)) || (decide (4 < y1))))] [bx b1 24 [vi y0.1, sv p1 y0.2 c1]] [Rl e_Pair p1 c1 y0.2]) (jrg<|jpc 3 rfl<|jsp (b := decide (y1 < 1)) 21 rfl (fun hb1=>jpc 2 rfl<|
  jpe (vb true)<|joe<|jup 24 (vb ((decide (y1 < 1)) || (decide (4 < y1)))) rfl (by rw [hb1]; rfl)<|jnn (gv (fun _ k=>k) [0] ⟨gk 0,⟨⟩⟩))<|fun hb1=>jpc 2 rfl<|jpe (vb (decide (4 < y1)))<|joe<|
  jup 24 (vb ((decide (y1 < 1)) || (decide (4 < y1)))) rfl (by rw [hb1]; rfl)<|jnn (gv (fun _ k=>k) [0] ⟨gk 0,⟨⟩⟩))<|fun _ k=>k<|jif rfl (jsr<|jpc 2 rfl<|jot<|jxr<|jtr<|jrg' rfl (lT rfl (lT rfl lN)) (fun _ k=>k none 0) [] ⟨gn,⟨⟩⟩)<|jsk<|jtn<|
  jsq<|jjp (fun K=>K [(1, vi y1), (2, vi y2), (3, pt b1 0), (32, vb ((decide (y2 < 0)) || (decide (y0.1 ≤ y2))))] [bx b1 24 [vi y0.1, sv p1 y0.2 c1]] [Rl e_Pair p1 c1 y0.2]) (jrg<|jpc 3 rfl<|jsp (b := decide (y2 < 0)) 27 rfl (fun hb2=>
  jpc 4 rfl<|jpe (vb true)<|joe<|jup 32 (vb ((decide (y2 < 0)) || (decide (y0.1 ≤ y2)))) rfl (by rw [hb2]; rfl)<|jnn (gv (fun _ k=>k) [0] ⟨gk 0,⟨⟩⟩))<|fun hb2=>jpc 1 rfl<|jfa 0 rfl<|jlo 0 rfl rfl rfl<|jpc 1 rfl<|
  jpe (vb (decide (y0.1 ≤ y2)))<|joe<|jup 32 (vb ((decide (y2 < 0)) || (decide (y0.1 ≤ y2)))) rfl (by rw [hb2]; rfl)<|jnn (gv (fun _ k=>k) [0] ⟨gk 0,⟨⟩⟩))<|fun _ k=>k<|jif rfl (jsr<|jpc 2 rfl<|jot<|jxr<|jtr<|
  jrg' rfl (lT rfl (lT rfl lN)) (fun _ k=>k none 0) [] ⟨gn,⟨⟩⟩)<|jsk<|jtn<|jsq<|jsr<|jfa 0 rfl<|jlo 0 rfl rfl rfl<|jpc 1 rfl<|jot<|jif rfl (jsr<|jpc 2 rfl<|jot<|jxr<|jtr<|jrg' rfl (lT rfl (lT rfl lN)) (fun _ k=>k none 0) [] ⟨gn,⟨⟩⟩)<|jsk<|
  jtn<|jsr<|jla 0 2 rfl rfl rfl<|jpc 2 rfl<|jcl c_ref24_Without rfl ⟨ck 0,cn,⟨⟩⟩<|fun r2 _ k=>k<|jpc 1 rfl<|jot<|jsq<|jsr<|jpc 1 rfl<|jot<|jbk<|
  jlp (fun s1 K=>K [(1, vi y1), (2, vi y2), (3, pt b1 0), (9, vb r2), (10, vi s1)] [bx b1 24 [vi y0.1, sv p1 y0.2 c1]] [Rl e_Pair p1 c1 y0.2]) (gv (fun _ k=>k) [0] ⟨gk 0,⟨⟩⟩)<|fun s1 _ k=>k<|jsq<|jsr<|jpc 1 rfl<|jfa 0 rfl<|jlo 0 rfl rfl rfl<|
  jpc 1 rfl<|jot<|jif rfl (jsk<|jtn<|jsq<|jbk<|jsr<|jpc 1 rfl<|jro (eSlice (eInt .i64)) 25<|jot<|
  jjn (fun s2 K=>∀ p2 c2 r_1,K [(1, vi y1), (2, vi y2), (3, pt b1 0), (9, vb r2), (10, vi s1), (11, sv p2 s2 c2)] [bx b1 24 [vi y0.1, sv p1 y0.2 c1], r_1] [Al (eSlice (eInt .i64)) 25 r_1 p2 c2 s2, Rl e_Pair p1 c1 y0.2]) (jsr<|jfa 0 rfl<|
  jlo 0 rfl rfl rfl<|jpc 1 rfl<|jcl c_ref24_subsets rfl ⟨⟩<|fun r3 _ k p3 c3=>k<|jpc 2 rfl<|jot<|jbk<|
  jlp (fun s3 K=>∀ p4 c4 r_2,K [(1, vi y1), (2, vi y2), (3, pt b1 0), (9, vb r2), (10, vi s1), (11, sv p4 s3.1 c4), (49, sv p3 r3 c3), (50, vi (len r3)), (51, vi s3.2)] [bx b1 24 [vi y0.1, sv p1 y0.2 c1], r_2] [Al (eSlice (eInt .i64)) 25 r_2 p4 c4 s3.1, Rl (eSlice (eInt .i64)) p3 c3 r3, Rl e_Pair p1 c1 y0.2]) (gv (fun _ k=>k none 0 []) [0,1] ⟨gk 1,gk 0,gk 2,⟨⟩⟩)<|
  fun s3 _ k p4 c4 r_2=>k<|jsr<|jpc 1 rfl<|jot<|jsq<|jif rfl (jsk<|jtn<|jsq<|jbk<|jsr<|jix 1 rfl rfl rfl<|fun x1 b2 o1=>jld false oL (gk 0) rfl<|fun p5 c5=>jpc 1 rfl<|jot<|
  jjn (fun s4 K=>K [(1, vi y1), (2, vi y2), (3, pt b1 0), (9, vb r2), (10, vi s1), (11, sv p4 s3.1 c4), (13, sv p5 x1 c5), (49, sv p3 r3 c3), (50, vi (len r3)), (51, vi s3.2), (67, vb s4)] [bx b1 24 [vi y0.1, sv p1 y0.2 c1], r_2] [Al (eSlice (eInt .i64)) 25 r_2 p4 c4 s3.1, Rl (eSlice (eInt .i64)) p3 c3 r3, Rl (eInt .i64) p5 c5 x1, Rl e_Pair p1 c1 y0.2]) (
  jrg<|jpc 2 rfl<|jcl c_net_In rfl ⟨ck 0,⟨⟩⟩<|fun r4 _ k=>k<|jpc 2 rfl<|jsg 59 rfl (jla 0 2 rfl rfl rfl<|jpc 3 rfl<|jcl c_ref24_Without rfl ⟨ck 4,ck 0,⟨⟩⟩<|fun r5 _ k=>k<|jpc 1 rfl<|jpe (vb (!(r5 == r2)))<|jpe (vb (!(r5 == r2)))<|joe<|
  jnn (gv (fun _ k=>k) [0,1] ⟨gk 2,gk 3,gk 0,gk 4,⟨⟩⟩))<|jpc 7 rfl<|jpe (vb false)<|joe<|jnn (gv (fun _ k=>k) [0,1] ⟨gk 2,gk 3,gk 0,gk 4,⟨⟩⟩))<|fun s4 _ k=>k<|jif rfl (jrg<|jpc 2 rfl<|
  jbs .s (e := eSlice (eInt .i64)) 25 [sv p5 x1 c5] ([x1] : List (List Int)) (rC (vL (gk 2)) rN)<|fun p6 c6=>jar .s 1 1 rfl (gk 0) rfl rfl<|fun x2 r_3 p7 c7=>jpc 1 rfl<|joe<|jbn<|jtn<|jrg<|jpc 2 rfl<|joe<|
  jln (gv (fun _ k=>k p7 c7 r_3) [0,1] ⟨gk 0,gk 3,gk 5,⟨⟩⟩))<|jsk<|jbn<|jtn<|jrg<|jpc 2 rfl<|joe<|jln (gv (fun _ k=>k p4 c4 r_2) [0,1] ⟨gk 0,gk 1,gk 3,⟨⟩⟩))<|jxe<|jte<|jle<|jbh<|jnn (gv (fun _ k=>k p4 c4 r_2) [0,1] ⟨gk 0,gk 2,⟨⟩⟩))<|
  fun s2 _ k p2 c2 r_1=>k<|jsr<|jpc 3 rfl<|jot<|jif rfl (jsr<|jpc 3 rfl<|jot<|jxr<|jbr<|jtr<|jlr<|jbr<|jtr<|jsh 1 0 rfl rfl<|jrg' rfl (lT rfl (lT rfl lN)) (fun _ k=>k p2 c2) [] ⟨gk 0,⟨⟩⟩)<|jsk<|jbn<|jtn<|jrg<|jpc 3 rfl<|joe<|
  jln (gv (fun _ k=>k) [0] ⟨gk 1,⟨⟩⟩))<|jxe<|jte<|jle<|jbh<|jtn<|jsr<|jpc 2 rfl<|jot<|jxr<|jrg' rfl (lT rfl (lT rfl lN)) (fun _ k=>k none 0) [] ⟨gn,⟨⟩⟩

theorem c_law24_ExplainAnswers {y0 : T_Graph} {y1 : List Int} {y2 : Int} {y3 : Int} : Con Tryd.prog 3 [.agg #[vi y0.1, sv p1 y0.2 c1], sv p2 y1 c2, vi y2, vi y3] [] [Rl e_Pair p1 c1 y0.2, Rl (eInt .i64) p2 c2 y1, Pt (eArr 64 (eInt .u8)) 0 0 tab_math_bits_deBruijn64tab] (m_law24_ExplainAnswers y0 y1 y2 y3) fun r K=>K (vb r) [] [] :=
 ent3 Tryd.call3 Tryd.func3 rfl fun X=>jsr<|jbx .s rfl<|fun b1=>jpc 1 rfl<|jot<|jsq<|
  jjn (fun s1 K=>K [(1, sv p2 y1 c2), (2, vi y2), (3, vi y3), (4, pt b1 0), (35, vb s1)] [bx b1 24 [vi y0.1, sv p1 y0.2 c1]] [Rl (eInt .i64) p2 c2 y1, Rl e_Pair p1 c1 y0.2, Pt (eArr 64 (eInt .u8)) 0 0 tab_math_bits_deBruijn64tab]) (jrg<|
  jla 0 2 rfl rfl rfl<|jcl c_net_Light rfl ⟨ck 0,⟨⟩⟩<|fun r1 _ k=>k<|jpc 2 rfl<|jsg 26 rfl (jpc 8 rfl<|jpe (vb true)<|joe<|jnn (gv (fun _ k=>k) [0] ⟨gk 1,gk 0,gk 2,⟨⟩⟩))<|jfa 0 rfl<|jlo 0 rfl rfl rfl<|jpc 2 rfl<|jsg 30 rfl (jfa 0 rfl<|
  jlo 0 rfl rfl rfl<|jpc 1 rfl<|jpe (vb (decide (y0.1 ≤ 10)))<|jpe (vb (decide (y0.1 ≤ 10)))<|joe<|jnn (gv (fun _ k=>k) [0] ⟨gk 1,gk 0,gk 2,⟨⟩⟩))<|jpc 3 rfl<|jpe (vb false)<|jpe (vb false)<|joe<|jnn (gv (fun _ k=>k) [0] ⟨gk 1,gk 0,gk 2,⟨⟩⟩)
  )<|fun s1 _ k=>k<|jif rfl (jsr<|jcl c_law24_awake rfl ⟨ck 2,⟨⟩⟩<|fun r2 _ k=>k<|jpc 1 rfl<|jot<|jxr<|jtr<|jr1 rfl rfl (fun _ k=>k) [] ⟨⟩)<|jsk<|jtn<|jsr<|jpc 1 rfl<|jcl c_keep_New rfl ⟨ck 0,⟨⟩⟩<|fun r3 _ k b2 p3 c3=>k<|jpc 1 rfl<|jot<|jsr<|
  jpc 1 rfl<|jca .s [1] [] c_net_Graph rfl rfl rfl ⟨ck 0,⟨⟩⟩<|fun r4 _ k p4 c4=>k<|jal .s (.agg #[vi 0, .slice none 0 0])<|fun b3=>jso .s 2 rfl rfl rfl<|jot<|jsr<|jpc 1 rfl<|jfa 0 rfl<|jlo 2 rfl rfl rfl<|
  jca .s [1] [] c_keep_Src_N rfl rfl rfl ⟨ck 1,⟨⟩⟩<|fun r5 _ k=>k<|jpc 1 rfl<|jca .s [1] [] c_keep_Src_Range rfl rfl rfl ⟨ck 1,⟨⟩⟩<|fun r6 _ k=>k<|jpc 2 rfl<|jot<|
  jjo (fun s2 K=>K [] [[], [], []] [Pt (eArr 64 (eInt .u8)) 0 0 tab_math_bits_deBruijn64tab]) (jsr<|jla 0 2 rfl rfl rfl<|jpc 2 rfl<|jpe (.agg #[vi y0.1, sv p1 y0.2 c1, vi y2, vi y3])<|jla 2 2 rfl rfl rfl<|jpc 2 rfl<|
  jpe (.agg #[vi r4.1.1, sv p4 r4.1.2 c4, vi r6.1, vi r5.1])<|jla 2 2 rfl rfl rfl<|jpc 2 rfl<|jpe (.agg #[vi r4.1.1, sv p4 r4.1.2 c4, vi y2, vi r5.1])<|jla 2 2 rfl rfl rfl<|jpc 2 rfl<|jpe (.agg #[vi r4.1.1, sv p4 r4.1.2 c4, vi r6.1, vi y3])<|
  jla 0 2 rfl rfl rfl<|jpc 1 rfl<|jpe (.agg #[vi y0.1, sv p1 y0.2 c1, vi r6.1, vi 0])<|
  jbs .s (e := eProd e_Graph (eProd (eInt .i64) (eInt .i64))) 33 [vi y0.1, sv p1 y0.2 c1, vi y2, vi y3, vi r4.1.1, sv p4 r4.1.2 c4, vi r6.1, vi r5.1, vi r4.1.1, sv p4 r4.1.2 c4, vi y2, vi r5.1, vi r4.1.1, sv p4 r4.1.2 c4, vi r6.1, vi y3, vi y0.1, sv p1 y0.2 c1, vi r6.1, vi 0] ([(y0, y2, y3), (r4.1, r6.1, r5.1), (r4.1, y2, r5.1), (r4.1, r6.1, y3), (y0, r6.1, 0)] : List (T_Graph × Int × Int)) (rC (vP (vP vI (vL (gk 3))) (vP vI vI)) (rC (vP (vP vI (vL (gk 0))) (vP vI vI)) (rC (vP (vP vI (vL (gk 0))) (vP vI vI)) (rC (vP (vP vI (vL (gk 0))) (vP vI vI)) (rC (vP (vP vI (vL (gk 3))) (vP vI vI)) rN)))))<|
  fun p5 c5=>jpc 2 rfl<|jot<|jbk<|
  jlp (fun s3 K=>K [(66, sv p5 ([(y0, y2, y3), (r4.1, r6.1, r5.1), (r4.1, y2, r5.1), (r4.1, r6.1, y3), (y0, r6.1, 0)] : List (T_Graph × Int × Int)) c5), (67, vi (len ([(y0, y2, y3), (r4.1, r6.1, r5.1), (r4.1, y2, r5.1), (r4.1, r6.1, y3), (y0, r6.1, 0)] : List (T_Graph × Int × Int)))), (68, vi s3)] [[], [], []] [Rl (eProd e_Graph (eProd (eInt .i64) (eInt .i64))) p5 c5 ([(y0, y2, y3), (r4.1, r6.1, r5.1), (r4.1, y2, r5.1), (r4.1, r6.1, y3), (y0, r6.1, 0)] : List (T_Graph × Int × Int)), Pt (eArr 64 (eInt .u8)) 0 0 tab_math_bits_deBruijn64tab]) (gv (fun _ k=>k) [900,901,902] ⟨gk 0,gk 5,⟨⟩⟩)<|
  fun s3 _ k=>k<|jsr<|jpc 1 rfl<|jot<|jsq<|jif rfl (jsk<|jtn<|jsq<|jbk<|jsr<|jix 0 rfl rfl rfl<|fun x1 b4 o1=>jld true (oP o_Graph (oP oI oI)) (gk 0) rfl<|fun p6 c6=>jal .s (.agg #[vi 0, .slice none 0 0, vi 0, vi 0])<|fun b5=>
  jso .s 3 rfl rfl rfl<|jot<|jsr<|jfa 0 rfl<|jla 3 2 rfl rfl rfl<|jfa 2 rfl<|jlo 3 rfl rfl rfl<|jfa 3 rfl<|jlo 3 rfl rfl rfl<|jcl c_explain_Removals rfl ⟨ck 0,ck 3,⟨⟩⟩<|fun r7 _ k p7 c7=>k<|jpc 5 rfl<|jot<|jsr<|jfa 0 rfl<|
  jla 3 2 rfl rfl rfl<|jfa 2 rfl<|jlo 3 rfl rfl rfl<|jfa 3 rfl<|jlo 3 rfl rfl rfl<|jcl c_ref24_Removals rfl ⟨ck 1,⟨⟩⟩<|fun r8 _ k p8 c8=>k<|jpc 5 rfl<|jot<|jsr<|jfa 0 rfl<|jla 3 2 rfl rfl rfl<|jfa 3 rfl<|jlo 3 rfl rfl rfl<|
  jcl c_explain_Defences rfl ⟨ck 2,ck 5,⟨⟩⟩<|fun r9 _ k p9 c9=>k<|jpc 5 rfl<|jot<|jsr<|jfa 0 rfl<|jla 3 2 rfl rfl rfl<|jfa 3 rfl<|jlo 3 rfl rfl rfl<|jcl c_ref24_Defences rfl ⟨ck 3,⟨⟩⟩<|fun r10 _ k p10 c10=>k<|jpc 5 rfl<|jot<|
  jjn (fun s4 K=>K [(66, sv p5 ([(y0, y2, y3), (r4.1, r6.1, r5.1), (r4.1, y2, r5.1), (r4.1, r6.1, y3), (y0, r6.1, 0)] : List (T_Graph × Int × Int)) c5), (67, vi (len ([(y0, y2, y3), (r4.1, r6.1, r5.1), (r4.1, y2, r5.1), (r4.1, r6.1, y3), (y0, r6.1, 0)] : List (T_Graph × Int × Int)))), (68, vi s3), (127, vb s4)] [[], [], [], []] [Rl (eProd e_Graph (eProd (eInt .i64) (eInt .i64))) p5 c5 ([(y0, y2, y3), (r4.1, r6.1, r5.1), (r4.1, y2, r5.1), (r4.1, r6.1, y3), (y0, r6.1, 0)] : List (T_Graph × Int × Int)), Pt (eArr 64 (eInt .u8)) 0 0 tab_math_bits_deBruijn64tab]) (
  jrg<|jpc 4 rfl<|jsg 111 rfl (jpc 3 rfl<|jpe (vb true)<|jpc 5 rfl<|jpe (vb true)<|jpc 5 rfl<|jpe (vb true)<|joe<|jnn (gv (fun _ k=>k) [900,901,902,903] ⟨gk 6,gk 7,⟨⟩⟩))<|jpc 3 rfl<|jpe (vb (r9.2 != r10.2))<|jpc 1 rfl<|jsg 116 rfl (
  jpc 4 rfl<|jpe (vb true)<|jpc 5 rfl<|jpe (vb true)<|joe<|jnn (gv (fun _ k=>k) [900,901,902,903] ⟨gk 6,gk 7,⟨⟩⟩))<|jpc 2 rfl<|jcl c_keep_Lists rfl ⟨ck 3,ck 2,⟨⟩⟩<|fun r11 _ k=>k<|jpc 1 rfl<|jpe (vb (!r11))<|jpc 1 rfl<|jsg 122 rfl (
  jpc 4 rfl<|jpe (vb true)<|joe<|jnn (gv (fun _ k=>k) [900,901,902,903] ⟨gk 6,gk 7,⟨⟩⟩))<|jpc 2 rfl<|jcl c_keep_Lists rfl ⟨ck 1,ck 0,⟨⟩⟩<|fun r12 _ k=>k<|jpc 1 rfl<|jpe (vb (!r12))<|joe<|jnn (gv (fun _ k=>k) [900,901,902,903] ⟨gk 6,gk 7,⟨⟩⟩)
  )<|fun s4 _ k=>k<|jif rfl (jsr<|jpc 1 rfl<|jot<|jxr<|jbr<|jtr<|jlr<|jbr<|jlr<|jr1 rfl rfl (fun _ k=>k) [] ⟨⟩)<|jsk<|jbn<|jtn<|jrg<|jpc 2 rfl<|joe<|jln (gv (fun _ k=>k) [900,901,902] ⟨gk 0,gk 1,⟨⟩⟩))<|jxe<|jte<|jle<|jbh<|
  jln (gv (fun _ k=>k) [900,901,902] ⟨gk 1,⟨⟩⟩))<|fun s2 _ k=>k<|jsr<|jcl c_law24_awake rfl ⟨ck 0,⟨⟩⟩<|fun r13 _ k=>k<|jpc 1 rfl<|jot<|jxr<|jr1 rfl rfl (fun _ k=>k) [] ⟨⟩

theorem c_keep_In {y0 : List Int} {y1 : Int} : Con Tryd.prog 19 [sv p1 y0 c1, vi y1] [] [Rl (eInt .i64) p1 c1 y0] (m_keep_In y0 y1) fun r K=>K (vb r) [] [] :=
 ent3 Tryd.call19 Tryd.func19 rfl fun X=>jsr<|jpc 1 rfl<|jot<|jsq<|jsr<|jpc 3 rfl<|jot<|jbk<|jlp (fun s1 K=>K [(0, sv p1 y0 c1), (1, vi y1), (7, vi (len y0)), (8, vi s1)] [] [Rl (eInt .i64) p1 c1 y0]) (gv (fun _ k=>k) [] ⟨gk 0,⟨⟩⟩)<|fun s1 _ k=>k<|jsr<|jpc 1 rfl<|jot<|jsq<|
  jif rfl (jsk<|jtn<|jsq<|jbk<|jsr<|jpc 2 rfl<|jot<|jsr<|jpc 2 rfl<|jix 0 rfl rfl rfl<|fun x1 b1 o1=>jld false oI (gk 0) rfl<|jpc 2 rfl<|jot<|jif rfl (jsr<|jpc 1 rfl<|jot<|jxr<|jbr<|jtr<|jlr<|jbr<|jtr<|jr1 rfl rfl (fun _ k=>k) [] ⟨⟩)<|jsk<|
  jbn<|jtn<|jrg<|jpc 2 rfl<|joe<|jln (gv (fun _ k=>k) [] ⟨gk 1,⟨⟩⟩))<|jxe<|jte<|jle<|jbh<|jtn<|jsr<|jpc 1 rfl<|jot<|jxr<|jr1 rfl rfl (fun _ k=>k) [] ⟨⟩

theorem c_net_Set {y0 : T_Graph} {y1 : List Int} : Con Tryd.prog 18 [.agg #[vi y0.1, sv p1 y0.2 c1], sv p2 y1 c2] [] [Rl e_Pair p1 c1 y0.2, Rl (eInt .i64) p2 c2 y1] (m_net_Set y0 y1) fun r K=>K (vb r) [] [] :=
 ent3 Tryd.call18 Tryd.func18 rfl fun X=>jsr<|jbx .s rfl<|fun b1=>jpc 1 rfl<|jot<|jsq<|jsr<|jpc 1 rfl<|jot<|jbk<|
  jlp (fun s1 K=>K [(1, sv p2 y1 c2), (2, pt b1 0), (5, vi s1)] [bx b1 24 [vi y0.1, sv p1 y0.2 c1]] [Rl (eInt .i64) p2 c2 y1, Rl e_Pair p1 c1 y0.2]) (gv (fun _ k=>k) [0] ⟨gk 1,gk 0,⟨⟩⟩)<|fun s1 _ k=>k<|jsq<|jsr<|jpc 4 rfl<|jot<|jif rfl (jsk<|
  jtn<|jsq<|jbk<|jjn (fun s2 K=>K [(1, sv p2 y1 c2), (2, pt b1 0), (5, vi s1), (41, vb s2)] [bx b1 24 [vi y0.1, sv p1 y0.2 c1]] [Rl (eInt .i64) p2 c2 y1, Rl e_Pair p1 c1 y0.2]) (jdS [] [0] 30<|jdc 28 [0,1] rfl<|jdi 2 0 rfl rfl rfl rfl<|
  fun x1 b2 o1=>jdl 3 false oI rfl (gk 0) rfl<|jdc 24 [4,5] rfl<|jsg 17 rfl (jdc 17 [6,7,8,9,10,11,12] rfl<|jdp 13 (vb true) rfl<|jdc 1 [14,15,16,17,18,19,20,21,22,23,24,25,26,27,28] rfl<|jdp 29 (vb true) rfl<|jde<|
  jnn (gv (fun _ k=>k) [0] ⟨gk 1,gk 2,⟨⟩⟩))<|jdc 22 [6,7] rfl<|jdi 8 1 rfl rfl rfl rfl<|fun x2 b3 o2=>jdl 9 false oI rfl (gk 0) rfl<|jdf 10 0 rfl rfl<|jdo 11 0 rfl rfl rfl rfl<|jdc 17 [12] rfl<|jdp 13 (vb (decide (y0.1 ≤ x2))) rfl<|
  jdc 15 [14] rfl<|jsg 26 rfl (jdc 1 [15,16,17,18,19,20,21,22,23,24,25,26,27,28] rfl<|jdp 29 (vb true) rfl<|jde<|jnn (gv (fun _ k=>k) [0] ⟨gk 2,gk 3,⟨⟩⟩))<|jdc 12 [15,16,17] rfl<|jsg 29 rfl (jdc 10 [18,19] rfl<|jdi 20 2 rfl rfl rfl rfl<|
  fun x3 b4 o3=>jdl 21 false oI rfl (gk 0) rfl<|jdc 5 [22,23,24] rfl<|jdi 25 3 rfl rfl rfl rfl<|fun x4 b5 o4=>jdl 26 false oI rfl (gk 0) rfl<|jdc 2 [27] rfl<|jdp 28 (vb (decide (x3 ≤ x4))) rfl<|jdp 29 (vb (decide (x3 ≤ x4))) rfl<|jde<|
  jnn (gv (fun _ k=>k) [0] ⟨gk 4,gk 5,⟨⟩⟩))<|jdc 2 [18,19,20,21,22,23,24,25,26,27] rfl<|jdp 28 (vb false) rfl<|jdp 29 (vb false) rfl<|jde<|jnn (gv (fun _ k=>k) [0] ⟨gk 2,gk 3,⟨⟩⟩))<|fun s2 _ k=>k<|jif rfl (jsr<|jpc 1 rfl<|jot<|jxr<|jbr<|jtr<|
  jlr<|jbr<|jtr<|jr1 rfl rfl (fun _ k=>k) [] ⟨⟩)<|jsk<|jbn<|jtn<|jrg<|jpc 3 rfl<|joe<|jln (gv (fun _ k=>k) [0] ⟨gk 0,gk 1,⟨⟩⟩))<|jxe<|jte<|jle<|jbh<|jtn<|jsr<|jpc 1 rfl<|jot<|jxr<|jr1 rfl rfl (fun _ k=>k) [] ⟨⟩

theorem c_law24_ExplainLeast {y0 : List Int} {y1 : Int} : Con Tryd.prog 4 [sv p1 y0 c1, vi y1] [] [Rl (eInt .i64) p1 c1 y0, Pt (eArr 64 (eInt .u8)) 0 0 tab_math_bits_deBruijn64tab] (m_law24_ExplainLeast y0 y1) fun r K=>K (vb r) [] [] :=
 ent3 Tryd.call4 Tryd.func4 rfl fun X=>jsr<|jpc 1 rfl<|jot<|jsr<|jpc 1 rfl<|jcl c_keep_New rfl ⟨ck 0,⟨⟩⟩<|fun r1 _ k b1 p2 c2=>k<|jpc 1 rfl<|jot<|jsr<|jpc 1 rfl<|jca .s [0] [] c_net_Graph rfl rfl rfl ⟨ck 0,⟨⟩⟩<|fun r2 _ k p3 c3=>k<|jal .s (.agg #[vi 0, .slice none 0 0])<|
  fun b2=>jso .s 1 rfl rfl rfl<|jot<|jsr<|jpc 1 rfl<|jfa 0 rfl<|jlo 1 rfl rfl rfl<|jca .s [0] [] c_keep_Src_N rfl rfl rfl ⟨ck 1,⟨⟩⟩<|fun r3 _ k=>k<|jpc 1 rfl<|jca .s [0] [] c_keep_Src_Range rfl rfl rfl ⟨ck 1,⟨⟩⟩<|fun r4 _ k=>k<|jpc 2 rfl<|
  jot<|jsr<|jla 1 2 rfl rfl rfl<|jpc 2 rfl<|jcl c_ref24_Without rfl ⟨ck 0,cn,⟨⟩⟩<|fun r5 _ k=>k<|jpc 1 rfl<|jot<|jsr<|jla 1 2 rfl rfl rfl<|jpc 2 rfl<|jcl c_explain_Removals rfl ⟨ck 0,ck 3,⟨⟩⟩<|fun r6 _ k p4 c4=>k<|jpc 5 rfl<|jot<|jsr<|
  jpc 1 rfl<|jro (eInt .i64) 3<|jot<|
  jjn (fun s1 K=>∀ p5 c5 r_1,K [(6, pt b2 0), (7, vi r3.1), (8, vi r4.1), (9, vb r5), (10, sv p4 r6.1 c4), (11, vi r6.2), (12, sv p5 s1 c5)] [[], bx b2 24 [vi r2.1.1, sv p3 r2.1.2 c3], r_1] [Al (eInt .i64) 3 r_1 p5 c5 s1, Rl (eSlice (eInt .i64)) p4 c4 r6.1, Rl e_Pair p3 c3 r2.1.2, Pt (eArr 64 (eInt .u8)) 0 0 tab_math_bits_deBruijn64tab]) (
  jsr<|jpc 1 rfl<|jot<|jbk<|
  jlp (fun s2 K=>∀ p6 c6 r_2,K [(1, vi y1), (6, pt b2 0), (7, vi r3.1), (8, vi r4.1), (9, vb r5), (10, sv p4 r6.1 c4), (11, vi r6.2), (12, sv p6 s2.1 c6), (13, vi s2.2)] [[], bx b2 24 [vi r2.1.1, sv p3 r2.1.2 c3], r_2] [Al (eInt .i64) 3 r_2 p6 c6 s2.1, Rl (eSlice (eInt .i64)) p4 c4 r6.1, Rl e_Pair p3 c3 r2.1.2, Pt (eArr 64 (eInt .u8)) 0 0 tab_math_bits_deBruijn64tab]) (gv (fun _ k=>k none 0 []) [900,1,2] ⟨gk 0,gk 1,gk 2,gk 5,⟨⟩⟩)<|
  fun s2 _ k p6 c6 r_2=>k<|jsq<|jsr<|jpc 1 rfl<|jfa 0 rfl<|jlo 1 rfl rfl rfl<|jpc 1 rfl<|jot<|jif rfl (jsk<|jtn<|jsq<|jbk<|
  jjn (fun s3 K=>K [(1, vi y1), (6, pt b2 0), (7, vi r3.1), (8, vi r4.1), (9, vb r5), (10, sv p4 r6.1 c4), (11, vi r6.2), (12, sv p6 s2.1 c6), (13, vi s2.2), (54, vb s3)] [[], bx b2 24 [vi r2.1.1, sv p3 r2.1.2 c3], r_2] [Rl (eSlice (eInt .i64)) p4 c4 r6.1, Al (eInt .i64) 3 r_2 p6 c6 s2.1, Rl e_Pair p3 c3 r2.1.2, Pt (eArr 64 (eInt .u8)) 0 0 tab_math_bits_deBruijn64tab]) (
  jrg<|jpc 4 rfl<|jsg 47 rfl (jpc 2 rfl<|jpe (.int .u64 (IntKind.u64.wrap (s2.2)))<|jbd fun x1 h1=>jv (fun h=>r_shrK h rfl rfl h1)<|jpc 2 rfl<|jpe (vb ((band .i64 x1 1) == 1))<|joe<|jnn (gv (fun _ k=>k) [900,1,2] ⟨gk 1,gk 0,gk 2,gk 3,⟨⟩⟩))<|
  jpc 6 rfl<|jpe (vb false)<|joe<|jnn (gv (fun _ k=>k) [900,1,2] ⟨gk 1,gk 0,gk 2,gk 3,⟨⟩⟩))<|fun s3 _ k=>k<|jif rfl (jrg<|jpc 2 rfl<|jbs .s (e := eInt .i64) 3 [vi s2.2] ([s2.2] : List Int) (rC vI rN)<|fun p7 c7=>
  jar .s 2 2 rfl (gk 0) rfl rfl<|fun x2 r_3 p8 c8=>jpc 1 rfl<|joe<|jbn<|jtn<|jrg<|jpc 3 rfl<|joe<|jln (gv (fun _ k=>k p8 c8 r_3) [900,1,2] ⟨gk 0,gk 2,gk 4,gk 5,⟨⟩⟩))<|jsk<|jbn<|jtn<|jrg<|jpc 3 rfl<|joe<|
  jln (gv (fun _ k=>k p6 c6 r_2) [900,1,2] ⟨gk 1,gk 0,gk 2,gk 3,⟨⟩⟩))<|jxe<|jte<|jle<|jbh<|jnn (gv (fun _ k=>k p6 c6 r_2) [900,1,2] ⟨gk 0,gk 1,gk 2,gk 3,⟨⟩⟩))<|fun s1 _ k p5 c5 r_1=>k<|jsr<|jla 1 2 rfl rfl rfl<|jpc 3 rfl<|
  jca .s [] [2] c_ref24_Without rfl rfl rfl ⟨ck 2,cl 2 0,⟨⟩⟩<|fun r7 _ k=>k<|jpc 1 rfl<|jpe (vb (!(r7 == r5)))<|jpc 1 rfl<|jot<|jsq<|jsr<|jpc 2 rfl<|jot<|jif rfl (
  jjn (fun s4 K=>K [(4, vb s4)] [[], [], []] [Pt (eArr 64 (eInt .u8)) 0 0 tab_math_bits_deBruijn64tab]) (jrg<|jpc 3 rfl<|jsg 70 rfl (jcl c_law24_awake rfl ⟨ck 3,⟨⟩⟩<|fun r8 _ k=>k<|jpe (vb r8)<|jpc 1 rfl<|joe<|
  jnn (gv (fun _ k=>k) [900,901,902] ⟨gk 3,⟨⟩⟩))<|jpc 1 rfl<|jpe (vb false)<|jpc 1 rfl<|joe<|jnn (gv (fun _ k=>k) [900,901,902] ⟨gk 3,⟨⟩⟩))<|fun s4 _ k=>k<|jxr<|jtr<|jr1 rfl rfl (fun _ k=>k) [] ⟨⟩)<|jsk<|jtn<|jsq<|
  jjp (fun K=>K [(6, pt b2 0), (7, vi r3.1), (8, vi r4.1), (9, vb r5), (10, sv p4 r6.1 c4), (12, sv p5 s1 c5), (14, vb (!(r7 == r5))), (79, vb ((r6.2 != 0) || ((len r6.1) == 0)))] [[], bx b2 24 [vi r2.1.1, sv p3 r2.1.2 c3], r_1] [Rl (eSlice (eInt .i64)) p4 c4 r6.1, Al (eInt .i64) 3 r_1 p5 c5 s1, Rl e_Pair p3 c3 r2.1.2, Pt (eArr 64 (eInt .u8)) 0 0 tab_math_bits_deBruijn64tab]) (
  jrg<|jpc 3 rfl<|jsp (b := r6.2 != 0) 75 rfl (fun hb3=>jpc 3 rfl<|jpe (vb true)<|joe<|jup 79 (vb ((r6.2 != 0) || ((len r6.1) == 0))) rfl (by rw [hb3]; rfl)<|jnn (gv (fun _ k=>k) [900,1,2] ⟨gk 1,gk 0,gk 2,gk 3,⟨⟩⟩))<|fun hb3=>jpc 3 rfl<|
  jpe (vb ((len r6.1) == 0))<|joe<|jup 79 (vb ((r6.2 != 0) || ((len r6.1) == 0))) rfl (by rw [hb3]; rfl)<|jnn (gv (fun _ k=>k) [900,1,2] ⟨gk 1,gk 0,gk 2,gk 3,⟨⟩⟩))<|fun _ k=>k<|jif rfl (jsr<|jpc 1 rfl<|jot<|jxr<|jtr<|
  jr1 rfl rfl (fun _ k=>k) [] ⟨⟩)<|jsk<|jtn<|jsr<|jpc 1 rfl<|jot<|
  jjo (fun s5 K=>K [(10, sv p4 r6.1 c4), (12, sv p5 s1 c5), (14, vb (!(r7 == r5))), (15, vb s5)] [[], [], r_1] [Rl (eSlice (eInt .i64)) p4 c4 r6.1, Al (eInt .i64) 3 r_1 p5 c5 s1, Pt (eArr 64 (eInt .u8)) 0 0 tab_math_bits_deBruijn64tab]) (
  jsr<|jpc 1 rfl<|jot<|jbk<|
  jlp (fun s6 K=>K [(6, pt b2 0), (7, vi r3.1), (8, vi r4.1), (9, vb r5), (10, sv p4 r6.1 c4), (12, sv p5 s1 c5), (14, vb (!(r7 == r5))), (15, vb s6.1), (16, vi s6.2)] [[], bx b2 24 [vi r2.1.1, sv p3 r2.1.2 c3], r_1] [Rl (eSlice (eInt .i64)) p4 c4 r6.1, Al (eInt .i64) 3 r_1 p5 c5 s1, Rl e_Pair p3 c3 r2.1.2, Pt (eArr 64 (eInt .u8)) 0 0 tab_math_bits_deBruijn64tab]) (gv (fun _ k=>k) [900,1,2] ⟨gk 0,gk 1,gk 2,gk 3,⟨⟩⟩)<|
  fun s6 _ k=>k<|jsq<|jsr<|jpc 4 rfl<|jot<|jif rfl (jsk<|jtn<|jsq<|jbk<|jsq<|
  jjn (fun s7 K=>K [(6, pt b2 0), (7, vi r3.1), (8, vi r4.1), (9, vb r5), (10, sv p4 r6.1 c4), (12, sv p5 s1 c5), (14, vb (!(r7 == r5))), (15, vb s6.1), (16, vi s6.2), (124, vb s7)] [[], bx b2 24 [vi r2.1.1, sv p3 r2.1.2 c3], r_1] [Rl (eSlice (eInt .i64)) p4 c4 r6.1, Al (eInt .i64) 3 r_1 p5 c5 s1, Rl e_Pair p3 c3 r2.1.2, Pt (eArr 64 (eInt .u8)) 0 0 tab_math_bits_deBruijn64tab]) (
  jdS [] [1] 39<|jda 0 1 2 rfl rfl rfl rfl<|jdc 36 [1,2] rfl<|jdi 3 0 rfl rfl rfl rfl<|fun x3 b3 o1=>jdl 4 false oL rfl (gk 0) rfl<|fun p9 c9=>jd1 5<|jca (.f rfl) [] [] c_net_Set rfl rfl rfl ⟨ck 4,ck 0,⟨⟩⟩<|fun r9 _ k=>k<|jdn<|
  jdc 31 [6,7] rfl<|jsg 93 rfl (jdc 25 [8,9,10,11,12,13] rfl<|jdp 14 (vb true) rfl<|jdc 13 [15,16,17,18,19,20,21,22,23,24,25] rfl<|jdp 26 (vb true) rfl<|jdc 1 [27,28,29,30,31,32,33,34,35,36,37] rfl<|jdp 38 (vb true) rfl<|jde<|
  jnn (gv (fun _ k=>k) [900,1,2] ⟨gk 2,gk 3,gk 4,gk 5,⟨⟩⟩))<|jdc 29 [8,9] rfl<|jdi 10 2 rfl rfl rfl rfl<|fun x4 b4 o2=>jdl 11 false oL rfl (gk 0) rfl<|fun p10 c10=>jdc 26 [12] rfl<|jd1 13<|jca (.f rfl) [] [] c_keep_In rfl rfl rfl ⟨ck 0,⟨⟩⟩<|
  fun r10 _ k=>k<|jdn<|jdp 14 (vb r10) rfl<|jdc 23 [15] rfl<|jsg 101 rfl (jdc 13 [16,17,18,19,20,21,22,23,24,25] rfl<|jdp 26 (vb true) rfl<|jdc 1 [27,28,29,30,31,32,33,34,35,36,37] rfl<|jdp 38 (vb true) rfl<|jde<|
  jnn (gv (fun _ k=>k) [900,1,2] ⟨gk 4,gk 5,gk 6,gk 7,⟨⟩⟩))<|jdc 21 [16,17] rfl<|jdi 18 4 rfl rfl rfl rfl<|fun x5 b5 o3=>jdl 19 false oL rfl (gk 0) rfl<|fun p11 c11=>jdc 17 [20,21] rfl<|jdi 22 6 rfl rfl rfl rfl<|fun x6 b6 o4=>
  jdl 23 false oL rfl (gk 0) rfl<|fun p12 c12=>jdc 13 [24,25] rfl<|jdp 26 (vb ((len x5) != (len x6))) rfl<|jdc 11 [27] rfl<|jsg 113 rfl (jdc 1 [28,29,30,31,32,33,34,35,36,37] rfl<|jdp 38 (vb true) rfl<|jde<|
  jnn (gv (fun _ k=>k) [900,1,2] ⟨gk 8,gk 9,gk 10,gk 11,⟨⟩⟩))<|jda 28 1 2 rfl rfl rfl rfl<|jdc 8 [29,30] rfl<|jdi 31 8 rfl rfl rfl rfl<|fun x7 b7 o5=>jdl 32 false oL rfl (gk 0) rfl<|fun p13 c13=>jdc 3 [33,34,36] rfl<|jd1 35<|
  jca (.f rfl) [] [] c_ref24_Without rfl rfl rfl ⟨ck 12,ck 0,⟨⟩⟩<|fun r11 _ k=>k<|jdn<|jdp 37 (vb (r11 == r5)) rfl<|jdp 38 (vb (r11 == r5)) rfl<|jde<|jnn (gv (fun _ k=>k) [900,1,2] ⟨gk 10,gk 11,gk 12,gk 13,⟨⟩⟩))<|fun s7 _ k=>k<|jif rfl (jsr<|
  jpc 1 rfl<|jot<|jxr<|jtr<|jbr<|jtr<|jlr<|jbr<|jlr<|jr1 rfl rfl (fun _ k=>k) [] ⟨⟩)<|jsk<|jtn<|
  jjc (fun s8 K=>K [(6, pt b2 0), (7, vi r3.1), (8, vi r4.1), (9, vb r5), (10, sv p4 r6.1 c4), (12, sv p5 s1 c5), (14, vb (!(r7 == r5))), (15, vb s8), (16, vi s6.2)] [[], bx b2 24 [vi r2.1.1, sv p3 r2.1.2 c3], r_1] [Rl (eSlice (eInt .i64)) p4 c4 r6.1, Al (eInt .i64) 3 r_1 p5 c5 s1, Rl e_Pair p3 c3 r2.1.2, Pt (eArr 64 (eInt .u8)) 0 0 tab_math_bits_deBruijn64tab]) (
  jrg<|jpc 2 rfl<|jsg 126 rfl (jpc 6 rfl<|jpe (vb true)<|jpc 1 rfl<|joe<|jnn (gv (fun _ k=>k) [900,1,2] ⟨gk 0,gk 1,gk 2,gk 3,⟨⟩⟩))<|jpc 2 rfl<|jix 0 rfl rfl rfl<|fun x8 b8 o6=>jld false oL (gk 0) rfl<|fun p14 c14=>jpc 1 rfl<|
  jca .s [] [2] c_keep_Ints rfl rfl rfl ⟨ck 0,cl 2 3,⟨⟩⟩<|fun r12 _ k=>k<|jpe (vb r12)<|jpc 1 rfl<|joe<|jnn (gv (fun _ k=>k) [900,1,2] ⟨gk 2,gk 3,gk 4,gk 5,⟨⟩⟩))<|fun s8 _ k=>k<|jbn<|jtn<|jrg<|jpc 3 rfl<|joe<|
  jln (gv (fun _ k=>k) [900,1,2] ⟨gk 0,gk 1,gk 2,gk 3,⟨⟩⟩))<|jxe<|jte<|jle<|jbh<|jln (gv (fun _ k=>k) [900,901,2] ⟨gk 0,gk 1,gk 3,⟨⟩⟩))<|fun s5 _ k=>k<|
  jjn (fun s9 K=>K [(4, vb s9)] [[], [], []] [Pt (eArr 64 (eInt .u8)) 0 0 tab_math_bits_deBruijn64tab]) (jrg<|jpc 3 rfl<|jsg 136 rfl (jpc 7 rfl<|jpe (vb true)<|jpc 11 rfl<|jpe (vb true)<|jpc 1 rfl<|jcl c_law24_awake rfl ⟨ck 2,⟨⟩⟩<|
  fun r13 _ k=>k<|jpe (vb r13)<|jpc 1 rfl<|joe<|jnn (gv (fun _ k=>k) [900,901,902] ⟨gk 2,⟨⟩⟩))<|jpc 3 rfl<|jix 0 rfl rfl rfl<|fun x9 b9 o7=>jld false oL (gk 0) rfl<|fun p15 c15=>jpc 2 rfl<|jpe (vb (decide ((len x9) < (len s1))))<|jpc 1 rfl<|
  jsg 145 rfl (jpc 10 rfl<|jpe (vb true)<|jpc 1 rfl<|jcl c_law24_awake rfl ⟨ck 4,⟨⟩⟩<|fun r14 _ k=>k<|jpe (vb r14)<|jpc 1 rfl<|joe<|jnn (gv (fun _ k=>k) [900,901,902] ⟨gk 4,⟨⟩⟩))<|jpc 3 rfl<|jix 2 rfl rfl rfl<|fun x10 b10 o8=>
  jld false oL (gk 0) rfl<|fun p16 c16=>jpc 3 rfl<|jsg 153 rfl (jpc 1 rfl<|jpe (vb s5)<|jpe (vb s5)<|jpc 1 rfl<|jsg 157 rfl (jcl c_law24_awake rfl ⟨ck 6,⟨⟩⟩<|fun r15 _ k=>k<|jpe (vb r15)<|jpc 1 rfl<|joe<|
  jnn (gv (fun _ k=>k) [900,901,902] ⟨gk 6,⟨⟩⟩))<|jpc 1 rfl<|jpe (vb false)<|jpc 1 rfl<|joe<|jnn (gv (fun _ k=>k) [900,901,902] ⟨gk 6,⟨⟩⟩))<|jpc 1 rfl<|jpe (vb false)<|jpe (vb false)<|jpc 2 rfl<|jpe (vb false)<|jpc 1 rfl<|joe<|
  jnn (gv (fun _ k=>k) [900,901,902] ⟨gk 6,⟨⟩⟩))<|fun s9 _ k=>k<|jxr<|jr1 rfl rfl (fun _ k=>k) [] ⟨⟩

theorem c_keep_Inside {y0 : List Int} {y1 : List Int} : Con Tryd.prog 23 [sv p1 y0 c1, sv p2 y1 c2] [] [Rl (eInt .i64) p1 c1 y0, Rl (eInt .i64) p2 c2 y1] (m_keep_Inside y0 y1) fun r K=>K (vb r) [] [] :=
 ent3 Tryd.call23 Tryd.func23 rfl fun X=>jsr<|jpc 1 rfl<|jot<|jsq<|jsr<|jpc 3 rfl<|jot<|jbk<|jlp (fun s1 K=>K [(0, sv p1 y0 c1), (1, sv p2 y1 c2), (7, vi (len y0)), (8, vi s1)] [] [Rl (eInt .i64) p1 c1 y0, Rl (eInt .i64) p2 c2 y1]) (gv (fun _ k=>k) [] ⟨gk 0,gk 1,⟨⟩⟩)<|fun s1 _ k=>
  k<|jsr<|jpc 1 rfl<|jot<|jsq<|jif rfl (jsk<|jtn<|jsq<|jbk<|jsr<|jpc 2 rfl<|jot<|jsr<|jpc 3 rfl<|jix 0 rfl rfl rfl<|fun x1 b1 o1=>jld false oI (gk 0) rfl<|jcl c_keep_In rfl ⟨ck 2,⟨⟩⟩<|fun r1 _ k=>k<|jpc 1 rfl<|jot<|jif rfl (jsr<|jpc 1 rfl<|
  jot<|jxr<|jbr<|jtr<|jlr<|jbr<|jtr<|jr1 rfl rfl (fun _ k=>k) [] ⟨⟩)<|jsk<|jbn<|jtn<|jrg<|jpc 2 rfl<|joe<|jln (gv (fun _ k=>k) [] ⟨gk 1,gk 2,⟨⟩⟩))<|jxe<|jte<|jle<|jbh<|jtn<|jsr<|jpc 1 rfl<|jot<|jxr<|jr1 rfl rfl (fun _ k=>k) [] ⟨⟩

theorem c_law24_ExplainDefences {y0 : List Int} {y1 : Int} : Con Tryd.prog 5 [sv p1 y0 c1, vi y1] [] [Rl (eInt .i64) p1 c1 y0, Pt (eArr 64 (eInt .u8)) 0 0 tab_math_bits_deBruijn64tab] (m_law24_ExplainDefences y0 y1) fun r K=>K (vb r) [] [] :=
 ent3 Tryd.call5 Tryd.func5 rfl fun X=>jsr<|jpc 1 rfl<|jot<|jsr<|jpc 1 rfl<|jcl c_keep_New rfl ⟨ck 0,⟨⟩⟩<|fun r1 _ k b1 p2 c2=>k<|jpc 1 rfl<|jot<|jsr<|jpc 1 rfl<|jca .s [0] [] c_net_Graph rfl rfl rfl ⟨ck 0,⟨⟩⟩<|fun r2 _ k p3 c3=>k<|jal .s (.agg #[vi 0, .slice none 0 0])<|
  fun b2=>jso .s 1 rfl rfl rfl<|jot<|jsr<|jpc 1 rfl<|jfa 0 rfl<|jlo 1 rfl rfl rfl<|jca .s [0] [] c_keep_Src_N rfl rfl rfl ⟨ck 1,⟨⟩⟩<|fun r3 _ k=>k<|jpc 1 rfl<|jot<|jsr<|jla 1 2 rfl rfl rfl<|jpc 1 rfl<|
  jcl c_explain_Defences rfl ⟨ck 0,ck 3,⟨⟩⟩<|fun r4 _ k p4 c4=>k<|jpc 5 rfl<|jot<|jsq<|jsr<|jpc 2 rfl<|jot<|jif rfl (jsr<|jpc 1 rfl<|jot<|jxr<|jtr<|jr1 rfl rfl (fun _ k=>k) [] ⟨⟩)<|jsk<|jtn<|jsr<|jpc 1 rfl<|
  jpe (.int .u64 (IntKind.u64.wrap (y1)))<|jfa 0 rfl<|jlo 1 rfl rfl rfl<|jpe (.int .u64 (IntKind.u64.wrap (r2.1.1)))<|jbd fun x1 h1=>jv (fun h=>r_shlK h rfl rfl h1)<|jpc 2 rfl<|jcl c_net_Members rfl ⟨⟩<|fun r5 _ k p5 c5=>k<|jpc 1 rfl<|jot<|
  jjn (fun s1 K=>K [(6, pt b2 0), (7, vi r3.1), (8, sv p4 r4.1 c4), (10, sv p5 r5 c5), (11, vb s1)] [[], bx b2 24 [vi r2.1.1, sv p3 r2.1.2 c3]] [Rl (eSlice (eInt .i64)) p4 c4 r4.1, Rl (eInt .i64) p5 c5 r5, Rl e_Pair p3 c3 r2.1.2, Pt (eArr 64 (eInt .u8)) 0 0 tab_math_bits_deBruijn64tab]) (
  jrg<|jpc 2 rfl<|jcl c_keep_In rfl ⟨ck 0,⟨⟩⟩<|fun r6 _ k=>k<|jpc 1 rfl<|jsg 42 rfl (jla 1 2 rfl rfl rfl<|jpc 1 rfl<|jcl c_net_Admissible rfl ⟨ck 2,ck 0,⟨⟩⟩<|fun r7 _ k=>k<|jpe (vb r7)<|jpc 1 rfl<|joe<|
  jnn (gv (fun _ k=>k) [900,1] ⟨gk 1,gk 0,gk 2,gk 5,⟨⟩⟩))<|jpc 3 rfl<|jpe (vb false)<|jpc 1 rfl<|joe<|jnn (gv (fun _ k=>k) [900,1] ⟨gk 1,gk 0,gk 2,gk 5,⟨⟩⟩))<|fun s1 _ k=>k<|
  jjo (fun s2 K=>K [(6, pt b2 0), (7, vi r3.1), (8, sv p4 r4.1 c4), (11, vb s2)] [[], bx b2 24 [vi r2.1.1, sv p3 r2.1.2 c3]] [Rl (eSlice (eInt .i64)) p4 c4 r4.1, Rl e_Pair p3 c3 r2.1.2, Pt (eArr 64 (eInt .u8)) 0 0 tab_math_bits_deBruijn64tab]) (
  jsr<|jpc 1 rfl<|jot<|jbk<|
  jlp (fun s3 K=>K [(6, pt b2 0), (7, vi r3.1), (8, sv p4 r4.1 c4), (10, sv p5 r5 c5), (11, vb s3.1), (12, vi s3.2)] [[], bx b2 24 [vi r2.1.1, sv p3 r2.1.2 c3]] [Rl (eSlice (eInt .i64)) p4 c4 r4.1, Rl (eInt .i64) p5 c5 r5, Rl e_Pair p3 c3 r2.1.2, Pt (eArr 64 (eInt .u8)) 0 0 tab_math_bits_deBruijn64tab]) (gv (fun _ k=>k) [900,1] ⟨gk 0,gk 1,gk 2,gk 3,⟨⟩⟩)<|
  fun s3 _ k=>k<|jsq<|jsr<|jpc 4 rfl<|jot<|jif rfl (jsk<|jtn<|jsq<|jbk<|jsq<|
  jjn (fun s4 K=>K [(6, pt b2 0), (7, vi r3.1), (8, sv p4 r4.1 c4), (10, sv p5 r5 c5), (11, vb s3.1), (12, vi s3.2), (77, vb s4)] [[], bx b2 24 [vi r2.1.1, sv p3 r2.1.2 c3]] [Rl (eSlice (eInt .i64)) p4 c4 r4.1, Rl (eInt .i64) p5 c5 r5, Rl e_Pair p3 c3 r2.1.2, Pt (eArr 64 (eInt .u8)) 0 0 tab_math_bits_deBruijn64tab]) (
  jdS [] [1] 25<|jda 0 1 2 rfl rfl rfl rfl<|jdc 22 [1,2] rfl<|jdi 3 0 rfl rfl rfl rfl<|fun x2 b3 o1=>jdl 4 false oL rfl (gk 0) rfl<|fun p6 c6=>jd1 5<|jca (.f rfl) [] [] c_net_Set rfl rfl rfl ⟨ck 4,ck 0,⟨⟩⟩<|fun r8 _ k=>k<|jdn<|
  jdc 17 [6,7] rfl<|jsg 60 rfl (jdc 10 [8,9,10,11,12,13,14] rfl<|jdp 15 (vb true) rfl<|jdc 1 [16,17,18,19,20,21,22,23] rfl<|jdp 24 (vb true) rfl<|jde<|jnn (gv (fun _ k=>k) [900,1] ⟨gk 2,gk 3,gk 4,gk 5,⟨⟩⟩))<|jdc 15 [8,9] rfl<|
  jdi 10 2 rfl rfl rfl rfl<|fun x3 b4 o2=>jdl 11 false oL rfl (gk 0) rfl<|fun p7 c7=>jdc 12 [12] rfl<|jd1 13<|jca (.f rfl) [] [] c_keep_In rfl rfl rfl ⟨ck 0,⟨⟩⟩<|fun r9 _ k=>k<|jdn<|jdc 10 [14] rfl<|jdp 15 (vb (!r9)) rfl<|jdc 8 [16] rfl<|
  jsg 69 rfl (jdc 1 [17,18,19,20,21,22,23] rfl<|jdp 24 (vb true) rfl<|jde<|jnn (gv (fun _ k=>k) [900,1] ⟨gk 4,gk 5,gk 6,gk 7,⟨⟩⟩))<|jda 17 1 2 rfl rfl rfl rfl<|jdc 5 [18,19] rfl<|jdi 20 4 rfl rfl rfl rfl<|fun x4 b5 o3=>
  jdl 21 false oL rfl (gk 0) rfl<|fun p8 c8=>jd1 22<|jca (.f rfl) [] [] c_net_Admissible rfl rfl rfl ⟨ck 8,ck 0,⟨⟩⟩<|fun r10 _ k=>k<|jdn<|jdc 1 [23] rfl<|jdp 24 (vb (!r10)) rfl<|jde<|jnn (gv (fun _ k=>k) [900,1] ⟨gk 6,gk 7,gk 8,gk 9,⟨⟩⟩))<|
  fun s4 _ k=>k<|jif rfl (jsr<|jpc 1 rfl<|jot<|jxr<|jtr<|jbr<|jtr<|jlr<|jbr<|jlr<|jr1 rfl rfl (fun _ k=>k) [] ⟨⟩)<|jsk<|jtn<|
  jjo (fun s5 K=>K [(6, pt b2 0), (7, vi r3.1), (8, sv p4 r4.1 c4), (10, sv p5 r5 c5), (11, vb s3.1), (12, vi s3.2)] [[], bx b2 24 [vi r2.1.1, sv p3 r2.1.2 c3]] [Rl (eSlice (eInt .i64)) p4 c4 r4.1, Rl (eInt .i64) p5 c5 r5, Rl e_Pair p3 c3 r2.1.2, Pt (eArr 64 (eInt .u8)) 0 0 tab_math_bits_deBruijn64tab]) (
  jsr<|jpc 1 rfl<|jot<|jbk<|
  jlp (fun s6 K=>K [(6, pt b2 0), (7, vi r3.1), (8, sv p4 r4.1 c4), (10, sv p5 r5 c5), (11, vb s3.1), (12, vi s3.2), (13, vi s6)] [[], bx b2 24 [vi r2.1.1, sv p3 r2.1.2 c3]] [Rl (eSlice (eInt .i64)) p4 c4 r4.1, Rl (eInt .i64) p5 c5 r5, Rl e_Pair p3 c3 r2.1.2, Pt (eArr 64 (eInt .u8)) 0 0 tab_math_bits_deBruijn64tab]) (gv (fun _ k=>k) [900,1] ⟨gk 0,gk 1,gk 2,gk 3,⟨⟩⟩)<|
  fun s6 _ k=>k<|jsq<|jsr<|jpc 4 rfl<|jot<|jif rfl (jsk<|jtn<|jsq<|jbk<|
  jjn (fun s7 K=>K [(6, pt b2 0), (7, vi r3.1), (8, sv p4 r4.1 c4), (10, sv p5 r5 c5), (11, vb s3.1), (12, vi s3.2), (13, vi s6), (97, vb s7)] [[], bx b2 24 [vi r2.1.1, sv p3 r2.1.2 c3]] [Rl (eSlice (eInt .i64)) p4 c4 r4.1, Rl (eInt .i64) p5 c5 r5, Rl e_Pair p3 c3 r2.1.2, Pt (eArr 64 (eInt .u8)) 0 0 tab_math_bits_deBruijn64tab]) (
  jdS [] [] 14<|jdc 10 [0,1,2,3] rfl<|jsg 87 rfl (jdc 8 [4,5] rfl<|jdi 6 0 rfl rfl rfl rfl<|fun x5 b6 o4=>jdl 7 false oL rfl (gk 0) rfl<|fun p9 c9=>jdc 4 [8,9] rfl<|jdi 10 2 rfl rfl rfl rfl<|fun x6 b7 o5=>jdl 11 false oL rfl (gk 0) rfl<|
  fun p10 c10=>jd1 12<|jca (.f rfl) [] [] c_keep_Inside rfl rfl rfl ⟨ck 2,ck 0,⟨⟩⟩<|fun r11 _ k=>k<|jdn<|jdp 13 (vb r11) rfl<|jde<|jnn (gv (fun _ k=>k) [900,1] ⟨gk 4,gk 5,gk 6,gk 7,⟨⟩⟩))<|jdc 1 [4,5,6,7,8,9,10,11,12] rfl<|
  jdp 13 (vb false) rfl<|jde<|jnn (gv (fun _ k=>k) [900,1] ⟨gk 0,gk 1,gk 2,gk 3,⟨⟩⟩))<|fun s7 _ k=>k<|jif rfl (jsr<|jpc 1 rfl<|jot<|jxr<|jbr<|jtr<|jlr<|jbr<|jlr<|jbr<|jtr<|jlr<|jbr<|jlr<|jr1 rfl rfl (fun _ k=>k) [] ⟨⟩)<|jsk<|jbn<|jtn<|jrg<|
  jpc 3 rfl<|joe<|jln (gv (fun _ k=>k) [900,1] ⟨gk 0,gk 1,gk 2,gk 3,⟨⟩⟩))<|jxe<|jte<|jle<|jbh<|jln (gv (fun _ k=>k) [900,1] ⟨gk 0,gk 1,gk 2,gk 3,⟨⟩⟩))<|fun s5 _ k=>k<|
  jjc (fun s8 K=>K [(6, pt b2 0), (7, vi r3.1), (8, sv p4 r4.1 c4), (10, sv p5 r5 c5), (11, vb s8), (12, vi s3.2)] [[], bx b2 24 [vi r2.1.1, sv p3 r2.1.2 c3]] [Rl (eSlice (eInt .i64)) p4 c4 r4.1, Rl (eInt .i64) p5 c5 r5, Rl e_Pair p3 c3 r2.1.2, Pt (eArr 64 (eInt .u8)) 0 0 tab_math_bits_deBruijn64tab]) (
  jrg<|jpc 2 rfl<|jsg 99 rfl (jpc 2 rfl<|jix 0 rfl rfl rfl<|fun x7 b8 o6=>jld false oL (gk 0) rfl<|fun p11 c11=>jpc 1 rfl<|jcl c_keep_Inside rfl ⟨ck 0,ck 3,⟨⟩⟩<|fun r12 _ k=>k<|jpc 1 rfl<|jpe (vb (!r12))<|jpc 1 rfl<|joe<|
  jnn (gv (fun _ k=>k) [900,1] ⟨gk 2,gk 3,gk 4,gk 5,⟨⟩⟩))<|jpc 7 rfl<|jpe (vb false)<|jpc 1 rfl<|joe<|jnn (gv (fun _ k=>k) [900,1] ⟨gk 0,gk 1,gk 2,gk 3,⟨⟩⟩))<|fun s8 _ k=>k<|jbn<|jtn<|jrg<|jpc 3 rfl<|joe<|
  jln (gv (fun _ k=>k) [900,1] ⟨gk 0,gk 1,gk 2,gk 3,⟨⟩⟩))<|jxe<|jte<|jle<|jbh<|jln (gv (fun _ k=>k) [900,1] ⟨gk 0,gk 2,gk 3,⟨⟩⟩))<|fun s2 _ k=>k<|
  jjn (fun s9 K=>K [(4, vb s9)] [[], []] [Pt (eArr 64 (eInt .u8)) 0 0 tab_math_bits_deBruijn64tab]) (jrg<|jpc 3 rfl<|jsg 110 rfl (jpc 3 rfl<|jla 1 2 rfl rfl rfl<|jpc 1 rfl<|jcl c_net_SomeAdmissible rfl ⟨ck 1,cn,⟨⟩⟩<|fun r13 _ k=>k<|
  jpe (vb ((decide (0 < (len r4.1))) == r13))<|jpe (vb ((decide (0 < (len r4.1))) == r13))<|jpc 1 rfl<|jsg 119 rfl (jcl c_law24_awake rfl ⟨ck 2,⟨⟩⟩<|fun r14 _ k=>k<|jpe (vb r14)<|jpc 1 rfl<|joe<|jnn (gv (fun _ k=>k) [900,901] ⟨gk 2,⟨⟩⟩))<|
  jpc 1 rfl<|jpe (vb false)<|jpc 1 rfl<|joe<|jnn (gv (fun _ k=>k) [900,901] ⟨gk 2,⟨⟩⟩))<|jpc 7 rfl<|jpe (vb false)<|jpc 2 rfl<|jpe (vb false)<|jpc 1 rfl<|joe<|jnn (gv (fun _ k=>k) [900,901] ⟨gk 2,⟨⟩⟩))<|fun s9 _ k=>k<|jxr<|
  jr1 rfl rfl (fun _ k=>k) [] ⟨⟩

end Go.Proofs.YtoacfdaobkghfaaDoor
