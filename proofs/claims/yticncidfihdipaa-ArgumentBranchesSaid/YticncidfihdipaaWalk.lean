/- The Go functions compute their models: printed by program (gd3). Conditions: none. -/
import Derived.Test.YticncidfihdipaaProg
import Derived.Test.YticncidfihdipaaGlob
import Derived.Test.YticncidfihdipaaModels
import Derived.Test.YticncidfihdipaaSort
import Derived.Test.YticncidfihdipaaSort2
import Derived.Test.YticncidfihdipaaShelfP
namespace Go.Proofs.Yticncidfihdipaa
open Go Go.GD
set_option autoImplicit false
set_option maxRecDepth 100000
variable {p1 p2 p3 p4 p5 p6 p7 : Option Addr} {c1 c2 c3 c4 c5 c6 c7 : Nat} {b1 b2 : Nat} {r_1 r_2 r_3 : Res}

abbrev e_keep_Src : E T_keep_Src := eProd (eSlice (eInt .i64)) (eInt .i64)
abbrev o_keep_Src : Opn e_keep_Src := (oP oL oI)
abbrev e_Literal : E T_Literal := eProd eBool eStr
abbrev o_Literal : Opn e_Literal := (oP oB oS)
abbrev e_Premise : E T_Premise := eProd e_Literal (eProd (eInt .i64) (eProd (eInt .i64) eStr))
abbrev o_Premise : Opn e_Premise := (oP o_Literal (oP oI (oP oI oS)))
abbrev e_Rule : E T_Rule := eProd eStr (eProd eBool (eProd (eInt .i64) (eProd (eSlice e_Literal) e_Literal)))
abbrev o_Rule : Opn e_Rule := (oP oS (oP oB (oP oI (oP oL o_Literal))))
abbrev e_Promotion : E T_Promotion := eProd eStr (eProd (eInt .i64) e_Literal)
abbrev o_Promotion : Opn e_Promotion := (oP oS (oP oI o_Literal))
abbrev e_Base : E T_Base := eProd (eSlice e_Premise) (eProd (eSlice e_Rule) (eSlice e_Promotion))
abbrev o_Base : Opn e_Base := (oP oL (oP oL oL))
abbrev e_Argument : E T_Argument := eProd (eInt .i64) (eProd (eInt .i64) (eProd (eSlice (eInt .i64)) e_Literal))
abbrev o_Argument : Opn e_Argument := (oP oI (oP oI (oP oL o_Literal)))
abbrev e_argument_builder : E T_argument_builder := eProd e_Base (eProd (eSlice e_Argument) (eProd (eSlice e_Argument) (eInt .i64)))
abbrev o_argument_builder : Opn e_argument_builder := (oP o_Base (oP oL (oP oL oI)))

theorem c_argument_builder_full {y0 : T_argument_builder} : Con Try.prog 31 [pt b1 0] [bx b1 72 [sv p1 y0.1.1 c1, sv p2 y0.1.2.1 c2, sv p3 y0.1.2.2 c3, sv p4 y0.2.1 c4, sv p5 y0.2.2.1 c5, vi y0.2.2.2]] [Rl e_Premise p1 c1 y0.1.1, Rl e_Rule p2 c2 y0.1.2.1, Rl e_Promotion p3 c3 y0.1.2.2, Rl e_Argument p4 c4 y0.2.1, Rl e_Argument p5 c5 y0.2.2.1] (m_argument_builder_full y0) fun r K=>K (vb r) [bx b1 72 [sv p1 y0.1.1 c1, sv p2 y0.1.2.1 c2, sv p3 y0.1.2.2 c3, sv p4 y0.2.1 c4, sv p5 y0.2.2.1 c5, vi y0.2.2.2]] [] :=
 ent3 Try.call31 Try.func31 rfl fun X=>jsr<|jpc 1 rfl<|jot<|jds [] [0] 13<|jdc 11 [0,1] rfl<|jdf 2 3 rfl rfl<|jdo 3 0 rfl rfl rfl rfl<|jdc 6 [4,5,6] rfl<|jdf 7 4 rfl rfl<|jdo 8 0 rfl rfl rfl rfl<|jdc 0 [9,10,11,12] rfl<|jde<|jtn<|jxr<|jr1 rfl rfl (fun _ k=>k) [0] ⟨⟩

theorem c_argument_inside {y0 : List T_Argument} {y1 : Int} : Con Try.prog 39 [sv p1 y0 c1, vi y1] [] [Rl e_Argument p1 c1 y0] (m_argument_inside y0 y1) fun r K=>K (vb r) [] [] :=
 ent3 Try.call39 Try.func39 rfl fun X=>jsr<|jpc 1 rfl<|jot<|jjp (fun K=>K [(4, vb ((decide (0 ≤ y1)) && (decide (y1 < (len y0)))))] [] []) (jrg<|jpc 3 rfl<|jsp (b := decide (0 ≤ y1)) 7 rfl (fun hb1=>jpc 4 rfl<|jpe (vb (decide (y1 < (len y0))))<|jpc 1 rfl<|joe<|
  jup 4 (vb ((decide (0 ≤ y1)) && (decide (y1 < (len y0))))) rfl (by rw [hb1]; rfl)<|jnn (gv (fun _ k=>k) [] ⟨⟩))<|fun hb1=>jpc 4 rfl<|jpe (vb false)<|jpc 1 rfl<|joe<|
  jup 4 (vb ((decide (0 ≤ y1)) && (decide (y1 < (len y0))))) rfl (by rw [hb1]; rfl)<|jnn (gv (fun _ k=>k) [] ⟨⟩))<|fun _ k=>k<|jxr<|jr1 rfl rfl (fun _ k=>k) [] ⟨⟩

theorem c_slices_Compact_int {y0 : List Int} : Con Try.prog 52 [sv p1 y0 c1] [r_1] [Al (eInt .i64) 3 r_1 p1 c1 y0] (m_slices_Compact_int y0) fun r K=>∀ p2 c2,K (sv p2 r c2) [[]] [Rl (eInt .i64) p2 c2 r] :=
 ent3 Try.call52 Try.func52 rfl fun X=>jsr<|jpc 1 rfl<|jot<|jsq<|jsr<|jpc 3 rfl<|jot<|jif rfl (jsr<|jpc 2 rfl<|jot<|jxr<|jtr<|jsh 0 0 rfl rfl<|jr1 rfl rfl (fun _ k=>k p1 c1) [900] ⟨gk 0,⟨⟩⟩)<|jsk<|jtn<|jsq<|jsr<|jpc 1 rfl<|jot<|jbk<|
  jlp (fun s1 K=>K [(0, sv p1 y0 c1), (3, vi s1)] [r_1] [Al (eInt .i64) 3 r_1 p1 c1 y0]) (gv (fun _ k=>k) [0] ⟨gk 0,⟨⟩⟩)<|fun s1 _ k=>k<|jsq<|jsr<|jpc 4 rfl<|jot<|jif rfl (jsk<|jtn<|jsq<|jbk<|jds [] [0] 10<|jdc 8 [0,1] rfl<|
  jdI 2 0 rfl rfl rfl rfl<|fun x1 h1 b1 hp1=>jdL 3 0 0 sI false oI rfl rfl hp1 h1 rfl<|jdc 3 [4,5,6] rfl<|jdI 7 0 rfl rfl rfl rfl<|fun x2 h2 b2 hp2=>jdL 8 0 0 sI false oI rfl rfl hp2 h2 rfl<|jdc 0 [9] rfl<|jde<|jtn<|jif rfl (jsr<|jpc 2 rfl<|
  jsV 0 rfl rfl rfl<|fun u1 p2 c2 f1=>jpc 1 rfl<|jot<|jjn (fun s2 K=>∀ r_2,K [(0, .slice p1 (List.length y0) c1), (3, vi s2.2)] [r_2] [Ar (eInt .i64) 3 r_2 p1 c1 (List.length y0) s2.1]) (jsr<|jpc 1 rfl<|jot<|jbk<|
  jlp (fun s3 K=>∀ r_3,K [(0, .slice p1 (List.length y0) c1), (3, vi s3.2.1), (4, .slice p2 (Int.toNat (((List.length y0 : Nat) : Int) - s1)) c2), (5, vi s3.2.2)] [r_3] [Ar (eInt .i64) 3 r_3 p1 c1 (List.length y0) s3.1]) (gv (fun _ k=>k r_1) [0] ⟨gk 0,⟨⟩⟩)<|
  fun s3 _ k r_3=>k<|jsq<|jsr<|jpc 4 rfl<|jot<|jif rfl (jsk<|jtn<|jsq<|jbk<|jds [] [0] 10<|jdc 8 [0,1] rfl<|jdX 2 0 rfl rfl f1 rfl rfl<|fun x3 b3 hp3 h3=>jdL 3 0 0 sI false oI rfl rfl hp3 h3 rfl<|jdc 3 [4,5,6] rfl<|
  jdX 7 0 rfl rfl f1 rfl rfl<|fun x4 b4 hp4 h4=>jdL 8 0 0 sI false oI rfl rfl hp4 h4 rfl<|jdc 0 [9] rfl<|jde<|jtn<|jif rfl (jsr<|jpc 4 rfl<|jiV 0 rfl f1 rfl rfl<|fun x5 b5 hp5 h5=>jlA 0 0 sI false oI rfl hp5 h5 rfl<|jia 0 rfl rfl rfl<|
  fun x6 h6 b6 hp6=>jsA .s 0 0 sI x5 false rfl hp6 h6 rfl rfl vI<|fun r_4=>jot<|jrg<|jpc 3 rfl<|joe<|jbn<|jtn<|jrg<|jpc 3 rfl<|joe<|jln (gv (fun _ k=>k r_4) [0] ⟨gk 0,⟨⟩⟩))<|jsk<|jbn<|jtn<|jrg<|jpc 3 rfl<|joe<|
  jln (gv (fun _ k=>k r_3) [0] ⟨gk 0,⟨⟩⟩))<|jxe<|jte<|jle<|jbh<|jnn (gv (fun _ k=>k r_3) [0] ⟨gk 0,⟨⟩⟩))<|fun s2 _ k r_2=>k<|jsr<|jpc 2 rfl<|jsV 0 rfl rfl rfl<|fun u2 p3 c3 f2=>jcv .s 0 0 0 (vi 0) rfl f2 rfl vI<|fun r_5=>jot<|jsr<|jpc 2 rfl<|
  jsP 0 rfl rfl rfl<|fun x7=>jpc 1 rfl<|jot<|jxr<|jbr<|jtr<|jlr<|jbr<|jtr<|jsh 0 0 rfl rfl<|jr1 rfl rfl (fun _ k=>k p1 c1) [900] ⟨gk 0,⟨⟩⟩)<|jsk<|jbn<|jtn<|jrg<|jpc 3 rfl<|joe<|jln (gv (fun _ k=>k) [0] ⟨gk 0,⟨⟩⟩))<|jxe<|jte<|jle<|jbh<|jtn<|
  jsr<|jpc 2 rfl<|jot<|jxr<|jsh 0 0 rfl rfl<|jr1 rfl rfl (fun _ k=>k p1 c1) [900] ⟨gk 0,⟨⟩⟩

theorem c_slices_Sort_int {y0 : List Int} : Con Try.prog 51 [sv p1 y0 c1] [r_1] [Al (eInt .i64) 3 r_1 p1 c1 y0] (m_slices_Sort_int y0) fun r K=>∀ r_2,K (.tuple #[]) [r_2] [Ar (eInt .i64) 3 r_2 p1 c1 (List.length y0) r] := ⟨Try.call51, fun A w0 r hm hO hF => by
 have h := sort_int Try.sorts51 (te := 3) hO hF.1.1 hm
 change Calls Try.prog 51 _ _ _ at h
 refine h.mono fun e w' h => ?_
 cases e with
 | returned v => obtain ⟨r', rfl, h1, h2, h3, h4⟩ := h; exact fun G k => k r' ⟨rfl, h1, h2, ⟨h3, h4.symm⟩, trivial⟩
 | panicked ch => exact h
 | outgrown => exact h⟩

theorem k_argument_Subs_all (k : Nat) :
    (∀ {y0 : List T_Argument} {p1 : Option Addr} {c1 : Nat} {y1 : Int}, Con Try.prog 33 [sv p1 y0 c1, vi y1] [] [Rl e_Argument p1 c1 y0] (k_argument_Subs k y0 y1) fun r K=>∀ p2 c2,K (sv p2 r c2) [] [Rl (eInt .i64) p2 c2 r]) := by
  induction k with
  | zero => exact con0 Try.call33
  | succ k ih =>
    have ih_argument_Subs := @ih
    exact @fun y0 p1 c1 y1=>ent3 (m1 := F_argument_Subs (k_argument_Subs k) y0 y1) Try.call33 Try.func33 rfl fun X=>jsr<|jpc 1 rfl<|jot<|jsq<|jsr<|jpc 2 rfl<|jcl c_argument_inside rfl ⟨ck 0,⟨⟩⟩<|fun r1 _ k=>k<|jpc 1 rfl<|jot<|jif rfl (jsr<|jpc 1 rfl<|jot<|jxr<|jtr<|jr1 rfl rfl (fun _ k=>k none 0) [] ⟨gn,⟨⟩⟩)<|jsk<|jtn<|jsr<|jpc 1 rfl<|
  jbo .s (e := eInt .i64) 3 [vi y1] ([y1] : List Int) (rC vI rN)<|fun r_1 p2 c2=>jpc 1 rfl<|jot<|jjn (fun s1 K=>∀ p3 c3 r_2,K [(5, sv p3 s1 c3)] [r_2] [Al (eInt .i64) 3 r_2 p3 c3 s1]) (jsr<|jpc 2 rfl<|jix 1 rfl rfl rfl<|fun x1 b1 o1=>
  jfa 2 rfl<|jld false oL (gf (gs (gs (gk 0)))) rfl<|fun p4 c4=>jpc 2 rfl<|jot<|jbk<|
  jlp (fun s2 K=>∀ p5 c5 r_3,K [(0, sv p1 y0 c1), (5, sv p5 s2.1 c5), (18, sv p4 x1.2.2.1 c4), (19, vi (len x1.2.2.1)), (20, vi s2.2)] [r_3] [Al (eInt .i64) 3 r_3 p5 c5 s2.1, Rl e_Argument p1 c1 y0, Rl (eInt .i64) p4 c4 x1.2.2.1]) (gv (fun _ k=>k p2 c2 r_1) [0] ⟨gk 2,gk 3,gk 0,⟨⟩⟩)<|
  fun s2 _ k p5 c5 r_3=>k<|jsr<|jpc 1 rfl<|jot<|jsq<|jif rfl (jsk<|jtn<|jsq<|jbk<|jsr<|jix 2 rfl rfl rfl<|fun x2 b2 o2=>jld false oI (gk 0) rfl<|jpc 1 rfl<|jot<|jrg<|jpc 3 rfl<|jcl ih_argument_Subs rfl ⟨ck 2,⟨⟩⟩<|fun r2 _ k p6 c6=>k<|
  jar .s 0 2 rfl (gk 0) rfl rfl<|fun x3 r_4 p7 c7=>jpc 1 rfl<|joe<|jbn<|jtn<|jrg<|jpc 2 rfl<|joe<|jln (gv (fun _ k=>k p7 c7 r_4) [0] ⟨gk 0,gk 4,gk 5,⟨⟩⟩))<|jxe<|jte<|jle<|jbh<|jnn (gv (fun _ k=>k p5 c5 r_3) [0] ⟨gk 0,⟨⟩⟩))<|
  fun s1 _ k p3 c3 r_2=>k<|jsr<|jpc 1 rfl<|jca .s [0] [] c_slices_Sort_int rfl rfl rfl ⟨ck 0,⟨⟩⟩<|fun r3 _ k r_5=>k<|jot<|jsr<|jpc 1 rfl<|jrE 0 32 rfl rfl<|jca .s [0] [] c_slices_Compact_int rfl rfl rfl ⟨ck 0,⟨⟩⟩<|fun r4 _ k p8 c8=>k<|
  jpc 1 rfl<|jot<|jxr<|jr1 rfl rfl (fun _ k=>k p8 c8) [] ⟨gk 0,⟨⟩⟩

theorem c_argument_Subs {y0 : List T_Argument} {y1 : Int} : Con Try.prog 33 [sv p1 y0 c1, vi y1] [] [Rl e_Argument p1 c1 y0] (m_argument_Subs y0 y1) fun r K=>∀ p2 c2,K (sv p2 r c2) [] [Rl (eInt .i64) p2 c2 r] := conLim fun k => (k_argument_Subs_all k)

theorem c_argument_Defeasible {y0 : T_Base} {y1 : List T_Argument} {y2 : Int} : Con Try.prog 71 [.agg #[sv p1 y0.1 c1, sv p2 y0.2.1 c2, sv p3 y0.2.2 c3], sv p4 y1 c4, vi y2] [] [Rl e_Premise p1 c1 y0.1, Rl e_Rule p2 c2 y0.2.1, Rl e_Promotion p3 c3 y0.2.2, Rl e_Argument p4 c4 y1] (m_argument_Defeasible y0 y1 y2) fun r K=>∀ p5 c5,K (sv p5 r c5) [] [Rl (eInt .i64) p5 c5 r] :=
 ent3 Try.call71 Try.func71 rfl fun X=>jsr<|jbx .s rfl<|fun b1=>jpc 1 rfl<|jot<|jsr<|jpc 1 rfl<|jro (eInt .i64) 3<|jot<|jjn (fun s1 K=>∀ p5 c5 r_1,K [(7, sv p5 s1 c5)] [[], r_1] [Al (eInt .i64) 3 r_1 p5 c5 s1]) (jsr<|jpc 2 rfl<|jcl c_argument_Subs rfl ⟨ck 4,⟨⟩⟩<|
  fun r1 _ k p6 c6=>k<|jpc 2 rfl<|jot<|jbk<|
  jlp (fun s2 K=>∀ p7 c7 r_2,K [(1, sv p4 y1 c4), (3, pt b1 0), (7, sv p7 s2.1 c7), (13, sv p6 r1 c6), (14, vi (len r1)), (15, vi s2.2)] [bx b1 29 [sv p1 y0.1 c1, sv p2 y0.2.1 c2, sv p3 y0.2.2 c3], r_2] [Al (eInt .i64) 3 r_2 p7 c7 s2.1, Rl e_Argument p4 c4 y1, Rl (eInt .i64) p6 c6 r1, Rl e_Premise p1 c1 y0.1, Rl e_Rule p2 c2 y0.2.1, Rl e_Promotion p3 c3 y0.2.2]) (gv (fun _ k=>k none 0 []) [0,1] ⟨gk 1,gk 5,gk 0,gk 2,gk 3,gk 4,⟨⟩⟩)<|
  fun s2 _ k p7 c7 r_2=>k<|jsr<|jpc 1 rfl<|jot<|jsq<|jif rfl (jsk<|jtn<|jsq<|jbk<|jsr<|jix 2 rfl rfl rfl<|fun x1 b2 o1=>jld false oI (gk 0) rfl<|jpc 1 rfl<|jot<|jsr<|jpc 2 rfl<|jix 2 rfl rfl rfl<|fun x2 b3 o2=>jfa 1 rfl<|
  jld false oI (gf (gs (gk 0))) rfl<|jpc 1 rfl<|jot<|
  jjn (fun s3 K=>K [(1, sv p4 y1 c4), (3, pt b1 0), (7, sv p7 s2.1 c7), (10, vi x2.2.1), (13, sv p6 r1 c6), (14, vi (len r1)), (15, vi s2.2), (34, vb s3)] [bx b1 29 [sv p1 y0.1 c1, sv p2 y0.2.1 c2, sv p3 y0.2.2 c3], r_2] [Rl e_Argument p4 c4 y1, Al (eInt .i64) 3 r_2 p7 c7 s2.1, Rl (eInt .i64) p6 c6 r1, Rl e_Premise p1 c1 y0.1, Rl e_Rule p2 c2 y0.2.1, Rl e_Promotion p3 c3 y0.2.2]) (
  jrg<|jpc 3 rfl<|jsg 26 rfl (jfa 1 rfl<|jlo 0 rfl rfl rfl<|jpc 1 rfl<|jix 6 rfl rfl rfl<|fun x3 b4 o3=>jfa 1 rfl<|jld false oB (gf (gs (gk 0))) rfl<|jpc 1 rfl<|jpe (vb (!x3.2.1))<|joe<|
  jnn (gv (fun _ k=>k) [0,1] ⟨gk 4,gk 3,gk 5,gk 6,gk 7,gk 8,⟨⟩⟩))<|jpc 7 rfl<|jpe (vb false)<|joe<|jnn (gv (fun _ k=>k) [0,1] ⟨gk 3,gk 2,gk 4,gk 5,gk 6,gk 7,⟨⟩⟩))<|fun s3 _ k=>k<|jif rfl (jrg<|jpc 2 rfl<|
  jbs .s (e := eInt .i64) 3 [vi x2.2.1] ([x2.2.1] : List Int) (rC vI rN)<|fun p8 c8=>jar .s 1 2 rfl (gk 0) rfl rfl<|fun x4 r_3 p9 c9=>jpc 1 rfl<|joe<|jbn<|jtn<|jrg<|jpc 2 rfl<|joe<|
  jln (gv (fun _ k=>k p9 c9 r_3) [0,1] ⟨gk 0,gk 2,gk 4,gk 5,gk 6,gk 7,⟨⟩⟩))<|jsk<|jbn<|jtn<|jrg<|jpc 2 rfl<|joe<|jln (gv (fun _ k=>k p7 c7 r_2) [0,1] ⟨gk 1,gk 0,gk 2,gk 3,gk 4,gk 5,⟨⟩⟩))<|jxe<|jte<|jle<|jbh<|
  jnn (gv (fun _ k=>k p7 c7 r_2) [900,1] ⟨gk 0,⟨⟩⟩))<|fun s1 _ k p5 c5 r_1=>k<|jsr<|jpc 1 rfl<|jca .s [1] [] c_slices_Sort_int rfl rfl rfl ⟨ck 0,⟨⟩⟩<|fun r2 _ k r_4=>k<|jot<|jsr<|jpc 1 rfl<|jrE 0 42 rfl rfl<|
  jca .s [1] [] c_slices_Compact_int rfl rfl rfl ⟨ck 0,⟨⟩⟩<|fun r3 _ k p10 c10=>k<|jpc 1 rfl<|jot<|jxr<|jr1 rfl rfl (fun _ k=>k p10 c10) [] ⟨gk 0,⟨⟩⟩

theorem k_argument_run_all (k : Nat) :
    (∀ {y0 : T_Base} {p1 : Option Addr} {c1 : Nat} {p2 : Option Addr} {c2 : Nat} {p3 : Option Addr} {c3 : Nat} {y1 : List T_Argument} {p4 : Option Addr} {c4 : Nat} {y2 : Int}, Con Try.prog 69 [.agg #[sv p1 y0.1 c1, sv p2 y0.2.1 c2, sv p3 y0.2.2 c3], sv p4 y1 c4, vi y2] [] [Rl e_Premise p1 c1 y0.1, Rl e_Rule p2 c2 y0.2.1, Rl e_Promotion p3 c3 y0.2.2, Rl e_Argument p4 c4 y1] (k_argument_run k y0 y1 y2) fun r K=>∀ p5 c5,K (sv p5 r c5) [] [Rl e_Literal p5 c5 r]) := by
  induction k with
  | zero => exact con0 Try.call69
  | succ k ih =>
    have ih_argument_run := @ih
    exact @fun y0 p1 c1 p2 c2 p3 c3 y1 p4 c4 y2=>ent3 (m1 := F_argument_run (k_argument_run k) y0 y1 y2) Try.call69 Try.func69 rfl fun X=>jsr<|jbx .s rfl<|fun b1=>jpc 1 rfl<|jot<|jsr<|jpc 2 rfl<|jix 3 rfl rfl rfl<|fun x1 b2 o1=>jfa 3 rfl<|jld true o_Literal (gs (gs (gs (gk 0)))) rfl<|
  jbo .s (e := e_Literal) 39 [vb x1.2.2.2.1, vs x1.2.2.2.2] ([x1.2.2.2] : List T_Literal) (rC (vP vB vS) rN)<|fun r_1 p5 c5=>jpc 1 rfl<|jot<|jsq<|jsr<|jpc 2 rfl<|jix 5 rfl rfl rfl<|fun x2 b3 o2=>jfa 1 rfl<|jld false oI (gf (gs (gk 0))) rfl<|
  jpc 1 rfl<|jot<|
  jjn (fun s1 K=>K [(1, sv p4 y1 c4), (2, vi y2), (3, pt b1 0), (7, sv p5 ([x1.2.2.2] : List T_Literal) c5), (31, vb s1)] [bx b1 29 [sv p1 y0.1 c1, sv p2 y0.2.1 c2, sv p3 y0.2.2 c3], r_1] [Rl e_Argument p4 c4 y1, Al e_Literal 39 r_1 p5 c5 ([x1.2.2.2] : List T_Literal), Rl e_Premise p1 c1 y0.1, Rl e_Rule p2 c2 y0.2.1, Rl e_Promotion p3 c3 y0.2.2]) (
  jrg<|jpc 3 rfl<|jsg 24 rfl (jfa 1 rfl<|jlo 0 rfl rfl rfl<|jpc 1 rfl<|jix 4 rfl rfl rfl<|fun x3 b4 o3=>jfa 1 rfl<|jld false oB (gf (gs (gk 0))) rfl<|jpe (vb x3.2.1)<|joe<|jnn (gv (fun _ k=>k) [0,1] ⟨gk 7,gk 2,gk 4,gk 5,gk 6,⟨⟩⟩))<|
  jpc 6 rfl<|jpe (vb false)<|joe<|jnn (gv (fun _ k=>k) [0,1] ⟨gk 6,gk 1,gk 3,gk 4,gk 5,⟨⟩⟩))<|fun s1 _ k=>k<|jif rfl (jsr<|jpc 2 rfl<|jix 0 rfl rfl rfl<|fun x4 b5 o4=>jfa 2 rfl<|jld false oL (gf (gs (gs (gk 0)))) rfl<|fun p6 c6=>jpc 2 rfl<|
  jot<|jbk<|
  jlp (fun s2 K=>∀ p7 c7 r_2,K [(1, sv p4 y1 c4), (3, pt b1 0), (7, sv p7 s2.1 c7), (36, sv p6 x4.2.2.1 c6), (37, vi (len x4.2.2.1)), (38, vi s2.2)] [bx b1 29 [sv p1 y0.1 c1, sv p2 y0.2.1 c2, sv p3 y0.2.2 c3], r_2] [Al e_Literal 39 r_2 p7 c7 s2.1, Rl e_Argument p4 c4 y1, Rl (eInt .i64) p6 c6 x4.2.2.1, Rl e_Premise p1 c1 y0.1, Rl e_Rule p2 c2 y0.2.1, Rl e_Promotion p3 c3 y0.2.2]) (gv (fun _ k=>k p5 c5 r_1) [0,1] ⟨gk 3,gk 2,gk 0,gk 4,gk 5,gk 6,⟨⟩⟩)<|
  fun s2 _ k p7 c7 r_2=>k<|jsr<|jpc 1 rfl<|jot<|jsq<|jif rfl (jsk<|jtn<|jsq<|jbk<|jsr<|jix 2 rfl rfl rfl<|fun x5 b6 o5=>jld false oI (gk 0) rfl<|jpc 1 rfl<|jot<|jrg<|jpc 1 rfl<|jla 0 3 rfl rfl rfl<|jpc 2 rfl<|
  jcl ih_argument_run rfl ⟨ck 4,ck 5,ck 6,ck 2,⟨⟩⟩<|fun r1 _ k p8 c8=>k<|jar .s 1 2 rfl (gk 0) rfl rfl<|fun x6 r_3 p9 c9=>jpc 1 rfl<|joe<|jbn<|jtn<|jrg<|jpc 2 rfl<|joe<|jln (gv (fun _ k=>k p9 c9 r_3) [0,1] ⟨gk 0,gk 4,gk 5,gk 6,gk 7,gk 8,⟨⟩⟩)
  )<|jxe<|jte<|jle<|jbh<|jtn<|jsr<|jpc 2 rfl<|jot<|jxr<|jsh 1 0 rfl rfl<|jr1 rfl rfl (fun _ k=>k p7 c7) [] ⟨gk 0,⟨⟩⟩)<|jsk<|jtn<|jsr<|jpc 2 rfl<|jot<|jxr<|jsh 1 1 rfl rfl<|jr1 rfl rfl (fun _ k=>k p5 c5) [] ⟨gk 0,⟨⟩⟩

theorem c_argument_run {y0 : T_Base} {y1 : List T_Argument} {y2 : Int} : Con Try.prog 69 [.agg #[sv p1 y0.1 c1, sv p2 y0.2.1 c2, sv p3 y0.2.2 c3], sv p4 y1 c4, vi y2] [] [Rl e_Premise p1 c1 y0.1, Rl e_Rule p2 c2 y0.2.1, Rl e_Promotion p3 c3 y0.2.2, Rl e_Argument p4 c4 y1] (m_argument_run y0 y1 y2) fun r K=>∀ p5 c5,K (sv p5 r c5) [] [Rl e_Literal p5 c5 r] := conLim fun k => (k_argument_run_all k)

theorem c_slices_Index_Literal {y0 : List T_Literal} {y1 : T_Literal} : Con Try.prog 99 [sv p1 y0 c1, .agg #[vb y1.1, vs y1.2]] [] [Rl e_Literal p1 c1 y0] (m_slices_Index_Literal y0 y1) fun r K=>K (vi r) [] [] :=
 ent3 Try.call99 Try.func99 rfl fun X=>jsr<|jbx .s rfl<|fun b1=>jpc 1 rfl<|jot<|jsq<|jsr<|jpc 3 rfl<|jot<|jbk<|jlp (fun s1 K=>K [(0, sv p1 y0 c1), (3, pt b1 0), (7, vi (len y0)), (8, vi s1)] [bx b1 39 [vb y1.1, vs y1.2]] [Rl e_Literal p1 c1 y0]) (gv (fun _ k=>k) [0] ⟨gk 0,⟨⟩⟩)<|
  fun s1 _ k=>k<|jsr<|jpc 1 rfl<|jot<|jsq<|jif rfl (jsk<|jtn<|jsq<|jbk<|jsr<|jpc 2 rfl<|jot<|jds [] [0] 6<|jda 0 0 2 rfl rfl rfl rfl<|jdc 3 [1,2] rfl<|jdi 3 0 rfl rfl rfl rfl<|fun x1 b2 o1=>jdl 4 true o_Literal rfl (gk 0) rfl<|
  jdp 5 (vb (y1 == x1)) rfl<|jde<|jtn<|jif rfl (jsr<|jpc 2 rfl<|jot<|jxr<|jbr<|jtr<|jlr<|jbr<|jtr<|jr1 rfl rfl (fun _ k=>k) [] ⟨⟩)<|jsk<|jbn<|jtn<|jrg<|jpc 2 rfl<|joe<|jln (gv (fun _ k=>k) [0] ⟨gk 1,⟨⟩⟩))<|jxe<|jte<|jle<|jbh<|jtn<|jsr<|
  jpc 1 rfl<|jot<|jxr<|jr1 rfl rfl (fun _ k=>k) [] ⟨⟩

theorem c_slices_Contains_Literal {y0 : List T_Literal} {y1 : T_Literal} : Con Try.prog 77 [sv p1 y0 c1, .agg #[vb y1.1, vs y1.2]] [] [Rl e_Literal p1 c1 y0] (m_slices_Contains_Literal y0 y1) fun r K=>K (vb r) [] [] :=
 ent3 Try.call77 Try.func77 rfl fun X=>jsr<|jbx .s rfl<|fun b1=>jpc 1 rfl<|jot<|jsr<|jpc 1 rfl<|jla 0 2 rfl rfl rfl<|jcl c_slices_Index_Literal rfl ⟨ck 0,⟨⟩⟩<|fun r1 _ k=>k<|jpc 2 rfl<|jot<|jxr<|jr1 rfl rfl (fun _ k=>k) [] ⟨⟩

theorem c_literal_Has {y0 : List T_Literal} {y1 : T_Literal} : Con Try.prog 68 [sv p1 y0 c1, .agg #[vb y1.1, vs y1.2]] [] [Rl e_Literal p1 c1 y0] (m_literal_Has y0 y1) fun r K=>K (vb r) [] [] :=
 ent3 Try.call68 Try.func68 rfl fun X=>jsr<|jbx .s rfl<|fun b1=>jpc 1 rfl<|jot<|jsr<|jpc 1 rfl<|jla 0 2 rfl rfl rfl<|jcl c_slices_Contains_Literal rfl ⟨ck 0,⟨⟩⟩<|fun r1 _ k=>k<|jpc 1 rfl<|jot<|jxr<|jr1 rfl rfl (fun _ k=>k) [] ⟨⟩

theorem c_slices_Index_int {y0 : List Int} {y1 : Int} : Con Try.prog 78 [sv p1 y0 c1, vi y1] [] [Rl (eInt .i64) p1 c1 y0] (m_slices_Index_int y0 y1) fun r K=>K (vi r) [] [] :=
 ent3 Try.call78 Try.func78 rfl fun X=>jsr<|jpc 1 rfl<|jot<|jsq<|jsr<|jpc 3 rfl<|jot<|jbk<|jlp (fun s1 K=>K [(0, sv p1 y0 c1), (1, vi y1), (7, vi (len y0)), (8, vi s1)] [] [Rl (eInt .i64) p1 c1 y0]) (gv (fun _ k=>k) [] ⟨gk 0,⟨⟩⟩)<|fun s1 _ k=>k<|jsr<|jpc 1 rfl<|jot<|jsq<|
  jif rfl (jsk<|jtn<|jsq<|jbk<|jsr<|jpc 2 rfl<|jot<|jsr<|jpc 3 rfl<|jix 0 rfl rfl rfl<|fun x1 b1 o1=>jld false oI (gk 0) rfl<|jpc 1 rfl<|jot<|jif rfl (jsr<|jpc 2 rfl<|jot<|jxr<|jbr<|jtr<|jlr<|jbr<|jtr<|jr1 rfl rfl (fun _ k=>k) [] ⟨⟩)<|jsk<|
  jbn<|jtn<|jrg<|jpc 2 rfl<|joe<|jln (gv (fun _ k=>k) [] ⟨gk 1,⟨⟩⟩))<|jxe<|jte<|jle<|jbh<|jtn<|jsr<|jpc 1 rfl<|jot<|jxr<|jr1 rfl rfl (fun _ k=>k) [] ⟨⟩

theorem c_slices_Contains_int {y0 : List Int} {y1 : Int} : Con Try.prog 70 [sv p1 y0 c1, vi y1] [] [Rl (eInt .i64) p1 c1 y0] (m_slices_Contains_int y0 y1) fun r K=>K (vb r) [] [] :=
 ent3 Try.call70 Try.func70 rfl fun X=>jsr<|jpc 1 rfl<|jot<|jsr<|jpc 2 rfl<|jcl c_slices_Index_int rfl ⟨ck 0,⟨⟩⟩<|fun r1 _ k=>k<|jpc 2 rfl<|jot<|jxr<|jr1 rfl rfl (fun _ k=>k) [] ⟨⟩

theorem c_argument_within {y0 : T_Base} {y1 : List T_Argument} {y2 : Int} {y3 : List Int} : Con Try.prog 50 [.agg #[sv p1 y0.1 c1, sv p2 y0.2.1 c2, sv p3 y0.2.2 c3], sv p4 y1 c4, vi y2, sv p5 y3 c5] [] [Rl e_Premise p1 c1 y0.1, Rl e_Rule p2 c2 y0.2.1, Rl e_Promotion p3 c3 y0.2.2, Rl e_Argument p4 c4 y1, Rl (eInt .i64) p5 c5 y3] (m_argument_within y0 y1 y2 y3) fun r K=>K (vb r) [] [] :=
 ent3 Try.call50 Try.func50 rfl fun X=>jsr<|jbx .s rfl<|fun b1=>jpc 1 rfl<|jot<|jsq<|jsr<|jpc 3 rfl<|jot<|jbk<|
  jlp (fun s1 K=>K [(1, sv p4 y1 c4), (2, vi y2), (4, pt b1 0), (11, sv p5 y3 c5), (12, vi (len y3)), (13, vi s1)] [bx b1 29 [sv p1 y0.1 c1, sv p2 y0.2.1 c2, sv p3 y0.2.2 c3]] [Rl e_Argument p4 c4 y1, Rl (eInt .i64) p5 c5 y3, Rl e_Premise p1 c1 y0.1, Rl e_Rule p2 c2 y0.2.1, Rl e_Promotion p3 c3 y0.2.2]) (gv (fun _ k=>k) [0] ⟨gk 3,gk 4,gk 0,gk 1,gk 2,⟨⟩⟩)<|
  fun s1 _ k=>k<|jsr<|jpc 1 rfl<|jot<|jsq<|jif rfl (jsk<|jtn<|jsq<|jbk<|jsr<|jix 1 rfl rfl rfl<|fun x1 b2 o1=>jld false oI (gk 0) rfl<|jpc 1 rfl<|jot<|jsr<|jfa 1 rfl<|jlo 0 rfl rfl rfl<|jpc 1 rfl<|jix 4 rfl rfl rfl<|fun x2 b3 o2=>jfa 1 rfl<|
  jld false oB (gf (gs (gk 0))) rfl<|jot<|jif rfl (jds [] [0] 11<|jda 0 0 3 rfl rfl rfl rfl<|jdc 8 [1,2] rfl<|jdf 4 1 rfl rfl<|jdo 5 0 rfl rfl rfl rfl<|jdc 5 [6] rfl<|jdi 7 5 rfl rfl rfl rfl<|fun x3 b4 o3=>jdf 8 4 rfl rfl<|
  jdl 9 true o_Literal rfl (gs (gs (gs (gs (gk 0))))) rfl<|jd1 3<|jca (.f rfl) [] [] c_argument_run rfl rfl rfl ⟨ck 5,ck 6,ck 7,ck 3,⟨⟩⟩<|fun r1 _ k p6 c6=>k<|jdn<|jd1 10<|jca (.f rfl) [] [] c_literal_Has rfl rfl rfl ⟨ck 0,⟨⟩⟩<|fun r2 _ k=>
  k<|jdn<|jde<|jtn<|jif rfl (jsr<|jpc 1 rfl<|jot<|jxr<|jbr<|jtr<|jlr<|jbr<|jtr<|jr1 rfl rfl (fun _ k=>k) [] ⟨⟩)<|jsk<|jbn<|jtn<|jrg<|jpc 2 rfl<|joe<|jln (gv (fun _ k=>k) [0] ⟨gk 4,gk 5,gk 6,gk 7,gk 8,⟨⟩⟩))<|jsr<|jla 0 3 rfl rfl rfl<|
  jpc 2 rfl<|jcl c_argument_Defeasible rfl ⟨ck 4,ck 5,ck 6,ck 2,⟨⟩⟩<|fun r3 _ k p7 c7=>k<|jpc 1 rfl<|jcl c_slices_Contains_int rfl ⟨ck 0,⟨⟩⟩<|fun r4 _ k=>k<|jot<|jif rfl (jsr<|jpc 1 rfl<|jot<|jxr<|jbr<|jtr<|jlr<|jbr<|jtr<|
  jr1 rfl rfl (fun _ k=>k) [] ⟨⟩)<|jsk<|jbn<|jtn<|jrg<|jpc 2 rfl<|joe<|jln (gv (fun _ k=>k) [0] ⟨gk 3,gk 4,gk 5,gk 6,gk 7,⟨⟩⟩))<|jxe<|jte<|jle<|jbh<|jtn<|jsr<|jpc 1 rfl<|jot<|jxr<|jr1 rfl rfl (fun _ k=>k) [] ⟨⟩

theorem c_slices_Clone_int {y0 : List Int} : Con Try.prog 47 [sv p1 y0 c1] [] [Rl (eInt .i64) p1 c1 y0] (m_slices_Clone_int y0) fun r K=>∀ p2 c2 r_1,K (sv p2 r c2) [r_1] [Al (eInt .i64) 3 r_1 p2 c2 r] :=
 ent3 Try.call47 Try.func47 rfl fun X=>jsr<|jpc 1 rfl<|jot<|jsq<|jsr<|jpc 1 rfl<|jv (fun h=>r_nil h rfl Try.underlying22)<|jot<|jnl (m1 := some ([] : List Int)) rfl (gk 0) (fun h=>by first|(rw [h];done)|(rw [h];rfl)|(simp [h,app];done)) (jsr<|jpc 1 rfl<|jot<|jxr<|jtr<|
  jro (eInt .i64) 3<|jrE 0 2 rfl rfl<|jr1 rfl rfl (fun _ k=>k none 0 []) [0] ⟨gk 0,⟨⟩⟩)<|jsk<|jtn<|jsr<|jbo .s (e := eInt .i64) 3 [] ([] : List Int) rN<|fun r_1 p2 c2=>jpc 1 rfl<|jar .s 0 0 rfl (gk 1) rfl rfl<|fun x1 r_2 p3 c3=>jpc 1 rfl<|
  jot<|jxr<|jr1 rfl rfl (fun _ k=>k p3 c3 r_2) [0] ⟨gk 0,⟨⟩⟩

theorem c_argument_builder_apply_1 {y0 : Int} {y2 : T_argument_builder} : Con Try.prog 49 [vi y0, pt b1 0] [bx b1 70 [pt b2 0], bx b2 72 [sv p1 y2.1.1 c1, sv p2 y2.1.2.1 c2, sv p3 y2.1.2.2 c3, sv p4 y2.2.1 c4, sv p5 y2.2.2.1 c5, vi y2.2.2.2]] [Rl e_Premise p1 c1 y2.1.1, Rl e_Rule p2 c2 y2.1.2.1, Rl e_Promotion p3 c3 y2.1.2.2, Rl e_Argument p4 c4 y2.2.1, Rl e_Argument p5 c5 y2.2.2.1] (m_argument_builder_apply_1 y0 y2) fun r K=>K (vb r) [bx b1 70 [pt b2 0], bx b2 72 [sv p1 y2.1.1 c1, sv p2 y2.1.2.1 c2, sv p3 y2.1.2.2 c3, sv p4 y2.2.1 c4, sv p5 y2.2.2.1 c5, vi y2.2.2.2]] [] :=
 ent3 Try.call49 Try.func49 rfl fun X=>jsr<|jpc 1 rfl<|jot<|jsr<|jpc 1 rfl<|jlo 0 rfl rfl rfl<|jpc 1 rfl<|jfa 5 rfl<|jlo 1 rfl rfl rfl<|jpc 2 rfl<|jot<|jxr<|jr1 rfl rfl (fun _ k=>k) [0,1] ⟨⟩

theorem c_slices_IndexFunc_int__argument_builder_apply_1 {y0 : List Int} {y2 : T_argument_builder} : Con Try.prog 67 [sv p1 y0 c1, .func (.func 49) #[] #[pt b1 0]] [bx b1 70 [pt b2 0], bx b2 72 [sv p2 y2.1.1 c2, sv p3 y2.1.2.1 c3, sv p4 y2.1.2.2 c4, sv p5 y2.2.1 c5, sv p6 y2.2.2.1 c6, vi y2.2.2.2]] [Rl (eInt .i64) p1 c1 y0, Rl e_Premise p2 c2 y2.1.1, Rl e_Rule p3 c3 y2.1.2.1, Rl e_Promotion p4 c4 y2.1.2.2, Rl e_Argument p5 c5 y2.2.1, Rl e_Argument p6 c6 y2.2.2.1] (m_slices_IndexFunc_int__argument_builder_apply_1 y0 y2) fun r K=>K (vi r) [bx b1 70 [pt b2 0], bx b2 72 [sv p2 y2.1.1 c2, sv p3 y2.1.2.1 c3, sv p4 y2.1.2.2 c4, sv p5 y2.2.1 c5, sv p6 y2.2.2.1 c6, vi y2.2.2.2]] [] :=
 ent3 Try.call67 Try.func67 rfl fun X=>jsr<|jpc 1 rfl<|jot<|jsq<|jsr<|jpc 3 rfl<|jot<|jbk<|
  jlp (fun s1 K=>K [(0, sv p1 y0 c1), (1, .func (.func 49) #[] #[pt b1 0]), (7, vi (len y0)), (8, vi s1)] [bx b1 70 [pt b2 0], bx b2 72 [sv p2 y2.1.1 c2, sv p3 y2.1.2.1 c3, sv p4 y2.1.2.2 c4, sv p5 y2.2.1 c5, sv p6 y2.2.2.1 c6, vi y2.2.2.2]] [Rl (eInt .i64) p1 c1 y0, Rl e_Premise p2 c2 y2.1.1, Rl e_Rule p3 c3 y2.1.2.1, Rl e_Promotion p4 c4 y2.1.2.2, Rl e_Argument p5 c5 y2.2.1, Rl e_Argument p6 c6 y2.2.2.1]) (gv (fun _ k=>k) [0,1] ⟨gk 0,gk 1,gk 2,gk 3,gk 4,gk 5,⟨⟩⟩)<|
  fun s1 _ k=>k<|jsr<|jpc 1 rfl<|jot<|jsq<|jif rfl (jsk<|jtn<|jsq<|jbk<|jsr<|jpc 2 rfl<|jot<|jsr<|jpc 3 rfl<|jix 0 rfl rfl rfl<|fun x1 b3 o1=>jld false oI (gk 0) rfl<|
  jca .s [0, 1] [] c_argument_builder_apply_1 rfl rfl rfl ⟨ck 2,ck 3,ck 4,ck 5,ck 6,⟨⟩⟩<|fun r1 _ k=>k<|jot<|jif rfl (jsr<|jpc 2 rfl<|jot<|jxr<|jbr<|jtr<|jlr<|jbr<|jtr<|jr1 rfl rfl (fun _ k=>k) [0,1] ⟨⟩)<|jsk<|jbn<|jtn<|jrg<|jpc 2 rfl<|joe<|
  jln (gv (fun _ k=>k) [0,1] ⟨gk 1,gk 2,gk 3,gk 4,gk 5,gk 6,⟨⟩⟩))<|jxe<|jte<|jle<|jbh<|jtn<|jsr<|jpc 1 rfl<|jot<|jxr<|jr1 rfl rfl (fun _ k=>k) [0,1] ⟨⟩

theorem c_slices_ContainsFunc_int__argument_builder_apply_1 {y0 : List Int} {y2 : T_argument_builder} : Con Try.prog 48 [sv p1 y0 c1, .func (.func 49) #[] #[pt b1 0]] [bx b1 70 [pt b2 0], bx b2 72 [sv p2 y2.1.1 c2, sv p3 y2.1.2.1 c3, sv p4 y2.1.2.2 c4, sv p5 y2.2.1 c5, sv p6 y2.2.2.1 c6, vi y2.2.2.2]] [Rl (eInt .i64) p1 c1 y0, Rl e_Premise p2 c2 y2.1.1, Rl e_Rule p3 c3 y2.1.2.1, Rl e_Promotion p4 c4 y2.1.2.2, Rl e_Argument p5 c5 y2.2.1, Rl e_Argument p6 c6 y2.2.2.1] (m_slices_ContainsFunc_int__argument_builder_apply_1 y0 y2) fun r K=>K (vb r) [bx b1 70 [pt b2 0], bx b2 72 [sv p2 y2.1.1 c2, sv p3 y2.1.2.1 c3, sv p4 y2.1.2.2 c4, sv p5 y2.2.1 c5, sv p6 y2.2.2.1 c6, vi y2.2.2.2]] [] :=
 ent3 Try.call48 Try.func48 rfl fun X=>jsr<|jpc 1 rfl<|jot<|jsr<|jpc 2 rfl<|jca .s [0, 1] [] c_slices_IndexFunc_int__argument_builder_apply_1 rfl rfl rfl ⟨ck 0,ck 1,ck 2,ck 3,ck 4,ck 5,⟨⟩⟩<|fun r1 _ k=>k<|jpc 2 rfl<|jot<|jxr<|jr1 rfl rfl (fun _ k=>k) [0,1] ⟨⟩

theorem k_argument_builder_apply_2_all (k : Nat) :
    (∀ {y0 : T_argument_builder} {b1 : Nat} {p1 : Option Addr} {c1 : Nat} {p2 : Option Addr} {c2 : Nat} {p3 : Option Addr} {c3 : Nat} {p4 : Option Addr} {c4 : Nat} {r_1 : Res} {p5 : Option Addr} {c5 : Nat} {r_2 : Res} {y1 : Int} {y2 : List Int} {p6 : Option Addr} {c6 : Nat}, Con Try.prog 30 [pt b1 0, vi y1, sv p6 y2 c6] [bx b1 72 [sv p1 y0.1.1 c1, sv p2 y0.1.2.1 c2, sv p3 y0.1.2.2 c3, sv p4 y0.2.1 c4, sv p5 y0.2.2.1 c5, vi y0.2.2.2], r_1, r_2] [Rl e_Premise p1 c1 y0.1.1, Rl e_Rule p2 c2 y0.1.2.1, Rl e_Promotion p3 c3 y0.1.2.2, Al e_Argument 41 r_1 p4 c4 y0.2.1, Al e_Argument 41 r_2 p5 c5 y0.2.2.1, Rl (eInt .i64) p6 c6 y2] (k_argument_builder_apply_2 k y0 y1 y2) fun r K=>∀ p7 c7 r_3,K (.tuple #[]) [bx b1 72 [sv p1 y0.1.1 c1, sv p2 y0.1.2.1 c2, sv p3 y0.1.2.2 c3, sv p4 y0.2.1 c4, sv p7 r c7, vi y0.2.2.2], r_1, r_3] [Al e_Argument 41 r_3 p7 c7 r]) := by
  induction k with
  | zero => exact con0 Try.call30
  | succ k ih =>
    have ih_argument_builder_apply_2 := @ih
    exact @fun y0 b1 p1 c1 p2 c2 p3 c3 p4 c4 r_1 p5 c5 r_2 y1 y2 p6 c6=>ent3 (m1 := F_argument_builder_apply_2 (k_argument_builder_apply_2 k) y0 y1 y2) Try.call30 Try.func30 rfl fun X=>jsr<|jbx .s rfl<|fun b2=>jot<|jsr<|jlo 3 rfl rfl rfl<|jpc 1 rfl<|jfa 0 rfl<|jfa 1 rfl<|jlo 0 rfl rfl rfl<|jpc 1 rfl<|jix 1 rfl rfl rfl<|fun x1 b3 o1=>jfa 3 rfl<|jld false oL (gf (gs (gs (gs (gk 0))))) rfl<|fun p7 c7=>jpc 1 rfl<|jot<|jsq<|
  jsr<|jlo 3 rfl rfl rfl<|jca .s [0] [1, 2] c_argument_builder_full rfl rfl rfl ⟨ck 2,ck 3,ck 4,cl 1 5,cl 2 6,⟨⟩⟩<|fun r1 _ k=>k<|jot<|jif rfl (jxr<|jtr<|jrg' rfl lN (fun _ k=>k p5 c5 r_2) [0,1,2] ⟨gk 6,⟨⟩⟩)<|jsk<|jtn<|
  jjo (fun s1 K=>K [(1, vi y1), (2, sv p6 y2 c6), (3, pt b2 0)] [bx b1 72 [sv p1 y0.1.1 c1, sv p2 y0.1.2.1 c2, sv p3 y0.1.2.2 c3, sv p4 y0.2.1 c4, sv p5 y0.2.2.1 c5, vi y0.2.2.2], r_1, r_2, bx b2 70 [pt b1 0]] [Rl (eInt .i64) p6 c6 y2, Rl e_Premise p1 c1 y0.1.1, Rl e_Rule p2 c2 y0.1.2.1, Rl e_Promotion p3 c3 y0.1.2.2, Al e_Argument 41 r_1 p4 c4 y0.2.1, Al e_Argument 41 r_2 p5 c5 y0.2.2.1]) (
  jsr<|jpc 5 rfl<|jot<|jif rfl (jsq<|jsr<|jlo 3 rfl rfl rfl<|jpc 1 rfl<|jfa 3 rfl<|jlo 0 rfl rfl rfl<|jpc 2 rfl<|jot<|jbk<|
  jlp (fun s2 K=>∀ p8 c8 r_3,K [(1, vi y1), (2, sv p6 y2 c6), (3, pt b2 0), (6, sv p7 x1.2.2.2.1 c7), (28, sv p4 y0.2.1 c4), (29, vi (len y0.2.1)), (30, vi s2.1)] [bx b1 72 [sv p1 y0.1.1 c1, sv p2 y0.1.2.1 c2, sv p3 y0.1.2.2 c3, sv p4 y0.2.1 c4, sv p8 s2.2 c8, vi y0.2.2.2], r_1, r_3, bx b2 70 [pt b1 0]] [Al e_Argument 41 r_3 p8 c8 s2.2, Rl (eInt .i64) p6 c6 y2, Rl e_Literal p7 c7 x1.2.2.2.1, Al e_Argument 41 r_1 p4 c4 y0.2.1, Rl e_Premise p1 c1 y0.1.1, Rl e_Rule p2 c2 y0.1.2.1, Rl e_Promotion p3 c3 y0.1.2.2]) (gv (fun _ k=>k p5 c5 r_2) [0,1,2,3] ⟨gk 6,gk 7,gk 0,gk 5,gk 2,gk 3,gk 4,⟨⟩⟩)<|
  fun s2 _ k p8 c8 r_3=>k<|jsr<|jpc 1 rfl<|jot<|jsq<|jif rfl (jsk<|jtn<|jsq<|jbk<|jsr<|jpc 1 rfl<|jia 3 rfl rfl rfl<|fun x2 h1 b4 hp1=>jlA 1 3 sI true o_Argument rfl hp1 h1 rfl<|fun p9 c9=>
  jal .s (.agg #[vi 0, vi 0, .slice none 0 0, vb false, vs []])<|fun b5=>jpc 1 rfl<|jso .s 4 rfl rfl rfl<|jot<|jds [] [4] 8<|jdf 0 3 rfl rfl<|jda 1 4 2 rfl rfl rfl rfl<|jdc 3 [2,3,4] rfl<|jdi 5 3 rfl rfl rfl rfl<|fun x3 b6 o2=>
  jdl 6 true o_Literal rfl (gk 0) rfl<|jdp 7 (vb (x2.2.2.2 == x3)) rfl<|jde<|jtn<|jif rfl (
  jjc (fun s3 K=>∀ p10 c10 r_4,K [(1, vi y1), (2, sv p6 y2 c6), (3, pt b2 0), (6, sv p7 x1.2.2.2.1 c7), (28, sv p4 y0.2.1 c4), (29, vi (len y0.2.1)), (30, vi s2.1)] [bx b1 72 [sv p1 y0.1.1 c1, sv p2 y0.1.2.1 c2, sv p3 y0.1.2.2 c3, sv p4 y0.2.1 c4, sv p10 s3 c10, vi y0.2.2.2], r_1, r_4, bx b2 70 [pt b1 0], []] [Al e_Argument 41 r_4 p10 c10 s3, Rl (eInt .i64) p6 c6 y2, Rl e_Literal p7 c7 x1.2.2.2.1, Al e_Argument 41 r_1 p4 c4 y0.2.1, Rl e_Premise p1 c1 y0.1.1, Rl e_Rule p2 c2 y0.1.2.1, Rl e_Promotion p3 c3 y0.1.2.2]) (
  jdS [] [3] 8<|jdo 0 3 rfl rfl rfl rfl<|jdc 4 [1,2,4] rfl<|jd2 3 5 (jca (.f rfl) [] [] c_slices_Clone_int rfl rfl rfl ⟨ck 3,⟨⟩⟩<|fun r2 _ k p11 c11 r_5=>k<|jdn<|jd1 5<|
  jbs (.f rfl) (e := eInt .i64) 3 [vi s2.1] ([s2.1] : List Int) (rC vI rN)<|fun p12 c12=>jdn<|jd1 6<|jar (.f rfl) 5 1 rfl (gk 0) rfl rfl<|fun x4 r_6 p13 c13=>jdn<|jsh 5 0 rfl rfl<|jd1 7<|
  jca (.f rfl) [0, 1, 2] [] ih_argument_builder_apply_2 rfl rfl rfl ⟨ck 10,ck 11,ck 12,ck 9,ck 6,ck 0,⟨⟩⟩<|fun r3 _ k p14 c14 r_7=>k<|jdn<|jde<|jnn (gv (fun _ k=>k p14 c14 r_7) [0,1,2,3,904] ⟨gk 0,gk 8,gk 9,gk 10,gk 11,gk 12,gk 13,⟨⟩⟩)) <|
  jbs (.f rfl) (e := eInt .i64) 3 [vi s2.1] ([s2.1] : List Int) (rC vI rN)<|fun p15 c15=>jdn<|jd1 3<|jca (.f rfl) [] [] c_slices_Clone_int rfl rfl rfl ⟨ck 4,⟨⟩⟩<|fun r4 _ k p16 c16 r_8=>k<|jdn<|jd1 6<|jar (.f rfl) 5 0 rfl (gk 1) rfl rfl<|
  fun x5 r_9 p17 c17=>jdn<|jsh 5 0 rfl rfl<|jd1 7<|jca (.f rfl) [0, 1, 2] [] ih_argument_builder_apply_2 rfl rfl rfl ⟨ck 10,ck 11,ck 12,ck 9,ck 6,ck 0,⟨⟩⟩<|fun r5 _ k p18 c18 r_10=>k<|jdn<|jde<|
  jnn (gv (fun _ k=>k p18 c18 r_10) [0,1,2,3,904] ⟨gk 0,gk 8,gk 9,gk 10,gk 11,gk 12,gk 13,⟨⟩⟩))<|fun s3 _ k p10 c10 r_4=>k<|jbn<|jtn<|jrg<|jpc 2 rfl<|joe<|jln (gv (fun _ k=>k p10 c10 r_4) [0,1,2,3] ⟨gk 0,gk 1,gk 2,gk 3,gk 4,gk 5,gk 6,⟨⟩⟩))<|
  jsk<|jbn<|jtn<|jrg<|jpc 2 rfl<|joe<|jln (gv (fun _ k=>k p8 c8 r_3) [0,1,2,3] ⟨gk 2,gk 3,gk 4,gk 5,gk 6,gk 7,gk 8,⟨⟩⟩))<|jxe<|jte<|jle<|jbh<|jtn<|jxr<|jlr<|jrg' rfl lN (fun _ k=>k p8 c8 r_3) [0,1,2] ⟨gk 0,⟨⟩⟩)<|jsk<|
  jln (gv (fun _ k=>k) [0,1,2,3] ⟨gk 7,gk 2,gk 3,gk 4,gk 5,gk 6,⟨⟩⟩))<|fun s1 _ k=>k<|
  jjn (fun s4 K=>K [(1, vi y1), (2, sv p6 y2 c6), (3, pt b2 0), (67, vb s4)] [bx b1 72 [sv p1 y0.1.1 c1, sv p2 y0.1.2.1 c2, sv p3 y0.1.2.2 c3, sv p4 y0.2.1 c4, sv p5 y0.2.2.1 c5, vi y0.2.2.2], r_1, r_2, bx b2 70 [pt b1 0]] [Rl (eInt .i64) p6 c6 y2, Rl e_Premise p1 c1 y0.1.1, Rl e_Rule p2 c2 y0.1.2.1, Rl e_Promotion p3 c3 y0.1.2.2, Al e_Argument 41 r_1 p4 c4 y0.2.1, Al e_Argument 41 r_2 p5 c5 y0.2.2.1]) (
  jdS [2] [0, 3] 16<|jdc 14 [0,1] rfl<|jd1 2<|jca (.f rfl) [3, 0] [1, 2] c_slices_ContainsFunc_int__argument_builder_apply_1 rfl rfl rfl ⟨ck 0,ck 1,ck 2,ck 3,cl 1 4,cl 2 5,⟨⟩⟩<|fun r6 _ k=>k<|jdb [] [0, 3]<|jdc 12 [3] rfl<|jsg 55 rfl (
  jdo 4 3 rfl rfl rfl rfl<|jdc 10 [5] rfl<|jdf 6 0 rfl rfl<|jda 7 0 3 rfl rfl rfl rfl<|jdo 8 3 rfl rfl rfl rfl<|jdc 6 [9] rfl<|jdf 10 3 rfl rfl<|jdo 11 0 rfl rfl rfl rfl<|jdc 2 [12,13] rfl<|jd1 14<|
  jca (.f rfl) [] [1] c_argument_within rfl rfl rfl ⟨ck 1,ck 2,ck 3,cl 1 4,ck 0,⟨⟩⟩<|fun r7 _ k=>k<|jdn<|jdp 15 (vb r7) rfl<|jde<|jnn (gv (fun _ k=>k) [0,1,2,3] ⟨gk 0,gk 1,gk 2,gk 3,gk 4,gk 5,⟨⟩⟩))<|jdc 1 [4,5,6,7,8,9,10,11,12,13,14] rfl<|
  jdp 15 (vb false) rfl<|jde<|jnn (gv (fun _ k=>k) [0,1,2,3] ⟨gk 0,gk 1,gk 2,gk 3,gk 4,gk 5,⟨⟩⟩))<|fun s4 _ k=>k<|jif rfl (jdS [21] [0, 3] 22<|jdo 0 3 rfl rfl rfl rfl<|jdo 1 3 rfl rfl rfl rfl<|jdc 19 [2] rfl<|jdf 3 4 rfl rfl<|
  jdo 4 0 rfl rfl rfl rfl<|jdc 15 [5,6] rfl<|jdo 7 3 rfl rfl rfl rfl<|jdc 13 [8] rfl<|jdf 9 0 rfl rfl<|jdf 10 1 rfl rfl<|jdo 11 0 rfl rfl rfl rfl<|jdc 9 [12] rfl<|jdi 13 2 rfl rfl rfl rfl<|fun x6 b7 o3=>jdf 14 4 rfl rfl<|
  jdl 15 true o_Literal rfl (gs (gs (gs (gs (gk 0))))) rfl<|jdp 16 (.agg #[vi (-1), vi y1, sv p6 y2 c6, vb x6.2.2.2.2.1, vs x6.2.2.2.2.2]) rfl<|jd1 17<|
  jbs (.f rfl) (e := e_Argument) 41 [vi (-1), vi y1, sv p6 y2 c6, vb x6.2.2.2.2.1, vs x6.2.2.2.2.2] ([((-1), y1, y2, x6.2.2.2.2)] : List T_Argument) (rC (vP vI (vP vI (vP (vL (gk 1)) (vP vB vS)))) rN)<|fun p19 c19=>jdn<|jd1 18<|
  jar (.f rfl) 2 7 rfl (gk 0) rfl rfl<|fun x7 r_11 p20 c20=>jdn<|jdc 2 [19] rfl<|jdf 20 4 rfl rfl<|jd1 21<|jso (.f rfl) 0 rfl rfl rfl<|jdb [] [0, 3]<|jde<|jrn<|jrg' rfl lN (fun _ k=>k p20 c20 r_11) [0,1,2] ⟨gk 0,⟨⟩⟩)<|jsk<|jrn<|
  jrg' rfl lN (fun _ k=>k p5 c5 r_2) [0,1,2] ⟨gk 5,⟨⟩⟩

theorem c_argument_builder_apply_2 {y0 : T_argument_builder} {y1 : Int} {y2 : List Int} : Con Try.prog 30 [pt b1 0, vi y1, sv p6 y2 c6] [bx b1 72 [sv p1 y0.1.1 c1, sv p2 y0.1.2.1 c2, sv p3 y0.1.2.2 c3, sv p4 y0.2.1 c4, sv p5 y0.2.2.1 c5, vi y0.2.2.2], r_1, r_2] [Rl e_Premise p1 c1 y0.1.1, Rl e_Rule p2 c2 y0.1.2.1, Rl e_Promotion p3 c3 y0.1.2.2, Al e_Argument 41 r_1 p4 c4 y0.2.1, Al e_Argument 41 r_2 p5 c5 y0.2.2.1, Rl (eInt .i64) p6 c6 y2] (m_argument_builder_apply_2 y0 y1 y2) fun r K=>∀ p7 c7 r_3,K (.tuple #[]) [bx b1 72 [sv p1 y0.1.1 c1, sv p2 y0.1.2.1 c2, sv p3 y0.1.2.2 c3, sv p4 y0.2.1 c4, sv p7 r c7, vi y0.2.2.2], r_1, r_3] [Al e_Argument 41 r_3 p7 c7 r] := conLim fun k => (k_argument_builder_apply_2_all k)

theorem c_rulebase_Find_1 {y0 : T_Rule} {y1 : Str} : Con Try.prog 66 [.agg #[vs y0.1, vb y0.2.1, vi y0.2.2.1, sv p1 y0.2.2.2.1 c1, vb y0.2.2.2.2.1, vs y0.2.2.2.2.2], pt b1 0] [bx b1 9 [vs y1]] [Rl e_Literal p1 c1 y0.2.2.2.1] (m_rulebase_Find_1 y0 y1) fun r K=>K (vb r) [bx b1 9 [vs y1]] [] :=
 ent3 Try.call66 Try.func66 rfl fun X=>jsr<|jbx .s rfl<|fun b2=>jpc 1 rfl<|jot<|jsr<|jfa 0 rfl<|jlo 1 rfl rfl rfl<|jlo 0 rfl rfl rfl<|jpc 2 rfl<|jot<|jxr<|jr1 rfl rfl (fun _ k=>k) [0] ⟨⟩

theorem c_slices_IndexFunc_Rule__rulebase_Find_1 {y0 : List T_Rule} {y1 : Str} : Con Try.prog 65 [sv p1 y0 c1, .func (.func 66) #[] #[pt b1 0]] [bx b1 9 [vs y1]] [Rl e_Rule p1 c1 y0] (m_slices_IndexFunc_Rule__rulebase_Find_1 y0 y1) fun r K=>K (vi r) [bx b1 9 [vs y1]] [] :=
 ent3 Try.call65 Try.func65 rfl fun X=>jsr<|jpc 1 rfl<|jot<|jsq<|jsr<|jpc 3 rfl<|jot<|jbk<|jlp (fun s1 K=>K [(0, sv p1 y0 c1), (1, .func (.func 66) #[] #[pt b1 0]), (7, vi (len y0)), (8, vi s1)] [bx b1 9 [vs y1]] [Rl e_Rule p1 c1 y0]) (gv (fun _ k=>k) [0] ⟨gk 0,⟨⟩⟩)<|
  fun s1 _ k=>k<|jsr<|jpc 1 rfl<|jot<|jsq<|jif rfl (jsk<|jtn<|jsq<|jbk<|jsr<|jpc 2 rfl<|jot<|jsr<|jpc 3 rfl<|jix 0 rfl rfl rfl<|fun x1 b2 o1=>jld true o_Rule (gk 0) rfl<|fun p2 c2=>jca .s [0] [] c_rulebase_Find_1 rfl rfl rfl ⟨ck 0,⟨⟩⟩<|
  fun r1 _ k=>k<|jot<|jif rfl (jsr<|jpc 2 rfl<|jot<|jxr<|jbr<|jtr<|jlr<|jbr<|jtr<|jr1 rfl rfl (fun _ k=>k) [0] ⟨⟩)<|jsk<|jbn<|jtn<|jrg<|jpc 2 rfl<|joe<|jln (gv (fun _ k=>k) [0] ⟨gk 2,⟨⟩⟩))<|jxe<|jte<|jle<|jbh<|jtn<|jsr<|jpc 1 rfl<|jot<|jxr<|
  jr1 rfl rfl (fun _ k=>k) [0] ⟨⟩

theorem c_rulebase_Find {y0 : T_Base} {y1 : Str} : Con Try.prog 45 [.agg #[sv p1 y0.1 c1, sv p2 y0.2.1 c2, sv p3 y0.2.2 c3], vs y1] [] [Rl e_Premise p1 c1 y0.1, Rl e_Rule p2 c2 y0.2.1, Rl e_Promotion p3 c3 y0.2.2] (m_rulebase_Find y0 y1) fun r K=>K (vi r) [] [] :=
 ent3 Try.call45 Try.func45 rfl fun X=>jsr<|jbx .s rfl<|fun b1=>jbx .s rfl<|fun b2=>jpc 1 rfl<|jot<|jsr<|jfa 1 rfl<|jlo 0 rfl rfl rfl<|jpc 1 rfl<|jca .s [1] [] c_slices_IndexFunc_Rule__rulebase_Find_1 rfl rfl rfl ⟨ck 1,⟨⟩⟩<|fun r1 _ k=>k<|jpc 1 rfl<|jot<|jxr<|
  jr1 rfl rfl (fun _ k=>k) [] ⟨⟩

theorem c_rulebase_Premise_1 {y0 : T_Premise} {y1 : T_Literal} : Con Try.prog 63 [.agg #[vb y0.1.1, vs y0.1.2, vi y0.2.1, vi y0.2.2.1, vs y0.2.2.2], pt b1 0] [bx b1 39 [vb y1.1, vs y1.2]] [] (m_rulebase_Premise_1 y0 y1) fun r K=>K (vb r) [bx b1 39 [vb y1.1, vs y1.2]] [] :=
 ent3 Try.call63 Try.func63 rfl fun X=>jsr<|jbx .s rfl<|fun b2=>jpc 1 rfl<|jot<|jsr<|jfa 0 rfl<|jla 1 2 rfl rfl rfl<|jla 0 2 rfl rfl rfl<|jpe (vb (y0.1 == y1))<|jpc 1 rfl<|jot<|jxr<|jr1 rfl rfl (fun _ k=>k) [0] ⟨⟩

theorem c_slices_IndexFunc_Premise__rulebase_Premise_1 {y0 : List T_Premise} {y1 : T_Literal} : Con Try.prog 62 [sv p1 y0 c1, .func (.func 63) #[] #[pt b1 0]] [bx b1 39 [vb y1.1, vs y1.2]] [Rl e_Premise p1 c1 y0] (m_slices_IndexFunc_Premise__rulebase_Premise_1 y0 y1) fun r K=>K (vi r) [bx b1 39 [vb y1.1, vs y1.2]] [] :=
 ent3 Try.call62 Try.func62 rfl fun X=>jsr<|jpc 1 rfl<|jot<|jsq<|jsr<|jpc 3 rfl<|jot<|jbk<|
  jlp (fun s1 K=>K [(0, sv p1 y0 c1), (1, .func (.func 63) #[] #[pt b1 0]), (7, vi (len y0)), (8, vi s1)] [bx b1 39 [vb y1.1, vs y1.2]] [Rl e_Premise p1 c1 y0]) (gv (fun _ k=>k) [0] ⟨gk 0,⟨⟩⟩)<|fun s1 _ k=>k<|jsr<|jpc 1 rfl<|jot<|jsq<|
  jif rfl (jsk<|jtn<|jsq<|jbk<|jsr<|jpc 2 rfl<|jot<|jsr<|jpc 3 rfl<|jix 0 rfl rfl rfl<|fun x1 b2 o1=>jld true o_Premise (gk 0) rfl<|jca .s [0] [] c_rulebase_Premise_1 rfl rfl rfl ⟨⟩<|fun r1 _ k=>k<|jot<|jif rfl (jsr<|jpc 2 rfl<|jot<|jxr<|
  jbr<|jtr<|jlr<|jbr<|jtr<|jr1 rfl rfl (fun _ k=>k) [0] ⟨⟩)<|jsk<|jbn<|jtn<|jrg<|jpc 2 rfl<|joe<|jln (gv (fun _ k=>k) [0] ⟨gk 1,⟨⟩⟩))<|jxe<|jte<|jle<|jbh<|jtn<|jsr<|jpc 1 rfl<|jot<|jxr<|jr1 rfl rfl (fun _ k=>k) [0] ⟨⟩

theorem c_rulebase_Premise {y0 : T_Base} {y1 : T_Literal} : Con Try.prog 43 [.agg #[sv p1 y0.1 c1, sv p2 y0.2.1 c2, sv p3 y0.2.2 c3], .agg #[vb y1.1, vs y1.2]] [] [Rl e_Premise p1 c1 y0.1, Rl e_Rule p2 c2 y0.2.1, Rl e_Promotion p3 c3 y0.2.2] (m_rulebase_Premise y0 y1) fun r K=>K (vi r) [] [] :=
 ent3 Try.call43 Try.func43 rfl fun X=>jsr<|jbx .s rfl<|fun b1=>jbx .s rfl<|fun b2=>jpc 1 rfl<|jot<|jsr<|jfa 0 rfl<|jlo 0 rfl rfl rfl<|jpc 1 rfl<|jca .s [1] [] c_slices_IndexFunc_Premise__rulebase_Premise_1 rfl rfl rfl ⟨ck 0,⟨⟩⟩<|fun r1 _ k=>k<|jpc 1 rfl<|jot<|jxr<|
  jr1 rfl rfl (fun _ k=>k) [] ⟨⟩

theorem c_literal_ValidName {y0 : Str} : Con Try.prog 64 [vs y0] [] [] (m_literal_ValidName y0) fun r K=>K (vb r) [] [] :=
 ent3 Try.call64 Try.func64 rfl fun X=>jsr<|jpc 1 rfl<|jot<|jsq<|jjp (fun K=>K [(0, vs y0), (12, vb (((len y0) == 0) || (decide (12 < (len y0)))))] [] []) (jrg<|jpc 4 rfl<|jsp (b := (len y0) == 0) 8 rfl (fun hb1=>jpc 3 rfl<|jpe (vb true)<|joe<|
  jup 12 (vb (((len y0) == 0) || (decide (12 < (len y0))))) rfl (by rw [hb1]; rfl)<|jnn (gv (fun _ k=>k) [] ⟨⟩))<|fun hb1=>jpc 3 rfl<|jpe (vb (decide (12 < (len y0))))<|joe<|
  jup 12 (vb (((len y0) == 0) || (decide (12 < (len y0))))) rfl (by rw [hb1]; rfl)<|jnn (gv (fun _ k=>k) [] ⟨⟩))<|fun _ k=>k<|jif rfl (jsr<|jpc 1 rfl<|jot<|jxr<|jtr<|jr1 rfl rfl (fun _ k=>k) [] ⟨⟩)<|jsk<|jtn<|jsq<|jsr<|jpc 3 rfl<|jot<|jbk<|
  jlp (fun s1 K=>K [(0, vs y0), (14, vi (len y0)), (15, vi s1)] [] []) (gv (fun _ k=>k) [] ⟨⟩)<|fun s1 _ k=>k<|jsr<|jpc 1 rfl<|jot<|jsq<|jif rfl (jsk<|jtn<|jsq<|jbk<|jsr<|jpc 2 rfl<|jot<|jsr<|jpc 2 rfl<|jbd fun x1 h1=>
  jv (fun h=>r_sidx h rfl rfl Try.underlying9 h1)<|jpc 1 rfl<|jot<|jbk<|jjp (fun K=>K [(0, vs y0), (3, vi s1), (4, .int .u8 x1), (14, vi (len y0)), (15, vi s1), (21, vb ((decide (97 ≤ x1)) && (decide (x1 ≤ 122))))] [] []) (jrg<|jpc 3 rfl<|
  jsp (b := decide (97 ≤ x1)) 24 rfl (fun hb2=>jpc 2 rfl<|jpe (vb (decide (x1 ≤ 122)))<|jpc 1 rfl<|joe<|jup 21 (vb ((decide (97 ≤ x1)) && (decide (x1 ≤ 122)))) rfl (by rw [hb2]; rfl)<|jnn (gv (fun _ k=>k) [] ⟨⟩))<|fun hb2=>jpc 2 rfl<|
  jpe (vb false)<|jpc 1 rfl<|joe<|jup 21 (vb ((decide (97 ≤ x1)) && (decide (x1 ≤ 122)))) rfl (by rw [hb2]; rfl)<|jnn (gv (fun _ k=>k) [] ⟨⟩))<|fun _ k=>k<|jif rfl (jsk<|jbn<|jbn<|jtn<|jrg<|jpc 2 rfl<|joe<|jln (gv (fun _ k=>k) [] ⟨⟩))<|
  jjp (fun K=>K [(0, vs y0), (14, vi (len y0)), (15, vi s1), (28, vb ((decide (0 < s1)) && (if decide (48 ≤ x1) then (decide (x1 ≤ 57)) || (x1 == 95) else x1 == 95)))] [] []) (jrg<|jpc 3 rfl<|jsp (b := decide (0 < s1)) 31 rfl (fun hb3=>
  jpc 3 rfl<|jsp (b := decide (48 ≤ x1)) 34 rfl (fun hb4=>jpc 2 rfl<|jpe (vb (decide (x1 ≤ 57)))<|jpc 1 rfl<|jsp (b := decide (x1 ≤ 57)) 38 rfl (fun hb5=>jpc 2 rfl<|jpe (vb true)<|jpe (vb true)<|jpc 1 rfl<|joe<|
  jup 28 (vb ((decide (0 < s1)) && (if decide (48 ≤ x1) then (decide (x1 ≤ 57)) || (x1 == 95) else x1 == 95))) rfl (by rw [hb3,hb4,hb5]; rfl)<|jnn (gv (fun _ k=>k) [] ⟨⟩))<|fun hb5=>jpc 2 rfl<|jpe (vb (x1 == 95))<|jpe (vb (x1 == 95))<|
  jpc 1 rfl<|joe<|jup 28 (vb ((decide (0 < s1)) && (if decide (48 ≤ x1) then (decide (x1 ≤ 57)) || (x1 == 95) else x1 == 95))) rfl (by rw [hb3,hb4,hb5]; rfl)<|jnn (gv (fun _ k=>k) [] ⟨⟩))<|fun hb4=>jpc 2 rfl<|jpe (vb false)<|jpc 3 rfl<|
  jpe (vb (x1 == 95))<|jpe (vb (x1 == 95))<|jpc 1 rfl<|joe<|jup 28 (vb ((decide (0 < s1)) && (if decide (48 ≤ x1) then (decide (x1 ≤ 57)) || (x1 == 95) else x1 == 95))) rfl (by rw [hb3,hb4]; rfl)<|jnn (gv (fun _ k=>k) [] ⟨⟩))<|fun hb3=>
  jpc 10 rfl<|jpe (vb false)<|jpc 1 rfl<|joe<|jup 28 (vb ((decide (0 < s1)) && (if decide (48 ≤ x1) then (decide (x1 ≤ 57)) || (x1 == 95) else x1 == 95))) rfl (by rw [hb3]; rfl)<|jnn (gv (fun _ k=>k) [] ⟨⟩))<|fun _ k=>k<|jif rfl (jsk<|jbn<|
  jbn<|jtn<|jrg<|jpc 2 rfl<|joe<|jln (gv (fun _ k=>k) [] ⟨⟩))<|jsr<|jpc 1 rfl<|jot<|jxr<|jbr<|jbr<|jtr<|jlr<|jbr<|jtr<|jr1 rfl rfl (fun _ k=>k) [] ⟨⟩)<|jxe<|jte<|jle<|jbh<|jtn<|jsr<|jpc 1 rfl<|jot<|jxr<|jr1 rfl rfl (fun _ k=>k) [] ⟨⟩

theorem c_literal_Valid {y0 : T_Literal} : Con Try.prog 60 [.agg #[vb y0.1, vs y0.2]] [] [] (m_literal_Valid y0) fun r K=>K (vb r) [] [] :=
 ent3 Try.call60 Try.func60 rfl fun X=>jsr<|jbx .s rfl<|fun b1=>jpc 1 rfl<|jot<|jsr<|jfa 1 rfl<|jlo 0 rfl rfl rfl<|jcl c_literal_ValidName rfl ⟨⟩<|fun r1 _ k=>k<|jpc 1 rfl<|jot<|jxr<|jr1 rfl rfl (fun _ k=>k) [] ⟨⟩

theorem c_rulebase_ranked {y0 : Int} : Con Try.prog 59 [vi y0] [] [] (m_rulebase_ranked y0) fun r K=>K (vb r) [] [] :=
 ent3 Try.call59 Try.func59 rfl fun X=>jsr<|jpc 1 rfl<|jot<|jjp (fun K=>K [(2, vb ((decide (0 ≤ y0)) && (decide (y0 ≤ 9))))] [] []) (jrg<|jpc 3 rfl<|jsp (b := decide (0 ≤ y0)) 5 rfl (fun hb1=>jpc 2 rfl<|jpe (vb (decide (y0 ≤ 9)))<|jpc 1 rfl<|joe<|
  jup 2 (vb ((decide (0 ≤ y0)) && (decide (y0 ≤ 9)))) rfl (by rw [hb1]; rfl)<|jnn (gv (fun _ k=>k) [] ⟨⟩))<|fun hb1=>jpc 2 rfl<|jpe (vb false)<|jpc 1 rfl<|joe<|jup 2 (vb ((decide (0 ≤ y0)) && (decide (y0 ≤ 9)))) rfl (by rw [hb1]; rfl)<|
  jnn (gv (fun _ k=>k) [] ⟨⟩))<|fun _ k=>k<|jxr<|jr1 rfl rfl (fun _ k=>k) [] ⟨⟩

theorem c_rulebase_sourced {y0 : Str} : Con Try.prog 61 [vs y0] [] [] (m_rulebase_sourced y0) fun r K=>K (vb r) [] [] :=
 ent3 Try.call61 Try.func61 rfl fun X=>jsr<|jpc 1 rfl<|jot<|jjn (fun s1 K=>K [(2, vb s1)] [] []) (jrg<|jpc 3 rfl<|jsg 5 rfl (jpc 2 rfl<|jpe (vb true)<|jpc 1 rfl<|joe<|jnn (gv (fun _ k=>k) [] ⟨⟩))<|jpc 1 rfl<|jcl c_literal_ValidName rfl ⟨⟩<|fun r1 _ k=>k<|jpe (vb r1)<|jpc 1 rfl<|
  joe<|jnn (gv (fun _ k=>k) [] ⟨⟩))<|fun s1 _ k=>k<|jxr<|jr1 rfl rfl (fun _ k=>k) [] ⟨⟩

theorem c_rulebase_premise {y0 : T_Premise} : Con Try.prog 42 [.agg #[vb y0.1.1, vs y0.1.2, vi y0.2.1, vi y0.2.2.1, vs y0.2.2.2]] [] [] (m_rulebase_premise y0) fun r K=>K (vi r) [] [] :=
 ent3 Try.call42 Try.func42 rfl fun X=>jsr<|jbx .s rfl<|fun b1=>jpc 1 rfl<|jot<|jjo (fun s1 K=>K [(1, pt b1 0)] [bx b1 51 [vb y0.1.1, vs y0.1.2, vi y0.2.1, vi y0.2.2.1, vs y0.2.2.2]] []) (jsr<|jfa 2 rfl<|jlo 0 rfl rfl rfl<|jot<|jbk<|
  jjn (fun s2 K=>K [(1, pt b1 0), (4, vi y0.2.1), (5, vb s2)] [bx b1 51 [vb y0.1.1, vs y0.1.2, vi y0.2.1, vi y0.2.2.1, vs y0.2.2.2]] []) (jsr<|jpc 2 rfl<|jot<|jif rfl (jsk<|jnn (gv (fun _ k=>k) [0] ⟨⟩))<|jrg<|jpc 2 rfl<|joe<|
  jnn (gv (fun _ k=>k) [0] ⟨⟩))<|fun s2 _ k=>k<|jif rfl (jsr<|jfa 3 rfl<|jlo 0 rfl rfl rfl<|jpc 1 rfl<|jot<|jif rfl (jsr<|jpc 1 rfl<|jot<|jxr<|jbr<|jlr<|jr1 rfl rfl (fun _ k=>k) [] ⟨⟩)<|jsk<|jbn<|jln (gv (fun _ k=>k) [0] ⟨⟩))<|jsr<|
  jpc 2 rfl<|jot<|jif rfl (jsr<|jfa 3 rfl<|jlo 0 rfl rfl rfl<|jcl c_rulebase_ranked rfl ⟨⟩<|fun r1 _ k=>k<|jpc 1 rfl<|jot<|jif rfl (jsr<|jpc 1 rfl<|jot<|jxr<|jbr<|jlr<|jr1 rfl rfl (fun _ k=>k) [] ⟨⟩)<|jsk<|jbn<|jln (gv (fun _ k=>k) [0] ⟨⟩))<|
  jsr<|jpc 1 rfl<|jot<|jxr<|jbr<|jlr<|jr1 rfl rfl (fun _ k=>k) [] ⟨⟩)<|fun s1 _ k=>k<|jsq<|jjn (fun s3 K=>K [(26, vb s3)] [[]] []) (jrg<|jfa 0 rfl<|jla 0 2 rfl rfl rfl<|jcl c_literal_Valid rfl ⟨⟩<|fun r2 _ k=>k<|jpc 2 rfl<|jsg 21 rfl (
  jpc 4 rfl<|jpe (vb true)<|joe<|jnn (gv (fun _ k=>k) [900] ⟨⟩))<|jfa 4 rfl<|jlo 0 rfl rfl rfl<|jcl c_rulebase_sourced rfl ⟨⟩<|fun r3 _ k=>k<|jpc 1 rfl<|jpe (vb (!r3))<|joe<|jnn (gv (fun _ k=>k) [900] ⟨⟩))<|fun s3 _ k=>k<|jif rfl (jsr<|
  jpc 1 rfl<|jot<|jxr<|jtr<|jr1 rfl rfl (fun _ k=>k) [] ⟨⟩)<|jsk<|jtn<|jsr<|jpc 1 rfl<|jot<|jxr<|jr1 rfl rfl (fun _ k=>k) [] ⟨⟩

theorem c_rulebase_promotion {y0 : T_Base} {y1 : T_Promotion} : Con Try.prog 46 [.agg #[sv p1 y0.1 c1, sv p2 y0.2.1 c2, sv p3 y0.2.2 c3], .agg #[vs y1.1, vi y1.2.1, vb y1.2.2.1, vs y1.2.2.2]] [] [Rl e_Premise p1 c1 y0.1, Rl e_Rule p2 c2 y0.2.1, Rl e_Promotion p3 c3 y0.2.2] (m_rulebase_promotion y0 y1) fun r K=>K (vi r) [] [] :=
 ent3 Try.call46 Try.func46 rfl fun X=>jsr<|jbx .s rfl<|fun b1=>jbx .s rfl<|fun b2=>jpc 1 rfl<|jot<|jsq<|
  jjn (fun s1 K=>K [(2, pt b1 0), (3, pt b2 0), (15, vb s1)] [bx b1 29 [sv p1 y0.1 c1, sv p2 y0.2.1 c2, sv p3 y0.2.2 c3], bx b2 68 [vs y1.1, vi y1.2.1, vb y1.2.2.1, vs y1.2.2.2]] [Rl e_Premise p1 c1 y0.1, Rl e_Rule p2 c2 y0.2.1, Rl e_Promotion p3 c3 y0.2.2]) (
  jrg<|jfa 1 rfl<|jlo 1 rfl rfl rfl<|jcl c_rulebase_ranked rfl ⟨⟩<|fun r1 _ k=>k<|jpc 2 rfl<|jsg 10 rfl (jpc 4 rfl<|jpe (vb true)<|joe<|jnn (gv (fun _ k=>k) [0,1] ⟨gk 0,gk 1,gk 2,⟨⟩⟩))<|jfa 2 rfl<|jla 1 2 rfl rfl rfl<|
  jcl c_literal_Valid rfl ⟨⟩<|fun r2 _ k=>k<|jpc 1 rfl<|jpe (vb (!r2))<|joe<|jnn (gv (fun _ k=>k) [0,1] ⟨gk 0,gk 1,gk 2,⟨⟩⟩))<|fun s1 _ k=>k<|jif rfl (jsr<|jpc 1 rfl<|jot<|jxr<|jtr<|jr1 rfl rfl (fun _ k=>k) [] ⟨⟩)<|jsk<|jtn<|jsq<|jsr<|
  jla 0 3 rfl rfl rfl<|jfa 0 rfl<|jlo 1 rfl rfl rfl<|jcl c_rulebase_Find rfl ⟨ck 0,ck 1,ck 2,⟨⟩⟩<|fun r3 _ k=>k<|jpc 1 rfl<|jot<|jbk<|jsr<|jpc 3 rfl<|jot<|jif rfl (jsr<|jpc 1 rfl<|jot<|jxr<|jbr<|jtr<|jr1 rfl rfl (fun _ k=>k) [] ⟨⟩)<|jsr<|
  jfa 1 rfl<|jlo 0 rfl rfl rfl<|jpc 1 rfl<|jix 1 rfl rfl rfl<|fun x1 b3 o1=>jfa 1 rfl<|jld false oB (gf (gs (gk 0))) rfl<|jpc 1 rfl<|jot<|jif rfl (jsr<|jpc 1 rfl<|jot<|jxr<|jbr<|jtr<|jr1 rfl rfl (fun _ k=>k) [] ⟨⟩)<|jsk<|jbn<|jtn<|jsr<|
  jpc 1 rfl<|jot<|jxr<|jr1 rfl rfl (fun _ k=>k) [] ⟨⟩

theorem c_cmp_isNaN_string {y0 : Str} : Con Try.prog 98 [vs y0] [] [] (m_cmp_isNaN_string y0) fun r K=>K (vb r) [] [] :=
 ent3 Try.call98 Try.func98 rfl fun X=>jsr<|jpc 1 rfl<|jot<|jsr<|jpc 4 rfl<|jot<|jxr<|jr1 rfl rfl (fun _ k=>k) [] ⟨⟩

theorem c_cmp_Compare_string {y0 : Str} {y1 : Str} : Con Try.prog 76 [vs y0, vs y1] [] [] (m_cmp_Compare_string y0 y1) fun r K=>K (vi r) [] [] :=
 ent3 Try.call76 Try.func76 rfl fun X=>jsr<|jpc 1 rfl<|jot<|jsr<|jpc 1 rfl<|jcl c_cmp_isNaN_string rfl ⟨⟩<|fun r1 _ k=>k<|jpc 1 rfl<|jot<|jsr<|jpc 1 rfl<|jcl c_cmp_isNaN_string rfl ⟨⟩<|fun r2 _ k=>k<|jpc 1 rfl<|jot<|jsq<|jsr<|jpc 1 rfl<|jot<|jif rfl (jsq<|jsr<|jpc 1 rfl<|jot<|
  jif rfl (jsr<|jpc 1 rfl<|jot<|jxr<|jtr<|jtr<|jr1 rfl rfl (fun _ k=>k) [] ⟨⟩)<|jsk<|jtn<|jsr<|jpc 1 rfl<|jot<|jxr<|jtr<|jr1 rfl rfl (fun _ k=>k) [] ⟨⟩)<|jsk<|jtn<|jsq<|jsr<|jpc 1 rfl<|jot<|jif rfl (jsr<|jpc 1 rfl<|jot<|jxr<|jtr<|
  jr1 rfl rfl (fun _ k=>k) [] ⟨⟩)<|jsk<|jtn<|jsq<|jsr<|jpc 3 rfl<|jot<|jif rfl (jsr<|jpc 1 rfl<|jot<|jxr<|jtr<|jr1 rfl rfl (fun _ k=>k) [] ⟨⟩)<|jsk<|jtn<|jsq<|jsr<|jpc 3 rfl<|jot<|jif rfl (jsr<|jpc 1 rfl<|jot<|jxr<|jtr<|
  jr1 rfl rfl (fun _ k=>k) [] ⟨⟩)<|jsk<|jtn<|jsr<|jpc 1 rfl<|jot<|jxr<|jr1 rfl rfl (fun _ k=>k) [] ⟨⟩

theorem c_literal_Compare {y0 : T_Literal} {y1 : T_Literal} : Con Try.prog 57 [.agg #[vb y0.1, vs y0.2], .agg #[vb y1.1, vs y1.2]] [] [] (m_literal_Compare y0 y1) fun r K=>K (vi r) [] [] :=
 ent3 Try.call57 Try.func57 rfl fun X=>jsr<|jbx .s rfl<|fun b1=>jbx .s rfl<|fun b2=>jpc 1 rfl<|jot<|jsq<|jsr<|jfa 1 rfl<|jlo 0 rfl rfl rfl<|jfa 1 rfl<|jlo 1 rfl rfl rfl<|jcl c_cmp_Compare_string rfl ⟨⟩<|fun r1 _ k=>k<|jpc 1 rfl<|jot<|
  jjp (fun K=>K [(3, pt b2 0), (5, vi r1), (19, vb ((r1 != 0) || (y0.1 == y1.1)))] [[], bx b2 39 [vb y1.1, vs y1.2]] []) (jrg<|jpc 3 rfl<|jsp (b := r1 != 0) 13 rfl (fun hb1=>jpc 5 rfl<|jpe (vb true)<|joe<|
  jup 19 (vb ((r1 != 0) || (y0.1 == y1.1))) rfl (by rw [hb1]; rfl)<|jnn (gv (fun _ k=>k) [900,1] ⟨⟩))<|fun hb1=>jfa 0 rfl<|jlo 0 rfl rfl rfl<|jfa 0 rfl<|jlo 1 rfl rfl rfl<|jpe (vb (y0.1 == y1.1))<|jpe (vb (y0.1 == y1.1))<|joe<|
  jup 19 (vb ((r1 != 0) || (y0.1 == y1.1))) rfl (by rw [hb1]; rfl)<|jnn (gv (fun _ k=>k) [900,1] ⟨⟩))<|fun _ k=>k<|jif rfl (jsr<|jpc 2 rfl<|jot<|jxr<|jtr<|jr1 rfl rfl (fun _ k=>k) [] ⟨⟩)<|jsk<|jtn<|jsq<|jsr<|jfa 0 rfl<|jlo 1 rfl rfl rfl<|
  jot<|jif rfl (jsr<|jpc 1 rfl<|jot<|jxr<|jtr<|jr1 rfl rfl (fun _ k=>k) [] ⟨⟩)<|jsk<|jtn<|jsr<|jpc 1 rfl<|jot<|jxr<|jr1 rfl rfl (fun _ k=>k) [] ⟨⟩

theorem c_rulebase_rule {y0 : T_Rule} : Con Try.prog 44 [.agg #[vs y0.1, vb y0.2.1, vi y0.2.2.1, sv p1 y0.2.2.2.1 c1, vb y0.2.2.2.2.1, vs y0.2.2.2.2.2]] [] [Rl e_Literal p1 c1 y0.2.2.2.1] (m_rulebase_rule y0) fun r K=>K (vi r) [] [] :=
 ent3 Try.call44 Try.func44 rfl fun X=>jsr<|jbx .s rfl<|fun b1=>jpc 1 rfl<|jot<|jsq<|jsr<|jfa 3 rfl<|jlo 0 rfl rfl rfl<|jpc 2 rfl<|jot<|jif rfl (jsr<|jpc 1 rfl<|jot<|jxr<|jtr<|jr1 rfl rfl (fun _ k=>k) [] ⟨⟩)<|jsk<|jtn<|jsq<|
  jjn (fun s1 K=>K [(1, pt b1 0), (34, vb s1)] [bx b1 45 [vs y0.1, vb y0.2.1, vi y0.2.2.1, sv p1 y0.2.2.2.1 c1, vb y0.2.2.2.2.1, vs y0.2.2.2.2.2]] [Rl e_Literal p1 c1 y0.2.2.2.1]) (jrg<|jfa 0 rfl<|jlo 0 rfl rfl rfl<|
  jcl c_literal_ValidName rfl ⟨⟩<|fun r1 _ k=>k<|jpc 2 rfl<|jsg 14 rfl (jpc 4 rfl<|jpe (vb true)<|jpc 5 rfl<|jpe (vb true)<|jpc 8 rfl<|jpe (vb true)<|joe<|jnn (gv (fun _ k=>k) [0] ⟨gk 0,⟨⟩⟩))<|jfa 4 rfl<|jla 0 2 rfl rfl rfl<|
  jcl c_literal_Valid rfl ⟨⟩<|fun r2 _ k=>k<|jpc 1 rfl<|jpe (vb (!r2))<|jpc 1 rfl<|jsg 20 rfl (jpc 4 rfl<|jpe (vb true)<|jpc 8 rfl<|jpe (vb true)<|joe<|jnn (gv (fun _ k=>k) [0] ⟨gk 0,⟨⟩⟩))<|jfa 2 rfl<|jlo 0 rfl rfl rfl<|
  jcl c_rulebase_ranked rfl ⟨⟩<|fun r3 _ k=>k<|jpc 1 rfl<|jpe (vb (!r3))<|jpc 1 rfl<|jsg 26 rfl (jpc 7 rfl<|jpe (vb true)<|joe<|jnn (gv (fun _ k=>k) [0] ⟨gk 0,⟨⟩⟩))<|jfa 1 rfl<|jlo 0 rfl rfl rfl<|jpc 1 rfl<|jsg 29 rfl (jfa 2 rfl<|
  jlo 0 rfl rfl rfl<|jpc 1 rfl<|jpe (vb (y0.2.2.1 != 0))<|jpe (vb (y0.2.2.1 != 0))<|joe<|jnn (gv (fun _ k=>k) [0] ⟨gk 0,⟨⟩⟩))<|jpc 3 rfl<|jpe (vb false)<|jpe (vb false)<|joe<|jnn (gv (fun _ k=>k) [0] ⟨gk 0,⟨⟩⟩))<|fun s1 _ k=>k<|jif rfl (jsr<|
  jpc 1 rfl<|jot<|jxr<|jtr<|jr1 rfl rfl (fun _ k=>k) [] ⟨⟩)<|jsk<|jtn<|jjo (fun s2 K=>K [(1, pt b1 0)] [bx b1 45 [vs y0.1, vb y0.2.1, vi y0.2.2.1, sv p1 y0.2.2.2.1 c1, vb y0.2.2.2.2.1, vs y0.2.2.2.2.2]] [Rl e_Literal p1 c1 y0.2.2.2.1]) (jsr<|
  jfa 3 rfl<|jlo 0 rfl rfl rfl<|jpc 2 rfl<|jot<|jbk<|
  jlp (fun s3 K=>K [(1, pt b1 0), (36, sv p1 y0.2.2.2.1 c1), (37, vi (len y0.2.2.2.1)), (38, vi s3)] [bx b1 45 [vs y0.1, vb y0.2.1, vi y0.2.2.1, sv p1 y0.2.2.2.1 c1, vb y0.2.2.2.2.1, vs y0.2.2.2.2.2]] [Rl e_Literal p1 c1 y0.2.2.2.1]) (gv (fun _ k=>k) [0] ⟨gk 0,⟨⟩⟩)<|
  fun s3 _ k=>k<|jsr<|jpc 1 rfl<|jot<|jsq<|jif rfl (jsk<|jtn<|jsq<|jbk<|jsr<|jix 0 rfl rfl rfl<|fun x1 b2 o1=>jld true o_Literal (gk 0) rfl<|jal .s (.agg #[vb false, vs []])<|fun b3=>jso .s 1 rfl rfl rfl<|jot<|jsr<|jla 1 2 rfl rfl rfl<|
  jcl c_literal_Valid rfl ⟨⟩<|fun r4 _ k=>k<|jpc 1 rfl<|jot<|jif rfl (jsr<|jpc 1 rfl<|jot<|jxr<|jbr<|jtr<|jlr<|jbr<|jlr<|jr1 rfl rfl (fun _ k=>k) [] ⟨⟩)<|jsk<|jbn<|jtn<|jrg<|jpc 2 rfl<|joe<|jln (gv (fun _ k=>k) [0] ⟨gk 1,⟨⟩⟩))<|jxe<|jte<|
  jle<|jbh<|jln (gv (fun _ k=>k) [0] ⟨gk 0,⟨⟩⟩))<|fun s2 _ k=>k<|jsq<|jsr<|jpc 1 rfl<|jot<|jbk<|
  jlp (fun s4 K=>K [(1, pt b1 0), (5, vi s4)] [bx b1 45 [vs y0.1, vb y0.2.1, vi y0.2.2.1, sv p1 y0.2.2.2.1 c1, vb y0.2.2.2.2.1, vs y0.2.2.2.2.2]] [Rl e_Literal p1 c1 y0.2.2.2.1]) (gv (fun _ k=>k) [0] ⟨gk 0,⟨⟩⟩)<|fun s4 _ k=>k<|jsq<|jsr<|
  jpc 1 rfl<|jfa 3 rfl<|jlo 0 rfl rfl rfl<|jpc 2 rfl<|jot<|jif rfl (jsk<|jtn<|jsq<|jbk<|jds [] [0] 13<|jdf 0 3 rfl rfl<|jdo 1 0 rfl rfl rfl rfl<|jdc 9 [2,3] rfl<|jdi 4 0 rfl rfl rfl rfl<|fun x2 b4 o2=>jdl 5 true o_Literal rfl (gk 0) rfl<|
  jdf 6 3 rfl rfl<|jdo 7 0 rfl rfl rfl rfl<|jdc 4 [8] rfl<|jdi 9 1 rfl rfl rfl rfl<|fun x3 b5 o3=>jdl 10 true o_Literal rfl (gk 0) rfl<|jd1 11<|jca (.f rfl) [] [] c_literal_Compare rfl rfl rfl ⟨⟩<|fun r5 _ k=>k<|jdn<|jdc 0 [12] rfl<|jde<|
  jtn<|jif rfl (jsr<|jpc 1 rfl<|jot<|jxr<|jbr<|jtr<|jlr<|jbr<|jtr<|jr1 rfl rfl (fun _ k=>k) [] ⟨⟩)<|jsk<|jbn<|jtn<|jrg<|jpc 3 rfl<|joe<|jln (gv (fun _ k=>k) [0] ⟨gk 2,⟨⟩⟩))<|jxe<|jte<|jle<|jbh<|jtn<|jsr<|jpc 1 rfl<|jot<|jxr<|
  jr1 rfl rfl (fun _ k=>k) [] ⟨⟩

theorem c_rulebase_Validate {y0 : T_Base} : Con Try.prog 29 [.agg #[sv p1 y0.1 c1, sv p2 y0.2.1 c2, sv p3 y0.2.2 c3]] [] [Rl e_Premise p1 c1 y0.1, Rl e_Rule p2 c2 y0.2.1, Rl e_Promotion p3 c3 y0.2.2] (m_rulebase_Validate y0) fun r K=>K (vi r) [] [] :=
 ent3 Try.call29 Try.func29 rfl fun X=>jsr<|jbx .s rfl<|fun b1=>jpc 1 rfl<|jot<|jsq<|
  jjp (fun K=>K [(1, pt b1 0), (27, vb ((decide (16 < (len y0.1))) || ((decide (24 < (len y0.2.1))) || (decide (8 < (len y0.2.2))))))] [bx b1 29 [sv p1 y0.1 c1, sv p2 y0.2.1 c2, sv p3 y0.2.2 c3]] [Rl e_Premise p1 c1 y0.1, Rl e_Rule p2 c2 y0.2.1, Rl e_Promotion p3 c3 y0.2.2]) (
  jrg<|jfa 0 rfl<|jlo 0 rfl rfl rfl<|jpc 3 rfl<|jsp (b := decide (16 < (len y0.1))) 16 rfl (fun hb1=>jpc 4 rfl<|jpe (vb true)<|jpc 5 rfl<|jpe (vb true)<|joe<|
  jup 27 (vb ((decide (16 < (len y0.1))) || ((decide (24 < (len y0.2.1))) || (decide (8 < (len y0.2.2)))))) rfl (by rw [hb1]; rfl)<|jnn (gv (fun _ k=>k) [0] ⟨gk 0,gk 1,gk 2,⟨⟩⟩))<|fun hb1=>jfa 1 rfl<|jlo 0 rfl rfl rfl<|jpc 2 rfl<|
  jpe (vb (decide (24 < (len y0.2.1))))<|jpc 1 rfl<|jsp (b := decide (24 < (len y0.2.1))) 22 rfl (fun hb2=>jpc 4 rfl<|jpe (vb true)<|joe<|
  jup 27 (vb ((decide (16 < (len y0.1))) || ((decide (24 < (len y0.2.1))) || (decide (8 < (len y0.2.2)))))) rfl (by rw [hb1,hb2]; rfl)<|jnn (gv (fun _ k=>k) [0] ⟨gk 0,gk 1,gk 2,⟨⟩⟩))<|fun hb2=>jfa 2 rfl<|jlo 0 rfl rfl rfl<|jpc 2 rfl<|
  jpe (vb (decide (8 < (len y0.2.2))))<|joe<|jup 27 (vb ((decide (16 < (len y0.1))) || ((decide (24 < (len y0.2.1))) || (decide (8 < (len y0.2.2)))))) rfl (by rw [hb1,hb2]; rfl)<|jnn (gv (fun _ k=>k) [0] ⟨gk 0,gk 1,gk 2,⟨⟩⟩))<|fun _ k=>k<|
  jif rfl (jsr<|jpc 1 rfl<|jot<|jxr<|jtr<|jr1 rfl rfl (fun _ k=>k) [] ⟨⟩)<|jsk<|jtn<|
  jjo (fun s1 K=>K [(1, pt b1 0)] [bx b1 29 [sv p1 y0.1 c1, sv p2 y0.2.1 c2, sv p3 y0.2.2 c3]] [Rl e_Premise p1 c1 y0.1, Rl e_Rule p2 c2 y0.2.1, Rl e_Promotion p3 c3 y0.2.2]) (jsr<|jfa 0 rfl<|jlo 0 rfl rfl rfl<|jpc 2 rfl<|jot<|jbk<|
  jlp (fun s2 K=>K [(1, pt b1 0), (29, sv p1 y0.1 c1), (30, vi (len y0.1)), (31, vi s2)] [bx b1 29 [sv p1 y0.1 c1, sv p2 y0.2.1 c2, sv p3 y0.2.2 c3]] [Rl e_Premise p1 c1 y0.1, Rl e_Rule p2 c2 y0.2.1, Rl e_Promotion p3 c3 y0.2.2]) (gv (fun _ k=>k) [0] ⟨gk 0,gk 1,gk 2,⟨⟩⟩)<|
  fun s2 _ k=>k<|jsr<|jpc 1 rfl<|jot<|jsq<|jif rfl (jsk<|jtn<|jsq<|jbk<|jsr<|jpc 1 rfl<|jix 0 rfl rfl rfl<|fun x1 b2 o1=>jld true o_Premise (gk 0) rfl<|jal .s (.agg #[vb false, vs [], vi 0, vi 0, vs []])<|fun b3=>jpc 1 rfl<|
  jso .s 1 rfl rfl rfl<|jot<|jsq<|jsr<|jla 1 5 rfl rfl rfl<|jcl c_rulebase_premise rfl ⟨⟩<|fun r1 _ k=>k<|jpc 1 rfl<|jot<|jsr<|jpc 2 rfl<|jot<|jif rfl (jsr<|jpc 2 rfl<|jot<|jxr<|jtr<|jbr<|jtr<|jlr<|jbr<|jlr<|jr1 rfl rfl (fun _ k=>k) [] ⟨⟩)<|
  jsk<|jtn<|jsr<|jla 0 3 rfl rfl rfl<|jfa 0 rfl<|jla 1 2 rfl rfl rfl<|jcl c_rulebase_Premise rfl ⟨ck 1,ck 2,ck 3,⟨⟩⟩<|fun r2 _ k=>k<|jpc 2 rfl<|jot<|jif rfl (jsr<|jpc 1 rfl<|jot<|jxr<|jbr<|jtr<|jlr<|jbr<|jlr<|jr1 rfl rfl (fun _ k=>k) [] ⟨⟩)<|
  jsk<|jbn<|jtn<|jrg<|jpc 2 rfl<|joe<|jln (gv (fun _ k=>k) [0] ⟨gk 1,gk 2,gk 3,⟨⟩⟩))<|jxe<|jte<|jle<|jbh<|jln (gv (fun _ k=>k) [0] ⟨gk 0,gk 1,gk 2,⟨⟩⟩))<|fun s1 _ k=>k<|
  jjo (fun s3 K=>K [(1, pt b1 0)] [bx b1 29 [sv p1 y0.1 c1, sv p2 y0.2.1 c2, sv p3 y0.2.2 c3]] [Rl e_Premise p1 c1 y0.1, Rl e_Rule p2 c2 y0.2.1, Rl e_Promotion p3 c3 y0.2.2]) (jsr<|jfa 1 rfl<|jlo 0 rfl rfl rfl<|jpc 2 rfl<|jot<|jbk<|
  jlp (fun s4 K=>K [(1, pt b1 0), (49, sv p2 y0.2.1 c2), (50, vi (len y0.2.1)), (51, vi s4)] [bx b1 29 [sv p1 y0.1 c1, sv p2 y0.2.1 c2, sv p3 y0.2.2 c3]] [Rl e_Rule p2 c2 y0.2.1, Rl e_Premise p1 c1 y0.1, Rl e_Promotion p3 c3 y0.2.2]) (gv (fun _ k=>k) [0] ⟨gk 1,gk 0,gk 2,⟨⟩⟩)<|
  fun s4 _ k=>k<|jsr<|jpc 1 rfl<|jot<|jsq<|jif rfl (jsk<|jtn<|jsq<|jbk<|jsr<|jpc 1 rfl<|jix 0 rfl rfl rfl<|fun x2 b4 o2=>jld true o_Rule (gk 0) rfl<|fun p4 c4=>jal .s (.agg #[vs [], vb false, vi 0, .slice none 0 0, vb false, vs []])<|fun b5=>
  jpc 1 rfl<|jso .s 1 rfl rfl rfl<|jot<|jsq<|jsr<|jla 1 6 rfl rfl rfl<|jcl c_rulebase_rule rfl ⟨ck 0,⟨⟩⟩<|fun r3 _ k=>k<|jpc 1 rfl<|jot<|jsr<|jpc 2 rfl<|jot<|jif rfl (jsr<|jpc 2 rfl<|jot<|jxr<|jtr<|jbr<|jtr<|jlr<|jbr<|jlr<|
  jr1 rfl rfl (fun _ k=>k) [] ⟨⟩)<|jsk<|jtn<|jsr<|jla 0 3 rfl rfl rfl<|jfa 0 rfl<|jlo 1 rfl rfl rfl<|jcl c_rulebase_Find rfl ⟨ck 3,ck 2,ck 4,⟨⟩⟩<|fun r4 _ k=>k<|jpc 2 rfl<|jot<|jif rfl (jsr<|jpc 1 rfl<|jot<|jxr<|jbr<|jtr<|jlr<|jbr<|jlr<|
  jr1 rfl rfl (fun _ k=>k) [] ⟨⟩)<|jsk<|jbn<|jtn<|jrg<|jpc 2 rfl<|joe<|jln (gv (fun _ k=>k) [0] ⟨gk 2,gk 3,gk 4,⟨⟩⟩))<|jxe<|jte<|jle<|jbh<|jln (gv (fun _ k=>k) [0] ⟨gk 1,gk 0,gk 2,⟨⟩⟩))<|fun s3 _ k=>k<|jsq<|jsr<|jfa 2 rfl<|jlo 0 rfl rfl rfl<|
  jpc 2 rfl<|jot<|jbk<|
  jlp (fun s5 K=>K [(1, pt b1 0), (69, sv p3 y0.2.2 c3), (70, vi (len y0.2.2)), (71, vi s5)] [bx b1 29 [sv p1 y0.1 c1, sv p2 y0.2.1 c2, sv p3 y0.2.2 c3]] [Rl e_Promotion p3 c3 y0.2.2, Rl e_Premise p1 c1 y0.1, Rl e_Rule p2 c2 y0.2.1]) (gv (fun _ k=>k) [0] ⟨gk 2,gk 0,gk 1,⟨⟩⟩)<|
  fun s5 _ k=>k<|jsr<|jpc 1 rfl<|jot<|jsq<|jif rfl (jsk<|jtn<|jsq<|jbk<|jsr<|jix 0 rfl rfl rfl<|fun x3 b6 o3=>jld true o_Promotion (gk 0) rfl<|jal .s (.agg #[vs [], vi 0, vb false, vs []])<|fun b7=>jso .s 1 rfl rfl rfl<|jot<|jsr<|
  jla 0 3 rfl rfl rfl<|jla 1 4 rfl rfl rfl<|jcl c_rulebase_promotion rfl ⟨ck 2,ck 3,ck 1,⟨⟩⟩<|fun r5 _ k=>k<|jpc 1 rfl<|jot<|jsr<|jpc 2 rfl<|jot<|jif rfl (jsr<|jpc 2 rfl<|jot<|jxr<|jbr<|jtr<|jlr<|jbr<|jtr<|jr1 rfl rfl (fun _ k=>k) [] ⟨⟩)<|
  jsk<|jbn<|jtn<|jrg<|jpc 2 rfl<|joe<|jln (gv (fun _ k=>k) [0] ⟨gk 1,gk 2,gk 3,⟨⟩⟩))<|jxe<|jte<|jle<|jbh<|jtn<|jsr<|jpc 1 rfl<|jot<|jxr<|jr1 rfl rfl (fun _ k=>k) [] ⟨⟩

theorem c_argument_Build {y0 : T_Base} : Con Try.prog 10 [.agg #[sv p1 y0.1 c1, sv p2 y0.2.1 c2, sv p3 y0.2.2 c3]] [] [Rl e_Premise p1 c1 y0.1, Rl e_Rule p2 c2 y0.2.1, Rl e_Promotion p3 c3 y0.2.2] (m_argument_Build y0) fun r K=>∀ p4 c4,K (.tuple #[sv p4 r.1 c4, vi r.2]) [] [Rl e_Argument p4 c4 r.1] :=
 ent3 Try.call10 Try.func10 rfl fun X=>jsr<|jbx .s rfl<|fun b1=>jpc 2 rfl<|jot<|jcs<|jsq<|jsr<|jla 0 3 rfl rfl rfl<|jcl c_rulebase_Validate rfl ⟨ck 0,ck 1,ck 2,⟨⟩⟩<|fun r1 _ k=>k<|jpc 1 rfl<|jot<|jsr<|jpc 2 rfl<|jot<|jif rfl (jsr<|jpc 3 rfl<|jot<|jxr<|jtr<|jcr<|
  jrg' rfl (lT rfl (lT rfl lN)) (fun _ k=>k none 0) [] ⟨gn,⟨⟩⟩)<|jsk<|jtn<|jsr<|jla 0 3 rfl rfl rfl<|jpe (.agg #[sv p1 y0.1 c1, sv p2 y0.2.1 c2, sv p3 y0.2.2 c3, .slice none 0 0, .slice none 0 0, vi 0])<|jro e_Argument 41<|jbx .s rfl<|
  fun b2=>jpc 1 rfl<|jot<|
  jjn (fun s1 K=>∀ p4 c4 r_1,K [(1, pt b1 0), (5, pt b2 0)] [bx b1 29 [sv p1 y0.1 c1, sv p2 y0.2.1 c2, sv p3 y0.2.2 c3], r_1, bx b2 72 [sv p1 y0.1 c1, sv p2 y0.2.1 c2, sv p3 y0.2.2 c3, sv p4 s1 c4, .slice none 0 0, vi 0]] [Al e_Argument 41 r_1 p4 c4 s1, Rl e_Premise p1 c1 y0.1, Rl e_Rule p2 c2 y0.2.1, Rl e_Promotion p3 c3 y0.2.2]) (
  jsr<|jfa 0 rfl<|jlo 0 rfl rfl rfl<|jpc 2 rfl<|jot<|jbk<|
  jlp (fun s2 K=>∀ p5 c5 r_2,K [(1, pt b1 0), (5, pt b2 0), (20, sv p1 y0.1 c1), (21, vi (len y0.1)), (22, vi s2.1)] [bx b1 29 [sv p1 y0.1 c1, sv p2 y0.2.1 c2, sv p3 y0.2.2 c3], r_2, bx b2 72 [sv p1 y0.1 c1, sv p2 y0.2.1 c2, sv p3 y0.2.2 c3, sv p5 s2.2 c5, .slice none 0 0, vi 0]] [Al e_Argument 41 r_2 p5 c5 s2.2, Rl e_Premise p1 c1 y0.1, Rl e_Rule p2 c2 y0.2.1, Rl e_Promotion p3 c3 y0.2.2]) (gv (fun _ k=>k none 0 []) [0,1,2] ⟨gk 0,gk 1,gk 2,gk 3,⟨⟩⟩)<|
  fun s2 _ k p5 c5 r_2=>k<|jsr<|jpc 1 rfl<|jot<|jsq<|jif rfl (jsk<|jtn<|jsq<|jbk<|jsr<|jpc 1 rfl<|jix 1 rfl rfl rfl<|fun x1 b3 o1=>jld true o_Premise (gk 0) rfl<|jal .s (.agg #[vb false, vs [], vi 0, vi 0, vs []])<|fun b4=>jpc 1 rfl<|
  jso .s 3 rfl rfl rfl<|jot<|jdS [13] [2, 3] 14<|jdc 11 [0,1,2] rfl<|jdf 3 3 rfl rfl<|jdo 4 2 rfl rfl rfl rfl<|jdc 8 [5] rfl<|jdf 6 0 rfl rfl<|jda 7 3 2 rfl rfl rfl rfl<|
  jdp 8 (.agg #[vi s2.1, vi (-1), .slice none 0 0, vb x1.1.1, vs x1.1.2]) rfl<|jd1 9<|
  jbs (.f rfl) (e := e_Argument) 41 [vi s2.1, vi (-1), .slice none 0 0, vb x1.1.1, vs x1.1.2] ([(s2.1, (-1), ([] : List Int), x1.1)] : List T_Argument) (rC (vP vI (vP vI (vP (vL gn) (vP vB vS)))) rN)<|fun p6 c6=>jdn<|jd1 10<|
  jar (.f rfl) 1 2 rfl (gk 0) rfl rfl<|fun x2 r_3 p7 c7=>jdn<|jdc 2 [11] rfl<|jdf 12 3 rfl rfl<|jd1 13<|jso (.f rfl) 2 rfl rfl rfl<|jdb [] [2, 3]<|jde<|jbn<|jtn<|jrg<|jpc 2 rfl<|joe<|
  jln (gv (fun _ k=>k p7 c7 r_3) [0,1,2] ⟨gk 0,gk 4,gk 5,gk 6,⟨⟩⟩))<|jxe<|jte<|jle<|jbh<|jnn (gv (fun _ k=>k p5 c5 r_2) [0,1,2] ⟨gk 0,gk 1,gk 2,gk 3,⟨⟩⟩))<|fun s1 _ k p4 c4 r_1=>k<|jsq<|jlb<|jtn<|
  jjn (fun s3 K=>∀ p8 c8 r_4 p9 c9 r_5,K [(5, pt b2 0)] [[], r_4, bx b2 72 [sv p1 y0.1 c1, sv p2 y0.2.1 c2, sv p3 y0.2.2 c3, sv p8 s3.1 c8, sv p9 s3.2.1 c9, vi s3.2.2], r_5] [Al e_Argument 41 r_4 p8 c8 s3.1, Al e_Argument 41 r_5 p9 c9 s3.2.1, Rl e_Premise p1 c1 y0.1, Rl e_Rule p2 c2 y0.2.1, Rl e_Promotion p3 c3 y0.2.2]) (
  jsr<|jpc 1 rfl<|jot<|jbk<|
  jlp (fun s4 K=>∀ p10 c10 r_6 p11 c11,K [(1, pt b1 0), (5, pt b2 0), (8, vi s4.1)] [bx b1 29 [sv p1 y0.1 c1, sv p2 y0.2.1 c2, sv p3 y0.2.2 c3], r_6, bx b2 72 [sv p1 y0.1 c1, sv p2 y0.2.1 c2, sv p3 y0.2.2 c3, sv p10 s4.2.1 c10, sv p11 s4.2.2.1 c11, vi s4.2.2.2]] [Al e_Argument 41 r_6 p10 c10 s4.2.1, Rl e_Argument p11 c11 s4.2.2.1, Rl e_Premise p1 c1 y0.1, Rl e_Rule p2 c2 y0.2.1, Rl e_Promotion p3 c3 y0.2.2]) (gv (fun _ k=>k p4 c4 r_1 none 0) [0,1,2] ⟨gk 0,gn,gk 1,gk 2,gk 3,⟨⟩⟩)<|
  fun s4 _ k p10 c10 r_6 p11 c11=>k<|jsq<|jbk<|jsr<|jpc 2 rfl<|jfa 4 rfl<|jro e_Argument 41<|jso .s 2 rfl rfl rfl<|jot<|
  jjo (fun s5 K=>∀ p12 c12 r_7,K [(1, pt b1 0), (5, pt b2 0), (8, vi s4.1)] [bx b1 29 [sv p1 y0.1 c1, sv p2 y0.2.1 c2, sv p3 y0.2.2 c3], r_6, bx b2 72 [sv p1 y0.1 c1, sv p2 y0.2.1 c2, sv p3 y0.2.2 c3, sv p10 s4.2.1 c10, sv p12 s5 c12, vi s4.2.2.2], r_7] [Al e_Argument 41 r_7 p12 c12 s5, Rl e_Premise p1 c1 y0.1, Rl e_Rule p2 c2 y0.2.1, Rl e_Promotion p3 c3 y0.2.2, Al e_Argument 41 r_6 p10 c10 s4.2.1]) (
  jsr<|jfa 1 rfl<|jlo 0 rfl rfl rfl<|jpc 2 rfl<|jot<|jbk<|
  jlp (fun s6 K=>∀ p13 c13 r_8,K [(1, pt b1 0), (5, pt b2 0), (8, vi s4.1), (47, sv p2 y0.2.1 c2), (48, vi (len y0.2.1)), (49, vi s6.1)] [bx b1 29 [sv p1 y0.1 c1, sv p2 y0.2.1 c2, sv p3 y0.2.2 c3], r_6, bx b2 72 [sv p1 y0.1 c1, sv p2 y0.2.1 c2, sv p3 y0.2.2 c3, sv p10 s4.2.1 c10, sv p13 s6.2 c13, vi s4.2.2.2], r_8] [Al e_Argument 41 r_8 p13 c13 s6.2, Rl e_Rule p2 c2 y0.2.1, Rl e_Premise p1 c1 y0.1, Rl e_Promotion p3 c3 y0.2.2, Al e_Argument 41 r_6 p10 c10 s4.2.1]) (gv (fun _ k=>k none 0 []) [0,1,2,3] ⟨gk 0,gk 4,gk 3,gk 5,gk 1,⟨⟩⟩)<|
  fun s6 _ k p13 c13 r_8=>k<|jsr<|jpc 1 rfl<|jot<|jsq<|jif rfl (jsk<|jtn<|jsq<|jbk<|jsr<|jpc 1 rfl<|jix 1 rfl rfl rfl<|fun x3 b5 o2=>jld true o_Rule (gk 0) rfl<|fun p14 c14=>
  jal .s (.agg #[vs [], vb false, vi 0, .slice none 0 0, vb false, vs []])<|fun b6=>jpc 1 rfl<|jso .s 4 rfl rfl rfl<|jot<|
  jjn (fun s7 K=>∀ p15 c15 r_9,K [(1, pt b1 0), (5, pt b2 0), (8, vi s4.1), (47, sv p2 y0.2.1 c2), (48, vi (len y0.2.1)), (49, vi s6.1)] [bx b1 29 [sv p1 y0.1 c1, sv p2 y0.2.1 c2, sv p3 y0.2.2 c3], r_6, bx b2 72 [sv p1 y0.1 c1, sv p2 y0.2.1 c2, sv p3 y0.2.2 c3, sv p10 s4.2.1 c10, sv p15 s7 c15, vi s4.2.2.2], r_9, []] [Al e_Argument 41 r_9 p15 c15 s7, Rl e_Rule p2 c2 y0.2.1, Rl e_Premise p1 c1 y0.1, Rl e_Promotion p3 c3 y0.2.2, Al e_Argument 41 r_6 p10 c10 s4.2.1]) (
  jsr<|jfa 3 rfl<|jlo 4 rfl rfl rfl<|jpc 2 rfl<|jot<|jif rfl (jrg<|jpc 2 rfl<|jca .s [2, 1, 3] [] c_argument_builder_apply_2 rfl rfl rfl ⟨ck 4,ck 3,ck 5,ck 6,ck 2,cn,⟨⟩⟩<|fun r2 _ k p16 c16 r_10=>k<|joe<|
  jnn (gv (fun _ k=>k p16 c16 r_10) [0,1,2,3,904] ⟨gk 0,gk 4,gk 5,gk 6,gk 7,⟨⟩⟩))<|jsr<|jpc 2 rfl<|jot<|jif rfl (jdS [13] [2, 4] 14<|jdc 11 [0,1,2] rfl<|jdf 3 4 rfl rfl<|jdo 4 2 rfl rfl rfl rfl<|jdc 8 [5] rfl<|jdf 6 4 rfl rfl<|
  jda 7 4 2 rfl rfl rfl rfl<|jdp 8 (.agg #[vi (-1), vi s6.1, .slice none 0 0, vb x3.2.2.2.2.1, vs x3.2.2.2.2.2]) rfl<|jd1 9<|
  jbs (.f rfl) (e := e_Argument) 41 [vi (-1), vi s6.1, .slice none 0 0, vb x3.2.2.2.2.1, vs x3.2.2.2.2.2] ([((-1), s6.1, ([] : List Int), x3.2.2.2.2)] : List T_Argument) (rC (vP vI (vP vI (vP (vL gn) (vP vB vS)))) rN)<|fun p17 c17=>jdn<|
  jd1 10<|jar (.f rfl) 3 3 rfl (gk 0) rfl rfl<|fun x4 r_11 p18 c18=>jdn<|jdc 2 [11] rfl<|jdf 12 4 rfl rfl<|jd1 13<|jso (.f rfl) 2 rfl rfl rfl<|jdb [] [2, 4]<|jde<|jnn (gv (fun _ k=>k p18 c18 r_11) [0,1,2,3,904] ⟨gk 0,gk 5,gk 6,gk 7,gk 8,⟨⟩⟩)
  )<|jsk<|jnn (gv (fun _ k=>k p13 c13 r_8) [0,1,2,3,904] ⟨gk 2,gk 3,gk 4,gk 5,gk 6,⟨⟩⟩))<|fun s7 _ k p15 c15 r_9=>k<|jsr<|jpc 1 rfl<|jca .s [2] [1, 3] c_argument_builder_full rfl rfl rfl ⟨ck 2,ck 1,ck 3,cl 1 4,cl 3 0,⟨⟩⟩<|fun r3 _ k=>k<|jot<|
  jif rfl (jxe<|jbm<|jte<|jle<|jbm<|jle<|jbm<|jte<|jle<|jbh<|jnn (gv (fun _ k=>k p10 c10 r_6 p15 c15 r_9) [900,1,2,3] ⟨gk 4,gk 0,gk 2,gk 1,gk 3,⟨⟩⟩))<|jsk<|jbn<|jtn<|jrg<|jpc 2 rfl<|joe<|
  jln (gv (fun _ k=>k p15 c15 r_9) [0,1,2,3] ⟨gk 0,gk 1,gk 2,gk 3,gk 4,⟨⟩⟩))<|jxe<|jte<|jle<|jbh<|jln (gv (fun _ k=>k p13 c13 r_8) [0,1,2,3] ⟨gk 0,gk 2,gk 1,gk 3,gk 4,⟨⟩⟩))<|fun s5 _ k p12 c12 r_7=>k<|jsq<|jsr<|jpc 2 rfl<|jfa 4 rfl<|
  jlo 2 rfl rfl rfl<|jpc 2 rfl<|jot<|jif rfl (jxe<|jte<|jbm<|jte<|jle<|jbh<|jnn (gv (fun _ k=>k p10 c10 r_6 p12 c12 r_7) [900,1,2,3] ⟨gk 4,gk 0,gk 1,gk 2,gk 3,⟨⟩⟩))<|jsk<|jtn<|jsr<|jpc 3 rfl<|jfa 3 rfl<|jlo 2 rfl rfl rfl<|jpc 2 rfl<|
  jfa 5 rfl<|jso .s 2 rfl rfl rfl<|jot<|jdS [12] [2] 13<|jdc 10 [0,1,2] rfl<|jdf 3 3 rfl rfl<|jdo 4 2 rfl rfl rfl rfl<|jdc 6 [5,6] rfl<|jdf 7 4 rfl rfl<|jdo 8 2 rfl rfl rfl rfl<|jd1 9<|jao (.f rfl) 1 3 4 0 rfl rfl rfl rfl<|
  fun x5 r_12 p19 c19=>jdn<|jdc 2 [10] rfl<|jdf 11 3 rfl rfl<|jd1 12<|jso (.f rfl) 2 rfl rfl rfl<|jdb [] [2]<|jde<|jbn<|jtn<|jrg<|jpc 3 rfl<|joe<|jsh 3 1 rfl rfl<|
  jln (gv (fun _ k=>k p19 c19 r_12 p12 c12) [0,1,2] ⟨gk 1,gk 0,gk 3,gk 4,gk 5,⟨⟩⟩))<|fun s3 _ k p8 c8 r_4 p9 c9 r_5=>k<|jsq<|jsr<|jpc 1 rfl<|jca .s [2] [1, 3] c_argument_builder_full rfl rfl rfl ⟨ck 2,ck 3,ck 4,cl 1 0,cl 3 1,⟨⟩⟩<|fun r4 _ k=>
  k<|jot<|jif rfl (jsr<|jpc 2 rfl<|jot<|jxr<|jtr<|jcr<|jrg' rfl (lT rfl (lT rfl lN)) (fun _ k=>k none 0) [] ⟨gn,⟨⟩⟩)<|jsk<|jtn<|jsr<|jpc 2 rfl<|jfa 3 rfl<|jlo 2 rfl rfl rfl<|jpc 2 rfl<|jot<|jxr<|jcr<|jsh 1 0 rfl rfl<|
  jrg' rfl (lT rfl (lT rfl lN)) (fun _ k=>k p8 c8) [] ⟨gk 0,⟨⟩⟩

theorem c_keep_New {y0 : List Int} : Con Try.prog 8 [sv p1 y0 c1] [] [Rl (eInt .i64) p1 c1 y0] (m_keep_New y0) fun r K=>∀ b1 p2 c2,K (pt b1 0) [bx b1 60 [sv p2 r.1 c2, vi r.2]] [Rl (eInt .i64) p2 c2 r.1] :=
 ent3 Try.call8 Try.func8 rfl fun X=>jsr<|jpc 1 rfl<|jot<|jsr<|jpc 4 rfl<|jsl (gk 0) rfl rfl rfl (.inl ⟨rfl, rfl⟩) (.inr ⟨_, rfl⟩)<|fun x1 p2 c2=>jpe (.agg #[sv p2 x1 c2, vi 0])<|jbx .s rfl<|fun b1=>jpc 1 rfl<|jot<|jxr<|jr1 rfl rfl (fun _ k=>k b1 p2 c2) [0] ⟨gk 0,⟨⟩⟩

theorem c_keep_Mod {y0 : Int} {y1 : Int} : Con Try.prog 14 [vi y0, vi y1] [] [] (m_keep_Mod y0 y1) fun r K=>K (vi r) [] [] :=
 ent3 Try.call14 Try.func14 rfl fun X=>jsr<|jpc 1 rfl<|jot<|jsq<|jsr<|jpc 2 rfl<|jot<|jif rfl (jsr<|jpc 1 rfl<|jot<|jxr<|jtr<|jr1 rfl rfl (fun _ k=>k) [] ⟨⟩)<|jsk<|jtn<|jsr<|jpc 2 rfl<|jbd fun x1 h1=>jv (fun h=>r_remK h rfl rfl h1)<|jpc 1 rfl<|jot<|jsq<|jsr<|jpc 2 rfl<|jot<|
  jif rfl (jrg<|jpc 4 rfl<|joe<|jtn<|jsr<|jpc 2 rfl<|jot<|jxr<|jr1 rfl rfl (fun _ k=>k) [] ⟨⟩)<|jsk<|jtn<|jsr<|jpc 2 rfl<|jot<|jxr<|jr1 rfl rfl (fun _ k=>k) [] ⟨⟩

theorem c_keep_RuleName {y0 : Int} : Con Try.prog 26 [vi y0] [] [] (m_keep_RuleName y0) fun r K=>K (vs r) [] [] :=
 ent3 Try.call26 Try.func26 rfl fun X=>jsr<|jpc 1 rfl<|jot<|jsr<|jpc 1 rfl<|jcl c_keep_Mod rfl ⟨⟩<|fun r1 _ k=>k<|jpc 1 rfl<|jpe (.int .u8 (IntKind.u8.wrap (w64 (97 + r1))))<|
  jbs .s (e := eInt .u8) 5 [.int .u8 (IntKind.u8.wrap (w64 (97 + r1)))] ([IntKind.u8.wrap (w64 (97 + r1))] : List Int) (rC vI rN)<|fun p1 c1=>jsb .s (gk 0) rfl Try.underlying81 Try.underlying5 Try.underlying9<|jbd fun x1 h1=>
  jv (fun h=>r_cat h rfl rfl h1)<|jpc 1 rfl<|jot<|jxr<|jr1 rfl rfl (fun _ k=>k) [] ⟨⟩

theorem c_keep_Src_Raw {y0 : T_keep_Src} : Con Try.prog 41 [pt b1 0] [bx b1 60 [sv p1 y0.1 c1, vi y0.2]] [Rl (eInt .i64) p1 c1 y0.1] (m_keep_Src_Raw y0) fun r K=>K (vi r.1) [bx b1 60 [sv p1 y0.1 c1, vi r.2]] [] :=
 ent3 Try.call41 Try.func41 rfl fun X=>jsr<|jpc 1 rfl<|jot<|jsq<|jds [] [0] 10<|jdc 8 [0,1] rfl<|jdf 2 1 rfl rfl<|jdo 3 0 rfl rfl rfl rfl<|jdc 4 [4,5] rfl<|jdf 6 0 rfl rfl<|jdo 7 0 rfl rfl rfl rfl<|jdc 0 [8,9] rfl<|jde<|jtn<|jif rfl (jsr<|jpc 1 rfl<|jot<|jxr<|jtr<|
  jr1 rfl rfl (fun _ k=>k) [0] ⟨⟩)<|jsk<|jtn<|jsr<|jpc 2 rfl<|jfa 1 rfl<|jlo 0 rfl rfl rfl<|jpc 2 rfl<|jfa 1 rfl<|jso .s 0 rfl rfl rfl<|jot<|jds [] [0] 12<|jdc 10 [0,1] rfl<|jdf 2 0 rfl rfl<|jdo 3 0 rfl rfl rfl rfl<|jdc 6 [4,5] rfl<|
  jdf 6 1 rfl rfl<|jdo 7 0 rfl rfl rfl rfl<|jdc 3 [8] rfl<|jdi 9 0 rfl rfl rfl rfl<|fun x1 b2 o1=>jdl 10 false oI rfl (gk 0) rfl<|jdc 0 [11] rfl<|jde<|jtn<|jxr<|jr1 rfl rfl (fun _ k=>k) [0] ⟨⟩

theorem c_keep_Src_N {y0 : T_keep_Src} {y1 : Int} : Con Try.prog 22 [pt b1 0, vi y1] [bx b1 60 [sv p1 y0.1 c1, vi y0.2]] [Rl (eInt .i64) p1 c1 y0.1] (m_keep_Src_N y0 y1) fun r K=>K (vi r.1) [bx b1 60 [sv p1 y0.1 c1, vi r.2]] [] :=
 ent3 Try.call22 Try.func22 rfl fun X=>jsr<|jpc 1 rfl<|jot<|jsr<|jpc 1 rfl<|jca .s [0] [] c_keep_Src_Raw rfl rfl rfl ⟨ck 0,⟨⟩⟩<|fun r1 _ k=>k<|jpc 1 rfl<|jcl c_keep_Mod rfl ⟨⟩<|fun r2 _ k=>k<|jpc 1 rfl<|jot<|jxr<|jr1 rfl rfl (fun _ k=>k) [0] ⟨⟩

theorem c_keep_Src_Literal {y0 : T_keep_Src} {y1 : Int} : Con Try.prog 23 [pt b1 0, vi y1] [bx b1 60 [sv p1 y0.1 c1, vi y0.2]] [Rl (eInt .i64) p1 c1 y0.1] (m_keep_Src_Literal y0 y1) fun r K=>K (.agg #[vb r.1.1, vs r.1.2]) [bx b1 60 [sv p1 y0.1 c1, vi r.2]] [] :=
 ent3 Try.call23 Try.func23 rfl fun X=>jsr<|jal .s (.agg #[vb false, vs []])<|fun b2=>jot<|jsr<|jpc 3 rfl<|jca .s [0] [] c_keep_Src_N rfl rfl rfl ⟨ck 0,⟨⟩⟩<|fun r1 _ k=>k<|jpc 1 rfl<|jot<|jsr<|jpc 4 rfl<|jbd fun x1 h1=>jv (fun h=>r_quoK h rfl rfl h1)<|jpc 1 rfl<|
  jpe (.int .u8 (IntKind.u8.wrap (w64 (97 + x1))))<|jbs .s (e := eInt .u8) 5 [.int .u8 (IntKind.u8.wrap (w64 (97 + x1)))] ([IntKind.u8.wrap (w64 (97 + x1))] : List Int) (rC vI rN)<|fun p2 c2=>
  jsb .s (gk 0) rfl Try.underlying81 Try.underlying5 Try.underlying9<|jpe (.agg #[vb ((band .i64 r1.1 1) == 1), vs (strOf ([IntKind.u8.wrap (w64 (97 + x1))] : List Int))])<|jso .s 1 rfl rfl rfl<|jot<|jxr<|
  jrg' rfl (lC 1 (.agg #[vb ((band .i64 r1.1 1) == 1), vs (strOf ([IntKind.u8.wrap (w64 (97 + x1))] : List Int))]) rfl rfl lN) (fun _ k=>k) [0] ⟨⟩

theorem c_keep_Src_Literals {y0 : T_keep_Src} {y1 : Int} {y2 : Int} : Con Try.prog 28 [pt b1 0, vi y1, vi y2] [bx b1 60 [sv p1 y0.1 c1, vi y0.2]] [Rl (eInt .i64) p1 c1 y0.1] (m_keep_Src_Literals y0 y1 y2) fun r K=>∀ p2 c2,K (sv p2 r.1 c2) [bx b1 60 [sv p1 y0.1 c1, vi r.2]] [Rl e_Literal p2 c2 r.1] :=
 ent3 Try.call28 Try.func28 rfl fun X=>jsr<|jpc 1 rfl<|jot<|jsr<|jpc 1 rfl<|jro e_Literal 39<|jot<|jsq<|jsr<|jpc 3 rfl<|jca .s [0] [] c_keep_Src_N rfl rfl rfl ⟨ck 1,⟨⟩⟩<|fun r1 _ k=>k<|jpc 1 rfl<|jot<|jbk<|
  jlp (fun s1 K=>∀ p2 c2 r_1,K [(0, pt b1 0), (2, vi y2), (7, sv p2 s1.1 c2), (8, vi s1.2.1)] [bx b1 60 [sv p1 y0.1 c1, vi s1.2.2], r_1] [Al e_Literal 39 r_1 p2 c2 s1.1, Rl (eInt .i64) p1 c1 y0.1]) (gv (fun _ k=>k none 0 []) [0,1] ⟨gk 0,gk 1,⟨⟩⟩)<|
  fun s1 _ k p2 c2 r_1=>k<|jsq<|jsr<|jpc 2 rfl<|jot<|jif rfl (jsk<|jtn<|jsq<|jbk<|jrg<|jpc 3 rfl<|jca .s [0] [] c_keep_Src_Literal rfl rfl rfl ⟨ck 1,⟨⟩⟩<|fun r2 _ k=>k<|
  jbs .s (e := e_Literal) 39 [vb r2.1.1, vs r2.1.2] ([r2.1] : List T_Literal) (rC (vP vB vS) rN)<|fun p3 c3=>jar .s 1 1 rfl (gk 0) rfl rfl<|fun x1 r_2 p4 c4=>jpc 1 rfl<|joe<|jbn<|jtn<|jrg<|jpc 3 rfl<|joe<|
  jln (gv (fun _ k=>k p4 c4 r_2) [0,1] ⟨gk 0,gk 3,⟨⟩⟩))<|jxe<|jte<|jle<|jbh<|jtn<|jsr<|jpc 2 rfl<|jot<|jxr<|jsh 1 0 rfl rfl<|jr1 rfl rfl (fun _ k=>k p2 c2) [0] ⟨gk 0,⟨⟩⟩

theorem c_keep_Src_Pick {y0 : T_keep_Src} {y1 : List Int} : Con Try.prog 24 [pt b1 0, sv p2 y1 c2] [bx b1 60 [sv p1 y0.1 c1, vi y0.2]] [Rl (eInt .i64) p1 c1 y0.1, Rl (eInt .i64) p2 c2 y1] (m_keep_Src_Pick y0 y1) fun r K=>K (vi r.1) [bx b1 60 [sv p1 y0.1 c1, vi r.2]] [] :=
 ent3 Try.call24 Try.func24 rfl fun X=>jsr<|jpc 1 rfl<|jot<|jsr<|jpc 4 rfl<|jca .s [0] [] c_keep_Src_N rfl rfl rfl ⟨ck 0,⟨⟩⟩<|fun r1 _ k=>k<|jix 1 rfl rfl rfl<|fun x1 b2 o1=>jld false oI (gk 0) rfl<|jpc 1 rfl<|jot<|jxr<|jr1 rfl rfl (fun _ k=>k) [0] ⟨⟩

theorem c_keep_Src_Text {y0 : T_keep_Src} {y1 : List Str} : Con Try.prog 25 [pt b1 0, sv p2 y1 c2] [bx b1 60 [sv p1 y0.1 c1, vi y0.2]] [Rl (eInt .i64) p1 c1 y0.1, Rl eStr p2 c2 y1] (m_keep_Src_Text y0 y1) fun r K=>K (vs r.1) [bx b1 60 [sv p1 y0.1 c1, vi r.2]] [] :=
 ent3 Try.call25 Try.func25 rfl fun X=>jsr<|jpc 1 rfl<|jot<|jsr<|jpc 4 rfl<|jca .s [0] [] c_keep_Src_N rfl rfl rfl ⟨ck 0,⟨⟩⟩<|fun r1 _ k=>k<|jix 1 rfl rfl rfl<|fun x1 b2 o1=>jld false oS (gk 0) rfl<|jpc 1 rfl<|jot<|jxr<|jr1 rfl rfl (fun _ k=>k) [0] ⟨⟩

theorem c_keep_sorted {y0 : List T_Literal} : Con Try.prog 27 [sv p1 y0 c1] [] [Rl e_Literal p1 c1 y0] (m_keep_sorted y0) fun r K=>∀ p2 c2,K (sv p2 r c2) [] [Rl e_Literal p2 c2 r] :=
 ent3 Try.call27 Try.func27 rfl fun X=>jsr<|jpc 1 rfl<|jot<|jsr<|jpc 1 rfl<|jro e_Literal 39<|jot<|jsq<|jsr<|jpc 3 rfl<|jot<|jbk<|
  jlp (fun s1 K=>∀ p2 c2 r_1,K [(3, sv p2 s1.1 c2), (7, sv p1 y0 c1), (8, vi (len y0)), (9, vi s1.2)] [r_1] [Al e_Literal 39 r_1 p2 c2 s1.1, Rl e_Literal p1 c1 y0]) (gv (fun _ k=>k none 0 []) [0] ⟨gk 0,gk 1,⟨⟩⟩)<|fun s1 _ k p2 c2 r_1=>k<|
  jsr<|jpc 1 rfl<|jot<|jsq<|jif rfl (jsk<|jtn<|jsq<|jbk<|jsr<|jix 1 rfl rfl rfl<|fun x1 b1 o1=>jld true o_Literal (gk 0) rfl<|jal .s (.agg #[vb false, vs []])<|fun b2=>jso .s 1 rfl rfl rfl<|jot<|jsr<|jpc 1 rfl<|jot<|
  jjn (fun s2 K=>K [(3, sv p2 s1.1 c2), (5, pt b2 0), (6, vi s2), (7, sv p1 y0 c1), (8, vi (len y0)), (9, vi s1.2)] [r_1, bx b2 39 [vb x1.1, vs x1.2]] [Al e_Literal 39 r_1 p2 c2 s1.1, Rl e_Literal p1 c1 y0]) (jbk<|
  jlp (fun s3 K=>K [(3, sv p2 s1.1 c2), (5, pt b2 0), (6, vi s3), (7, sv p1 y0 c1), (8, vi (len y0)), (9, vi s1.2)] [r_1, bx b2 39 [vb x1.1, vs x1.2]] [Al e_Literal 39 r_1 p2 c2 s1.1, Rl e_Literal p1 c1 y0]) (gv (fun _ k=>k) [0,1] ⟨gk 1,gk 2,⟨⟩⟩)<|
  fun s3 _ k=>k<|jsq<|jjn (fun s4 K=>K [(3, sv p2 s1.1 c2), (5, pt b2 0), (6, vi s3), (7, sv p1 y0 c1), (8, vi (len y0)), (9, vi s1.2), (48, vb s4)] [r_1, bx b2 39 [vb x1.1, vs x1.2]] [Al e_Literal 39 r_1 p2 c2 s1.1, Rl e_Literal p1 c1 y0]) (
  jdS [] [0, 1] 36<|jdc 31 [0,1,2,3,4] rfl<|jsg 17 rfl (jdc 29 [5,6] rfl<|jdI 7 0 rfl rfl rfl rfl<|fun x2 h1 b3 hp1=>jdf 8 1 rfl rfl<|jdL 9 0 0 sI.snd false oS rfl rfl hp1 h1 rfl<|jdf 10 1 rfl rfl<|jdo 11 1 rfl rfl rfl rfl<|
  jdc 22 [12,13] rfl<|jsg 26 rfl (jdc 2 [14,15,16,17,18,19,20,21,22,23,24,25,26,27,28,29,30,31,32,33] rfl<|jdp 34 (vb true) rfl<|jdp 35 (vb true) rfl<|jde<|jnn (gv (fun _ k=>k) [0,1] ⟨gk 0,gk 1,⟨⟩⟩))<|jdc 20 [14,15] rfl<|
  jdI 16 0 rfl rfl rfl rfl<|fun x3 h2 b4 hp2=>jdf 17 1 rfl rfl<|jdL 18 0 0 sI.snd false oS rfl rfl hp2 h2 rfl<|jdf 19 1 rfl rfl<|jdo 20 1 rfl rfl rfl rfl<|jdc 13 [21,22] rfl<|jsg 35 rfl (jdc 11 [23,24] rfl<|jdI 25 0 rfl rfl rfl rfl<|
  fun x4 h3 b5 hp3=>jdf 26 0 rfl rfl<|jdL 27 0 0 sI.fst false oB rfl rfl hp3 h3 rfl<|jdc 7 [28] rfl<|jdp 29 (vb (!x4.1)) rfl<|jdc 5 [30] rfl<|jsg 43 rfl (jdf 31 0 rfl rfl<|jdo 32 1 rfl rfl rfl rfl<|jdp 33 (vb x1.1) rfl<|jdp 34 (vb x1.1) rfl<|
  jdp 35 (vb x1.1) rfl<|jde<|jnn (gv (fun _ k=>k) [0,1] ⟨gk 0,gk 1,⟨⟩⟩))<|jdc 3 [31,32] rfl<|jdp 33 (vb false) rfl<|jdp 34 (vb false) rfl<|jdp 35 (vb false) rfl<|jde<|jnn (gv (fun _ k=>k) [0,1] ⟨gk 0,gk 1,⟨⟩⟩))<|
  jdc 7 [23,24,25,26,27,28] rfl<|jdp 29 (vb false) rfl<|jdc 3 [30,31,32] rfl<|jdp 33 (vb false) rfl<|jdp 34 (vb false) rfl<|jdp 35 (vb false) rfl<|jde<|jnn (gv (fun _ k=>k) [0,1] ⟨gk 0,gk 1,⟨⟩⟩))<|
  jdc 1 [5,6,7,8,9,10,11,12,13,14,15,16,17,18,19,20,21,22,23,24,25,26,27,28,29,30,31,32,33,34] rfl<|jdp 35 (vb false) rfl<|jde<|jnn (gv (fun _ k=>k) [0,1] ⟨gk 0,gk 1,⟨⟩⟩))<|fun s4 _ k=>k<|jif rfl (jsk<|jtn<|jbk<|jrg<|jpc 3 rfl<|joe<|jbn<|
  jln (gv (fun _ k=>k) [0,1] ⟨gk 0,gk 1,⟨⟩⟩))<|jxe<|jte<|jle<|jbh<|jnn (gv (fun _ k=>k) [0,1] ⟨gk 0,gk 1,⟨⟩⟩))<|fun s2 _ k=>k<|jsq<|
  jjn (fun s5 K=>K [(3, sv p2 s1.1 c2), (5, pt b2 0), (6, vi s2), (7, sv p1 y0 c1), (8, vi (len y0)), (9, vi s1.2), (62, vb s5)] [r_1, bx b2 39 [vb x1.1, vs x1.2]] [Al e_Literal 39 r_1 p2 c2 s1.1, Rl e_Literal p1 c1 y0]) (jdS [] [0, 1] 12<|
  jdc 7 [0,1,2,3,4] rfl<|jsg 55 rfl (jdc 5 [5,6] rfl<|jdI 7 0 rfl rfl rfl rfl<|fun x5 h4 b6 hp4=>jdL 8 0 0 sI true o_Literal rfl rfl hp4 h4 rfl<|jda 9 1 2 rfl rfl rfl rfl<|jdp 10 (vb (x5 == x1)) rfl<|jdp 11 (vb (x5 == x1)) rfl<|jde<|
  jnn (gv (fun _ k=>k) [0,1] ⟨gk 0,gk 1,⟨⟩⟩))<|jdc 1 [5,6,7,8,9,10] rfl<|jdp 11 (vb false) rfl<|jde<|jnn (gv (fun _ k=>k) [0,1] ⟨gk 0,gk 1,⟨⟩⟩))<|fun s5 _ k=>k<|jif rfl (jxe<|jte<|jbh<|jtn<|jrg<|jpc 2 rfl<|joe<|
  jln (gv (fun _ k=>k p2 c2 r_1) [0] ⟨gk 0,gk 1,⟨⟩⟩))<|jsk<|jtn<|jsr<|jpc 1 rfl<|jpe (.agg #[vb false, vs []])<|jbs .s (e := e_Literal) 39 [vb false, vs []] ([(false, [])] : List T_Literal) (rC (vP vB vS) rN)<|fun p3 c3=>
  jar .s 0 1 rfl (gk 0) rfl rfl<|fun x6 r_2 p4 c4=>jpc 1 rfl<|jot<|jds [] [] 8<|jdc 5 [0,1,2] rfl<|jdV 3 0 rfl rfl rfl rfl<|fun u1 p5 c5 f1=>jdc 2 [4,5] rfl<|jdV 6 0 rfl rfl rfl rfl<|fun u2 p6 c6 f2=>jd1 7<|
  jcp (.f rfl) 0 0 rfl (vwV f1) (srV 0 0 f2 rfl) rfl rfl<|fun r_3=>jdn<|jde<|jtn<|jrg<|jpc 2 rfl<|jla 1 2 rfl rfl rfl<|jia 0 rfl rfl rfl<|fun x7 h6 b7 hp5=>jsA .s 0 0 sI x1 true rfl hp5 h6 rfl rfl (vP vB vS)<|fun r_4=>joe<|jbn<|jtn<|jrg<|
  jpc 2 rfl<|joe<|jrE 0 3 rfl rfl<|jln (gv (fun _ k=>k p4 c4 r_4) [0] ⟨gk 0,gk 6,⟨⟩⟩))<|jxe<|jte<|jle<|jbh<|jtn<|jsr<|jpc 2 rfl<|jot<|jxr<|jsh 0 0 rfl rfl<|jr1 rfl rfl (fun _ k=>k p2 c2) [] ⟨gk 0,⟨⟩⟩

theorem c_keep_Src_Base {y0 : T_keep_Src} {y1 : Int} {y2 : Int} {y3 : Int} : Con Try.prog 9 [pt b1 0, vi y1, vi y2, vi y3] [bx b1 60 [sv p1 y0.1 c1, vi y0.2]] [Rl (eInt .i64) p1 c1 y0.1] (m_keep_Src_Base y0 y1 y2 y3) fun r K=>∀ p2 c2 p3 c3 p4 c4,K (.agg #[sv p2 r.1.1 c2, sv p3 r.1.2.1 c3, sv p4 r.1.2.2 c4]) [bx b1 60 [sv p1 y0.1 c1, vi r.2]] [Rl e_Premise p2 c2 r.1.1, Rl e_Rule p3 c3 r.1.2.1, Rl e_Promotion p4 c4 r.1.2.2] :=
 ent3 Try.call9 Try.func9 rfl fun X=>jsr<|jal .s (.agg #[.slice none 0 0, .slice none 0 0, .slice none 0 0])<|fun b2=>jot<|jsr<|jal .s (.agg #[.slice none 0 0, .slice none 0 0, .slice none 0 0])<|fun b3=>jro e_Premise 51<|jro e_Rule 45<|jro e_Promotion 68<|jot<|
  jjn (fun s1 K=>∀ p2 c2 r_1,K [(0, pt b1 0), (1, vi y1), (3, vi y3), (8, pt b2 0), (9, pt b3 0)] [bx b1 60 [sv p1 y0.1 c1, vi s1.1], bx b2 29 [.slice none 0 0, .slice none 0 0, .slice none 0 0], bx b3 29 [sv p2 s1.2 c2, sv none ([] : List T_Rule) 0, sv none ([] : List T_Promotion) 0], r_1, [], []] [Al e_Premise 51 r_1 p2 c2 s1.2, Rl (eInt .i64) p1 c1 y0.1, Al e_Rule 45 [] none 0 ([] : List T_Rule), Al e_Promotion 68 [] none 0 ([] : List T_Promotion)]) (
  jsr<|jpc 3 rfl<|jca .s [0] [] c_keep_Src_N rfl rfl rfl ⟨ck 3,⟨⟩⟩<|fun r1 _ k=>k<|jpc 1 rfl<|jot<|jbk<|
  jlp (fun s2 K=>∀ p3 c3 r_2,K [(0, pt b1 0), (1, vi y1), (3, vi y3), (8, pt b2 0), (9, pt b3 0), (10, vi s2.1)] [bx b1 60 [sv p1 y0.1 c1, vi s2.2.1], bx b2 29 [.slice none 0 0, .slice none 0 0, .slice none 0 0], bx b3 29 [sv p3 s2.2.2 c3, sv none ([] : List T_Rule) 0, sv none ([] : List T_Promotion) 0], r_2, [], []] [Al e_Premise 51 r_2 p3 c3 s2.2.2, Rl (eInt .i64) p1 c1 y0.1, Al e_Rule 45 [] none 0 ([] : List T_Rule), Al e_Promotion 68 [] none 0 ([] : List T_Promotion)]) (gv (fun _ k=>k none 0 []) [0,1,2,3,4,5] ⟨gk 2,gk 3,gk 1,gk 0,⟨⟩⟩)<|
  fun s2 _ k p3 c3 r_2=>k<|jsq<|jsr<|jpc 2 rfl<|jot<|jif rfl (jsk<|jtn<|jsq<|jbk<|jsr<|jpc 2 rfl<|jca .s [0] [] c_keep_Src_Literal rfl rfl rfl ⟨ck 1,⟨⟩⟩<|fun r2 _ k=>k<|jpc 1 rfl<|
  jbs .s (e := eInt .i64) 3 [vi 1, vi 2, vi 2, vi 2, vi 3] ([1, 2, 2, 2, 3] : List Int) (rC vI (rC vI (rC vI (rC vI (rC vI rN)))))<|fun p4 c4=>jca .s [0] [] c_keep_Src_Pick rfl rfl rfl ⟨ck 2,ck 0,⟨⟩⟩<|fun r3 _ k=>k<|jpc 1 rfl<|
  jbs .s (e := eStr) 9 [vs [], vs [], vs [97, 110, 110], vs [98, 111, 98]] ([[], [], [97, 110, 110], [98, 111, 98]] : List Str) (rC vS (rC vS (rC vS (rC vS rN))))<|fun p5 c5=>jca .s [0] [] c_keep_Src_Text rfl rfl rfl ⟨ck 3,ck 0,⟨⟩⟩<|
  fun r4 _ k=>k<|jpe (.agg #[vb r2.1.1, vs r2.1.2, vi r3.1, vi 0, vs r4.1])<|jal .s (.agg #[vb false, vs [], vi 0, vi 0, vs []])<|fun b4=>jso .s 6 rfl rfl rfl<|jot<|
  jjn (fun s3 K=>K [(0, pt b1 0), (1, vi y1), (3, vi y3), (8, pt b2 0), (9, pt b3 0), (10, vi s2.1), (11, pt b4 0)] [bx b1 60 [sv p1 y0.1 c1, vi s3.1], bx b2 29 [.slice none 0 0, .slice none 0 0, .slice none 0 0], bx b3 29 [sv p3 s2.2.2 c3, sv none ([] : List T_Rule) 0, sv none ([] : List T_Promotion) 0], r_2, [], [], bx b4 51 [vb r2.1.1, vs r2.1.2, vi r3.1, vi s3.2, vs r4.1]] [Rl (eInt .i64) p1 c1 y0.1, Al e_Premise 51 r_2 p3 c3 s2.2.2, Al e_Rule 45 [] none 0 ([] : List T_Rule), Al e_Promotion 68 [] none 0 ([] : List T_Promotion)]) (
  jsr<|jfa 2 rfl<|jlo 6 rfl rfl rfl<|jpc 1 rfl<|jot<|jif rfl (jrg<|jpc 1 rfl<|jca .s [0] [] c_keep_Src_N rfl rfl rfl ⟨ck 3,⟨⟩⟩<|fun r5 _ k=>k<|jfa 3 rfl<|jso .s 6 rfl rfl rfl<|joe<|
  jnn (gv (fun _ k=>k) [0,1,2,3,4,5,6] ⟨gk 3,gk 2,gk 4,gk 5,⟨⟩⟩))<|jsk<|jnn (gv (fun _ k=>k) [0,1,2,3,4,5,6] ⟨gk 3,gk 2,gk 4,gk 5,⟨⟩⟩))<|fun s3 _ k=>k<|jsr<|jpc 1 rfl<|jot<|
  jjn (fun s4 K=>K [(0, pt b1 0), (1, vi y1), (3, vi y3), (8, pt b2 0), (9, pt b3 0), (10, vi s2.1), (11, pt b4 0), (12, vb s4)] [bx b1 60 [sv p1 y0.1 c1, vi s3.1], bx b2 29 [.slice none 0 0, .slice none 0 0, .slice none 0 0], bx b3 29 [sv p3 s2.2.2 c3, sv none ([] : List T_Rule) 0, sv none ([] : List T_Promotion) 0], r_2, [], [], bx b4 51 [vb r2.1.1, vs r2.1.2, vi r3.1, vi s3.2, vs r4.1]] [Rl (eInt .i64) p1 c1 y0.1, Al e_Premise 51 r_2 p3 c3 s2.2.2, Al e_Rule 45 [] none 0 ([] : List T_Rule), Al e_Promotion 68 [] none 0 ([] : List T_Promotion)]) (
  jsr<|jfa 0 rfl<|jlo 2 rfl rfl rfl<|jpc 2 rfl<|jot<|jbk<|
  jlp (fun s5 K=>K [(0, pt b1 0), (1, vi y1), (3, vi y3), (8, pt b2 0), (9, pt b3 0), (10, vi s2.1), (11, pt b4 0), (12, vb s5.1), (44, sv p3 s2.2.2 c3), (45, vi (len s2.2.2)), (46, vi s5.2)] [bx b1 60 [sv p1 y0.1 c1, vi s3.1], bx b2 29 [.slice none 0 0, .slice none 0 0, .slice none 0 0], bx b3 29 [sv p3 s2.2.2 c3, sv none ([] : List T_Rule) 0, sv none ([] : List T_Promotion) 0], r_2, [], [], bx b4 51 [vb r2.1.1, vs r2.1.2, vi r3.1, vi s3.2, vs r4.1]] [Al e_Premise 51 r_2 p3 c3 s2.2.2, Rl (eInt .i64) p1 c1 y0.1, Al e_Rule 45 [] none 0 ([] : List T_Rule), Al e_Promotion 68 [] none 0 ([] : List T_Promotion)]) (gv (fun _ k=>k) [0,1,2,3,4,5,6] ⟨gk 1,gk 0,gk 2,gk 3,⟨⟩⟩)<|
  fun s5 _ k=>k<|jsr<|jpc 1 rfl<|jot<|jsq<|jif rfl (jsk<|jtn<|jsq<|jbk<|jsr<|jia 0 rfl rfl rfl<|fun x1 h1 b5 hp1=>jlA 3 0 sI true o_Premise rfl hp1 h1 rfl<|jal .s (.agg #[vb false, vs [], vi 0, vi 0, vs []])<|fun b6=>jso .s 7 rfl rfl rfl<|
  jot<|
  jjq (fun K=>K [(0, pt b1 0), (1, vi y1), (3, vi y3), (8, pt b2 0), (9, pt b3 0), (10, vi s2.1), (11, pt b4 0), (12, vb (s5.1 || (x1.1 == r2.1))), (44, sv p3 s2.2.2 c3), (45, vi (len s2.2.2)), (46, vi s5.2)] [bx b1 60 [sv p1 y0.1 c1, vi s3.1], bx b2 29 [.slice none 0 0, .slice none 0 0, .slice none 0 0], bx b3 29 [sv p3 s2.2.2 c3, sv none ([] : List T_Rule) 0, sv none ([] : List T_Promotion) 0], r_2, [], [], bx b4 51 [vb r2.1.1, vs r2.1.2, vi r3.1, vi s3.2, vs r4.1], []] [Al e_Premise 51 r_2 p3 c3 s2.2.2, Rl (eInt .i64) p1 c1 y0.1, Al e_Rule 45 [] none 0 ([] : List T_Rule), Al e_Promotion 68 [] none 0 ([] : List T_Promotion)]) (
  jrg<|jpc 2 rfl<|jsp (b := s5.1) 51 rfl (fun hb1=>jpc 5 rfl<|jpe (vb true)<|jpc 1 rfl<|joe<|jup 12 (vb (s5.1 || (x1.1 == r2.1))) rfl (by rw [hb1]; rfl)<|jnn (gv (fun _ k=>k) [0,1,2,3,4,5,6,907] ⟨gk 0,gk 1,gk 2,gk 3,⟨⟩⟩))<|fun hb1=>
  jfa 0 rfl<|jla 7 2 rfl rfl rfl<|jfa 0 rfl<|jla 6 2 rfl rfl rfl<|jpe (vb (x1.1 == r2.1))<|jpe (vb (x1.1 == r2.1))<|jpc 1 rfl<|joe<|jup 12 (vb (s5.1 || (x1.1 == r2.1))) rfl (by rw [hb1]; rfl)<|
  jnn (gv (fun _ k=>k) [0,1,2,3,4,5,6,907] ⟨gk 0,gk 1,gk 2,gk 3,⟨⟩⟩))<|fun _ k=>k<|jbn<|jtn<|jrg<|jpc 2 rfl<|joe<|jln (gv (fun _ k=>k) [0,1,2,3,4,5,6] ⟨gk 0,gk 1,gk 2,gk 3,⟨⟩⟩))<|jxe<|jte<|jle<|jbh<|
  jnn (gv (fun _ k=>k) [0,1,2,3,4,5,6] ⟨gk 1,gk 0,gk 2,gk 3,⟨⟩⟩))<|fun s4 _ k=>k<|jsr<|jpc 2 rfl<|jot<|jif rfl (jrg<|jfa 0 rfl<|jlo 2 rfl rfl rfl<|jla 6 5 rfl rfl rfl<|
  jbs .s (e := e_Premise) 51 [vb r2.1.1, vs r2.1.2, vi r3.1, vi s3.2, vs r4.1] ([(r2.1, r3.1, s3.2, r4.1)] : List T_Premise) (rC (vP (vP vB vS) (vP vI (vP vI vS))) rN)<|fun p6 c6=>jar .s 3 2 rfl (gk 0) rfl rfl<|fun x2 r_3 p7 c7=>jfa 0 rfl<|
  jso .s 2 rfl rfl rfl<|joe<|jbn<|jtn<|jrg<|jpc 3 rfl<|joe<|jln (gv (fun _ k=>k p7 c7 r_3) [0,1,2,3,4,5] ⟨gk 0,gk 2,gk 4,gk 5,⟨⟩⟩))<|jsk<|jbn<|jtn<|jrg<|jpc 3 rfl<|joe<|jln (gv (fun _ k=>k p3 c3 r_2) [0,1,2,3,4,5] ⟨gk 1,gk 0,gk 2,gk 3,⟨⟩⟩))<|
  jxe<|jte<|jle<|jbh<|jnn (gv (fun _ k=>k p3 c3 r_2) [0,1,2,3,4,5] ⟨gk 0,gk 1,gk 2,gk 3,⟨⟩⟩))<|fun s1 _ k p2 c2 r_1=>k<|
  jjn (fun s6 K=>∀ p8 c8 r_4,K [(0, pt b1 0), (1, vi y1), (8, pt b2 0), (9, pt b3 0)] [bx b1 60 [sv p1 y0.1 c1, vi s6.1], bx b2 29 [.slice none 0 0, .slice none 0 0, .slice none 0 0], bx b3 29 [sv p2 s1.2 c2, sv p8 s6.2 c8, sv none ([] : List T_Promotion) 0], r_1, r_4, []] [Al e_Rule 45 r_4 p8 c8 s6.2, Rl (eInt .i64) p1 c1 y0.1, Al e_Premise 51 r_1 p2 c2 s1.2, Al e_Promotion 68 [] none 0 ([] : List T_Promotion)]) (
  jsr<|jpc 3 rfl<|jca .s [0] [] c_keep_Src_N rfl rfl rfl ⟨ck 1,⟨⟩⟩<|fun r6 _ k=>k<|jpc 1 rfl<|jot<|jbk<|
  jlp (fun s7 K=>∀ p9 c9 r_5,K [(0, pt b1 0), (1, vi y1), (3, vi y3), (8, pt b2 0), (9, pt b3 0), (15, vi s7.1)] [bx b1 60 [sv p1 y0.1 c1, vi s7.2.1], bx b2 29 [.slice none 0 0, .slice none 0 0, .slice none 0 0], bx b3 29 [sv p2 s1.2 c2, sv p9 s7.2.2 c9, sv none ([] : List T_Promotion) 0], r_1, r_5, []] [Al e_Rule 45 r_5 p9 c9 s7.2.2, Rl (eInt .i64) p1 c1 y0.1, Al e_Premise 51 r_1 p2 c2 s1.2, Al e_Promotion 68 [] none 0 ([] : List T_Promotion)]) (gv (fun _ k=>k none 0 []) [0,1,2,3,4,5] ⟨gk 2,gk 1,gk 0,gk 3,⟨⟩⟩)<|
  fun s7 _ k p9 c9 r_5=>k<|jsq<|jsr<|jpc 2 rfl<|jot<|jif rfl (jsk<|jtn<|jsq<|jbk<|jsr<|jfa 1 rfl<|jlo 2 rfl rfl rfl<|jpc 1 rfl<|jcl c_keep_RuleName rfl ⟨⟩<|fun r7 _ k=>k<|jpc 1 rfl<|jca .s [0] [] c_keep_Src_N rfl rfl rfl ⟨ck 1,⟨⟩⟩<|
  fun r8 _ k=>k<|jpc 3 rfl<|jca .s [0] [] c_keep_Src_Literals rfl rfl rfl ⟨ck 1,⟨⟩⟩<|fun r9 _ k p10 c10=>k<|jcl c_keep_sorted rfl ⟨ck 0,⟨⟩⟩<|fun r10 _ k p11 c11=>k<|jpc 2 rfl<|jca .s [0] [] c_keep_Src_Literal rfl rfl rfl ⟨ck 3,⟨⟩⟩<|
  fun r11 _ k=>k<|jpe (.agg #[vs r7, vb (r8.1 == 0), vi 0, sv p11 r10 c11, vb r11.1.1, vs r11.1.2])<|jal .s (.agg #[vs [], vb false, vi 0, .slice none 0 0, vb false, vs []])<|fun b7=>jso .s 6 rfl rfl rfl<|jot<|
  jjn (fun s8 K=>K [(0, pt b1 0), (1, vi y1), (3, vi y3), (8, pt b2 0), (9, pt b3 0), (15, vi s7.1), (16, pt b7 0)] [bx b1 60 [sv p1 y0.1 c1, vi s8.1], bx b2 29 [.slice none 0 0, .slice none 0 0, .slice none 0 0], bx b3 29 [sv p2 s1.2 c2, sv p9 s7.2.2 c9, sv none ([] : List T_Promotion) 0], r_1, r_5, [], bx b7 45 [vs r7, vb (r8.1 == 0), vi s8.2, sv p11 r10 c11, vb r11.1.1, vs r11.1.2]] [Rl (eInt .i64) p1 c1 y0.1, Al e_Premise 51 r_1 p2 c2 s1.2, Al e_Rule 45 r_5 p9 c9 s7.2.2, Al e_Promotion 68 [] none 0 ([] : List T_Promotion), Rl e_Literal p11 c11 r10]) (
  jsr<|jfa 1 rfl<|jlo 6 rfl rfl rfl<|jpc 1 rfl<|jot<|jif rfl (jrg<|jpc 1 rfl<|jca .s [0] [] c_keep_Src_N rfl rfl rfl ⟨ck 3,⟨⟩⟩<|fun r12 _ k=>k<|jfa 2 rfl<|jso .s 6 rfl rfl rfl<|joe<|
  jnn (gv (fun _ k=>k) [0,1,2,3,4,5,6] ⟨gk 3,gk 4,gk 2,gk 5,gk 0,⟨⟩⟩))<|jsk<|jnn (gv (fun _ k=>k) [0,1,2,3,4,5,6] ⟨gk 3,gk 4,gk 2,gk 5,gk 0,⟨⟩⟩))<|fun s8 _ k=>k<|
  jjn (fun s9 K=>K [(0, pt b1 0), (1, vi y1), (3, vi y3), (8, pt b2 0), (9, pt b3 0), (15, vi s7.1), (16, pt b7 0)] [bx b1 60 [sv p1 y0.1 c1, vi s9.1], bx b2 29 [.slice none 0 0, .slice none 0 0, .slice none 0 0], bx b3 29 [sv p2 s1.2 c2, sv p9 s7.2.2 c9, sv none ([] : List T_Promotion) 0], r_1, r_5, [], bx b7 45 [vs r7, vb (r8.1 == 0), vi s8.2, sv p11 r10 c11, vb s9.2.1, vs s9.2.2]] [Rl (eInt .i64) p1 c1 y0.1, Al e_Premise 51 r_1 p2 c2 s1.2, Al e_Rule 45 r_5 p9 c9 s7.2.2, Al e_Promotion 68 [] none 0 ([] : List T_Promotion), Rl e_Literal p11 c11 r10]) (
  jsr<|jpc 1 rfl<|jca .s [0] [] c_keep_Src_N rfl rfl rfl ⟨ck 0,⟨⟩⟩<|fun r13 _ k=>k<|jpc 1 rfl<|jot<|jif rfl (jrg<|jpc 1 rfl<|jca .s [0] [] c_keep_Src_N rfl rfl rfl ⟨ck 0,⟨⟩⟩<|fun r14 _ k=>k<|jpc 3 rfl<|
  jca .s [0] [] c_keep_Src_N rfl rfl rfl ⟨ck 0,⟨⟩⟩<|fun r15 _ k=>k<|jcl c_keep_RuleName rfl ⟨⟩<|fun r16 _ k=>k<|jpe (.agg #[vb (decide (0 < r14.1)), vs r16])<|jfa 4 rfl<|jso .s 6 rfl rfl rfl<|joe<|
  jnn (gv (fun _ k=>k) [0,1,2,3,4,5,6] ⟨gk 0,gk 1,gk 2,gk 3,gk 4,⟨⟩⟩))<|jsk<|jnn (gv (fun _ k=>k) [0,1,2,3,4,5,6] ⟨gk 0,gk 1,gk 2,gk 3,gk 4,⟨⟩⟩))<|fun s9 _ k=>k<|jrg<|jfa 1 rfl<|jlo 2 rfl rfl rfl<|jla 6 6 rfl rfl rfl<|
  jbs .s (e := e_Rule) 45 [vs r7, vb (r8.1 == 0), vi s8.2, sv p11 r10 c11, vb s9.2.1, vs s9.2.2] ([(r7, r8.1 == 0, s8.2, r10, (s9.2.1, s9.2.2))] : List T_Rule) (rC (vP vS (vP vB (vP vI (vP (vL (gk 4)) (vP vB vS))))) rN)<|fun p12 c12=>
  jar .s 4 3 rfl (gk 0) rfl rfl<|fun x3 r_6 p13 c13=>jfa 1 rfl<|jso .s 2 rfl rfl rfl<|joe<|jbn<|jtn<|jrg<|jpc 3 rfl<|joe<|jln (gv (fun _ k=>k p13 c13 r_6) [0,1,2,3,4,5] ⟨gk 0,gk 2,gk 3,gk 5,⟨⟩⟩))<|jxe<|jte<|jle<|jbh<|
  jnn (gv (fun _ k=>k p9 c9 r_5) [0,1,2,3,4,5] ⟨gk 0,gk 1,gk 2,gk 3,⟨⟩⟩))<|fun s6 _ k p8 c8 r_4=>k<|
  jjn (fun s10 K=>∀ p14 c14 r_7,K [(8, pt b2 0), (9, pt b3 0)] [bx b1 60 [sv p1 y0.1 c1, vi s10.1], bx b2 29 [.slice none 0 0, .slice none 0 0, .slice none 0 0], bx b3 29 [sv p2 s1.2 c2, sv p8 s6.2 c8, sv p14 s10.2 c14], r_1, r_4, r_7] [Al e_Promotion 68 r_7 p14 c14 s10.2, Rl (eInt .i64) p1 c1 y0.1, Al e_Premise 51 r_1 p2 c2 s1.2, Al e_Rule 45 r_4 p8 c8 s6.2]) (
  jsr<|jpc 1 rfl<|jca .s [0] [] c_keep_Src_N rfl rfl rfl ⟨ck 1,⟨⟩⟩<|fun r17 _ k=>k<|jpc 1 rfl<|jot<|jbk<|
  jlp (fun s11 K=>∀ p15 c15 r_8,K [(0, pt b1 0), (1, vi y1), (8, pt b2 0), (9, pt b3 0), (17, vi s11.1)] [bx b1 60 [sv p1 y0.1 c1, vi s11.2.1], bx b2 29 [.slice none 0 0, .slice none 0 0, .slice none 0 0], bx b3 29 [sv p2 s1.2 c2, sv p8 s6.2 c8, sv p15 s11.2.2 c15], r_1, r_4, r_8] [Al e_Promotion 68 r_8 p15 c15 s11.2.2, Rl (eInt .i64) p1 c1 y0.1, Al e_Premise 51 r_1 p2 c2 s1.2, Al e_Rule 45 r_4 p8 c8 s6.2]) (gv (fun _ k=>k none 0 []) [0,1,2,3,4,5] ⟨gk 3,gk 1,gk 2,gk 0,⟨⟩⟩)<|
  fun s11 _ k p15 c15 r_8=>k<|jsq<|
  jjp (fun K=>K [(0, pt b1 0), (1, vi y1), (8, pt b2 0), (9, pt b3 0), (17, vi s11.1), (123, vb ((decide (0 < s11.1)) && (decide (0 < (len s6.2)))))] [bx b1 60 [sv p1 y0.1 c1, vi s11.2.1], bx b2 29 [.slice none 0 0, .slice none 0 0, .slice none 0 0], bx b3 29 [sv p2 s1.2 c2, sv p8 s6.2 c8, sv p15 s11.2.2 c15], r_1, r_4, r_8] [Rl (eInt .i64) p1 c1 y0.1, Al e_Premise 51 r_1 p2 c2 s1.2, Al e_Rule 45 r_4 p8 c8 s6.2, Al e_Promotion 68 r_8 p15 c15 s11.2.2]) (
  jrg<|jpc 3 rfl<|jsp (b := decide (0 < s11.1)) 118 rfl (fun hb2=>jfa 1 rfl<|jlo 2 rfl rfl rfl<|jpc 2 rfl<|jpe (vb (decide (0 < (len s6.2))))<|joe<|jup 123 (vb ((decide (0 < s11.1)) && (decide (0 < (len s6.2))))) rfl (by rw [hb2]; rfl)<|
  jnn (gv (fun _ k=>k) [0,1,2,3,4,5] ⟨gk 1,gk 2,gk 3,gk 0,⟨⟩⟩))<|fun hb2=>jpc 4 rfl<|jpe (vb false)<|joe<|jup 123 (vb ((decide (0 < s11.1)) && (decide (0 < (len s6.2))))) rfl (by rw [hb2]; rfl)<|
  jnn (gv (fun _ k=>k) [0,1,2,3,4,5] ⟨gk 1,gk 2,gk 3,gk 0,⟨⟩⟩))<|fun _ k=>k<|jif rfl (jsk<|jtn<|jsq<|jbk<|
  jjn (fun s12 K=>∀ b8 p16 c16,K [(0, pt b1 0), (1, vi y1), (8, pt b2 0), (9, pt b3 0), (17, vi s11.1), (18, pt b8 0)] [bx b1 60 [sv p1 y0.1 c1, vi s12.1], bx b2 29 [.slice none 0 0, .slice none 0 0, .slice none 0 0], bx b3 29 [sv p2 s1.2 c2, sv p8 s6.2 c8, sv p15 s11.2.2 c15], r_1, r_4, r_8, bx b8 45 [vs s12.2.1, vb s12.2.2.1, vi s12.2.2.2.1, sv p16 s12.2.2.2.2.1 c16, vb s12.2.2.2.2.2.1, vs s12.2.2.2.2.2.2]] [Rl e_Literal p16 c16 s12.2.2.2.2.1, Rl (eInt .i64) p1 c1 y0.1, Al e_Premise 51 r_1 p2 c2 s1.2, Al e_Rule 45 r_4 p8 c8 s6.2, Al e_Promotion 68 r_8 p15 c15 s11.2.2]) (
  jdS [] [2, 4] 11<|jdf 0 1 rfl rfl<|jdo 1 2 rfl rfl rfl rfl<|jdc 8 [2] rfl<|jdf 3 1 rfl rfl<|jdo 4 2 rfl rfl rfl rfl<|jdc 5 [5] rfl<|jd2 6 9 (jca (.f rfl) [0] [] c_keep_Src_N rfl rfl rfl ⟨ck 0,⟨⟩⟩<|fun r18 _ k=>k<|jdn<|
  jdI 7 2 rfl rfl rfl rfl<|fun x4 h4 b9 hp2=>jdL 8 4 2 sI true o_Rule rfl rfl hp2 h4 rfl<|fun p17 c17=>jd1 9<|jal (.f rfl) (.agg #[vs [], vb false, vi 0, .slice none 0 0, vb false, vs []])<|fun b10=>jdn<|jd1 10<|jso (.f rfl) 6 rfl rfl rfl<|
  jdn<|jde<|jnn (gv (fun _ k=>k b10 p17 c17) [0,1,2,3,4,5,6] ⟨gk 0,gk 1,gk 2,gk 3,gk 4,⟨⟩⟩)) <|jal (.f rfl) (.agg #[vs [], vb false, vi 0, .slice none 0 0, vb false, vs []])<|fun b11=>jdn<|jd1 6<|
  jca (.f rfl) [0] [] c_keep_Src_N rfl rfl rfl ⟨ck 0,⟨⟩⟩<|fun r19 _ k=>k<|jdn<|jdI 7 2 rfl rfl rfl rfl<|fun x5 h5 b12 hp3=>jdL 8 4 2 sI true o_Rule rfl rfl hp3 h5 rfl<|fun p18 c18=>jd1 10<|jso (.f rfl) 6 rfl rfl rfl<|jdn<|jde<|
  jnn (gv (fun _ k=>k b11 p18 c18) [0,1,2,3,4,5,6] ⟨gk 0,gk 1,gk 2,gk 3,gk 4,⟨⟩⟩))<|fun s12 _ k b8 p16 c16=>k<|jsr<|jfa 1 rfl<|jlo 6 rfl rfl rfl<|jpc 1 rfl<|jot<|jif rfl (jdS [13] [2, 6] 14<|jdf 0 2 rfl rfl<|jdo 1 2 rfl rfl rfl rfl<|
  jdf 2 0 rfl rfl<|jdo 3 6 rfl rfl rfl rfl<|jdc 7 [4,6,7] rfl<|jd1 5<|jca (.f rfl) [0] [] c_keep_Src_N rfl rfl rfl ⟨ck 1,⟨⟩⟩<|fun r20 _ k=>k<|jdn<|jd1 8<|jca (.f rfl) [0] [] c_keep_Src_Literal rfl rfl rfl ⟨ck 1,⟨⟩⟩<|fun r21 _ k=>k<|jdn<|
  jdp 9 (.agg #[vs s12.2.1, vi r20.1, vb r21.1.1, vs r21.1.2]) rfl<|jd1 10<|jbs (.f rfl) (e := e_Promotion) 68 [vs s12.2.1, vi r20.1, vb r21.1.1, vs r21.1.2] ([(s12.2.1, r20.1, r21.1)] : List T_Promotion) (rC (vP vS (vP vI (vP vB vS))) rN)<|
  fun p19 c19=>jdn<|jd1 11<|jar (.f rfl) 5 5 rfl (gk 0) rfl rfl<|fun x6 r_9 p20 c20=>jdn<|jdf 12 2 rfl rfl<|jd1 13<|jso (.f rfl) 2 rfl rfl rfl<|jdb [] [2, 6]<|jde<|jbn<|jtn<|jrg<|jpc 3 rfl<|joe<|
  jln (gv (fun _ k=>k p20 c20 r_9) [0,1,2,3,4,5] ⟨gk 0,gk 3,gk 4,gk 5,⟨⟩⟩))<|jsk<|jbn<|jtn<|jrg<|jpc 3 rfl<|joe<|jln (gv (fun _ k=>k p15 c15 r_8) [0,1,2,3,4,5] ⟨gk 4,gk 1,gk 2,gk 3,⟨⟩⟩))<|jxe<|jte<|jle<|jbh<|
  jnn (gv (fun _ k=>k p15 c15 r_8) [0,1,2,3,4,5] ⟨gk 3,gk 0,gk 1,gk 2,⟨⟩⟩))<|fun s10 _ k p14 c14 r_7=>k<|jsr<|jla 2 3 rfl rfl rfl<|jso .s 1 rfl rfl rfl<|jot<|jxr<|jsh 3 2 rfl rfl<|jsh 4 4 rfl rfl<|jsh 5 2 rfl rfl<|
  jrg' rfl (lC 1 (.agg #[sv p2 s1.2 c2, sv p8 s6.2 c8, sv p14 s10.2 c14]) rfl rfl lN) (fun _ k=>k p2 c2 p8 c8 p14 c14) [0] ⟨gk 2,gk 1,gk 0,⟨⟩⟩

theorem c_slices_Clone_Literal {y0 : List T_Literal} : Con Try.prog 55 [sv p1 y0 c1] [] [Rl e_Literal p1 c1 y0] (m_slices_Clone_Literal y0) fun r K=>∀ p2 c2 r_1,K (sv p2 r c2) [r_1] [Al e_Literal 39 r_1 p2 c2 r] :=
 ent3 Try.call55 Try.func55 rfl fun X=>jsr<|jpc 1 rfl<|jot<|jsq<|jsr<|jpc 1 rfl<|jv (fun h=>r_nil h rfl Try.underlying43)<|jot<|jnl (m1 := some ([] : List T_Literal)) rfl (gk 0) (fun h=>by first|(rw [h];done)|(rw [h];rfl)|(simp [h,app];done)) (jsr<|jpc 1 rfl<|jot<|jxr<|jtr<|
  jro e_Literal 39<|jrE 0 2 rfl rfl<|jr1 rfl rfl (fun _ k=>k none 0 []) [0] ⟨gk 0,⟨⟩⟩)<|jsk<|jtn<|jsr<|jbo .s (e := e_Literal) 39 [] ([] : List T_Literal) rN<|fun r_1 p2 c2=>jpc 1 rfl<|jar .s 0 0 rfl (gk 1) rfl rfl<|fun x1 r_2 p3 c3=>
  jpc 1 rfl<|jot<|jxr<|jr1 rfl rfl (fun _ k=>k p3 c3 r_2) [0] ⟨gk 0,⟨⟩⟩

theorem c_slices_Compact_Literal {y0 : List T_Literal} : Con Try.prog 58 [sv p1 y0 c1] [r_1] [Al e_Literal 39 r_1 p1 c1 y0] (m_slices_Compact_Literal y0) fun r K=>∀ p2 c2,K (sv p2 r c2) [[]] [Rl e_Literal p2 c2 r] :=
 ent3 Try.call58 Try.func58 rfl fun X=>jsr<|jpc 1 rfl<|jot<|jsq<|jsr<|jpc 3 rfl<|jot<|jif rfl (jsr<|jpc 2 rfl<|jot<|jxr<|jtr<|jsh 0 0 rfl rfl<|jr1 rfl rfl (fun _ k=>k p1 c1) [900] ⟨gk 0,⟨⟩⟩)<|jsk<|jtn<|jsq<|jsr<|jpc 1 rfl<|jot<|jbk<|
  jlp (fun s1 K=>K [(0, sv p1 y0 c1), (3, vi s1)] [r_1] [Al e_Literal 39 r_1 p1 c1 y0]) (gv (fun _ k=>k) [0] ⟨gk 0,⟨⟩⟩)<|fun s1 _ k=>k<|jsq<|jsr<|jpc 4 rfl<|jot<|jif rfl (jsk<|jtn<|jsq<|jbk<|jds [] [0] 10<|jdc 8 [0,1] rfl<|
  jdI 2 0 rfl rfl rfl rfl<|fun x1 h1 b1 hp1=>jdL 3 0 0 sI true o_Literal rfl rfl hp1 h1 rfl<|jdc 3 [4,5,6] rfl<|jdI 7 0 rfl rfl rfl rfl<|fun x2 h2 b2 hp2=>jdL 8 0 0 sI true o_Literal rfl rfl hp2 h2 rfl<|jdp 9 (vb (x1 == x2)) rfl<|jde<|jtn<|
  jif rfl (jsr<|jpc 2 rfl<|jsV 0 rfl rfl rfl<|fun u1 p2 c2 f1=>jpc 1 rfl<|jot<|jjn (fun s2 K=>∀ r_2,K [(0, .slice p1 (List.length y0) c1), (3, vi s2.2)] [r_2] [Ar e_Literal 39 r_2 p1 c1 (List.length y0) s2.1]) (jsr<|jpc 1 rfl<|jot<|jbk<|
  jlp (fun s3 K=>∀ r_3,K [(0, .slice p1 (List.length y0) c1), (3, vi s3.2.1), (4, .slice p2 (Int.toNat (((List.length y0 : Nat) : Int) - s1)) c2), (5, vi s3.2.2)] [r_3] [Ar e_Literal 39 r_3 p1 c1 (List.length y0) s3.1]) (gv (fun _ k=>k r_1) [0] ⟨gk 0,⟨⟩⟩)<|
  fun s3 _ k r_3=>k<|jsq<|jsr<|jpc 4 rfl<|jot<|jif rfl (jsk<|jtn<|jsq<|jbk<|jds [] [0] 10<|jdc 8 [0,1] rfl<|jdX 2 0 rfl rfl f1 rfl rfl<|fun x3 b3 hp3 h3=>jdL 3 0 0 sI true o_Literal rfl rfl hp3 h3 rfl<|jdc 3 [4,5,6] rfl<|
  jdX 7 0 rfl rfl f1 rfl rfl<|fun x4 b4 hp4 h4=>jdL 8 0 0 sI true o_Literal rfl rfl hp4 h4 rfl<|jdp 9 (vb (!(x3 == x4))) rfl<|jde<|jtn<|jif rfl (jsr<|jpc 4 rfl<|jiV 0 rfl f1 rfl rfl<|fun x5 b5 hp5 h5=>
  jlA 0 0 sI true o_Literal rfl hp5 h5 rfl<|jia 0 rfl rfl rfl<|fun x6 h6 b6 hp6=>jsA .s 0 0 sI x5 true rfl hp6 h6 rfl rfl (vP vB vS)<|fun r_4=>jot<|jrg<|jpc 3 rfl<|joe<|jbn<|jtn<|jrg<|jpc 3 rfl<|joe<|jln (gv (fun _ k=>k r_4) [0] ⟨gk 0,⟨⟩⟩))<|
  jsk<|jbn<|jtn<|jrg<|jpc 3 rfl<|joe<|jln (gv (fun _ k=>k r_3) [0] ⟨gk 0,⟨⟩⟩))<|jxe<|jte<|jle<|jbh<|jnn (gv (fun _ k=>k r_3) [0] ⟨gk 0,⟨⟩⟩))<|fun s2 _ k r_2=>k<|jsr<|jpc 2 rfl<|jsV 0 rfl rfl rfl<|fun u2 p3 c3 f2=>
  jcv .s 0 0 (false, []) (.agg #[vb false, vs []]) rfl f2 rfl (vP vB vS)<|fun r_5=>jot<|jsr<|jpc 2 rfl<|jsP 0 rfl rfl rfl<|fun x7=>jpc 1 rfl<|jot<|jxr<|jbr<|jtr<|jlr<|jbr<|jtr<|jsh 0 0 rfl rfl<|jr1 rfl rfl (fun _ k=>k p1 c1) [900] ⟨gk 0,⟨⟩⟩
  )<|jsk<|jbn<|jtn<|jrg<|jpc 3 rfl<|joe<|jln (gv (fun _ k=>k) [0] ⟨gk 0,⟨⟩⟩))<|jxe<|jte<|jle<|jbh<|jtn<|jsr<|jpc 2 rfl<|jot<|jxr<|jsh 0 0 rfl rfl<|jr1 rfl rfl (fun _ k=>k p1 c1) [900] ⟨gk 0,⟨⟩⟩

theorem c_slices_SortFunc_Literal__literal_Compare {y0 : List T_Literal} : Con Try.prog 56 [sv p1 y0 c1, .func (.func 57) #[] #[]] [r_1] [Al e_Literal 39 r_1 p1 c1 y0] (m_slices_SortFunc_Literal__literal_Compare y0) fun r K=>∀ r_2,K (.tuple #[]) [r_2] [Ar e_Literal 39 r_2 p1 c1 (List.length y0) r] := ⟨Try.call56, fun A w0 r hm hO hF => by
 have h := sort_flat Go.Proofs.Try.sort56 (Flat.prod Flat.bool Flat.str) (te := 39) Try.isAgg39 Try.sizeOf39 m_literal_Compare 57 (enters_of Try.func57 (by kernel_rfl) rfl) (fun w x y n hn => ?_) hO hF.1.1 hm
 · change Calls Try.prog 56 _ _ _ at h
   refine h.mono fun e w' h => ?_
   cases e with
   | returned v => obtain ⟨r', rfl, h1, h2, h3, h4⟩ := h; exact fun G k => k r' ⟨rfl, h1, h2, ⟨h3, h4.symm⟩, trivial⟩
   | panicked ch => exact h
   | outgrown => exact h
 · refine ((c_literal_Compare (y0 := x) (y1 := y)).go [] w n hn (Own.start (by simp)) trivial).mono fun e w' h => ?_
   cases e with
   | returned v => exact h _ fun ⟨e1, q⟩ => ⟨e1, q.e⟩
   | panicked ch => exact h
   | outgrown => exact h⟩

theorem c_literal_Normal {y0 : List T_Literal} : Con Try.prog 40 [sv p1 y0 c1] [] [Rl e_Literal p1 c1 y0] (m_literal_Normal y0) fun r K=>∀ p2 c2,K (sv p2 r c2) [] [Rl e_Literal p2 c2 r] :=
 ent3 Try.call40 Try.func40 rfl fun X=>jsr<|jpc 1 rfl<|jot<|jsr<|jpc 1 rfl<|jcl c_slices_Clone_Literal rfl ⟨ck 0,⟨⟩⟩<|fun r1 _ k p2 c2 r_1=>k<|jpc 1 rfl<|jot<|jsr<|jpc 1 rfl<|jca .s [0] [] c_slices_SortFunc_Literal__literal_Compare rfl rfl rfl ⟨ck 0,⟨⟩⟩<|fun r2 _ k r_2=>k<|jot<|
  jsr<|jpc 1 rfl<|jrE 0 8 rfl rfl<|jca .s [0] [] c_slices_Compact_Literal rfl rfl rfl ⟨ck 0,⟨⟩⟩<|fun r3 _ k p3 c3=>k<|jpc 1 rfl<|jot<|jxr<|jr1 rfl rfl (fun _ k=>k p3 c3) [] ⟨gk 0,⟨⟩⟩

theorem c_argument_Conclusions {y0 : List T_Argument} {y1 : List Int} : Con Try.prog 19 [sv p1 y0 c1, sv p2 y1 c2] [] [Rl e_Argument p1 c1 y0, Rl (eInt .i64) p2 c2 y1] (m_argument_Conclusions y0 y1) fun r K=>∀ p3 c3,K (sv p3 r c3) [] [Rl e_Literal p3 c3 r] :=
 ent3 Try.call19 Try.func19 rfl fun X=>jsr<|jpc 1 rfl<|jot<|jsr<|jpc 1 rfl<|jro e_Literal 39<|jot<|jjn (fun s1 K=>∀ p3 c3 r_1,K [(5, sv p3 s1 c3)] [r_1] [Al e_Literal 39 r_1 p3 c3 s1]) (jsr<|jpc 3 rfl<|jot<|jbk<|
  jlp (fun s2 K=>∀ p4 c4 r_2,K [(0, sv p1 y0 c1), (5, sv p4 s2.1 c4), (8, sv p2 y1 c2), (9, vi (len y1)), (10, vi s2.2)] [r_2] [Al e_Literal 39 r_2 p4 c4 s2.1, Rl e_Argument p1 c1 y0, Rl (eInt .i64) p2 c2 y1]) (gv (fun _ k=>k none 0 []) [0] ⟨gk 0,gk 1,gk 2,⟨⟩⟩)<|
  fun s2 _ k p4 c4 r_2=>k<|jsr<|jpc 1 rfl<|jot<|jsq<|jif rfl (jsk<|jtn<|jsq<|jbk<|jsr<|jix 2 rfl rfl rfl<|fun x1 b1 o1=>jld false oI (gk 0) rfl<|jpc 1 rfl<|jot<|jsr<|jpc 2 rfl<|jcl c_argument_inside rfl ⟨ck 2,⟨⟩⟩<|fun r1 _ k=>k<|jot<|
  jif rfl (jrg<|jpc 3 rfl<|jix 2 rfl rfl rfl<|fun x2 b2 o2=>jfa 3 rfl<|jld true o_Literal (gs (gs (gs (gk 0)))) rfl<|jbs .s (e := e_Literal) 39 [vb x2.2.2.2.1, vs x2.2.2.2.2] ([x2.2.2.2] : List T_Literal) (rC (vP vB vS) rN)<|fun p5 c5=>
  jar .s 0 3 rfl (gk 0) rfl rfl<|fun x3 r_3 p6 c6=>jpc 1 rfl<|joe<|jbn<|jtn<|jrg<|jpc 2 rfl<|joe<|jln (gv (fun _ k=>k p6 c6 r_3) [0] ⟨gk 0,gk 5,gk 6,⟨⟩⟩))<|jsk<|jbn<|jtn<|jrg<|jpc 2 rfl<|joe<|
  jln (gv (fun _ k=>k p4 c4 r_2) [0] ⟨gk 1,gk 2,gk 3,⟨⟩⟩))<|jxe<|jte<|jle<|jbh<|jnn (gv (fun _ k=>k p4 c4 r_2) [0] ⟨gk 0,⟨⟩⟩))<|fun s1 _ k p3 c3 r_1=>k<|jsr<|jpc 1 rfl<|jsh 0 0 rfl rfl<|jcl c_literal_Normal rfl ⟨ck 0,⟨⟩⟩<|fun r2 _ k p7 c7=>
  k<|jpc 1 rfl<|jot<|jxr<|jr1 rfl rfl (fun _ k=>k p7 c7) [] ⟨gk 0,⟨⟩⟩

theorem k_argument_Last_all (k : Nat) :
    (∀ {y0 : T_Base} {p1 : Option Addr} {c1 : Nat} {p2 : Option Addr} {c2 : Nat} {p3 : Option Addr} {c3 : Nat} {y1 : List T_Argument} {p4 : Option Addr} {c4 : Nat} {y2 : Int}, Con Try.prog 34 [.agg #[sv p1 y0.1 c1, sv p2 y0.2.1 c2, sv p3 y0.2.2 c3], sv p4 y1 c4, vi y2] [] [Rl e_Premise p1 c1 y0.1, Rl e_Rule p2 c2 y0.2.1, Rl e_Promotion p3 c3 y0.2.2, Rl e_Argument p4 c4 y1] (k_argument_Last k y0 y1 y2) fun r K=>∀ p5 c5,K (sv p5 r c5) [] [Rl (eInt .i64) p5 c5 r]) := by
  induction k with
  | zero => exact con0 Try.call34
  | succ k ih =>
    have ih_argument_Last := @ih
    exact @fun y0 p1 c1 p2 c2 p3 c3 y1 p4 c4 y2=>ent3 (m1 := F_argument_Last (k_argument_Last k) y0 y1 y2) Try.call34 Try.func34 rfl fun X=>jsr<|jbx .s rfl<|fun b1=>jpc 1 rfl<|jot<|jsq<|
  jjn (fun s1 K=>K [(1, sv p4 y1 c4), (2, vi y2), (3, pt b1 0), (21, vb s1)] [bx b1 29 [sv p1 y0.1 c1, sv p2 y0.2.1 c2, sv p3 y0.2.2 c3]] [Rl e_Argument p4 c4 y1, Rl e_Premise p1 c1 y0.1, Rl e_Rule p2 c2 y0.2.1, Rl e_Promotion p3 c3 y0.2.2]) (
  jrg<|jpc 2 rfl<|jcl c_argument_inside rfl ⟨ck 3,⟨⟩⟩<|fun r1 _ k=>k<|jpc 2 rfl<|jsg 14 rfl (jpc 6 rfl<|jpe (vb true)<|joe<|jnn (gv (fun _ k=>k) [0] ⟨gk 3,gk 0,gk 1,gk 2,⟨⟩⟩))<|jpc 2 rfl<|jix 3 rfl rfl rfl<|fun x1 b2 o1=>jfa 1 rfl<|
  jld false oI (gf (gs (gk 0))) rfl<|jpc 1 rfl<|jpe (vb (decide (x1.2.1 < 0)))<|joe<|jnn (gv (fun _ k=>k) [0] ⟨gk 4,gk 1,gk 2,gk 3,⟨⟩⟩))<|fun s1 _ k=>k<|jif rfl (jsr<|jpc 1 rfl<|jot<|jxr<|jtr<|jr1 rfl rfl (fun _ k=>k none 0) [] ⟨gn,⟨⟩⟩)<|
  jsk<|jtn<|jsq<|jds [] [0] 11<|jdf 0 1 rfl rfl<|jdo 1 0 rfl rfl rfl rfl<|jdc 7 [2,3] rfl<|jdi 4 0 rfl rfl rfl rfl<|fun x2 b3 o2=>jdf 5 1 rfl rfl<|jdl 6 false oI rfl (gf (gs (gk 0))) rfl<|jdi 7 3 rfl rfl rfl rfl<|fun x3 b4 o3=>
  jdf 8 1 rfl rfl<|jdl 9 false oB rfl (gf (gs (gk 0))) rfl<|jdc 0 [10] rfl<|jde<|jtn<|jif rfl (jsr<|jpc 2 rfl<|jix 2 rfl rfl rfl<|fun x4 b5 o4=>jfa 1 rfl<|jld false oI (gf (gs (gk 0))) rfl<|
  jbs .s (e := eInt .i64) 3 [vi x4.2.1] ([x4.2.1] : List Int) (rC vI rN)<|fun p5 c5=>jpc 1 rfl<|jot<|jxr<|jtr<|jr1 rfl rfl (fun _ k=>k p5 c5) [] ⟨gk 0,⟨⟩⟩)<|jsk<|jtn<|jsr<|jpc 1 rfl<|jro (eInt .i64) 3<|jot<|
  jjn (fun s2 K=>∀ p6 c6 r_1,K [(7, sv p6 s2 c6)] [[], r_1] [Al (eInt .i64) 3 r_1 p6 c6 s2]) (jsr<|jpc 2 rfl<|jix 3 rfl rfl rfl<|fun x5 b6 o5=>jfa 2 rfl<|jld false oL (gf (gs (gs (gk 0)))) rfl<|fun p7 c7=>jpc 2 rfl<|jot<|jbk<|
  jlp (fun s3 K=>∀ p8 c8 r_2,K [(1, sv p4 y1 c4), (3, pt b1 0), (7, sv p8 s3.1 c8), (43, sv p7 x5.2.2.1 c7), (44, vi (len x5.2.2.1)), (45, vi s3.2)] [bx b1 29 [sv p1 y0.1 c1, sv p2 y0.2.1 c2, sv p3 y0.2.2 c3], r_2] [Al (eInt .i64) 3 r_2 p8 c8 s3.1, Rl e_Argument p4 c4 y1, Rl (eInt .i64) p7 c7 x5.2.2.1, Rl e_Premise p1 c1 y0.1, Rl e_Rule p2 c2 y0.2.1, Rl e_Promotion p3 c3 y0.2.2]) (gv (fun _ k=>k none 0 []) [0,1] ⟨gk 2,gk 5,gk 0,gk 6,gk 7,gk 8,⟨⟩⟩)<|
  fun s3 _ k p8 c8 r_2=>k<|jsr<|jpc 1 rfl<|jot<|jsq<|jif rfl (jsk<|jtn<|jsq<|jbk<|jsr<|jix 2 rfl rfl rfl<|fun x6 b7 o6=>jld false oI (gk 0) rfl<|jpc 1 rfl<|jot<|jrg<|jpc 1 rfl<|jla 0 3 rfl rfl rfl<|jpc 2 rfl<|
  jcl ih_argument_Last rfl ⟨ck 4,ck 5,ck 6,ck 2,⟨⟩⟩<|fun r2 _ k p9 c9=>k<|jar .s 1 2 rfl (gk 0) rfl rfl<|fun x7 r_3 p10 c10=>jpc 1 rfl<|joe<|jbn<|jtn<|jrg<|jpc 2 rfl<|joe<|
  jln (gv (fun _ k=>k p10 c10 r_3) [0,1] ⟨gk 0,gk 4,gk 5,gk 6,gk 7,gk 8,⟨⟩⟩))<|jxe<|jte<|jle<|jbh<|jnn (gv (fun _ k=>k p8 c8 r_2) [900,1] ⟨gk 0,⟨⟩⟩))<|fun s2 _ k p6 c6 r_1=>k<|jsr<|jpc 1 rfl<|
  jca .s [1] [] c_slices_Sort_int rfl rfl rfl ⟨ck 0,⟨⟩⟩<|fun r3 _ k r_4=>k<|jot<|jsr<|jpc 1 rfl<|jrE 0 58 rfl rfl<|jca .s [1] [] c_slices_Compact_int rfl rfl rfl ⟨ck 0,⟨⟩⟩<|fun r4 _ k p11 c11=>k<|jpc 1 rfl<|jot<|jxr<|
  jr1 rfl rfl (fun _ k=>k p11 c11) [] ⟨gk 0,⟨⟩⟩

theorem c_argument_Last {y0 : T_Base} {y1 : List T_Argument} {y2 : Int} : Con Try.prog 34 [.agg #[sv p1 y0.1 c1, sv p2 y0.2.1 c2, sv p3 y0.2.2 c3], sv p4 y1 c4, vi y2] [] [Rl e_Premise p1 c1 y0.1, Rl e_Rule p2 c2 y0.2.1, Rl e_Promotion p3 c3 y0.2.2, Rl e_Argument p4 c4 y1] (m_argument_Last y0 y1 y2) fun r K=>∀ p5 c5,K (sv p5 r c5) [] [Rl (eInt .i64) p5 c5 r] := conLim fun k => (k_argument_Last_all k)

theorem c_keep_Ints {y0 : List Int} {y1 : List Int} : Con Try.prog 15 [sv p1 y0 c1, sv p2 y1 c2] [] [Rl (eInt .i64) p1 c1 y0, Rl (eInt .i64) p2 c2 y1] (m_keep_Ints y0 y1) fun r K=>K (vb r) [] [] :=
 ent3 Try.call15 Try.func15 rfl fun X=>jsr<|jpc 1 rfl<|jot<|jsq<|jsr<|jpc 5 rfl<|jot<|jif rfl (jsr<|jpc 1 rfl<|jot<|jxr<|jtr<|jr1 rfl rfl (fun _ k=>k) [] ⟨⟩)<|jsk<|jtn<|jsq<|jsr<|jpc 3 rfl<|jot<|jbk<|
  jlp (fun s1 K=>K [(0, sv p1 y0 c1), (1, sv p2 y1 c2), (12, vi (len y0)), (13, vi s1)] [] [Rl (eInt .i64) p1 c1 y0, Rl (eInt .i64) p2 c2 y1]) (gv (fun _ k=>k) [] ⟨gk 0,gk 1,⟨⟩⟩)<|fun s1 _ k=>k<|jsr<|jpc 1 rfl<|jot<|jsq<|jif rfl (jsk<|jtn<|
  jsq<|jbk<|jsr<|jpc 2 rfl<|jot<|jds [] [] 9<|jdc 7 [0,1] rfl<|jdi 2 0 rfl rfl rfl rfl<|fun x1 b1 o1=>jdl 3 false oI rfl (gk 0) rfl<|jdc 3 [4,5] rfl<|jdi 6 2 rfl rfl rfl rfl<|fun x2 b2 o2=>jdl 7 false oI rfl (gk 0) rfl<|jdc 0 [8] rfl<|jde<|
  jtn<|jif rfl (jsr<|jpc 1 rfl<|jot<|jxr<|jbr<|jtr<|jlr<|jbr<|jtr<|jr1 rfl rfl (fun _ k=>k) [] ⟨⟩)<|jsk<|jbn<|jtn<|jrg<|jpc 2 rfl<|joe<|jln (gv (fun _ k=>k) [] ⟨gk 2,gk 3,⟨⟩⟩))<|jxe<|jte<|jle<|jbh<|jtn<|jsr<|jpc 1 rfl<|jot<|jxr<|
  jr1 rfl rfl (fun _ k=>k) [] ⟨⟩

theorem c_law07_loop : Con Try.prog 32 [] [] [] (m_law07_loop) fun r K=>∀ p1 c1 p2 c2 p3 c3,K (.agg #[sv p1 r.1 c1, sv p2 r.2.1 c2, sv p3 r.2.2 c3]) [] [Rl e_Premise p1 c1 r.1, Rl e_Rule p2 c2 r.2.1, Rl e_Promotion p3 c3 r.2.2] :=
 ent3 Try.call32 Try.func32 rfl fun X=>jsr<|jal .s (.agg #[.slice none 0 0, .slice none 0 0, .slice none 0 0])<|fun b1=>jot<|jsr<|jpe (.agg #[vb false, vs [112]])<|jpe (.agg #[vb false, vs [113]])<|jal .s (.agg #[vb false, vs []])<|fun b2=>jal .s (.agg #[vb false, vs []])<|
  fun b3=>jso .s 1 rfl rfl rfl<|jso .s 2 rfl rfl rfl<|jot<|jsr<|jla 1 2 rfl rfl rfl<|jpe (.agg #[vb false, vs [112], vi 2, vi 0, vs []])<|
  jbs .s (e := e_Premise) 51 [vb false, vs [112], vi 2, vi 0, vs []] ([((false, [112]), 2, 0, [])] : List T_Premise) (rC (vP (vP vB vS) (vP vI (vP vI vS))) rN)<|fun p1 c1=>jla 1 2 rfl rfl rfl<|
  jbs .s (e := e_Literal) 39 [vb false, vs [112]] ([(false, [112])] : List T_Literal) (rC (vP vB vS) rN)<|fun p2 c2=>jla 2 2 rfl rfl rfl<|
  jpe (.agg #[vs [100], vb false, vi 0, sv p2 ([(false, [112])] : List T_Literal) c2, vb false, vs [113]])<|jla 2 2 rfl rfl rfl<|jbs .s (e := e_Literal) 39 [vb false, vs [113]] ([(false, [113])] : List T_Literal) (rC (vP vB vS) rN)<|
  fun p3 c3=>jla 1 2 rfl rfl rfl<|jpe (.agg #[vs [115], vb true, vi 0, sv p3 ([(false, [113])] : List T_Literal) c3, vb false, vs [112]])<|
  jbs .s (e := e_Rule) 45 [vs [100], vb false, vi 0, sv p2 ([(false, [112])] : List T_Literal) c2, vb false, vs [113], vs [115], vb true, vi 0, sv p3 ([(false, [113])] : List T_Literal) c3, vb false, vs [112]] ([([100], false, 0, ([(false, [112])] : List T_Literal), (false, [113])), ([115], true, 0, ([(false, [113])] : List T_Literal), (false, [112]))] : List T_Rule) (rC (vP vS (vP vB (vP vI (vP (vL (gk 1)) (vP vB vS))))) (rC (vP vS (vP vB (vP vI (vP (vL (gk 0)) (vP vB vS))))) rN))<|
  fun p4 c4=>
  jpe (.agg #[sv p1 ([((false, [112]), 2, 0, [])] : List T_Premise) c1, sv p4 ([([100], false, 0, ([(false, [112])] : List T_Literal), (false, [113])), ([115], true, 0, ([(false, [113])] : List T_Literal), (false, [112]))] : List T_Rule) c4, .slice none 0 0])<|
  jso .s 0 rfl rfl rfl<|jot<|jxr<|
  jrg' rfl (lC 0 (.agg #[sv p1 ([((false, [112]), 2, 0, [])] : List T_Premise) c1, sv p4 ([([100], false, 0, ([(false, [112])] : List T_Literal), (false, [113])), ([115], true, 0, ([(false, [113])] : List T_Literal), (false, [112]))] : List T_Rule) c4, .slice none 0 0]) rfl rfl lN) (fun _ k=>k p1 c1 p4 c4 none 0) [] ⟨gk 3,gk 0,gn,⟨⟩⟩

theorem c_law07_awake : Con Try.prog 11 [] [] [] (m_law07_awake) fun r K=>K (vb r) [] [] :=
 ent3 Try.call11 Try.func11 rfl fun X=>jsr<|jpc 1 rfl<|jot<|jsr<|jcl c_law07_loop rfl ⟨⟩<|fun r1 _ k p1 c1 p2 c2 p3 c3=>k<|jal .s (.agg #[.slice none 0 0, .slice none 0 0, .slice none 0 0])<|fun b1=>jso .s 0 rfl rfl rfl<|jot<|jsr<|jla 0 3 rfl rfl rfl<|
  jcl c_argument_Build rfl ⟨ck 0,ck 1,ck 2,⟨⟩⟩<|fun r2 _ k p4 c4=>k<|jpc 5 rfl<|jot<|jjn (fun s1 K=>K [(0, vb s1)] [[]] []) (jrg<|jpc 3 rfl<|jsg 12 rfl (jpc 3 rfl<|jpe (vb ((len r2.1) == 3))<|jpc 1 rfl<|jsg 17 rfl (jpc 1 rfl<|
  jix 0 rfl rfl rfl<|fun x1 b2 o1=>jfa 1 rfl<|jld false oI (gf (gs (gk 0))) rfl<|jpc 1 rfl<|jpe (vb (x1.2.1 == 1))<|jpc 1 rfl<|jsg 24 rfl (jpc 1 rfl<|jix 1 rfl rfl rfl<|fun x2 b3 o2=>jfa 2 rfl<|jld false oL (gf (gs (gs (gk 0)))) rfl<|
  fun p5 c5=>jbs .s (e := eInt .i64) 3 [vi 1] ([1] : List Int) (rC vI rN)<|fun p6 c6=>jcl c_keep_Ints rfl ⟨ck 1,ck 0,⟨⟩⟩<|fun r3 _ k=>k<|jpe (vb r3)<|jpc 1 rfl<|jsg 32 rfl (jpc 1 rfl<|jcl c_argument_Subs rfl ⟨ck 4,⟨⟩⟩<|fun r4 _ k p7 c7=>k<|
  jbs .s (e := eInt .i64) 3 [vi 0, vi 1, vi 2] ([0, 1, 2] : List Int) (rC vI (rC vI (rC vI rN)))<|fun p8 c8=>jcl c_keep_Ints rfl ⟨ck 1,ck 0,⟨⟩⟩<|fun r5 _ k=>k<|jpe (vb r5)<|jpc 1 rfl<|jsg 38 rfl (jla 0 3 rfl rfl rfl<|jpc 1 rfl<|
  jcl c_argument_Last rfl ⟨ck 7,ck 8,ck 9,ck 6,⟨⟩⟩<|fun r6 _ k p9 c9=>k<|jbs .s (e := eInt .i64) 3 [vi 0] ([0] : List Int) (rC vI rN)<|fun p10 c10=>jcl c_keep_Ints rfl ⟨ck 1,ck 0,⟨⟩⟩<|fun r7 _ k=>k<|jpe (vb r7)<|jpc 1 rfl<|jsg 45 rfl (
  jpc 1 rfl<|jbs .s (e := eInt .i64) 3 [vi 0, vi 1, vi 2] ([0, 1, 2] : List Int) (rC vI (rC vI (rC vI rN)))<|fun p11 c11=>jcl c_argument_Conclusions rfl ⟨ck 9,ck 0,⟨⟩⟩<|fun r8 _ k p12 c12=>k<|jpc 2 rfl<|jpe (vb ((len r8) == 2))<|jpc 1 rfl<|
  joe<|jnn (gv (fun _ k=>k) [900] ⟨⟩))<|jpc 5 rfl<|jpe (vb false)<|jpc 1 rfl<|joe<|jnn (gv (fun _ k=>k) [900] ⟨⟩))<|jpc 5 rfl<|jpe (vb false)<|jpc 6 rfl<|jpe (vb false)<|jpc 1 rfl<|joe<|jnn (gv (fun _ k=>k) [900] ⟨⟩))<|jpc 4 rfl<|
  jpe (vb false)<|jpc 6 rfl<|jpe (vb false)<|jpc 6 rfl<|jpe (vb false)<|jpc 1 rfl<|joe<|jnn (gv (fun _ k=>k) [900] ⟨⟩))<|jpc 6 rfl<|jpe (vb false)<|jpc 5 rfl<|jpe (vb false)<|jpc 6 rfl<|jpe (vb false)<|jpc 6 rfl<|jpe (vb false)<|jpc 1 rfl<|
  joe<|jnn (gv (fun _ k=>k) [900] ⟨⟩))<|jpc 5 rfl<|jpe (vb false)<|jpc 7 rfl<|jpe (vb false)<|jpc 5 rfl<|jpe (vb false)<|jpc 6 rfl<|jpe (vb false)<|jpc 6 rfl<|jpe (vb false)<|jpc 1 rfl<|joe<|jnn (gv (fun _ k=>k) [900] ⟨⟩))<|jpc 3 rfl<|
  jpe (vb false)<|jpc 6 rfl<|jpe (vb false)<|jpc 7 rfl<|jpe (vb false)<|jpc 5 rfl<|jpe (vb false)<|jpc 6 rfl<|jpe (vb false)<|jpc 6 rfl<|jpe (vb false)<|jpc 1 rfl<|joe<|jnn (gv (fun _ k=>k) [900] ⟨⟩))<|fun s1 _ k=>k<|jxr<|
  jr1 rfl rfl (fun _ k=>k) [] ⟨⟩

theorem c_law07_formed {y0 : T_Base} {y1 : List T_Argument} : Con Try.prog 12 [.agg #[sv p1 y0.1 c1, sv p2 y0.2.1 c2, sv p3 y0.2.2 c3], sv p4 y1 c4] [] [Rl e_Premise p1 c1 y0.1, Rl e_Rule p2 c2 y0.2.1, Rl e_Promotion p3 c3 y0.2.2, Rl e_Argument p4 c4 y1] (m_law07_formed y0 y1) fun r K=>K (vb r) [] [] :=
 ent3 Try.call12 Try.func12 rfl fun X=>jsr<|jbx .s rfl<|fun b1=>jpc 1 rfl<|jot<|
  jjo (fun s1 K=>K [(1, sv p4 y1 c4), (2, pt b1 0)] [bx b1 29 [sv p1 y0.1 c1, sv p2 y0.2.1 c2, sv p3 y0.2.2 c3]] [Rl e_Argument p4 c4 y1, Rl e_Premise p1 c1 y0.1, Rl e_Rule p2 c2 y0.2.1, Rl e_Promotion p3 c3 y0.2.2]) (jsr<|jpc 3 rfl<|jot<|
  jbk<|
  jlp (fun s2 K=>K [(1, sv p4 y1 c4), (2, pt b1 0), (10, sv p4 y1 c4), (11, vi (len y1)), (12, vi s2)] [bx b1 29 [sv p1 y0.1 c1, sv p2 y0.2.1 c2, sv p3 y0.2.2 c3]] [Rl e_Argument p4 c4 y1, Rl e_Premise p1 c1 y0.1, Rl e_Rule p2 c2 y0.2.1, Rl e_Promotion p3 c3 y0.2.2]) (gv (fun _ k=>k) [0] ⟨gk 3,gk 0,gk 1,gk 2,⟨⟩⟩)<|
  fun s2 _ k=>k<|jsr<|jpc 1 rfl<|jot<|jsq<|jif rfl (jsk<|jtn<|jsq<|jbk<|jsr<|jpc 1 rfl<|jix 0 rfl rfl rfl<|fun x1 b2 o1=>jld true o_Argument (gk 0) rfl<|fun p5 c5=>jal .s (.agg #[vi 0, vi 0, .slice none 0 0, vb false, vs []])<|fun b3=>
  jpc 1 rfl<|jso .s 1 rfl rfl rfl<|jot<|jsq<|jsr<|jpc 1 rfl<|jfa 0 rfl<|jlo 0 rfl rfl rfl<|jpc 2 rfl<|jot<|jif rfl (jsq<|
  jjn (fun s3 K=>K [(1, sv p4 y1 c4), (2, pt b1 0), (10, sv p4 y1 c4), (11, vi (len y1)), (12, vi s2), (47, vb s3)] [bx b1 29 [sv p1 y0.1 c1, sv p2 y0.2.1 c2, sv p3 y0.2.2 c3], []] [Rl e_Argument p4 c4 y1, Rl e_Premise p1 c1 y0.1, Rl e_Rule p2 c2 y0.2.1, Rl e_Promotion p3 c3 y0.2.2]) (
  jdS [] [0, 1] 26<|jdf 0 0 rfl rfl<|jdo 1 1 rfl rfl rfl rfl<|jdc 21 [2,3,4] rfl<|jsg 26 rfl (jdc 18 [5,6,7] rfl<|jdp 8 (vb true) rfl<|jdc 12 [9,10,11,12,13] rfl<|jdp 14 (vb true) rfl<|jdc 1 [15,16,17,18,19,20,21,22,23,24] rfl<|
  jdp 25 (vb true) rfl<|jde<|jnn (gv (fun _ k=>k) [0,901] ⟨gk 2,gk 3,gk 4,gk 5,⟨⟩⟩))<|jdf 5 1 rfl rfl<|jdo 6 1 rfl rfl rfl rfl<|jdc 18 [7] rfl<|jdp 8 (vb (x1.2.1 != (-1))) rfl<|jdc 16 [9] rfl<|jsg 31 rfl (jdc 12 [10,11,12,13] rfl<|
  jdp 14 (vb true) rfl<|jdc 1 [15,16,17,18,19,20,21,22,23,24] rfl<|jdp 25 (vb true) rfl<|jde<|jnn (gv (fun _ k=>k) [0,901] ⟨gk 2,gk 3,gk 4,gk 5,⟨⟩⟩))<|jdf 10 2 rfl rfl<|jdo 11 1 rfl rfl rfl rfl<|jdc 12 [12,13] rfl<|
  jdp 14 (vb (decide (0 < (len x1.2.2.1)))) rfl<|jdc 10 [15] rfl<|jsg 37 rfl (jdc 1 [16,17,18,19,20,21,22,23,24] rfl<|jdp 25 (vb true) rfl<|jde<|jnn (gv (fun _ k=>k) [0,901] ⟨gk 2,gk 3,gk 4,gk 5,⟨⟩⟩))<|jdf 16 3 rfl rfl<|
  jda 17 1 2 rfl rfl rfl rfl<|jdf 18 0 rfl rfl<|jdo 19 0 rfl rfl rfl rfl<|jdc 5 [20] rfl<|jdi 21 3 rfl rfl rfl rfl<|fun x2 b4 o2=>jdf 22 0 rfl rfl<|jdl 23 true o_Literal rfl (gf (gk 0)) rfl<|jdp 24 (vb (!(x1.2.2.2 == x2.1))) rfl<|
  jdp 25 (vb (!(x1.2.2.2 == x2.1))) rfl<|jde<|jnn (gv (fun _ k=>k) [0,901] ⟨gk 3,gk 4,gk 5,gk 6,⟨⟩⟩))<|fun s3 _ k=>k<|jif rfl (jsr<|jpc 1 rfl<|jot<|jxr<|jtr<|jtr<|jbr<|jtr<|jlr<|jbr<|jlr<|jr1 rfl rfl (fun _ k=>k) [] ⟨⟩)<|jsk<|jtn<|jxe<|jte<|
  jbh<|jtn<|jrg<|jpc 2 rfl<|joe<|jln (gv (fun _ k=>k) [0] ⟨gk 0,gk 1,gk 2,gk 3,⟨⟩⟩))<|jsk<|jtn<|jsq<|
  jjn (fun s4 K=>K [(1, sv p4 y1 c4), (2, pt b1 0), (5, vi s2), (6, pt b3 0), (10, sv p4 y1 c4), (11, vi (len y1)), (12, vi s2), (89, vb s4)] [bx b1 29 [sv p1 y0.1 c1, sv p2 y0.2.1 c2, sv p3 y0.2.2 c3], bx b3 41 [vi x1.1, vi x1.2.1, sv p5 x1.2.2.1 c5, vb x1.2.2.2.1, vs x1.2.2.2.2]] [Rl e_Argument p4 c4 y1, Rl e_Premise p1 c1 y0.1, Rl e_Rule p2 c2 y0.2.1, Rl e_Promotion p3 c3 y0.2.2, Rl (eInt .i64) p5 c5 x1.2.2.1]) (
  jdS [] [0, 1] 42<|jdf 0 0 rfl rfl<|jdo 1 1 rfl rfl rfl rfl<|jdc 38 [2,3] rfl<|jsg 51 rfl (jdc 35 [4,5,6] rfl<|jdp 7 (vb true) rfl<|jdc 27 [8,9,10,11,12,13,14] rfl<|jdp 15 (vb true) rfl<|jdc 15 [16,17,18,19,20,21,22,23,24,25,26] rfl<|
  jdp 27 (vb true) rfl<|jdc 1 [28,29,30,31,32,33,34,35,36,37,38,39,40] rfl<|jdp 41 (vb true) rfl<|jde<|jnn (gv (fun _ k=>k) [0,1] ⟨gk 2,gk 3,gk 4,gk 5,gk 0,⟨⟩⟩))<|jdf 4 1 rfl rfl<|jdo 5 1 rfl rfl rfl rfl<|jdc 35 [6] rfl<|
  jdp 7 (vb (decide (x1.2.1 < 0))) rfl<|jdc 33 [8] rfl<|jsg 56 rfl (jdc 27 [9,10,11,12,13,14] rfl<|jdp 15 (vb true) rfl<|jdc 15 [16,17,18,19,20,21,22,23,24,25,26] rfl<|jdp 27 (vb true) rfl<|jdc 1 [28,29,30,31,32,33,34,35,36,37,38,39,40] rfl<|
  jdp 41 (vb true) rfl<|jde<|jnn (gv (fun _ k=>k) [0,1] ⟨gk 2,gk 3,gk 4,gk 5,gk 0,⟨⟩⟩))<|jdf 9 1 rfl rfl<|jdo 10 1 rfl rfl rfl rfl<|jdf 11 1 rfl rfl<|jdo 12 0 rfl rfl rfl rfl<|jdc 27 [13,14] rfl<|
  jdp 15 (vb (decide ((len y0.2.1) ≤ x1.2.1))) rfl<|jdc 25 [16] rfl<|jsg 64 rfl (jdc 15 [17,18,19,20,21,22,23,24,25,26] rfl<|jdp 27 (vb true) rfl<|jdc 1 [28,29,30,31,32,33,34,35,36,37,38,39,40] rfl<|jdp 41 (vb true) rfl<|jde<|
  jnn (gv (fun _ k=>k) [0,1] ⟨gk 2,gk 3,gk 4,gk 5,gk 0,⟨⟩⟩))<|jdf 17 3 rfl rfl<|jda 18 1 2 rfl rfl rfl rfl<|jdf 19 1 rfl rfl<|jdo 20 0 rfl rfl rfl rfl<|jdf 21 1 rfl rfl<|jdo 22 1 rfl rfl rfl rfl<|jdi 23 4 rfl rfl rfl rfl<|fun x3 b5 o3=>
  jdf 24 4 rfl rfl<|jdl 25 true o_Literal rfl (gs (gs (gs (gs (gk 0))))) rfl<|jdp 26 (vb (!(x1.2.2.2 == x3.2.2.2.2))) rfl<|jdp 27 (vb (!(x1.2.2.2 == x3.2.2.2.2))) rfl<|jdc 13 [28] rfl<|jsg 76 rfl (
  jdc 1 [29,30,31,32,33,34,35,36,37,38,39,40] rfl<|jdp 41 (vb true) rfl<|jde<|jnn (gv (fun _ k=>k) [0,1] ⟨gk 3,gk 4,gk 5,gk 6,gk 1,⟨⟩⟩))<|jdf 29 2 rfl rfl<|jdo 30 1 rfl rfl rfl rfl<|jdc 10 [31] rfl<|jdf 32 1 rfl rfl<|
  jdo 33 0 rfl rfl rfl rfl<|jdf 34 1 rfl rfl<|jdo 35 1 rfl rfl rfl rfl<|jdi 36 5 rfl rfl rfl rfl<|fun x4 b6 o4=>jdf 37 3 rfl rfl<|jdl 38 false oL rfl (gf (gs (gs (gs (gk 0))))) rfl<|fun p6 c6=>jdc 1 [39,40] rfl<|
  jdp 41 (vb ((len x1.2.2.1) != (len x4.2.2.2.1))) rfl<|jde<|jnn (gv (fun _ k=>k) [0,1] ⟨gk 5,gk 6,gk 7,gk 8,gk 3,⟨⟩⟩))<|fun s4 _ k=>k<|jif rfl (jsr<|jpc 1 rfl<|jot<|jxr<|jtr<|jbr<|jtr<|jlr<|jbr<|jlr<|jr1 rfl rfl (fun _ k=>k) [] ⟨⟩)<|jsk<|
  jtn<|
  jjo (fun s5 K=>K [(1, sv p4 y1 c4), (2, pt b1 0), (5, vi s2), (6, pt b3 0), (10, sv p4 y1 c4), (11, vi (len y1)), (12, vi s2)] [bx b1 29 [sv p1 y0.1 c1, sv p2 y0.2.1 c2, sv p3 y0.2.2 c3], bx b3 41 [vi x1.1, vi x1.2.1, sv p5 x1.2.2.1 c5, vb x1.2.2.2.1, vs x1.2.2.2.2]] [Rl e_Argument p4 c4 y1, Rl e_Premise p1 c1 y0.1, Rl e_Rule p2 c2 y0.2.1, Rl e_Promotion p3 c3 y0.2.2, Rl (eInt .i64) p5 c5 x1.2.2.1]) (
  jsr<|jfa 2 rfl<|jlo 1 rfl rfl rfl<|jpc 2 rfl<|jot<|jbk<|
  jlp (fun s6 K=>K [(1, sv p4 y1 c4), (2, pt b1 0), (5, vi s2), (6, pt b3 0), (10, sv p4 y1 c4), (11, vi (len y1)), (12, vi s2), (91, sv p5 x1.2.2.1 c5), (92, vi (len x1.2.2.1)), (93, vi s6)] [bx b1 29 [sv p1 y0.1 c1, sv p2 y0.2.1 c2, sv p3 y0.2.2 c3], bx b3 41 [vi x1.1, vi x1.2.1, sv p5 x1.2.2.1 c5, vb x1.2.2.2.1, vs x1.2.2.2.2]] [Rl e_Argument p4 c4 y1, Rl (eInt .i64) p5 c5 x1.2.2.1, Rl e_Premise p1 c1 y0.1, Rl e_Rule p2 c2 y0.2.1, Rl e_Promotion p3 c3 y0.2.2]) (gv (fun _ k=>k) [0,1] ⟨gk 0,gk 4,gk 1,gk 2,gk 3,⟨⟩⟩)<|
  fun s6 _ k=>k<|jsr<|jpc 1 rfl<|jot<|jsq<|jif rfl (jsk<|jtn<|jsq<|jbk<|jsr<|jpc 1 rfl<|jix 1 rfl rfl rfl<|fun x5 b7 o5=>jld false oI (gk 0) rfl<|jpc 2 rfl<|jot<|
  jjn (fun s7 K=>K [(1, sv p4 y1 c4), (2, pt b1 0), (5, vi s2), (6, pt b3 0), (10, sv p4 y1 c4), (11, vi (len y1)), (12, vi s2), (91, sv p5 x1.2.2.1 c5), (92, vi (len x1.2.2.1)), (93, vi s6), (122, vb s7)] [bx b1 29 [sv p1 y0.1 c1, sv p2 y0.2.1 c2, sv p3 y0.2.2 c3], bx b3 41 [vi x1.1, vi x1.2.1, sv p5 x1.2.2.1 c5, vb x1.2.2.2.1, vs x1.2.2.2.2]] [Rl e_Argument p4 c4 y1, Rl (eInt .i64) p5 c5 x1.2.2.1, Rl e_Premise p1 c1 y0.1, Rl e_Rule p2 c2 y0.2.1, Rl e_Promotion p3 c3 y0.2.2]) (
  jdS [] [0, 1] 25<|jdc 22 [0,1,2] rfl<|jsg 100 rfl (jdc 19 [3,4,5] rfl<|jdp 6 (vb true) rfl<|jdc 1 [7,8,9,10,11,12,13,14,15,16,17,18,19,20,21,22,23] rfl<|jdp 24 (vb true) rfl<|jde<|jnn (gv (fun _ k=>k) [0,1] ⟨gk 1,gk 2,gk 3,gk 4,gk 5,⟨⟩⟩))<|
  jdc 19 [3,4,5] rfl<|jdp 6 (vb (decide (s2 ≤ x5))) rfl<|jdc 17 [7] rfl<|jsg 105 rfl (jdc 1 [8,9,10,11,12,13,14,15,16,17,18,19,20,21,22,23] rfl<|jdp 24 (vb true) rfl<|jde<|jnn (gv (fun _ k=>k) [0,1] ⟨gk 1,gk 2,gk 3,gk 4,gk 5,⟨⟩⟩))<|
  jdc 15 [8,9] rfl<|jdi 10 1 rfl rfl rfl rfl<|fun x6 b8 o6=>jdf 11 3 rfl rfl<|jdl 12 true o_Literal rfl (gs (gs (gs (gk 0)))) rfl<|jdf 13 1 rfl rfl<|jdo 14 0 rfl rfl rfl rfl<|jdf 15 1 rfl rfl<|jdo 16 1 rfl rfl rfl rfl<|
  jdi 17 5 rfl rfl rfl rfl<|fun x7 b9 o7=>jdf 18 3 rfl rfl<|jdl 19 false oL rfl (gf (gs (gs (gs (gk 0))))) rfl<|fun p7 c7=>jdc 4 [20] rfl<|jdi 21 0 rfl rfl rfl rfl<|fun x8 b10 o8=>jdl 22 true o_Literal rfl (gk 0) rfl<|
  jdp 23 (vb (!(x6.2.2.2 == x8))) rfl<|jdp 24 (vb (!(x6.2.2.2 == x8))) rfl<|jde<|jnn (gv (fun _ k=>k) [0,1] ⟨gk 5,gk 6,gk 7,gk 8,gk 9,⟨⟩⟩))<|fun s7 _ k=>k<|jif rfl (jsr<|jpc 1 rfl<|jot<|jxr<|jbr<|jtr<|jlr<|jbr<|jlr<|jbr<|jtr<|jlr<|jbr<|jlr<|
  jr1 rfl rfl (fun _ k=>k) [] ⟨⟩)<|jsk<|jbn<|jtn<|jrg<|jpc 2 rfl<|joe<|jln (gv (fun _ k=>k) [0,1] ⟨gk 0,gk 1,gk 2,gk 3,gk 4,⟨⟩⟩))<|jxe<|jte<|jle<|jbh<|jln (gv (fun _ k=>k) [0,1] ⟨gk 0,gk 2,gk 3,gk 4,gk 1,⟨⟩⟩))<|fun s5 _ k=>k<|jsr<|jpc 1 rfl<|
  jot<|jbk<|
  jlp (fun s8 K=>K [(1, sv p4 y1 c4), (2, pt b1 0), (5, vi s2), (6, pt b3 0), (9, vi s8), (10, sv p4 y1 c4), (11, vi (len y1)), (12, vi s2)] [bx b1 29 [sv p1 y0.1 c1, sv p2 y0.2.1 c2, sv p3 y0.2.2 c3], bx b3 41 [vi x1.1, vi x1.2.1, sv p5 x1.2.2.1 c5, vb x1.2.2.2.1, vs x1.2.2.2.2]] [Rl e_Argument p4 c4 y1, Rl e_Premise p1 c1 y0.1, Rl e_Rule p2 c2 y0.2.1, Rl e_Promotion p3 c3 y0.2.2, Rl (eInt .i64) p5 c5 x1.2.2.1]) (gv (fun _ k=>k) [0,1] ⟨gk 0,gk 1,gk 2,gk 3,gk 4,⟨⟩⟩)<|
  fun s8 _ k=>k<|jsq<|jsr<|jpc 3 rfl<|jot<|jif rfl (jsk<|jtn<|jsq<|jbk<|
  jjn (fun s9 K=>K [(1, sv p4 y1 c4), (2, pt b1 0), (5, vi s2), (6, pt b3 0), (9, vi s8), (10, sv p4 y1 c4), (11, vi (len y1)), (12, vi s2), (146, vb s9)] [bx b1 29 [sv p1 y0.1 c1, sv p2 y0.2.1 c2, sv p3 y0.2.2 c3], bx b3 41 [vi x1.1, vi x1.2.1, sv p5 x1.2.2.1 c5, vb x1.2.2.2.1, vs x1.2.2.2.2]] [Rl e_Argument p4 c4 y1, Rl e_Premise p1 c1 y0.1, Rl e_Rule p2 c2 y0.2.1, Rl e_Promotion p3 c3 y0.2.2, Rl (eInt .i64) p5 c5 x1.2.2.1]) (
  jdS [] [1] 18<|jdc 16 [0,1] rfl<|jdi 2 0 rfl rfl rfl rfl<|fun x9 b11 o9=>jdf 3 1 rfl rfl<|jdl 4 false oI rfl (gf (gs (gk 0))) rfl<|jdf 5 1 rfl rfl<|jdo 6 1 rfl rfl rfl rfl<|jdc 9 [7,8] rfl<|jsg 137 rfl (jdc 7 [9,10] rfl<|
  jdi 11 1 rfl rfl rfl rfl<|fun x10 b12 o10=>jdf 12 2 rfl rfl<|jdl 13 false oL rfl (gf (gs (gs (gk 0)))) rfl<|fun p8 c8=>jdf 14 2 rfl rfl<|jdo 15 1 rfl rfl rfl rfl<|jd1 16<|jca (.f rfl) [] [] c_keep_Ints rfl rfl rfl ⟨ck 0,ck 7,⟨⟩⟩<|
  fun r1 _ k=>k<|jdn<|jdp 17 (vb r1) rfl<|jde<|jnn (gv (fun _ k=>k) [0,1] ⟨gk 3,gk 4,gk 5,gk 6,gk 7,⟨⟩⟩))<|jdc 1 [9,10,11,12,13,14,15,16] rfl<|jdp 17 (vb false) rfl<|jde<|jnn (gv (fun _ k=>k) [0,1] ⟨gk 1,gk 2,gk 3,gk 4,gk 5,⟨⟩⟩))<|
  fun s9 _ k=>k<|jif rfl (jsr<|jpc 1 rfl<|jot<|jxr<|jbr<|jtr<|jlr<|jbr<|jbr<|jtr<|jlr<|jbr<|jlr<|jr1 rfl rfl (fun _ k=>k) [] ⟨⟩)<|jsk<|jbn<|jtn<|jrg<|jpc 3 rfl<|joe<|jln (gv (fun _ k=>k) [0,1] ⟨gk 0,gk 1,gk 2,gk 3,gk 4,⟨⟩⟩))<|jxe<|jte<|jle<|
  jbh<|jbn<|jtn<|jrg<|jpc 2 rfl<|joe<|jln (gv (fun _ k=>k) [0] ⟨gk 0,gk 1,gk 2,gk 3,⟨⟩⟩))<|jxe<|jte<|jle<|jbh<|jln (gv (fun _ k=>k) [0] ⟨gk 0,gk 1,gk 2,gk 3,⟨⟩⟩))<|fun s1 _ k=>k<|jsr<|jpc 2 rfl<|jfa 0 rfl<|jlo 0 rfl rfl rfl<|jpc 3 rfl<|jot<|
  jxr<|jr1 rfl rfl (fun _ k=>k) [] ⟨⟩

theorem c_ref01_Has {y0 : List T_Literal} {y1 : T_Literal} : Con Try.prog 17 [sv p1 y0 c1, .agg #[vb y1.1, vs y1.2]] [] [Rl e_Literal p1 c1 y0] (m_ref01_Has y0 y1) fun r K=>K (vb r) [] [] :=
 ent3 Try.call17 Try.func17 rfl fun X=>jsr<|jbx .s rfl<|fun b1=>jpc 1 rfl<|jot<|jsq<|jsr<|jpc 1 rfl<|jot<|jbk<|jlp (fun s1 K=>K [(0, sv p1 y0 c1), (3, pt b1 0), (5, vi s1)] [bx b1 39 [vb y1.1, vs y1.2]] [Rl e_Literal p1 c1 y0]) (gv (fun _ k=>k) [0] ⟨gk 0,⟨⟩⟩)<|fun s1 _ k=>k<|
  jsq<|jsr<|jpc 4 rfl<|jot<|jif rfl (jsk<|jtn<|jsq<|jbk<|jds [] [0] 6<|jdc 4 [0,1] rfl<|jdi 2 0 rfl rfl rfl rfl<|fun x1 b2 o1=>jdl 3 true o_Literal rfl (gk 0) rfl<|jda 4 0 2 rfl rfl rfl rfl<|jdp 5 (vb (x1 == y1)) rfl<|jde<|jtn<|jif rfl (jsr<|
  jpc 1 rfl<|jot<|jxr<|jbr<|jtr<|jlr<|jbr<|jtr<|jr1 rfl rfl (fun _ k=>k) [] ⟨⟩)<|jsk<|jbn<|jtn<|jrg<|jpc 3 rfl<|joe<|jln (gv (fun _ k=>k) [0] ⟨gk 1,⟨⟩⟩))<|jxe<|jte<|jle<|jbh<|jtn<|jsr<|jpc 1 rfl<|jot<|jxr<|jr1 rfl rfl (fun _ k=>k) [] ⟨⟩

theorem c_ref07_insert {y0 : List Int} {y1 : Int} : Con Try.prog 54 [sv p1 y0 c1, vi y1] [] [Rl (eInt .i64) p1 c1 y0] (m_ref07_insert y0 y1) fun r K=>∀ p2 c2,K (sv p2 r c2) [] [Rl (eInt .i64) p2 c2 r] :=
 ent3 Try.call54 Try.func54 rfl fun X=>jsr<|jpc 1 rfl<|jot<|jsr<|jpc 1 rfl<|jot<|jjn (fun s1 K=>K [(0, sv p1 y0 c1), (1, vi y1), (5, vi s1)] [] [Rl (eInt .i64) p1 c1 y0]) (jbk<|
  jlp (fun s2 K=>K [(0, sv p1 y0 c1), (1, vi y1), (5, vi s2)] [] [Rl (eInt .i64) p1 c1 y0]) (gv (fun _ k=>k) [] ⟨gk 0,⟨⟩⟩)<|fun s2 _ k=>k<|jsq<|
  jjn (fun s3 K=>K [(0, sv p1 y0 c1), (1, vi y1), (5, vi s2), (18, vb s3)] [] [Rl (eInt .i64) p1 c1 y0]) (jrg<|jpc 5 rfl<|jsg 11 rfl (jpc 2 rfl<|jix 0 rfl rfl rfl<|fun x1 b1 o1=>jld false oI (gk 0) rfl<|jpc 2 rfl<|
  jpe (vb (decide (x1 < y1)))<|joe<|jnn (gv (fun _ k=>k) [] ⟨gk 1,⟨⟩⟩))<|jpc 6 rfl<|jpe (vb false)<|joe<|jnn (gv (fun _ k=>k) [] ⟨gk 0,⟨⟩⟩))<|fun s3 _ k=>k<|jif rfl (jsk<|jtn<|jbk<|jrg<|jpc 3 rfl<|joe<|jbn<|jln (gv (fun _ k=>k) [] ⟨gk 0,⟨⟩⟩)
  )<|jxe<|jte<|jle<|jbh<|jnn (gv (fun _ k=>k) [] ⟨gk 0,⟨⟩⟩))<|fun s1 _ k=>k<|jsq<|jjn (fun s4 K=>K [(0, sv p1 y0 c1), (1, vi y1), (5, vi s1), (32, vb s4)] [] [Rl (eInt .i64) p1 c1 y0]) (jrg<|jpc 5 rfl<|jsg 25 rfl (jpc 2 rfl<|
  jix 0 rfl rfl rfl<|fun x2 b2 o2=>jld false oI (gk 0) rfl<|jpc 2 rfl<|jpe (vb (x2 == y1))<|joe<|jnn (gv (fun _ k=>k) [] ⟨gk 1,⟨⟩⟩))<|jpc 6 rfl<|jpe (vb false)<|joe<|jnn (gv (fun _ k=>k) [] ⟨gk 0,⟨⟩⟩))<|fun s4 _ k=>k<|jif rfl (jsr<|
  jpc 2 rfl<|jot<|jxr<|jtr<|jr1 rfl rfl (fun _ k=>k p1 c1) [] ⟨gk 0,⟨⟩⟩)<|jsk<|jtn<|jsr<|jbo .s (e := eInt .i64) 3 [] ([] : List Int) rN<|fun r_1 p2 c2=>jpc 2 rfl<|jsl (gk 1) rfl rfl rfl (.inl ⟨rfl, rfl⟩) (.inr ⟨_, rfl⟩)<|fun x3 p3 c3=>
  jar .s 0 1 rfl (gk 0) rfl rfl<|fun x4 r_2 p4 c4=>jpc 1 rfl<|jot<|jds [] [] 9<|jdc 5 [0,1,4,5] rfl<|jdw 6 rfl (gk 3) rfl rfl rfl (.inr ⟨_, rfl⟩) (.inl ⟨rfl, rfl⟩)<|fun x5 p5 c5=>jd1 2<|
  jbs (.f rfl) (e := eInt .i64) 3 [vi y1] ([y1] : List Int) (rC vI rN)<|fun p6 c6=>jdn<|jd1 3<|jar (.f rfl) 0 2 rfl (gk 0) rfl rfl<|fun x6 r_3 p7 c7=>jdn<|jd1 7<|jar (.f rfl) 0 0 rfl (gk 2) rfl rfl<|fun x7 r_4 p8 c8=>jdn<|jdc 0 [8] rfl<|jde<|
  jtn<|jxr<|jsh 0 0 rfl rfl<|jr1 rfl rfl (fun _ k=>k p8 c8) [] ⟨gk 0,⟨⟩⟩

theorem c_ref07_union {y0 : List Int} {y1 : List Int} : Con Try.prog 74 [sv p1 y0 c1, sv p2 y1 c2] [] [Rl (eInt .i64) p1 c1 y0, Rl (eInt .i64) p2 c2 y1] (m_ref07_union y0 y1) fun r K=>∀ p3 c3,K (sv p3 r c3) [] [Rl (eInt .i64) p3 c3 r] :=
 ent3 Try.call74 Try.func74 rfl fun X=>jsr<|jpc 1 rfl<|jot<|jsq<|jsr<|jpc 1 rfl<|jot<|jbk<|jlp (fun s1 K=>∀ p3 c3,K [(0, sv p3 s1.1 c3), (1, sv p2 y1 c2), (5, vi s1.2)] [] [Rl (eInt .i64) p3 c3 s1.1, Rl (eInt .i64) p2 c2 y1]) (gv (fun _ k=>k p1 c1) [] ⟨gk 0,gk 1,⟨⟩⟩)<|
  fun s1 _ k p3 c3=>k<|jsq<|jsr<|jpc 4 rfl<|jot<|jif rfl (jsk<|jtn<|jsq<|jbk<|jrg<|jpc 3 rfl<|jix 1 rfl rfl rfl<|fun x1 b1 o1=>jld false oI (gk 0) rfl<|jcl c_ref07_insert rfl ⟨ck 1,⟨⟩⟩<|fun r1 _ k p4 c4=>k<|jpc 1 rfl<|joe<|jbn<|jtn<|jrg<|
  jpc 3 rfl<|joe<|jln (gv (fun _ k=>k p4 c4) [] ⟨gk 0,gk 3,⟨⟩⟩))<|jxe<|jte<|jle<|jbh<|jtn<|jsr<|jpc 2 rfl<|jot<|jxr<|jr1 rfl rfl (fun _ k=>k p3 c3) [] ⟨gk 0,⟨⟩⟩

theorem k_ref07_Subs_all (k : Nat) :
    (∀ {y0 : List T_Argument} {p1 : Option Addr} {c1 : Nat} {y1 : Int}, Con Try.prog 53 [sv p1 y0 c1, vi y1] [] [Rl e_Argument p1 c1 y0] (k_ref07_Subs k y0 y1) fun r K=>∀ p2 c2,K (sv p2 r c2) [] [Rl (eInt .i64) p2 c2 r]) := by
  induction k with
  | zero => exact con0 Try.call53
  | succ k ih =>
    have ih_ref07_Subs := @ih
    exact @fun y0 p1 c1 y1=>ent3 (m1 := F_ref07_Subs (k_ref07_Subs k) y0 y1) Try.call53 Try.func53 rfl fun X=>jsr<|jpc 1 rfl<|jot<|jsq<|jjp (fun K=>K [(0, sv p1 y0 c1), (1, vi y1), (14, vb ((decide (y1 < 0)) || (decide ((len y0) ≤ y1))))] [] [Rl e_Argument p1 c1 y0]) (jrg<|jpc 3 rfl<|jsp (b := decide (y1 < 0)) 9 rfl (fun hb1=>jpc 4 rfl<|
  jpe (vb true)<|joe<|jup 14 (vb ((decide (y1 < 0)) || (decide ((len y0) ≤ y1)))) rfl (by rw [hb1]; rfl)<|jnn (gv (fun _ k=>k) [] ⟨gk 0,⟨⟩⟩))<|fun hb1=>jpc 4 rfl<|jpe (vb (decide ((len y0) ≤ y1)))<|joe<|
  jup 14 (vb ((decide (y1 < 0)) || (decide ((len y0) ≤ y1)))) rfl (by rw [hb1]; rfl)<|jnn (gv (fun _ k=>k) [] ⟨gk 0,⟨⟩⟩))<|fun _ k=>k<|jif rfl (jsr<|jpc 1 rfl<|jot<|jxr<|jtr<|jr1 rfl rfl (fun _ k=>k none 0) [] ⟨gn,⟨⟩⟩)<|jsk<|jtn<|jsr<|
  jpc 1 rfl<|jbs .s (e := eInt .i64) 3 [vi y1] ([y1] : List Int) (rC vI rN)<|fun p2 c2=>jpc 1 rfl<|jot<|jsq<|jsr<|jpc 1 rfl<|jot<|jbk<|
  jlp (fun s1 K=>∀ p3 c3,K [(0, sv p1 y0 c1), (1, vi y1), (5, sv p3 s1.1 c3), (6, vi s1.2)] [] [Rl (eInt .i64) p3 c3 s1.1, Rl e_Argument p1 c1 y0]) (gv (fun _ k=>k p2 c2) [] ⟨gk 0,gk 1,⟨⟩⟩)<|fun s1 _ k p3 c3=>k<|jsq<|jsr<|jpc 3 rfl<|
  jix 1 rfl rfl rfl<|fun x1 b1 o1=>jfa 2 rfl<|jld false oL (gf (gs (gs (gk 0)))) rfl<|fun p4 c4=>jpc 2 rfl<|jot<|jif rfl (jsk<|jtn<|jsq<|jbk<|jrg<|jpc 4 rfl<|jix 3 rfl rfl rfl<|fun x2 b2 o2=>jfa 2 rfl<|jld false oL (gf (gs (gs (gk 0)))) rfl<|
  fun p5 c5=>jpc 1 rfl<|jix 0 rfl rfl rfl<|fun x3 b3 o3=>jld false oI (gk 0) rfl<|jcl ih_ref07_Subs rfl ⟨ck 6,⟨⟩⟩<|fun r1 _ k p6 c6=>k<|jcl c_ref07_union rfl ⟨ck 6,ck 0,⟨⟩⟩<|fun r2 _ k p7 c7=>k<|jpc 1 rfl<|joe<|jbn<|jtn<|jrg<|jpc 3 rfl<|joe<|
  jln (gv (fun _ k=>k p7 c7) [] ⟨gk 0,gk 8,⟨⟩⟩))<|jxe<|jte<|jle<|jbh<|jtn<|jsr<|jpc 2 rfl<|jot<|jxr<|jr1 rfl rfl (fun _ k=>k p3 c3) [] ⟨gk 2,⟨⟩⟩

theorem c_ref07_Subs {y0 : List T_Argument} {y1 : Int} : Con Try.prog 53 [sv p1 y0 c1, vi y1] [] [Rl e_Argument p1 c1 y0] (m_ref07_Subs y0 y1) fun r K=>∀ p2 c2,K (sv p2 r c2) [] [Rl (eInt .i64) p2 c2 r] := conLim fun k => (k_ref07_Subs_all k)

theorem c_ref07_Defeasible {y0 : T_Base} {y1 : List T_Argument} {y2 : Int} : Con Try.prog 37 [.agg #[sv p1 y0.1 c1, sv p2 y0.2.1 c2, sv p3 y0.2.2 c3], sv p4 y1 c4, vi y2] [] [Rl e_Premise p1 c1 y0.1, Rl e_Rule p2 c2 y0.2.1, Rl e_Promotion p3 c3 y0.2.2, Rl e_Argument p4 c4 y1] (m_ref07_Defeasible y0 y1 y2) fun r K=>∀ p5 c5,K (sv p5 r c5) [] [Rl (eInt .i64) p5 c5 r] :=
 ent3 Try.call37 Try.func37 rfl fun X=>jsr<|jbx .s rfl<|fun b1=>jpc 1 rfl<|jot<|jsr<|jpc 1 rfl<|jot<|jsq<|jsr<|jpc 2 rfl<|jcl c_ref07_Subs rfl ⟨ck 3,⟨⟩⟩<|fun r1 _ k p5 c5=>k<|jpc 2 rfl<|jot<|jbk<|
  jlp (fun s1 K=>∀ p6 c6,K [(1, sv p4 y1 c4), (3, pt b1 0), (7, sv p6 s1.1 c6), (12, sv p5 r1 c5), (13, vi (len r1)), (14, vi s1.2)] [bx b1 29 [sv p1 y0.1 c1, sv p2 y0.2.1 c2, sv p3 y0.2.2 c3]] [Rl (eInt .i64) p6 c6 s1.1, Rl e_Argument p4 c4 y1, Rl (eInt .i64) p5 c5 r1, Rl e_Premise p1 c1 y0.1, Rl e_Rule p2 c2 y0.2.1, Rl e_Promotion p3 c3 y0.2.2]) (gv (fun _ k=>k none 0) [0] ⟨gn,gk 4,gk 0,gk 1,gk 2,gk 3,⟨⟩⟩)<|
  fun s1 _ k p6 c6=>k<|jsr<|jpc 1 rfl<|jot<|jsq<|jif rfl (jsk<|jtn<|jsq<|jbk<|jsr<|jix 2 rfl rfl rfl<|fun x1 b2 o1=>jld false oI (gk 0) rfl<|jpc 1 rfl<|jot<|
  jjn (fun s2 K=>K [(1, sv p4 y1 c4), (3, pt b1 0), (7, sv p6 s1.1 c6), (9, vi x1), (12, sv p5 r1 c5), (13, vi (len r1)), (14, vi s1.2), (36, vb s2)] [bx b1 29 [sv p1 y0.1 c1, sv p2 y0.2.1 c2, sv p3 y0.2.2 c3]] [Rl e_Argument p4 c4 y1, Rl (eInt .i64) p6 c6 s1.1, Rl (eInt .i64) p5 c5 r1, Rl e_Premise p1 c1 y0.1, Rl e_Rule p2 c2 y0.2.1, Rl e_Promotion p3 c3 y0.2.2]) (
  jdS [] [0] 19<|jdc 17 [0,1] rfl<|jdi 2 2 rfl rfl rfl rfl<|fun x2 b3 o2=>jdf 3 1 rfl rfl<|jdl 4 false oI rfl (gf (gs (gk 0))) rfl<|jdc 12 [5,6] rfl<|jsg 24 rfl (jdf 7 1 rfl rfl<|jdo 8 0 rfl rfl rfl rfl<|jdc 8 [9,10] rfl<|
  jdi 11 3 rfl rfl rfl rfl<|fun x3 b4 o3=>jdf 12 1 rfl rfl<|jdl 13 false oI rfl (gf (gs (gk 0))) rfl<|jdi 14 7 rfl rfl rfl rfl<|fun x4 b5 o4=>jdf 15 1 rfl rfl<|jdl 16 false oB rfl (gf (gs (gk 0))) rfl<|jdc 1 [17] rfl<|
  jdp 18 (vb (!x4.2.1)) rfl<|jde<|jnn (gv (fun _ k=>k) [0] ⟨gk 5,gk 4,gk 6,gk 7,gk 8,gk 9,⟨⟩⟩))<|jdc 1 [7,8,9,10,11,12,13,14,15,16,17] rfl<|jdp 18 (vb false) rfl<|jde<|jnn (gv (fun _ k=>k) [0] ⟨gk 3,gk 2,gk 4,gk 5,gk 6,gk 7,⟨⟩⟩))<|
  fun s2 _ k=>k<|jif rfl (jrg<|jpc 3 rfl<|jix 0 rfl rfl rfl<|fun x5 b6 o5=>jfa 1 rfl<|jld false oI (gf (gs (gk 0))) rfl<|jcl c_ref07_insert rfl ⟨ck 2,⟨⟩⟩<|fun r2 _ k p7 c7=>k<|jpc 1 rfl<|joe<|jbn<|jtn<|jrg<|jpc 2 rfl<|joe<|
  jln (gv (fun _ k=>k p7 c7) [0] ⟨gk 0,gk 2,gk 4,gk 5,gk 6,gk 7,⟨⟩⟩))<|jsk<|jbn<|jtn<|jrg<|jpc 2 rfl<|joe<|jln (gv (fun _ k=>k p6 c6) [0] ⟨gk 1,gk 0,gk 2,gk 3,gk 4,gk 5,⟨⟩⟩))<|jxe<|jte<|jle<|jbh<|jtn<|jsr<|jpc 2 rfl<|jot<|jxr<|
  jr1 rfl rfl (fun _ k=>k p6 c6) [] ⟨gk 0,⟨⟩⟩

theorem k_ref07_Run_all (k : Nat) :
    (∀ {y0 : T_Base} {p1 : Option Addr} {c1 : Nat} {p2 : Option Addr} {c2 : Nat} {p3 : Option Addr} {c3 : Nat} {y1 : List T_Argument} {p4 : Option Addr} {c4 : Nat} {y2 : Int}, Con Try.prog 35 [.agg #[sv p1 y0.1 c1, sv p2 y0.2.1 c2, sv p3 y0.2.2 c3], sv p4 y1 c4, vi y2] [] [Rl e_Premise p1 c1 y0.1, Rl e_Rule p2 c2 y0.2.1, Rl e_Promotion p3 c3 y0.2.2, Rl e_Argument p4 c4 y1] (k_ref07_Run k y0 y1 y2) fun r K=>∀ p5 c5,K (sv p5 r c5) [] [Rl e_Literal p5 c5 r]) := by
  induction k with
  | zero => exact con0 Try.call35
  | succ k ih =>
    have ih_ref07_Run := @ih
    exact @fun y0 p1 c1 p2 c2 p3 c3 y1 p4 c4 y2=>ent3 (m1 := F_ref07_Run (k_ref07_Run k) y0 y1 y2) Try.call35 Try.func35 rfl fun X=>jsr<|jbx .s rfl<|fun b1=>jpc 1 rfl<|jot<|jsr<|jpc 2 rfl<|jix 3 rfl rfl rfl<|fun x1 b2 o1=>jfa 3 rfl<|jld true o_Literal (gs (gs (gs (gk 0)))) rfl<|
  jbo .s (e := e_Literal) 39 [vb x1.2.2.2.1, vs x1.2.2.2.2] ([x1.2.2.2] : List T_Literal) (rC (vP vB vS) rN)<|fun r_1 p5 c5=>jpc 1 rfl<|jot<|jsq<|
  jjn (fun s1 K=>K [(1, sv p4 y1 c4), (2, vi y2), (3, pt b1 0), (7, sv p5 ([x1.2.2.2] : List T_Literal) c5), (32, vb s1)] [bx b1 29 [sv p1 y0.1 c1, sv p2 y0.2.1 c2, sv p3 y0.2.2 c3], r_1] [Rl e_Argument p4 c4 y1, Al e_Literal 39 r_1 p5 c5 ([x1.2.2.2] : List T_Literal), Rl e_Premise p1 c1 y0.1, Rl e_Rule p2 c2 y0.2.1, Rl e_Promotion p3 c3 y0.2.2]) (
  jdS [] [0] 18<|jdc 16 [0,1] rfl<|jdi 2 5 rfl rfl rfl rfl<|fun x2 b3 o2=>jdf 3 1 rfl rfl<|jdl 4 false oI rfl (gf (gs (gk 0))) rfl<|jdc 11 [5,6] rfl<|jsg 21 rfl (jdf 7 1 rfl rfl<|jdo 8 0 rfl rfl rfl rfl<|jdc 7 [9,10] rfl<|
  jdi 11 6 rfl rfl rfl rfl<|fun x3 b4 o3=>jdf 12 1 rfl rfl<|jdl 13 false oI rfl (gf (gs (gk 0))) rfl<|jdi 14 5 rfl rfl rfl rfl<|fun x4 b5 o4=>jdf 15 1 rfl rfl<|jdl 16 false oB rfl (gf (gs (gk 0))) rfl<|jdp 17 (vb x4.2.1) rfl<|jde<|
  jnn (gv (fun _ k=>k) [0,1] ⟨gk 8,gk 3,gk 5,gk 6,gk 7,⟨⟩⟩))<|jdc 1 [7,8,9,10,11,12,13,14,15,16] rfl<|jdp 17 (vb false) rfl<|jde<|jnn (gv (fun _ k=>k) [0,1] ⟨gk 6,gk 1,gk 3,gk 4,gk 5,⟨⟩⟩))<|fun s1 _ k=>k<|jif rfl (jsr<|jpc 1 rfl<|jot<|jbk<|
  jlp (fun s2 K=>∀ p6 c6 r_2,K [(1, sv p4 y1 c4), (2, vi y2), (3, pt b1 0), (7, sv p6 s2.1 c6), (8, vi s2.2)] [bx b1 29 [sv p1 y0.1 c1, sv p2 y0.2.1 c2, sv p3 y0.2.2 c3], r_2] [Al e_Literal 39 r_2 p6 c6 s2.1, Rl e_Argument p4 c4 y1, Rl e_Premise p1 c1 y0.1, Rl e_Rule p2 c2 y0.2.1, Rl e_Promotion p3 c3 y0.2.2]) (gv (fun _ k=>k p5 c5 r_1) [0,1] ⟨gk 1,gk 0,gk 2,gk 3,gk 4,⟨⟩⟩)<|
  fun s2 _ k p6 c6 r_2=>k<|jsq<|jsr<|jpc 3 rfl<|jix 1 rfl rfl rfl<|fun x5 b6 o5=>jfa 2 rfl<|jld false oL (gf (gs (gs (gk 0)))) rfl<|fun p7 c7=>jpc 2 rfl<|jot<|jif rfl (jsk<|jtn<|jsq<|jbk<|jdS [] [0] 14<|jdc 13 [0] rfl<|
  jda 1 0 3 rfl rfl rfl rfl<|jdc 9 [2,3,4] rfl<|jdi 5 3 rfl rfl rfl rfl<|fun x6 b7 o6=>jdf 6 2 rfl rfl<|jdl 7 false oL rfl (gf (gs (gs (gk 0)))) rfl<|fun p8 c8=>jdc 5 [8] rfl<|jdi 9 0 rfl rfl rfl rfl<|fun x7 b8 o7=>
  jdl 10 false oI rfl (gk 0) rfl<|jd1 11<|jca (.f rfl) [] [] ih_ref07_Run rfl rfl rfl ⟨ck 7,ck 8,ck 9,ck 6,⟨⟩⟩<|fun r1 _ k p9 c9=>k<|jdn<|jd1 12<|jar (.f rfl) 1 6 rfl (gk 0) rfl rfl<|fun x8 r_3 p10 c10=>jdn<|jdc 0 [13] rfl<|jde<|jbn<|jtn<|
  jrg<|jpc 3 rfl<|joe<|jln (gv (fun _ k=>k p10 c10 r_3) [0,1] ⟨gk 0,gk 8,gk 9,gk 10,gk 11,⟨⟩⟩))<|jxe<|jte<|jle<|jbh<|jtn<|jsr<|jpc 2 rfl<|jot<|jxr<|jsh 1 2 rfl rfl<|jr1 rfl rfl (fun _ k=>k p6 c6) [] ⟨gk 0,⟨⟩⟩)<|jsk<|jtn<|jsr<|jpc 2 rfl<|jot<|
  jxr<|jsh 1 1 rfl rfl<|jr1 rfl rfl (fun _ k=>k p5 c5) [] ⟨gk 0,⟨⟩⟩

theorem c_ref07_Run {y0 : T_Base} {y1 : List T_Argument} {y2 : Int} : Con Try.prog 35 [.agg #[sv p1 y0.1 c1, sv p2 y0.2.1 c2, sv p3 y0.2.2 c3], sv p4 y1 c4, vi y2] [] [Rl e_Premise p1 c1 y0.1, Rl e_Rule p2 c2 y0.2.1, Rl e_Promotion p3 c3 y0.2.2, Rl e_Argument p4 c4 y1] (m_ref07_Run y0 y1 y2) fun r K=>∀ p5 c5,K (sv p5 r c5) [] [Rl e_Literal p5 c5 r] := conLim fun k => (k_ref07_Run_all k)

theorem c_ref07_in {y0 : List Int} {y1 : Int} : Con Try.prog 36 [sv p1 y0 c1, vi y1] [] [Rl (eInt .i64) p1 c1 y0] (m_ref07_in y0 y1) fun r K=>K (vb r) [] [] :=
 ent3 Try.call36 Try.func36 rfl fun X=>jsr<|jpc 1 rfl<|jot<|jsq<|jsr<|jpc 1 rfl<|jot<|jbk<|jlp (fun s1 K=>K [(0, sv p1 y0 c1), (1, vi y1), (5, vi s1)] [] [Rl (eInt .i64) p1 c1 y0]) (gv (fun _ k=>k) [] ⟨gk 0,⟨⟩⟩)<|fun s1 _ k=>k<|jsq<|jsr<|jpc 4 rfl<|jot<|jif rfl (jsk<|jtn<|jsq<|
  jbk<|jsr<|jpc 2 rfl<|jix 0 rfl rfl rfl<|fun x1 b1 o1=>jld false oI (gk 0) rfl<|jpc 2 rfl<|jot<|jif rfl (jsr<|jpc 1 rfl<|jot<|jxr<|jbr<|jtr<|jlr<|jbr<|jtr<|jr1 rfl rfl (fun _ k=>k) [] ⟨⟩)<|jsk<|jbn<|jtn<|jrg<|jpc 3 rfl<|joe<|
  jln (gv (fun _ k=>k) [] ⟨gk 1,⟨⟩⟩))<|jxe<|jte<|jle<|jbh<|jtn<|jsr<|jpc 1 rfl<|jot<|jxr<|jr1 rfl rfl (fun _ k=>k) [] ⟨⟩

theorem c_ref07_Within {y0 : T_Base} {y1 : List T_Argument} {y2 : Int} {y3 : List Int} : Con Try.prog 13 [.agg #[sv p1 y0.1 c1, sv p2 y0.2.1 c2, sv p3 y0.2.2 c3], sv p4 y1 c4, vi y2, sv p5 y3 c5] [] [Rl e_Premise p1 c1 y0.1, Rl e_Rule p2 c2 y0.2.1, Rl e_Promotion p3 c3 y0.2.2, Rl e_Argument p4 c4 y1, Rl (eInt .i64) p5 c5 y3] (m_ref07_Within y0 y1 y2 y3) fun r K=>K (vb r) [] [] :=
 ent3 Try.call13 Try.func13 rfl fun X=>jsr<|jbx .s rfl<|fun b1=>jpc 1 rfl<|jot<|jsr<|jfa 1 rfl<|jlo 0 rfl rfl rfl<|jpc 1 rfl<|jix 1 rfl rfl rfl<|fun x1 b2 o1=>jld true o_Rule (gk 0) rfl<|fun p6 c6=>jal .s (.agg #[vs [], vb false, vi 0, .slice none 0 0, vb false, vs []])<|
  fun b3=>jso .s 1 rfl rfl rfl<|jot<|jsq<|jsr<|jpc 1 rfl<|jot<|jbk<|
  jlp (fun s1 K=>K [(1, sv p4 y1 c4), (2, vi y2), (3, sv p5 y3 c5), (4, pt b1 0), (9, pt b3 0), (10, vi s1)] [bx b1 29 [sv p1 y0.1 c1, sv p2 y0.2.1 c2, sv p3 y0.2.2 c3], bx b3 45 [vs x1.1, vb x1.2.1, vi x1.2.2.1, sv p6 x1.2.2.2.1 c6, vb x1.2.2.2.2.1, vs x1.2.2.2.2.2]] [Rl e_Argument p4 c4 y1, Rl (eInt .i64) p5 c5 y3, Rl e_Premise p1 c1 y0.1, Rl e_Rule p2 c2 y0.2.1, Rl e_Promotion p3 c3 y0.2.2, Rl e_Literal p6 c6 x1.2.2.2.1]) (gv (fun _ k=>k) [0,1] ⟨gk 5,gk 6,gk 2,gk 3,gk 4,gk 0,⟨⟩⟩)<|
  fun s1 _ k=>k<|jsq<|jsr<|jpc 4 rfl<|jot<|jif rfl (jsk<|jtn<|jsq<|jbk<|
  jjn (fun s2 K=>K [(1, sv p4 y1 c4), (2, vi y2), (3, sv p5 y3 c5), (4, pt b1 0), (9, pt b3 0), (10, vi s1), (51, vb s2)] [bx b1 29 [sv p1 y0.1 c1, sv p2 y0.2.1 c2, sv p3 y0.2.2 c3], bx b3 45 [vs x1.1, vb x1.2.1, vi x1.2.2.1, sv p6 x1.2.2.2.1 c6, vb x1.2.2.2.2.1, vs x1.2.2.2.2.2]] [Rl e_Argument p4 c4 y1, Rl (eInt .i64) p5 c5 y3, Rl e_Premise p1 c1 y0.1, Rl e_Rule p2 c2 y0.2.1, Rl e_Promotion p3 c3 y0.2.2, Rl e_Literal p6 c6 x1.2.2.2.1]) (
  jdS [] [0, 1] 30<|jdf 0 1 rfl rfl<|jdo 1 1 rfl rfl rfl rfl<|jdc 27 [2] rfl<|jsg 24 rfl (jda 3 0 3 rfl rfl rfl rfl<|jdc 23 [4,5,6] rfl<|jdi 7 1 rfl rfl rfl rfl<|fun x2 b4 o2=>jdl 8 false oI rfl (gk 0) rfl<|jdf 10 4 rfl rfl<|
  jda 11 1 2 rfl rfl rfl rfl<|jd1 9<|jca (.f rfl) [] [] c_ref07_Run rfl rfl rfl ⟨ck 3,ck 4,ck 5,ck 1,⟨⟩⟩<|fun r1 _ k p7 c7=>k<|jdn<|jd1 12<|jca (.f rfl) [] [] c_ref01_Has rfl rfl rfl ⟨ck 0,⟨⟩⟩<|fun r2 _ k=>k<|jdn<|jdp 13 (vb r2) rfl<|
  jdc 15 [14] rfl<|jsg 36 rfl (jdc 1 [15,16,17,18,19,20,21,22,23,24,25,26,27,28] rfl<|jdp 29 (vb true) rfl<|jde<|jnn (gv (fun _ k=>k) [0,1] ⟨gk 2,gk 3,gk 4,gk 5,gk 6,gk 7,⟨⟩⟩))<|jdf 15 1 rfl rfl<|jdo 16 1 rfl rfl rfl rfl<|jdc 11 [17,18] rfl<|
  jsg 40 rfl (jda 19 0 3 rfl rfl rfl rfl<|jdc 7 [20,21,22] rfl<|jdi 23 3 rfl rfl rfl rfl<|fun x3 b5 o3=>jdl 24 false oI rfl (gk 0) rfl<|jdc 4 [26] rfl<|jd1 25<|jca (.f rfl) [] [] c_ref07_Defeasible rfl rfl rfl ⟨ck 5,ck 6,ck 7,ck 3,⟨⟩⟩<|
  fun r3 _ k p8 c8=>k<|jdn<|jd1 27<|jca (.f rfl) [] [] c_ref07_in rfl rfl rfl ⟨ck 0,⟨⟩⟩<|fun r4 _ k=>k<|jdn<|jdp 28 (vb r4) rfl<|jdp 29 (vb r4) rfl<|jde<|jnn (gv (fun _ k=>k) [0,1] ⟨gk 4,gk 5,gk 6,gk 7,gk 8,gk 9,⟨⟩⟩))<|
  jdc 2 [19,20,21,22,23,24,25,26,27] rfl<|jdp 28 (vb false) rfl<|jdp 29 (vb false) rfl<|jde<|jnn (gv (fun _ k=>k) [0,1] ⟨gk 2,gk 3,gk 4,gk 5,gk 6,gk 7,⟨⟩⟩))<|jdc 17 [3,4,5,6,7,8,9,10,11,12] rfl<|jdp 13 (vb false) rfl<|jdc 15 [14] rfl<|
  jdf 15 1 rfl rfl<|jdo 16 1 rfl rfl rfl rfl<|jdc 11 [17,18] rfl<|jsg 40 rfl (jda 19 0 3 rfl rfl rfl rfl<|jdc 7 [20,21,22] rfl<|jdi 23 1 rfl rfl rfl rfl<|fun x4 b6 o4=>jdl 24 false oI rfl (gk 0) rfl<|jdc 4 [26] rfl<|jd1 25<|
  jca (.f rfl) [] [] c_ref07_Defeasible rfl rfl rfl ⟨ck 3,ck 4,ck 5,ck 1,⟨⟩⟩<|fun r5 _ k p9 c9=>k<|jdn<|jd1 27<|jca (.f rfl) [] [] c_ref07_in rfl rfl rfl ⟨ck 0,⟨⟩⟩<|fun r6 _ k=>k<|jdn<|jdp 28 (vb r6) rfl<|jdp 29 (vb r6) rfl<|jde<|
  jnn (gv (fun _ k=>k) [0,1] ⟨gk 2,gk 3,gk 4,gk 5,gk 6,gk 7,⟨⟩⟩))<|jdc 2 [19,20,21,22,23,24,25,26,27] rfl<|jdp 28 (vb false) rfl<|jdp 29 (vb false) rfl<|jde<|jnn (gv (fun _ k=>k) [0,1] ⟨gk 0,gk 1,gk 2,gk 3,gk 4,gk 5,⟨⟩⟩))<|fun s2 _ k=>k<|
  jif rfl (jsr<|jpc 1 rfl<|jot<|jxr<|jbr<|jtr<|jlr<|jbr<|jtr<|jr1 rfl rfl (fun _ k=>k) [] ⟨⟩)<|jsk<|jbn<|jtn<|jrg<|jpc 3 rfl<|joe<|jln (gv (fun _ k=>k) [0,1] ⟨gk 0,gk 1,gk 2,gk 3,gk 4,gk 5,⟨⟩⟩))<|jxe<|jte<|jle<|jbh<|jtn<|jsr<|jpc 1 rfl<|jot<|
  jxr<|jr1 rfl rfl (fun _ k=>k) [] ⟨⟩

theorem c_law07_ArgumentFormed {y0 : List Int} : Con Try.prog 3 [sv p1 y0 c1] [] [Rl (eInt .i64) p1 c1 y0] (m_law07_ArgumentFormed y0) fun r K=>K (vb r) [] [] :=
 ent3 Try.call3 Try.func3 rfl fun X=>jsr<|jpc 1 rfl<|jot<|jsr<|jpc 1 rfl<|jcl c_keep_New rfl ⟨ck 0,⟨⟩⟩<|fun r1 _ k b1 p2 c2=>k<|jpc 1 rfl<|jot<|jsr<|jpc 1 rfl<|jca .s [0] [] c_keep_Src_Base rfl rfl rfl ⟨ck 0,⟨⟩⟩<|fun r2 _ k p3 c3 p4 c4 p5 c5=>k<|
  jal .s (.agg #[.slice none 0 0, .slice none 0 0, .slice none 0 0])<|fun b2=>jso .s 1 rfl rfl rfl<|jot<|jsr<|jla 1 3 rfl rfl rfl<|jcl c_argument_Build rfl ⟨ck 0,ck 1,ck 2,⟨⟩⟩<|fun r3 _ k p6 c6=>k<|jpc 5 rfl<|jot<|jsq<|jsr<|jpc 2 rfl<|jot<|
  jif rfl (jjn (fun s1 K=>K [(2, vb s1)] [[], []] []) (jrg<|jpc 3 rfl<|jsg 21 rfl (jcl c_law07_awake rfl ⟨⟩<|fun r4 _ k=>k<|jpe (vb r4)<|jpc 1 rfl<|joe<|jnn (gv (fun _ k=>k) [900,901] ⟨⟩))<|jpc 1 rfl<|jpe (vb false)<|jpc 1 rfl<|joe<|
  jnn (gv (fun _ k=>k) [900,901] ⟨⟩))<|fun s1 _ k=>k<|jxr<|jtr<|jr1 rfl rfl (fun _ k=>k) [] ⟨⟩)<|jsk<|jtn<|jsq<|jsr<|jla 1 3 rfl rfl rfl<|jpc 1 rfl<|jcl c_law07_formed rfl ⟨ck 1,ck 2,ck 3,ck 0,⟨⟩⟩<|fun r5 _ k=>k<|jpc 1 rfl<|jot<|jif rfl (
  jsr<|jpc 1 rfl<|jot<|jxr<|jtr<|jr1 rfl rfl (fun _ k=>k) [] ⟨⟩)<|jsk<|jtn<|jjo (fun s2 K=>K [] [[], []] []) (jsr<|jfa 0 rfl<|jlo 1 rfl rfl rfl<|jpc 2 rfl<|jot<|jbk<|
  jlp (fun s3 K=>K [(4, pt b2 0), (5, sv p6 r3.1 c6), (7, vi s3)] [[], bx b2 29 [sv p3 r2.1.1 c3, sv p4 r2.1.2.1 c4, sv p5 r2.1.2.2 c5]] [Rl e_Argument p6 c6 r3.1, Rl e_Premise p3 c3 r2.1.1, Rl e_Rule p4 c4 r2.1.2.1, Rl e_Promotion p5 c5 r2.1.2.2]) (gv (fun _ k=>k) [900,1] ⟨gk 0,gk 1,gk 2,gk 3,⟨⟩⟩)<|
  fun s3 _ k=>k<|jsq<|jsr<|jpc 4 rfl<|jot<|jif rfl (jsk<|jtn<|jsq<|jbk<|jds [] [1] 16<|jda 0 1 3 rfl rfl rfl rfl<|jdc 13 [1,2] rfl<|jdw 3 rfl (gk 0) rfl rfl rfl (.inl ⟨rfl, rfl⟩) (.inr ⟨_, rfl⟩)<|fun x1 p7 c7=>jdc 10 [4,5] rfl<|
  jdi 6 1 rfl rfl rfl rfl<|fun x2 b3 o1=>jdf 7 1 rfl rfl<|jdl 8 false oI rfl (gf (gs (gk 0))) rfl<|jdc 5 [9,10] rfl<|jdi 11 2 rfl rfl rfl rfl<|fun x3 b4 o2=>jdf 12 2 rfl rfl<|jdl 13 false oL rfl (gf (gs (gs (gk 0)))) rfl<|fun p8 c8=>jd1 14<|
  jca (.f rfl) [] [] c_ref07_Within rfl rfl rfl ⟨ck 5,ck 6,ck 7,ck 3,ck 0,⟨⟩⟩<|fun r6 _ k=>k<|jdn<|jdc 0 [15] rfl<|jde<|jtn<|jif rfl (jsr<|jpc 1 rfl<|jot<|jxr<|jbr<|jtr<|jlr<|jbr<|jlr<|jr1 rfl rfl (fun _ k=>k) [] ⟨⟩)<|jsk<|jbn<|jtn<|jrg<|
  jpc 3 rfl<|joe<|jln (gv (fun _ k=>k) [900,1] ⟨gk 4,gk 5,gk 6,gk 7,⟨⟩⟩))<|jxe<|jte<|jle<|jbh<|jln (gv (fun _ k=>k) [900,901] ⟨⟩))<|fun s2 _ k=>k<|jsr<|jcl c_law07_awake rfl ⟨⟩<|fun r7 _ k=>k<|jpc 1 rfl<|jot<|jxr<|
  jr1 rfl rfl (fun _ k=>k) [] ⟨⟩

theorem c_law07_ArgumentAll {y0 : List Int} {y1 : Int} {y2 : List Int} : Con Try.prog 4 [sv p1 y0 c1, vi y1, sv p2 y2 c2] [] [Rl (eInt .i64) p1 c1 y0, Rl (eInt .i64) p2 c2 y2] (m_law07_ArgumentAll y0 y1 y2) fun r K=>K (vb r) [] [] :=
 ent3 Try.call4 Try.func4 rfl fun X=>jsr<|jpc 1 rfl<|jot<|jsr<|jpc 1 rfl<|jcl c_keep_New rfl ⟨ck 0,⟨⟩⟩<|fun r1 _ k b1 p3 c3=>k<|jpc 1 rfl<|jot<|jsr<|jpc 1 rfl<|jca .s [0] [] c_keep_Src_Base rfl rfl rfl ⟨ck 0,⟨⟩⟩<|fun r2 _ k p4 c4 p5 c5 p6 c6=>k<|
  jal .s (.agg #[.slice none 0 0, .slice none 0 0, .slice none 0 0])<|fun b2=>jso .s 1 rfl rfl rfl<|jot<|jsr<|jla 1 3 rfl rfl rfl<|jcl c_argument_Build rfl ⟨ck 0,ck 1,ck 2,⟨⟩⟩<|fun r3 _ k p7 c7=>k<|jpc 5 rfl<|jot<|jsq<|jsr<|jpc 2 rfl<|jot<|
  jif rfl (jjn (fun s1 K=>K [(6, vb s1)] [[], []] []) (jrg<|jpc 3 rfl<|jsg 33 rfl (jcl c_law07_awake rfl ⟨⟩<|fun r4 _ k=>k<|jpe (vb r4)<|jpc 1 rfl<|joe<|jnn (gv (fun _ k=>k) [900,901] ⟨⟩))<|jpc 1 rfl<|jpe (vb false)<|jpc 1 rfl<|joe<|
  jnn (gv (fun _ k=>k) [900,901] ⟨⟩))<|fun s1 _ k=>k<|jxr<|jtr<|jr1 rfl rfl (fun _ k=>k) [] ⟨⟩)<|jsk<|jtn<|jsq<|jsr<|jla 1 3 rfl rfl rfl<|jpc 1 rfl<|jcl c_law07_formed rfl ⟨ck 1,ck 2,ck 3,ck 0,⟨⟩⟩<|fun r5 _ k=>k<|jpc 1 rfl<|jot<|jif rfl (
  jsr<|jpc 1 rfl<|jot<|jxr<|jtr<|jr1 rfl rfl (fun _ k=>k) [] ⟨⟩)<|jsk<|jtn<|jsq<|jsr<|jfa 1 rfl<|jlo 1 rfl rfl rfl<|jpc 2 rfl<|jot<|jif rfl (jjn (fun s2 K=>K [(6, vb s2)] [[], []] []) (jrg<|jpc 2 rfl<|jfa 0 rfl<|jlo 1 rfl rfl rfl<|jpc 3 rfl<|
  jsg 50 rfl (jcl c_law07_awake rfl ⟨⟩<|fun r6 _ k=>k<|jpe (vb r6)<|jpc 1 rfl<|joe<|jnn (gv (fun _ k=>k) [900,901] ⟨⟩))<|jpc 1 rfl<|jpe (vb false)<|jpc 1 rfl<|joe<|jnn (gv (fun _ k=>k) [900,901] ⟨⟩))<|fun s2 _ k=>k<|jxr<|jtr<|
  jr1 rfl rfl (fun _ k=>k) [] ⟨⟩)<|jsk<|jtn<|jjo (fun s3 K=>K [] [[], []] []) (jsr<|jfa 1 rfl<|jlo 1 rfl rfl rfl<|jpc 2 rfl<|jot<|jbk<|
  jlp (fun s4 K=>K [(1, vi y1), (2, sv p2 y2 c2), (8, pt b2 0), (9, sv p7 r3.1 c7), (55, vi (len r2.1.2.1)), (56, vi s4)] [[], bx b2 29 [sv p4 r2.1.1 c4, sv p5 r2.1.2.1 c5, sv p6 r2.1.2.2 c6]] [Rl (eInt .i64) p2 c2 y2, Rl e_Argument p7 c7 r3.1, Rl e_Premise p4 c4 r2.1.1, Rl e_Rule p5 c5 r2.1.2.1, Rl e_Promotion p6 c6 r2.1.2.2]) (gv (fun _ k=>k) [900,1] ⟨gk 6,gk 0,gk 1,gk 2,gk 3,⟨⟩⟩)<|
  fun s4 _ k=>k<|jsr<|jpc 1 rfl<|jot<|jsq<|jif rfl (jsk<|jtn<|jsq<|jbk<|jsr<|jpc 2 rfl<|jot<|jsr<|jpc 1 rfl<|jro (eInt .i64) 3<|jot<|
  jjn (fun s5 K=>∀ p8 c8 r_1,K [(1, vi y1), (2, sv p2 y2 c2), (8, pt b2 0), (9, sv p7 r3.1 c7), (11, vi s4), (12, sv p8 s5 c8), (55, vi (len r2.1.2.1)), (56, vi s4)] [[], bx b2 29 [sv p4 r2.1.1 c4, sv p5 r2.1.2.1 c5, sv p6 r2.1.2.2 c6], r_1] [Al (eInt .i64) 3 r_1 p8 c8 s5, Rl (eInt .i64) p2 c2 y2, Rl e_Argument p7 c7 r3.1, Rl e_Premise p4 c4 r2.1.1, Rl e_Rule p5 c5 r2.1.2.1, Rl e_Promotion p6 c6 r2.1.2.2]) (
  jsr<|jfa 1 rfl<|jlo 1 rfl rfl rfl<|jpc 1 rfl<|jix 4 rfl rfl rfl<|fun x1 b3 o1=>jfa 3 rfl<|jld false oL (gf (gs (gs (gs (gk 0))))) rfl<|fun p9 c9=>jpc 2 rfl<|jot<|jbk<|
  jlp (fun s6 K=>∀ p10 c10 r_2,K [(1, vi y1), (2, sv p2 y2 c2), (8, pt b2 0), (9, sv p7 r3.1 c7), (11, vi s4), (12, sv p10 s6.1 c10), (55, vi (len r2.1.2.1)), (56, vi s4), (64, sv p9 x1.2.2.2.1 c9), (65, vi (len x1.2.2.2.1)), (66, vi s6.2)] [[], bx b2 29 [sv p4 r2.1.1 c4, sv p5 r2.1.2.1 c5, sv p6 r2.1.2.2 c6], r_2] [Al (eInt .i64) 3 r_2 p10 c10 s6.1, Rl (eInt .i64) p2 c2 y2, Rl e_Argument p7 c7 r3.1, Rl e_Literal p9 c9 x1.2.2.2.1, Rl e_Premise p4 c4 r2.1.1, Rl e_Rule p5 c5 r2.1.2.1, Rl e_Promotion p6 c6 r2.1.2.2]) (gv (fun _ k=>k none 0 []) [900,1,2] ⟨gk 2,gk 3,gk 4,gk 0,gk 5,gk 6,gk 7,⟨⟩⟩)<|
  fun s6 _ k p10 c10 r_2=>k<|jsr<|jpc 1 rfl<|jot<|jsq<|jif rfl (jsk<|jtn<|jsq<|jbk<|jsr<|jpc 1 rfl<|jix 3 rfl rfl rfl<|fun x2 b4 o2=>jld true o_Literal (gk 0) rfl<|jal .s (.agg #[vb false, vs []])<|fun b5=>jpc 1 rfl<|jso .s 3 rfl rfl rfl<|
  jot<|jsr<|jpc 1 rfl<|jro (eInt .i64) 3<|jot<|
  jjn (fun s7 K=>∀ p11 c11 r_3,K [(1, vi y1), (2, sv p2 y2 c2), (8, pt b2 0), (9, sv p7 r3.1 c7), (11, vi s4), (12, sv p10 s6.1 c10), (13, vi s6.2), (15, sv p11 s7 c11), (55, vi (len r2.1.2.1)), (56, vi s4), (64, sv p9 x1.2.2.2.1 c9), (65, vi (len x1.2.2.2.1)), (66, vi s6.2)] [[], bx b2 29 [sv p4 r2.1.1 c4, sv p5 r2.1.2.1 c5, sv p6 r2.1.2.2 c6], r_2, [], r_3] [Al (eInt .i64) 3 r_3 p11 c11 s7, Rl (eInt .i64) p2 c2 y2, Rl e_Argument p7 c7 r3.1, Al (eInt .i64) 3 r_2 p10 c10 s6.1, Rl e_Literal p9 c9 x1.2.2.2.1, Rl e_Premise p4 c4 r2.1.1, Rl e_Rule p5 c5 r2.1.2.1, Rl e_Promotion p6 c6 r2.1.2.2]) (
  jsr<|jpc 3 rfl<|jot<|jbk<|
  jlp (fun s8 K=>∀ p12 c12 r_4,K [(1, vi y1), (2, sv p2 y2 c2), (8, pt b2 0), (9, sv p7 r3.1 c7), (11, vi s4), (12, sv p10 s6.1 c10), (13, vi s6.2), (14, pt b5 0), (15, sv p12 s8.1 c12), (55, vi (len r2.1.2.1)), (56, vi s4), (64, sv p9 x1.2.2.2.1 c9), (65, vi (len x1.2.2.2.1)), (66, vi s6.2), (72, vi (len r3.1)), (73, vi s8.2)] [[], bx b2 29 [sv p4 r2.1.1 c4, sv p5 r2.1.2.1 c5, sv p6 r2.1.2.2 c6], r_2, bx b5 39 [vb x2.1, vs x2.2], r_4] [Al (eInt .i64) 3 r_4 p12 c12 s8.1, Rl (eInt .i64) p2 c2 y2, Rl e_Argument p7 c7 r3.1, Al (eInt .i64) 3 r_2 p10 c10 s6.1, Rl e_Literal p9 c9 x1.2.2.2.1, Rl e_Premise p4 c4 r2.1.1, Rl e_Rule p5 c5 r2.1.2.1, Rl e_Promotion p6 c6 r2.1.2.2]) (gv (fun _ k=>k none 0 []) [900,1,2,3,4] ⟨gk 0,gk 3,gk 4,gk 2,gk 5,gk 6,gk 7,gk 8,⟨⟩⟩)<|
  fun s8 _ k p12 c12 r_4=>k<|jsr<|jpc 1 rfl<|jot<|jsq<|jif rfl (jsk<|jtn<|jsq<|jbk<|jsr<|jpc 2 rfl<|jot<|jds [] [3] 7<|jdc 5 [0,1] rfl<|jdi 2 2 rfl rfl rfl rfl<|fun x3 b6 o3=>jdf 3 3 rfl rfl<|
  jdl 4 true o_Literal rfl (gs (gs (gs (gk 0)))) rfl<|jda 5 3 2 rfl rfl rfl rfl<|jdp 6 (vb (x3.2.2.2 == x2)) rfl<|jde<|jtn<|jif rfl (jrg<|jpc 2 rfl<|jbs .s (e := eInt .i64) 3 [vi s8.2] ([s8.2] : List Int) (rC vI rN)<|fun p13 c13=>
  jar .s 4 2 rfl (gk 0) rfl rfl<|fun x4 r_5 p14 c14=>jpc 1 rfl<|joe<|jbn<|jtn<|jrg<|jpc 2 rfl<|joe<|jln (gv (fun _ k=>k p14 c14 r_5) [900,1,2,3,4] ⟨gk 0,gk 4,gk 5,gk 6,gk 7,gk 8,gk 9,gk 10,⟨⟩⟩))<|jsk<|jbn<|jtn<|jrg<|jpc 2 rfl<|joe<|
  jln (gv (fun _ k=>k p12 c12 r_4) [900,1,2,3,4] ⟨gk 1,gk 2,gk 3,gk 4,gk 5,gk 6,gk 7,gk 8,⟨⟩⟩))<|jxe<|jte<|jle<|jbh<|jnn (gv (fun _ k=>k p12 c12 r_4) [900,1,2,903,4] ⟨gk 0,gk 1,gk 2,gk 3,gk 4,gk 5,gk 6,gk 7,⟨⟩⟩))<|fun s7 _ k p11 c11 r_3=>k<|
  jsq<|jsr<|jpc 3 rfl<|jot<|jif rfl (jxe<|jte<|jbm<|jte<|jle<|jbh<|jnn (gv (fun _ k=>k p10 c10 r_2) [900,1,2] ⟨gk 3,gk 1,gk 2,gk 5,gk 6,gk 7,⟨⟩⟩))<|jsk<|jtn<|jsr<|jpc 2 rfl<|jot<|
  jjn (fun s9 K=>K [(1, vi y1), (2, sv p2 y2 c2), (8, pt b2 0), (9, sv p7 r3.1 c7), (11, vi s4), (12, sv p10 s6.1 c10), (15, sv p11 s7 c11), (17, vi s9), (55, vi (len r2.1.2.1)), (56, vi s4), (64, sv p9 x1.2.2.2.1 c9), (65, vi (len x1.2.2.2.1)), (66, vi s6.2)] [[], bx b2 29 [sv p4 r2.1.1 c4, sv p5 r2.1.2.1 c5, sv p6 r2.1.2.2 c6], r_2, [], r_3] [Rl (eInt .i64) p2 c2 y2, Rl e_Argument p7 c7 r3.1, Al (eInt .i64) 3 r_2 p10 c10 s6.1, Rl e_Literal p9 c9 x1.2.2.2.1, Al (eInt .i64) 3 r_3 p11 c11 s7, Rl e_Premise p4 c4 r2.1.1, Rl e_Rule p5 c5 r2.1.2.1, Rl e_Promotion p6 c6 r2.1.2.2]) (
  jsr<|jpc 4 rfl<|jot<|jif rfl (jrg<|jpc 2 rfl<|jix 1 rfl rfl rfl<|fun x5 b7 o4=>jld false oI (gk 0) rfl<|jpc 1 rfl<|joe<|jnn (gv (fun _ k=>k) [900,1,2,903,4] ⟨gk 2,gk 3,gk 4,gk 5,gk 1,gk 6,gk 7,gk 8,⟨⟩⟩))<|jsk<|
  jnn (gv (fun _ k=>k) [900,1,2,903,4] ⟨gk 1,gk 2,gk 3,gk 4,gk 0,gk 5,gk 6,gk 7,⟨⟩⟩))<|fun s9 _ k=>k<|jrg<|jpc 5 rfl<|jcl c_keep_Mod rfl ⟨⟩<|fun r7 _ k=>k<|jia 4 rfl rfl rfl<|fun x6 h2 b8 hp1=>jlA 4 4 sI false oI rfl hp1 h2 rfl<|
  jbs .s (e := eInt .i64) 3 [vi x6] ([x6] : List Int) (rC vI rN)<|fun p15 c15=>jar .s 2 3 rfl (gk 0) rfl rfl<|fun x7 r_6 p16 c16=>jpc 1 rfl<|joe<|jbn<|jtn<|jrg<|jpc 2 rfl<|joe<|
  jln (gv (fun _ k=>k p16 c16 r_6) [900,1,2] ⟨gk 0,gk 2,gk 3,gk 5,gk 7,gk 8,gk 9,⟨⟩⟩))<|jxe<|jte<|jle<|jbh<|jnn (gv (fun _ k=>k p10 c10 r_2) [900,1,2] ⟨gk 0,gk 1,gk 2,gk 4,gk 5,gk 6,⟨⟩⟩))<|fun s5 _ k p8 c8 r_1=>k<|jsq<|
  jjn (fun s10 K=>K [(1, vi y1), (2, sv p2 y2 c2), (8, pt b2 0), (9, sv p7 r3.1 c7), (11, vi s4), (12, sv p8 s5 c8), (55, vi (len r2.1.2.1)), (56, vi s4), (128, vb s10)] [[], bx b2 29 [sv p4 r2.1.1 c4, sv p5 r2.1.2.1 c5, sv p6 r2.1.2.2 c6], r_1] [Rl (eInt .i64) p2 c2 y2, Rl e_Argument p7 c7 r3.1, Al (eInt .i64) 3 r_1 p8 c8 s5, Rl e_Premise p4 c4 r2.1.1, Rl e_Rule p5 c5 r2.1.2.1, Rl e_Promotion p6 c6 r2.1.2.2]) (
  jrg<|jpc 2 rfl<|jfa 1 rfl<|jlo 1 rfl rfl rfl<|jpc 1 rfl<|jix 4 rfl rfl rfl<|fun x8 b9 o5=>jfa 3 rfl<|jld false oL (gf (gs (gs (gs (gk 0))))) rfl<|fun p17 c17=>jpc 3 rfl<|jsg 121 rfl (jpc 6 rfl<|jpe (vb true)<|joe<|
  jnn (gv (fun _ k=>k) [900,1,2] ⟨gk 3,gk 4,gk 2,gk 5,gk 6,gk 7,⟨⟩⟩))<|jla 1 3 rfl rfl rfl<|jpc 3 rfl<|jca .s [] [2] c_ref07_Within rfl rfl rfl ⟨ck 5,ck 6,ck 7,ck 4,cl 2 2,⟨⟩⟩<|fun r8 _ k=>k<|jpc 1 rfl<|jpe (vb (!r8))<|joe<|
  jnn (gv (fun _ k=>k) [900,1,2] ⟨gk 3,gk 4,gk 2,gk 5,gk 6,gk 7,⟨⟩⟩))<|fun s10 _ k=>k<|jif rfl (jxe<|jte<|jbh<|jtn<|jrg<|jpc 2 rfl<|joe<|jln (gv (fun _ k=>k) [900,1] ⟨gk 0,gk 1,gk 3,gk 4,gk 5,⟨⟩⟩))<|jsk<|jtn<|jsr<|jpc 1 rfl<|jot<|
  jjn (fun s11 K=>K [(1, vi y1), (2, sv p2 y2 c2), (8, pt b2 0), (9, sv p7 r3.1 c7), (18, vb s11), (55, vi (len r2.1.2.1)), (56, vi s4)] [[], bx b2 29 [sv p4 r2.1.1 c4, sv p5 r2.1.2.1 c5, sv p6 r2.1.2.2 c6], []] [Rl (eInt .i64) p2 c2 y2, Rl e_Argument p7 c7 r3.1, Rl e_Premise p4 c4 r2.1.1, Rl e_Rule p5 c5 r2.1.2.1, Rl e_Promotion p6 c6 r2.1.2.2]) (
  jsr<|jpc 3 rfl<|jot<|jbk<|
  jlp (fun s12 K=>K [(1, vi y1), (2, sv p2 y2 c2), (8, pt b2 0), (9, sv p7 r3.1 c7), (11, vi s4), (12, sv p8 s5 c8), (18, vb s12.1), (55, vi (len r2.1.2.1)), (56, vi s4), (130, vi (len r3.1)), (131, vi s12.2)] [[], bx b2 29 [sv p4 r2.1.1 c4, sv p5 r2.1.2.1 c5, sv p6 r2.1.2.2 c6], r_1] [Rl (eInt .i64) p2 c2 y2, Rl e_Argument p7 c7 r3.1, Al (eInt .i64) 3 r_1 p8 c8 s5, Rl e_Premise p4 c4 r2.1.1, Rl e_Rule p5 c5 r2.1.2.1, Rl e_Promotion p6 c6 r2.1.2.2]) (gv (fun _ k=>k) [900,1,2] ⟨gk 0,gk 1,gk 2,gk 3,gk 4,gk 5,⟨⟩⟩)<|
  fun s12 _ k=>k<|jsr<|jpc 1 rfl<|jot<|jsq<|jif rfl (jsk<|jtn<|jsq<|jbk<|jsr<|jpc 2 rfl<|jot<|
  jjc (fun s13 K=>K [(1, vi y1), (2, sv p2 y2 c2), (8, pt b2 0), (9, sv p7 r3.1 c7), (11, vi s4), (12, sv p8 s5 c8), (18, vb s13), (55, vi (len r2.1.2.1)), (56, vi s4), (130, vi (len r3.1)), (131, vi s12.2)] [[], bx b2 29 [sv p4 r2.1.1 c4, sv p5 r2.1.2.1 c5, sv p6 r2.1.2.2 c6], r_1] [Rl (eInt .i64) p2 c2 y2, Rl e_Argument p7 c7 r3.1, Al (eInt .i64) 3 r_1 p8 c8 s5, Rl e_Premise p4 c4 r2.1.1, Rl e_Rule p5 c5 r2.1.2.1, Rl e_Promotion p6 c6 r2.1.2.2]) (
  jrg<|jpc 2 rfl<|jsg 135 rfl (jpc 16 rfl<|jpe (vb true)<|jpc 1 rfl<|joe<|jnn (gv (fun _ k=>k) [900,1,2] ⟨gk 0,gk 1,gk 2,gk 3,gk 4,gk 5,⟨⟩⟩))<|jpc 2 rfl<|jix 1 rfl rfl rfl<|fun x9 b10 o6=>jfa 1 rfl<|jld false oI (gf (gs (gk 0))) rfl<|
  jpc 3 rfl<|jsg 143 rfl (jpc 2 rfl<|jix 2 rfl rfl rfl<|fun x10 b11 o7=>jfa 2 rfl<|jld false oL (gf (gs (gs (gk 0)))) rfl<|fun p18 c18=>jpc 1 rfl<|jca .s [] [2] c_keep_Ints rfl rfl rfl ⟨ck 0,cl 2 5,⟨⟩⟩<|fun r9 _ k=>k<|jpe (vb r9)<|
  jpe (vb r9)<|jpc 1 rfl<|joe<|jnn (gv (fun _ k=>k) [900,1,2] ⟨gk 3,gk 4,gk 5,gk 6,gk 7,gk 8,⟨⟩⟩))<|jpc 7 rfl<|jpe (vb false)<|jpe (vb false)<|jpc 1 rfl<|joe<|jnn (gv (fun _ k=>k) [900,1,2] ⟨gk 1,gk 2,gk 3,gk 4,gk 5,gk 6,⟨⟩⟩))<|fun s13 _ k=>
  k<|jbn<|jtn<|jrg<|jpc 2 rfl<|joe<|jln (gv (fun _ k=>k) [900,1,2] ⟨gk 0,gk 1,gk 2,gk 3,gk 4,gk 5,⟨⟩⟩))<|jxe<|jte<|jle<|jbh<|jnn (gv (fun _ k=>k) [900,1,902] ⟨gk 0,gk 1,gk 3,gk 4,gk 5,⟨⟩⟩))<|fun s11 _ k=>k<|jsr<|jpc 2 rfl<|jot<|jif rfl (jsr<|
  jpc 1 rfl<|jot<|jxr<|jbr<|jtr<|jlr<|jbr<|jlr<|jr1 rfl rfl (fun _ k=>k) [] ⟨⟩)<|jsk<|jbn<|jtn<|jrg<|jpc 2 rfl<|joe<|jln (gv (fun _ k=>k) [900,1] ⟨gk 0,gk 1,gk 2,gk 3,gk 4,⟨⟩⟩))<|jxe<|jte<|jle<|jbh<|jln (gv (fun _ k=>k) [900,901] ⟨⟩))<|
  fun s3 _ k=>k<|jsr<|jcl c_law07_awake rfl ⟨⟩<|fun r10 _ k=>k<|jpc 1 rfl<|jot<|jxr<|jr1 rfl rfl (fun _ k=>k) [] ⟨⟩

theorem c_ref01_Compare {y0 : T_Literal} {y1 : T_Literal} : Con Try.prog 38 [.agg #[vb y0.1, vs y0.2], .agg #[vb y1.1, vs y1.2]] [] [] (m_ref01_Compare y0 y1) fun r K=>K (vi r) [] [] :=
 ent3 Try.call38 Try.func38 rfl fun X=>jsr<|jbx .s rfl<|fun b1=>jbx .s rfl<|fun b2=>jpc 1 rfl<|jot<|jsq<|jbk<|jsr<|jla 0 2 rfl rfl rfl<|jla 1 2 rfl rfl rfl<|jpe (vb (y0 == y1))<|jpc 1 rfl<|jot<|jif rfl (jsr<|jpc 1 rfl<|jot<|jxr<|jbr<|jtr<|jr1 rfl rfl (fun _ k=>k) [] ⟨⟩)<|
  jjp (fun K=>K [(9, vb ((sless y0.2 y1.2) || ((y0.2 == y1.2) && y1.1)))] [[], []] []) (jrg<|jfa 1 rfl<|jlo 0 rfl rfl rfl<|jfa 1 rfl<|jlo 1 rfl rfl rfl<|jpc 2 rfl<|jsp (b := sless y0.2 y1.2) 15 rfl (fun hb1=>jpc 9 rfl<|jpe (vb true)<|
  jpc 1 rfl<|joe<|jup 9 (vb ((sless y0.2 y1.2) || ((y0.2 == y1.2) && y1.1))) rfl (by rw [hb1]; rfl)<|jnn (gv (fun _ k=>k) [900,901] ⟨⟩))<|fun hb1=>jfa 1 rfl<|jlo 0 rfl rfl rfl<|jfa 1 rfl<|jlo 1 rfl rfl rfl<|jpc 2 rfl<|
  jsp (b := y0.2 == y1.2) 21 rfl (fun hb2=>jfa 0 rfl<|jlo 1 rfl rfl rfl<|jpe (vb y1.1)<|jpe (vb y1.1)<|jpc 1 rfl<|joe<|jup 9 (vb ((sless y0.2 y1.2) || ((y0.2 == y1.2) && y1.1))) rfl (by rw [hb1,hb2]; rfl)<|jnn (gv (fun _ k=>k) [900,901] ⟨⟩)
  )<|fun hb2=>jpc 2 rfl<|jpe (vb false)<|jpe (vb false)<|jpc 1 rfl<|joe<|jup 9 (vb ((sless y0.2 y1.2) || ((y0.2 == y1.2) && y1.1))) rfl (by rw [hb1,hb2]; rfl)<|jnn (gv (fun _ k=>k) [900,901] ⟨⟩))<|fun _ k=>k<|jif rfl (jsr<|jpc 1 rfl<|jot<|
  jxr<|jbr<|jtr<|jr1 rfl rfl (fun _ k=>k) [] ⟨⟩)<|jsk<|jbn<|jtn<|jsr<|jpc 1 rfl<|jot<|jxr<|jr1 rfl rfl (fun _ k=>k) [] ⟨⟩

theorem c_ref01_Insert {y0 : List T_Literal} {y1 : T_Literal} : Con Try.prog 16 [sv p1 y0 c1, .agg #[vb y1.1, vs y1.2]] [] [Rl e_Literal p1 c1 y0] (m_ref01_Insert y0 y1) fun r K=>∀ p2 c2,K (sv p2 r c2) [] [Rl e_Literal p2 c2 r] :=
 ent3 Try.call16 Try.func16 rfl fun X=>jsr<|jbx .s rfl<|fun b1=>jpc 1 rfl<|jot<|jsr<|jpc 1 rfl<|jot<|jjn (fun s1 K=>K [(0, sv p1 y0 c1), (3, pt b1 0), (5, vi s1)] [bx b1 39 [vb y1.1, vs y1.2]] [Rl e_Literal p1 c1 y0]) (jbk<|
  jlp (fun s2 K=>K [(0, sv p1 y0 c1), (3, pt b1 0), (5, vi s2)] [bx b1 39 [vb y1.1, vs y1.2]] [Rl e_Literal p1 c1 y0]) (gv (fun _ k=>k) [0] ⟨gk 0,⟨⟩⟩)<|fun s2 _ k=>k<|jsq<|
  jjn (fun s3 K=>K [(0, sv p1 y0 c1), (3, pt b1 0), (5, vi s2), (19, vb s3)] [bx b1 39 [vb y1.1, vs y1.2]] [Rl e_Literal p1 c1 y0]) (jdS [] [0] 13<|jdc 8 [0,1,2,3,4] rfl<|jsg 11 rfl (jdc 6 [5,6] rfl<|jdi 7 0 rfl rfl rfl rfl<|fun x1 b2 o1=>
  jdl 8 true o_Literal rfl (gk 0) rfl<|jda 9 0 2 rfl rfl rfl rfl<|jd1 10<|jca (.f rfl) [] [] c_ref01_Compare rfl rfl rfl ⟨⟩<|fun r1 _ k=>k<|jdn<|jdc 1 [11] rfl<|jdp 12 (vb (decide (r1 < 0))) rfl<|jde<|jnn (gv (fun _ k=>k) [0] ⟨gk 1,⟨⟩⟩))<|
  jdc 1 [5,6,7,8,9,10,11] rfl<|jdp 12 (vb false) rfl<|jde<|jnn (gv (fun _ k=>k) [0] ⟨gk 0,⟨⟩⟩))<|fun s3 _ k=>k<|jif rfl (jsk<|jtn<|jbk<|jrg<|jpc 3 rfl<|joe<|jbn<|jln (gv (fun _ k=>k) [0] ⟨gk 0,⟨⟩⟩))<|jxe<|jte<|jle<|jbh<|
  jnn (gv (fun _ k=>k) [0] ⟨gk 0,⟨⟩⟩))<|fun s1 _ k=>k<|jsq<|jjn (fun s4 K=>K [(0, sv p1 y0 c1), (3, pt b1 0), (5, vi s1), (33, vb s4)] [bx b1 39 [vb y1.1, vs y1.2]] [Rl e_Literal p1 c1 y0]) (jdS [] [0] 12<|jdc 7 [0,1,2,3,4] rfl<|jsg 26 rfl (
  jdc 5 [5,6] rfl<|jdi 7 0 rfl rfl rfl rfl<|fun x2 b3 o2=>jdl 8 true o_Literal rfl (gk 0) rfl<|jda 9 0 2 rfl rfl rfl rfl<|jdp 10 (vb (x2 == y1)) rfl<|jdp 11 (vb (x2 == y1)) rfl<|jde<|jnn (gv (fun _ k=>k) [0] ⟨gk 1,⟨⟩⟩))<|
  jdc 1 [5,6,7,8,9,10] rfl<|jdp 11 (vb false) rfl<|jde<|jnn (gv (fun _ k=>k) [0] ⟨gk 0,⟨⟩⟩))<|fun s4 _ k=>k<|jif rfl (jsr<|jpc 2 rfl<|jot<|jxr<|jtr<|jr1 rfl rfl (fun _ k=>k p1 c1) [] ⟨gk 0,⟨⟩⟩)<|jsk<|jtn<|jsr<|
  jbo .s (e := e_Literal) 39 [] ([] : List T_Literal) rN<|fun r_1 p2 c2=>jpc 2 rfl<|jsl (gk 1) rfl rfl rfl (.inl ⟨rfl, rfl⟩) (.inr ⟨_, rfl⟩)<|fun x3 p3 c3=>jar .s 1 1 rfl (gk 0) rfl rfl<|fun x4 r_2 p4 c4=>jpc 1 rfl<|jot<|jds [] [0] 9<|
  jdc 8 [0] rfl<|jda 1 0 2 rfl rfl rfl rfl<|jdc 5 [4,5] rfl<|jdw 6 rfl (gk 3) rfl rfl rfl (.inr ⟨_, rfl⟩) (.inl ⟨rfl, rfl⟩)<|fun x5 p5 c5=>jd1 2<|jbs (.f rfl) (e := e_Literal) 39 [vb y1.1, vs y1.2] ([y1] : List T_Literal) (rC (vP vB vS) rN)<|
  fun p6 c6=>jdn<|jd1 3<|jar (.f rfl) 1 2 rfl (gk 0) rfl rfl<|fun x6 r_3 p7 c7=>jdn<|jd1 7<|jar (.f rfl) 1 0 rfl (gk 2) rfl rfl<|fun x7 r_4 p8 c8=>jdn<|jdc 0 [8] rfl<|jde<|jtn<|jxr<|jsh 1 0 rfl rfl<|jr1 rfl rfl (fun _ k=>k p8 c8) [] ⟨gk 0,⟨⟩⟩

theorem c_ref01_Same {y0 : List T_Literal} {y1 : List T_Literal} : Con Try.prog 18 [sv p1 y0 c1, sv p2 y1 c2] [] [Rl e_Literal p1 c1 y0, Rl e_Literal p2 c2 y1] (m_ref01_Same y0 y1) fun r K=>K (vb r) [] [] :=
 ent3 Try.call18 Try.func18 rfl fun X=>jsr<|jpc 1 rfl<|jot<|jsq<|jsr<|jpc 5 rfl<|jot<|jif rfl (jsr<|jpc 1 rfl<|jot<|jxr<|jtr<|jr1 rfl rfl (fun _ k=>k) [] ⟨⟩)<|jsk<|jtn<|jsq<|jsr<|jpc 1 rfl<|jot<|jbk<|
  jlp (fun s1 K=>K [(0, sv p1 y0 c1), (1, sv p2 y1 c2), (5, vi s1)] [] [Rl e_Literal p1 c1 y0, Rl e_Literal p2 c2 y1]) (gv (fun _ k=>k) [] ⟨gk 0,gk 1,⟨⟩⟩)<|fun s1 _ k=>k<|jsq<|jsr<|jpc 4 rfl<|jot<|jif rfl (jsk<|jtn<|jsq<|jbk<|jds [] [] 9<|
  jdc 7 [0,1] rfl<|jdi 2 0 rfl rfl rfl rfl<|fun x1 b1 o1=>jdl 3 true o_Literal rfl (gk 0) rfl<|jdc 3 [4,5] rfl<|jdi 6 2 rfl rfl rfl rfl<|fun x2 b2 o2=>jdl 7 true o_Literal rfl (gk 0) rfl<|jdp 8 (vb (!(x1 == x2))) rfl<|jde<|jtn<|jif rfl (jsr<|
  jpc 1 rfl<|jot<|jxr<|jbr<|jtr<|jlr<|jbr<|jtr<|jr1 rfl rfl (fun _ k=>k) [] ⟨⟩)<|jsk<|jbn<|jtn<|jrg<|jpc 3 rfl<|joe<|jln (gv (fun _ k=>k) [] ⟨gk 2,gk 3,⟨⟩⟩))<|jxe<|jte<|jle<|jbh<|jtn<|jsr<|jpc 1 rfl<|jot<|jxr<|jr1 rfl rfl (fun _ k=>k) [] ⟨⟩

theorem c_law07_ArgumentConclusions {y0 : List Int} : Con Try.prog 5 [sv p1 y0 c1] [] [Rl (eInt .i64) p1 c1 y0] (m_law07_ArgumentConclusions y0) fun r K=>K (vb r) [] [] :=
 ent3 Try.call5 Try.func5 rfl fun X=>jsr<|jpc 1 rfl<|jot<|jsr<|jpc 1 rfl<|jcl c_keep_New rfl ⟨ck 0,⟨⟩⟩<|fun r1 _ k b1 p2 c2=>k<|jpc 1 rfl<|jot<|jsr<|jpc 1 rfl<|jca .s [0] [] c_keep_Src_Base rfl rfl rfl ⟨ck 0,⟨⟩⟩<|fun r2 _ k p3 c3 p4 c4 p5 c5=>k<|
  jal .s (.agg #[.slice none 0 0, .slice none 0 0, .slice none 0 0])<|fun b2=>jso .s 1 rfl rfl rfl<|jot<|jsr<|jla 1 3 rfl rfl rfl<|jcl c_argument_Build rfl ⟨ck 0,ck 1,ck 2,⟨⟩⟩<|fun r3 _ k p6 c6=>k<|jpc 5 rfl<|jot<|jsq<|jsr<|jpc 2 rfl<|jot<|
  jif rfl (jjn (fun s1 K=>K [(2, vb s1)] [[], []] []) (jrg<|jpc 3 rfl<|jsg 30 rfl (jcl c_law07_awake rfl ⟨⟩<|fun r4 _ k=>k<|jpe (vb r4)<|jpc 1 rfl<|joe<|jnn (gv (fun _ k=>k) [900,901] ⟨⟩))<|jpc 1 rfl<|jpe (vb false)<|jpc 1 rfl<|joe<|
  jnn (gv (fun _ k=>k) [900,901] ⟨⟩))<|fun s1 _ k=>k<|jxr<|jtr<|jr1 rfl rfl (fun _ k=>k) [] ⟨⟩)<|jsk<|jtn<|jsr<|jpc 1 rfl<|jot<|
  jjn (fun s2 K=>∀ p7 c7,K [(4, pt b2 0), (5, sv p6 r3.1 c6), (7, sv p7 s2 c7)] [[], bx b2 29 [sv p3 r2.1.1 c3, sv p4 r2.1.2.1 c4, sv p5 r2.1.2.2 c5]] [Rl e_Literal p7 c7 s2, Rl e_Argument p6 c6 r3.1, Rl e_Premise p3 c3 r2.1.1, Rl e_Rule p4 c4 r2.1.2.1, Rl e_Promotion p5 c5 r2.1.2.2]) (
  jsr<|jfa 0 rfl<|jlo 1 rfl rfl rfl<|jpc 2 rfl<|jot<|jbk<|
  jlp (fun s3 K=>∀ p8 c8,K [(4, pt b2 0), (5, sv p6 r3.1 c6), (7, sv p8 s3.1 c8), (35, vi (len r2.1.1)), (36, vi s3.2)] [[], bx b2 29 [sv p3 r2.1.1 c3, sv p4 r2.1.2.1 c4, sv p5 r2.1.2.2 c5]] [Rl e_Literal p8 c8 s3.1, Rl e_Argument p6 c6 r3.1, Rl e_Premise p3 c3 r2.1.1, Rl e_Rule p4 c4 r2.1.2.1, Rl e_Promotion p5 c5 r2.1.2.2]) (gv (fun _ k=>k none 0) [900,1] ⟨gn,gk 0,gk 1,gk 2,gk 3,⟨⟩⟩)<|
  fun s3 _ k p8 c8=>k<|jsr<|jpc 1 rfl<|jot<|jsq<|jif rfl (jsk<|jtn<|jsq<|jbk<|jsr<|jpc 2 rfl<|jot<|jrg<|jpc 1 rfl<|jfa 0 rfl<|jlo 1 rfl rfl rfl<|jpc 1 rfl<|jix 2 rfl rfl rfl<|fun x1 b3 o1=>jfa 0 rfl<|jld true o_Literal (gf (gk 0)) rfl<|
  jcl c_ref01_Insert rfl ⟨ck 1,⟨⟩⟩<|fun r5 _ k p9 c9=>k<|jpc 1 rfl<|joe<|jbn<|jtn<|jrg<|jpc 2 rfl<|joe<|jln (gv (fun _ k=>k p9 c9) [900,1] ⟨gk 0,gk 3,gk 4,gk 5,gk 6,⟨⟩⟩))<|jxe<|jte<|jle<|jbh<|
  jnn (gv (fun _ k=>k p8 c8) [900,1] ⟨gk 0,gk 1,gk 2,gk 3,gk 4,⟨⟩⟩))<|fun s2 _ k p7 c7=>k<|jjn (fun s4 K=>∀ p10 c10,K [(5, sv p6 r3.1 c6), (7, sv p10 s4 c10)] [[], []] [Rl e_Literal p10 c10 s4, Rl e_Argument p6 c6 r3.1]) (jsr<|jpc 1 rfl<|
  jot<|jbk<|
  jlp (fun s5 K=>∀ p11 c11,K [(4, pt b2 0), (5, sv p6 r3.1 c6), (7, sv p11 s5.1 c11), (9, vb s5.2)] [[], bx b2 29 [sv p3 r2.1.1 c3, sv p4 r2.1.2.1 c4, sv p5 r2.1.2.2 c5]] [Rl e_Literal p11 c11 s5.1, Rl e_Argument p6 c6 r3.1, Rl e_Premise p3 c3 r2.1.1, Rl e_Rule p4 c4 r2.1.2.1, Rl e_Promotion p5 c5 r2.1.2.2]) (gv (fun _ k=>k p7 c7) [900,1] ⟨gk 0,gk 1,gk 2,gk 3,gk 4,⟨⟩⟩)<|
  fun s5 _ k p11 c11=>k<|jsq<|jsr<|jpc 1 rfl<|jot<|jif rfl (jsk<|jtn<|jbk<|jsr<|jpc 1 rfl<|jot<|jsr<|jfa 1 rfl<|jlo 1 rfl rfl rfl<|jpc 2 rfl<|jot<|jbk<|
  jlp (fun s6 K=>∀ p12 c12,K [(4, pt b2 0), (5, sv p6 r3.1 c6), (7, sv p12 s6.1 c12), (9, vb s6.2.1), (50, sv p4 r2.1.2.1 c4), (51, vi (len r2.1.2.1)), (52, vi s6.2.2)] [[], bx b2 29 [sv p3 r2.1.1 c3, sv p4 r2.1.2.1 c4, sv p5 r2.1.2.2 c5]] [Rl e_Literal p12 c12 s6.1, Rl e_Argument p6 c6 r3.1, Rl e_Rule p4 c4 r2.1.2.1, Rl e_Premise p3 c3 r2.1.1, Rl e_Promotion p5 c5 r2.1.2.2]) (gv (fun _ k=>k p11 c11) [900,1] ⟨gk 0,gk 1,gk 3,gk 2,gk 4,⟨⟩⟩)<|
  fun s6 _ k p12 c12=>k<|jsr<|jpc 1 rfl<|jot<|jsq<|jif rfl (jsk<|jtn<|jsq<|jbk<|jsr<|jix 2 rfl rfl rfl<|fun x2 b4 o2=>jld true o_Rule (gk 0) rfl<|fun p13 c13=>jal .s (.agg #[vs [], vb false, vi 0, .slice none 0 0, vb false, vs []])<|fun b5=>
  jso .s 2 rfl rfl rfl<|jot<|jsr<|jpc 1 rfl<|jfa 4 rfl<|jla 2 2 rfl rfl rfl<|jcl c_ref01_Has rfl ⟨ck 2,⟨⟩⟩<|fun r6 _ k=>k<|jpc 2 rfl<|jot<|
  jjn (fun s7 K=>K [(4, pt b2 0), (5, sv p6 r3.1 c6), (7, sv p12 s6.1 c12), (9, vb s6.2.1), (11, pt b5 0), (12, vb s7), (50, sv p4 r2.1.2.1 c4), (51, vi (len r2.1.2.1)), (52, vi s6.2.2)] [[], bx b2 29 [sv p3 r2.1.1 c3, sv p4 r2.1.2.1 c4, sv p5 r2.1.2.2 c5], bx b5 45 [vs x2.1, vb x2.2.1, vi x2.2.2.1, sv p13 x2.2.2.2.1 c13, vb x2.2.2.2.2.1, vs x2.2.2.2.2.2]] [Rl e_Argument p6 c6 r3.1, Rl e_Literal p12 c12 s6.1, Rl e_Rule p4 c4 r2.1.2.1, Rl e_Premise p3 c3 r2.1.1, Rl e_Promotion p5 c5 r2.1.2.2, Rl e_Literal p13 c13 x2.2.2.2.1]) (
  jsr<|jfa 3 rfl<|jlo 2 rfl rfl rfl<|jpc 2 rfl<|jot<|jbk<|
  jlp (fun s8 K=>K [(4, pt b2 0), (5, sv p6 r3.1 c6), (7, sv p12 s6.1 c12), (9, vb s6.2.1), (11, pt b5 0), (12, vb s8.1), (50, sv p4 r2.1.2.1 c4), (51, vi (len r2.1.2.1)), (52, vi s6.2.2), (62, sv p13 x2.2.2.2.1 c13), (63, vi (len x2.2.2.2.1)), (64, vi s8.2)] [[], bx b2 29 [sv p3 r2.1.1 c3, sv p4 r2.1.2.1 c4, sv p5 r2.1.2.2 c5], bx b5 45 [vs x2.1, vb x2.2.1, vi x2.2.2.1, sv p13 x2.2.2.2.1 c13, vb x2.2.2.2.2.1, vs x2.2.2.2.2.2]] [Rl e_Argument p6 c6 r3.1, Rl e_Literal p12 c12 s6.1, Rl e_Rule p4 c4 r2.1.2.1, Rl e_Literal p13 c13 x2.2.2.2.1, Rl e_Premise p3 c3 r2.1.1, Rl e_Promotion p5 c5 r2.1.2.2]) (gv (fun _ k=>k) [900,1,2] ⟨gk 3,gk 2,gk 4,gk 0,gk 5,gk 6,⟨⟩⟩)<|
  fun s8 _ k=>k<|jsr<|jpc 1 rfl<|jot<|jsq<|jif rfl (jsk<|jtn<|jsq<|jbk<|jsr<|jix 3 rfl rfl rfl<|fun x3 b6 o3=>jld true o_Literal (gk 0) rfl<|jal .s (.agg #[vb false, vs []])<|fun b7=>jso .s 3 rfl rfl rfl<|jot<|
  jjc (fun s9 K=>K [(4, pt b2 0), (5, sv p6 r3.1 c6), (7, sv p12 s6.1 c12), (9, vb s6.2.1), (11, pt b5 0), (12, vb s9), (50, sv p4 r2.1.2.1 c4), (51, vi (len r2.1.2.1)), (52, vi s6.2.2), (62, sv p13 x2.2.2.2.1 c13), (63, vi (len x2.2.2.2.1)), (64, vi s8.2)] [[], bx b2 29 [sv p3 r2.1.1 c3, sv p4 r2.1.2.1 c4, sv p5 r2.1.2.2 c5], bx b5 45 [vs x2.1, vb x2.2.1, vi x2.2.2.1, sv p13 x2.2.2.2.1 c13, vb x2.2.2.2.2.1, vs x2.2.2.2.2.2], []] [Rl e_Argument p6 c6 r3.1, Rl e_Literal p12 c12 s6.1, Rl e_Rule p4 c4 r2.1.2.1, Rl e_Literal p13 c13 x2.2.2.2.1, Rl e_Premise p3 c3 r2.1.1, Rl e_Promotion p5 c5 r2.1.2.2]) (
  jrg<|jpc 2 rfl<|jsg 69 rfl (jpc 1 rfl<|jla 3 2 rfl rfl rfl<|jcl c_ref01_Has rfl ⟨ck 2,⟨⟩⟩<|fun r7 _ k=>k<|jpe (vb r7)<|jpc 1 rfl<|joe<|jnn (gv (fun _ k=>k) [900,1,2,903] ⟨gk 1,gk 2,gk 3,gk 4,gk 5,gk 6,⟨⟩⟩))<|jpc 3 rfl<|jpe (vb false)<|
  jpc 1 rfl<|joe<|jnn (gv (fun _ k=>k) [900,1,2,903] ⟨gk 1,gk 2,gk 3,gk 4,gk 5,gk 6,⟨⟩⟩))<|fun s9 _ k=>k<|jbn<|jtn<|jrg<|jpc 2 rfl<|joe<|jln (gv (fun _ k=>k) [900,1,2] ⟨gk 0,gk 1,gk 2,gk 3,gk 4,gk 5,⟨⟩⟩))<|jxe<|jte<|jle<|jbh<|
  jnn (gv (fun _ k=>k) [900,1,2] ⟨gk 0,gk 1,gk 2,gk 4,gk 5,gk 3,⟨⟩⟩))<|fun s7 _ k=>k<|jsr<|jpc 1 rfl<|jot<|jif rfl (jrg<|jpc 1 rfl<|jfa 4 rfl<|jla 2 2 rfl rfl rfl<|jcl c_ref01_Insert rfl ⟨ck 1,⟨⟩⟩<|fun r8 _ k p14 c14=>k<|jpc 2 rfl<|joe<|jbn<|
  jtn<|jrg<|jpc 2 rfl<|joe<|jln (gv (fun _ k=>k p14 c14) [900,1] ⟨gk 0,gk 1,gk 3,gk 4,gk 5,⟨⟩⟩))<|jsk<|jbn<|jtn<|jrg<|jpc 2 rfl<|joe<|jln (gv (fun _ k=>k p12 c12) [900,1] ⟨gk 1,gk 0,gk 2,gk 3,gk 4,⟨⟩⟩))<|jxe<|jte<|jle<|jbh<|jbn<|
  jln (gv (fun _ k=>k p12 c12) [900,1] ⟨gk 0,gk 1,gk 3,gk 2,gk 4,⟨⟩⟩))<|jxe<|jte<|jle<|jbh<|jnn (gv (fun _ k=>k p11 c11) [900,901] ⟨gk 0,gk 1,⟨⟩⟩))<|fun s4 _ k p10 c10=>k<|jsr<|jpc 1 rfl<|jro (eInt .i64) 3<|jot<|
  jjn (fun s10 K=>∀ p15 c15 r_1,K [(5, sv p6 r3.1 c6), (7, sv p10 s4 c10), (15, sv p15 s10 c15)] [[], [], r_1] [Al (eInt .i64) 3 r_1 p15 c15 s10, Rl e_Argument p6 c6 r3.1, Rl e_Literal p10 c10 s4]) (jsr<|jpc 3 rfl<|jot<|jbk<|
  jlp (fun s11 K=>∀ p16 c16 r_2,K [(5, sv p6 r3.1 c6), (7, sv p10 s4 c10), (15, sv p16 s11.1 c16), (82, vi (len r3.1)), (83, vi s11.2)] [[], [], r_2] [Al (eInt .i64) 3 r_2 p16 c16 s11.1, Rl e_Argument p6 c6 r3.1, Rl e_Literal p10 c10 s4]) (gv (fun _ k=>k none 0 []) [900,901,2] ⟨gk 0,gk 2,gk 1,⟨⟩⟩)<|
  fun s11 _ k p16 c16 r_2=>k<|jsr<|jpc 1 rfl<|jot<|jsq<|jif rfl (jsk<|jtn<|jsq<|jbk<|jsr<|jpc 2 rfl<|jot<|jrg<|jpc 2 rfl<|jbs .s (e := eInt .i64) 3 [vi s11.2] ([s11.2] : List Int) (rC vI rN)<|fun p17 c17=>jar .s 2 1 rfl (gk 0) rfl rfl<|
  fun x4 r_3 p18 c18=>jpc 1 rfl<|joe<|jbn<|jtn<|jrg<|jpc 2 rfl<|joe<|jln (gv (fun _ k=>k p18 c18 r_3) [900,901,2] ⟨gk 0,gk 3,gk 4,⟨⟩⟩))<|jxe<|jte<|jle<|jbh<|jnn (gv (fun _ k=>k p16 c16 r_2) [900,901,2] ⟨gk 0,gk 1,gk 2,⟨⟩⟩))<|
  fun s10 _ k p15 c15 r_1=>k<|jjn (fun s12 K=>K [(2, vb s12)] [[], [], []] []) (jrg<|jpc 2 rfl<|jsh 2 0 rfl rfl<|jcl c_argument_Conclusions rfl ⟨ck 2,ck 0,⟨⟩⟩<|fun r9 _ k p19 c19=>k<|jpc 1 rfl<|jcl c_ref01_Same rfl ⟨ck 0,ck 4,⟨⟩⟩<|
  fun r10 _ k=>k<|jpc 1 rfl<|jsg 96 rfl (jcl c_law07_awake rfl ⟨⟩<|fun r11 _ k=>k<|jpe (vb r11)<|jpc 1 rfl<|joe<|jnn (gv (fun _ k=>k) [900,901,902] ⟨⟩))<|jpc 1 rfl<|jpe (vb false)<|jpc 1 rfl<|joe<|jnn (gv (fun _ k=>k) [900,901,902] ⟨⟩))<|
  fun s12 _ k=>k<|jxr<|jr1 rfl rfl (fun _ k=>k) [] ⟨⟩

theorem c_keep_In {y0 : List Int} {y1 : Int} : Con Try.prog 20 [sv p1 y0 c1, vi y1] [] [Rl (eInt .i64) p1 c1 y0] (m_keep_In y0 y1) fun r K=>K (vb r) [] [] :=
 ent3 Try.call20 Try.func20 rfl fun X=>jsr<|jpc 1 rfl<|jot<|jsq<|jsr<|jpc 3 rfl<|jot<|jbk<|jlp (fun s1 K=>K [(0, sv p1 y0 c1), (1, vi y1), (7, vi (len y0)), (8, vi s1)] [] [Rl (eInt .i64) p1 c1 y0]) (gv (fun _ k=>k) [] ⟨gk 0,⟨⟩⟩)<|fun s1 _ k=>k<|jsr<|jpc 1 rfl<|jot<|jsq<|
  jif rfl (jsk<|jtn<|jsq<|jbk<|jsr<|jpc 2 rfl<|jot<|jsr<|jpc 2 rfl<|jix 0 rfl rfl rfl<|fun x1 b1 o1=>jld false oI (gk 0) rfl<|jpc 2 rfl<|jot<|jif rfl (jsr<|jpc 1 rfl<|jot<|jxr<|jbr<|jtr<|jlr<|jbr<|jtr<|jr1 rfl rfl (fun _ k=>k) [] ⟨⟩)<|jsk<|
  jbn<|jtn<|jrg<|jpc 2 rfl<|joe<|jln (gv (fun _ k=>k) [] ⟨gk 1,⟨⟩⟩))<|jxe<|jte<|jle<|jbh<|jtn<|jsr<|jpc 1 rfl<|jot<|jxr<|jr1 rfl rfl (fun _ k=>k) [] ⟨⟩

theorem c_law07_ArgumentBranches {y0 : List Int} {y1 : List Int} : Con Try.prog 6 [sv p1 y0 c1, sv p2 y1 c2] [] [Rl (eInt .i64) p1 c1 y0, Rl (eInt .i64) p2 c2 y1] (m_law07_ArgumentBranches y0 y1) fun r K=>K (vb r) [] [] :=
 ent3 Try.call6 Try.func6 rfl fun X=>jsr<|jpc 1 rfl<|jot<|jsr<|jpc 1 rfl<|jcl c_keep_New rfl ⟨ck 0,⟨⟩⟩<|fun r1 _ k b1 p3 c3=>k<|jpc 1 rfl<|jot<|jsr<|jpc 1 rfl<|jca .s [0] [] c_keep_Src_Base rfl rfl rfl ⟨ck 0,⟨⟩⟩<|fun r2 _ k p4 c4 p5 c5 p6 c6=>k<|
  jal .s (.agg #[.slice none 0 0, .slice none 0 0, .slice none 0 0])<|fun b2=>jso .s 1 rfl rfl rfl<|jot<|jsr<|jla 1 3 rfl rfl rfl<|jcl c_argument_Build rfl ⟨ck 0,ck 1,ck 2,⟨⟩⟩<|fun r3 _ k p7 c7=>k<|jpc 5 rfl<|jot<|jsq<|jsr<|jpc 2 rfl<|jot<|
  jif rfl (jjn (fun s1 K=>K [(4, vb s1)] [[], []] []) (jrg<|jpc 3 rfl<|jsg 29 rfl (jcl c_law07_awake rfl ⟨⟩<|fun r4 _ k=>k<|jpe (vb r4)<|jpc 1 rfl<|joe<|jnn (gv (fun _ k=>k) [900,901] ⟨⟩))<|jpc 1 rfl<|jpe (vb false)<|jpc 1 rfl<|joe<|
  jnn (gv (fun _ k=>k) [900,901] ⟨⟩))<|fun s1 _ k=>k<|jxr<|jtr<|jr1 rfl rfl (fun _ k=>k) [] ⟨⟩)<|jsk<|jtn<|jsq<|jsr<|jla 1 3 rfl rfl rfl<|jpc 1 rfl<|jcl c_law07_formed rfl ⟨ck 1,ck 2,ck 3,ck 0,⟨⟩⟩<|fun r5 _ k=>k<|jpc 1 rfl<|jot<|jif rfl (
  jsr<|jpc 1 rfl<|jot<|jxr<|jtr<|jr1 rfl rfl (fun _ k=>k) [] ⟨⟩)<|jsk<|jtn<|jjo (fun s2 K=>K [] [[], []] []) (jsr<|jpc 3 rfl<|jot<|jbk<|
  jlp (fun s3 K=>K [(1, sv p2 y1 c2), (6, pt b2 0), (7, sv p7 r3.1 c7), (37, vi (len r3.1)), (38, vi s3)] [[], bx b2 29 [sv p4 r2.1.1 c4, sv p5 r2.1.2.1 c5, sv p6 r2.1.2.2 c6]] [Rl (eInt .i64) p2 c2 y1, Rl e_Argument p7 c7 r3.1, Rl e_Premise p4 c4 r2.1.1, Rl e_Rule p5 c5 r2.1.2.1, Rl e_Promotion p6 c6 r2.1.2.2]) (gv (fun _ k=>k) [900,1] ⟨gk 6,gk 0,gk 1,gk 2,gk 3,⟨⟩⟩)<|
  fun s3 _ k=>k<|jsr<|jpc 1 rfl<|jot<|jsq<|jif rfl (jsk<|jtn<|jsq<|jbk<|jsr<|jpc 2 rfl<|jot<|jsr<|jpc 1 rfl<|jro (eInt .i64) 3<|jot<|jsr<|jpc 2 rfl<|jix 2 rfl rfl rfl<|fun x1 b3 o1=>jfa 3 rfl<|jld true o_Literal (gs (gs (gs (gk 0)))) rfl<|
  jbo .s (e := e_Literal) 39 [vb x1.2.2.2.1, vs x1.2.2.2.2] ([x1.2.2.2] : List T_Literal) (rC (vP vB vS) rN)<|fun r_1 p8 c8=>jpc 1 rfl<|jot<|jsr<|jpc 2 rfl<|jot<|jsr<|jpc 1 rfl<|jot<|jbk<|
  jlp (fun s4 K=>∀ p9 c9 r_2 p10 c10 r_3,K [(1, sv p2 y1 c2), (6, pt b2 0), (7, sv p7 r3.1 c7), (10, sv p9 s4.1 c9), (11, sv p10 s4.2.1 c10), (12, vi s4.2.2.1), (13, vi s4.2.2.2), (37, vi (len r3.1)), (38, vi s3)] [[], bx b2 29 [sv p4 r2.1.1 c4, sv p5 r2.1.2.1 c5, sv p6 r2.1.2.2 c6], r_2, r_3] [Al (eInt .i64) 3 r_2 p9 c9 s4.1, Al e_Literal 39 r_3 p10 c10 s4.2.1, Rl (eInt .i64) p2 c2 y1, Rl e_Argument p7 c7 r3.1, Rl e_Premise p4 c4 r2.1.1, Rl e_Rule p5 c5 r2.1.2.1, Rl e_Promotion p6 c6 r2.1.2.2]) (gv (fun _ k=>k none 0 [] p8 c8 r_1) [900,1,2,3] ⟨gk 2,gk 0,gk 3,gk 4,gk 5,gk 6,gk 7,⟨⟩⟩)<|
  fun s4 _ k p9 c9 r_2 p10 c10 r_3=>k<|jsq<|jsr<|jpc 2 rfl<|jix 3 rfl rfl rfl<|fun x2 b4 o2=>jfa 1 rfl<|jld false oI (gf (gs (gk 0))) rfl<|jpc 1 rfl<|jot<|jif rfl (jsk<|jtn<|jsq<|jbk<|jsr<|jpc 2 rfl<|jix 4 rfl rfl rfl<|fun x3 b5 o3=>
  jfa 1 rfl<|jld false oI (gf (gs (gk 0))) rfl<|jpc 1 rfl<|jot<|
  jjo (fun s5 K=>∀ p11 c11 r_4 p12 c12 r_5,K [(1, sv p2 y1 c2), (6, pt b2 0), (7, sv p7 r3.1 c7), (10, sv p11 s5.1 c11), (11, sv p12 s5.2 c12), (12, vi s4.2.2.1), (13, vi s4.2.2.2), (37, vi (len r3.1)), (38, vi s3)] [[], bx b2 29 [sv p4 r2.1.1 c4, sv p5 r2.1.2.1 c5, sv p6 r2.1.2.2 c6], r_4, [], r_5] [Al (eInt .i64) 3 r_4 p11 c11 s5.1, Al e_Literal 39 r_5 p12 c12 s5.2, Rl (eInt .i64) p2 c2 y1, Rl e_Argument p7 c7 r3.1, Rl e_Premise p4 c4 r2.1.1, Rl e_Rule p5 c5 r2.1.2.1, Rl e_Promotion p6 c6 r2.1.2.2]) (
  jsr<|jfa 1 rfl<|jlo 1 rfl rfl rfl<|jpc 1 rfl<|jix 7 rfl rfl rfl<|fun x4 b6 o4=>jfa 1 rfl<|jld false oB (gf (gs (gk 0))) rfl<|jpc 1 rfl<|jot<|jif rfl (jsq<|jsr<|jpc 2 rfl<|jca .s [] [2] c_keep_In rfl rfl rfl ⟨cl 2 3,⟨⟩⟩<|fun r6 _ k=>k<|jot<|
  jif rfl (jsr<|jpc 1 rfl<|jot<|jxr<|jtr<|jlr<|jbr<|jtr<|jlr<|jbr<|jbr<|jtr<|jlr<|jbr<|jlr<|jr1 rfl rfl (fun _ k=>k) [] ⟨⟩)<|jsk<|jtn<|jsr<|jpc 2 rfl<|jbs .s (e := eInt .i64) 3 [vi x3.2.1] ([x3.2.1] : List Int) (rC vI rN)<|fun p13 c13=>
  jar .s 2 4 rfl (gk 0) rfl rfl<|fun x5 r_6 p14 c14=>jpc 1 rfl<|jot<|jrg<|jpc 1 rfl<|jro e_Literal 39<|joe<|jln (gv (fun _ k=>k p14 c14 r_6 none 0 []) [900,1,2,903,4] ⟨gk 1,gk 0,gk 8,gk 9,gk 10,gk 11,gk 12,⟨⟩⟩))<|jsk<|
  jln (gv (fun _ k=>k p9 c9 r_2 p10 c10 r_3) [900,1,2,903,3] ⟨gk 3,gk 4,gk 5,gk 6,gk 7,gk 8,gk 9,⟨⟩⟩))<|fun s5 _ k p11 c11 r_4 p12 c12 r_5=>k<|jsq<|jsr<|jpc 2 rfl<|jix 3 rfl rfl rfl<|fun x6 b7 o5=>jfa 2 rfl<|
  jld false oL (gf (gs (gs (gk 0)))) rfl<|fun p15 c15=>jpc 2 rfl<|jot<|jif rfl (jxe<|jte<|jbm<|jte<|jle<|jbh<|jbn<|jtn<|jrg<|jpc 2 rfl<|joe<|jln (gv (fun _ k=>k) [900,1] ⟨gk 4,gk 5,gk 6,gk 7,gk 8,⟨⟩⟩))<|jsk<|jtn<|jsr<|jpc 1 rfl<|jot<|
  jjn (fun s6 K=>K [(1, sv p2 y1 c2), (6, pt b2 0), (7, sv p7 r3.1 c7), (10, sv p11 s5.1 c11), (11, sv p12 s5.2 c12), (12, vi s4.2.2.1), (13, vi s4.2.2.2), (15, vi s6), (37, vi (len r3.1)), (38, vi s3)] [[], bx b2 29 [sv p4 r2.1.1 c4, sv p5 r2.1.2.1 c5, sv p6 r2.1.2.2 c6], r_4, [], r_5] [Rl (eInt .i64) p2 c2 y1, Rl e_Argument p7 c7 r3.1, Al (eInt .i64) 3 r_4 p11 c11 s5.1, Al e_Literal 39 r_5 p12 c12 s5.2, Rl e_Premise p4 c4 r2.1.1, Rl e_Rule p5 c5 r2.1.2.1, Rl e_Promotion p6 c6 r2.1.2.2]) (
  jsr<|jpc 4 rfl<|jot<|jif rfl (jdS [] [] 12<|jdc 10 [0,1] rfl<|jdi 2 4 rfl rfl rfl rfl<|fun x7 b8 o6=>jdl 3 false oI rfl (gk 0) rfl<|jdc 6 [4,5] rfl<|jdi 6 6 rfl rfl rfl rfl<|fun x8 b9 o7=>jdf 7 2 rfl rfl<|
  jdl 8 false oL rfl (gf (gs (gs (gk 0)))) rfl<|fun p16 c16=>jdc 2 [9] rfl<|jd1 10<|jca (.f rfl) [] [] c_keep_Mod rfl rfl rfl ⟨⟩<|fun r7 _ k=>k<|jdn<|jdc 0 [11] rfl<|jde<|
  jnn (gv (fun _ k=>k) [900,1,2,903,4] ⟨gk 7,gk 8,gk 5,gk 6,gk 9,gk 10,gk 11,⟨⟩⟩))<|jsk<|jnn (gv (fun _ k=>k) [900,1,2,903,4] ⟨gk 4,gk 5,gk 2,gk 3,gk 6,gk 7,gk 8,⟨⟩⟩))<|fun s6 _ k=>k<|jsr<|jpc 2 rfl<|jix 1 rfl rfl rfl<|fun x9 b10 o8=>
  jfa 2 rfl<|jld false oL (gf (gs (gs (gk 0)))) rfl<|fun p17 c17=>jpc 1 rfl<|jix 0 rfl rfl rfl<|fun x10 b11 o9=>jld false oI (gk 0) rfl<|jpc 1 rfl<|jot<|jsq<|jsr<|jpc 3 rfl<|jix 4 rfl rfl rfl<|fun x11 b12 o10=>jfa 3 rfl<|
  jld true o_Literal (gs (gs (gs (gk 0)))) rfl<|jca .s [] [4] c_ref01_Has rfl rfl rfl ⟨cl 4 7,⟨⟩⟩<|fun r8 _ k=>k<|jot<|jif rfl (jsr<|jpc 1 rfl<|jot<|jxr<|jtr<|jbr<|jtr<|jlr<|jbr<|jbr<|jtr<|jlr<|jbr<|jlr<|jr1 rfl rfl (fun _ k=>k) [] ⟨⟩)<|jsk<|
  jtn<|jrg<|jpc 3 rfl<|jix 5 rfl rfl rfl<|fun x12 b13 o11=>jfa 3 rfl<|jld true o_Literal (gs (gs (gs (gk 0)))) rfl<|jbs .s (e := e_Literal) 39 [vb x12.2.2.2.1, vs x12.2.2.2.2] ([x12.2.2.2] : List T_Literal) (rC (vP vB vS) rN)<|fun p18 c18=>
  jar .s 4 9 rfl (gk 0) rfl rfl<|fun x13 r_7 p19 c19=>jpc 1 rfl<|joe<|jbn<|jtn<|jrg<|jpc 3 rfl<|joe<|jln (gv (fun _ k=>k p11 c11 r_4 p19 c19 r_7) [900,1,2,4] ⟨gk 9,gk 0,gk 7,gk 8,gk 11,gk 12,gk 13,⟨⟩⟩))<|jxe<|jte<|jle<|jbh<|jbn<|jtn<|jrg<|
  jpc 2 rfl<|joe<|jln (gv (fun _ k=>k) [900,1] ⟨gk 3,gk 4,gk 5,gk 6,gk 7,⟨⟩⟩))<|jxe<|jte<|jle<|jbh<|jln (gv (fun _ k=>k) [900,901] ⟨⟩))<|fun s2 _ k=>k<|jsr<|jcl c_law07_awake rfl ⟨⟩<|fun r9 _ k=>k<|jpc 1 rfl<|jot<|jxr<|
  jr1 rfl rfl (fun _ k=>k) [] ⟨⟩

theorem c_ref05_Copy {y0 : T_Base} : Con Try.prog 21 [.agg #[sv p1 y0.1 c1, sv p2 y0.2.1 c2, sv p3 y0.2.2 c3]] [] [Rl e_Premise p1 c1 y0.1, Rl e_Rule p2 c2 y0.2.1, Rl e_Promotion p3 c3 y0.2.2] (m_ref05_Copy y0) fun r K=>∀ p4 c4 r_1 p5 c5 r_2 p6 c6,K (.agg #[sv p4 r.1 c4, sv p5 r.2.1 c5, sv p6 r.2.2 c6]) [r_1, r_2] [Al e_Premise 51 r_1 p4 c4 r.1, Al e_Rule 45 r_2 p5 c5 r.2.1, Rl e_Promotion p6 c6 r.2.2] :=
 ent3 Try.call21 Try.func21 rfl fun X=>jsr<|jbx .s rfl<|fun b1=>jal .s (.agg #[.slice none 0 0, .slice none 0 0, .slice none 0 0])<|fun b2=>jot<|
  jjn (fun s1 K=>∀ b3 p4 c4 r_1 p5 c5 r_2 p6 c6 r_3,K [(1, pt b1 0), (2, pt b2 0), (3, pt b3 0)] [bx b1 29 [sv p1 y0.1 c1, sv p2 y0.2.1 c2, sv p3 y0.2.2 c3], bx b2 29 [.slice none 0 0, .slice none 0 0, .slice none 0 0], bx b3 29 [sv p4 s1.1 c4, sv p5 s1.2.1 c5, sv p6 s1.2.2 c6], r_1, r_2, r_3] [Al e_Premise 51 r_1 p4 c4 s1.1, Al e_Rule 45 r_2 p5 c5 s1.2.1, Al e_Promotion 68 r_3 p6 c6 s1.2.2, Rl e_Premise p1 c1 y0.1, Rl e_Rule p2 c2 y0.2.1, Rl e_Promotion p3 c3 y0.2.2]) (
  jdS [] [0] 11<|jdf 1 0 rfl rfl<|jdo 2 0 rfl rfl rfl rfl<|jdf 5 2 rfl rfl<|jdo 6 0 rfl rfl rfl rfl<|jd3 0 4 9 (jbo (.f rfl) (e := e_Premise) 51 [] ([] : List T_Premise) rN<|fun r_4 p7 c7=>jdn<|jd3 3 4 9 (jar (.f rfl) 2 0 rfl (gk 1) rfl rfl<|
  fun x1 r_5 p8 c8=>jdn<|jd2 4 9 (jbo (.f rfl) (e := e_Promotion) 68 [] ([] : List T_Promotion) rN<|fun r_6 p9 c9=>jdn<|jd2 7 9 (jar (.f rfl) 3 0 rfl (gk 5) rfl rfl<|fun x2 r_7 p10 c10=>jdn<|
  jdp 8 (.agg #[sv p8 x1 c8, .slice none 0 0, sv p10 x2 c10]) rfl<|jro e_Rule 45<|jd1 9<|jal (.f rfl) (.agg #[.slice none 0 0, .slice none 0 0, .slice none 0 0])<|fun b4=>jdn<|jd1 10<|jso (.f rfl) 5 rfl rfl rfl<|jdn<|jde<|
  jnn (gv (fun _ k=>k b4 p8 c8 r_5 none 0 [] p10 c10 r_7) [0,1,5,2,4,3] ⟨gk 3,gk 0,gk 1,gk 5,gk 6,gk 7,⟨⟩⟩)) <|jal (.f rfl) (.agg #[.slice none 0 0, .slice none 0 0, .slice none 0 0])<|fun b5=>jdn<|jd1 7<|jar (.f rfl) 3 0 rfl (gk 5) rfl rfl<|
  fun x3 r_8 p11 c11=>jdn<|jdp 8 (.agg #[sv p8 x1 c8, .slice none 0 0, sv p11 x3 c11]) rfl<|jro e_Rule 45<|jd1 10<|jso (.f rfl) 4 rfl rfl rfl<|jdn<|jde<|
  jnn (gv (fun _ k=>k b5 p8 c8 r_5 none 0 [] p11 c11 r_8) [0,1,4,2,5,3] ⟨gk 3,gk 0,gk 1,gk 5,gk 6,gk 7,⟨⟩⟩)) <|jal (.f rfl) (.agg #[.slice none 0 0, .slice none 0 0, .slice none 0 0])<|fun b6=>jdn<|jd1 4<|
  jbo (.f rfl) (e := e_Promotion) 68 [] ([] : List T_Promotion) rN<|fun r_9 p12 c12=>jdn<|jd1 7<|jar (.f rfl) 4 0 rfl (gk 5) rfl rfl<|fun x4 r_10 p13 c13=>jdn<|jdp 8 (.agg #[sv p8 x1 c8, .slice none 0 0, sv p13 x4 c13]) rfl<|jro e_Rule 45<|
  jd1 10<|jso (.f rfl) 3 rfl rfl rfl<|jdn<|jde<|jnn (gv (fun _ k=>k b6 p8 c8 r_5 none 0 [] p13 c13 r_10) [0,1,3,2,5,4] ⟨gk 3,gk 0,gk 1,gk 5,gk 6,gk 7,⟨⟩⟩)) (jbo (.f rfl) (e := e_Promotion) 68 [] ([] : List T_Promotion) rN<|fun r_11 p14 c14=>
  jdn<|jd2 3 9 (jar (.f rfl) 2 1 rfl (gk 2) rfl rfl<|fun x5 r_12 p15 c15=>jdn<|jd2 7 9 (jar (.f rfl) 3 1 rfl (gk 5) rfl rfl<|fun x6 r_13 p16 c16=>jdn<|jdp 8 (.agg #[sv p15 x5 c15, .slice none 0 0, sv p16 x6 c16]) rfl<|jro e_Rule 45<|jd1 9<|
  jal (.f rfl) (.agg #[.slice none 0 0, .slice none 0 0, .slice none 0 0])<|fun b7=>jdn<|jd1 10<|jso (.f rfl) 5 rfl rfl rfl<|jdn<|jde<|
  jnn (gv (fun _ k=>k b7 p15 c15 r_12 none 0 [] p16 c16 r_13) [0,1,5,2,4,3] ⟨gk 2,gk 0,gk 1,gk 5,gk 6,gk 7,⟨⟩⟩)) <|jal (.f rfl) (.agg #[.slice none 0 0, .slice none 0 0, .slice none 0 0])<|fun b8=>jdn<|jd1 7<|
  jar (.f rfl) 3 1 rfl (gk 5) rfl rfl<|fun x7 r_14 p17 c17=>jdn<|jdp 8 (.agg #[sv p15 x5 c15, .slice none 0 0, sv p17 x7 c17]) rfl<|jro e_Rule 45<|jd1 10<|jso (.f rfl) 4 rfl rfl rfl<|jdn<|jde<|
  jnn (gv (fun _ k=>k b8 p15 c15 r_12 none 0 [] p17 c17 r_14) [0,1,4,2,5,3] ⟨gk 2,gk 0,gk 1,gk 5,gk 6,gk 7,⟨⟩⟩)) <|jal (.f rfl) (.agg #[.slice none 0 0, .slice none 0 0, .slice none 0 0])<|fun b9=>jdn<|jd1 3<|
  jar (.f rfl) 2 1 rfl (gk 2) rfl rfl<|fun x8 r_15 p18 c18=>jdn<|jd1 7<|jar (.f rfl) 3 1 rfl (gk 5) rfl rfl<|fun x9 r_16 p19 c19=>jdn<|jdp 8 (.agg #[sv p18 x8 c18, .slice none 0 0, sv p19 x9 c19]) rfl<|jro e_Rule 45<|jd1 10<|
  jso (.f rfl) 4 rfl rfl rfl<|jdn<|jde<|jnn (gv (fun _ k=>k b9 p18 c18 r_15 none 0 [] p19 c19 r_16) [0,1,4,2,5,3] ⟨gk 2,gk 0,gk 1,gk 5,gk 6,gk 7,⟨⟩⟩)) <|jal (.f rfl) (.agg #[.slice none 0 0, .slice none 0 0, .slice none 0 0])<|fun b10=>jdn<|
  jd2 3 4 (jar (.f rfl) 2 0 rfl (gk 1) rfl rfl<|fun x10 r_17 p20 c20=>jdn<|jd1 4<|jbo (.f rfl) (e := e_Promotion) 68 [] ([] : List T_Promotion) rN<|fun r_18 p21 c21=>jdn<|jd1 7<|jar (.f rfl) 4 0 rfl (gk 5) rfl rfl<|fun x11 r_19 p22 c22=>jdn<|
  jdp 8 (.agg #[sv p20 x10 c20, .slice none 0 0, sv p22 x11 c22]) rfl<|jro e_Rule 45<|jd1 10<|jso (.f rfl) 3 rfl rfl rfl<|jdn<|jde<|jnn (gv (fun _ k=>k b10 p20 c20 r_17 none 0 [] p22 c22 r_19) [0,1,3,2,5,4] ⟨gk 3,gk 0,gk 1,gk 5,gk 6,gk 7,⟨⟩⟩)
  ) <|jbo (.f rfl) (e := e_Promotion) 68 [] ([] : List T_Promotion) rN<|fun r_20 p23 c23=>jdn<|jd1 3<|jar (.f rfl) 2 1 rfl (gk 2) rfl rfl<|fun x12 r_21 p24 c24=>jdn<|jd1 7<|jar (.f rfl) 4 1 rfl (gk 5) rfl rfl<|fun x13 r_22 p25 c25=>jdn<|
  jdp 8 (.agg #[sv p24 x12 c24, .slice none 0 0, sv p25 x13 c25]) rfl<|jro e_Rule 45<|jd1 10<|jso (.f rfl) 3 rfl rfl rfl<|jdn<|jde<|jnn (gv (fun _ k=>k b10 p24 c24 r_21 none 0 [] p25 c25 r_22) [0,1,3,2,5,4] ⟨gk 2,gk 0,gk 1,gk 5,gk 6,gk 7,⟨⟩⟩)
  ) (jbo (.f rfl) (e := e_Promotion) 68 [] ([] : List T_Promotion) rN<|fun r_23 p26 c26=>jdn<|jd2 0 9 (jbo (.f rfl) (e := e_Premise) 51 [] ([] : List T_Premise) rN<|fun r_24 p27 c27=>jdn<|jd2 3 9 (jar (.f rfl) 3 0 rfl (gk 2) rfl rfl<|
  fun x14 r_25 p28 c28=>jdn<|jd2 7 9 (jar (.f rfl) 2 2 rfl (gk 5) rfl rfl<|fun x15 r_26 p29 c29=>jdn<|jdp 8 (.agg #[sv p28 x14 c28, .slice none 0 0, sv p29 x15 c29]) rfl<|jro e_Rule 45<|jd1 9<|
  jal (.f rfl) (.agg #[.slice none 0 0, .slice none 0 0, .slice none 0 0])<|fun b11=>jdn<|jd1 10<|jso (.f rfl) 5 rfl rfl rfl<|jdn<|jde<|
  jnn (gv (fun _ k=>k b11 p28 c28 r_25 none 0 [] p29 c29 r_26) [0,1,5,3,4,2] ⟨gk 2,gk 0,gk 1,gk 5,gk 6,gk 7,⟨⟩⟩)) <|jal (.f rfl) (.agg #[.slice none 0 0, .slice none 0 0, .slice none 0 0])<|fun b12=>jdn<|jd1 7<|
  jar (.f rfl) 2 2 rfl (gk 5) rfl rfl<|fun x16 r_27 p30 c30=>jdn<|jdp 8 (.agg #[sv p28 x14 c28, .slice none 0 0, sv p30 x16 c30]) rfl<|jro e_Rule 45<|jd1 10<|jso (.f rfl) 4 rfl rfl rfl<|jdn<|jde<|
  jnn (gv (fun _ k=>k b12 p28 c28 r_25 none 0 [] p30 c30 r_27) [0,1,4,3,5,2] ⟨gk 2,gk 0,gk 1,gk 5,gk 6,gk 7,⟨⟩⟩)) <|jal (.f rfl) (.agg #[.slice none 0 0, .slice none 0 0, .slice none 0 0])<|fun b13=>jdn<|jd1 3<|
  jar (.f rfl) 3 0 rfl (gk 2) rfl rfl<|fun x17 r_28 p31 c31=>jdn<|jd1 7<|jar (.f rfl) 2 2 rfl (gk 5) rfl rfl<|fun x18 r_29 p32 c32=>jdn<|jdp 8 (.agg #[sv p31 x17 c31, .slice none 0 0, sv p32 x18 c32]) rfl<|jro e_Rule 45<|jd1 10<|
  jso (.f rfl) 4 rfl rfl rfl<|jdn<|jde<|jnn (gv (fun _ k=>k b13 p31 c31 r_28 none 0 [] p32 c32 r_29) [0,1,4,3,5,2] ⟨gk 2,gk 0,gk 1,gk 5,gk 6,gk 7,⟨⟩⟩)) <|jal (.f rfl) (.agg #[.slice none 0 0, .slice none 0 0, .slice none 0 0])<|fun b14=>jdn<|
  jd1 0<|jbo (.f rfl) (e := e_Premise) 51 [] ([] : List T_Premise) rN<|fun r_30 p33 c33=>jdn<|jd1 3<|jar (.f rfl) 4 0 rfl (gk 2) rfl rfl<|fun x19 r_31 p34 c34=>jdn<|jd1 7<|jar (.f rfl) 2 2 rfl (gk 5) rfl rfl<|fun x20 r_32 p35 c35=>jdn<|
  jdp 8 (.agg #[sv p34 x19 c34, .slice none 0 0, sv p35 x20 c35]) rfl<|jro e_Rule 45<|jd1 10<|jso (.f rfl) 3 rfl rfl rfl<|jdn<|jde<|jnn (gv (fun _ k=>k b14 p34 c34 r_31 none 0 [] p35 c35 r_32) [0,1,3,4,5,2] ⟨gk 2,gk 0,gk 1,gk 5,gk 6,gk 7,⟨⟩⟩)
  ) <|jal (.f rfl) (.agg #[.slice none 0 0, .slice none 0 0, .slice none 0 0])<|fun b15=>jdn<|jd2 0 4 (jbo (.f rfl) (e := e_Premise) 51 [] ([] : List T_Premise) rN<|fun r_33 p36 c36=>jdn<|jd2 3 4 (jar (.f rfl) 3 0 rfl (gk 1) rfl rfl<|
  fun x21 r_34 p37 c37=>jdn<|jd1 4<|jbo (.f rfl) (e := e_Promotion) 68 [] ([] : List T_Promotion) rN<|fun r_35 p38 c38=>jdn<|jd1 7<|jar (.f rfl) 4 0 rfl (gk 5) rfl rfl<|fun x22 r_36 p39 c39=>jdn<|
  jdp 8 (.agg #[sv p37 x21 c37, .slice none 0 0, sv p39 x22 c39]) rfl<|jro e_Rule 45<|jd1 10<|jso (.f rfl) 2 rfl rfl rfl<|jdn<|jde<|jnn (gv (fun _ k=>k b15 p37 c37 r_34 none 0 [] p39 c39 r_36) [0,1,2,3,5,4] ⟨gk 3,gk 0,gk 1,gk 5,gk 6,gk 7,⟨⟩⟩)
  ) <|jbo (.f rfl) (e := e_Promotion) 68 [] ([] : List T_Promotion) rN<|fun r_37 p40 c40=>jdn<|jd1 3<|jar (.f rfl) 3 1 rfl (gk 2) rfl rfl<|fun x23 r_38 p41 c41=>jdn<|jd1 7<|jar (.f rfl) 4 1 rfl (gk 5) rfl rfl<|fun x24 r_39 p42 c42=>jdn<|
  jdp 8 (.agg #[sv p41 x23 c41, .slice none 0 0, sv p42 x24 c42]) rfl<|jro e_Rule 45<|jd1 10<|jso (.f rfl) 2 rfl rfl rfl<|jdn<|jde<|jnn (gv (fun _ k=>k b15 p41 c41 r_38 none 0 [] p42 c42 r_39) [0,1,2,3,5,4] ⟨gk 2,gk 0,gk 1,gk 5,gk 6,gk 7,⟨⟩⟩)
  ) <|jbo (.f rfl) (e := e_Promotion) 68 [] ([] : List T_Promotion) rN<|fun r_40 p43 c43=>jdn<|jd1 0<|jbo (.f rfl) (e := e_Premise) 51 [] ([] : List T_Premise) rN<|fun r_41 p44 c44=>jdn<|jd1 3<|jar (.f rfl) 4 0 rfl (gk 2) rfl rfl<|
  fun x25 r_42 p45 c45=>jdn<|jd1 7<|jar (.f rfl) 3 2 rfl (gk 5) rfl rfl<|fun x26 r_43 p46 c46=>jdn<|jdp 8 (.agg #[sv p45 x25 c45, .slice none 0 0, sv p46 x26 c46]) rfl<|jro e_Rule 45<|jd1 10<|jso (.f rfl) 2 rfl rfl rfl<|jdn<|jde<|
  jnn (gv (fun _ k=>k b15 p45 c45 r_42 none 0 [] p46 c46 r_43) [0,1,2,4,5,3] ⟨gk 2,gk 0,gk 1,gk 5,gk 6,gk 7,⟨⟩⟩))<|fun s1 _ k b3 p4 c4 r_1 p5 c5 r_2 p6 c6 r_3=>k<|
  jjn (fun s2 K=>∀ p47 c47 r_44,K [(2, pt b2 0), (3, pt b3 0)] [[], bx b2 29 [.slice none 0 0, .slice none 0 0, .slice none 0 0], bx b3 29 [sv p4 s1.1 c4, sv p47 s2 c47, sv p6 s1.2.2 c6], r_1, r_44, r_3] [Al e_Rule 45 r_44 p47 c47 s2, Al e_Premise 51 r_1 p4 c4 s1.1, Al e_Promotion 68 r_3 p6 c6 s1.2.2]) (
  jsr<|jpc 1 rfl<|jot<|jbk<|
  jlp (fun s3 K=>∀ p48 c48 r_45,K [(1, pt b1 0), (2, pt b2 0), (3, pt b3 0), (4, vi s3.1)] [bx b1 29 [sv p1 y0.1 c1, sv p2 y0.2.1 c2, sv p3 y0.2.2 c3], bx b2 29 [.slice none 0 0, .slice none 0 0, .slice none 0 0], bx b3 29 [sv p4 s1.1 c4, sv p48 s3.2 c48, sv p6 s1.2.2 c6], r_1, r_45, r_3] [Al e_Rule 45 r_45 p48 c48 s3.2, Rl e_Premise p1 c1 y0.1, Rl e_Rule p2 c2 y0.2.1, Rl e_Promotion p3 c3 y0.2.2, Al e_Premise 51 r_1 p4 c4 s1.1, Al e_Promotion 68 r_3 p6 c6 s1.2.2]) (gv (fun _ k=>k p5 c5 r_2) [0,1,2,3,4,5] ⟨gk 1,gk 3,gk 4,gk 5,gk 0,gk 2,⟨⟩⟩)<|
  fun s3 _ k p48 c48 r_45=>k<|jsq<|jsr<|jpc 1 rfl<|jfa 1 rfl<|jlo 0 rfl rfl rfl<|jpc 2 rfl<|jot<|jif rfl (jsk<|jtn<|jsq<|jbk<|jsr<|jfa 1 rfl<|jlo 0 rfl rfl rfl<|jpc 1 rfl<|jix 2 rfl rfl rfl<|fun x27 b16 o1=>jld true o_Rule (gk 0) rfl<|
  fun p49 c49=>jal .s (.agg #[vs [], vb false, vi 0, .slice none 0 0, vb false, vs []])<|fun b17=>jso .s 6 rfl rfl rfl<|jot<|jsr<|jbo .s (e := e_Literal) 39 [] ([] : List T_Literal) rN<|fun r_46 p50 c50=>jfa 3 rfl<|jlo 6 rfl rfl rfl<|
  jar .s 7 0 rfl (gk 1) rfl rfl<|fun x28 r_47 p51 c51=>jfa 3 rfl<|jso .s 6 rfl rfl rfl<|jot<|jrg<|jfa 1 rfl<|jlo 2 rfl rfl rfl<|jla 6 6 rfl rfl rfl<|jsh 7 0 rfl rfl<|
  jbs .s (e := e_Rule) 45 [vs x27.1, vb x27.2.1, vi x27.2.2.1, sv p51 x28 c51, vb x27.2.2.2.2.1, vs x27.2.2.2.2.2] ([(x27.1, x27.2.1, x27.2.2.1, x28, x27.2.2.2.2)] : List T_Rule) (rC (vP vS (vP vB (vP vI (vP (vL (gk 0)) (vP vB vS))))) rN)<|
  fun p52 c52=>jar .s 4 6 rfl (gk 0) rfl rfl<|fun x29 r_48 p53 c53=>jfa 1 rfl<|jso .s 2 rfl rfl rfl<|joe<|jbn<|jtn<|jrg<|jpc 3 rfl<|joe<|jln (gv (fun _ k=>k p53 c53 r_48) [0,1,2,3,4,5] ⟨gk 0,gk 8,gk 9,gk 10,gk 11,gk 12,⟨⟩⟩))<|jxe<|jte<|jle<|
  jbh<|jnn (gv (fun _ k=>k p48 c48 r_45) [900,1,2,3,4,5] ⟨gk 0,gk 4,gk 5,⟨⟩⟩))<|fun s2 _ k p47 c47 r_44=>k<|jsr<|jla 2 3 rfl rfl rfl<|jso .s 1 rfl rfl rfl<|jot<|jxr<|jsh 5 2 rfl rfl<|
  jrg' rfl (lC 1 (.agg #[sv p4 s1.1 c4, sv p47 s2 c47, sv p6 s1.2.2 c6]) rfl rfl lN) (fun _ k=>k p4 c4 r_1 p47 c47 r_44 p6 c6) [3,4] ⟨gk 2,gk 1,gk 0,⟨⟩⟩

theorem c_law07_ArgumentGrows {y0 : List Int} : Con Try.prog 7 [sv p1 y0 c1] [] [Rl (eInt .i64) p1 c1 y0] (m_law07_ArgumentGrows y0) fun r K=>K (vb r) [] [] :=
 ent3 Try.call7 Try.func7 rfl fun X=>jsr<|jpc 1 rfl<|jot<|jsr<|jpc 1 rfl<|jcl c_keep_New rfl ⟨ck 0,⟨⟩⟩<|fun r1 _ k b1 p2 c2=>k<|jpc 1 rfl<|jot<|jsr<|jpc 1 rfl<|jca .s [0] [] c_keep_Src_Base rfl rfl rfl ⟨ck 0,⟨⟩⟩<|fun r2 _ k p3 c3 p4 c4 p5 c5=>k<|
  jal .s (.agg #[.slice none 0 0, .slice none 0 0, .slice none 0 0])<|fun b2=>jso .s 1 rfl rfl rfl<|jot<|jsr<|jla 1 3 rfl rfl rfl<|jcl c_ref05_Copy rfl ⟨ck 0,ck 1,ck 2,⟨⟩⟩<|fun r3 _ k p6 c6 r_1 p7 c7 r_2 p8 c8=>k<|
  jal .s (.agg #[.slice none 0 0, .slice none 0 0, .slice none 0 0])<|fun b3=>jso .s 4 rfl rfl rfl<|jot<|jsr<|jpc 1 rfl<|jca .s [0] [] c_keep_Src_N rfl rfl rfl ⟨ck 6,⟨⟩⟩<|fun r4 _ k=>k<|jpc 1 rfl<|jpe (.agg #[vb (r4.1 == 1), vs [122]])<|
  jal .s (.agg #[vb false, vs []])<|fun b4=>jso .s 5 rfl rfl rfl<|jot<|jds [13] [4, 5] 14<|jdf 0 1 rfl rfl<|jdo 1 4 rfl rfl rfl rfl<|jdc 10 [2,5] rfl<|jda 8 5 2 rfl rfl rfl rfl<|jd1 3<|jca (.f rfl) [0] [] c_keep_Src_N rfl rfl rfl ⟨ck 6,⟨⟩⟩<|
  fun r5 _ k=>k<|jdn<|jdc 7 [4] rfl<|jd1 6<|jca (.f rfl) [0] [] c_keep_Src_Literal rfl rfl rfl ⟨ck 6,⟨⟩⟩<|fun r6 _ k=>k<|jdn<|jd1 7<|jbs (.f rfl) (e := e_Literal) 39 [vb r6.1.1, vs r6.1.2] ([r6.1] : List T_Literal) (rC (vP vB vS) rN)<|
  fun p9 c9=>jdn<|jdp 9 (.agg #[vs [109, 111, 114, 101], vb (r5.1 == 1), vi 0, sv p9 ([r6.1] : List T_Literal) c9, vb (r4.1 == 1), vs [122]]) rfl<|jd1 10<|
  jbs (.f rfl) (e := e_Rule) 45 [vs [109, 111, 114, 101], vb (r5.1 == 1), vi 0, sv p9 ([r6.1] : List T_Literal) c9, vb (r4.1 == 1), vs [122]] ([([109, 111, 114, 101], r5.1 == 1, 0, ([r6.1] : List T_Literal), (r4.1 == 1, [122]))] : List T_Rule) (rC (vP vS (vP vB (vP vI (vP (vL (gk 0)) (vP vB vS))))) rN)<|
  fun p10 c10=>jdn<|jd1 11<|jar (.f rfl) 3 3 rfl (gk 0) rfl rfl<|fun x1 r_3 p11 c11=>jdn<|jdf 12 1 rfl rfl<|jd1 13<|jso (.f rfl) 4 rfl rfl rfl<|jdb [] [4, 5]<|jde<|jtn<|jsr<|jfa 0 rfl<|jlo 4 rfl rfl rfl<|jpe (.agg #[vb false, vs [121]])<|
  jpe (.agg #[vb false, vs [121], vi 1, vi 0, vs []])<|jbs .s (e := e_Premise) 51 [vb false, vs [121], vi 1, vi 0, vs []] ([((false, [121]), 1, 0, [])] : List T_Premise) (rC (vP (vP vB vS) (vP vI (vP vI vS))) rN)<|fun p12 c12=>
  jar .s 2 4 rfl (gk 0) rfl rfl<|fun x2 r_4 p13 c13=>jfa 0 rfl<|jso .s 4 rfl rfl rfl<|jot<|jsr<|jla 1 3 rfl rfl rfl<|jcl c_argument_Build rfl ⟨ck 8,ck 9,ck 10,⟨⟩⟩<|fun r7 _ k p14 c14=>k<|jpc 5 rfl<|jot<|jsr<|jla 4 3 rfl rfl rfl<|
  jsh 2 1 rfl rfl<|jsh 3 4 rfl rfl<|jcl c_argument_Build rfl ⟨ck 1,ck 0,ck 10,⟨⟩⟩<|fun r8 _ k p15 c15=>k<|jpc 5 rfl<|jot<|jsq<|
  jjp (fun K=>K [(4, pt b2 0), (5, pt b3 0), (7, sv p14 r7.1 c14), (8, vi r7.2), (9, sv p15 r8.1 c15), (10, vi r8.2), (62, vb ((r8.2 == 2) || (r7.2 == 2)))] [[], bx b2 29 [sv p3 r2.1.1 c3, sv p4 r2.1.2.1 c4, sv p5 r2.1.2.2 c5], [], [], bx b3 29 [sv p13 x2 c13, sv p11 x1 c11, sv p8 r3.2.2 c8], []] [Rl e_Argument p14 c14 r7.1, Rl e_Argument p15 c15 r8.1, Rl e_Premise p3 c3 r2.1.1, Rl e_Rule p4 c4 r2.1.2.1, Rl e_Promotion p5 c5 r2.1.2.2, Rl e_Premise p13 c13 x2, Rl e_Rule p11 c11 x1, Rl e_Promotion p8 c8 r3.2.2]) (
  jrg<|jpc 3 rfl<|jsp (b := r8.2 == 2) 59 rfl (fun hb1=>jpc 2 rfl<|jpe (vb true)<|joe<|jup 62 (vb ((r8.2 == 2) || (r7.2 == 2))) rfl (by rw [hb1]; rfl)<|
  jnn (gv (fun _ k=>k) [900,1,902,903,4,905] ⟨gk 3,gk 0,gk 12,gk 13,gk 14,gk 2,gk 1,gk 11,⟨⟩⟩))<|fun hb1=>jpc 2 rfl<|jpe (vb (r7.2 == 2))<|joe<|jup 62 (vb ((r8.2 == 2) || (r7.2 == 2))) rfl (by rw [hb1]; rfl)<|
  jnn (gv (fun _ k=>k) [900,1,902,903,4,905] ⟨gk 3,gk 0,gk 12,gk 13,gk 14,gk 2,gk 1,gk 11,⟨⟩⟩))<|fun _ k=>k<|jif rfl (jjn (fun s1 K=>K [(2, vb s1)] [[], [], [], [], [], []] []) (jrg<|jpc 3 rfl<|jsg 65 rfl (jpc 2 rfl<|jpe (vb true)<|
  jpc 1 rfl<|jcl c_law07_awake rfl ⟨⟩<|fun r9 _ k=>k<|jpe (vb r9)<|jpc 1 rfl<|joe<|jnn (gv (fun _ k=>k) [900,901,902,903,904,905] ⟨⟩))<|jpc 2 rfl<|jpe (vb (r8.2 == 2))<|jpc 1 rfl<|jsg 69 rfl (jcl c_law07_awake rfl ⟨⟩<|fun r10 _ k=>k<|
  jpe (vb r10)<|jpc 1 rfl<|joe<|jnn (gv (fun _ k=>k) [900,901,902,903,904,905] ⟨⟩))<|jpc 1 rfl<|jpe (vb false)<|jpc 1 rfl<|joe<|jnn (gv (fun _ k=>k) [900,901,902,903,904,905] ⟨⟩))<|fun s1 _ k=>k<|jxr<|jtr<|jr1 rfl rfl (fun _ k=>k) [] ⟨⟩)<|
  jsk<|jtn<|jsq<|jjn (fun s2 K=>K [(7, sv p14 r7.1 c14), (9, sv p15 r8.1 c15), (89, vb s2)] [[], [], [], [], [], []] [Rl e_Argument p14 c14 r7.1, Rl e_Argument p15 c15 r8.1]) (jrg<|jpc 3 rfl<|jsg 74 rfl (jpc 2 rfl<|jpe (vb true)<|jpc 5 rfl<|
  jpe (vb true)<|jpc 5 rfl<|jpe (vb true)<|joe<|jnn (gv (fun _ k=>k) [900,901,902,903,904,905] ⟨gk 0,gk 1,⟨⟩⟩))<|jpc 2 rfl<|jpe (vb (r8.2 != 0))<|jpc 1 rfl<|jsg 78 rfl (jpc 4 rfl<|jpe (vb true)<|jpc 5 rfl<|jpe (vb true)<|joe<|
  jnn (gv (fun _ k=>k) [900,901,902,903,904,905] ⟨gk 0,gk 1,⟨⟩⟩))<|jla 1 3 rfl rfl rfl<|jpc 1 rfl<|jcl c_law07_formed rfl ⟨ck 2,ck 3,ck 4,ck 0,⟨⟩⟩<|fun r11 _ k=>k<|jpc 1 rfl<|jpe (vb (!r11))<|jpc 1 rfl<|jsg 84 rfl (jpc 4 rfl<|jpe (vb true)<|
  joe<|jnn (gv (fun _ k=>k) [900,901,902,903,904,905] ⟨gk 0,gk 1,⟨⟩⟩))<|jla 4 3 rfl rfl rfl<|jpc 1 rfl<|jcl c_law07_formed rfl ⟨ck 5,ck 6,ck 7,ck 1,⟨⟩⟩<|fun r12 _ k=>k<|jpc 1 rfl<|jpe (vb (!r12))<|joe<|
  jnn (gv (fun _ k=>k) [900,901,902,903,904,905] ⟨gk 0,gk 1,⟨⟩⟩))<|fun s2 _ k=>k<|jif rfl (jsr<|jpc 1 rfl<|jot<|jxr<|jtr<|jr1 rfl rfl (fun _ k=>k) [] ⟨⟩)<|jsk<|jtn<|jsr<|jpc 1 rfl<|jro (eInt .i64) 3<|jot<|
  jjo (fun s3 K=>K [(7, sv p14 r7.1 c14), (9, sv p15 r8.1 c15)] [[], [], [], [], [], [], []] [Rl e_Argument p14 c14 r7.1, Rl e_Argument p15 c15 r8.1]) (jsr<|jpc 3 rfl<|jot<|jbk<|
  jlp (fun s4 K=>∀ p16 c16 r_5,K [(7, sv p14 r7.1 c14), (9, sv p15 r8.1 c15), (11, sv p16 s4.1 c16), (91, vi (len r7.1)), (92, vi s4.2)] [[], [], [], [], [], [], r_5] [Al (eInt .i64) 3 r_5 p16 c16 s4.1, Rl e_Argument p14 c14 r7.1, Rl e_Argument p15 c15 r8.1]) (gv (fun _ k=>k none 0 []) [900,901,902,903,904,905,6] ⟨gk 0,gk 1,gk 2,⟨⟩⟩)<|
  fun s4 _ k p16 c16 r_5=>k<|jsr<|jpc 1 rfl<|jot<|jsq<|jif rfl (jsk<|jtn<|jsq<|jbk<|jsr<|jpc 2 rfl<|jot<|jsr<|jpc 1 rfl<|jot<|
  jjn (fun s5 K=>K [(7, sv p14 r7.1 c14), (9, sv p15 r8.1 c15), (11, sv p16 s4.1 c16), (13, vi s5), (91, vi (len r7.1)), (92, vi s4.2)] [[], [], [], [], [], [], r_5] [Rl e_Argument p14 c14 r7.1, Rl e_Argument p15 c15 r8.1, Al (eInt .i64) 3 r_5 p16 c16 s4.1]) (
  jsr<|jpc 3 rfl<|jot<|jbk<|
  jlp (fun s6 K=>K [(7, sv p14 r7.1 c14), (9, sv p15 r8.1 c15), (11, sv p16 s4.1 c16), (12, vi s4.2), (13, vi s6.1), (91, vi (len r7.1)), (92, vi s4.2), (96, vi (len r8.1)), (97, vi s6.2)] [[], [], [], [], [], [], r_5] [Rl e_Argument p14 c14 r7.1, Rl e_Argument p15 c15 r8.1, Al (eInt .i64) 3 r_5 p16 c16 s4.1]) (gv (fun _ k=>k) [900,901,902,903,904,905,6] ⟨gk 1,gk 2,gk 0,⟨⟩⟩)<|
  fun s6 _ k=>k<|jsr<|jpc 1 rfl<|jot<|jsq<|jif rfl (jsk<|jtn<|jsq<|jbk<|jsr<|jpc 2 rfl<|jot<|
  jjn (fun s7 K=>K [(7, sv p14 r7.1 c14), (9, sv p15 r8.1 c15), (11, sv p16 s4.1 c16), (12, vi s4.2), (13, vi s6.1), (14, vi s6.2), (15, vb s7), (91, vi (len r7.1)), (92, vi s4.2), (96, vi (len r8.1)), (97, vi s6.2)] [[], [], [], [], [], [], r_5] [Rl e_Argument p14 c14 r7.1, Rl e_Argument p15 c15 r8.1, Al (eInt .i64) 3 r_5 p16 c16 s4.1]) (
  jdS [] [] 40<|jdc 38 [0,1] rfl<|jdi 2 0 rfl rfl rfl rfl<|fun x3 b5 o1=>jdf 3 0 rfl rfl<|jdl 4 false oI rfl (gf (gk 0)) rfl<|jdc 33 [5,6] rfl<|jdi 7 2 rfl rfl rfl rfl<|fun x4 b6 o2=>jdf 8 0 rfl rfl<|jdl 9 false oI rfl (gf (gk 0)) rfl<|
  jdc 28 [10,11] rfl<|jsg 111 rfl (jdc 26 [12,13] rfl<|jdi 14 2 rfl rfl rfl rfl<|fun x5 b7 o3=>jdf 15 1 rfl rfl<|jdl 16 false oI rfl (gf (gs (gk 0))) rfl<|jdc 21 [17,18] rfl<|jdi 19 4 rfl rfl rfl rfl<|fun x6 b8 o4=>jdf 20 1 rfl rfl<|
  jdl 21 false oI rfl (gf (gs (gk 0))) rfl<|jdc 17 [22] rfl<|jdp 23 (vb (x5.2.1 == x6.2.1)) rfl<|jdc 15 [24] rfl<|jsg 124 rfl (jdc 13 [25,26] rfl<|jdi 27 4 rfl rfl rfl rfl<|fun x7 b9 o5=>jdf 28 2 rfl rfl<|
  jdl 29 false oL rfl (gf (gs (gs (gk 0)))) rfl<|fun p17 c17=>jdc 7 [30,31,32] rfl<|jdi 33 7 rfl rfl rfl rfl<|fun x8 b10 o6=>jdf 34 2 rfl rfl<|jdl 35 false oL rfl (gf (gs (gs (gk 0)))) rfl<|fun p18 c18=>jdc 2 [36,37] rfl<|
  jdp 38 (vb ((len x7.2.2.1) == (len x8.2.2.1))) rfl<|jdc 0 [39] rfl<|jde<|jnn (gv (fun _ k=>k) [900,901,902,903,904,905,6] ⟨gk 8,gk 9,gk 10,⟨⟩⟩))<|jdc 2 [25,26,27,28,29,30,31,32,33,34,35,36,37] rfl<|jdp 38 (vb false) rfl<|jdc 0 [39] rfl<|
  jde<|jnn (gv (fun _ k=>k) [900,901,902,903,904,905,6] ⟨gk 4,gk 5,gk 6,⟨⟩⟩))<|jdc 17 [12,13,14,15,16,17,18,19,20,21,22] rfl<|jdp 23 (vb false) rfl<|jdc 2 [24,25,26,27,28,29,30,31,32,33,34,35,36,37] rfl<|jdp 38 (vb false) rfl<|
  jdc 0 [39] rfl<|jde<|jnn (gv (fun _ k=>k) [900,901,902,903,904,905,6] ⟨gk 2,gk 3,gk 4,⟨⟩⟩))<|fun s7 _ k=>k<|
  jjn (fun s8 K=>K [(7, sv p14 r7.1 c14), (9, sv p15 r8.1 c15), (11, sv p16 s4.1 c16), (12, vi s4.2), (13, vi s6.1), (14, vi s6.2), (15, vb s8), (91, vi (len r7.1)), (92, vi s4.2), (96, vi (len r8.1)), (97, vi s6.2)] [[], [], [], [], [], [], r_5] [Rl e_Argument p14 c14 r7.1, Rl e_Argument p15 c15 r8.1, Al (eInt .i64) 3 r_5 p16 c16 s4.1]) (
  jsr<|jpc 1 rfl<|jot<|jbk<|
  jlp (fun s9 K=>K [(7, sv p14 r7.1 c14), (9, sv p15 r8.1 c15), (11, sv p16 s4.1 c16), (12, vi s4.2), (13, vi s6.1), (14, vi s6.2), (15, vb s9.1), (16, vi s9.2), (91, vi (len r7.1)), (92, vi s4.2), (96, vi (len r8.1)), (97, vi s6.2)] [[], [], [], [], [], [], r_5] [Rl e_Argument p14 c14 r7.1, Rl e_Argument p15 c15 r8.1, Al (eInt .i64) 3 r_5 p16 c16 s4.1]) (gv (fun _ k=>k) [900,901,902,903,904,905,6] ⟨gk 0,gk 1,gk 2,⟨⟩⟩)<|
  fun s9 _ k=>k<|jsq<|
  jjn (fun s10 K=>K [(7, sv p14 r7.1 c14), (9, sv p15 r8.1 c15), (11, sv p16 s4.1 c16), (12, vi s4.2), (13, vi s6.1), (14, vi s6.2), (15, vb s9.1), (16, vi s9.2), (91, vi (len r7.1)), (92, vi s4.2), (96, vi (len r8.1)), (97, vi s6.2), (149, vb s10)] [[], [], [], [], [], [], r_5] [Rl e_Argument p14 c14 r7.1, Rl e_Argument p15 c15 r8.1, Al (eInt .i64) 3 r_5 p16 c16 s4.1]) (
  jrg<|jpc 2 rfl<|jsg 140 rfl (jpc 3 rfl<|jix 0 rfl rfl rfl<|fun x9 b11 o7=>jfa 2 rfl<|jld false oL (gf (gs (gs (gk 0)))) rfl<|fun p19 c19=>jpc 2 rfl<|jpe (vb (decide (s9.2 < (len x9.2.2.1))))<|joe<|
  jnn (gv (fun _ k=>k) [900,901,902,903,904,905,6] ⟨gk 2,gk 3,gk 4,⟨⟩⟩))<|jpc 8 rfl<|jpe (vb false)<|joe<|jnn (gv (fun _ k=>k) [900,901,902,903,904,905,6] ⟨gk 0,gk 1,gk 2,⟨⟩⟩))<|fun s10 _ k=>k<|jif rfl (jsk<|jtn<|jsq<|jbk<|jdS [] [6] 21<|
  jdc 18 [0,1,2] rfl<|jdi 3 0 rfl rfl rfl rfl<|fun x10 b12 o8=>jdf 4 2 rfl rfl<|jdl 5 false oL rfl (gf (gs (gs (gk 0)))) rfl<|fun p20 c20=>jdc 14 [6] rfl<|jdi 7 0 rfl rfl rfl rfl<|fun x11 b13 o9=>jdl 8 false oI rfl (gk 0) rfl<|
  jdI 9 5 rfl rfl rfl rfl<|fun x12 h3 b14 hp1=>jdL 10 6 5 sI false oI rfl rfl hp1 h3 rfl<|jdc 8 [11,12] rfl<|jdi 13 4 rfl rfl rfl rfl<|fun x13 b15 o10=>jdf 14 2 rfl rfl<|jdl 15 false oL rfl (gf (gs (gs (gk 0)))) rfl<|fun p21 c21=>
  jdc 4 [16] rfl<|jdi 17 0 rfl rfl rfl rfl<|fun x14 b16 o11=>jdl 18 false oI rfl (gk 0) rfl<|jdc 0 [19,20] rfl<|jde<|jbn<|jtn<|jrg<|jpc 3 rfl<|joe<|jln (gv (fun _ k=>k) [900,901,902,903,904,905,6] ⟨gk 6,gk 7,gk 8,⟨⟩⟩))<|jxe<|jte<|jle<|jbh<|
  jnn (gv (fun _ k=>k) [900,901,902,903,904,905,6] ⟨gk 0,gk 1,gk 2,⟨⟩⟩))<|fun s8 _ k=>k<|jsr<|jpc 1 rfl<|jot<|jif rfl (jrg<|jpc 2 rfl<|joe<|jbn<|jtn<|jrg<|jpc 2 rfl<|joe<|jln (gv (fun _ k=>k) [900,901,902,903,904,905,6] ⟨gk 0,gk 1,gk 2,⟨⟩⟩)
  )<|jsk<|jbn<|jtn<|jrg<|jpc 2 rfl<|joe<|jln (gv (fun _ k=>k) [900,901,902,903,904,905,6] ⟨gk 0,gk 1,gk 2,⟨⟩⟩))<|jxe<|jte<|jle<|jbh<|jnn (gv (fun _ k=>k) [900,901,902,903,904,905,6] ⟨gk 0,gk 1,gk 2,⟨⟩⟩))<|fun s5 _ k=>k<|jsq<|jsr<|jpc 2 rfl<|
  jot<|jif rfl (jsr<|jpc 1 rfl<|jot<|jxr<|jtr<|jbr<|jtr<|jlr<|jbr<|jlr<|jr1 rfl rfl (fun _ k=>k) [] ⟨⟩)<|jsk<|jtn<|jrg<|jpc 2 rfl<|jbs .s (e := eInt .i64) 3 [vi s5] ([s5] : List Int) (rC vI rN)<|fun p22 c22=>jar .s 6 3 rfl (gk 0) rfl rfl<|
  fun x15 r_6 p23 c23=>jpc 1 rfl<|joe<|jbn<|jtn<|jrg<|jpc 2 rfl<|joe<|jln (gv (fun _ k=>k p23 c23 r_6) [900,901,902,903,904,905,6] ⟨gk 0,gk 2,gk 3,⟨⟩⟩))<|jxe<|jte<|jle<|jbh<|jln (gv (fun _ k=>k) [900,901,902,903,904,905,906] ⟨gk 1,gk 2,⟨⟩⟩)
  )<|fun s3 _ k=>k<|jjn (fun s11 K=>K [(2, vb s11)] [[], [], [], [], [], [], []] []) (jrg<|jpc 6 rfl<|jsg 187 rfl (jcl c_law07_awake rfl ⟨⟩<|fun r13 _ k=>k<|jpe (vb r13)<|jpc 1 rfl<|joe<|jnn (gv (fun _ k=>k) [900,901,902,903,904,905,906] ⟨⟩)
  )<|jpc 1 rfl<|jpe (vb false)<|jpc 1 rfl<|joe<|jnn (gv (fun _ k=>k) [900,901,902,903,904,905,906] ⟨⟩))<|fun s11 _ k=>k<|jxr<|jr1 rfl rfl (fun _ k=>k) [] ⟨⟩

end Go.Proofs.Yticncidfihdipaa
