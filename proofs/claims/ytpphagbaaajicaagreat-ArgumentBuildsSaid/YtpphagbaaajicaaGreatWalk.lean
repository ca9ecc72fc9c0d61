/- The Go functions compute their models: printed by program (gd3). Conditions: none. -/
import Derived.Test.YtpphagbaaajicaaGreatProg
import Derived.Test.YtpphagbaaajicaaGreatNest
import Derived.Test.YtpphagbaaajicaaGreatModels
import Derived.Test.YtpphagbaaajicaaGreatSort
import Derived.Test.YtpphagbaaajicaaGreatSort2
import Derived.Test.YtpphagbaaajicaaGreatShelfP
namespace Go.Proofs.YtpphagbaaajicaaGreat
open Go Go.GD
set_option autoImplicit false
set_option maxRecDepth 100000
variable {p1 p2 p3 p4 p5 p6 p7 : Option Addr} {c1 c2 c3 c4 c5 c6 c7 : Nat} {b1 b2 : Nat} {r_1 r_2 r_3 : Res}

abbrev e_Literal : E T_Literal := eProd eBool eStr
abbrev o_Literal : Opn e_Literal := (oP oB oS)
abbrev e_Premise : E T_Premise := eProd e_Literal (eProd (eInt .i64) (eProd (eInt .i64) eStr))
abbrev o_Premise : Opn e_Premise := (oP o_Literal (oP oI (oP oI oS)))
abbrev e_Rule : E T_Rule := eProd eStr (eProd eBool (eProd (eInt .i64) (eProd (eSlice e_Literal) e_Literal)))
abbrev o_Rule : Opn e_Rule := (oP oS (oP oB (oP oI (oP oL o_Literal))))
abbrev e_Promotion : E T_Promotion := eProd eStr (eProd (eInt .i64) e_Literal)
abbrev o_Promotion : Opn e_Promotion := (oP oS (oP oI o_Literal))
abbrev e_Base : E T_Base := eProd (eSlice e_Premise) (eProd (eSlice e_Rule) (eSlice e_Promotion))
abbrev o_Base : Opn e_Base := (oP oL (oP oL oL))
abbrev e_keep_Src : E T_keep_Src := eProd (eSlice (eInt .i64)) (eInt .i64)
abbrev o_keep_Src : Opn e_keep_Src := (oP oL oI)
abbrev e_Argument : E T_Argument := eProd (eInt .i64) (eProd (eInt .i64) (eProd (eSlice (eInt .i64)) e_Literal))
abbrev o_Argument : Opn e_Argument := (oP oI (oP oI (oP oL o_Literal)))
abbrev e_argument_builder : E T_argument_builder := eProd e_Base (eProd (eSlice e_Argument) (eProd (eSlice e_Argument) (eInt .i64)))
abbrev o_argument_builder : Opn e_argument_builder := (oP o_Base (oP oL (oP oL oI)))

theorem c_argument_builder_full {qd : Prop} {y0 : T_argument_builder} : Con qd Tryz.prog 22 [pt b1 0] [bx b1 64 [sv p1 y0.1.1 c1, sv p2 y0.1.2.1 c2, sv p3 y0.1.2.2 c3, sv p4 y0.2.1 c4, sv p5 y0.2.2.1 c5, vi y0.2.2.2]] [Rl e_Premise p1 c1 y0.1.1, Rl e_Rule p2 c2 y0.1.2.1, Rl e_Promotion p3 c3 y0.1.2.2, Rl e_Argument p4 c4 y0.2.1, Rl e_Argument p5 c5 y0.2.2.1] (m_argument_builder_full y0) fun r K=>K (vb r) [bx b1 64 [sv p1 y0.1.1 c1, sv p2 y0.1.2.1 c2, sv p3 y0.1.2.2 c3, sv p4 y0.2.1 c4, sv p5 y0.2.2.1 c5, vi y0.2.2.2]] [] :=
 ent3 Tryz.call22 Tryz.func22 rfl fun X=>jsr<|jpc 1 rfl<|jot<|jds [] [0] 13<|jdc 11 [0,1] rfl<|jdf 2 3 rfl rfl<|jdo 3 0 rfl rfl rfl rfl<|jdc 6 [4,5,6] rfl<|jdf 7 4 rfl rfl<|jdo 8 0 rfl rfl rfl rfl<|jdc 0 [9,10,11,12] rfl<|jde<|jtn<|jxr<|jr1 rfl rfl (fun _ k=>k) [0] ⟨⟩

theorem c_argument_inside {qd : Prop} {y0 : List T_Argument} {y1 : Int} : Con qd Tryz.prog 54 [sv p1 y0 c1, vi y1] [] [Rl e_Argument p1 c1 y0] (m_argument_inside y0 y1) fun r K=>K (vb r) [] [] :=
 ent3 Tryz.call54 Tryz.func54 rfl fun X=>jsr<|jpc 1 rfl<|jot<|jjp (fun K=>K [(4, vb ((decide (0 ≤ y1)) && (decide (y1 < (len y0)))))] [] []) (jrg<|jpc 3 rfl<|jsp (b := decide (0 ≤ y1)) 7 rfl (fun hb1=>jpc 4 rfl<|jpe (vb (decide (y1 < (len y0))))<|jpc 1 rfl<|joe<|
  jup 4 (vb ((decide (0 ≤ y1)) && (decide (y1 < (len y0))))) rfl (by rw [hb1]; rfl)<|jnn (gv (fun _ k=>k) [] ⟨⟩))<|fun hb1=>jpc 4 rfl<|jpe (vb false)<|jpc 1 rfl<|joe<|
  jup 4 (vb ((decide (0 ≤ y1)) && (decide (y1 < (len y0))))) rfl (by rw [hb1]; rfl)<|jnn (gv (fun _ k=>k) [] ⟨⟩))<|fun _ k=>k<|jxr<|jr1 rfl rfl (fun _ k=>k) [] ⟨⟩

theorem c_slices_Compact_int {qd : Prop} {y0 : List Int} : Con qd Tryz.prog 56 [sv p1 y0 c1] [r_1] [Al (eInt .i64) 3 r_1 p1 c1 y0] (m_slices_Compact_int y0) fun r K=>∀ p2 c2,K (sv p2 r c2) [[]] [Rl (eInt .i64) p2 c2 r] :=
 ent3 Tryz.call56 Tryz.func56 rfl fun X=>jsr<|jpc 1 rfl<|jot<|jsq<|jsr<|jpc 3 rfl<|jot<|jif rfl (jsr<|jpc 2 rfl<|jot<|jxr<|jtr<|jsh 0 0 rfl rfl<|jr1 rfl rfl (fun _ k=>k p1 c1) [900] ⟨gk 0,⟨⟩⟩)<|jsk<|jtn<|jsq<|jsr<|jpc 1 rfl<|jot<|jbk<|
  jlp (fun s1 K=>K [(0, sv p1 y0 c1), (3, vi s1)] [r_1] [Al (eInt .i64) 3 r_1 p1 c1 y0]) (gv (fun _ k=>k) [0] ⟨gk 0,⟨⟩⟩)<|fun s1 _ k=>k<|jsq<|jsr<|jpc 4 rfl<|jot<|jif rfl (jsk<|jtn<|jsq<|jbk<|jds [] [0] 10<|jdc 8 [0,1] rfl<|
  jdI 2 0 rfl rfl rfl rfl<|fun x1 h1 b1 hp1=>jdL 3 0 0 sI false oI rfl rfl hp1 h1 rfl<|jdc 3 [4,5,6] rfl<|jdI 7 0 rfl rfl rfl rfl<|fun x2 h2 b2 hp2=>jdL 8 0 0 sI false oI rfl rfl hp2 h2 rfl<|jdc 0 [9] rfl<|jde<|jtn<|jif rfl (jsr<|jpc 2 rfl<|
  jsV 0 rfl rfl rfl<|fun u1 p2 c2 f1=>jpc 1 rfl<|jot<|jjn (fun s2 K=>∀ r_2,K [(0, .slice p1 (List.length y0) c1), (3, vi s2.2)] [r_2] [Ar (eInt .i64) 3 r_2 p1 c1 (List.length y0) s2.1]) (jsr<|jpc 1 rfl<|jot<|jbk<|
  jlp (fun s3 K=>∀ r_3,K [(0, .slice p1 (List.length y0) c1), (3, vi s3.2.1), (4, .slice p2 (Int.toNat (((List.length y0 : Nat) : Int) - s1)) c2), (5, vi s3.2.2)] [r_3] [Ar (eInt .i64) 3 r_3 p1 c1 (List.length y0) s3.1]) (gv (fun _ k=>k r_1) [0] ⟨gk 0,⟨⟩⟩)<|
  fun s3 _ k r_3=>k<|jsq<|jsr<|jpc 4 rfl<|jot<|jif rfl (jsk<|jtn<|jsq<|jbk<|jds [] [0] 10<|jdc 8 [0,1] rfl<|jdX 2 0 rfl rfl f1 rfl rfl<|fun x3 b3 hp3 h3=>jdL 3 0 0 sI false oI rfl rfl hp3 h3 rfl<|jdc 3 [4,5,6] rfl<|
  jdX 7 0 rfl rfl f1 rfl rfl<|fun x4 b4 hp4 h4=>jdL 8 0 0 sI false oI rfl rfl hp4 h4 rfl<|jdc 0 [9] rfl<|jde<|jtn<|jif rfl (jsr<|jpc 4 rfl<|jiV 0 rfl f1 rfl rfl<|fun x5 b5 hp5 h5=>jlA 0 0 sI false oI rfl hp5 h5 rfl<|jia 0 rfl rfl rfl<|
  fun x6 h6 b6 hp6=>jsA .s 0 0 sI x5 false rfl hp6 h6 rfl rfl vI<|fun r_4=>jot<|jrg<|jpc 3 rfl<|joe<|jbn<|jtn<|jrg<|jpc 3 rfl<|joe<|jln (gv (fun _ k=>k r_4) [0] ⟨gk 0,⟨⟩⟩))<|jsk<|jbn<|jtn<|jrg<|jpc 3 rfl<|joe<|
  jln (gv (fun _ k=>k r_3) [0] ⟨gk 0,⟨⟩⟩))<|jxe<|jte<|jle<|jbh<|jnn (gv (fun _ k=>k r_3) [0] ⟨gk 0,⟨⟩⟩))<|fun s2 _ k r_2=>k<|jsr<|jpc 2 rfl<|jsV 0 rfl rfl rfl<|fun u2 p3 c3 f2=>jcv .s 0 0 0 (vi 0) rfl f2 rfl vI<|fun r_5=>jot<|jsr<|jpc 2 rfl<|
  jsP 0 rfl rfl rfl<|fun x7=>jpc 1 rfl<|jot<|jxr<|jbr<|jtr<|jlr<|jbr<|jtr<|jsh 0 0 rfl rfl<|jr1 rfl rfl (fun _ k=>k p1 c1) [900] ⟨gk 0,⟨⟩⟩)<|jsk<|jbn<|jtn<|jrg<|jpc 3 rfl<|joe<|jln (gv (fun _ k=>k) [0] ⟨gk 0,⟨⟩⟩))<|jxe<|jte<|jle<|jbh<|jtn<|
  jsr<|jpc 2 rfl<|jot<|jxr<|jsh 0 0 rfl rfl<|jr1 rfl rfl (fun _ k=>k p1 c1) [900] ⟨gk 0,⟨⟩⟩

theorem c_slices_Sort_int {qd : Prop} {y0 : List Int} : Con qd Tryz.prog 55 [sv p1 y0 c1] [r_1] [Al (eInt .i64) 3 r_1 p1 c1 y0] (m_slices_Sort_int y0) fun r K=>∀ r_2,K (.tuple #[]) [r_2] [Ar (eInt .i64) 3 r_2 p1 c1 (List.length y0) r] := ⟨Tryz.call55, fun A w0 r hm hO hF => by
 have h := sort_int (qd := qd) Tryz.sorts55 (te := 3) hO hF.1.1 hm
 change Calls Tryz.prog 55 _ _ _ at h
 refine h.mono fun e w' h => ?_
 cases e with
 | returned v => obtain ⟨r', rfl, h1, h2, h3, h4⟩ := h; exact fun G k => k r' ⟨rfl, h1, h2, ⟨h3, h4.symm⟩, trivial⟩
 | panicked ch => exact h
 | outgrown => exact h⟩

theorem k_argument_Subs_all {qd : Prop} (k : Nat) :
    (∀ {y0 : List T_Argument} {p1 : Option Addr} {c1 : Nat} {y1 : Int}, Con qd Tryz.prog 30 [sv p1 y0 c1, vi y1] [] [Rl e_Argument p1 c1 y0] (k_argument_Subs k y0 y1) fun r K=>∀ p2 c2,K (sv p2 r c2) [] [Rl (eInt .i64) p2 c2 r]) := by
  induction k with
  | zero => exact con0 Tryz.call30
  | succ k ih =>
    have ih_argument_Subs := @ih
    exact @fun y0 p1 c1 y1=>ent3 (m1 := F_argument_Subs (k_argument_Subs k) y0 y1) Tryz.call30 Tryz.func30 rfl fun X=>jsr<|jpc 1 rfl<|jot<|jsq<|jsr<|jpc 2 rfl<|jcl c_argument_inside rfl ⟨ck 0,⟨⟩⟩<|fun r1 _ k=>k<|jpc 1 rfl<|jot<|jif rfl (jsr<|jpc 1 rfl<|jot<|jxr<|jtr<|jr1 rfl rfl (fun _ k=>k none 0) [] ⟨gn,⟨⟩⟩)<|jsk<|jtn<|jsr<|jpc 1 rfl<|
  jbo .s (e := eInt .i64) 3 [vi y1] ([y1] : List Int) (rC vI rN)<|fun r_1 p2 c2=>jpc 1 rfl<|jot<|jjn (fun s1 K=>∀ p3 c3 r_2,K [(5, sv p3 s1 c3)] [r_2] [Al (eInt .i64) 3 r_2 p3 c3 s1]) (jsr<|jpc 2 rfl<|jix 1 rfl rfl rfl<|fun x1 b1 o1=>
  jfa 2 rfl<|jld false oL (gf (gs (gs (gk 0)))) rfl<|fun p4 c4=>jpc 2 rfl<|jot<|jbk<|
  jlp (fun s2 K=>∀ p5 c5 r_3,K [(0, sv p1 y0 c1), (5, sv p5 s2.1 c5), (18, sv p4 x1.2.2.1 c4), (19, vi (len x1.2.2.1)), (20, vi s2.2)] [r_3] [Al (eInt .i64) 3 r_3 p5 c5 s2.1, Rl e_Argument p1 c1 y0, Rl (eInt .i64) p4 c4 x1.2.2.1]) (gv (fun _ k=>k p2 c2 r_1) [0] ⟨gk 2,gk 3,gk 0,⟨⟩⟩)<|
  fun s2 _ k p5 c5 r_3=>k<|jsr<|jpc 1 rfl<|jot<|jsq<|jif rfl (jsk<|jtn<|jsq<|jbk<|jsr<|jix 2 rfl rfl rfl<|fun x2 b2 o2=>jld false oI (gk 0) rfl<|jpc 1 rfl<|jot<|jrg<|jpc 3 rfl<|jcl ih_argument_Subs rfl ⟨ck 2,⟨⟩⟩<|fun r2 _ k p6 c6=>k<|
  jar .s 0 2 rfl (gk 0) rfl rfl<|fun x3 r_4 p7 c7=>jpc 1 rfl<|joe<|jbn<|jtn<|jrg<|jpc 2 rfl<|joe<|jln (gv (fun _ k=>k p7 c7 r_4) [0] ⟨gk 0,gk 4,gk 5,⟨⟩⟩))<|jxe<|jte<|jle<|jbh<|jnn (gv (fun _ k=>k p5 c5 r_3) [0] ⟨gk 0,⟨⟩⟩))<|
  fun s1 _ k p3 c3 r_2=>k<|jsr<|jpc 1 rfl<|jca .s [0] [] c_slices_Sort_int rfl rfl rfl ⟨ck 0,⟨⟩⟩<|fun r3 _ k r_5=>k<|jot<|jsr<|jpc 1 rfl<|jrE 0 32 rfl rfl<|jca .s [0] [] c_slices_Compact_int rfl rfl rfl ⟨ck 0,⟨⟩⟩<|fun r4 _ k p8 c8=>k<|
  jpc 1 rfl<|jot<|jxr<|jr1 rfl rfl (fun _ k=>k p8 c8) [] ⟨gk 0,⟨⟩⟩

theorem c_argument_Subs {qd : Prop} {y0 : List T_Argument} {y1 : Int} : Con qd Tryz.prog 30 [sv p1 y0 c1, vi y1] [] [Rl e_Argument p1 c1 y0] (m_argument_Subs y0 y1) fun r K=>∀ p2 c2,K (sv p2 r c2) [] [Rl (eInt .i64) p2 c2 r] := conLim fun k => (k_argument_Subs_all k)

theorem c_argument_Defeasible {qd : Prop} {y0 : T_Base} {y1 : List T_Argument} {y2 : Int} : Con qd Tryz.prog 71 [.agg #[sv p1 y0.1 c1, sv p2 y0.2.1 c2, sv p3 y0.2.2 c3], sv p4 y1 c4, vi y2] [] [Rl e_Premise p1 c1 y0.1, Rl e_Rule p2 c2 y0.2.1, Rl e_Promotion p3 c3 y0.2.2, Rl e_Argument p4 c4 y1] (m_argument_Defeasible y0 y1 y2) fun r K=>∀ p5 c5,K (sv p5 r c5) [] [Rl (eInt .i64) p5 c5 r] :=
 ent3 Tryz.call71 Tryz.func71 rfl fun X=>jsr<|jbx .s rfl<|fun b1=>jpc 1 rfl<|jot<|jsr<|jpc 1 rfl<|jro (eInt .i64) 3<|jot<|jjn (fun s1 K=>∀ p5 c5 r_1,K [(7, sv p5 s1 c5)] [[], r_1] [Al (eInt .i64) 3 r_1 p5 c5 s1]) (jsr<|jpc 2 rfl<|jcl c_argument_Subs rfl ⟨ck 4,⟨⟩⟩<|
  fun r1 _ k p6 c6=>k<|jpc 2 rfl<|jot<|jbk<|
  jlp (fun s2 K=>∀ p7 c7 r_2,K [(1, sv p4 y1 c4), (3, pt b1 0), (7, sv p7 s2.1 c7), (13, sv p6 r1 c6), (14, vi (len r1)), (15, vi s2.2)] [bx b1 26 [sv p1 y0.1 c1, sv p2 y0.2.1 c2, sv p3 y0.2.2 c3], r_2] [Al (eInt .i64) 3 r_2 p7 c7 s2.1, Rl e_Argument p4 c4 y1, Rl (eInt .i64) p6 c6 r1, Rl e_Premise p1 c1 y0.1, Rl e_Rule p2 c2 y0.2.1, Rl e_Promotion p3 c3 y0.2.2]) (gv (fun _ k=>k none 0 []) [0,1] ⟨gk 1,gk 5,gk 0,gk 2,gk 3,gk 4,⟨⟩⟩)<|
  fun s2 _ k p7 c7 r_2=>k<|jsr<|jpc 1 rfl<|jot<|jsq<|jif rfl (jsk<|jtn<|jsq<|jbk<|jsr<|jix 2 rfl rfl rfl<|fun x1 b2 o1=>jld false oI (gk 0) rfl<|jpc 1 rfl<|jot<|jsr<|jpc 2 rfl<|jix 2 rfl rfl rfl<|fun x2 b3 o2=>jfa 1 rfl<|
  jld false oI (gf (gs (gk 0))) rfl<|jpc 1 rfl<|jot<|
  jjn (fun s3 K=>K [(1, sv p4 y1 c4), (3, pt b1 0), (7, sv p7 s2.1 c7), (10, vi x2.2.1), (13, sv p6 r1 c6), (14, vi (len r1)), (15, vi s2.2), (34, vb s3)] [bx b1 26 [sv p1 y0.1 c1, sv p2 y0.2.1 c2, sv p3 y0.2.2 c3], r_2] [Rl e_Argument p4 c4 y1, Al (eInt .i64) 3 r_2 p7 c7 s2.1, Rl (eInt .i64) p6 c6 r1, Rl e_Premise p1 c1 y0.1, Rl e_Rule p2 c2 y0.2.1, Rl e_Promotion p3 c3 y0.2.2]) (
  jrg<|jpc 3 rfl<|jsg 26 rfl (jfa 1 rfl<|jlo 0 rfl rfl rfl<|jpc 1 rfl<|jix 6 rfl rfl rfl<|fun x3 b4 o3=>jfa 1 rfl<|jld false oB (gf (gs (gk 0))) rfl<|jpc 1 rfl<|jpe (vb (!x3.2.1))<|joe<|
  jnn (gv (fun _ k=>k) [0,1] ⟨gk 4,gk 3,gk 5,gk 6,gk 7,gk 8,⟨⟩⟩))<|jpc 7 rfl<|jpe (vb false)<|joe<|jnn (gv (fun _ k=>k) [0,1] ⟨gk 3,gk 2,gk 4,gk 5,gk 6,gk 7,⟨⟩⟩))<|fun s3 _ k=>k<|jif rfl (jrg<|jpc 2 rfl<|
  jbs .s (e := eInt .i64) 3 [vi x2.2.1] ([x2.2.1] : List Int) (rC vI rN)<|fun p8 c8=>jar .s 1 2 rfl (gk 0) rfl rfl<|fun x4 r_3 p9 c9=>jpc 1 rfl<|joe<|jbn<|jtn<|jrg<|jpc 2 rfl<|joe<|
  jln (gv (fun _ k=>k p9 c9 r_3) [0,1] ⟨gk 0,gk 2,gk 4,gk 5,gk 6,gk 7,⟨⟩⟩))<|jsk<|jbn<|jtn<|jrg<|jpc 2 rfl<|joe<|jln (gv (fun _ k=>k p7 c7 r_2) [0,1] ⟨gk 1,gk 0,gk 2,gk 3,gk 4,gk 5,⟨⟩⟩))<|jxe<|jte<|jle<|jbh<|
  jnn (gv (fun _ k=>k p7 c7 r_2) [900,1] ⟨gk 0,⟨⟩⟩))<|fun s1 _ k p5 c5 r_1=>k<|jsr<|jpc 1 rfl<|jca .s [1] [] c_slices_Sort_int rfl rfl rfl ⟨ck 0,⟨⟩⟩<|fun r2 _ k r_4=>k<|jot<|jsr<|jpc 1 rfl<|jrE 0 42 rfl rfl<|
  jca .s [1] [] c_slices_Compact_int rfl rfl rfl ⟨ck 0,⟨⟩⟩<|fun r3 _ k p10 c10=>k<|jpc 1 rfl<|jot<|jxr<|jr1 rfl rfl (fun _ k=>k p10 c10) [] ⟨gk 0,⟨⟩⟩

theorem k_argument_run_all {qd : Prop} (k : Nat) :
    (∀ {y0 : T_Base} {p1 : Option Addr} {c1 : Nat} {p2 : Option Addr} {c2 : Nat} {p3 : Option Addr} {c3 : Nat} {y1 : List T_Argument} {p4 : Option Addr} {c4 : Nat} {y2 : Int}, Con qd Tryz.prog 69 [.agg #[sv p1 y0.1 c1, sv p2 y0.2.1 c2, sv p3 y0.2.2 c3], sv p4 y1 c4, vi y2] [] [Rl e_Premise p1 c1 y0.1, Rl e_Rule p2 c2 y0.2.1, Rl e_Promotion p3 c3 y0.2.2, Rl e_Argument p4 c4 y1] (k_argument_run k y0 y1 y2) fun r K=>∀ p5 c5,K (sv p5 r c5) [] [Rl e_Literal p5 c5 r]) := by
  induction k with
  | zero => exact con0 Tryz.call69
  | succ k ih =>
    have ih_argument_run := @ih
    exact @fun y0 p1 c1 p2 c2 p3 c3 y1 p4 c4 y2=>ent3 (m1 := F_argument_run (k_argument_run k) y0 y1 y2) Tryz.call69 Tryz.func69 rfl fun X=>jsr<|jbx .s rfl<|fun b1=>jpc 1 rfl<|jot<|jsr<|jpc 2 rfl<|jix 3 rfl rfl rfl<|fun x1 b2 o1=>jfa 3 rfl<|jld true o_Literal (gs (gs (gs (gk 0)))) rfl<|
  jbo .s (e := e_Literal) 42 [vb x1.2.2.2.1, vs x1.2.2.2.2] ([x1.2.2.2] : List T_Literal) (rC (vP vB vS) rN)<|fun r_1 p5 c5=>jpc 1 rfl<|jot<|jsq<|jsr<|jpc 2 rfl<|jix 5 rfl rfl rfl<|fun x2 b3 o2=>jfa 1 rfl<|jld false oI (gf (gs (gk 0))) rfl<|
  jpc 1 rfl<|jot<|
  jjn (fun s1 K=>K [(1, sv p4 y1 c4), (2, vi y2), (3, pt b1 0), (7, sv p5 ([x1.2.2.2] : List T_Literal) c5), (31, vb s1)] [bx b1 26 [sv p1 y0.1 c1, sv p2 y0.2.1 c2, sv p3 y0.2.2 c3], r_1] [Rl e_Argument p4 c4 y1, Al e_Literal 42 r_1 p5 c5 ([x1.2.2.2] : List T_Literal), Rl e_Premise p1 c1 y0.1, Rl e_Rule p2 c2 y0.2.1, Rl e_Promotion p3 c3 y0.2.2]) (
  jrg<|jpc 3 rfl<|jsg 24 rfl (jfa 1 rfl<|jlo 0 rfl rfl rfl<|jpc 1 rfl<|jix 4 rfl rfl rfl<|fun x3 b4 o3=>jfa 1 rfl<|jld false oB (gf (gs (gk 0))) rfl<|jpe (vb x3.2.1)<|joe<|jnn (gv (fun _ k=>k) [0,1] ⟨gk 7,gk 2,gk 4,gk 5,gk 6,⟨⟩⟩))<|
  jpc 6 rfl<|jpe (vb false)<|joe<|jnn (gv (fun _ k=>k) [0,1] ⟨gk 6,gk 1,gk 3,gk 4,gk 5,⟨⟩⟩))<|fun s1 _ k=>k<|jif rfl (jsr<|jpc 2 rfl<|jix 0 rfl rfl rfl<|fun x4 b5 o4=>jfa 2 rfl<|jld false oL (gf (gs (gs (gk 0)))) rfl<|fun p6 c6=>jpc 2 rfl<|
  jot<|jbk<|
  jlp (fun s2 K=>∀ p7 c7 r_2,K [(1, sv p4 y1 c4), (3, pt b1 0), (7, sv p7 s2.1 c7), (36, sv p6 x4.2.2.1 c6), (37, vi (len x4.2.2.1)), (38, vi s2.2)] [bx b1 26 [sv p1 y0.1 c1, sv p2 y0.2.1 c2, sv p3 y0.2.2 c3], r_2] [Al e_Literal 42 r_2 p7 c7 s2.1, Rl e_Argument p4 c4 y1, Rl (eInt .i64) p6 c6 x4.2.2.1, Rl e_Premise p1 c1 y0.1, Rl e_Rule p2 c2 y0.2.1, Rl e_Promotion p3 c3 y0.2.2]) (gv (fun _ k=>k p5 c5 r_1) [0,1] ⟨gk 3,gk 2,gk 0,gk 4,gk 5,gk 6,⟨⟩⟩)<|
  fun s2 _ k p7 c7 r_2=>k<|jsr<|jpc 1 rfl<|jot<|jsq<|jif rfl (jsk<|jtn<|jsq<|jbk<|jsr<|jix 2 rfl rfl rfl<|fun x5 b6 o5=>jld false oI (gk 0) rfl<|jpc 1 rfl<|jot<|jrg<|jpc 1 rfl<|jla 0 3 rfl rfl rfl<|jpc 2 rfl<|
  jcl ih_argument_run rfl ⟨ck 4,ck 5,ck 6,ck 2,⟨⟩⟩<|fun r1 _ k p8 c8=>k<|jar .s 1 2 rfl (gk 0) rfl rfl<|fun x6 r_3 p9 c9=>jpc 1 rfl<|joe<|jbn<|jtn<|jrg<|jpc 2 rfl<|joe<|jln (gv (fun _ k=>k p9 c9 r_3) [0,1] ⟨gk 0,gk 4,gk 5,gk 6,gk 7,gk 8,⟨⟩⟩)
  )<|jxe<|jte<|jle<|jbh<|jtn<|jsr<|jpc 2 rfl<|jot<|jxr<|jsh 1 0 rfl rfl<|jr1 rfl rfl (fun _ k=>k p7 c7) [] ⟨gk 0,⟨⟩⟩)<|jsk<|jtn<|jsr<|jpc 2 rfl<|jot<|jxr<|jsh 1 1 rfl rfl<|jr1 rfl rfl (fun _ k=>k p5 c5) [] ⟨gk 0,⟨⟩⟩

theorem c_argument_run {qd : Prop} {y0 : T_Base} {y1 : List T_Argument} {y2 : Int} : Con qd Tryz.prog 69 [.agg #[sv p1 y0.1 c1, sv p2 y0.2.1 c2, sv p3 y0.2.2 c3], sv p4 y1 c4, vi y2] [] [Rl e_Premise p1 c1 y0.1, Rl e_Rule p2 c2 y0.2.1, Rl e_Promotion p3 c3 y0.2.2, Rl e_Argument p4 c4 y1] (m_argument_run y0 y1 y2) fun r K=>∀ p5 c5,K (sv p5 r c5) [] [Rl e_Literal p5 c5 r] := conLim fun k => (k_argument_run_all k)

theorem c_slices_Index_Literal {qd : Prop} {y0 : List T_Literal} {y1 : T_Literal} : Con qd Tryz.prog 98 [sv p1 y0 c1, .agg #[vb y1.1, vs y1.2]] [] [Rl e_Literal p1 c1 y0] (m_slices_Index_Literal y0 y1) fun r K=>K (vi r) [] [] :=
 ent3 Tryz.call98 Tryz.func98 rfl fun X=>jsr<|jbx .s rfl<|fun b1=>jpc 1 rfl<|jot<|jsq<|jsr<|jpc 3 rfl<|jot<|jbk<|jlp (fun s1 K=>K [(0, sv p1 y0 c1), (3, pt b1 0), (7, vi (len y0)), (8, vi s1)] [bx b1 42 [vb y1.1, vs y1.2]] [Rl e_Literal p1 c1 y0]) (gv (fun _ k=>k) [0] ⟨gk 0,⟨⟩⟩)<|
  fun s1 _ k=>k<|jsr<|jpc 1 rfl<|jot<|jsq<|jif rfl (jsk<|jtn<|jsq<|jbk<|jsr<|jpc 2 rfl<|jot<|jds [] [0] 6<|jda 0 0 2 rfl rfl rfl rfl<|jdc 3 [1,2] rfl<|jdi 3 0 rfl rfl rfl rfl<|fun x1 b2 o1=>jdl 4 true o_Literal rfl (gk 0) rfl<|
  jdp 5 (vb (y1 == x1)) rfl<|jde<|jtn<|jif rfl (jsr<|jpc 2 rfl<|jot<|jxr<|jbr<|jtr<|jlr<|jbr<|jtr<|jr1 rfl rfl (fun _ k=>k) [] ⟨⟩)<|jsk<|jbn<|jtn<|jrg<|jpc 2 rfl<|joe<|jln (gv (fun _ k=>k) [0] ⟨gk 1,⟨⟩⟩))<|jxe<|jte<|jle<|jbh<|jtn<|jsr<|
  jpc 1 rfl<|jot<|jxr<|jr1 rfl rfl (fun _ k=>k) [] ⟨⟩

theorem c_slices_Contains_Literal {qd : Prop} {y0 : List T_Literal} {y1 : T_Literal} : Con qd Tryz.prog 82 [sv p1 y0 c1, .agg #[vb y1.1, vs y1.2]] [] [Rl e_Literal p1 c1 y0] (m_slices_Contains_Literal y0 y1) fun r K=>K (vb r) [] [] :=
 ent3 Tryz.call82 Tryz.func82 rfl fun X=>jsr<|jbx .s rfl<|fun b1=>jpc 1 rfl<|jot<|jsr<|jpc 1 rfl<|jla 0 2 rfl rfl rfl<|jcl c_slices_Index_Literal rfl ⟨ck 0,⟨⟩⟩<|fun r1 _ k=>k<|jpc 2 rfl<|jot<|jxr<|jr1 rfl rfl (fun _ k=>k) [] ⟨⟩

theorem c_literal_Has {qd : Prop} {y0 : List T_Literal} {y1 : T_Literal} : Con qd Tryz.prog 68 [sv p1 y0 c1, .agg #[vb y1.1, vs y1.2]] [] [Rl e_Literal p1 c1 y0] (m_literal_Has y0 y1) fun r K=>K (vb r) [] [] :=
 ent3 Tryz.call68 Tryz.func68 rfl fun X=>jsr<|jbx .s rfl<|fun b1=>jpc 1 rfl<|jot<|jsr<|jpc 1 rfl<|jla 0 2 rfl rfl rfl<|jcl c_slices_Contains_Literal rfl ⟨ck 0,⟨⟩⟩<|fun r1 _ k=>k<|jpc 1 rfl<|jot<|jxr<|jr1 rfl rfl (fun _ k=>k) [] ⟨⟩

theorem c_slices_Index_int {qd : Prop} {y0 : List Int} {y1 : Int} : Con qd Tryz.prog 83 [sv p1 y0 c1, vi y1] [] [Rl (eInt .i64) p1 c1 y0] (m_slices_Index_int y0 y1) fun r K=>K (vi r) [] [] :=
 ent3 Tryz.call83 Tryz.func83 rfl fun X=>jsr<|jpc 1 rfl<|jot<|jsq<|jsr<|jpc 3 rfl<|jot<|jbk<|jlp (fun s1 K=>K [(0, sv p1 y0 c1), (1, vi y1), (7, vi (len y0)), (8, vi s1)] [] [Rl (eInt .i64) p1 c1 y0]) (gv (fun _ k=>k) [] ⟨gk 0,⟨⟩⟩)<|fun s1 _ k=>k<|jsr<|jpc 1 rfl<|jot<|jsq<|
  jif rfl (jsk<|jtn<|jsq<|jbk<|jsr<|jpc 2 rfl<|jot<|jsr<|jpc 3 rfl<|jix 0 rfl rfl rfl<|fun x1 b1 o1=>jld false oI (gk 0) rfl<|jpc 1 rfl<|jot<|jif rfl (jsr<|jpc 2 rfl<|jot<|jxr<|jbr<|jtr<|jlr<|jbr<|jtr<|jr1 rfl rfl (fun _ k=>k) [] ⟨⟩)<|jsk<|
  jbn<|jtn<|jrg<|jpc 2 rfl<|joe<|jln (gv (fun _ k=>k) [] ⟨gk 1,⟨⟩⟩))<|jxe<|jte<|jle<|jbh<|jtn<|jsr<|jpc 1 rfl<|jot<|jxr<|jr1 rfl rfl (fun _ k=>k) [] ⟨⟩

theorem c_slices_Contains_int {qd : Prop} {y0 : List Int} {y1 : Int} : Con qd Tryz.prog 70 [sv p1 y0 c1, vi y1] [] [Rl (eInt .i64) p1 c1 y0] (m_slices_Contains_int y0 y1) fun r K=>K (vb r) [] [] :=
 ent3 Tryz.call70 Tryz.func70 rfl fun X=>jsr<|jpc 1 rfl<|jot<|jsr<|jpc 2 rfl<|jcl c_slices_Index_int rfl ⟨ck 0,⟨⟩⟩<|fun r1 _ k=>k<|jpc 2 rfl<|jot<|jxr<|jr1 rfl rfl (fun _ k=>k) [] ⟨⟩

theorem c_argument_within {qd : Prop} {y0 : T_Base} {y1 : List T_Argument} {y2 : Int} {y3 : List Int} : Con qd Tryz.prog 43 [.agg #[sv p1 y0.1 c1, sv p2 y0.2.1 c2, sv p3 y0.2.2 c3], sv p4 y1 c4, vi y2, sv p5 y3 c5] [] [Rl e_Premise p1 c1 y0.1, Rl e_Rule p2 c2 y0.2.1, Rl e_Promotion p3 c3 y0.2.2, Rl e_Argument p4 c4 y1, Rl (eInt .i64) p5 c5 y3] (m_argument_within y0 y1 y2 y3) fun r K=>K (vb r) [] [] :=
 ent3 Tryz.call43 Tryz.func43 rfl fun X=>jsr<|jbx .s rfl<|fun b1=>jpc 1 rfl<|jot<|jsq<|jsr<|jpc 3 rfl<|jot<|jbk<|
  jlp (fun s1 K=>K [(1, sv p4 y1 c4), (2, vi y2), (4, pt b1 0), (11, sv p5 y3 c5), (12, vi (len y3)), (13, vi s1)] [bx b1 26 [sv p1 y0.1 c1, sv p2 y0.2.1 c2, sv p3 y0.2.2 c3]] [Rl e_Argument p4 c4 y1, Rl (eInt .i64) p5 c5 y3, Rl e_Premise p1 c1 y0.1, Rl e_Rule p2 c2 y0.2.1, Rl e_Promotion p3 c3 y0.2.2]) (gv (fun _ k=>k) [0] ⟨gk 3,gk 4,gk 0,gk 1,gk 2,⟨⟩⟩)<|
  fun s1 _ k=>k<|jsr<|jpc 1 rfl<|jot<|jsq<|jif rfl (jsk<|jtn<|jsq<|jbk<|jsr<|jix 1 rfl rfl rfl<|fun x1 b2 o1=>jld false oI (gk 0) rfl<|jpc 1 rfl<|jot<|jsr<|jfa 1 rfl<|jlo 0 rfl rfl rfl<|jpc 1 rfl<|jix 4 rfl rfl rfl<|fun x2 b3 o2=>jfa 1 rfl<|
  jld false oB (gf (gs (gk 0))) rfl<|jot<|jif rfl (jds [] [0] 11<|jda 0 0 3 rfl rfl rfl rfl<|jdc 8 [1,2] rfl<|jdf 4 1 rfl rfl<|jdo 5 0 rfl rfl rfl rfl<|jdc 5 [6] rfl<|jdi 7 5 rfl rfl rfl rfl<|fun x3 b4 o3=>jdf 8 4 rfl rfl<|
  jdl 9 true o_Literal rfl (gs (gs (gs (gs (gk 0))))) rfl<|jd1 3<|jca (.f rfl) [] [] c_argument_run rfl rfl rfl ⟨ck 5,ck 6,ck 7,ck 3,⟨⟩⟩<|fun r1 _ k p6 c6=>k<|jdn<|jd1 10<|jca (.f rfl) [] [] c_literal_Has rfl rfl rfl ⟨ck 0,⟨⟩⟩<|fun r2 _ k=>
  k<|jdn<|jde<|jtn<|jif rfl (jsr<|jpc 1 rfl<|jot<|jxr<|jbr<|jtr<|jlr<|jbr<|jtr<|jr1 rfl rfl (fun _ k=>k) [] ⟨⟩)<|jsk<|jbn<|jtn<|jrg<|jpc 2 rfl<|joe<|jln (gv (fun _ k=>k) [0] ⟨gk 4,gk 5,gk 6,gk 7,gk 8,⟨⟩⟩))<|jsr<|jla 0 3 rfl rfl rfl<|
  jpc 2 rfl<|jcl c_argument_Defeasible rfl ⟨ck 4,ck 5,ck 6,ck 2,⟨⟩⟩<|fun r3 _ k p7 c7=>k<|jpc 1 rfl<|jcl c_slices_Contains_int rfl ⟨ck 0,⟨⟩⟩<|fun r4 _ k=>k<|jot<|jif rfl (jsr<|jpc 1 rfl<|jot<|jxr<|jbr<|jtr<|jlr<|jbr<|jtr<|
  jr1 rfl rfl (fun _ k=>k) [] ⟨⟩)<|jsk<|jbn<|jtn<|jrg<|jpc 2 rfl<|joe<|jln (gv (fun _ k=>k) [0] ⟨gk 3,gk 4,gk 5,gk 6,gk 7,⟨⟩⟩))<|jxe<|jte<|jle<|jbh<|jtn<|jsr<|jpc 1 rfl<|jot<|jxr<|jr1 rfl rfl (fun _ k=>k) [] ⟨⟩

theorem c_slices_Clone_int {qd : Prop} {y0 : List Int} : Con qd Tryz.prog 40 [sv p1 y0 c1] [] [Rl (eInt .i64) p1 c1 y0] (m_slices_Clone_int y0) fun r K=>∀ p2 c2 r_1,K (sv p2 r c2) [r_1] [Al (eInt .i64) 3 r_1 p2 c2 r] :=
 ent3 Tryz.call40 Tryz.func40 rfl fun X=>jsr<|jpc 1 rfl<|jot<|jsq<|jsr<|jpc 1 rfl<|jv (fun h=>r_nil h rfl Tryz.underlying27)<|jot<|jnl (m1 := some ([] : List Int)) rfl (gk 0) (fun h=>by first|(rw [h];done)|(rw [h];rfl)|(simp [h,app];done)) (jsr<|jpc 1 rfl<|jot<|jxr<|jtr<|
  jro (eInt .i64) 3<|jrE 0 2 rfl rfl<|jr1 rfl rfl (fun _ k=>k none 0 []) [0] ⟨gk 0,⟨⟩⟩)<|jsk<|jtn<|jsr<|jbo .s (e := eInt .i64) 3 [] ([] : List Int) rN<|fun r_1 p2 c2=>jpc 1 rfl<|jar .s 0 0 rfl (gk 1) rfl rfl<|fun x1 r_2 p3 c3=>jpc 1 rfl<|
  jot<|jxr<|jr1 rfl rfl (fun _ k=>k p3 c3 r_2) [0] ⟨gk 0,⟨⟩⟩

theorem c_argument_builder_apply_1 {qd : Prop} {y0 : Int} {y2 : T_argument_builder} : Con qd Tryz.prog 42 [vi y0, pt b1 0] [bx b1 62 [pt b2 0], bx b2 64 [sv p1 y2.1.1 c1, sv p2 y2.1.2.1 c2, sv p3 y2.1.2.2 c3, sv p4 y2.2.1 c4, sv p5 y2.2.2.1 c5, vi y2.2.2.2]] [Rl e_Premise p1 c1 y2.1.1, Rl e_Rule p2 c2 y2.1.2.1, Rl e_Promotion p3 c3 y2.1.2.2, Rl e_Argument p4 c4 y2.2.1, Rl e_Argument p5 c5 y2.2.2.1] (m_argument_builder_apply_1 y0 y2) fun r K=>K (vb r) [bx b1 62 [pt b2 0], bx b2 64 [sv p1 y2.1.1 c1, sv p2 y2.1.2.1 c2, sv p3 y2.1.2.2 c3, sv p4 y2.2.1 c4, sv p5 y2.2.2.1 c5, vi y2.2.2.2]] [] :=
 ent3 Tryz.call42 Tryz.func42 rfl fun X=>jsr<|jpc 1 rfl<|jot<|jsr<|jpc 1 rfl<|jlo 0 rfl rfl rfl<|jpc 1 rfl<|jfa 5 rfl<|jlo 1 rfl rfl rfl<|jpc 2 rfl<|jot<|jxr<|jr1 rfl rfl (fun _ k=>k) [0,1] ⟨⟩

theorem c_slices_IndexFunc_int__argument_builder_apply_1 {qd : Prop} {y0 : List Int} {y2 : T_argument_builder} : Con qd Tryz.prog 67 [sv p1 y0 c1, .func (.func 42) #[] #[pt b1 0]] [bx b1 62 [pt b2 0], bx b2 64 [sv p2 y2.1.1 c2, sv p3 y2.1.2.1 c3, sv p4 y2.1.2.2 c4, sv p5 y2.2.1 c5, sv p6 y2.2.2.1 c6, vi y2.2.2.2]] [Rl (eInt .i64) p1 c1 y0, Rl e_Premise p2 c2 y2.1.1, Rl e_Rule p3 c3 y2.1.2.1, Rl e_Promotion p4 c4 y2.1.2.2, Rl e_Argument p5 c5 y2.2.1, Rl e_Argument p6 c6 y2.2.2.1] (m_slices_IndexFunc_int__argument_builder_apply_1 y0 y2) fun r K=>K (vi r) [bx b1 62 [pt b2 0], bx b2 64 [sv p2 y2.1.1 c2, sv p3 y2.1.2.1 c3, sv p4 y2.1.2.2 c4, sv p5 y2.2.1 c5, sv p6 y2.2.2.1 c6, vi y2.2.2.2]] [] :=
 ent3 Tryz.call67 Tryz.func67 rfl fun X=>jsr<|jpc 1 rfl<|jot<|jsq<|jsr<|jpc 3 rfl<|jot<|jbk<|
  jlp (fun s1 K=>K [(0, sv p1 y0 c1), (1, .func (.func 42) #[] #[pt b1 0]), (7, vi (len y0)), (8, vi s1)] [bx b1 62 [pt b2 0], bx b2 64 [sv p2 y2.1.1 c2, sv p3 y2.1.2.1 c3, sv p4 y2.1.2.2 c4, sv p5 y2.2.1 c5, sv p6 y2.2.2.1 c6, vi y2.2.2.2]] [Rl (eInt .i64) p1 c1 y0, Rl e_Premise p2 c2 y2.1.1, Rl e_Rule p3 c3 y2.1.2.1, Rl e_Promotion p4 c4 y2.1.2.2, Rl e_Argument p5 c5 y2.2.1, Rl e_Argument p6 c6 y2.2.2.1]) (gv (fun _ k=>k) [0,1] ⟨gk 0,gk 1,gk 2,gk 3,gk 4,gk 5,⟨⟩⟩)<|
  fun s1 _ k=>k<|jsr<|jpc 1 rfl<|jot<|jsq<|jif rfl (jsk<|jtn<|jsq<|jbk<|jsr<|jpc 2 rfl<|jot<|jsr<|jpc 3 rfl<|jix 0 rfl rfl rfl<|fun x1 b3 o1=>jld false oI (gk 0) rfl<|
  jca .s [0, 1] [] c_argument_builder_apply_1 rfl rfl rfl ⟨ck 2,ck 3,ck 4,ck 5,ck 6,⟨⟩⟩<|fun r1 _ k=>k<|jot<|jif rfl (jsr<|jpc 2 rfl<|jot<|jxr<|jbr<|jtr<|jlr<|jbr<|jtr<|jr1 rfl rfl (fun _ k=>k) [0,1] ⟨⟩)<|jsk<|jbn<|jtn<|jrg<|jpc 2 rfl<|joe<|
  jln (gv (fun _ k=>k) [0,1] ⟨gk 1,gk 2,gk 3,gk 4,gk 5,gk 6,⟨⟩⟩))<|jxe<|jte<|jle<|jbh<|jtn<|jsr<|jpc 1 rfl<|jot<|jxr<|jr1 rfl rfl (fun _ k=>k) [0,1] ⟨⟩

theorem c_slices_ContainsFunc_int__argument_builder_apply_1 {qd : Prop} {y0 : List Int} {y2 : T_argument_builder} : Con qd Tryz.prog 41 [sv p1 y0 c1, .func (.func 42) #[] #[pt b1 0]] [bx b1 62 [pt b2 0], bx b2 64 [sv p2 y2.1.1 c2, sv p3 y2.1.2.1 c3, sv p4 y2.1.2.2 c4, sv p5 y2.2.1 c5, sv p6 y2.2.2.1 c6, vi y2.2.2.2]] [Rl (eInt .i64) p1 c1 y0, Rl e_Premise p2 c2 y2.1.1, Rl e_Rule p3 c3 y2.1.2.1, Rl e_Promotion p4 c4 y2.1.2.2, Rl e_Argument p5 c5 y2.2.1, Rl e_Argument p6 c6 y2.2.2.1] (m_slices_ContainsFunc_int__argument_builder_apply_1 y0 y2) fun r K=>K (vb r) [bx b1 62 [pt b2 0], bx b2 64 [sv p2 y2.1.1 c2, sv p3 y2.1.2.1 c3, sv p4 y2.1.2.2 c4, sv p5 y2.2.1 c5, sv p6 y2.2.2.1 c6, vi y2.2.2.2]] [] :=
 ent3 Tryz.call41 Tryz.func41 rfl fun X=>jsr<|jpc 1 rfl<|jot<|jsr<|jpc 2 rfl<|jca .s [0, 1] [] c_slices_IndexFunc_int__argument_builder_apply_1 rfl rfl rfl ⟨ck 0,ck 1,ck 2,ck 3,ck 4,ck 5,⟨⟩⟩<|fun r1 _ k=>k<|jpc 2 rfl<|jot<|jxr<|jr1 rfl rfl (fun _ k=>k) [0,1] ⟨⟩

theorem k_argument_builder_apply_2_all {qd : Prop} (k : Nat) :
    (∀ {y0 : T_argument_builder} {b1 : Nat} {p1 : Option Addr} {c1 : Nat} {p2 : Option Addr} {c2 : Nat} {p3 : Option Addr} {c3 : Nat} {p4 : Option Addr} {c4 : Nat} {r_1 : Res} {p5 : Option Addr} {c5 : Nat} {r_2 : Res} {y1 : Int} {y2 : List Int} {p6 : Option Addr} {c6 : Nat}, Con qd Tryz.prog 21 [pt b1 0, vi y1, sv p6 y2 c6] [bx b1 64 [sv p1 y0.1.1 c1, sv p2 y0.1.2.1 c2, sv p3 y0.1.2.2 c3, sv p4 y0.2.1 c4, sv p5 y0.2.2.1 c5, vi y0.2.2.2], r_1, r_2] [Rl e_Premise p1 c1 y0.1.1, Rl e_Rule p2 c2 y0.1.2.1, Rl e_Promotion p3 c3 y0.1.2.2, Al e_Argument 66 r_1 p4 c4 y0.2.1, Al e_Argument 66 r_2 p5 c5 y0.2.2.1, Rl (eInt .i64) p6 c6 y2] (k_argument_builder_apply_2 k y0 y1 y2) fun r K=>∀ p7 c7 r_3,K (.tuple #[]) [bx b1 64 [sv p1 y0.1.1 c1, sv p2 y0.1.2.1 c2, sv p3 y0.1.2.2 c3, sv p4 y0.2.1 c4, sv p7 r c7, vi y0.2.2.2], r_1, r_3] [Al e_Argument 66 r_3 p7 c7 r]) := by
  induction k with
  | zero => exact con0 Tryz.call21
  | succ k ih =>
    have ih_argument_builder_apply_2 := @ih
    exact @fun y0 b1 p1 c1 p2 c2 p3 c3 p4 c4 r_1 p5 c5 r_2 y1 y2 p6 c6=>ent3 (m1 := F_argument_builder_apply_2 (k_argument_builder_apply_2 k) y0 y1 y2) Tryz.call21 Tryz.func21 rfl fun X=>jsr<|jbx .s rfl<|fun b2=>jot<|jsr<|jlo 3 rfl rfl rfl<|jpc 1 rfl<|jfa 0 rfl<|jfa 1 rfl<|jlo 0 rfl rfl rfl<|jpc 1 rfl<|jix 1 rfl rfl rfl<|fun x1 b3 o1=>jfa 3 rfl<|jld false oL (gf (gs (gs (gs (gk 0))))) rfl<|fun p7 c7=>jpc 1 rfl<|jot<|jsq<|
  jsr<|jlo 3 rfl rfl rfl<|jca .s [0] [1, 2] c_argument_builder_full rfl rfl rfl ⟨ck 2,ck 3,ck 4,cl 1 5,cl 2 6,⟨⟩⟩<|fun r1 _ k=>k<|jot<|jif rfl (jxr<|jtr<|jrg' rfl lN (fun _ k=>k p5 c5 r_2) [0,1,2] ⟨gk 6,⟨⟩⟩)<|jsk<|jtn<|
  jjo (fun s1 K=>K [(1, vi y1), (2, sv p6 y2 c6), (3, pt b2 0)] [bx b1 64 [sv p1 y0.1.1 c1, sv p2 y0.1.2.1 c2, sv p3 y0.1.2.2 c3, sv p4 y0.2.1 c4, sv p5 y0.2.2.1 c5, vi y0.2.2.2], r_1, r_2, bx b2 62 [pt b1 0]] [Rl (eInt .i64) p6 c6 y2, Rl e_Premise p1 c1 y0.1.1, Rl e_Rule p2 c2 y0.1.2.1, Rl e_Promotion p3 c3 y0.1.2.2, Al e_Argument 66 r_1 p4 c4 y0.2.1, Al e_Argument 66 r_2 p5 c5 y0.2.2.1]) (
  jsr<|jpc 5 rfl<|jot<|jif rfl (jsq<|jsr<|jlo 3 rfl rfl rfl<|jpc 1 rfl<|jfa 3 rfl<|jlo 0 rfl rfl rfl<|jpc 2 rfl<|jot<|jbk<|
  jlp (fun s2 K=>∀ p8 c8 r_3,K [(1, vi y1), (2, sv p6 y2 c6), (3, pt b2 0), (6, sv p7 x1.2.2.2.1 c7), (28, sv p4 y0.2.1 c4), (29, vi (len y0.2.1)), (30, vi s2.1)] [bx b1 64 [sv p1 y0.1.1 c1, sv p2 y0.1.2.1 c2, sv p3 y0.1.2.2 c3, sv p4 y0.2.1 c4, sv p8 s2.2 c8, vi y0.2.2.2], r_1, r_3, bx b2 62 [pt b1 0]] [Al e_Argument 66 r_3 p8 c8 s2.2, Rl (eInt .i64) p6 c6 y2, Rl e_Literal p7 c7 x1.2.2.2.1, Al e_Argument 66 r_1 p4 c4 y0.2.1, Rl e_Premise p1 c1 y0.1.1, Rl e_Rule p2 c2 y0.1.2.1, Rl e_Promotion p3 c3 y0.1.2.2]) (gv (fun _ k=>k p5 c5 r_2) [0,1,2,3] ⟨gk 6,gk 7,gk 0,gk 5,gk 2,gk 3,gk 4,⟨⟩⟩)<|
  fun s2 _ k p8 c8 r_3=>k<|jsr<|jpc 1 rfl<|jot<|jsq<|jif rfl (jsk<|jtn<|jsq<|jbk<|jsr<|jpc 1 rfl<|jia 3 rfl rfl rfl<|fun x2 h1 b4 hp1=>jlA 1 3 sI true o_Argument rfl hp1 h1 rfl<|fun p9 c9=>
  jal .s (.agg #[vi 0, vi 0, .slice none 0 0, vb false, vs []])<|fun b5=>jpc 1 rfl<|jso .s 4 rfl rfl rfl<|jot<|jds [] [4] 8<|jdf 0 3 rfl rfl<|jda 1 4 2 rfl rfl rfl rfl<|jdc 3 [2,3,4] rfl<|jdi 5 3 rfl rfl rfl rfl<|fun x3 b6 o2=>
  jdl 6 true o_Literal rfl (gk 0) rfl<|jdp 7 (vb (x2.2.2.2 == x3)) rfl<|jde<|jtn<|jif rfl (
  jjc (fun s3 K=>∀ p10 c10 r_4,K [(1, vi y1), (2, sv p6 y2 c6), (3, pt b2 0), (6, sv p7 x1.2.2.2.1 c7), (28, sv p4 y0.2.1 c4), (29, vi (len y0.2.1)), (30, vi s2.1)] [bx b1 64 [sv p1 y0.1.1 c1, sv p2 y0.1.2.1 c2, sv p3 y0.1.2.2 c3, sv p4 y0.2.1 c4, sv p10 s3 c10, vi y0.2.2.2], r_1, r_4, bx b2 62 [pt b1 0], []] [Al e_Argument 66 r_4 p10 c10 s3, Rl (eInt .i64) p6 c6 y2, Rl e_Literal p7 c7 x1.2.2.2.1, Al e_Argument 66 r_1 p4 c4 y0.2.1, Rl e_Premise p1 c1 y0.1.1, Rl e_Rule p2 c2 y0.1.2.1, Rl e_Promotion p3 c3 y0.1.2.2]) (
  jdS [] [3] 8<|jdo 0 3 rfl rfl rfl rfl<|jdc 4 [1,2,4] rfl<|jd2 3 5 (jca (.f rfl) [] [] c_slices_Clone_int rfl rfl rfl ⟨ck 3,⟨⟩⟩<|fun r2 _ k p11 c11 r_5=>k<|jdn<|jd1 5<|
  jbs (.f rfl) (e := eInt .i64) 3 [vi s2.1] ([s2.1] : List Int) (rC vI rN)<|fun p12 c12=>jdn<|jd1 6<|jar (.f rfl) 5 1 rfl (gk 0) rfl rfl<|fun x4 r_6 p13 c13=>jdn<|jsh 5 0 rfl rfl<|jd1 7<|
  jca (.f rfl) [0, 1, 2] [] ih_argument_builder_apply_2 rfl rfl rfl ⟨ck 10,ck 11,ck 12,ck 9,ck 6,ck 0,⟨⟩⟩<|fun r3 _ k p14 c14 r_7=>k<|jdn<|jde<|jnn (gv (fun _ k=>k p14 c14 r_7) [0,1,2,3,904] ⟨gk 0,gk 8,gk 9,gk 10,gk 11,gk 12,gk 13,⟨⟩⟩)) <|
  jbs (.f rfl) (e := eInt .i64) 3 [vi s2.1] ([s2.1] : List Int) (rC vI rN)<|fun p15 c15=>jdn<|jd1 3<|jca (.f rfl) [] [] c_slices_Clone_int rfl rfl rfl ⟨ck 4,⟨⟩⟩<|fun r4 _ k p16 c16 r_8=>k<|jdn<|jd1 6<|jar (.f rfl) 5 0 rfl (gk 1) rfl rfl<|
  fun x5 r_9 p17 c17=>jdn<|jsh 5 0 rfl rfl<|jd1 7<|jca (.f rfl) [0, 1, 2] [] ih_argument_builder_apply_2 rfl rfl rfl ⟨ck 10,ck 11,ck 12,ck 9,ck 6,ck 0,⟨⟩⟩<|fun r5 _ k p18 c18 r_10=>k<|jdn<|jde<|
  jnn (gv (fun _ k=>k p18 c18 r_10) [0,1,2,3,904] ⟨gk 0,gk 8,gk 9,gk 10,gk 11,gk 12,gk 13,⟨⟩⟩))<|fun s3 _ k p10 c10 r_4=>k<|jbn<|jtn<|jrg<|jpc 2 rfl<|joe<|jln (gv (fun _ k=>k p10 c10 r_4) [0,1,2,3] ⟨gk 0,gk 1,gk 2,gk 3,gk 4,gk 5,gk 6,⟨⟩⟩))<|
  jsk<|jbn<|jtn<|jrg<|jpc 2 rfl<|joe<|jln (gv (fun _ k=>k p8 c8 r_3) [0,1,2,3] ⟨gk 2,gk 3,gk 4,gk 5,gk 6,gk 7,gk 8,⟨⟩⟩))<|jxe<|jte<|jle<|jbh<|jtn<|jxr<|jlr<|jrg' rfl lN (fun _ k=>k p8 c8 r_3) [0,1,2] ⟨gk 0,⟨⟩⟩)<|jsk<|
  jln (gv (fun _ k=>k) [0,1,2,3] ⟨gk 7,gk 2,gk 3,gk 4,gk 5,gk 6,⟨⟩⟩))<|fun s1 _ k=>k<|
  jjn (fun s4 K=>K [(1, vi y1), (2, sv p6 y2 c6), (3, pt b2 0), (67, vb s4)] [bx b1 64 [sv p1 y0.1.1 c1, sv p2 y0.1.2.1 c2, sv p3 y0.1.2.2 c3, sv p4 y0.2.1 c4, sv p5 y0.2.2.1 c5, vi y0.2.2.2], r_1, r_2, bx b2 62 [pt b1 0]] [Rl (eInt .i64) p6 c6 y2, Rl e_Premise p1 c1 y0.1.1, Rl e_Rule p2 c2 y0.1.2.1, Rl e_Promotion p3 c3 y0.1.2.2, Al e_Argument 66 r_1 p4 c4 y0.2.1, Al e_Argument 66 r_2 p5 c5 y0.2.2.1]) (
  jdS [2] [0, 3] 16<|jdc 14 [0,1] rfl<|jd1 2<|jca (.f rfl) [3, 0] [1, 2] c_slices_ContainsFunc_int__argument_builder_apply_1 rfl rfl rfl ⟨ck 0,ck 1,ck 2,ck 3,cl 1 4,cl 2 5,⟨⟩⟩<|fun r6 _ k=>k<|jdb [] [0, 3]<|jdc 12 [3] rfl<|jsg 55 rfl (
  jdo 4 3 rfl rfl rfl rfl<|jdc 10 [5] rfl<|jdf 6 0 rfl rfl<|jda 7 0 3 rfl rfl rfl rfl<|jdo 8 3 rfl rfl rfl rfl<|jdc 6 [9] rfl<|jdf 10 3 rfl rfl<|jdo 11 0 rfl rfl rfl rfl<|jdc 2 [12,13] rfl<|jd1 14<|
  jca (.f rfl) [] [1] c_argument_within rfl rfl rfl ⟨ck 1,ck 2,ck 3,cl 1 4,ck 0,⟨⟩⟩<|fun r7 _ k=>k<|jdn<|jdp 15 (vb r7) rfl<|jde<|jnn (gv (fun _ k=>k) [0,1,2,3] ⟨gk 0,gk 1,gk 2,gk 3,gk 4,gk 5,⟨⟩⟩))<|jdc 1 [4,5,6,7,8,9,10,11,12,13,14] rfl<|
  jdp 15 (vb false) rfl<|jde<|jnn (gv (fun _ k=>k) [0,1,2,3] ⟨gk 0,gk 1,gk 2,gk 3,gk 4,gk 5,⟨⟩⟩))<|fun s4 _ k=>k<|jif rfl (jdS [21] [0, 3] 22<|jdo 0 3 rfl rfl rfl rfl<|jdo 1 3 rfl rfl rfl rfl<|jdc 19 [2] rfl<|jdf 3 4 rfl rfl<|
  jdo 4 0 rfl rfl rfl rfl<|jdc 15 [5,6] rfl<|jdo 7 3 rfl rfl rfl rfl<|jdc 13 [8] rfl<|jdf 9 0 rfl rfl<|jdf 10 1 rfl rfl<|jdo 11 0 rfl rfl rfl rfl<|jdc 9 [12] rfl<|jdi 13 2 rfl rfl rfl rfl<|fun x6 b7 o3=>jdf 14 4 rfl rfl<|
  jdl 15 true o_Literal rfl (gs (gs (gs (gs (gk 0))))) rfl<|jdp 16 (.agg #[vi (-1), vi y1, sv p6 y2 c6, vb x6.2.2.2.2.1, vs x6.2.2.2.2.2]) rfl<|jd1 17<|
  jbs (.f rfl) (e := e_Argument) 66 [vi (-1), vi y1, sv p6 y2 c6, vb x6.2.2.2.2.1, vs x6.2.2.2.2.2] ([((-1), y1, y2, x6.2.2.2.2)] : List T_Argument) (rC (vP vI (vP vI (vP (vL (gk 1)) (vP vB vS)))) rN)<|fun p19 c19=>jdn<|jd1 18<|
  jar (.f rfl) 2 7 rfl (gk 0) rfl rfl<|fun x7 r_11 p20 c20=>jdn<|jdc 2 [19] rfl<|jdf 20 4 rfl rfl<|jd1 21<|jso (o := 4) (.f rfl) 0 rfl rfl rfl<|jdb [] [0, 3]<|jde<|jrn<|jrg' rfl lN (fun _ k=>k p20 c20 r_11) [0,1,2] ⟨gk 0,⟨⟩⟩)<|jsk<|jrn<|
  jrg' rfl lN (fun _ k=>k p5 c5 r_2) [0,1,2] ⟨gk 5,⟨⟩⟩

theorem c_argument_builder_apply_2 {qd : Prop} {y0 : T_argument_builder} {y1 : Int} {y2 : List Int} : Con qd Tryz.prog 21 [pt b1 0, vi y1, sv p6 y2 c6] [bx b1 64 [sv p1 y0.1.1 c1, sv p2 y0.1.2.1 c2, sv p3 y0.1.2.2 c3, sv p4 y0.2.1 c4, sv p5 y0.2.2.1 c5, vi y0.2.2.2], r_1, r_2] [Rl e_Premise p1 c1 y0.1.1, Rl e_Rule p2 c2 y0.1.2.1, Rl e_Promotion p3 c3 y0.1.2.2, Al e_Argument 66 r_1 p4 c4 y0.2.1, Al e_Argument 66 r_2 p5 c5 y0.2.2.1, Rl (eInt .i64) p6 c6 y2] (m_argument_builder_apply_2 y0 y1 y2) fun r K=>∀ p7 c7 r_3,K (.tuple #[]) [bx b1 64 [sv p1 y0.1.1 c1, sv p2 y0.1.2.1 c2, sv p3 y0.1.2.2 c3, sv p4 y0.2.1 c4, sv p7 r c7, vi y0.2.2.2], r_1, r_3] [Al e_Argument 66 r_3 p7 c7 r] := conLim fun k => (k_argument_builder_apply_2_all k)

theorem c_rulebase_Find_1 {qd : Prop} {y0 : T_Rule} {y1 : Str} : Con qd Tryz.prog 66 [.agg #[vs y0.1, vb y0.2.1, vi y0.2.2.1, sv p1 y0.2.2.2.1 c1, vb y0.2.2.2.2.1, vs y0.2.2.2.2.2], pt b1 0] [bx b1 9 [vs y1]] [Rl e_Literal p1 c1 y0.2.2.2.1] (m_rulebase_Find_1 y0 y1) fun r K=>K (vb r) [bx b1 9 [vs y1]] [] :=
 ent3 Tryz.call66 Tryz.func66 rfl fun X=>jsr<|jbx .s rfl<|fun b2=>jpc 1 rfl<|jot<|jsr<|jfa 0 rfl<|jlo 1 rfl rfl rfl<|jlo 0 rfl rfl rfl<|jpc 2 rfl<|jot<|jxr<|jr1 rfl rfl (fun _ k=>k) [0] ⟨⟩

theorem c_slices_IndexFunc_Rule__rulebase_Find_1 {qd : Prop} {y0 : List T_Rule} {y1 : Str} : Con qd Tryz.prog 65 [sv p1 y0 c1, .func (.func 66) #[] #[pt b1 0]] [bx b1 9 [vs y1]] [Rl e_Rule p1 c1 y0] (m_slices_IndexFunc_Rule__rulebase_Find_1 y0 y1) fun r K=>K (vi r) [bx b1 9 [vs y1]] [] :=
 ent3 Tryz.call65 Tryz.func65 rfl fun X=>jsr<|jpc 1 rfl<|jot<|jsq<|jsr<|jpc 3 rfl<|jot<|jbk<|jlp (fun s1 K=>K [(0, sv p1 y0 c1), (1, .func (.func 66) #[] #[pt b1 0]), (7, vi (len y0)), (8, vi s1)] [bx b1 9 [vs y1]] [Rl e_Rule p1 c1 y0]) (gv (fun _ k=>k) [0] ⟨gk 0,⟨⟩⟩)<|
  fun s1 _ k=>k<|jsr<|jpc 1 rfl<|jot<|jsq<|jif rfl (jsk<|jtn<|jsq<|jbk<|jsr<|jpc 2 rfl<|jot<|jsr<|jpc 3 rfl<|jix 0 rfl rfl rfl<|fun x1 b2 o1=>jld true o_Rule (gk 0) rfl<|fun p2 c2=>jca .s [0] [] c_rulebase_Find_1 rfl rfl rfl ⟨ck 0,⟨⟩⟩<|
  fun r1 _ k=>k<|jot<|jif rfl (jsr<|jpc 2 rfl<|jot<|jxr<|jbr<|jtr<|jlr<|jbr<|jtr<|jr1 rfl rfl (fun _ k=>k) [0] ⟨⟩)<|jsk<|jbn<|jtn<|jrg<|jpc 2 rfl<|joe<|jln (gv (fun _ k=>k) [0] ⟨gk 2,⟨⟩⟩))<|jxe<|jte<|jle<|jbh<|jtn<|jsr<|jpc 1 rfl<|jot<|jxr<|
  jr1 rfl rfl (fun _ k=>k) [0] ⟨⟩

theorem c_rulebase_Find {qd : Prop} {y0 : T_Base} {y1 : Str} : Con qd Tryz.prog 38 [.agg #[sv p1 y0.1 c1, sv p2 y0.2.1 c2, sv p3 y0.2.2 c3], vs y1] [] [Rl e_Premise p1 c1 y0.1, Rl e_Rule p2 c2 y0.2.1, Rl e_Promotion p3 c3 y0.2.2] (m_rulebase_Find y0 y1) fun r K=>K (vi r) [] [] :=
 ent3 Tryz.call38 Tryz.func38 rfl fun X=>jsr<|jbx .s rfl<|fun b1=>jbx .s rfl<|fun b2=>jpc 1 rfl<|jot<|jsr<|jfa 1 rfl<|jlo 0 rfl rfl rfl<|jpc 1 rfl<|jca .s [1] [] c_slices_IndexFunc_Rule__rulebase_Find_1 rfl rfl rfl ⟨ck 1,⟨⟩⟩<|fun r1 _ k=>k<|jpc 1 rfl<|jot<|jxr<|
  jr1 rfl rfl (fun _ k=>k) [] ⟨⟩

theorem c_rulebase_Premise_1 {qd : Prop} {y0 : T_Premise} {y1 : T_Literal} : Con qd Tryz.prog 62 [.agg #[vb y0.1.1, vs y0.1.2, vi y0.2.1, vi y0.2.2.1, vs y0.2.2.2], pt b1 0] [bx b1 42 [vb y1.1, vs y1.2]] [] (m_rulebase_Premise_1 y0 y1) fun r K=>K (vb r) [bx b1 42 [vb y1.1, vs y1.2]] [] :=
 ent3 Tryz.call62 Tryz.func62 rfl fun X=>jsr<|jbx .s rfl<|fun b2=>jpc 1 rfl<|jot<|jsr<|jfa 0 rfl<|jla 1 2 rfl rfl rfl<|jla 0 2 rfl rfl rfl<|jpe (vb (y0.1 == y1))<|jpc 1 rfl<|jot<|jxr<|jr1 rfl rfl (fun _ k=>k) [0] ⟨⟩

theorem c_slices_IndexFunc_Premise__rulebase_Premise_1 {qd : Prop} {y0 : List T_Premise} {y1 : T_Literal} : Con qd Tryz.prog 61 [sv p1 y0 c1, .func (.func 62) #[] #[pt b1 0]] [bx b1 42 [vb y1.1, vs y1.2]] [Rl e_Premise p1 c1 y0] (m_slices_IndexFunc_Premise__rulebase_Premise_1 y0 y1) fun r K=>K (vi r) [bx b1 42 [vb y1.1, vs y1.2]] [] :=
 ent3 Tryz.call61 Tryz.func61 rfl fun X=>jsr<|jpc 1 rfl<|jot<|jsq<|jsr<|jpc 3 rfl<|jot<|jbk<|
  jlp (fun s1 K=>K [(0, sv p1 y0 c1), (1, .func (.func 62) #[] #[pt b1 0]), (7, vi (len y0)), (8, vi s1)] [bx b1 42 [vb y1.1, vs y1.2]] [Rl e_Premise p1 c1 y0]) (gv (fun _ k=>k) [0] ⟨gk 0,⟨⟩⟩)<|fun s1 _ k=>k<|jsr<|jpc 1 rfl<|jot<|jsq<|
  jif rfl (jsk<|jtn<|jsq<|jbk<|jsr<|jpc 2 rfl<|jot<|jsr<|jpc 3 rfl<|jix 0 rfl rfl rfl<|fun x1 b2 o1=>jld true o_Premise (gk 0) rfl<|jca .s [0] [] c_rulebase_Premise_1 rfl rfl rfl ⟨⟩<|fun r1 _ k=>k<|jot<|jif rfl (jsr<|jpc 2 rfl<|jot<|jxr<|
  jbr<|jtr<|jlr<|jbr<|jtr<|jr1 rfl rfl (fun _ k=>k) [0] ⟨⟩)<|jsk<|jbn<|jtn<|jrg<|jpc 2 rfl<|joe<|jln (gv (fun _ k=>k) [0] ⟨gk 1,⟨⟩⟩))<|jxe<|jte<|jle<|jbh<|jtn<|jsr<|jpc 1 rfl<|jot<|jxr<|jr1 rfl rfl (fun _ k=>k) [0] ⟨⟩

theorem c_rulebase_Premise {qd : Prop} {y0 : T_Base} {y1 : T_Literal} : Con qd Tryz.prog 36 [.agg #[sv p1 y0.1 c1, sv p2 y0.2.1 c2, sv p3 y0.2.2 c3], .agg #[vb y1.1, vs y1.2]] [] [Rl e_Premise p1 c1 y0.1, Rl e_Rule p2 c2 y0.2.1, Rl e_Promotion p3 c3 y0.2.2] (m_rulebase_Premise y0 y1) fun r K=>K (vi r) [] [] :=
 ent3 Tryz.call36 Tryz.func36 rfl fun X=>jsr<|jbx .s rfl<|fun b1=>jbx .s rfl<|fun b2=>jpc 1 rfl<|jot<|jsr<|jfa 0 rfl<|jlo 0 rfl rfl rfl<|jpc 1 rfl<|jca .s [1] [] c_slices_IndexFunc_Premise__rulebase_Premise_1 rfl rfl rfl ⟨ck 0,⟨⟩⟩<|fun r1 _ k=>k<|jpc 1 rfl<|jot<|jxr<|
  jr1 rfl rfl (fun _ k=>k) [] ⟨⟩

theorem c_literal_ValidName {qd : Prop} {y0 : Str} : Con qd Tryz.prog 63 [vs y0] [] [] (m_literal_ValidName y0) fun r K=>K (vb r) [] [] :=
 ent3 Tryz.call63 Tryz.func63 rfl fun X=>jsr<|jpc 1 rfl<|jot<|jsq<|jjp (fun K=>K [(0, vs y0), (12, vb (((len y0) == 0) || (decide (12 < (len y0)))))] [] []) (jrg<|jpc 4 rfl<|jsp (b := (len y0) == 0) 8 rfl (fun hb1=>jpc 3 rfl<|jpe (vb true)<|joe<|
  jup 12 (vb (((len y0) == 0) || (decide (12 < (len y0))))) rfl (by rw [hb1]; rfl)<|jnn (gv (fun _ k=>k) [] ⟨⟩))<|fun hb1=>jpc 3 rfl<|jpe (vb (decide (12 < (len y0))))<|joe<|
  jup 12 (vb (((len y0) == 0) || (decide (12 < (len y0))))) rfl (by rw [hb1]; rfl)<|jnn (gv (fun _ k=>k) [] ⟨⟩))<|fun _ k=>k<|jif rfl (jsr<|jpc 1 rfl<|jot<|jxr<|jtr<|jr1 rfl rfl (fun _ k=>k) [] ⟨⟩)<|jsk<|jtn<|jsq<|jsr<|jpc 3 rfl<|jot<|jbk<|
  jlp (fun s1 K=>K [(0, vs y0), (14, vi (len y0)), (15, vi s1)] [] []) (gv (fun _ k=>k) [] ⟨⟩)<|fun s1 _ k=>k<|jsr<|jpc 1 rfl<|jot<|jsq<|jif rfl (jsk<|jtn<|jsq<|jbk<|jsr<|jpc 2 rfl<|jot<|jsr<|jpc 2 rfl<|jbd fun x1 h1=>
  jv (fun h=>r_sidx h rfl rfl Tryz.underlying9 h1)<|jpc 1 rfl<|jot<|jbk<|jjp (fun K=>K [(0, vs y0), (3, vi s1), (4, .int .u8 x1), (14, vi (len y0)), (15, vi s1), (21, vb ((decide (97 ≤ x1)) && (decide (x1 ≤ 122))))] [] []) (jrg<|jpc 3 rfl<|
  jsp (b := decide (97 ≤ x1)) 24 rfl (fun hb2=>jpc 2 rfl<|jpe (vb (decide (x1 ≤ 122)))<|jpc 1 rfl<|joe<|jup 21 (vb ((decide (97 ≤ x1)) && (decide (x1 ≤ 122)))) rfl (by rw [hb2]; rfl)<|jnn (gv (fun _ k=>k) [] ⟨⟩))<|fun hb2=>jpc 2 rfl<|
  jpe (vb false)<|jpc 1 rfl<|joe<|jup 21 (vb ((decide (97 ≤ x1)) && (decide (x1 ≤ 122)))) rfl (by rw [hb2]; rfl)<|jnn (gv (fun _ k=>k) [] ⟨⟩))<|fun _ k=>k<|jif rfl (jsk<|jbn<|jbn<|jtn<|jrg<|jpc 2 rfl<|joe<|jln (gv (fun _ k=>k) [] ⟨⟩))<|
  jjp (fun K=>K [(0, vs y0), (14, vi (len y0)), (15, vi s1), (28, vb ((decide (0 < s1)) && (if decide (48 ≤ x1) then (decide (x1 ≤ 57)) || (x1 == 95) else x1 == 95)))] [] []) (jrg<|jpc 3 rfl<|jsp (b := decide (0 < s1)) 31 rfl (fun hb3=>
  jpc 3 rfl<|jsp (b := decide (48 ≤ x1)) 34 rfl (fun hb4=>jpc 2 rfl<|jpe (vb (decide (x1 ≤ 57)))<|jpc 1 rfl<|jsp (b := decide (x1 ≤ 57)) 38 rfl (fun hb5=>jpc 2 rfl<|jpe (vb true)<|jpe (vb true)<|jpc 1 rfl<|joe<|
  jup 28 (vb ((decide (0 < s1)) && (if decide (48 ≤ x1) then (decide (x1 ≤ 57)) || (x1 == 95) else x1 == 95))) rfl (by rw [hb3,hb4,hb5]; rfl)<|jnn (gv (fun _ k=>k) [] ⟨⟩))<|fun hb5=>jpc 2 rfl<|jpe (vb (x1 == 95))<|jpe (vb (x1 == 95))<|
  jpc 1 rfl<|joe<|jup 28 (vb ((decide (0 < s1)) && (if decide (48 ≤ x1) then (decide (x1 ≤ 57)) || (x1 == 95) else x1 == 95))) rfl (by rw [hb3,hb4,hb5]; rfl)<|jnn (gv (fun _ k=>k) [] ⟨⟩))<|fun hb4=>jpc 2 rfl<|jpe (vb false)<|jpc 3 rfl<|
  jpe (vb (x1 == 95))<|jpe (vb (x1 == 95))<|jpc 1 rfl<|joe<|jup 28 (vb ((decide (0 < s1)) && (if decide (48 ≤ x1) then (decide (x1 ≤ 57)) || (x1 == 95) else x1 == 95))) rfl (by rw [hb3,hb4]; rfl)<|jnn (gv (fun _ k=>k) [] ⟨⟩))<|fun hb3=>
  jpc 10 rfl<|jpe (vb false)<|jpc 1 rfl<|joe<|jup 28 (vb ((decide (0 < s1)) && (if decide (48 ≤ x1) then (decide (x1 ≤ 57)) || (x1 == 95) else x1 == 95))) rfl (by rw [hb3]; rfl)<|jnn (gv (fun _ k=>k) [] ⟨⟩))<|fun _ k=>k<|jif rfl (jsk<|jbn<|
  jbn<|jtn<|jrg<|jpc 2 rfl<|joe<|jln (gv (fun _ k=>k) [] ⟨⟩))<|jsr<|jpc 1 rfl<|jot<|jxr<|jbr<|jbr<|jtr<|jlr<|jbr<|jtr<|jr1 rfl rfl (fun _ k=>k) [] ⟨⟩)<|jxe<|jte<|jle<|jbh<|jtn<|jsr<|jpc 1 rfl<|jot<|jxr<|jr1 rfl rfl (fun _ k=>k) [] ⟨⟩

theorem c_literal_Valid {qd : Prop} {y0 : T_Literal} : Con qd Tryz.prog 59 [.agg #[vb y0.1, vs y0.2]] [] [] (m_literal_Valid y0) fun r K=>K (vb r) [] [] :=
 ent3 Tryz.call59 Tryz.func59 rfl fun X=>jsr<|jbx .s rfl<|fun b1=>jpc 1 rfl<|jot<|jsr<|jfa 1 rfl<|jlo 0 rfl rfl rfl<|jcl c_literal_ValidName rfl ⟨⟩<|fun r1 _ k=>k<|jpc 1 rfl<|jot<|jxr<|jr1 rfl rfl (fun _ k=>k) [] ⟨⟩

theorem c_rulebase_ranked {qd : Prop} {y0 : Int} : Con qd Tryz.prog 58 [vi y0] [] [] (m_rulebase_ranked y0) fun r K=>K (vb r) [] [] :=
 ent3 Tryz.call58 Tryz.func58 rfl fun X=>jsr<|jpc 1 rfl<|jot<|jjp (fun K=>K [(2, vb ((decide (0 ≤ y0)) && (decide (y0 ≤ 9))))] [] []) (jrg<|jpc 3 rfl<|jsp (b := decide (0 ≤ y0)) 5 rfl (fun hb1=>jpc 2 rfl<|jpe (vb (decide (y0 ≤ 9)))<|jpc 1 rfl<|joe<|
  jup 2 (vb ((decide (0 ≤ y0)) && (decide (y0 ≤ 9)))) rfl (by rw [hb1]; rfl)<|jnn (gv (fun _ k=>k) [] ⟨⟩))<|fun hb1=>jpc 2 rfl<|jpe (vb false)<|jpc 1 rfl<|joe<|jup 2 (vb ((decide (0 ≤ y0)) && (decide (y0 ≤ 9)))) rfl (by rw [hb1]; rfl)<|
  jnn (gv (fun _ k=>k) [] ⟨⟩))<|fun _ k=>k<|jxr<|jr1 rfl rfl (fun _ k=>k) [] ⟨⟩

theorem c_rulebase_sourced {qd : Prop} {y0 : Str} : Con qd Tryz.prog 60 [vs y0] [] [] (m_rulebase_sourced y0) fun r K=>K (vb r) [] [] :=
 ent3 Tryz.call60 Tryz.func60 rfl fun X=>jsr<|jpc 1 rfl<|jot<|jjn (fun s1 K=>K [(2, vb s1)] [] []) (jrg<|jpc 3 rfl<|jsg 5 rfl (jpc 2 rfl<|jpe (vb true)<|jpc 1 rfl<|joe<|jnn (gv (fun _ k=>k) [] ⟨⟩))<|jpc 1 rfl<|jcl c_literal_ValidName rfl ⟨⟩<|fun r1 _ k=>k<|jpe (vb r1)<|jpc 1 rfl<|
  joe<|jnn (gv (fun _ k=>k) [] ⟨⟩))<|fun s1 _ k=>k<|jxr<|jr1 rfl rfl (fun _ k=>k) [] ⟨⟩

theorem c_rulebase_premise {qd : Prop} {y0 : T_Premise} : Con qd Tryz.prog 35 [.agg #[vb y0.1.1, vs y0.1.2, vi y0.2.1, vi y0.2.2.1, vs y0.2.2.2]] [] [] (m_rulebase_premise y0) fun r K=>K (vi r) [] [] :=
 ent3 Tryz.call35 Tryz.func35 rfl fun X=>jsr<|jbx .s rfl<|fun b1=>jpc 1 rfl<|jot<|jjo (fun s1 K=>K [(1, pt b1 0)] [bx b1 44 [vb y0.1.1, vs y0.1.2, vi y0.2.1, vi y0.2.2.1, vs y0.2.2.2]] []) (jsr<|jfa 2 rfl<|jlo 0 rfl rfl rfl<|jot<|jbk<|
  jjn (fun s2 K=>K [(1, pt b1 0), (4, vi y0.2.1), (5, vb s2)] [bx b1 44 [vb y0.1.1, vs y0.1.2, vi y0.2.1, vi y0.2.2.1, vs y0.2.2.2]] []) (jsr<|jpc 2 rfl<|jot<|jif rfl (jsk<|jnn (gv (fun _ k=>k) [0] ⟨⟩))<|jrg<|jpc 2 rfl<|joe<|
  jnn (gv (fun _ k=>k) [0] ⟨⟩))<|fun s2 _ k=>k<|jif rfl (jsr<|jfa 3 rfl<|jlo 0 rfl rfl rfl<|jpc 1 rfl<|jot<|jif rfl (jsr<|jpc 1 rfl<|jot<|jxr<|jbr<|jlr<|jr1 rfl rfl (fun _ k=>k) [] ⟨⟩)<|jsk<|jbn<|jln (gv (fun _ k=>k) [0] ⟨⟩))<|jsr<|
  jpc 2 rfl<|jot<|jif rfl (jsr<|jfa 3 rfl<|jlo 0 rfl rfl rfl<|jcl c_rulebase_ranked rfl ⟨⟩<|fun r1 _ k=>k<|jpc 1 rfl<|jot<|jif rfl (jsr<|jpc 1 rfl<|jot<|jxr<|jbr<|jlr<|jr1 rfl rfl (fun _ k=>k) [] ⟨⟩)<|jsk<|jbn<|jln (gv (fun _ k=>k) [0] ⟨⟩))<|
  jsr<|jpc 1 rfl<|jot<|jxr<|jbr<|jlr<|jr1 rfl rfl (fun _ k=>k) [] ⟨⟩)<|fun s1 _ k=>k<|jsq<|jjn (fun s3 K=>K [(26, vb s3)] [[]] []) (jrg<|jfa 0 rfl<|jla 0 2 rfl rfl rfl<|jcl c_literal_Valid rfl ⟨⟩<|fun r2 _ k=>k<|jpc 2 rfl<|jsg 21 rfl (
  jpc 4 rfl<|jpe (vb true)<|joe<|jnn (gv (fun _ k=>k) [900] ⟨⟩))<|jfa 4 rfl<|jlo 0 rfl rfl rfl<|jcl c_rulebase_sourced rfl ⟨⟩<|fun r3 _ k=>k<|jpc 1 rfl<|jpe (vb (!r3))<|joe<|jnn (gv (fun _ k=>k) [900] ⟨⟩))<|fun s3 _ k=>k<|jif rfl (jsr<|
  jpc 1 rfl<|jot<|jxr<|jtr<|jr1 rfl rfl (fun _ k=>k) [] ⟨⟩)<|jsk<|jtn<|jsr<|jpc 1 rfl<|jot<|jxr<|jr1 rfl rfl (fun _ k=>k) [] ⟨⟩

theorem c_rulebase_promotion {qd : Prop} {y0 : T_Base} {y1 : T_Promotion} : Con qd Tryz.prog 39 [.agg #[sv p1 y0.1 c1, sv p2 y0.2.1 c2, sv p3 y0.2.2 c3], .agg #[vs y1.1, vi y1.2.1, vb y1.2.2.1, vs y1.2.2.2]] [] [Rl e_Premise p1 c1 y0.1, Rl e_Rule p2 c2 y0.2.1, Rl e_Promotion p3 c3 y0.2.2] (m_rulebase_promotion y0 y1) fun r K=>K (vi r) [] [] :=
 ent3 Tryz.call39 Tryz.func39 rfl fun X=>jsr<|jbx .s rfl<|fun b1=>jbx .s rfl<|fun b2=>jpc 1 rfl<|jot<|jsq<|
  jjn (fun s1 K=>K [(2, pt b1 0), (3, pt b2 0), (15, vb s1)] [bx b1 26 [sv p1 y0.1 c1, sv p2 y0.2.1 c2, sv p3 y0.2.2 c3], bx b2 49 [vs y1.1, vi y1.2.1, vb y1.2.2.1, vs y1.2.2.2]] [Rl e_Premise p1 c1 y0.1, Rl e_Rule p2 c2 y0.2.1, Rl e_Promotion p3 c3 y0.2.2]) (
  jrg<|jfa 1 rfl<|jlo 1 rfl rfl rfl<|jcl c_rulebase_ranked rfl ⟨⟩<|fun r1 _ k=>k<|jpc 2 rfl<|jsg 10 rfl (jpc 4 rfl<|jpe (vb true)<|joe<|jnn (gv (fun _ k=>k) [0,1] ⟨gk 0,gk 1,gk 2,⟨⟩⟩))<|jfa 2 rfl<|jla 1 2 rfl rfl rfl<|
  jcl c_literal_Valid rfl ⟨⟩<|fun r2 _ k=>k<|jpc 1 rfl<|jpe (vb (!r2))<|joe<|jnn (gv (fun _ k=>k) [0,1] ⟨gk 0,gk 1,gk 2,⟨⟩⟩))<|fun s1 _ k=>k<|jif rfl (jsr<|jpc 1 rfl<|jot<|jxr<|jtr<|jr1 rfl rfl (fun _ k=>k) [] ⟨⟩)<|jsk<|jtn<|jsq<|jsr<|
  jla 0 3 rfl rfl rfl<|jfa 0 rfl<|jlo 1 rfl rfl rfl<|jcl c_rulebase_Find rfl ⟨ck 0,ck 1,ck 2,⟨⟩⟩<|fun r3 _ k=>k<|jpc 1 rfl<|jot<|jbk<|jsr<|jpc 3 rfl<|jot<|jif rfl (jsr<|jpc 1 rfl<|jot<|jxr<|jbr<|jtr<|jr1 rfl rfl (fun _ k=>k) [] ⟨⟩)<|jsr<|
  jfa 1 rfl<|jlo 0 rfl rfl rfl<|jpc 1 rfl<|jix 1 rfl rfl rfl<|fun x1 b3 o1=>jfa 1 rfl<|jld false oB (gf (gs (gk 0))) rfl<|jpc 1 rfl<|jot<|jif rfl (jsr<|jpc 1 rfl<|jot<|jxr<|jbr<|jtr<|jr1 rfl rfl (fun _ k=>k) [] ⟨⟩)<|jsk<|jbn<|jtn<|jsr<|
  jpc 1 rfl<|jot<|jxr<|jr1 rfl rfl (fun _ k=>k) [] ⟨⟩

theorem c_cmp_isNaN_string {qd : Prop} {y0 : Str} : Con qd Tryz.prog 97 [vs y0] [] [] (m_cmp_isNaN_string y0) fun r K=>K (vb r) [] [] :=
 ent3 Tryz.call97 Tryz.func97 rfl fun X=>jsr<|jpc 1 rfl<|jot<|jsr<|jpc 4 rfl<|jot<|jxr<|jr1 rfl rfl (fun _ k=>k) [] ⟨⟩

theorem c_cmp_Compare_string {qd : Prop} {y0 : Str} {y1 : Str} : Con qd Tryz.prog 81 [vs y0, vs y1] [] [] (m_cmp_Compare_string y0 y1) fun r K=>K (vi r) [] [] :=
 ent3 Tryz.call81 Tryz.func81 rfl fun X=>jsr<|jpc 1 rfl<|jot<|jsr<|jpc 1 rfl<|jcl c_cmp_isNaN_string rfl ⟨⟩<|fun r1 _ k=>k<|jpc 1 rfl<|jot<|jsr<|jpc 1 rfl<|jcl c_cmp_isNaN_string rfl ⟨⟩<|fun r2 _ k=>k<|jpc 1 rfl<|jot<|jsq<|jsr<|jpc 1 rfl<|jot<|jif rfl (jsq<|jsr<|jpc 1 rfl<|jot<|
  jif rfl (jsr<|jpc 1 rfl<|jot<|jxr<|jtr<|jtr<|jr1 rfl rfl (fun _ k=>k) [] ⟨⟩)<|jsk<|jtn<|jsr<|jpc 1 rfl<|jot<|jxr<|jtr<|jr1 rfl rfl (fun _ k=>k) [] ⟨⟩)<|jsk<|jtn<|jsq<|jsr<|jpc 1 rfl<|jot<|jif rfl (jsr<|jpc 1 rfl<|jot<|jxr<|jtr<|
  jr1 rfl rfl (fun _ k=>k) [] ⟨⟩)<|jsk<|jtn<|jsq<|jsr<|jpc 3 rfl<|jot<|jif rfl (jsr<|jpc 1 rfl<|jot<|jxr<|jtr<|jr1 rfl rfl (fun _ k=>k) [] ⟨⟩)<|jsk<|jtn<|jsq<|jsr<|jpc 3 rfl<|jot<|jif rfl (jsr<|jpc 1 rfl<|jot<|jxr<|jtr<|
  jr1 rfl rfl (fun _ k=>k) [] ⟨⟩)<|jsk<|jtn<|jsr<|jpc 1 rfl<|jot<|jxr<|jr1 rfl rfl (fun _ k=>k) [] ⟨⟩

theorem c_literal_Compare {qd : Prop} {y0 : T_Literal} {y1 : T_Literal} : Con qd Tryz.prog 64 [.agg #[vb y0.1, vs y0.2], .agg #[vb y1.1, vs y1.2]] [] [] (m_literal_Compare y0 y1) fun r K=>K (vi r) [] [] :=
 ent3 Tryz.call64 Tryz.func64 rfl fun X=>jsr<|jbx .s rfl<|fun b1=>jbx .s rfl<|fun b2=>jpc 1 rfl<|jot<|jsq<|jsr<|jfa 1 rfl<|jlo 0 rfl rfl rfl<|jfa 1 rfl<|jlo 1 rfl rfl rfl<|jcl c_cmp_Compare_string rfl ⟨⟩<|fun r1 _ k=>k<|jpc 1 rfl<|jot<|
  jjp (fun K=>K [(3, pt b2 0), (5, vi r1), (19, vb ((r1 != 0) || (y0.1 == y1.1)))] [[], bx b2 42 [vb y1.1, vs y1.2]] []) (jrg<|jpc 3 rfl<|jsp (b := r1 != 0) 13 rfl (fun hb1=>jpc 5 rfl<|jpe (vb true)<|joe<|
  jup 19 (vb ((r1 != 0) || (y0.1 == y1.1))) rfl (by rw [hb1]; rfl)<|jnn (gv (fun _ k=>k) [900,1] ⟨⟩))<|fun hb1=>jfa 0 rfl<|jlo 0 rfl rfl rfl<|jfa 0 rfl<|jlo 1 rfl rfl rfl<|jpe (vb (y0.1 == y1.1))<|jpe (vb (y0.1 == y1.1))<|joe<|
  jup 19 (vb ((r1 != 0) || (y0.1 == y1.1))) rfl (by rw [hb1]; rfl)<|jnn (gv (fun _ k=>k) [900,1] ⟨⟩))<|fun _ k=>k<|jif rfl (jsr<|jpc 2 rfl<|jot<|jxr<|jtr<|jr1 rfl rfl (fun _ k=>k) [] ⟨⟩)<|jsk<|jtn<|jsq<|jsr<|jfa 0 rfl<|jlo 1 rfl rfl rfl<|
  jot<|jif rfl (jsr<|jpc 1 rfl<|jot<|jxr<|jtr<|jr1 rfl rfl (fun _ k=>k) [] ⟨⟩)<|jsk<|jtn<|jsr<|jpc 1 rfl<|jot<|jxr<|jr1 rfl rfl (fun _ k=>k) [] ⟨⟩

theorem c_rulebase_rule {qd : Prop} {y0 : T_Rule} : Con qd Tryz.prog 37 [.agg #[vs y0.1, vb y0.2.1, vi y0.2.2.1, sv p1 y0.2.2.2.1 c1, vb y0.2.2.2.2.1, vs y0.2.2.2.2.2]] [] [Rl e_Literal p1 c1 y0.2.2.2.1] (m_rulebase_rule y0) fun r K=>K (vi r) [] [] :=
 ent3 Tryz.call37 Tryz.func37 rfl fun X=>jsr<|jbx .s rfl<|fun b1=>jpc 1 rfl<|jot<|jsq<|jsr<|jfa 3 rfl<|jlo 0 rfl rfl rfl<|jpc 2 rfl<|jot<|jif rfl (jsr<|jpc 1 rfl<|jot<|jxr<|jtr<|jr1 rfl rfl (fun _ k=>k) [] ⟨⟩)<|jsk<|jtn<|jsq<|
  jjn (fun s1 K=>K [(1, pt b1 0), (34, vb s1)] [bx b1 47 [vs y0.1, vb y0.2.1, vi y0.2.2.1, sv p1 y0.2.2.2.1 c1, vb y0.2.2.2.2.1, vs y0.2.2.2.2.2]] [Rl e_Literal p1 c1 y0.2.2.2.1]) (jrg<|jfa 0 rfl<|jlo 0 rfl rfl rfl<|
  jcl c_literal_ValidName rfl ⟨⟩<|fun r1 _ k=>k<|jpc 2 rfl<|jsg 14 rfl (jpc 4 rfl<|jpe (vb true)<|jpc 5 rfl<|jpe (vb true)<|jpc 8 rfl<|jpe (vb true)<|joe<|jnn (gv (fun _ k=>k) [0] ⟨gk 0,⟨⟩⟩))<|jfa 4 rfl<|jla 0 2 rfl rfl rfl<|
  jcl c_literal_Valid rfl ⟨⟩<|fun r2 _ k=>k<|jpc 1 rfl<|jpe (vb (!r2))<|jpc 1 rfl<|jsg 20 rfl (jpc 4 rfl<|jpe (vb true)<|jpc 8 rfl<|jpe (vb true)<|joe<|jnn (gv (fun _ k=>k) [0] ⟨gk 0,⟨⟩⟩))<|jfa 2 rfl<|jlo 0 rfl rfl rfl<|
  jcl c_rulebase_ranked rfl ⟨⟩<|fun r3 _ k=>k<|jpc 1 rfl<|jpe (vb (!r3))<|jpc 1 rfl<|jsg 26 rfl (jpc 7 rfl<|jpe (vb true)<|joe<|jnn (gv (fun _ k=>k) [0] ⟨gk 0,⟨⟩⟩))<|jfa 1 rfl<|jlo 0 rfl rfl rfl<|jpc 1 rfl<|jsg 29 rfl (jfa 2 rfl<|
  jlo 0 rfl rfl rfl<|jpc 1 rfl<|jpe (vb (y0.2.2.1 != 0))<|jpe (vb (y0.2.2.1 != 0))<|joe<|jnn (gv (fun _ k=>k) [0] ⟨gk 0,⟨⟩⟩))<|jpc 3 rfl<|jpe (vb false)<|jpe (vb false)<|joe<|jnn (gv (fun _ k=>k) [0] ⟨gk 0,⟨⟩⟩))<|fun s1 _ k=>k<|jif rfl (jsr<|
  jpc 1 rfl<|jot<|jxr<|jtr<|jr1 rfl rfl (fun _ k=>k) [] ⟨⟩)<|jsk<|jtn<|jjo (fun s2 K=>K [(1, pt b1 0)] [bx b1 47 [vs y0.1, vb y0.2.1, vi y0.2.2.1, sv p1 y0.2.2.2.1 c1, vb y0.2.2.2.2.1, vs y0.2.2.2.2.2]] [Rl e_Literal p1 c1 y0.2.2.2.1]) (jsr<|
  jfa 3 rfl<|jlo 0 rfl rfl rfl<|jpc 2 rfl<|jot<|jbk<|
  jlp (fun s3 K=>K [(1, pt b1 0), (36, sv p1 y0.2.2.2.1 c1), (37, vi (len y0.2.2.2.1)), (38, vi s3)] [bx b1 47 [vs y0.1, vb y0.2.1, vi y0.2.2.1, sv p1 y0.2.2.2.1 c1, vb y0.2.2.2.2.1, vs y0.2.2.2.2.2]] [Rl e_Literal p1 c1 y0.2.2.2.1]) (gv (fun _ k=>k) [0] ⟨gk 0,⟨⟩⟩)<|
  fun s3 _ k=>k<|jsr<|jpc 1 rfl<|jot<|jsq<|jif rfl (jsk<|jtn<|jsq<|jbk<|jsr<|jix 0 rfl rfl rfl<|fun x1 b2 o1=>jld true o_Literal (gk 0) rfl<|jal .s (.agg #[vb false, vs []])<|fun b3=>jso .s 1 rfl rfl rfl<|jot<|jsr<|jla 1 2 rfl rfl rfl<|
  jcl c_literal_Valid rfl ⟨⟩<|fun r4 _ k=>k<|jpc 1 rfl<|jot<|jif rfl (jsr<|jpc 1 rfl<|jot<|jxr<|jbr<|jtr<|jlr<|jbr<|jlr<|jr1 rfl rfl (fun _ k=>k) [] ⟨⟩)<|jsk<|jbn<|jtn<|jrg<|jpc 2 rfl<|joe<|jln (gv (fun _ k=>k) [0] ⟨gk 1,⟨⟩⟩))<|jxe<|jte<|
  jle<|jbh<|jln (gv (fun _ k=>k) [0] ⟨gk 0,⟨⟩⟩))<|fun s2 _ k=>k<|jsq<|jsr<|jpc 1 rfl<|jot<|jbk<|
  jlp (fun s4 K=>K [(1, pt b1 0), (5, vi s4)] [bx b1 47 [vs y0.1, vb y0.2.1, vi y0.2.2.1, sv p1 y0.2.2.2.1 c1, vb y0.2.2.2.2.1, vs y0.2.2.2.2.2]] [Rl e_Literal p1 c1 y0.2.2.2.1]) (gv (fun _ k=>k) [0] ⟨gk 0,⟨⟩⟩)<|fun s4 _ k=>k<|jsq<|jsr<|
  jpc 1 rfl<|jfa 3 rfl<|jlo 0 rfl rfl rfl<|jpc 2 rfl<|jot<|jif rfl (jsk<|jtn<|jsq<|jbk<|jds [] [0] 13<|jdf 0 3 rfl rfl<|jdo 1 0 rfl rfl rfl rfl<|jdc 9 [2,3] rfl<|jdi 4 0 rfl rfl rfl rfl<|fun x2 b4 o2=>jdl 5 true o_Literal rfl (gk 0) rfl<|
  jdf 6 3 rfl rfl<|jdo 7 0 rfl rfl rfl rfl<|jdc 4 [8] rfl<|jdi 9 1 rfl rfl rfl rfl<|fun x3 b5 o3=>jdl 10 true o_Literal rfl (gk 0) rfl<|jd1 11<|jca (.f rfl) [] [] c_literal_Compare rfl rfl rfl ⟨⟩<|fun r5 _ k=>k<|jdn<|jdc 0 [12] rfl<|jde<|
  jtn<|jif rfl (jsr<|jpc 1 rfl<|jot<|jxr<|jbr<|jtr<|jlr<|jbr<|jtr<|jr1 rfl rfl (fun _ k=>k) [] ⟨⟩)<|jsk<|jbn<|jtn<|jrg<|jpc 3 rfl<|joe<|jln (gv (fun _ k=>k) [0] ⟨gk 2,⟨⟩⟩))<|jxe<|jte<|jle<|jbh<|jtn<|jsr<|jpc 1 rfl<|jot<|jxr<|
  jr1 rfl rfl (fun _ k=>k) [] ⟨⟩

theorem c_rulebase_Validate {qd : Prop} {y0 : T_Base} : Con qd Tryz.prog 20 [.agg #[sv p1 y0.1 c1, sv p2 y0.2.1 c2, sv p3 y0.2.2 c3]] [] [Rl e_Premise p1 c1 y0.1, Rl e_Rule p2 c2 y0.2.1, Rl e_Promotion p3 c3 y0.2.2] (m_rulebase_Validate y0) fun r K=>K (vi r) [] [] :=
 ent3 Tryz.call20 Tryz.func20 rfl fun X=>jsr<|jbx .s rfl<|fun b1=>jpc 1 rfl<|jot<|jsq<|
  jjp (fun K=>K [(1, pt b1 0), (27, vb ((decide (16 < (len y0.1))) || ((decide (24 < (len y0.2.1))) || (decide (8 < (len y0.2.2))))))] [bx b1 26 [sv p1 y0.1 c1, sv p2 y0.2.1 c2, sv p3 y0.2.2 c3]] [Rl e_Premise p1 c1 y0.1, Rl e_Rule p2 c2 y0.2.1, Rl e_Promotion p3 c3 y0.2.2]) (
  jrg<|jfa 0 rfl<|jlo 0 rfl rfl rfl<|jpc 3 rfl<|jsp (b := decide (16 < (len y0.1))) 16 rfl (fun hb1=>jpc 4 rfl<|jpe (vb true)<|jpc 5 rfl<|jpe (vb true)<|joe<|
  jup 27 (vb ((decide (16 < (len y0.1))) || ((decide (24 < (len y0.2.1))) || (decide (8 < (len y0.2.2)))))) rfl (by rw [hb1]; rfl)<|jnn (gv (fun _ k=>k) [0] ⟨gk 0,gk 1,gk 2,⟨⟩⟩))<|fun hb1=>jfa 1 rfl<|jlo 0 rfl rfl rfl<|jpc 2 rfl<|
  jpe (vb (decide (24 < (len y0.2.1))))<|jpc 1 rfl<|jsp (b := decide (24 < (len y0.2.1))) 22 rfl (fun hb2=>jpc 4 rfl<|jpe (vb true)<|joe<|
  jup 27 (vb ((decide (16 < (len y0.1))) || ((decide (24 < (len y0.2.1))) || (decide (8 < (len y0.2.2)))))) rfl (by rw [hb1,hb2]; rfl)<|jnn (gv (fun _ k=>k) [0] ⟨gk 0,gk 1,gk 2,⟨⟩⟩))<|fun hb2=>jfa 2 rfl<|jlo 0 rfl rfl rfl<|jpc 2 rfl<|
  jpe (vb (decide (8 < (len y0.2.2))))<|joe<|jup 27 (vb ((decide (16 < (len y0.1))) || ((decide (24 < (len y0.2.1))) || (decide (8 < (len y0.2.2)))))) rfl (by rw [hb1,hb2]; rfl)<|jnn (gv (fun _ k=>k) [0] ⟨gk 0,gk 1,gk 2,⟨⟩⟩))<|fun _ k=>k<|
  jif rfl (jsr<|jpc 1 rfl<|jot<|jxr<|jtr<|jr1 rfl rfl (fun _ k=>k) [] ⟨⟩)<|jsk<|jtn<|
  jjo (fun s1 K=>K [(1, pt b1 0)] [bx b1 26 [sv p1 y0.1 c1, sv p2 y0.2.1 c2, sv p3 y0.2.2 c3]] [Rl e_Premise p1 c1 y0.1, Rl e_Rule p2 c2 y0.2.1, Rl e_Promotion p3 c3 y0.2.2]) (jsr<|jfa 0 rfl<|jlo 0 rfl rfl rfl<|jpc 2 rfl<|jot<|jbk<|
  jlp (fun s2 K=>K [(1, pt b1 0), (29, sv p1 y0.1 c1), (30, vi (len y0.1)), (31, vi s2)] [bx b1 26 [sv p1 y0.1 c1, sv p2 y0.2.1 c2, sv p3 y0.2.2 c3]] [Rl e_Premise p1 c1 y0.1, Rl e_Rule p2 c2 y0.2.1, Rl e_Promotion p3 c3 y0.2.2]) (gv (fun _ k=>k) [0] ⟨gk 0,gk 1,gk 2,⟨⟩⟩)<|
  fun s2 _ k=>k<|jsr<|jpc 1 rfl<|jot<|jsq<|jif rfl (jsk<|jtn<|jsq<|jbk<|jsr<|jpc 1 rfl<|jix 0 rfl rfl rfl<|fun x1 b2 o1=>jld true o_Premise (gk 0) rfl<|jal .s (.agg #[vb false, vs [], vi 0, vi 0, vs []])<|fun b3=>jpc 1 rfl<|
  jso .s 1 rfl rfl rfl<|jot<|jsq<|jsr<|jla 1 5 rfl rfl rfl<|jcl c_rulebase_premise rfl ⟨⟩<|fun r1 _ k=>k<|jpc 1 rfl<|jot<|jsr<|jpc 2 rfl<|jot<|jif rfl (jsr<|jpc 2 rfl<|jot<|jxr<|jtr<|jbr<|jtr<|jlr<|jbr<|jlr<|jr1 rfl rfl (fun _ k=>k) [] ⟨⟩)<|
  jsk<|jtn<|jsr<|jla 0 3 rfl rfl rfl<|jfa 0 rfl<|jla 1 2 rfl rfl rfl<|jcl c_rulebase_Premise rfl ⟨ck 1,ck 2,ck 3,⟨⟩⟩<|fun r2 _ k=>k<|jpc 2 rfl<|jot<|jif rfl (jsr<|jpc 1 rfl<|jot<|jxr<|jbr<|jtr<|jlr<|jbr<|jlr<|jr1 rfl rfl (fun _ k=>k) [] ⟨⟩)<|
  jsk<|jbn<|jtn<|jrg<|jpc 2 rfl<|joe<|jln (gv (fun _ k=>k) [0] ⟨gk 1,gk 2,gk 3,⟨⟩⟩))<|jxe<|jte<|jle<|jbh<|jln (gv (fun _ k=>k) [0] ⟨gk 0,gk 1,gk 2,⟨⟩⟩))<|fun s1 _ k=>k<|
  jjo (fun s3 K=>K [(1, pt b1 0)] [bx b1 26 [sv p1 y0.1 c1, sv p2 y0.2.1 c2, sv p3 y0.2.2 c3]] [Rl e_Premise p1 c1 y0.1, Rl e_Rule p2 c2 y0.2.1, Rl e_Promotion p3 c3 y0.2.2]) (jsr<|jfa 1 rfl<|jlo 0 rfl rfl rfl<|jpc 2 rfl<|jot<|jbk<|
  jlp (fun s4 K=>K [(1, pt b1 0), (49, sv p2 y0.2.1 c2), (50, vi (len y0.2.1)), (51, vi s4)] [bx b1 26 [sv p1 y0.1 c1, sv p2 y0.2.1 c2, sv p3 y0.2.2 c3]] [Rl e_Rule p2 c2 y0.2.1, Rl e_Premise p1 c1 y0.1, Rl e_Promotion p3 c3 y0.2.2]) (gv (fun _ k=>k) [0] ⟨gk 1,gk 0,gk 2,⟨⟩⟩)<|
  fun s4 _ k=>k<|jsr<|jpc 1 rfl<|jot<|jsq<|jif rfl (jsk<|jtn<|jsq<|jbk<|jsr<|jpc 1 rfl<|jix 0 rfl rfl rfl<|fun x2 b4 o2=>jld true o_Rule (gk 0) rfl<|fun p4 c4=>jal .s (.agg #[vs [], vb false, vi 0, .slice none 0 0, vb false, vs []])<|fun b5=>
  jpc 1 rfl<|jso .s 1 rfl rfl rfl<|jot<|jsq<|jsr<|jla 1 6 rfl rfl rfl<|jcl c_rulebase_rule rfl ⟨ck 0,⟨⟩⟩<|fun r3 _ k=>k<|jpc 1 rfl<|jot<|jsr<|jpc 2 rfl<|jot<|jif rfl (jsr<|jpc 2 rfl<|jot<|jxr<|jtr<|jbr<|jtr<|jlr<|jbr<|jlr<|
  jr1 rfl rfl (fun _ k=>k) [] ⟨⟩)<|jsk<|jtn<|jsr<|jla 0 3 rfl rfl rfl<|jfa 0 rfl<|jlo 1 rfl rfl rfl<|jcl c_rulebase_Find rfl ⟨ck 3,ck 2,ck 4,⟨⟩⟩<|fun r4 _ k=>k<|jpc 2 rfl<|jot<|jif rfl (jsr<|jpc 1 rfl<|jot<|jxr<|jbr<|jtr<|jlr<|jbr<|jlr<|
  jr1 rfl rfl (fun _ k=>k) [] ⟨⟩)<|jsk<|jbn<|jtn<|jrg<|jpc 2 rfl<|joe<|jln (gv (fun _ k=>k) [0] ⟨gk 2,gk 3,gk 4,⟨⟩⟩))<|jxe<|jte<|jle<|jbh<|jln (gv (fun _ k=>k) [0] ⟨gk 1,gk 0,gk 2,⟨⟩⟩))<|fun s3 _ k=>k<|jsq<|jsr<|jfa 2 rfl<|jlo 0 rfl rfl rfl<|
  jpc 2 rfl<|jot<|jbk<|
  jlp (fun s5 K=>K [(1, pt b1 0), (69, sv p3 y0.2.2 c3), (70, vi (len y0.2.2)), (71, vi s5)] [bx b1 26 [sv p1 y0.1 c1, sv p2 y0.2.1 c2, sv p3 y0.2.2 c3]] [Rl e_Promotion p3 c3 y0.2.2, Rl e_Premise p1 c1 y0.1, Rl e_Rule p2 c2 y0.2.1]) (gv (fun _ k=>k) [0] ⟨gk 2,gk 0,gk 1,⟨⟩⟩)<|
  fun s5 _ k=>k<|jsr<|jpc 1 rfl<|jot<|jsq<|jif rfl (jsk<|jtn<|jsq<|jbk<|jsr<|jix 0 rfl rfl rfl<|fun x3 b6 o3=>jld true o_Promotion (gk 0) rfl<|jal .s (.agg #[vs [], vi 0, vb false, vs []])<|fun b7=>jso .s 1 rfl rfl rfl<|jot<|jsr<|
  jla 0 3 rfl rfl rfl<|jla 1 4 rfl rfl rfl<|jcl c_rulebase_promotion rfl ⟨ck 2,ck 3,ck 1,⟨⟩⟩<|fun r5 _ k=>k<|jpc 1 rfl<|jot<|jsr<|jpc 2 rfl<|jot<|jif rfl (jsr<|jpc 2 rfl<|jot<|jxr<|jbr<|jtr<|jlr<|jbr<|jtr<|jr1 rfl rfl (fun _ k=>k) [] ⟨⟩)<|
  jsk<|jbn<|jtn<|jrg<|jpc 2 rfl<|joe<|jln (gv (fun _ k=>k) [0] ⟨gk 1,gk 2,gk 3,⟨⟩⟩))<|jxe<|jte<|jle<|jbh<|jtn<|jsr<|jpc 1 rfl<|jot<|jxr<|jr1 rfl rfl (fun _ k=>k) [] ⟨⟩

theorem c_argument_Build {qd : Prop} {y0 : T_Base} : Con qd Tryz.prog 8 [.agg #[sv p1 y0.1 c1, sv p2 y0.2.1 c2, sv p3 y0.2.2 c3]] [] [Rl e_Premise p1 c1 y0.1, Rl e_Rule p2 c2 y0.2.1, Rl e_Promotion p3 c3 y0.2.2] (m_argument_Build y0) fun r K=>∀ p4 c4,K (.tuple #[sv p4 r.1 c4, vi r.2]) [] [Rl e_Argument p4 c4 r.1] :=
 ent3 Tryz.call8 Tryz.func8 rfl fun X=>jsr<|jbx .s rfl<|fun b1=>jpc 2 rfl<|jot<|jcs<|jsq<|jsr<|jla 0 3 rfl rfl rfl<|jcl c_rulebase_Validate rfl ⟨ck 0,ck 1,ck 2,⟨⟩⟩<|fun r1 _ k=>k<|jpc 1 rfl<|jot<|jsr<|jpc 2 rfl<|jot<|jif rfl (jsr<|jpc 3 rfl<|jot<|jxr<|jtr<|jcr<|
  jrg' rfl (lT rfl (lT rfl lN)) (fun _ k=>k none 0) [] ⟨gn,⟨⟩⟩)<|jsk<|jtn<|jsr<|jla 0 3 rfl rfl rfl<|jpe (.agg #[sv p1 y0.1 c1, sv p2 y0.2.1 c2, sv p3 y0.2.2 c3, .slice none 0 0, .slice none 0 0, vi 0])<|jro e_Argument 66<|jbx .s rfl<|
  fun b2=>jpc 1 rfl<|jot<|
  jjn (fun s1 K=>∀ p4 c4 r_1,K [(1, pt b1 0), (5, pt b2 0)] [bx b1 26 [sv p1 y0.1 c1, sv p2 y0.2.1 c2, sv p3 y0.2.2 c3], r_1, bx b2 64 [sv p1 y0.1 c1, sv p2 y0.2.1 c2, sv p3 y0.2.2 c3, sv p4 s1 c4, .slice none 0 0, vi 0]] [Al e_Argument 66 r_1 p4 c4 s1, Rl e_Premise p1 c1 y0.1, Rl e_Rule p2 c2 y0.2.1, Rl e_Promotion p3 c3 y0.2.2]) (
  jsr<|jfa 0 rfl<|jlo 0 rfl rfl rfl<|jpc 2 rfl<|jot<|jbk<|
  jlp (fun s2 K=>∀ p5 c5 r_2,K [(1, pt b1 0), (5, pt b2 0), (20, sv p1 y0.1 c1), (21, vi (len y0.1)), (22, vi s2.1)] [bx b1 26 [sv p1 y0.1 c1, sv p2 y0.2.1 c2, sv p3 y0.2.2 c3], r_2, bx b2 64 [sv p1 y0.1 c1, sv p2 y0.2.1 c2, sv p3 y0.2.2 c3, sv p5 s2.2 c5, .slice none 0 0, vi 0]] [Al e_Argument 66 r_2 p5 c5 s2.2, Rl e_Premise p1 c1 y0.1, Rl e_Rule p2 c2 y0.2.1, Rl e_Promotion p3 c3 y0.2.2]) (gv (fun _ k=>k none 0 []) [0,1,2] ⟨gk 0,gk 1,gk 2,gk 3,⟨⟩⟩)<|
  fun s2 _ k p5 c5 r_2=>k<|jsr<|jpc 1 rfl<|jot<|jsq<|jif rfl (jsk<|jtn<|jsq<|jbk<|jsr<|jpc 1 rfl<|jix 1 rfl rfl rfl<|fun x1 b3 o1=>jld true o_Premise (gk 0) rfl<|jal .s (.agg #[vb false, vs [], vi 0, vi 0, vs []])<|fun b4=>jpc 1 rfl<|
  jso .s 3 rfl rfl rfl<|jot<|jdS [13] [2, 3] 14<|jdc 11 [0,1,2] rfl<|jdf 3 3 rfl rfl<|jdo 4 2 rfl rfl rfl rfl<|jdc 8 [5] rfl<|jdf 6 0 rfl rfl<|jda 7 3 2 rfl rfl rfl rfl<|
  jdp 8 (.agg #[vi s2.1, vi (-1), .slice none 0 0, vb x1.1.1, vs x1.1.2]) rfl<|jd1 9<|
  jbs (.f rfl) (e := e_Argument) 66 [vi s2.1, vi (-1), .slice none 0 0, vb x1.1.1, vs x1.1.2] ([(s2.1, (-1), ([] : List Int), x1.1)] : List T_Argument) (rC (vP vI (vP vI (vP (vL gn) (vP vB vS)))) rN)<|fun p6 c6=>jdn<|jd1 10<|
  jar (.f rfl) 1 2 rfl (gk 0) rfl rfl<|fun x2 r_3 p7 c7=>jdn<|jdc 2 [11] rfl<|jdf 12 3 rfl rfl<|jd1 13<|jso (o := 3) (.f rfl) 2 rfl rfl rfl<|jdb [] [2, 3]<|jde<|jbn<|jtn<|jrg<|jpc 2 rfl<|joe<|
  jln (gv (fun _ k=>k p7 c7 r_3) [0,1,2] ⟨gk 0,gk 4,gk 5,gk 6,⟨⟩⟩))<|jxe<|jte<|jle<|jbh<|jnn (gv (fun _ k=>k p5 c5 r_2) [0,1,2] ⟨gk 0,gk 1,gk 2,gk 3,⟨⟩⟩))<|fun s1 _ k p4 c4 r_1=>k<|jsq<|jlb<|jtn<|
  jjn (fun s3 K=>∀ p8 c8 r_4 p9 c9 r_5,K [(5, pt b2 0)] [[], r_4, bx b2 64 [sv p1 y0.1 c1, sv p2 y0.2.1 c2, sv p3 y0.2.2 c3, sv p8 s3.1 c8, sv p9 s3.2.1 c9, vi s3.2.2], r_5] [Al e_Argument 66 r_4 p8 c8 s3.1, Al e_Argument 66 r_5 p9 c9 s3.2.1, Rl e_Premise p1 c1 y0.1, Rl e_Rule p2 c2 y0.2.1, Rl e_Promotion p3 c3 y0.2.2]) (
  jsr<|jpc 1 rfl<|jot<|jbk<|
  jlp (fun s4 K=>∀ p10 c10 r_6 p11 c11,K [(1, pt b1 0), (5, pt b2 0), (8, vi s4.1)] [bx b1 26 [sv p1 y0.1 c1, sv p2 y0.2.1 c2, sv p3 y0.2.2 c3], r_6, bx b2 64 [sv p1 y0.1 c1, sv p2 y0.2.1 c2, sv p3 y0.2.2 c3, sv p10 s4.2.1 c10, sv p11 s4.2.2.1 c11, vi s4.2.2.2]] [Al e_Argument 66 r_6 p10 c10 s4.2.1, Rl e_Argument p11 c11 s4.2.2.1, Rl e_Premise p1 c1 y0.1, Rl e_Rule p2 c2 y0.2.1, Rl e_Promotion p3 c3 y0.2.2]) (gv (fun _ k=>k p4 c4 r_1 none 0) [0,1,2] ⟨gk 0,gn,gk 1,gk 2,gk 3,⟨⟩⟩)<|
  fun s4 _ k p10 c10 r_6 p11 c11=>k<|jsq<|jbk<|jsr<|jpc 2 rfl<|jfa 4 rfl<|jro e_Argument 66<|jso .s 2 rfl rfl rfl<|jot<|
  jjo (fun s5 K=>∀ p12 c12 r_7,K [(1, pt b1 0), (5, pt b2 0), (8, vi s4.1)] [bx b1 26 [sv p1 y0.1 c1, sv p2 y0.2.1 c2, sv p3 y0.2.2 c3], r_6, bx b2 64 [sv p1 y0.1 c1, sv p2 y0.2.1 c2, sv p3 y0.2.2 c3, sv p10 s4.2.1 c10, sv p12 s5 c12, vi s4.2.2.2], r_7] [Al e_Argument 66 r_7 p12 c12 s5, Rl e_Premise p1 c1 y0.1, Rl e_Rule p2 c2 y0.2.1, Rl e_Promotion p3 c3 y0.2.2, Al e_Argument 66 r_6 p10 c10 s4.2.1]) (
  jsr<|jfa 1 rfl<|jlo 0 rfl rfl rfl<|jpc 2 rfl<|jot<|jbk<|
  jlp (fun s6 K=>∀ p13 c13 r_8,K [(1, pt b1 0), (5, pt b2 0), (8, vi s4.1), (47, sv p2 y0.2.1 c2), (48, vi (len y0.2.1)), (49, vi s6.1)] [bx b1 26 [sv p1 y0.1 c1, sv p2 y0.2.1 c2, sv p3 y0.2.2 c3], r_6, bx b2 64 [sv p1 y0.1 c1, sv p2 y0.2.1 c2, sv p3 y0.2.2 c3, sv p10 s4.2.1 c10, sv p13 s6.2 c13, vi s4.2.2.2], r_8] [Al e_Argument 66 r_8 p13 c13 s6.2, Rl e_Rule p2 c2 y0.2.1, Rl e_Premise p1 c1 y0.1, Rl e_Promotion p3 c3 y0.2.2, Al e_Argument 66 r_6 p10 c10 s4.2.1]) (gv (fun _ k=>k none 0 []) [0,1,2,3] ⟨gk 0,gk 4,gk 3,gk 5,gk 1,⟨⟩⟩)<|
  fun s6 _ k p13 c13 r_8=>k<|jsr<|jpc 1 rfl<|jot<|jsq<|jif rfl (jsk<|jtn<|jsq<|jbk<|jsr<|jpc 1 rfl<|jix 1 rfl rfl rfl<|fun x3 b5 o2=>jld true o_Rule (gk 0) rfl<|fun p14 c14=>
  jal .s (.agg #[vs [], vb false, vi 0, .slice none 0 0, vb false, vs []])<|fun b6=>jpc 1 rfl<|jso .s 4 rfl rfl rfl<|jot<|
  jjn (fun s7 K=>∀ p15 c15 r_9,K [(1, pt b1 0), (5, pt b2 0), (8, vi s4.1), (47, sv p2 y0.2.1 c2), (48, vi (len y0.2.1)), (49, vi s6.1)] [bx b1 26 [sv p1 y0.1 c1, sv p2 y0.2.1 c2, sv p3 y0.2.2 c3], r_6, bx b2 64 [sv p1 y0.1 c1, sv p2 y0.2.1 c2, sv p3 y0.2.2 c3, sv p10 s4.2.1 c10, sv p15 s7 c15, vi s4.2.2.2], r_9, []] [Al e_Argument 66 r_9 p15 c15 s7, Rl e_Rule p2 c2 y0.2.1, Rl e_Premise p1 c1 y0.1, Rl e_Promotion p3 c3 y0.2.2, Al e_Argument 66 r_6 p10 c10 s4.2.1]) (
  jsr<|jfa 3 rfl<|jlo 4 rfl rfl rfl<|jpc 2 rfl<|jot<|jif rfl (jrg<|jpc 2 rfl<|jca .s [2, 1, 3] [] c_argument_builder_apply_2 rfl rfl rfl ⟨ck 4,ck 3,ck 5,ck 6,ck 2,cn,⟨⟩⟩<|fun r2 _ k p16 c16 r_10=>k<|joe<|
  jnn (gv (fun _ k=>k p16 c16 r_10) [0,1,2,3,904] ⟨gk 0,gk 4,gk 5,gk 6,gk 7,⟨⟩⟩))<|jsr<|jpc 2 rfl<|jot<|jif rfl (jdS [13] [2, 4] 14<|jdc 11 [0,1,2] rfl<|jdf 3 4 rfl rfl<|jdo 4 2 rfl rfl rfl rfl<|jdc 8 [5] rfl<|jdf 6 4 rfl rfl<|
  jda 7 4 2 rfl rfl rfl rfl<|jdp 8 (.agg #[vi (-1), vi s6.1, .slice none 0 0, vb x3.2.2.2.2.1, vs x3.2.2.2.2.2]) rfl<|jd1 9<|
  jbs (.f rfl) (e := e_Argument) 66 [vi (-1), vi s6.1, .slice none 0 0, vb x3.2.2.2.2.1, vs x3.2.2.2.2.2] ([((-1), s6.1, ([] : List Int), x3.2.2.2.2)] : List T_Argument) (rC (vP vI (vP vI (vP (vL gn) (vP vB vS)))) rN)<|fun p17 c17=>jdn<|
  jd1 10<|jar (.f rfl) 3 3 rfl (gk 0) rfl rfl<|fun x4 r_11 p18 c18=>jdn<|jdc 2 [11] rfl<|jdf 12 4 rfl rfl<|jd1 13<|jso (o := 4) (.f rfl) 2 rfl rfl rfl<|jdb [] [2, 4]<|jde<|
  jnn (gv (fun _ k=>k p18 c18 r_11) [0,1,2,3,904] ⟨gk 0,gk 5,gk 6,gk 7,gk 8,⟨⟩⟩))<|jsk<|jnn (gv (fun _ k=>k p13 c13 r_8) [0,1,2,3,904] ⟨gk 2,gk 3,gk 4,gk 5,gk 6,⟨⟩⟩))<|fun s7 _ k p15 c15 r_9=>k<|jsr<|jpc 1 rfl<|
  jca .s [2] [1, 3] c_argument_builder_full rfl rfl rfl ⟨ck 2,ck 1,ck 3,cl 1 4,cl 3 0,⟨⟩⟩<|fun r3 _ k=>k<|jot<|jif rfl (jxe<|jbm<|jte<|jle<|jbm<|jle<|jbm<|jte<|jle<|jbh<|
  jnn (gv (fun _ k=>k p10 c10 r_6 p15 c15 r_9) [900,1,2,3] ⟨gk 4,gk 0,gk 2,gk 1,gk 3,⟨⟩⟩))<|jsk<|jbn<|jtn<|jrg<|jpc 2 rfl<|joe<|jln (gv (fun _ k=>k p15 c15 r_9) [0,1,2,3] ⟨gk 0,gk 1,gk 2,gk 3,gk 4,⟨⟩⟩))<|jxe<|jte<|jle<|jbh<|
  jln (gv (fun _ k=>k p13 c13 r_8) [0,1,2,3] ⟨gk 0,gk 2,gk 1,gk 3,gk 4,⟨⟩⟩))<|fun s5 _ k p12 c12 r_7=>k<|jsq<|jsr<|jpc 2 rfl<|jfa 4 rfl<|jlo 2 rfl rfl rfl<|jpc 2 rfl<|jot<|jif rfl (jxe<|jte<|jbm<|jte<|jle<|jbh<|
  jnn (gv (fun _ k=>k p10 c10 r_6 p12 c12 r_7) [900,1,2,3] ⟨gk 4,gk 0,gk 1,gk 2,gk 3,⟨⟩⟩))<|jsk<|jtn<|jsr<|jpc 3 rfl<|jfa 3 rfl<|jlo 2 rfl rfl rfl<|jpc 2 rfl<|jfa 5 rfl<|jso .s 2 rfl rfl rfl<|jot<|jdS [12] [2] 13<|jdc 10 [0,1,2] rfl<|
  jdf 3 3 rfl rfl<|jdo 4 2 rfl rfl rfl rfl<|jdc 6 [5,6] rfl<|jdf 7 4 rfl rfl<|jdo 8 2 rfl rfl rfl rfl<|jd1 9<|jao (.f rfl) 1 3 4 0 rfl rfl rfl rfl<|fun x5 r_12 p19 c19=>jdn<|jdc 2 [10] rfl<|jdf 11 3 rfl rfl<|jd1 12<|
  jso (o := 3) (.f rfl) 2 rfl rfl rfl<|jdb [] [2]<|jde<|jbn<|jtn<|jrg<|jpc 3 rfl<|joe<|jsh 3 1 rfl rfl<|jln (gv (fun _ k=>k p19 c19 r_12 p12 c12) [0,1,2] ⟨gk 1,gk 0,gk 3,gk 4,gk 5,⟨⟩⟩))<|fun s3 _ k p8 c8 r_4 p9 c9 r_5=>k<|jsq<|jsr<|
  jpc 1 rfl<|jca .s [2] [1, 3] c_argument_builder_full rfl rfl rfl ⟨ck 2,ck 3,ck 4,cl 1 0,cl 3 1,⟨⟩⟩<|fun r4 _ k=>k<|jot<|jif rfl (jsr<|jpc 2 rfl<|jot<|jxr<|jtr<|jcr<|jrg' rfl (lT rfl (lT rfl lN)) (fun _ k=>k none 0) [] ⟨gn,⟨⟩⟩)<|jsk<|jtn<|
  jsr<|jpc 2 rfl<|jfa 3 rfl<|jlo 2 rfl rfl rfl<|jpc 2 rfl<|jot<|jxr<|jcr<|jsh 1 0 rfl rfl<|jrg' rfl (lT rfl (lT rfl lN)) (fun _ k=>k p8 c8) [] ⟨gk 0,⟨⟩⟩

theorem c_keep_New {qd : Prop} {y0 : List Int} : Con qd Tryz.prog 5 [sv p1 y0 c1] [] [Rl (eInt .i64) p1 c1 y0] (m_keep_New y0) fun r K=>∀ b1 p2 c2,K (pt b1 0) [bx b1 51 [sv p2 r.1 c2, vi r.2]] [Rl (eInt .i64) p2 c2 r.1] :=
 ent3 Tryz.call5 Tryz.func5 rfl fun X=>jsr<|jpc 1 rfl<|jot<|jsr<|jpc 4 rfl<|jsl (gk 0) rfl rfl rfl (.inl ⟨rfl, rfl⟩) (.inr ⟨_, rfl⟩)<|fun x1 p2 c2=>jpe (.agg #[sv p2 x1 c2, vi 0])<|jbx .s rfl<|fun b1=>jpc 1 rfl<|jot<|jxr<|jr1 rfl rfl (fun _ k=>k b1 p2 c2) [0] ⟨gk 0,⟨⟩⟩

theorem c_keep_SmallBase {qd : Prop} {y0 : T_Base} : Con qd Tryz.prog 4 [.agg #[sv p1 y0.1 c1, sv p2 y0.2.1 c2, sv p3 y0.2.2 c3]] [] [Rl e_Premise p1 c1 y0.1, Rl e_Rule p2 c2 y0.2.1, Rl e_Promotion p3 c3 y0.2.2] (m_keep_SmallBase y0) fun r K=>K (vb r) [] [] :=
 ent3 Tryz.call4 Tryz.func4 rfl fun X=>jsr<|jbx .s rfl<|fun b1=>jpc 1 rfl<|jot<|jsq<|
  jjp (fun K=>K [(1, pt b1 0), (26, vb ((decide (30 < (len y0.1))) || ((decide (30 < (len y0.2.1))) || (decide (20 < (len y0.2.2))))))] [bx b1 26 [sv p1 y0.1 c1, sv p2 y0.2.1 c2, sv p3 y0.2.2 c3]] [Rl e_Premise p1 c1 y0.1, Rl e_Rule p2 c2 y0.2.1, Rl e_Promotion p3 c3 y0.2.2]) (
  jrg<|jfa 0 rfl<|jlo 0 rfl rfl rfl<|jpc 3 rfl<|jsp (b := decide (30 < (len y0.1))) 15 rfl (fun hb1=>jpc 4 rfl<|jpe (vb true)<|jpc 5 rfl<|jpe (vb true)<|joe<|
  jup 26 (vb ((decide (30 < (len y0.1))) || ((decide (30 < (len y0.2.1))) || (decide (20 < (len y0.2.2)))))) rfl (by rw [hb1]; rfl)<|jnn (gv (fun _ k=>k) [0] ⟨gk 0,gk 1,gk 2,⟨⟩⟩))<|fun hb1=>jfa 1 rfl<|jlo 0 rfl rfl rfl<|jpc 2 rfl<|
  jpe (vb (decide (30 < (len y0.2.1))))<|jpc 1 rfl<|jsp (b := decide (30 < (len y0.2.1))) 21 rfl (fun hb2=>jpc 4 rfl<|jpe (vb true)<|joe<|
  jup 26 (vb ((decide (30 < (len y0.1))) || ((decide (30 < (len y0.2.1))) || (decide (20 < (len y0.2.2)))))) rfl (by rw [hb1,hb2]; rfl)<|jnn (gv (fun _ k=>k) [0] ⟨gk 0,gk 1,gk 2,⟨⟩⟩))<|fun hb2=>jfa 2 rfl<|jlo 0 rfl rfl rfl<|jpc 2 rfl<|
  jpe (vb (decide (20 < (len y0.2.2))))<|joe<|jup 26 (vb ((decide (30 < (len y0.1))) || ((decide (30 < (len y0.2.1))) || (decide (20 < (len y0.2.2)))))) rfl (by rw [hb1,hb2]; rfl)<|jnn (gv (fun _ k=>k) [0] ⟨gk 0,gk 1,gk 2,⟨⟩⟩))<|fun _ k=>k<|
  jif rfl (jsr<|jpc 1 rfl<|jot<|jxr<|jtr<|jr1 rfl rfl (fun _ k=>k) [] ⟨⟩)<|jsk<|jtn<|
  jjo (fun s1 K=>K [(1, pt b1 0)] [bx b1 26 [sv p1 y0.1 c1, sv p2 y0.2.1 c2, sv p3 y0.2.2 c3]] [Rl e_Premise p1 c1 y0.1, Rl e_Rule p2 c2 y0.2.1, Rl e_Promotion p3 c3 y0.2.2]) (jsr<|jfa 0 rfl<|jlo 0 rfl rfl rfl<|jpc 2 rfl<|jot<|jbk<|
  jlp (fun s2 K=>K [(1, pt b1 0), (28, sv p1 y0.1 c1), (29, vi (len y0.1)), (30, vi s2)] [bx b1 26 [sv p1 y0.1 c1, sv p2 y0.2.1 c2, sv p3 y0.2.2 c3]] [Rl e_Premise p1 c1 y0.1, Rl e_Rule p2 c2 y0.2.1, Rl e_Promotion p3 c3 y0.2.2]) (gv (fun _ k=>k) [0] ⟨gk 0,gk 1,gk 2,⟨⟩⟩)<|
  fun s2 _ k=>k<|jsr<|jpc 1 rfl<|jot<|jsq<|jif rfl (jsk<|jtn<|jsq<|jbk<|jsr<|jix 0 rfl rfl rfl<|fun x1 b2 o1=>jld true o_Premise (gk 0) rfl<|jal .s (.agg #[vb false, vs [], vi 0, vi 0, vs []])<|fun b3=>jso .s 1 rfl rfl rfl<|jot<|
  jjp (fun K=>K [(1, pt b1 0), (28, sv p1 y0.1 c1), (29, vi (len y0.1)), (30, vi s2), (44, vb ((decide (50 < (len x1.1.2))) || (decide (50 < (len x1.2.2.2)))))] [bx b1 26 [sv p1 y0.1 c1, sv p2 y0.2.1 c2, sv p3 y0.2.2 c3], []] [Rl e_Premise p1 c1 y0.1, Rl e_Rule p2 c2 y0.2.1, Rl e_Promotion p3 c3 y0.2.2]) (
  jrg<|jfa 0 rfl<|jfa 1 rfl<|jlo 1 rfl rfl rfl<|jpc 3 rfl<|jsp (b := decide (50 < (len x1.1.2))) 39 rfl (fun hb3=>jpc 4 rfl<|jpe (vb true)<|joe<|
  jup 44 (vb ((decide (50 < (len x1.1.2))) || (decide (50 < (len x1.2.2.2))))) rfl (by rw [hb3]; rfl)<|jnn (gv (fun _ k=>k) [0,901] ⟨gk 1,gk 2,gk 3,⟨⟩⟩))<|fun hb3=>jfa 4 rfl<|jlo 1 rfl rfl rfl<|jpc 2 rfl<|
  jpe (vb (decide (50 < (len x1.2.2.2))))<|joe<|jup 44 (vb ((decide (50 < (len x1.1.2))) || (decide (50 < (len x1.2.2.2))))) rfl (by rw [hb3]; rfl)<|jnn (gv (fun _ k=>k) [0,901] ⟨gk 1,gk 2,gk 3,⟨⟩⟩))<|fun _ k=>k<|jif rfl (jsr<|jpc 1 rfl<|
  jot<|jxr<|jbr<|jtr<|jlr<|jbr<|jlr<|jr1 rfl rfl (fun _ k=>k) [] ⟨⟩)<|jsk<|jbn<|jtn<|jrg<|jpc 2 rfl<|joe<|jln (gv (fun _ k=>k) [0] ⟨gk 0,gk 1,gk 2,⟨⟩⟩))<|jxe<|jte<|jle<|jbh<|jln (gv (fun _ k=>k) [0] ⟨gk 0,gk 1,gk 2,⟨⟩⟩))<|fun s1 _ k=>k<|
  jjo (fun s3 K=>K [(1, pt b1 0)] [bx b1 26 [sv p1 y0.1 c1, sv p2 y0.2.1 c2, sv p3 y0.2.2 c3]] [Rl e_Premise p1 c1 y0.1, Rl e_Rule p2 c2 y0.2.1, Rl e_Promotion p3 c3 y0.2.2]) (jsr<|jfa 1 rfl<|jlo 0 rfl rfl rfl<|jpc 2 rfl<|jot<|jbk<|
  jlp (fun s4 K=>K [(1, pt b1 0), (47, sv p2 y0.2.1 c2), (48, vi (len y0.2.1)), (49, vi s4)] [bx b1 26 [sv p1 y0.1 c1, sv p2 y0.2.1 c2, sv p3 y0.2.2 c3]] [Rl e_Rule p2 c2 y0.2.1, Rl e_Premise p1 c1 y0.1, Rl e_Promotion p3 c3 y0.2.2]) (gv (fun _ k=>k) [0] ⟨gk 1,gk 0,gk 2,⟨⟩⟩)<|
  fun s4 _ k=>k<|jsr<|jpc 1 rfl<|jot<|jsq<|jif rfl (jsk<|jtn<|jsq<|jbk<|jsr<|jix 0 rfl rfl rfl<|fun x2 b4 o2=>jld true o_Rule (gk 0) rfl<|fun p4 c4=>jal .s (.agg #[vs [], vb false, vi 0, .slice none 0 0, vb false, vs []])<|fun b5=>
  jso .s 1 rfl rfl rfl<|jot<|jsq<|
  jjp (fun K=>K [(1, pt b1 0), (6, pt b5 0), (47, sv p2 y0.2.1 c2), (48, vi (len y0.2.1)), (49, vi s4), (69, vb ((decide (8 < (len x2.2.2.2.1))) || ((decide (50 < (len x2.1))) || (decide (50 < (len x2.2.2.2.2.2))))))] [bx b1 26 [sv p1 y0.1 c1, sv p2 y0.2.1 c2, sv p3 y0.2.2 c3], bx b5 47 [vs x2.1, vb x2.2.1, vi x2.2.2.1, sv p4 x2.2.2.2.1 c4, vb x2.2.2.2.2.1, vs x2.2.2.2.2.2]] [Rl e_Rule p2 c2 y0.2.1, Rl e_Premise p1 c1 y0.1, Rl e_Promotion p3 c3 y0.2.2, Rl e_Literal p4 c4 x2.2.2.2.1]) (
  jrg<|jfa 3 rfl<|jlo 1 rfl rfl rfl<|jpc 3 rfl<|jsp (b := decide (8 < (len x2.2.2.2.1))) 57 rfl (fun hb4=>jpc 4 rfl<|jpe (vb true)<|jpc 6 rfl<|jpe (vb true)<|joe<|
  jup 69 (vb ((decide (8 < (len x2.2.2.2.1))) || ((decide (50 < (len x2.1))) || (decide (50 < (len x2.2.2.2.2.2)))))) rfl (by rw [hb4]; rfl)<|jnn (gv (fun _ k=>k) [0,1] ⟨gk 2,gk 3,gk 4,gk 0,⟨⟩⟩))<|fun hb4=>jfa 0 rfl<|jlo 1 rfl rfl rfl<|
  jpc 2 rfl<|jpe (vb (decide (50 < (len x2.1))))<|jpc 1 rfl<|jsp (b := decide (50 < (len x2.1))) 63 rfl (fun hb5=>jpc 5 rfl<|jpe (vb true)<|joe<|
  jup 69 (vb ((decide (8 < (len x2.2.2.2.1))) || ((decide (50 < (len x2.1))) || (decide (50 < (len x2.2.2.2.2.2)))))) rfl (by rw [hb4,hb5]; rfl)<|jnn (gv (fun _ k=>k) [0,1] ⟨gk 2,gk 3,gk 4,gk 0,⟨⟩⟩))<|fun hb5=>jfa 4 rfl<|jfa 1 rfl<|
  jlo 1 rfl rfl rfl<|jpc 2 rfl<|jpe (vb (decide (50 < (len x2.2.2.2.2.2))))<|joe<|jup 69 (vb ((decide (8 < (len x2.2.2.2.1))) || ((decide (50 < (len x2.1))) || (decide (50 < (len x2.2.2.2.2.2)))))) rfl (by rw [hb4,hb5]; rfl)<|
  jnn (gv (fun _ k=>k) [0,1] ⟨gk 2,gk 3,gk 4,gk 0,⟨⟩⟩))<|fun _ k=>k<|jif rfl (jsr<|jpc 1 rfl<|jot<|jxr<|jtr<|jbr<|jtr<|jlr<|jbr<|jlr<|jr1 rfl rfl (fun _ k=>k) [] ⟨⟩)<|jsk<|jtn<|jsr<|jfa 3 rfl<|jlo 1 rfl rfl rfl<|jpc 2 rfl<|jot<|jbk<|
  jlp (fun s5 K=>K [(1, pt b1 0), (47, sv p2 y0.2.1 c2), (48, vi (len y0.2.1)), (49, vi s4), (71, sv p4 x2.2.2.2.1 c4), (72, vi (len x2.2.2.2.1)), (73, vi s5)] [bx b1 26 [sv p1 y0.1 c1, sv p2 y0.2.1 c2, sv p3 y0.2.2 c3], []] [Rl e_Rule p2 c2 y0.2.1, Rl e_Literal p4 c4 x2.2.2.2.1, Rl e_Premise p1 c1 y0.1, Rl e_Promotion p3 c3 y0.2.2]) (gv (fun _ k=>k) [0,901] ⟨gk 0,gk 3,gk 1,gk 2,⟨⟩⟩)<|
  fun s5 _ k=>k<|jsr<|jpc 1 rfl<|jot<|jsq<|jif rfl (jsk<|jtn<|jsq<|jbk<|jsr<|jix 1 rfl rfl rfl<|fun x3 b6 o3=>jld true o_Literal (gk 0) rfl<|jal .s (.agg #[vb false, vs []])<|fun b7=>jso .s 2 rfl rfl rfl<|jot<|jsr<|jfa 1 rfl<|
  jlo 2 rfl rfl rfl<|jpc 2 rfl<|jot<|jif rfl (jsr<|jpc 1 rfl<|jot<|jxr<|jbr<|jtr<|jlr<|jbr<|jbr<|jtr<|jlr<|jbr<|jlr<|jr1 rfl rfl (fun _ k=>k) [] ⟨⟩)<|jsk<|jbn<|jtn<|jrg<|jpc 2 rfl<|joe<|jln (gv (fun _ k=>k) [0,901] ⟨gk 1,gk 2,gk 3,gk 4,⟨⟩⟩)
  )<|jxe<|jte<|jle<|jbh<|jbn<|jtn<|jrg<|jpc 2 rfl<|joe<|jln (gv (fun _ k=>k) [0] ⟨gk 0,gk 2,gk 3,⟨⟩⟩))<|jxe<|jte<|jle<|jbh<|jln (gv (fun _ k=>k) [0] ⟨gk 1,gk 0,gk 2,⟨⟩⟩))<|fun s3 _ k=>k<|jsq<|jsr<|jfa 2 rfl<|jlo 0 rfl rfl rfl<|jpc 2 rfl<|
  jot<|jbk<|jlp (fun s6 K=>K [(84, sv p3 y0.2.2 c3), (85, vi (len y0.2.2)), (86, vi s6)] [[]] [Rl e_Promotion p3 c3 y0.2.2]) (gv (fun _ k=>k) [900] ⟨gk 2,⟨⟩⟩)<|fun s6 _ k=>k<|jsr<|jpc 1 rfl<|jot<|jsq<|jif rfl (jsk<|jtn<|jsq<|jbk<|jsr<|
  jix 0 rfl rfl rfl<|fun x4 b8 o4=>jld true o_Promotion (gk 0) rfl<|jal .s (.agg #[vs [], vi 0, vb false, vs []])<|fun b9=>jso .s 1 rfl rfl rfl<|jot<|
  jjp (fun K=>K [(84, sv p3 y0.2.2 c3), (85, vi (len y0.2.2)), (86, vi s6), (100, vb ((decide (50 < (len x4.1))) || (decide (50 < (len x4.2.2.2)))))] [[], []] [Rl e_Promotion p3 c3 y0.2.2]) (jrg<|jfa 0 rfl<|jlo 1 rfl rfl rfl<|jpc 3 rfl<|
  jsp (b := decide (50 < (len x4.1))) 94 rfl (fun hb6=>jpc 5 rfl<|jpe (vb true)<|joe<|jup 100 (vb ((decide (50 < (len x4.1))) || (decide (50 < (len x4.2.2.2))))) rfl (by rw [hb6]; rfl)<|jnn (gv (fun _ k=>k) [900,901] ⟨gk 1,⟨⟩⟩))<|fun hb6=>
  jfa 2 rfl<|jfa 1 rfl<|jlo 1 rfl rfl rfl<|jpc 2 rfl<|jpe (vb (decide (50 < (len x4.2.2.2))))<|joe<|jup 100 (vb ((decide (50 < (len x4.1))) || (decide (50 < (len x4.2.2.2))))) rfl (by rw [hb6]; rfl)<|jnn (gv (fun _ k=>k) [900,901] ⟨gk 1,⟨⟩⟩)
  )<|fun _ k=>k<|jif rfl (jsr<|jpc 1 rfl<|jot<|jxr<|jbr<|jtr<|jlr<|jbr<|jtr<|jr1 rfl rfl (fun _ k=>k) [] ⟨⟩)<|jsk<|jbn<|jtn<|jrg<|jpc 2 rfl<|joe<|jln (gv (fun _ k=>k) [900] ⟨gk 0,⟨⟩⟩))<|jxe<|jte<|jle<|jbh<|jtn<|jsr<|jpc 1 rfl<|jot<|jxr<|
  jr1 rfl rfl (fun _ k=>k) [] ⟨⟩

theorem c_keep_Mod {qd : Prop} {y0 : Int} {y1 : Int} : Con qd Tryz.prog 33 [vi y0, vi y1] [] [] (m_keep_Mod y0 y1) fun r K=>K (vi r) [] [] :=
 ent3 Tryz.call33 Tryz.func33 rfl fun X=>jsr<|jpc 1 rfl<|jot<|jsq<|jsr<|jpc 2 rfl<|jot<|jif rfl (jsr<|jpc 1 rfl<|jot<|jxr<|jtr<|jr1 rfl rfl (fun _ k=>k) [] ⟨⟩)<|jsk<|jtn<|jsr<|jpc 2 rfl<|jbd fun x1 h1=>jv (fun h=>r_remK h rfl rfl h1)<|jpc 1 rfl<|jot<|jsq<|jsr<|jpc 2 rfl<|jot<|
  jif rfl (jrg<|jpc 4 rfl<|joe<|jtn<|jsr<|jpc 2 rfl<|jot<|jxr<|jr1 rfl rfl (fun _ k=>k) [] ⟨⟩)<|jsk<|jtn<|jsr<|jpc 2 rfl<|jot<|jxr<|jr1 rfl rfl (fun _ k=>k) [] ⟨⟩

theorem c_keep_RuleName {qd : Prop} {y0 : Int} : Con qd Tryz.prog 16 [vi y0] [] [] (m_keep_RuleName y0) fun r K=>K (vs r) [] [] :=
 ent3 Tryz.call16 Tryz.func16 rfl fun X=>jsr<|jpc 1 rfl<|jot<|jsr<|jpc 1 rfl<|jcl c_keep_Mod rfl ⟨⟩<|fun r1 _ k=>k<|jpc 1 rfl<|jpe (.int .u8 (IntKind.u8.wrap (w64 (97 + r1))))<|
  jbs .s (e := eInt .u8) 5 [.int .u8 (IntKind.u8.wrap (w64 (97 + r1)))] ([IntKind.u8.wrap (w64 (97 + r1))] : List Int) (rC vI rN)<|fun p1 c1=>jsb .s (gk 0) rfl Tryz.underlying79 Tryz.underlying5 Tryz.underlying9<|jbd fun x1 h1=>
  jv (fun h=>r_cat h rfl rfl h1)<|jpc 1 rfl<|jot<|jxr<|jr1 rfl rfl (fun _ k=>k) [] ⟨⟩

theorem c_keep_Src_Raw {qd : Prop} {y0 : T_keep_Src} : Con qd Tryz.prog 34 [pt b1 0] [bx b1 51 [sv p1 y0.1 c1, vi y0.2]] [Rl (eInt .i64) p1 c1 y0.1] (m_keep_Src_Raw y0) fun r K=>K (vi r.1) [bx b1 51 [sv p1 y0.1 c1, vi r.2]] [] :=
 ent3 Tryz.call34 Tryz.func34 rfl fun X=>jsr<|jpc 1 rfl<|jot<|jsq<|jds [] [0] 10<|jdc 8 [0,1] rfl<|jdf 2 1 rfl rfl<|jdo 3 0 rfl rfl rfl rfl<|jdc 4 [4,5] rfl<|jdf 6 0 rfl rfl<|jdo 7 0 rfl rfl rfl rfl<|jdc 0 [8,9] rfl<|jde<|jtn<|jif rfl (jsr<|jpc 1 rfl<|jot<|jxr<|jtr<|
  jr1 rfl rfl (fun _ k=>k) [0] ⟨⟩)<|jsk<|jtn<|jsr<|jpc 2 rfl<|jfa 1 rfl<|jlo 0 rfl rfl rfl<|jpc 2 rfl<|jfa 1 rfl<|jso .s 0 rfl rfl rfl<|jot<|jds [] [0] 12<|jdc 10 [0,1] rfl<|jdf 2 0 rfl rfl<|jdo 3 0 rfl rfl rfl rfl<|jdc 6 [4,5] rfl<|
  jdf 6 1 rfl rfl<|jdo 7 0 rfl rfl rfl rfl<|jdc 3 [8] rfl<|jdi 9 0 rfl rfl rfl rfl<|fun x1 b2 o1=>jdl 10 false oI rfl (gk 0) rfl<|jdc 0 [11] rfl<|jde<|jtn<|jxr<|jr1 rfl rfl (fun _ k=>k) [0] ⟨⟩

theorem c_keep_Src_N {qd : Prop} {y0 : T_keep_Src} {y1 : Int} : Con qd Tryz.prog 12 [pt b1 0, vi y1] [bx b1 51 [sv p1 y0.1 c1, vi y0.2]] [Rl (eInt .i64) p1 c1 y0.1] (m_keep_Src_N y0 y1) fun r K=>K (vi r.1) [bx b1 51 [sv p1 y0.1 c1, vi r.2]] [] :=
 ent3 Tryz.call12 Tryz.func12 rfl fun X=>jsr<|jpc 1 rfl<|jot<|jsr<|jpc 1 rfl<|jca .s [0] [] c_keep_Src_Raw rfl rfl rfl ⟨ck 0,⟨⟩⟩<|fun r1 _ k=>k<|jpc 1 rfl<|jcl c_keep_Mod rfl ⟨⟩<|fun r2 _ k=>k<|jpc 1 rfl<|jot<|jxr<|jr1 rfl rfl (fun _ k=>k) [0] ⟨⟩

theorem c_keep_Src_Literal {qd : Prop} {y0 : T_keep_Src} {y1 : Int} : Con qd Tryz.prog 13 [pt b1 0, vi y1] [bx b1 51 [sv p1 y0.1 c1, vi y0.2]] [Rl (eInt .i64) p1 c1 y0.1] (m_keep_Src_Literal y0 y1) fun r K=>K (.agg #[vb r.1.1, vs r.1.2]) [bx b1 51 [sv p1 y0.1 c1, vi r.2]] [] :=
 ent3 Tryz.call13 Tryz.func13 rfl fun X=>jsr<|jal .s (.agg #[vb false, vs []])<|fun b2=>jot<|jsr<|jpc 3 rfl<|jca .s [0] [] c_keep_Src_N rfl rfl rfl ⟨ck 0,⟨⟩⟩<|fun r1 _ k=>k<|jpc 1 rfl<|jot<|jsr<|jpc 4 rfl<|jbd fun x1 h1=>jv (fun h=>r_quoK h rfl rfl h1)<|jpc 1 rfl<|
  jpe (.int .u8 (IntKind.u8.wrap (w64 (97 + x1))))<|jbs .s (e := eInt .u8) 5 [.int .u8 (IntKind.u8.wrap (w64 (97 + x1)))] ([IntKind.u8.wrap (w64 (97 + x1))] : List Int) (rC vI rN)<|fun p2 c2=>
  jsb .s (gk 0) rfl Tryz.underlying79 Tryz.underlying5 Tryz.underlying9<|jpe (.agg #[vb ((band .i64 r1.1 1) == 1), vs (strOf ([IntKind.u8.wrap (w64 (97 + x1))] : List Int))])<|jso .s 1 rfl rfl rfl<|jot<|jxr<|
  jrg' rfl (lC 1 (.agg #[vb ((band .i64 r1.1 1) == 1), vs (strOf ([IntKind.u8.wrap (w64 (97 + x1))] : List Int))]) rfl rfl lN) (fun _ k=>k) [0] ⟨⟩

theorem c_keep_Src_Literals {qd : Prop} {y0 : T_keep_Src} {y1 : Int} {y2 : Int} : Con qd Tryz.prog 18 [pt b1 0, vi y1, vi y2] [bx b1 51 [sv p1 y0.1 c1, vi y0.2]] [Rl (eInt .i64) p1 c1 y0.1] (m_keep_Src_Literals y0 y1 y2) fun r K=>∀ p2 c2,K (sv p2 r.1 c2) [bx b1 51 [sv p1 y0.1 c1, vi r.2]] [Rl e_Literal p2 c2 r.1] :=
 ent3 Tryz.call18 Tryz.func18 rfl fun X=>jsr<|jpc 1 rfl<|jot<|jsr<|jpc 1 rfl<|jro e_Literal 42<|jot<|jsq<|jsr<|jpc 3 rfl<|jca .s [0] [] c_keep_Src_N rfl rfl rfl ⟨ck 1,⟨⟩⟩<|fun r1 _ k=>k<|jpc 1 rfl<|jot<|jbk<|
  jlp (fun s1 K=>∀ p2 c2 r_1,K [(0, pt b1 0), (2, vi y2), (7, sv p2 s1.1 c2), (8, vi s1.2.1)] [bx b1 51 [sv p1 y0.1 c1, vi s1.2.2], r_1] [Al e_Literal 42 r_1 p2 c2 s1.1, Rl (eInt .i64) p1 c1 y0.1]) (gv (fun _ k=>k none 0 []) [0,1] ⟨gk 0,gk 1,⟨⟩⟩)<|
  fun s1 _ k p2 c2 r_1=>k<|jsq<|jsr<|jpc 2 rfl<|jot<|jif rfl (jsk<|jtn<|jsq<|jbk<|jrg<|jpc 3 rfl<|jca .s [0] [] c_keep_Src_Literal rfl rfl rfl ⟨ck 1,⟨⟩⟩<|fun r2 _ k=>k<|
  jbs .s (e := e_Literal) 42 [vb r2.1.1, vs r2.1.2] ([r2.1] : List T_Literal) (rC (vP vB vS) rN)<|fun p3 c3=>jar .s 1 1 rfl (gk 0) rfl rfl<|fun x1 r_2 p4 c4=>jpc 1 rfl<|joe<|jbn<|jtn<|jrg<|jpc 3 rfl<|joe<|
  jln (gv (fun _ k=>k p4 c4 r_2) [0,1] ⟨gk 0,gk 3,⟨⟩⟩))<|jxe<|jte<|jle<|jbh<|jtn<|jsr<|jpc 2 rfl<|jot<|jxr<|jsh 1 0 rfl rfl<|jr1 rfl rfl (fun _ k=>k p2 c2) [0] ⟨gk 0,⟨⟩⟩

theorem c_keep_Src_Pick {qd : Prop} {y0 : T_keep_Src} {y1 : List Int} : Con qd Tryz.prog 14 [pt b1 0, sv p2 y1 c2] [bx b1 51 [sv p1 y0.1 c1, vi y0.2]] [Rl (eInt .i64) p1 c1 y0.1, Rl (eInt .i64) p2 c2 y1] (m_keep_Src_Pick y0 y1) fun r K=>K (vi r.1) [bx b1 51 [sv p1 y0.1 c1, vi r.2]] [] :=
 ent3 Tryz.call14 Tryz.func14 rfl fun X=>jsr<|jpc 1 rfl<|jot<|jsr<|jpc 4 rfl<|jca .s [0] [] c_keep_Src_N rfl rfl rfl ⟨ck 0,⟨⟩⟩<|fun r1 _ k=>k<|jix 1 rfl rfl rfl<|fun x1 b2 o1=>jld false oI (gk 0) rfl<|jpc 1 rfl<|jot<|jxr<|jr1 rfl rfl (fun _ k=>k) [0] ⟨⟩

theorem c_keep_Src_Text {qd : Prop} {y0 : T_keep_Src} {y1 : List Str} : Con qd Tryz.prog 15 [pt b1 0, sv p2 y1 c2] [bx b1 51 [sv p1 y0.1 c1, vi y0.2]] [Rl (eInt .i64) p1 c1 y0.1, Rl eStr p2 c2 y1] (m_keep_Src_Text y0 y1) fun r K=>K (vs r.1) [bx b1 51 [sv p1 y0.1 c1, vi r.2]] [] :=
 ent3 Tryz.call15 Tryz.func15 rfl fun X=>jsr<|jpc 1 rfl<|jot<|jsr<|jpc 4 rfl<|jca .s [0] [] c_keep_Src_N rfl rfl rfl ⟨ck 0,⟨⟩⟩<|fun r1 _ k=>k<|jix 1 rfl rfl rfl<|fun x1 b2 o1=>jld false oS (gk 0) rfl<|jpc 1 rfl<|jot<|jxr<|jr1 rfl rfl (fun _ k=>k) [0] ⟨⟩

theorem c_keep_sorted {qd : Prop} {y0 : List T_Literal} : Con qd Tryz.prog 17 [sv p1 y0 c1] [] [Rl e_Literal p1 c1 y0] (m_keep_sorted y0) fun r K=>∀ p2 c2,K (sv p2 r c2) [] [Rl e_Literal p2 c2 r] :=
 ent3 Tryz.call17 Tryz.func17 rfl fun X=>jsr<|jpc 1 rfl<|jot<|jsr<|jpc 1 rfl<|jro e_Literal 42<|jot<|jsq<|jsr<|jpc 3 rfl<|jot<|jbk<|
  jlp (fun s1 K=>∀ p2 c2 r_1,K [(3, sv p2 s1.1 c2), (7, sv p1 y0 c1), (8, vi (len y0)), (9, vi s1.2)] [r_1] [Al e_Literal 42 r_1 p2 c2 s1.1, Rl e_Literal p1 c1 y0]) (gv (fun _ k=>k none 0 []) [0] ⟨gk 0,gk 1,⟨⟩⟩)<|fun s1 _ k p2 c2 r_1=>k<|
  jsr<|jpc 1 rfl<|jot<|jsq<|jif rfl (jsk<|jtn<|jsq<|jbk<|jsr<|jix 1 rfl rfl rfl<|fun x1 b1 o1=>jld true o_Literal (gk 0) rfl<|jal .s (.agg #[vb false, vs []])<|fun b2=>jso .s 1 rfl rfl rfl<|jot<|jsr<|jpc 1 rfl<|jot<|
  jjn (fun s2 K=>K [(3, sv p2 s1.1 c2), (5, pt b2 0), (6, vi s2), (7, sv p1 y0 c1), (8, vi (len y0)), (9, vi s1.2)] [r_1, bx b2 42 [vb x1.1, vs x1.2]] [Al e_Literal 42 r_1 p2 c2 s1.1, Rl e_Literal p1 c1 y0]) (jbk<|
  jlp (fun s3 K=>K [(3, sv p2 s1.1 c2), (5, pt b2 0), (6, vi s3), (7, sv p1 y0 c1), (8, vi (len y0)), (9, vi s1.2)] [r_1, bx b2 42 [vb x1.1, vs x1.2]] [Al e_Literal 42 r_1 p2 c2 s1.1, Rl e_Literal p1 c1 y0]) (gv (fun _ k=>k) [0,1] ⟨gk 1,gk 2,⟨⟩⟩)<|
  fun s3 _ k=>k<|jsq<|jjn (fun s4 K=>K [(3, sv p2 s1.1 c2), (5, pt b2 0), (6, vi s3), (7, sv p1 y0 c1), (8, vi (len y0)), (9, vi s1.2), (48, vb s4)] [r_1, bx b2 42 [vb x1.1, vs x1.2]] [Al e_Literal 42 r_1 p2 c2 s1.1, Rl e_Literal p1 c1 y0]) (
  jdS [] [0, 1] 36<|jdc 31 [0,1,2,3,4] rfl<|jsg 17 rfl (jdc 29 [5,6] rfl<|jdI 7 0 rfl rfl rfl rfl<|fun x2 h1 b3 hp1=>jdf 8 1 rfl rfl<|jdL 9 0 0 sI.snd false oS rfl rfl hp1 h1 rfl<|jdf 10 1 rfl rfl<|jdo 11 1 rfl rfl rfl rfl<|
  jdc 22 [12,13] rfl<|jsg 26 rfl (jdc 2 [14,15,16,17,18,19,20,21,22,23,24,25,26,27,28,29,30,31,32,33] rfl<|jdp 34 (vb true) rfl<|jdp 35 (vb true) rfl<|jde<|jnn (gv (fun _ k=>k) [0,1] ⟨gk 0,gk 1,⟨⟩⟩))<|jdc 20 [14,15] rfl<|
  jdI 16 0 rfl rfl rfl rfl<|fun x3 h2 b4 hp2=>jdf 17 1 rfl rfl<|jdL 18 0 0 sI.snd false oS rfl rfl hp2 h2 rfl<|jdf 19 1 rfl rfl<|jdo 20 1 rfl rfl rfl rfl<|jdc 13 [21,22] rfl<|jsg 35 rfl (jdc 11 [23,24] rfl<|jdI 25 0 rfl rfl rfl rfl<|
  fun x4 h3 b5 hp3=>jdf 26 0 rfl rfl<|jdL 27 0 0 sI.fst false oB rfl rfl hp3 h3 rfl<|jdc 7 [28] rfl<|jdp 29 (vb (!x4.1)) rfl<|jdc 5 [30] rfl<|jsg 43 rfl (jdf 31 0 rfl rfl<|jdo 32 1 rfl rfl rfl rfl<|jdp 33 (vb x1.1) rfl<|jdp 34 (vb x1.1) rfl<|
  jdp 35 (vb x1.1) rfl<|jde<|jnn (gv (fun _ k=>k) [0,1] ⟨gk 0,gk 1,⟨⟩⟩))<|jdc 3 [31,32] rfl<|jdp 33 (vb false) rfl<|jdp 34 (vb false) rfl<|jdp 35 (vb false) rfl<|jde<|jnn (gv (fun _ k=>k) [0,1] ⟨gk 0,gk 1,⟨⟩⟩))<|
  jdc 7 [23,24,25,26,27,28] rfl<|jdp 29 (vb false) rfl<|jdc 3 [30,31,32] rfl<|jdp 33 (vb false) rfl<|jdp 34 (vb false) rfl<|jdp 35 (vb false) rfl<|jde<|jnn (gv (fun _ k=>k) [0,1] ⟨gk 0,gk 1,⟨⟩⟩))<|
  jdc 1 [5,6,7,8,9,10,11,12,13,14,15,16,17,18,19,20,21,22,23,24,25,26,27,28,29,30,31,32,33,34] rfl<|jdp 35 (vb false) rfl<|jde<|jnn (gv (fun _ k=>k) [0,1] ⟨gk 0,gk 1,⟨⟩⟩))<|fun s4 _ k=>k<|jif rfl (jsk<|jtn<|jbk<|jrg<|jpc 3 rfl<|joe<|jbn<|
  jln (gv (fun _ k=>k) [0,1] ⟨gk 0,gk 1,⟨⟩⟩))<|jxe<|jte<|jle<|jbh<|jnn (gv (fun _ k=>k) [0,1] ⟨gk 0,gk 1,⟨⟩⟩))<|fun s2 _ k=>k<|jsq<|
  jjn (fun s5 K=>K [(3, sv p2 s1.1 c2), (5, pt b2 0), (6, vi s2), (7, sv p1 y0 c1), (8, vi (len y0)), (9, vi s1.2), (62, vb s5)] [r_1, bx b2 42 [vb x1.1, vs x1.2]] [Al e_Literal 42 r_1 p2 c2 s1.1, Rl e_Literal p1 c1 y0]) (jdS [] [0, 1] 12<|
  jdc 7 [0,1,2,3,4] rfl<|jsg 55 rfl (jdc 5 [5,6] rfl<|jdI 7 0 rfl rfl rfl rfl<|fun x5 h4 b6 hp4=>jdL 8 0 0 sI true o_Literal rfl rfl hp4 h4 rfl<|jda 9 1 2 rfl rfl rfl rfl<|jdp 10 (vb (x5 == x1)) rfl<|jdp 11 (vb (x5 == x1)) rfl<|jde<|
  jnn (gv (fun _ k=>k) [0,1] ⟨gk 0,gk 1,⟨⟩⟩))<|jdc 1 [5,6,7,8,9,10] rfl<|jdp 11 (vb false) rfl<|jde<|jnn (gv (fun _ k=>k) [0,1] ⟨gk 0,gk 1,⟨⟩⟩))<|fun s5 _ k=>k<|jif rfl (jxe<|jte<|jbh<|jtn<|jrg<|jpc 2 rfl<|joe<|
  jln (gv (fun _ k=>k p2 c2 r_1) [0] ⟨gk 0,gk 1,⟨⟩⟩))<|jsk<|jtn<|jsr<|jpc 1 rfl<|jpe (.agg #[vb false, vs []])<|jbs .s (e := e_Literal) 42 [vb false, vs []] ([(false, [])] : List T_Literal) (rC (vP vB vS) rN)<|fun p3 c3=>
  jar .s 0 1 rfl (gk 0) rfl rfl<|fun x6 r_2 p4 c4=>jpc 1 rfl<|jot<|jds [] [] 8<|jdc 5 [0,1,2] rfl<|jdV 3 0 rfl rfl rfl rfl<|fun u1 p5 c5 f1=>jdc 2 [4,5] rfl<|jdV 6 0 rfl rfl rfl rfl<|fun u2 p6 c6 f2=>jd1 7<|
  jcp (.f rfl) 0 0 rfl (vwV f1) (srV 0 0 f2 rfl) rfl rfl<|fun r_3=>jdn<|jde<|jtn<|jrg<|jpc 2 rfl<|jla 1 2 rfl rfl rfl<|jia 0 rfl rfl rfl<|fun x7 h6 b7 hp5=>jsA .s 0 0 sI x1 true rfl hp5 h6 rfl rfl (vP vB vS)<|fun r_4=>joe<|jbn<|jtn<|jrg<|
  jpc 2 rfl<|joe<|jrE 0 3 rfl rfl<|jln (gv (fun _ k=>k p4 c4 r_4) [0] ⟨gk 0,gk 6,⟨⟩⟩))<|jxe<|jte<|jle<|jbh<|jtn<|jsr<|jpc 2 rfl<|jot<|jxr<|jsh 0 0 rfl rfl<|jr1 rfl rfl (fun _ k=>k p2 c2) [] ⟨gk 0,⟨⟩⟩

theorem c_keep_Src_Base {qd : Prop} {y0 : T_keep_Src} {y1 : Int} {y2 : Int} {y3 : Int} : Con qd Tryz.prog 6 [pt b1 0, vi y1, vi y2, vi y3] [bx b1 51 [sv p1 y0.1 c1, vi y0.2]] [Rl (eInt .i64) p1 c1 y0.1] (m_keep_Src_Base y0 y1 y2 y3) fun r K=>∀ p2 c2 p3 c3 p4 c4,K (.agg #[sv p2 r.1.1 c2, sv p3 r.1.2.1 c3, sv p4 r.1.2.2 c4]) [bx b1 51 [sv p1 y0.1 c1, vi r.2]] [Rl e_Premise p2 c2 r.1.1, Rl e_Rule p3 c3 r.1.2.1, Rl e_Promotion p4 c4 r.1.2.2] :=
 ent3 Tryz.call6 Tryz.func6 rfl fun X=>jsr<|jal .s (.agg #[.slice none 0 0, .slice none 0 0, .slice none 0 0])<|fun b2=>jot<|jsr<|jal .s (.agg #[.slice none 0 0, .slice none 0 0, .slice none 0 0])<|fun b3=>jro e_Premise 44<|jro e_Rule 47<|jro e_Promotion 49<|jot<|
  jjn (fun s1 K=>∀ p2 c2 r_1,K [(0, pt b1 0), (1, vi y1), (3, vi y3), (8, pt b2 0), (9, pt b3 0)] [bx b1 51 [sv p1 y0.1 c1, vi s1.1], bx b2 26 [.slice none 0 0, .slice none 0 0, .slice none 0 0], bx b3 26 [sv p2 s1.2 c2, sv none ([] : List T_Rule) 0, sv none ([] : List T_Promotion) 0], r_1, [], []] [Al e_Premise 44 r_1 p2 c2 s1.2, Rl (eInt .i64) p1 c1 y0.1, Al e_Rule 47 [] none 0 ([] : List T_Rule), Al e_Promotion 49 [] none 0 ([] : List T_Promotion)]) (
  jsr<|jpc 3 rfl<|jca .s [0] [] c_keep_Src_N rfl rfl rfl ⟨ck 3,⟨⟩⟩<|fun r1 _ k=>k<|jpc 1 rfl<|jot<|jbk<|
  jlp (fun s2 K=>∀ p3 c3 r_2,K [(0, pt b1 0), (1, vi y1), (3, vi y3), (8, pt b2 0), (9, pt b3 0), (10, vi s2.1)] [bx b1 51 [sv p1 y0.1 c1, vi s2.2.1], bx b2 26 [.slice none 0 0, .slice none 0 0, .slice none 0 0], bx b3 26 [sv p3 s2.2.2 c3, sv none ([] : List T_Rule) 0, sv none ([] : List T_Promotion) 0], r_2, [], []] [Al e_Premise 44 r_2 p3 c3 s2.2.2, Rl (eInt .i64) p1 c1 y0.1, Al e_Rule 47 [] none 0 ([] : List T_Rule), Al e_Promotion 49 [] none 0 ([] : List T_Promotion)]) (gv (fun _ k=>k none 0 []) [0,1,2,3,4,5] ⟨gk 2,gk 3,gk 1,gk 0,⟨⟩⟩)<|
  fun s2 _ k p3 c3 r_2=>k<|jsq<|jsr<|jpc 2 rfl<|jot<|jif rfl (jsk<|jtn<|jsq<|jbk<|jsr<|jpc 2 rfl<|jca .s [0] [] c_keep_Src_Literal rfl rfl rfl ⟨ck 1,⟨⟩⟩<|fun r2 _ k=>k<|jpc 1 rfl<|
  jbs .s (e := eInt .i64) 3 [vi 1, vi 2, vi 2, vi 2, vi 3] ([1, 2, 2, 2, 3] : List Int) (rC vI (rC vI (rC vI (rC vI (rC vI rN)))))<|fun p4 c4=>jca .s [0] [] c_keep_Src_Pick rfl rfl rfl ⟨ck 2,ck 0,⟨⟩⟩<|fun r3 _ k=>k<|jpc 1 rfl<|
  jbs .s (e := eStr) 9 [vs [], vs [], vs [97, 110, 110], vs [98, 111, 98]] ([[], [], [97, 110, 110], [98, 111, 98]] : List Str) (rC vS (rC vS (rC vS (rC vS rN))))<|fun p5 c5=>jca .s [0] [] c_keep_Src_Text rfl rfl rfl ⟨ck 3,ck 0,⟨⟩⟩<|
  fun r4 _ k=>k<|jpe (.agg #[vb r2.1.1, vs r2.1.2, vi r3.1, vi 0, vs r4.1])<|jal .s (.agg #[vb false, vs [], vi 0, vi 0, vs []])<|fun b4=>jso .s 6 rfl rfl rfl<|jot<|
  jjn (fun s3 K=>K [(0, pt b1 0), (1, vi y1), (3, vi y3), (8, pt b2 0), (9, pt b3 0), (10, vi s2.1), (11, pt b4 0)] [bx b1 51 [sv p1 y0.1 c1, vi s3.1], bx b2 26 [.slice none 0 0, .slice none 0 0, .slice none 0 0], bx b3 26 [sv p3 s2.2.2 c3, sv none ([] : List T_Rule) 0, sv none ([] : List T_Promotion) 0], r_2, [], [], bx b4 44 [vb r2.1.1, vs r2.1.2, vi r3.1, vi s3.2, vs r4.1]] [Rl (eInt .i64) p1 c1 y0.1, Al e_Premise 44 r_2 p3 c3 s2.2.2, Al e_Rule 47 [] none 0 ([] : List T_Rule), Al e_Promotion 49 [] none 0 ([] : List T_Promotion)]) (
  jsr<|jfa 2 rfl<|jlo 6 rfl rfl rfl<|jpc 1 rfl<|jot<|jif rfl (jrg<|jpc 1 rfl<|jca .s [0] [] c_keep_Src_N rfl rfl rfl ⟨ck 3,⟨⟩⟩<|fun r5 _ k=>k<|jfa 3 rfl<|jso .s 6 rfl rfl rfl<|joe<|
  jnn (gv (fun _ k=>k) [0,1,2,3,4,5,6] ⟨gk 3,gk 2,gk 4,gk 5,⟨⟩⟩))<|jsk<|jnn (gv (fun _ k=>k) [0,1,2,3,4,5,6] ⟨gk 3,gk 2,gk 4,gk 5,⟨⟩⟩))<|fun s3 _ k=>k<|jsr<|jpc 1 rfl<|jot<|
  jjn (fun s4 K=>K [(0, pt b1 0), (1, vi y1), (3, vi y3), (8, pt b2 0), (9, pt b3 0), (10, vi s2.1), (11, pt b4 0), (12, vb s4)] [bx b1 51 [sv p1 y0.1 c1, vi s3.1], bx b2 26 [.slice none 0 0, .slice none 0 0, .slice none 0 0], bx b3 26 [sv p3 s2.2.2 c3, sv none ([] : List T_Rule) 0, sv none ([] : List T_Promotion) 0], r_2, [], [], bx b4 44 [vb r2.1.1, vs r2.1.2, vi r3.1, vi s3.2, vs r4.1]] [Rl (eInt .i64) p1 c1 y0.1, Al e_Premise 44 r_2 p3 c3 s2.2.2, Al e_Rule 47 [] none 0 ([] : List T_Rule), Al e_Promotion 49 [] none 0 ([] : List T_Promotion)]) (
  jsr<|jfa 0 rfl<|jlo 2 rfl rfl rfl<|jpc 2 rfl<|jot<|jbk<|
  jlp (fun s5 K=>K [(0, pt b1 0), (1, vi y1), (3, vi y3), (8, pt b2 0), (9, pt b3 0), (10, vi s2.1), (11, pt b4 0), (12, vb s5.1), (44, sv p3 s2.2.2 c3), (45, vi (len s2.2.2)), (46, vi s5.2)] [bx b1 51 [sv p1 y0.1 c1, vi s3.1], bx b2 26 [.slice none 0 0, .slice none 0 0, .slice none 0 0], bx b3 26 [sv p3 s2.2.2 c3, sv none ([] : List T_Rule) 0, sv none ([] : List T_Promotion) 0], r_2, [], [], bx b4 44 [vb r2.1.1, vs r2.1.2, vi r3.1, vi s3.2, vs r4.1]] [Al e_Premise 44 r_2 p3 c3 s2.2.2, Rl (eInt .i64) p1 c1 y0.1, Al e_Rule 47 [] none 0 ([] : List T_Rule), Al e_Promotion 49 [] none 0 ([] : List T_Promotion)]) (gv (fun _ k=>k) [0,1,2,3,4,5,6] ⟨gk 1,gk 0,gk 2,gk 3,⟨⟩⟩)<|
  fun s5 _ k=>k<|jsr<|jpc 1 rfl<|jot<|jsq<|jif rfl (jsk<|jtn<|jsq<|jbk<|jsr<|jia 0 rfl rfl rfl<|fun x1 h1 b5 hp1=>jlA 3 0 sI true o_Premise rfl hp1 h1 rfl<|jal .s (.agg #[vb false, vs [], vi 0, vi 0, vs []])<|fun b6=>jso .s 7 rfl rfl rfl<|
  jot<|
  jjq (fun K=>K [(0, pt b1 0), (1, vi y1), (3, vi y3), (8, pt b2 0), (9, pt b3 0), (10, vi s2.1), (11, pt b4 0), (12, vb (s5.1 || (x1.1 == r2.1))), (44, sv p3 s2.2.2 c3), (45, vi (len s2.2.2)), (46, vi s5.2)] [bx b1 51 [sv p1 y0.1 c1, vi s3.1], bx b2 26 [.slice none 0 0, .slice none 0 0, .slice none 0 0], bx b3 26 [sv p3 s2.2.2 c3, sv none ([] : List T_Rule) 0, sv none ([] : List T_Promotion) 0], r_2, [], [], bx b4 44 [vb r2.1.1, vs r2.1.2, vi r3.1, vi s3.2, vs r4.1], []] [Al e_Premise 44 r_2 p3 c3 s2.2.2, Rl (eInt .i64) p1 c1 y0.1, Al e_Rule 47 [] none 0 ([] : List T_Rule), Al e_Promotion 49 [] none 0 ([] : List T_Promotion)]) (
  jrg<|jpc 2 rfl<|jsp (b := s5.1) 51 rfl (fun hb1=>jpc 5 rfl<|jpe (vb true)<|jpc 1 rfl<|joe<|jup 12 (vb (s5.1 || (x1.1 == r2.1))) rfl (by rw [hb1]; rfl)<|jnn (gv (fun _ k=>k) [0,1,2,3,4,5,6,907] ⟨gk 0,gk 1,gk 2,gk 3,⟨⟩⟩))<|fun hb1=>
  jfa 0 rfl<|jla 7 2 rfl rfl rfl<|jfa 0 rfl<|jla 6 2 rfl rfl rfl<|jpe (vb (x1.1 == r2.1))<|jpe (vb (x1.1 == r2.1))<|jpc 1 rfl<|joe<|jup 12 (vb (s5.1 || (x1.1 == r2.1))) rfl (by rw [hb1]; rfl)<|
  jnn (gv (fun _ k=>k) [0,1,2,3,4,5,6,907] ⟨gk 0,gk 1,gk 2,gk 3,⟨⟩⟩))<|fun _ k=>k<|jbn<|jtn<|jrg<|jpc 2 rfl<|joe<|jln (gv (fun _ k=>k) [0,1,2,3,4,5,6] ⟨gk 0,gk 1,gk 2,gk 3,⟨⟩⟩))<|jxe<|jte<|jle<|jbh<|
  jnn (gv (fun _ k=>k) [0,1,2,3,4,5,6] ⟨gk 1,gk 0,gk 2,gk 3,⟨⟩⟩))<|fun s4 _ k=>k<|jsr<|jpc 2 rfl<|jot<|jif rfl (jrg<|jfa 0 rfl<|jlo 2 rfl rfl rfl<|jla 6 5 rfl rfl rfl<|
  jbs .s (e := e_Premise) 44 [vb r2.1.1, vs r2.1.2, vi r3.1, vi s3.2, vs r4.1] ([(r2.1, r3.1, s3.2, r4.1)] : List T_Premise) (rC (vP (vP vB vS) (vP vI (vP vI vS))) rN)<|fun p6 c6=>jar .s 3 2 rfl (gk 0) rfl rfl<|fun x2 r_3 p7 c7=>jfa 0 rfl<|
  jso .s 2 rfl rfl rfl<|joe<|jbn<|jtn<|jrg<|jpc 3 rfl<|joe<|jln (gv (fun _ k=>k p7 c7 r_3) [0,1,2,3,4,5] ⟨gk 0,gk 2,gk 4,gk 5,⟨⟩⟩))<|jsk<|jbn<|jtn<|jrg<|jpc 3 rfl<|joe<|jln (gv (fun _ k=>k p3 c3 r_2) [0,1,2,3,4,5] ⟨gk 1,gk 0,gk 2,gk 3,⟨⟩⟩))<|
  jxe<|jte<|jle<|jbh<|jnn (gv (fun _ k=>k p3 c3 r_2) [0,1,2,3,4,5] ⟨gk 0,gk 1,gk 2,gk 3,⟨⟩⟩))<|fun s1 _ k p2 c2 r_1=>k<|
  jjn (fun s6 K=>∀ p8 c8 r_4,K [(0, pt b1 0), (1, vi y1), (8, pt b2 0), (9, pt b3 0)] [bx b1 51 [sv p1 y0.1 c1, vi s6.1], bx b2 26 [.slice none 0 0, .slice none 0 0, .slice none 0 0], bx b3 26 [sv p2 s1.2 c2, sv p8 s6.2 c8, sv none ([] : List T_Promotion) 0], r_1, r_4, []] [Al e_Rule 47 r_4 p8 c8 s6.2, Rl (eInt .i64) p1 c1 y0.1, Al e_Premise 44 r_1 p2 c2 s1.2, Al e_Promotion 49 [] none 0 ([] : List T_Promotion)]) (
  jsr<|jpc 3 rfl<|jca .s [0] [] c_keep_Src_N rfl rfl rfl ⟨ck 1,⟨⟩⟩<|fun r6 _ k=>k<|jpc 1 rfl<|jot<|jbk<|
  jlp (fun s7 K=>∀ p9 c9 r_5,K [(0, pt b1 0), (1, vi y1), (3, vi y3), (8, pt b2 0), (9, pt b3 0), (15, vi s7.1)] [bx b1 51 [sv p1 y0.1 c1, vi s7.2.1], bx b2 26 [.slice none 0 0, .slice none 0 0, .slice none 0 0], bx b3 26 [sv p2 s1.2 c2, sv p9 s7.2.2 c9, sv none ([] : List T_Promotion) 0], r_1, r_5, []] [Al e_Rule 47 r_5 p9 c9 s7.2.2, Rl (eInt .i64) p1 c1 y0.1, Al e_Premise 44 r_1 p2 c2 s1.2, Al e_Promotion 49 [] none 0 ([] : List T_Promotion)]) (gv (fun _ k=>k none 0 []) [0,1,2,3,4,5] ⟨gk 2,gk 1,gk 0,gk 3,⟨⟩⟩)<|
  fun s7 _ k p9 c9 r_5=>k<|jsq<|jsr<|jpc 2 rfl<|jot<|jif rfl (jsk<|jtn<|jsq<|jbk<|jsr<|jfa 1 rfl<|jlo 2 rfl rfl rfl<|jpc 1 rfl<|jcl c_keep_RuleName rfl ⟨⟩<|fun r7 _ k=>k<|jpc 1 rfl<|jca .s [0] [] c_keep_Src_N rfl rfl rfl ⟨ck 1,⟨⟩⟩<|
  fun r8 _ k=>k<|jpc 3 rfl<|jca .s [0] [] c_keep_Src_Literals rfl rfl rfl ⟨ck 1,⟨⟩⟩<|fun r9 _ k p10 c10=>k<|jcl c_keep_sorted rfl ⟨ck 0,⟨⟩⟩<|fun r10 _ k p11 c11=>k<|jpc 2 rfl<|jca .s [0] [] c_keep_Src_Literal rfl rfl rfl ⟨ck 3,⟨⟩⟩<|
  fun r11 _ k=>k<|jpe (.agg #[vs r7, vb (r8.1 == 0), vi 0, sv p11 r10 c11, vb r11.1.1, vs r11.1.2])<|jal .s (.agg #[vs [], vb false, vi 0, .slice none 0 0, vb false, vs []])<|fun b7=>jso .s 6 rfl rfl rfl<|jot<|
  jjn (fun s8 K=>K [(0, pt b1 0), (1, vi y1), (3, vi y3), (8, pt b2 0), (9, pt b3 0), (15, vi s7.1), (16, pt b7 0)] [bx b1 51 [sv p1 y0.1 c1, vi s8.1], bx b2 26 [.slice none 0 0, .slice none 0 0, .slice none 0 0], bx b3 26 [sv p2 s1.2 c2, sv p9 s7.2.2 c9, sv none ([] : List T_Promotion) 0], r_1, r_5, [], bx b7 47 [vs r7, vb (r8.1 == 0), vi s8.2, sv p11 r10 c11, vb r11.1.1, vs r11.1.2]] [Rl (eInt .i64) p1 c1 y0.1, Al e_Premise 44 r_1 p2 c2 s1.2, Al e_Rule 47 r_5 p9 c9 s7.2.2, Al e_Promotion 49 [] none 0 ([] : List T_Promotion), Rl e_Literal p11 c11 r10]) (
  jsr<|jfa 1 rfl<|jlo 6 rfl rfl rfl<|jpc 1 rfl<|jot<|jif rfl (jrg<|jpc 1 rfl<|jca .s [0] [] c_keep_Src_N rfl rfl rfl ⟨ck 3,⟨⟩⟩<|fun r12 _ k=>k<|jfa 2 rfl<|jso .s 6 rfl rfl rfl<|joe<|
  jnn (gv (fun _ k=>k) [0,1,2,3,4,5,6] ⟨gk 3,gk 4,gk 2,gk 5,gk 0,⟨⟩⟩))<|jsk<|jnn (gv (fun _ k=>k) [0,1,2,3,4,5,6] ⟨gk 3,gk 4,gk 2,gk 5,gk 0,⟨⟩⟩))<|fun s8 _ k=>k<|
  jjn (fun s9 K=>K [(0, pt b1 0), (1, vi y1), (3, vi y3), (8, pt b2 0), (9, pt b3 0), (15, vi s7.1), (16, pt b7 0)] [bx b1 51 [sv p1 y0.1 c1, vi s9.1], bx b2 26 [.slice none 0 0, .slice none 0 0, .slice none 0 0], bx b3 26 [sv p2 s1.2 c2, sv p9 s7.2.2 c9, sv none ([] : List T_Promotion) 0], r_1, r_5, [], bx b7 47 [vs r7, vb (r8.1 == 0), vi s8.2, sv p11 r10 c11, vb s9.2.1, vs s9.2.2]] [Rl (eInt .i64) p1 c1 y0.1, Al e_Premise 44 r_1 p2 c2 s1.2, Al e_Rule 47 r_5 p9 c9 s7.2.2, Al e_Promotion 49 [] none 0 ([] : List T_Promotion), Rl e_Literal p11 c11 r10]) (
  jsr<|jpc 1 rfl<|jca .s [0] [] c_keep_Src_N rfl rfl rfl ⟨ck 0,⟨⟩⟩<|fun r13 _ k=>k<|jpc 1 rfl<|jot<|jif rfl (jrg<|jpc 1 rfl<|jca .s [0] [] c_keep_Src_N rfl rfl rfl ⟨ck 0,⟨⟩⟩<|fun r14 _ k=>k<|jpc 3 rfl<|
  jca .s [0] [] c_keep_Src_N rfl rfl rfl ⟨ck 0,⟨⟩⟩<|fun r15 _ k=>k<|jcl c_keep_RuleName rfl ⟨⟩<|fun r16 _ k=>k<|jpe (.agg #[vb (decide (0 < r14.1)), vs r16])<|jfa 4 rfl<|jso .s 6 rfl rfl rfl<|joe<|
  jnn (gv (fun _ k=>k) [0,1,2,3,4,5,6] ⟨gk 0,gk 1,gk 2,gk 3,gk 4,⟨⟩⟩))<|jsk<|jnn (gv (fun _ k=>k) [0,1,2,3,4,5,6] ⟨gk 0,gk 1,gk 2,gk 3,gk 4,⟨⟩⟩))<|fun s9 _ k=>k<|jrg<|jfa 1 rfl<|jlo 2 rfl rfl rfl<|jla 6 6 rfl rfl rfl<|
  jbs .s (e := e_Rule) 47 [vs r7, vb (r8.1 == 0), vi s8.2, sv p11 r10 c11, vb s9.2.1, vs s9.2.2] ([(r7, r8.1 == 0, s8.2, r10, (s9.2.1, s9.2.2))] : List T_Rule) (rC (vP vS (vP vB (vP vI (vP (vL (gk 4)) (vP vB vS))))) rN)<|fun p12 c12=>
  jar .s 4 3 rfl (gk 0) rfl rfl<|fun x3 r_6 p13 c13=>jfa 1 rfl<|jso .s 2 rfl rfl rfl<|joe<|jbn<|jtn<|jrg<|jpc 3 rfl<|joe<|jln (gv (fun _ k=>k p13 c13 r_6) [0,1,2,3,4,5] ⟨gk 0,gk 2,gk 3,gk 5,⟨⟩⟩))<|jxe<|jte<|jle<|jbh<|
  jnn (gv (fun _ k=>k p9 c9 r_5) [0,1,2,3,4,5] ⟨gk 0,gk 1,gk 2,gk 3,⟨⟩⟩))<|fun s6 _ k p8 c8 r_4=>k<|
  jjn (fun s10 K=>∀ p14 c14 r_7,K [(8, pt b2 0), (9, pt b3 0)] [bx b1 51 [sv p1 y0.1 c1, vi s10.1], bx b2 26 [.slice none 0 0, .slice none 0 0, .slice none 0 0], bx b3 26 [sv p2 s1.2 c2, sv p8 s6.2 c8, sv p14 s10.2 c14], r_1, r_4, r_7] [Al e_Promotion 49 r_7 p14 c14 s10.2, Rl (eInt .i64) p1 c1 y0.1, Al e_Premise 44 r_1 p2 c2 s1.2, Al e_Rule 47 r_4 p8 c8 s6.2]) (
  jsr<|jpc 1 rfl<|jca .s [0] [] c_keep_Src_N rfl rfl rfl ⟨ck 1,⟨⟩⟩<|fun r17 _ k=>k<|jpc 1 rfl<|jot<|jbk<|
  jlp (fun s11 K=>∀ p15 c15 r_8,K [(0, pt b1 0), (1, vi y1), (8, pt b2 0), (9, pt b3 0), (17, vi s11.1)] [bx b1 51 [sv p1 y0.1 c1, vi s11.2.1], bx b2 26 [.slice none 0 0, .slice none 0 0, .slice none 0 0], bx b3 26 [sv p2 s1.2 c2, sv p8 s6.2 c8, sv p15 s11.2.2 c15], r_1, r_4, r_8] [Al e_Promotion 49 r_8 p15 c15 s11.2.2, Rl (eInt .i64) p1 c1 y0.1, Al e_Premise 44 r_1 p2 c2 s1.2, Al e_Rule 47 r_4 p8 c8 s6.2]) (gv (fun _ k=>k none 0 []) [0,1,2,3,4,5] ⟨gk 3,gk 1,gk 2,gk 0,⟨⟩⟩)<|
  fun s11 _ k p15 c15 r_8=>k<|jsq<|
  jjp (fun K=>K [(0, pt b1 0), (1, vi y1), (8, pt b2 0), (9, pt b3 0), (17, vi s11.1), (123, vb ((decide (0 < s11.1)) && (decide (0 < (len s6.2)))))] [bx b1 51 [sv p1 y0.1 c1, vi s11.2.1], bx b2 26 [.slice none 0 0, .slice none 0 0, .slice none 0 0], bx b3 26 [sv p2 s1.2 c2, sv p8 s6.2 c8, sv p15 s11.2.2 c15], r_1, r_4, r_8] [Rl (eInt .i64) p1 c1 y0.1, Al e_Premise 44 r_1 p2 c2 s1.2, Al e_Rule 47 r_4 p8 c8 s6.2, Al e_Promotion 49 r_8 p15 c15 s11.2.2]) (
  jrg<|jpc 3 rfl<|jsp (b := decide (0 < s11.1)) 118 rfl (fun hb2=>jfa 1 rfl<|jlo 2 rfl rfl rfl<|jpc 2 rfl<|jpe (vb (decide (0 < (len s6.2))))<|joe<|jup 123 (vb ((decide (0 < s11.1)) && (decide (0 < (len s6.2))))) rfl (by rw [hb2]; rfl)<|
  jnn (gv (fun _ k=>k) [0,1,2,3,4,5] ⟨gk 1,gk 2,gk 3,gk 0,⟨⟩⟩))<|fun hb2=>jpc 4 rfl<|jpe (vb false)<|joe<|jup 123 (vb ((decide (0 < s11.1)) && (decide (0 < (len s6.2))))) rfl (by rw [hb2]; rfl)<|
  jnn (gv (fun _ k=>k) [0,1,2,3,4,5] ⟨gk 1,gk 2,gk 3,gk 0,⟨⟩⟩))<|fun _ k=>k<|jif rfl (jsk<|jtn<|jsq<|jbk<|
  jjn (fun s12 K=>∀ b8 p16 c16,K [(0, pt b1 0), (1, vi y1), (8, pt b2 0), (9, pt b3 0), (17, vi s11.1), (18, pt b8 0)] [bx b1 51 [sv p1 y0.1 c1, vi s12.1], bx b2 26 [.slice none 0 0, .slice none 0 0, .slice none 0 0], bx b3 26 [sv p2 s1.2 c2, sv p8 s6.2 c8, sv p15 s11.2.2 c15], r_1, r_4, r_8, bx b8 47 [vs s12.2.1, vb s12.2.2.1, vi s12.2.2.2.1, sv p16 s12.2.2.2.2.1 c16, vb s12.2.2.2.2.2.1, vs s12.2.2.2.2.2.2]] [Rl e_Literal p16 c16 s12.2.2.2.2.1, Rl (eInt .i64) p1 c1 y0.1, Al e_Premise 44 r_1 p2 c2 s1.2, Al e_Rule 47 r_4 p8 c8 s6.2, Al e_Promotion 49 r_8 p15 c15 s11.2.2]) (
  jdS [] [2, 4] 11<|jdf 0 1 rfl rfl<|jdo 1 2 rfl rfl rfl rfl<|jdc 8 [2] rfl<|jdf 3 1 rfl rfl<|jdo 4 2 rfl rfl rfl rfl<|jdc 5 [5] rfl<|jd2 6 9 (jca (.f rfl) [0] [] c_keep_Src_N rfl rfl rfl ⟨ck 0,⟨⟩⟩<|fun r18 _ k=>k<|jdn<|
  jdI 7 2 rfl rfl rfl rfl<|fun x4 h4 b9 hp2=>jdL 8 4 2 sI true o_Rule rfl rfl hp2 h4 rfl<|fun p17 c17=>jd1 9<|jal (.f rfl) (.agg #[vs [], vb false, vi 0, .slice none 0 0, vb false, vs []])<|fun b10=>jdn<|jd1 10<|
  jso (o := 0) (.f rfl) 6 rfl rfl rfl<|jdn<|jde<|jnn (gv (fun _ k=>k b10 p17 c17) [0,1,2,3,4,5,6] ⟨gk 0,gk 1,gk 2,gk 3,gk 4,⟨⟩⟩)) <|jal (.f rfl) (.agg #[vs [], vb false, vi 0, .slice none 0 0, vb false, vs []])<|fun b11=>jdn<|jd1 6<|
  jca (.f rfl) [0] [] c_keep_Src_N rfl rfl rfl ⟨ck 0,⟨⟩⟩<|fun r19 _ k=>k<|jdn<|jdI 7 2 rfl rfl rfl rfl<|fun x5 h5 b12 hp3=>jdL 8 4 2 sI true o_Rule rfl rfl hp3 h5 rfl<|fun p18 c18=>jd1 10<|jso (o := 0) (.f rfl) 6 rfl rfl rfl<|jdn<|jde<|
  jnn (gv (fun _ k=>k b11 p18 c18) [0,1,2,3,4,5,6] ⟨gk 0,gk 1,gk 2,gk 3,gk 4,⟨⟩⟩))<|fun s12 _ k b8 p16 c16=>k<|jsr<|jfa 1 rfl<|jlo 6 rfl rfl rfl<|jpc 1 rfl<|jot<|jif rfl (jdS [13] [2, 6] 14<|jdf 0 2 rfl rfl<|jdo 1 2 rfl rfl rfl rfl<|
  jdf 2 0 rfl rfl<|jdo 3 6 rfl rfl rfl rfl<|jdc 7 [4,6,7] rfl<|jd1 5<|jca (.f rfl) [0] [] c_keep_Src_N rfl rfl rfl ⟨ck 1,⟨⟩⟩<|fun r20 _ k=>k<|jdn<|jd1 8<|jca (.f rfl) [0] [] c_keep_Src_Literal rfl rfl rfl ⟨ck 1,⟨⟩⟩<|fun r21 _ k=>k<|jdn<|
  jdp 9 (.agg #[vs s12.2.1, vi r20.1, vb r21.1.1, vs r21.1.2]) rfl<|jd1 10<|jbs (.f rfl) (e := e_Promotion) 49 [vs s12.2.1, vi r20.1, vb r21.1.1, vs r21.1.2] ([(s12.2.1, r20.1, r21.1)] : List T_Promotion) (rC (vP vS (vP vI (vP vB vS))) rN)<|
  fun p19 c19=>jdn<|jd1 11<|jar (.f rfl) 5 5 rfl (gk 0) rfl rfl<|fun x6 r_9 p20 c20=>jdn<|jdf 12 2 rfl rfl<|jd1 13<|jso (o := 2) (.f rfl) 2 rfl rfl rfl<|jdb [] [2, 6]<|jde<|jbn<|jtn<|jrg<|jpc 3 rfl<|joe<|
  jln (gv (fun _ k=>k p20 c20 r_9) [0,1,2,3,4,5] ⟨gk 0,gk 3,gk 4,gk 5,⟨⟩⟩))<|jsk<|jbn<|jtn<|jrg<|jpc 3 rfl<|joe<|jln (gv (fun _ k=>k p15 c15 r_8) [0,1,2,3,4,5] ⟨gk 4,gk 1,gk 2,gk 3,⟨⟩⟩))<|jxe<|jte<|jle<|jbh<|
  jnn (gv (fun _ k=>k p15 c15 r_8) [0,1,2,3,4,5] ⟨gk 3,gk 0,gk 1,gk 2,⟨⟩⟩))<|fun s10 _ k p14 c14 r_7=>k<|jsr<|jla 2 3 rfl rfl rfl<|jso .s 1 rfl rfl rfl<|jot<|jxr<|jsh 3 2 rfl rfl<|jsh 4 4 rfl rfl<|jsh 5 2 rfl rfl<|
  jrg' rfl (lC 1 (.agg #[sv p2 s1.2 c2, sv p8 s6.2 c8, sv p14 s10.2 c14]) rfl rfl lN) (fun _ k=>k p2 c2 p8 c8 p14 c14) [0] ⟨gk 2,gk 1,gk 0,⟨⟩⟩

theorem c_keep_Src_Odd {qd : Prop} {y0 : T_keep_Src} : Con qd Tryz.prog 19 [pt b1 0] [bx b1 51 [sv p1 y0.1 c1, vi y0.2]] [Rl (eInt .i64) p1 c1 y0.1] (m_keep_Src_Odd y0) fun r K=>K (.agg #[vb r.1.1, vs r.1.2]) [bx b1 51 [sv p1 y0.1 c1, vi r.2]] [] :=
 ent3 Tryz.call19 Tryz.func19 rfl fun X=>jsr<|jal .s (.agg #[vb false, vs []])<|fun b2=>jot<|jsr<|jpc 1 rfl<|jca .s [0] [] c_keep_Src_N rfl rfl rfl ⟨ck 0,⟨⟩⟩<|fun r1 _ k=>k<|jpc 2 rfl<|
  jbs .s (e := eStr) 9 [vs [], vs [97], vs [65], vs [97, 49, 95], vs [49, 97], vs [95, 97], vs [97, 98, 99, 100, 101, 102, 103, 104, 105, 106, 107, 108], vs [97, 98, 99, 100, 101, 102, 103, 104, 105, 106, 107, 108, 109], vs [97, 126], vs [126, 97], vs [97, 32, 98]] ([[], [97], [65], [97, 49, 95], [49, 97], [95, 97], [97, 98, 99, 100, 101, 102, 103, 104, 105, 106, 107, 108], [97, 98, 99, 100, 101, 102, 103, 104, 105, 106, 107, 108, 109], [97, 126], [126, 97], [97, 32, 98]] : List Str) (rC vS (rC vS (rC vS (rC vS (rC vS (rC vS (rC vS (rC vS (rC vS (rC vS (rC vS rN)))))))))))<|
  fun p2 c2=>jca .s [0] [] c_keep_Src_Text rfl rfl rfl ⟨ck 1,ck 0,⟨⟩⟩<|fun r2 _ k=>k<|jpe (.agg #[vb (r1.1 == 1), vs r2.1])<|jso .s 1 rfl rfl rfl<|jot<|jxr<|jrg' rfl (lC 1 (.agg #[vb (r1.1 == 1), vs r2.1]) rfl rfl lN) (fun _ k=>k) [0] ⟨⟩

theorem c_keep_Src_SpoiltBase {qd : Prop} {y0 : T_keep_Src} {y1 : T_Base} : Con qd Tryz.prog 7 [pt b1 0, .agg #[sv p2 y1.1 c2, sv p3 y1.2.1 c3, sv p4 y1.2.2 c4]] [bx b1 51 [sv p1 y0.1 c1, vi y0.2]] [Rl (eInt .i64) p1 c1 y0.1, Rl e_Premise p2 c2 y1.1, Rl e_Rule p3 c3 y1.2.1, Rl e_Promotion p4 c4 y1.2.2] (m_keep_Src_SpoiltBase y0 y1) fun r K=>∀ p5 c5 p6 c6 p7 c7,K (.agg #[sv p5 r.1.1 c5, sv p6 r.1.2.1 c6, sv p7 r.1.2.2 c7]) [bx b1 51 [sv p1 y0.1 c1, vi r.2]] [Rl e_Premise p5 c5 r.1.1, Rl e_Rule p6 c6 r.1.2.1, Rl e_Promotion p7 c7 r.1.2.2] :=
 ent3 Tryz.call7 Tryz.func7 rfl fun X=>jsr<|jbx .s rfl<|fun b2=>jal .s (.agg #[.slice none 0 0, .slice none 0 0, .slice none 0 0])<|fun b3=>jot<|
  jjn (fun s1 K=>∀ b4 p5 c5 r_1 p6 c6 r_2 p7 c7 r_3,K [(0, pt b1 0), (3, pt b2 0), (4, pt b3 0), (5, pt b4 0)] [bx b1 51 [sv p1 y0.1 c1, vi y0.2], bx b2 26 [sv p2 y1.1 c2, sv p3 y1.2.1 c3, sv p4 y1.2.2 c4], bx b3 26 [.slice none 0 0, .slice none 0 0, .slice none 0 0], bx b4 26 [sv p5 s1.1 c5, sv p6 s1.2.1 c6, sv p7 s1.2.2 c7], r_1, r_2, r_3] [Al e_Premise 44 r_1 p5 c5 s1.1, Nst (e := e_Rule) (f := e_Literal) sI.snd.snd.snd.fst 47 42 r_2 p6 c6 (List.length s1.2.1) s1.2.1, Al e_Promotion 49 r_3 p7 c7 s1.2.2, Rl (eInt .i64) p1 c1 y0.1, Rl e_Premise p2 c2 y1.1, Rl e_Rule p3 c3 y1.2.1, Rl e_Promotion p4 c4 y1.2.2]) (
  jdS [] [1] 11<|jdf 1 0 rfl rfl<|jdo 2 1 rfl rfl rfl rfl<|jdf 5 2 rfl rfl<|jdo 6 1 rfl rfl rfl rfl<|jd3 0 4 9 (jbo (.f rfl) (e := e_Premise) 44 [] ([] : List T_Premise) rN<|fun r_4 p8 c8=>jdn<|jd3 3 4 9 (jar (.f rfl) 3 0 rfl (gk 2) rfl rfl<|
  fun x1 r_5 p9 c9=>jdn<|jd2 4 9 (jbo (.f rfl) (e := e_Promotion) 49 [] ([] : List T_Promotion) rN<|fun r_6 p10 c10=>jdn<|jd2 7 9 (jar (.f rfl) 4 0 rfl (gk 6) rfl rfl<|fun x2 r_7 p11 c11=>jdn<|
  jdp 8 (.agg #[sv p9 x1 c9, .slice none 0 0, sv p11 x2 c11]) rfl<|jnR (e := e_Rule) (f := e_Literal) sI.snd.snd.snd.fst 47 42<|jd1 9<|jal (.f rfl) (.agg #[.slice none 0 0, .slice none 0 0, .slice none 0 0])<|fun b5=>jdn<|jd1 10<|
  jso (o := 0) (.f rfl) 6 rfl rfl rfl<|jdn<|jde<|jnn (gv (fun _ k=>k b5 p9 c9 r_5 none 0 [] p11 c11 r_7) [0,1,2,6,3,5,4] ⟨gk 3,gk 0,gk 1,gk 5,gk 6,gk 7,gk 8,⟨⟩⟩)) <|jal (.f rfl) (.agg #[.slice none 0 0, .slice none 0 0, .slice none 0 0])<|
  fun b6=>jdn<|jd1 7<|jar (.f rfl) 4 0 rfl (gk 6) rfl rfl<|fun x3 r_8 p12 c12=>jdn<|jdp 8 (.agg #[sv p9 x1 c9, .slice none 0 0, sv p12 x3 c12]) rfl<|jnR (e := e_Rule) (f := e_Literal) sI.snd.snd.snd.fst 47 42<|jd1 10<|
  jso (o := 0) (.f rfl) 5 rfl rfl rfl<|jdn<|jde<|jnn (gv (fun _ k=>k b6 p9 c9 r_5 none 0 [] p12 c12 r_8) [0,1,2,5,3,6,4] ⟨gk 3,gk 0,gk 1,gk 5,gk 6,gk 7,gk 8,⟨⟩⟩)) <|jal (.f rfl) (.agg #[.slice none 0 0, .slice none 0 0, .slice none 0 0])<|
  fun b7=>jdn<|jd1 4<|jbo (.f rfl) (e := e_Promotion) 49 [] ([] : List T_Promotion) rN<|fun r_9 p13 c13=>jdn<|jd1 7<|jar (.f rfl) 5 0 rfl (gk 6) rfl rfl<|fun x4 r_10 p14 c14=>jdn<|
  jdp 8 (.agg #[sv p9 x1 c9, .slice none 0 0, sv p14 x4 c14]) rfl<|jnR (e := e_Rule) (f := e_Literal) sI.snd.snd.snd.fst 47 42<|jd1 10<|jso (o := 0) (.f rfl) 4 rfl rfl rfl<|jdn<|jde<|
  jnn (gv (fun _ k=>k b7 p9 c9 r_5 none 0 [] p14 c14 r_10) [0,1,2,4,3,6,5] ⟨gk 3,gk 0,gk 1,gk 5,gk 6,gk 7,gk 8,⟨⟩⟩)) (jbo (.f rfl) (e := e_Promotion) 49 [] ([] : List T_Promotion) rN<|fun r_11 p15 c15=>jdn<|jd2 3 9 (
  jar (.f rfl) 3 1 rfl (gk 3) rfl rfl<|fun x5 r_12 p16 c16=>jdn<|jd2 7 9 (jar (.f rfl) 4 1 rfl (gk 6) rfl rfl<|fun x6 r_13 p17 c17=>jdn<|jdp 8 (.agg #[sv p16 x5 c16, .slice none 0 0, sv p17 x6 c17]) rfl<|
  jnR (e := e_Rule) (f := e_Literal) sI.snd.snd.snd.fst 47 42<|jd1 9<|jal (.f rfl) (.agg #[.slice none 0 0, .slice none 0 0, .slice none 0 0])<|fun b8=>jdn<|jd1 10<|jso (o := 0) (.f rfl) 6 rfl rfl rfl<|jdn<|jde<|
  jnn (gv (fun _ k=>k b8 p16 c16 r_12 none 0 [] p17 c17 r_13) [0,1,2,6,3,5,4] ⟨gk 2,gk 0,gk 1,gk 5,gk 6,gk 7,gk 8,⟨⟩⟩)) <|jal (.f rfl) (.agg #[.slice none 0 0, .slice none 0 0, .slice none 0 0])<|fun b9=>jdn<|jd1 7<|
  jar (.f rfl) 4 1 rfl (gk 6) rfl rfl<|fun x7 r_14 p18 c18=>jdn<|jdp 8 (.agg #[sv p16 x5 c16, .slice none 0 0, sv p18 x7 c18]) rfl<|jnR (e := e_Rule) (f := e_Literal) sI.snd.snd.snd.fst 47 42<|jd1 10<|jso (o := 0) (.f rfl) 5 rfl rfl rfl<|
  jdn<|jde<|jnn (gv (fun _ k=>k b9 p16 c16 r_12 none 0 [] p18 c18 r_14) [0,1,2,5,3,6,4] ⟨gk 2,gk 0,gk 1,gk 5,gk 6,gk 7,gk 8,⟨⟩⟩)) <|jal (.f rfl) (.agg #[.slice none 0 0, .slice none 0 0, .slice none 0 0])<|fun b10=>jdn<|jd1 3<|
  jar (.f rfl) 3 1 rfl (gk 3) rfl rfl<|fun x8 r_15 p19 c19=>jdn<|jd1 7<|jar (.f rfl) 4 1 rfl (gk 6) rfl rfl<|fun x9 r_16 p20 c20=>jdn<|jdp 8 (.agg #[sv p19 x8 c19, .slice none 0 0, sv p20 x9 c20]) rfl<|
  jnR (e := e_Rule) (f := e_Literal) sI.snd.snd.snd.fst 47 42<|jd1 10<|jso (o := 0) (.f rfl) 5 rfl rfl rfl<|jdn<|jde<|jnn (gv (fun _ k=>k b10 p19 c19 r_15 none 0 [] p20 c20 r_16) [0,1,2,5,3,6,4] ⟨gk 2,gk 0,gk 1,gk 5,gk 6,gk 7,gk 8,⟨⟩⟩)) <|
  jal (.f rfl) (.agg #[.slice none 0 0, .slice none 0 0, .slice none 0 0])<|fun b11=>jdn<|jd2 3 4 (jar (.f rfl) 3 0 rfl (gk 2) rfl rfl<|fun x10 r_17 p21 c21=>jdn<|jd1 4<|jbo (.f rfl) (e := e_Promotion) 49 [] ([] : List T_Promotion) rN<|
  fun r_18 p22 c22=>jdn<|jd1 7<|jar (.f rfl) 5 0 rfl (gk 6) rfl rfl<|fun x11 r_19 p23 c23=>jdn<|jdp 8 (.agg #[sv p21 x10 c21, .slice none 0 0, sv p23 x11 c23]) rfl<|jnR (e := e_Rule) (f := e_Literal) sI.snd.snd.snd.fst 47 42<|jd1 10<|
  jso (o := 0) (.f rfl) 4 rfl rfl rfl<|jdn<|jde<|jnn (gv (fun _ k=>k b11 p21 c21 r_17 none 0 [] p23 c23 r_19) [0,1,2,4,3,6,5] ⟨gk 3,gk 0,gk 1,gk 5,gk 6,gk 7,gk 8,⟨⟩⟩)) <|jbo (.f rfl) (e := e_Promotion) 49 [] ([] : List T_Promotion) rN<|
  fun r_20 p24 c24=>jdn<|jd1 3<|jar (.f rfl) 3 1 rfl (gk 3) rfl rfl<|fun x12 r_21 p25 c25=>jdn<|jd1 7<|jar (.f rfl) 5 1 rfl (gk 6) rfl rfl<|fun x13 r_22 p26 c26=>jdn<|jdp 8 (.agg #[sv p25 x12 c25, .slice none 0 0, sv p26 x13 c26]) rfl<|
  jnR (e := e_Rule) (f := e_Literal) sI.snd.snd.snd.fst 47 42<|jd1 10<|jso (o := 0) (.f rfl) 4 rfl rfl rfl<|jdn<|jde<|jnn (gv (fun _ k=>k b11 p25 c25 r_21 none 0 [] p26 c26 r_22) [0,1,2,4,3,6,5] ⟨gk 2,gk 0,gk 1,gk 5,gk 6,gk 7,gk 8,⟨⟩⟩)) (
  jbo (.f rfl) (e := e_Promotion) 49 [] ([] : List T_Promotion) rN<|fun r_23 p27 c27=>jdn<|jd2 0 9 (jbo (.f rfl) (e := e_Premise) 44 [] ([] : List T_Premise) rN<|fun r_24 p28 c28=>jdn<|jd2 3 9 (jar (.f rfl) 4 0 rfl (gk 3) rfl rfl<|
  fun x14 r_25 p29 c29=>jdn<|jd2 7 9 (jar (.f rfl) 3 2 rfl (gk 6) rfl rfl<|fun x15 r_26 p30 c30=>jdn<|jdp 8 (.agg #[sv p29 x14 c29, .slice none 0 0, sv p30 x15 c30]) rfl<|jnR (e := e_Rule) (f := e_Literal) sI.snd.snd.snd.fst 47 42<|jd1 9<|
  jal (.f rfl) (.agg #[.slice none 0 0, .slice none 0 0, .slice none 0 0])<|fun b12=>jdn<|jd1 10<|jso (o := 0) (.f rfl) 6 rfl rfl rfl<|jdn<|jde<|
  jnn (gv (fun _ k=>k b12 p29 c29 r_25 none 0 [] p30 c30 r_26) [0,1,2,6,4,5,3] ⟨gk 2,gk 0,gk 1,gk 5,gk 6,gk 7,gk 8,⟨⟩⟩)) <|jal (.f rfl) (.agg #[.slice none 0 0, .slice none 0 0, .slice none 0 0])<|fun b13=>jdn<|jd1 7<|
  jar (.f rfl) 3 2 rfl (gk 6) rfl rfl<|fun x16 r_27 p31 c31=>jdn<|jdp 8 (.agg #[sv p29 x14 c29, .slice none 0 0, sv p31 x16 c31]) rfl<|jnR (e := e_Rule) (f := e_Literal) sI.snd.snd.snd.fst 47 42<|jd1 10<|jso (o := 0) (.f rfl) 5 rfl rfl rfl<|
  jdn<|jde<|jnn (gv (fun _ k=>k b13 p29 c29 r_25 none 0 [] p31 c31 r_27) [0,1,2,5,4,6,3] ⟨gk 2,gk 0,gk 1,gk 5,gk 6,gk 7,gk 8,⟨⟩⟩)) <|jal (.f rfl) (.agg #[.slice none 0 0, .slice none 0 0, .slice none 0 0])<|fun b14=>jdn<|jd1 3<|
  jar (.f rfl) 4 0 rfl (gk 3) rfl rfl<|fun x17 r_28 p32 c32=>jdn<|jd1 7<|jar (.f rfl) 3 2 rfl (gk 6) rfl rfl<|fun x18 r_29 p33 c33=>jdn<|jdp 8 (.agg #[sv p32 x17 c32, .slice none 0 0, sv p33 x18 c33]) rfl<|
  jnR (e := e_Rule) (f := e_Literal) sI.snd.snd.snd.fst 47 42<|jd1 10<|jso (o := 0) (.f rfl) 5 rfl rfl rfl<|jdn<|jde<|jnn (gv (fun _ k=>k b14 p32 c32 r_28 none 0 [] p33 c33 r_29) [0,1,2,5,4,6,3] ⟨gk 2,gk 0,gk 1,gk 5,gk 6,gk 7,gk 8,⟨⟩⟩)) <|
  jal (.f rfl) (.agg #[.slice none 0 0, .slice none 0 0, .slice none 0 0])<|fun b15=>jdn<|jd1 0<|jbo (.f rfl) (e := e_Premise) 44 [] ([] : List T_Premise) rN<|fun r_30 p34 c34=>jdn<|jd1 3<|jar (.f rfl) 5 0 rfl (gk 3) rfl rfl<|
  fun x19 r_31 p35 c35=>jdn<|jd1 7<|jar (.f rfl) 3 2 rfl (gk 6) rfl rfl<|fun x20 r_32 p36 c36=>jdn<|jdp 8 (.agg #[sv p35 x19 c35, .slice none 0 0, sv p36 x20 c36]) rfl<|jnR (e := e_Rule) (f := e_Literal) sI.snd.snd.snd.fst 47 42<|jd1 10<|
  jso (o := 0) (.f rfl) 4 rfl rfl rfl<|jdn<|jde<|jnn (gv (fun _ k=>k b15 p35 c35 r_31 none 0 [] p36 c36 r_32) [0,1,2,4,5,6,3] ⟨gk 2,gk 0,gk 1,gk 5,gk 6,gk 7,gk 8,⟨⟩⟩)) <|
  jal (.f rfl) (.agg #[.slice none 0 0, .slice none 0 0, .slice none 0 0])<|fun b16=>jdn<|jd2 0 4 (jbo (.f rfl) (e := e_Premise) 44 [] ([] : List T_Premise) rN<|fun r_33 p37 c37=>jdn<|jd2 3 4 (jar (.f rfl) 4 0 rfl (gk 2) rfl rfl<|
  fun x21 r_34 p38 c38=>jdn<|jd1 4<|jbo (.f rfl) (e := e_Promotion) 49 [] ([] : List T_Promotion) rN<|fun r_35 p39 c39=>jdn<|jd1 7<|jar (.f rfl) 5 0 rfl (gk 6) rfl rfl<|fun x22 r_36 p40 c40=>jdn<|
  jdp 8 (.agg #[sv p38 x21 c38, .slice none 0 0, sv p40 x22 c40]) rfl<|jnR (e := e_Rule) (f := e_Literal) sI.snd.snd.snd.fst 47 42<|jd1 10<|jso (o := 0) (.f rfl) 3 rfl rfl rfl<|jdn<|jde<|
  jnn (gv (fun _ k=>k b16 p38 c38 r_34 none 0 [] p40 c40 r_36) [0,1,2,3,4,6,5] ⟨gk 3,gk 0,gk 1,gk 5,gk 6,gk 7,gk 8,⟨⟩⟩)) <|jbo (.f rfl) (e := e_Promotion) 49 [] ([] : List T_Promotion) rN<|fun r_37 p41 c41=>jdn<|jd1 3<|
  jar (.f rfl) 4 1 rfl (gk 3) rfl rfl<|fun x23 r_38 p42 c42=>jdn<|jd1 7<|jar (.f rfl) 5 1 rfl (gk 6) rfl rfl<|fun x24 r_39 p43 c43=>jdn<|jdp 8 (.agg #[sv p42 x23 c42, .slice none 0 0, sv p43 x24 c43]) rfl<|
  jnR (e := e_Rule) (f := e_Literal) sI.snd.snd.snd.fst 47 42<|jd1 10<|jso (o := 0) (.f rfl) 3 rfl rfl rfl<|jdn<|jde<|jnn (gv (fun _ k=>k b16 p42 c42 r_38 none 0 [] p43 c43 r_39) [0,1,2,3,4,6,5] ⟨gk 2,gk 0,gk 1,gk 5,gk 6,gk 7,gk 8,⟨⟩⟩)) <|
  jbo (.f rfl) (e := e_Promotion) 49 [] ([] : List T_Promotion) rN<|fun r_40 p44 c44=>jdn<|jd1 0<|jbo (.f rfl) (e := e_Premise) 44 [] ([] : List T_Premise) rN<|fun r_41 p45 c45=>jdn<|jd1 3<|jar (.f rfl) 5 0 rfl (gk 3) rfl rfl<|
  fun x25 r_42 p46 c46=>jdn<|jd1 7<|jar (.f rfl) 4 2 rfl (gk 6) rfl rfl<|fun x26 r_43 p47 c47=>jdn<|jdp 8 (.agg #[sv p46 x25 c46, .slice none 0 0, sv p47 x26 c47]) rfl<|jnR (e := e_Rule) (f := e_Literal) sI.snd.snd.snd.fst 47 42<|jd1 10<|
  jso (o := 0) (.f rfl) 3 rfl rfl rfl<|jdn<|jde<|jnn (gv (fun _ k=>k b16 p46 c46 r_42 none 0 [] p47 c47 r_43) [0,1,2,3,5,6,4] ⟨gk 2,gk 0,gk 1,gk 5,gk 6,gk 7,gk 8,⟨⟩⟩))<|fun s1 _ k b4 p5 c5 r_1 p6 c6 r_2 p7 c7 r_3=>k<|
  jjn (fun s2 K=>∀ p48 c48 r_44,K [(0, pt b1 0), (4, pt b3 0), (5, pt b4 0)] [bx b1 51 [sv p1 y0.1 c1, vi y0.2], [], bx b3 26 [.slice none 0 0, .slice none 0 0, .slice none 0 0], bx b4 26 [sv p5 s1.1 c5, sv p48 s2 c48, sv p7 s1.2.2 c7], r_1, r_44, r_3] [Nst (e := e_Rule) (f := e_Literal) sI.snd.snd.snd.fst 47 42 r_44 p48 c48 (List.length s2) s2, Rl (eInt .i64) p1 c1 y0.1, Al e_Premise 44 r_1 p5 c5 s1.1, Al e_Promotion 49 r_3 p7 c7 s1.2.2]) (
  jsr<|jfa 1 rfl<|jlo 1 rfl rfl rfl<|jpc 2 rfl<|jot<|jbk<|
  jlp (fun s3 K=>∀ p49 c49 r_45,K [(0, pt b1 0), (4, pt b3 0), (5, pt b4 0), (20, sv p3 y1.2.1 c3), (21, vi (len y1.2.1)), (22, vi s3.1)] [bx b1 51 [sv p1 y0.1 c1, vi y0.2], [], bx b3 26 [.slice none 0 0, .slice none 0 0, .slice none 0 0], bx b4 26 [sv p5 s1.1 c5, sv p49 s3.2 c49, sv p7 s1.2.2 c7], r_1, r_45, r_3] [Nst (e := e_Rule) (f := e_Literal) sI.snd.snd.snd.fst 47 42 r_45 p49 c49 (List.length s3.2) s3.2, Rl e_Rule p3 c3 y1.2.1, Rl (eInt .i64) p1 c1 y0.1, Al e_Premise 44 r_1 p5 c5 s1.1, Al e_Promotion 49 r_3 p7 c7 s1.2.2]) (gv (fun _ k=>k p6 c6 r_2) [0,901,2,3,4,5,6] ⟨gk 1,gk 5,gk 3,gk 0,gk 2,⟨⟩⟩)<|
  fun s3 _ k p49 c49 r_45=>k<|jsr<|jpc 1 rfl<|jot<|jsq<|jif rfl (jsk<|jtn<|jsq<|jbk<|jsr<|jix 1 rfl rfl rfl<|fun x27 b17 o1=>jld true o_Rule (gk 0) rfl<|fun p50 c50=>jal .s (.agg #[vs [], vb false, vi 0, .slice none 0 0, vb false, vs []])<|
  fun b18=>jso .s 7 rfl rfl rfl<|jot<|jsr<|jbo .s (e := e_Literal) 42 [] ([] : List T_Literal) rN<|fun r_46 p51 c51=>jfa 3 rfl<|jlo 7 rfl rfl rfl<|jar .s 8 0 rfl (gk 1) rfl rfl<|fun x28 r_47 p52 c52=>jfa 3 rfl<|jso .s 7 rfl rfl rfl<|jot<|
  jrg<|jfa 1 rfl<|jlo 3 rfl rfl rfl<|jla 7 6 rfl rfl rfl<|
  jbs .s (e := eRaw 6) 47 [vs x27.1, vb x27.2.1, vi x27.2.2.1, sv p52 x28 c52, vb x27.2.2.2.2.1, vs x27.2.2.2.2.2] [[vs x27.1, vb x27.2.1, vi x27.2.2.1, sv p52 x28 c52, vb x27.2.2.2.2.1, vs x27.2.2.2.2.2]] (rC (rw1 (e := e_Rule)) rN)<|
  fun p53 c53=>jnA .s (u0 := (x27.1, x27.2.1, x27.2.2.1, x28, x27.2.2.2.2)) 5 8 5 1 rfl (gk 0) rfl (vP vS (vP vB (vP vI (vP (vL gn) (vP vB vS))))) rfl rfl rfl<|fun x29 r_48 p54 c54=>jfa 1 rfl<|jso .s 3 rfl rfl rfl<|joe<|jbn<|jtn<|jrg<|
  jpc 2 rfl<|joe<|jln (gv (fun _ k=>k p54 c54 r_48) [0,901,2,3,4,5,6] ⟨gk 0,gk 7,gk 8,gk 9,gk 10,⟨⟩⟩))<|jxe<|jte<|jle<|jbh<|jnn (gv (fun _ k=>k p49 c49 r_45) [0,901,2,3,4,5,6] ⟨gk 0,gk 2,gk 3,gk 4,⟨⟩⟩))<|fun s2 _ k p48 c48 r_44=>k<|jsq<|jsr<|
  jpc 1 rfl<|jfa 0 rfl<|jlo 3 rfl rfl rfl<|jpc 1 rfl<|jca .s [0] [] c_keep_Src_N rfl rfl rfl ⟨ck 1,⟨⟩⟩<|fun r1 _ k=>k<|jpc 1 rfl<|jot<|
  jjn (fun s4 K=>K [(0, pt b1 0), (4, pt b3 0), (5, pt b4 0), (8, vi r1.1), (51, vb s4.1)] [bx b1 51 [sv p1 y0.1 c1, vi s4.2], [], bx b3 26 [.slice none 0 0, .slice none 0 0, .slice none 0 0], bx b4 26 [sv p5 s1.1 c5, sv p48 s2 c48, sv p7 s1.2.2 c7], r_1, r_44, r_3] [Rl (eInt .i64) p1 c1 y0.1, Al e_Premise 44 r_1 p5 c5 s1.1, Nst (e := e_Rule) (f := e_Literal) sI.snd.snd.snd.fst 47 42 r_44 p48 c48 (List.length s2) s2, Al e_Promotion 49 r_3 p7 c7 s1.2.2]) (
  jrg<|jfa 0 rfl<|jlo 3 rfl rfl rfl<|jpc 3 rfl<|jsg 47 rfl (jpc 1 rfl<|jca .s [0] [] c_keep_Src_N rfl rfl rfl ⟨ck 1,⟨⟩⟩<|fun r2 _ k=>k<|jpc 1 rfl<|jpe (vb (r2.1 == 0))<|joe<|jnn (gv (fun _ k=>k) [0,901,2,3,4,5,6] ⟨gk 1,gk 2,gk 0,gk 3,⟨⟩⟩))<|
  jpc 3 rfl<|jpe (vb false)<|joe<|jnn (gv (fun _ k=>k) [0,901,2,3,4,5,6] ⟨gk 1,gk 2,gk 0,gk 3,⟨⟩⟩))<|fun s4 _ k=>k<|jif rfl (
  jjn (fun s5 K=>∀ p55 c55 r_49 p56 c56 r_50,K [(4, pt b3 0), (5, pt b4 0)] [bx b1 51 [sv p1 y0.1 c1, vi s5.1], [], bx b3 26 [.slice none 0 0, .slice none 0 0, .slice none 0 0], bx b4 26 [sv p55 s5.2.1 c55, sv p56 s5.2.2 c56, sv p7 s1.2.2 c7], r_49, r_50, r_3] [Al e_Premise 44 r_49 p55 c55 s5.2.1, Al e_Rule 47 r_50 p56 c56 s5.2.2, Rl (eInt .i64) p1 c1 y0.1, Al e_Promotion 49 r_3 p7 c7 s1.2.2]) (
  jsr<|jpc 1 rfl<|jca .s [0] [] c_keep_Src_N rfl rfl rfl ⟨ck 0,⟨⟩⟩<|fun r3 _ k=>k<|jot<|jbk<|jsr<|jpc 2 rfl<|jot<|jif rfl (jun ⟨fun _ _=>rfl,fun _=>rfl⟩ 5 2 rfl<|fun r_51=>jdS [] [3] 9<|jdf 0 0 rfl rfl<|jdo 1 3 rfl rfl rfl rfl<|
  jdc 5 [2,3] rfl<|jd1 4<|jca (.f rfl) [0] [] c_keep_Src_N rfl rfl rfl ⟨ck 1,⟨⟩⟩<|fun r4 _ k=>k<|jdn<|jdc 3 [5] rfl<|jdI 6 2 rfl rfl rfl rfl<|fun x30 h29 b19 hp1=>jdf 7 2 rfl rfl<|jd1 8<|
  jsA (.f rfl) 4 2 sI.snd.fst (w64 (r4.1 - 1)) false rfl hp1 h29 rfl rfl vI<|fun r_52=>jdn<|jde<|jbn<|
  jbL (fun q_=>[bx b1 51 [sv p1 y0.1 c1, vi r4.2], [], bx b3 26 [.slice none 0 0, .slice none 0 0, .slice none 0 0], bx b4 26 [.slice p5 q_ c5, sv p48 s2 c48, sv p7 s1.2.2 c7], r_52, r_51, r_3]) (gk 0) rfl<|
  jnn (gv (fun _ k=>k p5 c5 r_52 p48 c48 r_51) [0,901,2,3,4,5,6] ⟨gk 0,gk 2,gk 3,gk 6,⟨⟩⟩))<|jsr<|jpc 2 rfl<|jot<|jif rfl (jun ⟨fun _ _=>rfl,fun _=>rfl⟩ 5 2 rfl<|fun r_53=>jdS [] [3] 9<|jdf 0 0 rfl rfl<|jdo 1 3 rfl rfl rfl rfl<|
  jdc 5 [2,3] rfl<|jd1 4<|jbs (.f rfl) (e := eInt .i64) 3 [vi (-1), vi 0, vi 9, vi 10] ([(-1), 0, 9, 10] : List Int) (rC vI (rC vI (rC vI (rC vI rN))))<|fun p57 c57=>jdn<|jd1 5<|jca (.f rfl) [0] [] c_keep_Src_Pick rfl rfl rfl ⟨ck 2,ck 0,⟨⟩⟩<|
  fun r5 _ k=>k<|jdn<|jdI 6 3 rfl rfl rfl rfl<|fun x31 h30 b20 hp2=>jdf 7 3 rfl rfl<|jd1 8<|jsA (.f rfl) 4 3 sI.snd.snd.fst r5.1 false rfl hp2 h30 rfl rfl vI<|fun r_54=>jdn<|jde<|jbn<|
  jbL (fun q_=>[bx b1 51 [sv p1 y0.1 c1, vi r5.2], [], bx b3 26 [.slice none 0 0, .slice none 0 0, .slice none 0 0], bx b4 26 [.slice p5 q_ c5, sv p48 s2 c48, sv p7 s1.2.2 c7], r_54, r_53, r_3]) (gk 0) rfl<|
  jnn (gv (fun _ k=>k p5 c5 r_54 p48 c48 r_53) [0,901,2,3,4,5,6] ⟨gk 0,gk 3,gk 4,gk 7,⟨⟩⟩))<|jsr<|jpc 2 rfl<|jot<|jif rfl (jun ⟨fun _ _=>rfl,fun _=>rfl⟩ 5 2 rfl<|fun r_55=>jdS [] [3] 8<|jdf 0 0 rfl rfl<|jdo 1 3 rfl rfl rfl rfl<|
  jdc 4 [2,3] rfl<|jd1 4<|jca (.f rfl) [0] [] c_keep_Src_Odd rfl rfl rfl ⟨ck 1,⟨⟩⟩<|fun r6 _ k=>k<|jdn<|jdI 5 2 rfl rfl rfl rfl<|fun x32 h31 b21 hp3=>jdf 6 0 rfl rfl<|jd1 7<|jsA (.f rfl) 4 2 sI.fst r6.1 true rfl hp3 h31 rfl rfl (vP vB vS)<|
  fun r_56=>jdn<|jde<|jbn<|jbL (fun q_=>[bx b1 51 [sv p1 y0.1 c1, vi r6.2], [], bx b3 26 [.slice none 0 0, .slice none 0 0, .slice none 0 0], bx b4 26 [.slice p5 q_ c5, sv p48 s2 c48, sv p7 s1.2.2 c7], r_56, r_55, r_3]) (gk 0) rfl<|
  jnn (gv (fun _ k=>k p5 c5 r_56 p48 c48 r_55) [0,901,2,3,4,5,6] ⟨gk 0,gk 2,gk 3,gk 6,⟨⟩⟩))<|jsr<|jpc 2 rfl<|jot<|jif rfl (jun ⟨fun _ _=>rfl,fun _=>rfl⟩ 5 2 rfl<|fun r_57=>jdS [] [3] 9<|jdf 0 0 rfl rfl<|jdo 1 3 rfl rfl rfl rfl<|
  jdc 5 [2,3] rfl<|jd1 4<|jbs (.f rfl) (e := eStr) 9 [vs [65], vs [], vs [97]] ([[65], [], [97]] : List Str) (rC vS (rC vS (rC vS rN)))<|fun p58 c58=>jdn<|jd1 5<|jca (.f rfl) [0] [] c_keep_Src_Text rfl rfl rfl ⟨ck 2,ck 0,⟨⟩⟩<|fun r7 _ k=>k<|
  jdn<|jdI 6 3 rfl rfl rfl rfl<|fun x33 h32 b22 hp4=>jdf 7 4 rfl rfl<|jd1 8<|jsA (.f rfl) 4 3 sI.snd.snd.snd r7.1 false rfl hp4 h32 rfl rfl vS<|fun r_58=>jdn<|jde<|jbn<|
  jbL (fun q_=>[bx b1 51 [sv p1 y0.1 c1, vi r7.2], [], bx b3 26 [.slice none 0 0, .slice none 0 0, .slice none 0 0], bx b4 26 [.slice p5 q_ c5, sv p48 s2 c48, sv p7 s1.2.2 c7], r_58, r_57, r_3]) (gk 0) rfl<|
  jnn (gv (fun _ k=>k p5 c5 r_58 p48 c48 r_57) [0,901,2,3,4,5,6] ⟨gk 0,gk 3,gk 4,gk 7,⟨⟩⟩))<|jun ⟨fun _ _=>rfl,fun _=>rfl⟩ 5 2 rfl<|fun r_59=>jdS [10] [3, 4] 11<|jdf 0 0 rfl rfl<|jdo 1 3 rfl rfl rfl rfl<|jdc 8 [2] rfl<|jdf 3 0 rfl rfl<|
  jdo 4 3 rfl rfl rfl rfl<|jdI 5 2 rfl rfl rfl rfl<|fun x34 h33 b23 hp5=>jdf 6 0 rfl rfl<|jdL 7 4 2 sI.fst true o_Literal rfl rfl hp5 h33 rfl<|jdI 8 2 rfl rfl rfl rfl<|fun x35 h34 b24 hp6=>jdf 9 0 rfl rfl<|jd1 10<|
  jsA (.f rfl) 4 2 sI.fst x34.1 true rfl hp6 h34 rfl rfl (vP vB vS)<|fun r_60=>jdb [] [3, 4]<|jde<|jbn<|
  jbL (fun q_=>[bx b1 51 [sv p1 y0.1 c1, vi r3.2], [], bx b3 26 [.slice none 0 0, .slice none 0 0, .slice none 0 0], bx b4 26 [.slice p5 q_ c5, sv p48 s2 c48, sv p7 s1.2.2 c7], r_60, r_59, r_3]) (gk 0) rfl<|
  jnn (gv (fun _ k=>k p5 c5 r_60 p48 c48 r_59) [0,901,2,3,4,5,6] ⟨gk 0,gk 2,gk 3,gk 6,⟨⟩⟩))<|fun s5 _ k p55 c55 r_49 p56 c56 r_50=>k<|jsr<|jla 3 3 rfl rfl rfl<|jso .s 2 rfl rfl rfl<|jot<|jxr<|jtr<|jsh 4 0 rfl rfl<|jsh 5 2 rfl rfl<|
  jsh 6 5 rfl rfl<|jrg' rfl (lC 2 (.agg #[sv p55 s5.2.1 c55, sv p56 s5.2.2 c56, sv p7 s1.2.2 c7]) rfl rfl lN) (fun _ k=>k p55 c55 p56 c56 p7 c7) [0] ⟨gk 2,gk 1,gk 0,⟨⟩⟩)<|jsk<|jtn<|jsq<|jsr<|jpc 1 rfl<|jfa 1 rfl<|jlo 3 rfl rfl rfl<|
  jpc 1 rfl<|jca .s [0] [] c_keep_Src_N rfl rfl rfl ⟨ck 0,⟨⟩⟩<|fun r8 _ k=>k<|jpc 1 rfl<|jot<|
  jjn (fun s6 K=>K [(0, pt b1 0), (4, pt b3 0), (5, pt b4 0), (9, vi r8.1), (117, vb s6.1)] [bx b1 51 [sv p1 y0.1 c1, vi s6.2], [], bx b3 26 [.slice none 0 0, .slice none 0 0, .slice none 0 0], bx b4 26 [sv p5 s1.1 c5, sv p48 s2 c48, sv p7 s1.2.2 c7], r_1, r_44, r_3] [Rl (eInt .i64) p1 c1 y0.1, Al e_Premise 44 r_1 p5 c5 s1.1, Nst (e := e_Rule) (f := e_Literal) sI.snd.snd.snd.fst 47 42 r_44 p48 c48 (List.length s2) s2, Al e_Promotion 49 r_3 p7 c7 s1.2.2]) (
  jrg<|jfa 1 rfl<|jlo 3 rfl rfl rfl<|jpc 3 rfl<|jsg 113 rfl (jpc 1 rfl<|jca .s [0] [] c_keep_Src_N rfl rfl rfl ⟨ck 0,⟨⟩⟩<|fun r9 _ k=>k<|jpc 1 rfl<|jpe (vb (decide (0 < r9.1)))<|joe<|
  jnn (gv (fun _ k=>k) [0,901,2,3,4,5,6] ⟨gk 0,gk 1,gk 2,gk 3,⟨⟩⟩))<|jpc 3 rfl<|jpe (vb false)<|joe<|jnn (gv (fun _ k=>k) [0,901,2,3,4,5,6] ⟨gk 0,gk 1,gk 2,gk 3,⟨⟩⟩))<|fun s6 _ k=>k<|jif rfl (
  jjn (fun s7 K=>∀ p59 c59 r_61,K [(4, pt b3 0), (5, pt b4 0)] [bx b1 51 [sv p1 y0.1 c1, vi s7.1], [], bx b3 26 [.slice none 0 0, .slice none 0 0, .slice none 0 0], bx b4 26 [sv p5 s1.1 c5, sv p59 s7.2 c59, sv p7 s1.2.2 c7], r_1, r_61, r_3] [Al e_Rule 47 r_61 p59 c59 s7.2, Rl (eInt .i64) p1 c1 y0.1, Al e_Premise 44 r_1 p5 c5 s1.1, Al e_Promotion 49 r_3 p7 c7 s1.2.2]) (
  jsr<|jpc 1 rfl<|jca .s [0] [] c_keep_Src_N rfl rfl rfl ⟨ck 0,⟨⟩⟩<|fun r10 _ k=>k<|jot<|jbk<|jsr<|jpc 2 rfl<|jot<|jif rfl (jun ⟨fun _ _=>rfl,fun _=>rfl⟩ 5 2 rfl<|fun r_62=>jdS [] [3] 9<|jdf 0 1 rfl rfl<|jdo 1 3 rfl rfl rfl rfl<|
  jdc 5 [2,3] rfl<|jd1 4<|jbs (.f rfl) (e := eStr) 9 [vs [], vs [114, 97], vs [82], vs [114, 98]] ([[], [114, 97], [82], [114, 98]] : List Str) (rC vS (rC vS (rC vS (rC vS rN))))<|fun p60 c60=>jdn<|jd1 5<|
  jca (.f rfl) [0] [] c_keep_Src_Text rfl rfl rfl ⟨ck 2,ck 0,⟨⟩⟩<|fun r11 _ k=>k<|jdn<|jdI 6 1 rfl rfl rfl rfl<|fun x36 h35 b25 hp7=>jdf 7 0 rfl rfl<|jd1 8<|jsA (.f rfl) 5 1 sI.fst r11.1 false rfl hp7 h35 rfl rfl vS<|fun r_63=>jdn<|jde<|jbn<|
  jbL (fun q_=>[bx b1 51 [sv p1 y0.1 c1, vi r11.2], [], bx b3 26 [.slice none 0 0, .slice none 0 0, .slice none 0 0], bx b4 26 [sv p5 s1.1 c5, .slice p48 q_ c48, sv p7 s1.2.2 c7], r_1, r_63, r_3]) (gk 0) rfl<|
  jnn (gv (fun _ k=>k p48 c48 r_63) [0,901,2,3,4,5,6] ⟨gk 0,gk 4,gk 5,gk 7,⟨⟩⟩))<|jsr<|jpc 2 rfl<|jot<|jif rfl (jun ⟨fun _ _=>rfl,fun _=>rfl⟩ 5 2 rfl<|fun r_64=>jdS [] [3] 9<|jdf 0 1 rfl rfl<|jdo 1 3 rfl rfl rfl rfl<|jdc 5 [2,3] rfl<|jd1 4<|
  jbs (.f rfl) (e := eInt .i64) 3 [vi (-1), vi 0, vi 1, vi 9, vi 10] ([(-1), 0, 1, 9, 10] : List Int) (rC vI (rC vI (rC vI (rC vI (rC vI rN)))))<|fun p61 c61=>jdn<|jd1 5<|jca (.f rfl) [0] [] c_keep_Src_Pick rfl rfl rfl ⟨ck 2,ck 0,⟨⟩⟩<|
  fun r12 _ k=>k<|jdn<|jdI 6 1 rfl rfl rfl rfl<|fun x37 h36 b26 hp8=>jdf 7 2 rfl rfl<|jd1 8<|jsA (.f rfl) 5 1 sI.snd.snd.fst r12.1 false rfl hp8 h36 rfl rfl vI<|fun r_65=>jdn<|jde<|jbn<|
  jbL (fun q_=>[bx b1 51 [sv p1 y0.1 c1, vi r12.2], [], bx b3 26 [.slice none 0 0, .slice none 0 0, .slice none 0 0], bx b4 26 [sv p5 s1.1 c5, .slice p48 q_ c48, sv p7 s1.2.2 c7], r_1, r_65, r_3]) (gk 0) rfl<|
  jnn (gv (fun _ k=>k p48 c48 r_65) [0,901,2,3,4,5,6] ⟨gk 0,gk 4,gk 5,gk 7,⟨⟩⟩))<|jsr<|jpc 2 rfl<|jot<|jif rfl (jun ⟨fun _ _=>rfl,fun _=>rfl⟩ 5 2 rfl<|fun r_66=>jdS [12] [3, 5] 13<|jdf 0 1 rfl rfl<|jdo 1 3 rfl rfl rfl rfl<|jdc 10 [2] rfl<|
  jdf 3 1 rfl rfl<|jdo 4 3 rfl rfl rfl rfl<|jdc 7 [5] rfl<|jdI 6 0 rfl rfl rfl rfl<|fun x38 h37 b27 hp9=>jdf 7 1 rfl rfl<|jdL 8 5 0 sI.snd.fst false oB rfl rfl hp9 h37 rfl<|jdc 3 [9] rfl<|jdI 10 0 rfl rfl rfl rfl<|fun x39 h38 b28 hp10=>
  jdf 11 1 rfl rfl<|jd1 12<|jsA (.f rfl) 5 0 sI.snd.fst (!x38.2.1) false rfl hp10 h38 rfl rfl vB<|fun r_67=>jdb [] [3, 5]<|jde<|jbn<|
  jbL (fun q_=>[bx b1 51 [sv p1 y0.1 c1, vi r10.2], [], bx b3 26 [.slice none 0 0, .slice none 0 0, .slice none 0 0], bx b4 26 [sv p5 s1.1 c5, .slice p48 q_ c48, sv p7 s1.2.2 c7], r_1, r_67, r_3]) (gk 0) rfl<|
  jnn (gv (fun _ k=>k p48 c48 r_67) [0,901,2,3,4,5,6] ⟨gk 0,gk 3,gk 4,gk 6,⟨⟩⟩))<|jsr<|jpc 2 rfl<|jot<|jif rfl (jun ⟨fun _ _=>rfl,fun _=>rfl⟩ 5 2 rfl<|fun r_68=>jdS [] [3] 8<|jdf 0 1 rfl rfl<|jdo 1 3 rfl rfl rfl rfl<|jdc 4 [2,3] rfl<|jd1 4<|
  jca (.f rfl) [0] [] c_keep_Src_Odd rfl rfl rfl ⟨ck 1,⟨⟩⟩<|fun r13 _ k=>k<|jdn<|jdI 5 0 rfl rfl rfl rfl<|fun x40 h39 b29 hp11=>jdf 6 4 rfl rfl<|jd1 7<|jsA (.f rfl) 5 0 sI.snd.snd.snd.snd r13.1 true rfl hp11 h39 rfl rfl (vP vB vS)<|fun r_69=>
  jdn<|jde<|jbn<|jbL (fun q_=>[bx b1 51 [sv p1 y0.1 c1, vi r13.2], [], bx b3 26 [.slice none 0 0, .slice none 0 0, .slice none 0 0], bx b4 26 [sv p5 s1.1 c5, .slice p48 q_ c48, sv p7 s1.2.2 c7], r_1, r_69, r_3]) (gk 0) rfl<|
  jnn (gv (fun _ k=>k p48 c48 r_69) [0,901,2,3,4,5,6] ⟨gk 0,gk 3,gk 4,gk 6,⟨⟩⟩))<|jsr<|jpc 2 rfl<|jot<|jif rfl (jnO ⟨fun _ _=>rfl,fun _=>rfl⟩ 5 2 r8.1 rfl<|fun x41 h40 r_70 r_71 p62 c62=>jdS [15] [3, 5] 16<|jdf 0 1 rfl rfl<|
  jdo 1 3 rfl rfl rfl rfl<|jdc 13 [2] rfl<|jdf 3 1 rfl rfl<|jdo 4 3 rfl rfl rfl rfl<|jdc 10 [5] rfl<|jdH 6 0 rfl rfl rfl rfl<|fun x42 h41 b30 hp12=>jdf 7 3 rfl rfl<|jdHL 8 5 0 ⟨fun _ _=>rfl,fun _=>rfl⟩ rfl rfl hp12 h40 rfl<|jdc 6 [9] rfl<|
  jd1 10<|jca (.f rfl) [0] [] c_keep_Src_Literal rfl rfl rfl ⟨ck 2,⟨⟩⟩<|fun r14 _ k=>k<|jdn<|jd1 11<|jbs (.f rfl) (e := e_Literal) 42 [vb r14.1.1, vs r14.1.2] ([r14.1] : List T_Literal) (rC (vP vB vS) rN)<|fun p63 c63=>jdn<|jd1 12<|
  jar (.f rfl) 7 2 rfl (gk 0) rfl rfl<|fun x43 r_72 p64 c64=>jdn<|jdH 13 2 rfl rfl rfl rfl<|fun x44 h43 b31 hp13=>jdf 14 3 rfl rfl<|jsh 7 0 rfl rfl<|jd1 15<|jnS (.f rfl) 5 3 ⟨fun _ _=>rfl,fun _=>rfl⟩ rfl hp13 h40 rfl rfl (gk 0)<|fun r_73=>
  jdb [] [3, 5]<|jde<|jbn<|jbL (fun q_=>[bx b1 51 [sv p1 y0.1 c1, vi r14.2], [], bx b3 26 [.slice none 0 0, .slice none 0 0, .slice none 0 0], bx b4 26 [sv p5 s1.1 c5, .slice p48 q_ c48, sv p7 s1.2.2 c7], r_1, r_73, r_3, []]) (gk 0) rfl<|
  jnn (gv (fun _ k=>k p48 c48 r_73) [0,901,2,3,4,5,6] ⟨gk 0,gk 7,gk 8,gk 10,⟨⟩⟩))<|jsr<|jpc 2 rfl<|jot<|jif rfl (jun ⟨fun _ _=>rfl,fun _=>rfl⟩ 5 2 rfl<|fun r_74=>jdS [] [3] 8<|jdf 0 1 rfl rfl<|jdo 1 3 rfl rfl rfl rfl<|jdc 4 [2,3] rfl<|jd1 4<|
  jca (.f rfl) [0] [] c_keep_Src_Literals rfl rfl rfl ⟨ck 1,⟨⟩⟩<|fun r15 _ k p65 c65=>k<|jdn<|jdI 5 1 rfl rfl rfl rfl<|fun x45 h44 b32 hp14=>jdf 6 3 rfl rfl<|jd1 7<|
  jsA (.f rfl) 5 1 sI.snd.snd.snd.fst r15.1 false rfl hp14 h44 rfl rfl (vL (gk 0))<|fun r_75=>jdn<|jde<|jbn<|
  jbL (fun q_=>[bx b1 51 [sv p1 y0.1 c1, vi r15.2], [], bx b3 26 [.slice none 0 0, .slice none 0 0, .slice none 0 0], bx b4 26 [sv p5 s1.1 c5, .slice p48 q_ c48, sv p7 s1.2.2 c7], r_1, r_75, r_3]) (gk 0) rfl<|
  jnn (gv (fun _ k=>k p48 c48 r_75) [0,901,2,3,4,5,6] ⟨gk 0,gk 4,gk 5,gk 7,⟨⟩⟩))<|jun ⟨fun _ _=>rfl,fun _=>rfl⟩ 5 2 rfl<|fun r_76=>jdS [8, 10] [3, 5] 11<|jdf 0 1 rfl rfl<|jdo 1 3 rfl rfl rfl rfl<|jdf 2 1 rfl rfl<|jdo 3 3 rfl rfl rfl rfl<|
  jdc 6 [4] rfl<|jdI 5 0 rfl rfl rfl rfl<|fun x46 h45 b33 hp15=>jdL 6 5 0 sI true o_Rule rfl rfl hp15 h45 rfl<|fun p66 c66=>jd1 7<|
  jbs (.f rfl) (e := e_Rule) 47 [vs x46.1, vb x46.2.1, vi x46.2.2.1, sv p66 x46.2.2.2.1 c66, vb x46.2.2.2.2.1, vs x46.2.2.2.2.2] ([x46] : List T_Rule) (rC (vP vS (vP vB (vP vI (vP (vL (gk 0)) (vP vB vS))))) rN)<|fun p67 c67=>jdn<|jd1 8<|
  jar (.f rfl) 5 2 rfl (gk 0) rfl rfl<|fun x47 r_77 p68 c68=>jdb [10] [3, 5]<|jdf 9 1 rfl rfl<|jd1 10<|jso (o := 1) (.f rfl) 3 rfl rfl rfl<|jdb [] [3, 5]<|jde<|jbn<|jnn (gv (fun _ k=>k p68 c68 r_77) [0,901,2,3,4,5,6] ⟨gk 0,gk 4,gk 5,gk 7,⟨⟩⟩)
  )<|fun s7 _ k p59 c59 r_61=>k<|jsr<|jla 3 3 rfl rfl rfl<|jso .s 2 rfl rfl rfl<|jot<|jxr<|jtr<|jsh 4 2 rfl rfl<|jsh 5 1 rfl rfl<|jsh 6 5 rfl rfl<|
  jrg' rfl (lC 2 (.agg #[sv p5 s1.1 c5, sv p59 s7.2 c59, sv p7 s1.2.2 c7]) rfl rfl lN) (fun _ k=>k p5 c5 p59 c59 p7 c7) [0] ⟨gk 2,gk 1,gk 0,⟨⟩⟩)<|jsk<|jtn<|jun ⟨fun _ _=>rfl,fun _=>rfl⟩ 5 2 rfl<|fun r_78=>
  jjn (fun s8 K=>∀ p69 c69 r_79,K [(4, pt b3 0), (5, pt b4 0)] [bx b1 51 [sv p1 y0.1 c1, vi s8.1], [], bx b3 26 [.slice none 0 0, .slice none 0 0, .slice none 0 0], bx b4 26 [sv p5 s1.1 c5, sv p48 s2 c48, sv p69 s8.2 c69], r_1, r_78, r_79] [Al e_Promotion 49 r_79 p69 c69 s8.2, Rl (eInt .i64) p1 c1 y0.1, Al e_Premise 44 r_1 p5 c5 s1.1, Al e_Rule 47 r_78 p48 c48 s2]) (
  jdS [14] [3] 15<|jdf 0 2 rfl rfl<|jdo 1 3 rfl rfl rfl rfl<|jdc 10 [2,5,8] rfl<|jd2 3 6 (
  jbs (.f rfl) (e := eStr) 9 [vs [114, 97], vs [114, 98], vs [120], vs []] ([[114, 97], [114, 98], [120], []] : List Str) (rC vS (rC vS (rC vS (rC vS rN))))<|fun p70 c70=>jdn<|jd2 4 6 (
  jca (.f rfl) [0] [] c_keep_Src_Text rfl rfl rfl ⟨ck 2,ck 0,⟨⟩⟩<|fun r16 _ k=>k<|jdn<|jd1 6<|jbs (.f rfl) (e := eInt .i64) 3 [vi (-1), vi 0, vi 9, vi 10] ([(-1), 0, 9, 10] : List Int) (rC vI (rC vI (rC vI (rC vI rN))))<|fun p71 c71=>jdn<|
  jd1 7<|jca (.f rfl) [0] [] c_keep_Src_Pick rfl rfl rfl ⟨ck 3,ck 0,⟨⟩⟩<|fun r17 _ k=>k<|jdn<|jd1 9<|jca (.f rfl) [0] [] c_keep_Src_Literal rfl rfl rfl ⟨ck 3,⟨⟩⟩<|fun r18 _ k=>k<|jdn<|
  jdp 10 (.agg #[vs r16.1, vi r17.1, vb r18.1.1, vs r18.1.2]) rfl<|jd1 11<|jbs (.f rfl) (e := e_Promotion) 49 [vs r16.1, vi r17.1, vb r18.1.1, vs r18.1.2] ([(r16.1, r17.1, r18.1)] : List T_Promotion) (rC (vP vS (vP vI (vP vB vS))) rN)<|
  fun p72 c72=>jdn<|jd1 12<|jar (.f rfl) 6 7 rfl (gk 0) rfl rfl<|fun x48 r_80 p73 c73=>jdn<|jdf 13 2 rfl rfl<|jd1 14<|jso (o := 2) (.f rfl) 3 rfl rfl rfl<|jdb [] [3]<|jde<|
  jnn (gv (fun _ k=>k p73 c73 r_80) [0,901,2,3,4,5,6] ⟨gk 0,gk 5,gk 6,gk 4,⟨⟩⟩)) <|jbs (.f rfl) (e := eInt .i64) 3 [vi (-1), vi 0, vi 9, vi 10] ([(-1), 0, 9, 10] : List Int) (rC vI (rC vI (rC vI (rC vI rN))))<|fun p74 c74=>jdn<|jd1 4<|
  jca (.f rfl) [0] [] c_keep_Src_Text rfl rfl rfl ⟨ck 3,ck 1,⟨⟩⟩<|fun r19 _ k=>k<|jdn<|jd1 7<|jca (.f rfl) [0] [] c_keep_Src_Pick rfl rfl rfl ⟨ck 3,ck 0,⟨⟩⟩<|fun r20 _ k=>k<|jdn<|jd1 9<|
  jca (.f rfl) [0] [] c_keep_Src_Literal rfl rfl rfl ⟨ck 3,⟨⟩⟩<|fun r21 _ k=>k<|jdn<|jdp 10 (.agg #[vs r19.1, vi r20.1, vb r21.1.1, vs r21.1.2]) rfl<|jd1 11<|
  jbs (.f rfl) (e := e_Promotion) 49 [vs r19.1, vi r20.1, vb r21.1.1, vs r21.1.2] ([(r19.1, r20.1, r21.1)] : List T_Promotion) (rC (vP vS (vP vI (vP vB vS))) rN)<|fun p75 c75=>jdn<|jd1 12<|jar (.f rfl) 6 7 rfl (gk 0) rfl rfl<|
  fun x49 r_81 p76 c76=>jdn<|jdf 13 2 rfl rfl<|jd1 14<|jso (o := 2) (.f rfl) 3 rfl rfl rfl<|jdb [] [3]<|jde<|jnn (gv (fun _ k=>k p76 c76 r_81) [0,901,2,3,4,5,6] ⟨gk 0,gk 5,gk 6,gk 4,⟨⟩⟩)) <|
  jbs (.f rfl) (e := eInt .i64) 3 [vi (-1), vi 0, vi 9, vi 10] ([(-1), 0, 9, 10] : List Int) (rC vI (rC vI (rC vI (rC vI rN))))<|fun p77 c77=>jdn<|jd1 3<|
  jbs (.f rfl) (e := eStr) 9 [vs [114, 97], vs [114, 98], vs [120], vs []] ([[114, 97], [114, 98], [120], []] : List Str) (rC vS (rC vS (rC vS (rC vS rN))))<|fun p78 c78=>jdn<|jd1 4<|
  jca (.f rfl) [0] [] c_keep_Src_Text rfl rfl rfl ⟨ck 3,ck 0,⟨⟩⟩<|fun r22 _ k=>k<|jdn<|jd1 7<|jca (.f rfl) [0] [] c_keep_Src_Pick rfl rfl rfl ⟨ck 3,ck 1,⟨⟩⟩<|fun r23 _ k=>k<|jdn<|jd1 9<|
  jca (.f rfl) [0] [] c_keep_Src_Literal rfl rfl rfl ⟨ck 3,⟨⟩⟩<|fun r24 _ k=>k<|jdn<|jdp 10 (.agg #[vs r22.1, vi r23.1, vb r24.1.1, vs r24.1.2]) rfl<|jd1 11<|
  jbs (.f rfl) (e := e_Promotion) 49 [vs r22.1, vi r23.1, vb r24.1.1, vs r24.1.2] ([(r22.1, r23.1, r24.1)] : List T_Promotion) (rC (vP vS (vP vI (vP vB vS))) rN)<|fun p79 c79=>jdn<|jd1 12<|jar (.f rfl) 6 7 rfl (gk 0) rfl rfl<|
  fun x50 r_82 p80 c80=>jdn<|jdf 13 2 rfl rfl<|jd1 14<|jso (o := 2) (.f rfl) 3 rfl rfl rfl<|jdb [] [3]<|jde<|jnn (gv (fun _ k=>k p80 c80 r_82) [0,901,2,3,4,5,6] ⟨gk 0,gk 5,gk 6,gk 4,⟨⟩⟩))<|fun s8 _ k p69 c69 r_79=>k<|jsr<|
  jla 3 3 rfl rfl rfl<|jso .s 2 rfl rfl rfl<|jot<|jxr<|jsh 4 2 rfl rfl<|jsh 5 4 rfl rfl<|jsh 6 2 rfl rfl<|
  jrg' rfl (lC 2 (.agg #[sv p5 s1.1 c5, sv p48 s2 c48, sv p69 s8.2 c69]) rfl rfl lN) (fun _ k=>k p5 c5 p48 c48 p69 c69) [0] ⟨gk 2,gk 1,gk 0,⟨⟩⟩

theorem c_slices_Clone_Literal {qd : Prop} {y0 : List T_Literal} : Con qd Tryz.prog 78 [sv p1 y0 c1] [] [Rl e_Literal p1 c1 y0] (m_slices_Clone_Literal y0) fun r K=>∀ p2 c2 r_1,K (sv p2 r c2) [r_1] [Al e_Literal 42 r_1 p2 c2 r] :=
 ent3 Tryz.call78 Tryz.func78 rfl fun X=>jsr<|jpc 1 rfl<|jot<|jsq<|jsr<|jpc 1 rfl<|jv (fun h=>r_nil h rfl Tryz.underlying45)<|jot<|jnl (m1 := some ([] : List T_Literal)) rfl (gk 0) (fun h=>by first|(rw [h];done)|(rw [h];rfl)|(simp [h,app];done)) (jsr<|jpc 1 rfl<|jot<|jxr<|jtr<|
  jro e_Literal 42<|jrE 0 2 rfl rfl<|jr1 rfl rfl (fun _ k=>k none 0 []) [0] ⟨gk 0,⟨⟩⟩)<|jsk<|jtn<|jsr<|jbo .s (e := e_Literal) 42 [] ([] : List T_Literal) rN<|fun r_1 p2 c2=>jpc 1 rfl<|jar .s 0 0 rfl (gk 1) rfl rfl<|fun x1 r_2 p3 c3=>
  jpc 1 rfl<|jot<|jxr<|jr1 rfl rfl (fun _ k=>k p3 c3 r_2) [0] ⟨gk 0,⟨⟩⟩

theorem c_slices_Compact_Literal {qd : Prop} {y0 : List T_Literal} : Con qd Tryz.prog 80 [sv p1 y0 c1] [r_1] [Al e_Literal 42 r_1 p1 c1 y0] (m_slices_Compact_Literal y0) fun r K=>∀ p2 c2,K (sv p2 r c2) [[]] [Rl e_Literal p2 c2 r] :=
 ent3 Tryz.call80 Tryz.func80 rfl fun X=>jsr<|jpc 1 rfl<|jot<|jsq<|jsr<|jpc 3 rfl<|jot<|jif rfl (jsr<|jpc 2 rfl<|jot<|jxr<|jtr<|jsh 0 0 rfl rfl<|jr1 rfl rfl (fun _ k=>k p1 c1) [900] ⟨gk 0,⟨⟩⟩)<|jsk<|jtn<|jsq<|jsr<|jpc 1 rfl<|jot<|jbk<|
  jlp (fun s1 K=>K [(0, sv p1 y0 c1), (3, vi s1)] [r_1] [Al e_Literal 42 r_1 p1 c1 y0]) (gv (fun _ k=>k) [0] ⟨gk 0,⟨⟩⟩)<|fun s1 _ k=>k<|jsq<|jsr<|jpc 4 rfl<|jot<|jif rfl (jsk<|jtn<|jsq<|jbk<|jds [] [0] 10<|jdc 8 [0,1] rfl<|
  jdI 2 0 rfl rfl rfl rfl<|fun x1 h1 b1 hp1=>jdL 3 0 0 sI true o_Literal rfl rfl hp1 h1 rfl<|jdc 3 [4,5,6] rfl<|jdI 7 0 rfl rfl rfl rfl<|fun x2 h2 b2 hp2=>jdL 8 0 0 sI true o_Literal rfl rfl hp2 h2 rfl<|jdp 9 (vb (x1 == x2)) rfl<|jde<|jtn<|
  jif rfl (jsr<|jpc 2 rfl<|jsV 0 rfl rfl rfl<|fun u1 p2 c2 f1=>jpc 1 rfl<|jot<|jjn (fun s2 K=>∀ r_2,K [(0, .slice p1 (List.length y0) c1), (3, vi s2.2)] [r_2] [Ar e_Literal 42 r_2 p1 c1 (List.length y0) s2.1]) (jsr<|jpc 1 rfl<|jot<|jbk<|
  jlp (fun s3 K=>∀ r_3,K [(0, .slice p1 (List.length y0) c1), (3, vi s3.2.1), (4, .slice p2 (Int.toNat (((List.length y0 : Nat) : Int) - s1)) c2), (5, vi s3.2.2)] [r_3] [Ar e_Literal 42 r_3 p1 c1 (List.length y0) s3.1]) (gv (fun _ k=>k r_1) [0] ⟨gk 0,⟨⟩⟩)<|
  fun s3 _ k r_3=>k<|jsq<|jsr<|jpc 4 rfl<|jot<|jif rfl (jsk<|jtn<|jsq<|jbk<|jds [] [0] 10<|jdc 8 [0,1] rfl<|jdX 2 0 rfl rfl f1 rfl rfl<|fun x3 b3 hp3 h3=>jdL 3 0 0 sI true o_Literal rfl rfl hp3 h3 rfl<|jdc 3 [4,5,6] rfl<|
  jdX 7 0 rfl rfl f1 rfl rfl<|fun x4 b4 hp4 h4=>jdL 8 0 0 sI true o_Literal rfl rfl hp4 h4 rfl<|jdp 9 (vb (!(x3 == x4))) rfl<|jde<|jtn<|jif rfl (jsr<|jpc 4 rfl<|jiV 0 rfl f1 rfl rfl<|fun x5 b5 hp5 h5=>
  jlA 0 0 sI true o_Literal rfl hp5 h5 rfl<|jia 0 rfl rfl rfl<|fun x6 h6 b6 hp6=>jsA .s 0 0 sI x5 true rfl hp6 h6 rfl rfl (vP vB vS)<|fun r_4=>jot<|jrg<|jpc 3 rfl<|joe<|jbn<|jtn<|jrg<|jpc 3 rfl<|joe<|jln (gv (fun _ k=>k r_4) [0] ⟨gk 0,⟨⟩⟩))<|
  jsk<|jbn<|jtn<|jrg<|jpc 3 rfl<|joe<|jln (gv (fun _ k=>k r_3) [0] ⟨gk 0,⟨⟩⟩))<|jxe<|jte<|jle<|jbh<|jnn (gv (fun _ k=>k r_3) [0] ⟨gk 0,⟨⟩⟩))<|fun s2 _ k r_2=>k<|jsr<|jpc 2 rfl<|jsV 0 rfl rfl rfl<|fun u2 p3 c3 f2=>
  jcv .s 0 0 (false, []) (.agg #[vb false, vs []]) rfl f2 rfl (vP vB vS)<|fun r_5=>jot<|jsr<|jpc 2 rfl<|jsP 0 rfl rfl rfl<|fun x7=>jpc 1 rfl<|jot<|jxr<|jbr<|jtr<|jlr<|jbr<|jtr<|jsh 0 0 rfl rfl<|jr1 rfl rfl (fun _ k=>k p1 c1) [900] ⟨gk 0,⟨⟩⟩
  )<|jsk<|jbn<|jtn<|jrg<|jpc 3 rfl<|joe<|jln (gv (fun _ k=>k) [0] ⟨gk 0,⟨⟩⟩))<|jxe<|jte<|jle<|jbh<|jtn<|jsr<|jpc 2 rfl<|jot<|jxr<|jsh 0 0 rfl rfl<|jr1 rfl rfl (fun _ k=>k p1 c1) [900] ⟨gk 0,⟨⟩⟩

theorem c_slices_SortFunc_Literal__literal_Compare {qd : Prop} {y0 : List T_Literal} : Con qd Tryz.prog 79 [sv p1 y0 c1, .func (.func 64) #[] #[]] [r_1] [Al e_Literal 42 r_1 p1 c1 y0] (m_slices_SortFunc_Literal__literal_Compare y0) fun r K=>∀ r_2,K (.tuple #[]) [r_2] [Ar e_Literal 42 r_2 p1 c1 (List.length y0) r] := ⟨Tryz.call79, fun A w0 r hm hO hF => by
 have h := sort_flat (qd := qd) Go.Proofs.Tryz.sort79 (Flat.prod Flat.bool Flat.str) (te := 42) Tryz.isAgg42 Tryz.sizeOf42 m_literal_Compare 64 (enters_of Tryz.func64 (by kernel_rfl) rfl) (fun w x y n hn => ?_) hO hF.1.1 hm
 · change Calls Tryz.prog 79 _ _ _ at h
   refine h.mono fun e w' h => ?_
   cases e with
   | returned v => obtain ⟨r', rfl, h1, h2, h3, h4⟩ := h; exact fun G k => k r' ⟨rfl, h1, h2, ⟨h3, h4.symm⟩, trivial⟩
   | panicked ch => exact h
   | outgrown => exact h
 · refine ((c_literal_Compare (qd := True) (y0 := x) (y1 := y)).go [] w n hn (Own.start (by simp)) trivial).mono fun e w' h => ?_
   cases e with
   | returned v => exact h _ fun ⟨e1, q⟩ => ⟨e1, q.e⟩
   | panicked ch => exact h
   | outgrown => exact h⟩

theorem c_literal_Normal {qd : Prop} {y0 : List T_Literal} : Con qd Tryz.prog 57 [sv p1 y0 c1] [] [Rl e_Literal p1 c1 y0] (m_literal_Normal y0) fun r K=>∀ p2 c2,K (sv p2 r c2) [] [Rl e_Literal p2 c2 r] :=
 ent3 Tryz.call57 Tryz.func57 rfl fun X=>jsr<|jpc 1 rfl<|jot<|jsr<|jpc 1 rfl<|jcl c_slices_Clone_Literal rfl ⟨ck 0,⟨⟩⟩<|fun r1 _ k p2 c2 r_1=>k<|jpc 1 rfl<|jot<|jsr<|jpc 1 rfl<|jca .s [0] [] c_slices_SortFunc_Literal__literal_Compare rfl rfl rfl ⟨ck 0,⟨⟩⟩<|fun r2 _ k r_2=>k<|jot<|
  jsr<|jpc 1 rfl<|jrE 0 8 rfl rfl<|jca .s [0] [] c_slices_Compact_Literal rfl rfl rfl ⟨ck 0,⟨⟩⟩<|fun r3 _ k p3 c3=>k<|jpc 1 rfl<|jot<|jxr<|jr1 rfl rfl (fun _ k=>k p3 c3) [] ⟨gk 0,⟨⟩⟩

theorem c_argument_Conclusions {qd : Prop} {y0 : List T_Argument} {y1 : List Int} : Con qd Tryz.prog 32 [sv p1 y0 c1, sv p2 y1 c2] [] [Rl e_Argument p1 c1 y0, Rl (eInt .i64) p2 c2 y1] (m_argument_Conclusions y0 y1) fun r K=>∀ p3 c3,K (sv p3 r c3) [] [Rl e_Literal p3 c3 r] :=
 ent3 Tryz.call32 Tryz.func32 rfl fun X=>jsr<|jpc 1 rfl<|jot<|jsr<|jpc 1 rfl<|jro e_Literal 42<|jot<|jjn (fun s1 K=>∀ p3 c3 r_1,K [(5, sv p3 s1 c3)] [r_1] [Al e_Literal 42 r_1 p3 c3 s1]) (jsr<|jpc 3 rfl<|jot<|jbk<|
  jlp (fun s2 K=>∀ p4 c4 r_2,K [(0, sv p1 y0 c1), (5, sv p4 s2.1 c4), (8, sv p2 y1 c2), (9, vi (len y1)), (10, vi s2.2)] [r_2] [Al e_Literal 42 r_2 p4 c4 s2.1, Rl e_Argument p1 c1 y0, Rl (eInt .i64) p2 c2 y1]) (gv (fun _ k=>k none 0 []) [0] ⟨gk 0,gk 1,gk 2,⟨⟩⟩)<|
  fun s2 _ k p4 c4 r_2=>k<|jsr<|jpc 1 rfl<|jot<|jsq<|jif rfl (jsk<|jtn<|jsq<|jbk<|jsr<|jix 2 rfl rfl rfl<|fun x1 b1 o1=>jld false oI (gk 0) rfl<|jpc 1 rfl<|jot<|jsr<|jpc 2 rfl<|jcl c_argument_inside rfl ⟨ck 2,⟨⟩⟩<|fun r1 _ k=>k<|jot<|
  jif rfl (jrg<|jpc 3 rfl<|jix 2 rfl rfl rfl<|fun x2 b2 o2=>jfa 3 rfl<|jld true o_Literal (gs (gs (gs (gk 0)))) rfl<|jbs .s (e := e_Literal) 42 [vb x2.2.2.2.1, vs x2.2.2.2.2] ([x2.2.2.2] : List T_Literal) (rC (vP vB vS) rN)<|fun p5 c5=>
  jar .s 0 3 rfl (gk 0) rfl rfl<|fun x3 r_3 p6 c6=>jpc 1 rfl<|joe<|jbn<|jtn<|jrg<|jpc 2 rfl<|joe<|jln (gv (fun _ k=>k p6 c6 r_3) [0] ⟨gk 0,gk 5,gk 6,⟨⟩⟩))<|jsk<|jbn<|jtn<|jrg<|jpc 2 rfl<|joe<|
  jln (gv (fun _ k=>k p4 c4 r_2) [0] ⟨gk 1,gk 2,gk 3,⟨⟩⟩))<|jxe<|jte<|jle<|jbh<|jnn (gv (fun _ k=>k p4 c4 r_2) [0] ⟨gk 0,⟨⟩⟩))<|fun s1 _ k p3 c3 r_1=>k<|jsr<|jpc 1 rfl<|jsh 0 0 rfl rfl<|jcl c_literal_Normal rfl ⟨ck 0,⟨⟩⟩<|fun r2 _ k p7 c7=>
  k<|jpc 1 rfl<|jot<|jxr<|jr1 rfl rfl (fun _ k=>k p7 c7) [] ⟨gk 0,⟨⟩⟩

theorem k_argument_Last_all {qd : Prop} (k : Nat) :
    (∀ {y0 : T_Base} {p1 : Option Addr} {c1 : Nat} {p2 : Option Addr} {c2 : Nat} {p3 : Option Addr} {c3 : Nat} {y1 : List T_Argument} {p4 : Option Addr} {c4 : Nat} {y2 : Int}, Con qd Tryz.prog 31 [.agg #[sv p1 y0.1 c1, sv p2 y0.2.1 c2, sv p3 y0.2.2 c3], sv p4 y1 c4, vi y2] [] [Rl e_Premise p1 c1 y0.1, Rl e_Rule p2 c2 y0.2.1, Rl e_Promotion p3 c3 y0.2.2, Rl e_Argument p4 c4 y1] (k_argument_Last k y0 y1 y2) fun r K=>∀ p5 c5,K (sv p5 r c5) [] [Rl (eInt .i64) p5 c5 r]) := by
  induction k with
  | zero => exact con0 Tryz.call31
  | succ k ih =>
    have ih_argument_Last := @ih
    exact @fun y0 p1 c1 p2 c2 p3 c3 y1 p4 c4 y2=>ent3 (m1 := F_argument_Last (k_argument_Last k) y0 y1 y2) Tryz.call31 Tryz.func31 rfl fun X=>jsr<|jbx .s rfl<|fun b1=>jpc 1 rfl<|jot<|jsq<|
  jjn (fun s1 K=>K [(1, sv p4 y1 c4), (2, vi y2), (3, pt b1 0), (21, vb s1)] [bx b1 26 [sv p1 y0.1 c1, sv p2 y0.2.1 c2, sv p3 y0.2.2 c3]] [Rl e_Argument p4 c4 y1, Rl e_Premise p1 c1 y0.1, Rl e_Rule p2 c2 y0.2.1, Rl e_Promotion p3 c3 y0.2.2]) (
  jrg<|jpc 2 rfl<|jcl c_argument_inside rfl ⟨ck 3,⟨⟩⟩<|fun r1 _ k=>k<|jpc 2 rfl<|jsg 14 rfl (jpc 6 rfl<|jpe (vb true)<|joe<|jnn (gv (fun _ k=>k) [0] ⟨gk 3,gk 0,gk 1,gk 2,⟨⟩⟩))<|jpc 2 rfl<|jix 3 rfl rfl rfl<|fun x1 b2 o1=>jfa 1 rfl<|
  jld false oI (gf (gs (gk 0))) rfl<|jpc 1 rfl<|jpe (vb (decide (x1.2.1 < 0)))<|joe<|jnn (gv (fun _ k=>k) [0] ⟨gk 4,gk 1,gk 2,gk 3,⟨⟩⟩))<|fun s1 _ k=>k<|jif rfl (jsr<|jpc 1 rfl<|jot<|jxr<|jtr<|jr1 rfl rfl (fun _ k=>k none 0) [] ⟨gn,⟨⟩⟩)<|
  jsk<|jtn<|jsq<|jds [] [0] 11<|jdf 0 1 rfl rfl<|jdo 1 0 rfl rfl rfl rfl<|jdc 7 [2,3] rfl<|jdi 4 0 rfl rfl rfl rfl<|fun x2 b3 o2=>jdf 5 1 rfl rfl<|jdl 6 false oI rfl (gf (gs (gk 0))) rfl<|jdi 7 3 rfl rfl rfl rfl<|fun x3 b4 o3=>
  jdf 8 1 rfl rfl<|jdl 9 false oB rfl (gf (gs (gk 0))) rfl<|jdc 0 [10] rfl<|jde<|jtn<|jif rfl (jsr<|jpc 2 rfl<|jix 2 rfl rfl rfl<|fun x4 b5 o4=>jfa 1 rfl<|jld false oI (gf (gs (gk 0))) rfl<|
  jbs .s (e := eInt .i64) 3 [vi x4.2.1] ([x4.2.1] : List Int) (rC vI rN)<|fun p5 c5=>jpc 1 rfl<|jot<|jxr<|jtr<|jr1 rfl rfl (fun _ k=>k p5 c5) [] ⟨gk 0,⟨⟩⟩)<|jsk<|jtn<|jsr<|jpc 1 rfl<|jro (eInt .i64) 3<|jot<|
  jjn (fun s2 K=>∀ p6 c6 r_1,K [(7, sv p6 s2 c6)] [[], r_1] [Al (eInt .i64) 3 r_1 p6 c6 s2]) (jsr<|jpc 2 rfl<|jix 3 rfl rfl rfl<|fun x5 b6 o5=>jfa 2 rfl<|jld false oL (gf (gs (gs (gk 0)))) rfl<|fun p7 c7=>jpc 2 rfl<|jot<|jbk<|
  jlp (fun s3 K=>∀ p8 c8 r_2,K [(1, sv p4 y1 c4), (3, pt b1 0), (7, sv p8 s3.1 c8), (43, sv p7 x5.2.2.1 c7), (44, vi (len x5.2.2.1)), (45, vi s3.2)] [bx b1 26 [sv p1 y0.1 c1, sv p2 y0.2.1 c2, sv p3 y0.2.2 c3], r_2] [Al (eInt .i64) 3 r_2 p8 c8 s3.1, Rl e_Argument p4 c4 y1, Rl (eInt .i64) p7 c7 x5.2.2.1, Rl e_Premise p1 c1 y0.1, Rl e_Rule p2 c2 y0.2.1, Rl e_Promotion p3 c3 y0.2.2]) (gv (fun _ k=>k none 0 []) [0,1] ⟨gk 2,gk 5,gk 0,gk 6,gk 7,gk 8,⟨⟩⟩)<|
  fun s3 _ k p8 c8 r_2=>k<|jsr<|jpc 1 rfl<|jot<|jsq<|jif rfl (jsk<|jtn<|jsq<|jbk<|jsr<|jix 2 rfl rfl rfl<|fun x6 b7 o6=>jld false oI (gk 0) rfl<|jpc 1 rfl<|jot<|jrg<|jpc 1 rfl<|jla 0 3 rfl rfl rfl<|jpc 2 rfl<|
  jcl ih_argument_Last rfl ⟨ck 4,ck 5,ck 6,ck 2,⟨⟩⟩<|fun r2 _ k p9 c9=>k<|jar .s 1 2 rfl (gk 0) rfl rfl<|fun x7 r_3 p10 c10=>jpc 1 rfl<|joe<|jbn<|jtn<|jrg<|jpc 2 rfl<|joe<|
  jln (gv (fun _ k=>k p10 c10 r_3) [0,1] ⟨gk 0,gk 4,gk 5,gk 6,gk 7,gk 8,⟨⟩⟩))<|jxe<|jte<|jle<|jbh<|jnn (gv (fun _ k=>k p8 c8 r_2) [900,1] ⟨gk 0,⟨⟩⟩))<|fun s2 _ k p6 c6 r_1=>k<|jsr<|jpc 1 rfl<|
  jca .s [1] [] c_slices_Sort_int rfl rfl rfl ⟨ck 0,⟨⟩⟩<|fun r3 _ k r_4=>k<|jot<|jsr<|jpc 1 rfl<|jrE 0 58 rfl rfl<|jca .s [1] [] c_slices_Compact_int rfl rfl rfl ⟨ck 0,⟨⟩⟩<|fun r4 _ k p11 c11=>k<|jpc 1 rfl<|jot<|jxr<|
  jr1 rfl rfl (fun _ k=>k p11 c11) [] ⟨gk 0,⟨⟩⟩

theorem c_argument_Last {qd : Prop} {y0 : T_Base} {y1 : List T_Argument} {y2 : Int} : Con qd Tryz.prog 31 [.agg #[sv p1 y0.1 c1, sv p2 y0.2.1 c2, sv p3 y0.2.2 c3], sv p4 y1 c4, vi y2] [] [Rl e_Premise p1 c1 y0.1, Rl e_Rule p2 c2 y0.2.1, Rl e_Promotion p3 c3 y0.2.2, Rl e_Argument p4 c4 y1] (m_argument_Last y0 y1 y2) fun r K=>∀ p5 c5,K (sv p5 r c5) [] [Rl (eInt .i64) p5 c5 r] := conLim fun k => (k_argument_Last_all k)

theorem c_keep_Ints {qd : Prop} {y0 : List Int} {y1 : List Int} : Con qd Tryz.prog 29 [sv p1 y0 c1, sv p2 y1 c2] [] [Rl (eInt .i64) p1 c1 y0, Rl (eInt .i64) p2 c2 y1] (m_keep_Ints y0 y1) fun r K=>K (vb r) [] [] :=
 ent3 Tryz.call29 Tryz.func29 rfl fun X=>jsr<|jpc 1 rfl<|jot<|jsq<|jsr<|jpc 5 rfl<|jot<|jif rfl (jsr<|jpc 1 rfl<|jot<|jxr<|jtr<|jr1 rfl rfl (fun _ k=>k) [] ⟨⟩)<|jsk<|jtn<|jsq<|jsr<|jpc 3 rfl<|jot<|jbk<|
  jlp (fun s1 K=>K [(0, sv p1 y0 c1), (1, sv p2 y1 c2), (12, vi (len y0)), (13, vi s1)] [] [Rl (eInt .i64) p1 c1 y0, Rl (eInt .i64) p2 c2 y1]) (gv (fun _ k=>k) [] ⟨gk 0,gk 1,⟨⟩⟩)<|fun s1 _ k=>k<|jsr<|jpc 1 rfl<|jot<|jsq<|jif rfl (jsk<|jtn<|
  jsq<|jbk<|jsr<|jpc 2 rfl<|jot<|jds [] [] 9<|jdc 7 [0,1] rfl<|jdi 2 0 rfl rfl rfl rfl<|fun x1 b1 o1=>jdl 3 false oI rfl (gk 0) rfl<|jdc 3 [4,5] rfl<|jdi 6 2 rfl rfl rfl rfl<|fun x2 b2 o2=>jdl 7 false oI rfl (gk 0) rfl<|jdc 0 [8] rfl<|jde<|
  jtn<|jif rfl (jsr<|jpc 1 rfl<|jot<|jxr<|jbr<|jtr<|jlr<|jbr<|jtr<|jr1 rfl rfl (fun _ k=>k) [] ⟨⟩)<|jsk<|jbn<|jtn<|jrg<|jpc 2 rfl<|joe<|jln (gv (fun _ k=>k) [] ⟨gk 2,gk 3,⟨⟩⟩))<|jxe<|jte<|jle<|jbh<|jtn<|jsr<|jpc 1 rfl<|jot<|jxr<|
  jr1 rfl rfl (fun _ k=>k) [] ⟨⟩

theorem c_law07_loop {qd : Prop} : Con qd Tryz.prog 28 [] [] [] (m_law07_loop) fun r K=>∀ p1 c1 p2 c2 p3 c3,K (.agg #[sv p1 r.1 c1, sv p2 r.2.1 c2, sv p3 r.2.2 c3]) [] [Rl e_Premise p1 c1 r.1, Rl e_Rule p2 c2 r.2.1, Rl e_Promotion p3 c3 r.2.2] :=
 ent3 Tryz.call28 Tryz.func28 rfl fun X=>jsr<|jal .s (.agg #[.slice none 0 0, .slice none 0 0, .slice none 0 0])<|fun b1=>jot<|jsr<|jpe (.agg #[vb false, vs [112]])<|jpe (.agg #[vb false, vs [113]])<|jal .s (.agg #[vb false, vs []])<|fun b2=>jal .s (.agg #[vb false, vs []])<|
  fun b3=>jso .s 1 rfl rfl rfl<|jso .s 2 rfl rfl rfl<|jot<|jsr<|jla 1 2 rfl rfl rfl<|jpe (.agg #[vb false, vs [112], vi 2, vi 0, vs []])<|
  jbs .s (e := e_Premise) 44 [vb false, vs [112], vi 2, vi 0, vs []] ([((false, [112]), 2, 0, [])] : List T_Premise) (rC (vP (vP vB vS) (vP vI (vP vI vS))) rN)<|fun p1 c1=>jla 1 2 rfl rfl rfl<|
  jbs .s (e := e_Literal) 42 [vb false, vs [112]] ([(false, [112])] : List T_Literal) (rC (vP vB vS) rN)<|fun p2 c2=>jla 2 2 rfl rfl rfl<|
  jpe (.agg #[vs [100], vb false, vi 0, sv p2 ([(false, [112])] : List T_Literal) c2, vb false, vs [113]])<|jla 2 2 rfl rfl rfl<|jbs .s (e := e_Literal) 42 [vb false, vs [113]] ([(false, [113])] : List T_Literal) (rC (vP vB vS) rN)<|
  fun p3 c3=>jla 1 2 rfl rfl rfl<|jpe (.agg #[vs [115], vb true, vi 0, sv p3 ([(false, [113])] : List T_Literal) c3, vb false, vs [112]])<|
  jbs .s (e := e_Rule) 47 [vs [100], vb false, vi 0, sv p2 ([(false, [112])] : List T_Literal) c2, vb false, vs [113], vs [115], vb true, vi 0, sv p3 ([(false, [113])] : List T_Literal) c3, vb false, vs [112]] ([([100], false, 0, ([(false, [112])] : List T_Literal), (false, [113])), ([115], true, 0, ([(false, [113])] : List T_Literal), (false, [112]))] : List T_Rule) (rC (vP vS (vP vB (vP vI (vP (vL (gk 1)) (vP vB vS))))) (rC (vP vS (vP vB (vP vI (vP (vL (gk 0)) (vP vB vS))))) rN))<|
  fun p4 c4=>
  jpe (.agg #[sv p1 ([((false, [112]), 2, 0, [])] : List T_Premise) c1, sv p4 ([([100], false, 0, ([(false, [112])] : List T_Literal), (false, [113])), ([115], true, 0, ([(false, [113])] : List T_Literal), (false, [112]))] : List T_Rule) c4, .slice none 0 0])<|
  jso .s 0 rfl rfl rfl<|jot<|jxr<|
  jrg' rfl (lC 0 (.agg #[sv p1 ([((false, [112]), 2, 0, [])] : List T_Premise) c1, sv p4 ([([100], false, 0, ([(false, [112])] : List T_Literal), (false, [113])), ([115], true, 0, ([(false, [113])] : List T_Literal), (false, [112]))] : List T_Rule) c4, .slice none 0 0]) rfl rfl lN) (fun _ k=>k p1 c1 p4 c4 none 0) [] ⟨gk 3,gk 0,gn,⟨⟩⟩

theorem c_law07_awake {qd : Prop} : Con qd Tryz.prog 11 [] [] [] (m_law07_awake) fun r K=>K (vb r) [] [] :=
 ent3 Tryz.call11 Tryz.func11 rfl fun X=>jsr<|jpc 1 rfl<|jot<|jsr<|jcl c_law07_loop rfl ⟨⟩<|fun r1 _ k p1 c1 p2 c2 p3 c3=>k<|jal .s (.agg #[.slice none 0 0, .slice none 0 0, .slice none 0 0])<|fun b1=>jso .s 0 rfl rfl rfl<|jot<|jsr<|jla 0 3 rfl rfl rfl<|
  jcl c_argument_Build rfl ⟨ck 0,ck 1,ck 2,⟨⟩⟩<|fun r2 _ k p4 c4=>k<|jpc 5 rfl<|jot<|jjn (fun s1 K=>K [(0, vb s1)] [[]] []) (jrg<|jpc 3 rfl<|jsg 12 rfl (jpc 3 rfl<|jpe (vb ((len r2.1) == 3))<|jpc 1 rfl<|jsg 17 rfl (jpc 1 rfl<|
  jix 0 rfl rfl rfl<|fun x1 b2 o1=>jfa 1 rfl<|jld false oI (gf (gs (gk 0))) rfl<|jpc 1 rfl<|jpe (vb (x1.2.1 == 1))<|jpc 1 rfl<|jsg 24 rfl (jpc 1 rfl<|jix 1 rfl rfl rfl<|fun x2 b3 o2=>jfa 2 rfl<|jld false oL (gf (gs (gs (gk 0)))) rfl<|
  fun p5 c5=>jbs .s (e := eInt .i64) 3 [vi 1] ([1] : List Int) (rC vI rN)<|fun p6 c6=>jcl c_keep_Ints rfl ⟨ck 1,ck 0,⟨⟩⟩<|fun r3 _ k=>k<|jpe (vb r3)<|jpc 1 rfl<|jsg 32 rfl (jpc 1 rfl<|jcl c_argument_Subs rfl ⟨ck 4,⟨⟩⟩<|fun r4 _ k p7 c7=>k<|
  jbs .s (e := eInt .i64) 3 [vi 0, vi 1, vi 2] ([0, 1, 2] : List Int) (rC vI (rC vI (rC vI rN)))<|fun p8 c8=>jcl c_keep_Ints rfl ⟨ck 1,ck 0,⟨⟩⟩<|fun r5 _ k=>k<|jpe (vb r5)<|jpc 1 rfl<|jsg 38 rfl (jla 0 3 rfl rfl rfl<|jpc 1 rfl<|
  jcl c_argument_Last rfl ⟨ck 7,ck 8,ck 9,ck 6,⟨⟩⟩<|fun r6 _ k p9 c9=>k<|jbs .s (e := eInt .i64) 3 [vi 0] ([0] : List Int) (rC vI rN)<|fun p10 c10=>jcl c_keep_Ints rfl ⟨ck 1,ck 0,⟨⟩⟩<|fun r7 _ k=>k<|jpe (vb r7)<|jpc 1 rfl<|jsg 45 rfl (
  jpc 1 rfl<|jbs .s (e := eInt .i64) 3 [vi 0, vi 1, vi 2] ([0, 1, 2] : List Int) (rC vI (rC vI (rC vI rN)))<|fun p11 c11=>jcl c_argument_Conclusions rfl ⟨ck 9,ck 0,⟨⟩⟩<|fun r8 _ k p12 c12=>k<|jpc 2 rfl<|jpe (vb ((len r8) == 2))<|jpc 1 rfl<|
  joe<|jnn (gv (fun _ k=>k) [900] ⟨⟩))<|jpc 5 rfl<|jpe (vb false)<|jpc 1 rfl<|joe<|jnn (gv (fun _ k=>k) [900] ⟨⟩))<|jpc 5 rfl<|jpe (vb false)<|jpc 6 rfl<|jpe (vb false)<|jpc 1 rfl<|joe<|jnn (gv (fun _ k=>k) [900] ⟨⟩))<|jpc 4 rfl<|
  jpe (vb false)<|jpc 6 rfl<|jpe (vb false)<|jpc 6 rfl<|jpe (vb false)<|jpc 1 rfl<|joe<|jnn (gv (fun _ k=>k) [900] ⟨⟩))<|jpc 6 rfl<|jpe (vb false)<|jpc 5 rfl<|jpe (vb false)<|jpc 6 rfl<|jpe (vb false)<|jpc 6 rfl<|jpe (vb false)<|jpc 1 rfl<|
  joe<|jnn (gv (fun _ k=>k) [900] ⟨⟩))<|jpc 5 rfl<|jpe (vb false)<|jpc 7 rfl<|jpe (vb false)<|jpc 5 rfl<|jpe (vb false)<|jpc 6 rfl<|jpe (vb false)<|jpc 6 rfl<|jpe (vb false)<|jpc 1 rfl<|joe<|jnn (gv (fun _ k=>k) [900] ⟨⟩))<|jpc 3 rfl<|
  jpe (vb false)<|jpc 6 rfl<|jpe (vb false)<|jpc 7 rfl<|jpe (vb false)<|jpc 5 rfl<|jpe (vb false)<|jpc 6 rfl<|jpe (vb false)<|jpc 6 rfl<|jpe (vb false)<|jpc 1 rfl<|joe<|jnn (gv (fun _ k=>k) [900] ⟨⟩))<|fun s1 _ k=>k<|jxr<|
  jr1 rfl rfl (fun _ k=>k) [] ⟨⟩

theorem c_ref01_ValidName {qd : Prop} {y0 : Str} : Con qd Tryz.prog 72 [vs y0] [] [] (m_ref01_ValidName y0) fun r K=>K (vb r) [] [] :=
 ent3 Tryz.call72 Tryz.func72 rfl fun X=>jsr<|jpc 1 rfl<|jot<|jsq<|jjn (fun s1 K=>K [(0, vs y0), (21, vb s1)] [] []) (jrg<|jpc 4 rfl<|jsg 7 rfl (jpc 3 rfl<|jpe (vb true)<|jpc 4 rfl<|jpe (vb true)<|jpc 4 rfl<|jpe (vb true)<|joe<|jnn (gv (fun _ k=>k) [] ⟨⟩))<|jpc 3 rfl<|
  jpe (vb (decide (12 < (len y0))))<|jpc 1 rfl<|jsg 12 rfl (jpc 3 rfl<|jpe (vb true)<|jpc 4 rfl<|jpe (vb true)<|joe<|jnn (gv (fun _ k=>k) [] ⟨⟩))<|jpc 1 rfl<|jbd fun x1 h1=>jv (fun h=>r_sidx h rfl rfl Tryz.underlying9 h1)<|jpc 1 rfl<|
  jpe (vb (decide (x1 < 97)))<|jpc 1 rfl<|jsg 17 rfl (jpc 3 rfl<|jpe (vb true)<|joe<|jnn (gv (fun _ k=>k) [] ⟨⟩))<|jpc 1 rfl<|jbd fun x2 h2=>jv (fun h=>r_sidx h rfl rfl Tryz.underlying9 h2)<|jpc 1 rfl<|jpe (vb (decide (122 < x2)))<|joe<|
  jnn (gv (fun _ k=>k) [] ⟨⟩))<|fun s1 _ k=>k<|jif rfl (jsr<|jpc 1 rfl<|jot<|jxr<|jtr<|jr1 rfl rfl (fun _ k=>k) [] ⟨⟩)<|jsk<|jtn<|jsq<|jsr<|jpc 1 rfl<|jot<|jbk<|jlp (fun s2 K=>K [(0, vs y0), (3, vi s2)] [] []) (gv (fun _ k=>k) [] ⟨⟩)<|
  fun s2 _ k=>k<|jsq<|jsr<|jpc 4 rfl<|jot<|jif rfl (jsk<|jtn<|jsq<|jbk<|jjn (fun s3 K=>K [(0, vs y0), (3, vi s2), (55, vb s3)] [] []) (jrg<|jpc 2 rfl<|jbd fun x3 h3=>jv (fun h=>r_sidx h rfl rfl Tryz.underlying9 h3)<|jpc 2 rfl<|jsg 32 rfl (
  jpc 4 rfl<|jpe (vb true)<|jpc 3 rfl<|jbd fun x4 h4=>jv (fun h=>r_sidx h rfl rfl Tryz.underlying9 h4)<|jpc 2 rfl<|jsg 43 rfl (jpc 4 rfl<|jpe (vb true)<|jpe (vb true)<|jpc 3 rfl<|jbd fun x5 h5=>
  jv (fun h=>r_sidx h rfl rfl Tryz.underlying9 h5)<|jpc 1 rfl<|jpe (vb (x5 != 95))<|joe<|jnn (gv (fun _ k=>k) [] ⟨⟩))<|jpc 2 rfl<|jbd fun x6 h6=>jv (fun h=>r_sidx h rfl rfl Tryz.underlying9 h6)<|jpc 1 rfl<|jpe (vb (decide (57 < x6)))<|
  jpe (vb (decide (57 < x6)))<|jpc 1 rfl<|jsg 50 rfl (jpc 2 rfl<|jbd fun x7 h7=>jv (fun h=>r_sidx h rfl rfl Tryz.underlying9 h7)<|jpc 1 rfl<|jpe (vb (x7 != 95))<|joe<|jnn (gv (fun _ k=>k) [] ⟨⟩))<|jpc 4 rfl<|jpe (vb false)<|joe<|
  jnn (gv (fun _ k=>k) [] ⟨⟩))<|jpc 2 rfl<|jbd fun x8 h8=>jv (fun h=>r_sidx h rfl rfl Tryz.underlying9 h8)<|jpc 1 rfl<|jpe (vb (decide (122 < x8)))<|jpc 1 rfl<|jsg 38 rfl (jpc 2 rfl<|jbd fun x9 h9=>
  jv (fun h=>r_sidx h rfl rfl Tryz.underlying9 h9)<|jpc 2 rfl<|jsg 43 rfl (jpc 4 rfl<|jpe (vb true)<|jpe (vb true)<|jpc 3 rfl<|jbd fun x10 h10=>jv (fun h=>r_sidx h rfl rfl Tryz.underlying9 h10)<|jpc 1 rfl<|jpe (vb (x10 != 95))<|joe<|
  jnn (gv (fun _ k=>k) [] ⟨⟩))<|jpc 2 rfl<|jbd fun x11 h11=>jv (fun h=>r_sidx h rfl rfl Tryz.underlying9 h11)<|jpc 1 rfl<|jpe (vb (decide (57 < x11)))<|jpe (vb (decide (57 < x11)))<|jpc 1 rfl<|jsg 50 rfl (jpc 2 rfl<|jbd fun x12 h12=>
  jv (fun h=>r_sidx h rfl rfl Tryz.underlying9 h12)<|jpc 1 rfl<|jpe (vb (x12 != 95))<|joe<|jnn (gv (fun _ k=>k) [] ⟨⟩))<|jpc 4 rfl<|jpe (vb false)<|joe<|jnn (gv (fun _ k=>k) [] ⟨⟩))<|jpc 10 rfl<|jpe (vb false)<|jpc 5 rfl<|jpe (vb false)<|
  joe<|jnn (gv (fun _ k=>k) [] ⟨⟩))<|fun s3 _ k=>k<|jif rfl (jsr<|jpc 1 rfl<|jot<|jxr<|jbr<|jtr<|jlr<|jbr<|jtr<|jr1 rfl rfl (fun _ k=>k) [] ⟨⟩)<|jsk<|jbn<|jtn<|jrg<|jpc 3 rfl<|joe<|jln (gv (fun _ k=>k) [] ⟨⟩))<|jxe<|jte<|jle<|jbh<|jtn<|jsr<|
  jpc 1 rfl<|jot<|jxr<|jr1 rfl rfl (fun _ k=>k) [] ⟨⟩

theorem c_ref01_Valid {qd : Prop} {y0 : T_Literal} : Con qd Tryz.prog 49 [.agg #[vb y0.1, vs y0.2]] [] [] (m_ref01_Valid y0) fun r K=>K (vb r) [] [] :=
 ent3 Tryz.call49 Tryz.func49 rfl fun X=>jsr<|jbx .s rfl<|fun b1=>jpc 1 rfl<|jot<|jsr<|jfa 1 rfl<|jlo 0 rfl rfl rfl<|jcl c_ref01_ValidName rfl ⟨⟩<|fun r1 _ k=>k<|jpc 1 rfl<|jot<|jxr<|jr1 rfl rfl (fun _ k=>k) [] ⟨⟩

theorem c_ref05_Find {qd : Prop} {y0 : T_Base} {y1 : Str} : Con qd Tryz.prog 47 [.agg #[sv p1 y0.1 c1, sv p2 y0.2.1 c2, sv p3 y0.2.2 c3], vs y1] [] [Rl e_Premise p1 c1 y0.1, Rl e_Rule p2 c2 y0.2.1, Rl e_Promotion p3 c3 y0.2.2] (m_ref05_Find y0 y1) fun r K=>K (vi r) [] [] :=
 ent3 Tryz.call47 Tryz.func47 rfl fun X=>jsr<|jbx .s rfl<|fun b1=>jpc 1 rfl<|jot<|jsq<|jsr<|jpc 1 rfl<|jot<|jbk<|
  jlp (fun s1 K=>K [(1, vs y1), (2, pt b1 0), (5, vi s1)] [bx b1 26 [sv p1 y0.1 c1, sv p2 y0.2.1 c2, sv p3 y0.2.2 c3]] [Rl e_Premise p1 c1 y0.1, Rl e_Rule p2 c2 y0.2.1, Rl e_Promotion p3 c3 y0.2.2]) (gv (fun _ k=>k) [0] ⟨gk 0,gk 1,gk 2,⟨⟩⟩)<|
  fun s1 _ k=>k<|jsq<|jsr<|jpc 1 rfl<|jfa 1 rfl<|jlo 0 rfl rfl rfl<|jpc 2 rfl<|jot<|jif rfl (jsk<|jtn<|jsq<|jbk<|jsr<|jfa 1 rfl<|jlo 0 rfl rfl rfl<|jpc 1 rfl<|jix 1 rfl rfl rfl<|fun x1 b2 o1=>jfa 0 rfl<|jld false oS (gf (gk 0)) rfl<|
  jpc 2 rfl<|jot<|jif rfl (jsr<|jpc 2 rfl<|jot<|jxr<|jbr<|jtr<|jlr<|jbr<|jtr<|jr1 rfl rfl (fun _ k=>k) [] ⟨⟩)<|jsk<|jbn<|jtn<|jrg<|jpc 3 rfl<|joe<|jln (gv (fun _ k=>k) [0] ⟨gk 1,gk 2,gk 3,⟨⟩⟩))<|jxe<|jte<|jle<|jbh<|jtn<|jsr<|jpc 1 rfl<|jot<|
  jxr<|jr1 rfl rfl (fun _ k=>k) [] ⟨⟩

theorem c_ref05_Premise {qd : Prop} {y0 : T_Base} {y1 : T_Literal} : Con qd Tryz.prog 45 [.agg #[sv p1 y0.1 c1, sv p2 y0.2.1 c2, sv p3 y0.2.2 c3], .agg #[vb y1.1, vs y1.2]] [] [Rl e_Premise p1 c1 y0.1, Rl e_Rule p2 c2 y0.2.1, Rl e_Promotion p3 c3 y0.2.2] (m_ref05_Premise y0 y1) fun r K=>K (vi r) [] [] :=
 ent3 Tryz.call45 Tryz.func45 rfl fun X=>jsr<|jbx .s rfl<|fun b1=>jbx .s rfl<|fun b2=>jpc 1 rfl<|jot<|jsq<|jsr<|jpc 1 rfl<|jot<|jbk<|
  jlp (fun s1 K=>K [(2, pt b1 0), (3, pt b2 0), (5, vi s1)] [bx b1 26 [sv p1 y0.1 c1, sv p2 y0.2.1 c2, sv p3 y0.2.2 c3], bx b2 42 [vb y1.1, vs y1.2]] [Rl e_Premise p1 c1 y0.1, Rl e_Rule p2 c2 y0.2.1, Rl e_Promotion p3 c3 y0.2.2]) (gv (fun _ k=>k) [0,1] ⟨gk 0,gk 1,gk 2,⟨⟩⟩)<|
  fun s1 _ k=>k<|jsq<|jsr<|jpc 1 rfl<|jfa 0 rfl<|jlo 0 rfl rfl rfl<|jpc 2 rfl<|jot<|jif rfl (jsk<|jtn<|jsq<|jbk<|jds [] [0, 1] 8<|jdf 0 0 rfl rfl<|jdo 1 0 rfl rfl rfl rfl<|jdc 5 [2] rfl<|jdi 3 0 rfl rfl rfl rfl<|fun x1 b3 o1=>
  jdf 4 0 rfl rfl<|jdl 5 true o_Literal rfl (gf (gk 0)) rfl<|jda 6 1 2 rfl rfl rfl rfl<|jdp 7 (vb (x1.1 == y1)) rfl<|jde<|jtn<|jif rfl (jsr<|jpc 2 rfl<|jot<|jxr<|jbr<|jtr<|jlr<|jbr<|jtr<|jr1 rfl rfl (fun _ k=>k) [] ⟨⟩)<|jsk<|jbn<|jtn<|jrg<|
  jpc 3 rfl<|joe<|jln (gv (fun _ k=>k) [0,1] ⟨gk 1,gk 2,gk 3,⟨⟩⟩))<|jxe<|jte<|jle<|jbh<|jtn<|jsr<|jpc 1 rfl<|jot<|jxr<|jr1 rfl rfl (fun _ k=>k) [] ⟨⟩

theorem c_ref05_rank {qd : Prop} {y0 : Int} : Con qd Tryz.prog 48 [vi y0] [] [] (m_ref05_rank y0) fun r K=>K (vb r) [] [] :=
 ent3 Tryz.call48 Tryz.func48 rfl fun X=>jsr<|jpc 1 rfl<|jot<|jjp (fun K=>K [(2, vb ((decide (0 ≤ y0)) && (decide (y0 ≤ 9))))] [] []) (jrg<|jpc 3 rfl<|jsp (b := decide (0 ≤ y0)) 5 rfl (fun hb1=>jpc 2 rfl<|jpe (vb (decide (y0 ≤ 9)))<|jpc 1 rfl<|joe<|
  jup 2 (vb ((decide (0 ≤ y0)) && (decide (y0 ≤ 9)))) rfl (by rw [hb1]; rfl)<|jnn (gv (fun _ k=>k) [] ⟨⟩))<|fun hb1=>jpc 2 rfl<|jpe (vb false)<|jpc 1 rfl<|joe<|jup 2 (vb ((decide (0 ≤ y0)) && (decide (y0 ≤ 9)))) rfl (by rw [hb1]; rfl)<|
  jnn (gv (fun _ k=>k) [] ⟨⟩))<|fun _ k=>k<|jxr<|jr1 rfl rfl (fun _ k=>k) [] ⟨⟩

theorem c_ref05_premise {qd : Prop} {y0 : T_Premise} : Con qd Tryz.prog 44 [.agg #[vb y0.1.1, vs y0.1.2, vi y0.2.1, vi y0.2.2.1, vs y0.2.2.2]] [] [] (m_ref05_premise y0) fun r K=>K (vi r) [] [] :=
 ent3 Tryz.call44 Tryz.func44 rfl fun X=>jsr<|jbx .s rfl<|fun b1=>jpc 1 rfl<|jot<|jsq<|jjp (fun K=>K [(1, pt b1 0), (10, vb ((decide (y0.2.1 < 1)) || (decide (3 < y0.2.1))))] [bx b1 44 [vb y0.1.1, vs y0.1.2, vi y0.2.1, vi y0.2.2.1, vs y0.2.2.2]] []) (jrg<|jfa 2 rfl<|
  jlo 0 rfl rfl rfl<|jpc 2 rfl<|jsp (b := decide (y0.2.1 < 1)) 6 rfl (fun hb1=>jpc 3 rfl<|jpe (vb true)<|joe<|jup 10 (vb ((decide (y0.2.1 < 1)) || (decide (3 < y0.2.1)))) rfl (by rw [hb1]; rfl)<|jnn (gv (fun _ k=>k) [0] ⟨⟩))<|fun hb1=>
  jfa 2 rfl<|jlo 0 rfl rfl rfl<|jpc 1 rfl<|jpe (vb (decide (3 < y0.2.1)))<|joe<|jup 10 (vb ((decide (y0.2.1 < 1)) || (decide (3 < y0.2.1)))) rfl (by rw [hb1]; rfl)<|jnn (gv (fun _ k=>k) [0] ⟨⟩))<|fun _ k=>k<|jif rfl (jsr<|jpc 1 rfl<|jot<|
  jxr<|jtr<|jr1 rfl rfl (fun _ k=>k) [] ⟨⟩)<|jsk<|jtn<|jsq<|jjn (fun s1 K=>K [(41, vb s1)] [[]] []) (jrg<|jfa 0 rfl<|jla 0 2 rfl rfl rfl<|jcl c_ref01_Valid rfl ⟨⟩<|fun r1 _ k=>k<|jpc 2 rfl<|jsg 15 rfl (jpc 4 rfl<|jpe (vb true)<|jpc 9 rfl<|
  jpe (vb true)<|jpc 10 rfl<|jpe (vb true)<|joe<|jnn (gv (fun _ k=>k) [900] ⟨⟩))<|jfa 3 rfl<|jlo 0 rfl rfl rfl<|jcl c_ref05_rank rfl ⟨⟩<|fun r2 _ k=>k<|jpc 1 rfl<|jpe (vb (!r2))<|jpc 1 rfl<|jsg 21 rfl (jpc 8 rfl<|jpe (vb true)<|jpc 10 rfl<|
  jpe (vb true)<|joe<|jnn (gv (fun _ k=>k) [900] ⟨⟩))<|jfa 2 rfl<|jlo 0 rfl rfl rfl<|jpc 2 rfl<|jsg 25 rfl (jfa 3 rfl<|jlo 0 rfl rfl rfl<|jpc 1 rfl<|jpe (vb (y0.2.2.1 != 0))<|jpe (vb (y0.2.2.1 != 0))<|jpc 1 rfl<|jsg 31 rfl (jpc 9 rfl<|
  jpe (vb true)<|joe<|jnn (gv (fun _ k=>k) [900] ⟨⟩))<|jfa 4 rfl<|jlo 0 rfl rfl rfl<|jpc 2 rfl<|jsg 35 rfl (jfa 4 rfl<|jlo 0 rfl rfl rfl<|jcl c_ref01_ValidName rfl ⟨⟩<|fun r3 _ k=>k<|jpc 1 rfl<|jpe (vb (!r3))<|jpe (vb (!r3))<|joe<|
  jnn (gv (fun _ k=>k) [900] ⟨⟩))<|jpc 4 rfl<|jpe (vb false)<|jpe (vb false)<|joe<|jnn (gv (fun _ k=>k) [900] ⟨⟩))<|jpc 3 rfl<|jpe (vb false)<|jpe (vb false)<|jpc 1 rfl<|jfa 4 rfl<|jlo 0 rfl rfl rfl<|jpc 2 rfl<|jsg 35 rfl (jfa 4 rfl<|
  jlo 0 rfl rfl rfl<|jcl c_ref01_ValidName rfl ⟨⟩<|fun r4 _ k=>k<|jpc 1 rfl<|jpe (vb (!r4))<|jpe (vb (!r4))<|joe<|jnn (gv (fun _ k=>k) [900] ⟨⟩))<|jpc 4 rfl<|jpe (vb false)<|jpe (vb false)<|joe<|jnn (gv (fun _ k=>k) [900] ⟨⟩))<|fun s1 _ k=>
  k<|jif rfl (jsr<|jpc 1 rfl<|jot<|jxr<|jtr<|jr1 rfl rfl (fun _ k=>k) [] ⟨⟩)<|jsk<|jtn<|jsr<|jpc 1 rfl<|jot<|jxr<|jr1 rfl rfl (fun _ k=>k) [] ⟨⟩

theorem c_ref01_Compare {qd : Prop} {y0 : T_Literal} {y1 : T_Literal} : Con qd Tryz.prog 73 [.agg #[vb y0.1, vs y0.2], .agg #[vb y1.1, vs y1.2]] [] [] (m_ref01_Compare y0 y1) fun r K=>K (vi r) [] [] :=
 ent3 Tryz.call73 Tryz.func73 rfl fun X=>jsr<|jbx .s rfl<|fun b1=>jbx .s rfl<|fun b2=>jpc 1 rfl<|jot<|jsq<|jbk<|jsr<|jla 0 2 rfl rfl rfl<|jla 1 2 rfl rfl rfl<|jpe (vb (y0 == y1))<|jpc 1 rfl<|jot<|jif rfl (jsr<|jpc 1 rfl<|jot<|jxr<|jbr<|jtr<|jr1 rfl rfl (fun _ k=>k) [] ⟨⟩)<|
  jjp (fun K=>K [(9, vb ((sless y0.2 y1.2) || ((y0.2 == y1.2) && y1.1)))] [[], []] []) (jrg<|jfa 1 rfl<|jlo 0 rfl rfl rfl<|jfa 1 rfl<|jlo 1 rfl rfl rfl<|jpc 2 rfl<|jsp (b := sless y0.2 y1.2) 15 rfl (fun hb1=>jpc 9 rfl<|jpe (vb true)<|
  jpc 1 rfl<|joe<|jup 9 (vb ((sless y0.2 y1.2) || ((y0.2 == y1.2) && y1.1))) rfl (by rw [hb1]; rfl)<|jnn (gv (fun _ k=>k) [900,901] ⟨⟩))<|fun hb1=>jfa 1 rfl<|jlo 0 rfl rfl rfl<|jfa 1 rfl<|jlo 1 rfl rfl rfl<|jpc 2 rfl<|
  jsp (b := y0.2 == y1.2) 21 rfl (fun hb2=>jfa 0 rfl<|jlo 1 rfl rfl rfl<|jpe (vb y1.1)<|jpe (vb y1.1)<|jpc 1 rfl<|joe<|jup 9 (vb ((sless y0.2 y1.2) || ((y0.2 == y1.2) && y1.1))) rfl (by rw [hb1,hb2]; rfl)<|jnn (gv (fun _ k=>k) [900,901] ⟨⟩)
  )<|fun hb2=>jpc 2 rfl<|jpe (vb false)<|jpe (vb false)<|jpc 1 rfl<|joe<|jup 9 (vb ((sless y0.2 y1.2) || ((y0.2 == y1.2) && y1.1))) rfl (by rw [hb1,hb2]; rfl)<|jnn (gv (fun _ k=>k) [900,901] ⟨⟩))<|fun _ k=>k<|jif rfl (jsr<|jpc 1 rfl<|jot<|
  jxr<|jbr<|jtr<|jr1 rfl rfl (fun _ k=>k) [] ⟨⟩)<|jsk<|jbn<|jtn<|jsr<|jpc 1 rfl<|jot<|jxr<|jr1 rfl rfl (fun _ k=>k) [] ⟨⟩

theorem c_ref05_rule {qd : Prop} {y0 : T_Rule} : Con qd Tryz.prog 46 [.agg #[vs y0.1, vb y0.2.1, vi y0.2.2.1, sv p1 y0.2.2.2.1 c1, vb y0.2.2.2.2.1, vs y0.2.2.2.2.2]] [] [Rl e_Literal p1 c1 y0.2.2.2.1] (m_ref05_rule y0) fun r K=>K (vi r) [] [] :=
 ent3 Tryz.call46 Tryz.func46 rfl fun X=>jsr<|jbx .s rfl<|fun b1=>jpc 1 rfl<|jot<|jsq<|jsr<|jfa 3 rfl<|jlo 0 rfl rfl rfl<|jpc 2 rfl<|jot<|jif rfl (jsr<|jpc 1 rfl<|jot<|jxr<|jtr<|jr1 rfl rfl (fun _ k=>k) [] ⟨⟩)<|jsk<|jtn<|
  jjn (fun s1 K=>K [(1, pt b1 0), (3, vb s1)] [bx b1 47 [vs y0.1, vb y0.2.1, vi y0.2.2.1, sv p1 y0.2.2.2.1 c1, vb y0.2.2.2.2.1, vs y0.2.2.2.2.2]] [Rl e_Literal p1 c1 y0.2.2.2.1]) (jrg<|jfa 0 rfl<|jlo 0 rfl rfl rfl<|
  jcl c_ref01_ValidName rfl ⟨⟩<|fun r1 _ k=>k<|jpc 1 rfl<|jsg 13 rfl (jfa 2 rfl<|jlo 0 rfl rfl rfl<|jcl c_ref05_rank rfl ⟨⟩<|fun r2 _ k=>k<|jpe (vb r2)<|jpc 1 rfl<|jsg 18 rfl (jfa 1 rfl<|jlo 0 rfl rfl rfl<|jpc 2 rfl<|jsg 22 rfl (jpc 3 rfl<|
  jpe (vb true)<|jpe (vb true)<|jpc 1 rfl<|jfa 4 rfl<|jla 0 2 rfl rfl rfl<|jcl c_ref01_Valid rfl ⟨⟩<|fun r3 _ k=>k<|jpe (vb r3)<|jpc 1 rfl<|joe<|jnn (gv (fun _ k=>k) [0] ⟨gk 0,⟨⟩⟩))<|jfa 2 rfl<|jlo 0 rfl rfl rfl<|jpc 1 rfl<|
  jpe (vb (y0.2.2.1 == 0))<|jpe (vb (y0.2.2.1 == 0))<|jpc 1 rfl<|jsg 28 rfl (jfa 4 rfl<|jla 0 2 rfl rfl rfl<|jcl c_ref01_Valid rfl ⟨⟩<|fun r4 _ k=>k<|jpe (vb r4)<|jpc 1 rfl<|joe<|jnn (gv (fun _ k=>k) [0] ⟨gk 0,⟨⟩⟩))<|jpc 3 rfl<|
  jpe (vb false)<|jpc 1 rfl<|joe<|jnn (gv (fun _ k=>k) [0] ⟨gk 0,⟨⟩⟩))<|jpc 8 rfl<|jpe (vb false)<|jpc 4 rfl<|jpe (vb false)<|jpc 1 rfl<|joe<|jnn (gv (fun _ k=>k) [0] ⟨gk 0,⟨⟩⟩))<|jpc 3 rfl<|jpe (vb false)<|jpc 9 rfl<|jpe (vb false)<|
  jpc 4 rfl<|jpe (vb false)<|jpc 1 rfl<|joe<|jnn (gv (fun _ k=>k) [0] ⟨gk 0,⟨⟩⟩))<|fun s1 _ k=>k<|
  jjn (fun s2 K=>K [(1, pt b1 0), (3, vb s2)] [bx b1 47 [vs y0.1, vb y0.2.1, vi y0.2.2.1, sv p1 y0.2.2.2.1 c1, vb y0.2.2.2.2.1, vs y0.2.2.2.2.2]] [Rl e_Literal p1 c1 y0.2.2.2.1]) (jsr<|jpc 1 rfl<|jot<|jbk<|
  jlp (fun s3 K=>K [(1, pt b1 0), (3, vb s3.1), (4, vi s3.2)] [bx b1 47 [vs y0.1, vb y0.2.1, vi y0.2.2.1, sv p1 y0.2.2.2.1 c1, vb y0.2.2.2.2.1, vs y0.2.2.2.2.2]] [Rl e_Literal p1 c1 y0.2.2.2.1]) (gv (fun _ k=>k) [0] ⟨gk 0,⟨⟩⟩)<|fun s3 _ k=>
  k<|jsq<|jsr<|jpc 1 rfl<|jfa 3 rfl<|jlo 0 rfl rfl rfl<|jpc 2 rfl<|jot<|jif rfl (jsk<|jtn<|jsq<|jbk<|
  jjc (fun s4 K=>K [(1, pt b1 0), (3, vb s4), (4, vi s3.2)] [bx b1 47 [vs y0.1, vb y0.2.1, vi y0.2.2.1, sv p1 y0.2.2.2.1 c1, vb y0.2.2.2.2.1, vs y0.2.2.2.2.2]] [Rl e_Literal p1 c1 y0.2.2.2.1]) (jrg<|jpc 2 rfl<|jsg 41 rfl (jfa 3 rfl<|
  jlo 0 rfl rfl rfl<|jpc 1 rfl<|jix 0 rfl rfl rfl<|fun x1 b2 o1=>jld true o_Literal (gk 0) rfl<|jcl c_ref01_Valid rfl ⟨⟩<|fun r5 _ k=>k<|jpe (vb r5)<|jpc 1 rfl<|joe<|jnn (gv (fun _ k=>k) [0] ⟨gk 1,⟨⟩⟩))<|jpc 6 rfl<|jpe (vb false)<|jpc 1 rfl<|
  joe<|jnn (gv (fun _ k=>k) [0] ⟨gk 0,⟨⟩⟩))<|fun s4 _ k=>k<|jbn<|jtn<|jrg<|jpc 3 rfl<|joe<|jln (gv (fun _ k=>k) [0] ⟨gk 0,⟨⟩⟩))<|jxe<|jte<|jle<|jbh<|jnn (gv (fun _ k=>k) [0] ⟨gk 0,⟨⟩⟩))<|fun s2 _ k=>k<|jsq<|jsr<|jpc 2 rfl<|jot<|jif rfl (jsr<|
  jpc 1 rfl<|jot<|jxr<|jtr<|jr1 rfl rfl (fun _ k=>k) [] ⟨⟩)<|jsk<|jtn<|jsq<|jsr<|jpc 1 rfl<|jot<|jbk<|
  jlp (fun s5 K=>K [(1, pt b1 0), (5, vi s5)] [bx b1 47 [vs y0.1, vb y0.2.1, vi y0.2.2.1, sv p1 y0.2.2.2.1 c1, vb y0.2.2.2.2.1, vs y0.2.2.2.2.2]] [Rl e_Literal p1 c1 y0.2.2.2.1]) (gv (fun _ k=>k) [0] ⟨gk 0,⟨⟩⟩)<|fun s5 _ k=>k<|jsq<|jsr<|
  jpc 1 rfl<|jfa 3 rfl<|jlo 0 rfl rfl rfl<|jpc 2 rfl<|jot<|jif rfl (jsk<|jtn<|jsq<|jbk<|jds [] [0] 13<|jdf 0 3 rfl rfl<|jdo 1 0 rfl rfl rfl rfl<|jdc 9 [2,3] rfl<|jdi 4 0 rfl rfl rfl rfl<|fun x2 b3 o2=>jdl 5 true o_Literal rfl (gk 0) rfl<|
  jdf 6 3 rfl rfl<|jdo 7 0 rfl rfl rfl rfl<|jdc 4 [8] rfl<|jdi 9 1 rfl rfl rfl rfl<|fun x3 b4 o3=>jdl 10 true o_Literal rfl (gk 0) rfl<|jd1 11<|jca (.f rfl) [] [] c_ref01_Compare rfl rfl rfl ⟨⟩<|fun r6 _ k=>k<|jdn<|jdc 0 [12] rfl<|jde<|jtn<|
  jif rfl (jsr<|jpc 1 rfl<|jot<|jxr<|jbr<|jtr<|jlr<|jbr<|jtr<|jr1 rfl rfl (fun _ k=>k) [] ⟨⟩)<|jsk<|jbn<|jtn<|jrg<|jpc 3 rfl<|joe<|jln (gv (fun _ k=>k) [0] ⟨gk 2,⟨⟩⟩))<|jxe<|jte<|jle<|jbh<|jtn<|jsr<|jpc 1 rfl<|jot<|jxr<|
  jr1 rfl rfl (fun _ k=>k) [] ⟨⟩

theorem c_ref05_Validate {qd : Prop} {y0 : T_Base} : Con qd Tryz.prog 23 [.agg #[sv p1 y0.1 c1, sv p2 y0.2.1 c2, sv p3 y0.2.2 c3]] [] [Rl e_Premise p1 c1 y0.1, Rl e_Rule p2 c2 y0.2.1, Rl e_Promotion p3 c3 y0.2.2] (m_ref05_Validate y0) fun r K=>K (vi r) [] [] :=
 ent3 Tryz.call23 Tryz.func23 rfl fun X=>jsr<|jbx .s rfl<|fun b1=>jpc 1 rfl<|jot<|jsq<|
  jjp (fun K=>K [(1, pt b1 0), (25, vb ((decide (16 < (len y0.1))) || ((decide (24 < (len y0.2.1))) || (decide (8 < (len y0.2.2))))))] [bx b1 26 [sv p1 y0.1 c1, sv p2 y0.2.1 c2, sv p3 y0.2.2 c3]] [Rl e_Premise p1 c1 y0.1, Rl e_Rule p2 c2 y0.2.1, Rl e_Promotion p3 c3 y0.2.2]) (
  jrg<|jfa 0 rfl<|jlo 0 rfl rfl rfl<|jpc 3 rfl<|jsp (b := decide (16 < (len y0.1))) 14 rfl (fun hb1=>jpc 4 rfl<|jpe (vb true)<|jpc 5 rfl<|jpe (vb true)<|joe<|
  jup 25 (vb ((decide (16 < (len y0.1))) || ((decide (24 < (len y0.2.1))) || (decide (8 < (len y0.2.2)))))) rfl (by rw [hb1]; rfl)<|jnn (gv (fun _ k=>k) [0] ⟨gk 0,gk 1,gk 2,⟨⟩⟩))<|fun hb1=>jfa 1 rfl<|jlo 0 rfl rfl rfl<|jpc 2 rfl<|
  jpe (vb (decide (24 < (len y0.2.1))))<|jpc 1 rfl<|jsp (b := decide (24 < (len y0.2.1))) 20 rfl (fun hb2=>jpc 4 rfl<|jpe (vb true)<|joe<|
  jup 25 (vb ((decide (16 < (len y0.1))) || ((decide (24 < (len y0.2.1))) || (decide (8 < (len y0.2.2)))))) rfl (by rw [hb1,hb2]; rfl)<|jnn (gv (fun _ k=>k) [0] ⟨gk 0,gk 1,gk 2,⟨⟩⟩))<|fun hb2=>jfa 2 rfl<|jlo 0 rfl rfl rfl<|jpc 2 rfl<|
  jpe (vb (decide (8 < (len y0.2.2))))<|joe<|jup 25 (vb ((decide (16 < (len y0.1))) || ((decide (24 < (len y0.2.1))) || (decide (8 < (len y0.2.2)))))) rfl (by rw [hb1,hb2]; rfl)<|jnn (gv (fun _ k=>k) [0] ⟨gk 0,gk 1,gk 2,⟨⟩⟩))<|fun _ k=>k<|
  jif rfl (jsr<|jpc 1 rfl<|jot<|jxr<|jtr<|jr1 rfl rfl (fun _ k=>k) [] ⟨⟩)<|jsk<|jtn<|
  jjo (fun s1 K=>K [(1, pt b1 0)] [bx b1 26 [sv p1 y0.1 c1, sv p2 y0.2.1 c2, sv p3 y0.2.2 c3]] [Rl e_Premise p1 c1 y0.1, Rl e_Rule p2 c2 y0.2.1, Rl e_Promotion p3 c3 y0.2.2]) (jsr<|jpc 1 rfl<|jot<|jbk<|
  jlp (fun s2 K=>K [(1, pt b1 0), (3, vi s2)] [bx b1 26 [sv p1 y0.1 c1, sv p2 y0.2.1 c2, sv p3 y0.2.2 c3]] [Rl e_Premise p1 c1 y0.1, Rl e_Rule p2 c2 y0.2.1, Rl e_Promotion p3 c3 y0.2.2]) (gv (fun _ k=>k) [0] ⟨gk 0,gk 1,gk 2,⟨⟩⟩)<|fun s2 _ k=>
  k<|jsq<|jsr<|jpc 1 rfl<|jfa 0 rfl<|jlo 0 rfl rfl rfl<|jpc 2 rfl<|jot<|jif rfl (jsk<|jtn<|jsq<|jbk<|jsq<|jsr<|jfa 0 rfl<|jlo 0 rfl rfl rfl<|jpc 1 rfl<|jix 0 rfl rfl rfl<|fun x1 b2 o1=>jld true o_Premise (gk 0) rfl<|
  jcl c_ref05_premise rfl ⟨⟩<|fun r1 _ k=>k<|jpc 1 rfl<|jot<|jsr<|jpc 2 rfl<|jot<|jif rfl (jsr<|jpc 2 rfl<|jot<|jxr<|jtr<|jbr<|jtr<|jlr<|jbr<|jlr<|jr1 rfl rfl (fun _ k=>k) [] ⟨⟩)<|jsk<|jtn<|jds [] [0] 10<|jda 0 0 3 rfl rfl rfl rfl<|
  jdf 1 0 rfl rfl<|jdo 2 0 rfl rfl rfl rfl<|jdc 6 [3] rfl<|jdi 4 1 rfl rfl rfl rfl<|fun x2 b3 o2=>jdf 5 0 rfl rfl<|jdl 6 true o_Literal rfl (gf (gk 0)) rfl<|jdc 2 [8] rfl<|jd1 7<|
  jca (.f rfl) [] [] c_ref05_Premise rfl rfl rfl ⟨ck 2,ck 3,ck 4,⟨⟩⟩<|fun r2 _ k=>k<|jdn<|jdc 0 [9] rfl<|jde<|jtn<|jif rfl (jsr<|jpc 1 rfl<|jot<|jxr<|jbr<|jtr<|jlr<|jbr<|jlr<|jr1 rfl rfl (fun _ k=>k) [] ⟨⟩)<|jsk<|jbn<|jtn<|jrg<|jpc 3 rfl<|
  joe<|jln (gv (fun _ k=>k) [0] ⟨gk 2,gk 3,gk 4,⟨⟩⟩))<|jxe<|jte<|jle<|jbh<|jln (gv (fun _ k=>k) [0] ⟨gk 0,gk 1,gk 2,⟨⟩⟩))<|fun s1 _ k=>k<|
  jjo (fun s3 K=>K [(1, pt b1 0)] [bx b1 26 [sv p1 y0.1 c1, sv p2 y0.2.1 c2, sv p3 y0.2.2 c3]] [Rl e_Premise p1 c1 y0.1, Rl e_Rule p2 c2 y0.2.1, Rl e_Promotion p3 c3 y0.2.2]) (jsr<|jpc 1 rfl<|jot<|jbk<|
  jlp (fun s4 K=>K [(1, pt b1 0), (5, vi s4)] [bx b1 26 [sv p1 y0.1 c1, sv p2 y0.2.1 c2, sv p3 y0.2.2 c3]] [Rl e_Premise p1 c1 y0.1, Rl e_Rule p2 c2 y0.2.1, Rl e_Promotion p3 c3 y0.2.2]) (gv (fun _ k=>k) [0] ⟨gk 0,gk 1,gk 2,⟨⟩⟩)<|fun s4 _ k=>
  k<|jsq<|jsr<|jpc 1 rfl<|jfa 1 rfl<|jlo 0 rfl rfl rfl<|jpc 2 rfl<|jot<|jif rfl (jsk<|jtn<|jsq<|jbk<|jsq<|jsr<|jfa 1 rfl<|jlo 0 rfl rfl rfl<|jpc 1 rfl<|jix 1 rfl rfl rfl<|fun x3 b4 o3=>jld true o_Rule (gk 0) rfl<|fun p4 c4=>
  jcl c_ref05_rule rfl ⟨ck 0,⟨⟩⟩<|fun r3 _ k=>k<|jpc 1 rfl<|jot<|jsr<|jpc 2 rfl<|jot<|jif rfl (jsr<|jpc 2 rfl<|jot<|jxr<|jtr<|jbr<|jtr<|jlr<|jbr<|jlr<|jr1 rfl rfl (fun _ k=>k) [] ⟨⟩)<|jsk<|jtn<|jds [] [0] 10<|jda 0 0 3 rfl rfl rfl rfl<|
  jdf 1 1 rfl rfl<|jdo 2 0 rfl rfl rfl rfl<|jdc 6 [3] rfl<|jdi 4 3 rfl rfl rfl rfl<|fun x4 b5 o4=>jdf 5 0 rfl rfl<|jdl 6 false oS rfl (gf (gk 0)) rfl<|jdc 2 [8] rfl<|jd1 7<|jca (.f rfl) [] [] c_ref05_Find rfl rfl rfl ⟨ck 3,ck 4,ck 5,⟨⟩⟩<|
  fun r4 _ k=>k<|jdn<|jdc 0 [9] rfl<|jde<|jtn<|jif rfl (jsr<|jpc 1 rfl<|jot<|jxr<|jbr<|jtr<|jlr<|jbr<|jlr<|jr1 rfl rfl (fun _ k=>k) [] ⟨⟩)<|jsk<|jbn<|jtn<|jrg<|jpc 3 rfl<|joe<|jln (gv (fun _ k=>k) [0] ⟨gk 3,gk 4,gk 5,⟨⟩⟩))<|jxe<|jte<|jle<|
  jbh<|jln (gv (fun _ k=>k) [0] ⟨gk 0,gk 1,gk 2,⟨⟩⟩))<|fun s3 _ k=>k<|jsq<|jsr<|jpc 1 rfl<|jot<|jbk<|
  jlp (fun s5 K=>K [(1, pt b1 0), (7, vi s5)] [bx b1 26 [sv p1 y0.1 c1, sv p2 y0.2.1 c2, sv p3 y0.2.2 c3]] [Rl e_Premise p1 c1 y0.1, Rl e_Rule p2 c2 y0.2.1, Rl e_Promotion p3 c3 y0.2.2]) (gv (fun _ k=>k) [0] ⟨gk 0,gk 1,gk 2,⟨⟩⟩)<|fun s5 _ k=>
  k<|jsq<|jsr<|jpc 1 rfl<|jfa 2 rfl<|jlo 0 rfl rfl rfl<|jpc 2 rfl<|jot<|jif rfl (jsk<|jtn<|jsq<|jbk<|jsr<|jfa 2 rfl<|jlo 0 rfl rfl rfl<|jpc 1 rfl<|jix 2 rfl rfl rfl<|fun x5 b6 o5=>jld true o_Promotion (gk 0) rfl<|
  jal .s (.agg #[vs [], vi 0, vb false, vs []])<|fun b7=>jso .s 1 rfl rfl rfl<|jot<|jsq<|
  jjn (fun s6 K=>K [(1, pt b1 0), (7, vi s5), (8, pt b7 0), (99, vb s6)] [bx b1 26 [sv p1 y0.1 c1, sv p2 y0.2.1 c2, sv p3 y0.2.2 c3], bx b7 49 [vs x5.1, vi x5.2.1, vb x5.2.2.1, vs x5.2.2.2]] [Rl e_Premise p1 c1 y0.1, Rl e_Rule p2 c2 y0.2.1, Rl e_Promotion p3 c3 y0.2.2]) (
  jrg<|jfa 1 rfl<|jlo 1 rfl rfl rfl<|jcl c_ref05_rank rfl ⟨⟩<|fun r5 _ k=>k<|jpc 2 rfl<|jsg 94 rfl (jpc 4 rfl<|jpe (vb true)<|joe<|jnn (gv (fun _ k=>k) [0,1] ⟨gk 1,gk 2,gk 3,⟨⟩⟩))<|jfa 2 rfl<|jla 1 2 rfl rfl rfl<|jcl c_ref01_Valid rfl ⟨⟩<|
  fun r6 _ k=>k<|jpc 1 rfl<|jpe (vb (!r6))<|joe<|jnn (gv (fun _ k=>k) [0,1] ⟨gk 1,gk 2,gk 3,⟨⟩⟩))<|fun s6 _ k=>k<|jif rfl (jsr<|jpc 1 rfl<|jot<|jxr<|jtr<|jbr<|jtr<|jlr<|jbr<|jtr<|jr1 rfl rfl (fun _ k=>k) [] ⟨⟩)<|jsk<|jtn<|jsr<|
  jla 0 3 rfl rfl rfl<|jfa 0 rfl<|jlo 1 rfl rfl rfl<|jcl c_ref05_Find rfl ⟨ck 0,ck 1,ck 2,⟨⟩⟩<|fun r7 _ k=>k<|jpc 1 rfl<|jot<|jsq<|jsr<|jpc 2 rfl<|jot<|jif rfl (jsr<|jpc 1 rfl<|jot<|jxr<|jtr<|jbr<|jtr<|jlr<|jbr<|jtr<|
  jr1 rfl rfl (fun _ k=>k) [] ⟨⟩)<|jsk<|jtn<|jsr<|jfa 1 rfl<|jlo 0 rfl rfl rfl<|jpc 1 rfl<|jix 1 rfl rfl rfl<|fun x6 b8 o6=>jfa 1 rfl<|jld false oB (gf (gs (gk 0))) rfl<|jot<|jif rfl (jsr<|jpc 1 rfl<|jot<|jxr<|jbr<|jtr<|jlr<|jbr<|jtr<|
  jr1 rfl rfl (fun _ k=>k) [] ⟨⟩)<|jsk<|jbn<|jtn<|jrg<|jpc 3 rfl<|joe<|jln (gv (fun _ k=>k) [0] ⟨gk 1,gk 2,gk 3,⟨⟩⟩))<|jxe<|jte<|jle<|jbh<|jtn<|jsr<|jpc 1 rfl<|jot<|jxr<|jr1 rfl rfl (fun _ k=>k) [] ⟨⟩

theorem c_ref01_Has {qd : Prop} {y0 : List T_Literal} {y1 : T_Literal} : Con qd Tryz.prog 50 [sv p1 y0 c1, .agg #[vb y1.1, vs y1.2]] [] [Rl e_Literal p1 c1 y0] (m_ref01_Has y0 y1) fun r K=>K (vb r) [] [] :=
 ent3 Tryz.call50 Tryz.func50 rfl fun X=>jsr<|jbx .s rfl<|fun b1=>jpc 1 rfl<|jot<|jsq<|jsr<|jpc 1 rfl<|jot<|jbk<|jlp (fun s1 K=>K [(0, sv p1 y0 c1), (3, pt b1 0), (5, vi s1)] [bx b1 42 [vb y1.1, vs y1.2]] [Rl e_Literal p1 c1 y0]) (gv (fun _ k=>k) [0] ⟨gk 0,⟨⟩⟩)<|fun s1 _ k=>k<|
  jsq<|jsr<|jpc 4 rfl<|jot<|jif rfl (jsk<|jtn<|jsq<|jbk<|jds [] [0] 6<|jdc 4 [0,1] rfl<|jdi 2 0 rfl rfl rfl rfl<|fun x1 b2 o1=>jdl 3 true o_Literal rfl (gk 0) rfl<|jda 4 0 2 rfl rfl rfl rfl<|jdp 5 (vb (x1 == y1)) rfl<|jde<|jtn<|jif rfl (jsr<|
  jpc 1 rfl<|jot<|jxr<|jbr<|jtr<|jlr<|jbr<|jtr<|jr1 rfl rfl (fun _ k=>k) [] ⟨⟩)<|jsk<|jbn<|jtn<|jrg<|jpc 3 rfl<|joe<|jln (gv (fun _ k=>k) [0] ⟨gk 1,⟨⟩⟩))<|jxe<|jte<|jle<|jbh<|jtn<|jsr<|jpc 1 rfl<|jot<|jxr<|jr1 rfl rfl (fun _ k=>k) [] ⟨⟩

theorem c_ref07_insert {qd : Prop} {y0 : List Int} {y1 : Int} : Con qd Tryz.prog 75 [sv p1 y0 c1, vi y1] [] [Rl (eInt .i64) p1 c1 y0] (m_ref07_insert y0 y1) fun r K=>∀ p2 c2,K (sv p2 r c2) [] [Rl (eInt .i64) p2 c2 r] :=
 ent3 Tryz.call75 Tryz.func75 rfl fun X=>jsr<|jpc 1 rfl<|jot<|jsr<|jpc 1 rfl<|jot<|jjn (fun s1 K=>K [(0, sv p1 y0 c1), (1, vi y1), (5, vi s1)] [] [Rl (eInt .i64) p1 c1 y0]) (jbk<|
  jlp (fun s2 K=>K [(0, sv p1 y0 c1), (1, vi y1), (5, vi s2)] [] [Rl (eInt .i64) p1 c1 y0]) (gv (fun _ k=>k) [] ⟨gk 0,⟨⟩⟩)<|fun s2 _ k=>k<|jsq<|
  jjn (fun s3 K=>K [(0, sv p1 y0 c1), (1, vi y1), (5, vi s2), (18, vb s3)] [] [Rl (eInt .i64) p1 c1 y0]) (jrg<|jpc 5 rfl<|jsg 11 rfl (jpc 2 rfl<|jix 0 rfl rfl rfl<|fun x1 b1 o1=>jld false oI (gk 0) rfl<|jpc 2 rfl<|
  jpe (vb (decide (x1 < y1)))<|joe<|jnn (gv (fun _ k=>k) [] ⟨gk 1,⟨⟩⟩))<|jpc 6 rfl<|jpe (vb false)<|joe<|jnn (gv (fun _ k=>k) [] ⟨gk 0,⟨⟩⟩))<|fun s3 _ k=>k<|jif rfl (jsk<|jtn<|jbk<|jrg<|jpc 3 rfl<|joe<|jbn<|jln (gv (fun _ k=>k) [] ⟨gk 0,⟨⟩⟩)
  )<|jxe<|jte<|jle<|jbh<|jnn (gv (fun _ k=>k) [] ⟨gk 0,⟨⟩⟩))<|fun s1 _ k=>k<|jsq<|jjn (fun s4 K=>K [(0, sv p1 y0 c1), (1, vi y1), (5, vi s1), (32, vb s4)] [] [Rl (eInt .i64) p1 c1 y0]) (jrg<|jpc 5 rfl<|jsg 25 rfl (jpc 2 rfl<|
  jix 0 rfl rfl rfl<|fun x2 b2 o2=>jld false oI (gk 0) rfl<|jpc 2 rfl<|jpe (vb (x2 == y1))<|joe<|jnn (gv (fun _ k=>k) [] ⟨gk 1,⟨⟩⟩))<|jpc 6 rfl<|jpe (vb false)<|joe<|jnn (gv (fun _ k=>k) [] ⟨gk 0,⟨⟩⟩))<|fun s4 _ k=>k<|jif rfl (jsr<|
  jpc 2 rfl<|jot<|jxr<|jtr<|jr1 rfl rfl (fun _ k=>k p1 c1) [] ⟨gk 0,⟨⟩⟩)<|jsk<|jtn<|jsr<|jbo .s (e := eInt .i64) 3 [] ([] : List Int) rN<|fun r_1 p2 c2=>jpc 2 rfl<|jsl (gk 1) rfl rfl rfl (.inl ⟨rfl, rfl⟩) (.inr ⟨_, rfl⟩)<|fun x3 p3 c3=>
  jar .s 0 1 rfl (gk 0) rfl rfl<|fun x4 r_2 p4 c4=>jpc 1 rfl<|jot<|jds [] [] 9<|jdc 5 [0,1,4,5] rfl<|jdw 6 rfl (gk 3) rfl rfl rfl (.inr ⟨_, rfl⟩) (.inl ⟨rfl, rfl⟩)<|fun x5 p5 c5=>jd1 2<|
  jbs (.f rfl) (e := eInt .i64) 3 [vi y1] ([y1] : List Int) (rC vI rN)<|fun p6 c6=>jdn<|jd1 3<|jar (.f rfl) 0 2 rfl (gk 0) rfl rfl<|fun x6 r_3 p7 c7=>jdn<|jd1 7<|jar (.f rfl) 0 0 rfl (gk 2) rfl rfl<|fun x7 r_4 p8 c8=>jdn<|jdc 0 [8] rfl<|jde<|
  jtn<|jxr<|jsh 0 0 rfl rfl<|jr1 rfl rfl (fun _ k=>k p8 c8) [] ⟨gk 0,⟨⟩⟩

theorem c_ref07_union {qd : Prop} {y0 : List Int} {y1 : List Int} : Con qd Tryz.prog 84 [sv p1 y0 c1, sv p2 y1 c2] [] [Rl (eInt .i64) p1 c1 y0, Rl (eInt .i64) p2 c2 y1] (m_ref07_union y0 y1) fun r K=>∀ p3 c3,K (sv p3 r c3) [] [Rl (eInt .i64) p3 c3 r] :=
 ent3 Tryz.call84 Tryz.func84 rfl fun X=>jsr<|jpc 1 rfl<|jot<|jsq<|jsr<|jpc 1 rfl<|jot<|jbk<|jlp (fun s1 K=>∀ p3 c3,K [(0, sv p3 s1.1 c3), (1, sv p2 y1 c2), (5, vi s1.2)] [] [Rl (eInt .i64) p3 c3 s1.1, Rl (eInt .i64) p2 c2 y1]) (gv (fun _ k=>k p1 c1) [] ⟨gk 0,gk 1,⟨⟩⟩)<|
  fun s1 _ k p3 c3=>k<|jsq<|jsr<|jpc 4 rfl<|jot<|jif rfl (jsk<|jtn<|jsq<|jbk<|jrg<|jpc 3 rfl<|jix 1 rfl rfl rfl<|fun x1 b1 o1=>jld false oI (gk 0) rfl<|jcl c_ref07_insert rfl ⟨ck 1,⟨⟩⟩<|fun r1 _ k p4 c4=>k<|jpc 1 rfl<|joe<|jbn<|jtn<|jrg<|
  jpc 3 rfl<|joe<|jln (gv (fun _ k=>k p4 c4) [] ⟨gk 0,gk 3,⟨⟩⟩))<|jxe<|jte<|jle<|jbh<|jtn<|jsr<|jpc 2 rfl<|jot<|jxr<|jr1 rfl rfl (fun _ k=>k p3 c3) [] ⟨gk 0,⟨⟩⟩

theorem k_ref07_Subs_all {qd : Prop} (k : Nat) :
    (∀ {y0 : List T_Argument} {p1 : Option Addr} {c1 : Nat} {y1 : Int}, Con qd Tryz.prog 74 [sv p1 y0 c1, vi y1] [] [Rl e_Argument p1 c1 y0] (k_ref07_Subs k y0 y1) fun r K=>∀ p2 c2,K (sv p2 r c2) [] [Rl (eInt .i64) p2 c2 r]) := by
  induction k with
  | zero => exact con0 Tryz.call74
  | succ k ih =>
    have ih_ref07_Subs := @ih
    exact @fun y0 p1 c1 y1=>ent3 (m1 := F_ref07_Subs (k_ref07_Subs k) y0 y1) Tryz.call74 Tryz.func74 rfl fun X=>jsr<|jpc 1 rfl<|jot<|jsq<|jjp (fun K=>K [(0, sv p1 y0 c1), (1, vi y1), (14, vb ((decide (y1 < 0)) || (decide ((len y0) ≤ y1))))] [] [Rl e_Argument p1 c1 y0]) (jrg<|jpc 3 rfl<|jsp (b := decide (y1 < 0)) 9 rfl (fun hb1=>jpc 4 rfl<|
  jpe (vb true)<|joe<|jup 14 (vb ((decide (y1 < 0)) || (decide ((len y0) ≤ y1)))) rfl (by rw [hb1]; rfl)<|jnn (gv (fun _ k=>k) [] ⟨gk 0,⟨⟩⟩))<|fun hb1=>jpc 4 rfl<|jpe (vb (decide ((len y0) ≤ y1)))<|joe<|
  jup 14 (vb ((decide (y1 < 0)) || (decide ((len y0) ≤ y1)))) rfl (by rw [hb1]; rfl)<|jnn (gv (fun _ k=>k) [] ⟨gk 0,⟨⟩⟩))<|fun _ k=>k<|jif rfl (jsr<|jpc 1 rfl<|jot<|jxr<|jtr<|jr1 rfl rfl (fun _ k=>k none 0) [] ⟨gn,⟨⟩⟩)<|jsk<|jtn<|jsr<|
  jpc 1 rfl<|jbs .s (e := eInt .i64) 3 [vi y1] ([y1] : List Int) (rC vI rN)<|fun p2 c2=>jpc 1 rfl<|jot<|jsq<|jsr<|jpc 1 rfl<|jot<|jbk<|
  jlp (fun s1 K=>∀ p3 c3,K [(0, sv p1 y0 c1), (1, vi y1), (5, sv p3 s1.1 c3), (6, vi s1.2)] [] [Rl (eInt .i64) p3 c3 s1.1, Rl e_Argument p1 c1 y0]) (gv (fun _ k=>k p2 c2) [] ⟨gk 0,gk 1,⟨⟩⟩)<|fun s1 _ k p3 c3=>k<|jsq<|jsr<|jpc 3 rfl<|
  jix 1 rfl rfl rfl<|fun x1 b1 o1=>jfa 2 rfl<|jld false oL (gf (gs (gs (gk 0)))) rfl<|fun p4 c4=>jpc 2 rfl<|jot<|jif rfl (jsk<|jtn<|jsq<|jbk<|jrg<|jpc 4 rfl<|jix 3 rfl rfl rfl<|fun x2 b2 o2=>jfa 2 rfl<|jld false oL (gf (gs (gs (gk 0)))) rfl<|
  fun p5 c5=>jpc 1 rfl<|jix 0 rfl rfl rfl<|fun x3 b3 o3=>jld false oI (gk 0) rfl<|jcl ih_ref07_Subs rfl ⟨ck 6,⟨⟩⟩<|fun r1 _ k p6 c6=>k<|jcl c_ref07_union rfl ⟨ck 6,ck 0,⟨⟩⟩<|fun r2 _ k p7 c7=>k<|jpc 1 rfl<|joe<|jbn<|jtn<|jrg<|jpc 3 rfl<|joe<|
  jln (gv (fun _ k=>k p7 c7) [] ⟨gk 0,gk 8,⟨⟩⟩))<|jxe<|jte<|jle<|jbh<|jtn<|jsr<|jpc 2 rfl<|jot<|jxr<|jr1 rfl rfl (fun _ k=>k p3 c3) [] ⟨gk 2,⟨⟩⟩

theorem c_ref07_Subs {qd : Prop} {y0 : List T_Argument} {y1 : Int} : Con qd Tryz.prog 74 [sv p1 y0 c1, vi y1] [] [Rl e_Argument p1 c1 y0] (m_ref07_Subs y0 y1) fun r K=>∀ p2 c2,K (sv p2 r c2) [] [Rl (eInt .i64) p2 c2 r] := conLim fun k => (k_ref07_Subs_all k)

theorem c_ref07_Defeasible {qd : Prop} {y0 : T_Base} {y1 : List T_Argument} {y2 : Int} : Con qd Tryz.prog 53 [.agg #[sv p1 y0.1 c1, sv p2 y0.2.1 c2, sv p3 y0.2.2 c3], sv p4 y1 c4, vi y2] [] [Rl e_Premise p1 c1 y0.1, Rl e_Rule p2 c2 y0.2.1, Rl e_Promotion p3 c3 y0.2.2, Rl e_Argument p4 c4 y1] (m_ref07_Defeasible y0 y1 y2) fun r K=>∀ p5 c5,K (sv p5 r c5) [] [Rl (eInt .i64) p5 c5 r] :=
 ent3 Tryz.call53 Tryz.func53 rfl fun X=>jsr<|jbx .s rfl<|fun b1=>jpc 1 rfl<|jot<|jsr<|jpc 1 rfl<|jot<|jsq<|jsr<|jpc 2 rfl<|jcl c_ref07_Subs rfl ⟨ck 3,⟨⟩⟩<|fun r1 _ k p5 c5=>k<|jpc 2 rfl<|jot<|jbk<|
  jlp (fun s1 K=>∀ p6 c6,K [(1, sv p4 y1 c4), (3, pt b1 0), (7, sv p6 s1.1 c6), (12, sv p5 r1 c5), (13, vi (len r1)), (14, vi s1.2)] [bx b1 26 [sv p1 y0.1 c1, sv p2 y0.2.1 c2, sv p3 y0.2.2 c3]] [Rl (eInt .i64) p6 c6 s1.1, Rl e_Argument p4 c4 y1, Rl (eInt .i64) p5 c5 r1, Rl e_Premise p1 c1 y0.1, Rl e_Rule p2 c2 y0.2.1, Rl e_Promotion p3 c3 y0.2.2]) (gv (fun _ k=>k none 0) [0] ⟨gn,gk 4,gk 0,gk 1,gk 2,gk 3,⟨⟩⟩)<|
  fun s1 _ k p6 c6=>k<|jsr<|jpc 1 rfl<|jot<|jsq<|jif rfl (jsk<|jtn<|jsq<|jbk<|jsr<|jix 2 rfl rfl rfl<|fun x1 b2 o1=>jld false oI (gk 0) rfl<|jpc 1 rfl<|jot<|
  jjn (fun s2 K=>K [(1, sv p4 y1 c4), (3, pt b1 0), (7, sv p6 s1.1 c6), (9, vi x1), (12, sv p5 r1 c5), (13, vi (len r1)), (14, vi s1.2), (36, vb s2)] [bx b1 26 [sv p1 y0.1 c1, sv p2 y0.2.1 c2, sv p3 y0.2.2 c3]] [Rl e_Argument p4 c4 y1, Rl (eInt .i64) p6 c6 s1.1, Rl (eInt .i64) p5 c5 r1, Rl e_Premise p1 c1 y0.1, Rl e_Rule p2 c2 y0.2.1, Rl e_Promotion p3 c3 y0.2.2]) (
  jdS [] [0] 19<|jdc 17 [0,1] rfl<|jdi 2 2 rfl rfl rfl rfl<|fun x2 b3 o2=>jdf 3 1 rfl rfl<|jdl 4 false oI rfl (gf (gs (gk 0))) rfl<|jdc 12 [5,6] rfl<|jsg 24 rfl (jdf 7 1 rfl rfl<|jdo 8 0 rfl rfl rfl rfl<|jdc 8 [9,10] rfl<|
  jdi 11 3 rfl rfl rfl rfl<|fun x3 b4 o3=>jdf 12 1 rfl rfl<|jdl 13 false oI rfl (gf (gs (gk 0))) rfl<|jdi 14 7 rfl rfl rfl rfl<|fun x4 b5 o4=>jdf 15 1 rfl rfl<|jdl 16 false oB rfl (gf (gs (gk 0))) rfl<|jdc 1 [17] rfl<|
  jdp 18 (vb (!x4.2.1)) rfl<|jde<|jnn (gv (fun _ k=>k) [0] ⟨gk 5,gk 4,gk 6,gk 7,gk 8,gk 9,⟨⟩⟩))<|jdc 1 [7,8,9,10,11,12,13,14,15,16,17] rfl<|jdp 18 (vb false) rfl<|jde<|jnn (gv (fun _ k=>k) [0] ⟨gk 3,gk 2,gk 4,gk 5,gk 6,gk 7,⟨⟩⟩))<|
  fun s2 _ k=>k<|jif rfl (jrg<|jpc 3 rfl<|jix 0 rfl rfl rfl<|fun x5 b6 o5=>jfa 1 rfl<|jld false oI (gf (gs (gk 0))) rfl<|jcl c_ref07_insert rfl ⟨ck 2,⟨⟩⟩<|fun r2 _ k p7 c7=>k<|jpc 1 rfl<|joe<|jbn<|jtn<|jrg<|jpc 2 rfl<|joe<|
  jln (gv (fun _ k=>k p7 c7) [0] ⟨gk 0,gk 2,gk 4,gk 5,gk 6,gk 7,⟨⟩⟩))<|jsk<|jbn<|jtn<|jrg<|jpc 2 rfl<|joe<|jln (gv (fun _ k=>k p6 c6) [0] ⟨gk 1,gk 0,gk 2,gk 3,gk 4,gk 5,⟨⟩⟩))<|jxe<|jte<|jle<|jbh<|jtn<|jsr<|jpc 2 rfl<|jot<|jxr<|
  jr1 rfl rfl (fun _ k=>k p6 c6) [] ⟨gk 0,⟨⟩⟩

theorem k_ref07_Run_all {qd : Prop} (k : Nat) :
    (∀ {y0 : T_Base} {p1 : Option Addr} {c1 : Nat} {p2 : Option Addr} {c2 : Nat} {p3 : Option Addr} {c3 : Nat} {y1 : List T_Argument} {p4 : Option Addr} {c4 : Nat} {y2 : Int}, Con qd Tryz.prog 51 [.agg #[sv p1 y0.1 c1, sv p2 y0.2.1 c2, sv p3 y0.2.2 c3], sv p4 y1 c4, vi y2] [] [Rl e_Premise p1 c1 y0.1, Rl e_Rule p2 c2 y0.2.1, Rl e_Promotion p3 c3 y0.2.2, Rl e_Argument p4 c4 y1] (k_ref07_Run k y0 y1 y2) fun r K=>∀ p5 c5,K (sv p5 r c5) [] [Rl e_Literal p5 c5 r]) := by
  induction k with
  | zero => exact con0 Tryz.call51
  | succ k ih =>
    have ih_ref07_Run := @ih
    exact @fun y0 p1 c1 p2 c2 p3 c3 y1 p4 c4 y2=>ent3 (m1 := F_ref07_Run (k_ref07_Run k) y0 y1 y2) Tryz.call51 Tryz.func51 rfl fun X=>jsr<|jbx .s rfl<|fun b1=>jpc 1 rfl<|jot<|jsr<|jpc 2 rfl<|jix 3 rfl rfl rfl<|fun x1 b2 o1=>jfa 3 rfl<|jld true o_Literal (gs (gs (gs (gk 0)))) rfl<|
  jbo .s (e := e_Literal) 42 [vb x1.2.2.2.1, vs x1.2.2.2.2] ([x1.2.2.2] : List T_Literal) (rC (vP vB vS) rN)<|fun r_1 p5 c5=>jpc 1 rfl<|jot<|jsq<|
  jjn (fun s1 K=>K [(1, sv p4 y1 c4), (2, vi y2), (3, pt b1 0), (7, sv p5 ([x1.2.2.2] : List T_Literal) c5), (32, vb s1)] [bx b1 26 [sv p1 y0.1 c1, sv p2 y0.2.1 c2, sv p3 y0.2.2 c3], r_1] [Rl e_Argument p4 c4 y1, Al e_Literal 42 r_1 p5 c5 ([x1.2.2.2] : List T_Literal), Rl e_Premise p1 c1 y0.1, Rl e_Rule p2 c2 y0.2.1, Rl e_Promotion p3 c3 y0.2.2]) (
  jdS [] [0] 18<|jdc 16 [0,1] rfl<|jdi 2 5 rfl rfl rfl rfl<|fun x2 b3 o2=>jdf 3 1 rfl rfl<|jdl 4 false oI rfl (gf (gs (gk 0))) rfl<|jdc 11 [5,6] rfl<|jsg 21 rfl (jdf 7 1 rfl rfl<|jdo 8 0 rfl rfl rfl rfl<|jdc 7 [9,10] rfl<|
  jdi 11 6 rfl rfl rfl rfl<|fun x3 b4 o3=>jdf 12 1 rfl rfl<|jdl 13 false oI rfl (gf (gs (gk 0))) rfl<|jdi 14 5 rfl rfl rfl rfl<|fun x4 b5 o4=>jdf 15 1 rfl rfl<|jdl 16 false oB rfl (gf (gs (gk 0))) rfl<|jdp 17 (vb x4.2.1) rfl<|jde<|
  jnn (gv (fun _ k=>k) [0,1] ⟨gk 8,gk 3,gk 5,gk 6,gk 7,⟨⟩⟩))<|jdc 1 [7,8,9,10,11,12,13,14,15,16] rfl<|jdp 17 (vb false) rfl<|jde<|jnn (gv (fun _ k=>k) [0,1] ⟨gk 6,gk 1,gk 3,gk 4,gk 5,⟨⟩⟩))<|fun s1 _ k=>k<|jif rfl (jsr<|jpc 1 rfl<|jot<|jbk<|
  jlp (fun s2 K=>∀ p6 c6 r_2,K [(1, sv p4 y1 c4), (2, vi y2), (3, pt b1 0), (7, sv p6 s2.1 c6), (8, vi s2.2)] [bx b1 26 [sv p1 y0.1 c1, sv p2 y0.2.1 c2, sv p3 y0.2.2 c3], r_2] [Al e_Literal 42 r_2 p6 c6 s2.1, Rl e_Argument p4 c4 y1, Rl e_Premise p1 c1 y0.1, Rl e_Rule p2 c2 y0.2.1, Rl e_Promotion p3 c3 y0.2.2]) (gv (fun _ k=>k p5 c5 r_1) [0,1] ⟨gk 1,gk 0,gk 2,gk 3,gk 4,⟨⟩⟩)<|
  fun s2 _ k p6 c6 r_2=>k<|jsq<|jsr<|jpc 3 rfl<|jix 1 rfl rfl rfl<|fun x5 b6 o5=>jfa 2 rfl<|jld false oL (gf (gs (gs (gk 0)))) rfl<|fun p7 c7=>jpc 2 rfl<|jot<|jif rfl (jsk<|jtn<|jsq<|jbk<|jdS [] [0] 14<|jdc 13 [0] rfl<|
  jda 1 0 3 rfl rfl rfl rfl<|jdc 9 [2,3,4] rfl<|jdi 5 3 rfl rfl rfl rfl<|fun x6 b7 o6=>jdf 6 2 rfl rfl<|jdl 7 false oL rfl (gf (gs (gs (gk 0)))) rfl<|fun p8 c8=>jdc 5 [8] rfl<|jdi 9 0 rfl rfl rfl rfl<|fun x7 b8 o7=>
  jdl 10 false oI rfl (gk 0) rfl<|jd1 11<|jca (.f rfl) [] [] ih_ref07_Run rfl rfl rfl ⟨ck 7,ck 8,ck 9,ck 6,⟨⟩⟩<|fun r1 _ k p9 c9=>k<|jdn<|jd1 12<|jar (.f rfl) 1 6 rfl (gk 0) rfl rfl<|fun x8 r_3 p10 c10=>jdn<|jdc 0 [13] rfl<|jde<|jbn<|jtn<|
  jrg<|jpc 3 rfl<|joe<|jln (gv (fun _ k=>k p10 c10 r_3) [0,1] ⟨gk 0,gk 8,gk 9,gk 10,gk 11,⟨⟩⟩))<|jxe<|jte<|jle<|jbh<|jtn<|jsr<|jpc 2 rfl<|jot<|jxr<|jsh 1 2 rfl rfl<|jr1 rfl rfl (fun _ k=>k p6 c6) [] ⟨gk 0,⟨⟩⟩)<|jsk<|jtn<|jsr<|jpc 2 rfl<|jot<|
  jxr<|jsh 1 1 rfl rfl<|jr1 rfl rfl (fun _ k=>k p5 c5) [] ⟨gk 0,⟨⟩⟩

theorem c_ref07_Run {qd : Prop} {y0 : T_Base} {y1 : List T_Argument} {y2 : Int} : Con qd Tryz.prog 51 [.agg #[sv p1 y0.1 c1, sv p2 y0.2.1 c2, sv p3 y0.2.2 c3], sv p4 y1 c4, vi y2] [] [Rl e_Premise p1 c1 y0.1, Rl e_Rule p2 c2 y0.2.1, Rl e_Promotion p3 c3 y0.2.2, Rl e_Argument p4 c4 y1] (m_ref07_Run y0 y1 y2) fun r K=>∀ p5 c5,K (sv p5 r c5) [] [Rl e_Literal p5 c5 r] := conLim fun k => (k_ref07_Run_all k)

theorem c_ref07_in {qd : Prop} {y0 : List Int} {y1 : Int} : Con qd Tryz.prog 52 [sv p1 y0 c1, vi y1] [] [Rl (eInt .i64) p1 c1 y0] (m_ref07_in y0 y1) fun r K=>K (vb r) [] [] :=
 ent3 Tryz.call52 Tryz.func52 rfl fun X=>jsr<|jpc 1 rfl<|jot<|jsq<|jsr<|jpc 1 rfl<|jot<|jbk<|jlp (fun s1 K=>K [(0, sv p1 y0 c1), (1, vi y1), (5, vi s1)] [] [Rl (eInt .i64) p1 c1 y0]) (gv (fun _ k=>k) [] ⟨gk 0,⟨⟩⟩)<|fun s1 _ k=>k<|jsq<|jsr<|jpc 4 rfl<|jot<|jif rfl (jsk<|jtn<|jsq<|
  jbk<|jsr<|jpc 2 rfl<|jix 0 rfl rfl rfl<|fun x1 b1 o1=>jld false oI (gk 0) rfl<|jpc 2 rfl<|jot<|jif rfl (jsr<|jpc 1 rfl<|jot<|jxr<|jbr<|jtr<|jlr<|jbr<|jtr<|jr1 rfl rfl (fun _ k=>k) [] ⟨⟩)<|jsk<|jbn<|jtn<|jrg<|jpc 3 rfl<|joe<|
  jln (gv (fun _ k=>k) [] ⟨gk 1,⟨⟩⟩))<|jxe<|jte<|jle<|jbh<|jtn<|jsr<|jpc 1 rfl<|jot<|jxr<|jr1 rfl rfl (fun _ k=>k) [] ⟨⟩

theorem c_ref07_Within {qd : Prop} {y0 : T_Base} {y1 : List T_Argument} {y2 : Int} {y3 : List Int} : Con qd Tryz.prog 26 [.agg #[sv p1 y0.1 c1, sv p2 y0.2.1 c2, sv p3 y0.2.2 c3], sv p4 y1 c4, vi y2, sv p5 y3 c5] [] [Rl e_Premise p1 c1 y0.1, Rl e_Rule p2 c2 y0.2.1, Rl e_Promotion p3 c3 y0.2.2, Rl e_Argument p4 c4 y1, Rl (eInt .i64) p5 c5 y3] (m_ref07_Within y0 y1 y2 y3) fun r K=>K (vb r) [] [] :=
 ent3 Tryz.call26 Tryz.func26 rfl fun X=>jsr<|jbx .s rfl<|fun b1=>jpc 1 rfl<|jot<|jsr<|jfa 1 rfl<|jlo 0 rfl rfl rfl<|jpc 1 rfl<|jix 1 rfl rfl rfl<|fun x1 b2 o1=>jld true o_Rule (gk 0) rfl<|fun p6 c6=>jal .s (.agg #[vs [], vb false, vi 0, .slice none 0 0, vb false, vs []])<|
  fun b3=>jso .s 1 rfl rfl rfl<|jot<|jsq<|jsr<|jpc 1 rfl<|jot<|jbk<|
  jlp (fun s1 K=>K [(1, sv p4 y1 c4), (2, vi y2), (3, sv p5 y3 c5), (4, pt b1 0), (9, pt b3 0), (10, vi s1)] [bx b1 26 [sv p1 y0.1 c1, sv p2 y0.2.1 c2, sv p3 y0.2.2 c3], bx b3 47 [vs x1.1, vb x1.2.1, vi x1.2.2.1, sv p6 x1.2.2.2.1 c6, vb x1.2.2.2.2.1, vs x1.2.2.2.2.2]] [Rl e_Argument p4 c4 y1, Rl (eInt .i64) p5 c5 y3, Rl e_Premise p1 c1 y0.1, Rl e_Rule p2 c2 y0.2.1, Rl e_Promotion p3 c3 y0.2.2, Rl e_Literal p6 c6 x1.2.2.2.1]) (gv (fun _ k=>k) [0,1] ⟨gk 5,gk 6,gk 2,gk 3,gk 4,gk 0,⟨⟩⟩)<|
  fun s1 _ k=>k<|jsq<|jsr<|jpc 4 rfl<|jot<|jif rfl (jsk<|jtn<|jsq<|jbk<|
  jjn (fun s2 K=>K [(1, sv p4 y1 c4), (2, vi y2), (3, sv p5 y3 c5), (4, pt b1 0), (9, pt b3 0), (10, vi s1), (51, vb s2)] [bx b1 26 [sv p1 y0.1 c1, sv p2 y0.2.1 c2, sv p3 y0.2.2 c3], bx b3 47 [vs x1.1, vb x1.2.1, vi x1.2.2.1, sv p6 x1.2.2.2.1 c6, vb x1.2.2.2.2.1, vs x1.2.2.2.2.2]] [Rl e_Argument p4 c4 y1, Rl (eInt .i64) p5 c5 y3, Rl e_Premise p1 c1 y0.1, Rl e_Rule p2 c2 y0.2.1, Rl e_Promotion p3 c3 y0.2.2, Rl e_Literal p6 c6 x1.2.2.2.1]) (
  jdS [] [0, 1] 30<|jdf 0 1 rfl rfl<|jdo 1 1 rfl rfl rfl rfl<|jdc 27 [2] rfl<|jsg 24 rfl (jda 3 0 3 rfl rfl rfl rfl<|jdc 23 [4,5,6] rfl<|jdi 7 1 rfl rfl rfl rfl<|fun x2 b4 o2=>jdl 8 false oI rfl (gk 0) rfl<|jdf 10 4 rfl rfl<|
  jda 11 1 2 rfl rfl rfl rfl<|jd1 9<|jca (.f rfl) [] [] c_ref07_Run rfl rfl rfl ⟨ck 3,ck 4,ck 5,ck 1,⟨⟩⟩<|fun r1 _ k p7 c7=>k<|jdn<|jd1 12<|jca (.f rfl) [] [] c_ref01_Has rfl rfl rfl ⟨ck 0,⟨⟩⟩<|fun r2 _ k=>k<|jdn<|jdp 13 (vb r2) rfl<|
  jdc 15 [14] rfl<|jsg 36 rfl (jdc 1 [15,16,17,18,19,20,21,22,23,24,25,26,27,28] rfl<|jdp 29 (vb true) rfl<|jde<|jnn (gv (fun _ k=>k) [0,1] ⟨gk 2,gk 3,gk 4,gk 5,gk 6,gk 7,⟨⟩⟩))<|jdf 15 1 rfl rfl<|jdo 16 1 rfl rfl rfl rfl<|jdc 11 [17,18] rfl<|
  jsg 40 rfl (jda 19 0 3 rfl rfl rfl rfl<|jdc 7 [20,21,22] rfl<|jdi 23 3 rfl rfl rfl rfl<|fun x3 b5 o3=>jdl 24 false oI rfl (gk 0) rfl<|jdc 4 [26] rfl<|jd1 25<|jca (.f rfl) [] [] c_ref07_Defeasible rfl rfl rfl ⟨ck 5,ck 6,ck 7,ck 3,⟨⟩⟩<|
  fun r3 _ k p8 c8=>k<|jdn<|jd1 27<|jca (.f rfl) [] [] c_ref07_in rfl rfl rfl ⟨ck 0,⟨⟩⟩<|fun r4 _ k=>k<|jdn<|jdp 28 (vb r4) rfl<|jdp 29 (vb r4) rfl<|jde<|jnn (gv (fun _ k=>k) [0,1] ⟨gk 4,gk 5,gk 6,gk 7,gk 8,gk 9,⟨⟩⟩))<|
  jdc 2 [19,20,21,22,23,24,25,26,27] rfl<|jdp 28 (vb false) rfl<|jdp 29 (vb false) rfl<|jde<|jnn (gv (fun _ k=>k) [0,1] ⟨gk 2,gk 3,gk 4,gk 5,gk 6,gk 7,⟨⟩⟩))<|jdc 17 [3,4,5,6,7,8,9,10,11,12] rfl<|jdp 13 (vb false) rfl<|jdc 15 [14] rfl<|
  jdf 15 1 rfl rfl<|jdo 16 1 rfl rfl rfl rfl<|jdc 11 [17,18] rfl<|jsg 40 rfl (jda 19 0 3 rfl rfl rfl rfl<|jdc 7 [20,21,22] rfl<|jdi 23 1 rfl rfl rfl rfl<|fun x4 b6 o4=>jdl 24 false oI rfl (gk 0) rfl<|jdc 4 [26] rfl<|jd1 25<|
  jca (.f rfl) [] [] c_ref07_Defeasible rfl rfl rfl ⟨ck 3,ck 4,ck 5,ck 1,⟨⟩⟩<|fun r5 _ k p9 c9=>k<|jdn<|jd1 27<|jca (.f rfl) [] [] c_ref07_in rfl rfl rfl ⟨ck 0,⟨⟩⟩<|fun r6 _ k=>k<|jdn<|jdp 28 (vb r6) rfl<|jdp 29 (vb r6) rfl<|jde<|
  jnn (gv (fun _ k=>k) [0,1] ⟨gk 2,gk 3,gk 4,gk 5,gk 6,gk 7,⟨⟩⟩))<|jdc 2 [19,20,21,22,23,24,25,26,27] rfl<|jdp 28 (vb false) rfl<|jdp 29 (vb false) rfl<|jde<|jnn (gv (fun _ k=>k) [0,1] ⟨gk 0,gk 1,gk 2,gk 3,gk 4,gk 5,⟨⟩⟩))<|fun s2 _ k=>k<|
  jif rfl (jsr<|jpc 1 rfl<|jot<|jxr<|jbr<|jtr<|jlr<|jbr<|jtr<|jr1 rfl rfl (fun _ k=>k) [] ⟨⟩)<|jsk<|jbn<|jtn<|jrg<|jpc 3 rfl<|joe<|jln (gv (fun _ k=>k) [0,1] ⟨gk 0,gk 1,gk 2,gk 3,gk 4,gk 5,⟨⟩⟩))<|jxe<|jte<|jle<|jbh<|jtn<|jsr<|jpc 1 rfl<|jot<|
  jxr<|jr1 rfl rfl (fun _ k=>k) [] ⟨⟩

theorem k_ref07_choices_2_all {qd : Prop} (k : Nat) :
    (∀ {y0 : List T_Argument} {p1 : Option Addr} {c1 : Nat} {r_1 : Res} {y1 : Int} {y2 : List T_Literal} {p2 : Option Addr} {c2 : Nat} {y3 : List Int} {p3 : Option Addr} {c3 : Nat}, Con qd Tryz.prog 24 [sv p1 y0 c1, vi y1, sv p2 y2 c2, sv p3 y3 c3] [r_1] [Al e_Argument 66 r_1 p1 c1 y0, Rl e_Literal p2 c2 y2, Rl (eInt .i64) p3 c3 y3] (k_ref07_choices_2 k y0 y1 y2 y3) fun r K=>∀ p4 c4,K (sv p4 r c4) [r_1] [Rl (eSlice (eInt .i64)) p4 c4 r]) := by
  induction k with
  | zero => exact con0 Tryz.call24
  | succ k ih =>
    have ih_ref07_choices_2 := @ih
    exact @fun y0 p1 c1 r_1 y1 y2 p2 c2 y3 p3 c3=>ent3 (m1 := F_ref07_choices_2 (k_ref07_choices_2 k) y0 y1 y2 y3) Tryz.call24 Tryz.func24 rfl fun X=>jsr<|jpc 1 rfl<|jot<|jsq<|jsr<|jpc 5 rfl<|jot<|jif rfl (jsr<|jbo .s (e := eInt .i64) 3 [] ([] : List Int) rN<|fun r_2 p4 c4=>jpc 1 rfl<|jar .s 1 0 rfl (gk 3) rfl rfl<|fun x1 r_3 p5 c5=>jsh 1 0 rfl rfl<|
  jbs .s (e := eSlice (eInt .i64)) 27 [sv p5 x1 c5] ([x1] : List (List Int)) (rC (vL (gk 0)) rN)<|fun p6 c6=>jpc 1 rfl<|jot<|jxr<|jtr<|jr1 rfl rfl (fun _ k=>k p6 c6) [0] ⟨gk 0,⟨⟩⟩)<|jsk<|jtn<|jsr<|jpc 1 rfl<|jro (eSlice (eInt .i64)) 27<|jot<|
  jsq<|jsr<|jpc 1 rfl<|jot<|jbk<|
  jlp (fun s1 K=>∀ p7 c7 r_4,K [(0, sv p1 y0 c1), (1, vi y1), (2, sv p2 y2 c2), (3, sv p3 y3 c3), (9, sv p7 s1.1 c7), (10, vi s1.2)] [r_1, r_4] [Al (eSlice (eInt .i64)) 27 r_4 p7 c7 s1.1, Al e_Argument 66 r_1 p1 c1 y0, Rl e_Literal p2 c2 y2, Rl (eInt .i64) p3 c3 y3]) (gv (fun _ k=>k none 0 []) [0,1] ⟨gk 0,gk 1,gk 2,gk 3,⟨⟩⟩)<|
  fun s1 _ k p7 c7 r_4=>k<|jsq<|jsr<|jpc 3 rfl<|jot<|jif rfl (jsk<|jtn<|jsq<|jbk<|jds [] [0] 11<|jdc 9 [0,1] rfl<|jdI 2 1 rfl rfl rfl rfl<|fun x2 h2 b1 hp1=>jdf 3 3 rfl rfl<|jdL 4 0 1 sI.snd.snd.snd true o_Literal rfl rfl hp1 h2 rfl<|
  jdc 3 [5,6,7] rfl<|jdi 8 2 rfl rfl rfl rfl<|fun x3 b2 o1=>jdl 9 true o_Literal rfl (gk 0) rfl<|jdp 10 (vb (x2.2.2.2 == x3)) rfl<|jde<|jtn<|jif rfl (jrg<|jpc 9 rfl<|jsF (gk 4) rfl rfl rfl rfl (.inl ⟨rfl, rfl⟩)<|fun x4 p8=>jpc 1 rfl<|
  jbs .s (e := eInt .i64) 3 [vi s1.2] ([s1.2] : List Int) (rC vI rN)<|fun p9 c8=>jaf .s 3 (gk 1) (gk 0) rfl rfl<|fun x5 p10 c9=>jca .s [0] [] ih_ref07_choices_2 rfl rfl rfl ⟨ck 5,ck 6,ck 0,⟨⟩⟩<|fun r1 _ k p11 c10=>k<|
  jar .s 1 5 rfl (gk 0) rfl rfl<|fun x6 r_5 p12 c11=>jpc 1 rfl<|joe<|jbn<|jtn<|jrg<|jpc 3 rfl<|joe<|jln (gv (fun _ k=>k p12 c11 r_5) [0,1] ⟨gk 0,gk 7,gk 8,gk 9,⟨⟩⟩))<|jsk<|jbn<|jtn<|jrg<|jpc 3 rfl<|joe<|
  jln (gv (fun _ k=>k p7 c7 r_4) [0,1] ⟨gk 1,gk 2,gk 3,gk 4,⟨⟩⟩))<|jxe<|jte<|jle<|jbh<|jtn<|jsr<|jpc 2 rfl<|jot<|jxr<|jsh 1 0 rfl rfl<|jr1 rfl rfl (fun _ k=>k p7 c7) [0] ⟨gk 0,⟨⟩⟩

theorem c_ref07_choices_2 {qd : Prop} {y0 : List T_Argument} {y1 : Int} {y2 : List T_Literal} {y3 : List Int} : Con qd Tryz.prog 24 [sv p1 y0 c1, vi y1, sv p2 y2 c2, sv p3 y3 c3] [r_1] [Al e_Argument 66 r_1 p1 c1 y0, Rl e_Literal p2 c2 y2, Rl (eInt .i64) p3 c3 y3] (m_ref07_choices_2 y0 y1 y2 y3) fun r K=>∀ p4 c4,K (sv p4 r c4) [r_1] [Rl (eSlice (eInt .i64)) p4 c4 r] := conLim fun k => (k_ref07_choices_2_all k)

theorem c_ref07_recent {qd : Prop} {y0 : List Int} {y1 : Int} : Con qd Tryz.prog 25 [sv p1 y0 c1, vi y1] [] [Rl (eInt .i64) p1 c1 y0] (m_ref07_recent y0 y1) fun r K=>K (vb r) [] [] :=
 ent3 Tryz.call25 Tryz.func25 rfl fun X=>jsr<|jpc 1 rfl<|jot<|jsq<|jsr<|jpc 1 rfl<|jot<|jbk<|jlp (fun s1 K=>K [(0, sv p1 y0 c1), (1, vi y1), (5, vi s1)] [] [Rl (eInt .i64) p1 c1 y0]) (gv (fun _ k=>k) [] ⟨gk 0,⟨⟩⟩)<|fun s1 _ k=>k<|jsq<|jsr<|jpc 4 rfl<|jot<|jif rfl (jsk<|jtn<|jsq<|
  jbk<|jsr<|jpc 2 rfl<|jix 0 rfl rfl rfl<|fun x1 b1 o1=>jld false oI (gk 0) rfl<|jpc 2 rfl<|jot<|jif rfl (jsr<|jpc 1 rfl<|jot<|jxr<|jbr<|jtr<|jlr<|jbr<|jtr<|jr1 rfl rfl (fun _ k=>k) [] ⟨⟩)<|jsk<|jbn<|jtn<|jrg<|jpc 3 rfl<|joe<|
  jln (gv (fun _ k=>k) [] ⟨gk 1,⟨⟩⟩))<|jxe<|jte<|jle<|jbh<|jtn<|jsr<|jpc 1 rfl<|jot<|jxr<|jr1 rfl rfl (fun _ k=>k) [] ⟨⟩

theorem c_ref07_Build {qd : Prop} {y0 : T_Base} : Con qd Tryz.prog 9 [.agg #[sv p1 y0.1 c1, sv p2 y0.2.1 c2, sv p3 y0.2.2 c3]] [] [Rl e_Premise p1 c1 y0.1, Rl e_Rule p2 c2 y0.2.1, Rl e_Promotion p3 c3 y0.2.2] (m_ref07_Build y0) fun r K=>∀ p4 c4,K (.tuple #[sv p4 r.1 c4, vi r.2]) [] [Rl e_Argument p4 c4 r.1] :=
 ent3 Tryz.call9 Tryz.func9 rfl fun X=>jsr<|jbx .s rfl<|fun b1=>jpc 2 rfl<|jot<|jsq<|jsr<|jla 0 3 rfl rfl rfl<|jcl c_ref05_Validate rfl ⟨ck 0,ck 1,ck 2,⟨⟩⟩<|fun r1 _ k=>k<|jpc 1 rfl<|jot<|jsr<|jpc 2 rfl<|jot<|jif rfl (jsr<|jpc 3 rfl<|jot<|jxr<|jtr<|
  jrg' rfl (lT rfl (lT rfl lN)) (fun _ k=>k none 0) [] ⟨gn,⟨⟩⟩)<|jsk<|jtn<|jsr<|jpc 1 rfl<|jro e_Argument 66<|jot<|
  jjn (fun s1 K=>∀ p4 c4 r_1,K [(1, pt b1 0), (5, sv p4 s1 c4)] [bx b1 26 [sv p1 y0.1 c1, sv p2 y0.2.1 c2, sv p3 y0.2.2 c3], r_1] [Al e_Argument 66 r_1 p4 c4 s1, Rl e_Premise p1 c1 y0.1, Rl e_Rule p2 c2 y0.2.1, Rl e_Promotion p3 c3 y0.2.2]) (
  jsr<|jpc 1 rfl<|jot<|jbk<|
  jlp (fun s2 K=>∀ p5 c5 r_2,K [(1, pt b1 0), (5, sv p5 s2.1 c5), (6, vi s2.2)] [bx b1 26 [sv p1 y0.1 c1, sv p2 y0.2.1 c2, sv p3 y0.2.2 c3], r_2] [Al e_Argument 66 r_2 p5 c5 s2.1, Rl e_Premise p1 c1 y0.1, Rl e_Rule p2 c2 y0.2.1, Rl e_Promotion p3 c3 y0.2.2]) (gv (fun _ k=>k none 0 []) [0,1] ⟨gk 0,gk 1,gk 2,gk 3,⟨⟩⟩)<|
  fun s2 _ k p5 c5 r_2=>k<|jsq<|jsr<|jpc 1 rfl<|jfa 0 rfl<|jlo 0 rfl rfl rfl<|jpc 2 rfl<|jot<|jif rfl (jsk<|jtn<|jsq<|jbk<|jrg<|jpc 2 rfl<|jfa 0 rfl<|jlo 0 rfl rfl rfl<|jpc 1 rfl<|jix 1 rfl rfl rfl<|fun x1 b2 o1=>jfa 0 rfl<|
  jld true o_Literal (gf (gk 0)) rfl<|jpe (.agg #[vi s2.2, vi (-1), .slice none 0 0, vb x1.1.1, vs x1.1.2])<|
  jbs .s (e := e_Argument) 66 [vi s2.2, vi (-1), .slice none 0 0, vb x1.1.1, vs x1.1.2] ([(s2.2, (-1), ([] : List Int), x1.1)] : List T_Argument) (rC (vP vI (vP vI (vP (vL gn) (vP vB vS)))) rN)<|fun p6 c6=>jar .s 1 2 rfl (gk 0) rfl rfl<|
  fun x2 r_3 p7 c7=>jpc 1 rfl<|joe<|jbn<|jtn<|jrg<|jpc 3 rfl<|joe<|jln (gv (fun _ k=>k p7 c7 r_3) [0,1] ⟨gk 0,gk 4,gk 5,gk 6,⟨⟩⟩))<|jxe<|jte<|jle<|jbh<|jnn (gv (fun _ k=>k p5 c5 r_2) [0,1] ⟨gk 0,gk 1,gk 2,gk 3,⟨⟩⟩))<|fun s1 _ k p4 c4 r_1=>k<|
  jsr<|jpc 1 rfl<|jot<|jsq<|jsr<|jpc 1 rfl<|jot<|jbk<|
  jlp (fun s3 K=>∀ p8 c8 r_4,K [(1, pt b1 0), (5, sv p8 s3.1 c8), (7, vi s3.2.1), (8, vi s3.2.2)] [bx b1 26 [sv p1 y0.1 c1, sv p2 y0.2.1 c2, sv p3 y0.2.2 c3], r_4] [Al e_Argument 66 r_4 p8 c8 s3.1, Rl e_Premise p1 c1 y0.1, Rl e_Rule p2 c2 y0.2.1, Rl e_Promotion p3 c3 y0.2.2]) (gv (fun _ k=>k p4 c4 r_1) [0,1] ⟨gk 0,gk 1,gk 2,gk 3,⟨⟩⟩)<|
  fun s3 _ k p8 c8 r_4=>k<|jsq<|
  jjp (fun K=>K [(1, pt b1 0), (5, sv p8 s3.1 c8), (7, vi s3.2.1), (8, vi s3.2.2), (43, vb ((s3.2.2 == 1) || (decide (s3.2.1 < (len s3.1)))))] [bx b1 26 [sv p1 y0.1 c1, sv p2 y0.2.1 c2, sv p3 y0.2.2 c3], r_4] [Al e_Argument 66 r_4 p8 c8 s3.1, Rl e_Premise p1 c1 y0.1, Rl e_Rule p2 c2 y0.2.1, Rl e_Promotion p3 c3 y0.2.2]) (
  jrg<|jpc 3 rfl<|jsp (b := s3.2.2 == 1) 38 rfl (fun hb1=>jpc 4 rfl<|jpe (vb true)<|joe<|jup 43 (vb ((s3.2.2 == 1) || (decide (s3.2.1 < (len s3.1))))) rfl (by rw [hb1]; rfl)<|jnn (gv (fun _ k=>k) [0,1] ⟨gk 0,gk 1,gk 2,gk 3,⟨⟩⟩))<|fun hb1=>
  jpc 4 rfl<|jpe (vb (decide (s3.2.1 < (len s3.1))))<|joe<|jup 43 (vb ((s3.2.2 == 1) || (decide (s3.2.1 < (len s3.1))))) rfl (by rw [hb1]; rfl)<|jnn (gv (fun _ k=>k) [0,1] ⟨gk 0,gk 1,gk 2,gk 3,⟨⟩⟩))<|fun _ k=>k<|jif rfl (jsk<|jtn<|jsq<|jbk<|
  jsr<|jpc 3 rfl<|jot<|jsq<|jsr<|jpc 1 rfl<|jot<|jbk<|
  jlp (fun s4 K=>∀ p9 c9 r_5,K [(1, pt b1 0), (5, sv p9 s4.1 c9), (7, vi s3.2.1), (8, vi s3.2.2), (9, vi (len s3.1)), (10, vi s4.2)] [bx b1 26 [sv p1 y0.1 c1, sv p2 y0.2.1 c2, sv p3 y0.2.2 c3], r_5] [Al e_Argument 66 r_5 p9 c9 s4.1, Rl e_Premise p1 c1 y0.1, Rl e_Rule p2 c2 y0.2.1, Rl e_Promotion p3 c3 y0.2.2]) (gv (fun _ k=>k p8 c8 r_4) [0,1] ⟨gk 0,gk 1,gk 2,gk 3,⟨⟩⟩)<|
  fun s4 _ k p9 c9 r_5=>k<|jsq<|jsr<|jpc 1 rfl<|jfa 1 rfl<|jlo 0 rfl rfl rfl<|jpc 2 rfl<|jot<|jif rfl (jsk<|jtn<|jsq<|jbk<|jsr<|jpc 2 rfl<|jfa 1 rfl<|jlo 0 rfl rfl rfl<|jpc 1 rfl<|jix 2 rfl rfl rfl<|fun x3 b3 o2=>jfa 3 rfl<|
  jld false oL (gf (gs (gs (gs (gk 0))))) rfl<|fun p10 c10=>jca .s [1] [] c_ref07_choices_2 rfl rfl rfl ⟨ck 2,ck 0,cn,⟨⟩⟩<|fun r2 _ k p11 c11=>k<|jpc 2 rfl<|jot<|jbk<|
  jlp (fun s5 K=>∀ p12 c12 r_6,K [(1, pt b1 0), (5, sv p12 s5.1 c12), (7, vi s3.2.1), (8, vi s3.2.2), (9, vi (len s3.1)), (10, vi s4.2), (63, sv p11 r2 c11), (64, vi (len r2)), (65, vi s5.2)] [bx b1 26 [sv p1 y0.1 c1, sv p2 y0.2.1 c2, sv p3 y0.2.2 c3], r_6] [Al e_Argument 66 r_6 p12 c12 s5.1, Rl (eSlice (eInt .i64)) p11 c11 r2, Rl e_Premise p1 c1 y0.1, Rl e_Rule p2 c2 y0.2.1, Rl e_Promotion p3 c3 y0.2.2]) (gv (fun _ k=>k p9 c9 r_5) [0,1] ⟨gk 3,gk 0,gk 4,gk 5,gk 6,⟨⟩⟩)<|
  fun s5 _ k p12 c12 r_6=>k<|jsr<|jpc 1 rfl<|jot<|jsq<|jif rfl (jsk<|jtn<|jsq<|jbk<|jsr<|jix 1 rfl rfl rfl<|fun x4 b4 o3=>jld false oL (gk 0) rfl<|fun p13 c13=>jpc 1 rfl<|jot<|jsq<|
  jjn (fun s6 K=>K [(1, pt b1 0), (5, sv p12 s5.1 c12), (7, vi s3.2.1), (8, vi s3.2.2), (9, vi (len s3.1)), (10, vi s4.2), (12, sv p13 x4 c13), (63, sv p11 r2 c11), (64, vi (len r2)), (65, vi s5.2), (89, vb s6)] [bx b1 26 [sv p1 y0.1 c1, sv p2 y0.2.1 c2, sv p3 y0.2.2 c3], r_6] [Al e_Argument 66 r_6 p12 c12 s5.1, Rl (eSlice (eInt .i64)) p11 c11 r2, Rl (eInt .i64) p13 c13 x4, Rl e_Premise p1 c1 y0.1, Rl e_Rule p2 c2 y0.2.1, Rl e_Promotion p3 c3 y0.2.2]) (
  jrg<|jpc 2 rfl<|jcl c_ref07_recent rfl ⟨ck 0,⟨⟩⟩<|fun r3 _ k=>k<|jpc 2 rfl<|jsg 73 rfl (jpc 3 rfl<|jsg 76 rfl (jpc 3 rfl<|jpe (vb true)<|jpe (vb true)<|jpc 7 rfl<|jpe (vb true)<|joe<|
  jnn (gv (fun _ k=>k) [0,1] ⟨gk 2,gk 3,gk 0,gk 4,gk 5,gk 6,⟨⟩⟩))<|jpc 3 rfl<|jpe (vb (decide (0 < (len x4))))<|jpe (vb (decide (0 < (len x4))))<|jpc 1 rfl<|jsg 82 rfl (jpc 6 rfl<|jpe (vb true)<|joe<|
  jnn (gv (fun _ k=>k) [0,1] ⟨gk 2,gk 3,gk 0,gk 4,gk 5,gk 6,⟨⟩⟩))<|jla 0 3 rfl rfl rfl<|jpc 3 rfl<|jca .s [] [1] c_ref07_Within rfl rfl rfl ⟨ck 4,ck 5,ck 6,cl 1 2,ck 0,⟨⟩⟩<|fun r4 _ k=>k<|jpc 1 rfl<|jpe (vb (!r4))<|joe<|
  jnn (gv (fun _ k=>k) [0,1] ⟨gk 2,gk 3,gk 0,gk 4,gk 5,gk 6,⟨⟩⟩))<|jpc 7 rfl<|jpe (vb false)<|jpc 1 rfl<|jla 0 3 rfl rfl rfl<|jpc 3 rfl<|jca .s [] [1] c_ref07_Within rfl rfl rfl ⟨ck 4,ck 5,ck 6,cl 1 2,ck 0,⟨⟩⟩<|fun r5 _ k=>k<|jpc 1 rfl<|
  jpe (vb (!r5))<|joe<|jnn (gv (fun _ k=>k) [0,1] ⟨gk 2,gk 3,gk 0,gk 4,gk 5,gk 6,⟨⟩⟩))<|fun s6 _ k=>k<|jif rfl (jxe<|jte<|jbh<|jtn<|jrg<|jpc 2 rfl<|joe<|jln (gv (fun _ k=>k p12 c12 r_6) [0,1] ⟨gk 0,gk 1,gk 3,gk 4,gk 5,⟨⟩⟩))<|jsk<|jtn<|jsr<|
  jpc 3 rfl<|jfa 1 rfl<|jlo 0 rfl rfl rfl<|jpc 1 rfl<|jix 4 rfl rfl rfl<|fun x5 b5 o4=>jfa 4 rfl<|jld true o_Literal (gs (gs (gs (gs (gk 0))))) rfl<|jpe (.agg #[vi (-1), vi s4.2, sv p13 x4 c13, vb x5.2.2.2.2.1, vs x5.2.2.2.2.2])<|
  jbs .s (e := e_Argument) 66 [vi (-1), vi s4.2, sv p13 x4 c13, vb x5.2.2.2.2.1, vs x5.2.2.2.2.2] ([((-1), s4.2, x4, x5.2.2.2.2)] : List T_Argument) (rC (vP vI (vP vI (vP (vL (gk 3)) (vP vB vS)))) rN)<|fun p14 c14=>
  jar .s 1 2 rfl (gk 0) rfl rfl<|fun x6 r_7 p15 c15=>jpc 1 rfl<|jot<|jsr<|jpc 3 rfl<|jot<|jif rfl (jsr<|jpc 2 rfl<|jot<|jxr<|jbr<|jtr<|jlr<|jbr<|jbr<|jtr<|jlr<|jbr<|jtr<|jbr<|jtr<|jlr<|jbr<|jtr<|
  jrg' rfl (lT rfl (lT rfl lN)) (fun _ k=>k none 0) [] ⟨gn,⟨⟩⟩)<|jsk<|jbn<|jtn<|jrg<|jpc 2 rfl<|joe<|jln (gv (fun _ k=>k p15 c15 r_7) [0,1] ⟨gk 0,gk 4,gk 6,gk 7,gk 8,⟨⟩⟩))<|jxe<|jte<|jle<|jbh<|jbn<|jtn<|jrg<|jpc 3 rfl<|joe<|
  jln (gv (fun _ k=>k p12 c12 r_6) [0,1] ⟨gk 0,gk 2,gk 3,gk 4,⟨⟩⟩))<|jxe<|jte<|jle<|jbh<|jtn<|jrg<|jpc 2 rfl<|joe<|jbn<|jtn<|jrg<|jpc 3 rfl<|joe<|jln (gv (fun _ k=>k p9 c9 r_5) [0,1] ⟨gk 0,gk 1,gk 2,gk 3,⟨⟩⟩))<|jxe<|jte<|jle<|jbh<|jtn<|jsr<|
  jpc 3 rfl<|jot<|jxr<|jsh 1 0 rfl rfl<|jrg' rfl (lT rfl (lT rfl lN)) (fun _ k=>k p8 c8) [] ⟨gk 0,⟨⟩⟩

theorem c_ref07_Ints {qd : Prop} {y0 : List Int} {y1 : List Int} : Con qd Tryz.prog 27 [sv p1 y0 c1, sv p2 y1 c2] [] [Rl (eInt .i64) p1 c1 y0, Rl (eInt .i64) p2 c2 y1] (m_ref07_Ints y0 y1) fun r K=>K (vb r) [] [] :=
 ent3 Tryz.call27 Tryz.func27 rfl fun X=>jsr<|jpc 1 rfl<|jot<|jsq<|jsr<|jpc 5 rfl<|jot<|jif rfl (jsr<|jpc 1 rfl<|jot<|jxr<|jtr<|jr1 rfl rfl (fun _ k=>k) [] ⟨⟩)<|jsk<|jtn<|jsq<|jsr<|jpc 1 rfl<|jot<|jbk<|
  jlp (fun s1 K=>K [(0, sv p1 y0 c1), (1, sv p2 y1 c2), (5, vi s1)] [] [Rl (eInt .i64) p1 c1 y0, Rl (eInt .i64) p2 c2 y1]) (gv (fun _ k=>k) [] ⟨gk 0,gk 1,⟨⟩⟩)<|fun s1 _ k=>k<|jsq<|jsr<|jpc 4 rfl<|jot<|jif rfl (jsk<|jtn<|jsq<|jbk<|
  jds [] [] 9<|jdc 7 [0,1] rfl<|jdi 2 0 rfl rfl rfl rfl<|fun x1 b1 o1=>jdl 3 false oI rfl (gk 0) rfl<|jdc 3 [4,5] rfl<|jdi 6 2 rfl rfl rfl rfl<|fun x2 b2 o2=>jdl 7 false oI rfl (gk 0) rfl<|jdc 0 [8] rfl<|jde<|jtn<|jif rfl (jsr<|jpc 1 rfl<|
  jot<|jxr<|jbr<|jtr<|jlr<|jbr<|jtr<|jr1 rfl rfl (fun _ k=>k) [] ⟨⟩)<|jsk<|jbn<|jtn<|jrg<|jpc 3 rfl<|joe<|jln (gv (fun _ k=>k) [] ⟨gk 2,gk 3,⟨⟩⟩))<|jxe<|jte<|jle<|jbh<|jtn<|jsr<|jpc 1 rfl<|jot<|jxr<|jr1 rfl rfl (fun _ k=>k) [] ⟨⟩

theorem c_ref07_Same {qd : Prop} {y0 : List T_Argument} {y1 : List T_Argument} : Con qd Tryz.prog 10 [sv p1 y0 c1, sv p2 y1 c2] [] [Rl e_Argument p1 c1 y0, Rl e_Argument p2 c2 y1] (m_ref07_Same y0 y1) fun r K=>K (vb r) [] [] :=
 ent3 Tryz.call10 Tryz.func10 rfl fun X=>jsr<|jpc 1 rfl<|jot<|jsq<|jsr<|jpc 5 rfl<|jot<|jif rfl (jsr<|jpc 1 rfl<|jot<|jxr<|jtr<|jr1 rfl rfl (fun _ k=>k) [] ⟨⟩)<|jsk<|jtn<|jsq<|jsr<|jpc 1 rfl<|jot<|jbk<|
  jlp (fun s1 K=>K [(0, sv p1 y0 c1), (1, sv p2 y1 c2), (5, vi s1)] [] [Rl e_Argument p1 c1 y0, Rl e_Argument p2 c2 y1]) (gv (fun _ k=>k) [] ⟨gk 0,gk 1,⟨⟩⟩)<|fun s1 _ k=>k<|jsq<|jsr<|jpc 4 rfl<|jot<|jif rfl (jsk<|jtn<|jsq<|jbk<|
  jjn (fun s2 K=>K [(0, sv p1 y0 c1), (1, sv p2 y1 c2), (5, vi s1), (67, vb s2)] [] [Rl e_Argument p1 c1 y0, Rl e_Argument p2 c2 y1]) (jdS [] [] 51<|jdc 49 [0,1] rfl<|jdi 2 0 rfl rfl rfl rfl<|fun x1 b1 o1=>jdf 3 0 rfl rfl<|
  jdl 4 false oI rfl (gf (gk 0)) rfl<|jdc 44 [5,6] rfl<|jdi 7 2 rfl rfl rfl rfl<|fun x2 b2 o2=>jdf 8 0 rfl rfl<|jdl 9 false oI rfl (gf (gk 0)) rfl<|jdc 39 [10,11] rfl<|jsg 28 rfl (jdc 28 [12,13,14,15,16,17,18,19,20,21,22] rfl<|
  jdp 23 (vb true) rfl<|jdc 15 [24,25,26,27,28,29,30,31,32,33,34,35] rfl<|jdp 36 (vb true) rfl<|jdc 1 [37,38,39,40,41,42,43,44,45,46,47,48,49] rfl<|jdp 50 (vb true) rfl<|jde<|jnn (gv (fun _ k=>k) [] ⟨gk 2,gk 3,⟨⟩⟩))<|jdc 37 [12,13] rfl<|
  jdi 14 2 rfl rfl rfl rfl<|fun x3 b3 o3=>jdf 15 1 rfl rfl<|jdl 16 false oI rfl (gf (gs (gk 0))) rfl<|jdc 32 [17,18] rfl<|jdi 19 4 rfl rfl rfl rfl<|fun x4 b4 o4=>jdf 20 1 rfl rfl<|jdl 21 false oI rfl (gf (gs (gk 0))) rfl<|jdc 28 [22] rfl<|
  jdp 23 (vb (x3.2.1 != x4.2.1)) rfl<|jdc 26 [24] rfl<|jsg 41 rfl (jdc 15 [25,26,27,28,29,30,31,32,33,34,35] rfl<|jdp 36 (vb true) rfl<|jdc 1 [37,38,39,40,41,42,43,44,45,46,47,48,49] rfl<|jdp 50 (vb true) rfl<|jde<|
  jnn (gv (fun _ k=>k) [] ⟨gk 4,gk 5,⟨⟩⟩))<|jdc 24 [25,26] rfl<|jdi 27 4 rfl rfl rfl rfl<|fun x5 b5 o5=>jdf 28 3 rfl rfl<|jdl 29 true o_Literal rfl (gs (gs (gs (gk 0)))) rfl<|jdc 19 [30,31] rfl<|jdi 32 6 rfl rfl rfl rfl<|fun x6 b6 o6=>
  jdf 33 3 rfl rfl<|jdl 34 true o_Literal rfl (gs (gs (gs (gk 0)))) rfl<|jdp 35 (vb (!(x5.2.2.2 == x6.2.2.2))) rfl<|jdp 36 (vb (!(x5.2.2.2 == x6.2.2.2))) rfl<|jdc 13 [37] rfl<|jsg 54 rfl (jdc 1 [38,39,40,41,42,43,44,45,46,47,48,49] rfl<|
  jdp 50 (vb true) rfl<|jde<|jnn (gv (fun _ k=>k) [] ⟨gk 6,gk 7,⟨⟩⟩))<|jdc 11 [38,39] rfl<|jdi 40 6 rfl rfl rfl rfl<|fun x7 b7 o7=>jdf 41 2 rfl rfl<|jdl 42 false oL rfl (gf (gs (gs (gk 0)))) rfl<|fun p3 c3=>jdc 6 [43,44] rfl<|
  jdi 45 9 rfl rfl rfl rfl<|fun x8 b8 o8=>jdf 46 2 rfl rfl<|jdl 47 false oL rfl (gf (gs (gs (gk 0)))) rfl<|fun p4 c4=>jd1 48<|jca (.f rfl) [] [] c_ref07_Ints rfl rfl rfl ⟨ck 2,ck 0,⟨⟩⟩<|fun r1 _ k=>k<|jdn<|jdc 1 [49] rfl<|
  jdp 50 (vb (!r1)) rfl<|jde<|jnn (gv (fun _ k=>k) [] ⟨gk 10,gk 11,⟨⟩⟩))<|fun s2 _ k=>k<|jif rfl (jsr<|jpc 1 rfl<|jot<|jxr<|jbr<|jtr<|jlr<|jbr<|jtr<|jr1 rfl rfl (fun _ k=>k) [] ⟨⟩)<|jsk<|jbn<|jtn<|jrg<|jpc 3 rfl<|joe<|
  jln (gv (fun _ k=>k) [] ⟨gk 0,gk 1,⟨⟩⟩))<|jxe<|jte<|jle<|jbh<|jtn<|jsr<|jpc 1 rfl<|jot<|jxr<|jr1 rfl rfl (fun _ k=>k) [] ⟨⟩

theorem c_law07_ArgumentBuilds {qd : Prop} {y0 : T_Base} {y1 : List Int} : Con qd Tryz.prog 3 [.agg #[sv p1 y0.1 c1, sv p2 y0.2.1 c2, sv p3 y0.2.2 c3], sv p4 y1 c4] [] [Rl e_Premise p1 c1 y0.1, Rl e_Rule p2 c2 y0.2.1, Rl e_Promotion p3 c3 y0.2.2, Rl (eInt .i64) p4 c4 y1] (m_law07_ArgumentBuilds y0 y1) fun r K=>K (vb r) [] [] :=
 ent3 Tryz.call3 Tryz.func3 rfl fun X=>jsr<|jbx .s rfl<|fun b1=>jpc 1 rfl<|jot<|jsq<|
  jjn (fun s1 K=>K [(1, sv p4 y1 c4), (2, pt b1 0), (27, vb s1)] [bx b1 26 [sv p1 y0.1 c1, sv p2 y0.2.1 c2, sv p3 y0.2.2 c3]] [Rl (eInt .i64) p4 c4 y1, Rl e_Premise p1 c1 y0.1, Rl e_Rule p2 c2 y0.2.1, Rl e_Promotion p3 c3 y0.2.2]) (jrg<|
  jla 0 3 rfl rfl rfl<|jcl c_keep_SmallBase rfl ⟨ck 0,ck 1,ck 2,⟨⟩⟩<|fun r1 _ k=>k<|jpc 2 rfl<|jsg 16 rfl (jpc 4 rfl<|jpe (vb true)<|jpc 5 rfl<|jpe (vb true)<|joe<|jnn (gv (fun _ k=>k) [0] ⟨gk 3,gk 0,gk 1,gk 2,⟨⟩⟩))<|jfa 1 rfl<|
  jlo 0 rfl rfl rfl<|jpc 2 rfl<|jpe (vb (decide (12 < (len y0.2.1))))<|jpc 1 rfl<|jsg 22 rfl (jpc 4 rfl<|jpe (vb true)<|joe<|jnn (gv (fun _ k=>k) [0] ⟨gk 3,gk 0,gk 1,gk 2,⟨⟩⟩))<|jfa 0 rfl<|jlo 0 rfl rfl rfl<|jpc 2 rfl<|
  jpe (vb (decide (12 < (len y0.1))))<|joe<|jnn (gv (fun _ k=>k) [0] ⟨gk 3,gk 0,gk 1,gk 2,⟨⟩⟩))<|fun s1 _ k=>k<|jif rfl (jsr<|jpc 1 rfl<|jot<|jxr<|jtr<|jr1 rfl rfl (fun _ k=>k) [] ⟨⟩)<|jsk<|jtn<|jsr<|jpc 1 rfl<|jcl c_keep_New rfl ⟨ck 0,⟨⟩⟩<|
  fun r2 _ k b2 p5 c5=>k<|jpc 1 rfl<|jot<|jsr<|jpc 1 rfl<|jca .s [1] [] c_keep_Src_Base rfl rfl rfl ⟨ck 0,⟨⟩⟩<|fun r3 _ k p6 c6 p7 c7 p8 c8=>k<|jal .s (.agg #[.slice none 0 0, .slice none 0 0, .slice none 0 0])<|fun b3=>jso .s 2 rfl rfl rfl<|
  jot<|jjo (fun s2 K=>K [] [[], [], []] []) (jds [] [0, 2] 10<|jda 0 0 3 rfl rfl rfl rfl<|jda 1 2 3 rfl rfl rfl rfl<|jdc 7 [2] rfl<|jda 3 2 3 rfl rfl rfl rfl<|jdc 4 [5,9] rfl<|jd1 4<|
  jca (.f rfl) [1] [] c_keep_Src_SpoiltBase rfl rfl rfl ⟨ck 3,ck 0,ck 1,ck 2,⟨⟩⟩<|fun r4 _ k p9 c9 p10 c10 p11 c11=>k<|jdn<|jd1 6<|jca (.f rfl) [1] [] c_keep_Src_Base rfl rfl rfl ⟨ck 6,⟨⟩⟩<|fun r5 _ k p12 c12 p13 c13 p14 c14=>k<|jdn<|jd1 7<|
  jbs (.f rfl) (e := e_Base) 26 [sv p1 y0.1 c1, sv p2 y0.2.1 c2, sv p3 y0.2.2 c3, sv p6 r3.1.1 c6, sv p7 r3.1.2.1 c7, sv p8 r3.1.2.2 c8, sv p9 r4.1.1 c9, sv p10 r4.1.2.1 c10, sv p11 r4.1.2.2 c11, sv p12 r5.1.1 c12, sv p13 r5.1.2.1 c13, sv p14 r5.1.2.2 c14] ([y0, r3.1, r4.1, r5.1] : List T_Base) (rC (vP (vL (gk 11)) (vP (vL (gk 12)) (vL (gk 13)))) (rC (vP (vL (gk 6)) (vP (vL (gk 7)) (vL (gk 8)))) (rC (vP (vL (gk 3)) (vP (vL (gk 4)) (vL (gk 5)))) (rC (vP (vL (gk 0)) (vP (vL (gk 1)) (vL (gk 2)))) rN))))<|
  fun p15 c15=>jdn<|jdc 0 [8] rfl<|jde<|jtn<|jbk<|
  jlp (fun s3 K=>K [(39, sv p15 ([y0, r3.1, r4.1, r5.1] : List T_Base) c15), (40, vi (len ([y0, r3.1, r4.1, r5.1] : List T_Base))), (41, vi s3)] [[], [], []] [Rl e_Base p15 c15 ([y0, r3.1, r4.1, r5.1] : List T_Base)]) (gv (fun _ k=>k) [900,901,902] ⟨gk 0,⟨⟩⟩)<|
  fun s3 _ k=>k<|jsr<|jpc 1 rfl<|jot<|jsq<|jif rfl (jsk<|jtn<|jsq<|jbk<|jsr<|jix 0 rfl rfl rfl<|fun x1 b4 o1=>jld true o_Base (gk 0) rfl<|fun p18 c18 p17 c17 p16 c16=>jal .s (.agg #[.slice none 0 0, .slice none 0 0, .slice none 0 0])<|
  fun b5=>jso .s 3 rfl rfl rfl<|jot<|jsr<|jla 3 3 rfl rfl rfl<|jcl c_argument_Build rfl ⟨ck 0,ck 1,ck 2,⟨⟩⟩<|fun r6 _ k p19 c19=>k<|jpc 5 rfl<|jot<|jsr<|jla 3 3 rfl rfl rfl<|jcl c_ref07_Build rfl ⟨ck 1,ck 2,ck 3,⟨⟩⟩<|fun r7 _ k p20 c20=>k<|
  jpc 5 rfl<|jot<|
  jjn (fun s4 K=>K [(39, sv p15 ([y0, r3.1, r4.1, r5.1] : List T_Base) c15), (40, vi (len ([y0, r3.1, r4.1, r5.1] : List T_Base))), (41, vi s3), (63, vb s4)] [[], [], [], []] [Rl e_Base p15 c15 ([y0, r3.1, r4.1, r5.1] : List T_Base)]) (jrg<|
  jpc 4 rfl<|jsg 58 rfl (jpc 4 rfl<|jpe (vb true)<|joe<|jnn (gv (fun _ k=>k) [900,901,902,903] ⟨gk 6,⟨⟩⟩))<|jpc 2 rfl<|jcl c_ref07_Same rfl ⟨ck 1,ck 0,⟨⟩⟩<|fun r8 _ k=>k<|jpc 1 rfl<|jpe (vb (!r8))<|joe<|
  jnn (gv (fun _ k=>k) [900,901,902,903] ⟨gk 6,⟨⟩⟩))<|fun s4 _ k=>k<|jif rfl (jsr<|jpc 1 rfl<|jot<|jxr<|jbr<|jtr<|jlr<|jbr<|jlr<|jr1 rfl rfl (fun _ k=>k) [] ⟨⟩)<|jsk<|jbn<|jtn<|jrg<|jpc 2 rfl<|joe<|
  jln (gv (fun _ k=>k) [900,901,902] ⟨gk 0,⟨⟩⟩))<|jxe<|jte<|jle<|jbh<|jln (gv (fun _ k=>k) [900,901,902] ⟨⟩))<|fun s2 _ k=>k<|jsr<|jcl c_law07_awake rfl ⟨⟩<|fun r9 _ k=>k<|jpc 1 rfl<|jot<|jxr<|jr1 rfl rfl (fun _ k=>k) [] ⟨⟩

end Go.Proofs.YtpphagbaaajicaaGreat
