/- The Go functions compute their models: printed by program (gd3). Conditions: none. -/
import Derived.Test.YteleongkifgjhaaGreatDoorWalk1
namespace Go.Proofs.YteleongkifgjhaaGreatDoor
open Go Go.GD
set_option autoImplicit false
set_option maxRecDepth 100000
variable {p1 p2 p3 p4 : Option Addr} {c1 c2 c3 c4 : Nat} {b1 : Nat} {r_1 r_2 : Res}

theorem c_ref26_argue {qd : Prop} {y0 : (List (List T_Commitment))} {y1 : T_Speech} : Con qd Tryz.prog 58 [.agg #[sv p1 y0 c1], .agg #[vi y1.1, vi y1.2.1, vi y1.2.2.1, vb y1.2.2.2.1.1, vs y1.2.2.2.1.2, sv p2 y1.2.2.2.2 c2]] [] [Rl (eSlice e_Commitment) p1 c1 y0, Rl e_Literal p2 c2 y1.2.2.2.2] (m_ref26_argue y0 y1) fun r K=>∀ p3 c3,K (.tuple #[.agg #[sv p3 r.1 c3], vi r.2]) [] [Rl (eSlice e_Commitment) p3 c3 r.1] :=
 ent3 Tryz.call58 Tryz.func58 rfl fun X=>jsr<|jbx .s rfl<|fun b1=>jbx .s rfl<|fun b2=>jal .s (.agg #[.slice none 0 0])<|fun b3=>jpc 1 rfl<|jot<|jsr<|jfa 0 rfl<|jlo 0 rfl rfl rfl<|jfa 1 rfl<|jlo 1 rfl rfl rfl<|jix 0 rfl rfl rfl<|fun x1 b4 o1=>jld false oL (gk 0) rfl<|fun p3 c3=>
  jpc 1 rfl<|jot<|jsr<|jpc 1 rfl<|jfa 3 rfl<|jla 1 2 rfl rfl rfl<|jcl c_ref26_find rfl ⟨ck 0,⟨⟩⟩<|fun r1 _ k=>k<|jpc 1 rfl<|jot<|jsq<|
  jjn (fun s1 K=>K [(2, pt b1 0), (3, pt b2 0), (4, pt b3 0), (6, sv p3 x1 c3), (29, vb s1)] [bx b1 47 [sv p1 y0 c1], bx b2 59 [vi y1.1, vi y1.2.1, vi y1.2.2.1, vb y1.2.2.2.1.1, vs y1.2.2.2.1.2, sv p2 y1.2.2.2.2 c2], bx b3 47 [.slice none 0 0]] [Rl e_Commitment p3 c3 x1, Rl (eSlice e_Commitment) p1 c1 y0, Rl e_Literal p2 c2 y1.2.2.2.2]) (
  jrg<|jpc 3 rfl<|jsg 22 rfl (jpc 6 rfl<|jpe (vb true)<|joe<|jnn (gv (fun _ k=>k) [0,1,2] ⟨gk 0,gk 2,gk 3,⟨⟩⟩))<|jpc 2 rfl<|jix 0 rfl rfl rfl<|fun x2 b5 o2=>jfa 3 rfl<|jld false oB (gf (gs (gs (gk 0)))) rfl<|jpc 1 rfl<|jpe (vb (!x2.2.2.1))<|
  joe<|jnn (gv (fun _ k=>k) [0,1,2] ⟨gk 1,gk 3,gk 4,⟨⟩⟩))<|fun s1 _ k=>k<|jif rfl (jsr<|jpe (.agg #[.slice none 0 0])<|jso .s 2 rfl rfl rfl<|jpc 1 rfl<|jot<|jxr<|jtr<|
  jrg' rfl (lC 2 (.agg #[.slice none 0 0]) rfl rfl (lT rfl lN)) (fun _ k=>k none 0) [] ⟨gn,⟨⟩⟩)<|jsk<|jtn<|jsq<|jsr<|jpc 1 rfl<|jla 1 6 rfl rfl rfl<|jcl c_ref26_grounds rfl ⟨ck 0,ck 2,⟨⟩⟩<|fun r2 _ k=>k<|jpc 1 rfl<|jot<|jsr<|jpc 2 rfl<|jot<|
  jif rfl (jsr<|jpe (.agg #[.slice none 0 0])<|jpc 1 rfl<|jso .s 2 rfl rfl rfl<|jpc 1 rfl<|jot<|jxr<|jtr<|jrg' rfl (lC 2 (.agg #[.slice none 0 0]) rfl rfl (lT rfl lN)) (fun _ k=>k none 0) [] ⟨gn,⟨⟩⟩)<|jsk<|jtn<|jds [] [1] 10<|jdc 9 [0] rfl<|
  jdf 1 3 rfl rfl<|jda 2 1 2 rfl rfl rfl rfl<|jdf 4 5 rfl rfl<|jdo 5 1 rfl rfl rfl rfl<|jd1 3<|jbo (.f rfl) (e := e_Literal) 50 [] ([] : List T_Literal) rN<|fun r_1 p4 c4=>jdn<|jd1 6<|jar (.f rfl) 3 0 rfl (gk 3) rfl rfl<|fun x3 r_2 p5 c5=>
  jdn<|jdp 7 (.agg #[vb y1.2.2.2.1.1, vs y1.2.2.2.1.2, vb false, vb false, sv p5 x3 c5]) rfl<|jsh 3 0 rfl rfl<|jd1 8<|jca (.f rfl) [] [] c_ref26_with rfl rfl rfl ⟨ck 3,ck 0,⟨⟩⟩<|fun r3 _ k p6 c6=>k<|jdn<|jdc 0 [9] rfl<|jde<|jtn<|
  jjn (fun s2 K=>∀ p7 c7,K [(2, pt b1 0), (3, pt b2 0), (4, pt b3 0), (6, sv p7 s2 c7)] [bx b1 47 [sv p1 y0 c1], bx b2 59 [vi y1.1, vi y1.2.1, vi y1.2.2.1, vb y1.2.2.2.1.1, vs y1.2.2.2.1.2, sv p2 y1.2.2.2.2 c2], bx b3 47 [.slice none 0 0], []] [Rl e_Commitment p7 c7 s2, Rl (eSlice e_Commitment) p1 c1 y0, Rl e_Literal p2 c2 y1.2.2.2.2]) (
  jsr<|jpc 1 rfl<|jot<|jbk<|
  jlp (fun s3 K=>∀ p8 c8,K [(2, pt b1 0), (3, pt b2 0), (4, pt b3 0), (6, sv p8 s3.1 c8), (9, vi s3.2)] [bx b1 47 [sv p1 y0 c1], bx b2 59 [vi y1.1, vi y1.2.1, vi y1.2.2.1, vb y1.2.2.2.1.1, vs y1.2.2.2.1.2, sv p2 y1.2.2.2.2 c2], bx b3 47 [.slice none 0 0], []] [Rl e_Commitment p8 c8 s3.1, Rl (eSlice e_Commitment) p1 c1 y0, Rl e_Literal p2 c2 y1.2.2.2.2]) (gv (fun _ k=>k p6 c6) [0,1,2,903] ⟨gk 0,gk 5,gk 6,⟨⟩⟩)<|
  fun s3 _ k p8 c8=>k<|jsq<|jsr<|jpc 1 rfl<|jfa 5 rfl<|jlo 1 rfl rfl rfl<|jpc 2 rfl<|jot<|jif rfl (jsk<|jtn<|jsq<|jbk<|jsr<|jpc 1 rfl<|jfa 5 rfl<|jlo 1 rfl rfl rfl<|jpc 1 rfl<|jix 2 rfl rfl rfl<|fun x4 b6 o3=>jld true o_Literal (gk 0) rfl<|
  jcl c_ref26_find rfl ⟨ck 1,⟨⟩⟩<|fun r4 _ k=>k<|jpc 1 rfl<|jot<|jif rfl (jrg<|jpc 1 rfl<|jfa 5 rfl<|jlo 1 rfl rfl rfl<|jpc 1 rfl<|jix 3 rfl rfl rfl<|fun x5 b7 o4=>jld true o_Literal (gk 0) rfl<|
  jpe (.agg #[vb x5.1, vs x5.2, vb false, vb false, .slice none 0 0])<|jcl c_ref26_with rfl ⟨ck 2,cn,⟨⟩⟩<|fun r5 _ k p9 c9=>k<|jpc 1 rfl<|joe<|jbn<|jtn<|jrg<|jpc 3 rfl<|joe<|jln (gv (fun _ k=>k p9 c9) [0,1,2,903] ⟨gk 0,gk 4,gk 5,⟨⟩⟩))<|jsk<|
  jbn<|jtn<|jrg<|jpc 3 rfl<|joe<|jln (gv (fun _ k=>k p8 c8) [0,1,2,903] ⟨gk 1,gk 2,gk 3,⟨⟩⟩))<|jxe<|jte<|jle<|jbh<|jnn (gv (fun _ k=>k p8 c8) [0,1,2,903] ⟨gk 0,gk 1,gk 2,⟨⟩⟩))<|fun s2 _ k p7 c7=>k<|jsr<|jla 0 1 rfl rfl rfl<|jfa 1 rfl<|
  jlo 1 rfl rfl rfl<|jpc 1 rfl<|jcl c_ref26_set rfl ⟨ck 1,ck 0,⟨⟩⟩<|fun r6 _ k p10 c10=>k<|jso .s 2 rfl rfl rfl<|jpc 1 rfl<|jot<|jxr<|jrg' rfl (lC 2 (.agg #[sv p10 r6 c10]) rfl rfl (lT rfl lN)) (fun _ k=>k p10 c10) [] ⟨gk 0,⟨⟩⟩

theorem c_ref26_assert {qd : Prop} {y0 : (List (List T_Commitment))} {y1 : T_Speech} : Con qd Tryz.prog 56 [.agg #[sv p1 y0 c1], .agg #[vi y1.1, vi y1.2.1, vi y1.2.2.1, vb y1.2.2.2.1.1, vs y1.2.2.2.1.2, sv p2 y1.2.2.2.2 c2]] [] [Rl (eSlice e_Commitment) p1 c1 y0, Rl e_Literal p2 c2 y1.2.2.2.2] (m_ref26_assert y0 y1) fun r K=>∀ p3 c3,K (.tuple #[.agg #[sv p3 r.1 c3], vi r.2]) [] [Rl (eSlice e_Commitment) p3 c3 r.1] :=
 ent3 Tryz.call56 Tryz.func56 rfl fun X=>jsr<|jbx .s rfl<|fun b1=>jbx .s rfl<|fun b2=>jal .s (.agg #[.slice none 0 0])<|fun b3=>jpc 1 rfl<|jot<|jsr<|jfa 0 rfl<|jlo 0 rfl rfl rfl<|jfa 1 rfl<|jlo 1 rfl rfl rfl<|jix 0 rfl rfl rfl<|fun x1 b4 o1=>jld false oL (gk 0) rfl<|fun p3 c3=>
  jpc 1 rfl<|jot<|jsr<|jpc 1 rfl<|jfa 3 rfl<|jla 1 2 rfl rfl rfl<|jcl c_ref26_find rfl ⟨ck 0,⟨⟩⟩<|fun r1 _ k=>k<|jpc 1 rfl<|jot<|jsq<|jbk<|
  jjn (fun s1 K=>K [(2, pt b1 0), (3, pt b2 0), (4, pt b3 0), (6, sv p3 x1 c3), (7, vi r1), (18, vb s1)] [bx b1 47 [sv p1 y0 c1], bx b2 59 [vi y1.1, vi y1.2.1, vi y1.2.2.1, vb y1.2.2.2.1.1, vs y1.2.2.2.1.2, sv p2 y1.2.2.2.2 c2], bx b3 47 [.slice none 0 0]] [Rl e_Commitment p3 c3 x1, Rl (eSlice e_Commitment) p1 c1 y0, Rl e_Literal p2 c2 y1.2.2.2.2]) (
  jrg<|jpc 3 rfl<|jsg 21 rfl (jpc 2 rfl<|jix 0 rfl rfl rfl<|fun x2 b5 o2=>jfa 2 rfl<|jld false oB (gf (gs (gk 0))) rfl<|jpc 1 rfl<|jpe (vb (!x2.2.1))<|jpc 1 rfl<|joe<|jnn (gv (fun _ k=>k) [0,1,2] ⟨gk 1,gk 3,gk 4,⟨⟩⟩))<|jpc 6 rfl<|
  jpe (vb false)<|jpc 1 rfl<|joe<|jnn (gv (fun _ k=>k) [0,1,2] ⟨gk 0,gk 2,gk 3,⟨⟩⟩))<|fun s1 _ k=>k<|jif rfl (jsr<|jpe (.agg #[.slice none 0 0])<|jso .s 2 rfl rfl rfl<|jpc 1 rfl<|jot<|jxr<|jbr<|jtr<|
  jrg' rfl (lC 2 (.agg #[.slice none 0 0]) rfl rfl (lT rfl lN)) (fun _ k=>k none 0) [] ⟨gn,⟨⟩⟩)<|jsr<|jpc 1 rfl<|jfa 3 rfl<|jla 1 2 rfl rfl rfl<|jcl c_ref26_not rfl ⟨⟩<|fun r2 _ k=>k<|jcl c_ref26_find rfl ⟨ck 0,⟨⟩⟩<|fun r3 _ k=>k<|jpc 2 rfl<|
  jot<|jif rfl (jsr<|jpe (.agg #[.slice none 0 0])<|jso .s 2 rfl rfl rfl<|jpc 1 rfl<|jot<|jxr<|jbr<|jtr<|jrg' rfl (lC 2 (.agg #[.slice none 0 0]) rfl rfl (lT rfl lN)) (fun _ k=>k none 0) [] ⟨gn,⟨⟩⟩)<|
  jjp (fun K=>K [(2, pt b1 0), (3, pt b2 0), (4, pt b3 0), (6, sv p3 x1 c3), (38, vb ((decide (r1 < 0)) && (decide (40 ≤ (len x1)))))] [bx b1 47 [sv p1 y0 c1], bx b2 59 [vi y1.1, vi y1.2.1, vi y1.2.2.1, vb y1.2.2.2.1.1, vs y1.2.2.2.1.2, sv p2 y1.2.2.2.2 c2], bx b3 47 [.slice none 0 0]] [Rl e_Commitment p3 c3 x1, Rl (eSlice e_Commitment) p1 c1 y0, Rl e_Literal p2 c2 y1.2.2.2.2]) (
  jrg<|jpc 3 rfl<|jsp (b := decide (r1 < 0)) 41 rfl (fun hb2=>jpc 3 rfl<|jpe (vb (decide (40 ≤ (len x1))))<|jpc 1 rfl<|joe<|jup 38 (vb ((decide (r1 < 0)) && (decide (40 ≤ (len x1))))) rfl (by rw [hb2]; rfl)<|
  jnn (gv (fun _ k=>k) [0,1,2] ⟨gk 0,gk 1,gk 2,⟨⟩⟩))<|fun hb2=>jpc 3 rfl<|jpe (vb false)<|jpc 1 rfl<|joe<|jup 38 (vb ((decide (r1 < 0)) && (decide (40 ≤ (len x1))))) rfl (by rw [hb2]; rfl)<|jnn (gv (fun _ k=>k) [0,1,2] ⟨gk 0,gk 1,gk 2,⟨⟩⟩))<|
  fun _ k=>k<|jif rfl (jsr<|jpe (.agg #[.slice none 0 0])<|jso .s 2 rfl rfl rfl<|jpc 1 rfl<|jot<|jxr<|jbr<|jtr<|jrg' rfl (lC 2 (.agg #[.slice none 0 0]) rfl rfl (lT rfl lN)) (fun _ k=>k none 0) [] ⟨gn,⟨⟩⟩)<|jsk<|jbn<|jtn<|jds [] [0, 1] 11<|
  jda 0 0 1 rfl rfl rfl rfl<|jdf 1 1 rfl rfl<|jdo 2 1 rfl rfl rfl rfl<|jdc 7 [3] rfl<|jdf 4 3 rfl rfl<|jda 5 1 2 rfl rfl rfl rfl<|jdp 6 (.agg #[vb y1.2.2.2.1.1, vs y1.2.2.2.1.2, vb false, vb false, .slice none 0 0]) rfl<|jd1 7<|
  jca (.f rfl) [] [] c_ref26_with rfl rfl rfl ⟨ck 0,cn,⟨⟩⟩<|fun r4 _ k p4 c4=>k<|jdn<|jd1 8<|jca (.f rfl) [] [] c_ref26_set rfl rfl rfl ⟨ck 2,ck 0,⟨⟩⟩<|fun r5 _ k p5 c5=>k<|jdn<|jd1 9<|jso (o := 0) (.f rfl) 2 rfl rfl rfl<|jdn<|
  jdc 0 [10] rfl<|jde<|jtn<|jxr<|jrg' rfl (lC 2 (.agg #[sv p5 r5 c5]) rfl rfl (lT rfl lN)) (fun _ k=>k p5 c5) [] ⟨gk 0,⟨⟩⟩

theorem c_ref26_challenge {qd : Prop} {y0 : (List (List T_Commitment))} {y1 : T_Speech} : Con qd Tryz.prog 57 [.agg #[sv p1 y0 c1], .agg #[vi y1.1, vi y1.2.1, vi y1.2.2.1, vb y1.2.2.2.1.1, vs y1.2.2.2.1.2, sv p2 y1.2.2.2.2 c2]] [] [Rl (eSlice e_Commitment) p1 c1 y0, Rl e_Literal p2 c2 y1.2.2.2.2] (m_ref26_challenge y0 y1) fun r K=>∀ p3 c3,K (.tuple #[.agg #[sv p3 r.1 c3], vi r.2]) [] [Rl (eSlice e_Commitment) p3 c3 r.1] :=
 ent3 Tryz.call57 Tryz.func57 rfl fun X=>jsr<|jbx .s rfl<|fun b1=>jbx .s rfl<|fun b2=>jal .s (.agg #[.slice none 0 0])<|fun b3=>jpc 1 rfl<|jot<|jsq<|jsr<|jfa 1 rfl<|jlo 1 rfl rfl rfl<|jfa 2 rfl<|jlo 1 rfl rfl rfl<|jpc 1 rfl<|jot<|jif rfl (jsr<|jpe (.agg #[.slice none 0 0])<|
  jso .s 2 rfl rfl rfl<|jpc 1 rfl<|jot<|jxr<|jtr<|jrg' rfl (lC 2 (.agg #[.slice none 0 0]) rfl rfl (lT rfl lN)) (fun _ k=>k none 0) [] ⟨gn,⟨⟩⟩)<|jsk<|jtn<|jsr<|jfa 0 rfl<|jlo 0 rfl rfl rfl<|jfa 2 rfl<|jlo 1 rfl rfl rfl<|jix 0 rfl rfl rfl<|
  fun x1 b4 o1=>jld false oL (gk 0) rfl<|fun p3 c3=>jpc 1 rfl<|jot<|jsr<|jpc 1 rfl<|jfa 3 rfl<|jla 1 2 rfl rfl rfl<|jcl c_ref26_find rfl ⟨ck 0,⟨⟩⟩<|fun r1 _ k=>k<|jpc 1 rfl<|jot<|jsq<|jbk<|
  jjn (fun s1 K=>K [(2, pt b1 0), (3, pt b2 0), (4, pt b3 0), (6, sv p3 x1 c3), (7, vi r1), (24, vb s1)] [bx b1 47 [sv p1 y0 c1], bx b2 59 [vi y1.1, vi y1.2.1, vi y1.2.2.1, vb y1.2.2.2.1.1, vs y1.2.2.2.1.2, sv p2 y1.2.2.2.2 c2], bx b3 47 [.slice none 0 0]] [Rl e_Commitment p3 c3 x1, Rl (eSlice e_Commitment) p1 c1 y0, Rl e_Literal p2 c2 y1.2.2.2.2]) (
  jrg<|jpc 3 rfl<|jsg 27 rfl (jpc 5 rfl<|jpe (vb true)<|jpc 1 rfl<|joe<|jnn (gv (fun _ k=>k) [0,1,2] ⟨gk 0,gk 2,gk 3,⟨⟩⟩))<|jpc 2 rfl<|jix 0 rfl rfl rfl<|fun x2 b5 o2=>jfa 2 rfl<|jld false oB (gf (gs (gk 0))) rfl<|jpe (vb x2.2.1)<|jpc 1 rfl<|
  joe<|jnn (gv (fun _ k=>k) [0,1,2] ⟨gk 1,gk 3,gk 4,⟨⟩⟩))<|fun s1 _ k=>k<|jif rfl (jsr<|jpe (.agg #[.slice none 0 0])<|jso .s 2 rfl rfl rfl<|jpc 1 rfl<|jot<|jxr<|jbr<|jtr<|
  jrg' rfl (lC 2 (.agg #[.slice none 0 0]) rfl rfl (lT rfl lN)) (fun _ k=>k none 0) [] ⟨gn,⟨⟩⟩)<|jsr<|jpc 2 rfl<|jix 0 rfl rfl rfl<|fun x3 b6 o3=>jfa 3 rfl<|jld false oB (gf (gs (gs (gk 0)))) rfl<|jpc 1 rfl<|jot<|jif rfl (jsr<|
  jpe (.agg #[.slice none 0 0])<|jso .s 2 rfl rfl rfl<|jpc 1 rfl<|jot<|jxr<|jbr<|jtr<|jrg' rfl (lC 2 (.agg #[.slice none 0 0]) rfl rfl (lT rfl lN)) (fun _ k=>k none 0) [] ⟨gn,⟨⟩⟩)<|jds [] [0, 1] 11<|jdf 0 0 rfl rfl<|jdo 1 0 rfl rfl rfl rfl<|
  jdf 2 1 rfl rfl<|jdo 3 1 rfl rfl rfl rfl<|jdi 4 2 rfl rfl rfl rfl<|fun x4 b7 o4=>jdl 5 false oL rfl (gk 0) rfl<|fun p4 c4=>jdf 6 3 rfl rfl<|jda 7 1 2 rfl rfl rfl rfl<|jd1 8<|jca (.f rfl) [] [] c_ref26_find rfl rfl rfl ⟨ck 0,⟨⟩⟩<|
  fun r2 _ k=>k<|jdn<|jdc 0 [9,10] rfl<|jde<|jtn<|jif rfl (jsr<|jpe (.agg #[.slice none 0 0])<|jso .s 2 rfl rfl rfl<|jpc 1 rfl<|jot<|jxr<|jbr<|jtr<|jrg' rfl (lC 2 (.agg #[.slice none 0 0]) rfl rfl (lT rfl lN)) (fun _ k=>k none 0) [] ⟨gn,⟨⟩⟩
  )<|jsk<|jbn<|jtn<|jds [] [0, 1] 11<|jda 0 0 1 rfl rfl rfl rfl<|jdf 1 2 rfl rfl<|jdo 2 1 rfl rfl rfl rfl<|jdc 7 [3] rfl<|jdf 4 3 rfl rfl<|jda 5 1 2 rfl rfl rfl rfl<|
  jdp 6 (.agg #[vb y1.2.2.2.1.1, vs y1.2.2.2.1.2, vb false, vb true, .slice none 0 0]) rfl<|jd1 7<|jca (.f rfl) [] [] c_ref26_with rfl rfl rfl ⟨ck 3,cn,⟨⟩⟩<|fun r3 _ k p5 c5=>k<|jdn<|jd1 8<|
  jca (.f rfl) [] [] c_ref26_set rfl rfl rfl ⟨ck 5,ck 0,⟨⟩⟩<|fun r4 _ k p6 c6=>k<|jdn<|jd1 9<|jso (o := 0) (.f rfl) 2 rfl rfl rfl<|jdn<|jdc 0 [10] rfl<|jde<|jtn<|jxr<|
  jrg' rfl (lC 2 (.agg #[sv p6 r4 c6]) rfl rfl (lT rfl lN)) (fun _ k=>k p6 c6) [] ⟨gk 0,⟨⟩⟩

theorem c_ref26_concede {qd : Prop} {y0 : (List (List T_Commitment))} {y1 : T_Speech} : Con qd Tryz.prog 59 [.agg #[sv p1 y0 c1], .agg #[vi y1.1, vi y1.2.1, vi y1.2.2.1, vb y1.2.2.2.1.1, vs y1.2.2.2.1.2, sv p2 y1.2.2.2.2 c2]] [] [Rl (eSlice e_Commitment) p1 c1 y0, Rl e_Literal p2 c2 y1.2.2.2.2] (m_ref26_concede y0 y1) fun r K=>∀ p3 c3,K (.tuple #[.agg #[sv p3 r.1 c3], vi r.2]) [] [Rl (eSlice e_Commitment) p3 c3 r.1] :=
 ent3 Tryz.call59 Tryz.func59 rfl fun X=>jsr<|jbx .s rfl<|fun b1=>jbx .s rfl<|fun b2=>jal .s (.agg #[.slice none 0 0])<|fun b3=>jpc 1 rfl<|jot<|jsr<|jfa 0 rfl<|jlo 0 rfl rfl rfl<|jfa 1 rfl<|jlo 1 rfl rfl rfl<|jix 0 rfl rfl rfl<|fun x1 b4 o1=>jld false oL (gk 0) rfl<|fun p3 c3=>
  jpc 1 rfl<|jot<|jsr<|jpc 1 rfl<|jot<|
  jjn (fun s1 K=>K [(2, pt b1 0), (3, pt b2 0), (4, pt b3 0), (6, sv p3 x1 c3), (7, vb s1)] [bx b1 47 [sv p1 y0 c1], bx b2 59 [vi y1.1, vi y1.2.1, vi y1.2.2.1, vb y1.2.2.2.1.1, vs y1.2.2.2.1.2, sv p2 y1.2.2.2.2 c2], bx b3 47 [.slice none 0 0]] [Rl e_Commitment p3 c3 x1, Rl (eSlice e_Commitment) p1 c1 y0, Rl e_Literal p2 c2 y1.2.2.2.2]) (
  jsr<|jpc 1 rfl<|jot<|jbk<|
  jlp (fun s2 K=>K [(2, pt b1 0), (3, pt b2 0), (4, pt b3 0), (6, sv p3 x1 c3), (7, vb s2.1), (8, vi s2.2)] [bx b1 47 [sv p1 y0 c1], bx b2 59 [vi y1.1, vi y1.2.1, vi y1.2.2.1, vb y1.2.2.2.1.1, vs y1.2.2.2.1.2, sv p2 y1.2.2.2.2 c2], bx b3 47 [.slice none 0 0]] [Rl e_Commitment p3 c3 x1, Rl (eSlice e_Commitment) p1 c1 y0, Rl e_Literal p2 c2 y1.2.2.2.2]) (gv (fun _ k=>k) [0,1,2] ⟨gk 0,gk 2,gk 3,⟨⟩⟩)<|
  fun s2 _ k=>k<|jsq<|jsr<|jpc 1 rfl<|jfa 0 rfl<|jlo 0 rfl rfl rfl<|jpc 2 rfl<|jot<|jif rfl (jsk<|jtn<|jsq<|jbk<|
  jjc (fun s3 K=>K [(2, pt b1 0), (3, pt b2 0), (4, pt b3 0), (6, sv p3 x1 c3), (7, vb s3), (8, vi s2.2)] [bx b1 47 [sv p1 y0 c1], bx b2 59 [vi y1.1, vi y1.2.1, vi y1.2.2.1, vb y1.2.2.2.1.1, vs y1.2.2.2.1.2, sv p2 y1.2.2.2.2 c2], bx b3 47 [.slice none 0 0]] [Rl e_Commitment p3 c3 x1, Rl (eSlice e_Commitment) p1 c1 y0, Rl e_Literal p2 c2 y1.2.2.2.2]) (
  jdS [] [0, 1] 19<|jdc 17 [0,1] rfl<|jsg 23 rfl (jdc 2 [2,3,4,5,6,7,8,9,10,11,12,13,14,15,16] rfl<|jdp 17 (vb true) rfl<|jdc 0 [18] rfl<|jde<|jnn (gv (fun _ k=>k) [0,1,2] ⟨gk 0,gk 1,gk 2,⟨⟩⟩))<|jdc 16 [2] rfl<|jdf 3 1 rfl rfl<|
  jdo 4 1 rfl rfl rfl rfl<|jdc 12 [5,6] rfl<|jsg 28 rfl (jdf 7 0 rfl rfl<|jdo 8 0 rfl rfl rfl rfl<|jdc 9 [9] rfl<|jdi 10 1 rfl rfl rfl rfl<|fun x2 b5 o2=>jdl 11 false oL rfl (gk 0) rfl<|fun p4 c4=>jdf 12 3 rfl rfl<|
  jda 13 1 2 rfl rfl rfl rfl<|jd1 14<|jca (.f rfl) [] [] c_ref26_find rfl rfl rfl ⟨ck 0,⟨⟩⟩<|fun r1 _ k=>k<|jdn<|jdc 3 [15] rfl<|jdp 16 (vb (decide (0 ≤ r1))) rfl<|jdp 17 (vb (decide (0 ≤ r1))) rfl<|jdc 0 [18] rfl<|jde<|
  jnn (gv (fun _ k=>k) [0,1,2] ⟨gk 2,gk 3,gk 4,⟨⟩⟩))<|jdc 3 [7,8,9,10,11,12,13,14,15] rfl<|jdp 16 (vb false) rfl<|jdp 17 (vb false) rfl<|jdc 0 [18] rfl<|jde<|jnn (gv (fun _ k=>k) [0,1,2] ⟨gk 0,gk 1,gk 2,⟨⟩⟩))<|fun s3 _ k=>k<|jbn<|jtn<|jrg<|
  jpc 3 rfl<|joe<|jln (gv (fun _ k=>k) [0,1,2] ⟨gk 0,gk 1,gk 2,⟨⟩⟩))<|jxe<|jte<|jle<|jbh<|jnn (gv (fun _ k=>k) [0,1,2] ⟨gk 0,gk 1,gk 2,⟨⟩⟩))<|fun s1 _ k=>k<|jsq<|jbk<|jsr<|jpc 1 rfl<|jfa 3 rfl<|jla 1 2 rfl rfl rfl<|
  jcl c_ref26_find rfl ⟨ck 0,⟨⟩⟩<|fun r2 _ k=>k<|jpc 2 rfl<|jot<|jif rfl (jsr<|jpe (.agg #[.slice none 0 0])<|jso .s 2 rfl rfl rfl<|jpc 1 rfl<|jot<|jxr<|jbr<|jtr<|
  jrg' rfl (lC 2 (.agg #[.slice none 0 0]) rfl rfl (lT rfl lN)) (fun _ k=>k none 0) [] ⟨gn,⟨⟩⟩)<|jsr<|jpc 3 rfl<|jot<|jif rfl (jsr<|jpe (.agg #[.slice none 0 0])<|jso .s 2 rfl rfl rfl<|jpc 1 rfl<|jot<|jxr<|jbr<|jtr<|
  jrg' rfl (lC 2 (.agg #[.slice none 0 0]) rfl rfl (lT rfl lN)) (fun _ k=>k none 0) [] ⟨gn,⟨⟩⟩)<|jsr<|jpc 1 rfl<|jfa 3 rfl<|jla 1 2 rfl rfl rfl<|jcl c_ref26_not rfl ⟨⟩<|fun r3 _ k=>k<|jcl c_ref26_find rfl ⟨ck 0,⟨⟩⟩<|fun r4 _ k=>k<|jpc 2 rfl<|
  jot<|jif rfl (jsr<|jpe (.agg #[.slice none 0 0])<|jso .s 2 rfl rfl rfl<|jpc 1 rfl<|jot<|jxr<|jbr<|jtr<|jrg' rfl (lC 2 (.agg #[.slice none 0 0]) rfl rfl (lT rfl lN)) (fun _ k=>k none 0) [] ⟨gn,⟨⟩⟩)<|jsr<|jpc 4 rfl<|jot<|jif rfl (jsr<|
  jpe (.agg #[.slice none 0 0])<|jso .s 2 rfl rfl rfl<|jpc 1 rfl<|jot<|jxr<|jbr<|jtr<|jrg' rfl (lC 2 (.agg #[.slice none 0 0]) rfl rfl (lT rfl lN)) (fun _ k=>k none 0) [] ⟨gn,⟨⟩⟩)<|jsk<|jbn<|jtn<|jds [] [0, 1] 11<|jda 0 0 1 rfl rfl rfl rfl<|
  jdf 1 1 rfl rfl<|jdo 2 1 rfl rfl rfl rfl<|jdc 7 [3] rfl<|jdf 4 3 rfl rfl<|jda 5 1 2 rfl rfl rfl rfl<|jdp 6 (.agg #[vb y1.2.2.2.1.1, vs y1.2.2.2.1.2, vb true, vb false, .slice none 0 0]) rfl<|jd1 7<|
  jca (.f rfl) [] [] c_ref26_with rfl rfl rfl ⟨ck 0,cn,⟨⟩⟩<|fun r5 _ k p5 c5=>k<|jdn<|jd1 8<|jca (.f rfl) [] [] c_ref26_set rfl rfl rfl ⟨ck 2,ck 0,⟨⟩⟩<|fun r6 _ k p6 c6=>k<|jdn<|jd1 9<|jso (o := 0) (.f rfl) 2 rfl rfl rfl<|jdn<|
  jdc 0 [10] rfl<|jde<|jtn<|jxr<|jrg' rfl (lC 2 (.agg #[sv p6 r6 c6]) rfl rfl (lT rfl lN)) (fun _ k=>k p6 c6) [] ⟨gk 0,⟨⟩⟩

theorem c_ref26_member {qd : Prop} {y0 : (List (List T_Commitment))} {y1 : Int} : Con qd Tryz.prog 54 [.agg #[sv p1 y0 c1], vi y1] [] [Rl (eSlice e_Commitment) p1 c1 y0] (m_ref26_member y0 y1) fun r K=>K (vb r) [] [] :=
 ent3 Tryz.call54 Tryz.func54 rfl fun X=>jsr<|jbx .s rfl<|fun b1=>jpc 1 rfl<|jot<|jjp (fun K=>K [(4, vb ((decide (0 ≤ y1)) && (decide (y1 < (len y0)))))] [[]] []) (jrg<|jpc 3 rfl<|jsp (b := decide (0 ≤ y1)) 7 rfl (fun hb1=>jpc 1 rfl<|jfa 0 rfl<|jlo 0 rfl rfl rfl<|jpc 2 rfl<|
  jpe (vb (decide (y1 < (len y0))))<|jpc 1 rfl<|joe<|jup 4 (vb ((decide (0 ≤ y1)) && (decide (y1 < (len y0))))) rfl (by rw [hb1]; rfl)<|jnn (gv (fun _ k=>k) [900] ⟨⟩))<|fun hb1=>jpc 5 rfl<|jpe (vb false)<|jpc 1 rfl<|joe<|
  jup 4 (vb ((decide (0 ≤ y1)) && (decide (y1 < (len y0))))) rfl (by rw [hb1]; rfl)<|jnn (gv (fun _ k=>k) [900] ⟨⟩))<|fun _ k=>k<|jxr<|jr1 rfl rfl (fun _ k=>k) [] ⟨⟩

theorem c_ref26_retract {qd : Prop} {y0 : (List (List T_Commitment))} {y1 : T_Speech} : Con qd Tryz.prog 60 [.agg #[sv p1 y0 c1], .agg #[vi y1.1, vi y1.2.1, vi y1.2.2.1, vb y1.2.2.2.1.1, vs y1.2.2.2.1.2, sv p2 y1.2.2.2.2 c2]] [] [Rl (eSlice e_Commitment) p1 c1 y0, Rl e_Literal p2 c2 y1.2.2.2.2] (m_ref26_retract y0 y1) fun r K=>∀ p3 c3,K (.tuple #[.agg #[sv p3 r.1 c3], vi r.2]) [] [Rl (eSlice e_Commitment) p3 c3 r.1] :=
 ent3 Tryz.call60 Tryz.func60 rfl fun X=>jsr<|jbx .s rfl<|fun b1=>jbx .s rfl<|fun b2=>jal .s (.agg #[.slice none 0 0])<|fun b3=>jpc 1 rfl<|jot<|jsr<|jfa 0 rfl<|jlo 0 rfl rfl rfl<|jfa 1 rfl<|jlo 1 rfl rfl rfl<|jix 0 rfl rfl rfl<|fun x1 b4 o1=>jld false oL (gk 0) rfl<|fun p3 c3=>
  jpc 1 rfl<|jot<|jsq<|jsr<|jpc 1 rfl<|jfa 3 rfl<|jla 1 2 rfl rfl rfl<|jcl c_ref26_find rfl ⟨ck 0,⟨⟩⟩<|fun r1 _ k=>k<|jpc 1 rfl<|jot<|jif rfl (jsr<|jpe (.agg #[.slice none 0 0])<|jso .s 2 rfl rfl rfl<|jpc 1 rfl<|jot<|jxr<|jtr<|
  jrg' rfl (lC 2 (.agg #[.slice none 0 0]) rfl rfl (lT rfl lN)) (fun _ k=>k none 0) [] ⟨gn,⟨⟩⟩)<|jsk<|jtn<|jsr<|jpc 1 rfl<|jro e_Commitment 53<|jot<|
  jjn (fun s1 K=>∀ p4 c4 r_1,K [(2, pt b1 0), (3, pt b2 0), (4, pt b3 0), (7, sv p4 s1 c4)] [bx b1 47 [sv p1 y0 c1], bx b2 59 [vi y1.1, vi y1.2.1, vi y1.2.2.1, vb y1.2.2.2.1.1, vs y1.2.2.2.1.2, sv p2 y1.2.2.2.2 c2], bx b3 47 [.slice none 0 0], r_1] [Al e_Commitment 53 r_1 p4 c4 s1, Rl (eSlice e_Commitment) p1 c1 y0, Rl e_Literal p2 c2 y1.2.2.2.2]) (
  jsr<|jpc 1 rfl<|jot<|jbk<|
  jlp (fun s2 K=>∀ p5 c5 r_2,K [(2, pt b1 0), (3, pt b2 0), (4, pt b3 0), (6, sv p3 x1 c3), (7, sv p5 s2.1 c5), (8, vi s2.2)] [bx b1 47 [sv p1 y0 c1], bx b2 59 [vi y1.1, vi y1.2.1, vi y1.2.2.1, vb y1.2.2.2.1.1, vs y1.2.2.2.1.2, sv p2 y1.2.2.2.2 c2], bx b3 47 [.slice none 0 0], r_2] [Al e_Commitment 53 r_2 p5 c5 s2.1, Rl e_Commitment p3 c3 x1, Rl (eSlice e_Commitment) p1 c1 y0, Rl e_Literal p2 c2 y1.2.2.2.2]) (gv (fun _ k=>k none 0 []) [0,1,2,3] ⟨gk 0,gk 1,gk 3,gk 4,⟨⟩⟩)<|
  fun s2 _ k p5 c5 r_2=>k<|jsq<|jsr<|jpc 4 rfl<|jot<|jif rfl (jsk<|jtn<|jsq<|jbk<|jsr<|jpc 2 rfl<|jix 1 rfl rfl rfl<|fun x2 b5 o2=>jld true o_Commitment (gk 0) rfl<|fun p6 c6=>
  jal .s (.agg #[vb false, vs [], vb false, vb false, .slice none 0 0])<|fun b6=>jso .s 4 rfl rfl rfl<|jot<|jsq<|jsr<|jfa 0 rfl<|jla 4 2 rfl rfl rfl<|jfa 3 rfl<|jla 1 2 rfl rfl rfl<|jpe (vb (x2.1 == y1.2.2.2.1))<|jot<|jif rfl (jxe<|jte<|jbh<|
  jtn<|jrg<|jpc 3 rfl<|joe<|jln (gv (fun _ k=>k p5 c5 r_2) [0,1,2,3] ⟨gk 2,gk 3,gk 4,gk 5,⟨⟩⟩))<|jsk<|jtn<|
  jjn (fun s3 K=>∀ p7 c7,K [(2, pt b1 0), (3, pt b2 0), (4, pt b3 0), (6, sv p3 x1 c3), (7, sv p5 s2.1 c5), (8, vi s2.2), (9, pt b6 0)] [bx b1 47 [sv p1 y0 c1], bx b2 59 [vi y1.1, vi y1.2.1, vi y1.2.2.1, vb y1.2.2.2.1.1, vs y1.2.2.2.1.2, sv p2 y1.2.2.2.2 c2], bx b3 47 [.slice none 0 0], r_2, bx b6 53 [vb x2.1.1, vs x2.1.2, vb s3.1, vb s3.2.1, sv p7 s3.2.2 c7]] [Rl e_Literal p7 c7 s3.2.2, Rl e_Commitment p3 c3 x1, Al e_Commitment 53 r_2 p5 c5 s2.1, Rl (eSlice e_Commitment) p1 c1 y0, Rl e_Literal p2 c2 y1.2.2.2.2]) (
  jsr<|jfa 4 rfl<|jlo 4 rfl rfl rfl<|jfa 3 rfl<|jla 1 2 rfl rfl rfl<|jcl c_ref26_in rfl ⟨ck 0,⟨⟩⟩<|fun r2 _ k=>k<|jot<|jif rfl (jrg<|jfa 0 rfl<|jla 4 2 rfl rfl rfl<|jpe (.agg #[vb x2.1.1, vs x2.1.2, vb false, vb true, .slice none 0 0])<|
  jso .s 4 rfl rfl rfl<|joe<|jnn (gv (fun _ k=>k none 0) [0,1,2,3,4] ⟨gn,gk 3,gk 2,gk 4,gk 5,⟨⟩⟩))<|jsk<|jnn (gv (fun _ k=>k p6 c6) [0,1,2,3,4] ⟨gk 0,gk 3,gk 2,gk 4,gk 5,⟨⟩⟩))<|fun s3 _ k p7 c7=>k<|jrg<|jpc 1 rfl<|jla 4 5 rfl rfl rfl<|
  jbs .s (e := e_Commitment) 53 [vb x2.1.1, vs x2.1.2, vb s3.1, vb s3.2.1, sv p7 s3.2.2 c7] ([(x2.1, s3.1, s3.2.1, s3.2.2)] : List T_Commitment) (rC (vP (vP vB vS) (vP vB (vP vB (vL (gk 0))))) rN)<|fun p8 c8=>jar .s 3 3 rfl (gk 0) rfl rfl<|
  fun x3 r_3 p9 c9=>jpc 1 rfl<|joe<|jbn<|jtn<|jrg<|jpc 3 rfl<|joe<|jln (gv (fun _ k=>k p9 c9 r_3) [0,1,2,3] ⟨gk 0,gk 3,gk 5,gk 6,⟨⟩⟩))<|jxe<|jte<|jle<|jbh<|jnn (gv (fun _ k=>k p5 c5 r_2) [0,1,2,3] ⟨gk 0,gk 2,gk 3,⟨⟩⟩))<|fun s1 _ k p4 c4 r_1=>
  k<|jsr<|jla 0 1 rfl rfl rfl<|jfa 1 rfl<|jlo 1 rfl rfl rfl<|jpc 1 rfl<|jsh 3 0 rfl rfl<|jcl c_ref26_set rfl ⟨ck 2,ck 0,⟨⟩⟩<|fun r3 _ k p10 c10=>k<|jso .s 2 rfl rfl rfl<|jpc 1 rfl<|jot<|jxr<|
  jrg' rfl (lC 2 (.agg #[sv p10 r3 c10]) rfl rfl (lT rfl lN)) (fun _ k=>k p10 c10) [] ⟨gk 0,⟨⟩⟩

theorem c_ref26_Say {qd : Prop} {y0 : (List (List T_Commitment))} {y1 : T_Speech} : Con qd Tryz.prog 20 [.agg #[sv p1 y0 c1], .agg #[vi y1.1, vi y1.2.1, vi y1.2.2.1, vb y1.2.2.2.1.1, vs y1.2.2.2.1.2, sv p2 y1.2.2.2.2 c2]] [] [Rl (eSlice e_Commitment) p1 c1 y0, Rl e_Literal p2 c2 y1.2.2.2.2] (m_ref26_Say y0 y1) fun r K=>∀ p3 c3,K (.tuple #[.agg #[sv p3 r.1 c3], vi r.2]) [] [Rl (eSlice e_Commitment) p3 c3 r.1] :=
 ent3 Tryz.call20 Tryz.func20 rfl fun X=>jsr<|jbx .s rfl<|fun b1=>jbx .s rfl<|fun b2=>jal .s (.agg #[.slice none 0 0])<|fun b3=>jpc 1 rfl<|jot<|jsq<|jsr<|jla 0 1 rfl rfl rfl<|jcl c_ref26_Validate rfl ⟨ck 0,⟨⟩⟩<|fun r1 _ k=>k<|jpc 1 rfl<|jot<|jsr<|jpc 2 rfl<|jot<|jif rfl (jsr<|
  jpe (.agg #[.slice none 0 0])<|jpc 1 rfl<|jso .s 2 rfl rfl rfl<|jpc 1 rfl<|jot<|jxr<|jtr<|jrg' rfl (lC 2 (.agg #[.slice none 0 0]) rfl rfl (lT rfl lN)) (fun _ k=>k none 0) [] ⟨gn,⟨⟩⟩)<|jsk<|jtn<|jsq<|
  jjp (fun K=>K [(2, pt b1 0), (3, pt b2 0), (4, pt b3 0), (20, vb ((decide (y1.1 < 1)) || (decide (5 < y1.1))))] [bx b1 47 [sv p1 y0 c1], bx b2 59 [vi y1.1, vi y1.2.1, vi y1.2.2.1, vb y1.2.2.2.1.1, vs y1.2.2.2.1.2, sv p2 y1.2.2.2.2 c2], bx b3 47 [.slice none 0 0]] [Rl (eSlice e_Commitment) p1 c1 y0, Rl e_Literal p2 c2 y1.2.2.2.2]) (
  jrg<|jfa 0 rfl<|jlo 1 rfl rfl rfl<|jpc 2 rfl<|jsp (b := decide (y1.1 < 1)) 16 rfl (fun hb1=>jpc 3 rfl<|jpe (vb true)<|joe<|jup 20 (vb ((decide (y1.1 < 1)) || (decide (5 < y1.1)))) rfl (by rw [hb1]; rfl)<|
  jnn (gv (fun _ k=>k) [0,1,2] ⟨gk 0,gk 1,⟨⟩⟩))<|fun hb1=>jfa 0 rfl<|jlo 1 rfl rfl rfl<|jpc 1 rfl<|jpe (vb (decide (5 < y1.1)))<|joe<|jup 20 (vb ((decide (y1.1 < 1)) || (decide (5 < y1.1)))) rfl (by rw [hb1]; rfl)<|
  jnn (gv (fun _ k=>k) [0,1,2] ⟨gk 0,gk 1,⟨⟩⟩))<|fun _ k=>k<|jif rfl (jsr<|jpe (.agg #[.slice none 0 0])<|jso .s 2 rfl rfl rfl<|jpc 1 rfl<|jot<|jxr<|jtr<|
  jrg' rfl (lC 2 (.agg #[.slice none 0 0]) rfl rfl (lT rfl lN)) (fun _ k=>k none 0) [] ⟨gn,⟨⟩⟩)<|jsk<|jtn<|jsq<|
  jjn (fun s1 K=>K [(2, pt b1 0), (3, pt b2 0), (4, pt b3 0), (38, vb s1)] [bx b1 47 [sv p1 y0 c1], bx b2 59 [vi y1.1, vi y1.2.1, vi y1.2.2.1, vb y1.2.2.2.1.1, vs y1.2.2.2.1.2, sv p2 y1.2.2.2.2 c2], bx b3 47 [.slice none 0 0]] [Rl (eSlice e_Commitment) p1 c1 y0, Rl e_Literal p2 c2 y1.2.2.2.2]) (
  jrg<|jla 0 1 rfl rfl rfl<|jfa 1 rfl<|jlo 1 rfl rfl rfl<|jcl c_ref26_member rfl ⟨ck 0,⟨⟩⟩<|fun r2 _ k=>k<|jpc 2 rfl<|jsg 27 rfl (jpc 10 rfl<|jpe (vb true)<|joe<|jnn (gv (fun _ k=>k) [0,1,2] ⟨gk 0,gk 1,⟨⟩⟩))<|jfa 0 rfl<|jlo 1 rfl rfl rfl<|
  jpc 2 rfl<|jsg 31 rfl (jla 0 1 rfl rfl rfl<|jfa 2 rfl<|jlo 1 rfl rfl rfl<|jcl c_ref26_member rfl ⟨ck 0,⟨⟩⟩<|fun r3 _ k=>k<|jpc 1 rfl<|jpe (vb (!r3))<|jpe (vb (!r3))<|joe<|jnn (gv (fun _ k=>k) [0,1,2] ⟨gk 0,gk 1,⟨⟩⟩))<|jpc 5 rfl<|
  jpe (vb false)<|jpe (vb false)<|joe<|jnn (gv (fun _ k=>k) [0,1,2] ⟨gk 0,gk 1,⟨⟩⟩))<|fun s1 _ k=>k<|jif rfl (jsr<|jpe (.agg #[.slice none 0 0])<|jso .s 2 rfl rfl rfl<|jpc 1 rfl<|jot<|jxr<|jtr<|
  jrg' rfl (lC 2 (.agg #[.slice none 0 0]) rfl rfl (lT rfl lN)) (fun _ k=>k none 0) [] ⟨gn,⟨⟩⟩)<|jsk<|jtn<|jsq<|jsr<|jfa 3 rfl<|jla 1 2 rfl rfl rfl<|jcl c_ref01_Valid rfl ⟨⟩<|fun r4 _ k=>k<|jpc 1 rfl<|jot<|jif rfl (jsr<|
  jpe (.agg #[.slice none 0 0])<|jso .s 2 rfl rfl rfl<|jpc 1 rfl<|jot<|jxr<|jtr<|jrg' rfl (lC 2 (.agg #[.slice none 0 0]) rfl rfl (lT rfl lN)) (fun _ k=>k none 0) [] ⟨gn,⟨⟩⟩)<|jsk<|jtn<|jsq<|jsr<|jfa 0 rfl<|jlo 1 rfl rfl rfl<|jot<|jbk<|jsr<|
  jpc 2 rfl<|jot<|jif rfl (jsr<|jla 0 1 rfl rfl rfl<|jla 1 6 rfl rfl rfl<|jcl c_ref26_assert rfl ⟨ck 0,ck 1,⟨⟩⟩<|fun r5 _ k p3 c3=>k<|jpc 2 rfl<|jso .s 2 rfl rfl rfl<|jpc 1 rfl<|jot<|jxr<|jbr<|jtr<|
  jrg' rfl (lC 2 (.agg #[sv p3 r5.1 c3]) rfl rfl (lT rfl lN)) (fun _ k=>k p3 c3) [] ⟨gk 0,⟨⟩⟩)<|jsr<|jpc 2 rfl<|jot<|jif rfl (jsr<|jla 0 1 rfl rfl rfl<|jla 1 6 rfl rfl rfl<|jcl c_ref26_challenge rfl ⟨ck 0,ck 1,⟨⟩⟩<|fun r6 _ k p4 c4=>k<|
  jpc 2 rfl<|jso .s 2 rfl rfl rfl<|jpc 1 rfl<|jot<|jxr<|jbr<|jtr<|jrg' rfl (lC 2 (.agg #[sv p4 r6.1 c4]) rfl rfl (lT rfl lN)) (fun _ k=>k p4 c4) [] ⟨gk 0,⟨⟩⟩)<|jsr<|jpc 2 rfl<|jot<|jif rfl (jsr<|jla 0 1 rfl rfl rfl<|jla 1 6 rfl rfl rfl<|
  jcl c_ref26_argue rfl ⟨ck 0,ck 1,⟨⟩⟩<|fun r7 _ k p5 c5=>k<|jpc 2 rfl<|jso .s 2 rfl rfl rfl<|jpc 1 rfl<|jot<|jxr<|jbr<|jtr<|jrg' rfl (lC 2 (.agg #[sv p5 r7.1 c5]) rfl rfl (lT rfl lN)) (fun _ k=>k p5 c5) [] ⟨gk 0,⟨⟩⟩)<|jsr<|jpc 2 rfl<|jot<|
  jif rfl (jsr<|jla 0 1 rfl rfl rfl<|jla 1 6 rfl rfl rfl<|jcl c_ref26_concede rfl ⟨ck 0,ck 1,⟨⟩⟩<|fun r8 _ k p6 c6=>k<|jpc 2 rfl<|jso .s 2 rfl rfl rfl<|jpc 1 rfl<|jot<|jxr<|jbr<|jtr<|
  jrg' rfl (lC 2 (.agg #[sv p6 r8.1 c6]) rfl rfl (lT rfl lN)) (fun _ k=>k p6 c6) [] ⟨gk 0,⟨⟩⟩)<|jsk<|jbn<|jtn<|jsr<|jla 0 1 rfl rfl rfl<|jla 1 6 rfl rfl rfl<|jcl c_ref26_retract rfl ⟨ck 0,ck 1,⟨⟩⟩<|fun r9 _ k p7 c7=>k<|jpc 2 rfl<|
  jso .s 2 rfl rfl rfl<|jpc 1 rfl<|jot<|jxr<|jrg' rfl (lC 2 (.agg #[sv p7 r9.1 c7]) rfl rfl (lT rfl lN)) (fun _ k=>k p7 c7) [] ⟨gk 0,⟨⟩⟩

theorem c_ref26_Stores {qd : Prop} {y0 : T_keep_Src} {y1 : (List (List T_Commitment))} : Con qd Tryz.prog 21 [pt b1 0, .agg #[sv p2 y1 c2]] [bx b1 68 [sv p1 y0.1 c1, vi y0.2]] [Rl (eInt .i64) p1 c1 y0.1, Rl (eSlice e_Commitment) p2 c2 y1] (m_ref26_Stores y0 y1) fun r K=>∀ p3 c3,K (.agg #[sv p3 r.1 c3]) [bx b1 68 [sv p1 y0.1 c1, vi r.2]] [Rl (eSlice e_Commitment) p3 c3 r.1] :=
 ent3 Tryz.call21 Tryz.func21 rfl fun X=>jsr<|jbx .s rfl<|fun b2=>jal .s (.agg #[.slice none 0 0])<|fun b3=>jot<|jsr<|jbo .s (e := eSlice e_Commitment) 48 [] ([] : List (List T_Commitment)) rN<|fun r_1 p3 c3=>jfa 0 rfl<|jlo 1 rfl rfl rfl<|jar .s 3 0 rfl (gk 2) rfl rfl<|
  fun x1 r_2 p4 c4=>jpe (.agg #[sv p4 x1 c4])<|jal .s (.agg #[.slice none 0 0])<|fun b4=>jso .s 4 rfl rfl rfl<|jot<|jsq<|jsr<|jfa 0 rfl<|jlo 4 rfl rfl rfl<|jpc 2 rfl<|jot<|jif rfl (jsr<|jpc 1 rfl<|
  jca .s [0] [] c_keep_Src_N rfl rfl rfl ⟨ck 2,⟨⟩⟩<|fun r1 _ k=>k<|jmk .s (e := eSlice e_Commitment) 48 (([] : List T_Commitment) : List T_Commitment) (.slice none 0 0) (vL gn) rfl rfl<|fun x2 r_3 p5 c5=>jpe (.agg #[sv p5 x2 c5])<|
  jso .s 2 rfl rfl rfl<|jot<|jxr<|jtr<|jsh 5 0 rfl rfl<|jrg' rfl (lC 2 (.agg #[sv p5 x2 c5]) rfl rfl lN) (fun _ k=>k p5 c5) [0] ⟨gk 0,⟨⟩⟩)<|jsk<|jtn<|jsr<|jpc 1 rfl<|jfa 0 rfl<|jlo 4 rfl rfl rfl<|jpc 1 rfl<|
  jca .s [0] [] c_keep_Src_N rfl rfl rfl ⟨ck 2,⟨⟩⟩<|fun r2 _ k=>k<|jpc 1 rfl<|jot<|jds [22] [3, 4] 23<|jdf 0 0 rfl rfl<|jdo 1 4 rfl rfl rfl rfl<|jdc 20 [2] rfl<|jdf 4 0 rfl rfl<|jdo 5 4 rfl rfl rfl rfl<|jdc 17 [6] rfl<|
  jdI 7 0 rfl rfl rfl rfl<|fun x3 h2 b5 hp1=>jdL 8 3 0 sI false oL rfl rfl hp1 h2 rfl<|fun p6 c6=>jdc 12 [10,12,15] rfl<|jd1 3<|jbo (.f rfl) (e := e_Commitment) 53 [] ([] : List T_Commitment) rN<|fun r_4 p7 c7=>jdn<|jd1 9<|
  jar (.f rfl) 5 0 rfl (gk 1) rfl rfl<|fun x4 r_5 p8 c8=>jdn<|jd1 11<|jca (.f rfl) [0] [] c_net_Literal rfl rfl rfl ⟨ck 5,⟨⟩⟩<|fun r3 _ k=>k<|jdn<|jd1 13<|jca (.f rfl) [0] [] c_keep_Src_N rfl rfl rfl ⟨ck 5,⟨⟩⟩<|fun r4 _ k=>k<|jdn<|
  jdc 7 [14] rfl<|jd1 16<|jca (.f rfl) [0] [] c_keep_Src_N rfl rfl rfl ⟨ck 5,⟨⟩⟩<|fun r5 _ k=>k<|jdn<|jdc 5 [17] rfl<|jdp 18 (.agg #[vb r3.1.1, vs r3.1.2, vb (r4.1 == 0), vb (r5.1 == 0), .slice none 0 0]) rfl<|jd1 19<|
  jbs (.f rfl) (e := e_Commitment) 53 [vb r3.1.1, vs r3.1.2, vb (r4.1 == 0), vb (r5.1 == 0), .slice none 0 0] ([(r3.1, r4.1 == 0, r5.1 == 0, ([] : List T_Literal))] : List T_Commitment) (rC (vP (vP vB vS) (vP vB (vP vB (vL gn)))) rN)<|
  fun p9 c9=>jdn<|jd1 20<|jar (.f rfl) 5 1 rfl (gk 0) rfl rfl<|fun x5 r_6 p10 c10=>jdn<|jdI 21 5 rfl rfl rfl rfl<|fun x6 h5 b6 hp2=>jsh 5 0 rfl rfl<|jd1 22<|jsA (.f rfl) 3 6 sI x5 false rfl hp2 h5 rfl rfl (vL (gk 0))<|fun r_7=>jdb [] [3, 4]<|
  jde<|jtn<|jsr<|jla 4 1 rfl rfl rfl<|jso .s 2 rfl rfl rfl<|jot<|jxr<|jsh 3 0 rfl rfl<|jrg' rfl (lC 2 (.agg #[.slice p4 (List.length x1) c4]) rfl rfl lN) (fun _ k=>k p4 c4) [0] ⟨gl (gk 0),⟨⟩⟩

theorem c_ref01_Format {qd : Prop} {y0 : T_Literal} : Con qd Tryz.prog 63 [.agg #[vb y0.1, vs y0.2]] [] [] (m_ref01_Format y0) fun r K=>K (vs r) [] [] :=
 ent3 Tryz.call63 Tryz.func63 rfl fun X=>jsr<|jbx .s rfl<|fun b1=>jpc 1 rfl<|jot<|jsq<|jsr<|jla 0 2 rfl rfl rfl<|jcl c_ref01_Valid rfl ⟨⟩<|fun r1 _ k=>k<|jpc 1 rfl<|jot<|jif rfl (jsr<|jpc 1 rfl<|jot<|jxr<|jtr<|jr1 rfl rfl (fun _ k=>k) [] ⟨⟩)<|jsk<|jtn<|jsq<|jsr<|jfa 0 rfl<|
  jlo 0 rfl rfl rfl<|jot<|jif rfl (jsr<|jfa 1 rfl<|jlo 0 rfl rfl rfl<|jbd fun x1 h1=>jv (fun h=>r_cat h rfl rfl h1)<|jpc 1 rfl<|jot<|jxr<|jtr<|jr1 rfl rfl (fun _ k=>k) [] ⟨⟩)<|jsk<|jtn<|jsr<|jfa 1 rfl<|jlo 0 rfl rfl rfl<|jpc 1 rfl<|jot<|jxr<|
  jr1 rfl rfl (fun _ k=>k) [] ⟨⟩

theorem c_ref42_Commitments {qd : Prop} {y0 : (List (List T_Commitment))} : Con qd Tryz.prog 23 [.agg #[sv p1 y0 c1]] [] [Rl (eSlice e_Commitment) p1 c1 y0] (m_ref42_Commitments y0) fun r K=>∀ p2 c2,K (sv p2 r c2) [] [Rl eStr p2 c2 r] :=
 ent3 Tryz.call23 Tryz.func23 rfl fun X=>jsr<|jbx .s rfl<|fun b1=>jpc 1 rfl<|jot<|jsq<|jsr<|jla 0 1 rfl rfl rfl<|jcl c_ref26_Validate rfl ⟨ck 0,⟨⟩⟩<|fun r1 _ k=>k<|jpc 1 rfl<|jot<|jif rfl (jsr<|jpc 1 rfl<|jot<|jxr<|jtr<|jr1 rfl rfl (fun _ k=>k none 0) [] ⟨gn,⟨⟩⟩)<|jsk<|jtn<|jsr<|
  jpc 1 rfl<|jro eStr 9<|jot<|jsq<|jsr<|jpc 1 rfl<|jot<|jbk<|
  jlp (fun s1 K=>∀ p2 c2 r_1,K [(1, pt b1 0), (3, sv p2 s1.1 c2), (4, vi s1.2)] [bx b1 47 [sv p1 y0 c1], r_1] [Al eStr 9 r_1 p2 c2 s1.1, Rl (eSlice e_Commitment) p1 c1 y0]) (gv (fun _ k=>k none 0 []) [0,1] ⟨gk 0,gk 1,⟨⟩⟩)<|
  fun s1 _ k p2 c2 r_1=>k<|jsq<|jsr<|jpc 1 rfl<|jfa 0 rfl<|jlo 0 rfl rfl rfl<|jpc 2 rfl<|jot<|jif rfl (jsk<|jtn<|jsq<|jbk<|jsr<|jpc 1 rfl<|jcl c_ref42_digits rfl ⟨⟩<|fun r2 _ k=>k<|jbd fun x1 h1=>jv (fun h=>r_cat h rfl rfl h1)<|
  jbd fun x2 h2=>jv (fun h=>r_cat h rfl rfl h2)<|jpc 1 rfl<|jot<|jjn (fun s2 K=>K [(1, pt b1 0), (3, sv p2 s1.1 c2), (4, vi s1.2), (5, vs s2)] [bx b1 47 [sv p1 y0 c1], r_1] [Al eStr 9 r_1 p2 c2 s1.1, Rl (eSlice e_Commitment) p1 c1 y0]) (jsr<|
  jpc 1 rfl<|jot<|jbk<|
  jlp (fun s3 K=>K [(1, pt b1 0), (3, sv p2 s1.1 c2), (4, vi s1.2), (5, vs s3.1), (6, vi s3.2)] [bx b1 47 [sv p1 y0 c1], r_1] [Al eStr 9 r_1 p2 c2 s1.1, Rl (eSlice e_Commitment) p1 c1 y0]) (gv (fun _ k=>k) [0,1] ⟨gk 0,gk 1,⟨⟩⟩)<|fun s3 _ k=>
  k<|jsq<|jsr<|jpc 1 rfl<|jfa 0 rfl<|jlo 0 rfl rfl rfl<|jpc 1 rfl<|jix 1 rfl rfl rfl<|fun x3 b2 o1=>jld false oL (gk 0) rfl<|fun p3 c3=>jpc 2 rfl<|jot<|jif rfl (jsk<|jtn<|jsq<|jbk<|jsr<|jfa 0 rfl<|jlo 0 rfl rfl rfl<|jpc 1 rfl<|
  jix 3 rfl rfl rfl<|fun x4 b3 o2=>jld false oL (gk 0) rfl<|fun p4 c4=>jpc 1 rfl<|jix 0 rfl rfl rfl<|fun x5 b4 o3=>jld true o_Commitment (gk 0) rfl<|fun p5 c5=>jal .s (.agg #[vb false, vs [], vb false, vb false, .slice none 0 0])<|fun b5=>
  jso .s 2 rfl rfl rfl<|jot<|jsr<|jfa 0 rfl<|jla 2 2 rfl rfl rfl<|jcl c_ref01_Format rfl ⟨⟩<|fun r3 _ k=>k<|jpc 1 rfl<|jot<|
  jjn (fun s4 K=>K [(1, pt b1 0), (3, sv p2 s1.1 c2), (4, vi s1.2), (5, vs s3.1), (6, vi s3.2), (7, pt b5 0), (8, vs s4)] [bx b1 47 [sv p1 y0 c1], r_1, bx b5 53 [vb x5.1.1, vs x5.1.2, vb x5.2.1, vb x5.2.2.1, sv p5 x5.2.2.2 c5]] [Al eStr 9 r_1 p2 c2 s1.1, Rl (eSlice e_Commitment) p1 c1 y0, Rl e_Literal p5 c5 x5.2.2.2]) (
  jsr<|jfa 2 rfl<|jlo 2 rfl rfl rfl<|jot<|jif rfl (jrg<|jpc 1 rfl<|jbd fun x6 h3=>jv (fun h=>r_cat h rfl rfl h3)<|jbd fun x7 h4=>jv (fun h=>r_cat h rfl rfl h4)<|jpc 1 rfl<|joe<|jnn (gv (fun _ k=>k) [0,1,2] ⟨gk 6,gk 7,gk 0,⟨⟩⟩))<|jsk<|
  jnn (gv (fun _ k=>k) [0,1,2] ⟨gk 6,gk 7,gk 0,⟨⟩⟩))<|fun s4 _ k=>k<|
  jjn (fun s5 K=>K [(1, pt b1 0), (3, sv p2 s1.1 c2), (4, vi s1.2), (5, vs s3.1), (6, vi s3.2), (7, pt b5 0), (8, vs s5)] [bx b1 47 [sv p1 y0 c1], r_1, bx b5 53 [vb x5.1.1, vs x5.1.2, vb x5.2.1, vb x5.2.2.1, sv p5 x5.2.2.2 c5]] [Al eStr 9 r_1 p2 c2 s1.1, Rl (eSlice e_Commitment) p1 c1 y0, Rl e_Literal p5 c5 x5.2.2.2]) (
  jsr<|jfa 3 rfl<|jlo 2 rfl rfl rfl<|jot<|jif rfl (jrg<|jpc 1 rfl<|jbd fun x8 h5=>jv (fun h=>r_cat h rfl rfl h5)<|jpc 1 rfl<|joe<|jnn (gv (fun _ k=>k) [0,1,2] ⟨gk 0,gk 1,gk 2,⟨⟩⟩))<|jsk<|jnn (gv (fun _ k=>k) [0,1,2] ⟨gk 0,gk 1,gk 2,⟨⟩⟩))<|
  fun s5 _ k=>k<|jjn (fun s6 K=>K [(1, pt b1 0), (3, sv p2 s1.1 c2), (4, vi s1.2), (5, vs s3.1), (6, vi s3.2), (8, vs s6)] [bx b1 47 [sv p1 y0 c1], r_1, []] [Al eStr 9 r_1 p2 c2 s1.1, Rl (eSlice e_Commitment) p1 c1 y0]) (jsr<|jfa 4 rfl<|
  jlo 2 rfl rfl rfl<|jpc 2 rfl<|jot<|jif rfl (jsr<|jpc 1 rfl<|jbd fun x9 h6=>jv (fun h=>r_cat h rfl rfl h6)<|jpc 1 rfl<|jot<|
  jjn (fun s7 K=>K [(1, pt b1 0), (3, sv p2 s1.1 c2), (4, vi s1.2), (5, vs s3.1), (6, vi s3.2), (8, vs s7)] [bx b1 47 [sv p1 y0 c1], r_1, []] [Al eStr 9 r_1 p2 c2 s1.1, Rl (eSlice e_Commitment) p1 c1 y0]) (jsr<|jpc 1 rfl<|jot<|jbk<|
  jlp (fun s8 K=>K [(1, pt b1 0), (3, sv p2 s1.1 c2), (4, vi s1.2), (5, vs s3.1), (6, vi s3.2), (7, pt b5 0), (8, vs s8.1), (9, vi s8.2)] [bx b1 47 [sv p1 y0 c1], r_1, bx b5 53 [vb x5.1.1, vs x5.1.2, vb x5.2.1, vb x5.2.2.1, sv p5 x5.2.2.2 c5]] [Al eStr 9 r_1 p2 c2 s1.1, Rl (eSlice e_Commitment) p1 c1 y0, Rl e_Literal p5 c5 x5.2.2.2]) (gv (fun _ k=>k) [0,1,2] ⟨gk 0,gk 1,gk 2,⟨⟩⟩)<|
  fun s8 _ k=>k<|jsq<|jsr<|jpc 1 rfl<|jfa 4 rfl<|jlo 2 rfl rfl rfl<|jpc 2 rfl<|jot<|jif rfl (jsk<|jtn<|jsq<|jbk<|jrg<|jpc 1 rfl<|jfa 4 rfl<|jlo 2 rfl rfl rfl<|jpc 1 rfl<|jix 2 rfl rfl rfl<|fun x10 b6 o4=>jld true o_Literal (gk 0) rfl<|
  jcl c_ref01_Format rfl ⟨⟩<|fun r4 _ k=>k<|jbd fun x11 h7=>jv (fun h=>r_cat h rfl rfl h7)<|jbd fun x12 h8=>jv (fun h=>r_cat h rfl rfl h8)<|jpc 1 rfl<|joe<|jbn<|jtn<|jrg<|jpc 3 rfl<|joe<|jln (gv (fun _ k=>k) [0,1,2] ⟨gk 1,gk 2,gk 3,⟨⟩⟩))<|
  jxe<|jte<|jle<|jbh<|jnn (gv (fun _ k=>k) [0,1,902] ⟨gk 0,gk 1,⟨⟩⟩))<|fun s7 _ k=>k<|jrg<|jpc 1 rfl<|jbd fun x13 h9=>jv (fun h=>r_cat h rfl rfl h9)<|jpc 1 rfl<|joe<|jnn (gv (fun _ k=>k) [0,1,902] ⟨gk 0,gk 1,⟨⟩⟩))<|jsk<|
  jnn (gv (fun _ k=>k) [0,1,902] ⟨gk 0,gk 1,⟨⟩⟩))<|fun s6 _ k=>k<|jrg<|jpc 2 rfl<|jbd fun x14 h10=>jv (fun h=>r_cat h rfl rfl h10)<|jbd fun x15 h11=>jv (fun h=>r_cat h rfl rfl h11)<|jpc 1 rfl<|joe<|jbn<|jtn<|jrg<|jpc 3 rfl<|joe<|
  jln (gv (fun _ k=>k) [0,1] ⟨gk 0,gk 1,⟨⟩⟩))<|jxe<|jte<|jle<|jbh<|jnn (gv (fun _ k=>k) [0,1] ⟨gk 2,gk 3,⟨⟩⟩))<|fun s2 _ k=>k<|jrg<|jpc 2 rfl<|jbs .s (e := eStr) 9 [vs s2] ([s2] : List Str) (rC vS rN)<|fun p6 c6=>
  jar .s 1 1 rfl (gk 0) rfl rfl<|fun x16 r_2 p7 c7=>jpc 1 rfl<|joe<|jbn<|jtn<|jrg<|jpc 3 rfl<|joe<|jln (gv (fun _ k=>k p7 c7 r_2) [0,1] ⟨gk 0,gk 3,⟨⟩⟩))<|jxe<|jte<|jle<|jbh<|jtn<|jsr<|jpc 2 rfl<|jot<|jxr<|jsh 1 0 rfl rfl<|
  jr1 rfl rfl (fun _ k=>k p2 c2) [] ⟨gk 0,⟨⟩⟩

theorem c_commitment_Validate_2 {qd : Prop} {y0 : T_Commitment} : Con qd Tryz.prog 95 [.agg #[vb y0.1.1, vs y0.1.2, vb y0.2.1, vb y0.2.2.1, sv p1 y0.2.2.2 c1]] [] [Rl e_Literal p1 c1 y0.2.2.2] (m_commitment_Validate_2 y0) fun r K=>K (vb r) [] [] :=
 ent3 Tryz.call95 Tryz.func95 rfl fun X=>jsr<|jbx .s rfl<|fun b1=>jpc 1 rfl<|jot<|jsr<|jfa 4 rfl<|jlo 0 rfl rfl rfl<|jpc 3 rfl<|jot<|jxr<|jr1 rfl rfl (fun _ k=>k) [] ⟨⟩

theorem c_slices_IndexFunc_Commitment__commitment_Validate_2 {qd : Prop} {y0 : List T_Commitment} : Con qd Tryz.prog 148 [sv p1 y0 c1, .func (.func 95) #[] #[]] [] [Rl e_Commitment p1 c1 y0] (m_slices_IndexFunc_Commitment__commitment_Validate_2 y0) fun r K=>K (vi r) [] [] :=
 ent3 Tryz.call148 Tryz.func148 rfl fun X=>jsr<|jpc 1 rfl<|jot<|jsq<|jsr<|jpc 3 rfl<|jot<|jbk<|jlp (fun s1 K=>K [(0, sv p1 y0 c1), (1, .func (.func 95) #[] #[]), (7, vi (len y0)), (8, vi s1)] [] [Rl e_Commitment p1 c1 y0]) (gv (fun _ k=>k) [] ⟨gk 0,⟨⟩⟩)<|fun s1 _ k=>k<|jsr<|
  jpc 1 rfl<|jot<|jsq<|jif rfl (jsk<|jtn<|jsq<|jbk<|jsr<|jpc 2 rfl<|jot<|jsr<|jpc 3 rfl<|jix 0 rfl rfl rfl<|fun x1 b1 o1=>jld true o_Commitment (gk 0) rfl<|fun p2 c2=>jca .s [] [] c_commitment_Validate_2 rfl rfl rfl ⟨ck 0,⟨⟩⟩<|fun r1 _ k=>k<|
  jot<|jif rfl (jsr<|jpc 2 rfl<|jot<|jxr<|jbr<|jtr<|jlr<|jbr<|jtr<|jr1 rfl rfl (fun _ k=>k) [] ⟨⟩)<|jsk<|jbn<|jtn<|jrg<|jpc 2 rfl<|joe<|jln (gv (fun _ k=>k) [] ⟨gk 2,⟨⟩⟩))<|jxe<|jte<|jle<|jbh<|jtn<|jsr<|jpc 1 rfl<|jot<|jxr<|
  jr1 rfl rfl (fun _ k=>k) [] ⟨⟩

theorem c_slices_ContainsFunc_Commitment__commitment_Validate_2 {qd : Prop} {y0 : List T_Commitment} : Con qd Tryz.prog 135 [sv p1 y0 c1, .func (.func 95) #[] #[]] [] [Rl e_Commitment p1 c1 y0] (m_slices_ContainsFunc_Commitment__commitment_Validate_2 y0) fun r K=>K (vb r) [] [] :=
 ent3 Tryz.call135 Tryz.func135 rfl fun X=>jsr<|jpc 1 rfl<|jot<|jsr<|jpc 2 rfl<|jcl c_slices_IndexFunc_Commitment__commitment_Validate_2 rfl ⟨ck 0,⟨⟩⟩<|fun r1 _ k=>k<|jpc 2 rfl<|jot<|jxr<|jr1 rfl rfl (fun _ k=>k) [] ⟨⟩

theorem c_commitment_some_1__commitment_Validate_2 {qd : Prop} {y0 : List T_Commitment} : Con qd Tryz.prog 134 [sv p1 y0 c1, pt b1 0] [bx b1 130 [.func (.func 95) #[] #[]]] [Rl e_Commitment p1 c1 y0] (m_commitment_some_1__commitment_Validate_2 y0) fun r K=>K (vb r) [bx b1 130 [.func (.func 95) #[] #[]]] [] :=
 ent3 Tryz.call134 Tryz.func134 rfl fun X=>jsr<|jpc 1 rfl<|jot<|jsr<|jpc 1 rfl<|jlo 0 rfl rfl rfl<|jcl c_slices_ContainsFunc_Commitment__commitment_Validate_2 rfl ⟨ck 0,⟨⟩⟩<|fun r1 _ k=>k<|jpc 1 rfl<|jot<|jxr<|jr1 rfl rfl (fun _ k=>k) [0] ⟨⟩

theorem c_slices_IndexFunc_Commitment__commitment_some_1 {qd : Prop} {y0 : List (List T_Commitment)} : Con qd Tryz.prog 133 [sv p1 y0 c1, .func (.func 134) #[] #[pt b1 0]] [bx b1 130 [.func (.func 95) #[] #[]]] [Rl (eSlice e_Commitment) p1 c1 y0] (m_slices_IndexFunc_Commitment__commitment_some_1 y0) fun r K=>K (vi r) [bx b1 130 [.func (.func 95) #[] #[]]] [] :=
 ent3 Tryz.call133 Tryz.func133 rfl fun X=>jsr<|jpc 1 rfl<|jot<|jsq<|jsr<|jpc 3 rfl<|jot<|jbk<|
  jlp (fun s1 K=>K [(0, sv p1 y0 c1), (1, .func (.func 134) #[] #[pt b1 0]), (7, vi (len y0)), (8, vi s1)] [bx b1 130 [.func (.func 95) #[] #[]]] [Rl (eSlice e_Commitment) p1 c1 y0]) (gv (fun _ k=>k) [0] ⟨gk 0,⟨⟩⟩)<|fun s1 _ k=>k<|jsr<|
  jpc 1 rfl<|jot<|jsq<|jif rfl (jsk<|jtn<|jsq<|jbk<|jsr<|jpc 2 rfl<|jot<|jsr<|jpc 3 rfl<|jix 0 rfl rfl rfl<|fun x1 b2 o1=>jld false oL (gk 0) rfl<|fun p2 c2=>jca .s [0] [] c_commitment_some_1__commitment_Validate_2 rfl rfl rfl ⟨ck 0,⟨⟩⟩<|
  fun r1 _ k=>k<|jot<|jif rfl (jsr<|jpc 2 rfl<|jot<|jxr<|jbr<|jtr<|jlr<|jbr<|jtr<|jr1 rfl rfl (fun _ k=>k) [0] ⟨⟩)<|jsk<|jbn<|jtn<|jrg<|jpc 2 rfl<|joe<|jln (gv (fun _ k=>k) [0] ⟨gk 2,⟨⟩⟩))<|jxe<|jte<|jle<|jbh<|jtn<|jsr<|jpc 1 rfl<|jot<|jxr<|
  jr1 rfl rfl (fun _ k=>k) [0] ⟨⟩

theorem c_slices_ContainsFunc_Commitment__commitment_some_1 {qd : Prop} {y0 : List (List T_Commitment)} : Con qd Tryz.prog 92 [sv p1 y0 c1, .func (.func 134) #[] #[pt b1 0]] [bx b1 130 [.func (.func 95) #[] #[]]] [Rl (eSlice e_Commitment) p1 c1 y0] (m_slices_ContainsFunc_Commitment__commitment_some_1 y0) fun r K=>K (vb r) [bx b1 130 [.func (.func 95) #[] #[]]] [] :=
 ent3 Tryz.call92 Tryz.func92 rfl fun X=>jsr<|jpc 1 rfl<|jot<|jsr<|jpc 2 rfl<|jca .s [0] [] c_slices_IndexFunc_Commitment__commitment_some_1 rfl rfl rfl ⟨ck 0,⟨⟩⟩<|fun r1 _ k=>k<|jpc 2 rfl<|jot<|jxr<|jr1 rfl rfl (fun _ k=>k) [0] ⟨⟩

theorem c_commitment_some__commitment_Validate_2 {qd : Prop} {y0 : (List (List T_Commitment))} : Con qd Tryz.prog 94 [.agg #[sv p1 y0 c1], .func (.func 95) #[] #[]] [] [Rl (eSlice e_Commitment) p1 c1 y0] (m_commitment_some__commitment_Validate_2 y0) fun r K=>K (vb r) [] [] :=
 ent3 Tryz.call94 Tryz.func94 rfl fun X=>jsr<|jbx .s rfl<|fun b1=>jbx .s rfl<|fun b2=>jpc 1 rfl<|jot<|jsr<|jfa 0 rfl<|jlo 0 rfl rfl rfl<|jpc 1 rfl<|jca .s [1] [] c_slices_ContainsFunc_Commitment__commitment_some_1 rfl rfl rfl ⟨ck 0,⟨⟩⟩<|fun r1 _ k=>k<|jpc 1 rfl<|jot<|jxr<|
  jr1 rfl rfl (fun _ k=>k) [] ⟨⟩

theorem c_literal_Valid {qd : Prop} {y0 : T_Literal} : Con qd Tryz.prog 97 [.agg #[vb y0.1, vs y0.2]] [] [] (m_literal_Valid y0) fun r K=>K (vb r) [] [] :=
 ent3 Tryz.call97 Tryz.func97 rfl fun X=>jsr<|jbx .s rfl<|fun b1=>jpc 1 rfl<|jot<|jsr<|jfa 1 rfl<|jlo 0 rfl rfl rfl<|jcl c_literal_ValidName rfl ⟨⟩<|fun r1 _ k=>k<|jpc 1 rfl<|jot<|jxr<|jr1 rfl rfl (fun _ k=>k) [] ⟨⟩

theorem c_commitment_sound_1 {qd : Prop} {y0 : T_Literal} : Con qd Tryz.prog 137 [.agg #[vb y0.1, vs y0.2]] [] [] (m_commitment_sound_1 y0) fun r K=>K (vb r) [] [] :=
 ent3 Tryz.call137 Tryz.func137 rfl fun X=>jsr<|jbx .s rfl<|fun b1=>jpc 1 rfl<|jot<|jsr<|jla 0 2 rfl rfl rfl<|jcl c_literal_Valid rfl ⟨⟩<|fun r1 _ k=>k<|jpc 2 rfl<|jot<|jxr<|jr1 rfl rfl (fun _ k=>k) [] ⟨⟩

theorem c_slices_IndexFunc_Literal__commitment_sound_1 {qd : Prop} {y0 : List T_Literal} : Con qd Tryz.prog 149 [sv p1 y0 c1, .func (.func 137) #[] #[]] [] [Rl e_Literal p1 c1 y0] (m_slices_IndexFunc_Literal__commitment_sound_1 y0) fun r K=>K (vi r) [] [] :=
 ent3 Tryz.call149 Tryz.func149 rfl fun X=>jsr<|jpc 1 rfl<|jot<|jsq<|jsr<|jpc 3 rfl<|jot<|jbk<|jlp (fun s1 K=>K [(0, sv p1 y0 c1), (1, .func (.func 137) #[] #[]), (7, vi (len y0)), (8, vi s1)] [] [Rl e_Literal p1 c1 y0]) (gv (fun _ k=>k) [] ⟨gk 0,⟨⟩⟩)<|fun s1 _ k=>k<|jsr<|
  jpc 1 rfl<|jot<|jsq<|jif rfl (jsk<|jtn<|jsq<|jbk<|jsr<|jpc 2 rfl<|jot<|jsr<|jpc 3 rfl<|jix 0 rfl rfl rfl<|fun x1 b1 o1=>jld true o_Literal (gk 0) rfl<|jca .s [] [] c_commitment_sound_1 rfl rfl rfl ⟨⟩<|fun r1 _ k=>k<|jot<|jif rfl (jsr<|
  jpc 2 rfl<|jot<|jxr<|jbr<|jtr<|jlr<|jbr<|jtr<|jr1 rfl rfl (fun _ k=>k) [] ⟨⟩)<|jsk<|jbn<|jtn<|jrg<|jpc 2 rfl<|joe<|jln (gv (fun _ k=>k) [] ⟨gk 1,⟨⟩⟩))<|jxe<|jte<|jle<|jbh<|jtn<|jsr<|jpc 1 rfl<|jot<|jxr<|jr1 rfl rfl (fun _ k=>k) [] ⟨⟩

theorem c_slices_ContainsFunc_Literal__commitment_sound_1 {qd : Prop} {y0 : List T_Literal} : Con qd Tryz.prog 136 [sv p1 y0 c1, .func (.func 137) #[] #[]] [] [Rl e_Literal p1 c1 y0] (m_slices_ContainsFunc_Literal__commitment_sound_1 y0) fun r K=>K (vb r) [] [] :=
 ent3 Tryz.call136 Tryz.func136 rfl fun X=>jsr<|jpc 1 rfl<|jot<|jsr<|jpc 2 rfl<|jcl c_slices_IndexFunc_Literal__commitment_sound_1 rfl ⟨ck 0,⟨⟩⟩<|fun r1 _ k=>k<|jpc 2 rfl<|jot<|jxr<|jr1 rfl rfl (fun _ k=>k) [] ⟨⟩

theorem c_commitment_sound {qd : Prop} {y0 : List T_Literal} : Con qd Tryz.prog 98 [sv p1 y0 c1] [] [Rl e_Literal p1 c1 y0] (m_commitment_sound y0) fun r K=>K (vb r) [] [] :=
 ent3 Tryz.call98 Tryz.func98 rfl fun X=>jsr<|jpc 1 rfl<|jot<|jsr<|jpc 1 rfl<|jcl c_slices_ContainsFunc_Literal__commitment_sound_1 rfl ⟨ck 0,⟨⟩⟩<|fun r1 _ k=>k<|jpc 2 rfl<|jot<|jxr<|jr1 rfl rfl (fun _ k=>k) [] ⟨⟩

theorem c_commitment_Validate_3 {qd : Prop} {y0 : T_Commitment} : Con qd Tryz.prog 96 [.agg #[vb y0.1.1, vs y0.1.2, vb y0.2.1, vb y0.2.2.1, sv p1 y0.2.2.2 c1]] [] [Rl e_Literal p1 c1 y0.2.2.2] (m_commitment_Validate_3 y0) fun r K=>K (vb r) [] [] :=
 ent3 Tryz.call96 Tryz.func96 rfl fun X=>jsr<|jbx .s rfl<|fun b1=>jpc 1 rfl<|jot<|jjn (fun s1 K=>K [(2, vb s1)] [[]] []) (jrg<|jfa 0 rfl<|jla 0 2 rfl rfl rfl<|jcl c_literal_Valid rfl ⟨⟩<|fun r1 _ k=>k<|jpc 2 rfl<|jsg 7 rfl (jpc 4 rfl<|jpe (vb true)<|jpc 1 rfl<|joe<|
  jnn (gv (fun _ k=>k) [900] ⟨⟩))<|jfa 4 rfl<|jlo 0 rfl rfl rfl<|jcl c_commitment_sound rfl ⟨ck 0,⟨⟩⟩<|fun r2 _ k=>k<|jpc 1 rfl<|jpe (vb (!r2))<|jpc 1 rfl<|joe<|jnn (gv (fun _ k=>k) [900] ⟨⟩))<|fun s1 _ k=>k<|jxr<|
  jr1 rfl rfl (fun _ k=>k) [] ⟨⟩

theorem c_slices_IndexFunc_Commitment__commitment_Validate_3 {qd : Prop} {y0 : List T_Commitment} : Con qd Tryz.prog 148 [sv p1 y0 c1, .func (.func 96) #[] #[]] [] [Rl e_Commitment p1 c1 y0] (m_slices_IndexFunc_Commitment__commitment_Validate_3 y0) fun r K=>K (vi r) [] [] :=
 ent3 Tryz.call148 Tryz.func148 rfl fun X=>jsr<|jpc 1 rfl<|jot<|jsq<|jsr<|jpc 3 rfl<|jot<|jbk<|jlp (fun s1 K=>K [(0, sv p1 y0 c1), (1, .func (.func 96) #[] #[]), (7, vi (len y0)), (8, vi s1)] [] [Rl e_Commitment p1 c1 y0]) (gv (fun _ k=>k) [] ⟨gk 0,⟨⟩⟩)<|fun s1 _ k=>k<|jsr<|
  jpc 1 rfl<|jot<|jsq<|jif rfl (jsk<|jtn<|jsq<|jbk<|jsr<|jpc 2 rfl<|jot<|jsr<|jpc 3 rfl<|jix 0 rfl rfl rfl<|fun x1 b1 o1=>jld true o_Commitment (gk 0) rfl<|fun p2 c2=>jca .s [] [] c_commitment_Validate_3 rfl rfl rfl ⟨ck 0,⟨⟩⟩<|fun r1 _ k=>k<|
  jot<|jif rfl (jsr<|jpc 2 rfl<|jot<|jxr<|jbr<|jtr<|jlr<|jbr<|jtr<|jr1 rfl rfl (fun _ k=>k) [] ⟨⟩)<|jsk<|jbn<|jtn<|jrg<|jpc 2 rfl<|joe<|jln (gv (fun _ k=>k) [] ⟨gk 2,⟨⟩⟩))<|jxe<|jte<|jle<|jbh<|jtn<|jsr<|jpc 1 rfl<|jot<|jxr<|
  jr1 rfl rfl (fun _ k=>k) [] ⟨⟩

theorem c_slices_ContainsFunc_Commitment__commitment_Validate_3 {qd : Prop} {y0 : List T_Commitment} : Con qd Tryz.prog 135 [sv p1 y0 c1, .func (.func 96) #[] #[]] [] [Rl e_Commitment p1 c1 y0] (m_slices_ContainsFunc_Commitment__commitment_Validate_3 y0) fun r K=>K (vb r) [] [] :=
 ent3 Tryz.call135 Tryz.func135 rfl fun X=>jsr<|jpc 1 rfl<|jot<|jsr<|jpc 2 rfl<|jcl c_slices_IndexFunc_Commitment__commitment_Validate_3 rfl ⟨ck 0,⟨⟩⟩<|fun r1 _ k=>k<|jpc 2 rfl<|jot<|jxr<|jr1 rfl rfl (fun _ k=>k) [] ⟨⟩

theorem c_commitment_some_1__commitment_Validate_3 {qd : Prop} {y0 : List T_Commitment} : Con qd Tryz.prog 134 [sv p1 y0 c1, pt b1 0] [bx b1 130 [.func (.func 96) #[] #[]]] [Rl e_Commitment p1 c1 y0] (m_commitment_some_1__commitment_Validate_3 y0) fun r K=>K (vb r) [bx b1 130 [.func (.func 96) #[] #[]]] [] :=
 ent3 Tryz.call134 Tryz.func134 rfl fun X=>jsr<|jpc 1 rfl<|jot<|jsr<|jpc 1 rfl<|jlo 0 rfl rfl rfl<|jcl c_slices_ContainsFunc_Commitment__commitment_Validate_3 rfl ⟨ck 0,⟨⟩⟩<|fun r1 _ k=>k<|jpc 1 rfl<|jot<|jxr<|jr1 rfl rfl (fun _ k=>k) [0] ⟨⟩

theorem c_slices_IndexFunc_Commitment__commitment_some_1_2 {qd : Prop} {y0 : List (List T_Commitment)} : Con qd Tryz.prog 133 [sv p1 y0 c1, .func (.func 134) #[] #[pt b1 0]] [bx b1 130 [.func (.func 96) #[] #[]]] [Rl (eSlice e_Commitment) p1 c1 y0] (m_slices_IndexFunc_Commitment__commitment_some_1_2 y0) fun r K=>K (vi r) [bx b1 130 [.func (.func 96) #[] #[]]] [] :=
 ent3 Tryz.call133 Tryz.func133 rfl fun X=>jsr<|jpc 1 rfl<|jot<|jsq<|jsr<|jpc 3 rfl<|jot<|jbk<|
  jlp (fun s1 K=>K [(0, sv p1 y0 c1), (1, .func (.func 134) #[] #[pt b1 0]), (7, vi (len y0)), (8, vi s1)] [bx b1 130 [.func (.func 96) #[] #[]]] [Rl (eSlice e_Commitment) p1 c1 y0]) (gv (fun _ k=>k) [0] ⟨gk 0,⟨⟩⟩)<|fun s1 _ k=>k<|jsr<|
  jpc 1 rfl<|jot<|jsq<|jif rfl (jsk<|jtn<|jsq<|jbk<|jsr<|jpc 2 rfl<|jot<|jsr<|jpc 3 rfl<|jix 0 rfl rfl rfl<|fun x1 b2 o1=>jld false oL (gk 0) rfl<|fun p2 c2=>jca .s [0] [] c_commitment_some_1__commitment_Validate_3 rfl rfl rfl ⟨ck 0,⟨⟩⟩<|
  fun r1 _ k=>k<|jot<|jif rfl (jsr<|jpc 2 rfl<|jot<|jxr<|jbr<|jtr<|jlr<|jbr<|jtr<|jr1 rfl rfl (fun _ k=>k) [0] ⟨⟩)<|jsk<|jbn<|jtn<|jrg<|jpc 2 rfl<|joe<|jln (gv (fun _ k=>k) [0] ⟨gk 2,⟨⟩⟩))<|jxe<|jte<|jle<|jbh<|jtn<|jsr<|jpc 1 rfl<|jot<|jxr<|
  jr1 rfl rfl (fun _ k=>k) [0] ⟨⟩

theorem c_slices_ContainsFunc_Commitment__commitment_some_1_2 {qd : Prop} {y0 : List (List T_Commitment)} : Con qd Tryz.prog 92 [sv p1 y0 c1, .func (.func 134) #[] #[pt b1 0]] [bx b1 130 [.func (.func 96) #[] #[]]] [Rl (eSlice e_Commitment) p1 c1 y0] (m_slices_ContainsFunc_Commitment__commitment_some_1_2 y0) fun r K=>K (vb r) [bx b1 130 [.func (.func 96) #[] #[]]] [] :=
 ent3 Tryz.call92 Tryz.func92 rfl fun X=>jsr<|jpc 1 rfl<|jot<|jsr<|jpc 2 rfl<|jca .s [0] [] c_slices_IndexFunc_Commitment__commitment_some_1_2 rfl rfl rfl ⟨ck 0,⟨⟩⟩<|fun r1 _ k=>k<|jpc 2 rfl<|jot<|jxr<|jr1 rfl rfl (fun _ k=>k) [0] ⟨⟩

theorem c_commitment_some__commitment_Validate_3 {qd : Prop} {y0 : (List (List T_Commitment))} : Con qd Tryz.prog 94 [.agg #[sv p1 y0 c1], .func (.func 96) #[] #[]] [] [Rl (eSlice e_Commitment) p1 c1 y0] (m_commitment_some__commitment_Validate_3 y0) fun r K=>K (vb r) [] [] :=
 ent3 Tryz.call94 Tryz.func94 rfl fun X=>jsr<|jbx .s rfl<|fun b1=>jbx .s rfl<|fun b2=>jpc 1 rfl<|jot<|jsr<|jfa 0 rfl<|jlo 0 rfl rfl rfl<|jpc 1 rfl<|jca .s [1] [] c_slices_ContainsFunc_Commitment__commitment_some_1_2 rfl rfl rfl ⟨ck 0,⟨⟩⟩<|fun r1 _ k=>k<|jpc 1 rfl<|jot<|jxr<|
  jr1 rfl rfl (fun _ k=>k) [] ⟨⟩

theorem c_cmp_isNaN_string {qd : Prop} {y0 : Str} : Con qd Tryz.prog 158 [vs y0] [] [] (m_cmp_isNaN_string y0) fun r K=>K (vb r) [] [] :=
 ent3 Tryz.call158 Tryz.func158 rfl fun X=>jsr<|jpc 1 rfl<|jot<|jsr<|jpc 4 rfl<|jot<|jxr<|jr1 rfl rfl (fun _ k=>k) [] ⟨⟩

theorem c_cmp_Compare_string {qd : Prop} {y0 : Str} {y1 : Str} : Con qd Tryz.prog 150 [vs y0, vs y1] [] [] (m_cmp_Compare_string y0 y1) fun r K=>K (vi r) [] [] :=
 ent3 Tryz.call150 Tryz.func150 rfl fun X=>jsr<|jpc 1 rfl<|jot<|jsr<|jpc 1 rfl<|jcl c_cmp_isNaN_string rfl ⟨⟩<|fun r1 _ k=>k<|jpc 1 rfl<|jot<|jsr<|jpc 1 rfl<|jcl c_cmp_isNaN_string rfl ⟨⟩<|fun r2 _ k=>k<|jpc 1 rfl<|jot<|jsq<|jsr<|jpc 1 rfl<|jot<|jif rfl (jsq<|jsr<|jpc 1 rfl<|jot<|
  jif rfl (jsr<|jpc 1 rfl<|jot<|jxr<|jtr<|jtr<|jr1 rfl rfl (fun _ k=>k) [] ⟨⟩)<|jsk<|jtn<|jsr<|jpc 1 rfl<|jot<|jxr<|jtr<|jr1 rfl rfl (fun _ k=>k) [] ⟨⟩)<|jsk<|jtn<|jsq<|jsr<|jpc 1 rfl<|jot<|jif rfl (jsr<|jpc 1 rfl<|jot<|jxr<|jtr<|
  jr1 rfl rfl (fun _ k=>k) [] ⟨⟩)<|jsk<|jtn<|jsq<|jsr<|jpc 3 rfl<|jot<|jif rfl (jsr<|jpc 1 rfl<|jot<|jxr<|jtr<|jr1 rfl rfl (fun _ k=>k) [] ⟨⟩)<|jsk<|jtn<|jsq<|jsr<|jpc 3 rfl<|jot<|jif rfl (jsr<|jpc 1 rfl<|jot<|jxr<|jtr<|
  jr1 rfl rfl (fun _ k=>k) [] ⟨⟩)<|jsk<|jtn<|jsr<|jpc 1 rfl<|jot<|jxr<|jr1 rfl rfl (fun _ k=>k) [] ⟨⟩

theorem c_literal_Compare {qd : Prop} {y0 : T_Literal} {y1 : T_Literal} : Con qd Tryz.prog 138 [.agg #[vb y0.1, vs y0.2], .agg #[vb y1.1, vs y1.2]] [] [] (m_literal_Compare y0 y1) fun r K=>K (vi r) [] [] :=
 ent3 Tryz.call138 Tryz.func138 rfl fun X=>jsr<|jbx .s rfl<|fun b1=>jbx .s rfl<|fun b2=>jpc 1 rfl<|jot<|jsq<|jsr<|jfa 1 rfl<|jlo 0 rfl rfl rfl<|jfa 1 rfl<|jlo 1 rfl rfl rfl<|jcl c_cmp_Compare_string rfl ⟨⟩<|fun r1 _ k=>k<|jpc 1 rfl<|jot<|
  jjp (fun K=>K [(3, pt b2 0), (5, vi r1), (19, vb ((r1 != 0) || (y0.1 == y1.1)))] [[], bx b2 50 [vb y1.1, vs y1.2]] []) (jrg<|jpc 3 rfl<|jsp (b := r1 != 0) 13 rfl (fun hb1=>jpc 5 rfl<|jpe (vb true)<|joe<|
  jup 19 (vb ((r1 != 0) || (y0.1 == y1.1))) rfl (by rw [hb1]; rfl)<|jnn (gv (fun _ k=>k) [900,1] ⟨⟩))<|fun hb1=>jfa 0 rfl<|jlo 0 rfl rfl rfl<|jfa 0 rfl<|jlo 1 rfl rfl rfl<|jpe (vb (y0.1 == y1.1))<|jpe (vb (y0.1 == y1.1))<|joe<|
  jup 19 (vb ((r1 != 0) || (y0.1 == y1.1))) rfl (by rw [hb1]; rfl)<|jnn (gv (fun _ k=>k) [900,1] ⟨⟩))<|fun _ k=>k<|jif rfl (jsr<|jpc 2 rfl<|jot<|jxr<|jtr<|jr1 rfl rfl (fun _ k=>k) [] ⟨⟩)<|jsk<|jtn<|jsq<|jsr<|jfa 0 rfl<|jlo 1 rfl rfl rfl<|
  jot<|jif rfl (jsr<|jpc 1 rfl<|jot<|jxr<|jtr<|jr1 rfl rfl (fun _ k=>k) [] ⟨⟩)<|jsk<|jtn<|jsr<|jpc 1 rfl<|jot<|jxr<|jr1 rfl rfl (fun _ k=>k) [] ⟨⟩

theorem c_commitment_rising {qd : Prop} {y0 : List T_Literal} : Con qd Tryz.prog 100 [sv p1 y0 c1] [] [Rl e_Literal p1 c1 y0] (m_commitment_rising y0) fun r K=>K (vb r) [] [] :=
 ent3 Tryz.call100 Tryz.func100 rfl fun X=>jsr<|jpc 1 rfl<|jot<|jsq<|jsr<|jpc 1 rfl<|jot<|jbk<|jlp (fun s1 K=>K [(0, sv p1 y0 c1), (3, vi s1)] [] [Rl e_Literal p1 c1 y0]) (gv (fun _ k=>k) [] ⟨gk 0,⟨⟩⟩)<|fun s1 _ k=>k<|jsq<|jsr<|jpc 4 rfl<|jot<|jif rfl (jsk<|jtn<|jsq<|jbk<|
  jds [] [] 11<|jdc 8 [0,1,2] rfl<|jdi 3 0 rfl rfl rfl rfl<|fun x1 b1 o1=>jdl 4 true o_Literal rfl (gk 0) rfl<|jdc 4 [5,6] rfl<|jdi 7 1 rfl rfl rfl rfl<|fun x2 b2 o2=>jdl 8 true o_Literal rfl (gk 0) rfl<|jd1 9<|
  jca (.f rfl) [] [] c_literal_Compare rfl rfl rfl ⟨⟩<|fun r1 _ k=>k<|jdn<|jdc 0 [10] rfl<|jde<|jtn<|jif rfl (jsr<|jpc 1 rfl<|jot<|jxr<|jbr<|jtr<|jlr<|jbr<|jtr<|jr1 rfl rfl (fun _ k=>k) [] ⟨⟩)<|jsk<|jbn<|jtn<|jrg<|jpc 3 rfl<|joe<|
  jln (gv (fun _ k=>k) [] ⟨gk 2,⟨⟩⟩))<|jxe<|jte<|jle<|jbh<|jtn<|jsr<|jpc 1 rfl<|jot<|jxr<|jr1 rfl rfl (fun _ k=>k) [] ⟨⟩

theorem c_commitment_Validate_5 {qd : Prop} {y0 : T_Commitment} : Con qd Tryz.prog 102 [.agg #[vb y0.1.1, vs y0.1.2, vb y0.2.1, vb y0.2.2.1, sv p1 y0.2.2.2 c1]] [] [Rl e_Literal p1 c1 y0.2.2.2] (m_commitment_Validate_5 y0) fun r K=>K (vb r) [] [] :=
 ent3 Tryz.call102 Tryz.func102 rfl fun X=>jsr<|jbx .s rfl<|fun b1=>jpc 1 rfl<|jot<|jsr<|jfa 4 rfl<|jlo 0 rfl rfl rfl<|jcl c_commitment_rising rfl ⟨ck 0,⟨⟩⟩<|fun r1 _ k=>k<|jpc 2 rfl<|jot<|jxr<|jr1 rfl rfl (fun _ k=>k) [] ⟨⟩

theorem c_slices_IndexFunc_Commitment__commitment_Validate_5 {qd : Prop} {y0 : List T_Commitment} : Con qd Tryz.prog 148 [sv p1 y0 c1, .func (.func 102) #[] #[]] [] [Rl e_Commitment p1 c1 y0] (m_slices_IndexFunc_Commitment__commitment_Validate_5 y0) fun r K=>K (vi r) [] [] :=
 ent3 Tryz.call148 Tryz.func148 rfl fun X=>jsr<|jpc 1 rfl<|jot<|jsq<|jsr<|jpc 3 rfl<|jot<|jbk<|jlp (fun s1 K=>K [(0, sv p1 y0 c1), (1, .func (.func 102) #[] #[]), (7, vi (len y0)), (8, vi s1)] [] [Rl e_Commitment p1 c1 y0]) (gv (fun _ k=>k) [] ⟨gk 0,⟨⟩⟩)<|fun s1 _ k=>k<|jsr<|
  jpc 1 rfl<|jot<|jsq<|jif rfl (jsk<|jtn<|jsq<|jbk<|jsr<|jpc 2 rfl<|jot<|jsr<|jpc 3 rfl<|jix 0 rfl rfl rfl<|fun x1 b1 o1=>jld true o_Commitment (gk 0) rfl<|fun p2 c2=>jca .s [] [] c_commitment_Validate_5 rfl rfl rfl ⟨ck 0,⟨⟩⟩<|fun r1 _ k=>k<|
  jot<|jif rfl (jsr<|jpc 2 rfl<|jot<|jxr<|jbr<|jtr<|jlr<|jbr<|jtr<|jr1 rfl rfl (fun _ k=>k) [] ⟨⟩)<|jsk<|jbn<|jtn<|jrg<|jpc 2 rfl<|joe<|jln (gv (fun _ k=>k) [] ⟨gk 2,⟨⟩⟩))<|jxe<|jte<|jle<|jbh<|jtn<|jsr<|jpc 1 rfl<|jot<|jxr<|
  jr1 rfl rfl (fun _ k=>k) [] ⟨⟩

theorem c_slices_ContainsFunc_Commitment__commitment_Validate_5 {qd : Prop} {y0 : List T_Commitment} : Con qd Tryz.prog 135 [sv p1 y0 c1, .func (.func 102) #[] #[]] [] [Rl e_Commitment p1 c1 y0] (m_slices_ContainsFunc_Commitment__commitment_Validate_5 y0) fun r K=>K (vb r) [] [] :=
 ent3 Tryz.call135 Tryz.func135 rfl fun X=>jsr<|jpc 1 rfl<|jot<|jsr<|jpc 2 rfl<|jcl c_slices_IndexFunc_Commitment__commitment_Validate_5 rfl ⟨ck 0,⟨⟩⟩<|fun r1 _ k=>k<|jpc 2 rfl<|jot<|jxr<|jr1 rfl rfl (fun _ k=>k) [] ⟨⟩

theorem c_commitment_some_1__commitment_Validate_5 {qd : Prop} {y0 : List T_Commitment} : Con qd Tryz.prog 134 [sv p1 y0 c1, pt b1 0] [bx b1 130 [.func (.func 102) #[] #[]]] [Rl e_Commitment p1 c1 y0] (m_commitment_some_1__commitment_Validate_5 y0) fun r K=>K (vb r) [bx b1 130 [.func (.func 102) #[] #[]]] [] :=
 ent3 Tryz.call134 Tryz.func134 rfl fun X=>jsr<|jpc 1 rfl<|jot<|jsr<|jpc 1 rfl<|jlo 0 rfl rfl rfl<|jcl c_slices_ContainsFunc_Commitment__commitment_Validate_5 rfl ⟨ck 0,⟨⟩⟩<|fun r1 _ k=>k<|jpc 1 rfl<|jot<|jxr<|jr1 rfl rfl (fun _ k=>k) [0] ⟨⟩

theorem c_slices_IndexFunc_Commitment__commitment_some_1_3 {qd : Prop} {y0 : List (List T_Commitment)} : Con qd Tryz.prog 133 [sv p1 y0 c1, .func (.func 134) #[] #[pt b1 0]] [bx b1 130 [.func (.func 102) #[] #[]]] [Rl (eSlice e_Commitment) p1 c1 y0] (m_slices_IndexFunc_Commitment__commitment_some_1_3 y0) fun r K=>K (vi r) [bx b1 130 [.func (.func 102) #[] #[]]] [] :=
 ent3 Tryz.call133 Tryz.func133 rfl fun X=>jsr<|jpc 1 rfl<|jot<|jsq<|jsr<|jpc 3 rfl<|jot<|jbk<|
  jlp (fun s1 K=>K [(0, sv p1 y0 c1), (1, .func (.func 134) #[] #[pt b1 0]), (7, vi (len y0)), (8, vi s1)] [bx b1 130 [.func (.func 102) #[] #[]]] [Rl (eSlice e_Commitment) p1 c1 y0]) (gv (fun _ k=>k) [0] ⟨gk 0,⟨⟩⟩)<|fun s1 _ k=>k<|jsr<|
  jpc 1 rfl<|jot<|jsq<|jif rfl (jsk<|jtn<|jsq<|jbk<|jsr<|jpc 2 rfl<|jot<|jsr<|jpc 3 rfl<|jix 0 rfl rfl rfl<|fun x1 b2 o1=>jld false oL (gk 0) rfl<|fun p2 c2=>jca .s [0] [] c_commitment_some_1__commitment_Validate_5 rfl rfl rfl ⟨ck 0,⟨⟩⟩<|
  fun r1 _ k=>k<|jot<|jif rfl (jsr<|jpc 2 rfl<|jot<|jxr<|jbr<|jtr<|jlr<|jbr<|jtr<|jr1 rfl rfl (fun _ k=>k) [0] ⟨⟩)<|jsk<|jbn<|jtn<|jrg<|jpc 2 rfl<|joe<|jln (gv (fun _ k=>k) [0] ⟨gk 2,⟨⟩⟩))<|jxe<|jte<|jle<|jbh<|jtn<|jsr<|jpc 1 rfl<|jot<|jxr<|
  jr1 rfl rfl (fun _ k=>k) [0] ⟨⟩

theorem c_slices_ContainsFunc_Commitment__commitment_some_1_3 {qd : Prop} {y0 : List (List T_Commitment)} : Con qd Tryz.prog 92 [sv p1 y0 c1, .func (.func 134) #[] #[pt b1 0]] [bx b1 130 [.func (.func 102) #[] #[]]] [Rl (eSlice e_Commitment) p1 c1 y0] (m_slices_ContainsFunc_Commitment__commitment_some_1_3 y0) fun r K=>K (vb r) [bx b1 130 [.func (.func 102) #[] #[]]] [] :=
 ent3 Tryz.call92 Tryz.func92 rfl fun X=>jsr<|jpc 1 rfl<|jot<|jsr<|jpc 2 rfl<|jca .s [0] [] c_slices_IndexFunc_Commitment__commitment_some_1_3 rfl rfl rfl ⟨ck 0,⟨⟩⟩<|fun r1 _ k=>k<|jpc 2 rfl<|jot<|jxr<|jr1 rfl rfl (fun _ k=>k) [0] ⟨⟩

theorem c_commitment_some__commitment_Validate_5 {qd : Prop} {y0 : (List (List T_Commitment))} : Con qd Tryz.prog 94 [.agg #[sv p1 y0 c1], .func (.func 102) #[] #[]] [] [Rl (eSlice e_Commitment) p1 c1 y0] (m_commitment_some__commitment_Validate_5 y0) fun r K=>K (vb r) [] [] :=
 ent3 Tryz.call94 Tryz.func94 rfl fun X=>jsr<|jbx .s rfl<|fun b1=>jbx .s rfl<|fun b2=>jpc 1 rfl<|jot<|jsr<|jfa 0 rfl<|jlo 0 rfl rfl rfl<|jpc 1 rfl<|jca .s [1] [] c_slices_ContainsFunc_Commitment__commitment_some_1_3 rfl rfl rfl ⟨ck 0,⟨⟩⟩<|fun r1 _ k=>k<|jpc 1 rfl<|jot<|jxr<|
  jr1 rfl rfl (fun _ k=>k) [] ⟨⟩

theorem c_slices_Index_Literal {qd : Prop} {y0 : List T_Literal} {y1 : T_Literal} : Con qd Tryz.prog 139 [sv p1 y0 c1, .agg #[vb y1.1, vs y1.2]] [] [Rl e_Literal p1 c1 y0] (m_slices_Index_Literal y0 y1) fun r K=>K (vi r) [] [] :=
 ent3 Tryz.call139 Tryz.func139 rfl fun X=>jsr<|jbx .s rfl<|fun b1=>jpc 1 rfl<|jot<|jsq<|jsr<|jpc 3 rfl<|jot<|jbk<|jlp (fun s1 K=>K [(0, sv p1 y0 c1), (3, pt b1 0), (7, vi (len y0)), (8, vi s1)] [bx b1 50 [vb y1.1, vs y1.2]] [Rl e_Literal p1 c1 y0]) (gv (fun _ k=>k) [0] ⟨gk 0,⟨⟩⟩)<|
  fun s1 _ k=>k<|jsr<|jpc 1 rfl<|jot<|jsq<|jif rfl (jsk<|jtn<|jsq<|jbk<|jsr<|jpc 2 rfl<|jot<|jds [] [0] 6<|jda 0 0 2 rfl rfl rfl rfl<|jdc 3 [1,2] rfl<|jdi 3 0 rfl rfl rfl rfl<|fun x1 b2 o1=>jdl 4 true o_Literal rfl (gk 0) rfl<|
  jdp 5 (vb (y1 == x1)) rfl<|jde<|jtn<|jif rfl (jsr<|jpc 2 rfl<|jot<|jxr<|jbr<|jtr<|jlr<|jbr<|jtr<|jr1 rfl rfl (fun _ k=>k) [] ⟨⟩)<|jsk<|jbn<|jtn<|jrg<|jpc 2 rfl<|joe<|jln (gv (fun _ k=>k) [0] ⟨gk 1,⟨⟩⟩))<|jxe<|jte<|jle<|jbh<|jtn<|jsr<|
  jpc 1 rfl<|jot<|jxr<|jr1 rfl rfl (fun _ k=>k) [] ⟨⟩

theorem c_slices_Contains_Literal {qd : Prop} {y0 : List T_Literal} {y1 : T_Literal} : Con qd Tryz.prog 104 [sv p1 y0 c1, .agg #[vb y1.1, vs y1.2]] [] [Rl e_Literal p1 c1 y0] (m_slices_Contains_Literal y0 y1) fun r K=>K (vb r) [] [] :=
 ent3 Tryz.call104 Tryz.func104 rfl fun X=>jsr<|jbx .s rfl<|fun b1=>jpc 1 rfl<|jot<|jsr<|jpc 1 rfl<|jla 0 2 rfl rfl rfl<|jcl c_slices_Index_Literal rfl ⟨ck 0,⟨⟩⟩<|fun r1 _ k=>k<|jpc 2 rfl<|jot<|jxr<|jr1 rfl rfl (fun _ k=>k) [] ⟨⟩

theorem c_commitment_Validate_6 {qd : Prop} {y0 : T_Commitment} : Con qd Tryz.prog 103 [.agg #[vb y0.1.1, vs y0.1.2, vb y0.2.1, vb y0.2.2.1, sv p1 y0.2.2.2 c1]] [] [Rl e_Literal p1 c1 y0.2.2.2] (m_commitment_Validate_6 y0) fun r K=>K (vb r) [] [] :=
 ent3 Tryz.call103 Tryz.func103 rfl fun X=>jsr<|jbx .s rfl<|fun b1=>jpc 1 rfl<|jot<|jjn (fun s1 K=>K [(2, vb s1)] [[]] []) (jrg<|jfa 2 rfl<|jlo 0 rfl rfl rfl<|jpc 1 rfl<|jsg 5 rfl (jpc 4 rfl<|jpe (vb true)<|jpc 1 rfl<|jfa 3 rfl<|jlo 0 rfl rfl rfl<|jpe (vb y0.2.2.1)<|jpc 1 rfl<|
  jsg 15 rfl (jpc 8 rfl<|jpe (vb true)<|jpc 6 rfl<|jpe (vb true)<|jpc 1 rfl<|joe<|jnn (gv (fun _ k=>k) [900] ⟨⟩))<|jfa 2 rfl<|jlo 0 rfl rfl rfl<|jpc 1 rfl<|jsg 18 rfl (jfa 4 rfl<|jlo 0 rfl rfl rfl<|jpc 2 rfl<|
  jpe (vb (decide (0 < (len y0.2.2.2))))<|jpe (vb (decide (0 < (len y0.2.2.2))))<|jpc 1 rfl<|jsg 25 rfl (jpc 5 rfl<|jpe (vb true)<|jpc 1 rfl<|joe<|jnn (gv (fun _ k=>k) [900] ⟨⟩))<|jfa 4 rfl<|jlo 0 rfl rfl rfl<|jfa 0 rfl<|jla 0 2 rfl rfl rfl<|
  jcl c_slices_Contains_Literal rfl ⟨ck 0,⟨⟩⟩<|fun r1 _ k=>k<|jpe (vb r1)<|jpc 1 rfl<|joe<|jnn (gv (fun _ k=>k) [900] ⟨⟩))<|jpc 4 rfl<|jpe (vb false)<|jpe (vb false)<|jpc 1 rfl<|jfa 4 rfl<|jlo 0 rfl rfl rfl<|jfa 0 rfl<|jla 0 2 rfl rfl rfl<|
  jcl c_slices_Contains_Literal rfl ⟨ck 0,⟨⟩⟩<|fun r2 _ k=>k<|jpe (vb r2)<|jpc 1 rfl<|joe<|jnn (gv (fun _ k=>k) [900] ⟨⟩))<|jfa 4 rfl<|jlo 0 rfl rfl rfl<|jpc 2 rfl<|jpe (vb (decide (0 < (len y0.2.2.2))))<|jpc 1 rfl<|jsg 11 rfl (jfa 3 rfl<|
  jlo 0 rfl rfl rfl<|jpe (vb y0.2.2.1)<|jpc 1 rfl<|jsg 15 rfl (jpc 8 rfl<|jpe (vb true)<|jpc 6 rfl<|jpe (vb true)<|jpc 1 rfl<|joe<|jnn (gv (fun _ k=>k) [900] ⟨⟩))<|jfa 2 rfl<|jlo 0 rfl rfl rfl<|jpc 1 rfl<|jsg 18 rfl (jfa 4 rfl<|
  jlo 0 rfl rfl rfl<|jpc 2 rfl<|jpe (vb (decide (0 < (len y0.2.2.2))))<|jpe (vb (decide (0 < (len y0.2.2.2))))<|jpc 1 rfl<|jsg 25 rfl (jpc 5 rfl<|jpe (vb true)<|jpc 1 rfl<|joe<|jnn (gv (fun _ k=>k) [900] ⟨⟩))<|jfa 4 rfl<|jlo 0 rfl rfl rfl<|
  jfa 0 rfl<|jla 0 2 rfl rfl rfl<|jcl c_slices_Contains_Literal rfl ⟨ck 0,⟨⟩⟩<|fun r3 _ k=>k<|jpe (vb r3)<|jpc 1 rfl<|joe<|jnn (gv (fun _ k=>k) [900] ⟨⟩))<|jpc 4 rfl<|jpe (vb false)<|jpe (vb false)<|jpc 1 rfl<|jfa 4 rfl<|jlo 0 rfl rfl rfl<|
  jfa 0 rfl<|jla 0 2 rfl rfl rfl<|jcl c_slices_Contains_Literal rfl ⟨ck 0,⟨⟩⟩<|fun r4 _ k=>k<|jpe (vb r4)<|jpc 1 rfl<|joe<|jnn (gv (fun _ k=>k) [900] ⟨⟩))<|jpc 2 rfl<|jpe (vb false)<|jpc 1 rfl<|jfa 2 rfl<|jlo 0 rfl rfl rfl<|jpc 1 rfl<|
  jsg 18 rfl (jfa 4 rfl<|jlo 0 rfl rfl rfl<|jpc 2 rfl<|jpe (vb (decide (0 < (len y0.2.2.2))))<|jpe (vb (decide (0 < (len y0.2.2.2))))<|jpc 1 rfl<|jsg 25 rfl (jpc 5 rfl<|jpe (vb true)<|jpc 1 rfl<|joe<|jnn (gv (fun _ k=>k) [900] ⟨⟩))<|
  jfa 4 rfl<|jlo 0 rfl rfl rfl<|jfa 0 rfl<|jla 0 2 rfl rfl rfl<|jcl c_slices_Contains_Literal rfl ⟨ck 0,⟨⟩⟩<|fun r5 _ k=>k<|jpe (vb r5)<|jpc 1 rfl<|joe<|jnn (gv (fun _ k=>k) [900] ⟨⟩))<|jpc 4 rfl<|jpe (vb false)<|jpe (vb false)<|jpc 1 rfl<|
  jfa 4 rfl<|jlo 0 rfl rfl rfl<|jfa 0 rfl<|jla 0 2 rfl rfl rfl<|jcl c_slices_Contains_Literal rfl ⟨ck 0,⟨⟩⟩<|fun r6 _ k=>k<|jpe (vb r6)<|jpc 1 rfl<|joe<|jnn (gv (fun _ k=>k) [900] ⟨⟩))<|fun s1 _ k=>k<|jxr<|jr1 rfl rfl (fun _ k=>k) [] ⟨⟩

theorem c_slices_IndexFunc_Commitment__commitment_Validate_6 {qd : Prop} {y0 : List T_Commitment} : Con qd Tryz.prog 148 [sv p1 y0 c1, .func (.func 103) #[] #[]] [] [Rl e_Commitment p1 c1 y0] (m_slices_IndexFunc_Commitment__commitment_Validate_6 y0) fun r K=>K (vi r) [] [] :=
 ent3 Tryz.call148 Tryz.func148 rfl fun X=>jsr<|jpc 1 rfl<|jot<|jsq<|jsr<|jpc 3 rfl<|jot<|jbk<|jlp (fun s1 K=>K [(0, sv p1 y0 c1), (1, .func (.func 103) #[] #[]), (7, vi (len y0)), (8, vi s1)] [] [Rl e_Commitment p1 c1 y0]) (gv (fun _ k=>k) [] ⟨gk 0,⟨⟩⟩)<|fun s1 _ k=>k<|jsr<|
  jpc 1 rfl<|jot<|jsq<|jif rfl (jsk<|jtn<|jsq<|jbk<|jsr<|jpc 2 rfl<|jot<|jsr<|jpc 3 rfl<|jix 0 rfl rfl rfl<|fun x1 b1 o1=>jld true o_Commitment (gk 0) rfl<|fun p2 c2=>jca .s [] [] c_commitment_Validate_6 rfl rfl rfl ⟨ck 0,⟨⟩⟩<|fun r1 _ k=>k<|
  jot<|jif rfl (jsr<|jpc 2 rfl<|jot<|jxr<|jbr<|jtr<|jlr<|jbr<|jtr<|jr1 rfl rfl (fun _ k=>k) [] ⟨⟩)<|jsk<|jbn<|jtn<|jrg<|jpc 2 rfl<|joe<|jln (gv (fun _ k=>k) [] ⟨gk 2,⟨⟩⟩))<|jxe<|jte<|jle<|jbh<|jtn<|jsr<|jpc 1 rfl<|jot<|jxr<|
  jr1 rfl rfl (fun _ k=>k) [] ⟨⟩

theorem c_slices_ContainsFunc_Commitment__commitment_Validate_6 {qd : Prop} {y0 : List T_Commitment} : Con qd Tryz.prog 135 [sv p1 y0 c1, .func (.func 103) #[] #[]] [] [Rl e_Commitment p1 c1 y0] (m_slices_ContainsFunc_Commitment__commitment_Validate_6 y0) fun r K=>K (vb r) [] [] :=
 ent3 Tryz.call135 Tryz.func135 rfl fun X=>jsr<|jpc 1 rfl<|jot<|jsr<|jpc 2 rfl<|jcl c_slices_IndexFunc_Commitment__commitment_Validate_6 rfl ⟨ck 0,⟨⟩⟩<|fun r1 _ k=>k<|jpc 2 rfl<|jot<|jxr<|jr1 rfl rfl (fun _ k=>k) [] ⟨⟩

theorem c_commitment_some_1__commitment_Validate_6 {qd : Prop} {y0 : List T_Commitment} : Con qd Tryz.prog 134 [sv p1 y0 c1, pt b1 0] [bx b1 130 [.func (.func 103) #[] #[]]] [Rl e_Commitment p1 c1 y0] (m_commitment_some_1__commitment_Validate_6 y0) fun r K=>K (vb r) [bx b1 130 [.func (.func 103) #[] #[]]] [] :=
 ent3 Tryz.call134 Tryz.func134 rfl fun X=>jsr<|jpc 1 rfl<|jot<|jsr<|jpc 1 rfl<|jlo 0 rfl rfl rfl<|jcl c_slices_ContainsFunc_Commitment__commitment_Validate_6 rfl ⟨ck 0,⟨⟩⟩<|fun r1 _ k=>k<|jpc 1 rfl<|jot<|jxr<|jr1 rfl rfl (fun _ k=>k) [0] ⟨⟩

theorem c_slices_IndexFunc_Commitment__commitment_some_1_4 {qd : Prop} {y0 : List (List T_Commitment)} : Con qd Tryz.prog 133 [sv p1 y0 c1, .func (.func 134) #[] #[pt b1 0]] [bx b1 130 [.func (.func 103) #[] #[]]] [Rl (eSlice e_Commitment) p1 c1 y0] (m_slices_IndexFunc_Commitment__commitment_some_1_4 y0) fun r K=>K (vi r) [bx b1 130 [.func (.func 103) #[] #[]]] [] :=
 ent3 Tryz.call133 Tryz.func133 rfl fun X=>jsr<|jpc 1 rfl<|jot<|jsq<|jsr<|jpc 3 rfl<|jot<|jbk<|
  jlp (fun s1 K=>K [(0, sv p1 y0 c1), (1, .func (.func 134) #[] #[pt b1 0]), (7, vi (len y0)), (8, vi s1)] [bx b1 130 [.func (.func 103) #[] #[]]] [Rl (eSlice e_Commitment) p1 c1 y0]) (gv (fun _ k=>k) [0] ⟨gk 0,⟨⟩⟩)<|fun s1 _ k=>k<|jsr<|
  jpc 1 rfl<|jot<|jsq<|jif rfl (jsk<|jtn<|jsq<|jbk<|jsr<|jpc 2 rfl<|jot<|jsr<|jpc 3 rfl<|jix 0 rfl rfl rfl<|fun x1 b2 o1=>jld false oL (gk 0) rfl<|fun p2 c2=>jca .s [0] [] c_commitment_some_1__commitment_Validate_6 rfl rfl rfl ⟨ck 0,⟨⟩⟩<|
  fun r1 _ k=>k<|jot<|jif rfl (jsr<|jpc 2 rfl<|jot<|jxr<|jbr<|jtr<|jlr<|jbr<|jtr<|jr1 rfl rfl (fun _ k=>k) [0] ⟨⟩)<|jsk<|jbn<|jtn<|jrg<|jpc 2 rfl<|joe<|jln (gv (fun _ k=>k) [0] ⟨gk 2,⟨⟩⟩))<|jxe<|jte<|jle<|jbh<|jtn<|jsr<|jpc 1 rfl<|jot<|jxr<|
  jr1 rfl rfl (fun _ k=>k) [0] ⟨⟩

theorem c_slices_ContainsFunc_Commitment__commitment_some_1_4 {qd : Prop} {y0 : List (List T_Commitment)} : Con qd Tryz.prog 92 [sv p1 y0 c1, .func (.func 134) #[] #[pt b1 0]] [bx b1 130 [.func (.func 103) #[] #[]]] [Rl (eSlice e_Commitment) p1 c1 y0] (m_slices_ContainsFunc_Commitment__commitment_some_1_4 y0) fun r K=>K (vb r) [bx b1 130 [.func (.func 103) #[] #[]]] [] :=
 ent3 Tryz.call92 Tryz.func92 rfl fun X=>jsr<|jpc 1 rfl<|jot<|jsr<|jpc 2 rfl<|jca .s [0] [] c_slices_IndexFunc_Commitment__commitment_some_1_4 rfl rfl rfl ⟨ck 0,⟨⟩⟩<|fun r1 _ k=>k<|jpc 2 rfl<|jot<|jxr<|jr1 rfl rfl (fun _ k=>k) [0] ⟨⟩

theorem c_commitment_some__commitment_Validate_6 {qd : Prop} {y0 : (List (List T_Commitment))} : Con qd Tryz.prog 94 [.agg #[sv p1 y0 c1], .func (.func 103) #[] #[]] [] [Rl (eSlice e_Commitment) p1 c1 y0] (m_commitment_some__commitment_Validate_6 y0) fun r K=>K (vb r) [] [] :=
 ent3 Tryz.call94 Tryz.func94 rfl fun X=>jsr<|jbx .s rfl<|fun b1=>jbx .s rfl<|fun b2=>jpc 1 rfl<|jot<|jsr<|jfa 0 rfl<|jlo 0 rfl rfl rfl<|jpc 1 rfl<|jca .s [1] [] c_slices_ContainsFunc_Commitment__commitment_some_1_4 rfl rfl rfl ⟨ck 0,⟨⟩⟩<|fun r1 _ k=>k<|jpc 1 rfl<|jot<|jxr<|
  jr1 rfl rfl (fun _ k=>k) [] ⟨⟩

theorem c_commitment_Validate_1 {qd : Prop} {y0 : List T_Commitment} : Con qd Tryz.prog 93 [sv p1 y0 c1] [] [Rl e_Commitment p1 c1 y0] (m_commitment_Validate_1 y0) fun r K=>K (vb r) [] [] :=
 ent3 Tryz.call93 Tryz.func93 rfl fun X=>jsr<|jpc 1 rfl<|jot<|jsr<|jpc 4 rfl<|jot<|jxr<|jr1 rfl rfl (fun _ k=>k) [] ⟨⟩

theorem c_slices_IndexFunc_Commitment__commitment_Validate_1 {qd : Prop} {y0 : List (List T_Commitment)} : Con qd Tryz.prog 133 [sv p1 y0 c1, .func (.func 93) #[] #[]] [] [Rl (eSlice e_Commitment) p1 c1 y0] (m_slices_IndexFunc_Commitment__commitment_Validate_1 y0) fun r K=>K (vi r) [] [] :=
 ent3 Tryz.call133 Tryz.func133 rfl fun X=>jsr<|jpc 1 rfl<|jot<|jsq<|jsr<|jpc 3 rfl<|jot<|jbk<|jlp (fun s1 K=>K [(0, sv p1 y0 c1), (1, .func (.func 93) #[] #[]), (7, vi (len y0)), (8, vi s1)] [] [Rl (eSlice e_Commitment) p1 c1 y0]) (gv (fun _ k=>k) [] ⟨gk 0,⟨⟩⟩)<|fun s1 _ k=>k<|
  jsr<|jpc 1 rfl<|jot<|jsq<|jif rfl (jsk<|jtn<|jsq<|jbk<|jsr<|jpc 2 rfl<|jot<|jsr<|jpc 3 rfl<|jix 0 rfl rfl rfl<|fun x1 b1 o1=>jld false oL (gk 0) rfl<|fun p2 c2=>jca .s [] [] c_commitment_Validate_1 rfl rfl rfl ⟨ck 0,⟨⟩⟩<|fun r1 _ k=>k<|
  jot<|jif rfl (jsr<|jpc 2 rfl<|jot<|jxr<|jbr<|jtr<|jlr<|jbr<|jtr<|jr1 rfl rfl (fun _ k=>k) [] ⟨⟩)<|jsk<|jbn<|jtn<|jrg<|jpc 2 rfl<|joe<|jln (gv (fun _ k=>k) [] ⟨gk 2,⟨⟩⟩))<|jxe<|jte<|jle<|jbh<|jtn<|jsr<|jpc 1 rfl<|jot<|jxr<|
  jr1 rfl rfl (fun _ k=>k) [] ⟨⟩

theorem c_slices_ContainsFunc_Commitment__commitment_Validate_1 {qd : Prop} {y0 : List (List T_Commitment)} : Con qd Tryz.prog 92 [sv p1 y0 c1, .func (.func 93) #[] #[]] [] [Rl (eSlice e_Commitment) p1 c1 y0] (m_slices_ContainsFunc_Commitment__commitment_Validate_1 y0) fun r K=>K (vb r) [] [] :=
 ent3 Tryz.call92 Tryz.func92 rfl fun X=>jsr<|jpc 1 rfl<|jot<|jsr<|jpc 2 rfl<|jcl c_slices_IndexFunc_Commitment__commitment_Validate_1 rfl ⟨ck 0,⟨⟩⟩<|fun r1 _ k=>k<|jpc 2 rfl<|jot<|jxr<|jr1 rfl rfl (fun _ k=>k) [] ⟨⟩

theorem c_commitment_claims {qd : Prop} {y0 : List T_Commitment} : Con qd Tryz.prog 101 [sv p1 y0 c1] [] [Rl e_Commitment p1 c1 y0] (m_commitment_claims y0) fun r K=>∀ p2 c2,K (sv p2 r c2) [] [Rl e_Literal p2 c2 r] :=
 ent3 Tryz.call101 Tryz.func101 rfl fun X=>jsr<|jpc 1 rfl<|jot<|jsr<|jpc 1 rfl<|jro e_Literal 50<|jot<|jsq<|jsr<|jpc 3 rfl<|jot<|jbk<|
  jlp (fun s1 K=>∀ p2 c2 r_1,K [(3, sv p2 s1.1 c2), (6, sv p1 y0 c1), (7, vi (len y0)), (8, vi s1.2)] [r_1] [Al e_Literal 50 r_1 p2 c2 s1.1, Rl e_Commitment p1 c1 y0]) (gv (fun _ k=>k none 0 []) [0] ⟨gk 0,gk 1,⟨⟩⟩)<|fun s1 _ k p2 c2 r_1=>k<|
  jsr<|jpc 1 rfl<|jot<|jsq<|jif rfl (jsk<|jtn<|jsq<|jbk<|jsr<|jix 1 rfl rfl rfl<|fun x1 b1 o1=>jld true o_Commitment (gk 0) rfl<|fun p3 c3=>jal .s (.agg #[vb false, vs [], vb false, vb false, .slice none 0 0])<|fun b2=>jso .s 1 rfl rfl rfl<|
  jot<|jrg<|jpc 1 rfl<|jfa 0 rfl<|jla 1 2 rfl rfl rfl<|jbs .s (e := e_Literal) 50 [vb x1.1.1, vs x1.1.2] ([x1.1] : List T_Literal) (rC (vP vB vS) rN)<|fun p4 c4=>jar .s 0 3 rfl (gk 0) rfl rfl<|fun x2 r_2 p5 c5=>jpc 1 rfl<|joe<|jbn<|jtn<|jrg<|
  jpc 2 rfl<|joe<|jln (gv (fun _ k=>k p5 c5 r_2) [0] ⟨gk 0,gk 5,⟨⟩⟩))<|jxe<|jte<|jle<|jbh<|jtn<|jsr<|jpc 2 rfl<|jot<|jxr<|jsh 0 0 rfl rfl<|jr1 rfl rfl (fun _ k=>k p2 c2) [] ⟨gk 0,⟨⟩⟩

theorem c_commitment_Validate_4 {qd : Prop} {y0 : List T_Commitment} : Con qd Tryz.prog 99 [sv p1 y0 c1] [] [Rl e_Commitment p1 c1 y0] (m_commitment_Validate_4 y0) fun r K=>K (vb r) [] [] :=
 ent3 Tryz.call99 Tryz.func99 rfl fun X=>jsr<|jpc 1 rfl<|jot<|jsr<|jpc 1 rfl<|jcl c_commitment_claims rfl ⟨ck 0,⟨⟩⟩<|fun r1 _ k p2 c2=>k<|jcl c_commitment_rising rfl ⟨ck 0,⟨⟩⟩<|fun r2 _ k=>k<|jpc 2 rfl<|jot<|jxr<|jr1 rfl rfl (fun _ k=>k) [] ⟨⟩

theorem c_slices_IndexFunc_Commitment__commitment_Validate_4 {qd : Prop} {y0 : List (List T_Commitment)} : Con qd Tryz.prog 133 [sv p1 y0 c1, .func (.func 99) #[] #[]] [] [Rl (eSlice e_Commitment) p1 c1 y0] (m_slices_IndexFunc_Commitment__commitment_Validate_4 y0) fun r K=>K (vi r) [] [] :=
 ent3 Tryz.call133 Tryz.func133 rfl fun X=>jsr<|jpc 1 rfl<|jot<|jsq<|jsr<|jpc 3 rfl<|jot<|jbk<|jlp (fun s1 K=>K [(0, sv p1 y0 c1), (1, .func (.func 99) #[] #[]), (7, vi (len y0)), (8, vi s1)] [] [Rl (eSlice e_Commitment) p1 c1 y0]) (gv (fun _ k=>k) [] ⟨gk 0,⟨⟩⟩)<|fun s1 _ k=>k<|
  jsr<|jpc 1 rfl<|jot<|jsq<|jif rfl (jsk<|jtn<|jsq<|jbk<|jsr<|jpc 2 rfl<|jot<|jsr<|jpc 3 rfl<|jix 0 rfl rfl rfl<|fun x1 b1 o1=>jld false oL (gk 0) rfl<|fun p2 c2=>jca .s [] [] c_commitment_Validate_4 rfl rfl rfl ⟨ck 0,⟨⟩⟩<|fun r1 _ k=>k<|
  jot<|jif rfl (jsr<|jpc 2 rfl<|jot<|jxr<|jbr<|jtr<|jlr<|jbr<|jtr<|jr1 rfl rfl (fun _ k=>k) [] ⟨⟩)<|jsk<|jbn<|jtn<|jrg<|jpc 2 rfl<|joe<|jln (gv (fun _ k=>k) [] ⟨gk 2,⟨⟩⟩))<|jxe<|jte<|jle<|jbh<|jtn<|jsr<|jpc 1 rfl<|jot<|jxr<|
  jr1 rfl rfl (fun _ k=>k) [] ⟨⟩

theorem c_slices_ContainsFunc_Commitment__commitment_Validate_4 {qd : Prop} {y0 : List (List T_Commitment)} : Con qd Tryz.prog 92 [sv p1 y0 c1, .func (.func 99) #[] #[]] [] [Rl (eSlice e_Commitment) p1 c1 y0] (m_slices_ContainsFunc_Commitment__commitment_Validate_4 y0) fun r K=>K (vb r) [] [] :=
 ent3 Tryz.call92 Tryz.func92 rfl fun X=>jsr<|jpc 1 rfl<|jot<|jsr<|jpc 2 rfl<|jcl c_slices_IndexFunc_Commitment__commitment_Validate_4 rfl ⟨ck 0,⟨⟩⟩<|fun r1 _ k=>k<|jpc 2 rfl<|jot<|jxr<|jr1 rfl rfl (fun _ k=>k) [] ⟨⟩

theorem c_literal_Complement {qd : Prop} {y0 : T_Literal} : Con qd Tryz.prog 140 [.agg #[vb y0.1, vs y0.2]] [] [] (m_literal_Complement y0) fun r K=>K (.agg #[vb r.1, vs r.2]) [] [] :=
 ent3 Tryz.call140 Tryz.func140 rfl fun X=>jsr<|jbx .s rfl<|fun b1=>jal .s (.agg #[vb false, vs []])<|fun b2=>jot<|jsr<|jfa 0 rfl<|jlo 0 rfl rfl rfl<|jpc 1 rfl<|jfa 0 rfl<|jso .s 0 rfl rfl rfl<|jot<|jsr<|jla 0 2 rfl rfl rfl<|jso .s 1 rfl rfl rfl<|jot<|jxr<|
  jrg' rfl (lC 1 (.agg #[vb (!y0.1), vs y0.2]) rfl rfl lN) (fun _ k=>k) [] ⟨⟩

theorem c_literal_Consistent {qd : Prop} {y0 : List T_Literal} : Con qd Tryz.prog 106 [sv p1 y0 c1] [] [Rl e_Literal p1 c1 y0] (m_literal_Consistent y0) fun r K=>K (vb r) [] [] :=
 ent3 Tryz.call106 Tryz.func106 rfl fun X=>jsr<|jpc 1 rfl<|jot<|jsr<|jpc 2 rfl<|jmm .s (fun x : T_Literal => .agg #[vb x.1, vs x.2]) (fun x : Unit => .agg #[]) Tryz.key158 rfl (.inr ⟨_, _, rfl⟩)<|fun b1 r_1=>jpc 1 rfl<|jot<|jsq<|jsr<|jpc 3 rfl<|jot<|jbk<|
  jlp (fun s1 K=>∀ r_2,K [(3, .map (some b1)), (11, sv p1 y0 c1), (12, vi (len y0)), (13, vi s1.2)] [r_2] [Ma (fun x : T_Literal => .agg #[vb x.1, vs x.2]) (fun x : Unit => .agg #[]) r_2 b1 s1.1, Rl e_Literal p1 c1 y0]) (gv (fun _ k=>k r_1) [0] ⟨gk 0,gk 1,⟨⟩⟩)<|
  fun s1 _ k r_2=>k<|jsr<|jpc 1 rfl<|jot<|jsq<|jif rfl (jsk<|jtn<|jsq<|jbk<|jsr<|jix 1 rfl rfl rfl<|fun x1 b2 o1=>jld true o_Literal (gk 0) rfl<|jal .s (.agg #[vb false, vs []])<|fun b3=>jso .s 1 rfl rfl rfl<|jot<|jsr<|jpc 1 rfl<|
  jla 1 2 rfl rfl rfl<|jpe (.agg #[])<|jmp .s (k := x1) (v := ()) 0 1 Tryz.key158 rfl rfl rfl rfl<|fun r_3=>jot<|jsr<|jpc 1 rfl<|jla 1 2 rfl rfl rfl<|jcl c_literal_Complement rfl ⟨⟩<|fun r1 _ k=>k<|
  jmG .s (k := r1) 0 0 () Tryz.key158 rfl rfl rfl<|jpc 3 rfl<|jal .s (.agg #[])<|fun b4=>jso .s 2 rfl rfl rfl<|jpc 1 rfl<|jot<|jsr<|jpc 1 rfl<|jot<|jif rfl (jsr<|jpc 1 rfl<|jot<|jxr<|jbr<|jtr<|jlr<|jbr<|jtr<|jr1 rfl rfl (fun _ k=>k) [] ⟨⟩)<|
  jsk<|jbn<|jtn<|jrg<|jpc 2 rfl<|joe<|jln (gv (fun _ k=>k r_3) [0] ⟨gk 0,gk 3,⟨⟩⟩))<|jxe<|jte<|jle<|jbh<|jtn<|jsr<|jpc 1 rfl<|jot<|jxr<|jr1 rfl rfl (fun _ k=>k) [] ⟨⟩

theorem c_commitment_Validate_7 {qd : Prop} {y0 : List T_Commitment} : Con qd Tryz.prog 105 [sv p1 y0 c1] [] [Rl e_Commitment p1 c1 y0] (m_commitment_Validate_7 y0) fun r K=>K (vb r) [] [] :=
 ent3 Tryz.call105 Tryz.func105 rfl fun X=>jsr<|jpc 1 rfl<|jot<|jsr<|jpc 1 rfl<|jcl c_commitment_claims rfl ⟨ck 0,⟨⟩⟩<|fun r1 _ k p2 c2=>k<|jcl c_literal_Consistent rfl ⟨ck 0,⟨⟩⟩<|fun r2 _ k=>k<|jpc 2 rfl<|jot<|jxr<|jr1 rfl rfl (fun _ k=>k) [] ⟨⟩

theorem c_slices_IndexFunc_Commitment__commitment_Validate_7 {qd : Prop} {y0 : List (List T_Commitment)} : Con qd Tryz.prog 133 [sv p1 y0 c1, .func (.func 105) #[] #[]] [] [Rl (eSlice e_Commitment) p1 c1 y0] (m_slices_IndexFunc_Commitment__commitment_Validate_7 y0) fun r K=>K (vi r) [] [] :=
 ent3 Tryz.call133 Tryz.func133 rfl fun X=>jsr<|jpc 1 rfl<|jot<|jsq<|jsr<|jpc 3 rfl<|jot<|jbk<|jlp (fun s1 K=>K [(0, sv p1 y0 c1), (1, .func (.func 105) #[] #[]), (7, vi (len y0)), (8, vi s1)] [] [Rl (eSlice e_Commitment) p1 c1 y0]) (gv (fun _ k=>k) [] ⟨gk 0,⟨⟩⟩)<|fun s1 _ k=>k<|
  jsr<|jpc 1 rfl<|jot<|jsq<|jif rfl (jsk<|jtn<|jsq<|jbk<|jsr<|jpc 2 rfl<|jot<|jsr<|jpc 3 rfl<|jix 0 rfl rfl rfl<|fun x1 b1 o1=>jld false oL (gk 0) rfl<|fun p2 c2=>jca .s [] [] c_commitment_Validate_7 rfl rfl rfl ⟨ck 0,⟨⟩⟩<|fun r1 _ k=>k<|
  jot<|jif rfl (jsr<|jpc 2 rfl<|jot<|jxr<|jbr<|jtr<|jlr<|jbr<|jtr<|jr1 rfl rfl (fun _ k=>k) [] ⟨⟩)<|jsk<|jbn<|jtn<|jrg<|jpc 2 rfl<|joe<|jln (gv (fun _ k=>k) [] ⟨gk 2,⟨⟩⟩))<|jxe<|jte<|jle<|jbh<|jtn<|jsr<|jpc 1 rfl<|jot<|jxr<|
  jr1 rfl rfl (fun _ k=>k) [] ⟨⟩

theorem c_slices_ContainsFunc_Commitment__commitment_Validate_7 {qd : Prop} {y0 : List (List T_Commitment)} : Con qd Tryz.prog 92 [sv p1 y0 c1, .func (.func 105) #[] #[]] [] [Rl (eSlice e_Commitment) p1 c1 y0] (m_slices_ContainsFunc_Commitment__commitment_Validate_7 y0) fun r K=>K (vb r) [] [] :=
 ent3 Tryz.call92 Tryz.func92 rfl fun X=>jsr<|jpc 1 rfl<|jot<|jsr<|jpc 2 rfl<|jcl c_slices_IndexFunc_Commitment__commitment_Validate_7 rfl ⟨ck 0,⟨⟩⟩<|fun r1 _ k=>k<|jpc 2 rfl<|jot<|jxr<|jr1 rfl rfl (fun _ k=>k) [] ⟨⟩

theorem c_commitment_Validate {qd : Prop} {y0 : (List (List T_Commitment))} : Con qd Tryz.prog 61 [.agg #[sv p1 y0 c1]] [] [Rl (eSlice e_Commitment) p1 c1 y0] (m_commitment_Validate y0) fun r K=>K (vi r) [] [] :=
 ent3 Tryz.call61 Tryz.func61 rfl fun X=>jsr<|jbx .s rfl<|fun b1=>jpc 1 rfl<|jot<|jsr<|jfa 0 rfl<|jlo 0 rfl rfl rfl<|jcl c_slices_ContainsFunc_Commitment__commitment_Validate_1 rfl ⟨ck 0,⟨⟩⟩<|fun r1 _ k=>k<|jpc 1 rfl<|jot<|jsq<|jbk<|
  jjn (fun s1 K=>K [(1, pt b1 0), (7, vb s1)] [bx b1 47 [sv p1 y0 c1]] [Rl (eSlice e_Commitment) p1 c1 y0]) (jrg<|jfa 0 rfl<|jlo 0 rfl rfl rfl<|jpc 3 rfl<|jsg 12 rfl (jpc 1 rfl<|jpe (vb true)<|jpc 3 rfl<|jpe (vb true)<|jpc 1 rfl<|joe<|
  jnn (gv (fun _ k=>k) [0] ⟨gk 0,⟨⟩⟩))<|jpc 1 rfl<|jpe (vb r1)<|jpc 1 rfl<|jsg 15 rfl (jpc 2 rfl<|jpe (vb true)<|jpc 1 rfl<|joe<|jnn (gv (fun _ k=>k) [0] ⟨gk 0,⟨⟩⟩))<|jla 0 1 rfl rfl rfl<|
  jcl c_commitment_some__commitment_Validate_2 rfl ⟨ck 0,⟨⟩⟩<|fun r2 _ k=>k<|jpe (vb r2)<|jpc 1 rfl<|joe<|jnn (gv (fun _ k=>k) [0] ⟨gk 0,⟨⟩⟩))<|fun s1 _ k=>k<|jif rfl (jsr<|jpc 1 rfl<|jot<|jxr<|jbr<|jtr<|jr1 rfl rfl (fun _ k=>k) [] ⟨⟩)<|jsr<|
  jla 0 1 rfl rfl rfl<|jcl c_commitment_some__commitment_Validate_3 rfl ⟨ck 0,⟨⟩⟩<|fun r3 _ k=>k<|jpc 1 rfl<|jot<|jif rfl (jsr<|jpc 1 rfl<|jot<|jxr<|jbr<|jtr<|jr1 rfl rfl (fun _ k=>k) [] ⟨⟩)<|
  jjn (fun s2 K=>K [(1, pt b1 0), (22, vb s2)] [bx b1 47 [sv p1 y0 c1]] [Rl (eSlice e_Commitment) p1 c1 y0]) (jsr<|jfa 0 rfl<|jlo 0 rfl rfl rfl<|jcl c_slices_ContainsFunc_Commitment__commitment_Validate_4 rfl ⟨ck 0,⟨⟩⟩<|fun r4 _ k=>k<|
  jpc 1 rfl<|jot<|jif rfl (jsk<|jnn (gv (fun _ k=>k) [0] ⟨gk 0,⟨⟩⟩))<|jrg<|jla 0 1 rfl rfl rfl<|jcl c_commitment_some__commitment_Validate_5 rfl ⟨ck 0,⟨⟩⟩<|fun r5 _ k=>k<|jpc 1 rfl<|joe<|jnn (gv (fun _ k=>k) [0] ⟨gk 0,⟨⟩⟩))<|fun s2 _ k=>k<|
  jif rfl (jsr<|jpc 1 rfl<|jot<|jxr<|jbr<|jtr<|jr1 rfl rfl (fun _ k=>k) [] ⟨⟩)<|jsr<|jla 0 1 rfl rfl rfl<|jcl c_commitment_some__commitment_Validate_6 rfl ⟨ck 0,⟨⟩⟩<|fun r6 _ k=>k<|jpc 1 rfl<|jot<|jif rfl (jsr<|jpc 1 rfl<|jot<|jxr<|jbr<|jtr<|
  jr1 rfl rfl (fun _ k=>k) [] ⟨⟩)<|jsr<|jfa 0 rfl<|jlo 0 rfl rfl rfl<|jcl c_slices_ContainsFunc_Commitment__commitment_Validate_7 rfl ⟨ck 0,⟨⟩⟩<|fun r7 _ k=>k<|jpc 1 rfl<|jot<|jif rfl (jsr<|jpc 1 rfl<|jot<|jxr<|jbr<|jtr<|
  jr1 rfl rfl (fun _ k=>k) [] ⟨⟩)<|jsk<|jbn<|jtn<|jsr<|jpc 1 rfl<|jot<|jxr<|jr1 rfl rfl (fun _ k=>k) [] ⟨⟩

theorem c_literal_Format {qd : Prop} {y0 : T_Literal} : Con qd Tryz.prog 107 [.agg #[vb y0.1, vs y0.2]] [] [] (m_literal_Format y0) fun r K=>K (vs r) [] [] :=
 ent3 Tryz.call107 Tryz.func107 rfl fun X=>jsr<|jbx .s rfl<|fun b1=>jpc 1 rfl<|jot<|jsq<|jbk<|jsr<|jla 0 2 rfl rfl rfl<|jcl c_literal_Valid rfl ⟨⟩<|fun r1 _ k=>k<|jpc 2 rfl<|jot<|jif rfl (jsr<|jpc 1 rfl<|jot<|jxr<|jbr<|jtr<|jr1 rfl rfl (fun _ k=>k) [] ⟨⟩)<|jsr<|jfa 0 rfl<|
  jlo 0 rfl rfl rfl<|jpc 1 rfl<|jot<|jif rfl (jsr<|jfa 1 rfl<|jlo 0 rfl rfl rfl<|jbd fun x1 h1=>jv (fun h=>r_cat h rfl rfl h1)<|jpc 1 rfl<|jot<|jxr<|jbr<|jtr<|jr1 rfl rfl (fun _ k=>k) [] ⟨⟩)<|jsk<|jbn<|jtn<|jsr<|jfa 1 rfl<|jlo 0 rfl rfl rfl<|
  jpc 1 rfl<|jot<|jxr<|jr1 rfl rfl (fun _ k=>k) [] ⟨⟩

theorem c_strings_Join {y0 : List Str} {y1 : Str} : Con False Tryz.prog 108 [sv p1 y0 c1, vs y1] [] [Rl eStr p1 c1 y0] (m_strings_Join y0 y1) fun r K=>K (vs r) [] [] := lib_join Go.Proofs.Tryz.lays156 Go.Proofs.Tryz.Builder_Extra_156 Tryz.call108

theorem c_report_commit {y0 : T_Commitment} : Con False Tryz.prog 62 [.agg #[vb y0.1.1, vs y0.1.2, vb y0.2.1, vb y0.2.2.1, sv p1 y0.2.2.2 c1]] [] [Rl e_Literal p1 c1 y0.2.2.2] (m_report_commit y0) fun r K=>K (vs r) [] [] :=
 ent3 Tryz.call62 Tryz.func62 rfl fun X=>jsr<|jbx .s rfl<|fun b1=>jpc 1 rfl<|jot<|jsr<|jfa 0 rfl<|jla 0 2 rfl rfl rfl<|jcl c_literal_Format rfl ⟨⟩<|fun r1 _ k=>k<|jpc 1 rfl<|jot<|
  jjn (fun s1 K=>K [(1, pt b1 0), (3, vs s1)] [bx b1 53 [vb y0.1.1, vs y0.1.2, vb y0.2.1, vb y0.2.2.1, sv p1 y0.2.2.2 c1]] [Rl e_Literal p1 c1 y0.2.2.2]) (jsr<|jfa 2 rfl<|jlo 0 rfl rfl rfl<|jot<|jif rfl (jrg<|jpc 1 rfl<|jbd fun x1 h1=>
  jv (fun h=>r_cat h rfl rfl h1)<|jbd fun x2 h2=>jv (fun h=>r_cat h rfl rfl h2)<|jpc 1 rfl<|joe<|jnn (gv (fun _ k=>k) [0] ⟨gk 0,⟨⟩⟩))<|jsk<|jnn (gv (fun _ k=>k) [0] ⟨gk 0,⟨⟩⟩))<|fun s1 _ k=>k<|
  jjn (fun s2 K=>K [(1, pt b1 0), (3, vs s2)] [bx b1 53 [vb y0.1.1, vs y0.1.2, vb y0.2.1, vb y0.2.2.1, sv p1 y0.2.2.2 c1]] [Rl e_Literal p1 c1 y0.2.2.2]) (jsr<|jfa 3 rfl<|jlo 0 rfl rfl rfl<|jot<|jif rfl (jrg<|jpc 1 rfl<|jbd fun x3 h3=>
  jv (fun h=>r_cat h rfl rfl h3)<|jpc 1 rfl<|joe<|jnn (gv (fun _ k=>k) [0] ⟨gk 0,⟨⟩⟩))<|jsk<|jnn (gv (fun _ k=>k) [0] ⟨gk 0,⟨⟩⟩))<|fun s2 _ k=>k<|jsq<|jsr<|jfa 4 rfl<|jlo 0 rfl rfl rfl<|jpc 2 rfl<|jot<|jif rfl (jsr<|jpc 1 rfl<|jro eStr 9<|
  jot<|jjn (fun s3 K=>∀ p2 c2 r_1,K [(3, vs s2), (4, sv p2 s3 c2)] [[], r_1] [Al eStr 9 r_1 p2 c2 s3]) (jsr<|jfa 4 rfl<|jlo 0 rfl rfl rfl<|jpc 2 rfl<|jot<|jbk<|
  jlp (fun s4 K=>∀ p3 c3 r_2,K [(3, vs s2), (4, sv p3 s4.1 c3), (24, sv p1 y0.2.2.2 c1), (25, vi (len y0.2.2.2)), (26, vi s4.2)] [[], r_2] [Al eStr 9 r_2 p3 c3 s4.1, Rl e_Literal p1 c1 y0.2.2.2]) (gv (fun _ k=>k none 0 []) [900,1] ⟨gk 0,gk 1,⟨⟩⟩)<|
  fun s4 _ k p3 c3 r_2=>k<|jsr<|jpc 1 rfl<|jot<|jsq<|jif rfl (jsk<|jtn<|jsq<|jbk<|jsr<|jix 1 rfl rfl rfl<|fun x4 b2 o1=>jld true o_Literal (gk 0) rfl<|jal .s (.agg #[vb false, vs []])<|fun b3=>jso .s 2 rfl rfl rfl<|jot<|jrg<|jpc 1 rfl<|
  jla 2 2 rfl rfl rfl<|jcl c_literal_Format rfl ⟨⟩<|fun r2 _ k=>k<|jbs .s (e := eStr) 9 [vs r2] ([r2] : List Str) (rC vS rN)<|fun p4 c4=>jar .s 1 2 rfl (gk 0) rfl rfl<|fun x5 r_3 p5 c5=>jpc 1 rfl<|joe<|jbn<|jtn<|jrg<|jpc 2 rfl<|joe<|
  jln (gv (fun _ k=>k p5 c5 r_3) [900,1] ⟨gk 0,gk 4,⟨⟩⟩))<|jxe<|jte<|jle<|jbh<|jnn (gv (fun _ k=>k p3 c3 r_2) [900,1] ⟨gk 0,⟨⟩⟩))<|fun s3 _ k p2 c2 r_1=>k<|jrg<|jpc 2 rfl<|jca .s [] [1] c_strings_Join rfl rfl rfl ⟨cl 1 0,⟨⟩⟩<|fun r3 _ k=>k<|
  jbd fun x6 h5=>jv (fun h=>r_cat h rfl rfl h5)<|jbd fun x7 h6=>jv (fun h=>r_cat h rfl rfl h6)<|jbd fun x8 h7=>jv (fun h=>r_cat h rfl rfl h7)<|jpc 1 rfl<|joe<|jtn<|jsr<|jpc 2 rfl<|jot<|jxr<|jr1 rfl rfl (fun _ k=>k) [] ⟨⟩)<|jsk<|jtn<|jsr<|
  jpc 2 rfl<|jot<|jxr<|jr1 rfl rfl (fun _ k=>k) [] ⟨⟩

theorem c_report_Commitments {y0 : (List (List T_Commitment))} : Con False Tryz.prog 22 [.agg #[sv p1 y0 c1]] [] [Rl (eSlice e_Commitment) p1 c1 y0] (m_report_Commitments y0) fun r K=>∀ p2 c2,K (sv p2 r c2) [] [Rl eStr p2 c2 r] :=
 ent3 Tryz.call22 Tryz.func22 rfl fun X=>jsr<|jbx .s rfl<|fun b1=>jpc 1 rfl<|jot<|jsq<|jsr<|jla 0 1 rfl rfl rfl<|jcl c_commitment_Validate rfl ⟨ck 0,⟨⟩⟩<|fun r1 _ k=>k<|jpc 1 rfl<|jot<|jif rfl (jsr<|jpc 1 rfl<|jot<|jxr<|jtr<|jr1 rfl rfl (fun _ k=>k none 0) [] ⟨gn,⟨⟩⟩)<|jsk<|jtn<|
  jsr<|jpc 1 rfl<|jro eStr 9<|jot<|jsq<|jsr<|jfa 0 rfl<|jlo 0 rfl rfl rfl<|jpc 2 rfl<|jot<|jbk<|
  jlp (fun s1 K=>∀ p2 c2 r_1,K [(3, sv p2 s1.1 c2), (13, sv p1 y0 c1), (14, vi (len y0)), (15, vi s1.2)] [[], r_1] [Al eStr 9 r_1 p2 c2 s1.1, Rl (eSlice e_Commitment) p1 c1 y0]) (gv (fun _ k=>k none 0 []) [900,1] ⟨gk 0,gk 1,⟨⟩⟩)<|
  fun s1 _ k p2 c2 r_1=>k<|jsr<|jpc 1 rfl<|jot<|jsq<|jif rfl (jsk<|jtn<|jsq<|jbk<|jsr<|jpc 1 rfl<|jix 1 rfl rfl rfl<|fun x1 b2 o1=>jld false oL (gk 0) rfl<|fun p3 c3=>jpc 2 rfl<|jot<|jsr<|jpc 1 rfl<|jcl c_report_number rfl ⟨⟩<|fun r2 _ k=>k<|
  jbd fun x2 h1=>jv (fun h=>r_cat h rfl rfl h1)<|jbd fun x3 h2=>jv (fun h=>r_cat h rfl rfl h2)<|jpc 1 rfl<|jot<|
  jjn (fun s2 K=>K [(3, sv p2 s1.1 c2), (6, vs s2), (13, sv p1 y0 c1), (14, vi (len y0)), (15, vi s1.2)] [[], r_1] [Al eStr 9 r_1 p2 c2 s1.1, Rl (eSlice e_Commitment) p1 c1 y0]) (jsr<|jpc 3 rfl<|jot<|jbk<|
  jlp (fun s3 K=>K [(3, sv p2 s1.1 c2), (6, vs s3.1), (13, sv p1 y0 c1), (14, vi (len y0)), (15, vi s1.2), (24, sv p3 x1 c3), (25, vi (len x1)), (26, vi s3.2)] [[], r_1] [Al eStr 9 r_1 p2 c2 s1.1, Rl (eSlice e_Commitment) p1 c1 y0, Rl e_Commitment p3 c3 x1]) (gv (fun _ k=>k) [900,1] ⟨gk 2,gk 3,gk 0,⟨⟩⟩)<|
  fun s3 _ k=>k<|jsr<|jpc 1 rfl<|jot<|jsq<|jif rfl (jsk<|jtn<|jsq<|jbk<|jsr<|jix 2 rfl rfl rfl<|fun x4 b3 o2=>jld true o_Commitment (gk 0) rfl<|fun p4 c4=>jal .s (.agg #[vb false, vs [], vb false, vb false, .slice none 0 0])<|fun b4=>
  jso .s 2 rfl rfl rfl<|jot<|jrg<|jpc 1 rfl<|jla 2 5 rfl rfl rfl<|jcl c_report_commit rfl ⟨ck 0,⟨⟩⟩<|fun r3 _ k=>k<|jbd fun x5 h3=>jv (fun h=>r_cat h rfl rfl h3)<|jbd fun x6 h4=>jv (fun h=>r_cat h rfl rfl h4)<|jpc 1 rfl<|joe<|jbn<|jtn<|jrg<|
  jpc 2 rfl<|joe<|jln (gv (fun _ k=>k) [900,1] ⟨gk 2,gk 3,gk 4,⟨⟩⟩))<|jxe<|jte<|jle<|jbh<|jnn (gv (fun _ k=>k) [900,1] ⟨gk 0,gk 1,⟨⟩⟩))<|fun s2 _ k=>k<|jrg<|jpc 2 rfl<|jbs .s (e := eStr) 9 [vs s2] ([s2] : List Str) (rC vS rN)<|fun p5 c5=>
  jar .s 1 1 rfl (gk 0) rfl rfl<|fun x7 r_2 p6 c6=>jpc 1 rfl<|joe<|jbn<|jtn<|jrg<|jpc 2 rfl<|joe<|jln (gv (fun _ k=>k p6 c6 r_2) [900,1] ⟨gk 0,gk 3,⟨⟩⟩))<|jxe<|jte<|jle<|jbh<|jtn<|jsr<|jpc 2 rfl<|jot<|jxr<|jsh 1 0 rfl rfl<|
  jr1 rfl rfl (fun _ k=>k p2 c2) [] ⟨gk 0,⟨⟩⟩

theorem c_law42_ReportStores {y0 : (List (List T_Commitment))} {y1 : List Int} : Con False Tryz.prog 4 [.agg #[sv p1 y0 c1], sv p2 y1 c2] [] [Rl (eSlice e_Commitment) p1 c1 y0, Rl (eInt .i64) p2 c2 y1, Pt (eArr 9 eStr) 0 0 tab_formula_words] (m_law42_ReportStores y0 y1) fun r K=>K (vb r) [] [] :=
 ent3 Tryz.call4 Tryz.func4 rfl fun X=>jsr<|jbx .s rfl<|fun b1=>jpc 1 rfl<|jot<|jsq<|jsr<|jfa 0 rfl<|jlo 0 rfl rfl rfl<|jpc 2 rfl<|jot<|jif rfl (jsr<|jcl c_law42_awake rfl ⟨ck 2,⟨⟩⟩<|fun r1 _ k=>k<|jpc 1 rfl<|jot<|jxr<|jtr<|jr1 rfl rfl (fun _ k=>k) [] ⟨⟩)<|jsk<|jtn<|
  jjo (fun s1 K=>K [(1, sv p2 y1 c2), (2, pt b1 0)] [bx b1 47 [sv p1 y0 c1]] [Rl (eInt .i64) p2 c2 y1, Rl (eSlice e_Commitment) p1 c1 y0, Pt (eArr 9 eStr) 0 0 tab_formula_words]) (jsr<|jpc 1 rfl<|jot<|jbk<|
  jlp (fun s2 K=>K [(1, sv p2 y1 c2), (2, pt b1 0), (5, vi s2)] [bx b1 47 [sv p1 y0 c1]] [Rl (eInt .i64) p2 c2 y1, Rl (eSlice e_Commitment) p1 c1 y0, Pt (eArr 9 eStr) 0 0 tab_formula_words]) (gv (fun _ k=>k) [0] ⟨gk 1,gk 0,gk 2,⟨⟩⟩)<|
  fun s2 _ k=>k<|jsq<|jsr<|jpc 1 rfl<|jfa 0 rfl<|jlo 0 rfl rfl rfl<|jpc 2 rfl<|jot<|jif rfl (jsk<|jtn<|jsq<|jbk<|jsq<|jsr<|jfa 0 rfl<|jlo 0 rfl rfl rfl<|jpc 1 rfl<|jix 1 rfl rfl rfl<|fun x1 b2 o1=>jld false oL (gk 0) rfl<|fun p3 c3=>
  jpc 2 rfl<|jot<|jif rfl (jsr<|jcl c_law42_awake rfl ⟨ck 4,⟨⟩⟩<|fun r2 _ k=>k<|jpc 1 rfl<|jot<|jxr<|jtr<|jbr<|jtr<|jlr<|jbr<|jlr<|jr1 rfl rfl (fun _ k=>k) [] ⟨⟩)<|jsk<|jtn<|jsr<|jpc 1 rfl<|jot<|jbk<|
  jlp (fun s3 K=>K [(1, sv p2 y1 c2), (2, pt b1 0), (5, vi s2), (6, vi s3)] [bx b1 47 [sv p1 y0 c1]] [Rl (eInt .i64) p2 c2 y1, Rl (eSlice e_Commitment) p1 c1 y0, Pt (eArr 9 eStr) 0 0 tab_formula_words]) (gv (fun _ k=>k) [0] ⟨gk 2,gk 3,gk 4,⟨⟩⟩)<|
  fun s3 _ k=>k<|jsq<|jsr<|jpc 1 rfl<|jfa 0 rfl<|jlo 0 rfl rfl rfl<|jpc 1 rfl<|jix 1 rfl rfl rfl<|fun x2 b3 o2=>jld false oL (gk 0) rfl<|fun p4 c4=>jpc 2 rfl<|jot<|jif rfl (jsk<|jtn<|jsq<|jbk<|jsr<|jfa 0 rfl<|jlo 0 rfl rfl rfl<|jpc 1 rfl<|
  jix 3 rfl rfl rfl<|fun x3 b4 o3=>jld false oL (gk 0) rfl<|fun p5 c5=>jpc 1 rfl<|jix 0 rfl rfl rfl<|fun x4 b5 o4=>jfa 4 rfl<|jld false oL (gs (gs (gs (gk 0)))) rfl<|fun p6 c6=>jpc 2 rfl<|jot<|jif rfl (jsr<|jcl c_law42_awake rfl ⟨ck 8,⟨⟩⟩<|
  fun r3 _ k=>k<|jpc 1 rfl<|jot<|jxr<|jbr<|jtr<|jlr<|jbr<|jbr<|jtr<|jlr<|jbr<|jlr<|jr1 rfl rfl (fun _ k=>k) [] ⟨⟩)<|jsk<|jbn<|jtn<|jrg<|jpc 3 rfl<|joe<|jln (gv (fun _ k=>k) [0] ⟨gk 6,gk 7,gk 8,⟨⟩⟩))<|jxe<|jte<|jle<|jbh<|jbn<|jtn<|jrg<|
  jpc 3 rfl<|joe<|jln (gv (fun _ k=>k) [0] ⟨gk 2,gk 3,gk 4,⟨⟩⟩))<|jxe<|jte<|jle<|jbh<|jln (gv (fun _ k=>k) [0] ⟨gk 0,gk 1,gk 2,⟨⟩⟩))<|fun s1 _ k=>k<|jsr<|jpc 1 rfl<|jcl c_keep_New rfl ⟨ck 0,⟨⟩⟩<|fun r4 _ k b6 p7 c7=>k<|jpc 1 rfl<|jot<|jsr<|
  jpc 1 rfl<|jca .s [1] [] c_keep_Src_Range rfl rfl rfl ⟨ck 0,⟨⟩⟩<|fun r5 _ k=>k<|jcl c_ref26_New rfl ⟨⟩<|fun r6 _ k p8 c8=>k<|jpc 3 rfl<|jal .s (.agg #[.slice none 0 0])<|fun b7=>jso .s 2 rfl rfl rfl<|jpc 1 rfl<|jot<|
  jjn (fun s4 K=>∀ p9 c9,K [(2, pt b1 0), (7, pt b6 0), (8, pt b7 0)] [bx b1 47 [sv p1 y0 c1], bx b6 68 [sv p7 r4.1 c7, vi s4.1], bx b7 47 [sv p9 s4.2 c9]] [Rl (eSlice e_Commitment) p9 c9 s4.2, Rl (eSlice e_Commitment) p1 c1 y0, Rl (eInt .i64) p7 c7 r4.1, Pt (eArr 9 eStr) 0 0 tab_formula_words]) (
  jsr<|jpc 1 rfl<|jot<|jbk<|
  jlp (fun s5 K=>∀ p10 c10,K [(2, pt b1 0), (7, pt b6 0), (8, pt b7 0), (10, vi s5.1)] [bx b1 47 [sv p1 y0 c1], bx b6 68 [sv p7 r4.1 c7, vi s5.2.1], bx b7 47 [sv p10 s5.2.2 c10]] [Rl (eSlice e_Commitment) p10 c10 s5.2.2, Rl (eSlice e_Commitment) p1 c1 y0, Rl (eInt .i64) p7 c7 r4.1, Pt (eArr 9 eStr) 0 0 tab_formula_words]) (gv (fun _ k=>k p8 c8) [0,1,2] ⟨gk 0,gk 3,gk 1,gk 4,⟨⟩⟩)<|
  fun s5 _ k p10 c10=>k<|jsq<|
  jjn (fun s6 K=>K [(2, pt b1 0), (7, pt b6 0), (8, pt b7 0), (10, vi s5.1), (77, vb s6)] [bx b1 47 [sv p1 y0 c1], bx b6 68 [sv p7 r4.1 c7, vi s5.2.1], bx b7 47 [sv p10 s5.2.2 c10]] [Rl (eSlice e_Commitment) p1 c1 y0, Rl (eInt .i64) p7 c7 r4.1, Rl (eSlice e_Commitment) p10 c10 s5.2.2, Pt (eArr 9 eStr) 0 0 tab_formula_words]) (
  jrg<|jpc 3 rfl<|jsg 68 rfl (jpc 1 rfl<|jca .s [1] [] c_keep_Src_More rfl rfl rfl ⟨ck 2,⟨⟩⟩<|fun r7 _ k=>k<|jpe (vb r7)<|jpc 1 rfl<|jsg 72 rfl (jfa 0 rfl<|jlo 2 rfl rfl rfl<|jpc 2 rfl<|jpe (vb (decide (0 < (len s5.2.2))))<|joe<|
  jnn (gv (fun _ k=>k) [0,1,2] ⟨gk 1,gk 2,gk 0,gk 3,⟨⟩⟩))<|jpc 4 rfl<|jpe (vb false)<|joe<|jnn (gv (fun _ k=>k) [0,1,2] ⟨gk 1,gk 2,gk 0,gk 3,⟨⟩⟩))<|jpc 2 rfl<|jpe (vb false)<|jpc 5 rfl<|jpe (vb false)<|joe<|
  jnn (gv (fun _ k=>k) [0,1,2] ⟨gk 1,gk 2,gk 0,gk 3,⟨⟩⟩))<|fun s6 _ k=>k<|jif rfl (jsk<|jtn<|jsq<|jbk<|jsr<|jpc 1 rfl<|jca .s [1] [] c_keep_Src_Range rfl rfl rfl ⟨ck 1,⟨⟩⟩<|fun r8 _ k=>k<|jpc 1 rfl<|
  jca .s [1] [] c_keep_Src_N rfl rfl rfl ⟨ck 1,⟨⟩⟩<|fun r9 _ k=>k<|jpc 1 rfl<|jca .s [1] [] c_keep_Src_N rfl rfl rfl ⟨ck 1,⟨⟩⟩<|fun r10 _ k=>k<|jpc 1 rfl<|jca .s [1] [] c_net_Literal rfl rfl rfl ⟨ck 1,⟨⟩⟩<|fun r11 _ k=>k<|
  jpe (.agg #[vi r8.1, vi r9.1, vi r10.1, vb r11.1.1, vs r11.1.2, .slice none 0 0])<|jal .s (.agg #[vi 0, vi 0, vi 0, vb false, vs [], .slice none 0 0])<|fun b8=>jso .s 3 rfl rfl rfl<|jot<|
  jjn (fun s7 K=>∀ p11 c11,K [(2, pt b1 0), (7, pt b6 0), (8, pt b7 0), (10, vi s5.1), (11, pt b8 0)] [bx b1 47 [sv p1 y0 c1], bx b6 68 [sv p7 r4.1 c7, vi s7.1], bx b7 47 [sv p10 s5.2.2 c10], bx b8 59 [vi r8.1, vi r9.1, vi r10.1, vb r11.1.1, vs r11.1.2, sv p11 s7.2 c11]] [Rl e_Literal p11 c11 s7.2, Rl (eSlice e_Commitment) p1 c1 y0, Rl (eInt .i64) p7 c7 r4.1, Rl (eSlice e_Commitment) p10 c10 s5.2.2, Pt (eArr 9 eStr) 0 0 tab_formula_words]) (
  jsr<|jfa 0 rfl<|jlo 3 rfl rfl rfl<|jpc 1 rfl<|jot<|jif rfl (jrg<|jpc 1 rfl<|jca .s [1] [] c_net_Literal rfl rfl rfl ⟨ck 1,⟨⟩⟩<|fun r12 _ k=>k<|jpc 1 rfl<|jca .s [1] [] c_net_Literal rfl rfl rfl ⟨ck 1,⟨⟩⟩<|fun r13 _ k=>k<|
  jbs .s (e := e_Literal) 50 [vb r12.1.1, vs r12.1.2, vb r13.1.1, vs r13.1.2] ([r12.1, r13.1] : List T_Literal) (rC (vP vB vS) (rC (vP vB vS) rN))<|fun p12 c12=>jcl c_ref01_Normal rfl ⟨ck 0,⟨⟩⟩<|fun r14 _ k p13 c13=>k<|jfa 5 rfl<|
  jso .s 3 rfl rfl rfl<|joe<|jnn (gv (fun _ k=>k p13 c13) [0,1,2,3] ⟨gk 0,gk 2,gk 3,gk 4,gk 5,⟨⟩⟩))<|jsk<|jnn (gv (fun _ k=>k none 0) [0,1,2,3] ⟨gn,gk 0,gk 1,gk 2,gk 3,⟨⟩⟩))<|fun s7 _ k p11 c11=>k<|jsr<|jla 2 1 rfl rfl rfl<|
  jla 3 6 rfl rfl rfl<|jcl c_ref26_Say rfl ⟨ck 3,ck 0,⟨⟩⟩<|fun r15 _ k p14 c14=>k<|jpc 3 rfl<|jal .s (.agg #[.slice none 0 0])<|fun b9=>jso .s 4 rfl rfl rfl<|jpc 1 rfl<|jot<|jsr<|jpc 2 rfl<|jot<|jif rfl (jrg<|jla 4 1 rfl rfl rfl<|
  jso .s 2 rfl rfl rfl<|joe<|jbn<|jtn<|jrg<|jpc 3 rfl<|joe<|jln (gv (fun _ k=>k p14 c14) [0,1,2] ⟨gk 0,gk 2,gk 3,gk 5,⟨⟩⟩))<|jsk<|jbn<|jtn<|jrg<|jpc 3 rfl<|joe<|jln (gv (fun _ k=>k p10 c10) [0,1,2] ⟨gk 4,gk 2,gk 3,gk 5,⟨⟩⟩))<|jxe<|jte<|jle<|
  jbh<|jnn (gv (fun _ k=>k p10 c10) [0,1,2] ⟨gk 2,gk 0,gk 1,gk 3,⟨⟩⟩))<|fun s4 _ k p9 c9=>k<|jjo (fun s8 K=>K [(8, pt b7 0)] [[], [], bx b7 47 [sv p9 s4.2 c9]] [Rl (eSlice e_Commitment) p9 c9 s4.2, Pt (eArr 9 eStr) 0 0 tab_formula_words]) (
  jds [] [0, 2] 8<|jda 0 0 1 rfl rfl rfl rfl<|jda 1 2 1 rfl rfl rfl rfl<|jdc 5 [2] rfl<|jda 3 2 1 rfl rfl rfl rfl<|jdc 3 [7] rfl<|jd1 4<|jca (.f rfl) [1] [] c_ref26_Stores rfl rfl rfl ⟨ck 2,ck 0,⟨⟩⟩<|fun r16 _ k p15 c15=>k<|jdn<|jd1 5<|
  jbs (.f rfl) (e := eSlice (eSlice e_Commitment)) 47 [sv p1 y0 c1, sv p9 s4.2 c9, sv p15 r16.1 c15] ([y0, s4.2, r16.1] : List (List (List T_Commitment))) (rC (vL (gk 2)) (rC (vL (gk 1)) (rC (vL (gk 0)) rN)))<|fun p16 c16=>jdn<|
  jdc 0 [6] rfl<|jde<|jtn<|jbk<|
  jlp (fun s9 K=>K [(8, pt b7 0), (113, sv p16 ([y0, s4.2, r16.1] : List (List (List T_Commitment))) c16), (114, vi (len ([y0, s4.2, r16.1] : List (List (List T_Commitment))))), (115, vi s9)] [[], [], bx b7 47 [sv p9 s4.2 c9]] [Rl (eSlice (eSlice e_Commitment)) p16 c16 ([y0, s4.2, r16.1] : List (List (List T_Commitment))), Rl (eSlice e_Commitment) p9 c9 s4.2, Pt (eArr 9 eStr) 0 0 tab_formula_words]) (gv (fun _ k=>k) [900,901,2] ⟨gk 0,gk 2,gk 5,⟨⟩⟩)<|
  fun s9 _ k=>k<|jsr<|jpc 1 rfl<|jot<|jsq<|jif rfl (jsk<|jtn<|jsq<|jbk<|jsr<|jix 0 rfl rfl rfl<|fun x5 b10 o5=>jld true oL (gk 0) rfl<|fun p17 c17=>jal .s (.agg #[.slice none 0 0])<|fun b11=>jso .s 3 rfl rfl rfl<|jot<|jds [] [3] 6<|
  jda 0 3 1 rfl rfl rfl rfl<|jda 2 3 1 rfl rfl rfl rfl<|jd1 1<|jca (.f rfl) [] [] c_report_Commitments rfl rfl rfl ⟨ck 0,⟨⟩⟩<|fun r17 _ k p18 c18=>k<|jdn<|jd1 3<|jca (.f rfl) [] [] c_ref42_Commitments rfl rfl rfl ⟨ck 1,⟨⟩⟩<|
  fun r18 _ k p19 c19=>k<|jdn<|jd1 4<|jca (.f rfl) [] [] c_ref42_Same rfl rfl rfl ⟨ck 1,ck 0,⟨⟩⟩<|fun r19 _ k=>k<|jdn<|jdc 0 [5] rfl<|jde<|jtn<|jif rfl (jsr<|jpc 1 rfl<|jot<|jxr<|jbr<|jtr<|jlr<|jbr<|jlr<|jr1 rfl rfl (fun _ k=>k) [] ⟨⟩)<|jsk<|
  jbn<|jtn<|jrg<|jpc 2 rfl<|joe<|jln (gv (fun _ k=>k) [900,901,2] ⟨gk 4,gk 5,gk 6,⟨⟩⟩))<|jxe<|jte<|jle<|jbh<|jln (gv (fun _ k=>k) [900,901,2] ⟨gk 1,gk 2,⟨⟩⟩))<|fun s8 _ k=>k<|
  jjn (fun s10 K=>K [(4, vb s10)] [[], [], []] [Pt (eArr 9 eStr) 0 0 tab_formula_words]) (jdS [] [2] 11<|jda 0 2 1 rfl rfl rfl rfl<|jdf 3 0 rfl rfl<|jdo 4 2 rfl rfl rfl rfl<|jdc 7 [5] rfl<|jd1 1<|
  jca (.f rfl) [] [] c_report_Commitments rfl rfl rfl ⟨ck 0,⟨⟩⟩<|fun r20 _ k p20 c20=>k<|jdn<|jdc 3 [2,6,7] rfl<|jsg 133 rfl (jd1 8<|jca (.f rfl) [] [] c_law42_awake rfl rfl rfl ⟨ck 2,⟨⟩⟩<|fun r21 _ k=>k<|jdn<|jdp 9 (vb r21) rfl<|
  jdc 0 [10] rfl<|jde<|jnn (gv (fun _ k=>k) [900,901,902] ⟨gk 2,⟨⟩⟩))<|jdc 2 [8] rfl<|jdp 9 (vb false) rfl<|jdc 0 [10] rfl<|jde<|jnn (gv (fun _ k=>k) [900,901,902] ⟨gk 2,⟨⟩⟩))<|fun s10 _ k=>k<|jxr<|jr1 rfl rfl (fun _ k=>k) [] ⟨⟩

end Go.Proofs.YteleongkifgjhaaGreatDoor
