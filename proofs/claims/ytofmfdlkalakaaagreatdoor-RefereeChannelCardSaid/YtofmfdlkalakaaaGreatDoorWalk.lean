/- The Go functions compute their models: printed by program (gd3). Conditions: none. -/
import Derived.Test.YtofmfdlkalakaaaGreatDoorProg
import Derived.Test.YtofmfdlkalakaaaGreatDoorSb3
import Derived.Test.YtofmfdlkalakaaaGreatDoorArrv
import Derived.Test.YtofmfdlkalakaaaGreatDoorModels
import Derived.Test.YtofmfdlkalakaaaGreatDoorShelfP
import Derived.Test.YtofmfdlkalakaaaGreatDoorSb4
import Derived.Test.YtofmfdlkalakaaaGreatDoorAeq
import Derived.Test.YtofmfdlkalakaaaGreatDoorDel
import Derived.Test.YtofmfdlkalakaaaGreatDoorGro
namespace Go.Proofs.YtofmfdlkalakaaaGreatDoor
open Go Go.GD
set_option autoImplicit false
set_option linter.unusedVariables false
set_option maxRecDepth 100000
variable {yl1 : Nat} {p1 p2 p3 p4 p5 p6 p7 p8 p9 p10 : Option Addr} {c1 c2 c3 c4 c5 c6 c7 c8 c9 c10 : Nat} {b1 : Nat} {r_1 r_2 r_3 r_4 r_5 r_6 : Res}

abbrev e_keep_Src : E T_keep_Src := eProd (eSlice (eInt .i64)) (eInt .i64)
abbrev o_keep_Src : Opn e_keep_Src := (oP oL oI)
abbrev e_Pair : E T_Pair := eProd (eInt .i64) (eInt .i64)
abbrev o_Pair : Opn e_Pair := (oP oI oI)
abbrev e_Graph : E T_Graph := eProd (eInt .i64) (eSlice e_Pair)
abbrev o_Graph : Opn e_Graph := (oP oI oL)
abbrev e_Move : E T_Move := eProd (eInt .i64) (eProd (eInt .i64) (eProd (eInt .i64) (eInt .i64)))
abbrev o_Move : Opn e_Move := (oP oI (oP oI (oP oI oI)))
abbrev e_Dialogue : E T_Dialogue := eProd e_Graph (eProd (eInt .i64) (eProd (eProd (eInt .i64) (eInt .i64)) (eSlice e_Move)))
abbrev o_Dialogue : Opn e_Dialogue := (oP o_Graph (oP oI (oP (oP oI oI) oL)))
abbrev e_Player : E T_Player := eProd (eSlice (eInt .i64)) (eProd (eSlice (eInt .i64)) (eProd (eSlice e_Move) (eInt .i64)))
abbrev o_Player : Opn e_Player := (oP oL (oP oL (oP oL oI)))
abbrev e_Outcome : E T_Outcome := eProd (eInt .i64) (eInt .i64)
abbrev o_Outcome : Opn e_Outcome := (oP oI oI)
abbrev e_Packet : E T_Packet := eProd eBool (eProd (eInt .i64) (eInt .i64))
abbrev o_Packet : Opn e_Packet := (oP oB (oP oI oI))
abbrev e_Channel : E T_Channel := eProd (eSlice (eInt .i64)) (eProd (eInt .i64) (eProd (eInt .i64) (eProd (eSlice (eInt .i64)) (eProd (eSlice e_Packet) (eSlice e_Packet)))))
abbrev o_Channel : Opn e_Channel := (oP oL (oP oI (oP oI (oP oL (oP oL oL)))))
abbrev e_NetEvent : E T_NetEvent := eProd (eInt .i64) (eInt .i64)
abbrev o_NetEvent : Opn e_NetEvent := (oP oI oI)
abbrev e_Transcript : E T_Transcript := eProd e_Graph (eProd (eInt .i64) (eProd (eProd (eInt .i64) (eInt .i64)) (eSlice e_Move)))
abbrev o_Transcript : Opn e_Transcript := (oP o_Graph (oP oI (oP (oP oI oI) oL)))
abbrev e_protocol_table : E T_protocol_table := eProd e_Dialogue (eProd (eSlice (eInt .i64)) (eProd (eInt .i64) (eSlice eBool)))
abbrev o_protocol_table : Opn e_protocol_table := (oP o_Dialogue (oP oL (oP oI oL)))
abbrev e_referee_reader : E T_referee_reader := eProd e_Transcript (eInt .i64)
abbrev o_referee_reader : Opn e_referee_reader := (oP o_Transcript oI)

theorem c_channel_Done {qd : Prop} {y0 : T_Channel} : Con qd Tryz.prog 34 [.agg #[sv p1 y0.1 c1, vi y0.2.1, vi y0.2.2.1, sv p2 y0.2.2.2.1 c2, sv p3 y0.2.2.2.2.1 c3, sv p4 y0.2.2.2.2.2 c4]] [] [Rl (eInt .i64) p1 c1 y0.1, Rl (eInt .i64) p2 c2 y0.2.2.2.1, Rl e_Packet p3 c3 y0.2.2.2.2.1, Rl e_Packet p4 c4 y0.2.2.2.2.2] (m_channel_Done y0) fun r K=>K (vb r) [] [] :=
 ent3 Tryz.call34 Tryz.func34 rfl fun X=>jsr<|jbx .s rfl<|fun b1=>jpc 1 rfl<|jot<|jsr<|jfa 2 rfl<|jlo 0 rfl rfl rfl<|jfa 0 rfl<|jlo 0 rfl rfl rfl<|jpc 3 rfl<|jot<|jxr<|jr1 rfl rfl (fun _ k=>k) [] ⟨⟩

theorem c_slices_Clone_Packet {qd : Prop} {y0 : List T_Packet} : Con qd Tryz.prog 48 [sv p1 y0 c1] [] [Rl e_Packet p1 c1 y0] (m_slices_Clone_Packet y0) fun r K=>∀ p2 c2 r_1,K (sv p2 r c2) [r_1] [Al e_Packet 85 r_1 p2 c2 r] :=
 ent3 Tryz.call48 Tryz.func48 rfl fun X=>jA 1 rfl<|jsq<|jsr<|jpc 1 rfl<|jv (fun h=>r_nil h rfl Tryz.underlying43)<|jot<|jnl (m1 := some ([] : List T_Packet)) rfl (gk 0) (fun h=>by first|(rw [h];done)|(rw [h];rfl)|(simp [h,app];done)) (jA 1 rfl<|jxr<|jtr<|jro e_Packet 85<|
  jrE 0 2 rfl rfl<|jr1 rfl rfl (fun _ k=>k none 0 []) [0] (gq [0]))<|jC<|jsr<|jbo .s (e := e_Packet) 85 [] ([] : List T_Packet) rN<|fun r_1 p2 c2=>jpc 1 rfl<|jar .s 0 0 rfl (gk 1) rfl rfl<|fun x1 r_2 p3 c3=>jpc 1 rfl<|jot<|jxr<|
  jr1 rfl rfl (fun _ k=>k p3 c3 r_2) [0] (gq [0])

theorem c_slices_Clone_int {qd : Prop} {y0 : List Int} : Con qd Tryz.prog 28 [sv p1 y0 c1] [] [Rl (eInt .i64) p1 c1 y0] (m_slices_Clone_int y0) fun r K=>∀ p2 c2 r_1,K (sv p2 r c2) [r_1] [Al (eInt .i64) 3 r_1 p2 c2 r] :=
 ent3 Tryz.call28 Tryz.func28 rfl fun X=>jA 1 rfl<|jsq<|jsr<|jpc 1 rfl<|jv (fun h=>r_nil h rfl Tryz.underlying22)<|jot<|jnl (m1 := some ([] : List Int)) rfl (gk 0) (fun h=>by first|(rw [h];done)|(rw [h];rfl)|(simp [h,app];done)) (jA 1 rfl<|jxr<|jtr<|jro (eInt .i64) 3<|
  jrE 0 2 rfl rfl<|jr1 rfl rfl (fun _ k=>k none 0 []) [0] (gq [0]))<|jC<|jsr<|jbo .s (e := eInt .i64) 3 [] ([] : List Int) rN<|fun r_1 p2 c2=>jpc 1 rfl<|jar .s 0 0 rfl (gk 1) rfl rfl<|fun x1 r_2 p3 c3=>jpc 1 rfl<|jot<|jxr<|
  jr1 rfl rfl (fun _ k=>k p3 c3 r_2) [0] (gq [0])

theorem c_channel_copied {qd : Prop} {y0 : T_Channel} : Con qd Tryz.prog 29 [.agg #[sv p1 y0.1 c1, vi y0.2.1, vi y0.2.2.1, sv p2 y0.2.2.2.1 c2, sv p3 y0.2.2.2.2.1 c3, sv p4 y0.2.2.2.2.2 c4]] [] [Rl (eInt .i64) p1 c1 y0.1, Rl (eInt .i64) p2 c2 y0.2.2.2.1, Rl e_Packet p3 c3 y0.2.2.2.2.1, Rl e_Packet p4 c4 y0.2.2.2.2.2] (m_channel_copied y0) fun r K=>∀ b1 p5 c5 p6 c6 r_1 p7 c7 r_2 p8 c8 r_3,K (pt b1 0) [bx b1 81 [sv p5 r.1 c5, vi r.2.1, vi r.2.2.1, sv p6 r.2.2.2.1 c6, sv p7 r.2.2.2.2.1 c7, sv p8 r.2.2.2.2.2 c8], r_1, r_2, r_3] [Rl (eInt .i64) p5 c5 r.1, Al (eInt .i64) 3 r_1 p6 c6 r.2.2.2.1, Al e_Packet 85 r_2 p7 c7 r.2.2.2.2.1, Al e_Packet 85 r_3 p8 c8 r.2.2.2.2.2] :=
 ent3 Tryz.call29 Tryz.func29 rfl fun X=>jsr<|jbx .s rfl<|fun b1=>jpc 1 rfl<|jot<|jds [7, 9] [0] 10<|jdf 0 0 rfl rfl<|jdo 1 0 rfl rfl rfl rfl<|jdf 3 3 rfl rfl<|jdo 4 0 rfl rfl rfl rfl<|jd1 2<|jca (.f rfl) [] [] c_slices_Clone_int rfl rfl rfl (cq [0])<|fun r1 _ k p5 c5 r_1=>k<|
  jdn<|jdf 6 0 rfl rfl<|jd1 5<|jca (.f rfl) [] [] c_slices_Clone_int rfl rfl rfl (cq [2])<|fun r2 _ k p6 c6 r_2=>k<|jdn<|jd1 7<|jso (o := 0) (.f rfl) 0 rfl rfl rfl<|jdb [9] [0]<|jdf 8 3 rfl rfl<|jd1 9<|jso (o := 3) (.f rfl) 0 rfl rfl rfl<|
  jdb [] [0]<|jde<|jtn<|jds [7, 9] [0] 10<|jdf 0 4 rfl rfl<|jdo 1 0 rfl rfl rfl rfl<|jdf 3 5 rfl rfl<|jdo 4 0 rfl rfl rfl rfl<|jd1 2<|jca (.f rfl) [] [] c_slices_Clone_Packet rfl rfl rfl (cq [4])<|fun r3 _ k p7 c7 r_3=>k<|jdn<|
  jdf 6 4 rfl rfl<|jd1 5<|jca (.f rfl) [] [] c_slices_Clone_Packet rfl rfl rfl (cq [6])<|fun r4 _ k p8 c8 r_4=>k<|jdn<|jd1 7<|jso (o := 4) (.f rfl) 0 rfl rfl rfl<|jdb [9] [0]<|jdf 8 5 rfl rfl<|jd1 9<|jso (o := 5) (.f rfl) 0 rfl rfl rfl<|
  jdb [] [0]<|jde<|jtn<|jsr<|jla 0 6 rfl rfl rfl<|jpe (.agg #[sv p5 r1 c5, vi y0.2.1, vi y0.2.2.1, sv p6 r2 c6, sv p7 r3 c7, sv p8 r4 c8])<|jbx .s rfl<|fun b2=>jpc 1 rfl<|jot<|jxr<|jsh 1 3 rfl rfl<|
  jr1 rfl rfl (fun _ k=>k b2 p5 c5 p6 c6 r_2 p7 c7 r_3 p8 c8 r_4) [5,2,3,4] (gq [0,3,2,1])

theorem c_channel_line_full {qd : Prop} {y0 : T_Channel} : CoL qd Tryz.prog 33 [pt b1 0] [bx b1 81 [sv p1 y0.1 c1, vi y0.2.1, vi y0.2.2.1, sv p2 y0.2.2.2.1 c2, sv p3 y0.2.2.2.2.1 c3, sv p4 y0.2.2.2.2.2 c4]] [Rl (eInt .i64) p1 c1 y0.1, Rl (eInt .i64) p2 c2 y0.2.2.2.1, Rl e_Packet p3 c3 y0.2.2.2.2.1, Rl e_Packet p4 c4 y0.2.2.2.2.2] (m_channel_line_full y0) fun L r K=>K (vb r) L [] :=
 ent3 Tryz.call33 Tryz.func33 rfl fun X=>jA 1 rfl<|jsr<|jpc 2 rfl<|jfa 0 rfl<|jfa 5 rfl<|jlo 0 rfl rfl rfl<|jpc 3 rfl<|jot<|jxr<|jr1 rfl rfl (fun _ k=>k) [0] ⟨⟩

theorem c_channel_line_receive_1 {qd : Prop} {y0 : T_Packet} {y1 : Int} : Con qd Tryz.prog 68 [.agg #[vb y0.1, vi y0.2.1, vi y0.2.2], vi y1] [] [] (m_channel_line_receive_1 y0 y1) fun r K=>K (vi r) [] [] :=
 ent3 Tryz.call68 Tryz.func68 rfl fun X=>jsr<|jbx .s rfl<|fun b1=>jpc 1 rfl<|jot<|jsr<|jfa 1 rfl<|jlo 0 rfl rfl rfl<|jpc 3 rfl<|jot<|jxr<|jr1 rfl rfl (fun _ k=>k) [] ⟨⟩

theorem c_slices_BinarySearchFunc_int__channel_line_receive_1 {qd : Prop} {y0 : List T_Packet} {y1 : Int} : Con qd Tryz.prog 67 [sv p1 y0 c1, vi y1, .func (.func 68) #[] #[]] [] [Rl e_Packet p1 c1 y0] (m_slices_BinarySearchFunc_int__channel_line_receive_1 y0 y1) fun r K=>K (.tuple #[vi r.1, vb r.2]) [] [] :=
 ent3 Tryz.call67 Tryz.func67 rfl fun X=>jA 2 rfl<|jA 3 rfl<|jA 3 rfl<|jjnK (fun s1 K=>K [0,1,2,8] [] [0] [(9, vi s1)] []) (jbk<|jlpK (fun s2 K=>K [0,1,2,8] [] [0] [(9, vi s2.1), (10, vi s2.2)] []) (gv (fun _ k=>k) [] (gq [0]))<|fun s2 _ k=>k<|jsq<|jA 3 rfl<|jif rfl (jC<|jbk<|
  jsr<|jpc 3 rfl<|jpe (.int .u64 (IntKind.u64.wrap (w64 (s2.1 + s2.2))))<|jpe (.int .u64 (shr .u64 (IntKind.u64.wrap (w64 (s2.1 + s2.2))) 1))<|jpe (vi (w64 (shr .u64 (IntKind.u64.wrap (w64 (s2.1 + s2.2))) 1)))<|jpc 1 rfl<|jot<|jsr<|
  jpc 3 rfl<|jix 0 rfl rfl rfl<|fun x1 b1 o1=>jld true o_Packet (gk 0) rfl<|jpc 1 rfl<|jca .s [] [] c_channel_line_receive_1 rfl rfl rfl ⟨⟩<|fun r1 _ k=>k<|jpc 1 rfl<|jot<|jif rfl (jB 3 rfl<|jbn<|jln (gv (fun _ k=>k) [] (gq [1])))<|jB 2 rfl<|
  jbn<|jln (gv (fun _ k=>k) [] (gq [1])))<|jxe<|jte<|jle<|jbh<|jnn (gv (fun _ k=>k) [] (gq [0])))<|fun s1 _ k=>k<|jjn (fun s3 K=>K [(6, vi s3.1), (7, vb s3.2)] [] []) (jrg<|jpc 5 rfl<|jsg 39 rfl (jpc 3 rfl<|jix 0 rfl rfl rfl<|fun x2 b2 o2=>
  jld true o_Packet (gk 0) rfl<|jpc 1 rfl<|jca .s [] [] c_channel_line_receive_1 rfl rfl rfl ⟨⟩<|fun r2 _ k=>k<|jpc 1 rfl<|jpe (vb (r2 == 0))<|jpc 2 rfl<|joe<|jnn (gv (fun _ k=>k) [] ⟨⟩))<|jpc 8 rfl<|jpe (vb false)<|jpc 2 rfl<|joe<|
  jnn (gv (fun _ k=>k) [] ⟨⟩))<|fun s3 _ k=>k<|jxr<|jrg' rfl (lT rfl (lT rfl lN)) (fun _ k=>k) [] ⟨⟩

theorem c_slices_Insert_Packet {qd : Prop} {y0 : List T_Packet} {y1 : Int} {y2 : List T_Packet} : Con qd Tryz.prog 69 [sv p1 y0 c1, vi y1, sv p2 y2 c2] [r_1, r_2] [Al e_Packet 85 r_1 p1 c1 y0, Al e_Packet 85 r_2 p2 c2 y2] (m_slices_Insert_Packet y0 y1 y2) fun r K=>∀ p3 c3 r_3,K (sv p3 r c3) [[], r_2, r_3] [Al e_Packet 85 r_3 p3 c3 r] :=
 ent3 Tryz.call69 Tryz.func69 rfl fun X=>jgd (fun _ h=>insM_ok h)<|fun hc=>jAc 0 rfl<|fun hle hmx hp=>
  jsr<|jpc 1 rfl<|jot<|jsr<|jpc 2 rfl<|jv (fun h=>r_slV (E.n e_Packet) h rfl rfl hc.2.1 hc.2.2.1 hle (by kernel_rfl))<|jot<|jsr<|jpc 3 rfl<|jup 7 (vi 1) rfl (by rw [hc.1]; rfl)<|jot<|jsq<|jsr<|jpc 2 rfl<|jot<|jcf rfl<|jsk<|jtn<|
  jsr<|jpc 3 rfl<|jot<|jsq<|jsr<|jpc 3 rfl<|jot<|jsp (b := y1 == ((List.length y0 : Nat) : Int)) 22 rfl (fun hb=>jct rfl<|jme (ins_end hc hb)<|jsr<|jpc 2 rfl<|jao .s 0 1 0 1 rfl rfl rfl rfl<|fun z r_3 p3 c3=>jpc 1 rfl<|jot<|jxr<|jtr<|
  jr1 rfl rfl (fun _ k=>k p3 c3 r_3) [900,1,0] ⟨gk 0,⟨⟩⟩) (fun hb=>jcf rfl<|jsk<|jtn<|jsq<|jsr<|jpc 4 rfl<|jv (fun h=>r_cap h rfl Tryz.underlying43)<|jpc 1 rfl<|jot<|jme (insM_some hc)<|
  jsp (b := decide (((c1 : Nat) : Int) < w64 (((List.length y0 : Nat) : Int) + 1))) 31 rfl (fun hg=>jct rfl<|
  jsr<|jpc 2 rfl<|jv (fun h=>r_slP (E.n e_Packet) h rfl rfl (hpp hp) hc.2.1 (by omega) (by kernel_rfl))<|jpc 5 rfl<|jaG (i := y1.toNat) (k := List.length y0 + 1 - y1.toNat) .s 0 0 ((false, 0, 0) : T_Packet) (.agg #[vb false, vi 0, vi 0]) rfl (by omega) (by omega) (ins_full hc hg) (by omega) (ins_k hc) rfl rfl Tryz.underlying3 (vP vB (vP vI vI))<|fun r_3 b1 c3=>jpc 1 rfl<|jot<|
  jAc 0 rfl<|fun hl2 _ _=>jsr<|jpc 2 rfl<|jv (fun h=>r_slV (E.n e_Packet) h rfl rfl hc.2.1 (by omega) (ins_l2 hc hl2) (by kernel_rfl))<|jpc 1 rfl<|jcp .s 2 0 rfl (vwV (vwP (.inr ⟨_, _, rfl⟩) hc.2.1 (ins_l3 hc) hl2 (ins_l4 hc))) (srA 1 2 rfl) rfl rfl<|fun r_4=>jot<|
  jds [] [] 9<|jdc 5 [0,1,2,3] rfl<|jdv 4 rfl (fun h=>r_slV (E.n e_Packet) h rfl rfl (ins_w0 hc) (ins_w1 hc) (ins_l2 hc hl2) (by kernel_rfl))<|jdc 2 [5,6] rfl<|jdv 7 rfl (fun h=>r_slV (E.n e_Packet) h rfl rfl hc.2.1 hc.2.2.1 hle (by kernel_rfl))<|
  jd1 8<|jcp (.f rfl) 2 0 rfl (vwV (ins_vw hc (.inr ⟨_, _, rfl⟩) hl2)) (srV 0 2 (vwP (hpp hp) hc.2.1 hc.2.2.1 hle rfl) rfl) rfl rfl<|fun r_5=>jdn<|jde<|jtn<|
  jsr<|jpc 2 rfl<|jot<|jxr<|jtr<|jup 6 (sv (some ⟨b1, 0, none⟩) (List.take y1.toNat y0 ++ y2 ++ List.drop y1.toNat y0) c3) rfl (ins_hd hc)<|jr1 rfl rfl (fun _ k=>k _ c3 r_5) [900,1,2] ⟨gE (gk 0) (ins_fin hc),⟨⟩⟩) (fun hg=>jcf rfl<|jsk<|jtn<|
  jAb 0 rfl (ins_ne hc hb)<|fun b1 o1 hb1=>jsr<|jpc 4 rfl<|jv (fun h=>r_slP (E.n e_Packet) h rfl rfl (hpp hp) (ins_v0 hc) (ins_v1 hc hg) (by kernel_rfl))<|jpc 1 rfl<|jup 0 (.slice p1 (List.length y0 + 1) c1) rfl (ins_v2 hc)<|jot<|
  jsq<|jsr<|jpc 5 rfl<|jv (fun h=>r_slV (E.n e_Packet) h rfl rfl (ins_w0 hc) (ins_w2 hc) (ins_room hc hg) (by kernel_rfl))<|jov (tb := 4) 0 1 0 1 (by decide) (ins_z hc) rfl rfl hb1 (ins_c0 hc hg) rfl rfl (pV_some hb1 (ins_w3 hc hb hg)) Tryz.func86 (by kernel_rfl)<|jpc 1 rfl<|jot<|jct rfl<|
  jds [] [] 9<|jdc 5 [0,1,2,3] rfl<|jdv 4 rfl (fun h=>r_slV (E.n e_Packet) h rfl rfl (ins_w0 hc) (ins_w2 hc) (ins_room hc hg) (by kernel_rfl))<|jdc 2 [5,6] rfl<|jdv 7 rfl (fun h=>r_slV (E.n e_Packet) h rfl rfl hc.2.1 (by omega) (ins_room hc hg) (by kernel_rfl))<|
  jd1 8<|jcU (k := y1.toNat) (.f rfl) 0 0 rfl hb1 (ins_lt hc hb) (ins_room hc hg) rfl rfl (ins_q1 hc hb hg hb1) (pV_some hb1 (ins_q2 hc hb hg)) (ins_m1 hc) rfl<|fun r_3=>jdn<|jde<|jtn<|
  jsr<|jpc 2 rfl<|jv (fun h=>r_slV (E.n e_Packet) h rfl rfl hc.2.1 (by omega) (ins_room hc hg) (by kernel_rfl))<|jpc 1 rfl<|jcp .s 0 0 rfl (vwV (vwP (hpp hp) hc.2.1 (ins_x1 hc hb) (ins_x2 hc hb hg) (ins_x3 hc hb))) (srA 1 2 rfl) rfl rfl<|fun r_4=>jot<|
  jsr<|jpc 2 rfl<|jot<|jxr<|jtr<|jup 6 (sv p1 (List.take y1.toNat y0 ++ y2 ++ List.drop y1.toNat y0) c1) rfl (ins_hd2 hc)<|jr1 rfl rfl (fun _ k=>k p1 c1 r_4) [900,1,0] ⟨gE (gk 0) (ins_fin2 hc hb),⟨⟩⟩))

theorem c_channel_line_receive {qd : Prop} {y0 : T_Channel} {y1 : T_Packet} : Con qd Tryz.prog 49 [pt b1 0, .agg #[vb y1.1, vi y1.2.1, vi y1.2.2]] [bx b1 81 [sv p1 y0.1 c1, vi y0.2.1, vi y0.2.2.1, sv p2 y0.2.2.2.1 c2, sv p3 y0.2.2.2.2.1 c3, sv p4 y0.2.2.2.2.2 c4], r_1, r_2, r_3] [Rl (eInt .i64) p1 c1 y0.1, Al (eInt .i64) 3 r_1 p2 c2 y0.2.2.2.1, Al e_Packet 85 r_2 p3 c3 y0.2.2.2.2.1, Al e_Packet 85 r_3 p4 c4 y0.2.2.2.2.2] (m_channel_line_receive y0 y1) fun r K=>∀ p5 c5 r_4 p6 c6 r_5 p7 c7 r_6,K (.tuple #[]) [bx b1 81 [sv p1 y0.1 c1, vi y0.2.1, vi y0.2.2.1, sv p5 r.1 c5, sv p6 r.2.1 c6, sv p7 r.2.2 c7], r_4, r_5, r_6] [Al (eInt .i64) 3 r_4 p5 c5 r.1, Al e_Packet 85 r_5 p6 c6 r.2.1, Al e_Packet 85 r_6 p7 c7 r.2.2] :=
 ent3 Tryz.call49 Tryz.func49 rfl fun X=>jsr<|jbx .s rfl<|fun b2=>jot<|jsr<|jpc 2 rfl<|jfa 0 rfl<|jfa 3 rfl<|jlo 0 rfl rfl rfl<|jpc 2 rfl<|jot<|jds [] [0, 4] 13<|jdc 11 [0,1] rfl<|jdf 2 0 rfl rfl<|jdf 3 4 rfl rfl<|jdo 4 0 rfl rfl rfl rfl<|jdf 5 1 rfl rfl<|jdo 6 4 rfl rfl rfl rfl<|
  jd1 7<|jca (.f rfl) [] [2] c_slices_BinarySearchFunc_int__channel_line_receive_1 rfl rfl rfl ⟨cl 2 2,⟨⟩⟩<|fun r1 _ k=>k<|jdn<|jdc 0 [8,9,10,11,12] rfl<|jde<|jtn<|
  jjnK (fun s1 K=>∀ p5 c5 r_4,K [0] [(0, bx b1 81 [sv p1 y0.1 c1, vi y0.2.1, vi y0.2.2.1, sv p2 y0.2.2.2.1 c2, sv p5 s1 c5, sv p4 y0.2.2.2.2.2 c4]), (2, []), (4, []), (5, r_4)] [0,1,3] [] [Al e_Packet 85 r_4 p5 c5 s1]) (
  jjpK (fun K=>K [0,3,5] [] [0,1,2,3] [(43, vb ((decide ((len y0.2.2.2.1) ≤ y1.2.1)) && ((decide (y1.2.1 < (w64 ((len y0.2.2.2.1) + y0.2.1)))) && (!r1.2))))] []) (jdS [] [0, 4] 20<|jdf 0 1 rfl rfl<|jdo 1 4 rfl rfl rfl rfl<|
  jdc 15 [2,3,4] rfl<|jsp (b := decide ((len y0.2.2.2.1) ≤ y1.2.1)) 28 rfl (fun hb1=>jdf 5 1 rfl rfl<|jdo 6 4 rfl rfl rfl rfl<|jdc 10 [7,8,9] rfl<|jdf 10 0 rfl rfl<|jdf 11 1 rfl rfl<|jdo 12 0 rfl rfl rfl rfl<|jdc 5 [13,14] rfl<|
  jdp 15 (vb (decide (y1.2.1 < (w64 ((len y0.2.2.2.1) + y0.2.1))))) rfl<|jdc 3 [16] rfl<|jsp (b := decide (y1.2.1 < (w64 ((len y0.2.2.2.1) + y0.2.1)))) 40 rfl (fun hb2=>jdc 1 [17,18] rfl<|jdp 19 (vb (!r1.2)) rfl<|jde<|
  jup 43 (vb ((decide ((len y0.2.2.2.1) ≤ y1.2.1)) && ((decide (y1.2.1 < (w64 ((len y0.2.2.2.1) + y0.2.1)))) && (!r1.2)))) rfl (by rw [hb1,hb2]; rfl)<|jnn (gv (fun _ k=>k) [0,1,2,3,4] (gq [0,1,2,3])))<|fun hb2=>jdc 1 [17,18] rfl<|
  jdp 19 (vb false) rfl<|jde<|jup 43 (vb ((decide ((len y0.2.2.2.1) ≤ y1.2.1)) && ((decide (y1.2.1 < (w64 ((len y0.2.2.2.1) + y0.2.1)))) && (!r1.2)))) rfl (by rw [hb1,hb2]; rfl)<|jnn (gv (fun _ k=>k) [0,1,2,3,4] (gq [0,1,2,3])))<|fun hb1=>
  jdc 5 [5,6,7,8,9,10,11,12,13,14] rfl<|jdp 15 (vb false) rfl<|jdc 1 [16,17,18] rfl<|jdp 19 (vb false) rfl<|jde<|
  jup 43 (vb ((decide ((len y0.2.2.2.1) ≤ y1.2.1)) && ((decide (y1.2.1 < (w64 ((len y0.2.2.2.1) + y0.2.1)))) && (!r1.2)))) rfl (by rw [hb1]; rfl)<|jnn (gv (fun _ k=>k) [0,1,2,3,4] (gq [0,1,2,3])))<|fun _ k=>k<|jif rfl (jdS [13] [0, 4] 14<|
  jdc 11 [0,1,2] rfl<|jdf 3 0 rfl rfl<|jdf 4 4 rfl rfl<|jdo 5 0 rfl rfl rfl rfl<|jdc 7 [6] rfl<|jda 7 4 3 rfl rfl rfl rfl<|jd1 8<|
  jbo (.f rfl) (e := e_Packet) 85 [vb y1.1, vi y1.2.1, vi y1.2.2] ([y1] : List T_Packet) (rC (vP vB (vP vI vI)) rN)<|fun r_5 p6 c6=>jdn<|jd1 9<|jca (.f rfl) [2, 5] [] c_slices_Insert_Packet rfl rfl rfl (cq [3,0])<|fun r2 _ k p7 c7 r_6=>k<|
  jdn<|jdc 3 [10] rfl<|jdf 11 0 rfl rfl<|jdf 12 4 rfl rfl<|jd1 13<|jso (o := 4) (.f rfl) 0 rfl rfl rfl<|jdb [] [0, 4]<|jde<|jnn (gv (fun _ k=>k p7 c7 r_6) [0,1,902,3,904,6] (gq [0,2,3,5])))<|jsk<|
  jnn (gv (fun _ k=>k p3 c3 r_2) [0,1,902,3,904,2] (gq [2,0,1,3])))<|fun s1 _ k p5 c5 r_4=>k<|
  jjnK (fun s2 K=>∀ p8 c8 r_7 p9 c9 r_8,K [0] [(0, bx b1 81 [sv p1 y0.1 c1, vi y0.2.1, vi y0.2.2.1, sv p8 s2.1 c8, sv p9 s2.2 c9, sv p4 y0.2.2.2.2.2 c4]), (1, r_7), (5, r_8)] [1,3] [] [Al (eInt .i64) 3 r_7 p8 c8 s2.1, Al e_Packet 85 r_8 p9 c9 s2.2]) (
  jbk<|
  jlpK (fun s3 K=>∀ p10 c10 r_9 p11 c11 r_10,K [0] [(0, bx b1 81 [sv p1 y0.1 c1, vi y0.2.1, vi y0.2.2.1, sv p10 s3.1 c10, sv p11 s3.2 c11, sv p4 y0.2.2.2.2.2 c4]), (1, r_9), (5, r_10)] [1,3] [] [Al (eInt .i64) 3 r_9 p10 c10 s3.1, Al e_Packet 85 r_10 p11 c11 s3.2]) (gv (fun _ k=>k p2 c2 r_1 p5 c5 r_4) [0,1,902,3,904,5] (gq [2,0,1,3]))<|
  fun s3 _ k p10 c10 r_9 p11 c11 r_10=>k<|jsq<|jjnK (fun s4 K=>K [0] [] [2,0,1,3] [(80, vb s4)] []) (jdS [] [0, 5] 24<|jdc 22 [0,1] rfl<|jdf 2 0 rfl rfl<|jdf 3 4 rfl rfl<|jdo 4 0 rfl rfl rfl rfl<|jdc 16 [5,6,7] rfl<|jsg 64 rfl (
  jdc 14 [8,9] rfl<|jdf 10 0 rfl rfl<|jdf 11 4 rfl rfl<|jdo 12 0 rfl rfl rfl rfl<|jdI 13 1 rfl rfl rfl rfl<|fun x1 h1 b3 o1 hp1=>jdf 14 1 rfl rfl<|jdL 15 5 1 sI.snd.fst false oI rfl rfl hp1 h1 rfl<|jdc 6 [16,17] rfl<|jdf 18 0 rfl rfl<|
  jdf 19 3 rfl rfl<|jdo 20 0 rfl rfl rfl rfl<|jdc 1 [21,22] rfl<|jdp 23 (vb (x1.2.1 == (len s3.1))) rfl<|jde<|jnn (gv (fun _ k=>k) [0,1,902,3,904,5] (gq [2,0,1,3])))<|jdc 1 [8,9,10,11,12,13,14,15,16,17,18,19,20,21,22] rfl<|
  jdp 23 (vb false) rfl<|jde<|jnn (gv (fun _ k=>k) [0,1,902,3,904,5] (gq [2,0,1,3])))<|fun s4 _ k=>k<|jif rfl (jC<|jbk<|jds [19] [0, 5] 20<|jdc 17 [0,1,2] rfl<|jdf 3 0 rfl rfl<|jdf 4 3 rfl rfl<|jdo 5 0 rfl rfl rfl rfl<|jdc 12 [6,7] rfl<|
  jdf 8 0 rfl rfl<|jdf 9 4 rfl rfl<|jdo 10 0 rfl rfl rfl rfl<|jdI 11 2 rfl rfl rfl rfl<|fun x2 h2 b4 o2 hp2=>jdf 12 2 rfl rfl<|jdL 13 5 2 sI.snd.snd false oI rfl rfl hp2 h2 rfl<|jd1 14<|
  jbs (.f rfl) (e := eInt .i64) 3 [vi x2.2.2] ([x2.2.2] : List Int) (rC vI rN)<|fun p12 c12=>jdn<|jd1 15<|jar (.f rfl) 1 2 rfl (gk 0) rfl rfl<|fun x3 r_11 p13 c13=>jdn<|jdc 3 [16] rfl<|jdf 17 0 rfl rfl<|jdf 18 3 rfl rfl<|jd1 19<|
  jso (o := 3) (.f rfl) 0 rfl rfl rfl<|jdb [] [0, 5]<|jde<|jtn<|jrg<|jpc 3 rfl<|jfa 0 rfl<|jfa 4 rfl<|jlo 0 rfl rfl rfl<|jsE 4 rfl rfl rfl<|fun x4 p14 c14=>jpc 1 rfl<|jfa 0 rfl<|jfa 4 rfl<|jso .s 0 rfl rfl rfl<|joe<|jbn<|
  jln (gv (fun _ k=>k p13 c13 r_11 p14 c14 r_10) [0,1,902,3,904,5] (gq [1,0,3,6])))<|jxe<|jte<|jle<|jbh<|jnn (gv (fun _ k=>k p10 c10 r_9 p11 c11 r_10) [0,1,902,3,904,5] (gq [1,2,0,3])))<|fun s2 _ k p8 c8 r_7 p9 c9 r_8=>k<|jsr<|jpc 1 rfl<|
  jca .s [0] [1, 5, 3] c_channel_line_full rfl rfl rfl ⟨ck 2,cl 1 0,cl 5 1,cl 3 3,⟨⟩⟩<|fun r3 _ k=>k<|jpc 1 rfl<|jot<|jif rfl (jdS [18] [0] 19<|jdc 16 [0,1,2] rfl<|jdf 3 0 rfl rfl<|jdf 4 5 rfl rfl<|jdo 5 0 rfl rfl rfl rfl<|jdc 11 [6,7] rfl<|
  jdf 8 0 rfl rfl<|jdf 9 3 rfl rfl<|jdo 10 0 rfl rfl rfl rfl<|jdc 7 [11] rfl<|jdp 12 (.agg #[vb true, vi (len s2.1), vi 0]) rfl<|jd1 13<|
  jbs (.f rfl) (e := e_Packet) 85 [vb true, vi (len s2.1), vi 0] ([(true, len s2.1, 0)] : List T_Packet) (rC (vP vB (vP vI vI)) rN)<|fun p15 c15=>jdn<|jd1 14<|jar (.f rfl) 3 4 rfl (gk 0) rfl rfl<|fun x5 r_12 p16 c16=>jdn<|jdc 3 [15] rfl<|
  jdf 16 0 rfl rfl<|jdf 17 5 rfl rfl<|jd1 18<|jso (o := 5) (.f rfl) 0 rfl rfl rfl<|jdb [] [0]<|jde<|jrn<|jrg' rfl lN (fun _ k=>k p8 c8 r_7 p9 c9 r_8 p16 c16 r_12) [0,1,5,3] (gq [2,3,0]))<|jsk<|jrn<|
  jrg' rfl lN (fun _ k=>k p8 c8 r_7 p9 c9 r_8 p4 c4 r_3) [0,1,5,3] (gq [0,1,3])

theorem c_slices_Delete_Packet {qd : Prop} {y0 : List T_Packet} {y1 y2 : Int} : Con qd Tryz.prog 32 [sv p1 y0 c1, vi y1, vi y2] [r_1] [Al e_Packet 85 r_1 p1 c1 y0] (m_slices_Delete_Packet y0 y1 y2) fun r K=>∀ p2 c2 r_2,K (sv p2 r c2) [[], r_2] [Al e_Packet 85 r_2 p2 c2 r] :=
 ent3 Tryz.call32 Tryz.func32 rfl fun X=>jgd (fun _ h=>delM_ok h)<|fun hc=>jme (delM_some hc)<|jAc 0 rfl<|fun hle hmx hp=>
  jsr<|jpc 1 rfl<|jot<|jsr<|jpc 5 rfl<|jv (fun h=>r_slC (E.n e_Packet) h rfl rfl rfl rfl hc.1 hc.2.1 hc.2.2 (Int.ofNat_le.2 hle) (by kernel_rfl))<|jot<|jsq<|jsr<|jpc 3 rfl<|jot<|
  jsp (b := y1 == y2) 16 rfl (fun hb=>jct rfl<|jme (del_same hc hb)<|jsr<|jpc 2 rfl<|jot<|jxr<|jtr<|jr1 rfl rfl (fun _ k=>k p1 c1 r_1) [900,0] ⟨gk 0,⟨⟩⟩) (fun hb=>jcf rfl<|jsk<|jtn<|
  jsr<|jpc 3 rfl<|jot<|jds [] [] 8<|jdc 6 [0,1] rfl<|jdv 2 rfl (fun h=>r_slP (E.n e_Packet) h rfl rfl (hpp hp) hc.1 (by omega) (by kernel_rfl))<|jdc 3 [3,4] rfl<|jdv 5 rfl (fun h=>r_slV (E.n e_Packet) h rfl rfl (by omega) hc.2.2 hle (by kernel_rfl))<|
  jd1 6<|jaD (.f rfl) 0 0 rfl (by omega) (by omega) (fun b o hb hk=>pV_some hb (Nat.lt_of_lt_of_le hk hle)) rfl rfl rfl<|fun r_2=>jdn<|jdc 0 [7] rfl<|jde<|jtn<|
  jsr<|jpc 4 rfl<|jv (fun h=>r_slW (E.n e_Packet) h rfl rfl rfl (Int.natCast_nonneg _) (by omega) (Int.ofNat_le.2 hle) (by kernel_rfl))<|jcv .s 0 0 ((false, 0, 0) : T_Packet) (.agg #[vb false, vi 0, vi 0]) rfl (vwP (hpp hp) (Int.natCast_nonneg _) (by rw [len_del hc]; omega) (by rw [len_del hc]; exact hle) (by rw [len_del hc]; omega)) rfl (vP vB (vP vI vI))<|
  fun r_3=>jot<|jsr<|jpc 2 rfl<|jot<|jxr<|jup 6 (sv p1 (List.take y1.toNat y0 ++ List.drop y2.toNat y0) c1) rfl (del_hd hc)<|jr1 rfl rfl (fun _ k=>k p1 c1 r_3) [900,0] ⟨gP (gk 0) _ (del_take (by omega) (by omega)),⟨⟩⟩)

theorem c_channel_line_deliver {qd : Prop} {y0 : T_Channel} {y1 : Int} : Con qd Tryz.prog 31 [pt b1 0, vi y1] [bx b1 81 [sv p1 y0.1 c1, vi y0.2.1, vi y0.2.2.1, sv p2 y0.2.2.2.1 c2, sv p3 y0.2.2.2.2.1 c3, sv p4 y0.2.2.2.2.2 c4], r_1, r_2, r_3] [Rl (eInt .i64) p1 c1 y0.1, Al (eInt .i64) 3 r_1 p2 c2 y0.2.2.2.1, Al e_Packet 85 r_2 p3 c3 y0.2.2.2.2.1, Al e_Packet 85 r_3 p4 c4 y0.2.2.2.2.2] (m_channel_line_deliver y0 y1) fun r K=>∀ p5 c5 r_4 p6 c6 r_5 p7 c7 r_6,K (.tuple #[]) [bx b1 81 [sv p1 y0.1 c1, vi y0.2.1, vi r.1, sv p5 r.2.1 c5, sv p6 r.2.2.1 c6, sv p7 r.2.2.2 c7], r_4, r_5, r_6] [Al (eInt .i64) 3 r_4 p5 c5 r.2.1, Al e_Packet 85 r_5 p6 c6 r.2.2.1, Al e_Packet 85 r_6 p7 c7 r.2.2.2] :=
 ent3 Tryz.call31 Tryz.func31 rfl fun X=>jsr<|jpc 2 rfl<|jfa 0 rfl<|jfa 5 rfl<|jlo 0 rfl rfl rfl<|jpc 1 rfl<|jia 3 rfl rfl rfl<|fun x1 h1 b2 o1 hp1=>jlA 3 3 sI true o_Packet rfl hp1 h1 rfl<|jal .s (.agg #[vb false, vi 0, vi 0])<|fun b3=>jso .s 4 rfl rfl rfl<|jot<|jsr<|jpc 3 rfl<|
  jfa 0 rfl<|jfa 5 rfl<|jlo 0 rfl rfl rfl<|jpc 3 rfl<|jca .s [3] [] c_slices_Delete_Packet rfl rfl rfl (cq [3])<|fun r1 _ k p5 c5 r_4=>k<|jpc 1 rfl<|jfa 0 rfl<|jfa 5 rfl<|jso .s 0 rfl rfl rfl<|jot<|jsq<|jsr<|jfa 0 rfl<|jlo 4 rfl rfl rfl<|
  jot<|jif rfl (jds [12] [0, 4] 13<|jdc 10 [0,1,2] rfl<|jdf 3 0 rfl rfl<|jdf 4 2 rfl rfl<|jdo 5 0 rfl rfl rfl rfl<|jdf 6 1 rfl rfl<|jdo 7 4 rfl rfl rfl rfl<|jdc 3 [8,9] rfl<|jdf 10 0 rfl rfl<|jdf 11 2 rfl rfl<|jd1 12<|
  jso (o := 2) (.f rfl) 0 rfl rfl rfl<|jdb [] [0, 4]<|jde<|jtn<|jxr<|jtr<|jrg' rfl lN (fun _ k=>k p2 c2 r_1 p3 c3 r_2 p5 c5 r_4) [0,1,2,5] (gq [2,3,0]))<|jC<|jrg<|jpc 1 rfl<|jla 4 3 rfl rfl rfl<|
  jca .s [0, 1, 2, 5] [] c_channel_line_receive rfl rfl rfl (cq [1,2,3,0])<|fun r2 _ k p6 c6 r_5 p7 c7 r_6 p8 c8 r_7=>k<|joe<|jrn<|jrg' rfl lN (fun _ k=>k p6 c6 r_5 p7 c7 r_6 p8 c8 r_7) [0,1,2,5] (gq [0,1,2])

theorem c_channel_line_send_3 {qd : Prop} {y0 : T_Channel} {y1 : Int} : Con qd Tryz.prog 30 [pt b1 0, vi y1] [bx b1 81 [sv p1 y0.1 c1, vi y0.2.1, vi y0.2.2.1, sv p2 y0.2.2.2.1 c2, sv p3 y0.2.2.2.2.1 c3, sv p4 y0.2.2.2.2.2 c4], r_1, r_2, r_3] [Rl (eInt .i64) p1 c1 y0.1, Al (eInt .i64) 3 r_1 p2 c2 y0.2.2.2.1, Al e_Packet 85 r_2 p3 c3 y0.2.2.2.2.1, Al e_Packet 85 r_3 p4 c4 y0.2.2.2.2.2] (m_channel_line_send_3 y0 y1) fun r K=>∀ p5 c5 r_4,K (vi r.1) [bx b1 81 [sv p1 y0.1 c1, vi y0.2.1, vi y0.2.2.1, sv p2 y0.2.2.2.1 c2, sv p3 y0.2.2.2.2.1 c3, sv p5 r.2 c5], r_1, r_2, r_4] [Al e_Packet 85 r_4 p5 c5 r.2] :=
 ent3 Tryz.call30 Tryz.func30 rfl fun X=>jA 1 rfl<|jsr<|jpc 2 rfl<|jfa 0 rfl<|jfa 2 rfl<|jlo 0 rfl rfl rfl<|jpc 3 rfl<|jot<|jsq<|jbk<|
  jjpK (fun K=>K [0,5] [] [0,1,2,3] [(13, vb ((decide (y1 < 0)) || ((decide (y0.2.1 ≤ y1)) || ((decide ((w64 (y0.2.2.1 + y1)) < 0)) || (decide ((len y0.1) ≤ (w64 (y0.2.2.1 + y1))))))))] []) (jrg<|jpc 3 rfl<|
  jsp (b := decide (y1 < 0)) 16 rfl (fun hb1=>jpc 7 rfl<|jpe (vb true)<|jpc 3 rfl<|jpe (vb true)<|jpc 9 rfl<|jpe (vb true)<|jpc 1 rfl<|joe<|
  jup 13 (vb ((decide (y1 < 0)) || ((decide (y0.2.1 ≤ y1)) || ((decide ((w64 (y0.2.2.1 + y1)) < 0)) || (decide ((len y0.1) ≤ (w64 (y0.2.2.1 + y1)))))))) rfl (by rw [hb1]; rfl)<|jnn (gv (fun _ k=>k) [0,1,2,3] (gq [0,1,2,3])))<|fun hb1=>
  jpc 3 rfl<|jfa 0 rfl<|jfa 1 rfl<|jlo 0 rfl rfl rfl<|jpc 1 rfl<|jpe (vb (decide (y0.2.1 ≤ y1)))<|jpc 1 rfl<|jsp (b := decide (y0.2.1 ≤ y1)) 25 rfl (fun hb2=>jpc 2 rfl<|jpe (vb true)<|jpc 9 rfl<|jpe (vb true)<|jpc 1 rfl<|joe<|
  jup 13 (vb ((decide (y1 < 0)) || ((decide (y0.2.1 ≤ y1)) || ((decide ((w64 (y0.2.2.1 + y1)) < 0)) || (decide ((len y0.1) ≤ (w64 (y0.2.2.1 + y1)))))))) rfl (by rw [hb1,hb2]; rfl)<|jnn (gv (fun _ k=>k) [0,1,2,3] (gq [0,1,2,3])))<|fun hb2=>
  jpc 2 rfl<|jpe (vb (decide ((w64 (y0.2.2.1 + y1)) < 0)))<|jpc 1 rfl<|jsp (b := decide ((w64 (y0.2.2.1 + y1)) < 0)) 29 rfl (fun hb3=>jpc 8 rfl<|jpe (vb true)<|jpc 1 rfl<|joe<|
  jup 13 (vb ((decide (y1 < 0)) || ((decide (y0.2.1 ≤ y1)) || ((decide ((w64 (y0.2.2.1 + y1)) < 0)) || (decide ((len y0.1) ≤ (w64 (y0.2.2.1 + y1)))))))) rfl (by rw [hb1,hb2,hb3]; rfl)<|jnn (gv (fun _ k=>k) [0,1,2,3] (gq [0,1,2,3]))
  )<|fun hb3=>jpc 3 rfl<|jfa 0 rfl<|jfa 0 rfl<|jlo 0 rfl rfl rfl<|jpc 2 rfl<|jpe (vb (decide ((len y0.1) ≤ (w64 (y0.2.2.1 + y1)))))<|jpc 1 rfl<|joe<|
  jup 13 (vb ((decide (y1 < 0)) || ((decide (y0.2.1 ≤ y1)) || ((decide ((w64 (y0.2.2.1 + y1)) < 0)) || (decide ((len y0.1) ≤ (w64 (y0.2.2.1 + y1)))))))) rfl (by rw [hb1,hb2,hb3]; rfl)<|jnn (gv (fun _ k=>k) [0,1,2,3] (gq [0,1,2,3])))<|
  fun _ k=>k<|jif rfl (jA 1 rfl<|jxr<|jbr<|jtr<|jr1 rfl rfl (fun _ k=>k p4 c4 r_3) [0,1,2,3] (gq [3]))<|jsr<|jpc 1 rfl<|jca .s [0] [1, 2, 3] c_channel_line_full rfl rfl rfl ⟨ck 0,cl 1 1,cl 2 2,cl 3 3,⟨⟩⟩<|fun r1 _ k=>k<|jpc 1 rfl<|jot<|
  jif rfl (jA 1 rfl<|jxr<|jbr<|jtr<|jr1 rfl rfl (fun _ k=>k p4 c4 r_3) [0,1,2,3] (gq [3]))<|jsk<|jbn<|jtn<|jds [21] [0] 22<|jdc 19 [0,1,2] rfl<|jdf 3 0 rfl rfl<|jdf 4 5 rfl rfl<|jdo 5 0 rfl rfl rfl rfl<|jdc 13 [6,7,8] rfl<|jdf 9 0 rfl rfl<|
  jdf 10 0 rfl rfl<|jdo 11 0 rfl rfl rfl rfl<|jdc 9 [12] rfl<|jdi 13 0 rfl rfl rfl rfl<|fun x1 b2 o1=>jdl 14 false oI rfl (gk 0) rfl<|jdp 15 (.agg #[vb false, vi (w64 (y0.2.2.1 + y1)), vi x1]) rfl<|jd1 16<|
  jbs (.f rfl) (e := e_Packet) 85 [vb false, vi (w64 (y0.2.2.1 + y1)), vi x1] ([(false, w64 (y0.2.2.1 + y1), x1)] : List T_Packet) (rC (vP vB (vP vI vI)) rN)<|fun p5 c5=>jdn<|jd1 17<|jar (.f rfl) 3 5 rfl (gk 0) rfl rfl<|fun x2 r_4 p6 c6=>
  jdn<|jdc 3 [18] rfl<|jdf 19 0 rfl rfl<|jdf 20 5 rfl rfl<|jd1 21<|jso (o := 5) (.f rfl) 0 rfl rfl rfl<|jdb [] [0]<|jde<|jtn<|jA 1 rfl<|jxr<|jr1 rfl rfl (fun _ k=>k p6 c6 r_4) [0,1,2,3] (gq [0])

theorem c_channel_Finish {qd : Prop} {y0 : T_Channel} : Con qd Tryz.prog 15 [.agg #[sv p1 y0.1 c1, vi y0.2.1, vi y0.2.2.1, sv p2 y0.2.2.2.1 c2, sv p3 y0.2.2.2.2.1 c3, sv p4 y0.2.2.2.2.2 c4]] [] [Rl (eInt .i64) p1 c1 y0.1, Rl (eInt .i64) p2 c2 y0.2.2.2.1, Rl e_Packet p3 c3 y0.2.2.2.2.1, Rl e_Packet p4 c4 y0.2.2.2.2.2] (m_channel_Finish y0) fun r K=>∀ p5 c5 p6 c6 p7 c7 p8 c8,K (.tuple #[.agg #[sv p5 r.1.1 c5, vi r.1.2.1, vi r.1.2.2.1, sv p6 r.1.2.2.2.1 c6, sv p7 r.1.2.2.2.2.1 c7, sv p8 r.1.2.2.2.2.2 c8], vi r.2]) [] [Rl (eInt .i64) p5 c5 r.1.1, Rl (eInt .i64) p6 c6 r.1.2.2.2.1, Rl e_Packet p7 c7 r.1.2.2.2.2.1, Rl e_Packet p8 c8 r.1.2.2.2.2.2] :=
 ent3 Tryz.call15 Tryz.func15 rfl fun X=>jsr<|jbx .s rfl<|fun b1=>jal .s (.agg #[.slice none 0 0, vi 0, vi 0, .slice none 0 0, .slice none 0 0, .slice none 0 0])<|fun b2=>jpc 1 rfl<|jot<|jsr<|jla 0 6 rfl rfl rfl<|jcl c_channel_copied rfl (cq [0,1,2,3])<|
  fun r1 _ k b3 p5 c5 p6 c6 r_1 p7 c7 r_2 p8 c8 r_3=>k<|jpc 1 rfl<|jot<|jA 1 rfl<|jbk<|
  jlpK (fun s1 K=>∀ p9 c9 r_4 p10 c10 r_5 p11 c11 r_6,K [2,4] [(0, []), (2, bx b3 81 [sv p5 r1.1 c5, vi r1.2.1, vi s1.2.1, sv p9 s1.2.2.1 c9, sv p10 s1.2.2.2.1 c10, sv p11 s1.2.2.2.2 c11]), (3, r_4), (4, r_5), (5, r_6)] [0] [(5, vi s1.1)] [Al (eInt .i64) 3 r_4 p9 c9 s1.2.2.1, Al e_Packet 85 r_5 p10 c10 s1.2.2.2.1, Al e_Packet 85 r_6 p11 c11 s1.2.2.2.2]) (gv (fun _ k=>k p6 c6 r_1 p7 c7 r_2 p8 c8 r_3) [900,1,2,3,4,5] (gq [1,2,3,0]))<|
  fun s1 _ k p9 c9 r_4 p10 c10 r_5 p11 c11 r_6=>k<|jbk<|jsr<|jpc 2 rfl<|jfa 0 rfl<|jfa 5 rfl<|jro e_Packet 85<|jso .s 2 rfl rfl rfl<|jot<|jsq<|
  jjnK (fun s2 K=>∀ p12 c12 r_7,K [2,4,5] [(2, bx b3 81 [sv p5 r1.1 c5, vi r1.2.1, vi s1.2.1, sv p9 s1.2.2.1 c9, sv p10 s1.2.2.2.1 c10, sv p12 s2.2 c12]), (5, []), (6, r_7)] [4,1,2] [(22, vb s2.1)] [Al e_Packet 85 r_7 p12 c12 s2.2]) (jrg<|
  jpc 2 rfl<|jfa 0 rfl<|jla 2 6 rfl rfl rfl<|jca .s [] [3, 4, 6] c_channel_Done rfl rfl rfl ⟨ck 4,cl 3 1,cl 4 2,cl 6 0,⟨⟩⟩<|fun r2 _ k=>k<|jpc 1 rfl<|jsg 18 rfl (jpc 3 rfl<|jpe (vb true)<|joe<|
  jnn (gv (fun _ k=>k none 0 []) [900,1,2,3,4,905,6] (gq [0,4,1,2])))<|jpc 1 rfl<|jca .s [2, 3, 4, 6] [] c_channel_line_send_3 rfl rfl rfl (cq [4,1,2,0])<|fun r3 _ k p13 c13 r_8=>k<|jpc 1 rfl<|jpe (vb (r3.1 != 0))<|joe<|
  jnn (gv (fun _ k=>k p13 c13 r_8) [900,1,2,3,4,905,6] (gq [0,5,2,3])))<|fun s2 _ k p12 c12 r_7=>k<|jif rfl (jsr<|jpc 2 rfl<|jfa 0 rfl<|jla 2 6 rfl rfl rfl<|jpc 1 rfl<|jso .s 1 rfl rfl rfl<|jpc 1 rfl<|jot<|jxr<|jtr<|jbr<|jlr<|jbr<|
  jsh 3 2 rfl rfl<|jsh 4 4 rfl rfl<|jsh 6 2 rfl rfl<|
  jrg' rfl (lC 1 (.agg #[sv p5 r1.1 c5, vi r1.2.1, vi s1.2.1, sv p9 s1.2.2.1 c9, sv p10 s1.2.2.2.1 c10, sv p12 s2.2 c12]) rfl rfl (lT rfl lN)) (fun _ k=>k p5 c5 p9 c9 p10 c10 p12 c12) [] (gq [4,2,1,0]))<|jC<|jsr<|jpc 2 rfl<|jfa 0 rfl<|
  jfa 2 rfl<|jlo 2 rfl rfl rfl<|jpc 1 rfl<|jot<|jsr<|jpc 1 rfl<|jca .s [2, 3, 4, 6] [] c_channel_line_deliver rfl rfl rfl (cq [1,2,3,0])<|fun r4 _ k p14 c14 r_9 p15 c15 r_10 p16 c16 r_11=>k<|jot<|jsr<|jpc 1 rfl<|
  jca .s [2, 3, 4, 6] [] c_channel_line_deliver rfl rfl rfl (cq [4,0,1,2])<|fun r5 _ k p17 c17 r_12 p18 c18 r_13 p19 c19 r_14=>k<|jot<|jA 3 rfl<|jsr<|jpc 2 rfl<|jfa 0 rfl<|jfa 2 rfl<|jlo 2 rfl rfl rfl<|jpc 2 rfl<|jot<|jif rfl (jsr<|
  jpc 2 rfl<|jfa 0 rfl<|jla 2 6 rfl rfl rfl<|jpc 1 rfl<|jso .s 1 rfl rfl rfl<|jpc 1 rfl<|jot<|jxr<|jbr<|jlr<|jbr<|jsh 3 0 rfl rfl<|jsh 4 2 rfl rfl<|jsh 6 4 rfl rfl<|
  jrg' rfl (lC 1 (.agg #[sv p5 r1.1 c5, vi r1.2.1, vi r5.1, sv p17 r5.2.1 c17, sv p18 r5.2.2.1 c18, sv p19 r5.2.2.2 c19]) rfl rfl (lT rfl lN)) (fun _ k=>k p5 c5 p17 c17 p18 c18 p19 c19) [] (gq [10,2,1,0]))<|jsk<|jbn<|
  jln (gv (fun _ k=>k p17 c17 r_12 p18 c18 r_13 p19 c19 r_14) [900,1,2,3,4,6] (gq [0,1,2,7]))

theorem c_channel_New {qd : Prop} {y0 : List Int} {y1 : Int} : Con qd Tryz.prog 10 [sv p1 y0 c1, vi y1] [] [Rl (eInt .i64) p1 c1 y0] (m_channel_New y0 y1) fun r K=>∀ p2 c2 p3 c3 p4 c4 p5 c5,K (.tuple #[.agg #[sv p2 r.1.1 c2, vi r.1.2.1, vi r.1.2.2.1, sv p3 r.1.2.2.2.1 c3, sv p4 r.1.2.2.2.2.1 c4, sv p5 r.1.2.2.2.2.2 c5], vi r.2]) [] [Rl (eInt .i64) p2 c2 r.1.1, Rl (eInt .i64) p3 c3 r.1.2.2.2.1, Rl e_Packet p4 c4 r.1.2.2.2.2.1, Rl e_Packet p5 c5 r.1.2.2.2.2.2] :=
 ent3 Tryz.call10 Tryz.func10 rfl fun X=>jsr<|jal .s (.agg #[.slice none 0 0, vi 0, vi 0, .slice none 0 0, .slice none 0 0, .slice none 0 0])<|fun b1=>jpc 1 rfl<|jot<|jsq<|jbk<|jA 4 rfl<|jif rfl (jsr<|
  jpe (.agg #[.slice none 0 0, vi 0, vi 0, .slice none 0 0, .slice none 0 0, .slice none 0 0])<|jso .s 0 rfl rfl rfl<|jpc 1 rfl<|jot<|jxr<|jbr<|jtr<|
  jrg' rfl (lC 0 (.agg #[.slice none 0 0, vi 0, vi 0, .slice none 0 0, .slice none 0 0, .slice none 0 0]) rfl rfl (lT rfl lN)) (fun _ k=>k none 0 none 0 none 0 none 0) [] ⟨gn,gn,gn,gn,⟨⟩⟩)<|
  jjpK (fun K=>K [0,1,4] [] [0] [(11, vb ((decide (y1 < 1)) || (decide (8 < y1))))] []) (jrg<|jpc 3 rfl<|jsp (b := decide (y1 < 1)) 14 rfl (fun hb1=>jpc 2 rfl<|jpe (vb true)<|jpc 1 rfl<|joe<|
  jup 11 (vb ((decide (y1 < 1)) || (decide (8 < y1)))) rfl (by rw [hb1]; rfl)<|jnn (gv (fun _ k=>k) [0] (gq [0])))<|fun hb1=>jpc 2 rfl<|jpe (vb (decide (8 < y1)))<|jpc 1 rfl<|joe<|
  jup 11 (vb ((decide (y1 < 1)) || (decide (8 < y1)))) rfl (by rw [hb1]; rfl)<|jnn (gv (fun _ k=>k) [0] (gq [0])))<|fun _ k=>k<|jif rfl (jsr<|jpe (.agg #[.slice none 0 0, vi 0, vi 0, .slice none 0 0, .slice none 0 0, .slice none 0 0])<|
  jso .s 0 rfl rfl rfl<|jpc 1 rfl<|jot<|jxr<|jbr<|jtr<|jrg' rfl (lC 0 (.agg #[.slice none 0 0, vi 0, vi 0, .slice none 0 0, .slice none 0 0, .slice none 0 0]) rfl rfl (lT rfl lN)) (fun _ k=>k none 0 none 0 none 0 none 0) [] ⟨gn,gn,gn,gn,⟨⟩⟩
  )<|jsk<|jbn<|jtn<|jsr<|jpc 1 rfl<|jcl c_slices_Clone_int rfl (cq [0])<|fun r1 _ k p2 c2 r_1=>k<|jpc 1 rfl<|jpe (.agg #[sv p2 r1 c2, vi y1, vi 0, .slice none 0 0, .slice none 0 0, .slice none 0 0])<|jso .s 0 rfl rfl rfl<|jpc 1 rfl<|jot<|
  jxr<|jsh 1 0 rfl rfl<|jrg' rfl (lC 0 (.agg #[sv p2 r1 c2, vi y1, vi 0, .slice none 0 0, .slice none 0 0, .slice none 0 0]) rfl rfl (lT rfl lN)) (fun _ k=>k p2 c2 none 0 none 0 none 0) [] ⟨gk 0,gn,gn,gn,⟨⟩⟩

theorem c_channel_line_send {qd : Prop} {y0 : T_Channel} {y1 : Int} : Con qd Tryz.prog 30 [pt b1 0, vi y1] [bx b1 81 [sv p1 y0.1 c1, vi y0.2.1, vi y0.2.2.1, sv p2 y0.2.2.2.1 c2, sv p3 y0.2.2.2.2.1 c3, sv p4 y0.2.2.2.2.2 c4], r_1] [Rl (eInt .i64) p1 c1 y0.1, Rl (eInt .i64) p2 c2 y0.2.2.2.1, Rl e_Packet p3 c3 y0.2.2.2.2.1, Al e_Packet 85 r_1 p4 c4 y0.2.2.2.2.2] (m_channel_line_send y0 y1) fun r K=>∀ p5 c5 r_2,K (vi r.1) [bx b1 81 [sv p1 y0.1 c1, vi y0.2.1, vi y0.2.2.1, sv p2 y0.2.2.2.1 c2, sv p3 y0.2.2.2.2.1 c3, sv p5 r.2 c5], r_2] [Al e_Packet 85 r_2 p5 c5 r.2] :=
 ent3 Tryz.call30 Tryz.func30 rfl fun X=>jA 1 rfl<|jsr<|jpc 2 rfl<|jfa 0 rfl<|jfa 2 rfl<|jlo 0 rfl rfl rfl<|jpc 3 rfl<|jot<|jsq<|jbk<|
  jjpK (fun K=>K [0,5] [] [0,1,2,3] [(13, vb ((decide (y1 < 0)) || ((decide (y0.2.1 ≤ y1)) || ((decide ((w64 (y0.2.2.1 + y1)) < 0)) || (decide ((len y0.1) ≤ (w64 (y0.2.2.1 + y1))))))))] []) (jrg<|jpc 3 rfl<|
  jsp (b := decide (y1 < 0)) 16 rfl (fun hb1=>jpc 7 rfl<|jpe (vb true)<|jpc 3 rfl<|jpe (vb true)<|jpc 9 rfl<|jpe (vb true)<|jpc 1 rfl<|joe<|
  jup 13 (vb ((decide (y1 < 0)) || ((decide (y0.2.1 ≤ y1)) || ((decide ((w64 (y0.2.2.1 + y1)) < 0)) || (decide ((len y0.1) ≤ (w64 (y0.2.2.1 + y1)))))))) rfl (by rw [hb1]; rfl)<|jnn (gv (fun _ k=>k) [0,1] (gq [0,1,2,3])))<|fun hb1=>jpc 3 rfl<|
  jfa 0 rfl<|jfa 1 rfl<|jlo 0 rfl rfl rfl<|jpc 1 rfl<|jpe (vb (decide (y0.2.1 ≤ y1)))<|jpc 1 rfl<|jsp (b := decide (y0.2.1 ≤ y1)) 25 rfl (fun hb2=>jpc 2 rfl<|jpe (vb true)<|jpc 9 rfl<|jpe (vb true)<|jpc 1 rfl<|joe<|
  jup 13 (vb ((decide (y1 < 0)) || ((decide (y0.2.1 ≤ y1)) || ((decide ((w64 (y0.2.2.1 + y1)) < 0)) || (decide ((len y0.1) ≤ (w64 (y0.2.2.1 + y1)))))))) rfl (by rw [hb1,hb2]; rfl)<|jnn (gv (fun _ k=>k) [0,1] (gq [0,1,2,3])))<|fun hb2=>
  jpc 2 rfl<|jpe (vb (decide ((w64 (y0.2.2.1 + y1)) < 0)))<|jpc 1 rfl<|jsp (b := decide ((w64 (y0.2.2.1 + y1)) < 0)) 29 rfl (fun hb3=>jpc 8 rfl<|jpe (vb true)<|jpc 1 rfl<|joe<|
  jup 13 (vb ((decide (y1 < 0)) || ((decide (y0.2.1 ≤ y1)) || ((decide ((w64 (y0.2.2.1 + y1)) < 0)) || (decide ((len y0.1) ≤ (w64 (y0.2.2.1 + y1)))))))) rfl (by rw [hb1,hb2,hb3]; rfl)<|jnn (gv (fun _ k=>k) [0,1] (gq [0,1,2,3])))<|fun hb3=>
  jpc 3 rfl<|jfa 0 rfl<|jfa 0 rfl<|jlo 0 rfl rfl rfl<|jpc 2 rfl<|jpe (vb (decide ((len y0.1) ≤ (w64 (y0.2.2.1 + y1)))))<|jpc 1 rfl<|joe<|
  jup 13 (vb ((decide (y1 < 0)) || ((decide (y0.2.1 ≤ y1)) || ((decide ((w64 (y0.2.2.1 + y1)) < 0)) || (decide ((len y0.1) ≤ (w64 (y0.2.2.1 + y1)))))))) rfl (by rw [hb1,hb2,hb3]; rfl)<|jnn (gv (fun _ k=>k) [0,1] (gq [0,1,2,3])))<|fun _ k=>k<|
  jif rfl (jA 1 rfl<|jxr<|jbr<|jtr<|jr1 rfl rfl (fun _ k=>k p4 c4 r_1) [0,1] (gq [3]))<|jsr<|jpc 1 rfl<|jca .s [0] [1] c_channel_line_full rfl rfl rfl ⟨ck 0,ck 1,ck 2,cl 1 3,⟨⟩⟩<|fun r1 _ k=>k<|jpc 1 rfl<|jot<|jif rfl (jA 1 rfl<|jxr<|jbr<|
  jtr<|jr1 rfl rfl (fun _ k=>k p4 c4 r_1) [0,1] (gq [3]))<|jsk<|jbn<|jtn<|jds [21] [0] 22<|jdc 19 [0,1,2] rfl<|jdf 3 0 rfl rfl<|jdf 4 5 rfl rfl<|jdo 5 0 rfl rfl rfl rfl<|jdc 13 [6,7,8] rfl<|jdf 9 0 rfl rfl<|jdf 10 0 rfl rfl<|
  jdo 11 0 rfl rfl rfl rfl<|jdc 9 [12] rfl<|jdi 13 0 rfl rfl rfl rfl<|fun x1 b2 o1=>jdl 14 false oI rfl (gk 0) rfl<|jdp 15 (.agg #[vb false, vi (w64 (y0.2.2.1 + y1)), vi x1]) rfl<|jd1 16<|
  jbs (.f rfl) (e := e_Packet) 85 [vb false, vi (w64 (y0.2.2.1 + y1)), vi x1] ([(false, w64 (y0.2.2.1 + y1), x1)] : List T_Packet) (rC (vP vB (vP vI vI)) rN)<|fun p5 c5=>jdn<|jd1 17<|jar (.f rfl) 1 5 rfl (gk 0) rfl rfl<|fun x2 r_2 p6 c6=>
  jdn<|jdc 3 [18] rfl<|jdf 19 0 rfl rfl<|jdf 20 5 rfl rfl<|jd1 21<|jso (o := 5) (.f rfl) 0 rfl rfl rfl<|jdb [] [0]<|jde<|jtn<|jA 1 rfl<|jxr<|jr1 rfl rfl (fun _ k=>k p6 c6 r_2) [0,1] (gq [0])

theorem c_channel_Step {qd : Prop} {y0 : T_Channel} {y1 : T_NetEvent} : Con qd Tryz.prog 14 [.agg #[sv p1 y0.1 c1, vi y0.2.1, vi y0.2.2.1, sv p2 y0.2.2.2.1 c2, sv p3 y0.2.2.2.2.1 c3, sv p4 y0.2.2.2.2.2 c4], .agg #[vi y1.1, vi y1.2]] [] [Rl (eInt .i64) p1 c1 y0.1, Rl (eInt .i64) p2 c2 y0.2.2.2.1, Rl e_Packet p3 c3 y0.2.2.2.2.1, Rl e_Packet p4 c4 y0.2.2.2.2.2] (m_channel_Step y0 y1) fun r K=>∀ p5 c5 p6 c6 p7 c7 p8 c8,K (.tuple #[.agg #[sv p5 r.1.1 c5, vi r.1.2.1, vi r.1.2.2.1, sv p6 r.1.2.2.2.1 c6, sv p7 r.1.2.2.2.2.1 c7, sv p8 r.1.2.2.2.2.2 c8], vi r.2]) [] [Rl (eInt .i64) p5 c5 r.1.1, Rl (eInt .i64) p6 c6 r.1.2.2.2.1, Rl e_Packet p7 c7 r.1.2.2.2.2.1, Rl e_Packet p8 c8 r.1.2.2.2.2.2] :=
 ent3 Tryz.call14 Tryz.func14 rfl fun X=>jsr<|jbx .s rfl<|fun b1=>jbx .s rfl<|fun b2=>jal .s (.agg #[.slice none 0 0, vi 0, vi 0, .slice none 0 0, .slice none 0 0, .slice none 0 0])<|fun b3=>jpc 1 rfl<|jot<|jsr<|jla 0 6 rfl rfl rfl<|jcl c_channel_copied rfl (cq [0,1,2,3])<|
  fun r1 _ k b4 p5 c5 p6 c6 r_1 p7 c7 r_2 p8 c8 r_3=>k<|jpc 1 rfl<|jot<|jsq<|jsr<|jfa 0 rfl<|jlo 1 rfl rfl rfl<|jot<|jbk<|jA 2 rfl<|jif rfl (jsq<|jsr<|jpc 1 rfl<|jfa 1 rfl<|jlo 1 rfl rfl rfl<|jsh 4 1 rfl rfl<|jsh 5 3 rfl rfl<|
  jca .s [3, 6] [] c_channel_line_send rfl rfl rfl (cq [2,1,0,5])<|fun r2 _ k p9 c9 r_4=>k<|jpc 1 rfl<|jot<|jA 2 rfl<|jif rfl (jsr<|jpe (.agg #[.slice none 0 0, vi 0, vi 0, .slice none 0 0, .slice none 0 0, .slice none 0 0])<|jpc 1 rfl<|
  jso .s 2 rfl rfl rfl<|jpc 1 rfl<|jot<|jxr<|jtr<|jbr<|jtr<|
  jrg' rfl (lC 2 (.agg #[.slice none 0 0, vi 0, vi 0, .slice none 0 0, .slice none 0 0, .slice none 0 0]) rfl rfl (lT rfl lN)) (fun _ k=>k none 0 none 0 none 0 none 0) [] ⟨gn,gn,gn,gn,⟨⟩⟩)<|jC<|jsr<|jpc 2 rfl<|jfa 0 rfl<|jla 3 6 rfl rfl rfl<|
  jso .s 2 rfl rfl rfl<|jpc 1 rfl<|jot<|jxr<|jbr<|jtr<|jsh 6 0 rfl rfl<|
  jrg' rfl (lC 2 (.agg #[sv p5 r1.1 c5, vi r1.2.1, vi r1.2.2.1, sv p6 r1.2.2.2.1 c6, sv p7 r1.2.2.2.2.1 c7, sv p9 r2.2 c9]) rfl rfl (lT rfl lN)) (fun _ k=>k p5 c5 p6 c6 p7 c7 p9 c9) [] (gq [4,3,2,0]))<|
  jjnK (fun s1 K=>K [2,3,4,6] [] [4,5,6,7,0,1,2,3] [(27, vb s1)] []) (jA 2 rfl<|jif rfl (jsk<|jnn (gv (fun _ k=>k) [0,1,2,3,4,5,6] (gq [4,5,6,7,0,1,2,3])))<|jA 2 rfl<|jif rfl (jsk<|jnn (gv (fun _ k=>k) [0,1,2,3,4,5,6] (gq [4,5,6,7,0,1,2,3]))
  )<|jB 2 rfl<|jnn (gv (fun _ k=>k) [0,1,2,3,4,5,6] (gq [4,5,6,7,0,1,2,3])))<|fun s1 _ k=>k<|jif rfl (jsk<|jbn<|jtn<|jsq<|
  jjpK (fun K=>K [3,4,6] [(0, [])] [4,5,6,7] [(41, vb ((decide (y1.2 < 0)) || (decide ((len y0.2.2.2.2.2) ≤ y1.2))))] []) (jrg<|jfa 1 rfl<|jlo 1 rfl rfl rfl<|jpc 2 rfl<|jsp (b := decide (y1.2 < 0)) 34 rfl (fun hb1=>jpc 6 rfl<|jpe (vb true)<|
  joe<|jup 41 (vb ((decide (y1.2 < 0)) || (decide ((len y0.2.2.2.2.2) ≤ y1.2)))) rfl (by rw [hb1]; rfl)<|jnn (gv (fun _ k=>k) [900,1,2,3,4,5,6] (gq [4,5,6,7])))<|fun hb1=>jfa 1 rfl<|jlo 1 rfl rfl rfl<|jfa 5 rfl<|jlo 0 rfl rfl rfl<|jpc 2 rfl<|
  jpe (vb (decide ((len y0.2.2.2.2.2) ≤ y1.2)))<|joe<|jup 41 (vb ((decide (y1.2 < 0)) || (decide ((len y0.2.2.2.2.2) ≤ y1.2)))) rfl (by rw [hb1]; rfl)<|jnn (gv (fun _ k=>k) [900,1,2,3,4,5,6] (gq [4,5,6,7])))<|fun _ k=>k<|jif rfl (jsr<|
  jpe (.agg #[.slice none 0 0, vi 0, vi 0, .slice none 0 0, .slice none 0 0, .slice none 0 0])<|jso .s 2 rfl rfl rfl<|jpc 1 rfl<|jot<|jxr<|jtr<|
  jrg' rfl (lC 2 (.agg #[.slice none 0 0, vi 0, vi 0, .slice none 0 0, .slice none 0 0, .slice none 0 0]) rfl rfl (lT rfl lN)) (fun _ k=>k none 0 none 0 none 0 none 0) [] ⟨gn,gn,gn,gn,⟨⟩⟩)<|jC<|
  jjoK (fun s2 K=>∀ p10 c10 r_5 p11 c11 r_6 p12 c12 r_7,K [4,6] [(1, []), (3, bx b4 81 [sv p5 r1.1 c5, vi r1.2.1, vi s2.1, sv p10 s2.2.1 c10, sv p11 s2.2.2.1 c11, sv p12 s2.2.2.2 c12]), (4, r_5), (5, r_6), (6, []), (7, r_7)] [0] [] [Al (eInt .i64) 3 r_5 p10 c10 s2.2.1, Al e_Packet 85 r_6 p11 c11 s2.2.2.1, Al e_Packet 85 r_7 p12 c12 s2.2.2.2]) (
  jsr<|jfa 0 rfl<|jlo 1 rfl rfl rfl<|jot<|jbk<|jA 2 rfl<|jif rfl (jrg<|jpc 1 rfl<|jfa 1 rfl<|jlo 1 rfl rfl rfl<|jca .s [3, 4, 5, 6] [] c_channel_line_deliver rfl rfl rfl (cq [0,1,2,3])<|fun r3 _ k p13 c13 r_8 p14 c14 r_9 p15 c15 r_10=>k<|
  joe<|jbn<|jln (gv (fun _ k=>k p13 c13 r_8 p14 c14 r_9 p15 c15 r_10) [900,901,2,3,4,5,906,6] (gq [0,1,2,3])))<|jA 2 rfl<|jif rfl (jdS [15] [1, 3] 16<|jdc 13 [0,1,2] rfl<|jdf 3 0 rfl rfl<|jdf 4 5 rfl rfl<|jdo 5 3 rfl rfl rfl rfl<|
  jdf 6 1 rfl rfl<|jdo 7 1 rfl rfl rfl rfl<|jdf 8 1 rfl rfl<|jdo 9 1 rfl rfl rfl rfl<|jdc 5 [10] rfl<|jd1 11<|jca (.f rfl) [6] [] c_slices_Delete_Packet rfl rfl rfl (cq [3])<|fun r4 _ k p16 c16 r_11=>k<|jdn<|jdc 3 [12] rfl<|jdf 13 0 rfl rfl<|
  jdf 14 5 rfl rfl<|jd1 15<|jso (o := 5) (.f rfl) 3 rfl rfl rfl<|jdb [] [1, 3]<|jde<|jbn<|jln (gv (fun _ k=>k p6 c6 r_1 p7 c7 r_2 p16 c16 r_11) [900,901,2,3,4,5,906,7] (gq [2,3,0,1])))<|jsq<|jsr<|jpc 1 rfl<|
  jca .s [3] [4, 5, 6] c_channel_line_full rfl rfl rfl ⟨ck 0,cl 4 1,cl 5 2,cl 6 3,⟨⟩⟩<|fun r5 _ k=>k<|jot<|jif rfl (jsr<|jpe (.agg #[.slice none 0 0, vi 0, vi 0, .slice none 0 0, .slice none 0 0, .slice none 0 0])<|jso .s 2 rfl rfl rfl<|
  jpc 1 rfl<|jot<|jxr<|jtr<|jbr<|jlr<|jrg' rfl (lC 2 (.agg #[.slice none 0 0, vi 0, vi 0, .slice none 0 0, .slice none 0 0, .slice none 0 0]) rfl rfl (lT rfl lN)) (fun _ k=>k none 0 none 0 none 0 none 0) [] ⟨gn,gn,gn,gn,⟨⟩⟩)<|jC<|
  jdS [16, 20] [1, 3, 6] 21<|jdc 18 [0,1,2] rfl<|jdf 3 0 rfl rfl<|jdf 4 5 rfl rfl<|jdo 5 3 rfl rfl rfl rfl<|jdc 13 [6,7] rfl<|jdf 8 0 rfl rfl<|jdf 9 5 rfl rfl<|jdo 10 3 rfl rfl rfl rfl<|jdf 11 1 rfl rfl<|jdo 12 1 rfl rfl rfl rfl<|
  jdI 13 3 rfl rfl rfl rfl<|fun x1 h1 b5 o1 hp1=>jdL 14 6 3 sI true o_Packet rfl rfl hp1 h1 rfl<|jd1 15<|jbs (.f rfl) (e := e_Packet) 85 [vb x1.1, vi x1.2.1, vi x1.2.2] ([x1] : List T_Packet) (rC (vP vB (vP vI vI)) rN)<|fun p17 c17=>jdn<|
  jd1 16<|jar (.f rfl) 6 4 rfl (gk 0) rfl rfl<|fun x2 r_12 p18 c18=>jdb [20] [1, 3, 6]<|jdc 3 [17] rfl<|jdf 18 0 rfl rfl<|jdf 19 5 rfl rfl<|jd1 20<|jso (o := 5) (.f rfl) 3 rfl rfl rfl<|jdb [] [1, 3, 6]<|jde<|jbn<|
  jln (gv (fun _ k=>k p6 c6 r_1 p7 c7 r_2 p18 c18 r_12) [900,901,2,3,4,5,906,6] (gq [3,4,0,2])))<|fun s2 _ k p10 c10 r_5 p11 c11 r_6 p12 c12 r_7=>k<|jsr<|jpc 2 rfl<|jfa 0 rfl<|jla 3 6 rfl rfl rfl<|jso .s 2 rfl rfl rfl<|jpc 1 rfl<|jot<|jxr<|
  jsh 4 0 rfl rfl<|jsh 5 2 rfl rfl<|jsh 7 4 rfl rfl<|
  jrg' rfl (lC 2 (.agg #[sv p5 r1.1 c5, vi r1.2.1, vi s2.1, sv p10 s2.2.1 c10, sv p11 s2.2.2.1 c11, sv p12 s2.2.2.2 c12]) rfl rfl (lT rfl lN)) (fun _ k=>k p5 c5 p10 c10 p11 c11 p12 c12) [] (gq [6,2,1,0]))<|jsr<|
  jpe (.agg #[.slice none 0 0, vi 0, vi 0, .slice none 0 0, .slice none 0 0, .slice none 0 0])<|jso .s 2 rfl rfl rfl<|jpc 1 rfl<|jot<|jxr<|jbr<|jtr<|
  jrg' rfl (lC 2 (.agg #[.slice none 0 0, vi 0, vi 0, .slice none 0 0, .slice none 0 0, .slice none 0 0]) rfl rfl (lT rfl lN)) (fun _ k=>k none 0 none 0 none 0 none 0) [] ⟨gn,gn,gn,gn,⟨⟩⟩

theorem c_keep_New {qd : Prop} {y0 : List Int} : Con qd Tryz.prog 4 [sv p1 y0 c1] [] [Rl (eInt .i64) p1 c1 y0] (m_keep_New y0) fun r K=>∀ b1 p2 c2,K (pt b1 0) [bx b1 66 [sv p2 r.1 c2, vi r.2]] [Rl (eInt .i64) p2 c2 r.1] :=
 ent3 Tryz.call4 Tryz.func4 rfl fun X=>jA 1 rfl<|jsr<|jpc 4 rfl<|jsl (gk 0) rfl rfl rfl (.inl ⟨rfl, rfl⟩) (.inr ⟨_, rfl⟩)<|fun x1 p2 c2=>jpe (.agg #[sv p2 x1 c2, vi 0])<|jbx .s rfl<|fun b1=>jpc 1 rfl<|jot<|jxr<|jr1 rfl rfl (fun _ k=>k b1 p2 c2) [0] (gq [0])

theorem c_keep_Src_More {qd : Prop} {y0 : T_keep_Src} : CoL qd Tryz.prog 12 [pt b1 0] [bx b1 66 [sv p1 y0.1 c1, vi y0.2]] [Rl (eInt .i64) p1 c1 y0.1] (m_keep_Src_More y0) fun L r K=>K (vb r) L [] :=
 ent3 Tryz.call12 Tryz.func12 rfl fun X=>jA 1 rfl<|jds [] [0] 11<|jdc 9 [0,1] rfl<|jdf 2 1 rfl rfl<|jdo 3 0 rfl rfl rfl rfl<|jdc 5 [4,5] rfl<|jdf 6 0 rfl rfl<|jdo 7 0 rfl rfl rfl rfl<|jdc 0 [8,9,10] rfl<|jde<|jtn<|jxr<|jr1 rfl rfl (fun _ k=>k) [0] ⟨⟩

theorem c_keep_Mod {qd : Prop} {y0 : Int} {y1 : Int} : Con qd Tryz.prog 22 [vi y0, vi y1] [] [] (m_keep_Mod y0 y1) fun r K=>K (vi r) [] [] :=
 ent3 Tryz.call22 Tryz.func22 rfl fun X=>jA 1 rfl<|jsq<|jA 2 rfl<|jif rfl (jA 1 rfl<|jxr<|jtr<|jr1 rfl rfl (fun _ k=>k) [] ⟨⟩)<|jC<|jsr<|jpc 2 rfl<|jbd fun x1 h1=>jv (fun h=>r_remK h rfl rfl h1)<|jpc 1 rfl<|jot<|jsq<|jA 2 rfl<|jif rfl (jB 4 rfl<|jtn<|jA 2 rfl<|jxr<|
  jr1 rfl rfl (fun _ k=>k) [] ⟨⟩)<|jC<|jA 2 rfl<|jxr<|jr1 rfl rfl (fun _ k=>k) [] ⟨⟩

theorem c_keep_Src_Raw {qd : Prop} {y0 : T_keep_Src} : Con qd Tryz.prog 23 [pt b1 0] [bx b1 66 [sv p1 y0.1 c1, vi y0.2]] [Rl (eInt .i64) p1 c1 y0.1] (m_keep_Src_Raw y0) fun r K=>K (vi r.1) [bx b1 66 [sv p1 y0.1 c1, vi r.2]] [] :=
 ent3 Tryz.call23 Tryz.func23 rfl fun X=>jA 1 rfl<|jsq<|jds [] [0] 10<|jdc 8 [0,1] rfl<|jdf 2 1 rfl rfl<|jdo 3 0 rfl rfl rfl rfl<|jdc 4 [4,5] rfl<|jdf 6 0 rfl rfl<|jdo 7 0 rfl rfl rfl rfl<|jdc 0 [8,9] rfl<|jde<|jtn<|jif rfl (jA 1 rfl<|jxr<|jtr<|jr1 rfl rfl (fun _ k=>k) [0] ⟨⟩)<|
  jC<|jsr<|jpc 2 rfl<|jfa 1 rfl<|jlo 0 rfl rfl rfl<|jpc 2 rfl<|jfa 1 rfl<|jso .s 0 rfl rfl rfl<|jot<|jds [] [0] 12<|jdc 10 [0,1] rfl<|jdf 2 0 rfl rfl<|jdo 3 0 rfl rfl rfl rfl<|jdc 6 [4,5] rfl<|jdf 6 1 rfl rfl<|jdo 7 0 rfl rfl rfl rfl<|
  jdc 3 [8] rfl<|jdi 9 0 rfl rfl rfl rfl<|fun x1 b2 o1=>jdl 10 false oI rfl (gk 0) rfl<|jdc 0 [11] rfl<|jde<|jtn<|jxr<|jr1 rfl rfl (fun _ k=>k) [0] ⟨⟩

theorem c_keep_Src_N {qd : Prop} {y0 : T_keep_Src} {y1 : Int} : Con qd Tryz.prog 7 [pt b1 0, vi y1] [bx b1 66 [sv p1 y0.1 c1, vi y0.2]] [Rl (eInt .i64) p1 c1 y0.1] (m_keep_Src_N y0 y1) fun r K=>K (vi r.1) [bx b1 66 [sv p1 y0.1 c1, vi r.2]] [] :=
 ent3 Tryz.call7 Tryz.func7 rfl fun X=>jA 1 rfl<|jsr<|jpc 1 rfl<|jca .s [0] [] c_keep_Src_Raw rfl rfl rfl (cq [0])<|fun r1 _ k=>k<|jpc 1 rfl<|jcl c_keep_Mod rfl ⟨⟩<|fun r2 _ k=>k<|jpc 1 rfl<|jot<|jxr<|jr1 rfl rfl (fun _ k=>k) [0] ⟨⟩

theorem c_keep_Src_Pick {qd : Prop} {y0 : T_keep_Src} {y1 : List Int} : Con qd Tryz.prog 13 [pt b1 0, sv p2 y1 c2] [bx b1 66 [sv p1 y0.1 c1, vi y0.2]] [Rl (eInt .i64) p1 c1 y0.1, Rl (eInt .i64) p2 c2 y1] (m_keep_Src_Pick y0 y1) fun r K=>K (vi r.1) [bx b1 66 [sv p1 y0.1 c1, vi r.2]] [] :=
 ent3 Tryz.call13 Tryz.func13 rfl fun X=>jA 1 rfl<|jsr<|jpc 4 rfl<|jca .s [0] [] c_keep_Src_N rfl rfl rfl (cq [0])<|fun r1 _ k=>k<|jix 1 rfl rfl rfl<|fun x1 b2 o1=>jld false oI (gk 0) rfl<|jpc 1 rfl<|jot<|jxr<|jr1 rfl rfl (fun _ k=>k) [0] ⟨⟩

theorem c_keep_Src_Range {qd : Prop} {y0 : T_keep_Src} {y1 : Int} {y2 : Int} : Con qd Tryz.prog 11 [pt b1 0, vi y1, vi y2] [bx b1 66 [sv p1 y0.1 c1, vi y0.2]] [Rl (eInt .i64) p1 c1 y0.1] (m_keep_Src_Range y0 y1 y2) fun r K=>K (vi r.1) [bx b1 66 [sv p1 y0.1 c1, vi r.2]] [] :=
 ent3 Tryz.call11 Tryz.func11 rfl fun X=>jA 1 rfl<|jsr<|jpc 6 rfl<|jca .s [0] [] c_keep_Src_N rfl rfl rfl (cq [0])<|fun r1 _ k=>k<|jpc 2 rfl<|jot<|jxr<|jr1 rfl rfl (fun _ k=>k) [0] ⟨⟩

theorem c_net_Pairs {qd : Prop} {y0 : List T_Pair} {y1 : List T_Pair} : Con qd Tryz.prog 58 [sv p1 y0 c1, sv p2 y1 c2] [] [Rl e_Pair p1 c1 y0, Rl e_Pair p2 c2 y1] (m_net_Pairs y0 y1) fun r K=>K (vb r) [] [] :=
 ent3 Tryz.call58 Tryz.func58 rfl fun X=>jA 1 rfl<|jsq<|jA 5 rfl<|jif rfl (jA 1 rfl<|jxr<|jtr<|jr1 rfl rfl (fun _ k=>k) [] ⟨⟩)<|jC<|jsq<|jA 1 rfl<|jbk<|jlpK (fun s1 K=>K [0,1] [] [0,1] [(5, vi s1)] []) (gv (fun _ k=>k) [] (gq [0,1]))<|fun s1 _ k=>k<|jsq<|jA 4 rfl<|jif rfl (jC<|
  jsq<|jbk<|jds [] [] 9<|jdc 7 [0,1] rfl<|jdi 2 0 rfl rfl rfl rfl<|fun x1 b1 o1=>jdl 3 true o_Pair rfl (gk 0) rfl<|jdc 3 [4,5] rfl<|jdi 6 2 rfl rfl rfl rfl<|fun x2 b2 o2=>jdl 7 true o_Pair rfl (gk 0) rfl<|jdp 8 (vb (!(x1 == x2))) rfl<|jde<|
  jtn<|jif rfl (jA 1 rfl<|jxr<|jbr<|jtr<|jlr<|jbr<|jtr<|jr1 rfl rfl (fun _ k=>k) [] ⟨⟩)<|jsk<|jbn<|jtn<|jB 3 rfl<|jln (gv (fun _ k=>k) [] (gq [2,3])))<|jxe<|jte<|jle<|jbh<|jtn<|jA 1 rfl<|jxr<|jr1 rfl rfl (fun _ k=>k) [] ⟨⟩

theorem c_net_Same {qd : Prop} {y0 : T_Graph} {y1 : T_Graph} : Con qd Tryz.prog 40 [.agg #[vi y0.1, sv p1 y0.2 c1], .agg #[vi y1.1, sv p2 y1.2 c2]] [] [Rl e_Pair p1 c1 y0.2, Rl e_Pair p2 c2 y1.2] (m_net_Same y0 y1) fun r K=>K (vb r) [] [] :=
 ent3 Tryz.call40 Tryz.func40 rfl fun X=>jsr<|jbx .s rfl<|fun b1=>jbx .s rfl<|fun b2=>jpc 1 rfl<|jot<|jjn (fun s1 K=>K [(4, vb s1)] [[], []] []) (jrg<|jfa 0 rfl<|jlo 0 rfl rfl rfl<|jfa 0 rfl<|jlo 1 rfl rfl rfl<|jpc 2 rfl<|jsg 10 rfl (jfa 1 rfl<|jlo 0 rfl rfl rfl<|jfa 1 rfl<|
  jlo 1 rfl rfl rfl<|jcl c_net_Pairs rfl (cq [0,1])<|fun r1 _ k=>k<|jpe (vb r1)<|jpc 1 rfl<|joe<|jnn (gv (fun _ k=>k) [900,901] ⟨⟩))<|jpc 5 rfl<|jpe (vb false)<|jpc 1 rfl<|joe<|jnn (gv (fun _ k=>k) [900,901] ⟨⟩))<|fun s1 _ k=>k<|jxr<|
  jr1 rfl rfl (fun _ k=>k) [] ⟨⟩

theorem c_ref27_SameMoves {qd : Prop} {y0 : List T_Move} {y1 : List T_Move} : Con qd Tryz.prog 41 [sv p1 y0 c1, sv p2 y1 c2] [] [Rl e_Move p1 c1 y0, Rl e_Move p2 c2 y1] (m_ref27_SameMoves y0 y1) fun r K=>K (vb r) [] [] :=
 ent3 Tryz.call41 Tryz.func41 rfl fun X=>jA 1 rfl<|jsq<|jA 5 rfl<|jif rfl (jA 1 rfl<|jxr<|jtr<|jr1 rfl rfl (fun _ k=>k) [] ⟨⟩)<|jC<|jsq<|jA 1 rfl<|jbk<|jlpK (fun s1 K=>K [0,1] [] [0,1] [(5, vi s1)] []) (gv (fun _ k=>k) [] (gq [0,1]))<|fun s1 _ k=>k<|jsq<|jA 4 rfl<|jif rfl (jC<|
  jsq<|jbk<|jds [] [] 9<|jdc 7 [0,1] rfl<|jdi 2 0 rfl rfl rfl rfl<|fun x1 b1 o1=>jdl 3 true o_Move rfl (gk 0) rfl<|jdc 3 [4,5] rfl<|jdi 6 2 rfl rfl rfl rfl<|fun x2 b2 o2=>jdl 7 true o_Move rfl (gk 0) rfl<|jdp 8 (vb (!(x1 == x2))) rfl<|jde<|
  jtn<|jif rfl (jA 1 rfl<|jxr<|jbr<|jtr<|jlr<|jbr<|jtr<|jr1 rfl rfl (fun _ k=>k) [] ⟨⟩)<|jsk<|jbn<|jtn<|jB 3 rfl<|jln (gv (fun _ k=>k) [] (gq [2,3])))<|jxe<|jte<|jle<|jbh<|jtn<|jA 1 rfl<|jxr<|jr1 rfl rfl (fun _ k=>k) [] ⟨⟩

theorem c_ref30_Same {qd : Prop} {y0 : T_Transcript} {y1 : T_Transcript} : Con qd Tryz.prog 18 [.agg #[vi y0.1.1, sv p1 y0.1.2 c1, vi y0.2.1, vi y0.2.2.1.1, vi y0.2.2.1.2, sv p2 y0.2.2.2 c2], .agg #[vi y1.1.1, sv p3 y1.1.2 c3, vi y1.2.1, vi y1.2.2.1.1, vi y1.2.2.1.2, sv p4 y1.2.2.2 c4]] [] [Rl e_Pair p1 c1 y0.1.2, Rl e_Move p2 c2 y0.2.2.2, Rl e_Pair p3 c3 y1.1.2, Rl e_Move p4 c4 y1.2.2.2] (m_ref30_Same y0 y1) fun r K=>K (vb r) [] [] :=
 ent3 Tryz.call18 Tryz.func18 rfl fun X=>jsr<|jbx .s rfl<|fun b1=>jbx .s rfl<|fun b2=>jpc 1 rfl<|jot<|jjn (fun s1 K=>K [(4, vb s1)] [[], []] []) (jrg<|jfa 0 rfl<|jla 0 2 rfl rfl rfl<|jfa 0 rfl<|jla 1 2 rfl rfl rfl<|jcl c_net_Same rfl (cq [0,2])<|fun r1 _ k=>k<|jpc 1 rfl<|
  jsg 10 rfl (jfa 2 rfl<|jlo 0 rfl rfl rfl<|jfa 2 rfl<|jlo 1 rfl rfl rfl<|jpc 1 rfl<|jpe (vb (y0.2.1 == y1.2.1))<|jpc 1 rfl<|jsg 17 rfl (jfa 3 rfl<|jla 0 2 rfl rfl rfl<|jfa 3 rfl<|jla 1 2 rfl rfl rfl<|
  jv (v := vb (y0.2.2.1 == y1.2.2.1)) (fun h=>r_eqA2 h rfl rfl Tryz.underlying29 Tryz.underlying3 (by kernel_rfl) (by kernel_rfl) (by kernel_rfl) (by kernel_rfl))<|jpe (vb (y0.2.2.1 == y1.2.2.1))<|jpc 1 rfl<|jsg 24 rfl (jfa 5 rfl<|
  jlo 0 rfl rfl rfl<|jfa 5 rfl<|jlo 1 rfl rfl rfl<|jcl c_ref27_SameMoves rfl (cq [1,3])<|fun r2 _ k=>k<|jpe (vb r2)<|jpc 1 rfl<|joe<|jnn (gv (fun _ k=>k) [900,901] ⟨⟩))<|jpc 5 rfl<|jpe (vb false)<|jpc 1 rfl<|joe<|
  jnn (gv (fun _ k=>k) [900,901] ⟨⟩))<|jpc 5 rfl<|jpe (vb false)<|jpc 6 rfl<|jpe (vb false)<|jpc 1 rfl<|joe<|jnn (gv (fun _ k=>k) [900,901] ⟨⟩))<|jpc 5 rfl<|jpe (vb false)<|jpc 6 rfl<|jpe (vb false)<|jpc 6 rfl<|jpe (vb false)<|jpc 1 rfl<|
  joe<|jnn (gv (fun _ k=>k) [900,901] ⟨⟩))<|fun s1 _ k=>k<|jxr<|jr1 rfl rfl (fun _ k=>k) [] ⟨⟩

theorem c_cmp_isNaN_int {qd : Prop} {y0 : Int} : Con qd Tryz.prog 111 [vi y0] [] [] (m_cmp_isNaN_int y0) fun r K=>K (vb r) [] [] :=
 ent3 Tryz.call111 Tryz.func111 rfl fun X=>jA 1 rfl<|jA 4 rfl<|jxr<|jr1 rfl rfl (fun _ k=>k) [] ⟨⟩

theorem c_cmp_Compare_int {qd : Prop} {y0 : Int} {y1 : Int} : Con qd Tryz.prog 99 [vi y0, vi y1] [] [] (m_cmp_Compare_int y0 y1) fun r K=>K (vi r) [] [] :=
 ent3 Tryz.call99 Tryz.func99 rfl fun X=>jA 1 rfl<|jsr<|jpc 1 rfl<|jcl c_cmp_isNaN_int rfl ⟨⟩<|fun r1 _ k=>k<|jpc 1 rfl<|jot<|jsr<|jpc 1 rfl<|jcl c_cmp_isNaN_int rfl ⟨⟩<|fun r2 _ k=>k<|jpc 1 rfl<|jot<|jsq<|jA 1 rfl<|jif rfl (jsq<|jA 1 rfl<|jif rfl (jA 1 rfl<|jxr<|jtr<|jtr<|
  jr1 rfl rfl (fun _ k=>k) [] ⟨⟩)<|jC<|jA 1 rfl<|jxr<|jtr<|jr1 rfl rfl (fun _ k=>k) [] ⟨⟩)<|jC<|jsq<|jA 1 rfl<|jif rfl (jA 1 rfl<|jxr<|jtr<|jr1 rfl rfl (fun _ k=>k) [] ⟨⟩)<|jC<|jsq<|jA 3 rfl<|jif rfl (jA 1 rfl<|jxr<|jtr<|
  jr1 rfl rfl (fun _ k=>k) [] ⟨⟩)<|jC<|jsq<|jA 3 rfl<|jif rfl (jA 1 rfl<|jxr<|jtr<|jr1 rfl rfl (fun _ k=>k) [] ⟨⟩)<|jC<|jA 1 rfl<|jxr<|jr1 rfl rfl (fun _ k=>k) [] ⟨⟩

theorem c_cmp_Or_int {qd : Prop} {y0 : List Int} : Con qd Tryz.prog 98 [sv p1 y0 c1] [] [Rl (eInt .i64) p1 c1 y0] (m_cmp_Or_int y0) fun r K=>K (vi r) [] [] :=
 ent3 Tryz.call98 Tryz.func98 rfl fun X=>jA 1 rfl<|jA 1 rfl<|jsq<|jA 3 rfl<|jbk<|jlpK (fun s1 K=>K [3,6,7] [] [0] [(8, vi s1)] []) (gv (fun _ k=>k) [] (gq [0]))<|fun s1 _ k=>k<|jA 1 rfl<|jsq<|jif rfl (jC<|jsq<|jbk<|jsr<|jix 0 rfl rfl rfl<|fun x1 b1 o1=>jld false oI (gk 0) rfl<|
  jpc 1 rfl<|jot<|jA 3 rfl<|jif rfl (jA 2 rfl<|jxr<|jbr<|jtr<|jlr<|jbr<|jtr<|jr1 rfl rfl (fun _ k=>k) [] ⟨⟩)<|jsk<|jbn<|jtn<|jB 2 rfl<|jln (gv (fun _ k=>k) [] (gq [1])))<|jxe<|jte<|jle<|jbh<|jtn<|jA 2 rfl<|jxr<|jr1 rfl rfl (fun _ k=>k) [] ⟨⟩

theorem c_graph_compare {qd : Prop} {y0 : T_Pair} {y1 : T_Pair} : Con qd Tryz.prog 88 [.agg #[vi y0.1, vi y0.2], .agg #[vi y1.1, vi y1.2]] [] [] (m_graph_compare y0 y1) fun r K=>K (vi r) [] [] :=
 ent3 Tryz.call88 Tryz.func88 rfl fun X=>jsr<|jbx .s rfl<|fun b1=>jbx .s rfl<|fun b2=>jpc 1 rfl<|jot<|jds [] [0, 1] 13<|jdf 0 0 rfl rfl<|jdo 1 0 rfl rfl rfl rfl<|jdf 2 0 rfl rfl<|jdo 3 1 rfl rfl rfl rfl<|jdf 5 1 rfl rfl<|jdo 6 0 rfl rfl rfl rfl<|jdf 7 1 rfl rfl<|
  jdo 8 1 rfl rfl rfl rfl<|jd1 4<|jca (.f rfl) [] [] c_cmp_Compare_int rfl rfl rfl ⟨⟩<|fun r1 _ k=>k<|jdn<|jd1 9<|jca (.f rfl) [] [] c_cmp_Compare_int rfl rfl rfl ⟨⟩<|fun r2 _ k=>k<|jdn<|jd1 10<|
  jbs (.f rfl) (e := eInt .i64) 3 [vi r1, vi r2] ([r1, r2] : List Int) (rC vI (rC vI rN))<|fun p1 c1=>jdn<|jd1 11<|jca (.f rfl) [] [] c_cmp_Or_int rfl rfl rfl (cq [0])<|fun r3 _ k=>k<|jdn<|jdc 0 [12] rfl<|jde<|jtn<|jxr<|
  jr1 rfl rfl (fun _ k=>k) [] ⟨⟩

theorem c_graph_Validate {qd : Prop} {y0 : T_Graph} : Con qd Tryz.prog 70 [.agg #[vi y0.1, sv p1 y0.2 c1]] [] [Rl e_Pair p1 c1 y0.2] (m_graph_Validate y0) fun r K=>K (vi r) [] [] :=
 ent3 Tryz.call70 Tryz.func70 rfl fun X=>jsr<|jbx .s rfl<|fun b1=>jpc 1 rfl<|jot<|jsq<|jjpK (fun K=>K [1] [] [0] [(12, vb ((decide (y0.1 < 0)) || (decide (40 < y0.1))))] []) (jrg<|jfa 0 rfl<|jlo 0 rfl rfl rfl<|jpc 2 rfl<|jsp (b := decide (y0.1 < 0)) 8 rfl (fun hb1=>jpc 3 rfl<|
  jpe (vb true)<|joe<|jup 12 (vb ((decide (y0.1 < 0)) || (decide (40 < y0.1)))) rfl (by rw [hb1]; rfl)<|jnn (gv (fun _ k=>k) [0] (gq [0])))<|fun hb1=>jfa 0 rfl<|jlo 0 rfl rfl rfl<|jpc 1 rfl<|jpe (vb (decide (40 < y0.1)))<|joe<|
  jup 12 (vb ((decide (y0.1 < 0)) || (decide (40 < y0.1)))) rfl (by rw [hb1]; rfl)<|jnn (gv (fun _ k=>k) [0] (gq [0])))<|fun _ k=>k<|jif rfl (jA 1 rfl<|jxr<|jtr<|jr1 rfl rfl (fun _ k=>k) [] ⟨⟩)<|jC<|jsq<|jsr<|jfa 1 rfl<|jlo 0 rfl rfl rfl<|
  jpc 2 rfl<|jot<|jbk<|jlpK (fun s1 K=>K [1,14,15] [] [0] [(16, vi s1)] []) (gv (fun _ k=>k) [0] (gq [0]))<|fun s1 _ k=>k<|jA 1 rfl<|jsq<|jif rfl (jC<|jsq<|jbk<|jsr<|jpc 1 rfl<|jix 0 rfl rfl rfl<|fun x1 b2 o1=>jld true o_Pair (gk 0) rfl<|
  jal .s (.agg #[vi 0, vi 0])<|fun b3=>jpc 1 rfl<|jso .s 1 rfl rfl rfl<|jot<|jsq<|
  jjpK (fun K=>K [1,3,4,14,15,16] [] [1] [(36, vb ((decide ((if x1.2 < x1.1 then x1.2 else x1.1) < 0)) || (decide (y0.1 ≤ (if x1.2 > x1.1 then x1.2 else x1.1)))))] []) (jrg<|jfa 0 rfl<|jlo 1 rfl rfl rfl<|jfa 1 rfl<|jlo 1 rfl rfl rfl<|
  jpc 3 rfl<|jsp (b := decide ((if x1.2 < x1.1 then x1.2 else x1.1) < 0)) 27 rfl (fun hb2=>jpc 8 rfl<|jpe (vb true)<|joe<|
  jup 36 (vb ((decide ((if x1.2 < x1.1 then x1.2 else x1.1) < 0)) || (decide (y0.1 ≤ (if x1.2 > x1.1 then x1.2 else x1.1))))) rfl (by rw [hb2]; rfl)<|jnn (gv (fun _ k=>k) [0,1] (gq [1])))<|fun hb2=>jfa 0 rfl<|jlo 1 rfl rfl rfl<|jfa 1 rfl<|
  jlo 1 rfl rfl rfl<|jpc 1 rfl<|jfa 0 rfl<|jlo 0 rfl rfl rfl<|jpc 1 rfl<|jpe (vb (decide (y0.1 ≤ (if x1.2 > x1.1 then x1.2 else x1.1))))<|joe<|
  jup 36 (vb ((decide ((if x1.2 < x1.1 then x1.2 else x1.1) < 0)) || (decide (y0.1 ≤ (if x1.2 > x1.1 then x1.2 else x1.1))))) rfl (by rw [hb2]; rfl)<|jnn (gv (fun _ k=>k) [0,1] (gq [1])))<|fun _ k=>k<|jif rfl (jA 1 rfl<|jxr<|jtr<|jbr<|jtr<|
  jlr<|jbr<|jtr<|jr1 rfl rfl (fun _ k=>k) [] ⟨⟩)<|jC<|jjnK (fun s2 K=>K [1,14,15,16] [(1, [])] [0] [(49, vb s2)] []) (jdS [] [0, 1] 13<|jdc 10 [0,1,2] rfl<|jsg 39 rfl (jdf 3 1 rfl rfl<|jdo 4 0 rfl rfl rfl rfl<|jdc 6 [5,6] rfl<|
  jdi 7 0 rfl rfl rfl rfl<|fun x2 b4 o2=>jdl 8 true o_Pair rfl (gk 0) rfl<|jda 9 1 2 rfl rfl rfl rfl<|jd1 10<|jca (.f rfl) [] [] c_graph_compare rfl rfl rfl ⟨⟩<|fun r1 _ k=>k<|jdn<|jdc 1 [11] rfl<|jdp 12 (vb (decide (0 ≤ r1))) rfl<|jde<|
  jnn (gv (fun _ k=>k) [0,901] (gq [1])))<|jdc 1 [3,4,5,6,7,8,9,10,11] rfl<|jdp 12 (vb false) rfl<|jde<|jnn (gv (fun _ k=>k) [0,901] (gq [0])))<|fun s2 _ k=>k<|jif rfl (jA 1 rfl<|jxr<|jbr<|jtr<|jlr<|jbr<|jtr<|jr1 rfl rfl (fun _ k=>k) [] ⟨⟩)<|
  jsk<|jbn<|jtn<|jB 2 rfl<|jln (gv (fun _ k=>k) [0] (gq [0])))<|jxe<|jte<|jle<|jbh<|jtn<|jA 1 rfl<|jxr<|jr1 rfl rfl (fun _ k=>k) [] ⟨⟩

theorem c_referee_in {qd : Prop} {y0 : Int} : Con qd Tryz.prog 78 [vi y0] [] [] (m_referee_in y0) fun r K=>K (vb r) [] [] :=
 ent3 Tryz.call78 Tryz.func78 rfl fun X=>jA 1 rfl<|jjp (fun K=>K [(2, vb ((decide (0 ≤ y0)) && (decide (y0 ≤ 200))))] [] []) (jrg<|jpc 3 rfl<|jsp (b := decide (0 ≤ y0)) 5 rfl (fun hb1=>jpc 2 rfl<|jpe (vb (decide (y0 ≤ 200)))<|jpc 1 rfl<|joe<|
  jup 2 (vb ((decide (0 ≤ y0)) && (decide (y0 ≤ 200)))) rfl (by rw [hb1]; rfl)<|jnn (gv (fun _ k=>k) [] ⟨⟩))<|fun hb1=>jpc 2 rfl<|jpe (vb false)<|jpc 1 rfl<|joe<|jup 2 (vb ((decide (0 ≤ y0)) && (decide (y0 ≤ 200)))) rfl (by rw [hb1]; rfl)<|
  jnn (gv (fun _ k=>k) [] ⟨⟩))<|fun _ k=>k<|jxr<|jr1 rfl rfl (fun _ k=>k) [] ⟨⟩

theorem c_referee_plain {qd : Prop} {y0 : T_Move} : Con qd Tryz.prog 79 [.agg #[vi y0.1, vi y0.2.1, vi y0.2.2.1, vi y0.2.2.2]] [] [] (m_referee_plain y0) fun r K=>K (vb r) [] [] :=
 ent3 Tryz.call79 Tryz.func79 rfl fun X=>jsr<|jbx .s rfl<|fun b1=>jpc 1 rfl<|jot<|jsq<|jjnK (fun s1 K=>K [1] [] [] [(22, vb s1)] []) (jrg<|jfa 0 rfl<|jlo 0 rfl rfl rfl<|jpc 2 rfl<|jsg 6 rfl (jfa 0 rfl<|jlo 0 rfl rfl rfl<|jpc 1 rfl<|jpe (vb (y0.1 != 2))<|jpc 1 rfl<|jsg 11 rfl (
  jpc 4 rfl<|jpe (vb true)<|jpc 5 rfl<|jpe (vb true)<|joe<|jnn (gv (fun _ k=>k) [0] ⟨⟩))<|jfa 2 rfl<|jlo 0 rfl rfl rfl<|jcl c_referee_in rfl ⟨⟩<|fun r1 _ k=>k<|jpc 1 rfl<|jpe (vb (!r1))<|jpc 1 rfl<|jsg 17 rfl (jpc 4 rfl<|jpe (vb true)<|joe<|
  jnn (gv (fun _ k=>k) [0] ⟨⟩))<|jfa 3 rfl<|jlo 0 rfl rfl rfl<|jcl c_referee_in rfl ⟨⟩<|fun r2 _ k=>k<|jpc 1 rfl<|jpe (vb (!r2))<|joe<|jnn (gv (fun _ k=>k) [0] ⟨⟩))<|jpc 3 rfl<|jpe (vb false)<|jpc 1 rfl<|jfa 2 rfl<|jlo 0 rfl rfl rfl<|
  jcl c_referee_in rfl ⟨⟩<|fun r3 _ k=>k<|jpc 1 rfl<|jpe (vb (!r3))<|jpc 1 rfl<|jsg 17 rfl (jpc 4 rfl<|jpe (vb true)<|joe<|jnn (gv (fun _ k=>k) [0] ⟨⟩))<|jfa 3 rfl<|jlo 0 rfl rfl rfl<|jcl c_referee_in rfl ⟨⟩<|fun r4 _ k=>k<|jpc 1 rfl<|
  jpe (vb (!r4))<|joe<|jnn (gv (fun _ k=>k) [0] ⟨⟩))<|fun s1 _ k=>k<|jif rfl (jA 1 rfl<|jxr<|jtr<|jr1 rfl rfl (fun _ k=>k) [] ⟨⟩)<|jC<|jsq<|jsr<|jfa 1 rfl<|jlo 0 rfl rfl rfl<|jot<|jbk<|jA 2 rfl<|jif rfl (jsr<|jfa 3 rfl<|jlo 0 rfl rfl rfl<|
  jpc 2 rfl<|jot<|jxr<|jbr<|jtr<|jr1 rfl rfl (fun _ k=>k) [] ⟨⟩)<|jA 2 rfl<|jif rfl (jA 1 rfl<|jxr<|jbr<|jtr<|jr1 rfl rfl (fun _ k=>k) [] ⟨⟩)<|jA 2 rfl<|jif rfl (jsr<|jfa 2 rfl<|jlo 0 rfl rfl rfl<|jpc 2 rfl<|jot<|jxr<|jbr<|jtr<|
  jr1 rfl rfl (fun _ k=>k) [] ⟨⟩)<|jA 2 rfl<|jif rfl (jjp (fun K=>K [(2, vb ((y0.2.2.1 == 0) && (y0.2.2.2 == 0)))] [[]] []) (jrg<|jfa 2 rfl<|jlo 0 rfl rfl rfl<|jpc 2 rfl<|jsp (b := y0.2.2.1 == 0) 42 rfl (fun hb5=>jfa 3 rfl<|
  jlo 0 rfl rfl rfl<|jpc 1 rfl<|jpe (vb (y0.2.2.2 == 0))<|jpc 1 rfl<|joe<|jup 2 (vb ((y0.2.2.1 == 0) && (y0.2.2.2 == 0))) rfl (by rw [hb5]; rfl)<|jnn (gv (fun _ k=>k) [900] ⟨⟩))<|fun hb5=>jpc 3 rfl<|jpe (vb false)<|jpc 1 rfl<|joe<|
  jup 2 (vb ((y0.2.2.1 == 0) && (y0.2.2.2 == 0))) rfl (by rw [hb5]; rfl)<|jnn (gv (fun _ k=>k) [900] ⟨⟩))<|fun _ k=>k<|jxr<|jbr<|jtr<|jr1 rfl rfl (fun _ k=>k) [] ⟨⟩)<|jsk<|jbn<|jtn<|jA 1 rfl<|jxr<|jr1 rfl rfl (fun _ k=>k) [] ⟨⟩

theorem c_referee_check {qd : Prop} {y0 : T_Transcript} : Con qd Tryz.prog 59 [.agg #[vi y0.1.1, sv p1 y0.1.2 c1, vi y0.2.1, vi y0.2.2.1.1, vi y0.2.2.1.2, sv p2 y0.2.2.2 c2]] [] [Rl e_Pair p1 c1 y0.1.2, Rl e_Move p2 c2 y0.2.2.2] (m_referee_check y0) fun r K=>K (vi r) [] [] :=
 ent3 Tryz.call59 Tryz.func59 rfl fun X=>jsr<|jbx .s rfl<|fun b1=>jpc 1 rfl<|jot<|jsq<|jsr<|jfa 0 rfl<|jla 0 2 rfl rfl rfl<|jcl c_graph_Validate rfl (cq [0])<|fun r1 _ k=>k<|jpc 1 rfl<|jot<|jA 2 rfl<|jif rfl (jA 2 rfl<|jxr<|jtr<|jr1 rfl rfl (fun _ k=>k) [] ⟨⟩)<|jC<|jsq<|
  jjnK (fun s1 K=>K [1] [] [0,1] [(35, vb s1)] []) (jrg<|jfa 2 rfl<|jlo 0 rfl rfl rfl<|jcl c_referee_in rfl ⟨⟩<|fun r2 _ k=>k<|jpc 2 rfl<|jsg 16 rfl (jpc 5 rfl<|jpe (vb true)<|jpc 6 rfl<|jpe (vb true)<|jpc 5 rfl<|jpe (vb true)<|joe<|
  jnn (gv (fun _ k=>k) [0] (gq [0,1])))<|jfa 3 rfl<|jv (v := pt b1 3) (fun h=>r_iaddr (k := 2) (sz := 1) h rfl rfl (by kernel_rfl) (by decide) rfl)<|jlo 0 rfl rfl rfl<|jcl c_referee_in rfl ⟨⟩<|fun r3 _ k=>k<|jpc 1 rfl<|jpe (vb (!r3))<|
  jpc 1 rfl<|jsg 23 rfl (jpc 5 rfl<|jpe (vb true)<|jpc 5 rfl<|jpe (vb true)<|joe<|jnn (gv (fun _ k=>k) [0] (gq [0,1])))<|jfa 3 rfl<|jv (v := pt b1 4) (fun h=>r_iaddr (k := 2) (sz := 1) h rfl rfl (by kernel_rfl) (by decide) rfl)<|
  jlo 0 rfl rfl rfl<|jcl c_referee_in rfl ⟨⟩<|fun r4 _ k=>k<|jpc 1 rfl<|jpe (vb (!r4))<|jpc 1 rfl<|jsg 30 rfl (jpc 4 rfl<|jpe (vb true)<|joe<|jnn (gv (fun _ k=>k) [0] (gq [0,1])))<|jfa 5 rfl<|jlo 0 rfl rfl rfl<|jpc 2 rfl<|
  jpe (vb (decide (200 < (len y0.2.2.2))))<|joe<|jnn (gv (fun _ k=>k) [0] (gq [0,1])))<|fun s1 _ k=>k<|jif rfl (jA 1 rfl<|jxr<|jtr<|jr1 rfl rfl (fun _ k=>k) [] ⟨⟩)<|jC<|jsq<|jsr<|jfa 5 rfl<|jlo 0 rfl rfl rfl<|jpc 2 rfl<|jot<|jbk<|
  jlpK (fun s2 K=>K [37,38] [(0, [])] [1] [(39, vi s2)] []) (gv (fun _ k=>k) [900] (gq [1]))<|fun s2 _ k=>k<|jA 1 rfl<|jsq<|jif rfl (jC<|jsq<|jbk<|jsr<|jix 0 rfl rfl rfl<|fun x1 b2 o1=>jld true o_Move (gk 0) rfl<|
  jal .s (.agg #[vi 0, vi 0, vi 0, vi 0])<|fun b3=>jso .s 1 rfl rfl rfl<|jot<|jsr<|jla 1 4 rfl rfl rfl<|jcl c_referee_plain rfl ⟨⟩<|fun r5 _ k=>k<|jpc 1 rfl<|jot<|jif rfl (jA 1 rfl<|jxr<|jbr<|jtr<|jlr<|jbr<|jtr<|jr1 rfl rfl (fun _ k=>k) [] ⟨⟩
  )<|jsk<|jbn<|jtn<|jB 2 rfl<|jln (gv (fun _ k=>k) [900] (gq [1])))<|jxe<|jte<|jle<|jbh<|jtn<|jA 1 rfl<|jxr<|jr1 rfl rfl (fun _ k=>k) [] ⟨⟩

theorem c_internal_strconv_FormatInt {qd : Prop} {y0 : Int} {y1 : Int} : Con qd Tryz.prog 102 [vi y0, vi y1] [] [Tb Tryz.prog "internal/strconv.uint64pow10" .u64 Lib.pow10Tab] (m_internal_strconv_FormatInt y0 y1) fun r K=>K (vs r) [] [] := lib_fmt10 Go.Proofs.Tryz.lays246 Tryz.call102

theorem c_internal_strconv_Itoa {qd : Prop} {y0 : Int} : Con qd Tryz.prog 93 [vi y0] [] [Tb Tryz.prog "internal/strconv.uint64pow10" .u64 Lib.pow10Tab] (m_internal_strconv_Itoa y0) fun r K=>K (vs r) [] [] :=
 ent3 Tryz.call93 Tryz.func93 rfl fun X=>jA 1 rfl<|jsr<|jpc 1 rfl<|jcl c_internal_strconv_FormatInt rfl (cq [0])<|fun r1 _ k=>k<|jpc 1 rfl<|jot<|jxr<|jr1 rfl rfl (fun _ k=>k) [] ⟨⟩

theorem c_strconv_Itoa {qd : Prop} {y0 : Int} : Con qd Tryz.prog 82 [vi y0] [] [Tb Tryz.prog "internal/strconv.uint64pow10" .u64 Lib.pow10Tab] (m_strconv_Itoa y0) fun r K=>K (vs r) [] [] :=
 ent3 Tryz.call82 Tryz.func82 rfl fun X=>jA 1 rfl<|jsr<|jpc 1 rfl<|jcl c_internal_strconv_Itoa rfl (cq [0])<|fun r1 _ k=>k<|jpc 1 rfl<|jot<|jxr<|jr1 rfl rfl (fun _ k=>k) [] ⟨⟩

theorem k_strings_Builder_WriteByte_2 {qd : Prop} {y0 : Str} : Con qd Tryz.prog 92 [pt b1 0] [r_1] [Bdr 119 5 r_1 b1 y0] (some ()) fun _ K=>∀ r_2,K (.tuple #[]) [r_2] [Bdr 119 5 r_2 b1 y0] := (lib_chk (ρ := Go.Proofs.Tryz.lays166_ren) { Go.Proofs.Tryz.lays166 with } Go.Proofs.Tryz.Builder_Extra_166.toX72 (by kernel_rfl) Tryz.call92)
theorem c_strings_Builder_WriteByte_2 {qd : Prop} {y0 : Str} {y1 : Int} : Con qd Tryz.prog 80 [pt b1 0, .int .u8 y1] [r_1] [Bdr 119 5 r_1 b1 y0] (m_strings_Builder_WriteByte_2 y0 y1) fun r K=>∀ r_2,K .nilIface [r_2] [Bdr 119 5 r_2 b1 r.2] :=
 ent3 Tryz.call80 Tryz.func80 rfl fun X=>jsr<|jpc 1 rfl<|jot<|jsr<|jpc 1 rfl<|jca .s [0] [] k_strings_Builder_WriteByte_2 rfl rfl rfl ⟨ck 0,⟨⟩⟩<|fun _ _ k r_2=>k<|jot<|jsr<|jBo 0 0 rfl<|fun pv p2 c2 r_3=>jpc 3 rfl<|jfa 1 rfl<|jlo 0 rfl rfl rfl<|jpc 1 rfl<|
  jbs .s (e := eInt .u8) 5 [.int .u8 y1] [y1] (rC vI rN)<|fun p3 c3=>jwb .s 1 1 rfl (gk 0) rfl rfl<|fun r_4 p4 c4=>jpc 1 rfl<|jfa 1 rfl<|jso .s 0 rfl rfl rfl<|jBc 0 1 0 3 rfl rfl rfl rfl<|fun r_5=>jot<|jsr<|jpc 1 rfl<|jot<|jxr<|jr1 rfl rfl (fun _ k=>k r_5) [0] ⟨gk 0,⟨⟩⟩

theorem c_strings_Builder_WriteString_2 {y0 : Str} {y1 : Str} : Con False Tryz.prog 81 [pt b1 0, vs y1] [r_1] [Bdr 119 5 r_1 b1 y0] (m_strings_Builder_WriteString_2 y0 y1) fun r K=>∀ r_2,K (.tuple #[vi r.1, .nilIface]) [r_2] [Bdr 119 5 r_2 b1 r.2.2] := lib_wstr { Go.Proofs.Tryz.lays166 with } Go.Proofs.Tryz.Builder_Extra_166 (by kernel_rfl) Tryz.call81

theorem c_referee_writer_line {y0 : Str} {y1 : List An} : Con False Tryz.prog 60 [pt b1 0, sv p1 y1 c1] [r_1] [Bdr 119 5 r_1 b1 y0, Rl (eAny 3 9) p1 c1 y1, Tb Tryz.prog "internal/strconv.uint64pow10" .u64 Lib.pow10Tab] (m_referee_writer_line y0 y1) fun r K=>∀ r_2,K (.tuple #[]) [r_2] [Bdr 119 5 r_2 b1 r] :=
 ent3 Tryz.call60 Tryz.func60 rfl fun X=>jjnK (fun s1 K=>∀ r_2,K [0] [(0, r_2)] [2] [] [Bdr 119 5 r_2 b1 s1]) (jA 3 rfl<|jbk<|jlpK (fun s2 K=>∀ r_3,K [0,8,9] [(0, r_3)] [1,2] [(10, vi s2.1)] [Bdr 119 5 r_3 b1 s2.2]) (gv (fun _ k=>k r_1) [0] (gq [0,1,2]))<|fun s2 _ k r_3=>k<|
  jA 1 rfl<|jsq<|jif rfl (jC<|jsq<|jbk<|jsr<|jpc 1 rfl<|jix 1 rfl rfl rfl<|fun x1 b2 o1=>jld false oA (gk 0) rfl<|jpc 2 rfl<|jot<|jjnK (fun s3 K=>∀ r_4,K [0,5,8,9,10] [(0, r_4)] [2,3] [] [Bdr 119 5 r_4 b1 s3]) (jA 2 rfl<|jif rfl (jrg<|
  jpc 2 rfl<|jfa 0 rfl<|jca .s [0] [] c_strings_Builder_WriteByte_2 rfl rfl rfl (cq [1])<|fun r1 _ k r_5=>k<|joe<|jnn (gv (fun _ k=>k r_5) [0] (gq [0,3,4])))<|jsk<|jnn (gv (fun _ k=>k r_3) [0] (gq [1,2,3])))<|fun s3 _ k r_4=>k<|jA 1 rfl<|
  jbk<|jsr<|jv (v := .tuple #[vi (An.int x1), vb (An.isI x1)]) (fun h=>r_taI (ti := 3) (ts := 9) h rfl Tryz.underlying3 Tryz.zeroValue3 (by decide))<|jpc 2 rfl<|jot<|jif rfl (jA 1 rfl<|jdS [] [] 6<|jdc 4 [0,1] rfl<|jdf 2 0 rfl rfl<|
  jdc 2 [3] rfl<|jd1 4<|jca (.f rfl) [] [] c_strconv_Itoa rfl rfl rfl (cq [2])<|fun r2 _ k=>k<|jdn<|jd1 5<|jca (.f rfl) [0] [] c_strings_Builder_WriteString_2 rfl rfl rfl (cq [0])<|fun r3 _ k r_6=>k<|jdn<|jde<|jbn<|jbn<|jtn<|jB 2 rfl<|
  jln (gv (fun _ k=>k r_6) [0] (gq [0,2,3])))<|jsr<|jv (v := .tuple #[vs (An.str x1), vb (An.isS x1)]) (fun h=>r_taS (ti := 3) (ts := 9) h rfl Tryz.underlying9 Tryz.zeroValue9 (by decide))<|jpc 2 rfl<|jot<|jif rfl (jA 1 rfl<|jrg<|jpc 2 rfl<|
  jfa 0 rfl<|jpc 1 rfl<|jca .s [0] [] c_strings_Builder_WriteString_2 rfl rfl rfl (cq [0])<|fun r4 _ k r_7=>k<|joe<|jbn<|jbn<|jtn<|jB 2 rfl<|jln (gv (fun _ k=>k r_7) [0] (gq [0,2,3])))<|jsk<|jbn<|jbn<|jtn<|jB 2 rfl<|
  jln (gv (fun _ k=>k r_4) [0] (gq [0,1,2])))<|jxe<|jte<|jle<|jbh<|jnn (gv (fun _ k=>k r_3) [0] (gq [0,2])))<|fun s1 _ k r_2=>k<|jrg<|jpc 2 rfl<|jfa 0 rfl<|jca .s [0] [] c_strings_Builder_WriteByte_2 rfl rfl rfl (cq [0])<|fun r5 _ k r_8=>k<|
  joe<|jrn<|jrg' rfl lN (fun _ k=>k r_8) [0] (gq [0])

theorem c_strings_Builder_Len_2 {qd : Prop} {y0 : Str} : Con qd Tryz.prog 61 [pt b1 0] [r_1] [Bdr 119 5 r_1 b1 y0] (m_strings_Builder_Len_2 y0) fun r K=>K (vi r) [r_1] [] := lib_blen Go.Proofs.Tryz.lays170 Tryz.call61

theorem c_strings_Builder_String_2 {y0 : Str} : Con False Tryz.prog 62 [pt b1 0] [r_1] [Bdr 119 5 r_1 b1 y0] (m_strings_Builder_String_2 y0) fun r K=>K (vs r) [[]] [] := lib_bstr Go.Proofs.Tryz.lays169 Go.Proofs.Tryz.Builder_Extra_169 Tryz.call62

theorem c_referee_Format {y0 : T_Transcript} : Con False Tryz.prog 42 [.agg #[vi y0.1.1, sv p1 y0.1.2 c1, vi y0.2.1, vi y0.2.2.1.1, vi y0.2.2.1.2, sv p2 y0.2.2.2 c2]] [] [Rl e_Pair p1 c1 y0.1.2, Rl e_Move p2 c2 y0.2.2.2, Pt (eArr 3 eStr) 0 0 tab_referee_players, Tb Tryz.prog "internal/strconv.uint64pow10" .u64 Lib.pow10Tab] (m_referee_Format y0) fun r K=>K (.tuple #[vs r.1, vi r.2]) [] [] :=
 ent3 Tryz.call42 Tryz.func42 rfl fun X=>jsr<|jbx .s rfl<|fun b1=>jpc 2 rfl<|jot<|jsq<|jsr<|jla 0 6 rfl rfl rfl<|jcl c_referee_check rfl (cq [0,1])<|fun r1 _ k=>k<|jpc 1 rfl<|jot<|jA 2 rfl<|jif rfl (jA 3 rfl<|jxr<|jtr<|jrg' rfl (lT rfl (lT rfl lN)) (fun _ k=>k) [] ⟨⟩)<|jC<|jsr<|
  jal .s (.agg #[.pointer none, .slice none 0 0])<|fun b2=>jbq 119 5 b2<|jot<|jsr<|jv (v := anV 3 9 (An.s [110, 111, 100, 101, 115])) (fun h=>r_mkI h rfl Tryz.underlying9 (fun _=>by simp))<|jfa 0 rfl<|jfa 0 rfl<|jlo 0 rfl rfl rfl<|
  jv (v := anV 3 9 (An.i y0.1.1)) (fun h=>r_mkI h rfl Tryz.underlying3 (fun _=>by simp))<|
  jbs .s (e := eAny 3 9) 20 [anV 3 9 (An.s [110, 111, 100, 101, 115]), anV 3 9 (An.i y0.1.1)] ([An.s [110, 111, 100, 101, 115], An.i y0.1.1] : List An) (rC vA (rC vA rN))<|fun p3 c3=>
  jca .s [1] [] c_referee_writer_line rfl rfl rfl (cq [1,0,5])<|fun r2 _ k r_1=>k<|jot<|jjnK (fun s1 K=>∀ r_2,K [1,5] [(1, r_2)] [3,4,5,6] [] [Bdr 119 5 r_2 b2 s1]) (jsr<|jfa 0 rfl<|jfa 1 rfl<|jlo 0 rfl rfl rfl<|jpc 2 rfl<|jot<|jbk<|
  jlpK (fun s2 K=>∀ r_3,K [1,5,25,26] [(1, r_3)] [3,4,5,6] [(27, vi s2.1)] [Bdr 119 5 r_3 b2 s2.2]) (gv (fun _ k=>k r_1) [0,1] (gq [0,3,4,5,6]))<|fun s2 _ k r_3=>k<|jA 1 rfl<|jsq<|jif rfl (jC<|jsq<|jbk<|jsr<|jix 1 rfl rfl rfl<|fun x1 b3 o1=>
  jld true o_Pair (gk 0) rfl<|jal .s (.agg #[vi 0, vi 0])<|fun b4=>jso .s 2 rfl rfl rfl<|jot<|jrg<|jv (v := anV 3 9 (An.s [97, 116, 116, 97, 99, 107])) (fun h=>r_mkI h rfl Tryz.underlying9 (fun _=>by simp))<|jfa 0 rfl<|jlo 2 rfl rfl rfl<|
  jv (v := anV 3 9 (An.i x1.1)) (fun h=>r_mkI h rfl Tryz.underlying3 (fun _=>by simp))<|jfa 1 rfl<|jlo 2 rfl rfl rfl<|jv (v := anV 3 9 (An.i x1.2)) (fun h=>r_mkI h rfl Tryz.underlying3 (fun _=>by simp))<|
  jbs .s (e := eAny 3 9) 20 [anV 3 9 (An.s [97, 116, 116, 97, 99, 107]), anV 3 9 (An.i x1.1), anV 3 9 (An.i x1.2)] ([An.s [97, 116, 116, 97, 99, 107], An.i x1.1, An.i x1.2] : List An) (rC vA (rC vA (rC vA rN)))<|fun p4 c4=>
  jca .s [1] [] c_referee_writer_line rfl rfl rfl (cq [2,0,6])<|fun r3 _ k r_4=>k<|joe<|jbn<|jtn<|jB 2 rfl<|jln (gv (fun _ k=>k r_4) [0,1] (gq [0,4,5,6,7])))<|jxe<|jte<|jle<|jbh<|jnn (gv (fun _ k=>k r_3) [0,1] (gq [0,1,2,3,4])))<|
  fun s1 _ k r_2=>k<|jsr<|jv (v := anV 3 9 (An.s [114, 111, 111, 116])) (fun h=>r_mkI h rfl Tryz.underlying9 (fun _=>by simp))<|jfa 2 rfl<|jlo 0 rfl rfl rfl<|
  jv (v := anV 3 9 (An.i y0.2.1)) (fun h=>r_mkI h rfl Tryz.underlying3 (fun _=>by simp))<|
  jbs .s (e := eAny 3 9) 20 [anV 3 9 (An.s [114, 111, 111, 116]), anV 3 9 (An.i y0.2.1)] ([An.s [114, 111, 111, 116], An.i y0.2.1] : List An) (rC vA (rC vA rN))<|fun p5 c5=>jca .s [1] [] c_referee_writer_line rfl rfl rfl (cq [1,0,5])<|
  fun r4 _ k r_5=>k<|jot<|jsr<|jv (v := anV 3 9 (An.s [108, 105, 109, 105, 116, 115])) (fun h=>r_mkI h rfl Tryz.underlying9 (fun _=>by simp))<|jfa 3 rfl<|
  jv (v := pt b1 3) (fun h=>r_iaddr (k := 2) (sz := 1) h rfl rfl (by kernel_rfl) (by decide) rfl)<|jlo 0 rfl rfl rfl<|jv (v := anV 3 9 (An.i y0.2.2.1.1)) (fun h=>r_mkI h rfl Tryz.underlying3 (fun _=>by simp))<|jfa 3 rfl<|
  jv (v := pt b1 4) (fun h=>r_iaddr (k := 2) (sz := 1) h rfl rfl (by kernel_rfl) (by decide) rfl)<|jlo 0 rfl rfl rfl<|jv (v := anV 3 9 (An.i y0.2.2.1.2)) (fun h=>r_mkI h rfl Tryz.underlying3 (fun _=>by simp))<|
  jbs .s (e := eAny 3 9) 20 [anV 3 9 (An.s [108, 105, 109, 105, 116, 115]), anV 3 9 (An.i y0.2.2.1.1), anV 3 9 (An.i y0.2.2.1.2)] ([An.s [108, 105, 109, 105, 116, 115], An.i y0.2.2.1.1, An.i y0.2.2.1.2] : List An) (rC vA (rC vA (rC vA rN)))<|
  fun p6 c6=>jca .s [1] [] c_referee_writer_line rfl rfl rfl (cq [1,0,7])<|fun r5 _ k r_6=>k<|jot<|jjnK (fun s3 K=>∀ r_7,K [5] [(0, []), (1, r_7)] [7,8] [] [Bdr 119 5 r_7 b2 s3]) (jsr<|jfa 5 rfl<|jlo 0 rfl rfl rfl<|jpc 2 rfl<|jot<|jbk<|
  jlpK (fun s4 K=>∀ r_8,K [5,59,60] [(0, []), (1, r_8)] [6,7,8] [(61, vi s4.1)] [Bdr 119 5 r_8 b2 s4.2]) (gv (fun _ k=>k r_6) [900,1] (gq [0,6,7,8]))<|fun s4 _ k r_8=>k<|jA 1 rfl<|jsq<|jif rfl (jC<|jsq<|jbk<|jsr<|jix 1 rfl rfl rfl<|
  fun x2 b5 o2=>jld true o_Move (gk 0) rfl<|jal .s (.agg #[vi 0, vi 0, vi 0, vi 0])<|fun b6=>jso .s 2 rfl rfl rfl<|jot<|jsr<|jfa 0 rfl<|jlo 2 rfl rfl rfl<|jgx (gk 3) rfl rfl<|fun x3=>jld false oS (gk 0) rfl<|jpc 1 rfl<|jot<|jsr<|jfa 1 rfl<|
  jlo 2 rfl rfl rfl<|jot<|jbk<|jA 2 rfl<|jif rfl (jrg<|jpc 1 rfl<|jv (v := anV 3 9 (An.s x3)) (fun h=>r_mkI h rfl Tryz.underlying9 (fun _=>by simp))<|
  jv (v := anV 3 9 (An.s [99, 108, 97, 105, 109, 115])) (fun h=>r_mkI h rfl Tryz.underlying9 (fun _=>by simp))<|jfa 2 rfl<|jlo 2 rfl rfl rfl<|jv (v := anV 3 9 (An.i x2.2.2.1)) (fun h=>r_mkI h rfl Tryz.underlying3 (fun _=>by simp))<|
  jbs .s (e := eAny 3 9) 20 [anV 3 9 (An.s x3), anV 3 9 (An.s [99, 108, 97, 105, 109, 115]), anV 3 9 (An.i x2.2.2.1)] ([An.s x3, An.s [99, 108, 97, 105, 109, 115], An.i x2.2.2.1] : List An) (rC vA (rC vA (rC vA rN)))<|fun p7 c7=>
  jca .s [1] [] c_referee_writer_line rfl rfl rfl (cq [3,0,6])<|fun r6 _ k r_9=>k<|joe<|jbn<|jbn<|jtn<|jB 2 rfl<|jln (gv (fun _ k=>k r_9) [900,1] (gq [0,5,6,7])))<|jA 2 rfl<|jif rfl (jrg<|jpc 1 rfl<|
  jv (v := anV 3 9 (An.s x3)) (fun h=>r_mkI h rfl Tryz.underlying9 (fun _=>by simp))<|jv (v := anV 3 9 (An.s [109, 111, 118, 101, 115])) (fun h=>r_mkI h rfl Tryz.underlying9 (fun _=>by simp))<|jfa 2 rfl<|jlo 2 rfl rfl rfl<|
  jv (v := anV 3 9 (An.i x2.2.2.1)) (fun h=>r_mkI h rfl Tryz.underlying3 (fun _=>by simp))<|jv (v := anV 3 9 (An.s [97, 103, 97, 105, 110, 115, 116])) (fun h=>r_mkI h rfl Tryz.underlying9 (fun _=>by simp))<|jfa 3 rfl<|jlo 2 rfl rfl rfl<|
  jv (v := anV 3 9 (An.i x2.2.2.2)) (fun h=>r_mkI h rfl Tryz.underlying3 (fun _=>by simp))<|
  jbs .s (e := eAny 3 9) 20 [anV 3 9 (An.s x3), anV 3 9 (An.s [109, 111, 118, 101, 115]), anV 3 9 (An.i x2.2.2.1), anV 3 9 (An.s [97, 103, 97, 105, 110, 115, 116]), anV 3 9 (An.i x2.2.2.2)] ([An.s x3, An.s [109, 111, 118, 101, 115], An.i x2.2.2.1, An.s [97, 103, 97, 105, 110, 115, 116], An.i x2.2.2.2] : List An) (rC vA (rC vA (rC vA (rC vA (rC vA rN)))))<|
  fun p8 c8=>jca .s [1] [] c_referee_writer_line rfl rfl rfl (cq [3,0,6])<|fun r7 _ k r_10=>k<|joe<|jbn<|jbn<|jtn<|jB 2 rfl<|jln (gv (fun _ k=>k r_10) [900,1] (gq [0,5,6,7])))<|jA 2 rfl<|jif rfl (jrg<|jpc 1 rfl<|
  jv (v := anV 3 9 (An.s x3)) (fun h=>r_mkI h rfl Tryz.underlying9 (fun _=>by simp))<|jv (v := anV 3 9 (An.s [114, 101, 116, 114, 97, 99, 116, 115])) (fun h=>r_mkI h rfl Tryz.underlying9 (fun _=>by simp))<|jfa 3 rfl<|jlo 2 rfl rfl rfl<|
  jv (v := anV 3 9 (An.i x2.2.2.2)) (fun h=>r_mkI h rfl Tryz.underlying3 (fun _=>by simp))<|
  jbs .s (e := eAny 3 9) 20 [anV 3 9 (An.s x3), anV 3 9 (An.s [114, 101, 116, 114, 97, 99, 116, 115]), anV 3 9 (An.i x2.2.2.2)] ([An.s x3, An.s [114, 101, 116, 114, 97, 99, 116, 115], An.i x2.2.2.2] : List An) (rC vA (rC vA (rC vA rN)))<|
  fun p9 c9=>jca .s [1] [] c_referee_writer_line rfl rfl rfl (cq [3,0,6])<|fun r8 _ k r_11=>k<|joe<|jbn<|jbn<|jtn<|jB 2 rfl<|jln (gv (fun _ k=>k r_11) [900,1] (gq [0,5,6,7])))<|jrg<|jpc 1 rfl<|
  jv (v := anV 3 9 (An.s x3)) (fun h=>r_mkI h rfl Tryz.underlying9 (fun _=>by simp))<|jv (v := anV 3 9 (An.s [99, 111, 110, 99, 101, 100, 101, 115])) (fun h=>r_mkI h rfl Tryz.underlying9 (fun _=>by simp))<|
  jbs .s (e := eAny 3 9) 20 [anV 3 9 (An.s x3), anV 3 9 (An.s [99, 111, 110, 99, 101, 100, 101, 115])] ([An.s x3, An.s [99, 111, 110, 99, 101, 100, 101, 115]] : List An) (rC vA (rC vA rN))<|fun p10 c10=>
  jca .s [1] [] c_referee_writer_line rfl rfl rfl (cq [3,0,6])<|fun r9 _ k r_12=>k<|joe<|jbn<|jbn<|jtn<|jB 2 rfl<|jln (gv (fun _ k=>k r_12) [900,1] (gq [0,5,6,7])))<|jxe<|jte<|jle<|jbh<|jnn (gv (fun _ k=>k r_8) [900,1] (gq [0,2,3])))<|
  fun s3 _ k r_7=>k<|jsq<|jsr<|jfa 0 rfl<|jca .s [1] [] c_strings_Builder_Len_2 rfl rfl rfl (cq [0])<|fun r10 _ k=>k<|jpc 1 rfl<|jot<|jif rfl (jA 2 rfl<|jxr<|jtr<|jrg' rfl (lT rfl (lT rfl lN)) (fun _ k=>k) [] ⟨⟩)<|jC<|jsr<|jfa 0 rfl<|
  jca .s [1] [] c_strings_Builder_String_2 rfl rfl rfl (cq [0])<|fun r11 _ k=>k<|jpc 2 rfl<|jot<|jxr<|jrg' rfl (lT rfl (lT rfl lN)) (fun _ k=>k) [] ⟨⟩

theorem c_strconv_Atoi {y0 : Str} : Con False Tryz.prog 96 [vs y0] [] [Gve 3, Gve 4] (m_strconv_Atoi y0) fun r K=>∀ v1,K (.tuple #[vi r.1, v1]) [] [Erv v1 r.2] := lib_atoi Go.Proofs.Tryz.lays172 Tryz.call96

theorem c_strings_Count {qd : Prop} {y0 : Str} {y1 : Str} : Con qd Tryz.prog 119 [vs y0, vs y1] [] [] (m_strings_Count y0 y1) fun r K=>K (vi r) [] [] := lib_count1 Go.Proofs.Tryz.lays138 Tryz.call119

theorem c_internal_stringslite_Index {qd : Prop} {y0 : Str} {y1 : Str} : Con qd Tryz.prog 94 [vs y0, vs y1] [] [] (m_internal_stringslite_Index y0 y1) fun r K=>K (vi r) [] [] := lib_index1 Go.Proofs.Tryz.lays219 Tryz.call94

theorem c_strings_Index {qd : Prop} {y0 : Str} {y1 : Str} : Con qd Tryz.prog 120 [vs y0, vs y1] [] [] (m_strings_Index y0 y1) fun r K=>K (vi r) [] [] :=
 ent3 Tryz.call120 Tryz.func120 rfl fun X=>jA 1 rfl<|jsr<|jpc 2 rfl<|jcl c_internal_stringslite_Index rfl ⟨⟩<|fun r1 _ k=>k<|jpc 1 rfl<|jot<|jxr<|jr1 rfl rfl (fun _ k=>k) [] ⟨⟩

theorem c_strings_genSplit {qd : Prop} {y0 : Str} {y1 : Str} {y2 : Int} {y3 : Int} : Con qd Tryz.prog 107 [vs y0, vs y1, vi y2, vi y3] [] [] (m_strings_genSplit y0 y1 y2 y3) fun r K=>∀ p1 c1,K (sv p1 r c1) [] [Rl eStr p1 c1 r] :=
 ent3 Tryz.call107 Tryz.func107 rfl fun X=>jA 1 rfl<|jsq<|jA 2 rfl<|jif rfl (jA 1 rfl<|jxr<|jtr<|jr1 rfl rfl (fun _ k=>k none 0) [] ⟨gn,⟨⟩⟩)<|jC<|jsq<|jA 2 rfl<|jif rfl (jsr<|jpc 2 rfl<|jno)<|jC<|jjnK (fun s1 K=>K [0,1,2] [] [] [(3, vi s1)] []) (jA 2 rfl<|jif rfl (jrg<|jpc 2 rfl<|
  jcl c_strings_Count rfl ⟨⟩<|fun r1 _ k=>k<|jpc 2 rfl<|joe<|jnn (gv (fun _ k=>k) [] ⟨⟩))<|jsk<|jnn (gv (fun _ k=>k) [] ⟨⟩))<|fun s1 _ k=>k<|jA 6 rfl<|jsr<|jpc 1 rfl<|jmk .s (e := eStr) 9 ([] : Str) (vs []) vS rfl rfl<|fun x1 r_1 p1 c1=>
  jpc 1 rfl<|jot<|jA 3 rfl<|jA 1 rfl<|jjn (fun s2 K=>∀ r_2,K [(0, vs s2.1), (9, .slice p1 (List.length x1) c1), (10, vi s2.2.2)] [r_2] [Ar eStr 9 r_2 p1 c1 (List.length x1) s2.2.1]) (jbk<|
  jlpK (fun s3 K=>∀ r_3,K [1,2,3] [(0, r_3)] [] [(0, vs s3.1), (9, .slice p1 (List.length x1) c1), (10, vi s3.2.2)] [Ar eStr 9 r_3 p1 c1 (List.length x1) s3.2.1]) (gv (fun _ k=>k r_1) [0] (by exact (gq [0])))<|fun s3 _ k r_3=>k<|jsq<|
  jA 3 rfl<|jif rfl (jC<|jbk<|jsr<|jpc 2 rfl<|jcl c_strings_Index rfl ⟨⟩<|fun r2 _ k=>k<|jpc 1 rfl<|jot<|jsq<|jA 2 rfl<|jif rfl (jxe<|jte<|jbm<|jle<|jbh<|jnn (gv (fun _ k=>k r_3) [0] (by exact (gq [0]))))<|jC<|jsr<|jpc 6 rfl<|jbd fun x2 h1=>
  jv (fun h=>r_ssub h rfl Tryz.underlying9 rfl rfl (.inl ⟨rfl, rfl⟩) (.inr ⟨_, rfl⟩) h1)<|jia 0 rfl rfl rfl<|fun x3 h2 b1 o1 hp1=>jsA .s 0 0 sI x2 false rfl hp1 h2 rfl rfl vS<|fun r_4=>jot<|jsr<|jpc 5 rfl<|jbd fun x4 h3=>
  jv (fun h=>r_ssub h rfl Tryz.underlying9 rfl rfl (.inr ⟨_, rfl⟩) (.inl ⟨rfl, rfl⟩) h3)<|jpc 1 rfl<|jot<|jB 3 rfl<|jbn<|jln (gv (fun _ k=>k r_4) [0] (by exact (gq [0]))))<|jxe<|jte<|jle<|jbh<|jnn (gv (fun _ k=>k r_3) [0] (by exact (gq [0])))
  )<|fun s2 _ k r_2=>k<|jsr<|jpc 3 rfl<|jia 0 rfl rfl rfl<|fun x5 h4 b2 o2 hp2=>jsA .s 0 0 sI s2.1 false rfl hp2 h4 rfl rfl vS<|fun r_5=>jot<|jsr<|jpc 3 rfl<|jsP 0 rfl rfl rfl<|fun x6=>jpc 1 rfl<|jot<|jxr<|jsh 0 0 rfl rfl<|
  jr1 rfl rfl (fun _ k=>k p1 c1) [] (gq [0])

theorem c_strings_Split {qd : Prop} {y0 : Str} {y1 : Str} : Con qd Tryz.prog 95 [vs y0, vs y1] [] [] (m_strings_Split y0 y1) fun r K=>∀ p1 c1,K (sv p1 r c1) [] [Rl eStr p1 c1 r] :=
 ent3 Tryz.call95 Tryz.func95 rfl fun X=>jA 1 rfl<|jsr<|jpc 2 rfl<|jcl c_strings_genSplit rfl ⟨⟩<|fun r1 _ k p1 c1=>k<|jpc 1 rfl<|jot<|jxr<|jr1 rfl rfl (fun _ k=>k p1 c1) [] (gq [0])

theorem c_referee_numbers {y0 : Str} {y1 : Str} : Con False Tryz.prog 84 [vs y0, vs y1] [] [Tb Tryz.prog "internal/strconv.uint64pow10" .u64 Lib.pow10Tab, Gve 3, Gve 4] (m_referee_numbers y0 y1) fun r K=>∀ p1 c1,K (.tuple #[sv p1 r.1 c1, vb r.2]) [] [Rl (eInt .i64) p1 c1 r.1] :=
 ent3 Tryz.call84 Tryz.func84 rfl fun X=>jA 2 rfl<|jsr<|jpc 1 rfl<|jcl c_strings_Split rfl ⟨⟩<|fun r1 _ k p1 c1=>k<|jpc 1 rfl<|jcl c_strings_Split rfl ⟨⟩<|fun r2 _ k p2 c2=>k<|jpc 2 rfl<|jot<|jsq<|jA 5 rfl<|jif rfl (jA 2 rfl<|jxr<|jtr<|
  jrg' rfl (lT rfl (lT rfl lN)) (fun _ k=>k none 0) [] ⟨gn,⟨⟩⟩)<|jC<|jsr<|jpc 1 rfl<|jro (eInt .i64) 3<|jot<|jsq<|jA 3 rfl<|jbk<|
  jlpK (fun s1 K=>∀ p3 c3 r_1,K [6,22,23] [(0, r_1)] [2,1,3,4,5] [(8, sv p3 s1.1 c3), (24, vi s1.2)] [Al (eInt .i64) 3 r_1 p3 c3 s1.1]) (gv (fun _ k=>k none 0 []) [0] (gq [0,2,1,3,4,5]))<|fun s1 _ k p3 c3 r_1=>k<|jA 1 rfl<|jsq<|jif rfl (jC<|
  jsq<|jbk<|jsr<|jpc 1 rfl<|jix 2 rfl rfl rfl<|fun x1 b1 o1=>jld false oS (gk 0) rfl<|jpc 2 rfl<|jot<|jsq<|jA 2 rfl<|jif rfl (jsq<|jsr<|jpc 2 rfl<|jix 2 rfl rfl rfl<|fun x2 b2 o2=>jld false oS (gk 0) rfl<|jpc 2 rfl<|jot<|jif rfl (jA 2 rfl<|
  jxr<|jtr<|jtr<|jbr<|jtr<|jlr<|jbr<|jtr<|jrg' rfl (lT rfl (lT rfl lN)) (fun _ k=>k none 0) [] ⟨gn,⟨⟩⟩)<|jC<|jxe<|jte<|jbh<|jtn<|jB 2 rfl<|jln (gv (fun _ k=>k p3 c3 r_1) [0] (gq [2,3,4,5,6,7])))<|jC<|jsr<|jpc 2 rfl<|jix 2 rfl rfl rfl<|
  fun x3 b3 o3=>jld false oS (gk 0) rfl<|jcl c_strconv_Atoi rfl (cq [6,7])<|fun r3 _ k v1=>k<|jpc 5 rfl<|jot<|jsq<|jjnK (fun s2 K=>K [6,8,11,22,23,24] [] [4,3,5,6,7,8] [(67, vb s2)] []) (jdS [] [] 23<|jdc 22 [0] rfl<|
  jden 1 0 rfl rfl rfl Tryz.underlying142<|jdc 20 [2] rfl<|jsg 47 rfl (jdc 14 [3,4,5,6,7,8] rfl<|jdp 9 (vb true) rfl<|jdc 5 [10,11,12,13,14,15,16,17] rfl<|jdp 18 (vb true) rfl<|jdc 1 [19,20,21] rfl<|jdp 22 (vb true) rfl<|jde<|
  jnn (gv (fun _ k=>k) [0] (gq [4,3,5,6,7,8])))<|jdc 18 [3,4] rfl<|jdi 5 4 rfl rfl rfl rfl<|fun x4 b4 o4=>jdl 6 false oS rfl (gk 0) rfl<|jdc 14 [7,8] rfl<|jdp 9 (vb (decide (4 < (len x4)))) rfl<|jdc 12 [10] rfl<|jsg 55 rfl (
  jdc 5 [11,12,13,14,15,16,17] rfl<|jdp 18 (vb true) rfl<|jdc 1 [19,20,21] rfl<|jdp 22 (vb true) rfl<|jde<|jnn (gv (fun _ k=>k) [0] (gq [5,4,6,7,8,9])))<|jdc 9 [11,13,14] rfl<|jdi 15 5 rfl rfl rfl rfl<|fun x5 b5 o5=>
  jdl 16 false oS rfl (gk 0) rfl<|jd1 12<|jca (.f rfl) [] [] c_strconv_Itoa rfl rfl rfl (cq [8])<|fun r4 _ k=>k<|jdn<|jdc 5 [17] rfl<|jdp 18 (vb (!(r4 == x5))) rfl<|jdc 3 [19] rfl<|jsg 64 rfl (jdc 1 [20,21] rfl<|jdp 22 (vb true) rfl<|jde<|
  jnn (gv (fun _ k=>k) [0] (gq [6,5,7,8,9,10])))<|jdc 1 [20,21] rfl<|jdp 22 (vb (decide (r3.1 < 0))) rfl<|jde<|jnn (gv (fun _ k=>k) [0] (gq [6,5,7,8,9,10])))<|fun s2 _ k=>k<|jif rfl (jA 2 rfl<|jxr<|jtr<|jbr<|jtr<|jlr<|jbr<|jtr<|
  jrg' rfl (lT rfl (lT rfl lN)) (fun _ k=>k none 0) [] ⟨gn,⟨⟩⟩)<|jC<|jrg<|jpc 2 rfl<|jbs .s (e := eInt .i64) 3 [vi r3.1] ([r3.1] : List Int) (rC vI rN)<|fun p4 c4=>jar .s 0 2 rfl (gk 0) rfl rfl<|fun x6 r_2 p5 c5=>jpc 1 rfl<|joe<|jbn<|jtn<|
  jB 2 rfl<|jln (gv (fun _ k=>k p5 c5 r_2) [0] (gq [0,2,4,5,6,7])))<|jxe<|jte<|jle<|jbh<|jtn<|jA 3 rfl<|jxr<|jsh 0 0 rfl rfl<|jrg' rfl (lT rfl (lT rfl lN)) (fun _ k=>k p3 c3) [] (gq [0])

theorem c_internal_stringslite_Cut {qd : Prop} {y0 : Str} {y1 : Str} : Con qd Tryz.prog 83 [vs y0, vs y1] [] [] (m_internal_stringslite_Cut y0 y1) fun r K=>K (.tuple #[vs r.1, vs r.2.1, vb r.2.2]) [] [] :=
 ent3 Tryz.call83 Tryz.func83 rfl fun X=>jA 3 rfl<|jsq<|jsr<|jpc 2 rfl<|jcl c_internal_stringslite_Index rfl ⟨⟩<|fun r1 _ k=>k<|jpc 1 rfl<|jot<|jA 2 rfl<|jif rfl (jds [] [] 12<|jdc 10 [0,1] rfl<|jbd fun x1 h1=>
  jdv 2 rfl (fun h=>r_ssub h rfl Tryz.underlying9 rfl rfl (.inl ⟨rfl, rfl⟩) (.inr ⟨_, rfl⟩) h1)<|jdc 4 [3,4,5,6,7] rfl<|jbd fun x2 h2=>jdv 8 rfl (fun h=>r_ssub h rfl Tryz.underlying9 rfl rfl (.inr ⟨_, rfl⟩) (.inl ⟨rfl, rfl⟩) h2)<|
  jdc 0 [9,10,11] rfl<|jde<|jtn<|jxr<|jtr<|jrg' rfl (lT rfl (lT rfl (lT rfl lN))) (fun _ k=>k) [] ⟨⟩)<|jC<|jA 4 rfl<|jxr<|jrg' rfl (lT rfl (lT rfl (lT rfl lN))) (fun _ k=>k) [] ⟨⟩

theorem c_strings_Cut {qd : Prop} {y0 : Str} {y1 : Str} : Con qd Tryz.prog 63 [vs y0, vs y1] [] [] (m_strings_Cut y0 y1) fun r K=>K (.tuple #[vs r.1, vs r.2.1, vb r.2.2]) [] [] :=
 ent3 Tryz.call63 Tryz.func63 rfl fun X=>jA 3 rfl<|jsr<|jpc 2 rfl<|jcl c_internal_stringslite_Cut rfl ⟨⟩<|fun r1 _ k=>k<|jpc 6 rfl<|jot<|jxr<|jrg' rfl (lT rfl (lT rfl (lT rfl lN))) (fun _ k=>k) [] ⟨⟩

theorem c_referee_move {y0 : Str} : Con False Tryz.prog 85 [vs y0] [] [Pt (eArr 3 eStr) 0 0 tab_referee_players, Tb Tryz.prog "internal/strconv.uint64pow10" .u64 Lib.pow10Tab, Gve 3, Gve 4] (m_referee_move y0) fun r K=>K (.tuple #[.agg #[vi r.1.1, vi r.1.2.1, vi r.1.2.2.1, vi r.1.2.2.2], vb r.2]) [] [] :=
 ent3 Tryz.call85 Tryz.func85 rfl fun X=>jsr<|jal .s (.agg #[vi 0, vi 0, vi 0, vi 0])<|fun b1=>jpc 1 rfl<|jot<|jsr<|jpc 1 rfl<|jcl c_strings_Cut rfl ⟨⟩<|fun r1 _ k=>k<|jpc 7 rfl<|jot<|jsr<|jpe (.agg #[vi 1, vi 0, vi 0, vi 0])<|jal .s (.agg #[vi 0, vi 0, vi 0, vi 0])<|fun b2=>
  jso .s 1 rfl rfl rfl<|jot<|jjoK (fun s1 K=>K [2,5,7] [(1, bx b2 42 [vi s1, vi 0, vi 0, vi 0])] [0,1,2,3] [] []) (jA 1 rfl<|jbk<|jsr<|jgx (gk 0) rfl rfl<|fun x1=>jld false oS (gk 0) rfl<|jpc 2 rfl<|jot<|jif rfl (jsk<|jbn<|
  jln (gv (fun _ k=>k) [0,1] (gq [1,2,3,4])))<|jsr<|jgx (gk 1) rfl rfl<|fun x2=>jld false oS (gk 0) rfl<|jpc 2 rfl<|jot<|jif rfl (jrg<|jfa 0 rfl<|jso .s 1 rfl rfl rfl<|joe<|jbn<|jln (gv (fun _ k=>k) [0,1] (gq [2,3,4,5])))<|jsr<|
  jla 1 4 rfl rfl rfl<|jso .s 0 rfl rfl rfl<|jpc 1 rfl<|jot<|jxr<|jbr<|jlr<|jrg' rfl (lC 0 (.agg #[vi 1, vi 0, vi 0, vi 0]) rfl rfl (lT rfl lN)) (fun _ k=>k) [] ⟨⟩)<|fun s1 _ k=>k<|jsq<|jsr<|jpc 1 rfl<|jcl c_referee_numbers rfl (cq [1,2,3])<|
  fun r2 _ k p1 c1=>k<|jpc 5 rfl<|jot<|jA 1 rfl<|jif rfl (jds [] [] 7<|jdc 6 [0] rfl<|jdi 1 0 rfl rfl rfl rfl<|fun x3 b3 o1=>jdl 2 false oI rfl (gk 0) rfl<|jdf 3 1 rfl rfl<|jd1 4<|jso (o := 1) (.f rfl) 1 rfl rfl rfl<|jdn<|jdf 5 2 rfl rfl<|
  jd1 6<|jso (o := 2) (.f rfl) 1 rfl rfl rfl<|jdn<|jde<|jtn<|jsr<|jla 1 4 rfl rfl rfl<|jso .s 0 rfl rfl rfl<|jpc 1 rfl<|jot<|jxr<|jtr<|jrg' rfl (lC 0 (.agg #[vi s1, vi 1, vi x3, vi 0]) rfl rfl (lT rfl lN)) (fun _ k=>k) [] ⟨⟩)<|jC<|jsq<|jsr<|
  jpc 1 rfl<|jcl c_referee_numbers rfl (cq [2,3,4])<|fun r3 _ k p2 c2=>k<|jpc 5 rfl<|jot<|jA 1 rfl<|jif rfl (jds [] [] 12<|jdc 11 [0] rfl<|jdi 1 0 rfl rfl rfl rfl<|fun x4 b4 o2=>jdl 2 false oI rfl (gk 0) rfl<|jdc 8 [3] rfl<|
  jdi 4 1 rfl rfl rfl rfl<|fun x5 b5 o3=>jdl 5 false oI rfl (gk 0) rfl<|jdf 6 1 rfl rfl<|jd1 7<|jso (o := 1) (.f rfl) 1 rfl rfl rfl<|jdn<|jdf 8 2 rfl rfl<|jd1 9<|jso (o := 2) (.f rfl) 1 rfl rfl rfl<|jdn<|jdf 10 3 rfl rfl<|jd1 11<|
  jso (o := 3) (.f rfl) 1 rfl rfl rfl<|jdn<|jde<|jtn<|jsr<|jla 1 4 rfl rfl rfl<|jso .s 0 rfl rfl rfl<|jpc 1 rfl<|jot<|jxr<|jtr<|jrg' rfl (lC 0 (.agg #[vi s1, vi 2, vi x4, vi x5]) rfl rfl (lT rfl lN)) (fun _ k=>k) [] ⟨⟩)<|jC<|jsq<|jsr<|
  jpc 1 rfl<|jcl c_referee_numbers rfl (cq [3,4,5])<|fun r4 _ k p3 c3=>k<|jpc 5 rfl<|jot<|jA 1 rfl<|jif rfl (jds [] [] 7<|jdc 6 [0] rfl<|jdi 1 0 rfl rfl rfl rfl<|fun x6 b6 o4=>jdl 2 false oI rfl (gk 0) rfl<|jdf 3 1 rfl rfl<|jd1 4<|
  jso (o := 1) (.f rfl) 1 rfl rfl rfl<|jdn<|jdf 5 3 rfl rfl<|jd1 6<|jso (o := 3) (.f rfl) 1 rfl rfl rfl<|jdn<|jde<|jtn<|jsr<|jla 1 4 rfl rfl rfl<|jso .s 0 rfl rfl rfl<|jpc 1 rfl<|jot<|jxr<|jtr<|
  jrg' rfl (lC 0 (.agg #[vi s1, vi 3, vi 0, vi x6]) rfl rfl (lT rfl lN)) (fun _ k=>k) [] ⟨⟩)<|jC<|jsr<|jfa 1 rfl<|jso .s 1 rfl rfl rfl<|jot<|jsr<|jla 1 4 rfl rfl rfl<|jpc 2 rfl<|jso .s 0 rfl rfl rfl<|jpc 1 rfl<|jot<|jxr<|
  jrg' rfl (lC 0 (.agg #[vi s1, vi 4, vi 0, vi 0]) rfl rfl (lT rfl lN)) (fun _ k=>k) [] ⟨⟩

theorem c_referee_reader_read {y0 : T_referee_reader} {y1 : Str} : Con False Tryz.prog 64 [pt b1 0, vs y1] [bx b1 124 [vi y0.1.1.1, sv p1 y0.1.1.2 c1, vi y0.1.2.1, vi y0.1.2.2.1.1, vi y0.1.2.2.1.2, sv p2 y0.1.2.2.2 c2, vi y0.2], r_1, r_2] [Al e_Pair 68 r_1 p1 c1 y0.1.1.2, Al e_Move 42 r_2 p2 c2 y0.1.2.2.2, Pt (eArr 3 eStr) 0 0 tab_referee_players, Tb Tryz.prog "internal/strconv.uint64pow10" .u64 Lib.pow10Tab, Gve 3, Gve 4] (m_referee_reader_read y0 y1) fun r K=>∀ p3 c3 r_3 p4 c4 r_4,K (vb r.1) [bx b1 124 [vi r.2.1, sv p3 r.2.2.1 c3, vi r.2.2.2.1, vi r.2.2.2.2.1, vi r.2.2.2.2.2.1, sv p4 r.2.2.2.2.2.2.1 c4, vi r.2.2.2.2.2.2.2], r_3, r_4] [Al e_Pair 68 r_3 p3 c3 r.2.2.1, Al e_Move 42 r_4 p4 c4 r.2.2.2.2.2.2.1] :=
 ent3 Tryz.call64 Tryz.func64 rfl fun X=>jA 1 rfl<|jsq<|jsr<|jpc 2 rfl<|jfa 6 rfl<|jlo 0 rfl rfl rfl<|jot<|jbk<|jA 2 rfl<|jif rfl (jsr<|jpc 1 rfl<|jcl c_referee_numbers rfl (cq [3,4,5])<|fun r1 _ k p3 c3=>k<|jpc 5 rfl<|jot<|jsq<|jA 1 rfl<|jif rfl (jrg<|jpc 3 rfl<|
  jix 0 rfl rfl rfl<|fun x1 b2 o1=>jld false oI (gk 0) rfl<|jpc 1 rfl<|jfa 0 rfl<|jfa 0 rfl<|jfa 0 rfl<|jso .s 0 rfl rfl rfl<|jpc 1 rfl<|jfa 6 rfl<|jso .s 0 rfl rfl rfl<|joe<|jtn<|jA 2 rfl<|jxr<|jbr<|jtr<|
  jr1 rfl rfl (fun _ k=>k p1 c1 r_1 p2 c2 r_2) [0,1,2] (gq [2,3]))<|jC<|jA 2 rfl<|jxr<|jbr<|jtr<|jr1 rfl rfl (fun _ k=>k p1 c1 r_1 p2 c2 r_2) [0,1,2] (gq [1,2]))<|jA 2 rfl<|jif rfl (jsq<|jsr<|jpc 1 rfl<|
  jcl c_referee_numbers rfl (cq [3,4,5])<|fun r2 _ k p4 c4=>k<|jpc 5 rfl<|jot<|jA 1 rfl<|jif rfl (jds [20] [0] 21<|jdc 18 [0,1,2] rfl<|jdf 3 0 rfl rfl<|jdf 4 0 rfl rfl<|jdf 5 1 rfl rfl<|jdo 6 0 rfl rfl rfl rfl<|jdc 13 [7] rfl<|
  jdi 8 0 rfl rfl rfl rfl<|fun x2 b3 o2=>jdl 9 false oI rfl (gk 0) rfl<|jdc 10 [10] rfl<|jdi 11 1 rfl rfl rfl rfl<|fun x3 b4 o3=>jdl 12 false oI rfl (gk 0) rfl<|jdp 13 (.agg #[vi x2, vi x3]) rfl<|jd1 14<|
  jbs (.f rfl) (e := e_Pair) 68 [vi x2, vi x3] ([(x2, x3)] : List T_Pair) (rC (vP vI vI) rN)<|fun p5 c5=>jdn<|jd1 15<|jar (.f rfl) 1 4 rfl (gk 0) rfl rfl<|fun x4 r_3 p6 c6=>jdn<|jdc 4 [16] rfl<|jdf 17 0 rfl rfl<|jdf 18 0 rfl rfl<|
  jdf 19 1 rfl rfl<|jd1 20<|jso (o := 1) (.f rfl) 0 rfl rfl rfl<|jdb [] [0]<|jde<|jtn<|jA 1 rfl<|jxr<|jtr<|jbr<|jtr<|jr1 rfl rfl (fun _ k=>k p6 c6 r_3 p2 c2 r_2) [0,1,2] (gq [0,6]))<|jC<|jsr<|jpc 1 rfl<|
  jcl c_referee_numbers rfl (cq [4,5,6])<|fun r3 _ k p7 c7=>k<|jpc 5 rfl<|jot<|jsq<|jA 1 rfl<|jif rfl (jrg<|jpc 3 rfl<|jix 0 rfl rfl rfl<|fun x5 b5 o4=>jld false oI (gk 0) rfl<|jpc 1 rfl<|jfa 0 rfl<|jfa 2 rfl<|jso .s 0 rfl rfl rfl<|
  jpc 1 rfl<|jfa 6 rfl<|jso .s 0 rfl rfl rfl<|joe<|jtn<|jA 2 rfl<|jxr<|jbr<|jtr<|jr1 rfl rfl (fun _ k=>k p1 c1 r_1 p2 c2 r_2) [0,1,2] (gq [3,4]))<|jC<|jA 2 rfl<|jxr<|jbr<|jtr<|jr1 rfl rfl (fun _ k=>k p1 c1 r_1 p2 c2 r_2) [0,1,2] (gq [2,3]))<|
  jA 2 rfl<|jif rfl (jsr<|jpc 1 rfl<|jcl c_referee_numbers rfl (cq [3,4,5])<|fun r4 _ k p8 c8=>k<|jpc 5 rfl<|jot<|jsq<|jA 1 rfl<|jif rfl (jdS [] [] 16<|jdc 13 [0,1,2] rfl<|jdi 3 0 rfl rfl rfl rfl<|fun x6 b6 o5=>jdl 4 false oI rfl (gk 0) rfl<|
  jdc 10 [5] rfl<|jdi 6 1 rfl rfl rfl rfl<|fun x7 b7 o6=>jdl 7 false oI rfl (gk 0) rfl<|jdv (v := .agg #[vi x6, vi x7]) 8 rfl (fun h=>r_buildA h (by kernel_rfl))<|jdc 6 [9] rfl<|jdf 10 0 rfl rfl<|jdf 11 3 rfl rfl<|jd1 12<|
  jso (o := 3) (.f rfl) 0 rfl rfl rfl<|jdn<|jdc 2 [13] rfl<|jdf 14 6 rfl rfl<|jd1 15<|jso (o := 6) (.f rfl) 0 rfl rfl rfl<|jdn<|jde<|jtn<|jA 2 rfl<|jxr<|jbr<|jtr<|jr1 rfl rfl (fun _ k=>k p1 c1 r_1 p2 c2 r_2) [0,1,2] (gq [3,4]))<|jC<|
  jA 2 rfl<|jxr<|jbr<|jtr<|jr1 rfl rfl (fun _ k=>k p1 c1 r_1 p2 c2 r_2) [0,1,2] (gq [1,2]))<|jsk<|jbn<|jtn<|jsr<|jpc 1 rfl<|jcl c_referee_move rfl (cq [2,3,4,5])<|fun r5 _ k=>k<|jpc 3 rfl<|jal .s (.agg #[vi 0, vi 0, vi 0, vi 0])<|fun b8=>
  jso .s 3 rfl rfl rfl<|jpc 1 rfl<|jot<|jds [12] [0, 3] 13<|jdc 10 [0,1,2] rfl<|jdf 3 0 rfl rfl<|jdf 4 5 rfl rfl<|jdo 5 0 rfl rfl rfl rfl<|jda 6 3 4 rfl rfl rfl rfl<|jd1 7<|
  jbs (.f rfl) (e := e_Move) 42 [vi r5.1.1, vi r5.1.2.1, vi r5.1.2.2.1, vi r5.1.2.2.2] ([r5.1] : List T_Move) (rC (vP vI (vP vI (vP vI vI))) rN)<|fun p9 c9=>jdn<|jd1 8<|jar (.f rfl) 2 2 rfl (gk 0) rfl rfl<|fun x8 r_4 p10 c10=>jdn<|
  jdc 3 [9] rfl<|jdf 10 0 rfl rfl<|jdf 11 5 rfl rfl<|jd1 12<|jso (o := 5) (.f rfl) 0 rfl rfl rfl<|jdb [] [0, 3]<|jde<|jtn<|jA 2 rfl<|jxr<|jr1 rfl rfl (fun _ k=>k p1 c1 r_1 p10 c10 r_4) [0,1,2] (gq [2,0])

theorem c_referee_Parse {y0 : Str} : Con False Tryz.prog 43 [vs y0] [] [Pt (eArr 3 eStr) 0 0 tab_referee_players, Tb Tryz.prog "internal/strconv.uint64pow10" .u64 Lib.pow10Tab, Gve 3, Gve 4] (m_referee_Parse y0) fun r K=>∀ p1 c1 p2 c2,K (.tuple #[.agg #[vi r.1.1.1, sv p1 r.1.1.2 c1, vi r.1.2.1, vi r.1.2.2.1.1, vi r.1.2.2.1.2, sv p2 r.1.2.2.2 c2], vi r.2.1, vi r.2.2]) [] [Rl e_Pair p1 c1 r.1.1.2, Rl e_Move p2 c2 r.1.2.2.2] :=
 ent3 Tryz.call43 Tryz.func43 rfl fun X=>jsr<|jal .s (.agg #[vi 0, .slice none 0 0, vi 0, vi 0, vi 0, .slice none 0 0])<|fun b1=>jpc 2 rfl<|jot<|jsq<|jA 3 rfl<|jif rfl (jsr<|jpe (.agg #[vi 0, .slice none 0 0, vi 0, vi 0, vi 0, .slice none 0 0])<|jso .s 0 rfl rfl rfl<|jpc 2 rfl<|
  jot<|jxr<|jtr<|jrg' rfl (lC 0 (.agg #[vi 0, .slice none 0 0, vi 0, vi 0, vi 0, .slice none 0 0]) rfl rfl (lT rfl (lT rfl lN))) (fun _ k=>k none 0 none 0) [] ⟨gn,gn,⟨⟩⟩)<|jC<|jsr<|
  jal .s (.agg #[vi 0, .slice none 0 0, vi 0, vi 0, vi 0, .slice none 0 0, vi 0])<|fun b2=>jro e_Pair 68<|jro e_Move 42<|jot<|jA 1 rfl<|
  jjoK (fun s1 K=>∀ p1 c1 r_1 p2 c2 r_2,K [2,5] [(1, bx b2 124 [vi s1.2.1, sv p1 s1.2.2.1 c1, vi s1.2.2.2.1, vi s1.2.2.2.2.1, vi s1.2.2.2.2.2.1, sv p2 s1.2.2.2.2.2.2.1 c2, vi s1.2.2.2.2.2.2.2]), (2, r_1), (3, r_2)] [2,3,4,5] [(6, vi s1.1)] [Al e_Pair 68 r_1 p1 c1 s1.2.2.1, Al e_Move 42 r_2 p2 c2 s1.2.2.2.2.2.2.1]) (
  jbk<|
  jlpK (fun s2 K=>∀ p3 c3 r_3 p4 c4 r_4,K [2,5] [(1, bx b2 124 [vi s2.2.2.1, sv p3 s2.2.2.2.1 c3, vi s2.2.2.2.2.1, vi s2.2.2.2.2.2.1, vi s2.2.2.2.2.2.2.1, sv p4 s2.2.2.2.2.2.2.2.1 c4, vi s2.2.2.2.2.2.2.2.2]), (2, r_3), (3, r_4)] [2,3,4,5] [(0, vs s2.1), (6, vi s2.2.1)] [Al e_Pair 68 r_3 p3 c3 s2.2.2.2.1, Al e_Move 42 r_4 p4 c4 s2.2.2.2.2.2.2.2.1]) (gv (fun _ k=>k none 0 [] none 0 []) [0,1,2,3] (by exact (gq [1,0,2,3,4,5])))<|
  fun s2 _ k p3 c3 r_3 p4 c4 r_4=>k<|jsq<|jA 3 rfl<|jif rfl (jC<|jsq<|jbk<|jsr<|jpc 1 rfl<|jcl c_strings_Cut rfl ⟨⟩<|fun r1 _ k=>k<|jpc 7 rfl<|jot<|jsq<|
  jjnK (fun s3 K=>∀ p5 c5 r_5 p6 c6 r_6,K [2,5,6,8] [(1, bx b2 124 [vi s3.2.1, sv p5 s3.2.2.1 c5, vi s3.2.2.2.1, vi s3.2.2.2.2.1, vi s3.2.2.2.2.2.1, sv p6 s3.2.2.2.2.2.2.1 c6, vi s3.2.2.2.2.2.2.2]), (2, r_5), (3, r_6)] [2,3,4,5] [(32, vb s3.1)] [Al e_Pair 68 r_5 p5 c5 s3.2.2.1, Al e_Move 42 r_6 p6 c6 s3.2.2.2.2.2.2.1]) (
  jrg<|jpc 3 rfl<|jsg 28 rfl (jpc 3 rfl<|jpe (vb true)<|joe<|jnn (gv (fun _ k=>k p3 c3 r_3 p4 c4 r_4) [0,1,2,3] (by exact (gq [0,1,2,3,4,5]))))<|jpc 1 rfl<|jca .s [1, 2, 3] [] c_referee_reader_read rfl rfl rfl (cq [0,1,2,3,4,5])<|
  fun r2 _ k p7 c7 r_7 p8 c8 r_8=>k<|jpc 1 rfl<|jpe (vb (!r2.1))<|joe<|jnn (gv (fun _ k=>k p7 c7 r_7 p8 c8 r_8) [0,1,2,3] (by exact (gq [0,1,4,5,6,7]))))<|fun s3 _ k p5 c5 r_5 p6 c6 r_6=>k<|jif rfl (jsr<|
  jpe (.agg #[vi 0, .slice none 0 0, vi 0, vi 0, vi 0, .slice none 0 0])<|jpc 2 rfl<|jso .s 0 rfl rfl rfl<|jpc 2 rfl<|jot<|jxr<|jtr<|jbr<|jtr<|jlr<|jbr<|jlr<|
  jrg' rfl (lC 0 (.agg #[vi 0, .slice none 0 0, vi 0, vi 0, vi 0, .slice none 0 0]) rfl rfl (lT rfl (lT rfl lN))) (fun _ k=>k none 0 none 0) [] ⟨gn,gn,⟨⟩⟩)<|jC<|jB 2 rfl<|jbn<|jtn<|jB 3 rfl<|
  jln (gv (fun _ k=>k p5 c5 r_5 p6 c6 r_6) [0,1,2,3] (by exact (gq [0,1,2,3,4,5]))))<|jxe<|jte<|jle<|jbh<|jln (gv (fun _ k=>k p3 c3 r_3 p4 c4 r_4) [0,1,2,3] (by exact (gq [0,1,2,3,4,5]))))<|fun s1 _ k p1 c1 r_1 p2 c2 r_2=>k<|jsq<|jsr<|
  jfa 6 rfl<|jlo 1 rfl rfl rfl<|jpc 1 rfl<|jot<|jif rfl (jsr<|jpe (.agg #[vi 0, .slice none 0 0, vi 0, vi 0, vi 0, .slice none 0 0])<|jpc 2 rfl<|jso .s 0 rfl rfl rfl<|jpc 2 rfl<|jot<|jxr<|jtr<|
  jrg' rfl (lC 0 (.agg #[vi 0, .slice none 0 0, vi 0, vi 0, vi 0, .slice none 0 0]) rfl rfl (lT rfl (lT rfl lN))) (fun _ k=>k none 0 none 0) [] ⟨gn,gn,⟨⟩⟩)<|jC<|jsq<|jsr<|jfa 0 rfl<|jla 1 6 rfl rfl rfl<|
  jca .s [] [2, 3] c_referee_check rfl rfl rfl ⟨cl 2 0,cl 3 1,⟨⟩⟩<|fun r3 _ k=>k<|jpc 1 rfl<|jot<|jA 2 rfl<|jif rfl (jsr<|jpe (.agg #[vi 0, .slice none 0 0, vi 0, vi 0, vi 0, .slice none 0 0])<|jpc 1 rfl<|jso .s 0 rfl rfl rfl<|jpc 2 rfl<|
  jot<|jxr<|jtr<|jrg' rfl (lC 0 (.agg #[vi 0, .slice none 0 0, vi 0, vi 0, vi 0, .slice none 0 0]) rfl rfl (lT rfl (lT rfl lN))) (fun _ k=>k none 0 none 0) [] ⟨gn,gn,⟨⟩⟩)<|jC<|jsr<|jfa 0 rfl<|jla 1 6 rfl rfl rfl<|jso .s 0 rfl rfl rfl<|
  jpc 2 rfl<|jot<|jxr<|jsh 2 0 rfl rfl<|jsh 3 2 rfl rfl<|
  jrg' rfl (lC 0 (.agg #[vi s1.2.1, sv p1 s1.2.2.1 c1, vi s1.2.2.2.1, vi s1.2.2.2.2.1, vi s1.2.2.2.2.2.1, sv p2 s1.2.2.2.2.2.2.1 c2]) rfl rfl (lT rfl (lT rfl lN))) (fun _ k=>k p1 c1 p2 c2) [] (gq [1,0])

theorem c_law30_awake : Con False Tryz.prog 20 [] [] [Pt (eArr 3 eStr) 0 0 tab_referee_players, Tb Tryz.prog "internal/strconv.uint64pow10" .u64 Lib.pow10Tab, Gve 3, Gve 4] (m_law30_awake) fun r K=>K (vb r) [] [] :=
 ent3 Tryz.call20 Tryz.func20 rfl fun X=>jA 1 rfl<|jsr<|jpe (.agg #[vi 0, vi 1])<|jpe (.agg #[vi 1, vi 2])<|jbs .s (e := e_Pair) 68 [vi 0, vi 1, vi 1, vi 2] ([(0, 1), (1, 2)] : List T_Pair) (rC (vP vI vI) (rC (vP vI vI) rN))<|fun p1 c1=>
  jpe (.agg #[vi 3, sv p1 ([(0, 1), (1, 2)] : List T_Pair) c1])<|jal .s (.agg #[vi 0, .slice none 0 0])<|fun b1=>jso .s 0 rfl rfl rfl<|jot<|jsr<|jla 0 2 rfl rfl rfl<|jv (v := .agg #[vi 9, vi 9]) (fun h=>r_buildA h (by kernel_rfl))<|
  jpe (.agg #[vi 1, vi 1, vi 2, vi 0])<|jpe (.agg #[vi 2, vi 2, vi 1, vi 0])<|
  jbs .s (e := e_Move) 42 [vi 1, vi 1, vi 2, vi 0, vi 2, vi 2, vi 1, vi 0] ([(1, 1, 2, 0), (2, 2, 1, 0)] : List T_Move) (rC (vP vI (vP vI (vP vI vI))) (rC (vP vI (vP vI (vP vI vI))) rN))<|fun p2 c2=>
  jpe (.agg #[vi 3, sv p1 ([(0, 1), (1, 2)] : List T_Pair) c1, vi 2, vi 9, vi 9, sv p2 ([(1, 1, 2, 0), (2, 2, 1, 0)] : List T_Move) c2])<|jal .s (.agg #[vi 0, .slice none 0 0, vi 0, vi 0, vi 0, .slice none 0 0])<|fun b2=>
  jso .s 1 rfl rfl rfl<|jot<|jsr<|jla 1 6 rfl rfl rfl<|jcl c_referee_Format rfl (cq [1,0,2,3])<|fun r1 _ k=>k<|jpc 5 rfl<|jot<|jsr<|jpc 1 rfl<|jcl c_referee_Parse rfl (cq [2,3,4,5])<|fun r2 _ k p3 c3 p4 c4=>k<|jpc 4 rfl<|
  jal .s (.agg #[vi 0, .slice none 0 0, vi 0, vi 0, vi 0, .slice none 0 0])<|fun b3=>jso .s 2 rfl rfl rfl<|jpc 2 rfl<|jot<|jjnK (fun s1 K=>K [] [(0, []), (1, []), (2, [])] [4,5,6,7] [(0, vb s1)] []) (jrg<|jpc 3 rfl<|jsg 31 rfl (jpc 2 rfl<|
  jpe (vb (r2.2.2 == 0))<|jpc 1 rfl<|jsg 35 rfl (jpc 2 rfl<|jpe (vb (r2.2.1 == 0))<|jpc 1 rfl<|jsg 39 rfl (jpc 2 rfl<|
  jpe (vb (r1.1 == [110, 111, 100, 101, 115, 32, 51, 10, 97, 116, 116, 97, 99, 107, 32, 48, 32, 49, 10, 97, 116, 116, 97, 99, 107, 32, 49, 32, 50, 10, 114, 111, 111, 116, 32, 50, 10, 108, 105, 109, 105, 116, 115, 32, 57, 32, 57, 10, 80, 32, 99, 108, 97, 105, 109, 115, 32, 50, 10, 79, 32, 109, 111, 118, 101, 115, 32, 49, 32, 97, 103, 97, 105, 110, 115, 116, 32, 48, 10]))<|
  jpc 1 rfl<|jsg 43 rfl (jla 1 6 rfl rfl rfl<|jla 2 6 rfl rfl rfl<|jcl c_ref30_Same rfl (cq [3,2,0,1])<|fun r3 _ k=>k<|jpe (vb r3)<|jpc 1 rfl<|joe<|jnn (gv (fun _ k=>k) [900,901,902] (gq [4,5,6,7])))<|jpc 3 rfl<|jpe (vb false)<|jpc 1 rfl<|
  joe<|jnn (gv (fun _ k=>k) [900,901,902] (gq [4,5,6,7])))<|jpc 2 rfl<|jpe (vb false)<|jpc 4 rfl<|jpe (vb false)<|jpc 1 rfl<|joe<|jnn (gv (fun _ k=>k) [900,901,902] (gq [4,5,6,7])))<|jpc 2 rfl<|jpe (vb false)<|jpc 3 rfl<|jpe (vb false)<|
  jpc 4 rfl<|jpe (vb false)<|jpc 1 rfl<|joe<|jnn (gv (fun _ k=>k) [900,901,902] (gq [4,5,6,7])))<|jpc 2 rfl<|jpe (vb false)<|jpc 3 rfl<|jpe (vb false)<|jpc 3 rfl<|jpe (vb false)<|jpc 4 rfl<|jpe (vb false)<|jpc 1 rfl<|joe<|
  jnn (gv (fun _ k=>k) [900,901,902] (gq [4,5,6,7])))<|fun s1 _ k=>k<|jxr<|jr1 rfl rfl (fun _ k=>k) [] ⟨⟩

theorem c_net_Graph {qd : Prop} {y0 : T_keep_Src} {y1 : Int} : Con qd Tryz.prog 5 [pt b1 0, vi y1] [bx b1 66 [sv p1 y0.1 c1, vi y0.2]] [Rl (eInt .i64) p1 c1 y0.1] (m_net_Graph y0 y1) fun r K=>∀ p2 c2,K (.agg #[vi r.1.1, sv p2 r.1.2 c2]) [bx b1 66 [sv p1 y0.1 c1, vi r.2]] [Rl e_Pair p2 c2 r.1.2] :=
 ent3 Tryz.call5 Tryz.func5 rfl fun X=>jsr<|jal .s (.agg #[vi 0, .slice none 0 0])<|fun b2=>jot<|jsr<|jpc 2 rfl<|jca .s [0] [] c_keep_Src_Range rfl rfl rfl (cq [0])<|fun r1 _ k=>k<|jpe (.agg #[vi r1.1, .slice none 0 0])<|jro e_Pair 68<|jal .s (.agg #[vi 0, .slice none 0 0])<|
  fun b3=>jso .s 3 rfl rfl rfl<|jot<|jsr<|jpc 1 rfl<|jca .s [0] [] c_keep_Src_Range rfl rfl rfl (cq [1])<|fun r2 _ k=>k<|jpc 1 rfl<|jot<|
  jjnK (fun s1 K=>∀ p2 c2 r_1,K [4,5] [(0, bx b1 66 [sv p1 y0.1 c1, vi s1.1]), (2, r_1), (3, bx b3 27 [vi r1.1, sv p2 s1.2 c2])] [1] [] [Al e_Pair 68 r_1 p2 c2 s1.2]) (jA 1 rfl<|jbk<|
  jlpK (fun s2 K=>∀ p3 c3 r_2,K [0,4,5,6] [(0, bx b1 66 [sv p1 y0.1 c1, vi s2.2.1]), (2, r_2), (3, bx b3 27 [vi r1.1, sv p3 s2.2.2 c3])] [1] [(7, vi s2.1)] [Al e_Pair 68 r_2 p3 c3 s2.2.2]) (gv (fun _ k=>k none 0 []) [0,1,2,3] (gq [0,1]))<|
  fun s2 _ k p3 c3 r_2=>k<|jsq<|jsr<|jpc 1 rfl<|jfa 0 rfl<|jlo 3 rfl rfl rfl<|jpc 1 rfl<|jot<|jif rfl (jC<|jsq<|jbk<|jA 1 rfl<|jbk<|
  jlpK (fun s3 K=>∀ p4 c4 r_3,K [0,4,5,6,7] [(0, bx b1 66 [sv p1 y0.1 c1, vi s3.2.1]), (2, r_3), (3, bx b3 27 [vi r1.1, sv p4 s3.2.2 c4])] [1] [(8, vi s3.1)] [Al e_Pair 68 r_3 p4 c4 s3.2.2]) (gv (fun _ k=>k p3 c3 r_2) [0,1,2,3] (gq [0,1]))<|
  fun s3 _ k p4 c4 r_3=>k<|jsq<|jsr<|jpc 1 rfl<|jfa 0 rfl<|jlo 3 rfl rfl rfl<|jpc 1 rfl<|jot<|jif rfl (jC<|jsq<|jbk<|jA 2 rfl<|jjnK (fun s4 K=>K [0,4,5,6,7,8] [] [1,0] [(9, vi s4)] []) (jA 3 rfl<|jif rfl (jB 1 rfl<|
  jnn (gv (fun _ k=>k) [0,1,2,3] (gq [1,0])))<|jsk<|jnn (gv (fun _ k=>k) [0,1,2,3] (gq [1,0])))<|fun s4 _ k=>k<|jsr<|jpc 2 rfl<|jca .s [0] [] c_keep_Src_N rfl rfl rfl (cq [0])<|fun r3 _ k=>k<|jpc 1 rfl<|jot<|jif rfl (jrg<|jfa 1 rfl<|
  jlo 3 rfl rfl rfl<|jpc 2 rfl<|jpe (.agg #[vi s2.1, vi s3.1])<|jbs .s (e := e_Pair) 68 [vi s2.1, vi s3.1] ([(s2.1, s3.1)] : List T_Pair) (rC (vP vI vI) rN)<|fun p5 c5=>jar .s 2 2 rfl (gk 0) rfl rfl<|fun x1 r_4 p6 c6=>jfa 1 rfl<|
  jso .s 3 rfl rfl rfl<|joe<|jbn<|jtn<|jB 3 rfl<|jln (gv (fun _ k=>k p6 c6 r_4) [0,1,2,3] (gq [0,2])))<|jsk<|jbn<|jtn<|jB 3 rfl<|jln (gv (fun _ k=>k p4 c4 r_3) [0,1,2,3] (gq [1,0])))<|jxe<|jte<|jle<|jbh<|jbn<|jtn<|jB 3 rfl<|
  jln (gv (fun _ k=>k p4 c4 r_3) [0,1,2,3] (gq [0,1])))<|jxe<|jte<|jle<|jbh<|jnn (gv (fun _ k=>k p3 c3 r_2) [0,1,2,3] (gq [0,1])))<|fun s1 _ k p2 c2 r_1=>k<|jsr<|jla 3 2 rfl rfl rfl<|jso .s 1 rfl rfl rfl<|jot<|jxr<|jsh 2 0 rfl rfl<|
  jrg' rfl (lC 1 (.agg #[vi r1.1, sv p2 s1.2 c2]) rfl rfl lN) (fun _ k=>k p2 c2) [0] (gq [0])

theorem c_ref27_gone {qd : Prop} {y0 : T_Dialogue} : Con qd Tryz.prog 54 [.agg #[vi y0.1.1, sv p1 y0.1.2 c1, vi y0.2.1, vi y0.2.2.1.1, vi y0.2.2.1.2, sv p2 y0.2.2.2 c2]] [] [Rl e_Pair p1 c1 y0.1.2, Rl e_Move p2 c2 y0.2.2.2] (m_ref27_gone y0) fun r K=>∀ p3 c3,K (sv p3 r c3) [] [Rl eBool p3 c3 r] :=
 ent3 Tryz.call54 Tryz.func54 rfl fun X=>jsr<|jbx .s rfl<|fun b1=>jpc 1 rfl<|jot<|jsr<|jfa 5 rfl<|jlo 0 rfl rfl rfl<|jpc 1 rfl<|jmk .s (e := eBool) 4 (false : Bool) (vb false) vB rfl rfl<|fun x1 r_1 p3 c3=>jpc 1 rfl<|jot<|jsq<|jA 1 rfl<|jbk<|
  jlpK (fun s1 K=>∀ r_2,K [1] [(1, r_2)] [1,2] [(3, .slice p3 (List.length x1) c3), (4, vi s1.2)] [Ar eBool 4 r_2 p3 c3 (List.length x1) s1.1]) (gv (fun _ k=>k r_1) [0,1] (gq [0,1,2]))<|fun s1 _ k r_2=>k<|jsq<|jsr<|jpc 1 rfl<|jfa 5 rfl<|
  jlo 0 rfl rfl rfl<|jpc 2 rfl<|jot<|jif rfl (jC<|jsq<|jbk<|jsr<|jfa 5 rfl<|jlo 0 rfl rfl rfl<|jpc 1 rfl<|jix 2 rfl rfl rfl<|fun x2 b2 o1=>jld true o_Move (gk 0) rfl<|jal .s (.agg #[vi 0, vi 0, vi 0, vi 0])<|fun b3=>jso .s 2 rfl rfl rfl<|
  jot<|jjnK (fun s2 K=>∀ r_3,K [1,3,4,5] [(1, r_3)] [2,3] [] [Ar eBool 4 r_3 p3 c3 (List.length x1) s2]) (jrg<|jpc 2 rfl<|jfa 1 rfl<|jlo 2 rfl rfl rfl<|jpc 2 rfl<|jsg 28 rfl (jpc 3 rfl<|jpe (vb true)<|jia 1 rfl rfl rfl<|fun x3 h1 b4 o2 hp1=>
  jsA .s 1 1 sI true false rfl hp1 h1 rfl rfl vB<|fun r_4=>joe<|jnn (gv (fun _ k=>k r_4) [0,1,2] (gq [0,3,4])))<|jfa 1 rfl<|jlo 2 rfl rfl rfl<|jpc 1 rfl<|jpe (vb (x2.2.1 == 4))<|jia 1 rfl rfl rfl<|fun x4 h2 b5 o3 hp2=>
  jsA .s 1 1 sI (x2.2.1 == 4) false rfl hp2 h2 rfl rfl vB<|fun r_5=>joe<|jnn (gv (fun _ k=>k r_5) [0,1,2] (gq [0,3,4])))<|fun s2 _ k r_3=>k<|jjnK (fun s3 K=>∀ r_6,K [1,3,4,5] [(1, r_6)] [1,2] [] [Ar eBool 4 r_6 p3 c3 (List.length x1) s3]) (
  jA 3 rfl<|jbk<|jlpK (fun s4 K=>∀ r_7,K [1,3,4,5] [(1, r_7)] [1,2] [(6, vi s4.2)] [Ar eBool 4 r_7 p3 c3 (List.length x1) s4.1]) (gv (fun _ k=>k r_3) [0,1,2] (gq [0,1,2]))<|fun s4 _ k r_7=>k<|jsq<|jsr<|jpc 1 rfl<|jfa 5 rfl<|
  jlo 0 rfl rfl rfl<|jpc 2 rfl<|jot<|jif rfl (jC<|jsq<|jbk<|jjcK (fun s5 K=>∀ r_8,K [1,3,4,5,6] [(1, r_8)] [1,2] [] [Ar eBool 4 r_8 p3 c3 (List.length x1) s5]) (jrg<|jpc 4 rfl<|jia 0 rfl rfl rfl<|fun x5 h3 b6 o4 hp3=>
  jlA 1 0 sI false oB rfl hp3 h3 rfl<|jpc 1 rfl<|jsg 49 rfl (jpc 17 rfl<|jpe (vb true)<|jia 0 rfl rfl rfl<|fun x6 h4 b7 o5 hp4=>jsA .s 1 0 sI true false rfl hp4 h4 rfl rfl vB<|fun r_9=>joe<|jnn (gv (fun _ k=>k r_9) [0,1,2] (gq [0,2,3])))<|
  jfa 5 rfl<|jlo 0 rfl rfl rfl<|jpc 1 rfl<|jix 2 rfl rfl rfl<|fun x7 b8 o6=>jfa 1 rfl<|jld false oI (gf (gs (gk 0))) rfl<|jpc 2 rfl<|jsg 57 rfl (jfa 5 rfl<|jlo 0 rfl rfl rfl<|jpc 1 rfl<|jix 3 rfl rfl rfl<|fun x8 b9 o7=>jfa 3 rfl<|
  jld false oI (gs (gs (gs (gk 0)))) rfl<|jpc 2 rfl<|jpe (vb (x8.2.2.2 == s1.2))<|jpe (vb (x8.2.2.2 == s1.2))<|jia 2 rfl rfl rfl<|fun x9 h5 b10 o8 hp5=>jsA .s 1 2 sI (x8.2.2.2 == s1.2) false rfl hp5 h5 rfl rfl vB<|fun r_10=>joe<|
  jnn (gv (fun _ k=>k r_10) [0,1,2] (gq [0,4,5])))<|jpc 8 rfl<|jpe (vb false)<|jpe (vb false)<|jia 1 rfl rfl rfl<|fun x10 h6 b11 o9 hp6=>jsA .s 1 1 sI false false rfl hp6 h6 rfl rfl vB<|fun r_11=>joe<|
  jnn (gv (fun _ k=>k r_11) [0,1,2] (gq [0,3,4])))<|fun s5 _ k r_8=>k<|jbn<|jtn<|jB 3 rfl<|jln (gv (fun _ k=>k r_8) [0,1,2] (gq [0,1,2])))<|jxe<|jte<|jle<|jbh<|jnn (gv (fun _ k=>k r_7) [0,1,2] (gq [0,1,2])))<|fun s3 _ k r_6=>k<|jsr<|
  jfa 1 rfl<|jlo 2 rfl rfl rfl<|jpc 1 rfl<|jot<|jif rfl (jjcK (fun s6 K=>∀ r_12,K [1,3,4] [(1, r_12), (2, [])] [1,2] [] [Ar eBool 4 r_12 p3 c3 (List.length x1) s6]) (jrg<|jpc 4 rfl<|jia 0 rfl rfl rfl<|fun x11 h7 b12 o10 hp7=>
  jlA 1 0 sI false oB rfl hp7 h7 rfl<|jpc 1 rfl<|jsg 78 rfl (jpc 5 rfl<|jpe (vb true)<|jia 0 rfl rfl rfl<|fun x12 h8 b13 o11 hp8=>jsA .s 1 0 sI true false rfl hp8 h8 rfl rfl vB<|fun r_13=>joe<|jnn (gv (fun _ k=>k r_13) [0,1,902] (gq [0,2,3]))
  )<|jpc 1 rfl<|jfa 3 rfl<|jlo 2 rfl rfl rfl<|jia 0 rfl rfl rfl<|fun x13 h9 b14 o12 hp9=>jlA 1 0 sI false oB rfl hp9 h9 rfl<|jpe (vb x13)<|jia 0 rfl rfl rfl<|fun x14 h10 b15 o13 hp10=>jsA .s 1 0 sI x13 false rfl hp10 h10 rfl rfl vB<|
  fun r_14=>joe<|jnn (gv (fun _ k=>k r_14) [0,1,902] (gq [0,2,3])))<|fun s6 _ k r_12=>k<|jbn<|jtn<|jB 3 rfl<|jln (gv (fun _ k=>k r_12) [0,1] (gq [0,1,2])))<|jsk<|jbn<|jtn<|jB 3 rfl<|jln (gv (fun _ k=>k r_6) [0,1] (gq [0,1,2])))<|jxe<|jte<|
  jle<|jbh<|jtn<|jA 2 rfl<|jxr<|jsh 1 0 rfl rfl<|jre 0 2 rfl rfl<|jr1 rfl rfl (fun _ k=>k p3 c3) [] (gq [0])

theorem c_ref27_Status {qd : Prop} {y0 : T_Dialogue} : Con qd Tryz.prog 38 [.agg #[vi y0.1.1, sv p1 y0.1.2 c1, vi y0.2.1, vi y0.2.2.1.1, vi y0.2.2.1.2, sv p2 y0.2.2.2 c2]] [] [Rl e_Pair p1 c1 y0.1.2, Rl e_Move p2 c2 y0.2.2.2] (m_ref27_Status y0) fun r K=>∀ p3 c3,K (sv p3 r c3) [] [Rl (eInt .i64) p3 c3 r] :=
 ent3 Tryz.call38 Tryz.func38 rfl fun X=>jsr<|jbx .s rfl<|fun b1=>jpc 1 rfl<|jot<|jsr<|jla 0 6 rfl rfl rfl<|jcl c_ref27_gone rfl (cq [0,1])<|fun r1 _ k p3 c3=>k<|jpc 1 rfl<|jot<|jsr<|jfa 5 rfl<|jlo 0 rfl rfl rfl<|jpc 1 rfl<|jmk .s (e := eInt .i64) 3 (0 : Int) (vi 0) vI rfl rfl<|
  fun x1 r_1 p4 c4=>jpc 1 rfl<|jot<|jsq<|jsr<|jfa 5 rfl<|jlo 0 rfl rfl rfl<|jpc 3 rfl<|jot<|jbk<|
  jlpK (fun s1 K=>∀ r_2,K [1,3] [(1, r_2)] [1,2,3] [(4, .slice p4 (List.length x1) c4), (5, vi s1.2)] [Ar (eInt .i64) 3 r_2 p4 c4 (List.length x1) s1.1]) (gv (fun _ k=>k r_1) [0,1] (gq [0,1,2,3]))<|fun s1 _ k r_2=>k<|jsq<|jA 2 rfl<|jif rfl (
  jC<|jsq<|jbk<|jsq<|jsr<|jpc 2 rfl<|jix 1 rfl rfl rfl<|fun x2 b2 o1=>jld false oB (gk 0) rfl<|jot<|jif rfl (jxe<|jte<|jbh<|jtn<|jB 3 rfl<|jln (gv (fun _ k=>k r_2) [0,1] (gq [1,2,3,4])))<|jC<|jsr<|jpc 2 rfl<|jia 1 rfl rfl rfl<|
  fun x3 h1 b3 o2 hp1=>jsA .s 1 1 sI 1 false rfl hp1 h1 rfl rfl vI<|fun r_3=>jot<|jA 3 rfl<|jbk<|
  jlpK (fun s2 K=>∀ r_4,K [1,3,4,5] [(1, r_4)] [3,4,5] [(6, vi s2.2)] [Ar (eInt .i64) 3 r_4 p4 c4 (List.length x1) s2.1]) (gv (fun _ k=>k r_3) [0,1] (gq [0,3,4,5]))<|fun s2 _ k r_4=>k<|jsq<|jsr<|jpc 1 rfl<|jfa 5 rfl<|jlo 0 rfl rfl rfl<|
  jpc 2 rfl<|jot<|jif rfl (jC<|jsq<|jbk<|jjnK (fun s3 K=>K [1,3,4,5,6] [] [1,0,2,3] [(60, vb s3)] []) (jrg<|jfa 5 rfl<|jlo 0 rfl rfl rfl<|jpc 1 rfl<|jix 3 rfl rfl rfl<|fun x4 b4 o3=>jfa 1 rfl<|jld false oI (gf (gs (gk 0))) rfl<|jpc 2 rfl<|
  jsg 44 rfl (jfa 5 rfl<|jlo 0 rfl rfl rfl<|jpc 1 rfl<|jix 4 rfl rfl rfl<|fun x5 b5 o4=>jfa 3 rfl<|jld false oI (gs (gs (gs (gk 0)))) rfl<|jpc 2 rfl<|jpe (vb (x5.2.2.2 == s1.2))<|jpc 1 rfl<|jsg 54 rfl (jpc 2 rfl<|jia 2 rfl rfl rfl<|
  fun x6 h2 b6 o5 hp2=>jlA 1 2 sI false oI rfl hp2 h2 rfl<|jpc 1 rfl<|jpe (vb (x6 == 1))<|joe<|jnn (gv (fun _ k=>k) [0,1] (gq [3,2,4,5])))<|jpc 5 rfl<|jpe (vb false)<|joe<|jnn (gv (fun _ k=>k) [0,1] (gq [3,2,4,5])))<|jpc 8 rfl<|
  jpe (vb false)<|jpc 6 rfl<|jpe (vb false)<|joe<|jnn (gv (fun _ k=>k) [0,1] (gq [2,1,3,4])))<|fun s3 _ k=>k<|jif rfl (jrg<|jpc 2 rfl<|jia 1 rfl rfl rfl<|fun x7 h3 b7 o6 hp3=>jsA .s 1 1 sI 2 false rfl hp3 h3 rfl rfl vI<|fun r_5=>joe<|jbn<|
  jtn<|jB 3 rfl<|jln (gv (fun _ k=>k r_5) [0,1] (gq [0,1,3,4])))<|jsk<|jbn<|jtn<|jB 3 rfl<|jln (gv (fun _ k=>k r_4) [0,1] (gq [1,0,2,3])))<|jxe<|jte<|jle<|jbh<|jbn<|jtn<|jB 3 rfl<|jln (gv (fun _ k=>k r_4) [0,1] (gq [0,1,2,3])))<|jxe<|jte<|
  jle<|jbh<|jtn<|jA 2 rfl<|jxr<|jsh 1 0 rfl rfl<|jre 0 2 rfl rfl<|jr1 rfl rfl (fun _ k=>k p4 c4) [] (gq [0])

theorem c_net_Has {qd : Prop} {y0 : T_Graph} {y1 : Int} {y2 : Int} : Con qd Tryz.prog 56 [.agg #[vi y0.1, sv p1 y0.2 c1], vi y1, vi y2] [] [Rl e_Pair p1 c1 y0.2] (m_net_Has y0 y1 y2) fun r K=>K (vb r) [] [] :=
 ent3 Tryz.call56 Tryz.func56 rfl fun X=>jsr<|jbx .s rfl<|fun b1=>jpc 1 rfl<|jot<|jsq<|jA 1 rfl<|jbk<|jlpK (fun s1 K=>K [1,2,3] [] [0] [(7, vi s1)] []) (gv (fun _ k=>k) [0] (gq [0]))<|fun s1 _ k=>k<|jsq<|jsr<|jpc 1 rfl<|jfa 1 rfl<|jlo 0 rfl rfl rfl<|jpc 2 rfl<|jot<|jif rfl (jC<|
  jsq<|jbk<|jjnK (fun s2 K=>K [1,2,3,7] [] [0] [(32, vb s2)] []) (jrg<|jfa 1 rfl<|jlo 0 rfl rfl rfl<|jpc 1 rfl<|jix 0 rfl rfl rfl<|fun x1 b2 o1=>jfa 0 rfl<|jld false oI (gf (gk 0)) rfl<|jpc 3 rfl<|jsg 23 rfl (jfa 1 rfl<|jlo 0 rfl rfl rfl<|
  jpc 1 rfl<|jix 1 rfl rfl rfl<|fun x2 b3 o2=>jfa 1 rfl<|jld false oI (gs (gk 0)) rfl<|jpc 2 rfl<|jpe (vb (x2.2 == y2))<|joe<|jnn (gv (fun _ k=>k) [0] (gq [2])))<|jpc 8 rfl<|jpe (vb false)<|joe<|jnn (gv (fun _ k=>k) [0] (gq [1])))<|
  fun s2 _ k=>k<|jif rfl (jA 1 rfl<|jxr<|jbr<|jtr<|jlr<|jbr<|jtr<|jr1 rfl rfl (fun _ k=>k) [] ⟨⟩)<|jsk<|jbn<|jtn<|jB 3 rfl<|jln (gv (fun _ k=>k) [0] (gq [0])))<|jxe<|jte<|jle<|jbh<|jtn<|jA 1 rfl<|jxr<|jr1 rfl rfl (fun _ k=>k) [] ⟨⟩

theorem c_net_In {qd : Prop} {y0 : List Int} {y1 : Int} : Con qd Tryz.prog 66 [sv p1 y0 c1, vi y1] [] [Rl (eInt .i64) p1 c1 y0] (m_net_In y0 y1) fun r K=>K (vb r) [] [] :=
 ent3 Tryz.call66 Tryz.func66 rfl fun X=>jA 1 rfl<|jsq<|jA 1 rfl<|jbk<|jlpK (fun s1 K=>K [0,1] [] [0] [(5, vi s1)] []) (gv (fun _ k=>k) [] (gq [0]))<|fun s1 _ k=>k<|jsq<|jA 4 rfl<|jif rfl (jC<|jsq<|jbk<|jsr<|jpc 2 rfl<|jix 0 rfl rfl rfl<|fun x1 b1 o1=>jld false oI (gk 0) rfl<|
  jpc 2 rfl<|jot<|jif rfl (jA 1 rfl<|jxr<|jbr<|jtr<|jlr<|jbr<|jtr<|jr1 rfl rfl (fun _ k=>k) [] ⟨⟩)<|jsk<|jbn<|jtn<|jB 3 rfl<|jln (gv (fun _ k=>k) [] (gq [1])))<|jxe<|jte<|jle<|jbh<|jtn<|jA 1 rfl<|jxr<|jr1 rfl rfl (fun _ k=>k) [] ⟨⟩

theorem c_ref27_leader {qd : Prop} {y0 : List Int} : Con qd Tryz.prog 37 [sv p1 y0 c1] [] [Rl (eInt .i64) p1 c1 y0] (m_ref27_leader y0) fun r K=>K (vi r) [] [] :=
 ent3 Tryz.call37 Tryz.func37 rfl fun X=>jA 1 rfl<|jsq<|jsr<|jpc 1 rfl<|jix 0 rfl rfl rfl<|fun x1 b1 o1=>jld false oI (gk 0) rfl<|jpc 1 rfl<|jot<|jif rfl (jA 1 rfl<|jxr<|jtr<|jr1 rfl rfl (fun _ k=>k) [] ⟨⟩)<|jC<|jA 1 rfl<|jxr<|jr1 rfl rfl (fun _ k=>k) [] ⟨⟩

theorem c_ref27_Leading {qd : Prop} {y0 : T_Dialogue} : Con qd Tryz.prog 55 [.agg #[vi y0.1.1, sv p1 y0.1.2 c1, vi y0.2.1, vi y0.2.2.1.1, vi y0.2.2.1.2, sv p2 y0.2.2.2 c2]] [] [Rl e_Pair p1 c1 y0.1.2, Rl e_Move p2 c2 y0.2.2.2] (m_ref27_Leading y0) fun r K=>∀ p3 c3,K (sv p3 r c3) [] [Rl (eInt .i64) p3 c3 r] :=
 ent3 Tryz.call55 Tryz.func55 rfl fun X=>jsr<|jbx .s rfl<|fun b1=>jpc 1 rfl<|jot<|jsr<|jla 0 6 rfl rfl rfl<|jcl c_ref27_Status rfl (cq [0,1])<|fun r1 _ k p3 c3=>k<|jpc 1 rfl<|jot<|jsr<|jbo .s (e := eInt .i64) 3 [vi 0] ([0] : List Int) (rC vI rN)<|fun r_1 p4 c4=>jpc 1 rfl<|jot<|
  jsq<|jA 1 rfl<|jbk<|jlpK (fun s1 K=>∀ p5 c5 r_2,K [1,3] [(1, r_2)] [1,2,3] [(4, sv p5 s1.1 c5), (5, vi s1.2)] [Al (eInt .i64) 3 r_2 p5 c5 s1.1]) (gv (fun _ k=>k p4 c4 r_1) [0,1] (gq [0,1,2,3]))<|fun s1 _ k p5 c5 r_2=>k<|jsq<|jsr<|
  jpc 1 rfl<|jfa 5 rfl<|jlo 0 rfl rfl rfl<|jpc 2 rfl<|jot<|jif rfl (jC<|jsq<|jbk<|jsr<|jfa 5 rfl<|jlo 0 rfl rfl rfl<|jpc 1 rfl<|jix 3 rfl rfl rfl<|fun x1 b2 o1=>jld true o_Move (gk 0) rfl<|jal .s (.agg #[vi 0, vi 0, vi 0, vi 0])<|fun b3=>
  jso .s 2 rfl rfl rfl<|jot<|jsq<|jjnK (fun s2 K=>K [1,3,4,5,6] [] [2,1,3,4] [(33, vb s2)] []) (jrg<|jpc 2 rfl<|jix 2 rfl rfl rfl<|fun x2 b4 o2=>jld false oI (gk 0) rfl<|jpc 2 rfl<|jsg 27 rfl (jpc 5 rfl<|jpe (vb true)<|joe<|
  jnn (gv (fun _ k=>k) [0,1,2] (gq [3,2,4,5])))<|jpc 1 rfl<|jfa 3 rfl<|jlo 2 rfl rfl rfl<|jca .s [] [1] c_net_In rfl rfl rfl ⟨cl 1 2,⟨⟩⟩<|fun r2 _ k=>k<|jpc 1 rfl<|jpe (vb (!r2))<|joe<|jnn (gv (fun _ k=>k) [0,1,2] (gq [3,2,4,5])))<|
  fun s2 _ k=>k<|jif rfl (jxe<|jte<|jbh<|jtn<|jB 3 rfl<|jln (gv (fun _ k=>k p5 c5 r_2) [0,1] (gq [1,0,2,3])))<|jC<|jjnK (fun s3 K=>K [1,3,4,5] [(2, [])] [0,1,2,3] [(50, vb s3)] []) (jdS [] [0, 2] 17<|jdf 0 5 rfl rfl<|jdo 1 0 rfl rfl rfl rfl<|
  jdf 2 3 rfl rfl<|jdo 3 2 rfl rfl rfl rfl<|jdi 4 3 rfl rfl rfl rfl<|fun x3 b5 o3=>jdf 5 0 rfl rfl<|jdl 6 false oI rfl (gf (gk 0)) rfl<|jdc 9 [7] rfl<|jd1 8<|jca (.f rfl) [] [] c_ref27_leader rfl rfl rfl (cq [1])<|fun r3 _ k=>k<|jdn<|
  jdc 6 [9,10] rfl<|jsg 44 rfl (jdc 1 [11,12,13,14,15] rfl<|jdp 16 (vb true) rfl<|jde<|jnn (gv (fun _ k=>k) [0,1,902] (gq [1,2,3,4])))<|jdc 4 [11,12] rfl<|jdi 13 1 rfl rfl rfl rfl<|fun x4 b6 o4=>jdl 14 false oI rfl (gk 0) rfl<|
  jdc 1 [15] rfl<|jdp 16 (vb (x4 == 1)) rfl<|jde<|jnn (gv (fun _ k=>k) [0,1,902] (gq [2,3,4,5])))<|fun s3 _ k=>k<|jif rfl (jrg<|jpc 2 rfl<|jbs .s (e := eInt .i64) 3 [vi s1.2] ([s1.2] : List Int) (rC vI rN)<|fun p6 c6=>
  jar .s 1 2 rfl (gk 0) rfl rfl<|fun x5 r_3 p7 c7=>jpc 1 rfl<|joe<|jbn<|jtn<|jB 3 rfl<|jln (gv (fun _ k=>k p7 c7 r_3) [0,1] (gq [0,2,4,5])))<|jsk<|jbn<|jtn<|jB 3 rfl<|jln (gv (fun _ k=>k p5 c5 r_2) [0,1] (gq [1,0,2,3])))<|jxe<|jte<|jle<|jbh<|
  jtn<|jA 2 rfl<|jxr<|jsh 1 0 rfl rfl<|jr1 rfl rfl (fun _ k=>k p5 c5) [] (gq [0])

theorem c_ref27_repeated {qd : Prop} {y0 : T_Dialogue} {y1 : Int} {y2 : Int} : Con qd Tryz.prog 57 [.agg #[vi y0.1.1, sv p1 y0.1.2 c1, vi y0.2.1, vi y0.2.2.1.1, vi y0.2.2.1.2, sv p2 y0.2.2.2 c2], vi y1, vi y2] [] [Rl e_Pair p1 c1 y0.1.2, Rl e_Move p2 c2 y0.2.2.2] (m_ref27_repeated y0 y1 y2) fun r K=>K (vb r) [] [] :=
 ent3 Tryz.call57 Tryz.func57 rfl fun X=>jsr<|jbx .s rfl<|fun b1=>jpc 1 rfl<|jot<|jjoK (fun s1 K=>K [2,3] [] [0,1] [] []) (jbk<|jlpK (fun s2 K=>K [2,3] [] [0,1] [(1, vi s2)] []) (gv (fun _ k=>k) [0] (gq [0,1]))<|fun s2 _ k=>k<|jsq<|jA 2 rfl<|jif rfl (jC<|jbk<|jsq<|
  jjnK (fun s3 K=>K [1,2,3] [] [0,1] [(25, vb s3)] []) (jrg<|jfa 5 rfl<|jlo 0 rfl rfl rfl<|jpc 1 rfl<|jix 1 rfl rfl rfl<|fun x1 b2 o1=>jfa 0 rfl<|jld false oI (gf (gk 0)) rfl<|jpc 2 rfl<|jsg 16 rfl (jfa 5 rfl<|jlo 0 rfl rfl rfl<|jpc 1 rfl<|
  jix 2 rfl rfl rfl<|fun x2 b3 o2=>jfa 2 rfl<|jld false oI (gf (gs (gs (gk 0)))) rfl<|jpc 2 rfl<|jpe (vb (x2.2.2.1 == y2))<|joe<|jnn (gv (fun _ k=>k) [0] (gq [2,3])))<|jpc 8 rfl<|jpe (vb false)<|joe<|jnn (gv (fun _ k=>k) [0] (gq [1,2])))<|
  fun s3 _ k=>k<|jif rfl (jA 1 rfl<|jxr<|jtr<|jbr<|jlr<|jbr<|jlr<|jr1 rfl rfl (fun _ k=>k) [] ⟨⟩)<|jC<|jrg<|jfa 5 rfl<|jlo 0 rfl rfl rfl<|jpc 1 rfl<|jix 1 rfl rfl rfl<|fun x3 b4 o3=>jfa 3 rfl<|jld false oI (gs (gs (gs (gk 0)))) rfl<|
  jpc 1 rfl<|joe<|jbn<|jln (gv (fun _ k=>k) [0] (gq [1,2])))<|jxe<|jte<|jle<|jbh<|jln (gv (fun _ k=>k) [0] (gq [0,1])))<|fun s1 _ k=>k<|jsr<|jfa 5 rfl<|jlo 0 rfl rfl rfl<|jix 1 rfl rfl rfl<|fun x4 b5 o4=>jfa 2 rfl<|
  jld false oI (gf (gs (gs (gk 0)))) rfl<|jpc 3 rfl<|jot<|jxr<|jr1 rfl rfl (fun _ k=>k) [] ⟨⟩

theorem c_ref27_attacks {qd : Prop} {y0 : T_Dialogue} : Con qd Tryz.prog 39 [.agg #[vi y0.1.1, sv p1 y0.1.2 c1, vi y0.2.1, vi y0.2.2.1.1, vi y0.2.2.1.2, sv p2 y0.2.2.2 c2]] [] [Rl e_Pair p1 c1 y0.1.2, Rl e_Move p2 c2 y0.2.2.2] (m_ref27_attacks y0) fun r K=>∀ p3 c3,K (sv p3 r c3) [] [Rl e_Move p3 c3 r] :=
 ent3 Tryz.call39 Tryz.func39 rfl fun X=>jsr<|jbx .s rfl<|fun b1=>jpc 1 rfl<|jot<|jsr<|jla 0 6 rfl rfl rfl<|jcl c_ref27_Status rfl (cq [0,1])<|fun r1 _ k p3 c3=>k<|jpc 1 rfl<|jot<|jsr<|jpc 1 rfl<|jcl c_ref27_leader rfl (cq [0])<|fun r2 _ k=>k<|jpc 2 rfl<|jot<|jsr<|jpc 1 rfl<|
  jro e_Move 42<|jot<|jsq<|jsr<|jla 0 6 rfl rfl rfl<|jcl c_ref27_Leading rfl (cq [2,3])<|fun r3 _ k p4 c4=>k<|jpc 2 rfl<|jot<|jbk<|
  jlpK (fun s1 K=>∀ p5 c5 r_1,K [1,4,17,18] [(1, r_1)] [0,3,4] [(5, sv p5 s1.1 c5), (19, vi s1.2)] [Al e_Move 42 r_1 p5 c5 s1.1]) (gv (fun _ k=>k none 0 []) [0,1] (gq [1,0,3,4]))<|fun s1 _ k p5 c5 r_1=>k<|jA 1 rfl<|jsq<|jif rfl (jC<|jsq<|
  jbk<|jsr<|jix 1 rfl rfl rfl<|fun x1 b2 o1=>jld false oI (gk 0) rfl<|jpc 1 rfl<|jot<|jsq<|jsr<|jfa 5 rfl<|jlo 0 rfl rfl rfl<|jpc 1 rfl<|jix 4 rfl rfl rfl<|fun x2 b3 o2=>jfa 0 rfl<|jld false oI (gf (gk 0)) rfl<|jpc 2 rfl<|jot<|jif rfl (jxe<|
  jte<|jbh<|jtn<|jB 2 rfl<|jln (gv (fun _ k=>k p5 c5 r_1) [0,1] (gq [2,3,4,5])))<|jC<|jA 1 rfl<|jbk<|
  jlpK (fun s2 K=>∀ p6 c6 r_2,K [1,4,7,17,18,19] [(1, r_2)] [3,4,5] [(5, sv p6 s2.1 c6), (8, vi s2.2)] [Al e_Move 42 r_2 p6 c6 s2.1]) (gv (fun _ k=>k p5 c5 r_1) [0,1] (gq [2,3,4,5]))<|fun s2 _ k p6 c6 r_2=>k<|jsq<|jsr<|jpc 1 rfl<|jfa 0 rfl<|
  jfa 0 rfl<|jlo 0 rfl rfl rfl<|jpc 1 rfl<|jot<|jif rfl (jC<|jsq<|jbk<|jds [] [0] 11<|jdf 0 0 rfl rfl<|jda 1 0 2 rfl rfl rfl rfl<|jdc 8 [2] rfl<|jdf 3 5 rfl rfl<|jdo 4 0 rfl rfl rfl rfl<|jdc 5 [5] rfl<|jdi 6 3 rfl rfl rfl rfl<|fun x3 b4 o3=>
  jdf 7 2 rfl rfl<|jdl 8 false oI rfl (gf (gs (gs (gk 0)))) rfl<|jd1 9<|jca (.f rfl) [] [] c_net_Has rfl rfl rfl (cq [3])<|fun r4 _ k=>k<|jdn<|jdc 0 [10] rfl<|jde<|jtn<|jjnK (fun s3 K=>K [1,4,5,7,8,17,18,19] [] [1,2,3,4] [(9, vb s3)] []) (
  jA 1 rfl<|jbk<|jlpK (fun s4 K=>K [1,4,5,7,8,17,18,19] [] [1,2,3,4] [(9, vb s4.1), (10, vi s4.2)] []) (gv (fun _ k=>k) [0,1] (gq [1,2,3,4]))<|fun s4 _ k=>k<|jsq<|jsr<|jpc 1 rfl<|jfa 5 rfl<|jlo 0 rfl rfl rfl<|jpc 2 rfl<|jot<|jif rfl (jC<|
  jsq<|jbk<|jjcK (fun s5 K=>K [1,4,5,7,8,10,17,18,19] [] [0,1,2,3] [(9, vb s5)] []) (jrg<|jpc 2 rfl<|jsg 56 rfl (jfa 5 rfl<|jlo 0 rfl rfl rfl<|jpc 1 rfl<|jix 3 rfl rfl rfl<|fun x4 b5 o4=>jfa 1 rfl<|jld false oI (gf (gs (gk 0))) rfl<|
  jpc 2 rfl<|jsg 64 rfl (jfa 5 rfl<|jlo 0 rfl rfl rfl<|jpc 1 rfl<|jix 4 rfl rfl rfl<|fun x5 b6 o5=>jfa 3 rfl<|jld false oI (gs (gs (gs (gk 0)))) rfl<|jpc 2 rfl<|jpe (vb (x5.2.2.2 == x1))<|jpc 1 rfl<|jsg 74 rfl (jfa 5 rfl<|jlo 0 rfl rfl rfl<|
  jpc 1 rfl<|jix 5 rfl rfl rfl<|fun x6 b7 o6=>jfa 2 rfl<|jld false oI (gf (gs (gs (gk 0)))) rfl<|jpc 2 rfl<|jpe (vb (x6.2.2.1 == s2.2))<|jpc 1 rfl<|jpe (vb (!(x6.2.2.1 == s2.2)))<|jpc 1 rfl<|joe<|jnn (gv (fun _ k=>k) [0,1] (gq [3,4,5,6])))<|
  jpc 8 rfl<|jpe (vb false)<|jpc 1 rfl<|jpe (vb (!false))<|jpc 1 rfl<|joe<|jnn (gv (fun _ k=>k) [0,1] (gq [2,3,4,5])))<|jpc 8 rfl<|jpe (vb false)<|jpc 9 rfl<|jpe (vb false)<|jpc 1 rfl<|jpe (vb (!false))<|jpc 1 rfl<|joe<|
  jnn (gv (fun _ k=>k) [0,1] (gq [1,2,3,4])))<|jpc 28 rfl<|jpe (vb false)<|jpc 1 rfl<|joe<|jnn (gv (fun _ k=>k) [0,1] (gq [0,1,2,3])))<|fun s5 _ k=>k<|jbn<|jtn<|jB 3 rfl<|jln (gv (fun _ k=>k) [0,1] (gq [0,1,2,3])))<|jxe<|jte<|jle<|jbh<|
  jnn (gv (fun _ k=>k) [0,1] (gq [0,1,2,3])))<|fun s3 _ k=>k<|jjnK (fun s6 K=>K [1,4,5,7,8,17,18,19] [] [0,1,2,3] [(97, vb s6)] []) (jrg<|jpc 2 rfl<|jsg 87 rfl (jpc 3 rfl<|jsg 90 rfl (jpc 5 rfl<|jpe (vb true)<|jpe (vb true)<|joe<|
  jnn (gv (fun _ k=>k) [0,1] (gq [0,1,2,3])))<|jla 0 6 rfl rfl rfl<|jpc 2 rfl<|jcl c_ref27_repeated rfl (cq [2,3])<|fun r5 _ k=>k<|jpc 1 rfl<|jpe (vb (!r5))<|jpe (vb (!r5))<|joe<|jnn (gv (fun _ k=>k) [0,1] (gq [0,1,2,3])))<|jpc 9 rfl<|
  jpe (vb false)<|joe<|jnn (gv (fun _ k=>k) [0,1] (gq [0,1,2,3])))<|fun s6 _ k=>k<|jif rfl (jrg<|jpc 4 rfl<|jpe (.agg #[vi (w64 ((3 : Int) - r2)), vi 2, vi s2.2, vi x1])<|
  jbs .s (e := e_Move) 42 [vi (w64 ((3 : Int) - r2)), vi 2, vi s2.2, vi x1] ([(w64 ((3 : Int) - r2), 2, s2.2, x1)] : List T_Move) (rC (vP vI (vP vI (vP vI vI))) rN)<|fun p7 c7=>jar .s 1 1 rfl (gk 0) rfl rfl<|fun x7 r_3 p8 c8=>jpc 1 rfl<|joe<|jbn<|jtn<|
  jB 3 rfl<|jln (gv (fun _ k=>k p8 c8 r_3) [0,1] (gq [0,3,4,5])))<|jsk<|jbn<|jtn<|jB 3 rfl<|jln (gv (fun _ k=>k p6 c6 r_2) [0,1] (gq [0,1,2,3])))<|jxe<|jte<|jle<|jbh<|jbn<|jtn<|jB 2 rfl<|jln (gv (fun _ k=>k p6 c6 r_2) [0,1] (gq [0,1,2,3])))<|
  jxe<|jte<|jle<|jbh<|jtn<|jA 2 rfl<|jxr<|jsh 1 0 rfl rfl<|jr1 rfl rfl (fun _ k=>k p5 c5) [] (gq [0])

theorem c_ref27_End {qd : Prop} {y0 : T_Dialogue} : Con qd Tryz.prog 17 [.agg #[vi y0.1.1, sv p1 y0.1.2 c1, vi y0.2.1, vi y0.2.2.1.1, vi y0.2.2.1.2, sv p2 y0.2.2.2 c2]] [] [Rl e_Pair p1 c1 y0.1.2, Rl e_Move p2 c2 y0.2.2.2] (m_ref27_End y0) fun r K=>K (.agg #[vi r.1, vi r.2]) [] [] :=
 ent3 Tryz.call17 Tryz.func17 rfl fun X=>jsr<|jbx .s rfl<|fun b1=>jal .s (.agg #[vi 0, vi 0])<|fun b2=>jot<|jsr<|jfa 5 rfl<|jlo 0 rfl rfl rfl<|jfa 5 rfl<|jlo 0 rfl rfl rfl<|jpc 2 rfl<|jix 1 rfl rfl rfl<|fun x1 b3 o1=>jld true o_Move (gk 0) rfl<|
  jal .s (.agg #[vi 0, vi 0, vi 0, vi 0])<|fun b4=>jso .s 2 rfl rfl rfl<|jot<|jsq<|jsr<|jfa 1 rfl<|jlo 2 rfl rfl rfl<|jpc 1 rfl<|jot<|jif rfl (jsr<|jfa 0 rfl<|jlo 2 rfl rfl rfl<|jpc 1 rfl<|jpe (.agg #[vi (w64 ((3 : Int) - x1.1)), vi 3])<|
  jso .s 1 rfl rfl rfl<|jot<|jxr<|jtr<|jrg' rfl (lC 1 (.agg #[vi (w64 ((3 : Int) - x1.1)), vi 3]) rfl rfl lN) (fun _ k=>k) [] ⟨⟩)<|jC<|jsr<|jla 0 6 rfl rfl rfl<|jcl c_ref27_Status rfl (cq [1,2])<|fun r1 _ k p3 c3=>k<|jcl c_ref27_leader rfl (cq [0])<|
  fun r2 _ k=>k<|jpc 1 rfl<|jot<|jA 1 rfl<|jjnK (fun s1 K=>K [1,2,4] [(2, [])] [2,3] [(5, vi s1)] []) (jA 1 rfl<|jbk<|jlpK (fun s2 K=>K [1,2,4] [(2, [])] [2,3] [(5, vi s2.1), (6, vi s2.2)] []) (gv (fun _ k=>k) [0,1,902] (gq [2,3]))<|
  fun s2 _ k=>k<|jsq<|jsr<|jpc 1 rfl<|jfa 5 rfl<|jlo 0 rfl rfl rfl<|jpc 2 rfl<|jot<|jif rfl (jC<|jsq<|jbk<|jsr<|jfa 5 rfl<|jlo 0 rfl rfl rfl<|jpc 1 rfl<|jix 1 rfl rfl rfl<|fun x2 b5 o2=>jfa 0 rfl<|jld false oI (gf (gk 0)) rfl<|jpc 2 rfl<|
  jot<|jif rfl (jB 3 rfl<|jbn<|jtn<|jB 3 rfl<|jln (gv (fun _ k=>k) [0,1,902] (gq [1,2])))<|jsk<|jbn<|jtn<|jB 3 rfl<|jln (gv (fun _ k=>k) [0,1,902] (gq [1,2])))<|jxe<|jte<|jle<|jbh<|jnn (gv (fun _ k=>k) [0,1,902] (gq [0,1])))<|fun s1 _ k=>k<|
  jsq<|jbk<|jsr<|jfa 5 rfl<|jlo 0 rfl rfl rfl<|jpc 3 rfl<|jot<|jif rfl (jsr<|jpc 1 rfl<|jpe (.agg #[vi r2, vi 4])<|jso .s 1 rfl rfl rfl<|jot<|jxr<|jbr<|jtr<|jrg' rfl (lC 1 (.agg #[vi r2, vi 4]) rfl rfl lN) (fun _ k=>k) [] ⟨⟩)<|jsr<|
  jpc 3 rfl<|jfa 3 rfl<|jiB (l := ([y0.2.2.1.1, y0.2.2.1.2] : List Int)) rfl rfl<|fun x3 h1=>jlI 0 (.int .i64) rfl rfl rfl h1<|jpc 2 rfl<|jot<|jif rfl (jsr<|jpc 1 rfl<|jpe (.agg #[vi r2, vi 2])<|jso .s 1 rfl rfl rfl<|jot<|jxr<|jbr<|jtr<|
  jrg' rfl (lC 1 (.agg #[vi r2, vi 2]) rfl rfl lN) (fun _ k=>k) [] ⟨⟩)<|jsr<|jla 0 6 rfl rfl rfl<|jcl c_ref27_attacks rfl (cq [0,1])<|fun r3 _ k p4 c4=>k<|jpc 3 rfl<|jot<|jif rfl (jsr<|jpc 1 rfl<|jpe (.agg #[vi r2, vi 1])<|
  jso .s 1 rfl rfl rfl<|jot<|jxr<|jbr<|jtr<|jrg' rfl (lC 1 (.agg #[vi r2, vi 1]) rfl rfl lN) (fun _ k=>k) [] ⟨⟩)<|jsk<|jbn<|jtn<|jsr<|jpe (.agg #[vi 0, vi 0])<|jso .s 1 rfl rfl rfl<|jot<|jxr<|
  jrg' rfl (lC 1 (.agg #[vi 0, vi 0]) rfl rfl lN) (fun _ k=>k) [] ⟨⟩

theorem c_ref10_Validate {qd : Prop} {y0 : T_Graph} : Con qd Tryz.prog 21 [.agg #[vi y0.1, sv p1 y0.2 c1]] [] [Rl e_Pair p1 c1 y0.2] (m_ref10_Validate y0) fun r K=>K (vi r) [] [] :=
 ent3 Tryz.call21 Tryz.func21 rfl fun X=>jsr<|jbx .s rfl<|fun b1=>jpc 1 rfl<|jot<|jsq<|jjpK (fun K=>K [1] [] [0] [(12, vb ((decide (y0.1 < 0)) || (decide (40 < y0.1))))] []) (jrg<|jfa 0 rfl<|jlo 0 rfl rfl rfl<|jpc 2 rfl<|jsp (b := decide (y0.1 < 0)) 8 rfl (fun hb1=>jpc 3 rfl<|
  jpe (vb true)<|joe<|jup 12 (vb ((decide (y0.1 < 0)) || (decide (40 < y0.1)))) rfl (by rw [hb1]; rfl)<|jnn (gv (fun _ k=>k) [0] (gq [0])))<|fun hb1=>jfa 0 rfl<|jlo 0 rfl rfl rfl<|jpc 1 rfl<|jpe (vb (decide (40 < y0.1)))<|joe<|
  jup 12 (vb ((decide (y0.1 < 0)) || (decide (40 < y0.1)))) rfl (by rw [hb1]; rfl)<|jnn (gv (fun _ k=>k) [0] (gq [0])))<|fun _ k=>k<|jif rfl (jA 1 rfl<|jxr<|jtr<|jr1 rfl rfl (fun _ k=>k) [] ⟨⟩)<|jC<|jsq<|jA 1 rfl<|jbk<|
  jlpK (fun s1 K=>K [1] [] [0] [(3, vi s1)] []) (gv (fun _ k=>k) [0] (gq [0]))<|fun s1 _ k=>k<|jsq<|jsr<|jpc 1 rfl<|jfa 1 rfl<|jlo 0 rfl rfl rfl<|jpc 2 rfl<|jot<|jif rfl (jC<|jsq<|jbk<|jsr<|jfa 1 rfl<|jlo 0 rfl rfl rfl<|jpc 1 rfl<|
  jix 0 rfl rfl rfl<|fun x1 b2 o1=>jld true o_Pair (gk 0) rfl<|jal .s (.agg #[vi 0, vi 0])<|fun b3=>jso .s 1 rfl rfl rfl<|jot<|jsq<|
  jjpK (fun K=>K [1,3,4] [] [1] [(46, vb ((decide (x1.1 < 0)) || ((decide (y0.1 ≤ x1.1)) || ((decide (x1.2 < 0)) || (decide (y0.1 ≤ x1.2))))))] []) (jrg<|jfa 0 rfl<|jlo 1 rfl rfl rfl<|jpc 2 rfl<|jsp (b := decide (x1.1 < 0)) 28 rfl (fun hb2=>
  jpc 5 rfl<|jpe (vb true)<|jpc 4 rfl<|jpe (vb true)<|jpc 6 rfl<|jpe (vb true)<|joe<|jup 46 (vb ((decide (x1.1 < 0)) || ((decide (y0.1 ≤ x1.1)) || ((decide (x1.2 < 0)) || (decide (y0.1 ≤ x1.2)))))) rfl (by rw [hb2]; rfl)<|
  jnn (gv (fun _ k=>k) [0,1] (gq [1])))<|fun hb2=>jfa 0 rfl<|jlo 1 rfl rfl rfl<|jfa 0 rfl<|jlo 0 rfl rfl rfl<|jpc 1 rfl<|jpe (vb (decide (y0.1 ≤ x1.1)))<|jpc 1 rfl<|jsp (b := decide (y0.1 ≤ x1.1)) 35 rfl (fun hb3=>jpc 3 rfl<|jpe (vb true)<|
  jpc 6 rfl<|jpe (vb true)<|joe<|jup 46 (vb ((decide (x1.1 < 0)) || ((decide (y0.1 ≤ x1.1)) || ((decide (x1.2 < 0)) || (decide (y0.1 ≤ x1.2)))))) rfl (by rw [hb2,hb3]; rfl)<|jnn (gv (fun _ k=>k) [0,1] (gq [1])))<|fun hb3=>jfa 1 rfl<|
  jlo 1 rfl rfl rfl<|jpc 1 rfl<|jpe (vb (decide (x1.2 < 0)))<|jpc 1 rfl<|jsp (b := decide (x1.2 < 0)) 40 rfl (fun hb4=>jpc 5 rfl<|jpe (vb true)<|joe<|
  jup 46 (vb ((decide (x1.1 < 0)) || ((decide (y0.1 ≤ x1.1)) || ((decide (x1.2 < 0)) || (decide (y0.1 ≤ x1.2)))))) rfl (by rw [hb2,hb3,hb4]; rfl)<|jnn (gv (fun _ k=>k) [0,1] (gq [1])))<|fun hb4=>jfa 1 rfl<|jlo 1 rfl rfl rfl<|jfa 0 rfl<|
  jlo 0 rfl rfl rfl<|jpc 1 rfl<|jpe (vb (decide (y0.1 ≤ x1.2)))<|joe<|jup 46 (vb ((decide (x1.1 < 0)) || ((decide (y0.1 ≤ x1.1)) || ((decide (x1.2 < 0)) || (decide (y0.1 ≤ x1.2)))))) rfl (by rw [hb2,hb3,hb4]; rfl)<|
  jnn (gv (fun _ k=>k) [0,1] (gq [1])))<|fun _ k=>k<|jif rfl (jA 1 rfl<|jxr<|jtr<|jbr<|jtr<|jlr<|jbr<|jtr<|jr1 rfl rfl (fun _ k=>k) [] ⟨⟩)<|jC<|jjnK (fun s2 K=>K [1,3] [(1, [])] [0] [(84, vb s2)] []) (jdS [] [0, 1] 38<|jdc 35 [0,1,2] rfl<|
  jsg 49 rfl (jdf 3 1 rfl rfl<|jdo 4 0 rfl rfl rfl rfl<|jdc 31 [5,6] rfl<|jdi 7 0 rfl rfl rfl rfl<|fun x2 b4 o2=>jdf 8 0 rfl rfl<|jdl 9 false oI rfl (gf (gk 0)) rfl<|jdf 10 0 rfl rfl<|jdo 11 1 rfl rfl rfl rfl<|jdc 24 [12,13] rfl<|jsg 60 rfl (
  jdc 2 [14,15,16,17,18,19,20,21,22,23,24,25,26,27,28,29,30,31,32,33,34,35] rfl<|jdp 36 (vb true) rfl<|jdp 37 (vb true) rfl<|jde<|jnn (gv (fun _ k=>k) [0,901] (gq [1])))<|jdf 14 1 rfl rfl<|jdo 15 0 rfl rfl rfl rfl<|jdc 20 [16,17] rfl<|
  jdi 18 1 rfl rfl rfl rfl<|fun x3 b5 o3=>jdf 19 0 rfl rfl<|jdl 20 false oI rfl (gf (gk 0)) rfl<|jdf 21 0 rfl rfl<|jdo 22 1 rfl rfl rfl rfl<|jdc 13 [23,24] rfl<|jsg 71 rfl (jdf 25 1 rfl rfl<|jdo 26 0 rfl rfl rfl rfl<|jdc 9 [27,28] rfl<|
  jdi 29 2 rfl rfl rfl rfl<|fun x4 b6 o4=>jdf 30 1 rfl rfl<|jdl 31 false oI rfl (gs (gk 0)) rfl<|jdf 32 1 rfl rfl<|jdo 33 1 rfl rfl rfl rfl<|jdc 3 [34] rfl<|jdp 35 (vb (decide (x1.2 ≤ x4.2))) rfl<|jdp 36 (vb (decide (x1.2 ≤ x4.2))) rfl<|
  jdp 37 (vb (decide (x1.2 ≤ x4.2))) rfl<|jde<|jnn (gv (fun _ k=>k) [0,901] (gq [3])))<|jdc 3 [25,26,27,28,29,30,31,32,33,34] rfl<|jdp 35 (vb false) rfl<|jdp 36 (vb false) rfl<|jdp 37 (vb false) rfl<|jde<|
  jnn (gv (fun _ k=>k) [0,901] (gq [2])))<|jdc 1 [3,4,5,6,7,8,9,10,11,12,13,14,15,16,17,18,19,20,21,22,23,24,25,26,27,28,29,30,31,32,33,34,35,36] rfl<|jdp 37 (vb false) rfl<|jde<|jnn (gv (fun _ k=>k) [0,901] (gq [0])))<|fun s2 _ k=>k<|
  jif rfl (jA 1 rfl<|jxr<|jbr<|jtr<|jlr<|jbr<|jtr<|jr1 rfl rfl (fun _ k=>k) [] ⟨⟩)<|jsk<|jbn<|jtn<|jB 3 rfl<|jln (gv (fun _ k=>k) [0] (gq [0])))<|jxe<|jte<|jle<|jbh<|jtn<|jA 1 rfl<|jxr<|jr1 rfl rfl (fun _ k=>k) [] ⟨⟩

theorem c_ref27_New {qd : Prop} {y0 : T_Graph} {y1 : Int} {y2 : Int × Int} : Con qd Tryz.prog 6 [.agg #[vi y0.1, sv p1 y0.2 c1], vi y1, .agg #[vi y2.1, vi y2.2]] [] [Rl e_Pair p1 c1 y0.2] (m_ref27_New y0 y1 y2) fun r K=>∀ p2 c2 p3 c3,K (.tuple #[.agg #[vi r.1.1.1, sv p2 r.1.1.2 c2, vi r.1.2.1, vi r.1.2.2.1.1, vi r.1.2.2.1.2, sv p3 r.1.2.2.2 c3], vi r.2]) [] [Rl e_Pair p2 c2 r.1.1.2, Rl e_Move p3 c3 r.1.2.2.2] :=
 ent3 Tryz.call6 Tryz.func6 rfl fun X=>jsr<|jbx .s rfl<|fun b1=>jbx .s rfl<|fun b2=>jal .s (.agg #[vi 0, .slice none 0 0, vi 0, vi 0, vi 0, .slice none 0 0])<|fun b3=>jpc 1 rfl<|jot<|jsq<|jsr<|jla 0 2 rfl rfl rfl<|jcl c_ref10_Validate rfl (cq [0])<|fun r1 _ k=>k<|jpc 1 rfl<|
  jot<|jA 2 rfl<|jif rfl (jsr<|jpe (.agg #[vi 0, .slice none 0 0, vi 0, vi 0, vi 0, .slice none 0 0])<|jpc 1 rfl<|jso .s 2 rfl rfl rfl<|jpc 1 rfl<|jot<|jxr<|jtr<|
  jrg' rfl (lC 2 (.agg #[vi 0, .slice none 0 0, vi 0, vi 0, vi 0, .slice none 0 0]) rfl rfl (lT rfl lN)) (fun _ k=>k none 0 none 0) [] ⟨gn,gn,⟨⟩⟩)<|jC<|jsq<|
  jjpK (fun K=>K [1,3,5,6] [] [0] [(42, vb ((decide (y1 < 0)) || ((decide (y0.1 ≤ y1)) || ((decide (y2.1 < 1)) || ((decide (200 < y2.1)) || ((decide (y2.2 < 0)) || (decide (200 < y2.2))))))))] []) (jrg<|jpc 3 rfl<|
  jsp (b := decide (y1 < 0)) 17 rfl (fun hb1=>jpc 4 rfl<|jpe (vb true)<|jpc 4 rfl<|jpe (vb true)<|jpc 4 rfl<|jpe (vb true)<|jpc 4 rfl<|jpe (vb true)<|jpc 4 rfl<|jpe (vb true)<|joe<|
  jup 42 (vb ((decide (y1 < 0)) || ((decide (y0.1 ≤ y1)) || ((decide (y2.1 < 1)) || ((decide (200 < y2.1)) || ((decide (y2.2 < 0)) || (decide (200 < y2.2)))))))) rfl (by rw [hb1]; rfl)<|jnn (gv (fun _ k=>k) [0,1,2] (gq [0])))<|fun hb1=>
  jpc 1 rfl<|jfa 0 rfl<|jlo 0 rfl rfl rfl<|jpc 1 rfl<|jpe (vb (decide (y0.1 ≤ y1)))<|jpc 1 rfl<|jsp (b := decide (y0.1 ≤ y1)) 23 rfl (fun hb2=>jpc 3 rfl<|jpe (vb true)<|jpc 4 rfl<|jpe (vb true)<|jpc 4 rfl<|jpe (vb true)<|jpc 4 rfl<|
  jpe (vb true)<|joe<|jup 42 (vb ((decide (y1 < 0)) || ((decide (y0.1 ≤ y1)) || ((decide (y2.1 < 1)) || ((decide (200 < y2.1)) || ((decide (y2.2 < 0)) || (decide (200 < y2.2)))))))) rfl (by rw [hb1,hb2]; rfl)<|
  jnn (gv (fun _ k=>k) [0,1,2] (gq [0])))<|fun hb2=>jv (v := pt b2 0) (fun h=>r_iaddr (k := 2) (sz := 1) h rfl rfl (by kernel_rfl) (by decide) rfl)<|jlo 1 rfl rfl rfl<|jpc 1 rfl<|jpe (vb (decide (y2.1 < 1)))<|jpc 1 rfl<|
  jsp (b := decide (y2.1 < 1)) 28 rfl (fun hb3=>jpc 3 rfl<|jpe (vb true)<|jpc 4 rfl<|jpe (vb true)<|jpc 4 rfl<|jpe (vb true)<|joe<|
  jup 42 (vb ((decide (y1 < 0)) || ((decide (y0.1 ≤ y1)) || ((decide (y2.1 < 1)) || ((decide (200 < y2.1)) || ((decide (y2.2 < 0)) || (decide (200 < y2.2)))))))) rfl (by rw [hb1,hb2,hb3]; rfl)<|jnn (gv (fun _ k=>k) [0,1,2] (gq [0]))
  )<|fun hb3=>jv (v := pt b2 0) (fun h=>r_iaddr (k := 2) (sz := 1) h rfl rfl (by kernel_rfl) (by decide) rfl)<|jlo 1 rfl rfl rfl<|jpc 1 rfl<|jpe (vb (decide (200 < y2.1)))<|jpc 1 rfl<|jsp (b := decide (200 < y2.1)) 33 rfl (fun hb4=>
  jpc 3 rfl<|jpe (vb true)<|jpc 4 rfl<|jpe (vb true)<|joe<|
  jup 42 (vb ((decide (y1 < 0)) || ((decide (y0.1 ≤ y1)) || ((decide (y2.1 < 1)) || ((decide (200 < y2.1)) || ((decide (y2.2 < 0)) || (decide (200 < y2.2)))))))) rfl (by rw [hb1,hb2,hb3,hb4]; rfl)<|jnn (gv (fun _ k=>k) [0,1,2] (gq [0]))
  )<|fun hb4=>jv (v := pt b2 1) (fun h=>r_iaddr (k := 2) (sz := 1) h rfl rfl (by kernel_rfl) (by decide) rfl)<|jlo 1 rfl rfl rfl<|jpc 1 rfl<|jpe (vb (decide (y2.2 < 0)))<|jpc 1 rfl<|jsp (b := decide (y2.2 < 0)) 38 rfl (fun hb5=>jpc 3 rfl<|
  jpe (vb true)<|joe<|jup 42 (vb ((decide (y1 < 0)) || ((decide (y0.1 ≤ y1)) || ((decide (y2.1 < 1)) || ((decide (200 < y2.1)) || ((decide (y2.2 < 0)) || (decide (200 < y2.2)))))))) rfl (by rw [hb1,hb2,hb3,hb4,hb5]; rfl)<|
  jnn (gv (fun _ k=>k) [0,1,2] (gq [0])))<|fun hb5=>jv (v := pt b2 1) (fun h=>r_iaddr (k := 2) (sz := 1) h rfl rfl (by kernel_rfl) (by decide) rfl)<|jlo 1 rfl rfl rfl<|jpc 1 rfl<|jpe (vb (decide (200 < y2.2)))<|joe<|
  jup 42 (vb ((decide (y1 < 0)) || ((decide (y0.1 ≤ y1)) || ((decide (y2.1 < 1)) || ((decide (200 < y2.1)) || ((decide (y2.2 < 0)) || (decide (200 < y2.2)))))))) rfl (by rw [hb1,hb2,hb3,hb4,hb5]; rfl)<|jnn (gv (fun _ k=>k) [0,1,2] (gq [0]))
  )<|fun _ k=>k<|jif rfl (jsr<|jpe (.agg #[vi 0, .slice none 0 0, vi 0, vi 0, vi 0, .slice none 0 0])<|jso .s 2 rfl rfl rfl<|jpc 1 rfl<|jot<|jxr<|jtr<|
  jrg' rfl (lC 2 (.agg #[vi 0, .slice none 0 0, vi 0, vi 0, vi 0, .slice none 0 0]) rfl rfl (lT rfl lN)) (fun _ k=>k none 0 none 0) [] ⟨gn,gn,⟨⟩⟩)<|jC<|jsr<|jla 0 2 rfl rfl rfl<|jpc 1 rfl<|jla 1 2 rfl rfl rfl<|jpc 1 rfl<|
  jpe (.agg #[vi 1, vi 1, vi y1, vi 0])<|jbs .s (e := e_Move) 42 [vi 1, vi 1, vi y1, vi 0] ([(1, 1, y1, 0)] : List T_Move) (rC (vP vI (vP vI (vP vI vI))) rN)<|fun p2 c2=>
  jpe (.agg #[vi y0.1, sv p1 y0.2 c1, vi y1, vi y2.1, vi y2.2, sv p2 ([(1, 1, y1, 0)] : List T_Move) c2])<|jso .s 2 rfl rfl rfl<|jpc 1 rfl<|jot<|jxr<|
  jrg' rfl (lC 2 (.agg #[vi y0.1, sv p1 y0.2 c1, vi y1, vi y2.1, vi y2.2, sv p2 ([(1, 1, y1, 0)] : List T_Move) c2]) rfl rfl (lT rfl lN)) (fun _ k=>k p1 c1 p2 c2) [] (gq [1,0])

theorem c_ref28_Full {qd : Prop} {y0 : T_Graph} {y1 : Int} : Con qd Tryz.prog 9 [.agg #[vi y0.1, sv p1 y0.2 c1], vi y1] [] [Rl e_Pair p1 c1 y0.2] (m_ref28_Full y0 y1) fun r K=>∀ p2 c2 p3 c3 p4 c4,K (.agg #[sv p2 r.1 c2, sv p3 r.2.1 c3, sv p4 r.2.2.1 c4, vi r.2.2.2]) [] [Rl (eInt .i64) p2 c2 r.1, Rl (eInt .i64) p3 c3 r.2.1, Rl e_Move p4 c4 r.2.2.1] :=
 ent3 Tryz.call9 Tryz.func9 rfl fun X=>jsr<|jbx .s rfl<|fun b1=>jal .s (.agg #[.slice none 0 0, .slice none 0 0, .slice none 0 0, vi 0])<|fun b2=>jot<|jsq<|jsr<|jla 0 2 rfl rfl rfl<|jcl c_ref10_Validate rfl (cq [0])<|fun r1 _ k=>k<|jpc 1 rfl<|jot<|jif rfl (jsr<|
  jpe (.agg #[.slice none 0 0, .slice none 0 0, .slice none 0 0, vi 0])<|jso .s 1 rfl rfl rfl<|jot<|jxr<|jtr<|
  jrg' rfl (lC 1 (.agg #[.slice none 0 0, .slice none 0 0, .slice none 0 0, vi 0]) rfl rfl lN) (fun _ k=>k none 0 none 0 none 0) [] ⟨gn,gn,gn,⟨⟩⟩)<|jC<|jsr<|jpc 1 rfl<|jpe (.agg #[.slice none 0 0, .slice none 0 0, .slice none 0 0, vi y1])<|
  jro (eInt .i64) 3<|jal .s (.agg #[.slice none 0 0, .slice none 0 0, .slice none 0 0, vi 0])<|fun b3=>jso .s 3 rfl rfl rfl<|jot<|
  jjnK (fun s1 K=>∀ p2 c2 r_1,K [4,5] [(0, []), (2, r_1), (3, bx b3 39 [sv p2 s1 c2, .slice none 0 0, .slice none 0 0, vi y1])] [] [] [Al (eInt .i64) 3 r_1 p2 c2 s1]) (jA 1 rfl<|jbk<|
  jlpK (fun s2 K=>∀ p3 c3 r_2,K [2,4,5] [(2, r_2), (3, bx b3 39 [sv p3 s2.2 c3, .slice none 0 0, .slice none 0 0, vi y1])] [1] [(6, vi s2.1)] [Al (eInt .i64) 3 r_2 p3 c3 s2.2]) (gv (fun _ k=>k none 0 []) [0,1,2,3] (gq [0,1]))<|
  fun s2 _ k p3 c3 r_2=>k<|jsq<|jsr<|jpc 1 rfl<|jfa 0 rfl<|jlo 0 rfl rfl rfl<|jpc 1 rfl<|jot<|jif rfl (jC<|jsq<|jbk<|jrg<|jfa 0 rfl<|jlo 3 rfl rfl rfl<|jpc 1 rfl<|jbs .s (e := eInt .i64) 3 [vi s2.1] ([s2.1] : List Int) (rC vI rN)<|fun p4 c4=>
  jar .s 2 1 rfl (gk 0) rfl rfl<|fun x1 r_3 p5 c5=>jfa 0 rfl<|jso .s 3 rfl rfl rfl<|joe<|jbn<|jtn<|jB 3 rfl<|jln (gv (fun _ k=>k p5 c5 r_3) [0,1,2,3] (gq [0,3])))<|jxe<|jte<|jle<|jbh<|jnn (gv (fun _ k=>k p3 c3 r_2) [900,1,2,3] (gq [0])))<|
  fun s1 _ k p2 c2 r_1=>k<|jsr<|jla 3 4 rfl rfl rfl<|jso .s 1 rfl rfl rfl<|jot<|jxr<|jsh 2 0 rfl rfl<|
  jrg' rfl (lC 1 (.agg #[sv p2 s1 c2, .slice none 0 0, .slice none 0 0, vi y1]) rfl rfl lN) (fun _ k=>k p2 c2 none 0 none 0) [] ⟨gk 0,gn,gn,⟨⟩⟩

theorem c_ref27_Turn {qd : Prop} {y0 : T_Dialogue} : Con qd Tryz.prog 25 [.agg #[vi y0.1.1, sv p1 y0.1.2 c1, vi y0.2.1, vi y0.2.2.1.1, vi y0.2.2.1.2, sv p2 y0.2.2.2 c2]] [] [Rl e_Pair p1 c1 y0.1.2, Rl e_Move p2 c2 y0.2.2.2] (m_ref27_Turn y0) fun r K=>K (vi r) [] [] :=
 ent3 Tryz.call25 Tryz.func25 rfl fun X=>jsr<|jbx .s rfl<|fun b1=>jpc 1 rfl<|jot<|jsq<|jsr<|jla 0 6 rfl rfl rfl<|jcl c_ref27_End rfl (cq [0,1])<|fun r1 _ k=>k<|jpe (.agg #[vi 0, vi 0])<|jpe (vb (!(r1 == (0, 0))))<|jot<|jif rfl (jA 1 rfl<|jxr<|jtr<|jr1 rfl rfl (fun _ k=>k) [] ⟨⟩)<|
  jC<|jsr<|jla 0 6 rfl rfl rfl<|jcl c_ref27_Status rfl (cq [0,1])<|fun r2 _ k p3 c3=>k<|jcl c_ref27_leader rfl (cq [0])<|fun r3 _ k=>k<|jpc 2 rfl<|jot<|jxr<|jr1 rfl rfl (fun _ k=>k) [] ⟨⟩

theorem c_ref27_Apply {qd : Prop} {y0 : T_Dialogue} {y1 : T_Move} : Con qd Tryz.prog 27 [.agg #[vi y0.1.1, sv p1 y0.1.2 c1, vi y0.2.1, vi y0.2.2.1.1, vi y0.2.2.1.2, sv p2 y0.2.2.2 c2], .agg #[vi y1.1, vi y1.2.1, vi y1.2.2.1, vi y1.2.2.2]] [] [Rl e_Pair p1 c1 y0.1.2, Rl e_Move p2 c2 y0.2.2.2] (m_ref27_Apply y0 y1) fun r K=>∀ p3 c3 p4 c4,K (.tuple #[.agg #[vi r.1.1.1, sv p3 r.1.1.2 c3, vi r.1.2.1, vi r.1.2.2.1.1, vi r.1.2.2.1.2, sv p4 r.1.2.2.2 c4], vi r.2]) [] [Rl e_Pair p3 c3 r.1.1.2, Rl e_Move p4 c4 r.1.2.2.2] :=
 ent3 Tryz.call27 Tryz.func27 rfl fun X=>jsr<|jbx .s rfl<|fun b1=>jbx .s rfl<|fun b2=>jal .s (.agg #[vi 0, .slice none 0 0, vi 0, vi 0, vi 0, .slice none 0 0])<|fun b3=>jpc 1 rfl<|jot<|jsq<|jsr<|jla 0 6 rfl rfl rfl<|jcl c_ref27_Turn rfl (cq [0,1])<|fun r1 _ k=>k<|jpc 1 rfl<|jot<|
  jif rfl (jsr<|jpe (.agg #[vi 0, .slice none 0 0, vi 0, vi 0, vi 0, .slice none 0 0])<|jso .s 2 rfl rfl rfl<|jpc 1 rfl<|jot<|jxr<|jtr<|
  jrg' rfl (lC 2 (.agg #[vi 0, .slice none 0 0, vi 0, vi 0, vi 0, .slice none 0 0]) rfl rfl (lT rfl lN)) (fun _ k=>k none 0 none 0) [] ⟨gn,gn,⟨⟩⟩)<|jC<|jsq<|
  jjpK (fun K=>K [2,3,4] [] [0,1] [(27, vb ((y1.2.1 != 2) && ((y1.2.1 != 3) && (y1.2.1 != 4))))] []) (jrg<|jfa 1 rfl<|jlo 1 rfl rfl rfl<|jpc 2 rfl<|jsp (b := y1.2.1 != 2) 18 rfl (fun hb1=>jfa 1 rfl<|jlo 1 rfl rfl rfl<|jpc 1 rfl<|
  jpe (vb (y1.2.1 != 3))<|jpc 1 rfl<|jsp (b := y1.2.1 != 3) 23 rfl (fun hb2=>jfa 1 rfl<|jlo 1 rfl rfl rfl<|jpc 1 rfl<|jpe (vb (y1.2.1 != 4))<|joe<|jup 27 (vb ((y1.2.1 != 2) && ((y1.2.1 != 3) && (y1.2.1 != 4)))) rfl (by rw [hb1,hb2]; rfl)<|
  jnn (gv (fun _ k=>k) [0,1,2] (gq [0,1])))<|fun hb2=>jpc 3 rfl<|jpe (vb false)<|joe<|jup 27 (vb ((y1.2.1 != 2) && ((y1.2.1 != 3) && (y1.2.1 != 4)))) rfl (by rw [hb1,hb2]; rfl)<|jnn (gv (fun _ k=>k) [0,1,2] (gq [0,1])))<|fun hb1=>jpc 3 rfl<|
  jpe (vb false)<|jpc 4 rfl<|jpe (vb false)<|joe<|jup 27 (vb ((y1.2.1 != 2) && ((y1.2.1 != 3) && (y1.2.1 != 4)))) rfl (by rw [hb1]; rfl)<|jnn (gv (fun _ k=>k) [0,1,2] (gq [0,1])))<|fun _ k=>k<|jif rfl (jsr<|
  jpe (.agg #[vi 0, .slice none 0 0, vi 0, vi 0, vi 0, .slice none 0 0])<|jso .s 2 rfl rfl rfl<|jpc 1 rfl<|jot<|jxr<|jtr<|
  jrg' rfl (lC 2 (.agg #[vi 0, .slice none 0 0, vi 0, vi 0, vi 0, .slice none 0 0]) rfl rfl (lT rfl lN)) (fun _ k=>k none 0 none 0) [] ⟨gn,gn,⟨⟩⟩)<|jC<|jsq<|jds [] [0, 1] 5<|jdf 0 0 rfl rfl<|jdo 1 1 rfl rfl rfl rfl<|
  jda 2 0 6 rfl rfl rfl rfl<|jd1 3<|jca (.f rfl) [] [] c_ref27_Turn rfl rfl rfl (cq [0,1])<|fun r2 _ k=>k<|jdn<|jdc 0 [4] rfl<|jde<|jtn<|jif rfl (jsr<|jpe (.agg #[vi 0, .slice none 0 0, vi 0, vi 0, vi 0, .slice none 0 0])<|
  jso .s 2 rfl rfl rfl<|jpc 1 rfl<|jot<|jxr<|jtr<|jrg' rfl (lC 2 (.agg #[vi 0, .slice none 0 0, vi 0, vi 0, vi 0, .slice none 0 0]) rfl rfl (lT rfl lN)) (fun _ k=>k none 0 none 0) [] ⟨gn,gn,⟨⟩⟩)<|jC<|
  jjpK (fun K=>K [2,3,4] [] [0,1] [(6, vb ((decide (0 ≤ y1.2.2.2)) && (decide (y1.2.2.2 < (len y0.2.2.2)))))] []) (jrg<|jfa 3 rfl<|jlo 1 rfl rfl rfl<|jpc 2 rfl<|jsp (b := decide (0 ≤ y1.2.2.2)) 38 rfl (fun hb3=>jfa 3 rfl<|jlo 1 rfl rfl rfl<|
  jfa 5 rfl<|jlo 0 rfl rfl rfl<|jpc 2 rfl<|jpe (vb (decide (y1.2.2.2 < (len y0.2.2.2))))<|jpc 1 rfl<|joe<|jup 6 (vb ((decide (0 ≤ y1.2.2.2)) && (decide (y1.2.2.2 < (len y0.2.2.2))))) rfl (by rw [hb3]; rfl)<|
  jnn (gv (fun _ k=>k) [0,1,2] (gq [0,1])))<|fun hb3=>jpc 6 rfl<|jpe (vb false)<|jpc 1 rfl<|joe<|jup 6 (vb ((decide (0 ≤ y1.2.2.2)) && (decide (y1.2.2.2 < (len y0.2.2.2))))) rfl (by rw [hb3]; rfl)<|jnn (gv (fun _ k=>k) [0,1,2] (gq [0,1])))<|
  fun _ k=>k<|jjoK (fun s1 K=>K [2,3,4] [(1, bx b2 42 [vi y1.1, vi y1.2.1, vi s1.1, vi s1.2])] [0,1] [] []) (jsr<|jfa 1 rfl<|jlo 1 rfl rfl rfl<|jot<|jbk<|jA 2 rfl<|jif rfl (jsq<|
  jjpK (fun K=>K [2,3,4] [] [0,1] [(66, vb ((!((decide (0 ≤ y1.2.2.2)) && (decide (y1.2.2.2 < (len y0.2.2.2))))) || ((decide (y1.2.2.1 < 0)) || (decide (y0.1.1 ≤ y1.2.2.1)))))] []) (jrg<|jpc 3 rfl<|
  jsp (b := !((decide (0 ≤ y1.2.2.2)) && (decide (y1.2.2.2 < (len y0.2.2.2))))) 54 rfl (fun hb4=>jpc 3 rfl<|jpe (vb true)<|jpc 7 rfl<|jpe (vb true)<|joe<|
  jup 66 (vb ((!((decide (0 ≤ y1.2.2.2)) && (decide (y1.2.2.2 < (len y0.2.2.2))))) || ((decide (y1.2.2.1 < 0)) || (decide (y0.1.1 ≤ y1.2.2.1))))) rfl (by rw [hb4]; rfl)<|jnn (gv (fun _ k=>k) [0,1,2] (gq [0,1])))<|fun hb4=>jfa 2 rfl<|
  jlo 1 rfl rfl rfl<|jpc 1 rfl<|jpe (vb (decide (y1.2.2.1 < 0)))<|jpc 1 rfl<|jsp (b := decide (y1.2.2.1 < 0)) 59 rfl (fun hb5=>jpc 6 rfl<|jpe (vb true)<|joe<|
  jup 66 (vb ((!((decide (0 ≤ y1.2.2.2)) && (decide (y1.2.2.2 < (len y0.2.2.2))))) || ((decide (y1.2.2.1 < 0)) || (decide (y0.1.1 ≤ y1.2.2.1))))) rfl (by rw [hb4,hb5]; rfl)<|jnn (gv (fun _ k=>k) [0,1,2] (gq [0,1])))<|fun hb5=>jfa 2 rfl<|
  jlo 1 rfl rfl rfl<|jfa 0 rfl<|jfa 0 rfl<|jlo 0 rfl rfl rfl<|jpc 1 rfl<|jpe (vb (decide (y0.1.1 ≤ y1.2.2.1)))<|joe<|
  jup 66 (vb ((!((decide (0 ≤ y1.2.2.2)) && (decide (y1.2.2.2 < (len y0.2.2.2))))) || ((decide (y1.2.2.1 < 0)) || (decide (y0.1.1 ≤ y1.2.2.1))))) rfl (by rw [hb4,hb5]; rfl)<|jnn (gv (fun _ k=>k) [0,1,2] (gq [0,1])))<|fun _ k=>k<|jif rfl (
  jsr<|jpe (.agg #[vi 0, .slice none 0 0, vi 0, vi 0, vi 0, .slice none 0 0])<|jso .s 2 rfl rfl rfl<|jpc 1 rfl<|jot<|jxr<|jtr<|jbr<|jlr<|
  jrg' rfl (lC 2 (.agg #[vi 0, .slice none 0 0, vi 0, vi 0, vi 0, .slice none 0 0]) rfl rfl (lT rfl lN)) (fun _ k=>k none 0 none 0) [] ⟨gn,gn,⟨⟩⟩)<|jC<|jA 1 rfl<|jjnK (fun s2 K=>K [2,3,4] [] [0,1] [(7, vb s2)] []) (jsr<|jla 0 6 rfl rfl rfl<|
  jcl c_ref27_attacks rfl (cq [0,1])<|fun r3 _ k p3 c3=>k<|jpc 2 rfl<|jot<|jbk<|jlpK (fun s3 K=>K [2,3,4,69,70] [] [0,1,2] [(7, vb s3.1), (71, vi s3.2)] []) (gv (fun _ k=>k) [0,1,2] (gq [0,1,2]))<|fun s3 _ k=>k<|jA 1 rfl<|jsq<|jif rfl (jC<|
  jsq<|jbk<|jsr<|jix 0 rfl rfl rfl<|fun x1 b4 o1=>jld true o_Move (gk 0) rfl<|jal .s (.agg #[vi 0, vi 0, vi 0, vi 0])<|fun b5=>jso .s 3 rfl rfl rfl<|jot<|jjqK (fun K=>K [2,3,4,69,70,71] [(3, [])] [1,2,3] [(7, vb (s3.1 || (x1 == y1)))] []) (
  jrg<|jpc 2 rfl<|jsp (b := s3.1) 76 rfl (fun hb6=>jpc 3 rfl<|jpe (vb true)<|jpc 1 rfl<|joe<|jup 7 (vb (s3.1 || (x1 == y1))) rfl (by rw [hb6]; rfl)<|jnn (gv (fun _ k=>k) [0,1,2,903] (gq [1,2,3])))<|fun hb6=>jla 3 4 rfl rfl rfl<|
  jla 1 4 rfl rfl rfl<|jpe (vb (x1 == y1))<|jpe (vb (x1 == y1))<|jpc 1 rfl<|joe<|jup 7 (vb (s3.1 || (x1 == y1))) rfl (by rw [hb6]; rfl)<|jnn (gv (fun _ k=>k) [0,1,2,903] (gq [1,2,3])))<|fun _ k=>k<|jbn<|jtn<|jB 2 rfl<|
  jln (gv (fun _ k=>k) [0,1,2] (gq [0,1,2])))<|jxe<|jte<|jle<|jbh<|jnn (gv (fun _ k=>k) [0,1,2] (gq [1,2])))<|fun s2 _ k=>k<|jA 2 rfl<|jif rfl (jsr<|jpe (.agg #[vi 0, .slice none 0 0, vi 0, vi 0, vi 0, .slice none 0 0])<|
  jso .s 2 rfl rfl rfl<|jpc 1 rfl<|jot<|jxr<|jbr<|jlr<|jrg' rfl (lC 2 (.agg #[vi 0, .slice none 0 0, vi 0, vi 0, vi 0, .slice none 0 0]) rfl rfl (lT rfl lN)) (fun _ k=>k none 0 none 0) [] ⟨gn,gn,⟨⟩⟩)<|jsk<|jbn<|
  jln (gv (fun _ k=>k) [0,1,2] (gq [0,1])))<|jA 2 rfl<|jif rfl (jsq<|jA 2 rfl<|jif rfl (jsr<|jpe (.agg #[vi 0, .slice none 0 0, vi 0, vi 0, vi 0, .slice none 0 0])<|jso .s 2 rfl rfl rfl<|jpc 1 rfl<|jot<|jxr<|jtr<|jbr<|jlr<|
  jrg' rfl (lC 2 (.agg #[vi 0, .slice none 0 0, vi 0, vi 0, vi 0, .slice none 0 0]) rfl rfl (lT rfl lN)) (fun _ k=>k none 0 none 0) [] ⟨gn,gn,⟨⟩⟩)<|jC<|jsq<|jsr<|jfa 5 rfl<|jlo 0 rfl rfl rfl<|jfa 3 rfl<|jlo 1 rfl rfl rfl<|jix 1 rfl rfl rfl<|
  fun x2 b6 o2=>jld true o_Move (gk 0) rfl<|jal .s (.agg #[vi 0, vi 0, vi 0, vi 0])<|fun b7=>jso .s 3 rfl rfl rfl<|jot<|jjnK (fun s4 K=>K [2,3,4] [(3, [])] [1,2] [(114, vb s4)] []) (jdS [] [0, 1, 3] 19<|jdf 0 1 rfl rfl<|
  jdo 1 3 rfl rfl rfl rfl<|jdc 15 [2,3] rfl<|jsg 99 rfl (jdc 10 [4,5,6,7,8] rfl<|jdp 9 (vb true) rfl<|jdc 1 [10,11,12,13,14,15,16,17] rfl<|jdp 18 (vb true) rfl<|jde<|jnn (gv (fun _ k=>k) [0,1,2,903] (gq [1,2])))<|jdf 4 0 rfl rfl<|
  jdo 5 3 rfl rfl rfl rfl<|jdf 6 0 rfl rfl<|jdo 7 1 rfl rfl rfl rfl<|jdc 10 [8] rfl<|jdp 9 (vb (x2.1 != y1.1)) rfl<|jdc 8 [10] rfl<|jsg 106 rfl (jdc 1 [11,12,13,14,15,16,17] rfl<|jdp 18 (vb true) rfl<|jde<|
  jnn (gv (fun _ k=>k) [0,1,2,903] (gq [1,2])))<|jda 11 0 6 rfl rfl rfl rfl<|jdf 13 3 rfl rfl<|jdo 14 1 rfl rfl rfl rfl<|jd1 12<|jca (.f rfl) [] [] c_ref27_Status rfl rfl rfl (cq [1,2])<|fun r4 _ k p4 c4=>k<|jdn<|jdi 15 0 rfl rfl rfl rfl<|
  fun x3 b8 o3=>jdl 16 false oI rfl (gk 0) rfl<|jdc 1 [17] rfl<|jdp 18 (vb (x3 == 0)) rfl<|jde<|jnn (gv (fun _ k=>k) [0,1,2,903] (gq [3,4])))<|fun s4 _ k=>k<|jif rfl (jsr<|
  jpe (.agg #[vi 0, .slice none 0 0, vi 0, vi 0, vi 0, .slice none 0 0])<|jso .s 2 rfl rfl rfl<|jpc 1 rfl<|jot<|jxr<|jtr<|jbr<|jlr<|
  jrg' rfl (lC 2 (.agg #[vi 0, .slice none 0 0, vi 0, vi 0, vi 0, .slice none 0 0]) rfl rfl (lT rfl lN)) (fun _ k=>k none 0 none 0) [] ⟨gn,gn,⟨⟩⟩)<|jC<|jrg<|jfa 2 rfl<|jso .s 1 rfl rfl rfl<|joe<|jbn<|jln (gv (fun _ k=>k) [0,1,2] (gq [0,1]))
  )<|jrg<|jfa 2 rfl<|jso .s 1 rfl rfl rfl<|jfa 3 rfl<|jso .s 1 rfl rfl rfl<|joe<|jbn<|jln (gv (fun _ k=>k) [0,1,2] (gq [0,1])))<|fun s1 _ k=>k<|
  jjnK (fun s5 K=>∀ p5 c5 r_1,K [2,4] [(0, bx b1 32 [vi y0.1.1, sv p1 y0.1.2 c1, vi y0.2.1, vi y0.2.2.1.1, vi y0.2.2.1.2, sv p5 s5 c5]), (1, []), (3, r_1)] [0] [] [Al e_Move 42 r_1 p5 c5 s5]) (jdS [8] [0, 1] 9<|jdf 1 5 rfl rfl<|
  jdo 2 0 rfl rfl rfl rfl<|jda 4 1 4 rfl rfl rfl rfl<|jd2 0 5 (jbo (.f rfl) (e := e_Move) 42 [] ([] : List T_Move) rN<|fun r_2 p6 c6=>jdn<|jd2 3 5 (jar (.f rfl) 3 0 rfl (gk 2) rfl rfl<|fun x4 r_3 p7 c7=>jdn<|jd1 5<|
  jbs (.f rfl) (e := e_Move) 42 [vi y1.1, vi y1.2.1, vi s1.1, vi s1.2] ([(y1.1, y1.2.1, s1.1, s1.2)] : List T_Move) (rC (vP vI (vP vI (vP vI vI))) rN)<|fun p8 c8=>jdn<|jd1 6<|jar (.f rfl) 3 1 rfl (gk 0) rfl rfl<|fun x5 r_4 p9 c9=>jdn<|
  jdf 7 5 rfl rfl<|jd1 8<|jso (o := 5) (.f rfl) 0 rfl rfl rfl<|jdb [] [0, 1]<|jde<|jnn (gv (fun _ k=>k p9 c9 r_4) [0,901,2,3] (gq [0,4]))) <|
  jbs (.f rfl) (e := e_Move) 42 [vi y1.1, vi y1.2.1, vi s1.1, vi s1.2] ([(y1.1, y1.2.1, s1.1, s1.2)] : List T_Move) (rC (vP vI (vP vI (vP vI vI))) rN)<|fun p10 c10=>jdn<|jd1 3<|jar (.f rfl) 3 1 rfl (gk 3) rfl rfl<|fun x6 r_5 p11 c11=>jdn<|
  jd1 6<|jar (.f rfl) 3 0 rfl (gk 1) rfl rfl<|fun x7 r_6 p12 c12=>jdn<|jdf 7 5 rfl rfl<|jd1 8<|jso (o := 5) (.f rfl) 0 rfl rfl rfl<|jdb [] [0, 1]<|jde<|jnn (gv (fun _ k=>k p12 c12 r_6) [0,901,2,3] (gq [0,4]))) <|
  jbs (.f rfl) (e := e_Move) 42 [vi y1.1, vi y1.2.1, vi s1.1, vi s1.2] ([(y1.1, y1.2.1, s1.1, s1.2)] : List T_Move) (rC (vP vI (vP vI (vP vI vI))) rN)<|fun p13 c13=>jdn<|jd1 0<|jbo (.f rfl) (e := e_Move) 42 [] ([] : List T_Move) rN<|
  fun r_7 p14 c14=>jdn<|jd1 3<|jar (.f rfl) 3 0 rfl (gk 3) rfl rfl<|fun x8 r_8 p15 c15=>jdn<|jd1 6<|jar (.f rfl) 3 0 rfl (gk 2) rfl rfl<|fun x9 r_9 p16 c16=>jdn<|jdf 7 5 rfl rfl<|jd1 8<|jso (o := 5) (.f rfl) 0 rfl rfl rfl<|jdb [] [0, 1]<|
  jde<|jnn (gv (fun _ k=>k p16 c16 r_9) [0,901,2,3] (gq [0,4])))<|fun s5 _ k p5 c5 r_1=>k<|jsr<|jla 0 6 rfl rfl rfl<|jso .s 2 rfl rfl rfl<|jpc 1 rfl<|jot<|jxr<|jsh 3 0 rfl rfl<|
  jrg' rfl (lC 2 (.agg #[vi y0.1.1, sv p1 y0.1.2 c1, vi y0.2.1, vi y0.2.2.1.1, vi y0.2.2.1.2, sv p5 s5 c5]) rfl rfl (lT rfl lN)) (fun _ k=>k p1 c1 p5 c5) [] (gq [2,0])

theorem c_ref27_Legal {qd : Prop} {y0 : T_Dialogue} : Con qd Tryz.prog 65 [.agg #[vi y0.1.1, sv p1 y0.1.2 c1, vi y0.2.1, vi y0.2.2.1.1, vi y0.2.2.1.2, sv p2 y0.2.2.2 c2]] [] [Rl e_Pair p1 c1 y0.1.2, Rl e_Move p2 c2 y0.2.2.2] (m_ref27_Legal y0) fun r K=>∀ p3 c3,K (sv p3 r c3) [] [Rl e_Move p3 c3 r] :=
 ent3 Tryz.call65 Tryz.func65 rfl fun X=>jsr<|jbx .s rfl<|fun b1=>jpc 1 rfl<|jot<|jsq<|jsr<|jla 0 6 rfl rfl rfl<|jcl c_ref27_Turn rfl (cq [0,1])<|fun r1 _ k=>k<|jpc 1 rfl<|jot<|jif rfl (jA 1 rfl<|jxr<|jtr<|jr1 rfl rfl (fun _ k=>k none 0) [] ⟨gn,⟨⟩⟩)<|jC<|jsr<|jla 0 6 rfl rfl rfl<|
  jcl c_ref27_attacks rfl (cq [0,1])<|fun r2 _ k p3 c3=>k<|jpc 1 rfl<|jot<|jxr<|jr1 rfl rfl (fun _ k=>k p3 c3) [] (gq [0])

theorem c_ref28_Attacks {qd : Prop} {y0 : T_Dialogue} {y1 : T_Player} : Con qd Tryz.prog 45 [.agg #[vi y0.1.1, sv p1 y0.1.2 c1, vi y0.2.1, vi y0.2.2.1.1, vi y0.2.2.1.2, sv p2 y0.2.2.2 c2], .agg #[sv p3 y1.1 c3, sv p4 y1.2.1 c4, sv p5 y1.2.2.1 c5, vi y1.2.2.2]] [] [Rl e_Pair p1 c1 y0.1.2, Rl e_Move p2 c2 y0.2.2.2, Rl (eInt .i64) p3 c3 y1.1, Rl (eInt .i64) p4 c4 y1.2.1, Rl e_Move p5 c5 y1.2.2.1] (m_ref28_Attacks y0 y1) fun r K=>∀ p6 c6,K (sv p6 r c6) [] [Rl e_Move p6 c6 r] :=
 ent3 Tryz.call45 Tryz.func45 rfl fun X=>jsr<|jbx .s rfl<|fun b1=>jbx .s rfl<|fun b2=>jpc 1 rfl<|jot<|jsr<|jpc 1 rfl<|jro e_Move 42<|jot<|jsq<|jsr<|jla 0 6 rfl rfl rfl<|jcl c_ref27_Legal rfl (cq [1,2])<|fun r1 _ k p6 c6=>k<|jpc 2 rfl<|jot<|jbk<|
  jlpK (fun s1 K=>∀ p7 c7 r_1,K [3,9,10] [(0, []), (2, r_1)] [0,4,5,6] [(5, sv p7 s1.1 c7), (11, vi s1.2)] [Al e_Move 42 r_1 p7 c7 s1.1]) (gv (fun _ k=>k none 0 []) [900,1,2] (gq [1,0,4,5,6]))<|fun s1 _ k p7 c7 r_1=>k<|jA 1 rfl<|jsq<|
  jif rfl (jC<|jsq<|jbk<|jsr<|jix 1 rfl rfl rfl<|fun x1 b3 o1=>jld true o_Move (gk 0) rfl<|jal .s (.agg #[vi 0, vi 0, vi 0, vi 0])<|fun b4=>jso .s 3 rfl rfl rfl<|jot<|jjnK (fun s2 K=>K [3,5,7,9,10,11] [] [1,2,3,4,5] [(27, vb s2)] []) (jrg<|
  jfa 0 rfl<|jlo 1 rfl rfl rfl<|jfa 2 rfl<|jlo 3 rfl rfl rfl<|jcl c_net_In rfl (cq [3])<|fun r2 _ k=>k<|jpc 1 rfl<|jsg 20 rfl (jfa 1 rfl<|jlo 1 rfl rfl rfl<|jfa 2 rfl<|jlo 3 rfl rfl rfl<|jcl c_net_In rfl (cq [4])<|fun r3 _ k=>k<|jpc 1 rfl<|
  jpe (vb (!r3))<|joe<|jnn (gv (fun _ k=>k) [900,1,2,3] (gq [1,2,3,4,5])))<|jpc 6 rfl<|jpe (vb false)<|joe<|jnn (gv (fun _ k=>k) [900,1,2,3] (gq [1,2,3,4,5])))<|fun s2 _ k=>k<|jif rfl (jrg<|jpc 1 rfl<|jla 3 4 rfl rfl rfl<|
  jbs .s (e := e_Move) 42 [vi x1.1, vi x1.2.1, vi x1.2.2.1, vi x1.2.2.2] ([x1] : List T_Move) (rC (vP vI (vP vI (vP vI vI))) rN)<|fun p8 c8=>jar .s 2 1 rfl (gk 0) rfl rfl<|fun x2 r_2 p9 c9=>jpc 1 rfl<|joe<|jbn<|jtn<|jB 2 rfl<|
  jln (gv (fun _ k=>k p9 c9 r_2) [900,1,2] (gq [0,3,4,5,6])))<|jsk<|jbn<|jtn<|jB 2 rfl<|jln (gv (fun _ k=>k p7 c7 r_1) [900,1,2] (gq [0,1,2,3,4])))<|jxe<|jte<|jle<|jbh<|jtn<|jA 2 rfl<|jxr<|jsh 2 0 rfl rfl<|
  jr1 rfl rfl (fun _ k=>k p7 c7) [] (gq [0])

theorem c_ref28_attackers {qd : Prop} {y0 : T_Graph} {y1 : Int} : Con qd Tryz.prog 47 [.agg #[vi y0.1, sv p1 y0.2 c1], vi y1] [] [Rl e_Pair p1 c1 y0.2] (m_ref28_attackers y0 y1) fun r K=>K (vi r) [] [] :=
 ent3 Tryz.call47 Tryz.func47 rfl fun X=>jsr<|jbx .s rfl<|fun b1=>jpc 1 rfl<|jot<|jA 1 rfl<|jsq<|jA 1 rfl<|jbk<|jlpK (fun s1 K=>K [1,2] [] [0] [(5, vi s1.1), (6, vi s1.2)] []) (gv (fun _ k=>k) [0] (gq [0]))<|fun s1 _ k=>k<|jsq<|jsr<|jpc 1 rfl<|jfa 1 rfl<|jlo 0 rfl rfl rfl<|
  jpc 2 rfl<|jot<|jif rfl (jC<|jsq<|jbk<|jsr<|jfa 1 rfl<|jlo 0 rfl rfl rfl<|jpc 1 rfl<|jix 0 rfl rfl rfl<|fun x1 b2 o1=>jfa 1 rfl<|jld false oI (gs (gk 0)) rfl<|jpc 2 rfl<|jot<|jif rfl (jB 3 rfl<|jbn<|jtn<|jB 3 rfl<|
  jln (gv (fun _ k=>k) [0] (gq [1])))<|jsk<|jbn<|jtn<|jB 3 rfl<|jln (gv (fun _ k=>k) [0] (gq [1])))<|jxe<|jte<|jle<|jbh<|jtn<|jA 2 rfl<|jxr<|jr1 rfl rfl (fun _ k=>k) [] ⟨⟩

theorem c_ref28_scripted {qd : Prop} {y0 : T_Dialogue} {y1 : T_Player} {y2 : List T_Move} : Con qd Tryz.prog 46 [.agg #[vi y0.1.1, sv p1 y0.1.2 c1, vi y0.2.1, vi y0.2.2.1.1, vi y0.2.2.1.2, sv p2 y0.2.2.2 c2], .agg #[sv p3 y1.1 c3, sv p4 y1.2.1 c4, sv p5 y1.2.2.1 c5, vi y1.2.2.2], sv p6 y2 c6] [] [Rl e_Pair p1 c1 y0.1.2, Rl e_Move p2 c2 y0.2.2.2, Rl (eInt .i64) p3 c3 y1.1, Rl (eInt .i64) p4 c4 y1.2.1, Rl e_Move p5 c5 y1.2.2.1, Rl e_Move p6 c6 y2] (m_ref28_scripted y0 y1 y2) fun r K=>K (.tuple #[.agg #[vi r.1.1, vi r.1.2.1, vi r.1.2.2.1, vi r.1.2.2.2], vb r.2]) [] [] :=
 ent3 Tryz.call46 Tryz.func46 rfl fun X=>jsr<|jbx .s rfl<|fun b1=>jbx .s rfl<|fun b2=>jal .s (.agg #[vi 0, vi 0, vi 0, vi 0])<|fun b3=>jpc 1 rfl<|jot<|jsr<|jla 0 6 rfl rfl rfl<|jcl c_ref27_Turn rfl (cq [0,1])<|fun r1 _ k=>k<|jpc 2 rfl<|jot<|
  jjnK (fun s1 K=>K [2,3,4,6,8] [] [5,0,1,2,3,4] [(9, vi s1)] []) (jA 1 rfl<|jbk<|jlpK (fun s2 K=>K [2,3,4,6,8] [] [5,0,1,2,3,4] [(9, vi s2.1), (10, vi s2.2)] []) (gv (fun _ k=>k) [0,1,2] (gq [5,0,1,2,3,4]))<|fun s2 _ k=>k<|jsq<|jsr<|
  jpc 1 rfl<|jfa 5 rfl<|jlo 0 rfl rfl rfl<|jpc 2 rfl<|jot<|jif rfl (jC<|jsq<|jbk<|jsr<|jfa 5 rfl<|jlo 0 rfl rfl rfl<|jpc 1 rfl<|jix 2 rfl rfl rfl<|fun x1 b4 o1=>jfa 0 rfl<|jld false oI (gf (gk 0)) rfl<|jpc 2 rfl<|jot<|jif rfl (jB 3 rfl<|jbn<|
  jtn<|jB 3 rfl<|jln (gv (fun _ k=>k) [0,1,2] (gq [1,2,3,4,5,6])))<|jsk<|jbn<|jtn<|jB 3 rfl<|jln (gv (fun _ k=>k) [0,1,2] (gq [1,2,3,4,5,6])))<|jxe<|jte<|jle<|jbh<|jnn (gv (fun _ k=>k) [0,1,2] (gq [0,1,2,3,4,5])))<|fun s1 _ k=>k<|jsq<|jsr<|
  jpc 1 rfl<|jfa 2 rfl<|jlo 1 rfl rfl rfl<|jpc 2 rfl<|jot<|jif rfl (jsr<|jpe (.agg #[vi 0, vi 0, vi 0, vi 0])<|jso .s 2 rfl rfl rfl<|jpc 1 rfl<|jot<|jxr<|jtr<|
  jrg' rfl (lC 2 (.agg #[vi 0, vi 0, vi 0, vi 0]) rfl rfl (lT rfl lN)) (fun _ k=>k) [] ⟨⟩)<|jC<|jsr<|jfa 2 rfl<|jlo 1 rfl rfl rfl<|jpc 1 rfl<|jix 5 rfl rfl rfl<|fun x2 b5 o2=>jld true o_Move (gk 0) rfl<|
  jal .s (.agg #[vi 0, vi 0, vi 0, vi 0])<|fun b6=>jso .s 3 rfl rfl rfl<|jot<|jsr<|jpc 1 rfl<|jfa 0 rfl<|jso .s 3 rfl rfl rfl<|jot<|jjoK (fun s3 K=>K [3,6,11] [(1, [])] [2,3] [] []) (jsr<|jfa 1 rfl<|jlo 3 rfl rfl rfl<|jpc 1 rfl<|jot<|
  jif rfl (jjoK (fun s4 K=>K [6] [(0, []), (1, []), (3, [])] [] [] []) (jA 3 rfl<|jbk<|jlpK (fun s5 K=>K [6,11,51,52] [(0, []), (1, [])] [1] [(53, vi s5)] []) (gv (fun _ k=>k) [900,901,2,3] (gq [1]))<|fun s5 _ k=>k<|jA 1 rfl<|jsq<|jif rfl (
  jC<|jsq<|jbk<|jsr<|jix 0 rfl rfl rfl<|fun x3 b7 o3=>jld true o_Move (gk 0) rfl<|jal .s (.agg #[vi 0, vi 0, vi 0, vi 0])<|fun b8=>jso .s 4 rfl rfl rfl<|jot<|jsr<|jla 4 4 rfl rfl rfl<|jla 3 4 rfl rfl rfl<|
  jpe (vb (x3 == (r1, x2.2.1, x2.2.2.1, x2.2.2.2)))<|jot<|jif rfl (jsr<|jla 3 4 rfl rfl rfl<|jso .s 2 rfl rfl rfl<|jpc 1 rfl<|jot<|jxr<|jbr<|jtr<|jlr<|jbr<|jlr<|jlr<|
  jrg' rfl (lC 2 (.agg #[vi r1, vi x2.2.1, vi x2.2.2.1, vi x2.2.2.2]) rfl rfl (lT rfl lN)) (fun _ k=>k) [] ⟨⟩)<|jsk<|jbn<|jtn<|jB 2 rfl<|jln (gv (fun _ k=>k) [900,901,2,3] (gq [1])))<|jxe<|jte<|jle<|jbh<|
  jln (gv (fun _ k=>k) [900,901,2,903] ⟨⟩))<|fun s4 _ k=>k<|jsr<|jpe (.agg #[vi 0, vi 0, vi 0, vi 0])<|jso .s 2 rfl rfl rfl<|jpc 1 rfl<|jot<|jxr<|jlr<|jrg' rfl (lC 2 (.agg #[vi 0, vi 0, vi 0, vi 0]) rfl rfl (lT rfl lN)) (fun _ k=>k) [] ⟨⟩)<|
  jsk<|jln (gv (fun _ k=>k) [0,901,2,3] (gq [2,3])))<|fun s3 _ k=>k<|jsr<|jla 0 6 rfl rfl rfl<|jla 3 4 rfl rfl rfl<|jcl c_ref27_Apply rfl (cq [0,1])<|fun r2 _ k p7 c7 p8 c8=>k<|jpc 3 rfl<|
  jal .s (.agg #[vi 0, .slice none 0 0, vi 0, vi 0, vi 0, .slice none 0 0])<|fun b9=>jso .s 4 rfl rfl rfl<|jpc 1 rfl<|jot<|jsq<|jA 2 rfl<|jif rfl (jsr<|jpe (.agg #[vi 0, vi 0, vi 0, vi 0])<|jso .s 2 rfl rfl rfl<|jpc 1 rfl<|jot<|jxr<|jtr<|
  jrg' rfl (lC 2 (.agg #[vi 0, vi 0, vi 0, vi 0]) rfl rfl (lT rfl lN)) (fun _ k=>k) [] ⟨⟩)<|jC<|jsr<|jfa 5 rfl<|jlo 4 rfl rfl rfl<|jfa 5 rfl<|jlo 4 rfl rfl rfl<|jpc 2 rfl<|jix 1 rfl rfl rfl<|fun x4 b10 o4=>jld true o_Move (gk 0) rfl<|
  jso .s 2 rfl rfl rfl<|jpc 1 rfl<|jot<|jxr<|jrg' rfl (lC 2 (.agg #[vi x4.1, vi x4.2.1, vi x4.2.2.1, vi x4.2.2.2]) rfl rfl (lT rfl lN)) (fun _ k=>k) [] ⟨⟩

theorem c_net_Set {qd : Prop} {y0 : T_Graph} {y1 : List Int} : Con qd Tryz.prog 44 [.agg #[vi y0.1, sv p1 y0.2 c1], sv p2 y1 c2] [] [Rl e_Pair p1 c1 y0.2, Rl (eInt .i64) p2 c2 y1] (m_net_Set y0 y1) fun r K=>K (vb r) [] [] :=
 ent3 Tryz.call44 Tryz.func44 rfl fun X=>jsr<|jbx .s rfl<|fun b1=>jpc 1 rfl<|jot<|jsq<|jA 1 rfl<|jbk<|jlpK (fun s1 K=>K [1,2] [] [1,0] [(5, vi s1)] []) (gv (fun _ k=>k) [0] (gq [1,0]))<|fun s1 _ k=>k<|jsq<|jA 4 rfl<|jif rfl (jC<|jsq<|jbk<|
  jjnK (fun s2 K=>K [1,2,5] [] [0,1] [(41, vb s2)] []) (jdS [] [0] 30<|jdc 28 [0,1] rfl<|jdi 2 0 rfl rfl rfl rfl<|fun x1 b2 o1=>jdl 3 false oI rfl (gk 0) rfl<|jdc 24 [4,5] rfl<|jsg 17 rfl (jdc 17 [6,7,8,9,10,11,12] rfl<|jdp 13 (vb true) rfl<|
  jdc 1 [14,15,16,17,18,19,20,21,22,23,24,25,26,27,28] rfl<|jdp 29 (vb true) rfl<|jde<|jnn (gv (fun _ k=>k) [0] (gq [1,2])))<|jdc 22 [6,7] rfl<|jdi 8 1 rfl rfl rfl rfl<|fun x2 b3 o2=>jdl 9 false oI rfl (gk 0) rfl<|jdf 10 0 rfl rfl<|
  jdo 11 0 rfl rfl rfl rfl<|jdc 17 [12] rfl<|jdp 13 (vb (decide (y0.1 ≤ x2))) rfl<|jdc 15 [14] rfl<|jsg 26 rfl (jdc 1 [15,16,17,18,19,20,21,22,23,24,25,26,27,28] rfl<|jdp 29 (vb true) rfl<|jde<|jnn (gv (fun _ k=>k) [0] (gq [2,3])))<|
  jdc 12 [15,16,17] rfl<|jsg 29 rfl (jdc 10 [18,19] rfl<|jdi 20 2 rfl rfl rfl rfl<|fun x3 b4 o3=>jdl 21 false oI rfl (gk 0) rfl<|jdc 5 [22,23,24] rfl<|jdi 25 3 rfl rfl rfl rfl<|fun x4 b5 o4=>jdl 26 false oI rfl (gk 0) rfl<|jdc 2 [27] rfl<|
  jdp 28 (vb (decide (x3 ≤ x4))) rfl<|jdp 29 (vb (decide (x3 ≤ x4))) rfl<|jde<|jnn (gv (fun _ k=>k) [0] (gq [4,5])))<|jdc 2 [18,19,20,21,22,23,24,25,26,27] rfl<|jdp 28 (vb false) rfl<|jdp 29 (vb false) rfl<|jde<|
  jnn (gv (fun _ k=>k) [0] (gq [2,3])))<|fun s2 _ k=>k<|jif rfl (jA 1 rfl<|jxr<|jbr<|jtr<|jlr<|jbr<|jtr<|jr1 rfl rfl (fun _ k=>k) [] ⟨⟩)<|jsk<|jbn<|jtn<|jB 3 rfl<|jln (gv (fun _ k=>k) [0] (gq [0,1])))<|jxe<|jte<|jle<|jbh<|jtn<|jA 1 rfl<|jxr<|
  jr1 rfl rfl (fun _ k=>k) [] ⟨⟩

theorem c_ref28_valid {qd : Prop} {y0 : T_Graph} {y1 : T_Player} : Con qd Tryz.prog 24 [.agg #[vi y0.1, sv p1 y0.2 c1], .agg #[sv p2 y1.1 c2, sv p3 y1.2.1 c3, sv p4 y1.2.2.1 c4, vi y1.2.2.2]] [] [Rl e_Pair p1 c1 y0.2, Rl (eInt .i64) p2 c2 y1.1, Rl (eInt .i64) p3 c3 y1.2.1, Rl e_Move p4 c4 y1.2.2.1] (m_ref28_valid y0 y1) fun r K=>K (vi r) [] [] :=
 ent3 Tryz.call24 Tryz.func24 rfl fun X=>jsr<|jbx .s rfl<|fun b1=>jbx .s rfl<|fun b2=>jpc 1 rfl<|jot<|jsq<|jjnK (fun s1 K=>K [3] [(0, [])] [1,2,3] [(16, vb s1)] []) (jrg<|jla 0 2 rfl rfl rfl<|jfa 0 rfl<|jlo 1 rfl rfl rfl<|jcl c_net_Set rfl (cq [0,1])<|fun r1 _ k=>k<|jpc 2 rfl<|
  jsg 10 rfl (jpc 5 rfl<|jpe (vb true)<|joe<|jnn (gv (fun _ k=>k) [900,1] (gq [1,2,3])))<|jla 0 2 rfl rfl rfl<|jfa 1 rfl<|jlo 1 rfl rfl rfl<|jcl c_net_Set rfl (cq [0,2])<|fun r2 _ k=>k<|jpc 1 rfl<|jpe (vb (!r2))<|joe<|
  jnn (gv (fun _ k=>k) [900,1] (gq [1,2,3])))<|fun s1 _ k=>k<|jif rfl (jA 1 rfl<|jxr<|jtr<|jr1 rfl rfl (fun _ k=>k) [] ⟨⟩)<|jC<|jsq<|jjp (fun K=>K [(24, vb ((decide (y1.2.2.2 < 1)) || (decide (3 < y1.2.2.2))))] [[], []] []) (jrg<|jfa 3 rfl<|
  jlo 1 rfl rfl rfl<|jpc 2 rfl<|jsp (b := decide (y1.2.2.2 < 1)) 20 rfl (fun hb2=>jpc 3 rfl<|jpe (vb true)<|joe<|jup 24 (vb ((decide (y1.2.2.2 < 1)) || (decide (3 < y1.2.2.2)))) rfl (by rw [hb2]; rfl)<|jnn (gv (fun _ k=>k) [900,901] ⟨⟩)
  )<|fun hb2=>jfa 3 rfl<|jlo 1 rfl rfl rfl<|jpc 1 rfl<|jpe (vb (decide (3 < y1.2.2.2)))<|joe<|jup 24 (vb ((decide (y1.2.2.2 < 1)) || (decide (3 < y1.2.2.2)))) rfl (by rw [hb2]; rfl)<|jnn (gv (fun _ k=>k) [900,901] ⟨⟩))<|fun _ k=>k<|jif rfl (
  jA 1 rfl<|jxr<|jtr<|jr1 rfl rfl (fun _ k=>k) [] ⟨⟩)<|jC<|jA 1 rfl<|jxr<|jr1 rfl rfl (fun _ k=>k) [] ⟨⟩

theorem c_ref28_Choose {qd : Prop} {y0 : T_Dialogue} {y1 : T_Player} : Con qd Tryz.prog 26 [.agg #[vi y0.1.1, sv p1 y0.1.2 c1, vi y0.2.1, vi y0.2.2.1.1, vi y0.2.2.1.2, sv p2 y0.2.2.2 c2], .agg #[sv p3 y1.1 c3, sv p4 y1.2.1 c4, sv p5 y1.2.2.1 c5, vi y1.2.2.2]] [] [Rl e_Pair p1 c1 y0.1.2, Rl e_Move p2 c2 y0.2.2.2, Rl (eInt .i64) p3 c3 y1.1, Rl (eInt .i64) p4 c4 y1.2.1, Rl e_Move p5 c5 y1.2.2.1] (m_ref28_Choose y0 y1) fun r K=>K (.tuple #[.agg #[vi r.1.1, vi r.1.2.1, vi r.1.2.2.1, vi r.1.2.2.2], vi r.2]) [] [] :=
 ent3 Tryz.call26 Tryz.func26 rfl fun X=>jsr<|jbx .s rfl<|fun b1=>jbx .s rfl<|fun b2=>jal .s (.agg #[vi 0, vi 0, vi 0, vi 0])<|fun b3=>jpc 1 rfl<|jot<|jsq<|jsr<|jla 0 6 rfl rfl rfl<|jcl c_ref27_Turn rfl (cq [0,1])<|fun r1 _ k=>k<|jpc 1 rfl<|jot<|jif rfl (jsr<|
  jpe (.agg #[vi 0, vi 0, vi 0, vi 0])<|jso .s 2 rfl rfl rfl<|jpc 1 rfl<|jot<|jxr<|jtr<|jrg' rfl (lC 2 (.agg #[vi 0, vi 0, vi 0, vi 0]) rfl rfl (lT rfl lN)) (fun _ k=>k) [] ⟨⟩)<|jC<|jsq<|jsr<|jfa 0 rfl<|jla 0 2 rfl rfl rfl<|
  jla 1 4 rfl rfl rfl<|jcl c_ref28_valid rfl (cq [0,2,3,4])<|fun r2 _ k=>k<|jpc 1 rfl<|jot<|jA 2 rfl<|jif rfl (jsr<|jpe (.agg #[vi 0, vi 0, vi 0, vi 0])<|jpc 1 rfl<|jso .s 2 rfl rfl rfl<|jpc 1 rfl<|jot<|jxr<|jtr<|
  jrg' rfl (lC 2 (.agg #[vi 0, vi 0, vi 0, vi 0]) rfl rfl (lT rfl lN)) (fun _ k=>k) [] ⟨⟩)<|jC<|jsr<|jla 0 6 rfl rfl rfl<|jla 1 4 rfl rfl rfl<|jcl c_ref28_Attacks rfl (cq [0,1,2,3,4])<|fun r3 _ k p6 c6=>k<|jpc 1 rfl<|jot<|jsq<|jsr<|
  jla 0 6 rfl rfl rfl<|jla 1 4 rfl rfl rfl<|jpc 1 rfl<|jcl c_ref28_scripted rfl (cq [1,2,3,4,5,0])<|fun r4 _ k=>k<|jpc 3 rfl<|jal .s (.agg #[vi 0, vi 0, vi 0, vi 0])<|fun b4=>jso .s 3 rfl rfl rfl<|jpc 1 rfl<|jot<|jA 1 rfl<|jif rfl (jsr<|
  jla 3 4 rfl rfl rfl<|jso .s 2 rfl rfl rfl<|jpc 1 rfl<|jot<|jxr<|jtr<|jrg' rfl (lC 2 (.agg #[vi r4.1.1, vi r4.1.2.1, vi r4.1.2.2.1, vi r4.1.2.2.2]) rfl rfl (lT rfl lN)) (fun _ k=>k) [] ⟨⟩)<|jC<|jsq<|jA 3 rfl<|jif rfl (jsr<|
  jla 0 6 rfl rfl rfl<|jcl c_ref27_Turn rfl (cq [1,2])<|fun r5 _ k=>k<|jpe (.agg #[vi r5, vi 4, vi 0, vi 0])<|jso .s 2 rfl rfl rfl<|jpc 1 rfl<|jot<|jxr<|jtr<|
  jrg' rfl (lC 2 (.agg #[vi r5, vi 4, vi 0, vi 0]) rfl rfl (lT rfl lN)) (fun _ k=>k) [] ⟨⟩)<|jC<|jsr<|jpc 1 rfl<|jix 0 rfl rfl rfl<|fun x1 b5 o1=>jld true o_Move (gk 0) rfl<|jal .s (.agg #[vi 0, vi 0, vi 0, vi 0])<|fun b6=>
  jso .s 4 rfl rfl rfl<|jot<|jjnK (fun s1 K=>K [4,10] [(0, []), (1, []), (3, []), (4, bx b6 42 [vi s1.1, vi s1.2.1, vi s1.2.2.1, vi s1.2.2.2])] [] [] []) (jA 3 rfl<|jbk<|
  jlpK (fun s2 K=>K [2,3,4,10,46,47] [(3, []), (4, bx b6 42 [vi s2.2.1, vi s2.2.2.1, vi s2.2.2.2.1, vi s2.2.2.2.2])] [1,2,3,4,5,6] [(48, vi s2.1)] []) (gv (fun _ k=>k) [0,1,2,903,4] (gq [1,2,3,4,5,6]))<|fun s2 _ k=>k<|jA 1 rfl<|jsq<|jif rfl (
  jC<|jsq<|jbk<|jsr<|jix 0 rfl rfl rfl<|fun x2 b7 o2=>jld true o_Move (gk 0) rfl<|jal .s (.agg #[vi 0, vi 0, vi 0, vi 0])<|fun b8=>jso .s 5 rfl rfl rfl<|jot<|jjnK (fun s3 K=>K [2,3,4,10,12,46,47,48] [] [1,2,3,4,5,6] [(79, vb s3)] []) (
  jdS [] [0, 1, 4, 5] 28<|jdf 0 3 rfl rfl<|jdo 1 1 rfl rfl rfl rfl<|jdc 24 [2,3] rfl<|jsg 55 rfl (jdf 4 3 rfl rfl<|jdo 5 5 rfl rfl rfl rfl<|jdf 6 3 rfl rfl<|jdo 7 4 rfl rfl rfl rfl<|jdc 19 [8] rfl<|
  jdp 9 (vb (decide (s2.2.2.2.2 < x2.2.2.2))) rfl<|jdc 17 [10] rfl<|jsg 62 rfl (jdc 1 [11,12,13,14,15,16,17,18,19,20,21,22,23,24,25,26] rfl<|jdp 27 (vb true) rfl<|jde<|jnn (gv (fun _ k=>k) [0,1,2,903,4,5] (gq [1,2,3,4,5,6])))<|
  jdf 11 3 rfl rfl<|jdo 12 1 rfl rfl rfl rfl<|jdc 13 [13,14] rfl<|jsg 66 rfl (jdf 15 0 rfl rfl<|jda 16 0 2 rfl rfl rfl rfl<|jdf 17 2 rfl rfl<|jdo 18 5 rfl rfl rfl rfl<|jdf 20 0 rfl rfl<|jda 21 0 2 rfl rfl rfl rfl<|jdf 22 2 rfl rfl<|
  jdo 23 4 rfl rfl rfl rfl<|jd1 19<|jca (.f rfl) [] [] c_ref28_attackers rfl rfl rfl (cq [2])<|fun r6 _ k=>k<|jdn<|jd1 24<|jca (.f rfl) [] [] c_ref28_attackers rfl rfl rfl (cq [2])<|fun r7 _ k=>k<|jdn<|jdc 2 [25] rfl<|
  jdp 26 (vb (decide (r6 < r7))) rfl<|jdp 27 (vb (decide (r6 < r7))) rfl<|jde<|jnn (gv (fun _ k=>k) [0,1,2,903,4,5] (gq [1,2,3,4,5,6])))<|jdc 2 [15,16,17,18,19,20,21,22,23,24,25] rfl<|jdp 26 (vb false) rfl<|jdp 27 (vb false) rfl<|jde<|
  jnn (gv (fun _ k=>k) [0,1,2,903,4,5] (gq [1,2,3,4,5,6])))<|jdc 19 [4,5,6,7,8] rfl<|jdp 9 (vb false) rfl<|jdc 17 [10] rfl<|jdf 11 3 rfl rfl<|jdo 12 1 rfl rfl rfl rfl<|jdc 13 [13,14] rfl<|jsg 66 rfl (jdf 15 0 rfl rfl<|
  jda 16 0 2 rfl rfl rfl rfl<|jdf 17 2 rfl rfl<|jdo 18 5 rfl rfl rfl rfl<|jdf 20 0 rfl rfl<|jda 21 0 2 rfl rfl rfl rfl<|jdf 22 2 rfl rfl<|jdo 23 4 rfl rfl rfl rfl<|jd1 19<|jca (.f rfl) [] [] c_ref28_attackers rfl rfl rfl (cq [2])<|
  fun r8 _ k=>k<|jdn<|jd1 24<|jca (.f rfl) [] [] c_ref28_attackers rfl rfl rfl (cq [2])<|fun r9 _ k=>k<|jdn<|jdc 2 [25] rfl<|jdp 26 (vb (decide (r8 < r9))) rfl<|jdp 27 (vb (decide (r8 < r9))) rfl<|jde<|
  jnn (gv (fun _ k=>k) [0,1,2,903,4,5] (gq [1,2,3,4,5,6])))<|jdc 2 [15,16,17,18,19,20,21,22,23,24,25] rfl<|jdp 26 (vb false) rfl<|jdp 27 (vb false) rfl<|jde<|jnn (gv (fun _ k=>k) [0,1,2,903,4,5] (gq [1,2,3,4,5,6])))<|fun s3 _ k=>k<|jif rfl (
  jrg<|jla 5 4 rfl rfl rfl<|jso .s 4 rfl rfl rfl<|joe<|jbn<|jtn<|jB 2 rfl<|jln (gv (fun _ k=>k) [0,1,2,903,4] (gq [0,1,2,3,4,5])))<|jsk<|jbn<|jtn<|jB 2 rfl<|jln (gv (fun _ k=>k) [0,1,2,903,4] (gq [0,1,2,3,4,5])))<|jxe<|jte<|jle<|jbh<|
  jnn (gv (fun _ k=>k) [900,901,2,903,4] ⟨⟩))<|fun s1 _ k=>k<|jsr<|jla 4 4 rfl rfl rfl<|jso .s 2 rfl rfl rfl<|jpc 1 rfl<|jot<|jxr<|jrg' rfl (lC 2 (.agg #[vi s1.1, vi s1.2.1, vi s1.2.2.1, vi s1.2.2.2]) rfl rfl (lT rfl lN)) (fun _ k=>k) [] ⟨⟩

theorem c_ref28_Run {qd : Prop} {y0 : T_Dialogue} {y1 : T_Player} {y2 : T_Player} : Con qd Tryz.prog 8 [.agg #[vi y0.1.1, sv p1 y0.1.2 c1, vi y0.2.1, vi y0.2.2.1.1, vi y0.2.2.1.2, sv p2 y0.2.2.2 c2], .agg #[sv p3 y1.1 c3, sv p4 y1.2.1 c4, sv p5 y1.2.2.1 c5, vi y1.2.2.2], .agg #[sv p6 y2.1 c6, sv p7 y2.2.1 c7, sv p8 y2.2.2.1 c8, vi y2.2.2.2]] [] [Rl e_Pair p1 c1 y0.1.2, Rl e_Move p2 c2 y0.2.2.2, Rl (eInt .i64) p3 c3 y1.1, Rl (eInt .i64) p4 c4 y1.2.1, Rl e_Move p5 c5 y1.2.2.1, Rl (eInt .i64) p6 c6 y2.1, Rl (eInt .i64) p7 c7 y2.2.1, Rl e_Move p8 c8 y2.2.2.1] (m_ref28_Run y0 y1 y2) fun r K=>∀ p9 c9 p10 c10,K (.tuple #[.agg #[vi r.1.1.1, sv p9 r.1.1.2 c9, vi r.1.2.1, vi r.1.2.2.1.1, vi r.1.2.2.1.2, sv p10 r.1.2.2.2 c10], vi r.2]) [] [Rl e_Pair p9 c9 r.1.1.2, Rl e_Move p10 c10 r.1.2.2.2] :=
 ent3 Tryz.call8 Tryz.func8 rfl fun X=>jsr<|jbx .s rfl<|fun b1=>jbx .s rfl<|fun b2=>jbx .s rfl<|fun b3=>jal .s (.agg #[vi 0, .slice none 0 0, vi 0, vi 0, vi 0, .slice none 0 0])<|fun b4=>jpc 1 rfl<|jot<|jsq<|jsr<|jfa 0 rfl<|jla 0 2 rfl rfl rfl<|jla 1 4 rfl rfl rfl<|
  jcl c_ref28_valid rfl (cq [0,2,3,4])<|fun r1 _ k=>k<|jpc 1 rfl<|jot<|jA 2 rfl<|jif rfl (jsr<|jpe (.agg #[vi 0, .slice none 0 0, vi 0, vi 0, vi 0, .slice none 0 0])<|jpc 1 rfl<|jso .s 3 rfl rfl rfl<|jpc 1 rfl<|jot<|jxr<|jtr<|
  jrg' rfl (lC 3 (.agg #[vi 0, .slice none 0 0, vi 0, vi 0, vi 0, .slice none 0 0]) rfl rfl (lT rfl lN)) (fun _ k=>k none 0 none 0) [] ⟨gn,gn,⟨⟩⟩)<|jC<|jsq<|jsr<|jfa 0 rfl<|jla 0 2 rfl rfl rfl<|jla 2 4 rfl rfl rfl<|
  jcl c_ref28_valid rfl (cq [0,5,6,7])<|fun r2 _ k=>k<|jpc 1 rfl<|jot<|jA 2 rfl<|jif rfl (jsr<|jpe (.agg #[vi 0, .slice none 0 0, vi 0, vi 0, vi 0, .slice none 0 0])<|jpc 1 rfl<|jso .s 3 rfl rfl rfl<|jpc 1 rfl<|jot<|jxr<|jtr<|
  jrg' rfl (lC 3 (.agg #[vi 0, .slice none 0 0, vi 0, vi 0, vi 0, .slice none 0 0]) rfl rfl (lT rfl lN)) (fun _ k=>k none 0 none 0) [] ⟨gn,gn,⟨⟩⟩)<|jC<|
  jjnK (fun s1 K=>∀ p9 c9 p10 c10,K [3,6] [(0, bx b1 32 [vi s1.1, sv p9 s1.2.1 c9, vi s1.2.2.1, vi s1.2.2.2.1, vi s1.2.2.2.2.1, sv p10 s1.2.2.2.2.2 c10]), (1, []), (2, [])] [] [] [Rl e_Pair p9 c9 s1.2.1, Rl e_Move p10 c10 s1.2.2.2.2.2]) (
  jbk<|
  jlpK (fun s2 K=>∀ p11 c11 p12 c12,K [3,4,5,6] [(0, bx b1 32 [vi s2.1, sv p11 s2.2.1 c11, vi s2.2.2.1, vi s2.2.2.2.1, vi s2.2.2.2.2.1, sv p12 s2.2.2.2.2.2 c12])] [2,3,4,5,6,7] [] [Rl e_Pair p11 c11 s2.2.1, Rl e_Move p12 c12 s2.2.2.2.2.2]) (gv (fun _ k=>k p1 c1 p2 c2) [0,1,2,3] (gq [0,1,2,3,4,5,6,7]))<|
  fun s2 _ k p11 c11 p12 c12=>k<|jsq<|jsr<|jla 0 6 rfl rfl rfl<|jcl c_ref27_Turn rfl (cq [0,1])<|fun r3 _ k=>k<|jpc 1 rfl<|jot<|jif rfl (jC<|jbk<|jsr<|jla 1 4 rfl rfl rfl<|
  jal .s (.agg #[.slice none 0 0, .slice none 0 0, .slice none 0 0, vi 0])<|fun b5=>jso .s 4 rfl rfl rfl<|jot<|
  jjnK (fun s3 K=>∀ p13 c13 p14 c14 p15 c15,K [3,4,5,6,10] [(4, bx b5 39 [sv p13 s3.1 c13, sv p14 s3.2.1 c14, sv p15 s3.2.2.1 c15, vi s3.2.2.2])] [0,1,2,3,4,5,6,7] [] [Rl (eInt .i64) p13 c13 s3.1, Rl (eInt .i64) p14 c14 s3.2.1, Rl e_Move p15 c15 s3.2.2.1]) (
  jsr<|jla 0 6 rfl rfl rfl<|jcl c_ref27_Turn rfl (cq [0,1])<|fun r4 _ k=>k<|jpc 1 rfl<|jot<|jif rfl (jrg<|jla 2 4 rfl rfl rfl<|jso .s 4 rfl rfl rfl<|joe<|jnn (gv (fun _ k=>k p6 c6 p7 c7 p8 c8) [0,1,2,3,4] (gq [5,6,7,0,1,2,3,4,5,6,7])))<|jsk<|
  jnn (gv (fun _ k=>k p3 c3 p4 c4 p5 c5) [0,1,2,3,4] (gq [2,3,4,0,1,2,3,4,5,6,7])))<|fun s3 _ k p13 c13 p14 c14 p15 c15=>k<|jsr<|jla 0 6 rfl rfl rfl<|jla 4 4 rfl rfl rfl<|jcl c_ref28_Choose rfl (cq [3,4,0,1,2])<|fun r5 _ k=>k<|jpc 3 rfl<|
  jal .s (.agg #[vi 0, vi 0, vi 0, vi 0])<|fun b6=>jso .s 5 rfl rfl rfl<|jpc 1 rfl<|jot<|jrg<|jla 0 6 rfl rfl rfl<|jla 5 4 rfl rfl rfl<|jcl c_ref27_Apply rfl (cq [3,4])<|fun r6 _ k p16 c16 p17 c17=>k<|jpc 3 rfl<|jso .s 0 rfl rfl rfl<|joe<|
  jbn<|jln (gv (fun _ k=>k p16 c16 p17 c17) [0,1,2,3] (gq [0,1,7,8,9,10,11,12])))<|jxe<|jte<|jle<|jbh<|jnn (gv (fun _ k=>k p11 c11 p12 c12) [0,901,902,3] (gq [0,1])))<|fun s1 _ k p9 c9 p10 c10=>k<|jsr<|jla 0 6 rfl rfl rfl<|
  jso .s 3 rfl rfl rfl<|jpc 1 rfl<|jot<|jxr<|jrg' rfl (lC 3 (.agg #[vi s1.1, sv p9 s1.2.1 c9, vi s1.2.2.1, vi s1.2.2.2.1, vi s1.2.2.2.2.1, sv p10 s1.2.2.2.2.2 c10]) rfl rfl (lT rfl lN)) (fun _ k=>k p9 c9 p10 c10) [] (gq [0,1])

theorem c_ref30_Record {qd : Prop} {y0 : T_Dialogue} : Con qd Tryz.prog 19 [.agg #[vi y0.1.1, sv p1 y0.1.2 c1, vi y0.2.1, vi y0.2.2.1.1, vi y0.2.2.1.2, sv p2 y0.2.2.2 c2]] [] [Rl e_Pair p1 c1 y0.1.2, Rl e_Move p2 c2 y0.2.2.2] (m_ref30_Record y0) fun r K=>∀ p3 c3 p4 c4,K (.agg #[vi r.1.1, sv p3 r.1.2 c3, vi r.2.1, vi r.2.2.1.1, vi r.2.2.1.2, sv p4 r.2.2.2 c4]) [] [Rl e_Pair p3 c3 r.1.2, Rl e_Move p4 c4 r.2.2.2] :=
 ent3 Tryz.call19 Tryz.func19 rfl fun X=>jsr<|jbx .s rfl<|fun b1=>jal .s (.agg #[vi 0, .slice none 0 0, vi 0, vi 0, vi 0, .slice none 0 0])<|fun b2=>jot<|jsr<|jfa 0 rfl<|jla 0 2 rfl rfl rfl<|jfa 2 rfl<|jlo 0 rfl rfl rfl<|jfa 3 rfl<|jla 0 2 rfl rfl rfl<|jfa 5 rfl<|
  jlo 0 rfl rfl rfl<|jpe (.agg #[vi y0.1.1, sv p1 y0.1.2 c1, vi y0.2.1, vi y0.2.2.1.1, vi y0.2.2.1.2, sv p2 y0.2.2.2 c2])<|jso .s 1 rfl rfl rfl<|jot<|jxr<|
  jrg' rfl (lC 1 (.agg #[vi y0.1.1, sv p1 y0.1.2 c1, vi y0.2.1, vi y0.2.2.1.1, vi y0.2.2.1.2, sv p2 y0.2.2.2 c2]) rfl rfl lN) (fun _ k=>k p1 c1 p2 c2) [] (gq [0,1])

theorem c_protocol_attacks {qd : Prop} {y0 : List T_Move} {y1 : Int} : Con qd Tryz.prog 90 [sv p1 y0 c1, vi y1] [] [Rl e_Move p1 c1 y0] (m_protocol_attacks y0 y1) fun r K=>K (vb r) [] [] :=
 ent3 Tryz.call90 Tryz.func90 rfl fun X=>jA 1 rfl<|jjn (fun s1 K=>K [(4, vb s1)] [] []) (jrg<|jpc 2 rfl<|jix 0 rfl rfl rfl<|fun x1 b1 o1=>jfa 1 rfl<|jld false oI (gf (gs (gk 0))) rfl<|jpc 2 rfl<|jsg 11 rfl (jpc 2 rfl<|jix 1 rfl rfl rfl<|fun x2 b2 o2=>jfa 3 rfl<|
  jld false oI (gs (gs (gs (gk 0)))) rfl<|jpc 1 rfl<|jpe (vb (decide (0 ≤ x2.2.2.2)))<|jpc 1 rfl<|jsg 19 rfl (jpc 2 rfl<|jix 2 rfl rfl rfl<|fun x3 b3 o3=>jfa 3 rfl<|jld false oI (gs (gs (gs (gk 0)))) rfl<|jpc 2 rfl<|
  jpe (vb (decide (x3.2.2.2 < y1)))<|jpc 1 rfl<|joe<|jnn (gv (fun _ k=>k) [] ⟨⟩))<|jpc 7 rfl<|jpe (vb false)<|jpc 1 rfl<|joe<|jnn (gv (fun _ k=>k) [] ⟨⟩))<|jpc 6 rfl<|jpe (vb false)<|jpc 8 rfl<|jpe (vb false)<|jpc 1 rfl<|joe<|
  jnn (gv (fun _ k=>k) [] ⟨⟩))<|fun s1 _ k=>k<|jxr<|jr1 rfl rfl (fun _ k=>k) [] ⟨⟩

theorem c_protocol_Status {qd : Prop} {y0 : T_Dialogue} : Con qd Tryz.prog 75 [.agg #[vi y0.1.1, sv p1 y0.1.2 c1, vi y0.2.1, vi y0.2.2.1.1, vi y0.2.2.1.2, sv p2 y0.2.2.2 c2]] [] [Rl e_Pair p1 c1 y0.1.2, Rl e_Move p2 c2 y0.2.2.2] (m_protocol_Status y0) fun r K=>∀ p3 c3,K (sv p3 r c3) [] [Rl (eInt .i64) p3 c3 r] :=
 ent3 Tryz.call75 Tryz.func75 rfl fun X=>jsr<|jbx .s rfl<|fun b1=>jpc 1 rfl<|jot<|jsr<|jfa 5 rfl<|jlo 0 rfl rfl rfl<|jpc 1 rfl<|jmk .s (e := eInt .i64) 3 (0 : Int) (vi 0) vI rfl rfl<|fun x1 r_1 p3 c3=>jpc 1 rfl<|jot<|jsr<|jfa 5 rfl<|jlo 0 rfl rfl rfl<|jpc 1 rfl<|
  jmk .s (e := eBool) 4 (false : Bool) (vb false) vB rfl rfl<|fun x2 r_2 p4 c4=>jpc 1 rfl<|jot<|jjnK (fun s1 K=>∀ r_3,K [1,3] [(2, r_3)] [1,2,3] [(4, .slice p4 (List.length x2) c4)] [Ar eBool 4 r_3 p4 c4 (List.length x2) s1]) (jsr<|
  jfa 5 rfl<|jlo 0 rfl rfl rfl<|jpc 2 rfl<|jot<|jbk<|
  jlpK (fun s2 K=>∀ r_4,K [1,3,18,19] [(2, r_4)] [1,3,2] [(4, .slice p4 (List.length x2) c4), (20, vi s2.2)] [Ar eBool 4 r_4 p4 c4 (List.length x2) s2.1]) (gv (fun _ k=>k r_2) [0,1,2] (gq [0,1,3,2]))<|fun s2 _ k r_4=>k<|jA 1 rfl<|jsq<|
  jif rfl (jC<|jsq<|jbk<|jsr<|jix 2 rfl rfl rfl<|fun x3 b2 o1=>jld true o_Move (gk 0) rfl<|jal .s (.agg #[vi 0, vi 0, vi 0, vi 0])<|fun b3=>jso .s 3 rfl rfl rfl<|jot<|
  jjpK (fun K=>K [1,3,4,6,18,19,20] [] [2,1,3,4] [(38, vb ((x3.2.1 == 3) && ((decide (0 ≤ x3.2.2.2)) && (decide (x3.2.2.2 < (len x2))))))] []) (jrg<|jfa 1 rfl<|jlo 3 rfl rfl rfl<|jpc 2 rfl<|jsp (b := x3.2.1 == 3) 27 rfl (fun hb1=>jfa 3 rfl<|
  jlo 3 rfl rfl rfl<|jpc 1 rfl<|jpe (vb (decide (0 ≤ x3.2.2.2)))<|jpc 1 rfl<|jsp (b := decide (0 ≤ x3.2.2.2)) 32 rfl (fun hb2=>jfa 3 rfl<|jlo 3 rfl rfl rfl<|jpc 3 rfl<|jpe (vb (decide (x3.2.2.2 < (len x2))))<|joe<|
  jup 38 (vb ((x3.2.1 == 3) && ((decide (0 ≤ x3.2.2.2)) && (decide (x3.2.2.2 < (len x2)))))) rfl (by rw [hb1,hb2]; rfl)<|jnn (gv (fun _ k=>k) [0,1,2,3] (gq [2,1,3,4])))<|fun hb2=>jpc 5 rfl<|jpe (vb false)<|joe<|
  jup 38 (vb ((x3.2.1 == 3) && ((decide (0 ≤ x3.2.2.2)) && (decide (x3.2.2.2 < (len x2)))))) rfl (by rw [hb1,hb2]; rfl)<|jnn (gv (fun _ k=>k) [0,1,2,3] (gq [2,1,3,4])))<|fun hb1=>jpc 3 rfl<|jpe (vb false)<|jpc 6 rfl<|jpe (vb false)<|joe<|
  jup 38 (vb ((x3.2.1 == 3) && ((decide (0 ≤ x3.2.2.2)) && (decide (x3.2.2.2 < (len x2)))))) rfl (by rw [hb1]; rfl)<|jnn (gv (fun _ k=>k) [0,1,2,3] (gq [2,1,3,4])))<|fun _ k=>k<|jif rfl (jrg<|jpc 1 rfl<|jfa 3 rfl<|jlo 3 rfl rfl rfl<|
  jia 1 rfl rfl rfl<|fun x4 h1 b4 o2 hp1=>jsA .s 2 1 sI true false rfl hp1 h1 rfl rfl vB<|fun r_5=>joe<|jbn<|jtn<|jB 2 rfl<|jln (gv (fun _ k=>k r_5) [0,1,2] (gq [0,1,3,4])))<|jsk<|jbn<|jtn<|jB 2 rfl<|
  jln (gv (fun _ k=>k r_4) [0,1,2] (gq [1,0,2,3])))<|jxe<|jte<|jle<|jbh<|jnn (gv (fun _ k=>k r_4) [0,1,2] (gq [0,1,3,2])))<|fun s1 _ k r_3=>k<|
  jjnK (fun s3 K=>∀ r_6,K [1] [(1, r_6), (2, [])] [2,3] [(3, .slice p3 (List.length x1) c3)] [Ar (eInt .i64) 3 r_6 p3 c3 (List.length x1) s3]) (jsr<|jfa 5 rfl<|jlo 0 rfl rfl rfl<|jpc 2 rfl<|jot<|jbk<|
  jlpK (fun s4 K=>∀ r_7,K [1,4,46] [(1, r_7)] [0,2,3] [(3, .slice p3 (List.length x1) c3), (47, vi s4.2)] [Ar (eInt .i64) 3 r_7 p3 c3 (List.length x1) s4.1]) (gv (fun _ k=>k r_1) [0,1,2] (gq [1,0,2,3]))<|fun s4 _ k r_7=>k<|jA 1 rfl<|jsq<|
  jif rfl (jC<|jsq<|jbk<|jA 2 rfl<|jjnK (fun s5 K=>K [1,3,4,7,46,47] [] [0,1,2,3] [(76, vb s5)] []) (jrg<|jpc 3 rfl<|jsg 52 rfl (jpc 23 rfl<|jpe (vb true)<|joe<|jnn (gv (fun _ k=>k) [0,1,2] (gq [0,1,2,3])))<|jfa 5 rfl<|jlo 0 rfl rfl rfl<|
  jpc 1 rfl<|jcl c_protocol_attacks rfl (cq [3])<|fun r1 _ k=>k<|jpc 1 rfl<|jsg 57 rfl (jpc 2 rfl<|jia 1 rfl rfl rfl<|fun x5 h2 b5 o3 hp2=>jlA 2 1 sI false oB rfl hp2 h2 rfl<|jpc 1 rfl<|jpe (vb (!x5))<|jpc 1 rfl<|jsg 64 rfl (jpc 1 rfl<|
  jfa 5 rfl<|jlo 0 rfl rfl rfl<|jpc 1 rfl<|jix 3 rfl rfl rfl<|fun x6 b6 o4=>jfa 3 rfl<|jld false oI (gs (gs (gs (gk 0)))) rfl<|jia 1 rfl rfl rfl<|fun x7 h3 b7 o5 hp3=>jlA 1 1 sI false oI rfl hp3 h3 rfl<|jpc 1 rfl<|jpe (vb (x7 != 0))<|
  jpe (vb (x7 != 0))<|joe<|jnn (gv (fun _ k=>k) [0,1,2] (gq [1,2,3,4])))<|jpc 10 rfl<|jpe (vb false)<|jpe (vb false)<|joe<|jnn (gv (fun _ k=>k) [0,1,2] (gq [0,1,2,3])))<|jpc 5 rfl<|jpe (vb false)<|jpc 11 rfl<|jpe (vb false)<|jpe (vb false)<|
  joe<|jnn (gv (fun _ k=>k) [0,1,2] (gq [0,1,2,3])))<|fun s5 _ k=>k<|jif rfl (jrg<|jpc 2 rfl<|jia 0 rfl rfl rfl<|fun x8 h4 b8 o6 hp4=>jsA .s 1 0 sI 1 false rfl hp4 h4 rfl rfl vI<|fun r_8=>joe<|jbn<|jtn<|jB 2 rfl<|
  jln (gv (fun _ k=>k r_8) [0,1,2] (gq [0,2,3,4])))<|jsk<|jbn<|jtn<|jB 2 rfl<|jln (gv (fun _ k=>k r_7) [0,1,2] (gq [0,1,2,3])))<|jxe<|jte<|jle<|jbh<|jnn (gv (fun _ k=>k r_7) [0,1,902] (gq [0,2,3])))<|fun s3 _ k r_6=>k<|jsq<|jA 4 rfl<|jbk<|
  jlpK (fun s6 K=>∀ r_9,K [1,3] [(1, r_9)] [1,2] [(8, vi s6.2)] [Ar (eInt .i64) 3 r_9 p3 c3 (List.length x1) s6.1]) (gv (fun _ k=>k r_6) [0,1,902] (gq [0,1,2]))<|fun s6 _ k r_9=>k<|jsq<|jA 2 rfl<|jif rfl (jC<|jsq<|jbk<|jsr<|jpc 2 rfl<|
  jia 0 rfl rfl rfl<|fun x9 h5 b9 o7 hp5=>jlA 1 0 sI false oI rfl hp5 h5 rfl<|jpc 1 rfl<|jot<|jif rfl (jrg<|jpc 1 rfl<|jfa 5 rfl<|jlo 0 rfl rfl rfl<|jpc 1 rfl<|jix 2 rfl rfl rfl<|fun x10 b10 o8=>jfa 3 rfl<|
  jld false oI (gs (gs (gs (gk 0)))) rfl<|jia 1 rfl rfl rfl<|fun x11 h6 b11 o9 hp6=>jsA .s 1 1 sI 2 false rfl hp6 h6 rfl rfl vI<|fun r_10=>joe<|jbn<|jtn<|jB 3 rfl<|jln (gv (fun _ k=>k r_10) [0,1,902] (gq [0,3,4])))<|jsk<|jbn<|jtn<|jB 3 rfl<|
  jln (gv (fun _ k=>k r_9) [0,1,902] (gq [0,1,2])))<|jxe<|jte<|jle<|jbh<|jtn<|jA 2 rfl<|jxr<|jsh 1 0 rfl rfl<|jre 0 2 rfl rfl<|jr1 rfl rfl (fun _ k=>k p3 c3) [] (gq [0])

theorem c_protocol_of {qd : Prop} {y0 : T_Dialogue} : Con qd Tryz.prog 52 [.agg #[vi y0.1.1, sv p1 y0.1.2 c1, vi y0.2.1, vi y0.2.2.1.1, vi y0.2.2.1.2, sv p2 y0.2.2.2 c2]] [] [Rl e_Pair p1 c1 y0.1.2, Rl e_Move p2 c2 y0.2.2.2] (m_protocol_of y0) fun r K=>∀ p3 c3 p4 c4 p5 c5 p6 c6,K (.agg #[vi r.1.1.1, sv p3 r.1.1.2 c3, vi r.1.2.1, vi r.1.2.2.1.1, vi r.1.2.2.1.2, sv p4 r.1.2.2.2 c4, sv p5 r.2.1 c5, vi r.2.2.1, sv p6 r.2.2.2 c6]) [] [Rl e_Pair p3 c3 r.1.1.2, Rl e_Move p4 c4 r.1.2.2.2, Rl (eInt .i64) p5 c5 r.2.1, Rl eBool p6 c6 r.2.2.2] :=
 ent3 Tryz.call52 Tryz.func52 rfl fun X=>jsr<|jbx .s rfl<|fun b1=>jal .s (.agg #[vi 0, .slice none 0 0, vi 0, vi 0, vi 0, .slice none 0 0, .slice none 0 0, vi 0, .slice none 0 0])<|fun b2=>jot<|
  jjnK (fun s1 K=>∀ b3 p3 c3 p4 c4 p5 c5 p6 c6 r_1,K [1,2] [(2, bx b3 106 [vi s1.1.1.1, sv p3 s1.1.1.2 c3, vi s1.1.2.1, vi s1.1.2.2.1.1, vi s1.1.2.2.1.2, sv p4 s1.1.2.2.2 c4, sv p5 s1.2.1 c5, vi s1.2.2.1, sv p6 s1.2.2.2 c6]), (3, r_1)] [0,1] [(3, pt b3 0)] [Rl e_Pair p3 c3 s1.1.1.2, Rl e_Move p4 c4 s1.1.2.2.2, Rl (eInt .i64) p5 c5 s1.2.1, Al eBool 4 r_1 p6 c6 s1.2.2.2]) (
  jdS [] [0] 10<|jda 0 0 6 rfl rfl rfl rfl<|jda 1 0 6 rfl rfl rfl rfl<|jdf 3 5 rfl rfl<|jdo 4 0 rfl rfl rfl rfl<|jdc 5 [5] rfl<|jd3 2 6 8 (jca (.f rfl) [] [] c_protocol_Status rfl rfl rfl (cq [0,1])<|fun r1 _ k p7 c7=>k<|jdn<|jd2 6 8 (
  jmk (.f rfl) (e := eBool) 4 (false : Bool) (vb false) vB rfl rfl<|fun x1 r_2 p8 c8=>jdn<|jdp 7 (.agg #[vi y0.1.1, sv p1 y0.1.2 c1, vi y0.2.1, vi y0.2.2.1.1, vi y0.2.2.1.2, sv p2 y0.2.2.2 c2, sv p7 r1 c7, vi 1, sv p8 x1 c8]) rfl<|jd1 8<|
  jal (.f rfl) (.agg #[vi 0, .slice none 0 0, vi 0, vi 0, vi 0, .slice none 0 0, .slice none 0 0, vi 0, .slice none 0 0])<|fun b4=>jdn<|jd1 9<|jso (o := 0) (.f rfl) 3 rfl rfl rfl<|jdn<|jde<|
  jnn (gv (fun _ k=>k b4 p1 c1 p2 c2 p7 c7 p8 c8 r_2) [0,1,3,2] (gq [2,3,1,0,2,3]))) <|jal (.f rfl) (.agg #[vi 0, .slice none 0 0, vi 0, vi 0, vi 0, .slice none 0 0, .slice none 0 0, vi 0, .slice none 0 0])<|fun b5=>jdn<|jd1 6<|
  jmk (.f rfl) (e := eBool) 4 (false : Bool) (vb false) vB rfl rfl<|fun x2 r_3 p9 c9=>jdn<|jdp 7 (.agg #[vi y0.1.1, sv p1 y0.1.2 c1, vi y0.2.1, vi y0.2.2.1.1, vi y0.2.2.1.2, sv p2 y0.2.2.2 c2, sv p7 r1 c7, vi 1, sv p9 x2 c9]) rfl<|jd1 9<|
  jso (o := 0) (.f rfl) 2 rfl rfl rfl<|jdn<|jde<|jnn (gv (fun _ k=>k b5 p1 c1 p2 c2 p7 c7 p9 c9 r_3) [0,1,2,3] (gq [2,3,1,0,2,3]))) (jcm<|jmk (.f rfl) (e := eBool) 4 (false : Bool) (vb false) vB rfl rfl<|fun x3 r_4 p10 c10=>jdn<|jd2 2 8 (
  jca (.f rfl) [] [] c_protocol_Status rfl rfl rfl (cq [1,2])<|fun r2 _ k p11 c11=>k<|jdn<|jdp 7 (.agg #[vi y0.1.1, sv p1 y0.1.2 c1, vi y0.2.1, vi y0.2.2.1.1, vi y0.2.2.1.2, sv p2 y0.2.2.2 c2, sv p11 r2 c11, vi 1, sv p10 x3 c10]) rfl<|jd1 8<|
  jal (.f rfl) (.agg #[vi 0, .slice none 0 0, vi 0, vi 0, vi 0, .slice none 0 0, .slice none 0 0, vi 0, .slice none 0 0])<|fun b6=>jdn<|jd1 9<|jso (o := 0) (.f rfl) 3 rfl rfl rfl<|jdn<|jde<|
  jnn (gv (fun _ k=>k b6 p1 c1 p2 c2 p11 c11 p10 c10 r_4) [0,1,3,2] (gq [2,3,0,1,2,3]))) <|jal (.f rfl) (.agg #[vi 0, .slice none 0 0, vi 0, vi 0, vi 0, .slice none 0 0, .slice none 0 0, vi 0, .slice none 0 0])<|fun b7=>jdn<|jd1 2<|
  jca (.f rfl) [] [] c_protocol_Status rfl rfl rfl (cq [1,2])<|fun r3 _ k p12 c12=>k<|jdn<|jdp 7 (.agg #[vi y0.1.1, sv p1 y0.1.2 c1, vi y0.2.1, vi y0.2.2.1.1, vi y0.2.2.1.2, sv p2 y0.2.2.2 c2, sv p12 r3 c12, vi 1, sv p10 x3 c10]) rfl<|jd1 9<|
  jso (o := 0) (.f rfl) 3 rfl rfl rfl<|jdn<|jde<|jnn (gv (fun _ k=>k b7 p1 c1 p2 c2 p12 c12 p10 c10 r_4) [0,1,3,2] (gq [2,3,0,1,2,3]))) <|
  jal (.f rfl) (.agg #[vi 0, .slice none 0 0, vi 0, vi 0, vi 0, .slice none 0 0, .slice none 0 0, vi 0, .slice none 0 0])<|fun b8=>jdn<|jd2 2 6 (jca (.f rfl) [] [] c_protocol_Status rfl rfl rfl (cq [0,1])<|fun r4 _ k p13 c13=>k<|jdn<|jd1 6<|
  jmk (.f rfl) (e := eBool) 4 (false : Bool) (vb false) vB rfl rfl<|fun x4 r_5 p14 c14=>jdn<|jdp 7 (.agg #[vi y0.1.1, sv p1 y0.1.2 c1, vi y0.2.1, vi y0.2.2.1.1, vi y0.2.2.1.2, sv p2 y0.2.2.2 c2, sv p13 r4 c13, vi 1, sv p14 x4 c14]) rfl<|
  jd1 9<|jso (o := 0) (.f rfl) 2 rfl rfl rfl<|jdn<|jde<|jnn (gv (fun _ k=>k b8 p1 c1 p2 c2 p13 c13 p14 c14 r_5) [0,1,2,3] (gq [2,3,1,0,2,3]))) <|jcm<|jmk (.f rfl) (e := eBool) 4 (false : Bool) (vb false) vB rfl rfl<|fun x5 r_6 p15 c15=>jdn<|
  jd1 2<|jca (.f rfl) [] [] c_protocol_Status rfl rfl rfl (cq [1,2])<|fun r5 _ k p16 c16=>k<|jdn<|jdp 7 (.agg #[vi y0.1.1, sv p1 y0.1.2 c1, vi y0.2.1, vi y0.2.2.1.1, vi y0.2.2.1.2, sv p2 y0.2.2.2 c2, sv p16 r5 c16, vi 1, sv p15 x5 c15]) rfl<|
  jd1 9<|jso (o := 0) (.f rfl) 2 rfl rfl rfl<|jdn<|jde<|jnn (gv (fun _ k=>k b8 p1 c1 p2 c2 p16 c16 p15 c15 r_6) [0,1,2,3] (gq [2,3,0,1,2,3])))<|fun s1 _ k b3 p3 c3 p4 c4 p5 c5 p6 c6 r_1=>k<|
  jjnK (fun s2 K=>K [1,2,3] [(2, bx b3 106 [vi s1.1.1.1, sv p3 s1.1.1.2 c3, vi s1.1.2.1, vi s1.1.2.2.1.1, vi s1.1.2.2.1.2, sv p4 s1.1.2.2.2 c4, sv p5 s1.2.1 c5, vi s2, sv p6 s1.2.2.2 c6])] [4,5,0,1,2,3] [] []) (jsr<|jfa 6 rfl<|
  jlo 2 rfl rfl rfl<|jix 2 rfl rfl rfl<|fun x6 b9 o1=>jld false oI (gk 0) rfl<|jpc 1 rfl<|jot<|jif rfl (jrg<|jfa 7 rfl<|jso .s 2 rfl rfl rfl<|joe<|jnn (gv (fun _ k=>k) [0,1,2,3] (gq [5,6,1,2,3,4])))<|jsk<|
  jnn (gv (fun _ k=>k) [0,1,2,3] (gq [5,6,1,2,3,4])))<|fun s2 _ k=>k<|jsr<|jfa 8 rfl<|jlo 2 rfl rfl rfl<|jia 5 rfl rfl rfl<|fun x7 h1 b10 o2 hp1=>jsA .s 3 5 sI true false rfl hp1 h1 rfl rfl vB<|fun r_7=>jot<|
  jjnK (fun s3 K=>∀ p17 c17 r_8,K [2,3] [(0, []), (2, bx b3 106 [vi s1.1.1.1, sv p3 s1.1.1.2 c3, vi s1.1.2.1, vi s1.1.2.2.1.1, vi s1.1.2.2.1.2, sv p4 s1.1.2.2.2 c4, sv p5 s1.2.1 c5, vi s2, sv p17 s3 c17]), (3, r_8)] [3,4,5] [] [Al eBool 4 r_8 p17 c17 s3]) (
  jA 1 rfl<|jbk<|
  jbL (fun q_=>[bx b1 32 [vi y0.1.1, sv p1 y0.1.2 c1, vi y0.2.1, vi y0.2.2.1.1, vi y0.2.2.1.2, sv p2 y0.2.2.2 c2], bx b2 106 [vi 0, .slice none 0 0, vi 0, vi 0, vi 0, .slice none 0 0, .slice none 0 0, vi 0, .slice none 0 0], bx b3 106 [vi s1.1.1.1, sv p3 s1.1.1.2 c3, vi s1.1.2.1, vi s1.1.2.2.1.1, vi s1.1.2.2.1.2, sv p4 s1.1.2.2.2 c4, sv p5 s1.2.1 c5, vi s2, .slice p6 q_ c6], r_7]) (gk 0) rfl<|
  jlpK (fun s4 K=>∀ p18 c18 r_9,K [1,2,3] [(2, bx b3 106 [vi s1.1.1.1, sv p3 s1.1.1.2 c3, vi s1.1.2.1, vi s1.1.2.2.1.1, vi s1.1.2.2.1.2, sv p4 s1.1.2.2.2 c4, sv p5 s1.2.1 c5, vi s2, sv p18 s4.2 c18]), (3, r_9)] [2,3,4,5,6] [(4, vi s4.1)] [Al eBool 4 r_9 p18 c18 s4.2]) (gv (fun _ k=>k p6 c6 r_7) [0,1,2,3] (gq [0,2,3,4,5,6]))<|
  fun s4 _ k p18 c18 r_9=>k<|jsq<|jsr<|jpc 1 rfl<|jfa 5 rfl<|jlo 0 rfl rfl rfl<|jpc 2 rfl<|jot<|jif rfl (jC<|jsq<|jbk<|jsq<|jjnK (fun s5 K=>K [1,2,3,4] [] [1,2,3,4,5,0] [(47, vb s5)] []) (jdS [] [0, 2, 3] 19<|jdf 0 6 rfl rfl<|
  jdo 1 2 rfl rfl rfl rfl<|jdc 16 [2] rfl<|jdi 3 5 rfl rfl rfl rfl<|fun x8 b11 o3=>jdl 4 false oI rfl (gk 0) rfl<|jdc 12 [5,6] rfl<|jsg 35 rfl (jdc 1 [7,8,9,10,11,12,13,14,15,16,17] rfl<|jdp 18 (vb true) rfl<|jde<|
  jnn (gv (fun _ k=>k) [0,1,2,3] (gq [2,3,4,5,6,1])))<|jdf 7 8 rfl rfl<|jdo 8 2 rfl rfl rfl rfl<|jdf 9 5 rfl rfl<|jdo 10 0 rfl rfl rfl rfl<|jdc 7 [11] rfl<|jdi 12 3 rfl rfl rfl rfl<|fun x9 b12 o4=>jdf 13 3 rfl rfl<|
  jdl 14 false oI rfl (gs (gs (gs (gk 0)))) rfl<|jdI 15 2 rfl rfl rfl rfl<|fun x10 h2 b13 o5 hp2=>jdL 16 3 2 sI false oB rfl rfl hp2 h2 rfl<|jdc 1 [17] rfl<|jdp 18 (vb (!x10)) rfl<|jde<|jnn (gv (fun _ k=>k) [0,1,2,3] (gq [3,4,5,6,7,2])))<|
  fun s5 _ k=>k<|jif rfl (jxe<|jte<|jbh<|jtn<|jB 3 rfl<|jln (gv (fun _ k=>k p18 c18 r_9) [0,1,2,3] (gq [5,0,1,2,3,4])))<|jC<|
  jjcK (fun s6 K=>∀ p19 c19 r_10,K [1,2,3,4] [(2, bx b3 106 [vi s1.1.1.1, sv p3 s1.1.1.2 c3, vi s1.1.2.1, vi s1.1.2.2.1.1, vi s1.1.2.2.1.2, sv p4 s1.1.2.2.2 c4, sv p5 s1.2.1 c5, vi s2, sv p19 s6 c19]), (3, r_10)] [0,1,2,3,4] [] [Al eBool 4 r_10 p19 c19 s6]) (
  jdS [] [0, 2] 27<|jdf 0 8 rfl rfl<|jdo 1 2 rfl rfl rfl rfl<|jdc 24 [2] rfl<|jdf 3 5 rfl rfl<|jdo 4 0 rfl rfl rfl rfl<|jdf 5 5 rfl rfl<|jdo 6 0 rfl rfl rfl rfl<|jdc 19 [7] rfl<|jdi 8 1 rfl rfl rfl rfl<|fun x11 b14 o6=>jdf 9 3 rfl rfl<|
  jdl 10 false oI rfl (gs (gs (gs (gk 0)))) rfl<|jdi 11 2 rfl rfl rfl rfl<|fun x12 b15 o7=>jdf 12 0 rfl rfl<|jdl 13 false oI rfl (gf (gk 0)) rfl<|jdf 14 7 rfl rfl<|jdo 15 2 rfl rfl rfl rfl<|jdc 9 [16,17] rfl<|jsg 65 rfl (
  jdc 3 [18,19,20,21,22,23] rfl<|jdp 24 (vb true) rfl<|jdI 25 7 rfl rfl rfl rfl<|fun x13 h3 b16 o8 hp3=>jd1 26<|jsA (.f rfl) 3 7 sI true false rfl hp3 h3 rfl rfl vB<|fun r_11=>jdn<|jde<|
  jbL (fun q_=>[bx b1 32 [vi y0.1.1, sv p1 y0.1.2 c1, vi y0.2.1, vi y0.2.2.1.1, vi y0.2.2.1.2, sv p2 y0.2.2.2 c2], bx b2 106 [vi 0, .slice none 0 0, vi 0, vi 0, vi 0, .slice none 0 0, .slice none 0 0, vi 0, .slice none 0 0], bx b3 106 [vi s1.1.1.1, sv p3 s1.1.1.2 c3, vi s1.1.2.1, vi s1.1.2.2.1.1, vi s1.1.2.2.1.2, sv p4 s1.1.2.2.2 c4, sv p5 s1.2.1 c5, vi s2, .slice p18 q_ c18], r_11]) (gk 0) rfl<|
  jnn (gv (fun _ k=>k p18 c18 r_11) [0,1,2,3] (gq [0,4,5,6,7,8])))<|jdf 18 6 rfl rfl<|jdo 19 2 rfl rfl rfl rfl<|jdc 6 [20] rfl<|jdi 21 6 rfl rfl rfl rfl<|fun x14 b17 o9=>jdl 22 false oI rfl (gk 0) rfl<|jdc 3 [23] rfl<|
  jdp 24 (vb (x14 == 1)) rfl<|jdI 25 8 rfl rfl rfl rfl<|fun x15 h4 b18 o10 hp4=>jd1 26<|jsA (.f rfl) 3 8 sI (x14 == 1) false rfl hp4 h4 rfl rfl vB<|fun r_12=>jdn<|jde<|
  jbL (fun q_=>[bx b1 32 [vi y0.1.1, sv p1 y0.1.2 c1, vi y0.2.1, vi y0.2.2.1.1, vi y0.2.2.1.2, sv p2 y0.2.2.2 c2], bx b2 106 [vi 0, .slice none 0 0, vi 0, vi 0, vi 0, .slice none 0 0, .slice none 0 0, vi 0, .slice none 0 0], bx b3 106 [vi s1.1.1.1, sv p3 s1.1.1.2 c3, vi s1.1.2.1, vi s1.1.2.2.1.1, vi s1.1.2.2.1.2, sv p4 s1.1.2.2.2 c4, sv p5 s1.2.1 c5, vi s2, .slice p18 q_ c18], r_12]) (gk 0) rfl<|
  jnn (gv (fun _ k=>k p18 c18 r_12) [0,1,2,3] (gq [0,5,6,7,8,9])))<|fun s6 _ k p19 c19 r_10=>k<|jbn<|jtn<|jB 3 rfl<|jln (gv (fun _ k=>k p19 c19 r_10) [0,1,2,3] (gq [0,1,2,3,4,5])))<|jxe<|jte<|jle<|jbh<|
  jnn (gv (fun _ k=>k p18 c18 r_9) [900,1,2,3] (gq [0,3,4,5])))<|fun s3 _ k p17 c17 r_8=>k<|jsr<|jla 2 9 rfl rfl rfl<|jso .s 1 rfl rfl rfl<|jot<|jxr<|jsh 3 0 rfl rfl<|
  jrg' rfl (lC 1 (.agg #[vi s1.1.1.1, sv p3 s1.1.1.2 c3, vi s1.1.2.1, vi s1.1.2.2.1.1, vi s1.1.2.2.1.2, sv p4 s1.1.2.2.2 c4, sv p5 s1.2.1 c5, vi s2, sv p17 s3 c17]) rfl rfl lN) (fun _ k=>k p3 c3 p4 c4 p5 c5 p17 c17) [] (gq [2,3,4,0])

theorem c_protocol_other {qd : Prop} {y0 : Int} : Con qd Tryz.prog 76 [vi y0] [] [] (m_protocol_other y0) fun r K=>K (vi r) [] [] :=
 ent3 Tryz.call76 Tryz.func76 rfl fun X=>jA 1 rfl<|jA 3 rfl<|jxr<|jr1 rfl rfl (fun _ k=>k) [] ⟨⟩

theorem c_protocol_table_moved {qd : Prop} {y0 : T_protocol_table} {y1 : Int} {y2 : Int} : Con qd Tryz.prog 91 [.agg #[vi y0.1.1.1, sv p1 y0.1.1.2 c1, vi y0.1.2.1, vi y0.1.2.2.1.1, vi y0.1.2.2.1.2, sv p2 y0.1.2.2.2 c2, sv p3 y0.2.1 c3, vi y0.2.2.1, sv p4 y0.2.2.2 c4], vi y1, vi y2] [] [Rl e_Pair p1 c1 y0.1.1.2, Rl e_Move p2 c2 y0.1.2.2.2, Rl (eInt .i64) p3 c3 y0.2.1, Rl eBool p4 c4 y0.2.2.2] (m_protocol_table_moved y0 y1 y2) fun r K=>K (vb r) [] [] :=
 ent3 Tryz.call91 Tryz.func91 rfl fun X=>jsr<|jbx .s rfl<|fun b1=>jpc 1 rfl<|jot<|jbk<|jlpK (fun s1 K=>K [2,3] [] [0,1,2,3] [(1, vi s1)] []) (gv (fun _ k=>k) [0] (gq [0,1,2,3]))<|fun s1 _ k=>k<|jbk<|jsr<|jfa 0 rfl<|jfa 5 rfl<|jlo 0 rfl rfl rfl<|jpc 1 rfl<|jix 1 rfl rfl rfl<|
  fun x1 b2 o1=>jld true o_Move (gk 0) rfl<|jal .s (.agg #[vi 0, vi 0, vi 0, vi 0])<|fun b3=>jso .s 1 rfl rfl rfl<|jot<|jsq<|jjpK (fun K=>K [1,2,3,7] [] [1,2,3,4] [(22, vb ((x1.1 == 1) && (x1.2.2.1 == y2)))] []) (jrg<|jfa 0 rfl<|
  jlo 1 rfl rfl rfl<|jpc 2 rfl<|jsp (b := x1.1 == 1) 17 rfl (fun hb1=>jfa 2 rfl<|jlo 1 rfl rfl rfl<|jpc 2 rfl<|jpe (vb (x1.2.2.1 == y2))<|joe<|jup 22 (vb ((x1.1 == 1) && (x1.2.2.1 == y2))) rfl (by rw [hb1]; rfl)<|
  jnn (gv (fun _ k=>k) [0,1] (gq [1,2,3,4])))<|fun hb1=>jpc 4 rfl<|jpe (vb false)<|joe<|jup 22 (vb ((x1.1 == 1) && (x1.2.2.1 == y2))) rfl (by rw [hb1]; rfl)<|jnn (gv (fun _ k=>k) [0,1] (gq [1,2,3,4])))<|fun _ k=>k<|jif rfl (jA 1 rfl<|jxr<|
  jtr<|jbr<|jlr<|jbr<|jr1 rfl rfl (fun _ k=>k) [] ⟨⟩)<|jC<|jsq<|jA 2 rfl<|jif rfl (jA 1 rfl<|jxr<|jtr<|jbr<|jlr<|jbr<|jr1 rfl rfl (fun _ k=>k) [] ⟨⟩)<|jC<|jrg<|jfa 3 rfl<|jlo 1 rfl rfl rfl<|jpc 1 rfl<|joe<|jbn<|
  jln (gv (fun _ k=>k) [0] (gq [0,1,2,3]))

theorem c_slices_Index_Move {qd : Prop} {y0 : List T_Move} {y1 : T_Move} : Con qd Tryz.prog 100 [sv p1 y0 c1, .agg #[vi y1.1, vi y1.2.1, vi y1.2.2.1, vi y1.2.2.2]] [] [Rl e_Move p1 c1 y0] (m_slices_Index_Move y0 y1) fun r K=>K (vi r) [] [] :=
 ent3 Tryz.call100 Tryz.func100 rfl fun X=>jsr<|jbx .s rfl<|fun b1=>jpc 1 rfl<|jot<|jsq<|jA 3 rfl<|jbk<|jlpK (fun s1 K=>K [0,3,7] [] [0] [(8, vi s1)] []) (gv (fun _ k=>k) [0] (gq [0]))<|fun s1 _ k=>k<|jA 1 rfl<|jsq<|jif rfl (jC<|jsq<|jbk<|jA 2 rfl<|jds [] [0] 6<|
  jda 0 0 4 rfl rfl rfl rfl<|jdc 3 [1,2] rfl<|jdi 3 0 rfl rfl rfl rfl<|fun x1 b2 o1=>jdl 4 true o_Move rfl (gk 0) rfl<|jdp 5 (vb (y1 == x1)) rfl<|jde<|jtn<|jif rfl (jA 2 rfl<|jxr<|jbr<|jtr<|jlr<|jbr<|jtr<|jr1 rfl rfl (fun _ k=>k) [] ⟨⟩)<|
  jsk<|jbn<|jtn<|jB 2 rfl<|jln (gv (fun _ k=>k) [0] (gq [1])))<|jxe<|jte<|jle<|jbh<|jtn<|jA 1 rfl<|jxr<|jr1 rfl rfl (fun _ k=>k) [] ⟨⟩

theorem c_slices_Contains_Move {qd : Prop} {y0 : List T_Move} {y1 : T_Move} : Con qd Tryz.prog 89 [sv p1 y0 c1, .agg #[vi y1.1, vi y1.2.1, vi y1.2.2.1, vi y1.2.2.2]] [] [Rl e_Move p1 c1 y0] (m_slices_Contains_Move y0 y1) fun r K=>K (vb r) [] [] :=
 ent3 Tryz.call89 Tryz.func89 rfl fun X=>jsr<|jbx .s rfl<|fun b1=>jpc 1 rfl<|jot<|jsr<|jpc 1 rfl<|jla 0 4 rfl rfl rfl<|jcl c_slices_Index_Move rfl (cq [0])<|fun r1 _ k=>k<|jpc 2 rfl<|jot<|jxr<|jr1 rfl rfl (fun _ k=>k) [] ⟨⟩

theorem c_protocol_table_legal {qd : Prop} {y0 : T_protocol_table} : Con qd Tryz.prog 77 [.agg #[vi y0.1.1.1, sv p1 y0.1.1.2 c1, vi y0.1.2.1, vi y0.1.2.2.1.1, vi y0.1.2.2.1.2, sv p2 y0.1.2.2.2 c2, sv p3 y0.2.1 c3, vi y0.2.2.1, sv p4 y0.2.2.2 c4]] [] [Rl e_Pair p1 c1 y0.1.1.2, Rl e_Move p2 c2 y0.1.2.2.2, Rl (eInt .i64) p3 c3 y0.2.1, Rl eBool p4 c4 y0.2.2.2] (m_protocol_table_legal y0) fun r K=>∀ p5 c5,K (sv p5 r c5) [] [Rl e_Move p5 c5 r] :=
 ent3 Tryz.call77 Tryz.func77 rfl fun X=>jsr<|jbx .s rfl<|fun b1=>jpc 1 rfl<|jot<|jsr<|jfa 7 rfl<|jlo 0 rfl rfl rfl<|jcl c_protocol_other rfl ⟨⟩<|fun r1 _ k=>k<|jpc 1 rfl<|jot<|jsr<|jpc 1 rfl<|jro e_Move 42<|jot<|jsq<|jsr<|jfa 0 rfl<|jfa 5 rfl<|jlo 0 rfl rfl rfl<|jpc 2 rfl<|jot<|
  jbk<|jlpK (fun s1 K=>∀ p5 c5 r_1,K [1,3,15,16] [(1, r_1)] [2,1,3,4] [(4, sv p5 s1.1 c5), (17, vi s1.2)] [Al e_Move 42 r_1 p5 c5 s1.1]) (gv (fun _ k=>k none 0 []) [0,1] (gq [0,2,1,3,4]))<|fun s1 _ k p5 c5 r_1=>k<|jA 1 rfl<|jsq<|jif rfl (jC<|
  jsq<|jbk<|jsr<|jpc 1 rfl<|jix 1 rfl rfl rfl<|fun x1 b2 o1=>jld true o_Move (gk 0) rfl<|jal .s (.agg #[vi 0, vi 0, vi 0, vi 0])<|fun b3=>jpc 1 rfl<|jso .s 2 rfl rfl rfl<|jot<|jsq<|
  jjnK (fun s2 K=>K [1,3,4,5,6,15,16,17] [] [1,2,3,4,5] [(34, vb s2)] []) (jrg<|jfa 8 rfl<|jlo 0 rfl rfl rfl<|jpc 1 rfl<|jix 5 rfl rfl rfl<|fun x2 b4 o2=>jld false oB (gk 0) rfl<|jpc 2 rfl<|jsg 28 rfl (jpc 5 rfl<|jpe (vb true)<|joe<|
  jnn (gv (fun _ k=>k) [0,1,2] (gq [2,3,4,5,6])))<|jfa 0 rfl<|jlo 2 rfl rfl rfl<|jfa 7 rfl<|jlo 0 rfl rfl rfl<|jpc 1 rfl<|jpe (vb (x1.1 != y0.2.2.1))<|joe<|jnn (gv (fun _ k=>k) [0,1,2] (gq [2,3,4,5,6])))<|fun s2 _ k=>k<|jif rfl (jxe<|jte<|
  jbh<|jtn<|jB 2 rfl<|jln (gv (fun _ k=>k p5 c5 r_1) [0,1] (gq [0,1,2,3,4])))<|jC<|jsr<|jfa 0 rfl<|jfa 0 rfl<|jfa 1 rfl<|jlo 0 rfl rfl rfl<|jpc 2 rfl<|jot<|jbk<|
  jlpK (fun s3 K=>∀ p6 c6 r_2,K [1,3,5,6,15,16,17,38,39] [(1, r_2)] [1,2,3,4] [(4, sv p6 s3.1 c6), (40, vi s3.2)] [Al e_Move 42 r_2 p6 c6 s3.1]) (gv (fun _ k=>k p5 c5 r_1) [0,1,2] (gq [0,1,2,3,4]))<|fun s3 _ k p6 c6 r_2=>k<|jA 1 rfl<|jsq<|
  jif rfl (jC<|jsq<|jbk<|jsr<|jix 2 rfl rfl rfl<|fun x3 b5 o3=>jld true o_Pair (gk 0) rfl<|jal .s (.agg #[vi 0, vi 0])<|fun b6=>jso .s 3 rfl rfl rfl<|jot<|jsr<|jpc 1 rfl<|jfa 0 rfl<|jlo 3 rfl rfl rfl<|jpc 1 rfl<|
  jpe (.agg #[vi r1, vi 2, vi x3.1, vi s1.2])<|jal .s (.agg #[vi 0, vi 0, vi 0, vi 0])<|fun b7=>jso .s 4 rfl rfl rfl<|jot<|jsq<|jjnK (fun s4 K=>K [1,3,4,5,6,9,15,16,17,38,39,40] [(3, [])] [1,2,3,4,5] [(71, vb s4)] []) (jrg<|jfa 1 rfl<|
  jlo 3 rfl rfl rfl<|jfa 2 rfl<|jlo 2 rfl rfl rfl<|jpc 2 rfl<|jsg 54 rfl (jpc 5 rfl<|jpe (vb true)<|jpc 10 rfl<|jpe (vb true)<|joe<|jnn (gv (fun _ k=>k) [0,1,2,903,4] (gq [1,2,3,4,5])))<|jfa 0 rfl<|jfa 5 rfl<|jlo 0 rfl rfl rfl<|
  jla 4 4 rfl rfl rfl<|jcl c_slices_Contains_Move rfl (cq [2])<|fun r2 _ k=>k<|jpe (vb r2)<|jpc 1 rfl<|jsg 61 rfl (jpc 9 rfl<|jpe (vb true)<|joe<|jnn (gv (fun _ k=>k) [0,1,2,903,4] (gq [1,2,3,4,5])))<|jpc 3 rfl<|jsg 64 rfl (
  jla 0 9 rfl rfl rfl<|jpc 1 rfl<|jfa 0 rfl<|jlo 3 rfl rfl rfl<|jcl c_protocol_table_moved rfl (cq [3,2,4,5])<|fun r3 _ k=>k<|jpe (vb r3)<|jpe (vb r3)<|joe<|jnn (gv (fun _ k=>k) [0,1,2,903,4] (gq [1,2,3,4,5])))<|jpc 5 rfl<|jpe (vb false)<|
  jpe (vb false)<|joe<|jnn (gv (fun _ k=>k) [0,1,2,903,4] (gq [1,2,3,4,5])))<|fun s4 _ k=>k<|jif rfl (jxe<|jte<|jbh<|jtn<|jB 2 rfl<|jln (gv (fun _ k=>k p6 c6 r_2) [0,1,2] (gq [0,1,2,3,4])))<|jC<|jrg<|jpc 1 rfl<|jla 4 4 rfl rfl rfl<|
  jbs .s (e := e_Move) 42 [vi r1, vi 2, vi x3.1, vi s1.2] ([(r1, 2, x3.1, s1.2)] : List T_Move) (rC (vP vI (vP vI (vP vI vI))) rN)<|fun p7 c7=>jar .s 1 1 rfl (gk 0) rfl rfl<|fun x4 r_3 p8 c8=>jpc 1 rfl<|joe<|jbn<|jtn<|jB 2 rfl<|
  jln (gv (fun _ k=>k p8 c8 r_3) [0,1,2] (gq [0,3,4,5,6])))<|jxe<|jte<|jle<|jbh<|jbn<|jtn<|jB 2 rfl<|jln (gv (fun _ k=>k p6 c6 r_2) [0,1] (gq [0,1,2,3,4])))<|jxe<|jte<|jle<|jbh<|jtn<|jA 2 rfl<|jxr<|jsh 1 0 rfl rfl<|
  jr1 rfl rfl (fun _ k=>k p5 c5) [] (gq [0])

theorem c_protocol_table_end {qd : Prop} {y0 : T_protocol_table} : Con qd Tryz.prog 53 [.agg #[vi y0.1.1.1, sv p1 y0.1.1.2 c1, vi y0.1.2.1, vi y0.1.2.2.1.1, vi y0.1.2.2.1.2, sv p2 y0.1.2.2.2 c2, sv p3 y0.2.1 c3, vi y0.2.2.1, sv p4 y0.2.2.2 c4]] [] [Rl e_Pair p1 c1 y0.1.1.2, Rl e_Move p2 c2 y0.1.2.2.2, Rl (eInt .i64) p3 c3 y0.2.1, Rl eBool p4 c4 y0.2.2.2] (m_protocol_table_end y0) fun r K=>K (.agg #[vi r.1, vi r.2]) [] [] :=
 ent3 Tryz.call53 Tryz.func53 rfl fun X=>jsr<|jbx .s rfl<|fun b1=>jal .s (.agg #[vi 0, vi 0])<|fun b2=>jot<|jsr<|jfa 0 rfl<|jfa 5 rfl<|jlo 0 rfl rfl rfl<|jpc 1 rfl<|jot<|jA 1 rfl<|jjnK (fun s1 K=>K [1,2,3] [] [1,0,2,3] [(4, vi s1)] []) (jA 3 rfl<|jbk<|
  jlpK (fun s2 K=>K [1,2,3,11,12] [] [1,0,2,3] [(4, vi s2.1), (13, vi s2.2)] []) (gv (fun _ k=>k) [0,1] (gq [1,0,2,3]))<|fun s2 _ k=>k<|jA 1 rfl<|jsq<|jif rfl (jC<|jsq<|jbk<|jsr<|jix 0 rfl rfl rfl<|fun x1 b3 o1=>jld true o_Move (gk 0) rfl<|
  jal .s (.agg #[vi 0, vi 0, vi 0, vi 0])<|fun b4=>jso .s 2 rfl rfl rfl<|jot<|jds [] [0, 2] 6<|jdf 0 0 rfl rfl<|jdo 1 2 rfl rfl rfl rfl<|jdf 2 7 rfl rfl<|jdo 3 0 rfl rfl rfl rfl<|jd1 4<|jca (.f rfl) [] [] c_protocol_other rfl rfl rfl ⟨⟩<|
  fun r1 _ k=>k<|jdn<|jdc 0 [5] rfl<|jde<|jtn<|jif rfl (jB 3 rfl<|jbn<|jtn<|jB 2 rfl<|jln (gv (fun _ k=>k) [0,1] (gq [1,2,3,4])))<|jsk<|jbn<|jtn<|jB 2 rfl<|jln (gv (fun _ k=>k) [0,1] (gq [1,2,3,4])))<|jxe<|jte<|jle<|jbh<|
  jnn (gv (fun _ k=>k) [0,1] (gq [0,1,2,3])))<|fun s1 _ k=>k<|jsr<|jpc 4 rfl<|jix 0 rfl rfl rfl<|fun x2 b5 o2=>jld true o_Move (gk 0) rfl<|jal .s (.agg #[vi 0, vi 0, vi 0, vi 0])<|fun b6=>jso .s 2 rfl rfl rfl<|jot<|jsq<|jbk<|jsr<|jfa 1 rfl<|
  jlo 2 rfl rfl rfl<|jpc 2 rfl<|jot<|jif rfl (jsr<|jfa 0 rfl<|jlo 2 rfl rfl rfl<|jcl c_protocol_other rfl ⟨⟩<|fun r2 _ k=>k<|jpe (.agg #[vi r2, vi 3])<|jso .s 1 rfl rfl rfl<|jot<|jxr<|jbr<|jtr<|
  jrg' rfl (lC 1 (.agg #[vi r2, vi 3]) rfl rfl lN) (fun _ k=>k) [] ⟨⟩)<|jA 4 rfl<|jif rfl (jsr<|jfa 7 rfl<|jlo 0 rfl rfl rfl<|jpe (.agg #[vi y0.2.2.1, vi 4])<|jso .s 1 rfl rfl rfl<|jot<|jxr<|jbr<|jtr<|
  jrg' rfl (lC 1 (.agg #[vi y0.2.2.1, vi 4]) rfl rfl lN) (fun _ k=>k) [] ⟨⟩)<|jsr<|jpc 1 rfl<|jfa 7 rfl<|jlo 0 rfl rfl rfl<|jcl c_protocol_other rfl ⟨⟩<|fun r3 _ k=>k<|jpc 1 rfl<|jfa 0 rfl<|jfa 3 rfl<|
  jiB (l := ([y0.1.2.2.1.1, y0.1.2.2.1.2] : List Int)) rfl rfl<|fun x3 h1=>jlI 0 (.int .i64) rfl rfl rfl h1<|jpc 2 rfl<|jot<|jif rfl (jsr<|jfa 7 rfl<|jlo 0 rfl rfl rfl<|jpe (.agg #[vi y0.2.2.1, vi 2])<|jso .s 1 rfl rfl rfl<|jot<|jxr<|jbr<|
  jtr<|jrg' rfl (lC 1 (.agg #[vi y0.2.2.1, vi 2]) rfl rfl lN) (fun _ k=>k) [] ⟨⟩)<|jsr<|jla 0 9 rfl rfl rfl<|jcl c_protocol_table_legal rfl (cq [2,1,3,4])<|fun r4 _ k p5 c5=>k<|jpc 3 rfl<|jot<|jif rfl (jsr<|jfa 7 rfl<|jlo 0 rfl rfl rfl<|
  jpe (.agg #[vi y0.2.2.1, vi 1])<|jso .s 1 rfl rfl rfl<|jot<|jxr<|jbr<|jtr<|jrg' rfl (lC 1 (.agg #[vi y0.2.2.1, vi 1]) rfl rfl lN) (fun _ k=>k) [] ⟨⟩)<|jsk<|jbn<|jtn<|jsr<|jpe (.agg #[vi 0, vi 0])<|jso .s 1 rfl rfl rfl<|jot<|jxr<|
  jrg' rfl (lC 1 (.agg #[vi 0, vi 0]) rfl rfl lN) (fun _ k=>k) [] ⟨⟩

theorem c_protocol_End {qd : Prop} {y0 : T_Dialogue} : Con qd Tryz.prog 36 [.agg #[vi y0.1.1, sv p1 y0.1.2 c1, vi y0.2.1, vi y0.2.2.1.1, vi y0.2.2.1.2, sv p2 y0.2.2.2 c2]] [] [Rl e_Pair p1 c1 y0.1.2, Rl e_Move p2 c2 y0.2.2.2] (m_protocol_End y0) fun r K=>K (.agg #[vi r.1, vi r.2]) [] [] :=
 ent3 Tryz.call36 Tryz.func36 rfl fun X=>jsr<|jbx .s rfl<|fun b1=>jal .s (.agg #[vi 0, vi 0])<|fun b2=>jot<|jsq<|jsr<|jfa 5 rfl<|jlo 0 rfl rfl rfl<|jpc 2 rfl<|jot<|jif rfl (jsr<|jpe (.agg #[vi 0, vi 0])<|jso .s 1 rfl rfl rfl<|jot<|jxr<|jtr<|
  jrg' rfl (lC 1 (.agg #[vi 0, vi 0]) rfl rfl lN) (fun _ k=>k) [] ⟨⟩)<|jC<|jsr<|jla 0 6 rfl rfl rfl<|jcl c_protocol_of rfl (cq [0,1])<|fun r1 _ k p3 c3 p4 c4 p5 c5 p6 c6=>k<|jcl c_protocol_table_end rfl (cq [0,1,2,3])<|fun r2 _ k=>k<|
  jso .s 1 rfl rfl rfl<|jot<|jxr<|jrg' rfl (lC 1 (.agg #[vi r2.1, vi r2.2]) rfl rfl lN) (fun _ k=>k) [] ⟨⟩

theorem c_protocol_Turn {qd : Prop} {y0 : T_Dialogue} : Con qd Tryz.prog 72 [.agg #[vi y0.1.1, sv p1 y0.1.2 c1, vi y0.2.1, vi y0.2.2.1.1, vi y0.2.2.1.2, sv p2 y0.2.2.2 c2]] [] [Rl e_Pair p1 c1 y0.1.2, Rl e_Move p2 c2 y0.2.2.2] (m_protocol_Turn y0) fun r K=>K (vi r) [] [] :=
 ent3 Tryz.call72 Tryz.func72 rfl fun X=>jsr<|jbx .s rfl<|fun b1=>jpc 1 rfl<|jot<|jsq<|jjnK (fun s1 K=>K [1] [] [0,1] [(12, vb s1)] []) (jrg<|jfa 5 rfl<|jlo 0 rfl rfl rfl<|jpc 3 rfl<|jsg 7 rfl (jpc 4 rfl<|jpe (vb true)<|joe<|jnn (gv (fun _ k=>k) [0] (gq [0,1])))<|
  jla 0 6 rfl rfl rfl<|jcl c_protocol_End rfl (cq [0,1])<|fun r1 _ k=>k<|jv (v := vi r1.2) (fun h=>r_field h rfl (by kernel_rfl))<|jpc 1 rfl<|jpe (vb (r1.2 != 0))<|joe<|jnn (gv (fun _ k=>k) [0] (gq [0,1])))<|fun s1 _ k=>k<|jif rfl (jA 1 rfl<|
  jxr<|jtr<|jr1 rfl rfl (fun _ k=>k) [] ⟨⟩)<|jC<|jsr<|jla 0 6 rfl rfl rfl<|jcl c_protocol_of rfl (cq [0,1])<|fun r2 _ k p3 c3 p4 c4 p5 c5 p6 c6=>k<|jv (v := vi r2.2.2.1) (fun h=>r_field h rfl (by kernel_rfl))<|jcl c_protocol_other rfl ⟨⟩<|
  fun r3 _ k=>k<|jpc 1 rfl<|jot<|jxr<|jr1 rfl rfl (fun _ k=>k) [] ⟨⟩

theorem c_protocol_table_judged {qd : Prop} {y0 : T_protocol_table} {y1 : T_Move} : Con qd Tryz.prog 73 [.agg #[vi y0.1.1.1, sv p1 y0.1.1.2 c1, vi y0.1.2.1, vi y0.1.2.2.1.1, vi y0.1.2.2.1.2, sv p2 y0.1.2.2.2 c2, sv p3 y0.2.1 c3, vi y0.2.2.1, sv p4 y0.2.2.2 c4], .agg #[vi y1.1, vi y1.2.1, vi y1.2.2.1, vi y1.2.2.2]] [] [Rl e_Pair p1 c1 y0.1.1.2, Rl e_Move p2 c2 y0.1.2.2.2, Rl (eInt .i64) p3 c3 y0.2.1, Rl eBool p4 c4 y0.2.2.2] (m_protocol_table_judged y0 y1) fun r K=>K (.tuple #[.agg #[vi r.1.1, vi r.1.2.1, vi r.1.2.2.1, vi r.1.2.2.2], vi r.2]) [] [] :=
 ent3 Tryz.call73 Tryz.func73 rfl fun X=>jsr<|jbx .s rfl<|fun b1=>jbx .s rfl<|fun b2=>jal .s (.agg #[vi 0, vi 0, vi 0, vi 0])<|fun b3=>jpc 1 rfl<|jot<|jsr<|jfa 0 rfl<|jfa 5 rfl<|jlo 0 rfl rfl rfl<|jpc 1 rfl<|jot<|jsq<|jsr<|jfa 1 rfl<|jlo 1 rfl rfl rfl<|jot<|jbk<|
  jjnK (fun s1 K=>K [2,3,4,6] [] [1,0,2,3] [(14, vb s1)] []) (jA 2 rfl<|jif rfl (jsk<|jnn (gv (fun _ k=>k) [0,1,2] (gq [1,0,2,3])))<|jA 2 rfl<|jif rfl (jsk<|jnn (gv (fun _ k=>k) [0,1,2] (gq [1,0,2,3])))<|jB 2 rfl<|
  jnn (gv (fun _ k=>k) [0,1,2] (gq [1,0,2,3])))<|fun s1 _ k=>k<|jif rfl (jsk<|jbn<|jtn<|jsq<|jds [] [0, 1] 6<|jdf 0 0 rfl rfl<|jdo 1 1 rfl rfl rfl rfl<|jdf 2 7 rfl rfl<|jdo 3 0 rfl rfl rfl rfl<|jd1 4<|
  jca (.f rfl) [] [] c_protocol_other rfl rfl rfl ⟨⟩<|fun r1 _ k=>k<|jdn<|jdc 0 [5] rfl<|jde<|jtn<|jif rfl (jsr<|jla 1 4 rfl rfl rfl<|jso .s 2 rfl rfl rfl<|jpc 1 rfl<|jot<|jxr<|jtr<|
  jrg' rfl (lC 2 (.agg #[vi y1.1, vi y1.2.1, vi y1.2.2.1, vi y1.2.2.2]) rfl rfl (lT rfl lN)) (fun _ k=>k) [] ⟨⟩)<|jC<|jsq<|jsr<|jfa 1 rfl<|jlo 1 rfl rfl rfl<|jpc 1 rfl<|jot<|jif rfl (jsr<|jfa 0 rfl<|jlo 1 rfl rfl rfl<|jfa 1 rfl<|
  jlo 1 rfl rfl rfl<|jpe (.agg #[vi y1.1, vi y1.2.1, vi 0, vi 0])<|jso .s 2 rfl rfl rfl<|jpc 1 rfl<|jot<|jxr<|jtr<|jrg' rfl (lC 2 (.agg #[vi y1.1, vi y1.2.1, vi 0, vi 0]) rfl rfl (lT rfl lN)) (fun _ k=>k) [] ⟨⟩)<|jC<|jsq<|
  jjpK (fun K=>K [2,3,4,6] [] [0,1,2,3] [(61, vb ((decide (y1.2.2.2 < 0)) || ((decide ((len y0.1.2.2.2) ≤ y1.2.2.2)) || ((y1.2.1 == 2) && ((decide (y1.2.2.1 < 0)) || (decide (y0.1.1.1 ≤ y1.2.2.1)))))))] []) (jrg<|jfa 3 rfl<|
  jlo 1 rfl rfl rfl<|jpc 2 rfl<|jsp (b := decide (y1.2.2.2 < 0)) 36 rfl (fun hb1=>jpc 5 rfl<|jpe (vb true)<|jpc 18 rfl<|jpe (vb true)<|joe<|
  jup 61 (vb ((decide (y1.2.2.2 < 0)) || ((decide ((len y0.1.2.2.2) ≤ y1.2.2.2)) || ((y1.2.1 == 2) && ((decide (y1.2.2.1 < 0)) || (decide (y0.1.1.1 ≤ y1.2.2.1))))))) rfl (by rw [hb1]; rfl)<|jnn (gv (fun _ k=>k) [0,1,2] (gq [0,1,2,3]))
  )<|fun hb1=>jfa 3 rfl<|jlo 1 rfl rfl rfl<|jpc 3 rfl<|jpe (vb (decide ((len y0.1.2.2.2) ≤ y1.2.2.2)))<|jpc 1 rfl<|jsp (b := decide ((len y0.1.2.2.2) ≤ y1.2.2.2)) 43 rfl (fun hb2=>jpc 17 rfl<|jpe (vb true)<|joe<|
  jup 61 (vb ((decide (y1.2.2.2 < 0)) || ((decide ((len y0.1.2.2.2) ≤ y1.2.2.2)) || ((y1.2.1 == 2) && ((decide (y1.2.2.1 < 0)) || (decide (y0.1.1.1 ≤ y1.2.2.1))))))) rfl (by rw [hb1,hb2]; rfl)<|jnn (gv (fun _ k=>k) [0,1,2] (gq [0,1,2,3]))
  )<|fun hb2=>jfa 1 rfl<|jlo 1 rfl rfl rfl<|jpc 2 rfl<|jsp (b := y1.2.1 == 2) 47 rfl (fun hb3=>jfa 2 rfl<|jlo 1 rfl rfl rfl<|jpc 2 rfl<|jsp (b := decide (y1.2.2.1 < 0)) 51 rfl (fun hb4=>jpc 7 rfl<|jpe (vb true)<|jpe (vb true)<|jpe (vb true)<|
  joe<|jup 61 (vb ((decide (y1.2.2.2 < 0)) || ((decide ((len y0.1.2.2.2) ≤ y1.2.2.2)) || ((y1.2.1 == 2) && ((decide (y1.2.2.1 < 0)) || (decide (y0.1.1.1 ≤ y1.2.2.1))))))) rfl (by rw [hb1,hb2,hb3,hb4]; rfl)<|
  jnn (gv (fun _ k=>k) [0,1,2] (gq [0,1,2,3])))<|fun hb4=>jfa 2 rfl<|jlo 1 rfl rfl rfl<|jfa 0 rfl<|jfa 0 rfl<|jfa 0 rfl<|jlo 0 rfl rfl rfl<|jpc 1 rfl<|jpe (vb (decide (y0.1.1.1 ≤ y1.2.2.1)))<|jpe (vb (decide (y0.1.1.1 ≤ y1.2.2.1)))<|
  jpe (vb (decide (y0.1.1.1 ≤ y1.2.2.1)))<|joe<|
  jup 61 (vb ((decide (y1.2.2.2 < 0)) || ((decide ((len y0.1.2.2.2) ≤ y1.2.2.2)) || ((y1.2.1 == 2) && ((decide (y1.2.2.1 < 0)) || (decide (y0.1.1.1 ≤ y1.2.2.1))))))) rfl (by rw [hb1,hb2,hb3,hb4]; rfl)<|
  jnn (gv (fun _ k=>k) [0,1,2] (gq [0,1,2,3])))<|fun hb3=>jpc 12 rfl<|jpe (vb false)<|jpe (vb false)<|joe<|
  jup 61 (vb ((decide (y1.2.2.2 < 0)) || ((decide ((len y0.1.2.2.2) ≤ y1.2.2.2)) || ((y1.2.1 == 2) && ((decide (y1.2.2.1 < 0)) || (decide (y0.1.1.1 ≤ y1.2.2.1))))))) rfl (by rw [hb1,hb2,hb3]; rfl)<|jnn (gv (fun _ k=>k) [0,1,2] (gq [0,1,2,3]))
  )<|fun _ k=>k<|jif rfl (jsr<|jla 1 4 rfl rfl rfl<|jso .s 2 rfl rfl rfl<|jpc 1 rfl<|jot<|jxr<|jtr<|jrg' rfl (lC 2 (.agg #[vi y1.1, vi y1.2.1, vi y1.2.2.1, vi y1.2.2.2]) rfl rfl (lT rfl lN)) (fun _ k=>k) [] ⟨⟩)<|jC<|jsq<|jsr<|jfa 1 rfl<|
  jlo 1 rfl rfl rfl<|jpc 1 rfl<|jot<|jif rfl (jsq<|jds [] [0, 1] 5<|jda 0 0 9 rfl rfl rfl rfl<|jda 2 1 4 rfl rfl rfl rfl<|jd1 1<|jca (.f rfl) [] [] c_protocol_table_legal rfl rfl rfl (cq [1,0,2,3])<|fun r2 _ k p5 c5=>k<|jdn<|jd1 3<|
  jca (.f rfl) [] [] c_slices_Contains_Move rfl rfl rfl (cq [0])<|fun r3 _ k=>k<|jdn<|jdc 0 [4] rfl<|jde<|jtn<|jif rfl (jsr<|jla 1 4 rfl rfl rfl<|jso .s 2 rfl rfl rfl<|jpc 1 rfl<|jot<|jxr<|jtr<|jtr<|
  jrg' rfl (lC 2 (.agg #[vi y1.1, vi y1.2.1, vi y1.2.2.1, vi y1.2.2.2]) rfl rfl (lT rfl lN)) (fun _ k=>k) [] ⟨⟩)<|jC<|jsr<|jla 1 4 rfl rfl rfl<|jso .s 2 rfl rfl rfl<|jpc 1 rfl<|jot<|jxr<|jtr<|
  jrg' rfl (lC 2 (.agg #[vi y1.1, vi y1.2.1, vi y1.2.2.1, vi y1.2.2.2]) rfl rfl (lT rfl lN)) (fun _ k=>k) [] ⟨⟩)<|jC<|jsq<|jsr<|jpc 1 rfl<|jfa 3 rfl<|jlo 1 rfl rfl rfl<|jix 0 rfl rfl rfl<|fun x1 b4 o1=>jld true o_Move (gk 0) rfl<|
  jal .s (.agg #[vi 0, vi 0, vi 0, vi 0])<|fun b5=>jso .s 3 rfl rfl rfl<|jot<|jjnK (fun s2 K=>K [3,4] [(0, []), (3, [])] [] [(96, vb s2)] []) (jrg<|jfa 0 rfl<|jlo 3 rfl rfl rfl<|jfa 0 rfl<|jlo 1 rfl rfl rfl<|jpc 2 rfl<|jsg 83 rfl (jpc 3 rfl<|
  jpe (vb true)<|jpc 8 rfl<|jpe (vb true)<|joe<|jnn (gv (fun _ k=>k) [900,1,2,903] ⟨⟩))<|jfa 1 rfl<|jlo 3 rfl rfl rfl<|jpc 1 rfl<|jpe (vb (x1.2.1 != 2))<|jpc 1 rfl<|jsg 88 rfl (jpc 7 rfl<|jpe (vb true)<|joe<|
  jnn (gv (fun _ k=>k) [900,1,2,903] ⟨⟩))<|jfa 6 rfl<|jlo 0 rfl rfl rfl<|jfa 3 rfl<|jlo 1 rfl rfl rfl<|jix 3 rfl rfl rfl<|fun x2 b6 o2=>jld false oI (gk 0) rfl<|jpc 1 rfl<|jpe (vb (x2 == 0))<|joe<|jnn (gv (fun _ k=>k) [900,1,2,903] ⟨⟩))<|
  fun s2 _ k=>k<|jif rfl (jsr<|jla 1 4 rfl rfl rfl<|jso .s 2 rfl rfl rfl<|jpc 1 rfl<|jot<|jxr<|jtr<|jrg' rfl (lC 2 (.agg #[vi y1.1, vi y1.2.1, vi y1.2.2.1, vi y1.2.2.2]) rfl rfl (lT rfl lN)) (fun _ k=>k) [] ⟨⟩)<|jC<|jsr<|jfa 2 rfl<|
  jso .s 1 rfl rfl rfl<|jot<|jsr<|jla 1 4 rfl rfl rfl<|jso .s 2 rfl rfl rfl<|jpc 1 rfl<|jot<|jxr<|jrg' rfl (lC 2 (.agg #[vi y1.1, vi y1.2.1, vi 0, vi y1.2.2.2]) rfl rfl (lT rfl lN)) (fun _ k=>k) [] ⟨⟩)<|jsr<|jla 1 4 rfl rfl rfl<|
  jso .s 2 rfl rfl rfl<|jpc 1 rfl<|jot<|jxr<|jbr<|jtr<|jrg' rfl (lC 2 (.agg #[vi y1.1, vi y1.2.1, vi y1.2.2.1, vi y1.2.2.2]) rfl rfl (lT rfl lN)) (fun _ k=>k) [] ⟨⟩

theorem c_slices_Clone_Move {qd : Prop} {y0 : List T_Move} : Con qd Tryz.prog 74 [sv p1 y0 c1] [] [Rl e_Move p1 c1 y0] (m_slices_Clone_Move y0) fun r K=>∀ p2 c2 r_1,K (sv p2 r c2) [r_1] [Al e_Move 42 r_1 p2 c2 r] :=
 ent3 Tryz.call74 Tryz.func74 rfl fun X=>jA 1 rfl<|jsq<|jsr<|jpc 1 rfl<|jv (fun h=>r_nil h rfl Tryz.underlying30)<|jot<|jnl (m1 := some ([] : List T_Move)) rfl (gk 0) (fun h=>by first|(rw [h];done)|(rw [h];rfl)|(simp [h,app];done)) (jA 1 rfl<|jxr<|jtr<|jro e_Move 42<|
  jrE 0 2 rfl rfl<|jr1 rfl rfl (fun _ k=>k none 0 []) [0] (gq [0]))<|jC<|jsr<|jbo .s (e := e_Move) 42 [] ([] : List T_Move) rN<|fun r_1 p2 c2=>jpc 1 rfl<|jar .s 0 0 rfl (gk 1) rfl rfl<|fun x1 r_2 p3 c3=>jpc 1 rfl<|jot<|jxr<|
  jr1 rfl rfl (fun _ k=>k p3 c3 r_2) [0] (gq [0])

theorem c_slices_Clone_Pair {qd : Prop} {y0 : List T_Pair} : Con qd Tryz.prog 71 [sv p1 y0 c1] [] [Rl e_Pair p1 c1 y0] (m_slices_Clone_Pair y0) fun r K=>∀ p2 c2,K (sv p2 r c2) [] [Rl e_Pair p2 c2 r] :=
 ent3 Tryz.call71 Tryz.func71 rfl fun X=>jA 1 rfl<|jsq<|jsr<|jpc 1 rfl<|jv (fun h=>r_nil h rfl Tryz.underlying25)<|jot<|jnl (m1 := some ([] : List T_Pair)) rfl (gk 0) (fun h=>by first|(rw [h];done)|(rw [h];rfl)|(simp [h,app];done)) (jA 1 rfl<|jxr<|jtr<|
  jr1 rfl rfl (fun _ k=>k none 0) [] ⟨gn,⟨⟩⟩)<|jC<|jsr<|jbo .s (e := e_Pair) 68 [] ([] : List T_Pair) rN<|fun r_1 p2 c2=>jpc 1 rfl<|jar .s 0 0 rfl (gk 1) rfl rfl<|fun x1 r_2 p3 c3=>jpc 1 rfl<|jot<|jxr<|jsh 0 0 rfl rfl<|
  jr1 rfl rfl (fun _ k=>k p3 c3) [] (gq [0])

theorem c_protocol_Apply {qd : Prop} {y0 : T_Dialogue} {y1 : T_Move} : Con qd Tryz.prog 51 [.agg #[vi y0.1.1, sv p1 y0.1.2 c1, vi y0.2.1, vi y0.2.2.1.1, vi y0.2.2.1.2, sv p2 y0.2.2.2 c2], .agg #[vi y1.1, vi y1.2.1, vi y1.2.2.1, vi y1.2.2.2]] [] [Rl e_Pair p1 c1 y0.1.2, Rl e_Move p2 c2 y0.2.2.2] (m_protocol_Apply y0 y1) fun r K=>∀ p3 c3 p4 c4,K (.tuple #[.agg #[vi r.1.1.1, sv p3 r.1.1.2 c3, vi r.1.2.1, vi r.1.2.2.1.1, vi r.1.2.2.1.2, sv p4 r.1.2.2.2 c4], vi r.2]) [] [Rl e_Pair p3 c3 r.1.1.2, Rl e_Move p4 c4 r.1.2.2.2] :=
 ent3 Tryz.call51 Tryz.func51 rfl fun X=>jsr<|jbx .s rfl<|fun b1=>jbx .s rfl<|fun b2=>jal .s (.agg #[vi 0, .slice none 0 0, vi 0, vi 0, vi 0, .slice none 0 0])<|fun b3=>jpc 1 rfl<|jot<|jsq<|jsr<|jla 0 6 rfl rfl rfl<|jcl c_protocol_Turn rfl (cq [0,1])<|fun r1 _ k=>k<|jpc 1 rfl<|
  jot<|jif rfl (jsr<|jpe (.agg #[vi 0, .slice none 0 0, vi 0, vi 0, vi 0, .slice none 0 0])<|jso .s 2 rfl rfl rfl<|jpc 1 rfl<|jot<|jxr<|jtr<|
  jrg' rfl (lC 2 (.agg #[vi 0, .slice none 0 0, vi 0, vi 0, vi 0, .slice none 0 0]) rfl rfl (lT rfl lN)) (fun _ k=>k none 0 none 0) [] ⟨gn,gn,⟨⟩⟩)<|jC<|
  jjnK (fun s1 K=>∀ b4,K [2,4] [(1, []), (3, bx b4 42 [vi s1.2.1, vi s1.2.2.1, vi s1.2.2.2.1, vi s1.2.2.2.2])] [0,1] [(6, pt b4 0), (7, vi s1.1)] []) (jdS [] [0, 1] 10<|jda 0 0 6 rfl rfl rfl rfl<|jda 2 1 4 rfl rfl rfl rfl<|jd2 1 7 (
  jca (.f rfl) [] [] c_protocol_of rfl rfl rfl (cq [0,1])<|fun r2 _ k p3 c3 p4 c4 p5 c5 p6 c6=>k<|jdn<|jd2 3 7 (jca (.f rfl) [] [] c_protocol_table_judged rfl rfl rfl (cq [0,1,2,3])<|fun r3 _ k=>k<|jdn<|jdc 3 [4,5,6] rfl<|jd1 7<|
  jal (.f rfl) (.agg #[vi 0, vi 0, vi 0, vi 0])<|fun b5=>jdn<|jd1 8<|jso (o := 0) (.f rfl) 3 rfl rfl rfl<|jdn<|jdc 0 [9] rfl<|jde<|jnn (gv (fun _ k=>k b5) [0,901,2,3] (gq [4,5]))) <|jal (.f rfl) (.agg #[vi 0, vi 0, vi 0, vi 0])<|fun b6=>jdn<|
  jd1 3<|jca (.f rfl) [] [] c_protocol_table_judged rfl rfl rfl (cq [0,1,2,3])<|fun r4 _ k=>k<|jdn<|jdc 2 [4,5,6] rfl<|jd1 8<|jso (o := 0) (.f rfl) 3 rfl rfl rfl<|jdn<|jdc 0 [9] rfl<|jde<|jnn (gv (fun _ k=>k b6) [0,901,2,3] (gq [4,5]))) <|
  jal (.f rfl) (.agg #[vi 0, vi 0, vi 0, vi 0])<|fun b7=>jdn<|jd1 1<|jca (.f rfl) [] [] c_protocol_of rfl rfl rfl (cq [0,1])<|fun r5 _ k p7 c7 p8 c8 p9 c9 p10 c10=>k<|jdn<|jd1 3<|
  jca (.f rfl) [] [] c_protocol_table_judged rfl rfl rfl (cq [0,1,2,3])<|fun r6 _ k=>k<|jdn<|jdc 2 [4,5,6] rfl<|jd1 8<|jso (o := 0) (.f rfl) 3 rfl rfl rfl<|jdn<|jdc 0 [9] rfl<|jde<|jnn (gv (fun _ k=>k b7) [0,901,2,3] (gq [4,5])))<|
  fun s1 _ k b4=>k<|jsq<|jA 2 rfl<|jif rfl (jsr<|jpe (.agg #[vi 0, .slice none 0 0, vi 0, vi 0, vi 0, .slice none 0 0])<|jpc 1 rfl<|jso .s 2 rfl rfl rfl<|jpc 1 rfl<|jot<|jxr<|jtr<|
  jrg' rfl (lC 2 (.agg #[vi 0, .slice none 0 0, vi 0, vi 0, vi 0, .slice none 0 0]) rfl rfl (lT rfl lN)) (fun _ k=>k none 0 none 0) [] ⟨gn,gn,⟨⟩⟩)<|jC<|jsr<|jla 0 6 rfl rfl rfl<|
  jal .s (.agg #[vi 0, .slice none 0 0, vi 0, vi 0, vi 0, .slice none 0 0])<|fun b8=>jso .s 4 rfl rfl rfl<|jot<|jsr<|jfa 0 rfl<|jfa 1 rfl<|jlo 0 rfl rfl rfl<|jcl c_slices_Clone_Pair rfl (cq [0])<|fun r7 _ k p11 c11=>k<|jfa 0 rfl<|jfa 1 rfl<|
  jso .s 4 rfl rfl rfl<|jot<|jjnK (fun s2 K=>∀ p12 c12 r_1,K [4,8] [(0, []), (3, []), (4, bx b8 32 [vi y0.1.1, sv p11 r7 c11, vi y0.2.1, vi y0.2.2.1.1, vi y0.2.2.1.2, sv p12 s2 c12]), (5, r_1)] [0] [] [Al e_Move 42 r_1 p12 c12 s2]) (
  jdS [] [0, 3] 8<|jdf 0 5 rfl rfl<|jdo 1 0 rfl rfl rfl rfl<|jda 3 3 4 rfl rfl rfl rfl<|jd2 2 4 (jca (.f rfl) [] [] c_slices_Clone_Move rfl rfl rfl (cq [2])<|fun r8 _ k p13 c13 r_2=>k<|jdn<|jd1 4<|
  jbs (.f rfl) (e := e_Move) 42 [vi s1.2.1, vi s1.2.2.1, vi s1.2.2.2.1, vi s1.2.2.2.2] ([s1.2] : List T_Move) (rC (vP vI (vP vI (vP vI vI))) rN)<|fun p14 c14=>jdn<|jd1 5<|jar (.f rfl) 5 1 rfl (gk 0) rfl rfl<|fun x1 r_3 p15 c15=>jdn<|
  jdf 6 5 rfl rfl<|jd1 7<|jso (o := 5) (.f rfl) 4 rfl rfl rfl<|jdn<|jde<|jnn (gv (fun _ k=>k p15 c15 r_3) [900,901,2,903,4,5] (gq [0,3]))) <|
  jbs (.f rfl) (e := e_Move) 42 [vi s1.2.1, vi s1.2.2.1, vi s1.2.2.2.1, vi s1.2.2.2.2] ([s1.2] : List T_Move) (rC (vP vI (vP vI (vP vI vI))) rN)<|fun p16 c16=>jdn<|jd1 2<|jca (.f rfl) [] [] c_slices_Clone_Move rfl rfl rfl (cq [3])<|
  fun r9 _ k p17 c17 r_4=>k<|jdn<|jd1 5<|jar (.f rfl) 5 0 rfl (gk 1) rfl rfl<|fun x2 r_5 p18 c18=>jdn<|jdf 6 5 rfl rfl<|jd1 7<|jso (o := 5) (.f rfl) 4 rfl rfl rfl<|jdn<|jde<|jnn (gv (fun _ k=>k p18 c18 r_5) [900,901,2,903,4,5] (gq [0,3])))<|
  fun s2 _ k p12 c12 r_1=>k<|jsr<|jla 4 6 rfl rfl rfl<|jso .s 2 rfl rfl rfl<|jpc 1 rfl<|jot<|jxr<|jsh 5 0 rfl rfl<|
  jrg' rfl (lC 2 (.agg #[vi y0.1.1, sv p11 r7 c11, vi y0.2.1, vi y0.2.2.1.1, vi y0.2.2.1.2, sv p12 s2 c12]) rfl rfl (lT rfl lN)) (fun _ k=>k p11 c11 p12 c12) [] (gq [2,0])

theorem c_protocol_New {qd : Prop} {y0 : T_Graph} {y1 : Int} {y2 : Int × Int} : Con qd Tryz.prog 50 [.agg #[vi y0.1, sv p1 y0.2 c1], vi y1, .agg #[vi y2.1, vi y2.2]] [] [Rl e_Pair p1 c1 y0.2] (m_protocol_New y0 y1 y2) fun r K=>∀ p2 c2 p3 c3,K (.tuple #[.agg #[vi r.1.1.1, sv p2 r.1.1.2 c2, vi r.1.2.1, vi r.1.2.2.1.1, vi r.1.2.2.1.2, sv p3 r.1.2.2.2 c3], vi r.2]) [] [Rl e_Pair p2 c2 r.1.1.2, Rl e_Move p3 c3 r.1.2.2.2] :=
 ent3 Tryz.call50 Tryz.func50 rfl fun X=>jsr<|jbx .s rfl<|fun b1=>jbx .s rfl<|fun b2=>jal .s (.agg #[vi 0, .slice none 0 0, vi 0, vi 0, vi 0, .slice none 0 0])<|fun b3=>jpc 1 rfl<|jot<|jsq<|jsr<|jla 0 2 rfl rfl rfl<|jcl c_graph_Validate rfl (cq [0])<|fun r1 _ k=>k<|jpc 1 rfl<|
  jot<|jA 2 rfl<|jif rfl (jsr<|jpe (.agg #[vi 0, .slice none 0 0, vi 0, vi 0, vi 0, .slice none 0 0])<|jpc 1 rfl<|jso .s 2 rfl rfl rfl<|jpc 1 rfl<|jot<|jxr<|jtr<|
  jrg' rfl (lC 2 (.agg #[vi 0, .slice none 0 0, vi 0, vi 0, vi 0, .slice none 0 0]) rfl rfl (lT rfl lN)) (fun _ k=>k none 0 none 0) [] ⟨gn,gn,⟨⟩⟩)<|jC<|jsq<|
  jjpK (fun K=>K [1,3,5,6] [] [0] [(43, vb ((decide (y1 < 0)) || ((decide (y0.1 ≤ y1)) || ((decide (y2.1 < 1)) || ((decide (200 < y2.1)) || ((decide (y2.2 < 0)) || (decide (200 < y2.2))))))))] []) (jrg<|jpc 3 rfl<|
  jsp (b := decide (y1 < 0)) 18 rfl (fun hb1=>jpc 4 rfl<|jpe (vb true)<|jpc 4 rfl<|jpe (vb true)<|jpc 4 rfl<|jpe (vb true)<|jpc 4 rfl<|jpe (vb true)<|jpc 4 rfl<|jpe (vb true)<|joe<|
  jup 43 (vb ((decide (y1 < 0)) || ((decide (y0.1 ≤ y1)) || ((decide (y2.1 < 1)) || ((decide (200 < y2.1)) || ((decide (y2.2 < 0)) || (decide (200 < y2.2)))))))) rfl (by rw [hb1]; rfl)<|jnn (gv (fun _ k=>k) [0,1,2] (gq [0])))<|fun hb1=>
  jpc 1 rfl<|jfa 0 rfl<|jlo 0 rfl rfl rfl<|jpc 1 rfl<|jpe (vb (decide (y0.1 ≤ y1)))<|jpc 1 rfl<|jsp (b := decide (y0.1 ≤ y1)) 24 rfl (fun hb2=>jpc 3 rfl<|jpe (vb true)<|jpc 4 rfl<|jpe (vb true)<|jpc 4 rfl<|jpe (vb true)<|jpc 4 rfl<|
  jpe (vb true)<|joe<|jup 43 (vb ((decide (y1 < 0)) || ((decide (y0.1 ≤ y1)) || ((decide (y2.1 < 1)) || ((decide (200 < y2.1)) || ((decide (y2.2 < 0)) || (decide (200 < y2.2)))))))) rfl (by rw [hb1,hb2]; rfl)<|
  jnn (gv (fun _ k=>k) [0,1,2] (gq [0])))<|fun hb2=>jv (v := pt b2 0) (fun h=>r_iaddr (k := 2) (sz := 1) h rfl rfl (by kernel_rfl) (by decide) rfl)<|jlo 1 rfl rfl rfl<|jpc 1 rfl<|jpe (vb (decide (y2.1 < 1)))<|jpc 1 rfl<|
  jsp (b := decide (y2.1 < 1)) 29 rfl (fun hb3=>jpc 3 rfl<|jpe (vb true)<|jpc 4 rfl<|jpe (vb true)<|jpc 4 rfl<|jpe (vb true)<|joe<|
  jup 43 (vb ((decide (y1 < 0)) || ((decide (y0.1 ≤ y1)) || ((decide (y2.1 < 1)) || ((decide (200 < y2.1)) || ((decide (y2.2 < 0)) || (decide (200 < y2.2)))))))) rfl (by rw [hb1,hb2,hb3]; rfl)<|jnn (gv (fun _ k=>k) [0,1,2] (gq [0]))
  )<|fun hb3=>jv (v := pt b2 0) (fun h=>r_iaddr (k := 2) (sz := 1) h rfl rfl (by kernel_rfl) (by decide) rfl)<|jlo 1 rfl rfl rfl<|jpc 1 rfl<|jpe (vb (decide (200 < y2.1)))<|jpc 1 rfl<|jsp (b := decide (200 < y2.1)) 34 rfl (fun hb4=>
  jpc 3 rfl<|jpe (vb true)<|jpc 4 rfl<|jpe (vb true)<|joe<|
  jup 43 (vb ((decide (y1 < 0)) || ((decide (y0.1 ≤ y1)) || ((decide (y2.1 < 1)) || ((decide (200 < y2.1)) || ((decide (y2.2 < 0)) || (decide (200 < y2.2)))))))) rfl (by rw [hb1,hb2,hb3,hb4]; rfl)<|jnn (gv (fun _ k=>k) [0,1,2] (gq [0]))
  )<|fun hb4=>jv (v := pt b2 1) (fun h=>r_iaddr (k := 2) (sz := 1) h rfl rfl (by kernel_rfl) (by decide) rfl)<|jlo 1 rfl rfl rfl<|jpc 1 rfl<|jpe (vb (decide (y2.2 < 0)))<|jpc 1 rfl<|jsp (b := decide (y2.2 < 0)) 39 rfl (fun hb5=>jpc 3 rfl<|
  jpe (vb true)<|joe<|jup 43 (vb ((decide (y1 < 0)) || ((decide (y0.1 ≤ y1)) || ((decide (y2.1 < 1)) || ((decide (200 < y2.1)) || ((decide (y2.2 < 0)) || (decide (200 < y2.2)))))))) rfl (by rw [hb1,hb2,hb3,hb4,hb5]; rfl)<|
  jnn (gv (fun _ k=>k) [0,1,2] (gq [0])))<|fun hb5=>jv (v := pt b2 1) (fun h=>r_iaddr (k := 2) (sz := 1) h rfl rfl (by kernel_rfl) (by decide) rfl)<|jlo 1 rfl rfl rfl<|jpc 1 rfl<|jpe (vb (decide (200 < y2.2)))<|joe<|
  jup 43 (vb ((decide (y1 < 0)) || ((decide (y0.1 ≤ y1)) || ((decide (y2.1 < 1)) || ((decide (200 < y2.1)) || ((decide (y2.2 < 0)) || (decide (200 < y2.2)))))))) rfl (by rw [hb1,hb2,hb3,hb4,hb5]; rfl)<|jnn (gv (fun _ k=>k) [0,1,2] (gq [0]))
  )<|fun _ k=>k<|jif rfl (jsr<|jpe (.agg #[vi 0, .slice none 0 0, vi 0, vi 0, vi 0, .slice none 0 0])<|jso .s 2 rfl rfl rfl<|jpc 1 rfl<|jot<|jxr<|jtr<|
  jrg' rfl (lC 2 (.agg #[vi 0, .slice none 0 0, vi 0, vi 0, vi 0, .slice none 0 0]) rfl rfl (lT rfl lN)) (fun _ k=>k none 0 none 0) [] ⟨gn,gn,⟨⟩⟩)<|jC<|jsr<|jpc 1 rfl<|jpe (.agg #[vi 1, vi 1, vi y1, vi 0])<|
  jal .s (.agg #[vi 0, vi 0, vi 0, vi 0])<|fun b4=>jso .s 3 rfl rfl rfl<|jot<|
  jjn (fun s1 K=>∀ p2 c2 p3 c3,K [(6, pt b3 0), (7, vi s1.1)] [[], [], bx b3 32 [vi s1.2.1, sv p2 s1.2.2.1 c2, vi s1.2.2.2.1, vi s1.2.2.2.2.1, vi s1.2.2.2.2.2.1, sv p3 s1.2.2.2.2.2.2 c3], []] [Rl e_Pair p2 c2 s1.2.2.1, Rl e_Move p3 c3 s1.2.2.2.2.2.2]) (
  jdS [] [0, 1, 3] 13<|jdf 0 0 rfl rfl<|jdo 1 0 rfl rfl rfl rfl<|jdf 2 1 rfl rfl<|jdo 3 0 rfl rfl rfl rfl<|jdc 8 [6] rfl<|jda 7 1 2 rfl rfl rfl rfl<|jda 8 3 4 rfl rfl rfl rfl<|jd2 4 9 (
  jca (.f rfl) [] [] c_slices_Clone_Pair rfl rfl rfl (cq [0])<|fun r2 _ k p4 c4=>k<|jdn<|jdp 5 (.agg #[vi y0.1, sv p4 r2 c4]) rfl<|jd1 9<|
  jbs (.f rfl) (e := e_Move) 42 [vi 1, vi 1, vi y1, vi 0] ([(1, 1, y1, 0)] : List T_Move) (rC (vP vI (vP vI (vP vI vI))) rN)<|fun p5 c5=>jdn<|
  jdp 10 (.agg #[vi y0.1, sv p4 r2 c4, vi y1, vi y2.1, vi y2.2, sv p5 ([(1, 1, y1, 0)] : List T_Move) c5]) rfl<|jd1 11<|jso (o := 0) (.f rfl) 2 rfl rfl rfl<|jdn<|jdc 0 [12] rfl<|jde<|
  jnn (gv (fun _ k=>k p4 c4 p5 c5) [900,901,2,903] (gq [1,0]))) <|jbs (.f rfl) (e := e_Move) 42 [vi 1, vi 1, vi y1, vi 0] ([(1, 1, y1, 0)] : List T_Move) (rC (vP vI (vP vI (vP vI vI))) rN)<|fun p6 c6=>jdn<|jd1 4<|
  jca (.f rfl) [] [] c_slices_Clone_Pair rfl rfl rfl (cq [1])<|fun r3 _ k p7 c7=>k<|jdn<|jdp 5 (.agg #[vi y0.1, sv p7 r3 c7]) rfl<|jdp 10 (.agg #[vi y0.1, sv p7 r3 c7, vi y1, vi y2.1, vi y2.2, sv p6 ([(1, 1, y1, 0)] : List T_Move) c6]) rfl<|
  jd1 11<|jso (o := 0) (.f rfl) 2 rfl rfl rfl<|jdn<|jdc 0 [12] rfl<|jde<|jnn (gv (fun _ k=>k p7 c7 p6 c6) [900,901,2,903] (gq [0,1])))<|fun s1 _ k p2 c2 p3 c3=>k<|jxr<|
  jrg' rfl (lC 2 (.agg #[vi s1.2.1, sv p2 s1.2.2.1 c2, vi s1.2.2.2.1, vi s1.2.2.2.2.1, vi s1.2.2.2.2.2.1, sv p3 s1.2.2.2.2.2.2 c3]) rfl rfl (lT rfl lN)) (fun _ k=>k p2 c2 p3 c3) [] (gq [0,1])

theorem c_referee_Replay {qd : Prop} {y0 : T_Transcript} : Con qd Tryz.prog 35 [.agg #[vi y0.1.1, sv p1 y0.1.2 c1, vi y0.2.1, vi y0.2.2.1.1, vi y0.2.2.1.2, sv p2 y0.2.2.2 c2]] [] [Rl e_Pair p1 c1 y0.1.2, Rl e_Move p2 c2 y0.2.2.2] (m_referee_Replay y0) fun r K=>∀ p3 c3 p4 c4,K (.tuple #[.agg #[vi r.1.1.1, sv p3 r.1.1.2 c3, vi r.1.2.1, vi r.1.2.2.1.1, vi r.1.2.2.1.2, sv p4 r.1.2.2.2 c4], vi r.2.1, vi r.2.2]) [] [Rl e_Pair p3 c3 r.1.1.2, Rl e_Move p4 c4 r.1.2.2.2] :=
 ent3 Tryz.call35 Tryz.func35 rfl fun X=>jsr<|jbx .s rfl<|fun b1=>jal .s (.agg #[vi 0, .slice none 0 0, vi 0, vi 0, vi 0, .slice none 0 0])<|fun b2=>jpc 2 rfl<|jot<|jsr<|jfa 0 rfl<|jla 0 2 rfl rfl rfl<|jfa 2 rfl<|jlo 0 rfl rfl rfl<|jfa 3 rfl<|jla 0 2 rfl rfl rfl<|
  jcl c_protocol_New rfl (cq [0])<|fun r1 _ k p3 c3 p4 c4=>k<|jpc 3 rfl<|jal .s (.agg #[vi 0, .slice none 0 0, vi 0, vi 0, vi 0, .slice none 0 0])<|fun b3=>jso .s 2 rfl rfl rfl<|jpc 1 rfl<|jot<|jsq<|jA 2 rfl<|jif rfl (jsr<|
  jpe (.agg #[vi 0, .slice none 0 0, vi 0, vi 0, vi 0, .slice none 0 0])<|jpc 1 rfl<|jso .s 1 rfl rfl rfl<|jpc 2 rfl<|jot<|jxr<|jtr<|
  jrg' rfl (lC 1 (.agg #[vi 0, .slice none 0 0, vi 0, vi 0, vi 0, .slice none 0 0]) rfl rfl (lT rfl (lT rfl lN))) (fun _ k=>k none 0 none 0) [] ⟨gn,gn,⟨⟩⟩)<|jC<|jsq<|jjnK (fun s1 K=>K [1,2,5] [] [2,3,0,1] [(39, vb s1)] []) (jdS [] [0, 2] 15<|
  jdf 0 5 rfl rfl<|jdo 1 0 rfl rfl rfl rfl<|jdc 10 [2,3,4] rfl<|jsg 29 rfl (jdc 1 [5,6,7,8,9,10,11,12,13] rfl<|jdp 14 (vb true) rfl<|jde<|jnn (gv (fun _ k=>k) [0,1,2] (gq [2,3,0,1])))<|jdf 5 5 rfl rfl<|jdo 6 0 rfl rfl rfl rfl<|
  jdi 7 3 rfl rfl rfl rfl<|fun x1 b4 o1=>jdl 8 true o_Move rfl (gk 0) rfl<|jdf 9 5 rfl rfl<|jdo 10 2 rfl rfl rfl rfl<|jdi 11 2 rfl rfl rfl rfl<|fun x2 b5 o2=>jdl 12 true o_Move rfl (gk 0) rfl<|jdp 13 (vb (!(x1 == x2))) rfl<|
  jdp 14 (vb (!(x1 == x2))) rfl<|jde<|jnn (gv (fun _ k=>k) [0,1,2] (gq [4,5,2,3])))<|fun s1 _ k=>k<|jif rfl (jsr<|jla 2 6 rfl rfl rfl<|jso .s 1 rfl rfl rfl<|jpc 2 rfl<|jot<|jxr<|jtr<|
  jrg' rfl (lC 1 (.agg #[vi r1.1.1.1, sv p3 r1.1.1.2 c3, vi r1.1.2.1, vi r1.1.2.2.1.1, vi r1.1.2.2.1.2, sv p4 r1.1.2.2.2 c4]) rfl rfl (lT rfl (lT rfl lN))) (fun _ k=>k p3 c3 p4 c4) [] (gq [2,3]))<|jC<|
  jjoK (fun s2 K=>∀ p5 c5 p6 c6,K [1,2,5] [(2, bx b3 32 [vi s2.1, sv p5 s2.2.1 c5, vi s2.2.2.1, vi s2.2.2.2.1, vi s2.2.2.2.2.1, sv p6 s2.2.2.2.2.2 c6])] [0,1] [] [Rl e_Pair p5 c5 s2.2.1, Rl e_Move p6 c6 s2.2.2.2.2.2]) (jsr<|jfa 5 rfl<|
  jlo 0 rfl rfl rfl<|jsl (gk 1) rfl rfl rfl (.inr ⟨_, rfl⟩) (.inl ⟨rfl, rfl⟩)<|fun x3 p7 c7=>jpc 2 rfl<|jot<|jbk<|
  jlpK (fun s3 K=>∀ p8 c8 p9 c9,K [1,2,5,43,44] [(2, bx b3 32 [vi s3.2.1, sv p8 s3.2.2.1 c8, vi s3.2.2.2.1, vi s3.2.2.2.2.1, vi s3.2.2.2.2.2.1, sv p9 s3.2.2.2.2.2.2 c9])] [0,1,2] [(45, vi s3.1)] [Rl e_Pair p8 c8 s3.2.2.1, Rl e_Move p9 c9 s3.2.2.2.2.2.2]) (gv (fun _ k=>k p3 c3 p4 c4) [0,1,2] (gq [3,4,0,1,2]))<|
  fun s3 _ k p8 c8 p9 c9=>k<|jA 1 rfl<|jsq<|jif rfl (jC<|jsq<|jbk<|jsr<|jpc 1 rfl<|jix 2 rfl rfl rfl<|fun x4 b6 o3=>jld true o_Move (gk 0) rfl<|jal .s (.agg #[vi 0, vi 0, vi 0, vi 0])<|fun b7=>jpc 1 rfl<|jso .s 3 rfl rfl rfl<|jot<|jsr<|
  jla 2 6 rfl rfl rfl<|jla 3 4 rfl rfl rfl<|jcl c_protocol_Apply rfl (cq [1,2])<|fun r2 _ k p10 c10 p11 c11=>k<|jpc 3 rfl<|jal .s (.agg #[vi 0, .slice none 0 0, vi 0, vi 0, vi 0, .slice none 0 0])<|fun b8=>jso .s 4 rfl rfl rfl<|jpc 1 rfl<|
  jot<|jjnK (fun s4 K=>K [1,2,5,7,9,43,44,45] [(3, [])] [5,6,7,3,4,0,1] [(10, vi s4)] []) (jjnK (fun s5 K=>K [1,2,5,7,9,10,43,44,45] [(3, [])] [5,6,7,3,4,0,1] [(67, vb s5)] []) (jdS [] [3, 4] 12<|jdc 9 [0,1,2] rfl<|jsg 58 rfl (
  jdf 3 5 rfl rfl<|jdo 4 4 rfl rfl rfl rfl<|jdc 5 [5,6] rfl<|jdi 7 1 rfl rfl rfl rfl<|fun x5 b9 o4=>jdl 8 true o_Move rfl (gk 0) rfl<|jda 9 3 4 rfl rfl rfl rfl<|jdp 10 (vb (!(x5 == x4))) rfl<|jdp 11 (vb (!(x5 == x4))) rfl<|jde<|
  jnn (gv (fun _ k=>k) [0,1,2,903,4] (gq [6,7,8,4,5,1,2])))<|jdc 1 [3,4,5,6,7,8,9,10] rfl<|jdp 11 (vb false) rfl<|jde<|jnn (gv (fun _ k=>k) [0,1,2,903,4] (gq [5,6,7,3,4,0,1])))<|fun s5 _ k=>k<|jif rfl (jB 1 rfl<|
  jnn (gv (fun _ k=>k) [0,1,2,903,4] (gq [0,1,2,3,4,5,6])))<|jsk<|jnn (gv (fun _ k=>k) [0,1,2,903,4] (gq [0,1,2,3,4,5,6])))<|fun s4 _ k=>k<|jsq<|jA 2 rfl<|jif rfl (jsr<|jla 2 6 rfl rfl rfl<|jpc 3 rfl<|jso .s 1 rfl rfl rfl<|jpc 2 rfl<|jot<|
  jxr<|jtr<|jbr<|jtr<|jlr<|jbr<|jlr<|jrg' rfl (lC 1 (.agg #[vi s3.2.1, sv p8 s3.2.2.1 c8, vi s3.2.2.2.1, vi s3.2.2.2.2.1, vi s3.2.2.2.2.2.1, sv p9 s3.2.2.2.2.2.2 c9]) rfl rfl (lT rfl (lT rfl lN))) (fun _ k=>k p8 c8 p9 c9) [] (gq [3,4]))<|jC<|
  jrg<|jla 4 6 rfl rfl rfl<|jso .s 2 rfl rfl rfl<|joe<|jbn<|jtn<|jB 2 rfl<|jln (gv (fun _ k=>k p10 c10 p11 c11) [0,1,2] (gq [5,6,0,1,2])))<|jxe<|jte<|jle<|jbh<|jln (gv (fun _ k=>k p8 c8 p9 c9) [0,1,2] (gq [0,1,3,4])))<|
  fun s2 _ k p5 c5 p6 c6=>k<|jds [] [0, 2] 7<|jda 0 2 6 rfl rfl rfl rfl<|jdf 1 5 rfl rfl<|jdo 2 0 rfl rfl rfl rfl<|jdc 3 [3] rfl<|jd1 4<|jso (o := 0) (.f rfl) 1 rfl rfl rfl<|jdn<|jdc 0 [5,6] rfl<|jde<|jtn<|jxr<|
  jrg' rfl (lC 1 (.agg #[vi s2.1, sv p5 s2.2.1 c5, vi s2.2.2.1, vi s2.2.2.2.1, vi s2.2.2.2.2.1, sv p6 s2.2.2.2.2.2 c6]) rfl rfl (lT rfl (lT rfl lN))) (fun _ k=>k p5 c5 p6 c6) [] (gq [0,1])

theorem c_referee_Judge {qd : Prop} {y0 : T_Transcript} : Con qd Tryz.prog 16 [.agg #[vi y0.1.1, sv p1 y0.1.2 c1, vi y0.2.1, vi y0.2.2.1.1, vi y0.2.2.1.2, sv p2 y0.2.2.2 c2]] [] [Rl e_Pair p1 c1 y0.1.2, Rl e_Move p2 c2 y0.2.2.2] (m_referee_Judge y0) fun r K=>K (.tuple #[.agg #[vi r.1.1, vi r.1.2], vi r.2]) [] [] :=
 ent3 Tryz.call16 Tryz.func16 rfl fun X=>jsr<|jbx .s rfl<|fun b1=>jal .s (.agg #[vi 0, vi 0])<|fun b2=>jpc 1 rfl<|jot<|jsr<|jla 0 6 rfl rfl rfl<|jcl c_referee_Replay rfl (cq [0,1])<|fun r1 _ k p3 c3 p4 c4=>k<|jpc 4 rfl<|
  jal .s (.agg #[vi 0, .slice none 0 0, vi 0, vi 0, vi 0, .slice none 0 0])<|fun b3=>jso .s 2 rfl rfl rfl<|jpc 2 rfl<|jot<|jsq<|jA 2 rfl<|jif rfl (jsr<|jpe (.agg #[vi 0, vi 0])<|jpc 1 rfl<|jso .s 1 rfl rfl rfl<|jpc 1 rfl<|jot<|jxr<|jtr<|
  jrg' rfl (lC 1 (.agg #[vi 0, vi 0]) rfl rfl (lT rfl lN)) (fun _ k=>k) [] ⟨⟩)<|jC<|jsr<|jla 2 6 rfl rfl rfl<|jcl c_protocol_End rfl (cq [0,1])<|fun r2 _ k=>k<|jso .s 1 rfl rfl rfl<|jpc 1 rfl<|jot<|jxr<|
  jrg' rfl (lC 1 (.agg #[vi r2.1, vi r2.2]) rfl rfl (lT rfl lN)) (fun _ k=>k) [] ⟨⟩

theorem c_law30_RefereeChannel {y0 : List Int} : Con False Tryz.prog 3 [sv p1 y0 c1] [] [Rl (eInt .i64) p1 c1 y0, Pt (eArr 3 eStr) 0 0 tab_referee_players, Tb Tryz.prog "internal/strconv.uint64pow10" .u64 Lib.pow10Tab, Gve 3, Gve 4] (m_law30_RefereeChannel y0) fun r K=>K (vb r) [] [] :=
 ent3 Tryz.call3 Tryz.func3 rfl fun X=>jA 1 rfl<|jsr<|jpc 1 rfl<|jcl c_keep_New rfl (cq [0])<|fun r1 _ k b1 p2 c2=>k<|jpc 1 rfl<|jot<|jsr<|jpc 1 rfl<|jca .s [0] [] c_net_Graph rfl rfl rfl (cq [0])<|fun r2 _ k p3 c3=>k<|jal .s (.agg #[vi 0, .slice none 0 0])<|fun b2=>
  jso .s 1 rfl rfl rfl<|jot<|
  jjnK (fun s1 K=>∀ b3 p4 c4 p5 c5,K [3,4] [(0, bx b1 66 [sv p2 r1.1 c2, vi s1.1]), (2, bx b3 32 [vi s1.2.1.1, sv p4 s1.2.1.2 c4, vi s1.2.2.1, vi s1.2.2.2.1.1, vi s1.2.2.2.1.2, sv p5 s1.2.2.2.2 c5])] [1,0,3,4,5,6] [(5, pt b3 0)] [Rl e_Pair p4 c4 s1.2.1.2, Rl e_Move p5 c5 s1.2.2.2.2]) (
  jdS [] [1] 13<|jda 0 1 2 rfl rfl rfl rfl<|jdc 11 [1] rfl<|jdf 2 0 rfl rfl<|jdo 3 1 rfl rfl rfl rfl<|jdv (v := .agg #[vi 20, vi 20]) 5 rfl (fun h=>r_buildA h (by kernel_rfl))<|jd2 4 10 (jca (.f rfl) [0] [] c_keep_Src_N rfl rfl rfl (cq [1])<|
  fun r3 _ k=>k<|jdn<|jd2 6 10 (jca (.f rfl) [] [] c_ref27_New rfl rfl rfl (cq [0])<|fun r4 _ k p6 c6 p7 c7=>k<|jdn<|jdc 3 [7,8,9] rfl<|jd1 10<|jal (.f rfl) (.agg #[vi 0, .slice none 0 0, vi 0, vi 0, vi 0, .slice none 0 0])<|fun b4=>jdn<|
  jd1 11<|jso (o := 0) (.f rfl) 2 rfl rfl rfl<|jdn<|jdc 0 [12] rfl<|jde<|jnn (gv (fun _ k=>k b4 p6 c6 p7 c7) [0,1,2] (gq [0,1,3,2,5,6,7,8]))) <|jal (.f rfl) (.agg #[vi 0, .slice none 0 0, vi 0, vi 0, vi 0, .slice none 0 0])<|fun b5=>jdn<|
  jd1 6<|jca (.f rfl) [] [] c_ref27_New rfl rfl rfl (cq [0])<|fun r5 _ k p8 c8 p9 c9=>k<|jdn<|jdc 2 [7,8,9] rfl<|jd1 11<|jso (o := 0) (.f rfl) 2 rfl rfl rfl<|jdn<|jdc 0 [12] rfl<|jde<|
  jnn (gv (fun _ k=>k b5 p8 c8 p9 c9) [0,1,2] (gq [0,1,3,2,5,6,7,8]))) <|jal (.f rfl) (.agg #[vi 0, .slice none 0 0, vi 0, vi 0, vi 0, .slice none 0 0])<|fun b6=>jdn<|jd1 4<|jca (.f rfl) [0] [] c_keep_Src_N rfl rfl rfl (cq [1])<|fun r6 _ k=>
  k<|jdn<|jd1 6<|jca (.f rfl) [] [] c_ref27_New rfl rfl rfl (cq [0])<|fun r7 _ k p10 c10 p11 c11=>k<|jdn<|jdc 2 [7,8,9] rfl<|jd1 11<|jso (o := 0) (.f rfl) 2 rfl rfl rfl<|jdn<|jdc 0 [12] rfl<|jde<|
  jnn (gv (fun _ k=>k b6 p10 c10 p11 c11) [0,1,2] (gq [0,1,3,2,5,6,7,8])))<|fun s1 _ k b3 p4 c4 p5 c5=>k<|jds [9] [1, 2] 10<|jda 0 2 6 rfl rfl rfl rfl<|jda 1 1 2 rfl rfl rfl rfl<|jda 3 1 2 rfl rfl rfl rfl<|jd1 2<|
  jca (.f rfl) [] [] c_ref28_Full rfl rfl rfl (cq [3])<|fun r8 _ k p12 c12 p13 c13 p14 c14=>k<|jdn<|jd1 4<|jca (.f rfl) [] [] c_ref28_Full rfl rfl rfl (cq [6])<|fun r9 _ k p15 c15 p16 c16 p17 c17=>k<|jdn<|jd1 5<|
  jca (.f rfl) [] [] c_ref28_Run rfl rfl rfl (cq [6,7,3,4,5,0,1,2])<|fun r10 _ k p18 c18 p19 c19=>k<|jdn<|jdc 1 [6,7,8] rfl<|jd1 9<|jso (o := 0) (.f rfl) 2 rfl rfl rfl<|jdb [] [1, 2]<|jde<|jtn<|jsr<|jpc 1 rfl<|jro (eInt .i64) 3<|jot<|
  jjnK (fun s2 K=>∀ p20 c20 r_1,K [3,4,5] [(3, r_1)] [11,12,1,2,13,14,15,16] [(7, sv p20 s2 c20)] [Al (eInt .i64) 3 r_1 p20 c20 s2]) (jsr<|jfa 5 rfl<|jlo 2 rfl rfl rfl<|jpc 2 rfl<|jot<|jbk<|
  jlpK (fun s3 K=>∀ p21 c21 r_2,K [3,4,5,45,46] [(3, r_2)] [2,11,12,1,13,14,15,16] [(7, sv p21 s3.1 c21), (47, vi s3.2)] [Al (eInt .i64) 3 r_2 p21 c21 s3.1]) (gv (fun _ k=>k none 0 []) [0,1,2,3] (gq [0,2,11,12,1,13,14,15,16]))<|
  fun s3 _ k p21 c21 r_2=>k<|jA 1 rfl<|jsq<|jif rfl (jC<|jsq<|jbk<|jsr<|jix 1 rfl rfl rfl<|fun x1 b7 o1=>jld true o_Move (gk 0) rfl<|jal .s (.agg #[vi 0, vi 0, vi 0, vi 0])<|fun b8=>jso .s 4 rfl rfl rfl<|jot<|jrg<|jpc 1 rfl<|jfa 0 rfl<|
  jlo 4 rfl rfl rfl<|jpc 1 rfl<|jfa 1 rfl<|jlo 4 rfl rfl rfl<|jpc 2 rfl<|jfa 2 rfl<|jlo 4 rfl rfl rfl<|jpc 2 rfl<|jfa 3 rfl<|jlo 4 rfl rfl rfl<|jpc 1 rfl<|
  jbs .s (e := eInt .i64) 3 [vi (w64 ((w64 ((w64 ((w64 ((w64 ((w64 (x1.1 * 8)) + x1.2.1)) * 64)) + x1.2.2.1)) * 512)) + x1.2.2.2))] ([w64 ((w64 ((w64 ((w64 ((w64 ((w64 (x1.1 * 8)) + x1.2.1)) * 64)) + x1.2.2.1)) * 512)) + x1.2.2.2)] : List Int) (rC vI rN)<|
  fun p22 c22=>jar .s 3 2 rfl (gk 0) rfl rfl<|fun x2 r_3 p23 c23=>jpc 1 rfl<|joe<|jbn<|jtn<|jB 2 rfl<|jln (gv (fun _ k=>k p23 c23 r_3) [0,1,2,3] (gq [0,4,5,6,7,8,9,10,11])))<|jxe<|jte<|jle<|jbh<|
  jnn (gv (fun _ k=>k p21 c21 r_2) [0,1,2,3] (gq [0,2,3,4,1,5,6,7,8])))<|fun s2 _ k p20 c20 r_1=>k<|jsr<|jpc 2 rfl<|jca .s [0] [] c_keep_Src_Range rfl rfl rfl (cq [1])<|fun r11 _ k=>k<|jsh 3 0 rfl rfl<|jcl c_channel_New rfl (cq [0])<|
  fun r12 _ k p24 c24 p25 c25 p26 c26 p27 c27=>k<|jpc 3 rfl<|jal .s (.agg #[.slice none 0 0, vi 0, vi 0, .slice none 0 0, .slice none 0 0, .slice none 0 0])<|fun b9=>jso .s 4 rfl rfl rfl<|jpc 1 rfl<|jot<|jsq<|jA 2 rfl<|jif rfl (jA 1 rfl<|
  jxr<|jtr<|jr1 rfl rfl (fun _ k=>k) [] ⟨⟩)<|jC<|
  jjnK (fun s4 K=>∀ p28 c28 p29 c29 p30 c30 p31 c31,K [4,5,10] [(0, []), (4, bx b9 45 [sv p28 s4.1 c28, vi s4.2.1, vi s4.2.2.1, sv p29 s4.2.2.2.1 c29, sv p30 s4.2.2.2.2.1 c30, sv p31 s4.2.2.2.2.2 c31])] [7,8,9,10,11,12,13] [] [Rl (eInt .i64) p28 c28 s4.1, Rl (eInt .i64) p29 c29 s4.2.2.2.1, Rl e_Packet p30 c30 s4.2.2.2.2.1, Rl e_Packet p31 c31 s4.2.2.2.2.2]) (
  jA 1 rfl<|jbk<|
  jlpK (fun s5 K=>∀ p32 c32 p33 c33 p34 c34 p35 c35,K [3,4,5,10] [(0, bx b1 66 [sv p2 r1.1 c2, vi s5.2.1]), (4, bx b9 45 [sv p32 s5.2.2.1 c32, vi s5.2.2.2.1, vi s5.2.2.2.2.1, sv p33 s5.2.2.2.2.2.1 c33, sv p34 s5.2.2.2.2.2.2.1 c34, sv p35 s5.2.2.2.2.2.2.2 c35])] [6,7,8,9,10,11,12,13] [(12, vi s5.1)] [Rl (eInt .i64) p32 c32 s5.2.2.1, Rl (eInt .i64) p33 c33 s5.2.2.2.2.2.1, Rl e_Packet p34 c34 s5.2.2.2.2.2.2.1, Rl e_Packet p35 c35 s5.2.2.2.2.2.2.2]) (gv (fun _ k=>k p24 c24 p25 c25 p26 c26 p27 c27) [0,1,2,903,4] (gq [0,1,2,3,6,7,8,9,10,11,12,13]))<|
  fun s5 _ k p32 c32 p33 c33 p34 c34 p35 c35=>k<|jsq<|jjnK (fun s6 K=>K [3,4,5,10,12] [] [4,5,6,7,0,1,2,3,8,9,10,11] [(83, vb s6)] []) (jrg<|jpc 3 rfl<|jsg 80 rfl (jpc 1 rfl<|jca .s [0] [] c_keep_Src_More rfl rfl rfl (cq [4])<|fun r13 _ k=>
  k<|jpe (vb r13)<|joe<|jnn (gv (fun _ k=>k) [0,1,2,903,4] (gq [4,5,6,7,0,1,2,3,8,9,10,11])))<|jpc 2 rfl<|jpe (vb false)<|joe<|jnn (gv (fun _ k=>k) [0,1,2,903,4] (gq [4,5,6,7,0,1,2,3,8,9,10,11])))<|fun s6 _ k=>k<|jif rfl (jC<|jsq<|jbk<|jsr<|
  jpc 1 rfl<|jbs .s (e := eInt .i64) 3 [vi 1, vi 1, vi 2, vi 2, vi 3, vi 4] ([1, 1, 2, 2, 3, 4] : List Int) (rC vI (rC vI (rC vI (rC vI (rC vI (rC vI rN))))))<|fun p36 c36=>jca .s [0] [] c_keep_Src_Pick rfl rfl rfl (cq [1,0])<|fun r14 _ k=>
  k<|jpc 1 rfl<|jca .s [0] [] c_keep_Src_N rfl rfl rfl (cq [1])<|fun r15 _ k=>k<|jpe (.agg #[vi r14.1, vi r15.1])<|jal .s (.agg #[vi 0, vi 0])<|fun b10=>jso .s 5 rfl rfl rfl<|jot<|jsr<|jla 4 6 rfl rfl rfl<|jla 5 2 rfl rfl rfl<|
  jcl c_channel_Step rfl (cq [5,6,7,8])<|fun r16 _ k p37 c37 p38 c38 p39 c39 p40 c40=>k<|jpc 3 rfl<|jal .s (.agg #[.slice none 0 0, vi 0, vi 0, .slice none 0 0, .slice none 0 0, .slice none 0 0])<|fun b11=>jso .s 6 rfl rfl rfl<|jpc 1 rfl<|
  jot<|jA 2 rfl<|jif rfl (jrg<|jla 6 6 rfl rfl rfl<|jso .s 4 rfl rfl rfl<|joe<|jbn<|jtn<|jB 3 rfl<|jln (gv (fun _ k=>k p37 c37 p38 c38 p39 c39 p40 c40) [0,1,2,903,4] (gq [0,1,2,3,5,6,7,8,13,14,15,16])))<|jsk<|jbn<|jtn<|jB 3 rfl<|
  jln (gv (fun _ k=>k p32 c32 p33 c33 p34 c34 p35 c35) [0,1,2,903,4] (gq [9,10,11,12,5,6,7,8,13,14,15,16])))<|jxe<|jte<|jle<|jbh<|jnn (gv (fun _ k=>k p32 c32 p33 c33 p34 c34 p35 c35) [900,1,2,903,4] (gq [4,5,6,7,1,2,3,8,9,10,11])))<|
  fun s4 _ k p28 c28 p29 c29 p30 c30 p31 c31=>k<|jsr<|jla 4 6 rfl rfl rfl<|jcl c_channel_Finish rfl (cq [0,1,2,3])<|fun r17 _ k p41 c41 p42 c42 p43 c43 p44 c44=>k<|jpc 3 rfl<|jso .s 4 rfl rfl rfl<|jot<|jsr<|jla 1 2 rfl rfl rfl<|jfa 2 rfl<|
  jlo 2 rfl rfl rfl<|jfa 3 rfl<|jla 2 2 rfl rfl rfl<|jpe (.agg #[vi r2.1.1, sv p3 r2.1.2 c3, vi r10.1.2.1, vi r10.1.2.2.1.1, vi r10.1.2.2.1.2, .slice none 0 0])<|jro e_Move 42<|
  jal .s (.agg #[vi 0, .slice none 0 0, vi 0, vi 0, vi 0, .slice none 0 0])<|fun b12=>jso .s 6 rfl rfl rfl<|jot<|
  jjnK (fun s7 K=>∀ p45 c45 r_4,K [5,16] [(1, []), (4, []), (5, r_4), (6, bx b12 56 [vi r2.1.1, sv p3 r2.1.2 c3, vi r10.1.2.1, vi r10.1.2.2.1.1, vi r10.1.2.2.1.2, sv p45 s7 c45])] [10,11,9,12,13,14,15] [] [Al e_Move 42 r_4 p45 c45 s7]) (jsr<|
  jfa 3 rfl<|jlo 4 rfl rfl rfl<|jpc 2 rfl<|jot<|jbk<|
  jlpK (fun s8 K=>∀ p46 c46 r_5,K [5,16,113,114] [(1, []), (4, []), (5, r_5), (6, bx b12 56 [vi r2.1.1, sv p3 r2.1.2 c3, vi r10.1.2.1, vi r10.1.2.2.1.1, vi r10.1.2.2.1.2, sv p46 s8.2 c46])] [2,10,11,9,12,13,14,15] [(115, vi s8.1)] [Al e_Move 42 r_5 p46 c46 s8.2]) (gv (fun _ k=>k none 0 []) [900,901,2,903,904,5,6] (gq [0,2,10,11,9,12,13,14,15]))<|
  fun s8 _ k p46 c46 r_5=>k<|jA 1 rfl<|jsq<|jif rfl (jC<|jsq<|jbk<|jsr<|jix 1 rfl rfl rfl<|fun x3 b13 o2=>jld false oI (gk 0) rfl<|jpc 1 rfl<|jot<|jrg<|jfa 5 rfl<|jlo 6 rfl rfl rfl<|jpc 1 rfl<|jbd fun x4 h2=>jv (fun h=>r_quoK h rfl rfl h2)<|
  jbd fun x5 h3=>jv (fun h=>r_quoK h rfl rfl h3)<|jbd fun x6 h4=>jv (fun h=>r_quoK h rfl rfl h4)<|jpc 1 rfl<|jbd fun x7 h5=>jv (fun h=>r_quoK h rfl rfl h5)<|jbd fun x8 h6=>jv (fun h=>r_quoK h rfl rfl h6)<|jbd fun x9 h7=>
  jv (fun h=>r_remK h rfl rfl h7)<|jpc 1 rfl<|jbd fun x10 h8=>jv (fun h=>r_quoK h rfl rfl h8)<|jbd fun x11 h9=>jv (fun h=>r_remK h rfl rfl h9)<|jpc 1 rfl<|jbd fun x12 h10=>jv (fun h=>r_remK h rfl rfl h10)<|
  jpe (.agg #[vi x6, vi x9, vi x11, vi x12])<|jbs .s (e := e_Move) 42 [vi x6, vi x9, vi x11, vi x12] ([(x6, x9, x11, x12)] : List T_Move) (rC (vP vI (vP vI (vP vI vI))) rN)<|fun p47 c47=>jar .s 5 2 rfl (gk 0) rfl rfl<|fun x13 r_6 p48 c48=>
  jfa 5 rfl<|jso .s 6 rfl rfl rfl<|joe<|jbn<|jtn<|jB 2 rfl<|jln (gv (fun _ k=>k p48 c48 r_6) [900,901,2,903,904,5,6] (gq [0,4,5,6,7,8,9,10,11])))<|jxe<|jte<|jle<|jbh<|
  jnn (gv (fun _ k=>k p46 c46 r_5) [900,901,2,903,904,5,6] (gq [0,2,3,4,5,6,7,8])))<|fun s7 _ k p45 c45 r_4=>k<|jsr<|jla 6 6 rfl rfl rfl<|jca .s [] [5] c_referee_Judge rfl rfl rfl ⟨ck 3,cl 5 0,⟨⟩⟩<|fun r18 _ k=>k<|jpc 3 rfl<|
  jal .s (.agg #[vi 0, vi 0])<|fun b14=>jso .s 7 rfl rfl rfl<|jpc 1 rfl<|jot<|jjnK (fun s9 K=>K [] [(2, []), (5, []), (6, []), (7, [])] [4,5,6,7] [(2, vb s9)] []) (jdS [] [2, 6, 7] 18<|jdc 15 [0,1,2] rfl<|jsg 146 rfl (
  jda 3 7 2 rfl rfl rfl rfl<|jda 4 2 6 rfl rfl rfl rfl<|jd1 5<|jca (.f rfl) [] [] c_ref27_End rfl rfl rfl (cq [1,2])<|fun r19 _ k=>k<|jdn<|jdp 6 (vb (r18.1 == r19)) rfl<|jdp 7 (vb (r18.1 == r19)) rfl<|jdc 9 [8] rfl<|jsg 152 rfl (
  jda 9 6 6 rfl rfl rfl rfl<|jda 10 2 6 rfl rfl rfl rfl<|jd1 11<|jca (.f rfl) [] [] c_ref30_Record rfl rfl rfl (cq [1,2])<|fun r20 _ k p49 c49 p50 c50=>k<|jdn<|jd1 12<|jca (.f rfl) [] [5] c_ref30_Same rfl rfl rfl ⟨ck 5,cl 5 2,ck 0,ck 1,⟨⟩⟩<|
  fun r21 _ k=>k<|jdn<|jdp 13 (vb r21) rfl<|jdc 3 [14] rfl<|jsg 158 rfl (jd1 15<|jca (.f rfl) [] [] c_law30_awake rfl rfl rfl (cq [6,7,8,9])<|fun r22 _ k=>k<|jdn<|jdp 16 (vb r22) rfl<|jdc 0 [17] rfl<|jde<|
  jnn (gv (fun _ k=>k) [900,901,902,903,904,905,906,907] (gq [6,7,8,9])))<|jdc 2 [15] rfl<|jdp 16 (vb false) rfl<|jdc 0 [17] rfl<|jde<|jnn (gv (fun _ k=>k) [900,901,902,903,904,905,906,907] (gq [6,7,8,9])))<|jdc 5 [9,10,11,12] rfl<|
  jdp 13 (vb false) rfl<|jdc 2 [14,15] rfl<|jdp 16 (vb false) rfl<|jdc 0 [17] rfl<|jde<|jnn (gv (fun _ k=>k) [900,901,902,903,904,905,906,907] (gq [4,5,6,7])))<|jdc 11 [3,4,5,6] rfl<|jdp 7 (vb false) rfl<|jdc 5 [8,9,10,11,12] rfl<|
  jdp 13 (vb false) rfl<|jdc 2 [14,15] rfl<|jdp 16 (vb false) rfl<|jdc 0 [17] rfl<|jde<|jnn (gv (fun _ k=>k) [900,901,902,903,904,905,906,907] (gq [4,5,6,7])))<|fun s9 _ k=>k<|jxr<|jr1 rfl rfl (fun _ k=>k) [] ⟨⟩

end Go.Proofs.YtofmfdlkalakaaaGreatDoor
