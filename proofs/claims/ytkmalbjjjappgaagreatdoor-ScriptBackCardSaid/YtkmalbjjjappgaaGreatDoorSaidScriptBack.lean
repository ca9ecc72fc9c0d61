/- A part. Conditions: none. -/
import Derived.Test.YtkmalbjjjappgaaGreatDoorRows
import Derived.Test.YtkmalbjjjappgaaGreatDoorWalk
import Derived.Test.YtkmalbjjjappgaaGreatDoorJoin
import Derived.Test.YtkmalbjjjappgaaGreatDoorPlL3
import Derived.Test.YtkmalbjjjappgaaGreatDoorJoinE
import Derived.Test.YtkmalbjjjappgaaGreatDoorJoinR
import Derived.Test.YtkmalbjjjappgaaGreatDoorCards
import Derived.Test.YtkmalbjjjappgaaGreatDoorFcc
import Derived.Test.YtkmalbjjjappgaaGreatDoorTie
import Derived.SevenTiedAt
namespace Go.Proofs.YtkmalbjjjappgaaGreatDoor.saidScriptBack
open Go Go.GD Go.RowKit Go.ChangeShapes Go.WideShapes Go.ChangeAt
set_option autoImplicit false
set_option maxRecDepth 100000
theorem own:ownKnob Tryz.prog.godebug=none:=by kernel_rfl
theorem z9l:laidOutB Tryz.prog=true:=by kernel_rfl
theorem rd3:Rd Tryz.prog 3 (zT .i64) (wInt .i64):=Rd.int Tryz.underlying3 (by kernel_rfl)
theorem rd22:Rd Tryz.prog 22 (wF (zT .i64)) (z4d (wInt .i64)):=Rd.slice Tryz.underlying22 (by kernel_rfl) rd3
abbrev zX6:List (String×DataW Unit):=[("math/bits.deBruijn32tab",Rows.laid_math_bits_deBruijn32tab),("math/bits.deBruijn64tab",Rows.laid_math_bits_deBruijn64tab),("internal/strconv.uint64pow10",Rows.laid_internal_strconv_uint64pow10),("strconv.ErrRange",Rows.laid_strconv_ErrRange),("strconv.ErrSyntax",Rows.laid_strconv_ErrSyntax),("deliberation/formula.words",Rows.laid_deliberation_formula_words)]
theorem tab1{W:World}(h0:laidMetH Tryz.prog zX6 W): (Pt (zY0 9 qP) 1 0 zAP).h [] W:=by
  have h:=h0
  rw[MakeChecks.laidMetH_plain _ _ _ (by kernel_rfl)] at h
  have hr:Lib.VarReads Tryz.prog W "deliberation/formula.words" (.agg (zAP.map λs=>.lit (.string s))):=(by kernel_rfl:(Rows.laid_deliberation_formula_words:DataW Unit)=.agg (zAP.map λs=>.lit (.string s)))▸Lib.laidMet.reads h (Qm _ (Qm _ (Qm _ (Qm _ (Qm _ (Qt ..))))))
  exact z9v (t:=345) (e:=9) (by kernel_rfl) (by kernel_rfl) (by kernel_rfl) (by kernel_rfl) (by kernel_rfl) (by kernel_rfl) (by decide) hr
theorem tab2{W:World}(h0:laidMetH Tryz.prog zX6 W): (vO 2).h [] W:=by
  have h:=h0
  rw[MakeChecks.laidMetH_plain _ _ _ (by kernel_rfl)] at h
  exact z8r (t:=88) (by kernel_rfl) (by kernel_rfl) Tryz.underlying88 (Lib.laidMet.reads h (Qm _ (Qm _ (Qm _ (Qm _ (Qt ..))))))
theorem tab3{W:World}(h0:laidMetH Tryz.prog zX6 W): (vO 3).h [] W:=by
  have h:=h0
  rw[MakeChecks.laidMetH_plain _ _ _ (by kernel_rfl)] at h
  exact z8r (t:=88) (by kernel_rfl) (by kernel_rfl) Tryz.underlying88 (Lib.laidMet.reads h (Qm _ (Qm _ (Qm _ (Qt ..)))))
theorem tab4{W:World}(h0:laidMetH Tryz.prog zX6 W): (Tb Tryz.prog "internal/strconv.uint64pow10" .u64 Lib.pow10Tab).h [] W:=by
  have h:=h0
  rw[MakeChecks.laidMetH_plain _ _ _ (by kernel_rfl)] at h
  have hr:Lib.VarReads Tryz.prog W "internal/strconv.uint64pow10" (Lib.tabData .u64 Lib.pow10Tab):=(by kernel_rfl:(Rows.laid_internal_strconv_uint64pow10:DataW Unit)=Lib.tabData .u64 Lib.pow10Tab)▸Lib.laidMet.reads h (Qm _ (Qm _ (Qt ..)))
  have hT:Lib.TabIs Tryz.prog W "internal/strconv.uint64pow10" .u64 Lib.pow10Tab:=z5H (t:=378) (e:=158) (n:=20) (g:=4) (by kernel_rfl) (by kernel_rfl) (by kernel_rfl) (by kernel_rfl) (by kernel_rfl) (by kernel_rfl) hr
  exact tb_of (g:=4) (by kernel_rfl) hT
theorem z6w (os:Os)(args:Array Value): laidMetH Tryz.prog zX6 ((World.doorLaid Tryz.prog 67 os).forCall (λ_ _=>0) ⟨#[],args,[]⟩).memory :=
  laidMetH_of_parts3 (fuel:=8) (laidMet_of_run' 8 (by kernel_rfl) (by kernel_rfl)) (by kernel_rfl) (by kernel_rfl)
theorem z7W (H:Type)(enc:TypeId×Value->H)(W:World)(base:Nat)(args:Array Value)(ds gs:List (DataW H))(before:List MemPlace)
    (hval:∀(j:Nat) t v,Tryz.f3.params[j]?=some t->args[j]?=some v->Value.okWide Tryz.prog W .any base t v)
    (hW:DataW.Whole enc Tryz.prog Tryz.f3.params.toList Rows.scriptBackSpec.vars false W args.toList ds gs before)
    (hL:laidMetH Tryz.prog zX6 W) :
    Calls Tryz.prog 3 args W λe W'=>∃ v,e=.returned v/\Rows.scriptBackSpec.post enc Tryz.prog Tryz.f3 false true false false W args v W':=by
  have hW':=hW
  obtain⟨p,q,hA0,hV,hp,_,_⟩:=hW
  have hA:DataW.TrodAll enc Tryz.prog W 0 (λ_=>true) true Tryz.f3.params.toList args.toList ds p:=hA0
  rw[Tryz.params3] at hA hval
  obtain⟨v0,vs0,d0,ds0,p0,q0,hargs,rfl,rfl,h0,r0⟩:=trodAll_cons hA
  obtain⟨rfl,rfl,rfl⟩:=trodAll_nil r0
  obtain rfl:args=#[v0]:=by cases args;simp_all
  obtain⟨rfl,rfl⟩:=trodVars_none hV
  rw[QE] at hp
  obtain⟨_,_,y0,rfl,f1,w0⟩:=z9m Tryz.underlying22 rd22 (hval 0 22 v0 rfl rfl) h0
  refine((zK0 (y0:=y0)).go [] W _ (zQR y0 w0) (qK.start (by simp)) ⟨R.of f1,tab1 hL,tab2 hL,tab3 hL,tab4 hL,trivial⟩).mono λe W' he=>?_
  cases e with
  | panicked ch=>exact he.elim
  | outgrown=>exact he.elim
  | returned v =>
    obtain⟨rfl,hb⟩:v=vb true/\Bk _ _ _ _ _ _ _:=he _ λh=>h
    exact⟨_,rfl,z7P hW' hA0 hp rfl rfl rfl rfl rfl Tryz.underlying4 z9l (by kernel_rfl) hb.e⟩
set_option maxRecDepth 100000 in
theorem lifted (os:Os)(started:os.Started)(H:Type)(enc:TypeId×Value->H):
    ReturnsInHanded {} Tryz.checked os 3 .any (λw args=>(Rows.scriptBackSpec.pre enc Tryz.prog Tryz.f3 [] false w args/\laidMetH Tryz.prog zX6 w)/\sizedMet enc Tryz.prog Tryz.f3 (OpenSpec.ofChange Rows.scriptBackSpec) false w args) (Rows.scriptBackSpec.post enc Tryz.prog Tryz.f3 false true false false):=by
  refine returnsInHanded_of_change_and (C:=Tryz.checked) (X:=λw _=>laidMetH Tryz.prog zX6 w) (λ_ _ _ hh h=>h.of_heap hh) own started (by kernel_rfl) Tryz.func3
    (ChangeSpec.witness_shaped (enc:=enc) (C:=Tryz.checked) (os:=os) (X:=λw _=>laidMetH Tryz.prog zX6 w) false (World.doorLaid Tryz.prog 67 os) #[.slice none 0 0] 8 rfl (World.shaped_of_RefB (by kernel_rfl) (by kernel_rfl)) (by kernel_rfl) (by kernel_rfl) (by kernel_rfl) (z6w os _)) ?_
  intro W base args ds gs before hval hW _ _ hL _
  exact z7W H enc W base args ds gs before hval hW hL
set_option maxHeartbeats 4000000
theorem pf0:Tryz.pinned.checked.prog.funcNamed Rows.scriptBackRow.func=some 3:=by kernel_rfl
theorem pf1:joinedFacts Tryz.pinned.checked.prog 3 Tryz.f3 Rows.scriptBackSpec Rows.scriptBackRow=true:=fc7
theorem pf2:decide (Tryz.f3.isInstance Tryz.pinned.checked.prog Rows.scriptBackRow.origin Rows.scriptBackRow.targs)=true:=by kernel_rfl
theorem pf3:Tryz.f3.isWrapper Tryz.pinned.checked.prog Rows.scriptBackRow.wrapper Rows.scriptBackRow.mainSum:=by unfold Func.isWrapper;first | (rw[Qi (by decide +kernel)];kernel_rfl) | (rw[Qa (by decide +kernel)];exact⟨rfl,rfl⟩)
theorem proved:Rows.ScriptBackSaid :=
  OpenClaim.holds_of_wide 3 Tryz.f3 rfl rfl rfl rfl rfl rfl rfl ⟨rfl,rfl,rfl,rfl,rfl⟩ rfl rfl rfl rfl rfl pf0 Tryz.func3 pf1 (of_decide_eq_true pf2) pf3
    (λos started H enc _=>lifted os started H enc)
theorem card:Rows.ScriptBackCardSaid :=
  Claim7.holds_tied_plain_at .later [] [.data,.data,.data,.sentinel,.sentinel,.data] true (true,"dd70c13e074e2116007e8c1cc6b1394c0fa8cb7e6701266b6113bbce9279caf7") true
    proved (λ_ h=>by cases h) (by kernel_rfl) (λ_ h=>by cases h) Go.Proofs.YtkmalbjjjappgaaGreatDoor.scriptBack_row_tie rfl ⟨rfl,rfl⟩ (by kernel_rfl) rfl
    (λf fn hf hfn=>by
      obtain rfl:f=3:=QA ((show Tryz.prog.funcNamed "deliberation/deliberationlaw41.ScriptBack"=some 3 by kernel_rfl).symm.trans hf) |>.symm
      obtain rfl:fn=Tryz.f3:=(QA (Tryz.func3.symm.trans hfn)).symm
      exact⟨by kernel_rfl,λj t ht=>by
        rw[Tryz.params3] at ht
        have hm:t∈[22]:=by simpa using Array.mem_of_getElem? ht
        have hall:([22].all λu=>!Tryz.prog.wantsStandIn u)=true:=by kernel_rfl
        exact(show Tryz.prog.wantsStandIn t=false by simpa using QR.1 hall t hm)⟩)
    fc6
end Go.Proofs.YtkmalbjjjappgaaGreatDoor.saidScriptBack
namespace Go.Proofs.YtkmalbjjjappgaaGreatDoor
theorem x_ScriptBack:Rows.ScriptBackCardSaid:=saidScriptBack.card
end Go.Proofs.YtkmalbjjjappgaaGreatDoor
