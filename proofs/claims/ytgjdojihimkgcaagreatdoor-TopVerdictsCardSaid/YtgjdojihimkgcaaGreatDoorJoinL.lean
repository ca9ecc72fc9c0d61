/- A part. Conditions: none. -/
import Derived.Test.YtgjdojihimkgcaaGreatDoorJoinT
import Derived.Conc.Holds
import Derived.Leaving
import Derived.SevenTiedAt
namespace Go.GD
open Go Go.Conc
set_option autoImplicit false
theorem zWl{a:Assume}{C:Checked}{os:Os}{f:FuncId}{r:Reach}{Pre:World->Array Value->Prop}{Post:World->Array Value->Value->World->Prop}
  (h:ReturnsInHanded a C os f r Pre Post):ReturnsInLeavingWide a C os f r Pre Post:=λenter=>by
 obtain⟨e,own,st,wit,runs⟩:=h enter
 exact⟨e,own,st,wit,λw tape i hi=>by
  obtain⟨n,v,w',h1,h2,h3,h4,⟨j,last,h5,h6,h7⟩,h8⟩:=runs w tape i hi
  exact⟨n,v,w',h1,h2,h3,h4,⟨j,last,h5,h6,h7.2.1,onlyLeaving_of_quiet h7.1,h7.2.2⟩,h8⟩⟩
theorem joined_of{P:Program}{f:FuncId}{fn:Func}{s:ChangeSpec}{c:OpenClaim}
  (h1:c.wf (OpenSpec.ofChange s)=true) (h2:laidOutB P=true) (h3:mapsRowed P=true) (h4:fn.params.all (P.readableRec ·)=true) (h5:namedTie P c.named s.vars=true)
  (h6:(c.stops==[])=true) (h7:(P.stops==[])=true) (h8:(c.knobs==[])=true) (h9:(P.stopKnobs==[])=true)
  (h10:(c.inPlace==P.inPlace f)=true) (h11:(c.unfollowed==P.unfollowed f)=true) (h12:(c.recurses==P.recurses f)=true) (h13:(c.named==P.varsNamed f)=true)
  (h14:(c.plainKeys==P.plainKeys)=true) (h15:P.stopsHeard=true) (h16:P.mayEnter=true) (h17:(c.lifted==P.liftsFinal)=true) (h18:(P.make==some c.make)=true)
  (hrest:((c.maps==(fn.params.toList++s.plain.varTypes P).any (P.mapsRec ·))&&(c.ifaces==(fn.params.toList++s.plain.varTypes P).any (P.ifacesRec ·))&&(c.mapsOut==P.mapsAmong fn.resultTypes.toList) &&
   (c.loops==(fn.params.toList++s.plain.varTypes P).any (P.loopsFrom ·))&&(c.wideKeys==(fn.params.toList++s.plain.varTypes P++fn.resultTypes.toList).any (P.wideKeysFrom ·)) &&
   s.vars.all (P.varReadable ·)&&fn.resultTypes.all (λt=>P.readableRec t&&decide (t<P.types.size))&&(c.ifacesOut==fn.resultTypes.toList.any (P.ifacesRec ·))&&(c.loopsOut==fn.resultTypes.toList.any (P.loopsFrom ·))&&c.shortTexts.isNone &&
   (c.kinds==(if c.domain.isEmpty then[] else fn.params.toList.map λt=>match P.underlying t with | some (.int k)=>some k | _=>none))&&(c.pinned==c.pinnedBy) &&
   (c.veiled==(fn.params.toList++s.plain.varTypes P++fn.resultTypes.toList).any (P.veiledRec ·))&&c.veiledFits P fn.params.toList (fn.params.toList++s.plain.varTypes P++fn.resultTypes.toList):Bool)=true):joinedFacts P f fn s c=true:=by
 unfold joinedFacts
 simp only[h1,h2,h3,h4,h5,h6,h7,h8,h9,h10,h11,h12,h13,h14,h15,h16,h17,h18,Uw,U9]
 exact hrest
theorem z0p (Lk:Looks){p:Pinned}{s:OpenSpec}{c:OpenClaim}(kinds:List LaidKind)(tests:Bool)(har:Bool×String)(lk:Bool)
  (hc:c.holds p s) (hw:c.wfByText s=true) (htie:c.laidByTextAt Lk p kinds tests)
  (hst:c.start=.entering) (hnb:c.noBlocks=false∧c.again=false) (hm:p.checked.prog.mainIs=some (har.1,har.2.toList)) (hn:(!har.1&&har.2.isEmpty&&!lk)=false)
  (hl:∀ f fn,p.checked.prog.funcNamed c.func=some f->p.checked.prog.funcs[f]?=some fn->lk=p.checked.prog.looks []∧∀(j:Nat) t,fn.params[j]?=some t->p.checked.prog.wantsStandIn t=false)
  (hg:true=c.goesBy p.checked.prog) :
  Claim7.holds p (.plain s) { stood:={ row:=c,standIns:=[],harness:=har,looks:=lk },kinds:=[],alts:=[],goes:=true,laidByText:=true,laidKinds:=kinds,laidTests:=tests,laidLooks:=Lk }:=by
 have h6:∀ r:OpenClaim,Claim7.isSixth { stood:={ row:=r,standIns:=[],harness:=har,looks:=lk },kinds:=[] }=false:=λr=>by simpa [Claim7.isSixth] using hn
 exact⟨Claim7.tied_new_at Lk kinds tests (Claim7.new_of_sixth hc har lk hst hnb hm (h6 c) hl) hw,(λD hD=>by cases hD),htie,(λh=>by cases h),hg⟩
end Go.GD
