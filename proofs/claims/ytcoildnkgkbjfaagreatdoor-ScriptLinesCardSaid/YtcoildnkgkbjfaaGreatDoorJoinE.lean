/- A part. Conditions: none. -/
import Derived.Test.YtcoildnkgkbjfaaGreatDoorJoinT
import Derived.Test.YtcoildnkgkbjfaaGreatDoorSb4
namespace Go.GD
open Go Go.RowKit
set_option autoImplicit false
theorem z0I{P:Program}{w:World}{b:Nat}{sp:Nat->Bool}{hl:Bool}{fuel:Nat}{t:TypeId}{ms:Array (String×TypeId)}{cs:List Value}{d:DataW Unit}{p:List MemPlace}
  (ht:P.underlying t=some (.interface ms)) (h:DataW.trod (fun _=>()) P w b sp hl fuel t cs=some (d,p)):∃ ev,cs=[ev]∧(ev=.nilIface∨∃ te pe,ev=.iface te pe):=by
 cases fuel with
 | zero=>simp[DataW.trod] at h
 | succ f =>
  simp only[DataW.trod,ht] at h
  grind
theorem z5e{P:Program}{W:World}{name:String}{d:DataW Unit}{g:Nat}{t:TypeId}{ms:Array (String×TypeId)}
  (hg:P.globalNamed name=some g) (hty:(P.globals[g]?).map (·.type)=some t) (ht:P.underlying t=some (.interface ms))
  (h:Lib.VarReads P W name d):(vW g).h [] W:=by
 obtain⟨g',t',cs,fuel,p,hg',ht',hvar,hd⟩:=h
 obtain rfl:=QE (hg.symm.trans hg')
 obtain rfl:=QE (hty.symm.trans ht')
 obtain⟨ev,hcs,hev⟩:=z0I ht hd
 have hc:cs[0]?=some ev:=by
  rw[←Array.getElem?_toList,hcs];rfl
 refine⟨by simp,ev,?_,hev⟩
 grind [World.var?,World.cell?]
end Go.GD
