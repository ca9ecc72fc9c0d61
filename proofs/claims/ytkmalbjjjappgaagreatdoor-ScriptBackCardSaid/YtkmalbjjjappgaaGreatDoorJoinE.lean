/- A part. Conditions: none. -/
import Derived.Test.YtkmalbjjjappgaaGreatDoorJoinT
import Derived.Test.YtkmalbjjjappgaaGreatDoorCopy
namespace Go.GD
open Go Go.RowKit
set_option autoImplicit false
variable{P:Program}{t:TypeId}{ms:Array (String×TypeId)}
theorem z2c{w:World}{b:Nat}{sp:Nat->Bool}{hl:Bool}{fuel:Nat}{cs:List Value}{d:DataW Unit}{p:List MemPlace}
  (ht:P.underlying t=some (.interface ms)) (h:DataW.trod (λ_=>()) P w b sp hl fuel t cs=some (d,p)):∃ ev,cs=[ev]/\(ev=.nilIface\/∃ te pe,ev=.iface te pe):=by
 cases fuel with
 | zero=>simp[DataW.trod] at h
 | succ f=>
  simp only[DataW.trod,ht] at h;grind
theorem z8r{W:World}{name:String}{d:DataW Unit}{g:Nat}
  (hg:P.globalNamed name=some g) (hty:(P.globals[g]?).map (·.type)=some t) (ht:P.underlying t=some (.interface ms))
  (h:Lib.VarReads P W name d):(vO g).h [] W:=by
 obtain⟨g',t',cs,fuel,p,hg',ht',hvar,hd⟩:=h;obtain rfl:=QA (hg.symm.trans hg');obtain rfl:=QA (hty.symm.trans ht');obtain⟨ev,hcs,hev⟩:=z2c ht hd;have hc:cs[0]?=some ev:=by
  rw[<-Array.getElem?_toList,hcs];rfl
 refine⟨by simp,ev,?_,hev⟩;grind [World.var?,World.cell?]
end Go.GD
