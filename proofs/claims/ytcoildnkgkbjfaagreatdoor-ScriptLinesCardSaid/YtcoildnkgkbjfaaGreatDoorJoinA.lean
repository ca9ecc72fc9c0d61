/- A part. Conditions: none. -/
import Derived.Test.YtcoildnkgkbjfaaGreatDoorJoinT
namespace Go.GD
open Go Go.RowKit Go.ChangeShapes Go.WideShapes Go.ChangeAt
set_option autoImplicit false
theorem Rd.arr2{P:Program}{t te:TypeId}{τ:Type}{e:E τ}{W:τ->Prop}(hu:P.underlying t=some (.array 2 te))(R:Rd P te e W)(hc:P.cellsOf t=e.n+e.n): Rd P t (qM e e) (vQ W W) :=
 ⟨fun {H enc w fuel cs x} h=>by
  obtain⟨xs,m,_,ex,hl,hl2,hel⟩:=DataW.trod_array hu h
  have h0:=hel 0 (by omega)
  have h1:=hel 1 (by omega)
  rw[R.cells] at h0 h1
  rw[Qi (by omega)] at h0 h1
  obtain⟨y0,r0,w0⟩:=R.row h0
  obtain⟨y1,r1,w1⟩:=R.row h1
  rw[Nat.zero_mul,Ug] at r0
  rw[UM,QX (by grind)] at r1
  exact⟨(y0,y1),⟨_,_,(QC _ _).symm,r0,r1⟩,w0,w1⟩,hc⟩
end Go.GD
