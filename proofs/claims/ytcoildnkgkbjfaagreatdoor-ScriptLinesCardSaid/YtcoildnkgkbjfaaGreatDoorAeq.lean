/- A part. Conditions: none. -/
import Derived.Test.YtcoildnkgkbjfaaGreatDoorArrv
import Derived.ChangeKeysEq
namespace Go.GD
open Go Go.RowKit
set_option autoImplicit false
section
variable {P:Program}{n:Nat}{S:Sl}{x y:Operand}{a:Act}{t te:Nat}{ty u:TypeId}{pos:String}{af:Array Edge}{g:Option (Nat×Bool)}{kd:IntKind}{i1 i2 j1 j2:Int}{d:Option Tmp}
theorem zOk{cs:Array Value}{o:Nat}{v:Value}(hsh:uB P te=some (false,1))(h:cs[o]?=some v)(w:World): (part te cs o).run P w=.ok v w :=
 by grind [zLd,z2m]
theorem z4b{i:TypeInfo}(hu:P.underlying t=some (.array 2 te))(he:P.underlying te=some (.int kd))(hi:P.info? te=some i)(hc:P.cellsOf te=1)(hsh:uB P te=some (false,1))(w:World):
  (Op.equalIn 10000 t (.agg #[.int kd i1,.int kd i2]) (.agg #[.int kd j1,.int kd j2])).run P w=.ok ((i1,i2)==(j1,j2)) w:=by
 rw[show(10000:Nat)=9998+1+1 from rfl,run_equalIn_array w 9999 _ _ hu hi,hc,show List.range 2=[0,1] from rfl]
 unfold Op.eqItems
 simp only[Sem.run_bind,Sem.run_ite,Nat.zero_mul]
 rw[zOk hsh (v:=.int kd i1) rfl,Result.andThen_ok,zOk hsh (v:=.int kd j1) rfl,Result.andThen_ok,run_equalIn_int w 9998 te kd kd i1 j1 he,Result.andThen_ok]
 cases h1:(i1==j1) with
 | false =>
  simp_all
 | true =>
  have:((i1,i2)==(j1,j2))=(i2==j2):=by
   show((i1==j1)&&(i2==j2))=(i2==j2)
   rw[h1];rfl
  rw[this]
  unfold Op.eqItems
  simp only[Sem.run_bind,Sem.run_ite,UM,Qx,zbf,Qh]
  rw[zOk hsh (v:=.int kd i2) rfl,Result.andThen_ok,zOk hsh (v:=.int kd j2) rfl,Result.andThen_ok,run_equalIn_int w 9998 te kd kd i2 j2 he,Result.andThen_ok]
  cases h2:(i2==j2) with
  | false=>simp
  | true=>simp[Op.eqItems]
theorem z5x (hS:qO a n S)(hx:zP S x=some (.agg #[.int kd i1,.int kd i2]))(hy:zP S y=some (.agg #[.int kd j1,.int kd j2]))(hu:P.underlying t=some (.array 2 te))(he:P.underlying te=some (.int kd))(hi:(P.info? te).isSome=true)(hc:P.cellsOf te=1)
  (hsh:uB P te=some (false,1)) (hg:P.eqGuardType P.depth t=false) (w:World) :
  (execOp a.eval ⟨d,.binOp .eql t x y u,ty,pos,af,g⟩).run P w=.ok (.value (vb ((i1,i2)==(j1,j2)))) w:=by
 obtain⟨i,hi⟩:=Option.isSome_iff_exists.1 hi
 simp[execOp,hS.eval hx,hS.eval hy,run_eqGuard_agg,hg,run_eql_struct,z4b hu he hi hc hsh]
end
end Go.GD
