/- A part. Conditions: none. -/
import Derived.Test.YtkmalbjjjappgaaGreatDoorJoin
import Derived.Test.YtkmalbjjjappgaaGreatDoorCopy
import Derived.Lib.LaidU8
import Derived.Lib.LaidTab
import Derived.LaidMore
import Derived.LaidLaws
import Derived.Stop.Joined
namespace Go.GD
open Go Go.RowKit
set_option autoImplicit false
variable {qd:Prop}
theorem z5H{P:Program}{W:World}{name:String}{k:IntKind}{zs:List Int}{g:Nat}{t e:TypeId}{n:Nat}
  (hg:P.globalNamed name=some g) (hty:(P.globals[g]?).map (·.type)=some t) (ht:P.underlying t=some (.array n e)) (he:P.underlying e=some (.int k)) (hce:P.cellsOf e=1) (hct:P.cellsOf t=n)
  (h:Lib.VarReads P W name (Lib.tabData k zs)):Lib.TabIs P W name k zs:=by
 obtain⟨g',t',cs,fuel,p,hg',ht',hvar,hd⟩:=h;obtain rfl:=QA (hg.symm.trans hg');obtain rfl:=QA (hty.symm.trans ht');unfold Lib.TabIs;rw[hvar,<-Lib.cells_of_tab ht he hce hct hd]
variable{P:Program}{W:World}{name:String}{g:Nat}
theorem tb_of{k:IntKind}{zs:List Int}(hg:P.globalNamed name=some g)(h:Lib.TabIs P W name k zs): (Tb P name k zs).h [] W:=by
 refine⟨g,hg,by simp,?_,h⟩;grind [Lib.TabIs,World.var?]
theorem z9v{ss:List zA}{t e:TypeId}{n:Nat}
  (hg:P.globalNamed name=some g) (hty:(P.globals[g]?).map (·.type)=some t) (ht:P.underlying t=some (.array n e)) (he:P.underlying e=some .string) (hce:P.cellsOf e=1) (hn:ss.length=n) (h0:0<n)
  (h:Lib.VarReads P W name (.agg (ss.map λs=>.lit (.string s)))):(Pt (zY0 n qP) g 0 ss).h [] W:=by
 obtain⟨g',t',cs,fuel,p,hg',ht',hvar,hd⟩:=h;obtain rfl:=QA (hg.symm.trans hg');obtain rfl:=QA (hty.symm.trans ht');have hcell:∀ i s,ss[i]?=some s->W.cell? ⟨g,i,none⟩=some (.string ⟨⟨s⟩⟩):=λi s hs=>by
  have hi:i<n:=by have:=(Qk.1 hs).1;omega
  obtain⟨f2,d,q,h1,h2⟩:=Lib.array_elem ht hd i hi;have hds:d=.lit (.string s):=by
   rw[Um,hs] at h1;exact(QA h1).symm
  subst hds;rw[hce,Nat.mul_one] at h2;have hv:(cs.toList.drop i).take 1=[.string ⟨⟨s⟩⟩]:=by
   cases f2 with
   | zero=>simp[DataW.trod] at h2
   | succ f2=>
    generalize (cs.toList.drop i).take 1=l at h2;simp only[DataW.trod,he] at h2;split at h2 <;> simp_all;obtain⟨_,h3,_⟩:=h2;rw[<-h3]
  have hc:cs[i]?=some (.string ⟨⟨s⟩⟩):=by
   have:=congrArg (·[0]?) hv;simpa [UM,List.getElem?_drop] using this
  grind [World.var?,World.cell?]
 refine⟨g,0,ss.map λs=>Value.string ⟨⟨s⟩⟩,rfl,by simp,?_,⟨hn,z11 ss⟩,λj u hu=>?_⟩
 ·obtain⟨s,hs⟩:∃ s,ss[0]?=some s:=⟨ss[0],by simp⟩;exact World.block_lt_of_cell? W _ (hcell 0 s hs)
 grind
end Go.GD
