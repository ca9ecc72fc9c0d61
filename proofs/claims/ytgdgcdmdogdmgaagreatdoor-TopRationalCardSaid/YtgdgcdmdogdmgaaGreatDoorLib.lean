/- A part. Conditions: none. -/
import Derived.Test.YtgdgcdmdogdmgaaGreatDoorBase
import Derived.Lib.SpaceU
import Derived.Lib.Bytealg
import Derived.Lib.ItoaNum
import Derived.Lib.AtoiAll
namespace Go.GD
set_option autoImplicit false
def yN{α:Type}(f:α->α->Option Int)(x y:α): Bool:=decide ((f x y).getD 0<0)
structure OrdF{α:Type}(f:α->α->Option Int): Prop where
 tot:∀ x y,∃ n,f x y=some n
 irrefl:∀ x,yN f x x=false
 trans:∀ x y z,yN f x y=true->yN f y z=true->yN f x z=true
 ntrans:∀ x y z,yN f x y=false->yN f y z=false->yN f x z=false
 eq:∀ x y,yN f x y=false->yN f y x=false->x=y
open Classical in
noncomputable def zZ7{α:Type}(f:α->α->Option Int)(l:List α): Option (List α) :=
 if OrdF f∧l.length<4294967296 then some (l.mergeSort fun x y=>!yN f y x) else none
structure OrdOn{α:Type}(f:α->α->Option Int)(l:List α): Prop where
 tot:∀ x∈l,∀ y∈l,∃ n,f x y=some n
 irrefl:∀ x∈l,yN f x x=false
 trans:∀ x∈l,∀ y∈l,∀ z∈l,yN f x y=true->yN f y z=true->yN f x z=true
 ntrans:∀ x∈l,∀ y∈l,∀ z∈l,yN f x y=false->yN f y z=false->yN f x z=false
 eq:∀ x∈l,∀ y∈l,yN f x y=false->yN f y x=false->x=y
def wV (b:Bool): Option Unit:=if b then some () else none
def zYA{α:Type}(l:List α)(k j:Int): Option α:=if 0≤j then zB l (k+j) else none
def zDI{α:Type}(l:List α)(k:Int)(z:α): List α:=l.take k.toNat++List.replicate (l.length-k.toNat) z
theorem zL1{α:Type}(l:List α)(k:Int)(z:α): (zDI l k z).length=l.length:=by
 simp[zDI];omega
def zJf{α:Type}(l:List α)(k:Int)(z:List α): List α:=l.take k.toNat++z.take (l.length-k.toNat)++l.drop (k.toNat+z.length)
theorem zOy{α:Type}(l:List α)(k:Int)(z:List α): (zJf l k z).length=l.length:=by
 simp[zJf];omega
def delM{α:Type}(l:List α)(i j:Int): Option (List α):=if 0≤i∧i≤j∧j≤l.length then some (l.take i.toNat++l.drop j.toNat) else none
def z8z (l:List Int): Option (List Int):=if l.length<4294967296 then some (l.mergeSort fun x y=>decide (x≤y)) else none
def mkS{α:Type}(n c:Int)(z:α): Option (List α):=if 0≤n∧n≤c∧c≤4294967296 then some (List.replicate n.toNat z) else none
def z81 (l:List zD)(s:zD): Option zD:=if l.length≤140737488355328∧(s.intercalate l).length≤140737488355328 then some (s.intercalate l) else none
def zZp (s:zD): Option (List zD):=if s.length<4294967281 then some (Lib.fieldsD s) else none
def z4I (s u:zD): Option Int:=match u with
 | [c]=>some (Lib.indexByte s c)
 | _=>none
def z4W (l s:zD): Option (Int×Unit×zD):=if l.length+s.length<4294967296 then some (len s,(),l++s) else none
def bset (l:zD)(i v:Int): Option zD:=if(0≤i∧i.toNat<l.length)∧0≤v∧v<256 then some (l.set i.toNat (UInt8.ofNat v.toNat)) else none
def vY (l:List Int)(i:Int): Int:=l.getD i.toNat 0
def xZ (k:Nat)(l:List Int)(i v:Int): List Int:=(List.range k).map fun j=>if j=i.toNat then v else l.getD j 0
def z8o (k:Nat)(l:List Int)(j:Int): Option (List Int):=if 0≤j∧j≤k then some ((List.range j.toNat).map fun i=>l.getD i 0) else none
def aeq (k:Nat)(l m:List Int): Bool:=(List.range k).all fun j=>l.getD j 0==m.getD j 0
inductive An
 | i (n:Int)
 | s (x:zD)
def An.int:An->Int
 | .i n=>n
 | .s _=>0
def An.str:An->zD
 | .s x=>x
 | .i _=>[]
def z8f (n z:Int): Option zD:=if z=10∧-9223372036854775808≤n∧n≤9223372036854775807 then some (Lib.itoa n) else none
def apw{α:Type}(l m:List α): Option (List α):=if l.length+m.length<2199023255552 then some (l++m) else none
def gd (n:Nat): Option Unit:=if n<4294967296 then some () else none
end Go.GD
