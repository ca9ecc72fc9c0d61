/- A part. Conditions: none. -/
import Derived.Test.YtmpieaddiaihmaaGreatDoorBase
import Derived.Lib.SpaceU
import Derived.Lib.Bytealg
import Derived.Lib.ItoaNum
import Derived.Lib.AtoiAll
namespace Go.GD
set_option autoImplicit false
def yQ{α:Type}(f:α->α->Option Int)(x y:α): Bool:=decide ((f x y).getD 0<0)
structure OrdF{α:Type}(f:α->α->Option Int): Prop where
 tot:∀ x y,∃ n,f x y=some n
 irrefl:∀ x,yQ f x x=false
 trans:∀ x y z,yQ f x y=true->yQ f y z=true->yQ f x z=true
 ntrans:∀ x y z,yQ f x y=false->yQ f y z=false->yQ f x z=false
 eq:∀ x y,yQ f x y=false->yQ f y x=false->x=y
open Classical in
noncomputable def z0j{α:Type}(f:α->α->Option Int)(l:List α): Option (List α) :=
 if OrdF f∧l.length<4294967296 then some (l.mergeSort fun x y=>!yQ f y x) else none
structure OrdOn{α:Type}(f:α->α->Option Int)(l:List α): Prop where
 tot:∀ x∈l,∀ y∈l,∃ n,f x y=some n
 irrefl:∀ x∈l,yQ f x x=false
 trans:∀ x∈l,∀ y∈l,∀ z∈l,yQ f x y=true->yQ f y z=true->yQ f x z=true
 ntrans:∀ x∈l,∀ y∈l,∀ z∈l,yQ f x y=false->yQ f y z=false->yQ f x z=false
 eq:∀ x∈l,∀ y∈l,yQ f x y=false->yQ f y x=false->x=y
def vJ (b:Bool): Option Unit:=if b then some () else none
def zZQ{α:Type}(l:List α)(k j:Int): Option α:=if 0≤j then zB l (k+j) else none
def zDV{α:Type}(l:List α)(k:Int)(z:α): List α:=l.take k.toNat++List.replicate (l.length-k.toNat) z
theorem zMC{α:Type}(l:List α)(k:Int)(z:α): (zDV l k z).length=l.length:=by
 simp[zDV];omega
def xC{α:Type}(l:List α)(k:Int)(z:List α): List α:=l.take k.toNat++z.take (l.length-k.toNat)++l.drop (k.toNat+z.length)
theorem zPI{α:Type}(l:List α)(k:Int)(z:List α): (xC l k z).length=l.length:=by
 simp[xC];omega
def insM{α:Type}(l:List α)(i:Int)(z:List α): Option (List α):=if z.length=1∧0≤i∧i≤l.length∧l.length+1<4294967296 then some (l.take i.toNat++z++l.drop i.toNat) else none
def z9a (l:List Int): Option (List Int):=if l.length<4294967296 then some (l.mergeSort fun x y=>decide (x≤y)) else none
def mkS{α:Type}(n c:Int)(z:α): Option (List α):=if 0≤n∧n≤c∧c≤4294967296 then some (List.replicate n.toNat z) else none
def z9I (l:List zG)(s:zG): Option zG:=if l.length≤140737488355328∧(s.intercalate l).length≤140737488355328 then some (s.intercalate l) else none
def z06 (s:zG): Option (List zG):=if s.length<4294967281 then some (Lib.fieldsD s) else none
def z4p (s u:zG): Option Int:=match u with
 | [c]=>some (Lib.indexByte s c)
 | _=>none
def bset (l:zG)(i v:Int): Option zG:=if(0≤i∧i.toNat<l.length)∧0≤v∧v<256 then some (l.set i.toNat (UInt8.ofNat v.toNat)) else none
def uB (l:List Int)(i:Int): Int:=l.getD i.toNat 0
def tG (k:Nat)(l:List Int)(i v:Int): List Int:=(List.range k).map fun j=>if j=i.toNat then v else l.getD j 0
def asub (k:Nat)(l:List Int)(j:Int): Option (List Int):=if 0≤j∧j≤k then some ((List.range j.toNat).map fun i=>l.getD i 0) else none
def aeq (k:Nat)(l m:List Int): Bool:=(List.range k).all fun j=>l.getD j 0==m.getD j 0
inductive An
 | i (n:Int)
 | s (x:zG)
def An.int:An->Int
 | .i n=>n
 | .s _=>0
def An.str:An->zG
 | .s x=>x
 | .i _=>[]
def z98 (n z:Int): Option zG:=if z=10∧-9223372036854775808≤n∧n≤9223372036854775807 then some (Lib.itoa n) else none
end Go.GD
