/- A part. Conditions: none. -/
import Derived.Test.YtcoildnkgkbjfaaGreatDoorBase
import Derived.Lib.SpaceU
import Derived.Lib.Bytealg
import Derived.Lib.ItoaNum
import Derived.Lib.AtoiAll
namespace Go.GD
set_option autoImplicit false
def ltF{α:Type}(f:α->α->Option Int)(x y:α): Bool:=decide ((f x y).getD 0<0)
structure OrdF{α:Type}(f:α->α->Option Int): Prop where
 tot:∀ x y,∃ n,f x y=some n
 irrefl:∀ x,ltF f x x=false
 trans:∀ x y z,ltF f x y=true->ltF f y z=true->ltF f x z=true
 ntrans:∀ x y z,ltF f x y=false->ltF f y z=false->ltF f x z=false
 eq:∀ x y,ltF f x y=false->ltF f y x=false->x=y
structure OrdOn{α:Type}(f:α->α->Option Int)(l:List α): Prop where
 tot:∀ x∈l,∀ y∈l,∃ n,f x y=some n
 irrefl:∀ x∈l,ltF f x x=false
 trans:∀ x∈l,∀ y∈l,∀ z∈l,ltF f x y=true->ltF f y z=true->ltF f x z=true
 ntrans:∀ x∈l,∀ y∈l,∀ z∈l,ltF f x y=false->ltF f y z=false->ltF f x z=false
 eq:∀ x∈l,∀ y∈l,ltF f x y=false->ltF f y x=false->x=y
def chk (b:Bool): Option Unit:=if b then some () else none
def z59{α:Type}(l:List α)(k j:Int): Option α:=if 0≤j then zD l (k+j) else none
def zLn{α:Type}(l:List α)(k:Int)(z:α): List α:=l.take k.toNat++List.replicate (l.length-k.toNat) z
theorem zQr{α:Type}(l:List α)(k:Int)(z:α): (zLn l k z).length=l.length:=by
 simp[zLn];omega
def zIs{α:Type}(l:List α)(k:Int)(z:List α): List α:=l.take k.toNat++z.take (l.length-k.toNat)++l.drop (k.toNat+z.length)
theorem zKF{α:Type}(l:List α)(k:Int)(z:List α): (zIs l k z).length=l.length:=by
 simp[zIs];omega
def z6a (l:List Int): Option (List Int):=if l.length<4294967296 then some (l.mergeSort fun x y=>decide (x≤y)) else none
def mkS{α:Type}(n c:Int)(z:α): Option (List α):=if 0≤n∧n≤c∧c≤4294967296 then some (List.replicate n.toNat z) else none
def z42 (l:List zA)(s:zA): Option zA:=if l.length≤140737488355328∧(s.intercalate l).length≤140737488355328 then some (s.intercalate l) else none
def zZA (s u:zA): Option Int:=match u with
 | [c]=>some (Lib.indexByte s c)
 | _=>none
def z3y (l s:zA): Option (Int×Unit×zA):=if l.length+s.length<4294967296 then some (len s,(),l++s) else none
def bset (l:zA)(i v:Int): Option zA:=if(0≤i∧i.toNat<l.length)∧0≤v∧v<256 then some (l.set i.toNat (UInt8.ofNat v.toNat)) else none
inductive An
 | i (n:Int)
 | s (x:zA)
def An.int:An->Int
 | .i n=>n
 | .s _=>0
def An.str:An->zA
 | .s x=>x
 | .i _=>[]
def z4E (n z:Int): Option zA:=if z=10∧-9223372036854775808≤n∧n≤9223372036854775807 then some (Lib.itoa n) else none
def z4t (s:zA): Option (Int×Bool):=if s.length≤281474976710656 then(match Lib.atoiAll s with
  | .ok v=>some (v,false)
  | .«syntax»=>some (0,true)
  | .range=>some (Lib.atoiSat s,true)) else none
def z6J (f:Int->Option Bool): List UInt8->Nat->Int
 | [],_=>-1
 | b::l,i=>if 128≤b.toNat∨f (b.toNat:Int)=some true then(i:Int) else z6J f l (i+1)
open Classical in
noncomputable def idxF (f:Int->Option Bool)(t:Bool)(s:List UInt8): Option Int :=
 if t=true∧(∀ n:Nat,n<128->(f (n:Int)).isSome=true)∧(∀ n:Nat,128≤n->n≤1114111->f (n:Int)=some true) then some (z6J f s 0) else none
end Go.GD
