/- A part. Conditions: none. -/
import Derived.Test.YtmpieaddiaihmaaGreatDoorPlR2
namespace Go.GD
set_option autoImplicit false
set_option linter.unusedVariables false
section
noncomputable section
def zMz (n_:Nat) y0 s1:Tw (zER y0 s1):=by
 delta zER
 repeat with_reducible (first | intro _ | apply ti | apply ts | apply tb | apply tl n_ | exact td _)
def zOw (n_:Nat) y0:Tw (zBd y0):=by
 delta zBd
 repeat with_reducible (first | intro _ | apply zMz n_ | apply ti | apply ts | apply tb | apply tl n_ | exact td _)
def zHY (n_:Nat)(y0:List zI): Tw (zAD y0):=⟨zB6 n_ y0,zGl n_ y0⟩
def zPy (n_:Nat) y0:Tw (zDf y0):=by
 delta zDf
 repeat with_reducible (first | intro _ | apply zHY n_ | apply zOw n_ | apply ti | apply ts | apply tb | apply tl n_ | exact td _)
def zKz (n_:Nat) y0 y1:Tw (zBI y0 y1):=by
 delta zBI
 repeat with_reducible (first | intro _ | apply zPy n_ | apply ti | apply ts | apply tb | apply tl n_ | exact td _)
def z28 (n_:Nat) y0:Tw (zGW y0):=by
 delta zGW
 repeat with_reducible (first | intro _ | apply ti | apply ts | apply tb | apply tl n_ | exact td _)
def z0e (n_:Nat) y0:Tw (zGn y0):=by
 delta zGn
 repeat with_reducible (first | intro _ | apply ti | apply ts | apply tb | apply tl n_ | exact td _)
def z2U (n_:Nat) y0:Tw (zGV y0):=by
 delta zGV
 repeat with_reducible (first | intro _ | apply ti | apply ts | apply tb | apply tl n_ | exact td _)
def zXc (n_:Nat) y0 y1:Tw (zCj y0 y1):=by
 delta zCj
 repeat with_reducible (first | intro _ | apply z2U n_ | apply ti | apply ts | apply tb | apply tl n_ | exact td _)
def zST (n_:Nat) y0 s1:Tw (zBY y0 s1):=by
 delta zBY
 repeat with_reducible (first | intro _ | apply zXc n_ | apply ti | apply ts | apply tb | apply tl n_ | exact td _)
def zMY (n_:Nat) y0:Tw (zA2 y0):=by
 delta zA2
 repeat with_reducible (first | intro _ | apply zST n_ | apply ti | apply ts | apply tb | apply tl n_ | exact td _)
def zSF (n_:Nat) y0:Tw (zDR y0):=by
 delta zDR
 repeat with_reducible (first | intro _ | apply zMY n_ | apply ti | apply ts | apply tb | apply tl n_ | exact td _)
def zMR (n_:Nat) y0 y1:Tw (zCU y0 y1):=by
 delta zCU
 repeat with_reducible (first | intro _ | apply zSF n_ | apply z0e n_ | apply z28 n_ | apply ti | apply ts | apply tb | apply tl n_ | exact td _)
def zNP (n_:Nat) y0 y1:Tw (zC2 y0 y1):=by
 delta zC2
 repeat with_reducible (first | intro _ | apply ti | apply ts | apply tb | apply tl n_ | exact td _)
def zSy (n_:Nat) r4 y0 s6 s9 s10:Tw (zBm r4 y0 s6 s9 s10):=by
 delta zBm
 repeat with_reducible (first | intro _ | apply zMR n_ | apply ti | apply ts | apply tb | apply tl n_ | exact td _)
def zTM (n_:Nat) s6 y0 s9:Tw (zC3 s6 y0 s9):=by
 delta zC3
 repeat with_reducible (first | intro _ | apply zMR n_ | apply zSy n_ | apply ti | apply ts | apply tb | apply tl n_ | exact td _)
def zSi (n_:Nat) y0 s6:Tw (zB3 y0 s6):=by
 delta zB3
 repeat with_reducible (first | intro _ | apply zTM n_ | apply ti | apply ts | apply tb | apply tl n_ | exact td _)
def zWU (n_:Nat) y0:Tw (zDj y0):=by
 delta zDj
 repeat with_reducible (first | intro _ | apply zNP n_ | apply zSi n_ | apply ti | apply ts | apply tb | apply tl n_ | exact td _)
def zPt (n_:Nat) y0:Tw (zCW y0):=by
 delta zCW
 repeat with_reducible (first | intro _ | apply zWU n_ | apply ti | apply ts | apply tb | apply tl n_ | exact td _)
def zTn (n_:Nat) y0:Tw (zEn y0):=by
 delta zEn
 repeat with_reducible (first | intro _ | apply zPt n_ | apply ti | apply ts | apply tb | apply tl n_ | exact td _)
def zJj (n_:Nat) y0:Tw (zAR y0):=by
 delta zAR
 repeat with_reducible (first | intro _ | apply zTn n_ | apply ti | apply ts | apply tb | apply tl n_ | exact td _)
def zCY (n_:Nat) y0 y1:Tw (zA3 y0 y1):=by
 delta zA3
 repeat with_reducible (first | intro _ | apply ti | apply ts | apply tb | apply tl n_ | exact td _)
def zJg (n_:Nat) r1 s1:Tw (zAS r1 s1):=by
 delta zAS
 repeat with_reducible (first | intro _ | apply zCY n_ | apply ti | apply ts | apply tb | apply tl n_ | exact td _)
def zKo (n_:Nat) y0:Tw (zAa y0):=by
 delta zAa
 repeat with_reducible (first | intro _ | apply zJj n_ | apply zJg n_ | apply ti | apply ts | apply tb | apply tl n_ | exact td _)
def zTy (n_:Nat) y0 y1:Tw (zHs y0 y1):=by
 delta zHs
 repeat with_reducible (first | intro _ | apply ti | apply ts | apply tb | apply tl n_ | exact td _)
def zLe (n_:Nat) y0 y1:Tw (zCc y0 y1):=by
 delta zCc
 repeat with_reducible (first | intro _ | apply ti | apply ts | apply tb | apply tl n_ | exact td _)
def zVX (n_:Nat) y0 y1:Tw (zIp y0 y1):=by
 delta zIp
 repeat with_reducible (first | intro _ | apply zLe n_ | apply ti | apply ts | apply tb | apply tl n_ | exact td _)
def zVP (n_:Nat) y0:Tw (zI9 y0):=by
 delta zI9
 repeat with_reducible (first | intro _ | apply ti | apply ts | apply tb | apply tl n_ | exact td _)
def zVj (n_:Nat) y0:Tw (zId y0):=by
 delta zId
 repeat with_reducible (first | intro _ | apply ti | apply ts | apply tb | apply tl n_ | exact td _)
def zVD (n_:Nat) y0 y1:Tw (zIk y0 y1):=by
 delta zIk
 repeat with_reducible (first | intro _ | apply zLe n_ | apply ti | apply ts | apply tb | apply tl n_ | exact td _)
def zRQ (n_:Nat) y0 y1:Tw (zFA y0 y1):=by
 delta zFA
 repeat with_reducible (first | intro _ | apply zVD n_ | apply ti | apply ts | apply tb | apply tl n_ | exact td _)
def zHO (n_:Nat) y1 s1:Tw (zB7 y1 s1):=by
 delta zB7
 repeat with_reducible (first | intro _ | apply zRQ n_ | apply ti | apply ts | apply tb | apply tl n_ | exact td _)
def zIJ (n_:Nat) y0 y1:Tw (zBD y0 y1):=by
 delta zBD
 repeat with_reducible (first | intro _ | apply zHO n_ | apply ti | apply ts | apply tb | apply tl n_ | exact td _)
def zNT (n_:Nat) y0 y1:Tw (zEP y0 y1):=by
 delta zEP
 repeat with_reducible (first | intro _ | apply zTy n_ | apply zVj n_ | apply zVX n_ | apply zIJ n_ | apply zVP n_ | apply ti | apply ts | apply tb | apply tl n_ | exact td _)
def zI4 (n_:Nat) y0 y1:Tw (zBC y0 y1):=by
 delta zBC
 repeat with_reducible (first | intro _ | apply ti | apply ts | apply tb | apply tl n_ | exact td _)
def zHB (n_:Nat) y0 y1:Tw (zAk y0 y1):=by
 delta zAk
 repeat with_reducible (first | intro _ | apply zI4 n_ | apply ti | apply ts | apply tb | apply tl n_ | exact td _)
def zXX (n_:Nat) y0 y1:Tw (zKN y0 y1):=by
 delta zKN
 repeat with_reducible (first | intro _ | apply zHB n_ | apply ti | apply ts | apply tb | apply tl n_ | exact td _)
def zW6 (n_:Nat) x1 y0 s1:Tw (zMZ x1 y0 s1):=by
 delta zMZ
 repeat with_reducible (first | intro _ | apply zXX n_ | apply ti | apply ts | apply tb | apply tl n_ | exact td _)
def zUe (n_:Nat) y0:Tw (zKa y0):=by
 delta zKa
 repeat with_reducible (first | intro _ | apply zW6 n_ | apply ti | apply ts | apply tb | apply tl n_ | exact td _)
def zJP (n_:Nat)(y0:List zT): Tw (zA9 y0):=⟨zCE n_ y0,zI8 n_ y0⟩
def zXr (n_:Nat) y0:Tw (zFw y0):=by
 delta zFw
 repeat with_reducible (first | intro _ | apply zSF n_ | apply zJP n_ | apply ti | apply ts | apply tb | apply tl n_ | exact td _)
def zVZ (n_:Nat) y0 y1:Tw (zBx y0 y1):=by
 delta zBx
 repeat with_reducible (first | intro _ | apply zXr n_ | apply zMR n_ | apply ti | apply ts | apply tb | apply tl n_ | exact td _)
def zJv (n_:Nat) y0:Tw (zCd y0):=by
 delta zCd
 repeat with_reducible (first | intro _ | apply ti | apply ts | apply tb | apply tl n_ | exact td _)
def zJz (n_:Nat)(y0:yN):= (zJv n_ y0).1
theorem zOE (n_:Nat)(y0:yN): Le (zJz n_ y0) (zCd y0):=(zJv n_ y0).2
def zRV (n_:Nat) y0 y1 y2:Tw (zEm y0 y1 y2):=by
 delta zEm
 repeat with_reducible (first | intro _ | apply ti | apply ts | apply tb | apply tl n_ | exact td _)
def zPD (n_:Nat) y0 y1:Tw (zDv y0 y1):=by
 delta zDv
 repeat with_reducible (first | intro _ | apply zRV n_ | apply ti | apply ts | apply tb | apply tl n_ | exact td _)
def zTP (n_:Nat) y0 y1 y2:Tw (zC5 y0 y1 y2):=by
 delta zC5
 repeat with_reducible (first | intro _ | apply ti | apply ts | apply tb | apply tl n_ | exact td _)
def zOz (n_:Nat) y0 y1:Tw (zDa y0 y1):=by
 delta zDa
 repeat with_reducible (first | intro _ | apply zTP n_ | apply ti | apply ts | apply tb | apply tl n_ | exact td _)
def zTw (n_:Nat) y0 y1:Tw (zEs y0 y1):=by
 delta zEs
 repeat with_reducible (first | intro _ | apply ti | apply ts | apply tb | apply tl n_ | exact td _)
def zDT (n_:Nat) y0 y1:Tw (zAg y0 y1):=by
 delta zAg
 repeat with_reducible (first | intro _ | apply zTw n_ | apply ti | apply ts | apply tb | apply tl n_ | exact td _)
def zNQ (n_:Nat) y0 s3:Tw (zEK y0 s3):=by
 delta zEK
 repeat with_reducible (first | intro _ | apply zOz n_ | apply zPD n_ | apply ti | apply ts | apply tb | apply tl n_ | exact td _)
def zMy (n_:Nat) y0 s1:Tw (zEI y0 s1):=by
 delta zEI
 repeat with_reducible (first | intro _ | apply zNQ n_ | apply zDT n_ | apply ti | apply ts | apply tb | apply tl n_ | exact td _)
def zJx (n_:Nat) y0:Tw (zCb y0):=by
 delta zCb
 repeat with_reducible (first | intro _ | apply zMy n_ | apply ti | apply ts | apply tb | apply tl n_ | exact td _)
def zJr (n_:Nat)(y0:yN):= (zJx n_ y0).1
theorem zOF (n_:Nat)(y0:yN): Le (zJr n_ y0) (zCb y0):=(zJx n_ y0).2
def zGe (n_:Nat)(r2:(List Int)×Int)(s1:Bool×(List Int)×(List (List Int)))(rec_search_finder_find:yN->Option ((List Int)×(List (List Int))×Bool))(y0:yN)(s2:Int×(List (List Int))×Bool): Option ((Int×(List (List Int))×Bool)⊕((List Int)×(List (List Int))×Bool)) :=
 if decide (s2.1<(len ([2,4,8]:List Int))) then
  (zB ([2,4,8]:List Int) s2.1).bind fun x2 =>
  (vJ (decide (0≤r2.2)&&decide (r2.2<40))).bind fun _ =>
  if(vY .i64 (uB s1.2.1 r2.2) x2) != 0 then
   (vJ (decide (0≤r2.2)&&decide (r2.2<40))).bind fun _ =>
   (rec_search_finder_find (y0.1,y0.2.1,tG 40 s1.2.1 r2.2 x2,s2.2.1,s2.2.2)).bind fun r3 =>
   some (.inl (zF (s2.1+1),r3.2.1,r3.2.2))
  else
   some (.inl (zF (s2.1+1),s2.2.1,s2.2.2))
 else
  some (.inr (s1.2.1,s2.2.1,s2.2.2))
theorem zOd (n_:Nat)(r2:(List Int)×Int)(s1:Bool×(List Int)×(List (List Int))){rec_search_finder_find rec_search_finder_find':yN->Option ((List Int)×(List (List Int))×Bool)}(h_rec_search_finder_find:∀ u0,Le (rec_search_finder_find u0) (rec_search_finder_find' u0))(y0:yN)(s2:Int×(List (List Int))×Bool): Le (zGe n_ r2 s1 rec_search_finder_find y0 s2) (zG5 r2 s1 rec_search_finder_find' y0 s2):=by
 unfold zGe zG5
 repeat with_reducible (first | intro _ | apply h_rec_search_finder_find | exact Le.refl _ | apply Le.ite | apply Le.seqE | apply Le.bind | apply Le.lp | exact Le.none _)
def zIP (n_:Nat)(rec_search_finder_find:yN->Option ((List Int)×(List (List Int))×Bool))(y0:yN): Option ((List Int)×(List (List Int))×Bool) :=
 (
  if y0.2.2.2.2 then
   some (true,y0.2.2.1,y0.2.2.2.1)
  else
   ((zJr n_) y0).bind fun r1 =>
   some (!r1.1,r1.2.1,r1.2.2):Option (Bool×(List Int)×(List (List Int)))).bind fun s1 =>
 if s1.1 then
  some (s1.2.1,s1.2.2,y0.2.2.2.2)
 else
  ((zJz n_) (y0.1,y0.2.1,s1.2.1,s1.2.2,y0.2.2.2.2)).bind fun r2 =>
  if decide (r2.2<0) then
   (qD s1.2.2 ([r2.1]:List (List Int))).bind fun x1 =>
   some (s1.2.1,x1,(len s1.2.2)==200)
  else
   (lp n_) ((zGe n_) r2 s1 rec_search_finder_find y0) (0,s1.2.2,y0.2.2.2.2)
theorem zQR (n_:Nat){rec_search_finder_find rec_search_finder_find':yN->Option ((List Int)×(List (List Int))×Bool)}(h_rec_search_finder_find:∀ u0,Le (rec_search_finder_find u0) (rec_search_finder_find' u0))(y0:yN): Le (zIP n_ rec_search_finder_find y0) (zF6 rec_search_finder_find' y0):=by
 unfold zIP zF6
 repeat with_reducible (first | intro _ | apply h_rec_search_finder_find | apply zOd | apply zOE | apply zOF | exact Le.refl _ | apply Le.ite | apply Le.seqE | apply Le.bind | apply Le.lp | exact Le.none _)
def zIX (n_:Nat): Nat->yN->Option ((List Int)×(List (List Int))×Bool)
 | 0=>fun _=>none
 | k+1=>fun y0=>(zIP n_) ((zIX n_) k) y0
theorem zLC (n_:Nat): ∀(k m:Nat),k≤m->∀ u0,Le (zIX n_ k u0) (zDn m u0)
 | 0,_,_=>fun u0=>Le.none _
 | k+1,m,h=>fun u0=>by
  obtain⟨m,rfl⟩:∃ q,m=q+1:=⟨m-1,by omega⟩
  exact zQR n_ (zLC n_ k m (by omega)) _
def zM4 (n_:Nat)(y0:yN): Option ((List Int)×(List (List Int))×Bool) :=
 zIX n_ n_ y0
theorem zQ2 (n_:Nat)(y0:yN): Le (zM4 n_ y0) (zFc y0):=Le.lim n_ fun m h=>zLC n_ n_ m h _
def zRo (n_:Nat)(y0:yN): Tw (zFc y0):=⟨zM4 n_ y0,zQ2 n_ y0⟩
def zRp (n_:Nat) y0 s2:Tw (zJN y0 s2):=by
 delta zJN
 repeat with_reducible (first | intro _ | apply zVZ n_ | apply ti | apply ts | apply tb | apply tl n_ | exact td _)
def zIh (n_:Nat) y0:Tw (zDI y0):=by
 delta zDI
 repeat with_reducible (first | intro _ | apply zMY n_ | apply zRp n_ | apply zRo n_ | apply ti | apply ts | apply tb | apply tl n_ | exact td _)
def zRF (n_:Nat) y1 y0 s1:Tw (zI0 y1 y0 s1):=by
 delta zI0
 repeat with_reducible (first | intro _ | apply zCY n_ | apply ti | apply ts | apply tb | apply tl n_ | exact td _)
def zKd (n_:Nat) y0 y1:Tw (zCJ y0 y1):=by
 delta zCJ
 repeat with_reducible (first | intro _ | apply zRF n_ | apply ti | apply ts | apply tb | apply tl n_ | exact td _)
def zSA (n_:Nat) y0 y1:Tw (zFa y0 y1):=by
 delta zFa
 repeat with_reducible (first | intro _ | apply zDT n_ | apply ti | apply ts | apply tb | apply tl n_ | exact td _)
def zGD (n_:Nat) y0 y1 s1:Tw (zBM y0 y1 s1):=by
 delta zBM
 repeat with_reducible (first | intro _ | apply zSA n_ | apply ti | apply ts | apply tb | apply tl n_ | exact td _)
def zGx (n_:Nat) y0 y1:Tw (zAm y0 y1):=by
 delta zAm
 repeat with_reducible (first | intro _ | apply zGD n_ | apply ti | apply ts | apply tb | apply tl n_ | exact td _)
def zFp (n_:Nat) y0 y1:Tw (zAZ y0 y1):=by
 delta zAZ
 repeat with_reducible (first | intro _ | apply zGx n_ | apply ti | apply ts | apply tb | apply tl n_ | exact td _)
def zNs (n_:Nat) y0 y1:Tw (zFE y0 y1):=by
 delta zFE
 repeat with_reducible (first | intro _ | apply zFp n_ | apply ti | apply ts | apply tb | apply tl n_ | exact td _)
def zPV (n_:Nat) y0 y1:Tw (zDu y0 y1):=by
 delta zDu
 repeat with_reducible (first | intro _ | apply zKd n_ | apply zNs n_ | apply ti | apply ts | apply tb | apply tl n_ | exact td _)
def zHf (n_:Nat) y0 y2:Tw (zAo y0 y2):=by
 delta zAo
 repeat with_reducible (first | intro _ | apply zPV n_ | apply ti | apply ts | apply tb | apply tl n_ | exact td _)
def zGi (n_:Nat) y0 y2 s1:Tw (zBZ y0 y2 s1):=by
 delta zBZ
 repeat with_reducible (first | intro _ | apply zHf n_ | apply ti | apply ts | apply tb | apply tl n_ | exact td _)
def zIC (n_:Nat) y0 y2:Tw (zAs y0 y2):=by
 delta zAs
 repeat with_reducible (first | intro _ | apply zGi n_ | apply ti | apply ts | apply tb | apply tl n_ | exact td _)
def zG9 (n_:Nat) y0 y2:Tw (zAe y0 y2):=by
 delta zAe
 repeat with_reducible (first | intro _ | apply zIC n_ | apply ti | apply ts | apply tb | apply tl n_ | exact td _)
def zGy (n_:Nat) r1 s1:Tw (zB4 r1 s1):=by
 delta zB4
 repeat with_reducible (first | intro _ | apply zG9 n_ | apply ti | apply ts | apply tb | apply tl n_ | exact td _)
def zIU (n_:Nat) y0:Tw (zBB y0):=by
 delta zBB
 repeat with_reducible (first | intro _ | apply zIh n_ | apply zGy n_ | apply ti | apply ts | apply tb | apply tl n_ | exact td _)
def zLm (n_:Nat) y0:Tw (zDU y0):=by
 delta zDU
 repeat with_reducible (first | intro _ | apply zIU n_ | apply ti | apply ts | apply tb | apply tl n_ | exact td _)
def zQJ (n_:Nat) y0 y1 s2:Tw (zHe y0 y1 s2):=by
 delta zHe
 repeat with_reducible (first | intro _ | apply zDT n_ | apply ti | apply ts | apply tb | apply tl n_ | exact td _)
def zMv (n_:Nat) y0 y1:Tw (zEJ y0 y1):=by
 delta zEJ
 repeat with_reducible (first | intro _ | apply zNP n_ | apply zQJ n_ | apply ti | apply ts | apply tb | apply tl n_ | exact td _)
def zJR (n_:Nat) y0:Tw (zBR y0):=by
 delta zBR
 repeat with_reducible (first | intro _ | apply zLm n_ | apply zUe n_ | apply zNT n_ | apply zMv n_ | apply ti | apply ts | apply tb | apply tl n_ | exact td _)
def z1q (n_:Nat) y0:Tw (zNn y0):=by
 delta zNn
 repeat with_reducible (first | intro _ | apply zJR n_ | apply ti | apply ts | apply tb | apply tl n_ | exact td _)
def zMI (n_:Nat) y0:Tw (zCV y0):=by
 delta zCV
 repeat with_reducible (first | intro _ | apply z1q n_ | apply ti | apply ts | apply tb | apply tl n_ | exact td _)
def zJM (n_:Nat) r1 s1:Tw (zCC r1 s1):=by
 delta zCC
 repeat with_reducible (first | intro _ | apply zCY n_ | apply ti | apply ts | apply tb | apply tl n_ | exact td _)
def zKD (n_:Nat) y0:Tw (zB8 y0):=by
 delta zB8
 repeat with_reducible (first | intro _ | apply zMI n_ | apply zJM n_ | apply ti | apply ts | apply tb | apply tl n_ | exact td _)
def zOS (n_:Nat) y0 y1:Tw (zD9 y0 y1):=by
 delta zD9
 repeat with_reducible (first | intro _ | apply zKd n_ | apply zNs n_ | apply ti | apply ts | apply tb | apply tl n_ | exact td _)
def zHG (n_:Nat) y0 y2:Tw (zAi y0 y2):=by
 delta zAi
 repeat with_reducible (first | intro _ | apply zOS n_ | apply ti | apply ts | apply tb | apply tl n_ | exact td _)
def zFl (n_:Nat) y0 y2 s1:Tw (zBO y0 y2 s1):=by
 delta zBO
 repeat with_reducible (first | intro _ | apply zHG n_ | apply ti | apply ts | apply tb | apply tl n_ | exact td _)
def zHM (n_:Nat) y0 y2:Tw (zAn y0 y2):=by
 delta zAn
 repeat with_reducible (first | intro _ | apply zFl n_ | apply ti | apply ts | apply tb | apply tl n_ | exact td _)
def zFm (n_:Nat) y0 y2:Tw (zA1 y0 y2):=by
 delta zA1
 repeat with_reducible (first | intro _ | apply zHM n_ | apply ti | apply ts | apply tb | apply tl n_ | exact td _)
def zGr (n_:Nat) r1 s1:Tw (zB1 r1 s1):=by
 delta zB1
 repeat with_reducible (first | intro _ | apply zFm n_ | apply ti | apply ts | apply tb | apply tl n_ | exact td _)
def zIH (n_:Nat) y0:Tw (zAr y0):=by
 delta zAr
 repeat with_reducible (first | intro _ | apply zIh n_ | apply zGr n_ | apply ti | apply ts | apply tb | apply tl n_ | exact td _)
def zLD (n_:Nat) y0:Tw (zDB y0):=by
 delta zDB
 repeat with_reducible (first | intro _ | apply zIH n_ | apply ti | apply ts | apply tb | apply tl n_ | exact td _)
def zIz (n_:Nat) y0:Tw (zBJ y0):=by
 delta zBJ
 repeat with_reducible (first | intro _ | apply zLD n_ | apply zUe n_ | apply zNT n_ | apply zMv n_ | apply ti | apply ts | apply tb | apply tl n_ | exact td _)
def z2Q (n_:Nat) y0:Tw (zNg y0):=by
 delta zNg
 repeat with_reducible (first | intro _ | apply zIz n_ | apply ti | apply ts | apply tb | apply tl n_ | exact td _)
def zMS (n_:Nat) y0:Tw (zCZ y0):=by
 delta zCZ
 repeat with_reducible (first | intro _ | apply z2Q n_ | apply ti | apply ts | apply tb | apply tl n_ | exact td _)
def zJH (n_:Nat) r1 s1:Tw (zCD r1 s1):=by
 delta zCD
 repeat with_reducible (first | intro _ | apply zCY n_ | apply ti | apply ts | apply tb | apply tl n_ | exact td _)
def zKC (n_:Nat) y0:Tw (zB9 y0):=by
 delta zB9
 repeat with_reducible (first | intro _ | apply zMS n_ | apply zJH n_ | apply ti | apply ts | apply tb | apply tl n_ | exact td _)
def zI3 (n_:Nat) r1 s1:Tw (zBi r1 s1):=by
 delta zBi
 repeat with_reducible (first | intro _ | apply zCY n_ | apply ti | apply ts | apply tb | apply tl n_ | exact td _)
def zJ2 (n_:Nat) y0:Tw (zBQ y0):=by
 delta zBQ
 repeat with_reducible (first | intro _ | apply zLm n_ | apply zI3 n_ | apply ti | apply ts | apply tb | apply tl n_ | exact td _)
def zID (n_:Nat) r1 s1:Tw (zBc r1 s1):=by
 delta zBc
 repeat with_reducible (first | intro _ | apply zCY n_ | apply ti | apply ts | apply tb | apply tl n_ | exact td _)
def zJF (n_:Nat) y0:Tw (zBK y0):=by
 delta zBK
 repeat with_reducible (first | intro _ | apply zLD n_ | apply zID n_ | apply ti | apply ts | apply tb | apply tl n_ | exact td _)
def zSB (n_:Nat) y0 y1:Tw (zF7 y0 y1):=by
 delta zF7
 repeat with_reducible (first | intro _ | apply zKd n_ | apply ti | apply ts | apply tb | apply tl n_ | exact td _)
def zIi (n_:Nat) y0 y2:Tw (zBG y0 y2):=by
 delta zBG
 repeat with_reducible (first | intro _ | apply zSB n_ | apply ti | apply ts | apply tb | apply tl n_ | exact td _)
def zGG (n_:Nat) y0 y2 s1:Tw (zBL y0 y2 s1):=by
 delta zBL
 repeat with_reducible (first | intro _ | apply zIi n_ | apply ti | apply ts | apply tb | apply tl n_ | exact td _)
def zHL (n_:Nat) y0 y2:Tw (zAj y0 y2):=by
 delta zAj
 repeat with_reducible (first | intro _ | apply zGG n_ | apply ti | apply ts | apply tb | apply tl n_ | exact td _)
def zFx (n_:Nat) y0 y2:Tw (zA0 y0 y2):=by
 delta zA0
 repeat with_reducible (first | intro _ | apply zHL n_ | apply ti | apply ts | apply tb | apply tl n_ | exact td _)
def zIK (n_:Nat) r1 s1:Tw (zBn r1 s1):=by
 delta zBn
 repeat with_reducible (first | intro _ | apply zFx n_ | apply ti | apply ts | apply tb | apply tl n_ | exact td _)
def zJW (n_:Nat) y0:Tw (zBS y0):=by
 delta zBS
 repeat with_reducible (first | intro _ | apply zIh n_ | apply zIK n_ | apply ti | apply ts | apply tb | apply tl n_ | exact td _)
def zTr (n_:Nat) y0:Tw (zHv y0):=by
 delta zHv
 repeat with_reducible (first | intro _ | apply zJW n_ | apply ti | apply ts | apply tb | apply tl n_ | exact td _)
def zJ0 (n_:Nat) r1 s1:Tw (zCQ r1 s1):=by
 delta zCQ
 repeat with_reducible (first | intro _ | apply zCY n_ | apply ti | apply ts | apply tb | apply tl n_ | exact td _)
def zKI (n_:Nat) y0:Tw (zBb y0):=by
 delta zBb
 repeat with_reducible (first | intro _ | apply zTr n_ | apply zJ0 n_ | apply ti | apply ts | apply tb | apply tl n_ | exact td _)
def zJl (n_:Nat) r1 s1:Tw (zC6 r1 s1):=by
 delta zC6
 repeat with_reducible (first | intro _ | apply zCY n_ | apply ti | apply ts | apply tb | apply tl n_ | exact td _)
def zKx (n_:Nat) y0:Tw (zBg y0):=by
 delta zBg
 repeat with_reducible (first | intro _ | apply zIh n_ | apply zJl n_ | apply ti | apply ts | apply tb | apply tl n_ | exact td _)
def zS0 (n_:Nat) y0 y1:Tw (zBX y0 y1):=by
 delta zBX
 repeat with_reducible (first | intro _ | apply zMY n_ | apply zKo n_ | apply zKx n_ | apply zJ2 n_ | apply zKI n_ | apply zJF n_ | apply zKD n_ | apply zKC n_ | apply ti | apply ts | apply tb | apply tl n_ | exact td _)
def zPa (n_:Nat) r1 y0 s1:Tw (zBw r1 y0 s1):=by
 delta zBw
 repeat with_reducible (first | intro _ | apply zKz n_ | apply ti | apply ts | apply tb | apply tl n_ | exact td _)
def zRj (n_:Nat) y0 y1:Tw (zCm y0 y1):=by
 delta zCm
 repeat with_reducible (first | intro _ | apply zS0 n_ | apply zPa n_ | apply ti | apply ts | apply tb | apply tl n_ | exact td _)
def zPL (n_:Nat) y0:Tw (zBy y0):=by
 delta zBy
 repeat with_reducible (first | intro _ | apply ti | apply ts | apply tb | apply tl n_ | exact td _)
def zQP (n_:Nat) y0 y1:Tw (zCM y0 y1):=by
 delta zCM
 repeat with_reducible (first | intro _ | apply ti | apply ts | apply tb | apply tl n_ | exact td _)
def zOH (n_:Nat) y0 y1:Tw (zCR y0 y1):=by
 delta zCR
 repeat with_reducible (first | intro _ | apply zQP n_ | apply ti | apply ts | apply tb | apply tl n_ | exact td _)
def zPH (n_:Nat) y0 y1:Tw (zFD y0 y1):=by
 delta zFD
 repeat with_reducible (first | intro _ | apply zOH n_ | apply ti | apply ts | apply tb | apply tl n_ | exact td _)
def zQf (n_:Nat) y0 y1:Tw (zC9 y0 y1):=by
 delta zC9
 repeat with_reducible (first | intro _ | apply zPH n_ | apply ti | apply ts | apply tb | apply tl n_ | exact td _)
def zE8 (n_:Nat) y0 y1 s1:Tw (zAp y0 y1 s1):=by
 delta zAp
 repeat with_reducible (first | intro _ | apply zQf n_ | apply ti | apply ts | apply tb | apply tl n_ | exact td _)
def zFN (n_:Nat) y0 y1:Tw (zAU y0 y1):=by
 delta zAU
 repeat with_reducible (first | intro _ | apply zE8 n_ | apply ti | apply ts | apply tb | apply tl n_ | exact td _)
def zE6 (n_:Nat) y0 y1:Tw (zAC y0 y1):=by
 delta zAC
 repeat with_reducible (first | intro _ | apply zFN n_ | apply ti | apply ts | apply tb | apply tl n_ | exact td _)
def zMr (n_:Nat) y0 y1 y2:Tw (zBp y0 y1 y2):=by
 delta zBp
 repeat with_reducible (first | intro _ | apply zE6 n_ | apply ti | apply ts | apply tb | apply tl n_ | exact td _)
def zEu (n_:Nat) y0 y1 y2 s1:Tw (zBA y0 y1 y2 s1):=by
 delta zBA
 repeat with_reducible (first | intro _ | apply zMr n_ | apply ti | apply ts | apply tb | apply tl n_ | exact td _)
def zGE (n_:Nat) y0 y1 y2:Tw (zAY y0 y1 y2):=by
 delta zAY
 repeat with_reducible (first | intro _ | apply zEu n_ | apply ti | apply ts | apply tb | apply tl n_ | exact td _)
def zEe (n_:Nat) y0 y1 y2 s2:Tw (zAt y0 y1 y2 s2):=by
 delta zAt
 repeat with_reducible (first | intro _ | apply zMr n_ | apply ti | apply ts | apply tb | apply tl n_ | exact td _)
def zF5 (n_:Nat) y0 y1 y2:Tw (zAI y0 y1 y2):=by
 delta zAI
 repeat with_reducible (first | intro _ | apply zGE n_ | apply zEe n_ | apply ti | apply ts | apply tb | apply tl n_ | exact td _)
def zV9 (n_:Nat) y0 y1 y2:Tw (zAx y0 y1 y2):=by
 delta zAx
 repeat with_reducible (first | intro _ | apply zRj n_ | apply zPL n_ | apply zPy n_ | apply zF5 n_ | apply ti | apply ts | apply tb | apply tl n_ | exact td _)
def zPe (n_:Nat) y0 s1:Tw (zGw y0 s1):=by
 delta zGw
 repeat with_reducible (first | intro _ | apply ti | apply ts | apply tb | apply tl n_ | exact td _)
def zJI (n_:Nat) y0:Tw (zAq y0):=by
 delta zAq
 repeat with_reducible (first | intro _ | apply zPe n_ | apply ti | apply ts | apply tb | apply tl n_ | exact td _)
def zJJ (n_:Nat)(y0:List Int):= (zJI n_ y0).1
theorem zLa (n_:Nat)(y0:List Int): Le (zJJ n_ y0) (zAq y0):=(zJI n_ y0).2
def zO9 (n_:Nat)(y0:List Int): Tw (zBN y0):=⟨zFk n_ y0,zKj n_ y0⟩
def zKL (n_:Nat)(x1:zD)(rec_argument_Subs:(List zD)->Int->Option (List Int))(y0:List zD)(s2:(List Int)×Int): Option (((List Int)×Int)⊕(List Int)) :=
 if decide (s2.2<(len x1.2.2.1)) then
  (zB x1.2.2.1 s2.2).bind fun x2 =>
  (rec_argument_Subs y0 x2).bind fun r2 =>
  (qD s2.1 r2).bind fun x3 =>
  some (.inl (x3,zF (s2.2+1)))
 else
  some (.inr s2.1)
theorem zSx (n_:Nat)(x1:zD){rec_argument_Subs rec_argument_Subs':(List zD)->Int->Option (List Int)}(h_rec_argument_Subs:∀ u0 u1,Le (rec_argument_Subs u0 u1) (rec_argument_Subs' u0 u1))(y0:List zD)(s2:(List Int)×Int): Le (zKL n_ x1 rec_argument_Subs y0 s2) (zD3 x1 rec_argument_Subs' y0 s2):=by
 unfold zKL zD3
 repeat with_reducible (first | intro _ | apply h_rec_argument_Subs | exact Le.refl _ | apply Le.ite | apply Le.seqE | apply Le.bind | apply Le.lp | exact Le.none _)
def zMV (n_:Nat)(rec_argument_Subs:(List zD)->Int->Option (List Int))(y0:List zD)(y1:Int): Option (List Int) :=
 (zAu y0 y1).bind fun r1 =>
 if !r1 then
  some ([]:List Int)
 else
  (
   (zB y0 y1).bind fun x1 =>
   (lp n_) ((zKL n_) x1 rec_argument_Subs y0) (([y1]:List Int),0):Option (List Int)).bind fun s1 =>
  ((zFk n_) s1).bind fun r3 =>
  ((zJJ n_) r3).bind fun r4 =>
  some r4
theorem zVI (n_:Nat){rec_argument_Subs rec_argument_Subs':(List zD)->Int->Option (List Int)}(h_rec_argument_Subs:∀ u0 u1,Le (rec_argument_Subs u0 u1) (rec_argument_Subs' u0 u1))(y0:List zD)(y1:Int): Le (zMV n_ rec_argument_Subs y0 y1) (zFf rec_argument_Subs' y0 y1):=by
 unfold zMV zFf
 repeat with_reducible (first | intro _ | apply h_rec_argument_Subs | apply zLa | apply zKj | apply zSx | exact Le.refl _ | apply Le.ite | apply Le.seqE | apply Le.bind | apply Le.lp | exact Le.none _)
def zML (n_:Nat): Nat->(List zD)->Int->Option (List Int)
 | 0=>fun _ _=>none
 | k+1=>fun y0 y1=>(zMV n_) ((zML n_) k) y0 y1
theorem zO7 (n_:Nat): ∀(k m:Nat),k≤m->∀ u0 u1,Le (zML n_ k u0 u1) (zDW m u0 u1)
 | 0,_,_=>fun u0 u1=>Le.none _
 | k+1,m,h=>fun u0 u1=>by
  obtain⟨m,rfl⟩:∃ q,m=q+1:=⟨m-1,by omega⟩
  exact zVI n_ (zO7 n_ k m (by omega)) _ _
def zRC (n_:Nat)(y0:List zD)(y1:Int): Option (List Int) :=
 zML n_ n_ y0 y1
theorem zXA (n_:Nat)(y0:List zD)(y1:Int): Le (zRC n_ y0 y1) (zEH y0 y1):=Le.lim n_ fun m h=>zO7 n_ n_ m h _ _
def zNF (n_:Nat)(y0:List zD)(y1:Int): Tw (zEH y0 y1):=⟨zRC n_ y0 y1,zXA n_ y0 y1⟩
def zLp (n_:Nat) y0 y1 y2:Tw (zBt y0 y1 y2):=by
 delta zBt
 repeat with_reducible (first | intro _ | apply zNF n_ | apply zO9 n_ | apply zJI n_ | apply ti | apply ts | apply tb | apply tl n_ | exact td _)
def zLP (n_:Nat)(x4:zD)(rec_argument_run:zM->(List zD)->Int->Option (List zI))(y0:zM)(y1:List zD)(s2:(List zI)×Int): Option (((List zI)×Int)⊕(List zI)) :=
 if decide (s2.2<(len x4.2.2.1)) then
  (zB x4.2.2.1 s2.2).bind fun x5 =>
  (rec_argument_run y0 y1 x5).bind fun r1 =>
  (qD s2.1 r1).bind fun x6 =>
  some (.inl (x6,zF (s2.2+1)))
 else
  some (.inr s2.1)
theorem zTk (n_:Nat)(x4:zD){rec_argument_run rec_argument_run':zM->(List zD)->Int->Option (List zI)}(h_rec_argument_run:∀ u0 u1 u2,Le (rec_argument_run u0 u1 u2) (rec_argument_run' u0 u1 u2))(y0:zM)(y1:List zD)(s2:(List zI)×Int): Le (zLP n_ x4 rec_argument_run y0 y1 s2) (zIf x4 rec_argument_run' y0 y1 s2):=by
 unfold zLP zIf
 repeat with_reducible (first | intro _ | apply h_rec_argument_run | exact Le.refl _ | apply Le.ite | apply Le.seqE | apply Le.bind | apply Le.lp | exact Le.none _)
def zMw (n_:Nat)(rec_argument_run:zM->(List zD)->Int->Option (List zI))(y0:zM)(y1:List zD)(y2:Int): Option (List zI) :=
 (zB y1 y2).bind fun x1 =>
 (zB y1 y2).bind fun x2 =>
 (
  if decide (0≤x2.2.1) then
   (zB y0.2.1 x2.2.1).bind fun x3 =>
   some x3.2.1
  else
   some false:Option Bool).bind fun s1 =>
 if s1 then
  (zB y1 y2).bind fun x4 =>
  (lp n_) ((zLP n_) x4 rec_argument_run y0 y1) (([x1.2.2.2]:List zI),0)
 else
  some ([x1.2.2.2]:List zI)
theorem zW0 (n_:Nat){rec_argument_run rec_argument_run':zM->(List zD)->Int->Option (List zI)}(h_rec_argument_run:∀ u0 u1 u2,Le (rec_argument_run u0 u1 u2) (rec_argument_run' u0 u1 u2))(y0:zM)(y1:List zD)(y2:Int): Le (zMw n_ rec_argument_run y0 y1 y2) (zH1 rec_argument_run' y0 y1 y2):=by
 unfold zMw zH1
 repeat with_reducible (first | intro _ | apply h_rec_argument_run | apply zTk | exact Le.refl _ | apply Le.ite | apply Le.seqE | apply Le.bind | apply Le.lp | exact Le.none _)
def zMq (n_:Nat): Nat->zM->(List zD)->Int->Option (List zI)
 | 0=>fun _ _ _=>none
 | k+1=>fun y0 y1 y2=>(zMw n_) ((zMq n_) k) y0 y1 y2
theorem zPv (n_:Nat): ∀(k m:Nat),k≤m->∀ u0 u1 u2,Le (zMq n_ k u0 u1 u2) (zDQ m u0 u1 u2)
 | 0,_,_=>fun u0 u1 u2=>Le.none _
 | k+1,m,h=>fun u0 u1 u2=>by
  obtain⟨m,rfl⟩:∃ q,m=q+1:=⟨m-1,by omega⟩
  exact zW0 n_ (zPv n_ k m (by omega)) _ _ _
def zSM (n_:Nat)(y0:zM)(y1:List zD)(y2:Int): Option (List zI) :=
 zMq n_ n_ y0 y1 y2
theorem zY3 (n_:Nat)(y0:zM)(y1:List zD)(y2:Int): Le (zSM n_ y0 y1 y2) (zFR y0 y1 y2):=Le.lim n_ fun m h=>zPv n_ n_ m h _ _ _
def zZ1 (n_:Nat)(y0:zM)(y1:List zD)(y2:Int): Tw (zFR y0 y1 y2):=⟨zSM n_ y0 y1 y2,zY3 n_ y0 y1 y2⟩
def zRg (n_:Nat) y3 y0 y2 y1 s1:Tw (zCp y3 y0 y2 y1 s1):=by
 delta zCp
 repeat with_reducible (first | intro _ | apply zZ1 n_ | apply zPH n_ | apply zLp n_ | apply zDT n_ | apply ti | apply ts | apply tb | apply tl n_ | exact td _)
def zO0 (n_:Nat) y0 y1 y2 y3:Tw (zDG y0 y1 y2 y3):=by
 delta zDG
 repeat with_reducible (first | intro _ | apply zRg n_ | apply ti | apply ts | apply tb | apply tl n_ | exact td _)
def zOi (n_:Nat)(y0:zM)(y1:List zD)(y2:Int)(y3:List Int):= (zO0 n_ y0 y1 y2 y3).1
theorem zUC (n_:Nat)(y0:zM)(y1:List zD)(y2:Int)(y3:List Int): Le (zOi n_ y0 y1 y2 y3) (zDG y0 y1 y2 y3):=(zO0 n_ y0 y1 y2 y3).2
def zFB (n_:Nat) y0 y2:Tw (zAE y0 y2):=by
 delta zAE
 repeat with_reducible (first | intro _ | apply ti | apply ts | apply tb | apply tl n_ | exact td _)
def zBl (n_:Nat) y0 y2:Tw (zAA y0 y2):=by
 delta zAA
 repeat with_reducible (first | intro _ | apply zFB n_ | apply ti | apply ts | apply tb | apply tl n_ | exact td _)
def zBj (n_:Nat)(y0:List Int)(y2:uP):= (zBl n_ y0 y2).1
theorem zEA (n_:Nat)(y0:List Int)(y2:uP): Le (zBj n_ y0 y2) (zAA y0 y2):=(zBl n_ y0 y2).2
def zDi (n_:Nat)(y0:uP)(x1:qC)(y2:List Int)(rec_argument_builder_apply_2:uP->Int->(List Int)->Option (List zD))(y1:Int)(s2:Int×(List zD)): Option ((Int×(List zD))⊕(Unit⊕(List zD))) :=
 if decide (s2.1<(len y0.2.1)) then
  (zB y0.2.1 s2.1).bind fun x2 =>
  (zB x1.2.2.2.1 (len y2)).bind fun x3 =>
  if x2.2.2.2==x3 then
   (
    (zCh y2).bind fun r2 =>
    (qD r2 ([s2.1]:List Int)).bind fun x4 =>
    (rec_argument_builder_apply_2 (y0.1,y0.2.1,s2.2,y0.2.2.2) y1 x4).bind fun r3 =>
    some r3:Option (List zD)).bind fun s3 =>
   some (.inl (zF (s2.1+1),s3))
  else
   some (.inl (zF (s2.1+1),s2.2))
 else
  some (.inr (.inr s2.2))
theorem zLk (n_:Nat)(y0:uP)(x1:qC)(y2:List Int){rec_argument_builder_apply_2 rec_argument_builder_apply_2':uP->Int->(List Int)->Option (List zD)}(h_rec_argument_builder_apply_2:∀ u0 u1 u2,Le (rec_argument_builder_apply_2 u0 u1 u2) (rec_argument_builder_apply_2' u0 u1 u2))(y1:Int)(s2:Int×(List zD)): Le (zDi n_ y0 x1 y2 rec_argument_builder_apply_2 y1 s2) (zAy y0 x1 y2 rec_argument_builder_apply_2' y1 s2):=by
 unfold zDi zAy
 repeat with_reducible (first | intro _ | apply h_rec_argument_builder_apply_2 | exact Le.refl _ | apply Le.ite | apply Le.seqE | apply Le.bind | apply Le.lp | exact Le.none _)
def zEU (n_:Nat)(rec_argument_builder_apply_2:uP->Int->(List Int)->Option (List zD))(y0:uP)(y1:Int)(y2:List Int): Option (List zD) :=
 (zB y0.1.2.1 y1).bind fun x1 =>
 (zB2 y0).bind fun r1 =>
 if r1 then
  some y0.2.2.1
 else
  vK (
   if decide ((len y2)<(len x1.2.2.2.1)) then
    (lp n_) ((zDi n_) y0 x1 y2 rec_argument_builder_apply_2 y1) (0,y0.2.2.1)
   else
    some (.inl ()):Option (Unit⊕(List zD))) fun _ =>
  (
   ((zBj n_) y2 y0).bind fun r6 =>
   if r6 then
    ((zOi n_) y0.1 y0.2.1 y1 y2).bind fun r7 =>
    some r7
   else
    some false:Option Bool).bind fun s4 =>
  if s4 then
   (zB y0.1.2.1 y1).bind fun x6 =>
   (qD y0.2.2.1 ([((-1),y1,y2,x6.2.2.2.2)]:List zD)).bind fun x7 =>
   some x7
  else
   some y0.2.2.1
theorem zMd (n_:Nat){rec_argument_builder_apply_2 rec_argument_builder_apply_2':uP->Int->(List Int)->Option (List zD)}(h_rec_argument_builder_apply_2:∀ u0 u1 u2,Le (rec_argument_builder_apply_2 u0 u1 u2) (rec_argument_builder_apply_2' u0 u1 u2))(y0:uP)(y1:Int)(y2:List Int): Le (zEU n_ rec_argument_builder_apply_2 y0 y1 y2) (zBT rec_argument_builder_apply_2' y0 y1 y2):=by
 unfold zEU zBT
 repeat with_reducible (first | intro _ | apply h_rec_argument_builder_apply_2 | apply zUC | apply zEA | apply zLk | exact Le.refl _ | apply Le.ite | apply Le.seqE | apply Le.bind | apply Le.lp | exact Le.none _)
def zEO (n_:Nat): Nat->uP->Int->(List Int)->Option (List zD)
 | 0=>fun _ _ _=>none
 | k+1=>fun y0 y1 y2=>(zEU n_) ((zEO n_) k) y0 y1 y2
theorem zHx (n_:Nat): ∀(k m:Nat),k≤m->∀ u0 u1 u2,Le (zEO n_ k u0 u1 u2) (zA5 m u0 u1 u2)
 | 0,_,_=>fun u0 u1 u2=>Le.none _
 | k+1,m,h=>fun u0 u1 u2=>by
  obtain⟨m,rfl⟩:∃ q,m=q+1:=⟨m-1,by omega⟩
  exact zMd n_ (zHx n_ k m (by omega)) _ _ _
def zIw (n_:Nat)(y0:uP)(y1:Int)(y2:List Int): Option (List zD) :=
 zEO n_ n_ y0 y1 y2
theorem zMu (n_:Nat)(y0:uP)(y1:Int)(y2:List Int): Le (zIw n_ y0 y1 y2) (zBV y0 y1 y2):=Le.lim n_ fun m h=>zHx n_ n_ m h _ _ _
def zN2 (n_:Nat)(y0:uP)(y1:Int)(y2:List Int): Tw (zBV y0 y1 y2):=⟨zIw n_ y0 y1 y2,zMu n_ y0 y1 y2⟩
def zIG (n_:Nat) y0 y1:Tw (zAT y0 y1):=by
 delta zAT
 repeat with_reducible (first | intro _ | apply ti | apply ts | apply tb | apply tl n_ | exact td _)
def zRD (n_:Nat) y0 y1:Tw (zEE y0 y1):=by
 delta zEE
 repeat with_reducible (first | intro _ | apply zIG n_ | apply ti | apply ts | apply tb | apply tl n_ | exact td _)
def zFZ (n_:Nat) y0 y1:Tw (zAH y0 y1):=by
 delta zAH
 repeat with_reducible (first | intro _ | apply ti | apply ts | apply tb | apply tl n_ | exact td _)
def zUn (n_:Nat) y0 y1:Tw (zDb y0 y1):=by
 delta zDb
 repeat with_reducible (first | intro _ | apply zFZ n_ | apply ti | apply ts | apply tb | apply tl n_ | exact td _)
def zJk (n_:Nat) y0:Tw (zB0 y0):=by
 delta zB0
 repeat with_reducible (first | intro _ | apply ti | apply ts | apply tb | apply tl n_ | exact td _)
def zKi (n_:Nat) y0:Tw (zBs y0):=by
 delta zBs
 repeat with_reducible (first | intro _ | apply zJk n_ | apply ti | apply ts | apply tb | apply tl n_ | exact td _)
def zTs (n_:Nat) y0:Tw (zFC y0):=by
 delta zFC
 repeat with_reducible (first | intro _ | apply zJk n_ | apply ti | apply ts | apply tb | apply tl n_ | exact td _)
def zUA (n_:Nat) y0:Tw (zD8 y0):=by
 delta zD8
 repeat with_reducible (first | intro _ | apply zKi n_ | apply zTs n_ | apply ti | apply ts | apply tb | apply tl n_ | exact td _)
def zRt (n_:Nat) y0 y1:Tw (zCn y0 y1):=by
 delta zCn
 repeat with_reducible (first | intro _ | apply zKi n_ | apply zRD n_ | apply ti | apply ts | apply tb | apply tl n_ | exact td _)
def zT8 (n_:Nat) y0 s3:Tw (zD6 y0 s3):=by
 delta zD6
 repeat with_reducible (first | intro _ | apply zKi n_ | apply ti | apply ts | apply tb | apply tl n_ | exact td _)
def zX6 (n_:Nat) y0:Tw (zGC y0):=by
 delta zGC
 repeat with_reducible (first | intro _ | apply zJk n_ | apply zKi n_ | apply zT8 n_ | apply ti | apply ts | apply tb | apply tl n_ | exact td _)
def zQM (n_:Nat) y0 s2:Tw (zCN y0 s2):=by
 delta zCN
 repeat with_reducible (first | intro _ | apply zUA n_ | apply zUn n_ | apply ti | apply ts | apply tb | apply tl n_ | exact td _)
def zQU (n_:Nat) y0 s4:Tw (zCP y0 s4):=by
 delta zCP
 repeat with_reducible (first | intro _ | apply zX6 n_ | apply zRD n_ | apply ti | apply ts | apply tb | apply tl n_ | exact td _)
def zQX (n_:Nat) y0 s5:Tw (zCO y0 s5):=by
 delta zCO
 repeat with_reducible (first | intro _ | apply zRt n_ | apply ti | apply ts | apply tb | apply tl n_ | exact td _)
def zSs (n_:Nat) y0:Tw (zBr y0):=by
 delta zBr
 repeat with_reducible (first | intro _ | apply zQM n_ | apply zQU n_ | apply zQX n_ | apply ti | apply ts | apply tb | apply tl n_ | exact td _)
def zTZ (n_:Nat) y0 s4 s6:Tw (zC7 y0 s4 s6):=by
 delta zC7
 repeat with_reducible (first | intro _ | apply zN2 n_ | apply ti | apply ts | apply tb | apply tl n_ | exact td _)
def zSe (n_:Nat) y0 s4:Tw (zBE y0 s4):=by
 delta zBE
 repeat with_reducible (first | intro _ | apply zTZ n_ | apply ti | apply ts | apply tb | apply tl n_ | exact td _)
def zWg (n_:Nat) y0:Tw (zCq y0):=by
 delta zCq
 repeat with_reducible (first | intro _ | apply zSs n_ | apply zSe n_ | apply ti | apply ts | apply tb | apply tl n_ | exact td _)
def zHE (n_:Nat)(y0:List qQ): Tw (zAM y0):=⟨zB5 n_ y0,zG1 n_ y0⟩
def zSj (n_:Nat) y1 s2 r1 s3 s4:Tw (zDL y1 s2 r1 s3 s4):=by
 delta zDL
 repeat with_reducible (first | intro _ | apply zNF n_ | apply zDT n_ | apply ti | apply ts | apply tb | apply tl n_ | exact td _)
def zSW (n_:Nat) y1 y0 s2 s3:Tw (zDN y1 y0 s2 s3):=by
 delta zDN
 repeat with_reducible (first | intro _ | apply zSj n_ | apply ti | apply ts | apply tb | apply tl n_ | exact td _)
def zTJ (n_:Nat) y1 y0 s2:Tw (zC4 y1 y0 s2):=by
 delta zC4
 repeat with_reducible (first | intro _ | apply zSW n_ | apply ti | apply ts | apply tb | apply tl n_ | exact td _)
def zWL (n_:Nat) y0 y1:Tw (zEj y0 y1):=by
 delta zEj
 repeat with_reducible (first | intro _ | apply zTJ n_ | apply zHE n_ | apply ti | apply ts | apply tb | apply tl n_ | exact td _)
def zMx (n_:Nat) y0 y1:Tw (zC1 y0 y1):=by
 delta zC1
 repeat with_reducible (first | intro _ | apply zNF n_ | apply zO9 n_ | apply ti | apply ts | apply tb | apply tl n_ | exact td _)
def zIn (n_:Nat) y0 y1:Tw (zAX y0 y1):=by
 delta zAX
 repeat with_reducible (first | intro _ | apply ti | apply ts | apply tb | apply tl n_ | exact td _)
def zH6 (n_:Nat) y0 y1:Tw (zAP y0 y1):=by
 delta zAP
 repeat with_reducible (first | intro _ | apply zIn n_ | apply ti | apply ts | apply tb | apply tl n_ | exact td _)
def zYv (n_:Nat) y0 y1 y2:Tw (zH2 y0 y1 y2):=by
 delta zH2
 repeat with_reducible (first | intro _ | apply zMx n_ | apply zH6 n_ | apply ti | apply ts | apply tb | apply tl n_ | exact td _)
def zKf (n_:Nat)(x5:zD)(rec_argument_Last:zM->(List zD)->Int->Option (List Int))(y0:zM)(y1:List zD)(s3:(List Int)×Int): Option (((List Int)×Int)⊕(List Int)) :=
 if decide (s3.2<(len x5.2.2.1)) then
  (zB x5.2.2.1 s3.2).bind fun x6 =>
  (rec_argument_Last y0 y1 x6).bind fun r2 =>
  (qD s3.1 r2).bind fun x7 =>
  some (.inl (x7,zF (s3.2+1)))
 else
  some (.inr s3.1)
theorem zSU (n_:Nat)(x5:zD){rec_argument_Last rec_argument_Last':zM->(List zD)->Int->Option (List Int)}(h_rec_argument_Last:∀ u0 u1 u2,Le (rec_argument_Last u0 u1 u2) (rec_argument_Last' u0 u1 u2))(y0:zM)(y1:List zD)(s3:(List Int)×Int): Le (zKf n_ x5 rec_argument_Last y0 y1 s3) (zDc x5 rec_argument_Last' y0 y1 s3):=by
 unfold zKf zDc
 repeat with_reducible (first | intro _ | apply h_rec_argument_Last | exact Le.refl _ | apply Le.ite | apply Le.seqE | apply Le.bind | apply Le.lp | exact Le.none _)
def zME (n_:Nat)(rec_argument_Last:zM->(List zD)->Int->Option (List Int))(y0:zM)(y1:List zD)(y2:Int): Option (List Int) :=
 (
  (zAu y1 y2).bind fun r1 =>
  if !r1 then
   some true
  else
   (zB y1 y2).bind fun x1 =>
   some (decide (x1.2.1<0)):Option Bool).bind fun s1 =>
 if s1 then
  some ([]:List Int)
 else
  (zB y1 y2).bind fun x2 =>
  (zB y0.2.1 x2.2.1).bind fun x3 =>
  if !x3.2.1 then
   (zB y1 y2).bind fun x4 =>
   some ([x4.2.1]:List Int)
  else
   (
    (zB y1 y2).bind fun x5 =>
    (lp n_) ((zKf n_) x5 rec_argument_Last y0 y1) (([]:List Int),0):Option (List Int)).bind fun s2 =>
   ((zFk n_) s2).bind fun r3 =>
   ((zJJ n_) r3).bind fun r4 =>
   some r4
theorem zVh (n_:Nat){rec_argument_Last rec_argument_Last':zM->(List zD)->Int->Option (List Int)}(h_rec_argument_Last:∀ u0 u1 u2,Le (rec_argument_Last u0 u1 u2) (rec_argument_Last' u0 u1 u2))(y0:zM)(y1:List zD)(y2:Int): Le (zME n_ rec_argument_Last y0 y1 y2) (zFq rec_argument_Last' y0 y1 y2):=by
 unfold zME zFq
 repeat with_reducible (first | intro _ | apply h_rec_argument_Last | apply zLa | apply zKj | apply zSU | exact Le.refl _ | apply Le.ite | apply Le.seqE | apply Le.bind | apply Le.lp | exact Le.none _)
def zMA (n_:Nat): Nat->zM->(List zD)->Int->Option (List Int)
 | 0=>fun _ _ _=>none
 | k+1=>fun y0 y1 y2=>(zME n_) ((zMA n_) k) y0 y1 y2
theorem zOO (n_:Nat): ∀(k m:Nat),k≤m->∀ u0 u1 u2,Le (zMA n_ k u0 u1 u2) (zDY m u0 u1 u2)
 | 0,_,_=>fun u0 u1 u2=>Le.none _
 | k+1,m,h=>fun u0 u1 u2=>by
  obtain⟨m,rfl⟩:∃ q,m=q+1:=⟨m-1,by omega⟩
  exact zVh n_ (zOO n_ k m (by omega)) _ _ _
def zQY (n_:Nat)(y0:zM)(y1:List zD)(y2:Int): Option (List Int) :=
 zMA n_ n_ y0 y1 y2
theorem zWQ (n_:Nat)(y0:zM)(y1:List zD)(y2:Int): Le (zQY n_ y0 y1 y2) (zIN y0 y1 y2):=Le.lim n_ fun m h=>zOO n_ n_ m h _ _ _
def zY6 (n_:Nat)(y0:zM)(y1:List zD)(y2:Int): Tw (zIN y0 y1 y2):=⟨zQY n_ y0 y1 y2,zWQ n_ y0 y1 y2⟩
def zWC (n_:Nat) y0 y1:Tw (zKB y0 y1):=by
 delta zKB
 repeat with_reducible (first | intro _ | apply ti | apply ts | apply tb | apply tl n_ | exact td _)
def zPw (n_:Nat) y0 y1 y2:Tw (zCT y0 y1 y2):=by
 delta zCT
 repeat with_reducible (first | intro _ | apply zY6 n_ | apply zWC n_ | apply ti | apply ts | apply tb | apply tl n_ | exact td _)
def zWf (n_:Nat) y0:Tw (zDg y0):=by
 delta zDg
 repeat with_reducible (first | intro _ | apply ti | apply ts | apply tb | apply tl n_ | exact td _)
def zWj (n_:Nat) y0:Tw (zDl y0):=by
 delta zDl
 repeat with_reducible (first | intro _ | apply ti | apply ts | apply tb | apply tl n_ | exact td _)
def zON (n_:Nat) y0 y1 y2:Tw (zDy y0 y1 y2):=by
 delta zDy
 repeat with_reducible (first | intro _ | apply zWj n_ | apply zWf n_ | apply ti | apply ts | apply tb | apply tl n_ | exact td _)
def zMB (n_:Nat) y0 y1 y2 y3 y4:Tw (zAw y0 y1 y2 y3 y4):=by
 delta zAw
 repeat with_reducible (first | intro _ | apply zPw n_ | apply zON n_ | apply ti | apply ts | apply tb | apply tl n_ | exact td _)
def zNW (n_:Nat) y0 y1 y2:Tw (zBW y0 y1 y2):=by
 delta zBW
 repeat with_reducible (first | intro _ | apply zMx n_ | apply ti | apply ts | apply tb | apply tl n_ | exact td _)
def zFU (n_:Nat) y0 y1 y2 y3 y4:Tw (zAF y0 y1 y2 y3 y4):=by
 delta zAF
 repeat with_reducible (first | intro _ | apply zNW n_ | apply zON n_ | apply ti | apply ts | apply tb | apply tl n_ | exact td _)
def zLx (n_:Nat) y0 y1 y2 y3:Tw (zAv y0 y1 y2 y3):=by
 delta zAv
 repeat with_reducible (first | intro _ | apply zPw n_ | apply ti | apply ts | apply tb | apply tl n_ | exact td _)
def zNa (n_:Nat) y1 y2 y3 y4 y5:Tw (zBz y1 y2 y3 y4 y5):=by
 delta zBz
 repeat with_reducible (first | intro _ | apply zMB n_ | apply zLx n_ | apply zFU n_ | apply ti | apply ts | apply tb | apply tl n_ | exact td _)
def zPs (n_:Nat) y0 y1 y2:Tw (zC0 y0 y1 y2):=by
 delta zC0
 repeat with_reducible (first | intro _ | apply zLp n_ | apply zWC n_ | apply ti | apply ts | apply tb | apply tl n_ | exact td _)
def zMD (n_:Nat) y0 y1 y2 y3 y4:Tw (zA4 y0 y1 y2 y3 y4):=by
 delta zA4
 repeat with_reducible (first | intro _ | apply zPs n_ | apply zON n_ | apply ti | apply ts | apply tb | apply tl n_ | exact td _)
def zKl (n_:Nat) y0 y1 y2 y3:Tw (zAb y0 y1 y2 y3):=by
 delta zAb
 repeat with_reducible (first | intro _ | apply zNW n_ | apply ti | apply ts | apply tb | apply tl n_ | exact td _)
def zMP (n_:Nat) y0 y1 y2 y3:Tw (zAz y0 y1 y2 y3):=by
 delta zAz
 repeat with_reducible (first | intro _ | apply zPs n_ | apply ti | apply ts | apply tb | apply tl n_ | exact td _)
def zN5 (n_:Nat) y1 y2 y3 y4 y6:Tw (zCB y1 y2 y3 y4 y6):=by
 delta zCB
 repeat with_reducible (first | intro _ | apply zMP n_ | apply zFU n_ | apply zKl n_ | apply zMD n_ | apply ti | apply ts | apply tb | apply tl n_ | exact td _)
def z4N (n_:Nat) y0 y1 y2 y3 y4:Tw (zLI y0 y1 y2 y3 y4):=by
 delta zLI
 repeat with_reducible (first | intro _ | apply zYv n_ | apply zNa n_ | apply zN5 n_ | apply ti | apply ts | apply tb | apply tl n_ | exact td _)
def zNd (n_:Nat) y0 y1 y2 y3:Tw (zCG y0 y1 y2 y3):=by
 delta zCG
 repeat with_reducible (first | intro _ | apply z4N n_ | apply ti | apply ts | apply tb | apply tl n_ | exact td _)
def zF1 (n_:Nat) y0 y1 y2 y3 s1:Tw (zBH y0 y1 y2 y3 s1):=by
 delta zBH
 repeat with_reducible (first | intro _ | apply zNd n_ | apply ti | apply ts | apply tb | apply tl n_ | exact td _)
def zGt (n_:Nat) y0 y1 y2 y3:Tw (zAc y0 y1 y2 y3):=by
 delta zAc
 repeat with_reducible (first | intro _ | apply zF1 n_ | apply ti | apply ts | apply tb | apply tl n_ | exact td _)
def zFM (n_:Nat) y0 y1 y2 y3 s2:Tw (zBF y0 y1 y2 y3 s2):=by
 delta zBF
 repeat with_reducible (first | intro _ | apply zNd n_ | apply ti | apply ts | apply tb | apply tl n_ | exact td _)
def zGN (n_:Nat) y0 y1 y2 y3:Tw (zAK y0 y1 y2 y3):=by
 delta zAK
 repeat with_reducible (first | intro _ | apply zGt n_ | apply zFM n_ | apply ti | apply ts | apply tb | apply tl n_ | exact td _)
def zW5 (n_:Nat) y0 y1 y2:Tw (zDe y0 y1 y2):=by
 delta zDe
 repeat with_reducible (first | intro _ | apply zWL n_ | apply zGN n_ | apply ti | apply ts | apply tb | apply tl n_ | exact td _)
def zOn (n_:Nat) y0 s1:Tw (zFz y0 s1):=by
 delta zFz
 repeat with_reducible (first | intro _ | apply ti | apply ts | apply tb | apply tl n_ | exact td _)
def zRH (n_:Nat) y0:Tw (zDX y0):=by
 delta zDX
 repeat with_reducible (first | intro _ | apply zOn n_ | apply ti | apply ts | apply tb | apply tl n_ | exact td _)
def zIe (n_:Nat)(y0:List zT): Tw (zAW y0):=⟨zBv n_ y0,zI5 n_ y0⟩
def zZM (n_:Nat) y0 y1:Tw (zFI y0 y1):=by
 delta zFI
 repeat with_reducible (first | intro _ | apply zIe n_ | apply zRH n_ | apply ti | apply ts | apply tb | apply tl n_ | exact td _)
def zQ1 (n_:Nat) y0 x1 y1 s3 s4:Tw (zDS y0 x1 y1 s3 s4):=by
 delta zDS
 repeat with_reducible (first | intro _ | apply zPH n_ | apply ti | apply ts | apply tb | apply tl n_ | exact td _)
def zRM (n_:Nat) y0 y1 s3:Tw (zCa y0 y1 s3):=by
 delta zCa
 repeat with_reducible (first | intro _ | apply zQ1 n_ | apply ti | apply ts | apply tb | apply tl n_ | exact td _)
def zT6 (n_:Nat) y0 y1:Tw (zD4 y0 y1):=by
 delta zD4
 repeat with_reducible (first | intro _ | apply zRM n_ | apply ti | apply ts | apply tb | apply tl n_ | exact td _)
def zWZ (n_:Nat) y0 y1:Tw (zCX y0 y1):=by
 delta zCX
 repeat with_reducible (first | intro _ | apply zWg n_ | apply zW5 n_ | apply zZM n_ | apply zPt n_ | apply zCY n_ | apply zKz n_ | apply zT6 n_ | apply ti | apply ts | apply tb | apply tl n_ | exact td _)
end
end
section
def awkB:zM:=([((false,[112]),2,1,[]),((true,[112]),2,1,[]),((false,[120]),1,0,[])],[([97],false,1,[],(false,[113])),([98],false,1,[],(true,[113]))],[([98],2,(false,[120]))])
theorem z7g:tD awkB:=zMm.1 (by decide)
theorem z87:fmtT awkB=[112,114,101,109,105,115,101,32,112,32,49,10,112,114,101,109,105,115,101,32,126,112,32,49,10,97,120,105,111,109,32,120,10,114,117,108,101,32,97,32,49,58,32,61,62,32,113,10,114,117,108,101,32,98,32,49,58,32,61,62,32,126,113,10,112,114,111,109,111,116,101,32,98,32,50,32,105,102,32,120,10]:=by decide
noncomputable def awkM:Option Bool:=(zCX awkB (1,1)).bind fun r2 =>
 (zAx r2.1 1 true).bind fun r3 =>
 (zAx r2.1 3 false).bind fun r4 =>
 (
   if r2.2==0 then
    if r3.2==0 then
     if(len r3.1)==2 then
      (zB r3.1 0).bind fun x1 =>
      if x1==(true,[113]) then
       if r4.2==0 then
        some ((len r4.1)==4)
       else
        some false
      else
       some false
     else
      some false
    else
     some false
   else
    some false:Option Bool).bind fun s1 =>
 some s1
noncomputable def w_awkM (n_:Nat): Tw awkM:=by
 delta awkM
 repeat with_reducible (first | intro _ | apply zWZ n_ | apply zV9 n_ | apply ti | apply ts | apply tb | apply tl n_ | exact td _)
theorem z9n:awkM=some true:=(w_awkM 200).el (by kernel_rfl)
theorem z7W:zK4=some true:=by
 unfold zK4
 rw[z8k,←z87,z7B z7g,zob]
 exact z9n
theorem zY7 (y0:List Int)(y1:List Int){W0 W1:Prop}(_w0:W0)(_w1:W1): zL3 y0 y1=some true:=zZN z7W y0 y1
end
end Go.GD
