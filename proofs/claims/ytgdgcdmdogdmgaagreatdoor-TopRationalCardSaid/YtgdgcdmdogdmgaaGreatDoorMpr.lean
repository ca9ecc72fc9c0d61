/- A part. Conditions: none. -/
import Derived.Test.YtgdgcdmdogdmgaaGreatDoorJ5
import Derived.Maps.RangeRun
namespace Go.GD
open Go Go.RowKit
set_option autoImplicit false
set_option linter.unusedVariables false
variable {qd:Prop}
def Iq{κ ν:Type}(kv:κ->Value)(vv:ν->Value)(r:zG)(b:Nat)(rm:zG)(bm:Nat)(l rest:List (κ×ν))(cur:Option (κ×ν)): Prop :=
 ∃ es c since c0 seen,rm=[(bm,.map es c)]∧r=[(b,.mapIter (some bm) since seen c0)]∧es.toList.map (fun e=>(e.key,e.val))=l.map (fun x=>(kv x.1,vv x.2))∧Brn es.toList c∧(∀ e∈es.toList,e.born<since)∧since≤c0 ∧
  since≤c∧(leftOf es seen).toList.map (fun e=>(e.key,e.val))=rest.map (fun x=>(kv x.1,vv x.2))∧∀ x,cur=some x->∃ e∈es.toList,∃ sn:Array Nat,seen=sn.push e.born∧c0=c∧e.key=kv x.1∧e.val=vv x.2
def Itm{κ ν:Type}(kv:κ->Value)(vv:ν->Value)(r:zG)(b:Nat)(rm:zG)(bm:Nat)(l rest:List (κ×ν))(cur:Option (κ×ν)): PP:=⟨fun _ _=>Iq kv vv r b rm bm l rest cur,fun _ h=>h⟩
theorem zRg{α:Type}{f:α->Nat}{p:α->Bool}: ∀ {L:List α} {e:α},(L.map f).Nodup->e∈L.filter p->∃ j,(L.filter p)[j]?=some e∧(L.filter p).eraseIdx j=L.filter fun y=>p y&&!(f y==f e)
 | [],e,_,h=>by simp at h
 | y::L,e,hn,h=>by
  rw[Ua,UC] at hn
  have hne:∀ z∈L,f z≠f y:=fun z hz e=>hn.1 (Qj.2 ⟨z,hz,e⟩)
  by_cases hp:p y=true
  ·rw[List.filter_cons_of_pos hp] at h ⊢
   rcases Qv.1 h with rfl | h
   ·refine⟨0,rfl,?_⟩
    rw[List.eraseIdx_zero,List.tail_cons,Wr (by simp)]
    refine Uz fun z hz=>?_
    have:=hne z hz
    simp[this]
   ·obtain⟨j,h1,h2⟩:=zRg hn.2 h
    refine⟨j+1,h1,?_⟩
    have:f y≠f e:=fun h3=>hne e (Qk.1 h).1 h3.symm
    rw[List.eraseIdx_cons_succ,h2,List.filter_cons_of_pos (by simp[hp,this])]
  ·rw[Wr hp] at h ⊢
   obtain⟨j,h1,h2⟩:=zRg hn.2 h
   exact⟨j,h1,by rw[h2,Wr (by simp[hp])]⟩
section
variable {P:Program}{ops:Array Oper}{Q:Exit->Act->World->Prop}{K:Act->World->Prop}
variable {A:List Nat}{L0 Ls:List zG}{w0 w:World}{n:Nat}{S:List (Nat×Value)}{F:List PP}{a:Act}
variable {d:Nat}{ty:TypeId}{pos:String}{af:Array Edge}{g:Option (Nat×Bool)}{s:Bool}
variable {t kt vt:TypeId}{κ ν:Type}[BEq κ]{kv:κ->Value}{vv:ν->Value}{x:Operand}{r rm:zG}{b bm:Nat}{l rest:List (κ×ν)}{cur:Option (κ×ν)}
theorem b_mlen (i:Nat)(h:SS qd A L0 w0 n S Ls F a w)(H:zSb P t kt vt kv)(hM:(Ma kv vv r b l).h (bl Ls++A) w)(hx:zK S x=some (.map (some b)))(hr:Ls[i]?=some r)
  (kk:∀ a,SS qd A L0 w0 n ((d,vi (List.length l:Nat))::S) Ls F a w->K a w)
  (hd:Nat.blt d n=true:=by kernel_rfl) (hg:zQ ops S g=some true:=by kernel_rfl):wH P ops Q ⟨some d,.call { callee:=.builtin .len,args:=[x].toArray,argTypes:=[t].toArray },ty,pos,af,g⟩ K a w:=by
 obtain⟨es,c,rfl,he,_⟩:=hM
 have hb:=yP h.o hr (Qa.2 rfl)
 have hl:es.size=l.length:=by
  have:=congrArg List.length he
  simpa using this
 refine uX h.s hd hg (w':=w) ?_ fun a hS=>kk a (h.slot hS)
 simp[execOp,resolve,invoke,builtin,h.s.eval hx,Builtin.len_,run_underlying H.hu,zNa hb,goInt,hl]
theorem b_range (i:Nat)(h:SS qd A L0 w0 n S Ls F a w)(H:zSb P t kt vt kv)(hM:(Ma kv vv r b l).h (bl Ls++A) w)(hx:zK S x=some (.map (some b)))(hr:Ls[i]?=some r)
  (kk:∀ b2 r2 a w',SS qd A L0 w0 n ((d,pt b2 0)::S) (Ls++[r2]) (Itm kv vv r2 b2 r b l l none::F) a w'->zT qd Ls w (Ls++[r2]) w'->K a w')
  (hd:Nat.blt d n=true:=by kernel_rfl) (hg:zQ ops S g=some true:=by kernel_rfl):wH P ops Q ⟨some d,.range t x,ty,pos,af,g⟩ K a w:=by
 obtain⟨es,c,rfl,he,hB⟩:=hM
 have hb:=yP h.o hr (Qa.2 rfl)
 refine uX h.s hd hg (v:=pt w.heap.size 0) (w':=w.alloc (.mapIter (some b) c #[] c)) ?_ fun a hS=>kk w.heap.size [(w.heap.size,.mapIter (some b) c #[] c)] a _ (h.next (h.o.alloc _ rfl) (zT.alloc Ls _ rfl rfl rfl rfl) hS [_] ⟨⟨es,c,c,c,#[],rfl,rfl,he,hB,hB.2,Qr _,Qr _,by rw[show(leftOf es #[]).toList=es.toList by simp only[leftOf,Array.toList_filter];exact Wn.2 fun _ _=>by simp];exact he,nofun⟩,trivial⟩) (zT.alloc Ls _ rfl rfl rfl rfl)
 simp[execOp,h.s.eval hx,run_range_map w t kt vt b es c H.hu hb]
omit [BEq κ] in
theorem b_next (i im:Nat)(h:SS qd A L0 w0 n S Ls F a w)(hM:(Itm kv vv r b rm bm l rest cur).h (bl Ls++A) w)(hx:zK S x=some (pt b 0))(hr:Ls[i]?=some r)(hm:Ls[im]?=some rm)
  (k0:∀ a,rest=[]->SS qd A L0 w0 n ((d,.tuple #[vb false])::S) Ls F a w->K a w)
  (k1:∀ r' j y a w',rest[j]?=some y->SS qd A L0 w0 n ((d,.tuple #[vb true,kv y.1,vv y.2])::S) (Ls.set i r') (Itm kv vv r' b rm bm l (rest.eraseIdx j) (some y)::F) a w'->zT qd Ls w (Ls.set i r') w'->K a w')
  (hd:Nat.blt d n=true:=by kernel_rfl) (hg:zQ ops S g=some true:=by kernel_rfl):wH P ops Q ⟨some d,.next x false,ty,pos,af,g⟩ K a w:=by
 obtain⟨es,c,since,c0,seen,rfl,rfl,he,hB,hs1,hs2,hs3,hl,hc⟩:=hM
 have hb:=yP h.o hr (Qa.2 rfl)
 have hbm:=yP h.o hm (Qa.2 rfl)
 have hlt:b<w.heap.size:=(Qt.1 hb).1
 rcases run_next_at (P:=P) w ty b bm since c0 seen es c hb hbm hs1 hs2 with⟨h0,hrun⟩ | ⟨e,hem,w1,hw1,hrun⟩
 ·have hr0:rest=[]:=by
   have e0:(leftOf es seen).toList=[]:=by simpa using h0
   rw[e0] at hl
   cases rest with
   | nil=>rfl
   | cons _ _=>simp at hl
  refine uX h.s hd hg (v:=.tuple #[vb false]) (w':=w) ?_ fun a hS=>k0 a hr0 (h.slot hS)
  simp only[execOp,h.s.eval hx,hrun,Sem.run_bind,Result.andThen]
  rfl
 ·have hw1':w1.os=w.os∧w1.tape=w.tape∧w1.output=w.output∧w1.heap=w.heap∧w.drawn≤w1.drawn:=by
   rcases hw1 with rfl | rfl
   ·exact⟨rfl,rfl,rfl,rfl,Qr _⟩
   ·exact⟨rfl,rfl,rfl,rfl,Nat.le_succ _⟩
  obtain⟨g1,g2,g3,g4,g5⟩:=hw1'
  have hfl:(leftOf es seen).toList=es.toList.filter fun y=>!seen.contains y.born:=by simp[leftOf]
  rw[hfl] at hem hl
  obtain⟨j,j1,j2⟩:=zRg (f:=fun y:MapEntry=>y.born) hB.1 hem
  have hyj:∃ y,rest[j]?=some y∧e.key=kv y.1∧e.val=vv y.2:=by
   have:=congrArg (·[j]?) hl
   simp only[Q2,j1,Option.map_some] at this
   cases hrj:rest[j]? with
   | none=>rw[hrj] at this;cases this
   | some y=>rw[hrj] at this;simp only[Option.map_some,Qf,Prod.mk.injEq] at this;exact⟨y,rfl,this.1,this.2⟩
  obtain⟨y,y1,y2,y3⟩:=hyj
  let w2:World:=ChangeMaps.setBlock w1 b (.mapIter (some bm) since (seen.push e.born) c)
  have hheap:w2.heap=w.heap.setIfInBounds b (.mapIter (some bm) since (seen.push e.born) c):=by show w1.heap.setIfInBounds _ _=_;rw[g4]
  have hk:∀ q,q<w.heap.size->q∉[(b,Obj.mapIter (some bm) since seen c0)].map Prod.fst->w2.heap[q]?=w.heap[q]?:=fun q _ hq=>by
   rw[hheap];grind
  have hh:w2.heap[b]?=some (.mapIter (some bm) since (seen.push e.born) c):=by rw[hheap];simp[hlt]
  have hsz:w.heap.size≤w2.heap.size:=by rw[hheap];simp
  have hO:=h.o.set hr (w':=w2) (r':=[(b,.mapIter (some bm) since (seen.push e.born) c)]) hsz hk (fun p hp=>by rw[Qa.1 hp];exact hh) (by simp) (fun p hp=>by rw[Qa.1 hp];exact .inl (by simp))
  have hE:zT qd Ls w (Ls.set i [(b,.mapIter (some bm) since (seen.push e.born) c)]) w2:=zT.set hr g1 g2 g3 hsz hk (fun p hp=>by rw[Qa.1 hp];exact .inl (by simp)) (fun _=>g5)
  refine uX h.s hd hg (v:=.tuple #[vb true,kv y.1,vv y.2]) (w':=w2) ?_ fun a hS=>k1 [(b,.mapIter (some bm) since (seen.push e.born) c)] j y a _ y1 (h.next hO hE hS [_] ⟨⟨es,c,since,c,seen.push e.born,rfl,rfl,he,hB,hs1,hs3,hs3,?_,fun z hz=>?_⟩,trivial⟩) hE
  ·simp only[execOp,h.s.eval hx,hrun,Sem.run_bind,Result.andThen,y2,y3]
   rfl
  ·have:(leftOf es (seen.push e.born)).toList=es.toList.filter fun z=>(!seen.contains z.born)&&!(z.born==e.born):=by
    simp only[leftOf,Array.toList_filter]
    refine Uz fun z _=>?_
    rw[Array.contains_push,Bool.not_or]
   rw[this,←j2,ChangeMaps.map_eraseIdx,hl,←ChangeMaps.map_eraseIdx]
  ·cases hz
   exact⟨e,(Qk.1 hem).1,seen,rfl,rfl,y2,y3⟩
omit [BEq κ] in
theorem b_entry (i im:Nat){y:κ×ν}(h:SS qd A L0 w0 n S Ls F a w)(hM:(Itm kv vv r b rm bm l rest (some y)).h (bl Ls++A) w)(hx:zK S x=some (pt b 0))(hr:Ls[i]?=some r)(hm:Ls[im]?=some rm)
  (kk:∀ a,SS qd A L0 w0 n ((d,.tuple #[kv y.1,vv y.2])::S) Ls F a w->K a w)
  (hd:Nat.blt d n=true:=by kernel_rfl) (hg:zQ ops S g=some true:=by kernel_rfl):wH P ops Q ⟨some d,.entry x,ty,pos,af,g⟩ K a w:=by
 obtain⟨es,c,since,c0,seen,rfl,rfl,he,hB,hs1,hs2,hs3,hl,hc⟩:=hM
 obtain⟨e,e1,sn,rfl,rfl,e2,e3⟩:=hc y rfl
 have hb:=yP h.o hr (Qa.2 rfl)
 have hbm:=yP h.o hm (Qa.2 rfl)
 have hrun:=run_entry_at (P:=P) w b bm since sn es c0 e hb hbm e1 hB.1
 refine uX h.s hd hg (v:=.tuple #[kv y.1,vv y.2]) (w':=w) ?_ fun a hS=>kk a (h.slot hS)
 simp only[execOp,h.s.eval hx,hrun,Sem.run_bind,Result.andThen,e2,e3]
 rfl
end
section
variable {P:Program}{n:Nat}{X:Hd qd}{ρ:Type}{Q:PQ ρ}{S:Sl}{Ls:List zG}{F:List PP}{m m2:Option ρ}{os:Array Oper}{ol:List Oper}{x:Operand}{p p':yO}{d:Nat}{ty:TypeId}{pos:String}{af:Array Edge}{g:Option (Nat×Bool)}{id:Nat}{c:Code}
variable {t kt vt:TypeId}{κ ν:Type}[BEq κ]{kv:κ->Value}{vv:ν->Value}{r rm:zG}{b bm:Nat}{l rest:List (κ×ν)}{cur:Option (κ×ν)}
theorem jkn (at0:At Ls p os ⟨some d,.call { callee:=.builtin .len,args:=[x].toArray,argTypes:=[t].toArray },ty,pos,af,g⟩ p')(i q:Nat)(H:zSb P t kt vt kv)(hF:vW F q=Ma kv vv r b l)(hx:zK S x=some (.map (some b)))
  (h:J P n X Q p' ((d,vi (List.length l:Nat))::S) Ls F m) (hr:Ls[i]?=some r:=by rfl) (hd:Nat.blt d n=true:=by kernel_rfl) (hg:zQ os S g=some true:=by kernel_rfl):J P n X Q p S Ls F m :=
 ⟨fun hq r0 hm a w hs=>at0.run fun K hK=>b_mlen i hs H (hF▸hs.g q) hx hr (fun a h'=>hK (zT.refl _ _) (h.go hq r0 hm a w h')) hd hg⟩
theorem jkr (at0:At Ls p os ⟨some d,.range t x,ty,pos,af,g⟩ p')(i q:Nat)(H:zSb P t kt vt kv)(hF:vW F q=Ma kv vv r b l)(hx:zK S x=some (.map (some b)))
  (h:∀ b2 r2,zM5 Ls r2 fun Ls'=>J P n X Q p' ((d,pt b2 0)::S) Ls' (Itm kv vv r2 b2 r b l l none::F) m) (hr:Ls[i]?=some r:=by rfl) (hd:Nat.blt d n=true:=by kernel_rfl) (hg:zQ os S g=some true:=by kernel_rfl):J P n X Q p S Ls F m :=
 ⟨fun hq r0 hm a w hs=>at0.run fun K hK=>b_range i hs H (hF▸hs.g q) hx hr (fun b2 r2 a w' h' e=>hK e (by
  have h:=h b2 r2
  rw[zJS] at h
  exact h.go hq r0 hm a w' h')) hd hg⟩
omit [BEq κ] in
theorem jkx (at0:At Ls p os ⟨some d,.next x false,ty,pos,af,g⟩ p')(i im q:Nat)(hF:vW F q=Itm kv vv r b rm bm l rest cur)(hx:zK S x=some (pt b 0))
  (h0:rest=[]->J P n X Q p' ((d,.tuple #[vb false])::S) Ls F m)
  (h1:∀ r' j y,rest[j]?=some y->uE Ls i r' fun Ls'=>J P n X Q p' ((d,.tuple #[vb true,kv y.1,vv y.2])::S) Ls' (Itm kv vv r' b rm bm l (rest.eraseIdx j) (some y)::F) m)
  (hr:Ls[i]?=some r:=by rfl) (hrm:Ls[im]?=some rm:=by rfl) (hd:Nat.blt d n=true:=by kernel_rfl) (hg:zQ os S g=some true:=by kernel_rfl):J P n X Q p S Ls F m :=
 ⟨fun hq r0 hm a w hs=>at0.run fun K hK=>b_next i im hs (hF▸hs.g q) hx hr hrm (fun a e h'=>hK (zT.refl _ _) ((h0 e).go hq r0 hm a w h')) (fun r' j y a w' hj h' e=>hK e (by
  have h:=h1 r' j y hj
  rw[zH7] at h
  exact h.go hq r0 hm a w' h')) hd hg⟩
omit [BEq κ] in
theorem jky{y:κ×ν}(at0:At Ls p os ⟨some d,.entry x,ty,pos,af,g⟩ p')(i im q:Nat)(hF:vW F q=Itm kv vv r b rm bm l rest (some y))(hx:zK S x=some (pt b 0))
  (h:J P n X Q p' ((d,.tuple #[kv y.1,vv y.2])::S) Ls F m) (hr:Ls[i]?=some r:=by rfl) (hrm:Ls[im]?=some rm:=by rfl) (hd:Nat.blt d n=true:=by kernel_rfl) (hg:zQ os S g=some true:=by kernel_rfl):J P n X Q p S Ls F m :=
 ⟨fun hq r0 hm a w hs=>at0.run fun K hK=>b_entry i im hs (hF▸hs.g q) hx hr hrm (fun a h'=>hK (zT.refl _ _) (h.go hq r0 hm a w h')) hd hg⟩
def jkQ{σ:Type}(X:Hd qd)(n:Nat)(I:σ->uN->Prop)(μ:σ->Nat)(s:σ)(Q:PQ ρ): PQ ρ:=fun r e a w=>match e with
 | .normal=>∃ s',μ s' < μ s∧Ex (I s') fun S L F=>SS qd X.A X.L0 X.w0 n S L F a w
 | e=>Q r e a w
theorem jkQ.np{σ:Type}{I:σ->uN->Prop}{μ:σ->Nat}{s:σ}(h:NP Q): NP (jkQ X n I μ s Q):=fun r c a w hh=>h r c a w hh
theorem z5K{a:Act}{w:World}{Q:Exit->Act->World->Prop}(G:Nat->Act->World->Prop)(step:∀ k a w,G k a w->c.wp P (fun e a w=>match e with | .normal=>∃ k',k' < k∧G k' a w | e=>Q e a w) a w){k:Nat}(h0:G k a w): (Code.loop c).wp P Q a w:=by
 intro b kk cs
 have key:∀ m k a w,k<m->G k a w->∃ e a' w',Q e a' w'∧Arrives P (lone (b.at a (.code c::.inLoop c::kk)) cs w) b kk cs e a' w':=by
  intro m
  induction m with
  | zero=>intro k a w hk;omega
  | succ m ih =>
   intro k a w hk hG
   obtain⟨e,a₁,w₁,hq,harr⟩:=step k a w hG b (.inLoop c::kk) cs
   cases e with
   | normal =>
    obtain⟨k',hk',hG'⟩:=hq
    obtain⟨e₂,a₂,w₂,hq₂,harr₂⟩:=ih k' a₁ w₁ (by omega) hG'
    exact⟨e₂,a₂,w₂,hq₂,.of_steps (Steps.trans harr (.one step_inLoop)) harr₂⟩
   | exit id=>exact⟨_,a₁,w₁,hq,.pass (x:=.inLoop c) rfl (fun _ _=>.inl (by simp)) harr⟩
   | goto l=>exact⟨_,a₁,w₁,hq,.pass (x:=.inLoop c) rfl (fun _ _=>.inl (by simp)) harr⟩
   | ret=>exact⟨_,a₁,w₁,hq,.pass (x:=.inLoop c) rfl (fun _ _=>.inl (by simp)) harr⟩
   | panic ch=>exact⟨_,a₁,w₁,hq,.pass (x:=.inLoop c) rfl (fun _ _=>.inl (by simp)) harr⟩
   | outgrown=>exact⟨_,a₁,w₁,hq,.pass (x:=.inLoop c) rfl (fun _ _=>.inl (by simp)) harr⟩
 obtain⟨e,a',w',hq,harr⟩:=key (k+1) k a w (Wk k) h0
 exact⟨e,a',w',hq,.of_steps (.one step_loop) harr⟩
theorem jkL{σ:Type}{s0:σ}(I:σ->uN->Prop)(μ:σ->Nat)(g0:Gv Ls S F (I s0))
  (hb:∀ s K,(∀ {S L F},J P n X (jkQ X n I μ s Q) (.code c) S L F m->K S L F)->I s K):J P n X Q (.code (.loop c)) S Ls F m:=by
 refine⟨fun hq r hm a w hs=>?_⟩
 refine z5K (fun k a w=>∃ s,μ s=k∧Ex (I s) fun S L F=>SS qd X.A X.L0 X.w0 n S L F a w) (fun k a w hG=>?_) (k:=μ s0) ⟨s0,rfl,g0.go hs⟩
 obtain⟨s,rfl,hI⟩:=hG
 refine hI _ (hb s _ fun {S L F} hj hs=>?_)
 refine wp_mono (hj.go (jkQ.np hq) r hm a w hs) fun e a w h=>?_
 cases e <;> first | exact h | (obtain⟨s',h1,h2⟩:=h;exact⟨_,h1,s',rfl,h2⟩)
theorem jkN{σ:Type}{I:σ->uN->Prop}{μ:σ->Nat}{s s':σ}(h:μ s' < μ s)(g0:Gv Ls S F (I s')): J P n X (jkQ X n I μ s Q) (.ex .normal) S Ls F m :=
 ⟨fun _ r hm a w hs=>⟨s',h,g0.go hs⟩⟩
theorem jkE{σ:Type}{I:σ->uN->Prop}{μ:σ->Nat}{s:σ}(h:J P n X Q (.ex (.exit id)) S Ls F m): J P n X (jkQ X n I μ s Q) (.ex (.exit id)) S Ls F m :=
 ⟨fun hq r hm a w hs=>h.go (fun r c a w hh=>hq r c a w hh) r hm a w hs⟩
open Classical in
noncomputable def wh{α β:Type}(x w:α)(m:Option β): Option β:=if x=w then m else none
theorem jkB{α:Type}{o:Option α}{z:α}(e:o=some z)(h:J P n X Q p S Ls F (o.bind fun x=>wh x z m)): J P n X Q p S Ls F m:=by
 have:(o.bind fun x=>wh x z m)=m:=by rw[e];exact Qu rfl
 rwa [this] at h
theorem jkW{α:Type}{x z:α}(h:x=z->J P n X Q p S Ls F m): J P n X Q p S Ls F (wh x z m) :=
 ⟨fun hq r hm a w hs=>by
  unfold wh at hm
  split at hm
  ·rename_i e;exact(h e).go hq r hm a w hs
  ·cases hm⟩
theorem jkz{α:Type}{o o2:Option α}{f:α->Option ρ}(e:o=o2)(h:J P n X Q p S Ls F (o2.bind f)): J P n X Q p S Ls F (o.bind f):=e▸h
theorem jkG{f:Unit->Option ρ}{k:Nat}(h:k<4294967296->J P n X Q p S Ls F (f ())): J P n X Q p S Ls F ((gd k).bind f) :=
 ⟨fun hq r hm a w hs=>by
  unfold gd at hm
  by_cases hk:k<4294967296
  ·rw[Qu hk] at hm;exact(h hk).go hq r hm a w hs
  ·rw[Qq hk] at hm;cases hm⟩
omit [BEq κ] in
theorem gIt{cur:Option (κ×ν)}(h:wO Ls F (Itm kv vv r b rm bm l rest cur)): wO Ls F (Itm kv vv r b rm bm l rest none):=fun A w hO hF=>by
 obtain⟨es,c,since,c0,seen,h1,h2,h3,h4,h5,h6,h7,h8,_⟩:=h A w hO hF
 exact⟨es,c,since,c0,seen,h1,h2,h3,h4,h5,h6,h7,h8,nofun⟩
theorem zYX{α:Type}: ∀ {l:List α} {j:Nat} {x:α},l[j]?=some x->(x::l.eraseIdx j).Perm l
 | a::l,0,x,h=>by cases h;exact .refl _
 | a::l,j+1,x,h=>(List.Perm.swap a x _).trans ((zYX (l:=l) h).cons a)
omit [BEq κ] in
theorem perm_go{out z:List κ}{j:Nat}{y:κ×ν}{keys:List κ}(hp:(out++rest.map Prod.fst).Perm keys)(hj:rest[j]?=some y)(e:z=out++[y.1]): (z++(rest.eraseIdx j).map Prod.fst).Perm keys:=by
 subst e
 refine .trans ?_ hp
 rw[QA]
 exact .append_left _ ((zYX hj).map Prod.fst)
omit [BEq κ] in
theorem z9S{out:List κ}{j:Nat}{y:κ×ν}{keys:List κ}(hp:(out++rest.map Prod.fst).Perm keys)(hj:rest[j]?=some y)(hk:keys.length<4294967296): qG out [y.1]=some (out++[y.1]):=by
 refine Qu ?_
 have h1:=hp.length_eq
 have h2:=(Qg.1 hj).1
 simp at h1 ⊢
 omega
omit [BEq κ] in
theorem z7w{out keys:List κ}(hp:(out++rest.map Prod.fst).Perm keys)(h:rest=[]): out.Perm keys:=by
 subst h
 simpa using hp
omit [BEq κ] in
theorem perm_lt{j:Nat}{y:κ×ν}(hj:rest[j]?=some y): (rest.eraseIdx j).length<rest.length:=by
 have h2:=(Qg.1 hj).1
 rw[List.length_eraseIdx_of_lt h2]
 omega
end
end Go.GD
