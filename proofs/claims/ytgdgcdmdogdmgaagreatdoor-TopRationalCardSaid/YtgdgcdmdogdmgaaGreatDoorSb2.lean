/- A part. Conditions: none. -/
import Derived.Test.YtgdgcdmdogdmgaaGreatDoorSb
import Derived.Shelf.Strings.Builder1
namespace Go.GD
open Go Go.RowKit Go.Shelf Go.Proofs
set_option autoImplicit false
variable {qd:Prop}
def z8P (te:TypeId)(r:zG)(p:Option Addr)(c:Nat)(l:zD): Prop :=
 (r=[]∧p=none∧c=0∧l=[])∨∃ g cells,r=[(g,.cells cells te (0,0))]∧p=some ⟨g,0,none⟩∧l≠[]∧l.length≤c∧c≤maxLen∧cells.size=c∧cells.toList.take l.length=Lib.strCells ⟨⟨l⟩⟩
def BdR (T te:TypeId)(r:zG)(b:Nat)(l:zD): Prop :=
 ∃ p ad c r2,(p=.pointer none∨p=pt b 0)∧r=(b,.cells #[p,.slice ad l.length c] T (0,0))::r2∧z8P te r2 ad c l
def Bdr (T te:TypeId)(r:zG)(b:Nat)(l:zD): PP:=Pu (BdR T te r b l)
theorem zNL (l:zD): (Lib.strCells ⟨⟨l⟩⟩).length=l.length:=by rw[Lib.strCells_length];rfl
theorem zVD (l s:zD): Lib.strCells ⟨⟨l++s⟩⟩=Lib.strCells ⟨⟨l⟩⟩++Lib.strCells ⟨⟨s⟩⟩:=by simp[Lib.strCells]
section
variable {P:Program}{w:World}{A:List Nat}
theorem zYx{t u te:TypeId}{i:TypeInfo}(ht:P.underlying t=some (.slice te))(hu:P.underlying u=some .string)(hi:P.info? te=some i)(hz:i.zero=some (.int .u8 0))(hsize:i.size=1)(hby:i.bytes=1)
  {r:zG} {p:Option Addr} {c:Nat} {l s:zD} (hO:zU A w [r]) (hA:z8P te r p c l) (hm:l.length+s.length<4294967296) (ty:TypeId) :
  ∃ r' p' c' w',(Builtin.append_ #[t,u] ty #[.slice p l.length c,.string ⟨⟨s⟩⟩]).run P w=.ok (.slice p' (l++s).length c') w'∧zU A w' [r']∧zT qd [r] w [r'] w'∧z8P te r' p' c' (l++s)∧w.drawn≤w'.drawn:=by
 have hss:(⟨⟨s⟩⟩:ByteArray).size=s.length:=rfl
 have grown:∀(old:Nat) (xs:zD),xs=l->old<xs.length+s.length->xs++s≠[]->
   ∃ r',zU A (w.drew.alloc (.cells ((Lib.strCells ⟨⟨xs⟩⟩).toArray++(Lib.strCells ⟨⟨s⟩⟩).toArray++Builtin.zeroCells (Value.int .u8 0).cells (grownCap w (xs.length+s.length) old te-(xs.length+s.length))) te)) [r'] ∧
    zT qd [r] w [r'] (w.drew.alloc (.cells ((Lib.strCells ⟨⟨xs⟩⟩).toArray++(Lib.strCells ⟨⟨s⟩⟩).toArray++Builtin.zeroCells (Value.int .u8 0).cells (grownCap w (xs.length+s.length) old te-(xs.length+s.length))) te)) ∧
    z8P te r' (some ⟨w.heap.size,0,none⟩) (grownCap w (xs.length+s.length) old te) (xs++s):=by
  intro old xs hxs ho hn
  have hge:=grownCap_ge w (xs.length+s.length) old te
  have hcm:=grownCap_le_maxLen w (xs.length+s.length) old te (by grind [maxLen])
  refine⟨[(w.heap.size,.cells ((Lib.strCells ⟨⟨xs⟩⟩).toArray++(Lib.strCells ⟨⟨s⟩⟩).toArray++Builtin.zeroCells (Value.int .u8 0).cells (grownCap w (xs.length+s.length) old te-(xs.length+s.length))) te (0,0))],?_,?_,.inr ⟨w.heap.size,_,rfl,rfl,hn,by grind,hcm,?_,?_⟩⟩
  ·exact hO.set (i:=0) rfl (by simp) (fun k hk _=>Below.heap_alloc w.drew _ k hk) (fun x hx=>by simp only[Qa] at hx;subst hx;exact heap_alloc_new w.drew _) (by simp) (fun x hx=>by grind)
  ·exact zT.set (i:=0) rfl rfl rfl rfl (by simp) (fun k hk _=>Below.heap_alloc w.drew _ k hk) (fun x hx=>by grind)
  ·have hz1:(Value.int IntKind.u8 0).cells.size=1:=rfl
   grind [size_zeroCells,zNL]
  ·grind [zNL,zVD]
 rcases hA with⟨rfl,rfl,rfl,rfl⟩ | ⟨g,cells,rfl,rfl,hne,h3,h4,h5,h6⟩
 ·by_cases hs:s=[]
  ·subst hs
   have hf:=Lib.run_firstCells_string (P:=P) w 1 ⟨⟨[]⟩⟩
   have hs0:(⟨⟨[]⟩⟩:ByteArray).size=0:=rfl
   rw[hs0] at hf
   exact⟨[],none,0,w,by simp[Builtin.append_,run_underlying ht,run_underlying hu,sizeOf,typeInfo,hi,hsize,Builtin.lenOf,hs0,hf],hO,zT.refl _ _,.inl ⟨rfl,rfl,rfl,rfl⟩,Qr _⟩
  ·have hpos:0<s.length:=Q5.2 hs
   have hr:=run_append_nil_string (P:=P) w t u ty te i (.int .u8 0) ht hu hi hz ⟨⟨s⟩⟩ (by grind) (by grind) (by grind)
   obtain⟨r',h1,h2,h3⟩:=grown 0 [] rfl (by grind) (by grind)
   have e1:((⟨⟨s⟩⟩:ByteArray).data.map fun b=>Value.int .u8 b.toNat)=(Lib.strCells ⟨⟨s⟩⟩).toArray:=by
    apply Array.ext'
    simp[Lib.strCells]
   have e0:Lib.strCells ⟨⟨[]⟩⟩=[]:=rfl
   rw[e1,hss] at hr
   simp only[e0,Ud,UF,Array.empty_append] at h1 h2 h3
   exact⟨r',_,_,_,hr,h1,h2,h3,Nat.le_succ _⟩
 ·have hb:=yP hO (i:=0) rfl (Qa.2 rfl)
  by_cases hroom:l.length+s.length≤c
  ·have hr:=Lib.run_append_room_string (P:=P) w t u ty te i ht hu hi hsize g l.length c cells hb ⟨⟨s⟩⟩ (by grind) (by grind)
   have hk:∀(cs:Array Value) (k:Nat),k<w.heap.size->k∉[(g,Obj.cells cells te (0,0))].map Prod.fst->(w.setRow g cs).heap[k]?=w.heap[k]?:=fun cs k _ hk=>setRow_other w g k _ (fun e=>hk (by simp[e]))
   refine⟨[(g,.cells (cells.toList.take l.length++Lib.strCells ⟨⟨s⟩⟩++cells.toList.drop (l.length+s.length)).toArray te (0,0))],_,c,w.setRow g (cells.toList.take l.length++Lib.strCells ⟨⟨s⟩⟩++cells.toList.drop (l.length+s.length)).toArray,by grind,?_,?_,.inr ⟨g,_,rfl,rfl,by simp[hne],by grind,h4,?_,?_⟩,Qr _⟩
   ·exact hO.set (i:=0) rfl (by simp) (hk _) (fun x hx=>by grind [setRow_heap]) (by simp) (fun x hx=>by grind)
   ·exact zT.set (i:=0) rfl rfl rfl rfl (by simp) (hk _) (fun x hx=>by grind)
   ·grind [zNL]
   grind [zNL,zVD]
  ·have holds:∀ j v,(Lib.strCells ⟨⟨l⟩⟩)[j]?=some v->w.cell? ((⟨g,0,none⟩:Addr).add j)=some v:=fun j v hv=>by
    rw[zCj,cell_of_row w g (0+j) cells te (0,0) hb,UF]
    grind
   have hr:=Lib.run_append_grow_string (P:=P) w t u ty te i (.int .u8 0) ht hu hi hz ⟨g,0,none⟩ l.length c (Lib.strCells ⟨⟨l⟩⟩) (by grind) holds ⟨⟨s⟩⟩ (by grind) (by grind) (by rw[hby,hss];exact growslice_fits (by omega) (by omega))
   obtain⟨r',h1,h2,h3⟩:=grown c l rfl (by omega) (by simp[hne])
   exact⟨r',_,_,_,by grind,h1,h2,h3,Nat.le_succ _⟩
theorem z1L{ops:Array Oper}{rest:List Oper}{o:Oper}{a:Act}{Q:Exit->Act->World->Prop}(hgd:o.guard=none)(sl x:Operand)(t u:TypeId)(ho:o.op=.call { callee:=.builtin .append,args:=#[sl,x],argTypes:=#[t,u] })(te:TypeId)(i:TypeInfo)
  (ht:P.underlying t=some (.slice te)) (hu:P.underlying u=some .string) (hi:P.info? te=some i) (hz:i.zero=some (.int .u8 0)) (hsize:i.size=1) (hby:i.bytes=1)
  {r:zG} {p:Option Addr} {c:Nat} {l s:zD} (hs:a.eval sl=.slice p l.length c) (hO:zU A w [r]) (hA:z8P te r p c l) (hx:a.eval x=.string ⟨⟨s⟩⟩) (hm:l.length+s.length<4294967296)
  (h:∀ r' p' c' w',zU A w' [r']->zT qd [r] w [r'] w'->z8P te r' p' c' (l++s)->wpList P ops Q rest (a.put o.dst (.slice p' (l++s).length c')) w'):wpList P ops Q (o::rest) a w:=by
 refine wpList_plain hgd fun K hK=>?_
 obtain⟨r',p',c',w',hr,h2,h3,h4,_⟩:=zYx (qd:=qd) ht hu hi hz hsize hby hO hA hm o.type
 unfold Oper.wp execOp
 simp only[ho,resolve,invoke,builtin,Sem.run_bind,Sem.run_pure,Result.andThen_ok,List.map_toArray,Ua,List.map_nil,hs,hx,hr]
 exact hK _ _ (h r' p' c' w' h2 h3 h4)
end
section
variable {P:Program}{ρ:Ren}
theorem BdR.at{T te b:Nat}{r:zG}{l:zD}{A:List Nat}{w:World}(h:BdR T te r b l)(hO:zU A w [r]):
  ∃ p ad c r2,(p=.pointer none∨p=pt b 0)∧w.heap[b]?=some (.cells #[p,.slice ad l.length c] T (0,0))∧z8P te r2 ad c l∧r=(b,.cells #[p,.slice ad l.length c] T (0,0))::r2∧zU (b::A) w [r2]∧b∉A:=by
 obtain⟨p,ad,c,r2,hp,rfl,hA⟩:=h
 have hb:=yP hO (i:=0) rfl (Qm ..)
 refine⟨p,ad,c,r2,hp,hb,hA,rfl,⟨?_,?_,?_,?_⟩,hO.apart b (by simp[bl])⟩
 ·intro k hk
  rcases Qv.1 hk with rfl | hk
  ·grind
  ·exact hO.old k hk
 ·intro r hr q hq
  simp only[Qa] at hr
  subst hr
  exact hO.has _ (Qa.2 rfl) q (Qi _ hq)
 ·have:=hO.nodup
  grind [bl]
 ·intro k hk hm
  have h1:=hO.nodup
  have h2:=hO.apart k (by grind [bl])
  rcases Qv.1 hm with rfl | hm
  ·grind [bl]
  grind
set_option maxHeartbeats 1000000 in
set_option maxRecDepth 100000 in
theorem z69 (L:Lays.n240 P ρ)(X:Builder.X72 P ρ){T:TypeId}(hT:liesAt P P.depth T (2 / P.cellsOf T) 0 (ρ.t 72) 1=true)(b:Nat)(w:World)(h0:w.cell? ⟨b,0,none⟩=some (.pointer none))(hsh:w.shape? b=some (T,2))(hfz:w.frozen? ⟨b,0,none⟩=false):
  Calls P (ρ.f 240) #[.pointer (some ⟨b,0,none⟩)] w fun e w'=>e=.returned (.tuple #[])∧w'=w.setCell ⟨b,0,none⟩ (.pointer (some ⟨b,0,none⟩)):=by
 obtain⟨j,hj,hjs⟩:=Uo.1 X.sizeBuilder
 have mixed:=L.mixed
 have t72:=L.t72;have a72:=L.a72;have z72:=L.z72;have v72:=L.v72;have u72:=run_underlying L.t72
 have t70:=L.t70;have a70:=L.a70;have z70:=L.z70;have v70:=L.v70;have u70:=run_underlying L.t70
 have t9:=L.t9;have a9:=L.a9;have z9:=L.z9;have v9:=L.v9;have u9:=run_underlying L.t9
 have t4:=L.t4;have a4:=L.a4;have z4:=L.z4;have v4:=L.v4;have u4:=run_underlying L.t4
 have t164:=L.t164;have a164:=L.a164;have z164:=L.z164;have v164:=L.v164;have u164:=run_underlying L.t164
 go_enter L.f240,Body.n240_ntmps ρ
 go_wp2
 rw[Lib.run_to_unsafe w ⟨b,0,none⟩ L.t70 L.t164 hj (by grind) hsh (Nat.zero_lt_succ 1)]
 simp only[Result.andThen]
 rw[Oper.upon_value]
 go_wp2
 rw[run_callFunc_extern L.f276 (by kernel_rfl) (by kernel_rfl) (by kernel_rfl) (e:=Extern.AbiNoEscape.same) (by kernel_rfl)]
 rw[Lib.run_noEscape]
 simp only[Result.andThen]
 rw[Oper.upon_value]
 go_wp2
 rw[Lib.run_from_unsafe w ⟨b,0,none⟩ L.t164 L.t70 hj hsh hT]
 simp only[Result.andThen]
 rw[Oper.upon_value]
 go_wp2
 go_end0
 grind
theorem z6Q (L:Lays.n240 P ρ)(X:Builder.X72 P ρ){T:TypeId}(hT:liesAt P P.depth T (2 / P.cellsOf T) 0 (ρ.t 72) 1=true){b:Nat}{p v:Value}{w:World}(hp:p=.pointer none∨p=pt b 0)(hb:w.heap[b]?=some (.cells #[p,v] T (0,0))):
  Calls P (ρ.f 240) #[.pointer (some ⟨b,0,none⟩)] w fun e w'=>e=.returned (.tuple #[])∧w'.os=w.os∧w'.tape=w.tape∧w'.output=w.output∧w'.drawn=w.drawn∧w'.heap.size=w.heap.size ∧
   w'.heap[b]?=some (.cells #[pt b 0,v] T (0,0))∧∀ k,k≠b->w'.heap[k]?=w.heap[k]?:=by
 rcases hp with rfl | rfl
 ·refine(z69 L X hT b w (by simp[World.cell?,hb]) (by simp[World.shape?,hb]) (by simp[World.frozen?,hb])).mono ?_
  rintro e w' ⟨rfl,rfl⟩
  refine⟨rfl,rfl,rfl,rfl,rfl,by simp_all,?_,fun k hk=>Below.heap_setCell _ _ _ _ hk⟩
  simp[World.setCell,UT,hb,pt]
 ·refine(Any.Builder_copyCheck_used L X b w (by simp[World.cell?,hb])).mono ?_
  grind
theorem z9I{A:List Nat}{b:Nat}{r2 r3:zG}{w w2 w3:World}{o1 o2:Obj}(hO:zU (b::A) w [r2])(hb:w.heap[b]?=some o1)(hbA2:b∉A)(hO3:zU (b::A) w2 [r3])(h1:w2.os=w.os)(h2:w2.tape=w.tape)(h3:w2.output=w.output)(h4:w.heap.size≤w2.heap.size)
  (hk:∀ k,k<w.heap.size->k≠b->k∉bl [r2]->w2.heap[k]?=w.heap[k]?) (hf:∀ k∈bl [r3],k∈bl [r2]∨w.heap.size≤k)
  (k1:w3.os=w2.os) (k2:w3.tape=w2.tape) (k3:w3.output=w2.output) (k4:w3.heap.size=w2.heap.size) (k5:w3.heap[b]?=some o2) (k6:∀ k,k≠b->w3.heap[k]?=w2.heap[k]?) :
  zU A w3 [(b,o2)::r3]∧zT False [(b,o1)::r2] w [(b,o2)::r3] w3:=by
 have e1:∀(o:Obj) (r:zG),bl [(b,o)::r]=b::bl [r]:=fun o r=>by simp[bl]
 have hlt:b<w.heap.size:=hO.old b (Qm ..)
 have hb3:b∉bl [r3]:=fun hm=>hO3.apart b hm (Qm ..)
 refine⟨⟨fun q hq=>by rw[k4];exact hO3.old q (Qi _ hq),fun r hr p hp=>?_,?_,fun q hq=>?_⟩,k1.trans h1,k2.trans h2,k3.trans h3,fun q=>q.elim,by omega,fun k hk1 hk2=>?_,fun q hq=>?_⟩
 ·simp only[Qa] at hr
  subst hr
  rcases Qv.1 hp with rfl | hp
  ·exact k5
  ·have hm:p.1∈bl [r3]:=zKc.2 ⟨r3,Qa.2 rfl,p,hp,rfl⟩
   rw[k6 p.1 (fun e=>hb3 (e▸hm))]
   exact hO3.has r3 (Qa.2 rfl) p hp
 ·rw[e1];exact UC.2 ⟨hb3,hO3.nodup⟩
 ·rw[e1] at hq
  rcases Qv.1 hq with rfl | hq
  ·exact hbA2
  ·exact fun hm=>hO3.apart q hq (Qi _ hm)
 ·grind
 grind
set_option maxHeartbeats 1000000 in
set_option maxRecDepth 100000 in
theorem z8m (L:Lays.n166 P ρ)(X:Builder.Extra P ρ){T:TypeId}(hT:liesAt P P.depth T (2 / P.cellsOf T) 0 (ρ.t 72) 1=true)(hc:∀ args w,(callFunc (ρ.f 166) args).run P w=.ok (.enter (ρ.f 166) args) w){b:Nat}{r:zG}{l s:zD}:
  zP False P (ρ.f 166) [pt b 0,vs s] [r] [Bdr T (ρ.t 5) r b l] (z4W l s) fun x K=>∀ r2,K (.tuple #[vi x.1,.nilIface]) [r2] [Bdr T (ρ.t 5) r2 b x.2.2]:=by
 refine⟨hc,fun A w x hm hO hF=>?_⟩
 unfold z4W at hm
 split at hm
 case isFalse=>cases hm
 rename_i hlen
 obtain rfl:=QC hm
 obtain⟨p,ad,c,r2,hp,hb,hA,rfl,hO2,hbA2⟩:=BdR.at hF.1 hO
 clear hm hF hO
 obtain⟨i0,hi,hz0,hz1,hz2⟩:=info_parts X.infoByte
 have mixed:=L.mixed
 have t72:=L.t72;have a72:=L.a72;have z72:=L.z72;have v72:=L.v72;have u72:=run_underlying L.t72
 have t70:=L.t70;have a70:=L.a70;have z70:=L.z70;have v70:=L.v70;have u70:=run_underlying L.t70
 have t37:=L.t37;have a37:=L.a37;have z37:=L.z37;have v37:=L.v37;have u37:=run_underlying L.t37
 have t3:=L.t3;have a3:=L.a3;have z3:=L.z3;have v3:=L.v3;have u3:=run_underlying L.t3
 have t9:=L.t9;have a9:=L.a9;have z9:=L.z9;have v9:=L.v9;have u9:=run_underlying L.t9
 have t4:=L.t4;have a4:=L.a4;have z4:=L.z4;have v4:=L.v4;have u4:=run_underlying L.t4
 have t164:=L.t164;have a164:=L.a164;have z164:=L.z164;have v164:=L.v164;have u164:=run_underlying L.t164
 have t5:=X.t5;have a5:=X.a5;have z5:=X.z5;have v5:=X.v5;have u5:=run_underlying X.t5
 have e240:∀ args w,(callFunc (ρ.f 240) args).run P w=.ok (.enter (ρ.f 240) args) w:=enters_of L.f240 (by kernel_rfl) rfl
 have H:Hid (zU (b::A) w [r2]∧z8P (ρ.t 5) r2 ad c l∧l.length+s.length<4294967296∧w.heap[b]?=some (.cells #[p,.slice ad l.length c] T (0,0))∧(p=.pointer none∨p=pt b 0)∧b∉A):=⟨hO2,hA,hlen,hb,hp,hbA2⟩
 clear hO2 hA hlen hb hp hbA2
 show Calls P (ρ.f 166) #[.pointer (some ⟨b,0,none⟩),.string ⟨⟨s⟩⟩] w _
 go_enter L.f166,Body.n166_ntmps ρ
 go_wp2_with (go_at_fn (ρ.f 240);refine(z6Q { L with } X.toX72 hT H.out.2.2.2.2.1 H.out.2.2.2.1).mono ?_)
 rintro e w1 ⟨rfl,k1,k2,k3,k4,k5,k6,k7⟩
 have H1:Hid (zU (b::A) w1 [r2]∧zT False [] w [] { w with heap:=w.heap }∧w1.os=w.os∧w1.tape=w.tape∧w1.output=w.output∧w1.heap.size=w.heap.size∧(∀ k,k≠b->w1.heap[k]?=w.heap[k]?)):=by
  refine⟨⟨fun q hq=>by rw[k5];exact H.out.1.old q hq,fun q hq u hu=>?_,H.out.1.nodup,H.out.1.apart⟩,zT.refl _ _,k1,k2,k3,k5,k7⟩
  rw[k7 u.1 (fun e=>H.out.1.apart u.1 (zKc.2 ⟨q,hq,u,hu,rfl⟩) (by grind))]
  exact H.out.1.has q hq u hu
 have H2:Hid (w1.heap[b]?=some (.cells #[pt b 0,.slice ad l.length c] T (0,0))):=k6
 have c0:w1.cell? ⟨b,0,none⟩=some (.pointer (some ⟨b,0,none⟩)):=by simp[World.cell?,k6]
 have c1:w1.cell? ⟨b,1,none⟩=some (.slice ad l.length c):=by simp[World.cell?,k6]
 clear k1 k2 k3 k4 k5 k6 k7
 go_wp2_with (at_builtin;refine z1L (qd:=False) rfl _ _ (ρ.t 37) (ρ.t 9) rfl (ρ.t 5) i0 L.t37 L.t9 hi hz0 hz1 hz2 rfl H1.out.1 H.out.2.1 rfl H.out.2.2.1 ?_)
 intro r3 p3 c3 w2 hO3 hE3 hA3
 have hbA:b∉bl [r2]:=fun hm=>H1.out.1.apart b hm (Qm ..)
 have hlt:b<w1.heap.size:=H1.out.1.old b (Qm ..)
 have hb2:w2.heap[b]?=some (.cells #[pt b 0,.slice ad l.length c] T (0,0)):=by rw[hE3.keep b hlt hbA];exact H2.out
 have H3:Hid (zU (b::A) w2 [r3]∧zT False [r2] w1 [r3] w2∧z8P (ρ.t 5) r3 p3 c3 (l++s)∧w2.heap[b]?=some (.cells #[pt b 0,.slice ad l.length c] T (0,0))):=⟨hO3,hE3,hA3,hb2⟩
 have d0:w2.cell? ⟨b,0,none⟩=some (.pointer (some ⟨b,0,none⟩)):=by simp[World.cell?,hb2]
 have d1:w2.cell? ⟨b,1,none⟩=some (.slice ad l.length c):=by simp[World.cell?,hb2]
 have f1:w2.frozen? ⟨b,1,none⟩=false:=by simp[World.frozen?,hb2]
 clear hO3 hE3 hA3 hb2 hbA hlt
 go_wp2
 go_ret2
 obtain⟨q1,q2⟩:=z9I (o2:=.cells #[pt b 0,.slice p3 (l++s).length c3] T (0,0)) H.out.1 H.out.2.2.2.1 H.out.2.2.2.2.2 H3.out.1 (H3.out.2.1.os.trans H1.out.2.2.1) (H3.out.2.1.tape.trans H1.out.2.2.2.1) (H3.out.2.1.output.trans H1.out.2.2.2.2.1)
  (by have h1:=H3.out.2.1.size;have h2:=H1.out.2.2.2.2.2.1;omega)
  (fun k hk hkb hkr=>by rw[H3.out.2.1.keep k (by have h2:=H1.out.2.2.2.2.2.1;omega) hkr];exact H1.out.2.2.2.2.2.2 k hkb)
  (fun k hk=>(H3.out.2.1.fresh k hk).imp id fun h=>by have h2:=H1.out.2.2.2.2.2.1;omega)
  (w3:=w2.setCell ⟨b,1,none⟩ (.slice p3 (l.length+s.length) c3)) rfl rfl rfl (by simp_all) (by simp[World.setCell,UT,H3.out.2.2.2]) (fun k hk=>Below.heap_setCell _ _ _ _ hk)
 exact fun G k=>k _ ⟨rfl,q1,q2,⟨_,_,_,_,.inr rfl,rfl,H3.out.2.2.1⟩,trivial⟩
theorem BdR.is{T te b:Nat}{r:zG}{l:zD}{A:List Nat}{w:World}(h:BdR T te r b l)(hO:zU A w [r]): Lib.IsBuilder T te 0 b (Lib.strCells ⟨⟨l⟩⟩) w:=by
 obtain⟨p,ad,c,r2,hp,hb,hA,hr,hO2,hbA⟩:=h.at hO
 have key:Lib.BuilderAt T te 0 b p (Lib.strCells ⟨⟨l⟩⟩) w:=by
  refine⟨Ut _,_,hb,?_,?_⟩
  ·rcases hA with⟨rfl,rfl,rfl,rfl⟩ | ⟨g,cells,rfl,rfl,hne,h3,h4,h5,h6⟩
   ·exact⟨by simp,.inl ⟨rfl,rfl⟩⟩
   ·exact⟨by simp,.inr ⟨g,c,cells,by grind,Ut _,yP hO2 (i:=0) rfl (Qa.2 rfl),by grind,h4,by grind,by grind⟩⟩
  ·rcases hA with⟨rfl,rfl,rfl,rfl⟩ | ⟨g,cells,rfl,rfl,_⟩
   ·simp[Value.ownBlock]
   ·intro e
    simp only[Value.ownBlock,Qf] at e
    exact hO2.apart g (by simp[bl]) (by grind)
 rcases hp with rfl | rfl
 ·exact .inl key
 ·exact .inr key
set_option maxHeartbeats 1000000 in
set_option maxRecDepth 100000 in
theorem blen_at (L:Lays.n170 P ρ){T:TypeId}{b n c:Nat}{p:Value}{ad:Option Addr}{w:World}(hbk:w.heap[b]?=some (.cells #[p,.slice ad n c] T (0,0))):
  Calls P (ρ.f 170) #[.pointer (some ⟨b,0,none⟩)] w fun e w'=>e=.returned (.int .i64 n)∧w'=w:=by
 have c1:w.cell? ⟨b,1,none⟩=some (.slice ad n c):=by rw[Lib.cell_of_heap hbk];rfl
 have mixed:=L.mixed
 have t72:=L.t72;have a72:=L.a72;have z72:=L.z72;have v72:=L.v72;have u72:=run_underlying L.t72
 have t70:=L.t70;have a70:=L.a70;have z70:=L.z70;have v70:=L.v70;have u70:=run_underlying L.t70
 have t37:=L.t37;have a37:=L.a37;have z37:=L.z37;have v37:=L.v37;have u37:=run_underlying L.t37
 have t3:=L.t3;have a3:=L.a3;have z3:=L.z3;have v3:=L.v3;have u3:=run_underlying L.t3
 go_enter L.f170,Body.n170_ntmps ρ
 go_wp2
 go_ret
 simp_all
theorem z9B (L:Lays.n170 P ρ){T:TypeId}(hc:∀ args w,(callFunc (ρ.f 170) args).run P w=.ok (.enter (ρ.f 170) args) w){b:Nat}{r:zG}{l:zD}:
  zP qd P (ρ.f 170) [pt b 0] [r] [Bdr T (ρ.t 5) r b l] (some (len l)) fun x K=>K (vi x) [r] []:=by
 refine⟨hc,fun A w x hm hO hF=>?_⟩
 obtain rfl:=QC hm
 obtain⟨p,ad,c,r2,hp,hb,hA,rfl,hO2,hbA⟩:=BdR.at hF.1 hO
 refine(blen_at L hb).mono fun e w' ⟨he,hw⟩=>?_
 subst he hw
 exact fun G k=>k ⟨rfl,hO,zT.refl _ _,trivial⟩
set_option maxHeartbeats 1000000 in
set_option maxRecDepth 100000 in
theorem z98 (L:Lays.n169 P ρ)(X:Builder.Extra P ρ){T:TypeId}{b:Nat}{p:Value}{w:World}(hbk:w.heap[b]?=some (.cells #[p,.slice none 0 0] T (0,0))):
  Calls P (ρ.f 169) #[.pointer (some ⟨b,0,none⟩)] w fun e w'=>e=.returned (.string ⟨#[]⟩)∧w'=w.drew:=by
 have hUS:=Any.unsafeString_none L X
 have c1:w.drew.cell? ⟨b,1,none⟩=some (.slice none 0 0):=by
  have:w.drew.heap[b]?=some (.cells #[p,.slice none 0 0] T (0,0)):=hbk
  rw[Lib.cell_of_heap this];rfl
 have hSD:(Builtin.unsafeSliceData_ #[(ρ.t 37)] (ρ.t 127) #[.slice none 0 0]).run P w.drew=.ok (.pointer none) w.drew:=rfl
 have mixed:=L.mixed
 have t72:=L.t72;have a72:=L.a72;have z72:=L.z72;have v72:=L.v72;have u72:=run_underlying L.t72
 have t70:=L.t70;have a70:=L.a70;have z70:=L.z70;have v70:=L.v70;have u70:=run_underlying L.t70
 have t37:=L.t37;have a37:=L.a37;have z37:=L.z37;have v37:=L.v37;have u37:=run_underlying L.t37
 have t127:=L.t127;have a127:=L.a127;have z127:=L.z127;have v127:=L.v127;have u127:=run_underlying L.t127
 have t3:=L.t3;have a3:=L.a3;have z3:=L.z3;have v3:=L.v3;have u3:=run_underlying L.t3
 have t9:=L.t9;have a9:=L.a9;have z9:=L.z9;have v9:=L.v9;have u9:=run_underlying L.t9
 have t5:=X.t5;have a5:=X.a5;have z5:=X.z5;have v5:=X.v5;have u5:=run_underlying X.t5
 go_enter L.f169,Body.n169_ntmps ρ
 go_wp2
 go_region_o
 all_goals (go_wp2;go_ret;exact⟨rfl,rfl⟩)
set_option maxHeartbeats 1000000 in
set_option maxRecDepth 100000 in
theorem z7Y (L:Lays.n169 P ρ)(X:Builder.Extra P ρ){T:TypeId}{b g cap:Nat}{p:Value}{l:zD}{cur:Array Value}{w:World}(h0:l≠[])(hbk:w.heap[b]?=some (.cells #[p,.slice (some ⟨g,0,none⟩) l.length cap] T (0,0)))
  (hg:w.heap[g]?=some (.cells cur (ρ.t 5) (0,0))) (hnc:l.length≤cap) (hcm:cap≤maxLen) (hcs:cur.size=cap) (htake:cur.toList.take l.length=Lib.strCells ⟨⟨l⟩⟩) :
  Calls P (ρ.f 169) #[.pointer (some ⟨b,0,none⟩)] w fun e w'=>e=.returned (.string ⟨⟨l⟩⟩)∧w'=w.drew.freeze ⟨g,0,none⟩ l.length:=by
 have hl0:l.length≠0:=by simpa using h0
 have c1:w.drew.cell? ⟨b,1,none⟩=some (.slice (some ⟨g,0,none⟩) l.length cap):=by
  have:w.drew.heap[b]?=some (.cells #[p,.slice (some ⟨g,0,none⟩) l.length cap] T (0,0)):=hbk
  rw[Lib.cell_of_heap this];rfl
 have hSD:(Builtin.unsafeSliceData_ #[(ρ.t 37)] (ρ.t 127) #[.slice (some ⟨g,0,none⟩) l.length cap]).run P w.drew=.ok (.pointer (some ⟨g,0,none⟩)) w.drew :=
  Lib.run_unsafeSliceData_row _ _ _ _ _ _ (by omega)
 have hUS:(Builtin.unsafeString_ #[(ρ.t 127),(ρ.t 3)] (ρ.t 9) #[.pointer (some ⟨g,0,none⟩),.int .i64 l.length]).run P w.drew=.ok (.string ⟨⟨l⟩⟩) (w.drew.freeze ⟨g,0,none⟩ l.length):=by
  refine Lib.run_unsafeString_row w.drew (ρ.t 127) (ρ.t 3) (ρ.t 9) (ρ.t 5) L.t127 X.cellsByte g cur.size (by have hg':w.drew.heap[g]?=some (.cells cur (ρ.t 5) (0,0)):=hg;simp[World.shape?,hg']) l h0 (by omega) (by grind [maxLen]) ?_
  intro j x hx
  have hj:j<l.length:=(Qg.1 hx).1
  have h1:(cur.toList.take l.length)[j]?=some (.int .u8 x.toNat):=by rw[htake];simp[Lib.strCells,hx]
  rw[Ub,Qu hj] at h1
  have hg':w.drew.heap[g]?=some (.cells cur (ρ.t 5) (0,0)):=hg
  rw[zCj,cell_of_row w.drew g (0+j) cur (ρ.t 5) (0,0) hg',UF]
  simpa using h1
 clear hg htake hcs hcm hnc hbk
 have mixed:=L.mixed
 have t72:=L.t72;have a72:=L.a72;have z72:=L.z72;have v72:=L.v72;have u72:=run_underlying L.t72
 have t70:=L.t70;have a70:=L.a70;have z70:=L.z70;have v70:=L.v70;have u70:=run_underlying L.t70
 have t37:=L.t37;have a37:=L.a37;have z37:=L.z37;have v37:=L.v37;have u37:=run_underlying L.t37
 have t127:=L.t127;have a127:=L.a127;have z127:=L.z127;have v127:=L.v127;have u127:=run_underlying L.t127
 have t3:=L.t3;have a3:=L.a3;have z3:=L.z3;have v3:=L.v3;have u3:=run_underlying L.t3
 have t9:=L.t9;have a9:=L.a9;have z9:=L.z9;have v9:=L.v9;have u9:=run_underlying L.t9
 have t5:=X.t5;have a5:=X.a5;have z5:=X.z5;have v5:=X.v5;have u5:=run_underlying X.t5
 go_enter L.f169,Body.n169_ntmps ρ
 go_wp2
 go_region_o
 all_goals (go_wp2;go_ret;simp_all)
theorem z8X (L:Lays.n169 P ρ)(X:Builder.Extra P ρ){T:TypeId}(hc:∀ args w,(callFunc (ρ.f 169) args).run P w=.ok (.enter (ρ.f 169) args) w){b:Nat}{r:zG}{l:zD}:
  zP False P (ρ.f 169) [pt b 0] [r] [Bdr T (ρ.t 5) r b l] (some l) fun x K=>K (vs x) [[]] []:=by
 refine⟨hc,fun A w x hm hO hF=>?_⟩
 obtain rfl:=QC hm
 obtain⟨p,ad,c,r2,hp,hb,hA,rfl,hO2,hbA⟩:=BdR.at hF.1 hO
 have fin:∀ w':World,w'.os=w.os->w'.tape=w.tape->w'.output=w.output->w'.heap.size=w.heap.size->(∀ k,k∉bl [r2]->w'.heap[k]?=w.heap[k]?)->
   zU A w' [[]]∧zT False [(b,.cells #[p,.slice ad l.length c] T (0,0))::r2] w [[]] w':=fun w' h1 h2 h3 h4 h5 =>
  ⟨⟨fun q hq=>by rw[h4];exact hO.old q hq,fun r hr q hq=>(by
   grind),by simp[bl],by simp[bl]⟩,
   h1,h2,h3,fun q=>q.elim,by omega,fun k hk hn=>h5 k (fun hm=>hn (by simp[bl] at hm ⊢;grind)),by simp[bl]⟩
 rcases hA with⟨rfl,rfl,rfl,rfl⟩ | ⟨g,cells,rfl,rfl,hne,h3,h4,h5,h6⟩
 ·refine(z98 L X hb).mono fun e w' ⟨he,hw⟩=>?_
  subst he hw
  obtain⟨q1,q2⟩:=fin w.drew rfl rfl rfl rfl (fun _ _=>rfl)
  exact fun G k=>k ⟨rfl,q1,q2,trivial⟩
 ·have hg:=yP hO2 (i:=0) rfl (Qa.2 rfl)
  refine(z7Y L X hne hb hg h3 h4 h5 h6).mono fun e w' ⟨he,hw⟩=>?_
  subst he
  obtain⟨q1,q2⟩:=fin w' (by subst hw;unfold World.freeze;split <;> rfl) (by subst hw;unfold World.freeze;split <;> rfl) (by subst hw;unfold World.freeze;split <;> rfl) (by subst hw;unfold World.freeze;simp_all) (fun k hk=>by
   subst hw
   have hkg:k≠g:=fun e=>hk (by simp[bl,e])
   unfold World.freeze
   split
   ·rfl
   ·simp only[UT]
    rw[Qq (Ne.symm hkg)]
    rfl)
  exact fun G k=>k ⟨rfl,q1,q2,trivial⟩
end
end Go.GD
