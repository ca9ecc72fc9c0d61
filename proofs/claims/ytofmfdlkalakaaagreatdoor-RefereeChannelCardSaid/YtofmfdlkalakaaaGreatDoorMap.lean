/- Maps of the call's own. Conditions: none. -/
import Derived.Test.YtofmfdlkalakaaaGreatDoorOps3
namespace Go.GD
open Go Go.RowKit
set_option autoImplicit false
variable {qd : Prop}

/-- a type of maps: how its keys lie in one value -/
structure KeyOk (P : Program) (t kt vt : TypeId) {κ : Type} [BEq κ] (kv : κ → Value) : Prop where
  hu : P.underlying t = some (.map kt vt)
  ck : ∀ b x w, (Instr.checkKey b 10000 kt (kv x)).run P w = .ok () w
  eq : ∀ x y w, (Op.equal kt (kv x) (kv y)).run P w = .ok (x == y) w
  now : ∃ d, P.underlying kt = some d ∧ ∀ x y, Instr.sameNow d (kv x) (kv y) = none ∨ Instr.sameNow d (kv x) (kv y) = some (x == y)
  sb : ∀ x, Instr.sameBits 10000 (kv x) (kv x) = true

theorem ba_beq (s : Str) : ((⟨s.toArray⟩ : ByteArray) == ⟨s.toArray⟩) = true := by
  show (s.toArray == s.toArray) = true
  simp

def Mp {κ ν : Type} (kv : κ → Value) (vv : ν → Value) (r : Res) (b : Nat) (l : List (κ × ν)) : Prop :=
  ∃ es c, r = [(b, .map es c)] ∧ es.toList.map (fun e => (e.key, e.val)) = l.map (fun x => (kv x.1, vv x.2))
/-- a map of one's own: its entries are the block r -/
def Ma {κ ν : Type} (kv : κ → Value) (vv : ν → Value) (r : Res) (b : Nat) (l : List (κ × ν)) : PP := ⟨fun _ _ => Mp kv vv r b l, fun _ h => h⟩

section
variable {P : Program} {w : World} {t kt vt : TypeId} {κ ν : Type} [BEq κ] {kv : κ → Value} {vv : ν → Value}

theorem run_findAsking [LawfulBEq κ] (H : KeyOk P t kt vt kv) (k : κ) : ∀ (es : List MapEntry) (l : List (κ × ν)) (i : Nat), es.map (fun e => (e.key, e.val)) = l.map (fun x => (kv x.1, vv x.2)) →
    ∃ o, (Instr.findAsking kt (kv k) es i).run P w = .ok o w ∧ (match o with
      | none => mget l k = none
      | some (j, v) => i ≤ j ∧ ∃ x, l[j - i]? = some x ∧ k = x.1 ∧ mget l k = some x.2 ∧ v = vv x.2 ∧ ∀ q y, q < j - i → l[q]? = some y → (k == y.1) = false)
  | [], [], i, _ => ⟨none, by simp [Instr.findAsking], rfl⟩
  | [], _ :: _, i, h => by simp at h
  | _ :: _, [], i, h => by simp at h
  | e :: es, x :: l, i, h => by
    simp only [List.map_cons, List.cons.injEq, Prod.mk.injEq] at h
    obtain ⟨⟨h1, h2⟩, h3⟩ := h
    have heq := H.eq k x.1 w
    by_cases hk : k == x.1
    · refine ⟨some (i, e.val), by simp [Instr.findAsking, h1, heq, hk], Nat.le_refl _, x, by simp, eq_of_beq hk, by simp [mget, hk], h2, fun q y hq => by omega⟩
    · obtain ⟨o, ho1, ho2⟩ := run_findAsking H k es l (i + 1) h3
      refine ⟨o, by simp [Instr.findAsking, h1, heq, hk, ho1], ?_⟩
      cases o with
      | none => simpa [mget, hk] using ho2
      | some p =>
        obtain ⟨j, v⟩ := p
        obtain ⟨g1, y, g2, g3, g4, g5, g6⟩ := ho2
        refine ⟨by omega, y, ?_, g3, by simpa [mget, hk] using g4, g5, fun q z hq hz => ?_⟩
        · rw [show j - i = (j - (i + 1)) + 1 by omega]; simpa using g2
        · cases q with
          | zero => simp at hz; subst hz; simpa using hk
          | succ q => exact g6 q z (by omega) (by simpa using hz)

theorem findNow_asking {d : TypeDesc} (hn : ∀ x y : κ, Instr.sameNow d (kv x) (kv y) = none ∨ Instr.sameNow d (kv x) (kv y) = some (x == y)) (H : KeyOk P t kt vt kv) (k : κ) : ∀ (es : List MapEntry) (l : List (κ × ν)) (i : Nat) (o : Option (Nat × Value)),
    es.map (fun e => (e.key, e.val)) = l.map (fun x => (kv x.1, vv x.2)) → Instr.findNow d (kv k) es i = some o → (Instr.findAsking kt (kv k) es i).run P w = .ok o w
  | [], _, i, o, _, h => by simp only [Instr.findNow, Option.some.injEq] at h; subst h; simp [Instr.findAsking]
  | _ :: _, [], i, o, h, _ => by simp at h
  | e :: es, x :: l, i, o, hm, h => by
    simp only [List.map_cons, List.cons.injEq, Prod.mk.injEq] at hm
    obtain ⟨⟨h1, h2⟩, h3⟩ := hm
    have heq := H.eq k x.1 w
    simp only [Instr.findNow, h1] at h
    rcases hn k x.1 with hs | hs
    · simp [hs] at h
    · by_cases hk : k == x.1
      · simp [hs, hk] at h
        subst h
        simp [Instr.findAsking, h1, heq, hk]
      · simp [hs, hk] at h
        have := findNow_asking hn H k es l (i + 1) o h3 h
        simp [Instr.findAsking, h1, heq, hk, this]

theorem run_findKey [LawfulBEq κ] (H : KeyOk P t kt vt kv) (k : κ) (es : List MapEntry) (l : List (κ × ν)) (h : es.map (fun e => (e.key, e.val)) = l.map (fun x => (kv x.1, vv x.2))) :
    ∃ o, (Instr.findKey kt (kv k) es).run P w = .ok o w ∧ (match o with
      | none => mget l k = none
      | some (j, v) => ∃ x, l[j]? = some x ∧ k = x.1 ∧ mget l k = some x.2 ∧ v = vv x.2 ∧ ∀ q y, q < j → l[q]? = some y → (k == y.1) = false) := by
  obtain ⟨d, hd, hn⟩ := H.now
  obtain ⟨o, h1, h2⟩ := run_findAsking (w := w) H k es l 0 h
  refine ⟨o, ?_, ?_⟩
  · simp only [Instr.findKey, Sem.run_bind, run_underlying hd, Result.andThen_ok]
    cases hf : Instr.findNow d (kv k) es 0 with
    | none => simpa [hf] using h1
    | some o' =>
      have := findNow_asking (w := w) hn H k es l 0 o' h hf
      rw [h1] at this
      cases this
      simp
  · cases o with
    | none => exact h2
    | some p => obtain ⟨_, x, g2, g3⟩ := h2; exact ⟨x, by simpa using g2, by simpa using g3⟩

theorem mput_none : ∀ {l : List (κ × ν)} {k : κ} {v : ν}, mget l k = none → mput l k v = l ++ [(k, v)]
  | [], _, _, _ => rfl
  | x :: r, k, v, h => by
    by_cases hk : k == x.1
    · simp [mget, hk] at h
    · simp only [mget, hk, Bool.false_eq_true, if_false] at h
      simp [mput, hk, mput_none h]
theorem mput_some [LawfulBEq κ] : ∀ {l : List (κ × ν)} {k : κ} {v : ν} {j : Nat} {x : κ × ν}, l[j]? = some x → k = x.1 → (∀ q y, q < j → l[q]? = some y → (k == y.1) = false) → mput l k v = l.set j (k, v)
  | [], _, _, _, _, h, _, _ => by simp at h
  | y :: r, k, v, 0, x, h, hk, _ => by simp at h; subst h; subst hk; simp [mput]
  | y :: r, k, v, j + 1, x, h, hk, hf => by
    have h0 := hf 0 y (by omega) (by simp)
    have := mput_some (l := r) (v := v) (j := j) (by simpa using h) hk (fun q z hq hz => hf (q + 1) z (by omega) (by simpa using hz))
    simp [mput, h0, this]

end

section
variable {P : Program} {ops : Array Oper} {Q : Exit → Act → World → Prop} {K : Act → World → Prop}
variable {A : List Nat} {L0 Ls : List Res} {w0 w : World} {n : Nat} {S : List (Nat × Value)} {F : List PP} {a : Act}
variable {d : Nat} {ty : TypeId} {pos : String} {af : Array Edge} {g : Option (Nat × Bool)}
variable {t kt vt : TypeId} {κ ν : Type} [BEq κ] {kv : κ → Value} {vv : ν → Value} {x y z : Operand} {r : Res} {b : Nat} {l : List (κ × ν)} {k : κ} {v : ν}

theorem run_getMap {b : Nat} {es : Array MapEntry} {c : Nat} {w : World} (h : w.heap[b]? = some (.map es c)) : (getObj b).run P w = .ok (.map es c) w := by
  show Sem.run P (Sem.getObj b Sem.pure) w = _
  simp [Sem.run, h]
theorem run_setMap {b : Nat} {es : Array MapEntry} {c : Nat} (o' : Obj) {w : World} (h : w.heap[b]? = some (.map es c)) : (setObj b o').run P w = .ok () { w with heap := w.heap.setIfInBounds b o' } := by
  show Sem.run P (Sem.setObj b o' (Sem.pure ())) w = _
  simp [Sem.run, h]
theorem run_newMap (o : Obj) (w : World) : (newObj o).run P w = .ok w.heap.size (w.alloc o) := rfl
theorem run_hint (kd : IntKind) (i : Int) (w : World) : (asInt (.int kd i)).run P w = .ok i w := rfl

/-- make(map[K]V) -/
theorem b_makeMap (kv : κ → Value) (vv : ν → Value) {rs : Option Operand} {rv : Option Value} (h : SS qd A L0 w0 n S Ls F a w) (H : KeyOk P t kt vt kv) (hr : opdO S rs = some rv) (hi : rv = none ∨ ∃ kd i, rv = some (.int kd i))
    (kk : ∀ b r a w', SS qd A L0 w0 n ((d, .map (some b)) :: S) (Ls ++ [r]) (Ma kv vv r b [] :: F) a w' → Ext qd Ls w (Ls ++ [r]) w' → K a w')
    (hd : Nat.blt d n = true := by kernel_rfl) (hg : wantedS ops S g = some true := by kernel_rfl) : Stp P ops Q ⟨some d, .makeMap t rs, ty, pos, af, g⟩ K a w := by
  refine op_val h.s hd hg (v := .map (some w.heap.size)) (w' := w.alloc (.map #[] 0)) ?_ fun a hS => kk w.heap.size [(w.heap.size, .map #[] 0)] a _ (h.next (h.o.alloc _ rfl) (Ext.alloc Ls _ rfl rfl rfl rfl) hS [_] ⟨⟨#[], 0, rfl, by simp⟩, trivial⟩) (Ext.alloc Ls _ rfl rfl rfl rfl)
  have he := h.s.evalO hr
  rcases hi with rfl | ⟨kd, i, rfl⟩
  · have hn := run_newMap (P := P) (.map #[] 0) w
    simp only [newObj] at hn
    simp [execOp, he, Instr.makeMap, newObj, hn]
  · have hn := run_newMap (P := P) (.map #[] 0) w
    simp only [newObj] at hn
    simp [execOp, he, Instr.makeMap, run_underlying H.hu, run_hint, newObj, hn]

/-- v, ok := m[k] ; m[k] -/
theorem b_lookup [LawfulBEq κ] {i : Nat} (ok : Bool) {zv : ν} (h : SS qd A L0 w0 n S Ls F a w) (H : KeyOk P t kt vt kv) (hM : (Ma kv vv r b l).h (bl Ls ++ A) w) (hx : opd S x = some (.map (some b))) (hy : opd S y = some (kv k)) (hz : zeroOf P vt = some (vv zv)) (hr : Ls[i]? = some r)
    (kk : ∀ a, SS qd A L0 w0 n ((d, if ok then .tuple #[vv ((mget l k).getD zv), vb (mget l k).isSome] else vv ((mget l k).getD zv)) :: S) Ls F a w → K a w)
    (hd : Nat.blt d n = true := by kernel_rfl) (hg : wantedS ops S g = some true := by kernel_rfl) : Stp P ops Q ⟨some d, .lookup t x y ok, ty, pos, af, g⟩ K a w := by
  obtain ⟨es, c, rfl, he⟩ := hM
  have hb := heap_of_own h.o hr (List.mem_singleton.2 rfl)
  obtain ⟨o, ho1, ho2⟩ := run_findKey (P := P) (w := w) H k es.toList l he
  refine op_val h.s hd hg (w' := w) ?_ fun a hS => kk a (h.slot hS)
  have hzz := run_zeroOf hz w
  cases o with
  | none =>
    have ho2' : mget l k = none := ho2
    cases ok <;> simp [execOp, h.s.eval hx, h.s.eval hy, Instr.lookup, run_underlying H.hu, run_getMap hb, H.ck, ho1, hzz, ho2']
  | some p =>
    obtain ⟨j, u⟩ := p
    obtain ⟨x', g1, g2, g3, rfl, _⟩ := ho2
    cases ok <;> simp [execOp, h.s.eval hx, h.s.eval hy, Instr.lookup, run_underlying H.hu, run_getMap hb, H.ck, ho1, g3]

/-- m[k] = v -/
theorem b_mapUpdate [LawfulBEq κ] (i : Nat) (h : SS qd A L0 w0 n S Ls F a w) (H : KeyOk P t kt vt kv) (hM : (Ma kv vv r b l).h (bl Ls ++ A) w) (hx : opd S x = some (.map (some b))) (hy : opd S y = some (kv k)) (hz : opd S z = some (vv v)) (hr : Ls[i]? = some r)
    (kk : ∀ r' a w', SS qd A L0 w0 n S (Ls.set i r') (Ma kv vv r' b (mput l k v) :: F) a w' → Ext qd Ls w (Ls.set i r') w' → K a w')
    (hg : wantedS ops S g = some true := by kernel_rfl) : Stp P ops Q ⟨none, .mapUpdate t x y z, ty, pos, af, g⟩ K a w := by
  obtain ⟨es, c, rfl, he⟩ := hM
  have hb := heap_of_own h.o hr (List.mem_singleton.2 rfl)
  have hlt : b < w.heap.size := (Array.getElem?_eq_some_iff.1 hb).1
  obtain ⟨o, ho1, ho2⟩ := run_findKey (P := P) (w := w) H k es.toList l he
  have key : ∀ (es' : Array MapEntry) (c' : Nat), (execOp a.eval ⟨none, .mapUpdate t x y z, ty, pos, af, g⟩).run P w = .ok .skip { w with heap := w.heap.setIfInBounds b (.map es' c') } →
      es'.toList.map (fun e => (e.key, e.val)) = (mput l k v).map (fun x => (kv x.1, vv x.2)) → Stp P ops Q ⟨none, .mapUpdate t x y z, ty, pos, af, g⟩ K a w := by
    intro es' c' hrun hes
    have hk : ∀ q, q < w.heap.size → q ∉ [(b, Obj.map es c)].map Prod.fst → ({ w with heap := w.heap.setIfInBounds b (.map es' c') } : World).heap[q]? = w.heap[q]? := fun q _ hq => by
      show (w.heap.setIfInBounds b _)[q]? = _
      rw [Array.getElem?_setIfInBounds_ne (fun e => hq (by simp [e]))]
    have hh : ({ w with heap := w.heap.setIfInBounds b (.map es' c') } : World).heap[b]? = some (.map es' c') := by
      show (w.heap.setIfInBounds b _)[b]? = _
      simp [hlt]
    have hO := h.o.set hr (w' := { w with heap := w.heap.setIfInBounds b (.map es' c') }) (r' := [(b, .map es' c')]) (by simp) hk (fun p hp => by simp only [List.mem_singleton] at hp; subst hp; exact hh) (by simp) (fun p hp => by simp only [List.mem_singleton] at hp; subst hp; exact .inl (by simp))
    have hE : Ext qd Ls w (Ls.set i [(b, .map es' c')]) { w with heap := w.heap.setIfInBounds b (.map es' c') } := Ext.set hr rfl rfl rfl (by simp) hk (fun p hp => by simp only [List.mem_singleton] at hp; subst hp; exact .inl (by simp))
    exact op_unit h.s hg hrun fun a hS => kk [(b, .map es' c')] a _ (h.next hO hE hS [_] ⟨⟨es', c', rfl, hes⟩, trivial⟩) hE
  cases o with
  | none =>
    refine key (es.push { key := kv k, val := vv v, born := c }) (c + 1) ?_ ?_
    · simp [execOp, h.s.eval hx, h.s.eval hy, h.s.eval hz, Instr.mapUpdate, run_underlying H.hu, run_getMap hb, H.ck, ho1, run_setMap _ hb]
    · rw [mput_none ho2]; simp [he]
  | some p =>
    obtain ⟨j, u⟩ := p
    obtain ⟨x', g1, g2, g3, rfl, g6⟩ := ho2
    obtain ⟨e0, hj, hj2⟩ : ∃ e0, es.toList[j]? = some e0 ∧ e0.key = kv k := by
      have := congrArg (·[j]?) he
      simp only [List.getElem?_map, g1, Option.map_some] at this
      cases hq : es.toList[j]? with
      | none => simp [hq] at this
      | some e =>
        simp only [hq, Option.map_some, Option.some.injEq, Prod.mk.injEq] at this
        exact ⟨e, rfl, by rw [this.1, g2]⟩
    have hj1 : es[j]? = some e0 := by rw [← hj]; simp
    have hold : ((es[j]?).map (·.key)).getD (kv k) = kv k := by
      rw [hj1]; simp [hj2]
    refine key (es.modify j fun e => { e with key := kv k, val := vv v }) c ?_ ?_
    · simp [execOp, h.s.eval hx, h.s.eval hy, h.s.eval hz, Instr.mapUpdate, run_underlying H.hu, run_getMap hb, H.ck, ho1, run_setMap _ hb, hold, Instr.keyThatStays, H.sb]
    · rw [mput_some (v := v) g1 g2 g6]
      apply List.ext_getElem?
      intro q
      have heq := congrArg (·[q]?) he
      simp only [List.getElem?_map] at heq
      simp only [List.getElem?_map, Array.getElem?_toList, Array.getElem?_modify, List.getElem?_set]
      by_cases hq : j = q
      · subst hq
        have hlt2 : j < l.length := (List.getElem?_eq_some_iff.1 g1).1
        simp only [if_true, hlt2]
        rw [hj1]
        simp
      · rw [if_neg hq, if_neg hq]
        simpa using heq

end
end Go.GD
