/- Layer 9: graphs of attacks. Conditions: none. -/
import Derived.Test.YtofgcpbdgokpjaaGreatOrd
import Derived.Test.YtofgcpbdgokpjaaGreatKeep
namespace Go.GD
set_option autoImplicit false

theorem cmp_int (x y : Int) : m_cmp_Compare_int x y = some (cmpI x y) := by
  unfold m_cmp_Compare_int cmpI
  by_cases h1 : x < y
  · simp [m_cmp_isNaN_int, h1]
  · by_cases h2 : y < x <;> simp [m_cmp_isNaN_int, h1, h2]
theorem or_int (l : List Int) (hb : l.length < 9223372036854775807) : m_cmp_Or_int l = some (orF l) := orL_spec l hb

abbrev lt2 : T_Pair → T_Pair → Bool := lexLt ltI ltI
abbrev lt4 : T_Attack → T_Attack → Bool := lexLt ltI (lexLt ltI (lexLt ltI ltI))
theorem ord2 : Ord1 lt2 := ord_lex ord_ltI ord_ltI
theorem ord4 : Ord1 lt4 := ord_lex ord_ltI (ord_lex ord_ltI (ord_lex ord_ltI ord_ltI))

theorem graph_1 (x y : T_Pair) : m_attack_Graph_1 x y = some (orF [cmpI x.1 y.1, cmpI x.2 y.2]) := by
  unfold m_attack_Graph_1
  rw [cmp_int, cmp_int]
  simp only [Option.bind_some]
  rw [or_int _ (by simp)]
  rfl
theorem attacks_1 (x y : T_Attack) : m_attack_Attacks_1 x y = some (orF [cmpI x.1 y.1, cmpI x.2.1 y.2.1, cmpI x.2.2.1 y.2.2.1, cmpI x.2.2.2 y.2.2.2]) := by
  unfold m_attack_Attacks_1
  rw [cmp_int, cmp_int, cmp_int, cmp_int]
  simp only [Option.bind_some]
  rw [or_int _ (by simp)]
  rfl
theorem orF_lt {x y : Int} {r : List Int} {b : Bool} (h : decide (orF r < 0) = b) : decide (orF (cmpI x y :: r) < 0) = (ltI x y || (x == y && b)) := by
  unfold orF cmpI
  by_cases h1 : x < y
  · simp [h1]
  · by_cases h2 : y < x
    · have h3 : (x == y) = false := by simp; omega
      simp [h1, h2, h3]
    · have h3 : x = y := by omega
      subst h3
      simp [h]
theorem lt_graph_1 (x y : T_Pair) : ltF m_attack_Graph_1 x y = lt2 x y := by
  simp only [ltF, graph_1, Option.getD_some]
  exact orF_lt (by rw [orF_lt (r := []) (b := false) (by simp [orF])]; simp)
theorem lt_attacks_1 (x y : T_Attack) : ltF m_attack_Attacks_1 x y = lt4 x y := by
  simp only [ltF, attacks_1, Option.getD_some]
  exact orF_lt (orF_lt (orF_lt (by rw [orF_lt (r := []) (b := false) (by simp [orF])]; simp)))
theorem sort_pairs {l : List T_Pair} (hl : l.length < 4294967296) : m_slices_SortFunc_Pair__attack_Graph_1 l = some (l.mergeSort fun x y => !lt2 y x) :=
  sortF_ok ord2 (fun x y => ⟨_, graph_1 x y⟩) lt_graph_1 hl
theorem compact_pairs {l : List T_Pair} (hl : l.length < 9223372036854775807) : m_slices_Compact_Pair l = some (dedup l) := compactM_spec (0, 0) l hl
theorem sort_attacks {l : List T_Attack} (hl : l.length < 4294967296) : m_slices_SortFunc_Attack__attack_Attacks_1 l = some (l.mergeSort fun x y => !lt4 y x) :=
  sortF_ok ord4 (fun x y => ⟨_, attacks_1 x y⟩) lt_attacks_1 hl

/-! ### Graph -/

/-- an attack that leads out of the n nodes -/
def badA (n : Int) (a : T_Attack) : Bool := decide (a.1 < 0) || decide (n ≤ a.1) || decide (a.2.1 < 0) || decide (n ≤ a.2.1)
def pairsOf (l : List T_Attack) : List T_Pair := l.map fun a => (a.1, a.2.1)
/-- what both functions answer -/
def graphS (n : Int) (l : List T_Attack) : T_Graph × Int :=
  if decide (n < 0) || decide (40 < n) then ((0, []), 1) else if l.any (badA n) then ((0, []), 1) else ((n, nrm lt2 (pairsOf l)), 0)

theorem minmax_bad (n : Int) (x : T_Attack) : (decide ((if x.2.1 < x.1 then x.2.1 else x.1) < 0) || decide (n ≤ (if x.2.1 > x.1 then x.2.1 else x.1))) = badA n x := by
  rw [Bool.eq_iff_iff]
  simp only [badA, Bool.or_eq_true, decide_eq_true_eq]
  split <;> split <;> omega

theorem take_any_succ {α : Type} {l : List α} {i : Nat} {x : α} (p : α → Bool) (hx : l[i]? = some x) : (l.take (i + 1)).any p = ((l.take i).any p || p x) := by
  rw [List.take_add_one, hx]; simp

theorem attGraph_L1 (n : Int) (l : List T_Attack) (hl : l.length < 4294967000) :
    loop (m_attack_Graph_L1 l n) (0, []) = some (if l.any (badA n) then .inr ((0, []), 1) else .inl (pairsOf l)) := by
  have h := loop_forI (B := m_attack_Graph_L1 l n) (fun i (s : List T_Pair) => ((i : Int), s)) l (fun i s => s = pairsOf (l.take i) ∧ (l.take i).any (badA n) = false)
    (fun r => r = if l.any (badA n) then .inr ((0, []), 1) else .inl (pairsOf l)) ?_ ?_ [] (by simp [pairsOf])
  · obtain ⟨r, h1, rfl⟩ := h; exact h1
  · rintro i x s hx ⟨rfl, hI⟩
    have hi := (List.getElem?_eq_some_iff.1 hx).1
    unfold m_attack_Graph_L1
    have hlt : decide ((i : Int) < len l) = true := by simp [len]; omega
    simp only [hlt, if_true, idx_nat, hx, Option.bind_some, minmax_bad]
    cases hb : badA n x with
    | true =>
      refine .inr ⟨_, by simp; rfl, ?_⟩
      have : l.any (badA n) = true := List.any_eq_true.2 ⟨x, List.mem_of_getElem? hx, hb⟩
      simp [this]
    | false =>
      refine .inl ⟨pairsOf (l.take (i + 1)), ?_, rfl, by rw [take_any_succ _ hx, hI, hb]; rfl⟩
      have hp : pairsOf (l.take (i + 1)) = pairsOf (l.take i) ++ [(x.1, x.2.1)] := by unfold pairsOf; rw [List.take_add_one, hx]; simp
      rw [app_ok (by simp [pairsOf]; omega)]
      simp [hp, w64_succ i (by omega)]
  · rintro s ⟨rfl, hI⟩
    unfold m_attack_Graph_L1
    rw [List.take_length] at hI
    simp [hI, len]

theorem attack_Graph (n : Int) (l : List T_Attack) (hl : l.length < 4294967000) : m_attack_Graph n l = some (graphS n l) := by
  unfold m_attack_Graph graphS
  cases h0 : (decide (n < 0) || decide (40 < n)) with
  | true => simp
  | false =>
    simp only [Bool.false_eq_true, if_false]
    rw [attGraph_L1 n l hl]
    cases hb : l.any (badA n) with
    | true => simp [seqE]
    | false =>
      have hlen : (pairsOf l).length < 4294967296 := by simp [pairsOf]; omega
      simp only [Bool.false_eq_true, if_false, seqE, Option.bind_some]
      rw [sort_pairs hlen]
      simp only [Option.bind_some]
      rw [compact_pairs (by simp [pairsOf]; omega)]
      rfl

/-! the other one -/
abbrev hasA (l : List T_Attack) (i j : Int) : Bool := l.any fun a => a.1 == i && a.2.1 == j
abbrev rowA (l : List T_Attack) (N : Nat) (i : Nat) : List T_Pair := ((List.range N).filter fun (j : Nat) => hasA l (i : Int) (j : Int)).map fun (j : Nat) => ((i : Int), (j : Int))
abbrev matA (l : List T_Attack) (N : Nat) (k : Nat) : List T_Pair := (List.range k).flatMap (rowA l N)

theorem matA_spec {n : Int} {l : List T_Attack} (h0 : 0 ≤ n) (hb : l.any (badA n) = false) : nrm lt2 (pairsOf l) = matA l n.toNat n.toNat := by
  apply nrm_eq ord2
  · refine List.pairwise_flatMap.2 ⟨fun i _ => ?_, ?_⟩
    · rw [List.pairwise_map]
      refine (List.pairwise_lt_range.filter _).imp fun {a b} h => ?_
      simp; omega
    · refine List.pairwise_lt_range.imp fun {a b} h x hx y hy => ?_
      obtain ⟨j, _, rfl⟩ := List.mem_map.1 hx
      obtain ⟨k, _, rfl⟩ := List.mem_map.1 hy
      simp; omega
  · rintro ⟨i, j⟩
    constructor
    · intro h
      obtain ⟨a, _, hx⟩ := List.mem_flatMap.1 h
      obtain ⟨b, hb2, he⟩ := List.mem_map.1 hx
      obtain ⟨hb3, hb4⟩ := List.mem_filter.1 hb2
      obtain ⟨z, hz, hz2⟩ := List.any_eq_true.1 hb4
      simp only [Bool.and_eq_true, beq_iff_eq] at hz2
      refine List.mem_map.2 ⟨z, hz, ?_⟩
      rw [hz2.1, hz2.2]; exact he
    · intro h
      obtain ⟨z, hz, he⟩ := List.mem_map.1 h
      have hzb : badA n z = false := by
        cases hq : badA n z with
        | false => rfl
        | true => rw [List.any_eq_true.2 ⟨z, hz, hq⟩] at hb; cases hb
      simp only [badA, Bool.or_eq_false_iff, decide_eq_false_iff_not] at hzb
      obtain ⟨⟨⟨h1, h2⟩, h3⟩, h4⟩ := hzb
      refine List.mem_flatMap.2 ⟨z.1.toNat, List.mem_range.2 (by omega), List.mem_map.2 ⟨z.2.1.toNat, List.mem_filter.2 ⟨List.mem_range.2 (by omega), ?_⟩, ?_⟩⟩
      · refine List.any_eq_true.2 ⟨z, hz, ?_⟩
        simp; omega
      · rw [← he]; simp; omega

theorem refGraph_L1 (n : Int) (l : List T_Attack) (hl : l.length < 4294967000) :
    loop (m_ref09_Graph_L1 l n) 0 = some (if l.any (badA n) then .inr ((0, []), 1) else .inl ()) := by
  have h := loop_forI (B := m_ref09_Graph_L1 l n) (fun i (_ : Unit) => (i : Int)) l (fun i _ => (l.take i).any (badA n) = false)
    (fun r => r = if l.any (badA n) then .inr ((0, []), 1) else .inl ()) ?_ ?_ () (by simp)
  · obtain ⟨r, h1, rfl⟩ := h; exact h1
  · intro i x s hx hI
    have hi := (List.getElem?_eq_some_iff.1 hx).1
    unfold m_ref09_Graph_L1
    have hlt : decide ((i : Int) < len l) = true := by simp [len]; omega
    simp only [hlt, if_true, idx_nat, hx, Option.bind_some]
    have hc : (if decide (x.1 < 0) = true then some true else if decide (n ≤ x.1) = true then some true else if decide (x.2.1 < 0) = true then some true else some (decide (n ≤ x.2.1)) : Option Bool) = some (badA n x) := by
      unfold badA
      cases decide (x.1 < 0) <;> cases decide (n ≤ x.1) <;> cases decide (x.2.1 < 0) <;> simp
    rw [hc]
    simp only [Option.bind_some]
    cases hb : badA n x with
    | true =>
      refine .inr ⟨_, rfl, ?_⟩
      have : l.any (badA n) = true := List.any_eq_true.2 ⟨x, List.mem_of_getElem? hx, hb⟩
      simp [this]
    | false => exact .inl ⟨(), by simp [w64_succ i (by omega)], by rw [take_any_succ _ hx, hI, hb]; rfl⟩
  · intro s hI
    unfold m_ref09_Graph_L1
    rw [List.take_length] at hI
    simp [hI, len]

theorem refGraph_L4 (l : List T_Attack) (s5 s6 : Int × List T_Pair) (hl : l.length < 4294967000) : loop (m_ref09_Graph_L4 l s5 s6) (false, 0) = some (hasA l s5.1 s6.1) := by
  have h := loop_forI (B := m_ref09_Graph_L4 l s5 s6) (fun i (b : Bool) => (b, (i : Int))) l (fun i b => b = (l.take i).any fun a => a.1 == s5.1 && a.2.1 == s6.1) (fun r => r = hasA l s5.1 s6.1) ?_ ?_ false (by simp)
  · obtain ⟨r, h1, rfl⟩ := h; exact h1
  · rintro i x s hx rfl
    have hi := (List.getElem?_eq_some_iff.1 hx).1
    unfold m_ref09_Graph_L4
    have hlt : decide ((i : Int) < len l) = true := by simp [len]; omega
    simp only [hlt, if_true, idx_nat, hx, Option.bind_some]
    refine .inl ⟨_, ?_, rfl⟩
    rw [take_any_succ _ hx, w64_succ i (by omega)]
    cases (l.take i).any fun a => a.1 == s5.1 && a.2.1 == s6.1 <;> cases x.1 == s5.1 <;> simp
  · rintro s rfl
    unfold m_ref09_Graph_L4
    simp [len]

theorem refGraph_L3 (n : Int) (l : List T_Attack) (k : Nat) (acc : List T_Pair) (h0 : 0 ≤ n) (h1 : n ≤ 40) (hl : l.length < 4294967000) (hk : k < 40) (ha : acc.length ≤ 1600) :
    loop (m_ref09_Graph_L3 n l ((k : Int), acc)) (0, acc) = some (.inl (((k + 1 : Nat) : Int), acc ++ rowA l n.toNat k)) := by
  have h := loop_forI (B := m_ref09_Graph_L3 n l ((k : Int), acc)) (fun i (s : List T_Pair) => ((i : Int), s)) (List.range n.toNat) (fun i s => s = acc ++ rowA l i k) (fun r => r = .inl (((k + 1 : Nat) : Int), acc ++ rowA l n.toNat k)) ?_ ?_ acc (by simp)
  · obtain ⟨r, h1, rfl⟩ := h; exact h1
  · rintro i x s hx rfl
    have hi := (List.getElem?_eq_some_iff.1 hx).1
    rw [List.length_range] at hi
    unfold m_ref09_Graph_L3
    have hlt : decide ((i : Int) < n) = true := by simp; omega
    simp only [hlt, if_true, refGraph_L4 l _ _ hl, Option.bind_some]
    have hrow : rowA l (i + 1) k = rowA l i k ++ if hasA l k i then [((k : Int), (i : Int))] else [] := by
      unfold rowA
      rw [List.range_succ, List.filter_append, List.map_append]
      congr 1
      by_cases hh : hasA l k i = true <;> simp [hh]
    have hlen : (rowA l i k).length ≤ i := by
      unfold rowA
      rw [List.length_map]
      exact Nat.le_trans (List.length_filter_le _ _) (by simp)
    refine .inl ⟨_, ?_, rfl⟩
    rw [hrow, w64_succ i (by omega)]
    cases hasA l k i with
    | true => rw [app_ok (by rw [List.length_append, List.length_singleton]; omega)]; simp
    | false => simp
  · rintro s rfl
    unfold m_ref09_Graph_L3
    have hlt : decide (((List.range n.toNat).length : Int) < n) = false := by simp; omega
    rw [List.length_range] at *
    simp only [hlt, Bool.false_eq_true, if_false]
    exact ⟨_, rfl, by rw [w64_succ k (by omega)]⟩

theorem refGraph_L2 (n : Int) (l : List T_Attack) (h0 : 0 ≤ n) (h1 : n ≤ 40) (hl : l.length < 4294967000) : loop (m_ref09_Graph_L2 n l) (0, []) = some (matA l n.toNat n.toNat) := by
  have h := loop_forI (B := m_ref09_Graph_L2 n l) (fun i (s : List T_Pair) => ((i : Int), s)) (List.range n.toNat) (fun i s => s = matA l n.toNat i ∧ s.length ≤ 40 * i) (fun r => r = matA l n.toNat n.toNat) ?_ ?_ [] (by simp)
  · obtain ⟨r, h1, rfl⟩ := h; exact h1
  · rintro i x s hx ⟨rfl, hs⟩
    have hi := (List.getElem?_eq_some_iff.1 hx).1
    rw [List.length_range] at hi
    unfold m_ref09_Graph_L2
    have hlt : decide ((i : Int) < n) = true := by simp; omega
    simp only [hlt, if_true]
    have hlen : (rowA l n.toNat i).length ≤ 40 := by
      unfold rowA
      rw [List.length_map]
      exact Nat.le_trans (List.length_filter_le _ _) (by simp; omega)
    have hm : matA l n.toNat (i + 1) = matA l n.toNat i ++ rowA l n.toNat i := by
      unfold matA
      rw [List.range_succ, List.flatMap_append]; simp
    refine .inl ⟨_, refGraph_L3 n l i _ h0 h1 hl (by omega) (by omega), hm.symm, ?_⟩
    rw [List.length_append]; omega
  · rintro s ⟨rfl, hs⟩
    unfold m_ref09_Graph_L2
    rw [List.length_range]
    have hlt : decide (((n.toNat : Nat) : Int) < n) = false := by simp; omega
    simp only [hlt, Bool.false_eq_true, if_false]
    exact ⟨_, rfl, rfl⟩

theorem ref_Graph (n : Int) (l : List T_Attack) (hl : l.length < 4294967000) : m_ref09_Graph n l = some (graphS n l) := by
  unfold m_ref09_Graph graphS
  cases h0 : (decide (n < 0) || decide (40 < n)) with
  | true => simp
  | false =>
    simp only [Bool.or_eq_false_iff, decide_eq_false_iff_not] at h0
    simp only [Bool.false_eq_true, if_false]
    rw [refGraph_L1 n l hl]
    cases hb : l.any (badA n) with
    | true => simp [seqE]
    | false =>
      simp only [Bool.false_eq_true, if_false, seqE, Option.bind_some]
      rw [refGraph_L2 n l (by omega) (by omega) hl, matA_spec (by omega) hb]
      rfl

theorem ref_SameGraph (g : T_Graph) (hg : g.2.length < 4294967000) : m_ref09_SameGraph g g = some true := by
  have h := sameM_spec g.2 g.2 (by omega)
  unfold sameM at h
  simp only [bne_self_eq_false, Bool.false_eq_true, if_false, decide_true] at h
  unfold m_ref09_SameGraph
  simp only [bne_self_eq_false, Bool.or_self, Bool.false_eq_true, if_false]
  exact h

end Go.GD
