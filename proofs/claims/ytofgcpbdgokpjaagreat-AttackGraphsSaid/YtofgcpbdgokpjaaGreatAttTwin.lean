/- Sorting in layer 9 that can be computed. Conditions: none. -/
import Derived.Test.YtofgcpbdgokpjaaGreatAtt
namespace Go.GD
set_option autoImplicit false

def e_slices_SortFunc_Attack__attack_Attacks_1 (_ : Nat) (l : List T_Attack) : Option (List T_Attack) := if l.length < 4294967296 then some (isort lt4 l) else none
def e_slices_SortFunc_Pair__attack_Graph_1 (_ : Nat) (l : List T_Pair) : Option (List T_Pair) := if l.length < 4294967296 then some (isort lt2 l) else none
def e_slices_Sort_int (_ : Nat) (l : List Int) : Option (List Int) := if l.length < 4294967296 then some (isort ltI l) else none
theorem le_slices_SortFunc_Attack__attack_Attacks_1 (n : Nat) (l : List T_Attack) : Le (e_slices_SortFunc_Attack__attack_Attacks_1 n l) (m_slices_SortFunc_Attack__attack_Attacks_1 l) := ⟨fun r h => by
  unfold e_slices_SortFunc_Attack__attack_Attacks_1 at h
  split at h
  · rename_i hl; rw [sort_attacks hl, merge_isort ord4]; exact h
  · cases h⟩
theorem le_slices_SortFunc_Pair__attack_Graph_1 (n : Nat) (l : List T_Pair) : Le (e_slices_SortFunc_Pair__attack_Graph_1 n l) (m_slices_SortFunc_Pair__attack_Graph_1 l) := ⟨fun r h => by
  unfold e_slices_SortFunc_Pair__attack_Graph_1 at h
  split at h
  · rename_i hl; rw [sort_pairs hl, merge_isort ord2]; exact h
  · cases h⟩
theorem le_slices_Sort_int (n : Nat) (l : List Int) : Le (e_slices_Sort_int n l) (m_slices_Sort_int l) := ⟨fun r h => by
  unfold e_slices_Sort_int at h
  split at h
  · rename_i hl; unfold m_slices_Sort_int; rw [sortI_isort hl]; exact h
  · cases h⟩

end Go.GD
