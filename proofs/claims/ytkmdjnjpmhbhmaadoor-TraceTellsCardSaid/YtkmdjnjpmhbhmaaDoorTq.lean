/- Plain laws of parts, joins and what comes off: of no program. -/
import Derived.Test.YtkmdjnjpmhbhmaaDoorSq
import Derived.Test.YtkmdjnjpmhbhmaaDoorTp
import Derived.Lib.SplitLaws
import Derived.Lib.CountLaws
import Derived.Lib.LastIndexByte
import Derived.Lib.Join
namespace Go.Proofs.YtkmdjnjpmhbhmaaDoor
open Go.RowKit
def slash : ByteArray := ⟨#[47]⟩
theorem indexB_slash (s : ByteArray) : Lib.indexB s slash = Lib.indexByte s.data.toList 47 := Lib.index_one _ _
theorem split_parts : ∀ (n : Nat) (s : ByteArray), s.size ≤ n → (Lib.splitB slash 0 (Lib.countB s slash) s).map bysN = parts (bysN s) ∧ (parts (bysN s)).length = Lib.countB s slash + 1
  | n, s, hn => by
    rcases idx_cases s with h | ⟨i, h⟩
    · have h2 := idx_none h
      rw [← indexB_slash] at h
      rw [Lib.countB_miss s slash h, h2]
      exact ⟨rfl, rfl⟩
    · obtain ⟨hi, h2⟩ := idx_some h
      rw [← indexB_slash] at h
      rw [Lib.countB_hit s slash i (by decide) h, Nat.add_comm 1, Lib.splitB_hit slash 0 _ s i h, h2]
      cases n with
      | zero => omega
      | succ n =>
        obtain ⟨h3, h4⟩ := split_parts n (s.extract (i + 1) s.size) (by rw [ByteArray.size_extract]; omega)
        have e : slash.size = 1 := rfl
        rw [e]
        refine ⟨?_, ?_⟩
        · rw [List.map_cons, h3]; rfl
        · rw [List.length_cons, h4]
theorem pcut_len : ∀ (l cur : List Nat), (pcut cur l).length = l.count 47 + 1
  | [], _ => rfl
  | c :: r, cur => by
    rw [pcut]
    by_cases h : c = 47
    · rw [if_pos h, List.length_cons, pcut_len r []]; subst h; rw [List.count_cons_self]
    · rw [if_neg h, pcut_len r _, List.count_cons_of_ne h]
theorem count_bysN (s : ByteArray) : Lib.countByte s.data.toList 47 = (bysN s).count 47 := by
  unfold Lib.countByte bysN
  induction s.data.toList with
  | nil => rfl
  | cons a r ih =>
    rw [List.map_cons]
    by_cases h : a = 47
    · subst h; rw [List.count_cons_self, ih]; exact (List.count_cons_self).symm
    · have h2 : a.toNat ≠ 47 := fun h3 => h (UInt8.toNat.inj (h3.trans (by rfl)))
      rw [List.count_cons_of_ne h, ih, List.count_cons_of_ne h2]
theorem pcut_last : ∀ (a cur b : List Nat), (∀ c ∈ b, c ≠ 47) → (pcut cur (a ++ 47 :: b)).getLast? = some b
  | [], cur, b, h => by
    rw [List.nil_append, pcut, if_pos rfl, pcut_none b [] h]
    rfl
  | c :: r, cur, b, h => by
    rw [List.cons_append, pcut]
    split
    · have := pcut_last r [] b h
      rw [List.getLast?_cons, this]; rfl
    · exact pcut_last r _ b h
/-- What stands behind the last slash. -/
def pLast (l : List Nat) : List Nat := ((parts l).getLast?).getD []
theorem last_any (s : ByteArray) : ∃ k : Nat, Lib.lastIndexByte s 47 + 1 = (k : Int) ∧ k ≤ s.size ∧ (bysN s).drop k = pLast (bysN s) := by
  have hl := bysN_len s
  have hg : ∀ j, j < s.size → ((s.data[j]!).toNat : Int) = ((bysN s).getD j 0 : Nat) := by
    intro j hj
    have hj2 : j < s.data.size := by rw [ByteArray.size_data]; exact hj
    rw [getElem!_pos s.data j hj2]
    have := str_get s j hj hj
    rw [← this]
    rfl
  rcases Lib.lastIndexByte_spec s 47 with ⟨h, hn⟩ | ⟨i, hi, h, hc, hn⟩
  · refine ⟨0, by rw [h]; rfl, Nat.zero_le _, ?_⟩
    have hno : ∀ c ∈ bysN s, c ≠ 47 := by
      intro c hc h47
      obtain ⟨k, hk⟩ := List.mem_iff_getElem?.1 hc
      have hk2 : k < (bysN s).length := (List.getElem?_eq_some_iff.1 hk).1
      have := hn k (by omega)
      rw [hg k (by omega), List.getD_eq_getElem?_getD, hk] at this
      simp at this
      omega
    unfold pLast parts
    rw [pcut_none _ _ hno]
    rfl
  · refine ⟨i + 1, by rw [h]; rfl, hi, ?_⟩
    have hil : i < (bysN s).length := by omega
    have h47 : (bysN s)[i] = 47 := by
      rw [hg i hi, List.getD_eq_getElem?_getD, List.getElem?_eq_getElem hil] at hc
      simp at hc
      omega
    have hsp : bysN s = (bysN s).take i ++ 47 :: (bysN s).drop (i + 1) := by
      conv => lhs; rw [← List.take_append_drop i (bysN s), List.drop_eq_getElem_cons hil, h47]
    have hno : ∀ c ∈ (bysN s).drop (i + 1), c ≠ 47 := by
      intro c hc2 h472
      obtain ⟨k, hk⟩ := List.mem_iff_getElem?.1 hc2
      rw [List.getElem?_drop] at hk
      have hk2 : i + 1 + k < (bysN s).length := (List.getElem?_eq_some_iff.1 hk).1
      have := hn (i + 1 + k) (by omega) (by omega)
      rw [hg _ (by omega), List.getD_eq_getElem?_getD, hk] at this
      simp at this
      omega
    unfold pLast parts
    conv => rhs; rw [hsp]
    rw [pcut_last _ _ _ hno]
    rfl
/-- Parts put together. -/
def pjoin : List (List Nat) → List Nat
  | [] => []
  | [a] => a
  | a :: b :: r => a ++ 47 :: pjoin (b :: r)
theorem pjoin_tail : ∀ (a : List Nat) (r : List (List Nat)), pjoin (a :: r) = a ++ (r.map (47 :: ·)).flatten
  | a, [] => by simp [pjoin]
  | a, b :: r => by rw [pjoin, pjoin_tail b r]; simp
theorem join_bys (xs : List ByteArray) : bysN ⟨(Lib.join (xs.map (·.data.toList)) slash.data.toList).toArray⟩ = pjoin (xs.map bysN) := by
  cases xs with
  | nil => rfl
  | cons a r =>
    rw [List.map_cons, Lib.join_cons, List.map_cons, pjoin_tail]
    unfold bysN Lib.joinTail
    simp only [List.map_append, List.map_flatten, List.map_map]
    congr 2
theorem parts_join : ∀ (ls : List (List Nat)), ls ≠ [] → (∀ x ∈ ls, ∀ c ∈ x, c ≠ 47) → parts (pjoin ls) = ls
  | [], h, _ => absurd rfl h
  | [a], _, h => by rw [pjoin]; exact pcut_none a [] (h a (List.mem_cons_self ..))
  | a :: b :: r, _, h => by
    rw [pjoin]
    have h2 := parts_join (b :: r) (by simp) (fun x hx => h x (List.mem_cons_of_mem _ hx))
    exact (pcut_app a [] _ (h a (List.mem_cons_self ..))).trans (by rw [List.nil_append]; exact congrArg (a :: ·) h2)
theorem pjoin_len_snoc : ∀ (ls : List (List Nat)) (a : List Nat), ls ≠ [] → pjoin (ls ++ [a]) = pjoin ls ++ 47 :: a
  | [], _, h => absurd rfl h
  | [b], a, _ => rfl
  | b :: c :: r, a, _ => by
    show b ++ 47 :: pjoin ((c :: r) ++ [a]) = _
    rw [pjoin_len_snoc (c :: r) a (by simp), pjoin]
    simp
/-- Does the channel come off, and what is left may be? -/
def okRet (c d : List Nat) : Bool := (c ++ [47]).isPrefixOf d && okDen (d.drop (c.length + 1))
def pHops (l : List Nat) : Nat := if okDen l then (parts l).length - 1 else 0
def pBase (l : List Nat) : List Nat := if okDen l then pLast l else []
def pRet (c d : List Nat) : List Nat := if okRet c d then d.drop (c.length + 1) else []
end Go.Proofs.YtkmdjnjpmhbhmaaDoor
