/- Plain laws of words and joined parts, for the laws of layer 12 (trace). -/
import Derived.Test.YtkmdjnjpmhbhmaaDoorTf
namespace Go.Proofs.YtkmdjnjpmhbhmaaDoor
open Go.RowKit
theorem own2_jrow {w : World} {base n : Nat} {v : Value} {Ls : List ByteArray} (h : own2 w base 9 v n (Ls.map Value.string)) (hn : n = Ls.length) : JRow w v Ls := by
  subst hn
  rcases h with ⟨rfl, h0, h1⟩ | h
  · have : Ls = [] := by simpa using h1
    subst this
    exact ⟨none, 0, rfl, fun h => by simp at h⟩
  · obtain ⟨g, cap, rfl, _, hg, hc1, _, hc⟩ := h.form
    refine ⟨_, cap, rfl, fun _ => ⟨hc1, g, 0, rfl, hg, fun j x hx => ?_⟩⟩
    rw [Nat.zero_add]
    exact hc j _ (by rw [List.getElem?_map, hx]; rfl)
theorem JRow.strs {w : World} {v : Value} {Ls : List ByteArray} (h : JRow w v Ls) : Strs w v Ls := by
  obtain ⟨p, cap, rfl, h⟩ := h
  refine ⟨p, cap, rfl, fun h0 => ?_⟩
  obtain ⟨_, g, off, rfl, _, hc⟩ := h h0
  exact ⟨g, off, rfl, fun i hi => hc i _ (List.getElem?_eq_getElem hi)⟩
theorem JRow.on {w w' : World} {v : Value} {Ls : List ByteArray} (h : JRow w v Ls) (hb : Below w.heap.size w w') : JRow w' v Ls := by
  obtain ⟨p, cap, rfl, h⟩ := h
  refine ⟨p, cap, rfl, fun h0 => ?_⟩
  obtain ⟨h1, g, off, rfl, hg, hc⟩ := h h0
  exact ⟨h1, g, off, rfl, Nat.lt_of_lt_of_le hg hb.size, fun j x hx => BW_cell hb (hc j x hx)⟩
theorem wordL_mem {n : Int} {c : Nat} (h : c ∈ wordL n) : 97 ≤ c ∧ c ≤ 104 := by
  unfold wordL at h
  obtain ⟨i, _, rfl⟩ := List.mem_map.1 h
  exact ltr_lt n i
theorem wordL_ns (n : Int) : ∀ c ∈ wordL n, c ≠ 47 := fun c hc => by have := wordL_mem hc; omega
theorem wordL_len (n : Int) : 1 ≤ (wordL n).length ∧ (wordL n).length ≤ 4 := by unfold wordL; rw [List.length_map, List.length_range]; omega
theorem okPart_of {l : List Nat} (h : ∀ c ∈ l, c ≠ 47) : okPart l = (decide (1 ≤ l.length) && decide (l.length ≤ 32)) := by
  unfold okPart
  have h1 : l.all (fun c => decide (c ≠ 47)) = true := by rw [List.all_eq_true]; intro c hc; exact decide_eq_true (h c hc)
  rw [h1]; rfl
theorem okPart_word (n : Int) : okPart (wordL n) = true := by
  rw [okPart_of (wordL_ns n)]
  have := wordL_len n
  rw [decide_eq_true this.1, decide_eq_true (show (wordL n).length ≤ 32 by omega)]
  rfl
theorem okPart_slash {l : List Nat} (h : 47 ∈ l) : okPart l = false := by
  unfold okPart
  have h1 : l.all (fun c => decide (c ≠ 47)) = false := by rw [List.all_eq_false]; exact ⟨47, h, by decide⟩
  rw [h1]; rfl
theorem okDen_join {ls : List (List Nat)} (h0 : ls ≠ []) (h : ∀ x ∈ ls, ∀ c ∈ x, c ≠ 47) : okDen (pjoin ls) = (ls.all okPart && decide (ls.length ≤ 5) && decide ((pjoin ls).length ≤ 200)) := by
  unfold okDen; rw [parts_join ls h0 h]
/-- A text without a slash, of 1 to 6 bytes. -/
def Wd (x : List Nat) : Prop := (∀ c ∈ x, c ≠ 47) ∧ 1 ≤ x.length ∧ x.length ≤ 6
theorem wd_word (n : Int) : Wd (wordL n) := ⟨wordL_ns n, (wordL_len n).1, by have := (wordL_len n).2; omega⟩
theorem okDen_words {ls : List (List Nat)} (h0 : ls ≠ []) (h : ∀ x ∈ ls, Wd x) : okDen (pjoin ls) = decide (ls.length ≤ 5) := by
  rw [okDen_join h0 (fun x hx => (h x hx).1)]
  have h1 : ls.all okPart = true := by
    rw [List.all_eq_true]
    intro x hx
    obtain ⟨a, b, c⟩ := h x hx
    rw [okPart_of a, decide_eq_true b, decide_eq_true (show x.length ≤ 32 by omega)]
    rfl
  rw [h1]
  have h2 := pjoin_len ls 6 (fun x hx => (h x hx).2.2)
  by_cases h5 : ls.length ≤ 5
  · rw [decide_eq_true h5, decide_eq_true (show (pjoin ls).length ≤ 200 by omega)]
    rfl
  · rw [decide_eq_false h5]; rfl
theorem pLast_join {ls : List (List Nat)} (h0 : ls ≠ []) (h : ∀ x ∈ ls, ∀ c ∈ x, c ≠ 47) : pLast (pjoin ls) = ls.getLast?.getD [] := by
  unfold pLast; rw [parts_join ls h0 h]
theorem pHops_words {ls : List (List Nat)} (h0 : ls ≠ []) (h : ∀ x ∈ ls, Wd x) : pHops (pjoin ls) = if ls.length ≤ 5 then ls.length - 1 else 0 := by
  unfold pHops
  rw [okDen_words h0 h, parts_join ls h0 (fun x hx => (h x hx).1)]
  by_cases h5 : ls.length ≤ 5 <;> simp [h5]
theorem pBase_words {ls : List (List Nat)} (h0 : ls ≠ []) (h : ∀ x ∈ ls, Wd x) : pBase (pjoin ls) = if ls.length ≤ 5 then ls.getLast?.getD [] else [] := by
  unfold pBase
  rw [okDen_words h0 h, pLast_join h0 (fun x hx => (h x hx).1)]
  by_cases h5 : ls.length ≤ 5 <;> simp [h5]
theorem isPre_self (c d : List Nat) : (c ++ [47]).isPrefixOf (c ++ 47 :: d) = true := by
  rw [List.isPrefixOf_iff_prefix]; exact ⟨d, by simp⟩
theorem drop_self (c d : List Nat) : (c ++ 47 :: d).drop (c.length + 1) = d := by
  rw [← List.drop_drop, List.drop_left]; rfl
theorem okRet_self (c d : List Nat) : okRet c (c ++ 47 :: d) = okDen d := by
  unfold okRet; rw [isPre_self, Bool.true_and, drop_self]
theorem pRet_self (c d : List Nat) : pRet c (c ++ 47 :: d) = if okDen d then d else [] := by
  unfold pRet; rw [okRet_self, drop_self]
theorem isPre_word {x y d : List Nat} (hx : ∀ c ∈ x, c ≠ 47) (hy : ∀ c ∈ y, c ≠ 47) : (x ++ [47]).isPrefixOf (y ++ 47 :: d) = decide (x = y) := by
  by_cases h : x = y
  · subst h; rw [isPre_self]; simp
  · rw [decide_eq_false h, Bool.eq_false_iff]
    intro h2
    obtain ⟨t, ht⟩ := List.isPrefixOf_iff_prefix.1 h2
    rw [List.append_assoc] at ht
    have h3 : pcut [] (x ++ 47 :: t) = pcut [] (y ++ 47 :: d) := congrArg (pcut []) ht
    rw [pcut_app x [] t hx, pcut_app y [] d hy] at h3
    exact h (by simpa using (List.cons.inj h3).1)
theorem okRet_word {x y : List Nat} (hx : ∀ c ∈ x, c ≠ 47) (hy : ∀ c ∈ y, c ≠ 47) : okRet x (y ++ [47, 120]) = decide (x = y) := by
  have h : (x ++ [47]).isPrefixOf (y ++ [47, 120]) = decide (x = y) := isPre_word hx hy
  unfold okRet
  rw [h]
  by_cases h : x = y
  · subst h
    have : (x ++ [47, 120]).drop (x.length + 1) = [120] := drop_self x [120]
    rw [this, decide_eq_true rfl]
    decide +kernel
  · rw [decide_eq_false h]; rfl
theorem join_cons {x : List Nat} {ls : List (List Nat)} (h0 : ls ≠ []) : pjoin (x :: ls) = x ++ 47 :: pjoin ls := by
  cases ls with
  | nil => exact absurd rfl h0
  | cons a r => rfl
/-- A denomination that went over channels. -/
def over (ls : List (List Nat)) : List Nat := pjoin (ls.reverse ++ [[120]])
theorem over_snoc (ls : List (List Nat)) (x : List Nat) : over (ls ++ [x]) = x ++ 47 :: over ls := by
  unfold over
  rw [List.reverse_append, List.reverse_singleton, List.append_assoc, List.singleton_append, join_cons (by simp)]
theorem over_words {ls : List (List Nat)} (h : ∀ x ∈ ls, Wd x) : (∀ x ∈ ls.reverse ++ [[120]], Wd x) := by
  intro x hx
  rcases List.mem_append.1 hx with hx | hx
  · exact h x (List.mem_reverse.1 hx)
  · simp at hx; subst hx; exact ⟨by simp, by simp, by simp⟩
theorem over_ok {ls : List (List Nat)} (h : ∀ x ∈ ls, Wd x) : okDen (over ls) = decide (ls.length ≤ 4) := by
  unfold over
  rw [okDen_words (by simp) (over_words h)]
  simp
theorem over_hops {ls : List (List Nat)} (h : ∀ x ∈ ls, Wd x) (hl : ls.length ≤ 4) : pHops (over ls) = ls.length := by
  unfold over
  rw [pHops_words (by simp) (over_words h)]
  simp
  omega
theorem over_base {ls : List (List Nat)} (h : ∀ x ∈ ls, Wd x) (hl : ls.length ≤ 4) : pBase (over ls) = [120] := by
  unfold over
  rw [pBase_words (by simp) (over_words h)]
  simp
  omega
theorem over_len {ls : List (List Nat)} (h : ∀ x ∈ ls, Wd x) : (over ls).length ≤ (ls.length + 1) * 7 := by
  have := pjoin_len (ls.reverse ++ [[120]]) 6 (fun x hx => (over_words h x hx).2.2)
  simpa [over] using this
end Go.Proofs.YtkmdjnjpmhbhmaaDoor
