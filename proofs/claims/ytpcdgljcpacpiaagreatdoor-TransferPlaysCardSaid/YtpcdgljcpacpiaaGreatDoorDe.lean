/- Plain facts on rows of entries with rising keys: where a key is, what putting and dropping make of a row. -/
import Derived.WalkKit
namespace Go.Proofs.YtpcdgljcpacpiaaGreatDoor
abbrev Ent := ByteArray × ByteArray
def kl (a : ByteArray) : List UInt8 := a.data.toList
theorem kl_inj {a b : ByteArray} (h : kl a = kl b) : a = b := by
  apply ByteArray.ext
  exact Array.toList_inj.1 h
def klt (a b : ByteArray) : Prop := kl a < kl b
instance (a b : ByteArray) : Decidable (klt a b) := by unfold klt; infer_instance
theorem klt_irrefl (a : ByteArray) : ¬ klt a a := List.lt_irrefl _
theorem klt_trans {a b c : ByteArray} (h : klt a b) (h2 : klt b c) : klt a c := List.lt_trans h h2
theorem klt_tri {a b : ByteArray} (h : ¬ klt a b) (h2 : ¬ klt b a) : a = b := kl_inj (List.le_antisymm h2 h)
theorem klt_ne {a b : ByteArray} (h : klt a b) : a ≠ b := fun e => by subst e; exact klt_irrefl _ h
theorem klt_asymm {a b : ByteArray} (h : klt a b) : ¬ klt b a := fun h2 => klt_irrefl _ (klt_trans h h2)
theorem bless_eq : ∀ (x y : List UInt8), Op.bytesLess x y = decide (x < y)
  | [], [] => by simp [Op.bytesLess]
  | _ :: _, [] => by simp [Op.bytesLess]
  | [], _ :: _ => by simp [Op.bytesLess]
  | a :: x, b :: y => by
    rw [Op.bytesLess, bless_eq x y]
    simp only [List.cons_lt_cons_iff]
    by_cases h1 : a < b <;> by_cases h2 : a = b <;> by_cases h3 : x < y <;> simp [h1, h2, h3]
theorem bless_klt (a b : ByteArray) : Op.bytesLess a.toList b.toList = decide (klt a b) := by
  rw [ByteArray.toList_eq, ByteArray.toList_eq, bless_eq]; rfl
theorem beq_kl (a b : ByteArray) : (a.toList == b.toList) = decide (a = b) := by
  rw [ByteArray.toList_eq, ByteArray.toList_eq, Bool.eq_iff_iff]
  simp only [beq_iff_eq, decide_eq_true_eq]
  exact ⟨fun h => kl_inj h, fun h => by rw [h]⟩
def Srt (E : List Ent) : Prop := E.Pairwise fun x y => klt x.1 y.1
def pos (E : List Ent) (k : ByteArray) : Nat := (E.takeWhile fun x => decide (klt x.1 k)).length
def hasK (E : List Ent) (k : ByteArray) : Bool := E.any fun x => decide (x.1 = k)
def hitN (E : List Ent) (k : ByteArray) : Nat := if hasK E k then 1 else 0
def putL (E : List Ent) (k v : ByteArray) : List Ent := E.take (pos E k) ++ (k, v) :: E.drop (pos E k + hitN E k)
def dropL (E : List Ent) (k : ByteArray) : List Ent := E.take (pos E k) ++ E.drop (pos E k + hitN E k)
theorem pos_le (E : List Ent) (k : ByteArray) : pos E k ≤ E.length := by
  unfold pos
  exact (List.takeWhile_prefix _).length_le
theorem pos_lt {E : List Ent} {k : ByteArray} {i : Nat} (h : i < pos E k) (hi : i < E.length) : klt E[i].1 k := by
  have hp := List.takeWhile_prefix (p := fun x : Ent => decide (klt x.1 k)) (l := E)
  have e : (E.takeWhile fun x => decide (klt x.1 k))[i]'h = E[i] := hp.getElem h
  have hm := List.getElem_mem (l := E.takeWhile fun x => decide (klt x.1 k)) h
  have := List.all_eq_true.1 (List.all_takeWhile (p := fun x : Ent => decide (klt x.1 k)) (l := E)) _ hm
  rw [e] at this
  simpa using this
theorem pos_cons (x : Ent) (E : List Ent) (k : ByteArray) : pos (x :: E) k = if klt x.1 k then pos E k + 1 else 0 := by
  unfold pos
  rw [List.takeWhile_cons]
  by_cases h : klt x.1 k <;> simp [h]
theorem pos_at {E : List Ent} {k : ByteArray} (h : pos E k < E.length) : ¬ klt E[pos E k].1 k := by
  induction E with
  | nil => simp at h
  | cons x E ih =>
    by_cases hx : klt x.1 k
    · have e : pos (x :: E) k = pos E k + 1 := by rw [pos_cons, if_pos hx]
      simp only [e, List.getElem_cons_succ]
      rw [e] at h
      exact ih (by simpa using h)
    · have e : pos (x :: E) k = 0 := by rw [pos_cons, if_neg hx]
      simp only [e, List.getElem_cons_zero]
      exact hx
theorem Srt.lt {E : List Ent} (h : Srt E) {i j : Nat} (hij : i < j) (hj : j < E.length) : klt (E[i]'(Nat.lt_trans hij hj)).1 E[j].1 := List.pairwise_iff_getElem.1 h i j _ _ hij
theorem pos_ge {E : List Ent} (hs : Srt E) {k : ByteArray} {i : Nat} (h : pos E k ≤ i) (hi : i < E.length) : ¬ klt E[i].1 k := by
  rcases Nat.lt_or_ge (pos E k) i with h1 | h1
  · intro h2
    exact pos_at (Nat.lt_trans h1 hi) (klt_trans (hs.lt h1 hi) h2)
  · obtain rfl : i = pos E k := by omega
    exact pos_at hi
theorem pos_gt {E : List Ent} (hs : Srt E) {k : ByteArray} {i : Nat} (h : pos E k < i) (hi : i < E.length) : klt k E[i].1 := by
  have h1 := hs.lt h hi
  have h2 := pos_at (E := E) (k := k) (Nat.lt_trans h hi)
  rcases Decidable.em (klt k E[pos E k].1) with h3 | h3
  · exact klt_trans h3 h1
  · rwa [klt_tri h2 h3] at h1
theorem pos_ne {E : List Ent} {k : ByteArray} {i : Nat} (h : i < pos E k) (hi : i < E.length) : E[i].1 ≠ k := klt_ne (pos_lt h hi)
theorem pos_ne' {E : List Ent} (hs : Srt E) {k : ByteArray} {i : Nat} (h : pos E k < i) (hi : i < E.length) : E[i].1 ≠ k := fun e => klt_ne (pos_gt hs h hi) e.symm
theorem has_iff {E : List Ent} (hs : Srt E) (k : ByteArray) : hasK E k = true ↔ ∃ h : pos E k < E.length, E[pos E k].1 = k := by
  unfold hasK
  rw [List.any_eq_true]
  constructor
  · rintro ⟨x, hx, he⟩
    have he' : x.1 = k := by simpa using he
    obtain ⟨i, hi, rfl⟩ := List.mem_iff_getElem.1 hx
    rcases Nat.lt_trichotomy i (pos E k) with h | h | h
    · exact absurd he' (pos_ne h hi)
    · subst h; exact ⟨hi, he'⟩
    · exact absurd he' (pos_ne' hs h hi)
  · rintro ⟨h, he⟩
    exact ⟨_, List.getElem_mem h, by simpa using he⟩
theorem hit_le {E : List Ent} (hs : Srt E) (k : ByteArray) : pos E k + hitN E k ≤ E.length := by
  unfold hitN
  have h0 := pos_le E k
  split
  · rename_i h
    obtain ⟨h1, _⟩ := (has_iff hs k).1 h
    omega
  · omega
/-- A key that is not less than k, where k stands: k, if it is there. -/
theorem no_hit {E : List Ent} (hs : Srt E) {k : ByteArray} (h : hasK E k = false) (hp : pos E k < E.length) : klt k E[pos E k].1 := by
  have h1 := pos_at hp
  rcases Decidable.em (klt k E[pos E k].1) with h2 | h2
  · exact h2
  · have := (has_iff hs k).2 ⟨hp, klt_tri h1 h2⟩
    rw [h] at this; cases this
theorem put_len {E : List Ent} (hs : Srt E) (k v : ByteArray) : (putL E k v).length + hitN E k = E.length + 1 := by
  have h1 := hit_le hs k
  unfold putL
  simp
  omega
theorem drop_len {E : List Ent} (hs : Srt E) (k : ByteArray) : (dropL E k).length + hitN E k = E.length := by
  have h1 := hit_le hs k
  unfold dropL
  simp
  omega
theorem drop_none {E : List Ent} {k : ByteArray} (h : hasK E k = false) : dropL E k = E := by
  unfold dropL hitN
  rw [h]
  simp
theorem Srt.take {E : List Ent} (h : Srt E) (n : Nat) : Srt (E.take n) := List.Pairwise.sublist (List.take_sublist _ _) h
theorem Srt.drop {E : List Ent} (h : Srt E) (n : Nat) : Srt (E.drop n) := List.Pairwise.sublist (List.drop_sublist _ _) h
theorem mem_take {E : List Ent} {n : Nat} {x : Ent} (h : x ∈ E.take n) : ∃ i, ∃ hi : i < E.length, i < n ∧ E[i] = x := by
  obtain ⟨i, hi, he⟩ := List.mem_iff_getElem.1 h
  rw [List.getElem_take] at he
  simp at hi
  exact ⟨i, by omega, by omega, he⟩
theorem mem_drop {E : List Ent} {n : Nat} {x : Ent} (h : x ∈ E.drop n) : ∃ i, ∃ hi : i < E.length, n ≤ i ∧ E[i] = x := by
  obtain ⟨i, hi, he⟩ := List.mem_iff_getElem.1 h
  rw [List.getElem_drop] at he
  simp at hi
  exact ⟨n + i, by omega, by omega, he⟩
theorem behind_gt {E : List Ent} (hs : Srt E) {k : ByteArray} {x : Ent} (h : x ∈ E.drop (pos E k + hitN E k)) : klt k x.1 := by
  obtain ⟨i, hi, hn, rfl⟩ := mem_drop h
  rcases Nat.lt_or_ge (pos E k) i with h1 | h1
  · exact pos_gt hs h1 hi
  · obtain rfl : i = pos E k := by omega
    have h0 : hitN E k = 0 := by omega
    have hf : hasK E k = false := by
      unfold hitN at h0
      cases h2 : hasK E k
      · rfl
      · rw [h2] at h0; simp at h0
    exact no_hit hs hf hi
theorem put_srt {E : List Ent} (hs : Srt E) (k v : ByteArray) : Srt (putL E k v) := by
  unfold putL Srt
  rw [List.pairwise_append, List.pairwise_cons]
  refine ⟨hs.take _, ⟨fun x hx => behind_gt hs hx, hs.drop _⟩, fun x hx y hy => ?_⟩
  obtain ⟨i, hi, hn, rfl⟩ := mem_take hx
  rcases List.mem_cons.1 hy with rfl | hy
  · exact pos_lt hn hi
  · exact klt_trans (pos_lt hn hi) (behind_gt hs hy)
theorem drop_srt {E : List Ent} (hs : Srt E) (k : ByteArray) : Srt (dropL E k) := by
  unfold dropL Srt
  rw [List.pairwise_append]
  refine ⟨hs.take _, hs.drop _, fun x hx y hy => ?_⟩
  obtain ⟨i, hi, hn, rfl⟩ := mem_take hx
  exact klt_trans (pos_lt hn hi) (behind_gt hs hy)
/-- A key's value. -/
def getL (E : List Ent) (k : ByteArray) : Option ByteArray := (E.find? fun x => decide (x.1 = k)).map (·.2)
theorem find_isSome (p : Ent → Bool) (l : List Ent) : (l.find? p).isSome = l.any p := by
  induction l with
  | nil => rfl
  | cons a l ih =>
    rw [List.find?_cons, List.any_cons]
    cases h : p a <;> simp [ih]
theorem get_has (E : List Ent) (k : ByteArray) : (getL E k).isSome = hasK E k := by
  unfold getL hasK
  rw [Option.isSome_map]
  exact find_isSome _ _
theorem get_at {E : List Ent} {k : ByteArray} (h : pos E k < E.length) (he : E[pos E k].1 = k) : getL E k = some E[pos E k].2 := by
  unfold getL
  have : E.find? (fun x => decide (x.1 = k)) = some E[pos E k] := by
    rw [List.find?_eq_some_iff_getElem]
    refine ⟨by simpa using he, pos E k, h, rfl, fun j hj => ?_⟩
    have := pos_ne hj (Nat.lt_trans hj h)
    simpa using this
  rw [this]; rfl
theorem get_none {E : List Ent} {k : ByteArray} (h : hasK E k = false) : getL E k = none := by
  have := get_has E k
  rw [h] at this
  exact Option.isNone_iff_eq_none.1 (by cases hg : getL E k <;> simp_all)
end Go.Proofs.YtpcdgljcpacpiaaGreatDoor
