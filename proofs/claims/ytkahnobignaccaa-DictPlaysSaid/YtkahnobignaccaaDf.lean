/- Plain facts on rows of entries: rows with rising keys are the same if the same entries stand in them; what stands in a part, behind a put, behind a drop. -/
import Derived.Test.YtkahnobignaccaaD8
namespace Go.Proofs.Ytkahnobignaccaa
theorem srt_ext : ∀ {E F : List Ent}, Srt E → Srt F → (∀ x, x ∈ E ↔ x ∈ F) → E = F
  | [], [], _, _, _ => rfl
  | [], y :: F, _, _, h => absurd ((h y).2 List.mem_cons_self) (by simp)
  | x :: E, [], _, _, h => absurd ((h x).1 List.mem_cons_self) (by simp)
  | x :: E, y :: F, hE, hF, h => by
    obtain ⟨hx, hE'⟩ := List.pairwise_cons.1 hE
    obtain ⟨hy, hF'⟩ := List.pairwise_cons.1 hF
    have e : x = y := by
      rcases List.mem_cons.1 ((h x).1 List.mem_cons_self) with h1 | h1
      · exact h1
      · rcases List.mem_cons.1 ((h y).2 List.mem_cons_self) with h2 | h2
        · exact h2.symm
        · exact absurd (hy x h1) (klt_asymm (hx y h2))
    subst e
    congr 1
    refine srt_ext hE' hF' fun z => ⟨fun hz => ?_, fun hz => ?_⟩
    · rcases List.mem_cons.1 ((h z).1 (List.mem_cons_of_mem _ hz)) with h1 | h1
      · subst h1; exact absurd (hx z hz) (klt_irrefl _)
      · exact h1
    · rcases List.mem_cons.1 ((h z).2 (List.mem_cons_of_mem _ hz)) with h1 | h1
      · subst h1; exact absurd (hy z hz) (klt_irrefl _)
      · exact h1
theorem mem_take_pos {E : List Ent} (hs : Srt E) (k : ByteArray) (x : Ent) : x ∈ E.take (pos E k) ↔ x ∈ E ∧ klt x.1 k := by
  constructor
  · intro h
    obtain ⟨i, hi, hn, rfl⟩ := mem_take h
    exact ⟨List.getElem_mem hi, pos_lt hn hi⟩
  · rintro ⟨h, hk⟩
    obtain ⟨i, hi, rfl⟩ := List.mem_iff_getElem.1 h
    rcases Nat.lt_or_ge i (pos E k) with h1 | h1
    · exact List.mem_iff_getElem.2 ⟨i, by rw [List.length_take]; omega, by rw [List.getElem_take]⟩
    · exact absurd hk (pos_ge hs h1 hi)
theorem mem_drop_pos {E : List Ent} (hs : Srt E) (k : ByteArray) (x : Ent) : x ∈ E.drop (pos E k) ↔ x ∈ E ∧ ¬ klt x.1 k := by
  constructor
  · intro h
    obtain ⟨i, hi, hn, rfl⟩ := mem_drop h
    exact ⟨List.getElem_mem hi, pos_ge hs hn hi⟩
  · rintro ⟨h, hk⟩
    obtain ⟨i, hi, rfl⟩ := List.mem_iff_getElem.1 h
    rcases Nat.lt_or_ge i (pos E k) with h1 | h1
    · exact absurd (pos_lt h1 hi) hk
    · refine List.mem_iff_getElem.2 ⟨i - pos E k, by rw [List.length_drop]; omega, ?_⟩
      rw [List.getElem_drop]
      congr 1
      omega
theorem mem_behind {E : List Ent} (hs : Srt E) (k : ByteArray) (x : Ent) : x ∈ E.drop (pos E k + hitN E k) ↔ x ∈ E ∧ klt k x.1 := by
  constructor
  · intro h
    refine ⟨List.mem_of_mem_drop h, behind_gt hs h⟩
  · rintro ⟨h, hk⟩
    obtain ⟨i, hi, rfl⟩ := List.mem_iff_getElem.1 h
    have h2 : pos E k + hitN E k ≤ i := by
      rcases Nat.lt_trichotomy i (pos E k) with h1 | h1 | h1
      · exact absurd hk (klt_asymm (pos_lt h1 hi))
      · unfold hitN
        split
        · rename_i hh
          obtain ⟨h3, h4⟩ := (has_iff hs k).1 hh
          subst h1
          rw [h4] at hk
          exact absurd hk (klt_irrefl _)
        · omega
      · unfold hitN; split <;> omega
    refine List.mem_iff_getElem.2 ⟨i - (pos E k + hitN E k), by rw [List.length_drop]; omega, ?_⟩
    rw [List.getElem_drop]
    congr 1
    omega
theorem ne_of_parts {a k : ByteArray} : (klt a k ∨ klt k a) ↔ a ≠ k := by
  constructor
  · rintro (h | h)
    · exact klt_ne h
    · exact (klt_ne h).symm
  · intro h
    by_cases h1 : klt a k
    · exact .inl h1
    · by_cases h2 : klt k a
      · exact .inr h2
      · exact absurd (klt_tri h1 h2) h
theorem mem_put {E : List Ent} (hs : Srt E) (k v : ByteArray) (x : Ent) : x ∈ putL E k v ↔ x = (k, v) ∨ (x ∈ E ∧ x.1 ≠ k) := by
  unfold putL
  rw [List.mem_append, List.mem_cons, mem_take_pos hs, mem_behind hs, ← ne_of_parts]
  grind
theorem mem_dropL {E : List Ent} (hs : Srt E) (k : ByteArray) (x : Ent) : x ∈ dropL E k ↔ x ∈ E ∧ x.1 ≠ k := by
  unfold dropL
  rw [List.mem_append, mem_take_pos hs, mem_behind hs, ← ne_of_parts]
  grind
theorem Srt.filter {E : List Ent} (hs : Srt E) (p : Ent → Bool) : Srt (E.filter p) := List.Pairwise.filter p hs
theorem filter_drop {E : List Ent} (hs : Srt E) (k : ByteArray) : E.filter (fun x => decide (x.1 ≠ k)) = dropL E k :=
  srt_ext (hs.filter _) (drop_srt hs k) fun x => by rw [List.mem_filter, mem_dropL hs, decide_eq_true_eq]
theorem filter_drop_lt {E : List Ent} (hs : Srt E) (k : ByteArray) : decide ((E.filter (fun x => decide (x.1 ≠ k))).length < E.length) = hasK E k := by
  rw [filter_drop hs]
  have := drop_len hs k
  unfold hitN at this
  cases h : hasK E k <;> rw [h] at this <;> simp at this ⊢ <;> omega
theorem pos_mono {E : List Ent} (hs : Srt E) (a b : ByteArray) (x : Ent) : x ∈ (E.take (pos E b)).drop (pos E a) ↔ x ∈ E ∧ ¬ klt x.1 a ∧ klt x.1 b := by
  constructor
  · intro h
    have h1 := (mem_take_pos hs b x).1 (List.mem_of_mem_drop h)
    refine ⟨h1.1, ?_, h1.2⟩
    rw [List.drop_take] at h
    exact ((mem_drop_pos hs a x).1 (List.mem_of_mem_take h)).2
  · rintro ⟨h, ha, hb⟩
    obtain ⟨i, hi, rfl⟩ := List.mem_iff_getElem.1 h
    have h1 : i < pos E b := by
      rcases Nat.lt_or_ge i (pos E b) with h1 | h1
      · exact h1
      · exact absurd hb (pos_ge hs h1 hi)
    have h2 : pos E a ≤ i := by
      rcases Nat.lt_or_ge i (pos E a) with h2 | h2
      · exact absurd (pos_lt h2 hi) ha
      · exact h2
    refine List.mem_iff_getElem.2 ⟨i - pos E a, by rw [List.length_drop, List.length_take]; omega, ?_⟩
    rw [List.getElem_drop, List.getElem_take]
    congr 1
    omega
theorem range_srt {E : List Ent} (hs : Srt E) (a b : ByteArray) : Srt ((E.take (pos E b)).drop (pos E a)) := (hs.take _).drop _
theorem filter_range {E : List Ent} (hs : Srt E) (a b : ByteArray) : E.filter (fun x => (!decide (klt x.1 a) && decide (klt x.1 b))) = (E.take (pos E b)).drop (pos E a) :=
  srt_ext (hs.filter _) (range_srt hs a b) fun x => by rw [List.mem_filter, pos_mono hs]; simp
theorem pre_between : ∀ (p x y : List UInt8), ¬ x < p → x < y → p.isPrefixOf y = true → p.isPrefixOf x = true
  | [], _, _, _, _, _ => by simp
  | a :: p, [], _, h, _, _ => absurd (List.nil_lt_cons a p) h
  | a :: p, b :: x, [], _, h, _ => by simp at h
  | a :: p, b :: x, c :: y, h, h2, h3 => by
    simp only [List.isPrefixOf_cons_cons, Bool.and_eq_true, beq_iff_eq] at h3 ⊢
    obtain ⟨rfl, h4⟩ := h3
    simp only [List.cons_lt_cons_iff] at h h2
    rcases h2 with h2 | ⟨rfl, h2⟩
    · exact absurd (.inl h2) h
    · exact ⟨rfl, pre_between p x y (fun hx => h (.inr ⟨rfl, hx⟩)) h2 h4⟩
theorem pre_ge : ∀ (p x : List UInt8), p.isPrefixOf x = true → ¬ x < p
  | [], _, _ => by simp
  | a :: p, [], h => by simp at h
  | a :: p, b :: x, h => by
    simp only [List.isPrefixOf_cons_cons, Bool.and_eq_true, beq_iff_eq] at h
    obtain ⟨rfl, h⟩ := h
    simp only [List.cons_lt_cons_iff]
    rintro (h2 | ⟨_, h2⟩)
    · exact absurd h2 (UInt8.lt_irrefl _)
    · exact pre_ge p x h h2
theorem tw_filter (f : Ent → Bool) : ∀ (E : List Ent), E.Pairwise (fun x y => f y = true → f x = true) → E.takeWhile f = E.filter f
  | [], _ => rfl
  | x :: E, h => by
    obtain ⟨h1, h2⟩ := List.pairwise_cons.1 h
    rw [List.takeWhile_cons, List.filter_cons]
    cases hf : f x with
    | true => simp [tw_filter f E h2]
    | false =>
      have : E.filter f = [] := by
        rw [List.filter_eq_nil_iff]
        intro y hy hfy
        have := h1 y hy hfy
        rw [hf] at this
        cases this
      simp [this]
theorem filter_under {E : List Ent} (hs : Srt E) (p : ByteArray) : E.filter (fun x => hp x.1 p) = underL E p := by
  unfold underL
  rw [tw_filter]
  · refine srt_ext (hs.filter _) ((hs.drop _).filter _) fun x => ?_
    rw [List.mem_filter, List.mem_filter, mem_drop_pos hs]
    constructor
    · rintro ⟨h1, h2⟩
      exact ⟨⟨h1, pre_ge _ _ h2⟩, h2⟩
    · rintro ⟨⟨h1, _⟩, h2⟩
      exact ⟨h1, h2⟩
  · have hd := hs.drop (pos E p)
    refine List.Pairwise.imp_of_mem (fun {x y} hx hy hxy hp2 => ?_) hd
    have hx1 := ((mem_drop_pos hs p x).1 hx).2
    exact pre_between _ _ _ hx1 hxy hp2
theorem under_srt {E : List Ent} (hs : Srt E) (p : ByteArray) : Srt (underL E p) := by rw [← filter_under hs]; exact hs.filter _
theorem get_iff {E : List Ent} (hs : Srt E) (k v : ByteArray) : getL E k = some v ↔ (k, v) ∈ E := by
  cases hh : hasK E k with
  | true =>
    obtain ⟨h1, h2⟩ := (has_iff hs k).1 hh
    rw [get_at h1 h2]
    constructor
    · intro h
      have h3 : E[pos E k].2 = v := Option.some.inj h
      have : E[pos E k] = (k, v) := Prod.ext h2 h3
      rw [← this]
      exact List.getElem_mem h1
    · intro h
      obtain ⟨i, hi, he⟩ := List.mem_iff_getElem.1 h
      have hk : E[i].1 = k := by rw [he]
      rcases Nat.lt_trichotomy i (pos E k) with h3 | h3 | h3
      · exact absurd hk (pos_ne h3 hi)
      · subst h3; rw [he]
      · exact absurd hk (pos_ne' hs h3 hi)
  | false =>
    rw [get_none hh]
    constructor
    · intro h; cases h
    · intro h
      have : hasK E k = true := List.any_eq_true.2 ⟨_, h, by simp⟩
      rw [hh] at this; cases this
end Go.Proofs.Ytkahnobignaccaa
