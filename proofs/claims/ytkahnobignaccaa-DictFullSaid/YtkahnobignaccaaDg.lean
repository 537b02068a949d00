/- Plain facts on rows of entries: what is asked behind a put and a drop. -/
import Derived.Test.YtkahnobignaccaaD12
import Derived.Test.YtkahnobignaccaaDf
namespace Go.Proofs.Ytkahnobignaccaa
theorem stepL_len {E : List Ent} (x : Ent) (hs : Srt E) : (stepL E x).length ≤ E.length + 1 := by
  unfold stepL
  split
  · have := put_len hs x.1 x.2; omega
  · omega
theorem ofL_len (L : List Ent) : (ofL L).length ≤ L.length := by
  suffices h : ∀ (L E : List Ent), Srt E → E.length ≤ 2000 → (L.foldl stepL E).length ≤ E.length + L.length by
    have := h L [] List.Pairwise.nil (by decide)
    simpa [ofL] using this
  intro L
  induction L with
  | nil => intro E _ _; simp
  | cons x L ih =>
    intro E hs hl
    have h1 := stepL_inv x hs hl
    have h2 := ih _ h1.1 h1.2
    have h3 := stepL_len x hs
    simp only [List.foldl_cons, List.length_cons]
    omega
theorem few_len (L : List Ent) : (ofL (fewL L)).length ≤ 20 := by
  refine Nat.le_trans (ofL_len _) ?_
  unfold fewL
  rw [List.length_map, List.length_take]
  omega
theorem has_get {E F : List Ent} {a b : ByteArray} (h : getL E a = getL F b) : hasK E a = hasK F b := by
  rw [← get_has, ← get_has, h]
theorem get_put {E : List Ent} (hs : Srt E) (k v : ByteArray) : getL (putL E k v) k = some v :=
  (get_iff (put_srt hs k v) k v).2 ((mem_put hs k v _).2 (.inl rfl))
theorem get_put_ne {E : List Ent} (hs : Srt E) (k v : ByteArray) {o : ByteArray} (h : o ≠ k) : getL (putL E k v) o = getL E o := by
  apply Option.ext
  intro y
  rw [get_iff (put_srt hs k v), get_iff hs, mem_put hs]
  constructor
  · rintro (h1 | ⟨h1, _⟩)
    · exact absurd (congrArg Prod.fst h1) h
    · exact h1
  · intro h1; exact .inr ⟨h1, h⟩
theorem get_drop {E : List Ent} (hs : Srt E) (k : ByteArray) : getL (dropL E k) k = none := by
  cases h : getL (dropL E k) k with
  | none => rfl
  | some v => exact absurd rfl ((mem_dropL hs k _).1 ((get_iff (drop_srt hs k) k v).1 h)).2
theorem put_same {E : List Ent} (hs : Srt E) (k v : ByteArray) : E = putL E k v ↔ getL E k = some v := by
  constructor
  · intro h
    have := get_put hs k v
    rw [← h] at this
    exact this
  · intro h
    have hm := (get_iff hs k v).1 h
    refine srt_ext hs (put_srt hs k v) fun x => ?_
    rw [mem_put hs]
    constructor
    · intro hx
      by_cases hk : x.1 = k
      · left
        have h1 := (get_iff hs x.1 x.2).2 hx
        rw [hk, h] at h1
        exact Prod.ext hk (Option.some.inj h1).symm
      · exact .inr ⟨hx, hk⟩
    · rintro (rfl | ⟨hx, _⟩)
      · exact hm
      · exact hx
theorem drop_put {E : List Ent} (hs : Srt E) (k v : ByteArray) : dropL (putL E k v) k = E ↔ hasK E k = false := by
  constructor
  · intro h
    have := get_drop (put_srt hs k v) k
    rw [h] at this
    rw [← get_has, this]; rfl
  · intro h
    have hn := get_none h
    refine srt_ext (drop_srt (put_srt hs k v) k) hs fun x => ?_
    rw [mem_dropL (put_srt hs k v), mem_put hs]
    constructor
    · rintro ⟨rfl | ⟨hx, _⟩, h2⟩
      · exact absurd rfl h2
      · exact hx
    · intro hx
      have hk : x.1 ≠ k := by
        intro e
        have := (get_iff hs x.1 x.2).2 hx
        rw [e, hn] at this
        cases this
      exact ⟨.inr ⟨hx, hk⟩, hk⟩
end Go.Proofs.Ytkahnobignaccaa
