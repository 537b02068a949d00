/- Plain facts on rows of entries: a map hangs on which entries were put, not on their order. -/
import Derived.Test.YtkahnobignaccaaDg
namespace Go.Proofs.Ytkahnobignaccaa
theorem mem_step {E : List Ent} (hs : Srt E) (y x : Ent) (h : x ∈ stepL E y) : x = y ∨ x ∈ E := by
  unfold stepL at h
  split at h
  · rcases (mem_put hs y.1 y.2 x).1 h with h1 | h1
    · exact .inl h1
    · exact .inr h1.1
  · exact .inr h
theorem mem_ofL {L : List Ent} {x : Ent} (h : x ∈ ofL L) : x ∈ L := by
  suffices H : ∀ (L E : List Ent), Srt E → E.length ≤ 2000 → x ∈ L.foldl stepL E → x ∈ E ∨ x ∈ L by
    rcases H L [] List.Pairwise.nil (by decide) h with h1 | h1
    · cases h1
    · exact h1
  intro L
  induction L with
  | nil => intro E _ _ h; exact .inl h
  | cons y L ih =>
    intro E hs hl h
    have h1 := stepL_inv y hs hl
    rcases ih _ h1.1 h1.2 h with h2 | h2
    · rcases mem_step hs y x h2 with h3 | h3
      · exact .inr (by rw [h3]; exact List.mem_cons_self)
      · exact .inl h3
    · exact .inr (List.mem_cons_of_mem _ h2)
/-- Small texts. -/
def Sm (L : List Ent) : Prop := ∀ x ∈ L, x.1.size ≤ 12 ∧ x.2.size ≤ 12
theorem few_sm (L : List Ent) : Sm (fewL L) := by
  intro x hx
  unfold fewL at hx
  obtain ⟨y, _, rfl⟩ := List.mem_map.1 hx
  exact ⟨sh_size _, sh_size _⟩
theorem of_sm {L : List Ent} (h : Sm L) : Sm (ofL L) := fun x hx => h x (mem_ofL hx)
theorem step_put {E : List Ent} {y : Ent} (h1 : y.1.size ≤ 12 ∧ y.2.size ≤ 12) (hl : E.length < 2000) : stepL E y = putL E y.1 y.2 := by
  unfold stepL
  rw [if_pos ⟨by omega, by omega, .inr hl⟩]
/-- Where a key has one entry alone, all entries stand in the map. -/
theorem mem_of_fun (L : List Ent) (hsm : Sm L) (hl : L.length < 2000) (hf : ∀ x ∈ L, ∀ y ∈ L, x.1 = y.1 → x = y) (x : Ent) : x ∈ ofL L ↔ x ∈ L := by
  suffices H : ∀ n, n ≤ L.length → (x ∈ ofL (L.take n) ↔ x ∈ L.take n) by
    have := H L.length (Nat.le_refl _)
    rwa [List.take_length] at this
  intro n
  induction n with
  | zero => intro _; simp [ofL]
  | succ n ih =>
    intro hn
    have hlt : n < L.length := hn
    have hm : L[n] ∈ L := List.getElem_mem hlt
    obtain ⟨hs, h2⟩ := ofL_inv (L.take n)
    have hlen := ofL_len (L.take n)
    rw [List.length_take] at hlen
    rw [List.take_succ_eq_append_getElem hlt, ofL_snoc, step_put (hsm _ hm) (by omega), mem_put hs, ih (by omega), List.mem_append, List.mem_singleton]
    constructor
    · rintro (h | ⟨h, _⟩)
      · exact .inr h
      · exact .inl h
    · rintro (h | h)
      · by_cases hk : x.1 = L[n].1
        · exact .inl (hf x (List.mem_of_mem_take h) _ hm hk)
        · exact .inr ⟨h, hk⟩
      · exact .inl h
theorem srt_fun {E : List Ent} (hs : Srt E) : ∀ x ∈ E, ∀ y ∈ E, x.1 = y.1 → x = y := by
  intro x hx y hy h
  have h1 := (get_iff hs x.1 x.2).2 hx
  have h2 := (get_iff hs y.1 y.2).2 hy
  rw [h, h2] at h1
  exact Prod.ext h (Option.some.inj h1).symm
/-- Entries of a map, put again in whatever order, make the map again. -/
theorem of_again {E L : List Ent} (hs : Srt E) (hsm : Sm E) (hl : L.length < 2000) (h : ∀ x, x ∈ L ↔ x ∈ E) : ofL L = E := by
  refine srt_ext (ofL_inv L).1 hs fun x => ?_
  rw [mem_of_fun L (fun x hx => hsm x ((h x).1 hx)) hl (fun x hx y hy => srt_fun hs x ((h x).1 hx) y ((h y).1 hy)), h]
end Go.Proofs.Ytkahnobignaccaa
