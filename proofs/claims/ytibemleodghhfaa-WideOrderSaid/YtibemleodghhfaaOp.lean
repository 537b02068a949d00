/- Plain facts: the order of bytes is that of numbers. -/
import Derived.Test.YtibemleodghhfaaWrites
namespace Go.Proofs.Ytibemleodghhfaa
open Go.RowKit
theorem unb_cons (c : UInt8) (l : List UInt8) : unb (c :: l) = unb l + c.toNat * 256 ^ l.length := by
  unfold unb
  rw [List.reverse_cons, List.map_append, List.map_cons, List.map_nil, vl_snoc]
  simp
theorem unb_lt' (l : List UInt8) : unb l < 256 ^ l.length := by
  have h1 := vl_lt (l.reverse.map UInt8.toNat) (by intro d hd; simp at hd; obtain ⟨x, _, rfl⟩ := hd; exact UInt8.toNat_lt x)
  simpa [unb] using h1
theorem bl_iff (l : List UInt8) : ∀ m : List UInt8, l.length = m.length → Op.bytesLess l m = decide (unb l < unb m) := by
  induction l with
  | nil =>
    intro m h
    rcases m with _ | ⟨b, m⟩
    · simp [Op.bytesLess]
    · simp at h
  | cons a l ih =>
    intro m h
    rcases m with _ | ⟨b, m⟩
    · simp at h
    · have hl : l.length = m.length := by simpa using h
      simp only [Op.bytesLess]
      rw [ih m hl, unb_cons, unb_cons, hl]
      have h1 := unb_lt' l
      have h2 := unb_lt' m
      rw [hl] at h1
      generalize 256 ^ m.length = p at *
      generalize unb l = x at *
      generalize unb m = y at *
      rw [Bool.eq_iff_iff]
      simp only [Bool.or_eq_true, Bool.and_eq_true, decide_eq_true_eq, beq_iff_eq, UInt8.lt_iff_toNat_lt]
      have hab : (a = b) ↔ a.toNat = b.toNat := UInt8.toNat_inj.symm
      rw [hab]
      generalize a.toNat = i
      generalize b.toNat = j
      constructor
      · rintro (h | ⟨rfl, h⟩)
        · have : (i + 1) * p ≤ j * p := Nat.mul_le_mul_right _ h
          rw [Nat.add_mul] at this
          omega
        · omega
      · intro h
        rcases Nat.lt_trichotomy i j with hh | rfl | hh
        · exact .inl hh
        · exact .inr ⟨rfl, by omega⟩
        · exfalso
          have : (j + 1) * p ≤ i * p := Nat.mul_le_mul_right _ hh
          rw [Nat.add_mul] at this
          omega
theorem bys_less (n m : Nat) (hn : W256 n) (hm : W256 m) : Op.bytesLess (bys n) (bys m) = decide (n < m) := by
  rw [bl_iff _ _ (by rw [bys_len, bys_len]), unb_bys n hn, unb_bys m hm]
theorem bys_same (n m : Nat) (hn : W256 n) (hm : W256 m) : (bys n == bys m) = decide (n = m) := by
  rw [Bool.eq_iff_iff]
  simp only [beq_iff_eq, decide_eq_true_eq]
  constructor
  · intro h
    have := unb_bys n hn
    rw [h, unb_bys m hm] at this
    exact this.symm
  · intro h; rw [h]
end Go.Proofs.Ytibemleodghhfaa
