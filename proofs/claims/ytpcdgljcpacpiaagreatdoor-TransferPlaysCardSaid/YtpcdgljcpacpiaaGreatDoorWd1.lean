/- Plain facts: comparison digit by digit; differences. -/
import Derived.Test.YtpcdgljcpacpiaaGreatDoorWd0
namespace Go.Proofs.YtpcdgljcpacpiaaGreatDoor
open Go.RowKit
def cmpI (n m : Nat) : Int := if n < m then -1 else if m < n then 1 else 0
theorem div_step (n k : Nat) : n / 256 ^ k = 256 * (n / 256 ^ (k + 1)) + n / 256 ^ k % 256 := by
  rw [Nat.pow_succ, ← Nat.div_div_eq_div_mul]; omega
theorem lt_of_div {n m p : Nat} (h : n / p < m / p) : n < m := by
  rcases Nat.lt_or_ge n m with h1 | h1
  · exact h1
  · have := Nat.div_le_div_right (c := p) h1; omega
theorem cmp_lt {n m k : Nat} (h : n / 256 ^ (k + 1) = m / 256 ^ (k + 1)) (hd : dig n k < dig m k) : n < m := by
  have a := div_step n k
  have b := div_step m k
  unfold dig at hd
  exact lt_of_div (p := 256 ^ k) (by omega)
theorem cmp_eq {n m k : Nat} (h : n / 256 ^ (k + 1) = m / 256 ^ (k + 1)) (h1 : ¬ dig n k < dig m k) (h2 : ¬ dig m k < dig n k) : n / 256 ^ k = m / 256 ^ k := by
  have a := div_step n k
  have b := div_step m k
  unfold dig at h1 h2
  omega
theorem cmpI_lt {n m : Nat} (h : n < m) : cmpI n m = -1 := by simp [cmpI, h]
theorem cmpI_gt {n m : Nat} (h : m < n) : cmpI n m = 1 := by
  have : ¬ n < m := by omega
  simp [cmpI, h, this]
theorem cmpI_eq {n m : Nat} (h : n = m) : cmpI n m = 0 := by subst h; simp [cmpI]
theorem own_drewN {w : World} {base : Nat} {e : TypeId} {size : Nat} {v : Value} {n : Nat} {xs : List Value} (h : w.ownsRow base e size v n xs) (q : Nat) : (w.drewN q).ownsRow base e size v n xs := h
theorem own_drew {w : World} {base : Nat} {e : TypeId} {size : Nat} {v : Value} {n : Nat} {xs : List Value} (h : w.ownsRow base e size v n xs) : w.drew.ownsRow base e size v n xs := h
theorem below_from_drewN {B : Nat} {w w' : World} {q : Nat} (h : Below B (w.drewN q) w') : Below B w w' := ⟨h.os, h.tape, h.output, h.size, h.block⟩
theorem below_from_drew {B : Nat} {w w' : World} (h : Below B w.drew w') : Below B w w' := ⟨h.os, h.tape, h.output, h.size, h.block⟩
theorem below_drewN {B : Nat} {a w : World} (h : Below B a w) (n : Nat) : Below B a (w.drewN n) := ⟨h.os, h.tape, h.output, h.size, h.block⟩
/-- What is owed into place k of a difference. -/
def ow (n m k : Nat) : Nat := if n % 256 ^ k < m % 256 ^ k then 1 else 0
theorem ow_zero (n m : Nat) : ow n m 0 = 0 := by simp [ow, Nat.mod_one]
theorem ow_le (n m k : Nat) : ow n m k ≤ 1 := by unfold ow; split <;> omega
theorem ow_top (n m : Nat) (hn : n < 256 ^ 32) (hm : m < 256 ^ 32) (h : m ≤ n) : ow n m 32 = 0 := by
  unfold ow; rw [Nat.mod_eq_of_lt hn, Nat.mod_eq_of_lt hm, if_neg (by omega)]
/-- The digits of a difference. -/
theorem ow_step (n m k : Nat) (h : m ≤ n) :
    (n - m) / 256 ^ k % 256 = (n / 256 ^ k % 256 + 512 - m / 256 ^ k % 256 - ow n m k) % 256 ∧ (ow n m (k + 1) = if n / 256 ^ k % 256 < m / 256 ^ k % 256 + ow n m k then 1 else 0) := by
  have hp : 0 < 256 ^ k := Nat.pow_pos (by decide)
  have a := Nat.div_add_mod n (256 ^ k)
  have b := Nat.div_add_mod m (256 ^ k)
  have c := Nat.mod_lt n hp
  have d := Nat.mod_lt m hp
  have hdle : m / 256 ^ k ≤ n / 256 ^ k := Nat.div_le_div_right h
  have hp2 : 256 ^ k * (m / 256 ^ k) ≤ 256 ^ k * (n / 256 ^ k) := Nat.mul_le_mul_left _ hdle
  constructor
  · have hq : (n - m) / 256 ^ k = n / 256 ^ k - m / 256 ^ k - ow n m k := by
      unfold ow
      split
      · rename_i hl
        have hne : m / 256 ^ k < n / 256 ^ k := by
          rcases Nat.lt_or_ge (m / 256 ^ k) (n / 256 ^ k) with h1 | h1
          · exact h1
          · have e : n / 256 ^ k = m / 256 ^ k := by omega
            rw [e] at a; omega
        obtain ⟨q, hq⟩ : ∃ q, n / 256 ^ k = m / 256 ^ k + 1 + q := ⟨n / 256 ^ k - m / 256 ^ k - 1, by omega⟩
        have e : n - m = 256 ^ k * q + (256 ^ k + n % 256 ^ k - m % 256 ^ k) := by
          rw [hq, Nat.mul_add, Nat.mul_add] at a
          omega
        rw [e, Nat.mul_add_div hp, Nat.div_eq_of_lt (by omega), hq]; omega
      · rename_i hl
        obtain ⟨q, hq⟩ : ∃ q, n / 256 ^ k = m / 256 ^ k + q := ⟨n / 256 ^ k - m / 256 ^ k, by omega⟩
        have e : n - m = 256 ^ k * q + (n % 256 ^ k - m % 256 ^ k) := by
          rw [hq, Nat.mul_add] at a
          omega
        rw [e, Nat.mul_add_div hp, Nat.div_eq_of_lt (by omega), hq]; omega
    have hle : m / 256 ^ k + ow n m k ≤ n / 256 ^ k := by
      unfold ow
      split
      · rename_i hl
        rcases Nat.lt_or_ge (m / 256 ^ k) (n / 256 ^ k) with h1 | h1
        · omega
        · have e : n / 256 ^ k = m / 256 ^ k := by omega
          rw [e] at a; omega
      · omega
    have := ow_le n m k
    rw [hq]
    omega
  · have := ow_le n m k
    have e1 : n % 256 ^ (k + 1) = n % 256 ^ k + 256 ^ k * (n / 256 ^ k % 256) := by rw [Nat.pow_succ, Nat.mod_mul]
    have e2 : m % 256 ^ (k + 1) = m % 256 ^ k + 256 ^ k * (m / 256 ^ k % 256) := by rw [Nat.pow_succ, Nat.mod_mul]
    have key : (n % 256 ^ (k + 1) < m % 256 ^ (k + 1)) ↔ (n / 256 ^ k % 256 < m / 256 ^ k % 256 + ow n m k) := by
      rw [e1, e2]
      generalize n / 256 ^ k % 256 = x
      generalize m / 256 ^ k % 256 = y
      have mul_lt : ∀ {x y : Nat}, x < y → 256 ^ k * x + 256 ^ k ≤ 256 ^ k * y := fun {x y} hxy => by
        have := Nat.mul_le_mul_left (256 ^ k) (show x + 1 ≤ y from hxy)
        rw [Nat.mul_add, Nat.mul_one] at this; exact this
      unfold ow
      rcases Nat.lt_trichotomy x y with hxy | hxy | hxy
      · have := mul_lt hxy
        constructor
        · intro _; split <;> omega
        · intro _; omega
      · subst hxy
        split <;> constructor <;> intro _ <;> omega
      · have := mul_lt hxy
        constructor
        · intro _; omega
        · intro h; split at h <;> omega
    show (if _ then 1 else 0) = _
    by_cases hk : n / 256 ^ k % 256 < m / 256 ^ k % 256 + ow n m k
    · rw [if_pos hk, if_pos (key.2 hk)]
    · rw [if_neg hk, if_neg (fun h => hk (key.1 h))]
/-- One step of the difference, in the form in which Go counts it. -/
theorem dig_diff (n m k : Nat) (h : m ≤ n) :
    (dig n k - dig m k - (ow n m k : Int) < 0 → dig n k - dig m k - (ow n m k : Int) + 256 = dig (n - m) k ∧ ow n m (k + 1) = 1) ∧
    (¬ dig n k - dig m k - (ow n m k : Int) < 0 → dig n k - dig m k - (ow n m k : Int) = dig (n - m) k ∧ ow n m (k + 1) = 0) := by
  obtain ⟨h1, h2⟩ := ow_step n m k h
  have := ow_le n m k
  unfold dig
  constructor
  · intro hn
    rw [h2, if_pos (by omega)]
    exact ⟨by omega, rfl⟩
  · intro hn
    rw [h2, if_neg (by omega)]
    exact ⟨by omega, rfl⟩

/-- The first, the second, the third of the call's new blocks, behind whatever follows. -/
theorem blk1 (w : World) (t : TypeId) (cs : Array Value) : Blk (w.alloc (.cells cs t)) w.heap.size t cs := Blk.new w t cs
theorem blk2 (w : World) (o : Obj) (t : TypeId) (cs : Array Value) : Blk ((w.alloc o).alloc (.cells cs t)) (w.heap.size + 1) t cs := by
  have := Blk.new (w.alloc o) t cs; simpa using this
theorem blk3 (w : World) (o o' : Obj) (t : TypeId) (cs : Array Value) : Blk (((w.alloc o).alloc o').alloc (.cells cs t)) (w.heap.size + 1 + 1) t cs := by
  have := Blk.new ((w.alloc o).alloc o') t cs; simpa using this
theorem blk4 (w : World) (o o' o'' : Obj) (t : TypeId) (cs : Array Value) : Blk ((((w.alloc o).alloc o').alloc o'').alloc (.cells cs t)) (w.heap.size + 1 + 1 + 1) t cs := by
  have := Blk.new (((w.alloc o).alloc o').alloc o'') t cs; simpa using this
/-- A whole array of four is stored. -/
theorem Blk.store4 {w : World} {g : Nat} {t : TypeId} {p q r s : Value} (h : Blk w g t #[p, q, r, s]) (a b c d : Value) :
    Blk ((((w.setCell ⟨g, 0, none⟩ a).setCell ⟨g, 1, none⟩ b).setCell ⟨g, 2, none⟩ c).setCell ⟨g, 3, none⟩ d) g t #[a, b, c, d] := by
  simpa using (((h.set_ 0 a).set_ 1 b).set_ 2 c).set_ 3 d
theorem below_store4 {B : Nat} {a w : World} (h : Below B a w) {g : Nat} (hg : B ≤ g) (p q r s : Value) :
    Below B a ((((w.setCell ⟨g, 0, none⟩ p).setCell ⟨g, 1, none⟩ q).setCell ⟨g, 2, none⟩ r).setCell ⟨g, 3, none⟩ s) :=
  (((h.setCell hg _).setCell hg _).setCell hg _).setCell hg _
end Go.Proofs.YtpcdgljcpacpiaaGreatDoor
