/- Plain facts: sums, differences and products by limbs of 64 bits. -/
import Derived.Test.YtibemleodghhfaaWd2
import Derived.Laws.Externs
namespace Go.Proofs.Ytibemleodghhfaa
open Go.RowKit
/-- The carry into place k of a sum, to the base b. -/
def cyB (b n m k : Nat) : Nat := (n % b ^ k + m % b ^ k) / b ^ k
theorem cyB_zero (b n m : Nat) : cyB b n m 0 = 0 := by simp [cyB, Nat.mod_one]
theorem cyB_step (b n m k : Nat) (hb : 0 < b) : n / b ^ k % b + m / b ^ k % b + cyB b n m k = (n + m) / b ^ k % b + b * cyB b n m (k + 1) := by
  have hp : 0 < b ^ k := Nat.pow_pos hb
  have h1 : (n + m) / b ^ k = n / b ^ k + m / b ^ k + cyB b n m k := by
    have e : n + m = n % b ^ k + m % b ^ k + b ^ k * (n / b ^ k + m / b ^ k) := by
      have a := Nat.div_add_mod n (b ^ k)
      have c := Nat.div_add_mod m (b ^ k)
      rw [Nat.mul_add]; omega
    have := Nat.add_mul_div_left (n % b ^ k + m % b ^ k) (n / b ^ k + m / b ^ k) hp
    rw [← e] at this
    rw [this]; unfold cyB; omega
  have h2 : cyB b n m (k + 1) = (n / b ^ k % b + m / b ^ k % b + cyB b n m k) / b := by
    have e : n % b ^ (k + 1) + m % b ^ (k + 1) = n % b ^ k + m % b ^ k + b ^ k * (n / b ^ k % b + m / b ^ k % b) := by
      rw [Nat.pow_succ, Nat.mod_mul, Nat.mod_mul, Nat.mul_add]; omega
    have := Nat.add_mul_div_left (n % b ^ k + m % b ^ k) (n / b ^ k % b + m / b ^ k % b) hp
    unfold cyB
    rw [e, Nat.pow_succ, ← Nat.div_div_eq_div_mul, this]
    congr 1; omega
  rw [h1, h2]
  generalize n / b ^ k = x
  generalize m / b ^ k = y
  generalize cyB b n m k = c
  have e1 := Nat.div_add_mod (x + y + c) b
  have e2 := Nat.div_add_mod (x % b + y % b + c) b
  have e3 : (x % b + y % b + c) % b = (x + y + c) % b := by
    rw [Nat.add_mod (x % b + y % b), Nat.add_mod (x % b), Nat.mod_mod, Nat.mod_mod, ← Nat.add_mod x, ← Nat.add_mod (x + y)]
  omega
theorem cyB_le (b n m k : Nat) (hb : 0 < b) : cyB b n m k ≤ 1 := by
  have hp : 0 < b ^ k := Nat.pow_pos hb
  have a := Nat.mod_lt n hp
  have c := Nat.mod_lt m hp
  unfold cyB
  have : n % b ^ k + m % b ^ k < 2 * b ^ k := by omega
  have := (Nat.div_lt_iff_lt_mul hp).2 this
  omega
def cyL (n m k : Nat) : Nat := cyB 18446744073709551616 n m k
theorem cyL_le (n m k : Nat) : cyL n m k ≤ 1 := cyB_le _ _ _ _ (by decide)
theorem pow4 : (18446744073709551616 : Nat) ^ 4 = 256 ^ 32 := by decide
theorem cyL_top (n m : Nat) (hn : n < 256 ^ 32) (hm : m < 256 ^ 32) : cyL n m 4 = (n + m) / 256 ^ 32 := by
  unfold cyL cyB
  rw [pow4, Nat.mod_eq_of_lt hn, Nat.mod_eq_of_lt hm]
theorem limb_sum (n m k : Nat) : (limb n k + limb m k + (cyL n m k : Int)) % 18446744073709551616 = limb (n + m) k ∧ (limb n k + limb m k + (cyL n m k : Int)) / 18446744073709551616 = (cyL n m (k + 1) : Int) := by
  have h := cyB_step 18446744073709551616 n m k (by decide)
  unfold limb cyL
  constructor <;> omega
/-- What is owed into place k of a difference, to the base 2^64. -/
def owL (n m k : Nat) : Nat := if n % 18446744073709551616 ^ k < m % 18446744073709551616 ^ k then 1 else 0
theorem owL_zero (n m : Nat) : owL n m 0 = 0 := by simp [owL, Nat.mod_one]
theorem owL_le (n m k : Nat) : owL n m k ≤ 1 := by unfold owL; split <;> omega
theorem owL_top (n m : Nat) (hn : n < 256 ^ 32) (hm : m < 256 ^ 32) : owL n m 4 = if n < m then 1 else 0 := by
  unfold owL; rw [pow4, Nat.mod_eq_of_lt hn, Nat.mod_eq_of_lt hm]
theorem owL_step (n m k : Nat) : owL n m (k + 1) = if n / 18446744073709551616 ^ k % 18446744073709551616 < m / 18446744073709551616 ^ k % 18446744073709551616 + owL n m k then 1 else 0 := by
  have hp : 0 < 18446744073709551616 ^ k := Nat.pow_pos (by decide)
  have c := Nat.mod_lt n hp
  have d := Nat.mod_lt m hp
  have := owL_le n m k
  have e1 : n % 18446744073709551616 ^ (k + 1) = n % 18446744073709551616 ^ k + 18446744073709551616 ^ k * (n / 18446744073709551616 ^ k % 18446744073709551616) := by rw [Nat.pow_succ, Nat.mod_mul]
  have e2 : m % 18446744073709551616 ^ (k + 1) = m % 18446744073709551616 ^ k + 18446744073709551616 ^ k * (m / 18446744073709551616 ^ k % 18446744073709551616) := by rw [Nat.pow_succ, Nat.mod_mul]
  have key : (n % 18446744073709551616 ^ (k + 1) < m % 18446744073709551616 ^ (k + 1)) ↔ (n / 18446744073709551616 ^ k % 18446744073709551616 < m / 18446744073709551616 ^ k % 18446744073709551616 + owL n m k) := by
    rw [e1, e2]
    generalize n / 18446744073709551616 ^ k % 18446744073709551616 = x
    generalize m / 18446744073709551616 ^ k % 18446744073709551616 = y
    unfold owL
    generalize n % 18446744073709551616 ^ k = u at *
    generalize m % 18446744073709551616 ^ k = v at *
    generalize 18446744073709551616 ^ k = p at *
    have mul_lt : ∀ {x y : Nat}, x < y → p * x + p ≤ p * y := fun {x y} hxy => by
      have := Nat.mul_le_mul_left p (show x + 1 ≤ y from hxy)
      rw [Nat.mul_add, Nat.mul_one] at this; exact this
    rcases Nat.lt_trichotomy x y with hxy | hxy | hxy
    · have := mul_lt hxy
      constructor
      · intro _; split <;> omega
      · intro _; omega
    · subst hxy
      split <;> constructor <;> intro _ <;> omega
    · have := mul_lt hxy
      constructor
      · intro _; omega
      · intro h; split at h <;> omega
  show (if _ then 1 else 0) = _
  by_cases hk : n / 18446744073709551616 ^ k % 18446744073709551616 < m / 18446744073709551616 ^ k % 18446744073709551616 + owL n m k
  · rw [if_pos hk, if_pos (key.2 hk)]
  · rw [if_neg hk, if_neg (fun h => hk (key.1 h))]
/-- The limbs of a difference: those of n less m, where n is not the less. -/
theorem limb_diff (n m k : Nat) (h : m ≤ n) : (limb n k + 18446744073709551616 - limb m k - (owL n m k : Int)) % 18446744073709551616 = limb (n - m) k := by
  have hp : 0 < 18446744073709551616 ^ k := Nat.pow_pos (by decide)
  have a := Nat.div_add_mod n (18446744073709551616 ^ k)
  have b := Nat.div_add_mod m (18446744073709551616 ^ k)
  have c := Nat.mod_lt n hp
  have d := Nat.mod_lt m hp
  have hdle : m / 18446744073709551616 ^ k ≤ n / 18446744073709551616 ^ k := Nat.div_le_div_right h
  have hp2 := Nat.mul_le_mul_left (18446744073709551616 ^ k) hdle
  have hle : m / 18446744073709551616 ^ k + owL n m k ≤ n / 18446744073709551616 ^ k := by
    unfold owL
    split
    · rename_i hl
      rcases Nat.lt_or_ge (m / 18446744073709551616 ^ k) (n / 18446744073709551616 ^ k) with h1 | h1
      · omega
      · have e : n / 18446744073709551616 ^ k = m / 18446744073709551616 ^ k := by omega
        rw [e] at a; omega
    · omega
  have hq : (n - m) / 18446744073709551616 ^ k = n / 18446744073709551616 ^ k - m / 18446744073709551616 ^ k - owL n m k := by
    unfold owL at hle ⊢
    split
    · rename_i hl
      rw [if_pos hl] at hle
      obtain ⟨q, hq⟩ : ∃ q, n / 18446744073709551616 ^ k = m / 18446744073709551616 ^ k + 1 + q := ⟨n / 18446744073709551616 ^ k - m / 18446744073709551616 ^ k - 1, by omega⟩
      have e : n - m = 18446744073709551616 ^ k * q + (18446744073709551616 ^ k + n % 18446744073709551616 ^ k - m % 18446744073709551616 ^ k) := by
        rw [hq, Nat.mul_add, Nat.mul_add] at a
        omega
      rw [e, Nat.mul_add_div hp, Nat.div_eq_of_lt (by omega), hq]; omega
    · rename_i hl
      obtain ⟨q, hq⟩ : ∃ q, n / 18446744073709551616 ^ k = m / 18446744073709551616 ^ k + q := ⟨n / 18446744073709551616 ^ k - m / 18446744073709551616 ^ k, by omega⟩
      have e : n - m = 18446744073709551616 ^ k * q + (n % 18446744073709551616 ^ k - m % 18446744073709551616 ^ k) := by
        rw [hq, Nat.mul_add] at a
        omega
      rw [e, Nat.mul_add_div hp, Nat.div_eq_of_lt (by omega), hq]; omega
  have := owL_le n m k
  unfold limb
  rw [hq]
  omega

def subL (n m k : Nat) : Int := (limb n k + 18446744073709551616 - limb m k - (owL n m k : Int)) % 18446744073709551616
theorem subL_eq (n m k : Nat) (h : m ≤ n) : subL n m k = limb (n - m) k := limb_diff n m k h
/-- The library's entry for differences, as the model has it. -/
def sub64Entry : Array Value → Sem Value := fun args => do
  let (x, y, b) ← Extern.MathBitsCarry.three "Sub64" args
  pure (Extern.MathBitsCarry.pair ((x + Extern.MathBitsCarry.m64 - y - b) % Extern.MathBitsCarry.m64) (if x < y + b then 1 else 0))
theorem run_sub64 {P : Program} (x y b : Nat) (hy : y < 18446744073709551616) (hb : b ≤ 1) (w : World) :
    (sub64Entry #[.int .u64 (x : Int), .int .u64 (y : Int), .int .u64 (b : Int)]).run P w =
      .ok (.tuple #[.int .u64 (((x : Int) + 18446744073709551616 - y - b) % 18446744073709551616), .int .u64 (if x < y + b then 1 else 0)]) w := by
  have h : b = 0 ∨ b = 1 := by omega
  have key : (sub64Entry #[.int .u64 (x : Int), .int .u64 (y : Int), .int .u64 (b : Int)]).run P w =
      .ok (Extern.MathBitsCarry.pair ((x + Extern.MathBitsCarry.m64 - y - b) % Extern.MathBitsCarry.m64) (if x < y + b then 1 else 0)) w := by
    rcases h with rfl | rfl <;> rfl
  rw [key]
  simp only [Extern.MathBitsCarry.pair, Extern.MathBitsCarry.m64]
  congr 4
  · simp; omega
  · split <;> simp_all
end Go.Proofs.Ytibemleodghhfaa
