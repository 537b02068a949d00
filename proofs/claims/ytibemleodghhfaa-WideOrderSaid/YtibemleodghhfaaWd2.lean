/- Plain facts: a product, digit by digit. -/
import Derived.Test.YtibemleodghhfaaWd1
namespace Go.Proofs.Ytibemleodghhfaa
open Go.RowKit
theorem vl_set (ds : List Nat) (j x d : Nat) (h : ds[j]? = some x) : vl (ds.set j d) + x * 256 ^ j = vl ds + d * 256 ^ j := by
  induction ds generalizing j with
  | nil => simp at h
  | cons y ys ih =>
    cases j with
    | zero => simp at h; subst h; simp [vl]; omega
    | succ j =>
      have := ih j (by simpa using h)
      simp only [List.set_cons_succ, vl, Nat.pow_succ]
      grind
theorem mem_set_lt (ds : List Nat) (j d : Nat) (h : ∀ x ∈ ds, x < 256) (hd : d < 256) : ∀ x ∈ ds.set j d, x < 256 := by
  intro x hx
  rcases List.mem_or_eq_of_mem_set hx with h1 | h1
  · exact h x h1
  · omega
/-- One place of the product: V is the row's value, c the carry. -/
theorem times_step (ds : List Nat) (N S d c i k x : Nat) (hx : ds[i + k]? = some x) (h : vl ds + c * 256 ^ (i + k) = S + N % 256 ^ i * d * 256 ^ k) :
    vl (ds.set (i + k) ((x + N / 256 ^ i % 256 * d + c) % 256)) + (x + N / 256 ^ i % 256 * d + c) / 256 * 256 ^ (i + 1 + k) = S + N % 256 ^ (i + 1) * d * 256 ^ k := by
  have h1 := vl_set ds (i + k) x ((x + N / 256 ^ i % 256 * d + c) % 256) hx
  have e1 : N % 256 ^ (i + 1) = N % 256 ^ i + 256 ^ i * (N / 256 ^ i % 256) := by rw [Nat.pow_succ, Nat.mod_mul]
  have e2 : 256 ^ (i + 1 + k) = 256 * 256 ^ (i + k) := by rw [show i + 1 + k = (i + k) + 1 by omega, Nat.pow_succ, Nat.mul_comm]
  have e3 : 256 ^ (i + k) = 256 ^ i * 256 ^ k := Nat.pow_add _ _ _
  rw [e1, e2]
  generalize N / 256 ^ i % 256 = a at *
  have hm := Nat.div_add_mod (x + a * d + c) 256
  generalize hq : (x + a * d + c) / 256 = q at *
  generalize hr : (x + a * d + c) % 256 = r at *
  have h2 : q * (256 * 256 ^ (i + k)) + r * 256 ^ (i + k) = (x + a * d + c) * 256 ^ (i + k) := by rw [← hm]; grind
  have h3 : (x + a * d + c) * 256 ^ (i + k) = x * 256 ^ (i + k) + a * d * 256 ^ (i + k) + c * 256 ^ (i + k) := by grind
  have h4 : (N % 256 ^ i + 256 ^ i * a) * d * 256 ^ k = N % 256 ^ i * d * 256 ^ k + a * d * 256 ^ (i + k) := by rw [e3]; grind
  omega
/-- One place in which the last carry goes. -/
theorem carry_step (ds : List Nat) (T c i x : Nat) (hx : ds[i]? = some x) (h : vl ds + c * 256 ^ i = T) :
    vl (ds.set i ((x + c) % 256)) + (x + c) / 256 * 256 ^ (i + 1) = T := by
  have h1 := vl_set ds i x ((x + c) % 256) hx
  have hm := Nat.div_add_mod (x + c) 256
  generalize (x + c) / 256 = q at *
  generalize (x + c) % 256 = r at *
  have h2 : q * 256 ^ (i + 1) + r * 256 ^ i = (x + c) * 256 ^ i := by rw [← hm, Nat.pow_succ]; grind
  have h3 : (x + c) * 256 ^ i = x * 256 ^ i + c * 256 ^ i := by grind
  omega
theorem mod_succ (n k : Nat) : n % 256 ^ (k + 1) = n % 256 ^ k + 256 ^ k * (n / 256 ^ k % 256) := by rw [Nat.pow_succ, Nat.mod_mul]
theorem prod_next (N n k : Nat) : N * (n % 256 ^ k) + N * (n / 256 ^ k % 256) * 256 ^ k = N * (n % 256 ^ (k + 1)) := by
  rw [mod_succ]; grind
theorem prod_lt (N n k : Nat) (hN : N < 256 ^ 32) : N * (n % 256 ^ k) < 256 ^ (32 + k) := by
  have hp : 0 < 256 ^ k := Nat.pow_pos (by decide)
  have h := Nat.mod_lt n hp
  rw [Nat.pow_add]
  rcases Nat.eq_zero_or_pos N with h0 | h0
  · subst h0; simp; exact hp
  · exact Nat.mul_lt_mul_of_lt_of_lt hN h
theorem carry_zero {V c T i : Nat} (h : V + c * 256 ^ i = T) (hT : T < 256 ^ i) : c = 0 := by
  rcases Nat.eq_zero_or_pos c with h0 | h0
  · exact h0
  · have : 256 ^ i ≤ c * 256 ^ i := Nat.le_mul_of_pos_left _ h0
    omega
theorem byte_of (n k : Nat) (hn : n < 18446744073709551616) : bits .and .u64 ((n : Int) / 2 ^ (8 * k)) 255 = ((n / 256 ^ k % 256 : Nat) : Int) := by
  have e : (256 : Nat) ^ k = 2 ^ (8 * k) := by rw [show (256 : Nat) = 2 ^ 8 by rfl, ← Nat.pow_mul]
  have hl : (n : Int) / 2 ^ (8 * k) = ((n / 2 ^ (8 * k) : Nat) : Int) := by simp
  rw [hl, and255 _ ⟨Int.natCast_nonneg _, by have := Nat.div_le_self n (2 ^ (8 * k)); omega⟩, e]
  omega
theorem mul_le (a d : Nat) (ha : a < 256) (hd : d < 256) : a * d ≤ 65025 := by
  have := Nat.mul_le_mul (show a ≤ 255 by omega) (show d ≤ 255 by omega)
  omega
theorem ints_set (ds : List Nat) (j d : Nat) : (ints ds).toArray.setIfInBounds j (.int .i64 (d : Int)) = (ints (ds.set j d)).toArray := by
  simp [ints]
theorem ints_arr (ds : List Nat) (j x : Nat) (h : ds[j]? = some x) : (ints ds).toArray[j]? = some (.int .i64 (x : Int)) := by
  simp [ints, h]
end Go.Proofs.Ytibemleodghhfaa
