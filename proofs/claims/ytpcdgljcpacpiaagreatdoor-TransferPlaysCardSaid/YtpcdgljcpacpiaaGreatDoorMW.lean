/- Wd2, Wd3, Wd4, Wr1, Wby, Wrb, Wfb in one text. -/
import Derived.Test.YtpcdgljcpacpiaaGreatDoorWd1
import Derived.Laws.Externs
import Derived.Test.YtpcdgljcpacpiaaGreatDoorRows
import Derived.Test.YtpcdgljcpacpiaaGreatDoorKitA
import Derived.Test.YtpcdgljcpacpiaaGreatDoorWd0
import Derived.WalkKit
import Derived.WalkSpells
import Derived.WalkLawsBesides
import Derived.Deep.QuietTactic
import Derived.BigQuiet
import Derived.BigRegion
import Derived.Deep.DrawnRows
import Derived.Test.YtpcdgljcpacpiaaGreatDoorMH
import Derived.Lib.ConvBytes
namespace Go.Proofs.YtpcdgljcpacpiaaGreatDoor
open Go.RowKit
end Go.Proofs.YtpcdgljcpacpiaaGreatDoor
namespace Go.Proofs.YtpcdgljcpacpiaaGreatDoor
open Go.RowKit
/-- The carry into place k of a sum, to the base b. -/
def cyB (b n m k : Nat) : Nat := (n % b ^ k + m % b ^ k) / b ^ k
theorem cyB_zero (b n m : Nat) : cyB b n m 0 = 0 := by simp [cyB, Nat.mod_one]
theorem cyB_step (b n m k : Nat) (hb : 0 < b) : n / b ^ k % b + m / b ^ k % b + cyB b n m k = (n + m) / b ^ k % b + b * cyB b n m (k + 1) := by
  have hp : 0 < b ^ k := Nat.pow_pos hb
  have h1 : (n + m) / b ^ k = n / b ^ k + m / b ^ k + cyB b n m k := by
    have e : n + m = n % b ^ k + m % b ^ k + b ^ k * (n / b ^ k + m / b ^ k) := by
      have a := Nat.div_add_mod n (b ^ k)
      have c := Nat.div_add_mod m (b ^ k)
      rw [Nat.mul_add]; omega
    have := Nat.add_mul_div_left (n % b ^ k + m % b ^ k) (n / b ^ k + m / b ^ k) hp
    rw [← e] at this
    rw [this]; unfold cyB; omega
  have h2 : cyB b n m (k + 1) = (n / b ^ k % b + m / b ^ k % b + cyB b n m k) / b := by
    have e : n % b ^ (k + 1) + m % b ^ (k + 1) = n % b ^ k + m % b ^ k + b ^ k * (n / b ^ k % b + m / b ^ k % b) := by
      rw [Nat.pow_succ, Nat.mod_mul, Nat.mod_mul, Nat.mul_add]; omega
    have := Nat.add_mul_div_left (n % b ^ k + m % b ^ k) (n / b ^ k % b + m / b ^ k % b) hp
    unfold cyB
    rw [e, Nat.pow_succ, ← Nat.div_div_eq_div_mul, this]
    congr 1; omega
  rw [h1, h2]
  generalize n / b ^ k = x
  generalize m / b ^ k = y
  generalize cyB b n m k = c
  have e1 := Nat.div_add_mod (x + y + c) b
  have e2 := Nat.div_add_mod (x % b + y % b + c) b
  have e3 : (x % b + y % b + c) % b = (x + y + c) % b := by
    rw [Nat.add_mod (x % b + y % b), Nat.add_mod (x % b), Nat.mod_mod, Nat.mod_mod, ← Nat.add_mod x, ← Nat.add_mod (x + y)]
  omega
theorem cyB_le (b n m k : Nat) (hb : 0 < b) : cyB b n m k ≤ 1 := by
  have hp : 0 < b ^ k := Nat.pow_pos hb
  have a := Nat.mod_lt n hp
  have c := Nat.mod_lt m hp
  unfold cyB
  have : n % b ^ k + m % b ^ k < 2 * b ^ k := by omega
  have := (Nat.div_lt_iff_lt_mul hp).2 this
  omega
def cyL (n m k : Nat) : Nat := cyB 18446744073709551616 n m k
theorem cyL_le (n m k : Nat) : cyL n m k ≤ 1 := cyB_le _ _ _ _ (by decide)
theorem pow4 : (18446744073709551616 : Nat) ^ 4 = 256 ^ 32 := by decide
theorem cyL_top (n m : Nat) (hn : n < 256 ^ 32) (hm : m < 256 ^ 32) : cyL n m 4 = (n + m) / 256 ^ 32 := by
  unfold cyL cyB
  rw [pow4, Nat.mod_eq_of_lt hn, Nat.mod_eq_of_lt hm]
theorem limb_sum (n m k : Nat) : (limb n k + limb m k + (cyL n m k : Int)) % 18446744073709551616 = limb (n + m) k ∧ (limb n k + limb m k + (cyL n m k : Int)) / 18446744073709551616 = (cyL n m (k + 1) : Int) := by
  have h := cyB_step 18446744073709551616 n m k (by decide)
  unfold limb cyL
  constructor <;> omega
/-- What is owed into place k of a difference, to the base 2^64. -/
def owL (n m k : Nat) : Nat := if n % 18446744073709551616 ^ k < m % 18446744073709551616 ^ k then 1 else 0
theorem owL_zero (n m : Nat) : owL n m 0 = 0 := by simp [owL, Nat.mod_one]
theorem owL_le (n m k : Nat) : owL n m k ≤ 1 := by unfold owL; split <;> omega
theorem owL_top (n m : Nat) (hn : n < 256 ^ 32) (hm : m < 256 ^ 32) : owL n m 4 = if n < m then 1 else 0 := by
  unfold owL; rw [pow4, Nat.mod_eq_of_lt hn, Nat.mod_eq_of_lt hm]
theorem owL_step (n m k : Nat) : owL n m (k + 1) = if n / 18446744073709551616 ^ k % 18446744073709551616 < m / 18446744073709551616 ^ k % 18446744073709551616 + owL n m k then 1 else 0 := by
  have hp : 0 < 18446744073709551616 ^ k := Nat.pow_pos (by decide)
  have c := Nat.mod_lt n hp
  have d := Nat.mod_lt m hp
  have := owL_le n m k
  have e1 : n % 18446744073709551616 ^ (k + 1) = n % 18446744073709551616 ^ k + 18446744073709551616 ^ k * (n / 18446744073709551616 ^ k % 18446744073709551616) := by rw [Nat.pow_succ, Nat.mod_mul]
  have e2 : m % 18446744073709551616 ^ (k + 1) = m % 18446744073709551616 ^ k + 18446744073709551616 ^ k * (m / 18446744073709551616 ^ k % 18446744073709551616) := by rw [Nat.pow_succ, Nat.mod_mul]
  have key : (n % 18446744073709551616 ^ (k + 1) < m % 18446744073709551616 ^ (k + 1)) ↔ (n / 18446744073709551616 ^ k % 18446744073709551616 < m / 18446744073709551616 ^ k % 18446744073709551616 + owL n m k) := by
    rw [e1, e2]
    generalize n / 18446744073709551616 ^ k % 18446744073709551616 = x
    generalize m / 18446744073709551616 ^ k % 18446744073709551616 = y
    unfold owL
    generalize n % 18446744073709551616 ^ k = u at *
    generalize m % 18446744073709551616 ^ k = v at *
    generalize 18446744073709551616 ^ k = p at *
    have mul_lt : ∀ {x y : Nat}, x < y → p * x + p ≤ p * y := fun {x y} hxy => by
      have := Nat.mul_le_mul_left p (show x + 1 ≤ y from hxy)
      rw [Nat.mul_add, Nat.mul_one] at this; exact this
    rcases Nat.lt_trichotomy x y with hxy | hxy | hxy
    · have := mul_lt hxy
      constructor
      · intro _; split <;> omega
      · intro _; omega
    · subst hxy
      split <;> constructor <;> intro _ <;> omega
    · have := mul_lt hxy
      constructor
      · intro _; omega
      · intro h; split at h <;> omega
  show (if _ then 1 else 0) = _
  by_cases hk : n / 18446744073709551616 ^ k % 18446744073709551616 < m / 18446744073709551616 ^ k % 18446744073709551616 + owL n m k
  · rw [if_pos hk, if_pos (key.2 hk)]
  · rw [if_neg hk, if_neg (fun h => hk (key.1 h))]
/-- The limbs of a difference: those of n less m, where n is not the less. -/
theorem limb_diff (n m k : Nat) (h : m ≤ n) : (limb n k + 18446744073709551616 - limb m k - (owL n m k : Int)) % 18446744073709551616 = limb (n - m) k := by
  have hp : 0 < 18446744073709551616 ^ k := Nat.pow_pos (by decide)
  have a := Nat.div_add_mod n (18446744073709551616 ^ k)
  have b := Nat.div_add_mod m (18446744073709551616 ^ k)
  have c := Nat.mod_lt n hp
  have d := Nat.mod_lt m hp
  have hdle : m / 18446744073709551616 ^ k ≤ n / 18446744073709551616 ^ k := Nat.div_le_div_right h
  have hp2 := Nat.mul_le_mul_left (18446744073709551616 ^ k) hdle
  have hle : m / 18446744073709551616 ^ k + owL n m k ≤ n / 18446744073709551616 ^ k := by
    unfold owL
    split
    · rename_i hl
      rcases Nat.lt_or_ge (m / 18446744073709551616 ^ k) (n / 18446744073709551616 ^ k) with h1 | h1
      · omega
      · have e : n / 18446744073709551616 ^ k = m / 18446744073709551616 ^ k := by omega
        rw [e] at a; omega
    · omega
  have hq : (n - m) / 18446744073709551616 ^ k = n / 18446744073709551616 ^ k - m / 18446744073709551616 ^ k - owL n m k := by
    unfold owL at hle ⊢
    split
    · rename_i hl
      rw [if_pos hl] at hle
      obtain ⟨q, hq⟩ : ∃ q, n / 18446744073709551616 ^ k = m / 18446744073709551616 ^ k + 1 + q := ⟨n / 18446744073709551616 ^ k - m / 18446744073709551616 ^ k - 1, by omega⟩
      have e : n - m = 18446744073709551616 ^ k * q + (18446744073709551616 ^ k + n % 18446744073709551616 ^ k - m % 18446744073709551616 ^ k) := by
        rw [hq, Nat.mul_add, Nat.mul_add] at a
        omega
      rw [e, Nat.mul_add_div hp, Nat.div_eq_of_lt (by omega), hq]; omega
    · rename_i hl
      obtain ⟨q, hq⟩ : ∃ q, n / 18446744073709551616 ^ k = m / 18446744073709551616 ^ k + q := ⟨n / 18446744073709551616 ^ k - m / 18446744073709551616 ^ k, by omega⟩
      have e : n - m = 18446744073709551616 ^ k * q + (n % 18446744073709551616 ^ k - m % 18446744073709551616 ^ k) := by
        rw [hq, Nat.mul_add] at a
        omega
      rw [e, Nat.mul_add_div hp, Nat.div_eq_of_lt (by omega), hq]; omega
  have := owL_le n m k
  unfold limb
  rw [hq]
  omega

def subL (n m k : Nat) : Int := (limb n k + 18446744073709551616 - limb m k - (owL n m k : Int)) % 18446744073709551616
theorem subL_eq (n m k : Nat) (h : m ≤ n) : subL n m k = limb (n - m) k := limb_diff n m k h
/-- The library's entry for differences, as the model has it. -/
def sub64Entry : Array Value → Sem Value := fun args => do
  let (x, y, b) ← Extern.MathBitsCarry.three "Sub64" args
  pure (Extern.MathBitsCarry.pair ((x + Extern.MathBitsCarry.m64 - y - b) % Extern.MathBitsCarry.m64) (if x < y + b then 1 else 0))
theorem run_sub64 {P : Program} (x y b : Nat) (hy : y < 18446744073709551616) (hb : b ≤ 1) (w : World) :
    (sub64Entry #[.int .u64 (x : Int), .int .u64 (y : Int), .int .u64 (b : Int)]).run P w =
      .ok (.tuple #[.int .u64 (((x : Int) + 18446744073709551616 - y - b) % 18446744073709551616), .int .u64 (if x < y + b then 1 else 0)]) w := by
  have h : b = 0 ∨ b = 1 := by omega
  have key : (sub64Entry #[.int .u64 (x : Int), .int .u64 (y : Int), .int .u64 (b : Int)]).run P w =
      .ok (Extern.MathBitsCarry.pair ((x + Extern.MathBitsCarry.m64 - y - b) % Extern.MathBitsCarry.m64) (if x < y + b then 1 else 0)) w := by
    rcases h with rfl | rfl <;> rfl
  rw [key]
  simp only [Extern.MathBitsCarry.pair, Extern.MathBitsCarry.m64]
  congr 4
  · simp; omega
  · split <;> simp_all
end Go.Proofs.YtpcdgljcpacpiaaGreatDoor
namespace Go.Proofs.YtpcdgljcpacpiaaGreatDoor
open Go.RowKit
def W256 (n : Nat) : Prop := n < 256 ^ 32
theorem W256.out {n : Nat} (h : W256 n) : n < 256 ^ 32 := h
theorem limb0 (n : Nat) : limb n 0 = ((n % 18446744073709551616 : Nat) : Int) := by simp [limb]
theorem limb1 (n : Nat) : limb n 1 = ((n / 18446744073709551616 % 18446744073709551616 : Nat) : Int) := by simp [limb]
theorem limb2 (n : Nat) : limb n 2 = ((n / 18446744073709551616 / 18446744073709551616 % 18446744073709551616 : Nat) : Int) := by
  unfold limb; rw [Nat.div_div_eq_div_mul]
theorem limb3 (n : Nat) : limb n 3 = ((n / 18446744073709551616 / 18446744073709551616 / 18446744073709551616 % 18446744073709551616 : Nat) : Int) := by
  unfold limb; rw [Nat.div_div_eq_div_mul, Nat.div_div_eq_div_mul]
theorem limbs_inj {n m : Nat} (hn : n < 256 ^ 32) (hm : m < 256 ^ 32) (h0 : limb n 0 = limb m 0) (h1 : limb n 1 = limb m 1) (h2 : limb n 2 = limb m 2) (h3 : limb n 3 = limb m 3) : n = m := by
  rw [limb0, limb0] at h0
  rw [limb1, limb1] at h1
  rw [limb2, limb2] at h2
  rw [limb3, limb3] at h3
  have e : ∀ x : Nat, x < 256 ^ 32 → x / 18446744073709551616 / 18446744073709551616 / 18446744073709551616 < 18446744073709551616 := fun x hx => by
    rw [Nat.div_div_eq_div_mul, Nat.div_div_eq_div_mul]
    exact Nat.div_lt_of_lt_mul hx
  have a := e n hn
  have b := e m hm
  clear hn hm e
  omega
/-- Four numbers of 64 bits are the limbs of one number. -/
theorem limbs_exist (a b c d : Nat) (ha : a < 18446744073709551616) (hb : b < 18446744073709551616) (hc : c < 18446744073709551616) (hd : d < 18446744073709551616) :
    ∃ n, n < 256 ^ 32 ∧ limb n 0 = (a : Int) ∧ limb n 1 = (b : Int) ∧ limb n 2 = (c : Int) ∧ limb n 3 = (d : Int) := by
  refine ⟨a + 18446744073709551616 * (b + 18446744073709551616 * (c + 18446744073709551616 * d)), ?_, ?_, ?_, ?_, ?_⟩
  · rw [← pow4]; simp only [Nat.pow_succ, Nat.pow_zero]; omega
  · rw [limb0]; omega
  · rw [limb1]; omega
  · rw [limb2]; omega
  · rw [limb3]; omega
theorem limbs_beq {n m : Nat} (hn : W256 n) (hm : W256 m) : (limb n 0 == limb m 0 && (limb n 1 == limb m 1 && (limb n 2 == limb m 2 && limb n 3 == limb m 3))) = decide (n = m) := by
  rw [Bool.eq_iff_iff]
  simp only [Bool.and_eq_true, beq_iff_eq, decide_eq_true_eq]
  exact ⟨fun ⟨a, b, c, d⟩ => limbs_inj hn hm a b c d, fun h => by subst h; exact ⟨rfl, rfl, rfl, rfl⟩⟩
theorem W256.wN (n : Nat) : W256 (wN n) := by
  unfold W256 YtpcdgljcpacpiaaGreatDoor.wN; split
  · assumption
  · exact Nat.pow_pos (by decide)
theorem W256.zero : W256 0 := by unfold W256; exact Nat.pow_pos (by decide)
theorem W256.sub {n m : Nat} (h : W256 n) : W256 (n - m) := by unfold W256 at *; omega
end Go.Proofs.YtpcdgljcpacpiaaGreatDoor
namespace Go.Proofs.YtpcdgljcpacpiaaGreatDoor
open Go.RowKit
theorem infoInt : (Tryz.prog.info? 3).map (fun i => (i.zero, i.size, i.bytes)) = some (some (.int .i64 0), 1, 8) := by kernel_rfl
def cellsAre (w : World) (b : Nat) (n : Nat) : Prop := ∀ j, j < 4 → w.cell? ⟨b, j, none⟩ = some (.int .u64 (limb n j))
theorem cellsAre.below {w w' : World} {b n B : Nat} (h : cellsAre w b n) (hb : Below B w w') (hB : b < B) : cellsAre w' b n := fun j hj => (hb.cell (p := ⟨b, j, none⟩) hB).trans (h j hj)
set_option maxHeartbeats 4000000 in
set_option maxRecDepth 100000 in
theorem digits_own (n : Nat) (w : World) :
    Calls Tryz.prog 50 #[.agg #[.int .u64 (limb n 0), .int .u64 (limb n 1), .int .u64 (limb n 2), .int .u64 (limb n 3)]] w fun e w' => ∃ v, e = .returned v ∧ w'.ownsRow w.heap.size 3 1 v 32 (digs n 32) ∧ Below w.heap.size w w' := by
  obtain ⟨i0, hi0, hz0, hz1, hz2⟩ := info_parts infoInt
  go_enter Tryz.func50, Tryz.ntmps50
  go_wp2
  go_loopw [3, 4] (fun v i wr => ∃ k : Nat, k ≤ 32 ∧ i = .int .i64 k ∧ cellsAre wr w.heap.size n ∧ w.heap.size < wr.heap.size ∧
      wr.ownsRow (w.heap.size + 1) 3 1 v k (digs n k) ∧ Below w.heap.size w wr) (fun _ i _ => 32 - (intOf i).toNat)
  case atStart =>
    refine ⟨0, by omega, rfl, ?_, by simp, World.ownsRow_nil _ _ _ _, (Below.refl _ _).alloc (Nat.le_refl _) _⟩
    intro j hj
    have : j = 0 ∨ j = 1 ∨ j = 2 ∨ j = 3 := by omega
    rcases this with rfl | rfl | rfl | rfl <;> simp [go_sem]
  case round =>
    obtain ⟨k, hk, rfl, hcs, hz, hown, hb⟩ := hrel
    by_cases hlt : k < 32
    · have hc := hcs (k / 8) (by omega)
      have hq : (k : Int) / 8 < 4 := by omega
      have hd := dig_shift n k
      have hd0 := dig_lo n k
      have hd1 := dig_hi n k
      go_wp2_with (at_builtin; refine wpList_push rfl _ _ 49 rfl (w.heap.size + 1) 3 i0 (.int .i64 0) 1 8 Tryz.underlying49 hi0 hz0 hz1 hz2 rfl (by decide) _ _ _ rfl hown [.int .i64 (dig n k)] rfl rfl rfl (by unfold maxLen; omega) (by omega) (by omega) ?_; intro v1 w1 hown1 hb1 hz1)
      rw [← digs_succ] at hown1
      go_roundw
      case rel => exact ⟨k + 1, by omega, by go_num, hcs.below hb1 (by omega), by omega, hown1, hb.trans (hb1.mono (by omega))⟩
      case measure => simp [intOf]; omega
    · obtain rfl : k = 32 := by omega
      go_wp2
      go_ret
      exact ⟨_, rfl, own_mono hown (by omega), hb⟩
theorem w0 : wcells 0 = #[.int .u64 0, .int .u64 0, .int .u64 0, .int .u64 0] := by simp [wcells, limb]
theorem or_round (N d k : Nat) (hd : d < 256) (hN : N < 256 ^ k) : bits .or .u64 (limb N (k / 8)) (IntKind.u64.wrap ((d : Int) * 2 ^ (8 * (k % 8)))) = limb (N + d * 256 ^ k) (k / 8) := by
  have h := or_limb N d (k / 8) (k % 8) (by omega) hd (by rw [show 8 * (k / 8) + k % 8 = k by omega]; exact hN)
  rw [show 8 * (k / 8) + k % 8 = k by omega] at h
  rw [IntKind.wrap_u64]
  exact h
theorem vl_take_succ (ds : List Nat) (k d : Nat) (h : ds[k]? = some d) : vl (ds.take (k + 1)) = vl (ds.take k) + d * 256 ^ k := by
  have hk : k < ds.length := (List.getElem?_eq_some_iff.1 h).1
  have e : ds.take (k + 1) = ds.take k ++ [d] := by rw [List.take_add_one, h]; rfl
  rw [e, vl_snoc, List.length_take, Nat.min_eq_left (by omega)]
theorem vl_take_lt (ds : List Nat) (k : Nat) (hd : ∀ d ∈ ds, d < 256) : vl (ds.take k) < 256 ^ k := by
  have h := vl_lt (ds.take k) (fun d h => hd d (List.mem_of_mem_take h))
  exact Nat.lt_of_lt_of_le h (Nat.pow_le_pow_right (by decide) (by simp; omega))
set_option maxHeartbeats 4000000 in
set_option maxRecDepth 100000 in
theorem number_ok (g len cap : Nat) (ds : List Nat) (hd : ∀ d ∈ ds, d < 256) (Hlen : Hid (ds.length = len)) (hl : len ≤ 1000) (hz : ∀ (i d : Nat), 32 ≤ i → ds[i]? = some d → d = 0) (w : World) (hg : g < w.heap.size)
    (hc : ∀ (i d : Nat), ds[i]? = some d → w.cell? ⟨g, i, none⟩ = some (.int .i64 (d : Int))) :
    Calls Tryz.prog 51 #[.slice (some ⟨g, 0, none⟩) len cap] w fun e w' => e = .returned (.tuple #[.agg (wcells (vl (ds.take 32))), .bool true]) ∧ Below w.heap.size w w' := by
  go_enter Tryz.func51, Tryz.ntmps51
  go_wp2
  go_loopw [5] (fun i wr => ∃ k : Nat, k ≤ len ∧ i = .int .i64 k ∧ Blk wr (w.heap.size + 1) 31 (wcells (vl (ds.take (min k 32)))) ∧ Blk wr w.heap.size 31 (wcells 0) ∧ Below w.heap.size w wr) (fun i _ => len - (intOf i).toNat)
  case atStart =>
    refine ⟨0, by omega, rfl, ?_, ?_, ?_⟩
    · have := Blk.new (w.alloc (.cells (wcells 0) 31)) 31 (wcells 0)
      rw [← w0]
      simpa [vl] using this
    · rw [← w0]
      exact (Blk.new w 31 (wcells 0)).alloc _
    · exact ((Below.refl _ _).alloc (Nat.le_refl _) _).alloc (by simp) _
  case round =>
    obtain ⟨k, hk, rfl, hb4, hb2, hb⟩ := hrel
    by_cases hlt : k < len
    · obtain ⟨d, hdk⟩ : ∃ d, ds[k]? = some d := ⟨_, List.getElem?_eq_getElem (by have := Hlen.out; omega)⟩
      have hd1 := hd d (List.mem_of_getElem? hdk)
      have hcell := (hb.cell (p := ⟨g, k, none⟩) hg).trans (hc k d hdk)
      have hz1 := hz k d
      have Hdk := Lib.hid hdk
      clear hdk
      by_cases h32 : k < 32
      · have hmin : min k 32 = k := by omega
        rw [hmin] at hb4
        have hc4 := hb4.cell (k / 8)
        have hf4 := hb4.free (k / 8)
        have hq : (k : Int) / 8 < 4 := by omega
        rw [wcells_at _ _ (by omega)] at hc4
        have hlt' := vl_take_lt ds k hd
        have hor := or_round _ _ _ hd1 hlt'
        have hset := wcells_set _ _ _ hd1 hlt' h32
        have hnew : vl (ds.take (min (k + 1) 32)) = vl (ds.take k) + d * 256 ^ k := by rw [Nat.min_eq_left (by omega)]; exact vl_take_succ ds k d Hdk.out
        have Hnew := Lib.hid hnew
        have Hset := Lib.hid hset
        clear hnew hset hlt' hz1 hmin
        go_wp2_with fail
        go_region
        go_wp2_with fail
        go_roundw
        case rel => exact ⟨k + 1, by omega, by go_num, by rw [Hnew.out, ← Hset.out]; exact (hb4.set_ _ _).drew, (hb2.far (by simp) _).drew, (hb.setCell (by simp) _).drew⟩
        case measure => simp [intOf]; omega
      · have h0 : d = 0 := hz1 (by omega) Hdk.out
        subst h0
        clear hz1
        go_wp2_with fail
        go_roundw
        case rel =>
          refine ⟨k + 1, by omega, by go_num, ?_, hb2, hb⟩
          rw [show min (k + 1) 32 = min k 32 by omega]
          exact hb4
        case measure => simp [intOf]; omega
    · obtain rfl : k = len := by omega
      have hm : ds.take (min k 32) = ds.take 32 := by
        rw [List.take_eq_take_iff]; have := Hlen.out; omega
      rw [hm] at hb4
      clear hm
      have hc4 := fun i => hb4.cell i
      have hc2 := fun i => hb2.cell i
      have hf2 := fun i => hb2.free i
      rw [w0] at hc2
      unfold wcells at hc4
      go_wp2
      have hb2' := ((((hb2.set_ 0 (.int .u64 (limb (vl (ds.take 32)) 0))).set_ 1 (.int .u64 (limb (vl (ds.take 32)) 1))).set_ 2 (.int .u64 (limb (vl (ds.take 32)) 2))).set_ 3 (.int .u64 (limb (vl (ds.take 32)) 3)))
      have hcc := fun i => hb2'.cell i
      refine bodyPost_ret (v := .tuple #[.agg (wcells (vl (ds.take 32))), .bool true]) (by simp [results, Tryz.results51, go_sem, hcc, w0]; rfl) rfl ⟨rfl, ?_⟩
      exact (((hb.setCell (by simp) _).setCell (by simp) _).setCell (by simp) _).setCell (by simp) _
set_option maxHeartbeats 4000000 in
set_option maxRecDepth 100000 in
theorem number_no (g len cap j d0 : Nat) (ds : List Nat) (hd : ∀ d ∈ ds, d < 256) (Hlen : Hid (ds.length = len)) (hl : len ≤ 1000) (hj : 32 ≤ j) (hjl : j < len) (Hj : Hid (ds[j]? = some d0)) (hd0 : 0 < d0) (hz : ∀ (i d : Nat), 32 ≤ i → i < j → ds[i]? = some d → d = 0) (w : World) (hg : g < w.heap.size)
    (hc : ∀ (i d : Nat), ds[i]? = some d → w.cell? ⟨g, i, none⟩ = some (.int .i64 (d : Int))) :
    Calls Tryz.prog 51 #[.slice (some ⟨g, 0, none⟩) len cap] w fun e w' => e = .returned (.tuple #[.agg (wcells 0), .bool false]) ∧ Below w.heap.size w w' := by
  go_enter Tryz.func51, Tryz.ntmps51
  go_wp2
  go_loopw [5] (fun i wr => ∃ k : Nat, k ≤ j ∧ i = .int .i64 k ∧ Blk wr (w.heap.size + 1) 31 (wcells (vl (ds.take (min k 32)))) ∧ Blk wr w.heap.size 31 (wcells 0) ∧ Below w.heap.size w wr) (fun i _ => len - (intOf i).toNat)
  case atStart =>
    refine ⟨0, by omega, rfl, ?_, ?_, ?_⟩
    · have := Blk.new (w.alloc (.cells (wcells 0) 31)) 31 (wcells 0)
      rw [← w0]
      simpa [vl] using this
    · rw [← w0]
      exact (Blk.new w 31 (wcells 0)).alloc _
    · exact ((Below.refl _ _).alloc (Nat.le_refl _) _).alloc (by simp) _
  case round =>
    obtain ⟨k, hk, rfl, hb4, hb2, hb⟩ := hrel
    by_cases hlt : k < j
    · obtain ⟨d, hdk⟩ : ∃ d, ds[k]? = some d := ⟨_, List.getElem?_eq_getElem (by have := Hlen.out; omega)⟩
      have hd1 := hd d (List.mem_of_getElem? hdk)
      have hcell := (hb.cell (p := ⟨g, k, none⟩) hg).trans (hc k d hdk)
      have hz1 := hz k d
      have Hdk := Lib.hid hdk
      clear hdk
      by_cases h32 : k < 32
      · have hmin : min k 32 = k := by omega
        rw [hmin] at hb4
        have hc4 := hb4.cell (k / 8)
        have hf4 := hb4.free (k / 8)
        have hq : (k : Int) / 8 < 4 := by omega
        rw [wcells_at _ _ (by omega)] at hc4
        have hlt' := vl_take_lt ds k hd
        have hor := or_round _ _ _ hd1 hlt'
        have hset := wcells_set _ _ _ hd1 hlt' h32
        have hnew : vl (ds.take (min (k + 1) 32)) = vl (ds.take k) + d * 256 ^ k := by rw [Nat.min_eq_left (by omega)]; exact vl_take_succ ds k d Hdk.out
        have Hnew := Lib.hid hnew
        have Hset := Lib.hid hset
        clear hnew hset hlt' hz1 hmin
        have hkl : k < len := by omega
        go_wp2_with fail
        go_region
        go_wp2_with fail
        go_roundw
        case rel => exact ⟨k + 1, by omega, by go_num, by rw [Hnew.out, ← Hset.out]; exact (hb4.set_ _ _).drew, (hb2.far (by simp) _).drew, (hb.setCell (by simp) _).drew⟩
        case measure => simp [intOf]; omega
      · have h0 : d = 0 := hz1 (by omega) (by omega) Hdk.out
        have hkl : k < len := by omega
        subst h0
        clear hz1
        go_wp2_with fail
        go_roundw
        case rel =>
          refine ⟨k + 1, by omega, by go_num, ?_, hb2, hb⟩
          rw [show min (k + 1) 32 = min k 32 by omega]
          exact hb4
        case measure => simp [intOf]; omega
    · obtain rfl : k = j := by omega
      have hcell := (hb.cell (p := ⟨g, k, none⟩) hg).trans (hc k d0 Hj.out)
      have hc2 := fun i => hb2.cell i
      have hf2 := fun i => hb2.free i
      rw [w0] at hc2
      have hd2 := hd d0 (List.mem_of_getElem? Hj.out)
      go_wp2
      have hb2' := ((((hb2.set_ 0 (.int .u64 0)).set_ 1 (.int .u64 0)).set_ 2 (.int .u64 0)).set_ 3 (.int .u64 0))
      have hcc := fun i => hb2'.cell i
      refine bodyPost_ret (v := .tuple #[.agg (wcells 0), .bool false]) (by simp [results, Tryz.results51, go_sem, hcc, w0]) rfl ⟨rfl, ?_⟩
      exact (((hb.setCell (by simp) _).setCell (by simp) _).setCell (by simp) _).setCell (by simp) _

theorem digits_any (n : Nat) (w : World) :
    Calls Tryz.prog 50 #[.agg #[.int .u64 (limb n 0), .int .u64 (limb n 1), .int .u64 (limb n 2), .int .u64 (limb n 3)]] w fun e w' => ∃ g cap, e = .returned (.slice (some ⟨g, 0, none⟩) 32 cap) ∧ w.heap.size ≤ g ∧ g < w'.heap.size ∧
      (∀ i, i < 32 → w'.cell? ⟨g, i, none⟩ = some (.int .i64 (dig n i))) ∧ Below w.heap.size w w' := by
  refine (digits_own n w).mono ?_
  rintro e w' ⟨v, rfl, hown, hb⟩
  obtain ⟨g, cap, rfl, h1, h2, _, h3⟩ := own_form hown (by omega)
  exact ⟨g, cap, rfl, h1, h2, fun i hi => h3 i _ (by simp [digs, hi]), hb⟩
theorem number_any (v : Value) (base n : Nat) (ds : List Nat) (w : World) (hown : w.ownsRow base 3 1 v n (ints ds)) (hn : 0 < n) (hl : n ≤ 1000) (hd : ∀ d ∈ ds, d < 256) :
    Calls Tryz.prog 51 #[v] w fun e w' => e = .returned (.tuple #[.agg #[.int .u64 (limb (wN (vl ds)) 0), .int .u64 (limb (wN (vl ds)) 1), .int .u64 (limb (wN (vl ds)) 2), .int .u64 (limb (wN (vl ds)) 3)], .bool (wOk (vl ds))]) ∧ Below w.heap.size w w' := by
  obtain ⟨g, cap, rfl, h1, h2, _, h3⟩ := own_form hown hn
  have hlen : ds.length = n := by have := hown.1; rw [ints_len] at this; omega
  have hc : ∀ (i d : Nat), ds[i]? = some d → w.cell? ⟨g, i, none⟩ = some (.int .i64 (d : Int)) := fun i d h => h3 i _ (ints_at ds i d h)
  rcases first_other ds with hz | ⟨j, d0, hj, hjd, hd0, hz⟩
  · obtain ⟨he, hlt⟩ := vl_all0 ds hd hz
    have e1 : wN (vl ds) = vl (ds.take 32) := by unfold wN; rw [if_pos hlt, he]
    have e2 : wOk (vl ds) = true := by unfold wOk; exact decide_eq_true hlt
    rw [e1, e2]
    exact number_ok g n cap ds hd hlen hl hz w h2 hc
  · have hlt := vl_other ds j d0 hj hjd hd0
    have e1 : wN (vl ds) = 0 := by unfold wN; rw [if_neg hlt]
    have e2 : wOk (vl ds) = false := by unfold wOk; exact decide_eq_false hlt
    rw [e1, e2]
    exact number_no g n cap j d0 ds hd hlen hl hj (by have := (List.getElem?_eq_some_iff.1 hjd).1; omega) hjd hd0 hz w h2 hc
end Go.Proofs.YtpcdgljcpacpiaaGreatDoor
namespace Go.Proofs.YtpcdgljcpacpiaaGreatDoor
open Go.RowKit
attribute [local go_sem ↓] Go.wp_at_zero Go.wp_at_succ
def byN (n i : Nat) : Nat := n / 256 ^ i % 256
def bys (n : Nat) : List UInt8 := (List.range 32).map fun t => UInt8.ofNat (byN n (31 - t))
def byV (n j : Nat) : List Value := (List.range j).map fun t => .int .u8 (dig n (31 - t))
theorem byV_succ (n j : Nat) : byV n (j + 1) = byV n j ++ [.int .u8 (dig n (31 - j))] := by simp [byV, List.range_succ]
theorem bys_len (n : Nat) : (bys n).length = 32 := by simp [bys]
theorem byV_cell (n j : Nat) (h : j < (bys n).length) : (byV n 32)[j]? = some (.int .u8 ((bys n)[j].toNat : Int)) := by
  have h' : j < 32 := by rw [bys_len] at h; exact h
  simp [byV, bys, h', dig, byN]
theorem dig_conv (n q r : Nat) (hr : r < 8) : IntKind.u8.wrap (limb n q / 2 ^ (8 * r)) = dig n (8 * q + r) := by
  have h := dig_shift n (8 * q + r)
  rw [show (8 * q + r) / 8 = q by omega, show (8 * q + r) % 8 = r by omega] at h
  have hl : Lim (limb n q / 2 ^ (8 * r)) := by
    have e : limb n q / 2 ^ (8 * r) = ((n / 18446744073709551616 ^ q % 18446744073709551616 / 2 ^ (8 * r) : Nat) : Int) := by unfold limb; simp
    rw [e]
    have h1 : n / 18446744073709551616 ^ q % 18446744073709551616 / 2 ^ (8 * r) ≤ n / 18446744073709551616 ^ q % 18446744073709551616 := Nat.div_le_self _ _
    have h0 : n / 18446744073709551616 ^ q % 18446744073709551616 < 18446744073709551616 := Nat.mod_lt _ (by decide)
    generalize n / 18446744073709551616 ^ q % 18446744073709551616 / 2 ^ (8 * r) = m at *
    generalize n / 18446744073709551616 ^ q % 18446744073709551616 = x at *
    exact ⟨Int.natCast_nonneg _, by omega⟩
  rw [and255 _ hl] at h
  rw [IntKind.wrap_u8]
  exact h
set_option maxHeartbeats 4000000 in
set_option maxRecDepth 100000 in
theorem bytes_any (n : Nat) (w : World) :
    Calls Tryz.prog 95 #[.agg #[.int .u64 (limb n 0), .int .u64 (limb n 1), .int .u64 (limb n 2), .int .u64 (limb n 3)]] w fun e w' => e = .returned (.string ⟨(bys n).toArray⟩) ∧ Below w.heap.size w w' := by
  obtain ⟨i0, hi0, iz0, iz1, iz2⟩ := info_parts infoU8
  go_enter Tryz.func95, Tryz.ntmps95
  go_wp2
  go_loopw [3, 4] (fun v i wr => ∃ q : Nat, q ≤ 4 ∧ i = .int .i64 ((q : Int) - 1) ∧ Blk wr w.heap.size 31 (wcells n) ∧ wr.ownsRow (w.heap.size + 1) 5 1 v (32 - 8 * q) (byV n (32 - 8 * q)) ∧ Below w.heap.size w wr) (fun _ i _ => (intOf i + 1).toNat)
  case atStart => exact ⟨4, by omega, rfl, blk1 w _ _, World.ownsRow_nil _ _ _ _, BW_alloc (Below.refl _ _) _⟩
  case round =>
    obtain ⟨q, hq, rfl, hblk, hown, hb⟩ := hrel
    by_cases h0 : 0 < q
    · obtain ⟨p, rfl⟩ : ∃ p, q = p + 1 := ⟨q - 1, by omega⟩
      obtain ⟨wo, rfl⟩ : ∃ wo : World, wo = wr := ⟨_, rfl⟩
      rw [show ((p + 1 : Nat) : Int) - 1 = (p : Int) from by omega]
      go_wp2_with fail
      go_loopw [3, 5] (fun v k wr => ∃ r : Nat, r ≤ 8 ∧ k = .int .i64 ((r : Int) - 1) ∧ Blk wr w.heap.size 31 (wcells n) ∧ wr.ownsRow (w.heap.size + 1) 5 1 v (32 - 8 * p - r) (byV n (32 - 8 * p - r)) ∧ Below w.heap.size w wr) (fun _ k _ => (intOf k + 1).toNat)
      case atStart => exact ⟨8, by omega, rfl, hblk, by rw [show 32 - 8 * p - 8 = 32 - 8 * (p + 1) from by omega]; exact hown, hb⟩
      case round =>
        clear hblk hown hb
        obtain ⟨r, hr, rfl, hblk, hown, hb⟩ := hrel
        by_cases h1 : 0 < r
        · obtain ⟨s, rfl⟩ : ∃ s, r = s + 1 := ⟨r - 1, by omega⟩
          rw [show ((s + 1 : Nat) : Int) - 1 = (s : Int) from by omega]
          have hc := (hblk.cell p).trans (wcells_at n p (by omega))
          have hp4 : (p : Int) < 4 := by omega
          have hs8 : (s : Int) ≤ 7 := by omega
          have hd := dig_conv n p s (by omega)
          have hz := hb.size
          have hlt : w.heap.size < wr.heap.size := hblk.lt
          go_wp2_with (at_builtin; go_must (refine wpList_push_at rfl _ _ 56 rfl (w.heap.size + 1) 5 i0 (.int .u8 0) 1 1 Tryz.underlying56 hi0 iz0 iz1 iz2 rfl (by decide) _ _ _ rfl hown [.int .u8 (dig n (8 * p + s))] _ rfl (by simp) rfl rfl (by unfold maxLen; omega) (by omega) (by omega) ?_); intro v1 w3 hown3 hb3 hz3)
          have e : dig n (8 * p + s) = dig n (31 - (32 - 8 * p - (s + 1))) := by congr 1; omega
          rw [e, ← byV_succ] at hown3
          have e2 : 32 - 8 * p - (s + 1) + 1 = 32 - 8 * p - s := by omega
          rw [e2] at hown3
          clear e e2
          go_roundw
          case rel => exact ⟨s, by omega, rfl, hblk.below hb3 (by omega), hown3, hb.trans (hb3.mono (by omega))⟩
          case measure => simp [intOf]
        · obtain rfl : r = 0 := by omega
          rw [show ((0 : Nat) : Int) - 1 = -1 from by omega]
          go_wp2_with fail
          go_roundw
          case rel => exact ⟨p, by omega, rfl, hblk, by simpa using hown, hb⟩
          case measure => simp [intOf]
    · obtain rfl : q = 0 := by omega
      rw [show ((0 : Nat) : Int) - 1 = -1 from by omega]
      obtain ⟨g, cap, rfl, hg1, hg2, _, _⟩ := own_form hown (by omega)
      have hcv := run_convert_bytes_back (P := Tryz.prog) wr 56 9 5 ⟨g, 0, none⟩ cap (bys n) Tryz.underlying56 Tryz.underlying5 Tryz.underlying9 (fun j hj => by
        have e1 : (⟨g, 0, none⟩ : Addr).add j = ⟨g, j, none⟩ := by unfold Addr.add; split <;> simp_all
        rw [e1, hown.cellAt j (by rw [bys_len] at hj; omega)]
        exact byV_cell n j hj)
      rw [bys_len] at hcv
      go_wp2_with fail
      go_ret
      exact ⟨rfl, hb⟩
end Go.Proofs.YtpcdgljcpacpiaaGreatDoor
namespace Go.Proofs.YtpcdgljcpacpiaaGreatDoor
open Go.RowKit
attribute [local go_sem ↓] Go.wp_at_zero Go.wp_at_succ
set_option maxHeartbeats 4000000 in
set_option maxRecDepth 100000 in
theorem rbytes_any (n : Nat) (w : World) :
    Calls Tryz.prog 104 #[.agg #[.int .u64 (limb n 0), .int .u64 (limb n 1), .int .u64 (limb n 2), .int .u64 (limb n 3)]] w fun e w' => e = .returned (.string ⟨(bys n).toArray⟩) ∧ Below w.heap.size w w' := by
  obtain ⟨i0, hi0, iz0, iz1, iz2⟩ := info_parts infoU8
  go_enter Tryz.func104, Tryz.ntmps104
  go_wp2_with fail
  refine (digits_any n _).mono ?_
  rintro e w1 ⟨g, c, rfl, hg1, hg2, hx, hb1⟩
  have hB1 := BW_on (BW_alloc (Below.refl w.heap.size w) _) hb1
  go_wp2_with fail
  go_loopw [4, 5] (fun v i wr => ∃ q : Nat, q ≤ 32 ∧ i = .int .i64 ((q : Int) - 1) ∧ wr.ownsRow w1.heap.size 5 1 v (32 - q) (byV n (32 - q)) ∧ Below w1.heap.size w1 wr) (fun _ i _ => (intOf i + 1).toNat)
  case atStart => exact ⟨32, by omega, rfl, World.ownsRow_nil _ _ _ _, Below.refl _ _⟩
  case round =>
    obtain ⟨q, hq, rfl, hown, hb⟩ := hrel
    by_cases h0 : 0 < q
    · obtain ⟨p, rfl⟩ : ∃ p, q = p + 1 := ⟨q - 1, by omega⟩
      rw [show ((p + 1 : Nat) : Int) - 1 = (p : Int) from by omega]
      have hc := (hb.cell (p := ⟨g, p, none⟩) hg2).trans (hx p (by omega))
      have hp4 : (p : Int) < 32 := by omega
      have hz := hb.size
      have hd0 := dig_lo n p
      have hd1 := dig_hi n p
      have hcv : IntKind.u8.wrap (dig n p) = dig n p := by rw [IntKind.wrap_u8]; omega
      go_wp2_with (at_builtin; go_must (refine wpList_push rfl _ _ 56 rfl w1.heap.size 5 i0 (.int .u8 0) 1 1 Tryz.underlying56 hi0 iz0 iz1 iz2 rfl (by decide) _ _ _ rfl hown [.int .u8 (dig n p)] rfl rfl rfl (by unfold maxLen; omega) (by omega) (by omega) ?_); intro v1 w3 hown3 hb3 hz3)
      have e : dig n p = dig n (31 - (32 - (p + 1))) := by congr 1; omega
      rw [e, ← byV_succ] at hown3
      have e2 : 32 - (p + 1) + 1 = 32 - p := by omega
      rw [e2] at hown3
      clear e e2 hcv
      go_roundw
      case rel => exact ⟨p, by omega, rfl, hown3, hb.trans hb3⟩
      case measure => simp [intOf]
    · obtain rfl : q = 0 := by omega
      rw [show ((0 : Nat) : Int) - 1 = -1 from by omega]
      obtain ⟨g', cap, rfl, hg1', hg2', _, _⟩ := own_form hown (by omega)
      have hcv := run_convert_bytes_back (P := Tryz.prog) wr 56 9 5 ⟨g', 0, none⟩ cap (bys n) Tryz.underlying56 Tryz.underlying5 Tryz.underlying9 (fun j hj => by
        have e1 : (⟨g', 0, none⟩ : Addr).add j = ⟨g', j, none⟩ := by unfold Addr.add; split <;> simp_all
        rw [e1, hown.cellAt j (by rw [bys_len] at hj; omega)]
        exact byV_cell n j hj)
      rw [bys_len] at hcv
      go_wp2_with fail
      go_ret
      exact ⟨rfl, BW_on hB1 hb⟩
theorem wN_of' {n : Nat} (h : W256 n) : wN n = n := by unfold wN; exact if_pos h
/-- The number of bytes, the greatest first. -/
def unb (l : List UInt8) : Nat := vl (l.reverse.map UInt8.toNat)
def unD (s : ByteArray) (j : Nat) : List Nat := (List.range j).map fun t => (s.data.toList.getD (31 - t) 0).toNat
theorem unD_succ (s : ByteArray) (j : Nat) : unD s (j + 1) = unD s j ++ [(s.data.toList.getD (31 - j) 0).toNat] := by simp [unD, List.range_succ]
theorem unD_lt (s : ByteArray) (j : Nat) : ∀ d ∈ unD s j, d < 256 := by
  intro d hd
  simp [unD] at hd
  obtain ⟨i, _, rfl⟩ := hd
  exact UInt8.toNat_lt _
theorem unD_all (s : ByteArray) (h : s.size = 32) : unD s 32 = s.data.toList.reverse.map UInt8.toNat := by
  have hl : s.data.toList.length = 32 := by simpa using h
  apply List.ext_getElem (by simp [unD]; exact h.symm)
  intro i h1 h2
  have hi : i < 32 := by simpa [unD] using h1
  simp only [unD, List.getElem_map, List.getElem_range, List.getElem_reverse]
  have e : s.data.toList.length - 1 - i = 31 - i := by omega
  rw [List.getD_eq_getElem?_getD, List.getElem?_eq_getElem (by omega)]
  simp only [e, Option.getD_some]
theorem unb_lt (s : ByteArray) (h : s.size = 32) : W256 (unb s.data.toList) := by
  have h1 := vl_lt (s.data.toList.reverse.map UInt8.toNat) (by intro d hd; simp at hd; obtain ⟨x, _, rfl⟩ := hd; exact UInt8.toNat_lt x)
  have hl : s.data.toList.length = 32 := by simpa using h
  rw [List.length_map, List.length_reverse, hl] at h1
  exact h1
set_option maxHeartbeats 4000000 in
set_option maxRecDepth 100000 in
theorem rfrom_yes (s : ByteArray) (hs : s.size = 32) (w : World) :
    Calls Tryz.prog 78 #[.string s] w fun e w' => e = .returned (.tuple #[.agg #[.int .u64 (limb (unb s.data.toList) 0), .int .u64 (limb (unb s.data.toList) 1), .int .u64 (limb (unb s.data.toList) 2), .int .u64 (limb (unb s.data.toList) 3)], .int .i64 0]) ∧ Below w.heap.size w w' := by
  obtain ⟨i0, hi0, iz0, iz1, iz2⟩ := info_parts infoInt
  have Hs := Lib.hid hs
  have hs1 : ((s.size : Int) != 32) = false := by simp; omega
  have hN := Lib.hid (unb_lt s hs)
  have hall := Lib.hid (unD_all s hs)
  clear hs
  go_enter Tryz.func78, Tryz.ntmps78
  go_wp2_with fail
  go_loopw [4, 5] (fun v i wr => ∃ q : Nat, q ≤ 32 ∧ i = .int .i64 ((q : Int) - 1) ∧ Blk wr w.heap.size 31 #[.int .u64 0, .int .u64 0, .int .u64 0, .int .u64 0] ∧ wr.ownsRow (w.heap.size + 1) 3 1 v (32 - q) (ints (unD s (32 - q))) ∧ Below w.heap.size w wr) (fun _ i _ => (intOf i + 1).toNat)
  case atStart => exact ⟨32, by omega, rfl, blk1 w _ _, World.ownsRow_nil _ _ _ _, BW_alloc (Below.refl _ _) _⟩
  case round =>
    obtain ⟨q, hq, rfl, hblk, hown, hb⟩ := hrel
    by_cases h0 : 0 < q
    · obtain ⟨p, rfl⟩ : ∃ p, q = p + 1 := ⟨q - 1, by omega⟩
      rw [show ((p + 1 : Nat) : Int) - 1 = (p : Int) from by omega]
      have hps : p < s.size := by rw [Hs.out]; omega
      have hlt := hblk.lt
      have hps' : (p : Int) < (s.size : Int) := by omega
      have hsp : s[p].toNat = (s.data.toList.getD p 0).toNat := by
        rw [List.getD_eq_getElem?_getD, List.getElem?_eq_getElem (by simpa using hps)]; rfl
      have hb8 : (s[p].toNat : Int) < 256 := by have := UInt8.toNat_lt s[p]; omega
      have hz := hb.size
      have Hsp := Lib.hid hsp
      clear hsp
      go_wp2_with (at_builtin; go_must (refine wpList_push rfl _ _ 49 rfl (w.heap.size + 1) 3 i0 (.int .i64 0) 1 8 Tryz.underlying49 hi0 iz0 iz1 iz2 rfl (by decide) _ _ _ rfl hown [.int .i64 (s[p].toNat : Int)] rfl rfl rfl (by unfold maxLen; omega) (by omega) (by omega) ?_); intro v1 w3 hown3 hb3 hz3)
      have e : ints (unD s (32 - (p + 1))) ++ [.int .i64 (s[p].toNat : Int)] = ints (unD s (32 - p)) := by
        rw [show 32 - p = (32 - (p + 1)) + 1 by omega, unD_succ, ints_snoc, Hsp.out, show 31 - (32 - (p + 1)) = p by omega]
      rw [e, show 32 - (p + 1) + 1 = 32 - p by omega] at hown3
      clear e
      go_roundw
      case rel => exact ⟨p, by omega, rfl, hblk.below hb3 (by omega), hown3, hb.trans (hb3.mono (by omega))⟩
      case measure => simp [intOf]
    · obtain rfl : q = 0 := by omega
      rw [show ((0 : Nat) : Int) - 1 = -1 from by omega]
      have hnum := number_any _ (w.heap.size + 1) 32 (unD s 32) wr hown (by decide) (by decide) (unD_lt s 32)
      rw [hall.out] at hnum
      change Calls Tryz.prog 51 #[_] wr fun e w' => e = .returned (.tuple #[.agg #[.int .u64 (limb (wN (unb s.data.toList)) 0), .int .u64 (limb (wN (unb s.data.toList)) 1), .int .u64 (limb (wN (unb s.data.toList)) 2), .int .u64 (limb (wN (unb s.data.toList)) 3)], .bool (wOk (unb s.data.toList))]) ∧ Below wr.heap.size wr w' at hnum
      rw [wN_of' hN.out] at hnum
      generalize hNN : unb s.data.toList = N at hnum
      have HNN := Lib.hid hNN
      clear hNN
      have Hnum := Lib.hid hnum
      clear hnum
      go_wp2_with fail
      refine Hnum.out.mono ?_
      rintro e w2 ⟨rfl, hb2⟩
      replace hblk := (hblk.on hb2).alloc (.cells #[.int .u64 (limb N 0), .int .u64 (limb N 1), .int .u64 (limb N 2), .int .u64 (limb N 3)] 31)
      have hB := BW_alloc (BW_on hb hb2) (.cells #[.int .u64 (limb N 0), .int .u64 (limb N 1), .int .u64 (limb N 2), .int .u64 (limb N 3)] 31)
      have fo := fun i => hblk.free i
      have co := fun i => hblk.cell i
      go_wp2
      have hcc := fun i => (hblk.store4 (.int .u64 (limb N 0)) (.int .u64 (limb N 1)) (.int .u64 (limb N 2)) (.int .u64 (limb N 3))).cell i
      refine bodyPost_ret (v := .tuple #[.agg #[.int .u64 (limb N 0), .int .u64 (limb N 1), .int .u64 (limb N 2), .int .u64 (limb N 3)], .int .i64 0]) (by simp [results, Tryz.results78, go_sem, hcc]) rfl ⟨by rw [HNN.out], below_store4 hB (Nat.le_refl _) _ _ _ _⟩
theorem rfrom_no (s : ByteArray) (hs : s.size ≠ 32) (w : World) :
    Calls Tryz.prog 78 #[.string s] w fun e w' => e = .returned (.tuple #[.agg #[.int .u64 0, .int .u64 0, .int .u64 0, .int .u64 0], .int .i64 10]) ∧ Below w.heap.size w w' := by
  have hs1 : ((s.size : Int) != 32) = true := by simp; omega
  go_enter Tryz.func78, Tryz.ntmps78
  go_wp2
  have hcc := fun i => (Blk.new w 31 #[.int .u64 0, .int .u64 0, .int .u64 0, .int .u64 0]).cell i
  refine bodyPost_ret (v := .tuple #[.agg #[.int .u64 0, .int .u64 0, .int .u64 0, .int .u64 0], .int .i64 10]) (by simp [results, Tryz.results78, go_sem, hcc]) rfl ⟨rfl, BW_alloc (Below.refl _ _) _⟩
end Go.Proofs.YtpcdgljcpacpiaaGreatDoor
namespace Go.Proofs.YtpcdgljcpacpiaaGreatDoor
open Go.RowKit
attribute [local go_sem ↓] Go.wp_at_zero Go.wp_at_succ
theorem from_no (s : ByteArray) (hs : s.size ≠ 32) (w : World) :
    Calls Tryz.prog 111 #[.string s] w fun e w' => e = .returned (.tuple #[.agg #[.int .u64 0, .int .u64 0, .int .u64 0, .int .u64 0], .int .i64 10]) ∧ Below w.heap.size w w' := by
  have hs1 : ((s.size : Int) != 32) = true := by simp; omega
  go_enter Tryz.func111, Tryz.ntmps111
  go_wp2
  have hcc := fun i => (Blk.new w 31 #[.int .u64 0, .int .u64 0, .int .u64 0, .int .u64 0]).cell i
  refine bodyPost_ret (v := .tuple #[.agg #[.int .u64 0, .int .u64 0, .int .u64 0, .int .u64 0], .int .i64 10]) (by simp [results, Tryz.results111, go_sem, hcc]) rfl ⟨rfl, BW_alloc (Below.refl _ _) _⟩
def fbv (N i x j : Nat) : Int := if j < i then limb N j else if j = i then (x : Int) else 0
def fbc (N i x : Nat) : Array Value := #[.int .u64 (fbv N i x 0), .int .u64 (fbv N i x 1), .int .u64 (fbv N i x 2), .int .u64 (fbv N i x 3)]
theorem fbc_at (N q x : Nat) (hq : q < 4) : (fbc N q x)[q]? = some (.int .u64 (x : Int)) := by
  have : q = 0 ∨ q = 1 ∨ q = 2 ∨ q = 3 := by omega
  rcases this with rfl | rfl | rfl | rfl <;> simp [fbc, fbv]
theorem fbc_set (N q x y : Nat) (hq : q < 4) : (fbc N q x).setIfInBounds q (.int .u64 (y : Int)) = fbc N q y := by
  have : q = 0 ∨ q = 1 ∨ q = 2 ∨ q = 3 := by omega
  rcases this with rfl | rfl | rfl | rfl <;> simp [fbc, fbv]
theorem fbc_next (N q x : Nat) (hq : q < 4) (h : limb N q = (x : Int)) : fbc N q x = fbc N (q + 1) 0 := by
  have : q = 0 ∨ q = 1 ∨ q = 2 ∨ q = 3 := by omega
  rcases this with rfl | rfl | rfl | rfl <;> simp [fbc, fbv, h]
theorem fbc_all (N : Nat) : fbc N 4 0 = #[.int .u64 (limb N 0), .int .u64 (limb N 1), .int .u64 (limb N 2), .int .u64 (limb N 3)] := by simp [fbc, fbv]
def foldB (l : List UInt8) : Nat := l.foldl (fun a c => a * 256 + c.toNat) 0
theorem foldB_snoc (l : List UInt8) (c : UInt8) : foldB (l ++ [c]) = foldB l * 256 + c.toNat := by simp [foldB, List.foldl_append]
theorem foldB_vl (l : List UInt8) : foldB l = vl (l.reverse.map UInt8.toNat) := by
  suffices h : ∀ r : List UInt8, foldB r.reverse = vl (r.map UInt8.toNat) by
    have := h l.reverse
    rwa [List.reverse_reverse] at this
  intro r
  induction r with
  | nil => rfl
  | cons c r ih => rw [List.reverse_cons, foldB_snoc, ih, List.map_cons]; simp only [vl]; omega
theorem foldB_lt (l : List UInt8) : foldB l < 256 ^ l.length := by
  rw [foldB_vl]
  have h := vl_lt (l.reverse.map UInt8.toNat) (by intro d hd; simp at hd; obtain ⟨x, _, rfl⟩ := hd; exact UInt8.toNat_lt x)
  simpa using h
theorem vl_cutk (ds : List Nat) (k : Nat) (hk : k ≤ ds.length) : vl ds = vl (ds.take k) + vl (ds.drop k) * 256 ^ k := by
  have h := vl_append (ds.take k) (ds.drop k)
  rw [List.take_append_drop, List.length_take, Nat.min_eq_left hk] at h
  exact h
theorem vl_div (ds : List Nat) (k : Nat) (hk : k ≤ ds.length) (hd : ∀ d ∈ ds, d < 256) : vl ds / 256 ^ k = vl (ds.drop k) ∧ vl ds % 256 ^ k = vl (ds.take k) := by
  have h := vl_cutk ds k hk
  have h1 := vl_take_lt ds k hd
  have hp : 0 < 256 ^ k := Nat.pow_pos (by decide)
  rw [h]
  constructor
  · rw [Nat.add_mul_div_right _ _ hp, Nat.div_eq_of_lt h1, Nat.zero_add]
  · rw [Nat.add_mul_mod_self_right, Nat.mod_eq_of_lt h1]
theorem limb_bytes (l : List UInt8) (hl : l.length = 32) (q : Nat) (hq : q < 4) : limb (unb l) q = (foldB ((l.drop ((3 - q) * 8)).take 8) : Int) := by
  have hd : ∀ d ∈ l.reverse.map UInt8.toNat, d < 256 := by intro d hd; simp at hd; obtain ⟨x, _, rfl⟩ := hd; exact UInt8.toNat_lt x
  have hll : (l.reverse.map UInt8.toNat).length = 32 := by simp [hl]
  have e : (18446744073709551616 : Nat) ^ q = 256 ^ (8 * q) := by rw [show (18446744073709551616 : Nat) = 256 ^ 8 by rfl, ← Nat.pow_mul]
  unfold limb unb
  rw [e, (vl_div _ (8 * q) (by omega) hd).1]
  have hd2 : ∀ d ∈ (l.reverse.map UInt8.toNat).drop (8 * q), d < 256 := fun d h => hd d (List.mem_of_mem_drop h)
  rw [show (18446744073709551616 : Nat) = 256 ^ 8 by rfl, (vl_div _ 8 (by rw [List.length_drop]; omega) hd2).2, foldB_vl]
  congr 2
  rw [← List.map_drop, ← List.map_take]
  congr 1
  apply List.ext_getElem?
  intro i
  by_cases hi : i < 8
  · have h1 : i < (List.take 8 (List.drop (8 * q) l.reverse)).length := by simp; omega
    have h2 : i < (List.take 8 (List.drop ((3 - q) * 8) l)).reverse.length := by simp; omega
    rw [List.getElem?_eq_getElem h1, List.getElem?_eq_getElem h2]
    simp only [List.getElem_take, List.getElem_drop, List.getElem_reverse]
    congr 1
    congr 1
    simp
    omega
  · rw [List.getElem?_eq_none (by simp; omega), List.getElem?_eq_none (by simp; omega)]
theorem shl_or (x c : Nat) (hx : x < 72057594037927936) (hc : c < 256) : bits .or .u64 ((x : Int) * 256) (c : Int) = ((x * 256 + c : Nat) : Int) := by
  have h := u64_or_nat (x * 256) c (by omega) (by omega)
  have e : x * 256 ||| c = x * 256 + c := by
    have := or_apart c x 8 (by omega)
    rw [Nat.or_comm, show (2:Nat) ^ 8 = 256 by rfl] at this
    omega
  rw [e] at h
  have e2 : ((x : Int) * 256) = ((x * 256 : Nat) : Int) := by omega
  rw [e2]
  exact h
theorem conv_bytes (w : World) (s : ByteArray) : ∃ wb c, (convert 9 56 (.string s)).run Tryz.prog w = .ok (.slice (some ⟨w.heap.size, 0, none⟩) s.size c) wb ∧ Below w.heap.size w wb ∧ w.heap.size < wb.heap.size ∧
    ∀ j, j < s.size → wb.cell? ⟨w.heap.size, j, none⟩ = some (.int .u8 ((s.data.toList.getD j 0).toNat : Int)) :=
  ⟨_, _, Lib.run_convert_string_bytes w 9 56 5 s Tryz.underlying9 Tryz.underlying56 Tryz.underlying5, ⟨rfl, rfl, rfl, by rw [Lib.bytesWorld_size]; omega, fun k hk => Lib.bytesWorld_at_old _ _ _ _ hk⟩, by rw [Lib.bytesWorld_size]; omega, fun j hj => Lib.bytesWorld_cell w 5 s j hj⟩
set_option maxHeartbeats 4000000 in
set_option maxRecDepth 100000 in
theorem from_yes (s : ByteArray) (hs : s.size = 32) (w : World) :
    Calls Tryz.prog 111 #[.string s] w fun e w' => e = .returned (.tuple #[.agg #[.int .u64 (limb (unb s.data.toList) 0), .int .u64 (limb (unb s.data.toList) 1), .int .u64 (limb (unb s.data.toList) 2), .int .u64 (limb (unb s.data.toList) 3)], .int .i64 0]) ∧ Below w.heap.size w w' := by
  have Hs := Lib.hid hs
  have hs1 : ((s.size : Int) != 32) = false := by simp; omega
  have hN := Lib.hid (unb_lt s hs)
  have hs32 : s.size ≤ 32 := by omega
  have hs33 : 32 ≤ s.size := by omega
  clear hs
  generalize hNN : unb s.data.toList = N at hN ⊢
  have HNN := Lib.hid hNN
  clear hNN
  go_enter Tryz.func111, Tryz.ntmps111
  go_wp2_with fail
  go_loopw [13] (fun i wr => ∃ q : Nat, q ≤ 4 ∧ i = .int .i64 (q : Int) ∧ Blk wr w.heap.size 31 #[.int .u64 0, .int .u64 0, .int .u64 0, .int .u64 0] ∧ Blk wr (w.heap.size + 1) 31 (fbc N q 0) ∧ Below w.heap.size w wr) (fun i _ => 4 - (intOf i).toNat)
  case atStart => exact ⟨0, by omega, rfl, (blk1 w _ _).alloc _, blk2 w (.cells #[.int .u64 0, .int .u64 0, .int .u64 0, .int .u64 0] 31) 31 #[.int .u64 0, .int .u64 0, .int .u64 0, .int .u64 0], BW_alloc (BW_alloc (Below.refl _ _) _) _⟩
  case round =>
    obtain ⟨q, hq, rfl, hz, hout, hb⟩ := hrel
    by_cases hlt : q < 4
    · have hq4 : (q : Int) < 4 := by omega
      obtain ⟨wo, rfl⟩ : ∃ wo : World, wo = wr := ⟨_, rfl⟩
      have hsz : ((3 - q) * 8 + 8 : Nat) ≤ s.size := by omega
      obtain ⟨wb, cp, hcv, hbb, hzb, hcell⟩ := conv_bytes wo (s.extract ((3 - q) * 8) ((3 - q) * 8 + 8))
      have hsz8 : (s.extract ((3 - q) * 8) ((3 - q) * 8 + 8)).size = 8 := by simp; omega
      have hpc : (s.extract ((3 - q) * 8) ((3 - q) * 8 + 8)).data.toList = (s.data.toList.drop ((3 - q) * 8)).take 8 := by simp [ByteArray.extract, ByteArray.copySlice]
      rw [hsz8] at hcv hcell
      have hlim : limb N q = (foldB ((s.data.toList.drop ((3 - q) * 8)).take 8) : Int) := by
        rw [← HNN.out]; exact limb_bytes _ (by simpa using Hs.out) q hlt
      generalize hPP : (s.data.toList.drop ((3 - q) * 8)).take 8 = P at hpc hlim
      have hPl : P.length = 8 := by rw [← hPP]; simp; omega
      rw [hpc] at hcell
      have Hlim := Lib.hid hlim
      have HPl := Lib.hid hPl
      have Hcell := Lib.hid hcell
      have hgw : wo.heap.size ≠ w.heap.size + 1 := by have := hout.lt; omega
      clear hPP hpc hlim hPl hsz8 hcell
      have hz1 := hz.below hbb hz.lt
      have hout1 := hout.below hbb hout.lt
      have hb1 := BW_on hb hbb
      have hwo : w.heap.size ≤ wo.heap.size := hb.size
      go_wp2_with fail
      clear hcv
      go_loopw [26] (fun t wr => ∃ t' : Nat, t' ≤ 8 ∧ t = .int .i64 (t' : Int) ∧ Blk wr w.heap.size 31 #[.int .u64 0, .int .u64 0, .int .u64 0, .int .u64 0] ∧ Blk wr (w.heap.size + 1) 31 (fbc N q (foldB (P.take t'))) ∧ Hid (∀ j, wr.cell? ⟨wo.heap.size, j, none⟩ = wb.cell? ⟨wo.heap.size, j, none⟩) ∧ Below w.heap.size w wr) (fun t _ => 8 - (intOf t).toNat)
      case atStart => exact ⟨0, by omega, rfl, hz1, hout1, fun _ => rfl, hb1⟩
      case round =>
        clear hz hout hb hz1 hout1 hb1
        obtain ⟨t, ht, rfl, hz, hout, hsame, hb⟩ := hrel
        by_cases ht8 : t < 8
        · have ht8' : (t : Int) < 8 := by omega
          have hPt : t < P.length := by rw [HPl.out]; exact ht8
          have hc : wr.cell? ⟨wo.heap.size, t, none⟩ = some (.int .u8 (P[t].toNat : Int)) := by
            rw [hsame.out, Hcell.out t ht8, List.getD_eq_getElem?_getD, List.getElem?_eq_getElem hPt]; rfl
          have hlt8 := UInt8.toNat_lt P[t]
          have hstep : foldB (P.take (t + 1)) = foldB (P.take t) * 256 + P[t].toNat := by
            rw [List.take_succ_eq_append_getElem hPt, foldB_snoc]
          have hfl : foldB (P.take t) < 72057594037927936 := by
            have h1 := foldB_lt (P.take t)
            have h2 : (256 : Nat) ^ (P.take t).length ≤ 256 ^ 7 := Nat.pow_le_pow_right (by decide) (by simp; omega)
            exact Nat.lt_of_lt_of_le h1 h2
          have hor := shl_or _ _ hfl hlt8
          have Hstep := Lib.hid hstep
          clear hstep
          have co := (hout.cell q).trans (fbc_at N q _ hlt)
          have fo := (hout.free q)
          have Hset := Lib.hid (fbc_set N q (foldB (P.take t)) (foldB (P.take t) * 256 + P[t].toNat) hlt)
          generalize foldB (P.take t) = x at *
          have hwx : IntKind.u64.wrap ((x : Int) * 256) = (x : Int) * 256 := by rw [IntKind.wrap_u64]; omega
          go_wp2_with fail
          go_roundw
          case rel => exact ⟨t + 1, by omega, by go_num, hz.off (by simp) _, by rw [Hstep.out, ← Hset.out]; exact hout.set_ _ _, fun j => by rw [World.cell?_setCell_far _ _ _ _ (by simp; omega)]; exact hsame.out j, BW_off (by simp) _ hb⟩
          case measure => simp [intOf]; omega
        · obtain rfl : t = 8 := by omega
          go_wp2_with fail
          go_roundw
          case rel => exact ⟨q + 1, by omega, by go_num, hz, by rw [← fbc_next N q _ hlt Hlim.out]; rw [List.take_of_length_le (by rw [HPl.out]; exact Nat.le_refl _)] at hout; exact hout, hb⟩
          case measure => simp [intOf]; omega
    · obtain rfl : q = 4 := by omega
      rw [fbc_all] at hout
      have co := fun i => hout.cell i
      have fo := fun i => hz.free i
      have cz := fun i => hz.cell i
      go_wp2
      have hcc := fun i => (hz.store4 (.int .u64 (limb N 0)) (.int .u64 (limb N 1)) (.int .u64 (limb N 2)) (.int .u64 (limb N 3))).cell i
      refine bodyPost_ret (v := .tuple #[.agg #[.int .u64 (limb N 0), .int .u64 (limb N 1), .int .u64 (limb N 2), .int .u64 (limb N 3)], .int .i64 0]) (by simp [results, Tryz.results111, go_sem, hcc]) rfl ⟨rfl, below_store4 hb (Nat.le_refl _) _ _ _ _⟩
end Go.Proofs.YtpcdgljcpacpiaaGreatDoor
