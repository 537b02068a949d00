/- The tables as the words say: numbers by digits of 16 bits (plain), and digits. -/
import Derived.Test.YtidceockbjeaoaaDoorT6
import Derived.Test.YtidceockbjeaoaaDoorOc
namespace Go.Proofs.YtidceockbjeaoaaDoor
open Go.RowKit
attribute [local go_sem ↓] Go.wp_at_zero Go.wp_at_succ
/-- The number of digits by 65536, the least first. -/
def val : List Nat → Nat
  | [] => 0
  | d :: l => d + 65536 * val l
theorem val_app (a b : List Nat) : val (a ++ b) = val a + 65536 ^ a.length * val b := by
  induction a with
  | nil => simp [val]
  | cons d l ih =>
    simp only [List.cons_append, val, ih, List.length_cons, Nat.pow_succ]
    rw [Nat.mul_add, Nat.add_assoc, ← Nat.mul_assoc, Nat.mul_comm 65536 (65536 ^ l.length)]
theorem val_zeros (n : Nat) : val (List.replicate n 0) = 0 := by
  induction n with
  | zero => rfl
  | succ n ih => rw [List.replicate_succ]; simp [val, ih]
theorem val_take (l : List Nat) (k : Nat) (h : k < l.length) : val (l.take (k + 1)) = val (l.take k) + l.getD k 0 * 65536 ^ k := by
  rw [List.take_succ_eq_append_getElem h, val_app, List.length_take, Nat.min_eq_left (by omega), List.getD_eq_getElem?_getD, List.getElem?_eq_getElem h]
  simp [val, Nat.mul_comm]
theorem val_set : ∀ (l : List Nat) (j x : Nat), j < l.length → val (l.set j x) + l.getD j 0 * 65536 ^ j = val l + x * 65536 ^ j
  | [], j, x, h => by simp at h
  | d :: l, 0, x, _ => by simp [val]; omega
  | d :: l, j + 1, x, h => by
    have ih := val_set l j x (by simpa using h)
    simp only [List.set_cons_succ, val, List.getD_cons_succ, Nat.pow_succ]
    have e1 : l.getD j 0 * (65536 ^ j * 65536) = 65536 * (l.getD j 0 * 65536 ^ j) := by rw [← Nat.mul_assoc, Nat.mul_comm _ 65536]
    have e2 : x * (65536 ^ j * 65536) = 65536 * (x * 65536 ^ j) := by rw [← Nat.mul_assoc, Nat.mul_comm _ 65536]
    rw [e1, e2]
    omega
theorem val_lt : ∀ (l : List Nat), (∀ d ∈ l, d < 65536) → val l < 65536 ^ l.length
  | [], _ => by simp [val]
  | d :: l, h => by
    have ih := val_lt l (fun x hx => h x (List.mem_cons_of_mem _ hx))
    have hd := h d List.mem_cons_self
    simp only [val, List.length_cons, Nat.pow_succ]
    omega
/-- The digits of a number of 64 bits. -/
def dg16 (n : Nat) : List Nat := [n % 65536, n / 65536 % 65536, n / 4294967296 % 65536, n / 281474976710656]
theorem val_dg16 (n : Nat) : val (dg16 n) = n := by
  unfold dg16
  simp only [val]
  omega
theorem dg16_lt (n : Nat) (h : n < 18446744073709551616) : ∀ d ∈ dg16 n, d < 65536 := by
  intro d hd
  simp only [dg16, List.mem_cons, List.not_mem_nil, or_false] at hd
  omega
def U64s (l : List Nat) : List Value := l.map fun (d : Nat) => Value.int .u64 (d : Int)
/-- A row of numbers of 64 bits. -/
def R64 (w : World) (v : Value) (l : List Nat) : Prop := ∃ p cap, v = .slice p l.length cap ∧ (0 < l.length → ∃ g off, p = some ⟨g, off, none⟩ ∧ ∀ i, i < l.length → w.cell? ⟨g, off + i, none⟩ = some (.int .u64 ((l.getD i 0 : Nat) : Int)))
theorem R64.on {w w' : World} {v : Value} {l : List Nat} (h : R64 w v l) (hb : Below w.heap.size w w') : R64 w' v l := by
  obtain ⟨p, cap, rfl, hf⟩ := h
  exact ⟨p, cap, rfl, fun h0 => by obtain ⟨g, off, rfl, hc⟩ := hf h0; exact ⟨g, off, rfl, fun i hi => BW_cell hb (hc i hi)⟩⟩
theorem U64s_at {l : List Nat} {i : Nat} (h : i < l.length) : (U64s l).toArray[i]? = some (.int .u64 ((l.getD i 0 : Nat) : Int)) := by
  simp [U64s, List.getD_eq_getElem?_getD, h]
theorem U64s_set (l : List Nat) (i : Nat) (x : Nat) : (U64s l).toArray.setIfInBounds i (.int .u64 (x : Int)) = (U64s (l.set i x)).toArray := by
  simp [U64s, List.map_set]
theorem and16 (n : Nat) (h : n < 18446744073709551616) : bits .and .u64 (n : Int) 65535 = ((n % 65536 : Nat) : Int) := by
  have e : bits .and .u64 (n : Int) 65535 = IntKind.u64.wrap (((BitVec.ofInt 64 (n : Int) &&& BitVec.ofInt 64 65535).toNat : Nat) : Int) := rfl
  have h2 : (BitVec.ofInt 64 (n : Int) &&& BitVec.ofInt 64 65535).toNat = n % 65536 := by
    rw [BitVec.toNat_and, BitVec.ofInt_natCast, BitVec.toNat_ofNat, Nat.mod_eq_of_lt (by omega), show (BitVec.ofInt 64 65535).toNat = 2 ^ 16 - 1 from rfl, Nat.and_two_pow_sub_one_eq_mod]
  rw [e, h2, IntKind.wrap_u64]
  omega
set_option maxHeartbeats 1000000 in
theorem rdig_any (n : Nat) (hn : n < 18446744073709551616) (w : World) :
    Calls Tryd.prog 46 #[.int .u64 (n : Int)] w fun e w' => ∃ v, e = .returned v ∧ R64 w' v (dg16 n) ∧ Below w.heap.size w w' := by
  have h0 := and16 n hn
  have h1 := and16 (n / 65536) (by omega)
  have h2 := and16 (n / 4294967296) (by omega)
  have e1 : (n : Int) / 65536 = ((n / 65536 : Nat) : Int) := by omega
  have e2 : (n : Int) / 4294967296 = ((n / 4294967296 : Nat) : Int) := by omega
  have e3 : (n : Int) / 281474976710656 = ((n / 281474976710656 : Nat) : Int) := by omega
  have Hd : Hid (dg16 n = [n % 65536, n / 65536 % 65536, n / 4294967296 % 65536, n / 281474976710656]) := Lib.hid rfl
  generalize n / 65536 = n1 at *
  generalize n / 4294967296 = n2 at *
  generalize n / 281474976710656 = n3 at *
  generalize n % 65536 = m0 at *
  generalize n1 % 65536 = m1 at *
  generalize n2 % 65536 = m2 at *
  go_enter Tryd.func46, Tryd.ntmps46
  go_wp2_with fail
  go_ret
  refine ⟨_, rfl, ⟨_, 4, rfl, fun _ => ⟨w.heap.size, 0, rfl, fun i hi => ?_⟩⟩, BW_alloc (BW_refl w) _⟩
  rw [Hd.out] at hi ⊢
  rw [Nat.zero_add]
  exact ((blk1 w 71 (U64s [m0, m1, m2, n3]).toArray).cell i).trans (U64s_at hi)
end Go.Proofs.YtidceockbjeaoaaDoor
