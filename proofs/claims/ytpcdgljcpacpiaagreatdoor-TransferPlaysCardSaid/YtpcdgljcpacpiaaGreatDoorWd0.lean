/- Plain facts on numbers of 256 bits: limbs, digits of base 256, and a block that is known whole. -/
import Derived.WalkKit
import Derived.Deep.Draws
namespace Go.Proofs.YtpcdgljcpacpiaaGreatDoor
open Go.RowKit
def limb (n k : Nat) : Int := ((n / 18446744073709551616 ^ k % 18446744073709551616 : Nat) : Int)
def dig (n i : Nat) : Int := ((n / 256 ^ i % 256 : Nat) : Int)
def Lim (x : Int) : Prop := 0 ≤ x ∧ x < 18446744073709551616
theorem Lim.limb (n k : Nat) : Lim (limb n k) := by unfold Lim YtpcdgljcpacpiaaGreatDoor.limb; omega
theorem dig_lo (n i : Nat) : 0 ≤ dig n i := by unfold dig; omega
theorem dig_hi (n i : Nat) : dig n i ≤ 255 := by unfold dig; omega
theorem and255 (x : Int) (h : Lim x) : bits .and .u64 x 255 = x % 256 := by
  rw [u64_and x 255 h.1 h.2 (by omega) (by omega)]
  have e : x.toNat &&& Int.toNat 255 = x.toNat % 256 := Nat.and_two_pow_sub_one_eq_mod x.toNat 8
  rw [e]
  have := h.1
  omega
theorem pow_split (q j : Nat) : 18446744073709551616 ^ q * 256 ^ j = 256 ^ (8 * q + j) := by
  rw [Nat.pow_add, Nat.pow_mul]
theorem mod_shift (x j : Nat) (hj : j < 8) : (x % 18446744073709551616) / 2 ^ (8 * j) % 256 = x / 256 ^ j % 256 := by
  have : j = 0 ∨ j = 1 ∨ j = 2 ∨ j = 3 ∨ j = 4 ∨ j = 5 ∨ j = 6 ∨ j = 7 := by omega
  rcases this with rfl | rfl | rfl | rfl | rfl | rfl | rfl | rfl <;> simp <;> omega
theorem dig_shift (n k : Nat) : bits .and .u64 (limb n (k / 8) / 2 ^ (8 * (k % 8))) 255 = dig n k := by
  have hl : limb n (k / 8) / 2 ^ (8 * (k % 8)) = ((n / 18446744073709551616 ^ (k / 8) % 18446744073709551616 / 2 ^ (8 * (k % 8)) : Nat) : Int) := by
    unfold limb; simp
  have hlim : Lim (limb n (k / 8) / 2 ^ (8 * (k % 8))) := by
    rw [hl]
    have h1 : n / 18446744073709551616 ^ (k / 8) % 18446744073709551616 / 2 ^ (8 * (k % 8)) ≤ n / 18446744073709551616 ^ (k / 8) % 18446744073709551616 := Nat.div_le_self _ _
    have h0 : n / 18446744073709551616 ^ (k / 8) % 18446744073709551616 < 18446744073709551616 := Nat.mod_lt _ (by decide)
    generalize n / 18446744073709551616 ^ (k / 8) % 18446744073709551616 / 2 ^ (8 * (k % 8)) = m at *
    generalize n / 18446744073709551616 ^ (k / 8) % 18446744073709551616 = x at *
    exact ⟨Int.natCast_nonneg _, by omega⟩
  rw [and255 _ hlim, hl]
  unfold dig
  have h2 := mod_shift (n / 18446744073709551616 ^ (k / 8)) (k % 8) (by omega)
  have h3 : n / 18446744073709551616 ^ (k / 8) / 256 ^ (k % 8) = n / 256 ^ k := by
    rw [Nat.div_div_eq_div_mul, pow_split, show 8 * (k / 8) + k % 8 = k by omega]
  rw [h3] at h2
  omega
/-- The value of a list of digits, the least first. -/
def vl : List Nat → Nat
  | [] => 0
  | d :: ds => d + 256 * vl ds
theorem vl_snoc (ds : List Nat) (d : Nat) : vl (ds ++ [d]) = vl ds + d * 256 ^ ds.length := by
  induction ds with
  | nil => simp [vl]
  | cons x xs ih => simp only [List.cons_append, vl, ih, List.length_cons, Nat.pow_succ]; grind
theorem vl_lt (ds : List Nat) (h : ∀ d ∈ ds, d < 256) : vl ds < 256 ^ ds.length := by
  induction ds with
  | nil => simp [vl]
  | cons x xs ih =>
    have h1 := h x (by simp)
    have h2 := ih (fun d hd => h d (by simp [hd]))
    simp only [vl, List.length_cons, Nat.pow_succ]
    generalize 256 ^ xs.length = p at *
    omega
theorem vl_zeros (ds : List Nat) (h : ∀ d ∈ ds, d = 0) : vl ds = 0 := by
  induction ds with
  | nil => rfl
  | cons x xs ih => simp [vl, h x (by simp), ih (fun d hd => h d (by simp [hd]))]
theorem vl_append (xs ys : List Nat) : vl (xs ++ ys) = vl xs + vl ys * 256 ^ xs.length := by
  induction xs with
  | nil => simp [vl]
  | cons x xs ih => simp only [List.cons_append, vl, ih, List.length_cons, Nat.pow_succ]; grind
/-- or is a sum where the bits lie apart -/
theorem or_apart (a d s : Nat) (ha : a < 2 ^ s) : a ||| (d * 2 ^ s) = a + d * 2 ^ s := by
  rw [Nat.mul_comm d, Nat.or_comm, ← Nat.two_pow_add_eq_or_of_lt ha]
  omega
theorem limb_eq (n q : Nat) : limb n q = ((n / 18446744073709551616 ^ q % 18446744073709551616 : Nat) : Int) := rfl
theorem or_limb (N d q j : Nat) (hj : j < 8) (hd : d < 256) (hN : N < 256 ^ (8 * q + j)) :
    bits .or .u64 (limb N q) (((d : Int) * 2 ^ (8 * j)) % 18446744073709551616) = limb (N + d * 256 ^ (8 * q + j)) q := by
  have hp : 256 ^ (8 * q + j) = 18446744073709551616 ^ q * 256 ^ j := by rw [Nat.pow_add, Nat.pow_mul]
  have hjp : (256 : Nat) ^ j = 2 ^ (8 * j) := by rw [show (256 : Nat) = 2 ^ 8 by rfl, ← Nat.pow_mul]
  have hQ : 0 < 18446744073709551616 ^ q := Nat.pow_pos (by decide)
  have hs : d * 2 ^ (8 * j) < 18446744073709551616 := by
    have : j = 0 ∨ j = 1 ∨ j = 2 ∨ j = 3 ∨ j = 4 ∨ j = 5 ∨ j = 6 ∨ j = 7 := by omega
    rcases this with rfl | rfl | rfl | rfl | rfl | rfl | rfl | rfl <;> simp <;> omega
  have hs1 : 2 ^ (8 * j) ≤ 72057594037927936 := by
    have : j = 0 ∨ j = 1 ∨ j = 2 ∨ j = 3 ∨ j = 4 ∨ j = 5 ∨ j = 6 ∨ j = 7 := by omega
    rcases this with rfl | rfl | rfl | rfl | rfl | rfl | rfl | rfl <;> simp
  have hm : ((d : Int) * 2 ^ (8 * j)) % 18446744073709551616 = ((d * 2 ^ (8 * j) : Nat) : Int) := by
    have : ((d : Int) * 2 ^ (8 * j)) = ((d * 2 ^ (8 * j) : Nat) : Int) := by simp
    rw [this]; omega
  have hN2 : N / 18446744073709551616 ^ q < 2 ^ (8 * j) := by
    rw [Nat.div_lt_iff_lt_mul hQ, ← hjp, Nat.mul_comm, ← hp]; exact hN
  have hx : limb N q = ((N / 18446744073709551616 ^ q : Nat) : Int) := by
    unfold limb; rw [Nat.mod_eq_of_lt (by omega)]
  have hy : (N + d * 256 ^ (8 * q + j)) / 18446744073709551616 ^ q = N / 18446744073709551616 ^ q + d * 2 ^ (8 * j) := by
    rw [hp, show d * (18446744073709551616 ^ q * 256 ^ j) = d * 2 ^ (8 * j) * 18446744073709551616 ^ q by rw [← hjp]; grind, Nat.add_mul_div_right _ _ hQ]
  have hlt : N / 18446744073709551616 ^ q + d * 2 ^ (8 * j) < 18446744073709551616 := by
    generalize N / 18446744073709551616 ^ q = X at hN2
    have : j = 0 ∨ j = 1 ∨ j = 2 ∨ j = 3 ∨ j = 4 ∨ j = 5 ∨ j = 6 ∨ j = 7 := by omega
    rcases this with rfl | rfl | rfl | rfl | rfl | rfl | rfl | rfl <;> simp at hN2 ⊢ <;> omega
  rw [hm, hx, u64_or_nat _ _ (by omega) hs, or_apart _ _ _ hN2]
  unfold limb
  rw [hy, Nat.mod_eq_of_lt hlt]
/-- the other limbs stay -/
theorem limb_other (N d k q : Nat) (hd : d < 256) (hN : N < 256 ^ k) (hq : q ≠ k / 8) : limb (N + d * 256 ^ k) q = limb N q := by
  unfold limb
  have hQ : ∀ q, 0 < 18446744073709551616 ^ q := fun q => Nat.pow_pos (by decide)
  rcases Nat.lt_or_ge q (k / 8) with h | h
  · -- 256^k is a multiple of 2^64^(q+1)
    have hk : 256 ^ k = 18446744073709551616 ^ q * (18446744073709551616 * 256 ^ (k - 8 * (q + 1))) := by
      rw [← Nat.mul_assoc, ← Nat.pow_succ, show (18446744073709551616 : Nat) = 256 ^ 8 by rfl, ← Nat.pow_mul, ← Nat.pow_add]
      congr 1; omega
    rw [hk, show d * (18446744073709551616 ^ q * (18446744073709551616 * 256 ^ (k - 8 * (q + 1)))) = (d * 256 ^ (k - 8 * (q + 1)) * 18446744073709551616) * 18446744073709551616 ^ q by grind, Nat.add_mul_div_right _ _ (hQ q)]
    omega
  · have h2 : k / 8 + 1 ≤ q := by omega
    have hb : 256 ^ (k + 1) ≤ 18446744073709551616 ^ q := by
      rw [show (18446744073709551616 : Nat) = 256 ^ 8 by rfl, ← Nat.pow_mul]
      exact Nat.pow_le_pow_right (by decide) (by omega)
    have h3 : N + d * 256 ^ k < 256 ^ (k + 1) := by
      rw [Nat.pow_succ]
      generalize 256 ^ k = p at *
      have : d * p ≤ 255 * p := Nat.mul_le_mul_right _ (by omega)
      omega
    rw [Nat.div_eq_of_lt (by omega), Nat.div_eq_of_lt (by omega)]

/-- A block that is known whole, none of it frozen. -/
def Blk (w : World) (g : Nat) (t : TypeId) (cs : Array Value) : Prop := w.heap[g]? = some (.cells cs t (0, 0))
section
variable {w w' : World} {g : Nat} {t : TypeId} {cs : Array Value}
theorem Blk.lt (h : Blk w g t cs) : g < w.heap.size := by
  rcases Nat.lt_or_ge g w.heap.size with hlt | hge
  · exact hlt
  · unfold Blk at h; rw [Array.getElem?_eq_none hge] at h; cases h
theorem Blk.cell (h : Blk w g t cs) (i : Nat) : w.cell? ⟨g, i, none⟩ = cs[i]? := by
  unfold Blk at h; simp [World.cell?, h]
theorem Blk.free (h : Blk w g t cs) (i : Nat) : w.frozen? ⟨g, i, none⟩ = false := by
  unfold Blk at h; simp [World.frozen?, h]
theorem Blk.new (w : World) (t : TypeId) (cs : Array Value) : Blk (w.alloc (.cells cs t)) w.heap.size t cs := by
  show (w.heap.push _)[w.heap.size]? = _
  simp
theorem Blk.drew (h : Blk w g t cs) : Blk w.drew g t cs := h
theorem Blk.drewN (h : Blk w g t cs) (n : Nat) : Blk (w.drewN n) g t cs := h
theorem Blk.alloc (h : Blk w g t cs) (o : Obj) : Blk (w.alloc o) g t cs := (Below.heap_alloc w o g h.lt).trans h
theorem Blk.set_ (h : Blk w g t cs) (i : Nat) (u : Value) : Blk (w.setCell ⟨g, i, none⟩ u) g t (cs.setIfInBounds i u) := by
  unfold Blk at h ⊢
  simp [World.setCell, Array.getElem?_modify, h]
theorem Blk.far (h : Blk w g t cs) {p : Addr} (hp : g ≠ p.block) (u : Value) : Blk (w.setCell p u) g t cs := (Below.heap_setCell w p u g hp).trans h
theorem Blk.below {B : Nat} (h : Blk w g t cs) (hb : Below B w w') (hg : g < B) : Blk w' g t cs := (hb.block g hg).trans h
end
theorem own_mono {w : World} {base B : Nat} {e : TypeId} {size : Nat} {v : Value} {n : Nat} {xs : List Value} (h : w.ownsRow base e size v n xs) (hB : B ≤ base) : w.ownsRow B e size v n xs := by
  obtain ⟨h1, h2⟩ := h
  refine ⟨h1, ?_⟩
  rcases h2 with h2 | ⟨g, cap, cur, hv, hg, r⟩
  · exact .inl h2
  · exact .inr ⟨g, cap, cur, hv, by omega, r⟩
/-- The cells of a number of 256 bits. -/
def wcells (n : Nat) : Array Value := #[.int .u64 (limb n 0), .int .u64 (limb n 1), .int .u64 (limb n 2), .int .u64 (limb n 3)]
theorem wcells_at (n k : Nat) (h : k < 4) : (wcells n)[k]? = some (.int .u64 (limb n k)) := by
  have : k = 0 ∨ k = 1 ∨ k = 2 ∨ k = 3 := by omega
  rcases this with rfl | rfl | rfl | rfl <;> rfl
theorem wcells_set (N d k : Nat) (hd : d < 256) (hN : N < 256 ^ k) (hk : k < 32) : (wcells N).setIfInBounds (k / 8) (.int .u64 (limb (N + d * 256 ^ k) (k / 8))) = wcells (N + d * 256 ^ k) := by
  have : k / 8 = 0 ∨ k / 8 = 1 ∨ k / 8 = 2 ∨ k / 8 = 3 := by omega
  have o := fun q hq => limb_other N d k q hd hN hq
  rcases this with h | h | h | h
  all_goals
    rw [h] at o ⊢
    simp [wcells]
  · exact ⟨o 1 (by omega) |>.symm, (o 2 (by omega)).symm, (o 3 (by omega)).symm⟩
  · exact ⟨o 0 (by omega) |>.symm, (o 2 (by omega)).symm, (o 3 (by omega)).symm⟩
  · exact ⟨o 0 (by omega) |>.symm, (o 1 (by omega)).symm, (o 3 (by omega)).symm⟩
  · exact ⟨o 0 (by omega) |>.symm, (o 1 (by omega)).symm, (o 2 (by omega)).symm⟩
def ints (ds : List Nat) : List Value := ds.map fun (d : Nat) => Value.int .i64 (d : Int)
def digl (n k : Nat) : List Nat := (List.range k).map fun i => n / 256 ^ i % 256
def digs (n k : Nat) : List Value := (List.range k).map fun i => .int .i64 (dig n i)
theorem digs_ints (n k : Nat) : digs n k = ints (digl n k) := by simp [digs, ints, digl, dig]
theorem digs_succ (n k : Nat) : digs n (k + 1) = digs n k ++ [.int .i64 (dig n k)] := by simp [digs, List.range_succ]
theorem digl_succ (n k : Nat) : digl n (k + 1) = digl n k ++ [n / 256 ^ k % 256] := by simp [digl, List.range_succ]
theorem digl_len (n k : Nat) : (digl n k).length = k := by simp [digl]
theorem digl_lt (n k : Nat) : ∀ d ∈ digl n k, d < 256 := by
  intro d hd
  simp [digl] at hd
  obtain ⟨i, _, rfl⟩ := hd
  omega
theorem vl_digl (n k : Nat) : vl (digl n k) = n % 256 ^ k := by
  induction k with
  | zero => simp [digl, vl, Nat.mod_one]
  | succ k ih => rw [digl_succ, vl_snoc, ih, digl_len, Nat.pow_succ, Nat.mod_mul]; grind

/-- The carry into place k of a sum. -/
def cy (n m k : Nat) : Nat := (n % 256 ^ k + m % 256 ^ k) / 256 ^ k
theorem cy_zero (n m : Nat) : cy n m 0 = 0 := by simp [cy, Nat.mod_one]
theorem cy_step (n m k : Nat) : n / 256 ^ k % 256 + m / 256 ^ k % 256 + cy n m k = (n + m) / 256 ^ k % 256 + 256 * cy n m (k + 1) := by
  have hp : 0 < 256 ^ k := Nat.pow_pos (by decide)
  have h1 : (n + m) / 256 ^ k = n / 256 ^ k + m / 256 ^ k + cy n m k := by
    have e : n + m = n % 256 ^ k + m % 256 ^ k + 256 ^ k * (n / 256 ^ k + m / 256 ^ k) := by
      have a := Nat.div_add_mod n (256 ^ k)
      have b := Nat.div_add_mod m (256 ^ k)
      rw [Nat.mul_add]; omega
    have := Nat.add_mul_div_left (n % 256 ^ k + m % 256 ^ k) (n / 256 ^ k + m / 256 ^ k) hp
    rw [← e] at this
    rw [this]; unfold cy; omega
  have h2 : cy n m (k + 1) = (n / 256 ^ k % 256 + m / 256 ^ k % 256 + cy n m k) / 256 := by
    have e : n % 256 ^ (k + 1) + m % 256 ^ (k + 1) = n % 256 ^ k + m % 256 ^ k + 256 ^ k * (n / 256 ^ k % 256 + m / 256 ^ k % 256) := by
      rw [Nat.pow_succ, Nat.mod_mul, Nat.mod_mul, Nat.mul_add]; omega
    have := Nat.add_mul_div_left (n % 256 ^ k + m % 256 ^ k) (n / 256 ^ k % 256 + m / 256 ^ k % 256) hp
    unfold cy
    rw [e, Nat.pow_succ, ← Nat.div_div_eq_div_mul, this]
    congr 1; omega
  rw [h1, h2]
  generalize n / 256 ^ k = a
  generalize m / 256 ^ k = b
  generalize cy n m k = c
  omega
theorem cy_le (n m k : Nat) : cy n m k ≤ 1 := by
  have hp : 0 < 256 ^ k := Nat.pow_pos (by decide)
  have a := Nat.mod_lt n hp
  have b := Nat.mod_lt m hp
  unfold cy
  have : n % 256 ^ k + m % 256 ^ k < 2 * 256 ^ k := by omega
  have := (Nat.div_lt_iff_lt_mul hp).2 this
  omega
theorem vl_sum (n m : Nat) (hn : n < 256 ^ 32) (hm : m < 256 ^ 32) : vl (digl (n + m) 32 ++ [cy n m 32]) = n + m := by
  rw [vl_snoc, vl_digl, digl_len]
  unfold cy
  rw [Nat.mod_eq_of_lt hn, Nat.mod_eq_of_lt hm, Nat.mul_comm]
  exact Nat.mod_add_div _ _
/-- The digits of a sum, with the last carry. -/
theorem dig_sum (n m k : Nat) : (dig n k + dig m k + (cy n m k : Int)) % 256 = dig (n + m) k ∧ (dig n k + dig m k + (cy n m k : Int)) / 256 = (cy n m (k + 1) : Int) := by
  have h := cy_step n m k
  unfold dig
  constructor <;> omega
def wOk (n : Nat) : Bool := decide (n < 256 ^ 32)
def wN (n : Nat) : Nat := if n < 256 ^ 32 then n else 0
theorem ints_snoc (ds : List Nat) (d : Nat) : ints (ds ++ [d]) = ints ds ++ [.int .i64 (d : Int)] := by simp [ints]
theorem ints_len (ds : List Nat) : (ints ds).length = ds.length := by simp [ints]
theorem ints_at (ds : List Nat) (i d : Nat) (h : ds[i]? = some d) : (ints ds)[i]? = some (.int .i64 (d : Int)) := by simp [ints, h]
theorem own_form {w : World} {base : Nat} {e : TypeId} {v : Value} {n : Nat} {xs : List Value} (h : w.ownsRow base e 1 v n xs) (hn : 0 < n) :
    ∃ g cap, v = .slice (some ⟨g, 0, none⟩) n cap ∧ base ≤ g ∧ g < w.heap.size ∧ n ≤ cap ∧ ∀ i x, xs[i]? = some x → w.cell? ⟨g, i, none⟩ = some x := by
  rcases h.2 with ⟨rfl, rfl⟩ | ⟨g, cap, cur, rfl, hg, hh, hnc, r⟩
  · have := h.1; simp at this; omega
  · refine ⟨g, cap, rfl, hg, ?_, hnc, fun i x hx => ?_⟩
    · exact (h.lt g rfl).2
    · have hi : i < xs.length := (List.getElem?_eq_some_iff.1 hx).1
      have := h.1
      rw [World.ownsRow.cellAt h i (by omega)]
      exact hx

theorem vl_pos (ds : List Nat) (i d : Nat) (h : ds[i]? = some d) (hd : 0 < d) : 0 < vl ds := by
  induction ds generalizing i with
  | nil => simp at h
  | cons x xs ih =>
    cases i with
    | zero => simp at h; simp [vl]; omega
    | succ i => have := ih i (by simpa using h); simp [vl]; omega
theorem vl_cut (ds : List Nat) : vl ds = vl (ds.take 32) + vl (ds.drop 32) * 256 ^ (ds.take 32).length := by
  rw [← vl_append, List.take_append_drop]
/-- Either all digits from the 33rd on are 0, or there is a first one that is not. -/
theorem first_other (ds : List Nat) : (∀ (i d : Nat), 32 ≤ i → ds[i]? = some d → d = 0) ∨ ∃ j d0, 32 ≤ j ∧ ds[j]? = some d0 ∧ 0 < d0 ∧ ∀ (i d : Nat), 32 ≤ i → i < j → ds[i]? = some d → d = 0 := by
  by_cases h : ∃ j, 32 ≤ j ∧ ∃ d0, ds[j]? = some d0 ∧ 0 < d0
  · right
    have hex : ∃ j, 32 ≤ j ∧ (∃ d0, ds[j]? = some d0 ∧ 0 < d0) ∧ ∀ i, i < j → ¬ (32 ≤ i ∧ ∃ d0, ds[i]? = some d0 ∧ 0 < d0) := by
      obtain ⟨j, hj⟩ := h
      induction j using Nat.strongRecOn with
      | _ j ih =>
        by_cases hm : ∃ i, i < j ∧ (32 ≤ i ∧ ∃ d0, ds[i]? = some d0 ∧ 0 < d0)
        · obtain ⟨i, hi, hq⟩ := hm
          exact ih i hi hq
        · exact ⟨j, hj.1, hj.2, fun i hi hq => hm ⟨i, hi, hq⟩⟩
    obtain ⟨j, h1, ⟨d0, h2, h3⟩, h4⟩ := hex
    refine ⟨j, d0, h1, h2, h3, fun i d hi hij hd => ?_⟩
    rcases Nat.eq_zero_or_pos d with h0 | h0
    · exact h0
    · exact absurd ⟨hi, d, hd, h0⟩ (h4 i hij)
  · left
    intro i d hi hd
    rcases Nat.eq_zero_or_pos d with h0 | h0
    · exact h0
    · exact absurd ⟨i, hi, d, hd, h0⟩ h
theorem vl_all0 (ds : List Nat) (hd : ∀ d ∈ ds, d < 256) (h : ∀ (i d : Nat), 32 ≤ i → ds[i]? = some d → d = 0) : vl ds = vl (ds.take 32) ∧ vl ds < 256 ^ 32 := by
  have h0 : vl (ds.drop 32) = 0 := vl_zeros _ fun d hd => by
    obtain ⟨i, hi, he⟩ := List.mem_iff_getElem.1 hd
    rw [List.getElem_drop] at he
    exact h (32 + i) d (by omega) (by rw [← he]; exact List.getElem?_eq_getElem _)
  have h1 := vl_cut ds
  rw [h0] at h1
  have h2 := vl_lt (ds.take 32) (fun d h => hd d (List.mem_of_mem_take h))
  have h3 : (256 : Nat) ^ (ds.take 32).length ≤ 256 ^ 32 := Nat.pow_le_pow_right (by decide) (by simp; omega)
  omega
theorem vl_other (ds : List Nat) (j d0 : Nat) (hj : 32 ≤ j) (h : ds[j]? = some d0) (hd0 : 0 < d0) : ¬ vl ds < 256 ^ 32 := by
  have hl : j < ds.length := (List.getElem?_eq_some_iff.1 h).1
  have h1 := vl_cut ds
  have h2 : 0 < vl (ds.drop 32) := vl_pos _ (j - 32) d0 (by rw [List.getElem?_drop, show 32 + (j - 32) = j by omega]; exact h) hd0
  have h3 : (ds.take 32).length = 32 := by simp; omega
  rw [h3] at h1
  have h4 : 256 ^ 32 ≤ vl (ds.drop 32) * 256 ^ 32 := Nat.le_mul_of_pos_left _ h2
  omega
end Go.Proofs.YtpcdgljcpacpiaaGreatDoor
