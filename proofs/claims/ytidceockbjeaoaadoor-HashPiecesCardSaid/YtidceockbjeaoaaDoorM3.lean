/- The tables as the words say: is one number by digits greater than another? -/
import Derived.Test.YtidceockbjeaoaaDoorM2
namespace Go.Proofs.YtidceockbjeaoaaDoor
open Go.RowKit
attribute [local go_sem ↓] Go.wp_at_zero Go.wp_at_succ
def valN (f : Nat → Nat) : Nat → Nat
  | 0 => 0
  | n + 1 => valN f n + f n * 65536 ^ n
theorem valN_lt {f : Nat → Nat} (h : ∀ i, f i < 65536) (n : Nat) : valN f n < 65536 ^ n := by
  induction n with
  | zero => simp [valN]
  | succ n ih =>
    have h1 := Nat.mul_le_mul_right (65536 ^ n) (show f n ≤ 65535 by have := h n; omega)
    simp only [valN, Nat.pow_succ]
    omega
theorem valN_above {f g : Nat → Nat} {m : Nat} (h : ∀ j, m < j → f j = g j) (k : Nat) : valN f (m + 1 + k) + valN g (m + 1) = valN g (m + 1 + k) + valN f (m + 1) := by
  induction k with
  | zero => rw [Nat.add_zero, Nat.add_comm]
  | succ k ih =>
    rw [← Nat.add_assoc]
    show valN f (m + 1 + k) + f (m + 1 + k) * _ + _ = valN g (m + 1 + k) + g (m + 1 + k) * _ + _
    rw [h (m + 1 + k) (by omega)]
    omega
theorem val_valN (l : List Nat) (n : Nat) (h : l.length ≤ n) : val l = valN (fun i => l.getD i 0) n := by
  have h1 : ∀ k, k ≤ l.length → val (l.take k) = valN (fun i => l.getD i 0) k := by
    intro k
    induction k with
    | zero => intro _; rfl
    | succ k ih => intro hk; rw [val_take l k (by omega), ih (by omega)]; rfl
  have h2 : ∀ k, valN (fun i => l.getD i 0) (l.length + k) = val l := by
    intro k
    induction k with
    | zero => rw [Nat.add_zero, ← h1 l.length (Nat.le_refl _), List.take_length]
    | succ k ih =>
      rw [← Nat.add_assoc]
      show valN _ (l.length + k) + l.getD (l.length + k) 0 * _ = _
      rw [ih, List.getD_eq_getElem?_getD, List.getElem?_eq_none (by omega)]
      simp
  have := h2 (n - l.length)
  rw [show l.length + (n - l.length) = n by omega] at this
  exact this.symm
theorem val_cmp {a b : List Nat} (ha : a.length ≤ 41) (hb : b.length ≤ 41) (da : D16 a) (db : D16 b) {m : Nat} (hm : m < 41) (h : ∀ j, m < j → a.getD j 0 = b.getD j 0) (hne : a.getD m 0 ≠ b.getD m 0) :
    decide (val b < val a) = decide (b.getD m 0 < a.getD m 0) := by
  have e := valN_above (f := fun i => a.getD i 0) (g := fun i => b.getD i 0) h (41 - (m + 1))
  rw [show m + 1 + (41 - (m + 1)) = 41 by omega, ← val_valN a 41 ha, ← val_valN b 41 hb] at e
  have e1 : valN (fun i => a.getD i 0) (m + 1) = valN (fun i => a.getD i 0) m + a.getD m 0 * 65536 ^ m := rfl
  have e2 : valN (fun i => b.getD i 0) (m + 1) = valN (fun i => b.getD i 0) m + b.getD m 0 * 65536 ^ m := rfl
  rw [e1, e2] at e
  have l1 := valN_lt da m
  have l2 := valN_lt db m
  generalize valN (fun i => a.getD i 0) m = p at *
  generalize valN (fun i => b.getD i 0) m = q at *
  generalize a.getD m 0 = x at *
  generalize b.getD m 0 = y at *
  generalize 65536 ^ m = P at *
  rcases Nat.lt_or_ge y x with hxy | hxy
  · have h1 := Nat.mul_le_mul_right P (show y + 1 ≤ x from hxy)
    rw [Nat.add_mul, Nat.one_mul] at h1
    rw [decide_eq_true hxy, decide_eq_true (show val b < val a by omega)]
  · have h1 := Nat.mul_le_mul_right P (show x + 1 ≤ y by omega)
    rw [Nat.add_mul, Nat.one_mul] at h1
    rw [decide_eq_false (by omega), decide_eq_false (by omega)]
theorem val_same {a b : List Nat} (ha : a.length ≤ 41) (hb : b.length ≤ 41) (h : ∀ j, a.getD j 0 = b.getD j 0) : val a = val b := by
  rw [val_valN a 41 ha, val_valN b 41 hb]
  congr 1
  funext i
  exact h i
set_option maxHeartbeats 4000000 in
set_option maxRecDepth 100000 in
theorem rgreater_any (va vb : Value) (a b : List Nat) (w : World) (hra : Hid (R64 w va a)) (hrb : Hid (R64 w vb b)) (hla : a.length ≤ 41) (hlb : b.length ≤ 41) (hda : D16 a) (hdb : D16 b) :
    Calls Tryd.prog 47 #[va, vb] w fun e w' => e = .returned (.bool (decide (val b < val a))) ∧ w = w' := by
  obtain ⟨pa, ca, rfl, ha1⟩ := hra.out
  obtain ⟨pb, cb, rfl, hb1⟩ := hrb.out
  have Ha := Lib.hid ha1
  have Hb := Lib.hid hb1
  have Hda := Lib.hid hda
  have Hdb := Lib.hid hdb
  clear ha1 hb1 hra hrb hda hdb
  go_enter Tryd.func47, Tryd.ntmps47
  go_wp2_with fail
  go_loopw [5, 6, 7] (fun i _ _ wi => ∃ m : Nat, m ≤ 41 ∧ i = .int .i64 ((m : Int) - 1) ∧ Hid (∀ j, m ≤ j → a.getD j 0 = b.getD j 0) ∧ w = wi) (fun i _ _ _ => (intOf i + 1).toNat)
  case atStart => exact ⟨41, by omega, rfl, Lib.hid (fun j hj => by rw [List.getD_eq_getElem?_getD, List.getD_eq_getElem?_getD, List.getElem?_eq_none (by omega), List.getElem?_eq_none (by omega)]), rfl⟩
  case round =>
    obtain ⟨m, hm, rfl, hq, rfl⟩ := hrel
    rcases m with _ | m
    · rw [show ((0 : Nat) : Int) - 1 = -1 from rfl]
      have he : Hid (decide (val b < val a) = false) := Lib.hid (by rw [val_same hla hlb (fun j => hq.out j (Nat.zero_le _))]; exact decide_eq_false (Nat.lt_irrefl _))
      go_wp2_with fail
      go_ret
      exact ⟨by rw [he.out]; rfl, rfl⟩
    · rw [show ((m + 1 : Nat) : Int) - 1 = (m : Int) by omega]
      have hm0 : (0 : Int) ≤ (m : Int) := by omega
      have fin : ∀ x y : Nat, a.getD m 0 = x → b.getD m 0 = y → Hid ((x = y → ∀ j, m ≤ j → a.getD j 0 = b.getD j 0) ∧ (x ≠ y → decide (val b < val a) = decide (y < x))) := fun x y hx hy => Lib.hid ⟨fun e j hj => by
        rcases Nat.lt_or_ge m j with h1 | h1
        · exact hq.out j h1
        · obtain rfl : j = m := by omega
          rw [hx, hy, e], fun hne => by
        rw [val_cmp hla hlb Hda.out Hdb.out (by omega) (fun j hj => hq.out j hj) (by rw [hx, hy]; exact hne), hx, hy]⟩
      by_cases h1 : m < a.length
      · obtain ⟨ga, oa, rfl, hca⟩ := Ha.out (by omega)
        have cx := hca m h1
        have h1i : (m : Int) < (a.length : Int) := by omega
        clear hca
        by_cases h2 : m < b.length
        · obtain ⟨gb, ob, rfl, hcb⟩ := Hb.out (by omega)
          have cy := hcb m h2
          have h2i : (m : Int) < (b.length : Int) := by omega
          have hf := fin _ _ rfl rfl
          clear hcb fin
          generalize a.getD m 0 = x at *
          generalize b.getD m 0 = y at *
          by_cases hxy : x = y
          · subst hxy
            have hq2 := Lib.hid (hf.out.1 rfl)
            go_wp2_with fail
            go_roundw
            case rel => exact ⟨m, by omega, by go_num, hq2, by trivial⟩
            case measure => simp [intOf]
          · have hxy2 : ¬ (x : Int) = (y : Int) := by omega
            have hr := Lib.hid (hf.out.2 hxy)
            go_wp2_with fail
            go_ret
            exact ⟨by rw [hr.out]; simp, rfl⟩
        · have h2i : ¬ (m : Int) < (b.length : Int) := by omega
          have hy : b.getD m 0 = 0 := by rw [List.getD_eq_getElem?_getD, List.getElem?_eq_none (by omega)]; rfl
          have hf := fin _ _ rfl hy
          clear fin
          generalize a.getD m 0 = x at *
          by_cases hxy : x = 0
          · subst hxy
            have hq2 := Lib.hid (hf.out.1 rfl)
            go_wp2_with fail
            go_roundw
            case rel => exact ⟨m, by omega, by go_num, hq2, by trivial⟩
            case measure => simp [intOf]
          · have hxy2 : ¬ (x : Int) = 0 := by omega
            have hr := Lib.hid (hf.out.2 hxy)
            go_wp2_with fail
            go_ret
            exact ⟨by rw [hr.out]; simp, rfl⟩
      · have h1i : ¬ (m : Int) < (a.length : Int) := by omega
        have hx : a.getD m 0 = 0 := by rw [List.getD_eq_getElem?_getD, List.getElem?_eq_none (by omega)]; rfl
        by_cases h2 : m < b.length
        · obtain ⟨gb, ob, rfl, hcb⟩ := Hb.out (by omega)
          have cy := hcb m h2
          have h2i : (m : Int) < (b.length : Int) := by omega
          have hf := fin _ _ hx rfl
          clear hcb fin
          generalize b.getD m 0 = y at *
          by_cases hxy : 0 = y
          · subst hxy
            have hq2 := Lib.hid (hf.out.1 rfl)
            go_wp2_with fail
            go_roundw
            case rel => exact ⟨m, by omega, by go_num, hq2, by trivial⟩
            case measure => simp [intOf]
          · have hxy2 : ¬ (0 : Int) = (y : Int) := by omega
            have hr := Lib.hid (hf.out.2 hxy)
            go_wp2_with fail
            go_ret
            exact ⟨by rw [hr.out]; simp, rfl⟩
        · have h2i : ¬ (m : Int) < (b.length : Int) := by omega
          have hy : b.getD m 0 = 0 := by rw [List.getD_eq_getElem?_getD, List.getElem?_eq_none (by omega)]; rfl
          have hf := fin _ _ hx hy
          have hq2 := Lib.hid (hf.out.1 rfl)
          go_wp2_with fail
          go_roundw
          case rel => exact ⟨m, by omega, by go_num, hq2, by trivial⟩
          case measure => simp [intOf]
end Go.Proofs.YtidceockbjeaoaaDoor
