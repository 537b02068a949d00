/- Contracts of small functions of layer 13 (packet): Late, Failed, Done, Result at two kinds of answers; the law's awake. -/
import Derived.Test.YtbimnfmjgmfijaaDoorRows
import Derived.Test.YtbimnfmjgmfijaaDoorKitA
import Derived.WalkKit
import Derived.WalkSpells
import Derived.WalkLawsBesides
import Derived.Deep.QuietTactic
import Derived.BigQuiet
namespace Go.Proofs.YtbimnfmjgmfijaaDoor
open Go.RowKit

def lateB (ph pt h t : Int) : Bool := (decide (ph ≠ 0) && decide (ph ≤ h)) || (decide (pt ≠ 0) && decide (pt ≤ t))
set_option maxHeartbeats 4000000 in
theorem late_any (c0 c1 c2 c3 c4 c5 c6 c7 c8 c9 : Value) (ph pt h t : Int) (w : World) :
    Calls Tryd.prog 20 #[.agg #[c0, c1, c2, c3, c4, c5, c6, c7, c8, c9, .int .i64 ph, .int .i64 pt], .int .i64 h, .int .i64 t] w fun e w' => e = .returned (.bool (lateB ph pt h t)) ∧ Below w.heap.size w w' := by
  have i0 : ∀ w, (Instr.index 69 (.agg #[.int .i64 ph, .int .i64 h, .int .i64 pt, .int .i64 t]) (.int .i64 0)).run Tryd.prog w = .ok (.agg #[.int .i64 ph, .int .i64 h]) w := fun _ => by kernel_rfl
  have i1 : ∀ w, (Instr.index 69 (.agg #[.int .i64 ph, .int .i64 h, .int .i64 pt, .int .i64 t]) (.int .i64 1)).run Tryd.prog w = .ok (.agg #[.int .i64 pt, .int .i64 t]) w := fun _ => by kernel_rfl
  have e1 : ((ph != 0) = true ∧ ph ≤ h) ∨ ((ph != 0) = true ∧ h < ph) ∨ (ph != 0) = false := by
    by_cases a : ph = 0
    · right; right; simp [a]
    · by_cases b : ph ≤ h
      · left; exact ⟨by simp [a], b⟩
      · right; left; exact ⟨by simp [a], by omega⟩
  have e2 : ((pt != 0) = true ∧ pt ≤ t) ∨ ((pt != 0) = true ∧ t < pt) ∨ (pt != 0) = false := by
    by_cases a : pt = 0
    · right; right; simp [a]
    · by_cases b : pt ≤ t
      · left; exact ⟨by simp [a], b⟩
      · right; left; exact ⟨by simp [a], by omega⟩
  rcases e1 with ⟨a1, a2⟩ | e1
  · have hfin : lateB ph pt h t = true := by simp at a1; simp [lateB, a1, a2]
    rw [hfin]
    clear e2 hfin
    go_enter Tryd.func20, Tryd.ntmps20
    go_wp2
    go_step3
    go_wp2
    go_step3
    go_wp2
    refine wp_loop_rounds 3 ?_
    rw [rounds_succ]
    go_wp2
    rw [Exit.noGoto_ret]
    go_ret
    exact ⟨rfl, (((Below.refl _ _).alloc (Nat.le_refl _) _).alloc (by simp) _).alloc (by simp; omega) _⟩
  · have hf1 : (decide (ph ≠ 0) && decide (ph ≤ h)) = false := by
      rcases e1 with ⟨a, b⟩ | a
      · simp; omega
      · simp at a; simp [a]
    rcases e2 with ⟨b1, b2⟩ | e2
    · have hfin : lateB ph pt h t = true := by simp at b1; simp [lateB, b1, b2]
      rw [hfin]
      clear hf1 hfin
      rcases e1 with ⟨a1, a2⟩ | a1
      all_goals
        go_enter Tryd.func20, Tryd.ntmps20
        go_wp2
        go_step3
        go_wp2
        go_step3
        go_wp2
        refine wp_loop_rounds 3 ?_
        rw [rounds_succ]
        go_wp2
        rw [rounds_succ]
        go_wp2
        rw [Exit.noGoto_ret]
        go_ret
        exact ⟨rfl, ((((Below.refl _ _).alloc (Nat.le_refl _) _).alloc (by simp) _).alloc (by simp; omega) _).alloc (by simp; omega) _⟩
    · have hf2 : (decide (pt ≠ 0) && decide (pt ≤ t)) = false := by
        rcases e2 with ⟨a, b⟩ | a
        · simp; omega
        · simp at a; simp [a]
      have hfin : lateB ph pt h t = false := by unfold lateB; rw [hf1, hf2]; rfl
      rw [hfin]
      clear hf1 hf2 hfin
      rcases e1 with ⟨a1, a2⟩ | a1
      all_goals
        rcases e2 with ⟨b1, b2⟩ | b1
        all_goals
          go_enter Tryd.func20, Tryd.ntmps20
          go_wp2
          go_step3
          go_wp2
          go_step3
          go_wp2
          refine wp_loop_rounds 3 ?_
          rw [rounds_succ]
          go_wp2
          rw [rounds_succ]
          go_wp2
          rw [rounds_succ]
          go_wp2
          try rw [Exit.noGoto_ret]
          go_ret
          exact ⟨by first | rfl | (simp; omega), ((((Below.refl _ _).alloc (Nat.le_refl _) _).alloc (by simp) _).alloc (by simp; omega) _).alloc (by simp; omega) _⟩



theorem conv_fresh2 (w : World) (x y : Int) (cap : Nat) :
    (convert 37 9 (.slice (some ⟨w.heap.size, 0, none⟩) 2 cap)).run Tryd.prog (w.alloc (.cells #[.int .u8 x, .int .u8 y] 5)) = .ok (.string ⟨#[UInt8.ofNat x.toNat, UInt8.ofNat y.toNat]⟩) (w.alloc (.cells #[.int .u8 x, .int .u8 y] 5)) := by
  rw [run_convert_bytes_arg (w.alloc (.cells #[.int .u8 x, .int .u8 y] 5)) 37 5 Tryd.underlying37 Tryd.underlying5 w.heap.size 0 2 cap [x, y] rfl (by
    intro i hi
    have : i = 0 ∨ i = 1 := by omega
    rcases this with rfl | rfl <;> simp [go_sem]) 9 Tryd.underlying9]
  rfl
attribute [local go_sem] conv_fresh2

theorem getb0 (x y : UInt8) (h : 0 < (⟨#[x, y]⟩ : ByteArray).size) : (⟨#[x, y]⟩ : ByteArray)[0]'h = x := rfl
theorem getb1 (x y : UInt8) (h : 1 < (⟨#[x, y]⟩ : ByteArray).size) : (⟨#[x, y]⟩ : ByteArray)[1]'h = y := rfl
attribute [local simp, local go_sem] getb0 getb1
set_option maxHeartbeats 1000000 in
theorem failed_any (n : Int) (w : World) : Calls Tryd.prog 23 #[.int .i64 n] w fun e w' => e = .returned (.string ⟨#[45, UInt8.ofNat (n % 256).toNat]⟩) ∧ Below w.heap.size w w' := by
  go_enter Tryd.func23, Tryd.ntmps23
  go_wp2
  go_ret
  exact ⟨rfl, (Below.refl _ _).alloc (Nat.le_refl _) _⟩
set_option maxHeartbeats 1000000 in
theorem result_fail (x : UInt8) (hx : 0 < x.toNat) (w : World) : Calls Tryd.prog 22 #[.string ⟨#[45, x]⟩] w fun e w' => e = .returned (.tuple #[.int .i64 x.toNat, .bool true]) ∧ w = w' := by
  have := x.toNat_lt
  go_enter Tryd.func22, Tryd.ntmps22
  go_wp2
  go_ret2
  exact ⟨rfl, rfl⟩
set_option maxHeartbeats 1000000 in
theorem result_done (w : World) : Calls Tryd.prog 22 #[.string ⟨#[43]⟩] w fun e w' => e = .returned (.tuple #[.int .i64 0, .bool true]) ∧ w = w' := by
  go_enter Tryd.func22, Tryd.ntmps22
  go_wp2
  go_ret2
  exact ⟨rfl, rfl⟩
set_option maxHeartbeats 1000000 in
theorem done_any (w : World) : Calls Tryd.prog 24 #[] w fun e w' => e = .returned (.string ⟨#[43]⟩) ∧ w = w' := by
  go_enter Tryd.func24, Tryd.ntmps24
  go_wp2
  go_ret
  exact ⟨rfl, rfl⟩

set_option maxHeartbeats 1000000 in
theorem awake13 (w : World) : Calls Tryd.prog 7 #[] w fun e w' => e = .returned (.bool true) ∧ Below w.heap.size w w' := by
  go_enter Tryd.func7, Tryd.ntmps7
  have l1 : lateB 10 0 9 100 = false := by decide
  have l2 : lateB 10 0 10 0 = true := by decide
  go_wp2_with fail
  refine (failed_any _ _).mono ?_
  rintro e w1 ⟨rfl, hb1⟩
  go_wp2_with fail
  refine (result_fail 16 (by decide) _).mono ?_
  rintro e w2 ⟨rfl, rfl⟩
  go_wp2_with fail
  refine (done_any _).mono ?_
  rintro e w2 ⟨rfl, rfl⟩
  go_wp2_with fail
  refine (result_done _).mono ?_
  rintro e w2 ⟨rfl, rfl⟩
  go_wp2_with fail
  refine (late_any _ _ _ _ _ _ _ _ _ _ _ _ _ _ _).mono ?_
  rintro e w2 ⟨rfl, hb2⟩
  obtain ⟨hc2, hf2⟩ := bcell hb2
  go_wp2_with fail
  refine (late_any _ _ _ _ _ _ _ _ _ _ _ _ _ _ _).mono ?_
  rintro e w3 ⟨rfl, hb3⟩
  go_wp2_with fail
  go_ret
  exact ⟨rfl, ((hb1.alloc hb1.size _).trans (hb2.mono (by simp; have := hb1.size; omega))).trans (hb3.mono (by have := hb1.size; have := hb2.size; simp at this; omega))⟩




end Go.Proofs.YtbimnfmjgmfijaaDoor
