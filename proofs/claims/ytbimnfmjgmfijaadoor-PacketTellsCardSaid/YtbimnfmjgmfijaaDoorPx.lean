/- The document's answer whether a packet is late. -/
import Derived.Test.YtbimnfmjgmfijaaDoorM4
namespace Go.Proofs.YtbimnfmjgmfijaaDoor
open Go.RowKit
attribute [local go_sem ↓] Go.wp_at_zero Go.wp_at_succ
section
variable {P : Program} {ops : Array Oper} {S : World → Prop} {op : Oper} {a : Act}
theorem yk_ia (hw : Region.wanted op (yielded ops a.tmps) = true) (t : TypeId) (x i : Operand) (ho : op.op = .indexAddr t x i) (X I : Value) (hx : a.eval x = X) (hi : a.eval i = I) (v : Value)
    (hr : ∀ w, S w → (Instr.indexAt t X I).run P w = .ok v w) : YieldsIf P ops S op v a :=
  .inl ⟨hw, fun w hS => by
    have h := hr w hS
    unfold execOp
    simp only [ho, hx, hi]
    rw [Sem.run_bind, h]
    rfl⟩
end
set_option maxHeartbeats 4000000 in
set_option maxRecDepth 100000 in
theorem r13late_any (c0 c1 c2 c3 c4 c5 c6 c7 c8 c9 : Value) (ph pt h t : Int) (w : World) :
    Calls Tryd.prog 21 #[.agg #[c0, c1, c2, c3, c4, c5, c6, c7, c8, c9, .int .i64 ph, .int .i64 pt], .int .i64 h, .int .i64 t] w fun e w' => e = .returned (.bool (lateB ph pt h t)) ∧ Below w.heap.size w w' := by
  generalize hb : lateB ph pt h t = B
  by_cases a1 : ph = 0
  · by_cases b1 : pt = 0
    · obtain rfl : B = false := by rw [← hb]; simp [lateB, a1, b1]
      clear hb
      go_enter Tryd.func21, Tryd.ntmps21
      go_wp2
      go_ret
      exact ⟨by first | rfl | (simp; omega) | simp | (simp [b1]) | (simp [b1, b2]) | (simp [a1, a2]) | (simp [a1]; omega), BW_alloc (BW_refl w) _⟩
    · by_cases b2 : pt ≤ t
      · obtain rfl : B = true := by rw [← hb]; simp [lateB, b1, b2]
        clear hb
        go_enter Tryd.func21, Tryd.ntmps21
        go_wp2
        go_ret
        exact ⟨by first | rfl | (simp; omega) | simp | (simp [b1]) | (simp [b1, b2]) | (simp [a1, a2]) | (simp [a1]; omega), BW_alloc (BW_refl w) _⟩
      · obtain rfl : B = false := by rw [← hb]; simp [lateB, a1, b2]
        clear hb
        go_enter Tryd.func21, Tryd.ntmps21
        go_wp2
        go_ret
        exact ⟨by first | rfl | (simp; omega) | simp | (simp [b1]) | (simp [b1, b2]) | (simp [a1, a2]) | (simp [a1]; omega), BW_alloc (BW_refl w) _⟩
  · by_cases a2 : ph ≤ h
    · obtain rfl : B = true := by rw [← hb]; simp [lateB, a1, a2]
      clear hb
      go_enter Tryd.func21, Tryd.ntmps21
      go_wp2
      go_ret
      exact ⟨by first | rfl | (simp; omega) | simp | (simp [b1]) | (simp [b1, b2]) | (simp [a1, a2]) | (simp [a1]; omega), BW_alloc (BW_refl w) _⟩
    · by_cases b1 : pt = 0
      · obtain rfl : B = false := by rw [← hb]; simp [lateB, a2, b1]
        clear hb
        go_enter Tryd.func21, Tryd.ntmps21
        go_wp2
        go_ret
        exact ⟨by first | rfl | (simp; omega) | simp | (simp [b1]) | (simp [b1, b2]) | (simp [a1, a2]) | (simp [a1]; omega), BW_alloc (BW_refl w) _⟩
      · by_cases b2 : pt ≤ t
        · obtain rfl : B = true := by rw [← hb]; simp [lateB, b1, b2]
          clear hb
          go_enter Tryd.func21, Tryd.ntmps21
          go_wp2
          go_ret
          exact ⟨by first | rfl | (simp; omega) | simp | (simp [b1]) | (simp [b1, b2]) | (simp [a1, a2]) | (simp [a1]; omega), BW_alloc (BW_refl w) _⟩
        · obtain rfl : B = false := by rw [← hb]; simp [lateB, a2, b2]
          clear hb
          go_enter Tryd.func21, Tryd.ntmps21
          go_wp2
          go_ret
          exact ⟨by first | rfl | (simp; omega) | simp | (simp [b1]) | (simp [b1, b2]) | (simp [a1, a2]) | (simp [a1]; omega), BW_alloc (BW_refl w) _⟩
end Go.Proofs.YtbimnfmjgmfijaaDoor
