/- The law PacketLater: a packet that is late stays so at greater heights and times, and one without a limit never is by it; for every input. -/
import Derived.Test.YtibemleodghhfaaPk1
namespace Go.Proofs.Ytibemleodghhfaa
open Go.RowKit Go.ChangeShapes Go.WideShapes
theorem and40 (x : Int) : ∃ A, bits .and .i64 x 1099511627775 = A ∧ 0 ≤ A ∧ A ≤ 1099511627775 := by
  have h : (BitVec.ofInt 64 x &&& BitVec.ofInt 64 1099511627775).toNat ≤ 1099511627775 := by
    rw [BitVec.toNat_and]
    exact Nat.le_trans Nat.and_le_right (by decide)
  have e : bits .and .i64 x 1099511627775 = IntKind.i64.wrap (((BitVec.ofInt 64 x &&& BitVec.ofInt 64 1099511627775).toNat : Nat) : Int) := rfl
  rw [IntKind.wrap_i64] at e
  exact ⟨_, rfl, by rw [e]; omega, by rw [e]; omega⟩
theorem late_mono {a b h t h' t' : Int} (hh : h ≤ h') (ht : t ≤ t') (l : lateB a b h t = true) : lateB a b h' t' = true := by
  simp [lateB] at l ⊢
  omega
theorem late_none (h t : Int) : lateB 0 0 h t = false := by simp [lateB]
theorem late_at (h t : Int) (h0 : 0 ≤ h) : lateB (h + 1) 0 (h + 1) t = true := by
  have h1 : h + 1 ≠ 0 := by omega
  simp [lateB, h1]
theorem late_bf (h t : Int) : lateB (h + 1) 0 h t = false := by
  simp [lateB]
  omega
theorem late_or (a b h t : Int) : lateB a b h t = (lateB a 0 h t || lateB 0 b h t) := by simp [lateB]

set_option maxHeartbeats 2000000 in
theorem later_walk (q0 q1 q2 q3 q4 q5 : Int) (w : World) : Calls Try.prog 3 #[.agg #[.int .i64 q0, .int .i64 q1, .int .i64 q2, .int .i64 q3, .int .i64 q4, .int .i64 q5]] w fun e w' => e = .returned (.bool true) ∧ Below w.heap.size w w' := by
  obtain ⟨a, ha, ha1, ha2⟩ := and40 q0
  obtain ⟨b, hb, hb1, hb2⟩ := and40 q1
  obtain ⟨h, hh, hh1, hh2⟩ := and40 q2
  obtain ⟨t, ht, ht1, ht2⟩ := and40 q3
  obtain ⟨i, hi, hi1, hi2⟩ := and40 q4
  obtain ⟨j, hj, hj1, hj2⟩ := and40 q5
  have l0 := late_none h t
  have l1 := late_at h t hh1
  have l2 := late_bf h t
  have l3 := late_or a b h t
  have l4 : lateB a b h t = true → lateB a b (h + i) (t + j) = true := late_mono (by omega) (by omega)
  generalize hE : lateB a b h t = E at l3 l4
  generalize hL : lateB a b (h + i) (t + j) = L at l4
  generalize hF : lateB a 0 h t = F at l3
  generalize hG : lateB 0 b h t = G at l3
  have l5 : (E == (F || G)) = true := by rw [l3]; simp
  have l6 : (!E || L) = true := by cases E <;> simp_all
  clear l3 l4
  go_enter Try.func3, Try.ntmps3
  go_wp2_with fail
  refine (awake13 _).mono ?_
  rintro e w1 ⟨rfl, hw1⟩
  have hc1 := bcell hw1
  have hz1 : w.heap.size < w1.heap.size := by have := hw1.size; simp at this; omega
  go_wp2_with fail
  refine (late_any _ _ _ _ _ _ _ _ _ _ _ _ _ _ _).mono ?_
  rintro e w2 ⟨rfl, hw2⟩
  have hc2 := bcell hw2
  have hz2 : w1.heap.size < w2.heap.size := by have := hw2.size; simp at this; omega
  have hz2' : w.heap.size < w2.heap.size := by omega
  go_wp2_with fail
  refine (late_any _ _ _ _ _ _ _ _ _ _ _ _ _ _ _).mono ?_
  rintro e w3 ⟨rfl, hw3⟩
  have hc3 := bcell hw3
  have hz3 : w2.heap.size ≤ w3.heap.size := hw3.size
  have hz3' : w.heap.size < w3.heap.size := by omega
  have hz3'' : w1.heap.size < w3.heap.size := by omega
  have hB : Below w.heap.size w w3 :=
    ((((Below.refl _ _).alloc (Nat.le_refl _) _).trans (hw1.mono (by simp))).alloc (by omega) _).trans ((hw2.mono (by simp; omega)).trans (hw3.mono (by omega)))
  cases E <;> cases L <;> cases F <;> cases G <;> (try (simp at l5; done)) <;> (try (simp at l6; done))
  all_goals
    go_wp2_with (go_at_call 13; refine (late_any _ _ _ _ _ _ _ _ _ _ _ _ _ _ _).mono ?_; rintro e wx ⟨rfl, hwx⟩; have hcx := bcell hwx; have hzx := hwx.size; replace hB := call_below hwx (by first | exact hB | exact hB.alloc (by omega) _) (by first | omega | (simp; omega)); have hlx : w1.heap.size < wx.heap.size := by (first | omega | (simp at hzx; omega)))
    go_ret
    exact ⟨rfl, by assumption⟩


theorem laidOut : laidOutB Try.prog = true := by kernel_rfl
set_option maxRecDepth 100000 in
theorem later_lifted (os : Os) (started : os.Started) (H : Type) (enc : TypeId × Value → H) :
    ReturnsInHanded {} Try.checked os 3 .any (Rows.packetLaterSpec.pre6 enc Try.prog Try.f3 Rows.packetLaterRow.domain false) (Rows.packetLaterSpec.post enc Try.prog Try.f3 false true false false) := by
  refine law_lifted (C := Try.checked) (tb := 4) (by kernel_rfl) started (by kernel_rfl) Try.func3
    (ChangeSpec.witness6 (enc := enc) (C := Try.checked) false ⟨#[], #[.agg #[.int .i64 0, .int .i64 0, .int .i64 0, .int .i64 0, .int .i64 0, .int .i64 0]], []⟩ 8 (by kernel_rfl) (by kernel_rfl) (by kernel_rfl) (by kernel_rfl))
    laidOut (by kernel_rfl) (by kernel_rfl) Try.underlying4 rfl ?_ ?_
  · intro ds hd
    have hp : Try.f3.params.toList.length = 1 := by kernel_rfl
    rw [hp] at hd
    match ds, hd with
    | [d], _ => rfl
  · intro W base args ds ps hval hA _ _
    have hval' : ∀ (j : Nat) t v, Try.f3.params[j]? = some t → args[j]? = some v → Value.okWide Try.prog W .any base t v := hval
    have hA' : DataW.TrodAll enc Try.prog W 0 (fun _ => true) true Try.f3.params.toList args.toList ds ps := hA
    rw [Try.params3] at hA' hval'
    obtain ⟨v0, d0, rfl, rfl, h0⟩ := trodAll_one hA'
    obtain ⟨zs, hz, rfl, _⟩ := open_ints_array Try.underlying22 Try.underlying3 (by kernel_rfl) (by kernel_rfl) (hval' 0 22 v0 rfl rfl) h0
    match zs, hz with
    | [q0, q1, q2, q3, q4, q5], _ => exact later_walk q0 q1 q2 q3 q4 q5 W
theorem PacketLater_holds : Rows.PacketLaterSaid :=
  OpenClaim.holds_of_wide 3 Try.f3 rfl rfl rfl rfl rfl rfl rfl ⟨rfl, rfl, rfl, rfl, rfl⟩ rfl rfl rfl rfl rfl (by kernel_rfl) Try.func3 (by kernel_rfl)
    (of_decide_eq_true (by kernel_rfl)) (by unfold Func.isWrapper; first | (rw [if_pos (by decide +kernel)]; kernel_rfl) | (rw [if_neg (by decide +kernel)]; exact ⟨rfl, rfl⟩))
    (fun os started H enc _ => later_lifted os started H enc)
end Go.Proofs.Ytibemleodghhfaa
