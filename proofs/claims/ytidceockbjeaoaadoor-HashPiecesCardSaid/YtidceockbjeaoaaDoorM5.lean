/- The tables as the words say: the first primes. -/
import Derived.Test.YtidceockbjeaoaaDoorM4
namespace Go.Proofs.YtidceockbjeaoaaDoor
open Go.RowKit
attribute [local go_sem ↓] Go.wp_at_zero Go.wp_at_succ
/-- The primes among the numbers from 2 on, so many of these. -/
def prs : Nat → List Nat
  | 0 => []
  | j + 1 => if (prs j).all (fun o => decide ((j + 2) % o ≠ 0)) then prs j ++ [j + 2] else prs j
theorem prs_mono (j : Nat) : (prs j).length ≤ (prs (j + 1)).length := by
  show _ ≤ (if _ then _ else _ : List Nat).length
  split
  · rw [List.length_append]; omega
  · exact Nat.le_refl _
theorem prs_le (j d : Nat) : (prs j).length ≤ (prs (j + d)).length := by
  induction d with
  | zero => exact Nat.le_refl _
  | succ d ih => exact Nat.le_trans ih (prs_mono (j + d))
theorem prs_two (j : Nat) : ∀ x ∈ prs j, 2 ≤ x ∧ x < j + 2 := by
  induction j with
  | zero => intro x hx; cases hx
  | succ j ih =>
    intro x hx
    have h : x ∈ prs j ++ [j + 2] := by
      have hx' : x ∈ (if (prs j).all (fun o => decide ((j + 2) % o ≠ 0)) = true then prs j ++ [j + 2] else prs j) := hx
      split at hx'
      · exact hx'
      · exact List.mem_append_left _ hx'
    rcases List.mem_append.1 h with h | h
    · have := ih x h; omega
    · simp at h; omega
set_option maxRecDepth 100000 in
theorem prs_309 : (prs 309).length = 63 := by decide +kernel
set_option maxRecDepth 100000 in
theorem prs_310 : (prs 310).length = 64 := by decide +kernel
theorem all_take (l : List Nat) (P : Nat → Bool) (i : Nat) (h : i < l.length) : (l.take (i + 1)).all P = ((l.take i).all P && P (l.getD i 0)) := by
  rw [List.take_succ_eq_append_getElem h, List.all_append, List.getD_eq_getElem?_getD, List.getElem?_eq_getElem h]
  simp
set_option maxHeartbeats 4000000 in
set_option maxRecDepth 100000 in
theorem rprimes_any (w : World) : Calls Tryd.prog 38 #[.int .i64 64] w fun e w' => ∃ v, e = .returned v ∧ R64 w' v (prs 310) ∧ Below w.heap.size w w' := by
  obtain ⟨i0, hi0, iz0, iz1, iz2⟩ := info_parts infoU64
  go_enter Tryd.func38, Tryd.ntmps38
  go_wp2_with fail
  go_loopw [3, 4, 5, 6] (fun v k _ _ wi => ∃ j : Nat, j ≤ 310 ∧ k = .int .u64 ((j : Int) + 2) ∧ own2 wi w.heap.size 71 v (prs j).length (U64s (prs j)) ∧ Below w.heap.size w wi) (fun _ k _ _ _ => 312 - (intOf k).toNat)
  case atStart => exact ⟨0, by omega, rfl, own2.nil _ _ _, BW_refl w⟩
  case round =>
    obtain ⟨j, hj, rfl, hown, hb⟩ := hrel
    have hbs := hb.size
    have hst : prs (j + 1) = if (prs j).all (fun o => decide ((j + 2) % o ≠ 0)) = true then prs j ++ [j + 2] else prs j := rfl
    have Hst := Bx.mk hst
    have h2 := Lib.hid (prs_two j)
    have hR := Lib.hid (own2_R64 hown rfl)
    have h64 : Hid ((prs j).length < 64 → j < 310) := Lib.hid (fun h => by
      rcases Nat.lt_or_ge j 310 with h1 | h1
      · exact h1
      · obtain rfl : j = 310 := by omega
        rw [prs_310] at h
        omega)
    have h63 : Hid (¬ (prs j).length < 64 → j = 310) := Lib.hid (fun h => by
      rcases Nat.lt_or_ge j 310 with h1 | h1
      · have h9 := prs_le j (309 - j)
        rw [show j + (309 - j) = 309 by omega, prs_309] at h9
        omega
      · omega)
    clear hst
    generalize hP : prs j = P at *
    have HP := Bx.mk hP
    clear hP
    have hlen : (U64s P).length = P.length := by simp [U64s]
    obtain ⟨pv, cap, hvv, hf⟩ := hR.out
    subst hvv
    have Hf := Lib.hid hf
    clear hf hR
    by_cases hlt : P.length < 64
    · have hlti : (P.length : Int) < 64 := by omega
      have hj310 := h64.out hlt
      have hown' := hown
      clear h64 h63
      go_wp2_with fail
      go_loopw [5, 6] (fun pv i wi => ∃ n : Nat, n ≤ P.length ∧ i = .int .i64 (n : Int) ∧ pv = .bool ((P.take n).all (fun o => decide ((j + 2) % o ≠ 0))) ∧ wr = wi) (fun _ i _ => P.length - (intOf i).toNat)
      case atStart => exact ⟨0, by omega, rfl, by rw [List.take_zero]; rfl, rfl⟩
      case round =>
        obtain ⟨n, hn, rfl, rfl, rfl⟩ := hrel
        by_cases hn0 : n < P.length
        · have hn1 : (n : Int) < (P.length : Int) := by omega
          obtain ⟨g, off, rfl, hc⟩ := Hf.out (by omega)
          have cx := hc n hn0
          have hal := Lib.hid (all_take P (fun o => decide ((j + 2) % o ≠ 0)) n hn0)
          have hx2 := (h2.out (P.getD n 0) (by rw [List.getD_eq_getElem?_getD, List.getElem?_eq_getElem hn0]; exact List.getElem_mem _)).1
          clear hc
          generalize P.getD n 0 = x at *
          have hj2 : (j : Int) + 2 = ((j + 2 : Nat) : Int) := by omega
          have hr2 : ((j : Int) + 2) % (x : Int) = (((j + 2) % x : Nat) : Int) := by rw [hj2]; exact (Int.natCast_emod _ _).symm
          have hr1 : ((j : Int) + 2).tmod (x : Int) = (((j + 2) % x : Nat) : Int) := by rw [Int.tmod_eq_emod_of_nonneg (by omega)]; exact hr2
          clear hj2
          have hx0 : ¬ (x : Int) = 0 := by omega
          generalize hb' : (P.take n).all (fun o => decide ((j + 2) % o ≠ 0)) = b at *
          generalize hr' : (j + 2) % x = r at *
          have Hal : Hid ((P.take (n + 1)).all (fun o => decide ((j + 2) % o ≠ 0)) = (b && decide (r ≠ 0))) := Lib.hid hal.out
          clear hb' hr' hal
          cases b
          · go_wp2_with fail
            go_roundw
            case rel => exact ⟨n + 1, by omega, by go_num, by rw [Hal.out]; rfl, by trivial⟩
            case measure => simp [intOf]; omega
          · by_cases hr0 : r = 0
            · subst hr0
              go_wp2_with fail
              go_roundw
              case rel => exact ⟨n + 1, by omega, by go_num, by rw [Hal.out]; rfl, by trivial⟩
              case measure => simp [intOf]; omega
            · have hri : ¬ (r : Int) = 0 := by omega
              go_wp2_with fail
              go_roundw
              case rel => exact ⟨n + 1, by omega, by go_num, by rw [Hal.out, decide_eq_true hr0]; simp [hr0], by trivial⟩
              case measure => simp [intOf]; omega
        · obtain rfl : n = P.length := by omega
          rw [List.take_length]
          generalize hb' : P.all (fun o => decide ((j + 2) % o ≠ 0)) = b at *
          have Hb := Bx.mk hb'
          clear hb'
          cases b
          · go_wp2_with fail
            go_roundw
            case rel =>
              have e : prs (j + 1) = P := by rw [Hst.out]; rfl
              exact ⟨j + 1, by omega, congrArg (Value.int .u64) (by omega), by rw [e]; exact hown, hb⟩
            case measure => simp [intOf]; omega
          · go_wp2_with (at_builtin; go_must (refine @wpList_push2 Tryd.prog _ _ _ _ _ wr rfl _ _ 68 rfl w.heap.size 71 i0 (.int .u64 0) 8 Tryd.underlying68 hi0 iz0 iz1 iz2 rfl (.slice pv P.length cap) P.length (U64s P) ?q1 hown (.int .u64 ((j : Int) + 2)) wr.heap.size ?q2 rfl rfl ?q3 ?q4 ?q5 ?_; (case q1 => rfl); (case q2 => rfl); (case q3 => unfold maxLen; omega); (case q4 => omega); (case q5 => omega)); intro a2 w6 ha2 hg2 hn2)
            have hb6 := hb.grown hg2 (by omega) (own2.le hown)
            go_roundw
            case rel =>
              have e : prs (j + 1) = P ++ [j + 2] := by rw [Hst.out]; rfl
              exact ⟨j + 1, by omega, congrArg (Value.int .u64) (by omega), by rw [e, List.length_append, show U64s (P ++ [j + 2]) = U64s P ++ [.int .u64 ((j : Int) + 2)] from by simp [U64s]]; exact ha2, hb6⟩
            case measure => simp [intOf]; omega
    · have hlti : ¬ (P.length : Int) < 64 := by omega
      obtain rfl := h63.out hlt
      have hR := own2_R64 hown rfl
      go_wp2_with fail
      go_ret
      exact ⟨_, rfl, by rw [HP.out]; exact hR, hb⟩
end Go.Proofs.YtidceockbjeaoaaDoor
