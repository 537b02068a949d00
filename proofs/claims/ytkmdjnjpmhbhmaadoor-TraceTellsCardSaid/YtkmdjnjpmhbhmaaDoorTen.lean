/- The law TraceEnds's walk. -/
import Derived.Test.YtkmdjnjpmhbhmaaDoorTh
namespace Go.Proofs.YtkmdjnjpmhbhmaaDoor
open Go.RowKit
attribute [local go_sem ↓] Go.wp_at_zero Go.wp_at_succ
theorem own2.keptB {w w' : World} {base : Nat} {e : TypeId} {v : Value} {n : Nat} {xs : List Value} (h : own2 w base e v n xs) (hb : Below w.heap.size w w') : own2 w' base e v n xs := by
  rcases h with h | h
  · exact .inl h
  · exact .inr (h.kept hb)
theorem m40 (x : Int) : ∃ A : Nat, A ≤ 39 ∧ IntKind.i64.wrap ((IntKind.i64.wrap (x.tmod 40 + 40)).tmod 40) = (A : Int) ∧ (wrap64 (x.tmod 40 + 40)).tmod 40 = (A : Int) ∧ (x.tmod 40 + 40).tmod 40 = (A : Int) ∧ wrap64 (x.tmod 40 + 40) = x.tmod 40 + 40 := by
  have t1 := Int.tmod_lt_of_pos x (b := 40) (by omega)
  have t2 := Int.lt_tmod_of_pos x (b := 40) (by omega)
  generalize x.tmod 40 = y at *
  have e1 : IntKind.i64.wrap (y + 40) = y + 40 := by rw [IntKind.wrap_i64]; omega
  have e2 : wrap64 (y + 40) = y + 40 := by unfold wrap64; omega
  rw [e1, e2]
  have t3 := Int.tmod_lt_of_pos (y + 40) (b := 40) (by omega)
  have t4 := Int.tmod_nonneg (a := y + 40) 40 (by omega)
  generalize (y + 40).tmod 40 = z at *
  refine ⟨z.toNat, by omega, ?_, by omega, by omega, rfl⟩
  rw [IntKind.wrap_i64]; omega
theorem m8 (x : Int) : ∃ K : Nat, 1 ≤ K ∧ K ≤ 8 ∧ bits .and .i64 x 7 = (K : Int) - 1 ∧ wrap64 (1 + ((K : Int) - 1)) = (K : Int) ∧ 1 + ((K : Int) - 1) = (K : Int) := by
  have h : bits .and .i64 x 7 = x % 8 := bits_low x 3 (by decide)
  refine ⟨1 + (x % 8).toNat, by omega, by omega, by rw [h]; omega, by unfold wrap64; omega, by omega⟩
/-- K parts of N letters, put together. -/
def endsD (N K : Nat) : List Nat := pjoin (List.replicate K (List.replicate N 112))
theorem rep_len (N K : Nat) (h : 1 ≤ K) : (endsD N K).length + 1 = K * N + K := by
  obtain ⟨k, rfl⟩ : ∃ k, K = k + 1 := ⟨K - 1, by omega⟩
  clear h
  induction k with
  | zero => simp [endsD, pjoin]
  | succ k ih =>
    have e : endsD N (k + 1 + 1) = List.replicate N 112 ++ 47 :: endsD N (k + 1) := by
      unfold endsD
      rw [List.replicate_succ, join_cons (by simp [List.replicate_succ])]
    rw [e, List.length_append, List.length_cons, List.length_replicate]
    rw [Nat.succ_mul (k + 1)]
    omega
theorem rep_ns (N K : Nat) : ∀ x ∈ List.replicate K (List.replicate N 112), ∀ c ∈ x, c ≠ 47 := by
  intro x hx c hc
  rw [List.eq_of_mem_replicate hx] at hc
  rw [List.eq_of_mem_replicate hc]
  decide
theorem okPart_rep (N : Nat) : okPart (List.replicate N 112) = (decide (1 ≤ N) && decide (N ≤ 32)) := by
  rw [okPart_of (fun c hc => by rw [List.eq_of_mem_replicate hc]; decide), List.length_replicate]
theorem okDen_rep (N K : Nat) (h : 1 ≤ K) : okDen (endsD N K) = ((decide (1 ≤ N) && decide (N ≤ 32)) && decide (K ≤ 5) && decide ((endsD N K).length ≤ 200)) := by
  have h0 : List.replicate K (List.replicate N 112) ≠ [] := fun h2 => by
    have := congrArg List.length h2
    rw [List.length_replicate] at this
    simp at this; omega
  have h1 : (List.replicate K (List.replicate N 112)).all okPart = okPart (List.replicate N 112) := by
    rw [List.all_replicate, if_neg (by omega)]
  unfold endsD
  rw [okDen_join h0 (rep_ns N K), h1, okPart_rep, List.length_replicate]
theorem parts_rep (N K : Nat) (h : 1 ≤ K) : (parts (endsD N K)).length = K := by
  have h0 : List.replicate K (List.replicate N 112) ≠ [] := fun h2 => by
    have := congrArg List.length h2
    rw [List.length_replicate] at this
    simp at this; omega
  unfold endsD
  rw [parts_join _ h0 (rep_ns N K), List.length_replicate]
theorem ends_facts (N K : Nat) (h1 : 1 ≤ K) (h8 : K ≤ 8) (hN : N ≤ 39) : ∃ (P : Nat) (D : List Nat), D = endsD N K ∧ D.length + 1 = P + K ∧ P ≤ 312 ∧ wrap64 ((K : Int) * (N : Int)) = (P : Int) ∧ wrap64 ((P : Int) + (K : Int)) = (P : Int) + (K : Int) ∧ wrap64 ((P : Int) + (K : Int) - 1) = (P : Int) + (K : Int) - 1 ∧
    okDen D = ((decide (1 ≤ N) && decide (N ≤ 32)) && decide (K ≤ 5) && decide (D.length ≤ 200)) ∧ (parts D).length = K :=
  have hP : K * N ≤ 312 := Nat.mul_le_mul h8 hN
  ⟨K * N, _, rfl, rep_len N K h1, hP, by rw [← Int.natCast_mul]; generalize K * N = P at *; unfold wrap64; omega, by generalize K * N = P at *; unfold wrap64; omega, by generalize K * N = P at *; unfold wrap64; omega, okDen_rep N K h1, parts_rep N K h1⟩
set_option maxHeartbeats 4000000 in
set_option maxRecDepth 100000 in
theorem l12ends_any (a b m : Int) (w : World) (hm : w.cell? ⟨1, 0, none⟩ = some (.int .i64 m)) : Calls Tryd.prog 9 #[.int .i64 a, .int .i64 b] w fun e w' => e = .returned (.bool true) ∧ Below w.heap.size w w' := by
  obtain ⟨i0, hi0, iz0, iz1, iz2⟩ := info_parts infoST
  obtain ⟨N, hN, n1, n2, n3, n4⟩ := m40 a
  obtain ⟨K, hK1, hK8, k1, k2, k3⟩ := m8 b
  go_enter Tryd.func9, Tryd.ntmps9
  go_wp2_with (go_at_call 25; refine (awake12_any _).mono ?_; rintro e w1 ⟨rfl, hb1⟩)
  clear n1 n2 n3 n4 k1 k2 k3
  go_loopw [8, 9] (fun p i wr => ∃ (k : Nat) (T : ByteArray), k ≤ N ∧ i = .int .i64 (k : Int) ∧ p = .string T ∧ Hid (bysN T = List.replicate k 112) ∧ T.size = k ∧ Below w.heap.size w wr) (fun _ i _ => N - (intOf i).toNat)
  case atStart => exact ⟨0, ⟨#[]⟩, by omega, rfl, rfl, Lib.hid rfl, rfl, hb1⟩
  case round =>
    clear hb1
    obtain ⟨k, T, hk, rfl, rfl, hT, hTs, hb⟩ := hrel
    by_cases hlt : k < N
    · have hki : (k : Int) < (N : Int) := by omega
      have hw1 : wrap64 ((k : Int) + 1) = (k : Int) + 1 := by unfold wrap64; omega
      obtain ⟨T2, hT2, hadd⟩ := cat_big T ⟨#[112]⟩ (by show T.size + 1 ≤ _; omega)
      have HT2 : Hid (bysN T2 = List.replicate (k + 1) 112) := Lib.hid (by rw [hT2, hT.out, List.replicate_succ']; rfl)
      have zT2 : T2.size = k + 1 := by rw [← bysN_len, HT2.out, List.length_replicate]
      clear hT2
      go_wp2_with fail
      go_roundw
      case rel => exact ⟨k + 1, T2, by omega, by go_num, rfl, HT2, zT2, hb⟩
      case measure => simp [intOf]; omega
    · obtain rfl : k = N := by omega
      have hki : ¬ (k : Int) < (k : Int) := by omega
      go_wp2_with fail
      clear hki hlt
      go_loopw [10, 11] (fun v i wr => ∃ j : Nat, j ≤ K ∧ i = .int .i64 (j : Int) ∧ own2 wr w.heap.size 9 v j ((List.replicate j T).map Value.string) ∧ Below w.heap.size w wr) (fun _ i _ => K - (intOf i).toNat)
      case atStart => exact ⟨0, by omega, rfl, own2.nil _ _ _, hb⟩
      case round =>
        clear hb
        obtain ⟨j, hj, rfl, hown, hb⟩ := hrel
        have hbs := hb.size
        by_cases hlt : j < K
        · have hki : (j : Int) < (K : Int) := by omega
          have hw1 : wrap64 ((j : Int) + 1) = (j : Int) + 1 := by unfold wrap64; omega
          go_wp2_with (at_builtin; go_must (refine @wpList_push2 Tryd.prog _ _ _ _ _ wr rfl _ _ 51 rfl w.heap.size 9 i0 (.string ⟨#[]⟩) 16 Tryd.underlying51 hi0 iz0 iz1 iz2 rfl u10 j ((List.replicate j T).map Value.string) ?q1 hown (.string T) wr.heap.size ?q2 rfl rfl ?q3 ?q4 ?q5 ?_; (case q1 => rfl); (case q2 => rfl); (case q3 => unfold maxLen; omega); (case q4 => omega); (case q5 => omega)); intro a2 w6 ha2 hg6 hn2)
          have hb6 := hb.grown hg6 (by omega) (own2.le hown)
          go_roundw
          case rel => exact ⟨j + 1, by omega, by go_num, by rw [List.replicate_succ', List.map_append]; exact ha2, hb6⟩
          case measure => simp [intOf]; omega
        · obtain rfl : j = K := by omega
          have hki : ¬ (j : Int) < (j : Int) := by omega
          have hJ : JRow wr u10 (List.replicate j T) := own2_jrow hown (by rw [List.length_replicate])
          obtain ⟨P, D, eD, hlen, hP, hw1, hw2, hw3, hden, hprt0⟩ := ends_facts k j hK1 hK8 hN
          have HD : Hid (pjoin ((List.replicate j T).map bysN) = D) := Lib.hid (by rw [List.map_replicate, hT.out, eD]; rfl)
          have hpart : Hid (okPart (bysN T) = (decide (1 ≤ k) && decide (k ≤ 32))) := Lib.hid (by rw [hT.out, okPart_rep])
          have hprt := Lib.hid hprt0
          clear eD hprt0
          have HJ := Lib.hid hJ
          have Hden := Lib.hid hden
          have Hlen := Lib.hid hlen
          clear hJ hden hlen hown hT hlt
          by_cases c1 : 1 ≤ k
          · have d1 : 1 ≤ (k : Int) := by omega
            by_cases c2 : k ≤ 32
            · have d2 : (k : Int) ≤ 32 := by omega
              by_cases c3 : j ≤ 5
              · have d3 : (j : Int) ≤ 5 := by omega
                by_cases c4 : D.length ≤ 200
                · have d4 : (P : Int) + (j : Int) - 1 ≤ 200 := by have := Hlen.out; omega
                  have d5 := c1
                  have hp : Hid (okPart (bysN T) = true) := Lib.hid (by rw [hpart.out]; simp; try omega)
                  have hd : Hid (okDen D = true) := Lib.hid (by rw [Hden.out]; simp; omega)
                  clear hpart
                  go_wp2_with (first
                    | (go_at_call 38; refine (join_any u10 (List.replicate j T) _ HJ.out (by rw [HD.out]; have := Hlen.out; omega) (by rw [List.length_replicate]; omega)).mono ?_; rintro e w2 ⟨t, rfl, ht, hb2⟩; rw [HD.out] at ht; have zt : (t.size : Int) = (P : Int) + (j : Int) - 1 := (by rw [← bysN_len, ht]; have := Hlen.out; omega); have HT2 := Lib.hid ht; clear ht)
                    | (go_at_call 32; refine (part_any T _ (by omega)).mono ?_; rintro e w3 ⟨rfl, hb3⟩; rw [hp.out])
                    | (go_at_call 33; refine (check_any t _ (by omega)).mono ?_; rintro e w4 ⟨rfl, hb4⟩; rw [HT2.out, hd.out])
                    | (go_at_call 39; refine (parts_any t m _ (by omega) (BW_cell (BW_on (BW_on (BW_on hb hb2) hb3) hb4) hm)).mono ?_; rintro e w5 ⟨v5, Ls, rfl, ⟨p5, c5, rfl, _⟩, hLs, _, _, hb5⟩; have hLl : (Ls.length : Int) = (j : Int) := (by rw [← List.length_map (f := bysN), hLs, HT2.out, hprt.out])))
                  go_ret
                  exact ⟨by first | rfl | (simp; omega), BW_on (BW_on (BW_on (BW_on hb hb2) hb3) hb4) hb5⟩
                · have d4 : ¬ (P : Int) + (j : Int) - 1 ≤ 200 := by have := Hlen.out; omega
                  have d5 := c1
                  have hp : Hid (okPart (bysN T) = true) := Lib.hid (by rw [hpart.out]; simp; try omega)
                  have hd : Hid (okDen D = false) := Lib.hid (by rw [Hden.out]; simp; omega)
                  clear hpart
                  go_wp2_with (first
                    | (go_at_call 38; refine (join_any u10 (List.replicate j T) _ HJ.out (by rw [HD.out]; have := Hlen.out; omega) (by rw [List.length_replicate]; omega)).mono ?_; rintro e w2 ⟨t, rfl, ht, hb2⟩; rw [HD.out] at ht; have zt : (t.size : Int) = (P : Int) + (j : Int) - 1 := (by rw [← bysN_len, ht]; have := Hlen.out; omega); have HT2 := Lib.hid ht; clear ht)
                    | (go_at_call 32; refine (part_any T _ (by omega)).mono ?_; rintro e w3 ⟨rfl, hb3⟩; rw [hp.out])
                    | (go_at_call 33; refine (check_any t _ (by omega)).mono ?_; rintro e w4 ⟨rfl, hb4⟩; rw [HT2.out, hd.out])
                    | (go_at_call 39; refine (parts_any t m _ (by omega) (BW_cell (BW_on (BW_on (BW_on hb hb2) hb3) hb4) hm)).mono ?_; rintro e w5 ⟨v5, Ls, rfl, ⟨p5, c5, rfl, _⟩, hLs, _, _, hb5⟩; have hLl : (Ls.length : Int) = (j : Int) := (by rw [← List.length_map (f := bysN), hLs, HT2.out, hprt.out])))
                  go_ret
                  exact ⟨by first | rfl | (simp; omega), BW_on (BW_on (BW_on (BW_on hb hb2) hb3) hb4) hb5⟩
              · have d3 : ¬ (j : Int) ≤ 5 := by omega
                have d5 := c1
                have hp : Hid (okPart (bysN T) = true) := Lib.hid (by rw [hpart.out]; simp; try omega)
                have hd : Hid (okDen D = false) := Lib.hid (by rw [Hden.out]; simp; omega)
                clear hpart
                go_wp2_with (first
                  | (go_at_call 38; refine (join_any u10 (List.replicate j T) _ HJ.out (by rw [HD.out]; have := Hlen.out; omega) (by rw [List.length_replicate]; omega)).mono ?_; rintro e w2 ⟨t, rfl, ht, hb2⟩; rw [HD.out] at ht; have zt : (t.size : Int) = (P : Int) + (j : Int) - 1 := (by rw [← bysN_len, ht]; have := Hlen.out; omega); have HT2 := Lib.hid ht; clear ht)
                  | (go_at_call 32; refine (part_any T _ (by omega)).mono ?_; rintro e w3 ⟨rfl, hb3⟩; rw [hp.out])
                  | (go_at_call 33; refine (check_any t _ (by omega)).mono ?_; rintro e w4 ⟨rfl, hb4⟩; rw [HT2.out, hd.out])
                  | (go_at_call 39; refine (parts_any t m _ (by omega) (BW_cell (BW_on (BW_on (BW_on hb hb2) hb3) hb4) hm)).mono ?_; rintro e w5 ⟨v5, Ls, rfl, ⟨p5, c5, rfl, _⟩, hLs, _, _, hb5⟩; have hLl : (Ls.length : Int) = (j : Int) := (by rw [← List.length_map (f := bysN), hLs, HT2.out, hprt.out])))
                go_ret
                exact ⟨by first | rfl | (simp; omega), BW_on (BW_on (BW_on (BW_on hb hb2) hb3) hb4) hb5⟩
            · have d2 : ¬ (k : Int) ≤ 32 := by omega
              have d5 := c1
              have hp : Hid (okPart (bysN T) = false) := Lib.hid (by rw [hpart.out]; simp; try omega)
              have hd : Hid (okDen D = false) := Lib.hid (by rw [Hden.out]; simp; omega)
              clear hpart
              go_wp2_with (first
                | (go_at_call 38; refine (join_any u10 (List.replicate j T) _ HJ.out (by rw [HD.out]; have := Hlen.out; omega) (by rw [List.length_replicate]; omega)).mono ?_; rintro e w2 ⟨t, rfl, ht, hb2⟩; rw [HD.out] at ht; have zt : (t.size : Int) = (P : Int) + (j : Int) - 1 := (by rw [← bysN_len, ht]; have := Hlen.out; omega); have HT2 := Lib.hid ht; clear ht)
                | (go_at_call 32; refine (part_any T _ (by omega)).mono ?_; rintro e w3 ⟨rfl, hb3⟩; rw [hp.out])
                | (go_at_call 33; refine (check_any t _ (by omega)).mono ?_; rintro e w4 ⟨rfl, hb4⟩; rw [HT2.out, hd.out])
                | (go_at_call 39; refine (parts_any t m _ (by omega) (BW_cell (BW_on (BW_on (BW_on hb hb2) hb3) hb4) hm)).mono ?_; rintro e w5 ⟨v5, Ls, rfl, ⟨p5, c5, rfl, _⟩, hLs, _, _, hb5⟩; have hLl : (Ls.length : Int) = (j : Int) := (by rw [← List.length_map (f := bysN), hLs, HT2.out, hprt.out])))
              go_ret
              exact ⟨by first | rfl | (simp; omega), BW_on (BW_on (BW_on (BW_on hb hb2) hb3) hb4) hb5⟩
          · have d1 : ¬ 1 ≤ (k : Int) := by omega
            have d5 := c1
            have hp : Hid (okPart (bysN T) = false) := Lib.hid (by rw [hpart.out]; simp; try omega)
            have hd : Hid (okDen D = false) := Lib.hid (by rw [Hden.out]; simp; omega)
            clear hpart
            go_wp2_with (first
              | (go_at_call 38; refine (join_any u10 (List.replicate j T) _ HJ.out (by rw [HD.out]; have := Hlen.out; omega) (by rw [List.length_replicate]; omega)).mono ?_; rintro e w2 ⟨t, rfl, ht, hb2⟩; rw [HD.out] at ht; have zt : (t.size : Int) = (P : Int) + (j : Int) - 1 := (by rw [← bysN_len, ht]; have := Hlen.out; omega); have HT2 := Lib.hid ht; clear ht)
              | (go_at_call 32; refine (part_any T _ (by omega)).mono ?_; rintro e w3 ⟨rfl, hb3⟩; rw [hp.out])
              | (go_at_call 33; refine (check_any t _ (by omega)).mono ?_; rintro e w4 ⟨rfl, hb4⟩; rw [HT2.out, hd.out])
              | (go_at_call 39; refine (parts_any t m _ (by omega) (BW_cell (BW_on (BW_on (BW_on hb hb2) hb3) hb4) hm)).mono ?_; rintro e w5 ⟨v5, Ls, rfl, ⟨p5, c5, rfl, _⟩, hLs, _, _, hb5⟩; have hLl : (Ls.length : Int) = (j : Int) := (by rw [← List.length_map (f := bysN), hLs, HT2.out, hprt.out])))
            go_ret
            exact ⟨by first | rfl | (simp; omega), BW_on (BW_on (BW_on (BW_on hb hb2) hb3) hb4) hb5⟩
end Go.Proofs.YtkmdjnjpmhbhmaaDoor
