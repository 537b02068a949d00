/- Contracts of layer 12's document and law, on: the document's join, same rows of texts, the examples. -/
import Derived.Test.YtkmdjnjpmhbhmaaDoorTe
import Derived.BigQuiet
namespace Go.Proofs.YtkmdjnjpmhbhmaaDoor
open Go.RowKit
attribute [local go_sem ↓] Go.wp_at_zero Go.wp_at_succ
theorem below_drewN' {B : Nat} {a w : World} (h : Below B a w) : ∀ k : Nat, Below B a (Nat.rec w (fun _ x => x.drew) k)
  | 0 => h
  | k + 1 => (below_drewN' h k).drew
set_option maxHeartbeats 4000000 in
set_option maxRecDepth 100000 in
theorem same1_any (v u : Value) (A : List ByteArray) (w : World) (hv : Strs w v A) (hu : Strs w u A) (hl : A.length ≤ 1000000) :
    Calls Tryd.prog 44 #[v, u] w fun e w' => e = .returned (.bool true) ∧ Below w.heap.size w w' := by
  obtain ⟨p, cap, rfl, hf⟩ := hv
  obtain ⟨p2, cap2, rfl, hf2⟩ := hu
  have Hf := Lib.hid hf
  have Hf2 := Lib.hid hf2
  clear hf hf2
  go_enter Tryd.func44, Tryd.ntmps44
  go_wp2_with fail
  go_loopw [5] (fun i wr => ∃ k : Nat, k ≤ A.length ∧ i = .int .i64 (k : Int) ∧ Below w.heap.size w wr) (fun i _ => A.length - (intOf i).toNat)
  case atStart => exact ⟨0, by omega, rfl, Below.refl _ _⟩
  case round =>
    obtain ⟨k, hk, rfl, hb⟩ := hrel
    by_cases hlt : k < A.length
    · obtain ⟨g, off, rfl, hc⟩ := Hf.out (by omega)
      obtain ⟨g2, off2, rfl, hd⟩ := Hf2.out (by omega)
      have hc1 := BW_cell hb (hc k hlt)
      have hd1 := BW_cell hb (hd k hlt)
      have hk1 : (k : Int) < (A.length : Int) := by omega
      have hw1 : wrap64 ((k : Int) + 1) = (k : Int) + 1 := by unfold wrap64; omega
      clear hc hd Hf Hf2
      generalize A[k] = x at *
      go_wp2_with fail
      go_quiet (fail)
      go_wp2_with fail
      go_roundw
      case rel => exact ⟨k + 1, by omega, by go_num, below_drewN hb _⟩
      case measure => simp [intOf]; omega
    · obtain rfl : k = A.length := by omega
      go_wp2_with fail
      go_ret
      exact ⟨rfl, hb⟩
theorem pjoin_len : ∀ (ls : List (List Nat)) (m : Nat), (∀ x ∈ ls, x.length ≤ m) → (pjoin ls).length ≤ ls.length * (m + 1)
  | [], _, _ => by simp [pjoin]
  | [a], m, h => by have := h a (List.mem_cons_self ..); simp [pjoin]; omega
  | a :: b :: r, m, h => by
    have h1 := pjoin_len (b :: r) m (fun x hx => h x (List.mem_cons_of_mem _ hx))
    have h2 := h a (List.mem_cons_self ..)
    rw [pjoin, List.length_append, List.length_cons]
    rw [List.length_cons (a := a), Nat.succ_mul]
    omega
theorem pjoin_take (ls : List (List Nat)) (k : Nat) (h : k < ls.length) (h0 : 0 < k) : pjoin (ls.take (k + 1)) = pjoin (ls.take k) ++ 47 :: ls[k] := by
  rw [List.take_succ_eq_append_getElem h]
  refine pjoin_len_snoc _ _ fun h1 => ?_
  have := congrArg List.length h1
  rw [List.length_take, Nat.min_eq_left (Nat.le_of_lt h)] at this
  simp at this
  omega
set_option maxHeartbeats 4000000 in
set_option maxRecDepth 100000 in
theorem r12join_any (v : Value) (A : List ByteArray) (w : World) (hv : Strs w v A) (hl : A.length ≤ 100) (hx : ∀ x ∈ A, x.size ≤ 1000) :
    Calls Tryd.prog 43 #[v] w fun e w' => ∃ t, e = .returned (.string t) ∧ bysN t = pjoin (A.map bysN) ∧ w = w' := by
  obtain ⟨p, cap, rfl, hf⟩ := hv
  have Hf := Lib.hid hf
  have Hx := Lib.hid hx
  clear hf hx
  go_enter Tryd.func43, Tryd.ntmps43
  go_wp2_with fail
  go_loopw [3, 4] (fun s i wr => ∃ (k : Nat) (T : ByteArray), k ≤ A.length ∧ i = .int .i64 (k : Int) ∧ s = .string T ∧ Hid (bysN T = pjoin ((A.map bysN).take k)) ∧ T.size ≤ k * 1001 ∧ w = wr) (fun _ i _ => A.length - (intOf i).toNat)
  case atStart => exact ⟨0, ⟨#[]⟩, by omega, rfl, rfl, Lib.hid rfl, by decide, rfl⟩
  case round =>
    obtain ⟨k, T, hk, rfl, rfl, hT, hTs, rfl⟩ := hrel
    by_cases hlt : k < A.length
    · obtain ⟨g, off, rfl, hc⟩ := Hf.out (by omega)
      have hc1 := hc k hlt
      have hk1 : (k : Int) < (A.length : Int) := by omega
      have hw1 : wrap64 ((k : Int) + 1) = (k : Int) + 1 := by unfold wrap64; omega
      have hxs := Hx.out A[k] (List.getElem_mem _)
      by_cases h0 : 0 < k
      · have h0i : 0 < (k : Int) := by omega
        have hpt := Lib.hid (pjoin_take (A.map bysN) k (by rw [List.length_map]; exact hlt) h0)
        simp only [List.getElem_map] at hpt
        clear hc Hf Hx
        generalize A[k] = x at *
        obtain ⟨T1, hT1, a1⟩ := cat_big T ⟨#[47]⟩ (by show T.size + 1 ≤ _; omega)
        have hs1 : T1.size = T.size + 1 := by rw [← bysN_len, hT1, List.length_append, bysN_len]; rfl
        obtain ⟨T2, hT2, a2⟩ := cat_big T1 x (by omega)
        have hs2 : T2.size = T.size + 1 + x.size := by rw [← bysN_len, hT2, List.length_append, bysN_len, bysN_len, hs1]
        have H2 : Hid (bysN T2 = pjoin ((A.map bysN).take (k + 1))) := Lib.hid (by rw [hT2, hT1, hpt.out, hT.out, List.append_assoc]; rfl)
        clear hT1 hT2
        go_wp2_with fail
        go_roundw
        case rel => exact ⟨k + 1, T2, by omega, by go_num, rfl, H2, by omega, by trivial⟩
        case measure => simp [intOf]; omega
      · obtain rfl : k = 0 := by omega
        rw [Nat.add_zero] at hc1
        have hpt : Hid (pjoin ((A.map bysN).take (0 + 1)) = bysN A[0]) := Lib.hid (by rw [List.take_succ_eq_append_getElem (by rw [List.length_map]; exact hlt)]; simp [pjoin])
        clear hc Hf Hx
        generalize A[0] = x at *
        have hT0 : T = ⟨#[]⟩ := bysN_inj (hT.out.trans rfl)
        subst hT0
        obtain ⟨T2, hT2, a2⟩ := cat_big ⟨#[]⟩ x (by show 0 + x.size ≤ _; omega)
        have hs2 : T2.size = x.size := by rw [← bysN_len, hT2, List.length_append, bysN_len x]; show 0 + x.size = x.size; omega
        have H2 : Hid (bysN T2 = pjoin ((A.map bysN).take (0 + 1))) := Lib.hid (by rw [hT2, hpt.out]; rfl)
        clear hT2
        go_wp2_with fail
        go_roundw
        case rel => exact ⟨0 + 1, T2, by omega, by go_num, rfl, H2, by omega, by trivial⟩
        case measure => simp [intOf]; omega
    · obtain rfl : k = A.length := by omega
      go_wp2_with fail
      go_ret
      exact ⟨_, rfl, by rw [hT.out, List.take_of_length_le (by rw [List.length_map]; exact Nat.le_refl _)], rfl⟩
set_option maxHeartbeats 4000000 in
set_option maxRecDepth 100000 in
theorem awake12_any (w : World) : Calls Tryd.prog 25 #[] w fun e w' => e = .returned (.bool true) ∧ Below w.heap.size w w' := by
  go_enter Tryd.func25, Tryd.ntmps25
  have h1 : Hid (okRet (bysN ⟨#[99, 49]⟩) (bysN ⟨#[99, 49, 47, 120]⟩) = true) := Lib.hid (by decide +kernel)
  have h2 : Hid (pRet (bysN ⟨#[99, 49]⟩) (bysN ⟨#[99, 49, 47, 120]⟩) = bysN ⟨#[120]⟩) := Lib.hid (by decide +kernel)
  have h3 : Hid (pHops (bysN ⟨#[99, 49, 47, 120]⟩) = 1) := Lib.hid (by decide +kernel)
  go_wp2_with (go_at_call 27; refine (returns_any _ _ _ (by decide) (by decide)).mono ?_)
  rintro e w1 ⟨t, rfl, ht, hb1⟩
  obtain rfl := bysN_inj (ht.trans h2.out)
  rw [h1.out]
  clear ht h2 h1
  go_wp2_with (first | (go_at_call 29; refine (prefix_any _ _ _ (by decide) (by decide)).mono ?_; rintro e w2 ⟨t, rfl, ht, rfl⟩; obtain rfl : t = ⟨#[99, 49, 47, 120]⟩ := bysN_inj (ht.trans rfl)) | (go_at_call 34; refine (hops_any _ _ (by decide)).mono ?_; rintro e w2 ⟨rfl, hb2⟩; rw [h3.out]))
  go_ret
  exact ⟨rfl, BW_on hb1 hb2⟩
end Go.Proofs.YtkmdjnjpmhbhmaaDoor
