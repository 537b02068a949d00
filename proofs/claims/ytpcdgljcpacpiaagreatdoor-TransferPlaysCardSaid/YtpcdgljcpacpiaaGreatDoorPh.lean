/- Layer 13 (packet): names, what is plain, whether a packet may be; the program's and the document's. -/
import Derived.Test.YtpcdgljcpacpiaaGreatDoorMW
import Derived.Test.YtpcdgljcpacpiaaGreatDoorMT
namespace Go.Proofs.YtpcdgljcpacpiaaGreatDoor
open Go.RowKit
attribute [local go_sem ↓] Go.wp_at_zero Go.wp_at_succ
theorem limbs_zero {n : Nat} (hn : W256 n) : (limb n 0 == 0 && (limb n 1 == 0 && (limb n 2 == 0 && limb n 3 == 0))) = decide (n = 0) := by
  have h := limbs_beq hn W256.zero
  have w0' : limb 0 0 = 0 ∧ limb 0 1 = 0 ∧ limb 0 2 = 0 ∧ limb 0 3 = 0 := ⟨rfl, rfl, rfl, rfl⟩
  rw [w0'.1, w0'.2.1, w0'.2.2.1, w0'.2.2.2] at h
  exact h
theorem eqW0 (n : Nat) (hn : W256 n) (w : World) : (Op.equalIn 10000 31 (.agg #[.int .u64 (limb n 0), .int .u64 (limb n 1), .int .u64 (limb n 2), .int .u64 (limb n 3)]) (.agg #[.int .u64 0, .int .u64 0, .int .u64 0, .int .u64 0])).run Tryz.prog w = .ok (decide (n = 0)) w := by
  have u3 := Tryz.underlying29
  have a3 := Tryz.isAgg29
  have z3 := Tryz.sizeOf29
  rw [← limbs_zero hn]
  generalize limb n 0 = a
  generalize limb n 1 = b
  generalize limb n 2 = c
  generalize limb n 3 = d
  rw [show (10000 : Nat) = 9999 + 1 from rfl, Op.equalIn]
  simp only [Sem.run_bind, run_underlying Tryz.underlying31, Result.andThen_ok]
  simp only [Std.Legacy.Range.forIn_eq_forIn_range', Std.Legacy.Range.size, Nat.sub_zero, Nat.add_sub_cancel, Nat.div_one, List.range'_succ, List.range'_zero, List.forIn_cons, List.forIn_nil]
  go_simp
  by_cases h1 : a = 0 <;> by_cases h2 : b = 0 <;> by_cases h3 : c = 0 <;> by_cases h4 : d = 0 <;> simp [h1, h2, h3, h4]
theorem wzero_any (n : Nat) (hn : W256 n) (w : World) :
    Calls Tryz.prog 87 #[.agg #[.int .u64 (limb n 0), .int .u64 (limb n 1), .int .u64 (limb n 2), .int .u64 (limb n 3)]] w fun e w' => e = .returned (.bool (decide (n = 0))) ∧ Below w.heap.size w w' := by
  have heq := eqW0 n hn
  go_enter Tryz.func87, Tryz.ntmps87
  go_wp2
  go_ret
  exact ⟨rfl, (Below.refl _ _).alloc (Nat.le_refl _) _⟩
def okName (l : List Nat) : Bool := decide (1 ≤ l.length) && decide (l.length ≤ 64)
def okPlain (l : List Nat) : Bool := okName l && l.all (fun c => decide (c ≠ 47))
theorem bname_any (s : ByteArray) (w : World) : Calls Tryz.prog 89 #[.string s] w fun e w' => e = .returned (.bool (okName (bysN s))) ∧ w = w' := by
  have hl := bysN_len s
  by_cases h0 : s.size = 0
  · obtain rfl : s = ⟨#[]⟩ := bysN_inj (List.eq_nil_of_length_eq_zero (by rw [hl]; exact h0))
    go_enter Tryz.func89, Tryz.ntmps89
    go_wp2
    go_ret
    exact ⟨rfl, rfl⟩
  · have hie : s.toList.isEmpty = false := by rw [toList_isEmpty]; exact decide_eq_false h0
    have hok : Hid (okName (bysN s) = decide (s.size ≤ 64)) := Lib.hid (by unfold okName; rw [hl, decide_eq_true (show 1 ≤ s.size by omega), Bool.true_and])
    by_cases h64 : s.size ≤ 64
    · have hi : (s.size : Int) ≤ 64 := by omega
      rw [decide_eq_true h64] at hok
      go_enter Tryz.func89, Tryz.ntmps89
      go_wp2
      go_ret
      exact ⟨by rw [hok.out]; rfl, rfl⟩
    · have hi : ¬ (s.size : Int) ≤ 64 := by omega
      rw [decide_eq_false h64] at hok
      go_enter Tryz.func89, Tryz.ntmps89
      go_wp2
      go_ret
      exact ⟨by rw [hok.out]; first | rfl | (simp; omega), rfl⟩
theorem r11name_any (s : ByteArray) (w : World) : Calls Tryz.prog 59 #[.string s] w fun e w' => e = .returned (.bool (okName (bysN s))) ∧ w = w' := by
  have hl := bysN_len s
  have hok : Hid (okName (bysN s) = (decide (1 ≤ s.size) && decide (s.size ≤ 64))) := Lib.hid (by unfold okName; rw [hl])
  by_cases h0 : 1 ≤ s.size
  · have h0i : 1 ≤ (s.size : Int) := by omega
    rw [decide_eq_true h0] at hok
    by_cases h64 : s.size ≤ 64
    · have hi : (s.size : Int) ≤ 64 := by omega
      rw [decide_eq_true h64] at hok
      go_enter Tryz.func59, Tryz.ntmps59
      go_wp2
      go_ret
      exact ⟨by rw [hok.out]; rfl, rfl⟩
    · have hi : ¬ (s.size : Int) ≤ 64 := by omega
      rw [decide_eq_false h64] at hok
      go_enter Tryz.func59, Tryz.ntmps59
      go_wp2
      go_ret
      exact ⟨by rw [hok.out]; first | rfl | (simp; omega), rfl⟩
  · have h0i : ¬ 1 ≤ (s.size : Int) := by omega
    rw [decide_eq_false h0] at hok
    go_enter Tryz.func59, Tryz.ntmps59
    go_wp2
    go_ret
    exact ⟨by rw [hok.out]; first | rfl | (simp; omega), rfl⟩
theorem contains_all (s : ByteArray) : decide (0 ≤ Lib.indexByte s.data.toList 47) = !((bysN s).all (fun c => decide (c ≠ 47))) := by
  rcases idx_cases s with h | ⟨i, h⟩
  · have hno : (bysN s).all (fun c => decide (c ≠ 47)) = true := by
      rw [List.all_eq_true]
      intro c hc
      refine decide_eq_true fun h47 => ?_
      simp only [bysN, List.mem_map] at hc
      obtain ⟨u, hu, rfl⟩ := hc
      obtain ⟨k, hk⟩ := List.mem_iff_getElem?.1 hu
      have hu2 : u = 47 := by apply UInt8.toNat.inj; rw [h47]; rfl
      exact Lib.indexByte_none h k (hu2 ▸ hk)
    rw [hno, h]
    rfl
  · obtain ⟨h1, _⟩ := Lib.indexByte_some h
    have hyes : (bysN s).all (fun c => decide (c ≠ 47)) = false := by
      rw [List.all_eq_false]
      refine ⟨47, ?_, by decide⟩
      unfold bysN
      exact List.mem_map.2 ⟨47, List.mem_of_getElem? h1, rfl⟩
    rw [hyes, h]
    exact decide_eq_true (by omega)
theorem plain_any (s : ByteArray) (w : World) : Calls Tryz.prog 88 #[.string s] w fun e w' => e = .returned (.bool (okPlain (bysN s))) ∧ w = w' := by
  have hok : Hid (okPlain (bysN s) = (okName (bysN s) && (bysN s).all (fun c => decide (c ≠ 47)))) := Lib.hid rfl
  have hca := Lib.hid (contains_all s)
  have hbn := Lib.hid (bname_any s)
  generalize okName (bysN s) = b1 at *
  generalize (bysN s).all (fun c => decide (c ≠ 47)) = b2 at *
  go_enter Tryz.func88, Tryz.ntmps88
  cases b1 <;> cases b2
  all_goals
    go_wp2_with (first
      | (go_at_call 89; refine (hbn.out _).mono ?_; rintro e w' ⟨rfl, rfl⟩)
      | (go_at_call 107; refine (Tryz.strings_Contains_one s 47 _).mono ?_; rintro e w' ⟨rfl, rfl⟩; rw [hca.out]))
    go_ret
    exact ⟨by rw [hok.out]; rfl, rfl⟩
set_option maxHeartbeats 4000000 in
set_option maxRecDepth 100000 in
theorem r13plain_any (s : ByteArray) (w : World) (hs : s.size ≤ 1000000) : Calls Tryz.prog 57 #[.string s] w fun e w' => e = .returned (.bool (okPlain (bysN s))) ∧ w = w' := by
  have hl := bysN_len s
  have hg := Lib.hid (str_get s)
  have hbn := Lib.hid (r11name_any s)
  have hok : Hid (okPlain (bysN s) = (okName (bysN s) && (bysN s).all (fun c => decide (c ≠ 47)))) := Lib.hid rfl
  generalize bysN s = l at *
  go_enter Tryz.func57, Tryz.ntmps57
  go_wp2_with fail
  go_loopw [3] (fun i wi => ∃ k : Nat, k ≤ l.length ∧ i = .int .i64 (k : Int) ∧ Hid (∀ c ∈ l.take k, c ≠ 47) ∧ w = wi) (fun i _ => l.length - (intOf i).toNat)
  case atStart => exact ⟨0, by omega, rfl, Lib.hid (fun c hc => by simp at hc), rfl⟩
  case round =>
    obtain ⟨k, hk, rfl, hq, rfl⟩ := hrel
    by_cases hk0 : k < l.length
    · have hk1 : (k : Int) < (s.size : Int) := by omega
      have hw1 : wrap64 ((k : Int) + 1) = (k : Int) + 1 := by unfold wrap64; omega
      have hg2 := hg.out k (by omega)
      have ht : Hid (l.take (k + 1) = l.take k ++ [l.getD k 0]) := Lib.hid (by rw [List.take_succ_eq_append_getElem hk0, List.getD_eq_getElem?_getD, List.getElem?_eq_getElem hk0]; rfl)
      have hmem : l.getD k 0 ∈ l := by rw [List.getD_eq_getElem?_getD, List.getElem?_eq_getElem hk0]; exact List.getElem_mem _
      generalize l.getD k 0 = c at *
      by_cases hc : c = 47
      · subst hc
        have hf : Hid (okPlain l = false) := Lib.hid (by
          rw [hok.out]
          have h1 : l.all (fun c => decide (c ≠ 47)) = false := by
            rw [List.all_eq_false]
            exact ⟨47, hmem, by decide⟩
          rw [h1, Bool.and_false])
        go_wp2_with fail
        go_ret
        exact ⟨by rw [hf.out]; rfl, rfl⟩
      · have hci : ¬ (c : Int) = 47 := by omega
        go_wp2_with fail
        go_roundw
        case rel => exact ⟨k + 1, by omega, by go_num, Lib.hid (fun x hx => by
          rw [ht.out] at hx
          rcases List.mem_append.1 hx with h | h
          · exact hq.out x h
          · simp at h; rw [h]; exact hc), by trivial⟩
        case measure => simp [intOf]; omega
    · obtain rfl : k = l.length := by omega
      have hall : l.all (fun c => decide (c ≠ 47)) = true := by
        rw [List.all_eq_true]
        intro c hc
        exact decide_eq_true (hq.out c (by rw [List.take_length]; exact hc))
      have hf : Hid (okPlain l = okName l) := Lib.hid (by rw [hok.out, hall, Bool.and_true])
      have hk1 : ¬ (l.length : Int) < (s.size : Int) := by omega
      clear hall
      go_wp2_with (go_at_call 59; refine (hbn.out _).mono ?_; rintro e w' ⟨rfl, rfl⟩; rw [← hf.out])
      go_ret
      exact ⟨rfl, rfl⟩
theorem within_any (n least : Int) (w : World) : Calls Tryz.prog 86 #[.int .i64 n, .int .i64 least] w fun e w' => e = .returned (.bool (decide (least ≤ n) && decide (n ≤ 1099511627776))) ∧ w = w' := by
  generalize hB : (decide (least ≤ n) && decide (n ≤ 1099511627776)) = B
  by_cases h1 : least ≤ n
  · by_cases h2 : n ≤ 1099511627776
    · obtain rfl : B = true := by rw [← hB, decide_eq_true h1, decide_eq_true h2]; rfl
      clear hB
      go_enter Tryz.func86, Tryz.ntmps86
      go_wp2
      go_ret
      exact ⟨rfl, rfl⟩
    · obtain rfl : B = false := by rw [← hB, decide_eq_true h1, decide_eq_false h2]; rfl
      clear hB
      go_enter Tryz.func86, Tryz.ntmps86
      go_wp2
      go_ret
      exact ⟨by first | rfl | (simp; omega), rfl⟩
  · obtain rfl : B = false := by rw [← hB, decide_eq_false h1]; rfl
    clear hB
    go_enter Tryz.func86, Tryz.ntmps86
    go_wp2
    go_ret
    exact ⟨by first | rfl | (simp; omega), rfl⟩
/-- What a check answers. -/
def chkN (b : Bool) : Int := match b with | true => 0 | false => 1
/-- May the packet be? -/
def okP (q h t : Int) (s k d f g : List Nat) (n : Nat) : Bool :=
  (decide (1 ≤ q) && decide (q ≤ 1099511627776)) && (decide (0 ≤ h) && decide (h ≤ 1099511627776)) && (decide (0 ≤ t) && decide (t ≤ 1099511627776)) && !(decide (h = 0) && decide (t = 0)) &&
    (okPart s && okPart k && okDen d && !(decide (n = 0)) && okPlain f && okPlain g)
theorem okP_false {q h t : Int} {s k d f g : List Nat} {n : Nat} (hh : ¬ (1 ≤ q ∧ q ≤ 1099511627776) ∨ ¬ (0 ≤ h ∧ h ≤ 1099511627776) ∨ ¬ (0 ≤ t ∧ t ≤ 1099511627776) ∨ (h = 0 ∧ t = 0) ∨ okPart s = false ∨ okPart k = false ∨ okDen d = false ∨ n = 0 ∨ okPlain f = false ∨ okPlain g = false) : okP q h t s k d f g n = false := by
  rw [Bool.eq_false_iff]
  intro e
  simp only [okP, Bool.and_eq_true, decide_eq_true_eq, Bool.not_eq_true', Bool.and_eq_false_iff, decide_eq_false_iff_not] at e
  obtain ⟨⟨⟨⟨a1, a2⟩, a3⟩, a4⟩, ⟨⟨⟨⟨a5, a6⟩, a7⟩, a8⟩, a9⟩, a10⟩ := e
  rcases hh with x | x | x | x | x | x | x | x | x | x
  · exact x a1
  · exact x a2
  · exact x a3
  · rcases a4 with y | y
    · exact y x.1
    · exact y x.2
  · rw [x] at a5; cases a5
  · rw [x] at a6; cases a6
  · rw [x] at a7; cases a7
  · exact a8 x
  · rw [x] at a9; cases a9
  · rw [x] at a10; cases a10
theorem okP_true {q h t : Int} {s k d f g : List Nat} {n : Nat} (a1 : 1 ≤ q ∧ q ≤ 1099511627776) (a2 : 0 ≤ h ∧ h ≤ 1099511627776) (a3 : 0 ≤ t ∧ t ≤ 1099511627776) (a4 : ¬ (h = 0 ∧ t = 0)) (a5 : okPart s = true) (a6 : okPart k = true) (a7 : okDen d = true) (a8 : n ≠ 0) (a9 : okPlain f = true) (a10 : okPlain g = true) : okP q h t s k d f g n = true := by
  simp only [okP, Bool.and_eq_true, decide_eq_true_eq, Bool.not_eq_true', Bool.and_eq_false_iff, decide_eq_false_iff_not]
  refine ⟨⟨⟨⟨a1, a2⟩, a3⟩, ?_⟩, ⟨⟨⟨⟨a5, a6⟩, a7⟩, a8⟩, a9⟩, a10⟩
  by_cases y : h = 0
  · exact .inr (fun z => a4 ⟨y, z⟩)
  · exact .inl y
end Go.Proofs.YtpcdgljcpacpiaaGreatDoor
