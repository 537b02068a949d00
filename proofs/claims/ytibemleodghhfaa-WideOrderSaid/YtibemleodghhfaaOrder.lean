/- The law WideOrder: numbers are in the order of their bytes; twice a number is it and it; the text of a small one is its digits; for every input. -/
import Derived.Test.YtibemleodghhfaaOp
import Derived.Deep.RegionHeld3
namespace Go.Proofs.Ytibemleodghhfaa
open Go.RowKit Go.ChangeShapes Go.WideShapes
attribute [local go_sem ↓] Go.wp_at_zero Go.wp_at_succ
def InvT (n f c : Nat) (ds : List Nat) : Prop := (0 < c ∧ c < 10 ^ f ∧ ds ++ dec f c = dec 78 n) ∨ (c = 0 ∧ (n = 0 ∨ ds = dec 78 n))
theorem InvT.start (n : Nat) (hn : n < 18446744073709551616) : InvT n 78 n [] := by
  rcases Nat.eq_zero_or_pos n with h | h
  · exact .inr ⟨h, .inl h⟩
  · exact .inl ⟨h, Nat.lt_trans hn (by decide), rfl⟩
theorem InvT.len {n f c : Nat} {ds : List Nat} (h : InvT n f c ds) (hc : 0 < c) : ds.length ≤ 77 := by
  rcases h with ⟨_, h1, h2⟩ | ⟨h, _⟩
  · have hl := congrArg List.length h2
    rw [List.length_append] at hl
    have h3 := dec_len 78 n
    obtain ⟨f', rfl⟩ : ∃ f', f = f' + 1 := by
      rcases Nat.eq_zero_or_pos f with h0 | h0
      · subst h0; simp at h1; omega
      · exact ⟨f - 1, by omega⟩
    have := dec_pos f' c
    omega
  · omega
theorem InvT.step {n f c : Nat} {ds : List Nat} (h : InvT n f c ds) (hc : 0 < c) : ∃ f', InvT n f' (c / 10) (ds ++ [c % 10]) := by
  rcases h with ⟨_, h1, h2⟩ | ⟨h, _⟩
  · obtain ⟨f', rfl⟩ : ∃ f', f = f' + 1 := by
      rcases Nat.eq_zero_or_pos f with h0 | h0
      · subst h0; simp at h1; omega
      · exact ⟨f - 1, by omega⟩
    rw [dec_succ] at h2
    by_cases hq : c / 10 = 0
    · rw [if_pos hq] at h2
      exact ⟨0, .inr ⟨hq, .inr h2⟩⟩
    · rw [if_neg hq] at h2
      exact ⟨f', .inl ⟨by omega, div_lt_pow h1, by rw [List.append_assoc]; exact h2⟩⟩
  · omega
theorem InvT.done {n f : Nat} {ds : List Nat} (h : InvT n f 0 ds) (hn : 0 < n) : ds = dec 78 n := by
  rcases h with ⟨h, _⟩ | ⟨_, h⟩
  · omega
  · rcases h with h | h
    · omega
    · exact h
set_option maxHeartbeats 8000000 in
set_option maxRecDepth 100000 in
theorem order_gen (N M n S : Nat) (o : Bool) (c1 : Int) (ba bb tx : ByteArray) (hnW : n < 18446744073709551616) (hS : W256 S)
    (Hba : Hid (∀ w, Calls Try.prog 30 #[.agg #[.int .u64 (limb N 0), .int .u64 (limb N 1), .int .u64 (limb N 2), .int .u64 (limb N 3)]] w fun e w' => e = .returned (.string ba) ∧ Below w.heap.size w w')) (Hbb : Hid (∀ w, Calls Try.prog 30 #[.agg #[.int .u64 (limb M 0), .int .u64 (limb M 1), .int .u64 (limb M 2), .int .u64 (limb M 3)]] w fun e w' => e = .returned (.string bb) ∧ Below w.heap.size w w'))
    (Hs : Hid (∀ w, Calls Try.prog 21 #[.agg #[.int .u64 (limb N 0), .int .u64 (limb N 1), .int .u64 (limb N 2), .int .u64 (limb N 3)], .agg #[.int .u64 (limb N 0), .int .u64 (limb N 1), .int .u64 (limb N 2), .int .u64 (limb N 3)]] w fun e w' => e = .returned (.tuple #[.agg #[.int .u64 (limb S 0), .int .u64 (limb S 1), .int .u64 (limb S 2), .int .u64 (limb S 3)], .bool o]) ∧ Below w.heap.size w w')) (Ht : Hid (∀ w, Calls Try.prog 20 #[.agg #[.int .u64 (limb N 0), .int .u64 (limb N 1), .int .u64 (limb N 2), .int .u64 (limb N 3)], .int .u64 2] w fun e w' => e = .returned (.tuple #[.agg #[.int .u64 (limb S 0), .int .u64 (limb S 1), .int .u64 (limb S 2), .int .u64 (limb S 3)], .bool o]) ∧ Below w.heap.size w w'))
    (Hft : Hid (∀ w, Calls Try.prog 31 #[.string tx] w fun e w' => e = .returned (.tuple #[.agg #[.int .u64 (limb n 0), .int .u64 (limb n 1), .int .u64 (limb n 2), .int .u64 (limb n 3)], .int .i64 0]) ∧ Below w.heap.size w w')) (Hcmp : Hid (∀ w, Calls Try.prog 24 #[.agg #[.int .u64 (limb N 0), .int .u64 (limb N 1), .int .u64 (limb N 2), .int .u64 (limb N 3)], .agg #[.int .u64 (limb M 0), .int .u64 (limb M 1), .int .u64 (limb M 2), .int .u64 (limb M 3)]] w fun e w' => e = .returned (.int .i64 c1) ∧ Below w.heap.size w w'))
    (Hof : Hid (∀ w, Calls Try.prog 18 #[.int .u64 (n : Int)] w fun e w' => e = .returned (.agg #[.int .u64 (limb n 0), .int .u64 (limb n 1), .int .u64 (limb n 2), .int .u64 (limb n 3)]) ∧ Below w.heap.size w w')) (Htx : Hid (∀ w, Calls Try.prog 25 #[.agg #[.int .u64 (limb n 0), .int .u64 (limb n 1), .int .u64 (limb n 2), .int .u64 (limb n 3)]] w fun e w' => e = .returned (.string tx) ∧ Below w.heap.size w w'))
    (hc : (Op.bytesLess ba.toList bb.toList = true ∧ (ba.toList == bb.toList) = false ∧ c1 = -1) ∨ (Op.bytesLess ba.toList bb.toList = false ∧ (ba.toList == bb.toList) = true ∧ c1 = 0) ∨ (Op.bytesLess ba.toList bb.toList = false ∧ (ba.toList == bb.toList) = false ∧ c1 = 1))
    (hx : (0 < n ∧ tx = txS (dec 78 n)) ∨ (n = 0 ∧ tx = ⟨#[48]⟩)) (w : World) :
    Calls Try.prog 11 #[.agg #[.int .u64 (limb N 0), .int .u64 (limb N 1), .int .u64 (limb N 2), .int .u64 (limb N 3)], .agg #[.int .u64 (limb M 0), .int .u64 (limb M 1), .int .u64 (limb M 2), .int .u64 (limb M 3)], .int .u64 (n : Int)] w fun e w' => e = .returned (.bool true) ∧ Below w.heap.size w w' := by
  have HeN := Lib.hid (fun w => (eqWide n n (W256.small hnW) (W256.small hnW) w).trans (by rw [decide_eq_true rfl]))
  have HeS := Lib.hid (fun w => (eqWide S S hS hS w).trans (by rw [decide_eq_true rfl]))
  have HN := Lib.hid hnW
  clear hS hnW
  rcases hx with ⟨hn0, rfl⟩ | ⟨rfl, rfl⟩ <;> rcases hc with ⟨h1, h2, rfl⟩ | ⟨h1, h2, rfl⟩ | ⟨h1, h2, rfl⟩
  · have hz0 : ((n : Int) == 0) = false := by simp; omega
    go_enter Try.func11, Try.ntmps11
    go_wp2_with fail
    refine (awake04 _).mono ?_
    rintro e w0 ⟨rfl, hb0⟩
    have k_a := (blk1 w 26 #[.int .u64 (limb N 0), .int .u64 (limb N 1), .int .u64 (limb N 2), .int .u64 (limb N 3)]).alloc (.cells #[.int .u64 (limb M 0), .int .u64 (limb M 1), .int .u64 (limb M 2), .int .u64 (limb M 3)] 26)
    have k_b := blk2 w (.cells #[.int .u64 (limb N 0), .int .u64 (limb N 1), .int .u64 (limb N 2), .int .u64 (limb N 3)] 26) 26 #[.int .u64 (limb M 0), .int .u64 (limb M 1), .int .u64 (limb M 2), .int .u64 (limb M 3)]
    replace k_a := k_a.below hb0 k_a.lt
    replace k_b := k_b.below hb0 k_b.lt
    have BB := BW_on (BW_alloc (BW_alloc (Below.refl w.heap.size w) _) _) hb0
    have c_a := fun i => k_a.cell i
    have c_b := fun i => k_b.cell i
    go_wp2_with fail
    refine (Hba.out _).mono ?_
    rintro e w1 ⟨rfl, hb1⟩
    clear c_a c_b
    replace k_a := k_a.below hb1 k_a.lt
    replace k_b := k_b.below hb1 k_b.lt
    replace BB := BW_on BB hb1
    have c_a := fun i => k_a.cell i
    have c_b := fun i => k_b.cell i
    go_wp2_with fail
    refine (Hbb.out _).mono ?_
    rintro e w2 ⟨rfl, hb2⟩
    clear c_a c_b
    replace k_a := k_a.below hb2 k_a.lt
    replace k_b := k_b.below hb2 k_b.lt
    replace BB := BW_on BB hb2
    have c_a := fun i => k_a.cell i
    have c_b := fun i => k_b.cell i
    go_wp2_with fail
    refine (Hs.out _).mono ?_
    rintro e w3 ⟨rfl, hb3⟩
    clear c_a c_b
    replace k_a := k_a.step hb3 (.cells #[.int .u64 (limb S 0), .int .u64 (limb S 1), .int .u64 (limb S 2), .int .u64 (limb S 3)] 26)
    replace k_b := k_b.step hb3 (.cells #[.int .u64 (limb S 0), .int .u64 (limb S 1), .int .u64 (limb S 2), .int .u64 (limb S 3)] 26)
    have k_s := Blk.new w3 26 #[.int .u64 (limb S 0), .int .u64 (limb S 1), .int .u64 (limb S 2), .int .u64 (limb S 3)]
    replace BB := BW_alloc (BW_on BB hb3) (.cells #[.int .u64 (limb S 0), .int .u64 (limb S 1), .int .u64 (limb S 2), .int .u64 (limb S 3)] 26)
    have c_a := fun i => k_a.cell i
    have c_b := fun i => k_b.cell i
    have c_s := fun i => k_s.cell i
    go_wp2_with fail
    refine (Ht.out _).mono ?_
    rintro e w4 ⟨rfl, hb4⟩
    clear c_a c_b c_s
    replace k_a := k_a.step hb4 (.cells #[.int .u64 (limb S 0), .int .u64 (limb S 1), .int .u64 (limb S 2), .int .u64 (limb S 3)] 26)
    replace k_b := k_b.step hb4 (.cells #[.int .u64 (limb S 0), .int .u64 (limb S 1), .int .u64 (limb S 2), .int .u64 (limb S 3)] 26)
    replace k_s := k_s.step hb4 (.cells #[.int .u64 (limb S 0), .int .u64 (limb S 1), .int .u64 (limb S 2), .int .u64 (limb S 3)] 26)
    have k_t := Blk.new w4 26 #[.int .u64 (limb S 0), .int .u64 (limb S 1), .int .u64 (limb S 2), .int .u64 (limb S 3)]
    replace BB := BW_alloc (BW_on BB hb4) (.cells #[.int .u64 (limb S 0), .int .u64 (limb S 1), .int .u64 (limb S 2), .int .u64 (limb S 3)] 26)
    have c_a := fun i => k_a.cell i
    have c_b := fun i => k_b.cell i
    have c_s := fun i => k_s.cell i
    have c_t := fun i => k_t.cell i
    go_wp2_with fail
    clear c_a c_b c_s c_t
    generalize hWW : w4.alloc _ = W at *
    replace k_a := k_a.held
    replace k_b := k_b.held
    replace k_s := k_s.held
    replace k_t := k_t.held
    clear hWW hb0 hb1 hb2 hb3 hb4
    have BB := Lib.hid BB
    go_loopw [15, 16] (fun v m wr => ∃ (f c : Nat) (ds : List Nat), v = .string (txS ds) ∧ m = .int .u64 (c : Int) ∧ Hid (InvT n f c ds ∧ c ≤ n) ∧ Below W.heap.size W wr) (fun _ m _ => (intOf m).toNat)
    case atStart => exact ⟨78, n, [], rfl, rfl, ⟨InvT.start n HN.out, Nat.le_refl _⟩, Below.refl _ _⟩
    case round =>
      obtain ⟨f, c, ds, rfl, rfl, hinv, hB⟩ := hrel
      have hcn : c ≤ n := hinv.out.2
      have hNn := HN.out
      have hc18 : (c : Int) < 18446744073709551616 := by omega
      clear hcn hNn
      by_cases hc0 : 0 < c
      · have hc1 : (0 : Int) < (c : Int) := by omega
        have hlen := hinv.out.1.len hc0
        obtain ⟨f', hinv2⟩ := hinv.out.1.step hc0
        have hcn2 : c / 10 ≤ n := Nat.le_trans (Nat.div_le_self _ _) hinv.out.2
        have hinv' := Lib.hid (And.intro hinv2 hcn2)
        have hlt := Nat.div_lt_self hc0 (by decide : 1 < 10)
        have hr10 : c % 10 < 10 := Nat.mod_lt _ (by decide)
        have er : ((c : Int) % 10) = ((c % 10 : Nat) : Int) := by omega
        have eq' : ((c : Int) / 10) = ((c / 10 : Nat) : Int) := by omega
        generalize c % 10 = r at *
        generalize hq : c / 10 = q at *
        have Hq := Lib.hid hq
        have hwq : IntKind.u64.wrap (q : Int) = (q : Int) := by rw [IntKind.wrap_u64]; omega
        clear hinv2 hcn2 hq hc18
        have hr9 : (r : Int) < 10 := by omega
        have hcv := run_convert_bytes_back (P := Try.prog) (wr.alloc (.cells #[.int .u8 (48 + (r : Int))] 5)) 55 9 5 ⟨wr.heap.size, 0, none⟩ 1 [dgt r] Try.underlying55 Try.underlying5 Try.underlying9 (fun j hj => by
            obtain rfl : j = 0 := by simpa using hj
            have k := blk1 wr 5 #[.int .u8 (48 + (r : Int))]
            have e1 : (⟨wr.heap.size, 0, none⟩ : Addr).add 0 = ⟨wr.heap.size, 0, none⟩ := rfl
            rw [e1, k.cell 0]
            simp [dgt]
            omega)
        have hsz : (txS ds).size = ds.length := by simp [txS, ByteArray.size]
        have hs1 : ((txS ds).size : Int) ≤ 77 := by omega
        have hap := txS_snoc ds r
        simp only [List.length_cons, List.length_nil] at hcv
        clear hsz hc0
        go_wp2_with fail
        go_roundw
        case rel => exact ⟨f', q, ds ++ [r], rfl, rfl, hinv', hB.alloc hB.size _⟩
        case measure => simp [intOf]; omega
      · obtain rfl : c = 0 := by omega
        have hds := hinv.out.1.done hn0
        subst hds
        clear hc0
        go_wp2_with fail
        refine (Hft.out _).mono ?_
        rintro e w9 ⟨rfl, hb9⟩
        have hB9 := BW_alloc (BW_on hB hb9) (.cells #[.int .u64 (limb n 0), .int .u64 (limb n 1), .int .u64 (limb n 2), .int .u64 (limb n 3)] 26)
        have k_z := (Blk.new w9 26 #[.int .u64 (limb n 0), .int .u64 (limb n 1), .int .u64 (limb n 2), .int .u64 (limb n 3)]).held
        have k_a2 := fun w' h => k_a w' (BW_on hB9 h)
        have k_b2 := fun w' h => k_b w' (BW_on hB9 h)
        have k_s2 := fun w' h => k_s w' (BW_on hB9 h)
        have k_t2 := fun w' h => k_t w' (BW_on hB9 h)
        go_wp2_with fail
        generalize hVV : w9.alloc (.cells #[.int .u64 (limb n 0), .int .u64 (limb n 1), .int .u64 (limb n 2), .int .u64 (limb n 3)] 26) = V at *
        clear hVV hb9 hB
        have heN := HeN.out
        have heS := HeS.out
        go_region_held3 (fun w' => Below V.heap.size V w')
          ((first | exact (Below.refl _ _).drew | assumption | ((refine BW_on ?_ (by assumption)); assumption)))
          (first | (go_at_call 24; refine (Hcmp.out _).mono ?_; rintro e wc1 ⟨rfl, hd1⟩) | (go_at_call 18; refine (Hof.out _).mono ?_; rintro e wc2 ⟨rfl, hd2⟩) | (go_at_call 25; refine (Htx.out _).mono ?_; rintro e wc3 ⟨rfl, hd3⟩))
        all_goals (go_wp2_with fail; go_ret; exact ⟨rfl, BW_on (BW_on BB.out hB9) (by assumption)⟩)
  · have hz0 : ((n : Int) == 0) = false := by simp; omega
    go_enter Try.func11, Try.ntmps11
    go_wp2_with fail
    refine (awake04 _).mono ?_
    rintro e w0 ⟨rfl, hb0⟩
    have k_a := (blk1 w 26 #[.int .u64 (limb N 0), .int .u64 (limb N 1), .int .u64 (limb N 2), .int .u64 (limb N 3)]).alloc (.cells #[.int .u64 (limb M 0), .int .u64 (limb M 1), .int .u64 (limb M 2), .int .u64 (limb M 3)] 26)
    have k_b := blk2 w (.cells #[.int .u64 (limb N 0), .int .u64 (limb N 1), .int .u64 (limb N 2), .int .u64 (limb N 3)] 26) 26 #[.int .u64 (limb M 0), .int .u64 (limb M 1), .int .u64 (limb M 2), .int .u64 (limb M 3)]
    replace k_a := k_a.below hb0 k_a.lt
    replace k_b := k_b.below hb0 k_b.lt
    have BB := BW_on (BW_alloc (BW_alloc (Below.refl w.heap.size w) _) _) hb0
    have c_a := fun i => k_a.cell i
    have c_b := fun i => k_b.cell i
    go_wp2_with fail
    refine (Hba.out _).mono ?_
    rintro e w1 ⟨rfl, hb1⟩
    clear c_a c_b
    replace k_a := k_a.below hb1 k_a.lt
    replace k_b := k_b.below hb1 k_b.lt
    replace BB := BW_on BB hb1
    have c_a := fun i => k_a.cell i
    have c_b := fun i => k_b.cell i
    go_wp2_with fail
    refine (Hbb.out _).mono ?_
    rintro e w2 ⟨rfl, hb2⟩
    clear c_a c_b
    replace k_a := k_a.below hb2 k_a.lt
    replace k_b := k_b.below hb2 k_b.lt
    replace BB := BW_on BB hb2
    have c_a := fun i => k_a.cell i
    have c_b := fun i => k_b.cell i
    go_wp2_with fail
    refine (Hs.out _).mono ?_
    rintro e w3 ⟨rfl, hb3⟩
    clear c_a c_b
    replace k_a := k_a.step hb3 (.cells #[.int .u64 (limb S 0), .int .u64 (limb S 1), .int .u64 (limb S 2), .int .u64 (limb S 3)] 26)
    replace k_b := k_b.step hb3 (.cells #[.int .u64 (limb S 0), .int .u64 (limb S 1), .int .u64 (limb S 2), .int .u64 (limb S 3)] 26)
    have k_s := Blk.new w3 26 #[.int .u64 (limb S 0), .int .u64 (limb S 1), .int .u64 (limb S 2), .int .u64 (limb S 3)]
    replace BB := BW_alloc (BW_on BB hb3) (.cells #[.int .u64 (limb S 0), .int .u64 (limb S 1), .int .u64 (limb S 2), .int .u64 (limb S 3)] 26)
    have c_a := fun i => k_a.cell i
    have c_b := fun i => k_b.cell i
    have c_s := fun i => k_s.cell i
    go_wp2_with fail
    refine (Ht.out _).mono ?_
    rintro e w4 ⟨rfl, hb4⟩
    clear c_a c_b c_s
    replace k_a := k_a.step hb4 (.cells #[.int .u64 (limb S 0), .int .u64 (limb S 1), .int .u64 (limb S 2), .int .u64 (limb S 3)] 26)
    replace k_b := k_b.step hb4 (.cells #[.int .u64 (limb S 0), .int .u64 (limb S 1), .int .u64 (limb S 2), .int .u64 (limb S 3)] 26)
    replace k_s := k_s.step hb4 (.cells #[.int .u64 (limb S 0), .int .u64 (limb S 1), .int .u64 (limb S 2), .int .u64 (limb S 3)] 26)
    have k_t := Blk.new w4 26 #[.int .u64 (limb S 0), .int .u64 (limb S 1), .int .u64 (limb S 2), .int .u64 (limb S 3)]
    replace BB := BW_alloc (BW_on BB hb4) (.cells #[.int .u64 (limb S 0), .int .u64 (limb S 1), .int .u64 (limb S 2), .int .u64 (limb S 3)] 26)
    have c_a := fun i => k_a.cell i
    have c_b := fun i => k_b.cell i
    have c_s := fun i => k_s.cell i
    have c_t := fun i => k_t.cell i
    go_wp2_with fail
    clear c_a c_b c_s c_t
    generalize hWW : w4.alloc _ = W at *
    replace k_a := k_a.held
    replace k_b := k_b.held
    replace k_s := k_s.held
    replace k_t := k_t.held
    clear hWW hb0 hb1 hb2 hb3 hb4
    have BB := Lib.hid BB
    go_loopw [15, 16] (fun v m wr => ∃ (f c : Nat) (ds : List Nat), v = .string (txS ds) ∧ m = .int .u64 (c : Int) ∧ Hid (InvT n f c ds ∧ c ≤ n) ∧ Below W.heap.size W wr) (fun _ m _ => (intOf m).toNat)
    case atStart => exact ⟨78, n, [], rfl, rfl, ⟨InvT.start n HN.out, Nat.le_refl _⟩, Below.refl _ _⟩
    case round =>
      obtain ⟨f, c, ds, rfl, rfl, hinv, hB⟩ := hrel
      have hcn : c ≤ n := hinv.out.2
      have hNn := HN.out
      have hc18 : (c : Int) < 18446744073709551616 := by omega
      clear hcn hNn
      by_cases hc0 : 0 < c
      · have hc1 : (0 : Int) < (c : Int) := by omega
        have hlen := hinv.out.1.len hc0
        obtain ⟨f', hinv2⟩ := hinv.out.1.step hc0
        have hcn2 : c / 10 ≤ n := Nat.le_trans (Nat.div_le_self _ _) hinv.out.2
        have hinv' := Lib.hid (And.intro hinv2 hcn2)
        have hlt := Nat.div_lt_self hc0 (by decide : 1 < 10)
        have hr10 : c % 10 < 10 := Nat.mod_lt _ (by decide)
        have er : ((c : Int) % 10) = ((c % 10 : Nat) : Int) := by omega
        have eq' : ((c : Int) / 10) = ((c / 10 : Nat) : Int) := by omega
        generalize c % 10 = r at *
        generalize hq : c / 10 = q at *
        have Hq := Lib.hid hq
        have hwq : IntKind.u64.wrap (q : Int) = (q : Int) := by rw [IntKind.wrap_u64]; omega
        clear hinv2 hcn2 hq hc18
        have hr9 : (r : Int) < 10 := by omega
        have hcv := run_convert_bytes_back (P := Try.prog) (wr.alloc (.cells #[.int .u8 (48 + (r : Int))] 5)) 55 9 5 ⟨wr.heap.size, 0, none⟩ 1 [dgt r] Try.underlying55 Try.underlying5 Try.underlying9 (fun j hj => by
            obtain rfl : j = 0 := by simpa using hj
            have k := blk1 wr 5 #[.int .u8 (48 + (r : Int))]
            have e1 : (⟨wr.heap.size, 0, none⟩ : Addr).add 0 = ⟨wr.heap.size, 0, none⟩ := rfl
            rw [e1, k.cell 0]
            simp [dgt]
            omega)
        have hsz : (txS ds).size = ds.length := by simp [txS, ByteArray.size]
        have hs1 : ((txS ds).size : Int) ≤ 77 := by omega
        have hap := txS_snoc ds r
        simp only [List.length_cons, List.length_nil] at hcv
        clear hsz hc0
        go_wp2_with fail
        go_roundw
        case rel => exact ⟨f', q, ds ++ [r], rfl, rfl, hinv', hB.alloc hB.size _⟩
        case measure => simp [intOf]; omega
      · obtain rfl : c = 0 := by omega
        have hds := hinv.out.1.done hn0
        subst hds
        clear hc0
        go_wp2_with fail
        refine (Hft.out _).mono ?_
        rintro e w9 ⟨rfl, hb9⟩
        have hB9 := BW_alloc (BW_on hB hb9) (.cells #[.int .u64 (limb n 0), .int .u64 (limb n 1), .int .u64 (limb n 2), .int .u64 (limb n 3)] 26)
        have k_z := (Blk.new w9 26 #[.int .u64 (limb n 0), .int .u64 (limb n 1), .int .u64 (limb n 2), .int .u64 (limb n 3)]).held
        have k_a2 := fun w' h => k_a w' (BW_on hB9 h)
        have k_b2 := fun w' h => k_b w' (BW_on hB9 h)
        have k_s2 := fun w' h => k_s w' (BW_on hB9 h)
        have k_t2 := fun w' h => k_t w' (BW_on hB9 h)
        go_wp2_with fail
        generalize hVV : w9.alloc (.cells #[.int .u64 (limb n 0), .int .u64 (limb n 1), .int .u64 (limb n 2), .int .u64 (limb n 3)] 26) = V at *
        clear hVV hb9 hB
        have heN := HeN.out
        have heS := HeS.out
        go_region_held3 (fun w' => Below V.heap.size V w')
          ((first | exact (Below.refl _ _).drew | assumption | ((refine BW_on ?_ (by assumption)); assumption)))
          (first | (go_at_call 24; refine (Hcmp.out _).mono ?_; rintro e wc1 ⟨rfl, hd1⟩) | (go_at_call 18; refine (Hof.out _).mono ?_; rintro e wc2 ⟨rfl, hd2⟩) | (go_at_call 25; refine (Htx.out _).mono ?_; rintro e wc3 ⟨rfl, hd3⟩))
        all_goals (go_wp2_with fail; go_ret; exact ⟨rfl, BW_on (BW_on BB.out hB9) (by assumption)⟩)
  · have hz0 : ((n : Int) == 0) = false := by simp; omega
    go_enter Try.func11, Try.ntmps11
    go_wp2_with fail
    refine (awake04 _).mono ?_
    rintro e w0 ⟨rfl, hb0⟩
    have k_a := (blk1 w 26 #[.int .u64 (limb N 0), .int .u64 (limb N 1), .int .u64 (limb N 2), .int .u64 (limb N 3)]).alloc (.cells #[.int .u64 (limb M 0), .int .u64 (limb M 1), .int .u64 (limb M 2), .int .u64 (limb M 3)] 26)
    have k_b := blk2 w (.cells #[.int .u64 (limb N 0), .int .u64 (limb N 1), .int .u64 (limb N 2), .int .u64 (limb N 3)] 26) 26 #[.int .u64 (limb M 0), .int .u64 (limb M 1), .int .u64 (limb M 2), .int .u64 (limb M 3)]
    replace k_a := k_a.below hb0 k_a.lt
    replace k_b := k_b.below hb0 k_b.lt
    have BB := BW_on (BW_alloc (BW_alloc (Below.refl w.heap.size w) _) _) hb0
    have c_a := fun i => k_a.cell i
    have c_b := fun i => k_b.cell i
    go_wp2_with fail
    refine (Hba.out _).mono ?_
    rintro e w1 ⟨rfl, hb1⟩
    clear c_a c_b
    replace k_a := k_a.below hb1 k_a.lt
    replace k_b := k_b.below hb1 k_b.lt
    replace BB := BW_on BB hb1
    have c_a := fun i => k_a.cell i
    have c_b := fun i => k_b.cell i
    go_wp2_with fail
    refine (Hbb.out _).mono ?_
    rintro e w2 ⟨rfl, hb2⟩
    clear c_a c_b
    replace k_a := k_a.below hb2 k_a.lt
    replace k_b := k_b.below hb2 k_b.lt
    replace BB := BW_on BB hb2
    have c_a := fun i => k_a.cell i
    have c_b := fun i => k_b.cell i
    go_wp2_with fail
    refine (Hs.out _).mono ?_
    rintro e w3 ⟨rfl, hb3⟩
    clear c_a c_b
    replace k_a := k_a.step hb3 (.cells #[.int .u64 (limb S 0), .int .u64 (limb S 1), .int .u64 (limb S 2), .int .u64 (limb S 3)] 26)
    replace k_b := k_b.step hb3 (.cells #[.int .u64 (limb S 0), .int .u64 (limb S 1), .int .u64 (limb S 2), .int .u64 (limb S 3)] 26)
    have k_s := Blk.new w3 26 #[.int .u64 (limb S 0), .int .u64 (limb S 1), .int .u64 (limb S 2), .int .u64 (limb S 3)]
    replace BB := BW_alloc (BW_on BB hb3) (.cells #[.int .u64 (limb S 0), .int .u64 (limb S 1), .int .u64 (limb S 2), .int .u64 (limb S 3)] 26)
    have c_a := fun i => k_a.cell i
    have c_b := fun i => k_b.cell i
    have c_s := fun i => k_s.cell i
    go_wp2_with fail
    refine (Ht.out _).mono ?_
    rintro e w4 ⟨rfl, hb4⟩
    clear c_a c_b c_s
    replace k_a := k_a.step hb4 (.cells #[.int .u64 (limb S 0), .int .u64 (limb S 1), .int .u64 (limb S 2), .int .u64 (limb S 3)] 26)
    replace k_b := k_b.step hb4 (.cells #[.int .u64 (limb S 0), .int .u64 (limb S 1), .int .u64 (limb S 2), .int .u64 (limb S 3)] 26)
    replace k_s := k_s.step hb4 (.cells #[.int .u64 (limb S 0), .int .u64 (limb S 1), .int .u64 (limb S 2), .int .u64 (limb S 3)] 26)
    have k_t := Blk.new w4 26 #[.int .u64 (limb S 0), .int .u64 (limb S 1), .int .u64 (limb S 2), .int .u64 (limb S 3)]
    replace BB := BW_alloc (BW_on BB hb4) (.cells #[.int .u64 (limb S 0), .int .u64 (limb S 1), .int .u64 (limb S 2), .int .u64 (limb S 3)] 26)
    have c_a := fun i => k_a.cell i
    have c_b := fun i => k_b.cell i
    have c_s := fun i => k_s.cell i
    have c_t := fun i => k_t.cell i
    go_wp2_with fail
    clear c_a c_b c_s c_t
    generalize hWW : w4.alloc _ = W at *
    replace k_a := k_a.held
    replace k_b := k_b.held
    replace k_s := k_s.held
    replace k_t := k_t.held
    clear hWW hb0 hb1 hb2 hb3 hb4
    have BB := Lib.hid BB
    go_loopw [15, 16] (fun v m wr => ∃ (f c : Nat) (ds : List Nat), v = .string (txS ds) ∧ m = .int .u64 (c : Int) ∧ Hid (InvT n f c ds ∧ c ≤ n) ∧ Below W.heap.size W wr) (fun _ m _ => (intOf m).toNat)
    case atStart => exact ⟨78, n, [], rfl, rfl, ⟨InvT.start n HN.out, Nat.le_refl _⟩, Below.refl _ _⟩
    case round =>
      obtain ⟨f, c, ds, rfl, rfl, hinv, hB⟩ := hrel
      have hcn : c ≤ n := hinv.out.2
      have hNn := HN.out
      have hc18 : (c : Int) < 18446744073709551616 := by omega
      clear hcn hNn
      by_cases hc0 : 0 < c
      · have hc1 : (0 : Int) < (c : Int) := by omega
        have hlen := hinv.out.1.len hc0
        obtain ⟨f', hinv2⟩ := hinv.out.1.step hc0
        have hcn2 : c / 10 ≤ n := Nat.le_trans (Nat.div_le_self _ _) hinv.out.2
        have hinv' := Lib.hid (And.intro hinv2 hcn2)
        have hlt := Nat.div_lt_self hc0 (by decide : 1 < 10)
        have hr10 : c % 10 < 10 := Nat.mod_lt _ (by decide)
        have er : ((c : Int) % 10) = ((c % 10 : Nat) : Int) := by omega
        have eq' : ((c : Int) / 10) = ((c / 10 : Nat) : Int) := by omega
        generalize c % 10 = r at *
        generalize hq : c / 10 = q at *
        have Hq := Lib.hid hq
        have hwq : IntKind.u64.wrap (q : Int) = (q : Int) := by rw [IntKind.wrap_u64]; omega
        clear hinv2 hcn2 hq hc18
        have hr9 : (r : Int) < 10 := by omega
        have hcv := run_convert_bytes_back (P := Try.prog) (wr.alloc (.cells #[.int .u8 (48 + (r : Int))] 5)) 55 9 5 ⟨wr.heap.size, 0, none⟩ 1 [dgt r] Try.underlying55 Try.underlying5 Try.underlying9 (fun j hj => by
            obtain rfl : j = 0 := by simpa using hj
            have k := blk1 wr 5 #[.int .u8 (48 + (r : Int))]
            have e1 : (⟨wr.heap.size, 0, none⟩ : Addr).add 0 = ⟨wr.heap.size, 0, none⟩ := rfl
            rw [e1, k.cell 0]
            simp [dgt]
            omega)
        have hsz : (txS ds).size = ds.length := by simp [txS, ByteArray.size]
        have hs1 : ((txS ds).size : Int) ≤ 77 := by omega
        have hap := txS_snoc ds r
        simp only [List.length_cons, List.length_nil] at hcv
        clear hsz hc0
        go_wp2_with fail
        go_roundw
        case rel => exact ⟨f', q, ds ++ [r], rfl, rfl, hinv', hB.alloc hB.size _⟩
        case measure => simp [intOf]; omega
      · obtain rfl : c = 0 := by omega
        have hds := hinv.out.1.done hn0
        subst hds
        clear hc0
        go_wp2_with fail
        refine (Hft.out _).mono ?_
        rintro e w9 ⟨rfl, hb9⟩
        have hB9 := BW_alloc (BW_on hB hb9) (.cells #[.int .u64 (limb n 0), .int .u64 (limb n 1), .int .u64 (limb n 2), .int .u64 (limb n 3)] 26)
        have k_z := (Blk.new w9 26 #[.int .u64 (limb n 0), .int .u64 (limb n 1), .int .u64 (limb n 2), .int .u64 (limb n 3)]).held
        have k_a2 := fun w' h => k_a w' (BW_on hB9 h)
        have k_b2 := fun w' h => k_b w' (BW_on hB9 h)
        have k_s2 := fun w' h => k_s w' (BW_on hB9 h)
        have k_t2 := fun w' h => k_t w' (BW_on hB9 h)
        go_wp2_with fail
        generalize hVV : w9.alloc (.cells #[.int .u64 (limb n 0), .int .u64 (limb n 1), .int .u64 (limb n 2), .int .u64 (limb n 3)] 26) = V at *
        clear hVV hb9 hB
        have heN := HeN.out
        have heS := HeS.out
        go_region_held3 (fun w' => Below V.heap.size V w')
          ((first | exact (Below.refl _ _).drew | assumption | ((refine BW_on ?_ (by assumption)); assumption)))
          (first | (go_at_call 24; refine (Hcmp.out _).mono ?_; rintro e wc1 ⟨rfl, hd1⟩) | (go_at_call 18; refine (Hof.out _).mono ?_; rintro e wc2 ⟨rfl, hd2⟩) | (go_at_call 25; refine (Htx.out _).mono ?_; rintro e wc3 ⟨rfl, hd3⟩))
        all_goals (go_wp2_with fail; go_ret; exact ⟨rfl, BW_on (BW_on BB.out hB9) (by assumption)⟩)
  · go_enter Try.func11, Try.ntmps11
    go_wp2_with fail
    refine (awake04 _).mono ?_
    rintro e w0 ⟨rfl, hb0⟩
    have k_a := (blk1 w 26 #[.int .u64 (limb N 0), .int .u64 (limb N 1), .int .u64 (limb N 2), .int .u64 (limb N 3)]).alloc (.cells #[.int .u64 (limb M 0), .int .u64 (limb M 1), .int .u64 (limb M 2), .int .u64 (limb M 3)] 26)
    have k_b := blk2 w (.cells #[.int .u64 (limb N 0), .int .u64 (limb N 1), .int .u64 (limb N 2), .int .u64 (limb N 3)] 26) 26 #[.int .u64 (limb M 0), .int .u64 (limb M 1), .int .u64 (limb M 2), .int .u64 (limb M 3)]
    replace k_a := k_a.below hb0 k_a.lt
    replace k_b := k_b.below hb0 k_b.lt
    have BB := BW_on (BW_alloc (BW_alloc (Below.refl w.heap.size w) _) _) hb0
    have c_a := fun i => k_a.cell i
    have c_b := fun i => k_b.cell i
    go_wp2_with fail
    refine (Hba.out _).mono ?_
    rintro e w1 ⟨rfl, hb1⟩
    clear c_a c_b
    replace k_a := k_a.below hb1 k_a.lt
    replace k_b := k_b.below hb1 k_b.lt
    replace BB := BW_on BB hb1
    have c_a := fun i => k_a.cell i
    have c_b := fun i => k_b.cell i
    go_wp2_with fail
    refine (Hbb.out _).mono ?_
    rintro e w2 ⟨rfl, hb2⟩
    clear c_a c_b
    replace k_a := k_a.below hb2 k_a.lt
    replace k_b := k_b.below hb2 k_b.lt
    replace BB := BW_on BB hb2
    have c_a := fun i => k_a.cell i
    have c_b := fun i => k_b.cell i
    go_wp2_with fail
    refine (Hs.out _).mono ?_
    rintro e w3 ⟨rfl, hb3⟩
    clear c_a c_b
    replace k_a := k_a.step hb3 (.cells #[.int .u64 (limb S 0), .int .u64 (limb S 1), .int .u64 (limb S 2), .int .u64 (limb S 3)] 26)
    replace k_b := k_b.step hb3 (.cells #[.int .u64 (limb S 0), .int .u64 (limb S 1), .int .u64 (limb S 2), .int .u64 (limb S 3)] 26)
    have k_s := Blk.new w3 26 #[.int .u64 (limb S 0), .int .u64 (limb S 1), .int .u64 (limb S 2), .int .u64 (limb S 3)]
    replace BB := BW_alloc (BW_on BB hb3) (.cells #[.int .u64 (limb S 0), .int .u64 (limb S 1), .int .u64 (limb S 2), .int .u64 (limb S 3)] 26)
    have c_a := fun i => k_a.cell i
    have c_b := fun i => k_b.cell i
    have c_s := fun i => k_s.cell i
    go_wp2_with fail
    refine (Ht.out _).mono ?_
    rintro e w4 ⟨rfl, hb4⟩
    clear c_a c_b c_s
    replace k_a := k_a.step hb4 (.cells #[.int .u64 (limb S 0), .int .u64 (limb S 1), .int .u64 (limb S 2), .int .u64 (limb S 3)] 26)
    replace k_b := k_b.step hb4 (.cells #[.int .u64 (limb S 0), .int .u64 (limb S 1), .int .u64 (limb S 2), .int .u64 (limb S 3)] 26)
    replace k_s := k_s.step hb4 (.cells #[.int .u64 (limb S 0), .int .u64 (limb S 1), .int .u64 (limb S 2), .int .u64 (limb S 3)] 26)
    have k_t := Blk.new w4 26 #[.int .u64 (limb S 0), .int .u64 (limb S 1), .int .u64 (limb S 2), .int .u64 (limb S 3)]
    replace BB := BW_alloc (BW_on BB hb4) (.cells #[.int .u64 (limb S 0), .int .u64 (limb S 1), .int .u64 (limb S 2), .int .u64 (limb S 3)] 26)
    have c_a := fun i => k_a.cell i
    have c_b := fun i => k_b.cell i
    have c_s := fun i => k_s.cell i
    have c_t := fun i => k_t.cell i
    go_wp2_with fail
    clear c_a c_b c_s c_t
    generalize hWW : w4.alloc _ = W at *
    replace k_a := k_a.held
    replace k_b := k_b.held
    replace k_s := k_s.held
    replace k_t := k_t.held
    clear hWW hb0 hb1 hb2 hb3 hb4
    have BB := Lib.hid BB
    go_loopw [15, 16] (fun v m wr => ∃ (f c : Nat) (ds : List Nat), v = .string (txS ds) ∧ m = .int .u64 (c : Int) ∧ Hid (InvT 0 f c ds ∧ c ≤ 0) ∧ Below W.heap.size W wr) (fun _ m _ => (intOf m).toNat)
    case atStart => exact ⟨78, 0, [], rfl, rfl, ⟨InvT.start 0 HN.out, Nat.le_refl _⟩, Below.refl _ _⟩
    case round =>
      obtain ⟨f, c, ds, rfl, rfl, hinv, hB⟩ := hrel
      have hcn : c ≤ 0 := hinv.out.2
      have hNn := HN.out
      obtain rfl : c = 0 := by omega
      clear hcn hNn
      go_wp2_with fail
      refine (Hft.out _).mono ?_
      rintro e w9 ⟨rfl, hb9⟩
      have hB9 := BW_alloc (BW_on hB hb9) (.cells #[.int .u64 (limb 0 0), .int .u64 (limb 0 1), .int .u64 (limb 0 2), .int .u64 (limb 0 3)] 26)
      have k_z := (Blk.new w9 26 #[.int .u64 (limb 0 0), .int .u64 (limb 0 1), .int .u64 (limb 0 2), .int .u64 (limb 0 3)]).held
      have k_a2 := fun w' h => k_a w' (BW_on hB9 h)
      have k_b2 := fun w' h => k_b w' (BW_on hB9 h)
      have k_s2 := fun w' h => k_s w' (BW_on hB9 h)
      have k_t2 := fun w' h => k_t w' (BW_on hB9 h)
      go_wp2_with fail
      generalize hVV : w9.alloc (.cells #[.int .u64 (limb 0 0), .int .u64 (limb 0 1), .int .u64 (limb 0 2), .int .u64 (limb 0 3)] 26) = V at *
      clear hVV hb9 hB
      have heN := HeN.out
      have heS := HeS.out
      go_region_held3 (fun w' => Below V.heap.size V w')
        ((first | exact (Below.refl _ _).drew | assumption | ((refine BW_on ?_ (by assumption)); assumption)))
        (first | (go_at_call 24; refine (Hcmp.out _).mono ?_; rintro e wc1 ⟨rfl, hd1⟩) | (go_at_call 18; refine (Hof.out _).mono ?_; rintro e wc2 ⟨rfl, hd2⟩) | (go_at_call 25; refine (Htx.out _).mono ?_; rintro e wc3 ⟨rfl, hd3⟩))
      all_goals (go_wp2_with fail; go_ret; exact ⟨rfl, BW_on (BW_on BB.out hB9) (by assumption)⟩)
  · go_enter Try.func11, Try.ntmps11
    go_wp2_with fail
    refine (awake04 _).mono ?_
    rintro e w0 ⟨rfl, hb0⟩
    have k_a := (blk1 w 26 #[.int .u64 (limb N 0), .int .u64 (limb N 1), .int .u64 (limb N 2), .int .u64 (limb N 3)]).alloc (.cells #[.int .u64 (limb M 0), .int .u64 (limb M 1), .int .u64 (limb M 2), .int .u64 (limb M 3)] 26)
    have k_b := blk2 w (.cells #[.int .u64 (limb N 0), .int .u64 (limb N 1), .int .u64 (limb N 2), .int .u64 (limb N 3)] 26) 26 #[.int .u64 (limb M 0), .int .u64 (limb M 1), .int .u64 (limb M 2), .int .u64 (limb M 3)]
    replace k_a := k_a.below hb0 k_a.lt
    replace k_b := k_b.below hb0 k_b.lt
    have BB := BW_on (BW_alloc (BW_alloc (Below.refl w.heap.size w) _) _) hb0
    have c_a := fun i => k_a.cell i
    have c_b := fun i => k_b.cell i
    go_wp2_with fail
    refine (Hba.out _).mono ?_
    rintro e w1 ⟨rfl, hb1⟩
    clear c_a c_b
    replace k_a := k_a.below hb1 k_a.lt
    replace k_b := k_b.below hb1 k_b.lt
    replace BB := BW_on BB hb1
    have c_a := fun i => k_a.cell i
    have c_b := fun i => k_b.cell i
    go_wp2_with fail
    refine (Hbb.out _).mono ?_
    rintro e w2 ⟨rfl, hb2⟩
    clear c_a c_b
    replace k_a := k_a.below hb2 k_a.lt
    replace k_b := k_b.below hb2 k_b.lt
    replace BB := BW_on BB hb2
    have c_a := fun i => k_a.cell i
    have c_b := fun i => k_b.cell i
    go_wp2_with fail
    refine (Hs.out _).mono ?_
    rintro e w3 ⟨rfl, hb3⟩
    clear c_a c_b
    replace k_a := k_a.step hb3 (.cells #[.int .u64 (limb S 0), .int .u64 (limb S 1), .int .u64 (limb S 2), .int .u64 (limb S 3)] 26)
    replace k_b := k_b.step hb3 (.cells #[.int .u64 (limb S 0), .int .u64 (limb S 1), .int .u64 (limb S 2), .int .u64 (limb S 3)] 26)
    have k_s := Blk.new w3 26 #[.int .u64 (limb S 0), .int .u64 (limb S 1), .int .u64 (limb S 2), .int .u64 (limb S 3)]
    replace BB := BW_alloc (BW_on BB hb3) (.cells #[.int .u64 (limb S 0), .int .u64 (limb S 1), .int .u64 (limb S 2), .int .u64 (limb S 3)] 26)
    have c_a := fun i => k_a.cell i
    have c_b := fun i => k_b.cell i
    have c_s := fun i => k_s.cell i
    go_wp2_with fail
    refine (Ht.out _).mono ?_
    rintro e w4 ⟨rfl, hb4⟩
    clear c_a c_b c_s
    replace k_a := k_a.step hb4 (.cells #[.int .u64 (limb S 0), .int .u64 (limb S 1), .int .u64 (limb S 2), .int .u64 (limb S 3)] 26)
    replace k_b := k_b.step hb4 (.cells #[.int .u64 (limb S 0), .int .u64 (limb S 1), .int .u64 (limb S 2), .int .u64 (limb S 3)] 26)
    replace k_s := k_s.step hb4 (.cells #[.int .u64 (limb S 0), .int .u64 (limb S 1), .int .u64 (limb S 2), .int .u64 (limb S 3)] 26)
    have k_t := Blk.new w4 26 #[.int .u64 (limb S 0), .int .u64 (limb S 1), .int .u64 (limb S 2), .int .u64 (limb S 3)]
    replace BB := BW_alloc (BW_on BB hb4) (.cells #[.int .u64 (limb S 0), .int .u64 (limb S 1), .int .u64 (limb S 2), .int .u64 (limb S 3)] 26)
    have c_a := fun i => k_a.cell i
    have c_b := fun i => k_b.cell i
    have c_s := fun i => k_s.cell i
    have c_t := fun i => k_t.cell i
    go_wp2_with fail
    clear c_a c_b c_s c_t
    generalize hWW : w4.alloc _ = W at *
    replace k_a := k_a.held
    replace k_b := k_b.held
    replace k_s := k_s.held
    replace k_t := k_t.held
    clear hWW hb0 hb1 hb2 hb3 hb4
    have BB := Lib.hid BB
    go_loopw [15, 16] (fun v m wr => ∃ (f c : Nat) (ds : List Nat), v = .string (txS ds) ∧ m = .int .u64 (c : Int) ∧ Hid (InvT 0 f c ds ∧ c ≤ 0) ∧ Below W.heap.size W wr) (fun _ m _ => (intOf m).toNat)
    case atStart => exact ⟨78, 0, [], rfl, rfl, ⟨InvT.start 0 HN.out, Nat.le_refl _⟩, Below.refl _ _⟩
    case round =>
      obtain ⟨f, c, ds, rfl, rfl, hinv, hB⟩ := hrel
      have hcn : c ≤ 0 := hinv.out.2
      have hNn := HN.out
      obtain rfl : c = 0 := by omega
      clear hcn hNn
      go_wp2_with fail
      refine (Hft.out _).mono ?_
      rintro e w9 ⟨rfl, hb9⟩
      have hB9 := BW_alloc (BW_on hB hb9) (.cells #[.int .u64 (limb 0 0), .int .u64 (limb 0 1), .int .u64 (limb 0 2), .int .u64 (limb 0 3)] 26)
      have k_z := (Blk.new w9 26 #[.int .u64 (limb 0 0), .int .u64 (limb 0 1), .int .u64 (limb 0 2), .int .u64 (limb 0 3)]).held
      have k_a2 := fun w' h => k_a w' (BW_on hB9 h)
      have k_b2 := fun w' h => k_b w' (BW_on hB9 h)
      have k_s2 := fun w' h => k_s w' (BW_on hB9 h)
      have k_t2 := fun w' h => k_t w' (BW_on hB9 h)
      go_wp2_with fail
      generalize hVV : w9.alloc (.cells #[.int .u64 (limb 0 0), .int .u64 (limb 0 1), .int .u64 (limb 0 2), .int .u64 (limb 0 3)] 26) = V at *
      clear hVV hb9 hB
      have heN := HeN.out
      have heS := HeS.out
      go_region_held3 (fun w' => Below V.heap.size V w')
        ((first | exact (Below.refl _ _).drew | assumption | ((refine BW_on ?_ (by assumption)); assumption)))
        (first | (go_at_call 24; refine (Hcmp.out _).mono ?_; rintro e wc1 ⟨rfl, hd1⟩) | (go_at_call 18; refine (Hof.out _).mono ?_; rintro e wc2 ⟨rfl, hd2⟩) | (go_at_call 25; refine (Htx.out _).mono ?_; rintro e wc3 ⟨rfl, hd3⟩))
      all_goals (go_wp2_with fail; go_ret; exact ⟨rfl, BW_on (BW_on BB.out hB9) (by assumption)⟩)
  · go_enter Try.func11, Try.ntmps11
    go_wp2_with fail
    refine (awake04 _).mono ?_
    rintro e w0 ⟨rfl, hb0⟩
    have k_a := (blk1 w 26 #[.int .u64 (limb N 0), .int .u64 (limb N 1), .int .u64 (limb N 2), .int .u64 (limb N 3)]).alloc (.cells #[.int .u64 (limb M 0), .int .u64 (limb M 1), .int .u64 (limb M 2), .int .u64 (limb M 3)] 26)
    have k_b := blk2 w (.cells #[.int .u64 (limb N 0), .int .u64 (limb N 1), .int .u64 (limb N 2), .int .u64 (limb N 3)] 26) 26 #[.int .u64 (limb M 0), .int .u64 (limb M 1), .int .u64 (limb M 2), .int .u64 (limb M 3)]
    replace k_a := k_a.below hb0 k_a.lt
    replace k_b := k_b.below hb0 k_b.lt
    have BB := BW_on (BW_alloc (BW_alloc (Below.refl w.heap.size w) _) _) hb0
    have c_a := fun i => k_a.cell i
    have c_b := fun i => k_b.cell i
    go_wp2_with fail
    refine (Hba.out _).mono ?_
    rintro e w1 ⟨rfl, hb1⟩
    clear c_a c_b
    replace k_a := k_a.below hb1 k_a.lt
    replace k_b := k_b.below hb1 k_b.lt
    replace BB := BW_on BB hb1
    have c_a := fun i => k_a.cell i
    have c_b := fun i => k_b.cell i
    go_wp2_with fail
    refine (Hbb.out _).mono ?_
    rintro e w2 ⟨rfl, hb2⟩
    clear c_a c_b
    replace k_a := k_a.below hb2 k_a.lt
    replace k_b := k_b.below hb2 k_b.lt
    replace BB := BW_on BB hb2
    have c_a := fun i => k_a.cell i
    have c_b := fun i => k_b.cell i
    go_wp2_with fail
    refine (Hs.out _).mono ?_
    rintro e w3 ⟨rfl, hb3⟩
    clear c_a c_b
    replace k_a := k_a.step hb3 (.cells #[.int .u64 (limb S 0), .int .u64 (limb S 1), .int .u64 (limb S 2), .int .u64 (limb S 3)] 26)
    replace k_b := k_b.step hb3 (.cells #[.int .u64 (limb S 0), .int .u64 (limb S 1), .int .u64 (limb S 2), .int .u64 (limb S 3)] 26)
    have k_s := Blk.new w3 26 #[.int .u64 (limb S 0), .int .u64 (limb S 1), .int .u64 (limb S 2), .int .u64 (limb S 3)]
    replace BB := BW_alloc (BW_on BB hb3) (.cells #[.int .u64 (limb S 0), .int .u64 (limb S 1), .int .u64 (limb S 2), .int .u64 (limb S 3)] 26)
    have c_a := fun i => k_a.cell i
    have c_b := fun i => k_b.cell i
    have c_s := fun i => k_s.cell i
    go_wp2_with fail
    refine (Ht.out _).mono ?_
    rintro e w4 ⟨rfl, hb4⟩
    clear c_a c_b c_s
    replace k_a := k_a.step hb4 (.cells #[.int .u64 (limb S 0), .int .u64 (limb S 1), .int .u64 (limb S 2), .int .u64 (limb S 3)] 26)
    replace k_b := k_b.step hb4 (.cells #[.int .u64 (limb S 0), .int .u64 (limb S 1), .int .u64 (limb S 2), .int .u64 (limb S 3)] 26)
    replace k_s := k_s.step hb4 (.cells #[.int .u64 (limb S 0), .int .u64 (limb S 1), .int .u64 (limb S 2), .int .u64 (limb S 3)] 26)
    have k_t := Blk.new w4 26 #[.int .u64 (limb S 0), .int .u64 (limb S 1), .int .u64 (limb S 2), .int .u64 (limb S 3)]
    replace BB := BW_alloc (BW_on BB hb4) (.cells #[.int .u64 (limb S 0), .int .u64 (limb S 1), .int .u64 (limb S 2), .int .u64 (limb S 3)] 26)
    have c_a := fun i => k_a.cell i
    have c_b := fun i => k_b.cell i
    have c_s := fun i => k_s.cell i
    have c_t := fun i => k_t.cell i
    go_wp2_with fail
    clear c_a c_b c_s c_t
    generalize hWW : w4.alloc _ = W at *
    replace k_a := k_a.held
    replace k_b := k_b.held
    replace k_s := k_s.held
    replace k_t := k_t.held
    clear hWW hb0 hb1 hb2 hb3 hb4
    have BB := Lib.hid BB
    go_loopw [15, 16] (fun v m wr => ∃ (f c : Nat) (ds : List Nat), v = .string (txS ds) ∧ m = .int .u64 (c : Int) ∧ Hid (InvT 0 f c ds ∧ c ≤ 0) ∧ Below W.heap.size W wr) (fun _ m _ => (intOf m).toNat)
    case atStart => exact ⟨78, 0, [], rfl, rfl, ⟨InvT.start 0 HN.out, Nat.le_refl _⟩, Below.refl _ _⟩
    case round =>
      obtain ⟨f, c, ds, rfl, rfl, hinv, hB⟩ := hrel
      have hcn : c ≤ 0 := hinv.out.2
      have hNn := HN.out
      obtain rfl : c = 0 := by omega
      clear hcn hNn
      go_wp2_with fail
      refine (Hft.out _).mono ?_
      rintro e w9 ⟨rfl, hb9⟩
      have hB9 := BW_alloc (BW_on hB hb9) (.cells #[.int .u64 (limb 0 0), .int .u64 (limb 0 1), .int .u64 (limb 0 2), .int .u64 (limb 0 3)] 26)
      have k_z := (Blk.new w9 26 #[.int .u64 (limb 0 0), .int .u64 (limb 0 1), .int .u64 (limb 0 2), .int .u64 (limb 0 3)]).held
      have k_a2 := fun w' h => k_a w' (BW_on hB9 h)
      have k_b2 := fun w' h => k_b w' (BW_on hB9 h)
      have k_s2 := fun w' h => k_s w' (BW_on hB9 h)
      have k_t2 := fun w' h => k_t w' (BW_on hB9 h)
      go_wp2_with fail
      generalize hVV : w9.alloc (.cells #[.int .u64 (limb 0 0), .int .u64 (limb 0 1), .int .u64 (limb 0 2), .int .u64 (limb 0 3)] 26) = V at *
      clear hVV hb9 hB
      have heN := HeN.out
      have heS := HeS.out
      go_region_held3 (fun w' => Below V.heap.size V w')
        ((first | exact (Below.refl _ _).drew | assumption | ((refine BW_on ?_ (by assumption)); assumption)))
        (first | (go_at_call 24; refine (Hcmp.out _).mono ?_; rintro e wc1 ⟨rfl, hd1⟩) | (go_at_call 18; refine (Hof.out _).mono ?_; rintro e wc2 ⟨rfl, hd2⟩) | (go_at_call 25; refine (Htx.out _).mono ?_; rintro e wc3 ⟨rfl, hd3⟩))
      all_goals (go_wp2_with fail; go_ret; exact ⟨rfl, BW_on (BW_on BB.out hB9) (by assumption)⟩)
theorem txt_zero : (⟨(txt 0).toArray⟩ : ByteArray) = ⟨#[48]⟩ := by
  have : txt 0 = [48] := by decide +kernel
  rw [this]
theorem bys_arr (n : Nat) : (⟨(bys n).toArray⟩ : ByteArray).toList = bys n := by rw [Lib.toList_data]
theorem order_walk (N M n : Nat) (hN : W256 N) (hM : W256 M) (hn : n < 18446744073709551616) (w : World) :
    Calls Try.prog 11 #[.agg #[.int .u64 (limb N 0), .int .u64 (limb N 1), .int .u64 (limb N 2), .int .u64 (limb N 3)], .agg #[.int .u64 (limb M 0), .int .u64 (limb M 1), .int .u64 (limb M 2), .int .u64 (limb M 3)], .int .u64 (n : Int)] w fun e w' => e = .returned (.bool true) ∧ Below w.heap.size w w' := by
  have hW : W256 n := W256.small hn
  have ht := times_any N 2 hN (by decide)
  rw [Nat.mul_two] at ht
  have hft := ft_any ⟨(txt n).toArray⟩ n 0 (.inl ⟨(txt_ok n hW).1, (txt_ok n hW).2.symm, rfl⟩)
  refine order_gen N M n (wN (N + N)) (wOk (N + N)) (cmpI N M) ⟨(bys N).toArray⟩ ⟨(bys M).toArray⟩ ⟨(txt n).toArray⟩ hn (W256.wN _) (Lib.hid (bytes_any N)) (Lib.hid (bytes_any M)) (Lib.hid (add_any N N hN hN)) (Lib.hid ht) (Lib.hid hft)
    (Lib.hid (compare_any N M hN hM)) (Lib.hid (of_any n hn)) (Lib.hid (text_any n hW)) ?_ ?_ w
  · rw [bys_arr, bys_arr, bys_less N M hN hM, bys_same N M hN hM]
    rcases Nat.lt_trichotomy N M with h | h | h
    · exact .inl ⟨decide_eq_true h, decide_eq_false (by omega), cmpI_lt h⟩
    · exact .inr (.inl ⟨decide_eq_false (by omega), decide_eq_true h, cmpI_eq h⟩)
    · exact .inr (.inr ⟨decide_eq_false (by omega), decide_eq_false (by omega), cmpI_gt h⟩)
  · rcases Nat.eq_zero_or_pos n with h | h
    · subst h; exact .inr ⟨rfl, txt_zero⟩
    · exact .inl ⟨h, rfl⟩
set_option maxRecDepth 100000 in
theorem order_lifted (os : Os) (started : os.Started) (H : Type) (enc : TypeId × Value → H) :
    ReturnsInHanded {} Try.checked os 11 .any (Rows.wideOrderSpec.pre6 enc Try.prog Try.f11 Rows.wideOrderRow.domain false) (Rows.wideOrderSpec.post enc Try.prog Try.f11 false true false false) := by
  refine law_lifted (C := Try.checked) (tb := 4) (by kernel_rfl) started (by kernel_rfl) Try.func11
    (ChangeSpec.witness6 (enc := enc) (C := Try.checked) false ⟨#[], #[.agg #[.int .u64 0, .int .u64 0, .int .u64 0, .int .u64 0], .agg #[.int .u64 0, .int .u64 0, .int .u64 0, .int .u64 0], .int .u64 0], []⟩ 8 (by kernel_rfl) (by kernel_rfl) (by kernel_rfl) (by kernel_rfl))
    laidOut (by kernel_rfl) (by kernel_rfl) Try.underlying4 rfl ?_ ?_
  · intro ds hd
    have hp : Try.f11.params.toList.length = 3 := by kernel_rfl
    rw [hp] at hd
    match ds, hd with
    | [d, d', d''], _ => rfl
  · intro W base args ds ps hval hA _ _
    have hval' : ∀ (j : Nat) t v, Try.f11.params[j]? = some t → args[j]? = some v → Value.okWide Try.prog W .any base t v := hval
    have hA' : DataW.TrodAll enc Try.prog W 0 (fun _ => true) true Try.f11.params.toList args.toList ds ps := hA
    rw [Try.params11] at hA' hval'
    obtain ⟨v0, v1, v2, d0, d1, d2, p0, p1, p2, rfl, rfl, rfl, h0, h1, h2⟩ := trodAll_three hA'
    obtain ⟨N, hN, rfl⟩ := wide_args (hval' 0 26 v0 rfl rfl) h0
    obtain ⟨M, hM, rfl⟩ := wide_args (hval' 1 26 v1 rfl rfl) h1
    obtain ⟨z, rfl, _, _, hz⟩ := open_int Try.underlying24 (hval' 2 24 v2 rfl rfl) h2
    obtain ⟨n, rfl, hn⟩ := u64_nat hz
    exact order_walk N M n hN hM hn W
theorem WideOrder_holds : Rows.WideOrderSaid :=
  OpenClaim.holds_of_wide 11 Try.f11 rfl rfl rfl rfl rfl rfl rfl ⟨rfl, rfl, rfl, rfl, rfl⟩ rfl rfl rfl rfl rfl (by kernel_rfl) Try.func11 (by kernel_rfl)
    (of_decide_eq_true (by kernel_rfl)) (by unfold Func.isWrapper; first | (rw [if_pos (by decide +kernel)]; kernel_rfl) | (rw [if_neg (by decide +kernel)]; exact ⟨rfl, rfl⟩))
    (fun os started H enc _ => order_lifted os started H enc)
end Go.Proofs.Ytibemleodghhfaa
