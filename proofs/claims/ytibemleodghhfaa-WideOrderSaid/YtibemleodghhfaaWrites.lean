/- The law WideWrites: bytes and texts of numbers are as the document says, and read again; for every input. -/
import Derived.Test.YtibemleodghhfaaRf
import Derived.Deep.RegionHeld3
import Derived.ChangeMaps5
namespace Go.Proofs.Ytibemleodghhfaa
open Go.RowKit Go.ChangeShapes Go.WideShapes
attribute [local go_sem ↓] Go.wp_at_zero Go.wp_at_succ
theorem Blk.step {w w' : World} {g : Nat} {t : TypeId} {cs : Array Value} (h : Blk w g t cs) (hb : Below w.heap.size w w') (o : Obj) : Blk (w'.alloc o) g t cs := (h.below hb h.lt).alloc o
theorem Blk.held {w : World} {g : Nat} {t : TypeId} {cs : Array Value} (h : Blk w g t cs) : ∀ w', Below w.heap.size w w' → ∀ i, w'.cell? ⟨g, i, none⟩ = cs[i]? := fun _ hb i => (h.below hb h.lt).cell i
set_option maxHeartbeats 4000000 in
set_option maxRecDepth 100000 in
theorem writes_gen (N U P : Nat) (g i : Int) (s S ba ta : ByteArray) (hN : W256 N) (hU : W256 U) (hP : W256 P) (hS : (s.size ≤ 100 ∧ S = s) ∨ (100 < s.size ∧ S = s.extract 0 100))
    (Hby : Hid (∀ w, Calls Try.prog 30 #[.agg #[.int .u64 (limb N 0), .int .u64 (limb N 1), .int .u64 (limb N 2), .int .u64 (limb N 3)]] w fun e w' => e = .returned (.string ba) ∧ Below w.heap.size w w')) (Hrb : Hid (∀ w, Calls Try.prog 34 #[.agg #[.int .u64 (limb N 0), .int .u64 (limb N 1), .int .u64 (limb N 2), .int .u64 (limb N 3)]] w fun e w' => e = .returned (.string ba) ∧ Below w.heap.size w w'))
    (Htx : Hid (∀ w, Calls Try.prog 25 #[.agg #[.int .u64 (limb N 0), .int .u64 (limb N 1), .int .u64 (limb N 2), .int .u64 (limb N 3)]] w fun e w' => e = .returned (.string ta) ∧ Below w.heap.size w w')) (Hrt : Hid (∀ w, Calls Try.prog 35 #[.agg #[.int .u64 (limb N 0), .int .u64 (limb N 1), .int .u64 (limb N 2), .int .u64 (limb N 3)]] w fun e w' => e = .returned (.string ta) ∧ Below w.heap.size w w'))
    (Hfb : Hid (∀ w, Calls Try.prog 29 #[.string ba] w fun e w' => e = .returned (.tuple #[.agg #[.int .u64 (limb N 0), .int .u64 (limb N 1), .int .u64 (limb N 2), .int .u64 (limb N 3)], .int .i64 0]) ∧ Below w.heap.size w w')) (Hft : Hid (∀ w, Calls Try.prog 31 #[.string ta] w fun e w' => e = .returned (.tuple #[.agg #[.int .u64 (limb N 0), .int .u64 (limb N 1), .int .u64 (limb N 2), .int .u64 (limb N 3)], .int .i64 0]) ∧ Below w.heap.size w w'))
    (Hu : Hid (∀ w, Calls Try.prog 29 #[.string S] w fun e w' => e = .returned (.tuple #[.agg #[.int .u64 (limb U 0), .int .u64 (limb U 1), .int .u64 (limb U 2), .int .u64 (limb U 3)], .int .i64 g]) ∧ Below w.heap.size w w')) (Hv : Hid (∀ w, Calls Try.prog 32 #[.string S] w fun e w' => e = .returned (.tuple #[.agg #[.int .u64 (limb U 0), .int .u64 (limb U 1), .int .u64 (limb U 2), .int .u64 (limb U 3)], .int .i64 g]) ∧ Below w.heap.size w w'))
    (Hp : Hid (∀ w, Calls Try.prog 31 #[.string S] w fun e w' => e = .returned (.tuple #[.agg #[.int .u64 (limb P 0), .int .u64 (limb P 1), .int .u64 (limb P 2), .int .u64 (limb P 3)], .int .i64 i]) ∧ Below w.heap.size w w')) (Hq : Hid (∀ w, Calls Try.prog 33 #[.string S] w fun e w' => e = .returned (.tuple #[.agg #[.int .u64 (limb P 0), .int .u64 (limb P 1), .int .u64 (limb P 2), .int .u64 (limb P 3)], .int .i64 i]) ∧ Below w.heap.size w w')) (w : World) :
    Calls Try.prog 10 #[.agg #[.int .u64 (limb N 0), .int .u64 (limb N 1), .int .u64 (limb N 2), .int .u64 (limb N 3)], .string s] w fun e w' => e = .returned (.bool true) ∧ Below w.heap.size w w' := by
  have HeN := Lib.hid (fun w => (eqWide N N hN hN w).trans (by rw [decide_eq_true rfl]))
  have HeU := Lib.hid (fun w => (eqWide U U hU hU w).trans (by rw [decide_eq_true rfl]))
  have HeP := Lib.hid (fun w => (eqWide P P hP hP w).trans (by rw [decide_eq_true rfl]))
  clear hN hU hP
  rcases hS with ⟨hs, rfl⟩ | ⟨hs, rfl⟩
  · go_enter Try.func10, Try.ntmps10
    go_wp2_with fail
    refine (awake04 _).mono ?_
    rintro e w0 ⟨rfl, hb0⟩
    have k_a := blk1 w 26 #[.int .u64 (limb N 0), .int .u64 (limb N 1), .int .u64 (limb N 2), .int .u64 (limb N 3)]
    replace k_a := k_a.below hb0 k_a.lt
    have BB := BW_on (BW_alloc (Below.refl w.heap.size w) _) hb0
    have c_a := fun i => k_a.cell i
    go_wp2_with fail
    refine (Hby.out _).mono ?_
    rintro e w1 ⟨rfl, hb1⟩
    clear c_a
    replace k_a := k_a.below hb1 k_a.lt
    replace BB := BW_on BB hb1
    have c_a := fun i => k_a.cell i
    go_wp2_with fail
    refine (Hfb.out _).mono ?_
    rintro e w2 ⟨rfl, hb2⟩
    clear c_a
    replace k_a := k_a.step hb2 (.cells #[.int .u64 (limb N 0), .int .u64 (limb N 1), .int .u64 (limb N 2), .int .u64 (limb N 3)] 26)
    have k_x := Blk.new w2 26 #[.int .u64 (limb N 0), .int .u64 (limb N 1), .int .u64 (limb N 2), .int .u64 (limb N 3)]
    replace BB := BW_alloc (BW_on BB hb2) (.cells #[.int .u64 (limb N 0), .int .u64 (limb N 1), .int .u64 (limb N 2), .int .u64 (limb N 3)] 26)
    have c_a := fun i => k_a.cell i
    have c_x := fun i => k_x.cell i
    go_wp2_with fail
    refine (Htx.out _).mono ?_
    rintro e w3 ⟨rfl, hb3⟩
    clear c_a c_x
    replace k_a := k_a.below hb3 k_a.lt
    replace k_x := k_x.below hb3 k_x.lt
    replace BB := BW_on BB hb3
    have c_a := fun i => k_a.cell i
    have c_x := fun i => k_x.cell i
    go_wp2_with fail
    refine (Hft.out _).mono ?_
    rintro e w4 ⟨rfl, hb4⟩
    clear c_a c_x
    replace k_a := k_a.step hb4 (.cells #[.int .u64 (limb N 0), .int .u64 (limb N 1), .int .u64 (limb N 2), .int .u64 (limb N 3)] 26)
    replace k_x := k_x.step hb4 (.cells #[.int .u64 (limb N 0), .int .u64 (limb N 1), .int .u64 (limb N 2), .int .u64 (limb N 3)] 26)
    have k_y := Blk.new w4 26 #[.int .u64 (limb N 0), .int .u64 (limb N 1), .int .u64 (limb N 2), .int .u64 (limb N 3)]
    replace BB := BW_alloc (BW_on BB hb4) (.cells #[.int .u64 (limb N 0), .int .u64 (limb N 1), .int .u64 (limb N 2), .int .u64 (limb N 3)] 26)
    have c_a := fun i => k_a.cell i
    have c_x := fun i => k_x.cell i
    have c_y := fun i => k_y.cell i
    go_wp2_with fail
    refine (Hu.out _).mono ?_
    rintro e w5 ⟨rfl, hb5⟩
    clear c_a c_x c_y
    replace k_a := k_a.step hb5 (.cells #[.int .u64 (limb U 0), .int .u64 (limb U 1), .int .u64 (limb U 2), .int .u64 (limb U 3)] 26)
    replace k_x := k_x.step hb5 (.cells #[.int .u64 (limb U 0), .int .u64 (limb U 1), .int .u64 (limb U 2), .int .u64 (limb U 3)] 26)
    replace k_y := k_y.step hb5 (.cells #[.int .u64 (limb U 0), .int .u64 (limb U 1), .int .u64 (limb U 2), .int .u64 (limb U 3)] 26)
    have k_u := Blk.new w5 26 #[.int .u64 (limb U 0), .int .u64 (limb U 1), .int .u64 (limb U 2), .int .u64 (limb U 3)]
    replace BB := BW_alloc (BW_on BB hb5) (.cells #[.int .u64 (limb U 0), .int .u64 (limb U 1), .int .u64 (limb U 2), .int .u64 (limb U 3)] 26)
    have c_a := fun i => k_a.cell i
    have c_x := fun i => k_x.cell i
    have c_y := fun i => k_y.cell i
    have c_u := fun i => k_u.cell i
    go_wp2_with fail
    refine (Hv.out _).mono ?_
    rintro e w6 ⟨rfl, hb6⟩
    clear c_a c_x c_y c_u
    replace k_a := k_a.step hb6 (.cells #[.int .u64 (limb U 0), .int .u64 (limb U 1), .int .u64 (limb U 2), .int .u64 (limb U 3)] 26)
    replace k_x := k_x.step hb6 (.cells #[.int .u64 (limb U 0), .int .u64 (limb U 1), .int .u64 (limb U 2), .int .u64 (limb U 3)] 26)
    replace k_y := k_y.step hb6 (.cells #[.int .u64 (limb U 0), .int .u64 (limb U 1), .int .u64 (limb U 2), .int .u64 (limb U 3)] 26)
    replace k_u := k_u.step hb6 (.cells #[.int .u64 (limb U 0), .int .u64 (limb U 1), .int .u64 (limb U 2), .int .u64 (limb U 3)] 26)
    have k_v := Blk.new w6 26 #[.int .u64 (limb U 0), .int .u64 (limb U 1), .int .u64 (limb U 2), .int .u64 (limb U 3)]
    replace BB := BW_alloc (BW_on BB hb6) (.cells #[.int .u64 (limb U 0), .int .u64 (limb U 1), .int .u64 (limb U 2), .int .u64 (limb U 3)] 26)
    have c_a := fun i => k_a.cell i
    have c_x := fun i => k_x.cell i
    have c_y := fun i => k_y.cell i
    have c_u := fun i => k_u.cell i
    have c_v := fun i => k_v.cell i
    go_wp2_with fail
    refine (Hp.out _).mono ?_
    rintro e w7 ⟨rfl, hb7⟩
    clear c_a c_x c_y c_u c_v
    replace k_a := k_a.step hb7 (.cells #[.int .u64 (limb P 0), .int .u64 (limb P 1), .int .u64 (limb P 2), .int .u64 (limb P 3)] 26)
    replace k_x := k_x.step hb7 (.cells #[.int .u64 (limb P 0), .int .u64 (limb P 1), .int .u64 (limb P 2), .int .u64 (limb P 3)] 26)
    replace k_y := k_y.step hb7 (.cells #[.int .u64 (limb P 0), .int .u64 (limb P 1), .int .u64 (limb P 2), .int .u64 (limb P 3)] 26)
    replace k_u := k_u.step hb7 (.cells #[.int .u64 (limb P 0), .int .u64 (limb P 1), .int .u64 (limb P 2), .int .u64 (limb P 3)] 26)
    replace k_v := k_v.step hb7 (.cells #[.int .u64 (limb P 0), .int .u64 (limb P 1), .int .u64 (limb P 2), .int .u64 (limb P 3)] 26)
    have k_p := Blk.new w7 26 #[.int .u64 (limb P 0), .int .u64 (limb P 1), .int .u64 (limb P 2), .int .u64 (limb P 3)]
    replace BB := BW_alloc (BW_on BB hb7) (.cells #[.int .u64 (limb P 0), .int .u64 (limb P 1), .int .u64 (limb P 2), .int .u64 (limb P 3)] 26)
    have c_a := fun i => k_a.cell i
    have c_x := fun i => k_x.cell i
    have c_y := fun i => k_y.cell i
    have c_u := fun i => k_u.cell i
    have c_v := fun i => k_v.cell i
    have c_p := fun i => k_p.cell i
    go_wp2_with fail
    refine (Hq.out _).mono ?_
    rintro e w8 ⟨rfl, hb8⟩
    clear c_a c_x c_y c_u c_v c_p
    replace k_a := k_a.step hb8 (.cells #[.int .u64 (limb P 0), .int .u64 (limb P 1), .int .u64 (limb P 2), .int .u64 (limb P 3)] 26)
    replace k_x := k_x.step hb8 (.cells #[.int .u64 (limb P 0), .int .u64 (limb P 1), .int .u64 (limb P 2), .int .u64 (limb P 3)] 26)
    replace k_y := k_y.step hb8 (.cells #[.int .u64 (limb P 0), .int .u64 (limb P 1), .int .u64 (limb P 2), .int .u64 (limb P 3)] 26)
    replace k_u := k_u.step hb8 (.cells #[.int .u64 (limb P 0), .int .u64 (limb P 1), .int .u64 (limb P 2), .int .u64 (limb P 3)] 26)
    replace k_v := k_v.step hb8 (.cells #[.int .u64 (limb P 0), .int .u64 (limb P 1), .int .u64 (limb P 2), .int .u64 (limb P 3)] 26)
    replace k_p := k_p.step hb8 (.cells #[.int .u64 (limb P 0), .int .u64 (limb P 1), .int .u64 (limb P 2), .int .u64 (limb P 3)] 26)
    have k_q := Blk.new w8 26 #[.int .u64 (limb P 0), .int .u64 (limb P 1), .int .u64 (limb P 2), .int .u64 (limb P 3)]
    replace BB := BW_alloc (BW_on BB hb8) (.cells #[.int .u64 (limb P 0), .int .u64 (limb P 1), .int .u64 (limb P 2), .int .u64 (limb P 3)] 26)
    have c_a := fun i => k_a.cell i
    have c_x := fun i => k_x.cell i
    have c_y := fun i => k_y.cell i
    have c_u := fun i => k_u.cell i
    have c_v := fun i => k_v.cell i
    have c_p := fun i => k_p.cell i
    have c_q := fun i => k_q.cell i
    go_wp2_with fail
    clear c_a c_x c_y c_u c_v c_p c_q
    generalize hWW : w8.alloc _ = W at *
    replace k_a := k_a.held
    replace k_x := k_x.held
    replace k_y := k_y.held
    replace k_u := k_u.held
    replace k_v := k_v.held
    replace k_p := k_p.held
    replace k_q := k_q.held
    clear hWW hb0 hb1 hb2 hb3 hb4 hb5 hb6 hb7 hb8
    have BB := Lib.hid BB
    have heN := HeN.out
    have heU := HeU.out
    have heP := HeP.out
    go_region_held3 (fun w' => Below W.heap.size W w')
      ((first | exact (Below.refl _ _).drew | assumption | ((refine BW_on ?_ (by assumption)); assumption)))
      (first | (go_at_call 30; refine (Hby.out _).mono ?_; rintro e wc1 ⟨rfl, hd1⟩) | (go_at_call 34; refine (Hrb.out _).mono ?_; rintro e wc2 ⟨rfl, hd2⟩) | (go_at_call 25; refine (Htx.out _).mono ?_; rintro e wc3 ⟨rfl, hd3⟩) | (go_at_call 35; refine (Hrt.out _).mono ?_; rintro e wc4 ⟨rfl, hd4⟩))
    all_goals (go_wp2_with fail; go_ret; exact ⟨rfl, BW_on BB.out (by assumption)⟩)
  · go_enter Try.func10, Try.ntmps10
    go_wp2_with fail
    refine (awake04 _).mono ?_
    rintro e w0 ⟨rfl, hb0⟩
    have k_a := blk1 w 26 #[.int .u64 (limb N 0), .int .u64 (limb N 1), .int .u64 (limb N 2), .int .u64 (limb N 3)]
    replace k_a := k_a.below hb0 k_a.lt
    have BB := BW_on (BW_alloc (Below.refl w.heap.size w) _) hb0
    have c_a := fun i => k_a.cell i
    go_wp2_with fail
    refine (Hby.out _).mono ?_
    rintro e w1 ⟨rfl, hb1⟩
    clear c_a
    replace k_a := k_a.below hb1 k_a.lt
    replace BB := BW_on BB hb1
    have c_a := fun i => k_a.cell i
    go_wp2_with fail
    refine (Hfb.out _).mono ?_
    rintro e w2 ⟨rfl, hb2⟩
    clear c_a
    replace k_a := k_a.step hb2 (.cells #[.int .u64 (limb N 0), .int .u64 (limb N 1), .int .u64 (limb N 2), .int .u64 (limb N 3)] 26)
    have k_x := Blk.new w2 26 #[.int .u64 (limb N 0), .int .u64 (limb N 1), .int .u64 (limb N 2), .int .u64 (limb N 3)]
    replace BB := BW_alloc (BW_on BB hb2) (.cells #[.int .u64 (limb N 0), .int .u64 (limb N 1), .int .u64 (limb N 2), .int .u64 (limb N 3)] 26)
    have c_a := fun i => k_a.cell i
    have c_x := fun i => k_x.cell i
    go_wp2_with fail
    refine (Htx.out _).mono ?_
    rintro e w3 ⟨rfl, hb3⟩
    clear c_a c_x
    replace k_a := k_a.below hb3 k_a.lt
    replace k_x := k_x.below hb3 k_x.lt
    replace BB := BW_on BB hb3
    have c_a := fun i => k_a.cell i
    have c_x := fun i => k_x.cell i
    go_wp2_with fail
    refine (Hft.out _).mono ?_
    rintro e w4 ⟨rfl, hb4⟩
    clear c_a c_x
    replace k_a := k_a.step hb4 (.cells #[.int .u64 (limb N 0), .int .u64 (limb N 1), .int .u64 (limb N 2), .int .u64 (limb N 3)] 26)
    replace k_x := k_x.step hb4 (.cells #[.int .u64 (limb N 0), .int .u64 (limb N 1), .int .u64 (limb N 2), .int .u64 (limb N 3)] 26)
    have k_y := Blk.new w4 26 #[.int .u64 (limb N 0), .int .u64 (limb N 1), .int .u64 (limb N 2), .int .u64 (limb N 3)]
    replace BB := BW_alloc (BW_on BB hb4) (.cells #[.int .u64 (limb N 0), .int .u64 (limb N 1), .int .u64 (limb N 2), .int .u64 (limb N 3)] 26)
    have c_a := fun i => k_a.cell i
    have c_x := fun i => k_x.cell i
    have c_y := fun i => k_y.cell i
    go_wp2_with fail
    refine (Hu.out _).mono ?_
    rintro e w5 ⟨rfl, hb5⟩
    clear c_a c_x c_y
    replace k_a := k_a.step hb5 (.cells #[.int .u64 (limb U 0), .int .u64 (limb U 1), .int .u64 (limb U 2), .int .u64 (limb U 3)] 26)
    replace k_x := k_x.step hb5 (.cells #[.int .u64 (limb U 0), .int .u64 (limb U 1), .int .u64 (limb U 2), .int .u64 (limb U 3)] 26)
    replace k_y := k_y.step hb5 (.cells #[.int .u64 (limb U 0), .int .u64 (limb U 1), .int .u64 (limb U 2), .int .u64 (limb U 3)] 26)
    have k_u := Blk.new w5 26 #[.int .u64 (limb U 0), .int .u64 (limb U 1), .int .u64 (limb U 2), .int .u64 (limb U 3)]
    replace BB := BW_alloc (BW_on BB hb5) (.cells #[.int .u64 (limb U 0), .int .u64 (limb U 1), .int .u64 (limb U 2), .int .u64 (limb U 3)] 26)
    have c_a := fun i => k_a.cell i
    have c_x := fun i => k_x.cell i
    have c_y := fun i => k_y.cell i
    have c_u := fun i => k_u.cell i
    go_wp2_with fail
    refine (Hv.out _).mono ?_
    rintro e w6 ⟨rfl, hb6⟩
    clear c_a c_x c_y c_u
    replace k_a := k_a.step hb6 (.cells #[.int .u64 (limb U 0), .int .u64 (limb U 1), .int .u64 (limb U 2), .int .u64 (limb U 3)] 26)
    replace k_x := k_x.step hb6 (.cells #[.int .u64 (limb U 0), .int .u64 (limb U 1), .int .u64 (limb U 2), .int .u64 (limb U 3)] 26)
    replace k_y := k_y.step hb6 (.cells #[.int .u64 (limb U 0), .int .u64 (limb U 1), .int .u64 (limb U 2), .int .u64 (limb U 3)] 26)
    replace k_u := k_u.step hb6 (.cells #[.int .u64 (limb U 0), .int .u64 (limb U 1), .int .u64 (limb U 2), .int .u64 (limb U 3)] 26)
    have k_v := Blk.new w6 26 #[.int .u64 (limb U 0), .int .u64 (limb U 1), .int .u64 (limb U 2), .int .u64 (limb U 3)]
    replace BB := BW_alloc (BW_on BB hb6) (.cells #[.int .u64 (limb U 0), .int .u64 (limb U 1), .int .u64 (limb U 2), .int .u64 (limb U 3)] 26)
    have c_a := fun i => k_a.cell i
    have c_x := fun i => k_x.cell i
    have c_y := fun i => k_y.cell i
    have c_u := fun i => k_u.cell i
    have c_v := fun i => k_v.cell i
    go_wp2_with fail
    refine (Hp.out _).mono ?_
    rintro e w7 ⟨rfl, hb7⟩
    clear c_a c_x c_y c_u c_v
    replace k_a := k_a.step hb7 (.cells #[.int .u64 (limb P 0), .int .u64 (limb P 1), .int .u64 (limb P 2), .int .u64 (limb P 3)] 26)
    replace k_x := k_x.step hb7 (.cells #[.int .u64 (limb P 0), .int .u64 (limb P 1), .int .u64 (limb P 2), .int .u64 (limb P 3)] 26)
    replace k_y := k_y.step hb7 (.cells #[.int .u64 (limb P 0), .int .u64 (limb P 1), .int .u64 (limb P 2), .int .u64 (limb P 3)] 26)
    replace k_u := k_u.step hb7 (.cells #[.int .u64 (limb P 0), .int .u64 (limb P 1), .int .u64 (limb P 2), .int .u64 (limb P 3)] 26)
    replace k_v := k_v.step hb7 (.cells #[.int .u64 (limb P 0), .int .u64 (limb P 1), .int .u64 (limb P 2), .int .u64 (limb P 3)] 26)
    have k_p := Blk.new w7 26 #[.int .u64 (limb P 0), .int .u64 (limb P 1), .int .u64 (limb P 2), .int .u64 (limb P 3)]
    replace BB := BW_alloc (BW_on BB hb7) (.cells #[.int .u64 (limb P 0), .int .u64 (limb P 1), .int .u64 (limb P 2), .int .u64 (limb P 3)] 26)
    have c_a := fun i => k_a.cell i
    have c_x := fun i => k_x.cell i
    have c_y := fun i => k_y.cell i
    have c_u := fun i => k_u.cell i
    have c_v := fun i => k_v.cell i
    have c_p := fun i => k_p.cell i
    go_wp2_with fail
    refine (Hq.out _).mono ?_
    rintro e w8 ⟨rfl, hb8⟩
    clear c_a c_x c_y c_u c_v c_p
    replace k_a := k_a.step hb8 (.cells #[.int .u64 (limb P 0), .int .u64 (limb P 1), .int .u64 (limb P 2), .int .u64 (limb P 3)] 26)
    replace k_x := k_x.step hb8 (.cells #[.int .u64 (limb P 0), .int .u64 (limb P 1), .int .u64 (limb P 2), .int .u64 (limb P 3)] 26)
    replace k_y := k_y.step hb8 (.cells #[.int .u64 (limb P 0), .int .u64 (limb P 1), .int .u64 (limb P 2), .int .u64 (limb P 3)] 26)
    replace k_u := k_u.step hb8 (.cells #[.int .u64 (limb P 0), .int .u64 (limb P 1), .int .u64 (limb P 2), .int .u64 (limb P 3)] 26)
    replace k_v := k_v.step hb8 (.cells #[.int .u64 (limb P 0), .int .u64 (limb P 1), .int .u64 (limb P 2), .int .u64 (limb P 3)] 26)
    replace k_p := k_p.step hb8 (.cells #[.int .u64 (limb P 0), .int .u64 (limb P 1), .int .u64 (limb P 2), .int .u64 (limb P 3)] 26)
    have k_q := Blk.new w8 26 #[.int .u64 (limb P 0), .int .u64 (limb P 1), .int .u64 (limb P 2), .int .u64 (limb P 3)]
    replace BB := BW_alloc (BW_on BB hb8) (.cells #[.int .u64 (limb P 0), .int .u64 (limb P 1), .int .u64 (limb P 2), .int .u64 (limb P 3)] 26)
    have c_a := fun i => k_a.cell i
    have c_x := fun i => k_x.cell i
    have c_y := fun i => k_y.cell i
    have c_u := fun i => k_u.cell i
    have c_v := fun i => k_v.cell i
    have c_p := fun i => k_p.cell i
    have c_q := fun i => k_q.cell i
    go_wp2_with fail
    clear c_a c_x c_y c_u c_v c_p c_q
    generalize hWW : w8.alloc _ = W at *
    replace k_a := k_a.held
    replace k_x := k_x.held
    replace k_y := k_y.held
    replace k_u := k_u.held
    replace k_v := k_v.held
    replace k_p := k_p.held
    replace k_q := k_q.held
    clear hWW hb0 hb1 hb2 hb3 hb4 hb5 hb6 hb7 hb8
    have BB := Lib.hid BB
    have heN := HeN.out
    have heU := HeU.out
    have heP := HeP.out
    go_region_held3 (fun w' => Below W.heap.size W w')
      ((first | exact (Below.refl _ _).drew | assumption | ((refine BW_on ?_ (by assumption)); assumption)))
      (first | (go_at_call 30; refine (Hby.out _).mono ?_; rintro e wc1 ⟨rfl, hd1⟩) | (go_at_call 34; refine (Hrb.out _).mono ?_; rintro e wc2 ⟨rfl, hd2⟩) | (go_at_call 25; refine (Htx.out _).mono ?_; rintro e wc3 ⟨rfl, hd3⟩) | (go_at_call 35; refine (Hrt.out _).mono ?_; rintro e wc4 ⟨rfl, hd4⟩))
    all_goals (go_wp2_with fail; go_ret; exact ⟨rfl, BW_on BB.out (by assumption)⟩)
theorem unb_bys (n : Nat) (hn : W256 n) : unb (bys n) = n := by
  unfold unb
  have e : ((bys n).reverse.map UInt8.toNat) = digl n 32 := by
    apply List.ext_getElem (by simp [bys, digl])
    intro i h1 h2
    have hi : i < 32 := by simpa [digl] using h2
    simp only [List.getElem_map, List.getElem_reverse, bys, digl, List.getElem_range, List.length_map, List.length_range, byN]
    rw [UInt8.toNat_ofNat', show 31 - (32 - 1 - i) = i by omega]
    exact Nat.mod_eq_of_lt (Nat.mod_lt _ (by decide))
  rw [e, vl_digl, Nat.mod_eq_of_lt hn]
theorem from_both (S : ByteArray) : ∃ (U : Nat) (g : Int), W256 U ∧
    (∀ w, Calls Try.prog 29 #[.string S] w fun e w' => e = .returned (.tuple #[.agg #[.int .u64 (limb U 0), .int .u64 (limb U 1), .int .u64 (limb U 2), .int .u64 (limb U 3)], .int .i64 g]) ∧ Below w.heap.size w w') ∧
    (∀ w, Calls Try.prog 32 #[.string S] w fun e w' => e = .returned (.tuple #[.agg #[.int .u64 (limb U 0), .int .u64 (limb U 1), .int .u64 (limb U 2), .int .u64 (limb U 3)], .int .i64 g]) ∧ Below w.heap.size w w') := by
  by_cases h : S.size = 32
  · exact ⟨unb S.data.toList, 0, unb_lt S h, from_yes S h, rfrom_yes S h⟩
  · refine ⟨0, 10, W256.zero, ?_, ?_⟩
    · rw [w0'.1, w0'.2.1, w0'.2.2.1, w0'.2.2.2]; exact from_no S h
    · rw [w0'.1, w0'.2.1, w0'.2.2.1, w0'.2.2.2]; exact rfrom_no S h
theorem text_both (S : ByteArray) (hs : S.size ≤ 9223372036854775807) : ∃ (U : Nat) (g : Int), W256 U ∧
    (∀ w, Calls Try.prog 31 #[.string S] w fun e w' => e = .returned (.tuple #[.agg #[.int .u64 (limb U 0), .int .u64 (limb U 1), .int .u64 (limb U 2), .int .u64 (limb U 3)], .int .i64 g]) ∧ Below w.heap.size w w') ∧
    (∀ w, Calls Try.prog 33 #[.string S] w fun e w' => e = .returned (.tuple #[.agg #[.int .u64 (limb U 0), .int .u64 (limb U 1), .int .u64 (limb U 2), .int .u64 (limb U 3)], .int .i64 g]) ∧ Below w.heap.size w w') := by
  by_cases h : okT S.data.toList
  · exact ⟨_, _, h.lt, ft_any S _ _ (.inl ⟨h, rfl, rfl⟩), rft_any S _ _ (.inl ⟨h, rfl, rfl⟩) hs⟩
  · exact ⟨_, _, W256.zero, ft_any S _ _ (.inr ⟨h, rfl, rfl⟩), rft_any S _ _ (.inr ⟨h, rfl, rfl⟩) hs⟩
theorem writes_walk (N : Nat) (s : ByteArray) (hN : W256 N) (hs : s.size ≤ 9223372036854775807) (w : World) :
    Calls Try.prog 10 #[.agg #[.int .u64 (limb N 0), .int .u64 (limb N 1), .int .u64 (limb N 2), .int .u64 (limb N 3)], .string s] w fun e w' => e = .returned (.bool true) ∧ Below w.heap.size w w' := by
  obtain ⟨S, hS, hSz⟩ : ∃ S : ByteArray, ((s.size ≤ 100 ∧ S = s) ∨ (100 < s.size ∧ S = s.extract 0 100)) ∧ S.size ≤ 9223372036854775807 := by
    rcases Nat.lt_or_ge 100 s.size with h | h
    · exact ⟨s.extract 0 100, .inr ⟨h, rfl⟩, by simp; omega⟩
    · exact ⟨s, .inl ⟨h, rfl⟩, hs⟩
  obtain ⟨U, g, hU, hu, hv⟩ := from_both S
  obtain ⟨P, i, hP, hp, hq⟩ := text_both S hSz
  have hfb := from_yes ⟨(bys N).toArray⟩ (by simp [ByteArray.size, bys_len])
  have e1 : unb (⟨(bys N).toArray⟩ : ByteArray).data.toList = N := unb_bys N hN
  rw [e1] at hfb
  have hft := ft_any ⟨(txt N).toArray⟩ N 0 (.inl ⟨(txt_ok N hN).1, (txt_ok N hN).2.symm, rfl⟩)
  exact writes_gen N U P g i s S ⟨(bys N).toArray⟩ ⟨(txt N).toArray⟩ hN hU hP hS (Lib.hid (bytes_any N)) (Lib.hid (rbytes_any N)) (Lib.hid (text_any N hN)) (Lib.hid (rtext_any N hN)) (Lib.hid hfb) (Lib.hid hft) (Lib.hid hu) (Lib.hid hv) (Lib.hid hp) (Lib.hid hq) w
set_option maxRecDepth 100000 in
theorem writes_lifted (os : Os) (started : os.Started) (H : Type) (enc : TypeId × Value → H) :
    ReturnsInHanded {} Try.checked os 10 .any (Rows.wideWritesSpec.pre6 enc Try.prog Try.f10 Rows.wideWritesRow.domain false) (Rows.wideWritesSpec.post enc Try.prog Try.f10 false true false false) := by
  refine law_lifted (C := Try.checked) (tb := 4) (by kernel_rfl) started (by kernel_rfl) Try.func10
    (ChangeSpec.witness6 (enc := enc) (C := Try.checked) false ⟨#[], #[.agg #[.int .u64 0, .int .u64 0, .int .u64 0, .int .u64 0], .string ⟨#[]⟩], []⟩ 8 (by kernel_rfl) (by kernel_rfl) (by kernel_rfl) (by kernel_rfl))
    laidOut (by kernel_rfl) (by kernel_rfl) Try.underlying4 rfl ?_ ?_
  · intro ds hd
    have hp : Try.f10.params.toList.length = 2 := by kernel_rfl
    rw [hp] at hd
    match ds, hd with
    | [d, d'], _ => rfl
  · intro W base args ds ps hval hA _ _
    have hval' : ∀ (j : Nat) t v, Try.f10.params[j]? = some t → args[j]? = some v → Value.okWide Try.prog W .any base t v := hval
    have hA' : DataW.TrodAll enc Try.prog W 0 (fun _ => true) true Try.f10.params.toList args.toList ds ps := hA
    rw [Try.params10] at hA' hval'
    obtain ⟨v0, v1, d0, d1, p0, p1, rfl, rfl, rfl, h0, h1⟩ := trodAll_two hA'
    obtain ⟨N, hN, rfl⟩ := wide_args (hval' 0 26 v0 rfl rfl) h0
    obtain ⟨s, rfl, _, _, hs⟩ := Go.ChangeMaps.open_string Try.underlying9 (hval' 1 9 v1 rfl rfl) h1
    exact writes_walk N s hN hs W
theorem WideWrites_holds : Rows.WideWritesSaid :=
  OpenClaim.holds_of_wide 10 Try.f10 rfl rfl rfl rfl rfl rfl rfl ⟨rfl, rfl, rfl, rfl, rfl⟩ rfl rfl rfl rfl rfl (by kernel_rfl) Try.func10 (by kernel_rfl)
    (of_decide_eq_true (by kernel_rfl)) (by unfold Func.isWrapper; first | (rw [if_pos (by decide +kernel)]; kernel_rfl) | (rw [if_neg (by decide +kernel)]; exact ⟨rfl, rfl⟩))
    (fun os started H enc _ => writes_lifted os started H enc)
end Go.Proofs.Ytibemleodghhfaa
