/- The law WideTurns: sums are the same in whatever order; what was added is taken away again; a difference is a sum's; for every input. -/
import Derived.Test.YtibemleodghhfaaSums
import Derived.Deep.RegionHeld3
namespace Go.Proofs.Ytibemleodghhfaa
open Go.RowKit Go.ChangeShapes Go.WideShapes
attribute [local go_sem ↓] Go.wp_at_zero Go.wp_at_succ
theorem Blk.step {w w' : World} {g : Nat} {t : TypeId} {cs : Array Value} (h : Blk w g t cs) (hb : Below w.heap.size w w') (o : Obj) : Blk (w'.alloc o) g t cs := (h.below hb h.lt).alloc o
theorem Blk.held {w : World} {g : Nat} {t : TypeId} {cs : Array Value} (h : Blk w g t cs) : ∀ w', Below w.heap.size w w' → ∀ i, w'.cell? ⟨g, i, none⟩ = cs[i]? := fun _ hb i => (h.below hb h.lt).cell i
theorem sumR_eq (l : List Nat) : ∀ c, W256 c → sumR c l = (wN (c + l.sum), wOk (c + l.sum)) := by
  induction l with
  | nil => intro c hc; simp [sumR, wN_of hc, wOk_of hc]
  | cons a l ih =>
    intro c hc
    rw [sumR_cons, List.sum_cons, ← Nat.add_assoc]
    cases h : wOk (c + a) with
    | true => rw [if_pos rfl]; exact ih _ (ok_Wd h)
    | false =>
      rw [if_neg (by decide)]
      have h1 : ¬ c + a < 256 ^ 32 := of_decide_eq_false (p := c + a < 256 ^ 32) h
      have h2 : ¬ c + a + l.sum < 256 ^ 32 := by omega
      unfold wN wOk
      rw [if_neg h2, decide_eq_false h2]
theorem sum3 (A B C : Nat) (hA : W256 A) (hB : W256 B) (hC : W256 C) (g : Nat) (w : World) (hk : Blk w g 26 #[.int .u64 (limb A 0), .int .u64 (limb A 1), .int .u64 (limb A 2), .int .u64 (limb A 3), .int .u64 (limb B 0), .int .u64 (limb B 1), .int .u64 (limb B 2), .int .u64 (limb B 3), .int .u64 (limb C 0), .int .u64 (limb C 1), .int .u64 (limb C 2), .int .u64 (limb C 3)]) :
    Calls Try.prog 19 #[.slice (some ⟨g, 0, none⟩) 3 3] w fun e w' => e = .returned (.tuple #[.agg #[.int .u64 (limb (wN (A + B + C)) 0), .int .u64 (limb (wN (A + B + C)) 1), .int .u64 (limb (wN (A + B + C)) 2), .int .u64 (limb (wN (A + B + C)) 3)], .bool (wOk (A + B + C))]) ∧ Below w.heap.size w w' := by
  have h := sum_m [A, B, C] 3 g 0 3 rfl (by simp [hA, hB, hC]) w hk.lt (by decide) (by
    intro k hk3 i hi
    have := hk.cell (0 + k * 4 + i)
    rw [this]
    have h1 : k = 0 ∨ k = 1 ∨ k = 2 := by simp at hk3; omega
    have h2 : i = 0 ∨ i = 1 ∨ i = 2 ∨ i = 3 := by omega
    rcases h1 with rfl | rfl | rfl <;> rcases h2 with rfl | rfl | rfl | rfl <;> rfl)
  rw [sumR_eq _ 0 W256.zero] at h
  have e : 0 + [A, B, C].sum = A + B + C := by simp; omega
  rw [e] at h
  exact h
set_option maxHeartbeats 4000000 in
set_option maxRecDepth 100000 in
theorem turns_gen (A B C S U : Nat) (i ou m : Bool) (cs c1 c2 d0 d1 d2 d3 : Int) (hA : W256 A) (hS : W256 S) (hU : W256 U)
    (Hab : Hid (∀ w, Calls Try.prog 21 #[.agg #[.int .u64 (limb A 0), .int .u64 (limb A 1), .int .u64 (limb A 2), .int .u64 (limb A 3)], .agg #[.int .u64 (limb B 0), .int .u64 (limb B 1), .int .u64 (limb B 2), .int .u64 (limb B 3)]] w fun e w' => e = .returned (.tuple #[.agg #[.int .u64 (limb S 0), .int .u64 (limb S 1), .int .u64 (limb S 2), .int .u64 (limb S 3)], .bool i]) ∧ Below w.heap.size w w'))
    (Hba : Hid (∀ w, Calls Try.prog 21 #[.agg #[.int .u64 (limb B 0), .int .u64 (limb B 1), .int .u64 (limb B 2), .int .u64 (limb B 3)], .agg #[.int .u64 (limb A 0), .int .u64 (limb A 1), .int .u64 (limb A 2), .int .u64 (limb A 3)]] w fun e w' => e = .returned (.tuple #[.agg #[.int .u64 (limb S 0), .int .u64 (limb S 1), .int .u64 (limb S 2), .int .u64 (limb S 3)], .bool i]) ∧ Below w.heap.size w w'))
    (Hsub : Hid (i = true → ∀ w, Calls Try.prog 23 #[.agg #[.int .u64 (limb S 0), .int .u64 (limb S 1), .int .u64 (limb S 2), .int .u64 (limb S 3)], .agg #[.int .u64 (limb B 0), .int .u64 (limb B 1), .int .u64 (limb B 2), .int .u64 (limb B 3)]] w fun e w' => e = .returned (.tuple #[.agg #[.int .u64 (limb A 0), .int .u64 (limb A 1), .int .u64 (limb A 2), .int .u64 (limb A 3)], .bool true]) ∧ Below w.heap.size w w'))
    (Hcs : Hid (i = true → ∀ w, Calls Try.prog 24 #[.agg #[.int .u64 (limb S 0), .int .u64 (limb S 1), .int .u64 (limb S 2), .int .u64 (limb S 3)], .agg #[.int .u64 (limb A 0), .int .u64 (limb A 1), .int .u64 (limb A 2), .int .u64 (limb A 3)]] w fun e w' => e = .returned (.int .i64 cs) ∧ Below w.heap.size w w'))
    (hcs : 0 ≤ cs)
    (HS1 : Hid (∀ g w, Blk w g 26 #[.int .u64 (limb A 0), .int .u64 (limb A 1), .int .u64 (limb A 2), .int .u64 (limb A 3), .int .u64 (limb B 0), .int .u64 (limb B 1), .int .u64 (limb B 2), .int .u64 (limb B 3), .int .u64 (limb C 0), .int .u64 (limb C 1), .int .u64 (limb C 2), .int .u64 (limb C 3)] → Calls Try.prog 19 #[.slice (some ⟨g, 0, none⟩) 3 3] w fun e w' => e = .returned (.tuple #[.agg #[.int .u64 (limb U 0), .int .u64 (limb U 1), .int .u64 (limb U 2), .int .u64 (limb U 3)], .bool ou]) ∧ Below w.heap.size w w'))
    (HS2 : Hid (∀ g w, Blk w g 26 #[.int .u64 (limb C 0), .int .u64 (limb C 1), .int .u64 (limb C 2), .int .u64 (limb C 3), .int .u64 (limb A 0), .int .u64 (limb A 1), .int .u64 (limb A 2), .int .u64 (limb A 3), .int .u64 (limb B 0), .int .u64 (limb B 1), .int .u64 (limb B 2), .int .u64 (limb B 3)] → Calls Try.prog 19 #[.slice (some ⟨g, 0, none⟩) 3 3] w fun e w' => e = .returned (.tuple #[.agg #[.int .u64 (limb U 0), .int .u64 (limb U 1), .int .u64 (limb U 2), .int .u64 (limb U 3)], .bool ou]) ∧ Below w.heap.size w w'))
    (Hd : Hid (∀ w, Calls Try.prog 23 #[.agg #[.int .u64 (limb A 0), .int .u64 (limb A 1), .int .u64 (limb A 2), .int .u64 (limb A 3)], .agg #[.int .u64 (limb B 0), .int .u64 (limb B 1), .int .u64 (limb B 2), .int .u64 (limb B 3)]] w fun e w' => e = .returned (.tuple #[.agg #[.int .u64 d0, .int .u64 d1, .int .u64 d2, .int .u64 d3], .bool m]) ∧ Below w.heap.size w w'))
    (Hd2 : Hid (m = true → ∀ w, Calls Try.prog 21 #[.agg #[.int .u64 d0, .int .u64 d1, .int .u64 d2, .int .u64 d3], .agg #[.int .u64 (limb B 0), .int .u64 (limb B 1), .int .u64 (limb B 2), .int .u64 (limb B 3)]] w fun e w' => e = .returned (.tuple #[.agg #[.int .u64 (limb A 0), .int .u64 (limb A 1), .int .u64 (limb A 2), .int .u64 (limb A 3)], .bool true]) ∧ Below w.heap.size w w'))
    (Hc1 : Hid (∀ w, Calls Try.prog 24 #[.agg #[.int .u64 (limb A 0), .int .u64 (limb A 1), .int .u64 (limb A 2), .int .u64 (limb A 3)], .agg #[.int .u64 (limb B 0), .int .u64 (limb B 1), .int .u64 (limb B 2), .int .u64 (limb B 3)]] w fun e w' => e = .returned (.int .i64 c1) ∧ Below w.heap.size w w'))
    (Hc2 : Hid (∀ w, Calls Try.prog 24 #[.agg #[.int .u64 (limb B 0), .int .u64 (limb B 1), .int .u64 (limb B 2), .int .u64 (limb B 3)], .agg #[.int .u64 (limb A 0), .int .u64 (limb A 1), .int .u64 (limb A 2), .int .u64 (limb A 3)]] w fun e w' => e = .returned (.int .i64 c2) ∧ Below w.heap.size w w'))
    (hc : (c1 = -1 ∧ c2 = 1 ∧ m = false) ∨ (c1 = 0 ∧ c2 = 0 ∧ m = true) ∨ (c1 = 1 ∧ c2 = -1 ∧ m = true)) (w : World) :
    Calls Try.prog 8 #[.agg #[.int .u64 (limb A 0), .int .u64 (limb A 1), .int .u64 (limb A 2), .int .u64 (limb A 3)], .agg #[.int .u64 (limb B 0), .int .u64 (limb B 1), .int .u64 (limb B 2), .int .u64 (limb B 3)], .agg #[.int .u64 (limb C 0), .int .u64 (limb C 1), .int .u64 (limb C 2), .int .u64 (limb C 3)]] w fun e w' => e = .returned (.bool true) ∧ Below w.heap.size w w' := by
  have HeS := Lib.hid (fun w => (eqWide S S hS hS w).trans (by rw [decide_eq_true rfl]))
  have HeA := Lib.hid (fun w => (eqWide A A hA hA w).trans (by rw [decide_eq_true rfl]))
  have HeU := Lib.hid (fun w => (eqWide U U hU hU w).trans (by rw [decide_eq_true rfl]))
  clear hA hS hU
  cases i <;> rcases hc with ⟨rfl, rfl, rfl⟩ | ⟨rfl, rfl, rfl⟩ | ⟨rfl, rfl, rfl⟩
  · clear Hsub Hcs Hd2
    go_enter Try.func8, Try.ntmps8
    go_wp2_with fail
    refine (awake04 _).mono ?_
    rintro e w0 ⟨rfl, hb0⟩
    have k_a := ((blk1 w 26 #[.int .u64 (limb A 0), .int .u64 (limb A 1), .int .u64 (limb A 2), .int .u64 (limb A 3)]).alloc (.cells #[.int .u64 (limb B 0), .int .u64 (limb B 1), .int .u64 (limb B 2), .int .u64 (limb B 3)] 26)).alloc (.cells #[.int .u64 (limb C 0), .int .u64 (limb C 1), .int .u64 (limb C 2), .int .u64 (limb C 3)] 26)
    have k_b := (blk2 w (.cells #[.int .u64 (limb A 0), .int .u64 (limb A 1), .int .u64 (limb A 2), .int .u64 (limb A 3)] 26) 26 #[.int .u64 (limb B 0), .int .u64 (limb B 1), .int .u64 (limb B 2), .int .u64 (limb B 3)]).alloc (.cells #[.int .u64 (limb C 0), .int .u64 (limb C 1), .int .u64 (limb C 2), .int .u64 (limb C 3)] 26)
    have k_c := blk3 w (.cells #[.int .u64 (limb A 0), .int .u64 (limb A 1), .int .u64 (limb A 2), .int .u64 (limb A 3)] 26) (.cells #[.int .u64 (limb B 0), .int .u64 (limb B 1), .int .u64 (limb B 2), .int .u64 (limb B 3)] 26) 26 #[.int .u64 (limb C 0), .int .u64 (limb C 1), .int .u64 (limb C 2), .int .u64 (limb C 3)]
    replace k_a := k_a.below hb0 k_a.lt
    replace k_b := k_b.below hb0 k_b.lt
    replace k_c := k_c.below hb0 k_c.lt
    have BB := BW_on (BW_alloc (BW_alloc (BW_alloc (Below.refl _ _) _) _) _) hb0
    have c_a := fun i => k_a.cell i
    have c_b := fun i => k_b.cell i
    have c_c := fun i => k_c.cell i
    go_wp2_with fail
    refine (Hab.out _).mono ?_
    rintro e w1 ⟨rfl, hb1⟩
    clear c_a c_b c_c
    replace k_a := k_a.step hb1 (.cells #[.int .u64 (limb S 0), .int .u64 (limb S 1), .int .u64 (limb S 2), .int .u64 (limb S 3)] 26)
    replace k_b := k_b.step hb1 (.cells #[.int .u64 (limb S 0), .int .u64 (limb S 1), .int .u64 (limb S 2), .int .u64 (limb S 3)] 26)
    replace k_c := k_c.step hb1 (.cells #[.int .u64 (limb S 0), .int .u64 (limb S 1), .int .u64 (limb S 2), .int .u64 (limb S 3)] 26)
    have k_s := Blk.new w1 26 #[.int .u64 (limb S 0), .int .u64 (limb S 1), .int .u64 (limb S 2), .int .u64 (limb S 3)]
    replace BB := BW_alloc (BW_on BB hb1) (.cells #[.int .u64 (limb S 0), .int .u64 (limb S 1), .int .u64 (limb S 2), .int .u64 (limb S 3)] 26)
    have c_a := fun i => k_a.cell i
    have c_b := fun i => k_b.cell i
    have c_c := fun i => k_c.cell i
    have c_s := fun i => k_s.cell i
    go_wp2_with fail
    refine (Hba.out _).mono ?_
    rintro e w2 ⟨rfl, hb2⟩
    clear c_a c_b c_c c_s
    replace k_a := k_a.step hb2 (.cells #[.int .u64 (limb S 0), .int .u64 (limb S 1), .int .u64 (limb S 2), .int .u64 (limb S 3)] 26)
    replace k_b := k_b.step hb2 (.cells #[.int .u64 (limb S 0), .int .u64 (limb S 1), .int .u64 (limb S 2), .int .u64 (limb S 3)] 26)
    replace k_c := k_c.step hb2 (.cells #[.int .u64 (limb S 0), .int .u64 (limb S 1), .int .u64 (limb S 2), .int .u64 (limb S 3)] 26)
    replace k_s := k_s.step hb2 (.cells #[.int .u64 (limb S 0), .int .u64 (limb S 1), .int .u64 (limb S 2), .int .u64 (limb S 3)] 26)
    have k_t := Blk.new w2 26 #[.int .u64 (limb S 0), .int .u64 (limb S 1), .int .u64 (limb S 2), .int .u64 (limb S 3)]
    replace BB := BW_alloc (BW_on BB hb2) (.cells #[.int .u64 (limb S 0), .int .u64 (limb S 1), .int .u64 (limb S 2), .int .u64 (limb S 3)] 26)
    have c_a := fun i => k_a.cell i
    have c_b := fun i => k_b.cell i
    have c_c := fun i => k_c.cell i
    have c_s := fun i => k_s.cell i
    have c_t := fun i => k_t.cell i
    have heS := HeS.out
    have heA := HeA.out
    have heU := HeU.out
    go_wp2_with fail
    clear c_a c_b c_c c_s c_t
    have k_l := blk2 w2 (.cells #[.int .u64 (limb S 0), .int .u64 (limb S 1), .int .u64 (limb S 2), .int .u64 (limb S 3)] 26) 26 #[.int .u64 (limb A 0), .int .u64 (limb A 1), .int .u64 (limb A 2), .int .u64 (limb A 3), .int .u64 (limb B 0), .int .u64 (limb B 1), .int .u64 (limb B 2), .int .u64 (limb B 3), .int .u64 (limb C 0), .int .u64 (limb C 1), .int .u64 (limb C 2), .int .u64 (limb C 3)]
    refine (HS1.out _ _ k_l).mono ?_
    rintro e w3 ⟨rfl, hb3⟩
    clear k_l
    replace k_a := (k_a.alloc (.cells #[.int .u64 (limb A 0), .int .u64 (limb A 1), .int .u64 (limb A 2), .int .u64 (limb A 3), .int .u64 (limb B 0), .int .u64 (limb B 1), .int .u64 (limb B 2), .int .u64 (limb B 3), .int .u64 (limb C 0), .int .u64 (limb C 1), .int .u64 (limb C 2), .int .u64 (limb C 3)] 26)).step hb3 (.cells #[.int .u64 (limb U 0), .int .u64 (limb U 1), .int .u64 (limb U 2), .int .u64 (limb U 3)] 26)
    replace k_b := (k_b.alloc (.cells #[.int .u64 (limb A 0), .int .u64 (limb A 1), .int .u64 (limb A 2), .int .u64 (limb A 3), .int .u64 (limb B 0), .int .u64 (limb B 1), .int .u64 (limb B 2), .int .u64 (limb B 3), .int .u64 (limb C 0), .int .u64 (limb C 1), .int .u64 (limb C 2), .int .u64 (limb C 3)] 26)).step hb3 (.cells #[.int .u64 (limb U 0), .int .u64 (limb U 1), .int .u64 (limb U 2), .int .u64 (limb U 3)] 26)
    replace k_c := (k_c.alloc (.cells #[.int .u64 (limb A 0), .int .u64 (limb A 1), .int .u64 (limb A 2), .int .u64 (limb A 3), .int .u64 (limb B 0), .int .u64 (limb B 1), .int .u64 (limb B 2), .int .u64 (limb B 3), .int .u64 (limb C 0), .int .u64 (limb C 1), .int .u64 (limb C 2), .int .u64 (limb C 3)] 26)).step hb3 (.cells #[.int .u64 (limb U 0), .int .u64 (limb U 1), .int .u64 (limb U 2), .int .u64 (limb U 3)] 26)
    replace k_s := (k_s.alloc (.cells #[.int .u64 (limb A 0), .int .u64 (limb A 1), .int .u64 (limb A 2), .int .u64 (limb A 3), .int .u64 (limb B 0), .int .u64 (limb B 1), .int .u64 (limb B 2), .int .u64 (limb B 3), .int .u64 (limb C 0), .int .u64 (limb C 1), .int .u64 (limb C 2), .int .u64 (limb C 3)] 26)).step hb3 (.cells #[.int .u64 (limb U 0), .int .u64 (limb U 1), .int .u64 (limb U 2), .int .u64 (limb U 3)] 26)
    replace k_t := (k_t.alloc (.cells #[.int .u64 (limb A 0), .int .u64 (limb A 1), .int .u64 (limb A 2), .int .u64 (limb A 3), .int .u64 (limb B 0), .int .u64 (limb B 1), .int .u64 (limb B 2), .int .u64 (limb B 3), .int .u64 (limb C 0), .int .u64 (limb C 1), .int .u64 (limb C 2), .int .u64 (limb C 3)] 26)).step hb3 (.cells #[.int .u64 (limb U 0), .int .u64 (limb U 1), .int .u64 (limb U 2), .int .u64 (limb U 3)] 26)
    have k_u := Blk.new w3 26 #[.int .u64 (limb U 0), .int .u64 (limb U 1), .int .u64 (limb U 2), .int .u64 (limb U 3)]
    replace BB := BW_alloc (BW_on (BW_alloc BB (.cells #[.int .u64 (limb A 0), .int .u64 (limb A 1), .int .u64 (limb A 2), .int .u64 (limb A 3), .int .u64 (limb B 0), .int .u64 (limb B 1), .int .u64 (limb B 2), .int .u64 (limb B 3), .int .u64 (limb C 0), .int .u64 (limb C 1), .int .u64 (limb C 2), .int .u64 (limb C 3)] 26)) hb3) (.cells #[.int .u64 (limb U 0), .int .u64 (limb U 1), .int .u64 (limb U 2), .int .u64 (limb U 3)] 26)
    have c_a := fun i => k_a.cell i
    have c_b := fun i => k_b.cell i
    have c_c := fun i => k_c.cell i
    have c_s := fun i => k_s.cell i
    have c_t := fun i => k_t.cell i
    have c_u := fun i => k_u.cell i
    go_wp2_with fail
    clear c_a c_b c_c c_s c_t c_u
    have k_l := blk2 w3 (.cells #[.int .u64 (limb U 0), .int .u64 (limb U 1), .int .u64 (limb U 2), .int .u64 (limb U 3)] 26) 26 #[.int .u64 (limb C 0), .int .u64 (limb C 1), .int .u64 (limb C 2), .int .u64 (limb C 3), .int .u64 (limb A 0), .int .u64 (limb A 1), .int .u64 (limb A 2), .int .u64 (limb A 3), .int .u64 (limb B 0), .int .u64 (limb B 1), .int .u64 (limb B 2), .int .u64 (limb B 3)]
    refine (HS2.out _ _ k_l).mono ?_
    rintro e w4 ⟨rfl, hb4⟩
    clear k_l
    replace k_a := (k_a.alloc (.cells #[.int .u64 (limb C 0), .int .u64 (limb C 1), .int .u64 (limb C 2), .int .u64 (limb C 3), .int .u64 (limb A 0), .int .u64 (limb A 1), .int .u64 (limb A 2), .int .u64 (limb A 3), .int .u64 (limb B 0), .int .u64 (limb B 1), .int .u64 (limb B 2), .int .u64 (limb B 3)] 26)).step hb4 (.cells #[.int .u64 (limb U 0), .int .u64 (limb U 1), .int .u64 (limb U 2), .int .u64 (limb U 3)] 26)
    replace k_b := (k_b.alloc (.cells #[.int .u64 (limb C 0), .int .u64 (limb C 1), .int .u64 (limb C 2), .int .u64 (limb C 3), .int .u64 (limb A 0), .int .u64 (limb A 1), .int .u64 (limb A 2), .int .u64 (limb A 3), .int .u64 (limb B 0), .int .u64 (limb B 1), .int .u64 (limb B 2), .int .u64 (limb B 3)] 26)).step hb4 (.cells #[.int .u64 (limb U 0), .int .u64 (limb U 1), .int .u64 (limb U 2), .int .u64 (limb U 3)] 26)
    replace k_c := (k_c.alloc (.cells #[.int .u64 (limb C 0), .int .u64 (limb C 1), .int .u64 (limb C 2), .int .u64 (limb C 3), .int .u64 (limb A 0), .int .u64 (limb A 1), .int .u64 (limb A 2), .int .u64 (limb A 3), .int .u64 (limb B 0), .int .u64 (limb B 1), .int .u64 (limb B 2), .int .u64 (limb B 3)] 26)).step hb4 (.cells #[.int .u64 (limb U 0), .int .u64 (limb U 1), .int .u64 (limb U 2), .int .u64 (limb U 3)] 26)
    replace k_s := (k_s.alloc (.cells #[.int .u64 (limb C 0), .int .u64 (limb C 1), .int .u64 (limb C 2), .int .u64 (limb C 3), .int .u64 (limb A 0), .int .u64 (limb A 1), .int .u64 (limb A 2), .int .u64 (limb A 3), .int .u64 (limb B 0), .int .u64 (limb B 1), .int .u64 (limb B 2), .int .u64 (limb B 3)] 26)).step hb4 (.cells #[.int .u64 (limb U 0), .int .u64 (limb U 1), .int .u64 (limb U 2), .int .u64 (limb U 3)] 26)
    replace k_t := (k_t.alloc (.cells #[.int .u64 (limb C 0), .int .u64 (limb C 1), .int .u64 (limb C 2), .int .u64 (limb C 3), .int .u64 (limb A 0), .int .u64 (limb A 1), .int .u64 (limb A 2), .int .u64 (limb A 3), .int .u64 (limb B 0), .int .u64 (limb B 1), .int .u64 (limb B 2), .int .u64 (limb B 3)] 26)).step hb4 (.cells #[.int .u64 (limb U 0), .int .u64 (limb U 1), .int .u64 (limb U 2), .int .u64 (limb U 3)] 26)
    replace k_u := (k_u.alloc (.cells #[.int .u64 (limb C 0), .int .u64 (limb C 1), .int .u64 (limb C 2), .int .u64 (limb C 3), .int .u64 (limb A 0), .int .u64 (limb A 1), .int .u64 (limb A 2), .int .u64 (limb A 3), .int .u64 (limb B 0), .int .u64 (limb B 1), .int .u64 (limb B 2), .int .u64 (limb B 3)] 26)).step hb4 (.cells #[.int .u64 (limb U 0), .int .u64 (limb U 1), .int .u64 (limb U 2), .int .u64 (limb U 3)] 26)
    have k_v := Blk.new w4 26 #[.int .u64 (limb U 0), .int .u64 (limb U 1), .int .u64 (limb U 2), .int .u64 (limb U 3)]
    replace BB := BW_alloc (BW_on (BW_alloc BB (.cells #[.int .u64 (limb C 0), .int .u64 (limb C 1), .int .u64 (limb C 2), .int .u64 (limb C 3), .int .u64 (limb A 0), .int .u64 (limb A 1), .int .u64 (limb A 2), .int .u64 (limb A 3), .int .u64 (limb B 0), .int .u64 (limb B 1), .int .u64 (limb B 2), .int .u64 (limb B 3)] 26)) hb4) (.cells #[.int .u64 (limb U 0), .int .u64 (limb U 1), .int .u64 (limb U 2), .int .u64 (limb U 3)] 26)
    have c_a := fun i => k_a.cell i
    have c_b := fun i => k_b.cell i
    have c_c := fun i => k_c.cell i
    have c_s := fun i => k_s.cell i
    have c_t := fun i => k_t.cell i
    have c_u := fun i => k_u.cell i
    have c_v := fun i => k_v.cell i
    go_wp2_with fail
    refine (Hd.out _).mono ?_
    rintro e w5 ⟨rfl, hb5⟩
    clear c_a c_b c_c c_s c_t c_u c_v
    replace k_a := k_a.step hb5 (.cells #[.int .u64 d0, .int .u64 d1, .int .u64 d2, .int .u64 d3] 26)
    replace k_b := k_b.step hb5 (.cells #[.int .u64 d0, .int .u64 d1, .int .u64 d2, .int .u64 d3] 26)
    replace k_c := k_c.step hb5 (.cells #[.int .u64 d0, .int .u64 d1, .int .u64 d2, .int .u64 d3] 26)
    replace k_s := k_s.step hb5 (.cells #[.int .u64 d0, .int .u64 d1, .int .u64 d2, .int .u64 d3] 26)
    replace k_t := k_t.step hb5 (.cells #[.int .u64 d0, .int .u64 d1, .int .u64 d2, .int .u64 d3] 26)
    replace k_u := k_u.step hb5 (.cells #[.int .u64 d0, .int .u64 d1, .int .u64 d2, .int .u64 d3] 26)
    replace k_v := k_v.step hb5 (.cells #[.int .u64 d0, .int .u64 d1, .int .u64 d2, .int .u64 d3] 26)
    have k_w := Blk.new w5 26 #[.int .u64 d0, .int .u64 d1, .int .u64 d2, .int .u64 d3]
    replace BB := BW_alloc (BW_on BB hb5) (.cells #[.int .u64 d0, .int .u64 d1, .int .u64 d2, .int .u64 d3] 26)
    have c_a := fun i => k_a.cell i
    have c_b := fun i => k_b.cell i
    have c_c := fun i => k_c.cell i
    have c_s := fun i => k_s.cell i
    have c_t := fun i => k_t.cell i
    have c_u := fun i => k_u.cell i
    have c_v := fun i => k_v.cell i
    have c_w := fun i => k_w.cell i
    go_wp2_with fail
    clear c_a c_b c_c c_s c_t c_u c_v c_w
    generalize hWW : w5.alloc _ = W at *
    replace k_a := k_a.held
    replace k_b := k_b.held
    replace k_c := k_c.held
    replace k_s := k_s.held
    replace k_t := k_t.held
    replace k_u := k_u.held
    replace k_v := k_v.held
    replace k_w := k_w.held
    clear hWW hb0 hb1 hb2 hb3 hb4 hb5
    have BB := Lib.hid BB
    go_region_held3 (fun w' => Below W.heap.size W w')
      ((first | exact (Below.refl _ _).drew | assumption | ((refine BW_on ?_ (by assumption)); assumption)))
      (first | (go_at_call 24; (first | ((with_reducible refine (Hc1.out _).mono ?_); rintro e wc1 ⟨rfl, hd1⟩) | ((with_reducible refine (Hc2.out _).mono ?_); rintro e wc2 ⟨rfl, hd2⟩))))
    all_goals (go_wp2_with fail; go_ret; exact ⟨rfl, BW_on BB.out (by assumption)⟩)
  · have HdI := fun w => Hd2.out rfl w
    have HdI := Lib.hid HdI
    clear Hsub Hcs Hd2
    go_enter Try.func8, Try.ntmps8
    go_wp2_with fail
    refine (awake04 _).mono ?_
    rintro e w0 ⟨rfl, hb0⟩
    have k_a := ((blk1 w 26 #[.int .u64 (limb A 0), .int .u64 (limb A 1), .int .u64 (limb A 2), .int .u64 (limb A 3)]).alloc (.cells #[.int .u64 (limb B 0), .int .u64 (limb B 1), .int .u64 (limb B 2), .int .u64 (limb B 3)] 26)).alloc (.cells #[.int .u64 (limb C 0), .int .u64 (limb C 1), .int .u64 (limb C 2), .int .u64 (limb C 3)] 26)
    have k_b := (blk2 w (.cells #[.int .u64 (limb A 0), .int .u64 (limb A 1), .int .u64 (limb A 2), .int .u64 (limb A 3)] 26) 26 #[.int .u64 (limb B 0), .int .u64 (limb B 1), .int .u64 (limb B 2), .int .u64 (limb B 3)]).alloc (.cells #[.int .u64 (limb C 0), .int .u64 (limb C 1), .int .u64 (limb C 2), .int .u64 (limb C 3)] 26)
    have k_c := blk3 w (.cells #[.int .u64 (limb A 0), .int .u64 (limb A 1), .int .u64 (limb A 2), .int .u64 (limb A 3)] 26) (.cells #[.int .u64 (limb B 0), .int .u64 (limb B 1), .int .u64 (limb B 2), .int .u64 (limb B 3)] 26) 26 #[.int .u64 (limb C 0), .int .u64 (limb C 1), .int .u64 (limb C 2), .int .u64 (limb C 3)]
    replace k_a := k_a.below hb0 k_a.lt
    replace k_b := k_b.below hb0 k_b.lt
    replace k_c := k_c.below hb0 k_c.lt
    have BB := BW_on (BW_alloc (BW_alloc (BW_alloc (Below.refl _ _) _) _) _) hb0
    have c_a := fun i => k_a.cell i
    have c_b := fun i => k_b.cell i
    have c_c := fun i => k_c.cell i
    go_wp2_with fail
    refine (Hab.out _).mono ?_
    rintro e w1 ⟨rfl, hb1⟩
    clear c_a c_b c_c
    replace k_a := k_a.step hb1 (.cells #[.int .u64 (limb S 0), .int .u64 (limb S 1), .int .u64 (limb S 2), .int .u64 (limb S 3)] 26)
    replace k_b := k_b.step hb1 (.cells #[.int .u64 (limb S 0), .int .u64 (limb S 1), .int .u64 (limb S 2), .int .u64 (limb S 3)] 26)
    replace k_c := k_c.step hb1 (.cells #[.int .u64 (limb S 0), .int .u64 (limb S 1), .int .u64 (limb S 2), .int .u64 (limb S 3)] 26)
    have k_s := Blk.new w1 26 #[.int .u64 (limb S 0), .int .u64 (limb S 1), .int .u64 (limb S 2), .int .u64 (limb S 3)]
    replace BB := BW_alloc (BW_on BB hb1) (.cells #[.int .u64 (limb S 0), .int .u64 (limb S 1), .int .u64 (limb S 2), .int .u64 (limb S 3)] 26)
    have c_a := fun i => k_a.cell i
    have c_b := fun i => k_b.cell i
    have c_c := fun i => k_c.cell i
    have c_s := fun i => k_s.cell i
    go_wp2_with fail
    refine (Hba.out _).mono ?_
    rintro e w2 ⟨rfl, hb2⟩
    clear c_a c_b c_c c_s
    replace k_a := k_a.step hb2 (.cells #[.int .u64 (limb S 0), .int .u64 (limb S 1), .int .u64 (limb S 2), .int .u64 (limb S 3)] 26)
    replace k_b := k_b.step hb2 (.cells #[.int .u64 (limb S 0), .int .u64 (limb S 1), .int .u64 (limb S 2), .int .u64 (limb S 3)] 26)
    replace k_c := k_c.step hb2 (.cells #[.int .u64 (limb S 0), .int .u64 (limb S 1), .int .u64 (limb S 2), .int .u64 (limb S 3)] 26)
    replace k_s := k_s.step hb2 (.cells #[.int .u64 (limb S 0), .int .u64 (limb S 1), .int .u64 (limb S 2), .int .u64 (limb S 3)] 26)
    have k_t := Blk.new w2 26 #[.int .u64 (limb S 0), .int .u64 (limb S 1), .int .u64 (limb S 2), .int .u64 (limb S 3)]
    replace BB := BW_alloc (BW_on BB hb2) (.cells #[.int .u64 (limb S 0), .int .u64 (limb S 1), .int .u64 (limb S 2), .int .u64 (limb S 3)] 26)
    have c_a := fun i => k_a.cell i
    have c_b := fun i => k_b.cell i
    have c_c := fun i => k_c.cell i
    have c_s := fun i => k_s.cell i
    have c_t := fun i => k_t.cell i
    have heS := HeS.out
    have heA := HeA.out
    have heU := HeU.out
    go_wp2_with fail
    clear c_a c_b c_c c_s c_t
    have k_l := blk2 w2 (.cells #[.int .u64 (limb S 0), .int .u64 (limb S 1), .int .u64 (limb S 2), .int .u64 (limb S 3)] 26) 26 #[.int .u64 (limb A 0), .int .u64 (limb A 1), .int .u64 (limb A 2), .int .u64 (limb A 3), .int .u64 (limb B 0), .int .u64 (limb B 1), .int .u64 (limb B 2), .int .u64 (limb B 3), .int .u64 (limb C 0), .int .u64 (limb C 1), .int .u64 (limb C 2), .int .u64 (limb C 3)]
    refine (HS1.out _ _ k_l).mono ?_
    rintro e w3 ⟨rfl, hb3⟩
    clear k_l
    replace k_a := (k_a.alloc (.cells #[.int .u64 (limb A 0), .int .u64 (limb A 1), .int .u64 (limb A 2), .int .u64 (limb A 3), .int .u64 (limb B 0), .int .u64 (limb B 1), .int .u64 (limb B 2), .int .u64 (limb B 3), .int .u64 (limb C 0), .int .u64 (limb C 1), .int .u64 (limb C 2), .int .u64 (limb C 3)] 26)).step hb3 (.cells #[.int .u64 (limb U 0), .int .u64 (limb U 1), .int .u64 (limb U 2), .int .u64 (limb U 3)] 26)
    replace k_b := (k_b.alloc (.cells #[.int .u64 (limb A 0), .int .u64 (limb A 1), .int .u64 (limb A 2), .int .u64 (limb A 3), .int .u64 (limb B 0), .int .u64 (limb B 1), .int .u64 (limb B 2), .int .u64 (limb B 3), .int .u64 (limb C 0), .int .u64 (limb C 1), .int .u64 (limb C 2), .int .u64 (limb C 3)] 26)).step hb3 (.cells #[.int .u64 (limb U 0), .int .u64 (limb U 1), .int .u64 (limb U 2), .int .u64 (limb U 3)] 26)
    replace k_c := (k_c.alloc (.cells #[.int .u64 (limb A 0), .int .u64 (limb A 1), .int .u64 (limb A 2), .int .u64 (limb A 3), .int .u64 (limb B 0), .int .u64 (limb B 1), .int .u64 (limb B 2), .int .u64 (limb B 3), .int .u64 (limb C 0), .int .u64 (limb C 1), .int .u64 (limb C 2), .int .u64 (limb C 3)] 26)).step hb3 (.cells #[.int .u64 (limb U 0), .int .u64 (limb U 1), .int .u64 (limb U 2), .int .u64 (limb U 3)] 26)
    replace k_s := (k_s.alloc (.cells #[.int .u64 (limb A 0), .int .u64 (limb A 1), .int .u64 (limb A 2), .int .u64 (limb A 3), .int .u64 (limb B 0), .int .u64 (limb B 1), .int .u64 (limb B 2), .int .u64 (limb B 3), .int .u64 (limb C 0), .int .u64 (limb C 1), .int .u64 (limb C 2), .int .u64 (limb C 3)] 26)).step hb3 (.cells #[.int .u64 (limb U 0), .int .u64 (limb U 1), .int .u64 (limb U 2), .int .u64 (limb U 3)] 26)
    replace k_t := (k_t.alloc (.cells #[.int .u64 (limb A 0), .int .u64 (limb A 1), .int .u64 (limb A 2), .int .u64 (limb A 3), .int .u64 (limb B 0), .int .u64 (limb B 1), .int .u64 (limb B 2), .int .u64 (limb B 3), .int .u64 (limb C 0), .int .u64 (limb C 1), .int .u64 (limb C 2), .int .u64 (limb C 3)] 26)).step hb3 (.cells #[.int .u64 (limb U 0), .int .u64 (limb U 1), .int .u64 (limb U 2), .int .u64 (limb U 3)] 26)
    have k_u := Blk.new w3 26 #[.int .u64 (limb U 0), .int .u64 (limb U 1), .int .u64 (limb U 2), .int .u64 (limb U 3)]
    replace BB := BW_alloc (BW_on (BW_alloc BB (.cells #[.int .u64 (limb A 0), .int .u64 (limb A 1), .int .u64 (limb A 2), .int .u64 (limb A 3), .int .u64 (limb B 0), .int .u64 (limb B 1), .int .u64 (limb B 2), .int .u64 (limb B 3), .int .u64 (limb C 0), .int .u64 (limb C 1), .int .u64 (limb C 2), .int .u64 (limb C 3)] 26)) hb3) (.cells #[.int .u64 (limb U 0), .int .u64 (limb U 1), .int .u64 (limb U 2), .int .u64 (limb U 3)] 26)
    have c_a := fun i => k_a.cell i
    have c_b := fun i => k_b.cell i
    have c_c := fun i => k_c.cell i
    have c_s := fun i => k_s.cell i
    have c_t := fun i => k_t.cell i
    have c_u := fun i => k_u.cell i
    go_wp2_with fail
    clear c_a c_b c_c c_s c_t c_u
    have k_l := blk2 w3 (.cells #[.int .u64 (limb U 0), .int .u64 (limb U 1), .int .u64 (limb U 2), .int .u64 (limb U 3)] 26) 26 #[.int .u64 (limb C 0), .int .u64 (limb C 1), .int .u64 (limb C 2), .int .u64 (limb C 3), .int .u64 (limb A 0), .int .u64 (limb A 1), .int .u64 (limb A 2), .int .u64 (limb A 3), .int .u64 (limb B 0), .int .u64 (limb B 1), .int .u64 (limb B 2), .int .u64 (limb B 3)]
    refine (HS2.out _ _ k_l).mono ?_
    rintro e w4 ⟨rfl, hb4⟩
    clear k_l
    replace k_a := (k_a.alloc (.cells #[.int .u64 (limb C 0), .int .u64 (limb C 1), .int .u64 (limb C 2), .int .u64 (limb C 3), .int .u64 (limb A 0), .int .u64 (limb A 1), .int .u64 (limb A 2), .int .u64 (limb A 3), .int .u64 (limb B 0), .int .u64 (limb B 1), .int .u64 (limb B 2), .int .u64 (limb B 3)] 26)).step hb4 (.cells #[.int .u64 (limb U 0), .int .u64 (limb U 1), .int .u64 (limb U 2), .int .u64 (limb U 3)] 26)
    replace k_b := (k_b.alloc (.cells #[.int .u64 (limb C 0), .int .u64 (limb C 1), .int .u64 (limb C 2), .int .u64 (limb C 3), .int .u64 (limb A 0), .int .u64 (limb A 1), .int .u64 (limb A 2), .int .u64 (limb A 3), .int .u64 (limb B 0), .int .u64 (limb B 1), .int .u64 (limb B 2), .int .u64 (limb B 3)] 26)).step hb4 (.cells #[.int .u64 (limb U 0), .int .u64 (limb U 1), .int .u64 (limb U 2), .int .u64 (limb U 3)] 26)
    replace k_c := (k_c.alloc (.cells #[.int .u64 (limb C 0), .int .u64 (limb C 1), .int .u64 (limb C 2), .int .u64 (limb C 3), .int .u64 (limb A 0), .int .u64 (limb A 1), .int .u64 (limb A 2), .int .u64 (limb A 3), .int .u64 (limb B 0), .int .u64 (limb B 1), .int .u64 (limb B 2), .int .u64 (limb B 3)] 26)).step hb4 (.cells #[.int .u64 (limb U 0), .int .u64 (limb U 1), .int .u64 (limb U 2), .int .u64 (limb U 3)] 26)
    replace k_s := (k_s.alloc (.cells #[.int .u64 (limb C 0), .int .u64 (limb C 1), .int .u64 (limb C 2), .int .u64 (limb C 3), .int .u64 (limb A 0), .int .u64 (limb A 1), .int .u64 (limb A 2), .int .u64 (limb A 3), .int .u64 (limb B 0), .int .u64 (limb B 1), .int .u64 (limb B 2), .int .u64 (limb B 3)] 26)).step hb4 (.cells #[.int .u64 (limb U 0), .int .u64 (limb U 1), .int .u64 (limb U 2), .int .u64 (limb U 3)] 26)
    replace k_t := (k_t.alloc (.cells #[.int .u64 (limb C 0), .int .u64 (limb C 1), .int .u64 (limb C 2), .int .u64 (limb C 3), .int .u64 (limb A 0), .int .u64 (limb A 1), .int .u64 (limb A 2), .int .u64 (limb A 3), .int .u64 (limb B 0), .int .u64 (limb B 1), .int .u64 (limb B 2), .int .u64 (limb B 3)] 26)).step hb4 (.cells #[.int .u64 (limb U 0), .int .u64 (limb U 1), .int .u64 (limb U 2), .int .u64 (limb U 3)] 26)
    replace k_u := (k_u.alloc (.cells #[.int .u64 (limb C 0), .int .u64 (limb C 1), .int .u64 (limb C 2), .int .u64 (limb C 3), .int .u64 (limb A 0), .int .u64 (limb A 1), .int .u64 (limb A 2), .int .u64 (limb A 3), .int .u64 (limb B 0), .int .u64 (limb B 1), .int .u64 (limb B 2), .int .u64 (limb B 3)] 26)).step hb4 (.cells #[.int .u64 (limb U 0), .int .u64 (limb U 1), .int .u64 (limb U 2), .int .u64 (limb U 3)] 26)
    have k_v := Blk.new w4 26 #[.int .u64 (limb U 0), .int .u64 (limb U 1), .int .u64 (limb U 2), .int .u64 (limb U 3)]
    replace BB := BW_alloc (BW_on (BW_alloc BB (.cells #[.int .u64 (limb C 0), .int .u64 (limb C 1), .int .u64 (limb C 2), .int .u64 (limb C 3), .int .u64 (limb A 0), .int .u64 (limb A 1), .int .u64 (limb A 2), .int .u64 (limb A 3), .int .u64 (limb B 0), .int .u64 (limb B 1), .int .u64 (limb B 2), .int .u64 (limb B 3)] 26)) hb4) (.cells #[.int .u64 (limb U 0), .int .u64 (limb U 1), .int .u64 (limb U 2), .int .u64 (limb U 3)] 26)
    have c_a := fun i => k_a.cell i
    have c_b := fun i => k_b.cell i
    have c_c := fun i => k_c.cell i
    have c_s := fun i => k_s.cell i
    have c_t := fun i => k_t.cell i
    have c_u := fun i => k_u.cell i
    have c_v := fun i => k_v.cell i
    go_wp2_with fail
    refine (Hd.out _).mono ?_
    rintro e w5 ⟨rfl, hb5⟩
    clear c_a c_b c_c c_s c_t c_u c_v
    replace k_a := k_a.step hb5 (.cells #[.int .u64 d0, .int .u64 d1, .int .u64 d2, .int .u64 d3] 26)
    replace k_b := k_b.step hb5 (.cells #[.int .u64 d0, .int .u64 d1, .int .u64 d2, .int .u64 d3] 26)
    replace k_c := k_c.step hb5 (.cells #[.int .u64 d0, .int .u64 d1, .int .u64 d2, .int .u64 d3] 26)
    replace k_s := k_s.step hb5 (.cells #[.int .u64 d0, .int .u64 d1, .int .u64 d2, .int .u64 d3] 26)
    replace k_t := k_t.step hb5 (.cells #[.int .u64 d0, .int .u64 d1, .int .u64 d2, .int .u64 d3] 26)
    replace k_u := k_u.step hb5 (.cells #[.int .u64 d0, .int .u64 d1, .int .u64 d2, .int .u64 d3] 26)
    replace k_v := k_v.step hb5 (.cells #[.int .u64 d0, .int .u64 d1, .int .u64 d2, .int .u64 d3] 26)
    have k_w := Blk.new w5 26 #[.int .u64 d0, .int .u64 d1, .int .u64 d2, .int .u64 d3]
    replace BB := BW_alloc (BW_on BB hb5) (.cells #[.int .u64 d0, .int .u64 d1, .int .u64 d2, .int .u64 d3] 26)
    have c_a := fun i => k_a.cell i
    have c_b := fun i => k_b.cell i
    have c_c := fun i => k_c.cell i
    have c_s := fun i => k_s.cell i
    have c_t := fun i => k_t.cell i
    have c_u := fun i => k_u.cell i
    have c_v := fun i => k_v.cell i
    have c_w := fun i => k_w.cell i
    go_wp2_with fail
    refine (HdI.out _).mono ?_
    rintro e w6 ⟨rfl, hb6⟩
    clear c_a c_b c_c c_s c_t c_u c_v c_w
    replace k_a := k_a.step hb6 (.cells #[.int .u64 (limb A 0), .int .u64 (limb A 1), .int .u64 (limb A 2), .int .u64 (limb A 3)] 26)
    replace k_b := k_b.step hb6 (.cells #[.int .u64 (limb A 0), .int .u64 (limb A 1), .int .u64 (limb A 2), .int .u64 (limb A 3)] 26)
    replace k_c := k_c.step hb6 (.cells #[.int .u64 (limb A 0), .int .u64 (limb A 1), .int .u64 (limb A 2), .int .u64 (limb A 3)] 26)
    replace k_s := k_s.step hb6 (.cells #[.int .u64 (limb A 0), .int .u64 (limb A 1), .int .u64 (limb A 2), .int .u64 (limb A 3)] 26)
    replace k_t := k_t.step hb6 (.cells #[.int .u64 (limb A 0), .int .u64 (limb A 1), .int .u64 (limb A 2), .int .u64 (limb A 3)] 26)
    replace k_u := k_u.step hb6 (.cells #[.int .u64 (limb A 0), .int .u64 (limb A 1), .int .u64 (limb A 2), .int .u64 (limb A 3)] 26)
    replace k_v := k_v.step hb6 (.cells #[.int .u64 (limb A 0), .int .u64 (limb A 1), .int .u64 (limb A 2), .int .u64 (limb A 3)] 26)
    replace k_w := k_w.step hb6 (.cells #[.int .u64 (limb A 0), .int .u64 (limb A 1), .int .u64 (limb A 2), .int .u64 (limb A 3)] 26)
    have k_x := Blk.new w6 26 #[.int .u64 (limb A 0), .int .u64 (limb A 1), .int .u64 (limb A 2), .int .u64 (limb A 3)]
    replace BB := BW_alloc (BW_on BB hb6) (.cells #[.int .u64 (limb A 0), .int .u64 (limb A 1), .int .u64 (limb A 2), .int .u64 (limb A 3)] 26)
    have c_a := fun i => k_a.cell i
    have c_b := fun i => k_b.cell i
    have c_c := fun i => k_c.cell i
    have c_s := fun i => k_s.cell i
    have c_t := fun i => k_t.cell i
    have c_u := fun i => k_u.cell i
    have c_v := fun i => k_v.cell i
    have c_w := fun i => k_w.cell i
    have c_x := fun i => k_x.cell i
    go_wp2_with fail
    clear c_a c_b c_c c_s c_t c_u c_v c_w c_x
    generalize hWW : w6.alloc _ = W at *
    replace k_a := k_a.held
    replace k_b := k_b.held
    replace k_c := k_c.held
    replace k_s := k_s.held
    replace k_t := k_t.held
    replace k_u := k_u.held
    replace k_v := k_v.held
    replace k_w := k_w.held
    replace k_x := k_x.held
    clear hWW hb0 hb1 hb2 hb3 hb4 hb5 hb6
    have BB := Lib.hid BB
    go_region_held3 (fun w' => Below W.heap.size W w')
      ((first | exact (Below.refl _ _).drew | assumption | ((refine BW_on ?_ (by assumption)); assumption)))
      (first | (go_at_call 24; (first | ((with_reducible refine (Hc1.out _).mono ?_); rintro e wc1 ⟨rfl, hd1⟩) | ((with_reducible refine (Hc2.out _).mono ?_); rintro e wc2 ⟨rfl, hd2⟩))))
    all_goals (go_wp2_with fail; go_ret; exact ⟨rfl, BW_on BB.out (by assumption)⟩)
  · have HdI := fun w => Hd2.out rfl w
    have HdI := Lib.hid HdI
    clear Hsub Hcs Hd2
    go_enter Try.func8, Try.ntmps8
    go_wp2_with fail
    refine (awake04 _).mono ?_
    rintro e w0 ⟨rfl, hb0⟩
    have k_a := ((blk1 w 26 #[.int .u64 (limb A 0), .int .u64 (limb A 1), .int .u64 (limb A 2), .int .u64 (limb A 3)]).alloc (.cells #[.int .u64 (limb B 0), .int .u64 (limb B 1), .int .u64 (limb B 2), .int .u64 (limb B 3)] 26)).alloc (.cells #[.int .u64 (limb C 0), .int .u64 (limb C 1), .int .u64 (limb C 2), .int .u64 (limb C 3)] 26)
    have k_b := (blk2 w (.cells #[.int .u64 (limb A 0), .int .u64 (limb A 1), .int .u64 (limb A 2), .int .u64 (limb A 3)] 26) 26 #[.int .u64 (limb B 0), .int .u64 (limb B 1), .int .u64 (limb B 2), .int .u64 (limb B 3)]).alloc (.cells #[.int .u64 (limb C 0), .int .u64 (limb C 1), .int .u64 (limb C 2), .int .u64 (limb C 3)] 26)
    have k_c := blk3 w (.cells #[.int .u64 (limb A 0), .int .u64 (limb A 1), .int .u64 (limb A 2), .int .u64 (limb A 3)] 26) (.cells #[.int .u64 (limb B 0), .int .u64 (limb B 1), .int .u64 (limb B 2), .int .u64 (limb B 3)] 26) 26 #[.int .u64 (limb C 0), .int .u64 (limb C 1), .int .u64 (limb C 2), .int .u64 (limb C 3)]
    replace k_a := k_a.below hb0 k_a.lt
    replace k_b := k_b.below hb0 k_b.lt
    replace k_c := k_c.below hb0 k_c.lt
    have BB := BW_on (BW_alloc (BW_alloc (BW_alloc (Below.refl _ _) _) _) _) hb0
    have c_a := fun i => k_a.cell i
    have c_b := fun i => k_b.cell i
    have c_c := fun i => k_c.cell i
    go_wp2_with fail
    refine (Hab.out _).mono ?_
    rintro e w1 ⟨rfl, hb1⟩
    clear c_a c_b c_c
    replace k_a := k_a.step hb1 (.cells #[.int .u64 (limb S 0), .int .u64 (limb S 1), .int .u64 (limb S 2), .int .u64 (limb S 3)] 26)
    replace k_b := k_b.step hb1 (.cells #[.int .u64 (limb S 0), .int .u64 (limb S 1), .int .u64 (limb S 2), .int .u64 (limb S 3)] 26)
    replace k_c := k_c.step hb1 (.cells #[.int .u64 (limb S 0), .int .u64 (limb S 1), .int .u64 (limb S 2), .int .u64 (limb S 3)] 26)
    have k_s := Blk.new w1 26 #[.int .u64 (limb S 0), .int .u64 (limb S 1), .int .u64 (limb S 2), .int .u64 (limb S 3)]
    replace BB := BW_alloc (BW_on BB hb1) (.cells #[.int .u64 (limb S 0), .int .u64 (limb S 1), .int .u64 (limb S 2), .int .u64 (limb S 3)] 26)
    have c_a := fun i => k_a.cell i
    have c_b := fun i => k_b.cell i
    have c_c := fun i => k_c.cell i
    have c_s := fun i => k_s.cell i
    go_wp2_with fail
    refine (Hba.out _).mono ?_
    rintro e w2 ⟨rfl, hb2⟩
    clear c_a c_b c_c c_s
    replace k_a := k_a.step hb2 (.cells #[.int .u64 (limb S 0), .int .u64 (limb S 1), .int .u64 (limb S 2), .int .u64 (limb S 3)] 26)
    replace k_b := k_b.step hb2 (.cells #[.int .u64 (limb S 0), .int .u64 (limb S 1), .int .u64 (limb S 2), .int .u64 (limb S 3)] 26)
    replace k_c := k_c.step hb2 (.cells #[.int .u64 (limb S 0), .int .u64 (limb S 1), .int .u64 (limb S 2), .int .u64 (limb S 3)] 26)
    replace k_s := k_s.step hb2 (.cells #[.int .u64 (limb S 0), .int .u64 (limb S 1), .int .u64 (limb S 2), .int .u64 (limb S 3)] 26)
    have k_t := Blk.new w2 26 #[.int .u64 (limb S 0), .int .u64 (limb S 1), .int .u64 (limb S 2), .int .u64 (limb S 3)]
    replace BB := BW_alloc (BW_on BB hb2) (.cells #[.int .u64 (limb S 0), .int .u64 (limb S 1), .int .u64 (limb S 2), .int .u64 (limb S 3)] 26)
    have c_a := fun i => k_a.cell i
    have c_b := fun i => k_b.cell i
    have c_c := fun i => k_c.cell i
    have c_s := fun i => k_s.cell i
    have c_t := fun i => k_t.cell i
    have heS := HeS.out
    have heA := HeA.out
    have heU := HeU.out
    go_wp2_with fail
    clear c_a c_b c_c c_s c_t
    have k_l := blk2 w2 (.cells #[.int .u64 (limb S 0), .int .u64 (limb S 1), .int .u64 (limb S 2), .int .u64 (limb S 3)] 26) 26 #[.int .u64 (limb A 0), .int .u64 (limb A 1), .int .u64 (limb A 2), .int .u64 (limb A 3), .int .u64 (limb B 0), .int .u64 (limb B 1), .int .u64 (limb B 2), .int .u64 (limb B 3), .int .u64 (limb C 0), .int .u64 (limb C 1), .int .u64 (limb C 2), .int .u64 (limb C 3)]
    refine (HS1.out _ _ k_l).mono ?_
    rintro e w3 ⟨rfl, hb3⟩
    clear k_l
    replace k_a := (k_a.alloc (.cells #[.int .u64 (limb A 0), .int .u64 (limb A 1), .int .u64 (limb A 2), .int .u64 (limb A 3), .int .u64 (limb B 0), .int .u64 (limb B 1), .int .u64 (limb B 2), .int .u64 (limb B 3), .int .u64 (limb C 0), .int .u64 (limb C 1), .int .u64 (limb C 2), .int .u64 (limb C 3)] 26)).step hb3 (.cells #[.int .u64 (limb U 0), .int .u64 (limb U 1), .int .u64 (limb U 2), .int .u64 (limb U 3)] 26)
    replace k_b := (k_b.alloc (.cells #[.int .u64 (limb A 0), .int .u64 (limb A 1), .int .u64 (limb A 2), .int .u64 (limb A 3), .int .u64 (limb B 0), .int .u64 (limb B 1), .int .u64 (limb B 2), .int .u64 (limb B 3), .int .u64 (limb C 0), .int .u64 (limb C 1), .int .u64 (limb C 2), .int .u64 (limb C 3)] 26)).step hb3 (.cells #[.int .u64 (limb U 0), .int .u64 (limb U 1), .int .u64 (limb U 2), .int .u64 (limb U 3)] 26)
    replace k_c := (k_c.alloc (.cells #[.int .u64 (limb A 0), .int .u64 (limb A 1), .int .u64 (limb A 2), .int .u64 (limb A 3), .int .u64 (limb B 0), .int .u64 (limb B 1), .int .u64 (limb B 2), .int .u64 (limb B 3), .int .u64 (limb C 0), .int .u64 (limb C 1), .int .u64 (limb C 2), .int .u64 (limb C 3)] 26)).step hb3 (.cells #[.int .u64 (limb U 0), .int .u64 (limb U 1), .int .u64 (limb U 2), .int .u64 (limb U 3)] 26)
    replace k_s := (k_s.alloc (.cells #[.int .u64 (limb A 0), .int .u64 (limb A 1), .int .u64 (limb A 2), .int .u64 (limb A 3), .int .u64 (limb B 0), .int .u64 (limb B 1), .int .u64 (limb B 2), .int .u64 (limb B 3), .int .u64 (limb C 0), .int .u64 (limb C 1), .int .u64 (limb C 2), .int .u64 (limb C 3)] 26)).step hb3 (.cells #[.int .u64 (limb U 0), .int .u64 (limb U 1), .int .u64 (limb U 2), .int .u64 (limb U 3)] 26)
    replace k_t := (k_t.alloc (.cells #[.int .u64 (limb A 0), .int .u64 (limb A 1), .int .u64 (limb A 2), .int .u64 (limb A 3), .int .u64 (limb B 0), .int .u64 (limb B 1), .int .u64 (limb B 2), .int .u64 (limb B 3), .int .u64 (limb C 0), .int .u64 (limb C 1), .int .u64 (limb C 2), .int .u64 (limb C 3)] 26)).step hb3 (.cells #[.int .u64 (limb U 0), .int .u64 (limb U 1), .int .u64 (limb U 2), .int .u64 (limb U 3)] 26)
    have k_u := Blk.new w3 26 #[.int .u64 (limb U 0), .int .u64 (limb U 1), .int .u64 (limb U 2), .int .u64 (limb U 3)]
    replace BB := BW_alloc (BW_on (BW_alloc BB (.cells #[.int .u64 (limb A 0), .int .u64 (limb A 1), .int .u64 (limb A 2), .int .u64 (limb A 3), .int .u64 (limb B 0), .int .u64 (limb B 1), .int .u64 (limb B 2), .int .u64 (limb B 3), .int .u64 (limb C 0), .int .u64 (limb C 1), .int .u64 (limb C 2), .int .u64 (limb C 3)] 26)) hb3) (.cells #[.int .u64 (limb U 0), .int .u64 (limb U 1), .int .u64 (limb U 2), .int .u64 (limb U 3)] 26)
    have c_a := fun i => k_a.cell i
    have c_b := fun i => k_b.cell i
    have c_c := fun i => k_c.cell i
    have c_s := fun i => k_s.cell i
    have c_t := fun i => k_t.cell i
    have c_u := fun i => k_u.cell i
    go_wp2_with fail
    clear c_a c_b c_c c_s c_t c_u
    have k_l := blk2 w3 (.cells #[.int .u64 (limb U 0), .int .u64 (limb U 1), .int .u64 (limb U 2), .int .u64 (limb U 3)] 26) 26 #[.int .u64 (limb C 0), .int .u64 (limb C 1), .int .u64 (limb C 2), .int .u64 (limb C 3), .int .u64 (limb A 0), .int .u64 (limb A 1), .int .u64 (limb A 2), .int .u64 (limb A 3), .int .u64 (limb B 0), .int .u64 (limb B 1), .int .u64 (limb B 2), .int .u64 (limb B 3)]
    refine (HS2.out _ _ k_l).mono ?_
    rintro e w4 ⟨rfl, hb4⟩
    clear k_l
    replace k_a := (k_a.alloc (.cells #[.int .u64 (limb C 0), .int .u64 (limb C 1), .int .u64 (limb C 2), .int .u64 (limb C 3), .int .u64 (limb A 0), .int .u64 (limb A 1), .int .u64 (limb A 2), .int .u64 (limb A 3), .int .u64 (limb B 0), .int .u64 (limb B 1), .int .u64 (limb B 2), .int .u64 (limb B 3)] 26)).step hb4 (.cells #[.int .u64 (limb U 0), .int .u64 (limb U 1), .int .u64 (limb U 2), .int .u64 (limb U 3)] 26)
    replace k_b := (k_b.alloc (.cells #[.int .u64 (limb C 0), .int .u64 (limb C 1), .int .u64 (limb C 2), .int .u64 (limb C 3), .int .u64 (limb A 0), .int .u64 (limb A 1), .int .u64 (limb A 2), .int .u64 (limb A 3), .int .u64 (limb B 0), .int .u64 (limb B 1), .int .u64 (limb B 2), .int .u64 (limb B 3)] 26)).step hb4 (.cells #[.int .u64 (limb U 0), .int .u64 (limb U 1), .int .u64 (limb U 2), .int .u64 (limb U 3)] 26)
    replace k_c := (k_c.alloc (.cells #[.int .u64 (limb C 0), .int .u64 (limb C 1), .int .u64 (limb C 2), .int .u64 (limb C 3), .int .u64 (limb A 0), .int .u64 (limb A 1), .int .u64 (limb A 2), .int .u64 (limb A 3), .int .u64 (limb B 0), .int .u64 (limb B 1), .int .u64 (limb B 2), .int .u64 (limb B 3)] 26)).step hb4 (.cells #[.int .u64 (limb U 0), .int .u64 (limb U 1), .int .u64 (limb U 2), .int .u64 (limb U 3)] 26)
    replace k_s := (k_s.alloc (.cells #[.int .u64 (limb C 0), .int .u64 (limb C 1), .int .u64 (limb C 2), .int .u64 (limb C 3), .int .u64 (limb A 0), .int .u64 (limb A 1), .int .u64 (limb A 2), .int .u64 (limb A 3), .int .u64 (limb B 0), .int .u64 (limb B 1), .int .u64 (limb B 2), .int .u64 (limb B 3)] 26)).step hb4 (.cells #[.int .u64 (limb U 0), .int .u64 (limb U 1), .int .u64 (limb U 2), .int .u64 (limb U 3)] 26)
    replace k_t := (k_t.alloc (.cells #[.int .u64 (limb C 0), .int .u64 (limb C 1), .int .u64 (limb C 2), .int .u64 (limb C 3), .int .u64 (limb A 0), .int .u64 (limb A 1), .int .u64 (limb A 2), .int .u64 (limb A 3), .int .u64 (limb B 0), .int .u64 (limb B 1), .int .u64 (limb B 2), .int .u64 (limb B 3)] 26)).step hb4 (.cells #[.int .u64 (limb U 0), .int .u64 (limb U 1), .int .u64 (limb U 2), .int .u64 (limb U 3)] 26)
    replace k_u := (k_u.alloc (.cells #[.int .u64 (limb C 0), .int .u64 (limb C 1), .int .u64 (limb C 2), .int .u64 (limb C 3), .int .u64 (limb A 0), .int .u64 (limb A 1), .int .u64 (limb A 2), .int .u64 (limb A 3), .int .u64 (limb B 0), .int .u64 (limb B 1), .int .u64 (limb B 2), .int .u64 (limb B 3)] 26)).step hb4 (.cells #[.int .u64 (limb U 0), .int .u64 (limb U 1), .int .u64 (limb U 2), .int .u64 (limb U 3)] 26)
    have k_v := Blk.new w4 26 #[.int .u64 (limb U 0), .int .u64 (limb U 1), .int .u64 (limb U 2), .int .u64 (limb U 3)]
    replace BB := BW_alloc (BW_on (BW_alloc BB (.cells #[.int .u64 (limb C 0), .int .u64 (limb C 1), .int .u64 (limb C 2), .int .u64 (limb C 3), .int .u64 (limb A 0), .int .u64 (limb A 1), .int .u64 (limb A 2), .int .u64 (limb A 3), .int .u64 (limb B 0), .int .u64 (limb B 1), .int .u64 (limb B 2), .int .u64 (limb B 3)] 26)) hb4) (.cells #[.int .u64 (limb U 0), .int .u64 (limb U 1), .int .u64 (limb U 2), .int .u64 (limb U 3)] 26)
    have c_a := fun i => k_a.cell i
    have c_b := fun i => k_b.cell i
    have c_c := fun i => k_c.cell i
    have c_s := fun i => k_s.cell i
    have c_t := fun i => k_t.cell i
    have c_u := fun i => k_u.cell i
    have c_v := fun i => k_v.cell i
    go_wp2_with fail
    refine (Hd.out _).mono ?_
    rintro e w5 ⟨rfl, hb5⟩
    clear c_a c_b c_c c_s c_t c_u c_v
    replace k_a := k_a.step hb5 (.cells #[.int .u64 d0, .int .u64 d1, .int .u64 d2, .int .u64 d3] 26)
    replace k_b := k_b.step hb5 (.cells #[.int .u64 d0, .int .u64 d1, .int .u64 d2, .int .u64 d3] 26)
    replace k_c := k_c.step hb5 (.cells #[.int .u64 d0, .int .u64 d1, .int .u64 d2, .int .u64 d3] 26)
    replace k_s := k_s.step hb5 (.cells #[.int .u64 d0, .int .u64 d1, .int .u64 d2, .int .u64 d3] 26)
    replace k_t := k_t.step hb5 (.cells #[.int .u64 d0, .int .u64 d1, .int .u64 d2, .int .u64 d3] 26)
    replace k_u := k_u.step hb5 (.cells #[.int .u64 d0, .int .u64 d1, .int .u64 d2, .int .u64 d3] 26)
    replace k_v := k_v.step hb5 (.cells #[.int .u64 d0, .int .u64 d1, .int .u64 d2, .int .u64 d3] 26)
    have k_w := Blk.new w5 26 #[.int .u64 d0, .int .u64 d1, .int .u64 d2, .int .u64 d3]
    replace BB := BW_alloc (BW_on BB hb5) (.cells #[.int .u64 d0, .int .u64 d1, .int .u64 d2, .int .u64 d3] 26)
    have c_a := fun i => k_a.cell i
    have c_b := fun i => k_b.cell i
    have c_c := fun i => k_c.cell i
    have c_s := fun i => k_s.cell i
    have c_t := fun i => k_t.cell i
    have c_u := fun i => k_u.cell i
    have c_v := fun i => k_v.cell i
    have c_w := fun i => k_w.cell i
    go_wp2_with fail
    refine (HdI.out _).mono ?_
    rintro e w6 ⟨rfl, hb6⟩
    clear c_a c_b c_c c_s c_t c_u c_v c_w
    replace k_a := k_a.step hb6 (.cells #[.int .u64 (limb A 0), .int .u64 (limb A 1), .int .u64 (limb A 2), .int .u64 (limb A 3)] 26)
    replace k_b := k_b.step hb6 (.cells #[.int .u64 (limb A 0), .int .u64 (limb A 1), .int .u64 (limb A 2), .int .u64 (limb A 3)] 26)
    replace k_c := k_c.step hb6 (.cells #[.int .u64 (limb A 0), .int .u64 (limb A 1), .int .u64 (limb A 2), .int .u64 (limb A 3)] 26)
    replace k_s := k_s.step hb6 (.cells #[.int .u64 (limb A 0), .int .u64 (limb A 1), .int .u64 (limb A 2), .int .u64 (limb A 3)] 26)
    replace k_t := k_t.step hb6 (.cells #[.int .u64 (limb A 0), .int .u64 (limb A 1), .int .u64 (limb A 2), .int .u64 (limb A 3)] 26)
    replace k_u := k_u.step hb6 (.cells #[.int .u64 (limb A 0), .int .u64 (limb A 1), .int .u64 (limb A 2), .int .u64 (limb A 3)] 26)
    replace k_v := k_v.step hb6 (.cells #[.int .u64 (limb A 0), .int .u64 (limb A 1), .int .u64 (limb A 2), .int .u64 (limb A 3)] 26)
    replace k_w := k_w.step hb6 (.cells #[.int .u64 (limb A 0), .int .u64 (limb A 1), .int .u64 (limb A 2), .int .u64 (limb A 3)] 26)
    have k_x := Blk.new w6 26 #[.int .u64 (limb A 0), .int .u64 (limb A 1), .int .u64 (limb A 2), .int .u64 (limb A 3)]
    replace BB := BW_alloc (BW_on BB hb6) (.cells #[.int .u64 (limb A 0), .int .u64 (limb A 1), .int .u64 (limb A 2), .int .u64 (limb A 3)] 26)
    have c_a := fun i => k_a.cell i
    have c_b := fun i => k_b.cell i
    have c_c := fun i => k_c.cell i
    have c_s := fun i => k_s.cell i
    have c_t := fun i => k_t.cell i
    have c_u := fun i => k_u.cell i
    have c_v := fun i => k_v.cell i
    have c_w := fun i => k_w.cell i
    have c_x := fun i => k_x.cell i
    go_wp2_with fail
    clear c_a c_b c_c c_s c_t c_u c_v c_w c_x
    generalize hWW : w6.alloc _ = W at *
    replace k_a := k_a.held
    replace k_b := k_b.held
    replace k_c := k_c.held
    replace k_s := k_s.held
    replace k_t := k_t.held
    replace k_u := k_u.held
    replace k_v := k_v.held
    replace k_w := k_w.held
    replace k_x := k_x.held
    clear hWW hb0 hb1 hb2 hb3 hb4 hb5 hb6
    have BB := Lib.hid BB
    go_region_held3 (fun w' => Below W.heap.size W w')
      ((first | exact (Below.refl _ _).drew | assumption | ((refine BW_on ?_ (by assumption)); assumption)))
      (first | (go_at_call 24; (first | ((with_reducible refine (Hc1.out _).mono ?_); rintro e wc1 ⟨rfl, hd1⟩) | ((with_reducible refine (Hc2.out _).mono ?_); rintro e wc2 ⟨rfl, hd2⟩))))
    all_goals (go_wp2_with fail; go_ret; exact ⟨rfl, BW_on BB.out (by assumption)⟩)
  · have HsubI := fun w => Hsub.out rfl w
    have HsubI := Lib.hid HsubI
    have HcsI := fun w => Hcs.out rfl w
    have HcsI := Lib.hid HcsI
    clear Hsub Hcs Hd2
    go_enter Try.func8, Try.ntmps8
    go_wp2_with fail
    refine (awake04 _).mono ?_
    rintro e w0 ⟨rfl, hb0⟩
    have k_a := ((blk1 w 26 #[.int .u64 (limb A 0), .int .u64 (limb A 1), .int .u64 (limb A 2), .int .u64 (limb A 3)]).alloc (.cells #[.int .u64 (limb B 0), .int .u64 (limb B 1), .int .u64 (limb B 2), .int .u64 (limb B 3)] 26)).alloc (.cells #[.int .u64 (limb C 0), .int .u64 (limb C 1), .int .u64 (limb C 2), .int .u64 (limb C 3)] 26)
    have k_b := (blk2 w (.cells #[.int .u64 (limb A 0), .int .u64 (limb A 1), .int .u64 (limb A 2), .int .u64 (limb A 3)] 26) 26 #[.int .u64 (limb B 0), .int .u64 (limb B 1), .int .u64 (limb B 2), .int .u64 (limb B 3)]).alloc (.cells #[.int .u64 (limb C 0), .int .u64 (limb C 1), .int .u64 (limb C 2), .int .u64 (limb C 3)] 26)
    have k_c := blk3 w (.cells #[.int .u64 (limb A 0), .int .u64 (limb A 1), .int .u64 (limb A 2), .int .u64 (limb A 3)] 26) (.cells #[.int .u64 (limb B 0), .int .u64 (limb B 1), .int .u64 (limb B 2), .int .u64 (limb B 3)] 26) 26 #[.int .u64 (limb C 0), .int .u64 (limb C 1), .int .u64 (limb C 2), .int .u64 (limb C 3)]
    replace k_a := k_a.below hb0 k_a.lt
    replace k_b := k_b.below hb0 k_b.lt
    replace k_c := k_c.below hb0 k_c.lt
    have BB := BW_on (BW_alloc (BW_alloc (BW_alloc (Below.refl _ _) _) _) _) hb0
    have c_a := fun i => k_a.cell i
    have c_b := fun i => k_b.cell i
    have c_c := fun i => k_c.cell i
    go_wp2_with fail
    refine (Hab.out _).mono ?_
    rintro e w1 ⟨rfl, hb1⟩
    clear c_a c_b c_c
    replace k_a := k_a.step hb1 (.cells #[.int .u64 (limb S 0), .int .u64 (limb S 1), .int .u64 (limb S 2), .int .u64 (limb S 3)] 26)
    replace k_b := k_b.step hb1 (.cells #[.int .u64 (limb S 0), .int .u64 (limb S 1), .int .u64 (limb S 2), .int .u64 (limb S 3)] 26)
    replace k_c := k_c.step hb1 (.cells #[.int .u64 (limb S 0), .int .u64 (limb S 1), .int .u64 (limb S 2), .int .u64 (limb S 3)] 26)
    have k_s := Blk.new w1 26 #[.int .u64 (limb S 0), .int .u64 (limb S 1), .int .u64 (limb S 2), .int .u64 (limb S 3)]
    replace BB := BW_alloc (BW_on BB hb1) (.cells #[.int .u64 (limb S 0), .int .u64 (limb S 1), .int .u64 (limb S 2), .int .u64 (limb S 3)] 26)
    have c_a := fun i => k_a.cell i
    have c_b := fun i => k_b.cell i
    have c_c := fun i => k_c.cell i
    have c_s := fun i => k_s.cell i
    go_wp2_with fail
    refine (Hba.out _).mono ?_
    rintro e w2 ⟨rfl, hb2⟩
    clear c_a c_b c_c c_s
    replace k_a := k_a.step hb2 (.cells #[.int .u64 (limb S 0), .int .u64 (limb S 1), .int .u64 (limb S 2), .int .u64 (limb S 3)] 26)
    replace k_b := k_b.step hb2 (.cells #[.int .u64 (limb S 0), .int .u64 (limb S 1), .int .u64 (limb S 2), .int .u64 (limb S 3)] 26)
    replace k_c := k_c.step hb2 (.cells #[.int .u64 (limb S 0), .int .u64 (limb S 1), .int .u64 (limb S 2), .int .u64 (limb S 3)] 26)
    replace k_s := k_s.step hb2 (.cells #[.int .u64 (limb S 0), .int .u64 (limb S 1), .int .u64 (limb S 2), .int .u64 (limb S 3)] 26)
    have k_t := Blk.new w2 26 #[.int .u64 (limb S 0), .int .u64 (limb S 1), .int .u64 (limb S 2), .int .u64 (limb S 3)]
    replace BB := BW_alloc (BW_on BB hb2) (.cells #[.int .u64 (limb S 0), .int .u64 (limb S 1), .int .u64 (limb S 2), .int .u64 (limb S 3)] 26)
    have c_a := fun i => k_a.cell i
    have c_b := fun i => k_b.cell i
    have c_c := fun i => k_c.cell i
    have c_s := fun i => k_s.cell i
    have c_t := fun i => k_t.cell i
    have heS := HeS.out
    have heA := HeA.out
    have heU := HeU.out
    go_wp2_with fail
    refine (HsubI.out _).mono ?_
    rintro e w3 ⟨rfl, hb3⟩
    clear c_a c_b c_c c_s c_t
    replace k_a := k_a.step hb3 (.cells #[.int .u64 (limb A 0), .int .u64 (limb A 1), .int .u64 (limb A 2), .int .u64 (limb A 3)] 26)
    replace k_b := k_b.step hb3 (.cells #[.int .u64 (limb A 0), .int .u64 (limb A 1), .int .u64 (limb A 2), .int .u64 (limb A 3)] 26)
    replace k_c := k_c.step hb3 (.cells #[.int .u64 (limb A 0), .int .u64 (limb A 1), .int .u64 (limb A 2), .int .u64 (limb A 3)] 26)
    replace k_s := k_s.step hb3 (.cells #[.int .u64 (limb A 0), .int .u64 (limb A 1), .int .u64 (limb A 2), .int .u64 (limb A 3)] 26)
    replace k_t := k_t.step hb3 (.cells #[.int .u64 (limb A 0), .int .u64 (limb A 1), .int .u64 (limb A 2), .int .u64 (limb A 3)] 26)
    have k_d := Blk.new w3 26 #[.int .u64 (limb A 0), .int .u64 (limb A 1), .int .u64 (limb A 2), .int .u64 (limb A 3)]
    replace BB := BW_alloc (BW_on BB hb3) (.cells #[.int .u64 (limb A 0), .int .u64 (limb A 1), .int .u64 (limb A 2), .int .u64 (limb A 3)] 26)
    have c_a := fun i => k_a.cell i
    have c_b := fun i => k_b.cell i
    have c_c := fun i => k_c.cell i
    have c_s := fun i => k_s.cell i
    have c_t := fun i => k_t.cell i
    have c_d := fun i => k_d.cell i
    go_wp2_with fail
    refine (HcsI.out _).mono ?_
    rintro e w4 ⟨rfl, hb4⟩
    clear c_a c_b c_c c_s c_t c_d
    replace k_a := k_a.below hb4 k_a.lt
    replace k_b := k_b.below hb4 k_b.lt
    replace k_c := k_c.below hb4 k_c.lt
    replace k_s := k_s.below hb4 k_s.lt
    replace k_t := k_t.below hb4 k_t.lt
    replace k_d := k_d.below hb4 k_d.lt
    replace BB := BW_on BB hb4
    have c_a := fun i => k_a.cell i
    have c_b := fun i => k_b.cell i
    have c_c := fun i => k_c.cell i
    have c_s := fun i => k_s.cell i
    have c_t := fun i => k_t.cell i
    have c_d := fun i => k_d.cell i
    go_wp2_with fail
    clear c_a c_b c_c c_s c_t c_d
    have k_l := Blk.new w4 26 #[.int .u64 (limb A 0), .int .u64 (limb A 1), .int .u64 (limb A 2), .int .u64 (limb A 3), .int .u64 (limb B 0), .int .u64 (limb B 1), .int .u64 (limb B 2), .int .u64 (limb B 3), .int .u64 (limb C 0), .int .u64 (limb C 1), .int .u64 (limb C 2), .int .u64 (limb C 3)]
    refine (HS1.out _ _ k_l).mono ?_
    rintro e w5 ⟨rfl, hb5⟩
    clear k_l
    replace k_a := (k_a.alloc (.cells #[.int .u64 (limb A 0), .int .u64 (limb A 1), .int .u64 (limb A 2), .int .u64 (limb A 3), .int .u64 (limb B 0), .int .u64 (limb B 1), .int .u64 (limb B 2), .int .u64 (limb B 3), .int .u64 (limb C 0), .int .u64 (limb C 1), .int .u64 (limb C 2), .int .u64 (limb C 3)] 26)).step hb5 (.cells #[.int .u64 (limb U 0), .int .u64 (limb U 1), .int .u64 (limb U 2), .int .u64 (limb U 3)] 26)
    replace k_b := (k_b.alloc (.cells #[.int .u64 (limb A 0), .int .u64 (limb A 1), .int .u64 (limb A 2), .int .u64 (limb A 3), .int .u64 (limb B 0), .int .u64 (limb B 1), .int .u64 (limb B 2), .int .u64 (limb B 3), .int .u64 (limb C 0), .int .u64 (limb C 1), .int .u64 (limb C 2), .int .u64 (limb C 3)] 26)).step hb5 (.cells #[.int .u64 (limb U 0), .int .u64 (limb U 1), .int .u64 (limb U 2), .int .u64 (limb U 3)] 26)
    replace k_c := (k_c.alloc (.cells #[.int .u64 (limb A 0), .int .u64 (limb A 1), .int .u64 (limb A 2), .int .u64 (limb A 3), .int .u64 (limb B 0), .int .u64 (limb B 1), .int .u64 (limb B 2), .int .u64 (limb B 3), .int .u64 (limb C 0), .int .u64 (limb C 1), .int .u64 (limb C 2), .int .u64 (limb C 3)] 26)).step hb5 (.cells #[.int .u64 (limb U 0), .int .u64 (limb U 1), .int .u64 (limb U 2), .int .u64 (limb U 3)] 26)
    replace k_s := (k_s.alloc (.cells #[.int .u64 (limb A 0), .int .u64 (limb A 1), .int .u64 (limb A 2), .int .u64 (limb A 3), .int .u64 (limb B 0), .int .u64 (limb B 1), .int .u64 (limb B 2), .int .u64 (limb B 3), .int .u64 (limb C 0), .int .u64 (limb C 1), .int .u64 (limb C 2), .int .u64 (limb C 3)] 26)).step hb5 (.cells #[.int .u64 (limb U 0), .int .u64 (limb U 1), .int .u64 (limb U 2), .int .u64 (limb U 3)] 26)
    replace k_t := (k_t.alloc (.cells #[.int .u64 (limb A 0), .int .u64 (limb A 1), .int .u64 (limb A 2), .int .u64 (limb A 3), .int .u64 (limb B 0), .int .u64 (limb B 1), .int .u64 (limb B 2), .int .u64 (limb B 3), .int .u64 (limb C 0), .int .u64 (limb C 1), .int .u64 (limb C 2), .int .u64 (limb C 3)] 26)).step hb5 (.cells #[.int .u64 (limb U 0), .int .u64 (limb U 1), .int .u64 (limb U 2), .int .u64 (limb U 3)] 26)
    replace k_d := (k_d.alloc (.cells #[.int .u64 (limb A 0), .int .u64 (limb A 1), .int .u64 (limb A 2), .int .u64 (limb A 3), .int .u64 (limb B 0), .int .u64 (limb B 1), .int .u64 (limb B 2), .int .u64 (limb B 3), .int .u64 (limb C 0), .int .u64 (limb C 1), .int .u64 (limb C 2), .int .u64 (limb C 3)] 26)).step hb5 (.cells #[.int .u64 (limb U 0), .int .u64 (limb U 1), .int .u64 (limb U 2), .int .u64 (limb U 3)] 26)
    have k_u := Blk.new w5 26 #[.int .u64 (limb U 0), .int .u64 (limb U 1), .int .u64 (limb U 2), .int .u64 (limb U 3)]
    replace BB := BW_alloc (BW_on (BW_alloc BB (.cells #[.int .u64 (limb A 0), .int .u64 (limb A 1), .int .u64 (limb A 2), .int .u64 (limb A 3), .int .u64 (limb B 0), .int .u64 (limb B 1), .int .u64 (limb B 2), .int .u64 (limb B 3), .int .u64 (limb C 0), .int .u64 (limb C 1), .int .u64 (limb C 2), .int .u64 (limb C 3)] 26)) hb5) (.cells #[.int .u64 (limb U 0), .int .u64 (limb U 1), .int .u64 (limb U 2), .int .u64 (limb U 3)] 26)
    have c_a := fun i => k_a.cell i
    have c_b := fun i => k_b.cell i
    have c_c := fun i => k_c.cell i
    have c_s := fun i => k_s.cell i
    have c_t := fun i => k_t.cell i
    have c_d := fun i => k_d.cell i
    have c_u := fun i => k_u.cell i
    go_wp2_with fail
    clear c_a c_b c_c c_s c_t c_d c_u
    have k_l := blk2 w5 (.cells #[.int .u64 (limb U 0), .int .u64 (limb U 1), .int .u64 (limb U 2), .int .u64 (limb U 3)] 26) 26 #[.int .u64 (limb C 0), .int .u64 (limb C 1), .int .u64 (limb C 2), .int .u64 (limb C 3), .int .u64 (limb A 0), .int .u64 (limb A 1), .int .u64 (limb A 2), .int .u64 (limb A 3), .int .u64 (limb B 0), .int .u64 (limb B 1), .int .u64 (limb B 2), .int .u64 (limb B 3)]
    refine (HS2.out _ _ k_l).mono ?_
    rintro e w6 ⟨rfl, hb6⟩
    clear k_l
    replace k_a := (k_a.alloc (.cells #[.int .u64 (limb C 0), .int .u64 (limb C 1), .int .u64 (limb C 2), .int .u64 (limb C 3), .int .u64 (limb A 0), .int .u64 (limb A 1), .int .u64 (limb A 2), .int .u64 (limb A 3), .int .u64 (limb B 0), .int .u64 (limb B 1), .int .u64 (limb B 2), .int .u64 (limb B 3)] 26)).step hb6 (.cells #[.int .u64 (limb U 0), .int .u64 (limb U 1), .int .u64 (limb U 2), .int .u64 (limb U 3)] 26)
    replace k_b := (k_b.alloc (.cells #[.int .u64 (limb C 0), .int .u64 (limb C 1), .int .u64 (limb C 2), .int .u64 (limb C 3), .int .u64 (limb A 0), .int .u64 (limb A 1), .int .u64 (limb A 2), .int .u64 (limb A 3), .int .u64 (limb B 0), .int .u64 (limb B 1), .int .u64 (limb B 2), .int .u64 (limb B 3)] 26)).step hb6 (.cells #[.int .u64 (limb U 0), .int .u64 (limb U 1), .int .u64 (limb U 2), .int .u64 (limb U 3)] 26)
    replace k_c := (k_c.alloc (.cells #[.int .u64 (limb C 0), .int .u64 (limb C 1), .int .u64 (limb C 2), .int .u64 (limb C 3), .int .u64 (limb A 0), .int .u64 (limb A 1), .int .u64 (limb A 2), .int .u64 (limb A 3), .int .u64 (limb B 0), .int .u64 (limb B 1), .int .u64 (limb B 2), .int .u64 (limb B 3)] 26)).step hb6 (.cells #[.int .u64 (limb U 0), .int .u64 (limb U 1), .int .u64 (limb U 2), .int .u64 (limb U 3)] 26)
    replace k_s := (k_s.alloc (.cells #[.int .u64 (limb C 0), .int .u64 (limb C 1), .int .u64 (limb C 2), .int .u64 (limb C 3), .int .u64 (limb A 0), .int .u64 (limb A 1), .int .u64 (limb A 2), .int .u64 (limb A 3), .int .u64 (limb B 0), .int .u64 (limb B 1), .int .u64 (limb B 2), .int .u64 (limb B 3)] 26)).step hb6 (.cells #[.int .u64 (limb U 0), .int .u64 (limb U 1), .int .u64 (limb U 2), .int .u64 (limb U 3)] 26)
    replace k_t := (k_t.alloc (.cells #[.int .u64 (limb C 0), .int .u64 (limb C 1), .int .u64 (limb C 2), .int .u64 (limb C 3), .int .u64 (limb A 0), .int .u64 (limb A 1), .int .u64 (limb A 2), .int .u64 (limb A 3), .int .u64 (limb B 0), .int .u64 (limb B 1), .int .u64 (limb B 2), .int .u64 (limb B 3)] 26)).step hb6 (.cells #[.int .u64 (limb U 0), .int .u64 (limb U 1), .int .u64 (limb U 2), .int .u64 (limb U 3)] 26)
    replace k_d := (k_d.alloc (.cells #[.int .u64 (limb C 0), .int .u64 (limb C 1), .int .u64 (limb C 2), .int .u64 (limb C 3), .int .u64 (limb A 0), .int .u64 (limb A 1), .int .u64 (limb A 2), .int .u64 (limb A 3), .int .u64 (limb B 0), .int .u64 (limb B 1), .int .u64 (limb B 2), .int .u64 (limb B 3)] 26)).step hb6 (.cells #[.int .u64 (limb U 0), .int .u64 (limb U 1), .int .u64 (limb U 2), .int .u64 (limb U 3)] 26)
    replace k_u := (k_u.alloc (.cells #[.int .u64 (limb C 0), .int .u64 (limb C 1), .int .u64 (limb C 2), .int .u64 (limb C 3), .int .u64 (limb A 0), .int .u64 (limb A 1), .int .u64 (limb A 2), .int .u64 (limb A 3), .int .u64 (limb B 0), .int .u64 (limb B 1), .int .u64 (limb B 2), .int .u64 (limb B 3)] 26)).step hb6 (.cells #[.int .u64 (limb U 0), .int .u64 (limb U 1), .int .u64 (limb U 2), .int .u64 (limb U 3)] 26)
    have k_v := Blk.new w6 26 #[.int .u64 (limb U 0), .int .u64 (limb U 1), .int .u64 (limb U 2), .int .u64 (limb U 3)]
    replace BB := BW_alloc (BW_on (BW_alloc BB (.cells #[.int .u64 (limb C 0), .int .u64 (limb C 1), .int .u64 (limb C 2), .int .u64 (limb C 3), .int .u64 (limb A 0), .int .u64 (limb A 1), .int .u64 (limb A 2), .int .u64 (limb A 3), .int .u64 (limb B 0), .int .u64 (limb B 1), .int .u64 (limb B 2), .int .u64 (limb B 3)] 26)) hb6) (.cells #[.int .u64 (limb U 0), .int .u64 (limb U 1), .int .u64 (limb U 2), .int .u64 (limb U 3)] 26)
    have c_a := fun i => k_a.cell i
    have c_b := fun i => k_b.cell i
    have c_c := fun i => k_c.cell i
    have c_s := fun i => k_s.cell i
    have c_t := fun i => k_t.cell i
    have c_d := fun i => k_d.cell i
    have c_u := fun i => k_u.cell i
    have c_v := fun i => k_v.cell i
    go_wp2_with fail
    refine (Hd.out _).mono ?_
    rintro e w7 ⟨rfl, hb7⟩
    clear c_a c_b c_c c_s c_t c_d c_u c_v
    replace k_a := k_a.step hb7 (.cells #[.int .u64 d0, .int .u64 d1, .int .u64 d2, .int .u64 d3] 26)
    replace k_b := k_b.step hb7 (.cells #[.int .u64 d0, .int .u64 d1, .int .u64 d2, .int .u64 d3] 26)
    replace k_c := k_c.step hb7 (.cells #[.int .u64 d0, .int .u64 d1, .int .u64 d2, .int .u64 d3] 26)
    replace k_s := k_s.step hb7 (.cells #[.int .u64 d0, .int .u64 d1, .int .u64 d2, .int .u64 d3] 26)
    replace k_t := k_t.step hb7 (.cells #[.int .u64 d0, .int .u64 d1, .int .u64 d2, .int .u64 d3] 26)
    replace k_d := k_d.step hb7 (.cells #[.int .u64 d0, .int .u64 d1, .int .u64 d2, .int .u64 d3] 26)
    replace k_u := k_u.step hb7 (.cells #[.int .u64 d0, .int .u64 d1, .int .u64 d2, .int .u64 d3] 26)
    replace k_v := k_v.step hb7 (.cells #[.int .u64 d0, .int .u64 d1, .int .u64 d2, .int .u64 d3] 26)
    have k_w := Blk.new w7 26 #[.int .u64 d0, .int .u64 d1, .int .u64 d2, .int .u64 d3]
    replace BB := BW_alloc (BW_on BB hb7) (.cells #[.int .u64 d0, .int .u64 d1, .int .u64 d2, .int .u64 d3] 26)
    have c_a := fun i => k_a.cell i
    have c_b := fun i => k_b.cell i
    have c_c := fun i => k_c.cell i
    have c_s := fun i => k_s.cell i
    have c_t := fun i => k_t.cell i
    have c_d := fun i => k_d.cell i
    have c_u := fun i => k_u.cell i
    have c_v := fun i => k_v.cell i
    have c_w := fun i => k_w.cell i
    go_wp2_with fail
    clear c_a c_b c_c c_s c_t c_d c_u c_v c_w
    generalize hWW : w7.alloc _ = W at *
    replace k_a := k_a.held
    replace k_b := k_b.held
    replace k_c := k_c.held
    replace k_s := k_s.held
    replace k_t := k_t.held
    replace k_d := k_d.held
    replace k_u := k_u.held
    replace k_v := k_v.held
    replace k_w := k_w.held
    clear hWW hb0 hb1 hb2 hb3 hb4 hb5 hb6 hb7
    have BB := Lib.hid BB
    go_region_held3 (fun w' => Below W.heap.size W w')
      ((first | exact (Below.refl _ _).drew | assumption | ((refine BW_on ?_ (by assumption)); assumption)))
      (first | (go_at_call 24; (first | ((with_reducible refine (Hc1.out _).mono ?_); rintro e wc1 ⟨rfl, hd1⟩) | ((with_reducible refine (Hc2.out _).mono ?_); rintro e wc2 ⟨rfl, hd2⟩))))
    all_goals (go_wp2_with fail; go_ret; exact ⟨rfl, BW_on BB.out (by assumption)⟩)
  · have HsubI := fun w => Hsub.out rfl w
    have HsubI := Lib.hid HsubI
    have HcsI := fun w => Hcs.out rfl w
    have HcsI := Lib.hid HcsI
    have HdI := fun w => Hd2.out rfl w
    have HdI := Lib.hid HdI
    clear Hsub Hcs Hd2
    go_enter Try.func8, Try.ntmps8
    go_wp2_with fail
    refine (awake04 _).mono ?_
    rintro e w0 ⟨rfl, hb0⟩
    have k_a := ((blk1 w 26 #[.int .u64 (limb A 0), .int .u64 (limb A 1), .int .u64 (limb A 2), .int .u64 (limb A 3)]).alloc (.cells #[.int .u64 (limb B 0), .int .u64 (limb B 1), .int .u64 (limb B 2), .int .u64 (limb B 3)] 26)).alloc (.cells #[.int .u64 (limb C 0), .int .u64 (limb C 1), .int .u64 (limb C 2), .int .u64 (limb C 3)] 26)
    have k_b := (blk2 w (.cells #[.int .u64 (limb A 0), .int .u64 (limb A 1), .int .u64 (limb A 2), .int .u64 (limb A 3)] 26) 26 #[.int .u64 (limb B 0), .int .u64 (limb B 1), .int .u64 (limb B 2), .int .u64 (limb B 3)]).alloc (.cells #[.int .u64 (limb C 0), .int .u64 (limb C 1), .int .u64 (limb C 2), .int .u64 (limb C 3)] 26)
    have k_c := blk3 w (.cells #[.int .u64 (limb A 0), .int .u64 (limb A 1), .int .u64 (limb A 2), .int .u64 (limb A 3)] 26) (.cells #[.int .u64 (limb B 0), .int .u64 (limb B 1), .int .u64 (limb B 2), .int .u64 (limb B 3)] 26) 26 #[.int .u64 (limb C 0), .int .u64 (limb C 1), .int .u64 (limb C 2), .int .u64 (limb C 3)]
    replace k_a := k_a.below hb0 k_a.lt
    replace k_b := k_b.below hb0 k_b.lt
    replace k_c := k_c.below hb0 k_c.lt
    have BB := BW_on (BW_alloc (BW_alloc (BW_alloc (Below.refl _ _) _) _) _) hb0
    have c_a := fun i => k_a.cell i
    have c_b := fun i => k_b.cell i
    have c_c := fun i => k_c.cell i
    go_wp2_with fail
    refine (Hab.out _).mono ?_
    rintro e w1 ⟨rfl, hb1⟩
    clear c_a c_b c_c
    replace k_a := k_a.step hb1 (.cells #[.int .u64 (limb S 0), .int .u64 (limb S 1), .int .u64 (limb S 2), .int .u64 (limb S 3)] 26)
    replace k_b := k_b.step hb1 (.cells #[.int .u64 (limb S 0), .int .u64 (limb S 1), .int .u64 (limb S 2), .int .u64 (limb S 3)] 26)
    replace k_c := k_c.step hb1 (.cells #[.int .u64 (limb S 0), .int .u64 (limb S 1), .int .u64 (limb S 2), .int .u64 (limb S 3)] 26)
    have k_s := Blk.new w1 26 #[.int .u64 (limb S 0), .int .u64 (limb S 1), .int .u64 (limb S 2), .int .u64 (limb S 3)]
    replace BB := BW_alloc (BW_on BB hb1) (.cells #[.int .u64 (limb S 0), .int .u64 (limb S 1), .int .u64 (limb S 2), .int .u64 (limb S 3)] 26)
    have c_a := fun i => k_a.cell i
    have c_b := fun i => k_b.cell i
    have c_c := fun i => k_c.cell i
    have c_s := fun i => k_s.cell i
    go_wp2_with fail
    refine (Hba.out _).mono ?_
    rintro e w2 ⟨rfl, hb2⟩
    clear c_a c_b c_c c_s
    replace k_a := k_a.step hb2 (.cells #[.int .u64 (limb S 0), .int .u64 (limb S 1), .int .u64 (limb S 2), .int .u64 (limb S 3)] 26)
    replace k_b := k_b.step hb2 (.cells #[.int .u64 (limb S 0), .int .u64 (limb S 1), .int .u64 (limb S 2), .int .u64 (limb S 3)] 26)
    replace k_c := k_c.step hb2 (.cells #[.int .u64 (limb S 0), .int .u64 (limb S 1), .int .u64 (limb S 2), .int .u64 (limb S 3)] 26)
    replace k_s := k_s.step hb2 (.cells #[.int .u64 (limb S 0), .int .u64 (limb S 1), .int .u64 (limb S 2), .int .u64 (limb S 3)] 26)
    have k_t := Blk.new w2 26 #[.int .u64 (limb S 0), .int .u64 (limb S 1), .int .u64 (limb S 2), .int .u64 (limb S 3)]
    replace BB := BW_alloc (BW_on BB hb2) (.cells #[.int .u64 (limb S 0), .int .u64 (limb S 1), .int .u64 (limb S 2), .int .u64 (limb S 3)] 26)
    have c_a := fun i => k_a.cell i
    have c_b := fun i => k_b.cell i
    have c_c := fun i => k_c.cell i
    have c_s := fun i => k_s.cell i
    have c_t := fun i => k_t.cell i
    have heS := HeS.out
    have heA := HeA.out
    have heU := HeU.out
    go_wp2_with fail
    refine (HsubI.out _).mono ?_
    rintro e w3 ⟨rfl, hb3⟩
    clear c_a c_b c_c c_s c_t
    replace k_a := k_a.step hb3 (.cells #[.int .u64 (limb A 0), .int .u64 (limb A 1), .int .u64 (limb A 2), .int .u64 (limb A 3)] 26)
    replace k_b := k_b.step hb3 (.cells #[.int .u64 (limb A 0), .int .u64 (limb A 1), .int .u64 (limb A 2), .int .u64 (limb A 3)] 26)
    replace k_c := k_c.step hb3 (.cells #[.int .u64 (limb A 0), .int .u64 (limb A 1), .int .u64 (limb A 2), .int .u64 (limb A 3)] 26)
    replace k_s := k_s.step hb3 (.cells #[.int .u64 (limb A 0), .int .u64 (limb A 1), .int .u64 (limb A 2), .int .u64 (limb A 3)] 26)
    replace k_t := k_t.step hb3 (.cells #[.int .u64 (limb A 0), .int .u64 (limb A 1), .int .u64 (limb A 2), .int .u64 (limb A 3)] 26)
    have k_d := Blk.new w3 26 #[.int .u64 (limb A 0), .int .u64 (limb A 1), .int .u64 (limb A 2), .int .u64 (limb A 3)]
    replace BB := BW_alloc (BW_on BB hb3) (.cells #[.int .u64 (limb A 0), .int .u64 (limb A 1), .int .u64 (limb A 2), .int .u64 (limb A 3)] 26)
    have c_a := fun i => k_a.cell i
    have c_b := fun i => k_b.cell i
    have c_c := fun i => k_c.cell i
    have c_s := fun i => k_s.cell i
    have c_t := fun i => k_t.cell i
    have c_d := fun i => k_d.cell i
    go_wp2_with fail
    refine (HcsI.out _).mono ?_
    rintro e w4 ⟨rfl, hb4⟩
    clear c_a c_b c_c c_s c_t c_d
    replace k_a := k_a.below hb4 k_a.lt
    replace k_b := k_b.below hb4 k_b.lt
    replace k_c := k_c.below hb4 k_c.lt
    replace k_s := k_s.below hb4 k_s.lt
    replace k_t := k_t.below hb4 k_t.lt
    replace k_d := k_d.below hb4 k_d.lt
    replace BB := BW_on BB hb4
    have c_a := fun i => k_a.cell i
    have c_b := fun i => k_b.cell i
    have c_c := fun i => k_c.cell i
    have c_s := fun i => k_s.cell i
    have c_t := fun i => k_t.cell i
    have c_d := fun i => k_d.cell i
    go_wp2_with fail
    clear c_a c_b c_c c_s c_t c_d
    have k_l := Blk.new w4 26 #[.int .u64 (limb A 0), .int .u64 (limb A 1), .int .u64 (limb A 2), .int .u64 (limb A 3), .int .u64 (limb B 0), .int .u64 (limb B 1), .int .u64 (limb B 2), .int .u64 (limb B 3), .int .u64 (limb C 0), .int .u64 (limb C 1), .int .u64 (limb C 2), .int .u64 (limb C 3)]
    refine (HS1.out _ _ k_l).mono ?_
    rintro e w5 ⟨rfl, hb5⟩
    clear k_l
    replace k_a := (k_a.alloc (.cells #[.int .u64 (limb A 0), .int .u64 (limb A 1), .int .u64 (limb A 2), .int .u64 (limb A 3), .int .u64 (limb B 0), .int .u64 (limb B 1), .int .u64 (limb B 2), .int .u64 (limb B 3), .int .u64 (limb C 0), .int .u64 (limb C 1), .int .u64 (limb C 2), .int .u64 (limb C 3)] 26)).step hb5 (.cells #[.int .u64 (limb U 0), .int .u64 (limb U 1), .int .u64 (limb U 2), .int .u64 (limb U 3)] 26)
    replace k_b := (k_b.alloc (.cells #[.int .u64 (limb A 0), .int .u64 (limb A 1), .int .u64 (limb A 2), .int .u64 (limb A 3), .int .u64 (limb B 0), .int .u64 (limb B 1), .int .u64 (limb B 2), .int .u64 (limb B 3), .int .u64 (limb C 0), .int .u64 (limb C 1), .int .u64 (limb C 2), .int .u64 (limb C 3)] 26)).step hb5 (.cells #[.int .u64 (limb U 0), .int .u64 (limb U 1), .int .u64 (limb U 2), .int .u64 (limb U 3)] 26)
    replace k_c := (k_c.alloc (.cells #[.int .u64 (limb A 0), .int .u64 (limb A 1), .int .u64 (limb A 2), .int .u64 (limb A 3), .int .u64 (limb B 0), .int .u64 (limb B 1), .int .u64 (limb B 2), .int .u64 (limb B 3), .int .u64 (limb C 0), .int .u64 (limb C 1), .int .u64 (limb C 2), .int .u64 (limb C 3)] 26)).step hb5 (.cells #[.int .u64 (limb U 0), .int .u64 (limb U 1), .int .u64 (limb U 2), .int .u64 (limb U 3)] 26)
    replace k_s := (k_s.alloc (.cells #[.int .u64 (limb A 0), .int .u64 (limb A 1), .int .u64 (limb A 2), .int .u64 (limb A 3), .int .u64 (limb B 0), .int .u64 (limb B 1), .int .u64 (limb B 2), .int .u64 (limb B 3), .int .u64 (limb C 0), .int .u64 (limb C 1), .int .u64 (limb C 2), .int .u64 (limb C 3)] 26)).step hb5 (.cells #[.int .u64 (limb U 0), .int .u64 (limb U 1), .int .u64 (limb U 2), .int .u64 (limb U 3)] 26)
    replace k_t := (k_t.alloc (.cells #[.int .u64 (limb A 0), .int .u64 (limb A 1), .int .u64 (limb A 2), .int .u64 (limb A 3), .int .u64 (limb B 0), .int .u64 (limb B 1), .int .u64 (limb B 2), .int .u64 (limb B 3), .int .u64 (limb C 0), .int .u64 (limb C 1), .int .u64 (limb C 2), .int .u64 (limb C 3)] 26)).step hb5 (.cells #[.int .u64 (limb U 0), .int .u64 (limb U 1), .int .u64 (limb U 2), .int .u64 (limb U 3)] 26)
    replace k_d := (k_d.alloc (.cells #[.int .u64 (limb A 0), .int .u64 (limb A 1), .int .u64 (limb A 2), .int .u64 (limb A 3), .int .u64 (limb B 0), .int .u64 (limb B 1), .int .u64 (limb B 2), .int .u64 (limb B 3), .int .u64 (limb C 0), .int .u64 (limb C 1), .int .u64 (limb C 2), .int .u64 (limb C 3)] 26)).step hb5 (.cells #[.int .u64 (limb U 0), .int .u64 (limb U 1), .int .u64 (limb U 2), .int .u64 (limb U 3)] 26)
    have k_u := Blk.new w5 26 #[.int .u64 (limb U 0), .int .u64 (limb U 1), .int .u64 (limb U 2), .int .u64 (limb U 3)]
    replace BB := BW_alloc (BW_on (BW_alloc BB (.cells #[.int .u64 (limb A 0), .int .u64 (limb A 1), .int .u64 (limb A 2), .int .u64 (limb A 3), .int .u64 (limb B 0), .int .u64 (limb B 1), .int .u64 (limb B 2), .int .u64 (limb B 3), .int .u64 (limb C 0), .int .u64 (limb C 1), .int .u64 (limb C 2), .int .u64 (limb C 3)] 26)) hb5) (.cells #[.int .u64 (limb U 0), .int .u64 (limb U 1), .int .u64 (limb U 2), .int .u64 (limb U 3)] 26)
    have c_a := fun i => k_a.cell i
    have c_b := fun i => k_b.cell i
    have c_c := fun i => k_c.cell i
    have c_s := fun i => k_s.cell i
    have c_t := fun i => k_t.cell i
    have c_d := fun i => k_d.cell i
    have c_u := fun i => k_u.cell i
    go_wp2_with fail
    clear c_a c_b c_c c_s c_t c_d c_u
    have k_l := blk2 w5 (.cells #[.int .u64 (limb U 0), .int .u64 (limb U 1), .int .u64 (limb U 2), .int .u64 (limb U 3)] 26) 26 #[.int .u64 (limb C 0), .int .u64 (limb C 1), .int .u64 (limb C 2), .int .u64 (limb C 3), .int .u64 (limb A 0), .int .u64 (limb A 1), .int .u64 (limb A 2), .int .u64 (limb A 3), .int .u64 (limb B 0), .int .u64 (limb B 1), .int .u64 (limb B 2), .int .u64 (limb B 3)]
    refine (HS2.out _ _ k_l).mono ?_
    rintro e w6 ⟨rfl, hb6⟩
    clear k_l
    replace k_a := (k_a.alloc (.cells #[.int .u64 (limb C 0), .int .u64 (limb C 1), .int .u64 (limb C 2), .int .u64 (limb C 3), .int .u64 (limb A 0), .int .u64 (limb A 1), .int .u64 (limb A 2), .int .u64 (limb A 3), .int .u64 (limb B 0), .int .u64 (limb B 1), .int .u64 (limb B 2), .int .u64 (limb B 3)] 26)).step hb6 (.cells #[.int .u64 (limb U 0), .int .u64 (limb U 1), .int .u64 (limb U 2), .int .u64 (limb U 3)] 26)
    replace k_b := (k_b.alloc (.cells #[.int .u64 (limb C 0), .int .u64 (limb C 1), .int .u64 (limb C 2), .int .u64 (limb C 3), .int .u64 (limb A 0), .int .u64 (limb A 1), .int .u64 (limb A 2), .int .u64 (limb A 3), .int .u64 (limb B 0), .int .u64 (limb B 1), .int .u64 (limb B 2), .int .u64 (limb B 3)] 26)).step hb6 (.cells #[.int .u64 (limb U 0), .int .u64 (limb U 1), .int .u64 (limb U 2), .int .u64 (limb U 3)] 26)
    replace k_c := (k_c.alloc (.cells #[.int .u64 (limb C 0), .int .u64 (limb C 1), .int .u64 (limb C 2), .int .u64 (limb C 3), .int .u64 (limb A 0), .int .u64 (limb A 1), .int .u64 (limb A 2), .int .u64 (limb A 3), .int .u64 (limb B 0), .int .u64 (limb B 1), .int .u64 (limb B 2), .int .u64 (limb B 3)] 26)).step hb6 (.cells #[.int .u64 (limb U 0), .int .u64 (limb U 1), .int .u64 (limb U 2), .int .u64 (limb U 3)] 26)
    replace k_s := (k_s.alloc (.cells #[.int .u64 (limb C 0), .int .u64 (limb C 1), .int .u64 (limb C 2), .int .u64 (limb C 3), .int .u64 (limb A 0), .int .u64 (limb A 1), .int .u64 (limb A 2), .int .u64 (limb A 3), .int .u64 (limb B 0), .int .u64 (limb B 1), .int .u64 (limb B 2), .int .u64 (limb B 3)] 26)).step hb6 (.cells #[.int .u64 (limb U 0), .int .u64 (limb U 1), .int .u64 (limb U 2), .int .u64 (limb U 3)] 26)
    replace k_t := (k_t.alloc (.cells #[.int .u64 (limb C 0), .int .u64 (limb C 1), .int .u64 (limb C 2), .int .u64 (limb C 3), .int .u64 (limb A 0), .int .u64 (limb A 1), .int .u64 (limb A 2), .int .u64 (limb A 3), .int .u64 (limb B 0), .int .u64 (limb B 1), .int .u64 (limb B 2), .int .u64 (limb B 3)] 26)).step hb6 (.cells #[.int .u64 (limb U 0), .int .u64 (limb U 1), .int .u64 (limb U 2), .int .u64 (limb U 3)] 26)
    replace k_d := (k_d.alloc (.cells #[.int .u64 (limb C 0), .int .u64 (limb C 1), .int .u64 (limb C 2), .int .u64 (limb C 3), .int .u64 (limb A 0), .int .u64 (limb A 1), .int .u64 (limb A 2), .int .u64 (limb A 3), .int .u64 (limb B 0), .int .u64 (limb B 1), .int .u64 (limb B 2), .int .u64 (limb B 3)] 26)).step hb6 (.cells #[.int .u64 (limb U 0), .int .u64 (limb U 1), .int .u64 (limb U 2), .int .u64 (limb U 3)] 26)
    replace k_u := (k_u.alloc (.cells #[.int .u64 (limb C 0), .int .u64 (limb C 1), .int .u64 (limb C 2), .int .u64 (limb C 3), .int .u64 (limb A 0), .int .u64 (limb A 1), .int .u64 (limb A 2), .int .u64 (limb A 3), .int .u64 (limb B 0), .int .u64 (limb B 1), .int .u64 (limb B 2), .int .u64 (limb B 3)] 26)).step hb6 (.cells #[.int .u64 (limb U 0), .int .u64 (limb U 1), .int .u64 (limb U 2), .int .u64 (limb U 3)] 26)
    have k_v := Blk.new w6 26 #[.int .u64 (limb U 0), .int .u64 (limb U 1), .int .u64 (limb U 2), .int .u64 (limb U 3)]
    replace BB := BW_alloc (BW_on (BW_alloc BB (.cells #[.int .u64 (limb C 0), .int .u64 (limb C 1), .int .u64 (limb C 2), .int .u64 (limb C 3), .int .u64 (limb A 0), .int .u64 (limb A 1), .int .u64 (limb A 2), .int .u64 (limb A 3), .int .u64 (limb B 0), .int .u64 (limb B 1), .int .u64 (limb B 2), .int .u64 (limb B 3)] 26)) hb6) (.cells #[.int .u64 (limb U 0), .int .u64 (limb U 1), .int .u64 (limb U 2), .int .u64 (limb U 3)] 26)
    have c_a := fun i => k_a.cell i
    have c_b := fun i => k_b.cell i
    have c_c := fun i => k_c.cell i
    have c_s := fun i => k_s.cell i
    have c_t := fun i => k_t.cell i
    have c_d := fun i => k_d.cell i
    have c_u := fun i => k_u.cell i
    have c_v := fun i => k_v.cell i
    go_wp2_with fail
    refine (Hd.out _).mono ?_
    rintro e w7 ⟨rfl, hb7⟩
    clear c_a c_b c_c c_s c_t c_d c_u c_v
    replace k_a := k_a.step hb7 (.cells #[.int .u64 d0, .int .u64 d1, .int .u64 d2, .int .u64 d3] 26)
    replace k_b := k_b.step hb7 (.cells #[.int .u64 d0, .int .u64 d1, .int .u64 d2, .int .u64 d3] 26)
    replace k_c := k_c.step hb7 (.cells #[.int .u64 d0, .int .u64 d1, .int .u64 d2, .int .u64 d3] 26)
    replace k_s := k_s.step hb7 (.cells #[.int .u64 d0, .int .u64 d1, .int .u64 d2, .int .u64 d3] 26)
    replace k_t := k_t.step hb7 (.cells #[.int .u64 d0, .int .u64 d1, .int .u64 d2, .int .u64 d3] 26)
    replace k_d := k_d.step hb7 (.cells #[.int .u64 d0, .int .u64 d1, .int .u64 d2, .int .u64 d3] 26)
    replace k_u := k_u.step hb7 (.cells #[.int .u64 d0, .int .u64 d1, .int .u64 d2, .int .u64 d3] 26)
    replace k_v := k_v.step hb7 (.cells #[.int .u64 d0, .int .u64 d1, .int .u64 d2, .int .u64 d3] 26)
    have k_w := Blk.new w7 26 #[.int .u64 d0, .int .u64 d1, .int .u64 d2, .int .u64 d3]
    replace BB := BW_alloc (BW_on BB hb7) (.cells #[.int .u64 d0, .int .u64 d1, .int .u64 d2, .int .u64 d3] 26)
    have c_a := fun i => k_a.cell i
    have c_b := fun i => k_b.cell i
    have c_c := fun i => k_c.cell i
    have c_s := fun i => k_s.cell i
    have c_t := fun i => k_t.cell i
    have c_d := fun i => k_d.cell i
    have c_u := fun i => k_u.cell i
    have c_v := fun i => k_v.cell i
    have c_w := fun i => k_w.cell i
    go_wp2_with fail
    refine (HdI.out _).mono ?_
    rintro e w8 ⟨rfl, hb8⟩
    clear c_a c_b c_c c_s c_t c_d c_u c_v c_w
    replace k_a := k_a.step hb8 (.cells #[.int .u64 (limb A 0), .int .u64 (limb A 1), .int .u64 (limb A 2), .int .u64 (limb A 3)] 26)
    replace k_b := k_b.step hb8 (.cells #[.int .u64 (limb A 0), .int .u64 (limb A 1), .int .u64 (limb A 2), .int .u64 (limb A 3)] 26)
    replace k_c := k_c.step hb8 (.cells #[.int .u64 (limb A 0), .int .u64 (limb A 1), .int .u64 (limb A 2), .int .u64 (limb A 3)] 26)
    replace k_s := k_s.step hb8 (.cells #[.int .u64 (limb A 0), .int .u64 (limb A 1), .int .u64 (limb A 2), .int .u64 (limb A 3)] 26)
    replace k_t := k_t.step hb8 (.cells #[.int .u64 (limb A 0), .int .u64 (limb A 1), .int .u64 (limb A 2), .int .u64 (limb A 3)] 26)
    replace k_d := k_d.step hb8 (.cells #[.int .u64 (limb A 0), .int .u64 (limb A 1), .int .u64 (limb A 2), .int .u64 (limb A 3)] 26)
    replace k_u := k_u.step hb8 (.cells #[.int .u64 (limb A 0), .int .u64 (limb A 1), .int .u64 (limb A 2), .int .u64 (limb A 3)] 26)
    replace k_v := k_v.step hb8 (.cells #[.int .u64 (limb A 0), .int .u64 (limb A 1), .int .u64 (limb A 2), .int .u64 (limb A 3)] 26)
    replace k_w := k_w.step hb8 (.cells #[.int .u64 (limb A 0), .int .u64 (limb A 1), .int .u64 (limb A 2), .int .u64 (limb A 3)] 26)
    have k_x := Blk.new w8 26 #[.int .u64 (limb A 0), .int .u64 (limb A 1), .int .u64 (limb A 2), .int .u64 (limb A 3)]
    replace BB := BW_alloc (BW_on BB hb8) (.cells #[.int .u64 (limb A 0), .int .u64 (limb A 1), .int .u64 (limb A 2), .int .u64 (limb A 3)] 26)
    have c_a := fun i => k_a.cell i
    have c_b := fun i => k_b.cell i
    have c_c := fun i => k_c.cell i
    have c_s := fun i => k_s.cell i
    have c_t := fun i => k_t.cell i
    have c_d := fun i => k_d.cell i
    have c_u := fun i => k_u.cell i
    have c_v := fun i => k_v.cell i
    have c_w := fun i => k_w.cell i
    have c_x := fun i => k_x.cell i
    go_wp2_with fail
    clear c_a c_b c_c c_s c_t c_d c_u c_v c_w c_x
    generalize hWW : w8.alloc _ = W at *
    replace k_a := k_a.held
    replace k_b := k_b.held
    replace k_c := k_c.held
    replace k_s := k_s.held
    replace k_t := k_t.held
    replace k_d := k_d.held
    replace k_u := k_u.held
    replace k_v := k_v.held
    replace k_w := k_w.held
    replace k_x := k_x.held
    clear hWW hb0 hb1 hb2 hb3 hb4 hb5 hb6 hb7 hb8
    have BB := Lib.hid BB
    go_region_held3 (fun w' => Below W.heap.size W w')
      ((first | exact (Below.refl _ _).drew | assumption | ((refine BW_on ?_ (by assumption)); assumption)))
      (first | (go_at_call 24; (first | ((with_reducible refine (Hc1.out _).mono ?_); rintro e wc1 ⟨rfl, hd1⟩) | ((with_reducible refine (Hc2.out _).mono ?_); rintro e wc2 ⟨rfl, hd2⟩))))
    all_goals (go_wp2_with fail; go_ret; exact ⟨rfl, BW_on BB.out (by assumption)⟩)
  · have HsubI := fun w => Hsub.out rfl w
    have HsubI := Lib.hid HsubI
    have HcsI := fun w => Hcs.out rfl w
    have HcsI := Lib.hid HcsI
    have HdI := fun w => Hd2.out rfl w
    have HdI := Lib.hid HdI
    clear Hsub Hcs Hd2
    go_enter Try.func8, Try.ntmps8
    go_wp2_with fail
    refine (awake04 _).mono ?_
    rintro e w0 ⟨rfl, hb0⟩
    have k_a := ((blk1 w 26 #[.int .u64 (limb A 0), .int .u64 (limb A 1), .int .u64 (limb A 2), .int .u64 (limb A 3)]).alloc (.cells #[.int .u64 (limb B 0), .int .u64 (limb B 1), .int .u64 (limb B 2), .int .u64 (limb B 3)] 26)).alloc (.cells #[.int .u64 (limb C 0), .int .u64 (limb C 1), .int .u64 (limb C 2), .int .u64 (limb C 3)] 26)
    have k_b := (blk2 w (.cells #[.int .u64 (limb A 0), .int .u64 (limb A 1), .int .u64 (limb A 2), .int .u64 (limb A 3)] 26) 26 #[.int .u64 (limb B 0), .int .u64 (limb B 1), .int .u64 (limb B 2), .int .u64 (limb B 3)]).alloc (.cells #[.int .u64 (limb C 0), .int .u64 (limb C 1), .int .u64 (limb C 2), .int .u64 (limb C 3)] 26)
    have k_c := blk3 w (.cells #[.int .u64 (limb A 0), .int .u64 (limb A 1), .int .u64 (limb A 2), .int .u64 (limb A 3)] 26) (.cells #[.int .u64 (limb B 0), .int .u64 (limb B 1), .int .u64 (limb B 2), .int .u64 (limb B 3)] 26) 26 #[.int .u64 (limb C 0), .int .u64 (limb C 1), .int .u64 (limb C 2), .int .u64 (limb C 3)]
    replace k_a := k_a.below hb0 k_a.lt
    replace k_b := k_b.below hb0 k_b.lt
    replace k_c := k_c.below hb0 k_c.lt
    have BB := BW_on (BW_alloc (BW_alloc (BW_alloc (Below.refl _ _) _) _) _) hb0
    have c_a := fun i => k_a.cell i
    have c_b := fun i => k_b.cell i
    have c_c := fun i => k_c.cell i
    go_wp2_with fail
    refine (Hab.out _).mono ?_
    rintro e w1 ⟨rfl, hb1⟩
    clear c_a c_b c_c
    replace k_a := k_a.step hb1 (.cells #[.int .u64 (limb S 0), .int .u64 (limb S 1), .int .u64 (limb S 2), .int .u64 (limb S 3)] 26)
    replace k_b := k_b.step hb1 (.cells #[.int .u64 (limb S 0), .int .u64 (limb S 1), .int .u64 (limb S 2), .int .u64 (limb S 3)] 26)
    replace k_c := k_c.step hb1 (.cells #[.int .u64 (limb S 0), .int .u64 (limb S 1), .int .u64 (limb S 2), .int .u64 (limb S 3)] 26)
    have k_s := Blk.new w1 26 #[.int .u64 (limb S 0), .int .u64 (limb S 1), .int .u64 (limb S 2), .int .u64 (limb S 3)]
    replace BB := BW_alloc (BW_on BB hb1) (.cells #[.int .u64 (limb S 0), .int .u64 (limb S 1), .int .u64 (limb S 2), .int .u64 (limb S 3)] 26)
    have c_a := fun i => k_a.cell i
    have c_b := fun i => k_b.cell i
    have c_c := fun i => k_c.cell i
    have c_s := fun i => k_s.cell i
    go_wp2_with fail
    refine (Hba.out _).mono ?_
    rintro e w2 ⟨rfl, hb2⟩
    clear c_a c_b c_c c_s
    replace k_a := k_a.step hb2 (.cells #[.int .u64 (limb S 0), .int .u64 (limb S 1), .int .u64 (limb S 2), .int .u64 (limb S 3)] 26)
    replace k_b := k_b.step hb2 (.cells #[.int .u64 (limb S 0), .int .u64 (limb S 1), .int .u64 (limb S 2), .int .u64 (limb S 3)] 26)
    replace k_c := k_c.step hb2 (.cells #[.int .u64 (limb S 0), .int .u64 (limb S 1), .int .u64 (limb S 2), .int .u64 (limb S 3)] 26)
    replace k_s := k_s.step hb2 (.cells #[.int .u64 (limb S 0), .int .u64 (limb S 1), .int .u64 (limb S 2), .int .u64 (limb S 3)] 26)
    have k_t := Blk.new w2 26 #[.int .u64 (limb S 0), .int .u64 (limb S 1), .int .u64 (limb S 2), .int .u64 (limb S 3)]
    replace BB := BW_alloc (BW_on BB hb2) (.cells #[.int .u64 (limb S 0), .int .u64 (limb S 1), .int .u64 (limb S 2), .int .u64 (limb S 3)] 26)
    have c_a := fun i => k_a.cell i
    have c_b := fun i => k_b.cell i
    have c_c := fun i => k_c.cell i
    have c_s := fun i => k_s.cell i
    have c_t := fun i => k_t.cell i
    have heS := HeS.out
    have heA := HeA.out
    have heU := HeU.out
    go_wp2_with fail
    refine (HsubI.out _).mono ?_
    rintro e w3 ⟨rfl, hb3⟩
    clear c_a c_b c_c c_s c_t
    replace k_a := k_a.step hb3 (.cells #[.int .u64 (limb A 0), .int .u64 (limb A 1), .int .u64 (limb A 2), .int .u64 (limb A 3)] 26)
    replace k_b := k_b.step hb3 (.cells #[.int .u64 (limb A 0), .int .u64 (limb A 1), .int .u64 (limb A 2), .int .u64 (limb A 3)] 26)
    replace k_c := k_c.step hb3 (.cells #[.int .u64 (limb A 0), .int .u64 (limb A 1), .int .u64 (limb A 2), .int .u64 (limb A 3)] 26)
    replace k_s := k_s.step hb3 (.cells #[.int .u64 (limb A 0), .int .u64 (limb A 1), .int .u64 (limb A 2), .int .u64 (limb A 3)] 26)
    replace k_t := k_t.step hb3 (.cells #[.int .u64 (limb A 0), .int .u64 (limb A 1), .int .u64 (limb A 2), .int .u64 (limb A 3)] 26)
    have k_d := Blk.new w3 26 #[.int .u64 (limb A 0), .int .u64 (limb A 1), .int .u64 (limb A 2), .int .u64 (limb A 3)]
    replace BB := BW_alloc (BW_on BB hb3) (.cells #[.int .u64 (limb A 0), .int .u64 (limb A 1), .int .u64 (limb A 2), .int .u64 (limb A 3)] 26)
    have c_a := fun i => k_a.cell i
    have c_b := fun i => k_b.cell i
    have c_c := fun i => k_c.cell i
    have c_s := fun i => k_s.cell i
    have c_t := fun i => k_t.cell i
    have c_d := fun i => k_d.cell i
    go_wp2_with fail
    refine (HcsI.out _).mono ?_
    rintro e w4 ⟨rfl, hb4⟩
    clear c_a c_b c_c c_s c_t c_d
    replace k_a := k_a.below hb4 k_a.lt
    replace k_b := k_b.below hb4 k_b.lt
    replace k_c := k_c.below hb4 k_c.lt
    replace k_s := k_s.below hb4 k_s.lt
    replace k_t := k_t.below hb4 k_t.lt
    replace k_d := k_d.below hb4 k_d.lt
    replace BB := BW_on BB hb4
    have c_a := fun i => k_a.cell i
    have c_b := fun i => k_b.cell i
    have c_c := fun i => k_c.cell i
    have c_s := fun i => k_s.cell i
    have c_t := fun i => k_t.cell i
    have c_d := fun i => k_d.cell i
    go_wp2_with fail
    clear c_a c_b c_c c_s c_t c_d
    have k_l := Blk.new w4 26 #[.int .u64 (limb A 0), .int .u64 (limb A 1), .int .u64 (limb A 2), .int .u64 (limb A 3), .int .u64 (limb B 0), .int .u64 (limb B 1), .int .u64 (limb B 2), .int .u64 (limb B 3), .int .u64 (limb C 0), .int .u64 (limb C 1), .int .u64 (limb C 2), .int .u64 (limb C 3)]
    refine (HS1.out _ _ k_l).mono ?_
    rintro e w5 ⟨rfl, hb5⟩
    clear k_l
    replace k_a := (k_a.alloc (.cells #[.int .u64 (limb A 0), .int .u64 (limb A 1), .int .u64 (limb A 2), .int .u64 (limb A 3), .int .u64 (limb B 0), .int .u64 (limb B 1), .int .u64 (limb B 2), .int .u64 (limb B 3), .int .u64 (limb C 0), .int .u64 (limb C 1), .int .u64 (limb C 2), .int .u64 (limb C 3)] 26)).step hb5 (.cells #[.int .u64 (limb U 0), .int .u64 (limb U 1), .int .u64 (limb U 2), .int .u64 (limb U 3)] 26)
    replace k_b := (k_b.alloc (.cells #[.int .u64 (limb A 0), .int .u64 (limb A 1), .int .u64 (limb A 2), .int .u64 (limb A 3), .int .u64 (limb B 0), .int .u64 (limb B 1), .int .u64 (limb B 2), .int .u64 (limb B 3), .int .u64 (limb C 0), .int .u64 (limb C 1), .int .u64 (limb C 2), .int .u64 (limb C 3)] 26)).step hb5 (.cells #[.int .u64 (limb U 0), .int .u64 (limb U 1), .int .u64 (limb U 2), .int .u64 (limb U 3)] 26)
    replace k_c := (k_c.alloc (.cells #[.int .u64 (limb A 0), .int .u64 (limb A 1), .int .u64 (limb A 2), .int .u64 (limb A 3), .int .u64 (limb B 0), .int .u64 (limb B 1), .int .u64 (limb B 2), .int .u64 (limb B 3), .int .u64 (limb C 0), .int .u64 (limb C 1), .int .u64 (limb C 2), .int .u64 (limb C 3)] 26)).step hb5 (.cells #[.int .u64 (limb U 0), .int .u64 (limb U 1), .int .u64 (limb U 2), .int .u64 (limb U 3)] 26)
    replace k_s := (k_s.alloc (.cells #[.int .u64 (limb A 0), .int .u64 (limb A 1), .int .u64 (limb A 2), .int .u64 (limb A 3), .int .u64 (limb B 0), .int .u64 (limb B 1), .int .u64 (limb B 2), .int .u64 (limb B 3), .int .u64 (limb C 0), .int .u64 (limb C 1), .int .u64 (limb C 2), .int .u64 (limb C 3)] 26)).step hb5 (.cells #[.int .u64 (limb U 0), .int .u64 (limb U 1), .int .u64 (limb U 2), .int .u64 (limb U 3)] 26)
    replace k_t := (k_t.alloc (.cells #[.int .u64 (limb A 0), .int .u64 (limb A 1), .int .u64 (limb A 2), .int .u64 (limb A 3), .int .u64 (limb B 0), .int .u64 (limb B 1), .int .u64 (limb B 2), .int .u64 (limb B 3), .int .u64 (limb C 0), .int .u64 (limb C 1), .int .u64 (limb C 2), .int .u64 (limb C 3)] 26)).step hb5 (.cells #[.int .u64 (limb U 0), .int .u64 (limb U 1), .int .u64 (limb U 2), .int .u64 (limb U 3)] 26)
    replace k_d := (k_d.alloc (.cells #[.int .u64 (limb A 0), .int .u64 (limb A 1), .int .u64 (limb A 2), .int .u64 (limb A 3), .int .u64 (limb B 0), .int .u64 (limb B 1), .int .u64 (limb B 2), .int .u64 (limb B 3), .int .u64 (limb C 0), .int .u64 (limb C 1), .int .u64 (limb C 2), .int .u64 (limb C 3)] 26)).step hb5 (.cells #[.int .u64 (limb U 0), .int .u64 (limb U 1), .int .u64 (limb U 2), .int .u64 (limb U 3)] 26)
    have k_u := Blk.new w5 26 #[.int .u64 (limb U 0), .int .u64 (limb U 1), .int .u64 (limb U 2), .int .u64 (limb U 3)]
    replace BB := BW_alloc (BW_on (BW_alloc BB (.cells #[.int .u64 (limb A 0), .int .u64 (limb A 1), .int .u64 (limb A 2), .int .u64 (limb A 3), .int .u64 (limb B 0), .int .u64 (limb B 1), .int .u64 (limb B 2), .int .u64 (limb B 3), .int .u64 (limb C 0), .int .u64 (limb C 1), .int .u64 (limb C 2), .int .u64 (limb C 3)] 26)) hb5) (.cells #[.int .u64 (limb U 0), .int .u64 (limb U 1), .int .u64 (limb U 2), .int .u64 (limb U 3)] 26)
    have c_a := fun i => k_a.cell i
    have c_b := fun i => k_b.cell i
    have c_c := fun i => k_c.cell i
    have c_s := fun i => k_s.cell i
    have c_t := fun i => k_t.cell i
    have c_d := fun i => k_d.cell i
    have c_u := fun i => k_u.cell i
    go_wp2_with fail
    clear c_a c_b c_c c_s c_t c_d c_u
    have k_l := blk2 w5 (.cells #[.int .u64 (limb U 0), .int .u64 (limb U 1), .int .u64 (limb U 2), .int .u64 (limb U 3)] 26) 26 #[.int .u64 (limb C 0), .int .u64 (limb C 1), .int .u64 (limb C 2), .int .u64 (limb C 3), .int .u64 (limb A 0), .int .u64 (limb A 1), .int .u64 (limb A 2), .int .u64 (limb A 3), .int .u64 (limb B 0), .int .u64 (limb B 1), .int .u64 (limb B 2), .int .u64 (limb B 3)]
    refine (HS2.out _ _ k_l).mono ?_
    rintro e w6 ⟨rfl, hb6⟩
    clear k_l
    replace k_a := (k_a.alloc (.cells #[.int .u64 (limb C 0), .int .u64 (limb C 1), .int .u64 (limb C 2), .int .u64 (limb C 3), .int .u64 (limb A 0), .int .u64 (limb A 1), .int .u64 (limb A 2), .int .u64 (limb A 3), .int .u64 (limb B 0), .int .u64 (limb B 1), .int .u64 (limb B 2), .int .u64 (limb B 3)] 26)).step hb6 (.cells #[.int .u64 (limb U 0), .int .u64 (limb U 1), .int .u64 (limb U 2), .int .u64 (limb U 3)] 26)
    replace k_b := (k_b.alloc (.cells #[.int .u64 (limb C 0), .int .u64 (limb C 1), .int .u64 (limb C 2), .int .u64 (limb C 3), .int .u64 (limb A 0), .int .u64 (limb A 1), .int .u64 (limb A 2), .int .u64 (limb A 3), .int .u64 (limb B 0), .int .u64 (limb B 1), .int .u64 (limb B 2), .int .u64 (limb B 3)] 26)).step hb6 (.cells #[.int .u64 (limb U 0), .int .u64 (limb U 1), .int .u64 (limb U 2), .int .u64 (limb U 3)] 26)
    replace k_c := (k_c.alloc (.cells #[.int .u64 (limb C 0), .int .u64 (limb C 1), .int .u64 (limb C 2), .int .u64 (limb C 3), .int .u64 (limb A 0), .int .u64 (limb A 1), .int .u64 (limb A 2), .int .u64 (limb A 3), .int .u64 (limb B 0), .int .u64 (limb B 1), .int .u64 (limb B 2), .int .u64 (limb B 3)] 26)).step hb6 (.cells #[.int .u64 (limb U 0), .int .u64 (limb U 1), .int .u64 (limb U 2), .int .u64 (limb U 3)] 26)
    replace k_s := (k_s.alloc (.cells #[.int .u64 (limb C 0), .int .u64 (limb C 1), .int .u64 (limb C 2), .int .u64 (limb C 3), .int .u64 (limb A 0), .int .u64 (limb A 1), .int .u64 (limb A 2), .int .u64 (limb A 3), .int .u64 (limb B 0), .int .u64 (limb B 1), .int .u64 (limb B 2), .int .u64 (limb B 3)] 26)).step hb6 (.cells #[.int .u64 (limb U 0), .int .u64 (limb U 1), .int .u64 (limb U 2), .int .u64 (limb U 3)] 26)
    replace k_t := (k_t.alloc (.cells #[.int .u64 (limb C 0), .int .u64 (limb C 1), .int .u64 (limb C 2), .int .u64 (limb C 3), .int .u64 (limb A 0), .int .u64 (limb A 1), .int .u64 (limb A 2), .int .u64 (limb A 3), .int .u64 (limb B 0), .int .u64 (limb B 1), .int .u64 (limb B 2), .int .u64 (limb B 3)] 26)).step hb6 (.cells #[.int .u64 (limb U 0), .int .u64 (limb U 1), .int .u64 (limb U 2), .int .u64 (limb U 3)] 26)
    replace k_d := (k_d.alloc (.cells #[.int .u64 (limb C 0), .int .u64 (limb C 1), .int .u64 (limb C 2), .int .u64 (limb C 3), .int .u64 (limb A 0), .int .u64 (limb A 1), .int .u64 (limb A 2), .int .u64 (limb A 3), .int .u64 (limb B 0), .int .u64 (limb B 1), .int .u64 (limb B 2), .int .u64 (limb B 3)] 26)).step hb6 (.cells #[.int .u64 (limb U 0), .int .u64 (limb U 1), .int .u64 (limb U 2), .int .u64 (limb U 3)] 26)
    replace k_u := (k_u.alloc (.cells #[.int .u64 (limb C 0), .int .u64 (limb C 1), .int .u64 (limb C 2), .int .u64 (limb C 3), .int .u64 (limb A 0), .int .u64 (limb A 1), .int .u64 (limb A 2), .int .u64 (limb A 3), .int .u64 (limb B 0), .int .u64 (limb B 1), .int .u64 (limb B 2), .int .u64 (limb B 3)] 26)).step hb6 (.cells #[.int .u64 (limb U 0), .int .u64 (limb U 1), .int .u64 (limb U 2), .int .u64 (limb U 3)] 26)
    have k_v := Blk.new w6 26 #[.int .u64 (limb U 0), .int .u64 (limb U 1), .int .u64 (limb U 2), .int .u64 (limb U 3)]
    replace BB := BW_alloc (BW_on (BW_alloc BB (.cells #[.int .u64 (limb C 0), .int .u64 (limb C 1), .int .u64 (limb C 2), .int .u64 (limb C 3), .int .u64 (limb A 0), .int .u64 (limb A 1), .int .u64 (limb A 2), .int .u64 (limb A 3), .int .u64 (limb B 0), .int .u64 (limb B 1), .int .u64 (limb B 2), .int .u64 (limb B 3)] 26)) hb6) (.cells #[.int .u64 (limb U 0), .int .u64 (limb U 1), .int .u64 (limb U 2), .int .u64 (limb U 3)] 26)
    have c_a := fun i => k_a.cell i
    have c_b := fun i => k_b.cell i
    have c_c := fun i => k_c.cell i
    have c_s := fun i => k_s.cell i
    have c_t := fun i => k_t.cell i
    have c_d := fun i => k_d.cell i
    have c_u := fun i => k_u.cell i
    have c_v := fun i => k_v.cell i
    go_wp2_with fail
    refine (Hd.out _).mono ?_
    rintro e w7 ⟨rfl, hb7⟩
    clear c_a c_b c_c c_s c_t c_d c_u c_v
    replace k_a := k_a.step hb7 (.cells #[.int .u64 d0, .int .u64 d1, .int .u64 d2, .int .u64 d3] 26)
    replace k_b := k_b.step hb7 (.cells #[.int .u64 d0, .int .u64 d1, .int .u64 d2, .int .u64 d3] 26)
    replace k_c := k_c.step hb7 (.cells #[.int .u64 d0, .int .u64 d1, .int .u64 d2, .int .u64 d3] 26)
    replace k_s := k_s.step hb7 (.cells #[.int .u64 d0, .int .u64 d1, .int .u64 d2, .int .u64 d3] 26)
    replace k_t := k_t.step hb7 (.cells #[.int .u64 d0, .int .u64 d1, .int .u64 d2, .int .u64 d3] 26)
    replace k_d := k_d.step hb7 (.cells #[.int .u64 d0, .int .u64 d1, .int .u64 d2, .int .u64 d3] 26)
    replace k_u := k_u.step hb7 (.cells #[.int .u64 d0, .int .u64 d1, .int .u64 d2, .int .u64 d3] 26)
    replace k_v := k_v.step hb7 (.cells #[.int .u64 d0, .int .u64 d1, .int .u64 d2, .int .u64 d3] 26)
    have k_w := Blk.new w7 26 #[.int .u64 d0, .int .u64 d1, .int .u64 d2, .int .u64 d3]
    replace BB := BW_alloc (BW_on BB hb7) (.cells #[.int .u64 d0, .int .u64 d1, .int .u64 d2, .int .u64 d3] 26)
    have c_a := fun i => k_a.cell i
    have c_b := fun i => k_b.cell i
    have c_c := fun i => k_c.cell i
    have c_s := fun i => k_s.cell i
    have c_t := fun i => k_t.cell i
    have c_d := fun i => k_d.cell i
    have c_u := fun i => k_u.cell i
    have c_v := fun i => k_v.cell i
    have c_w := fun i => k_w.cell i
    go_wp2_with fail
    refine (HdI.out _).mono ?_
    rintro e w8 ⟨rfl, hb8⟩
    clear c_a c_b c_c c_s c_t c_d c_u c_v c_w
    replace k_a := k_a.step hb8 (.cells #[.int .u64 (limb A 0), .int .u64 (limb A 1), .int .u64 (limb A 2), .int .u64 (limb A 3)] 26)
    replace k_b := k_b.step hb8 (.cells #[.int .u64 (limb A 0), .int .u64 (limb A 1), .int .u64 (limb A 2), .int .u64 (limb A 3)] 26)
    replace k_c := k_c.step hb8 (.cells #[.int .u64 (limb A 0), .int .u64 (limb A 1), .int .u64 (limb A 2), .int .u64 (limb A 3)] 26)
    replace k_s := k_s.step hb8 (.cells #[.int .u64 (limb A 0), .int .u64 (limb A 1), .int .u64 (limb A 2), .int .u64 (limb A 3)] 26)
    replace k_t := k_t.step hb8 (.cells #[.int .u64 (limb A 0), .int .u64 (limb A 1), .int .u64 (limb A 2), .int .u64 (limb A 3)] 26)
    replace k_d := k_d.step hb8 (.cells #[.int .u64 (limb A 0), .int .u64 (limb A 1), .int .u64 (limb A 2), .int .u64 (limb A 3)] 26)
    replace k_u := k_u.step hb8 (.cells #[.int .u64 (limb A 0), .int .u64 (limb A 1), .int .u64 (limb A 2), .int .u64 (limb A 3)] 26)
    replace k_v := k_v.step hb8 (.cells #[.int .u64 (limb A 0), .int .u64 (limb A 1), .int .u64 (limb A 2), .int .u64 (limb A 3)] 26)
    replace k_w := k_w.step hb8 (.cells #[.int .u64 (limb A 0), .int .u64 (limb A 1), .int .u64 (limb A 2), .int .u64 (limb A 3)] 26)
    have k_x := Blk.new w8 26 #[.int .u64 (limb A 0), .int .u64 (limb A 1), .int .u64 (limb A 2), .int .u64 (limb A 3)]
    replace BB := BW_alloc (BW_on BB hb8) (.cells #[.int .u64 (limb A 0), .int .u64 (limb A 1), .int .u64 (limb A 2), .int .u64 (limb A 3)] 26)
    have c_a := fun i => k_a.cell i
    have c_b := fun i => k_b.cell i
    have c_c := fun i => k_c.cell i
    have c_s := fun i => k_s.cell i
    have c_t := fun i => k_t.cell i
    have c_d := fun i => k_d.cell i
    have c_u := fun i => k_u.cell i
    have c_v := fun i => k_v.cell i
    have c_w := fun i => k_w.cell i
    have c_x := fun i => k_x.cell i
    go_wp2_with fail
    clear c_a c_b c_c c_s c_t c_d c_u c_v c_w c_x
    generalize hWW : w8.alloc _ = W at *
    replace k_a := k_a.held
    replace k_b := k_b.held
    replace k_c := k_c.held
    replace k_s := k_s.held
    replace k_t := k_t.held
    replace k_d := k_d.held
    replace k_u := k_u.held
    replace k_v := k_v.held
    replace k_w := k_w.held
    replace k_x := k_x.held
    clear hWW hb0 hb1 hb2 hb3 hb4 hb5 hb6 hb7 hb8
    have BB := Lib.hid BB
    go_region_held3 (fun w' => Below W.heap.size W w')
      ((first | exact (Below.refl _ _).drew | assumption | ((refine BW_on ?_ (by assumption)); assumption)))
      (first | (go_at_call 24; (first | ((with_reducible refine (Hc1.out _).mono ?_); rintro e wc1 ⟨rfl, hd1⟩) | ((with_reducible refine (Hc2.out _).mono ?_); rintro e wc2 ⟨rfl, hd2⟩))))
    all_goals (go_wp2_with fail; go_ret; exact ⟨rfl, BW_on BB.out (by assumption)⟩)
end Go.Proofs.Ytibemleodghhfaa
