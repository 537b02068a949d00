/- Contract of the library: math.bits.Div64. -/
import Derived.Test.YtibemleodghhfaaRows
import Derived.Test.YtibemleodghhfaaKitA
import Derived.Test.YtibemleodghhfaaWd7
import Derived.Test.YtibemleodghhfaaShelf
import Derived.WalkKit
import Derived.WalkSpells
import Derived.WalkLawsBesides
import Derived.Deep.QuietTactic
import Derived.BigQuiet
import Derived.BigRegion
import Derived.Deep.DrawnRows
import Derived.Outline
namespace Go.Proofs.Ytibemleodghhfaa
open Go.RowKit
attribute [local go_sem ↓] Go.wp_at_zero Go.wp_at_succ
set_option maxHeartbeats 1000000 in
theorem div64_zero (lo y : Nat) (hy0 : 0 < y) (hy : y < 18446744073709551616) (hl : lo < 18446744073709551616) (w : World) :
    Calls Try.prog 39 #[.int .u64 0, .int .u64 (lo : Int), .int .u64 (y : Int)] w fun e w' => e = .returned (.tuple #[.int .u64 ((lo / y : Nat) : Int), .int .u64 ((lo % y : Nat) : Int)]) ∧ ∃ q, w' = w.drewN q := by
  have h1 : ((y : Int) == 0) = false := by simp; omega
  have h2 : ¬ ((y : Int) ≤ 0) := by omega
  go_enter Try.func39, Try.ntmps39
  go_wp2_with fail
  go_region
  go_wp2_with fail
  go_ret2
  have e1 : IntKind.u64.wrap ((lo : Int) / (y : Int)) = ((lo / y : Nat) : Int) := by
    have := Nat.div_le_self lo y
    rw [← Int.natCast_ediv]
    exact wrap_nat _ (by omega)
  exact ⟨by rw [← e1]; rfl, 1, rfl⟩

theorem quo_rule (u y1 : Nat) (hu : u < 18446744073709551616) : IntKind.u64.wrap ((u : Int) / (y1 : Int)) = ((u / y1 : Nat) : Int) := by
  have := Nat.div_le_self u y1
  rw [← Int.natCast_ediv]
  exact wrap_nat _ (by omega)
theorem rem_rule (u y1 : Nat) (hu : u < 18446744073709551616) : IntKind.u64.wrap ((u : Int) - IntKind.u64.wrap (((u / y1 : Nat) : Int) * (y1 : Int))) = ((u - u / y1 * y1 : Nat) : Int) := by
  have h := Nat.div_mul_le_self u y1
  rw [← Int.natCast_mul, wrap_nat _ (by omega), ← Int.ofNat_sub h]
  exact wrap_nat _ (by omega)
theorem prod_rule (q y0 : Nat) (hq : q < 4294967296) (hy : y0 < 4294967296) : IntKind.u64.wrap ((q : Int) * (y0 : Int)) = ((q * y0 : Nat) : Int) := by
  have := Nat.mul_le_mul (show q ≤ 4294967295 by omega) (show y0 ≤ 4294967295 by omega)
  rw [← Int.natCast_mul]
  exact wrap_nat _ (by omega)
theorem rest_rule (u x q Y : Nat) (hY : 0 < Y) (hY2 : Y < 18446744073709551616) (hq : q = (u * 4294967296 + x) / Y) :
    IntKind.u64.wrap (IntKind.u64.wrap (IntKind.u64.wrap ((u : Int) * 4294967296) + (x : Int)) - IntKind.u64.wrap ((q : Int) * (Y : Int))) = (((u * 4294967296 + x) % Y : Nat) : Int) := by
  have h := rest_wrap u x Y hY hY2
  rw [← hq] at h
  rw [← h]
  simp only [IntKind.wrap_u64]
  generalize (q : Int) * (Y : Int) = z
  omega
theorem sum_rule (a b : Nat) (h : a * 4294967296 + b < 18446744073709551616) : IntKind.u64.wrap (IntKind.u64.wrap ((a : Int) * 4294967296) + (b : Int)) = ((a * 4294967296 + b : Nat) : Int) := by
  simp only [IntKind.wrap_u64]
  omega
def RelG (u x Y : Nat) (a b : Value) : Prop := ∃ q r : Nat, a = .int .u64 (q : Int) ∧ b = .int .u64 (r : Int) ∧ (r : Int) < 4294967296 ∧ Hid (Guess u x Y q r)
def mz (b : Value) : Nat := (8589934592 - intOf b).toNat
theorem fin_q2 {a b c : Int} (h : IntKind.u64.wrap (IntKind.u64.wrap a + b) = c) : IntKind.u64.wrap (a + b) = c := by
  rw [IntKind.wrap_u64, IntKind.wrap_u64] at h
  rw [IntKind.wrap_u64]
  omega
theorem div_fin (hi lo y s Y u L x1 x0 : Nat) (eY : Y = y * 2 ^ s) (eu : u * 18446744073709551616 + L = (hi * 18446744073709551616 + lo) * 2 ^ s) (eL : L = x1 * 4294967296 + x0) (hY : 0 < Y) :
    (u * 4294967296 + x1) / Y * 4294967296 + ((u * 4294967296 + x1) % Y * 4294967296 + x0) / Y = (hi * 18446744073709551616 + lo) / y ∧
    ((u * 4294967296 + x1) % Y * 4294967296 + x0) % Y / 2 ^ s = (hi * 18446744073709551616 + lo) % y := by
  obtain ⟨a, b⟩ := quo_two u x0 x1 Y hY
  obtain ⟨c, d⟩ := shift_quo (hi * 18446744073709551616 + lo) y s
  rw [a, b, ← eL, eu, eY]
  exact ⟨c, d⟩
theorem fin_q {hi lo y s Y u L x1 x0 u2 qa qb : Nat} (eY : Y = y * 2 ^ s) (eu : u * 18446744073709551616 + L = (hi * 18446744073709551616 + lo) * 2 ^ s) (eL : L = x1 * 4294967296 + x0) (hY : 0 < Y)
    (hh : hi < y) (hy : y < 18446744073709551616) (hl : lo < 18446744073709551616) (ha : qa = (u * 4294967296 + x1) / Y) (hu : (u * 4294967296 + x1) % Y = u2) (hb : qb = (u2 * 4294967296 + x0) / Y) :
    IntKind.u64.wrap (IntKind.u64.wrap ((qa : Int) * 4294967296) + (qb : Int)) = (((hi * 18446744073709551616 + lo) / y : Nat) : Int) := by
  have h := (div_fin hi lo y s Y u L x1 x0 eY eu eL hY).1
  rw [hu, ← ha, ← hb] at h
  have h2 : (hi * 18446744073709551616 + lo) / y < 18446744073709551616 := by
    rw [Nat.div_lt_iff_lt_mul (by omega)]
    have := Nat.mul_le_mul_right 18446744073709551616 (show hi + 1 ≤ y from hh)
    omega
  rw [← h] at h2
  rw [sum_rule qa qb h2, h]
theorem fin_r {hi lo y s Y u L x1 x0 u2 : Nat} (eY : Y = y * 2 ^ s) (eu : u * 18446744073709551616 + L = (hi * 18446744073709551616 + lo) * 2 ^ s) (eL : L = x1 * 4294967296 + x0) (hY : 0 < Y)
    (hu : (u * 4294967296 + x1) % Y = u2) : (((u2 * 4294967296 + x0) % Y : Nat) : Int) / 2 ^ s = (((hi * 18446744073709551616 + lo) % y : Nat) : Int) := by
  have h := (div_fin hi lo y s Y u L x1 x0 eY eu eL hY).2
  rw [hu] at h
  rw [← h]
  simp
set_option maxRecDepth 100000 in
set_option maxHeartbeats 8000000 in
theorem div64_aux (hi lo y resq resr : Nat) (HQ : Hid ((hi * 18446744073709551616 + lo) / y = resq)) (HR : Hid ((hi * 18446744073709551616 + lo) % y = resr)) (hh : 0 < hi) (hhy : hi < y) (hy : y < 18446744073709551616) (hl : lo < 18446744073709551616) (w : World) :
    Calls Try.prog 39 #[.int .u64 (hi : Int), .int .u64 (lo : Int), .int .u64 (y : Int)] w fun e w' => e = .returned (.tuple #[.int .u64 (resq : Int), .int .u64 (resr : Int)]) ∧ ∃ q, w' = w.drewN q := by
  have h1 : ((y : Int) == 0) = false := by simp; omega
  have h2 : ¬ ((y : Int) ≤ (hi : Int)) := by omega
  have h3 : ((hi : Int) == 0) = false := by simp; omega
  obtain ⟨hs, hs64, hn1, hn2⟩ := norm_of y (by omega) hy
  have hlz : ∀ W, Calls Try.prog 49 #[.int .u64 y] W fun e w' => e = .returned (.int .i64 ((64 - Lib.bitLen y : Nat) : Int)) ∧ W = w' := fun W =>
    (Try.bits_LeadingZeros64 (y : Int) W (Int.natCast_nonneg _) (by omega)).mono fun e w' ⟨a, b⟩ => ⟨by rw [a, Int.toNat_natCast, Int.ofNat_sub hs64]; rfl, b.symm⟩
  generalize 64 - Lib.bitLen y = s at *
  have Hlz := Lib.hid hlz
  obtain ⟨H, Y, u, L, x1, x0, y1, y0, rd⟩ := ready hi lo y s hs hn1 hn2 hhy hl
  obtain ⟨rY, rH, ru, rL, rx1, rx0, ry1, ry0, eY, eu, eL, ey, b1, b2, b3, b4, b5⟩ := rd
  have nm1 : Norm u x1 Y := ⟨b1, b2, b3, b4⟩
  have g0 := Guess.start nm1
  rw [ey.1] at g0
  have by1 : 2147483648 ≤ y1 := by omega
  have by1' : y1 < 4294967296 := by omega
  have by0 : y0 < 4294967296 := by omega
  have rq := quo_rule u y1 (by omega)
  have rr := rem_rule u y1 (by omega)
  have hr0 : u - u / y1 * y1 < 4294967296 := by
    have h := Nat.mod_lt u (show 0 < y1 by omega)
    have e := Nat.div_add_mod u y1
    have m := Nat.mul_comm y1 (u / y1)
    omega
  have hY0 : 0 < Y := by omega
  have HeY := Lib.hid eY
  have Heu := Lib.hid eu
  have HeL := Lib.hid eL
  have Hey := Lib.hid ey
  have Hg0 := Lib.hid g0
  have Hnm1 := Lib.hid nm1
  generalize u / y1 = q0 at *
  generalize u - q0 * y1 = r0 at *
  have HB : Hid (9223372036854775808 ≤ Y ∧ Y < 18446744073709551616 ∧ u < Y ∧ x1 < 4294967296 ∧ x0 < 4294967296 ∧ y0 < 4294967296 ∧ y1 < 4294967296 ∧ 2147483648 ≤ y1 ∧ 0 < Y) := ⟨b1, b2, b3, b4, b5, by0, by1', by1, hY0⟩
  have Hhy := Lib.hid (And.intro hhy (And.intro hy hl))
  have iy1 : (2147483648 : Int) ≤ (y1 : Int) := by omega
  have iy1' : (y1 : Int) < 4294967296 := by omega
  have ix1 : (x1 : Int) < 4294967296 := by omega
  have ix0 : (x0 : Int) < 4294967296 := by omega
  have hs' : (s : Int) ≤ 63 := by omega
  clear hlz hn1 hn2 eY eu eL ey g0 nm1 b1 b2 b3 b4 b5 by0 by1 by1' hY0
  go_enter Try.func39, Try.ntmps39
  go_wp2_with fail
  refine (Hlz.out _).mono ?_
  rintro e w1 ⟨rfl, rfl⟩
  go_wp2_with fail
  clear rq rr h1 h2 h3 hs64 hs rY rH ru rL rx1 rx0 ry1 ry0 hh hhy hy hl
  go_loop [15, 16] (fun a b => RelG u x1 Y a b) (fun _ b => mz b)
  case atStart => exact ⟨_, _, rfl, rfl, by omega, Hg0⟩
  case round =>
    obtain ⟨q, r, rfl, rfl, hr, hg⟩ := hrel
    have hq3 : (q : Int) ≤ 4294967297 := by have := hg.out.2.2; omega
    by_cases hbody : 4294967296 ≤ q ∨ r * 4294967296 + x1 < q * y0
    · obtain ⟨g1, g2, g3⟩ := hg.out.next Hnm1.out (by rw [Hey.out.2]; exact hbody)
      rw [Hey.out.1] at g1
      have G1 := Lib.hid g1
      have G3 := Lib.hid g3
      clear g1 g3
      obtain ⟨q', hq'⟩ : ∃ q', q' = q - 1 := ⟨_, rfl⟩
      have hsub : (q : Int) - 1 = (q' : Int) := by omega
      rw [← hq'] at G1 G3
      clear hq'
      by_cases hbig : 4294967296 ≤ r + y1
      · have hbig' : (4294967296 : Int) ≤ (r : Int) + (y1 : Int) := by omega
        have hQ := Lib.hid (G1.out.big Hnm1.out G3.out hbig)
        clear hbig
        by_cases hA : 4294967296 ≤ q
        · have hA' : (4294967296 : Int) ≤ (q : Int) := by omega
          clear hbody g2
          have hrest := rest_rule u x1 q' Y HB.out.2.2.2.2.2.2.2.2 HB.out.2.1 hQ.out
          have hu2 : (u * 4294967296 + x1) % Y < Y := Nat.mod_lt _ HB.out.2.2.2.2.2.2.2.2
          generalize hU : (u * 4294967296 + x1) % Y = u2 at hrest hu2
          have HU := Lib.hid hU
          have Hnm2 : Hid (Norm u2 x0 Y) := ⟨HB.out.1, HB.out.2.1, hu2, HB.out.2.2.2.2.1⟩
          have hu2' : u2 < 18446744073709551616 := Nat.lt_trans hu2 HB.out.2.1
          have rq2 := quo_rule u2 y1 hu2'
          have rr2 := rem_rule u2 y1 hu2'
          have hg2 := Guess.start Hnm2.out
          rw [Hey.out.1] at hg2
          have hr2 : ((u2 - u2 / y1 * y1 : Nat) : Int) < 4294967296 := by
            have h := Nat.mod_lt u2 (show 0 < y1 by omega)
            have e := Nat.div_add_mod u2 y1
            have m := Nat.mul_comm y1 (u2 / y1)
            omega
          have Hg2 := Lib.hid hg2
          generalize u2 / y1 = q2 at rq2 rr2 hr2 Hg2
          generalize u2 - q2 * y1 = r2 at rr2 hr2 Hg2
          clear hu2 hu2' hg2 hU
          clear hA
          go_wp2_with fail
          clear hsub
          clear rq2 rr2 hrest
          have hQa := hQ
          clear hQ
          go_loop [18, 16] (fun a b => RelG u2 x0 Y a b) (fun _ b => mz b)
          case atStart => exact ⟨_, _, rfl, rfl, by omega, Hg2⟩
          case round =>
            obtain ⟨q, r, rfl, rfl, hr, hg⟩ := hrel
            have hq3 : (q : Int) ≤ 4294967297 := by have := hg.out.2.2; omega
            by_cases hbody : 4294967296 ≤ q ∨ r * 4294967296 + x0 < q * y0
            · obtain ⟨g1, g2, g3⟩ := hg.out.next Hnm2.out (by rw [Hey.out.2]; exact hbody)
              rw [Hey.out.1] at g1
              have G1 := Lib.hid g1
              have G3 := Lib.hid g3
              clear g1 g3
              obtain ⟨q', hq'⟩ : ∃ q', q' = q - 1 := ⟨_, rfl⟩
              have hsub : (q : Int) - 1 = (q' : Int) := by omega
              rw [← hq'] at G1 G3
              clear hq'
              by_cases hbig : 4294967296 ≤ r + y1
              · have hbig' : (4294967296 : Int) ≤ (r : Int) + (y1 : Int) := by omega
                have hQ := Lib.hid (G1.out.big Hnm2.out G3.out hbig)
                clear hbig
                by_cases hA : 4294967296 ≤ q
                · have hA' : (4294967296 : Int) ≤ (q : Int) := by omega
                  clear hbody g2
                  have hrest2 := rest_rule u2 x0 q' Y HB.out.2.2.2.2.2.2.2.2 HB.out.2.1 hQ.out
                  have hfq := fin_q HeY.out Heu.out HeL.out HB.out.2.2.2.2.2.2.2.2 Hhy.out.1 Hhy.out.2.1 Hhy.out.2.2 hQa.out HU.out hQ.out
                  have hfr := fin_r HeY.out Heu.out HeL.out HB.out.2.2.2.2.2.2.2.2 HU.out
                  rw [HQ.out] at hfq
                  have hfq2 := fin_q2 hfq
                  rw [HR.out] at hfr
                  obtain ⟨rem, hrem⟩ : ∃ rem, rem = (u2 * 4294967296 + x0) % Y := ⟨_, rfl⟩
                  rw [← hrem] at hrest2 hfr
                  clear hrem
                  clear hA
                  go_wp2_with fail
                  clear hsub
                  go_ret2
                  exact ⟨rfl, 0, rfl⟩
                · obtain ⟨p, hp, hp2, hp3⟩ : ∃ p : Nat, IntKind.u64.wrap ((q : Int) * (y0 : Int)) = (p : Int) ∧ 4294967296 * (r : Int) + (x0 : Int) < (p : Int) ∧ (q : Int) < 4294967296 := ⟨q * y0, prod_rule q y0 (by omega) HB.out.2.2.2.2.2.1, by omega, by omega⟩
                  clear hbody g2
                  have hrest2 := rest_rule u2 x0 q' Y HB.out.2.2.2.2.2.2.2.2 HB.out.2.1 hQ.out
                  have hfq := fin_q HeY.out Heu.out HeL.out HB.out.2.2.2.2.2.2.2.2 Hhy.out.1 Hhy.out.2.1 Hhy.out.2.2 hQa.out HU.out hQ.out
                  have hfr := fin_r HeY.out Heu.out HeL.out HB.out.2.2.2.2.2.2.2.2 HU.out
                  rw [HQ.out] at hfq
                  have hfq2 := fin_q2 hfq
                  rw [HR.out] at hfr
                  obtain ⟨rem, hrem⟩ : ∃ rem, rem = (u2 * 4294967296 + x0) % Y := ⟨_, rfl⟩
                  rw [← hrem] at hrest2 hfr
                  clear hrem
                  clear hA
                  go_wp2_with fail
                  clear hp
                  clear hsub
                  go_ret2
                  exact ⟨rfl, 0, rfl⟩
              · have hbig' : (r : Int) + (y1 : Int) < 4294967296 := by omega
                have hbigf : decide ((4294967296 : Int) ≤ (r : Int) + (y1 : Int)) = false := decide_eq_false (by omega)
                clear hbig
                by_cases hA : 4294967296 ≤ q
                · have hA' : (4294967296 : Int) ≤ (q : Int) := by omega
                  clear hbody g2
                  skip
                  clear hA
                  go_wp2_with fail
                  exact ⟨⟨q', r + y1, rfl, by go_num, by omega, G1⟩, by show mz _ < mz _; simp [mz, intOf]; omega⟩
                · obtain ⟨p, hp, hp2, hp3⟩ : ∃ p : Nat, IntKind.u64.wrap ((q : Int) * (y0 : Int)) = (p : Int) ∧ 4294967296 * (r : Int) + (x0 : Int) < (p : Int) ∧ (q : Int) < 4294967296 := ⟨q * y0, prod_rule q y0 (by omega) HB.out.2.2.2.2.2.1, by omega, by omega⟩
                  clear hbody g2
                  skip
                  clear hA
                  go_wp2_with fail
                  clear hp
                  exact ⟨⟨q', r + y1, rfl, by go_num, by omega, G1⟩, by show mz _ < mz _; simp [mz, intOf]; omega⟩
            · have hq1 : q < 4294967296 := by omega
              have hq1' : (q : Int) < 4294967296 := by omega
              have hQ := Lib.hid (hg.out.done Hnm2.out (by rw [Hey.out.2]; omega))
              obtain ⟨p, hp, hp2⟩ : ∃ p : Nat, IntKind.u64.wrap ((q : Int) * (y0 : Int)) = (p : Int) ∧ (p : Int) ≤ 4294967296 * (r : Int) + (x0 : Int) := ⟨q * y0, prod_rule q y0 hq1 HB.out.2.2.2.2.2.1, by omega⟩
              have hcf : decide (4294967296 * (r : Int) + (x0 : Int) < (p : Int)) = false := decide_eq_false (by omega)
              have hcq : decide ((4294967296 : Int) ≤ (q : Int)) = false := decide_eq_false (by omega)
              clear hbody hq1
              have hrest2 := rest_rule u2 x0 q Y HB.out.2.2.2.2.2.2.2.2 HB.out.2.1 hQ.out
              have hfq := fin_q HeY.out Heu.out HeL.out HB.out.2.2.2.2.2.2.2.2 Hhy.out.1 Hhy.out.2.1 Hhy.out.2.2 hQa.out HU.out hQ.out
              have hfr := fin_r HeY.out Heu.out HeL.out HB.out.2.2.2.2.2.2.2.2 HU.out
              rw [HQ.out] at hfq
              have hfq2 := fin_q2 hfq
              rw [HR.out] at hfr
              obtain ⟨rem, hrem⟩ : ∃ rem, rem = (u2 * 4294967296 + x0) % Y := ⟨_, rfl⟩
              rw [← hrem] at hrest2 hfr
              clear hrem
              go_wp2_with fail
              clear hp
              go_ret2
              exact ⟨rfl, 0, rfl⟩
        · obtain ⟨p, hp, hp2, hp3⟩ : ∃ p : Nat, IntKind.u64.wrap ((q : Int) * (y0 : Int)) = (p : Int) ∧ 4294967296 * (r : Int) + (x1 : Int) < (p : Int) ∧ (q : Int) < 4294967296 := ⟨q * y0, prod_rule q y0 (by omega) HB.out.2.2.2.2.2.1, by omega, by omega⟩
          clear hbody g2
          have hrest := rest_rule u x1 q' Y HB.out.2.2.2.2.2.2.2.2 HB.out.2.1 hQ.out
          have hu2 : (u * 4294967296 + x1) % Y < Y := Nat.mod_lt _ HB.out.2.2.2.2.2.2.2.2
          generalize hU : (u * 4294967296 + x1) % Y = u2 at hrest hu2
          have HU := Lib.hid hU
          have Hnm2 : Hid (Norm u2 x0 Y) := ⟨HB.out.1, HB.out.2.1, hu2, HB.out.2.2.2.2.1⟩
          have hu2' : u2 < 18446744073709551616 := Nat.lt_trans hu2 HB.out.2.1
          have rq2 := quo_rule u2 y1 hu2'
          have rr2 := rem_rule u2 y1 hu2'
          have hg2 := Guess.start Hnm2.out
          rw [Hey.out.1] at hg2
          have hr2 : ((u2 - u2 / y1 * y1 : Nat) : Int) < 4294967296 := by
            have h := Nat.mod_lt u2 (show 0 < y1 by omega)
            have e := Nat.div_add_mod u2 y1
            have m := Nat.mul_comm y1 (u2 / y1)
            omega
          have Hg2 := Lib.hid hg2
          generalize u2 / y1 = q2 at rq2 rr2 hr2 Hg2
          generalize u2 - q2 * y1 = r2 at rr2 hr2 Hg2
          clear hu2 hu2' hg2 hU
          clear hA
          go_wp2_with fail
          clear hp
          clear hsub
          clear rq2 rr2 hrest
          have hQa := hQ
          clear hQ
          go_loop [18, 16] (fun a b => RelG u2 x0 Y a b) (fun _ b => mz b)
          case atStart => exact ⟨_, _, rfl, rfl, by omega, Hg2⟩
          case round =>
            obtain ⟨q, r, rfl, rfl, hr, hg⟩ := hrel
            have hq3 : (q : Int) ≤ 4294967297 := by have := hg.out.2.2; omega
            by_cases hbody : 4294967296 ≤ q ∨ r * 4294967296 + x0 < q * y0
            · obtain ⟨g1, g2, g3⟩ := hg.out.next Hnm2.out (by rw [Hey.out.2]; exact hbody)
              rw [Hey.out.1] at g1
              have G1 := Lib.hid g1
              have G3 := Lib.hid g3
              clear g1 g3
              obtain ⟨q', hq'⟩ : ∃ q', q' = q - 1 := ⟨_, rfl⟩
              have hsub : (q : Int) - 1 = (q' : Int) := by omega
              rw [← hq'] at G1 G3
              clear hq'
              by_cases hbig : 4294967296 ≤ r + y1
              · have hbig' : (4294967296 : Int) ≤ (r : Int) + (y1 : Int) := by omega
                have hQ := Lib.hid (G1.out.big Hnm2.out G3.out hbig)
                clear hbig
                by_cases hA : 4294967296 ≤ q
                · have hA' : (4294967296 : Int) ≤ (q : Int) := by omega
                  clear hbody g2
                  have hrest2 := rest_rule u2 x0 q' Y HB.out.2.2.2.2.2.2.2.2 HB.out.2.1 hQ.out
                  have hfq := fin_q HeY.out Heu.out HeL.out HB.out.2.2.2.2.2.2.2.2 Hhy.out.1 Hhy.out.2.1 Hhy.out.2.2 hQa.out HU.out hQ.out
                  have hfr := fin_r HeY.out Heu.out HeL.out HB.out.2.2.2.2.2.2.2.2 HU.out
                  rw [HQ.out] at hfq
                  have hfq2 := fin_q2 hfq
                  rw [HR.out] at hfr
                  obtain ⟨rem, hrem⟩ : ∃ rem, rem = (u2 * 4294967296 + x0) % Y := ⟨_, rfl⟩
                  rw [← hrem] at hrest2 hfr
                  clear hrem
                  clear hA
                  go_wp2_with fail
                  clear hsub
                  go_ret2
                  exact ⟨rfl, 0, rfl⟩
                · obtain ⟨p, hp, hp2, hp3⟩ : ∃ p : Nat, IntKind.u64.wrap ((q : Int) * (y0 : Int)) = (p : Int) ∧ 4294967296 * (r : Int) + (x0 : Int) < (p : Int) ∧ (q : Int) < 4294967296 := ⟨q * y0, prod_rule q y0 (by omega) HB.out.2.2.2.2.2.1, by omega, by omega⟩
                  clear hbody g2
                  have hrest2 := rest_rule u2 x0 q' Y HB.out.2.2.2.2.2.2.2.2 HB.out.2.1 hQ.out
                  have hfq := fin_q HeY.out Heu.out HeL.out HB.out.2.2.2.2.2.2.2.2 Hhy.out.1 Hhy.out.2.1 Hhy.out.2.2 hQa.out HU.out hQ.out
                  have hfr := fin_r HeY.out Heu.out HeL.out HB.out.2.2.2.2.2.2.2.2 HU.out
                  rw [HQ.out] at hfq
                  have hfq2 := fin_q2 hfq
                  rw [HR.out] at hfr
                  obtain ⟨rem, hrem⟩ : ∃ rem, rem = (u2 * 4294967296 + x0) % Y := ⟨_, rfl⟩
                  rw [← hrem] at hrest2 hfr
                  clear hrem
                  clear hA
                  go_wp2_with fail
                  clear hp
                  clear hsub
                  go_ret2
                  exact ⟨rfl, 0, rfl⟩
              · have hbig' : (r : Int) + (y1 : Int) < 4294967296 := by omega
                have hbigf : decide ((4294967296 : Int) ≤ (r : Int) + (y1 : Int)) = false := decide_eq_false (by omega)
                clear hbig
                by_cases hA : 4294967296 ≤ q
                · have hA' : (4294967296 : Int) ≤ (q : Int) := by omega
                  clear hbody g2
                  skip
                  clear hA
                  go_wp2_with fail
                  exact ⟨⟨q', r + y1, rfl, by go_num, by omega, G1⟩, by show mz _ < mz _; simp [mz, intOf]; omega⟩
                · obtain ⟨p, hp, hp2, hp3⟩ : ∃ p : Nat, IntKind.u64.wrap ((q : Int) * (y0 : Int)) = (p : Int) ∧ 4294967296 * (r : Int) + (x0 : Int) < (p : Int) ∧ (q : Int) < 4294967296 := ⟨q * y0, prod_rule q y0 (by omega) HB.out.2.2.2.2.2.1, by omega, by omega⟩
                  clear hbody g2
                  skip
                  clear hA
                  go_wp2_with fail
                  clear hp
                  exact ⟨⟨q', r + y1, rfl, by go_num, by omega, G1⟩, by show mz _ < mz _; simp [mz, intOf]; omega⟩
            · have hq1 : q < 4294967296 := by omega
              have hq1' : (q : Int) < 4294967296 := by omega
              have hQ := Lib.hid (hg.out.done Hnm2.out (by rw [Hey.out.2]; omega))
              obtain ⟨p, hp, hp2⟩ : ∃ p : Nat, IntKind.u64.wrap ((q : Int) * (y0 : Int)) = (p : Int) ∧ (p : Int) ≤ 4294967296 * (r : Int) + (x0 : Int) := ⟨q * y0, prod_rule q y0 hq1 HB.out.2.2.2.2.2.1, by omega⟩
              have hcf : decide (4294967296 * (r : Int) + (x0 : Int) < (p : Int)) = false := decide_eq_false (by omega)
              have hcq : decide ((4294967296 : Int) ≤ (q : Int)) = false := decide_eq_false (by omega)
              clear hbody hq1
              have hrest2 := rest_rule u2 x0 q Y HB.out.2.2.2.2.2.2.2.2 HB.out.2.1 hQ.out
              have hfq := fin_q HeY.out Heu.out HeL.out HB.out.2.2.2.2.2.2.2.2 Hhy.out.1 Hhy.out.2.1 Hhy.out.2.2 hQa.out HU.out hQ.out
              have hfr := fin_r HeY.out Heu.out HeL.out HB.out.2.2.2.2.2.2.2.2 HU.out
              rw [HQ.out] at hfq
              have hfq2 := fin_q2 hfq
              rw [HR.out] at hfr
              obtain ⟨rem, hrem⟩ : ∃ rem, rem = (u2 * 4294967296 + x0) % Y := ⟨_, rfl⟩
              rw [← hrem] at hrest2 hfr
              clear hrem
              go_wp2_with fail
              clear hp
              go_ret2
              exact ⟨rfl, 0, rfl⟩
      · have hbig' : (r : Int) + (y1 : Int) < 4294967296 := by omega
        have hbigf : decide ((4294967296 : Int) ≤ (r : Int) + (y1 : Int)) = false := decide_eq_false (by omega)
        clear hbig
        by_cases hA : 4294967296 ≤ q
        · have hA' : (4294967296 : Int) ≤ (q : Int) := by omega
          clear hbody g2
          skip
          clear hA
          go_wp2_with fail
          exact ⟨⟨q', r + y1, rfl, by go_num, by omega, G1⟩, by show mz _ < mz _; simp [mz, intOf]; omega⟩
        · obtain ⟨p, hp, hp2, hp3⟩ : ∃ p : Nat, IntKind.u64.wrap ((q : Int) * (y0 : Int)) = (p : Int) ∧ 4294967296 * (r : Int) + (x1 : Int) < (p : Int) ∧ (q : Int) < 4294967296 := ⟨q * y0, prod_rule q y0 (by omega) HB.out.2.2.2.2.2.1, by omega, by omega⟩
          clear hbody g2
          skip
          clear hA
          go_wp2_with fail
          clear hp
          exact ⟨⟨q', r + y1, rfl, by go_num, by omega, G1⟩, by show mz _ < mz _; simp [mz, intOf]; omega⟩
    · have hq1 : q < 4294967296 := by omega
      have hq1' : (q : Int) < 4294967296 := by omega
      have hQ := Lib.hid (hg.out.done Hnm1.out (by rw [Hey.out.2]; omega))
      obtain ⟨p, hp, hp2⟩ : ∃ p : Nat, IntKind.u64.wrap ((q : Int) * (y0 : Int)) = (p : Int) ∧ (p : Int) ≤ 4294967296 * (r : Int) + (x1 : Int) := ⟨q * y0, prod_rule q y0 hq1 HB.out.2.2.2.2.2.1, by omega⟩
      have hcf : decide (4294967296 * (r : Int) + (x1 : Int) < (p : Int)) = false := decide_eq_false (by omega)
      have hcq : decide ((4294967296 : Int) ≤ (q : Int)) = false := decide_eq_false (by omega)
      clear hbody hq1
      have hrest := rest_rule u x1 q Y HB.out.2.2.2.2.2.2.2.2 HB.out.2.1 hQ.out
      have hu2 : (u * 4294967296 + x1) % Y < Y := Nat.mod_lt _ HB.out.2.2.2.2.2.2.2.2
      generalize hU : (u * 4294967296 + x1) % Y = u2 at hrest hu2
      have HU := Lib.hid hU
      have Hnm2 : Hid (Norm u2 x0 Y) := ⟨HB.out.1, HB.out.2.1, hu2, HB.out.2.2.2.2.1⟩
      have hu2' : u2 < 18446744073709551616 := Nat.lt_trans hu2 HB.out.2.1
      have rq2 := quo_rule u2 y1 hu2'
      have rr2 := rem_rule u2 y1 hu2'
      have hg2 := Guess.start Hnm2.out
      rw [Hey.out.1] at hg2
      have hr2 : ((u2 - u2 / y1 * y1 : Nat) : Int) < 4294967296 := by
        have h := Nat.mod_lt u2 (show 0 < y1 by omega)
        have e := Nat.div_add_mod u2 y1
        have m := Nat.mul_comm y1 (u2 / y1)
        omega
      have Hg2 := Lib.hid hg2
      generalize u2 / y1 = q2 at rq2 rr2 hr2 Hg2
      generalize u2 - q2 * y1 = r2 at rr2 hr2 Hg2
      clear hu2 hu2' hg2 hU
      go_wp2_with fail
      clear hp
      clear rq2 rr2 hrest
      have hQa := hQ
      clear hQ
      go_loop [18, 16] (fun a b => RelG u2 x0 Y a b) (fun _ b => mz b)
      case atStart => exact ⟨_, _, rfl, rfl, by omega, Hg2⟩
      case round =>
        obtain ⟨q, r, rfl, rfl, hr, hg⟩ := hrel
        have hq3 : (q : Int) ≤ 4294967297 := by have := hg.out.2.2; omega
        by_cases hbody : 4294967296 ≤ q ∨ r * 4294967296 + x0 < q * y0
        · obtain ⟨g1, g2, g3⟩ := hg.out.next Hnm2.out (by rw [Hey.out.2]; exact hbody)
          rw [Hey.out.1] at g1
          have G1 := Lib.hid g1
          have G3 := Lib.hid g3
          clear g1 g3
          obtain ⟨q', hq'⟩ : ∃ q', q' = q - 1 := ⟨_, rfl⟩
          have hsub : (q : Int) - 1 = (q' : Int) := by omega
          rw [← hq'] at G1 G3
          clear hq'
          by_cases hbig : 4294967296 ≤ r + y1
          · have hbig' : (4294967296 : Int) ≤ (r : Int) + (y1 : Int) := by omega
            have hQ := Lib.hid (G1.out.big Hnm2.out G3.out hbig)
            clear hbig
            by_cases hA : 4294967296 ≤ q
            · have hA' : (4294967296 : Int) ≤ (q : Int) := by omega
              clear hbody g2
              have hrest2 := rest_rule u2 x0 q' Y HB.out.2.2.2.2.2.2.2.2 HB.out.2.1 hQ.out
              have hfq := fin_q HeY.out Heu.out HeL.out HB.out.2.2.2.2.2.2.2.2 Hhy.out.1 Hhy.out.2.1 Hhy.out.2.2 hQa.out HU.out hQ.out
              have hfr := fin_r HeY.out Heu.out HeL.out HB.out.2.2.2.2.2.2.2.2 HU.out
              rw [HQ.out] at hfq
              have hfq2 := fin_q2 hfq
              rw [HR.out] at hfr
              obtain ⟨rem, hrem⟩ : ∃ rem, rem = (u2 * 4294967296 + x0) % Y := ⟨_, rfl⟩
              rw [← hrem] at hrest2 hfr
              clear hrem
              clear hA
              go_wp2_with fail
              clear hsub
              go_ret2
              exact ⟨rfl, 0, rfl⟩
            · obtain ⟨p, hp, hp2, hp3⟩ : ∃ p : Nat, IntKind.u64.wrap ((q : Int) * (y0 : Int)) = (p : Int) ∧ 4294967296 * (r : Int) + (x0 : Int) < (p : Int) ∧ (q : Int) < 4294967296 := ⟨q * y0, prod_rule q y0 (by omega) HB.out.2.2.2.2.2.1, by omega, by omega⟩
              clear hbody g2
              have hrest2 := rest_rule u2 x0 q' Y HB.out.2.2.2.2.2.2.2.2 HB.out.2.1 hQ.out
              have hfq := fin_q HeY.out Heu.out HeL.out HB.out.2.2.2.2.2.2.2.2 Hhy.out.1 Hhy.out.2.1 Hhy.out.2.2 hQa.out HU.out hQ.out
              have hfr := fin_r HeY.out Heu.out HeL.out HB.out.2.2.2.2.2.2.2.2 HU.out
              rw [HQ.out] at hfq
              have hfq2 := fin_q2 hfq
              rw [HR.out] at hfr
              obtain ⟨rem, hrem⟩ : ∃ rem, rem = (u2 * 4294967296 + x0) % Y := ⟨_, rfl⟩
              rw [← hrem] at hrest2 hfr
              clear hrem
              clear hA
              go_wp2_with fail
              clear hp
              clear hsub
              go_ret2
              exact ⟨rfl, 0, rfl⟩
          · have hbig' : (r : Int) + (y1 : Int) < 4294967296 := by omega
            have hbigf : decide ((4294967296 : Int) ≤ (r : Int) + (y1 : Int)) = false := decide_eq_false (by omega)
            clear hbig
            by_cases hA : 4294967296 ≤ q
            · have hA' : (4294967296 : Int) ≤ (q : Int) := by omega
              clear hbody g2
              skip
              clear hA
              go_wp2_with fail
              exact ⟨⟨q', r + y1, rfl, by go_num, by omega, G1⟩, by show mz _ < mz _; simp [mz, intOf]; omega⟩
            · obtain ⟨p, hp, hp2, hp3⟩ : ∃ p : Nat, IntKind.u64.wrap ((q : Int) * (y0 : Int)) = (p : Int) ∧ 4294967296 * (r : Int) + (x0 : Int) < (p : Int) ∧ (q : Int) < 4294967296 := ⟨q * y0, prod_rule q y0 (by omega) HB.out.2.2.2.2.2.1, by omega, by omega⟩
              clear hbody g2
              skip
              clear hA
              go_wp2_with fail
              clear hp
              exact ⟨⟨q', r + y1, rfl, by go_num, by omega, G1⟩, by show mz _ < mz _; simp [mz, intOf]; omega⟩
        · have hq1 : q < 4294967296 := by omega
          have hq1' : (q : Int) < 4294967296 := by omega
          have hQ := Lib.hid (hg.out.done Hnm2.out (by rw [Hey.out.2]; omega))
          obtain ⟨p, hp, hp2⟩ : ∃ p : Nat, IntKind.u64.wrap ((q : Int) * (y0 : Int)) = (p : Int) ∧ (p : Int) ≤ 4294967296 * (r : Int) + (x0 : Int) := ⟨q * y0, prod_rule q y0 hq1 HB.out.2.2.2.2.2.1, by omega⟩
          have hcf : decide (4294967296 * (r : Int) + (x0 : Int) < (p : Int)) = false := decide_eq_false (by omega)
          have hcq : decide ((4294967296 : Int) ≤ (q : Int)) = false := decide_eq_false (by omega)
          clear hbody hq1
          have hrest2 := rest_rule u2 x0 q Y HB.out.2.2.2.2.2.2.2.2 HB.out.2.1 hQ.out
          have hfq := fin_q HeY.out Heu.out HeL.out HB.out.2.2.2.2.2.2.2.2 Hhy.out.1 Hhy.out.2.1 Hhy.out.2.2 hQa.out HU.out hQ.out
          have hfr := fin_r HeY.out Heu.out HeL.out HB.out.2.2.2.2.2.2.2.2 HU.out
          rw [HQ.out] at hfq
          have hfq2 := fin_q2 hfq
          rw [HR.out] at hfr
          obtain ⟨rem, hrem⟩ : ∃ rem, rem = (u2 * 4294967296 + x0) % Y := ⟨_, rfl⟩
          rw [← hrem] at hrest2 hfr
          clear hrem
          go_wp2_with fail
          clear hp
          go_ret2
          exact ⟨rfl, 0, rfl⟩
theorem div64_any (hi lo y : Nat) (hhy : hi < y) (hy : y < 18446744073709551616) (hl : lo < 18446744073709551616) (w : World) :
    Calls Try.prog 39 #[.int .u64 (hi : Int), .int .u64 (lo : Int), .int .u64 (y : Int)] w fun e w' => e = .returned (.tuple #[.int .u64 (((hi * 18446744073709551616 + lo) / y : Nat) : Int), .int .u64 (((hi * 18446744073709551616 + lo) % y : Nat) : Int)]) ∧ ∃ q, w' = w.drewN q := by
  rcases Nat.eq_zero_or_pos hi with rfl | hp
  · rw [Nat.zero_mul, Nat.zero_add]
    exact div64_zero lo y hhy hy hl w
  · exact div64_aux hi lo y _ _ rfl rfl hp hhy hy hl w
end Go.Proofs.Ytibemleodghhfaa
