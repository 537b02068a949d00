/- The law DictParts: what is from one key to another one, and on to a third one (the walk, over the contracts of all that it calls). -/
import Derived.Test.YtkahnobignaccaaDi
import Derived.Test.YtkahnobignaccaaDh
import Derived.Deep.RegionHeld3
import Derived.Deep.DeepCutAuto
namespace Go.Proofs.Ytkahnobignaccaa
open Go.RowKit
attribute [local go_sem ↓] Go.wp_at_zero Go.wp_at_succ
theorem gt_klt (a b : ByteArray) : (!Op.bytesLess a.toList b.toList && !(a.toList == b.toList)) = decide (klt b a) := by
  rw [bless_klt, beq_kl]
  by_cases h : klt b a
  · simp [h, klt_asymm h, (klt_ne h).symm]
  · by_cases h2 : klt a b
    · simp [h, h2]
    · simp [klt_tri h2 h, klt_irrefl]
theorem klt_ge_trans {a b c : ByteArray} (h1 : ¬ klt b a) (h2 : ¬ klt c b) : ¬ klt c a := fun h => by
  by_cases hbc : klt b c
  · exact h1 (klt_trans hbc h)
  · rw [klt_tri h2 hbc] at h; exact h1 h
theorem BBk_end {w W Z V : World} (h1 : Below w.heap.size w W) (h2 : Below W.heap.size W Z) (h3 : Below Z.heap.size Z V) : Below w.heap.size w V := BW_on (BW_on h1 h2) h3
theorem Blk.heldk {w : World} {g : Nat} {t : TypeId} {cs : Array Value} (h : Blk w g t cs) : ∀ w', Below w.heap.size w w' → ∀ i, w'.cell? ⟨g, i, none⟩ = cs[i]? := fun _ hb i => (h.below hb h.lt).cell i
set_option maxHeartbeats 4000000 in
set_option maxRecDepth 100000 in
theorem parts_walk (vl : Value) (L M E : List Ent) (R : ByteArray → ByteArray → List Ent) (q0 q1 q2 a b c : ByteArray) (w : World) (hv : Ents w vl L)
    (Hfew : Hid (∀  w v, Ents w v L → Calls Try.prog 14 #[v] w fun e w' => ∃ v', e = .returned v' ∧ Ents w' v' M ∧ Below w.heap.size w w')) (Hof : Hid (∀  w v, Ents w v M → Calls Try.prog 10 #[v] w fun e w' => ∃ v', e = .returned (.agg #[v']) ∧ Ents w' v' E ∧ Below w.heap.size w w'))
    (Ha : Hid (∀ w, Calls Try.prog 17 #[.string q0, .int .i64 12] w fun e w' => e = .returned (.string a) ∧ w = w')) (Hb : Hid (∀ w, Calls Try.prog 17 #[.string q1, .int .i64 12] w fun e w' => e = .returned (.string b) ∧ w = w')) (Hc : Hid (∀ w, Calls Try.prog 17 #[.string q2, .int .i64 12] w fun e w' => e = .returned (.string c) ∧ w = w'))
    (Hall : Hid (∀  w v, Ents w v E → Calls Try.prog 15 #[.agg #[v]] w fun e w' => ∃ v', e = .returned v' ∧ Ents w' v' E ∧ Below w.heap.size w w')) (Hrg : Hid (∀ (s t : ByteArray) w v, Ents w v E → Calls Try.prog 22 #[.agg #[v], .string s, .string t] w fun e w' => ∃ v', e = .returned v' ∧ Ents w' v' (R s t) ∧ Below w.heap.size w w'))
    (Hun : Hid (∀  w v, Ents w v E → Calls Try.prog 25 #[.agg #[v], .string ⟨#[]⟩] w fun e w' => ∃ v', e = .returned v' ∧ Ents w' v' E ∧ Below w.heap.size w w'))
    (Hfind : Hid (∀ (k : ByteArray) w v, Ents w v E → Calls Try.prog 23 #[.agg #[v], .string k] w fun e w' => e = .returned (.tuple #[.int .i64 (pos E k : Int), .bool (hasK E k)]) ∧ Below w.heap.size w w'))
    (Hat : Hid (∀ (i : Int) w v, Ents w v E → Calls Try.prog 24 #[.agg #[v], .int .i64 i] w fun e w' => e = .returned (.agg #[.string (atE E i).1, .string (atE E i).2]) ∧ Below w.heap.size w w'))
    (Hsm : Hid (∀ w v1 v2 F, F.length ≤ 1000000 → Ents w v1 F → Ents w v2 F → Calls Try.prog 20 #[v1, v2] w fun e w' => e = .returned (.bool true) ∧ Below w.heap.size w w'))
    (hlE : E.length ≤ 2000) (hlR : Hid (∀ s t, (R s t).length ≤ 20))
    (HR : Hid (∀ x y z, ¬ klt y x → ¬ klt z y → R x y ++ R y z = R x z ∧ R z x = [] ∧ ∀ k (hk : k < (R x z).length), hasK E (R x z)[k].1 = true ∧ atE E (pos E (R x z)[k].1 : Int) = (R x z)[k] ∧ ¬ klt (R x z)[k].1 x ∧ klt (R x z)[k].1 z)) :
    Calls Try.prog 6 #[vl, .agg #[.string q0, .string q1, .string q2]] w fun e w' => e = .returned (.bool true) ∧ Below w.heap.size w w' := by
  obtain ⟨i0, hi0, hz0, hz1, hz2⟩ := info_parts infoE
  go_enter Try.func6, Try.ntmps6
  go_wp2_with fail
  have k_q := blk1 w 54 #[.string q0, .string q1, .string q2]
  have e_l := Lib.hid (hv.on (BW_alloc (BW_refl w) (.cells #[.string q0, .string q1, .string q2] 54)))
  have BB := BW_alloc (BW_refl w) (.cells #[.string q0, .string q1, .string q2] 54)
  clear hv
  refine (awake08_any _).mono ?_
  rintro e w1 ⟨rfl, hb1⟩
  replace k_q := k_q.on hb1
  replace e_l := Lib.hid (e_l.out.on hb1)
  replace BB := BW_on BB hb1
  have c_q := fun i => k_q.cell i
  go_wp2_with fail
  refine (Hfew.out _ _ e_l.out).mono ?_
  rintro e w2 ⟨v_m, rfl, hen, hb2⟩
  clear c_q
  replace k_q := k_q.on hb2
  replace e_l := Lib.hid (e_l.out.on hb2)
  replace BB := BW_on BB hb2
  have e_m := Lib.hid hen
  clear hen
  clear e_l
  have c_q := fun i => k_q.cell i
  go_wp2_with fail
  refine (Hof.out _ _ e_m.out).mono ?_
  rintro e w3 ⟨v_d, rfl, hen, hb3⟩
  clear c_q
  replace k_q := k_q.on hb3
  replace e_m := Lib.hid (e_m.out.on hb3)
  replace BB := BW_on BB hb3
  obtain ⟨q_d, z_d, rfl⟩ : ∃ q c, v_d = .slice q E.length c := hen.len
  have e_d := Lib.hid hen
  clear hen
  clear e_m
  replace k_q := k_q.alloc (.cells #[.slice q_d E.length z_d] 28)
  replace e_d := Lib.hid (e_d.out.on (BW_alloc (BW_refl _) (.cells #[.slice q_d E.length z_d] 28)))
  replace BB := BW_alloc BB (.cells #[.slice q_d E.length z_d] 28)
  have k_d := blk1 w3 28 #[.slice q_d E.length z_d]
  have c_q := fun i => k_q.cell i
  have c_d := fun i => k_d.cell i
  go_wp2_with fail
  refine (Ha.out _).mono ?_
  rintro e w' ⟨rfl, rfl⟩
  go_wp2_with fail
  refine (Hb.out _).mono ?_
  rintro e w' ⟨rfl, rfl⟩
  go_wp2_with fail
  refine (Hc.out _).mono ?_
  rintro e w' ⟨rfl, rfl⟩
  clear c_q c_d
  generalize hWW : w3.alloc (.cells #[.slice q_d E.length z_d] 28) = W0 at *
  have BB' := Lib.hid BB
  clear BB hWW k_q hb3
  go_upto_if 34 with (fail)
  go_cut [7, 8] (fun s7 s8 wx => (∃ x y, s7 = .string x ∧ s8 = .string y ∧ Hid (¬ klt y x)) ∧ wx = W0)
  case first =>
    have hb1 := gt_klt a b
    generalize (!Op.bytesLess a.toList b.toList && !(a.toList == b.toList)) = gg at *
    by_cases hq : klt b a
    · obtain rfl := hb1.trans (decide_eq_true hq)
      have Hq := Lib.hid hq
      clear hq
      go_wp2_with fail
      go_meet
      exact ⟨⟨b, a, rfl, rfl, fun h => klt_asymm Hq.out h⟩, rfl⟩
    · obtain rfl := hb1.trans (decide_eq_false hq)
      have Hq := Lib.hid hq
      clear hq
      go_wp2_with fail
      go_meet
      exact ⟨⟨a, b, rfl, rfl, Hq.out⟩, rfl⟩
  case rest =>
  obtain ⟨⟨x, y, rfl, rfl, h1⟩, hwc⟩ := hcut
  subst wc
  go_upto_if 40 with (fail)
  go_cut [8, 9] (fun s8 s9 wx => (∃ y' z, s8 = .string y' ∧ s9 = .string z ∧ Hid (¬ klt z y' ∧ ¬ klt z x)) ∧ wx = W0)
  case first =>
    have hb1 := gt_klt y c
    generalize (!Op.bytesLess y.toList c.toList && !(y.toList == c.toList)) = gg at *
    by_cases hq : klt c y
    · obtain rfl := hb1.trans (decide_eq_true hq)
      have Hq := Lib.hid hq
      clear hq
      go_wp2_with fail
      go_meet
      exact ⟨⟨c, y, rfl, rfl, fun h => klt_asymm Hq.out h, h1.out⟩, rfl⟩
    · obtain rfl := hb1.trans (decide_eq_false hq)
      have Hq := Lib.hid hq
      clear hq
      go_wp2_with fail
      go_meet
      exact ⟨⟨y, c, rfl, rfl, Hq.out, fun h => (klt_ge_trans h1.out Hq.out) h⟩, rfl⟩
  case rest =>
  obtain ⟨⟨y', z, rfl, rfl, h2⟩, hwc⟩ := hcut
  subst wc
  clear h1
  go_upto_if 46 with (fail)
  go_cut [7, 8] (fun s7 s8 wx => (∃ x' y'', s7 = .string x' ∧ s8 = .string y'' ∧ Hid (¬ klt y'' x' ∧ ¬ klt z y'')) ∧ wx = W0)
  case first =>
    have hb1 := gt_klt x y'
    generalize (!Op.bytesLess x.toList y'.toList && !(x.toList == y'.toList)) = gg at *
    by_cases hq : klt y' x
    · obtain rfl := hb1.trans (decide_eq_true hq)
      have Hq := Lib.hid hq
      clear hq
      go_wp2_with fail
      go_meet
      exact ⟨⟨y', x, rfl, rfl, fun h => klt_asymm Hq.out h, h2.out.2⟩, rfl⟩
    · obtain rfl := hb1.trans (decide_eq_false hq)
      have Hq := Lib.hid hq
      clear hq
      go_wp2_with fail
      go_meet
      exact ⟨⟨x, y', rfl, rfl, Hq.out, h2.out.1⟩, rfl⟩
  case rest =>
  obtain ⟨⟨x', y'', rfl, rfl, h3⟩, hwc⟩ := hcut
  subst wc
  clear h2
  obtain ⟨hAB, hzx, hkk⟩ := HR.out x' y'' z h3.out.1 h3.out.2
  have hlA := hlR.out x' y''
  have hlB := hlR.out y'' z
  have hlC := hlR.out x' z
  have HrA : Hid _ := Lib.hid (fun w v hv => Hrg.out x' y'' w v hv)
  have HrB : Hid _ := Lib.hid (fun w v hv => Hrg.out y'' z w v hv)
  have HrC : Hid _ := Lib.hid (fun w v hv => Hrg.out x' z w v hv)
  have HrZ : Hid _ := Lib.hid (fun w v hv => Hrg.out z x' w v hv)
  clear Hrg HR hlR h3
  rw [hzx] at HrZ
  generalize R x' y'' = A at *
  generalize R y'' z = B at *
  generalize R x' z = C at *
  have HAB := Lib.hid hAB
  have Hkk := Lib.hid hkk
  clear hAB hzx hkk
  have cd := fun i => k_d.cell i
  go_wp2_with fail
  refine (HrA.out _ _ e_d.out).mono ?_
  rintro e w4 ⟨v_a, rfl, hen_a, hb4⟩
  obtain ⟨v5, w5, hr5, hown5, hb5⟩ := app_ents W0.heap.size (.slice none 0 0) 0 [] v_a A w4 23 (World.ownsRow_nil _ _ _ _) hen_a (by omega) hb4.size
  have hB5 := hb4.trans hb5
  rw [Nat.zero_add, List.nil_append] at hown5
  clear cd hb5 hb4 hen_a
  have cd := fun i => (k_d.on hB5).cell i
  go_wp2_with (refine wpList_append_run' _ rfl _ _ 23 23 rfl _ _ rfl rfl v5 w5 hr5 ?_)
  refine (HrB.out _ _ (e_d.out.on hB5)).mono ?_
  rintro e w6 ⟨v_b, rfl, hen_b, hb6⟩
  have hB6 := BW_on hB5 hb6
  obtain ⟨v7, w7, hr7, hown7, hb7⟩ := app_ents W0.heap.size v5 A.length (entV A) v_b B w6 23 (own_below hown5 hb6) hen_b (by omega) hB6.size
  have hB7 := hB6.trans hb7
  have hen7 : Ents w7 v7 C := by
    rw [← entV_app, HAB.out] at hown7
    have e9 : A.length + B.length = C.length := by rw [← HAB.out, List.length_append]
    rw [e9] at hown7
    exact own_ents hown7
  clear cd hb6 hb7 hen_b hown5 hown7 hB5 hB6 HAB
  have cd := fun i => (k_d.on hB7).cell i
  obtain ⟨q7, z7, rfl⟩ : ∃ q c, v7 = .slice q C.length c := hen7.len
  have e_7 := Lib.hid hen7
  clear hen7
  go_wp2_with (refine wpList_append_run' _ rfl _ _ 23 23 rfl _ _ rfl rfl _ w7 hr7 ?_)
  clear hr5 hr7
  refine (HrC.out _ _ (e_d.out.on hB7)).mono ?_
  rintro e w8 ⟨v_c, rfl, hen_c, hb8⟩
  clear cd
  go_wp2_with fail
  refine (Hsm.out _ _ _ C (by omega) (e_7.out.on hb8) hen_c).mono ?_
  rintro e w9 ⟨rfl, hb9⟩
  have hB9 := BW_on (BW_on hB7 hb8) hb9
  have k_e := k_d.on hB9
  have e_e := Lib.hid (e_d.out.on hB9)
  have e_9 := Lib.hid ((e_7.out.on hb8).on hb9)
  have BB9 := Lib.hid (BW_on BB'.out hB9)
  clear hen_c hb8 hb9 hB9 hB7 k_d e_d e_7 BB'
  go_wp2_with fail
  generalize w9 = W at *
  go_loopw [15, 16, 17] (fun i s16 s17 wr => ∃ k : Nat, k ≤ C.length ∧ i = .int .i64 (k : Int) ∧ Below W.heap.size W wr) (fun i _ _ _ => C.length - (intOf i).toNat)
  case atStart => exact ⟨0, by omega, rfl, BW_refl W⟩
  case round =>
    obtain ⟨k, hk, rfl, hb⟩ := hrel
    have ee := Lib.hid (e_e.out.on hb)
    have ke := k_e.on hb
    by_cases hlt : k < C.length
    · have e9 := e_9.out.on hb
      obtain ⟨_, _, g3, _, _, g4⟩ := e9.form
      obtain ⟨g0, off0, g5, hent⟩ := g4 (by omega)
      simp only [Value.slice.injEq] at g3
      obtain rfl := g3.1.trans g5
      have hc := hent k hlt
      have hx1 : ∀ w', Below wr.heap.size wr w' → w'.cell? ⟨g0, off0 + k * 2, none⟩ = some (.string C[k].1) := fun w' hb => ((hent.on hb) k hlt).1
      have hx2 : ∀ w', Below wr.heap.size wr w' → w'.cell? ⟨g0, off0 + k * 2 + 1, none⟩ = some (.string C[k].2) := fun w' hb => ((hent.on hb) k hlt).2
      obtain ⟨k1, k2, k3, k4⟩ := Hkk.out k hlt
      have hk1 : (k : Int) < (C.length : Int) := by omega
      have Hf1 : Hid (∀ w v, Ents w v E → Calls Try.prog 23 #[.agg #[v], .string C[k].1] w fun e w' => e = .returned (.tuple #[.int .i64 (pos E C[k].1 : Int), .bool true]) ∧ Below w.heap.size w w') := fun w v hv => by have h9 := Hfind.out C[k].1 w v hv; rw [k1] at h9; exact h9
      have Ha1 : Hid (∀ w v, Ents w v E → Calls Try.prog 24 #[.agg #[v], .int .i64 (pos E C[k].1 : Int)] w fun e w' => e = .returned (.agg #[.string C[k].1, .string C[k].2]) ∧ Below w.heap.size w w') := fun w v hv => by have h9 := Hat.out (pos E C[k].1 : Int) w v hv; rw [k2] at h9; exact h9
      have hb1 := bless_klt C[k].1 x'
      rw [decide_eq_false k3] at hb1
      have hb2 := bless_klt C[k].1 z
      rw [decide_eq_true k4] at hb2
      clear e9 hent g3 g4 g5 k1 k2 k3 k4
      generalize C[k].1 = a1 at *
      generalize C[k].2 = a2 at *
      generalize (pos E a1 : Int) = p1 at *
      have heq := ent_eq a1 a2
      replace ke := ke.heldk
      go_wp2_with fail
      go_region_held3 (fun w' => Below wr.heap.size wr w')
        ((first | exact (Below.refl _ _).drew | assumption | ((refine BW_on ?_ (by assumption)); assumption)))
        (first | (go_at_call 23; refine (Hf1.out _ _ (ee.out.on (by assumption))).mono ?_; rintro e wc1 ⟨rfl, hd1⟩))
      go_wp2_with fail
      go_region_held3 (fun w' => Below wr.heap.size wr w')
        ((first | exact (Below.refl _ _).drew | assumption | exact Below.drew (by assumption) | ((refine BW_on ?_ (by assumption)); assumption)))
        (first | (go_at_call 24; refine (Ha1.out _ _ (ee.out.on (by assumption))).mono ?_; rintro e wc2 ⟨rfl, hd2⟩))
      all_goals (go_wp2_with fail; go_roundw)
      case rel => exact ⟨k + 1, by omega, by go_num, BW_on hb (by assumption)⟩
      case measure => simp [intOf]; omega
    · obtain rfl : k = C.length := by omega
      replace ke := ke.heldk
      have ce := ke
      clear e_9 e_e k_e Hfind Hat Hkk
      go_wp2_with fail
      go_region_held3 (fun w' => Below wr.heap.size wr w')
        ((first | exact (Below.refl _ _).drew | assumption | ((refine BW_on ?_ (by assumption)); assumption)))
        (first | (go_at_call 25; refine (Hun.out _ _ (ee.out.on (by assumption))).mono ?_; rintro e wc1 ⟨vu, rfl, hu, hd1⟩) | (go_at_call 15; refine (Hall.out _ _ (ee.out.on (by assumption))).mono ?_; rintro e wc2 ⟨va, rfl, ha, hd2⟩) | (go_at_call 20; refine (Hsm.out _ _ _ E (by omega) (hu.on (by assumption)) ha).mono ?_; rintro e wc3 ⟨rfl, hd3⟩))
      have kf := ke _ (by assumption)
      have ef := Lib.hid (ee.out.on (by assumption))
      have BBf := Lib.hid (BW_on BB9.out (BW_on hb (by assumption)))
      clear ke ce ee BB9 hu ha hk hlt
      all_goals (go_wp2_with fail; refine (HrZ.out _ _ (ef.out)).mono ?_; rintro e wz ⟨vz, rfl, hen_z, hbz⟩; obtain ⟨qz, cz, rfl⟩ : ∃ q c, vz = .slice q [].length c := hen_z.len; go_wp2_with fail; go_ret; exact ⟨rfl, BW_on BBf.out hbz⟩)
end Go.Proofs.Ytkahnobignaccaa
