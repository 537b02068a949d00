/- The law DictAsks: a map tells what the document says (the walk, over the contracts of all that it calls). -/
import Derived.Test.YtkahnobignaccaaD13
import Derived.Test.YtkahnobignaccaaDf
namespace Go.Proofs.Ytkahnobignaccaa
open Go.RowKit
attribute [local go_sem ↓] Go.wp_at_zero Go.wp_at_succ
theorem Blk.held {w : World} {g : Nat} {t : TypeId} {cs : Array Value} (h : Blk w g t cs) : ∀ w', Below w.heap.size w w' → ∀ i, w'.cell? ⟨g, i, none⟩ = cs[i]? := fun _ hb i => (h.below hb h.lt).cell i
set_option maxHeartbeats 4000000 in
set_option maxRecDepth 100000 in
theorem asks_walk (vl : Value) (L M E R U : List Ent) (q0 q1 a b g x1 x2 : ByteArray) (h : Bool) (p i : Int) (w : World) (hv : Ents w vl L)
    (Hfew : Hid (∀ w v, Ents w v L → Calls Try.prog 14 #[v] w fun e w' => ∃ v', e = .returned v' ∧ Ents w' v' M ∧ Below w.heap.size w w')) (Hof : Hid (∀ w v, Ents w v M → Calls Try.prog 10 #[v] w fun e w' => ∃ v', e = .returned (.agg #[v']) ∧ Ents w' v' E ∧ Below w.heap.size w w')) (Hrof : Hid (∀ w v, Ents w v M → Calls Try.prog 26 #[v] w fun e w' => ∃ v', e = .returned v' ∧ Ents w' v' E ∧ Below w.heap.size w w'))
    (Ha : Hid (∀ w, Calls Try.prog 17 #[.string q0, .int .i64 12] w fun e w' => e = .returned (.string a) ∧ w = w')) (Hb : Hid (∀ w, Calls Try.prog 17 #[.string q1, .int .i64 12] w fun e w' => e = .returned (.string b) ∧ w = w'))
    (Hget : Hid (∀ w v, Ents w v E → Calls Try.prog 12 #[.agg #[v], .string a] w fun e w' => e = .returned (.tuple #[.string g, .bool h]) ∧ Below w.heap.size w w')) (Hrget : Hid (∀ w v, Ents w v E → Calls Try.prog 27 #[v, .string a] w fun e w' => e = .returned (.tuple #[.string g, .bool h]) ∧ w = w'))
    (Hfind : Hid (∀ w v, Ents w v E → Calls Try.prog 23 #[.agg #[v], .string a] w fun e w' => e = .returned (.tuple #[.int .i64 p, .bool h]) ∧ Below w.heap.size w w')) (Hrfind : Hid (∀ w v, Ents w v E → Calls Try.prog 28 #[v, .string a] w fun e w' => e = .returned (.tuple #[.int .i64 p, .bool h]) ∧ Below w.heap.size w w'))
    (Hall : Hid (∀ w v, Ents w v E → Calls Try.prog 15 #[.agg #[v]] w fun e w' => ∃ v', e = .returned v' ∧ Ents w' v' E ∧ Below w.heap.size w w')) (Hrg : Hid (∀ w v, Ents w v E → Calls Try.prog 22 #[.agg #[v], .string a, .string b] w fun e w' => ∃ v', e = .returned v' ∧ Ents w' v' R ∧ Below w.heap.size w w')) (Hrrg : Hid (∀ w v, Ents w v E → Calls Try.prog 29 #[v, .string a, .string b] w fun e w' => ∃ v', e = .returned v' ∧ Ents w' v' R ∧ Below w.heap.size w w'))
    (Hun : Hid (∀ w v, Ents w v E → Calls Try.prog 25 #[.agg #[v], .string a] w fun e w' => ∃ v', e = .returned v' ∧ Ents w' v' U ∧ Below w.heap.size w w')) (Hrun : Hid (∀ w v, Ents w v E → Calls Try.prog 30 #[v, .string a] w fun e w' => ∃ v', e = .returned v' ∧ Ents w' v' U ∧ Below w.heap.size w w'))
    (Hat : Hid (∀ w v, Ents w v E → Calls Try.prog 24 #[.agg #[v], .int .i64 i] w fun e w' => e = .returned (.agg #[.string x1, .string x2]) ∧ Below w.heap.size w w')) (Hlen : Hid (∀ w v, Ents w v E → Calls Try.prog 13 #[.agg #[v]] w fun e w' => e = .returned (.int .i64 (E.length : Int)) ∧ Below w.heap.size w w'))
    (Hsm : Hid (∀ w v1 v2 F, F.length ≤ 1000000 → Ents w v1 F → Ents w v2 F → Calls Try.prog 20 #[v1, v2] w fun e w' => e = .returned (.bool true) ∧ Below w.heap.size w w'))
    (hlE : E.length ≤ 2000) (hlR : R.length ≤ 1000000) (hlU : U.length ≤ 1000000)
    (Hi : Hid ((¬ (0 : Int) ≤ i ∧ x1 = ⟨#[]⟩ ∧ x2 = ⟨#[]⟩) ∨ ((0 : Int) ≤ i ∧ ¬ i < (E.length : Int) ∧ x1 = ⟨#[]⟩ ∧ x2 = ⟨#[]⟩) ∨ (∃ n : Nat, i = (n : Int) ∧ ∃ h : n < E.length, E[n] = (x1, x2)))) :
    Calls Try.prog 7 #[vl, .agg #[.string q0, .string q1], .int .i64 i] w fun e w' => e = .returned (.bool true) ∧ Below w.heap.size w w' := by
  go_enter Try.func7, Try.ntmps7
  go_wp2_with fail
  have k_q := blk1 w 61 #[.string q0, .string q1]
  have e_l := Lib.hid (hv.on (BW_alloc (BW_refl w) (.cells #[.string q0, .string q1] 61)))
  have BB := BW_alloc (BW_refl w) (.cells #[.string q0, .string q1] 61)
  clear hv
  refine (awake08_any _).mono ?_
  rintro e w1 ⟨rfl, hb1⟩
  replace k_q := k_q.on hb1
  replace e_l := Lib.hid (e_l.out.on hb1)
  replace BB := BW_on BB hb1
  have c_q := fun i => k_q.cell i
  go_wp2_with fail
  refine (Hfew.out _ _ e_l.out).mono ?_
  rintro e w2 ⟨v_m, rfl, hen, hb2⟩
  clear c_q
  replace k_q := k_q.on hb2
  replace e_l := Lib.hid (e_l.out.on hb2)
  replace BB := BW_on BB hb2
  have e_m := Lib.hid hen
  clear hen
  clear e_l
  have c_q := fun i => k_q.cell i
  go_wp2_with fail
  refine (Hof.out _ _ e_m.out).mono ?_
  rintro e w3 ⟨v_d, rfl, hen, hb3⟩
  clear c_q
  replace k_q := k_q.on hb3
  replace e_m := Lib.hid (e_m.out.on hb3)
  replace BB := BW_on BB hb3
  obtain ⟨q_d, z_d, rfl⟩ : ∃ q c, v_d = .slice q E.length c := hen.len
  have e_d := Lib.hid hen
  clear hen
  replace k_q := k_q.alloc (.cells #[.slice q_d E.length z_d] 28)
  replace e_m := Lib.hid (e_m.out.on (BW_alloc (BW_refl _) (.cells #[.slice q_d E.length z_d] 28)))
  replace e_d := Lib.hid (e_d.out.on (BW_alloc (BW_refl _) (.cells #[.slice q_d E.length z_d] 28)))
  replace BB := BW_alloc BB (.cells #[.slice q_d E.length z_d] 28)
  have k_d := blk1 w3 28 #[.slice q_d E.length z_d]
  have c_q := fun i => k_q.cell i
  have c_d := fun i => k_d.cell i
  go_wp2_with fail
  refine (Hrof.out _ _ e_m.out).mono ?_
  rintro e w4 ⟨v_r, rfl, hen, hb4⟩
  clear c_q c_d
  replace k_q := k_q.on hb4
  replace k_d := k_d.on hb4
  replace e_m := Lib.hid (e_m.out.on hb4)
  replace e_d := Lib.hid (e_d.out.on hb4)
  replace BB := BW_on BB hb4
  obtain ⟨q_r, z_r, rfl⟩ : ∃ q c, v_r = .slice q E.length c := hen.len
  have e_r := Lib.hid hen
  clear hen
  clear e_m
  have c_q := fun i => k_q.cell i
  have c_d := fun i => k_d.cell i
  go_wp2_with fail
  refine (Ha.out _).mono ?_
  rintro e w' ⟨rfl, rfl⟩
  go_wp2_with fail
  refine (Hb.out _).mono ?_
  rintro e w' ⟨rfl, rfl⟩
  go_wp2_with fail
  refine (Hget.out _ _ e_d.out).mono ?_
  rintro e w7 ⟨rfl, hb7⟩
  clear c_q c_d
  replace k_q := k_q.on hb7
  replace k_d := k_d.on hb7
  replace e_d := Lib.hid (e_d.out.on hb7)
  replace e_r := Lib.hid (e_r.out.on hb7)
  replace BB := BW_on BB hb7
  have c_q := fun i => k_q.cell i
  have c_d := fun i => k_d.cell i
  go_wp2_with fail
  refine (Hrget.out _ _ e_r.out).mono ?_
  rintro e w' ⟨rfl, rfl⟩
  go_wp2_with fail
  refine (Hfind.out _ _ e_d.out).mono ?_
  rintro e w9 ⟨rfl, hb9⟩
  clear c_q c_d
  replace k_q := k_q.on hb9
  replace k_d := k_d.on hb9
  replace e_d := Lib.hid (e_d.out.on hb9)
  replace e_r := Lib.hid (e_r.out.on hb9)
  replace BB := BW_on BB hb9
  have c_q := fun i => k_q.cell i
  have c_d := fun i => k_d.cell i
  go_wp2_with fail
  refine (Hrfind.out _ _ e_r.out).mono ?_
  rintro e w10 ⟨rfl, hb10⟩
  clear c_q c_d
  replace k_q := k_q.on hb10
  replace k_d := k_d.on hb10
  replace e_d := Lib.hid (e_d.out.on hb10)
  replace e_r := Lib.hid (e_r.out.on hb10)
  replace BB := BW_on BB hb10
  have c_q := fun i => k_q.cell i
  have c_d := fun i => k_d.cell i
  go_wp2_with fail
  refine (Hall.out _ _ e_d.out).mono ?_
  rintro e w11 ⟨v_a, rfl, hen, hb11⟩
  clear c_q c_d
  replace k_q := k_q.on hb11
  replace k_d := k_d.on hb11
  replace e_d := Lib.hid (e_d.out.on hb11)
  replace e_r := Lib.hid (e_r.out.on hb11)
  replace BB := BW_on BB hb11
  have e_a := Lib.hid hen
  clear hen
  have c_q := fun i => k_q.cell i
  have c_d := fun i => k_d.cell i
  go_wp2_with fail
  refine (Hsm.out _ _ _ E (by omega) e_a.out e_r.out).mono ?_
  rintro e w12 ⟨rfl, hb12⟩
  clear c_q c_d
  replace k_q := k_q.on hb12
  replace k_d := k_d.on hb12
  replace e_d := Lib.hid (e_d.out.on hb12)
  replace e_r := Lib.hid (e_r.out.on hb12)
  replace e_a := Lib.hid (e_a.out.on hb12)
  replace BB := BW_on BB hb12
  have c_q := fun i => k_q.cell i
  have c_d := fun i => k_d.cell i
  clear e_a
  go_wp2_with fail
  refine (Hrg.out _ _ e_d.out).mono ?_
  rintro e w13 ⟨v_b, rfl, hen, hb13⟩
  clear c_q c_d
  replace k_q := k_q.on hb13
  replace k_d := k_d.on hb13
  replace e_d := Lib.hid (e_d.out.on hb13)
  replace e_r := Lib.hid (e_r.out.on hb13)
  replace BB := BW_on BB hb13
  have e_b := Lib.hid hen
  clear hen
  have c_q := fun i => k_q.cell i
  have c_d := fun i => k_d.cell i
  go_wp2_with fail
  refine (Hrrg.out _ _ e_r.out).mono ?_
  rintro e w14 ⟨v_c, rfl, hen, hb14⟩
  clear c_q c_d
  replace k_q := k_q.on hb14
  replace k_d := k_d.on hb14
  replace e_d := Lib.hid (e_d.out.on hb14)
  replace e_r := Lib.hid (e_r.out.on hb14)
  replace e_b := Lib.hid (e_b.out.on hb14)
  replace BB := BW_on BB hb14
  have e_c := Lib.hid hen
  clear hen
  have c_q := fun i => k_q.cell i
  have c_d := fun i => k_d.cell i
  go_wp2_with fail
  refine (Hsm.out _ _ _ R hlR e_b.out e_c.out).mono ?_
  rintro e w15 ⟨rfl, hb15⟩
  clear c_q c_d
  replace k_q := k_q.on hb15
  replace k_d := k_d.on hb15
  replace e_d := Lib.hid (e_d.out.on hb15)
  replace e_r := Lib.hid (e_r.out.on hb15)
  replace e_b := Lib.hid (e_b.out.on hb15)
  replace e_c := Lib.hid (e_c.out.on hb15)
  replace BB := BW_on BB hb15
  have c_q := fun i => k_q.cell i
  have c_d := fun i => k_d.cell i
  clear e_b
  clear e_c
  go_wp2_with fail
  refine (Hun.out _ _ e_d.out).mono ?_
  rintro e w16 ⟨v_b, rfl, hen, hb16⟩
  clear c_q c_d
  replace k_q := k_q.on hb16
  replace k_d := k_d.on hb16
  replace e_d := Lib.hid (e_d.out.on hb16)
  replace e_r := Lib.hid (e_r.out.on hb16)
  replace BB := BW_on BB hb16
  have e_b := Lib.hid hen
  clear hen
  have c_q := fun i => k_q.cell i
  have c_d := fun i => k_d.cell i
  go_wp2_with fail
  refine (Hrun.out _ _ e_r.out).mono ?_
  rintro e w17 ⟨v_c, rfl, hen, hb17⟩
  clear c_q c_d
  replace k_q := k_q.on hb17
  replace k_d := k_d.on hb17
  replace e_d := Lib.hid (e_d.out.on hb17)
  replace e_r := Lib.hid (e_r.out.on hb17)
  replace e_b := Lib.hid (e_b.out.on hb17)
  replace BB := BW_on BB hb17
  have e_c := Lib.hid hen
  clear hen
  have c_q := fun i => k_q.cell i
  have c_d := fun i => k_d.cell i
  go_wp2_with fail
  refine (Hsm.out _ _ _ U hlU e_b.out e_c.out).mono ?_
  rintro e w18 ⟨rfl, hb18⟩
  clear c_q c_d
  replace k_q := k_q.on hb18
  replace k_d := k_d.on hb18
  replace e_d := Lib.hid (e_d.out.on hb18)
  replace e_r := Lib.hid (e_r.out.on hb18)
  replace e_b := Lib.hid (e_b.out.on hb18)
  replace e_c := Lib.hid (e_c.out.on hb18)
  replace BB := BW_on BB hb18
  have c_q := fun i => k_q.cell i
  have c_d := fun i => k_d.cell i
  clear e_b
  clear e_c
  clear c_q c_d
  have BB' := Lib.hid BB
  clear BB
  clear k_q
  rcases Hi.out with ⟨h1, rfl, rfl⟩ | ⟨h1, h2, rfl, rfl⟩ | ⟨n, rfl, h1, h2⟩
  · replace k_d := k_d.alloc (.cells #[.string ⟨#[]⟩, .string ⟨#[]⟩] 26)
    replace BB' := Lib.hid (BW_alloc BB'.out (.cells #[.string ⟨#[]⟩, .string ⟨#[]⟩] 26))
    replace e_d := Lib.hid (e_d.out.on (BW_alloc (BW_refl _) (.cells #[.string ⟨#[]⟩, .string ⟨#[]⟩] 26)))
    have k_t := Blk.new w18 26 #[.string ⟨#[]⟩, .string ⟨#[]⟩]
    go_wp2_with fail
    generalize hWW : w18.alloc (.cells #[.string ⟨#[]⟩, .string ⟨#[]⟩] 26) = W at *
    replace k_d := k_d.held
    replace k_t := k_t.held
    clear hWW
    have heq := ent_eq ⟨#[]⟩ ⟨#[]⟩
    go_region_held3 (fun w' => Below W.heap.size W w')
      ((first | exact (Below.refl _ _).drew | assumption | ((refine BW_on ?_ (by assumption)); assumption)))
      (first | (go_at_call 24; refine (Hat.out _ _ (e_d.out.on (by assumption))).mono ?_; rintro e wc1 ⟨rfl, hd1⟩) | (go_at_call 13; refine (Hlen.out _ _ (e_d.out.on (by assumption))).mono ?_; rintro e wc2 ⟨rfl, hd2⟩))
    all_goals (go_wp2_with fail; go_ret; exact ⟨rfl, BW_on BB'.out (by assumption)⟩)
  · replace k_d := k_d.alloc (.cells #[.string ⟨#[]⟩, .string ⟨#[]⟩] 26)
    replace BB' := Lib.hid (BW_alloc BB'.out (.cells #[.string ⟨#[]⟩, .string ⟨#[]⟩] 26))
    replace e_d := Lib.hid (e_d.out.on (BW_alloc (BW_refl _) (.cells #[.string ⟨#[]⟩, .string ⟨#[]⟩] 26)))
    have k_t := Blk.new w18 26 #[.string ⟨#[]⟩, .string ⟨#[]⟩]
    go_wp2_with fail
    generalize hWW : w18.alloc (.cells #[.string ⟨#[]⟩, .string ⟨#[]⟩] 26) = W at *
    replace k_d := k_d.held
    replace k_t := k_t.held
    clear hWW
    have heq := ent_eq ⟨#[]⟩ ⟨#[]⟩
    go_region_held3 (fun w' => Below W.heap.size W w')
      ((first | exact (Below.refl _ _).drew | assumption | ((refine BW_on ?_ (by assumption)); assumption)))
      (first | (go_at_call 24; refine (Hat.out _ _ (e_d.out.on (by assumption))).mono ?_; rintro e wc1 ⟨rfl, hd1⟩) | (go_at_call 13; refine (Hlen.out _ _ (e_d.out.on (by assumption))).mono ?_; rintro e wc2 ⟨rfl, hd2⟩))
    all_goals (go_wp2_with fail; go_ret; exact ⟨rfl, BW_on BB'.out (by assumption)⟩)
  · obtain ⟨g0, off0, hq, hc⟩ : ∃ g off, q_r = some ⟨g, off, none⟩ ∧ EntC _ g off E := by
      obtain ⟨_, _, h3, _, _, h4⟩ := e_r.out.form
      obtain ⟨g, off, h5, h6⟩ := h4 (by omega)
      simp only [Value.slice.injEq] at h3
      exact ⟨g, off, h3.1.trans h5, h6⟩
    subst hq
    have hc2 := (hc.on (BW_alloc (BW_refl _) (.cells #[.string ⟨#[]⟩, .string ⟨#[]⟩] 26))) n h1
    rw [h2] at hc2
    have h3 : (n : Int) < (E.length : Int) := by omega
    clear hc h2
    have f_t := fun i => (Blk.new w18 26 #[.string ⟨#[]⟩, .string ⟨#[]⟩]).free i
    replace k_d := k_d.alloc (.cells #[.string x1, .string x2] 26)
    replace BB' := Lib.hid (BW_alloc BB'.out (.cells #[.string x1, .string x2] 26))
    replace e_d := Lib.hid (e_d.out.on (BW_alloc (BW_refl _) (.cells #[.string x1, .string x2] 26)))
    have k_t := Blk.new w18 26 #[.string x1, .string x2]
    go_wp2_with fail
    generalize hWW : w18.alloc (.cells #[.string x1, .string x2] 26) = W at *
    replace k_d := k_d.held
    replace k_t := k_t.held
    clear hWW
    have heq := ent_eq x1 x2
    go_region_held3 (fun w' => Below W.heap.size W w')
      ((first | exact (Below.refl _ _).drew | assumption | ((refine BW_on ?_ (by assumption)); assumption)))
      (first | (go_at_call 24; refine (Hat.out _ _ (e_d.out.on (by assumption))).mono ?_; rintro e wc1 ⟨rfl, hd1⟩) | (go_at_call 13; refine (Hlen.out _ _ (e_d.out.on (by assumption))).mono ?_; rintro e wc2 ⟨rfl, hd2⟩))
    all_goals (go_wp2_with fail; go_ret; exact ⟨rfl, BW_on BB'.out (by assumption)⟩)
end Go.Proofs.Ytkahnobignaccaa
