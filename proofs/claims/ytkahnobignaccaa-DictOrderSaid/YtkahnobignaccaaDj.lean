/- The law DictOrder: a map hangs on which entries were put last, not on the order (the walk, over the contracts of all that it calls). -/
import Derived.Test.YtkahnobignaccaaDi
import Derived.Test.YtkahnobignaccaaDh
import Derived.Deep.RegionHeld3
namespace Go.Proofs.Ytkahnobignaccaa
open Go.RowKit
attribute [local go_sem ↓] Go.wp_at_zero Go.wp_at_succ
theorem BB_end {w W Z V : World} (h1 : Below w.heap.size w W) (h2 : Below W.heap.size W Z) (h3 : Below Z.heap.size Z V) : Below w.heap.size w V := BW_on (BW_on h1 h2) h3
theorem Blk.held3 {w : World} {g : Nat} {t : TypeId} {cs : Array Value} (h : Blk w g t cs) : ∀ w', Below w.heap.size w w' → ∀ i, w'.cell? ⟨g, i, none⟩ = cs[i]? := fun _ hb i => (h.below hb h.lt).cell i
set_option maxHeartbeats 4000000 in
set_option maxRecDepth 100000 in
theorem order_walk (vl : Value) (L M E : List Ent) (twice : Bool) (w : World) (hv : Ents w vl L)
    (Hfew : Hid (∀ w v, Ents w v L → Calls Try.prog 14 #[v] w fun e w' => ∃ v', e = .returned v' ∧ Ents w' v' M ∧ Below w.heap.size w w')) (Hof : Hid (∀ w v, Ents w v M → Calls Try.prog 10 #[v] w fun e w' => ∃ v', e = .returned (.agg #[v']) ∧ Ents w' v' E ∧ Below w.heap.size w w')) (Hall : Hid (∀ w v, Ents w v E → Calls Try.prog 15 #[.agg #[v]] w fun e w' => ∃ v', e = .returned v' ∧ Ents w' v' E ∧ Below w.heap.size w w'))
    (Hof2 : Hid (∀ w v, Ents w v (E.reverse ++ if twice then E else []) → Calls Try.prog 10 #[v] w fun e w' => ∃ v', e = .returned (.agg #[v']) ∧ Ents w' v' E ∧ Below w.heap.size w w'))
    (Hof3 : Hid (∀ w v, Ents w v E → Calls Try.prog 10 #[v] w fun e w' => ∃ v', e = .returned (.agg #[v']) ∧ Ents w' v' E ∧ Below w.heap.size w w')) (Hlen : Hid (∀ w v, Ents w v E → Calls Try.prog 13 #[.agg #[v]] w fun e w' => e = .returned (.int .i64 (E.length : Int)) ∧ Below w.heap.size w w'))
    (Hs : Hid (∀ w v1 v2, Ents w v1 E → Ents w v2 E → Calls Try.prog 16 #[.agg #[v1], .agg #[v2]] w fun e w' => e = .returned (.bool true) ∧ Below w.heap.size w w'))
    (hl20 : E.length ≤ 20) :
    Calls Try.prog 4 #[vl, .bool twice] w fun e w' => e = .returned (.bool true) ∧ Below w.heap.size w w' := by
  obtain ⟨i0, hi0, hz0, hz1, hz2⟩ := info_parts infoE
  go_enter Try.func4, Try.ntmps4
  go_wp2_with fail
  have e_l := Lib.hid hv
  have BB := BW_refl w
  clear hv
  refine (awake08_any _).mono ?_
  rintro e w1 ⟨rfl, hb1⟩
  replace e_l := Lib.hid (e_l.out.on hb1)
  replace BB := BW_on BB hb1
  go_wp2_with fail
  refine (Hfew.out _ _ e_l.out).mono ?_
  rintro e w2 ⟨v_m, rfl, hen, hb2⟩
  replace e_l := Lib.hid (e_l.out.on hb2)
  replace BB := BW_on BB hb2
  have e_m := Lib.hid hen
  clear hen
  clear e_l
  go_wp2_with fail
  refine (Hof.out _ _ e_m.out).mono ?_
  rintro e w3 ⟨v_d, rfl, hen, hb3⟩
  replace e_m := Lib.hid (e_m.out.on hb3)
  replace BB := BW_on BB hb3
  obtain ⟨q_d, z_d, rfl⟩ : ∃ q c, v_d = .slice q E.length c := hen.len
  have e_d := Lib.hid hen
  clear hen
  clear e_m
  replace e_d := Lib.hid (e_d.out.on (BW_alloc (BW_refl _) (.cells #[.slice q_d E.length z_d] 28)))
  replace BB := BW_alloc BB (.cells #[.slice q_d E.length z_d] 28)
  have k_d := blk1 w3 28 #[.slice q_d E.length z_d]
  have c_d := fun i => k_d.cell i
  go_wp2_with fail
  refine (Hall.out _ _ e_d.out).mono ?_
  rintro e w4 ⟨v_m, rfl, hen, hb4⟩
  clear c_d
  replace k_d := k_d.on hb4
  replace e_d := Lib.hid (e_d.out.on hb4)
  replace BB := BW_on BB hb4
  obtain ⟨q_m, z_m, rfl⟩ : ∃ q c, v_m = .slice q E.length c := hen.len
  have e_m := Lib.hid hen
  clear hen
  go_wp2_with fail
  generalize hWW : w4 = W at *
  have BB' := Lib.hid BB
  clear BB hWW hb4
  go_loopw [8, 9] (fun o i wr => ∃ k : Nat, k ≤ E.length ∧ i = .int .i64 ((k : Int) - 1) ∧ wr.ownsRow W.heap.size 26 2 o (E.length - k) (entV (E.drop k).reverse) ∧ Below W.heap.size W wr) (fun _ i _ => (intOf i + 1).toNat)
  case atStart =>
    refine ⟨E.length, Nat.le_refl _, rfl, ?_, BW_refl W⟩
    rw [Nat.sub_self, List.drop_length]
    exact World.ownsRow_nil _ _ _ _
  case round =>
    obtain ⟨k, hk, rfl, hown, hb⟩ := hrel
    have e_m' := e_m.out.on hb
    have hsz := hb.size
    cases k with
    | succ k =>
      have hi : (((k + 1 : Nat) : Int) - 1) = (k : Int) := by omega
      rw [hi]
      obtain ⟨_, _, h3, _, _, h4⟩ := e_m'.form
      obtain ⟨g0, off0, h5, hent⟩ := h4 (by omega)
      simp only [Value.slice.injEq] at h3
      obtain rfl := h3.1.trans h5
      have hc := hent k (by omega)
      have hvv : entV (E.drop k).reverse = entV (E.drop (k + 1)).reverse ++ [.string E[k].1, .string E[k].2] := by
        rw [List.drop_eq_getElem_cons (by omega), List.reverse_cons, entV_app]; rfl
      have hkl : E.length - k = (E.length - (k + 1)) + 1 := by omega
      have Hkl := Lib.hid hkl
      have Hvv := Lib.hid hvv
      have h1 : (k : Int) < (E.length : Int) := by omega
      have hnn : E.length - (k + 1) ≤ 20 := by omega
      clear hent h3 h4 h5 hvv hi hkl e_m'
      generalize E[k].1 = a1 at *
      generalize E[k].2 = a2 at *
      generalize E.length - (k + 1) = n at *
      go_wp2_with (at_builtin; go_must (refine wpList_push_at rfl _ _ 23 rfl W.heap.size 26 i0 (.agg #[.string ⟨#[]⟩, .string ⟨#[]⟩]) 2 32 Try.underlying23 hi0 hz0 hz1 hz2 rfl (by decide) _ _ _ rfl hown [.string a1, .string a2] _ rfl rfl rfl rfl (by unfold maxLen; omega) (by omega) (by omega) ?_); intro v1 w3' hown3 hb3' hz3)
      rw [← Hvv.out] at hown3
      go_roundw
      case rel => exact ⟨k, by omega, rfl, by rw [Hkl.out]; exact hown3, hb.trans hb3'⟩
      case measure => first | (simp [intOf]; done) | (simp [intOf]; omega)
    | zero =>
      rw [Nat.sub_zero, List.drop_zero] at hown
      have hi : (((0 : Nat) : Int) - 1) = -1 := rfl
      rw [hi]
      have kd := k_d.on hb
      have ed := Lib.hid (e_d.out.on hb)
      have em := Lib.hid e_m'
      clear e_m' hi
      cases twice with
      | false =>
        have hrl : E.length = E.reverse.length := List.length_reverse.symm
        have hown2 := hown
        rw [hrl] at hown2
        have et : Ents wr u8 (E.reverse ++ if false = true then E else []) := by
          rw [if_neg (by decide), List.append_nil]; exact own_ents hown2
        clear hrl hown hown2
        have cd := fun i => kd.cell i
        go_wp2_with fail
        refine (Hof2.out _ _ et).mono ?_
        rintro e w6 ⟨v6, rfl, hen6, hb6⟩
        obtain ⟨q6, z6, rfl⟩ : ∃ q c, v6 = .slice q E.length c := hen6.len
        have kd6 := (kd.on hb6).alloc (.cells #[.slice q6 E.length z6] 28)
        have ke6 := blk1 w6 28 #[.slice q6 E.length z6]
        have hB6 := BW_alloc (BW_on hb hb6) (.cells #[.slice q6 E.length z6] 28)
        have ed6 := Lib.hid ((ed.out.on hb6).on (BW_alloc (BW_refl _) (.cells #[.slice q6 E.length z6] 28)))
        have em6 := Lib.hid ((em.out.on hb6).on (BW_alloc (BW_refl _) (.cells #[.slice q6 E.length z6] 28)))
        have ee6 := Lib.hid (hen6.on (BW_alloc (BW_refl _) (.cells #[.slice q6 E.length z6] 28)))
        clear hen6 cd et
        go_wp2_with fail
        generalize hZ : w6.alloc (.cells #[.slice q6 E.length z6] 28) = Z at *
        replace kd6 := kd6.held3
        replace ke6 := ke6.held3
        clear hZ
        go_region_held3 (fun w' => Below Z.heap.size Z w')
          ((first | exact (Below.refl _ _).drew | assumption | ((refine BW_on ?_ (by assumption)); assumption)))
          (first | (go_at_call 16; refine (Hs.out _ _ _ (ed6.out.on (by assumption)) (ee6.out.on (by assumption))).mono ?_; rintro e wc1 ⟨rfl, hd1⟩) | (go_at_call 10; refine (Hof3.out _ _ (em6.out.on (by assumption))).mono ?_; rintro e wc2 ⟨v7, rfl, hen7, hd2⟩) | (go_at_call 16; refine (Hs.out _ _ _ hen7 (ed6.out.on (by assumption))).mono ?_; rintro e wc3 ⟨rfl, hd3⟩) | (go_at_call 13; refine (Hlen.out _ _ (ee6.out.on (by assumption))).mono ?_; rintro e wc4 ⟨rfl, hd4⟩))
        all_goals (go_wp2_with fail; go_ret; exact ⟨rfl, BB_end BB'.out hB6 (by assumption)⟩)
      | true =>
        obtain ⟨v5, w5, hr5, hown5, hb5⟩ := app_ents W.heap.size u8 E.length (entV E.reverse) _ E wr 23 hown em.out (by omega) hsz
        have hB5 : Below W.heap.size W w5 := hb.trans hb5
        have et : Ents w5 v5 (E.reverse ++ if true = true then E else []) := by
          rw [if_pos rfl]
          rw [← entV_app] at hown5
          have e9 : E.length + E.length = (E.reverse ++ E).length := by rw [List.length_append, List.length_reverse]
          rw [e9] at hown5
          exact own_ents hown5
        clear hown hown5 kd ed em
        have kd := k_d.on hB5
        have ed := Lib.hid (e_d.out.on hB5)
        have em := Lib.hid (e_m.out.on hB5)
        have cd := fun i => kd.cell i
        go_wp2_with (refine wpList_append_run' _ rfl _ _ 23 23 rfl _ _ rfl rfl v5 w5 hr5 ?_)
        refine (Hof2.out _ _ et).mono ?_
        rintro e w6 ⟨v6, rfl, hen6, hb6⟩
        obtain ⟨q6, z6, rfl⟩ : ∃ q c, v6 = .slice q E.length c := hen6.len
        have kd6 := (kd.on hb6).alloc (.cells #[.slice q6 E.length z6] 28)
        have ke6 := blk1 w6 28 #[.slice q6 E.length z6]
        have hB6 := BW_alloc (BW_on hB5 hb6) (.cells #[.slice q6 E.length z6] 28)
        have ed6 := Lib.hid ((ed.out.on hb6).on (BW_alloc (BW_refl _) (.cells #[.slice q6 E.length z6] 28)))
        have em6 := Lib.hid ((em.out.on hb6).on (BW_alloc (BW_refl _) (.cells #[.slice q6 E.length z6] 28)))
        have ee6 := Lib.hid (hen6.on (BW_alloc (BW_refl _) (.cells #[.slice q6 E.length z6] 28)))
        clear hen6 cd et
        go_wp2_with fail
        generalize hZ : w6.alloc (.cells #[.slice q6 E.length z6] 28) = Z at *
        replace kd6 := kd6.held3
        replace ke6 := ke6.held3
        clear hZ
        go_region_held3 (fun w' => Below Z.heap.size Z w')
          ((first | exact (Below.refl _ _).drew | assumption | ((refine BW_on ?_ (by assumption)); assumption)))
          (first | (go_at_call 16; refine (Hs.out _ _ _ (ed6.out.on (by assumption)) (ee6.out.on (by assumption))).mono ?_; rintro e wc1 ⟨rfl, hd1⟩) | (go_at_call 10; refine (Hof3.out _ _ (em6.out.on (by assumption))).mono ?_; rintro e wc2 ⟨v7, rfl, hen7, hd2⟩) | (go_at_call 16; refine (Hs.out _ _ _ hen7 (ed6.out.on (by assumption))).mono ?_; rintro e wc3 ⟨rfl, hd3⟩) | (go_at_call 13; refine (Hlen.out _ _ (ee6.out.on (by assumption))).mono ?_; rintro e wc4 ⟨rfl, hd4⟩))
        all_goals (go_wp2_with fail; go_ret; exact ⟨rfl, BB_end BB'.out hB6 (by assumption)⟩)
end Go.Proofs.Ytkahnobignaccaa
