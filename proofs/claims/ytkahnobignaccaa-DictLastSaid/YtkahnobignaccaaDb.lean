/- The law DictLast: what is put is there, what is dropped is not (the walk, over the contracts of all that it calls). -/
import Derived.Test.YtkahnobignaccaaD13
import Derived.Test.YtkahnobignaccaaDf
namespace Go.Proofs.Ytkahnobignaccaa
open Go.RowKit
attribute [local go_sem ↓] Go.wp_at_zero Go.wp_at_succ
theorem Blk.held2 {w : World} {g : Nat} {t : TypeId} {cs : Array Value} (h : Blk w g t cs) : ∀ w', Below w.heap.size w w' → ∀ i, w'.cell? ⟨g, i, none⟩ = cs[i]? := fun _ hb i => (h.below hb h.lt).cell i
set_option maxHeartbeats 4000000 in
set_option maxRecDepth 100000 in
theorem last_walk (vl : Value) (L M E E2 G : List Ent) (x0 x1 key k vv o b c z had : ByteArray) (j h was s1 s2 : Bool) (w : World) (hv : Ents w vl L)
    (Hfew : Hid (∀ w v, Ents w v L → Calls Try.prog 14 #[v] w fun e w' => ∃ v', e = .returned v' ∧ Ents w' v' M ∧ Below w.heap.size w w')) (Hof : Hid (∀ w v, Ents w v M → Calls Try.prog 10 #[v] w fun e w' => ∃ v', e = .returned (.agg #[v']) ∧ Ents w' v' E ∧ Below w.heap.size w w'))
    (Hk : Hid (∀ w, Calls Try.prog 17 #[.string x0, .int .i64 12] w fun e w' => e = .returned (.string k) ∧ w = w')) (Hv : Hid (∀ w, Calls Try.prog 17 #[.string x1, .int .i64 12] w fun e w' => e = .returned (.string vv) ∧ w = w')) (Ho : Hid (∀ w, Calls Try.prog 17 #[.string key, .int .i64 12] w fun e w' => e = .returned (.string o) ∧ w = w'))
    (Hput : Hid (∀ w v, Ents w v E → Calls Try.prog 11 #[.agg #[v], .string k, .string vv] w fun e w' => ∃ v', e = .returned (.tuple #[.agg #[v'], .int .i64 0]) ∧ Ents w' v' E2 ∧ Below w.heap.size w w')) (Hdrop : Hid (∀ w v, Ents w v E2 → Calls Try.prog 18 #[.agg #[v], .string k] w fun e w' => ∃ v', e = .returned (.tuple #[.agg #[v'], .bool true]) ∧ Ents w' v' G ∧ Below w.heap.size w w'))
    (Hgk2 : Hid (∀ w v, Ents w v E2 → Calls Try.prog 12 #[.agg #[v], .string k] w fun e w' => e = .returned (.tuple #[.string vv, .bool true]) ∧ Below w.heap.size w w')) (Hgo2 : Hid (∀ w v, Ents w v E2 → Calls Try.prog 12 #[.agg #[v], .string o] w fun e w' => e = .returned (.tuple #[.string b, .bool j]) ∧ Below w.heap.size w w'))
    (Hgo : Hid (∀ w v, Ents w v E → Calls Try.prog 12 #[.agg #[v], .string o] w fun e w' => e = .returned (.tuple #[.string c, .bool h]) ∧ Below w.heap.size w w')) (Hgg : Hid (∀ w v, Ents w v G → Calls Try.prog 12 #[.agg #[v], .string k] w fun e w' => e = .returned (.tuple #[.string z, .bool false]) ∧ Below w.heap.size w w')) (Hgd : Hid (∀ w v, Ents w v E → Calls Try.prog 12 #[.agg #[v], .string k] w fun e w' => e = .returned (.tuple #[.string had, .bool was]) ∧ Below w.heap.size w w'))
    (Hs1 : Hid (∀ w v1 v2, Ents w v1 E → Ents w v2 E2 → Calls Try.prog 16 #[.agg #[v1], .agg #[v2]] w fun e w' => e = .returned (.bool s1) ∧ Below w.heap.size w w')) (Hs2 : Hid (∀ w v1 v2, Ents w v1 G → Ents w v2 E → Calls Try.prog 16 #[.agg #[v1], .agg #[v2]] w fun e w' => e = .returned (.bool s2) ∧ Below w.heap.size w w')) (Hs3 : Hid (∀ w v1 v2, Ents w v1 E2 → Ents w v2 E2 → Calls Try.prog 16 #[.agg #[v1], .agg #[v2]] w fun e w' => e = .returned (.bool true) ∧ Below w.heap.size w w'))
    (Hok : Hid ((o.toList == k.toList) = true ∨ ((o.toList == k.toList) = false ∧ b = c ∧ j = h)))
    (Hw : Hid ((was = false ∧ s1 = false ∧ s2 = true) ∨ (was = true ∧ (had.toList == vv.toList) = true ∧ s1 = true ∧ s2 = false) ∨ (was = true ∧ (had.toList == vv.toList) = false ∧ s1 = false ∧ s2 = false))) :
    Calls Try.prog 8 #[vl, .agg #[.string x0, .string x1], .string key] w fun e w' => e = .returned (.bool true) ∧ Below w.heap.size w w' := by
  go_enter Try.func8, Try.ntmps8
  go_wp2_with fail
  have k_x := blk1 w 26 #[.string x0, .string x1]
  have e_l := Lib.hid (hv.on (BW_alloc (BW_refl w) (.cells #[.string x0, .string x1] 26)))
  have BB := BW_alloc (BW_refl w) (.cells #[.string x0, .string x1] 26)
  clear hv
  refine (awake08_any _).mono ?_
  rintro e w1 ⟨rfl, hb1⟩
  replace k_x := k_x.on hb1
  replace e_l := Lib.hid (e_l.out.on hb1)
  replace BB := BW_on BB hb1
  have c_x := fun i => k_x.cell i
  go_wp2_with fail
  refine (Hfew.out _ _ e_l.out).mono ?_
  rintro e w2 ⟨v_m, rfl, hen, hb2⟩
  clear c_x
  replace k_x := k_x.on hb2
  replace e_l := Lib.hid (e_l.out.on hb2)
  replace BB := BW_on BB hb2
  have e_m := Lib.hid hen
  clear hen
  clear e_l
  have c_x := fun i => k_x.cell i
  go_wp2_with fail
  refine (Hof.out _ _ e_m.out).mono ?_
  rintro e w3 ⟨v_d, rfl, hen, hb3⟩
  clear c_x
  replace k_x := k_x.on hb3
  replace e_m := Lib.hid (e_m.out.on hb3)
  replace BB := BW_on BB hb3
  obtain ⟨q_d, z_d, rfl⟩ : ∃ q c, v_d = .slice q E.length c := hen.len
  have e_d := Lib.hid hen
  clear hen
  clear e_m
  replace k_x := k_x.alloc (.cells #[.slice q_d E.length z_d] 28)
  replace e_d := Lib.hid (e_d.out.on (BW_alloc (BW_refl _) (.cells #[.slice q_d E.length z_d] 28)))
  replace BB := BW_alloc BB (.cells #[.slice q_d E.length z_d] 28)
  have k_d := blk1 w3 28 #[.slice q_d E.length z_d]
  have c_x := fun i => k_x.cell i
  have c_d := fun i => k_d.cell i
  go_wp2_with fail
  refine (Hk.out _).mono ?_
  rintro e w' ⟨rfl, rfl⟩
  go_wp2_with fail
  refine (Hv.out _).mono ?_
  rintro e w' ⟨rfl, rfl⟩
  go_wp2_with fail
  refine (Ho.out _).mono ?_
  rintro e w' ⟨rfl, rfl⟩
  go_wp2_with fail
  refine (Hput.out _ _ e_d.out).mono ?_
  rintro e w7 ⟨v_e, rfl, hen, hb7⟩
  clear c_x c_d
  replace k_x := k_x.on hb7
  replace k_d := k_d.on hb7
  replace e_d := Lib.hid (e_d.out.on hb7)
  replace BB := BW_on BB hb7
  obtain ⟨q_e, z_e, rfl⟩ : ∃ q c, v_e = .slice q E2.length c := hen.len
  have e_e := Lib.hid hen
  clear hen
  replace k_x := k_x.alloc (.cells #[.slice q_e E2.length z_e] 28)
  replace k_d := k_d.alloc (.cells #[.slice q_e E2.length z_e] 28)
  replace e_d := Lib.hid (e_d.out.on (BW_alloc (BW_refl _) (.cells #[.slice q_e E2.length z_e] 28)))
  replace e_e := Lib.hid (e_e.out.on (BW_alloc (BW_refl _) (.cells #[.slice q_e E2.length z_e] 28)))
  replace BB := BW_alloc BB (.cells #[.slice q_e E2.length z_e] 28)
  have k_e := blk1 w7 28 #[.slice q_e E2.length z_e]
  have c_x := fun i => k_x.cell i
  have c_d := fun i => k_d.cell i
  have c_e := fun i => k_e.cell i
  go_wp2_with fail
  refine (Hdrop.out _ _ e_e.out).mono ?_
  rintro e w8 ⟨v_g, rfl, hen, hb8⟩
  clear c_x c_d c_e
  replace k_x := k_x.on hb8
  replace k_d := k_d.on hb8
  replace k_e := k_e.on hb8
  replace e_d := Lib.hid (e_d.out.on hb8)
  replace e_e := Lib.hid (e_e.out.on hb8)
  replace BB := BW_on BB hb8
  obtain ⟨q_g, z_g, rfl⟩ : ∃ q c, v_g = .slice q G.length c := hen.len
  have e_g := Lib.hid hen
  clear hen
  replace k_x := k_x.alloc (.cells #[.slice q_g G.length z_g] 28)
  replace k_d := k_d.alloc (.cells #[.slice q_g G.length z_g] 28)
  replace k_e := k_e.alloc (.cells #[.slice q_g G.length z_g] 28)
  replace e_d := Lib.hid (e_d.out.on (BW_alloc (BW_refl _) (.cells #[.slice q_g G.length z_g] 28)))
  replace e_e := Lib.hid (e_e.out.on (BW_alloc (BW_refl _) (.cells #[.slice q_g G.length z_g] 28)))
  replace e_g := Lib.hid (e_g.out.on (BW_alloc (BW_refl _) (.cells #[.slice q_g G.length z_g] 28)))
  replace BB := BW_alloc BB (.cells #[.slice q_g G.length z_g] 28)
  have k_g := blk1 w8 28 #[.slice q_g G.length z_g]
  have c_x := fun i => k_x.cell i
  have c_d := fun i => k_d.cell i
  have c_e := fun i => k_e.cell i
  have c_g := fun i => k_g.cell i
  go_wp2_with fail
  refine (Hgk2.out _ _ e_e.out).mono ?_
  rintro e w9 ⟨rfl, hb9⟩
  clear c_x c_d c_e c_g
  replace k_x := k_x.on hb9
  replace k_d := k_d.on hb9
  replace k_e := k_e.on hb9
  replace k_g := k_g.on hb9
  replace e_d := Lib.hid (e_d.out.on hb9)
  replace e_e := Lib.hid (e_e.out.on hb9)
  replace e_g := Lib.hid (e_g.out.on hb9)
  replace BB := BW_on BB hb9
  have c_x := fun i => k_x.cell i
  have c_d := fun i => k_d.cell i
  have c_e := fun i => k_e.cell i
  have c_g := fun i => k_g.cell i
  go_wp2_with fail
  refine (Hgo2.out _ _ e_e.out).mono ?_
  rintro e w10 ⟨rfl, hb10⟩
  clear c_x c_d c_e c_g
  replace k_x := k_x.on hb10
  replace k_d := k_d.on hb10
  replace k_e := k_e.on hb10
  replace k_g := k_g.on hb10
  replace e_d := Lib.hid (e_d.out.on hb10)
  replace e_e := Lib.hid (e_e.out.on hb10)
  replace e_g := Lib.hid (e_g.out.on hb10)
  replace BB := BW_on BB hb10
  have c_x := fun i => k_x.cell i
  have c_d := fun i => k_d.cell i
  have c_e := fun i => k_e.cell i
  have c_g := fun i => k_g.cell i
  go_wp2_with fail
  refine (Hgo.out _ _ e_d.out).mono ?_
  rintro e w11 ⟨rfl, hb11⟩
  clear c_x c_d c_e c_g
  replace k_x := k_x.on hb11
  replace k_d := k_d.on hb11
  replace k_e := k_e.on hb11
  replace k_g := k_g.on hb11
  replace e_d := Lib.hid (e_d.out.on hb11)
  replace e_e := Lib.hid (e_e.out.on hb11)
  replace e_g := Lib.hid (e_g.out.on hb11)
  replace BB := BW_on BB hb11
  have c_x := fun i => k_x.cell i
  have c_d := fun i => k_d.cell i
  have c_e := fun i => k_e.cell i
  have c_g := fun i => k_g.cell i
  go_wp2_with fail
  refine (Hgg.out _ _ e_g.out).mono ?_
  rintro e w12 ⟨rfl, hb12⟩
  clear c_x c_d c_e c_g
  replace k_x := k_x.on hb12
  replace k_d := k_d.on hb12
  replace k_e := k_e.on hb12
  replace k_g := k_g.on hb12
  replace e_d := Lib.hid (e_d.out.on hb12)
  replace e_e := Lib.hid (e_e.out.on hb12)
  replace e_g := Lib.hid (e_g.out.on hb12)
  replace BB := BW_on BB hb12
  have c_x := fun i => k_x.cell i
  have c_d := fun i => k_d.cell i
  have c_e := fun i => k_e.cell i
  have c_g := fun i => k_g.cell i
  go_wp2_with fail
  refine (Hgd.out _ _ e_d.out).mono ?_
  rintro e w13 ⟨rfl, hb13⟩
  clear c_x c_d c_e c_g
  replace k_x := k_x.on hb13
  replace k_d := k_d.on hb13
  replace k_e := k_e.on hb13
  replace k_g := k_g.on hb13
  replace e_d := Lib.hid (e_d.out.on hb13)
  replace e_e := Lib.hid (e_e.out.on hb13)
  replace e_g := Lib.hid (e_g.out.on hb13)
  replace BB := BW_on BB hb13
  have c_x := fun i => k_x.cell i
  have c_d := fun i => k_d.cell i
  have c_e := fun i => k_e.cell i
  have c_g := fun i => k_g.cell i
  clear c_x c_d c_e c_g
  clear k_x Hfew Hof Hk Hv Ho Hput Hdrop Hgk2 Hgo2 Hgo Hgg Hgd
  rcases Hok.out with ho | ⟨ho, rfl, rfl⟩
  all_goals
    clear Hok
    rcases Hw.out with ⟨rfl, rfl, rfl⟩ | ⟨rfl, hw, rfl, rfl⟩ | ⟨rfl, hw, rfl, rfl⟩
    all_goals
      clear Hw
      have c_d := fun i => k_d.cell i
      have c_e := fun i => k_e.cell i
      have c_g := fun i => k_g.cell i
      go_wp2_with fail
      refine (Hs1.out _ _ _ e_d.out e_e.out).mono ?_
      rintro e w14 ⟨rfl, hb14⟩
      clear c_d c_e c_g
      replace k_d := k_d.on hb14
      replace k_e := k_e.on hb14
      replace k_g := k_g.on hb14
      replace e_d := Lib.hid (e_d.out.on hb14)
      replace e_e := Lib.hid (e_e.out.on hb14)
      replace e_g := Lib.hid (e_g.out.on hb14)
      replace BB := BW_on BB hb14
      have c_d := fun i => k_d.cell i
      have c_e := fun i => k_e.cell i
      have c_g := fun i => k_g.cell i
      go_wp2_with fail
      refine (Hs2.out _ _ _ e_g.out e_d.out).mono ?_
      rintro e w15 ⟨rfl, hb15⟩
      clear c_d c_e c_g
      replace k_d := k_d.on hb15
      replace k_e := k_e.on hb15
      replace k_g := k_g.on hb15
      replace e_d := Lib.hid (e_d.out.on hb15)
      replace e_e := Lib.hid (e_e.out.on hb15)
      replace e_g := Lib.hid (e_g.out.on hb15)
      replace BB := BW_on BB hb15
      have c_d := fun i => k_d.cell i
      have c_e := fun i => k_e.cell i
      have c_g := fun i => k_g.cell i
      go_wp2_with fail
      refine (Hs3.out _ _ _ e_e.out e_e.out).mono ?_
      rintro e w16 ⟨rfl, hb16⟩
      clear c_d c_e c_g
      replace k_d := k_d.on hb16
      replace k_e := k_e.on hb16
      replace k_g := k_g.on hb16
      replace e_d := Lib.hid (e_d.out.on hb16)
      replace e_e := Lib.hid (e_e.out.on hb16)
      replace e_g := Lib.hid (e_g.out.on hb16)
      replace BB := BW_on BB hb16
      have c_d := fun i => k_d.cell i
      have c_e := fun i => k_e.cell i
      have c_g := fun i => k_g.cell i
      go_wp2_with fail
      go_ret
      exact ⟨rfl, BB⟩
end Go.Proofs.Ytkahnobignaccaa
