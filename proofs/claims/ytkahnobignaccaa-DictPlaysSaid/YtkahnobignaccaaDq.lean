/- The law DictPlays: maps are changed as the document says, and the one ahead stays as it was (the walk). -/
import Derived.Test.YtkahnobignaccaaDm
import Derived.Test.YtkahnobignaccaaDo
import Derived.Deep.DeepCutAuto
namespace Go.Proofs.Ytkahnobignaccaa
open Go.RowKit
attribute [local go_sem ↓] Go.wp_at_zero Go.wp_at_succ
theorem bw_of {w wr : World} (h : Below w.heap.size w wr) : Below w.heap.size w wr := h
set_option maxHeartbeats 4000000 in
set_option maxRecDepth 100000 in
theorem plays_any (p0 : Option Addr) (cap : Nat) (L : List OpT) (w : World) (hL : L.length ≤ 9223372036854775807) (Hop : Hid (0 < L.length → ∃ g off, p0 = some ⟨g, off, none⟩ ∧ OpC w g off L)) :
    Calls Try.prog 5 #[.slice p0 L.length cap] w fun e w' => e = .returned (.bool true) ∧ Below w.heap.size w w' := by
  go_enter Try.func5, Try.ntmps5
  go_wp2_with fail
  refine (awake08_any _).mono ?_
  rintro e w1 ⟨rfl, hb1⟩
  go_wp2_with fail
  have hgd := hb1.size
  go_loopw [5, 6] (fun r i wr => ∃ (k : Nat) (q : Option Addr) (c : Nat) (q2 : Option Addr) (c2 : Nat) (E : List Ent), k ≤ L.length ∧ k ≤ 30 ∧ i = .int .i64 (k : Int) ∧ r = .slice q2 E.length c2 ∧ Hid (Srt E) ∧ E.length ≤ k ∧ Hid (Ents wr (.slice q E.length c) E) ∧ Hid (Ents wr (.slice q2 E.length c2) E) ∧ Blk wr w1.heap.size 28 #[.slice q E.length c] ∧ Below w.heap.size w wr) (fun _ i _ => 31 - (intOf i).toNat)
  case atStart => exact ⟨0, none, 0, none, 0, [], by omega, by omega, rfl, rfl, List.Pairwise.nil, by decide, Ents.nil _, Ents.nil _, blk1 w1 _ _, BW_alloc hb1 _⟩
  case round =>
    obtain ⟨k, q, c, q2, c2, E, hk, hk30, rfl, rfl, hs, hl, hd, hr, kd, hb⟩ := hrel
    by_cases hlt : k < L.length ∧ k < 30
    · obtain ⟨hlt1, hlt2⟩ := hlt
      obtain ⟨g, off, rfl, hop⟩ := Hop.out (by omega)
      obtain ⟨o1, o2, o3, o4, o5⟩ := (hop.on (bw_of hb)) k hlt1
      have hk1 : (k : Int) < (L.length : Int) := by omega
      have hk2 : (k : Int) < 30 := by omega
      have hk3 : wrap64 ((k : Int) + 1) = (k : Int) + 1 := by unfold wrap64; omega
      have hbit := Lib.hid (bit_le)
      clear hop
      generalize L[k].1 = a at *
      generalize L[k].2.1 = b at *
      generalize L[k].2.2.1 = dr at *
      generalize L[k].2.2.2.1 = lg at *
      generalize L[k].2.2.2.2 = at' at *
      have k_o := blk1 wr 43 #[.string a, .string b, .bool dr, .bool lg, .int .i64 at']
      replace kd := kd.alloc (.cells #[.string a, .string b, .bool dr, .bool lg, .int .i64 at'] 43)
      replace hd := Lib.hid (hd.out.on (BW_alloc (BW_refl _) (.cells #[.string a, .string b, .bool dr, .bool lg, .int .i64 at'] 43)))
      replace hr := Lib.hid (hr.out.on (BW_alloc (BW_refl _) (.cells #[.string a, .string b, .bool dr, .bool lg, .int .i64 at'] 43)))
      replace hb := BW_alloc hb (.cells #[.string a, .string b, .bool dr, .bool lg, .int .i64 at'] 43)
      have cd := fun i => kd.cell i
      have co := fun i => k_o.cell i
      go_wp2_with fail
      refine (short_any a _).mono ?_
      rintro e w' ⟨rfl, rfl⟩
      go_wp2_with fail
      refine (short_any b _).mono ?_
      rintro e w' ⟨rfl, rfl⟩
      clear cd co o1 o2 o3 o4 o5
      generalize hWW : wr.alloc (.cells #[.string a, .string b, .bool dr, .bool lg, .int .i64 at'] 43) = W at *
      have hgo : Hid (wr.heap.size < W.heap.size) := by rw [← hWW]; show _ < _; simp
      generalize wr.heap.size = go' at *
      clear hWW
      have co := fun i => k_o.cell i
      go_upto_if 44 with (fail)
      go_cut [8, 9] (fun s8 s9 wx => (∃ x y, s8 = .string x ∧ s9 = .string y) ∧ Below W.heap.size W wx)
      case first =>
        cases lg with
        | false =>
          go_wp2_with fail
          go_meet
          exact ⟨⟨_, _, rfl, rfl⟩, BW_refl W⟩
        | true =>
          have hm1 := make_b (wrap64 (4000 + bits .and .i64 (at' / 2) 1)) (by rw [bit_le]; unfold wrap64; omega) (by rw [bit_le]; unfold wrap64; omega)
          have hm2 := make_b (wrap64 (400 + bits .and .i64 (at' / 2) 1)) (by rw [bit_le]; unfold wrap64; omega) (by rw [bit_le]; unfold wrap64; omega)
          obtain ⟨z1, hz1⟩ := conv_z (wrap64 (4000 + bits .and .i64 (at' / 2) 1)).toNat (wrap64 (4000 + bits .and .i64 (at' / 2) 1)).toNat W
          obtain ⟨z2, hz2⟩ := conv_z (wrap64 (400 + bits .and .i64 (at' / 2) 1)).toNat (wrap64 (400 + bits .and .i64 (at' / 2) 1)).toNat W
          go_wp2_with fail
          all_goals (go_meet; exact ⟨⟨_, _, rfl, rfl⟩, BW_alloc (BW_refl W) _⟩)
      case rest =>
      obtain ⟨⟨x, y, rfl, rfl⟩, hbc⟩ := hcut
      replace kd := kd.on hbc
      replace k_o := k_o.on hbc
      replace hd := Lib.hid (hd.out.on hbc)
      replace hr := Lib.hid (hr.out.on hbc)
      replace hb := BW_on hb hbc
      clear co hbc hgo
      have cd := fun i => kd.cell i
      go_wp2_with fail
      refine (all_any _ E _ hd.out (by omega)).mono ?_
      rintro e w2 ⟨v_h, rfl, hown, hb2⟩
      have hh : Hid (Ents w2 v_h E) := own_ents hown
      clear hown cd
      replace kd := kd.on hb2
      replace k_o := k_o.on hb2
      replace hd := Lib.hid (hd.out.on hb2)
      replace hr := Lib.hid (hr.out.on hb2)
      replace hb := BW_on hb hb2
      clear hb2
      have cd := fun i => kd.cell i
      have co := fun i => k_o.cell i
      cases dr with
        | true =>
          have hlF := drop_len hs.out x
          have hsF := Lib.hid (drop_srt hs.out x)
          have Hd : Hid _ := Lib.hid (fun w v hv => drop_any v E x w hv hs.out (by omega))
          have Hrd : Hid _ := Lib.hid (fun w v hv => rdrop_row v E x w hv hs.out (by omega))
          have hlF2 : (dropL E x).length ≤ k := by omega
          clear hlF
          generalize dropL E x = F at *
          generalize hasK E x = hx at *
          go_wp2_with fail
          refine (Hd.out _ _ hd.out).mono ?_
          rintro e w3 ⟨v_x, rfl, hen, hb3⟩
          obtain ⟨q3, c3, rfl⟩ : ∃ q c, v_x = .slice q F.length c := hen.len
          have nd := Lib.hid hen
          clear hen cd co k_o
          replace kd := kd.on hb3
          replace hd := Lib.hid (hd.out.on hb3)
          replace hr := Lib.hid (hr.out.on hb3)
          replace hh := Lib.hid (hh.out.on hb3)
          replace hb := BW_on hb hb3
          replace kd := kd.alloc (.cells #[.slice q3 F.length c3] 28)
          replace hd := Lib.hid (hd.out.on (BW_alloc (BW_refl _) (.cells #[.slice q3 F.length c3] 28)))
          replace hr := Lib.hid (hr.out.on (BW_alloc (BW_refl _) (.cells #[.slice q3 F.length c3] 28)))
          replace hh := Lib.hid (hh.out.on (BW_alloc (BW_refl _) (.cells #[.slice q3 F.length c3] 28)))
          replace nd := Lib.hid (nd.out.on (BW_alloc (BW_refl _) (.cells #[.slice q3 F.length c3] 28)))
          replace hb := BW_alloc hb (.cells #[.slice q3 F.length c3] 28)
          have kx := blk1 w3 28 #[.slice q3 F.length c3]
          have cx := fun i => kx.cell i
          go_wp2_with fail
          refine (Hrd.out _ _ hr.out).mono ?_
          rintro e w4 ⟨v_y, rfl, hen, hb4⟩
          obtain ⟨q4, c4, rfl⟩ : ∃ q c, v_y = .slice q F.length c := hen.len
          have nr := Lib.hid hen
          clear hen cx
          replace kd := kd.on hb4
          replace kx := kx.on hb4
          replace hd := Lib.hid (hd.out.on hb4)
          replace hr := Lib.hid (hr.out.on hb4)
          replace hh := Lib.hid (hh.out.on hb4)
          replace nd := Lib.hid (nd.out.on hb4)
          replace hb := BW_on hb hb4
          clear hb4 hb3
          have cd := fun i => kd.cell i
          go_wp2_with fail
          refine (all_any _ E _ hd.out (by omega)).mono ?_
          rintro e w5 ⟨v_a, rfl, hown, hb5⟩
          have ha : Hid (Ents w5 v_a E) := own_ents hown
          clear hown cd
          replace kd := kd.on hb5
          replace kx := kx.on hb5
          replace hd := Lib.hid (hd.out.on hb5)
          replace hr := Lib.hid (hr.out.on hb5)
          replace hh := Lib.hid (hh.out.on hb5)
          replace nd := Lib.hid (nd.out.on hb5)
          replace nr := Lib.hid (nr.out.on hb5)
          replace hb := BW_on hb hb5
          go_wp2_with fail
          refine (rsame_any _ _ E E _ ha.out hh.out (by omega) (by omega)).mono ?_
          rintro e w6 ⟨rfl, hb6⟩
          rw [decide_eq_true rfl]
          clear ha hb5
          replace kd := kd.on hb6
          replace kx := kx.on hb6
          replace hd := Lib.hid (hd.out.on hb6)
          replace hr := Lib.hid (hr.out.on hb6)
          replace hh := Lib.hid (hh.out.on hb6)
          replace nd := Lib.hid (nd.out.on hb6)
          replace nr := Lib.hid (nr.out.on hb6)
          replace hb := BW_on hb hb6
          clear hb6
          clear hd hr hh
          have cd := fun i => kd.cell i
          have fd := fun i => kd.free i
          have cx := fun i => kx.cell i
          have kd7 := kd.set_ 0 (.slice q3 F.length c3)
          have nd7 := Lib.hid (nd.out.box kd (.slice q3 F.length c3))
          have nr7 := Lib.hid (nr.out.box kd (.slice q3 F.length c3))
          have hb7 := BW_off (p := ⟨w1.heap.size, 0, none⟩) hgd (.slice q3 F.length c3) hb
          have cd7 := fun i => kd7.cell i
          go_wp2_with fail
          refine (all_any _ F _ nd7.out (by omega)).mono ?_
          rintro e w8 ⟨v_b, rfl, hown, hb8⟩
          have ha : Hid (Ents w8 v_b F) := own_ents hown
          clear hown
          go_wp2_with fail
          refine (rsame_any _ _ F F _ ha.out (nr7.out.on hb8) (by omega) (by omega)).mono ?_
          rintro e w9 ⟨rfl, hb9⟩
          rw [decide_eq_true rfl]
          go_wp2_with fail
          go_roundw
          case rel => exact ⟨k + 1, q3, c3, q4, c4, F, by omega, by omega, by go_num, rfl, hsF, by omega, Lib.hid ((nd7.out.on hb8).on hb9), Lib.hid ((nr7.out.on hb8).on hb9), (kd7.on hb8).on hb9, BW_on (BW_on hb7 hb8) hb9⟩
          case measure => simp [intOf]; omega
        | false =>
          have Hd : Hid _ := Lib.hid (fun w v hv => put_code v E x y w hv hs.out (by omega))
          have Hrd : Hid _ := Lib.hid (fun w v hv => rput_code v E x y w hv hs.out (by omega))
          by_cases hok : putOk E x y
          · rw [putC_ok hok] at Hd Hrd
            have Hok := Lib.hid hok
            have hlF := put_len hs.out x y
            have hsF := Lib.hid (put_srt hs.out x y)
            have hlF2 : (putL E x y).length ≤ k + 1 := by omega
            clear hlF hok
            generalize putL E x y = F at *
            go_wp2_with fail
            refine (Hd.out _ _ hd.out).mono ?_
            rintro e w3 ⟨v_x, rfl, ⟨_, hen⟩ | ⟨hno, _⟩, hb3⟩
            rotate_left
            · exact absurd Hok.out hno
            obtain ⟨q3, c3, rfl⟩ : ∃ q c, v_x = .slice q F.length c := hen.len
            have nd := Lib.hid hen
            clear hen cd co k_o
            replace kd := kd.on hb3
            replace hd := Lib.hid (hd.out.on hb3)
            replace hr := Lib.hid (hr.out.on hb3)
            replace hh := Lib.hid (hh.out.on hb3)
            replace hb := BW_on hb hb3
            replace kd := kd.alloc (.cells #[.slice q3 F.length c3] 28)
            replace hd := Lib.hid (hd.out.on (BW_alloc (BW_refl _) (.cells #[.slice q3 F.length c3] 28)))
            replace hr := Lib.hid (hr.out.on (BW_alloc (BW_refl _) (.cells #[.slice q3 F.length c3] 28)))
            replace hh := Lib.hid (hh.out.on (BW_alloc (BW_refl _) (.cells #[.slice q3 F.length c3] 28)))
            replace nd := Lib.hid (nd.out.on (BW_alloc (BW_refl _) (.cells #[.slice q3 F.length c3] 28)))
            replace hb := BW_alloc hb (.cells #[.slice q3 F.length c3] 28)
            have kx := blk1 w3 28 #[.slice q3 F.length c3]
            have cx := fun i => kx.cell i
            go_wp2_with fail
            refine (Hrd.out _ _ hr.out).mono ?_
            rintro e w4 ⟨v_y, rfl, ⟨_, hen⟩ | ⟨hno, _⟩, hb4⟩
            rotate_left
            · exact absurd Hok.out hno
            obtain ⟨q4, c4, rfl⟩ : ∃ q c, v_y = .slice q F.length c := hen.len
            have nr := Lib.hid hen
            clear hen cx Hok Hd Hrd
            replace kd := kd.on hb4
            replace kx := kx.on hb4
            replace hd := Lib.hid (hd.out.on hb4)
            replace hr := Lib.hid (hr.out.on hb4)
            replace hh := Lib.hid (hh.out.on hb4)
            replace nd := Lib.hid (nd.out.on hb4)
            replace hb := BW_on hb hb4
            clear hb4 hb3
            have cd := fun i => kd.cell i
            go_wp2_with fail
            refine (all_any _ E _ hd.out (by omega)).mono ?_
            rintro e w5 ⟨v_a, rfl, hown, hb5⟩
            have ha : Hid (Ents w5 v_a E) := own_ents hown
            clear hown cd
            replace kd := kd.on hb5
            replace kx := kx.on hb5
            replace hd := Lib.hid (hd.out.on hb5)
            replace hr := Lib.hid (hr.out.on hb5)
            replace hh := Lib.hid (hh.out.on hb5)
            replace nd := Lib.hid (nd.out.on hb5)
            replace nr := Lib.hid (nr.out.on hb5)
            replace hb := BW_on hb hb5
            go_wp2_with fail
            refine (rsame_any _ _ E E _ ha.out hh.out (by omega) (by omega)).mono ?_
            rintro e w6 ⟨rfl, hb6⟩
            rw [decide_eq_true rfl]
            clear ha hb5
            replace kd := kd.on hb6
            replace kx := kx.on hb6
            replace hd := Lib.hid (hd.out.on hb6)
            replace hr := Lib.hid (hr.out.on hb6)
            replace hh := Lib.hid (hh.out.on hb6)
            replace nd := Lib.hid (nd.out.on hb6)
            replace nr := Lib.hid (nr.out.on hb6)
            replace hb := BW_on hb hb6
            clear hb6
            clear hd hr hh
            have cd := fun i => kd.cell i
            have fd := fun i => kd.free i
            have cx := fun i => kx.cell i
            have kd7 := kd.set_ 0 (.slice q3 F.length c3)
            have nd7 := Lib.hid (nd.out.box kd (.slice q3 F.length c3))
            have nr7 := Lib.hid (nr.out.box kd (.slice q3 F.length c3))
            have hb7 := BW_off (p := ⟨w1.heap.size, 0, none⟩) hgd (.slice q3 F.length c3) hb
            have cd7 := fun i => kd7.cell i
            go_wp2_with fail
            refine (all_any _ F _ nd7.out (by omega)).mono ?_
            rintro e w8 ⟨v_b, rfl, hown, hb8⟩
            have ha : Hid (Ents w8 v_b F) := own_ents hown
            clear hown
            go_wp2_with fail
            refine (rsame_any _ _ F F _ ha.out (nr7.out.on hb8) (by omega) (by omega)).mono ?_
            rintro e w9 ⟨rfl, hb9⟩
            rw [decide_eq_true rfl]
            go_wp2_with fail
            go_roundw
            case rel => exact ⟨k + 1, q3, c3, q4, c4, F, by omega, by omega, by go_num, rfl, hsF, by omega, Lib.hid ((nd7.out.on hb8).on hb9), Lib.hid ((nr7.out.on hb8).on hb9), (kd7.on hb8).on hb9, BW_on (BW_on hb7 hb8) hb9⟩
            case measure => simp [intOf]; omega
          · have hcc := putC_no hok
            have Hno := Lib.hid hok
            generalize putC E x y = cc at *
            clear hok
            go_wp2_with fail
            refine (Hd.out _ _ hd.out).mono ?_
            rintro e w3 ⟨v_x, rfl, ⟨hyes, _⟩ | ⟨_, rfl⟩, hb3⟩
            · exact absurd hyes Hno.out
            clear cd co k_o
            replace kd := kd.on hb3
            replace hd := Lib.hid (hd.out.on hb3)
            replace hr := Lib.hid (hr.out.on hb3)
            replace hh := Lib.hid (hh.out.on hb3)
            replace hb := BW_on hb hb3
            replace kd := kd.alloc (.cells #[.slice none 0 0] 28)
            replace hd := Lib.hid (hd.out.on (BW_alloc (BW_refl _) (.cells #[.slice none 0 0] 28)))
            replace hr := Lib.hid (hr.out.on (BW_alloc (BW_refl _) (.cells #[.slice none 0 0] 28)))
            replace hh := Lib.hid (hh.out.on (BW_alloc (BW_refl _) (.cells #[.slice none 0 0] 28)))
            replace hb := BW_alloc hb (.cells #[.slice none 0 0] 28)
            have kx := blk1 w3 28 #[.slice none 0 0]
            have cx := fun i => kx.cell i
            have hCC := Lib.hid hcc
            clear hcc
            go_wp2_with fail
            refine (Hrd.out _ _ hr.out).mono ?_
            rintro e w4 ⟨v_y, rfl, ⟨hyes, _⟩ | ⟨_, rfl⟩, hb4⟩
            · exact absurd hyes Hno.out
            clear cx Hd Hrd Hno
            replace kd := kd.on hb4
            replace kx := kx.on hb4
            replace hd := Lib.hid (hd.out.on hb4)
            replace hr := Lib.hid (hr.out.on hb4)
            replace hh := Lib.hid (hh.out.on hb4)
            replace hb := BW_on hb hb4
            clear hb4 hb3
            have cd := fun i => kd.cell i
            go_wp2_with fail
            refine (all_any _ E _ hd.out (by omega)).mono ?_
            rintro e w5 ⟨v_a, rfl, hown, hb5⟩
            have ha : Hid (Ents w5 v_a E) := own_ents hown
            clear hown cd
            replace kd := kd.on hb5
            replace kx := kx.on hb5
            replace hd := Lib.hid (hd.out.on hb5)
            replace hr := Lib.hid (hr.out.on hb5)
            replace hh := Lib.hid (hh.out.on hb5)
            replace hb := BW_on hb hb5
            go_wp2_with fail
            refine (rsame_any _ _ E E _ ha.out hh.out (by omega) (by omega)).mono ?_
            rintro e w6 ⟨rfl, hb6⟩
            rw [decide_eq_true rfl]
            clear ha hb5
            replace kd := kd.on hb6
            replace kx := kx.on hb6
            replace hd := Lib.hid (hd.out.on hb6)
            replace hr := Lib.hid (hr.out.on hb6)
            replace hh := Lib.hid (hh.out.on hb6)
            replace hb := BW_on hb hb6
            clear hb6
            have cx := fun i => kx.cell i
            rcases hCC.out with rfl | rfl
            all_goals
              clear hCC
              go_wp2_with fail
              refine (len_any _ [] _ (Ents.nil _)).mono ?_
              rintro e w7 ⟨rfl, hb10⟩
              clear cx hh
              replace kd := kd.on hb10
              have nd := Lib.hid (hd.out.on hb10)
              have nr := Lib.hid (hr.out.on hb10)
              replace hb := BW_on hb hb10
              clear hd hr hb10 kx
              have kd7 := kd
              have nd7 := nd
              have nr7 := nr
              have hb7 := hb
              have cd7 := fun i => kd7.cell i
              go_wp2_with fail
              refine (all_any _ E _ nd7.out (by omega)).mono ?_
              rintro e w8 ⟨v_b, rfl, hown, hb8⟩
              have ha : Hid (Ents w8 v_b E) := own_ents hown
              clear hown
              go_wp2_with fail
              refine (rsame_any _ _ E E _ ha.out (nr7.out.on hb8) (by omega) (by omega)).mono ?_
              rintro e w9 ⟨rfl, hb9⟩
              rw [decide_eq_true rfl]
              go_wp2_with fail
              go_roundw
              case rel => exact ⟨k + 1, q, c, q2, c2, E, by omega, by omega, by go_num, rfl, hs, by omega, Lib.hid ((nd7.out.on hb8).on hb9), Lib.hid ((nr7.out.on hb8).on hb9), (kd7.on hb8).on hb9, BW_on (BW_on hb7 hb8) hb9⟩
              case measure => simp [intOf]; omega
    · by_cases h1 : k < L.length
      · have hk1 : (k : Int) < (L.length : Int) := by omega
        obtain rfl : k = 30 := by omega
        clear hlt
        go_wp2_with fail
        go_ret
        exact ⟨rfl, hb⟩
      · have hk1 : ¬ (k : Int) < (L.length : Int) := by omega
        clear hlt
        go_wp2_with fail
        go_ret
        exact ⟨rfl, hb⟩
end Go.Proofs.Ytkahnobignaccaa
