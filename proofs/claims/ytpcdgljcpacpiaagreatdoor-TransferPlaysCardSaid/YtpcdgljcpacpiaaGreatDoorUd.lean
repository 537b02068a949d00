/- The transfer laws' start and example. -/
import Derived.Test.YtpcdgljcpacpiaaGreatDoorUb
import Derived.Test.YtpcdgljcpacpiaaGreatDoorBh
import Derived.Test.YtpcdgljcpacpiaaGreatDoorBg
set_option maxRecDepth 20000
namespace Go.Proofs.YtpcdgljcpacpiaaGreatDoor
open Go.RowKit
attribute [local go_sem ↓] Go.wp_at_zero Go.wp_at_succ
def t_x : ByteArray := ⟨#[120]⟩
def t_c1 : ByteArray := ⟨#[99, 49]⟩
def t_c2 : ByteArray := ⟨#[99, 50]⟩
def t_ann : ByteArray := ⟨#[97, 110, 110]⟩
def t_bob : ByteArray := ⟨#[98, 111, 98]⟩
def t_c1x : ByteArray := ⟨#[99, 49, 47, 120]⟩
def t_c2x : ByteArray := ⟨#[99, 50, 47, 120]⟩
def t_esc1 : ByteArray := ⟨#[101, 115, 99, 114, 111, 119, 47, 99, 49]⟩
/-- The map at the start. -/
def R17 : List Ent := (mintL [] t_ann t_x 9).2
def S17 : List Ent := (mintL R17 t_bob t_c1x 7).2
theorem st1 : (mintL [] t_ann t_x 9).1 = 0 := by decide +kernel
theorem st2 : (mintL R17 t_bob t_c1x 7).1 = 0 := by decide +kernel
theorem st_of : ofL S17 = S17 := by decide +kernel
theorem S17_srt : Srt S17 := (mint_inv (mint_inv (List.Pairwise.nil : Srt []) t_ann t_x 9).1 t_bob t_c1x 7).1
theorem S17_len : S17.length ≤ 4 := by
  have h1 : R17.length ≤ 0 + 2 := (mint_inv (List.Pairwise.nil : Srt []) t_ann t_x 9).2
  have h2 : S17.length ≤ R17.length + 2 := (mint_inv (mint_inv (List.Pairwise.nil : Srt []) t_ann t_x 9).1 t_bob t_c1x 7).2
  omega
def P17 : List Ent := (sendL S17 1 9 0 t_c1 t_c2 t_x t_ann t_bob 5).2
def Q17 : List Ent := (recvL [] 1 9 0 t_c1 t_c2 t_x t_ann t_bob 5).2
theorem awt1 : (sendL S17 1 9 0 t_c1 t_c2 t_x t_ann t_bob 5).1 = 0 := by decide +kernel
theorem awt2 : (recvL [] 1 9 0 t_c1 t_c2 t_x t_ann t_bob 5).1 = 0 := by decide +kernel
theorem awt3 : ng P17 (keyB t_esc1 t_x) = 5 := by decide +kernel
theorem awt4 : ng Q17 (keyB t_bob t_c2x) = 5 := by decide +kernel
theorem awt5 : P17.length ≤ 100 ∧ Q17.length ≤ 100 := by decide +kernel
set_option maxHeartbeats 16000000 in
set_option maxRecDepth 100000 in
theorem start17_any (w : World) : Calls Tryz.prog 7 #[] w fun e w' => ∃ v', e = .returned v' ∧ Ents w' v' S17 ∧ Below w.heap.size w w' := by
  have H1 := fun w => r11mint_any (.slice none 0 0) [] t_ann t_x 9 w (Ents.nil w) List.Pairwise.nil (by decide) (W256.small (by decide))
  rw [show mintL [] t_ann t_x 9 = (0, R17) from Prod.ext st1 rfl, (limb_small (n := 9) (by decide)).1, (limb_small (n := 9) (by decide)).2.1, (limb_small (n := 9) (by decide)).2.2.1, (limb_small (n := 9) (by decide)).2.2.2] at H1
  have H2 := fun v w hv => r11mint_any v R17 t_bob t_c1x 7 w hv (mint_inv (List.Pairwise.nil : Srt []) t_ann t_x 9).1 (by have : R17.length ≤ 0 + 2 := (mint_inv (List.Pairwise.nil : Srt []) t_ann t_x 9).2; omega) (W256.small (by decide))
  rw [show mintL R17 t_bob t_c1x 7 = (0, S17) from Prod.ext st2 rfl, (limb_small (n := 7) (by decide)).1, (limb_small (n := 7) (by decide)).2.1, (limb_small (n := 7) (by decide)).2.2.1, (limb_small (n := 7) (by decide)).2.2.2] at H2
  replace H1 := Lib.hid H1
  replace H2 := Lib.hid H2
  go_enter Tryz.func7, Tryz.ntmps7
  go_wp2_with fail
  refine (H1.out _).mono ?_
  rintro e w1 ⟨v1, rfl, he1, hb1⟩
  replace he1 := Lib.hid he1
  go_wp2_with fail
  refine (H2.out _ _ he1.out).mono ?_
  rintro e w2 ⟨v2, rfl, he2, hb2⟩
  replace he2 := Lib.hid he2
  replace hb1 := BW_on hb1 hb2
  go_wp2_with fail
  go_ret
  exact ⟨v2, rfl, he2.out, hb1⟩
theorem short17_any (s : ByteArray) (n : Nat) (w : World) : Calls Tryz.prog 27 #[.string s, .int .i64 (n : Int)] w fun e w' => e = .returned (.string (shN s n)) ∧ w = w' := by
  by_cases h : n < s.size
  · have e : shN s n = s.extract 0 n := if_pos h
    have h1 : (n : Int) < (s.size : Int) := by omega
    have h2 : (n : Int) ≤ (s.size : Int) := by omega
    rw [e]
    clear h e
    go_enter Tryz.func27, Tryz.ntmps27
    go_wp2_with fail
    go_ret
    exact ⟨by first | rfl | simp, rfl⟩
  · have e : shN s n = s := if_neg h
    have h1 : ¬ (n : Int) < (s.size : Int) := by omega
    rw [e]
    clear h e
    go_enter Tryz.func27, Tryz.ntmps27
    go_wp2_with fail
    go_ret
    exact ⟨rfl, rfl⟩
set_option maxHeartbeats 16000000 in
set_option maxRecDepth 100000 in
theorem small17_any (q h t a0 a1 a2 a3 : Int) (s k d f g : ByteArray) (w : World) : Calls Tryz.prog 9 #[.agg #[.int .i64 q, .string s, .string k, .string d, .int .u64 a0, .int .u64 a1, .int .u64 a2, .int .u64 a3, .string f, .string g, .int .i64 h, .int .i64 t]] w fun e w' =>
    e = .returned (.agg #[.int .i64 q, .string (shN s 70), .string (shN k 70), .string (shN d 210), .int .u64 a0, .int .u64 a1, .int .u64 a2, .int .u64 a3, .string (shN f 70), .string (shN g 70), .int .i64 h, .int .i64 t]) ∧ Below w.heap.size w w' := by
  go_enter Tryz.func9, Tryz.ntmps9
  go_wp2_with (go_at_call 27; first
    | (have := fl4; refine (short17_any g 70 _).mono ?_; rintro e w' ⟨rfl, rfl⟩)
    | (have := fl3; refine (short17_any f 70 _).mono ?_; rintro e w' ⟨rfl, rfl⟩; have fl4 := True.intro)
    | (have := fl2; refine (short17_any d 210 _).mono ?_; rintro e w' ⟨rfl, rfl⟩; have fl3 := True.intro)
    | (have := fl1; refine (short17_any k 70 _).mono ?_; rintro e w' ⟨rfl, rfl⟩; have fl2 := True.intro)
    | (refine (short17_any s 70 _).mono ?_; rintro e w' ⟨rfl, rfl⟩; have fl1 := True.intro))
  refine bodyPost_ret (v := .agg #[.int .i64 q, .string (shN s 70), .string (shN k 70), .string (shN d 210), .int .u64 a0, .int .u64 a1, .int .u64 a2, .int .u64 a3, .string (shN f 70), .string (shN g 70), .int .i64 h, .int .i64 t]) (by simp [results, Tryz.results9, go_sem]) rfl ⟨rfl, BW_alloc (BW_alloc (BW_refl w) _) _⟩
set_option maxHeartbeats 16000000 in
set_option maxRecDepth 100000 in
theorem awake17_any (w : World) : Calls Tryz.prog 6 #[] w fun e w' => e = .returned (.bool true) ∧ Below w.heap.size w w' := by
  have HS := fun v w hv => send_any v S17 1 9 0 t_c1 t_c2 t_x t_ann t_bob 5 w hv S17_srt (by have := S17_len; omega) (by decide) (by decide) (by decide) (by decide) (by decide) (W256.small (by decide))
  rw [show sendL S17 1 9 0 t_c1 t_c2 t_x t_ann t_bob 5 = (0, P17) from Prod.ext awt1 rfl, (limb_small (n := 5) (by decide)).1, (limb_small (n := 5) (by decide)).2.1, (limb_small (n := 5) (by decide)).2.2.1, (limb_small (n := 5) (by decide)).2.2.2] at HS
  have HR := fun w => recv_any (.slice none 0 0) [] 1 9 0 t_c1 t_c2 t_x t_ann t_bob 5 w (Ents.nil w) List.Pairwise.nil (by decide) (by decide) (by decide) (by decide) (by decide) (by decide) (W256.small (by decide))
  rw [show recvL [] 1 9 0 t_c1 t_c2 t_x t_ann t_bob 5 = (0, Q17) from Prod.ext awt2 rfl, (limb_small (n := 5) (by decide)).1, (limb_small (n := 5) (by decide)).2.1, (limb_small (n := 5) (by decide)).2.2.1, (limb_small (n := 5) (by decide)).2.2.2] at HR
  have HO := fun v w hv => of_any v S17 w hv (by have := S17_len; omega)
  rw [st_of] at HO
  have HB1 := fun v w hv => r11bal_any v P17 t_esc1 t_x w hv (by have := awt5.1; omega) (by decide) (by decide)
  rw [awt3, wv_small (n := 5) (by decide)] at HB1
  have HB2 := fun v w hv => r11bal_any v Q17 t_bob t_c2x w hv (by have := awt5.2; omega) (by decide) (by decide)
  rw [awt4, wv_small (n := 5) (by decide)] at HB2
  have HP : P17.length ≤ 100 := awt5.1
  have HQ : Q17.length ≤ 100 := awt5.2
  replace HS := Lib.hid HS
  replace HR := Lib.hid HR
  replace HO := Lib.hid HO
  replace HB1 := Lib.hid HB1
  replace HB2 := Lib.hid HB2
  generalize P17 = P at *
  generalize Q17 = Q at *
  have k_p := blk1 w 35 #[.int .i64 1, .string t_c1, .string t_c2, .string t_x, .int .u64 5, .int .u64 0, .int .u64 0, .int .u64 0, .string t_ann, .string t_bob, .int .i64 9, .int .i64 0]
  have BB := BW_alloc (BW_refl w) (.cells #[.int .i64 1, .string t_c1, .string t_c2, .string t_x, .int .u64 5, .int .u64 0, .int .u64 0, .int .u64 0, .string t_ann, .string t_bob, .int .i64 9, .int .i64 0] 35)
  go_enter Tryz.func6, Tryz.ntmps6
  go_upto_region 2 with (fail)
  change Code.wp _ _ _ _ (w.alloc (.cells #[.int .i64 1, .string t_c1, .string t_c2, .string t_x, .int .u64 5, .int .u64 0, .int .u64 0, .int .u64 0, .string t_ann, .string t_bob, .int .i64 9, .int .i64 0] 35))
  generalize w.alloc (.cells #[.int .i64 1, .string t_c1, .string t_c2, .string t_x, .int .u64 5, .int .u64 0, .int .u64 0, .int .u64 0, .string t_ann, .string t_bob, .int .i64 9, .int .i64 0] 35) = X at *
  have hszp := k_p.lt
  refine wp_region_held_drew (S := BxS X [(w.heap.size, 35, #[.int .i64 1, .string t_c1, .string t_c2, .string t_x, .int .u64 5, .int .u64 0, .int .u64 0, .int .u64 0, .string t_ann, .string t_bob, .int .i64 9, .int .i64 0])]) (by kernel_rfl) (((BxS.nil (BW_refl X)).cons k_p)).drew (fun hH0 => ?_)
  refine wpAnyH_take (i := 2) (v := .agg #[.int .i64 1, .string t_c1, .string t_c2, .string t_x, .int .u64 5, .int .u64 0, .int .u64 0, .int .u64 0, .string t_ann, .string t_bob, .int .i64 9, .int .i64 0]) rfl (by kernel_rfl) (by kernel_rfl) (by kernel_rfl) (fun _ _ _ h => h) (yk_load (by kernel_rfl) _ _ rfl (.pointer (some ⟨w.heap.size, 0, none⟩)) (by kernel_rfl) _ (fun w' hw' => by have c0 := (hw'.bl _ (.head _)).cell 0; have c1 := (hw'.bl _ (.head _)).cell 1; have c2 := (hw'.bl _ (.head _)).cell 2; have c3 := (hw'.bl _ (.head _)).cell 3; have c4 := (hw'.bl _ (.head _)).cell 4; have c5 := (hw'.bl _ (.head _)).cell 5; have c6 := (hw'.bl _ (.head _)).cell 6; have c7 := (hw'.bl _ (.head _)).cell 7; have c8 := (hw'.bl _ (.head _)).cell 8; have c9 := (hw'.bl _ (.head _)).cell 9; have c10 := (hw'.bl _ (.head _)).cell 10; have c11 := (hw'.bl _ (.head _)).cell 11; go_simp)) hH0 ?_
  refine wpAnyH_ready (rs := [0, 7]) (by kernel_rfl) (by simp) ?_
  refine AllReadyH.cons rfl (fun K hK => ?_) (AllReadyH.cons rfl (fun K hK => ?_) (AllReadyH.nil))
  · go_simp
    go_at_call 7
    refine (start17_any _).mono ?_
    rintro e w0 ⟨vs, rfl, hst, hd0⟩
    go_wp2_with fail
    refine hK.out _ _ (hH0.on hd0) (fun hH1 => ?_)
    clear hK K
    
    refine wpAnyH_ready (rs := [1, 7]) (by kernel_rfl) (by simp) ?_
    refine AllReadyH.cons rfl (fun K hK => ?_) (AllReadyH.cons rfl (fun K hK => ?_) (AllReadyH.nil))
    · go_simp
      go_at_call 8
      refine (HO.out _ _ hst).mono ?_
      rintro e w1 ⟨vd, rfl, hof, hd1⟩
      go_wp2_with fail
      refine hK.out _ _ (hH1.on hd1) (fun hH2 => ?_)
      clear hK K
      replace hst := hst.on hd1
      refine wpAnyH_ready (rs := [3, 7]) (by kernel_rfl) (by simp) ?_
      refine AllReadyH.cons rfl (fun K hK => ?_) (AllReadyH.cons rfl (fun K hK => ?_) (AllReadyH.nil))
      · go_simp
        go_at_call 10
        refine (HS.out _ _ hof).mono ?_
        rintro e w3 ⟨qa, ca, rfl, hen, hd3⟩
        go_wp2_with fail
        refine hK.out _ _ (hH2.on hd3) (fun hH3 => ?_)
        clear hK K
        replace hst := hst.on hd3
        replace hof := hof.on hd3
        refine wpAnyH_take (i := 4) (v := .tuple #[.agg #[.slice qa P.length ca], .int .i64 0]) rfl (by kernel_rfl) (by kernel_rfl) (by kernel_rfl) (fun _ _ _ h => h) (yk_move (by kernel_rfl) _ rfl _ (by kernel_rfl)) hH3 ?_
        refine wpAnyH_take (i := 5) (v := .agg #[.slice qa P.length ca]) rfl (by kernel_rfl) (by kernel_rfl) (by kernel_rfl) (fun _ _ _ h => h) (yk_ext (by kernel_rfl) _ _ rfl (.tuple #[.agg #[.slice qa P.length ca], .int .i64 0]) (by kernel_rfl) _ (fun _ _ => rfl)) hH3 ?_
        refine wpAnyH_take (i := 6) (v := .int .i64 0) rfl (by kernel_rfl) (by kernel_rfl) (by kernel_rfl) (fun _ _ _ h => h) (yk_ext (by kernel_rfl) _ _ rfl (.tuple #[.agg #[.slice qa P.length ca], .int .i64 0]) (by kernel_rfl) _ (fun _ _ => rfl)) hH3 ?_
        have k_z : Blk (w3.alloc (.cells #[.slice none 0 0] 27)) (w3.heap.size) 27 #[.slice none 0 0] := blk1 w3 _ _
        have hzl : X.heap.size ≤ w3.heap.size := hH3.hb.size
        refine wpAnyH_ready (rs := [7]) (by kernel_rfl) (by simp) ?_
        refine AllReadyH.cons rfl (fun K hK => ?_) AllReadyH.nil
        go_simp
        refine hK.out _ _ (hH3.on (BW_alloc (BW_refl _) _)) (fun hH4 => ?_)
        clear hK K
        replace hst := hst.on (BW_alloc (BW_refl _) (.cells #[.slice none 0 0] 27))
        replace hof := hof.on (BW_alloc (BW_refl _) (.cells #[.slice none 0 0] 27))
        replace hen := hen.on (BW_alloc (BW_refl _) (.cells #[.slice none 0 0] 27))
        refine wpAnyH_ready (rs := [8]) (by kernel_rfl) (by simp) ?_
        refine AllReadyH.cons rfl (fun K hK => ?_) AllReadyH.nil
        rw [if_pos (by kernel_rfl)]
        try simp only [List.getElem_toArray, List.getElem_cons_zero, List.getElem_cons_succ]
        refine wp_store_mid _ _ _ rfl w3.heap.size 0 [.slice qa P.length ca].toArray (by kernel_rfl) (by kernel_rfl) (k_z.there (Nat.le_refl 1)) szD (by simp [Value.oneCell']) ?_
        simp only [Act.put]
        refine hK.out _ _ (hH4.put (ne1 (by omega)) (by omega) _) (fun hH5 => ?_)
        clear hK K
        refine wpAnyH_take (i := 9) (v := .int .i64 0) rfl (by kernel_rfl) (by kernel_rfl) (by kernel_rfl) (fun _ _ _ h => h) (yk_assign (by kernel_rfl) _ rfl _ (by kernel_rfl)) hH5 ?_
        refine wpAnyH_done (by kernel_rfl) ?_ _
        have hB := hH5.hb
        replace hst := hst.box k_z (.slice qa P.length ca)
        change Ents ((w3.alloc (.cells #[.slice none 0 0] 27)).setCells (w3.heap.size) 0 [.slice qa P.length ca]) _ _ at hst
        replace hof := hof.box k_z (.slice qa P.length ca)
        change Ents ((w3.alloc (.cells #[.slice none 0 0] 27)).setCells (w3.heap.size) 0 [.slice qa P.length ca]) _ _ at hof
        replace hen := hen.box k_z (.slice qa P.length ca)
        change Ents ((w3.alloc (.cells #[.slice none 0 0] 27)).setCells (w3.heap.size) 0 [.slice qa P.length ca]) _ _ at hen
        replace k_z := setCells_all k_z [.slice qa P.length ca] rfl
        change Exit.then _ _ _ _ ((w3.alloc (.cells #[.slice none 0 0] 27)).setCells (w3.heap.size) 0 [.slice qa P.length ca])
        generalize (w3.alloc (.cells #[.slice none 0 0] 27)).setCells (w3.heap.size) 0 [.slice qa P.length ca] = Z at *
        generalize w3.heap.size = gz at *
        clear hH0 hH1 hH2 hH3 hH4 hH5 hd0 hd1 hd3
        replace k_p := k_p.on hB
        replace BB := BW_on BB hB
        have e_a := Lib.hid hen
        clear hst hof hen hB
        have c_p := fun i => k_p.cell i
        go_wp2_with fail
        refine (HR.out _).mono ?_
        rintro e w9 ⟨qb, cb, rfl, henb, hb⟩
        clear c_p
        replace k_p := k_p.on hb
        replace k_z := k_z.on hb
        replace e_a := Lib.hid (e_a.out.on hb)
        replace BB := BW_on BB hb
        replace k_p := k_p.on (BW_alloc (BW_refl _) (.cells #[.slice qb Q.length cb] 27))
        replace k_z := k_z.on (BW_alloc (BW_refl _) (.cells #[.slice qb Q.length cb] 27))
        replace e_a := Lib.hid (e_a.out.on (BW_alloc (BW_refl _) (.cells #[.slice qb Q.length cb] 27)))
        replace BB := BW_on BB (BW_alloc (BW_refl _) (.cells #[.slice qb Q.length cb] 27))
        have k_b := blk1 w9 27 #[.slice qb Q.length cb]
        have e_b := Lib.hid (henb.on (BW_alloc (BW_refl _) (.cells #[.slice qb Q.length cb] 27)))
        clear henb hb HR
        have c_z := fun i => k_z.cell i
        go_wp2_with fail
        refine (all_any _ P _ e_a.out (by omega)).mono ?_
        rintro e w10 ⟨va, rfl, hown, hb⟩
        clear c_z
        replace k_p := k_p.on hb
        replace k_z := k_z.on hb
        replace k_b := k_b.on hb
        replace e_a := Lib.hid (e_a.out.on hb)
        replace e_b := Lib.hid (e_b.out.on hb)
        replace BB := BW_on BB hb
        have e_c : Hid (Ents w10 va P) := own_ents hown
        clear hown hb
        go_wp2_with fail
        refine (HB1.out _ _ e_c.out).mono ?_
        rintro e w11 ⟨rfl, hb⟩
        replace k_p := k_p.on hb
        replace k_z := k_z.on hb
        replace k_b := k_b.on hb
        replace e_a := Lib.hid (e_a.out.on hb)
        replace e_b := Lib.hid (e_b.out.on hb)
        replace BB := BW_on BB hb
        clear e_c hb
        replace k_p := k_p.on (BW_alloc (BW_refl _) (.cells #[.int .u64 5, .int .u64 0, .int .u64 0, .int .u64 0] 31))
        replace k_z := k_z.on (BW_alloc (BW_refl _) (.cells #[.int .u64 5, .int .u64 0, .int .u64 0, .int .u64 0] 31))
        replace k_b := k_b.on (BW_alloc (BW_refl _) (.cells #[.int .u64 5, .int .u64 0, .int .u64 0, .int .u64 0] 31))
        replace e_a := Lib.hid (e_a.out.on (BW_alloc (BW_refl _) (.cells #[.int .u64 5, .int .u64 0, .int .u64 0, .int .u64 0] 31)))
        replace e_b := Lib.hid (e_b.out.on (BW_alloc (BW_refl _) (.cells #[.int .u64 5, .int .u64 0, .int .u64 0, .int .u64 0] 31)))
        replace BB := BW_on BB (BW_alloc (BW_refl _) (.cells #[.int .u64 5, .int .u64 0, .int .u64 0, .int .u64 0] 31))
        have k_s := blk1 w11 31 #[.int .u64 5, .int .u64 0, .int .u64 0, .int .u64 0]
        have c_b := fun i => k_b.cell i
        have Hpn : Hid (P.length ≤ 100) := Lib.hid HP
        go_wp2_with fail
        refine (all_any _ Q _ e_b.out (by omega)).mono ?_
        rintro e w12 ⟨vb, rfl, hown, hb⟩
        clear c_b
        replace k_p := k_p.on hb
        replace k_z := k_z.on hb
        replace k_b := k_b.on hb
        replace k_s := k_s.on hb
        replace e_a := Lib.hid (e_a.out.on hb)
        replace e_b := Lib.hid (e_b.out.on hb)
        replace BB := BW_on BB hb
        have e_c : Hid (Ents w12 vb Q) := own_ents hown
        clear hown hb
        go_wp2_with fail
        refine (HB2.out _ _ e_c.out).mono ?_
        rintro e w13 ⟨rfl, hb⟩
        replace k_p := k_p.on hb
        replace k_z := k_z.on hb
        replace k_b := k_b.on hb
        replace k_s := k_s.on hb
        replace e_a := Lib.hid (e_a.out.on hb)
        replace e_b := Lib.hid (e_b.out.on hb)
        replace BB := BW_on BB hb
        clear e_c hb
        replace k_p := k_p.on (BW_alloc (BW_refl _) (.cells #[.int .u64 5, .int .u64 0, .int .u64 0, .int .u64 0] 31))
        replace k_z := k_z.on (BW_alloc (BW_refl _) (.cells #[.int .u64 5, .int .u64 0, .int .u64 0, .int .u64 0] 31))
        replace k_b := k_b.on (BW_alloc (BW_refl _) (.cells #[.int .u64 5, .int .u64 0, .int .u64 0, .int .u64 0] 31))
        replace k_s := k_s.on (BW_alloc (BW_refl _) (.cells #[.int .u64 5, .int .u64 0, .int .u64 0, .int .u64 0] 31))
        replace e_a := Lib.hid (e_a.out.on (BW_alloc (BW_refl _) (.cells #[.int .u64 5, .int .u64 0, .int .u64 0, .int .u64 0] 31)))
        replace e_b := Lib.hid (e_b.out.on (BW_alloc (BW_refl _) (.cells #[.int .u64 5, .int .u64 0, .int .u64 0, .int .u64 0] 31)))
        replace BB := BW_on BB (BW_alloc (BW_refl _) (.cells #[.int .u64 5, .int .u64 0, .int .u64 0, .int .u64 0] 31))
        have k_t := blk1 w13 31 #[.int .u64 5, .int .u64 0, .int .u64 0, .int .u64 0]
        have c_s0 := k_s.cell 0
        have c_t0 := k_t.cell 0
        go_wp2_with fail
        go_ret
        exact ⟨rfl, BB⟩
      · have k_z : Blk (w1.alloc (.cells #[.slice none 0 0] 27)) (w1.heap.size) 27 #[.slice none 0 0] := blk1 w1 _ _
        have hzl : X.heap.size ≤ w1.heap.size := hH2.hb.size
        go_simp
        refine hK.out _ _ (hH2.on (BW_alloc (BW_refl _) _)) (fun hH3 => ?_)
        clear hK K
        replace hst := hst.on (BW_alloc (BW_refl _) (.cells #[.slice none 0 0] 27))
        replace hof := hof.on (BW_alloc (BW_refl _) (.cells #[.slice none 0 0] 27))
        refine wpAnyH_ready (rs := [3]) (by kernel_rfl) (by simp) ?_
        refine AllReadyH.cons rfl (fun K hK => ?_) AllReadyH.nil
        go_simp
        go_at_call 10
        refine (HS.out _ _ hof).mono ?_
        rintro e w3 ⟨qa, ca, rfl, hen, hd3⟩
        go_wp2_with fail
        refine hK.out _ _ (hH3.on hd3) (fun hH4 => ?_)
        clear hK K
        replace k_z := k_z.on hd3
        replace hst := hst.on hd3
        replace hof := hof.on hd3
        refine wpAnyH_take (i := 4) (v := .tuple #[.agg #[.slice qa P.length ca], .int .i64 0]) rfl (by kernel_rfl) (by kernel_rfl) (by kernel_rfl) (fun _ _ _ h => h) (yk_move (by kernel_rfl) _ rfl _ (by kernel_rfl)) hH4 ?_
        refine wpAnyH_take (i := 5) (v := .agg #[.slice qa P.length ca]) rfl (by kernel_rfl) (by kernel_rfl) (by kernel_rfl) (fun _ _ _ h => h) (yk_ext (by kernel_rfl) _ _ rfl (.tuple #[.agg #[.slice qa P.length ca], .int .i64 0]) (by kernel_rfl) _ (fun _ _ => rfl)) hH4 ?_
        refine wpAnyH_take (i := 6) (v := .int .i64 0) rfl (by kernel_rfl) (by kernel_rfl) (by kernel_rfl) (fun _ _ _ h => h) (yk_ext (by kernel_rfl) _ _ rfl (.tuple #[.agg #[.slice qa P.length ca], .int .i64 0]) (by kernel_rfl) _ (fun _ _ => rfl)) hH4 ?_
        refine wpAnyH_ready (rs := [8]) (by kernel_rfl) (by simp) ?_
        refine AllReadyH.cons rfl (fun K hK => ?_) AllReadyH.nil
        rw [if_pos (by kernel_rfl)]
        try simp only [Act.put, List.getElem_toArray, List.getElem_cons_zero, List.getElem_cons_succ, List.setIfInBounds_toArray, List.set_cons_succ, List.set_cons_zero]
        refine wp_store_mid _ _ _ rfl w1.heap.size 0 [.slice qa P.length ca].toArray (by kernel_rfl) (by kernel_rfl) (k_z.there (Nat.le_refl 1)) szD (by simp [Value.oneCell']) ?_
        simp only [Act.put]
        refine hK.out _ _ (hH4.put (ne1 (by omega)) (by omega) _) (fun hH5 => ?_)
        clear hK K
        refine wpAnyH_take (i := 9) (v := .int .i64 0) rfl (by kernel_rfl) (by kernel_rfl) (by kernel_rfl) (fun _ _ _ h => h) (yk_assign (by kernel_rfl) _ rfl _ (by kernel_rfl)) hH5 ?_
        refine wpAnyH_done (by kernel_rfl) ?_ _
        have hB := hH5.hb
        replace hst := hst.box k_z (.slice qa P.length ca)
        change Ents (w3.setCells (w1.heap.size) 0 [.slice qa P.length ca]) _ _ at hst
        replace hof := hof.box k_z (.slice qa P.length ca)
        change Ents (w3.setCells (w1.heap.size) 0 [.slice qa P.length ca]) _ _ at hof
        replace hen := hen.box k_z (.slice qa P.length ca)
        change Ents (w3.setCells (w1.heap.size) 0 [.slice qa P.length ca]) _ _ at hen
        replace k_z := setCells_all k_z [.slice qa P.length ca] rfl
        change Exit.then _ _ _ _ (w3.setCells (w1.heap.size) 0 [.slice qa P.length ca])
        generalize w3.setCells (w1.heap.size) 0 [.slice qa P.length ca] = Z at *
        generalize w1.heap.size = gz at *
        clear hH0 hH1 hH2 hH3 hH4 hH5 hd0 hd1 hd3
        replace k_p := k_p.on hB
        replace BB := BW_on BB hB
        have e_a := Lib.hid hen
        clear hst hof hen hB
        have c_p := fun i => k_p.cell i
        go_wp2_with fail
        refine (HR.out _).mono ?_
        rintro e w9 ⟨qb, cb, rfl, henb, hb⟩
        clear c_p
        replace k_p := k_p.on hb
        replace k_z := k_z.on hb
        replace e_a := Lib.hid (e_a.out.on hb)
        replace BB := BW_on BB hb
        replace k_p := k_p.on (BW_alloc (BW_refl _) (.cells #[.slice qb Q.length cb] 27))
        replace k_z := k_z.on (BW_alloc (BW_refl _) (.cells #[.slice qb Q.length cb] 27))
        replace e_a := Lib.hid (e_a.out.on (BW_alloc (BW_refl _) (.cells #[.slice qb Q.length cb] 27)))
        replace BB := BW_on BB (BW_alloc (BW_refl _) (.cells #[.slice qb Q.length cb] 27))
        have k_b := blk1 w9 27 #[.slice qb Q.length cb]
        have e_b := Lib.hid (henb.on (BW_alloc (BW_refl _) (.cells #[.slice qb Q.length cb] 27)))
        clear henb hb HR
        have c_z := fun i => k_z.cell i
        go_wp2_with fail
        refine (all_any _ P _ e_a.out (by omega)).mono ?_
        rintro e w10 ⟨va, rfl, hown, hb⟩
        clear c_z
        replace k_p := k_p.on hb
        replace k_z := k_z.on hb
        replace k_b := k_b.on hb
        replace e_a := Lib.hid (e_a.out.on hb)
        replace e_b := Lib.hid (e_b.out.on hb)
        replace BB := BW_on BB hb
        have e_c : Hid (Ents w10 va P) := own_ents hown
        clear hown hb
        go_wp2_with fail
        refine (HB1.out _ _ e_c.out).mono ?_
        rintro e w11 ⟨rfl, hb⟩
        replace k_p := k_p.on hb
        replace k_z := k_z.on hb
        replace k_b := k_b.on hb
        replace e_a := Lib.hid (e_a.out.on hb)
        replace e_b := Lib.hid (e_b.out.on hb)
        replace BB := BW_on BB hb
        clear e_c hb
        replace k_p := k_p.on (BW_alloc (BW_refl _) (.cells #[.int .u64 5, .int .u64 0, .int .u64 0, .int .u64 0] 31))
        replace k_z := k_z.on (BW_alloc (BW_refl _) (.cells #[.int .u64 5, .int .u64 0, .int .u64 0, .int .u64 0] 31))
        replace k_b := k_b.on (BW_alloc (BW_refl _) (.cells #[.int .u64 5, .int .u64 0, .int .u64 0, .int .u64 0] 31))
        replace e_a := Lib.hid (e_a.out.on (BW_alloc (BW_refl _) (.cells #[.int .u64 5, .int .u64 0, .int .u64 0, .int .u64 0] 31)))
        replace e_b := Lib.hid (e_b.out.on (BW_alloc (BW_refl _) (.cells #[.int .u64 5, .int .u64 0, .int .u64 0, .int .u64 0] 31)))
        replace BB := BW_on BB (BW_alloc (BW_refl _) (.cells #[.int .u64 5, .int .u64 0, .int .u64 0, .int .u64 0] 31))
        have k_s := blk1 w11 31 #[.int .u64 5, .int .u64 0, .int .u64 0, .int .u64 0]
        have c_b := fun i => k_b.cell i
        have Hpn : Hid (P.length ≤ 100) := Lib.hid HP
        go_wp2_with fail
        refine (all_any _ Q _ e_b.out (by omega)).mono ?_
        rintro e w12 ⟨vb, rfl, hown, hb⟩
        clear c_b
        replace k_p := k_p.on hb
        replace k_z := k_z.on hb
        replace k_b := k_b.on hb
        replace k_s := k_s.on hb
        replace e_a := Lib.hid (e_a.out.on hb)
        replace e_b := Lib.hid (e_b.out.on hb)
        replace BB := BW_on BB hb
        have e_c : Hid (Ents w12 vb Q) := own_ents hown
        clear hown hb
        go_wp2_with fail
        refine (HB2.out _ _ e_c.out).mono ?_
        rintro e w13 ⟨rfl, hb⟩
        replace k_p := k_p.on hb
        replace k_z := k_z.on hb
        replace k_b := k_b.on hb
        replace k_s := k_s.on hb
        replace e_a := Lib.hid (e_a.out.on hb)
        replace e_b := Lib.hid (e_b.out.on hb)
        replace BB := BW_on BB hb
        clear e_c hb
        replace k_p := k_p.on (BW_alloc (BW_refl _) (.cells #[.int .u64 5, .int .u64 0, .int .u64 0, .int .u64 0] 31))
        replace k_z := k_z.on (BW_alloc (BW_refl _) (.cells #[.int .u64 5, .int .u64 0, .int .u64 0, .int .u64 0] 31))
        replace k_b := k_b.on (BW_alloc (BW_refl _) (.cells #[.int .u64 5, .int .u64 0, .int .u64 0, .int .u64 0] 31))
        replace k_s := k_s.on (BW_alloc (BW_refl _) (.cells #[.int .u64 5, .int .u64 0, .int .u64 0, .int .u64 0] 31))
        replace e_a := Lib.hid (e_a.out.on (BW_alloc (BW_refl _) (.cells #[.int .u64 5, .int .u64 0, .int .u64 0, .int .u64 0] 31)))
        replace e_b := Lib.hid (e_b.out.on (BW_alloc (BW_refl _) (.cells #[.int .u64 5, .int .u64 0, .int .u64 0, .int .u64 0] 31)))
        replace BB := BW_on BB (BW_alloc (BW_refl _) (.cells #[.int .u64 5, .int .u64 0, .int .u64 0, .int .u64 0] 31))
        have k_t := blk1 w13 31 #[.int .u64 5, .int .u64 0, .int .u64 0, .int .u64 0]
        have c_s0 := k_s.cell 0
        have c_t0 := k_t.cell 0
        go_wp2_with fail
        go_ret
        exact ⟨rfl, BB⟩
    · have k_z : Blk (w0.alloc (.cells #[.slice none 0 0] 27)) (w0.heap.size) 27 #[.slice none 0 0] := blk1 w0 _ _
      have hzl : X.heap.size ≤ w0.heap.size := hH1.hb.size
      go_simp
      refine hK.out _ _ (hH1.on (BW_alloc (BW_refl _) _)) (fun hH2 => ?_)
      clear hK K
      replace hst := hst.on (BW_alloc (BW_refl _) (.cells #[.slice none 0 0] 27))
      refine wpAnyH_ready (rs := [1]) (by kernel_rfl) (by simp) ?_
      refine AllReadyH.cons rfl (fun K hK => ?_) AllReadyH.nil
      go_simp
      go_at_call 8
      refine (HO.out _ _ hst).mono ?_
      rintro e w1 ⟨vd, rfl, hof, hd1⟩
      go_wp2_with fail
      refine hK.out _ _ (hH2.on hd1) (fun hH3 => ?_)
      clear hK K
      replace k_z := k_z.on hd1
      replace hst := hst.on hd1
      refine wpAnyH_ready (rs := [3]) (by kernel_rfl) (by simp) ?_
      refine AllReadyH.cons rfl (fun K hK => ?_) AllReadyH.nil
      go_simp
      go_at_call 10
      refine (HS.out _ _ hof).mono ?_
      rintro e w3 ⟨qa, ca, rfl, hen, hd3⟩
      go_wp2_with fail
      refine hK.out _ _ (hH3.on hd3) (fun hH4 => ?_)
      clear hK K
      replace k_z := k_z.on hd3
      replace hst := hst.on hd3
      replace hof := hof.on hd3
      refine wpAnyH_take (i := 4) (v := .tuple #[.agg #[.slice qa P.length ca], .int .i64 0]) rfl (by kernel_rfl) (by kernel_rfl) (by kernel_rfl) (fun _ _ _ h => h) (yk_move (by kernel_rfl) _ rfl _ (by kernel_rfl)) hH4 ?_
      refine wpAnyH_take (i := 5) (v := .agg #[.slice qa P.length ca]) rfl (by kernel_rfl) (by kernel_rfl) (by kernel_rfl) (fun _ _ _ h => h) (yk_ext (by kernel_rfl) _ _ rfl (.tuple #[.agg #[.slice qa P.length ca], .int .i64 0]) (by kernel_rfl) _ (fun _ _ => rfl)) hH4 ?_
      refine wpAnyH_take (i := 6) (v := .int .i64 0) rfl (by kernel_rfl) (by kernel_rfl) (by kernel_rfl) (fun _ _ _ h => h) (yk_ext (by kernel_rfl) _ _ rfl (.tuple #[.agg #[.slice qa P.length ca], .int .i64 0]) (by kernel_rfl) _ (fun _ _ => rfl)) hH4 ?_
      refine wpAnyH_ready (rs := [8]) (by kernel_rfl) (by simp) ?_
      refine AllReadyH.cons rfl (fun K hK => ?_) AllReadyH.nil
      rw [if_pos (by kernel_rfl)]
      try simp only [Act.put, List.getElem_toArray, List.getElem_cons_zero, List.getElem_cons_succ, List.setIfInBounds_toArray, List.set_cons_succ, List.set_cons_zero]
      refine wp_store_mid _ _ _ rfl w0.heap.size 0 [.slice qa P.length ca].toArray (by kernel_rfl) (by kernel_rfl) (k_z.there (Nat.le_refl 1)) szD (by simp [Value.oneCell']) ?_
      simp only [Act.put]
      refine hK.out _ _ (hH4.put (ne1 (by omega)) (by omega) _) (fun hH5 => ?_)
      clear hK K
      refine wpAnyH_take (i := 9) (v := .int .i64 0) rfl (by kernel_rfl) (by kernel_rfl) (by kernel_rfl) (fun _ _ _ h => h) (yk_assign (by kernel_rfl) _ rfl _ (by kernel_rfl)) hH5 ?_
      refine wpAnyH_done (by kernel_rfl) ?_ _
      have hB := hH5.hb
      replace hst := hst.box k_z (.slice qa P.length ca)
      change Ents (w3.setCells (w0.heap.size) 0 [.slice qa P.length ca]) _ _ at hst
      replace hof := hof.box k_z (.slice qa P.length ca)
      change Ents (w3.setCells (w0.heap.size) 0 [.slice qa P.length ca]) _ _ at hof
      replace hen := hen.box k_z (.slice qa P.length ca)
      change Ents (w3.setCells (w0.heap.size) 0 [.slice qa P.length ca]) _ _ at hen
      replace k_z := setCells_all k_z [.slice qa P.length ca] rfl
      change Exit.then _ _ _ _ (w3.setCells (w0.heap.size) 0 [.slice qa P.length ca])
      generalize w3.setCells (w0.heap.size) 0 [.slice qa P.length ca] = Z at *
      generalize w0.heap.size = gz at *
      clear hH0 hH1 hH2 hH3 hH4 hH5 hd0 hd1 hd3
      replace k_p := k_p.on hB
      replace BB := BW_on BB hB
      have e_a := Lib.hid hen
      clear hst hof hen hB
      have c_p := fun i => k_p.cell i
      go_wp2_with fail
      refine (HR.out _).mono ?_
      rintro e w9 ⟨qb, cb, rfl, henb, hb⟩
      clear c_p
      replace k_p := k_p.on hb
      replace k_z := k_z.on hb
      replace e_a := Lib.hid (e_a.out.on hb)
      replace BB := BW_on BB hb
      replace k_p := k_p.on (BW_alloc (BW_refl _) (.cells #[.slice qb Q.length cb] 27))
      replace k_z := k_z.on (BW_alloc (BW_refl _) (.cells #[.slice qb Q.length cb] 27))
      replace e_a := Lib.hid (e_a.out.on (BW_alloc (BW_refl _) (.cells #[.slice qb Q.length cb] 27)))
      replace BB := BW_on BB (BW_alloc (BW_refl _) (.cells #[.slice qb Q.length cb] 27))
      have k_b := blk1 w9 27 #[.slice qb Q.length cb]
      have e_b := Lib.hid (henb.on (BW_alloc (BW_refl _) (.cells #[.slice qb Q.length cb] 27)))
      clear henb hb HR
      have c_z := fun i => k_z.cell i
      go_wp2_with fail
      refine (all_any _ P _ e_a.out (by omega)).mono ?_
      rintro e w10 ⟨va, rfl, hown, hb⟩
      clear c_z
      replace k_p := k_p.on hb
      replace k_z := k_z.on hb
      replace k_b := k_b.on hb
      replace e_a := Lib.hid (e_a.out.on hb)
      replace e_b := Lib.hid (e_b.out.on hb)
      replace BB := BW_on BB hb
      have e_c : Hid (Ents w10 va P) := own_ents hown
      clear hown hb
      go_wp2_with fail
      refine (HB1.out _ _ e_c.out).mono ?_
      rintro e w11 ⟨rfl, hb⟩
      replace k_p := k_p.on hb
      replace k_z := k_z.on hb
      replace k_b := k_b.on hb
      replace e_a := Lib.hid (e_a.out.on hb)
      replace e_b := Lib.hid (e_b.out.on hb)
      replace BB := BW_on BB hb
      clear e_c hb
      replace k_p := k_p.on (BW_alloc (BW_refl _) (.cells #[.int .u64 5, .int .u64 0, .int .u64 0, .int .u64 0] 31))
      replace k_z := k_z.on (BW_alloc (BW_refl _) (.cells #[.int .u64 5, .int .u64 0, .int .u64 0, .int .u64 0] 31))
      replace k_b := k_b.on (BW_alloc (BW_refl _) (.cells #[.int .u64 5, .int .u64 0, .int .u64 0, .int .u64 0] 31))
      replace e_a := Lib.hid (e_a.out.on (BW_alloc (BW_refl _) (.cells #[.int .u64 5, .int .u64 0, .int .u64 0, .int .u64 0] 31)))
      replace e_b := Lib.hid (e_b.out.on (BW_alloc (BW_refl _) (.cells #[.int .u64 5, .int .u64 0, .int .u64 0, .int .u64 0] 31)))
      replace BB := BW_on BB (BW_alloc (BW_refl _) (.cells #[.int .u64 5, .int .u64 0, .int .u64 0, .int .u64 0] 31))
      have k_s := blk1 w11 31 #[.int .u64 5, .int .u64 0, .int .u64 0, .int .u64 0]
      have c_b := fun i => k_b.cell i
      have Hpn : Hid (P.length ≤ 100) := Lib.hid HP
      go_wp2_with fail
      refine (all_any _ Q _ e_b.out (by omega)).mono ?_
      rintro e w12 ⟨vb, rfl, hown, hb⟩
      clear c_b
      replace k_p := k_p.on hb
      replace k_z := k_z.on hb
      replace k_b := k_b.on hb
      replace k_s := k_s.on hb
      replace e_a := Lib.hid (e_a.out.on hb)
      replace e_b := Lib.hid (e_b.out.on hb)
      replace BB := BW_on BB hb
      have e_c : Hid (Ents w12 vb Q) := own_ents hown
      clear hown hb
      go_wp2_with fail
      refine (HB2.out _ _ e_c.out).mono ?_
      rintro e w13 ⟨rfl, hb⟩
      replace k_p := k_p.on hb
      replace k_z := k_z.on hb
      replace k_b := k_b.on hb
      replace k_s := k_s.on hb
      replace e_a := Lib.hid (e_a.out.on hb)
      replace e_b := Lib.hid (e_b.out.on hb)
      replace BB := BW_on BB hb
      clear e_c hb
      replace k_p := k_p.on (BW_alloc (BW_refl _) (.cells #[.int .u64 5, .int .u64 0, .int .u64 0, .int .u64 0] 31))
      replace k_z := k_z.on (BW_alloc (BW_refl _) (.cells #[.int .u64 5, .int .u64 0, .int .u64 0, .int .u64 0] 31))
      replace k_b := k_b.on (BW_alloc (BW_refl _) (.cells #[.int .u64 5, .int .u64 0, .int .u64 0, .int .u64 0] 31))
      replace k_s := k_s.on (BW_alloc (BW_refl _) (.cells #[.int .u64 5, .int .u64 0, .int .u64 0, .int .u64 0] 31))
      replace e_a := Lib.hid (e_a.out.on (BW_alloc (BW_refl _) (.cells #[.int .u64 5, .int .u64 0, .int .u64 0, .int .u64 0] 31)))
      replace e_b := Lib.hid (e_b.out.on (BW_alloc (BW_refl _) (.cells #[.int .u64 5, .int .u64 0, .int .u64 0, .int .u64 0] 31)))
      replace BB := BW_on BB (BW_alloc (BW_refl _) (.cells #[.int .u64 5, .int .u64 0, .int .u64 0, .int .u64 0] 31))
      have k_t := blk1 w13 31 #[.int .u64 5, .int .u64 0, .int .u64 0, .int .u64 0]
      have c_s0 := k_s.cell 0
      have c_t0 := k_t.cell 0
      go_wp2_with fail
      go_ret
      exact ⟨rfl, BB⟩
  · have k_z : Blk ((X.alloc (.cells #[.slice none 0 0] 27)).drew) (X.heap.size) 27 #[.slice none 0 0] := (blk1 X _ _).drew
    have hzl : X.heap.size ≤ X.heap.size := hH0.hb.size
    go_simp
    refine hK.out _ _ (hH0.on (BW_alloc (BW_refl _) _)) (fun hH1 => ?_)
    clear hK K
    
    refine wpAnyH_ready (rs := [0]) (by kernel_rfl) (by simp) ?_
    refine AllReadyH.cons rfl (fun K hK => ?_) AllReadyH.nil
    go_simp
    go_at_call 7
    refine (start17_any _).mono ?_
    rintro e w0 ⟨vs, rfl, hst, hd0⟩
    go_wp2_with fail
    refine hK.out _ _ (hH1.on hd0) (fun hH2 => ?_)
    clear hK K
    replace k_z := k_z.on hd0
    refine wpAnyH_ready (rs := [1]) (by kernel_rfl) (by simp) ?_
    refine AllReadyH.cons rfl (fun K hK => ?_) AllReadyH.nil
    go_simp
    go_at_call 8
    refine (HO.out _ _ hst).mono ?_
    rintro e w1 ⟨vd, rfl, hof, hd1⟩
    go_wp2_with fail
    refine hK.out _ _ (hH2.on hd1) (fun hH3 => ?_)
    clear hK K
    replace k_z := k_z.on hd1
    replace hst := hst.on hd1
    refine wpAnyH_ready (rs := [3]) (by kernel_rfl) (by simp) ?_
    refine AllReadyH.cons rfl (fun K hK => ?_) AllReadyH.nil
    go_simp
    go_at_call 10
    refine (HS.out _ _ hof).mono ?_
    rintro e w3 ⟨qa, ca, rfl, hen, hd3⟩
    go_wp2_with fail
    refine hK.out _ _ (hH3.on hd3) (fun hH4 => ?_)
    clear hK K
    replace k_z := k_z.on hd3
    replace hst := hst.on hd3
    replace hof := hof.on hd3
    refine wpAnyH_take (i := 4) (v := .tuple #[.agg #[.slice qa P.length ca], .int .i64 0]) rfl (by kernel_rfl) (by kernel_rfl) (by kernel_rfl) (fun _ _ _ h => h) (yk_move (by kernel_rfl) _ rfl _ (by kernel_rfl)) hH4 ?_
    refine wpAnyH_take (i := 5) (v := .agg #[.slice qa P.length ca]) rfl (by kernel_rfl) (by kernel_rfl) (by kernel_rfl) (fun _ _ _ h => h) (yk_ext (by kernel_rfl) _ _ rfl (.tuple #[.agg #[.slice qa P.length ca], .int .i64 0]) (by kernel_rfl) _ (fun _ _ => rfl)) hH4 ?_
    refine wpAnyH_take (i := 6) (v := .int .i64 0) rfl (by kernel_rfl) (by kernel_rfl) (by kernel_rfl) (fun _ _ _ h => h) (yk_ext (by kernel_rfl) _ _ rfl (.tuple #[.agg #[.slice qa P.length ca], .int .i64 0]) (by kernel_rfl) _ (fun _ _ => rfl)) hH4 ?_
    refine wpAnyH_ready (rs := [8]) (by kernel_rfl) (by simp) ?_
    refine AllReadyH.cons rfl (fun K hK => ?_) AllReadyH.nil
    rw [if_pos (by kernel_rfl)]
    try simp only [Act.put, List.getElem_toArray, List.getElem_cons_zero, List.getElem_cons_succ, List.setIfInBounds_toArray, List.set_cons_succ, List.set_cons_zero]
    refine wp_store_mid _ _ _ rfl X.heap.size 0 [.slice qa P.length ca].toArray (by kernel_rfl) (by kernel_rfl) (k_z.there (Nat.le_refl 1)) szD (by simp [Value.oneCell']) ?_
    simp only [Act.put]
    refine hK.out _ _ (hH4.put (ne1 (by omega)) (by omega) _) (fun hH5 => ?_)
    clear hK K
    refine wpAnyH_take (i := 9) (v := .int .i64 0) rfl (by kernel_rfl) (by kernel_rfl) (by kernel_rfl) (fun _ _ _ h => h) (yk_assign (by kernel_rfl) _ rfl _ (by kernel_rfl)) hH5 ?_
    refine wpAnyH_done (by kernel_rfl) ?_ _
    have hB := hH5.hb
    replace hst := hst.box k_z (.slice qa P.length ca)
    change Ents (w3.setCells (X.heap.size) 0 [.slice qa P.length ca]) _ _ at hst
    replace hof := hof.box k_z (.slice qa P.length ca)
    change Ents (w3.setCells (X.heap.size) 0 [.slice qa P.length ca]) _ _ at hof
    replace hen := hen.box k_z (.slice qa P.length ca)
    change Ents (w3.setCells (X.heap.size) 0 [.slice qa P.length ca]) _ _ at hen
    replace k_z := setCells_all k_z [.slice qa P.length ca] rfl
    change Exit.then _ _ _ _ (w3.setCells (X.heap.size) 0 [.slice qa P.length ca])
    generalize w3.setCells (X.heap.size) 0 [.slice qa P.length ca] = Z at *
    clear hH0 hH1 hH2 hH3 hH4 hH5 hd0 hd1 hd3
    replace k_p := k_p.on hB
    replace BB := BW_on BB hB
    have e_a := Lib.hid hen
    clear hst hof hen hB
    have c_p := fun i => k_p.cell i
    go_wp2_with fail
    refine (HR.out _).mono ?_
    rintro e w9 ⟨qb, cb, rfl, henb, hb⟩
    clear c_p
    replace k_p := k_p.on hb
    replace k_z := k_z.on hb
    replace e_a := Lib.hid (e_a.out.on hb)
    replace BB := BW_on BB hb
    replace k_p := k_p.on (BW_alloc (BW_refl _) (.cells #[.slice qb Q.length cb] 27))
    replace k_z := k_z.on (BW_alloc (BW_refl _) (.cells #[.slice qb Q.length cb] 27))
    replace e_a := Lib.hid (e_a.out.on (BW_alloc (BW_refl _) (.cells #[.slice qb Q.length cb] 27)))
    replace BB := BW_on BB (BW_alloc (BW_refl _) (.cells #[.slice qb Q.length cb] 27))
    have k_b := blk1 w9 27 #[.slice qb Q.length cb]
    have e_b := Lib.hid (henb.on (BW_alloc (BW_refl _) (.cells #[.slice qb Q.length cb] 27)))
    clear henb hb HR
    have c_z := fun i => k_z.cell i
    go_wp2_with fail
    refine (all_any _ P _ e_a.out (by omega)).mono ?_
    rintro e w10 ⟨va, rfl, hown, hb⟩
    clear c_z
    replace k_p := k_p.on hb
    replace k_z := k_z.on hb
    replace k_b := k_b.on hb
    replace e_a := Lib.hid (e_a.out.on hb)
    replace e_b := Lib.hid (e_b.out.on hb)
    replace BB := BW_on BB hb
    have e_c : Hid (Ents w10 va P) := own_ents hown
    clear hown hb
    go_wp2_with fail
    refine (HB1.out _ _ e_c.out).mono ?_
    rintro e w11 ⟨rfl, hb⟩
    replace k_p := k_p.on hb
    replace k_z := k_z.on hb
    replace k_b := k_b.on hb
    replace e_a := Lib.hid (e_a.out.on hb)
    replace e_b := Lib.hid (e_b.out.on hb)
    replace BB := BW_on BB hb
    clear e_c hb
    replace k_p := k_p.on (BW_alloc (BW_refl _) (.cells #[.int .u64 5, .int .u64 0, .int .u64 0, .int .u64 0] 31))
    replace k_z := k_z.on (BW_alloc (BW_refl _) (.cells #[.int .u64 5, .int .u64 0, .int .u64 0, .int .u64 0] 31))
    replace k_b := k_b.on (BW_alloc (BW_refl _) (.cells #[.int .u64 5, .int .u64 0, .int .u64 0, .int .u64 0] 31))
    replace e_a := Lib.hid (e_a.out.on (BW_alloc (BW_refl _) (.cells #[.int .u64 5, .int .u64 0, .int .u64 0, .int .u64 0] 31)))
    replace e_b := Lib.hid (e_b.out.on (BW_alloc (BW_refl _) (.cells #[.int .u64 5, .int .u64 0, .int .u64 0, .int .u64 0] 31)))
    replace BB := BW_on BB (BW_alloc (BW_refl _) (.cells #[.int .u64 5, .int .u64 0, .int .u64 0, .int .u64 0] 31))
    have k_s := blk1 w11 31 #[.int .u64 5, .int .u64 0, .int .u64 0, .int .u64 0]
    have c_b := fun i => k_b.cell i
    have Hpn : Hid (P.length ≤ 100) := Lib.hid HP
    go_wp2_with fail
    refine (all_any _ Q _ e_b.out (by omega)).mono ?_
    rintro e w12 ⟨vb, rfl, hown, hb⟩
    clear c_b
    replace k_p := k_p.on hb
    replace k_z := k_z.on hb
    replace k_b := k_b.on hb
    replace k_s := k_s.on hb
    replace e_a := Lib.hid (e_a.out.on hb)
    replace e_b := Lib.hid (e_b.out.on hb)
    replace BB := BW_on BB hb
    have e_c : Hid (Ents w12 vb Q) := own_ents hown
    clear hown hb
    go_wp2_with fail
    refine (HB2.out _ _ e_c.out).mono ?_
    rintro e w13 ⟨rfl, hb⟩
    replace k_p := k_p.on hb
    replace k_z := k_z.on hb
    replace k_b := k_b.on hb
    replace k_s := k_s.on hb
    replace e_a := Lib.hid (e_a.out.on hb)
    replace e_b := Lib.hid (e_b.out.on hb)
    replace BB := BW_on BB hb
    clear e_c hb
    replace k_p := k_p.on (BW_alloc (BW_refl _) (.cells #[.int .u64 5, .int .u64 0, .int .u64 0, .int .u64 0] 31))
    replace k_z := k_z.on (BW_alloc (BW_refl _) (.cells #[.int .u64 5, .int .u64 0, .int .u64 0, .int .u64 0] 31))
    replace k_b := k_b.on (BW_alloc (BW_refl _) (.cells #[.int .u64 5, .int .u64 0, .int .u64 0, .int .u64 0] 31))
    replace k_s := k_s.on (BW_alloc (BW_refl _) (.cells #[.int .u64 5, .int .u64 0, .int .u64 0, .int .u64 0] 31))
    replace e_a := Lib.hid (e_a.out.on (BW_alloc (BW_refl _) (.cells #[.int .u64 5, .int .u64 0, .int .u64 0, .int .u64 0] 31)))
    replace e_b := Lib.hid (e_b.out.on (BW_alloc (BW_refl _) (.cells #[.int .u64 5, .int .u64 0, .int .u64 0, .int .u64 0] 31)))
    replace BB := BW_on BB (BW_alloc (BW_refl _) (.cells #[.int .u64 5, .int .u64 0, .int .u64 0, .int .u64 0] 31))
    have k_t := blk1 w13 31 #[.int .u64 5, .int .u64 0, .int .u64 0, .int .u64 0]
    have c_s0 := k_s.cell 0
    have c_t0 := k_t.cell 0
    go_wp2_with fail
    go_ret
    exact ⟨rfl, BB⟩
end Go.Proofs.YtpcdgljcpacpiaaGreatDoor
