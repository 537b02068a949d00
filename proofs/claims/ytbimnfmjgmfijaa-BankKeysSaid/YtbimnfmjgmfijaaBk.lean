/- The law BankKeys: names, denominations and keys are as the words say; no two keys are the same: for every input. -/
import Derived.Test.YtbimnfmjgmfijaaBj
namespace Go.Proofs.Ytbimnfmjgmfijaa
open Go.ChangeShapes Go.WideShapes Go.ChangeAt Go.RowKit Go.WideElems
section
attribute [local go_sem ↓] Go.wp_at_zero Go.wp_at_succ
set_option maxHeartbeats 4000000 in
set_option maxRecDepth 100000 in
theorem l11keys_any (x0 y0 u0 v0 : ByteArray) (w : World) : Calls Try.prog 3 #[.agg #[.string x0, .string y0], .agg #[.string u0, .string v0]] w fun e w' => e = .returned (.bool true) ∧ Below w.heap.size w w' := by
  have hb0 := BW_alloc (BW_alloc (BW_refl w) (.cells #[.string x0, .string y0] 22)) (.cells #[.string u0, .string v0] 22)
  have k1 := (blk1 w 22 #[.string x0, .string y0]).alloc (.cells #[.string u0, .string v0] 22)
  have k2 := blk2 w (.cells #[.string x0, .string y0] 22) 22 #[.string u0, .string v0]
  go_enter Try.func3, Try.ntmps3
  go_wp2_with fail
  refine (awake11_any _).mono ?_
  rintro e w1 ⟨rfl, hb1⟩
  replace hb0 := BW_on hb0 hb1
  replace k1 := k1.on hb1
  replace k2 := k2.on hb1
  have c1 := fun i => k1.cell i
  have c2 := fun i => k2.cell i
  clear hb1
  go_wp2_with fail
  refine (short11_any x0 70 _).mono ?_
  rintro e w' ⟨rfl, rfl⟩
  go_wp2_with fail
  refine (short11_any y0 210 _).mono ?_
  rintro e w' ⟨rfl, rfl⟩
  go_wp2_with fail
  refine (short11_any u0 70 _).mono ?_
  rintro e w' ⟨rfl, rfl⟩
  go_wp2_with fail
  refine (short11_any v0 210 _).mono ?_
  rintro e w' ⟨rfl, rfl⟩
  have zx := shN_size x0 70
  have zy := shN_size y0 210
  have zu := shN_size u0 70
  have zv := shN_size v0 210
  generalize shN x0 70 = x at *
  generalize shN y0 210 = y at *
  generalize shN u0 70 = u at *
  generalize shN v0 210 = v at *
  clear c1 c2 k1 k2
  have hkt : ((keyB x y).toList == (totB v).toList) = false := by rw [beq_kl]; exact decide_eq_false (key_ne_tot x y v)
  have hcase : (x = u ∧ y = v) ∨ (((keyB x y).toList == (keyB u v).toList) = false ∧ (((x.toList == u.toList) = true ∧ (y.toList == v.toList) = false) ∨ (x.toList == u.toList) = false)) := by
    by_cases h : x = u ∧ y = v
    · exact .inl h
    · refine .inr ⟨by rw [beq_kl]; exact decide_eq_false (fun e => h (key_inj (by omega) (by omega) (by omega) (by omega) e)), ?_⟩
      by_cases hx : x = u
      · exact .inl ⟨by rw [beq_kl]; exact decide_eq_true hx, by rw [beq_kl]; exact decide_eq_false (fun e => h ⟨hx, e⟩)⟩
      · exact .inr (by rw [beq_kl]; exact decide_eq_false hx)
  have T : ∀ (z : ByteArray), z.size ≤ 210 → z.size ≤ 1000000 := fun z h => by omega
  have zx2 : x.size ≤ 210 := by omega
  have zu2 : u.size ≤ 210 := by omega
  have Hcase := Lib.hid hcase
  have Hkt := Lib.hid hkt
  clear hcase hkt zx zu
  rcases Hcase.out with ⟨rfl, rfl⟩ | ⟨hk, ⟨hx, hy⟩ | hx⟩
  · go_wp2_with fail
    refine (bname_any x _).mono ?_
    rintro e w9 ⟨rfl, rfl⟩
    go_wp2_with fail
    refine (r11name_any x _).mono ?_
    rintro e w9 ⟨rfl, rfl⟩
    go_wp2_with fail
    refine (bdenom_any y _).mono ?_
    rintro e w9 ⟨rfl, rfl⟩
    go_wp2_with fail
    refine (r11denom_any y _).mono ?_
    rintro e w9 ⟨rfl, rfl⟩
    go_wp2_with fail
    refine (bkey_any x y _ (T x zx2) (T y zy)).mono ?_
    rintro e w9 ⟨rfl, hb9⟩
    replace hb0 := BW_on hb0 hb9
    clear hb9
    go_wp2_with fail
    refine (r11key_any x y _ (T x zx2) (T y zy)).mono ?_
    rintro e w9 ⟨rfl, hb9⟩
    replace hb0 := BW_on hb0 hb9
    clear hb9
    go_wp2_with fail
    refine (btot_any y _ (T y zy)).mono ?_
    rintro e w9 ⟨rfl, hb9⟩
    replace hb0 := BW_on hb0 hb9
    clear hb9
    go_wp2_with fail
    refine (r11tot_any y _ (T y zy)).mono ?_
    rintro e w9 ⟨rfl, hb9⟩
    replace hb0 := BW_on hb0 hb9
    clear hb9
    go_wp2_with fail
    refine (bkey_any x y _ (T x zx2) (T y zy)).mono ?_
    rintro e w9 ⟨rfl, hb9⟩
    replace hb0 := BW_on hb0 hb9
    clear hb9
    go_wp2_with fail
    refine (bkey_any x y _ (T x zx2) (T y zy)).mono ?_
    rintro e w9 ⟨rfl, hb9⟩
    replace hb0 := BW_on hb0 hb9
    clear hb9
    go_wp2_with fail
    refine (bkey_any x y _ (T x zx2) (T y zy)).mono ?_
    rintro e w9 ⟨rfl, hb9⟩
    replace hb0 := BW_on hb0 hb9
    clear hb9
    go_wp2_with fail
    refine (btot_any y _ (T y zy)).mono ?_
    rintro e w9 ⟨rfl, hb9⟩
    replace hb0 := BW_on hb0 hb9
    clear hb9
    have hkt := Hkt.out
    go_wp2_with fail
    go_ret
    exact ⟨rfl, hb0⟩
  · go_wp2_with fail
    refine (bname_any x _).mono ?_
    rintro e w9 ⟨rfl, rfl⟩
    go_wp2_with fail
    refine (r11name_any x _).mono ?_
    rintro e w9 ⟨rfl, rfl⟩
    go_wp2_with fail
    refine (bdenom_any y _).mono ?_
    rintro e w9 ⟨rfl, rfl⟩
    go_wp2_with fail
    refine (r11denom_any y _).mono ?_
    rintro e w9 ⟨rfl, rfl⟩
    go_wp2_with fail
    refine (bkey_any x y _ (T x zx2) (T y zy)).mono ?_
    rintro e w9 ⟨rfl, hb9⟩
    replace hb0 := BW_on hb0 hb9
    clear hb9
    go_wp2_with fail
    refine (r11key_any x y _ (T x zx2) (T y zy)).mono ?_
    rintro e w9 ⟨rfl, hb9⟩
    replace hb0 := BW_on hb0 hb9
    clear hb9
    go_wp2_with fail
    refine (btot_any y _ (T y zy)).mono ?_
    rintro e w9 ⟨rfl, hb9⟩
    replace hb0 := BW_on hb0 hb9
    clear hb9
    go_wp2_with fail
    refine (r11tot_any y _ (T y zy)).mono ?_
    rintro e w9 ⟨rfl, hb9⟩
    replace hb0 := BW_on hb0 hb9
    clear hb9
    go_wp2_with fail
    refine (bkey_any x y _ (T x zx2) (T y zy)).mono ?_
    rintro e w9 ⟨rfl, hb9⟩
    replace hb0 := BW_on hb0 hb9
    clear hb9
    go_wp2_with fail
    refine (bkey_any u v _ (T u zu2) (T v zv)).mono ?_
    rintro e w9 ⟨rfl, hb9⟩
    replace hb0 := BW_on hb0 hb9
    clear hb9
    go_wp2_with fail
    refine (bkey_any x y _ (T x zx2) (T y zy)).mono ?_
    rintro e w9 ⟨rfl, hb9⟩
    replace hb0 := BW_on hb0 hb9
    clear hb9
    go_wp2_with fail
    refine (btot_any v _ (T v zv)).mono ?_
    rintro e w9 ⟨rfl, hb9⟩
    replace hb0 := BW_on hb0 hb9
    clear hb9
    have hkt := Hkt.out
    go_wp2_with fail
    go_ret
    exact ⟨rfl, hb0⟩
  · go_wp2_with fail
    refine (bname_any x _).mono ?_
    rintro e w9 ⟨rfl, rfl⟩
    go_wp2_with fail
    refine (r11name_any x _).mono ?_
    rintro e w9 ⟨rfl, rfl⟩
    go_wp2_with fail
    refine (bdenom_any y _).mono ?_
    rintro e w9 ⟨rfl, rfl⟩
    go_wp2_with fail
    refine (r11denom_any y _).mono ?_
    rintro e w9 ⟨rfl, rfl⟩
    go_wp2_with fail
    refine (bkey_any x y _ (T x zx2) (T y zy)).mono ?_
    rintro e w9 ⟨rfl, hb9⟩
    replace hb0 := BW_on hb0 hb9
    clear hb9
    go_wp2_with fail
    refine (r11key_any x y _ (T x zx2) (T y zy)).mono ?_
    rintro e w9 ⟨rfl, hb9⟩
    replace hb0 := BW_on hb0 hb9
    clear hb9
    go_wp2_with fail
    refine (btot_any y _ (T y zy)).mono ?_
    rintro e w9 ⟨rfl, hb9⟩
    replace hb0 := BW_on hb0 hb9
    clear hb9
    go_wp2_with fail
    refine (r11tot_any y _ (T y zy)).mono ?_
    rintro e w9 ⟨rfl, hb9⟩
    replace hb0 := BW_on hb0 hb9
    clear hb9
    go_wp2_with fail
    refine (bkey_any x y _ (T x zx2) (T y zy)).mono ?_
    rintro e w9 ⟨rfl, hb9⟩
    replace hb0 := BW_on hb0 hb9
    clear hb9
    go_wp2_with fail
    refine (bkey_any u v _ (T u zu2) (T v zv)).mono ?_
    rintro e w9 ⟨rfl, hb9⟩
    replace hb0 := BW_on hb0 hb9
    clear hb9
    go_wp2_with fail
    refine (bkey_any x y _ (T x zx2) (T y zy)).mono ?_
    rintro e w9 ⟨rfl, hb9⟩
    replace hb0 := BW_on hb0 hb9
    clear hb9
    go_wp2_with fail
    refine (btot_any v _ (T v zv)).mono ?_
    rintro e w9 ⟨rfl, hb9⟩
    replace hb0 := BW_on hb0 hb9
    clear hb9
    have hkt := Hkt.out
    go_wp2_with fail
    go_ret
    exact ⟨rfl, hb0⟩
end
set_option maxRecDepth 100000 in
theorem l11keys_lifted (os : Os) (started : os.Started) (H : Type) (enc : TypeId × Value → H) :
    ReturnsInHanded {} Try.checked os 3 .any (Rows.bankKeysSpec.pre6 enc Try.prog Try.f3 Rows.bankKeysRow.domain false) (Rows.bankKeysSpec.post enc Try.prog Try.f3 false true false false) := by
  refine law_lifted (C := Try.checked) (tb := 4) (by kernel_rfl) started (by kernel_rfl) Try.func3
    (ChangeSpec.witness6 (enc := enc) (C := Try.checked) false ⟨#[], #[.agg #[.string ⟨#[]⟩, .string ⟨#[]⟩], .agg #[.string ⟨#[]⟩, .string ⟨#[]⟩]], []⟩ 8 (by kernel_rfl) (by kernel_rfl) (by kernel_rfl) (by kernel_rfl))
    (by kernel_rfl) (by kernel_rfl) (by kernel_rfl) Try.underlying4 rfl ?_ ?_
  · intro ds hd
    have hp : Try.f3.params.toList.length = 2 := by kernel_rfl
    rw [hp] at hd
    match ds, hd with
    | [d, d'], _ => rfl
  · intro W base args ds ps hval hA _ _
    have hval' : ∀ (j : Nat) t v, Try.f3.params[j]? = some t → args[j]? = some v → Value.okWide Try.prog W .any base t v := hval
    have hA' : DataW.TrodAll enc Try.prog W 0 (fun _ => true) true Try.f3.params.toList args.toList ds ps := hA
    rw [Try.params3] at hA' hval'
    obtain ⟨v0, v1, d0, d1, p0, p1, rfl, rfl, rfl, h0, h1⟩ := trodAll_two hA'
    obtain ⟨ss, hs1, rfl⟩ := open_texts (n := 2) Try.underlying22 (by kernel_rfl) (hval' 0 22 v0 rfl rfl) h0
    obtain ⟨tt, hs2, rfl⟩ := open_texts (n := 2) Try.underlying22 (by kernel_rfl) (hval' 1 22 v1 rfl rfl) h1
    match ss, hs1, tt, hs2 with
    | [x0, y0], _, [u0, v0], _ => exact l11keys_any x0 y0 u0 v0 W
theorem BankKeys_holds : Rows.BankKeysSaid :=
  OpenClaim.holds_of_wide 3 Try.f3 rfl rfl rfl rfl rfl rfl rfl ⟨rfl, rfl, rfl, rfl, rfl⟩ rfl rfl rfl rfl rfl (by kernel_rfl) Try.func3 (by kernel_rfl)
    (of_decide_eq_true (by kernel_rfl)) (by unfold Func.isWrapper; first | (rw [if_pos (by decide +kernel)]; kernel_rfl) | (rw [if_neg (by decide +kernel)]; exact ⟨rfl, rfl⟩))
    (fun os started H enc _ => l11keys_lifted os started H enc)
end Go.Proofs.Ytbimnfmjgmfijaa
