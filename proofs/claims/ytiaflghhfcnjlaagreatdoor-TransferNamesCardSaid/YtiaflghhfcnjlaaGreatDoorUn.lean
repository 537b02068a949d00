/- The law TransferNames' walk: what comes home has a shorter name where it arrives, what goes away a longer one. -/
import Derived.Test.YtiaflghhfcnjlaaGreatDoorUd
import Derived.Test.YtiaflghhfcnjlaaGreatDoorTh
set_option maxRecDepth 20000
namespace Go.Proofs.YtiaflghhfcnjlaaGreatDoor
open Go.RowKit
attribute [local go_sem ↓] Go.wp_at_zero Go.wp_at_succ
def ltrT : Fin 4 → ByteArray
  | 0 => ⟨#[99, 49]⟩
  | 1 => ⟨#[99, 50]⟩
  | 2 => ⟨#[100]⟩
  | 3 => ⟨#[101, 101]⟩
theorem ltr_at : ∀ i : Fin 4, (#[.string ⟨#[99, 49]⟩, .string ⟨#[99, 50]⟩, .string ⟨#[100]⟩, .string ⟨#[101, 101]⟩] : Array Value)[i.val]? = some (.string (ltrT i))
  | ⟨0, _⟩ => rfl
  | ⟨1, _⟩ => rfl
  | ⟨2, _⟩ => rfl
  | ⟨3, _⟩ => rfl
theorem ltr_wd (i : Fin 4) : Wd (bysN (ltrT i)) := by
  have : i = 0 ∨ i = 1 ∨ i = 2 ∨ i = 3 := by revert i; decide
  unfold Wd
  rcases this with rfl | rfl | rfl | rfl <;> exact ⟨by decide, by decide, by decide⟩
theorem and3f (x : Int) : ∃ i : Fin 4, bits .and .i64 x 3 = ((i.val : Nat) : Int) := by
  have e2 : (BitVec.ofInt 64 3).toNat = 3 := by decide
  have h : (BitVec.ofInt 64 x &&& BitVec.ofInt 64 3).toNat ≤ 3 := by
    rw [BitVec.toNat_and, e2]
    exact Nat.and_le_right
  have e : bits .and .i64 x 3 = IntKind.i64.wrap (((BitVec.ofInt 64 x &&& BitVec.ofInt 64 3).toNat : Nat) : Int) := rfl
  refine ⟨⟨(BitVec.ofInt 64 x &&& BitVec.ofInt 64 3).toNat, by omega⟩, ?_⟩
  show bits .and .i64 x 3 = (((BitVec.ofInt 64 x &&& BitVec.ofInt 64 3).toNat : Nat) : Int)
  rw [e, IntKind.wrap_i64]
  omega
set_option maxHeartbeats 16000000 in
set_option maxRecDepth 100000 in
theorem letters_any (n : Int) (w : World) : Calls Tryz.prog 16 #[.int .i64 n] w fun e w' => ∃ t, e = .returned (.string t) ∧ Wd (bysN t) ∧ Below w.heap.size w w' := by
  obtain ⟨i, hi⟩ := and3f n
  have hl : ((i.val : Nat) : Int) < 4 := by have := i.isLt; omega
  have hk := blk1 w 80 #[.string ⟨#[99, 49]⟩, .string ⟨#[99, 50]⟩, .string ⟨#[100]⟩, .string ⟨#[101, 101]⟩]
  have hc := hk.cell i.val
  rw [ltr_at i] at hc
  have hw := Lib.hid (ltr_wd i)
  clear hk
  generalize ltrT i = t at *
  go_enter Tryz.func16, Tryz.ntmps16
  go_wp2_with fail
  go_ret
  exact ⟨t, rfl, hw.out, BW_alloc (BW_refl w) _⟩
/-- What a denomination of words comes to over a channel that is a word. -/
theorem names_home {s : List Nat} {ls : List (List Nat)} (hs : Wd s) (h : ∀ x ∈ ls, Wd x) (hl : ls.length ≤ 3) :
    (okRet s (over ls) = true ∧ s ++ 47 :: pRet s (over ls) = over ls) ∨ okRet s (over ls) = false := by
  rcases List.eq_nil_or_concat ls with rfl | ⟨l', x, rfl⟩
  · refine .inr ?_
    have e : over [] = [120] := rfl
    rw [e]
    unfold okRet
    have : (s ++ [47]).isPrefixOf [120] = false := by
      obtain ⟨_, h1, _⟩ := hs
      match s, h1 with
      | [a], _ => simp [List.isPrefixOf]
      | a :: b :: r, _ => simp [List.isPrefixOf]
    rw [this, Bool.false_and]
  · rw [List.concat_eq_append] at h hl ⊢
    have hx : Wd x := h x (by simp)
    have h' : ∀ y ∈ l', Wd y := fun y hy => h y (by simp [hy])
    have hl' : l'.length ≤ 2 := by simp at hl; omega
    rw [over_snoc]
    by_cases he : s = x
    · subst he
      have ho : okDen (over l') = true := by rw [over_ok h']; exact decide_eq_true (by omega)
      exact .inl ⟨by rw [okRet_self, ho], by rw [pRet_self, if_pos ho]⟩
    · refine .inr ?_
      unfold okRet
      rw [isPre_word hs.1 hx.1, decide_eq_false he, Bool.false_and]
theorem over_le {ls : List (List Nat)} (h : ∀ x ∈ ls, Wd x) (hl : ls.length ≤ 3) : (over ls).length ≤ 28 := by
  have := over_len h
  omega
theorem names_away {k : List Nat} {ls : List (List Nat)} (h : ∀ x ∈ ls, Wd x) (hl : ls.length ≤ 3) : okRet k (k ++ 47 :: over ls) = true ∧ pRet k (k ++ 47 :: over ls) = over ls := by
  have ho : okDen (over ls) = true := by rw [over_ok h]; exact decide_eq_true (by omega)
  exact ⟨by rw [okRet_self, ho], by rw [pRet_self, if_pos ho]⟩
theorem pret_lt {s r : List Nat} (h : ∀ x ∈ s ++ 47 :: r, x < 256) : ∀ x ∈ r, x < 256 := fun x hx => h x (by simp [hx])
theorem lz : limb 0 0 = 0 ∧ limb 0 1 = 0 ∧ limb 0 2 = 0 ∧ limb 0 3 = 0 := by decide
set_option maxHeartbeats 16000000 in
set_option maxRecDepth 100000 in
theorem l17names_any (a b : Int) (v : Value) (L : List Int) (w : World) (hv : Hid (Ints w v L)) (hL : L.length ≤ 9223372036854775807) : Calls Tryz.prog 4 #[.int .i64 a, .int .i64 b, v] w fun e w' => e = .returned (.bool true) ∧ Below w.heap.size w w' := by
  obtain ⟨p0, cap, rfl, hf⟩ := hv.out
  have Hf := Lib.hid hf
  clear hf hv
  go_enter Tryz.func4, Tryz.ntmps4
  go_wp2_with fail
  refine (awake17_any _).mono ?_
  rintro e w1 ⟨rfl, BB⟩
  go_wp2_with fail
  go_loopw [8, 9] (fun dv i wr => ∃ (j : Nat) (t : ByteArray) (ls : List (List Nat)), j ≤ L.length ∧ j ≤ 3 ∧ i = .int .i64 (j : Int) ∧ dv = .string t ∧ Hid (bysN t = over ls) ∧ Hid (∀ x ∈ ls, Wd x) ∧ ls.length = j ∧ Below w.heap.size w wr) (fun _ i _ => (4 - intOf i).toNat)
  case atStart => exact ⟨0, ⟨#[120]⟩, [], by omega, by omega, rfl, rfl, rfl, (fun x hx => by cases hx), rfl, BB⟩
  case round =>
    clear BB
    obtain ⟨j, t, ls, hj, hj3, rfl, rfl, ht, hw, hlj, BB⟩ := hrel
    have hts : t.size ≤ 28 := by have := over_le hw.out (by omega); rw [← ht.out, bysN_len] at this; exact this
    by_cases hlt : j < L.length ∧ j < 3
    · obtain ⟨hlt1, hlt2⟩ := hlt
      obtain ⟨g, off, rfl, hc⟩ := Hf.out (by omega)
      have hcj := BW_cell BB (hc j hlt1)
      have hk1 : (j : Int) < (L.length : Int) := by omega
      have hk2 : (j : Int) < 3 := by omega
      clear hc
      generalize L[j] = x at *
      go_wp2_with fail
      refine (letters_any x _).mono ?_
      rintro e w2 ⟨u, rfl, hu, hb⟩
      clear hcj
      have hus : u.size ≤ 6 := by have := hu.2.2; rw [bysN_len] at this; exact this
      replace BB := BW_on BB hb
      obtain ⟨t1, h1, a1⟩ := cat_big u ⟨#[47]⟩ (by show u.size + 1 ≤ _; omega)
      have z1 : t1.size = u.size + 1 := by rw [← bysN_len, h1, List.length_append, bysN_len]; rfl
      obtain ⟨t2, h2, a2⟩ := cat_big t1 t (by omega)
      have H2 : Hid (bysN t2 = over (ls ++ [bysN u])) := Lib.hid (by rw [over_snoc, h2, h1, ht.out, List.append_assoc]; rfl)
      have Hw : Hid (∀ x ∈ ls ++ [bysN u], Wd x) := Lib.hid (fun x hx => by
        rcases List.mem_append.1 hx with hx | hx
        · exact hw.out x hx
        · rw [List.mem_singleton.1 hx]; exact hu)
      have Hl : (ls ++ [bysN u]).length = j + 1 := by rw [List.length_append, hlj]; rfl
      clear h1 h2 hb hu
      go_wp2_with fail
      go_roundw
      case rel => exact ⟨j + 1, t2, ls ++ [bysN u], by omega, by omega, rfl, rfl, H2, Hw, Hl, BB⟩
      case measure => simp [intOf]; omega
    · have hout : ¬ ((j : Int) < (L.length : Int)) ∨ (j = 3 ∧ (j : Int) < (L.length : Int)) := by omega
      have hl3 : ls.length ≤ 3 := by omega
      clear hlt hj hlj
      rcases hout with hk1 | ⟨rfl, hk1⟩
      · go_wp2_with fail
        refine (letters_any a _).mono ?_
        rintro e w2 ⟨s, rfl, hs, hb⟩
        replace BB := BW_on BB hb
        clear hb
        go_wp2_with fail
        refine (letters_any b _).mono ?_
        rintro e w3 ⟨k, rfl, hk, hb⟩
        replace BB := BW_on BB hb
        clear hb
        have zs : s.size ≤ 6 := by have := hs.2.2; rw [bysN_len] at this; exact this
        have zk : k.size ≤ 6 := by have := hk.2.2; rw [bysN_len] at this; exact this
        obtain ⟨l0, l1, l2, l3⟩ := lz
        have HH := fun w => home17_any 0 0 0 s k t ⟨#[]⟩ ⟨#[]⟩ 0 w (by omega) (by omega)
        have HA := fun w => arr17_any 0 0 0 s k t ⟨#[]⟩ ⟨#[]⟩ 0 w (by omega) (by omega) (by omega)
        rw [l0, l1, l2, l3] at HH HA
        have k_p := blk1 w3 34 #[.int .i64 0, .string s, .string k, .string t, .int .u64 0, .int .u64 0, .int .u64 0, .int .u64 0, .string ⟨#[]⟩, .string ⟨#[]⟩, .int .i64 0, .int .i64 0]
        replace BB := BW_on BB (BW_alloc (BW_refl _) (.cells #[.int .i64 0, .string s, .string k, .string t, .int .u64 0, .int .u64 0, .int .u64 0, .int .u64 0, .string ⟨#[]⟩, .string ⟨#[]⟩, .int .i64 0, .int .i64 0] 34))
        rcases names_home hs hw.out hl3 with ⟨hq, hr⟩ | hq
        · have eh : homeB s t = true := by unfold homeB; rw [ht.out]; exact hq
          have ea : arrB s k t = byt (pRet (bysN s) (over ls)) := by unfold arrB; rw [ht.out, if_pos hq]
          obtain ⟨ar, har⟩ : ∃ ar, ar = byt (pRet (bysN s) (over ls)) := ⟨_, rfl⟩
          rw [eh] at HH
          rw [ea, ← har] at HA
          replace HH := Lib.hid HH
          replace HA := Lib.hid HA
          have hab : bysN ar = pRet (bysN s) (over ls) := by rw [har]; exact bysN_byt (pret_lt (by rw [hr, ← ht.out]; exact bysN_lt t))
          have hat : ar.size + s.size + 1 = t.size := by have h0 := congrArg List.length hr; rw [List.length_append, List.length_cons, ← hab, ← ht.out, bysN_len, bysN_len, bysN_len] at h0; omega
          obtain ⟨t1, h1, a1⟩ := cat_big s ⟨#[47]⟩ (by show s.size + 1 ≤ _; omega)
          have z1 : t1.size = s.size + 1 := by rw [← bysN_len, h1, List.length_append, bysN_len]; rfl
          obtain ⟨t2, h2, a2⟩ := cat_big t1 ar (by omega)
          obtain rfl : t2 = t := bysN_inj (by rw [h2, h1, hab, List.append_assoc]; exact hr.trans ht.out.symm)
          have hlt : (ar.size : Int) < (t2.size : Int) := by omega
          clear h1 h2 hab har ea eh hq hr hat l0 l1 l2 l3 ht hw hs hk
          have c_p := fun i => k_p.cell i
          go_wp2_with fail
          refine (HH.out _).mono ?_
          rintro e w4 ⟨rfl, hb⟩
          clear c_p
          replace k_p := k_p.on hb
          replace BB := BW_on BB hb
          clear hb HH
          have c_p := fun i => k_p.cell i
          go_wp2_with fail
          refine (HA.out _).mono ?_
          rintro e w5 ⟨rfl, hb⟩
          clear c_p
          replace k_p := k_p.on hb
          replace BB := BW_on BB hb
          clear hb HA
          have c_p := fun i => k_p.cell i
          go_wp2_with fail
          go_ret
          exact ⟨rfl, by first | exact BB | exact BW_alloc BB _⟩
        · have eh : homeB s t = false := by unfold homeB; rw [ht.out]; exact hq
          have ea : arrB s k t = byt (bysN k ++ 47 :: bysN t) := by unfold arrB; rw [ht.out, if_neg (by rw [hq]; exact Bool.false_ne_true)]
          obtain ⟨t1, h1, a1⟩ := cat_big k ⟨#[47]⟩ (by show k.size + 1 ≤ _; omega)
          have z1 : t1.size = k.size + 1 := by rw [← bysN_len, h1, List.length_append, bysN_len]; rfl
          obtain ⟨t2, h2, a2⟩ := cat_big t1 t (by omega)
          have z2 : t2.size = k.size + 1 + t.size := by rw [← bysN_len, h2, List.length_append, bysN_len, bysN_len, z1]
          have hb2 : bysN t2 = bysN k ++ 47 :: bysN t := by rw [h2, h1, List.append_assoc]; rfl
          rw [eh] at HH
          rw [ea, ← byt_of hb2] at HA
          replace HH := Lib.hid HH
          replace HA := Lib.hid HA
          have hna := names_away (k := bysN k) hw.out hl3
          rw [← ht.out, ← hb2] at hna
          have HH2 := fun w => home17_any 0 0 0 k s t2 ⟨#[]⟩ ⟨#[]⟩ 0 w (by omega) (by omega)
          have HA2 := fun w => arr17_any 0 0 0 k s t2 ⟨#[]⟩ ⟨#[]⟩ 0 w (by omega) (by omega) (by omega)
          rw [l0, l1, l2, l3, show homeB k t2 = true from hna.1] at HH2
          rw [l0, l1, l2, l3, show arrB k s t2 = t from (show arrB k s t2 = byt (pRet (bysN k) (bysN t2)) from if_pos hna.1).trans (by rw [hna.2]; exact (byt_of rfl).symm)] at HA2
          replace HH2 := Lib.hid HH2
          replace HA2 := Lib.hid HA2
          have hlt : ¬ (t2.size : Int) < (t.size : Int) := by omega
          clear h1 h2 hb2 hna ea eh hq l0 l1 l2 l3 ht hw hs hk
          have c_p := fun i => k_p.cell i
          go_wp2_with fail
          refine (HH.out _).mono ?_
          rintro e w4 ⟨rfl, hb⟩
          clear c_p
          replace k_p := k_p.on hb
          replace BB := BW_on BB hb
          clear hb HH
          have c_p := fun i => k_p.cell i
          go_wp2_with fail
          refine (HA.out _).mono ?_
          rintro e w5 ⟨rfl, hb⟩
          clear c_p
          replace k_p := k_p.on hb
          replace BB := BW_on BB hb
          clear hb HA
          have c_p := fun i => k_p.cell i
          go_upto_region 13 with (fail)
          clear c_p
          change Code.wp _ _ _ _ (w5.alloc (.cells #[.int .i64 0, .string k, .string s, .string t2, .int .u64 0, .int .u64 0, .int .u64 0, .int .u64 0, .string ⟨#[]⟩, .string ⟨#[]⟩, .int .i64 0, .int .i64 0] 34))
          replace k_p := k_p.on (BW_alloc (BW_refl _) (.cells #[.int .i64 0, .string k, .string s, .string t2, .int .u64 0, .int .u64 0, .int .u64 0, .int .u64 0, .string ⟨#[]⟩, .string ⟨#[]⟩, .int .i64 0, .int .i64 0] 34))
          replace BB := BW_on BB (BW_alloc (BW_refl _) (.cells #[.int .i64 0, .string k, .string s, .string t2, .int .u64 0, .int .u64 0, .int .u64 0, .int .u64 0, .string ⟨#[]⟩, .string ⟨#[]⟩, .int .i64 0, .int .i64 0] 34))
          have k_q := blk1 w5 34 #[.int .i64 0, .string k, .string s, .string t2, .int .u64 0, .int .u64 0, .int .u64 0, .int .u64 0, .string ⟨#[]⟩, .string ⟨#[]⟩, .int .i64 0, .int .i64 0]
          have c_q := fun i => k_q.cell i
          go_wp2_with fail
          refine (HH2.out _).mono ?_
          rintro e w6 ⟨rfl, hb⟩
          clear c_q
          replace k_p := k_p.on hb
          replace k_q := k_q.on hb
          replace BB := BW_on BB hb
          clear hb
          have c_q := fun i => k_q.cell i
          go_wp2_with fail
          refine (HA2.out _).mono ?_
          rintro e w7 ⟨rfl, hb⟩
          clear c_q
          replace k_p := k_p.on hb
          replace k_q := k_q.on hb
          replace BB := BW_on BB hb
          clear hb
          go_wp2_with fail
          go_ret
          exact ⟨rfl, BB⟩
      · go_wp2_with fail
        refine (letters_any a _).mono ?_
        rintro e w2 ⟨s, rfl, hs, hb⟩
        replace BB := BW_on BB hb
        clear hb
        go_wp2_with fail
        refine (letters_any b _).mono ?_
        rintro e w3 ⟨k, rfl, hk, hb⟩
        replace BB := BW_on BB hb
        clear hb
        have zs : s.size ≤ 6 := by have := hs.2.2; rw [bysN_len] at this; exact this
        have zk : k.size ≤ 6 := by have := hk.2.2; rw [bysN_len] at this; exact this
        obtain ⟨l0, l1, l2, l3⟩ := lz
        have HH := fun w => home17_any 0 0 0 s k t ⟨#[]⟩ ⟨#[]⟩ 0 w (by omega) (by omega)
        have HA := fun w => arr17_any 0 0 0 s k t ⟨#[]⟩ ⟨#[]⟩ 0 w (by omega) (by omega) (by omega)
        rw [l0, l1, l2, l3] at HH HA
        have k_p := blk1 w3 34 #[.int .i64 0, .string s, .string k, .string t, .int .u64 0, .int .u64 0, .int .u64 0, .int .u64 0, .string ⟨#[]⟩, .string ⟨#[]⟩, .int .i64 0, .int .i64 0]
        replace BB := BW_on BB (BW_alloc (BW_refl _) (.cells #[.int .i64 0, .string s, .string k, .string t, .int .u64 0, .int .u64 0, .int .u64 0, .int .u64 0, .string ⟨#[]⟩, .string ⟨#[]⟩, .int .i64 0, .int .i64 0] 34))
        rcases names_home hs hw.out hl3 with ⟨hq, hr⟩ | hq
        · have eh : homeB s t = true := by unfold homeB; rw [ht.out]; exact hq
          have ea : arrB s k t = byt (pRet (bysN s) (over ls)) := by unfold arrB; rw [ht.out, if_pos hq]
          obtain ⟨ar, har⟩ : ∃ ar, ar = byt (pRet (bysN s) (over ls)) := ⟨_, rfl⟩
          rw [eh] at HH
          rw [ea, ← har] at HA
          replace HH := Lib.hid HH
          replace HA := Lib.hid HA
          have hab : bysN ar = pRet (bysN s) (over ls) := by rw [har]; exact bysN_byt (pret_lt (by rw [hr, ← ht.out]; exact bysN_lt t))
          have hat : ar.size + s.size + 1 = t.size := by have h0 := congrArg List.length hr; rw [List.length_append, List.length_cons, ← hab, ← ht.out, bysN_len, bysN_len, bysN_len] at h0; omega
          obtain ⟨t1, h1, a1⟩ := cat_big s ⟨#[47]⟩ (by show s.size + 1 ≤ _; omega)
          have z1 : t1.size = s.size + 1 := by rw [← bysN_len, h1, List.length_append, bysN_len]; rfl
          obtain ⟨t2, h2, a2⟩ := cat_big t1 ar (by omega)
          obtain rfl : t2 = t := bysN_inj (by rw [h2, h1, hab, List.append_assoc]; exact hr.trans ht.out.symm)
          have hlt : (ar.size : Int) < (t2.size : Int) := by omega
          clear h1 h2 hab har ea eh hq hr hat l0 l1 l2 l3 ht hw hs hk
          have c_p := fun i => k_p.cell i
          go_wp2_with fail
          refine (HH.out _).mono ?_
          rintro e w4 ⟨rfl, hb⟩
          clear c_p
          replace k_p := k_p.on hb
          replace BB := BW_on BB hb
          clear hb HH
          have c_p := fun i => k_p.cell i
          go_wp2_with fail
          refine (HA.out _).mono ?_
          rintro e w5 ⟨rfl, hb⟩
          clear c_p
          replace k_p := k_p.on hb
          replace BB := BW_on BB hb
          clear hb HA
          have c_p := fun i => k_p.cell i
          go_wp2_with fail
          go_ret
          exact ⟨rfl, by first | exact BB | exact BW_alloc BB _⟩
        · have eh : homeB s t = false := by unfold homeB; rw [ht.out]; exact hq
          have ea : arrB s k t = byt (bysN k ++ 47 :: bysN t) := by unfold arrB; rw [ht.out, if_neg (by rw [hq]; exact Bool.false_ne_true)]
          obtain ⟨t1, h1, a1⟩ := cat_big k ⟨#[47]⟩ (by show k.size + 1 ≤ _; omega)
          have z1 : t1.size = k.size + 1 := by rw [← bysN_len, h1, List.length_append, bysN_len]; rfl
          obtain ⟨t2, h2, a2⟩ := cat_big t1 t (by omega)
          have z2 : t2.size = k.size + 1 + t.size := by rw [← bysN_len, h2, List.length_append, bysN_len, bysN_len, z1]
          have hb2 : bysN t2 = bysN k ++ 47 :: bysN t := by rw [h2, h1, List.append_assoc]; rfl
          rw [eh] at HH
          rw [ea, ← byt_of hb2] at HA
          replace HH := Lib.hid HH
          replace HA := Lib.hid HA
          have hna := names_away (k := bysN k) hw.out hl3
          rw [← ht.out, ← hb2] at hna
          have HH2 := fun w => home17_any 0 0 0 k s t2 ⟨#[]⟩ ⟨#[]⟩ 0 w (by omega) (by omega)
          have HA2 := fun w => arr17_any 0 0 0 k s t2 ⟨#[]⟩ ⟨#[]⟩ 0 w (by omega) (by omega) (by omega)
          rw [l0, l1, l2, l3, show homeB k t2 = true from hna.1] at HH2
          rw [l0, l1, l2, l3, show arrB k s t2 = t from (show arrB k s t2 = byt (pRet (bysN k) (bysN t2)) from if_pos hna.1).trans (by rw [hna.2]; exact (byt_of rfl).symm)] at HA2
          replace HH2 := Lib.hid HH2
          replace HA2 := Lib.hid HA2
          have hlt : ¬ (t2.size : Int) < (t.size : Int) := by omega
          clear h1 h2 hb2 hna ea eh hq l0 l1 l2 l3 ht hw hs hk
          have c_p := fun i => k_p.cell i
          go_wp2_with fail
          refine (HH.out _).mono ?_
          rintro e w4 ⟨rfl, hb⟩
          clear c_p
          replace k_p := k_p.on hb
          replace BB := BW_on BB hb
          clear hb HH
          have c_p := fun i => k_p.cell i
          go_wp2_with fail
          refine (HA.out _).mono ?_
          rintro e w5 ⟨rfl, hb⟩
          clear c_p
          replace k_p := k_p.on hb
          replace BB := BW_on BB hb
          clear hb HA
          have c_p := fun i => k_p.cell i
          go_upto_region 13 with (fail)
          clear c_p
          change Code.wp _ _ _ _ (w5.alloc (.cells #[.int .i64 0, .string k, .string s, .string t2, .int .u64 0, .int .u64 0, .int .u64 0, .int .u64 0, .string ⟨#[]⟩, .string ⟨#[]⟩, .int .i64 0, .int .i64 0] 34))
          replace k_p := k_p.on (BW_alloc (BW_refl _) (.cells #[.int .i64 0, .string k, .string s, .string t2, .int .u64 0, .int .u64 0, .int .u64 0, .int .u64 0, .string ⟨#[]⟩, .string ⟨#[]⟩, .int .i64 0, .int .i64 0] 34))
          replace BB := BW_on BB (BW_alloc (BW_refl _) (.cells #[.int .i64 0, .string k, .string s, .string t2, .int .u64 0, .int .u64 0, .int .u64 0, .int .u64 0, .string ⟨#[]⟩, .string ⟨#[]⟩, .int .i64 0, .int .i64 0] 34))
          have k_q := blk1 w5 34 #[.int .i64 0, .string k, .string s, .string t2, .int .u64 0, .int .u64 0, .int .u64 0, .int .u64 0, .string ⟨#[]⟩, .string ⟨#[]⟩, .int .i64 0, .int .i64 0]
          have c_q := fun i => k_q.cell i
          go_wp2_with fail
          refine (HH2.out _).mono ?_
          rintro e w6 ⟨rfl, hb⟩
          clear c_q
          replace k_p := k_p.on hb
          replace k_q := k_q.on hb
          replace BB := BW_on BB hb
          clear hb
          have c_q := fun i => k_q.cell i
          go_wp2_with fail
          refine (HA2.out _).mono ?_
          rintro e w7 ⟨rfl, hb⟩
          clear c_q
          replace k_p := k_p.on hb
          replace k_q := k_q.on hb
          replace BB := BW_on BB hb
          clear hb
          go_wp2_with fail
          go_ret
          exact ⟨rfl, BB⟩
end Go.Proofs.YtiaflghhfcnjlaaGreatDoor
