/- The readers of layer 1, on: a number of 64 bits, an integer, the end; the program's and the document's. -/
import Derived.Test.YtbimnfmjgmfijaaDoorPf
namespace Go.Proofs.YtbimnfmjgmfijaaDoor
open Go.RowKit
attribute [local go_sem ↓] Go.wp_at_zero Go.wp_at_succ
def foldN (l : List Nat) : Nat := l.foldl (fun a x => a * 256 + x) 0
theorem foldN_snoc (l : List Nat) (x : Nat) : foldN (l ++ [x]) = foldN l * 256 + x := by simp [foldN, List.foldl_append]
theorem foldN_lt (l : List Nat) (h : ∀ x ∈ l, x < 256) : foldN l < 256 ^ l.length := by
  suffices H : ∀ r : List Nat, (∀ x ∈ r, x < 256) → foldN r.reverse < 256 ^ r.length by
    have := H l.reverse (fun x hx => h x (List.mem_reverse.1 hx))
    rwa [List.reverse_reverse, List.length_reverse] at this
  intro r hr
  induction r with
  | nil => decide
  | cons c r ih =>
    have h1 := ih (fun x hx => hr x (List.mem_cons_of_mem _ hx))
    have h2 := hr c (List.mem_cons_self ..)
    rw [List.reverse_cons, foldN_snoc, List.length_cons, Nat.pow_succ]
    omega
theorem digB_head (n : Nat) : (digB n).getD 0 1 ≠ 0 := by
  induction n using Nat.strongRecOn with
  | ind n ih =>
    by_cases h : n = 0
    · rw [h, digB_zero]; decide
    · rw [digB_pos h]
      by_cases h2 : n / 256 = 0
      · rw [h2, digB_zero]
        show n % 256 ≠ 0
        omega
      · have := ih (n / 256) (by omega)
        have hl := digB_ne h2
        cases hd : digB (n / 256) with
        | nil => rw [hd] at hl; simp at hl
        | cons a r => rw [hd] at this; exact this
theorem digB_fold_rev : ∀ r : List Nat, (∀ x ∈ r, x < 256) → r.reverse.getD 0 1 ≠ 0 → digB (foldN r.reverse) = r.reverse
  | [], _, _ => by simp [foldN, digB_zero]
  | [c], h, h0 => by
    have hc := h c (List.mem_cons_self ..)
    have hc0 : c ≠ 0 := h0
    have e : foldN [c].reverse = c := by simp [foldN]
    rw [e, digB_pos hc0, show c / 256 = 0 by omega, digB_zero, Nat.mod_eq_of_lt hc]
    rfl
  | c :: b :: r, h, h0 => by
    have hc := h c (List.mem_cons_self ..)
    have e1 : (c :: b :: r).reverse = (b :: r).reverse ++ [c] := List.reverse_cons
    have hh : ((b :: r).reverse).getD 0 1 ≠ 0 := by
      rw [e1] at h0
      cases hd : (b :: r).reverse with
      | nil => simp at hd
      | cons a q => rw [hd] at h0; exact h0
    have ih := digB_fold_rev (b :: r) (fun x hx => h x (List.mem_cons_of_mem _ hx)) hh
    have hne : foldN (b :: r).reverse ≠ 0 := fun e => by
      rw [e, digB_zero] at ih
      have := congrArg List.length ih
      simp at this
    rw [e1, foldN_snoc, digB_pos (by omega), show (foldN (b :: r).reverse * 256 + c) / 256 = foldN (b :: r).reverse by omega, show (foldN (b :: r).reverse * 256 + c) % 256 = c by omega, ih]
theorem digB_fold {l : List Nat} (h : ∀ x ∈ l, x < 256) (h0 : l.getD 0 1 ≠ 0) : digB (foldN l) = l := by
  have := digB_fold_rev l.reverse (fun x hx => h x (List.mem_reverse.1 hx)) (by rw [List.reverse_reverse]; exact h0)
  rwa [List.reverse_reverse] at this
theorem digB_fold_ne {l : List Nat} (h0 : l.getD 0 1 = 0) : digB (foldN l) ≠ l := fun e => digB_head (foldN l) (by rw [e]; exact h0)
theorem u64_shl_or (x c : Nat) (hx : x < 72057594037927936) (hc : c < 256) : bits .or .u64 ((x : Int) * 256) (c : Int) = ((x * 256 + c : Nat) : Int) := by
  have h := u64_or_nat (x * 256) c (by omega) (by omega)
  have e : x * 256 ||| c = x * 256 + c := by
    have := or_apart c x 8 (by omega)
    rw [Nat.or_comm, show (2:Nat) ^ 8 = 256 by rfl] at this
    omega
  rw [e] at h
  have e2 : ((x : Int) * 256) = ((x * 256 : Nat) : Int) := by omega
  rw [e2]
  exact h
theorem u64_facts (x c : Nat) (hx : x < 72057594037927936) (hc : c < 256) : IntKind.u64.wrap ((x : Int) * 256) = (x : Int) * 256 ∧ IntKind.u64.wrap ((x : Int) * 256 + (c : Int)) = ((x * 256 + c : Nat) : Int) ∧ (x : Int) * 256 % 18446744073709551616 = (x : Int) * 256 ∧ ((x : Int) * 256 + (c : Int)) % 18446744073709551616 = ((x * 256 + c : Nat) : Int) ∧ (x : Int) * 256 + (c : Int) = ((x * 256 + c : Nat) : Int) := by
  refine ⟨?_, ?_, ?_, ?_, ?_⟩
  · rw [IntKind.wrap_u64]; omega
  · rw [IntKind.wrap_u64]; omega
  · omega
  · omega
  · omega
theorem u64_step (y x : Nat) (hx : y < 72057594037927936) (hc : x < 256) : ∃ p z : Nat, y * 256 + x = z ∧ IntKind.u64.wrap (x : Int) = (x : Int) ∧ IntKind.u64.wrap ((y : Int) * 256) = (p : Int) ∧ IntKind.u64.wrap ((p : Int) + (x : Int)) = (z : Int) ∧ bits .or .u64 (p : Int) (x : Int) = (z : Int) := by
  refine ⟨y * 256, y * 256 + x, rfl, ?_, ?_, ?_, ?_⟩
  · rw [IntKind.wrap_u64]; omega
  · rw [IntKind.wrap_u64]; omega
  · rw [IntKind.wrap_u64]; omega
  · have h := u64_shl_or y x hx hc
    rw [Int.natCast_mul]
    exact h
theorem rText_len (c most : Nat) (l : List Nat) (bad : Bool) : (rText c most l bad).1.length ≤ most := by
  unfold rText
  split
  · simp
  · split
    · simp
    · rename_i h
      show ((l.drop 4).take (bodyN l)).length ≤ most
      rw [List.length_take]
      omega
/-- A number read. -/
def rNum (c : Nat) (l : List Nat) (bad : Bool) : Nat × List Nat × Bool :=
  if (rText c 8 l bad).1.getD 0 1 = 0 then (0, (rText c 8 l bad).2.1, true) else (foldN (rText c 8 l bad).1, (rText c 8 l bad).2)
def rInt (c most : Nat) (l : List Nat) (bad : Bool) : Nat × List Nat × Bool := if most < (rNum c l bad).1 then (0, (rNum c l bad).2.1, true) else rNum c l bad
theorem rText_bad {c most : Nat} {l : List Nat} {bad : Bool} (h : (rText c most l bad).2.2 = true) : (rText c most l bad).1 = [] := by
  unfold rText at h ⊢
  split
  · rfl
  · rename_i h1
    rw [if_neg h1] at h
    split
    · rfl
    · rename_i h2
      rw [if_neg h2] at h
      cases h
theorem rNum_bad {c : Nat} {l : List Nat} {bad : Bool} (h : (rNum c l bad).2.2 = true) : (rNum c l bad).1 = 0 := by
  unfold rNum at h ⊢
  split
  · rfl
  · rename_i h1
    rw [if_neg h1] at h
    show foldN (rText c 8 l bad).1 = 0
    rw [rText_bad h]; rfl
/-- What a reader's number answers, and leaves. -/
def ReadsN (k : IntKind) (tt b : Nat) (w : World) (T : ByteArray) (r : Nat × List Nat × Bool) (e : Ending) (w' : World) : Prop :=
  ∃ (n : Nat) (T' : ByteArray) (bad' : Bool), e = .returned (.int k (n : Int)) ∧ (n, bysN T', bad') = r ∧ Blk w' b tt #[.string T', .bool bad'] ∧ T'.size ≤ T.size ∧ Kept b w w'
theorem rdn {k : IntKind} {tt b : Nat} {w w' : World} {T : ByteArray} {r : Nat × List Nat × Bool} {e : Ending} (n : Nat) (T' : ByteArray) (bad' : Bool) (h1 : e = .returned (.int k (n : Int))) (h2 : (n, bysN T', bad') = r) (h3 : Blk w' b tt #[.string T', .bool bad']) (h4 : T'.size ≤ T.size) (h5 : Kept b w w') :
    ReadsN k tt b w T r e w' := ⟨n, T', bad', h1, h2, h3, h4, h5⟩
set_option maxHeartbeats 4000000 in
set_option maxRecDepth 100000 in
theorem trdnum_any (c b : Nat) (T : ByteArray) (bad : Bool) (w : World) (hR : Blk w b 71 #[.string T, .bool bad]) (hT : T.size ≤ 1000000) :
    Calls Tryd.prog 54 #[.pointer (some ⟨b, 0, none⟩), .int .u8 (c : Int)] w fun e w' => ReadsN .u64 71 b w T (rNum c (bysN T) bad) e w' := by
  have hl8 := rText_len c 8 (bysN T) bad
  have hrn : Hid (rNum c (bysN T) bad = if (rText c 8 (bysN T) bad).1.getD 0 1 = 0 then (0, (rText c 8 (bysN T) bad).2.1, true) else (foldN (rText c 8 (bysN T) bad).1, (rText c 8 (bysN T) bad).2)) := Lib.hid rfl
  generalize rNum c (bysN T) bad = RN at *
  go_enter Tryd.func54, Tryd.ntmps54
  go_wp2_with (go_at_call 28; refine (trdtext_any c 8 b T bad _ hR hT).mono ?_)
  rintro e w1 ⟨t, T1, bad1, rfl, hr, hR1, hz1, hk1⟩
  rw [← hr] at hl8 hrn
  have hrn1 : Hid (RN = if (bysN t).getD 0 1 = 0 then (0, bysN T1, true) else (foldN (bysN t), bysN T1, bad1)) := hrn
  have hl8' : (bysN t).length ≤ 8 := hl8
  rw [bysN_len] at hl8'
  have hlt := Lib.hid (bysN_lt t)
  have hg := Lib.hid (str_get t)
  have hlen := Lib.hid (bysN_len t)
  have Hz1 := Lib.hid hz1
  have hbd := Lib.hid (bysN_getD t)
  clear hr hrn hl8 hz1
  go_wp2_with fail
  go_loopw [6, 7, 13] (fun n _ i wr => ∃ k : Nat, k ≤ t.size ∧ i = .int .i64 (k : Int) ∧ n = .int .u64 ((foldN ((bysN t).take k) : Nat) : Int) ∧ w1 = wr) (fun _ _ i _ => t.size - (intOf i).toNat)
  case atStart => exact ⟨0, by omega, rfl, rfl, rfl⟩
  case round =>
    obtain ⟨k, hk, rfl, rfl, rfl⟩ := hrel
    by_cases h0 : k < t.size
    · have hk1i : (k : Int) < (t.size : Int) := by omega
      have hw1 : wrap64 ((k : Int) + 1) = (k : Int) + 1 := by unfold wrap64; omega
      have hgk := hg.out k h0
      have hx56 : foldN ((bysN t).take k) < 72057594037927936 := by
        have h1 := foldN_lt ((bysN t).take k) (fun x hx => hlt.out x (List.mem_of_mem_take hx))
        have h2 : (256 : Nat) ^ ((bysN t).take k).length ≤ 256 ^ 7 := Nat.pow_le_pow_right (by decide) (by rw [List.length_take]; omega)
        exact Nat.lt_of_lt_of_le h1 h2
      have hst : Hid (foldN ((bysN t).take (k + 1)) = foldN ((bysN t).take k) * 256 + (bysN t).getD k 0) := Lib.hid (by
        have hkl : k < (bysN t).length := by rw [hlen.out]; exact h0
        rw [List.take_succ_eq_append_getElem hkl, foldN_snoc, List.getD_eq_getElem?_getD, List.getElem?_eq_getElem hkl]; rfl)
      have hc := hbd.out k
      generalize (bysN t).getD k 0 = x at *
      generalize foldN ((bysN t).take k) = y at *
      obtain ⟨p, z, hz, v0, v1, v2, v3⟩ := u64_step y x hx56 hc
      have Hst2 := Lib.hid (hst.out.trans hz)
      clear hx56 hc hst hz v2
      go_wp2_with fail
      go_roundw
      case rel => exact ⟨k + 1, by omega, by go_num, by rw [Hst2.out], by trivial⟩
      case measure => simp [intOf]; omega
    · obtain rfl : k = t.size := by omega
      have hki : ¬ (t.size : Int) < (t.size : Int) := by omega
      have hfull : Hid ((bysN t).take t.size = bysN t) := Lib.hid (List.take_of_length_le (by rw [hlen.out]; exact Nat.le_refl _))
      rw [hfull.out]
      have c1 := hR1.cell 1
      have f1 := hR1.free 1
      by_cases he : t.size = 0
      · obtain rfl : t = ⟨#[]⟩ := bysN_inj (List.eq_nil_of_length_eq_zero (by rw [hlen.out]; exact he))
        go_wp2_with fail
        go_ret
        exact rdn 0 T1 bad1 rfl (by rw [hrn1.out]; rfl) hR1 Hz1.out hk1
      · have hie : t.toList.isEmpty = false := by rw [toList_isEmpty]; exact decide_eq_false he
        have hp0 : (0 : Int) < (t.size : Int) := by omega
        have hg0 := hg.out 0 (by omega)
        have hd0 : Hid ((bysN t).getD 0 1 = (bysN t).getD 0 0) := Lib.hid (by
          rw [List.getD_eq_getElem?_getD, List.getD_eq_getElem?_getD, List.getElem?_eq_getElem (by rw [hlen.out]; omega)]; rfl)
        rw [hd0.out] at hrn1
        have hgx : Hid (foldN (bysN t) = foldN (bysN t)) := Lib.hid rfl
        generalize (bysN t).getD 0 0 = x0 at *
        by_cases hx0 : x0 = 0
        · subst hx0
          go_wp2_with (go_at_call 55; refine (tfails_any b T1 bad1 _ hR1).mono ?_; rintro e w2 ⟨⟨v, rfl⟩, hR2, hk2⟩)
          go_ret
          exact rdn 0 T1 true rfl (by rw [hrn1.out]; rfl) hR2 Hz1.out (kept_trans hk1 hk2)
        · have hx0i : ¬ (x0 : Int) = 0 := by omega
          rw [if_neg hx0] at hrn1
          clear hx0
          go_wp2_with fail
          go_ret
          exact rdn (foldN (bysN t)) T1 bad1 rfl (by rw [hrn1.out]) hR1 Hz1.out hk1
set_option maxHeartbeats 4000000 in
set_option maxRecDepth 100000 in
theorem rrdnum_any (c b : Nat) (T : ByteArray) (bad : Bool) (w : World) (hR : Blk w b 58 #[.string T, .bool bad]) (hT : T.size ≤ 1000000) :
    Calls Tryd.prog 58 #[.pointer (some ⟨b, 0, none⟩), .int .u8 (c : Int)] w fun e w' => ReadsN .u64 58 b w T (rNum c (bysN T) bad) e w' := by
  have hl8 := rText_len c 8 (bysN T) bad
  have hrn : Hid (rNum c (bysN T) bad = if (rText c 8 (bysN T) bad).1.getD 0 1 = 0 then (0, (rText c 8 (bysN T) bad).2.1, true) else (foldN (rText c 8 (bysN T) bad).1, (rText c 8 (bysN T) bad).2)) := Lib.hid rfl
  generalize rNum c (bysN T) bad = RN at *
  go_enter Tryd.func58, Tryd.ntmps58
  go_wp2_with (go_at_call 32; refine (rrdtext_any c 8 b T bad _ hR hT).mono ?_)
  rintro e w1 ⟨t, T1, bad1, rfl, hr, hR1, hz1, hk1⟩
  rw [← hr] at hl8 hrn
  have hrn1 : Hid (RN = if (bysN t).getD 0 1 = 0 then (0, bysN T1, true) else (foldN (bysN t), bysN T1, bad1)) := hrn
  have hl8' : (bysN t).length ≤ 8 := hl8
  rw [bysN_len] at hl8'
  have hlt := Lib.hid (bysN_lt t)
  have hg := Lib.hid (str_get t)
  have hlen := Lib.hid (bysN_len t)
  have Hz1 := Lib.hid hz1
  have hbd := Lib.hid (bysN_getD t)
  clear hr hrn hl8 hz1
  go_wp2_with fail
  go_loopw [6, 7] (fun n i wr => ∃ k : Nat, k ≤ t.size ∧ i = .int .i64 (k : Int) ∧ n = .int .u64 ((foldN ((bysN t).take k) : Nat) : Int) ∧ w1 = wr) (fun _ i _ => t.size - (intOf i).toNat)
  case atStart => exact ⟨0, by omega, rfl, rfl, rfl⟩
  case round =>
    obtain ⟨k, hk, rfl, rfl, rfl⟩ := hrel
    by_cases h0 : k < t.size
    · have hk1i : (k : Int) < (t.size : Int) := by omega
      have hw1 : wrap64 ((k : Int) + 1) = (k : Int) + 1 := by unfold wrap64; omega
      have hgk := hg.out k h0
      have hx56 : foldN ((bysN t).take k) < 72057594037927936 := by
        have h1 := foldN_lt ((bysN t).take k) (fun x hx => hlt.out x (List.mem_of_mem_take hx))
        have h2 : (256 : Nat) ^ ((bysN t).take k).length ≤ 256 ^ 7 := Nat.pow_le_pow_right (by decide) (by rw [List.length_take]; omega)
        exact Nat.lt_of_lt_of_le h1 h2
      have hst : Hid (foldN ((bysN t).take (k + 1)) = foldN ((bysN t).take k) * 256 + (bysN t).getD k 0) := Lib.hid (by
        have hkl : k < (bysN t).length := by rw [hlen.out]; exact h0
        rw [List.take_succ_eq_append_getElem hkl, foldN_snoc, List.getD_eq_getElem?_getD, List.getElem?_eq_getElem hkl]; rfl)
      have hc := hbd.out k
      generalize (bysN t).getD k 0 = x at *
      generalize foldN ((bysN t).take k) = y at *
      obtain ⟨p, z, hz, v0, v1, v2, v3⟩ := u64_step y x hx56 hc
      have Hst2 := Lib.hid (hst.out.trans hz)
      clear hx56 hc hst hz v3
      go_wp2_with fail
      go_roundw
      case rel => exact ⟨k + 1, by omega, by go_num, by rw [Hst2.out], by trivial⟩
      case measure => simp [intOf]; omega
    · obtain rfl : k = t.size := by omega
      have hki : ¬ (t.size : Int) < (t.size : Int) := by omega
      have hfull : Hid ((bysN t).take t.size = bysN t) := Lib.hid (List.take_of_length_le (by rw [hlen.out]; exact Nat.le_refl _))
      rw [hfull.out]
      have c1 := hR1.cell 1
      have f1 := hR1.free 1
      have hn64 : foldN (bysN t) < 18446744073709551616 := by
        have h1 := foldN_lt (bysN t) hlt.out
        have h2 : (256 : Nat) ^ (bysN t).length ≤ 256 ^ 8 := Nat.pow_le_pow_right (by decide) (by rw [hlen.out]; exact hl8')
        exact Nat.lt_of_lt_of_le h1 h2
      have Hn64 := Lib.hid hn64
      clear hn64
      by_cases hd : (bysN t).getD 0 1 = 0
      · have hne := Lib.hid (digB_fold_ne hd)
        rw [if_pos hd] at hrn1
        clear hd
        go_wp2_with (go_at_call 72; refine (r1dig_any _ _ Hn64.out).mono ?_; rintro e w2 ⟨d, rfl, hdd, hb2⟩; have hbq : (d.toList == t.toList) = false := (by rw [toList_beq, hdd]; exact decide_eq_false hne.out); have hR2 := hR1.on hb2; have c2 := hR2.cell 1; have f2 := hR2.free 1; clear hdd)
        go_ret
        exact rdn 0 T1 true rfl (by rw [hrn1.out]) (by simpa using hR2.set_ 1 (.bool true)) Hz1.out (kept_set (kept_below hk1 hb2) 1 (.bool true))
      · have heq := Lib.hid (digB_fold hlt.out hd)
        rw [if_neg hd] at hrn1
        clear hd
        go_wp2_with (go_at_call 72; refine (r1dig_any _ _ Hn64.out).mono ?_; rintro e w2 ⟨d, rfl, hdd, hb2⟩; obtain rfl := bysN_inj (hdd.trans heq.out); clear hdd; have hR2 := hR1.on hb2; have hks := Lib.hid (kept_below hk1 hb2))
        go_ret
        exact rdn _ T1 bad1 rfl (by rw [hrn1.out]) hR2 Hz1.out hks.out
set_option maxHeartbeats 4000000 in
set_option maxRecDepth 100000 in
theorem trdint_any (c most b : Nat) (T : ByteArray) (bad : Bool) (w : World) (hR : Blk w b 71 #[.string T, .bool bad]) (hT : T.size ≤ 1000000) (hm : most ≤ 1099511627776) :
    Calls Tryd.prog 26 #[.pointer (some ⟨b, 0, none⟩), .int .u8 (c : Int), .int .i64 (most : Int)] w fun e w' => ReadsN .i64 71 b w T (rInt c most (bysN T) bad) e w' := by
  have hm0 : ¬ (most : Int) < 0 := by omega
  have hmu : (most : Int) % 18446744073709551616 = (most : Int) := by omega
  have hri : Hid (rInt c most (bysN T) bad = if most < (rNum c (bysN T) bad).1 then (0, (rNum c (bysN T) bad).2.1, true) else rNum c (bysN T) bad) := Lib.hid rfl
  have hrb := Lib.hid (@rNum_bad c (bysN T) bad)
  generalize rInt c most (bysN T) bad = RI at *
  go_enter Tryd.func26, Tryd.ntmps26
  go_wp2_with (go_at_call 54; refine (trdnum_any c b T bad _ hR hT).mono ?_)
  rintro e w1 ⟨n, T1, bad1, rfl, hr, hR1, hz1, hk1⟩
  rw [← hr] at hri hrb
  have hri1 : Hid (RI = if most < n then (0, bysN T1, true) else (n, bysN T1, bad1)) := hri
  have hrb1 : Hid (bad1 = true → n = 0) := hrb
  have Hz1 := Lib.hid hz1
  have c1 := hR1.cell 1
  have f1 := hR1.free 1
  clear hr hri hrb hz1
  by_cases hmo : most < n
  · have hmi : (most : Int) < (n : Int) := by omega
    rw [if_pos hmo] at hri1
    go_wp2_with (go_at_call 55; refine (tfails_any b T1 bad1 _ hR1).mono ?_; rintro e w2 ⟨⟨v, rfl⟩, hR2, hk2⟩)
    go_ret
    exact rdn 0 T1 true rfl (by rw [hri1.out]) hR2 Hz1.out (kept_trans hk1 hk2)
  · have hmi : ¬ (most : Int) < (n : Int) := by omega
    rw [if_neg hmo] at hri1
    have hwn : wrap64 (n : Int) = (n : Int) := by unfold wrap64; omega
    go_wp2_with fail
    go_ret
    exact rdn n T1 bad1 rfl (by rw [hri1.out]) hR1 Hz1.out hk1
set_option maxHeartbeats 4000000 in
set_option maxRecDepth 100000 in
theorem rrdint_any (c most b : Nat) (T : ByteArray) (bad : Bool) (w : World) (hR : Blk w b 58 #[.string T, .bool bad]) (hT : T.size ≤ 1000000) (hm : most ≤ 1099511627776) :
    Calls Tryd.prog 31 #[.pointer (some ⟨b, 0, none⟩), .int .u8 (c : Int), .int .i64 (most : Int)] w fun e w' => ReadsN .i64 58 b w T (rInt c most (bysN T) bad) e w' := by
  have hm0 : ¬ (most : Int) < 0 := by omega
  have hmu : (most : Int) % 18446744073709551616 = (most : Int) := by omega
  have hri : Hid (rInt c most (bysN T) bad = if most < (rNum c (bysN T) bad).1 then (0, (rNum c (bysN T) bad).2.1, true) else rNum c (bysN T) bad) := Lib.hid rfl
  have hrb := Lib.hid (@rNum_bad c (bysN T) bad)
  generalize rInt c most (bysN T) bad = RI at *
  go_enter Tryd.func31, Tryd.ntmps31
  go_wp2_with (go_at_call 58; refine (rrdnum_any c b T bad _ hR hT).mono ?_)
  rintro e w1 ⟨n, T1, bad1, rfl, hr, hR1, hz1, hk1⟩
  rw [← hr] at hri hrb
  have hri1 : Hid (RI = if most < n then (0, bysN T1, true) else (n, bysN T1, bad1)) := hri
  have hrb1 : Hid (bad1 = true → n = 0) := hrb
  have Hz1 := Lib.hid hz1
  have c1 := hR1.cell 1
  have f1 := hR1.free 1
  clear hr hri hrb hz1
  by_cases hmo : most < n
  · have hmi : (most : Int) < (n : Int) := by omega
    rw [if_pos hmo] at hri1
    have hks := Lib.hid (kept_set hk1 1 (.bool true))
    have hset0 : Blk (w1.setCell ⟨b, 1, none⟩ (.bool true)) b 58 #[.string T1, .bool true] := by simpa using hR1.set_ 1 (.bool true)
    have c2 := hset0.cell 1
    have hset := Lib.hid hset0
    clear hset0
    go_wp2_with fail
    go_ret
    exact rdn 0 T1 true rfl (by rw [hri1.out]) hset.out Hz1.out hks.out
  · have hmi : ¬ (most : Int) < (n : Int) := by omega
    rw [if_neg hmo] at hri1
    have hwn : wrap64 (n : Int) = (n : Int) := by unfold wrap64; omega
    cases bad1
    · go_wp2_with fail
      go_ret
      exact rdn n T1 false rfl (by rw [hri1.out]) hR1 Hz1.out hk1
    · obtain rfl := hrb1.out rfl
      go_wp2_with fail
      go_ret
      exact rdn 0 T1 true rfl (by rw [hri1.out]) hR1 Hz1.out hk1
/-- Is all read, and well? -/
def rEnd (l : List Nat) (bad : Bool) : Bool := bad || decide (l ≠ [])
theorem trdend_any (b : Nat) (T : ByteArray) (bad : Bool) (w : World) (hR : Blk w b 71 #[.string T, .bool bad]) : Calls Tryd.prog 30 #[.pointer (some ⟨b, 0, none⟩)] w fun e w' => e = .returned (.int .i64 (if rEnd (bysN T) bad = true then 10 else 0)) ∧ w = w' := by
  have c0 := hR.cell 0
  have c1 := hR.cell 1
  cases bad
  · by_cases he : T.size = 0
    · obtain rfl : T = ⟨#[]⟩ := bysN_inj (List.eq_nil_of_length_eq_zero (by rw [bysN_len]; exact he))
      go_enter Tryd.func30, Tryd.ntmps30
      go_wp2_with (go_at_call 57; refine (tgood_any b _ _ _ hR).mono ?_; rintro e w2 ⟨rfl, rfl⟩)
      go_ret
      exact ⟨rfl, rfl⟩
    · have hie : T.toList.isEmpty = false := by rw [toList_isEmpty]; exact decide_eq_false he
      have hend : Hid (rEnd (bysN T) false = true) := Lib.hid (by
        unfold rEnd
        rw [Bool.false_or]
        exact decide_eq_true (fun e => he (by rw [← bysN_len, e]; rfl)))
      go_enter Tryd.func30, Tryd.ntmps30
      go_wp2_with (go_at_call 57; refine (tgood_any b _ _ _ hR).mono ?_; rintro e w2 ⟨rfl, rfl⟩)
      go_ret
      exact ⟨by first | rfl | (rw [hend.out]; rfl), rfl⟩
  · go_enter Tryd.func30, Tryd.ntmps30
    go_wp2_with (go_at_call 57; refine (tgood_any b _ _ _ hR).mono ?_; rintro e w2 ⟨rfl, rfl⟩)
    go_ret
    exact ⟨rfl, rfl⟩
theorem rrdend_any (b : Nat) (T : ByteArray) (bad : Bool) (w : World) (hR : Blk w b 58 #[.string T, .bool bad]) : Calls Tryd.prog 34 #[.pointer (some ⟨b, 0, none⟩)] w fun e w' => e = .returned (.int .i64 (if rEnd (bysN T) bad = true then 10 else 0)) ∧ w = w' := by
  have c0 := hR.cell 0
  have c1 := hR.cell 1
  cases bad
  · by_cases he : T.size = 0
    · obtain rfl : T = ⟨#[]⟩ := bysN_inj (List.eq_nil_of_length_eq_zero (by rw [bysN_len]; exact he))
      go_enter Tryd.func34, Tryd.ntmps34
      go_wp2_with fail
      go_ret
      exact ⟨rfl, rfl⟩
    · have hie : T.toList.isEmpty = false := by rw [toList_isEmpty]; exact decide_eq_false he
      have hend : Hid (rEnd (bysN T) false = true) := Lib.hid (by
        unfold rEnd
        rw [Bool.false_or]
        exact decide_eq_true (fun e => he (by rw [← bysN_len, e]; rfl)))
      go_enter Tryd.func34, Tryd.ntmps34
      go_wp2_with fail
      go_ret
      exact ⟨by first | rfl | (rw [hend.out]; rfl), rfl⟩
  · go_enter Tryd.func34, Tryd.ntmps34
    go_wp2_with fail
    go_ret
    exact ⟨rfl, rfl⟩
end Go.Proofs.YtbimnfmjgmfijaaDoor
