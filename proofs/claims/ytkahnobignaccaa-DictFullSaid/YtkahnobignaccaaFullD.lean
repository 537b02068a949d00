/- The law DictFull: a map has 2000 entries at most; one that is there may have another value still: for every input. -/
import Derived.Test.YtkahnobignaccaaDl
import Derived.Test.YtkahnobignaccaaDo
namespace Go.Proofs.Ytkahnobignaccaa
open Go.RowKit Go.ChangeShapes Go.WideShapes
theorem u8_lt {i j : Nat} (h : i < j) (hj : j < 256) : UInt8.ofNat i < UInt8.ofNat j := by
  rw [UInt8.lt_iff_toNat_lt, UInt8.toNat_ofNat', UInt8.toNat_ofNat']
  omega
theorem key_lt {i j : Nat} (h : i < j) (hj : j < 65536) : klt (keyN i) (keyN j) := by
  show [UInt8.ofNat (i / 256), UInt8.ofNat (i % 256)] < [UInt8.ofNat (j / 256), UInt8.ofNat (j % 256)]
  rw [List.cons_lt_cons_iff]
  by_cases h1 : i / 256 = j / 256
  · refine .inr ⟨by rw [h1], ?_⟩
    rw [List.cons_lt_cons_iff]
    exact .inl (u8_lt (by omega) (by omega))
  · exact .inl (u8_lt (by omega) (by omega))
theorem mem_keys {n : Nat} {x : Ent} : x ∈ keysL n ↔ ∃ i, i < n ∧ x = (keyN i, ⟨#[118]⟩) := by
  unfold keysL
  rw [List.mem_map]
  constructor
  · rintro ⟨i, hi, rfl⟩; exact ⟨i, List.mem_range.1 hi, rfl⟩
  · rintro ⟨i, hi, rfl⟩; exact ⟨i, List.mem_range.2 hi, rfl⟩
theorem keys_srt {n : Nat} (hn : n ≤ 65536) : Srt (keysL n) := by
  induction n with
  | zero => exact List.Pairwise.nil
  | succ n ih =>
    rw [keys_succ]
    unfold Srt
    rw [List.pairwise_append]
    refine ⟨ih (by omega), List.pairwise_singleton _ _, fun x hx y hy => ?_⟩
    obtain ⟨i, hi, rfl⟩ := mem_keys.1 hx
    rw [List.mem_singleton] at hy
    subst hy
    exact key_lt hi (by omega)
theorem keys_has {n m : Nat} (h : n ≤ m) (hm : m < 65536) : hasK (keysL n) (keyN m) = false := by
  unfold hasK
  rw [List.any_eq_false]
  intro x hx
  obtain ⟨i, hi, rfl⟩ := mem_keys.1 hx
  simpa using klt_ne (key_lt (show i < m by omega) hm)
theorem keys_step {n : Nat} (hn : n < 2000) : stepL (keysL n) (keyN n, ⟨#[118]⟩) = keysL (n + 1) := by
  have hs := keys_srt (n := n) (by omega)
  unfold stepL
  rw [if_pos ⟨by show (2 : Nat) ≤ 400; decide, by show (1 : Nat) ≤ 4000; decide, .inr (by rw [keys_len]; exact hn)⟩]
  refine srt_ext (put_srt hs _ _) (keys_srt (by omega)) fun x => ?_
  rw [mem_put hs, keys_succ, List.mem_append, List.mem_singleton]
  constructor
  · rintro (h | ⟨h, _⟩)
    · exact .inr h
    · exact .inl h
  · rintro (h | h)
    · refine .inr ⟨h, ?_⟩
      obtain ⟨i, hi, rfl⟩ := mem_keys.1 h
      exact klt_ne (key_lt hi (by omega))
    · exact .inl h
theorem keys_of (n : Nat) (hn : n < 65536) : ofL (keysL n) = keysL (min n 2000) := by
  induction n with
  | zero => rfl
  | succ n ih =>
    rw [keys_succ, ofL_snoc, ih (by omega)]
    by_cases h : n < 2000
    · rw [show min n 2000 = n by omega, show min (n + 1) 2000 = n + 1 by omega, keys_step h]
    · rw [show min n 2000 = 2000 by omega, show min (n + 1) 2000 = 2000 by omega]
      unfold stepL
      rw [if_neg]
      rintro ⟨_, _, h1 | h1⟩
      · have := keys_has (n := 2000) (m := n) (by omega) (by omega)
        rw [this] at h1; cases h1
      · rw [keys_len] at h1; omega
theorem keys_zz {n : Nat} (hn : n ≤ 2000) : hasK (keysL n) ⟨#[122, 122]⟩ = false := by
  unfold hasK
  rw [List.any_eq_false]
  intro x hx
  obtain ⟨i, hi, rfl⟩ := mem_keys.1 hx
  intro h
  have h1 : keyN i = ⟨#[122, 122]⟩ := by simpa using h
  have h2 : kl (keyN i) = kl ⟨#[122, 122]⟩ := by rw [h1]
  have h3 : [UInt8.ofNat (i / 256), UInt8.ofNat (i % 256)] = [122, 122] := h2
  rw [List.cons.injEq] at h3
  have h4 := congrArg UInt8.toNat h3.1
  rw [UInt8.toNat_ofNat'] at h4
  have h5 : (122 : UInt8).toNat = 122 := rfl
  omega
theorem full_any (n : Int) (w : World) :
    Calls Try.prog 3 #[.int .i64 n] w fun e w' => e = .returned (.bool true) ∧ Below w.heap.size w w' := by
  obtain ⟨K, hK1, hK2, hKe⟩ := full_k n
  have hof := keys_of K (by omega)
  have hs := keys_srt (n := min K 2000) (by omega)
  have hl : (keysL (min K 2000)).length = min K 2000 := keys_len _
  have hzz := keys_zz (n := min K 2000) (by omega)
  have h7 : (keyN 7, (⟨#[118]⟩ : ByteArray)) ∈ keysL (min K 2000) := mem_keys.2 ⟨7, by omega, rfl⟩
  have hh7 : hasK (keysL (min K 2000)) (keyN 7) = true := by
    unfold hasK
    rw [List.any_eq_true]
    exact ⟨_, h7, by simp⟩
  have ok7 : putOk (keysL (min K 2000)) (keyN 7) ⟨#[119]⟩ := ⟨by show (2 : Nat) ≤ 400; decide, by show (1 : Nat) ≤ 4000; decide, .inl hh7⟩
  have hg := get_put hs (keyN 7) ⟨#[119]⟩
  have hhg : hasK (putL (keysL (min K 2000)) (keyN 7) ⟨#[119]⟩) (keyN 7) = true := by rw [← get_has, hg]; rfl
  have hsg := put_srt hs (keyN 7) ⟨#[119]⟩
  have hlg : (putL (keysL (min K 2000)) (keyN 7) ⟨#[119]⟩).length ≤ 2001 := by have := put_len hs (keyN 7) ⟨#[119]⟩; omega
  refine full_walk n K (keysL (min K 2000)) (putL (keysL (min K 2000)) (keyN 7) ⟨#[119]⟩) ((min K 2000 : Nat) : Int) (if K < 2000 then 0 else 15) w hK1 hK2 hKe ?_ ?_ ?_ ?_ ?_ ?_
  · exact fun w v hv => (of_any v _ w hv (by rw [keys_len]; omega)).mono fun e w' ⟨v', he, h, hb⟩ => ⟨v', he, hof ▸ h, hb⟩
  · intro w v hv
    by_cases hk : K < 2000
    · rw [if_pos hk]
      refine (put_any v _ ⟨#[122, 122]⟩ ⟨#[118]⟩ w hv hs (by omega)).mono ?_
      rintro e w' ⟨v', c, he, h, hb⟩
      rcases h with ⟨_, rfl, h⟩ | ⟨h, _⟩
      · obtain ⟨q, c, rfl⟩ := h.len
        exact ⟨_, _, _, he, hb⟩
      · exact absurd ⟨by show (2 : Nat) ≤ 400; decide, by show (1 : Nat) ≤ 4000; decide, .inr (by omega)⟩ h
    · rw [if_neg hk]
      refine (put_full v _ ⟨#[122, 122]⟩ ⟨#[118]⟩ w hv hs (by omega) (by show (2 : Nat) ≤ 400; decide) (by show (1 : Nat) ≤ 4000; decide) hzz).mono ?_
      rintro e w' ⟨he, hb⟩
      exact ⟨_, _, _, he, hb⟩
  · exact fun w v hv => (put_any v _ (keyN 7) ⟨#[119]⟩ w hv hs (by omega)).mono fun e w' ⟨v', c, he, h, hb⟩ => by
      rcases h with ⟨_, rfl, h⟩ | ⟨h, _⟩
      · exact ⟨v', he, h, hb⟩
      · exact absurd ok7 h
  · exact fun w v hv => (get_any v _ (keyN 7) w hv hsg (by omega)).mono fun e w' ⟨he, hb⟩ => ⟨by rw [he, hhg]; unfold gv; rw [hg]; rfl, hb⟩
  · exact fun w v hv => (len_any v _ w hv).mono fun e w' ⟨he, hb⟩ => ⟨by rw [he, hl], hb⟩
  · show _ ∨ _ ∨ _
    rcases Nat.lt_trichotomy K 2000 with h | h | h
    · exact .inl ⟨by omega, by omega, by omega, if_pos h⟩
    · exact .inr (.inl ⟨by omega, by omega, by omega, if_neg (by omega)⟩)
    · exact .inr (.inr ⟨by omega, by omega, if_neg (by omega)⟩)
set_option maxRecDepth 100000 in
theorem full_lifted (os : Os) (started : os.Started) (H : Type) (enc : TypeId × Value → H) :
    ReturnsInHanded {} Try.checked os 3 .any (Rows.dictFullSpec.pre6 enc Try.prog Try.f3 Rows.dictFullRow.domain false) (Rows.dictFullSpec.post enc Try.prog Try.f3 false true false false) := by
  refine law_lifted (C := Try.checked) (tb := 4) (by kernel_rfl) started (by kernel_rfl) Try.func3
    (ChangeSpec.witness6 (enc := enc) (C := Try.checked) false ⟨#[], #[.int .i64 0], []⟩ 8 (by kernel_rfl) (by kernel_rfl) (by kernel_rfl) (by kernel_rfl))
    (by kernel_rfl) (by kernel_rfl) (by kernel_rfl) Try.underlying4 rfl ?_ ?_
  · intro ds hd
    have hp : Try.f3.params.toList.length = 1 := by kernel_rfl
    rw [hp] at hd
    match ds, hd with
    | [d], _ => rfl
  · intro W base args ds ps hval hA _ _
    have hval' : ∀ (j : Nat) t v, Try.f3.params[j]? = some t → args[j]? = some v → Value.okWide Try.prog W .any base t v := hval
    have hA' : DataW.TrodAll enc Try.prog W 0 (fun _ => true) true Try.f3.params.toList args.toList ds ps := hA
    rw [Try.params3] at hA' hval'
    obtain ⟨v0, d0, rfl, rfl, h0⟩ := trodAll_one hA'
    obtain ⟨z, rfl, _, _, _⟩ := open_int Try.underlying3 (hval' 0 3 v0 rfl rfl) h0
    exact full_any z W
theorem DictFull_holds : Rows.DictFullSaid :=
  OpenClaim.holds_of_wide 3 Try.f3 rfl rfl rfl rfl rfl rfl rfl ⟨rfl, rfl, rfl, rfl, rfl⟩ rfl rfl rfl rfl rfl (by kernel_rfl) Try.func3 (by kernel_rfl)
    (of_decide_eq_true (by kernel_rfl)) (by unfold Func.isWrapper; first | (rw [if_pos (by decide +kernel)]; kernel_rfl) | (rw [if_neg (by decide +kernel)]; exact ⟨rfl, rfl⟩))
    (fun os started H enc _ => full_lifted os started H enc)
end Go.Proofs.Ytkahnobignaccaa
