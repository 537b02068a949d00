/- The law WideTurns: sums are the same in whatever order; what was added is taken away again; a difference is a sum's; for every input. -/
import Derived.Test.YtibemleodghhfaaTurn
namespace Go.Proofs.Ytibemleodghhfaa
open Go.RowKit Go.ChangeShapes Go.WideShapes
theorem cmpI_cases (A B : Nat) : (cmpI A B = -1 ∧ cmpI B A = 1 ∧ A < B) ∨ (cmpI A B = 0 ∧ cmpI B A = 0 ∧ B ≤ A) ∨ (cmpI A B = 1 ∧ cmpI B A = -1 ∧ B ≤ A) := by
  rcases Nat.lt_trichotomy A B with h | h | h
  · exact .inl ⟨cmpI_lt h, cmpI_gt h, h⟩
  · subst h; exact .inr (.inl ⟨cmpI_eq rfl, cmpI_eq rfl, Nat.le_refl _⟩)
  · exact .inr (.inr ⟨cmpI_gt h, cmpI_lt h, Nat.le_of_lt h⟩)
theorem cmpI_ge {A B : Nat} (h : B ≤ A) : 0 ≤ cmpI A B := by
  rcases cmpI_cases A B with ⟨e, _, h'⟩ | ⟨e, _⟩ | ⟨e, _⟩
  · omega
  · omega
  · omega
theorem turns_walk (A B C : Nat) (hA : W256 A) (hB : W256 B) (hC : W256 C) (w : World) :
    Calls Try.prog 8 #[.agg #[.int .u64 (limb A 0), .int .u64 (limb A 1), .int .u64 (limb A 2), .int .u64 (limb A 3)], .agg #[.int .u64 (limb B 0), .int .u64 (limb B 1), .int .u64 (limb B 2), .int .u64 (limb B 3)], .agg #[.int .u64 (limb C 0), .int .u64 (limb C 1), .int .u64 (limb C 2), .int .u64 (limb C 3)]] w fun e w' => e = .returned (.bool true) ∧ Below w.heap.size w w' := by
  have hba := add_any B A hB hA
  rw [Nat.add_comm B A] at hba
  have hs2 := sum3 C A B hC hA hB
  have e : C + A + B = A + B + C := by omega
  rw [e] at hs2
  have hS : W256 (wN (A + B)) := W256.wN _
  have hsub : wOk (A + B) = true → ∀ w, Calls Try.prog 23 #[.agg #[.int .u64 (limb (wN (A + B)) 0), .int .u64 (limb (wN (A + B)) 1), .int .u64 (limb (wN (A + B)) 2), .int .u64 (limb (wN (A + B)) 3)], .agg #[.int .u64 (limb B 0), .int .u64 (limb B 1), .int .u64 (limb B 2), .int .u64 (limb B 3)]] w fun e w' => e = .returned (.tuple #[.agg #[.int .u64 (limb A 0), .int .u64 (limb A 1), .int .u64 (limb A 2), .int .u64 (limb A 3)], .bool true]) ∧ Below w.heap.size w w' := by
    intro hk w
    have hw : wN (A + B) = A + B := wN_of (ok_Wd hk)
    have h := sub_yes (wN (A + B)) B hS hB (by rw [hw]; omega) w
    have e1 : wN (A + B) - B = A := by rw [hw]; omega
    rw [e1] at h
    exact h
  have hcs : wOk (A + B) = true → ∀ w, Calls Try.prog 24 #[.agg #[.int .u64 (limb (wN (A + B)) 0), .int .u64 (limb (wN (A + B)) 1), .int .u64 (limb (wN (A + B)) 2), .int .u64 (limb (wN (A + B)) 3)], .agg #[.int .u64 (limb A 0), .int .u64 (limb A 1), .int .u64 (limb A 2), .int .u64 (limb A 3)]] w fun e w' => e = .returned (.int .i64 (cmpI (A + B) A)) ∧ Below w.heap.size w w' := by
    intro hk w
    have hw : wN (A + B) = A + B := wN_of (ok_Wd hk)
    have h := compare_any (wN (A + B)) A hS hA w
    have e1 : cmpI (wN (A + B)) A = cmpI (A + B) A := by rw [hw]
    rw [e1] at h
    exact h
  have hcs0 : 0 ≤ cmpI (A + B) A := cmpI_ge (by omega)
  rcases Nat.lt_or_ge A B with hlt | hge
  · refine turns_gen A B C (wN (A + B)) (wN (A + B + C)) (wOk (A + B)) (wOk (A + B + C)) false (cmpI (A + B) A) (cmpI A B) (cmpI B A) 0 0 0 0 hA hS (W256.wN _)
      (Lib.hid (add_any A B hA hB)) (Lib.hid hba) (Lib.hid hsub) (Lib.hid hcs) hcs0 (Lib.hid (sum3 A B C hA hB hC)) (Lib.hid hs2) (Lib.hid (sub_no A B hA hB hlt)) (Lib.hid (fun h => by cases h)) (Lib.hid (compare_any A B hA hB)) (Lib.hid (compare_any B A hB hA)) ?_ w
    rcases cmpI_cases A B with h | h | h
    · exact .inl ⟨h.1, h.2.1, rfl⟩
    · omega
    · omega
  · refine turns_gen A B C (wN (A + B)) (wN (A + B + C)) (wOk (A + B)) (wOk (A + B + C)) true (cmpI (A + B) A) (cmpI A B) (cmpI B A) (limb (A - B) 0) (limb (A - B) 1) (limb (A - B) 2) (limb (A - B) 3) hA hS (W256.wN _)
      (Lib.hid (add_any A B hA hB)) (Lib.hid hba) (Lib.hid hsub) (Lib.hid hcs) hcs0 (Lib.hid (sum3 A B C hA hB hC)) (Lib.hid hs2) (Lib.hid (sub_yes A B hA hB hge)) (Lib.hid (fun _ w => ?_)) (Lib.hid (compare_any A B hA hB)) (Lib.hid (compare_any B A hB hA)) ?_ w
    · have hD : W256 (A - B) := Nat.lt_of_le_of_lt (Nat.sub_le _ _) hA
      have h := add_any (A - B) B hD hB w
      rw [Nat.sub_add_cancel hge, wN_of hA, wOk_of hA] at h
      exact h
    · rcases cmpI_cases A B with h | h | h
      · omega
      · exact .inr (.inl ⟨h.1, h.2.1, rfl⟩)
      · exact .inr (.inr ⟨h.1, h.2.1, rfl⟩)
set_option maxRecDepth 100000 in
theorem turns_lifted (os : Os) (started : os.Started) (H : Type) (enc : TypeId × Value → H) :
    ReturnsInHanded {} Try.checked os 8 .any (Rows.wideTurnsSpec.pre6 enc Try.prog Try.f8 Rows.wideTurnsRow.domain false) (Rows.wideTurnsSpec.post enc Try.prog Try.f8 false true false false) := by
  refine law_lifted (C := Try.checked) (tb := 4) (by kernel_rfl) started (by kernel_rfl) Try.func8
    (ChangeSpec.witness6 (enc := enc) (C := Try.checked) false ⟨#[], #[.agg #[.int .u64 0, .int .u64 0, .int .u64 0, .int .u64 0], .agg #[.int .u64 0, .int .u64 0, .int .u64 0, .int .u64 0], .agg #[.int .u64 0, .int .u64 0, .int .u64 0, .int .u64 0]], []⟩ 8 (by kernel_rfl) (by kernel_rfl) (by kernel_rfl) (by kernel_rfl))
    laidOut (by kernel_rfl) (by kernel_rfl) Try.underlying4 rfl ?_ ?_
  · intro ds hd
    have hp : Try.f8.params.toList.length = 3 := by kernel_rfl
    rw [hp] at hd
    match ds, hd with
    | [d, d', d''], _ => rfl
  · intro W base args ds ps hval hA _ _
    have hval' : ∀ (j : Nat) t v, Try.f8.params[j]? = some t → args[j]? = some v → Value.okWide Try.prog W .any base t v := hval
    have hA' : DataW.TrodAll enc Try.prog W 0 (fun _ => true) true Try.f8.params.toList args.toList ds ps := hA
    rw [Try.params8] at hA' hval'
    obtain ⟨v0, v1, v2, d0, d1, d2, p0, p1, p2, rfl, rfl, rfl, h0, h1, h2⟩ := trodAll_three hA'
    obtain ⟨N, hN, rfl⟩ := wide_args (hval' 0 26 v0 rfl rfl) h0
    obtain ⟨M, hM, rfl⟩ := wide_args (hval' 1 26 v1 rfl rfl) h1
    obtain ⟨K, hK, rfl⟩ := wide_args (hval' 2 26 v2 rfl rfl) h2
    exact turns_walk N M K hN hM hK W
theorem WideTurns_holds : Rows.WideTurnsSaid :=
  OpenClaim.holds_of_wide 8 Try.f8 rfl rfl rfl rfl rfl rfl rfl ⟨rfl, rfl, rfl, rfl, rfl⟩ rfl rfl rfl rfl rfl (by kernel_rfl) Try.func8 (by kernel_rfl)
    (of_decide_eq_true (by kernel_rfl)) (by unfold Func.isWrapper; first | (rw [if_pos (by decide +kernel)]; kernel_rfl) | (rw [if_neg (by decide +kernel)]; exact ⟨rfl, rfl⟩))
    (fun os started H enc _ => turns_lifted os started H enc)
end Go.Proofs.Ytibemleodghhfaa
