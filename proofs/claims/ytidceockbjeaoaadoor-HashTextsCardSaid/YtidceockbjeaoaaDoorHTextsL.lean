/- The law HashTexts: a hash's text is its bytes, and read as it; others are refused; texts are in order byte by byte: for every input, the tables being as the program's text lays them. -/
import Derived.Test.YtidceockbjeaoaaDoorHK
import Derived.Test.YtidceockbjeaoaaDoorHTexts
import Derived.Test.YtidceockbjeaoaaDoorHOrderL
namespace Go.Proofs.YtidceockbjeaoaaDoor
open Go.ChangeShapes Go.WideShapes Go.ChangeAt Go.WideMaps Go.WideElems Go.RowKit
set_option maxRecDepth 100000 in
theorem htexts_lifted (os : Os) (started : os.Started) (H : Type) (enc : TypeId × Value → H) :
    ReturnsInHanded {} Tryd.checked os 8 .any (fun w args => (Rows.hashTextsSpec.pre enc Tryd.prog Tryd.f8 [] false w args ∧ laidMetH Tryd.prog laidL w) ∧ sizedMet enc Tryd.prog Tryd.f8 (OpenSpec.ofChange Rows.hashTextsSpec) false w args) (Rows.hashTextsSpec.post enc Tryd.prog Tryd.f8 false true false false) := by
  refine law_tabs (C := Tryd.checked) (X := fun w _ => laidMetH Tryd.prog laidL w) (tb := 4) (fun _ _ _ hh h => h.of_heap hh) (by kernel_rfl) started (by kernel_rfl) Tryd.func8
    (ChangeSpec.witness_shaped (enc := enc) (C := Tryd.checked) (os := os) (X := fun w _ => laidMetH Tryd.prog laidL w) false (World.doorLaid Tryd.prog 400 os) #[.agg (U8s z32).toArray, .agg (U8s z32).toArray, .string ⟨#[]⟩] 8 rfl (World.shaped_of_RefB (by kernel_rfl) (by kernel_rfl)) (by kernel_rfl) (by kernel_rfl) (by kernel_rfl) (door_met os _))
    (by kernel_rfl) (by kernel_rfl) (by kernel_rfl) Tryd.underlying4 rfl ?_ ?_
  · intro ds hd
    have hp : Tryd.f8.params.toList.length = 3 := by kernel_rfl
    rw [hp] at hd
    match ds, hd with
    | [d, d', d''], _ => rfl
  · intro W base args ds ps hval hA hL
    have hval' : ∀ (j : Nat) t v, Tryd.f8.params[j]? = some t → args[j]? = some v → Value.okWide Tryd.prog W .any base t v := hval
    have hA' : DataW.TrodAll enc Tryd.prog W 0 (fun _ => true) true Tryd.f8.params.toList args.toList ds ps := hA
    rw [Tryd.params8] at hA' hval'
    obtain ⟨v0, v1, v2, d0, d1, d2, p0, p1, p2, rfl, rfl, rfl, h0, h1, h2⟩ := trodAll_three hA'
    obtain ⟨l0, i0, rfl⟩ := open_hash (hval' 0 26 v0 rfl rfl) h0
    obtain ⟨l1, i1, rfl⟩ := open_hash (hval' 1 26 v1 rfl rfl) h1
    obtain ⟨s2, rfl, _⟩ := ChangeMaps.open_string Tryd.underlying9 (hval' 2 9 v2 rfl rfl) h2
    exact htexts_any l0 l1 s2 i0 i1 W (tabs_of_laid hL)
theorem HashTexts_row : Rows.HashTextsSaid :=
  OpenClaim.holds_of_wide 8 Tryd.f8 rfl rfl rfl rfl rfl rfl rfl ⟨rfl, rfl, rfl, rfl, rfl⟩ rfl rfl rfl rfl rfl (by kernel_rfl) Tryd.func8 (by kernel_rfl)
    (of_decide_eq_true (by kernel_rfl)) (by unfold Func.isWrapper; first | (rw [if_pos (by decide +kernel)]; kernel_rfl) | (rw [if_neg (by decide +kernel)]; exact ⟨rfl, rfl⟩))
    (fun os started H enc _ => htexts_lifted os started H enc)
theorem HashTexts_holds : Rows.HashTextsCardSaid :=
  Claim7.holds_tied_plain_at .later [] [.data, .data] true (true, "501b5050b26b6d92cfbaeb4591e378e8cc20689ba323ebdc1fc9ba653ff3d2ad") false
    HashTexts_row (fun _ h => by cases h) (by kernel_rfl) (fun _ h => by cases h) hashTexts_row_tie rfl ⟨rfl, rfl⟩ (by kernel_rfl) rfl
    (fun f fn hf hfn => by
      obtain rfl : f = 8 := Option.some.inj ((show Tryd.prog.funcNamed "twinspan/twinspanlaw02.HashTexts" = some 8 by kernel_rfl).symm.trans hf) |>.symm
      obtain rfl : fn = Tryd.f8 := (Option.some.inj (Tryd.func8.symm.trans hfn)).symm
      exact ⟨by kernel_rfl, fun j t ht => by
        rw [Tryd.params8] at ht
        have hm := Array.mem_of_getElem? ht
        have hall : (Tryd.f8.params.toList.all fun u => !Tryd.prog.wantsStandIn u) = true := by kernel_rfl
        rw [Tryd.params8] at hall
        exact (show Tryd.prog.wantsStandIn t = false by simpa using List.all_eq_true.1 hall t (by simpa using hm))⟩)
    (by kernel_rfl)
end Go.Proofs.YtidceockbjeaoaaDoor
