/- The law HashCuts: however a text is cut into pieces, its hash is the same: for every input, the tables being as the program's text lays them. -/
import Derived.Test.YtidceockbjeaoaaDoorHK
import Derived.Test.YtidceockbjeaoaaDoorHCuts
namespace Go.Proofs.YtidceockbjeaoaaDoor
open Go.ChangeShapes Go.WideShapes Go.ChangeAt Go.WideMaps Go.WideElems Go.RowKit
set_option maxRecDepth 100000 in
theorem hcuts_lifted (os : Os) (started : os.Started) (H : Type) (enc : TypeId × Value → H) :
    ReturnsInHanded {} Tryd.checked os 6 .any (fun w args => (Rows.hashCutsSpec.pre enc Tryd.prog Tryd.f6 [] false w args ∧ laidMetH Tryd.prog laidL w) ∧ sizedMet enc Tryd.prog Tryd.f6 (OpenSpec.ofChange Rows.hashCutsSpec) false w args) (Rows.hashCutsSpec.post enc Tryd.prog Tryd.f6 false true false false) := by
  refine law_tabs (C := Tryd.checked) (X := fun w _ => laidMetH Tryd.prog laidL w) (tb := 4) (fun _ _ _ hh h => h.of_heap hh) (by kernel_rfl) started (by kernel_rfl) Tryd.func6
    (ChangeSpec.witness_shaped (enc := enc) (C := Tryd.checked) (os := os) (X := fun w _ => laidMetH Tryd.prog laidL w) false (World.doorLaid Tryd.prog 400 os) #[.string ⟨#[]⟩, .agg #[.int .i64 0, .int .i64 0]] 8 rfl (World.shaped_of_RefB (by kernel_rfl) (by kernel_rfl)) (by kernel_rfl) (by kernel_rfl) (by kernel_rfl) (door_met os _))
    (by kernel_rfl) (by kernel_rfl) (by kernel_rfl) Tryd.underlying4 rfl ?_ ?_
  · intro ds hd
    have hp : Tryd.f6.params.toList.length = 2 := by kernel_rfl
    rw [hp] at hd
    match ds, hd with
    | [d, d'], _ => rfl
  · intro W base args ds ps hval hA hL
    have hval' : ∀ (j : Nat) t v, Tryd.f6.params[j]? = some t → args[j]? = some v → Value.okWide Tryd.prog W .any base t v := hval
    have hA' : DataW.TrodAll enc Tryd.prog W 0 (fun _ => true) true Tryd.f6.params.toList args.toList ds ps := hA
    rw [Tryd.params6] at hA' hval'
    obtain ⟨v0, v1, d0, d1, p0, p1, rfl, rfl, rfl, h0, h1⟩ := trodAll_two hA'
    obtain ⟨s0, rfl, _⟩ := ChangeMaps.open_string Tryd.underlying9 (hval' 0 9 v0 rfl rfl) h0
    obtain ⟨z1, hl1, rfl, _⟩ := open_ints_array (n := 2) Tryd.underlying44 Tryd.underlying3 (by kernel_rfl) (by kernel_rfl) (hval' 1 44 v1 rfl rfl) h1
    obtain ⟨q1a, q1b, rfl⟩ : ∃ a b, z1 = [a, b] := by
      match z1, hl1 with
      | [a, b], _ => exact ⟨a, b, rfl⟩
    exact hcuts_any s0 q1a q1b W (tabs_of_laid hL)
theorem HashCuts_row : Rows.HashCutsSaid :=
  OpenClaim.holds_of_wide 6 Tryd.f6 rfl rfl rfl rfl rfl rfl rfl ⟨rfl, rfl, rfl, rfl, rfl⟩ rfl rfl rfl rfl rfl (by kernel_rfl) Tryd.func6 (by kernel_rfl)
    (of_decide_eq_true (by kernel_rfl)) (by unfold Func.isWrapper; first | (rw [if_pos (by decide +kernel)]; kernel_rfl) | (rw [if_neg (by decide +kernel)]; exact ⟨rfl, rfl⟩))
    (fun os started H enc _ => hcuts_lifted os started H enc)
theorem HashCuts_holds : Rows.HashCutsCardSaid :=
  Claim7.holds_tied_plain_at .later [] [.data, .data] true (true, "501b5050b26b6d92cfbaeb4591e378e8cc20689ba323ebdc1fc9ba653ff3d2ad") false
    HashCuts_row (fun _ h => by cases h) (by kernel_rfl) (fun _ h => by cases h) hashCuts_row_tie rfl ⟨rfl, rfl⟩ (by kernel_rfl) rfl
    (fun f fn hf hfn => by
      obtain rfl : f = 6 := Option.some.inj ((show Tryd.prog.funcNamed "twinspan/twinspanlaw02.HashCuts" = some 6 by kernel_rfl).symm.trans hf) |>.symm
      obtain rfl : fn = Tryd.f6 := (Option.some.inj (Tryd.func6.symm.trans hfn)).symm
      exact ⟨by kernel_rfl, fun j t ht => by
        rw [Tryd.params6] at ht
        have hm := Array.mem_of_getElem? ht
        have hall : (Tryd.f6.params.toList.all fun u => !Tryd.prog.wantsStandIn u) = true := by kernel_rfl
        rw [Tryd.params6] at hall
        exact (show Tryd.prog.wantsStandIn t = false by simpa using List.all_eq_true.1 hall t (by simpa using hm))⟩)
    (by kernel_rfl)
end Go.Proofs.YtidceockbjeaoaaDoor
