/- The law TraceOver: over one channel after the other a denomination gets longer by each, and comes home by each, the last one first: for every input, the tables being as the program's text lays them. -/
import Derived.Test.YtkmdjnjpmhbhmaaDoorHT
import Derived.Test.YtkmdjnjpmhbhmaaDoorTov
namespace Go.Proofs.YtkmdjnjpmhbhmaaDoor
open Go.ChangeShapes Go.WideShapes Go.ChangeAt Go.WideMaps Go.WideElems Go.RowKit
set_option maxRecDepth 100000 in
theorem l12over_lifted (os : Os) (started : os.Started) (H : Type) (enc : TypeId × Value → H) :
    ReturnsInHanded {} Tryd.checked os 7 .any (fun w args => (Rows.traceOverSpec.pre enc Tryd.prog Tryd.f7 [] false w args ∧ laidMetH Tryd.prog laidT w) ∧ sizedMet enc Tryd.prog Tryd.f7 (OpenSpec.ofChange Rows.traceOverSpec) false w args) (Rows.traceOverSpec.post enc Tryd.prog Tryd.f7 false true false false) := by
  refine law_sh (C := Tryd.checked) (X := fun w _ => laidMetH Tryd.prog laidT w) (tb := 4) (fun _ _ _ hh h => h.of_heap hh) (by kernel_rfl) started (by kernel_rfl) Tryd.func7
    (ChangeSpec.witness_shaped (enc := enc) (C := Tryd.checked) (os := os) (X := fun w _ => laidMetH Tryd.prog laidT w) false (tWorld os) #[.slice none 0 0] 8 rfl (World.shaped_of_RefB (by kernel_rfl) (by kernel_rfl)) (by kernel_rfl) (by kernel_rfl) (by kernel_rfl) (door_met_t os _))
    (by kernel_rfl) (by kernel_rfl) (by kernel_rfl) Tryd.underlying4 rfl ?_ ?_
  · intro ds hd
    have hp : Tryd.f7.params.toList.length = 1 := by kernel_rfl
    rw [hp] at hd
    match ds, hd with
    | [d], _ => rfl
  · intro W base args ds ps hval hA hS hL
    have hval' : ∀ (j : Nat) t v, Tryd.f7.params[j]? = some t → args[j]? = some v → Value.okWide Tryd.prog W .any base t v := hval
    have hA' : DataW.TrodAll enc Tryd.prog W 0 (fun _ => true) true Tryd.f7.params.toList args.toList ds ps := hA
    rw [Tryd.params7] at hA' hval'
    obtain ⟨v0, d0, rfl, rfl, h0⟩ := trodAll_one hA'
    obtain ⟨L0, hs0, hl0⟩ := open_rint (hval' 0 39 v0 rfl rfl) h0
    exact l12over_any v0 L0 W (Lib.hid hs0) hl0
theorem TraceOver_row : Rows.TraceOverSaid :=
  OpenClaim.holds_of_wide 7 Tryd.f7 rfl rfl rfl rfl rfl rfl rfl ⟨rfl, rfl, rfl, rfl, rfl⟩ rfl rfl rfl rfl rfl (by kernel_rfl) Tryd.func7 (by kernel_rfl)
    (of_decide_eq_true (by kernel_rfl)) (by unfold Func.isWrapper; first | (rw [if_pos (by decide +kernel)]; kernel_rfl) | (rw [if_neg (by decide +kernel)]; exact ⟨rfl, rfl⟩))
    (fun os started H enc _ => l12over_lifted os started H enc)
theorem TraceOver_holds : Rows.TraceOverCardSaid :=
  Claim7.holds_tied_plain_at .later [] [.data, .pinned] true (true, "86b015e4d663ec70a5513141228b4ba5f9bee36b5f9f61ef1c2752c599e6c347") false
    TraceOver_row (fun _ h => by cases h) (by kernel_rfl) (fun _ h => by cases h) traceOver_row_tie rfl ⟨rfl, rfl⟩ (by kernel_rfl) rfl
    (fun f fn hf hfn => by
      obtain rfl : f = 7 := Option.some.inj ((show Tryd.prog.funcNamed "twinspan/twinspanlaw12.TraceOver" = some 7 by kernel_rfl).symm.trans hf) |>.symm
      obtain rfl : fn = Tryd.f7 := (Option.some.inj (Tryd.func7.symm.trans hfn)).symm
      exact ⟨by kernel_rfl, fun j t ht => by
        rw [Tryd.params7] at ht
        have hm := Array.mem_of_getElem? ht
        have hall : (Tryd.f7.params.toList.all fun u => !Tryd.prog.wantsStandIn u) = true := by kernel_rfl
        rw [Tryd.params7] at hall
        exact (show Tryd.prog.wantsStandIn t = false by simpa using List.all_eq_true.1 hall t (by simpa using hm))⟩)
    (by kernel_rfl)
end Go.Proofs.YtkmdjnjpmhbhmaaDoor
