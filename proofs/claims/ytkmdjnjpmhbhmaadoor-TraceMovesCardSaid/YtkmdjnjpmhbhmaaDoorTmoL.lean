/- The law TraceMoves: channels are put ahead, and taken off, as the words say: for every input, the tables being as the program's text lays them. -/
import Derived.Test.YtkmdjnjpmhbhmaaDoorHT
import Derived.Test.YtkmdjnjpmhbhmaaDoorTmo
namespace Go.Proofs.YtkmdjnjpmhbhmaaDoor
open Go.ChangeShapes Go.WideShapes Go.ChangeAt Go.WideMaps Go.WideElems Go.RowKit
set_option maxRecDepth 100000 in
theorem l12moves_lifted (os : Os) (started : os.Started) (H : Type) (enc : TypeId × Value → H) :
    ReturnsInHanded {} Tryd.checked os 5 .any (fun w args => (Rows.traceMovesSpec.pre enc Tryd.prog Tryd.f5 [] false w args ∧ laidMetH Tryd.prog laidT w) ∧ sizedMet enc Tryd.prog Tryd.f5 (OpenSpec.ofChange Rows.traceMovesSpec) false w args) (Rows.traceMovesSpec.post enc Tryd.prog Tryd.f5 false true false false) := by
  refine law_sh (C := Tryd.checked) (X := fun w _ => laidMetH Tryd.prog laidT w) (tb := 4) (fun _ _ _ hh h => h.of_heap hh) (by kernel_rfl) started (by kernel_rfl) Tryd.func5
    (ChangeSpec.witness_shaped (enc := enc) (C := Tryd.checked) (os := os) (X := fun w _ => laidMetH Tryd.prog laidT w) false (tWorld os) #[.string ⟨#[]⟩, .string ⟨#[]⟩, .bool false] 8 rfl (World.shaped_of_RefB (by kernel_rfl) (by kernel_rfl)) (by kernel_rfl) (by kernel_rfl) (by kernel_rfl) (door_met_t os _))
    (by kernel_rfl) (by kernel_rfl) (by kernel_rfl) Tryd.underlying4 rfl ?_ ?_
  · intro ds hd
    have hp : Tryd.f5.params.toList.length = 3 := by kernel_rfl
    rw [hp] at hd
    match ds, hd with
    | [d, d', d''], _ => rfl
  · intro W base args ds ps hval hA hS hL
    have hval' : ∀ (j : Nat) t v, Tryd.f5.params[j]? = some t → args[j]? = some v → Value.okWide Tryd.prog W .any base t v := hval
    have hA' : DataW.TrodAll enc Tryd.prog W 0 (fun _ => true) true Tryd.f5.params.toList args.toList ds ps := hA
    rw [Tryd.params5] at hA' hval'
    obtain ⟨v0, v1, v2, d0, d1, d2, p0, p1, p2, rfl, rfl, rfl, h0, h1, h2⟩ := trodAll_three hA'
    obtain ⟨s0, rfl, _⟩ := ChangeMaps.open_string Tryd.underlying9 (hval' 0 9 v0 rfl rfl) h0
    obtain ⟨s1, rfl, _⟩ := ChangeMaps.open_string Tryd.underlying9 (hval' 1 9 v1 rfl rfl) h1
    obtain ⟨b2, rfl, _⟩ := open_bool Tryd.underlying4 (hval' 2 4 v2 rfl rfl) h2
    exact l12moves_any s0 s1 b2 W
theorem TraceMoves_row : Rows.TraceMovesSaid :=
  OpenClaim.holds_of_wide 5 Tryd.f5 rfl rfl rfl rfl rfl rfl rfl ⟨rfl, rfl, rfl, rfl, rfl⟩ rfl rfl rfl rfl rfl (by kernel_rfl) Tryd.func5 (by kernel_rfl)
    (of_decide_eq_true (by kernel_rfl)) (by unfold Func.isWrapper; first | (rw [if_pos (by decide +kernel)]; kernel_rfl) | (rw [if_neg (by decide +kernel)]; exact ⟨rfl, rfl⟩))
    (fun os started H enc _ => l12moves_lifted os started H enc)
theorem TraceMoves_holds : Rows.TraceMovesCardSaid :=
  Claim7.holds_tied_plain_at .later [] [.data, .pinned] true (true, "86b015e4d663ec70a5513141228b4ba5f9bee36b5f9f61ef1c2752c599e6c347") false
    TraceMoves_row (fun _ h => by cases h) (by kernel_rfl) (fun _ h => by cases h) traceMoves_row_tie rfl ⟨rfl, rfl⟩ (by kernel_rfl) rfl
    (fun f fn hf hfn => by
      obtain rfl : f = 5 := Option.some.inj ((show Tryd.prog.funcNamed "twinspan/twinspanlaw12.TraceMoves" = some 5 by kernel_rfl).symm.trans hf) |>.symm
      obtain rfl : fn = Tryd.f5 := (Option.some.inj (Tryd.func5.symm.trans hfn)).symm
      exact ⟨by kernel_rfl, fun j t ht => by
        rw [Tryd.params5] at ht
        have hm := Array.mem_of_getElem? ht
        have hall : (Tryd.f5.params.toList.all fun u => !Tryd.prog.wantsStandIn u) = true := by kernel_rfl
        rw [Tryd.params5] at hall
        exact (show Tryd.prog.wantsStandIn t = false by simpa using List.all_eq_true.1 hall t (by simpa using hm))⟩)
    (by kernel_rfl)
end Go.Proofs.YtkmdjnjpmhbhmaaDoor
