/- The law TransferNames: what comes home has a shorter name where it arrives, what goes away a longer one; what went away and comes back has its own again: for every input, the tables being as the program's text lays them. -/
import Derived.Test.YtiaflghhfcnjlaaGreatDoorHT
import Derived.Test.YtiaflghhfcnjlaaGreatDoorUn
namespace Go.Proofs.YtiaflghhfcnjlaaGreatDoor
open Go.ChangeShapes Go.WideShapes Go.ChangeAt Go.WideMaps Go.WideElems Go.RowKit
set_option maxRecDepth 100000 in
theorem l17names_lifted (os : Os) (started : os.Started) (H : Type) (enc : TypeId × Value → H) :
    ReturnsInHanded {} Tryz.checked os 4 .any (fun w args => (Rows.transferNamesSpec.pre enc Tryz.prog Tryz.f4 [] false w args ∧ laidMetH Tryz.prog laidT w) ∧ sizedMet enc Tryz.prog Tryz.f4 (OpenSpec.ofChange Rows.transferNamesSpec) false w args) (Rows.transferNamesSpec.post enc Tryz.prog Tryz.f4 false true false false) := by
  refine law_sh (C := Tryz.checked) (X := fun w _ => laidMetH Tryz.prog laidT w) (tb := 4) (fun _ _ _ hh h => h.of_heap hh) (by kernel_rfl) started (by kernel_rfl) Tryz.func4
    (ChangeSpec.witness_shaped (enc := enc) (C := Tryz.checked) (os := os) (X := fun w _ => laidMetH Tryz.prog laidT w) false (tWorld os) #[.int .i64 0, .int .i64 0, .slice none 0 0] 8 rfl (World.shaped_of_RefB (by kernel_rfl) (by kernel_rfl)) (by kernel_rfl) (by kernel_rfl) (by kernel_rfl) (door_met_t os _))
    (by kernel_rfl) (by kernel_rfl) (by kernel_rfl) Tryz.underlying4 rfl ?_ ?_
  · intro ds hd
    have hp : Tryz.f4.params.toList.length = 3 := by kernel_rfl
    rw [hp] at hd
    match ds, hd with
    | [d, d', d''], _ => rfl
  · intro W base args ds ps hval hA hS hL
    have hval' : ∀ (j : Nat) t v, Tryz.f4.params[j]? = some t → args[j]? = some v → Value.okWide Tryz.prog W .any base t v := hval
    have hA' : DataW.TrodAll enc Tryz.prog W 0 (fun _ => true) true Tryz.f4.params.toList args.toList ds ps := hA
    rw [Tryz.params4] at hA' hval'
    obtain ⟨v0, v1, v2, d0, d1, d2, p0, p1, p2, rfl, rfl, rfl, h0, h1, h2⟩ := trodAll_three hA'
    obtain ⟨n0, rfl, _, _, hw0⟩ := open_int Tryz.underlying3 (hval' 0 3 v0 rfl rfl) h0
    obtain ⟨n1, rfl, _, _, hw1⟩ := open_int Tryz.underlying3 (hval' 1 3 v1 rfl rfl) h1
    obtain ⟨L2, hs2, hl2⟩ := open_rint (hval' 2 40 v2 rfl rfl) h2
    exact l17names_any n0 n1 v2 L2 W (Lib.hid hs2) hl2
theorem TransferNames_row : Rows.TransferNamesSaid :=
  OpenClaim.holds_of_wide 4 Tryz.f4 rfl rfl rfl rfl rfl rfl rfl ⟨rfl, rfl, rfl, rfl, rfl⟩ rfl rfl rfl rfl rfl (by kernel_rfl) Tryz.func4 (by kernel_rfl)
    (of_decide_eq_true (by kernel_rfl)) (by unfold Func.isWrapper; first | (rw [if_pos (by decide +kernel)]; kernel_rfl) | (rw [if_neg (by decide +kernel)]; exact ⟨rfl, rfl⟩))
    (fun os started H enc _ => l17names_lifted os started H enc)
theorem TransferNames_holds : Rows.TransferNamesCardSaid :=
  Claim7.holds_tied_plain_at .later [] [.data, .pinned] true (true, "8b2e7b77f71401b8ab2faa7cb31051381d295518914a6249bc53950ba00a62fd") false
    TransferNames_row (fun _ h => by cases h) (by kernel_rfl) (fun _ h => by cases h) transferNames_row_tie rfl ⟨rfl, rfl⟩ (by kernel_rfl) rfl
    (fun f fn hf hfn => by
      obtain rfl : f = 4 := Option.some.inj ((show Tryz.prog.funcNamed "twinspan/twinspanlaw17.TransferNames" = some 4 by kernel_rfl).symm.trans hf) |>.symm
      obtain rfl : fn = Tryz.f4 := (Option.some.inj (Tryz.func4.symm.trans hfn)).symm
      exact ⟨by kernel_rfl, fun j t ht => by
        rw [Tryz.params4] at ht
        have hm := Array.mem_of_getElem? ht
        have hall : (Tryz.f4.params.toList.all fun u => !Tryz.prog.wantsStandIn u) = true := by kernel_rfl
        rw [Tryz.params4] at hall
        exact (show Tryz.prog.wantsStandIn t = false by simpa using List.all_eq_true.1 hall t (by simpa using hm))⟩)
    (by kernel_rfl)
end Go.Proofs.YtiaflghhfcnjlaaGreatDoor
