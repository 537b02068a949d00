/- The law TransferRound: what goes over a channel, and comes home, leaves both sides as they were; and what is away is in escrow: for every input, the tables being as the program's text lays them. -/
import Derived.Test.YtpcdgljcpacpiaaGreatDoorHT
import Derived.Test.YtpcdgljcpacpiaaGreatDoorUj
namespace Go.Proofs.YtpcdgljcpacpiaaGreatDoor
open Go.ChangeShapes Go.WideShapes Go.ChangeAt Go.WideMaps Go.WideElems Go.RowKit
set_option maxRecDepth 100000 in
theorem l17round_lifted (os : Os) (started : os.Started) (H : Type) (enc : TypeId × Value → H) :
    ReturnsInHanded {} Tryz.checked os 5 .any (fun w args => (Rows.transferRoundSpec.pre enc Tryz.prog Tryz.f5 [] false w args ∧ laidMetH Tryz.prog laidT w) ∧ sizedMet enc Tryz.prog Tryz.f5 (OpenSpec.ofChange Rows.transferRoundSpec) false w args) (Rows.transferRoundSpec.post enc Tryz.prog Tryz.f5 false true false false) := by
  refine law_sh (C := Tryz.checked) (X := fun w _ => laidMetH Tryz.prog laidT w) (tb := 4) (fun _ _ _ hh h => h.of_heap hh) (by kernel_rfl) started (by kernel_rfl) Tryz.func5
    (ChangeSpec.witness_shaped (enc := enc) (C := Tryz.checked) (os := os) (X := fun w _ => laidMetH Tryz.prog laidT w) false (tWorld os) #[.int .u64 0, .bool false, .string ⟨#[]⟩] 8 rfl (World.shaped_of_RefB (by kernel_rfl) (by kernel_rfl)) (by kernel_rfl) (by kernel_rfl) (by kernel_rfl) (door_met_t os _))
    (by kernel_rfl) (by kernel_rfl) (by kernel_rfl) Tryz.underlying4 rfl ?_ ?_
  · intro ds hd
    have hp : Tryz.f5.params.toList.length = 3 := by kernel_rfl
    rw [hp] at hd
    match ds, hd with
    | [d, d', d''], _ => rfl
  · intro W base args ds ps hval hA hS hL
    have hval' : ∀ (j : Nat) t v, Tryz.f5.params[j]? = some t → args[j]? = some v → Value.okWide Tryz.prog W .any base t v := hval
    have hA' : DataW.TrodAll enc Tryz.prog W 0 (fun _ => true) true Tryz.f5.params.toList args.toList ds ps := hA
    rw [Tryz.params5] at hA' hval'
    obtain ⟨v0, v1, v2, d0, d1, d2, p0, p1, p2, rfl, rfl, rfl, h0, h1, h2⟩ := trodAll_three hA'
    obtain ⟨n0, rfl, _⟩ := open_int Tryz.underlying29 (hval' 0 29 v0 rfl rfl) h0
    obtain ⟨b1, rfl, _⟩ := open_bool Tryz.underlying4 (hval' 1 4 v1 rfl rfl) h1
    obtain ⟨s2, rfl, _⟩ := ChangeMaps.open_string Tryz.underlying9 (hval' 2 9 v2 rfl rfl) h2
    exact l17round_any n0 b1 s2 W
theorem TransferRound_row : Rows.TransferRoundSaid :=
  OpenClaim.holds_of_wide 5 Tryz.f5 rfl rfl rfl rfl rfl rfl rfl ⟨rfl, rfl, rfl, rfl, rfl⟩ rfl rfl rfl rfl rfl (by kernel_rfl) Tryz.func5 (by kernel_rfl)
    (of_decide_eq_true (by kernel_rfl)) (by unfold Func.isWrapper; first | (rw [if_pos (by decide +kernel)]; kernel_rfl) | (rw [if_neg (by decide +kernel)]; exact ⟨rfl, rfl⟩))
    (fun os started H enc _ => l17round_lifted os started H enc)
theorem TransferRound_holds : Rows.TransferRoundCardSaid :=
  Claim7.holds_tied_plain_at .later [] [.data, .pinned] true (true, "051539f8220598a69dea5424f1009a52ed34c660ff847ef111e52911038b993f") false
    TransferRound_row (fun _ h => by cases h) (by kernel_rfl) (fun _ h => by cases h) transferRound_row_tie rfl ⟨rfl, rfl⟩ (by kernel_rfl) rfl
    (fun f fn hf hfn => by
      obtain rfl : f = 5 := Option.some.inj ((show Tryz.prog.funcNamed "twinspan/twinspanlaw17.TransferRound" = some 5 by kernel_rfl).symm.trans hf) |>.symm
      obtain rfl : fn = Tryz.f5 := (Option.some.inj (Tryz.func5.symm.trans hfn)).symm
      exact ⟨by kernel_rfl, fun j t ht => by
        rw [Tryz.params5] at ht
        have hm := Array.mem_of_getElem? ht
        have hall : (Tryz.f5.params.toList.all fun u => !Tryz.prog.wantsStandIn u) = true := by kernel_rfl
        rw [Tryz.params5] at hall
        exact (show Tryz.prog.wantsStandIn t = false by simpa using List.all_eq_true.1 hall t (by simpa using hm))⟩)
    (by kernel_rfl)
end Go.Proofs.YtpcdgljcpacpiaaGreatDoor
