/- The law TransferEscrow: what is in escrow of a channel is just what went over it, less what came home, and was given back: for every input, the tables being as the program's text lays them. -/
import Derived.Test.YtpcdgljcpacpiaaGreatDoorHT
import Derived.Test.YtpcdgljcpacpiaaGreatDoorUl
namespace Go.Proofs.YtpcdgljcpacpiaaGreatDoor
open Go.ChangeShapes Go.WideShapes Go.ChangeAt Go.WideMaps Go.WideElems Go.RowKit
set_option maxRecDepth 100000 in
theorem l17escrow_lifted (os : Os) (started : os.Started) (H : Type) (enc : TypeId × Value → H) :
    ReturnsInHanded {} Tryz.checked os 4 .any (fun w args => (Rows.transferEscrowSpec.pre enc Tryz.prog Tryz.f4 [] false w args ∧ laidMetH Tryz.prog laidT w) ∧ sizedMet enc Tryz.prog Tryz.f4 (OpenSpec.ofChange Rows.transferEscrowSpec) false w args) (Rows.transferEscrowSpec.post enc Tryz.prog Tryz.f4 false true false false) := by
  refine law_sh (C := Tryz.checked) (X := fun w _ => laidMetH Tryz.prog laidT w) (tb := 4) (fun _ _ _ hh h => h.of_heap hh) (by kernel_rfl) started (by kernel_rfl) Tryz.func4
    (ChangeSpec.witness_shaped (enc := enc) (C := Tryz.checked) (os := os) (X := fun w _ => laidMetH Tryz.prog laidT w) false (tWorld os) #[.slice none 0 0, .slice none 0 0] 8 rfl (World.shaped_of_RefB (by kernel_rfl) (by kernel_rfl)) (by kernel_rfl) (by kernel_rfl) (by kernel_rfl) (door_met_t os _))
    (by kernel_rfl) (by kernel_rfl) (by kernel_rfl) Tryz.underlying4 rfl ?_ ?_
  · intro ds hd
    have hp : Tryz.f4.params.toList.length = 2 := by kernel_rfl
    rw [hp] at hd
    match ds, hd with
    | [d, d'], _ => rfl
  · intro W base args ds ps hval hA hS hL
    have hval' : ∀ (j : Nat) t v, Tryz.f4.params[j]? = some t → args[j]? = some v → Value.okWide Tryz.prog W .any base t v := hval
    have hA' : DataW.TrodAll enc Tryz.prog W 0 (fun _ => true) true Tryz.f4.params.toList args.toList ds ps := hA
    rw [Tryz.params4] at hA' hval'
    obtain ⟨v0, v1, d0, d1, p0, p1, rfl, rfl, rfl, h0, h1⟩ := trodAll_two hA'
    obtain ⟨L0, hs0, hl0⟩ := open_ru64 (hval' 0 48 v0 rfl rfl) h0
    obtain ⟨L1, hs1, hl1⟩ := open_rint (hval' 1 49 v1 rfl rfl) h1
    exact l17escrow_any v0 v1 L0 L1 W (Lib.hid hs0) (Lib.hid hs1) hl0 hl1
theorem TransferEscrow_row : Rows.TransferEscrowSaid :=
  OpenClaim.holds_of_wide 4 Tryz.f4 rfl rfl rfl rfl rfl rfl rfl ⟨rfl, rfl, rfl, rfl, rfl⟩ rfl rfl rfl rfl rfl (by kernel_rfl) Tryz.func4 (by kernel_rfl)
    (of_decide_eq_true (by kernel_rfl)) (by unfold Func.isWrapper; first | (rw [if_pos (by decide +kernel)]; kernel_rfl) | (rw [if_neg (by decide +kernel)]; exact ⟨rfl, rfl⟩))
    (fun os started H enc _ => l17escrow_lifted os started H enc)
theorem TransferEscrow_holds : Rows.TransferEscrowCardSaid :=
  Claim7.holds_tied_plain_at .later [] [.data, .pinned] true (true, "051539f8220598a69dea5424f1009a52ed34c660ff847ef111e52911038b993f") false
    TransferEscrow_row (fun _ h => by cases h) (by kernel_rfl) (fun _ h => by cases h) transferEscrow_row_tie rfl ⟨rfl, rfl⟩ (by kernel_rfl) rfl
    (fun f fn hf hfn => by
      obtain rfl : f = 4 := Option.some.inj ((show Tryz.prog.funcNamed "twinspan/twinspanlaw17.TransferEscrow" = some 4 by kernel_rfl).symm.trans hf) |>.symm
      obtain rfl : fn = Tryz.f4 := (Option.some.inj (Tryz.func4.symm.trans hfn)).symm
      exact ⟨by kernel_rfl, fun j t ht => by
        rw [Tryz.params4] at ht
        have hm := Array.mem_of_getElem? ht
        have hall : (Tryz.f4.params.toList.all fun u => !Tryz.prog.wantsStandIn u) = true := by kernel_rfl
        rw [Tryz.params4] at hall
        exact (show Tryz.prog.wantsStandIn t = false by simpa using List.all_eq_true.1 hall t (by simpa using hm))⟩)
    (by kernel_rfl)
end Go.Proofs.YtpcdgljcpacpiaaGreatDoor
