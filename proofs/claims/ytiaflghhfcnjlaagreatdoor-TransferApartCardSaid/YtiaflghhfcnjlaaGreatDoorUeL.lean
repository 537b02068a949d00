/- The law TransferApart: what goes over one channel changes nothing in escrow of another one, nor what came over it: for every input, the tables being as the program's text lays them. -/
import Derived.Test.YtiaflghhfcnjlaaGreatDoorHT
import Derived.Test.YtiaflghhfcnjlaaGreatDoorUe
namespace Go.Proofs.YtiaflghhfcnjlaaGreatDoor
open Go.ChangeShapes Go.WideShapes Go.ChangeAt Go.WideMaps Go.WideElems Go.RowKit
set_option maxRecDepth 100000 in
theorem l17apart_lifted (os : Os) (started : os.Started) (H : Type) (enc : TypeId × Value → H) :
    ReturnsInHanded {} Tryz.checked os 3 .any (fun w args => (Rows.transferApartSpec.pre enc Tryz.prog Tryz.f3 [] false w args ∧ laidMetH Tryz.prog laidT w) ∧ sizedMet enc Tryz.prog Tryz.f3 (OpenSpec.ofChange Rows.transferApartSpec) false w args) (Rows.transferApartSpec.post enc Tryz.prog Tryz.f3 false true false false) := by
  refine law_sh (C := Tryz.checked) (X := fun w _ => laidMetH Tryz.prog laidT w) (tb := 4) (fun _ _ _ hh h => h.of_heap hh) (by kernel_rfl) started (by kernel_rfl) Tryz.func3
    (ChangeSpec.witness_shaped (enc := enc) (C := Tryz.checked) (os := os) (X := fun w _ => laidMetH Tryz.prog laidT w) false (tWorld os) #[.int .u64 0, .int .u64 0] 8 rfl (World.shaped_of_RefB (by kernel_rfl) (by kernel_rfl)) (by kernel_rfl) (by kernel_rfl) (by kernel_rfl) (door_met_t os _))
    (by kernel_rfl) (by kernel_rfl) (by kernel_rfl) Tryz.underlying4 rfl ?_ ?_
  · intro ds hd
    have hp : Tryz.f3.params.toList.length = 2 := by kernel_rfl
    rw [hp] at hd
    match ds, hd with
    | [d, d'], _ => rfl
  · intro W base args ds ps hval hA hS hL
    have hval' : ∀ (j : Nat) t v, Tryz.f3.params[j]? = some t → args[j]? = some v → Value.okWide Tryz.prog W .any base t v := hval
    have hA' : DataW.TrodAll enc Tryz.prog W 0 (fun _ => true) true Tryz.f3.params.toList args.toList ds ps := hA
    rw [Tryz.params3] at hA' hval'
    obtain ⟨v0, v1, d0, d1, p0, p1, rfl, rfl, rfl, h0, h1⟩ := trodAll_two hA'
    obtain ⟨n0, rfl, _⟩ := open_int Tryz.underlying22 (hval' 0 22 v0 rfl rfl) h0
    obtain ⟨n1, rfl, _⟩ := open_int Tryz.underlying22 (hval' 1 22 v1 rfl rfl) h1
    exact l17apart_any n0 n1 W
theorem TransferApart_row : Rows.TransferApartSaid :=
  OpenClaim.holds_of_wide 3 Tryz.f3 rfl rfl rfl rfl rfl rfl rfl ⟨rfl, rfl, rfl, rfl, rfl⟩ rfl rfl rfl rfl rfl (by kernel_rfl) Tryz.func3 (by kernel_rfl)
    (of_decide_eq_true (by kernel_rfl)) (by unfold Func.isWrapper; first | (rw [if_pos (by decide +kernel)]; kernel_rfl) | (rw [if_neg (by decide +kernel)]; exact ⟨rfl, rfl⟩))
    (fun os started H enc _ => l17apart_lifted os started H enc)
theorem TransferApart_holds : Rows.TransferApartCardSaid :=
  Claim7.holds_tied_plain_at .later [] [.data, .pinned] true (true, "8b2e7b77f71401b8ab2faa7cb31051381d295518914a6249bc53950ba00a62fd") false
    TransferApart_row (fun _ h => by cases h) (by kernel_rfl) (fun _ h => by cases h) transferApart_row_tie rfl ⟨rfl, rfl⟩ (by kernel_rfl) rfl
    (fun f fn hf hfn => by
      obtain rfl : f = 3 := Option.some.inj ((show Tryz.prog.funcNamed "twinspan/twinspanlaw17.TransferApart" = some 3 by kernel_rfl).symm.trans hf) |>.symm
      obtain rfl : fn = Tryz.f3 := (Option.some.inj (Tryz.func3.symm.trans hfn)).symm
      exact ⟨by kernel_rfl, fun j t ht => by
        rw [Tryz.params3] at ht
        have hm := Array.mem_of_getElem? ht
        have hall : (Tryz.f3.params.toList.all fun u => !Tryz.prog.wantsStandIn u) = true := by kernel_rfl
        rw [Tryz.params3] at hall
        exact (show Tryz.prog.wantsStandIn t = false by simpa using List.all_eq_true.1 hall t (by simpa using hm))⟩)
    (by kernel_rfl)
end Go.Proofs.YtiaflghhfcnjlaaGreatDoor
