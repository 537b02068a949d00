/- The law PacketReads: any bytes are read as a packet, or refused: for every input, the tables being as the program's text lays them. -/
import Derived.Test.YtbimnfmjgmfijaaDoorHT
import Derived.Test.YtbimnfmjgmfijaaDoorM3
namespace Go.Proofs.YtbimnfmjgmfijaaDoor
open Go.ChangeShapes Go.WideShapes Go.ChangeAt Go.WideMaps Go.WideElems Go.RowKit
set_option maxRecDepth 100000 in
theorem l13reads_lifted (os : Os) (started : os.Started) (H : Type) (enc : TypeId × Value → H) :
    ReturnsInHanded {} Tryd.checked os 3 .any (fun w args => (Rows.packetReadsSpec.pre enc Tryd.prog Tryd.f3 [] false w args ∧ laidMetH Tryd.prog laidT w) ∧ sizedMet enc Tryd.prog Tryd.f3 (OpenSpec.ofChange Rows.packetReadsSpec) false w args) (Rows.packetReadsSpec.post enc Tryd.prog Tryd.f3 false true false false) := by
  refine law_sh (C := Tryd.checked) (X := fun w _ => laidMetH Tryd.prog laidT w) (tb := 4) (fun _ _ _ hh h => h.of_heap hh) (by kernel_rfl) started (by kernel_rfl) Tryd.func3
    (ChangeSpec.witness_shaped (enc := enc) (C := Tryd.checked) (os := os) (X := fun w _ => laidMetH Tryd.prog laidT w) false (tWorld os) #[.string ⟨#[]⟩] 8 rfl (World.shaped_of_RefB (by kernel_rfl) (by kernel_rfl)) (by kernel_rfl) (by kernel_rfl) (by kernel_rfl) (door_met_t os _))
    (by kernel_rfl) (by kernel_rfl) (by kernel_rfl) Tryd.underlying4 rfl ?_ ?_
  · intro ds hd
    have hp : Tryd.f3.params.toList.length = 1 := by kernel_rfl
    rw [hp] at hd
    match ds, hd with
    | [d], _ => rfl
  · intro W base args ds ps hval hA hS hL
    have hval' : ∀ (j : Nat) t v, Tryd.f3.params[j]? = some t → args[j]? = some v → Value.okWide Tryd.prog W .any base t v := hval
    have hA' : DataW.TrodAll enc Tryd.prog W 0 (fun _ => true) true Tryd.f3.params.toList args.toList ds ps := hA
    rw [Tryd.params3] at hA' hval'
    obtain ⟨v0, d0, rfl, rfl, h0⟩ := trodAll_one hA'
    obtain ⟨s0, rfl, _⟩ := ChangeMaps.open_string Tryd.underlying9 (hval' 0 9 v0 rfl rfl) h0
    exact l13reads_any s0 W
theorem PacketReads_row : Rows.PacketReadsSaid :=
  OpenClaim.holds_of_wide 3 Tryd.f3 rfl rfl rfl rfl rfl rfl rfl ⟨rfl, rfl, rfl, rfl, rfl⟩ rfl rfl rfl rfl rfl (by kernel_rfl) Tryd.func3 (by kernel_rfl)
    (of_decide_eq_true (by kernel_rfl)) (by unfold Func.isWrapper; first | (rw [if_pos (by decide +kernel)]; kernel_rfl) | (rw [if_neg (by decide +kernel)]; exact ⟨rfl, rfl⟩))
    (fun os started H enc _ => l13reads_lifted os started H enc)
theorem PacketReads_holds : Rows.PacketReadsCardSaid :=
  Claim7.holds_tied_plain_at .later [] [.data, .pinned] true (true, "eb9a87301a51e22a44faada3b697389bc4978e58463692ed7ac9c947f4e08816") false
    PacketReads_row (fun _ h => by cases h) (by kernel_rfl) (fun _ h => by cases h) packetReads_row_tie rfl ⟨rfl, rfl⟩ (by kernel_rfl) rfl
    (fun f fn hf hfn => by
      obtain rfl : f = 3 := Option.some.inj ((show Tryd.prog.funcNamed "twinspan/twinspanlaw13.PacketReads" = some 3 by kernel_rfl).symm.trans hf) |>.symm
      obtain rfl : fn = Tryd.f3 := (Option.some.inj (Tryd.func3.symm.trans hfn)).symm
      exact ⟨by kernel_rfl, fun j t ht => by
        rw [Tryd.params3] at ht
        have hm := Array.mem_of_getElem? ht
        have hall : (Tryd.f3.params.toList.all fun u => !Tryd.prog.wantsStandIn u) = true := by kernel_rfl
        rw [Tryd.params3] at hall
        exact (show Tryd.prog.wantsStandIn t = false by simpa using List.all_eq_true.1 hall t (by simpa using hm))⟩)
    (by kernel_rfl)
end Go.Proofs.YtbimnfmjgmfijaaDoor
