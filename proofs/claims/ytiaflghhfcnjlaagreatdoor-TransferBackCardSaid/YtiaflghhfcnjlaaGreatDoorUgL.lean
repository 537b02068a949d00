/- The law TransferBack: what is sent and given back leaves the map as it was: for every input, the tables being as the program's text lays them. -/
import Derived.Test.YtiaflghhfcnjlaaGreatDoorHT
import Derived.Test.YtiaflghhfcnjlaaGreatDoorUg
namespace Go.Proofs.YtiaflghhfcnjlaaGreatDoor
open Go.ChangeShapes Go.WideShapes Go.ChangeAt Go.WideMaps Go.WideElems Go.RowKit
set_option maxRecDepth 100000 in
theorem l17back_lifted (os : Os) (started : os.Started) (H : Type) (enc : TypeId × Value → H) :
    ReturnsInHanded {} Tryz.checked os 8 .any (fun w args => (Rows.transferBackSpec.pre enc Tryz.prog Tryz.f8 [] false w args ∧ laidMetH Tryz.prog laidT w) ∧ sizedMet enc Tryz.prog Tryz.f8 (OpenSpec.ofChange Rows.transferBackSpec) false w args) (Rows.transferBackSpec.post enc Tryz.prog Tryz.f8 false true false false) := by
  refine law_sh (C := Tryz.checked) (X := fun w _ => laidMetH Tryz.prog laidT w) (tb := 4) (fun _ _ _ hh h => h.of_heap hh) (by kernel_rfl) started (by kernel_rfl) Tryz.func8
    (ChangeSpec.witness_shaped (enc := enc) (C := Tryz.checked) (os := os) (X := fun w _ => laidMetH Tryz.prog laidT w) false (tWorld os) #[.slice none 0 0, .agg #[.int .i64 0, .string ⟨#[]⟩, .string ⟨#[]⟩, .string ⟨#[]⟩, .int .u64 0, .int .u64 0, .int .u64 0, .int .u64 0, .string ⟨#[]⟩, .string ⟨#[]⟩, .int .i64 0, .int .i64 0]] 8 rfl (World.shaped_of_RefB (by kernel_rfl) (by kernel_rfl)) (by kernel_rfl) (by kernel_rfl) (by kernel_rfl) (door_met_t os _))
    (by kernel_rfl) (by kernel_rfl) (by kernel_rfl) Tryz.underlying4 rfl ?_ ?_
  · intro ds hd
    have hp : Tryz.f8.params.toList.length = 2 := by kernel_rfl
    rw [hp] at hd
    match ds, hd with
    | [d, d'], _ => rfl
  · intro W base args ds ps hval hA hS hL
    have hval' : ∀ (j : Nat) t v, Tryz.f8.params[j]? = some t → args[j]? = some v → Value.okWide Tryz.prog W .any base t v := hval
    have hA' : DataW.TrodAll enc Tryz.prog W 0 (fun _ => true) true Tryz.f8.params.toList args.toList ds ps := hA
    rw [Tryz.params8] at hA' hval'
    obtain ⟨v0, v1, d0, d1, p0, p1, rfl, rfl, rfl, h0, h1⟩ := trodAll_two hA'
    obtain ⟨q0, cap0, L0, rfl, hL0, hop0⟩ := open_steps (hval' 0 45 v0 rfl rfl) h0
    obtain ⟨q1, hh1, t1, s1, k1, d1, f1, g1, n1, hn1, rfl⟩ := open_pkt17 (hval' 1 34 v1 rfl rfl) h1
    exact l17back_any q0 cap0 L0 q1 hh1 t1 s1 k1 d1 f1 g1 n1 hn1 W hL0 (Lib.hid hop0)
theorem TransferBack_row : Rows.TransferBackSaid :=
  OpenClaim.holds_of_wide 8 Tryz.f8 rfl rfl rfl rfl rfl rfl rfl ⟨rfl, rfl, rfl, rfl, rfl⟩ rfl rfl rfl rfl rfl (by kernel_rfl) Tryz.func8 (by kernel_rfl)
    (of_decide_eq_true (by kernel_rfl)) (by unfold Func.isWrapper; first | (rw [if_pos (by decide +kernel)]; kernel_rfl) | (rw [if_neg (by decide +kernel)]; exact ⟨rfl, rfl⟩))
    (fun os started H enc _ => l17back_lifted os started H enc)
theorem TransferBack_holds : Rows.TransferBackCardSaid :=
  Claim7.holds_tied_plain_at .later [] [.data, .pinned] true (true, "8b2e7b77f71401b8ab2faa7cb31051381d295518914a6249bc53950ba00a62fd") false
    TransferBack_row (fun _ h => by cases h) (by kernel_rfl) (fun _ h => by cases h) transferBack_row_tie rfl ⟨rfl, rfl⟩ (by kernel_rfl) rfl
    (fun f fn hf hfn => by
      obtain rfl : f = 8 := Option.some.inj ((show Tryz.prog.funcNamed "twinspan/twinspanlaw17.TransferBack" = some 8 by kernel_rfl).symm.trans hf) |>.symm
      obtain rfl : fn = Tryz.f8 := (Option.some.inj (Tryz.func8.symm.trans hfn)).symm
      exact ⟨by kernel_rfl, fun j t ht => by
        rw [Tryz.params8] at ht
        have hm := Array.mem_of_getElem? ht
        have hall : (Tryz.f8.params.toList.all fun u => !Tryz.prog.wantsStandIn u) = true := by kernel_rfl
        rw [Tryz.params8] at hall
        exact (show Tryz.prog.wantsStandIn t = false by simpa using List.all_eq_true.1 hall t (by simpa using hm))⟩)
    (by kernel_rfl)
end Go.Proofs.YtiaflghhfcnjlaaGreatDoor
