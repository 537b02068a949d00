/- The law HashOrder: hashes are put in order: of two one is less, or they are the same; of three the order goes on: for every input, the tables being as the program's text lays them. -/
import Derived.Test.YtidceockbjeaoaaDoorHK
import Derived.Test.YtidceockbjeaoaaDoorHOrder
namespace Go.Proofs.YtidceockbjeaoaaDoor
open Go.ChangeShapes Go.WideShapes Go.ChangeAt Go.WideMaps Go.WideElems Go.RowKit
theorem open_hash {H : Type} {enc : TypeId × Value → H} {W : World} {base : Nat} {sp : Nat → Bool} {hd : Bool} {v : Value} {d : DataW H} {p : List MemPlace} (hv : Value.okWide Tryd.prog W .any base 26 v) (h : DataW.Trod enc Tryd.prog W 0 sp hd 26 v d p) : ∃ L, IsH L ∧ v = .agg (U8s L).toArray := by
  obtain ⟨zs, hl, rfl, hw⟩ := open_ints_array (n := 32) Tryd.underlying26 Tryd.underlying5 (by kernel_rfl) (by kernel_rfl) hv h
  have hz : ∀ z ∈ zs, 0 ≤ z ∧ z < 256 := fun z hz => by
    have := hw z hz
    have e1 : IntKind.u8.min = 0 := rfl
    have e2 : IntKind.u8.max = 255 := rfl
    simp [Lit.wf] at this
    omega
  refine ⟨zs.map Int.toNat, ⟨by rw [List.length_map]; exact hl, fun b hb => ?_⟩, ?_⟩
  · simp only [List.mem_map] at hb
    obtain ⟨z, hz', rfl⟩ := hb
    have := hz z hz'
    omega
  · congr 2
    unfold U8s
    rw [List.map_map]
    refine List.map_congr_left fun z hz' => ?_
    show Value.int .u8 z = Value.int .u8 ((z.toNat : Nat) : Int)
    rw [Int.toNat_of_nonneg (hz z hz').1]
set_option maxRecDepth 100000 in
theorem horder_lifted (os : Os) (started : os.Started) (H : Type) (enc : TypeId × Value → H) :
    ReturnsInHanded {} Tryd.checked os 4 .any (fun w args => (Rows.hashOrderSpec.pre enc Tryd.prog Tryd.f4 [] false w args ∧ laidMetH Tryd.prog laidL w) ∧ sizedMet enc Tryd.prog Tryd.f4 (OpenSpec.ofChange Rows.hashOrderSpec) false w args) (Rows.hashOrderSpec.post enc Tryd.prog Tryd.f4 false true false false) := by
  refine law_tabs (C := Tryd.checked) (X := fun w _ => laidMetH Tryd.prog laidL w) (tb := 4) (fun _ _ _ hh h => h.of_heap hh) (by kernel_rfl) started (by kernel_rfl) Tryd.func4
    (ChangeSpec.witness_shaped (enc := enc) (C := Tryd.checked) (os := os) (X := fun w _ => laidMetH Tryd.prog laidL w) false (World.doorLaid Tryd.prog 400 os) #[.agg (U8s z32).toArray, .agg (U8s z32).toArray, .agg (U8s z32).toArray] 8 rfl (World.shaped_of_RefB (by kernel_rfl) (by kernel_rfl)) (by kernel_rfl) (by kernel_rfl) (by kernel_rfl) (door_met os _))
    (by kernel_rfl) (by kernel_rfl) (by kernel_rfl) Tryd.underlying4 rfl ?_ ?_
  · intro ds hd
    have hp : Tryd.f4.params.toList.length = 3 := by kernel_rfl
    rw [hp] at hd
    match ds, hd with
    | [d, d', d''], _ => rfl
  · intro W base args ds ps hval hA hL
    have hval' : ∀ (j : Nat) t v, Tryd.f4.params[j]? = some t → args[j]? = some v → Value.okWide Tryd.prog W .any base t v := hval
    have hA' : DataW.TrodAll enc Tryd.prog W 0 (fun _ => true) true Tryd.f4.params.toList args.toList ds ps := hA
    rw [Tryd.params4] at hA' hval'
    obtain ⟨v0, v1, v2, d0, d1, d2, p0, p1, p2, rfl, rfl, rfl, h0, h1, h2⟩ := trodAll_three hA'
    obtain ⟨l0, i0, rfl⟩ := open_hash (hval' 0 26 v0 rfl rfl) h0
    obtain ⟨l1, i1, rfl⟩ := open_hash (hval' 1 26 v1 rfl rfl) h1
    obtain ⟨l2, i2, rfl⟩ := open_hash (hval' 2 26 v2 rfl rfl) h2
    exact horder_any l0 l1 l2 i0 i1 i2 W (tabs_of_laid hL)
theorem HashOrder_row : Rows.HashOrderSaid :=
  OpenClaim.holds_of_wide 4 Tryd.f4 rfl rfl rfl rfl rfl rfl rfl ⟨rfl, rfl, rfl, rfl, rfl⟩ rfl rfl rfl rfl rfl (by kernel_rfl) Tryd.func4 (by kernel_rfl)
    (of_decide_eq_true (by kernel_rfl)) (by unfold Func.isWrapper; first | (rw [if_pos (by decide +kernel)]; kernel_rfl) | (rw [if_neg (by decide +kernel)]; exact ⟨rfl, rfl⟩))
    (fun os started H enc _ => horder_lifted os started H enc)
theorem HashOrder_holds : Rows.HashOrderCardSaid :=
  Claim7.holds_tied_plain_at .later [] [.data, .data] true (true, "501b5050b26b6d92cfbaeb4591e378e8cc20689ba323ebdc1fc9ba653ff3d2ad") false
    HashOrder_row (fun _ h => by cases h) (by kernel_rfl) (fun _ h => by cases h) hashOrder_row_tie rfl ⟨rfl, rfl⟩ (by kernel_rfl) rfl
    (fun f fn hf hfn => by
      obtain rfl : f = 4 := Option.some.inj ((show Tryd.prog.funcNamed "twinspan/twinspanlaw02.HashOrder" = some 4 by kernel_rfl).symm.trans hf) |>.symm
      obtain rfl : fn = Tryd.f4 := (Option.some.inj (Tryd.func4.symm.trans hfn)).symm
      exact ⟨by kernel_rfl, fun j t ht => by
        rw [Tryd.params4] at ht
        have hm := Array.mem_of_getElem? ht
        have hall : (Tryd.f4.params.toList.all fun u => !Tryd.prog.wantsStandIn u) = true := by kernel_rfl
        rw [Tryd.params4] at hall
        exact (show Tryd.prog.wantsStandIn t = false by simpa using List.all_eq_true.1 hall t (by simpa using hm))⟩)
    (by kernel_rfl)
end Go.Proofs.YtidceockbjeaoaaDoor
