/- The law SealPieces: a sealer seals texts as they stand put together, again and again: for every input, the tables being as the program's text lays them. -/
import Derived.Test.YtidceockbjeaoaaDoorHK
import Derived.Test.YtidceockbjeaoaaDoorSPieces
import Derived.Test.YtidceockbjeaoaaDoorHOrderL
import Derived.SliceStrings
namespace Go.Proofs.YtidceockbjeaoaaDoor
open Go.ChangeShapes Go.WideShapes Go.ChangeAt Go.WideMaps Go.WideElems Go.RowKit
theorem open_strs {H : Type} {enc : TypeId × Value → H} {W : World} {base : Nat} {sp : Nat → Bool} {hd : Bool} {v : Value} {d : DataW H} {p : List MemPlace} (hv : Value.okWide Tryd.prog W .any base 33 v) (h : DataW.Trod enc Tryd.prog W 0 sp hd 33 v d p) :
    ∃ L, Strs W v L ∧ L.length ≤ 9223372036854775807 := by
  obtain ⟨a, len, cap, rfl⟩ := okWide_slice Tryd.underlying33 hv
  obtain ⟨fuel, hf⟩ := h
  rcases open_strings Tryd.underlying33 Tryd.underlying9 (by kernel_rfl) hf with ⟨h0, _⟩ | ⟨a', len', cap', ss, hcs, _, hl, hm, hz, _, hcell, _⟩
  · simp [Value.cells] at h0
    obtain ⟨rfl, rfl, rfl⟩ := h0
    exact ⟨[], ⟨none, 0, rfl, fun h => by simp at h⟩, by decide⟩
  · simp [Value.cells] at hcs
    obtain ⟨rfl, rfl, rfl⟩ := hcs
    have hm' : cap ≤ 9223372036854775807 := hm
    have hss : len ≤ ss.length := by rw [hz]; split <;> omega
    refine ⟨ss.take len, ⟨some a', cap, by rw [List.length_take, Nat.min_eq_left hss], fun h0 => ?_⟩, by rw [List.length_take]; omega⟩
    rw [List.length_take, Nat.min_eq_left hss] at h0
    have h00 := hcell 0 (by omega)
    have hspot : a'.spot = none := by
      simp [Addr.add, World.cell?] at h00
      split at h00
      · split at h00
        · cases h00
        · rename_i hq; simpa using hq
      · cases h00
    obtain ⟨g, off, spot⟩ := a'
    simp at hspot
    subst hspot
    have eadd : ∀ j, (⟨g, off, none⟩ : Addr).add j = ⟨g, off + j, none⟩ := fun j => by unfold Addr.add; split <;> simp_all
    refine ⟨g, off, rfl, fun i hi => ?_⟩
    rw [List.length_take] at hi
    have h5 := hcell i (by omega)
    rw [eadd] at h5
    rw [h5, List.getElem_take, List.getD_eq_getElem?_getD, List.getElem?_eq_getElem (by omega)]
    rfl
set_option maxRecDepth 100000 in
theorem l3pieces_lifted (os : Os) (started : os.Started) (H : Type) (enc : TypeId × Value → H) :
    ReturnsInHanded {} Tryd.checked os 10 .any (fun w args => (Rows.sealPiecesSpec.pre enc Tryd.prog Tryd.f10 [] false w args ∧ laidMetH Tryd.prog laidL w) ∧ sizedMet enc Tryd.prog Tryd.f10 (OpenSpec.ofChange Rows.sealPiecesSpec) false w args) (Rows.sealPiecesSpec.post enc Tryd.prog Tryd.f10 false true false false) := by
  refine law_tabs (C := Tryd.checked) (X := fun w _ => laidMetH Tryd.prog laidL w) (tb := 4) (fun _ _ _ hh h => h.of_heap hh) (by kernel_rfl) started (by kernel_rfl) Tryd.func10
    (ChangeSpec.witness_shaped (enc := enc) (C := Tryd.checked) (os := os) (X := fun w _ => laidMetH Tryd.prog laidL w) false (World.doorLaid Tryd.prog 400 os) #[.string ⟨#[]⟩, .slice none 0 0, .agg (U8s z32).toArray] 8 rfl (World.shaped_of_RefB (by kernel_rfl) (by kernel_rfl)) (by kernel_rfl) (by kernel_rfl) (by kernel_rfl) (door_met os _))
    (by kernel_rfl) (by kernel_rfl) (by kernel_rfl) Tryd.underlying4 rfl ?_ ?_
  · intro ds hd
    have hp : Tryd.f10.params.toList.length = 3 := by kernel_rfl
    rw [hp] at hd
    match ds, hd with
    | [d, d', d''], _ => rfl
  · intro W base args ds ps hval hA hL
    have hval' : ∀ (j : Nat) t v, Tryd.f10.params[j]? = some t → args[j]? = some v → Value.okWide Tryd.prog W .any base t v := hval
    have hA' : DataW.TrodAll enc Tryd.prog W 0 (fun _ => true) true Tryd.f10.params.toList args.toList ds ps := hA
    rw [Tryd.params10] at hA' hval'
    obtain ⟨v0, v1, v2, d0, d1, d2, p0, p1, p2, rfl, rfl, rfl, h0, h1, h2⟩ := trodAll_three hA'
    obtain ⟨s0, rfl, _⟩ := ChangeMaps.open_string Tryd.underlying9 (hval' 0 9 v0 rfl rfl) h0
    obtain ⟨L1, hs1, hl1⟩ := open_strs (hval' 1 33 v1 rfl rfl) h1
    obtain ⟨l2, i2, rfl⟩ := open_hash (hval' 2 26 v2 rfl rfl) h2
    exact l3pieces_any s0 v1 L1 l2 i2 W (Lib.hid hs1) hl1 (tabs_of_laid hL)
theorem SealPieces_row : Rows.SealPiecesSaid :=
  OpenClaim.holds_of_wide 10 Tryd.f10 rfl rfl rfl rfl rfl rfl rfl ⟨rfl, rfl, rfl, rfl, rfl⟩ rfl rfl rfl rfl rfl (by kernel_rfl) Tryd.func10 (by kernel_rfl)
    (of_decide_eq_true (by kernel_rfl)) (by unfold Func.isWrapper; first | (rw [if_pos (by decide +kernel)]; kernel_rfl) | (rw [if_neg (by decide +kernel)]; exact ⟨rfl, rfl⟩))
    (fun os started H enc _ => l3pieces_lifted os started H enc)
theorem SealPieces_holds : Rows.SealPiecesCardSaid :=
  Claim7.holds_tied_plain_at .later [] [.data, .data] true (true, "501b5050b26b6d92cfbaeb4591e378e8cc20689ba323ebdc1fc9ba653ff3d2ad") false
    SealPieces_row (fun _ h => by cases h) (by kernel_rfl) (fun _ h => by cases h) sealPieces_row_tie rfl ⟨rfl, rfl⟩ (by kernel_rfl) rfl
    (fun f fn hf hfn => by
      obtain rfl : f = 10 := Option.some.inj ((show Tryd.prog.funcNamed "twinspan/twinspanlaw03.SealPieces" = some 10 by kernel_rfl).symm.trans hf) |>.symm
      obtain rfl : fn = Tryd.f10 := (Option.some.inj (Tryd.func10.symm.trans hfn)).symm
      exact ⟨by kernel_rfl, fun j t ht => by
        rw [Tryd.params10] at ht
        have hm := Array.mem_of_getElem? ht
        have hall : (Tryd.f10.params.toList.all fun u => !Tryd.prog.wantsStandIn u) = true := by kernel_rfl
        rw [Tryd.params10] at hall
        exact (show Tryd.prog.wantsStandIn t = false by simpa using List.all_eq_true.1 hall t (by simpa using hm))⟩)
    (by kernel_rfl)
end Go.Proofs.YtidceockbjeaoaaDoor
