/- The law TraceTells: what may be, and what a denomination is made of, is as the words say: for every input, the tables being as the program's text lays them. -/
import Derived.Test.YtkmdjnjpmhbhmaaDoorHT
import Derived.Test.YtkmdjnjpmhbhmaaDoorTte
import Derived.SliceStrings
namespace Go.Proofs.YtkmdjnjpmhbhmaaDoor
open Go.ChangeShapes Go.WideShapes Go.ChangeAt Go.WideMaps Go.WideElems Go.RowKit
set_option maxRecDepth 100000 in
theorem open_strs {H : Type} {enc : TypeId × Value → H} {W : World} {base : Nat} {sp : Nat → Bool} {hd : Bool} {v : Value} {d : DataW H} {p : List MemPlace} (hv : Value.okWide Tryd.prog W .any base 51 v) (h : DataW.Trod enc Tryd.prog W 0 sp hd 51 v d p) :
    ∃ L, Strs W v L ∧ L.length ≤ 9223372036854775807 := by
  obtain ⟨a, len, cap, rfl⟩ := okWide_slice Tryd.underlying51 hv
  obtain ⟨fuel, hf⟩ := h
  rcases open_strings Tryd.underlying51 Tryd.underlying9 (by kernel_rfl) hf with ⟨h0, _⟩ | ⟨a', len', cap', ss, hcs, _, hl, hm, hz, _, hcell, _⟩
  · simp [Value.cells] at h0
    obtain ⟨rfl, rfl, rfl⟩ := h0
    exact ⟨[], ⟨none, 0, rfl, fun h => by simp at h⟩, by decide⟩
  · simp [Value.cells] at hcs
    obtain ⟨rfl, rfl, rfl⟩ := hcs
    have hm' : cap ≤ 9223372036854775807 := hm
    have hss : len ≤ ss.length := by rw [hz]; split <;> omega
    refine ⟨ss.take len, ⟨some a', cap, by rw [List.length_take, Nat.min_eq_left hss], fun h0 => ?_⟩, by rw [List.length_take]; omega⟩
    rw [List.length_take, Nat.min_eq_left hss] at h0
    have h00 := hcell 0 (by omega)
    have hspot : a'.spot = none := by
      simp [Addr.add, World.cell?] at h00
      split at h00
      · split at h00
        · cases h00
        · rename_i hq; simpa using hq
      · cases h00
    obtain ⟨g, off, spot⟩ := a'
    simp at hspot
    subst hspot
    have eadd : ∀ j, (⟨g, off, none⟩ : Addr).add j = ⟨g, off + j, none⟩ := fun j => by unfold Addr.add; split <;> simp_all
    refine ⟨g, off, rfl, fun i hi => ?_⟩
    rw [List.length_take] at hi
    have h5 := hcell i (by omega)
    rw [eadd] at h5
    rw [h5, List.getElem_take, List.getD_eq_getElem?_getD, List.getElem?_eq_getElem (by omega)]
    rfl
set_option maxRecDepth 100000 in
theorem l12tells_lifted (os : Os) (started : os.Started) (H : Type) (enc : TypeId × Value → H) :
    ReturnsInHanded {} Tryd.checked os 12 .any (fun w args => (Rows.traceTellsSpec.pre enc Tryd.prog Tryd.f12 [] false w args ∧ laidMetH Tryd.prog laidT w) ∧ sizedMet enc Tryd.prog Tryd.f12 (OpenSpec.ofChange Rows.traceTellsSpec) false w args) (Rows.traceTellsSpec.post enc Tryd.prog Tryd.f12 false true false false) := by
  refine law_sh (C := Tryd.checked) (X := fun w _ => laidMetH Tryd.prog laidT w) (tb := 4) (fun _ _ _ hh h => h.of_heap hh) (by kernel_rfl) started (by kernel_rfl) Tryd.func12
    (ChangeSpec.witness_shaped (enc := enc) (C := Tryd.checked) (os := os) (X := fun w _ => laidMetH Tryd.prog laidT w) false (tWorld os) #[.string ⟨#[]⟩, .slice none 0 0] 8 rfl (World.shaped_of_RefB (by kernel_rfl) (by kernel_rfl)) (by kernel_rfl) (by kernel_rfl) (by kernel_rfl) (door_met_t os _))
    (by kernel_rfl) (by kernel_rfl) (by kernel_rfl) Tryd.underlying4 rfl ?_ ?_
  · intro ds hd
    have hp : Tryd.f12.params.toList.length = 2 := by kernel_rfl
    rw [hp] at hd
    match ds, hd with
    | [d, d'], _ => rfl
  · intro W base args ds ps hval hA hS hL
    have hval' : ∀ (j : Nat) t v, Tryd.f12.params[j]? = some t → args[j]? = some v → Value.okWide Tryd.prog W .any base t v := hval
    have hA' : DataW.TrodAll enc Tryd.prog W 0 (fun _ => true) true Tryd.f12.params.toList args.toList ds ps := hA
    rw [Tryd.params12] at hA' hval'
    obtain ⟨v0, v1, d0, d1, p0, p1, rfl, rfl, rfl, h0, h1⟩ := trodAll_two hA'
    obtain ⟨s0, rfl, _⟩ := ChangeMaps.open_string Tryd.underlying9 (hval' 0 9 v0 rfl rfl) h0
    obtain ⟨L1, hs1, hl1⟩ := open_strs (hval' 1 51 v1 rfl rfl) h1
    exact l12tells_any s0 v1 L1 _ W (Lib.hid hs1) hl1 (Classical.choose_spec (max_cell hS))
theorem TraceTells_row : Rows.TraceTellsSaid :=
  OpenClaim.holds_of_wide 12 Tryd.f12 rfl rfl rfl rfl rfl rfl rfl ⟨rfl, rfl, rfl, rfl, rfl⟩ rfl rfl rfl rfl rfl (by kernel_rfl) Tryd.func12 (by kernel_rfl)
    (of_decide_eq_true (by kernel_rfl)) (by unfold Func.isWrapper; first | (rw [if_pos (by decide +kernel)]; kernel_rfl) | (rw [if_neg (by decide +kernel)]; exact ⟨rfl, rfl⟩))
    (fun os started H enc _ => l12tells_lifted os started H enc)
theorem TraceTells_holds : Rows.TraceTellsCardSaid :=
  Claim7.holds_tied_plain_at .later [] [.data, .pinned] true (true, "86b015e4d663ec70a5513141228b4ba5f9bee36b5f9f61ef1c2752c599e6c347") false
    TraceTells_row (fun _ h => by cases h) (by kernel_rfl) (fun _ h => by cases h) traceTells_row_tie rfl ⟨rfl, rfl⟩ (by kernel_rfl) rfl
    (fun f fn hf hfn => by
      obtain rfl : f = 12 := Option.some.inj ((show Tryd.prog.funcNamed "twinspan/twinspanlaw12.TraceTells" = some 12 by kernel_rfl).symm.trans hf) |>.symm
      obtain rfl : fn = Tryd.f12 := (Option.some.inj (Tryd.func12.symm.trans hfn)).symm
      exact ⟨by kernel_rfl, fun j t ht => by
        rw [Tryd.params12] at ht
        have hm := Array.mem_of_getElem? ht
        have hall : (Tryd.f12.params.toList.all fun u => !Tryd.prog.wantsStandIn u) = true := by kernel_rfl
        rw [Tryd.params12] at hall
        exact (show Tryd.prog.wantsStandIn t = false by simpa using List.all_eq_true.1 hall t (by simpa using hm))⟩)
    (by kernel_rfl)
end Go.Proofs.YtkmdjnjpmhbhmaaDoor
