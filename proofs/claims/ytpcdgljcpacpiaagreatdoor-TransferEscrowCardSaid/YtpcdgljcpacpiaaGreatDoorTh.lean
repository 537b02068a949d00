/- A slice of integers among a law's inputs. -/
import Derived.Test.YtpcdgljcpacpiaaGreatDoorMT
import Derived.ChangeSlices
namespace Go.Proofs.YtpcdgljcpacpiaaGreatDoor
open Go.ChangeShapes Go.WideShapes Go.ChangeAt Go.WideMaps Go.WideElems Go.RowKit
def Ints (w : World) (v : Value) (L : List Int) : Prop := ∃ p cap, v = .slice p L.length cap ∧ (0 < L.length → ∃ g off, p = some ⟨g, off, none⟩ ∧ ∀ i (hi : i < L.length), w.cell? ⟨g, off + i, none⟩ = some (.int .i64 L[i]))
theorem Ints.on {w w' : World} {v : Value} {L : List Int} (h : Ints w v L) (hb : Below w.heap.size w w') : Ints w' v L := by
  obtain ⟨p, cap, rfl, h⟩ := h
  refine ⟨p, cap, rfl, fun h0 => ?_⟩
  obtain ⟨g, off, rfl, hc⟩ := h h0
  exact ⟨g, off, rfl, fun i hi => BW_cell hb (hc i hi)⟩
set_option maxRecDepth 100000 in
theorem open_rint {H : Type} {enc : TypeId × Value → H} {W : World} {base : Nat} {sp : Nat → Bool} {hd : Bool} {v : Value} {d : DataW H} {p : List MemPlace} (hv : Value.okWide Tryz.prog W .any base 49 v) (h : DataW.Trod enc Tryz.prog W 0 sp hd 49 v d p) :
    ∃ L, Ints W v L ∧ L.length ≤ 9223372036854775807 := by
  obtain ⟨a, len, cap, rfl⟩ := okWide_slice Tryz.underlying49 hv
  obtain ⟨fuel, hf⟩ := h
  rcases open_ints Tryz.underlying49 Tryz.underlying3 (by kernel_rfl) hf with ⟨h0, _⟩ | ⟨a', len', cap', ss, hcs, _, hl, hm, hz, _, hcell, _⟩
  · simp [Value.cells] at h0
    obtain ⟨rfl, rfl, rfl⟩ := h0
    exact ⟨[], ⟨none, 0, rfl, fun h => by simp at h⟩, by decide⟩
  · simp [Value.cells] at hcs
    obtain ⟨rfl, rfl, rfl⟩ := hcs
    have hm' : cap ≤ 9223372036854775807 := hm
    have hss : len ≤ ss.length := by rw [hz]; split <;> omega
    refine ⟨ss.take len, ⟨some a', cap, by rw [List.length_take, Nat.min_eq_left hss], fun h0 => ?_⟩, by rw [List.length_take]; omega⟩
    rw [List.length_take, Nat.min_eq_left hss] at h0
    have h00 := hcell 0 (by omega)
    have hspot : a'.spot = none := by
      simp [Addr.add, World.cell?] at h00
      split at h00
      · split at h00
        · cases h00
        · rename_i hq; simpa using hq
      · cases h00
    obtain ⟨g, off, spot⟩ := a'
    simp at hspot
    subst hspot
    have eadd : ∀ j, (⟨g, off, none⟩ : Addr).add j = ⟨g, off + j, none⟩ := fun j => by unfold Addr.add; split <;> simp_all
    refine ⟨g, off, rfl, fun i hi => ?_⟩
    rw [List.length_take] at hi
    have h5 := hcell i (by omega)
    rw [eadd] at h5
    rw [h5, List.getElem_take, List.getD_eq_getElem?_getD, List.getElem?_eq_getElem (by omega)]
    rfl
end Go.Proofs.YtpcdgljcpacpiaaGreatDoor
