/- The frame of the packet laws that reach the hash: the four listed tables. -/
import Derived.Test.YtbimnfmjgmfijaaDoorHT
namespace Go.Proofs.YtbimnfmjgmfijaaDoor
open Go.ChangeShapes Go.WideShapes Go.ChangeAt Go.WideMaps Go.WideElems Go.RowKit
abbrev laidP : List (String × DataW Unit) := [("unicode/utf8.acceptRanges", Rows.laid_unicode_utf8_acceptRanges), ("twinspan/hash.factors", Rows.laid_twinspan_hash_factors), ("twinspan/hash.begin", Rows.laid_twinspan_hash_begin), ("unicode/utf8.first", Rows.laid_unicode_utf8_first)]
theorem door_met_p (os : Os) (args : Array Value) : laidMetH Tryd.prog laidP ((tWorld os).forCall (fun _ _ => 0) ⟨#[], args, []⟩).memory :=
  laidMetH_of_parts3 (fuel := 8) (laidMet_of_run' 8 (by kernel_rfl) (by kernel_rfl)) (by kernel_rfl) (by kernel_rfl)
theorem tabs_of_laidP {W : World} (h : laidMetH Tryd.prog laidP W) : Tabs W := by
  rw [MakeChecks.laidMetH_plain _ _ _ (by kernel_rfl)] at h
  obtain ⟨ps, ⟨ga, ta, csa, fa, pa, qa, _, _, _, _, ⟨g0, t0, cs0, f0, p0, q0, hg0, ht0, hv0, hd0, ⟨g1, t1, cs1, f1, p1, q1, hg1, ht1, hv1, hd1, _, _⟩, _⟩, _⟩, _, _⟩ := h
  obtain rfl := Option.some.inj (gFactors.symm.trans hg0)
  obtain rfl := Option.some.inj (gBegin.symm.trans hg1)
  obtain rfl := Option.some.inj (tFactors.symm.trans ht0)
  obtain rfl := Option.some.inj (tBegin.symm.trans ht1)
  have e46 : Tryd.prog.cellsOf 96 = 1 := by kernel_rfl
  have r0 := arr_u32 (ks := KK) Tryd.underlying109 Tryd.underlying96 e46 rfl hd0
  have r1 := arr_u32 (ks := BG) Tryd.underlying99 Tryd.underlying96 e46 rfl hd1
  constructor
  · intro i hi
    have := World.var?_cell hg1 hv1 i
    rw [this, ← Array.getElem?_toList]
    exact r1 i hi
  · intro i hi
    have := World.var?_cell hg0 hv0 i
    rw [this, ← Array.getElem?_toList]
    exact r0 i hi
end Go.Proofs.YtbimnfmjgmfijaaDoor
