/- Rows of the bank laws' ops, opened. -/
import Derived.Test.YtpcdgljcpacpiaaGreatDoorBa
import Derived.Deep.Slices
import Derived.Laws.IdiomArrays
set_option maxRecDepth 20000
namespace Go.Proofs.YtpcdgljcpacpiaaGreatDoor
open Go.RowKit Go.ChangeShapes Go.WideShapes
structure Op11T where
  kd : Int
  f : ByteArray
  t : ByteArray
  d : ByteArray
  n : Nat
  raw : Bool
  sm : Bool
  hn : W256 n
def Op11T.cells (o : Op11T) : List Value := [.int .i64 o.kd, .string o.f, .string o.t, .string o.d, .int .u64 (limb o.n 0), .int .u64 (limb o.n 1), .int .u64 (limb o.n 2), .int .u64 (limb o.n 3), .bool o.raw, .bool o.sm]
theorem wide_cells {H : Type} {enc : TypeId × Value → H} {W : World} {base fuel : Nat} {sp : Nat → Bool} {hd : Bool} {cs : List Value} {x : DataW H × List MemPlace} (h : DataW.trod enc Tryz.prog W base sp hd fuel 31 cs = some x) :
    ∃ n : Nat, W256 n ∧ cs = [.int .u64 (limb n 0), .int .u64 (limb n 1), .int .u64 (limb n 2), .int .u64 (limb n 3)] := by
  obtain ⟨xs, m, _, _, hl, hlen, hg⟩ := DataW.trod_array Tryz.underlying31 h
  have hC : Tryz.prog.cellsOf 31 = 4 := by kernel_rfl
  have hE : Tryz.prog.cellsOf 29 = 1 := by kernel_rfl
  rw [hC] at hl
  match cs, hl with
  | [c0, c1, c2, c3], _ =>
    match xs, hlen with
    | [y0, y1, y2, y3], _ =>
      have h0 := hg 0 (by decide)
      have h1 := hg 1 (by decide)
      have h2 := hg 2 (by decide)
      have h3 := hg 3 (by decide)
      rw [hE] at h0 h1 h2 h3
      obtain ⟨z0, e0, _, w0⟩ := DataW.trod_int Tryz.underlying29 (show DataW.trod enc Tryz.prog W base sp hd m 29 [c0] = some y0 from h0)
      obtain ⟨z1, e1, _, w1⟩ := DataW.trod_int Tryz.underlying29 (show DataW.trod enc Tryz.prog W base sp hd m 29 [c1] = some y1 from h1)
      obtain ⟨z2, e2, _, w2⟩ := DataW.trod_int Tryz.underlying29 (show DataW.trod enc Tryz.prog W base sp hd m 29 [c2] = some y2 from h2)
      obtain ⟨z3, e3, _, w3⟩ := DataW.trod_int Tryz.underlying29 (show DataW.trod enc Tryz.prog W base sp hd m 29 [c3] = some y3 from h3)
      have wf : ∀ {z : Int}, (Lit.int .u64 z).wf = true → ∃ a : Nat, z = (a : Int) ∧ a < 18446744073709551616 := fun {z} h => by
        have h' : IntKind.u64.min ≤ z ∧ z ≤ IntKind.u64.max := by simpa [Lit.wf] using h
        have a1 : 0 ≤ z := h'.1
        have a2 : z ≤ 18446744073709551615 := h'.2
        exact ⟨z.toNat, by omega, by omega⟩
      obtain ⟨a0, rfl, l0⟩ := wf w0
      obtain ⟨a1, rfl, l1⟩ := wf w1
      obtain ⟨a2, rfl, l2⟩ := wf w2
      obtain ⟨a3, rfl, l3⟩ := wf w3
      obtain ⟨n, hn, q0, q1, q2, q3⟩ := limbs_exist a0 a1 a2 a3 l0 l1 l2 l3
      simp only [List.cons.injEq, and_true] at e0 e1 e2 e3
      exact ⟨n, hn, by rw [e0, e1, e2, e3, q0, q1, q2, q3]⟩
def Op11C (w : World) (g off : Nat) (L : List Op11T) : Prop := ∀ i (hi : i < L.length), ∀ j, j < 10 → w.cell? ⟨g, off + i * 10 + j, none⟩ = L[i].cells[j]?
theorem Op11C.on {w w' : World} {g off : Nat} {L : List Op11T} (h : Op11C w g off L) (hb : Below w.heap.size w w') : Op11C w' g off L := fun i hi j hj => by
  have h0 := h i hi j hj
  obtain ⟨u, hu⟩ : ∃ u, L[i].cells[j]? = some u := ⟨L[i].cells[j]'hj, List.getElem?_eq_getElem hj⟩
  rw [hu] at h0 ⊢
  exact BW_cell hb h0
end Go.Proofs.YtpcdgljcpacpiaaGreatDoor
