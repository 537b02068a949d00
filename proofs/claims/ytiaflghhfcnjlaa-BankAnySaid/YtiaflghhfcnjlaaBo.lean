/- Rows of the bank laws' ops, opened. -/
import Derived.Test.YtiaflghhfcnjlaaBa
import Derived.Deep.Slices
import Derived.Laws.IdiomArrays
set_option maxRecDepth 20000
namespace Go.Proofs.Ytiaflghhfcnjlaa
open Go.RowKit Go.ChangeShapes Go.WideShapes
structure Op11T where
  kd : Int
  f : ByteArray
  t : ByteArray
  d : ByteArray
  n : Nat
  raw : Bool
  sm : Bool
  hn : W256 n
def Op11T.cells (o : Op11T) : List Value := [.int .i64 o.kd, .string o.f, .string o.t, .string o.d, .int .u64 (limb o.n 0), .int .u64 (limb o.n 1), .int .u64 (limb o.n 2), .int .u64 (limb o.n 3), .bool o.raw, .bool o.sm]
theorem wide_cells {H : Type} {enc : TypeId × Value → H} {W : World} {base fuel : Nat} {sp : Nat → Bool} {hd : Bool} {cs : List Value} {x : DataW H × List MemPlace} (h : DataW.trod enc Try.prog W base sp hd fuel 33 cs = some x) :
    ∃ n : Nat, W256 n ∧ cs = [.int .u64 (limb n 0), .int .u64 (limb n 1), .int .u64 (limb n 2), .int .u64 (limb n 3)] := by
  obtain ⟨xs, m, _, _, hl, hlen, hg⟩ := DataW.trod_array Try.underlying33 h
  have hC : Try.prog.cellsOf 33 = 4 := by kernel_rfl
  have hE : Try.prog.cellsOf 30 = 1 := by kernel_rfl
  rw [hC] at hl
  match cs, hl with
  | [c0, c1, c2, c3], _ =>
    match xs, hlen with
    | [y0, y1, y2, y3], _ =>
      have h0 := hg 0 (by decide)
      have h1 := hg 1 (by decide)
      have h2 := hg 2 (by decide)
      have h3 := hg 3 (by decide)
      rw [hE] at h0 h1 h2 h3
      obtain ⟨z0, e0, _, w0⟩ := DataW.trod_int Try.underlying30 (show DataW.trod enc Try.prog W base sp hd m 30 [c0] = some y0 from h0)
      obtain ⟨z1, e1, _, w1⟩ := DataW.trod_int Try.underlying30 (show DataW.trod enc Try.prog W base sp hd m 30 [c1] = some y1 from h1)
      obtain ⟨z2, e2, _, w2⟩ := DataW.trod_int Try.underlying30 (show DataW.trod enc Try.prog W base sp hd m 30 [c2] = some y2 from h2)
      obtain ⟨z3, e3, _, w3⟩ := DataW.trod_int Try.underlying30 (show DataW.trod enc Try.prog W base sp hd m 30 [c3] = some y3 from h3)
      have wf : ∀ {z : Int}, (Lit.int .u64 z).wf = true → ∃ a : Nat, z = (a : Int) ∧ a < 18446744073709551616 := fun {z} h => by
        have h' : IntKind.u64.min ≤ z ∧ z ≤ IntKind.u64.max := by simpa [Lit.wf] using h
        have a1 : 0 ≤ z := h'.1
        have a2 : z ≤ 18446744073709551615 := h'.2
        exact ⟨z.toNat, by omega, by omega⟩
      obtain ⟨a0, rfl, l0⟩ := wf w0
      obtain ⟨a1, rfl, l1⟩ := wf w1
      obtain ⟨a2, rfl, l2⟩ := wf w2
      obtain ⟨a3, rfl, l3⟩ := wf w3
      obtain ⟨n, hn, q0, q1, q2, q3⟩ := limbs_exist a0 a1 a2 a3 l0 l1 l2 l3
      simp only [List.cons.injEq, and_true] at e0 e1 e2 e3
      exact ⟨n, hn, by rw [e0, e1, e2, e3, q0, q1, q2, q3]⟩
theorem op11_cells {H : Type} {enc : TypeId × Value → H} {W : World} {base fuel : Nat} {sp : Nat → Bool} {hd : Bool} {cs : List Value} {x : DataW H × List MemPlace} (h : DataW.trod enc Try.prog W base sp hd fuel 35 cs = some x) :
    ∃ o : Op11T, cs = o.cells := by
  obtain ⟨ys, n', _, _, hl, hyl, hf⟩ := DataW.trod_struct Try.underlying35 h
  have hC : Try.prog.cellsOf 35 = 10 := by kernel_rfl
  rw [hC] at hl
  match cs, hl with
  | [c0, c1, c2, c3, c4, c5, c6, c7, c8, c9], _ =>
    have hS : Try.prog.cellsOf 9 = 1 := by kernel_rfl
    have hB : Try.prog.cellsOf 4 = 1 := by kernel_rfl
    have hI : Try.prog.cellsOf 3 = 1 := by kernel_rfl
    have hW : Try.prog.cellsOf 33 = 4 := by kernel_rfl
    have h0 : DataW.trod enc Try.prog W base sp hd n' 3 (([c0, c1, c2, c3, c4, c5, c6, c7, c8, c9].drop 0).take (Try.prog.cellsOf 3)) = ys[0]? := hf 0 _ rfl
    have h1 : DataW.trod enc Try.prog W base sp hd n' 9 (([c0, c1, c2, c3, c4, c5, c6, c7, c8, c9].drop 1).take (Try.prog.cellsOf 9)) = ys[1]? := hf 1 _ rfl
    have h2 : DataW.trod enc Try.prog W base sp hd n' 9 (([c0, c1, c2, c3, c4, c5, c6, c7, c8, c9].drop 2).take (Try.prog.cellsOf 9)) = ys[2]? := hf 2 _ rfl
    have h3 : DataW.trod enc Try.prog W base sp hd n' 9 (([c0, c1, c2, c3, c4, c5, c6, c7, c8, c9].drop 3).take (Try.prog.cellsOf 9)) = ys[3]? := hf 3 _ rfl
    have h4 : DataW.trod enc Try.prog W base sp hd n' 33 (([c0, c1, c2, c3, c4, c5, c6, c7, c8, c9].drop 4).take (Try.prog.cellsOf 33)) = ys[4]? := hf 4 _ rfl
    have h5 : DataW.trod enc Try.prog W base sp hd n' 4 (([c0, c1, c2, c3, c4, c5, c6, c7, c8, c9].drop 8).take (Try.prog.cellsOf 4)) = ys[5]? := hf 5 _ rfl
    have h6 : DataW.trod enc Try.prog W base sp hd n' 4 (([c0, c1, c2, c3, c4, c5, c6, c7, c8, c9].drop 9).take (Try.prog.cellsOf 4)) = ys[6]? := hf 6 _ rfl
    rw [hI] at h0
    rw [hS] at h1 h2 h3
    rw [hW] at h4
    rw [hB] at h5 h6
    simp only [List.drop_zero, List.drop_succ_cons, List.take_succ_cons, List.take_zero] at h0 h1 h2 h3 h4 h5 h6
    match ys, hyl with
    | [y0, y1, y2, y3, y4, y5, y6], _ =>
      obtain ⟨kd, e0, _⟩ := DataW.trod_int Try.underlying3 h0
      obtain ⟨f, e1, _⟩ := DataW.trod_string Try.underlying9 h1
      obtain ⟨t, e2, _⟩ := DataW.trod_string Try.underlying9 h2
      obtain ⟨d, e3, _⟩ := DataW.trod_string Try.underlying9 h3
      obtain ⟨n, hn, e4⟩ := wide_cells h4
      obtain ⟨raw, e5, _⟩ := DataW.trod_bool Try.underlying4 h5
      obtain ⟨sm, e6, _⟩ := DataW.trod_bool Try.underlying4 h6
      simp only [List.cons.injEq, and_true] at e0 e1 e2 e3 e4 e5 e6
      refine ⟨⟨kd, f, t, d, n, raw, sm, hn⟩, ?_⟩
      unfold Op11T.cells
      obtain ⟨e40, e41, e42, e43⟩ := e4
      rw [e0, e1, e2, e3, e40, e41, e42, e43, e5, e6]
def Op11C (w : World) (g off : Nat) (L : List Op11T) : Prop := ∀ i (hi : i < L.length), ∀ j, j < 10 → w.cell? ⟨g, off + i * 10 + j, none⟩ = L[i].cells[j]?
theorem Op11C.on {w w' : World} {g off : Nat} {L : List Op11T} (h : Op11C w g off L) (hb : Below w.heap.size w w') : Op11C w' g off L := fun i hi j hj => by
  have h0 := h i hi j hj
  obtain ⟨u, hu⟩ : ∃ u, L[i].cells[j]? = some u := ⟨L[i].cells[j]'hj, List.getElem?_eq_getElem hj⟩
  rw [hu] at h0 ⊢
  exact BW_cell hb h0
theorem open_op11 {H : Type} {enc : TypeId × Value → H} {W : World} {sp : Nat → Bool} {hd : Bool} {v : Value} {d : DataW H} {p : List MemPlace} (h : DataW.Trod enc Try.prog W 0 sp hd 35 v d p) (hv : ∃ cs, v = .agg cs) :
    ∃ o : Op11T, v = .agg o.cells.toArray := by
  obtain ⟨cs, rfl⟩ := hv
  obtain ⟨fuel, hf⟩ := h
  obtain ⟨o, e⟩ := op11_cells hf
  refine ⟨o, ?_⟩
  have e2 : cs.toList = o.cells := by simpa [Value.cells] using e
  rw [← Array.toArray_toList (xs := cs), e2]
theorem open_op11s {H : Type} {enc : TypeId × Value → H} {W : World} {base : Nat} {sp : Nat → Bool} {hd : Bool} {v : Value} {d : DataW H} {p : List MemPlace} (hv : Value.okWide Try.prog W .any base 61 v) (h : DataW.Trod enc Try.prog W 0 sp hd 61 v d p) :
    ∃ (q : Option Addr) (cap : Nat) (L : List Op11T), v = .slice q L.length cap ∧ L.length ≤ 9223372036854775807 ∧ (0 < L.length → ∃ g off, q = some ⟨g, off, none⟩ ∧ Op11C W g off L) := by
  obtain ⟨a, len, cap, rfl⟩ := okWide_slice Try.underlying61 hv
  obtain ⟨fuel, hf⟩ := h
  rcases Go.Deep.open_slice Try.underlying61 hf with ⟨h0, _⟩ | ⟨a', len', cap', m, n, D, Pl, hcs, _, hl, hm, hmm, _, hi⟩
  · simp [Value.cells] at h0
    obtain ⟨rfl, rfl, rfl⟩ := h0
    exact ⟨none, 0, [], rfl, by decide, fun h => absurd h (Nat.lt_irrefl _)⟩
  · simp [Value.cells] at hcs
    obtain ⟨rfl, rfl, rfl⟩ := hcs
    rcases Nat.eq_zero_or_pos len with rfl | hpos
    · exact ⟨_, cap, [], rfl, by decide, fun h => absurd h (Nat.lt_irrefl _)⟩
    have hC : Try.prog.cellsOf 35 = 10 := by kernel_rfl
    rw [hC] at hi
    have hml : len ≤ m := by rw [hmm]; split <;> omega
    have each : ∀ k, k < len → ∃ o : Op11T, ∀ j, j < 10 → W.cell? (a'.add (k * 10 + j)) = o.cells[j]? := by
      intro k hk
      obtain ⟨cs', hc, ht⟩ := hi k (by omega)
      obtain ⟨_, hlen, hat⟩ := World.cells?_some hc
      obtain ⟨o, rfl⟩ := op11_cells ht
      refine ⟨o, fun j hj => ?_⟩
      have h5 := hat j (by simpa [Op11T.cells] using hj)
      rw [Go.Deep.add_add] at h5
      rw [h5]
    have build : ∃ L : List Op11T, L.length = len ∧ ∀ k (hk : k < L.length), ∀ j, j < 10 → W.cell? (a'.add (k * 10 + j)) = L[k].cells[j]? := by
      refine ⟨List.ofFn fun k : Fin len => (each k.1 k.2).choose, by simp, fun k hk => ?_⟩
      simp only [List.getElem_ofFn]
      exact (each k (by simpa using hk)).choose_spec
    obtain ⟨L, hlN, hNs⟩ := build
    have h00 := hNs 0 (by omega) 0 (by decide)
    have hspot : a'.spot = none := by
      simp [Addr.add, World.cell?, Op11T.cells] at h00
      split at h00
      · split at h00
        · cases h00
        · rename_i hq; simpa using hq
      · cases h00
    obtain ⟨g, off, spot⟩ := a'
    simp at hspot
    subst hspot
    have eadd : ∀ j, (⟨g, off, none⟩ : Addr).add j = ⟨g, off + j, none⟩ := fun j => by unfold Addr.add; split <;> simp_all
    have hm' : cap ≤ 9223372036854775807 := hm
    refine ⟨_, cap, L, by rw [hlN], by omega, fun _ => ⟨g, off, rfl, fun k hk j hj => ?_⟩⟩
    have := hNs k hk j hj
    rw [eadd, ← Nat.add_assoc] at this
    exact this
end Go.Proofs.Ytiaflghhfcnjlaa
