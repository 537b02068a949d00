/- What the laws of layer 8 are called with: rows of entries, entries, arrays of texts read as such. -/
import Derived.Test.YtkahnobignaccaaD12
import Derived.Deep.Slices
import Derived.Laws.IdiomArrays
namespace Go.Proofs.Ytkahnobignaccaa
open Go.RowKit Go.ChangeShapes Go.WideShapes
theorem ent_cells {H : Type} {enc : TypeId × Value → H} {W : World} {base fuel : Nat} {sp : Nat → Bool} {hd : Bool} {cs : List Value} {x : DataW H × List MemPlace} (h : DataW.trod enc Try.prog W base sp hd fuel 26 cs = some x) :
    ∃ s t, cs = [.string s, .string t] := by
  obtain ⟨ys, n', _, _, hl, hyl, hf⟩ := DataW.trod_struct Try.underlying26 h
  have hC : Try.prog.cellsOf 26 = 2 := by kernel_rfl
  rw [hC] at hl
  match cs, hl with
  | [c0, c1], _ =>
    have hS : Try.prog.cellsOf 9 = 1 := by kernel_rfl
    have h0 : DataW.trod enc Try.prog W base sp hd n' 9 (([c0, c1].drop 0).take (Try.prog.cellsOf 9)) = ys[0]? := hf 0 _ rfl
    have h1 : DataW.trod enc Try.prog W base sp hd n' 9 (([c0, c1].drop 1).take (Try.prog.cellsOf 9)) = ys[1]? := hf 1 _ rfl
    rw [hS] at h0 h1
    simp only [List.drop_zero, List.drop_succ_cons, List.take_succ_cons, List.take_zero] at h0 h1
    match ys, hyl with
    | [y0, y1], _ =>
      obtain ⟨s, e0, _⟩ := DataW.trod_string Try.underlying9 h0
      obtain ⟨t, e1, _⟩ := DataW.trod_string Try.underlying9 h1
      simp only [List.cons.injEq, and_true] at e0 e1
      exact ⟨s, t, by rw [e0, e1]⟩
theorem open_entry {H : Type} {enc : TypeId × Value → H} {W : World} {base : Nat} {sp : Nat → Bool} {hd : Bool} {v : Value} {d : DataW H} {p : List MemPlace} (hv : Value.okWide Try.prog W .any base 26 v) (h : DataW.Trod enc Try.prog W 0 sp hd 26 v d p) :
    ∃ s t, v = .agg #[.string s, .string t] := by
  obtain ⟨cs, rfl, _⟩ := okWide_struct Try.underlying26 hv
  obtain ⟨fuel, hf⟩ := h
  obtain ⟨s, t, e⟩ := ent_cells hf
  refine ⟨s, t, ?_⟩
  have e2 : cs.toList = [.string s, .string t] := by simpa [Value.cells] using e
  rw [← Array.toArray_toList (xs := cs), e2]
theorem open_texts {n t : Nat} {H : Type} {enc : TypeId × Value → H} {W : World} {base : Nat} {sp : Nat → Bool} {hd : Bool} {v : Value} {d : DataW H} {p : List MemPlace} (ht : Try.prog.underlying t = some (.array n 9)) (hC : Try.prog.cellsOf t = n) (hv : Value.okWide Try.prog W .any base t v) (h : DataW.Trod enc Try.prog W 0 sp hd t v d p) :
    ∃ ss : List ByteArray, ss.length = n ∧ v = .agg (ss.map Value.string).toArray := by
  have hv' : ∃ cs, v = .agg cs ∧ cs.size = Try.prog.cellsOf t := by
    unfold Value.okWide at hv
    rw [ht] at hv
    obtain ⟨cs, h1, h2, _⟩ := hv
    exact ⟨cs, h1, h2⟩
  obtain ⟨cs, rfl, hsz⟩ := hv'
  obtain ⟨fuel, hf⟩ := h
  obtain ⟨xs, m, _, _, _, hlen, hg⟩ := DataW.trod_array ht hf
  obtain ⟨l⟩ := cs
  have hl : l.length = n := by simpa using hsz.trans hC
  have hE : Try.prog.cellsOf 9 = 1 := by kernel_rfl
  have each : ∀ i, i < n → ∃ s, l[i]? = some (.string s) := by
    intro i hi
    have h1 := hg i hi
    rw [hE] at h1
    simp only [Nat.mul_one] at h1
    have hx : xs[i]? = some (xs[i]'(by omega)) := List.getElem?_eq_getElem (by omega)
    have hc : (((Value.agg l.toArray).cells.toList.drop i).take 1) = [l[i]'(by omega)] := by
      simp only [Value.cells]
      rw [List.drop_eq_getElem_cons (by simpa using (by omega : i < l.length))]
      rfl
    rw [hx, hc] at h1
    obtain ⟨s, hz, _, _⟩ := DataW.trod_string Try.underlying9 h1
    refine ⟨s, ?_⟩
    rw [List.getElem?_eq_getElem (by omega)]
    simp only [List.cons.injEq, and_true] at hz
    rw [hz]
  refine ⟨List.ofFn fun k : Fin n => (each k.1 k.2).choose, by simp, ?_⟩
  congr 1
  apply Array.ext'
  show l = _
  apply List.ext_getElem
  · simp [hl]
  · intro i h1 h2
    have := (each i (by omega)).choose_spec
    have e : l[i]? = some l[i] := List.getElem?_eq_getElem h1
    simp only [List.getElem_map, List.getElem_ofFn]
    exact Option.some.inj (e.symm.trans this)
theorem open_ents {H : Type} {enc : TypeId × Value → H} {W : World} {base : Nat} {sp : Nat → Bool} {hd : Bool} {v : Value} {d : DataW H} {p : List MemPlace} (hv : Value.okWide Try.prog W .any base 23 v) (h : DataW.Trod enc Try.prog W 0 sp hd 23 v d p) :
    ∃ L, Ents W v L ∧ L.length ≤ 9223372036854775807 := by
  obtain ⟨a, len, cap, rfl⟩ := okWide_slice Try.underlying23 hv
  obtain ⟨fuel, hf⟩ := h
  rcases Go.Deep.open_slice Try.underlying23 hf with ⟨h0, _⟩ | ⟨a', len', cap', m, n, D, Pl, hcs, _, hl, hm, hmm, _, hi⟩
  · simp [Value.cells] at h0
    obtain ⟨rfl, rfl, rfl⟩ := h0
    exact ⟨[], .inl ⟨rfl, none, 0, rfl, by decide⟩, by decide⟩
  · simp [Value.cells] at hcs
    obtain ⟨rfl, rfl, rfl⟩ := hcs
    rcases Nat.eq_zero_or_pos len with rfl | hpos
    · exact ⟨[], .inl ⟨rfl, _, cap, rfl, hm⟩, by decide⟩
    have hC : Try.prog.cellsOf 26 = 2 := by kernel_rfl
    rw [hC] at hi
    have hml : len ≤ m := by rw [hmm]; split <;> omega
    have each : ∀ k, k < len → ∃ x : Ent, W.cell? (a'.add (k * 2)) = some (.string x.1) ∧ W.cell? (a'.add (k * 2 + 1)) = some (.string x.2) := by
      intro k hk
      obtain ⟨cs', hc, ht⟩ := hi k (by omega)
      obtain ⟨_, hlen, hat⟩ := World.cells?_some hc
      obtain ⟨s, t, rfl⟩ := ent_cells ht
      refine ⟨(s, t), ?_, ?_⟩
      · have h5 := hat 0 (by decide)
        rw [Go.Deep.add_add] at h5
        exact h5
      · have h5 := hat 1 (by decide)
        rw [Go.Deep.add_add] at h5
        exact h5
    have build : ∃ L : List Ent, L.length = len ∧ ∀ k (hk : k < L.length), W.cell? (a'.add (k * 2)) = some (.string L[k].1) ∧ W.cell? (a'.add (k * 2 + 1)) = some (.string L[k].2) := by
      refine ⟨List.ofFn fun k : Fin len => (each k.1 k.2).choose, by simp, fun k hk => ?_⟩
      simp only [List.getElem_ofFn]
      exact (each k (by simpa using hk)).choose_spec
    obtain ⟨L, hlN, hNs⟩ := build
    have h00 := (hNs 0 (by omega)).1
    have hspot : a'.spot = none := by
      simp [Addr.add, World.cell?] at h00
      split at h00
      · split at h00
        · cases h00
        · rename_i hq; simpa using hq
      · cases h00
    obtain ⟨g, off, spot⟩ := a'
    simp at hspot
    subst hspot
    have eadd : ∀ j, (⟨g, off, none⟩ : Addr).add j = ⟨g, off + j, none⟩ := fun j => by unfold Addr.add; split <;> simp_all
    have hm' : cap ≤ 9223372036854775807 := hm
    refine ⟨L, .inr ⟨by omega, g, off, cap, by rw [hlN], by omega, hm', fun k hk => ?_⟩, by omega⟩
    have := hNs k hk
    rw [eadd, eadd, ← Nat.add_assoc] at this
    exact this
end Go.Proofs.Ytkahnobignaccaa
