/- The law DictPlays: maps are changed as the document says, and the one ahead stays as it was: for every input. -/
import Derived.Test.YtkahnobignaccaaDq
namespace Go.Proofs.Ytkahnobignaccaa
open Go.RowKit Go.ChangeShapes Go.WideShapes
theorem op_cells {H : Type} {enc : TypeId × Value → H} {W : World} {base fuel : Nat} {sp : Nat → Bool} {hd : Bool} {cs : List Value} {x : DataW H × List MemPlace} (h : DataW.trod enc Try.prog W base sp hd fuel 43 cs = some x) :
    ∃ o : OpT, cs = [.string o.1, .string o.2.1, .bool o.2.2.1, .bool o.2.2.2.1, .int .i64 o.2.2.2.2] := by
  obtain ⟨ys, n', _, _, hl, hyl, hf⟩ := DataW.trod_struct Try.underlying43 h
  have hC : Try.prog.cellsOf 43 = 5 := by kernel_rfl
  rw [hC] at hl
  match cs, hl with
  | [c0, c1, c2, c3, c4], _ =>
    have hS : Try.prog.cellsOf 9 = 1 := by kernel_rfl
    have hB : Try.prog.cellsOf 4 = 1 := by kernel_rfl
    have hI : Try.prog.cellsOf 3 = 1 := by kernel_rfl
    have h0 : DataW.trod enc Try.prog W base sp hd n' 9 (([c0, c1, c2, c3, c4].drop 0).take (Try.prog.cellsOf 9)) = ys[0]? := hf 0 _ rfl
    have h1 : DataW.trod enc Try.prog W base sp hd n' 9 (([c0, c1, c2, c3, c4].drop 1).take (Try.prog.cellsOf 9)) = ys[1]? := hf 1 _ rfl
    have h2 : DataW.trod enc Try.prog W base sp hd n' 4 (([c0, c1, c2, c3, c4].drop 2).take (Try.prog.cellsOf 4)) = ys[2]? := hf 2 _ rfl
    have h3 : DataW.trod enc Try.prog W base sp hd n' 4 (([c0, c1, c2, c3, c4].drop 3).take (Try.prog.cellsOf 4)) = ys[3]? := hf 3 _ rfl
    have h4 : DataW.trod enc Try.prog W base sp hd n' 3 (([c0, c1, c2, c3, c4].drop 4).take (Try.prog.cellsOf 3)) = ys[4]? := hf 4 _ rfl
    rw [hS] at h0 h1
    rw [hB] at h2 h3
    rw [hI] at h4
    simp only [List.drop_zero, List.drop_succ_cons, List.take_succ_cons, List.take_zero] at h0 h1 h2 h3 h4
    match ys, hyl with
    | [y0, y1, y2, y3, y4], _ =>
      obtain ⟨s, e0, _⟩ := DataW.trod_string Try.underlying9 h0
      obtain ⟨t, e1, _⟩ := DataW.trod_string Try.underlying9 h1
      obtain ⟨b, e2, _⟩ := DataW.trod_bool Try.underlying4 h2
      obtain ⟨c, e3, _⟩ := DataW.trod_bool Try.underlying4 h3
      obtain ⟨i, e4, _⟩ := DataW.trod_int Try.underlying3 h4
      simp only [List.cons.injEq, and_true] at e0 e1 e2 e3 e4
      exact ⟨(s, t, b, c, i), by rw [e0, e1, e2, e3, e4]⟩
theorem open_ops {H : Type} {enc : TypeId × Value → H} {W : World} {base : Nat} {sp : Nat → Bool} {hd : Bool} {v : Value} {d : DataW H} {p : List MemPlace} (hv : Value.okWide Try.prog W .any base 41 v) (h : DataW.Trod enc Try.prog W 0 sp hd 41 v d p) :
    ∃ (q : Option Addr) (cap : Nat) (L : List OpT), v = .slice q L.length cap ∧ L.length ≤ 9223372036854775807 ∧ (0 < L.length → ∃ g off, q = some ⟨g, off, none⟩ ∧ OpC W g off L) := by
  obtain ⟨a, len, cap, rfl⟩ := okWide_slice Try.underlying41 hv
  obtain ⟨fuel, hf⟩ := h
  rcases Go.Deep.open_slice Try.underlying41 hf with ⟨h0, _⟩ | ⟨a', len', cap', m, n, D, Pl, hcs, _, hl, hm, hmm, _, hi⟩
  · simp [Value.cells] at h0
    obtain ⟨rfl, rfl, rfl⟩ := h0
    exact ⟨none, 0, [], rfl, by decide, fun h => absurd h (Nat.lt_irrefl _)⟩
  · simp [Value.cells] at hcs
    obtain ⟨rfl, rfl, rfl⟩ := hcs
    rcases Nat.eq_zero_or_pos len with rfl | hpos
    · exact ⟨_, cap, [], rfl, by decide, fun h => absurd h (Nat.lt_irrefl _)⟩
    have hC : Try.prog.cellsOf 43 = 5 := by kernel_rfl
    rw [hC] at hi
    have hml : len ≤ m := by rw [hmm]; split <;> omega
    have each : ∀ k, k < len → ∃ x : OpT, W.cell? (a'.add (k * 5)) = some (.string x.1) ∧ W.cell? (a'.add (k * 5 + 1)) = some (.string x.2.1) ∧ W.cell? (a'.add (k * 5 + 2)) = some (.bool x.2.2.1) ∧ W.cell? (a'.add (k * 5 + 3)) = some (.bool x.2.2.2.1) ∧ W.cell? (a'.add (k * 5 + 4)) = some (.int .i64 x.2.2.2.2) := by
      intro k hk
      obtain ⟨cs', hc, ht⟩ := hi k (by omega)
      obtain ⟨_, hlen, hat⟩ := World.cells?_some hc
      obtain ⟨o, rfl⟩ := op_cells ht
      refine ⟨o, ?_, ?_, ?_, ?_, ?_⟩
      · have h5 := hat 0 (by decide); rw [Go.Deep.add_add] at h5; exact h5
      · have h5 := hat 1 (by decide); rw [Go.Deep.add_add] at h5; exact h5
      · have h5 := hat 2 (by decide); rw [Go.Deep.add_add] at h5; exact h5
      · have h5 := hat 3 (by decide); rw [Go.Deep.add_add] at h5; exact h5
      · have h5 := hat 4 (by decide); rw [Go.Deep.add_add] at h5; exact h5
    have build : ∃ L : List OpT, L.length = len ∧ ∀ k (hk : k < L.length), W.cell? (a'.add (k * 5)) = some (.string L[k].1) ∧ W.cell? (a'.add (k * 5 + 1)) = some (.string L[k].2.1) ∧ W.cell? (a'.add (k * 5 + 2)) = some (.bool L[k].2.2.1) ∧ W.cell? (a'.add (k * 5 + 3)) = some (.bool L[k].2.2.2.1) ∧ W.cell? (a'.add (k * 5 + 4)) = some (.int .i64 L[k].2.2.2.2) := by
      refine ⟨List.ofFn fun k : Fin len => (each k.1 k.2).choose, by simp, fun k hk => ?_⟩
      simp only [List.getElem_ofFn]
      exact (each k (by simpa using hk)).choose_spec
    obtain ⟨L, hlN, hNs⟩ := build
    have h00 := (hNs 0 (by omega)).1
    have hspot : a'.spot = none := by
      simp [Addr.add, World.cell?] at h00
      split at h00
      · split at h00
        · cases h00
        · rename_i hq; simpa using hq
      · cases h00
    obtain ⟨g, off, spot⟩ := a'
    simp at hspot
    subst hspot
    have eadd : ∀ j, (⟨g, off, none⟩ : Addr).add j = ⟨g, off + j, none⟩ := fun j => by unfold Addr.add; split <;> simp_all
    have hm' : cap ≤ 9223372036854775807 := hm
    refine ⟨_, cap, L, by rw [hlN], by omega, fun _ => ⟨g, off, rfl, fun k hk => ?_⟩⟩
    have := hNs k hk
    simp only [eadd, ← Nat.add_assoc] at this
    exact this
set_option maxRecDepth 100000 in
theorem plays_lifted (os : Os) (started : os.Started) (H : Type) (enc : TypeId × Value → H) :
    ReturnsInHanded {} Try.checked os 5 .any (Rows.dictPlaysSpec.pre6 enc Try.prog Try.f5 Rows.dictPlaysRow.domain false) (Rows.dictPlaysSpec.post enc Try.prog Try.f5 false true false false) := by
  refine law_lifted (C := Try.checked) (tb := 4) (by kernel_rfl) started (by kernel_rfl) Try.func5
    (ChangeSpec.witness6 (enc := enc) (C := Try.checked) false ⟨#[], #[.slice none 0 0], []⟩ 8 (by kernel_rfl) (by kernel_rfl) (by kernel_rfl) (by kernel_rfl))
    (by kernel_rfl) (by kernel_rfl) (by kernel_rfl) Try.underlying4 rfl ?_ ?_
  · intro ds hd
    have hp : Try.f5.params.toList.length = 1 := by kernel_rfl
    rw [hp] at hd
    match ds, hd with
    | [d], _ => rfl
  · intro W base args ds ps hval hA _ _
    have hval' : ∀ (j : Nat) t v, Try.f5.params[j]? = some t → args[j]? = some v → Value.okWide Try.prog W .any base t v := hval
    have hA' : DataW.TrodAll enc Try.prog W 0 (fun _ => true) true Try.f5.params.toList args.toList ds ps := hA
    rw [Try.params5] at hA' hval'
    obtain ⟨v0, d0, rfl, rfl, h0⟩ := trodAll_one hA'
    obtain ⟨q, cap, L, rfl, hL, hop⟩ := open_ops (hval' 0 41 v0 rfl rfl) h0
    exact plays_any q cap L W hL hop
theorem DictPlays_holds : Rows.DictPlaysSaid :=
  OpenClaim.holds_of_wide 5 Try.f5 rfl rfl rfl rfl rfl rfl rfl ⟨rfl, rfl, rfl, rfl, rfl⟩ rfl rfl rfl rfl rfl (by kernel_rfl) Try.func5 (by kernel_rfl)
    (of_decide_eq_true (by kernel_rfl)) (by unfold Func.isWrapper; first | (rw [if_pos (by decide +kernel)]; kernel_rfl) | (rw [if_neg (by decide +kernel)]; exact ⟨rfl, rfl⟩))
    (fun os started H enc _ => plays_lifted os started H enc)
end Go.Proofs.Ytkahnobignaccaa
