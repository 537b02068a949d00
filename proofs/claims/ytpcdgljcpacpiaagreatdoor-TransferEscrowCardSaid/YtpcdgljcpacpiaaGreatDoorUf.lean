/- Rows of the transfer laws' steps, opened; a packet's box stored whole. -/
import Derived.Test.YtpcdgljcpacpiaaGreatDoorUd
import Derived.Test.YtpcdgljcpacpiaaGreatDoorBo
import Derived.Deep.Slices
import Derived.Laws.IdiomArrays
set_option maxRecDepth 20000
namespace Go.Proofs.YtpcdgljcpacpiaaGreatDoor
open Go.RowKit Go.ChangeShapes Go.WideShapes
theorem coin_cells {H : Type} {enc : TypeId × Value → H} {W : World} {base fuel : Nat} {sp : Nat → Bool} {hd : Bool} {cs : List Value} {x : DataW H × List MemPlace} (h : DataW.trod enc Tryz.prog W base sp hd fuel 33 cs = some x) :
    ∃ (d f g : ByteArray) (n : Nat), W256 n ∧ cs = [.string d, .int .u64 (limb n 0), .int .u64 (limb n 1), .int .u64 (limb n 2), .int .u64 (limb n 3), .string f, .string g] := by
  obtain ⟨ys, n', _, _, hl, hyl, hf⟩ := DataW.trod_struct Tryz.underlying33 h
  have hC : Tryz.prog.cellsOf 33 = 7 := by kernel_rfl
  rw [hC] at hl
  match cs, hl with
  | [c0, c1, c2, c3, c4, c5, c6], _ =>
    have hzST : Tryz.prog.cellsOf 9 = 1 := by kernel_rfl
    have hzWI : Tryz.prog.cellsOf 31 = 4 := by kernel_rfl
    have h0 : DataW.trod enc Tryz.prog W base sp hd n' 9 (([c0, c1, c2, c3, c4, c5, c6].drop 0).take (Tryz.prog.cellsOf 9)) = ys[0]? := hf 0 _ rfl
    have h1 : DataW.trod enc Tryz.prog W base sp hd n' 31 (([c0, c1, c2, c3, c4, c5, c6].drop 1).take (Tryz.prog.cellsOf 31)) = ys[1]? := hf 1 _ rfl
    have h2 : DataW.trod enc Tryz.prog W base sp hd n' 9 (([c0, c1, c2, c3, c4, c5, c6].drop 5).take (Tryz.prog.cellsOf 9)) = ys[2]? := hf 2 _ rfl
    have h3 : DataW.trod enc Tryz.prog W base sp hd n' 9 (([c0, c1, c2, c3, c4, c5, c6].drop 6).take (Tryz.prog.cellsOf 9)) = ys[3]? := hf 3 _ rfl
    rw [hzST] at h0 h2 h3
    rw [hzWI] at h1
    simp only [List.drop_zero, List.drop_succ_cons, List.take_succ_cons, List.take_zero] at h0 h1 h2 h3
    match ys, hyl with
    | [y0, y1, y2, y3], _ =>
      obtain ⟨d, e0, _⟩ := DataW.trod_string Tryz.underlying9 h0
      obtain ⟨n, hn, e1⟩ := wide_cells h1
      obtain ⟨f, e2, _⟩ := DataW.trod_string Tryz.underlying9 h2
      obtain ⟨g, e3, _⟩ := DataW.trod_string Tryz.underlying9 h3
      simp only [List.cons.injEq, and_true] at e0 e1 e2 e3
      obtain ⟨e10, e11, e12, e13⟩ := e1
      exact ⟨d, f, g, n, hn, by rw [e0, e10, e11, e12, e13, e2, e3]⟩
theorem pkt_cells {H : Type} {enc : TypeId × Value → H} {W : World} {base fuel : Nat} {sp : Nat → Bool} {hd : Bool} {cs : List Value} {x : DataW H × List MemPlace} (h : DataW.trod enc Tryz.prog W base sp hd fuel 35 cs = some x) :
    ∃ (q ht tm : Int) (s k d f g : ByteArray) (n : Nat), W256 n ∧ cs = [.int .i64 q, .string s, .string k, .string d, .int .u64 (limb n 0), .int .u64 (limb n 1), .int .u64 (limb n 2), .int .u64 (limb n 3), .string f, .string g, .int .i64 ht, .int .i64 tm] := by
  obtain ⟨ys, n', _, _, hl, hyl, hf⟩ := DataW.trod_struct Tryz.underlying35 h
  have hC : Tryz.prog.cellsOf 35 = 12 := by kernel_rfl
  rw [hC] at hl
  match cs, hl with
  | [c0, c1, c2, c3, c4, c5, c6, c7, c8, c9, c10, c11], _ =>
    have hzINT : Tryz.prog.cellsOf 3 = 1 := by kernel_rfl
    have hzST : Tryz.prog.cellsOf 9 = 1 := by kernel_rfl
    have hzCOIN : Tryz.prog.cellsOf 33 = 7 := by kernel_rfl
    have h0 : DataW.trod enc Tryz.prog W base sp hd n' 3 (([c0, c1, c2, c3, c4, c5, c6, c7, c8, c9, c10, c11].drop 0).take (Tryz.prog.cellsOf 3)) = ys[0]? := hf 0 _ rfl
    have h1 : DataW.trod enc Tryz.prog W base sp hd n' 9 (([c0, c1, c2, c3, c4, c5, c6, c7, c8, c9, c10, c11].drop 1).take (Tryz.prog.cellsOf 9)) = ys[1]? := hf 1 _ rfl
    have h2 : DataW.trod enc Tryz.prog W base sp hd n' 9 (([c0, c1, c2, c3, c4, c5, c6, c7, c8, c9, c10, c11].drop 2).take (Tryz.prog.cellsOf 9)) = ys[2]? := hf 2 _ rfl
    have h3 : DataW.trod enc Tryz.prog W base sp hd n' 33 (([c0, c1, c2, c3, c4, c5, c6, c7, c8, c9, c10, c11].drop 3).take (Tryz.prog.cellsOf 33)) = ys[3]? := hf 3 _ rfl
    have h4 : DataW.trod enc Tryz.prog W base sp hd n' 3 (([c0, c1, c2, c3, c4, c5, c6, c7, c8, c9, c10, c11].drop 10).take (Tryz.prog.cellsOf 3)) = ys[4]? := hf 4 _ rfl
    have h5 : DataW.trod enc Tryz.prog W base sp hd n' 3 (([c0, c1, c2, c3, c4, c5, c6, c7, c8, c9, c10, c11].drop 11).take (Tryz.prog.cellsOf 3)) = ys[5]? := hf 5 _ rfl
    rw [hzINT] at h0 h4 h5
    rw [hzST] at h1 h2
    rw [hzCOIN] at h3
    simp only [List.drop_zero, List.drop_succ_cons, List.take_succ_cons, List.take_zero] at h0 h1 h2 h3 h4 h5
    match ys, hyl with
    | [y0, y1, y2, y3, y4, y5], _ =>
      obtain ⟨q, e0, _⟩ := DataW.trod_int Tryz.underlying3 h0
      obtain ⟨s, e1, _⟩ := DataW.trod_string Tryz.underlying9 h1
      obtain ⟨k, e2, _⟩ := DataW.trod_string Tryz.underlying9 h2
      obtain ⟨d, f, g, n, hn, e3⟩ := coin_cells h3
      obtain ⟨ht, e4, _⟩ := DataW.trod_int Tryz.underlying3 h4
      obtain ⟨tm, e5, _⟩ := DataW.trod_int Tryz.underlying3 h5
      simp only [List.cons.injEq, and_true] at e0 e1 e2 e3 e4 e5
      obtain ⟨e30, e31, e32, e33, e34, e35, e36⟩ := e3
      exact ⟨q, ht, tm, s, k, d, f, g, n, hn, by rw [e0, e1, e2, e30, e31, e32, e33, e34, e35, e36, e4, e5]⟩
structure StpT where
  kd : Int
  q : Int
  ht : Int
  tm : Int
  s : ByteArray
  k : ByteArray
  d : ByteArray
  f : ByteArray
  g : ByteArray
  n : Nat
  hn : W256 n
def StpT.cells (o : StpT) : List Value := [.int .i64 o.kd, .int .i64 o.q, .string o.s, .string o.k, .string o.d, .int .u64 (limb o.n 0), .int .u64 (limb o.n 1), .int .u64 (limb o.n 2), .int .u64 (limb o.n 3), .string o.f, .string o.g, .int .i64 o.ht, .int .i64 o.tm]
theorem step_cells {H : Type} {enc : TypeId × Value → H} {W : World} {base fuel : Nat} {sp : Nat → Bool} {hd : Bool} {cs : List Value} {x : DataW H × List MemPlace} (h : DataW.trod enc Tryz.prog W base sp hd fuel 38 cs = some x) :
    ∃ o : StpT, cs = o.cells := by
  obtain ⟨ys, n', _, _, hl, hyl, hf⟩ := DataW.trod_struct Tryz.underlying38 h
  have hC : Tryz.prog.cellsOf 38 = 13 := by kernel_rfl
  rw [hC] at hl
  match cs, hl with
  | [c0, c1, c2, c3, c4, c5, c6, c7, c8, c9, c10, c11, c12], _ =>
    have hzINT : Tryz.prog.cellsOf 3 = 1 := by kernel_rfl
    have hzPKT : Tryz.prog.cellsOf 35 = 12 := by kernel_rfl
    have h0 : DataW.trod enc Tryz.prog W base sp hd n' 3 (([c0, c1, c2, c3, c4, c5, c6, c7, c8, c9, c10, c11, c12].drop 0).take (Tryz.prog.cellsOf 3)) = ys[0]? := hf 0 _ rfl
    have h1 : DataW.trod enc Tryz.prog W base sp hd n' 35 (([c0, c1, c2, c3, c4, c5, c6, c7, c8, c9, c10, c11, c12].drop 1).take (Tryz.prog.cellsOf 35)) = ys[1]? := hf 1 _ rfl
    rw [hzINT] at h0
    rw [hzPKT] at h1
    simp only [List.drop_zero, List.drop_succ_cons, List.take_succ_cons, List.take_zero] at h0 h1
    match ys, hyl with
    | [y0, y1], _ =>
      obtain ⟨kd, e0, _⟩ := DataW.trod_int Tryz.underlying3 h0
      obtain ⟨q, ht, tm, s, k, d, f, g, n, hn, e1⟩ := pkt_cells h1
      simp only [List.cons.injEq, and_true] at e0 e1
      obtain ⟨e10, e11, e12, e13, e14, e15, e16, e17, e18, e19, e1a, e1b⟩ := e1
      exact ⟨⟨kd, q, ht, tm, s, k, d, f, g, n, hn⟩, by unfold StpT.cells; rw [e0, e10, e11, e12, e13, e14, e15, e16, e17, e18, e19, e1a, e1b]⟩
def StpC (w : World) (g off : Nat) (L : List StpT) : Prop := ∀ i (hi : i < L.length), ∀ j, j < 13 → w.cell? ⟨g, off + i * 13 + j, none⟩ = L[i].cells[j]?
theorem StpC.on {w w' : World} {g off : Nat} {L : List StpT} (h : StpC w g off L) (hb : Below w.heap.size w w') : StpC w' g off L := fun i hi j hj => by
  have h0 := h i hi j hj
  obtain ⟨u, hu⟩ : ∃ u, L[i].cells[j]? = some u := ⟨L[i].cells[j]'hj, List.getElem?_eq_getElem hj⟩
  rw [hu] at h0 ⊢
  exact BW_cell hb h0
theorem open_steps {H : Type} {enc : TypeId × Value → H} {W : World} {base : Nat} {sp : Nat → Bool} {hd : Bool} {v : Value} {d : DataW H} {p : List MemPlace} (hv : Value.okWide Tryz.prog W .any base 22 v) (h : DataW.Trod enc Tryz.prog W 0 sp hd 22 v d p) :
    ∃ (q : Option Addr) (cap : Nat) (L : List StpT), v = .slice q L.length cap ∧ L.length ≤ 9223372036854775807 ∧ (0 < L.length → ∃ g off, q = some ⟨g, off, none⟩ ∧ StpC W g off L) := by
  obtain ⟨a, len, cap, rfl⟩ := okWide_slice Tryz.underlying22 hv
  obtain ⟨fuel, hf⟩ := h
  rcases Go.Deep.open_slice Tryz.underlying22 hf with ⟨h0, _⟩ | ⟨a', len', cap', m, n, D, Pl, hcs, _, hl, hm, hmm, _, hi⟩
  · simp [Value.cells] at h0
    obtain ⟨rfl, rfl, rfl⟩ := h0
    exact ⟨none, 0, [], rfl, by decide, fun h => absurd h (Nat.lt_irrefl _)⟩
  · simp [Value.cells] at hcs
    obtain ⟨rfl, rfl, rfl⟩ := hcs
    rcases Nat.eq_zero_or_pos len with rfl | hpos
    · exact ⟨_, cap, [], rfl, by decide, fun h => absurd h (Nat.lt_irrefl _)⟩
    have hC : Tryz.prog.cellsOf 38 = 13 := by kernel_rfl
    rw [hC] at hi
    have hml : len ≤ m := by rw [hmm]; split <;> omega
    have each : ∀ k, k < len → ∃ o : StpT, ∀ j, j < 13 → W.cell? (a'.add (k * 13 + j)) = o.cells[j]? := by
      intro k hk
      obtain ⟨cs', hc, ht⟩ := hi k (by omega)
      obtain ⟨_, hlen, hat⟩ := World.cells?_some hc
      obtain ⟨o, rfl⟩ := step_cells ht
      refine ⟨o, fun j hj => ?_⟩
      have h5 := hat j (by simpa [StpT.cells] using hj)
      rw [Go.Deep.add_add] at h5
      rw [h5]
    have build : ∃ L : List StpT, L.length = len ∧ ∀ k (hk : k < L.length), ∀ j, j < 13 → W.cell? (a'.add (k * 13 + j)) = L[k].cells[j]? := by
      refine ⟨List.ofFn fun k : Fin len => (each k.1 k.2).choose, by simp, fun k hk => ?_⟩
      simp only [List.getElem_ofFn]
      exact (each k (by simpa using hk)).choose_spec
    obtain ⟨L, hlN, hNs⟩ := build
    have h00 := hNs 0 (by omega) 0 (by decide)
    have hspot : a'.spot = none := by
      simp [Addr.add, World.cell?, StpT.cells] at h00
      split at h00
      · split at h00
        · cases h00
        · rename_i hq; simpa using hq
      · cases h00
    obtain ⟨g, off, spot⟩ := a'
    simp at hspot
    subst hspot
    have eadd : ∀ j, (⟨g, off, none⟩ : Addr).add j = ⟨g, off + j, none⟩ := fun j => by unfold Addr.add; split <;> simp_all
    have hm' : cap ≤ 9223372036854775807 := hm
    refine ⟨_, cap, L, by rw [hlN], by omega, fun _ => ⟨g, off, rfl, fun k hk j hj => ?_⟩⟩
    have := hNs k hk j hj
    rw [eadd, ← Nat.add_assoc] at this
    exact this
theorem Blk.store12 {w : World} {g : Nat} {t : TypeId} {p0 p1 p2 p3 p4 p5 p6 p7 p8 p9 p10 p11 : Value} (h : Blk w g t #[p0, p1, p2, p3, p4, p5, p6, p7, p8, p9, p10, p11]) (v0 v1 v2 v3 v4 v5 v6 v7 v8 v9 v10 v11 : Value) : Blk ((((((((((((w.setCell ⟨g, 0, none⟩ v0).setCell ⟨g, 1, none⟩ v1).setCell ⟨g, 2, none⟩ v2).setCell ⟨g, 3, none⟩ v3).setCell ⟨g, 4, none⟩ v4).setCell ⟨g, 5, none⟩ v5).setCell ⟨g, 6, none⟩ v6).setCell ⟨g, 7, none⟩ v7).setCell ⟨g, 8, none⟩ v8).setCell ⟨g, 9, none⟩ v9).setCell ⟨g, 10, none⟩ v10).setCell ⟨g, 11, none⟩ v11) g t #[v0, v1, v2, v3, v4, v5, v6, v7, v8, v9, v10, v11] := by
  simpa using (((((((((((h.set_ 0 v0).set_ 1 v1).set_ 2 v2).set_ 3 v3).set_ 4 v4).set_ 5 v5).set_ 6 v6).set_ 7 v7).set_ 8 v8).set_ 9 v9).set_ 10 v10).set_ 11 v11
theorem Blk.far12 {w : World} {g g2 : Nat} {t : TypeId} {cs : Array Value} (h : Blk w g2 t cs) (hg : g2 ≠ g) (v0 v1 v2 v3 v4 v5 v6 v7 v8 v9 v10 v11 : Value) : Blk ((((((((((((w.setCell ⟨g, 0, none⟩ v0).setCell ⟨g, 1, none⟩ v1).setCell ⟨g, 2, none⟩ v2).setCell ⟨g, 3, none⟩ v3).setCell ⟨g, 4, none⟩ v4).setCell ⟨g, 5, none⟩ v5).setCell ⟨g, 6, none⟩ v6).setCell ⟨g, 7, none⟩ v7).setCell ⟨g, 8, none⟩ v8).setCell ⟨g, 9, none⟩ v9).setCell ⟨g, 10, none⟩ v10).setCell ⟨g, 11, none⟩ v11) g2 t cs :=
  (((((((((((h.far hg _).far hg _).far hg _).far hg _).far hg _).far hg _).far hg _).far hg _).far hg _).far hg _).far hg _).far hg _
theorem below_store12 {B : Nat} {a w : World} (h : Below B a w) {g : Nat} (hg : B ≤ g) (v0 v1 v2 v3 v4 v5 v6 v7 v8 v9 v10 v11 : Value) : Below B a ((((((((((((w.setCell ⟨g, 0, none⟩ v0).setCell ⟨g, 1, none⟩ v1).setCell ⟨g, 2, none⟩ v2).setCell ⟨g, 3, none⟩ v3).setCell ⟨g, 4, none⟩ v4).setCell ⟨g, 5, none⟩ v5).setCell ⟨g, 6, none⟩ v6).setCell ⟨g, 7, none⟩ v7).setCell ⟨g, 8, none⟩ v8).setCell ⟨g, 9, none⟩ v9).setCell ⟨g, 10, none⟩ v10).setCell ⟨g, 11, none⟩ v11) :=
  (((((((((((h.setCell hg _).setCell hg _).setCell hg _).setCell hg _).setCell hg _).setCell hg _).setCell hg _).setCell hg _).setCell hg _).setCell hg _).setCell hg _).setCell hg _
theorem EntC.far {w : World} {g off b : Nat} {E : List Ent} (h : EntC w g off E) (hne : b ≠ g) (i : Nat) (u : Value) : EntC (w.setCell ⟨b, i, none⟩ u) g off E := fun j hj =>
  ⟨by rw [World.cell?_setCell_far _ _ _ _ hne]; exact (h j hj).1, by rw [World.cell?_setCell_far _ _ _ _ hne]; exact (h j hj).2⟩
/-- Two entries and more do not lie in a box that holds a packet. -/
theorem Ents.box12 {w : World} {v : Value} {E : List Ent} {b : Nat} {t : TypeId} {p0 : Int} {p1 p2 p3 : ByteArray} {p4 p5 p6 p7 : Int} {p8 p9 : ByteArray} {p10 p11 : Int} (h : Ents w v E) (hb : Blk w b t #[.int .i64 p0, .string p1, .string p2, .string p3, .int .u64 p4, .int .u64 p5, .int .u64 p6, .int .u64 p7, .string p8, .string p9, .int .i64 p10, .int .i64 p11]) (hl : E.length ≠ 1) (v0 v1 v2 v3 v4 v5 v6 v7 v8 v9 v10 v11 : Value) :
    Ents ((((((((((((w.setCell ⟨b, 0, none⟩ v0).setCell ⟨b, 1, none⟩ v1).setCell ⟨b, 2, none⟩ v2).setCell ⟨b, 3, none⟩ v3).setCell ⟨b, 4, none⟩ v4).setCell ⟨b, 5, none⟩ v5).setCell ⟨b, 6, none⟩ v6).setCell ⟨b, 7, none⟩ v7).setCell ⟨b, 8, none⟩ v8).setCell ⟨b, 9, none⟩ v9).setCell ⟨b, 10, none⟩ v10).setCell ⟨b, 11, none⟩ v11) v E := by
  rcases h with h | ⟨h0, g, off, cap, h1, h2, h3, h4⟩
  · exact .inl h
  · have hne : b ≠ g := by
      rintro rfl
      have d0 := (h4 0 (by omega)).1
      have d1 := (h4 0 (by omega)).2
      have d2 := (h4 1 (by omega)).1
      have d3 := (h4 1 (by omega)).2
      rw [hb.cell] at d0 d1 d2 d3
      have hz : off ≤ 8 := by
        have := (Array.getElem?_eq_some_iff.1 d3).1
        simp at this
        omega
      have : off = 0 ∨ off = 1 ∨ off = 2 ∨ off = 3 ∨ off = 4 ∨ off = 5 ∨ off = 6 ∨ off = 7 ∨ off = 8 := by omega
      rcases this with rfl | rfl | rfl | rfl | rfl | rfl | rfl | rfl | rfl <;> simp at d0 d1 d2 d3
    exact .inr ⟨h0, g, off, cap, h1, h2, h3, ((((((((((((h4.far hne _ _).far hne _ _).far hne _ _).far hne _ _).far hne _ _).far hne _ _).far hne _ _).far hne _ _).far hne _ _).far hne _ _).far hne _ _).far hne _ _)⟩
theorem mint_err {E : List Ent} {a d : ByteArray} {n : Nat} (h : (mintL E a d n).1 ≠ 0) : (mintL E a d n).2 = [] := by
  unfold mintL at h ⊢
  by_cases h1 : may1 a d n = true
  · rw [if_pos h1] at h ⊢
    by_cases h2 : wOk (ng E (totB d) + n) = true ∧ wOk (ng E (keyB a d) + n) = true
    · rw [if_pos h2] at h; exact absurd rfl h
    · rw [if_neg h2]
  · rw [if_neg h1]
theorem burn_err {E : List Ent} {a d : ByteArray} {n : Nat} (h : (burnL E a d n).1 ≠ 0) : (burnL E a d n).2 = [] := by
  unfold burnL at h ⊢
  by_cases h1 : may1 a d n = true
  · rw [if_pos h1] at h ⊢
    by_cases h2 : n ≤ ng E (totB d) ∧ n ≤ ng E (keyB a d)
    · rw [if_pos h2] at h; exact absurd rfl h
    · rw [if_neg h2]
  · rw [if_neg h1]
theorem move_err {E : List Ent} {a b d : ByteArray} {n : Nat} (h : (moveL E a b d n).1 ≠ 0) : (moveL E a b d n).2 = [] := by
  unfold moveL at h ⊢
  by_cases h1 : may2 a b d n = true
  · rw [if_pos h1] at h ⊢
    by_cases h2 : n ≤ ng E (keyB a d)
    · rw [if_pos h2] at h ⊢
      by_cases h3 : a = b
      · rw [if_pos h3] at h; exact absurd rfl h
      · rw [if_neg h3] at h ⊢
        by_cases h4 : wOk (ng E (keyB b d) + n) = true
        · rw [if_pos h4] at h; exact absurd rfl h
        · rw [if_neg h4]
    · rw [if_neg h2]
  · rw [if_neg h1]
theorem sel_err {ok home : Bool} {r1 r2 : Int × List Ent} (h1 : r1.1 ≠ 0 → r1.2 = []) (h2 : r2.1 ≠ 0 → r2.2 = []) (h : (sel17 ok home r1 r2).1 ≠ 0) : (sel17 ok home r1 r2).2 = [] := by
  unfold sel17 at h ⊢
  cases ok
  · rfl
  · cases home
    · exact h2 h
    · exact h1 h
theorem send_err {E : List Ent} {sq ht tm : Int} {s k d f g : ByteArray} {n : Nat} (h : (sendL E sq ht tm s k d f g n).1 ≠ 0) : (sendL E sq ht tm s k d f g n).2 = [] := sel_err burn_err move_err h
theorem refund_err {E : List Ent} {sq ht tm : Int} {s k d f g : ByteArray} {n : Nat} (h : (refundL E sq ht tm s k d f g n).1 ≠ 0) : (refundL E sq ht tm s k d f g n).2 = [] := sel_err mint_err move_err h
theorem recv_err {E : List Ent} {sq ht tm : Int} {s k d f g : ByteArray} {n : Nat} (h : (recvL E sq ht tm s k d f g n).1 ≠ 0) : (recvL E sq ht tm s k d f g n).2 = [] := by
  unfold recvL at h ⊢
  by_cases h1 : okDen (bysN (arrB s k d)) = true
  · rw [if_pos h1] at h ⊢; exact sel_err move_err mint_err h
  · rw [if_neg h1]
theorem sel_yes {ok home : Bool} {r1 r2 : Int × List Ent} {A : List Ent} (h : sel17 ok home r1 r2 = (0, A)) : ok = true ∧ ((home = true ∧ r1 = (0, A)) ∨ (home = false ∧ r2 = (0, A))) := by
  unfold sel17 at h
  cases ok
  · exact absurd (Prod.mk.inj h).1 (by decide)
  · cases home
    · exact ⟨rfl, .inr ⟨rfl, h⟩⟩
    · exact ⟨rfl, .inl ⟨rfl, h⟩⟩
theorem send_bko {E : List Ent} (hs : Srt E) (hb : BkO E) {sq ht tm : Int} {s k d f g : ByteArray} {n : Nat} {A : List Ent} (h : sendL E sq ht tm s k d f g n = (0, A)) : BkO A := by
  obtain ⟨_, ⟨_, h1⟩ | ⟨_, h1⟩⟩ := sel_yes h
  · exact hb.burn hs h1
  · exact hb.move hs h1
theorem recv_bko {E : List Ent} (hs : Srt E) (hb : BkO E) {sq ht tm : Int} {s k d f g : ByteArray} {n : Nat} {A : List Ent} (h : recvL E sq ht tm s k d f g n = (0, A)) : BkO A := by
  unfold recvL at h
  by_cases h0 : okDen (bysN (arrB s k d)) = true
  · rw [if_pos h0] at h
    obtain ⟨_, ⟨_, h1⟩ | ⟨_, h1⟩⟩ := sel_yes h
    · exact hb.move hs h1
    · exact hb.mint hs h1
  · rw [if_neg h0] at h; exact absurd (Prod.mk.inj h).1 (by decide)
theorem burn_mint {E : List Ent} (hs : Srt E) (hc : Can E) {a d : ByteArray} {n : Nat} {A : List Ent} (h : burnL E a d n = (0, A)) : mintL A a d n = (0, E) := by
  obtain ⟨h1, h2, h3⟩ := burn_le h
  obtain rfl := burn_set h
  have hne := key_ne_tot a d d
  have hT := ng_lt E (totB d)
  have hK := ng_lt E (keyB a d)
  have n0 := (may1_pos h1).1
  have e1 : ng (setL (setL E (totB d) (ng E (totB d) - n)) (keyB a d) (ng E (keyB a d) - n)) (totB d) = ng E (totB d) - n := by rw [ng_set_ne (set_srt hs _ _) _ _ hne.symm, ng_set hs _ hT.sub]
  have e2 : ng (setL (setL E (totB d) (ng E (totB d) - n)) (keyB a d) (ng E (keyB a d) - n)) (keyB a d) = ng E (keyB a d) - n := ng_set (set_srt hs _ _) _ hK.sub
  unfold mintL
  rw [if_pos h1, e1, e2, Nat.sub_add_cancel h2, Nat.sub_add_cancel h3, if_pos ⟨decide_eq_true hT, decide_eq_true hK⟩]
  refine Prod.ext rfl (srt_ext_get (put_srt (put_srt (set_srt (set_srt hs _ _) _ _) _ _) _ _) hs fun k => ?_)
  rw [← set_pos (k := totB d) (n := ng E (totB d)) (by omega), ← set_pos (k := keyB a d) (n := ng E (keyB a d)) (by omega)]
  show getL (setL (setL (setL (setL E (totB d) (ng E (totB d) - n)) (keyB a d) (ng E (keyB a d) - n)) (totB d) (ng E (totB d))) (keyB a d) (ng E (keyB a d))) k = getL E k
  rw [get_setL (set_srt (set_srt (set_srt hs _ _) _ _) _ _)]
  by_cases k1 : k = keyB a d
  · rw [if_pos k1, k1, can_get hc (keyB a d)]
  · rw [if_neg k1, get_setL (set_srt (set_srt hs _ _) _ _)]
    by_cases k2 : k = totB d
    · rw [if_pos k2, k2, can_get hc (totB d)]
    · rw [if_neg k2, get_setL (set_srt hs _ _), if_neg k1, get_setL hs, if_neg k2]
/-- What is sent and given back leaves the map as it was. -/
theorem send_refund {E : List Ent} (hs : Srt E) (hb : BkO E) {sq ht tm : Int} {s k d f g : ByteArray} {n : Nat} {A : List Ent} (h : sendL E sq ht tm s k d f g n = (0, A)) : refundL A sq ht tm s k d f g n = (0, E) := by
  obtain ⟨ho, ⟨hh, h1⟩ | ⟨hh, h1⟩⟩ := sel_yes h
  · unfold refundL sel17
    rw [if_pos ho, if_pos hh]
    exact burn_mint hs hb.1 h1
  · unfold refundL sel17
    rw [if_pos ho, if_neg (by rw [hh]; exact Bool.false_ne_true)]
    exact (move_back hs hb.1 h1).1
theorem open_pkt17 {H : Type} {enc : TypeId × Value → H} {W : World} {base : Nat} {sp : Nat → Bool} {hd : Bool} {v : Value} {dd : DataW H} {p : List MemPlace} (hv : Value.okWide Tryz.prog W .any base 35 v) (h : DataW.Trod enc Tryz.prog W 0 sp hd 35 v dd p) :
    ∃ (q ht tm : Int) (s k d f g : ByteArray) (n : Nat), W256 n ∧ v = .agg #[.int .i64 q, .string s, .string k, .string d, .int .u64 (limb n 0), .int .u64 (limb n 1), .int .u64 (limb n 2), .int .u64 (limb n 3), .string f, .string g, .int .i64 ht, .int .i64 tm] := by
  obtain ⟨cs, rfl, _⟩ := okWide_struct Tryz.underlying35 hv
  obtain ⟨fuel, hf⟩ := h
  obtain ⟨q, ht, tm, s, k, d, f, g, n, hn, e⟩ := pkt_cells hf
  refine ⟨q, ht, tm, s, k, d, f, g, n, hn, ?_⟩
  have e2 : cs.toList = [.int .i64 q, .string s, .string k, .string d, .int .u64 (limb n 0), .int .u64 (limb n 1), .int .u64 (limb n 2), .int .u64 (limb n 3), .string f, .string g, .int .i64 ht, .int .i64 tm] := by simpa [Value.cells] using e
  rw [← Array.toArray_toList (xs := cs), e2]
end Go.Proofs.YtpcdgljcpacpiaaGreatDoor
