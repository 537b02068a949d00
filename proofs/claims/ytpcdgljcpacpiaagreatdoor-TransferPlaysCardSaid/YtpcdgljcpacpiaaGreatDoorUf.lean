/- Rows of the transfer laws' steps, opened; a packet's box stored whole. -/
import Derived.Test.YtpcdgljcpacpiaaGreatDoorUd
import Derived.Test.YtpcdgljcpacpiaaGreatDoorBo
import Derived.Deep.Slices
import Derived.Laws.IdiomArrays
set_option maxRecDepth 20000
namespace Go.Proofs.YtpcdgljcpacpiaaGreatDoor
open Go.RowKit Go.ChangeShapes Go.WideShapes
theorem coin_cells {H : Type} {enc : TypeId × Value → H} {W : World} {base fuel : Nat} {sp : Nat → Bool} {hd : Bool} {cs : List Value} {x : DataW H × List MemPlace} (h : DataW.trod enc Tryz.prog W base sp hd fuel 33 cs = some x) :
    ∃ (d f g : ByteArray) (n : Nat), W256 n ∧ cs = [.string d, .int .u64 (limb n 0), .int .u64 (limb n 1), .int .u64 (limb n 2), .int .u64 (limb n 3), .string f, .string g] := by
  obtain ⟨ys, n', _, _, hl, hyl, hf⟩ := DataW.trod_struct Tryz.underlying33 h
  have hC : Tryz.prog.cellsOf 33 = 7 := by kernel_rfl
  rw [hC] at hl
  match cs, hl with
  | [c0, c1, c2, c3, c4, c5, c6], _ =>
    have hzST : Tryz.prog.cellsOf 9 = 1 := by kernel_rfl
    have hzWI : Tryz.prog.cellsOf 31 = 4 := by kernel_rfl
    have h0 : DataW.trod enc Tryz.prog W base sp hd n' 9 (([c0, c1, c2, c3, c4, c5, c6].drop 0).take (Tryz.prog.cellsOf 9)) = ys[0]? := hf 0 _ rfl
    have h1 : DataW.trod enc Tryz.prog W base sp hd n' 31 (([c0, c1, c2, c3, c4, c5, c6].drop 1).take (Tryz.prog.cellsOf 31)) = ys[1]? := hf 1 _ rfl
    have h2 : DataW.trod enc Tryz.prog W base sp hd n' 9 (([c0, c1, c2, c3, c4, c5, c6].drop 5).take (Tryz.prog.cellsOf 9)) = ys[2]? := hf 2 _ rfl
    have h3 : DataW.trod enc Tryz.prog W base sp hd n' 9 (([c0, c1, c2, c3, c4, c5, c6].drop 6).take (Tryz.prog.cellsOf 9)) = ys[3]? := hf 3 _ rfl
    rw [hzST] at h0 h2 h3
    rw [hzWI] at h1
    simp only [List.drop_zero, List.drop_succ_cons, List.take_succ_cons, List.take_zero] at h0 h1 h2 h3
    match ys, hyl with
    | [y0, y1, y2, y3], _ =>
      obtain ⟨d, e0, _⟩ := DataW.trod_string Tryz.underlying9 h0
      obtain ⟨n, hn, e1⟩ := wide_cells h1
      obtain ⟨f, e2, _⟩ := DataW.trod_string Tryz.underlying9 h2
      obtain ⟨g, e3, _⟩ := DataW.trod_string Tryz.underlying9 h3
      simp only [List.cons.injEq, and_true] at e0 e1 e2 e3
      obtain ⟨e10, e11, e12, e13⟩ := e1
      exact ⟨d, f, g, n, hn, by rw [e0, e10, e11, e12, e13, e2, e3]⟩
theorem pkt_cells {H : Type} {enc : TypeId × Value → H} {W : World} {base fuel : Nat} {sp : Nat → Bool} {hd : Bool} {cs : List Value} {x : DataW H × List MemPlace} (h : DataW.trod enc Tryz.prog W base sp hd fuel 35 cs = some x) :
    ∃ (q ht tm : Int) (s k d f g : ByteArray) (n : Nat), W256 n ∧ cs = [.int .i64 q, .string s, .string k, .string d, .int .u64 (limb n 0), .int .u64 (limb n 1), .int .u64 (limb n 2), .int .u64 (limb n 3), .string f, .string g, .int .i64 ht, .int .i64 tm] := by
  obtain ⟨ys, n', _, _, hl, hyl, hf⟩ := DataW.trod_struct Tryz.underlying35 h
  have hC : Tryz.prog.cellsOf 35 = 12 := by kernel_rfl
  rw [hC] at hl
  match cs, hl with
  | [c0, c1, c2, c3, c4, c5, c6, c7, c8, c9, c10, c11], _ =>
    have hzINT : Tryz.prog.cellsOf 3 = 1 := by kernel_rfl
    have hzST : Tryz.prog.cellsOf 9 = 1 := by kernel_rfl
    have hzCOIN : Tryz.prog.cellsOf 33 = 7 := by kernel_rfl
    have h0 : DataW.trod enc Tryz.prog W base sp hd n' 3 (([c0, c1, c2, c3, c4, c5, c6, c7, c8, c9, c10, c11].drop 0).take (Tryz.prog.cellsOf 3)) = ys[0]? := hf 0 _ rfl
    have h1 : DataW.trod enc Tryz.prog W base sp hd n' 9 (([c0, c1, c2, c3, c4, c5, c6, c7, c8, c9, c10, c11].drop 1).take (Tryz.prog.cellsOf 9)) = ys[1]? := hf 1 _ rfl
    have h2 : DataW.trod enc Tryz.prog W base sp hd n' 9 (([c0, c1, c2, c3, c4, c5, c6, c7, c8, c9, c10, c11].drop 2).take (Tryz.prog.cellsOf 9)) = ys[2]? := hf 2 _ rfl
    have h3 : DataW.trod enc Tryz.prog W base sp hd n' 33 (([c0, c1, c2, c3, c4, c5, c6, c7, c8, c9, c10, c11].drop 3).take (Tryz.prog.cellsOf 33)) = ys[3]? := hf 3 _ rfl
    have h4 : DataW.trod enc Tryz.prog W base sp hd n' 3 (([c0, c1, c2, c3, c4, c5, c6, c7, c8, c9, c10, c11].drop 10).take (Tryz.prog.cellsOf 3)) = ys[4]? := hf 4 _ rfl
    have h5 : DataW.trod enc Tryz.prog W base sp hd n' 3 (([c0, c1, c2, c3, c4, c5, c6, c7, c8, c9, c10, c11].drop 11).take (Tryz.prog.cellsOf 3)) = ys[5]? := hf 5 _ rfl
    rw [hzINT] at h0 h4 h5
    rw [hzST] at h1 h2
    rw [hzCOIN] at h3
    simp only [List.drop_zero, List.drop_succ_cons, List.take_succ_cons, List.take_zero] at h0 h1 h2 h3 h4 h5
    match ys, hyl with
    | [y0, y1, y2, y3, y4, y5], _ =>
      obtain ⟨q, e0, _⟩ := DataW.trod_int Tryz.underlying3 h0
      obtain ⟨s, e1, _⟩ := DataW.trod_string Tryz.underlying9 h1
      obtain ⟨k, e2, _⟩ := DataW.trod_string Tryz.underlying9 h2
      obtain ⟨d, f, g, n, hn, e3⟩ := coin_cells h3
      obtain ⟨ht, e4, _⟩ := DataW.trod_int Tryz.underlying3 h4
      obtain ⟨tm, e5, _⟩ := DataW.trod_int Tryz.underlying3 h5
      simp only [List.cons.injEq, and_true] at e0 e1 e2 e3 e4 e5
      obtain ⟨e30, e31, e32, e33, e34, e35, e36⟩ := e3
      exact ⟨q, ht, tm, s, k, d, f, g, n, hn, by rw [e0, e1, e2, e30, e31, e32, e33, e34, e35, e36, e4, e5]⟩
structure StpT where
  kd : Int
  q : Int
  ht : Int
  tm : Int
  s : ByteArray
  k : ByteArray
  d : ByteArray
  f : ByteArray
  g : ByteArray
  n : Nat
  hn : W256 n
def StpT.cells (o : StpT) : List Value := [.int .i64 o.kd, .int .i64 o.q, .string o.s, .string o.k, .string o.d, .int .u64 (limb o.n 0), .int .u64 (limb o.n 1), .int .u64 (limb o.n 2), .int .u64 (limb o.n 3), .string o.f, .string o.g, .int .i64 o.ht, .int .i64 o.tm]
theorem step_cells {H : Type} {enc : TypeId × Value → H} {W : World} {base fuel : Nat} {sp : Nat → Bool} {hd : Bool} {cs : List Value} {x : DataW H × List MemPlace} (h : DataW.trod enc Tryz.prog W base sp hd fuel 38 cs = some x) :
    ∃ o : StpT, cs = o.cells := by
  obtain ⟨ys, n', _, _, hl, hyl, hf⟩ := DataW.trod_struct Tryz.underlying38 h
  have hC : Tryz.prog.cellsOf 38 = 13 := by kernel_rfl
  rw [hC] at hl
  match cs, hl with
  | [c0, c1, c2, c3, c4, c5, c6, c7, c8, c9, c10, c11, c12], _ =>
    have hzINT : Tryz.prog.cellsOf 3 = 1 := by kernel_rfl
    have hzPKT : Tryz.prog.cellsOf 35 = 12 := by kernel_rfl
    have h0 : DataW.trod enc Tryz.prog W base sp hd n' 3 (([c0, c1, c2, c3, c4, c5, c6, c7, c8, c9, c10, c11, c12].drop 0).take (Tryz.prog.cellsOf 3)) = ys[0]? := hf 0 _ rfl
    have h1 : DataW.trod enc Tryz.prog W base sp hd n' 35 (([c0, c1, c2, c3, c4, c5, c6, c7, c8, c9, c10, c11, c12].drop 1).take (Tryz.prog.cellsOf 35)) = ys[1]? := hf 1 _ rfl
    rw [hzINT] at h0
    rw [hzPKT] at h1
    simp only [List.drop_zero, List.drop_succ_cons, List.take_succ_cons, List.take_zero] at h0 h1
    match ys, hyl with
    | [y0, y1], _ =>
      obtain ⟨kd, e0, _⟩ := DataW.trod_int Tryz.underlying3 h0
      obtain ⟨q, ht, tm, s, k, d, f, g, n, hn, e1⟩ := pkt_cells h1
      simp only [List.cons.injEq, and_true] at e0 e1
      obtain ⟨e10, e11, e12, e13, e14, e15, e16, e17, e18, e19, e1a, e1b⟩ := e1
      exact ⟨⟨kd, q, ht, tm, s, k, d, f, g, n, hn⟩, by unfold StpT.cells; rw [e0, e10, e11, e12, e13, e14, e15, e16, e17, e18, e19, e1a, e1b]⟩
def StpC (w : World) (g off : Nat) (L : List StpT) : Prop := ∀ i (hi : i < L.length), ∀ j, j < 13 → w.cell? ⟨g, off + i * 13 + j, none⟩ = L[i].cells[j]?
theorem StpC.on {w w' : World} {g off : Nat} {L : List StpT} (h : StpC w g off L) (hb : Below w.heap.size w w') : StpC w' g off L := fun i hi j hj => by
  have h0 := h i hi j hj
  obtain ⟨u, hu⟩ : ∃ u, L[i].cells[j]? = some u := ⟨L[i].cells[j]'hj, List.getElem?_eq_getElem hj⟩
  rw [hu] at h0 ⊢
  exact BW_cell hb h0
theorem open_steps {H : Type} {enc : TypeId × Value → H} {W : World} {base : Nat} {sp : Nat → Bool} {hd : Bool} {v : Value} {d : DataW H} {p : List MemPlace} (hv : Value.okWide Tryz.prog W .any base 22 v) (h : DataW.Trod enc Tryz.prog W 0 sp hd 22 v d p) :
    ∃ (q : Option Addr) (cap : Nat) (L : List StpT), v = .slice q L.length cap ∧ L.length ≤ 9223372036854775807 ∧ (0 < L.length → ∃ g off, q = some ⟨g, off, none⟩ ∧ StpC W g off L) := by
  obtain ⟨a, len, cap, rfl⟩ := okWide_slice Tryz.underlying22 hv
  obtain ⟨fuel, hf⟩ := h
  rcases Go.Deep.open_slice Tryz.underlying22 hf with ⟨h0, _⟩ | ⟨a', len', cap', m, n, D, Pl, hcs, _, hl, hm, hmm, _, hi⟩
  · simp [Value.cells] at h0
    obtain ⟨rfl, rfl, rfl⟩ := h0
    exact ⟨none, 0, [], rfl, by decide, fun h => absurd h (Nat.lt_irrefl _)⟩
  · simp [Value.cells] at hcs
    obtain ⟨rfl, rfl, rfl⟩ := hcs
    rcases Nat.eq_zero_or_pos len with rfl | hpos
    · exact ⟨_, cap, [], rfl, by decide, fun h => absurd h (Nat.lt_irrefl _)⟩
    have hC : Tryz.prog.cellsOf 38 = 13 := by kernel_rfl
    rw [hC] at hi
    have hml : len ≤ m := by rw [hmm]; split <;> omega
    have each : ∀ k, k < len → ∃ o : StpT, ∀ j, j < 13 → W.cell? (a'.add (k * 13 + j)) = o.cells[j]? := by
      intro k hk
      obtain ⟨cs', hc, ht⟩ := hi k (by omega)
      obtain ⟨_, hlen, hat⟩ := World.cells?_some hc
      obtain ⟨o, rfl⟩ := step_cells ht
      refine ⟨o, fun j hj => ?_⟩
      have h5 := hat j (by simpa [StpT.cells] using hj)
      rw [Go.Deep.add_add] at h5
      rw [h5]
    have build : ∃ L : List StpT, L.length = len ∧ ∀ k (hk : k < L.length), ∀ j, j < 13 → W.cell? (a'.add (k * 13 + j)) = L[k].cells[j]? := by
      refine ⟨List.ofFn fun k : Fin len => (each k.1 k.2).choose, by simp, fun k hk => ?_⟩
      simp only [List.getElem_ofFn]
      exact (each k (by simpa using hk)).choose_spec
    obtain ⟨L, hlN, hNs⟩ := build
    have h00 := hNs 0 (by omega) 0 (by decide)
    have hspot : a'.spot = none := by
      simp [Addr.add, World.cell?, StpT.cells] at h00
      split at h00
      · split at h00
        · cases h00
        · rename_i hq; simpa using hq
      · cases h00
    obtain ⟨g, off, spot⟩ := a'
    simp at hspot
    subst hspot
    have eadd : ∀ j, (⟨g, off, none⟩ : Addr).add j = ⟨g, off + j, none⟩ := fun j => by unfold Addr.add; split <;> simp_all
    have hm' : cap ≤ 9223372036854775807 := hm
    refine ⟨_, cap, L, by rw [hlN], by omega, fun _ => ⟨g, off, rfl, fun k hk j hj => ?_⟩⟩
    have := hNs k hk j hj
    rw [eadd, ← Nat.add_assoc] at this
    exact this
theorem EntC.far {w : World} {g off b : Nat} {E : List Ent} (h : EntC w g off E) (hne : b ≠ g) (i : Nat) (u : Value) : EntC (w.setCell ⟨b, i, none⟩ u) g off E := fun j hj =>
  ⟨by rw [World.cell?_setCell_far _ _ _ _ hne]; exact (h j hj).1, by rw [World.cell?_setCell_far _ _ _ _ hne]; exact (h j hj).2⟩
end Go.Proofs.YtpcdgljcpacpiaaGreatDoor
