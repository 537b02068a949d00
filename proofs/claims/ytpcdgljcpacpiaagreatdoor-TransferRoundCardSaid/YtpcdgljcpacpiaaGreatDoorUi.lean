/- A row of bytes that the call owns (what []byte(s) makes), a byte of it stored. -/
import Derived.Test.YtpcdgljcpacpiaaGreatDoorMH
namespace Go.Proofs.YtpcdgljcpacpiaaGreatDoor
open Go.RowKit
/-- A block that holds n bytes at its head; none of them is frozen. -/
def ByR (w : World) (g n : Nat) (xs : List Value) : Prop := xs.length = n ∧ ∃ cur fz, w.heap[g]? = some (.cells cur 5 fz) ∧ (fz.2 = 0 ∨ n ≤ fz.1) ∧ n ≤ cur.size ∧ cur.toList.take n = xs
theorem ByR.lt {w : World} {g n : Nat} {xs : List Value} (h : ByR w g n xs) : g < w.heap.size := by
  obtain ⟨_, cur, fz, h3, _⟩ := h
  rcases Nat.lt_or_ge g w.heap.size with h' | h'
  · exact h'
  · simp [Array.getElem?_eq_none h'] at h3
theorem ByR.on {w w' : World} {g n : Nat} {xs : List Value} (h : ByR w g n xs) (hb : Below w.heap.size w w') : ByR w' g n xs := by
  have hl := h.lt
  obtain ⟨h1, cur, fz, h3, h4⟩ := h
  exact ⟨h1, cur, fz, by rw [hb.block g hl, h3], h4⟩
theorem ByR.cell {w : World} {g n : Nat} {xs : List Value} (h : ByR w g n xs) {j : Nat} (hj : j < n) : w.cell? ⟨g, j, none⟩ = xs[j]? := by
  obtain ⟨h1, cur, fz, h3, h4, h5, h6⟩ := h
  rw [cell_of_row w g j cur 5 fz h3, ← h6, List.getElem?_take, if_pos hj]
  simp
theorem ByR.free {w : World} {g n : Nat} {xs : List Value} (h : ByR w g n xs) {j : Nat} (hj : j < n) : w.frozen? ⟨g, j, none⟩ = false := by
  obtain ⟨h1, cur, fz, h3, h4, h5, h6⟩ := h
  obtain ⟨f1, f2⟩ := fz
  simp only at h4
  simp [World.frozen?, h3]
  omega
theorem ByR.set_ {w : World} {g n : Nat} {xs : List Value} (h : ByR w g n xs) (i : Nat) (u : Value) : ByR (w.setCell ⟨g, i, none⟩ u) g n (xs.set i u) := by
  obtain ⟨h1, cur, fz, h3, h4, h5, h6⟩ := h
  refine ⟨by rw [List.length_set]; exact h1, cur.setIfInBounds i u, fz, by simp [World.setCell, Array.getElem?_modify, h3], h4, by rw [Array.size_setIfInBounds]; exact h5, ?_⟩
  rw [Array.toList_setIfInBounds, List.take_set, h6]
theorem ByR.of {w : World} {base g n cap : Nat} {xs : List Value} (h : ownB w base 5 (.slice (some ⟨g, 0, none⟩) n cap) n xs) : ByR w g n xs := by
  obtain ⟨h1, g', cap', cur, fz, hv, h2, h3, h4, h5, h6, h7, h8⟩ := h
  simp only [Value.slice.injEq, Option.some.injEq, Addr.mk.injEq, and_true, true_and] at hv
  obtain ⟨rfl, rfl⟩ := hv
  exact ⟨h1, cur, fz, h3, by omega, by omega, h8⟩
theorem ByR.text {w : World} {g : Nat} {L : List Nat} (h : ByR w g L.length (U8s L)) (hL : ∀ b ∈ L, b < 256) (c : Nat) : ∃ s : ByteArray, bysN s = L ∧ (convert 56 9 (.slice (some ⟨g, 0, none⟩) L.length c)).run Tryz.prog w = .ok (.string s) w := by
  refine ⟨⟨(L.map fun b => UInt8.ofNat b).toArray⟩, ?_, ?_⟩
  · simp only [bysN, List.map_map]
    refine (List.map_congr_left fun b hb => ?_).trans (List.map_id L)
    show (UInt8.ofNat b).toNat = b
    rw [UInt8.toNat_ofNat']
    exact Nat.mod_eq_of_lt (hL b hb)
  · have h := run_convert_bytes_back (P := Tryz.prog) w 56 9 5 ⟨g, 0, none⟩ c (L.map fun b => UInt8.ofNat b) Tryz.underlying56 Tryz.underlying5 Tryz.underlying9 (fun j hj => by
      have hj2 : j < L.length := by simpa using hj
      rw [addr_add, Nat.zero_add, h.cell hj2, List.getElem_map, UInt8.toNat_ofNat', Nat.mod_eq_of_lt (hL _ (List.getElem_mem hj2))]
      simp [U8s, List.getElem?_eq_getElem hj2])
    rw [List.length_map] at h
    exact h
end Go.Proofs.YtpcdgljcpacpiaaGreatDoor
