/- Contracts of layer 8 (dict): Of, Under. -/
import Derived.Test.YtkahnobignaccaaD6
import Derived.Deep.RegionHeld
namespace Go.Proofs.Ytkahnobignaccaa
open Go.RowKit
attribute [local go_sem ↓] Go.wp_at_zero Go.wp_at_succ
instance (E : List Ent) (k x : ByteArray) : Decidable (putOk E k x) := by unfold putOk; infer_instance
def stepL (E : List Ent) (x : Ent) : List Ent := if putOk E x.1 x.2 then putL E x.1 x.2 else E
def ofL (L : List Ent) : List Ent := L.foldl stepL []
theorem ofL_snoc (L : List Ent) (x : Ent) : ofL (L ++ [x]) = stepL (ofL L) x := by simp [ofL, List.foldl_append]
theorem stepL_inv {E : List Ent} (x : Ent) (hs : Srt E) (hl : E.length ≤ 2000) : Srt (stepL E x) ∧ (stepL E x).length ≤ 2000 := by
  unfold stepL
  split
  · rename_i h
    refine ⟨put_srt hs _ _, ?_⟩
    have h1 := put_len hs x.1 x.2
    unfold hitN at h1
    rcases h.2.2 with h2 | h2
    · rw [h2] at h1; simp at h1; omega
    · split at h1 <;> omega
  · exact ⟨hs, hl⟩
theorem ofL_inv (L : List Ent) : Srt (ofL L) ∧ (ofL L).length ≤ 2000 := by
  suffices h : ∀ (L E : List Ent), Srt E → E.length ≤ 2000 → Srt (L.foldl stepL E) ∧ (L.foldl stepL E).length ≤ 2000 from h L [] List.Pairwise.nil (by decide)
  intro L
  induction L with
  | nil => intro E h1 h2; exact ⟨h1, h2⟩
  | cons x L ih => intro E h1 h2; exact ih _ (stepL_inv x h1 h2).1 (stepL_inv x h1 h2).2
/-- What Put comes to. -/
theorem put_any (v : Value) (E : List Ent) (k x : ByteArray) (w : World) (hv : Ents w v E) (hs : Srt E) (hl : E.length ≤ 2000) :
    Calls Try.prog 11 #[.agg #[v], .string k, .string x] w fun e w' => ∃ v' c, e = .returned (.tuple #[.agg #[v'], .int .i64 c]) ∧ ((putOk E k x ∧ c = 0 ∧ Ents w' v' (putL E k x)) ∨ (¬ putOk E k x ∧ (c = 11 ∨ c = 15) ∧ v' = .slice none 0 0)) ∧ Below w.heap.size w w' := by
  by_cases h1 : 400 < k.size ∨ 4000 < x.size
  · exact (put_size v k x w h1).mono fun e w' ⟨he, hb⟩ => ⟨_, _, he, .inr ⟨fun h => by have := h.1; have := h.2.1; omega, .inl rfl, rfl⟩, hb⟩
  · cases hh : hasK E k with
    | true => exact (put_has v E k x w hv hs hl (by omega) (by omega) hh).mono fun e w' ⟨v', he, hen, hb⟩ => ⟨_, _, he, .inl ⟨⟨by omega, by omega, .inl hh⟩, rfl, hen⟩, hb⟩
    | false =>
      rcases Nat.lt_or_ge E.length 2000 with h2 | h2
      · exact (put_new v E k x w hv hs h2 (by omega) (by omega) hh).mono fun e w' ⟨v', he, hen, hb⟩ => ⟨_, _, he, .inl ⟨⟨by omega, by omega, .inr h2⟩, rfl, hen⟩, hb⟩
      · exact (put_full v E k x w hv hs (by omega) (by omega) (by omega) hh).mono fun e w' ⟨he, hb⟩ => ⟨_, _, he, .inr ⟨fun h => by rcases h.2.2 with h3 | h3; (rw [hh] at h3; cases h3); omega, .inr rfl, rfl⟩, hb⟩
theorem Ents.nil (w : World) : Ents w (.slice none 0 0) [] := .inl ⟨rfl, none, 0, rfl, by decide⟩
/-- Entries do not lie in a box that holds a slice. -/
theorem Ents.box {w : World} {v : Value} {E : List Ent} {b : Nat} {t : TypeId} {q : Option Addr} {n c : Nat} (h : Ents w v E) (hb : Blk w b t #[.slice q n c]) (u : Value) : Ents (w.setCell ⟨b, 0, none⟩ u) v E := by
  rcases h with h | ⟨h0, g, off, cap, h1, h2, h3, h4⟩
  · exact .inl h
  · refine .inr ⟨h0, g, off, cap, h1, h2, h3, fun i hi => ?_⟩
    have hne : b ≠ g := by
      rintro rfl
      have hc := (h4 i hi).1
      rw [hb.cell] at hc
      have hz : off + i * 2 = 0 := by
        have := (Array.getElem?_eq_some_iff.1 hc).1
        simp at this
        omega
      rw [hz] at hc
      simp at hc
    exact ⟨by rw [World.cell?_setCell_far _ _ _ _ hne]; exact (h4 i hi).1, by rw [World.cell?_setCell_far _ _ _ _ hne]; exact (h4 i hi).2⟩
set_option maxHeartbeats 2000000 in
theorem of_any (u : Value) (L : List Ent) (w : World) (hv : Ents w u L) (hl : L.length ≤ 1000000) :
    Calls Try.prog 10 #[u] w fun e w' => ∃ v', e = .returned (.agg #[v']) ∧ Ents w' v' (ofL L) ∧ Below w.heap.size w w' := by
  rcases hv with ⟨rfl, q, cap, rfl, _⟩ | ⟨h0, g, off, cap, rfl, hc1, hc2, hent⟩
  · go_enter Try.func10, Try.ntmps10
    go_wp2_with fail
    go_loopw [10] (fun i wr => i = .int .i64 0 ∧ Blk wr w.heap.size 28 #[.slice none 0 0] ∧ Blk wr (w.heap.size + 1) 28 #[.slice none 0 0] ∧ Below w.heap.size w wr) (fun _ _ => 0)
    case atStart => exact ⟨rfl, (blk1 w _ _).alloc _, blk2 w (.cells #[.slice none 0 0] 28) 28 #[.slice none 0 0], BW_alloc (BW_alloc (BW_refl w) _) _⟩
    case round =>
      obtain ⟨rfl, kr, kd, hB⟩ := hrel
      have cd := fun i => kd.cell i
      have fr := fun i => kr.free i
      have cr := fun i => kr.cell i
      go_wp2_with fail
      have hcc := fun i => (kr.set_ 0 (.slice none 0 0)).cell i
      refine bodyPost_ret (v := .agg #[.slice none 0 0]) (by simp [results, Try.results10, go_sem, hcc]) rfl ⟨_, rfl, Ents.nil _, BW_off (by simp) _ hB⟩
  · have Hent := Lib.hid hent
    clear hent
    go_enter Try.func10, Try.ntmps10
    go_wp2_with fail
    go_loopw [10] (fun i wr => ∃ (k : Nat) (d : Value), k ≤ L.length ∧ i = .int .i64 (k : Int) ∧ Hid (Ents wr d (ofL (L.take k))) ∧ Blk wr w.heap.size 28 #[.slice none 0 0] ∧ Blk wr (w.heap.size + 1) 28 #[d] ∧ Below w.heap.size w wr) (fun i _ => L.length - (intOf i).toNat)
    case atStart => exact ⟨0, _, by omega, rfl, Ents.nil _, (blk1 w _ _).alloc _, blk2 w (.cells #[.slice none 0 0] 28) 28 #[.slice none 0 0], BW_alloc (BW_alloc (BW_refl w) _) _⟩
    case round =>
      obtain ⟨k, d, hk, rfl, hd, kr, kd, hB⟩ := hrel
      obtain ⟨q0, cap0, n0, rfl⟩ : ∃ q1 cap1 n1, d = .slice q1 n1 cap1 := by obtain ⟨q, c, h⟩ := hd.out.len; exact ⟨q, c, _, h⟩
      have cd := fun i => kd.cell i
      by_cases hlt : k < L.length
      · have hc := (Hent.out.on hB) k hlt
        have hk1 : (k : Int) < (L.length : Int) := by omega
        have hinv := ofL_inv (L.take k)
        have hsn : ofL (L.take (k + 1)) = stepL (ofL (L.take k)) L[k] := by rw [List.take_succ_eq_append_getElem hlt, ofL_snoc]
        have hput := fun w hv => put_any (.slice q0 n0 cap0) (ofL (L.take k)) L[k].1 L[k].2 w hv hinv.1 hinv.2
        have hst : stepL (ofL (L.take k)) L[k] = if putOk (ofL (L.take k)) L[k].1 L[k].2 then putL (ofL (L.take k)) L[k].1 L[k].2 else ofL (L.take k) := rfl
        rw [hst] at hsn
        have Hsn := Lib.hid hsn
        have Hput := Lib.hid hput
        clear hsn hput hst hinv
        generalize L[k].1 = a1 at *
        generalize L[k].2 = a2 at *
        have kr1 := kr.alloc (.cells #[.string a1, .string a2] 26)
        have kd1 := kd.alloc (.cells #[.string a1, .string a2] 26)
        have hB1 := BW_alloc hB (.cells #[.string a1, .string a2] 26)
        have hd1 := hd.out.on (BW_alloc (BW_refl wr) (.cells #[.string a1, .string a2] 26))
        have Hd1 := Lib.hid hd1
        clear cd hd1
        have cd := fun i => kd1.cell i
        go_wp2_with fail
        refine (Hput.out _ Hd1.out).mono ?_
        rintro e w1 ⟨v1, c, rfl, hcase, hb1⟩
        have kr2 := (kr1.on hb1).alloc (.cells #[v1] 28)
        have kd2 := (kd1.on hb1).alloc (.cells #[v1] 28)
        have kn2 := Blk.new w1 28 #[v1]
        have hB2 := BW_alloc (BW_on hB1 hb1) (.cells #[v1] 28)
        have hd2 := (Hd1.out.on hb1).on (BW_alloc (BW_refl w1) (.cells #[v1] 28))
        have Hd2 := Lib.hid hd2
        have Hcase := Lib.hid hcase
        clear cd hcase hd2
        have cn := fun i => kn2.cell i
        have fd := fun i => kd2.free i
        have cd := fun i => kd2.cell i
        rcases Hcase.out with ⟨hok, rfl, hen⟩ | ⟨hno, hcc, rfl⟩
        · have hs2 := Lib.hid (Hsn.out.trans (if_pos hok))
          have hen2 := hen.on (BW_alloc (BW_refl w1) (.cells #[v1] 28))
          rw [← hs2.out] at hen2
          have Hen := Lib.hid hen2
          clear hok hen hen2
          obtain ⟨q1, cap1, n1, rfl⟩ : ∃ q1 cap1 n1, v1 = .slice q1 n1 cap1 := by obtain ⟨q, c, h⟩ := Hen.out.len; exact ⟨q, c, _, h⟩
          go_wp2_with fail
          go_roundw
          case rel => exact ⟨k + 1, _, by omega, by go_num, Hen.out.box kd2 _, kr2.off (by simp) _, kd2.set_ 0 _, BW_off (by simp) _ hB2⟩
          case measure => simp [intOf]; omega
        · have hs2 := Lib.hid (Hsn.out.trans (if_neg hno))
          have hc0 : ((c : Int) == 0) = false := by rcases hcc with rfl | rfl <;> rfl
          clear hno hcc
          go_wp2_with fail
          go_roundw
          case rel => exact ⟨k + 1, .slice q0 n0 cap0, by omega, by go_num, by rw [hs2.out]; exact Hd2.out, kr2, kd2, hB2⟩
          case measure => simp [intOf]; omega
      · obtain rfl : k = L.length := by omega
        rw [List.take_length] at hd
        have fr := fun i => kr.free i
        have cr := fun i => kr.cell i
        go_wp2_with fail
        have hcc := fun i => (kr.set_ 0 (.slice q0 n0 cap0)).cell i
        refine bodyPost_ret (v := .agg #[.slice q0 n0 cap0]) (by simp [results, Try.results10, go_sem, hcc]) rfl ⟨_, rfl, hd.out.box kr _, BW_off (by simp) _ hB⟩
end Go.Proofs.Ytkahnobignaccaa
