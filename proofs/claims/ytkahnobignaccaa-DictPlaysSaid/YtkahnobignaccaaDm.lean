/- For the law DictPlays: the exact codes of Put, the document's Drop, rows of changes, texts of zero bytes. -/
import Derived.Test.YtkahnobignaccaaD13
import Derived.Test.YtkahnobignaccaaDf
import Derived.Laws.BytesArg
import Derived.Laws.MakeOwn
namespace Go.Proofs.Ytkahnobignaccaa
open Go.RowKit
attribute [local go_sem ↓] Go.wp_at_zero Go.wp_at_succ
def putC (E : List Ent) (k x : ByteArray) : Int := if 400 < k.size ∨ 4000 < x.size then 11 else if putOk E k x then 0 else 15
theorem putC_ok {E : List Ent} {k x : ByteArray} (h : putOk E k x) : putC E k x = 0 := by
  unfold putC
  rw [if_neg (by have := h.1; have := h.2.1; omega), if_pos h]
theorem putC_no {E : List Ent} {k x : ByteArray} (h : ¬ putOk E k x) : putC E k x = 11 ∨ putC E k x = 15 := by
  unfold putC
  split
  · exact .inl rfl
  · exact .inr rfl
theorem put_code (v : Value) (E : List Ent) (k x : ByteArray) (w : World) (hv : Ents w v E) (hs : Srt E) (hl : E.length ≤ 2000) :
    Calls Try.prog 11 #[.agg #[v], .string k, .string x] w fun e w' => ∃ v', e = .returned (.tuple #[.agg #[v'], .int .i64 (putC E k x)]) ∧ ((putOk E k x ∧ Ents w' v' (putL E k x)) ∨ (¬ putOk E k x ∧ v' = .slice none 0 0)) ∧ Below w.heap.size w w' := by
  by_cases h1 : 400 < k.size ∨ 4000 < x.size
  · exact (put_size v k x w h1).mono fun e w' ⟨he, hb⟩ => ⟨_, by rw [he]; unfold putC; rw [if_pos h1], .inr ⟨fun h => by have := h.1; have := h.2.1; omega, rfl⟩, hb⟩
  · by_cases hok : putOk E k x
    · refine (put_any v E k x w hv hs hl).mono ?_
      rintro e w' ⟨v', c, he, h | ⟨h, _⟩, hb⟩
      · obtain ⟨_, rfl, h⟩ := h
        exact ⟨v', by rw [he, putC_ok hok], .inl ⟨hok, h⟩, hb⟩
      · exact absurd hok h
    · have hh : hasK E k = false := by
        cases hh : hasK E k with
        | false => rfl
        | true => exact absurd ⟨by omega, by omega, .inl hh⟩ hok
      have hl2 : E.length = 2000 := by
        rcases Nat.lt_or_ge E.length 2000 with h2 | h2
        · exact absurd ⟨by omega, by omega, .inr h2⟩ hok
        · omega
      exact (put_full v E k x w hv hs hl2 (by omega) (by omega) hh).mono fun e w' ⟨he, hb⟩ => ⟨_, by rw [he]; unfold putC; rw [if_neg h1, if_neg hok], .inr ⟨hok, rfl⟩, hb⟩
theorem rput_code (v : Value) (E : List Ent) (k x : ByteArray) (w : World) (hv : Ents w v E) (hs : Srt E) (hl : E.length ≤ 2000) :
    Calls Try.prog 21 #[v, .string k, .string x] w fun e w' => ∃ v', e = .returned (.tuple #[v', .int .i64 (putC E k x)]) ∧ ((putOk E k x ∧ Ents w' v' (putL E k x)) ∨ (¬ putOk E k x ∧ v' = .slice none 0 0)) ∧ Below w.heap.size w w' := by
  by_cases h1 : 400 < k.size ∨ 4000 < x.size
  · exact (rput_size v k x w h1).mono fun e w' ⟨he, hb⟩ => ⟨_, by rw [he]; unfold putC; rw [if_pos h1], .inr ⟨fun h => by have := h.1; have := h.2.1; omega, rfl⟩, hb⟩
  · by_cases hok : putOk E k x
    · exact (rput_ok v E k x w hv hs hl hok).mono fun e w' ⟨v', he, hen, hb⟩ => ⟨v', by rw [he, putC_ok hok], .inl ⟨hok, hen⟩, hb⟩
    · have hh : hasK E k = false := by
        cases hh : hasK E k with
        | false => rfl
        | true => exact absurd ⟨by omega, by omega, .inl hh⟩ hok
      have hl2 : E.length = 2000 := by
        rcases Nat.lt_or_ge E.length 2000 with h2 | h2
        · exact absurd ⟨by omega, by omega, .inr h2⟩ hok
        · omega
      exact (rput_full v E k x w hv hl2 (by omega) (by omega) hh).mono fun e w' ⟨he, hb⟩ => ⟨_, by rw [he]; unfold putC; rw [if_neg h1, if_neg hok], .inr ⟨hok, rfl⟩, hb⟩
theorem rdrop_row (v : Value) (E : List Ent) (key : ByteArray) (w : World) (hv : Ents w v E) (hs : Srt E) (hl : E.length ≤ 1000000) :
    Calls Try.prog 19 #[v, .string key] w fun e w' => ∃ v', e = .returned (.tuple #[v', .bool (hasK E key)]) ∧ Ents w' v' (dropL E key) ∧ Below w.heap.size w w' :=
  (rdrop_any v E key w hv hl).mono fun e w' ⟨v', he, h, hb⟩ => ⟨v', by rw [he, filter_drop_lt hs], by rw [filter_drop hs] at h; exact own_ents h, hb⟩
abbrev OpT := ByteArray × ByteArray × Bool × Bool × Int
def OpC (w : World) (g off : Nat) (L : List OpT) : Prop := ∀ i (hi : i < L.length), w.cell? ⟨g, off + i * 5, none⟩ = some (.string L[i].1) ∧ w.cell? ⟨g, off + i * 5 + 1, none⟩ = some (.string L[i].2.1) ∧ w.cell? ⟨g, off + i * 5 + 2, none⟩ = some (.bool L[i].2.2.1) ∧ w.cell? ⟨g, off + i * 5 + 3, none⟩ = some (.bool L[i].2.2.2.1) ∧ w.cell? ⟨g, off + i * 5 + 4, none⟩ = some (.int .i64 L[i].2.2.2.2)
theorem OpC.on {w w' : World} {g off : Nat} {L : List OpT} (h : OpC w g off L) (hb : Below w.heap.size w w') : OpC w' g off L := fun i hi =>
  have ⟨h1, h2, h3, h4, h5⟩ := h i hi
  ⟨BW_cell hb h1, BW_cell hb h2, BW_cell hb h3, BW_cell hb h4, BW_cell hb h5⟩
theorem infoU8 : (Try.prog.info? 5).map (fun i => (i.zero, i.size, i.bytes)) = some (some (.int .u8 0), 1, 1) := by kernel_rfl
def zc (n : Nat) : Array Value := madeCells #[.int .u8 0] n
theorem make_b (c : Int) (h0 : 0 ≤ c) (h1 : c ≤ 1000000) (w : World) : (Instr.makeSlice 24 (.int .i64 c) (.int .i64 c)).run Try.prog w = .ok (.slice (some ⟨w.heap.size, 0, none⟩) c.toNat c.toNat) (w.alloc (.cells (zc c.toNat) 5)) := by
  obtain ⟨i, hi, hz, hs, hb⟩ := info_parts infoU8
  have h := run_make (P := Try.prog) w 24 5 i (.int .u8 0) Try.underlying24 hi hz .i64 .i64 c c h0 (Int.le_refl _) (by rw [hb]; omega) (by omega)
  rw [h, hs]
  simp [zc, Value.cells]
theorem zc_get (n i : Nat) (h : i < n) : (zc n)[i]? = some (.int .u8 0) := by
  simp [zc, madeCells, h, Nat.mod_one]
theorem conv_z (n c : Nat) (w : World) : ∃ s, (convert 24 9 (.slice (some ⟨w.heap.size, 0, none⟩) n c)).run Try.prog (w.alloc (.cells (zc n) 5)) = .ok (.string s) (w.alloc (.cells (zc n) 5)) := by
  refine ⟨_, run_convert_bytes_arg (w.alloc (.cells (zc n) 5)) 24 5 Try.underlying24 Try.underlying5 w.heap.size 0 n c (List.replicate n 0) (by simp) (fun i hi => ?_) 9 Try.underlying9⟩
  rw [World.cell?_alloc_mark, Nat.zero_add, zc_get n i hi]
  simp [List.getD_eq_getElem?_getD, hi]
theorem bit_le (x : Int) : bits .and .i64 x 1 = x % 2 := by
  have e : bits .and .i64 x 1 = IntKind.i64.wrap (((BitVec.ofInt 64 x &&& BitVec.ofInt 64 1).toNat : Nat) : Int) := rfl
  have e2 : (BitVec.ofInt 64 x &&& BitVec.ofInt 64 1).toNat = (BitVec.ofInt 64 x).toNat % 2 := by
    rw [BitVec.toNat_and]
    exact Nat.and_one_is_mod _
  rw [e, e2, IntKind.wrap_i64, BitVec.toNat_ofInt]
  omega
end Go.Proofs.Ytkahnobignaccaa
