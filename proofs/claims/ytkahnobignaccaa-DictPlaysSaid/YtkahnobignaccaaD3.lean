/- Contract of the library at entries: slices.Delete of one element of a row of the call's own. -/
import Derived.Test.YtkahnobignaccaaD2
import Derived.Deep.RegionLaw
namespace Go.Proofs.Ytkahnobignaccaa
open Go.RowKit
attribute [local go_sem ↓] Go.wp_at_zero Go.wp_at_succ
theorem own_row {w : World} {base : Nat} {e : TypeId} {size : Nat} {v : Value} {n : Nat} {xs : List Value} (h : w.ownsRow base e size v n xs) (hn : 0 < n) :
    ∃ g cap cur, v = .slice (some ⟨g, 0, none⟩) n cap ∧ base ≤ g ∧ Blk w g e (List.toArray cur) ∧ n ≤ cap ∧ cap ≤ 9223372036854775807 ∧ cur.length = cap * size ∧ cur.take (n * size) = xs := by
  rcases h.2 with ⟨rfl, rfl⟩ | ⟨g, cap, cur, rfl, hg, hh, hnc, hcap, hsz, ht⟩
  · omega
  · exact ⟨g, cap, cur.toList, rfl, hg, hh, hnc, hcap, by simpa using hsz, ht⟩
theorem own_mk {w : World} {base g n cap size : Nat} {e : TypeId} {cur xs : List Value} (hg : base ≤ g) (hk : Blk w g e cur.toArray) (hnc : n ≤ cap) (hcap : cap ≤ 9223372036854775807) (hsz : cur.length = cap * size) (ht : cur.take (n * size) = xs) :
    w.ownsRow base e size (.slice (some ⟨g, 0, none⟩) n cap) n xs := by
  refine ⟨?_, .inr ⟨g, cap, cur.toArray, rfl, hg, hk, hnc, hcap, by simpa using hsz, ht⟩⟩
  rw [← ht, List.length_take, hsz]
  exact Nat.min_eq_left (Nat.mul_le_mul_right _ hnc)
theorem entV_take (E : List Ent) (i : Nat) : entV (E.take i) = (entV E).take (i * 2) := by
  induction E generalizing i with
  | nil => simp [entV]
  | cons x E ih =>
    cases i with
    | zero => simp [entV]
    | succ i =>
      rw [List.take_succ_cons, entV_cons, entV_cons, ih, show (i + 1) * 2 = i * 2 + 1 + 1 by omega]
      simp
theorem entV_drop (E : List Ent) (i : Nat) : entV (E.drop i) = (entV E).drop (i * 2) := by
  induction E generalizing i with
  | nil => simp [entV]
  | cons x E ih =>
    cases i with
    | zero => simp
    | succ i =>
      rw [List.drop_succ_cons, entV_cons, ih, show (i + 1) * 2 = i * 2 + 1 + 1 by omega]
      simp
def zz : List Value := [.string ⟨#[]⟩, .string ⟨#[]⟩]
theorem take_entry {cur xs : List Value} {n j : Nat} {u : Value} (ht : cur.take n = xs) (h : xs[j]? = some u) : cur[j]? = some u := by
  have hl : j < xs.length := (List.getElem?_eq_some_iff.1 h).1
  rw [← ht] at h hl
  rw [List.getElem?_take] at h
  split at h
  · exact h
  · cases h
theorem zz_eq : (Builtin.zeroCells (Value.agg #[.string ⟨#[]⟩, .string ⟨#[]⟩]).cells 1).toList = zz := by
  simp [Builtin.zeroCells, Value.cells, zz]
  rfl
/-- What the row holds once an element is struck. -/
theorem struck (cur : List Value) (E : List Ent) (m cap i : Nat) (hn : E.length = m + 1) (hi : i ≤ m) (hnc : m + 1 ≤ cap) (hsz : cur.length = cap * 2) (ht : cur.take ((m + 1) * 2) = entV E) :
    (splice (splice cur (i * 2) (entV (E.drop (i + 1)))) (m * 2) zz).take (m * 2) = entV (E.take i ++ E.drop (i + 1)) := by
  have hl1 : (entV (E.drop (i + 1))).length = (m - i) * 2 := by rw [entV_len, List.length_drop, hn]; omega
  have hfit : i * 2 + (entV (E.drop (i + 1))).length ≤ cur.length := by rw [hl1]; omega
  have hfit2 : m * 2 + zz.length ≤ (splice cur (i * 2) (entV (E.drop (i + 1)))).length := by
    rw [length_splice _ _ _ hfit]; show m * 2 + 2 ≤ _; omega
  apply List.ext_getElem?
  intro j
  rw [List.getElem?_take]
  by_cases hj : j < m * 2
  · rw [if_pos hj, splice_get _ _ _ hfit2, if_pos hj, splice_get _ _ _ hfit, entV_app]
    have hlt : (entV (E.take i)).length = i * 2 := by rw [entV_len, List.length_take]; omega
    by_cases h1 : j < i * 2
    · rw [if_pos h1, List.getElem?_append_left (by omega), entV_take, List.getElem?_take_of_lt h1, ← ht, List.getElem?_take_of_lt (by omega)]
    · rw [if_neg h1, if_pos (by omega), List.getElem?_append_right (by omega), hlt]
  · rw [if_neg hj]
    rw [List.getElem?_eq_none]
    rw [entV_len, List.length_append, List.length_take, List.length_drop]
    omega
set_option maxHeartbeats 1000000 in
theorem delete_one (base g m cap i : Nat) (E : List Ent) (w : World) (hn : E.length = m + 1) (hi : i ≤ m) (hn2 : m ≤ 1000000) (hown : w.ownsRow base 26 2 (.slice (some ⟨g, 0, none⟩) (m + 1) cap) (m + 1) (entV E)) :
    Calls Try.prog 34 #[.slice (some ⟨g, 0, none⟩) (m + 1) cap, .int .i64 (i : Int), .int .i64 ((i : Int) + 1)] w fun e w' => e = .returned (.slice (some ⟨g, 0, none⟩) m cap) ∧ w'.ownsRow base 26 2 (.slice (some ⟨g, 0, none⟩) m cap) m (entV (E.take i ++ E.drop (i + 1))) ∧ Below base w w' := by
  obtain ⟨i0, hi0, hz0, hz1, hz2⟩ := info_parts infoE
  obtain ⟨g', cap', cur, hv, hg, hk, hnc, hcap, hsz, ht⟩ := own_row hown (by omega)
  simp only [Value.slice.injEq, Option.some.injEq, Addr.mk.injEq, and_true, true_and] at hv
  obtain ⟨rfl, rfl⟩ := hv
  have hl1 : (entV (E.drop (i + 1))).length = (m - i) * 2 := by rw [entV_len, List.length_drop, hn]; omega
  have hsrc : ∀ j u, (entV (E.drop (i + 1)))[j]? = some u → w.cell? ⟨g, (i + 1) * 2 + j, none⟩ = some u := fun j u hj => by
    rw [hk.cell]
    rw [entV_drop, List.getElem?_drop] at hj
    simpa using take_entry ht hj
  have hk1 : Blk (w.drew.setCells g (i * 2) (entV (E.drop (i + 1)))) g 26 (splice cur (i * 2) (entV (E.drop (i + 1)))).toArray := Blk.setCells (entV (E.drop (i + 1))) (i * 2) cur w.drew hk (by rw [hl1]; omega)
  have hlen1 : (splice cur (i * 2) (entV (E.drop (i + 1)))).length = cap * 2 := by rw [length_splice _ _ _ (by rw [hl1]; omega), hsz]
  have hfin := struck cur E m cap i hn hi hnc hsz ht
  have hk2 := Blk.setCells zz (m * 2) (splice cur (i * 2) (entV (E.drop (i + 1)))) _ hk1 (by rw [hlen1]; show m * 2 + 2 ≤ _; omega)
  have hlen2 : (splice (splice cur (i * 2) (entV (E.drop (i + 1)))) (m * 2) zz).length = cap * 2 := by
    rw [length_splice _ _ _ (by rw [hlen1]; show m * 2 + 2 ≤ _; omega), hlen1]
  have hb1 : Below base w (w.drew.setCells g (i * 2) (entV (E.drop (i + 1)))) := below_setCells _ _ _ (Below.refl _ _).drew hg
  have hb2 := below_setCells zz (m * 2) _ hb1 hg
  have hown2 := own_mk (n := m) hg hk2 (by omega) hcap hlen2 hfin
  have hclr : ∀ ty, (Builtin.clear_ #[23] ty #[.slice (some ⟨g, m * 2, none⟩) 1 (cap - m)]).run Try.prog (w.drew.setCells g (i * 2) (entV (E.drop (i + 1)))) = .ok (.tuple #[]) ((w.drew.setCells g (i * 2) (entV (E.drop (i + 1)))).setCells g (m * 2) zz) := fun ty => by
      have hzs : (Builtin.zeroCells (Value.agg #[.string ⟨#[]⟩, .string ⟨#[]⟩]).cells 1).size = 1 * (Value.agg #[.string ⟨#[]⟩, .string ⟨#[]⟩]).cells.size := by simp [Builtin.zeroCells, Value.cells]
      have h := run_clearN (P := Try.prog) (w.drew.setCells g (i * 2) (entV (E.drop (i + 1)))) 23 26 ty (.agg #[.string ⟨#[]⟩, .string ⟨#[]⟩]) Try.underlying23 (fun w => by kernel_rfl) g (m * 2) 1 (cap - m) (fun j hj => by
        have hj' : j < 2 := hj
        have hj2 : m * 2 + j < (splice cur (i * 2) (entV (E.drop (i + 1)))).length := by rw [hlen1]; omega
        rw [hk1.cell, List.getElem?_toArray, List.getElem?_eq_getElem hj2]; rfl) (fun j hj => hk1.free _) (by decide) hzs (by rw [zz_eq]; intro v hv; simp [zz] at hv; subst hv; rfl)
      rw [zz_eq] at h
      exact h
  have hap : ∀ ty a c, (m - i = 0 ∨ a = ⟨g, (i + 1) * 2, none⟩) → (Builtin.append_ #[23, 23] ty #[.slice (some ⟨g, 0, none⟩) i cap, .slice (some a) (m - i) c]).run Try.prog w.drew = .ok (.slice (some ⟨g, 0, none⟩) (i + (m - i)) cap) (w.drew.setCells g (0 + i * i0.size) (entV (E.drop (i + 1)))) := fun ty a c ha =>
    run_append_room_src w.drew 23 23 ty 26 i0 Try.underlying23 hi0 g 0 i cap _ (m - i) (entV (E.drop (i + 1)))
      (Src.ofSlice w.drew Try.underlying23 a (m - i) c _ (by rw [hl1, hz1]) (fun j u hj => by
        have hjl := (List.getElem?_eq_some_iff.1 hj).1
        rcases ha with h0 | rfl
        · rw [hl1, h0] at hjl; omega
        · rw [addr_add]; exact hsrc j u hj) (entV_one _)) (by omega)
      (fun j hj => by
        rw [hl1] at hj
        have hj2 : 0 + i * i0.size + j < cur.length := by rw [hz1]; omega
        show (w.cell? _).isSome = true
        rw [hk.cell, List.getElem?_toArray, List.getElem?_eq_getElem hj2]; rfl)
      (fun j hj => hk.free _)
  generalize entV (E.take i ++ E.drop (i + 1)) = R at *
  have i0' : ¬ ((i : Int) = (i : Int) + 1) := by omega
  have i1 : (i : Int) + 1 ≤ (m : Int) + 1 := by omega
  have i2 : (0 : Int) ≤ (i : Int) + 1 := by omega
  have i3 : i ≤ cap := by omega
  have i4 : ¬ cap = m := by omega
  have i5 : i ≤ m := hi
  rw [hz1, Nat.zero_add, show i + (m - i) = m by omega] at hap
  have Hap := Lib.hid hap
  have Hclr := Lib.hid hclr
  have Hown := Lib.hid hown2
  have HB := Lib.hid hb2
  clear hk1 hk2 hlen1 hlen2 hfin hsrc hk ht hown hap hclr hown2 hb1 hb2 hl1
  by_cases hic : cap = i + 1
  · obtain rfl : i = m := by omega
    subst hic
    rw [Nat.add_sub_cancel_left] at Hclr
    rw [Nat.sub_self] at Hap
    have i6 : (i : Int) ≤ (i : Int) + 1 := by omega
    go_enter Try.func34, Try.ntmps34
    go_wp2_with fail
    go_region_law (refine step_append_run' rfl _ _ 23 23 rfl (.slice (some ⟨g, 0, none⟩) i (i + 1)) (.slice (some ⟨g, 0, none⟩) 0 0) (by simp [Act.eval, Act.put]) (by simp [Act.eval, Act.put]) (Hap.out _ _ _ (.inl trivial)) ?_)
    have hclr := Hclr.out
    go_wp2_with fail
    go_ret
    exact ⟨rfl, Hown.out, HB.out⟩
  · go_enter Try.func34, Try.ntmps34
    go_wp2_with fail
    go_region_law (refine step_append_run' rfl _ _ 23 23 rfl (.slice (some ⟨g, 0, none⟩) i cap) (.slice (some ⟨g, (i + 1) * 2, none⟩) (m - i) (cap - (i + 1))) (by simp [Act.eval, Act.put]) (by simp [Act.eval, Act.put]) (Hap.out _ _ _ (.inr rfl)) ?_)
    have hclr := Hclr.out
    go_wp2_with fail
    go_ret
    exact ⟨rfl, Hown.out, HB.out⟩
end Go.Proofs.Ytkahnobignaccaa
