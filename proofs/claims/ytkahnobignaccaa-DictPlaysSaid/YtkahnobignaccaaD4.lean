/- Contract of the library at entries: slices.Insert of one entry into a row of the call's own. -/
import Derived.Test.YtkahnobignaccaaD3
import Derived.Laws.Externs
import Derived.Lib.Overlaps
import Derived.Lib.AppendZerosOnto
namespace Go.Proofs.Ytkahnobignaccaa
open Go.RowKit
attribute [local go_sem ↓] Go.wp_at_zero Go.wp_at_succ
theorem ins_list (C D : List Value) (a b : Value) (i n L : Nat) (hi : i ≤ n) (hL : (n + 1) * 2 ≤ L) (hC : C.length = L) (hD : D.length = (n - i) * 2) :
    (splice (splice C (i * 2) [a, b]) ((i + 1) * 2) D).take ((n + 1) * 2) = C.take (i * 2) ++ (a :: b :: D) ∧ (splice (splice C (i * 2) [a, b]) ((i + 1) * 2) D).length = L ∧
    (splice (splice C ((i + 1) * 2) D) (i * 2) [a, b]).take ((n + 1) * 2) = C.take (i * 2) ++ (a :: b :: D) ∧ (splice (splice C ((i + 1) * 2) D) (i * 2) [a, b]).length = L := by
  have h1 : i * 2 + [a, b].length ≤ C.length := by show i * 2 + 2 ≤ _; omega
  have l1 := length_splice C (i * 2) [a, b] h1
  have h2 : (i + 1) * 2 + D.length ≤ (splice C (i * 2) [a, b]).length := by omega
  have h3 : (i + 1) * 2 + D.length ≤ C.length := by omega
  have l3 := length_splice C ((i + 1) * 2) D h3
  have h4 : i * 2 + [a, b].length ≤ (splice C ((i + 1) * 2) D).length := by show i * 2 + 2 ≤ _; omega
  have hct : (C.take (i * 2)).length = i * 2 := by rw [List.length_take]; omega
  have hl2 : [a, b].length = 2 := rfl
  have key : ∀ (X : List Value), (∀ j, j < (n + 1) * 2 → X[j]? = if j < i * 2 then C[j]? else if j < (i + 1) * 2 then [a, b][j - i * 2]? else D[j - (i + 1) * 2]?) → X.take ((n + 1) * 2) = C.take (i * 2) ++ (a :: b :: D) := by
    intro X hX
    apply List.ext_getElem?
    intro j
    rw [List.getElem?_take]
    by_cases hj : j < (n + 1) * 2
    · rw [if_pos hj, hX j hj]
      by_cases c1 : j < i * 2
      · rw [if_pos c1, List.getElem?_append_left (by omega), List.getElem?_take_of_lt c1]
      · rw [if_neg c1, List.getElem?_append_right (by omega), hct]
        by_cases c2 : j < (i + 1) * 2
        · rw [if_pos c2]
          have : j - i * 2 = 0 ∨ j - i * 2 = 1 := by omega
          rcases this with h | h <;> rw [h] <;> rfl
        · rw [if_neg c2, show j - i * 2 = (j - (i + 1) * 2) + 1 + 1 by omega]
          simp
    · rw [if_neg hj, List.getElem?_eq_none]
      rw [List.length_append, hct]
      simp only [List.length_cons]
      omega
  refine ⟨key _ fun j hj => ?_, by rw [length_splice _ _ _ h2, l1, hC], key _ fun j hj => ?_, by rw [length_splice _ _ _ h4, l3, hC]⟩
  · rw [splice_get _ _ _ h2]
    by_cases c1 : j < (i + 1) * 2
    · rw [if_pos c1, splice_get _ _ _ h1, hl2]
      by_cases c2 : j < i * 2
      · rw [if_pos c2, if_pos c2]
      · rw [if_neg c2, if_neg c2, if_pos (by omega), if_pos c1]
    · rw [if_neg c1, if_pos (by omega), if_neg (by omega), if_neg c1]
  · rw [splice_get _ _ _ h4, hl2]
    by_cases c2 : j < i * 2
    · rw [if_pos c2, if_pos c2, splice_get _ _ _ h3, if_pos (by omega)]
    · rw [if_neg c2, if_neg c2]
      by_cases c1 : j < (i + 1) * 2
      · rw [if_pos (by omega), if_pos c1]
      · rw [if_neg (by omega), if_neg c1, splice_get _ _ _ h3, if_neg c1, if_pos (by omega)]
theorem opaqL {P : Program} {ops : Array Oper} {rest : List Oper} {a : Act} {Q : Exit → Act → World → Prop} {w' : World} (F : World → Prop) (h : F w') (k : ∀ W, F W → wpList P ops Q rest a W) : wpList P ops Q rest a w' := k w' h
theorem opaqQ {Q : Exit → Act → World → Prop} {e : Exit} {a : Act} {w' : World} (F : World → Prop) (h : F w') (k : ∀ W, F W → Q e a W) : Q e a w' := k w' h
def insL (E : List Ent) (i : Nat) (k x : ByteArray) : List Ent := E.take i ++ (k, x) :: E.drop i
theorem insL_v (E : List Ent) (i : Nat) (k x : ByteArray) : entV (insL E i k x) = (entV E).take (i * 2) ++ (.string k :: .string x :: (entV E).drop (i * 2)) := by
  unfold insL
  rw [entV_app, entV_cons, entV_take, entV_drop]
theorem one2 (k x : ByteArray) : ∀ u ∈ ([.string k, .string x] : List Value), u.oneCell' = true := by
  intro u hu
  simp at hu
  rcases hu with rfl | rfl <;> rfl
theorem insL_end (E : List Ent) (k x : ByteArray) : entV (insL E E.length k x) = entV E ++ [.string k, .string x] := by
  rw [insL_v, ← entV_len, List.take_length, List.drop_length]
set_option maxHeartbeats 1000000 in
theorem insert_end (base : Nat) (v : Value) (n vb : Nat) (E : List Ent) (k x : ByteArray) (w : World) (hn : E.length = n) (hn2 : n ≤ 1000000) (hown : w.ownsRow base 26 2 v n (entV E)) (hbase : base ≤ w.heap.size) (hv : Blk w vb 26 #[.string k, .string x]) :
    Calls Try.prog 32 #[v, .int .i64 (n : Int), .slice (some ⟨vb, 0, none⟩) 1 1] w fun e w' => ∃ v', e = .returned v' ∧ w'.ownsRow base 26 2 v' (n + 1) (entV (insL E n k x)) ∧ Below base w w' := by
  obtain ⟨i0, hi0, hz0, hz1, hz2⟩ := info_parts infoE
  have hins : entV (insL E n k x) = entV E ++ [.string k, .string x] := by rw [← hn]; exact insL_end E k x
  have hsrc : ∀ j u, ([.string k, .string x] : List Value)[j]? = some u → w.cell? ((⟨vb, 0, none⟩ : Addr).add j) = some u := fun j u hj => by
    rw [addr_add, Nat.zero_add, hv.cell, ← hj]
    simp
  have Hsrc := Lib.hid hsrc
  have Hins := Lib.hid hins
  have Hown := Lib.hid hown
  clear hsrc hins hv
  rcases hown.2 with ⟨rfl, h0⟩ | ⟨g, cap, cur, rfl, hg, hh, hnc, hcap, hsz, ht⟩
  · subst h0
    clear hown
    go_enter Try.func32, Try.ntmps32
    go_wp2_with (at_builtin; go_must (refine wpList_append_own _ rfl _ _ 23 rfl base 26 i0 (.agg #[.string ⟨#[]⟩, .string ⟨#[]⟩]) 2 32 Try.underlying23 hi0 hz0 hz1 hz2 rfl (by decide) _ _ _ rfl Hown.out ⟨vb, 0, none⟩ 1 1 [.string k, .string x] rfl rfl Hsrc.out (one2 k x) (by unfold maxLen; omega) (by omega) hbase ?_); intro v' w' hown' hg _)
    go_ret
    exact ⟨_, rfl, by rw [Hins.out]; exact hown', (Below.refl _ _).grown hg hbase (fun k hk => (Hown.out.lt k hk).1)⟩
  · have hin : (n : Int) ≤ (n : Int) := Int.le_refl _
    have hnc' : (n : Int) ≤ (cap : Int) := by omega
    clear hown hh ht hsz
    by_cases hcn : cap = n
    · subst hcn
      go_enter Try.func32, Try.ntmps32
      go_wp2_with (at_builtin; go_must (refine wpList_append_own _ rfl _ _ 23 rfl base 26 i0 (.agg #[.string ⟨#[]⟩, .string ⟨#[]⟩]) 2 32 Try.underlying23 hi0 hz0 hz1 hz2 rfl (by decide) _ _ _ rfl Hown.out ⟨vb, 0, none⟩ 1 1 [.string k, .string x] rfl rfl Hsrc.out (one2 k x) (by unfold maxLen; omega) (by omega) hbase ?_); intro v' w' hown' hg _)
      go_ret
      exact ⟨_, rfl, by rw [Hins.out]; exact hown', (Below.refl _ _).grown hg hbase (fun k hk => (Hown.out.lt k hk).1)⟩
    · go_enter Try.func32, Try.ntmps32
      go_wp2_with (at_builtin; go_must (refine wpList_append_own _ rfl _ _ 23 rfl base 26 i0 (.agg #[.string ⟨#[]⟩, .string ⟨#[]⟩]) 2 32 Try.underlying23 hi0 hz0 hz1 hz2 rfl (by decide) _ _ _ rfl Hown.out ⟨vb, 0, none⟩ 1 1 [.string k, .string x] rfl rfl Hsrc.out (one2 k x) (by unfold maxLen; omega) (by omega) hbase ?_); intro v' w' hown' hg _)
      go_ret
      exact ⟨_, rfl, by rw [Hins.out]; exact hown', (Below.refl _ _).grown hg hbase (fun k hk => (Hown.out.lt k hk).1)⟩
set_option maxHeartbeats 2000000 in
set_option maxRecDepth 100000 in
theorem insert_room (base g n cap vb i : Nat) (E : List Ent) (k x : ByteArray) (w : World) (hn : E.length = n) (hi : i < n) (hn2 : n ≤ 1000000) (hroom : n < cap) (hown : w.ownsRow base 26 2 (.slice (some ⟨g, 0, none⟩) n cap) n (entV E)) (hv : Blk w vb 26 #[.string k, .string x]) (hvb : vb ≠ g) :
    Calls Try.prog 32 #[.slice (some ⟨g, 0, none⟩) n cap, .int .i64 (i : Int), .slice (some ⟨vb, 0, none⟩) 1 1] w fun e w' => ∃ v', e = .returned v' ∧ w'.ownsRow base 26 2 v' (n + 1) (entV (insL E i k x)) ∧ Below base w w' := by
  obtain ⟨i0, hi0, hz0, hz1, hz2⟩ := info_parts infoE
  obtain ⟨g', cap', cur, hv', hg, hk, hnc, hcap, hsz, ht⟩ := own_row hown (by omega)
  simp only [Value.slice.injEq, Option.some.injEq, Addr.mk.injEq, and_true, true_and] at hv'
  obtain ⟨rfl, rfl⟩ := hv'
  have hD : (entV (E.drop i)).length = (n - i) * 2 := by rw [entV_len, List.length_drop, hn]
  have hlist := (ins_list cur (entV (E.drop i)) (.string k) (.string x) i n (cap * 2) (by omega) (by omega) hsz hD).2.2
  have hct : cur.take (i * 2) = (entV E).take (i * 2) := by rw [← ht, List.take_take, Nat.min_eq_left (by omega)]
  have hres : entV (insL E i k x) = cur.take (i * 2) ++ (.string k :: .string x :: entV (E.drop i)) := by rw [insL_v, hct, entV_drop]
  rw [← hres] at hlist
  have hsrc : ∀ j u, (entV (E.drop i))[j]? = some u → w.cell? ⟨g, i * 2 + j, none⟩ = some u := fun j u hj => by
    rw [hk.cell]
    rw [entV_drop, List.getElem?_drop] at hj
    simpa using take_entry ht hj
  have hk1 : Blk (w.drew.setCells g ((i + 1) * 2) (entV (E.drop i))) g 26 (splice cur ((i + 1) * 2) (entV (E.drop i))).toArray := Blk.setCells (entV (E.drop i)) ((i + 1) * 2) cur w.drew hk (by rw [hD]; omega)
  have hl1 : (splice cur ((i + 1) * 2) (entV (E.drop i))).length = cap * 2 := by rw [length_splice _ _ _ (by rw [hD]; omega), hsz]
  have hv1 : Blk (w.drew.setCells g ((i + 1) * 2) (entV (E.drop i))) vb 26 #[.string k, .string x] := Blk.farCells _ _ _ hv.drew hvb
  have hB1 : Below base w (w.drew.setCells g ((i + 1) * 2) (entV (E.drop i))) := below_setCells _ _ _ (Below.refl _ _).drew hg
  have hcp1 : ∀ ty dc sc, (Builtin.copy_ #[23, 23] ty #[.slice (some ⟨g, (i + 1) * 2, none⟩) (n + 1 - (i + 1)) dc, .slice (some ⟨g, i * 2, none⟩) (n + 1 - i) sc]).run Try.prog w.drew = .ok (goInt ((n - i : Nat) : Int)) (w.drew.setCells g ((i + 1) * 2) (entV (E.drop i))) := fun ty dc sc =>
    run_copyN w.drew 23 23 ty 26 i0 2 g ((i + 1) * 2) (n + 1 - (i + 1)) dc ⟨g, i * 2, none⟩ (n + 1 - i) sc (n - i) _ Try.underlying23 hi0 hz1 (by simp only [Nat.min_def]; split <;> omega) hD (fun j u hj => by rw [addr_add]; exact hsrc j u hj)
      (fun j hj => by
        rw [hD] at hj
        have hj2 : (i + 1) * 2 + j < cur.length := by omega
        show (w.cell? _).isSome = true
        rw [hk.cell, List.getElem?_toArray, List.getElem?_eq_getElem hj2]; rfl)
      (fun j hj => hk.free _) (entV_one _)
  have hov : ∀ lb cb, (callFunc 39 #[.slice (some ⟨vb, 0, none⟩) 1 1, .slice (some ⟨g, (i + 1) * 2, none⟩) lb cb]).run Try.prog w = .ok (.value (.bool false)) w := fun lb cb => by
    rw [run_callFunc_extern Try.func39 (by kernel_rfl) (by kernel_rfl) (by kernel_rfl) (e := Extern.SlicesOverlaps.overlaps #[23, 23] #[4]) (by kernel_rfl),
      Lib.run_overlaps_apart w 23 4 26 Try.underlying23 2 (fun w => by kernel_rfl) ⟨vb, 0, none⟩ ⟨g, (i + 1) * 2, none⟩ 1 1 lb cb hvb 26 26 2 (cap * 2)
        (by unfold Blk at hv; simp [World.shape?, hv]) (by unfold Blk at hk; simp [World.shape?, hk, hsz]) (by omega) (hv.free _) (hv.free _)]
    rfl
  have hcp2 : ∀ W : World, Blk W vb 26 #[.string k, .string x] → Blk W g 26 (splice cur ((i + 1) * 2) (entV (E.drop i))).toArray → ∀ ty dc, (Builtin.copy_ #[23, 23] ty #[.slice (some ⟨g, i * 2, none⟩) (n + 1 - i) dc, .slice (some ⟨vb, 0, none⟩) 1 1]).run Try.prog W = .ok (goInt 1) (W.setCells g (i * 2) [.string k, .string x]) := fun W hvW hkW ty dc =>
    run_copyN W 23 23 ty 26 i0 2 g (i * 2) (n + 1 - i) dc ⟨vb, 0, none⟩ 1 1 1 _ Try.underlying23 hi0 hz1 (by simp only [Nat.min_def]; split <;> omega) rfl (fun j u hj => by rw [addr_add, Nat.zero_add, hvW.cell, ← hj]; simp)
      (fun j hj => by
        have hj' : j < 2 := hj
        have hj2 : i * 2 + j < (splice cur ((i + 1) * 2) (entV (E.drop i))).length := by omega
        rw [hkW.cell, List.getElem?_toArray, List.getElem?_eq_getElem hj2]; rfl)
      (fun j hj => hkW.free _) (one2 k x)
  have hfin : ∀ W : World, Blk W g 26 (splice cur ((i + 1) * 2) (entV (E.drop i))).toArray → (W.setCells g (i * 2) [.string k, .string x]).ownsRow base 26 2 (.slice (some ⟨g, 0, none⟩) (n + 1) cap) (n + 1) (entV (insL E i k x)) := fun W hkW =>
    own_mk hg (Blk.setCells _ _ _ _ hkW (by show i * 2 + 2 ≤ _; omega)) (by omega) hcap hlist.2 hlist.1
  generalize entV (insL E i k x) = R at *
  generalize hsp : splice cur ((i + 1) * 2) (entV (E.drop i)) = C1 at *
  have Hcp1 := Lib.hid hcp1
  have Hcp2 := Lib.hid hcp2
  have Hfin := Lib.hid hfin
  have HF : (fun W => Hid (Blk W vb 26 #[.string k, .string x]) ∧ Hid (Blk W g 26 C1.toArray) ∧ Hid (Below base w W)) (w.drew.setCells g ((i + 1) * 2) (entV (E.drop i))) := ⟨hv1, hk1, hB1⟩
  clear hcp1 hcp2 hfin hsp hlist hres hct ht hsz hsrc hk hv1 hk1 hB1 hl1 hown hv hD hn
  have c1 : ¬ (i : Int) = (n : Int) := by omega
  have c2 : (i : Int) ≤ (n : Int) := by omega
  have c3 : ¬ ((cap : Int) < (n : Int) + 1) := by omega
  have c4 : (n : Int) + 1 ≤ (cap : Int) := by omega
  have c5 : ¬ cap = i := by omega
  have c6 : ¬ cap = i + 1 := by omega
  have c7 : (i : Int) + 1 ≤ (n : Int) + 1 := by omega
  have c8 : (0 : Int) ≤ (i : Int) + 1 := by omega
  have c9 : IntKind.i64.wrap ((i : Int) + 1) = (i : Int) + 1 := by rw [IntKind.wrap_i64]; omega
  have c10 : (i : Int) ≤ (n : Int) + 1 := by omega
  have c11 : ((i : Int) + 1).toNat = i + 1 := by omega
  go_enter Try.func32, Try.ntmps32
  go_wp2_with (simp only [hov])
  go_region_law (refine step_copy_run' rfl _ _ 23 23 rfl (.slice (some ⟨g, (i + 1) * 2, none⟩) (n + 1 - (i + 1)) (cap - (i + 1))) (.slice (some ⟨g, i * 2, none⟩) (n + 1 - i) (cap - i)) (by simp [Act.eval, Act.put]) (by simp [Act.eval, Act.put]) (Hcp1.out _ _ _) ?_)
  refine opaqQ (fun W => Hid (Blk W vb 26 #[.string k, .string x]) ∧ Hid (Blk W g 26 C1.toArray) ∧ Hid (Below base w W)) HF ?_
  rintro W ⟨hvW, hkW, hBW⟩
  go_wp2_with (with_reducible refine wpList_copy_run' W rfl _ _ 23 23 rfl (.slice (some ⟨g, i * 2, none⟩) (n + 1 - i) (cap - i)) (.slice (some ⟨vb, 0, none⟩) 1 1) rfl rfl (Hcp2.out W hvW.out hkW.out _ _) ?_)
  go_ret
  exact ⟨_, rfl, Hfin.out W hkW.out, below_setCells _ _ _ hBW.out hg⟩
theorem zeroLen (m : Nat) : (Builtin.zeroCells (Value.agg #[.string ⟨#[]⟩, .string ⟨#[]⟩]).cells m).size = m * 2 := by simp [Builtin.zeroCells, Value.cells]
set_option maxHeartbeats 2000000 in
set_option maxRecDepth 100000 in
theorem insert_grow (base g n vb i : Nat) (E : List Ent) (k x : ByteArray) (w : World) (hn : E.length = n) (hi : i < n) (hn2 : n ≤ 1000000) (hbase : base ≤ w.heap.size) (hown : w.ownsRow base 26 2 (.slice (some ⟨g, 0, none⟩) n n) n (entV E)) (hv : Blk w vb 26 #[.string k, .string x]) :
    Calls Try.prog 32 #[.slice (some ⟨g, 0, none⟩) n n, .int .i64 (i : Int), .slice (some ⟨vb, 0, none⟩) 1 1] w fun e w' => ∃ v', e = .returned v' ∧ w'.ownsRow base 26 2 v' (n + 1) (entV (insL E i k x)) ∧ Below base w w' := by
  obtain ⟨i0, hi0, hz0, hz1, hz2⟩ := info_parts infoE
  obtain ⟨g', cap', cur, hv', hg, hk, hnc, hcap, hsz, ht⟩ := own_row hown (by omega)
  simp only [Value.slice.injEq, Option.some.injEq, Addr.mk.injEq, and_true, true_and] at hv'
  obtain ⟨rfl, rfl⟩ := hv'
  have hD : (entV (E.drop i)).length = (n - i) * 2 := by rw [entV_len, List.length_drop, hn]
  have hTl : (entV (E.take i)).length = i * 2 := by rw [entV_len, List.length_take]; omega
  have hget : ∀ j u, (entV E)[j]? = some u → w.cell? ⟨g, j, none⟩ = some u := fun j u hj => by
    rw [hk.cell]
    simpa using take_entry ht hj
  have hold : (Builtin.firstCells i0.size i (.slice (some ⟨g, 0, none⟩) i n)).run Try.prog w.drew = .ok (entV (E.take i)).toArray w.drew := by
    rw [hz1]
    exact run_firstCells_some w.drew 2 i ⟨g, 0, none⟩ i n (entV (E.take i)) hTl (fun j u hj => by
      rw [addr_add, Nat.zero_add]
      rw [entV_take, List.getElem?_take] at hj
      split at hj
      · exact hget j u hj
      · cases hj)
  obtain ⟨G, hG⟩ : ∃ G, G = grownCap w (n + 1) n 26 := ⟨_, rfl⟩
  obtain ⟨C, hC⟩ : ∃ C : List Value, C = ((entV (E.take i)).toArray ++ Builtin.zeroCells (Value.agg #[.string ⟨#[]⟩, .string ⟨#[]⟩]).cells (n + 1 - i) ++ Builtin.zeroCells (Value.agg #[.string ⟨#[]⟩, .string ⟨#[]⟩]).cells (G - (n + 1))).toList := ⟨_, rfl⟩
  have hGn : n + 1 ≤ G := by rw [hG]; exact grownCap_ge w _ _ _
  have hG63 : G ≤ 9223372036854775807 := by
    have := grownCap_le_maxLen w (n + 1) n 26 (by unfold maxLen; omega)
    rw [← hG] at this
    unfold maxLen at this
    omega
  have hCl : C.length = G * 2 := by
    rw [hC, Array.length_toList, Array.size_append, Array.size_append, zeroLen, zeroLen]
    simp [hTl]
    omega
  have hCt : C.take (i * 2) = entV (E.take i) := by
    rw [hC, Array.toList_append, Array.toList_append, List.append_assoc, List.take_append_of_le_length (by rw [List.toList_toArray]; omega), List.toList_toArray, List.take_of_length_le (by omega)]
  have hrz : ∀ ty, (Builtin.append_ #[23, 3] ty #[.slice (some ⟨g, 0, none⟩) i n, .int .i64 ((n : Int) + 1 - (i : Int))]).run Try.prog w =
      .ok (.slice (some ⟨w.heap.size, 0, none⟩) (n + 1) G) (w.drew.alloc (.cells C.toArray 26)) := fun ty => by
    have h := Lib.run_append_grow_zeros w 23 3 ty 26 i0 _ .i64 .i64 Try.underlying23 Try.underlying3 hi0 hz0 (some ⟨g, 0, none⟩) i n (entV (E.take i)) hold (n + 1 - i) (by omega) (by omega) (by omega) (by omega) (by rw [hz2]; omega) (by rw [hz2, show i + (n + 1 - i) = n + 1 by omega]; exact growslice_fits (by omega) (by omega))
    rw [show i + (n + 1 - i) = n + 1 by omega, ← hG] at h
    rw [show (n : Int) + 1 - (i : Int) = ((n + 1 - i : Nat) : Int) by omega, hC, Array.toArray_toList]
    exact h
  have hlist := ins_list C (entV (E.drop i)) (.string k) (.string x) i n (G * 2) (by omega) (by omega) hCl hD
  have hres : entV (insL E i k x) = C.take (i * 2) ++ (.string k :: .string x :: entV (E.drop i)) := by rw [insL_v, hCt, entV_take, entV_drop]
  rw [← hres] at hlist
  have hvlt := hv.lt
  have hklt := hk.lt
  have HF : (fun W => Hid (Blk W w.heap.size 26 C.toArray) ∧ Hid (Blk W vb 26 #[.string k, .string x]) ∧ Hid (Blk W g 26 cur.toArray) ∧ Hid (Below base w W)) (w.drew.alloc (.cells C.toArray 26)) :=
    ⟨Blk.new w.drew 26 C.toArray, hv.drew.alloc _, hk.drew.alloc _, (Below.refl _ _).drew.alloc hbase _⟩
  have hcpA : ∀ W : World, Blk W vb 26 #[.string k, .string x] → Blk W w.heap.size 26 C.toArray → ∀ ty dc, (Builtin.copy_ #[23, 23] ty #[.slice (some ⟨w.heap.size, i * 2, none⟩) (n + 1 - i) dc, .slice (some ⟨vb, 0, none⟩) 1 1]).run Try.prog W = .ok (goInt 1) (W.setCells w.heap.size (i * 2) [.string k, .string x]) := fun W hvW hkW ty dc =>
    run_copyN W 23 23 ty 26 i0 2 w.heap.size (i * 2) (n + 1 - i) dc ⟨vb, 0, none⟩ 1 1 1 _ Try.underlying23 hi0 hz1 (by simp only [Nat.min_def]; split <;> omega) rfl (fun j u hj => by rw [addr_add, Nat.zero_add, hvW.cell, ← hj]; simp)
      (fun j hj => by
        have hj' : j < 2 := hj
        have hj2 : i * 2 + j < C.length := by omega
        rw [hkW.cell, List.getElem?_toArray, List.getElem?_eq_getElem hj2]; rfl)
      (fun j hj => hkW.free _) (one2 k x)
  have hl1 := length_splice C (i * 2) [.string k, .string x] (by show i * 2 + 2 ≤ _; omega)
  have hcpB : ∀ W : World, Blk W g 26 cur.toArray → Blk W w.heap.size 26 (splice C (i * 2) [.string k, .string x]).toArray → ∀ ty dc sc, (Builtin.copy_ #[23, 23] ty #[.slice (some ⟨w.heap.size, (i + 1) * 2, none⟩) (n + 1 - (i + 1)) dc, .slice (some ⟨g, i * 2, none⟩) (n - i) sc]).run Try.prog W = .ok (goInt ((n - i : Nat) : Int)) (W.setCells w.heap.size ((i + 1) * 2) (entV (E.drop i))) := fun W hkW hcW ty dc sc =>
    run_copyN W 23 23 ty 26 i0 2 w.heap.size ((i + 1) * 2) (n + 1 - (i + 1)) dc ⟨g, i * 2, none⟩ (n - i) sc (n - i) _ Try.underlying23 hi0 hz1 (by simp only [Nat.min_def]; split <;> omega) hD (fun j u hj => by
        rw [addr_add, hkW.cell]
        rw [entV_drop, List.getElem?_drop] at hj
        simpa using take_entry ht hj)
      (fun j hj => by
        rw [hD] at hj
        have hj2 : (i + 1) * 2 + j < (splice C (i * 2) [.string k, .string x]).length := by omega
        rw [hcW.cell, List.getElem?_toArray, List.getElem?_eq_getElem hj2]; rfl)
      (fun j hj => hcW.free _) (entV_one _)
  have hfin : ∀ W : World, Blk W w.heap.size 26 (splice C (i * 2) [.string k, .string x]).toArray → (W.setCells w.heap.size ((i + 1) * 2) (entV (E.drop i))).ownsRow base 26 2 (.slice (some ⟨w.heap.size, 0, none⟩) (n + 1) G) (n + 1) (entV (insL E i k x)) := fun W hkW =>
    own_mk hbase (Blk.setCells _ _ _ _ hkW (by rw [hD]; omega)) hGn hG63 hlist.2.1 hlist.1
  have hset : ∀ W : World, Blk W w.heap.size 26 C.toArray → Blk (W.setCells w.heap.size (i * 2) [.string k, .string x]) w.heap.size 26 (splice C (i * 2) [.string k, .string x]).toArray := fun W hkW => Blk.setCells _ _ _ _ hkW (by show i * 2 + 2 ≤ _; omega)
  generalize entV (insL E i k x) = R at *
  generalize splice C (i * 2) [.string k, .string x] = C1 at *
  generalize entV (E.drop i) = DD at *
  have Hrz := Lib.hid hrz
  have HcpA := Lib.hid hcpA
  have HcpB := Lib.hid hcpB
  have Hfin := Lib.hid hfin
  have Hset := Lib.hid hset
  have Hgw : Hid (g ≠ w.heap.size) := by show _ ≠ _; omega
  clear hrz hcpA hcpB hfin hset hlist hres hCt hC hCl hG hold hget hTl hD ht hsz hk hown hv hn hl1
  have c1 : ¬ (i : Int) = (n : Int) := by omega
  have c2 : (i : Int) ≤ (n : Int) := by omega
  have c3 : ((n : Int) < (n : Int) + 1) := by omega
  have c5 : ¬ n = i := by omega
  have c6 : ¬ G = i := by omega
  have c6' : ¬ G = i + 1 := by omega
  have c7 : (i : Int) + 1 ≤ (n : Int) + 1 := by omega
  have c8 : (0 : Int) ≤ (i : Int) + 1 := by omega
  have c9 : IntKind.i64.wrap ((i : Int) + 1) = (i : Int) + 1 := by rw [IntKind.wrap_i64]; omega
  have c10 : (i : Int) ≤ (n : Int) + 1 := by omega
  have c11 : ((i : Int) + 1).toNat = i + 1 := by omega
  go_enter Try.func32, Try.ntmps32
  go_wp2_with (first
    | (at_builtin; go_must (refine wpList_append_run' w rfl _ _ 23 3 rfl _ _ rfl rfl _ _ (Hrz.out _) ?_); refine opaqL (fun W => Hid (Blk W w.heap.size 26 C.toArray) ∧ Hid (Blk W vb 26 #[.string k, .string x]) ∧ Hid (Blk W g 26 cur.toArray) ∧ Hid (Below base w W)) HF ?_; rintro W ⟨hcW, hvW, hkW, hBW⟩)
    | (with_reducible refine wpList_copy_run' W rfl _ _ 23 23 rfl (.slice (some ⟨w.heap.size, i * 2, none⟩) (n + 1 - i) (G - i)) (.slice (some ⟨vb, 0, none⟩) 1 1) rfl rfl (HcpA.out W hvW.out hcW.out _ _) ?_
       refine opaqL (fun W' => Hid (Blk W' w.heap.size 26 C1.toArray) ∧ Hid (Blk W' g 26 cur.toArray) ∧ Hid (Below base w W')) ⟨Hset.out W hcW.out, Blk.farCells _ _ _ hkW.out Hgw.out, below_setCells _ _ _ hBW.out hbase⟩ ?_
       rintro W2 ⟨hcW2, hkW2, hBW2⟩))
  go_region_law (refine step_copy_run' rfl _ _ 23 23 rfl (.slice (some ⟨w.heap.size, (i + 1) * 2, none⟩) (n + 1 - (i + 1)) (G - (i + 1))) (.slice (some ⟨g, i * 2, none⟩) (n - i) (n - i)) (by simp [Act.eval, Act.put]) (by simp [Act.eval, Act.put]) (HcpB.out _ hkW2.out.drew hcW2.out.drew _ _ _) ?_)
  go_wp2_with fail
  go_ret
  exact ⟨_, rfl, Hfin.out _ hcW2.out.drew, below_setCells _ _ _ hBW2.out.drew hbase⟩
end Go.Proofs.Ytkahnobignaccaa
