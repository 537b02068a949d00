/- Tc, Tq, Td, Te, Tf, Tg in one text. -/
import Derived.Test.YtpcdgljcpacpiaaGreatDoorMH
import Derived.WalkMore
import Derived.Laws.EntriesVeiled
import Derived.Lib.SplitLaws
import Derived.Lib.CountLaws
import Derived.Lib.LastIndexByte
import Derived.Lib.Join
import Derived.BigQuiet
namespace Go.Proofs.YtpcdgljcpacpiaaGreatDoor
open Go.RowKit Go.Shelf
section
attribute [local go_sem ↓] Go.wp_at_zero Go.wp_at_succ
theorem splitSeq_any (s : ByteArray) (w : World) : Calls Tryz.prog 98 #[.string s, .string ⟨#[47]⟩, .int .i64 0] w fun e w' =>
    e = .returned (.func (.func 115) #[] #[.pointer (some ⟨w.heap.size + 1, 0, none⟩), .pointer (some ⟨w.heap.size, 0, none⟩), .pointer (some ⟨w.heap.size + 2, 0, none⟩)]) ∧
    w' = ((w.alloc (.cells #[.string s] 9)).alloc (.cells #[.string ⟨#[47]⟩] 9)).alloc (.cells #[.int .i64 0] 3) := by
  go_enter Tryz.func98, Tryz.ntmps98
  go_wp2
  go_ret
  exact ⟨rfl, rfl⟩
theorem SplitSeq_any (s : ByteArray) (w : World) : Calls Tryz.prog 73 #[.string s, .string ⟨#[47]⟩] w fun e w' =>
    e = .returned (.func (.func 115) #[] #[.pointer (some ⟨w.heap.size + 1, 0, none⟩), .pointer (some ⟨w.heap.size, 0, none⟩), .pointer (some ⟨w.heap.size + 2, 0, none⟩)]) ∧
    w' = ((w.alloc (.cells #[.string s] 9)).alloc (.cells #[.string ⟨#[47]⟩] 9)).alloc (.cells #[.int .i64 0] 3) := by
  go_enter Tryz.func73, Tryz.ntmps73
  go_wp2_with (go_at_call 98; refine (splitSeq_any _ _).mono ?_; rintro e w' ⟨rfl, rfl⟩)
  go_ret
  exact ⟨rfl, rfl⟩
set_option maxHeartbeats 4000000 in
set_option maxRecDepth 100000 in
theorem check1_any (s : ByteArray) (w : World) (b k : Nat) (hs : s.size ≤ 1000000) (hk : k ≤ 1000000) (hc : w.heap[b]? = some (.cells #[.int .i64 (k : Int)] 3 (0, 0))) :
    Calls Tryz.prog 71 #[.string s, .pointer (some ⟨b, 0, none⟩)] w fun e w' => e = .returned (.bool (okPart (bysN s) && decide (k + 1 ≤ 5))) ∧ Below w.heap.size (w.setCell ⟨b, 0, none⟩ (.int .i64 ((k + 1 : Nat) : Int))) w' := by
  have hlt : b < w.heap.size := (Array.getElem?_eq_some_iff.1 hc).1
  have hc1 := (cell_of_one hc).1
  have hf1 := (cell_of_one hc).2
  have hw1 : wrap64 ((k : Int) + 1) = (k : Int) + 1 := by unfold wrap64; omega
  have hset := setCell_one hc (.int .i64 ((k : Int) + 1))
  go_enter Tryz.func71, Tryz.ntmps71
  go_wp2_with (go_at_call 72; refine (part_any s _ hs).mono ?_)
  rintro e w1 ⟨rfl, hb1⟩
  have hc2 := (cell_of_one ((hb1.block b (by rw [World.size_setCell]; exact hlt)).trans hset)).1
  have hbb : Below w.heap.size (w.setCell ⟨b, 0, none⟩ (.int .i64 ((k + 1 : Nat) : Int))) w1 := by rw [World.size_setCell] at hb1; exact hb1
  clear hb1 hset hc hc1 hf1
  have hd : Bx9 (decide ((k : Int) + 1 ≤ 5) = decide (k + 1 ≤ 5)) := ⟨decide_eq_decide.2 (by omega)⟩
  cases hp : okPart (bysN s)
  · go_wp2
    go_ret
    exact ⟨by rw [hp]; rfl, hbb⟩
  · go_wp2
    go_ret
    exact ⟨by rw [hp, ← hd.out]; rfl, hbb⟩
end
theorem IterB.weak {α : Type} {P : Program} {n : Nat} {g : FuncId} {lb : Array Value} {enc : α → Value} {Kp : World → World → Prop} {S Sp : List α → Prop} {b0 : Nat} {C D : World → Prop} (h : IterB P n g lb enc Kp S Sp b0 C) (hD : ∀ W, D W → C W) : IterB P n g lb enc Kp S Sp b0 D :=
  fun l J Jx W hC => h l J Jx W (hD W hC)
attribute [local go_sem] Oper.semAt_some
/-- What Check's body keeps: n, right, each. -/
structure ChkI (N : Nat) (s : ByteArray) (w : World) (pre : List Tx) (W : World) : Prop where
  n : W.heap[N]? = some (.cells #[.int .i64 ((pre.length : Nat) : Int)] 3 (0, 0))
  r : W.heap[N + 1]? = some (.cells #[.bool (decide (s.size ≤ 200))] 4 (0, 0))
  e : W.heap[N + 2]? = some (.cells #[.func (.func 71) #[] #[.pointer (some ⟨N, 0, none⟩)]] 72 (0, 0))
  ok : ∀ x ∈ pre, okPart (txB x) = true
  le : pre.length ≤ 5
  bw : Below N w W
structure ChkX (N : Nat) (w : World) (pre : List Tx) (W : World) : Prop where
  r : W.heap[N + 1]? = some (.cells #[.bool false] 4 (0, 0))
  no : (∃ x ∈ pre, okPart (txB x) = false) ∨ 5 < pre.length
  bw : Below N w W
theorem al_at (W : World) (o : Obj) (k : Nat) (hk : k = W.heap.size) : (W.alloc o).heap[k]? = some o := by subst hk; exact World.alloc_heap_new W o
theorem al_lt (W : World) (o o' : Obj) (k : Nat) (hk : k < W.heap.size) (h : W.heap[k]? = some o') : (W.alloc o).heap[k]? = some o' := (Below.heap_alloc W o k hk).trans h
set_option maxHeartbeats 4000000 in
set_option maxRecDepth 100000 in
theorem check_any (s : ByteArray) (w : World) (hs : s.size ≤ 1000000) : Calls Tryz.prog 39 #[.string s] w fun e w' => e = .returned (.bool (okDen (bysN s))) ∧ Below w.heap.size w w' := by
  have hl := bysN_len s
  refine (callsIn_wide (n := 9)).1 ?_
  refine callsIn_of_wp_marks Tryz.func39 rfl trivial ?_ rfl
  simp only [Tryz.ntmps39, List.size_toArray, List.length_cons, List.length_nil, Nat.reduceAdd, Nat.reduceSub, Array.replicate_succ, Array.replicate_zero, List.push_toArray, List.append_toArray, List.nil_append, List.cons_append]
  gi_wp2
  refine wpIn_wide.2 (wp_scope_straight ((wpIn_wide (n := 9)).1 ?_))
  gi_wp2
  refine wpIn_label ?_
  gi_wp2_with ((first | gi_at_call 73 | (refine ⟨trivial, ?_⟩; gi_at_call 73)); refine (callsIn_wide.2 (SplitSeq_any s _)).mono ?_; rintro e w' ⟨rfl, rfl⟩)
  refine range_b (α := Tx) (gf := 115) (lb := #[.pointer (some ⟨w.heap.size + 3 + 1, 0, none⟩), .pointer (some ⟨w.heap.size + 3, 0, none⟩), .pointer (some ⟨w.heap.size + 3 + 2, 0, none⟩)]) (enc := txV) (Kp := Kp3 (w.heap.size + 3)) (S := fun xs => xs.map txB = parts (bysN s)) (Sp := fun pre => ∃ r, parts (bysN s) = pre.map txB ++ r) (b0 := w.heap.size + 3)
    ?hg (enters_of Tryz.func115 (by kernel_rfl) rfl) ?hb0 (IterB.weak (seqIt (9 - 1) (by omega) (w.heap.size + 3) s hs) ?hC) ?hps ?hKt ?hKb (ChkI w.heap.size s w) (ChkX w.heap.size w) 0 ?hI ?hIx ?hIb ?h0 (fun x => { tmps := #[.string s, undef, .bool false, .pointer (some ⟨w.heap.size, 0, none⟩), .pointer (some ⟨w.heap.size + 1, 0, none⟩), .pointer (some ⟨w.heap.size + 1 + 1, 0, none⟩), txV x, .string s, .int .i64 (s.size : Int), .bool (decide ((s.size : Int) ≤ 200)), .func (.func 71) #[] #[.pointer (some ⟨w.heap.size, 0, none⟩)], .string s, .func (.func 115) #[] #[.pointer (some ⟨w.heap.size + 1 + 1 + 1 + 1, 0, none⟩), .pointer (some ⟨w.heap.size + 1 + 1 + 1, 0, none⟩), .pointer (some ⟨w.heap.size + 1 + 1 + 1 + 2, 0, none⟩)], txV x, undef, undef, undef, undef, undef], defers := [] }) ?hassign ?hbody ?hdone ?hstop
  case hg => rfl
  case hps => rfl
  case hb0 => simp
  case hKt => exact fun h1 h2 => ⟨h2.1.trans h1.1, h2.2.1.trans h1.2.1, h2.2.2.trans h1.2.2⟩
  case hKb =>
    intro W l o hle
    simp only [World.size_alloc] at hle
    exact ⟨World.putObj_heap_other (by omega), World.putObj_heap_other (by omega), World.putObj_heap_other (by omega)⟩
  case hI =>
    rintro pre W W' ⟨h1, h2, h3, h4, h5, h6⟩ hb
    simp only [World.size_alloc] at hb
    exact ⟨(hb.block _ (by omega)).trans h1, (hb.block _ (by omega)).trans h2, (hb.block _ (by omega)).trans h3, h4, h5, h6.trans (hb.mono (by omega))⟩
  case hIx =>
    rintro pre W W' ⟨h1, h2, h3⟩ hb
    simp only [World.size_alloc] at hb
    exact ⟨(hb.block _ (by omega)).trans h1, h2, h3.trans (hb.mono (by omega))⟩
  case hIb =>
    rintro pre W v ⟨h1, h2, h3, h4, h5, h6⟩
    exact ⟨setCell_heap _ _ _ _ (by omega) _ h1, setCell_heap _ _ _ _ (by omega) _ h2, setCell_heap _ _ _ _ (by omega) _ h3, h4, h5, h6.setCell (by show w.heap.size ≤ w.heap.size + 3; omega) _⟩
  case hC =>
    intro W hb
    refine ⟨(hb.block _ (by simp)).trans ?_, (hb.block _ (by simp)).trans ?_, (hb.block _ (by simp)).trans ?_⟩
    all_goals repeat (first | (refine al_lt _ _ _ _ ?hh ?_; (case hh => (simp only [World.size_alloc]; omega))) | (refine al_at _ _ _ ?hh; (case hh => (first | rfl | simp only [World.size_alloc]))))
  case h0 =>
    have hd : decide ((s.size : Int) ≤ 200) = decide (s.size ≤ 200) := decide_eq_decide.2 (by omega)
    refine ⟨?_, ?_, ?_, (fun x hx => by cases hx), by simp, ?_⟩
    case _ => repeat (first | (refine al_lt _ _ _ _ ?hh ?_; (case hh => (simp only [World.size_alloc]; omega))) | (refine al_at _ _ _ ?hh; (case hh => (first | rfl | simp only [World.size_alloc]))))
    case _ => rw [← hd]; repeat (first | (refine al_lt _ _ _ _ ?hh ?_; (case hh => (simp only [World.size_alloc]; omega))) | (refine al_at _ _ _ ?hh; (case hh => (first | rfl | simp only [World.size_alloc]))))
    case _ => repeat (first | (refine al_lt _ _ _ _ ?hh ?_; (case hh => (simp only [World.size_alloc]; omega))) | (refine al_at _ _ _ ?hh; (case hh => (first | rfl | simp only [World.size_alloc]))))
    case _ => repeat' first | exact Below.refl _ _ | (refine Below.alloc ?_ ?_ _; rotate_left; (first | (show w.heap.size ≤ w.heap.size; exact Nat.le_refl _) | (simp only [World.size_alloc]; omega)))
  case hassign =>
    intro l x W K hK
    gi_wp2
    exact hK
  case hdone =>
    intro D xs W hD hS hI hK
    obtain ⟨h1, h2, h3, h4, h5, h6⟩ := hI
    have hc := (cell_of_one h2).1
    have hf : Hid (okDen (bysN s) = decide (s.size ≤ 200)) := Lib.hid (by
      unfold okDen
      have e1 : (parts (bysN s)).all okPart = true := by
        rw [← hS, List.all_eq_true]
        intro y hy
        obtain ⟨x, hx, rfl⟩ := List.mem_map.1 hy
        exact h4 x hx
      rw [e1, hl, ← hS, List.length_map, decide_eq_true h5]
      rfl)
    simp only [World.size_alloc] at hD
    clear hS h4
    gi_wp2
    refine ⟨by simp, .inl ⟨_, _, rfl, run_takeDeferred hK, ?_⟩⟩
    exact ⟨_, results_tmp rfl _ _ _, by rw [hf.out]; rfl, h6.trans (below_putObj _ _ _ _ (by omega))⟩
  case hstop =>
    intro D pre W hD hS hI hK
    obtain ⟨h1, h2, h3⟩ := hI
    have hc := (cell_of_one h1).1
    have hf : Hid (okDen (bysN s) = false) := Lib.hid (by
      obtain ⟨r, hr⟩ := hS
      unfold okDen
      rcases h2 with ⟨x, hx, hno⟩ | h2
      · have e1 : (parts (bysN s)).all okPart = false := by
          rw [hr, List.all_eq_false]
          exact ⟨txB x, List.mem_append_left _ (List.mem_map_of_mem hx), by rw [hno]; decide⟩
        rw [e1]; rfl
      · have e1 : ¬ (parts (bysN s)).length ≤ 5 := by rw [hr, List.length_append, List.length_map]; omega
        rw [decide_eq_false e1]; simp)
    simp only [World.size_alloc] at hD
    clear hS h2
    gi_wp2
    refine ⟨by simp, .inl ⟨_, _, rfl, run_takeDeferred hK, ?_⟩⟩
    exact ⟨_, results_tmp rfl _ _ _, by rw [hf.out]; rfl, h3.trans (below_putObj _ _ _ _ (by omega))⟩
  case hbody =>
    intro l d pre x W hd hl ⟨r, hr⟩ ⟨r2, hr2⟩ hI
    obtain ⟨h1, h2, h3, h4, h5, h6⟩ := hI
    have hc := (cell_of_one h3).1
    simp only [World.size_alloc] at hd hl
    have n1 : 1 ≤ 9 - 1 - 1 := by omega
    gi_wp2_with (refine ⟨trivial, ?_⟩; gi_at_call 71; refine (CallsIn.inRound l (callsIn_wide.2 (check1_any x.1 W w.heap.size pre.length x.2 (by omega) h1))).mono ?_)
    rintro e W1 ⟨rfl, hb1⟩
    have hlW : l < W.heap.size := (Array.getElem?_eq_some_iff.1 hr).1
    have hdW : d < W.heap.size := (Array.getElem?_eq_some_iff.1 hr2).1
    have hn1 := (hb1.block w.heap.size (by omega)).trans (setCell_one h1 _)
    have hoth : ∀ k o, k ≠ w.heap.size → W.heap[k]? = some o → W1.heap[k]? = some o := fun k o hk ho =>
      (hb1.block k (Array.getElem?_eq_some_iff.1 ho).1).trans (setCell_heap _ _ _ _ hk _ ho)
    have hr1 := hoth _ _ (by omega) h2
    have hkey : ∀ k, k ≠ w.heap.size → k < W.heap.size → W1.heap[k]? = W.heap[k]? := fun k hk hlt => (hoth k _ hk (Array.getElem?_eq_getElem hlt)).trans (Array.getElem?_eq_getElem hlt).symm
    have hB : Below w.heap.size w W1 := (h6.setCell (p := ⟨w.heap.size, 0, none⟩) (Nat.le_refl _) _).trans (hb1.mono (by omega))
    have hc1 := (cell_of_one hr1).1
    have hf1 := (cell_of_one hr1).2
    have hok : Hid ((okPart (bysN x.1) && decide (pre.length + 1 ≤ 5)) = (okPart (txB x) && decide ((pre ++ [x]).length ≤ 5))) := Lib.hid (by rw [List.length_append]; rfl)
    generalize (okPart (bysN x.1) && decide (pre.length + 1 ≤ 5)) = bv at *
    have e3 := hoth _ _ (by omega) h3
    have n2 : (pre ++ [x]).length = pre.length + 1 := by rw [List.length_append]; rfl
    have Hr := Bx9.mk hr1
    have Hk := Bx9.mk (hkey l (by omega) hlW)
    have Hd := Bx9.mk (hkey d (by omega) hdW)
    have Kq := Bx9.mk hkey
    clear hb1 hoth hkey
    cases bv
    · gi_wp2
      refine ⟨rfl, (setCell_heap _ _ _ _ (by omega) _ (Hk.out.trans hr)).trans hr.symm, (setCell_heap _ _ _ _ (by omega) _ (Hd.out.trans hr2)).trans hr2.symm, setCell_one Hr.out _, ?_, hB.setCell (by show w.heap.size ≤ w.heap.size + 1; omega) _⟩
      have h9 := hok.out
      cases ho : okPart (txB x) with
      | false => exact .inl ⟨x, by simp, ho⟩
      | true =>
        rw [ho, Bool.true_and] at h9
        exact .inr (by have := of_decide_eq_false h9.symm; omega)
    · gi_wp2
      have h9 := hok.out.symm
      rw [Bool.and_eq_true] at h9
      refine ⟨Hk.out, Hd.out, ⟨Kq.out _ (by omega) (by omega), Kq.out _ (by omega) (by omega), Kq.out _ (by omega) (by omega)⟩, by rw [n2]; exact hn1, Hr.out, e3, ?_, of_decide_eq_true h9.2, hB⟩
      intro y hy
      rcases List.mem_append.1 hy with h | h
      · exact h4 y h
      · simp at h; rw [h]; exact h9.1
end Go.Proofs.YtpcdgljcpacpiaaGreatDoor
namespace Go.Proofs.YtpcdgljcpacpiaaGreatDoor
open Go.RowKit
def slash : ByteArray := ⟨#[47]⟩
theorem indexB_slash (s : ByteArray) : Lib.indexB s slash = Lib.indexByte s.data.toList 47 := Lib.index_one _ _
theorem split_parts : ∀ (n : Nat) (s : ByteArray), s.size ≤ n → (Lib.splitB slash 0 (Lib.countB s slash) s).map bysN = parts (bysN s) ∧ (parts (bysN s)).length = Lib.countB s slash + 1
  | n, s, hn => by
    rcases idx_cases s with h | ⟨i, h⟩
    · have h2 := idx_none h
      rw [← indexB_slash] at h
      rw [Lib.countB_miss s slash h, h2]
      exact ⟨rfl, rfl⟩
    · obtain ⟨hi, h2⟩ := idx_some h
      rw [← indexB_slash] at h
      rw [Lib.countB_hit s slash i (by decide) h, Nat.add_comm 1, Lib.splitB_hit slash 0 _ s i h, h2]
      cases n with
      | zero => omega
      | succ n =>
        obtain ⟨h3, h4⟩ := split_parts n (s.extract (i + 1) s.size) (by rw [ByteArray.size_extract]; omega)
        have e : slash.size = 1 := rfl
        rw [e]
        refine ⟨?_, ?_⟩
        · rw [List.map_cons, h3]; rfl
        · rw [List.length_cons, h4]
theorem pcut_len : ∀ (l cur : List Nat), (pcut cur l).length = l.count 47 + 1
  | [], _ => rfl
  | c :: r, cur => by
    rw [pcut]
    by_cases h : c = 47
    · rw [if_pos h, List.length_cons, pcut_len r []]; subst h; rw [List.count_cons_self]
    · rw [if_neg h, pcut_len r _, List.count_cons_of_ne h]
theorem count_bysN (s : ByteArray) : Lib.countByte s.data.toList 47 = (bysN s).count 47 := by
  unfold Lib.countByte bysN
  induction s.data.toList with
  | nil => rfl
  | cons a r ih =>
    rw [List.map_cons]
    by_cases h : a = 47
    · subst h; rw [List.count_cons_self, ih]; exact (List.count_cons_self).symm
    · have h2 : a.toNat ≠ 47 := fun h3 => h (UInt8.toNat.inj (h3.trans (by rfl)))
      rw [List.count_cons_of_ne h, ih, List.count_cons_of_ne h2]
theorem pcut_last : ∀ (a cur b : List Nat), (∀ c ∈ b, c ≠ 47) → (pcut cur (a ++ 47 :: b)).getLast? = some b
  | [], cur, b, h => by
    rw [List.nil_append, pcut, if_pos rfl, pcut_none b [] h]
    rfl
  | c :: r, cur, b, h => by
    rw [List.cons_append, pcut]
    split
    · have := pcut_last r [] b h
      rw [List.getLast?_cons, this]; rfl
    · exact pcut_last r _ b h
/-- What stands behind the last slash. -/
def pLast (l : List Nat) : List Nat := ((parts l).getLast?).getD []
theorem last_any (s : ByteArray) : ∃ k : Nat, Lib.lastIndexByte s 47 + 1 = (k : Int) ∧ k ≤ s.size ∧ (bysN s).drop k = pLast (bysN s) := by
  have hl := bysN_len s
  have hg : ∀ j, j < s.size → ((s.data[j]!).toNat : Int) = ((bysN s).getD j 0 : Nat) := by
    intro j hj
    have hj2 : j < s.data.size := by rw [ByteArray.size_data]; exact hj
    rw [getElem!_pos s.data j hj2]
    have := str_get s j hj hj
    rw [← this]
    rfl
  rcases Lib.lastIndexByte_spec s 47 with ⟨h, hn⟩ | ⟨i, hi, h, hc, hn⟩
  · refine ⟨0, by rw [h]; rfl, Nat.zero_le _, ?_⟩
    have hno : ∀ c ∈ bysN s, c ≠ 47 := by
      intro c hc h47
      obtain ⟨k, hk⟩ := List.mem_iff_getElem?.1 hc
      have hk2 : k < (bysN s).length := (List.getElem?_eq_some_iff.1 hk).1
      have := hn k (by omega)
      rw [hg k (by omega), List.getD_eq_getElem?_getD, hk] at this
      simp at this
      omega
    unfold pLast parts
    rw [pcut_none _ _ hno]
    rfl
  · refine ⟨i + 1, by rw [h]; rfl, hi, ?_⟩
    have hil : i < (bysN s).length := by omega
    have h47 : (bysN s)[i] = 47 := by
      rw [hg i hi, List.getD_eq_getElem?_getD, List.getElem?_eq_getElem hil] at hc
      simp at hc
      omega
    have hsp : bysN s = (bysN s).take i ++ 47 :: (bysN s).drop (i + 1) := by
      conv => lhs; rw [← List.take_append_drop i (bysN s), List.drop_eq_getElem_cons hil, h47]
    have hno : ∀ c ∈ (bysN s).drop (i + 1), c ≠ 47 := by
      intro c hc2 h472
      obtain ⟨k, hk⟩ := List.mem_iff_getElem?.1 hc2
      rw [List.getElem?_drop] at hk
      have hk2 : i + 1 + k < (bysN s).length := (List.getElem?_eq_some_iff.1 hk).1
      have := hn (i + 1 + k) (by omega) (by omega)
      rw [hg _ (by omega), List.getD_eq_getElem?_getD, hk] at this
      simp at this
      omega
    unfold pLast parts
    conv => rhs; rw [hsp]
    rw [pcut_last _ _ _ hno]
    rfl
/-- Parts put together. -/
def pjoin : List (List Nat) → List Nat
  | [] => []
  | [a] => a
  | a :: b :: r => a ++ 47 :: pjoin (b :: r)
theorem pjoin_tail : ∀ (a : List Nat) (r : List (List Nat)), pjoin (a :: r) = a ++ (r.map (47 :: ·)).flatten
  | a, [] => by simp [pjoin]
  | a, b :: r => by rw [pjoin, pjoin_tail b r]; simp
theorem join_bys (xs : List ByteArray) : bysN ⟨(Lib.join (xs.map (·.data.toList)) slash.data.toList).toArray⟩ = pjoin (xs.map bysN) := by
  cases xs with
  | nil => rfl
  | cons a r =>
    rw [List.map_cons, Lib.join_cons, List.map_cons, pjoin_tail]
    unfold bysN Lib.joinTail
    simp only [List.map_append, List.map_flatten, List.map_map]
    congr 2
theorem parts_join : ∀ (ls : List (List Nat)), ls ≠ [] → (∀ x ∈ ls, ∀ c ∈ x, c ≠ 47) → parts (pjoin ls) = ls
  | [], h, _ => absurd rfl h
  | [a], _, h => by rw [pjoin]; exact pcut_none a [] (h a (List.mem_cons_self ..))
  | a :: b :: r, _, h => by
    rw [pjoin]
    have h2 := parts_join (b :: r) (by simp) (fun x hx => h x (List.mem_cons_of_mem _ hx))
    exact (pcut_app a [] _ (h a (List.mem_cons_self ..))).trans (by rw [List.nil_append]; exact congrArg (a :: ·) h2)
theorem pjoin_len_snoc : ∀ (ls : List (List Nat)) (a : List Nat), ls ≠ [] → pjoin (ls ++ [a]) = pjoin ls ++ 47 :: a
  | [], _, h => absurd rfl h
  | [b], a, _ => rfl
  | b :: c :: r, a, _ => by
    show b ++ 47 :: pjoin ((c :: r) ++ [a]) = _
    rw [pjoin_len_snoc (c :: r) a (by simp), pjoin]
    simp
/-- Does the channel come off, and what is left may be? -/
def okRet (c d : List Nat) : Bool := (c ++ [47]).isPrefixOf d && okDen (d.drop (c.length + 1))
def pHops (l : List Nat) : Nat := if okDen l then (parts l).length - 1 else 0
def pBase (l : List Nat) : List Nat := if okDen l then pLast l else []
def pRet (c d : List Nat) : List Nat := if okRet c d then d.drop (c.length + 1) else []
end Go.Proofs.YtpcdgljcpacpiaaGreatDoor
namespace Go.Proofs.YtpcdgljcpacpiaaGreatDoor
open Go.RowKit
attribute [local go_sem ↓] Go.wp_at_zero Go.wp_at_succ
theorem hops_nat (s : ByteArray) (h : okDen (bysN s) = true) : Lib.countByte s.data.toList 47 = pHops (bysN s) := by
  unfold pHops
  rw [if_pos h, count_bysN]
  unfold parts
  rw [pcut_len]
  rfl
theorem prefix_any (c d : ByteArray) (w : World) (hc : c.size ≤ 1000000) (hd : d.size ≤ 1000000) : Calls Tryz.prog 49 #[.string c, .string d] w fun e w' => ∃ t, e = .returned (.string t) ∧ bysN t = bysN c ++ 47 :: bysN d ∧ w = w' := by
  obtain ⟨t1, h1, a1⟩ := cat_big c ⟨#[47]⟩ (by show c.size + 1 ≤ _; omega)
  have hs1 : t1.size = c.size + 1 := by rw [← bysN_len, h1, List.length_append, bysN_len]; rfl
  obtain ⟨t2, h2, a2⟩ := cat_big t1 d (by omega)
  have H : Hid (bysN t2 = bysN c ++ 47 :: bysN d) := Lib.hid (by rw [h2, h1, List.append_assoc]; rfl)
  clear h1 h2
  go_enter Tryz.func49, Tryz.ntmps49
  go_wp2
  go_ret
  exact ⟨_, rfl, H.out, rfl⟩
theorem escrow_any (c : ByteArray) (w : World) (hc : c.size ≤ 1000000) : Calls Tryz.prog 36 #[.string c] w fun e w' => ∃ t, e = .returned (.string t) ∧ bysN t = [101, 115, 99, 114, 111, 119, 47] ++ bysN c ∧ w = w' := by
  obtain ⟨t1, h1, a1⟩ := cat_big ⟨#[101, 115, 99, 114, 111, 119, 47]⟩ c (by show 7 + c.size ≤ _; omega)
  have H : Hid (bysN t1 = [101, 115, 99, 114, 111, 119, 47] ++ bysN c) := Lib.hid h1
  clear h1
  go_enter Tryz.func36, Tryz.ntmps36
  go_wp2
  go_ret
  exact ⟨_, rfl, H.out, rfl⟩
theorem isPrefix_map (a b : List UInt8) : a.isPrefixOf b = (a.map UInt8.toNat).isPrefixOf (b.map UInt8.toNat) := by
  induction a generalizing b with
  | nil => simp
  | cons x r ih =>
    cases b with
    | nil => rfl
    | cons y q =>
      rw [List.map_cons, List.map_cons, List.isPrefixOf_cons_cons, List.isPrefixOf_cons_cons, ih]
      congr 1
      by_cases h : x = y
      · subst h; simp
      · have h2 : x.toNat ≠ y.toNat := fun h3 => h (UInt8.toNat.inj h3)
        rw [beq_eq_false_iff_ne.2 h, beq_eq_false_iff_ne.2 h2]
theorem hasPrefix_bys (s p : ByteArray) : Lib.hasPrefix s.data.toList p.data.toList = (bysN p).isPrefixOf (bysN s) := isPrefix_map _ _
theorem returns_any (c d : ByteArray) (w : World) (hc : c.size ≤ 1000000) (hd : d.size ≤ 1000000) : Calls Tryz.prog 47 #[.string c, .string d] w fun e w' =>
    ∃ t, e = .returned (.tuple #[.string t, .bool (okRet (bysN c) (bysN d))]) ∧ bysN t = pRet (bysN c) (bysN d) ∧ Below w.heap.size w w' := by
  obtain ⟨t1, h1, a1⟩ := cat_big c ⟨#[47]⟩ (by show c.size + 1 ≤ _; omega)
  have hp := hasPrefix_bys d t1
  have ht1 : t1.size = c.size + 1 := by rw [← bysN_len, h1, List.length_append, bysN_len]; rfl
  rw [show bysN t1 = bysN c ++ [47] from h1] at hp
  have hcl := bysN_len c
  have hdl := bysN_len d
  obtain ⟨r, hr, hrs⟩ : ∃ r : ByteArray, (⟨(Lib.trimPrefix d.data.toList t1.data.toList).toArray⟩ : ByteArray) = r ∧ r.size ≤ d.size := ⟨_, rfl, by
    rw [Lib.size_eq, Lib.size_eq d]; exact Lib.trimPrefix_le _ _⟩
  have hrb : Hid ((bysN c ++ [47]).isPrefixOf (bysN d) = true → bysN r = (bysN d).drop (c.size + 1)) := Lib.hid (fun h => by
    rw [← hr]
    unfold Lib.trimPrefix
    rw [hp, h, if_pos rfl]
    unfold bysN
    rw [List.map_drop]
    rw [← ht1, Lib.size_eq])
  clear h1
  obtain ⟨pv, hpp⟩ : ∃ pv, (bysN c ++ [47]).isPrefixOf (bysN d) = pv := ⟨_, rfl⟩
  rw [hpp] at hp
  have Hp := Lib.hid hp
  have Hpp := Lib.hid hpp
  clear hp hpp
  cases pv
  · have hpp := Hpp.out
    have hf : Hid (okRet (bysN c) (bysN d) = false) := Lib.hid (by unfold okRet; rw [hpp]; rfl)
    clear hpp
    go_enter Tryz.func47, Tryz.ntmps47
    go_wp2_with (go_at_call 76; refine (Tryz.strings_CutPrefix _ _ _).mono ?_; rintro e w' ⟨rfl, rfl⟩; rw [hr, Hp.out])
    go_ret2
    exact ⟨_, by rw [hf.out]; rfl, by unfold pRet; rw [hf.out]; rfl, BW_refl _⟩
  · have hpp := Hpp.out
    have hbr := hrb.out hpp
    have hf : Hid (okRet (bysN c) (bysN d) = okDen (bysN r)) := Lib.hid (by unfold okRet; rw [hpp, hbr, hcl]; rfl)
    have Hbr := Lib.hid hbr
    clear hbr hrb hpp
    go_enter Tryz.func47, Tryz.ntmps47
    go_wp2_with (first | (go_at_call 76; refine (Tryz.strings_CutPrefix _ _ _).mono ?_; rintro e w' ⟨rfl, rfl⟩; rw [hr, Hp.out]) | (go_at_call 39; refine (check_any r _ (by omega)).mono ?_))
    rintro e w1 ⟨rfl, hb⟩
    cases hok : okDen (bysN r)
    · go_wp2
      go_ret2
      exact ⟨_, by rw [hf.out, hok]; rfl, by unfold pRet; rw [hf.out, hok]; rfl, hb⟩
    · go_wp2
      go_ret2
      exact ⟨_, by rw [hf.out, hok]; rfl, by unfold pRet; rw [hf.out, hok, if_pos rfl, Hbr.out, hcl], hb⟩
/-- A row of texts whose room is known: for strings.Join. -/
def JRow (w : World) (v : Value) (Ls : List ByteArray) : Prop := ∃ p cap, v = .slice p Ls.length cap ∧ (0 < Ls.length → Ls.length ≤ cap ∧ ∃ g off, p = some ⟨g, off, none⟩ ∧ g < w.heap.size ∧ ∀ (j : Nat) x, Ls[j]? = some x → w.cell? ⟨g, off + j, none⟩ = some (.string x))
theorem pcut_le : ∀ (l cur x : List Nat), x ∈ pcut cur l → x.length ≤ cur.length + l.length
  | [], cur, x, h => by simp [pcut] at h; subst h; simp
  | c :: r, cur, x, h => by
    rw [pcut] at h
    split at h
    · rcases List.mem_cons.1 h with rfl | h
      · simp
      · have := pcut_le r [] x h; simp at this ⊢; omega
    · have := pcut_le r _ x h; simp at this ⊢; omega
theorem parts_le {l x : List Nat} (h : x ∈ parts l) : x.length ≤ l.length := by have := pcut_le l [] x h; simpa using this
end Go.Proofs.YtpcdgljcpacpiaaGreatDoor
namespace Go.Proofs.YtpcdgljcpacpiaaGreatDoor
open Go.RowKit
attribute [local go_sem ↓] Go.wp_at_zero Go.wp_at_succ
theorem take_isPrefix (p l : List Nat) : decide (l.take p.length = p) = p.isPrefixOf l := by
  by_cases h : p.isPrefixOf l = true
  · rw [h]
    exact decide_eq_true (List.prefix_iff_eq_take.1 (List.isPrefixOf_iff_prefix.1 h)).symm
  · rw [Bool.not_eq_true] at h
    rw [h]
    refine decide_eq_false fun h2 => ?_
    have : p.isPrefixOf l = true := List.isPrefixOf_iff_prefix.2 (List.prefix_iff_eq_take.2 h2.symm)
    rw [h] at this
    cases this
theorem r12returns_any (c d : ByteArray) (w : World) (hc : c.size ≤ 1000000) (hd : d.size ≤ 1000000) : Calls Tryz.prog 48 #[.string c, .string d] w fun e w' =>
    ∃ t, e = .returned (.tuple #[.string t, .bool (okRet (bysN c) (bysN d))]) ∧ bysN t = pRet (bysN c) (bysN d) ∧ Below w.heap.size w w' := by
  obtain ⟨t1, h1, a1⟩ := cat_big c ⟨#[47]⟩ (by show c.size + 1 ≤ _; omega)
  have h1' : bysN t1 = bysN c ++ [47] := h1
  have hcl := bysN_len c
  have hdl := bysN_len d
  have ht1 : t1.size = c.size + 1 := by rw [← bysN_len, h1', List.length_append, hcl]; rfl
  have hb1 := toList_beq (d.extract 0 t1.size) t1
  rw [bysN_extract, List.drop_zero, ← bysN_len t1, take_isPrefix, h1', List.length_append, hcl] at hb1
  have hb1' : ((d.extract 0 (c.size + 1)).toList == t1.toList) = (bysN c ++ [47]).isPrefixOf (bysN d) := hb1
  obtain ⟨pv, hpp⟩ : ∃ pv, (bysN c ++ [47]).isPrefixOf (bysN d) = pv := ⟨_, rfl⟩
  rw [hpp] at hb1'
  have Hb := Lib.hid hb1'
  have Hpp := Lib.hid hpp
  clear h1 h1' hb1 hb1' hpp
  cases pv
  · have hf : Hid (okRet (bysN c) (bysN d) = false) := Lib.hid (by unfold okRet; rw [Hpp.out]; rfl)
    by_cases hsz : d.size < c.size + 1
    · have h3 : (d.size : Int) < (c.size : Int) + 1 := by omega
      go_enter Tryz.func48, Tryz.ntmps48
      go_wp2
      go_ret2
      exact ⟨_, by rw [hf.out]; rfl, by unfold pRet; rw [hf.out]; rfl, BW_refl _⟩
    · have h3 : ¬ (d.size : Int) < (c.size : Int) + 1 := by omega
      have h4 : (c.size : Int) + 1 ≤ (d.size : Int) := by omega
      have hb2 := Hb.out
      go_enter Tryz.func48, Tryz.ntmps48
      go_wp2
      go_ret2
      exact ⟨_, by rw [hf.out]; rfl, by unfold pRet; rw [hf.out]; rfl, BW_refl _⟩
  · have hle : c.size + 1 ≤ d.size := by
      have h9 : (bysN c ++ [47]) <+: bysN d := List.isPrefixOf_iff_prefix.1 Hpp.out
      have h10 := h9.length_le
      rw [List.length_append, hcl, hdl] at h10
      simpa using h10
    have h3 : ¬ (d.size : Int) < (c.size : Int) + 1 := by omega
    have h4 : (c.size : Int) + 1 ≤ (d.size : Int) := by omega
    have hb2 := Hb.out
    have hrb : bysN (d.extract (c.size + 1) d.size) = (bysN d).drop (c.size + 1) := by rw [bysN_extract, List.take_of_length_le (by omega)]
    have hrs : (d.extract (c.size + 1) d.size).size ≤ d.size := by rw [ByteArray.size_extract]; omega
    have hf : Hid (okRet (bysN c) (bysN d) = okDen (bysN (d.extract (c.size + 1) d.size))) := Lib.hid (by unfold okRet; rw [Hpp.out, hrb, hcl]; rfl)
    have Hbr := Lib.hid hrb
    have Hcl := Lib.hid hcl
    clear hrb hcl
    go_enter Tryz.func48, Tryz.ntmps48
    go_wp2_with (go_at_call 43; refine (r12check_any (d.extract (c.size + 1) d.size) _ (by omega)).mono ?_)
    rintro e w1 rfl hb
    cases hok : okDen (bysN (d.extract (c.size + 1) d.size))
    · go_wp2
      go_ret2
      exact ⟨_, by rw [hf.out, hok]; rfl, by unfold pRet; rw [hf.out, hok]; rfl, hb⟩
    · go_wp2
      go_ret2
      exact ⟨_, by rw [hf.out, hok]; rfl, by unfold pRet; rw [hf.out, hok, if_pos rfl, Hcl.out]; exact Hbr.out, hb⟩
theorem bits_low (n : Int) (k : Nat) (hk : k ≤ 32) : bits .and .i64 n (2 ^ k - 1 : Int) = n % 2 ^ k := by
  have e : bits .and .i64 n (2 ^ k - 1 : Int) = IntKind.i64.wrap (((BitVec.ofInt 64 n &&& BitVec.ofInt 64 (2 ^ k - 1)).toNat : Nat) : Int) := rfl
  have hp : (2 : Nat) ^ k ≤ 2 ^ 32 := Nat.pow_le_pow_right (by decide) hk
  have hp0 : 0 < (2 : Nat) ^ k := Nat.pow_pos (by decide)
  have e2 : (BitVec.ofInt 64 (2 ^ k - 1)).toNat = 2 ^ k - 1 := by
    rw [BitVec.toNat_ofInt]
    have : ((2 : Int) ^ k - 1) = ((2 ^ k - 1 : Nat) : Int) := by rw [Int.natCast_sub hp0]; simp
    rw [this]
    omega
  rw [e, IntKind.wrap_i64, BitVec.toNat_and, e2, Nat.and_two_pow_sub_one_eq_mod, BitVec.toNat_ofInt]
  have hdvd : (((2 ^ k : Nat)) : Int) ∣ ((2 ^ 64 : Nat) : Int) := Int.natCast_dvd_natCast.2 (Nat.pow_dvd_pow 2 (by omega))
  have h1 : (((n % ((2 ^ 64 : Nat) : Int)).toNat % 2 ^ k : Nat) : Int) = n % 2 ^ k := by
    rw [Int.natCast_emod, Int.toNat_of_nonneg (Int.emod_nonneg _ (by decide))]
    have : (((2 ^ k : Nat)) : Int) = 2 ^ k := by simp
    rw [Int.emod_emod_of_dvd n hdvd, this]
  rw [h1]
  have h2 : 0 ≤ n % 2 ^ k := Int.emod_nonneg _ (by have : (0 : Int) < 2 ^ k := by exact_mod_cast hp0
                                                   omega)
  have h3 : n % 2 ^ k < 2 ^ k := Int.emod_lt_of_pos _ (by exact_mod_cast hp0)
  have h4 : (2 : Int) ^ k ≤ 2 ^ 32 := by exact_mod_cast hp
  omega
/-- A word's letter, and the word. -/
def ltr (n : Int) (i : Nat) : Nat := 97 + (n / 2 ^ (2 + 3 * i) % 8).toNat
def wordL (n : Int) : List Nat := (List.range (1 + (n % 4).toNat)).map (ltr n)
theorem conv_f1 (w : World) (x : Int) (cap : Nat) :
    (convert 56 9 (.slice (some ⟨w.heap.size, 0, none⟩) 1 cap)).run Tryz.prog (w.alloc (.cells #[.int .u8 x] 5)) = .ok (.string ⟨#[UInt8.ofNat x.toNat]⟩) (w.alloc (.cells #[.int .u8 x] 5)) := by
  rw [run_convert_bytes_arg (w.alloc (.cells #[.int .u8 x] 5)) 56 5 Tryz.underlying56 Tryz.underlying5 w.heap.size 0 1 cap [x] rfl (by
    intro i hi
    have : i = 0 := by omega
    subst this; simp [go_sem]) 9 Tryz.underlying9]
  rfl
attribute [local go_sem] conv_f1
theorem ltr_lt (n : Int) (i : Nat) : 97 ≤ ltr n i ∧ ltr n i ≤ 104 := by unfold ltr; omega
end Go.Proofs.YtpcdgljcpacpiaaGreatDoor
namespace Go.Proofs.YtpcdgljcpacpiaaGreatDoor
open Go.RowKit
attribute [local go_sem ↓] Go.wp_at_zero Go.wp_at_succ
theorem below_drewN' {B : Nat} {a w : World} (h : Below B a w) : ∀ k : Nat, Below B a (Nat.rec w (fun _ x => x.drew) k)
  | 0 => h
  | k + 1 => (below_drewN' h k).drew
theorem pjoin_len : ∀ (ls : List (List Nat)) (m : Nat), (∀ x ∈ ls, x.length ≤ m) → (pjoin ls).length ≤ ls.length * (m + 1)
  | [], _, _ => by simp [pjoin]
  | [a], m, h => by have := h a (List.mem_cons_self ..); simp [pjoin]; omega
  | a :: b :: r, m, h => by
    have h1 := pjoin_len (b :: r) m (fun x hx => h x (List.mem_cons_of_mem _ hx))
    have h2 := h a (List.mem_cons_self ..)
    rw [pjoin, List.length_append, List.length_cons]
    rw [List.length_cons (a := a), Nat.succ_mul]
    omega
theorem pjoin_take (ls : List (List Nat)) (k : Nat) (h : k < ls.length) (h0 : 0 < k) : pjoin (ls.take (k + 1)) = pjoin (ls.take k) ++ 47 :: ls[k] := by
  rw [List.take_succ_eq_append_getElem h]
  refine pjoin_len_snoc _ _ fun h1 => ?_
  have := congrArg List.length h1
  rw [List.length_take, Nat.min_eq_left (Nat.le_of_lt h)] at this
  simp at this
  omega
end Go.Proofs.YtpcdgljcpacpiaaGreatDoor
namespace Go.Proofs.YtpcdgljcpacpiaaGreatDoor
open Go.RowKit
theorem own2_jrow {w : World} {base n : Nat} {v : Value} {Ls : List ByteArray} (h : own2 w base 9 v n (Ls.map Value.string)) (hn : n = Ls.length) : JRow w v Ls := by
  subst hn
  rcases h with ⟨rfl, h0, h1⟩ | h
  · have : Ls = [] := by simpa using h1
    subst this
    exact ⟨none, 0, rfl, fun h => by simp at h⟩
  · obtain ⟨g, cap, rfl, _, hg, hc1, _, hc⟩ := h.form
    refine ⟨_, cap, rfl, fun _ => ⟨hc1, g, 0, rfl, hg, fun j x hx => ?_⟩⟩
    rw [Nat.zero_add]
    exact hc j _ (by rw [List.getElem?_map, hx]; rfl)
theorem JRow.strs {w : World} {v : Value} {Ls : List ByteArray} (h : JRow w v Ls) : Strs w v Ls := by
  obtain ⟨p, cap, rfl, h⟩ := h
  refine ⟨p, cap, rfl, fun h0 => ?_⟩
  obtain ⟨_, g, off, rfl, _, hc⟩ := h h0
  exact ⟨g, off, rfl, fun i hi => hc i _ (List.getElem?_eq_getElem hi)⟩
theorem JRow.on {w w' : World} {v : Value} {Ls : List ByteArray} (h : JRow w v Ls) (hb : Below w.heap.size w w') : JRow w' v Ls := by
  obtain ⟨p, cap, rfl, h⟩ := h
  refine ⟨p, cap, rfl, fun h0 => ?_⟩
  obtain ⟨h1, g, off, rfl, hg, hc⟩ := h h0
  exact ⟨h1, g, off, rfl, Nat.lt_of_lt_of_le hg hb.size, fun j x hx => BW_cell hb (hc j x hx)⟩
theorem wordL_mem {n : Int} {c : Nat} (h : c ∈ wordL n) : 97 ≤ c ∧ c ≤ 104 := by
  unfold wordL at h
  obtain ⟨i, _, rfl⟩ := List.mem_map.1 h
  exact ltr_lt n i
theorem wordL_ns (n : Int) : ∀ c ∈ wordL n, c ≠ 47 := fun c hc => by have := wordL_mem hc; omega
theorem wordL_len (n : Int) : 1 ≤ (wordL n).length ∧ (wordL n).length ≤ 4 := by unfold wordL; rw [List.length_map, List.length_range]; omega
theorem okPart_of {l : List Nat} (h : ∀ c ∈ l, c ≠ 47) : okPart l = (decide (1 ≤ l.length) && decide (l.length ≤ 32)) := by
  unfold okPart
  have h1 : l.all (fun c => decide (c ≠ 47)) = true := by rw [List.all_eq_true]; intro c hc; exact decide_eq_true (h c hc)
  rw [h1]; rfl
theorem okPart_word (n : Int) : okPart (wordL n) = true := by
  rw [okPart_of (wordL_ns n)]
  have := wordL_len n
  rw [decide_eq_true this.1, decide_eq_true (show (wordL n).length ≤ 32 by omega)]
  rfl
theorem okPart_slash {l : List Nat} (h : 47 ∈ l) : okPart l = false := by
  unfold okPart
  have h1 : l.all (fun c => decide (c ≠ 47)) = false := by rw [List.all_eq_false]; exact ⟨47, h, by decide⟩
  rw [h1]; rfl
theorem okDen_join {ls : List (List Nat)} (h0 : ls ≠ []) (h : ∀ x ∈ ls, ∀ c ∈ x, c ≠ 47) : okDen (pjoin ls) = (ls.all okPart && decide (ls.length ≤ 5) && decide ((pjoin ls).length ≤ 200)) := by
  unfold okDen; rw [parts_join ls h0 h]
/-- A text without a slash, of 1 to 6 bytes. -/
def Wd (x : List Nat) : Prop := (∀ c ∈ x, c ≠ 47) ∧ 1 ≤ x.length ∧ x.length ≤ 6
theorem wd_word (n : Int) : Wd (wordL n) := ⟨wordL_ns n, (wordL_len n).1, by have := (wordL_len n).2; omega⟩
theorem okDen_words {ls : List (List Nat)} (h0 : ls ≠ []) (h : ∀ x ∈ ls, Wd x) : okDen (pjoin ls) = decide (ls.length ≤ 5) := by
  rw [okDen_join h0 (fun x hx => (h x hx).1)]
  have h1 : ls.all okPart = true := by
    rw [List.all_eq_true]
    intro x hx
    obtain ⟨a, b, c⟩ := h x hx
    rw [okPart_of a, decide_eq_true b, decide_eq_true (show x.length ≤ 32 by omega)]
    rfl
  rw [h1]
  have h2 := pjoin_len ls 6 (fun x hx => (h x hx).2.2)
  by_cases h5 : ls.length ≤ 5
  · rw [decide_eq_true h5, decide_eq_true (show (pjoin ls).length ≤ 200 by omega)]
    rfl
  · rw [decide_eq_false h5]; rfl
theorem pLast_join {ls : List (List Nat)} (h0 : ls ≠ []) (h : ∀ x ∈ ls, ∀ c ∈ x, c ≠ 47) : pLast (pjoin ls) = ls.getLast?.getD [] := by
  unfold pLast; rw [parts_join ls h0 h]
theorem pHops_words {ls : List (List Nat)} (h0 : ls ≠ []) (h : ∀ x ∈ ls, Wd x) : pHops (pjoin ls) = if ls.length ≤ 5 then ls.length - 1 else 0 := by
  unfold pHops
  rw [okDen_words h0 h, parts_join ls h0 (fun x hx => (h x hx).1)]
  by_cases h5 : ls.length ≤ 5 <;> simp [h5]
theorem pBase_words {ls : List (List Nat)} (h0 : ls ≠ []) (h : ∀ x ∈ ls, Wd x) : pBase (pjoin ls) = if ls.length ≤ 5 then ls.getLast?.getD [] else [] := by
  unfold pBase
  rw [okDen_words h0 h, pLast_join h0 (fun x hx => (h x hx).1)]
  by_cases h5 : ls.length ≤ 5 <;> simp [h5]
theorem isPre_self (c d : List Nat) : (c ++ [47]).isPrefixOf (c ++ 47 :: d) = true := by
  rw [List.isPrefixOf_iff_prefix]; exact ⟨d, by simp⟩
theorem drop_self (c d : List Nat) : (c ++ 47 :: d).drop (c.length + 1) = d := by
  rw [← List.drop_drop, List.drop_left]; rfl
theorem okRet_self (c d : List Nat) : okRet c (c ++ 47 :: d) = okDen d := by
  unfold okRet; rw [isPre_self, Bool.true_and, drop_self]
theorem pRet_self (c d : List Nat) : pRet c (c ++ 47 :: d) = if okDen d then d else [] := by
  unfold pRet; rw [okRet_self, drop_self]
theorem isPre_word {x y d : List Nat} (hx : ∀ c ∈ x, c ≠ 47) (hy : ∀ c ∈ y, c ≠ 47) : (x ++ [47]).isPrefixOf (y ++ 47 :: d) = decide (x = y) := by
  by_cases h : x = y
  · subst h; rw [isPre_self]; simp
  · rw [decide_eq_false h, Bool.eq_false_iff]
    intro h2
    obtain ⟨t, ht⟩ := List.isPrefixOf_iff_prefix.1 h2
    rw [List.append_assoc] at ht
    have h3 : pcut [] (x ++ 47 :: t) = pcut [] (y ++ 47 :: d) := congrArg (pcut []) ht
    rw [pcut_app x [] t hx, pcut_app y [] d hy] at h3
    exact h (by simpa using (List.cons.inj h3).1)
theorem okRet_word {x y : List Nat} (hx : ∀ c ∈ x, c ≠ 47) (hy : ∀ c ∈ y, c ≠ 47) : okRet x (y ++ [47, 120]) = decide (x = y) := by
  have h : (x ++ [47]).isPrefixOf (y ++ [47, 120]) = decide (x = y) := isPre_word hx hy
  unfold okRet
  rw [h]
  by_cases h : x = y
  · subst h
    have : (x ++ [47, 120]).drop (x.length + 1) = [120] := drop_self x [120]
    rw [this, decide_eq_true rfl]
    decide +kernel
  · rw [decide_eq_false h]; rfl
theorem join_cons {x : List Nat} {ls : List (List Nat)} (h0 : ls ≠ []) : pjoin (x :: ls) = x ++ 47 :: pjoin ls := by
  cases ls with
  | nil => exact absurd rfl h0
  | cons a r => rfl
/-- A denomination that went over channels. -/
def over (ls : List (List Nat)) : List Nat := pjoin (ls.reverse ++ [[120]])
theorem over_snoc (ls : List (List Nat)) (x : List Nat) : over (ls ++ [x]) = x ++ 47 :: over ls := by
  unfold over
  rw [List.reverse_append, List.reverse_singleton, List.append_assoc, List.singleton_append, join_cons (by simp)]
theorem over_words {ls : List (List Nat)} (h : ∀ x ∈ ls, Wd x) : (∀ x ∈ ls.reverse ++ [[120]], Wd x) := by
  intro x hx
  rcases List.mem_append.1 hx with hx | hx
  · exact h x (List.mem_reverse.1 hx)
  · simp at hx; subst hx; exact ⟨by simp, by simp, by simp⟩
theorem over_ok {ls : List (List Nat)} (h : ∀ x ∈ ls, Wd x) : okDen (over ls) = decide (ls.length ≤ 4) := by
  unfold over
  rw [okDen_words (by simp) (over_words h)]
  simp
theorem over_hops {ls : List (List Nat)} (h : ∀ x ∈ ls, Wd x) (hl : ls.length ≤ 4) : pHops (over ls) = ls.length := by
  unfold over
  rw [pHops_words (by simp) (over_words h)]
  simp
  omega
theorem over_base {ls : List (List Nat)} (h : ∀ x ∈ ls, Wd x) (hl : ls.length ≤ 4) : pBase (over ls) = [120] := by
  unfold over
  rw [pBase_words (by simp) (over_words h)]
  simp
  omega
theorem over_len {ls : List (List Nat)} (h : ∀ x ∈ ls, Wd x) : (over ls).length ≤ (ls.length + 1) * 7 := by
  have := pjoin_len (ls.reverse ++ [[120]]) 6 (fun x hx => (over_words h x hx).2.2)
  simpa [over] using this
end Go.Proofs.YtpcdgljcpacpiaaGreatDoor
