/- Tc, Tq, Td, Te, Tf, Tg in one text. -/
import Derived.Test.YtpcdgljcpacpiaaGreatDoorMH
import Derived.WalkMore
import Derived.Laws.EntriesVeiled
import Derived.Lib.SplitLaws
import Derived.Lib.CountLaws
import Derived.Lib.LastIndexByte
import Derived.Lib.Join
import Derived.BigQuiet
namespace Go.Proofs.YtpcdgljcpacpiaaGreatDoor
open Go.RowKit Go.Shelf
section
attribute [local go_sem ↓] Go.wp_at_zero Go.wp_at_succ
theorem splitSeq_any (s : ByteArray) (w : World) : Calls Tryz.prog 98 #[.string s, .string ⟨#[47]⟩, .int .i64 0] w fun e w' =>
    e = .returned (.func (.func 115) #[] #[.pointer (some ⟨w.heap.size + 1, 0, none⟩), .pointer (some ⟨w.heap.size, 0, none⟩), .pointer (some ⟨w.heap.size + 2, 0, none⟩)]) ∧
    w' = ((w.alloc (.cells #[.string s] 9)).alloc (.cells #[.string ⟨#[47]⟩] 9)).alloc (.cells #[.int .i64 0] 3) := by
  go_enter Tryz.func98, Tryz.ntmps98
  go_wp2
  go_ret
  exact ⟨rfl, rfl⟩
theorem SplitSeq_any (s : ByteArray) (w : World) : Calls Tryz.prog 73 #[.string s, .string ⟨#[47]⟩] w fun e w' =>
    e = .returned (.func (.func 115) #[] #[.pointer (some ⟨w.heap.size + 1, 0, none⟩), .pointer (some ⟨w.heap.size, 0, none⟩), .pointer (some ⟨w.heap.size + 2, 0, none⟩)]) ∧
    w' = ((w.alloc (.cells #[.string s] 9)).alloc (.cells #[.string ⟨#[47]⟩] 9)).alloc (.cells #[.int .i64 0] 3) := by
  go_enter Tryz.func73, Tryz.ntmps73
  go_wp2_with (go_at_call 98; refine (splitSeq_any _ _).mono ?_; rintro e w' ⟨rfl, rfl⟩)
  go_ret
  exact ⟨rfl, rfl⟩
set_option maxHeartbeats 4000000 in
set_option maxRecDepth 100000 in
theorem check1_any (s : ByteArray) (w : World) (b k : Nat) (hs : s.size ≤ 1000000) (hk : k ≤ 1000000) (hc : w.heap[b]? = some (.cells #[.int .i64 (k : Int)] 3 (0, 0))) :
    Calls Tryz.prog 71 #[.string s, .pointer (some ⟨b, 0, none⟩)] w fun e w' => e = .returned (.bool (okPart (bysN s) && decide (k + 1 ≤ 5))) ∧ Below w.heap.size (w.setCell ⟨b, 0, none⟩ (.int .i64 ((k + 1 : Nat) : Int))) w' := by
  have hlt : b < w.heap.size := (Array.getElem?_eq_some_iff.1 hc).1
  have hc1 := (cell_of_one hc).1
  have hf1 := (cell_of_one hc).2
  have hw1 : wrap64 ((k : Int) + 1) = (k : Int) + 1 := by unfold wrap64; omega
  have hset := setCell_one hc (.int .i64 ((k : Int) + 1))
  go_enter Tryz.func71, Tryz.ntmps71
  go_wp2_with (go_at_call 72; refine (part_any s _ hs).mono ?_)
  rintro e w1 ⟨rfl, hb1⟩
  have hc2 := (cell_of_one ((hb1.block b (by rw [World.size_setCell]; exact hlt)).trans hset)).1
  have hbb : Below w.heap.size (w.setCell ⟨b, 0, none⟩ (.int .i64 ((k + 1 : Nat) : Int))) w1 := by rw [World.size_setCell] at hb1; exact hb1
  clear hb1 hset hc hc1 hf1
  have hd : Bx9 (decide ((k : Int) + 1 ≤ 5) = decide (k + 1 ≤ 5)) := ⟨decide_eq_decide.2 (by omega)⟩
  cases hp : okPart (bysN s)
  · go_wp2
    go_ret
    exact ⟨by rw [hp]; rfl, hbb⟩
  · go_wp2
    go_ret
    exact ⟨by rw [hp, ← hd.out]; rfl, hbb⟩
end
theorem IterB.weak {α : Type} {P : Program} {n : Nat} {g : FuncId} {lb : Array Value} {enc : α → Value} {Kp : World → World → Prop} {S Sp : List α → Prop} {b0 : Nat} {C D : World → Prop} (h : IterB P n g lb enc Kp S Sp b0 C) (hD : ∀ W, D W → C W) : IterB P n g lb enc Kp S Sp b0 D :=
  fun l J Jx W hC => h l J Jx W (hD W hC)
attribute [local go_sem] Oper.semAt_some
/-- What Check's body keeps: n, right, each. -/
structure ChkI (N : Nat) (s : ByteArray) (w : World) (pre : List Tx) (W : World) : Prop where
  n : W.heap[N]? = some (.cells #[.int .i64 ((pre.length : Nat) : Int)] 3 (0, 0))
  r : W.heap[N + 1]? = some (.cells #[.bool (decide (s.size ≤ 200))] 4 (0, 0))
  e : W.heap[N + 2]? = some (.cells #[.func (.func 71) #[] #[.pointer (some ⟨N, 0, none⟩)]] 72 (0, 0))
  ok : ∀ x ∈ pre, okPart (txB x) = true
  le : pre.length ≤ 5
  bw : Below N w W
structure ChkX (N : Nat) (w : World) (pre : List Tx) (W : World) : Prop where
  r : W.heap[N + 1]? = some (.cells #[.bool false] 4 (0, 0))
  no : (∃ x ∈ pre, okPart (txB x) = false) ∨ 5 < pre.length
  bw : Below N w W
theorem al_at (W : World) (o : Obj) (k : Nat) (hk : k = W.heap.size) : (W.alloc o).heap[k]? = some o := by subst hk; exact World.alloc_heap_new W o
theorem al_lt (W : World) (o o' : Obj) (k : Nat) (hk : k < W.heap.size) (h : W.heap[k]? = some o') : (W.alloc o).heap[k]? = some o' := (Below.heap_alloc W o k hk).trans h
set_option maxHeartbeats 4000000 in
set_option maxRecDepth 100000 in
theorem check_any (s : ByteArray) (w : World) (hs : s.size ≤ 1000000) : Calls Tryz.prog 39 #[.string s] w fun e w' => e = .returned (.bool (okDen (bysN s))) ∧ Below w.heap.size w w' := by
  have hl := bysN_len s
  refine (callsIn_wide (n := 9)).1 ?_
  refine callsIn_of_wp_marks Tryz.func39 rfl trivial ?_ rfl
  simp only [Tryz.ntmps39, List.size_toArray, List.length_cons, List.length_nil, Nat.reduceAdd, Nat.reduceSub, Array.replicate_succ, Array.replicate_zero, List.push_toArray, List.append_toArray, List.nil_append, List.cons_append]
  gi_wp2
  refine wpIn_wide.2 (wp_scope_straight ((wpIn_wide (n := 9)).1 ?_))
  gi_wp2
  refine wpIn_label ?_
  gi_wp2_with ((first | gi_at_call 73 | (refine ⟨trivial, ?_⟩; gi_at_call 73)); refine (callsIn_wide.2 (SplitSeq_any s _)).mono ?_; rintro e w' ⟨rfl, rfl⟩)
  refine range_b (α := Tx) (gf := 115) (lb := #[.pointer (some ⟨w.heap.size + 3 + 1, 0, none⟩), .pointer (some ⟨w.heap.size + 3, 0, none⟩), .pointer (some ⟨w.heap.size + 3 + 2, 0, none⟩)]) (enc := txV) (Kp := Kp3 (w.heap.size + 3)) (S := fun xs => xs.map txB = parts (bysN s)) (Sp := fun pre => ∃ r, parts (bysN s) = pre.map txB ++ r) (b0 := w.heap.size + 3)
    ?hg (enters_of Tryz.func115 (by kernel_rfl) rfl) ?hb0 (IterB.weak (seqIt (9 - 1) (by omega) (w.heap.size + 3) s hs) ?hC) ?hps ?hKt ?hKb (ChkI w.heap.size s w) (ChkX w.heap.size w) 0 ?hI ?hIx ?hIb ?h0 (fun x => { tmps := #[.string s, undef, .bool false, .pointer (some ⟨w.heap.size, 0, none⟩), .pointer (some ⟨w.heap.size + 1, 0, none⟩), .pointer (some ⟨w.heap.size + 1 + 1, 0, none⟩), txV x, .string s, .int .i64 (s.size : Int), .bool (decide ((s.size : Int) ≤ 200)), .func (.func 71) #[] #[.pointer (some ⟨w.heap.size, 0, none⟩)], .string s, .func (.func 115) #[] #[.pointer (some ⟨w.heap.size + 1 + 1 + 1 + 1, 0, none⟩), .pointer (some ⟨w.heap.size + 1 + 1 + 1, 0, none⟩), .pointer (some ⟨w.heap.size + 1 + 1 + 1 + 2, 0, none⟩)], txV x, undef, undef, undef, undef, undef], defers := [] }) ?hassign ?hbody ?hdone ?hstop
  case hg => rfl
  case hps => rfl
  case hb0 => simp
  case hKt => exact fun h1 h2 => ⟨h2.1.trans h1.1, h2.2.1.trans h1.2.1, h2.2.2.trans h1.2.2⟩
  case hKb =>
    intro W l o hle
    simp only [World.size_alloc] at hle
    exact ⟨World.putObj_heap_other (by omega), World.putObj_heap_other (by omega), World.putObj_heap_other (by omega)⟩
  case hI =>
    rintro pre W W' ⟨h1, h2, h3, h4, h5, h6⟩ hb
    simp only [World.size_alloc] at hb
    exact ⟨(hb.block _ (by omega)).trans h1, (hb.block _ (by omega)).trans h2, (hb.block _ (by omega)).trans h3, h4, h5, h6.trans (hb.mono (by omega))⟩
  case hIx =>
    rintro pre W W' ⟨h1, h2, h3⟩ hb
    simp only [World.size_alloc] at hb
    exact ⟨(hb.block _ (by omega)).trans h1, h2, h3.trans (hb.mono (by omega))⟩
  case hIb =>
    rintro pre W v ⟨h1, h2, h3, h4, h5, h6⟩
    exact ⟨setCell_heap _ _ _ _ (by omega) _ h1, setCell_heap _ _ _ _ (by omega) _ h2, setCell_heap _ _ _ _ (by omega) _ h3, h4, h5, h6.setCell (by show w.heap.size ≤ w.heap.size + 3; omega) _⟩
  case hC =>
    intro W hb
    refine ⟨(hb.block _ (by simp)).trans ?_, (hb.block _ (by simp)).trans ?_, (hb.block _ (by simp)).trans ?_⟩
    all_goals repeat (first | (refine al_lt _ _ _ _ ?hh ?_; (case hh => (simp only [World.size_alloc]; omega))) | (refine al_at _ _ _ ?hh; (case hh => (first | rfl | simp only [World.size_alloc]))))
  case h0 =>
    have hd : decide ((s.size : Int) ≤ 200) = decide (s.size ≤ 200) := decide_eq_decide.2 (by omega)
    refine ⟨?_, ?_, ?_, (fun x hx => by cases hx), by simp, ?_⟩
    case _ => repeat (first | (refine al_lt _ _ _ _ ?hh ?_; (case hh => (simp only [World.size_alloc]; omega))) | (refine al_at _ _ _ ?hh; (case hh => (first | rfl | simp only [World.size_alloc]))))
    case _ => rw [← hd]; repeat (first | (refine al_lt _ _ _ _ ?hh ?_; (case hh => (simp only [World.size_alloc]; omega))) | (refine al_at _ _ _ ?hh; (case hh => (first | rfl | simp only [World.size_alloc]))))
    case _ => repeat (first | (refine al_lt _ _ _ _ ?hh ?_; (case hh => (simp only [World.size_alloc]; omega))) | (refine al_at _ _ _ ?hh; (case hh => (first | rfl | simp only [World.size_alloc]))))
    case _ => repeat' first | exact Below.refl _ _ | (refine Below.alloc ?_ ?_ _; rotate_left; (first | (show w.heap.size ≤ w.heap.size; exact Nat.le_refl _) | (simp only [World.size_alloc]; omega)))
  case hassign =>
    intro l x W K hK
    gi_wp2
    exact hK
  case hdone =>
    intro D xs W hD hS hI hK
    obtain ⟨h1, h2, h3, h4, h5, h6⟩ := hI
    have hc := (cell_of_one h2).1
    have hf : Hid (okDen (bysN s) = decide (s.size ≤ 200)) := Lib.hid (by
      unfold okDen
      have e1 : (parts (bysN s)).all okPart = true := by
        rw [← hS, List.all_eq_true]
        intro y hy
        obtain ⟨x, hx, rfl⟩ := List.mem_map.1 hy
        exact h4 x hx
      rw [e1, hl, ← hS, List.length_map, decide_eq_true h5]
      rfl)
    simp only [World.size_alloc] at hD
    clear hS h4
    gi_wp2
    refine ⟨by simp, .inl ⟨_, _, rfl, run_takeDeferred hK, ?_⟩⟩
    exact ⟨_, results_tmp rfl _ _ _, by rw [hf.out]; rfl, h6.trans (below_putObj _ _ _ _ (by omega))⟩
  case hstop =>
    intro D pre W hD hS hI hK
    obtain ⟨h1, h2, h3⟩ := hI
    have hc := (cell_of_one h1).1
    have hf : Hid (okDen (bysN s) = false) := Lib.hid (by
      obtain ⟨r, hr⟩ := hS
      unfold okDen
      rcases h2 with ⟨x, hx, hno⟩ | h2
      · have e1 : (parts (bysN s)).all okPart = false := by
          rw [hr, List.all_eq_false]
          exact ⟨txB x, List.mem_append_left _ (List.mem_map_of_mem hx), by rw [hno]; decide⟩
        rw [e1]; rfl
      · have e1 : ¬ (parts (bysN s)).length ≤ 5 := by rw [hr, List.length_append, List.length_map]; omega
        rw [decide_eq_false e1]; simp)
    simp only [World.size_alloc] at hD
    clear hS h2
    gi_wp2
    refine ⟨by simp, .inl ⟨_, _, rfl, run_takeDeferred hK, ?_⟩⟩
    exact ⟨_, results_tmp rfl _ _ _, by rw [hf.out]; rfl, h3.trans (below_putObj _ _ _ _ (by omega))⟩
  case hbody =>
    intro l d pre x W hd hl ⟨r, hr⟩ ⟨r2, hr2⟩ hI
    obtain ⟨h1, h2, h3, h4, h5, h6⟩ := hI
    have hc := (cell_of_one h3).1
    simp only [World.size_alloc] at hd hl
    have n1 : 1 ≤ 9 - 1 - 1 := by omega
    gi_wp2_with (refine ⟨trivial, ?_⟩; gi_at_call 71; refine (CallsIn.inRound l (callsIn_wide.2 (check1_any x.1 W w.heap.size pre.length x.2 (by omega) h1))).mono ?_)
    rintro e W1 ⟨rfl, hb1⟩
    have hlW : l < W.heap.size := (Array.getElem?_eq_some_iff.1 hr).1
    have hdW : d < W.heap.size := (Array.getElem?_eq_some_iff.1 hr2).1
    have hn1 := (hb1.block w.heap.size (by omega)).trans (setCell_one h1 _)
    have hoth : ∀ k o, k ≠ w.heap.size → W.heap[k]? = some o → W1.heap[k]? = some o := fun k o hk ho =>
      (hb1.block k (Array.getElem?_eq_some_iff.1 ho).1).trans (setCell_heap _ _ _ _ hk _ ho)
    have hr1 := hoth _ _ (by omega) h2
    have hkey : ∀ k, k ≠ w.heap.size → k < W.heap.size → W1.heap[k]? = W.heap[k]? := fun k hk hlt => (hoth k _ hk (Array.getElem?_eq_getElem hlt)).trans (Array.getElem?_eq_getElem hlt).symm
    have hB : Below w.heap.size w W1 := (h6.setCell (p := ⟨w.heap.size, 0, none⟩) (Nat.le_refl _) _).trans (hb1.mono (by omega))
    have hc1 := (cell_of_one hr1).1
    have hf1 := (cell_of_one hr1).2
    have hok : Hid ((okPart (bysN x.1) && decide (pre.length + 1 ≤ 5)) = (okPart (txB x) && decide ((pre ++ [x]).length ≤ 5))) := Lib.hid (by rw [List.length_append]; rfl)
    generalize (okPart (bysN x.1) && decide (pre.length + 1 ≤ 5)) = bv at *
    have e3 := hoth _ _ (by omega) h3
    have n2 : (pre ++ [x]).length = pre.length + 1 := by rw [List.length_append]; rfl
    have Hr := Bx9.mk hr1
    have Hk := Bx9.mk (hkey l (by omega) hlW)
    have Hd := Bx9.mk (hkey d (by omega) hdW)
    have Kq := Bx9.mk hkey
    clear hb1 hoth hkey
    cases bv
    · gi_wp2
      refine ⟨rfl, (setCell_heap _ _ _ _ (by omega) _ (Hk.out.trans hr)).trans hr.symm, (setCell_heap _ _ _ _ (by omega) _ (Hd.out.trans hr2)).trans hr2.symm, setCell_one Hr.out _, ?_, hB.setCell (by show w.heap.size ≤ w.heap.size + 1; omega) _⟩
      have h9 := hok.out
      cases ho : okPart (txB x) with
      | false => exact .inl ⟨x, by simp, ho⟩
      | true =>
        rw [ho, Bool.true_and] at h9
        exact .inr (by have := of_decide_eq_false h9.symm; omega)
    · gi_wp2
      have h9 := hok.out.symm
      rw [Bool.and_eq_true] at h9
      refine ⟨Hk.out, Hd.out, ⟨Kq.out _ (by omega) (by omega), Kq.out _ (by omega) (by omega), Kq.out _ (by omega) (by omega)⟩, by rw [n2]; exact hn1, Hr.out, e3, ?_, of_decide_eq_true h9.2, hB⟩
      intro y hy
      rcases List.mem_append.1 hy with h | h
      · exact h4 y h
      · simp at h; rw [h]; exact h9.1
end Go.Proofs.YtpcdgljcpacpiaaGreatDoor
namespace Go.Proofs.YtpcdgljcpacpiaaGreatDoor
open Go.RowKit
/-- Parts put together. -/
def pjoin : List (List Nat) → List Nat
  | [] => []
  | [a] => a
  | a :: b :: r => a ++ 47 :: pjoin (b :: r)
/-- Does the channel come off, and what is left may be? -/
def okRet (c d : List Nat) : Bool := (c ++ [47]).isPrefixOf d && okDen (d.drop (c.length + 1))
def pRet (c d : List Nat) : List Nat := if okRet c d then d.drop (c.length + 1) else []
end Go.Proofs.YtpcdgljcpacpiaaGreatDoor
namespace Go.Proofs.YtpcdgljcpacpiaaGreatDoor
open Go.RowKit
attribute [local go_sem ↓] Go.wp_at_zero Go.wp_at_succ
theorem prefix_any (c d : ByteArray) (w : World) (hc : c.size ≤ 1000000) (hd : d.size ≤ 1000000) : Calls Tryz.prog 49 #[.string c, .string d] w fun e w' => ∃ t, e = .returned (.string t) ∧ bysN t = bysN c ++ 47 :: bysN d ∧ w = w' := by
  obtain ⟨t1, h1, a1⟩ := cat_big c ⟨#[47]⟩ (by show c.size + 1 ≤ _; omega)
  have hs1 : t1.size = c.size + 1 := by rw [← bysN_len, h1, List.length_append, bysN_len]; rfl
  obtain ⟨t2, h2, a2⟩ := cat_big t1 d (by omega)
  have H : Hid (bysN t2 = bysN c ++ 47 :: bysN d) := Lib.hid (by rw [h2, h1, List.append_assoc]; rfl)
  clear h1 h2
  go_enter Tryz.func49, Tryz.ntmps49
  go_wp2
  go_ret
  exact ⟨_, rfl, H.out, rfl⟩
theorem escrow_any (c : ByteArray) (w : World) (hc : c.size ≤ 1000000) : Calls Tryz.prog 36 #[.string c] w fun e w' => ∃ t, e = .returned (.string t) ∧ bysN t = [101, 115, 99, 114, 111, 119, 47] ++ bysN c ∧ w = w' := by
  obtain ⟨t1, h1, a1⟩ := cat_big ⟨#[101, 115, 99, 114, 111, 119, 47]⟩ c (by show 7 + c.size ≤ _; omega)
  have H : Hid (bysN t1 = [101, 115, 99, 114, 111, 119, 47] ++ bysN c) := Lib.hid h1
  clear h1
  go_enter Tryz.func36, Tryz.ntmps36
  go_wp2
  go_ret
  exact ⟨_, rfl, H.out, rfl⟩
theorem isPrefix_map (a b : List UInt8) : a.isPrefixOf b = (a.map UInt8.toNat).isPrefixOf (b.map UInt8.toNat) := by
  induction a generalizing b with
  | nil => simp
  | cons x r ih =>
    cases b with
    | nil => rfl
    | cons y q =>
      rw [List.map_cons, List.map_cons, List.isPrefixOf_cons_cons, List.isPrefixOf_cons_cons, ih]
      congr 1
      by_cases h : x = y
      · subst h; simp
      · have h2 : x.toNat ≠ y.toNat := fun h3 => h (UInt8.toNat.inj h3)
        rw [beq_eq_false_iff_ne.2 h, beq_eq_false_iff_ne.2 h2]
theorem hasPrefix_bys (s p : ByteArray) : Lib.hasPrefix s.data.toList p.data.toList = (bysN p).isPrefixOf (bysN s) := isPrefix_map _ _
theorem returns_any (c d : ByteArray) (w : World) (hc : c.size ≤ 1000000) (hd : d.size ≤ 1000000) : Calls Tryz.prog 47 #[.string c, .string d] w fun e w' =>
    ∃ t, e = .returned (.tuple #[.string t, .bool (okRet (bysN c) (bysN d))]) ∧ bysN t = pRet (bysN c) (bysN d) ∧ Below w.heap.size w w' := by
  obtain ⟨t1, h1, a1⟩ := cat_big c ⟨#[47]⟩ (by show c.size + 1 ≤ _; omega)
  have hp := hasPrefix_bys d t1
  have ht1 : t1.size = c.size + 1 := by rw [← bysN_len, h1, List.length_append, bysN_len]; rfl
  rw [show bysN t1 = bysN c ++ [47] from h1] at hp
  have hcl := bysN_len c
  have hdl := bysN_len d
  obtain ⟨r, hr, hrs⟩ : ∃ r : ByteArray, (⟨(Lib.trimPrefix d.data.toList t1.data.toList).toArray⟩ : ByteArray) = r ∧ r.size ≤ d.size := ⟨_, rfl, by
    rw [Lib.size_eq, Lib.size_eq d]; exact Lib.trimPrefix_le _ _⟩
  have hrb : Hid ((bysN c ++ [47]).isPrefixOf (bysN d) = true → bysN r = (bysN d).drop (c.size + 1)) := Lib.hid (fun h => by
    rw [← hr]
    unfold Lib.trimPrefix
    rw [hp, h, if_pos rfl]
    unfold bysN
    rw [List.map_drop]
    rw [← ht1, Lib.size_eq])
  clear h1
  obtain ⟨pv, hpp⟩ : ∃ pv, (bysN c ++ [47]).isPrefixOf (bysN d) = pv := ⟨_, rfl⟩
  rw [hpp] at hp
  have Hp := Lib.hid hp
  have Hpp := Lib.hid hpp
  clear hp hpp
  cases pv
  · have hpp := Hpp.out
    have hf : Hid (okRet (bysN c) (bysN d) = false) := Lib.hid (by unfold okRet; rw [hpp]; rfl)
    clear hpp
    go_enter Tryz.func47, Tryz.ntmps47
    go_wp2_with (go_at_call 76; refine (Tryz.strings_CutPrefix _ _ _).mono ?_; rintro e w' ⟨rfl, rfl⟩; rw [hr, Hp.out])
    go_ret2
    exact ⟨_, by rw [hf.out]; rfl, by unfold pRet; rw [hf.out]; rfl, BW_refl _⟩
  · have hpp := Hpp.out
    have hbr := hrb.out hpp
    have hf : Hid (okRet (bysN c) (bysN d) = okDen (bysN r)) := Lib.hid (by unfold okRet; rw [hpp, hbr, hcl]; rfl)
    have Hbr := Lib.hid hbr
    clear hbr hrb hpp
    go_enter Tryz.func47, Tryz.ntmps47
    go_wp2_with (first | (go_at_call 76; refine (Tryz.strings_CutPrefix _ _ _).mono ?_; rintro e w' ⟨rfl, rfl⟩; rw [hr, Hp.out]) | (go_at_call 39; refine (check_any r _ (by omega)).mono ?_))
    rintro e w1 ⟨rfl, hb⟩
    cases hok : okDen (bysN r)
    · go_wp2
      go_ret2
      exact ⟨_, by rw [hf.out, hok]; rfl, by unfold pRet; rw [hf.out, hok]; rfl, hb⟩
    · go_wp2
      go_ret2
      exact ⟨_, by rw [hf.out, hok]; rfl, by unfold pRet; rw [hf.out, hok, if_pos rfl, Hbr.out, hcl], hb⟩
/-- A row of texts whose room is known: for strings.Join. -/
def JRow (w : World) (v : Value) (Ls : List ByteArray) : Prop := ∃ p cap, v = .slice p Ls.length cap ∧ (0 < Ls.length → Ls.length ≤ cap ∧ ∃ g off, p = some ⟨g, off, none⟩ ∧ g < w.heap.size ∧ ∀ (j : Nat) x, Ls[j]? = some x → w.cell? ⟨g, off + j, none⟩ = some (.string x))
end Go.Proofs.YtpcdgljcpacpiaaGreatDoor
namespace Go.Proofs.YtpcdgljcpacpiaaGreatDoor
open Go.RowKit
attribute [local go_sem ↓] Go.wp_at_zero Go.wp_at_succ
theorem take_isPrefix (p l : List Nat) : decide (l.take p.length = p) = p.isPrefixOf l := by
  by_cases h : p.isPrefixOf l = true
  · rw [h]
    exact decide_eq_true (List.prefix_iff_eq_take.1 (List.isPrefixOf_iff_prefix.1 h)).symm
  · rw [Bool.not_eq_true] at h
    rw [h]
    refine decide_eq_false fun h2 => ?_
    have : p.isPrefixOf l = true := List.isPrefixOf_iff_prefix.2 (List.prefix_iff_eq_take.2 h2.symm)
    rw [h] at this
    cases this
theorem r12returns_any (c d : ByteArray) (w : World) (hc : c.size ≤ 1000000) (hd : d.size ≤ 1000000) : Calls Tryz.prog 48 #[.string c, .string d] w fun e w' =>
    ∃ t, e = .returned (.tuple #[.string t, .bool (okRet (bysN c) (bysN d))]) ∧ bysN t = pRet (bysN c) (bysN d) ∧ Below w.heap.size w w' := by
  obtain ⟨t1, h1, a1⟩ := cat_big c ⟨#[47]⟩ (by show c.size + 1 ≤ _; omega)
  have h1' : bysN t1 = bysN c ++ [47] := h1
  have hcl := bysN_len c
  have hdl := bysN_len d
  have ht1 : t1.size = c.size + 1 := by rw [← bysN_len, h1', List.length_append, hcl]; rfl
  have hb1 := toList_beq (d.extract 0 t1.size) t1
  rw [bysN_extract, List.drop_zero, ← bysN_len t1, take_isPrefix, h1', List.length_append, hcl] at hb1
  have hb1' : ((d.extract 0 (c.size + 1)).toList == t1.toList) = (bysN c ++ [47]).isPrefixOf (bysN d) := hb1
  obtain ⟨pv, hpp⟩ : ∃ pv, (bysN c ++ [47]).isPrefixOf (bysN d) = pv := ⟨_, rfl⟩
  rw [hpp] at hb1'
  have Hb := Lib.hid hb1'
  have Hpp := Lib.hid hpp
  clear h1 h1' hb1 hb1' hpp
  cases pv
  · have hf : Hid (okRet (bysN c) (bysN d) = false) := Lib.hid (by unfold okRet; rw [Hpp.out]; rfl)
    by_cases hsz : d.size < c.size + 1
    · have h3 : (d.size : Int) < (c.size : Int) + 1 := by omega
      go_enter Tryz.func48, Tryz.ntmps48
      go_wp2
      go_ret2
      exact ⟨_, by rw [hf.out]; rfl, by unfold pRet; rw [hf.out]; rfl, BW_refl _⟩
    · have h3 : ¬ (d.size : Int) < (c.size : Int) + 1 := by omega
      have h4 : (c.size : Int) + 1 ≤ (d.size : Int) := by omega
      have hb2 := Hb.out
      go_enter Tryz.func48, Tryz.ntmps48
      go_wp2
      go_ret2
      exact ⟨_, by rw [hf.out]; rfl, by unfold pRet; rw [hf.out]; rfl, BW_refl _⟩
  · have hle : c.size + 1 ≤ d.size := by
      have h9 : (bysN c ++ [47]) <+: bysN d := List.isPrefixOf_iff_prefix.1 Hpp.out
      have h10 := h9.length_le
      rw [List.length_append, hcl, hdl] at h10
      simpa using h10
    have h3 : ¬ (d.size : Int) < (c.size : Int) + 1 := by omega
    have h4 : (c.size : Int) + 1 ≤ (d.size : Int) := by omega
    have hb2 := Hb.out
    have hrb : bysN (d.extract (c.size + 1) d.size) = (bysN d).drop (c.size + 1) := by rw [bysN_extract, List.take_of_length_le (by omega)]
    have hrs : (d.extract (c.size + 1) d.size).size ≤ d.size := by rw [ByteArray.size_extract]; omega
    have hf : Hid (okRet (bysN c) (bysN d) = okDen (bysN (d.extract (c.size + 1) d.size))) := Lib.hid (by unfold okRet; rw [Hpp.out, hrb, hcl]; rfl)
    have Hbr := Lib.hid hrb
    have Hcl := Lib.hid hcl
    clear hrb hcl
    go_enter Tryz.func48, Tryz.ntmps48
    go_wp2_with (go_at_call 43; refine (r12check_any (d.extract (c.size + 1) d.size) _ (by omega)).mono ?_)
    rintro e w1 rfl hb
    cases hok : okDen (bysN (d.extract (c.size + 1) d.size))
    · go_wp2
      go_ret2
      exact ⟨_, by rw [hf.out, hok]; rfl, by unfold pRet; rw [hf.out, hok]; rfl, hb⟩
    · go_wp2
      go_ret2
      exact ⟨_, by rw [hf.out, hok]; rfl, by unfold pRet; rw [hf.out, hok, if_pos rfl, Hcl.out]; exact Hbr.out, hb⟩
theorem conv_f1 (w : World) (x : Int) (cap : Nat) :
    (convert 56 9 (.slice (some ⟨w.heap.size, 0, none⟩) 1 cap)).run Tryz.prog (w.alloc (.cells #[.int .u8 x] 5)) = .ok (.string ⟨#[UInt8.ofNat x.toNat]⟩) (w.alloc (.cells #[.int .u8 x] 5)) := by
  rw [run_convert_bytes_arg (w.alloc (.cells #[.int .u8 x] 5)) 56 5 Tryz.underlying56 Tryz.underlying5 w.heap.size 0 1 cap [x] rfl (by
    intro i hi
    have : i = 0 := by omega
    subst this; simp [go_sem]) 9 Tryz.underlying9]
  rfl
attribute [local go_sem] conv_f1
end Go.Proofs.YtpcdgljcpacpiaaGreatDoor
namespace Go.Proofs.YtpcdgljcpacpiaaGreatDoor
open Go.RowKit
attribute [local go_sem ↓] Go.wp_at_zero Go.wp_at_succ
end Go.Proofs.YtpcdgljcpacpiaaGreatDoor
namespace Go.Proofs.YtpcdgljcpacpiaaGreatDoor
open Go.RowKit
theorem JRow.on {w w' : World} {v : Value} {Ls : List ByteArray} (h : JRow w v Ls) (hb : Below w.heap.size w w') : JRow w' v Ls := by
  obtain ⟨p, cap, rfl, h⟩ := h
  refine ⟨p, cap, rfl, fun h0 => ?_⟩
  obtain ⟨h1, g, off, rfl, hg, hc⟩ := h h0
  exact ⟨h1, g, off, rfl, Nat.lt_of_lt_of_le hg hb.size, fun j x hx => BW_cell hb (hc j x hx)⟩
/-- A denomination that went over channels. -/
def over (ls : List (List Nat)) : List Nat := pjoin (ls.reverse ++ [[120]])
end Go.Proofs.YtpcdgljcpacpiaaGreatDoor
