/- The law HashOrder: of two hashes one is less, or they are the same; of three the order goes on: for every input (the walk). -/
import Derived.Test.YtidceockbjeaoaaDoorH9
import Derived.Test.YtidceockbjeaoaaDoorDe
namespace Go.Proofs.YtidceockbjeaoaaDoor
open Go.RowKit
attribute [local go_sem ↓] Go.wp_at_zero Go.wp_at_succ
def RH (w : World) (b : Nat) (L : List Nat) : Prop := IsH L ∧ w.rangeAt b 0 (U8s L)
theorem RH.on {w w' : World} {b : Nat} {L : List Nat} (h : RH w b L) (hb : Below w.heap.size w w') : RH w' b L := ⟨h.1, range_on h.2 hb⟩
theorem RH.mk' {w : World} {b : Nat} {t : TypeId} {L : List Nat} (h : IsH L) (hb : Blk w b t (U8s L).toArray) : RH w b L := ⟨h, fun j v hj => by rw [Nat.zero_add, hb.cell]; simpa using hj⟩
theorem load_hash {ops : Array Oper} {rest : List Oper} {op : Oper} {a : Act} {w : World} {Q : Exit → Act → World → Prop} (hw : Region.wanted op (yielded ops a.tmps) = true) (x : Operand) (ho : op.op = .load 26 x)
    (b : Nat) (hx : a.eval x = .pointer (some ⟨b, 0, none⟩)) (L : List Nat) (hc : RH w b L) (h : wpList Tryd.prog ops Q rest (a.put op.dst (.agg (U8s L).toArray)) w) : wpList Tryd.prog ops Q (op :: rest) a w :=
  wpList_load_g hw 26 x ho b 0 hx (U8s L) _ hc.2 Tryd.underlying26 rfl (by rw [show (U8s L).length = L.length by simp [U8s], hc.1.1]; exact b32_size) h
def RH3 (w0 : World) (ga gb gc : Nat) (A B C : List Nat) (w : World) : Prop := RH w ga A ∧ RH w gb B ∧ RH w gc C ∧ Below w0.heap.size w0 w
theorem RH3.on {w0 w w' : World} {ga gb gc : Nat} {A B C : List Nat} (hb : Below w.heap.size w w') (h : RH3 w0 ga gb gc A B C w) : RH3 w0 ga gb gc A B C w' := ⟨h.1.on hb, h.2.1.on hb, h.2.2.1.on hb, BW_on h.2.2.2 hb⟩
set_option maxHeartbeats 4000000 in
set_option maxRecDepth 100000 in
theorem horder_any (A B C : List Nat) (hA : IsH A) (hB : IsH B) (hC : IsH C) (w : World) (ht : Hid (Tabs w)) :
    Calls Tryd.prog 4 #[.agg (U8s A).toArray, .agg (U8s B).toArray, .agg (U8s C).toArray] w fun e w' => e = .returned (.bool true) ∧ Below w.heap.size w w' := by
  have hsz : (byt A).size = 32 := by rw [byt_size]; exact hA.1
  have heq := eq_hash A B hA hB
  have bAB := bless_klt (byt A) (byt B)
  have bBA := bless_klt (byt B) (byt A)
  have bBC := bless_klt (byt B) (byt C)
  have bAC := bless_klt (byt A) (byt C)
  have key : (Op.bytesLess (byt A).toList (byt B).toList = true ∧ Op.bytesLess (byt B).toList (byt A).toList = false ∧ decide (A = B) = false ∧ ((Op.bytesLess (byt B).toList (byt C).toList = true ∧ Op.bytesLess (byt A).toList (byt C).toList = true) ∨ Op.bytesLess (byt B).toList (byt C).toList = false)) ∨
      (Op.bytesLess (byt A).toList (byt B).toList = false ∧ Op.bytesLess (byt B).toList (byt A).toList = true ∧ decide (A = B) = false) ∨
      (Op.bytesLess (byt A).toList (byt B).toList = false ∧ Op.bytesLess (byt B).toList (byt A).toList = false ∧ decide (A = B) = true) := by
    rw [bAB, bBA, bBC, bAC]
    by_cases h1 : klt (byt A) (byt B)
    · have h2 := klt_asymm h1
      have h3 : ¬ A = B := fun e => klt_ne h1 (by rw [e])
      refine .inl ⟨decide_eq_true h1, decide_eq_false h2, decide_eq_false h3, ?_⟩
      by_cases h4 : klt (byt B) (byt C)
      · exact .inl ⟨decide_eq_true h4, decide_eq_true (klt_trans h1 h4)⟩
      · exact .inr (decide_eq_false h4)
    · by_cases h2 : klt (byt B) (byt A)
      · have h3 : ¬ A = B := fun e => klt_ne h2 (by rw [e])
        exact .inr (.inl ⟨decide_eq_false h1, decide_eq_true h2, decide_eq_false h3⟩)
      · exact .inr (.inr ⟨decide_eq_false h1, decide_eq_false h2, decide_eq_true (byt_inj hA.2 hB.2 (klt_tri h1 h2))⟩)
  clear bAB bBA bBC bAC
  have Key := Lib.hid key
  have Heq := Lib.hid heq
  clear key heq
  go_enter Tryd.func4, Tryd.ntmps4
  have k1 := ((blk1 w 26 (U8s A).toArray).alloc (.cells (U8s B).toArray 26)).alloc (.cells (U8s C).toArray 26)
  have k2 := (blk2 w (.cells (U8s A).toArray 26) 26 (U8s B).toArray).alloc (.cells (U8s C).toArray 26)
  have k3 := blk3 w (.cells (U8s A).toArray 26) (.cells (U8s B).toArray 26) 26 (U8s C).toArray
  have hb := BW_alloc (BW_alloc (BW_alloc (BW_refl w) (.cells (U8s A).toArray 26)) (.cells (U8s B).toArray 26)) (.cells (U8s C).toArray 26)
  have hT := Lib.hid (((ht.out.on (BW_alloc (BW_refl w) (.cells (U8s A).toArray 26))).on (BW_alloc (BW_refl _) (.cells (U8s B).toArray 26))).on (BW_alloc (BW_refl _) (.cells (U8s C).toArray 26)))
  go_wp2_with fail
  have R := RH3.on (BW_refl _) (w0 := w) (ga := w.heap.size) (gb := w.heap.size + 1) (gc := w.heap.size + 1 + 1) (A := A) (B := B) (C := C) ⟨RH.mk' hA k1, RH.mk' hB k2, RH.mk' hC k3, hb⟩
  clear k1 k2 k3 hb
  refine (awake02_any _ hT).mono ?_
  rintro e w1 ⟨rfl, hb1⟩
  have R1 := RH3.on hb1 R
  clear R hT hb1
  generalize w.heap.size + 1 + 1 = gc at *
  generalize w.heap.size + 1 = gb at *
  generalize hga : w.heap.size = ga at *
  have Hga := Lib.hid hga
  clear hga
  rcases Key.out with ⟨h1, h2, h3, ⟨h4, h5⟩ | h4⟩ | ⟨h1, h2, h3⟩ | ⟨h1, h2, h3⟩
  all_goals
    have heq2 := Heq.out
    rw [h3] at heq2
    clear h3 Key
    go_wp2_with (first | (refine load_hash (by rfl) _ rfl ga rfl A (And.left (by assumption : RH3 w ga gb gc A B C _)) ?_) | (refine load_hash (by rfl) _ rfl gb rfl B (And.left (And.right (by assumption : RH3 w ga gb gc A B C _))) ?_) | (refine load_hash (by rfl) _ rfl gc rfl C (And.left (And.right (And.right (by assumption : RH3 w ga gb gc A B C _)))) ?_) | (go_at_call 19; refine (less_any _ _ (by assumption) (by assumption) _).mono ?_; rintro e wn ⟨rfl, hbn⟩; have h3n := RH3.on (w0 := w) (ga := ga) (gb := gb) (gc := gc) (A := A) (B := B) (C := C) hbn (by assumption)) | (go_at_call 20; refine (text_any _ (by assumption) _).mono ?_; rintro e wn ⟨rfl, hbn⟩; have h3n := RH3.on (w0 := w) (ga := ga) (gb := gb) (gc := gc) (A := A) (B := B) (C := C) hbn (by assumption)))
    go_ret
    exact ⟨rfl, h3n.2.2.2⟩
end Go.Proofs.YtidceockbjeaoaaDoor
