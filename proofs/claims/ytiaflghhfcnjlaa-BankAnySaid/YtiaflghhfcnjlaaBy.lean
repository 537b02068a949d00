/- Small laws for walks: an address of an element, a box of ten cells stored whole. -/
import Derived.Test.YtiaflghhfcnjlaaBo
import Derived.Test.YtiaflghhfcnjlaaBe
import Derived.Laws.Tables
set_option maxRecDepth 20000
namespace Go.Proofs.Ytiaflghhfcnjlaa
open Go.RowKit Go.ChangeShapes Go.WideShapes
section
variable {P : Program} {ops : Array Oper} {S : World → Prop} {op : Oper} {a : Act}
theorem yk_iaB (hw : Region.wanted op (yielded ops a.tmps) = true) (t : TypeId) (x i : Operand) (ho : op.op = .indexAddr t x i) (X I : Value) (hx : a.eval x = X) (hi : a.eval i = I) (v : Value)
    (hr : ∀ w, S w → (Instr.indexAt t X I).run P w = .ok v w) : YieldsIf P ops S op v a :=
  .inl ⟨hw, fun w hS => by
    have h := hr w hS
    unfold execOp
    simp only [ho, hx, hi]
    rw [Sem.run_bind, h]
    rfl⟩
theorem yk_faB (hw : Region.wanted op (yielded ops a.tmps) = true) (t : TypeId) (x : Operand) (i : Nat) (ho : op.op = .fieldAddr t x i) (X : Value) (hx : a.eval x = X) (v : Value)
    (hr : ∀ w, S w → (Instr.fieldAt t X i).run P w = .ok v w) : YieldsIf P ops S op v a :=
  .inl ⟨hw, fun w hS => by
    have h := hr w hS
    unfold execOp
    simp only [ho, hx]
    rw [Sem.run_bind, h]
    rfl⟩
theorem yk_build (hw : Region.wanted op (yielded ops a.tmps) = true) (t : TypeId) (parts : Array (Nat × Operand)) (ho : op.op = .build t parts) (v : Value)
    (hr : ∀ w, S w → (Instr.build t (parts.map fun (i, x) => (i, a.eval x))).run P w = .ok v w) : YieldsIf P ops S op v a :=
  .inl ⟨hw, fun w hS => by
    have h := hr w hS
    unfold execOp
    simp only [ho]
    rw [Sem.run_bind, h]
    rfl⟩
end
section
attribute [local go_sem ↓] Go.wp_at_zero Go.wp_at_succ
theorem eqWd (n : Nat) (w : World) : (Op.equalIn 10000 33 (.agg #[.int .u64 (limb n 0), .int .u64 (limb n 1), .int .u64 (limb n 2), .int .u64 (limb n 3)]) (.agg #[.int .u64 (limb n 0), .int .u64 (limb n 1), .int .u64 (limb n 2), .int .u64 (limb n 3)])).run Try.prog w = .ok true w := by
  have u3 := Try.underlying30
  have a3 := Try.isAgg30
  have z3 := Try.sizeOf30
  generalize limb n 0 = a
  generalize limb n 1 = b
  generalize limb n 2 = c
  generalize limb n 3 = d
  rw [show (10000 : Nat) = 9999 + 1 from rfl, Op.equalIn]
  simp only [Sem.run_bind, run_underlying Try.underlying33, Result.andThen_ok]
  simp only [Std.Legacy.Range.forIn_eq_forIn_range', Std.Legacy.Range.size, Nat.sub_zero, Nat.add_sub_cancel, Nat.div_one, List.range'_succ, List.range'_zero, List.forIn_cons, List.forIn_nil]
  go_simp
end
theorem Blk.store10 {w : World} {g : Nat} {t : TypeId} {p0 p1 p2 p3 p4 p5 p6 p7 p8 p9 : Value} (h : Blk w g t #[p0, p1, p2, p3, p4, p5, p6, p7, p8, p9]) (v0 v1 v2 v3 v4 v5 v6 v7 v8 v9 : Value) : Blk ((((((((((w.setCell ⟨g, 0, none⟩ v0).setCell ⟨g, 1, none⟩ v1).setCell ⟨g, 2, none⟩ v2).setCell ⟨g, 3, none⟩ v3).setCell ⟨g, 4, none⟩ v4).setCell ⟨g, 5, none⟩ v5).setCell ⟨g, 6, none⟩ v6).setCell ⟨g, 7, none⟩ v7).setCell ⟨g, 8, none⟩ v8).setCell ⟨g, 9, none⟩ v9) g t #[v0, v1, v2, v3, v4, v5, v6, v7, v8, v9] := by
  simpa using (((((((((h.set_ 0 v0).set_ 1 v1).set_ 2 v2).set_ 3 v3).set_ 4 v4).set_ 5 v5).set_ 6 v6).set_ 7 v7).set_ 8 v8).set_ 9 v9
theorem Blk.far10 {w : World} {g g2 : Nat} {t : TypeId} {cs : Array Value} (h : Blk w g2 t cs) (hg : g2 ≠ g) (v0 v1 v2 v3 v4 v5 v6 v7 v8 v9 : Value) : Blk ((((((((((w.setCell ⟨g, 0, none⟩ v0).setCell ⟨g, 1, none⟩ v1).setCell ⟨g, 2, none⟩ v2).setCell ⟨g, 3, none⟩ v3).setCell ⟨g, 4, none⟩ v4).setCell ⟨g, 5, none⟩ v5).setCell ⟨g, 6, none⟩ v6).setCell ⟨g, 7, none⟩ v7).setCell ⟨g, 8, none⟩ v8).setCell ⟨g, 9, none⟩ v9) g2 t cs :=
  (((((((((h.far hg _).far hg _).far hg _).far hg _).far hg _).far hg _).far hg _).far hg _).far hg _).far hg _
theorem below_store10 {B : Nat} {a w : World} (h : Below B a w) {g : Nat} (hg : B ≤ g) (v0 v1 v2 v3 v4 v5 v6 v7 v8 v9 : Value) : Below B a ((((((((((w.setCell ⟨g, 0, none⟩ v0).setCell ⟨g, 1, none⟩ v1).setCell ⟨g, 2, none⟩ v2).setCell ⟨g, 3, none⟩ v3).setCell ⟨g, 4, none⟩ v4).setCell ⟨g, 5, none⟩ v5).setCell ⟨g, 6, none⟩ v6).setCell ⟨g, 7, none⟩ v7).setCell ⟨g, 8, none⟩ v8).setCell ⟨g, 9, none⟩ v9) :=
  (((((((((h.setCell hg _).setCell hg _).setCell hg _).setCell hg _).setCell hg _).setCell hg _).setCell hg _).setCell hg _).setCell hg _).setCell hg _
/-- Entries in a block stand when another block is written. -/
theorem EntC.far {w : World} {g off b : Nat} {E : List Ent} (h : EntC w g off E) (hne : b ≠ g) (i : Nat) (u : Value) : EntC (w.setCell ⟨b, i, none⟩ u) g off E := fun j hj =>
  ⟨by rw [World.cell?_setCell_far _ _ _ _ hne]; exact (h j hj).1, by rw [World.cell?_setCell_far _ _ _ _ hne]; exact (h j hj).2⟩
/-- Two entries and more do not lie in a box that holds an op. -/
theorem Ents.box10 {w : World} {v : Value} {E : List Ent} {b : Nat} {t : TypeId} {p0 : Int} {p1 p2 p3 : ByteArray} {p4 p5 p6 p7 : Int} {p8 p9 : Bool} (h : Ents w v E) (hb : Blk w b t #[.int .i64 p0, .string p1, .string p2, .string p3, .int .u64 p4, .int .u64 p5, .int .u64 p6, .int .u64 p7, .bool p8, .bool p9]) (hl : E.length ≠ 1) (v0 v1 v2 v3 v4 v5 v6 v7 v8 v9 : Value) :
    Ents ((((((((((w.setCell ⟨b, 0, none⟩ v0).setCell ⟨b, 1, none⟩ v1).setCell ⟨b, 2, none⟩ v2).setCell ⟨b, 3, none⟩ v3).setCell ⟨b, 4, none⟩ v4).setCell ⟨b, 5, none⟩ v5).setCell ⟨b, 6, none⟩ v6).setCell ⟨b, 7, none⟩ v7).setCell ⟨b, 8, none⟩ v8).setCell ⟨b, 9, none⟩ v9) v E := by
  rcases h with h | ⟨h0, g, off, cap, h1, h2, h3, h4⟩
  · exact .inl h
  · have hne : b ≠ g := by
      rintro rfl
      have d0 := (h4 0 (by omega)).1
      have d1 := (h4 0 (by omega)).2
      have d2 := (h4 1 (by omega)).1
      have d3 := (h4 1 (by omega)).2
      rw [hb.cell] at d0 d1 d2 d3
      have hz : off ≤ 6 := by
        have := (Array.getElem?_eq_some_iff.1 d3).1
        simp at this
        omega
      have : off = 0 ∨ off = 1 ∨ off = 2 ∨ off = 3 ∨ off = 4 ∨ off = 5 ∨ off = 6 := by omega
      rcases this with rfl | rfl | rfl | rfl | rfl | rfl | rfl <;> simp at d0 d1 d2 d3
    exact .inr ⟨h0, g, off, cap, h1, h2, h3, (((((((((h4.far hne _ _).far hne _ _).far hne _ _).far hne _ _).far hne _ _).far hne _ _).far hne _ _).far hne _ _).far hne _ _).far hne _ _⟩
theorem okWide_op11 {W : World} {base : Nat} {v : Value} (h : Value.okWide Try.prog W .any base 35 v) : ∃ cs, v = .agg cs := by
  obtain ⟨cs, h, _⟩ := okWide_struct Try.underlying35 h
  exact ⟨cs, h⟩
end Go.Proofs.Ytiaflghhfcnjlaa
