/- What the laws of layer 4 share: worlds of walks with many boxes, and how a number among the inputs is read. -/
import Derived.Test.YtibemleodghhfaaK1
import Derived.Test.YtibemleodghhfaaR4
import Derived.Test.YtibemleodghhfaaR3
import Derived.Deep.RegionWith
import Derived.Deep.RegionHeld3
import Derived.Outline
namespace Go.Proofs.Ytibemleodghhfaa
open Go.RowKit Go.ChangeShapes Go.WideShapes
attribute [local go_sem ↓] Go.wp_at_zero Go.wp_at_succ
theorem wN_of {n : Nat} (h : W256 n) : wN n = n := by unfold wN; exact if_pos h
theorem wOk_of {n : Nat} (h : W256 n) : wOk n = true := decide_eq_true h
theorem W256.small {n : Nat} (h : n < 18446744073709551616) : W256 n := by
  unfold W256; exact Nat.lt_trans h (by decide)
theorem blkS {w : World} {g : Nat} {t : TypeId} {a b c d : Value} (h : Blk w g t #[a, b, c, d]) : w.cell? ⟨g, 0, none⟩ = some a ∧ w.cell? ⟨g, 1, none⟩ = some b ∧ w.cell? ⟨g, 2, none⟩ = some c ∧ w.cell? ⟨g, 3, none⟩ = some d :=
  ⟨h.cell 0, h.cell 1, h.cell 2, h.cell 3⟩
theorem with2 {K : Act → World → Prop} {Q : Exit → Act → World → Prop} {a : Act} {v W : World} (g g2 : Nat) {cs ds : Array Value} (h1 : Blk W g 26 cs) (h2 : Blk W g2 26 ds) (hB : Below v.heap.size v W)
    (h : Blk W g 26 cs → Blk W g2 26 ds → Below v.heap.size v W → Exit.then K Q .normal a W) : Exit.then K Q .normal a W := h h1 h2 hB
theorem BW_alloc {a w : World} (h : Below a.heap.size a w) (o : Obj) : Below a.heap.size a (w.alloc o) := h.alloc h.size o
theorem BW_on {a w w' : World} (h : Below a.heap.size a w) (hb : Below w.heap.size w w') : Below a.heap.size a w' := h.trans (hb.mono h.size)
theorem BW_off {a w : World} {p : Addr} (hp : a.heap.size ≤ p.block) (u : Value) (h : Below a.heap.size a w) : Below a.heap.size a (w.setCell p u) := h.setCell hp u
theorem Blk.off {w : World} {g : Nat} {t : TypeId} {cs : Array Value} {p : Addr} (hp : g ≠ p.block) (u : Value) (h : Blk w g t cs) : Blk (w.setCell p u) g t cs := h.far hp u
theorem Blk.on {w w' : World} {g : Nat} {t : TypeId} {cs : Array Value} (h : Blk w g t cs) (hb : Below w.heap.size w w') : Blk w' g t cs := h.below hb h.lt
theorem laidOut : laidOutB Try.prog = true := by kernel_rfl
theorem u64_nat {z : Int} (h : (Lit.int .u64 z).wf = true) : ∃ n : Nat, z = (n : Int) ∧ n < 18446744073709551616 := by
  simp [Lit.wf, IntKind.min, IntKind.max, IntKind.signed, IntKind.bits] at h
  exact ⟨z.toNat, by omega, by omega⟩
theorem wide_args {H : Type} {enc : TypeId × Value → H} {W : World} {base : Nat} {sp : Nat → Bool} {hd : Bool} {v : Value} {d : DataW H} {p : List MemPlace} (hv : Value.okWide Try.prog W .any base 26 v) (h : DataW.Trod enc Try.prog W 0 sp hd 26 v d p) :
    ∃ N, W256 N ∧ v = .agg #[.int .u64 (limb N 0), .int .u64 (limb N 1), .int .u64 (limb N 2), .int .u64 (limb N 3)] := by
  obtain ⟨zs, hz, rfl, hw⟩ := open_ints_array Try.underlying26 Try.underlying24 (by kernel_rfl) (by kernel_rfl) hv h
  match zs, hz, hw with
  | [a, b, c, e], _, hw =>
    obtain ⟨a, rfl, ha⟩ := u64_nat (hw a (by simp))
    obtain ⟨b, rfl, hb⟩ := u64_nat (hw b (by simp))
    obtain ⟨c, rfl, hc⟩ := u64_nat (hw c (by simp))
    obtain ⟨e, rfl, he⟩ := u64_nat (hw e (by simp))
    obtain ⟨N, hN, h0, h1, h2, h3⟩ := limbs_exist a b c e ha hb hc he
    exact ⟨N, hN, by rw [h0, h1, h2, h3]; rfl⟩
end Go.Proofs.Ytibemleodghhfaa
