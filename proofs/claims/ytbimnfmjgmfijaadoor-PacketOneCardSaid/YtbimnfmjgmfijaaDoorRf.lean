/- A range over a function whose iterator keeps its place in a variable of its own (strings.SplitSeq): the statement's law. Of no program. -/
import Derived.Test.YtbimnfmjgmfijaaDoorH2
import Derived.RangeFuncNested
import Derived.RangeFuncBound
import Derived.RangeFuncCalls
import Derived.RangeFuncLeaves
import Derived.Shelf.Abstract
import Derived.Shelf.RegionOpen
import Derived.OwnWalkIn
import Derived.TacticsInMore
import Derived.LoopNIn
import Derived.LoopIn
namespace Go.Proofs.YtbimnfmjgmfijaaDoor
open Go.RowKit
/-- What an iterator does that hands over texts (S: all of them; Sp: to where it was stopped), and writes nothing but the cell of block b0: from each world that C holds of. -/
def IterB {α : Type} (P : Program) (n : Nat) (g : FuncId) (lb : Array Value) (enc : α → Value) (Kp : World → World → Prop) (S Sp : List α → Prop) (b0 : Nat) (C : World → Prop) : Prop :=
  ∀ (l : Nat) (J Jx : List α → World → Prop) (W : World), C W → (∀ s W v, J s W → J s (W.setCell ⟨b0, 0, none⟩ v)) →
    (∀ pre x W1, J pre W1 → YieldAt Fence.wide (n - 1) P l #[enc x] W1 fun e W' => (e = .returned (.bool true) ∧ J (pre ++ [x]) W' ∧ Kp W1 W') ∨ (e = .returned (.bool false) ∧ Jx (pre ++ [x]) W')) →
    J [] W →
    CallsIn Fence.wide n P g (#[.func (.yield l) #[] #[]] ++ lb) W fun e W' => (∃ v, e = .returned v) ∧ ((∃ xs, S xs ∧ J xs W') ∨ (∃ pre, Sp pre ∧ Jx pre W'))
/-- How a round is left: on, or out by the one jump 'exit id'. -/
def postB {α : Type} (l d : Nat) (Kp : World → World → Prop) (I Ix : List α → World → Prop) (id : Nat) (xs : List α) (W : World) : Exit → Act → World → Prop
  | .normal, _, W' => W'.heap[l]? = W.heap[l]? ∧ W'.heap[d]? = W.heap[d]? ∧ Kp W W' ∧ I xs W'
  | .exit i, _, W' => i = id ∧ W'.heap[l]? = W.heap[l]? ∧ W'.heap[d]? = W.heap[d]? ∧ Ix xs W'
  | _, _, _ => False
theorem below_putObj (B : Nat) (W : World) (l : Nat) (o : Obj) (h : B ≤ l) : Below B W (W.putObj l o) :=
  ⟨rfl, rfl, rfl, by rw [World.putObj_size]; exact Nat.le_refl _, fun k hk => World.putObj_heap_other (by omega)⟩
theorem setCell_heap (W : World) (b0 k : Nat) (v : Value) (h : k ≠ b0) (o : Obj) (hk : W.heap[k]? = some o) : (W.setCell ⟨b0, 0, none⟩ v).heap[k]? = some o :=
  ((grown_set (World.grownBy.refl W (some b0)) 0 v).block k (Array.getElem?_eq_some_iff.1 hk).1 (fun e => h (Option.some.inj e))).trans hk
theorem range_b {α : Type} {P : Program} {g : Operand} {ps : Array Tmp} {assign body : Code} {Q : Exit → Act → World → Prop} {a : Act} {w : World} {n gf : Nat} {lb : Array Value}
    (hg : a.eval g = .func (.func gf) #[] lb) (eg : ∀ args w, (callFunc gf args).run P w = .ok (.enter gf args) w) {enc : α → Value} {Kp : World → World → Prop} {S Sp : List α → Prop} {b0 : Nat} (hb0 : b0 < w.heap.size)
    (hseq : IterB P (n - 1) gf lb enc Kp S Sp b0 (fun W => Below w.heap.size w W)) (hps : ps.size = 1)
    (hKt : ∀ {A B C : World}, Kp A B → Kp B C → Kp A C) (hKb : ∀ (W : World) (l : Nat) (o : Obj), w.heap.size ≤ l → Kp W (W.putObj l o))
    (I Ix : List α → World → Prop) (id : Nat) (hI : ∀ s W W', I s W → Below w.heap.size W W' → I s W') (hIx : ∀ s W W', Ix s W → Below w.heap.size W W' → Ix s W') (hIb : ∀ s W v, I s W → I s (W.setCell ⟨b0, 0, none⟩ v))
    (h0 : I [] w) (a1 : α → Act)
    (hassign : ∀ (l : Nat) (x : α) (W : World) (K : Act → World → Prop), K (a1 x) W → assign.wpIn (Fence.wide.inRound l) (n - 1 - 1) P (Exit.then K (fun _ _ _ => False)) { tmps := (ps.zip #[enc x]).foldl (fun t (p, v) => t.setIfInBounds p v) a.tmps, defers := [] } W)
    (hbody : ∀ (l d : Nat) (pre : List α) (x : α) (W : World), w.heap.size ≤ d → w.heap.size ≤ l → (∃ r, W.heap[l]? = some (.loop r)) → (∃ r, W.heap[d]? = some (.deferred r)) → I pre W → body.wpIn (Fence.wide.inRound l) (n - 1 - 1) P (postB l d Kp I Ix id (pre ++ [x]) W) (a1 x) W)
    (hdone : ∀ (D : Nat) (xs : List α) (W : World), w.heap.size ≤ D → S xs → I xs W → W.heap[D]? = some (.deferred (some [])) → Q .normal { a with defers := { target := .collected D, args := #[] } :: a.defers } W)
    (hstop : ∀ (D : Nat) (pre : List α) (W : World), w.heap.size ≤ D → Sp pre → Ix pre W → W.heap[D]? = some (.deferred (some [])) → (Code.exit id).wpIn Fence.wide n P Q { a with defers := { target := .collected D, args := #[] } :: a.defers } W) :
    (Code.rangeFunc g ps assign body).wpIn Fence.wide n P Q a w := by
  refine wpIn_rangeFunc fun fn _ => ?_
  let d := w.heap.size
  let l := w.heap.size + 1
  let rec0 : LoopState → Option Code → Loop := fun st pe => { state := st, pending := pe, fn, tmps := a.tmps, params := ps, assign, body, defers := w.heap.size }
  let W1 := (w.alloc (.deferred (some []))).alloc (.loop (rec0 .ready none))
  have hl1 : W1.heap[l]? = some (.loop (rec0 .ready none)) := by
    have h := World.alloc_heap_new (w.alloc (.deferred (some []))) (.loop (rec0 .ready none))
    rwa [World.size_alloc] at h
  have hd1 : W1.heap[d]? = some (.deferred (some [])) := (Below.heap_alloc _ _ _ (by simp [d])).trans (World.alloc_heap_new w _)
  have hb1 : Below w.heap.size w W1 := ((Below.refl _ w).alloc (Nat.le_refl _) _).alloc (by simp) _
  refine ⟨l, [{ target := .collected d, args := #[] }], W1, { target := .fn (.func gf) lb, args := #[.func (.yield l) #[] #[]] }, W1, gf, #[.func (.yield l) #[] #[]] ++ lb, W1, ?_, ?_, ?_, ?_, ?_, ?_⟩
  · exact run_enterLoop_outer _ _ _ _ _
  · simp only [resolve, hg]
    simp [go_sem, l]
  · intro f' _; trivial
  · simp [invoke, go_sem, eg]
  · intro h; cases h
  · refine (hseq l (fun pre W => I pre W ∧ W.heap[l]? = some (.loop (rec0 .ready none)) ∧ W.heap[d]? = some (.deferred (some [])))
      (fun pre W => Ix pre W ∧ W.heap[l]? = some (.loop (rec0 .done (some (.exit id)))) ∧ W.heap[d]? = some (.deferred (some []))) W1 hb1 ?_ ?_ ⟨hI _ _ _ h0 hb1, hl1, hd1⟩).mono ?_
    · rintro s W v ⟨h1, h2, h3⟩
      exact ⟨hIb _ _ _ h1, setCell_heap _ _ _ _ (by show w.heap.size + 1 ≠ b0; omega) _ h2, setCell_heap _ _ _ _ (by show w.heap.size ≠ b0; omega) _ h3⟩
    · rintro pre x W ⟨hi, hl, hk⟩
      have hdl : d ≠ l := by show w.heap.size ≠ w.heap.size + 1; omega
      have hy := run_yield (P := P) (args := #[enc x]) hl (by show 1 = ps.size; exact hps.symm)
      refine ⟨fn, _, assign, body, hy, roundIn_of_wpIn trivial (hassign l x W _ ?_)⟩
      refine ⟨_, run_beginRound hl rfl, ?_⟩
      have hlt : l < W.heap.size := (Array.getElem?_eq_some_iff.1 hl).1
      have hl2 : (W.putObj l (.loop { rec0 .ready none with state := .busy })).heap[l]? = some (.loop { rec0 .ready none with state := .busy }) := World.putObj_heap_same hlt
      have hk2 : (W.putObj l (.loop { rec0 .ready none with state := .busy })).heap[d]? = some (.deferred (some [])) := (World.putObj_heap_other hdl).trans hk
      have hdw : w.heap.size ≤ d := Nat.le_refl _
      have hlw : w.heap.size ≤ l := Nat.le_succ _
      refine wpIn_mono (hbody l d pre x _ hdw hlw ⟨_, hl2⟩ ⟨_, hk2⟩ (hI _ _ _ hi (below_putObj _ _ _ _ hlw))) ?_
      rintro e a3 W3 hp
      cases e with
      | normal =>
        obtain ⟨h1, h2, h3, h4⟩ := hp
        have hl3 := h1.trans hl2
        exact ⟨_, _, run_endRound none hl3, .inl ⟨rfl, ⟨hI _ _ _ h4 (below_putObj _ _ _ _ hlw), World.putObj_heap_same (Array.getElem?_eq_some_iff.1 hl3).1, (World.putObj_heap_other hdl).trans (h2.trans hk2)⟩, hKt (hKt (hKb _ _ _ hlw) h3) (hKb _ _ _ hlw)⟩⟩
      | exit i =>
        obtain ⟨rfl, h1, h2, h4⟩ := hp
        have hl3 := h1.trans hl2
        exact ⟨_, _, run_endRound (some (.exit i)) hl3, .inr ⟨rfl, hIx _ _ _ h4 (below_putObj _ _ _ _ hlw), World.putObj_heap_same (Array.getElem?_eq_some_iff.1 hl3).1, (World.putObj_heap_other hdl).trans (h2.trans hk2)⟩⟩
      | ret => exact hp.elim
      | goto t => exact hp.elim
      | panic c => exact hp.elim
      | outgrown => exact hp.elim
    · have hdl : d ≠ l := by show w.heap.size ≠ w.heap.size + 1; omega
      have hdw : w.heap.size ≤ d := Nat.le_refl _
      have hlw : w.heap.size ≤ l := Nat.le_succ _
      rintro e W2 ⟨⟨v, rfl⟩, (⟨xs, hS, hi, hl, hk⟩ | ⟨pre, hSp, hi, hl, hk⟩)⟩
      · exact ⟨none, _, run_endLoop hl (by simp [rec0]), hdone d xs _ hdw hS (hI _ _ _ hi (below_putObj _ _ _ _ hlw)) ((World.putObj_heap_other hdl).trans hk)⟩
      · exact ⟨some (.exit id), _, run_endLoop hl (by simp [rec0]), hstop d pre _ hdw hSp (hIx _ _ _ hi (below_putObj _ _ _ _ hlw)) ((World.putObj_heap_other hdl).trans hk)⟩
end Go.Proofs.YtbimnfmjgmfijaaDoor
