/- The law BankTotal: all accounts together have the supply, of each denomination, at every step: for every input. -/
import Derived.Test.YtiaflghhfcnjlaaBj
import Derived.Test.YtiaflghhfcnjlaaBs
import Derived.Test.YtiaflghhfcnjlaaBy
import Derived.Deep.DeepCutAuto
import Derived.Deep.CutBlock
set_option maxRecDepth 20000
namespace Go.Proofs.Ytiaflghhfcnjlaa
open Go.ChangeShapes Go.WideShapes Go.ChangeAt Go.RowKit Go.WideElems
structure Q4 where
  a : Int
  b : Int
  c : Int
  d : Int
def Q4.cells (q : Q4) : List Value := [.int .i64 q.a, .int .i64 q.b, .int .i64 q.c, .int .i64 q.d]
theorem q4_cells {H : Type} {enc : TypeId × Value → H} {W : World} {base fuel : Nat} {sp : Nat → Bool} {hd : Bool} {cs : List Value} {x : DataW H × List MemPlace} (h : DataW.trod enc Try.prog W base sp hd fuel 29 cs = some x) :
    ∃ q : Q4, cs = q.cells := by
  obtain ⟨xs, m, _, _, hl, hlen, hg⟩ := DataW.trod_array Try.underlying29 h
  have hC : Try.prog.cellsOf 29 = 4 := by kernel_rfl
  have hE : Try.prog.cellsOf 3 = 1 := by kernel_rfl
  rw [hC] at hl
  match cs, hl with
  | [c0, c1, c2, c3], _ =>
    match xs, hlen with
    | [y0, y1, y2, y3], _ =>
      have h0 := hg 0 (by decide)
      have h1 := hg 1 (by decide)
      have h2 := hg 2 (by decide)
      have h3 := hg 3 (by decide)
      rw [hE] at h0 h1 h2 h3
      obtain ⟨z0, e0, _, w0⟩ := DataW.trod_int Try.underlying3 (show DataW.trod enc Try.prog W base sp hd m 3 [c0] = some y0 from h0)
      obtain ⟨z1, e1, _, w1⟩ := DataW.trod_int Try.underlying3 (show DataW.trod enc Try.prog W base sp hd m 3 [c1] = some y1 from h1)
      obtain ⟨z2, e2, _, w2⟩ := DataW.trod_int Try.underlying3 (show DataW.trod enc Try.prog W base sp hd m 3 [c2] = some y2 from h2)
      obtain ⟨z3, e3, _, w3⟩ := DataW.trod_int Try.underlying3 (show DataW.trod enc Try.prog W base sp hd m 3 [c3] = some y3 from h3)
      simp only [List.cons.injEq, and_true] at e0 e1 e2 e3
      exact ⟨⟨z0, z1, z2, z3⟩, by unfold Q4.cells; rw [e0, e1, e2, e3]⟩
def Q4C (w : World) (g off : Nat) (L : List Q4) : Prop := ∀ i (hi : i < L.length), ∀ j, j < 4 → w.cell? ⟨g, off + i * 4 + j, none⟩ = L[i].cells[j]?
theorem Q4C.on {w w' : World} {g off : Nat} {L : List Q4} (h : Q4C w g off L) (hb : Below w.heap.size w w') : Q4C w' g off L := fun i hi j hj => by
  have h0 := h i hi j hj
  obtain ⟨u, hu⟩ : ∃ u, L[i].cells[j]? = some u := ⟨L[i].cells[j]'hj, List.getElem?_eq_getElem hj⟩
  rw [hu] at h0 ⊢
  exact BW_cell hb h0
theorem open_q4s {H : Type} {enc : TypeId × Value → H} {W : World} {base : Nat} {sp : Nat → Bool} {hd : Bool} {v : Value} {d : DataW H} {p : List MemPlace} (hv : Value.okWide Try.prog W .any base 22 v) (h : DataW.Trod enc Try.prog W 0 sp hd 22 v d p) :
    ∃ (q : Option Addr) (cap : Nat) (L : List Q4), v = .slice q L.length cap ∧ L.length ≤ 9223372036854775807 ∧ (0 < L.length → ∃ g off, q = some ⟨g, off, none⟩ ∧ Q4C W g off L) := by
  obtain ⟨a, len, cap, rfl⟩ := okWide_slice Try.underlying22 hv
  obtain ⟨fuel, hf⟩ := h
  rcases Go.Deep.open_slice Try.underlying22 hf with ⟨h0, _⟩ | ⟨a', len', cap', m, n, D, Pl, hcs, _, hl, hm, hmm, _, hi⟩
  · simp [Value.cells] at h0
    obtain ⟨rfl, rfl, rfl⟩ := h0
    exact ⟨none, 0, [], rfl, by decide, fun h => absurd h (Nat.lt_irrefl _)⟩
  · simp [Value.cells] at hcs
    obtain ⟨rfl, rfl, rfl⟩ := hcs
    rcases Nat.eq_zero_or_pos len with rfl | hpos
    · exact ⟨_, cap, [], rfl, by decide, fun h => absurd h (Nat.lt_irrefl _)⟩
    have hC : Try.prog.cellsOf 29 = 4 := by kernel_rfl
    rw [hC] at hi
    have hml : len ≤ m := by rw [hmm]; split <;> omega
    have each : ∀ k, k < len → ∃ o : Q4, ∀ j, j < 4 → W.cell? (a'.add (k * 4 + j)) = o.cells[j]? := by
      intro k hk
      obtain ⟨cs', hc, ht⟩ := hi k (by omega)
      obtain ⟨_, hlen, hat⟩ := World.cells?_some hc
      obtain ⟨o, rfl⟩ := q4_cells ht
      refine ⟨o, fun j hj => ?_⟩
      have h5 := hat j (by simpa [Q4.cells] using hj)
      rw [Go.Deep.add_add] at h5
      rw [h5]
    have build : ∃ L : List Q4, L.length = len ∧ ∀ k (hk : k < L.length), ∀ j, j < 4 → W.cell? (a'.add (k * 4 + j)) = L[k].cells[j]? := by
      refine ⟨List.ofFn fun k : Fin len => (each k.1 k.2).choose, by simp, fun k hk => ?_⟩
      simp only [List.getElem_ofFn]
      exact (each k (by simpa using hk)).choose_spec
    obtain ⟨L, hlN, hNs⟩ := build
    have h00 := hNs 0 (by omega) 0 (by decide)
    have hspot : a'.spot = none := by
      simp [Addr.add, World.cell?, Q4.cells] at h00
      split at h00
      · split at h00
        · cases h00
        · rename_i hq; simpa using hq
      · cases h00
    obtain ⟨g, off, spot⟩ := a'
    simp at hspot
    subst hspot
    have eadd : ∀ j, (⟨g, off, none⟩ : Addr).add j = ⟨g, off + j, none⟩ := fun j => by unfold Addr.add; split <;> simp_all
    have hm' : cap ≤ 9223372036854775807 := hm
    refine ⟨_, cap, L, by rw [hlN], by omega, fun _ => ⟨g, off, rfl, fun k hk j hj => ?_⟩⟩
    have := hNs k hk j hj
    rw [eadd, ← Nat.add_assoc] at this
    exact this
theorem and_lt (x : Int) (m : Nat) (hm : m < 64) : ∃ a : Nat, a ≤ m ∧ bits .and .i64 x (m : Int) = (a : Int) := by
  have e2 : (BitVec.ofInt 64 (m : Int)).toNat = m := by rw [BitVec.toNat_ofInt]; omega
  have h : (BitVec.ofInt 64 x &&& BitVec.ofInt 64 (m : Int)).toNat ≤ m := by
    rw [BitVec.toNat_and, e2]
    exact Nat.and_le_right
  have e : bits .and .i64 x (m : Int) = IntKind.i64.wrap (((BitVec.ofInt 64 x &&& BitVec.ofInt 64 (m : Int)).toNat : Nat) : Int) := rfl
  refine ⟨(BitVec.ofInt 64 x &&& BitVec.ofInt 64 (m : Int)).toNat, h, ?_⟩
  rw [e, IntKind.wrap_i64]
  omega
theorem and15i (x : Int) : ∃ a : Nat, a ≤ 15 ∧ bits .and .i64 x 15 = (a : Int) := and_lt x 15 (by decide)
theorem and3f (x : Int) : ∃ i : Fin 4, bits .and .i64 x 3 = ((i.val : Nat) : Int) := by
  obtain ⟨a, h, e⟩ := and_lt x 3 (by decide)
  exact ⟨⟨a, by omega⟩, e⟩
theorem and1f (x : Int) : ∃ i : Fin 2, bits .and .i64 x 1 = ((i.val : Nat) : Int) := by
  obtain ⟨a, h, e⟩ := and_lt x 1 (by decide)
  exact ⟨⟨a, by omega⟩, e⟩
theorem nm_at : ∀ i : Fin 4, (#[.string ⟨#[97]⟩, .string ⟨#[98]⟩, .string ⟨#[99]⟩, .string ⟨#[100]⟩] : Array Value)[i.val]? = some (.string (nmT i))
  | ⟨0, _⟩ => rfl
  | ⟨1, _⟩ => rfl
  | ⟨2, _⟩ => rfl
  | ⟨3, _⟩ => rfl
theorem dn_at : ∀ i : Fin 2, (#[.string ⟨#[120]⟩, .string ⟨#[121]⟩] : Array Value)[i.val]? = some (.string (dnT i))
  | ⟨0, _⟩ => rfl
  | ⟨1, _⟩ => rfl
theorem nm_size : ∀ i : Fin 4, (nmT i).size = 1 := by decide
theorem dn_size : ∀ i : Fin 2, (dnT i).size = 1 := by decide
theorem burn_le' {E : List Ent} {a d : ByteArray} {n : Nat} {A : List Ent} (h : burnL E a d n = (0, A)) : n ≤ ng E (totB d) ∧ n ≤ ng E (keyB a d) := by
  unfold burnL at h
  by_cases h1 : may1 a d n = true
  · rw [if_pos h1] at h
    by_cases h2 : n ≤ ng E (totB d) ∧ n ≤ ng E (keyB a d)
    · exact h2
    · rw [if_neg h2] at h; exact absurd (Prod.mk.inj h).1 (by decide)
  · rw [if_neg h1] at h; exact absurd (Prod.mk.inj h).1 (by decide)
/-- Maps whose accounts have the supply, little of it. -/
structure InvT (E : List Ent) (k : Nat) : Prop where
  srt : Srt E
  inv : Inv4 E
  len : E.length ≤ 2 * k
  most : ∀ j, ng E (TT j) ≤ 15 * k
theorem invT_mint {E : List Ent} {k : Nat} (h : InvT E k) {i : Fin 4} {j : Fin 2} {n : Nat} (hn : n ≤ 15) {A : List Ent} (hA : mintL E (nmT i) (dnT j) n = (0, A)) : InvT A (k + 1) := by
  have h1 := mint_inv h.srt (nmT i) (dnT j) n
  rw [hA] at h1
  have h2 := inv4_mint h.srt h.inv hA
  exact ⟨h1.1, h2.1, by have := h.len; have : A.length ≤ E.length + 2 := h1.2; omega, fun j' => by have := h2.2 j'; have := h.most j'; omega⟩
theorem invT_burn {E : List Ent} {k : Nat} (h : InvT E k) {i : Fin 4} {j : Fin 2} {n : Nat} {A : List Ent} (hA : burnL E (nmT i) (dnT j) n = (0, A)) : InvT A (k + 1) := by
  have h1 := burn_inv h.srt (nmT i) (dnT j) n
  rw [hA] at h1
  have h2 := inv4_burn h.srt h.inv hA (burn_le' hA)
  exact ⟨h1.1, h2.1, by have := h.len; have : A.length ≤ E.length + 2 := h1.2; omega, fun j' => by have := h2.2 j'; have := h.most j'; omega⟩
theorem invT_move {E : List Ent} {k : Nat} (h : InvT E k) {i i2 : Fin 4} {j : Fin 2} {n : Nat} {A : List Ent} (hA : moveL E (nmT i) (nmT i2) (dnT j) n = (0, A)) : InvT A (k + 1) := by
  have h1 := move_inv h.srt (nmT i) (nmT i2) (dnT j) n
  rw [hA] at h1
  have h2 := inv4_move h.srt h.inv hA
  exact ⟨h1.1, h2.1, by have := h.len; have : A.length ≤ E.length + 2 := h1.2; omega, fun j' => by have := h2.2 j'; have := h.most j'; omega⟩
theorem InvT.up {E : List Ent} {k : Nat} (h : InvT E k) : InvT E (k + 1) := ⟨h.srt, h.inv, by have := h.len; omega, fun j => by have := h.most j; omega⟩
/-- What the first accounts have together. -/
def psum (E : List Ent) (j : Fin 2) : Nat → Nat
  | 0 => 0
  | 1 => ng E (KT 0 j)
  | 2 => ng E (KT 0 j) + ng E (KT 1 j)
  | 3 => ng E (KT 0 j) + ng E (KT 1 j) + ng E (KT 2 j)
  | _ => ng E (KT 0 j) + ng E (KT 1 j) + ng E (KT 2 j) + ng E (KT 3 j)
theorem psum_step (E : List Ent) (j : Fin 2) : ∀ i : Fin 4, psum E j i.val + ng E (KT i j) = psum E j (i.val + 1)
  | ⟨0, _⟩ => by show 0 + _ = _; rw [Nat.zero_add]; rfl
  | ⟨1, _⟩ => rfl
  | ⟨2, _⟩ => rfl
  | ⟨3, _⟩ => rfl
theorem psum_le {E : List Ent} {k : Nat} (h : InvT E k) (j : Fin 2) (hk : k ≤ 40) : ∀ m, m ≤ 4 → psum E j m ≤ 600 := by
  have h1 := h.inv j
  have h2 := h.most j
  unfold sum4 at h1
  intro m hm
  have : m = 0 ∨ m = 1 ∨ m = 2 ∨ m = 3 ∨ m = 4 := by omega
  rcases this with rfl | rfl | rfl | rfl | rfl <;> simp only [psum] <;> omega
theorem w600 {n : Nat} (h : n ≤ 600) : W256 n := W256.small (Nat.lt_of_le_of_lt h (by decide))
theorem ok600 {n : Nat} (h : n ≤ 600) : wOk n = true ∧ wN n = n := by
  have h1 := wOk_small (n := n) (Nat.lt_of_le_of_lt h (by decide))
  exact ⟨h1, (wN_of0 h1).1⟩
theorem psum_all {E : List Ent} {k : Nat} (h : InvT E k) (j : Fin 2) : psum E j 4 = ng E (TT j) := h.inv j
section
attribute [local go_sem ↓] Go.wp_at_zero Go.wp_at_succ
set_option maxHeartbeats 16000000 in
set_option maxRecDepth 100000 in
theorem l11total_any (p0 : Option Addr) (cap : Nat) (L : List Q4) (w : World) (hL : L.length ≤ 9223372036854775807) (Hop : Hid (0 < L.length → ∃ g off, p0 = some ⟨g, off, none⟩ ∧ Q4C w g off L)) :
    Calls Try.prog 3 #[.slice p0 L.length cap] w fun e w' => e = .returned (.bool true) ∧ Below w.heap.size w w' := by
  go_enter Try.func3, Try.ntmps3
  go_wp2_with fail
  refine (awake11_any _).mono ?_
  rintro e w1 ⟨rfl, hb1⟩
  go_wp2_with fail
  have hgd := hb1.size
  have k_d := ((blk1 w1 26 #[.slice none 0 0]).alloc (.cells #[.string ⟨#[97]⟩, .string ⟨#[98]⟩, .string ⟨#[99]⟩, .string ⟨#[100]⟩] 27)).alloc (.cells #[.string ⟨#[120]⟩, .string ⟨#[121]⟩] 28)
  have k_n := (blk2 w1 (.cells #[.slice none 0 0] 26) 27 #[.string ⟨#[97]⟩, .string ⟨#[98]⟩, .string ⟨#[99]⟩, .string ⟨#[100]⟩]).alloc (.cells #[.string ⟨#[120]⟩, .string ⟨#[121]⟩] 28)
  have k_m := blk3 w1 (.cells #[.slice none 0 0] 26) (.cells #[.string ⟨#[97]⟩, .string ⟨#[98]⟩, .string ⟨#[99]⟩, .string ⟨#[100]⟩] 27) 28 #[.string ⟨#[120]⟩, .string ⟨#[121]⟩]
  have BB := BW_alloc (BW_alloc (BW_alloc hb1 (.cells #[.slice none 0 0] 26)) (.cells #[.string ⟨#[97]⟩, .string ⟨#[98]⟩, .string ⟨#[99]⟩, .string ⟨#[100]⟩] 27)) (.cells #[.string ⟨#[120]⟩, .string ⟨#[121]⟩] 28)
  go_loopw [7] (fun i wr => ∃ (k : Nat) (q : Option Addr) (c : Nat) (E : List Ent), k ≤ L.length ∧ k ≤ 40 ∧ i = .int .i64 (k : Int) ∧ Hid (InvT E k) ∧ Hid (Ents wr (.slice q E.length c) E) ∧ Blk wr w1.heap.size 26 #[.slice q E.length c] ∧ Blk wr (w1.heap.size + 1) 27 #[.string ⟨#[97]⟩, .string ⟨#[98]⟩, .string ⟨#[99]⟩, .string ⟨#[100]⟩] ∧ Blk wr (w1.heap.size + 1 + 1) 28 #[.string ⟨#[120]⟩, .string ⟨#[121]⟩] ∧ Below w.heap.size w wr) (fun i _ => (41 - intOf i).toNat)
  case atStart => exact ⟨0, none, 0, [], by omega, by omega, rfl, ⟨List.Pairwise.nil, inv4_nil, by decide, fun _ => Nat.le_refl _⟩, Ents.nil _, k_d, k_n, k_m, BB⟩
  case round =>
    clear k_d k_n k_m BB
    obtain ⟨k, q, c, E, hk, hk40, rfl, hinv, e_d, k_d, k_n, k_m, BB⟩ := hrel
    by_cases hlt : k < L.length ∧ k < 40
    · obtain ⟨hlt1, hlt2⟩ := hlt
      obtain ⟨g, off, rfl, hop⟩ := Hop.out (by omega)
      have ho := (hop.on BB) k hlt1
      have hk1 : (k : Int) < (L.length : Int) := by omega
      have hk2 : (k : Int) < 40 := by omega
      have Hk3 : Hid (wrap64 ((k : Int) + 1) = (k : Int) + 1) := Lib.hid (by unfold wrap64; omega)
      clear hop
      obtain ⟨o, hoe⟩ : ∃ o, o = L[k] := ⟨_, rfl⟩
      rw [← hoe] at ho
      clear hoe
      obtain ⟨a, b, c2, d⟩ := o
      have o0 : wr.cell? ⟨g, off + k * 4, none⟩ = some (.int .i64 a) := ho 0 (by decide)
      have o1 : wr.cell? ⟨g, off + k * 4 + 1, none⟩ = some (.int .i64 b) := ho 1 (by decide)
      have o2 : wr.cell? ⟨g, off + k * 4 + 2, none⟩ = some (.int .i64 c2) := ho 2 (by decide)
      have o3 : wr.cell? ⟨g, off + k * 4 + 3, none⟩ = some (.int .i64 d) := ho 3 (by decide)
      obtain ⟨i1, hi1⟩ := and3f b
      obtain ⟨i2, hi2⟩ := and3f c2
      obtain ⟨j, hj⟩ := and1f d
      obtain ⟨n, hn15, hn⟩ := and15i (d / 2)
      have hi1l : ((i1.val : Nat) : Int) < 4 := by have := i1.isLt; omega
      have hi2l : ((i2.val : Nat) : Int) < 4 := by have := i2.isLt; omega
      have hjl : ((j.val : Nat) : Int) < 2 := by have := j.isLt; omega
      have hnw : IntKind.u64.wrap ((n : Nat) : Int) = ((n : Nat) : Int) := by rw [IntKind.wrap_u64]; omega
      have hszd := k_d.lt
      have hszn := k_n.lt
      have hszm := k_m.lt
      clear ho
      go_upto_region 9 with (fail)
      change Code.wp _ _ _ _ (wr.alloc (.cells #[.int .i64 a, .int .i64 b, .int .i64 c2, .int .i64 d] 29))
      have k_q := blk1 wr 29 #[.int .i64 a, .int .i64 b, .int .i64 c2, .int .i64 d]
      replace k_d := k_d.on (BW_alloc (BW_refl _) (.cells #[.int .i64 a, .int .i64 b, .int .i64 c2, .int .i64 d] 29))
      replace k_n := k_n.on (BW_alloc (BW_refl _) (.cells #[.int .i64 a, .int .i64 b, .int .i64 c2, .int .i64 d] 29))
      replace k_m := k_m.on (BW_alloc (BW_refl _) (.cells #[.int .i64 a, .int .i64 b, .int .i64 c2, .int .i64 d] 29))
      replace e_d := Lib.hid (e_d.out.on (BW_alloc (BW_refl _) (.cells #[.int .i64 a, .int .i64 b, .int .i64 c2, .int .i64 d] 29)))
      replace BB := BW_on BB (BW_alloc (BW_refl _) (.cells #[.int .i64 a, .int .i64 b, .int .i64 c2, .int .i64 d] 29))
      generalize hWX : wr.alloc (.cells #[.int .i64 a, .int .i64 b, .int .i64 c2, .int .i64 d] 29) = X at *
      have hXs : wr.heap.size + 1 ≤ X.heap.size := by rw [← hWX]; simp
      clear hWX o0 o1 o2 o3
      refine wp_region_held_drew (S := BxS X [(wr.heap.size, 29, #[.int .i64 a, .int .i64 b, .int .i64 c2, .int .i64 d]), ((w1.heap.size + 1), 27, #[.string ⟨#[97]⟩, .string ⟨#[98]⟩, .string ⟨#[99]⟩, .string ⟨#[100]⟩]), ((w1.heap.size + 1 + 1), 28, #[.string ⟨#[120]⟩, .string ⟨#[121]⟩])]) (by kernel_rfl) (((((BxS.nil (BW_refl X)).cons k_m).cons k_n).cons k_q)).drew (fun hH0 => ?_)
      refine wpAnyH_take (i := 0) (v := .pointer (some ⟨wr.heap.size, 0, none⟩)) rfl (by kernel_rfl) (by kernel_rfl) (by kernel_rfl) (fun _ _ _ h => h) (yk_iaB (by kernel_rfl) _ _ _ rfl (.pointer (some ⟨wr.heap.size, 0, none⟩)) (.int .i64 0) (by kernel_rfl) (by kernel_rfl) _ (fun w' hw' => by go_simp)) hH0 ?_
      refine wpAnyH_take (i := 1) (v := .int .i64 a) rfl (by kernel_rfl) (by kernel_rfl) (by kernel_rfl) (fun _ _ _ h => h) (yk_load (by kernel_rfl) _ _ rfl (.pointer (some ⟨wr.heap.size, 0, none⟩)) (by kernel_rfl) _ (fun w' hw' => by have c0 := (hw'.bl _ (.head _)).cell 0; go_simp)) hH0 ?_
      refine wpAnyH_take (i := 2) (v := .pointer (some ⟨wr.heap.size, 1, none⟩)) rfl (by kernel_rfl) (by kernel_rfl) (by kernel_rfl) (fun _ _ _ h => h) (yk_iaB (by kernel_rfl) _ _ _ rfl (.pointer (some ⟨wr.heap.size, 0, none⟩)) (.int .i64 1) (by kernel_rfl) (by kernel_rfl) _ (fun w' hw' => by go_simp)) hH0 ?_
      refine wpAnyH_take (i := 3) (v := .int .i64 b) rfl (by kernel_rfl) (by kernel_rfl) (by kernel_rfl) (fun _ _ _ h => h) (yk_load (by kernel_rfl) _ _ rfl (.pointer (some ⟨wr.heap.size, 1, none⟩)) (by kernel_rfl) _ (fun w' hw' => by have c0 := (hw'.bl _ (.head _)).cell 1; go_simp)) hH0 ?_
      refine wpAnyH_take (i := 4) (v := .int .i64 ((i1.val : Nat) : Int)) rfl (by kernel_rfl) (by kernel_rfl) (by kernel_rfl) (fun _ _ _ h => h) (yk_bin (by kernel_rfl) _ _ _ _ _ rfl (.int .i64 b) (.int .i64 3) (by kernel_rfl) (by kernel_rfl) _ (fun w' hw' => by go_simp)) hH0 ?_
      refine wpAnyH_take (i := 5) (v := .pointer (some ⟨(w1.heap.size + 1), i1.val, none⟩)) rfl (by kernel_rfl) (by kernel_rfl) (by kernel_rfl) (fun _ _ _ h => h) (yk_iaB (by kernel_rfl) _ _ _ rfl (.pointer (some ⟨(w1.heap.size + 1), 0, none⟩)) (.int .i64 ((i1.val : Nat) : Int)) (by kernel_rfl) (by kernel_rfl) _ (fun w' hw' => by go_simp)) hH0 ?_
      refine wpAnyH_take (i := 6) (v := .string (nmT i1)) rfl (by kernel_rfl) (by kernel_rfl) (by kernel_rfl) (fun _ _ _ h => h) (yk_load (by kernel_rfl) _ _ rfl (.pointer (some ⟨(w1.heap.size + 1), i1.val, none⟩)) (by kernel_rfl) _ (fun w' hw' => by have c0 := (hw'.bl _ (.tail _ (.head _))).cell i1.val; rw [nm_at] at c0; go_simp)) hH0 ?_
      refine wpAnyH_take (i := 7) (v := .pointer (some ⟨wr.heap.size, 2, none⟩)) rfl (by kernel_rfl) (by kernel_rfl) (by kernel_rfl) (fun _ _ _ h => h) (yk_iaB (by kernel_rfl) _ _ _ rfl (.pointer (some ⟨wr.heap.size, 0, none⟩)) (.int .i64 2) (by kernel_rfl) (by kernel_rfl) _ (fun w' hw' => by go_simp)) hH0 ?_
      refine wpAnyH_take (i := 8) (v := .int .i64 c2) rfl (by kernel_rfl) (by kernel_rfl) (by kernel_rfl) (fun _ _ _ h => h) (yk_load (by kernel_rfl) _ _ rfl (.pointer (some ⟨wr.heap.size, 2, none⟩)) (by kernel_rfl) _ (fun w' hw' => by have c0 := (hw'.bl _ (.head _)).cell 2; go_simp)) hH0 ?_
      refine wpAnyH_take (i := 9) (v := .int .i64 ((i2.val : Nat) : Int)) rfl (by kernel_rfl) (by kernel_rfl) (by kernel_rfl) (fun _ _ _ h => h) (yk_bin (by kernel_rfl) _ _ _ _ _ rfl (.int .i64 c2) (.int .i64 3) (by kernel_rfl) (by kernel_rfl) _ (fun w' hw' => by go_simp)) hH0 ?_
      refine wpAnyH_take (i := 10) (v := .pointer (some ⟨(w1.heap.size + 1), i2.val, none⟩)) rfl (by kernel_rfl) (by kernel_rfl) (by kernel_rfl) (fun _ _ _ h => h) (yk_iaB (by kernel_rfl) _ _ _ rfl (.pointer (some ⟨(w1.heap.size + 1), 0, none⟩)) (.int .i64 ((i2.val : Nat) : Int)) (by kernel_rfl) (by kernel_rfl) _ (fun w' hw' => by go_simp)) hH0 ?_
      refine wpAnyH_take (i := 11) (v := .string (nmT i2)) rfl (by kernel_rfl) (by kernel_rfl) (by kernel_rfl) (fun _ _ _ h => h) (yk_load (by kernel_rfl) _ _ rfl (.pointer (some ⟨(w1.heap.size + 1), i2.val, none⟩)) (by kernel_rfl) _ (fun w' hw' => by have c0 := (hw'.bl _ (.tail _ (.head _))).cell i2.val; rw [nm_at] at c0; go_simp)) hH0 ?_
      refine wpAnyH_take (i := 12) (v := .pointer (some ⟨wr.heap.size, 3, none⟩)) rfl (by kernel_rfl) (by kernel_rfl) (by kernel_rfl) (fun _ _ _ h => h) (yk_iaB (by kernel_rfl) _ _ _ rfl (.pointer (some ⟨wr.heap.size, 0, none⟩)) (.int .i64 3) (by kernel_rfl) (by kernel_rfl) _ (fun w' hw' => by go_simp)) hH0 ?_
      refine wpAnyH_take (i := 13) (v := .int .i64 d) rfl (by kernel_rfl) (by kernel_rfl) (by kernel_rfl) (fun _ _ _ h => h) (yk_load (by kernel_rfl) _ _ rfl (.pointer (some ⟨wr.heap.size, 3, none⟩)) (by kernel_rfl) _ (fun w' hw' => by have c0 := (hw'.bl _ (.head _)).cell 3; go_simp)) hH0 ?_
      refine wpAnyH_take (i := 14) (v := .int .i64 ((j.val : Nat) : Int)) rfl (by kernel_rfl) (by kernel_rfl) (by kernel_rfl) (fun _ _ _ h => h) (yk_bin (by kernel_rfl) _ _ _ _ _ rfl (.int .i64 d) (.int .i64 1) (by kernel_rfl) (by kernel_rfl) _ (fun w' hw' => by go_simp)) hH0 ?_
      refine wpAnyH_take (i := 15) (v := .pointer (some ⟨(w1.heap.size + 1 + 1), j.val, none⟩)) rfl (by kernel_rfl) (by kernel_rfl) (by kernel_rfl) (fun _ _ _ h => h) (yk_iaB (by kernel_rfl) _ _ _ rfl (.pointer (some ⟨(w1.heap.size + 1 + 1), 0, none⟩)) (.int .i64 ((j.val : Nat) : Int)) (by kernel_rfl) (by kernel_rfl) _ (fun w' hw' => by go_simp)) hH0 ?_
      refine wpAnyH_take (i := 16) (v := .string (dnT j)) rfl (by kernel_rfl) (by kernel_rfl) (by kernel_rfl) (fun _ _ _ h => h) (yk_load (by kernel_rfl) _ _ rfl (.pointer (some ⟨(w1.heap.size + 1 + 1), j.val, none⟩)) (by kernel_rfl) _ (fun w' hw' => by have c0 := (hw'.bl _ (.tail _ (.tail _ (.head _)))).cell j.val; rw [dn_at] at c0; go_simp)) hH0 ?_
      refine wpAnyH_take (i := 17) (v := .pointer (some ⟨wr.heap.size, 3, none⟩)) rfl (by kernel_rfl) (by kernel_rfl) (by kernel_rfl) (fun _ _ _ h => h) (yk_iaB (by kernel_rfl) _ _ _ rfl (.pointer (some ⟨wr.heap.size, 0, none⟩)) (.int .i64 3) (by kernel_rfl) (by kernel_rfl) _ (fun w' hw' => by go_simp)) hH0 ?_
      refine wpAnyH_take (i := 18) (v := .int .i64 d) rfl (by kernel_rfl) (by kernel_rfl) (by kernel_rfl) (fun _ _ _ h => h) (yk_load (by kernel_rfl) _ _ rfl (.pointer (some ⟨wr.heap.size, 3, none⟩)) (by kernel_rfl) _ (fun w' hw' => by have c0 := (hw'.bl _ (.head _)).cell 3; go_simp)) hH0 ?_
      refine wpAnyH_take (i := 19) (v := .int .i64 (d / 2)) rfl (by kernel_rfl) (by kernel_rfl) (by kernel_rfl) (fun _ _ _ h => h) (yk_bin (by kernel_rfl) _ _ _ _ _ rfl (.int .i64 d) (.int .u64 1) (by kernel_rfl) (by kernel_rfl) _ (fun w' hw' => by go_simp)) hH0 ?_
      refine wpAnyH_take (i := 20) (v := .int .i64 ((n : Nat) : Int)) rfl (by kernel_rfl) (by kernel_rfl) (by kernel_rfl) (fun _ _ _ h => h) (yk_bin (by kernel_rfl) _ _ _ _ _ rfl (.int .i64 (d / 2)) (.int .i64 15) (by kernel_rfl) (by kernel_rfl) _ (fun w' hw' => by go_simp)) hH0 ?_
      refine wpAnyH_take (i := 21) (v := .int .u64 ((n : Nat) : Int)) rfl (by kernel_rfl) (by kernel_rfl) (by kernel_rfl) (fun _ _ _ h => h) (yk_conv (by kernel_rfl) _ _ _ rfl (.int .i64 ((n : Nat) : Int)) (by kernel_rfl) _ (fun w' hw' => by go_simp)) hH0 ?_
      refine wpAnyH_take (i := 22) (v := .agg #[.int .u64 (n : Int), .int .u64 0, .int .u64 0, .int .u64 0]) rfl (by kernel_rfl) (by kernel_rfl) (by kernel_rfl) (fun _ _ _ h => h) (yk_build (by kernel_rfl) _ _ rfl _ (fun w' hw' => run_build _ _ _ _ (by kernel_rfl))) hH0 ?_
      refine wpAnyH_take (i := 23) (v := .agg #[.int .i64 a, .string (nmT i1), .string (nmT i2), .string (dnT j), .int .u64 (n : Int), .int .u64 0, .int .u64 0, .int .u64 0, .bool false, .bool false]) rfl (by kernel_rfl) (by kernel_rfl) (by kernel_rfl) (fun _ _ _ h => h) (yk_build (by kernel_rfl) _ _ rfl _ (fun w' hw' => run_build _ _ _ _ (by kernel_rfl))) hH0 ?_
      have k_z : Blk ((X.alloc (.cells #[.int .i64 0, .string ⟨#[]⟩, .string ⟨#[]⟩, .string ⟨#[]⟩, .int .u64 0, .int .u64 0, .int .u64 0, .int .u64 0, .bool false, .bool false] 35)).drew) (X.heap.size) 35 #[.int .i64 0, .string ⟨#[]⟩, .string ⟨#[]⟩, .string ⟨#[]⟩, .int .u64 0, .int .u64 0, .int .u64 0, .int .u64 0, .bool false, .bool false] := (blk1 X _ _).drew
      have hzl : X.heap.size ≤ X.heap.size := hH0.hb.size
      refine wpAnyH_ready (rs := [24]) (by kernel_rfl) (by simp) ?_
      refine AllReadyH.cons rfl (fun K hK => ?_) AllReadyH.nil
      go_simp
      refine hK.out _ _ (hH0.on (BW_alloc (BW_refl _) _)) (fun hH1 => ?_)
      clear hK K

      refine wpAnyH_ready (rs := [25]) (by kernel_rfl) (by simp) ?_
      refine AllReadyH.cons rfl (fun K hK => ?_) AllReadyH.nil
      rw [if_pos (by kernel_rfl)]
      try simp only [Act.put, List.getElem_toArray, List.getElem_cons_zero, List.getElem_cons_succ, List.setIfInBounds_toArray, List.set_cons_succ, List.set_cons_zero]
      refine wp_store_mid _ _ _ rfl X.heap.size 0 [.int .i64 a, .string (nmT i1), .string (nmT i2), .string (dnT j), .int .u64 (n : Int), .int .u64 0, .int .u64 0, .int .u64 0, .bool false, .bool false].toArray (by kernel_rfl) (by kernel_rfl) (k_z.there (Nat.le_refl 10)) (by kernel_rfl) (by simp [Value.oneCell']) ?_
      simp only [Act.put, List.getElem_toArray, List.getElem_cons_zero, List.getElem_cons_succ]
      refine hK.out _ _ (hH1.put (ne3 (by omega) (by omega) (by omega)) (by omega) _) (fun hH2 => ?_)
      clear hK K
      refine wpAnyH_done (by kernel_rfl) ?_ _
      have hB := hH2.hb
      replace k_z := setCells_all k_z [.int .i64 a, .string (nmT i1), .string (nmT i2), .string (dnT j), .int .u64 (n : Int), .int .u64 0, .int .u64 0, .int .u64 0, .bool false, .bool false] rfl
      change Exit.then _ _ _ _ ((X.alloc (.cells #[.int .i64 0, .string ⟨#[]⟩, .string ⟨#[]⟩, .string ⟨#[]⟩, .int .u64 0, .int .u64 0, .int .u64 0, .int .u64 0, .bool false, .bool false] 35)).drew.setCells (X.heap.size) 0 [.int .i64 a, .string (nmT i1), .string (nmT i2), .string (dnT j), .int .u64 (n : Int), .int .u64 0, .int .u64 0, .int .u64 0, .bool false, .bool false])
      generalize (X.alloc (.cells #[.int .i64 0, .string ⟨#[]⟩, .string ⟨#[]⟩, .string ⟨#[]⟩, .int .u64 0, .int .u64 0, .int .u64 0, .int .u64 0, .bool false, .bool false] 35)).drew.setCells (X.heap.size) 0 [.int .i64 a, .string (nmT i1), .string (nmT i2), .string (dnT j), .int .u64 (n : Int), .int .u64 0, .int .u64 0, .int .u64 0, .bool false, .bool false] = Z at *
      clear hH0 hH1 hH2 
      replace k_q := k_q.on hB
      replace k_d := k_d.on hB
      replace k_n := k_n.on hB
      replace k_m := k_m.on hB
      replace e_d := Lib.hid (e_d.out.on hB)
      replace BB := BW_on BB hB
      have hXZ := hB.size
      have hgz : wr.heap.size + 1 ≤ X.heap.size := by omega
      clear hi1 hi2 hj hn hnw hi1l hi2l hjl
      clear k_q hB
      obtain ⟨l0, l1, l2, l3⟩ := limb_small (n := n) (by omega)
      have HN : W256 n := W256.small (by omega)
      go_upto_region 12 with (fail)
      change Code.wp _ _ _ _ (Z.alloc (.cells #[.slice none 0 0] 26))
      replace k_z := k_z.on (BW_alloc (BW_refl _) (.cells #[.slice none 0 0] 26))
      replace k_d := k_d.on (BW_alloc (BW_refl _) (.cells #[.slice none 0 0] 26))
      replace k_n := k_n.on (BW_alloc (BW_refl _) (.cells #[.slice none 0 0] 26))
      replace k_m := k_m.on (BW_alloc (BW_refl _) (.cells #[.slice none 0 0] 26))
      replace e_d := Lib.hid (e_d.out.on (BW_alloc (BW_refl _) (.cells #[.slice none 0 0] 26)))
      replace BB := BW_on BB (BW_alloc (BW_refl _) (.cells #[.slice none 0 0] 26))
      have k_x := blk1 Z 26 #[.slice none 0 0]
      generalize hWY : Z.alloc (.cells #[.slice none 0 0] 26) = Y at *
      have hYs : Z.heap.size + 1 ≤ Y.heap.size := by rw [← hWY]; simp
      clear hWY
      have hgx : Z.heap.size ≠ w1.heap.size ∧ Z.heap.size ≠ w1.heap.size + 1 ∧ Z.heap.size ≠ w1.heap.size + 1 + 1 ∧ w.heap.size ≤ Z.heap.size := by omega
      obtain ⟨hgx1, hgx2, hgx3, hgx4⟩ := hgx
      have c_z := fun i => k_z.cell i
      go_upto_block 2 with (fail)
      go_cut [11, 58] (fun s11 s58 wx => ∃ (x : Int) (M : List Ent) (qm : Option Addr) (cm : Nat), s11 = .int .i64 x ∧ Hid (x = 0 → InvT M (k + 1)) ∧ Hid (Ents wx (.slice qm M.length cm) M) ∧ Hid (Ents wx (.slice q E.length c) E) ∧ Blk wx Z.heap.size 26 #[.slice qm M.length cm] ∧ Blk wx w1.heap.size 26 #[.slice q E.length c] ∧ Blk wx (w1.heap.size + 1) 27 #[.string ⟨#[97]⟩, .string ⟨#[98]⟩, .string ⟨#[99]⟩, .string ⟨#[100]⟩] ∧ Blk wx (w1.heap.size + 1 + 1) 28 #[.string ⟨#[120]⟩, .string ⟨#[121]⟩] ∧ Below w.heap.size w wx)
      case first =>
        clear c_z
        by_cases hk2 : bits .and .i64 a 3 = 2
        · rcases hR : burnL E (nmT i1) (dnT j) n with ⟨x, M⟩
          have hxM : Hid (x = 0 → InvT M (k + 1)) := Lib.hid (fun hx => by subst hx; exact invT_burn hinv.out hR)
          have HB := fun w v hv => bburn_any v E (nmT i1) (dnT j) n w hv hinv.out.srt (by have := hinv.out.len; omega) HN
          rw [hR, l0, l1, l2, l3] at HB
          replace HB := Lib.hid HB
          clear hR l0 l1 l2 l3
          have c_z := fun i => k_z.cell i
          have c_d := fun i => k_d.cell i
          go_wp2_with fail
          refine (HB.out _ _ e_d.out).mono ?_
          rintro e w9 ⟨q9, c9, rfl, hen, hb⟩
          clear c_z c_d
          replace k_x := k_x.on hb
          replace k_d := k_d.on hb
          replace k_n := k_n.on hb
          replace k_m := k_m.on hb
          replace k_z := k_z.on hb
          replace e_d := Lib.hid (e_d.out.on hb)
          replace BB := BW_on BB hb
          have xe := Lib.hid (hen.box k_x (.slice q9 M.length c9))
          have xd := Lib.hid (e_d.out.box k_x (.slice q9 M.length c9))
          have xk := k_x.set_ 0 (.slice q9 M.length c9)
          have yk := k_d.far (p := ⟨Z.heap.size, 0, none⟩) hgx1.symm (.slice q9 M.length c9)
          have yn := k_n.far (p := ⟨Z.heap.size, 0, none⟩) hgx2.symm (.slice q9 M.length c9)
          have ym := k_m.far (p := ⟨Z.heap.size, 0, none⟩) hgx3.symm (.slice q9 M.length c9)
          have yb := BB.setCell (p := ⟨Z.heap.size, 0, none⟩) hgx4 (.slice q9 M.length c9)
          have c_x := fun i => k_x.cell i
          have f_x := fun i => k_x.free i
          clear hen hb e_d k_d k_n k_m k_z BB HB
          go_wp2_with fail
          go_meet
          exact ⟨x, M, q9, c9, rfl, hxM, xe, xd, xk, yk, yn, ym, yb⟩
        · by_cases hk3 : bits .and .i64 a 3 = 3
          · rcases hR : moveL E (nmT i1) (nmT i2) (dnT j) n with ⟨x, M⟩
            have hxM : Hid (x = 0 → InvT M (k + 1)) := Lib.hid (fun hx => by subst hx; exact invT_move hinv.out hR)
            have HB := fun w v hv => bmove_any v E (nmT i1) (nmT i2) (dnT j) n w hv hinv.out.srt (by have := hinv.out.len; omega) HN
            rw [hR, l0, l1, l2, l3] at HB
            replace HB := Lib.hid HB
            clear hR l0 l1 l2 l3
            have c_z := fun i => k_z.cell i
            have c_d := fun i => k_d.cell i
            go_wp2_with fail
            refine (HB.out _ _ e_d.out).mono ?_
            rintro e w9 ⟨q9, c9, rfl, hen, hb⟩
            clear c_z c_d
            replace k_x := k_x.on hb
            replace k_d := k_d.on hb
            replace k_n := k_n.on hb
            replace k_m := k_m.on hb
            replace k_z := k_z.on hb
            replace e_d := Lib.hid (e_d.out.on hb)
            replace BB := BW_on BB hb
            have xe := Lib.hid (hen.box k_x (.slice q9 M.length c9))
            have xd := Lib.hid (e_d.out.box k_x (.slice q9 M.length c9))
            have xk := k_x.set_ 0 (.slice q9 M.length c9)
            have yk := k_d.far (p := ⟨Z.heap.size, 0, none⟩) hgx1.symm (.slice q9 M.length c9)
            have yn := k_n.far (p := ⟨Z.heap.size, 0, none⟩) hgx2.symm (.slice q9 M.length c9)
            have ym := k_m.far (p := ⟨Z.heap.size, 0, none⟩) hgx3.symm (.slice q9 M.length c9)
            have yb := BB.setCell (p := ⟨Z.heap.size, 0, none⟩) hgx4 (.slice q9 M.length c9)
            have c_x := fun i => k_x.cell i
            have f_x := fun i => k_x.free i
            clear hen hb e_d k_d k_n k_m k_z BB HB
            go_wp2_with fail
            go_meet
            exact ⟨x, M, q9, c9, rfl, hxM, xe, xd, xk, yk, yn, ym, yb⟩
          · rcases hR : mintL E (nmT i1) (dnT j) n with ⟨x, M⟩
            have hxM : Hid (x = 0 → InvT M (k + 1)) := Lib.hid (fun hx => by subst hx; exact invT_mint hinv.out hn15 hR)
            have HB := fun w v hv => bmint_any v E (nmT i1) (dnT j) n w hv hinv.out.srt (by have := hinv.out.len; omega) HN
            rw [hR, l0, l1, l2, l3] at HB
            replace HB := Lib.hid HB
            clear hR l0 l1 l2 l3
            have c_z := fun i => k_z.cell i
            have c_d := fun i => k_d.cell i
            go_wp2_with fail
            refine (HB.out _ _ e_d.out).mono ?_
            rintro e w9 ⟨q9, c9, rfl, hen, hb⟩
            clear c_z c_d
            replace k_x := k_x.on hb
            replace k_d := k_d.on hb
            replace k_n := k_n.on hb
            replace k_m := k_m.on hb
            replace k_z := k_z.on hb
            replace e_d := Lib.hid (e_d.out.on hb)
            replace BB := BW_on BB hb
            have xe := Lib.hid (hen.box k_x (.slice q9 M.length c9))
            have xd := Lib.hid (e_d.out.box k_x (.slice q9 M.length c9))
            have xk := k_x.set_ 0 (.slice q9 M.length c9)
            have yk := k_d.far (p := ⟨Z.heap.size, 0, none⟩) hgx1.symm (.slice q9 M.length c9)
            have yn := k_n.far (p := ⟨Z.heap.size, 0, none⟩) hgx2.symm (.slice q9 M.length c9)
            have ym := k_m.far (p := ⟨Z.heap.size, 0, none⟩) hgx3.symm (.slice q9 M.length c9)
            have yb := BB.setCell (p := ⟨Z.heap.size, 0, none⟩) hgx4 (.slice q9 M.length c9)
            have c_x := fun i => k_x.cell i
            have f_x := fun i => k_x.free i
            clear hen hb e_d k_d k_n k_m k_z BB HB
            go_wp2_with fail
            go_meet
            exact ⟨x, M, q9, c9, rfl, hxM, xe, xd, xk, yk, yn, ym, yb⟩
      case rest =>
        clear k_x k_d k_n k_m e_d BB k_z c_z l0 l1 l2 l3 HN
        obtain ⟨x, M, qm, cm, rfl, hxM, e_x, e_d, k_x, k_d, k_n, k_m, BB⟩ := hcut
        go_upto_if 99 with (fail)
        go_cut [] (fun wx => ∃ (A : List Ent) (qa : Option Addr) (ca : Nat), Hid (InvT A (k + 1)) ∧ Hid (Ents wx (.slice qa A.length ca) A) ∧ Blk wx w1.heap.size 26 #[.slice qa A.length ca] ∧ Blk wx (w1.heap.size + 1) 27 #[.string ⟨#[97]⟩, .string ⟨#[98]⟩, .string ⟨#[99]⟩, .string ⟨#[100]⟩] ∧ Blk wx (w1.heap.size + 1 + 1) 28 #[.string ⟨#[120]⟩, .string ⟨#[121]⟩] ∧ Below w.heap.size w wx)
        case first =>
          by_cases hx : x = 0
          · subst hx
            have c_x := fun i => k_x.cell i
            have c_d := fun i => k_d.cell i
            have f_d := fun i => k_d.free i
            have xe := Lib.hid (e_x.out.box k_d (.slice qm M.length cm))
            have yk := k_d.set_ 0 (.slice qm M.length cm)
            have yn := k_n.far (p := ⟨w1.heap.size, 0, none⟩) (by show w1.heap.size + 1 ≠ w1.heap.size; omega) (.slice qm M.length cm)
            have ym := k_m.far (p := ⟨w1.heap.size, 0, none⟩) (by show w1.heap.size + 1 + 1 ≠ w1.heap.size; omega) (.slice qm M.length cm)
            have yb := BB.setCell (p := ⟨w1.heap.size, 0, none⟩) hgd (.slice qm M.length cm)
            have hiM := Lib.hid (hxM.out rfl)
            clear e_x e_d k_x k_d k_n k_m BB hxM
            go_wp2_with fail
            go_meet
            exact ⟨M, qm, cm, hiM, xe, yk, yn, ym, yb⟩
          · go_wp2_with fail
            go_meet
            exact ⟨E, q, c, Lib.hid hinv.out.up, e_d, k_d, k_n, k_m, BB⟩
        case rest =>
          clear e_x e_d k_x k_d k_n k_m BB hxM hinv
          obtain ⟨A, qa, ca, hinv, e_d, k_d, k_n, k_m, BB⟩ := hcut
          have hedc := e_d
          have hkdc := k_d
          have hknc := k_n
          have hkmc := k_m
          have hAl : A.length ≤ 82 := by have := hinv.out.len; omega
          go_wp2_with fail
          go_loopw [12] (fun kk wq => ∃ kf : Nat, kf ≤ 2 ∧ kk = .int .i64 (kf : Int) ∧ Below wc.heap.size wc wq) (fun kk _ => (3 - intOf kk).toNat)
          case atStart => exact ⟨0, by omega, rfl, BW_refl _⟩
          case round =>
            generalize wr = wq at *
            obtain ⟨kf, hkf, rfl, hbq⟩ := hrel
            by_cases hk2 : kf < 2
            · have hki : (kf : Int) < 2 := by omega
              have hk0 : (0 : Int) ≤ (kf : Int) := by omega
              have Hkw : Hid (wrap64 ((kf : Int) + 1) = (kf : Int) + 1) := Lib.hid (by unfold wrap64; omega)
              replace e_d := Lib.hid (e_d.out.on hbq)
              replace k_d := k_d.on hbq
              replace k_n := k_n.on hbq
              replace k_m := k_m.on hbq
              have hbq0 := hbq.size
              have hldq := k_d.lt
              have hlnq := k_n.lt
              have hlmq := k_m.lt
              have hjd := dn_at ⟨kf, hk2⟩
              have hjz := dn_size ⟨kf, hk2⟩
              have hpA := psum_all hinv.out ⟨kf, hk2⟩
              have hpl := psum_le hinv.out ⟨kf, hk2⟩ (by omega)
              have hps := psum_step A ⟨kf, hk2⟩
              have hKT : ∀ i : Fin 4, KT i ⟨kf, hk2⟩ = keyB (nmT i) (dnT ⟨kf, hk2⟩) := fun _ => rfl
              have hTT : TT ⟨kf, hk2⟩ = totB (dnT ⟨kf, hk2⟩) := rfl
              rw [hTT] at hpA
              generalize dnT ⟨kf, hk2⟩ = dd at *
              have hp0 : psum A ⟨kf, hk2⟩ 0 = 0 := rfl
              generalize psum A ⟨kf, hk2⟩ = ps at *
              have HjD : Hid ((#[.string ⟨#[120]⟩, .string ⟨#[121]⟩] : Array Value)[kf]? = some (.string dd)) := Lib.hid hjd
              have Hpl := Lib.hid hpl
              have Hps := Lib.hid hps
              have HKT := Lib.hid hKT
              have HpA := Lib.hid hpA
              have HjZ : dd.size ≤ 1 := Nat.le_of_eq hjz
              clear hjd hpl hps hKT hTT hpA hjz
              obtain ⟨z0, z1, z2, z3⟩ := limb_small (n := 0) (by decide)
              have k_s := blk1 wq 33 #[.int .u64 0, .int .u64 0, .int .u64 0, .int .u64 0]
              go_wp2_with fail
              go_loopw [14] (fun nn ww => ∃ nf : Nat, nf ≤ 4 ∧ nn = .int .i64 (nf : Int) ∧ Blk ww wq.heap.size 33 #[.int .u64 (limb (ps nf) 0), .int .u64 (limb (ps nf) 1), .int .u64 (limb (ps nf) 2), .int .u64 (limb (ps nf) 3)] ∧ Below wq.heap.size wq ww) (fun nn _ => (5 - intOf nn).toNat)
              case atStart => exact ⟨0, by omega, rfl, by rw [hp0, z0, z1, z2, z3]; exact k_s, BW_alloc (BW_refl _) _⟩
              case round =>
                generalize wr = ww at *
                clear k_s
                obtain ⟨nf, hnf, rfl, k_s, hbw⟩ := hrel
                by_cases hn4 : nf < 4
                · have hni : (nf : Int) < 4 := by omega
                  have hn0 : (0 : Int) ≤ (nf : Int) := by omega
                  have Hnw : Hid (wrap64 ((nf : Int) + 1) = (nf : Int) + 1) := Lib.hid (by unfold wrap64; omega)
                  have hnn := nm_at ⟨nf, hn4⟩
                  have hnz := nm_size ⟨nf, hn4⟩
                  have hst := Hps.out ⟨nf, hn4⟩
                  rw [HKT.out ⟨nf, hn4⟩] at hst
                  generalize nmT ⟨nf, hn4⟩ = nn at *
                  have HnD : Hid ((#[.string ⟨#[97]⟩, .string ⟨#[98]⟩, .string ⟨#[99]⟩, .string ⟨#[100]⟩] : Array Value)[nf]? = some (.string nn)) := Lib.hid hnn
                  have Hst : Hid (ps nf + ng A (keyB nn dd) = ps (nf + 1)) := Lib.hid hst
                  have HnZ : nn.size ≤ 1 := Nat.le_of_eq hnz
                  clear hnn hst hnz
                  have hP0 := Hpl.out nf (by omega)
                  have hP1 := Hpl.out (nf + 1) (by omega)
                  have w0 : W256 (ps nf) := w600 hP0
                  have w1' : W256 (ps (nf + 1)) := w600 hP1
                  obtain ⟨hok, hwn⟩ := ok600 hP1
                  have wb := ng_lt A (keyB nn dd)
                  have HR := Lib.hid (radd_any (ps nf) (ng A (keyB nn dd)) w0 wb)
                  have Hok := Lib.hid hok
                  have Hwn := Lib.hid hwn
                  clear hok hwn
                  have k_dw := k_d.on hbw
                  have k_nw := k_n.on hbw
                  have k_mw := k_m.on hbw
                  have hszw := hbw.size
                  go_upto_region 27 with (fail)
                  have ks0 := k_s.drew
                  refine wp_region_held_drew (S := BxS wq [(w1.heap.size, 26, #[.slice qa A.length ca]), ((w1.heap.size + 1), 27, #[.string ⟨#[97]⟩, .string ⟨#[98]⟩, .string ⟨#[99]⟩, .string ⟨#[100]⟩]), ((w1.heap.size + 1 + 1), 28, #[.string ⟨#[120]⟩, .string ⟨#[121]⟩])]) (by kernel_rfl) (((((BxS.nil hbw).cons k_mw).cons k_nw).cons k_dw)).drew (fun hH0 => ?_)
                  refine wpAnyH_take (i := 1) (v := .agg #[.slice qa A.length ca]) rfl (by kernel_rfl) (by kernel_rfl) (by kernel_rfl) (fun _ _ _ h => h) (yk_load (by kernel_rfl) _ _ rfl (.pointer (some ⟨w1.heap.size, 0, none⟩)) (by kernel_rfl) _ (fun w' hw' => by have c0 := (hw'.bl _ (.head _)).cell 0; go_simp)) hH0 ?_
                  refine wpAnyH_take (i := 2) (v := .int .i64 (nf : Int)) rfl (by kernel_rfl) (by kernel_rfl) (by kernel_rfl) (fun _ _ _ h => h) (yk_move (by kernel_rfl) _ rfl _ (by kernel_rfl)) hH0 ?_
                  refine wpAnyH_take (i := 3) (v := .pointer (some ⟨(w1.heap.size + 1), nf, none⟩)) rfl (by kernel_rfl) (by kernel_rfl) (by kernel_rfl) (fun _ _ _ h => h) (yk_iaB (by kernel_rfl) _ _ _ rfl (.pointer (some ⟨(w1.heap.size + 1), 0, none⟩)) (.int .i64 (nf : Int)) (by kernel_rfl) (by kernel_rfl) _ (fun w' hw' => by go_simp)) hH0 ?_
                  refine wpAnyH_take (i := 4) (v := .string nn) rfl (by kernel_rfl) (by kernel_rfl) (by kernel_rfl) (fun _ _ _ h => h) (yk_load (by kernel_rfl) _ _ rfl (.pointer (some ⟨(w1.heap.size + 1), nf, none⟩)) (by kernel_rfl) _ (fun w' hw' => by have c0 := (hw'.bl _ (.tail _ (.head _))).cell nf; rw [HnD.out] at c0; go_simp)) hH0 ?_
                  refine wpAnyH_take (i := 5) (v := .int .i64 (kf : Int)) rfl (by kernel_rfl) (by kernel_rfl) (by kernel_rfl) (fun _ _ _ h => h) (yk_move (by kernel_rfl) _ rfl _ (by kernel_rfl)) hH0 ?_
                  refine wpAnyH_take (i := 6) (v := .pointer (some ⟨(w1.heap.size + 1 + 1), kf, none⟩)) rfl (by kernel_rfl) (by kernel_rfl) (by kernel_rfl) (fun _ _ _ h => h) (yk_iaB (by kernel_rfl) _ _ _ rfl (.pointer (some ⟨(w1.heap.size + 1 + 1), 0, none⟩)) (.int .i64 (kf : Int)) (by kernel_rfl) (by kernel_rfl) _ (fun w' hw' => by go_simp)) hH0 ?_
                  refine wpAnyH_take (i := 7) (v := .string dd) rfl (by kernel_rfl) (by kernel_rfl) (by kernel_rfl) (fun _ _ _ h => h) (yk_load (by kernel_rfl) _ _ rfl (.pointer (some ⟨(w1.heap.size + 1 + 1), kf, none⟩)) (by kernel_rfl) _ (fun w' hw' => by have c0 := (hw'.bl _ (.tail _ (.tail _ (.head _)))).cell kf; rw [HjD.out] at c0; go_simp)) hH0 ?_
                  refine wpAnyH_ready (rs := [0, 8]) (by kernel_rfl) (by simp) ?_
                  refine AllReadyH.cons rfl (fun K hK => ?_) (AllReadyH.cons rfl (fun K hK => ?_) (AllReadyH.nil))
                  · have cs0 := fun i => ks0.cell i
                    go_simp
                    refine hK.out _ _ (hH0) (fun hH1 => ?_)
                    clear hK K
                    clear cs0
                    refine wpAnyH_ready (rs := [8]) (by kernel_rfl) (by simp) ?_
                    refine AllReadyH.cons rfl (fun K hK => ?_) AllReadyH.nil
                    go_simp
                    go_at_call 11
                    refine (bbal_any _ A nn dd _ (e_d.out.on hH1.hb) hinv.out.srt (by omega) (by omega) (by omega)).mono ?_
                    rintro e w8 ⟨rfl, hd8⟩
                    go_wp2_with fail
                    refine hK.out _ _ (hH1.on hd8) (fun hH2 => ?_)
                    clear hK K
                    replace ks0 := ks0.on hd8
                    refine wpAnyH_ready (rs := [9]) (by kernel_rfl) (by simp) ?_
                    refine AllReadyH.cons rfl (fun K hK => ?_) AllReadyH.nil
                    go_simp
                    go_at_call 10
                    refine (HR.out _).mono ?_
                    rintro e w9 ⟨rfl, hd9⟩
                    rw [Hst.out, Hok.out, Hwn.out]
                    go_wp2_with fail
                    refine hK.out _ _ (hH2.on hd9) (fun hH3 => ?_)
                    clear hK K
                    replace ks0 := ks0.on hd9
                    refine wpAnyH_take (i := 10) (v := .tuple #[.agg #[.int .u64 (limb (ps (nf + 1)) 0), .int .u64 (limb (ps (nf + 1)) 1), .int .u64 (limb (ps (nf + 1)) 2), .int .u64 (limb (ps (nf + 1)) 3)], .bool true]) rfl (by kernel_rfl) (by kernel_rfl) (by kernel_rfl) (fun _ _ _ h => h) (yk_move (by kernel_rfl) _ rfl _ (by kernel_rfl)) hH3 ?_
                    refine wpAnyH_take (i := 11) (v := .agg #[.int .u64 (limb (ps (nf + 1)) 0), .int .u64 (limb (ps (nf + 1)) 1), .int .u64 (limb (ps (nf + 1)) 2), .int .u64 (limb (ps (nf + 1)) 3)]) rfl (by kernel_rfl) (by kernel_rfl) (by kernel_rfl) (fun _ _ _ h => h) (yk_ext (by kernel_rfl) _ _ rfl (.tuple #[.agg #[.int .u64 (limb (ps (nf + 1)) 0), .int .u64 (limb (ps (nf + 1)) 1), .int .u64 (limb (ps (nf + 1)) 2), .int .u64 (limb (ps (nf + 1)) 3)], .bool true]) (by kernel_rfl) _ (fun _ _ => rfl)) hH3 ?_
                    refine wpAnyH_take (i := 12) (v := .bool true) rfl (by kernel_rfl) (by kernel_rfl) (by kernel_rfl) (fun _ _ _ h => h) (yk_ext (by kernel_rfl) _ _ rfl (.tuple #[.agg #[.int .u64 (limb (ps (nf + 1)) 0), .int .u64 (limb (ps (nf + 1)) 1), .int .u64 (limb (ps (nf + 1)) 2), .int .u64 (limb (ps (nf + 1)) 3)], .bool true]) (by kernel_rfl) _ (fun _ _ => rfl)) hH3 ?_
                    refine wpAnyH_ready (rs := [13]) (by kernel_rfl) (by simp) ?_
                    refine AllReadyH.cons rfl (fun K hK => ?_) AllReadyH.nil
                    rw [if_pos (by kernel_rfl)]
                    try simp only [Act.put, List.getElem_toArray, List.getElem_cons_zero, List.getElem_cons_succ, List.setIfInBounds_toArray, List.set_cons_succ, List.set_cons_zero]
                    refine wp_store_mid _ _ _ rfl wq.heap.size 0 [.int .u64 (limb (ps (nf + 1)) 0), .int .u64 (limb (ps (nf + 1)) 1), .int .u64 (limb (ps (nf + 1)) 2), .int .u64 (limb (ps (nf + 1)) 3)].toArray (by kernel_rfl) (by kernel_rfl) (ks0.there (Nat.le_refl 4)) szW (one4 _ _ _ _) ?_
                    simp only [Act.put, List.getElem_toArray, List.getElem_cons_zero, List.getElem_cons_succ]
                    refine hK.out _ _ (hH3.put (ne3 (by omega) (by omega) (by omega)) (Nat.le_refl _) _) (fun hH4 => ?_)
                    clear hK K
                    refine wpAnyH_done (by kernel_rfl) ?_ _
                    have hB := hH4.hb
                    have kf9 := setCells_all ks0 [.int .u64 (limb (ps (nf + 1)) 0), .int .u64 (limb (ps (nf + 1)) 1), .int .u64 (limb (ps (nf + 1)) 2), .int .u64 (limb (ps (nf + 1)) 3)] rfl
                    generalize w9.setCells wq.heap.size 0 [.int .u64 (limb (ps (nf + 1)) 0), .int .u64 (limb (ps (nf + 1)) 1), .int .u64 (limb (ps (nf + 1)) 2), .int .u64 (limb (ps (nf + 1)) 3)] = Q9 at *
                    clear hH0 hH1 hH2 hH3 hH4 hd8 hd9 ks0
                    go_wp2_with fail
                    go_roundw
                    case rel => exact ⟨nf + 1, by omega, by first | rfl | (rw [Hnw.out]; rfl), kf9, hB⟩
                    case measure => first | (simp [intOf, Hnw.out]; done) | (simp [intOf, Hnw.out]; omega) | (simp [intOf]; omega)
                  · go_simp
                    go_at_call 11
                    refine (bbal_any _ A nn dd _ (e_d.out.on hH0.hb) hinv.out.srt (by omega) (by omega) (by omega)).mono ?_
                    rintro e w8 ⟨rfl, hd8⟩
                    go_wp2_with fail
                    refine hK.out _ _ (hH0.on hd8) (fun hH1 => ?_)
                    clear hK K
                    replace ks0 := ks0.on hd8
                    have cs0 := fun i => ks0.cell i
                    refine wpAnyH_ready (rs := [0]) (by kernel_rfl) (by simp) ?_
                    refine AllReadyH.cons rfl (fun K hK => ?_) AllReadyH.nil
                    go_simp
                    refine hK.out _ _ (hH1) (fun hH2 => ?_)
                    clear hK K
                    clear cs0
                    refine wpAnyH_ready (rs := [9]) (by kernel_rfl) (by simp) ?_
                    refine AllReadyH.cons rfl (fun K hK => ?_) AllReadyH.nil
                    go_simp
                    go_at_call 10
                    refine (HR.out _).mono ?_
                    rintro e w9 ⟨rfl, hd9⟩
                    rw [Hst.out, Hok.out, Hwn.out]
                    go_wp2_with fail
                    refine hK.out _ _ (hH2.on hd9) (fun hH3 => ?_)
                    clear hK K
                    replace ks0 := ks0.on hd9
                    refine wpAnyH_take (i := 10) (v := .tuple #[.agg #[.int .u64 (limb (ps (nf + 1)) 0), .int .u64 (limb (ps (nf + 1)) 1), .int .u64 (limb (ps (nf + 1)) 2), .int .u64 (limb (ps (nf + 1)) 3)], .bool true]) rfl (by kernel_rfl) (by kernel_rfl) (by kernel_rfl) (fun _ _ _ h => h) (yk_move (by kernel_rfl) _ rfl _ (by kernel_rfl)) hH3 ?_
                    refine wpAnyH_take (i := 11) (v := .agg #[.int .u64 (limb (ps (nf + 1)) 0), .int .u64 (limb (ps (nf + 1)) 1), .int .u64 (limb (ps (nf + 1)) 2), .int .u64 (limb (ps (nf + 1)) 3)]) rfl (by kernel_rfl) (by kernel_rfl) (by kernel_rfl) (fun _ _ _ h => h) (yk_ext (by kernel_rfl) _ _ rfl (.tuple #[.agg #[.int .u64 (limb (ps (nf + 1)) 0), .int .u64 (limb (ps (nf + 1)) 1), .int .u64 (limb (ps (nf + 1)) 2), .int .u64 (limb (ps (nf + 1)) 3)], .bool true]) (by kernel_rfl) _ (fun _ _ => rfl)) hH3 ?_
                    refine wpAnyH_take (i := 12) (v := .bool true) rfl (by kernel_rfl) (by kernel_rfl) (by kernel_rfl) (fun _ _ _ h => h) (yk_ext (by kernel_rfl) _ _ rfl (.tuple #[.agg #[.int .u64 (limb (ps (nf + 1)) 0), .int .u64 (limb (ps (nf + 1)) 1), .int .u64 (limb (ps (nf + 1)) 2), .int .u64 (limb (ps (nf + 1)) 3)], .bool true]) (by kernel_rfl) _ (fun _ _ => rfl)) hH3 ?_
                    refine wpAnyH_ready (rs := [13]) (by kernel_rfl) (by simp) ?_
                    refine AllReadyH.cons rfl (fun K hK => ?_) AllReadyH.nil
                    rw [if_pos (by kernel_rfl)]
                    try simp only [Act.put, List.getElem_toArray, List.getElem_cons_zero, List.getElem_cons_succ, List.setIfInBounds_toArray, List.set_cons_succ, List.set_cons_zero]
                    refine wp_store_mid _ _ _ rfl wq.heap.size 0 [.int .u64 (limb (ps (nf + 1)) 0), .int .u64 (limb (ps (nf + 1)) 1), .int .u64 (limb (ps (nf + 1)) 2), .int .u64 (limb (ps (nf + 1)) 3)].toArray (by kernel_rfl) (by kernel_rfl) (ks0.there (Nat.le_refl 4)) szW (one4 _ _ _ _) ?_
                    simp only [Act.put, List.getElem_toArray, List.getElem_cons_zero, List.getElem_cons_succ]
                    refine hK.out _ _ (hH3.put (ne3 (by omega) (by omega) (by omega)) (Nat.le_refl _) _) (fun hH4 => ?_)
                    clear hK K
                    refine wpAnyH_done (by kernel_rfl) ?_ _
                    have hB := hH4.hb
                    have kf9 := setCells_all ks0 [.int .u64 (limb (ps (nf + 1)) 0), .int .u64 (limb (ps (nf + 1)) 1), .int .u64 (limb (ps (nf + 1)) 2), .int .u64 (limb (ps (nf + 1)) 3)] rfl
                    generalize w9.setCells wq.heap.size 0 [.int .u64 (limb (ps (nf + 1)) 0), .int .u64 (limb (ps (nf + 1)) 1), .int .u64 (limb (ps (nf + 1)) 2), .int .u64 (limb (ps (nf + 1)) 3)] = Q9 at *
                    clear hH0 hH1 hH2 hH3 hH4 hd8 hd9 ks0
                    go_wp2_with fail
                    go_roundw
                    case rel => exact ⟨nf + 1, by omega, by first | rfl | (rw [Hnw.out]; rfl), kf9, hB⟩
                    case measure => first | (simp [intOf, Hnw.out]; done) | (simp [intOf, Hnw.out]; omega) | (simp [intOf]; omega)
                · obtain rfl : nf = 4 := by omega
                  have hni : ¬ ((4 : Nat) : Int) < 4 := by decide
                  rw [HpA.out] at k_s
                  have k_dw := k_d.on hbw
                  have k_mw := k_m.on hbw
                  have e_dw := Lib.hid (e_d.out.on hbw)
                  go_upto_region 28 with (fail)
                  refine wp_region_held_drew (S := BxS ww [(wq.heap.size, 33, #[.int .u64 (limb (ng A (totB dd)) 0), .int .u64 (limb (ng A (totB dd)) 1), .int .u64 (limb (ng A (totB dd)) 2), .int .u64 (limb (ng A (totB dd)) 3)]), (w1.heap.size, 26, #[.slice qa A.length ca]), ((w1.heap.size + 1 + 1), 28, #[.string ⟨#[120]⟩, .string ⟨#[121]⟩])]) (by kernel_rfl) (((((BxS.nil (BW_refl ww)).cons k_mw).cons k_dw).cons k_s)).drew (fun hH0 => ?_)
                  refine wpAnyH_take (i := 0) (v := .agg #[.int .u64 (limb (ng A (totB dd)) 0), .int .u64 (limb (ng A (totB dd)) 1), .int .u64 (limb (ng A (totB dd)) 2), .int .u64 (limb (ng A (totB dd)) 3)]) rfl (by kernel_rfl) (by kernel_rfl) (by kernel_rfl) (fun _ _ _ h => h) (yk_load (by kernel_rfl) _ _ rfl (.pointer (some ⟨wq.heap.size, 0, none⟩)) (by kernel_rfl) _ (fun w' hw' => by have c0 := (hw'.bl _ (.head _)).cell 0; have c1 := (hw'.bl _ (.head _)).cell 1; have c2 := (hw'.bl _ (.head _)).cell 2; have c3 := (hw'.bl _ (.head _)).cell 3; go_simp)) hH0 ?_
                  refine wpAnyH_take (i := 1) (v := .agg #[.slice qa A.length ca]) rfl (by kernel_rfl) (by kernel_rfl) (by kernel_rfl) (fun _ _ _ h => h) (yk_load (by kernel_rfl) _ _ rfl (.pointer (some ⟨w1.heap.size, 0, none⟩)) (by kernel_rfl) _ (fun w' hw' => by have c0 := (hw'.bl _ (.tail _ (.head _))).cell 0; go_simp)) hH0 ?_
                  refine wpAnyH_take (i := 2) (v := .int .i64 (kf : Int)) rfl (by kernel_rfl) (by kernel_rfl) (by kernel_rfl) (fun _ _ _ h => h) (yk_move (by kernel_rfl) _ rfl _ (by kernel_rfl)) hH0 ?_
                  refine wpAnyH_take (i := 3) (v := .pointer (some ⟨(w1.heap.size + 1 + 1), kf, none⟩)) rfl (by kernel_rfl) (by kernel_rfl) (by kernel_rfl) (fun _ _ _ h => h) (yk_iaB (by kernel_rfl) _ _ _ rfl (.pointer (some ⟨(w1.heap.size + 1 + 1), 0, none⟩)) (.int .i64 (kf : Int)) (by kernel_rfl) (by kernel_rfl) _ (fun w' hw' => by go_simp)) hH0 ?_
                  refine wpAnyH_take (i := 4) (v := .string dd) rfl (by kernel_rfl) (by kernel_rfl) (by kernel_rfl) (fun _ _ _ h => h) (yk_load (by kernel_rfl) _ _ rfl (.pointer (some ⟨(w1.heap.size + 1 + 1), kf, none⟩)) (by kernel_rfl) _ (fun w' hw' => by have c0 := (hw'.bl _ (.tail _ (.tail _ (.head _)))).cell kf; rw [HjD.out] at c0; go_simp)) hH0 ?_
                  refine wpAnyH_ready (rs := [5]) (by kernel_rfl) (by simp) ?_
                  refine AllReadyH.cons rfl (fun K hK => ?_) AllReadyH.nil
                  go_simp
                  go_at_call 12
                  refine (bsup_any _ A dd _ (e_dw.out.on hH0.hb) hinv.out.srt (by omega) (by omega)).mono ?_
                  rintro e w5 ⟨rfl, hd5⟩
                  go_wp2_with fail
                  refine hK.out _ _ (hH0.on hd5) (fun hH1 => ?_)
                  clear hK K
                  refine wpAnyH_take (i := 6) (v := .bool false) rfl (by kernel_rfl) (by kernel_rfl) (by kernel_rfl) (fun _ _ _ h => h) (yk_bin (by kernel_rfl) _ _ _ _ _ rfl (.agg #[.int .u64 (limb (ng A (totB dd)) 0), .int .u64 (limb (ng A (totB dd)) 1), .int .u64 (limb (ng A (totB dd)) 2), .int .u64 (limb (ng A (totB dd)) 3)]) (.agg #[.int .u64 (limb (ng A (totB dd)) 0), .int .u64 (limb (ng A (totB dd)) 1), .int .u64 (limb (ng A (totB dd)) 2), .int .u64 (limb (ng A (totB dd)) 3)]) (by kernel_rfl) (by kernel_rfl) _ (fun w' hw' => by have h0 := eqWd (ng A (totB dd)) w'; go_simp)) hH1 ?_
                  refine wpAnyH_done (by kernel_rfl) ?_ _
                  have hB := hH1.hb
                  have hBq := BW_on hbw hB
                  clear hH0 hH1
                  go_wp2_with fail
                  go_roundw
                  case rel => exact ⟨kf + 1, by omega, by first | rfl | (rw [Hkw.out]; rfl), hbq.trans (hBq.mono hbq0)⟩
                  case measure => first | (simp [intOf, Hkw.out]; done) | (simp [intOf, Hkw.out]; omega) | (simp [intOf]; omega)
            · obtain rfl : kf = 2 := by omega
              have hki : ¬ ((2 : Nat) : Int) < 2 := by decide
              have BBq := BW_on BB hbq
              clear e_d k_d k_n k_m
              go_wp2_with fail
              go_roundw
              case rel => exact ⟨k + 1, qa, ca, A, by omega, by omega, by first | rfl | (rw [Hk3.out]; rfl), hinv, Lib.hid (hedc.out.on hbq), hkdc.on hbq, hknc.on hbq, hkmc.on hbq, BBq⟩
              case measure => first | (simp [intOf, Hk3.out]; done) | (simp [intOf, Hk3.out]; omega) | (simp [intOf]; omega)
    · by_cases h1 : k < L.length
      · have hk1 : (k : Int) < (L.length : Int) := by omega
        obtain rfl : k = 40 := by omega
        clear hlt
        go_wp2_with fail
        go_ret
        exact ⟨rfl, BB⟩
      · have hk1 : ¬ (k : Int) < (L.length : Int) := by omega
        clear hlt
        go_wp2_with fail
        go_ret
        exact ⟨rfl, BB⟩
end
set_option maxRecDepth 100000 in
theorem l11total_lifted (os : Os) (started : os.Started) (H : Type) (enc : TypeId × Value → H) :
    ReturnsInHanded {} Try.checked os 3 .any (Rows.bankTotalSpec.pre6 enc Try.prog Try.f3 Rows.bankTotalRow.domain false) (Rows.bankTotalSpec.post enc Try.prog Try.f3 false true false false) := by
  refine law_lifted (C := Try.checked) (tb := 4) (by kernel_rfl) started (by kernel_rfl) Try.func3
    (ChangeSpec.witness6 (enc := enc) (C := Try.checked) false ⟨#[], #[.slice none 0 0], []⟩ 8 (by kernel_rfl) (by kernel_rfl) (by kernel_rfl) (by kernel_rfl))
    (by kernel_rfl) (by kernel_rfl) (by kernel_rfl) Try.underlying4 rfl ?_ ?_
  · intro ds hd
    have hp : Try.f3.params.toList.length = 1 := by kernel_rfl
    rw [hp] at hd
    match ds, hd with
    | [d], _ => rfl
  · intro W base args ds ps hval hA _ _
    have hval' : ∀ (j : Nat) t v, Try.f3.params[j]? = some t → args[j]? = some v → Value.okWide Try.prog W .any base t v := hval
    have hA' : DataW.TrodAll enc Try.prog W 0 (fun _ => true) true Try.f3.params.toList args.toList ds ps := hA
    rw [Try.params3] at hA' hval'
    obtain ⟨v0, d0, rfl, rfl, h0⟩ := trodAll_one hA'
    obtain ⟨q, cap, L, rfl, hL, hop⟩ := open_q4s (hval' 0 22 v0 rfl rfl) h0
    exact l11total_any q cap L W hL (Lib.hid hop)
theorem BankTotal_holds : Rows.BankTotalSaid :=
  OpenClaim.holds_of_wide 3 Try.f3 rfl rfl rfl rfl rfl rfl rfl ⟨rfl, rfl, rfl, rfl, rfl⟩ rfl rfl rfl rfl rfl (by kernel_rfl) Try.func3 (by kernel_rfl)
    (of_decide_eq_true (by kernel_rfl)) (by unfold Func.isWrapper; first | (rw [if_pos (by decide +kernel)]; kernel_rfl) | (rw [if_neg (by decide +kernel)]; exact ⟨rfl, rfl⟩))
    (fun os started H enc _ => l11total_lifted os started H enc)
end Go.Proofs.Ytiaflghhfcnjlaa
