/- Tc, Tq, Td, Te, Tf, Tg in one text. -/
import Derived.Test.YtiaflghhfcnjlaaMH
import Derived.WalkMore
import Derived.Laws.EntriesVeiled
import Derived.Lib.SplitLaws
import Derived.Lib.CountLaws
import Derived.Lib.LastIndexByte
import Derived.Lib.Join
import Derived.BigQuiet
namespace Go.Proofs.Ytiaflghhfcnjlaa
open Go.RowKit Go.Shelf
section
attribute [local go_sem ↓] Go.wp_at_zero Go.wp_at_succ
end
theorem IterB.weak {α : Type} {P : Program} {n : Nat} {g : FuncId} {lb : Array Value} {enc : α → Value} {Kp : World → World → Prop} {S Sp : List α → Prop} {b0 : Nat} {C D : World → Prop} (h : IterB P n g lb enc Kp S Sp b0 C) (hD : ∀ W, D W → C W) : IterB P n g lb enc Kp S Sp b0 D :=
  fun l J Jx W hC => h l J Jx W (hD W hC)
attribute [local go_sem] Oper.semAt_some
structure ChkX (N : Nat) (w : World) (pre : List Tx) (W : World) : Prop where
  r : W.heap[N + 1]? = some (.cells #[.bool false] 4 (0, 0))
  no : (∃ x ∈ pre, okPart (txB x) = false) ∨ 5 < pre.length
  bw : Below N w W
theorem al_at (W : World) (o : Obj) (k : Nat) (hk : k = W.heap.size) : (W.alloc o).heap[k]? = some o := by subst hk; exact World.alloc_heap_new W o
theorem al_lt (W : World) (o o' : Obj) (k : Nat) (hk : k < W.heap.size) (h : W.heap[k]? = some o') : (W.alloc o).heap[k]? = some o' := (Below.heap_alloc W o k hk).trans h
end Go.Proofs.Ytiaflghhfcnjlaa
namespace Go.Proofs.Ytiaflghhfcnjlaa
open Go.RowKit
def slash : ByteArray := ⟨#[47]⟩
theorem indexB_slash (s : ByteArray) : Lib.indexB s slash = Lib.indexByte s.data.toList 47 := Lib.index_one _ _
theorem split_parts : ∀ (n : Nat) (s : ByteArray), s.size ≤ n → (Lib.splitB slash 0 (Lib.countB s slash) s).map bysN = parts (bysN s) ∧ (parts (bysN s)).length = Lib.countB s slash + 1
  | n, s, hn => by
    rcases idx_cases s with h | ⟨i, h⟩
    · have h2 := idx_none h
      rw [← indexB_slash] at h
      rw [Lib.countB_miss s slash h, h2]
      exact ⟨rfl, rfl⟩
    · obtain ⟨hi, h2⟩ := idx_some h
      rw [← indexB_slash] at h
      rw [Lib.countB_hit s slash i (by decide) h, Nat.add_comm 1, Lib.splitB_hit slash 0 _ s i h, h2]
      cases n with
      | zero => omega
      | succ n =>
        obtain ⟨h3, h4⟩ := split_parts n (s.extract (i + 1) s.size) (by rw [ByteArray.size_extract]; omega)
        have e : slash.size = 1 := rfl
        rw [e]
        refine ⟨?_, ?_⟩
        · rw [List.map_cons, h3]; rfl
        · rw [List.length_cons, h4]
theorem pcut_len : ∀ (l cur : List Nat), (pcut cur l).length = l.count 47 + 1
  | [], _ => rfl
  | c :: r, cur => by
    rw [pcut]
    by_cases h : c = 47
    · rw [if_pos h, List.length_cons, pcut_len r []]; subst h; rw [List.count_cons_self]
    · rw [if_neg h, pcut_len r _, List.count_cons_of_ne h]
theorem count_bysN (s : ByteArray) : Lib.countByte s.data.toList 47 = (bysN s).count 47 := by
  unfold Lib.countByte bysN
  induction s.data.toList with
  | nil => rfl
  | cons a r ih =>
    rw [List.map_cons]
    by_cases h : a = 47
    · subst h; rw [List.count_cons_self, ih]; exact (List.count_cons_self).symm
    · have h2 : a.toNat ≠ 47 := fun h3 => h (UInt8.toNat.inj (h3.trans (by rfl)))
      rw [List.count_cons_of_ne h, ih, List.count_cons_of_ne h2]
theorem pcut_last : ∀ (a cur b : List Nat), (∀ c ∈ b, c ≠ 47) → (pcut cur (a ++ 47 :: b)).getLast? = some b
  | [], cur, b, h => by
    rw [List.nil_append, pcut, if_pos rfl, pcut_none b [] h]
    rfl
  | c :: r, cur, b, h => by
    rw [List.cons_append, pcut]
    split
    · have := pcut_last r [] b h
      rw [List.getLast?_cons, this]; rfl
    · exact pcut_last r _ b h
/-- What stands behind the last slash. -/
def pLast (l : List Nat) : List Nat := ((parts l).getLast?).getD []
theorem last_any (s : ByteArray) : ∃ k : Nat, Lib.lastIndexByte s 47 + 1 = (k : Int) ∧ k ≤ s.size ∧ (bysN s).drop k = pLast (bysN s) := by
  have hl := bysN_len s
  have hg : ∀ j, j < s.size → ((s.data[j]!).toNat : Int) = ((bysN s).getD j 0 : Nat) := by
    intro j hj
    have hj2 : j < s.data.size := by rw [ByteArray.size_data]; exact hj
    rw [getElem!_pos s.data j hj2]
    have := str_get s j hj hj
    rw [← this]
    rfl
  rcases Lib.lastIndexByte_spec s 47 with ⟨h, hn⟩ | ⟨i, hi, h, hc, hn⟩
  · refine ⟨0, by rw [h]; rfl, Nat.zero_le _, ?_⟩
    have hno : ∀ c ∈ bysN s, c ≠ 47 := by
      intro c hc h47
      obtain ⟨k, hk⟩ := List.mem_iff_getElem?.1 hc
      have hk2 : k < (bysN s).length := (List.getElem?_eq_some_iff.1 hk).1
      have := hn k (by omega)
      rw [hg k (by omega), List.getD_eq_getElem?_getD, hk] at this
      simp at this
      omega
    unfold pLast parts
    rw [pcut_none _ _ hno]
    rfl
  · refine ⟨i + 1, by rw [h]; rfl, hi, ?_⟩
    have hil : i < (bysN s).length := by omega
    have h47 : (bysN s)[i] = 47 := by
      rw [hg i hi, List.getD_eq_getElem?_getD, List.getElem?_eq_getElem hil] at hc
      simp at hc
      omega
    have hsp : bysN s = (bysN s).take i ++ 47 :: (bysN s).drop (i + 1) := by
      conv => lhs; rw [← List.take_append_drop i (bysN s), List.drop_eq_getElem_cons hil, h47]
    have hno : ∀ c ∈ (bysN s).drop (i + 1), c ≠ 47 := by
      intro c hc2 h472
      obtain ⟨k, hk⟩ := List.mem_iff_getElem?.1 hc2
      rw [List.getElem?_drop] at hk
      have hk2 : i + 1 + k < (bysN s).length := (List.getElem?_eq_some_iff.1 hk).1
      have := hn (i + 1 + k) (by omega) (by omega)
      rw [hg _ (by omega), List.getD_eq_getElem?_getD, hk] at this
      simp at this
      omega
    unfold pLast parts
    conv => rhs; rw [hsp]
    rw [pcut_last _ _ _ hno]
    rfl
/-- Parts put together. -/
def pjoin : List (List Nat) → List Nat
  | [] => []
  | [a] => a
  | a :: b :: r => a ++ 47 :: pjoin (b :: r)
theorem pjoin_tail : ∀ (a : List Nat) (r : List (List Nat)), pjoin (a :: r) = a ++ (r.map (47 :: ·)).flatten
  | a, [] => by simp [pjoin]
  | a, b :: r => by rw [pjoin, pjoin_tail b r]; simp
theorem join_bys (xs : List ByteArray) : bysN ⟨(Lib.join (xs.map (·.data.toList)) slash.data.toList).toArray⟩ = pjoin (xs.map bysN) := by
  cases xs with
  | nil => rfl
  | cons a r =>
    rw [List.map_cons, Lib.join_cons, List.map_cons, pjoin_tail]
    unfold bysN Lib.joinTail
    simp only [List.map_append, List.map_flatten, List.map_map]
    congr 2
theorem parts_join : ∀ (ls : List (List Nat)), ls ≠ [] → (∀ x ∈ ls, ∀ c ∈ x, c ≠ 47) → parts (pjoin ls) = ls
  | [], h, _ => absurd rfl h
  | [a], _, h => by rw [pjoin]; exact pcut_none a [] (h a (List.mem_cons_self ..))
  | a :: b :: r, _, h => by
    rw [pjoin]
    have h2 := parts_join (b :: r) (by simp) (fun x hx => h x (List.mem_cons_of_mem _ hx))
    exact (pcut_app a [] _ (h a (List.mem_cons_self ..))).trans (by rw [List.nil_append]; exact congrArg (a :: ·) h2)
theorem pjoin_len_snoc : ∀ (ls : List (List Nat)) (a : List Nat), ls ≠ [] → pjoin (ls ++ [a]) = pjoin ls ++ 47 :: a
  | [], _, h => absurd rfl h
  | [b], a, _ => rfl
  | b :: c :: r, a, _ => by
    show b ++ 47 :: pjoin ((c :: r) ++ [a]) = _
    rw [pjoin_len_snoc (c :: r) a (by simp), pjoin]
    simp
/-- Does the channel come off, and what is left may be? -/
def okRet (c d : List Nat) : Bool := (c ++ [47]).isPrefixOf d && okDen (d.drop (c.length + 1))
def pHops (l : List Nat) : Nat := if okDen l then (parts l).length - 1 else 0
def pBase (l : List Nat) : List Nat := if okDen l then pLast l else []
def pRet (c d : List Nat) : List Nat := if okRet c d then d.drop (c.length + 1) else []
end Go.Proofs.Ytiaflghhfcnjlaa
namespace Go.Proofs.Ytiaflghhfcnjlaa
open Go.RowKit
attribute [local go_sem ↓] Go.wp_at_zero Go.wp_at_succ
theorem hops_nat (s : ByteArray) (h : okDen (bysN s) = true) : Lib.countByte s.data.toList 47 = pHops (bysN s) := by
  unfold pHops
  rw [if_pos h, count_bysN]
  unfold parts
  rw [pcut_len]
  rfl
theorem isPrefix_map (a b : List UInt8) : a.isPrefixOf b = (a.map UInt8.toNat).isPrefixOf (b.map UInt8.toNat) := by
  induction a generalizing b with
  | nil => simp
  | cons x r ih =>
    cases b with
    | nil => rfl
    | cons y q =>
      rw [List.map_cons, List.map_cons, List.isPrefixOf_cons_cons, List.isPrefixOf_cons_cons, ih]
      congr 1
      by_cases h : x = y
      · subst h; simp
      · have h2 : x.toNat ≠ y.toNat := fun h3 => h (UInt8.toNat.inj h3)
        rw [beq_eq_false_iff_ne.2 h, beq_eq_false_iff_ne.2 h2]
theorem hasPrefix_bys (s p : ByteArray) : Lib.hasPrefix s.data.toList p.data.toList = (bysN p).isPrefixOf (bysN s) := isPrefix_map _ _
/-- A row of texts whose room is known: for strings.Join. -/
def JRow (w : World) (v : Value) (Ls : List ByteArray) : Prop := ∃ p cap, v = .slice p Ls.length cap ∧ (0 < Ls.length → Ls.length ≤ cap ∧ ∃ g off, p = some ⟨g, off, none⟩ ∧ g < w.heap.size ∧ ∀ (j : Nat) x, Ls[j]? = some x → w.cell? ⟨g, off + j, none⟩ = some (.string x))
theorem pcut_le : ∀ (l cur x : List Nat), x ∈ pcut cur l → x.length ≤ cur.length + l.length
  | [], cur, x, h => by simp [pcut] at h; subst h; simp
  | c :: r, cur, x, h => by
    rw [pcut] at h
    split at h
    · rcases List.mem_cons.1 h with rfl | h
      · simp
      · have := pcut_le r [] x h; simp at this ⊢; omega
    · have := pcut_le r _ x h; simp at this ⊢; omega
theorem parts_le {l x : List Nat} (h : x ∈ parts l) : x.length ≤ l.length := by have := pcut_le l [] x h; simpa using this
end Go.Proofs.Ytiaflghhfcnjlaa
namespace Go.Proofs.Ytiaflghhfcnjlaa
open Go.RowKit
attribute [local go_sem ↓] Go.wp_at_zero Go.wp_at_succ
theorem take_isPrefix (p l : List Nat) : decide (l.take p.length = p) = p.isPrefixOf l := by
  by_cases h : p.isPrefixOf l = true
  · rw [h]
    exact decide_eq_true (List.prefix_iff_eq_take.1 (List.isPrefixOf_iff_prefix.1 h)).symm
  · rw [Bool.not_eq_true] at h
    rw [h]
    refine decide_eq_false fun h2 => ?_
    have : p.isPrefixOf l = true := List.isPrefixOf_iff_prefix.2 (List.prefix_iff_eq_take.2 h2.symm)
    rw [h] at this
    cases this
theorem bits_low (n : Int) (k : Nat) (hk : k ≤ 32) : bits .and .i64 n (2 ^ k - 1 : Int) = n % 2 ^ k := by
  have e : bits .and .i64 n (2 ^ k - 1 : Int) = IntKind.i64.wrap (((BitVec.ofInt 64 n &&& BitVec.ofInt 64 (2 ^ k - 1)).toNat : Nat) : Int) := rfl
  have hp : (2 : Nat) ^ k ≤ 2 ^ 32 := Nat.pow_le_pow_right (by decide) hk
  have hp0 : 0 < (2 : Nat) ^ k := Nat.pow_pos (by decide)
  have e2 : (BitVec.ofInt 64 (2 ^ k - 1)).toNat = 2 ^ k - 1 := by
    rw [BitVec.toNat_ofInt]
    have : ((2 : Int) ^ k - 1) = ((2 ^ k - 1 : Nat) : Int) := by rw [Int.natCast_sub hp0]; simp
    rw [this]
    omega
  rw [e, IntKind.wrap_i64, BitVec.toNat_and, e2, Nat.and_two_pow_sub_one_eq_mod, BitVec.toNat_ofInt]
  have hdvd : (((2 ^ k : Nat)) : Int) ∣ ((2 ^ 64 : Nat) : Int) := Int.natCast_dvd_natCast.2 (Nat.pow_dvd_pow 2 (by omega))
  have h1 : (((n % ((2 ^ 64 : Nat) : Int)).toNat % 2 ^ k : Nat) : Int) = n % 2 ^ k := by
    rw [Int.natCast_emod, Int.toNat_of_nonneg (Int.emod_nonneg _ (by decide))]
    have : (((2 ^ k : Nat)) : Int) = 2 ^ k := by simp
    rw [Int.emod_emod_of_dvd n hdvd, this]
  rw [h1]
  have h2 : 0 ≤ n % 2 ^ k := Int.emod_nonneg _ (by have : (0 : Int) < 2 ^ k := by exact_mod_cast hp0
                                                   omega)
  have h3 : n % 2 ^ k < 2 ^ k := Int.emod_lt_of_pos _ (by exact_mod_cast hp0)
  have h4 : (2 : Int) ^ k ≤ 2 ^ 32 := by exact_mod_cast hp
  omega
/-- A word's letter, and the word. -/
def ltr (n : Int) (i : Nat) : Nat := 97 + (n / 2 ^ (2 + 3 * i) % 8).toNat
def wordL (n : Int) : List Nat := (List.range (1 + (n % 4).toNat)).map (ltr n)
theorem conv_f1 (w : World) (x : Int) (cap : Nat) :
    (convert 91 9 (.slice (some ⟨w.heap.size, 0, none⟩) 1 cap)).run Try.prog (w.alloc (.cells #[.int .u8 x] 5)) = .ok (.string ⟨#[UInt8.ofNat x.toNat]⟩) (w.alloc (.cells #[.int .u8 x] 5)) := by
  rw [run_convert_bytes_arg (w.alloc (.cells #[.int .u8 x] 5)) 91 5 Try.underlying91 Try.underlying5 w.heap.size 0 1 cap [x] rfl (by
    intro i hi
    have : i = 0 := by omega
    subst this; simp [go_sem]) 9 Try.underlying9]
  rfl
attribute [local go_sem] conv_f1
theorem ltr_lt (n : Int) (i : Nat) : 97 ≤ ltr n i ∧ ltr n i ≤ 104 := by unfold ltr; omega
end Go.Proofs.Ytiaflghhfcnjlaa
namespace Go.Proofs.Ytiaflghhfcnjlaa
open Go.RowKit
attribute [local go_sem ↓] Go.wp_at_zero Go.wp_at_succ
theorem below_drewN' {B : Nat} {a w : World} (h : Below B a w) : ∀ k : Nat, Below B a (Nat.rec w (fun _ x => x.drew) k)
  | 0 => h
  | k + 1 => (below_drewN' h k).drew
theorem pjoin_len : ∀ (ls : List (List Nat)) (m : Nat), (∀ x ∈ ls, x.length ≤ m) → (pjoin ls).length ≤ ls.length * (m + 1)
  | [], _, _ => by simp [pjoin]
  | [a], m, h => by have := h a (List.mem_cons_self ..); simp [pjoin]; omega
  | a :: b :: r, m, h => by
    have h1 := pjoin_len (b :: r) m (fun x hx => h x (List.mem_cons_of_mem _ hx))
    have h2 := h a (List.mem_cons_self ..)
    rw [pjoin, List.length_append, List.length_cons]
    rw [List.length_cons (a := a), Nat.succ_mul]
    omega
theorem pjoin_take (ls : List (List Nat)) (k : Nat) (h : k < ls.length) (h0 : 0 < k) : pjoin (ls.take (k + 1)) = pjoin (ls.take k) ++ 47 :: ls[k] := by
  rw [List.take_succ_eq_append_getElem h]
  refine pjoin_len_snoc _ _ fun h1 => ?_
  have := congrArg List.length h1
  rw [List.length_take, Nat.min_eq_left (Nat.le_of_lt h)] at this
  simp at this
  omega
end Go.Proofs.Ytiaflghhfcnjlaa
namespace Go.Proofs.Ytiaflghhfcnjlaa
open Go.RowKit
theorem own2_jrow {w : World} {base n : Nat} {v : Value} {Ls : List ByteArray} (h : own2 w base 9 v n (Ls.map Value.string)) (hn : n = Ls.length) : JRow w v Ls := by
  subst hn
  rcases h with ⟨rfl, h0, h1⟩ | h
  · have : Ls = [] := by simpa using h1
    subst this
    exact ⟨none, 0, rfl, fun h => by simp at h⟩
  · obtain ⟨g, cap, rfl, _, hg, hc1, _, hc⟩ := h.form
    refine ⟨_, cap, rfl, fun _ => ⟨hc1, g, 0, rfl, hg, fun j x hx => ?_⟩⟩
    rw [Nat.zero_add]
    exact hc j _ (by rw [List.getElem?_map, hx]; rfl)
theorem JRow.strs {w : World} {v : Value} {Ls : List ByteArray} (h : JRow w v Ls) : Strs w v Ls := by
  obtain ⟨p, cap, rfl, h⟩ := h
  refine ⟨p, cap, rfl, fun h0 => ?_⟩
  obtain ⟨_, g, off, rfl, _, hc⟩ := h h0
  exact ⟨g, off, rfl, fun i hi => hc i _ (List.getElem?_eq_getElem hi)⟩
theorem JRow.on {w w' : World} {v : Value} {Ls : List ByteArray} (h : JRow w v Ls) (hb : Below w.heap.size w w') : JRow w' v Ls := by
  obtain ⟨p, cap, rfl, h⟩ := h
  refine ⟨p, cap, rfl, fun h0 => ?_⟩
  obtain ⟨h1, g, off, rfl, hg, hc⟩ := h h0
  exact ⟨h1, g, off, rfl, Nat.lt_of_lt_of_le hg hb.size, fun j x hx => BW_cell hb (hc j x hx)⟩
theorem wordL_mem {n : Int} {c : Nat} (h : c ∈ wordL n) : 97 ≤ c ∧ c ≤ 104 := by
  unfold wordL at h
  obtain ⟨i, _, rfl⟩ := List.mem_map.1 h
  exact ltr_lt n i
theorem wordL_ns (n : Int) : ∀ c ∈ wordL n, c ≠ 47 := fun c hc => by have := wordL_mem hc; omega
theorem wordL_len (n : Int) : 1 ≤ (wordL n).length ∧ (wordL n).length ≤ 4 := by unfold wordL; rw [List.length_map, List.length_range]; omega
theorem okPart_of {l : List Nat} (h : ∀ c ∈ l, c ≠ 47) : okPart l = (decide (1 ≤ l.length) && decide (l.length ≤ 32)) := by
  unfold okPart
  have h1 : l.all (fun c => decide (c ≠ 47)) = true := by rw [List.all_eq_true]; intro c hc; exact decide_eq_true (h c hc)
  rw [h1]; rfl
theorem okPart_word (n : Int) : okPart (wordL n) = true := by
  rw [okPart_of (wordL_ns n)]
  have := wordL_len n
  rw [decide_eq_true this.1, decide_eq_true (show (wordL n).length ≤ 32 by omega)]
  rfl
theorem okPart_slash {l : List Nat} (h : 47 ∈ l) : okPart l = false := by
  unfold okPart
  have h1 : l.all (fun c => decide (c ≠ 47)) = false := by rw [List.all_eq_false]; exact ⟨47, h, by decide⟩
  rw [h1]; rfl
theorem okDen_join {ls : List (List Nat)} (h0 : ls ≠ []) (h : ∀ x ∈ ls, ∀ c ∈ x, c ≠ 47) : okDen (pjoin ls) = (ls.all okPart && decide (ls.length ≤ 5) && decide ((pjoin ls).length ≤ 200)) := by
  unfold okDen; rw [parts_join ls h0 h]
/-- A text without a slash, of 1 to 6 bytes. -/
def Wd (x : List Nat) : Prop := (∀ c ∈ x, c ≠ 47) ∧ 1 ≤ x.length ∧ x.length ≤ 6
theorem wd_word (n : Int) : Wd (wordL n) := ⟨wordL_ns n, (wordL_len n).1, by have := (wordL_len n).2; omega⟩
theorem okDen_words {ls : List (List Nat)} (h0 : ls ≠ []) (h : ∀ x ∈ ls, Wd x) : okDen (pjoin ls) = decide (ls.length ≤ 5) := by
  rw [okDen_join h0 (fun x hx => (h x hx).1)]
  have h1 : ls.all okPart = true := by
    rw [List.all_eq_true]
    intro x hx
    obtain ⟨a, b, c⟩ := h x hx
    rw [okPart_of a, decide_eq_true b, decide_eq_true (show x.length ≤ 32 by omega)]
    rfl
  rw [h1]
  have h2 := pjoin_len ls 6 (fun x hx => (h x hx).2.2)
  by_cases h5 : ls.length ≤ 5
  · rw [decide_eq_true h5, decide_eq_true (show (pjoin ls).length ≤ 200 by omega)]
    rfl
  · rw [decide_eq_false h5]; rfl
theorem pLast_join {ls : List (List Nat)} (h0 : ls ≠ []) (h : ∀ x ∈ ls, ∀ c ∈ x, c ≠ 47) : pLast (pjoin ls) = ls.getLast?.getD [] := by
  unfold pLast; rw [parts_join ls h0 h]
theorem pHops_words {ls : List (List Nat)} (h0 : ls ≠ []) (h : ∀ x ∈ ls, Wd x) : pHops (pjoin ls) = if ls.length ≤ 5 then ls.length - 1 else 0 := by
  unfold pHops
  rw [okDen_words h0 h, parts_join ls h0 (fun x hx => (h x hx).1)]
  by_cases h5 : ls.length ≤ 5 <;> simp [h5]
theorem pBase_words {ls : List (List Nat)} (h0 : ls ≠ []) (h : ∀ x ∈ ls, Wd x) : pBase (pjoin ls) = if ls.length ≤ 5 then ls.getLast?.getD [] else [] := by
  unfold pBase
  rw [okDen_words h0 h, pLast_join h0 (fun x hx => (h x hx).1)]
  by_cases h5 : ls.length ≤ 5 <;> simp [h5]
theorem isPre_self (c d : List Nat) : (c ++ [47]).isPrefixOf (c ++ 47 :: d) = true := by
  rw [List.isPrefixOf_iff_prefix]; exact ⟨d, by simp⟩
theorem drop_self (c d : List Nat) : (c ++ 47 :: d).drop (c.length + 1) = d := by
  rw [← List.drop_drop, List.drop_left]; rfl
theorem okRet_self (c d : List Nat) : okRet c (c ++ 47 :: d) = okDen d := by
  unfold okRet; rw [isPre_self, Bool.true_and, drop_self]
theorem pRet_self (c d : List Nat) : pRet c (c ++ 47 :: d) = if okDen d then d else [] := by
  unfold pRet; rw [okRet_self, drop_self]
theorem isPre_word {x y d : List Nat} (hx : ∀ c ∈ x, c ≠ 47) (hy : ∀ c ∈ y, c ≠ 47) : (x ++ [47]).isPrefixOf (y ++ 47 :: d) = decide (x = y) := by
  by_cases h : x = y
  · subst h; rw [isPre_self]; simp
  · rw [decide_eq_false h, Bool.eq_false_iff]
    intro h2
    obtain ⟨t, ht⟩ := List.isPrefixOf_iff_prefix.1 h2
    rw [List.append_assoc] at ht
    have h3 : pcut [] (x ++ 47 :: t) = pcut [] (y ++ 47 :: d) := congrArg (pcut []) ht
    rw [pcut_app x [] t hx, pcut_app y [] d hy] at h3
    exact h (by simpa using (List.cons.inj h3).1)
theorem okRet_word {x y : List Nat} (hx : ∀ c ∈ x, c ≠ 47) (hy : ∀ c ∈ y, c ≠ 47) : okRet x (y ++ [47, 120]) = decide (x = y) := by
  have h : (x ++ [47]).isPrefixOf (y ++ [47, 120]) = decide (x = y) := isPre_word hx hy
  unfold okRet
  rw [h]
  by_cases h : x = y
  · subst h
    have : (x ++ [47, 120]).drop (x.length + 1) = [120] := drop_self x [120]
    rw [this, decide_eq_true rfl]
    decide +kernel
  · rw [decide_eq_false h]; rfl
theorem join_cons {x : List Nat} {ls : List (List Nat)} (h0 : ls ≠ []) : pjoin (x :: ls) = x ++ 47 :: pjoin ls := by
  cases ls with
  | nil => exact absurd rfl h0
  | cons a r => rfl
/-- A denomination that went over channels. -/
def over (ls : List (List Nat)) : List Nat := pjoin (ls.reverse ++ [[120]])
theorem over_snoc (ls : List (List Nat)) (x : List Nat) : over (ls ++ [x]) = x ++ 47 :: over ls := by
  unfold over
  rw [List.reverse_append, List.reverse_singleton, List.append_assoc, List.singleton_append, join_cons (by simp)]
theorem over_words {ls : List (List Nat)} (h : ∀ x ∈ ls, Wd x) : (∀ x ∈ ls.reverse ++ [[120]], Wd x) := by
  intro x hx
  rcases List.mem_append.1 hx with hx | hx
  · exact h x (List.mem_reverse.1 hx)
  · simp at hx; subst hx; exact ⟨by simp, by simp, by simp⟩
theorem over_ok {ls : List (List Nat)} (h : ∀ x ∈ ls, Wd x) : okDen (over ls) = decide (ls.length ≤ 4) := by
  unfold over
  rw [okDen_words (by simp) (over_words h)]
  simp
theorem over_hops {ls : List (List Nat)} (h : ∀ x ∈ ls, Wd x) (hl : ls.length ≤ 4) : pHops (over ls) = ls.length := by
  unfold over
  rw [pHops_words (by simp) (over_words h)]
  simp
  omega
theorem over_base {ls : List (List Nat)} (h : ∀ x ∈ ls, Wd x) (hl : ls.length ≤ 4) : pBase (over ls) = [120] := by
  unfold over
  rw [pBase_words (by simp) (over_words h)]
  simp
  omega
theorem over_len {ls : List (List Nat)} (h : ∀ x ∈ ls, Wd x) : (over ls).length ≤ (ls.length + 1) * 7 := by
  have := pjoin_len (ls.reverse ++ [[120]]) 6 (fun x hx => (over_words h x hx).2.2)
  simpa [over] using this
end Go.Proofs.Ytiaflghhfcnjlaa
