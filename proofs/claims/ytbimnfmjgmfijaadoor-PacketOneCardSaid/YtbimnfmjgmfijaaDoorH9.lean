/- For the laws on hashes: hashes are the same just if their bytes are; a long array loaded under a guard; the chapter's example. -/
import Derived.Test.YtbimnfmjgmfijaaDoorH8
import Derived.DeepKeys
namespace Go.Proofs.YtbimnfmjgmfijaaDoor
open Go.RowKit
attribute [local go_sem ↓] Go.wp_at_zero Go.wp_at_succ
theorem mapM_all {α β : Type} {f : α → Option β} {g : α → β} : ∀ (l : List α), (∀ i ∈ l, f i = some (g i)) → l.mapM f = some (l.map g)
  | [], _ => rfl
  | x :: l, h => by
    rw [List.mapM_cons, h x (by simp), mapM_all l (fun i hi => h i (by simp [hi]))]
    rfl
set_option maxRecDepth 100000 in
theorem hash_lits (L : List Nat) (h : IsH L) : Tryd.prog.keyLits 4 66 (U8s L) = some (L.map fun (b : Nat) => Lit.int .u8 (b : Int)) := by
  have hc : Tryd.prog.cellsOf 5 = 1 := by kernel_rfl
  have hc2 : Tryd.prog.cellsOf 66 = 32 := by kernel_rfl
  have hl : (U8s L).length = 32 := by simp [U8s, h.1]
  have each : ∀ i ∈ List.range 32, Tryd.prog.keyLits 3 5 (((U8s L).drop (i * 1)).take 1) = some [Lit.int .u8 ((L.getD i 0 : Nat) : Int)] := by
    intro i hi
    have hi2 : i < 32 := List.mem_range.1 hi
    have hiL : i < L.length := by rw [h.1]; exact hi2
    have hd : ((U8s L).drop (i * 1)).take 1 = [Value.int .u8 ((L.getD i 0 : Nat) : Int)] := by
      rw [Nat.mul_one, List.drop_eq_getElem_cons (by omega)]
      simp [U8s, List.getD_eq_getElem?_getD, hiL]
    rw [hd]
    have hb := h.2 _ (List.getElem_mem hiL)
    rw [List.getD_eq_getElem?_getD, List.getElem?_eq_getElem hiL, Option.getD_some]
    have e1 : IntKind.u8.min = 0 := rfl
    have e2 : IntKind.u8.max = 255 := rfl
    have hw : (Lit.int .u8 ((L[i] : Nat) : Int)).wf = true := by
      simp [Lit.wf]
      omega
    unfold Program.keyLits
    rw [Tryd.underlying5]
    simp only [hw, and_self, if_true]
  unfold Program.keyLits
  rw [und_b32']
  simp only [hl, hc, hc2, if_true]
  rw [mapM_all _ each, Option.map_some]
  congr 1
  have hf : ∀ l : List Nat, (l.map fun i => [Lit.int .u8 ((L.getD i 0 : Nat) : Int)]).flatten = l.map fun i => Lit.int .u8 ((L.getD i 0 : Nat) : Int) := by
    intro l
    induction l with
    | nil => rfl
    | cons x l ih => simp only [List.map_cons, List.flatten_cons, ih]; rfl
  rw [hf]
  apply List.ext_getElem
  · simp [h.1]
  · intro i h1 h2
    have hiL : i < L.length := by simpa using h2
    simp [List.getD_eq_getElem?_getD, hiL]
set_option maxRecDepth 100000 in
theorem hash_formed (L : List Nat) (h : L.length = 32) : Value.formed Tryd.prog 66 (.agg (U8s L).toArray) = true := by
  match L, h with
  | [b0, b1, b2, b3, b4, b5, b6, b7, b8, b9, b10, b11, b12, b13, b14, b15, b16, b17, b18, b19, b20, b21, b22, b23, b24, b25, b26, b27, b28, b29, b30, b31], _ => (show Value.formed Tryd.prog 66 (.agg (U8s [b0, b1, b2, b3, b4, b5, b6, b7, b8, b9, b10, b11, b12, b13, b14, b15, b16, b17, b18, b19, b20, b21, b22, b23, b24, b25, b26, b27, b28, b29, b30, b31]).toArray) = true; kernel_rfl)
set_option maxRecDepth 100000 in
theorem eq_hash (L M : List Nat) (hL : IsH L) (hM : IsH M) (w : World) : (Op.equalIn 10000 66 (.agg (U8s L).toArray) (.agg (U8s M).toArray)).run Tryd.prog w = .ok (decide (L = M)) w := by
  obtain ⟨r, hr, hiff⟩ := run_equalIn_deep (P := Tryd.prog) 9997 3 66 (by kernel_rfl) w 4 4 (.agg (U8s L).toArray) (.agg (U8s M).toArray) _ _ (hash_formed L hL.1) (hash_formed M hM.1) (hash_lits L hL) (hash_lits M hM)
  have e : r = decide (L = M) := by
    rw [Bool.eq_iff_iff, hiff, decide_eq_true_eq]
    constructor
    · intro h
      exact List.map_inj_right (f := fun (b : Nat) => Lit.int .u8 (b : Int)) (fun x y hxy => by simp at hxy; omega) |>.1 h
    · rintro rfl; rfl
  rw [← e]
  exact hr
theorem wpList_load_g {P : Program} {ops : Array Oper} {rest : List Oper} {op : Oper} {a : Act} {w : World} {Q : Exit → Act → World → Prop} (hw : Region.wanted op (yielded ops a.tmps) = true) (ty : TypeId) (x : Operand) (ho : op.op = .load ty x)
    (b o : Nat) (hx : a.eval x = .pointer (some ⟨b, o, none⟩)) (cs : List Value) (d : TypeDesc) (hc : w.rangeAt b o cs)
    (hu : P.underlying ty = some d) (hd : d.isRow = true) (hi : (P.info? ty).map (·.size) = some cs.length)
    (h : wpList P ops Q rest (a.put op.dst (.agg cs.toArray)) w) : wpList P ops Q (op :: rest) a w := by
  unfold wpList
  rw [if_pos hw]
  exact .inl (wp_load_mid ty x ho b o hx cs d hc hu hd hi h)
def abcSha : List Nat := [186, 120, 22, 191, 143, 1, 207, 234, 65, 65, 64, 222, 93, 174, 34, 35, 176, 3, 97, 163, 150, 23, 122, 156, 180, 16, 255, 97, 242, 0, 21, 173]
theorem sha_abc : sha [97, 98, 99] = abcSha := by decide +kernel
theorem sha_IsH (M : List Nat) : IsH (sha M) := by
  refine ⟨by simp [sha, bytesOf], fun b hb => ?_⟩
  simp only [sha, bytesOf, List.mem_map] at hb
  obtain ⟨i, _, rfl⟩ := hb
  have := Int.emod_lt_of_pos ((blks KK BG (pad M) ((pad M).length / 64)).getD (i / 4) 0 / 2 ^ (24 - 8 * (i % 4))) (show (0 : Int) < 256 by decide)
  have := Int.emod_nonneg ((blks KK BG (pad M) ((pad M).length / 64)).getD (i / 4) 0 / 2 ^ (24 - 8 * (i % 4))) (show (256 : Int) ≠ 0 by decide)
  omega
end Go.Proofs.YtbimnfmjgmfijaaDoor
