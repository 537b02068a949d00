/- The iterator of strings.SplitSeq at a separator of one byte '/': it hands over the parts. -/
import Derived.Test.YtbimnfmjgmfijaaDoorTr1
import Derived.Test.YtbimnfmjgmfijaaDoorRf
import Derived.Test.YtbimnfmjgmfijaaDoorShelf
namespace Go.Proofs.YtbimnfmjgmfijaaDoor
open Go.RowKit Go.Shelf
attribute [local go_sem] Oper.semAt_some
theorem pcut_none : ∀ (l cur : List Nat), (∀ c ∈ l, c ≠ 47) → pcut cur l = [cur ++ l]
  | [], cur, _ => by simp [pcut]
  | c :: r, cur, h => by
    rw [pcut, if_neg (h c (List.mem_cons_self ..)), pcut_none r _ (fun x hx => h x (List.mem_cons_of_mem _ hx)), List.append_assoc]
    rfl
theorem pcut_app : ∀ (a cur b : List Nat), (∀ c ∈ a, c ≠ 47) → pcut cur (a ++ 47 :: b) = (cur ++ a) :: pcut [] b
  | [], cur, b, _ => by simp [pcut]
  | c :: r, cur, b, h => by
    rw [List.cons_append, pcut, if_neg (h c (List.mem_cons_self ..)), pcut_app r _ b (fun x hx => h x (List.mem_cons_of_mem _ hx)), List.append_assoc]
    rfl
theorem idx_none {s : ByteArray} (h : Lib.indexByte s.data.toList 47 = -1) : parts (bysN s) = [bysN s] := by
  refine pcut_none _ [] ?_
  intro c hc
  simp only [bysN, List.mem_map] at hc
  obtain ⟨u, hu, rfl⟩ := hc
  obtain ⟨k, hk⟩ := List.mem_iff_getElem?.1 hu
  intro h47
  have hu2 : u = 47 := by
    apply UInt8.toNat.inj; rw [h47]; rfl
  exact Lib.indexByte_none h k (hu2 ▸ hk)
theorem idx_some {s : ByteArray} {i : Nat} (h : Lib.indexByte s.data.toList 47 = i) : i < s.size ∧ parts (bysN s) = bysN (s.extract 0 i) :: parts (bysN (s.extract (i + 1) s.size)) := by
  obtain ⟨h1, h2⟩ := Lib.indexByte_some h
  have hi : i < s.data.toList.length := by
    rcases Nat.lt_or_ge i s.data.toList.length with h3 | h3
    · exact h3
    · rw [List.getElem?_eq_none h3] at h1; cases h1
  have hl := bysN_len s
  have his : i < s.size := by simpa using hi
  refine ⟨his, ?_⟩
  have hg : (bysN s)[i]? = some 47 := by unfold bysN; rw [List.getElem?_map, h1]; rfl
  have hsp : bysN s = (bysN s).take i ++ 47 :: (bysN s).drop (i + 1) := by
    have hil : i < (bysN s).length := by omega
    have h47 : (bysN s)[i] = 47 := by rw [List.getElem?_eq_getElem hil] at hg; exact Option.some.inj hg
    rw [← h47, ← List.drop_eq_getElem_cons hil, List.take_append_drop]
  have hno : ∀ c ∈ (bysN s).take i, c ≠ 47 := by
    intro c hc
    obtain ⟨k, hk⟩ := List.mem_iff_getElem?.1 hc
    rw [List.getElem?_take] at hk
    split at hk
    · rename_i hki
      unfold bysN at hk
      rw [List.getElem?_map] at hk
      cases hu : s.data.toList[k]? with
      | none => rw [hu] at hk; cases hk
      | some u =>
        rw [hu] at hk
        have : u.toNat = c := Option.some.inj hk
        intro h47
        have hu2 : u = 47 := by apply UInt8.toNat.inj; rw [this, h47]; rfl
        exact h2 k hki (hu2 ▸ hu)
    · cases hk
  have e1 : bysN (s.extract 0 i) = (bysN s).take i := by rw [bysN_extract]; rfl
  have e2 : bysN (s.extract (i + 1) s.size) = (bysN s).drop (i + 1) := by rw [bysN_extract, List.take_of_length_le (by omega)]
  rw [e1, e2]
  exact (congrArg (pcut []) hsp).trans (pcut_app _ _ _ hno)
theorem idx_cases (s : ByteArray) : Lib.indexByte s.data.toList 47 = -1 ∨ ∃ i : Nat, Lib.indexByte s.data.toList 47 = i := by
  have h := Lib.indexByte_ge s.data.toList 47
  by_cases h0 : Lib.indexByte s.data.toList 47 = -1
  · exact .inl h0
  · exact .inr ⟨(Lib.indexByte s.data.toList 47).toNat, by omega⟩
/-- The texts that are handed over: of a size. -/
abbrev Tx := { x : ByteArray // x.size ≤ 1000000 }
def txV (x : Tx) : Value := .string x.1
def txB (x : Tx) : List Nat := bysN x.1
/-- The three boxes: s, sep, sepSave. -/
structure Bx3 (W : World) (b : Nat) (s : ByteArray) : Prop where
  bs : W.heap[b]? = some (.cells #[.string s] 9 (0, 0))
  bp : W.heap[b + 1]? = some (.cells #[.string ⟨#[47]⟩] 9 (0, 0))
  bn : W.heap[b + 2]? = some (.cells #[.int .i64 0] 3 (0, 0))
def Kp3 (b : Nat) (W W' : World) : Prop := W'.heap[b]? = W.heap[b]? ∧ W'.heap[b + 1]? = W.heap[b + 1]? ∧ W'.heap[b + 2]? = W.heap[b + 2]?
theorem Bx3.kept {W W' : World} {b : Nat} {s : ByteArray} (h : Bx3 W b s) (hk : Kp3 b W W') : Bx3 W' b s := ⟨hk.1.trans h.bs, hk.2.1.trans h.bp, hk.2.2.trans h.bn⟩
theorem cell_of_one {W : World} {B : Nat} {v : Value} {t : TypeId} (h : W.heap[B]? = some (.cells #[v] t (0, 0))) : W.cell? ⟨B, 0, none⟩ = some v ∧ W.frozen? ⟨B, 0, none⟩ = false := by
  constructor <;> simp [World.cell?, World.frozen?, h]
theorem setCell_one {W : World} {B : Nat} {v : Value} {t : TypeId} (h : W.heap[B]? = some (.cells #[v] t (0, 0))) (u : Value) : (W.setCell ⟨B, 0, none⟩ u).heap[B]? = some (.cells #[u] t (0, 0)) := by
  unfold World.setCell
  simp [Array.getElem?_modify, h]
theorem Bx3.set {W : World} {b : Nat} {s : ByteArray} (h : Bx3 W b s) (u : ByteArray) : Bx3 (W.setCell ⟨b, 0, none⟩ (.string u)) b u :=
  ⟨setCell_one h.bs _, setCell_heap _ _ _ _ (by omega) _ h.bp, setCell_heap _ _ _ _ (by omega) _ h.bn⟩
/-- How long the text in box b is. -/
def sizeAt (b : Nat) (W : World) : Nat := match W.cell? ⟨b, 0, none⟩ with | some (.string t) => t.size | _ => 0
theorem sizeAt_eq {W : World} {b : Nat} {s : ByteArray} (h : Bx3 W b s) : sizeAt b W = s.size := by unfold sizeAt; rw [(cell_of_one h.bs).1]
set_option maxHeartbeats 4000000 in
set_option maxRecDepth 100000 in
theorem seqIt (n : Nat) (hn : 3 ≤ n) (b : Nat) (s : ByteArray) (hs : s.size ≤ 1000000) :
    IterB Tryd.prog n 79 #[.pointer (some ⟨b + 1, 0, none⟩), .pointer (some ⟨b, 0, none⟩), .pointer (some ⟨b + 2, 0, none⟩)] txV (Kp3 b) (fun xs => xs.map txB = parts (bysN s)) (fun pre => ∃ r, parts (bysN s) = pre.map txB ++ r) b (fun W => Bx3 W b s) := by
  intro l J Jx W hC hJ hY h0
  refine callsIn_of_wp Tryd.func79 rfl trivial ?_ rfl
  simp only [Tryd.ntmps79, List.size_toArray, List.length_cons, List.length_nil, Nat.reduceAdd, Nat.reduceSub, Array.replicate_succ, Array.replicate_zero, List.push_toArray, List.append_toArray, List.nil_append, List.cons_append]
  have hn1 : 1 ≤ n := by omega
  have hc2 := (cell_of_one hC.bp).1
  gi_wp2
  gi_loopw [7, 8] (fun _ _ wr => ∃ (pre : List Tx) (rest : ByteArray), parts (bysN s) = pre.map txB ++ parts (bysN rest) ∧ rest.size ≤ s.size ∧ Bx3 wr b rest ∧ J pre wr)
    (fun _ _ wr => sizeAt b wr)
  case atStart => exact ⟨[], s, rfl, Nat.le_refl _, hC, h0⟩
  case round =>
    obtain ⟨pre, rest, hp, hrs, hb3, hJs⟩ := hrel
    have hc1 := (cell_of_one hb3.bs).1
    have hcp := (cell_of_one hb3.bp).1
    have hcn := (cell_of_one hb3.bn).1
    rcases idx_cases rest with hi | ⟨i, hi⟩
    · have hpr := idx_none hi
      obtain ⟨fn, tmps, assign, body, hy, hR⟩ := hY pre ⟨rest, by omega⟩ wr hJs
      dsimp only [txV] at hy
      gi_wp2_with ((first | gi_at_call 64 | (refine ⟨trivial, ?_⟩; gi_at_call 64)); refine (callsIn_wide.2 (Tryd.strings_Index_one _ _ _)).mono ?_; rintro e w' ⟨rfl, rfl⟩; rw [hi])
      refine hR.mono ?_
      rintro e W3 (⟨rfl, hJ3, hk3⟩ | ⟨rfl, hJx3⟩)
      · gi_wp2
        go_end0
        exact ⟨⟨_, rfl⟩, .inl ⟨pre ++ [⟨rest, by omega⟩], by rw [hp, hpr, List.map_append]; rfl, hJ3⟩⟩
      · gi_wp2
        go_end0
        exact ⟨⟨_, rfl⟩, .inr ⟨pre ++ [⟨rest, by omega⟩], ⟨[], by rw [hp, hpr, List.map_append]; simp [txB]⟩, hJx3⟩⟩
    · obtain ⟨his, hpr⟩ := idx_some hi
      have hes : (rest.extract 0 i).size ≤ 1000000 := by rw [ByteArray.size_extract]; omega
      obtain ⟨fn, tmps, assign, body, hy, hR⟩ := hY pre ⟨rest.extract 0 i, hes⟩ wr hJs
      dsimp only [txV] at hy
      have hi1 : ¬ (i : Int) < 0 := by omega
      have hi2 : (i : Int) ≤ (rest.size : Int) := by omega
      have hi3 : (i : Int) + 1 ≤ (rest.size : Int) := by omega
      have hw0 : wrap64 ((i : Int) + 0) = (i : Int) := by unfold wrap64; omega
      have hw1 : wrap64 ((i : Int) + 1) = (i : Int) + 1 := by unfold wrap64; omega
      gi_wp2_with ((first | gi_at_call 64 | (refine ⟨trivial, ?_⟩; gi_at_call 64)); refine (callsIn_wide.2 (Tryd.strings_Index_one _ _ _)).mono ?_; rintro e w' ⟨rfl, rfl⟩; rw [hi])
      refine hR.mono ?_
      rintro e W3 (⟨rfl, hJ3, hk3⟩ | ⟨rfl, hJx3⟩)
      · have hb4 := hb3.kept hk3
        have hc3 := (cell_of_one hb4.bs).1
        have hf3 := (cell_of_one hb4.bs).2
        have hc4 := (cell_of_one hb4.bp).1
        gi_wp2
        go_roundw
        case rel => exact ⟨pre ++ [⟨rest.extract 0 i, hes⟩], rest.extract (i + 1) rest.size, by rw [hp, hpr, List.map_append, List.append_assoc]; rfl, by rw [ByteArray.size_extract]; omega, hb4.set _, hJ _ _ _ hJ3⟩
        case measure => rw [sizeAt_eq hb3, sizeAt_eq (hb4.set _), ByteArray.size_extract]; omega
      · gi_wp2
        refine bodyPost_ret (results_none rfl _ _ _) rfl ?_
        exact ⟨⟨_, rfl⟩, .inr ⟨pre ++ [⟨rest.extract 0 i, hes⟩], ⟨parts (bysN (rest.extract (i + 1) rest.size)), by rw [hp, hpr, List.map_append, List.append_assoc]; rfl⟩, hJx3⟩⟩
end Go.Proofs.YtbimnfmjgmfijaaDoor
