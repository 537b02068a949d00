/- Plain facts: texts of numbers, and which texts are a number's. -/
import Derived.Test.YtibemleodghhfaaWd8
import Derived.Test.YtibemleodghhfaaWd3
namespace Go.Proofs.Ytibemleodghhfaa
open Go.RowKit
theorem ofn (d : Nat) (h : d < 10) : (48 + UInt8.ofNat d).toNat = 48 + d := by
  have : d = 0 ∨ d = 1 ∨ d = 2 ∨ d = 3 ∨ d = 4 ∨ d = 5 ∨ d = 6 ∨ d = 7 ∨ d = 8 ∨ d = 9 := by omega
  rcases this with rfl | rfl | rfl | rfl | rfl | rfl | rfl | rfl | rfl | rfl <;> rfl
def v10 : List Nat → Nat
  | [] => 0
  | r :: rs => r + 10 * v10 rs
theorem v10_snoc (rs : List Nat) (d : Nat) : v10 (rs ++ [d]) = v10 rs + d * 10 ^ rs.length := by
  induction rs with
  | nil => simp [v10]
  | cons x xs ih => simp only [List.cons_append, v10, ih, List.length_cons, Nat.pow_succ]; grind
theorem v10_lt (rs : List Nat) (h : ∀ r ∈ rs, r < 10) : v10 rs < 10 ^ rs.length := by
  induction rs with
  | nil => simp [v10]
  | cons x xs ih =>
    have h1 := h x (by simp)
    have h2 := ih (fun d hd => h d (by simp [hd]))
    simp only [v10, List.length_cons, Nat.pow_succ]
    generalize 10 ^ xs.length = p at *
    omega
theorem v10_top (rs : List Nat) (h0 : rs ≠ []) (h : rs.getLast? ≠ some 0) : 10 ^ (rs.length - 1) ≤ v10 rs := by
  have e := List.dropLast_concat_getLast h0
  rw [← e, v10_snoc]
  have hl : rs.getLast h0 ≠ 0 := by
    intro hh
    apply h
    rw [List.getLast?_eq_some_getLast h0, hh]
  have : 10 ^ rs.dropLast.length ≤ rs.getLast h0 * 10 ^ rs.dropLast.length := Nat.le_mul_of_pos_left _ (by omega)
  simp at this ⊢
  omega
theorem dec_canon (rs : List Nat) : ∀ f, rs ≠ [] → (∀ r ∈ rs, r < 10) → (1 < rs.length → rs.getLast? ≠ some 0) → rs.length ≤ f → dec f (v10 rs) = rs := by
  induction rs with
  | nil => intro f h; exact absurd rfl h
  | cons r rs ih =>
    intro f _ hd hl hf
    obtain ⟨g, rfl⟩ : ∃ g, f = g + 1 := ⟨f - 1, by simp at hf; omega⟩
    have hr := hd r (by simp)
    have e1 : v10 (r :: rs) % 10 = r := by simp only [v10]; omega
    have e2 : v10 (r :: rs) / 10 = v10 rs := by simp only [v10]; omega
    rw [dec_succ, e1, e2]
    rcases rs with _ | ⟨x, xs⟩
    · rfl
    · have hlast : (x :: xs).getLast? ≠ some 0 := by
        have := hl (by simp)
        rwa [List.getLast?_cons_cons] at this
      have hpos := v10_top (x :: xs) (by simp) hlast
      have hp : 0 < 10 ^ ((x :: xs).length - 1) := Nat.pow_pos (by decide)
      rw [if_neg (by omega), ih g (by simp) (fun d h => hd d (by simp [h])) (fun _ => hlast) (by simp at hf ⊢; omega)]
theorem dec_val (f : Nat) : ∀ n, n < 10 ^ f → v10 (dec f n) = n := by
  induction f with
  | zero => intro n h; simp at h; subst h; rfl
  | succ f ih =>
    intro n h
    rw [dec_succ]
    simp only [v10]
    split
    · simp [v10]; omega
    · rw [ih _ (by rw [Nat.pow_succ] at h; omega)]; omega
theorem dec_last (f : Nat) : ∀ n, n < 10 ^ f → 1 < (dec f n).length → (dec f n).getLast? ≠ some 0 := by
  induction f with
  | zero => intro n _ h; simp [dec] at h
  | succ f ih =>
    intro n h hl
    rw [dec_succ] at hl ⊢
    by_cases hq : n / 10 = 0
    · rw [if_pos hq] at hl; simp at hl
    · rw [if_neg hq] at hl ⊢
      have hq2 : n / 10 < 10 ^ f := by rw [Nat.pow_succ] at h; omega
      rcases hd : dec f (n / 10) with _ | ⟨x, xs⟩
      · rw [hd] at hl; simp at hl
      · rw [List.getLast?_cons_cons]
        rcases xs with _ | ⟨y, ys⟩
        · have hv := dec_val f _ hq2
          rw [hd] at hv
          simp [v10] at hv
          simp
          omega
        · have := ih _ hq2 (by rw [hd]; simp)
          rwa [hd] at this
/-- The value of a text of digits. -/
def val (l : List UInt8) : Nat := l.foldl (fun a c => a * 10 + (c.toNat - 48)) 0
def dg (c : UInt8) : Prop := 48 ≤ c.toNat ∧ c.toNat ≤ 57
theorem val_snoc (l : List UInt8) (c : UInt8) : val (l ++ [c]) = val l * 10 + (c.toNat - 48) := by simp [val, List.foldl_append]
theorem val_v10 (l : List UInt8) : val l = v10 (l.reverse.map fun c => c.toNat - 48) := by
  suffices h : ∀ r : List UInt8, val r.reverse = v10 (r.map fun c => c.toNat - 48) by
    have := h l.reverse
    rwa [List.reverse_reverse] at this
  intro r
  induction r with
  | nil => rfl
  | cons c r ih => rw [List.reverse_cons, val_snoc, ih, List.map_cons]; simp only [v10]; omega
theorem val_mono (l : List UInt8) (k : Nat) : val (l.take k) ≤ val l := by
  induction k with
  | zero => simp [val]
  | succ k ih =>
    clear ih
    suffices h : ∀ (m : List UInt8) (a b : Nat), a ≤ b → a ≤ m.foldl (fun a c => a * 10 + (c.toNat - 48)) b by
      have e := List.take_append_drop (k + 1) l
      have : val l = (l.drop (k + 1)).foldl (fun a c => a * 10 + (c.toNat - 48)) (val (l.take (k + 1))) := by
        conv => lhs; rw [← e]
        unfold val
        rw [List.foldl_append]
      rw [this]
      exact h _ _ _ (Nat.le_refl _)
    intro m
    induction m with
    | nil => intro a b h; exact h
    | cons c m ih => intro a b h; exact ih _ _ (by show a ≤ b * 10 + (c.toNat - 48); omega)
/-- Which texts are a number's. -/
structure okT (l : List UInt8) : Prop where
  ne : l ≠ []
  digits : ∀ c ∈ l, dg c
  lt : W256 (val l)
  lead : 1 < l.length → l.head? ≠ some 48
theorem okT.rev {l : List UInt8} (h : okT l) : (l.reverse.map fun c => c.toNat - 48) ≠ [] ∧ (∀ r ∈ (l.reverse.map fun c => c.toNat - 48), r < 10) ∧ (1 < (l.reverse.map fun c => c.toNat - 48).length → (l.reverse.map fun c => c.toNat - 48).getLast? ≠ some 0) := by
  refine ⟨by simp [h.ne], ?_, ?_⟩
  · intro r hr
    simp at hr
    obtain ⟨c, hc, rfl⟩ := hr
    have := h.digits c hc
    unfold dg at this
    omega
  · intro hl
    have hl' : 1 < l.length := by simpa using hl
    have hh := h.lead hl'
    rcases l with _ | ⟨c, m⟩
    · simp at hl'
    · simp at hh ⊢
      have := h.digits c (by simp)
      unfold dg at this
      intro h0
      apply hh
      apply UInt8.toNat_inj.1
      have : c.toNat = 48 := by omega
      rw [this]; rfl
theorem okT.len {l : List UInt8} (h : okT l) : l.length ≤ 78 := by
  obtain ⟨h1, h2, h3⟩ := h.rev
  by_cases hl : 1 < l.length
  · have ht := v10_top _ h1 (h3 (by simpa using hl))
    rw [← val_v10] at ht
    have hlt : val l < 10 ^ 78 := Nat.lt_of_lt_of_le h.lt ten_pow
    have hpl : 10 ^ (l.length - 1) < 10 ^ 78 := by
      simp at ht
      exact Nat.lt_of_le_of_lt ht hlt
    have := (Nat.pow_lt_pow_iff_right (by decide : 1 < 10)).1 hpl
    omega
  · omega
theorem okT.txt {l : List UInt8} (h : okT l) : txt (val l) = l := by
  obtain ⟨h1, h2, h3⟩ := h.rev
  have hl := h.len
  have hd := dec_canon _ 78 h1 h2 h3 (by simpa using hl)
  rw [← val_v10] at hd
  unfold Go.Proofs.Ytibemleodghhfaa.txt
  rw [hd, ← List.map_reverse, List.reverse_reverse, List.map_map]
  apply List.ext_getElem?
  intro i
  rw [List.getElem?_map]
  rcases hi : l[i]? with _ | c
  · rfl
  · simp
    have := h.digits c (List.mem_of_getElem? hi)
    unfold dg at this
    apply UInt8.toNat_inj.1
    rw [ofn _ (by omega)]
    omega
theorem txt_dg (n : Nat) : ∀ c ∈ txt n, dg c := by
  intro c hc
  simp [txt] at hc
  obtain ⟨d, hd, rfl⟩ := hc
  have := dec_lt 78 n d hd
  unfold dg
  rw [ofn _ this]
  omega
theorem txt_ok (n : Nat) (hn : W256 n) : okT (txt n) ∧ val (txt n) = n := by
  have hlt : n < 10 ^ 78 := Nat.lt_of_lt_of_le hn ten_pow
  have hv : val (txt n) = n := by
    rw [val_v10]
    have e : ((txt n).reverse.map fun c => c.toNat - 48) = dec 78 n := by
      unfold txt
      rw [← List.map_reverse, List.reverse_reverse, List.map_map]
      apply List.ext_getElem?
      intro i
      rw [List.getElem?_map]
      rcases hi : (dec 78 n)[i]? with _ | d
      · rfl
      · simp
        have := dec_lt 78 n d (List.mem_of_getElem? hi)
        omega
    rw [e]
    exact dec_val 78 n hlt
  refine ⟨⟨?_, txt_dg n, by rw [hv]; exact hn, ?_⟩, hv⟩
  · intro h
    have := dec_pos 77 n
    have h2 : (txt n).length = (dec (77 + 1) n).length := txt_len n
    rw [h] at h2
    rw [← h2] at this
    exact absurd this (by decide)
  · intro hl hh
    have hl2 : 1 < (dec 78 n).length := by rw [← txt_len]; exact hl
    have hq := dec_last 78 n hlt hl2
    apply hq
    unfold txt at hh
    rw [List.head?_map, List.head?_reverse] at hh
    rcases hd : (dec 78 n).getLast? with _ | d
    · rw [hd] at hh; simp at hh
    · rw [hd] at hh
      have hd10 := dec_lt 78 n d (List.mem_of_getLast? hd)
      simp at hh
      have h1 : (UInt8.ofNat (48 + d)).toNat = 48 := by
        have : UInt8.ofNat (48 + d) = 48 + UInt8.ofNat d := by simp
        rw [this, hh]; rfl
      have h2 : UInt8.ofNat (48 + d) = 48 + UInt8.ofNat d := by simp
      rw [h2, ofn _ hd10] at h1
      congr 1
      omega
theorem okT_iff (l : List UInt8) (hv : W256 (val l)) : okT l ↔ txt (val l) = l :=
  ⟨fun h => h.txt, fun h => by have := (txt_ok _ hv).1; rwa [h] at this⟩
end Go.Proofs.Ytibemleodghhfaa
