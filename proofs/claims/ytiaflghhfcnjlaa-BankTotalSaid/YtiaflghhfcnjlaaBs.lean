/- What BankTotal says, of no walk: all accounts together have the supply, of each denomination. -/
import Derived.Test.YtiaflghhfcnjlaaBr
namespace Go.Proofs.Ytiaflghhfcnjlaa
open Go.RowKit
def nmT : Fin 4 → ByteArray
  | 0 => ⟨#[97]⟩
  | 1 => ⟨#[98]⟩
  | 2 => ⟨#[99]⟩
  | 3 => ⟨#[100]⟩
def dnT : Fin 2 → ByteArray
  | 0 => ⟨#[120]⟩
  | 1 => ⟨#[121]⟩
def KT (i : Fin 4) (j : Fin 2) : ByteArray := keyB (nmT i) (dnT j)
def TT (j : Fin 2) : ByteArray := totB (dnT j)
theorem KT_inj : ∀ (i i' : Fin 4) (j j' : Fin 2), KT i j = KT i' j' ↔ (i = i' ∧ j = j') := by decide +kernel
theorem KT_TT : ∀ (i : Fin 4) (j j' : Fin 2), KT i j ≠ TT j' := by decide +kernel
theorem TT_inj : ∀ (j j' : Fin 2), TT j = TT j' ↔ j = j' := by decide +kernel
def sum4 (E : List Ent) (j : Fin 2) : Nat := ng E (KT 0 j) + ng E (KT 1 j) + ng E (KT 2 j) + ng E (KT 3 j)
def Inv4 (E : List Ent) : Prop := ∀ j, sum4 E j = ng E (TT j)
theorem inv4_nil : Inv4 [] := fun _ => rfl
theorem fin4 : ∀ i : Fin 4, i = 0 ∨ i = 1 ∨ i = 2 ∨ i = 3 := by decide
theorem sum4_set {E : List Ent} (hs : Srt E) (i : Fin 4) (j : Fin 2) {n : Nat} (hn : W256 n) (j' : Fin 2) : sum4 (setL E (KT i j) n) j' + (if j' = j then ng E (KT i j) else 0) = sum4 E j' + (if j' = j then n else 0) := by
  have e : ∀ i', ng (setL E (KT i j) n) (KT i' j') = if i' = i ∧ j' = j then n else ng E (KT i' j') := fun i' => by
    rw [ng_setL hs _ hn]
    by_cases h : KT i' j' = KT i j
    · rw [if_pos h, if_pos ((KT_inj _ _ _ _).1 h)]
    · rw [if_neg h, if_neg (fun hh => h ((KT_inj _ _ _ _).2 hh))]
  unfold sum4
  rw [e, e, e, e]
  by_cases hj : j' = j
  · subst hj
    rcases fin4 i with rfl | rfl | rfl | rfl <;> simp <;> omega
  · simp [hj]
theorem sum4_tot {E : List Ent} (hs : Srt E) (j : Fin 2) (n : Nat) (j' : Fin 2) : sum4 (setL E (TT j) n) j' = sum4 E j' := by
  unfold sum4
  rw [ng_set_ne hs _ _ (KT_TT _ _ _), ng_set_ne hs _ _ (KT_TT _ _ _), ng_set_ne hs _ _ (KT_TT _ _ _), ng_set_ne hs _ _ (KT_TT _ _ _)]
theorem tot_set {E : List Ent} (hs : Srt E) (j : Fin 2) {n : Nat} (hn : W256 n) (j' : Fin 2) : ng (setL E (TT j) n) (TT j') = if j' = j then n else ng E (TT j') := by
  rw [ng_setL hs _ hn]
  by_cases h : TT j' = TT j
  · rw [if_pos h, if_pos ((TT_inj _ _).1 h)]
  · rw [if_neg h, if_neg (fun hh => h ((TT_inj _ _).2 hh))]
theorem inv4_mint {E : List Ent} (hs : Srt E) (hi : Inv4 E) {i : Fin 4} {j : Fin 2} {n : Nat} {A : List Ent} (h : mintL E (nmT i) (dnT j) n = (0, A)) : Inv4 A ∧ ∀ j', ng A (TT j') ≤ ng E (TT j') + n := by
  obtain ⟨_, w1, w2, rfl⟩ := mint_set h
  replace w1 : W256 (ng E (TT j) + n) := w1
  replace w2 : W256 (ng E (KT i j) + n) := w2
  have s1 := set_srt hs (TT j) (ng E (TT j) + n)
  have ek : ng (setL E (TT j) (ng E (TT j) + n)) (KT i j) = ng E (KT i j) := ng_set_ne hs _ _ (KT_TT _ _ _)
  have ht : ∀ j', ng (setL (setL E (TT j) (ng E (TT j) + n)) (KT i j) (ng E (KT i j) + n)) (TT j') = if j' = j then ng E (TT j) + n else ng E (TT j') := fun j' => by
    rw [ng_set_ne s1 _ _ (fun e => KT_TT _ _ _ e.symm), tot_set hs j w1]
  refine ⟨fun j' => ?_, fun j' => ?_⟩
  · have h1 := sum4_set s1 i j w2 j'
    rw [sum4_tot hs, ek] at h1
    have h2 := hi j'
    have h3 := ht j'
    show sum4 (setL (setL E (TT j) (ng E (TT j) + n)) (KT i j) (ng E (KT i j) + n)) j' = ng (setL (setL E (TT j) (ng E (TT j) + n)) (KT i j) (ng E (KT i j) + n)) (TT j')
    rw [h3]
    by_cases hj : j' = j
    · subst hj
      simp only [if_true] at h1 ⊢
      have : (ng E (KT i j') + n) = ng E (KT i j') + n := rfl
      show _ = ng E (TT j') + n
      have h1' : sum4 (setL (setL E (TT j') (ng E (TT j') + n)) (KT i j') (ng E (KT i j') + n)) j' + ng E (KT i j') = sum4 E j' + (ng E (KT i j') + n) := h1
      omega
    · rw [if_neg hj, if_neg hj] at h1
      rw [if_neg hj]
      omega
  · show ng (setL (setL E (TT j) (ng E (TT j) + n)) (KT i j) (ng E (KT i j) + n)) (TT j') ≤ _
    rw [ht]
    split
    · rename_i hj; subst hj; exact Nat.le_refl _
    · omega
theorem inv4_burn {E : List Ent} (hs : Srt E) (hi : Inv4 E) {i : Fin 4} {j : Fin 2} {n : Nat} {A : List Ent} (h : burnL E (nmT i) (dnT j) n = (0, A)) (hle : n ≤ ng E (TT j) ∧ n ≤ ng E (KT i j)) : Inv4 A ∧ ∀ j', ng A (TT j') ≤ ng E (TT j') := by
  obtain rfl := burn_set h
  have w1 : W256 (ng E (TT j) - n) := (ng_lt _ _).sub
  have w2 : W256 (ng E (KT i j) - n) := (ng_lt _ _).sub
  have s1 := set_srt hs (TT j) (ng E (TT j) - n)
  have ek : ng (setL E (TT j) (ng E (TT j) - n)) (KT i j) = ng E (KT i j) := ng_set_ne hs _ _ (KT_TT _ _ _)
  have ht : ∀ j', ng (setL (setL E (TT j) (ng E (TT j) - n)) (KT i j) (ng E (KT i j) - n)) (TT j') = if j' = j then ng E (TT j) - n else ng E (TT j') := fun j' => by
    rw [ng_set_ne s1 _ _ (fun e => KT_TT _ _ _ e.symm), tot_set hs j w1]
  refine ⟨fun j' => ?_, fun j' => ?_⟩
  · have h1 := sum4_set s1 i j w2 j'
    rw [sum4_tot hs, ek] at h1
    have h2 := hi j'
    have h3 := ht j'
    show sum4 (setL (setL E (TT j) (ng E (TT j) - n)) (KT i j) (ng E (KT i j) - n)) j' = ng (setL (setL E (TT j) (ng E (TT j) - n)) (KT i j) (ng E (KT i j) - n)) (TT j')
    rw [h3]
    by_cases hj : j' = j
    · subst hj
      have h1' : sum4 (setL (setL E (TT j') (ng E (TT j') - n)) (KT i j') (ng E (KT i j') - n)) j' + ng E (KT i j') = sum4 E j' + (ng E (KT i j') - n) := by simpa using h1
      rw [if_pos rfl]
      omega
    · rw [if_neg hj, if_neg hj] at h1
      rw [if_neg hj]
      omega
  · show ng (setL (setL E (TT j) (ng E (TT j) - n)) (KT i j) (ng E (KT i j) - n)) (TT j') ≤ _
    rw [ht]
    split
    · rename_i hj; subst hj; omega
    · exact Nat.le_refl _
theorem inv4_move {E : List Ent} (hs : Srt E) (hi : Inv4 E) {i i2 : Fin 4} {j : Fin 2} {n : Nat} {A : List Ent} (h : moveL E (nmT i) (nmT i2) (dnT j) n = (0, A)) : Inv4 A ∧ ∀ j', ng A (TT j') ≤ ng E (TT j') := by
  obtain ⟨_, h2, ⟨_, rfl⟩ | ⟨h3, w2, rfl⟩⟩ := move_set h
  · exact ⟨hi, fun _ => Nat.le_refl _⟩
  · have h2' : n ≤ ng E (KT i j) := h2
    have hii : i ≠ i2 := fun e => h3 (by rw [e])
    have w1 : W256 (ng E (KT i j) - n) := (ng_lt _ _).sub
    have s1 := set_srt hs (KT i j) (ng E (KT i j) - n)
    have ek : ng (setL E (KT i j) (ng E (KT i j) - n)) (KT i2 j) = ng E (KT i2 j) := ng_set_ne hs _ _ (fun e => hii ((KT_inj _ _ _ _).1 e).1.symm)
    have ht : ∀ j', ng (setL (setL E (KT i j) (ng E (KT i j) - n)) (KT i2 j) (ng E (KT i2 j) + n)) (TT j') = ng E (TT j') := fun j' => by
      rw [ng_set_ne s1 _ _ (fun e => KT_TT _ _ _ e.symm), ng_set_ne hs _ _ (fun e => KT_TT _ _ _ e.symm)]
    refine ⟨fun j' => ?_, fun j' => Nat.le_of_eq (ht j')⟩
    have h4 := sum4_set s1 i2 j (n := ng E (KT i2 j) + n) w2 j'
    have h5 := sum4_set hs i j (n := ng E (KT i j) - n) w1 j'
    rw [show ng (setL E (KT i j) (ng E (KT i j) - n)) (KT i2 j) = ng E (KT i2 j) from ek] at h4
    have h6 := hi j'
    show sum4 (setL (setL E (KT i j) (ng E (KT i j) - n)) (KT i2 j) (ng E (KT i2 j) + n)) j' = ng (setL (setL E (KT i j) (ng E (KT i j) - n)) (KT i2 j) (ng E (KT i2 j) + n)) (TT j')
    rw [ht]
    by_cases hj : j' = j
    · subst hj
      have h4' : sum4 (setL (setL E (KT i j') (ng E (KT i j') - n)) (KT i2 j') (ng E (KT i2 j') + n)) j' + ng E (KT i2 j') = sum4 (setL E (KT i j') (ng E (KT i j') - n)) j' + (ng E (KT i2 j') + n) := by simpa using h4
      have h5' : sum4 (setL E (KT i j') (ng E (KT i j') - n)) j' + ng E (KT i j') = sum4 E j' + (ng E (KT i j') - n) := by simpa using h5
      omega
    · rw [if_neg hj, if_neg hj] at h4
      rw [if_neg hj, if_neg hj] at h5
      omega
end Go.Proofs.Ytiaflghhfcnjlaa
