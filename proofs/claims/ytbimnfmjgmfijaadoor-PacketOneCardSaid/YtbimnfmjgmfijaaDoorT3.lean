/- Contracts of the document's answer for the hash: a turned word; one block. -/
import Derived.Test.YtbimnfmjgmfijaaDoorT2
import Derived.StillTailTactics
namespace Go.Proofs.YtbimnfmjgmfijaaDoor
open Go.RowKit
attribute [local go_sem ↓] Go.wp_at_zero Go.wp_at_succ
theorem turned_any (x k : Int) (w : World) (hk : k = 2 ∨ k = 6 ∨ k = 7 ∨ k = 11 ∨ k = 13 ∨ k = 17 ∨ k = 18 ∨ k = 19 ∨ k = 22 ∨ k = 25) :
    Calls Tryd.prog 92 #[.int .u32 x, .int .u64 k] w fun e w' => e = .returned (.int .u32 (rotF (-k) x)) ∧ w' = w := by
  rcases hk with rfl | rfl | rfl | rfl | rfl | rfl | rfl | rfl | rfl | rfl
  all_goals
    go_enter Tryd.func92, Tryd.ntmps92
    go_wp2_with fail
    go_ret
    exact ⟨by rw [show ∀ a b, bits .or .u32 a b = og a b from fun _ _ => rfl, ogc]; rfl, rfl⟩
theorem turned_w (x k : Int) (w : World) (hk : k = 2 ∨ k = 6 ∨ k = 7 ∨ k = 11 ∨ k = 13 ∨ k = 17 ∨ k = 18 ∨ k = 19 ∨ k = 22 ∨ k = 25) :
    Calls Tryd.prog 92 #[.int .u32 x, .int .u64 k] w fun e w' => e = .returned (.int .u32 (rotF (-k) x)) ∧ w = w' := (turned_any x k w hk).mono fun _ _ h => ⟨h.1, h.2.symm⟩
/-- A fact that no tactic looks into, not even one that brings terms to their head form. -/
structure Bx (p : Prop) : Prop where
  out : p
/-- The sixty-four words, so far. -/
def wx (B : List Nat) (k : Nat) : List Int := if k ≤ 16 then words B k ++ List.replicate (64 - k) 0 else ext (words B 16) (k - 16) ++ List.replicate (64 - k) 0
theorem wx_len (B : List Nat) (k : Nat) (hk : k ≤ 64) : (wx B k).length = 64 := by
  unfold wx
  split
  · rw [List.length_append, words_len, List.length_replicate]; omega
  · rw [List.length_append, ext_len, words_len, List.length_replicate]; omega
theorem wx_low (B : List Nat) (k : Nat) (h : k < 16) : (wx B k).set k (pt B k 4) = wx B (k + 1) := by
  unfold wx
  rw [if_pos (by omega), if_pos (by omega), words_succ, show 64 - k = (63 - k) + 1 by omega, List.replicate_succ]
  rw [List.set_append_right _ _ (by rw [words_len]; exact Nat.le_refl _), words_len, Nat.sub_self, List.set_cons_zero, List.append_assoc]
  rw [show 64 - (k + 1) = 63 - k by omega]
  rfl
theorem wx_high (B : List Nat) (n : Nat) : wx B (n + 16) = ext (words B 16) n ++ List.replicate (48 - n) 0 := by
  unfold wx
  split
  · obtain rfl : n = 0 := by omega
    rfl
  · rw [show n + 16 - 16 = n by omega, show 64 - (n + 16) = 48 - n by omega]
theorem wx_set (B : List Nat) (n : Nat) (h : n < 48) (x : Int) (hx : x = nextW (ext (words B 16) n) n) : (wx B (n + 16)).set (n + 16) x = wx B (n + 1 + 16) := by
  rw [wx_high, wx_high, ext_set _ _ h (words_len B 16), hx]
  rfl
theorem wx_zero (B : List Nat) : wx B 0 = List.replicate 64 0 := rfl
theorem wx_all (B : List Nat) : wx B 64 = ext (words B 16) 48 := by
  have := wx_high B 48
  rw [this, Nat.sub_self, List.replicate_zero, List.append_nil]
theorem wx_old (B : List Nat) (n i : Nat) (h : i < n + 16) : (wx B (n + 16)).getD i 0 = (ext (words B 16) n).getD i 0 := by
  rw [wx_high, List.getD_eq_getElem?_getD, List.getElem?_append_left (by rw [ext_len, words_len]; omega), ← List.getD_eq_getElem?_getD]
end Go.Proofs.YtbimnfmjgmfijaaDoor
