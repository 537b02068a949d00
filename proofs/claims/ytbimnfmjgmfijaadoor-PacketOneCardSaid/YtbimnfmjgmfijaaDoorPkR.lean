/- The walk of the law PacketResults. -/
import Derived.Test.YtbimnfmjgmfijaaDoorPk2
import Derived.Test.YtbimnfmjgmfijaaDoorDe
namespace Go.Proofs.YtbimnfmjgmfijaaDoor
open Go.RowKit
attribute [local go_sem ↓] Go.wp_at_zero Go.wp_at_succ
theorem m255 (x : Int) : ∃ A : Nat, 1 ≤ A ∧ A ≤ 255 ∧ IntKind.i64.wrap (1 + (IntKind.i64.wrap (x.tmod 255 + 255)).tmod 255) = (A : Int) ∧ wrap64 (1 + (wrap64 (x.tmod 255 + 255)).tmod 255) = (A : Int) ∧ IntKind.i64.wrap (1 + (x.tmod 255 + 255).tmod 255) = (A : Int) ∧ 1 + (x.tmod 255 + 255).tmod 255 = (A : Int) := by
  have t1 := Int.tmod_lt_of_pos x (b := 255) (by omega)
  have t2 := Int.lt_tmod_of_pos x (b := 255) (by omega)
  generalize x.tmod 255 = y at *
  have h1 : IntKind.i64.wrap (y + 255) = y + 255 := by rw [IntKind.wrap_i64]; omega
  have h1' : wrap64 (y + 255) = y + 255 := by unfold wrap64; omega
  rw [h1, h1']
  have t3 := Int.tmod_lt_of_pos (y + 255) (b := 255) (by omega)
  have t4 := Int.tmod_nonneg (a := y + 255) 255 (by omega)
  generalize (y + 255).tmod 255 = z at *
  have h2 : IntKind.i64.wrap (1 + z) = 1 + z := by rw [IntKind.wrap_i64]; omega
  have h2' : wrap64 (1 + z) = 1 + z := by unfold wrap64; omega
  rw [h2, h2']
  exact ⟨(1 + z).toNat, by omega, by omega, by omega, by omega, by omega, by omega⟩
/-- What an answer says: one that came well; one that failed so; nothing. -/
inductive Ans (s : ByteArray) : Prop
  | done (h : s = ⟨#[43]⟩)
  | fail (x : UInt8) (hx : 0 < x.toNat) (h : s = ⟨#[45, x]⟩)
  | none (h1 : s ≠ ⟨#[43]⟩) (h2 : ∀ x : UInt8, 0 < x.toNat → s ≠ ⟨#[45, x]⟩)
theorem ans (s : ByteArray) : Ans s := by
  by_cases h1 : s = ⟨#[43]⟩
  · exact .done h1
  · by_cases h2 : ∃ x : UInt8, 0 < x.toNat ∧ s = ⟨#[45, x]⟩
    · obtain ⟨x, hx, h⟩ := h2
      exact .fail x hx h
    · exact .none h1 (fun x hx h => h2 ⟨x, hx, h⟩)
theorem str_neq {s t : ByteArray} (l : List UInt8) (hl : t.toList = l) (h : s ≠ t) : (s.toList == l) = false := by
  rw [← hl, beq_kl]
  exact decide_eq_false h
theorem two_bytes {s : ByteArray} (h : s.size = 2) : ∃ a b, s = ⟨#[a, b]⟩ := by
  obtain ⟨⟨l⟩⟩ := s
  match l, h with
  | [a, b], _ => exact ⟨a, b, rfl⟩
set_option maxHeartbeats 1000000 in
theorem result_none (s : ByteArray) (h1 : s ≠ ⟨#[43]⟩) (h2 : ∀ x : UInt8, 0 < x.toNat → s ≠ ⟨#[45, x]⟩) (w : World) : Calls Tryd.prog 22 #[.string s] w fun e w' => e = .returned (.tuple #[.int .i64 0, .bool false]) ∧ w = w' := by
  have e1 := str_neq [43] (by decide +kernel) h1
  by_cases hs : s.size = 2
  · obtain ⟨a, b, rfl⟩ := two_bytes hs
    by_cases ha : a = 45
    · subst ha
      have hb : b = 0 := by
        have h3 := h2 b
        have h4 : ¬ 0 < b.toNat := fun h => h3 h rfl
        exact UInt8.toNat_inj.1 (by rw [show (0 : UInt8).toNat = 0 from rfl]; omega)
      subst hb
      clear h1 h2 e1
      go_enter Tryd.func22, Tryd.ntmps22
      go_wp2_with fail
      go_ret2
      exact ⟨rfl, rfl⟩
    · have ha2 : ¬ (a.toNat : Int) = 45 := fun h => ha (UInt8.toNat_inj.1 (by rw [show (45 : UInt8).toNat = 45 from rfl]; omega))
      have ga : ∀ h : 0 < (⟨#[a, b]⟩ : ByteArray).size, (⟨#[a, b]⟩ : ByteArray)[0]'h = a := fun _ => rfl
      clear h1 h2
      go_enter Tryd.func22, Tryd.ntmps22
      go_wp2_with fail
      go_ret2
      exact ⟨rfl, rfl⟩
  · have hs2 : ¬ (s.size : Int) = 2 := by omega
    clear h1 h2
    go_enter Tryd.func22, Tryd.ntmps22
    go_wp2_with fail
    go_ret2
    exact ⟨rfl, rfl⟩
theorem failed_u (u : UInt8) (w : World) : Calls Tryd.prog 23 #[.int .i64 ((u.toNat : Nat) : Int)] w fun e w' => e = .returned (.string ⟨#[45, u]⟩) ∧ Below w.heap.size w w' := by
  refine (failed_any _ w).mono ?_
  rintro e w' ⟨rfl, hb⟩
  have hu := u.toNat_lt
  have e1 : (((u.toNat : Nat) : Int) % 256).toNat = u.toNat := by omega
  exact ⟨by rw [e1, UInt8.ofNat_toNat], hb⟩
end Go.Proofs.YtbimnfmjgmfijaaDoor
