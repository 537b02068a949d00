/- Contract of the library: slices.Reverse of bytes. -/
import Derived.Test.YtibemleodghhfaaRows
import Derived.Test.YtibemleodghhfaaKitA
import Derived.Test.YtibemleodghhfaaWd5
import Derived.WalkKit
import Derived.WalkSpells
import Derived.WalkLawsBesides
import Derived.Deep.QuietTactic
import Derived.BigQuiet
import Derived.BigRegion
import Derived.Deep.DrawnRows
import Derived.Outline
namespace Go.Proofs.Ytibemleodghhfaa
open Go.RowKit
attribute [local go_sem ↓] Go.wp_at_zero Go.wp_at_succ
/-- The list xs with its first and its last i places turned. -/
def Turned (xs ys : List Value) (i : Nat) : Prop := ys.length = xs.length ∧ ∀ p, p < xs.length → ys[p]? = if p < i ∨ xs.length ≤ p + i then xs[xs.length - 1 - p]? else xs[p]?
theorem Turned.start (xs : List Value) : Turned xs xs 0 := ⟨rfl, fun p hp => by rw [if_neg (by omega)]⟩
theorem Turned.swap {xs ys : List Value} {i : Nat} {a b : Value} (h : Turned xs ys i) (hij : i < xs.length - 1 - i) (ha : ys[i]? = some a) (hb : ys[xs.length - 1 - i]? = some b) : Turned xs ((ys.set i b).set (xs.length - 1 - i) a) (i + 1) := by
  obtain ⟨hl, hp⟩ := h
  have hi := hp i (by omega)
  have hj := hp (xs.length - 1 - i) (by omega)
  rw [if_neg (by omega)] at hi hj
  refine ⟨by simpa using hl, fun p hpl => ?_⟩
  have h0 := hp p hpl
  by_cases e1 : p = xs.length - 1 - i
  · subst e1
    rw [List.getElem?_set_self (by simp; omega), if_pos (by omega), show xs.length - 1 - (xs.length - 1 - i) = i by omega, ← hi, ha]
  · rw [List.getElem?_set_ne (by omega)]
    by_cases e2 : p = i
    · subst e2
      rw [List.getElem?_set_self (by omega), if_pos (by omega), ← hj, hb]
    · rw [List.getElem?_set_ne (by omega), h0]
      by_cases e3 : p < i ∨ xs.length ≤ p + i
      · rw [if_pos e3, if_pos (by omega)]
      · rw [if_neg e3, if_neg (by omega)]
theorem Turned.done {xs ys : List Value} {i : Nat} (h : Turned xs ys i) (hi : xs.length - 1 - i ≤ i) : ys = xs.reverse := by
  obtain ⟨hl, hp⟩ := h
  apply List.ext_getElem?
  intro p
  rcases Nat.lt_or_ge p xs.length with h1 | h1
  · rw [hp p h1, List.getElem?_reverse h1]
    split
    · rfl
    · rw [show xs.length - 1 - p = p by omega]
  · rw [List.getElem?_eq_none (by omega), List.getElem?_eq_none (by simpa using h1)]
theorem Turned.mem {xs ys : List Value} {i p : Nat} {a : Value} (h : Turned xs ys i) (ha : ys[p]? = some a) : a ∈ xs := by
  have hp : p < xs.length := by have := (List.getElem?_eq_some_iff.1 ha).1; have := h.1; omega
  have h0 := h.2 p hp
  rw [ha] at h0
  split at h0 <;> exact List.mem_of_getElem? h0.symm
set_option maxHeartbeats 1000000 in
theorem reverse_any (g n cap base : Nat) (xs : List Value) (hx : ∀ x ∈ xs, ∃ b : Int, x = .int .u8 b) (hn : 0 < n) (hlt : n ≤ 1000000) (w : World) (hown : w.ownsRow base 5 1 (.slice (some ⟨g, 0, none⟩) n cap) n xs) (hbase : base ≤ g) :
    Calls Try.prog 47 #[.slice (some ⟨g, 0, none⟩) n cap] w fun e w' => e = .returned (.tuple #[]) ∧ w'.ownsRow base 5 1 (.slice (some ⟨g, 0, none⟩) n cap) n xs.reverse ∧ Below base w w' := by
  have hl : xs.length = n := by have := hown.1; omega
  have Hl := Lib.hid hl
  have Hx := Lib.hid hx
  clear hl hx
  go_enter Try.func47, Try.ntmps47
  go_wp2
  go_loopw [2, 3] (fun i j wr => ∃ (k : Nat) (ys : List Value), k ≤ n ∧ i = .int .i64 (k : Nat) ∧ j = .int .i64 ((n : Int) - 1 - (k : Int)) ∧ Hid (Turned xs ys k) ∧ wr.ownsRow base 5 1 (.slice (some ⟨g, 0, none⟩) n cap) n ys ∧ Below base w wr) (fun i _ _ => n - (intOf i).toNat)
  case atStart => exact ⟨0, xs, by omega, rfl, by simp, Turned.start xs, hown, Below.refl _ _⟩
  case round =>
    obtain ⟨k, ys, hk, rfl, rfl, ht, ho, hb⟩ := hrel
    by_cases hij : k < n - 1 - k
    · obtain ⟨m, hm⟩ : ∃ m : Nat, m = n - 1 - k := ⟨_, rfl⟩
      have hmi : (n : Int) - 1 - (k : Int) = (m : Int) := by omega
      rw [hmi]
      have hyl : ys.length = n := by rw [ht.out.1]; exact Hl.out
      obtain ⟨a, ha⟩ : ∃ a, ys[k]? = some a := ⟨_, List.getElem?_eq_getElem (by omega)⟩
      obtain ⟨b, hb'⟩ : ∃ b, ys[m]? = some b := ⟨_, List.getElem?_eq_getElem (by omega)⟩
      obtain ⟨x, rfl⟩ := Hx.out a (ht.out.mem ha)
      obtain ⟨y, rfl⟩ := Hx.out b (ht.out.mem hb')
      have hca := ho.cellAt k (by omega)
      have hcb := ho.cellAt m (by omega)
      rw [ha] at hca
      rw [hb'] at hcb
      have hfa := ho.frozenAt k
      have hfb := ho.frozenAt m
      have hkm : ¬ k = m := by omega
      have hmk : ¬ m = k := by omega
      have i1 : (k : Int) < (n : Int) := by omega
      have i2 : (m : Int) < (n : Int) := by omega
      have i3 : (k : Int) < (m : Int) := by omega
      have Hm := Lib.hid hm
      have Ha := Lib.hid ha
      have Hb := Lib.hid hb'
      clear hm hmi hyl ha hb'
      go_wp2_with fail
      go_region
      go_wp2_with fail
      go_roundw
      case rel =>
        refine ⟨k + 1, _, by omega, by go_num, congrArg (Value.int .i64) (by have := Hm.out; omega), ht.out.swap (by rw [Hl.out]; exact hij) Ha.out (by rw [Hl.out, ← Hm.out]; exact Hb.out), ?_, ?_⟩
        · rw [Hl.out, ← Hm.out]
          exact own_drew ((ho.stored k _).1.stored m _).1
        · exact ((hb.drew).setCell hbase _).setCell hbase _
      case measure => simp [intOf]; omega
    · have hres := Lib.hid (ht.out.done (by rw [Hl.out]; omega))
      have h2 : ¬ ((k : Int) < (n : Int) - 1 - (k : Int)) := by omega
      go_wp2_with fail
      go_end0
      exact ⟨rfl, by rw [← hres.out]; exact ho, hb⟩
end Go.Proofs.Ytibemleodghhfaa
