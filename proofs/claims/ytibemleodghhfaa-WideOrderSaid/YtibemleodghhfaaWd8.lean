/- Plain facts: decimal digits. -/
import Derived.Test.YtibemleodghhfaaWd4
namespace Go.Proofs.Ytibemleodghhfaa
open Go.RowKit
/-- The digits of n to the base ten, the least first; f bounds how many. -/
def dec : Nat → Nat → List Nat
  | 0, _ => []
  | f + 1, n => n % 10 :: if n / 10 = 0 then [] else dec f (n / 10)
theorem dec_succ (f n : Nat) : dec (f + 1) n = n % 10 :: if n / 10 = 0 then [] else dec f (n / 10) := rfl
theorem dec_lt (f n : Nat) : ∀ d ∈ dec f n, d < 10 := by
  induction f generalizing n with
  | zero => simp [dec]
  | succ f ih =>
    intro d hd
    rw [dec_succ] at hd
    simp only [List.mem_cons] at hd
    rcases hd with rfl | hd
    · omega
    · split at hd
      · simp at hd
      · exact ih _ d hd
theorem dec_len (f n : Nat) : (dec f n).length ≤ f := by
  induction f generalizing n with
  | zero => simp [dec]
  | succ f ih =>
    rw [dec_succ]
    simp only [List.length_cons]
    split
    · simp
    · have := ih (n / 10); omega
theorem dec_pos (f n : Nat) : 0 < (dec (f + 1) n).length := by rw [dec_succ]; simp
/-- The text of n, as bytes. -/
def txt (n : Nat) : List UInt8 := (dec 78 n).reverse.map fun d => UInt8.ofNat (48 + d)
def decV (ds : List Nat) : List Value := ds.map fun (d : Nat) => Value.int .u8 (48 + (d : Int))
theorem decV_snoc (ds : List Nat) (d : Nat) : decV (ds ++ [d]) = decV ds ++ [.int .u8 (48 + (d : Int))] := by simp [decV]
theorem decV_rev (ds : List Nat) : (decV ds).reverse = decV ds.reverse := by simp [decV]
theorem decV_len (ds : List Nat) : (decV ds).length = ds.length := by simp [decV]
theorem txt_len (n : Nat) : (txt n).length = (dec 78 n).length := by simp [txt]
theorem txt_cell (n j : Nat) (hj : j < (txt n).length) : (decV (dec 78 n).reverse)[j]? = some (.int .u8 ((txt n)[j].toNat : Int)) := by
  have h : j < (dec 78 n).reverse.length := by rw [txt_len] at hj; simpa using hj
  have hlt := dec_lt 78 n ((dec 78 n).reverse[j]) (by
    have := List.getElem_mem h
    exact List.mem_reverse.1 this)
  have e : (txt n)[j] = UInt8.ofNat (48 + (dec 78 n).reverse[j]) := List.getElem_map _
  rw [e]
  unfold decV
  rw [List.getElem?_map, List.getElem?_eq_getElem h]
  simp only [Option.map_some, Option.some.injEq, Value.int.injEq, true_and]
  rw [UInt8.toNat_ofNat']
  omega
theorem ten_pow : (256 : Nat) ^ 32 ≤ 10 ^ 78 := by decide
theorem div_lt_pow {c f : Nat} (h : c < 10 ^ (f + 1)) : c / 10 < 10 ^ f := by
  rw [Nat.pow_succ] at h
  omega
end Go.Proofs.Ytibemleodghhfaa
