/- Plain facts for the document's hash: its forms of the round's parts are the program's. -/
import Derived.Test.YtbimnfmjgmfijaaDoorT1
import Derived.Lib.EndianBits
namespace Go.Proofs.YtbimnfmjgmfijaaDoor
open Go.RowKit
def bv (x : Int) : BitVec 32 := BitVec.ofInt 32 x
theorem wrap32_nat (b : BitVec 32) : IntKind.u32.wrap (b.toNat : Int) = (b.toNat : Int) := by
  rw [IntKind.wrap_u32]
  have := b.isLt
  omega
theorem bits_and (x y : Int) : bits .and .u32 x y = ((bv x &&& bv y).toNat : Int) := wrap32_nat (bv x &&& bv y)
theorem bits_or (x y : Int) : bits .or .u32 x y = ((bv x ||| bv y).toNat : Int) := wrap32_nat (bv x ||| bv y)
theorem bits_xor (x y : Int) : bits .xor .u32 x y = ((bv x ^^^ bv y).toNat : Int) := wrap32_nat (bv x ^^^ bv y)
theorem bv_nat (b : BitVec 32) : bv (b.toNat : Int) = b := by
  unfold bv
  rw [BitVec.ofInt_natCast, BitVec.ofNat_toNat, BitVec.setWidth_eq]
theorem bv_wrap (n : Int) : bv (IntKind.u32.wrap n) = bv n := by
  rw [IntKind.wrap_u32]
  unfold bv
  apply BitVec.eq_of_toNat_eq
  simp [BitVec.toNat_ofInt]
theorem bv_not (n : Int) : bv (bits .xor .u32 4294967295 n) = ~~~ bv n := by
  rw [bits_xor, bv_nat, show bv 4294967295 = BitVec.allOnes 32 from by decide, BitVec.allOnes_xor]
theorem ogc (a b : Int) : og a b = og b a := by unfold og; rw [bits_or, bits_or, BitVec.or_comm]
theorem adc (a b : Int) : ad a b = ad b a := by unfold ad; rw [Int.add_comm]
theorem ch_ref (e f g : Int) : xr (an e f) (an (bits .xor .u32 4294967295 e) g) = chf e f g := by
  have h := bv_not e
  generalize bits .xor .u32 4294967295 e = ne at *
  unfold chf xr an
  simp only [bits_and, bits_xor, bv_nat, h]
  congr 2
  ext i
  simp
  cases (bv e)[i] <;> cases (bv f)[i] <;> cases (bv g)[i] <;> rfl
theorem maj_ref (a b c : Int) : xr (xr (an a b) (an a c)) (an b c) = majf a b c := by
  unfold majf xr an og
  simp only [bits_and, bits_xor, bits_or, bv_nat]
  congr 2
  ext i
  simp
  cases (bv a)[i] <;> cases (bv b)[i] <;> cases (bv c)[i] <;> rfl
theorem pt_ref (B : List Nat) (k : Nat) (hb : ∀ i, B.getD i 0 < 256) :
    og (og (og (((B.getD (4 * k) 0 : Nat) : Int) * 16777216) (((B.getD (4 * k + 1) 0 : Nat) : Int) * 65536)) (((B.getD (4 * k + 2) 0 : Nat) : Int) * 256)) ((B.getD (4 * k + 3) 0 : Nat) : Int) = pt B k 4 := by
  have e : pt B k 4 = og (og (og (og (0 * 256 % 4294967296) ((B.getD (4 * k) 0 : Nat) : Int) * 256 % 4294967296) ((B.getD (4 * k + 1) 0 : Nat) : Int) * 256 % 4294967296) ((B.getD (4 * k + 2) 0 : Nat) : Int) * 256 % 4294967296) ((B.getD (4 * k + 3) 0 : Nat) : Int) := rfl
  rw [e]
  have h0 := hb (4 * k)
  have h1 := hb (4 * k + 1)
  have h2 := hb (4 * k + 2)
  have h3 := hb (4 * k + 3)
  generalize B.getD (4 * k) 0 = a at *
  generalize B.getD (4 * k + 1) 0 = b at *
  generalize B.getD (4 * k + 2) 0 = c at *
  generalize B.getD (4 * k + 3) 0 = d at *
  clear e hb
  have l1 : og ((a : Int) * 16777216) ((b : Int) * 65536) = (b : Int) * 65536 + (a : Int) * 16777216 := by
    rw [ogc]; refine u32_or24 _ _ ?_ ?_ ?_ ?_ ?_ <;> omega
  have l2 : og ((b : Int) * 65536 + (a : Int) * 16777216) ((c : Int) * 256) = (c : Int) * 256 + ((b : Int) * 65536 + (a : Int) * 16777216) := by
    rw [ogc]; refine u32_or16 _ _ ?_ ?_ ?_ ?_ ?_ <;> omega
  have l3 : og ((c : Int) * 256 + ((b : Int) * 65536 + (a : Int) * 16777216)) (d : Int) = (d : Int) + ((c : Int) * 256 + ((b : Int) * 65536 + (a : Int) * 16777216)) := by
    rw [ogc]; refine u32_or8 _ _ ?_ ?_ ?_ ?_ ?_ <;> omega
  have r0 : og (0 * 256 % 4294967296) (a : Int) = (a : Int) := by
    rw [ogc, show ((0 : Int) * 256 % 4294967296) = 0 from rfl]
    have := u32_or8 (a : Int) 0 (by omega) (by omega) (by omega) (by omega) (by omega)
    rw [Int.add_zero] at this
    exact this
  have w3 : (a : Int) * 256 % 4294967296 = (a : Int) * 256 := by omega
  have r1 : og ((a : Int) * 256) (b : Int) = (b : Int) + (a : Int) * 256 := by
    rw [ogc]; refine u32_or8 _ _ ?_ ?_ ?_ ?_ ?_ <;> omega
  have w4 : ((b : Int) + (a : Int) * 256) * 256 % 4294967296 = ((b : Int) + (a : Int) * 256) * 256 := by omega
  have r2 : og (((b : Int) + (a : Int) * 256) * 256) (c : Int) = (c : Int) + ((b : Int) + (a : Int) * 256) * 256 := by
    rw [ogc]; refine u32_or8 _ _ ?_ ?_ ?_ ?_ ?_ <;> omega
  have w5 : ((c : Int) + ((b : Int) + (a : Int) * 256) * 256) * 256 % 4294967296 = ((c : Int) + ((b : Int) + (a : Int) * 256) * 256) * 256 := by omega
  have r3 : og (((c : Int) + ((b : Int) + (a : Int) * 256) * 256) * 256) (d : Int) = (d : Int) + ((c : Int) + ((b : Int) + (a : Int) * 256) * 256) * 256 := by
    rw [ogc]; refine u32_or8 _ _ ?_ ?_ ?_ ?_ ?_ <;> omega
  rw [l1, l2, l3, r0, w3, r1, w4, r2, w5, r3]
  omega
theorem next_ref (a0 a1 a9 a14 : Int) : (s1f a14 + a9 + s0f a1 + a0) % 4294967296 = ad (ad (ad a0 (s0f a1)) a9) (s1f a14) := by unfold ad; omega
end Go.Proofs.YtbimnfmjgmfijaaDoor
