/- Contract of the library: math/bits.RotateLeft32, to the right by the places that the hash asks for; the words' rounds as plain functions. -/
import Derived.Test.YtbimnfmjgmfijaaDoorRows
import Derived.Test.YtbimnfmjgmfijaaDoorShelf
import Derived.Test.YtbimnfmjgmfijaaDoorKitD
import Derived.WalkKit
import Derived.WalkSpells
import Derived.WalkLawsBesides
import Derived.Deep.QuietTactic
import Derived.BigQuiet
import Derived.BigRegion
import Derived.Deep.DrawnRows
import Derived.Deep.RegionHeld3
import Derived.Lib.Hide
namespace Go.Proofs.YtbimnfmjgmfijaaDoor
open Go.RowKit
attribute [local go_sem ↓] Go.wp_at_zero Go.wp_at_succ
def rr (a b x : Int) : Int := bits .or .u32 (x * a % 4294967296) (x / b)
def xr (a b : Int) : Int := bits .xor .u32 a b
def an (a b : Int) : Int := bits .and .u32 a b
def og (a b : Int) : Int := bits .or .u32 a b
def ad (a b : Int) : Int := (a + b) % 4294967296
theorem rot_2 (x : Int) (w : World) :
    Calls Tryd.prog 85 #[.int .u32 x, .int .i64 (-2)] w fun e w' => e = .returned (.int .u32 (rr 1073741824 4 x)) ∧ w = w' := by
  have hk : bits .and .u64 (IntKind.u64.wrap (-2)) 31 = 30 := by decide +kernel
  go_enter Tryd.func85, Tryd.ntmps85
  go_wp2_with fail
  go_ret
  exact ⟨rfl, rfl⟩
theorem rot_6 (x : Int) (w : World) :
    Calls Tryd.prog 85 #[.int .u32 x, .int .i64 (-6)] w fun e w' => e = .returned (.int .u32 (rr 67108864 64 x)) ∧ w = w' := by
  have hk : bits .and .u64 (IntKind.u64.wrap (-6)) 31 = 26 := by decide +kernel
  go_enter Tryd.func85, Tryd.ntmps85
  go_wp2_with fail
  go_ret
  exact ⟨rfl, rfl⟩
theorem rot_7 (x : Int) (w : World) :
    Calls Tryd.prog 85 #[.int .u32 x, .int .i64 (-7)] w fun e w' => e = .returned (.int .u32 (rr 33554432 128 x)) ∧ w = w' := by
  have hk : bits .and .u64 (IntKind.u64.wrap (-7)) 31 = 25 := by decide +kernel
  go_enter Tryd.func85, Tryd.ntmps85
  go_wp2_with fail
  go_ret
  exact ⟨rfl, rfl⟩
theorem rot_11 (x : Int) (w : World) :
    Calls Tryd.prog 85 #[.int .u32 x, .int .i64 (-11)] w fun e w' => e = .returned (.int .u32 (rr 2097152 2048 x)) ∧ w = w' := by
  have hk : bits .and .u64 (IntKind.u64.wrap (-11)) 31 = 21 := by decide +kernel
  go_enter Tryd.func85, Tryd.ntmps85
  go_wp2_with fail
  go_ret
  exact ⟨rfl, rfl⟩
theorem rot_13 (x : Int) (w : World) :
    Calls Tryd.prog 85 #[.int .u32 x, .int .i64 (-13)] w fun e w' => e = .returned (.int .u32 (rr 524288 8192 x)) ∧ w = w' := by
  have hk : bits .and .u64 (IntKind.u64.wrap (-13)) 31 = 19 := by decide +kernel
  go_enter Tryd.func85, Tryd.ntmps85
  go_wp2_with fail
  go_ret
  exact ⟨rfl, rfl⟩
theorem rot_17 (x : Int) (w : World) :
    Calls Tryd.prog 85 #[.int .u32 x, .int .i64 (-17)] w fun e w' => e = .returned (.int .u32 (rr 32768 131072 x)) ∧ w = w' := by
  have hk : bits .and .u64 (IntKind.u64.wrap (-17)) 31 = 15 := by decide +kernel
  go_enter Tryd.func85, Tryd.ntmps85
  go_wp2_with fail
  go_ret
  exact ⟨rfl, rfl⟩
theorem rot_18 (x : Int) (w : World) :
    Calls Tryd.prog 85 #[.int .u32 x, .int .i64 (-18)] w fun e w' => e = .returned (.int .u32 (rr 16384 262144 x)) ∧ w = w' := by
  have hk : bits .and .u64 (IntKind.u64.wrap (-18)) 31 = 14 := by decide +kernel
  go_enter Tryd.func85, Tryd.ntmps85
  go_wp2_with fail
  go_ret
  exact ⟨rfl, rfl⟩
theorem rot_19 (x : Int) (w : World) :
    Calls Tryd.prog 85 #[.int .u32 x, .int .i64 (-19)] w fun e w' => e = .returned (.int .u32 (rr 8192 524288 x)) ∧ w = w' := by
  have hk : bits .and .u64 (IntKind.u64.wrap (-19)) 31 = 13 := by decide +kernel
  go_enter Tryd.func85, Tryd.ntmps85
  go_wp2_with fail
  go_ret
  exact ⟨rfl, rfl⟩
theorem rot_22 (x : Int) (w : World) :
    Calls Tryd.prog 85 #[.int .u32 x, .int .i64 (-22)] w fun e w' => e = .returned (.int .u32 (rr 1024 4194304 x)) ∧ w = w' := by
  have hk : bits .and .u64 (IntKind.u64.wrap (-22)) 31 = 10 := by decide +kernel
  go_enter Tryd.func85, Tryd.ntmps85
  go_wp2_with fail
  go_ret
  exact ⟨rfl, rfl⟩
theorem rot_25 (x : Int) (w : World) :
    Calls Tryd.prog 85 #[.int .u32 x, .int .i64 (-25)] w fun e w' => e = .returned (.int .u32 (rr 128 33554432 x)) ∧ w = w' := by
  have hk : bits .and .u64 (IntKind.u64.wrap (-25)) 31 = 7 := by decide +kernel
  go_enter Tryd.func85, Tryd.ntmps85
  go_wp2_with fail
  go_ret
  exact ⟨rfl, rfl⟩
def rotF (k x : Int) : Int := rr (2 ^ (32 - (-k).toNat)) (2 ^ (-k).toNat) x
theorem rot_any (x k : Int) (w : World) (hk : k = -2 ∨ k = -6 ∨ k = -7 ∨ k = -11 ∨ k = -13 ∨ k = -17 ∨ k = -18 ∨ k = -19 ∨ k = -22 ∨ k = -25) :
    Calls Tryd.prog 85 #[.int .u32 x, .int .i64 k] w fun e w' => e = .returned (.int .u32 (rotF k x)) ∧ w = w' := by
  rcases hk with rfl | rfl | rfl | rfl | rfl | rfl | rfl | rfl | rfl | rfl
  · exact rot_2 x w
  · exact rot_6 x w
  · exact rot_7 x w
  · exact rot_11 x w
  · exact rot_13 x w
  · exact rot_17 x w
  · exact rot_18 x w
  · exact rot_19 x w
  · exact rot_22 x w
  · exact rot_25 x w
/-- A word out of four bytes, after j of them. -/
def pt (B : List Nat) (k : Nat) : Nat → Int
  | 0 => 0
  | j + 1 => og (pt B k j * 256 % 4294967296) ((B.getD (4 * k + j) 0 : Nat) : Int)
def words (B : List Nat) (n : Nat) : List Int := (List.range n).map fun k => pt B k 4
def s0f (a : Int) : Int := xr (xr (rotF (-7) a) (rotF (-18) a)) (a / 8)
def s1f (b : Int) : Int := xr (xr (rotF (-17) b) (rotF (-19) b)) (b / 1024)
def nextW (W : List Int) (n : Nat) : Int := ad (ad (ad (W.getD n 0) (s0f (W.getD (n + 1) 0))) (W.getD (n + 9) 0)) (s1f (W.getD (n + 14) 0))
def ext (W : List Int) : Nat → List Int
  | 0 => W
  | n + 1 => ext W n ++ [nextW (ext W n) n]
theorem ext_len (W : List Int) (n : Nat) : (ext W n).length = W.length + n := by
  induction n with
  | zero => rfl
  | succ n ih => simp [ext, ih]; omega
theorem words_len (B : List Nat) (n : Nat) : (words B n).length = n := by simp [words]
theorem words_succ (B : List Nat) (n : Nat) : words B (n + 1) = words B n ++ [pt B n 4] := by simp [words, List.range_succ]
structure Y8 where
  (a b c d e f g h : Int)
def big1 (e : Int) : Int := xr (xr (rotF (-6) e) (rotF (-11) e)) (rotF (-25) e)
def big0 (a : Int) : Int := xr (xr (rotF (-2) a) (rotF (-13) a)) (rotF (-22) a)
def chf (e f g : Int) : Int := xr g (an e (xr f g))
def majf (a b c : Int) : Int := og (an a b) (an c (og a b))
def rnd (y : Y8) (k w : Int) : Y8 :=
  let t := ad (ad (ad (ad y.h (big1 y.e)) (chf y.e y.f y.g)) k) w
  ⟨ad (ad t (big0 y.a)) (majf y.a y.b y.c), y.a, y.b, y.c, ad y.d t, y.e, y.f, y.g⟩
def rnds (y : Y8) (K W : List Int) : Nat → Y8
  | 0 => y
  | n + 1 => rnd (rnds y K W n) (K.getD n 0) (W.getD n 0)
def Y8.l (y : Y8) : List Int := [y.a, y.b, y.c, y.d, y.e, y.f, y.g, y.h]
def Y8.of (X : List Int) : Y8 := ⟨X.getD 0 0, X.getD 1 0, X.getD 2 0, X.getD 3 0, X.getD 4 0, X.getD 5 0, X.getD 6 0, X.getD 7 0⟩
/-- What a block makes of the eight words. -/
def comp (K : List Int) (X : List Int) (B : List Nat) : List Int := List.zipWith ad X (rnds (Y8.of X) K (ext (words B 16) 48) 64).l
def U32 (l : List Int) : List Value := l.map (Value.int .u32)
def U8s (l : List Nat) : List Value := l.map fun (b : Nat) => Value.int .u8 (b : Int)
def hcs (X : List Int) (B : List Nat) (n : Int) (m : Bool) : Array Value := (U32 X ++ U8s B ++ ([.int .i64 n, .bool m] : List Value)).toArray
theorem U32_at {l : List Int} {i : Nat} (h : i < l.length) : (U32 l).toArray[i]? = some (.int .u32 (l.getD i 0)) := by
  simp [U32, List.getD_eq_getElem?_getD, h]
theorem U32_set (l : List Int) (i : Nat) (x : Int) : (U32 l).toArray.setIfInBounds i (.int .u32 x) = (U32 (l.set i x)).toArray := by
  simp [U32, List.map_set]
theorem hcs_x {X : List Int} {B : List Nat} {n : Int} {m : Bool} (hX : X.length = 8) {i : Nat} (h : i < 8) : (hcs X B n m)[i]? = some (.int .u32 (X.getD i 0)) := by
  unfold hcs
  rw [List.getElem?_toArray, List.append_assoc, List.getElem?_append_left (by simp [U32]; omega)]
  simp [U32, List.getD_eq_getElem?_getD, hX, h]
theorem hcs_b {X : List Int} {B : List Nat} {n : Int} {m : Bool} (hX : X.length = 8) (hB : B.length = 64) {i : Nat} (h : i < 64) : (hcs X B n m)[8 + i]? = some (.int .u8 ((B.getD i 0 : Nat) : Int)) := by
  unfold hcs
  rw [List.getElem?_toArray, List.append_assoc, List.getElem?_append_right (by simp [U32]; omega), List.getElem?_append_left (by simp [U32, U8s, hX]; omega)]
  simp [U32, U8s, List.getD_eq_getElem?_getD, hX, hB, h]
theorem hcs_n {X : List Int} {B : List Nat} {n : Int} {m : Bool} (hX : X.length = 8) (hB : B.length = 64) : (hcs X B n m)[72]? = some (.int .i64 n) := by
  unfold hcs
  rw [List.getElem?_toArray, List.getElem?_append_right (by simp [U32, U8s]; omega)]
  simp [U32, U8s, hX, hB]
theorem hcs_m {X : List Int} {B : List Nat} {n : Int} {m : Bool} (hX : X.length = 8) (hB : B.length = 64) : (hcs X B n m)[73]? = some (.bool m) := by
  unfold hcs
  rw [List.getElem?_toArray, List.getElem?_append_right (by simp [U32, U8s]; omega)]
  simp [U32, U8s, hX, hB]
theorem hcs_set {X : List Int} {B : List Nat} {n : Int} {m : Bool} (hX : X.length = 8) {i : Nat} (h : i < 8) (x : Int) : (hcs X B n m).setIfInBounds i (.int .u32 x) = hcs (X.set i x) B n m := by
  unfold hcs
  apply Array.toList_inj.1
  rw [Array.toList_setIfInBounds]
  simp only [List.append_assoc]
  rw [List.set_append_left _ _ (by simp [U32]; omega)]
  simp [U32, List.map_set]
end Go.Proofs.YtbimnfmjgmfijaaDoor
