/- H1, H2, H3, H4, H5, H6, H7, H8, H9, HNil, HOrder, Yk, T1, T2, T3, Ob, T4, T5, T6, Oc, S1, Tr1, Rf, Sq, Tp in one text. -/
import Derived.Test.YtpcdgljcpacpiaaGreatDoorRows
import Derived.Test.YtpcdgljcpacpiaaGreatDoorShelf
import Derived.Test.YtpcdgljcpacpiaaGreatDoorKitD
import Derived.WalkKit
import Derived.WalkSpells
import Derived.WalkLawsBesides
import Derived.Deep.QuietTactic
import Derived.BigQuiet
import Derived.BigRegion
import Derived.Deep.DrawnRows
import Derived.Deep.RegionHeld3
import Derived.Lib.Hide
import Derived.StillTailTactics
import Derived.Lib.BufferWrite
import Derived.Deep.DeepCutAuto
import Derived.Deep.MidRow
import Derived.Deep.RegionLaw
import Derived.Laws.IdiomStrings
import Derived.Deep.CutBlock
import Derived.Laws.ResultCell
import Derived.DeepKeys
import Derived.Test.YtpcdgljcpacpiaaGreatDoorDe
import Derived.Test.YtpcdgljcpacpiaaGreatDoorKitA
import Derived.Lib.EndianBits
import Derived.Test.YtpcdgljcpacpiaaGreatDoorKitC
import Derived.Lib.FrozenHead
import Derived.Lib.ConvBytes
import Derived.RangeFuncNested
import Derived.RangeFuncBound
import Derived.RangeFuncCalls
import Derived.RangeFuncLeaves
import Derived.Shelf.Abstract
import Derived.Shelf.RegionOpen
import Derived.OwnWalkIn
import Derived.TacticsInMore
import Derived.LoopNIn
import Derived.LoopIn
import Derived.Laws.RangeAny
import Derived.Lib.Repeat
namespace Go.Proofs.YtpcdgljcpacpiaaGreatDoor
open Go.RowKit
attribute [local go_sem ↓] Go.wp_at_zero Go.wp_at_succ
def rr (a b x : Int) : Int := bits .or .u32 (x * a % 4294967296) (x / b)
def xr (a b : Int) : Int := bits .xor .u32 a b
def an (a b : Int) : Int := bits .and .u32 a b
def og (a b : Int) : Int := bits .or .u32 a b
def ad (a b : Int) : Int := (a + b) % 4294967296
def rotF (k x : Int) : Int := rr (2 ^ (32 - (-k).toNat)) (2 ^ (-k).toNat) x
/-- A word out of four bytes, after j of them. -/
def pt (B : List Nat) (k : Nat) : Nat → Int
  | 0 => 0
  | j + 1 => og (pt B k j * 256 % 4294967296) ((B.getD (4 * k + j) 0 : Nat) : Int)
def words (B : List Nat) (n : Nat) : List Int := (List.range n).map fun k => pt B k 4
def s0f (a : Int) : Int := xr (xr (rotF (-7) a) (rotF (-18) a)) (a / 8)
def s1f (b : Int) : Int := xr (xr (rotF (-17) b) (rotF (-19) b)) (b / 1024)
def nextW (W : List Int) (n : Nat) : Int := ad (ad (ad (W.getD n 0) (s0f (W.getD (n + 1) 0))) (W.getD (n + 9) 0)) (s1f (W.getD (n + 14) 0))
def ext (W : List Int) : Nat → List Int
  | 0 => W
  | n + 1 => ext W n ++ [nextW (ext W n) n]
structure Y8 where
  (a b c d e f g h : Int)
def big1 (e : Int) : Int := xr (xr (rotF (-6) e) (rotF (-11) e)) (rotF (-25) e)
def big0 (a : Int) : Int := xr (xr (rotF (-2) a) (rotF (-13) a)) (rotF (-22) a)
def chf (e f g : Int) : Int := xr g (an e (xr f g))
def majf (a b c : Int) : Int := og (an a b) (an c (og a b))
def rnd (y : Y8) (k w : Int) : Y8 :=
  let t := ad (ad (ad (ad y.h (big1 y.e)) (chf y.e y.f y.g)) k) w
  ⟨ad (ad t (big0 y.a)) (majf y.a y.b y.c), y.a, y.b, y.c, ad y.d t, y.e, y.f, y.g⟩
def rnds (y : Y8) (K W : List Int) : Nat → Y8
  | 0 => y
  | n + 1 => rnd (rnds y K W n) (K.getD n 0) (W.getD n 0)
def Y8.l (y : Y8) : List Int := [y.a, y.b, y.c, y.d, y.e, y.f, y.g, y.h]
def Y8.of (X : List Int) : Y8 := ⟨X.getD 0 0, X.getD 1 0, X.getD 2 0, X.getD 3 0, X.getD 4 0, X.getD 5 0, X.getD 6 0, X.getD 7 0⟩
/-- What a block makes of the eight words. -/
def comp (K : List Int) (X : List Int) (B : List Nat) : List Int := List.zipWith ad X (rnds (Y8.of X) K (ext (words B 16) 48) 64).l
def U32 (l : List Int) : List Value := l.map (Value.int .u32)
def U8s (l : List Nat) : List Value := l.map fun (b : Nat) => Value.int .u8 (b : Int)
def hcs (X : List Int) (B : List Nat) (n : Int) (m : Bool) : Array Value := (U32 X ++ U8s B ++ ([.int .i64 n, .bool m] : List Value)).toArray
end Go.Proofs.YtpcdgljcpacpiaaGreatDoor
namespace Go.Proofs.YtpcdgljcpacpiaaGreatDoor
open Go.RowKit
attribute [local go_sem ↓] Go.wp_at_zero Go.wp_at_succ
theorem grown_set {w w' : World} {g : Nat} (h : w.grownBy w' (some g)) (i : Nat) (u : Value) : w.grownBy (w'.setCell ⟨g, i, none⟩ u) (some g) :=
  ⟨h.os, h.tape, h.output, by simpa using h.size, fun k hk hne => (Below.heap_setCell w' ⟨g, i, none⟩ u k (fun e => hne (congrArg some e))).trans (h.block k hk hne)⟩
end Go.Proofs.YtpcdgljcpacpiaaGreatDoor
namespace Go.Proofs.YtpcdgljcpacpiaaGreatDoor
open Go.RowKit
attribute [local go_sem ↓] Go.wp_at_zero Go.wp_at_succ
def bysN (s : ByteArray) : List Nat := s.data.toList.map UInt8.toNat
theorem bysN_len (s : ByteArray) : (bysN s).length = s.size := by simp [bysN]
theorem bysN_lt (s : ByteArray) : ∀ b ∈ bysN s, b < 256 := by
  intro b hb
  simp only [bysN, List.mem_map] at hb
  obtain ⟨u, _, rfl⟩ := hb
  exact u.toNat_lt
theorem bysN_extract (s : ByteArray) (i j : Nat) : bysN (s.extract i j) = ((bysN s).take j).drop i := by
  simp only [bysN, ByteArray.data_extract, Array.toList_extract, List.extract_eq_take_drop, List.map_take, List.map_drop, List.drop_take]
def blks (K Bg : List Int) (M : List Nat) : Nat → List Int
  | 0 => Bg
  | n + 1 => comp K (blks K Bg M n) ((M.drop (64 * n)).take 64)
end Go.Proofs.YtpcdgljcpacpiaaGreatDoor
namespace Go.Proofs.YtpcdgljcpacpiaaGreatDoor
open Go.RowKit
attribute [local go_sem ↓] Go.wp_at_zero Go.wp_at_succ
/-- The tables, as the program's text lays them. -/
def BG : List Int := [1779033703, 3144134277, 1013904242, 2773480762, 1359893119, 2600822924, 528734635, 1541459225]
def KK : List Int := [1116352408, 1899447441, 3049323471, 3921009573, 961987163, 1508970993, 2453635748, 2870763221, 3624381080, 310598401, 607225278, 1426881987, 1925078388, 2162078206, 2614888103, 3248222580, 3835390401, 4022224774, 264347078, 604807628, 770255983, 1249150122, 1555081692, 1996064986, 2554220882, 2821834349, 2952996808, 3210313671, 3336571891, 3584528711, 113926993, 338241895, 666307205, 773529912, 1294757372, 1396182291, 1695183700, 1986661051, 2177026350, 2456956037, 2730485921, 2820302411, 3259730800, 3345764771, 3516065817, 3600352804, 4094571909, 275423344, 430227734, 506948616, 659060556, 883997877, 958139571, 1322822218, 1537002063, 1747873779, 1955562222, 2024104815, 2227730452, 2361852424, 2428436474, 2756734187, 3204031479, 3329325298]
theorem setCells_blk {g : Nat} {t : TypeId} : ∀ (vs : List Value) (w : World) (cur : Array Value) (o : Nat), Blk w g t cur → o + vs.length ≤ cur.size →
    Blk (w.setCells g o vs) g t (cur.toList.take o ++ vs ++ cur.toList.drop (o + vs.length)).toArray
  | [], w, cur, o, h, _ => by
    simp only [List.append_nil, List.length_nil, Nat.add_zero, List.take_append_drop, Array.toArray_toList]
    exact h
  | v :: vs, w, cur, o, h, hl => by
    have ih := setCells_blk vs (w.setCell ⟨g, o, none⟩ v) (cur.setIfInBounds o v) (o + 1) (h.set_ o v) (by simp at hl ⊢; omega)
    have e := list_seg_step cur.toList o v vs (by simp at hl ⊢; omega)
    rw [Array.toList_setIfInBounds] at ih
    show Blk ((w.setCell ⟨g, o, none⟩ v).setCells g (o + 1) vs) g t _
    rw [List.length_cons, ← e]
    exact ih
theorem setCells_all {g : Nat} {t : TypeId} {w : World} {cur : Array Value} (h : Blk w g t cur) (vs : List Value) (hl : vs.length = cur.size) : Blk (w.setCells g 0 vs) g t vs.toArray := by
  have h1 := setCells_blk vs w cur 0 h (by omega)
  rw [List.take_zero, List.nil_append, Nat.zero_add, List.drop_of_length_le (by rw [Array.length_toList]; omega), List.append_nil] at h1
  exact h1
end Go.Proofs.YtpcdgljcpacpiaaGreatDoor
namespace Go.Proofs.YtpcdgljcpacpiaaGreatDoor
open Go.RowKit
attribute [local go_sem ↓] Go.wp_at_zero Go.wp_at_succ
def len8 (n : Nat) : List Nat := (List.range 8).map fun j => n / 256 ^ (7 - j) % 256
def pad (M : List Nat) : List Nat := M ++ (128 :: List.replicate ((119 - M.length % 64) % 64) 0 ++ len8 (8 * M.length))
def bytesOf (X : List Int) : List Nat := (List.range 32).map fun i => (X.getD (i / 4) 0 / 2 ^ (24 - 8 * (i % 4)) % 256).toNat
def sha (M : List Nat) : List Nat := bytesOf (blks KK BG (pad M) ((pad M).length / 64))
def lenP (n k : Nat) : List Nat := (List.range 8).map fun j => if 8 ≤ j + k then n / 256 ^ (7 - j) % 256 else 0
theorem U8s_at {l : List Nat} {i : Nat} (h : i < l.length) : (U8s l).toArray[i]? = some (.int .u8 ((l.getD i 0 : Nat) : Int)) := by
  simp [U8s, List.getD_eq_getElem?_getD, h]
theorem Blk.grown {w w' : World} {g g' : Nat} {t : TypeId} {cs : Array Value} (h : Blk w g t cs) (hb : w.grownBy w' (some g')) (hne : g' ≠ g) : Blk w' g t cs := (hb.block g h.lt (fun e => hne (Option.some.inj e).symm)).trans h
theorem bysN_append (a b : ByteArray) : bysN (a ++ b) = bysN a ++ bysN b := by
  simp [bysN, ByteArray.data_append]
end Go.Proofs.YtpcdgljcpacpiaaGreatDoor
namespace Go.Proofs.YtpcdgljcpacpiaaGreatDoor
open Go.RowKit
attribute [local go_sem ↓] Go.wp_at_zero Go.wp_at_succ
end Go.Proofs.YtpcdgljcpacpiaaGreatDoor
namespace Go.Proofs.YtpcdgljcpacpiaaGreatDoor
open Go.RowKit
attribute [local go_sem ↓] Go.wp_at_zero Go.wp_at_succ
def byt (L : List Nat) : ByteArray := ⟨(L.map UInt8.ofNat).toArray⟩
def IsH (L : List Nat) : Prop := L.length = 32 ∧ ∀ b ∈ L, b < 256
theorem bysN_byt {L : List Nat} (h : ∀ b ∈ L, b < 256) : bysN (byt L) = L := by
  simp only [bysN, byt, List.map_map]
  refine (List.map_congr_left fun b hb => ?_).trans (List.map_id L)
  show (UInt8.ofNat b).toNat = b
  rw [UInt8.toNat_ofNat']
  exact Nat.mod_eq_of_lt (h b hb)
theorem byt_size (L : List Nat) : (byt L).size = L.length := by simp [byt, ByteArray.size]
theorem range_on {w w' : World} {g o : Nat} {cs : List Value} (h : w.rangeAt g o cs) (hb : Below w.heap.size w w') : w'.rangeAt g o cs := fun j v hj => BW_cell hb (h j v hj)
end Go.Proofs.YtpcdgljcpacpiaaGreatDoor
namespace Go.Proofs.YtpcdgljcpacpiaaGreatDoor
open Go.RowKit
attribute [local go_sem ↓] Go.wp_at_zero Go.wp_at_succ
/-- A row of texts. -/
def Strs (w : World) (v : Value) (L : List ByteArray) : Prop := ∃ p cap, v = .slice p L.length cap ∧ (0 < L.length → ∃ g off, p = some ⟨g, off, none⟩ ∧ ∀ i (hi : i < L.length), w.cell? ⟨g, off + i, none⟩ = some (.string L[i]))
theorem Strs.on {w w' : World} {v : Value} {L : List ByteArray} (h : Strs w v L) (hb : Below w.heap.size w w') : Strs w' v L := by
  obtain ⟨p, cap, rfl, hf⟩ := h
  exact ⟨p, cap, rfl, fun h0 => by obtain ⟨g, off, rfl, hc⟩ := hf h0; exact ⟨g, off, rfl, fun i hi => BW_cell hb (hc i hi)⟩⟩
end Go.Proofs.YtpcdgljcpacpiaaGreatDoor
namespace Go.Proofs.YtpcdgljcpacpiaaGreatDoor
open Go.RowKit
attribute [local go_sem ↓] Go.wp_at_zero Go.wp_at_succ
end Go.Proofs.YtpcdgljcpacpiaaGreatDoor
namespace Go.Proofs.YtpcdgljcpacpiaaGreatDoor
open Go.RowKit
attribute [local go_sem ↓] Go.wp_at_zero Go.wp_at_succ
def shN (s : ByteArray) (n : Nat) : ByteArray := if n < s.size then s.extract 0 n else s
theorem shN_size (s : ByteArray) (n : Nat) : (shN s n).size ≤ n := by
  unfold shN
  split
  · simp; omega
  · omega
end Go.Proofs.YtpcdgljcpacpiaaGreatDoor
namespace Go.Proofs.YtpcdgljcpacpiaaGreatDoor
open Go.RowKit
attribute [local go_sem ↓] Go.wp_at_zero Go.wp_at_succ
def RH (w : World) (b : Nat) (L : List Nat) : Prop := IsH L ∧ w.rangeAt b 0 (U8s L)
theorem RH.on {w w' : World} {b : Nat} {L : List Nat} (h : RH w b L) (hb : Below w.heap.size w w') : RH w' b L := ⟨h.1, range_on h.2 hb⟩
end Go.Proofs.YtpcdgljcpacpiaaGreatDoor
namespace Go.Proofs.YtpcdgljcpacpiaaGreatDoor
open Go.RowKit
section
variable {P : Program} {ops : Array Oper} {S : World → Prop} {op : Oper} {a : Act}
theorem yk_move (hw : Region.wanted op (yielded ops a.tmps) = true) (x : Operand) (ho : op.op = .move x) (v : Value) (hx : a.eval x = v) : YieldsIf P ops S op v a :=
  .inl ⟨hw, fun w _ => by
    unfold execOp
    simp only [ho, hx, Sem.run_pure]⟩
theorem yk_assign (hw : Region.wanted op (yielded ops a.tmps) = true) (x : Operand) (ho : op.op = .assign x) (v : Value) (hx : a.eval x = v) : YieldsIf P ops S op v a :=
  .inl ⟨hw, fun w _ => by
    unfold execOp
    simp only [ho, hx, Sem.run_pure]⟩
theorem yk_pick (hw : Region.wanted op (yielded ops a.tmps) = true) (c x y : Operand) (ho : op.op = .pick c x y) (b : Bool) (hc : a.eval c = .bool b) (v : Value) (hv : (if b = true then a.eval x else a.eval y) = v) : YieldsIf P ops S op v a :=
  .inl ⟨hw, fun w _ => by
    unfold execOp
    simp only [ho, hc, asBool, Sem.run_bind, Sem.run_pure, Result.andThen_ok, hv]⟩
theorem yk_bin (hw : Region.wanted op (yielded ops a.tmps) = true) (b : BinOp) (xt : TypeId) (x y : Operand) (yt : TypeId) (ho : op.op = .binOp b xt x y yt)
    (X Y : Value) (hx : a.eval x = X) (hy : a.eval y = Y) (v : Value)
    (hr : ∀ w, S w → (do eqGuard b xt x y X Y; binOp b xt X Y : Sem Value).run P w = .ok v w) : YieldsIf P ops S op v a :=
  .inl ⟨hw, fun w hS => by
    have h := hr w hS
    unfold execOp
    simp only [ho, hx, hy]
    rw [Sem.run_bind, h]
    rfl⟩
theorem yk_un (hw : Region.wanted op (yielded ops a.tmps) = true) (u : UnOp) (t : TypeId) (x : Operand) (ho : op.op = .unOp u t x) (X : Value) (hx : a.eval x = X) (v : Value)
    (hr : ∀ w, S w → (Op.unary u X).run P w = .ok v w) : YieldsIf P ops S op v a :=
  .inl ⟨hw, fun w hS => by
    have h := hr w hS
    unfold execOp
    simp only [ho, hx]
    rw [Sem.run_bind, h]
    rfl⟩
theorem yk_load (hw : Region.wanted op (yielded ops a.tmps) = true) (t : TypeId) (x : Operand) (ho : op.op = .load t x) (X : Value) (hx : a.eval x = X) (v : Value)
    (hr : ∀ w, S w → (Instr.loadAt t X).run P w = .ok v w) : YieldsIf P ops S op v a :=
  .inl ⟨hw, fun w hS => by
    have h := hr w hS
    unfold execOp
    simp only [ho, hx]
    rw [Sem.run_bind, h]
    rfl⟩
end
end Go.Proofs.YtpcdgljcpacpiaaGreatDoor
namespace Go.Proofs.YtpcdgljcpacpiaaGreatDoor
open Go.RowKit
attribute [local go_sem ↓] Go.wp_at_zero Go.wp_at_succ
theorem infoU8 : (Tryz.prog.info? 5).map (fun i => (i.zero, i.size, i.bytes)) = some (some (.int .u8 0), 1, 1) := by kernel_rfl
theorem RH.lt {w : World} {b : Nat} {L : List Nat} (h : RH w b L) : b < w.heap.size := by
  have h0 := h.2 0 (.int .u8 ((L.getD 0 0 : Nat) : Int)) (by
    have := U8s_at (l := L) (i := 0) (by rw [h.1.1]; decide)
    simpa using this)
  exact World.block_lt_of_cell? _ _ h0
theorem RH.grown {w w' : World} {b g : Nat} {L : List Nat} (h : RH w b L) (hb : w.grownBy w' (some g)) (hne : g ≠ b) : RH w' b L := by
  refine ⟨h.1, fun j v hj => ?_⟩
  have h2 := h.2 j v hj
  have hblk := hb.block b h.lt (fun e => hne (Option.some.inj e).symm)
  unfold World.cell? at h2 ⊢
  simp only [hblk]
  exact h2
end Go.Proofs.YtpcdgljcpacpiaaGreatDoor
namespace Go.Proofs.YtpcdgljcpacpiaaGreatDoor
open Go.RowKit
def bv (x : Int) : BitVec 32 := BitVec.ofInt 32 x
end Go.Proofs.YtpcdgljcpacpiaaGreatDoor
namespace Go.Proofs.YtpcdgljcpacpiaaGreatDoor
open Go.RowKit
attribute [local go_sem ↓] Go.wp_at_zero Go.wp_at_succ
/-- The sixty-four words, so far. -/
def wx (B : List Nat) (k : Nat) : List Int := if k ≤ 16 then words B k ++ List.replicate (64 - k) 0 else ext (words B 16) (k - 16) ++ List.replicate (64 - k) 0
end Go.Proofs.YtpcdgljcpacpiaaGreatDoor
namespace Go.Proofs.YtpcdgljcpacpiaaGreatDoor
open Go.RowKit
def ownB (w : World) (base : Nat) (e : TypeId) (v : Value) (n : Nat) (xs : List Value) : Prop :=
  xs.length = n ∧ ∃ g cap cur fz, v = .slice (some ⟨g, 0, none⟩) n cap ∧ base ≤ g ∧ w.heap[g]? = some (.cells cur e fz) ∧ (fz.2 = 0 ∨ cap ≤ fz.1) ∧ n ≤ cap ∧ cap ≤ maxLen ∧ cur.size = cap ∧ cur.toList.take n = xs
theorem ownB.kept {w w' : World} {base : Nat} {e : TypeId} {v : Value} {n : Nat} {xs : List Value} (h : ownB w base e v n xs) (hb : Below w.heap.size w w') : ownB w' base e v n xs := by
  obtain ⟨h1, g, cap, cur, fz, rfl, h2, h3, h4⟩ := h
  refine ⟨h1, g, cap, cur, fz, rfl, h2, ?_, h4⟩
  have hlt : g < w.heap.size := by
    rcases Nat.lt_or_ge g w.heap.size with h' | h'
    · exact h'
    · simp [Array.getElem?_eq_none h'] at h3
  rw [hb.block g hlt, h3]
theorem ownB.drew {w : World} {base : Nat} {e : TypeId} {v : Value} {n : Nat} {xs : List Value} (h : ownB w base e v n xs) : ownB w.drew base e v n xs := h
theorem ownB.cells {w : World} {base : Nat} {e : TypeId} {g n cap : Nat} {xs : List Value} (h : ownB w base e (.slice (some ⟨g, 0, none⟩) n cap) n xs) : ∀ j u, xs[j]? = some u → w.cell? ⟨g, j, none⟩ = some u := by
  obtain ⟨h1, g', cap', cur, fz, hv, h2, h3, h4, h5, h6, h7, h8⟩ := h
  simp only [Value.slice.injEq, Option.some.injEq, Addr.mk.injEq, and_true, true_and] at hv
  obtain ⟨rfl, rfl⟩ := hv
  intro j u hu
  have hj : j < n := by have := (List.getElem?_eq_some_iff.1 hu).1; omega
  rw [cell_of_row w g j cur e fz h3]
  rw [← h8, List.getElem?_take, if_pos hj] at hu
  simpa using hu
theorem ownB.form {w : World} {base : Nat} {e : TypeId} {v : Value} {n : Nat} {xs : List Value} (h : ownB w base e v n xs) : ∃ g cap, v = .slice (some ⟨g, 0, none⟩) n cap ∧ base ≤ g ∧ g < w.heap.size ∧ n ≤ cap ∧ cap ≤ maxLen ∧ ∀ j u, xs[j]? = some u → w.cell? ⟨g, j, none⟩ = some u := by
  have hc := h
  obtain ⟨h1, g, cap, cur, fz, rfl, h2, h3, h4, h5, h6, h7, h8⟩ := h
  refine ⟨g, cap, rfl, h2, ?_, h5, h6, hc.cells⟩
  rcases Nat.lt_or_ge g w.heap.size with h' | h'
  · exact h'
  · simp [Array.getElem?_eq_none h'] at h3
theorem run_storeCells_atB (P : Program) (g o : Nat) (t : TypeId) (fz : Nat × Nat) : ∀ (vs : List Value) (i : Nat) (cur : Array Value) (w : World), w.heap[g]? = some (.cells cur t fz) → (fz.2 = 0 ∨ cur.size ≤ fz.1) → o + i + vs.length ≤ cur.size → (∀ v ∈ vs, v.oneCell' = true) →
    (storeCells ⟨g, o, none⟩ vs i).run P w = .ok () (w.setRow g (cur.toList.take (o + i) ++ vs ++ cur.toList.drop (o + i + vs.length)).toArray)
  | [], i, cur, w, hg, _, _, _ => by
    simp only [storeCells, List.append_nil, List.length_nil, Nat.add_zero, List.take_append_drop, Array.toArray_toList]
    rw [setRow_self w g cur t fz hg]
    rfl
  | v :: rest, i, cur, w, hg, hfz, hl, h1 => by
    have hi : o + i < cur.size := by simp at hl; omega
    have hadd : (⟨g, o, none⟩ : Addr).add i = ⟨g, o + i, none⟩ := by unfold Addr.add; split <;> simp_all
    have hcell : w.cell? ⟨g, o + i, none⟩ = some cur[o + i] := by simp [World.cell?, hg, hi]
    have hfro : w.frozen? ⟨g, o + i, none⟩ = false := by
      obtain ⟨lo, hi'⟩ := fz
      simp only [World.frozen?, hg, Bool.and_eq_false_iff, decide_eq_false_iff_not]
      simp only at hfz
      omega
    have hst : (store ((⟨g, o, none⟩ : Addr).add i) v).run P w = .ok () (w.setRow g (cur.setIfInBounds (o + i) v)) := by
      rw [hadd, run_store P w _ v _ (h1 v (by simp)), hcell]
      simp [hfro, setCell_eq_setRow w g (o + i) cur t fz v hg]
    have ih := run_storeCells_atB P g o t fz rest (i + 1) (cur.setIfInBounds (o + i) v) (w.setRow g (cur.setIfInBounds (o + i) v)) (setRow_heap w g cur _ t _ hg) (by simpa using hfz) (by simp at hl ⊢; omega) (fun x hx => h1 x (by simp [hx]))
    simp only [storeCells, Sem.run_bind, hst, Result.andThen_ok, ih, setRow_setRow]
    congr 3
    have e := list_seg_step cur.toList (o + i) v rest (by simp at hl ⊢; omega)
    simpa [Array.toList_setIfInBounds, Nat.add_assoc] using e
theorem run_append_ownB' {P : Program} (w : World) (base : Nat) (t ty e : TypeId) (i : TypeInfo) (z : Value) (bytes : Nat) (ht : P.underlying t = some (.slice e)) (hi : P.info? e = some i) (hz : i.zero = some z)
    (hsize : i.size = 1) (hby : i.bytes = bytes) (hzs : z.cells.size = 1)
    (v : Value) (n : Nat) (xs : List Value) (hown : ownB w base e v n xs)
    (a : Addr) (m c : Nat) (news : List Value) (hl : news.length = m) (hnews : ∀ j u, news[j]? = some u → w.cell? (a.add j) = some u) (h1 : ∀ u ∈ news, u.oneCell' = true)
    (h63 : n + m ≤ maxLen) (hbytes : (n + m) * bytes ≤ 140737488355328) (hbase : base ≤ w.heap.size) :
    ∃ v' w', (Builtin.append_ #[t, t] ty #[v, .slice (some a) m c]).run P w = .ok v' w' ∧ ownB w' base e v' (n + m) (xs ++ news) ∧ w.grownBy w' v.ownBlock ∧ (v'.ownBlock = v.ownBlock ∨ ∃ g, v'.ownBlock = some g ∧ w.heap.size ≤ g) := by
  have hown' := hown
  obtain ⟨h0, g, cap, cur, fz, rfl, hbg, hg, hfz, hnc, hcm, hcs, htake⟩ := hown
  subst hby
  have hsmall : n + m ≤ 9223372036854775807 := by simp only [maxLen] at h63; omega
  have hlen : (xs ++ news).length = n + m := by rw [List.length_append, h0, hl]
  by_cases hroom : n + m ≤ cap
  · have hf := run_firstCells_some (P := P) w i.size m a m c news (by rw [hsize, hl, Nat.mul_one]) hnews
    have hst := run_storeCells_atB P g (n * i.size) e fz news 0 cur w hg (by rw [hcs]; exact hfz) (by rw [hsize]; omega) h1
    simp only [Nat.add_zero] at hst
    refine ⟨.slice (some ⟨g, 0, none⟩) (n + m) cap, w.setRow g (cur.toList.take (n * i.size) ++ news ++ cur.toList.drop (n * i.size + news.length)).toArray, ?_, ⟨hlen, g, cap, _, fz, rfl, hbg, setRow_heap w g cur _ e _ hg, hfz, hroom, hcm, ?_, ?_⟩, ⟨rfl, rfl, rfl, by simp, fun k _ hk => setRow_other w g k _ (fun e => hk (by simp [Value.ownBlock, e]))⟩, .inl rfl⟩
    · simp [Builtin.append_, run_underlying ht, sizeOf, typeInfo, hi, Builtin.lenOf, hroom, hf, Addr.add_lit, hst]
    · rw [hsize]
      simp only [List.size_toArray, List.length_append, List.length_take, List.length_drop, Array.length_toList]
      omega
    · rw [hsize, Nat.mul_one, htake, ← hlen]
      exact List.take_left
  · have hr := run_append_grow (P := P) w t ty e i z ht hi hz ⟨g, 0, none⟩ n cap xs (by rw [hsize]; omega) (fun j u hu => by rw [addr_add, Nat.zero_add]; exact hown'.cells j u hu) a m c news (by rw [hsize, hl, Nat.mul_one]) hnews (by omega) (by omega) (growslice_fits (by omega) hbytes)
    have hge := grownCap_ge w (n + m) cap e
    have hcm2 : grownCap w (n + m) cap e ≤ maxLen := grownCap_le_maxLen w (n + m) cap e h63
    refine ⟨_, _, hr, ⟨hlen, w.heap.size, _, _, (0, 0), rfl, hbase, heap_alloc_new w.drew _, .inl rfl, hge, hcm2, ?_, ?_⟩, ⟨rfl, rfl, rfl, by simp, fun k hk _ => Go.heap_alloc_old w.drew _ hk⟩, .inr ⟨_, rfl, Nat.le_refl _⟩⟩
    · simp only [Array.size_append, List.size_toArray, size_zeroCells, hzs, h0, hl]
      omega
    · simp only [Array.toList_append, List.append_assoc]
      rw [← List.append_assoc, ← hlen]
      exact List.take_left
end Go.Proofs.YtpcdgljcpacpiaaGreatDoor
namespace Go.Proofs.YtpcdgljcpacpiaaGreatDoor
open Go.RowKit
attribute [local go_sem ↓] Go.wp_at_zero Go.wp_at_succ
end Go.Proofs.YtpcdgljcpacpiaaGreatDoor
namespace Go.Proofs.YtpcdgljcpacpiaaGreatDoor
open Go.RowKit
attribute [local go_sem ↓] Go.wp_at_zero Go.wp_at_succ
def zs (M : List Nat) (j : Nat) : List Nat := M ++ 128 :: List.replicate j 0
end Go.Proofs.YtpcdgljcpacpiaaGreatDoor
namespace Go.Proofs.YtpcdgljcpacpiaaGreatDoor
open Go.RowKit
attribute [local go_sem ↓] Go.wp_at_zero Go.wp_at_succ
end Go.Proofs.YtpcdgljcpacpiaaGreatDoor
namespace Go.Proofs.YtpcdgljcpacpiaaGreatDoor
open Go.RowKit
def own2 (w : World) (base : Nat) (e : TypeId) (v : Value) (n : Nat) (xs : List Value) : Prop := (v = .slice none 0 0 ∧ n = 0 ∧ xs = []) ∨ ownB w base e v n xs
theorem own2.nil (w : World) (base : Nat) (e : TypeId) : own2 w base e (.slice none 0 0) 0 [] := .inl ⟨rfl, rfl, rfl⟩
theorem ownB.block {w : World} {base : Nat} {e : TypeId} {v : Value} {n : Nat} {xs : List Value} (h : ownB w base e v n xs) : ∃ g, v.ownBlock = some g ∧ base ≤ g ∧ g < w.heap.size := by
  obtain ⟨g, cap, rfl, h1, h2, _⟩ := h.form
  exact ⟨g, rfl, h1, h2⟩
theorem ownB.grown {w w' : World} {base : Nat} {e : TypeId} {v : Value} {n : Nat} {xs : List Value} {r : Option Nat} (h : ownB w base e v n xs) (hg : w.grownBy w' r) (hne : r ≠ v.ownBlock) : ownB w' base e v n xs := by
  obtain ⟨g0, hb0, _, hlt⟩ := h.block
  obtain ⟨h1, g, cap, cur, fz, rfl, h2, h3, h4⟩ := h
  simp only [Value.ownBlock, Option.some.injEq] at hb0
  subst hb0
  exact ⟨h1, g, cap, cur, fz, rfl, h2, by rw [hg.block g hlt (by intro e; exact hne (by rw [← e]; rfl)), h3], h4⟩
theorem own2.grown {w w' : World} {base : Nat} {e : TypeId} {v : Value} {n : Nat} {xs : List Value} {r : Option Nat} (h : own2 w base e v n xs) (hg : w.grownBy w' r) (hne : r = none ∨ r ≠ v.ownBlock) : own2 w' base e v n xs := by
  rcases h with h | h
  · exact .inl h
  · refine .inr (h.grown hg ?_)
    rcases hne with hr | hr
    · obtain ⟨g, hb, _⟩ := h.block
      rw [hr, hb]; simp
    · exact hr
theorem own2.form {w : World} {base : Nat} {e : TypeId} {v : Value} {n : Nat} {xs : List Value} (h : own2 w base e v n xs) (hn : 0 < n) : ownB w base e v n xs := by
  rcases h with ⟨_, h, _⟩ | h
  · omega
  · exact h
theorem wpList_push2 {P : Program} {ops : Array Oper} {rest : List Oper} {o : Oper} {a : Act} {Q : Exit → Act → World → Prop} {w : World} (hgd : o.guard = none) (s x : Operand) (t : TypeId)
    (ho : o.op = .call { callee := .builtin .append, args := #[s, x], argTypes := #[t, t] })
    (base : Nat) (e : TypeId) (i : TypeInfo) (z : Value) (bytes : Nat) (ht : P.underlying t = some (.slice e)) (hi : P.info? e = some i) (hz : i.zero = some z)
    (hsize : i.size = 1) (hby : i.bytes = bytes) (hzs : z.cells.size = 1)
    (v : Value) (n : Nat) (xs : List Value) (hs : a.eval s = v) (hown : own2 w base e v n xs)
    (u : Value) (b : Nat) (hx : a.eval x = .slice (some ⟨b, 0, none⟩) 1 1) (hb : b = w.heap.size) (h1 : u.oneCell' = true)
    (h63 : n + 1 ≤ maxLen) (hbytes : (n + 1) * bytes ≤ 140737488355328) (hbase : base ≤ w.heap.size)
    (h : ∀ v' w', own2 w' base e v' (n + 1) (xs ++ [u]) → w.grownBy w' v.ownBlock → (v'.ownBlock = v.ownBlock ∨ ∃ g, v'.ownBlock = some g ∧ w.heap.size ≤ g) → wpList P ops Q rest (a.put o.dst v') w') :
    wpList P ops Q (o :: rest) a (w.alloc (.cells #[u] e)) := by
  subst hb
  refine wpList_plain hgd fun K hK => ?_
  have hnews : ∀ j u', ([u] : List Value)[j]? = some u' → (w.alloc (.cells #[u] e)).cell? ((⟨w.heap.size, 0, none⟩ : Addr).add j) = some u' := fun j u' hu => by
    have e1 : (⟨w.heap.size, 0, none⟩ : Addr).add j = ⟨w.heap.size, j, none⟩ := by unfold Addr.add; split <;> simp_all
    rw [e1, World.cell?_alloc_mark]
    simpa using hu
  have hone : ∀ u' ∈ [u], u'.oneCell' = true := fun u' hu => by simp at hu; rw [hu]; exact h1
  have hga : w.grownBy (w.alloc (.cells #[u] e)) v.ownBlock := World.grownBy_alloc w _ _
  have key : ∃ v' w', (Builtin.append_ #[t, t] o.type #[v, .slice (some ⟨w.heap.size, 0, none⟩) 1 1]).run P (w.alloc (.cells #[u] e)) = .ok v' w' ∧ own2 w' base e v' (n + 1) (xs ++ [u]) ∧ (w.alloc (.cells #[u] e)).grownBy w' v.ownBlock ∧ (v'.ownBlock = v.ownBlock ∨ ∃ g, v'.ownBlock = some g ∧ w.heap.size ≤ g) := by
    rcases hown with ⟨rfl, rfl, rfl⟩ | hown
    · obtain ⟨v', w', r1, r2, r3, _⟩ := run_append_own (P := P) (w.alloc (.cells #[u] e)) w.heap.size t o.type e i z 1 bytes ht hi hz hsize hby hzs (by decide) (.slice none 0 0) 0 [] (World.ownsRow_nil _ _ _ _) ⟨w.heap.size, 0, none⟩ 1 1 [u] rfl hnews hone h63 hbytes (by simp)
      rcases r2.2 with ⟨_, hbad⟩ | ⟨g, cap, cur, rfl, hg, hh, q1, q2, q3, q4⟩
      · cases hbad
      · refine ⟨_, w', r1, .inr ⟨by simp, g, cap, cur, (0, 0), rfl, Nat.le_trans hbase hg, hh, .inl rfl, q1, q2, by rw [q3, Nat.mul_one], by rw [← q4, Nat.mul_one]⟩, r3, .inr ⟨g, rfl, hg⟩⟩
    · have hown1 := hown.kept (BW_alloc (Below.refl _ _) (.cells #[u] e))
      obtain ⟨v', w', hr, h2, h3, h4⟩ := run_append_ownB' (P := P) (w.alloc (.cells #[u] e)) base t o.type e i z bytes ht hi hz hsize hby hzs v n xs hown1 ⟨w.heap.size, 0, none⟩ 1 1 [u] rfl hnews hone h63 hbytes (by simp; omega)
      refine ⟨v', w', hr, .inr h2, h3, ?_⟩
      rcases h4 with h4 | ⟨g, h4, h5⟩
      · exact .inl h4
      · exact .inr ⟨g, h4, by simp at h5; omega⟩
  obtain ⟨v', w', hr, h2, h3, h4⟩ := key
  unfold Oper.wp execOp
  simp only [ho, resolve, invoke, builtin, Sem.run_bind, Sem.run_pure, Result.andThen_ok, List.map_toArray, List.map_cons, List.map_nil, hs, hx, hr]
  exact hK _ _ (h v' w' h2 ⟨h3.os.trans hga.os, h3.tape.trans hga.tape, h3.output.trans hga.output, Nat.le_trans hga.size h3.size, fun k hk hne => (h3.block k (Nat.lt_of_lt_of_le hk hga.size) hne).trans (hga.block k hk hne)⟩ h4)
end Go.Proofs.YtpcdgljcpacpiaaGreatDoor
namespace Go.Proofs.YtpcdgljcpacpiaaGreatDoor
open Go.RowKit
attribute [local go_sem ↓] Go.wp_at_zero Go.wp_at_succ
def Dj (a b : Value) : Prop := ∀ g, a.ownBlock = some g → b.ownBlock ≠ some g
theorem Dj.symm {a b : Value} (h : Dj a b) : Dj b a := fun g h1 h2 => h g h2 h1
theorem own2.old {w : World} {base g : Nat} {e : TypeId} {v : Value} {n : Nat} {xs : List Value} (h : own2 w base e v n xs) (hg : g < base) : v.ownBlock ≠ some g := by
  rcases h with ⟨rfl, _⟩ | h
  · simp [Value.ownBlock]
  · obtain ⟨g2, hb, hle, _⟩ := h.block
    rw [hb]
    intro e
    cases e
    omega
theorem own2.le {w : World} {base : Nat} {e : TypeId} {v : Value} {n : Nat} {xs : List Value} (h : own2 w base e v n xs) : ∀ k, v.ownBlock = some k → base ≤ k := by
  intro k hk
  rcases h with ⟨rfl, _⟩ | h
  · simp [Value.ownBlock] at hk
  · obtain ⟨g2, hb, hle, _⟩ := h.block
    rw [hb] at hk
    cases hk
    exact hle
/-- A byte, turned over by another. -/
def xo (b c : Nat) : Nat := (BitVec.ofInt 8 (c : Int) ^^^ BitVec.ofInt 8 (b : Int)).toNat
def kx (K : List Nat) : List Nat := if 64 < K.length then sha K else K
def kb (K : List Nat) : List Nat := kx K ++ List.replicate (64 - (kx K).length) 0
def xb (b : Nat) (B : List Nat) : List Nat := B.map (xo b)
theorem cat_big (a b : ByteArray) (h : a.size + b.size ≤ 4398046511104) : ∃ t : ByteArray, bysN t = bysN a ++ bysN b ∧ ∀ w, (Op.stringOp .add a b).run Tryz.prog w = .ok (.string t) w :=
  ⟨a ++ b, bysN_append a b, fun w => run_string_add_sum w a b (by omega)⟩
end Go.Proofs.YtpcdgljcpacpiaaGreatDoor
namespace Go.Proofs.YtpcdgljcpacpiaaGreatDoor
open Go.RowKit
attribute [local go_sem ↓] Go.wp_at_zero Go.wp_at_succ
/-- A fact that no tactic looks into. -/
structure Bx9 (p : Prop) : Prop where
  out : p
theorem infoST : (Tryz.prog.info? 9).map (fun i => (i.zero, i.size, i.bytes)) = some (some (.string ⟨#[]⟩), 1, 16) := by kernel_rfl
theorem own2_strs {w : World} {base n : Nat} {v : Value} {Ls : List ByteArray} (h : own2 w base 9 v n (Ls.map Value.string)) (hn : n = Ls.length) : Strs w v Ls := by
  subst hn
  rcases h with ⟨rfl, h0, h1⟩ | h
  · have : Ls = [] := by simpa using h1
    subst this
    exact ⟨none, 0, rfl, fun h => by simp at h⟩
  · obtain ⟨g, cap, rfl, _, _, _, _, hc⟩ := h.form
    refine ⟨_, cap, rfl, fun _ => ⟨g, 0, rfl, fun i hi => ?_⟩⟩
    rw [Nat.zero_add]
    exact hc i _ (by rw [List.getElem?_map, List.getElem?_eq_getElem hi]; rfl)
/-- The parts of a text, one having begun. -/
def pcut (cur : List Nat) : List Nat → List (List Nat)
  | [] => [cur]
  | c :: r => if c = 47 then cur :: pcut [] r else pcut (cur ++ [c]) r
def parts (l : List Nat) : List (List Nat) := pcut [] l
def okPart (l : List Nat) : Bool := l.all (fun c => decide (c ≠ 47)) && decide (1 ≤ l.length) && decide (l.length ≤ 32)
def okDen (l : List Nat) : Bool := (parts l).all okPart && decide ((parts l).length ≤ 5) && decide (l.length ≤ 200)
theorem str_get (s : ByteArray) (k : Nat) (h : k < s.size) : ∀ h2 : k < s.size, (s[k]'h2).toNat = (bysN s).getD k 0 := fun h2 => by
  have hk2 : k < s.data.toList.length := by simpa using h
  unfold bysN
  rw [List.getD_eq_getElem?_getD, List.getElem?_map, List.getElem?_eq_getElem hk2]
  rfl
set_option maxHeartbeats 4000000 in
set_option maxRecDepth 100000 in
theorem r12part_any (s : ByteArray) (w : World) (hs : s.size ≤ 1000000) : Calls Tryz.prog 56 #[.string s] w fun e w' => e = .returned (.bool (okPart (bysN s))) ∧ w = w' := by
  have hl := bysN_len s
  have hg := Lib.hid (str_get s)
  have hok : Hid (okPart (bysN s) = ((bysN s).all (fun c => decide (c ≠ 47)) && decide (1 ≤ (bysN s).length) && decide ((bysN s).length ≤ 32))) := Lib.hid rfl
  generalize bysN s = l at *
  go_enter Tryz.func56, Tryz.ntmps56
  go_wp2_with fail
  go_loopw [3] (fun i wi => ∃ k : Nat, k ≤ l.length ∧ i = .int .i64 (k : Int) ∧ Hid (∀ c ∈ l.take k, c ≠ 47) ∧ w = wi) (fun i _ => l.length - (intOf i).toNat)
  case atStart => exact ⟨0, by omega, rfl, Lib.hid (fun c hc => by simp at hc), rfl⟩
  case round =>
    obtain ⟨k, hk, rfl, hq, rfl⟩ := hrel
    by_cases hk0 : k < l.length
    · have hk1 : (k : Int) < (s.size : Int) := by omega
      have hw1 : wrap64 ((k : Int) + 1) = (k : Int) + 1 := by unfold wrap64; omega
      have hg2 := hg.out k (by omega)
      have ht : Hid (l.take (k + 1) = l.take k ++ [l.getD k 0]) := Lib.hid (by rw [List.take_succ_eq_append_getElem hk0, List.getD_eq_getElem?_getD, List.getElem?_eq_getElem hk0]; rfl)
      have hmem : l.getD k 0 ∈ l := by rw [List.getD_eq_getElem?_getD, List.getElem?_eq_getElem hk0]; exact List.getElem_mem _
      generalize l.getD k 0 = c at *
      by_cases hc : c = 47
      · subst hc
        have hf : Hid (okPart l = false) := Lib.hid (by
          rw [hok.out]
          have h1 : l.all (fun c => decide (c ≠ 47)) = false := by
            rw [List.all_eq_false]
            exact ⟨47, hmem, by decide⟩
          rw [h1]; rfl)
        go_wp2_with fail
        go_ret
        exact ⟨by rw [hf.out]; rfl, rfl⟩
      · have hci : ¬ (c : Int) = 47 := by omega
        go_wp2_with fail
        go_roundw
        case rel => exact ⟨k + 1, by omega, by go_num, Lib.hid (fun x hx => by
          rw [ht.out] at hx
          rcases List.mem_append.1 hx with h | h
          · exact hq.out x h
          · simp at h; rw [h]; exact hc), by trivial⟩
        case measure => simp [intOf]; omega
    · obtain rfl : k = l.length := by omega
      have hall : l.all (fun c => decide (c ≠ 47)) = true := by
        rw [List.all_eq_true]
        intro c hc
        exact decide_eq_true (hq.out c (by rw [List.take_length]; exact hc))
      have hf : Hid (okPart l = (decide (1 ≤ s.size) && decide (s.size ≤ 32))) := Lib.hid (by rw [hok.out, hall, hl]; rfl)
      clear hall hg hq
      have hk1 : ¬ (l.length : Int) < (s.size : Int) := by omega
      by_cases h1 : 1 ≤ s.size
      · have h1i : (1 : Int) ≤ (s.size : Int) := by omega
        by_cases h2 : s.size ≤ 32
        · have h2i : (s.size : Int) ≤ 32 := by omega
          go_wp2_with fail
          go_ret
          exact ⟨by rw [hf.out, decide_eq_true h1, decide_eq_true h2]; rfl, rfl⟩
        · have h2i : ¬ (s.size : Int) ≤ 32 := by omega
          go_wp2_with fail
          go_ret
          exact ⟨by rw [hf.out, decide_eq_true h1, decide_eq_false h2]; rfl, rfl⟩
      · have h1i : ¬ (1 : Int) ≤ (s.size : Int) := by omega
        go_wp2_with fail
        go_ret
        exact ⟨by rw [hf.out, decide_eq_false h1]; rfl, rfl⟩
theorem pcut_skip (l : List Nat) (cur : List Nat) (k : Nat) (h : k < l.length) : pcut cur (l.drop k) = if l.getD k 0 = 47 then cur :: pcut [] (l.drop (k + 1)) else pcut (cur ++ [l.getD k 0]) (l.drop (k + 1)) := by
  rw [List.drop_eq_getElem_cons h, List.getD_eq_getElem?_getD, List.getElem?_eq_getElem h]
  rfl
theorem sub_one (s : ByteArray) (k : Nat) (h : k < s.size) : bysN (s.extract k (k + 1)) = [(bysN s).getD k 0] := by
  have hl := bysN_len s
  rw [bysN_extract, List.take_succ_eq_append_getElem (by omega), List.drop_append_of_le_length (by rw [List.length_take]; omega), List.drop_of_length_le (by rw [List.length_take]; omega), List.getD_eq_getElem?_getD, List.getElem?_eq_getElem (by omega)]
  rfl
set_option maxHeartbeats 4000000 in
set_option maxRecDepth 100000 in
theorem r12parts_any (s : ByteArray) (w : World) (hs : s.size ≤ 1000000) :
    Calls Tryz.prog 75 #[.string s] w fun e w' => ∃ v Ls, e = .returned v ∧ Strs w' v Ls ∧ Ls.map bysN = parts (bysN s) ∧ (∀ x ∈ Ls, x.size ≤ s.size) ∧ Ls.length ≤ s.size + 1 ∧ Below w.heap.size w w' := by
  obtain ⟨i0, hi0, iz0, iz1, iz2⟩ := info_parts infoST
  have hl := bysN_len s
  have hg := Lib.hid (str_get s)
  have hsub := Lib.hid (sub_one s)
  have hpar : Hid (parts (bysN s) = pcut [] (bysN s)) := Lib.hid rfl
  generalize hln : bysN s = l at *
  have Hln := Bx9.mk hln
  clear hln
  go_enter Tryz.func75, Tryz.ntmps75
  go_wp2_with fail
  go_loopw [3, 4, 5] (fun v one i wi => ∃ (k : Nat) (Ls : List ByteArray) (T : ByteArray), k ≤ l.length ∧ i = .int .i64 (k : Int) ∧ one = .string T ∧ T.size ≤ k ∧ Ls.length ≤ k ∧ Hid (∀ x ∈ Ls, x.size ≤ k) ∧ Hid (pcut [] l = Ls.map bysN ++ pcut (bysN T) (l.drop k)) ∧ own2 wi w.heap.size 9 v Ls.length (Ls.map Value.string) ∧ Below w.heap.size w wi) (fun _ _ i _ => l.length - (intOf i).toNat)
  case atStart => exact ⟨0, [], ⟨#[]⟩, by omega, rfl, rfl, by decide, by decide, Lib.hid (fun x hx => by cases hx), Lib.hid rfl, own2.nil _ _ _, BW_refl w⟩
  case round =>
    obtain ⟨k, Ls, T, hk, rfl, rfl, hTk, hLk, hxs, hq, hown, hb⟩ := hrel
    have hbs := hb.size
    by_cases hk0 : k < l.length
    · have hk1 : (k : Int) < (s.size : Int) := by omega
      have hw1 : wrap64 ((k : Int) + 1) = (k : Int) + 1 := by unfold wrap64; omega
      have hg2 := hg.out k (by omega)
      have hsk := Lib.hid (hsub.out k (by omega))
      have hcut := Lib.hid (pcut_skip l (bysN T) k hk0)
      generalize l.getD k 0 = c at *
      by_cases hc : c = 47
      · subst hc
        go_wp2_with (at_builtin; go_must (refine @wpList_push2 Tryz.prog _ _ _ _ _ wr rfl _ _ 94 rfl w.heap.size 9 i0 (.string ⟨#[]⟩) 16 Tryz.underlying94 hi0 iz0 iz1 iz2 rfl u3 Ls.length (Ls.map Value.string) ?q1 hown (.string T) wr.heap.size ?q2 rfl rfl ?q3 ?q4 ?q5 ?_; (case q1 => rfl); (case q2 => rfl); (case q3 => unfold maxLen; omega); (case q4 => omega); (case q5 => omega)); intro a2 w6 ha2 hg6 hn2)
        have hb6 := hb.grown hg6 (by omega) (own2.le hown)
        go_roundw
        case rel => exact ⟨k + 1, Ls ++ [T], ⟨#[]⟩, by omega, by go_num, rfl, by show 0 ≤ _; omega, by rw [List.length_append]; simp; omega, Lib.hid (fun x hx => by
          rcases List.mem_append.1 hx with h | h
          · have := hxs.out x h; omega
          · simp at h; rw [h]; omega), Lib.hid (by rw [hq.out, hcut.out, if_pos rfl, List.map_append, List.append_assoc]; rfl), by rw [List.length_append, List.map_append]; exact ha2, hb6⟩
        case measure => simp [intOf]; omega
      · have hci : ¬ (c : Int) = 47 := by omega
        obtain ⟨T2, hT2, hadd'⟩ := cat_big T (s.extract k (k + 1)) (by rw [← bysN_len (s.extract k (k + 1)), hsk.out]; simp; omega)
        have hT2s : T2.size ≤ k + 1 := by rw [← bysN_len, hT2, List.length_append, hsk.out, bysN_len]; simp; omega
        have HT2 : Hid (bysN T2 = bysN T ++ [c]) := Lib.hid (by rw [hT2, hsk.out])
        clear hT2
        have hk2 : (k : Int) + 1 ≤ (s.size : Int) := by omega
        have hk3 : (k : Int) ≤ (k : Int) + 1 := by omega
        go_wp2_with fail
        go_roundw
        case rel => exact ⟨k + 1, Ls, T2, by omega, by go_num, rfl, hT2s, by omega, Lib.hid (fun x hx => Nat.le_succ_of_le (hxs.out x hx)), Lib.hid (by rw [hq.out, hcut.out, if_neg hc, HT2.out]), hown, hb⟩
        case measure => simp [intOf]; omega
    · obtain rfl : k = l.length := by omega
      have hk1 : ¬ (l.length : Int) < (s.size : Int) := by omega
      go_wp2_with (at_builtin; go_must (refine @wpList_push2 Tryz.prog _ _ _ _ _ wr rfl _ _ 94 rfl w.heap.size 9 i0 (.string ⟨#[]⟩) 16 Tryz.underlying94 hi0 iz0 iz1 iz2 rfl u3 Ls.length (Ls.map Value.string) ?q1 hown (.string T) wr.heap.size ?q2 rfl rfl ?q3 ?q4 ?q5 ?_; (case q1 => rfl); (case q2 => rfl); (case q3 => unfold maxLen; omega); (case q4 => omega); (case q5 => omega)); intro a2 w6 ha2 hg6 hn2)
      have hb6 := hb.grown hg6 (by omega) (own2.le hown)
      go_ret
      refine ⟨_, rfl, Ls ++ [T], own2_strs (base := w.heap.size) (n := Ls.length + 1) (by rw [List.map_append]; exact ha2) (by rw [List.length_append]; rfl), ?_, ?_, by rw [List.length_append]; simp; omega, hb6⟩
      · rw [hpar.out, hq.out, List.drop_length, List.map_append]
        rfl
      · intro x hx
        rcases List.mem_append.1 hx with h | h
        · have := hxs.out x h; omega
        · simp at h; rw [h]; omega
set_option maxHeartbeats 4000000 in
set_option maxRecDepth 100000 in
theorem r12check_any (s : ByteArray) (w : World) (hs : s.size ≤ 1000000) : Calls Tryz.prog 43 #[.string s] w fun e w' => e = .returned (.bool (okDen (bysN s))) ∧ Below w.heap.size w w' := by
  have hl := bysN_len s
  have hok : Hid (okDen (bysN s) = ((parts (bysN s)).all okPart && decide ((parts (bysN s)).length ≤ 5) && decide ((bysN s).length ≤ 200))) := Lib.hid rfl
  go_enter Tryz.func43, Tryz.ntmps43
  go_wp2_with fail
  refine (r12parts_any s _ hs).mono ?_
  rintro e w1 ⟨v, Ls, rfl, hst, hp, hxs, hLsn, hb⟩
  have hPl : (parts (bysN s)).length = Ls.length := by rw [← hp, List.length_map]
  have hpall : Hid (∀ k, k < Ls.length → ∃ x, Ls[k]? = some x ∧ (parts (bysN s))[k]? = some (bysN x)) := Lib.hid (fun k hk => ⟨Ls[k], List.getElem?_eq_getElem hk, by rw [← hp, List.getElem?_map, List.getElem?_eq_getElem hk]; rfl⟩)
  generalize parts (bysN s) = P at *
  generalize hln : bysN s = l at *
  have Hln := Bx9.mk hln
  clear hln
  obtain ⟨pv, cap, rfl, hf⟩ := hst
  have Hf := Lib.hid hf
  have hxs' := Lib.hid hxs
  clear hf hp hxs
  go_wp2_with fail
  go_loopw [4, 5] (fun i _ wi => ∃ k : Nat, k ≤ Ls.length ∧ i = .int .i64 (k : Int) ∧ Hid ((P.take k).all okPart = true) ∧ w1 = wi) (fun i _ _ => Ls.length - (intOf i).toNat)
  case atStart => exact ⟨0, by omega, rfl, Lib.hid rfl, rfl⟩
  case round =>
    obtain ⟨k, hk, rfl, hq, rfl⟩ := hrel
    by_cases hk0 : k < Ls.length
    · have hk1 : (k : Int) < (Ls.length : Int) := by omega
      have hw1 : wrap64 ((k : Int) + 1) = (k : Int) + 1 := by unfold wrap64; omega
      obtain ⟨g, off, rfl, hc⟩ := Hf.out (by omega)
      have hcell := hc k hk0
      have hx := hxs'.out Ls[k] (List.getElem_mem _)
      obtain ⟨x, hx1, hx2⟩ := hpall.out k hk0
      rw [List.getElem?_eq_getElem hk0] at hx1
      obtain rfl := Option.some.inj hx1
      have htk : Hid ((P.take (k + 1)).all okPart = ((P.take k).all okPart && okPart (bysN Ls[k]))) := Lib.hid (by
        have hkP : k < P.length := by omega
        rw [List.take_succ_eq_append_getElem hkP, List.all_append]
        rw [List.getElem?_eq_getElem hkP] at hx2
        rw [Option.some.inj hx2]
        simp)
      have hmem : bysN Ls[k] ∈ P := List.mem_of_getElem? hx2
      clear hc hx1 hx2
      generalize Ls[k] = x at *
      go_wp2_with fail
      refine (r12part_any x _ (by omega)).mono ?_
      rintro e w' ⟨rfl, rfl⟩
      cases hp : okPart (bysN x)
      · have hf : Hid (okDen l = false) := Lib.hid (by
          rw [hok.out]
          have h1 : P.all okPart = false := by
            rw [List.all_eq_false]
            exact ⟨_, hmem, by rw [hp]; decide⟩
          rw [h1]; rfl)
        go_wp2_with fail
        go_ret
        exact ⟨by rw [Hln.out, hf.out]; rfl, hb⟩
      · have hf : Hid ((P.take (k + 1)).all okPart = true) := Lib.hid (by rw [htk.out, hq.out, hp]; rfl)
        go_wp2_with fail
        go_roundw
        case rel => exact ⟨k + 1, by omega, by go_num, hf, by trivial⟩
        case measure => simp [intOf]; omega
    · obtain rfl : k = Ls.length := by omega
      have hall : P.all okPart = true := by
        have h9 := hq.out
        rwa [List.take_of_length_le (by omega)] at h9
      have hf : Hid (okDen l = (decide (Ls.length ≤ 5) && decide (s.size ≤ 200))) := Lib.hid (by rw [hok.out, hall, hPl, hl]; rfl)
      clear hall hq hok
      by_cases h1 : Ls.length ≤ 5
      · have h1i : (Ls.length : Int) ≤ 5 := by omega
        by_cases h2 : s.size ≤ 200
        · have h2i : (s.size : Int) ≤ 200 := by omega
          go_wp2_with fail
          go_ret
          exact ⟨by rw [Hln.out, hf.out, decide_eq_true h1, decide_eq_true h2]; rfl, hb⟩
        · have h2i : ¬ (s.size : Int) ≤ 200 := by omega
          go_wp2_with fail
          go_ret
          exact ⟨by rw [Hln.out, hf.out, decide_eq_true h1, decide_eq_false h2]; rfl, hb⟩
      · have h1i : ¬ (Ls.length : Int) ≤ 5 := by omega
        go_wp2_with fail
        go_ret
        exact ⟨by rw [Hln.out, hf.out, decide_eq_false h1]; rfl, hb⟩
end Go.Proofs.YtpcdgljcpacpiaaGreatDoor
namespace Go.Proofs.YtpcdgljcpacpiaaGreatDoor
open Go.RowKit
/-- What an iterator does that hands over texts (S: all of them; Sp: to where it was stopped), and writes nothing but the cell of block b0: from each world that C holds of. -/
def IterB {α : Type} (P : Program) (n : Nat) (g : FuncId) (lb : Array Value) (enc : α → Value) (Kp : World → World → Prop) (S Sp : List α → Prop) (b0 : Nat) (C : World → Prop) : Prop :=
  ∀ (l : Nat) (J Jx : List α → World → Prop) (W : World), C W → (∀ s W v, J s W → J s (W.setCell ⟨b0, 0, none⟩ v)) →
    (∀ pre x W1, J pre W1 → YieldAt Fence.wide (n - 1) P l #[enc x] W1 fun e W' => (e = .returned (.bool true) ∧ J (pre ++ [x]) W' ∧ Kp W1 W') ∨ (e = .returned (.bool false) ∧ Jx (pre ++ [x]) W')) →
    J [] W →
    CallsIn Fence.wide n P g (#[.func (.yield l) #[] #[]] ++ lb) W fun e W' => (∃ v, e = .returned v) ∧ ((∃ xs, S xs ∧ J xs W') ∨ (∃ pre, Sp pre ∧ Jx pre W'))
/-- How a round is left: on, or out by the one jump 'exit id'. -/
def postB {α : Type} (l d : Nat) (Kp : World → World → Prop) (I Ix : List α → World → Prop) (id : Nat) (xs : List α) (W : World) : Exit → Act → World → Prop
  | .normal, _, W' => W'.heap[l]? = W.heap[l]? ∧ W'.heap[d]? = W.heap[d]? ∧ Kp W W' ∧ I xs W'
  | .exit i, _, W' => i = id ∧ W'.heap[l]? = W.heap[l]? ∧ W'.heap[d]? = W.heap[d]? ∧ Ix xs W'
  | _, _, _ => False
theorem below_putObj (B : Nat) (W : World) (l : Nat) (o : Obj) (h : B ≤ l) : Below B W (W.putObj l o) :=
  ⟨rfl, rfl, rfl, by rw [World.putObj_size]; exact Nat.le_refl _, fun k hk => World.putObj_heap_other (by omega)⟩
theorem setCell_heap (W : World) (b0 k : Nat) (v : Value) (h : k ≠ b0) (o : Obj) (hk : W.heap[k]? = some o) : (W.setCell ⟨b0, 0, none⟩ v).heap[k]? = some o :=
  ((grown_set (World.grownBy.refl W (some b0)) 0 v).block k (Array.getElem?_eq_some_iff.1 hk).1 (fun e => h (Option.some.inj e))).trans hk
theorem range_b {α : Type} {P : Program} {g : Operand} {ps : Array Tmp} {assign body : Code} {Q : Exit → Act → World → Prop} {a : Act} {w : World} {n gf : Nat} {lb : Array Value}
    (hg : a.eval g = .func (.func gf) #[] lb) (eg : ∀ args w, (callFunc gf args).run P w = .ok (.enter gf args) w) {enc : α → Value} {Kp : World → World → Prop} {S Sp : List α → Prop} {b0 : Nat} (hb0 : b0 < w.heap.size)
    (hseq : IterB P (n - 1) gf lb enc Kp S Sp b0 (fun W => Below w.heap.size w W)) (hps : ps.size = 1)
    (hKt : ∀ {A B C : World}, Kp A B → Kp B C → Kp A C) (hKb : ∀ (W : World) (l : Nat) (o : Obj), w.heap.size ≤ l → Kp W (W.putObj l o))
    (I Ix : List α → World → Prop) (id : Nat) (hI : ∀ s W W', I s W → Below w.heap.size W W' → I s W') (hIx : ∀ s W W', Ix s W → Below w.heap.size W W' → Ix s W') (hIb : ∀ s W v, I s W → I s (W.setCell ⟨b0, 0, none⟩ v))
    (h0 : I [] w) (a1 : α → Act)
    (hassign : ∀ (l : Nat) (x : α) (W : World) (K : Act → World → Prop), K (a1 x) W → assign.wpIn (Fence.wide.inRound l) (n - 1 - 1) P (Exit.then K (fun _ _ _ => False)) { tmps := (ps.zip #[enc x]).foldl (fun t (p, v) => t.setIfInBounds p v) a.tmps, defers := [] } W)
    (hbody : ∀ (l d : Nat) (pre : List α) (x : α) (W : World), w.heap.size ≤ d → w.heap.size ≤ l → (∃ r, W.heap[l]? = some (.loop r)) → (∃ r, W.heap[d]? = some (.deferred r)) → I pre W → body.wpIn (Fence.wide.inRound l) (n - 1 - 1) P (postB l d Kp I Ix id (pre ++ [x]) W) (a1 x) W)
    (hdone : ∀ (D : Nat) (xs : List α) (W : World), w.heap.size ≤ D → S xs → I xs W → W.heap[D]? = some (.deferred (some [])) → Q .normal { a with defers := { target := .collected D, args := #[] } :: a.defers } W)
    (hstop : ∀ (D : Nat) (pre : List α) (W : World), w.heap.size ≤ D → Sp pre → Ix pre W → W.heap[D]? = some (.deferred (some [])) → (Code.exit id).wpIn Fence.wide n P Q { a with defers := { target := .collected D, args := #[] } :: a.defers } W) :
    (Code.rangeFunc g ps assign body).wpIn Fence.wide n P Q a w := by
  refine wpIn_rangeFunc fun fn _ => ?_
  let d := w.heap.size
  let l := w.heap.size + 1
  let rec0 : LoopState → Option Code → Loop := fun st pe => { state := st, pending := pe, fn, tmps := a.tmps, params := ps, assign, body, defers := w.heap.size }
  let W1 := (w.alloc (.deferred (some []))).alloc (.loop (rec0 .ready none))
  have hl1 : W1.heap[l]? = some (.loop (rec0 .ready none)) := by
    have h := World.alloc_heap_new (w.alloc (.deferred (some []))) (.loop (rec0 .ready none))
    rwa [World.size_alloc] at h
  have hd1 : W1.heap[d]? = some (.deferred (some [])) := (Below.heap_alloc _ _ _ (by simp [d])).trans (World.alloc_heap_new w _)
  have hb1 : Below w.heap.size w W1 := ((Below.refl _ w).alloc (Nat.le_refl _) _).alloc (by simp) _
  refine ⟨l, [{ target := .collected d, args := #[] }], W1, { target := .fn (.func gf) lb, args := #[.func (.yield l) #[] #[]] }, W1, gf, #[.func (.yield l) #[] #[]] ++ lb, W1, ?_, ?_, ?_, ?_, ?_, ?_⟩
  · exact run_enterLoop_outer _ _ _ _ _
  · simp only [resolve, hg]
    simp [go_sem, l]
  · intro f' _; trivial
  · simp [invoke, go_sem, eg]
  · intro h; cases h
  · refine (hseq l (fun pre W => I pre W ∧ W.heap[l]? = some (.loop (rec0 .ready none)) ∧ W.heap[d]? = some (.deferred (some [])))
      (fun pre W => Ix pre W ∧ W.heap[l]? = some (.loop (rec0 .done (some (.exit id)))) ∧ W.heap[d]? = some (.deferred (some []))) W1 hb1 ?_ ?_ ⟨hI _ _ _ h0 hb1, hl1, hd1⟩).mono ?_
    · rintro s W v ⟨h1, h2, h3⟩
      exact ⟨hIb _ _ _ h1, setCell_heap _ _ _ _ (by show w.heap.size + 1 ≠ b0; omega) _ h2, setCell_heap _ _ _ _ (by show w.heap.size ≠ b0; omega) _ h3⟩
    · rintro pre x W ⟨hi, hl, hk⟩
      have hdl : d ≠ l := by show w.heap.size ≠ w.heap.size + 1; omega
      have hy := run_yield (P := P) (args := #[enc x]) hl (by show 1 = ps.size; exact hps.symm)
      refine ⟨fn, _, assign, body, hy, roundIn_of_wpIn trivial (hassign l x W _ ?_)⟩
      refine ⟨_, run_beginRound hl rfl, ?_⟩
      have hlt : l < W.heap.size := (Array.getElem?_eq_some_iff.1 hl).1
      have hl2 : (W.putObj l (.loop { rec0 .ready none with state := .busy })).heap[l]? = some (.loop { rec0 .ready none with state := .busy }) := World.putObj_heap_same hlt
      have hk2 : (W.putObj l (.loop { rec0 .ready none with state := .busy })).heap[d]? = some (.deferred (some [])) := (World.putObj_heap_other hdl).trans hk
      have hdw : w.heap.size ≤ d := Nat.le_refl _
      have hlw : w.heap.size ≤ l := Nat.le_succ _
      refine wpIn_mono (hbody l d pre x _ hdw hlw ⟨_, hl2⟩ ⟨_, hk2⟩ (hI _ _ _ hi (below_putObj _ _ _ _ hlw))) ?_
      rintro e a3 W3 hp
      cases e with
      | normal =>
        obtain ⟨h1, h2, h3, h4⟩ := hp
        have hl3 := h1.trans hl2
        exact ⟨_, _, run_endRound none hl3, .inl ⟨rfl, ⟨hI _ _ _ h4 (below_putObj _ _ _ _ hlw), World.putObj_heap_same (Array.getElem?_eq_some_iff.1 hl3).1, (World.putObj_heap_other hdl).trans (h2.trans hk2)⟩, hKt (hKt (hKb _ _ _ hlw) h3) (hKb _ _ _ hlw)⟩⟩
      | exit i =>
        obtain ⟨rfl, h1, h2, h4⟩ := hp
        have hl3 := h1.trans hl2
        exact ⟨_, _, run_endRound (some (.exit i)) hl3, .inr ⟨rfl, hIx _ _ _ h4 (below_putObj _ _ _ _ hlw), World.putObj_heap_same (Array.getElem?_eq_some_iff.1 hl3).1, (World.putObj_heap_other hdl).trans (h2.trans hk2)⟩⟩
      | ret => exact hp.elim
      | goto t => exact hp.elim
      | panic c => exact hp.elim
      | outgrown => exact hp.elim
    · have hdl : d ≠ l := by show w.heap.size ≠ w.heap.size + 1; omega
      have hdw : w.heap.size ≤ d := Nat.le_refl _
      have hlw : w.heap.size ≤ l := Nat.le_succ _
      rintro e W2 ⟨⟨v, rfl⟩, (⟨xs, hS, hi, hl, hk⟩ | ⟨pre, hSp, hi, hl, hk⟩)⟩
      · exact ⟨none, _, run_endLoop hl (by simp [rec0]), hdone d xs _ hdw hS (hI _ _ _ hi (below_putObj _ _ _ _ hlw)) ((World.putObj_heap_other hdl).trans hk)⟩
      · exact ⟨some (.exit id), _, run_endLoop hl (by simp [rec0]), hstop d pre _ hdw hSp (hIx _ _ _ hi (below_putObj _ _ _ _ hlw)) ((World.putObj_heap_other hdl).trans hk)⟩
end Go.Proofs.YtpcdgljcpacpiaaGreatDoor
namespace Go.Proofs.YtpcdgljcpacpiaaGreatDoor
open Go.RowKit Go.Shelf
attribute [local go_sem] Oper.semAt_some
theorem pcut_none : ∀ (l cur : List Nat), (∀ c ∈ l, c ≠ 47) → pcut cur l = [cur ++ l]
  | [], cur, _ => by simp [pcut]
  | c :: r, cur, h => by
    rw [pcut, if_neg (h c (List.mem_cons_self ..)), pcut_none r _ (fun x hx => h x (List.mem_cons_of_mem _ hx)), List.append_assoc]
    rfl
theorem pcut_app : ∀ (a cur b : List Nat), (∀ c ∈ a, c ≠ 47) → pcut cur (a ++ 47 :: b) = (cur ++ a) :: pcut [] b
  | [], cur, b, _ => by simp [pcut]
  | c :: r, cur, b, h => by
    rw [List.cons_append, pcut, if_neg (h c (List.mem_cons_self ..)), pcut_app r _ b (fun x hx => h x (List.mem_cons_of_mem _ hx)), List.append_assoc]
    rfl
theorem idx_none {s : ByteArray} (h : Lib.indexByte s.data.toList 47 = -1) : parts (bysN s) = [bysN s] := by
  refine pcut_none _ [] ?_
  intro c hc
  simp only [bysN, List.mem_map] at hc
  obtain ⟨u, hu, rfl⟩ := hc
  obtain ⟨k, hk⟩ := List.mem_iff_getElem?.1 hu
  intro h47
  have hu2 : u = 47 := by
    apply UInt8.toNat.inj; rw [h47]; rfl
  exact Lib.indexByte_none h k (hu2 ▸ hk)
theorem idx_some {s : ByteArray} {i : Nat} (h : Lib.indexByte s.data.toList 47 = i) : i < s.size ∧ parts (bysN s) = bysN (s.extract 0 i) :: parts (bysN (s.extract (i + 1) s.size)) := by
  obtain ⟨h1, h2⟩ := Lib.indexByte_some h
  have hi : i < s.data.toList.length := by
    rcases Nat.lt_or_ge i s.data.toList.length with h3 | h3
    · exact h3
    · rw [List.getElem?_eq_none h3] at h1; cases h1
  have hl := bysN_len s
  have his : i < s.size := by simpa using hi
  refine ⟨his, ?_⟩
  have hg : (bysN s)[i]? = some 47 := by unfold bysN; rw [List.getElem?_map, h1]; rfl
  have hsp : bysN s = (bysN s).take i ++ 47 :: (bysN s).drop (i + 1) := by
    have hil : i < (bysN s).length := by omega
    have h47 : (bysN s)[i] = 47 := by rw [List.getElem?_eq_getElem hil] at hg; exact Option.some.inj hg
    rw [← h47, ← List.drop_eq_getElem_cons hil, List.take_append_drop]
  have hno : ∀ c ∈ (bysN s).take i, c ≠ 47 := by
    intro c hc
    obtain ⟨k, hk⟩ := List.mem_iff_getElem?.1 hc
    rw [List.getElem?_take] at hk
    split at hk
    · rename_i hki
      unfold bysN at hk
      rw [List.getElem?_map] at hk
      cases hu : s.data.toList[k]? with
      | none => rw [hu] at hk; cases hk
      | some u =>
        rw [hu] at hk
        have : u.toNat = c := Option.some.inj hk
        intro h47
        have hu2 : u = 47 := by apply UInt8.toNat.inj; rw [this, h47]; rfl
        exact h2 k hki (hu2 ▸ hu)
    · cases hk
  have e1 : bysN (s.extract 0 i) = (bysN s).take i := by rw [bysN_extract]; rfl
  have e2 : bysN (s.extract (i + 1) s.size) = (bysN s).drop (i + 1) := by rw [bysN_extract, List.take_of_length_le (by omega)]
  rw [e1, e2]
  exact (congrArg (pcut []) hsp).trans (pcut_app _ _ _ hno)
theorem idx_cases (s : ByteArray) : Lib.indexByte s.data.toList 47 = -1 ∨ ∃ i : Nat, Lib.indexByte s.data.toList 47 = i := by
  have h := Lib.indexByte_ge s.data.toList 47
  by_cases h0 : Lib.indexByte s.data.toList 47 = -1
  · exact .inl h0
  · exact .inr ⟨(Lib.indexByte s.data.toList 47).toNat, by omega⟩
/-- The texts that are handed over: of a size. -/
abbrev Tx := { x : ByteArray // x.size ≤ 1000000 }
def txV (x : Tx) : Value := .string x.1
def txB (x : Tx) : List Nat := bysN x.1
/-- The three boxes: s, sep, sepSave. -/
structure Bx3 (W : World) (b : Nat) (s : ByteArray) : Prop where
  bs : W.heap[b]? = some (.cells #[.string s] 9 (0, 0))
  bp : W.heap[b + 1]? = some (.cells #[.string ⟨#[47]⟩] 9 (0, 0))
  bn : W.heap[b + 2]? = some (.cells #[.int .i64 0] 3 (0, 0))
def Kp3 (b : Nat) (W W' : World) : Prop := W'.heap[b]? = W.heap[b]? ∧ W'.heap[b + 1]? = W.heap[b + 1]? ∧ W'.heap[b + 2]? = W.heap[b + 2]?
theorem Bx3.kept {W W' : World} {b : Nat} {s : ByteArray} (h : Bx3 W b s) (hk : Kp3 b W W') : Bx3 W' b s := ⟨hk.1.trans h.bs, hk.2.1.trans h.bp, hk.2.2.trans h.bn⟩
theorem cell_of_one {W : World} {B : Nat} {v : Value} {t : TypeId} (h : W.heap[B]? = some (.cells #[v] t (0, 0))) : W.cell? ⟨B, 0, none⟩ = some v ∧ W.frozen? ⟨B, 0, none⟩ = false := by
  constructor <;> simp [World.cell?, World.frozen?, h]
theorem setCell_one {W : World} {B : Nat} {v : Value} {t : TypeId} (h : W.heap[B]? = some (.cells #[v] t (0, 0))) (u : Value) : (W.setCell ⟨B, 0, none⟩ u).heap[B]? = some (.cells #[u] t (0, 0)) := by
  unfold World.setCell
  simp [Array.getElem?_modify, h]
theorem Bx3.set {W : World} {b : Nat} {s : ByteArray} (h : Bx3 W b s) (u : ByteArray) : Bx3 (W.setCell ⟨b, 0, none⟩ (.string u)) b u :=
  ⟨setCell_one h.bs _, setCell_heap _ _ _ _ (by omega) _ h.bp, setCell_heap _ _ _ _ (by omega) _ h.bn⟩
/-- How long the text in box b is. -/
def sizeAt (b : Nat) (W : World) : Nat := match W.cell? ⟨b, 0, none⟩ with | some (.string t) => t.size | _ => 0
theorem sizeAt_eq {W : World} {b : Nat} {s : ByteArray} (h : Bx3 W b s) : sizeAt b W = s.size := by unfold sizeAt; rw [(cell_of_one h.bs).1]
set_option maxHeartbeats 4000000 in
set_option maxRecDepth 100000 in
theorem seqIt (n : Nat) (hn : 3 ≤ n) (b : Nat) (s : ByteArray) (hs : s.size ≤ 1000000) :
    IterB Tryz.prog n 115 #[.pointer (some ⟨b + 1, 0, none⟩), .pointer (some ⟨b, 0, none⟩), .pointer (some ⟨b + 2, 0, none⟩)] txV (Kp3 b) (fun xs => xs.map txB = parts (bysN s)) (fun pre => ∃ r, parts (bysN s) = pre.map txB ++ r) b (fun W => Bx3 W b s) := by
  intro l J Jx W hC hJ hY h0
  refine callsIn_of_wp Tryz.func115 rfl trivial ?_ rfl
  simp only [Tryz.ntmps115, List.size_toArray, List.length_cons, List.length_nil, Nat.reduceAdd, Nat.reduceSub, Array.replicate_succ, Array.replicate_zero, List.push_toArray, List.append_toArray, List.nil_append, List.cons_append]
  have hn1 : 1 ≤ n := by omega
  have hc2 := (cell_of_one hC.bp).1
  gi_wp2
  gi_loopw [7, 8] (fun _ _ wr => ∃ (pre : List Tx) (rest : ByteArray), parts (bysN s) = pre.map txB ++ parts (bysN rest) ∧ rest.size ≤ s.size ∧ Bx3 wr b rest ∧ J pre wr)
    (fun _ _ wr => sizeAt b wr)
  case atStart => exact ⟨[], s, rfl, Nat.le_refl _, hC, h0⟩
  case round =>
    obtain ⟨pre, rest, hp, hrs, hb3, hJs⟩ := hrel
    have hc1 := (cell_of_one hb3.bs).1
    have hcp := (cell_of_one hb3.bp).1
    have hcn := (cell_of_one hb3.bn).1
    rcases idx_cases rest with hi | ⟨i, hi⟩
    · have hpr := idx_none hi
      obtain ⟨fn, tmps, assign, body, hy, hR⟩ := hY pre ⟨rest, by omega⟩ wr hJs
      dsimp only [txV] at hy
      gi_wp2_with ((first | gi_at_call 117 | (refine ⟨trivial, ?_⟩; gi_at_call 117)); refine (callsIn_wide.2 (Tryz.strings_Index_one _ _ _)).mono ?_; rintro e w' ⟨rfl, rfl⟩; rw [hi])
      refine hR.mono ?_
      rintro e W3 (⟨rfl, hJ3, hk3⟩ | ⟨rfl, hJx3⟩)
      · gi_wp2
        go_end0
        exact ⟨⟨_, rfl⟩, .inl ⟨pre ++ [⟨rest, by omega⟩], by rw [hp, hpr, List.map_append]; rfl, hJ3⟩⟩
      · gi_wp2
        go_end0
        exact ⟨⟨_, rfl⟩, .inr ⟨pre ++ [⟨rest, by omega⟩], ⟨[], by rw [hp, hpr, List.map_append]; simp [txB]⟩, hJx3⟩⟩
    · obtain ⟨his, hpr⟩ := idx_some hi
      have hes : (rest.extract 0 i).size ≤ 1000000 := by rw [ByteArray.size_extract]; omega
      obtain ⟨fn, tmps, assign, body, hy, hR⟩ := hY pre ⟨rest.extract 0 i, hes⟩ wr hJs
      dsimp only [txV] at hy
      have hi1 : ¬ (i : Int) < 0 := by omega
      have hi2 : (i : Int) ≤ (rest.size : Int) := by omega
      have hi3 : (i : Int) + 1 ≤ (rest.size : Int) := by omega
      have hw0 : wrap64 ((i : Int) + 0) = (i : Int) := by unfold wrap64; omega
      have hw1 : wrap64 ((i : Int) + 1) = (i : Int) + 1 := by unfold wrap64; omega
      gi_wp2_with ((first | gi_at_call 117 | (refine ⟨trivial, ?_⟩; gi_at_call 117)); refine (callsIn_wide.2 (Tryz.strings_Index_one _ _ _)).mono ?_; rintro e w' ⟨rfl, rfl⟩; rw [hi])
      refine hR.mono ?_
      rintro e W3 (⟨rfl, hJ3, hk3⟩ | ⟨rfl, hJx3⟩)
      · have hb4 := hb3.kept hk3
        have hc3 := (cell_of_one hb4.bs).1
        have hf3 := (cell_of_one hb4.bs).2
        have hc4 := (cell_of_one hb4.bp).1
        gi_wp2
        go_roundw
        case rel => exact ⟨pre ++ [⟨rest.extract 0 i, hes⟩], rest.extract (i + 1) rest.size, by rw [hp, hpr, List.map_append, List.append_assoc]; rfl, by rw [ByteArray.size_extract]; omega, hb4.set _, hJ _ _ _ hJ3⟩
        case measure => rw [sizeAt_eq hb3, sizeAt_eq (hb4.set _), ByteArray.size_extract]; omega
      · gi_wp2
        refine bodyPost_ret (results_none rfl _ _ _) rfl ?_
        exact ⟨⟨_, rfl⟩, .inr ⟨pre ++ [⟨rest.extract 0 i, hes⟩], ⟨parts (bysN (rest.extract (i + 1) rest.size)), by rw [hp, hpr, List.map_append, List.append_assoc]; rfl⟩, hJx3⟩⟩
end Go.Proofs.YtpcdgljcpacpiaaGreatDoor
namespace Go.Proofs.YtpcdgljcpacpiaaGreatDoor
open Go.RowKit
attribute [local go_sem ↓] Go.wp_at_zero Go.wp_at_succ
theorem bysN_inj {a b : ByteArray} (h : bysN a = bysN b) : a = b := by
  have e : a.data.toList = b.data.toList := by
    unfold bysN at h
    exact (List.map_inj_right (fun _ _ => UInt8.toNat.inj)).1 h
  cases a; cases b
  congr 1
  exact Array.toList_inj.1 e
theorem toList_isEmpty (s : ByteArray) : s.toList.isEmpty = decide (s.size = 0) := by
  rw [ByteArray.toList_eq]
  cases h : s.data.toList with
  | nil => simp [← ByteArray.size_data, ← Array.length_toList, h]
  | cons a r => simp [← ByteArray.size_data, ← Array.length_toList, h]
theorem toList_beq (a b : ByteArray) : (a.toList == b.toList) = decide (bysN a = bysN b) := by
  by_cases h : bysN a = bysN b
  · rw [bysN_inj h]; simp
  · rw [decide_eq_false h]
    refine beq_eq_false_iff_ne.2 fun h2 => h ?_
    rw [ByteArray.toList_eq, ByteArray.toList_eq] at h2
    unfold bysN; rw [h2]
theorem getD_get (s : ByteArray) (k : Nat) (h : k < s.size) : (bysN s).getD k 0 = (s.get! k).toNat := by
  rw [← str_get s k h h]
  congr 1
  simp [ByteArray.get!, getElem!_pos, h]
  rfl
/-- The bytes of a rune that is no ASCII one are none. -/
theorem decode_skip (s : ByteArray) (pos : Nat) (h : pos < s.size) (ha : 128 ≤ (s.get! pos).toNat) : ∀ k, pos ≤ k → k < pos + (Utf8.decode s pos).2 → k < s.size ∧ 128 ≤ (s.get! k).toNat := by
  have h0 : ¬ (s.get! (pos + 0)).toNat < 128 := by rw [Nat.add_zero]; omega
  intro k hk1
  simp only [Utf8.decode, h0, if_false]
  obtain ⟨j, rfl⟩ : ∃ j, k = pos + j := ⟨k - pos, by omega⟩
  intro hk2
  have hj : j < 4 := by
    revert hk2
    repeat' split
    all_goals (intro hk2; simp at hk2; omega)
  by_cases hj0 : j = 0
  · subst hj0; exact ⟨h, ha⟩
  revert hk2
  repeat' split
  all_goals intro hk2
  all_goals simp only [Bool.and_eq_true, decide_eq_true_eq, beq_iff_eq] at *
  all_goals (rcases (show j = 1 ∨ j = 2 ∨ j = 3 by omega) with rfl | rfl | rfl <;> omega)
theorem below_iter (w : World) (s : ByteArray) (p : Nat) : Below w.heap.size w (w.iter s p) := (Below.refl _ w).alloc (Nat.le_refl _) _
set_option maxHeartbeats 4000000 in
set_option maxRecDepth 100000 in
theorem part_any (s : ByteArray) (w : World) (hs : s.size ≤ 1000000) : Calls Tryz.prog 72 #[.string s] w fun e w' => e = .returned (.bool (okPart (bysN s))) ∧ Below w.heap.size w w' := by
  have hl := bysN_len s
  have hg := Lib.hid (getD_get s)
  have hok : Hid (okPart (bysN s) = ((bysN s).all (fun c => decide (c ≠ 47)) && decide (1 ≤ (bysN s).length) && decide ((bysN s).length ≤ 32))) := Lib.hid rfl
  generalize hln : bysN s = l at *
  have Hln := Bx9.mk hln
  clear hln
  go_enter Tryz.func72, Tryz.ntmps72
  go_wp2
  go_loopw [4] (fun _ wr => ∃ pos : Nat, pos ≤ s.size ∧ wr = w.iter s pos ∧ Hid (∀ c ∈ l.take pos, c ≠ 47)) (fun _ wr => s.size - wr.iterPos w.heap.size)
  case atStart => exact ⟨0, by omega, rfl, Lib.hid (fun c hc => by simp at hc)⟩
  case round =>
    obtain ⟨pos, hps, rfl, hq⟩ := hrel
    by_cases hp : pos < s.size
    · have hnx : ∀ ty, (Instr.next (.pointer (some ⟨w.heap.size, 0, none⟩)) true ty).run Tryz.prog (w.iter s pos) = _ := fun ty => run_next_any w s pos ty hp
      have hg2 := hg.out pos hp
      have hpl : pos < l.length := by omega
      have hmem : l.getD pos 0 ∈ l := by rw [List.getD_eq_getElem?_getD, List.getElem?_eq_getElem hpl]; exact List.getElem_mem _
      by_cases ha : (s.get! pos).toNat < 128
      · have hd := decode_ascii s pos hp (by
          have e : s.get! pos = s[pos]'hp := by simp [ByteArray.get!, getElem!_pos, hp]; rfl
          rwa [← e])
        have e : (s[pos]'hp).toNat = l.getD pos 0 := by
          rw [hg2]
          congr 1
          simp [ByteArray.get!, getElem!_pos, hp]
          rfl
        rw [e] at hd
        rw [← hg2] at ha
        have ht : Hid (l.take (pos + 1) = l.take pos ++ [l.getD pos 0]) := Lib.hid (by rw [List.take_succ_eq_append_getElem hpl, List.getD_eq_getElem?_getD, List.getElem?_eq_getElem hpl]; rfl)
        simp only [hd] at hnx
        clear hg2 e
        generalize l.getD pos 0 = c at *
        by_cases hc : c = 47
        · subst hc
          have hf : Hid (okPart l = false) := Lib.hid (by
            rw [hok.out]
            have h1 : l.all (fun c => decide (c ≠ 47)) = false := by
              rw [List.all_eq_false]
              exact ⟨47, hmem, by decide⟩
            rw [h1]; rfl)
          go_wp2
          go_ret
          exact ⟨by rw [hf.out]; rfl, below_iter w s _⟩
        · have hci : ¬ (c : Int) = 47 := by omega
          go_wp2
          go_roundw
          case rel => exact ⟨pos + 1, by omega, rfl, Lib.hid (fun x hx => by
            rw [ht.out] at hx
            rcases List.mem_append.1 hx with h | h
            · exact hq.out x h
            · simp at h; rw [h]; exact hc)⟩
          case measure => simp only [World.iterPos_iter]; omega
      · have hh := decode_high s pos hp (by
          have e : s.get! pos = s[pos]'hp := by simp [ByteArray.get!, getElem!_pos, hp]; rfl
          rw [← e]; omega)
        have hsk := Lib.hid (decode_skip s pos hp (by omega))
        have hle : pos + (Utf8.decode s pos).2 ≤ s.size := by
          rcases Nat.lt_or_ge (pos + (Utf8.decode s pos).2 - 1) s.size with h | h
          · omega
          · have := (hsk.out (pos + (Utf8.decode s pos).2 - 1) (by omega) (by omega)).1
            omega
        have hle2 := decode_le s pos
        generalize Utf8.decode s pos = d at *
        obtain ⟨r, wd⟩ := d
        have hno : Hid (∀ c ∈ l.take (pos + wd), c ≠ 47) := Lib.hid (by
          intro c hc
          obtain ⟨k, hk⟩ := List.mem_iff_getElem?.1 hc
          rw [List.getElem?_take] at hk
          split at hk
          · rename_i hki
            by_cases hkp : k < pos
            · exact hq.out c (List.mem_iff_getElem?.2 ⟨k, by rw [List.getElem?_take, if_pos hkp]; exact hk⟩)
            · have h3 := hsk.out k (by omega) hki
              have h4 := hg.out k h3.1
              rw [List.getD_eq_getElem?_getD, hk] at h4
              simp at h4
              omega
          · cases hk)
        dsimp only at hh hle hle2 hnx
        have hri : ¬ (r : Int) = 47 := by omega
        clear hg2
        go_wp2
        go_roundw
        case rel => exact ⟨pos + wd, hle, rfl, hno⟩
        case measure => simp only [World.iterPos_iter]; omega
    · obtain rfl : pos = s.size := by omega
      have hnx : ∀ ty, (Instr.next (.pointer (some ⟨w.heap.size, 0, none⟩)) true ty).run Tryz.prog (w.iter s s.size) = _ := fun ty => run_next_end w s s.size ty hp
      have hall : l.all (fun c => decide (c ≠ 47)) = true := by
        rw [List.all_eq_true]
        intro c hc
        exact decide_eq_true (hq.out c (by rw [← hl, List.take_length]; exact hc))
      have hf : Hid (okPart l = (decide (1 ≤ s.size) && decide (s.size ≤ 32))) := Lib.hid (by rw [hok.out, hall, hl]; rfl)
      have he := Lib.hid (toList_isEmpty s)
      clear hall hg hq hok
      by_cases h1 : 1 ≤ s.size
      · have hne : s.toList.isEmpty = false := by rw [he.out, decide_eq_false (by omega)]
        have hne2 : ¬ s.toList = [] := by intro h; rw [h] at hne; cases hne
        by_cases h2 : s.size ≤ 32
        · have h2i : (s.size : Int) ≤ 32 := by omega
          go_wp2
          go_ret
          exact ⟨by rw [hf.out, decide_eq_true h1, decide_eq_true h2]; rfl, below_iter w s _⟩
        · have h2i : ¬ (s.size : Int) ≤ 32 := by omega
          go_wp2
          go_ret
          exact ⟨by rw [hf.out, decide_eq_true h1, decide_eq_false h2]; rfl, below_iter w s _⟩
      · have hne : s.toList.isEmpty = true := by rw [he.out, decide_eq_true (by omega)]
        have hne2 : s.toList = [] := List.isEmpty_iff.1 hne
        go_wp2
        go_ret
        exact ⟨by rw [hf.out, decide_eq_false h1]; rfl, below_iter w s _⟩
end Go.Proofs.YtpcdgljcpacpiaaGreatDoor
