/- The law TransferApart's walk: what goes over one channel changes nothing in escrow of another one. -/
import Derived.Test.YtpcdgljcpacpiaaGreatDoorUd
set_option maxRecDepth 20000
namespace Go.Proofs.YtpcdgljcpacpiaaGreatDoor
open Go.RowKit
attribute [local go_sem ↓] Go.wp_at_zero Go.wp_at_succ
def t_c7 : ByteArray := ⟨#[99, 55]⟩
def t_c7x : ByteArray := ⟨#[99, 55, 47, 120]⟩
def t_cat : ByteArray := ⟨#[99, 97, 116]⟩
def t_esc2 : ByteArray := ⟨#[101, 115, 99, 114, 111, 119, 47, 99, 50]⟩
theorem sel_inv {E : List Ent} {ok home : Bool} {r1 r2 : Int × List Ent} (h1 : Srt r1.2 ∧ r1.2.length ≤ E.length + 2) (h2 : Srt r2.2 ∧ r2.2.length ≤ E.length + 2) : Srt (sel17 ok home r1 r2).2 ∧ (sel17 ok home r1 r2).2.length ≤ E.length + 2 := by
  unfold sel17
  split
  · split
    · exact h1
    · exact h2
  · exact ⟨List.Pairwise.nil, Nat.zero_le _⟩
theorem send_inv {E : List Ent} (hs : Srt E) (sq ht tm : Int) (s k d f g : ByteArray) (n : Nat) : Srt (sendL E sq ht tm s k d f g n).2 ∧ (sendL E sq ht tm s k d f g n).2.length ≤ E.length + 2 := sel_inv (burn_inv hs _ _ _) (move_inv hs _ _ _ _)
theorem recv_inv {E : List Ent} (hs : Srt E) (sq ht tm : Int) (s k d f g : ByteArray) (n : Nat) : Srt (recvL E sq ht tm s k d f g n).2 ∧ (recvL E sq ht tm s k d f g n).2.length ≤ E.length + 2 := by
  unfold recvL
  split
  · exact sel_inv (move_inv hs _ _ _ _) (mint_inv hs _ _ _)
  · exact ⟨List.Pairwise.nil, Nat.zero_le _⟩
theorem refund_inv {E : List Ent} (hs : Srt E) (sq ht tm : Int) (s k d f g : ByteArray) (n : Nat) : Srt (refundL E sq ht tm s k d f g n).2 ∧ (refundL E sq ht tm s k d f g n).2.length ≤ E.length + 2 := sel_inv (mint_inv hs _ _ _) (move_inv hs _ _ _ _)
def apA (a : Nat) : List Ent := (sendL S17 1 9 0 t_c1 t_c7 t_x t_ann t_bob a).2
def apB (a b : Nat) : List Ent := (sendL (apA a) 1 9 0 t_c2 t_c7 t_x t_ann t_bob b).2
def apC (a b : Nat) : List Ent := (recvL (apB a b) 1 9 0 t_c7 t_c2 t_c7x t_bob t_cat b).2
theorem ap_1 : ∀ a : Fin 4, (sendL S17 1 9 0 t_c1 t_c7 t_x t_ann t_bob (a.val + 1)).1 = 0 := by decide +kernel
theorem ap_2 : ∀ a b : Fin 4, (sendL (apA (a.val + 1)) 1 9 0 t_c2 t_c7 t_x t_ann t_bob (b.val + 1)).1 = 0 := by decide +kernel
theorem ap_3 : ∀ a b : Fin 4, (recvL (apB (a.val + 1) (b.val + 1)) 1 9 0 t_c7 t_c2 t_c7x t_bob t_cat (b.val + 1)).1 = 0 := by decide +kernel
theorem ap_4 : ∀ a b : Fin 4, recvL (apC (a.val + 1) (b.val + 1)) 1 9 0 t_c7 t_c2 t_c7x t_bob t_cat (b.val + 1) = (16, []) := by decide +kernel
theorem ap_5 : ∀ a b : Fin 4, ng (apC (a.val + 1) (b.val + 1)) (keyB t_esc1 t_x) = a.val + 1 ∧ ng (apC (a.val + 1) (b.val + 1)) (keyB t_esc2 t_x) = 0 ∧ ng (apC (a.val + 1) (b.val + 1)) (keyB t_cat t_x) = b.val + 1 := by decide +kernel
theorem one_small4 (x : Int) : ∃ a : Fin 4, IntKind.u64.wrap (1 + bits .and .u64 x 3) = ((a.val + 1 : Nat) : Int) := by
  have e2 : (BitVec.ofInt 64 3).toNat = 3 := by decide
  have h : (BitVec.ofInt 64 x &&& BitVec.ofInt 64 3).toNat ≤ 3 := by
    rw [BitVec.toNat_and, e2]
    exact Nat.and_le_right
  have e : bits .and .u64 x 3 = IntKind.u64.wrap (((BitVec.ofInt 64 x &&& BitVec.ofInt 64 3).toNat : Nat) : Int) := rfl
  refine ⟨⟨(BitVec.ofInt 64 x &&& BitVec.ofInt 64 3).toNat, by omega⟩, ?_⟩
  show IntKind.u64.wrap (1 + bits .and .u64 x 3) = (((BitVec.ofInt 64 x &&& BitVec.ofInt 64 3).toNat + 1 : Nat) : Int)
  rw [e, IntKind.wrap_u64, IntKind.wrap_u64]
  omega
theorem eqW17 (a b c d : Int) (w : World) : (Op.equalIn 10000 31 (.agg #[.int .u64 a, .int .u64 b, .int .u64 c, .int .u64 d]) (.agg #[.int .u64 a, .int .u64 b, .int .u64 c, .int .u64 d])).run Tryz.prog w = .ok true w := by
  have u3 := Tryz.underlying29
  have a3 := Tryz.isAgg29
  have z3 := Tryz.sizeOf29
  rw [show (10000 : Nat) = 9999 + 1 from rfl, Op.equalIn]
  simp only [Sem.run_bind, run_underlying Tryz.underlying31, Result.andThen_ok]
  simp only [Std.Legacy.Range.forIn_eq_forIn_range', Std.Legacy.Range.size, Nat.sub_zero, Nat.add_sub_cancel, Nat.div_one, List.range'_succ, List.range'_zero, List.forIn_cons, List.forIn_nil]
  go_simp
end Go.Proofs.YtpcdgljcpacpiaaGreatDoor
