/- The law TransferApart's walk: what goes over one channel changes nothing in escrow of another one. -/
import Derived.Test.YtpcdgljcpacpiaaGreatDoorUd
set_option maxRecDepth 20000
namespace Go.Proofs.YtpcdgljcpacpiaaGreatDoor
open Go.RowKit
attribute [local go_sem ↓] Go.wp_at_zero Go.wp_at_succ
theorem sel_inv {E : List Ent} {ok home : Bool} {r1 r2 : Int × List Ent} (h1 : Srt r1.2 ∧ r1.2.length ≤ E.length + 2) (h2 : Srt r2.2 ∧ r2.2.length ≤ E.length + 2) : Srt (sel17 ok home r1 r2).2 ∧ (sel17 ok home r1 r2).2.length ≤ E.length + 2 := by
  unfold sel17
  split
  · split
    · exact h1
    · exact h2
  · exact ⟨List.Pairwise.nil, Nat.zero_le _⟩
theorem send_inv {E : List Ent} (hs : Srt E) (sq ht tm : Int) (s k d f g : ByteArray) (n : Nat) : Srt (sendL E sq ht tm s k d f g n).2 ∧ (sendL E sq ht tm s k d f g n).2.length ≤ E.length + 2 := sel_inv (burn_inv hs _ _ _) (move_inv hs _ _ _ _)
theorem recv_inv {E : List Ent} (hs : Srt E) (sq ht tm : Int) (s k d f g : ByteArray) (n : Nat) : Srt (recvL E sq ht tm s k d f g n).2 ∧ (recvL E sq ht tm s k d f g n).2.length ≤ E.length + 2 := by
  unfold recvL
  split
  · exact sel_inv (move_inv hs _ _ _ _) (mint_inv hs _ _ _)
  · exact ⟨List.Pairwise.nil, Nat.zero_le _⟩
theorem refund_inv {E : List Ent} (hs : Srt E) (sq ht tm : Int) (s k d f g : ByteArray) (n : Nat) : Srt (refundL E sq ht tm s k d f g n).2 ∧ (refundL E sq ht tm s k d f g n).2.length ≤ E.length + 2 := sel_inv (mint_inv hs _ _ _) (move_inv hs _ _ _ _)
end Go.Proofs.YtpcdgljcpacpiaaGreatDoor
