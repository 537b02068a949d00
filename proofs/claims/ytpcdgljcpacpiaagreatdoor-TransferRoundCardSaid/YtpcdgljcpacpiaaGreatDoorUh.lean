/- What TransferRound says, of no walk: what goes over a channel, and comes home, leaves both sides as they were. -/
import Derived.Test.YtpcdgljcpacpiaaGreatDoorUf
import Derived.Test.YtpcdgljcpacpiaaGreatDoorUe
set_option maxRecDepth 20000
namespace Go.Proofs.YtpcdgljcpacpiaaGreatDoor
open Go.RowKit
def t_c5 : ByteArray := ⟨#[99, 53]⟩
def t_c6 : ByteArray := ⟨#[99, 54]⟩
def t_esc5 : ByteArray := ⟨#[101, 115, 99, 114, 111, 119, 47, 99, 53]⟩
/-- The denomination, who sends, the denomination away. -/
def rdD (v : Bool) : ByteArray := if v = true then t_c1x else t_x
def rdF (v : Bool) : ByteArray := if v = true then t_bob else t_ann
def rdA (v : Bool) : ByteArray := if v = true then ⟨#[99, 54, 47, 99, 49, 47, 120]⟩ else ⟨#[99, 54, 47, 120]⟩
def rdM (v : Bool) : Nat := if v = true then 7 else 9
/-- The map here behind the send. -/
def rdE (v : Bool) (m : Nat) : List Ent := (moveL S17 (rdF v) t_esc5 (rdD v) m).2
theorem rd_esc : escB t_c5 = t_esc5 := by decide +kernel
theorem rd_home : ∀ v : Bool, homeB t_c5 (rdD v) = false ∧ homeB t_c6 (rdA v) = true := by decide +kernel
theorem rd_arr : ∀ v : Bool, arrB t_c5 t_c6 (rdD v) = rdA v ∧ arrB t_c6 t_c5 (rdA v) = rdD v := by decide +kernel
theorem rd_den : ∀ v : Bool, okDen (bysN (rdA v)) = true ∧ okDen (bysN (rdD v)) = true := by decide +kernel
theorem rd_ok1 : ∀ (v b : Bool) (m : Fin 16), ((okPart (bysN t_c5) && okPart (bysN t_c6) && okDen (bysN (rdD v)) && !(decide (m.val = 0)) && okPlain (bysN (rdF v)) && b) = (!(decide (m.val = 0)) && b)) ∧ ((okPart (bysN t_c6) && okPart (bysN t_c5) && okDen (bysN (rdA v)) && !(decide (m.val = 0)) && b && okPlain (bysN (rdF v))) = (!(decide (m.val = 0)) && b)) := by decide +kernel
theorem rd_okS (v : Bool) (m : Fin 16) {t : ByteArray} (ht : okPlain (bysN t) = true) : okP 1 9 0 (bysN t_c5) (bysN t_c6) (bysN (rdD v)) (bysN (rdF v)) (bysN t) m.val = !(decide (m.val = 0)) := by
  have h := (rd_ok1 v true m).1
  unfold okP
  rw [ht, h]
  simp
theorem rd_okB (v : Bool) (m : Fin 16) {t : ByteArray} (ht : okPlain (bysN t) = true) : okP 1 9 0 (bysN t_c6) (bysN t_c5) (bysN (rdA v)) (bysN t) (bysN (rdF v)) m.val = !(decide (m.val = 0)) := by
  have h := (rd_ok1 v true m).2
  unfold okP
  rw [ht, h]
  simp
theorem rd_move : ∀ (v : Bool) (m : Fin 16), (moveL S17 (rdF v) t_esc5 (rdD v) m.val).1 = if m.val = 0 then 1 else if m.val ≤ rdM v then 0 else 16 := by decide +kernel
theorem rd_bal : ∀ (v : Bool) (m : Fin 16), m.val ≤ rdM v → ng (rdE v m.val) (keyB t_esc5 (rdD v)) = m.val := by decide +kernel
theorem rd_no (v : Bool) (m : Fin 16) {t : ByteArray} (ht : okPlain (bysN t) = true) (h : (sendL S17 1 9 0 t_c5 t_c6 (rdD v) (rdF v) t m.val).1 ≠ 0) : m.val = 0 ∨ 7 < m.val := by
  unfold sendL sel17 at h
  rw [rd_okS v m ht, (rd_home v).1, rd_esc] at h
  by_cases h0 : m.val = 0
  · exact .inl h0
  · rw [decide_eq_false h0] at h
    have h1 : (moveL S17 (rdF v) t_esc5 (rdD v) m.val).1 ≠ 0 := h
    rw [rd_move v m, if_neg h0] at h1
    by_cases h2 : m.val ≤ rdM v
    · rw [if_pos h2] at h1; exact absurd rfl h1
    · refine .inr ?_
      have : 7 ≤ rdM v := by cases v <;> decide
      omega
theorem rd_yes (v : Bool) (m : Fin 16) {t : ByteArray} (ht : okPlain (bysN t) = true) (h : (sendL S17 1 9 0 t_c5 t_c6 (rdD v) (rdF v) t m.val).1 = 0) :
    m.val ≠ 0 ∧ m.val ≤ rdM v ∧ sendL S17 1 9 0 t_c5 t_c6 (rdD v) (rdF v) t m.val = (0, rdE v m.val) ∧ moveL S17 (rdF v) t_esc5 (rdD v) m.val = (0, rdE v m.val) := by
  unfold sendL sel17 at h ⊢
  rw [rd_okS v m ht, (rd_home v).1, rd_esc] at h ⊢
  by_cases h0 : m.val = 0
  · rw [decide_eq_true h0] at h; exact absurd (show (1 : Int) = 0 from h) (by decide)
  · rw [decide_eq_false h0] at h ⊢
    have h1 : (moveL S17 (rdF v) t_esc5 (rdD v) m.val).1 = 0 := h
    have h3 : moveL S17 (rdF v) t_esc5 (rdD v) m.val = (0, rdE v m.val) := Prod.ext h1 rfl
    refine ⟨h0, ?_, h3, h3⟩
    rw [rd_move v m, if_neg h0] at h1
    by_cases h2 : m.val ≤ rdM v
    · exact h2
    · rw [if_neg h2] at h1; exact absurd h1 (by decide)
theorem plain_name {t : ByteArray} (ht : okPlain (bysN t) = true) : okName (bysN t) = true := by
  unfold okPlain at ht
  exact (Bool.and_eq_true_iff.1 ht).1
/-- The map there, behind the coins have come. -/
def rdB (v : Bool) (t : ByteArray) (m : Nat) : List Ent := (mintL [] t (rdA v) m).2
theorem rd_dn : ∀ v : Bool, okDn (bysN (rdA v)) = true := by decide +kernel
theorem rd_mint (v : Bool) (m : Fin 16) (h0 : m.val ≠ 0) {t : ByteArray} (ht : okPlain (bysN t) = true) : mintL [] t (rdA v) m.val = (0, rdB v t m.val) := by
  refine Prod.ext ?_ rfl
  have hm : may1 t (rdA v) m.val = true := by
    unfold may1
    rw [plain_name ht, rd_dn v]
    simpa using h0
  have e1 : ng [] (totB (rdA v)) = 0 := rfl
  have e2 : ng [] (keyB t (rdA v)) = 0 := rfl
  have hk : wOk (0 + m.val) = true := wOk_small (by have := m.isLt; omega)
  unfold mintL
  rw [if_pos hm, e1, e2, if_pos ⟨hk, hk⟩]
theorem rd_recv (v : Bool) (m : Fin 16) (h0 : m.val ≠ 0) {t : ByteArray} (ht : okPlain (bysN t) = true) : recvL [] 1 9 0 t_c5 t_c6 (rdD v) (rdF v) t m.val = (0, rdB v t m.val) := by
  unfold recvL sel17
  rw [(rd_arr v).1, if_pos (rd_den v).1, rd_okS v m ht, decide_eq_false h0, (rd_home v).1]
  exact rd_mint v m h0 ht
theorem rd_sup (v : Bool) (m : Fin 16) (h0 : m.val ≠ 0) {t : ByteArray} (ht : okPlain (bysN t) = true) : ng (rdB v t m.val) (totB (rdA v)) = m.val := by
  obtain ⟨_, w1, w2, e⟩ := mint_set (rd_mint v m h0 ht)
  rw [e, ng_set_ne (set_srt List.Pairwise.nil _ _) _ _ (key_ne_tot _ _ _).symm, ng_set List.Pairwise.nil _ w1]
  show 0 + m.val = m.val
  omega
theorem rd_back1 (v : Bool) (m : Fin 16) (h0 : m.val ≠ 0) {t : ByteArray} (ht : okPlain (bysN t) = true) : sendL (rdB v t m.val) 1 9 0 t_c6 t_c5 (rdA v) t (rdF v) m.val = (0, []) := by
  unfold sendL sel17
  rw [rd_okB v m ht, decide_eq_false h0, (rd_home v).2]
  exact mint_burn List.Pairwise.nil can_nil (rd_mint v m h0 ht)
theorem rd_back2 (v : Bool) (m : Fin 16) (h0 : m.val ≠ 0) {t : ByteArray} (ht : okPlain (bysN t) = true) (h : moveL S17 (rdF v) t_esc5 (rdD v) m.val = (0, rdE v m.val)) : recvL (rdE v m.val) 1 9 0 t_c6 t_c5 (rdA v) t (rdF v) m.val = (0, S17) := by
  unfold recvL sel17
  rw [(rd_arr v).2, if_pos (rd_den v).2, rd_okB v m ht, decide_eq_false h0, (rd_home v).2, rd_esc]
  exact (move_back S17_srt S17_bko.1 h).1
theorem rdB_len (v : Bool) (t : ByteArray) (m : Nat) : (rdB v t m).length ≤ 2 ∧ Srt (rdB v t m) := by
  have h := mint_inv (List.Pairwise.nil : Srt []) t (rdA v) m
  exact ⟨h.2, h.1⟩
theorem rdE_len (v : Bool) (m : Nat) : (rdE v m).length ≤ 6 ∧ Srt (rdE v m) := by
  have h := move_inv S17_srt (rdF v) t_esc5 (rdD v) m
  have := S17_len
  have h2 : (rdE v m).length ≤ S17.length + 2 := h.2
  exact ⟨by omega, h.1⟩
end Go.Proofs.YtpcdgljcpacpiaaGreatDoor
