/- What TransferEscrow says, of no walk: what is in escrow is what went, less what came home and was given back; the total stays. -/
import Derived.Test.YtpcdgljcpacpiaaGreatDoorUf
import Derived.Test.YtpcdgljcpacpiaaGreatDoorUe
set_option maxRecDepth 20000
namespace Go.Proofs.YtpcdgljcpacpiaaGreatDoor
open Go.RowKit
/-- A bank's map: a of x is in escrow of c1, 9 of x there are. -/
structure EsI (E : List Ent) (a : Nat) : Prop where
  srt : Srt E
  bko : BkO E
  esc : ng E (keyB t_esc1 t_x) = a
  tot : ng E (totB t_x) = 9
theorem es_start : EsI S17 0 := ⟨S17_srt, S17_bko, by decide +kernel, by decide +kernel⟩
theorem EsI.acc {E : List Ent} {a : Nat} (h : EsI E a) (m : ByteArray) (hm : m.size ≤ 64) : ng E (keyB m t_x) ≤ 9 := by
  obtain ⟨_, l, hl⟩ := h.bko
  obtain ⟨l', hl', hm', _⟩ := hl.with m hm
  have h1 : ng E (keyB m t_x) ≤ sumA E l' t_x := le_sum (f := fun a => ng E (keyB a t_x)) hm'
  rw [hl'.sum t_x (by decide), h.tot] at h1
  exact h1
theorem EsI.le {E : List Ent} {a : Nat} (h : EsI E a) : a ≤ 9 := by
  have := h.acc t_esc1 (by decide)
  rw [h.esc] at this
  exact this
theorem es_okA (q : Int) (h1 : 1 ≤ q) (h2 : q ≤ 1000) (n : Nat) : okP q 9 0 (bysN t_c1) (bysN t_c2) (bysN t_x) (bysN t_ann) (bysN t_bob) n = !(decide (n = 0)) := by
  by_cases h0 : n = 0
  · rw [decide_eq_true h0]; exact okP_false (.inr (.inr (.inr (.inr (.inr (.inr (.inr (.inl h0))))))))
  · rw [decide_eq_false h0]; exact okP_true ⟨h1, by omega⟩ (by decide) (by decide) (by decide) (by decide +kernel) (by decide +kernel) (by decide +kernel) h0 (by decide +kernel) (by decide +kernel)
theorem es_okB (q : Int) (h1 : 1 ≤ q) (h2 : q ≤ 1000) (n : Nat) : okP q 9 0 (bysN t_c2) (bysN t_c1) (bysN t_c2x) (bysN t_bob) (bysN t_cat) n = !(decide (n = 0)) := by
  by_cases h0 : n = 0
  · rw [decide_eq_true h0]; exact okP_false (.inr (.inr (.inr (.inr (.inr (.inr (.inr (.inl h0))))))))
  · rw [decide_eq_false h0]; exact okP_true ⟨h1, by omega⟩ (by decide) (by decide) (by decide) (by decide +kernel) (by decide +kernel) (by decide +kernel) h0 (by decide +kernel) (by decide +kernel)
theorem es_home : homeB t_c1 t_x = false ∧ homeB t_c2 t_c2x = true := by decide +kernel
theorem es_arr : arrB t_c2 t_c1 t_c2x = t_x := by decide +kernel
theorem es_esc : escB t_c1 = t_esc1 := by decide +kernel
theorem es_ne : t_ann ≠ t_esc1 ∧ t_esc1 ≠ t_cat ∧ keyB t_esc1 t_x ≠ keyB t_ann t_x ∧ keyB t_esc1 t_x ≠ keyB t_cat t_x := by decide +kernel
theorem es_send {E : List Ent} {a : Nat} (h : EsI E a) {q : Int} {n : Nat} (_hn : n ≤ 3) {A : List Ent} (hA : sendL E q 9 0 t_c1 t_c2 t_x t_ann t_bob n = (0, A)) :
    EsI A (a + n) ∧ refundL A q 9 0 t_c1 t_c2 t_x t_ann t_bob n = (0, E) := by
  have hs := (send_inv h.srt q 9 0 t_c1 t_c2 t_x t_ann t_bob n).1
  rw [hA] at hs
  refine ⟨⟨hs, send_bko h.srt h.bko hA, ?_, ?_⟩, send_refund h.srt h.bko hA⟩
  · obtain ⟨_, ⟨hh, _⟩ | ⟨_, h1⟩⟩ := sel_yes hA
    · rw [es_home.1] at hh; exact absurd hh (by decide)
    · rw [es_esc] at h1
      obtain ⟨_, _, ⟨e, _⟩ | ⟨_, hw, rfl⟩⟩ := move_set h1
      · exact absurd e es_ne.1
      · rw [ng_set (set_srt h.srt _ _) _ hw, h.esc]
  · obtain ⟨_, ⟨hh, _⟩ | ⟨_, h1⟩⟩ := sel_yes hA
    · rw [es_home.1] at hh; exact absurd hh (by decide)
    · rw [es_esc] at h1
      obtain ⟨_, _, ⟨e, _⟩ | ⟨_, hw, rfl⟩⟩ := move_set h1
      · exact absurd e es_ne.1
      · rw [ng_set_ne (set_srt h.srt _ _) _ _ (key_ne_tot _ _ _).symm, ng_set_ne h.srt _ _ (key_ne_tot _ _ _).symm, h.tot]
theorem es_recv {E : List Ent} {a : Nat} (h : EsI E a) {q : Int} (h1 : 1 ≤ q) (h2 : q ≤ 1000) {n : Nat} (hn : n ≤ 3) {y : Int} {N : List Ent} (hN : recvL E q 9 0 t_c2 t_c1 t_c2x t_bob t_cat n = (y, N)) :
    (y = 0 ∧ n ≤ a ∧ n ≠ 0 ∧ EsI N (a - n)) ∨ (y ≠ 0 ∧ (n = 0 ∨ ¬ n ≤ a)) := by
  have e : recvL E q 9 0 t_c2 t_c1 t_c2x t_bob t_cat n = if n = 0 then (1, []) else moveL E t_esc1 t_cat t_x n := by
    unfold recvL
    rw [es_arr, if_pos (show okDen (bysN t_x) = true by decide +kernel), es_okB q h1 h2 n, es_home.2, es_esc]
    unfold sel17
    by_cases h0 : n = 0
    · rw [decide_eq_true h0, if_pos h0]; rfl
    · rw [decide_eq_false h0, if_neg h0]; rfl
  rw [e] at hN
  by_cases h0 : n = 0
  · rw [if_pos h0] at hN
    obtain ⟨rfl, _⟩ := Prod.mk.inj hN
    exact .inr ⟨by decide, .inl h0⟩
  · rw [if_neg h0] at hN
    have hm : may2 t_esc1 t_cat t_x n = true := by
      unfold may2
      rw [decide_eq_false h0, show okName (bysN t_esc1) = true by decide +kernel, show okName (bysN t_cat) = true by decide +kernel, show okDn (bysN t_x) = true by decide +kernel]
      rfl
    by_cases hle : n ≤ a
    · have hc := h.acc t_cat (by decide)
      have h3 := move_yes hm es_ne.2.1 (by rw [h.esc]; exact hle) (wOk_small (n := ng E (keyB t_cat t_x) + n) (by omega))
      rw [h3] at hN
      obtain ⟨rfl, rfl⟩ := Prod.mk.inj hN
      refine .inl ⟨rfl, hle, h0, set_srt (set_srt h.srt _ _) _ _, h.bko.move h.srt h3, ?_, ?_⟩
      · rw [ng_set_ne (set_srt h.srt _ _) _ _ es_ne.2.2.2, ng_set h.srt _ (W256.small (by have := h.le; rw [h.esc]; omega)), h.esc]
      · rw [ng_set_ne (set_srt h.srt _ _) _ _ (key_ne_tot _ _ _).symm, ng_set_ne h.srt _ _ (key_ne_tot _ _ _).symm, h.tot]
    · rw [move_no hm (by rw [h.esc]; exact hle)] at hN
      obtain ⟨rfl, _⟩ := Prod.mk.inj hN
      exact .inr ⟨by decide, .inr hle⟩
end Go.Proofs.YtpcdgljcpacpiaaGreatDoor
