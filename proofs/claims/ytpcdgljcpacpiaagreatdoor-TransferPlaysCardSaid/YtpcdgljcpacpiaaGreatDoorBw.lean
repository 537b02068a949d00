/- What bank's maps are, of no walk: what there is of a denomination is what all accounts have of it; so no such map has just one entry. -/
import Derived.Test.YtpcdgljcpacpiaaGreatDoorBr
import Derived.Test.YtpcdgljcpacpiaaGreatDoorBe
namespace Go.Proofs.YtpcdgljcpacpiaaGreatDoor
open Go.RowKit
theorem sum_upd {f f' : ByteArray → Nat} {a : ByteArray} : ∀ {l : List ByteArray}, l.Nodup → a ∈ l → (∀ b ∈ l, b ≠ a → f' b = f b) → (l.map f').sum + f a = (l.map f).sum + f' a
  | [], _, h, _ => by cases h
  | x :: r, hn, h, he => by
    obtain ⟨hx, hr⟩ := List.nodup_cons.1 hn
    have hs : ∀ {l : List ByteArray}, (∀ b ∈ l, f' b = f b) → (l.map f').sum = (l.map f).sum := fun {l} h => by rw [List.map_congr_left h]
    simp only [List.map_cons, List.sum_cons]
    by_cases hxa : x = a
    · subst hxa
      have := hs (l := r) fun b hb => he b (List.mem_cons_of_mem _ hb) (fun e => hx (e ▸ hb))
      omega
    · have h1 : a ∈ r := by
        rcases List.mem_cons.1 h with h | h
        · exact absurd h.symm hxa
        · exact h
      have h2 := sum_upd hr h1 (fun b hb => he b (List.mem_cons_of_mem _ hb))
      have h3 := he x (List.mem_cons_self ..) hxa
      omega
theorem sum_same {f f' : ByteArray → Nat} {l : List ByteArray} (h : ∀ b ∈ l, f' b = f b) : (l.map f').sum = (l.map f).sum := by rw [List.map_congr_left h]
theorem sum_zero {f : ByteArray → Nat} {l : List ByteArray} (h : ∀ b ∈ l, f b = 0) : (l.map f).sum = 0 := by
  induction l with
  | nil => rfl
  | cons x r ih => simp only [List.map_cons, List.sum_cons]; rw [h x (List.mem_cons_self ..), ih fun b hb => h b (List.mem_cons_of_mem _ hb)]
theorem le_sum {f : ByteArray → Nat} {l : List ByteArray} {a : ByteArray} (h : a ∈ l) : f a ≤ (l.map f).sum := by
  induction l with
  | nil => cases h
  | cons x r ih =>
    simp only [List.map_cons, List.sum_cons]
    rcases List.mem_cons.1 h with rfl | h
    · omega
    · have := ih h; omega
def sumA (E : List Ent) (l : List ByteArray) (d : ByteArray) : Nat := (l.map fun a => ng E (keyB a d)).sum
/-- A bank's map: its keys are accounts' of a list, and totals; what the accounts have of a denomination is its total. -/
structure BkI (E : List Ent) (l : List ByteArray) : Prop where
  nd : l.Nodup
  sz : ∀ a ∈ l, a.size ≤ 64
  keys : ∀ k v, getL E k = some v → (∃ d, d.size ≤ 200 ∧ k = totB d) ∨ ∃ a ∈ l, ∃ d, d.size ≤ 200 ∧ k = keyB a d
  sum : ∀ d, d.size ≤ 200 → sumA E l d = ng E (totB d)
theorem ng_some {E : List Ent} {k : ByteArray} (h : ng E k ≠ 0) : ∃ v, getL E k = some v := by
  cases hg : getL E k with
  | none => exact absurd (ng_of_none hg) h
  | some v => exact ⟨v, rfl⟩
theorem BkI.with {E : List Ent} {l : List ByteArray} (h : BkI E l) (a : ByteArray) (ha : a.size ≤ 64) : ∃ l', BkI E l' ∧ a ∈ l' ∧ ∀ b ∈ l, b ∈ l' := by
  by_cases hm : a ∈ l
  · exact ⟨l, h, hm, fun _ hb => hb⟩
  · have hz : ∀ d, d.size ≤ 200 → ng E (keyB a d) = 0 := fun d hd => by
      cases hg : getL E (keyB a d) with
      | none => exact ng_of_none hg
      | some v =>
        rcases h.keys _ _ hg with ⟨d', _, e⟩ | ⟨a', ha', d', hd', e⟩
        · exact absurd e (key_ne_tot a d d')
        · have := (key_inj (by omega) (by have := h.sz a' ha'; omega) (by omega) (by omega) e).1
          subst this
          exact absurd ha' hm
    refine ⟨a :: l, ⟨List.nodup_cons.2 ⟨hm, h.nd⟩, ?_, ?_, ?_⟩, List.mem_cons_self .., fun b hb => List.mem_cons_of_mem _ hb⟩
    · intro b hb
      rcases List.mem_cons.1 hb with rfl | hb
      · exact ha
      · exact h.sz b hb
    · intro k v hg
      rcases h.keys k v hg with h1 | ⟨b, hb, d, hd, e⟩
      · exact .inl h1
      · exact .inr ⟨b, List.mem_cons_of_mem _ hb, d, hd, e⟩
    · intro d hd
      show ng E (keyB a d) + sumA E l d = _
      rw [hz d hd, Nat.zero_add, h.sum d hd]
theorem sumA_key {E : List Ent} (hs : Srt E) {l : List ByteArray} (h1 : l.Nodup) (h2 : ∀ b ∈ l, b.size ≤ 64) {a d : ByteArray} (ha : a ∈ l) (hd : d.size ≤ 200) {n : Nat} (hn : W256 n) (d' : ByteArray) (hd' : d'.size ≤ 200) :
    sumA (setL E (keyB a d) n) l d' + (if d' = d then ng E (keyB a d) else 0) = sumA E l d' + (if d' = d then n else 0) := by
  have inj : ∀ b ∈ l, keyB b d' = keyB a d → b = a ∧ d' = d := fun b hb e => key_inj (by have := h2 b hb; omega) (by have := h2 a ha; omega) (by omega) (by omega) e
  by_cases hdd : d' = d
  · subst hdd
    rw [if_pos rfl, if_pos rfl]
    have h3 := sum_upd (f := fun b => ng E (keyB b d')) (f' := fun b => ng (setL E (keyB a d') n) (keyB b d')) h1 ha (fun b hb hne => by
      show ng (setL E (keyB a d') n) (keyB b d') = ng E (keyB b d')
      rw [ng_set_ne hs _ _ (fun e => hne (inj b hb e).1)])
    have h4 : ng (setL E (keyB a d') n) (keyB a d') = n := ng_set hs _ hn
    unfold sumA
    simp only [h4] at h3
    exact h3
  · rw [if_neg hdd, if_neg hdd]
    unfold sumA
    rw [sum_same fun b hb => ng_set_ne hs _ _ (fun e => hdd (inj b hb e).2)]
theorem keys_set {E : List Ent} (hs : Srt E) {P : ByteArray → Prop} (h : ∀ k v, getL E k = some v → P k) (k0 : ByteArray) (n : Nat) (h0 : P k0) : ∀ k v, getL (setL E k0 n) k = some v → P k := fun k v hg => by
  rw [get_setL hs] at hg
  by_cases hk : k = k0
  · rw [hk]; exact h0
  · rw [if_neg hk] at hg; exact h k v hg
theorem bki_pass {E : List Ent} (hs : Srt E) {l : List ByteArray} (h : BkI E l) {a b d : ByteArray} (ha : a.size ≤ 64) (hb : b.size ≤ 64) (hab : a ≠ b) (hd : d.size ≤ 200) {x y : Nat} (hx : W256 x) (hy : W256 y) (he : x + y = ng E (keyB a d) + ng E (keyB b d)) :
    ∃ l', BkI (setL (setL E (keyB a d) x) (keyB b d) y) l' := by
  obtain ⟨l0, h0, hm0, _⟩ := h.with a ha
  obtain ⟨l', h', hmb, hsub⟩ := h0.with b hb
  have hma := hsub a hm0
  refine ⟨l', h'.nd, h'.sz, ?_, ?_⟩
  · exact keys_set (set_srt hs _ _) (keys_set hs h'.keys _ _ (.inr ⟨a, hma, d, hd, rfl⟩)) _ _ (.inr ⟨b, hmb, d, hd, rfl⟩)
  · intro d' hd'
    have h1 := sumA_key (set_srt hs (keyB a d) x) h'.nd h'.sz hmb hd hy d' hd'
    have h2 := sumA_key hs h'.nd h'.sz hma hd hx d' hd'
    rw [ng_set_ne hs _ _ (fun e => hab (key_inj (by omega) (by omega) (by omega) (by omega) e).1.symm)] at h1
    have h3 := h'.sum d' hd'
    rw [ng_set_ne (set_srt hs _ _) _ _ (key_ne_tot b d d').symm, ng_set_ne hs _ _ (key_ne_tot a d d').symm]
    by_cases hdd : d' = d
    · rw [if_pos hdd, if_pos hdd] at h1 h2
      omega
    · rw [if_neg hdd, if_neg hdd] at h1 h2
      omega
theorem bki_move {E : List Ent} (hs : Srt E) {l : List ByteArray} (h : BkI E l) {a b d : ByteArray} {n : Nat} {A : List Ent} (hA : moveL E a b d n = (0, A)) : ∃ l', BkI A l' := by
  obtain ⟨h1, h2, ⟨_, rfl⟩ | ⟨h3, w1, rfl⟩⟩ := move_set hA
  · exact ⟨l, h⟩
  · obtain ⟨_, h4, h5, h6⟩ := may2_pos h1
    exact bki_pass hs h (okName_size h4) (okName_size h5) h3 (okDn_size h6) (ng_lt _ _).sub w1 (by omega)
/-- No such map has just one entry. -/
theorem bki_one {E : List Ent} {l : List ByteArray} (h : BkI E l) (hc : Can E) : E.length ≠ 1 := by
  intro he
  obtain ⟨x, rfl⟩ := List.length_eq_one_iff.1 he
  obtain ⟨k, v⟩ := x
  have g : ∀ o, getL [(k, v)] o = if k = o then some v else none := fun o => by
    by_cases ho : k = o <;> simp [getL, ho]
  have g1 : getL [(k, v)] k = some v := by rw [g, if_pos rfl]
  have only : ∀ o, ng [(k, v)] o ≠ 0 → k = o := fun o ho => by
    obtain ⟨u, hu⟩ := ng_some ho
    rw [g] at hu
    by_cases hk : k = o
    · exact hk
    · rw [if_neg hk] at hu; cases hu
  obtain ⟨n, hn0, hn, rfl⟩ := hc k v g1
  have hk : ng [(k, wbB n)] k ≠ 0 := by rw [ng_of_get g1, numB_wbB hn]; exact hn0
  rcases h.keys k _ g1 with ⟨d, hd, rfl⟩ | ⟨a, ha, d, hd, rfl⟩
  · have hsum := h.sum d hd
    rw [← hsum] at hk
    apply hk
    refine sum_zero fun b _ => ?_
    by_cases hz : ng [(totB d, wbB n)] (keyB b d) = 0
    · exact hz
    · exact absurd (only _ hz).symm (key_ne_tot b d d)
  · have hsum := h.sum d hd
    have hle : ng [(keyB a d, wbB n)] (keyB a d) ≤ sumA [(keyB a d, wbB n)] l d := le_sum (f := fun b => ng [(keyB a d, wbB n)] (keyB b d)) ha
    have hz : ng [(keyB a d, wbB n)] (totB d) ≠ 0 := by omega
    exact key_ne_tot a d d (only _ hz)
/-- A map that bank's calls alone have made. -/
def BkO (E : List Ent) : Prop := Can E ∧ ∃ l, BkI E l
theorem BkO.one {E : List Ent} (h : BkO E) : E.length ≠ 1 := by
  obtain ⟨hc, l, hl⟩ := h
  exact bki_one hl hc
theorem BkO.move {E : List Ent} (h : BkO E) (hs : Srt E) {a b d : ByteArray} {n : Nat} {A : List Ent} (hA : moveL E a b d n = (0, A)) : BkO A := by
  obtain ⟨hc, l, hl⟩ := h
  exact ⟨move_can hs hc hA, bki_move hs hl hA⟩
end Go.Proofs.YtpcdgljcpacpiaaGreatDoor
