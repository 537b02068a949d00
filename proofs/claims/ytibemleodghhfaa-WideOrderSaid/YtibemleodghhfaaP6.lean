/- Contract of layer 4 (wide): Text. -/
import Derived.Test.YtibemleodghhfaaP5
import Derived.Test.YtibemleodghhfaaRev
import Derived.Test.YtibemleodghhfaaWd8
import Derived.Outline
namespace Go.Proofs.Ytibemleodghhfaa
open Go.RowKit
attribute [local go_sem ↓] Go.wp_at_zero Go.wp_at_succ
theorem infoByte : (Try.prog.info? 5).map (fun i => (i.zero, i.size, i.bytes)) = some (some (.int .u8 0), 1, 1) := by kernel_rfl
theorem part_ten (N : Nat) (hN : W256 N) (w : World) :
    Calls Try.prog 15 #[.agg #[.int .u64 (limb N 0), .int .u64 (limb N 1), .int .u64 (limb N 2), .int .u64 (limb N 3)], .int .u64 10] w fun e w' =>
      (∃ r : Nat, r = N % 10 ∧ e = .returned (.tuple #[.agg #[.int .u64 (limb (N / 10) 0), .int .u64 (limb (N / 10) 1), .int .u64 (limb (N / 10) 2), .int .u64 (limb (N / 10) 3)], .int .u64 (r : Int)])) ∧ Below w.heap.size w w' :=
  (part_yes N 10 hN (by decide) (by decide) w).mono fun _ _ ⟨a, b⟩ => ⟨⟨_, rfl, a⟩, b⟩
theorem own_below {w w' : World} {base : Nat} {e : TypeId} {size : Nat} {v : Value} {n : Nat} {xs : List Value} (h : w.ownsRow base e size v n xs) (hb : Below w.heap.size w w') : w'.ownsRow base e size v n xs :=
  h.kept (row := none) ⟨hb.os, hb.tape, hb.output, hb.size, fun k hk _ => hb.block k hk⟩ (by cases h' : v.ownBlock <;> simp)
theorem own_store4 {w : World} {base g : Nat} {e : TypeId} {size : Nat} {v : Value} {n : Nat} {xs : List Value} (h : w.ownsRow base e size v n xs) (hg : g < base) (a b c d : Value) :
    ((((w.setCell ⟨g, 0, none⟩ a).setCell ⟨g, 1, none⟩ b).setCell ⟨g, 2, none⟩ c).setCell ⟨g, 3, none⟩ d).ownsRow base e size v n xs :=
  ownsRow_setCell_below (ownsRow_setCell_below (ownsRow_setCell_below (ownsRow_setCell_below h hg a) hg b) hg c) hg d
theorem wpList_push_at {P : Program} {ops : Array Oper} {rest : List Oper} {o : Oper} {a : Act} {Q : Exit → Act → World → Prop} {w : World} (hgd : o.guard = none) (s x : Operand) (t : TypeId)
    (ho : o.op = .call { callee := .builtin .append, args := #[s, x], argTypes := #[t, t] })
    (base : Nat) (e : TypeId) (i : TypeInfo) (z : Value) (size bytes : Nat) (ht : P.underlying t = some (.slice e)) (hi : P.info? e = some i) (hz : i.zero = some z)
    (hsize : i.size = size) (hby : i.bytes = bytes) (hzs : z.cells.size = size) (hsz : 0 < size)
    (v : Value) (n : Nat) (xs : List Value) (hs : a.eval s = v) (hown : w.ownsRow base e size v n xs)
    (us : List Value) (b : Nat) (hx : a.eval x = .slice (some ⟨b, 0, none⟩) 1 1) (hb : b = w.heap.size) (hl : us.length = size) (h1 : us.all Value.oneCell' = true)
    (h63 : n + 1 ≤ maxLen) (hbytes : (n + 1) * bytes ≤ 140737488355328) (hbase : base ≤ w.heap.size)
    (h : ∀ v' w', w'.ownsRow base e size v' (n + 1) (xs ++ us) → Below base w w' → w.heap.size < w'.heap.size → wpList P ops Q rest (a.put o.dst v') w') :
    wpList P ops Q (o :: rest) a (w.alloc (.cells us.toArray e)) :=
  wpList_push hgd s x t ho base e i z size bytes ht hi hz hsize hby hzs hsz v n xs hs hown us (by rw [hx, hb]) hl h1 h63 hbytes hbase h
def lenOf (v : Value) : Nat := match v with | .slice _ k _ => 78 - k | _ => 78
theorem lenOf_own {w : World} {base : Nat} {e : TypeId} {v : Value} {n : Nat} {xs : List Value} (h : w.ownsRow base e 1 v n xs) : lenOf v = 78 - n := by
  rcases h.2 with ⟨rfl, rfl⟩ | ⟨g, cap, cur, rfl, _⟩
  · have := h.1; simp at this; subst this; rfl
  · rfl
set_option maxHeartbeats 1000000 in
theorem text_any (n : Nat) (hn : W256 n) (w : World) :
    Calls Try.prog 25 #[.agg #[.int .u64 (limb n 0), .int .u64 (limb n 1), .int .u64 (limb n 2), .int .u64 (limb n 3)]] w fun e w' => e = .returned (.string ⟨(txt n).toArray⟩) ∧ Below w.heap.size w w' := by
  obtain ⟨i0, hi0, iz0, iz1, iz2⟩ := info_parts infoByte
  go_enter Try.func25, Try.ntmps25
  go_wp2
  go_loopw [3] (fun v wr => ∃ (f c : Nat) (ds : List Nat), W256 c ∧ Hid (c < 10 ^ (f + 1) ∧ ds ++ dec (f + 1) c = dec 78 n ∧ ds.length + f = 77) ∧ Blk wr w.heap.size 26 (wcells c) ∧ wr.ownsRow (w.heap.size + 1) 5 1 v ds.length (decV ds) ∧ Below w.heap.size w wr ∧ w.heap.size < wr.heap.size) (fun v _ => lenOf v)
  case atStart => exact ⟨77, n, [], hn, ⟨Nat.lt_of_lt_of_le hn ten_pow, rfl, rfl⟩, blk1 w _ _, World.ownsRow_nil _ _ _ _, (Below.refl _ _).alloc (Nat.le_refl _) _, by simp⟩
  case round =>
    obtain ⟨f, c, ds, hc, hinv, hblk, hown, hb, hz⟩ := hrel
    have hcell := fun i => hblk.cell i
    unfold wcells at hcell
    go_wp2_with fail
    refine (part_ten c hc _).mono ?_
    rintro e w1 ⟨⟨r, hr, rfl⟩, hb1⟩
    have hblk1 := hblk.below hb1 hz
    have hcell1 := fun i => hblk1.cell i
    unfold wcells at hcell1
    have hfree1 := fun i => hblk1.free i
    have hr10 : (r : Int) < 10 := by omega
    have Hr := Lib.hid hr
    have hown1 := own_store4 (own_below hown hb1) (Nat.lt_succ_self _) (.int .u64 (limb (c / 10) 0)) (.int .u64 (limb (c / 10) 1)) (.int .u64 (limb (c / 10) 2)) (.int .u64 (limb (c / 10) 3))
    have hbs : ds.length ≤ 77 := by have := hinv.out.2.2; omega
    have hz1 : w.heap.size < w1.heap.size := by have := hb1.size; omega
    have hblk2 := hblk1.store4 (.int .u64 (limb (c / 10) 0)) (.int .u64 (limb (c / 10) 1)) (.int .u64 (limb (c / 10) 2)) (.int .u64 (limb (c / 10) 3))
    clear hr hcell
    go_wp2_with (at_builtin; go_must (refine wpList_push_at rfl _ _ 55 rfl (w.heap.size + 1) 5 i0 (.int .u8 0) 1 1 Try.underlying55 hi0 iz0 iz1 iz2 rfl (by decide) _ _ _ rfl hown1 [.int .u8 (48 + (r : Int))] _ rfl (by simp) rfl rfl (by unfold maxLen; omega) (by omega) (by simp [World.setCell]; omega) ?_); intro v1 w3 hown3 hb3 hz3; have hblk3 := hblk2.below hb3 (Nat.lt_succ_self _); have hcell3 := fun i => hblk3.cell i)
    have hc10 : W256 (c / 10) := by have := Nat.div_le_self c 10; unfold W256 at *; omega
    have hB1 : Below w.heap.size w w1 := hb.trans (hb1.mono (by omega))
    have hB3 : Below w.heap.size w w3 := (below_store4 hB1 (Nat.le_refl _) _ _ _ _).trans (hb3.mono (by omega))
    have hz4 : w.heap.size + 1 < w3.heap.size := by simp at hz3; omega
    rw [← decV_snoc] at hown3
    have hzz := zero_any (c / 10) hc10
    have Z := Lib.hid hzz
    clear hzz
    by_cases hq : c / 10 = 0
    · rw [decide_eq_true hq] at Z
      refine (Z.out _).mono ?_
      rintro e w4 ⟨rfl, hb4⟩
      have hB4 : Below w.heap.size w w4 := hB3.trans (hb4.mono (by omega))
      have hown4 := own_below hown3 hb4
      have hdec : ds ++ [r] = dec 78 n := by
        have h := hinv.out.2.1
        rw [dec_succ, if_pos hq, ← Hr.out] at h
        exact h
      have Hdec := Lib.hid hdec
      clear hq hdec hcell1 hfree1
      go_wp2_with fail
      have hlen : ds.length + 1 = (dec 78 n).length := by rw [← Hdec.out]; simp
      obtain ⟨g, cap, hv, hg1, hg2, _, _⟩ := own_form hown4 (by omega)
      rw [hv] at hown4 ⊢
      refine (reverse_any g (ds.length + 1) cap (w.heap.size + 1) (decV (ds ++ [r])) (by intro x hx; simp [decV] at hx; rcases hx with ⟨a, _, rfl⟩ | rfl <;> exact ⟨_, rfl⟩) (by omega) (by omega) w4 hown4 hg1).mono ?_
      rintro e w5 ⟨rfl, hown5, hb5⟩
      rw [decV_rev, Hdec.out] at hown5
      have hcv := run_convert_bytes_back (P := Try.prog) w5 55 9 5 ⟨g, 0, none⟩ cap (txt n) Try.underlying55 Try.underlying5 Try.underlying9 (fun j hj => by
        have e1 : (⟨g, 0, none⟩ : Addr).add j = ⟨g, j, none⟩ := by unfold Addr.add; split <;> simp_all
        rw [e1, hown5.cellAt j (by rw [txt_len] at hj; omega)]
        exact txt_cell n j hj)
      rw [txt_len, ← hlen] at hcv
      have Hlen := Lib.hid hlen
      clear hlen hcell3
      go_wp2_with fail
      go_ret
      exact ⟨rfl, hB4.trans (hb5.mono (by omega))⟩
    · rw [decide_eq_false hq] at Z
      refine (Z.out _).mono ?_
      rintro e w4 ⟨rfl, hb4⟩
      have hB4 : Below w.heap.size w w4 := hB3.trans (hb4.mono (by omega))
      have hown4 := own_below hown3 hb4
      have hblk4 := hblk3.below hb4 (by omega)
      obtain ⟨f', rfl⟩ : ∃ f', f = f' + 1 := by
        rcases Nat.eq_zero_or_pos f with h0 | h0
        · subst h0; have := hinv.out.1; omega
        · exact ⟨f - 1, by omega⟩
      have hinv' : Hid (c / 10 < 10 ^ (f' + 1) ∧ (ds ++ [r]) ++ dec (f' + 1) (c / 10) = dec 78 n ∧ (ds ++ [r]).length + f' = 77) := by
        have h := hinv.out.2.1
        rw [dec_succ, if_neg hq, ← Hr.out] at h
        refine ⟨div_lt_pow hinv.out.1, ?_, ?_⟩
        · rw [List.append_assoc]; exact h
        · have := hinv.out.2.2; simp; omega
      have hm1 := Lib.hid (lenOf_own hown4)
      have hm2 := Lib.hid (lenOf_own hown)
      clear hq hcell1 hfree1 hcell3
      go_wp2_with fail
      refine ⟨⟨f', c / 10, ds ++ [r], hc10, hinv', hblk4, by simpa using hown4, hB4, by have := hb4.size; omega⟩, ?_⟩
      show lenOf _ < lenOf _
      rw [hm1.out, hm2.out]
      omega
end Go.Proofs.Ytibemleodghhfaa
