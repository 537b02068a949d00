/- The law DictFull: a map has 2000 entries at most (the walk, over the contracts of all that it calls). -/
import Derived.Test.YtkahnobignaccaaDi
import Derived.Test.YtkahnobignaccaaDh
import Derived.Test.YtkahnobignaccaaDg
import Derived.Laws.BytesArg
namespace Go.Proofs.Ytkahnobignaccaa
open Go.RowKit
attribute [local go_sem ↓] Go.wp_at_zero Go.wp_at_succ
def keyN (i : Nat) : ByteArray := ⟨#[UInt8.ofNat (i / 256), UInt8.ofNat (i % 256)]⟩
def keysL (n : Nat) : List Ent := (List.range n).map fun i => (keyN i, ⟨#[118]⟩)
theorem keys_len (n : Nat) : (keysL n).length = n := by simp [keysL]
theorem keys_succ (n : Nat) : keysL (n + 1) = keysL n ++ [(keyN n, ⟨#[118]⟩)] := by simp [keysL, List.range_succ]
theorem conv_two (w : World) (x y : Int) (cap : Nat) :
    (convert 24 9 (.slice (some ⟨w.heap.size, 0, none⟩) 2 cap)).run Try.prog (w.alloc (.cells #[.int .u8 x, .int .u8 y] 5)) = .ok (.string ⟨#[UInt8.ofNat x.toNat, UInt8.ofNat y.toNat]⟩) (w.alloc (.cells #[.int .u8 x, .int .u8 y] 5)) := by
  rw [run_convert_bytes_arg (w.alloc (.cells #[.int .u8 x, .int .u8 y] 5)) 24 5 Try.underlying24 Try.underlying5 w.heap.size 0 2 cap [x, y] rfl (by
    intro i hi
    have : i = 0 ∨ i = 1 := by omega
    rcases this with rfl | rfl <;> simp [go_sem]) 9 Try.underlying9]
  rfl
theorem conv_key (w : World) (k : Nat) :
    (convert 24 9 (.slice (some ⟨w.heap.size, 0, none⟩) 2 2)).run Try.prog (w.alloc (.cells #[.int .u8 ((k : Int) / 256), .int .u8 ((k : Int) % 256)] 5)) = .ok (.string (keyN k)) (w.alloc (.cells #[.int .u8 ((k : Int) / 256), .int .u8 ((k : Int) % 256)] 5)) := by
  rw [conv_two]
  rfl
theorem conv_07 (w : World) :
    (convert 24 9 (.slice (some ⟨w.heap.size, 0, none⟩) 2 2)).run Try.prog (w.alloc (.cells #[.int .u8 0, .int .u8 7] 5)) = .ok (.string (keyN 7)) (w.alloc (.cells #[.int .u8 0, .int .u8 7] 5)) := by
  rw [conv_two]
  rfl
theorem conv_07at (w : World) (g : Nat) (hg : g = w.heap.size) :
    (convert 24 9 (.slice (some ⟨g, 0, none⟩) 2 2)).run Try.prog (w.alloc (.cells #[.int .u8 0, .int .u8 7] 5)) = .ok (.string (keyN 7)) (w.alloc (.cells #[.int .u8 0, .int .u8 7] 5)) := by
  subst hg; exact conv_07 w
theorem full_k (n : Int) : ∃ K : Nat, 1995 ≤ K ∧ K ≤ 2004 ∧ wrap64 (1995 + (wrap64 (n.tmod 10 + 10)).tmod 10) = (K : Int) := by
  have t1 := Int.tmod_lt_of_pos n (b := 10) (by decide)
  have t2 := Int.lt_tmod_of_pos n (b := 10) (by decide)
  have t3 := Int.tmod_lt_of_pos (n.tmod 10 + 10) (b := 10) (by decide)
  have t4 := Int.tmod_nonneg (a := n.tmod 10 + 10) 10 (by omega)
  have h1 : wrap64 (n.tmod 10 + 10) = n.tmod 10 + 10 := by unfold wrap64; omega
  rw [h1]
  have h2 : wrap64 (1995 + (n.tmod 10 + 10).tmod 10) = 1995 + (n.tmod 10 + 10).tmod 10 := by unfold wrap64; omega
  exact ⟨(1995 + (n.tmod 10 + 10).tmod 10).toNat, by omega, by omega, by rw [h2]; omega⟩
set_option maxHeartbeats 4000000 in
set_option maxRecDepth 100000 in
theorem full_walk (n : Int) (K : Nat) (F G : List Ent) (N c1 : Int) (w : World) (hK1 : 1995 ≤ K) (hK2 : K ≤ 2004) (hKe : Hid (wrap64 (1995 + (wrap64 (n.tmod 10 + 10)).tmod 10) = (K : Int)))
    (Hof : Hid (∀  w v, Ents w v (keysL K) → Calls Try.prog 10 #[v] w fun e w' => ∃ v', e = .returned (.agg #[v']) ∧ Ents w' v' F ∧ Below w.heap.size w w'))
    (Hp1 : Hid (∀ w v, Ents w v F → Calls Try.prog 11 #[.agg #[v], .string ⟨#[122, 122]⟩, .string ⟨#[118]⟩] w fun e w' => ∃ q m c, e = .returned (.tuple #[.agg #[.slice q m c], .int .i64 c1]) ∧ Below w.heap.size w w'))
    (Hp2 : Hid (∀  w v, Ents w v F → Calls Try.prog 11 #[.agg #[v], .string (keyN 7), .string ⟨#[119]⟩] w fun e w' => ∃ v', e = .returned (.tuple #[.agg #[v'], .int .i64 0]) ∧ Ents w' v' G ∧ Below w.heap.size w w'))
    (Hget : Hid (∀  w v, Ents w v G → Calls Try.prog 12 #[.agg #[v], .string (keyN 7)] w fun e w' => e = .returned (.tuple #[.string ⟨#[119]⟩, .bool true]) ∧ Below w.heap.size w w'))
    (Hlen : Hid (∀  w v, Ents w v F → Calls Try.prog 13 #[.agg #[v]] w fun e w' => e = .returned (.int .i64 N) ∧ Below w.heap.size w w'))
    (HK : Hid ((N = (K : Int) ∧ ¬ (2000 : Int) < (K : Int) ∧ (K : Int) < 2000 ∧ c1 = 0) ∨ (N = (K : Int) ∧ ¬ (2000 : Int) < (K : Int) ∧ ¬ (K : Int) < 2000 ∧ c1 = 15) ∨ (N = 2000 ∧ (2000 : Int) < (K : Int) ∧ c1 = 15))) :
    Calls Try.prog 3 #[.int .i64 n] w fun e w' => e = .returned (.bool true) ∧ Below w.heap.size w w' := by
  obtain ⟨i0, hi0, hz0, hz1, hz2⟩ := info_parts infoE
  go_enter Try.func3, Try.ntmps3
  go_wp2_with fail
  refine (awake08_any _).mono ?_
  rintro e w1 ⟨rfl, hb1⟩
  go_wp2_with fail
  rw [hKe.out]
  clear hKe
  go_loopw [5, 6] (fun o i wr => ∃ k : Nat, k ≤ K ∧ i = .int .i64 (k : Int) ∧ wr.ownsRow w1.heap.size 26 2 o k (entV (keysL k)) ∧ Below w1.heap.size w1 wr) (fun _ i _ => K - (intOf i).toNat)
  case atStart => exact ⟨0, by omega, rfl, World.ownsRow_nil _ _ _ _, Below.refl _ _⟩
  case round =>
    obtain ⟨k, hk, rfl, hown, hb⟩ := hrel
    by_cases hlt : k < K
    · have hk1 : (k : Int) < (K : Int) := by omega
      have hsz := hb.size
      have hk2 : wrap64 ((k : Int) + 1) = (k : Int) + 1 := by unfold wrap64; omega
      have hcv := conv_key wr k
      have hown2 := hown.alloc (.cells #[.int .u8 ((k : Int) / 256), .int .u8 ((k : Int) % 256)] 5)
      have hvv : entV (keysL (k + 1)) = entV (keysL k) ++ [.string (keyN k), .string ⟨#[118]⟩] := by rw [keys_succ, entV_app]; rfl
      have Hvv := Lib.hid hvv
      clear hvv hown
      go_wp2_with (at_builtin; go_must (refine wpList_push_at rfl _ _ 23 rfl w1.heap.size 26 i0 (.agg #[.string ⟨#[]⟩, .string ⟨#[]⟩]) 2 32 Try.underlying23 hi0 hz0 hz1 hz2 rfl (by decide) _ _ _ rfl hown2 [.string (keyN k), .string ⟨#[118]⟩] _ rfl (by simp) rfl rfl (by unfold maxLen; omega) (by omega) (by simp; omega) ?_); intro v1 w3' hown3 hb3' hz3)
      rw [← Hvv.out] at hown3
      go_roundw
      case rel => exact ⟨k + 1, by omega, by go_num, hown3, (hb.alloc hsz _).trans hb3'⟩
      case measure => simp [intOf]; omega
    · obtain rfl : k = K := by omega
      have e_l : Hid (Ents wr u5 (keysL k)) := own_ents (E := keysL k) (by rw [keys_len]; exact hown)
      have BB := BW_on hb1 hb
      clear hown hb1
      have BB' := Lib.hid BB
      clear BB
      go_wp2_with fail
      refine (Hof.out _ _ e_l.out).mono ?_
      rintro e w2 ⟨v_d, rfl, hen, hb2⟩
      obtain ⟨q_d, z_d, rfl⟩ : ∃ q c, v_d = .slice q F.length c := hen.len
      have k_d := blk1 w2 28 #[.slice q_d F.length z_d]
      have e_d := Lib.hid (hen.on (BW_alloc (BW_refl _) (.cells #[.slice q_d F.length z_d] 28)))
      have BB := BW_alloc (BW_on BB'.out hb2) (.cells #[.slice q_d F.length z_d] 28)
      clear e_l hen hb BB'
      replace hb2 := Lib.hid hb2
      have c_d := fun i => k_d.cell i
      rcases HK.out with ⟨rfl, hc1, hc2, rfl⟩ | ⟨rfl, hc1, hc2, rfl⟩ | ⟨rfl, hc1, rfl⟩
      all_goals
        clear HK
        go_wp2_with fail
        refine (Hp1.out _ _ e_d.out).mono ?_
        rintro e w4 ⟨q1, m1, z1, rfl, hb4⟩
        replace k_d := (k_d.on hb4).alloc (.cells #[.slice q1 m1 z1] 28)
        replace e_d := Lib.hid ((e_d.out.on hb4).on (BW_alloc (BW_refl _) (.cells #[.slice q1 m1 z1] 28)))
        replace BB := BW_alloc (BW_on BB hb4) (.cells #[.slice q1 m1 z1] 28)
        clear c_d
        have cv := conv_07at (w4.alloc (.cells #[.slice q1 m1 z1] 28)) (w4.heap.size + 1) (by simp)
        have c_d := fun i => k_d.cell i
        go_wp2_with fail
        refine (Hp2.out _ _ (e_d.out.on (BW_alloc (BW_refl _) (.cells #[.int .u8 0, .int .u8 7] 5)))).mono ?_
        rintro e w5 ⟨v_x, rfl, hen, hb5⟩
        obtain ⟨q_x, z_x, rfl⟩ : ∃ q c, v_x = .slice q G.length c := hen.len
        clear c_d cv
        replace k_d := ((k_d.alloc (.cells #[.int .u8 0, .int .u8 7] 5)).on hb5).alloc (.cells #[.slice q_x G.length z_x] 28)
        replace e_d := Lib.hid (((e_d.out.on (BW_alloc (BW_refl _) (.cells #[.int .u8 0, .int .u8 7] 5))).on hb5).on (BW_alloc (BW_refl _) (.cells #[.slice q_x G.length z_x] 28)))
        replace BB := BW_alloc (BW_on (BW_alloc BB (.cells #[.int .u8 0, .int .u8 7] 5)) hb5) (.cells #[.slice q_x G.length z_x] 28)
        have k_x := blk1 w5 28 #[.slice q_x G.length z_x]
        have e_x := Lib.hid (hen.on (BW_alloc (BW_refl _) (.cells #[.slice q_x G.length z_x] 28)))
        clear hen
        have cv := conv_07at (w5.alloc (.cells #[.slice q_x G.length z_x] 28)) (w5.heap.size + 1) (by simp)
        have c_d := fun i => k_d.cell i
        have c_x := fun i => k_x.cell i
        go_wp2_with fail
        refine (Hget.out _ _ (e_x.out.on (BW_alloc (BW_refl _) (.cells #[.int .u8 0, .int .u8 7] 5)))).mono ?_
        rintro e w6 ⟨rfl, hb6⟩
        clear c_d cv c_x k_x
        replace k_d := (k_d.alloc (.cells #[.int .u8 0, .int .u8 7] 5)).on hb6
        replace e_d := Lib.hid ((e_d.out.on (BW_alloc (BW_refl _) (.cells #[.int .u8 0, .int .u8 7] 5))).on hb6)
        replace BB := BW_on (BW_alloc BB (.cells #[.int .u8 0, .int .u8 7] 5)) hb6
        have c_d := fun i => k_d.cell i
        go_wp2_with fail
        refine (Hlen.out _ _ e_d.out).mono ?_
        rintro e w7 ⟨rfl, hb7⟩
        go_wp2_with fail
        go_ret
        exact ⟨by first | rfl | (simp; omega), BW_on BB hb7⟩
end Go.Proofs.Ytkahnobignaccaa
