/- Contracts of layer 11 (bank): what more and less make; does, over two of them; may. -/
import Derived.Test.YtpcdgljcpacpiaaGreatDoorBc
import Derived.WalkMore
namespace Go.Proofs.YtpcdgljcpacpiaaGreatDoor
open Go.RowKit
attribute [local go_sem ↓] Go.wp_at_zero Go.wp_at_succ
def thenL (r : Int × List Ent) (f : List Ent → Int × List Ent) : Int × List Ent := if r.1 = 0 then f r.2 else r
theorem more_ok {E : List Ent} {k : ByteArray} {n : Nat} {L : List Ent} (hs : Srt E) (h : moreL E k n = (0, L)) : Srt L ∧ L.length ≤ E.length + 1 := by
  unfold moreL at h
  split at h
  · obtain rfl := (Prod.mk.inj h).2
    have := put_len hs k (wbB (ng E k + n))
    exact ⟨put_srt hs _ _, by omega⟩
  · exact absurd (Prod.mk.inj h).1 (by decide)
theorem less_ok {E : List Ent} {k : ByteArray} {n : Nat} {L : List Ent} (hs : Srt E) (h : lessL E k n = (0, L)) : Srt L ∧ L.length ≤ E.length + 1 := by
  unfold lessL at h
  split at h
  · obtain rfl := (Prod.mk.inj h).2
    exact ⟨set_srt hs _ _, set_len hs _ _⟩
  · exact absurd (Prod.mk.inj h).1 (by decide)
theorem more_any (k : ByteArray) (n : Nat) (w : World) : Calls Tryz.prog 97 #[.string k, .agg #[.int .u64 (limb n 0), .int .u64 (limb n 1), .int .u64 (limb n 2), .int .u64 (limb n 3)]] w fun e w' =>
    e = .returned (.func (.func 114) #[] #[.pointer (some ⟨w.heap.size, 0, none⟩), .pointer (some ⟨w.heap.size + 1, 0, none⟩)]) ∧ w' = (w.alloc (.cells #[.string k] 9)).alloc (.cells #[.int .u64 (limb n 0), .int .u64 (limb n 1), .int .u64 (limb n 2), .int .u64 (limb n 3)] 31) := by
  go_enter Tryz.func97, Tryz.ntmps97
  go_wp2
  go_ret
  exact ⟨rfl, rfl⟩
theorem less_any (k : ByteArray) (n : Nat) (w : World) : Calls Tryz.prog 67 #[.string k, .agg #[.int .u64 (limb n 0), .int .u64 (limb n 1), .int .u64 (limb n 2), .int .u64 (limb n 3)]] w fun e w' =>
    e = .returned (.func (.func 91) #[] #[.pointer (some ⟨w.heap.size, 0, none⟩), .pointer (some ⟨w.heap.size + 1, 0, none⟩)]) ∧ w' = (w.alloc (.cells #[.string k] 9)).alloc (.cells #[.int .u64 (limb n 0), .int .u64 (limb n 1), .int .u64 (limb n 2), .int .u64 (limb n 3)] 31) := by
  go_enter Tryz.func67, Tryz.ntmps67
  go_wp2
  go_ret
  exact ⟨rfl, rfl⟩
set_option maxHeartbeats 4000000 in
set_option maxRecDepth 100000 in
theorem does_mm (v : Value) (E : List Ent) (k1 k2 : ByteArray) (n1 n2 b1 b2 g : Nat) (w : World) (hv : Ents w v E) (hs : Srt E) (hl : E.length ≤ 1800) (hk1 : k1.size ≤ 400) (hk2 : k2.size ≤ 400) (hn1 : W256 n1) (hn2 : W256 n2)
    (hr : Blk w g 88 #[.func (.func 114) #[] #[.pointer (some ⟨b1, 0, none⟩), .pointer (some ⟨b1 + 1, 0, none⟩)], .func (.func 114) #[] #[.pointer (some ⟨b2, 0, none⟩), .pointer (some ⟨b2 + 1, 0, none⟩)]]) (hp1 : Blk w b1 9 #[.string k1]) (hq1 : Blk w (b1 + 1) 31 #[.int .u64 (limb n1 0), .int .u64 (limb n1 1), .int .u64 (limb n1 2), .int .u64 (limb n1 3)]) (hp2 : Blk w b2 9 #[.string k2]) (hq2 : Blk w (b2 + 1) 31 #[.int .u64 (limb n2 0), .int .u64 (limb n2 1), .int .u64 (limb n2 2), .int .u64 (limb n2 3)]) :
    Calls Tryz.prog 66 #[.agg #[v], .slice (some ⟨g, 0, none⟩) 2 2] w fun e w' => ∃ q cap, e = .returned (.tuple #[.agg #[.slice q (thenL (moreL E k1 n1) fun L => moreL L k2 n2).2.length cap], .int .i64 (thenL (moreL E k1 n1) fun L => moreL L k2 n2).1]) ∧ Ents w' (.slice q (thenL (moreL E k1 n1) fun L => moreL L k2 n2).2.length cap) (thenL (moreL E k1 n1) fun L => moreL L k2 n2).2 ∧ Below w.heap.size w w' := by
  obtain ⟨q, cap, rfl⟩ := hv.len
  rcases hR : moreL E k1 n1 with ⟨x1, L1⟩
  have C1 := fun w v hv hp hq => more1_any v E k1 n1 b1 (b1 + 1) w hv hs (by omega) hk1 hn1 hp hq
  rw [hR] at C1
  have C1 := Lib.hid C1
  have hb0 := BW_alloc (BW_alloc (BW_refl w) (.cells #[.slice q E.length cap] 27)) (.cells #[.slice none 0 0] 27)
  have kd := (blk1 w 27 #[.slice q E.length cap]).alloc (.cells #[.slice none 0 0] 27)
  have ko := blk2 w (.cells #[.slice q E.length cap] 27) 27 #[.slice none 0 0]
  have hltg := hr.lt
  have hlt1 := hp1.lt
  have hlt2 := hq1.lt
  have hlt3 := hp2.lt
  have hlt4 := hq2.lt
  have r0 := hr.on hb0
  have p1 := hp1.on hb0
  have q1' := hq1.on hb0
  have p2 := hp2.on hb0
  have q2' := hq2.on hb0
  have v0 := Lib.hid (hv.on hb0)
  have cr := fun i => r0.cell i
  have cd := fun i => kd.cell i
  clear hv hr hp1 hq1 hp2 hq2
  go_enter Tryz.func66, Tryz.ntmps66
  go_wp2_with fail
  refine wp_scope_straight ?_
  go_wp2_with fail
  refine wp_label ?_
  go_wp2_with fail
  refine wp_loop_rounds 3 ?_
  rw [rounds_succ]
  go_wp2_with fail
  refine (C1.out _ _ v0.out p1 q1').mono ?_
  rintro e w1 ⟨q1, c1, rfl, hen1, hb1⟩
  replace r0 := (r0.on hb1).far (p := ⟨w.heap.size, 0, none⟩) (by show g ≠ w.heap.size; omega) (.slice q1 L1.length c1)
  replace p2 := (p2.on hb1).far (p := ⟨w.heap.size, 0, none⟩) (by show b2 ≠ w.heap.size; omega) (.slice q1 L1.length c1)
  replace q2' := (q2'.on hb1).far (p := ⟨w.heap.size, 0, none⟩) (by show b2 + 1 ≠ w.heap.size; omega) (.slice q1 L1.length c1)
  have ko0 := ko.on hb1
  replace ko := ko0.far (p := ⟨w.heap.size, 0, none⟩) (by show w.heap.size + 1 ≠ w.heap.size; omega) (.slice q1 L1.length c1)
  have kd1 := kd.on hb1
  have hef1 := hen1.box kd1 (.slice q1 L1.length c1)
  have hbf1 := (BW_on hb0 hb1).setCell (p := ⟨w.heap.size, 0, none⟩) (Nat.le_refl _) (.slice q1 L1.length c1)
  have kd2 := kd1.set_ 0 (.slice q1 L1.length c1)
  have cd1 := fun i => kd1.cell i
  have fd1 := fun i => kd1.free i
  clear cr cd hen1 hb1 p1 q1' kd
  by_cases hx : x1 = 0
  · subst hx
    have hok := more_ok hs hR
    rcases hR2 : moreL L1 k2 n2 with ⟨x2, L2⟩
    have C2 := fun w v hv hp hq => more1_any v L1 k2 n2 b2 (b2 + 1) w hv hok.1 (by have := hok.2; omega) hk2 hn2 hp hq
    rw [hR2] at C2
    have C2 := Lib.hid C2
    have hD : Hid ((thenL (0, L1) fun L => moreL L k2 n2) = (x2, L2)) := Lib.hid hR2
    clear hR hR2 hok
    go_wp2_with fail
    rw [rounds_succ]
    clear cd1 fd1 kd1
    generalize w1.setCell ⟨w.heap.size, 0, none⟩ (.slice q1 L1.length c1) = V1 at *
    have cr := fun i => r0.cell i
    have cd := fun i => kd2.cell i
    go_wp2_with fail
    refine (C2.out _ _ hef1 p2 q2').mono ?_
    rintro e w2 ⟨q2, c2, rfl, hen2, hb2⟩
    have kd3 := kd2.on hb2
    have hef2 := hen2.box kd3 (.slice q2 L2.length c2)
    have hbf2 := (BW_on hbf1 hb2).setCell (p := ⟨w.heap.size, 0, none⟩) (Nat.le_refl _) (.slice q2 L2.length c2)
    have kd4 := kd3.set_ 0 (.slice q2 L2.length c2)
    have ko1 := ko.on hb2
    have ko2 := ko1.far (p := ⟨w.heap.size, 0, none⟩) (by show w.heap.size + 1 ≠ w.heap.size; omega) (.slice q2 L2.length c2)
    have hef3 := hef2.box ko2 (.slice q2 L2.length c2)
    have hbf3 := hbf2.setCell (p := ⟨w.heap.size + 1, 0, none⟩) (by show w.heap.size ≤ w.heap.size + 1; omega) (.slice q2 L2.length c2)
    have ko3 := ko2.set_ 0 (.slice q2 L2.length c2)
    have cd3 := fun i => kd3.cell i
    have fd3 := fun i => kd3.free i
    have co1 := fun i => ko1.cell i
    have fo1 := fun i => ko1.free i
    clear cr cd hen2 hb2 p2 q2' r0 hef1 kd2 ko hef2
    by_cases hx2 : x2 = 0
    · subst hx2
      go_wp2_with fail
      rw [rounds_succ]
      clear cd3 fd3 kd3 co1 fo1 ko1
      generalize w2.setCell ⟨w.heap.size, 0, none⟩ (.slice q2 L2.length c2) = V2 at *
      have cd := fun i => kd4.cell i
      have co := fun i => ko2.cell i
      have fo := fun i => ko2.free i
      go_wp2_with fail
      have hcc := fun i => ko3.cell i
      simp only [Exit.noGoto_ret]
      refine bodyPost_ret (v := .tuple #[.agg #[(.slice q2 L2.length c2)], .int .i64 0]) (by simp [results, Tryz.results66, go_sem, hcc]) rfl ?_
      rw [hD.out]
      exact ⟨q2, c2, rfl, hef3, hbf3⟩
    · go_wp2_with fail
      have hcc := fun i => ko3.cell i
      simp only [Exit.noGoto_ret]
      refine bodyPost_ret (v := .tuple #[.agg #[(.slice q2 L2.length c2)], .int .i64 x2]) (by simp [results, Tryz.results66, go_sem, hcc]) rfl ?_
      rw [hD.out]
      exact ⟨q2, c2, rfl, hef3, hbf3⟩
  · have hD : Hid ((thenL (x1, L1) fun L => moreL L k2 n2) = (x1, L1)) := Lib.hid (if_neg hx)
    have hef3 := hef1.box ko (.slice q1 L1.length c1)
    have hbf3 := hbf1.setCell (p := ⟨w.heap.size + 1, 0, none⟩) (by show w.heap.size ≤ w.heap.size + 1; omega) (.slice q1 L1.length c1)
    have ko3 := ko.set_ 0 (.slice q1 L1.length c1)
    have co1 := fun i => ko0.cell i
    have fo1 := fun i => ko0.free i
    clear hR kd2
    go_wp2_with fail
    have hcc := fun i => ko3.cell i
    simp only [Exit.noGoto_ret]
    refine bodyPost_ret (v := .tuple #[.agg #[(.slice q1 L1.length c1)], .int .i64 x1]) (by simp [results, Tryz.results66, go_sem, hcc]) rfl ?_
    rw [hD.out]
    exact ⟨q1, c1, rfl, hef3, hbf3⟩
set_option maxHeartbeats 4000000 in
set_option maxRecDepth 100000 in
theorem does_ll (v : Value) (E : List Ent) (k1 k2 : ByteArray) (n1 n2 b1 b2 g : Nat) (w : World) (hv : Ents w v E) (hs : Srt E) (hl : E.length ≤ 1800) (hk1 : k1.size ≤ 400) (hk2 : k2.size ≤ 400) (hn1 : W256 n1) (hn2 : W256 n2)
    (hr : Blk w g 88 #[.func (.func 91) #[] #[.pointer (some ⟨b1, 0, none⟩), .pointer (some ⟨b1 + 1, 0, none⟩)], .func (.func 91) #[] #[.pointer (some ⟨b2, 0, none⟩), .pointer (some ⟨b2 + 1, 0, none⟩)]]) (hp1 : Blk w b1 9 #[.string k1]) (hq1 : Blk w (b1 + 1) 31 #[.int .u64 (limb n1 0), .int .u64 (limb n1 1), .int .u64 (limb n1 2), .int .u64 (limb n1 3)]) (hp2 : Blk w b2 9 #[.string k2]) (hq2 : Blk w (b2 + 1) 31 #[.int .u64 (limb n2 0), .int .u64 (limb n2 1), .int .u64 (limb n2 2), .int .u64 (limb n2 3)]) :
    Calls Tryz.prog 66 #[.agg #[v], .slice (some ⟨g, 0, none⟩) 2 2] w fun e w' => ∃ q cap, e = .returned (.tuple #[.agg #[.slice q (thenL (lessL E k1 n1) fun L => lessL L k2 n2).2.length cap], .int .i64 (thenL (lessL E k1 n1) fun L => lessL L k2 n2).1]) ∧ Ents w' (.slice q (thenL (lessL E k1 n1) fun L => lessL L k2 n2).2.length cap) (thenL (lessL E k1 n1) fun L => lessL L k2 n2).2 ∧ Below w.heap.size w w' := by
  obtain ⟨q, cap, rfl⟩ := hv.len
  rcases hR : lessL E k1 n1 with ⟨x1, L1⟩
  have C1 := fun w v hv hp hq => less1_any v E k1 n1 b1 (b1 + 1) w hv hs (by omega) hk1 hn1 hp hq
  rw [hR] at C1
  have C1 := Lib.hid C1
  have hb0 := BW_alloc (BW_alloc (BW_refl w) (.cells #[.slice q E.length cap] 27)) (.cells #[.slice none 0 0] 27)
  have kd := (blk1 w 27 #[.slice q E.length cap]).alloc (.cells #[.slice none 0 0] 27)
  have ko := blk2 w (.cells #[.slice q E.length cap] 27) 27 #[.slice none 0 0]
  have hltg := hr.lt
  have hlt1 := hp1.lt
  have hlt2 := hq1.lt
  have hlt3 := hp2.lt
  have hlt4 := hq2.lt
  have r0 := hr.on hb0
  have p1 := hp1.on hb0
  have q1' := hq1.on hb0
  have p2 := hp2.on hb0
  have q2' := hq2.on hb0
  have v0 := Lib.hid (hv.on hb0)
  have cr := fun i => r0.cell i
  have cd := fun i => kd.cell i
  clear hv hr hp1 hq1 hp2 hq2
  go_enter Tryz.func66, Tryz.ntmps66
  go_wp2_with fail
  refine wp_scope_straight ?_
  go_wp2_with fail
  refine wp_label ?_
  go_wp2_with fail
  refine wp_loop_rounds 3 ?_
  rw [rounds_succ]
  go_wp2_with fail
  refine (C1.out _ _ v0.out p1 q1').mono ?_
  rintro e w1 ⟨q1, c1, rfl, hen1, hb1⟩
  replace r0 := (r0.on hb1).far (p := ⟨w.heap.size, 0, none⟩) (by show g ≠ w.heap.size; omega) (.slice q1 L1.length c1)
  replace p2 := (p2.on hb1).far (p := ⟨w.heap.size, 0, none⟩) (by show b2 ≠ w.heap.size; omega) (.slice q1 L1.length c1)
  replace q2' := (q2'.on hb1).far (p := ⟨w.heap.size, 0, none⟩) (by show b2 + 1 ≠ w.heap.size; omega) (.slice q1 L1.length c1)
  have ko0 := ko.on hb1
  replace ko := ko0.far (p := ⟨w.heap.size, 0, none⟩) (by show w.heap.size + 1 ≠ w.heap.size; omega) (.slice q1 L1.length c1)
  have kd1 := kd.on hb1
  have hef1 := hen1.box kd1 (.slice q1 L1.length c1)
  have hbf1 := (BW_on hb0 hb1).setCell (p := ⟨w.heap.size, 0, none⟩) (Nat.le_refl _) (.slice q1 L1.length c1)
  have kd2 := kd1.set_ 0 (.slice q1 L1.length c1)
  have cd1 := fun i => kd1.cell i
  have fd1 := fun i => kd1.free i
  clear cr cd hen1 hb1 p1 q1' kd
  by_cases hx : x1 = 0
  · subst hx
    have hok := less_ok hs hR
    rcases hR2 : lessL L1 k2 n2 with ⟨x2, L2⟩
    have C2 := fun w v hv hp hq => less1_any v L1 k2 n2 b2 (b2 + 1) w hv hok.1 (by have := hok.2; omega) hk2 hn2 hp hq
    rw [hR2] at C2
    have C2 := Lib.hid C2
    have hD : Hid ((thenL (0, L1) fun L => lessL L k2 n2) = (x2, L2)) := Lib.hid hR2
    clear hR hR2 hok
    go_wp2_with fail
    rw [rounds_succ]
    clear cd1 fd1 kd1
    generalize w1.setCell ⟨w.heap.size, 0, none⟩ (.slice q1 L1.length c1) = V1 at *
    have cr := fun i => r0.cell i
    have cd := fun i => kd2.cell i
    go_wp2_with fail
    refine (C2.out _ _ hef1 p2 q2').mono ?_
    rintro e w2 ⟨q2, c2, rfl, hen2, hb2⟩
    have kd3 := kd2.on hb2
    have hef2 := hen2.box kd3 (.slice q2 L2.length c2)
    have hbf2 := (BW_on hbf1 hb2).setCell (p := ⟨w.heap.size, 0, none⟩) (Nat.le_refl _) (.slice q2 L2.length c2)
    have kd4 := kd3.set_ 0 (.slice q2 L2.length c2)
    have ko1 := ko.on hb2
    have ko2 := ko1.far (p := ⟨w.heap.size, 0, none⟩) (by show w.heap.size + 1 ≠ w.heap.size; omega) (.slice q2 L2.length c2)
    have hef3 := hef2.box ko2 (.slice q2 L2.length c2)
    have hbf3 := hbf2.setCell (p := ⟨w.heap.size + 1, 0, none⟩) (by show w.heap.size ≤ w.heap.size + 1; omega) (.slice q2 L2.length c2)
    have ko3 := ko2.set_ 0 (.slice q2 L2.length c2)
    have cd3 := fun i => kd3.cell i
    have fd3 := fun i => kd3.free i
    have co1 := fun i => ko1.cell i
    have fo1 := fun i => ko1.free i
    clear cr cd hen2 hb2 p2 q2' r0 hef1 kd2 ko hef2
    by_cases hx2 : x2 = 0
    · subst hx2
      go_wp2_with fail
      rw [rounds_succ]
      clear cd3 fd3 kd3 co1 fo1 ko1
      generalize w2.setCell ⟨w.heap.size, 0, none⟩ (.slice q2 L2.length c2) = V2 at *
      have cd := fun i => kd4.cell i
      have co := fun i => ko2.cell i
      have fo := fun i => ko2.free i
      go_wp2_with fail
      have hcc := fun i => ko3.cell i
      simp only [Exit.noGoto_ret]
      refine bodyPost_ret (v := .tuple #[.agg #[(.slice q2 L2.length c2)], .int .i64 0]) (by simp [results, Tryz.results66, go_sem, hcc]) rfl ?_
      rw [hD.out]
      exact ⟨q2, c2, rfl, hef3, hbf3⟩
    · go_wp2_with fail
      have hcc := fun i => ko3.cell i
      simp only [Exit.noGoto_ret]
      refine bodyPost_ret (v := .tuple #[.agg #[(.slice q2 L2.length c2)], .int .i64 x2]) (by simp [results, Tryz.results66, go_sem, hcc]) rfl ?_
      rw [hD.out]
      exact ⟨q2, c2, rfl, hef3, hbf3⟩
  · have hD : Hid ((thenL (x1, L1) fun L => lessL L k2 n2) = (x1, L1)) := Lib.hid (if_neg hx)
    have hef3 := hef1.box ko (.slice q1 L1.length c1)
    have hbf3 := hbf1.setCell (p := ⟨w.heap.size + 1, 0, none⟩) (by show w.heap.size ≤ w.heap.size + 1; omega) (.slice q1 L1.length c1)
    have ko3 := ko.set_ 0 (.slice q1 L1.length c1)
    have co1 := fun i => ko0.cell i
    have fo1 := fun i => ko0.free i
    clear hR kd2
    go_wp2_with fail
    have hcc := fun i => ko3.cell i
    simp only [Exit.noGoto_ret]
    refine bodyPost_ret (v := .tuple #[.agg #[(.slice q1 L1.length c1)], .int .i64 x1]) (by simp [results, Tryz.results66, go_sem, hcc]) rfl ?_
    rw [hD.out]
    exact ⟨q1, c1, rfl, hef3, hbf3⟩
set_option maxHeartbeats 4000000 in
set_option maxRecDepth 100000 in
theorem does_lm (v : Value) (E : List Ent) (k1 k2 : ByteArray) (n1 n2 b1 b2 g : Nat) (w : World) (hv : Ents w v E) (hs : Srt E) (hl : E.length ≤ 1800) (hk1 : k1.size ≤ 400) (hk2 : k2.size ≤ 400) (hn1 : W256 n1) (hn2 : W256 n2)
    (hr : Blk w g 88 #[.func (.func 91) #[] #[.pointer (some ⟨b1, 0, none⟩), .pointer (some ⟨b1 + 1, 0, none⟩)], .func (.func 114) #[] #[.pointer (some ⟨b2, 0, none⟩), .pointer (some ⟨b2 + 1, 0, none⟩)]]) (hp1 : Blk w b1 9 #[.string k1]) (hq1 : Blk w (b1 + 1) 31 #[.int .u64 (limb n1 0), .int .u64 (limb n1 1), .int .u64 (limb n1 2), .int .u64 (limb n1 3)]) (hp2 : Blk w b2 9 #[.string k2]) (hq2 : Blk w (b2 + 1) 31 #[.int .u64 (limb n2 0), .int .u64 (limb n2 1), .int .u64 (limb n2 2), .int .u64 (limb n2 3)]) :
    Calls Tryz.prog 66 #[.agg #[v], .slice (some ⟨g, 0, none⟩) 2 2] w fun e w' => ∃ q cap, e = .returned (.tuple #[.agg #[.slice q (thenL (lessL E k1 n1) fun L => moreL L k2 n2).2.length cap], .int .i64 (thenL (lessL E k1 n1) fun L => moreL L k2 n2).1]) ∧ Ents w' (.slice q (thenL (lessL E k1 n1) fun L => moreL L k2 n2).2.length cap) (thenL (lessL E k1 n1) fun L => moreL L k2 n2).2 ∧ Below w.heap.size w w' := by
  obtain ⟨q, cap, rfl⟩ := hv.len
  rcases hR : lessL E k1 n1 with ⟨x1, L1⟩
  have C1 := fun w v hv hp hq => less1_any v E k1 n1 b1 (b1 + 1) w hv hs (by omega) hk1 hn1 hp hq
  rw [hR] at C1
  have C1 := Lib.hid C1
  have hb0 := BW_alloc (BW_alloc (BW_refl w) (.cells #[.slice q E.length cap] 27)) (.cells #[.slice none 0 0] 27)
  have kd := (blk1 w 27 #[.slice q E.length cap]).alloc (.cells #[.slice none 0 0] 27)
  have ko := blk2 w (.cells #[.slice q E.length cap] 27) 27 #[.slice none 0 0]
  have hltg := hr.lt
  have hlt1 := hp1.lt
  have hlt2 := hq1.lt
  have hlt3 := hp2.lt
  have hlt4 := hq2.lt
  have r0 := hr.on hb0
  have p1 := hp1.on hb0
  have q1' := hq1.on hb0
  have p2 := hp2.on hb0
  have q2' := hq2.on hb0
  have v0 := Lib.hid (hv.on hb0)
  have cr := fun i => r0.cell i
  have cd := fun i => kd.cell i
  clear hv hr hp1 hq1 hp2 hq2
  go_enter Tryz.func66, Tryz.ntmps66
  go_wp2_with fail
  refine wp_scope_straight ?_
  go_wp2_with fail
  refine wp_label ?_
  go_wp2_with fail
  refine wp_loop_rounds 3 ?_
  rw [rounds_succ]
  go_wp2_with fail
  refine (C1.out _ _ v0.out p1 q1').mono ?_
  rintro e w1 ⟨q1, c1, rfl, hen1, hb1⟩
  replace r0 := (r0.on hb1).far (p := ⟨w.heap.size, 0, none⟩) (by show g ≠ w.heap.size; omega) (.slice q1 L1.length c1)
  replace p2 := (p2.on hb1).far (p := ⟨w.heap.size, 0, none⟩) (by show b2 ≠ w.heap.size; omega) (.slice q1 L1.length c1)
  replace q2' := (q2'.on hb1).far (p := ⟨w.heap.size, 0, none⟩) (by show b2 + 1 ≠ w.heap.size; omega) (.slice q1 L1.length c1)
  have ko0 := ko.on hb1
  replace ko := ko0.far (p := ⟨w.heap.size, 0, none⟩) (by show w.heap.size + 1 ≠ w.heap.size; omega) (.slice q1 L1.length c1)
  have kd1 := kd.on hb1
  have hef1 := hen1.box kd1 (.slice q1 L1.length c1)
  have hbf1 := (BW_on hb0 hb1).setCell (p := ⟨w.heap.size, 0, none⟩) (Nat.le_refl _) (.slice q1 L1.length c1)
  have kd2 := kd1.set_ 0 (.slice q1 L1.length c1)
  have cd1 := fun i => kd1.cell i
  have fd1 := fun i => kd1.free i
  clear cr cd hen1 hb1 p1 q1' kd
  by_cases hx : x1 = 0
  · subst hx
    have hok := less_ok hs hR
    rcases hR2 : moreL L1 k2 n2 with ⟨x2, L2⟩
    have C2 := fun w v hv hp hq => more1_any v L1 k2 n2 b2 (b2 + 1) w hv hok.1 (by have := hok.2; omega) hk2 hn2 hp hq
    rw [hR2] at C2
    have C2 := Lib.hid C2
    have hD : Hid ((thenL (0, L1) fun L => moreL L k2 n2) = (x2, L2)) := Lib.hid hR2
    clear hR hR2 hok
    go_wp2_with fail
    rw [rounds_succ]
    clear cd1 fd1 kd1
    generalize w1.setCell ⟨w.heap.size, 0, none⟩ (.slice q1 L1.length c1) = V1 at *
    have cr := fun i => r0.cell i
    have cd := fun i => kd2.cell i
    go_wp2_with fail
    refine (C2.out _ _ hef1 p2 q2').mono ?_
    rintro e w2 ⟨q2, c2, rfl, hen2, hb2⟩
    have kd3 := kd2.on hb2
    have hef2 := hen2.box kd3 (.slice q2 L2.length c2)
    have hbf2 := (BW_on hbf1 hb2).setCell (p := ⟨w.heap.size, 0, none⟩) (Nat.le_refl _) (.slice q2 L2.length c2)
    have kd4 := kd3.set_ 0 (.slice q2 L2.length c2)
    have ko1 := ko.on hb2
    have ko2 := ko1.far (p := ⟨w.heap.size, 0, none⟩) (by show w.heap.size + 1 ≠ w.heap.size; omega) (.slice q2 L2.length c2)
    have hef3 := hef2.box ko2 (.slice q2 L2.length c2)
    have hbf3 := hbf2.setCell (p := ⟨w.heap.size + 1, 0, none⟩) (by show w.heap.size ≤ w.heap.size + 1; omega) (.slice q2 L2.length c2)
    have ko3 := ko2.set_ 0 (.slice q2 L2.length c2)
    have cd3 := fun i => kd3.cell i
    have fd3 := fun i => kd3.free i
    have co1 := fun i => ko1.cell i
    have fo1 := fun i => ko1.free i
    clear cr cd hen2 hb2 p2 q2' r0 hef1 kd2 ko hef2
    by_cases hx2 : x2 = 0
    · subst hx2
      go_wp2_with fail
      rw [rounds_succ]
      clear cd3 fd3 kd3 co1 fo1 ko1
      generalize w2.setCell ⟨w.heap.size, 0, none⟩ (.slice q2 L2.length c2) = V2 at *
      have cd := fun i => kd4.cell i
      have co := fun i => ko2.cell i
      have fo := fun i => ko2.free i
      go_wp2_with fail
      have hcc := fun i => ko3.cell i
      simp only [Exit.noGoto_ret]
      refine bodyPost_ret (v := .tuple #[.agg #[(.slice q2 L2.length c2)], .int .i64 0]) (by simp [results, Tryz.results66, go_sem, hcc]) rfl ?_
      rw [hD.out]
      exact ⟨q2, c2, rfl, hef3, hbf3⟩
    · go_wp2_with fail
      have hcc := fun i => ko3.cell i
      simp only [Exit.noGoto_ret]
      refine bodyPost_ret (v := .tuple #[.agg #[(.slice q2 L2.length c2)], .int .i64 x2]) (by simp [results, Tryz.results66, go_sem, hcc]) rfl ?_
      rw [hD.out]
      exact ⟨q2, c2, rfl, hef3, hbf3⟩
  · have hD : Hid ((thenL (x1, L1) fun L => moreL L k2 n2) = (x1, L1)) := Lib.hid (if_neg hx)
    have hef3 := hef1.box ko (.slice q1 L1.length c1)
    have hbf3 := hbf1.setCell (p := ⟨w.heap.size + 1, 0, none⟩) (by show w.heap.size ≤ w.heap.size + 1; omega) (.slice q1 L1.length c1)
    have ko3 := ko.set_ 0 (.slice q1 L1.length c1)
    have co1 := fun i => ko0.cell i
    have fo1 := fun i => ko0.free i
    clear hR kd2
    go_wp2_with fail
    have hcc := fun i => ko3.cell i
    simp only [Exit.noGoto_ret]
    refine bodyPost_ret (v := .tuple #[.agg #[(.slice q1 L1.length c1)], .int .i64 x1]) (by simp [results, Tryz.results66, go_sem, hcc]) rfl ?_
    rw [hD.out]
    exact ⟨q1, c1, rfl, hef3, hbf3⟩
set_option maxHeartbeats 4000000 in
set_option maxRecDepth 100000 in
theorem may_one (a d : ByteArray) (n g : Nat) (w : World) (hn : W256 n) (hr : Blk w g 9 #[.string a]) : Calls Tryz.prog 65 #[.string d, .agg #[.int .u64 (limb n 0), .int .u64 (limb n 1), .int .u64 (limb n 2), .int .u64 (limb n 3)], .slice (some ⟨g, 0, none⟩) 1 1] w fun e w' => e = .returned (.bool (may1 a d n)) ∧ Below w.heap.size w w' := by
  have hb0 := BW_alloc (BW_refl w) (.cells #[.int .u64 (limb n 0), .int .u64 (limb n 1), .int .u64 (limb n 2), .int .u64 (limb n 3)] 31)
  have r0 := hr.on hb0
  have kn := blk1 w 31 #[.int .u64 (limb n 0), .int .u64 (limb n 1), .int .u64 (limb n 2), .int .u64 (limb n 3)]
  have cr := fun i => r0.cell i
  have cn := fun i => kn.cell i
  clear hr
  go_enter Tryz.func65, Tryz.ntmps65
  go_wp2_with fail
  refine wp_loop_rounds 2 ?_
  rw [rounds_succ]
  go_wp2_with fail
  refine (bname_any a _).mono ?_
  rintro e w1 ⟨rfl, rfl⟩
  cases ha : okName (bysN a)
  · have hm : Hid (may1 a d n = false) := Lib.hid (by unfold may1; rw [ha]; first | rfl | simp)
    clear ha
    go_wp2_with fail
    go_ret
    exact ⟨by rw [hm.out]; rfl, hb0⟩
  · have Ha := Lib.hid ha
    clear ha
    go_wp2_with fail
    rw [rounds_succ]
    go_wp2_with fail
    refine (bdenom_any d _).mono ?_
    rintro e w1 ⟨rfl, rfl⟩
    cases hd : okDn (bysN d)
    · have hm : Hid (may1 a d n = false) := Lib.hid (by unfold may1; rw [Ha.out, hd]; first | rfl | simp)
      clear hd
      go_wp2_with fail
      go_ret
      exact ⟨by rw [hm.out]; rfl, hb0⟩
    · have hm : Hid (may1 a d n = !decide (n = 0)) := Lib.hid (by unfold may1; rw [Ha.out, hd]; simp)
      clear hd
      go_wp2_with fail
      refine (wzero_any n hn _).mono ?_
      rintro e w2 ⟨rfl, hb2⟩
      go_wp2_with fail
      go_ret
      exact ⟨by rw [hm.out]; rfl, BW_on hb0 hb2⟩
set_option maxHeartbeats 4000000 in
set_option maxRecDepth 100000 in
theorem may_two (a b d : ByteArray) (n g : Nat) (w : World) (hn : W256 n) (hr : Blk w g 9 #[.string a, .string b]) : Calls Tryz.prog 65 #[.string d, .agg #[.int .u64 (limb n 0), .int .u64 (limb n 1), .int .u64 (limb n 2), .int .u64 (limb n 3)], .slice (some ⟨g, 0, none⟩) 2 2] w fun e w' => e = .returned (.bool (may2 a b d n)) ∧ Below w.heap.size w w' := by
  have hb0 := BW_alloc (BW_refl w) (.cells #[.int .u64 (limb n 0), .int .u64 (limb n 1), .int .u64 (limb n 2), .int .u64 (limb n 3)] 31)
  have r0 := hr.on hb0
  have kn := blk1 w 31 #[.int .u64 (limb n 0), .int .u64 (limb n 1), .int .u64 (limb n 2), .int .u64 (limb n 3)]
  have cr := fun i => r0.cell i
  have cn := fun i => kn.cell i
  clear hr
  go_enter Tryz.func65, Tryz.ntmps65
  go_wp2_with fail
  refine wp_loop_rounds 3 ?_
  rw [rounds_succ]
  go_wp2_with fail
  refine (bname_any a _).mono ?_
  rintro e w1 ⟨rfl, rfl⟩
  cases ha : okName (bysN a)
  · have hm : Hid (may2 a b d n = false) := Lib.hid (by unfold may2; rw [ha]; first | rfl | simp)
    clear ha
    go_wp2_with fail
    go_ret
    exact ⟨by rw [hm.out]; rfl, hb0⟩
  · have Ha := Lib.hid ha
    clear ha
    go_wp2_with fail
    rw [rounds_succ]
    go_wp2_with fail
    refine (bname_any b _).mono ?_
    rintro e w1 ⟨rfl, rfl⟩
    cases hb : okName (bysN b)
    · have hm : Hid (may2 a b d n = false) := Lib.hid (by unfold may2; rw [Ha.out, hb]; first | rfl | simp)
      clear hb
      go_wp2_with fail
      go_ret
      exact ⟨by rw [hm.out]; rfl, hb0⟩
    · have Hb := Lib.hid hb
      clear hb
      go_wp2_with fail
      rw [rounds_succ]
      go_wp2_with fail
      refine (bdenom_any d _).mono ?_
      rintro e w1 ⟨rfl, rfl⟩
      cases hd : okDn (bysN d)
      · have hm : Hid (may2 a b d n = false) := Lib.hid (by unfold may2; rw [Ha.out, Hb.out, hd]; first | rfl | simp)
        clear hd
        go_wp2_with fail
        go_ret
        exact ⟨by rw [hm.out]; rfl, hb0⟩
      · have hm : Hid (may2 a b d n = !decide (n = 0)) := Lib.hid (by unfold may2; rw [Ha.out, Hb.out, hd]; simp)
        clear hd
        go_wp2_with fail
        refine (wzero_any n hn _).mono ?_
        rintro e w2 ⟨rfl, hb2⟩
        go_wp2_with fail
        go_ret
        exact ⟨by rw [hm.out]; rfl, BW_on hb0 hb2⟩
end Go.Proofs.YtpcdgljcpacpiaaGreatDoor
