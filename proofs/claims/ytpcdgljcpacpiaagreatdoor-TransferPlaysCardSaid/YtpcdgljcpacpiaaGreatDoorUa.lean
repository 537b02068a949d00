/- Contracts of layer 17 (transfer): Home, Arrives, Send, Recv, Refund. -/
import Derived.Test.YtpcdgljcpacpiaaGreatDoorBe
import Derived.Test.YtpcdgljcpacpiaaGreatDoorBw
import Derived.Test.YtpcdgljcpacpiaaGreatDoorPi
set_option maxRecDepth 20000
namespace Go.Proofs.YtpcdgljcpacpiaaGreatDoor
open Go.RowKit
attribute [local go_sem ↓] Go.wp_at_zero Go.wp_at_succ
section
variable {P : Program} {ops : Array Oper} {S : World → Prop} {op : Oper} {a : Act}
theorem yk_faB (hw : Region.wanted op (yielded ops a.tmps) = true) (t : TypeId) (x : Operand) (i : Nat) (ho : op.op = .fieldAddr t x i) (X : Value) (hx : a.eval x = X) (v : Value)
    (hr : ∀ w, S w → (Instr.fieldAt t X i).run P w = .ok v w) : YieldsIf P ops S op v a :=
  .inl ⟨hw, fun w hS => by
    have h := hr w hS
    unfold execOp
    simp only [ho, hx]
    rw [Sem.run_bind, h]
    rfl⟩
end
theorem byt_of {t : ByteArray} {l : List Nat} (h : bysN t = l) : t = byt l := bysN_inj (h.trans (bysN_byt (h ▸ bysN_lt t)).symm)
/-- Does a packet come home? -/
def homeB (s d : ByteArray) : Bool := okRet (bysN s) (bysN d)
/-- What arrives. -/
def arrB (s k d : ByteArray) : ByteArray := if okRet (bysN s) (bysN d) = true then byt (pRet (bysN s) (bysN d)) else byt (bysN k ++ 47 :: bysN d)
def escB (c : ByteArray) : ByteArray := byt ([101, 115, 99, 114, 111, 119, 47] ++ bysN c)
/-- What a map's change answers: an error's number, a row. -/
def Res17 (r : Int × List Ent) (w : World) (e : Ending) (w' : World) : Prop := ∃ q cap, e = .returned (.tuple #[.agg #[.slice q r.2.length cap], .int .i64 r.1]) ∧ Ents w' (.slice q r.2.length cap) r.2 ∧ Below w.heap.size w w'
def Rres17 (r : Int × List Ent) (w : World) (e : Ending) (w' : World) : Prop := ∃ v', e = .returned (.tuple #[v', .int .i64 r.1]) ∧ Ents w' v' r.2 ∧ Below w.heap.size w w'
def sel17 (ok home : Bool) (r1 r2 : Int × List Ent) : Int × List Ent := if ok = true then (if home = true then r1 else r2) else (1, [])
def sendL (E : List Ent) (sq ht tm : Int) (s k d f g : ByteArray) (n : Nat) : Int × List Ent := sel17 (okP sq ht tm (bysN s) (bysN k) (bysN d) (bysN f) (bysN g) n) (homeB s d) (burnL E f d n) (moveL E f (escB s) d n)
def recvL (E : List Ent) (sq ht tm : Int) (s k d f g : ByteArray) (n : Nat) : Int × List Ent := if okDen (bysN (arrB s k d)) = true then sel17 (okP sq ht tm (bysN s) (bysN k) (bysN d) (bysN f) (bysN g) n) (homeB s d) (moveL E (escB k) g (arrB s k d) n) (mintL E g (arrB s k d) n) else (1, [])
def refundL (E : List Ent) (sq ht tm : Int) (s k d f g : ByteArray) (n : Nat) : Int × List Ent := sel17 (okP sq ht tm (bysN s) (bysN k) (bysN d) (bysN f) (bysN g) n) (homeB s d) (mintL E f d n) (moveL E (escB s) f d n)
theorem pRet_len (c d : List Nat) : (pRet c d).length ≤ d.length := by
  unfold pRet
  by_cases h : okRet c d = true
  · rw [if_pos h, List.length_drop]; omega
  · rw [if_neg h]; exact Nat.zero_le _
theorem arr_size (s k d : ByteArray) : (arrB s k d).size ≤ k.size + d.size + 1 := by
  unfold arrB
  split
  · have h := pRet_len (bysN s) (bysN d)
    rw [byt_size]
    rw [bysN_len] at h
    omega
  · rw [byt_size, List.length_append, List.length_cons, bysN_len, bysN_len]; omega
theorem esc17_any (c : ByteArray) (w : World) (hc : c.size ≤ 1000000) : Calls Tryz.prog 36 #[.string c] w fun e w' => e = .returned (.string (escB c)) ∧ Below w.heap.size w w' := by
  refine (escrow_any c w hc).mono ?_
  rintro e w' ⟨t, rfl, ht, rfl⟩
  obtain rfl := byt_of ht
  exact ⟨rfl, BW_refl _⟩
set_option maxHeartbeats 16000000 in
set_option maxRecDepth 100000 in
theorem home17_any (sq ht tm : Int) (s k d f g : ByteArray) (n : Nat) (w : World) (zs : s.size ≤ 1000000) (zd : d.size ≤ 1000000) : Calls Tryz.prog 18 #[.agg #[.int .i64 sq, .string s, .string k, .string d, .int .u64 (limb n 0), .int .u64 (limb n 1), .int .u64 (limb n 2), .int .u64 (limb n 3), .string f, .string g, .int .i64 ht, .int .i64 tm]] w fun e w' => e = .returned (.bool (homeB s d)) ∧ Below w.heap.size w w' := by
  have HR := Lib.hid (returns_any s d)
  have kp := blk1 w 35 #[.int .i64 sq, .string s, .string k, .string d, .int .u64 (limb n 0), .int .u64 (limb n 1), .int .u64 (limb n 2), .int .u64 (limb n 3), .string f, .string g, .int .i64 ht, .int .i64 tm]
  have hb0 := BW_alloc (BW_refl w) (.cells #[.int .i64 sq, .string s, .string k, .string d, .int .u64 (limb n 0), .int .u64 (limb n 1), .int .u64 (limb n 2), .int .u64 (limb n 3), .string f, .string g, .int .i64 ht, .int .i64 tm] 35)
  have cp := fun i => kp.cell i
  go_enter Tryz.func18, Tryz.ntmps18
  go_wp2_with fail
  refine (HR.out _ zs zd).mono ?_
  rintro e w1 ⟨t, rfl, ht, hb1⟩
  clear ht
  replace hb0 := BW_on hb0 hb1
  go_wp2_with fail
  go_ret
  exact ⟨rfl, hb0⟩
set_option maxHeartbeats 16000000 in
set_option maxRecDepth 100000 in
theorem rhome17_any (sq ht tm : Int) (s k d f g : ByteArray) (n : Nat) (w : World) (zs : s.size ≤ 1000000) (zd : d.size ≤ 1000000) : Calls Tryz.prog 19 #[.agg #[.int .i64 sq, .string s, .string k, .string d, .int .u64 (limb n 0), .int .u64 (limb n 1), .int .u64 (limb n 2), .int .u64 (limb n 3), .string f, .string g, .int .i64 ht, .int .i64 tm]] w fun e w' => e = .returned (.bool (homeB s d)) ∧ Below w.heap.size w w' := by
  have HR := Lib.hid (r12returns_any s d)
  have kp := blk1 w 35 #[.int .i64 sq, .string s, .string k, .string d, .int .u64 (limb n 0), .int .u64 (limb n 1), .int .u64 (limb n 2), .int .u64 (limb n 3), .string f, .string g, .int .i64 ht, .int .i64 tm]
  have hb0 := BW_alloc (BW_refl w) (.cells #[.int .i64 sq, .string s, .string k, .string d, .int .u64 (limb n 0), .int .u64 (limb n 1), .int .u64 (limb n 2), .int .u64 (limb n 3), .string f, .string g, .int .i64 ht, .int .i64 tm] 35)
  have cp := fun i => kp.cell i
  go_enter Tryz.func19, Tryz.ntmps19
  go_wp2_with fail
  refine (HR.out _ zs zd).mono ?_
  rintro e w1 ⟨t, rfl, ht, hb1⟩
  clear ht
  replace hb0 := BW_on hb0 hb1
  go_wp2_with fail
  go_ret
  exact ⟨rfl, hb0⟩
set_option maxHeartbeats 16000000 in
set_option maxRecDepth 100000 in
theorem arr17_any (sq ht tm : Int) (s k d f g : ByteArray) (n : Nat) (w : World) (zs : s.size ≤ 1000000) (zk : k.size ≤ 1000000) (zd : d.size ≤ 1000000) : Calls Tryz.prog 20 #[.agg #[.int .i64 sq, .string s, .string k, .string d, .int .u64 (limb n 0), .int .u64 (limb n 1), .int .u64 (limb n 2), .int .u64 (limb n 3), .string f, .string g, .int .i64 ht, .int .i64 tm]] w fun e w' => e = .returned (.string (arrB s k d)) ∧ Below w.heap.size w w' := by
  have HR := fun w => returns_any s d w zs zd
  have kp := blk1 w 35 #[.int .i64 sq, .string s, .string k, .string d, .int .u64 (limb n 0), .int .u64 (limb n 1), .int .u64 (limb n 2), .int .u64 (limb n 3), .string f, .string g, .int .i64 ht, .int .i64 tm]
  have hb0 := BW_alloc (BW_refl w) (.cells #[.int .i64 sq, .string s, .string k, .string d, .int .u64 (limb n 0), .int .u64 (limb n 1), .int .u64 (limb n 2), .int .u64 (limb n 3), .string f, .string g, .int .i64 ht, .int .i64 tm] 35)
  have cp := fun i => kp.cell i
  cases hq : okRet (bysN s) (bysN d)
  · have HA : Hid (arrB s k d = byt (bysN k ++ 47 :: bysN d)) := Lib.hid (by unfold arrB; rw [if_neg (by rw [hq]; exact Bool.false_ne_true)])
    rw [hq] at HR
    replace HR := Lib.hid HR
    clear hq
    go_enter Tryz.func20, Tryz.ntmps20
    go_wp2_with fail
    refine (HR.out _).mono ?_
    rintro e w1 ⟨t, rfl, ht, hb1⟩
    clear ht cp
    replace hb0 := BW_on hb0 hb1
    replace kp := kp.on hb1
    have cp := fun i => kp.cell i
    go_wp2_with fail
    refine (prefix_any k d _ zk zd).mono ?_
    rintro e w2 ⟨t2, rfl, ht2, rfl⟩
    have H2 := Lib.hid (byt_of ht2)
    clear ht2
    go_wp2_with fail
    go_ret
    exact ⟨by rw [HA.out, ← H2.out]; rfl, hb0⟩
  · have HA : Hid (arrB s k d = byt (pRet (bysN s) (bysN d))) := Lib.hid (by unfold arrB; rw [if_pos hq])
    rw [hq] at HR
    replace HR := Lib.hid HR
    clear hq
    go_enter Tryz.func20, Tryz.ntmps20
    go_wp2_with fail
    refine (HR.out _).mono ?_
    rintro e w1 ⟨t, rfl, ht, hb1⟩
    have H2 := Lib.hid (byt_of ht)
    clear ht cp
    replace hb0 := BW_on hb0 hb1
    go_wp2_with fail
    go_ret
    exact ⟨by rw [HA.out, ← H2.out]; rfl, hb0⟩
set_option maxHeartbeats 16000000 in
set_option maxRecDepth 100000 in
theorem rarr17_any (sq ht tm : Int) (s k d f g : ByteArray) (n : Nat) (w : World) (zs : s.size ≤ 1000000) (zk : k.size ≤ 1000000) (zd : d.size ≤ 1000000) : Calls Tryz.prog 21 #[.agg #[.int .i64 sq, .string s, .string k, .string d, .int .u64 (limb n 0), .int .u64 (limb n 1), .int .u64 (limb n 2), .int .u64 (limb n 3), .string f, .string g, .int .i64 ht, .int .i64 tm]] w fun e w' => e = .returned (.string (arrB s k d)) ∧ Below w.heap.size w w' := by
  have HR := fun w => r12returns_any s d w zs zd
  have kp := blk1 w 35 #[.int .i64 sq, .string s, .string k, .string d, .int .u64 (limb n 0), .int .u64 (limb n 1), .int .u64 (limb n 2), .int .u64 (limb n 3), .string f, .string g, .int .i64 ht, .int .i64 tm]
  have hb0 := BW_alloc (BW_refl w) (.cells #[.int .i64 sq, .string s, .string k, .string d, .int .u64 (limb n 0), .int .u64 (limb n 1), .int .u64 (limb n 2), .int .u64 (limb n 3), .string f, .string g, .int .i64 ht, .int .i64 tm] 35)
  have cp := fun i => kp.cell i
  cases hq : okRet (bysN s) (bysN d)
  · have HA : Hid (arrB s k d = byt (bysN k ++ 47 :: bysN d)) := Lib.hid (by unfold arrB; rw [if_neg (by rw [hq]; exact Bool.false_ne_true)])
    rw [hq] at HR
    replace HR := Lib.hid HR
    clear hq
    obtain ⟨t1, h1, a1⟩ := cat_big k ⟨#[47]⟩ (by show k.size + 1 ≤ _; omega)
    have hs1 : t1.size = k.size + 1 := by rw [← bysN_len, h1, List.length_append, bysN_len]; rfl
    obtain ⟨t2, h2, a2⟩ := cat_big t1 d (by omega)
    have H2 : Hid (t2 = byt (bysN k ++ 47 :: bysN d)) := Lib.hid (byt_of (by rw [h2, h1, List.append_assoc]; rfl))
    clear h1 h2
    go_enter Tryz.func21, Tryz.ntmps21
    go_wp2_with fail
    refine (HR.out _).mono ?_
    rintro e w1 ⟨t, rfl, ht, hb1⟩
    clear ht cp
    replace hb0 := BW_on hb0 hb1
    replace kp := kp.on hb1
    have cp := fun i => kp.cell i
    go_wp2_with fail
    go_ret
    exact ⟨by rw [HA.out, ← H2.out]; rfl, hb0⟩
  · have HA : Hid (arrB s k d = byt (pRet (bysN s) (bysN d))) := Lib.hid (by unfold arrB; rw [if_pos hq])
    rw [hq] at HR
    replace HR := Lib.hid HR
    clear hq
    go_enter Tryz.func21, Tryz.ntmps21
    go_wp2_with fail
    refine (HR.out _).mono ?_
    rintro e w1 ⟨t, rfl, ht, hb1⟩
    have H2 := Lib.hid (byt_of ht)
    clear ht cp
    replace hb0 := BW_on hb0 hb1
    go_wp2_with fail
    go_ret
    exact ⟨by rw [HA.out, ← H2.out]; rfl, hb0⟩
set_option maxHeartbeats 16000000 in
set_option maxRecDepth 100000 in
theorem mv17_any (v : Value) (E : List Ent) (d f g : ByteArray) (a b c : ByteArray) (n : Nat) (w : World) (hv : Ents w v E) (hs : Srt E) (hl : E.length ≤ 1800) (hn : W256 n) : Calls Tryz.prog 35 #[.agg #[.string d, .int .u64 (limb n 0), .int .u64 (limb n 1), .int .u64 (limb n 2), .int .u64 (limb n 3), .string f, .string g], .agg #[v], .string a, .string b, .string c] w (Res17 (moveL E a b c n) w) := by
  obtain ⟨q, cap, rfl⟩ := hv.len
  rcases hR : moveL E a b c n with ⟨x, L⟩
  have C := fun v w hv => bmove_any v E a b c n w hv hs hl hn
  rw [hR] at C
  replace C := Lib.hid C
  have hb0 := BW_alloc (BW_alloc (BW_alloc (BW_refl w) (.cells #[.string d, .int .u64 (limb n 0), .int .u64 (limb n 1), .int .u64 (limb n 2), .int .u64 (limb n 3), .string f, .string g] 66)) (.cells #[.slice q E.length cap] 27)) (.cells #[.slice none 0 0] 27)
  have km := ((blk1 w 66 #[.string d, .int .u64 (limb n 0), .int .u64 (limb n 1), .int .u64 (limb n 2), .int .u64 (limb n 3), .string f, .string g]).alloc (.cells #[.slice q E.length cap] 27)).alloc (.cells #[.slice none 0 0] 27)
  have kd := (blk2 w (.cells #[.string d, .int .u64 (limb n 0), .int .u64 (limb n 1), .int .u64 (limb n 2), .int .u64 (limb n 3), .string f, .string g] 66) 27 #[.slice q E.length cap]).alloc (.cells #[.slice none 0 0] 27)
  have ko := blk3 w (.cells #[.string d, .int .u64 (limb n 0), .int .u64 (limb n 1), .int .u64 (limb n 2), .int .u64 (limb n 3), .string f, .string g] 66) (.cells #[.slice q E.length cap] 27) 27 #[.slice none 0 0]
  have hv0 := Lib.hid (hv.on hb0)
  clear hv hR
  have cm := fun i => km.cell i
  have cd := fun i => kd.cell i
  go_enter Tryz.func35, Tryz.ntmps35
  go_wp2_with fail
  refine (C.out _ _ hv0.out).mono ?_
  rintro e w1 ⟨q3, c3, rfl, hen, hb1⟩
  clear cm cd C
  replace ko := ko.on hb1
  replace hb0 := BW_on hb0 hb1
  have hbf := (hb0).setCell (p := ⟨w.heap.size + 1 + 1, 0, none⟩) (by show w.heap.size ≤ w.heap.size + 1 + 1; omega) (.slice q3 L.length c3)
  have hfe := (hen).box ko (.slice q3 L.length c3)
  have co := fun i => ko.cell i
  have fo := fun i => ko.free i
  go_wp2_with fail
  have hcc := fun i => (ko.set_ 0 (.slice q3 L.length c3)).cell i
  refine bodyPost_ret (v := .tuple #[.agg #[.slice q3 L.length c3], .int .i64 x]) (by simp [results, Tryz.results35, go_sem, hcc]) rfl ⟨_, _, rfl, hfe, hbf⟩
set_option maxHeartbeats 16000000 in
set_option maxRecDepth 100000 in
theorem mt17_any (v : Value) (E : List Ent) (d f g : ByteArray) (a c : ByteArray) (n : Nat) (w : World) (hv : Ents w v E) (hs : Srt E) (hl : E.length ≤ 1800) (hn : W256 n) : Calls Tryz.prog 42 #[.agg #[.string d, .int .u64 (limb n 0), .int .u64 (limb n 1), .int .u64 (limb n 2), .int .u64 (limb n 3), .string f, .string g], .agg #[v], .string a, .string c] w (Res17 (mintL E a c n) w) := by
  obtain ⟨q, cap, rfl⟩ := hv.len
  rcases hR : mintL E a c n with ⟨x, L⟩
  have C := fun v w hv => bmint_any v E a c n w hv hs hl hn
  rw [hR] at C
  replace C := Lib.hid C
  have hb0 := BW_alloc (BW_alloc (BW_alloc (BW_refl w) (.cells #[.string d, .int .u64 (limb n 0), .int .u64 (limb n 1), .int .u64 (limb n 2), .int .u64 (limb n 3), .string f, .string g] 66)) (.cells #[.slice q E.length cap] 27)) (.cells #[.slice none 0 0] 27)
  have km := ((blk1 w 66 #[.string d, .int .u64 (limb n 0), .int .u64 (limb n 1), .int .u64 (limb n 2), .int .u64 (limb n 3), .string f, .string g]).alloc (.cells #[.slice q E.length cap] 27)).alloc (.cells #[.slice none 0 0] 27)
  have kd := (blk2 w (.cells #[.string d, .int .u64 (limb n 0), .int .u64 (limb n 1), .int .u64 (limb n 2), .int .u64 (limb n 3), .string f, .string g] 66) 27 #[.slice q E.length cap]).alloc (.cells #[.slice none 0 0] 27)
  have ko := blk3 w (.cells #[.string d, .int .u64 (limb n 0), .int .u64 (limb n 1), .int .u64 (limb n 2), .int .u64 (limb n 3), .string f, .string g] 66) (.cells #[.slice q E.length cap] 27) 27 #[.slice none 0 0]
  have hv0 := Lib.hid (hv.on hb0)
  clear hv hR
  have cm := fun i => km.cell i
  have cd := fun i => kd.cell i
  go_enter Tryz.func42, Tryz.ntmps42
  go_wp2_with fail
  refine (C.out _ _ hv0.out).mono ?_
  rintro e w1 ⟨q3, c3, rfl, hen, hb1⟩
  clear cm cd C
  replace ko := ko.on hb1
  replace hb0 := BW_on hb0 hb1
  have hbf := (hb0).setCell (p := ⟨w.heap.size + 1 + 1, 0, none⟩) (by show w.heap.size ≤ w.heap.size + 1 + 1; omega) (.slice q3 L.length c3)
  have hfe := (hen).box ko (.slice q3 L.length c3)
  have co := fun i => ko.cell i
  have fo := fun i => ko.free i
  go_wp2_with fail
  have hcc := fun i => (ko.set_ 0 (.slice q3 L.length c3)).cell i
  refine bodyPost_ret (v := .tuple #[.agg #[.slice q3 L.length c3], .int .i64 x]) (by simp [results, Tryz.results42, go_sem, hcc]) rfl ⟨_, _, rfl, hfe, hbf⟩
set_option maxHeartbeats 16000000 in
set_option maxRecDepth 100000 in
theorem cs1_any (v : Value) (E : List Ent) (_sq _ht _tm : Int) (s k d f g : ByteArray) (n : Nat) (_dn : ByteArray) (bd _bp _bn : Nat) (w : World) (hv : Ents w v E) (hs : Srt E) (hl : E.length ≤ 1800) (_zs : s.size ≤ 1000000) (_zk : k.size ≤ 1000000) (_zd : d.size ≤ 1000000) (_zf : f.size ≤ 1000000) (_zg : g.size ≤ 1000000) (hn : W256 n) (kd : Blk w bd 27 #[v]) : Calls Tryz.prog 32 #[.agg #[.string d, .int .u64 (limb n 0), .int .u64 (limb n 1), .int .u64 (limb n 2), .int .u64 (limb n 3), .string f, .string g], .pointer (some ⟨bd, 0, none⟩)] w (Res17 (burnL E f d n) w) := by
  obtain ⟨q, cap, rfl⟩ := hv.len
  rcases hR : burnL E f d n with ⟨x, L⟩
  have C := fun v w hv => bburn_any v E f d n w hv hs hl hn
  have hb0 := BW_alloc (BW_alloc (BW_refl w) (.cells #[.string d, .int .u64 (limb n 0), .int .u64 (limb n 1), .int .u64 (limb n 2), .int .u64 (limb n 3), .string f, .string g] 66)) (.cells #[.slice none 0 0] 27)
  have km := (blk1 w 66 #[.string d, .int .u64 (limb n 0), .int .u64 (limb n 1), .int .u64 (limb n 2), .int .u64 (limb n 3), .string f, .string g]).alloc (.cells #[.slice none 0 0] 27)
  have ko := blk2 w (.cells #[.string d, .int .u64 (limb n 0), .int .u64 (limb n 1), .int .u64 (limb n 2), .int .u64 (limb n 3), .string f, .string g] 66) 27 #[.slice none 0 0]
  have hld := kd.lt
  have kd := kd.on hb0
  have hv0 := Lib.hid (hv.on hb0)
  have hvw := hv
  clear hv
  rw [hR] at C
  replace C := Lib.hid C
  clear hR
  have c_km := fun i => km.cell i
  have c_kd := fun i => kd.cell i
  go_enter Tryz.func32, Tryz.ntmps32
  go_wp2_with fail
  refine (C.out _ _ hv0.out).mono ?_
  rintro e w1 ⟨q3, c3, rfl, hen, hb1⟩
  clear c_km c_kd C
  replace ko := ko.on hb1
  replace hb0 := BW_on hb0 hb1
  have hbf := (hb0).setCell (p := ⟨w.heap.size + 1, 0, none⟩) (by show w.heap.size ≤ w.heap.size + 1; omega) (.slice q3 L.length c3)
  have hfe := (hen).box ko (.slice q3 L.length c3)
  have co := fun i => ko.cell i
  have fo := fun i => ko.free i
  go_wp2_with fail
  have hcc := fun i => (ko.set_ 0 (.slice q3 L.length c3)).cell i
  refine bodyPost_ret (v := .tuple #[.agg #[.slice q3 L.length c3], .int .i64 x]) (by simp [results, Tryz.results32, go_sem, hcc]) rfl ⟨_, _, rfl, hfe, hbf⟩
set_option maxHeartbeats 16000000 in
set_option maxRecDepth 100000 in
theorem cs2_any (v : Value) (E : List Ent) (sq ht tm : Int) (s k d f g : ByteArray) (n : Nat) (_dn : ByteArray) (bd bp _bn : Nat) (w : World) (hv : Ents w v E) (hs : Srt E) (hl : E.length ≤ 1800) (zs : s.size ≤ 1000000) (_zk : k.size ≤ 1000000) (_zd : d.size ≤ 1000000) (_zf : f.size ≤ 1000000) (_zg : g.size ≤ 1000000) (hn : W256 n) (kd : Blk w bd 27 #[v]) (kp : Blk w bp 35 #[.int .i64 sq, .string s, .string k, .string d, .int .u64 (limb n 0), .int .u64 (limb n 1), .int .u64 (limb n 2), .int .u64 (limb n 3), .string f, .string g, .int .i64 ht, .int .i64 tm]) : Calls Tryz.prog 34 #[.agg #[.string d, .int .u64 (limb n 0), .int .u64 (limb n 1), .int .u64 (limb n 2), .int .u64 (limb n 3), .string f, .string g], .pointer (some ⟨bd, 0, none⟩), .pointer (some ⟨bp, 0, none⟩)] w (Res17 (moveL E f (escB s) d n) w) := by
  obtain ⟨q, cap, rfl⟩ := hv.len
  rcases hR : moveL E f (escB s) d n with ⟨x, L⟩
  have C := fun v w hv => mv17_any v E d f g f (escB s) d n w hv hs hl hn
  have hb0 := BW_alloc (BW_alloc (BW_refl w) (.cells #[.string d, .int .u64 (limb n 0), .int .u64 (limb n 1), .int .u64 (limb n 2), .int .u64 (limb n 3), .string f, .string g] 66)) (.cells #[.slice none 0 0] 27)
  have km := (blk1 w 66 #[.string d, .int .u64 (limb n 0), .int .u64 (limb n 1), .int .u64 (limb n 2), .int .u64 (limb n 3), .string f, .string g]).alloc (.cells #[.slice none 0 0] 27)
  have ko := blk2 w (.cells #[.string d, .int .u64 (limb n 0), .int .u64 (limb n 1), .int .u64 (limb n 2), .int .u64 (limb n 3), .string f, .string g] 66) 27 #[.slice none 0 0]
  have hld := kd.lt
  have kd := kd.on hb0
  have hlp := kp.lt
  have kp := kp.on hb0
  have hv0 := Lib.hid (hv.on hb0)
  have hvw := hv
  clear hv
  rw [hR] at C
  replace C := Lib.hid C
  clear hR
  go_enter Tryz.func34, Tryz.ntmps34
  go_upto_region 1 with (fail)
  change Code.wp _ _ _ _ ((w.alloc (.cells #[.string d, .int .u64 (limb n 0), .int .u64 (limb n 1), .int .u64 (limb n 2), .int .u64 (limb n 3), .string f, .string g] 66)).alloc (.cells #[.slice none 0 0] 27))
  generalize (w.alloc (.cells #[.string d, .int .u64 (limb n 0), .int .u64 (limb n 1), .int .u64 (limb n 2), .int .u64 (limb n 3), .string f, .string g] 66)).alloc (.cells #[.slice none 0 0] 27) = X at *
  have kof := ko.drew
  refine wp_region_held_drew (S := BxS w [(w.heap.size, 66, #[.string d, .int .u64 (limb n 0), .int .u64 (limb n 1), .int .u64 (limb n 2), .int .u64 (limb n 3), .string f, .string g]), (bd, 27, #[.slice q E.length cap]), (bp, 35, #[.int .i64 sq, .string s, .string k, .string d, .int .u64 (limb n 0), .int .u64 (limb n 1), .int .u64 (limb n 2), .int .u64 (limb n 3), .string f, .string g, .int .i64 ht, .int .i64 tm])]) (by kernel_rfl) (((((BxS.nil hb0).cons kp).cons kd).cons km)).drew (fun hH0 => ?_)
  refine wpAnyH_take (i := 0) (v := .agg #[.string d, .int .u64 (limb n 0), .int .u64 (limb n 1), .int .u64 (limb n 2), .int .u64 (limb n 3), .string f, .string g]) rfl (by kernel_rfl) (by kernel_rfl) (by kernel_rfl) (fun _ _ _ h => h) (yk_load (by kernel_rfl) _ _ rfl (.pointer (some ⟨w.heap.size, 0, none⟩)) (by kernel_rfl) _ (fun w' hw' => by have c0 := (hw'.bl _ (.head _)).cell 0; have c1 := (hw'.bl _ (.head _)).cell 1; have c2 := (hw'.bl _ (.head _)).cell 2; have c3 := (hw'.bl _ (.head _)).cell 3; have c4 := (hw'.bl _ (.head _)).cell 4; have c5 := (hw'.bl _ (.head _)).cell 5; have c6 := (hw'.bl _ (.head _)).cell 6; go_simp)) hH0 ?_
  refine wpAnyH_take (i := 1) (v := .agg #[.slice q E.length cap]) rfl (by kernel_rfl) (by kernel_rfl) (by kernel_rfl) (fun _ _ _ h => h) (yk_load (by kernel_rfl) _ _ rfl (.pointer (some ⟨bd, 0, none⟩)) (by kernel_rfl) _ (fun w' hw' => by have c0 := (hw'.bl _ (.tail _ (.head _))).cell 0; go_simp)) hH0 ?_
  refine wpAnyH_take (i := 2) (v := .pointer (some ⟨w.heap.size, 0, none⟩)) rfl (by kernel_rfl) (by kernel_rfl) (by kernel_rfl) (fun _ _ _ h => h) (yk_faB (by kernel_rfl) _ _ _ rfl (.pointer (some ⟨w.heap.size, 0, none⟩)) (by kernel_rfl) _ (fun w' hw' => by go_simp)) hH0 ?_
  refine wpAnyH_take (i := 3) (v := .pointer (some ⟨w.heap.size, 5, none⟩)) rfl (by kernel_rfl) (by kernel_rfl) (by kernel_rfl) (fun _ _ _ h => h) (yk_faB (by kernel_rfl) _ _ _ rfl (.pointer (some ⟨w.heap.size, 0, none⟩)) (by kernel_rfl) _ (fun w' hw' => by go_simp)) hH0 ?_
  refine wpAnyH_take (i := 4) (v := .string f) rfl (by kernel_rfl) (by kernel_rfl) (by kernel_rfl) (fun _ _ _ h => h) (yk_load (by kernel_rfl) _ _ rfl (.pointer (some ⟨w.heap.size, 5, none⟩)) (by kernel_rfl) _ (fun w' hw' => by have c5 := (hw'.bl _ (.head _)).cell 5; go_simp)) hH0 ?_
  refine wpAnyH_take (i := 5) (v := .pointer (some ⟨bp, 1, none⟩)) rfl (by kernel_rfl) (by kernel_rfl) (by kernel_rfl) (fun _ _ _ h => h) (yk_faB (by kernel_rfl) _ _ _ rfl (.pointer (some ⟨bp, 0, none⟩)) (by kernel_rfl) _ (fun w' hw' => by go_simp)) hH0 ?_
  refine wpAnyH_take (i := 6) (v := .string s) rfl (by kernel_rfl) (by kernel_rfl) (by kernel_rfl) (fun _ _ _ h => h) (yk_load (by kernel_rfl) _ _ rfl (.pointer (some ⟨bp, 1, none⟩)) (by kernel_rfl) _ (fun w' hw' => by have c1 := (hw'.bl _ (.tail _ (.tail _ (.head _)))).cell 1; go_simp)) hH0 ?_
  refine wpAnyH_take (i := 8) (v := .pointer (some ⟨w.heap.size, 0, none⟩)) rfl (by kernel_rfl) (by kernel_rfl) (by kernel_rfl) (fun _ _ _ h => h) (yk_faB (by kernel_rfl) _ _ _ rfl (.pointer (some ⟨w.heap.size, 0, none⟩)) (by kernel_rfl) _ (fun w' hw' => by go_simp)) hH0 ?_
  refine wpAnyH_take (i := 9) (v := .pointer (some ⟨w.heap.size, 0, none⟩)) rfl (by kernel_rfl) (by kernel_rfl) (by kernel_rfl) (fun _ _ _ h => h) (yk_faB (by kernel_rfl) _ _ _ rfl (.pointer (some ⟨w.heap.size, 0, none⟩)) (by kernel_rfl) _ (fun w' hw' => by go_simp)) hH0 ?_
  refine wpAnyH_take (i := 10) (v := .string d) rfl (by kernel_rfl) (by kernel_rfl) (by kernel_rfl) (fun _ _ _ h => h) (yk_load (by kernel_rfl) _ _ rfl (.pointer (some ⟨w.heap.size, 0, none⟩)) (by kernel_rfl) _ (fun w' hw' => by have c0 := (hw'.bl _ (.head _)).cell 0; go_simp)) hH0 ?_
  refine wpAnyH_ready (rs := [7]) (by kernel_rfl) (by simp) ?_
  refine AllReadyH.cons rfl (fun K hK => ?_) AllReadyH.nil
  go_simp
  go_at_call 36
  refine (esc17_any s _ (by omega)).mono ?_
  rintro e w7 ⟨rfl, hd7⟩
  go_wp2_with fail
  refine hK.out _ _ (hH0.on hd7) (fun hH1 => ?_)
  clear hK K
  replace kof := kof.on hd7
  refine wpAnyH_ready (rs := [11]) (by kernel_rfl) (by simp) ?_
  refine AllReadyH.cons rfl (fun K hK => ?_) AllReadyH.nil
  go_simp
  go_at_call 35
  refine (C.out _ _ (hvw.on hH1.hb)).mono ?_
  rintro e w11 ⟨q3, c3, rfl, hen, hd11⟩
  go_wp2_with fail
  refine hK.out _ _ (hH1.on hd11) (fun hH2 => ?_)
  clear hK K
  replace kof := kof.on hd11
  refine wpAnyH_take (i := 12) (v := .agg #[.slice q3 L.length c3]) rfl (by kernel_rfl) (by kernel_rfl) (by kernel_rfl) (fun _ _ _ h => h) (yk_ext (by kernel_rfl) _ _ rfl (.tuple #[.agg #[.slice q3 L.length c3], .int .i64 x]) (by kernel_rfl) _ (fun _ _ => rfl)) hH2 ?_
  refine wpAnyH_take (i := 13) (v := .int .i64 x) rfl (by kernel_rfl) (by kernel_rfl) (by kernel_rfl) (fun _ _ _ h => h) (yk_ext (by kernel_rfl) _ _ rfl (.tuple #[.agg #[.slice q3 L.length c3], .int .i64 x]) (by kernel_rfl) _ (fun _ _ => rfl)) hH2 ?_
  refine wpAnyH_ready (rs := [14]) (by kernel_rfl) (by simp) ?_
  refine AllReadyH.cons rfl (fun K hK => ?_) AllReadyH.nil
  rw [if_pos (by kernel_rfl)]
  try simp only [Act.put, List.getElem_toArray, List.getElem_cons_zero, List.getElem_cons_succ, List.setIfInBounds_toArray, List.set_cons_succ, List.set_cons_zero]
  refine wp_store_mid _ _ _ rfl (w.heap.size + 1) 0 [.slice q3 L.length c3].toArray (by kernel_rfl) (by kernel_rfl) (kof.there (Nat.le_refl 1)) szD (by simp [Value.oneCell']) ?_
  simp only [Act.put]
  refine hK.out _ _ (hH2.put (by simp; omega) (by omega) _) (fun hH3 => ?_)
  clear hK K
  refine wpAnyH_take (i := 15) (v := .int .i64 x) rfl (by kernel_rfl) (by kernel_rfl) (by kernel_rfl) (fun _ _ _ h => h) (yk_assign (by kernel_rfl) _ rfl _ (by kernel_rfl)) hH3 ?_
  refine wpAnyH_done (by kernel_rfl) ?_ _
  have hbf := hH3.hb
  have kf := setCells_all kof [.slice q3 L.length c3] rfl
  have hef := hen.box kof (.slice q3 L.length c3)
  change Exit.then _ _ _ _ (w11.setCells (w.heap.size + 1) 0 [.slice q3 L.length c3])
  change Ents (w11.setCells (w.heap.size + 1) 0 [.slice q3 L.length c3]) _ _ at hef
  generalize w11.setCells (w.heap.size + 1) 0 [.slice q3 L.length c3] = Y at *
  clear hen kof
  go_wp2_with fail
  refine bodyPost_ret (v := .tuple #[.agg #[.slice q3 L.length c3], .int .i64 x]) ?hr ?hd ?hp
  case hr => exact results_ct Tryz.results34 _ _ (w.heap.size + 1) 27 #[.slice q3 L.length c3] (0, 0) _ (by kernel_rfl) kf Tryz.underlying27 rfl szD _ (by kernel_rfl)
  case hd => rfl
  case hp => exact ⟨q3, c3, rfl, hef, hbf⟩
set_option maxHeartbeats 16000000 in
set_option maxRecDepth 100000 in
theorem cr1_any (v : Value) (E : List Ent) (sq ht tm : Int) (s k d f g : ByteArray) (n : Nat) (dn : ByteArray) (bd bp bn : Nat) (w : World) (hv : Ents w v E) (hs : Srt E) (hl : E.length ≤ 1800) (_zs : s.size ≤ 1000000) (zk : k.size ≤ 1000000) (_zd : d.size ≤ 1000000) (_zf : f.size ≤ 1000000) (_zg : g.size ≤ 1000000) (hn : W256 n) (kd : Blk w bd 27 #[v]) (kp : Blk w bp 35 #[.int .i64 sq, .string s, .string k, .string d, .int .u64 (limb n 0), .int .u64 (limb n 1), .int .u64 (limb n 2), .int .u64 (limb n 3), .string f, .string g, .int .i64 ht, .int .i64 tm]) (kn : Blk w bn 9 #[.string dn]) : Calls Tryz.prog 40 #[.agg #[.string d, .int .u64 (limb n 0), .int .u64 (limb n 1), .int .u64 (limb n 2), .int .u64 (limb n 3), .string f, .string g], .pointer (some ⟨bd, 0, none⟩), .pointer (some ⟨bp, 0, none⟩), .pointer (some ⟨bn, 0, none⟩)] w (Res17 (moveL E (escB k) g dn n) w) := by
  obtain ⟨q, cap, rfl⟩ := hv.len
  rcases hR : moveL E (escB k) g dn n with ⟨x, L⟩
  have C := fun v w hv => mv17_any v E d f g (escB k) g dn n w hv hs hl hn
  have hb0 := BW_alloc (BW_alloc (BW_refl w) (.cells #[.string d, .int .u64 (limb n 0), .int .u64 (limb n 1), .int .u64 (limb n 2), .int .u64 (limb n 3), .string f, .string g] 66)) (.cells #[.slice none 0 0] 27)
  have km := (blk1 w 66 #[.string d, .int .u64 (limb n 0), .int .u64 (limb n 1), .int .u64 (limb n 2), .int .u64 (limb n 3), .string f, .string g]).alloc (.cells #[.slice none 0 0] 27)
  have ko := blk2 w (.cells #[.string d, .int .u64 (limb n 0), .int .u64 (limb n 1), .int .u64 (limb n 2), .int .u64 (limb n 3), .string f, .string g] 66) 27 #[.slice none 0 0]
  have hld := kd.lt
  have kd := kd.on hb0
  have hlp := kp.lt
  have kp := kp.on hb0
  have hln := kn.lt
  have kn := kn.on hb0
  have hv0 := Lib.hid (hv.on hb0)
  have hvw := hv
  clear hv
  rw [hR] at C
  replace C := Lib.hid C
  clear hR
  go_enter Tryz.func40, Tryz.ntmps40
  go_upto_region 1 with (fail)
  change Code.wp _ _ _ _ ((w.alloc (.cells #[.string d, .int .u64 (limb n 0), .int .u64 (limb n 1), .int .u64 (limb n 2), .int .u64 (limb n 3), .string f, .string g] 66)).alloc (.cells #[.slice none 0 0] 27))
  generalize (w.alloc (.cells #[.string d, .int .u64 (limb n 0), .int .u64 (limb n 1), .int .u64 (limb n 2), .int .u64 (limb n 3), .string f, .string g] 66)).alloc (.cells #[.slice none 0 0] 27) = X at *
  have kof := ko.drew
  refine wp_region_held_drew (S := BxS w [(w.heap.size, 66, #[.string d, .int .u64 (limb n 0), .int .u64 (limb n 1), .int .u64 (limb n 2), .int .u64 (limb n 3), .string f, .string g]), (bd, 27, #[.slice q E.length cap]), (bp, 35, #[.int .i64 sq, .string s, .string k, .string d, .int .u64 (limb n 0), .int .u64 (limb n 1), .int .u64 (limb n 2), .int .u64 (limb n 3), .string f, .string g, .int .i64 ht, .int .i64 tm]), (bn, 9, #[.string dn])]) (by kernel_rfl) ((((((BxS.nil hb0).cons kn).cons kp).cons kd).cons km)).drew (fun hH0 => ?_)
  refine wpAnyH_take (i := 0) (v := .agg #[.string d, .int .u64 (limb n 0), .int .u64 (limb n 1), .int .u64 (limb n 2), .int .u64 (limb n 3), .string f, .string g]) rfl (by kernel_rfl) (by kernel_rfl) (by kernel_rfl) (fun _ _ _ h => h) (yk_load (by kernel_rfl) _ _ rfl (.pointer (some ⟨w.heap.size, 0, none⟩)) (by kernel_rfl) _ (fun w' hw' => by have c0 := (hw'.bl _ (.head _)).cell 0; have c1 := (hw'.bl _ (.head _)).cell 1; have c2 := (hw'.bl _ (.head _)).cell 2; have c3 := (hw'.bl _ (.head _)).cell 3; have c4 := (hw'.bl _ (.head _)).cell 4; have c5 := (hw'.bl _ (.head _)).cell 5; have c6 := (hw'.bl _ (.head _)).cell 6; go_simp)) hH0 ?_
  refine wpAnyH_take (i := 1) (v := .agg #[.slice q E.length cap]) rfl (by kernel_rfl) (by kernel_rfl) (by kernel_rfl) (fun _ _ _ h => h) (yk_load (by kernel_rfl) _ _ rfl (.pointer (some ⟨bd, 0, none⟩)) (by kernel_rfl) _ (fun w' hw' => by have c0 := (hw'.bl _ (.tail _ (.head _))).cell 0; go_simp)) hH0 ?_
  refine wpAnyH_take (i := 2) (v := .pointer (some ⟨bp, 2, none⟩)) rfl (by kernel_rfl) (by kernel_rfl) (by kernel_rfl) (fun _ _ _ h => h) (yk_faB (by kernel_rfl) _ _ _ rfl (.pointer (some ⟨bp, 0, none⟩)) (by kernel_rfl) _ (fun w' hw' => by go_simp)) hH0 ?_
  refine wpAnyH_take (i := 3) (v := .string k) rfl (by kernel_rfl) (by kernel_rfl) (by kernel_rfl) (fun _ _ _ h => h) (yk_load (by kernel_rfl) _ _ rfl (.pointer (some ⟨bp, 2, none⟩)) (by kernel_rfl) _ (fun w' hw' => by have c2 := (hw'.bl _ (.tail _ (.tail _ (.head _)))).cell 2; go_simp)) hH0 ?_
  refine wpAnyH_take (i := 5) (v := .pointer (some ⟨w.heap.size, 0, none⟩)) rfl (by kernel_rfl) (by kernel_rfl) (by kernel_rfl) (fun _ _ _ h => h) (yk_faB (by kernel_rfl) _ _ _ rfl (.pointer (some ⟨w.heap.size, 0, none⟩)) (by kernel_rfl) _ (fun w' hw' => by go_simp)) hH0 ?_
  refine wpAnyH_take (i := 6) (v := .pointer (some ⟨w.heap.size, 6, none⟩)) rfl (by kernel_rfl) (by kernel_rfl) (by kernel_rfl) (fun _ _ _ h => h) (yk_faB (by kernel_rfl) _ _ _ rfl (.pointer (some ⟨w.heap.size, 0, none⟩)) (by kernel_rfl) _ (fun w' hw' => by go_simp)) hH0 ?_
  refine wpAnyH_take (i := 7) (v := .string g) rfl (by kernel_rfl) (by kernel_rfl) (by kernel_rfl) (fun _ _ _ h => h) (yk_load (by kernel_rfl) _ _ rfl (.pointer (some ⟨w.heap.size, 6, none⟩)) (by kernel_rfl) _ (fun w' hw' => by have c6 := (hw'.bl _ (.head _)).cell 6; go_simp)) hH0 ?_
  refine wpAnyH_take (i := 8) (v := .string dn) rfl (by kernel_rfl) (by kernel_rfl) (by kernel_rfl) (fun _ _ _ h => h) (yk_load (by kernel_rfl) _ _ rfl (.pointer (some ⟨bn, 0, none⟩)) (by kernel_rfl) _ (fun w' hw' => by have c0 := (hw'.bl _ (.tail _ (.tail _ (.tail _ (.head _))))).cell 0; go_simp)) hH0 ?_
  refine wpAnyH_ready (rs := [4]) (by kernel_rfl) (by simp) ?_
  refine AllReadyH.cons rfl (fun K hK => ?_) AllReadyH.nil
  go_simp
  go_at_call 36
  refine (esc17_any k _ (by omega)).mono ?_
  rintro e w4 ⟨rfl, hd4⟩
  go_wp2_with fail
  refine hK.out _ _ (hH0.on hd4) (fun hH1 => ?_)
  clear hK K
  replace kof := kof.on hd4
  refine wpAnyH_ready (rs := [9]) (by kernel_rfl) (by simp) ?_
  refine AllReadyH.cons rfl (fun K hK => ?_) AllReadyH.nil
  go_simp
  go_at_call 35
  refine (C.out _ _ (hvw.on hH1.hb)).mono ?_
  rintro e w9 ⟨q3, c3, rfl, hen, hd9⟩
  go_wp2_with fail
  refine hK.out _ _ (hH1.on hd9) (fun hH2 => ?_)
  clear hK K
  replace kof := kof.on hd9
  refine wpAnyH_take (i := 10) (v := .agg #[.slice q3 L.length c3]) rfl (by kernel_rfl) (by kernel_rfl) (by kernel_rfl) (fun _ _ _ h => h) (yk_ext (by kernel_rfl) _ _ rfl (.tuple #[.agg #[.slice q3 L.length c3], .int .i64 x]) (by kernel_rfl) _ (fun _ _ => rfl)) hH2 ?_
  refine wpAnyH_take (i := 11) (v := .int .i64 x) rfl (by kernel_rfl) (by kernel_rfl) (by kernel_rfl) (fun _ _ _ h => h) (yk_ext (by kernel_rfl) _ _ rfl (.tuple #[.agg #[.slice q3 L.length c3], .int .i64 x]) (by kernel_rfl) _ (fun _ _ => rfl)) hH2 ?_
  refine wpAnyH_ready (rs := [12]) (by kernel_rfl) (by simp) ?_
  refine AllReadyH.cons rfl (fun K hK => ?_) AllReadyH.nil
  rw [if_pos (by kernel_rfl)]
  try simp only [Act.put, List.getElem_toArray, List.getElem_cons_zero, List.getElem_cons_succ, List.setIfInBounds_toArray, List.set_cons_succ, List.set_cons_zero]
  refine wp_store_mid _ _ _ rfl (w.heap.size + 1) 0 [.slice q3 L.length c3].toArray (by kernel_rfl) (by kernel_rfl) (kof.there (Nat.le_refl 1)) szD (by simp [Value.oneCell']) ?_
  simp only [Act.put]
  refine hK.out _ _ (hH2.put (by simp; omega) (by omega) _) (fun hH3 => ?_)
  clear hK K
  refine wpAnyH_take (i := 13) (v := .int .i64 x) rfl (by kernel_rfl) (by kernel_rfl) (by kernel_rfl) (fun _ _ _ h => h) (yk_assign (by kernel_rfl) _ rfl _ (by kernel_rfl)) hH3 ?_
  refine wpAnyH_done (by kernel_rfl) ?_ _
  have hbf := hH3.hb
  have kf := setCells_all kof [.slice q3 L.length c3] rfl
  have hef := hen.box kof (.slice q3 L.length c3)
  change Exit.then _ _ _ _ (w9.setCells (w.heap.size + 1) 0 [.slice q3 L.length c3])
  change Ents (w9.setCells (w.heap.size + 1) 0 [.slice q3 L.length c3]) _ _ at hef
  generalize w9.setCells (w.heap.size + 1) 0 [.slice q3 L.length c3] = Y at *
  clear hen kof
  go_wp2_with fail
  refine bodyPost_ret (v := .tuple #[.agg #[.slice q3 L.length c3], .int .i64 x]) ?hr ?hd ?hp
  case hr => exact results_ct Tryz.results40 _ _ (w.heap.size + 1) 27 #[.slice q3 L.length c3] (0, 0) _ (by kernel_rfl) kf Tryz.underlying27 rfl szD _ (by kernel_rfl)
  case hd => rfl
  case hp => exact ⟨q3, c3, rfl, hef, hbf⟩
set_option maxHeartbeats 16000000 in
set_option maxRecDepth 100000 in
theorem cr2_any (v : Value) (E : List Ent) (_sq _ht _tm : Int) (s k d f g : ByteArray) (n : Nat) (dn : ByteArray) (bd _bp bn : Nat) (w : World) (hv : Ents w v E) (hs : Srt E) (hl : E.length ≤ 1800) (_zs : s.size ≤ 1000000) (_zk : k.size ≤ 1000000) (_zd : d.size ≤ 1000000) (_zf : f.size ≤ 1000000) (_zg : g.size ≤ 1000000) (hn : W256 n) (kd : Blk w bd 27 #[v]) (kn : Blk w bn 9 #[.string dn]) : Calls Tryz.prog 41 #[.agg #[.string d, .int .u64 (limb n 0), .int .u64 (limb n 1), .int .u64 (limb n 2), .int .u64 (limb n 3), .string f, .string g], .pointer (some ⟨bd, 0, none⟩), .pointer (some ⟨bn, 0, none⟩)] w (Res17 (mintL E g dn n) w) := by
  obtain ⟨q, cap, rfl⟩ := hv.len
  rcases hR : mintL E g dn n with ⟨x, L⟩
  have C := fun v w hv => mt17_any v E d f g g dn n w hv hs hl hn
  have hb0 := BW_alloc (BW_alloc (BW_refl w) (.cells #[.string d, .int .u64 (limb n 0), .int .u64 (limb n 1), .int .u64 (limb n 2), .int .u64 (limb n 3), .string f, .string g] 66)) (.cells #[.slice none 0 0] 27)
  have km := (blk1 w 66 #[.string d, .int .u64 (limb n 0), .int .u64 (limb n 1), .int .u64 (limb n 2), .int .u64 (limb n 3), .string f, .string g]).alloc (.cells #[.slice none 0 0] 27)
  have ko := blk2 w (.cells #[.string d, .int .u64 (limb n 0), .int .u64 (limb n 1), .int .u64 (limb n 2), .int .u64 (limb n 3), .string f, .string g] 66) 27 #[.slice none 0 0]
  have hld := kd.lt
  have kd := kd.on hb0
  have hln := kn.lt
  have kn := kn.on hb0
  have hv0 := Lib.hid (hv.on hb0)
  have hvw := hv
  clear hv
  rw [hR] at C
  replace C := Lib.hid C
  clear hR
  have c_km := fun i => km.cell i
  have c_kd := fun i => kd.cell i
  have c_kn := fun i => kn.cell i
  go_enter Tryz.func41, Tryz.ntmps41
  go_wp2_with fail
  refine (C.out _ _ hv0.out).mono ?_
  rintro e w1 ⟨q3, c3, rfl, hen, hb1⟩
  clear c_km c_kd c_kn C
  replace ko := ko.on hb1
  replace hb0 := BW_on hb0 hb1
  have hbf := (hb0).setCell (p := ⟨w.heap.size + 1, 0, none⟩) (by show w.heap.size ≤ w.heap.size + 1; omega) (.slice q3 L.length c3)
  have hfe := (hen).box ko (.slice q3 L.length c3)
  have co := fun i => ko.cell i
  have fo := fun i => ko.free i
  go_wp2_with fail
  have hcc := fun i => (ko.set_ 0 (.slice q3 L.length c3)).cell i
  refine bodyPost_ret (v := .tuple #[.agg #[.slice q3 L.length c3], .int .i64 x]) (by simp [results, Tryz.results41, go_sem, hcc]) rfl ⟨_, _, rfl, hfe, hbf⟩
set_option maxHeartbeats 16000000 in
set_option maxRecDepth 100000 in
theorem cf1_any (v : Value) (E : List Ent) (_sq _ht _tm : Int) (s k d f g : ByteArray) (n : Nat) (_dn : ByteArray) (bd _bp _bn : Nat) (w : World) (hv : Ents w v E) (hs : Srt E) (hl : E.length ≤ 1800) (_zs : s.size ≤ 1000000) (_zk : k.size ≤ 1000000) (_zd : d.size ≤ 1000000) (_zf : f.size ≤ 1000000) (_zg : g.size ≤ 1000000) (hn : W256 n) (kd : Blk w bd 27 #[v]) : Calls Tryz.prog 44 #[.agg #[.string d, .int .u64 (limb n 0), .int .u64 (limb n 1), .int .u64 (limb n 2), .int .u64 (limb n 3), .string f, .string g], .pointer (some ⟨bd, 0, none⟩)] w (Res17 (mintL E f d n) w) := by
  obtain ⟨q, cap, rfl⟩ := hv.len
  rcases hR : mintL E f d n with ⟨x, L⟩
  have C := fun v w hv => mt17_any v E d f g f d n w hv hs hl hn
  have hb0 := BW_alloc (BW_alloc (BW_refl w) (.cells #[.string d, .int .u64 (limb n 0), .int .u64 (limb n 1), .int .u64 (limb n 2), .int .u64 (limb n 3), .string f, .string g] 66)) (.cells #[.slice none 0 0] 27)
  have km := (blk1 w 66 #[.string d, .int .u64 (limb n 0), .int .u64 (limb n 1), .int .u64 (limb n 2), .int .u64 (limb n 3), .string f, .string g]).alloc (.cells #[.slice none 0 0] 27)
  have ko := blk2 w (.cells #[.string d, .int .u64 (limb n 0), .int .u64 (limb n 1), .int .u64 (limb n 2), .int .u64 (limb n 3), .string f, .string g] 66) 27 #[.slice none 0 0]
  have hld := kd.lt
  have kd := kd.on hb0
  have hv0 := Lib.hid (hv.on hb0)
  have hvw := hv
  clear hv
  rw [hR] at C
  replace C := Lib.hid C
  clear hR
  have c_km := fun i => km.cell i
  have c_kd := fun i => kd.cell i
  go_enter Tryz.func44, Tryz.ntmps44
  go_wp2_with fail
  refine (C.out _ _ hv0.out).mono ?_
  rintro e w1 ⟨q3, c3, rfl, hen, hb1⟩
  clear c_km c_kd C
  replace ko := ko.on hb1
  replace hb0 := BW_on hb0 hb1
  have hbf := (hb0).setCell (p := ⟨w.heap.size + 1, 0, none⟩) (by show w.heap.size ≤ w.heap.size + 1; omega) (.slice q3 L.length c3)
  have hfe := (hen).box ko (.slice q3 L.length c3)
  have co := fun i => ko.cell i
  have fo := fun i => ko.free i
  go_wp2_with fail
  have hcc := fun i => (ko.set_ 0 (.slice q3 L.length c3)).cell i
  refine bodyPost_ret (v := .tuple #[.agg #[.slice q3 L.length c3], .int .i64 x]) (by simp [results, Tryz.results44, go_sem, hcc]) rfl ⟨_, _, rfl, hfe, hbf⟩
set_option maxHeartbeats 16000000 in
set_option maxRecDepth 100000 in
theorem cf2_any (v : Value) (E : List Ent) (sq ht tm : Int) (s k d f g : ByteArray) (n : Nat) (_dn : ByteArray) (bd bp _bn : Nat) (w : World) (hv : Ents w v E) (hs : Srt E) (hl : E.length ≤ 1800) (zs : s.size ≤ 1000000) (_zk : k.size ≤ 1000000) (_zd : d.size ≤ 1000000) (_zf : f.size ≤ 1000000) (_zg : g.size ≤ 1000000) (hn : W256 n) (kd : Blk w bd 27 #[v]) (kp : Blk w bp 35 #[.int .i64 sq, .string s, .string k, .string d, .int .u64 (limb n 0), .int .u64 (limb n 1), .int .u64 (limb n 2), .int .u64 (limb n 3), .string f, .string g, .int .i64 ht, .int .i64 tm]) : Calls Tryz.prog 45 #[.agg #[.string d, .int .u64 (limb n 0), .int .u64 (limb n 1), .int .u64 (limb n 2), .int .u64 (limb n 3), .string f, .string g], .pointer (some ⟨bd, 0, none⟩), .pointer (some ⟨bp, 0, none⟩)] w (Res17 (moveL E (escB s) f d n) w) := by
  obtain ⟨q, cap, rfl⟩ := hv.len
  rcases hR : moveL E (escB s) f d n with ⟨x, L⟩
  have C := fun v w hv => mv17_any v E d f g (escB s) f d n w hv hs hl hn
  have hb0 := BW_alloc (BW_alloc (BW_refl w) (.cells #[.string d, .int .u64 (limb n 0), .int .u64 (limb n 1), .int .u64 (limb n 2), .int .u64 (limb n 3), .string f, .string g] 66)) (.cells #[.slice none 0 0] 27)
  have km := (blk1 w 66 #[.string d, .int .u64 (limb n 0), .int .u64 (limb n 1), .int .u64 (limb n 2), .int .u64 (limb n 3), .string f, .string g]).alloc (.cells #[.slice none 0 0] 27)
  have ko := blk2 w (.cells #[.string d, .int .u64 (limb n 0), .int .u64 (limb n 1), .int .u64 (limb n 2), .int .u64 (limb n 3), .string f, .string g] 66) 27 #[.slice none 0 0]
  have hld := kd.lt
  have kd := kd.on hb0
  have hlp := kp.lt
  have kp := kp.on hb0
  have hv0 := Lib.hid (hv.on hb0)
  have hvw := hv
  clear hv
  rw [hR] at C
  replace C := Lib.hid C
  clear hR
  go_enter Tryz.func45, Tryz.ntmps45
  go_upto_region 1 with (fail)
  change Code.wp _ _ _ _ ((w.alloc (.cells #[.string d, .int .u64 (limb n 0), .int .u64 (limb n 1), .int .u64 (limb n 2), .int .u64 (limb n 3), .string f, .string g] 66)).alloc (.cells #[.slice none 0 0] 27))
  generalize (w.alloc (.cells #[.string d, .int .u64 (limb n 0), .int .u64 (limb n 1), .int .u64 (limb n 2), .int .u64 (limb n 3), .string f, .string g] 66)).alloc (.cells #[.slice none 0 0] 27) = X at *
  have kof := ko.drew
  refine wp_region_held_drew (S := BxS w [(w.heap.size, 66, #[.string d, .int .u64 (limb n 0), .int .u64 (limb n 1), .int .u64 (limb n 2), .int .u64 (limb n 3), .string f, .string g]), (bd, 27, #[.slice q E.length cap]), (bp, 35, #[.int .i64 sq, .string s, .string k, .string d, .int .u64 (limb n 0), .int .u64 (limb n 1), .int .u64 (limb n 2), .int .u64 (limb n 3), .string f, .string g, .int .i64 ht, .int .i64 tm])]) (by kernel_rfl) (((((BxS.nil hb0).cons kp).cons kd).cons km)).drew (fun hH0 => ?_)
  refine wpAnyH_take (i := 0) (v := .agg #[.string d, .int .u64 (limb n 0), .int .u64 (limb n 1), .int .u64 (limb n 2), .int .u64 (limb n 3), .string f, .string g]) rfl (by kernel_rfl) (by kernel_rfl) (by kernel_rfl) (fun _ _ _ h => h) (yk_load (by kernel_rfl) _ _ rfl (.pointer (some ⟨w.heap.size, 0, none⟩)) (by kernel_rfl) _ (fun w' hw' => by have c0 := (hw'.bl _ (.head _)).cell 0; have c1 := (hw'.bl _ (.head _)).cell 1; have c2 := (hw'.bl _ (.head _)).cell 2; have c3 := (hw'.bl _ (.head _)).cell 3; have c4 := (hw'.bl _ (.head _)).cell 4; have c5 := (hw'.bl _ (.head _)).cell 5; have c6 := (hw'.bl _ (.head _)).cell 6; go_simp)) hH0 ?_
  refine wpAnyH_take (i := 1) (v := .agg #[.slice q E.length cap]) rfl (by kernel_rfl) (by kernel_rfl) (by kernel_rfl) (fun _ _ _ h => h) (yk_load (by kernel_rfl) _ _ rfl (.pointer (some ⟨bd, 0, none⟩)) (by kernel_rfl) _ (fun w' hw' => by have c0 := (hw'.bl _ (.tail _ (.head _))).cell 0; go_simp)) hH0 ?_
  refine wpAnyH_take (i := 2) (v := .pointer (some ⟨bp, 1, none⟩)) rfl (by kernel_rfl) (by kernel_rfl) (by kernel_rfl) (fun _ _ _ h => h) (yk_faB (by kernel_rfl) _ _ _ rfl (.pointer (some ⟨bp, 0, none⟩)) (by kernel_rfl) _ (fun w' hw' => by go_simp)) hH0 ?_
  refine wpAnyH_take (i := 3) (v := .string s) rfl (by kernel_rfl) (by kernel_rfl) (by kernel_rfl) (fun _ _ _ h => h) (yk_load (by kernel_rfl) _ _ rfl (.pointer (some ⟨bp, 1, none⟩)) (by kernel_rfl) _ (fun w' hw' => by have c1 := (hw'.bl _ (.tail _ (.tail _ (.head _)))).cell 1; go_simp)) hH0 ?_
  refine wpAnyH_take (i := 5) (v := .pointer (some ⟨w.heap.size, 0, none⟩)) rfl (by kernel_rfl) (by kernel_rfl) (by kernel_rfl) (fun _ _ _ h => h) (yk_faB (by kernel_rfl) _ _ _ rfl (.pointer (some ⟨w.heap.size, 0, none⟩)) (by kernel_rfl) _ (fun w' hw' => by go_simp)) hH0 ?_
  refine wpAnyH_take (i := 6) (v := .pointer (some ⟨w.heap.size, 5, none⟩)) rfl (by kernel_rfl) (by kernel_rfl) (by kernel_rfl) (fun _ _ _ h => h) (yk_faB (by kernel_rfl) _ _ _ rfl (.pointer (some ⟨w.heap.size, 0, none⟩)) (by kernel_rfl) _ (fun w' hw' => by go_simp)) hH0 ?_
  refine wpAnyH_take (i := 7) (v := .string f) rfl (by kernel_rfl) (by kernel_rfl) (by kernel_rfl) (fun _ _ _ h => h) (yk_load (by kernel_rfl) _ _ rfl (.pointer (some ⟨w.heap.size, 5, none⟩)) (by kernel_rfl) _ (fun w' hw' => by have c5 := (hw'.bl _ (.head _)).cell 5; go_simp)) hH0 ?_
  refine wpAnyH_take (i := 8) (v := .pointer (some ⟨w.heap.size, 0, none⟩)) rfl (by kernel_rfl) (by kernel_rfl) (by kernel_rfl) (fun _ _ _ h => h) (yk_faB (by kernel_rfl) _ _ _ rfl (.pointer (some ⟨w.heap.size, 0, none⟩)) (by kernel_rfl) _ (fun w' hw' => by go_simp)) hH0 ?_
  refine wpAnyH_take (i := 9) (v := .pointer (some ⟨w.heap.size, 0, none⟩)) rfl (by kernel_rfl) (by kernel_rfl) (by kernel_rfl) (fun _ _ _ h => h) (yk_faB (by kernel_rfl) _ _ _ rfl (.pointer (some ⟨w.heap.size, 0, none⟩)) (by kernel_rfl) _ (fun w' hw' => by go_simp)) hH0 ?_
  refine wpAnyH_take (i := 10) (v := .string d) rfl (by kernel_rfl) (by kernel_rfl) (by kernel_rfl) (fun _ _ _ h => h) (yk_load (by kernel_rfl) _ _ rfl (.pointer (some ⟨w.heap.size, 0, none⟩)) (by kernel_rfl) _ (fun w' hw' => by have c0 := (hw'.bl _ (.head _)).cell 0; go_simp)) hH0 ?_
  refine wpAnyH_ready (rs := [4]) (by kernel_rfl) (by simp) ?_
  refine AllReadyH.cons rfl (fun K hK => ?_) AllReadyH.nil
  go_simp
  go_at_call 36
  refine (esc17_any s _ (by omega)).mono ?_
  rintro e w4 ⟨rfl, hd4⟩
  go_wp2_with fail
  refine hK.out _ _ (hH0.on hd4) (fun hH1 => ?_)
  clear hK K
  replace kof := kof.on hd4
  refine wpAnyH_ready (rs := [11]) (by kernel_rfl) (by simp) ?_
  refine AllReadyH.cons rfl (fun K hK => ?_) AllReadyH.nil
  go_simp
  go_at_call 35
  refine (C.out _ _ (hvw.on hH1.hb)).mono ?_
  rintro e w11 ⟨q3, c3, rfl, hen, hd11⟩
  go_wp2_with fail
  refine hK.out _ _ (hH1.on hd11) (fun hH2 => ?_)
  clear hK K
  replace kof := kof.on hd11
  refine wpAnyH_take (i := 12) (v := .agg #[.slice q3 L.length c3]) rfl (by kernel_rfl) (by kernel_rfl) (by kernel_rfl) (fun _ _ _ h => h) (yk_ext (by kernel_rfl) _ _ rfl (.tuple #[.agg #[.slice q3 L.length c3], .int .i64 x]) (by kernel_rfl) _ (fun _ _ => rfl)) hH2 ?_
  refine wpAnyH_take (i := 13) (v := .int .i64 x) rfl (by kernel_rfl) (by kernel_rfl) (by kernel_rfl) (fun _ _ _ h => h) (yk_ext (by kernel_rfl) _ _ rfl (.tuple #[.agg #[.slice q3 L.length c3], .int .i64 x]) (by kernel_rfl) _ (fun _ _ => rfl)) hH2 ?_
  refine wpAnyH_ready (rs := [14]) (by kernel_rfl) (by simp) ?_
  refine AllReadyH.cons rfl (fun K hK => ?_) AllReadyH.nil
  rw [if_pos (by kernel_rfl)]
  try simp only [Act.put, List.getElem_toArray, List.getElem_cons_zero, List.getElem_cons_succ, List.setIfInBounds_toArray, List.set_cons_succ, List.set_cons_zero]
  refine wp_store_mid _ _ _ rfl (w.heap.size + 1) 0 [.slice q3 L.length c3].toArray (by kernel_rfl) (by kernel_rfl) (kof.there (Nat.le_refl 1)) szD (by simp [Value.oneCell']) ?_
  simp only [Act.put]
  refine hK.out _ _ (hH2.put (by simp; omega) (by omega) _) (fun hH3 => ?_)
  clear hK K
  refine wpAnyH_take (i := 15) (v := .int .i64 x) rfl (by kernel_rfl) (by kernel_rfl) (by kernel_rfl) (fun _ _ _ h => h) (yk_assign (by kernel_rfl) _ rfl _ (by kernel_rfl)) hH3 ?_
  refine wpAnyH_done (by kernel_rfl) ?_ _
  have hbf := hH3.hb
  have kf := setCells_all kof [.slice q3 L.length c3] rfl
  have hef := hen.box kof (.slice q3 L.length c3)
  change Exit.then _ _ _ _ (w11.setCells (w.heap.size + 1) 0 [.slice q3 L.length c3])
  change Ents (w11.setCells (w.heap.size + 1) 0 [.slice q3 L.length c3]) _ _ at hef
  generalize w11.setCells (w.heap.size + 1) 0 [.slice q3 L.length c3] = Y at *
  clear hen kof
  go_wp2_with fail
  refine bodyPost_ret (v := .tuple #[.agg #[.slice q3 L.length c3], .int .i64 x]) ?hr ?hd ?hp
  case hr => exact results_ct Tryz.results45 _ _ (w.heap.size + 1) 27 #[.slice q3 L.length c3] (0, 0) _ (by kernel_rfl) kf Tryz.underlying27 rfl szD _ (by kernel_rfl)
  case hd => rfl
  case hp => exact ⟨q3, c3, rfl, hef, hbf⟩
end Go.Proofs.YtpcdgljcpacpiaaGreatDoor
