/- Contracts of layer 17 (transfer): Send, Recv, Refund. -/
import Derived.Test.YtpcdgljcpacpiaaGreatDoorUa
set_option maxRecDepth 20000
namespace Go.Proofs.YtpcdgljcpacpiaaGreatDoor
open Go.RowKit
attribute [local go_sem ↓] Go.wp_at_zero Go.wp_at_succ
set_option maxHeartbeats 16000000 in
set_option maxRecDepth 100000 in
theorem dsend_any (v : Value) (E : List Ent) (sq ht tm : Int) (s k d f g : ByteArray) (n : Nat) (dn : ByteArray) (bd bp bn : Nat) (w : World) (hv : Ents w v E) (hs : Srt E) (hl : E.length ≤ 1800) (zs : s.size ≤ 1000000) (zk : k.size ≤ 1000000) (zd : d.size ≤ 1000000) (zf : f.size ≤ 1000000) (zg : g.size ≤ 1000000) (hn : W256 n) (kd : Blk w bd 27 #[v]) (kp : Blk w bp 35 #[.int .i64 sq, .string s, .string k, .string d, .int .u64 (limb n 0), .int .u64 (limb n 1), .int .u64 (limb n 2), .int .u64 (limb n 3), .string f, .string g, .int .i64 ht, .int .i64 tm]) :
    Calls Tryz.prog 31 #[.agg #[.int .i64 sq, .string s, .string k, .string d, .int .u64 (limb n 0), .int .u64 (limb n 1), .int .u64 (limb n 2), .int .u64 (limb n 3), .string f, .string g, .int .i64 ht, .int .i64 tm], .func (.func 32) #[] #[.pointer (some ⟨bd, 0, none⟩)], .func (.func 34) #[] #[.pointer (some ⟨bd, 0, none⟩), .pointer (some ⟨bp, 0, none⟩)]] w (Res17 (sel17 (okP sq ht tm (bysN s) (bysN k) (bysN d) (bysN f) (bysN g) n) (homeB s d) (burnL E f d n) (moveL E f (escB s) d n)) w) := by
  rcases hR : sel17 (okP sq ht tm (bysN s) (bysN k) (bysN d) (bysN f) (bysN g) n) (homeB s d) (burnL E f d n) (moveL E f (escB s) d n) with ⟨x, L⟩
  have hb0 := BW_alloc (BW_alloc (BW_alloc (BW_refl w) (.cells #[.int .i64 sq, .string s, .string k, .string d, .int .u64 (limb n 0), .int .u64 (limb n 1), .int .u64 (limb n 2), .int .u64 (limb n 3), .string f, .string g, .int .i64 ht, .int .i64 tm] 35)) (.cells #[.slice none 0 0] 27)) (.cells #[.string d, .int .u64 (limb n 0), .int .u64 (limb n 1), .int .u64 (limb n 2), .int .u64 (limb n 3), .string f, .string g] 66)
  have kq := ((blk1 w 35 #[.int .i64 sq, .string s, .string k, .string d, .int .u64 (limb n 0), .int .u64 (limb n 1), .int .u64 (limb n 2), .int .u64 (limb n 3), .string f, .string g, .int .i64 ht, .int .i64 tm]).alloc (.cells #[.slice none 0 0] 27)).alloc (.cells #[.string d, .int .u64 (limb n 0), .int .u64 (limb n 1), .int .u64 (limb n 2), .int .u64 (limb n 3), .string f, .string g] 66)
  have ko := (blk2 w (.cells #[.int .i64 sq, .string s, .string k, .string d, .int .u64 (limb n 0), .int .u64 (limb n 1), .int .u64 (limb n 2), .int .u64 (limb n 3), .string f, .string g, .int .i64 ht, .int .i64 tm] 35) 27 #[.slice none 0 0]).alloc (.cells #[.string d, .int .u64 (limb n 0), .int .u64 (limb n 1), .int .u64 (limb n 2), .int .u64 (limb n 3), .string f, .string g] 66)
  have km := blk3 w (.cells #[.int .i64 sq, .string s, .string k, .string d, .int .u64 (limb n 0), .int .u64 (limb n 1), .int .u64 (limb n 2), .int .u64 (limb n 3), .string f, .string g, .int .i64 ht, .int .i64 tm] 35) (.cells #[.slice none 0 0] 27) 66 #[.string d, .int .u64 (limb n 0), .int .u64 (limb n 1), .int .u64 (limb n 2), .int .u64 (limb n 3), .string f, .string g]
  replace kd := kd.on hb0
  replace kp := kp.on hb0
  have hv0 := Lib.hid (hv.on hb0)
  clear hv
  have HC := fun w => check13_any sq ht tm s k d f g n w zs zk zd zf zg hn
  have cq := fun i => kq.cell i
  cases hok : okP sq ht tm (bysN s) (bysN k) (bysN d) (bysN f) (bysN g) n
  · rw [hok, show chkN false = 1 from rfl] at HC
    rw [hok] at hR
    obtain ⟨rfl, rfl⟩ := Prod.mk.inj (show (1, []) = (x, L) from hR)
    replace HC := Lib.hid HC
    clear hok hR
    go_enter Tryz.func31, Tryz.ntmps31
    go_wp2_with fail
    refine (HC.out _).mono ?_
    rintro e w1 ⟨rfl, hb1⟩
    clear HC cq
    replace kq := kq.on hb1
    replace ko := ko.on hb1
    replace km := km.on hb1
    replace kd := kd.on hb1
    replace kp := kp.on hb1
    replace hv0 := Lib.hid (hv0.out.on hb1)
    replace hb0 := BW_on hb0 hb1
    have hbf := (hb0).setCell (p := ⟨w.heap.size + 1, 0, none⟩) (by show w.heap.size ≤ w.heap.size + 1; omega) (.slice none 0 0)
    have hfe := (Ents.nil _).box ko (.slice none 0 0)
    have co := fun i => ko.cell i
    have fo := fun i => ko.free i
    go_wp2_with fail
    have hcc := fun i => (ko.set_ 0 (.slice none 0 0)).cell i
    refine bodyPost_ret (v := .tuple #[.agg #[.slice none 0 0], .int .i64 1]) (by simp [results, Tryz.results31, go_sem, hcc]) rfl ⟨_, _, rfl, hfe, hbf⟩
  · rw [hok, show chkN true = 0 from rfl] at HC
    rw [hok] at hR
    replace HC := Lib.hid HC
    clear hok
    have HH := fun w => home17_any sq ht tm s k d f g n w zs zd
    cases hh : homeB s d
    · rw [hh] at HH hR
      have hR' : moveL E f (escB s) d n = (x, L) := hR
      replace HH := Lib.hid HH
      have C := fun w hv kd kp => cs2_any v E sq ht tm s k d f g n dn bd bp bn w hv hs hl zs zk zd zf zg hn kd kp
      rw [hR'] at C
      replace C := Lib.hid C
      clear hh hR hR'
      go_enter Tryz.func31, Tryz.ntmps31
      go_wp2_with fail
      refine (HC.out _).mono ?_
      rintro e w1 ⟨rfl, hb1⟩
      clear HC cq
      replace kq := kq.on hb1
      replace ko := ko.on hb1
      replace km := km.on hb1
      replace kd := kd.on hb1
      replace kp := kp.on hb1
      replace hv0 := Lib.hid (hv0.out.on hb1)
      replace hb0 := BW_on hb0 hb1
      have cq := fun i => kq.cell i
      go_wp2_with fail
      refine (HH.out _).mono ?_
      rintro e w2 ⟨rfl, hb2⟩
      clear HH cq hb1
      replace kq := kq.on hb2
      replace ko := ko.on hb2
      replace km := km.on hb2
      replace kd := kd.on hb2
      replace kp := kp.on hb2
      replace hv0 := Lib.hid (hv0.out.on hb2)
      replace hb0 := BW_on hb0 hb2
      have cm := fun i => km.cell i
      go_wp2_with fail
      refine (C.out _ hv0.out kd kp).mono ?_
      rintro e w3 ⟨q3, c3, rfl, hen, hb3⟩
      clear C cm hb2
      replace ko := ko.on hb3
      replace hb0 := BW_on hb0 hb3
      have hbf := (hb0).setCell (p := ⟨w.heap.size + 1, 0, none⟩) (by show w.heap.size ≤ w.heap.size + 1; omega) (.slice q3 L.length c3)
      have hfe := (hen).box ko (.slice q3 L.length c3)
      have co := fun i => ko.cell i
      have fo := fun i => ko.free i
      go_wp2_with fail
      have hcc := fun i => (ko.set_ 0 (.slice q3 L.length c3)).cell i
      refine bodyPost_ret (v := .tuple #[.agg #[.slice q3 L.length c3], .int .i64 x]) (by simp [results, Tryz.results31, go_sem, hcc]) rfl ⟨_, _, rfl, hfe, hbf⟩
    · rw [hh] at HH hR
      have hR' : burnL E f d n = (x, L) := hR
      replace HH := Lib.hid HH
      have C := fun w hv kd => cs1_any v E sq ht tm s k d f g n dn bd bp bn w hv hs hl zs zk zd zf zg hn kd
      rw [hR'] at C
      replace C := Lib.hid C
      clear hh hR hR'
      go_enter Tryz.func31, Tryz.ntmps31
      go_wp2_with fail
      refine (HC.out _).mono ?_
      rintro e w1 ⟨rfl, hb1⟩
      clear HC cq
      replace kq := kq.on hb1
      replace ko := ko.on hb1
      replace km := km.on hb1
      replace kd := kd.on hb1
      replace kp := kp.on hb1
      replace hv0 := Lib.hid (hv0.out.on hb1)
      replace hb0 := BW_on hb0 hb1
      have cq := fun i => kq.cell i
      go_wp2_with fail
      refine (HH.out _).mono ?_
      rintro e w2 ⟨rfl, hb2⟩
      clear HH cq hb1
      replace kq := kq.on hb2
      replace ko := ko.on hb2
      replace km := km.on hb2
      replace kd := kd.on hb2
      replace kp := kp.on hb2
      replace hv0 := Lib.hid (hv0.out.on hb2)
      replace hb0 := BW_on hb0 hb2
      have cm := fun i => km.cell i
      go_wp2_with fail
      refine (C.out _ hv0.out kd).mono ?_
      rintro e w3 ⟨q3, c3, rfl, hen, hb3⟩
      clear C cm hb2
      replace ko := ko.on hb3
      replace hb0 := BW_on hb0 hb3
      have hbf := (hb0).setCell (p := ⟨w.heap.size + 1, 0, none⟩) (by show w.heap.size ≤ w.heap.size + 1; omega) (.slice q3 L.length c3)
      have hfe := (hen).box ko (.slice q3 L.length c3)
      have co := fun i => ko.cell i
      have fo := fun i => ko.free i
      go_wp2_with fail
      have hcc := fun i => (ko.set_ 0 (.slice q3 L.length c3)).cell i
      refine bodyPost_ret (v := .tuple #[.agg #[.slice q3 L.length c3], .int .i64 x]) (by simp [results, Tryz.results31, go_sem, hcc]) rfl ⟨_, _, rfl, hfe, hbf⟩
set_option maxHeartbeats 16000000 in
set_option maxRecDepth 100000 in
theorem drecv_any (v : Value) (E : List Ent) (sq ht tm : Int) (s k d f g : ByteArray) (n : Nat) (dn : ByteArray) (bd bp bn : Nat) (w : World) (hv : Ents w v E) (hs : Srt E) (hl : E.length ≤ 1800) (zs : s.size ≤ 1000000) (zk : k.size ≤ 1000000) (zd : d.size ≤ 1000000) (zf : f.size ≤ 1000000) (zg : g.size ≤ 1000000) (hn : W256 n) (kd : Blk w bd 27 #[v]) (kp : Blk w bp 35 #[.int .i64 sq, .string s, .string k, .string d, .int .u64 (limb n 0), .int .u64 (limb n 1), .int .u64 (limb n 2), .int .u64 (limb n 3), .string f, .string g, .int .i64 ht, .int .i64 tm]) (kn : Blk w bn 9 #[.string dn]) :
    Calls Tryz.prog 31 #[.agg #[.int .i64 sq, .string s, .string k, .string d, .int .u64 (limb n 0), .int .u64 (limb n 1), .int .u64 (limb n 2), .int .u64 (limb n 3), .string f, .string g, .int .i64 ht, .int .i64 tm], .func (.func 40) #[] #[.pointer (some ⟨bd, 0, none⟩), .pointer (some ⟨bp, 0, none⟩), .pointer (some ⟨bn, 0, none⟩)], .func (.func 41) #[] #[.pointer (some ⟨bd, 0, none⟩), .pointer (some ⟨bn, 0, none⟩)]] w (Res17 (sel17 (okP sq ht tm (bysN s) (bysN k) (bysN d) (bysN f) (bysN g) n) (homeB s d) (moveL E (escB k) g dn n) (mintL E g dn n)) w) := by
  rcases hR : sel17 (okP sq ht tm (bysN s) (bysN k) (bysN d) (bysN f) (bysN g) n) (homeB s d) (moveL E (escB k) g dn n) (mintL E g dn n) with ⟨x, L⟩
  have hb0 := BW_alloc (BW_alloc (BW_alloc (BW_refl w) (.cells #[.int .i64 sq, .string s, .string k, .string d, .int .u64 (limb n 0), .int .u64 (limb n 1), .int .u64 (limb n 2), .int .u64 (limb n 3), .string f, .string g, .int .i64 ht, .int .i64 tm] 35)) (.cells #[.slice none 0 0] 27)) (.cells #[.string d, .int .u64 (limb n 0), .int .u64 (limb n 1), .int .u64 (limb n 2), .int .u64 (limb n 3), .string f, .string g] 66)
  have kq := ((blk1 w 35 #[.int .i64 sq, .string s, .string k, .string d, .int .u64 (limb n 0), .int .u64 (limb n 1), .int .u64 (limb n 2), .int .u64 (limb n 3), .string f, .string g, .int .i64 ht, .int .i64 tm]).alloc (.cells #[.slice none 0 0] 27)).alloc (.cells #[.string d, .int .u64 (limb n 0), .int .u64 (limb n 1), .int .u64 (limb n 2), .int .u64 (limb n 3), .string f, .string g] 66)
  have ko := (blk2 w (.cells #[.int .i64 sq, .string s, .string k, .string d, .int .u64 (limb n 0), .int .u64 (limb n 1), .int .u64 (limb n 2), .int .u64 (limb n 3), .string f, .string g, .int .i64 ht, .int .i64 tm] 35) 27 #[.slice none 0 0]).alloc (.cells #[.string d, .int .u64 (limb n 0), .int .u64 (limb n 1), .int .u64 (limb n 2), .int .u64 (limb n 3), .string f, .string g] 66)
  have km := blk3 w (.cells #[.int .i64 sq, .string s, .string k, .string d, .int .u64 (limb n 0), .int .u64 (limb n 1), .int .u64 (limb n 2), .int .u64 (limb n 3), .string f, .string g, .int .i64 ht, .int .i64 tm] 35) (.cells #[.slice none 0 0] 27) 66 #[.string d, .int .u64 (limb n 0), .int .u64 (limb n 1), .int .u64 (limb n 2), .int .u64 (limb n 3), .string f, .string g]
  replace kd := kd.on hb0
  replace kp := kp.on hb0
  replace kn := kn.on hb0
  have hv0 := Lib.hid (hv.on hb0)
  clear hv
  have HC := fun w => check13_any sq ht tm s k d f g n w zs zk zd zf zg hn
  have cq := fun i => kq.cell i
  cases hok : okP sq ht tm (bysN s) (bysN k) (bysN d) (bysN f) (bysN g) n
  · rw [hok, show chkN false = 1 from rfl] at HC
    rw [hok] at hR
    obtain ⟨rfl, rfl⟩ := Prod.mk.inj (show (1, []) = (x, L) from hR)
    replace HC := Lib.hid HC
    clear hok hR
    go_enter Tryz.func31, Tryz.ntmps31
    go_wp2_with fail
    refine (HC.out _).mono ?_
    rintro e w1 ⟨rfl, hb1⟩
    clear HC cq
    replace kq := kq.on hb1
    replace ko := ko.on hb1
    replace km := km.on hb1
    replace kd := kd.on hb1
    replace kp := kp.on hb1
    replace kn := kn.on hb1
    replace hv0 := Lib.hid (hv0.out.on hb1)
    replace hb0 := BW_on hb0 hb1
    have hbf := (hb0).setCell (p := ⟨w.heap.size + 1, 0, none⟩) (by show w.heap.size ≤ w.heap.size + 1; omega) (.slice none 0 0)
    have hfe := (Ents.nil _).box ko (.slice none 0 0)
    have co := fun i => ko.cell i
    have fo := fun i => ko.free i
    go_wp2_with fail
    have hcc := fun i => (ko.set_ 0 (.slice none 0 0)).cell i
    refine bodyPost_ret (v := .tuple #[.agg #[.slice none 0 0], .int .i64 1]) (by simp [results, Tryz.results31, go_sem, hcc]) rfl ⟨_, _, rfl, hfe, hbf⟩
  · rw [hok, show chkN true = 0 from rfl] at HC
    rw [hok] at hR
    replace HC := Lib.hid HC
    clear hok
    have HH := fun w => home17_any sq ht tm s k d f g n w zs zd
    cases hh : homeB s d
    · rw [hh] at HH hR
      have hR' : mintL E g dn n = (x, L) := hR
      replace HH := Lib.hid HH
      have C := fun w hv kd kn => cr2_any v E sq ht tm s k d f g n dn bd bp bn w hv hs hl zs zk zd zf zg hn kd kn
      rw [hR'] at C
      replace C := Lib.hid C
      clear hh hR hR'
      go_enter Tryz.func31, Tryz.ntmps31
      go_wp2_with fail
      refine (HC.out _).mono ?_
      rintro e w1 ⟨rfl, hb1⟩
      clear HC cq
      replace kq := kq.on hb1
      replace ko := ko.on hb1
      replace km := km.on hb1
      replace kd := kd.on hb1
      replace kp := kp.on hb1
      replace kn := kn.on hb1
      replace hv0 := Lib.hid (hv0.out.on hb1)
      replace hb0 := BW_on hb0 hb1
      have cq := fun i => kq.cell i
      go_wp2_with fail
      refine (HH.out _).mono ?_
      rintro e w2 ⟨rfl, hb2⟩
      clear HH cq hb1
      replace kq := kq.on hb2
      replace ko := ko.on hb2
      replace km := km.on hb2
      replace kd := kd.on hb2
      replace kp := kp.on hb2
      replace kn := kn.on hb2
      replace hv0 := Lib.hid (hv0.out.on hb2)
      replace hb0 := BW_on hb0 hb2
      have cm := fun i => km.cell i
      go_wp2_with fail
      refine (C.out _ hv0.out kd kn).mono ?_
      rintro e w3 ⟨q3, c3, rfl, hen, hb3⟩
      clear C cm hb2
      replace ko := ko.on hb3
      replace hb0 := BW_on hb0 hb3
      have hbf := (hb0).setCell (p := ⟨w.heap.size + 1, 0, none⟩) (by show w.heap.size ≤ w.heap.size + 1; omega) (.slice q3 L.length c3)
      have hfe := (hen).box ko (.slice q3 L.length c3)
      have co := fun i => ko.cell i
      have fo := fun i => ko.free i
      go_wp2_with fail
      have hcc := fun i => (ko.set_ 0 (.slice q3 L.length c3)).cell i
      refine bodyPost_ret (v := .tuple #[.agg #[.slice q3 L.length c3], .int .i64 x]) (by simp [results, Tryz.results31, go_sem, hcc]) rfl ⟨_, _, rfl, hfe, hbf⟩
    · rw [hh] at HH hR
      have hR' : moveL E (escB k) g dn n = (x, L) := hR
      replace HH := Lib.hid HH
      have C := fun w hv kd kp kn => cr1_any v E sq ht tm s k d f g n dn bd bp bn w hv hs hl zs zk zd zf zg hn kd kp kn
      rw [hR'] at C
      replace C := Lib.hid C
      clear hh hR hR'
      go_enter Tryz.func31, Tryz.ntmps31
      go_wp2_with fail
      refine (HC.out _).mono ?_
      rintro e w1 ⟨rfl, hb1⟩
      clear HC cq
      replace kq := kq.on hb1
      replace ko := ko.on hb1
      replace km := km.on hb1
      replace kd := kd.on hb1
      replace kp := kp.on hb1
      replace kn := kn.on hb1
      replace hv0 := Lib.hid (hv0.out.on hb1)
      replace hb0 := BW_on hb0 hb1
      have cq := fun i => kq.cell i
      go_wp2_with fail
      refine (HH.out _).mono ?_
      rintro e w2 ⟨rfl, hb2⟩
      clear HH cq hb1
      replace kq := kq.on hb2
      replace ko := ko.on hb2
      replace km := km.on hb2
      replace kd := kd.on hb2
      replace kp := kp.on hb2
      replace kn := kn.on hb2
      replace hv0 := Lib.hid (hv0.out.on hb2)
      replace hb0 := BW_on hb0 hb2
      have cm := fun i => km.cell i
      go_wp2_with fail
      refine (C.out _ hv0.out kd kp kn).mono ?_
      rintro e w3 ⟨q3, c3, rfl, hen, hb3⟩
      clear C cm hb2
      replace ko := ko.on hb3
      replace hb0 := BW_on hb0 hb3
      have hbf := (hb0).setCell (p := ⟨w.heap.size + 1, 0, none⟩) (by show w.heap.size ≤ w.heap.size + 1; omega) (.slice q3 L.length c3)
      have hfe := (hen).box ko (.slice q3 L.length c3)
      have co := fun i => ko.cell i
      have fo := fun i => ko.free i
      go_wp2_with fail
      have hcc := fun i => (ko.set_ 0 (.slice q3 L.length c3)).cell i
      refine bodyPost_ret (v := .tuple #[.agg #[.slice q3 L.length c3], .int .i64 x]) (by simp [results, Tryz.results31, go_sem, hcc]) rfl ⟨_, _, rfl, hfe, hbf⟩
set_option maxHeartbeats 16000000 in
set_option maxRecDepth 100000 in
theorem drefund_any (v : Value) (E : List Ent) (sq ht tm : Int) (s k d f g : ByteArray) (n : Nat) (dn : ByteArray) (bd bp bn : Nat) (w : World) (hv : Ents w v E) (hs : Srt E) (hl : E.length ≤ 1800) (zs : s.size ≤ 1000000) (zk : k.size ≤ 1000000) (zd : d.size ≤ 1000000) (zf : f.size ≤ 1000000) (zg : g.size ≤ 1000000) (hn : W256 n) (kd : Blk w bd 27 #[v]) (kp : Blk w bp 35 #[.int .i64 sq, .string s, .string k, .string d, .int .u64 (limb n 0), .int .u64 (limb n 1), .int .u64 (limb n 2), .int .u64 (limb n 3), .string f, .string g, .int .i64 ht, .int .i64 tm]) :
    Calls Tryz.prog 31 #[.agg #[.int .i64 sq, .string s, .string k, .string d, .int .u64 (limb n 0), .int .u64 (limb n 1), .int .u64 (limb n 2), .int .u64 (limb n 3), .string f, .string g, .int .i64 ht, .int .i64 tm], .func (.func 44) #[] #[.pointer (some ⟨bd, 0, none⟩)], .func (.func 45) #[] #[.pointer (some ⟨bd, 0, none⟩), .pointer (some ⟨bp, 0, none⟩)]] w (Res17 (sel17 (okP sq ht tm (bysN s) (bysN k) (bysN d) (bysN f) (bysN g) n) (homeB s d) (mintL E f d n) (moveL E (escB s) f d n)) w) := by
  rcases hR : sel17 (okP sq ht tm (bysN s) (bysN k) (bysN d) (bysN f) (bysN g) n) (homeB s d) (mintL E f d n) (moveL E (escB s) f d n) with ⟨x, L⟩
  have hb0 := BW_alloc (BW_alloc (BW_alloc (BW_refl w) (.cells #[.int .i64 sq, .string s, .string k, .string d, .int .u64 (limb n 0), .int .u64 (limb n 1), .int .u64 (limb n 2), .int .u64 (limb n 3), .string f, .string g, .int .i64 ht, .int .i64 tm] 35)) (.cells #[.slice none 0 0] 27)) (.cells #[.string d, .int .u64 (limb n 0), .int .u64 (limb n 1), .int .u64 (limb n 2), .int .u64 (limb n 3), .string f, .string g] 66)
  have kq := ((blk1 w 35 #[.int .i64 sq, .string s, .string k, .string d, .int .u64 (limb n 0), .int .u64 (limb n 1), .int .u64 (limb n 2), .int .u64 (limb n 3), .string f, .string g, .int .i64 ht, .int .i64 tm]).alloc (.cells #[.slice none 0 0] 27)).alloc (.cells #[.string d, .int .u64 (limb n 0), .int .u64 (limb n 1), .int .u64 (limb n 2), .int .u64 (limb n 3), .string f, .string g] 66)
  have ko := (blk2 w (.cells #[.int .i64 sq, .string s, .string k, .string d, .int .u64 (limb n 0), .int .u64 (limb n 1), .int .u64 (limb n 2), .int .u64 (limb n 3), .string f, .string g, .int .i64 ht, .int .i64 tm] 35) 27 #[.slice none 0 0]).alloc (.cells #[.string d, .int .u64 (limb n 0), .int .u64 (limb n 1), .int .u64 (limb n 2), .int .u64 (limb n 3), .string f, .string g] 66)
  have km := blk3 w (.cells #[.int .i64 sq, .string s, .string k, .string d, .int .u64 (limb n 0), .int .u64 (limb n 1), .int .u64 (limb n 2), .int .u64 (limb n 3), .string f, .string g, .int .i64 ht, .int .i64 tm] 35) (.cells #[.slice none 0 0] 27) 66 #[.string d, .int .u64 (limb n 0), .int .u64 (limb n 1), .int .u64 (limb n 2), .int .u64 (limb n 3), .string f, .string g]
  replace kd := kd.on hb0
  replace kp := kp.on hb0
  have hv0 := Lib.hid (hv.on hb0)
  clear hv
  have HC := fun w => check13_any sq ht tm s k d f g n w zs zk zd zf zg hn
  have cq := fun i => kq.cell i
  cases hok : okP sq ht tm (bysN s) (bysN k) (bysN d) (bysN f) (bysN g) n
  · rw [hok, show chkN false = 1 from rfl] at HC
    rw [hok] at hR
    obtain ⟨rfl, rfl⟩ := Prod.mk.inj (show (1, []) = (x, L) from hR)
    replace HC := Lib.hid HC
    clear hok hR
    go_enter Tryz.func31, Tryz.ntmps31
    go_wp2_with fail
    refine (HC.out _).mono ?_
    rintro e w1 ⟨rfl, hb1⟩
    clear HC cq
    replace kq := kq.on hb1
    replace ko := ko.on hb1
    replace km := km.on hb1
    replace kd := kd.on hb1
    replace kp := kp.on hb1
    replace hv0 := Lib.hid (hv0.out.on hb1)
    replace hb0 := BW_on hb0 hb1
    have hbf := (hb0).setCell (p := ⟨w.heap.size + 1, 0, none⟩) (by show w.heap.size ≤ w.heap.size + 1; omega) (.slice none 0 0)
    have hfe := (Ents.nil _).box ko (.slice none 0 0)
    have co := fun i => ko.cell i
    have fo := fun i => ko.free i
    go_wp2_with fail
    have hcc := fun i => (ko.set_ 0 (.slice none 0 0)).cell i
    refine bodyPost_ret (v := .tuple #[.agg #[.slice none 0 0], .int .i64 1]) (by simp [results, Tryz.results31, go_sem, hcc]) rfl ⟨_, _, rfl, hfe, hbf⟩
  · rw [hok, show chkN true = 0 from rfl] at HC
    rw [hok] at hR
    replace HC := Lib.hid HC
    clear hok
    have HH := fun w => home17_any sq ht tm s k d f g n w zs zd
    cases hh : homeB s d
    · rw [hh] at HH hR
      have hR' : moveL E (escB s) f d n = (x, L) := hR
      replace HH := Lib.hid HH
      have C := fun w hv kd kp => cf2_any v E sq ht tm s k d f g n dn bd bp bn w hv hs hl zs zk zd zf zg hn kd kp
      rw [hR'] at C
      replace C := Lib.hid C
      clear hh hR hR'
      go_enter Tryz.func31, Tryz.ntmps31
      go_wp2_with fail
      refine (HC.out _).mono ?_
      rintro e w1 ⟨rfl, hb1⟩
      clear HC cq
      replace kq := kq.on hb1
      replace ko := ko.on hb1
      replace km := km.on hb1
      replace kd := kd.on hb1
      replace kp := kp.on hb1
      replace hv0 := Lib.hid (hv0.out.on hb1)
      replace hb0 := BW_on hb0 hb1
      have cq := fun i => kq.cell i
      go_wp2_with fail
      refine (HH.out _).mono ?_
      rintro e w2 ⟨rfl, hb2⟩
      clear HH cq hb1
      replace kq := kq.on hb2
      replace ko := ko.on hb2
      replace km := km.on hb2
      replace kd := kd.on hb2
      replace kp := kp.on hb2
      replace hv0 := Lib.hid (hv0.out.on hb2)
      replace hb0 := BW_on hb0 hb2
      have cm := fun i => km.cell i
      go_wp2_with fail
      refine (C.out _ hv0.out kd kp).mono ?_
      rintro e w3 ⟨q3, c3, rfl, hen, hb3⟩
      clear C cm hb2
      replace ko := ko.on hb3
      replace hb0 := BW_on hb0 hb3
      have hbf := (hb0).setCell (p := ⟨w.heap.size + 1, 0, none⟩) (by show w.heap.size ≤ w.heap.size + 1; omega) (.slice q3 L.length c3)
      have hfe := (hen).box ko (.slice q3 L.length c3)
      have co := fun i => ko.cell i
      have fo := fun i => ko.free i
      go_wp2_with fail
      have hcc := fun i => (ko.set_ 0 (.slice q3 L.length c3)).cell i
      refine bodyPost_ret (v := .tuple #[.agg #[.slice q3 L.length c3], .int .i64 x]) (by simp [results, Tryz.results31, go_sem, hcc]) rfl ⟨_, _, rfl, hfe, hbf⟩
    · rw [hh] at HH hR
      have hR' : mintL E f d n = (x, L) := hR
      replace HH := Lib.hid HH
      have C := fun w hv kd => cf1_any v E sq ht tm s k d f g n dn bd bp bn w hv hs hl zs zk zd zf zg hn kd
      rw [hR'] at C
      replace C := Lib.hid C
      clear hh hR hR'
      go_enter Tryz.func31, Tryz.ntmps31
      go_wp2_with fail
      refine (HC.out _).mono ?_
      rintro e w1 ⟨rfl, hb1⟩
      clear HC cq
      replace kq := kq.on hb1
      replace ko := ko.on hb1
      replace km := km.on hb1
      replace kd := kd.on hb1
      replace kp := kp.on hb1
      replace hv0 := Lib.hid (hv0.out.on hb1)
      replace hb0 := BW_on hb0 hb1
      have cq := fun i => kq.cell i
      go_wp2_with fail
      refine (HH.out _).mono ?_
      rintro e w2 ⟨rfl, hb2⟩
      clear HH cq hb1
      replace kq := kq.on hb2
      replace ko := ko.on hb2
      replace km := km.on hb2
      replace kd := kd.on hb2
      replace kp := kp.on hb2
      replace hv0 := Lib.hid (hv0.out.on hb2)
      replace hb0 := BW_on hb0 hb2
      have cm := fun i => km.cell i
      go_wp2_with fail
      refine (C.out _ hv0.out kd).mono ?_
      rintro e w3 ⟨q3, c3, rfl, hen, hb3⟩
      clear C cm hb2
      replace ko := ko.on hb3
      replace hb0 := BW_on hb0 hb3
      have hbf := (hb0).setCell (p := ⟨w.heap.size + 1, 0, none⟩) (by show w.heap.size ≤ w.heap.size + 1; omega) (.slice q3 L.length c3)
      have hfe := (hen).box ko (.slice q3 L.length c3)
      have co := fun i => ko.cell i
      have fo := fun i => ko.free i
      go_wp2_with fail
      have hcc := fun i => (ko.set_ 0 (.slice q3 L.length c3)).cell i
      refine bodyPost_ret (v := .tuple #[.agg #[.slice q3 L.length c3], .int .i64 x]) (by simp [results, Tryz.results31, go_sem, hcc]) rfl ⟨_, _, rfl, hfe, hbf⟩
set_option maxHeartbeats 16000000 in
set_option maxRecDepth 100000 in
theorem send_any (v : Value) (E : List Ent) (sq ht tm : Int) (s k d f g : ByteArray) (n : Nat) (w : World) (hv : Ents w v E) (hs : Srt E) (hl : E.length ≤ 1800) (zs : s.size ≤ 1000000) (zk : k.size ≤ 1000000) (zd : d.size ≤ 1000000) (zf : f.size ≤ 1000000) (zg : g.size ≤ 1000000) (hn : W256 n) : Calls Tryz.prog 10 #[.agg #[v], .agg #[.int .i64 sq, .string s, .string k, .string d, .int .u64 (limb n 0), .int .u64 (limb n 1), .int .u64 (limb n 2), .int .u64 (limb n 3), .string f, .string g, .int .i64 ht, .int .i64 tm]] w (Res17 (sendL E sq ht tm s k d f g n) w) := by
  obtain ⟨q, cap, rfl⟩ := hv.len
  rcases hR : sendL E sq ht tm s k d f g n with ⟨x, L⟩
  have hb0 := BW_alloc (BW_alloc (BW_alloc (BW_refl w) (.cells #[.slice q E.length cap] 27)) (.cells #[.int .i64 sq, .string s, .string k, .string d, .int .u64 (limb n 0), .int .u64 (limb n 1), .int .u64 (limb n 2), .int .u64 (limb n 3), .string f, .string g, .int .i64 ht, .int .i64 tm] 35)) (.cells #[.slice none 0 0] 27)
  have kd := ((blk1 w 27 #[.slice q E.length cap]).alloc (.cells #[.int .i64 sq, .string s, .string k, .string d, .int .u64 (limb n 0), .int .u64 (limb n 1), .int .u64 (limb n 2), .int .u64 (limb n 3), .string f, .string g, .int .i64 ht, .int .i64 tm] 35)).alloc (.cells #[.slice none 0 0] 27)
  have kp := (blk2 w (.cells #[.slice q E.length cap] 27) 35 #[.int .i64 sq, .string s, .string k, .string d, .int .u64 (limb n 0), .int .u64 (limb n 1), .int .u64 (limb n 2), .int .u64 (limb n 3), .string f, .string g, .int .i64 ht, .int .i64 tm]).alloc (.cells #[.slice none 0 0] 27)
  have ko := blk3 w (.cells #[.slice q E.length cap] 27) (.cells #[.int .i64 sq, .string s, .string k, .string d, .int .u64 (limb n 0), .int .u64 (limb n 1), .int .u64 (limb n 2), .int .u64 (limb n 3), .string f, .string g, .int .i64 ht, .int .i64 tm] 35) 27 #[.slice none 0 0]
  have hv0 := Lib.hid (hv.on hb0)
  clear hv
  have cp := fun i => kp.cell i
  have C := fun w bd bp hv kd kp => dsend_any (.slice q E.length cap) E sq ht tm s k d f g n ⟨#[]⟩ bd bp 0 w hv hs hl zs zk zd zf zg hn kd kp
  rw [show sel17 (okP sq ht tm (bysN s) (bysN k) (bysN d) (bysN f) (bysN g) n) (homeB s d) (burnL E f d n) (moveL E f (escB s) d n) = (x, L) from hR] at C
  replace C := Lib.hid C
  clear hR
  go_enter Tryz.func10, Tryz.ntmps10
  go_wp2_with fail
  refine (C.out _ _ _ hv0.out kd kp).mono ?_
  rintro e w1 ⟨q3, c3, rfl, hen, hb1⟩
  clear C cp
  replace ko := ko.on hb1
  replace hb0 := BW_on hb0 hb1
  have hbf := (hb0).setCell (p := ⟨w.heap.size + 1 + 1, 0, none⟩) (by show w.heap.size ≤ w.heap.size + 1 + 1; omega) (.slice q3 L.length c3)
  have hfe := (hen).box ko (.slice q3 L.length c3)
  have co := fun i => ko.cell i
  have fo := fun i => ko.free i
  go_wp2_with fail
  have hcc := fun i => (ko.set_ 0 (.slice q3 L.length c3)).cell i
  refine bodyPost_ret (v := .tuple #[.agg #[.slice q3 L.length c3], .int .i64 x]) (by simp [results, Tryz.results10, go_sem, hcc]) rfl ⟨_, _, rfl, hfe, hbf⟩
set_option maxHeartbeats 16000000 in
set_option maxRecDepth 100000 in
theorem recv_any (v : Value) (E : List Ent) (sq ht tm : Int) (s k d f g : ByteArray) (n : Nat) (w : World) (hv : Ents w v E) (hs : Srt E) (hl : E.length ≤ 1800) (zs : s.size ≤ 1000000) (zk : k.size ≤ 400000) (zd : d.size ≤ 400000) (zf : f.size ≤ 1000000) (zg : g.size ≤ 1000000) (hn : W256 n) : Calls Tryz.prog 12 #[.agg #[v], .agg #[.int .i64 sq, .string s, .string k, .string d, .int .u64 (limb n 0), .int .u64 (limb n 1), .int .u64 (limb n 2), .int .u64 (limb n 3), .string f, .string g, .int .i64 ht, .int .i64 tm]] w (Res17 (recvL E sq ht tm s k d f g n) w) := by
  obtain ⟨q, cap, rfl⟩ := hv.len
  rcases hR : recvL E sq ht tm s k d f g n with ⟨x, L⟩
  have hb0 := BW_alloc (BW_alloc (BW_alloc (BW_refl w) (.cells #[.slice q E.length cap] 27)) (.cells #[.int .i64 sq, .string s, .string k, .string d, .int .u64 (limb n 0), .int .u64 (limb n 1), .int .u64 (limb n 2), .int .u64 (limb n 3), .string f, .string g, .int .i64 ht, .int .i64 tm] 35)) (.cells #[.slice none 0 0] 27)
  have kd := ((blk1 w 27 #[.slice q E.length cap]).alloc (.cells #[.int .i64 sq, .string s, .string k, .string d, .int .u64 (limb n 0), .int .u64 (limb n 1), .int .u64 (limb n 2), .int .u64 (limb n 3), .string f, .string g, .int .i64 ht, .int .i64 tm] 35)).alloc (.cells #[.slice none 0 0] 27)
  have kp := (blk2 w (.cells #[.slice q E.length cap] 27) 35 #[.int .i64 sq, .string s, .string k, .string d, .int .u64 (limb n 0), .int .u64 (limb n 1), .int .u64 (limb n 2), .int .u64 (limb n 3), .string f, .string g, .int .i64 ht, .int .i64 tm]).alloc (.cells #[.slice none 0 0] 27)
  have ko := blk3 w (.cells #[.slice q E.length cap] 27) (.cells #[.int .i64 sq, .string s, .string k, .string d, .int .u64 (limb n 0), .int .u64 (limb n 1), .int .u64 (limb n 2), .int .u64 (limb n 3), .string f, .string g, .int .i64 ht, .int .i64 tm] 35) 27 #[.slice none 0 0]
  have hv0 := Lib.hid (hv.on hb0)
  clear hv
  have cp := fun i => kp.cell i
  have za := arr_size s k d
  have HA := Lib.hid (fun w => arr17_any sq ht tm s k d f g n w zs (by omega) (by omega))
  have HK := fun w h => check_any (arrB s k d) w h
  have C := fun w bd bp bn hv kd kp kn => drecv_any (.slice q E.length cap) E sq ht tm s k d f g n (arrB s k d) bd bp bn w hv hs hl zs (by omega) (by omega) zf zg hn kd kp kn
  generalize hdn : arrB s k d = dn at *
  have hR2 : (if okDen (bysN dn) = true then sel17 (okP sq ht tm (bysN s) (bysN k) (bysN d) (bysN f) (bysN g) n) (homeB s d) (moveL E (escB k) g dn n) (mintL E g dn n) else (1, [])) = (x, L) := by rw [← hdn]; exact hR
  clear hR
  have Hdn := Lib.hid hdn
  clear hdn
  have zdn : dn.size ≤ 1000000 := by omega
  have HK := fun w => HK w (by omega)
  cases ho : okDen (bysN dn)
  · rw [ho] at HK hR2
    obtain ⟨rfl, rfl⟩ := Prod.mk.inj (show (1, []) = (x, L) from hR2)
    replace HK := Lib.hid HK
    clear ho hR2 C
    go_enter Tryz.func12, Tryz.ntmps12
    go_wp2_with fail
    refine (HA.out _).mono ?_
    rintro e w1 ⟨rfl, hb1⟩
    clear HA cp
    replace kd := kd.on hb1
    replace kp := kp.on hb1
    replace ko := ko.on hb1
    replace hv0 := Lib.hid (hv0.out.on hb1)
    replace hb0 := BW_on hb0 hb1
    have kn := blk1 w1 9 #[.string dn]
    replace kd := kd.on (BW_alloc (BW_refl _) (.cells #[.string dn] 9))
    replace kp := kp.on (BW_alloc (BW_refl _) (.cells #[.string dn] 9))
    replace ko := ko.on (BW_alloc (BW_refl _) (.cells #[.string dn] 9))
    replace hv0 := Lib.hid (hv0.out.on (BW_alloc (BW_refl _) (.cells #[.string dn] 9)))
    replace hb0 := BW_on hb0 (BW_alloc (BW_refl _) (.cells #[.string dn] 9))
    have cn := fun i => kn.cell i
    go_wp2_with fail
    refine (HK.out _).mono ?_
    rintro e w2 ⟨rfl, hb2⟩
    clear HK cn
    replace kd := kd.on hb2
    replace kp := kp.on hb2
    replace ko := ko.on hb2
    replace kn := kn.on hb2
    replace hv0 := Lib.hid (hv0.out.on hb2)
    replace hb0 := BW_on hb0 hb2
    have hbf := (hb0).setCell (p := ⟨w.heap.size + 1 + 1, 0, none⟩) (by show w.heap.size ≤ w.heap.size + 1 + 1; omega) (.slice none 0 0)
    have hfe := (Ents.nil _).box ko (.slice none 0 0)
    have co := fun i => ko.cell i
    have fo := fun i => ko.free i
    go_wp2_with fail
    have hcc := fun i => (ko.set_ 0 (.slice none 0 0)).cell i
    refine bodyPost_ret (v := .tuple #[.agg #[.slice none 0 0], .int .i64 1]) (by simp [results, Tryz.results12, go_sem, hcc]) rfl ⟨_, _, rfl, hfe, hbf⟩
  · rw [ho] at HK hR2
    rw [show sel17 (okP sq ht tm (bysN s) (bysN k) (bysN d) (bysN f) (bysN g) n) (homeB s d) (moveL E (escB k) g dn n) (mintL E g dn n) = (x, L) from hR2] at C
    replace HK := Lib.hid HK
    replace C := Lib.hid C
    clear ho hR2
    go_enter Tryz.func12, Tryz.ntmps12
    go_wp2_with fail
    refine (HA.out _).mono ?_
    rintro e w1 ⟨rfl, hb1⟩
    clear HA cp
    replace kd := kd.on hb1
    replace kp := kp.on hb1
    replace ko := ko.on hb1
    replace hv0 := Lib.hid (hv0.out.on hb1)
    replace hb0 := BW_on hb0 hb1
    have kn := blk1 w1 9 #[.string dn]
    replace kd := kd.on (BW_alloc (BW_refl _) (.cells #[.string dn] 9))
    replace kp := kp.on (BW_alloc (BW_refl _) (.cells #[.string dn] 9))
    replace ko := ko.on (BW_alloc (BW_refl _) (.cells #[.string dn] 9))
    replace hv0 := Lib.hid (hv0.out.on (BW_alloc (BW_refl _) (.cells #[.string dn] 9)))
    replace hb0 := BW_on hb0 (BW_alloc (BW_refl _) (.cells #[.string dn] 9))
    have cn := fun i => kn.cell i
    go_wp2_with fail
    refine (HK.out _).mono ?_
    rintro e w2 ⟨rfl, hb2⟩
    clear HK cn
    replace kd := kd.on hb2
    replace kp := kp.on hb2
    replace ko := ko.on hb2
    replace kn := kn.on hb2
    replace hv0 := Lib.hid (hv0.out.on hb2)
    replace hb0 := BW_on hb0 hb2
    have cp := fun i => kp.cell i
    go_wp2_with fail
    refine (C.out _ _ _ _ hv0.out kd kp kn).mono ?_
    rintro e w3 ⟨q3, c3, rfl, hen, hb3⟩
    clear C cp
    replace ko := ko.on hb3
    replace hb0 := BW_on hb0 hb3
    have hbf := (hb0).setCell (p := ⟨w.heap.size + 1 + 1, 0, none⟩) (by show w.heap.size ≤ w.heap.size + 1 + 1; omega) (.slice q3 L.length c3)
    have hfe := (hen).box ko (.slice q3 L.length c3)
    have co := fun i => ko.cell i
    have fo := fun i => ko.free i
    go_wp2_with fail
    have hcc := fun i => (ko.set_ 0 (.slice q3 L.length c3)).cell i
    refine bodyPost_ret (v := .tuple #[.agg #[.slice q3 L.length c3], .int .i64 x]) (by simp [results, Tryz.results12, go_sem, hcc]) rfl ⟨_, _, rfl, hfe, hbf⟩
set_option maxHeartbeats 16000000 in
set_option maxRecDepth 100000 in
theorem refund_any (v : Value) (E : List Ent) (sq ht tm : Int) (s k d f g : ByteArray) (n : Nat) (w : World) (hv : Ents w v E) (hs : Srt E) (hl : E.length ≤ 1800) (zs : s.size ≤ 1000000) (zk : k.size ≤ 1000000) (zd : d.size ≤ 1000000) (zf : f.size ≤ 1000000) (zg : g.size ≤ 1000000) (hn : W256 n) : Calls Tryz.prog 14 #[.agg #[v], .agg #[.int .i64 sq, .string s, .string k, .string d, .int .u64 (limb n 0), .int .u64 (limb n 1), .int .u64 (limb n 2), .int .u64 (limb n 3), .string f, .string g, .int .i64 ht, .int .i64 tm]] w (Res17 (refundL E sq ht tm s k d f g n) w) := by
  obtain ⟨q, cap, rfl⟩ := hv.len
  rcases hR : refundL E sq ht tm s k d f g n with ⟨x, L⟩
  have hb0 := BW_alloc (BW_alloc (BW_alloc (BW_refl w) (.cells #[.slice q E.length cap] 27)) (.cells #[.int .i64 sq, .string s, .string k, .string d, .int .u64 (limb n 0), .int .u64 (limb n 1), .int .u64 (limb n 2), .int .u64 (limb n 3), .string f, .string g, .int .i64 ht, .int .i64 tm] 35)) (.cells #[.slice none 0 0] 27)
  have kd := ((blk1 w 27 #[.slice q E.length cap]).alloc (.cells #[.int .i64 sq, .string s, .string k, .string d, .int .u64 (limb n 0), .int .u64 (limb n 1), .int .u64 (limb n 2), .int .u64 (limb n 3), .string f, .string g, .int .i64 ht, .int .i64 tm] 35)).alloc (.cells #[.slice none 0 0] 27)
  have kp := (blk2 w (.cells #[.slice q E.length cap] 27) 35 #[.int .i64 sq, .string s, .string k, .string d, .int .u64 (limb n 0), .int .u64 (limb n 1), .int .u64 (limb n 2), .int .u64 (limb n 3), .string f, .string g, .int .i64 ht, .int .i64 tm]).alloc (.cells #[.slice none 0 0] 27)
  have ko := blk3 w (.cells #[.slice q E.length cap] 27) (.cells #[.int .i64 sq, .string s, .string k, .string d, .int .u64 (limb n 0), .int .u64 (limb n 1), .int .u64 (limb n 2), .int .u64 (limb n 3), .string f, .string g, .int .i64 ht, .int .i64 tm] 35) 27 #[.slice none 0 0]
  have hv0 := Lib.hid (hv.on hb0)
  clear hv
  have cp := fun i => kp.cell i
  have C := fun w bd bp hv kd kp => drefund_any (.slice q E.length cap) E sq ht tm s k d f g n ⟨#[]⟩ bd bp 0 w hv hs hl zs zk zd zf zg hn kd kp
  rw [show sel17 (okP sq ht tm (bysN s) (bysN k) (bysN d) (bysN f) (bysN g) n) (homeB s d) (mintL E f d n) (moveL E (escB s) f d n) = (x, L) from hR] at C
  replace C := Lib.hid C
  clear hR
  go_enter Tryz.func14, Tryz.ntmps14
  go_wp2_with fail
  refine (C.out _ _ _ hv0.out kd kp).mono ?_
  rintro e w1 ⟨q3, c3, rfl, hen, hb1⟩
  clear C cp
  replace ko := ko.on hb1
  replace hb0 := BW_on hb0 hb1
  have hbf := (hb0).setCell (p := ⟨w.heap.size + 1 + 1, 0, none⟩) (by show w.heap.size ≤ w.heap.size + 1 + 1; omega) (.slice q3 L.length c3)
  have hfe := (hen).box ko (.slice q3 L.length c3)
  have co := fun i => ko.cell i
  have fo := fun i => ko.free i
  go_wp2_with fail
  have hcc := fun i => (ko.set_ 0 (.slice q3 L.length c3)).cell i
  refine bodyPost_ret (v := .tuple #[.agg #[.slice q3 L.length c3], .int .i64 x]) (by simp [results, Tryz.results14, go_sem, hcc]) rfl ⟨_, _, rfl, hfe, hbf⟩
end Go.Proofs.YtpcdgljcpacpiaaGreatDoor
